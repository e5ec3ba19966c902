/- The types of the program as facts: cells, fields, elements, zero values. No statement of the seat is proved here. -/
import Derived.Test.YtjjeihcmiofkmaaProg
import Derived.Test.YtjjeihcmiofkmaaAbsN
namespace Go.Proofs.Ytjjeihcmiofkmaa.Abs
open R (val row ref)
theorem ty0 : tyOf Go.Proofs.Try.prog 0 = some (false, 1) := by kernel_rfl
theorem ty1 : tyOf Go.Proofs.Try.prog 1 = some (false, 1) := by kernel_rfl
theorem z1 : zcOf Go.Proofs.Try.prog 1 = some [.r true (val (.nilFunc))] := by kernel_rfl
theorem zp1 : zpOf Go.Proofs.Try.prog 1 = some (.one (val (.nilFunc))) := by kernel_rfl
theorem ty2 : tyOf Go.Proofs.Try.prog 2 = some (false, 1) := by kernel_rfl
theorem z2 : zcOf Go.Proofs.Try.prog 2 = some [.r true (val (.int .i64 0))] := by kernel_rfl
theorem zp2 : zpOf Go.Proofs.Try.prog 2 = some (.one (val (.int .i64 0))) := by kernel_rfl
theorem ty3 : tyOf Go.Proofs.Try.prog 3 = some (false, 1) := by kernel_rfl
theorem z3 : zcOf Go.Proofs.Try.prog 3 = some [.r true (val (.int .i64 0))] := by kernel_rfl
theorem zp3 : zpOf Go.Proofs.Try.prog 3 = some (.one (val (.int .i64 0))) := by kernel_rfl
theorem ty4 : tyOf Go.Proofs.Try.prog 4 = some (false, 1) := by kernel_rfl
theorem bo4 : Go.Proofs.Try.prog.underlying 4 = some .bool := by kernel_rfl
theorem ty5 : tyOf Go.Proofs.Try.prog 5 = some (false, 1) := by kernel_rfl
theorem z5 : zcOf Go.Proofs.Try.prog 5 = some [.r true (val (.int .u8 0))] := by kernel_rfl
theorem zp5 : zpOf Go.Proofs.Try.prog 5 = some (.one (val (.int .u8 0))) := by kernel_rfl
theorem ty6 : tyOf Go.Proofs.Try.prog 6 = some (false, 1) := by kernel_rfl
theorem z6 : zcOf Go.Proofs.Try.prog 6 = some [.r true (val (.int .u8 0))] := by kernel_rfl
theorem zp6 : zpOf Go.Proofs.Try.prog 6 = some (.one (val (.int .u8 0))) := by kernel_rfl
theorem ty7 : tyOf Go.Proofs.Try.prog 7 = some (true, 4) := by kernel_rfl
theorem fl7_0 : fldOf Go.Proofs.Try.prog 7 0 = some (0, 2) := by kernel_rfl
theorem fl7_1 : fldOf Go.Proofs.Try.prog 7 1 = some (1, 3) := by kernel_rfl
theorem fl7_2 : fldOf Go.Proofs.Try.prog 7 2 = some (2, 4) := by kernel_rfl
theorem fl7_3 : fldOf Go.Proofs.Try.prog 7 3 = some (3, 6) := by kernel_rfl
theorem bl7 : bldOf Go.Proofs.Try.prog 7 = some [(0, 1), (1, 1), (2, 1), (3, 1)] := by kernel_rfl
theorem ty8 : tyOf Go.Proofs.Try.prog 8 = some (true, 4) := by kernel_rfl
theorem fl8_0 : fldOf Go.Proofs.Try.prog 8 0 = some (0, 2) := by kernel_rfl
theorem fl8_1 : fldOf Go.Proofs.Try.prog 8 1 = some (1, 3) := by kernel_rfl
theorem fl8_2 : fldOf Go.Proofs.Try.prog 8 2 = some (2, 4) := by kernel_rfl
theorem fl8_3 : fldOf Go.Proofs.Try.prog 8 3 = some (3, 6) := by kernel_rfl
theorem bl8 : bldOf Go.Proofs.Try.prog 8 = some [(0, 1), (1, 1), (2, 1), (3, 1)] := by kernel_rfl
theorem ty9 : tyOf Go.Proofs.Try.prog 9 = some (false, 1) := by kernel_rfl
theorem z9 : zcOf Go.Proofs.Try.prog 9 = some [.r true (val (.string ⟨#[]⟩))] := by kernel_rfl
theorem zp9 : zpOf Go.Proofs.Try.prog 9 = some (.one (val (.string ⟨#[]⟩))) := by kernel_rfl
theorem ty10 : tyOf Go.Proofs.Try.prog 10 = some (false, 1) := by kernel_rfl
theorem z10 : zcOf Go.Proofs.Try.prog 10 = some [.r true (val (.string ⟨#[]⟩))] := by kernel_rfl
theorem zp10 : zpOf Go.Proofs.Try.prog 10 = some (.one (val (.string ⟨#[]⟩))) := by kernel_rfl
theorem ty11 : tyOf Go.Proofs.Try.prog 11 = some (false, 1) := by kernel_rfl
theorem z11 : zcOf Go.Proofs.Try.prog 11 = some [.r true (val (.string ⟨#[]⟩))] := by kernel_rfl
theorem zp11 : zpOf Go.Proofs.Try.prog 11 = some (.one (val (.string ⟨#[]⟩))) := by kernel_rfl
theorem ty12 : tyOf Go.Proofs.Try.prog 12 = some (false, 1) := by kernel_rfl
theorem z12 : zcOf Go.Proofs.Try.prog 12 = some [.r true (val (.int .u64 0))] := by kernel_rfl
theorem zp12 : zpOf Go.Proofs.Try.prog 12 = some (.one (val (.int .u64 0))) := by kernel_rfl
theorem ty13 : tyOf Go.Proofs.Try.prog 13 = some (true, 2) := by kernel_rfl
theorem fl13_0 : fldOf Go.Proofs.Try.prog 13 0 = some (0, 9) := by kernel_rfl
theorem fl13_1 : fldOf Go.Proofs.Try.prog 13 1 = some (1, 12) := by kernel_rfl
theorem z13 : zcOf Go.Proofs.Try.prog 13 = some [.r true (val (.string ⟨#[]⟩)), .r true (val (.int .u64 0))] := by kernel_rfl
theorem zp13 : zpOf Go.Proofs.Try.prog 13 = some (.agg [val (.string ⟨#[]⟩), val (.int .u64 0)]) := by kernel_rfl
theorem bl13 : bldOf Go.Proofs.Try.prog 13 = some [(0, 1), (1, 1)] := by kernel_rfl
theorem ty14 : tyOf Go.Proofs.Try.prog 14 = some (true, 2) := by kernel_rfl
theorem fl14_0 : fldOf Go.Proofs.Try.prog 14 0 = some (0, 9) := by kernel_rfl
theorem fl14_1 : fldOf Go.Proofs.Try.prog 14 1 = some (1, 12) := by kernel_rfl
theorem z14 : zcOf Go.Proofs.Try.prog 14 = some [.r true (val (.string ⟨#[]⟩)), .r true (val (.int .u64 0))] := by kernel_rfl
theorem zp14 : zpOf Go.Proofs.Try.prog 14 = some (.agg [val (.string ⟨#[]⟩), val (.int .u64 0)]) := by kernel_rfl
theorem bl14 : bldOf Go.Proofs.Try.prog 14 = some [(0, 1), (1, 1)] := by kernel_rfl
theorem ty15 : tyOf Go.Proofs.Try.prog 15 = some (false, 1) := by kernel_rfl
theorem z15 : zcOf Go.Proofs.Try.prog 15 = some [.r true (val (.pointer none))] := by kernel_rfl
theorem zp15 : zpOf Go.Proofs.Try.prog 15 = some (.one (val (.pointer none))) := by kernel_rfl
theorem ty16 : tyOf Go.Proofs.Try.prog 16 = some (false, 1) := by kernel_rfl
theorem z16 : zcOf Go.Proofs.Try.prog 16 = some [.r true (val (.pointer none))] := by kernel_rfl
theorem zp16 : zpOf Go.Proofs.Try.prog 16 = some (.one (val (.pointer none))) := by kernel_rfl
theorem ty17 : tyOf Go.Proofs.Try.prog 17 = some (false, 1) := by kernel_rfl
theorem z17 : zcOf Go.Proofs.Try.prog 17 = some [.r true (val (.pointer none))] := by kernel_rfl
theorem zp17 : zpOf Go.Proofs.Try.prog 17 = some (.one (val (.pointer none))) := by kernel_rfl
theorem ty18 : tyOf Go.Proofs.Try.prog 18 = some (true, 1) := by kernel_rfl
theorem fl18_0 : fldOf Go.Proofs.Try.prog 18 0 = some (0, 17) := by kernel_rfl
theorem z18 : zcOf Go.Proofs.Try.prog 18 = some [.r true (val (.pointer none))] := by kernel_rfl
theorem zp18 : zpOf Go.Proofs.Try.prog 18 = some (.agg [val (.pointer none)]) := by kernel_rfl
theorem bl18 : bldOf Go.Proofs.Try.prog 18 = some [(0, 1)] := by kernel_rfl
theorem ty19 : tyOf Go.Proofs.Try.prog 19 = some (true, 1) := by kernel_rfl
theorem fl19_0 : fldOf Go.Proofs.Try.prog 19 0 = some (0, 17) := by kernel_rfl
theorem z19 : zcOf Go.Proofs.Try.prog 19 = some [.r true (val (.pointer none))] := by kernel_rfl
theorem zp19 : zpOf Go.Proofs.Try.prog 19 = some (.agg [val (.pointer none)]) := by kernel_rfl
theorem bl19 : bldOf Go.Proofs.Try.prog 19 = some [(0, 1)] := by kernel_rfl
theorem ty20 : tyOf Go.Proofs.Try.prog 20 = some (false, 1) := by kernel_rfl
theorem z20 : zcOf Go.Proofs.Try.prog 20 = some [.r true (val (.nilIface))] := by kernel_rfl
theorem zp20 : zpOf Go.Proofs.Try.prog 20 = some (.one (val (.nilIface))) := by kernel_rfl
theorem ty21 : tyOf Go.Proofs.Try.prog 21 = some (false, 1) := by kernel_rfl
theorem z21 : zcOf Go.Proofs.Try.prog 21 = some [.r true (val (.int .i32 0))] := by kernel_rfl
theorem zp21 : zpOf Go.Proofs.Try.prog 21 = some (.one (val (.int .i32 0))) := by kernel_rfl
theorem ty22 : tyOf Go.Proofs.Try.prog 22 = some (false, 1) := by kernel_rfl
theorem sl22 : slOf Go.Proofs.Try.prog 22 = some (5, 1) := by kernel_rfl
theorem z22 : zcOf Go.Proofs.Try.prog 22 = some [.r true (row true 0 [])] := by kernel_rfl
theorem el22 : elOf Go.Proofs.Try.prog 22 = some (5, 1, 1) := by kernel_rfl
theorem zp22 : zpOf Go.Proofs.Try.prog 22 = some (.one (row true 0 [])) := by kernel_rfl
theorem ty23 : tyOf Go.Proofs.Try.prog 23 = some (false, 1) := by kernel_rfl
theorem sl23 : slOf Go.Proofs.Try.prog 23 = some (25, 1) := by kernel_rfl
theorem z23 : zcOf Go.Proofs.Try.prog 23 = some [.r true (row true 0 [])] := by kernel_rfl
theorem el23 : elOf Go.Proofs.Try.prog 23 = some (25, 1, 24) := by kernel_rfl
theorem zp23 : zpOf Go.Proofs.Try.prog 23 = some (.one (row true 0 [])) := by kernel_rfl
theorem ty24 : tyOf Go.Proofs.Try.prog 24 = some (false, 1) := by kernel_rfl
theorem z24 : zcOf Go.Proofs.Try.prog 24 = some [.r true (val (.nilFunc))] := by kernel_rfl
theorem zp24 : zpOf Go.Proofs.Try.prog 24 = some (.one (val (.nilFunc))) := by kernel_rfl
theorem ty25 : tyOf Go.Proofs.Try.prog 25 = some (false, 1) := by kernel_rfl
theorem sl25 : slOf Go.Proofs.Try.prog 25 = some (3, 1) := by kernel_rfl
theorem z25 : zcOf Go.Proofs.Try.prog 25 = some [.r true (row true 0 [])] := by kernel_rfl
theorem el25 : elOf Go.Proofs.Try.prog 25 = some (3, 1, 8) := by kernel_rfl
theorem zp25 : zpOf Go.Proofs.Try.prog 25 = some (.one (row true 0 [])) := by kernel_rfl
theorem ty26 : tyOf Go.Proofs.Try.prog 26 = some (false, 1) := by kernel_rfl
theorem ty27 : tyOf Go.Proofs.Try.prog 27 = some (false, 1) := by kernel_rfl
theorem z27 : zcOf Go.Proofs.Try.prog 27 = some [.r true (val (.nilFunc))] := by kernel_rfl
theorem zp27 : zpOf Go.Proofs.Try.prog 27 = some (.one (val (.nilFunc))) := by kernel_rfl
theorem ty28 : tyOf Go.Proofs.Try.prog 28 = some (false, 1) := by kernel_rfl
theorem z28 : zcOf Go.Proofs.Try.prog 28 = some [.r true (val (.nilFunc))] := by kernel_rfl
theorem zp28 : zpOf Go.Proofs.Try.prog 28 = some (.one (val (.nilFunc))) := by kernel_rfl
theorem ty29 : tyOf Go.Proofs.Try.prog 29 = some (false, 1) := by kernel_rfl
theorem z29 : zcOf Go.Proofs.Try.prog 29 = some [.r true (val (.nilFunc))] := by kernel_rfl
theorem zp29 : zpOf Go.Proofs.Try.prog 29 = some (.one (val (.nilFunc))) := by kernel_rfl
theorem ty30 : tyOf Go.Proofs.Try.prog 30 = some (true, 2) := by kernel_rfl
theorem fl30_0 : fldOf Go.Proofs.Try.prog 30 0 = some (0, 25) := by kernel_rfl
theorem fl30_1 : fldOf Go.Proofs.Try.prog 30 1 = some (1, 25) := by kernel_rfl
theorem z30 : zcOf Go.Proofs.Try.prog 30 = some [.r true (row true 0 []), .r true (row true 0 [])] := by kernel_rfl
theorem zp30 : zpOf Go.Proofs.Try.prog 30 = some (.agg [row true 0 [], row true 0 []]) := by kernel_rfl
theorem bl30 : bldOf Go.Proofs.Try.prog 30 = some [(0, 1), (1, 1)] := by kernel_rfl
theorem ty31 : tyOf Go.Proofs.Try.prog 31 = some (true, 2) := by kernel_rfl
theorem fl31_0 : fldOf Go.Proofs.Try.prog 31 0 = some (0, 25) := by kernel_rfl
theorem fl31_1 : fldOf Go.Proofs.Try.prog 31 1 = some (1, 25) := by kernel_rfl
theorem z31 : zcOf Go.Proofs.Try.prog 31 = some [.r true (row true 0 []), .r true (row true 0 [])] := by kernel_rfl
theorem zp31 : zpOf Go.Proofs.Try.prog 31 = some (.agg [row true 0 [], row true 0 []]) := by kernel_rfl
theorem bl31 : bldOf Go.Proofs.Try.prog 31 = some [(0, 1), (1, 1)] := by kernel_rfl
theorem ty32 : tyOf Go.Proofs.Try.prog 32 = some (false, 1) := by kernel_rfl
theorem ty33 : tyOf Go.Proofs.Try.prog 33 = some (false, 1) := by kernel_rfl
theorem z33 : zcOf Go.Proofs.Try.prog 33 = some [.r true (val (.nilFunc))] := by kernel_rfl
theorem zp33 : zpOf Go.Proofs.Try.prog 33 = some (.one (val (.nilFunc))) := by kernel_rfl
theorem ty34 : tyOf Go.Proofs.Try.prog 34 = some (false, 1) := by kernel_rfl
theorem z34 : zcOf Go.Proofs.Try.prog 34 = some [.r true (val (.nilFunc))] := by kernel_rfl
theorem zp34 : zpOf Go.Proofs.Try.prog 34 = some (.one (val (.nilFunc))) := by kernel_rfl
theorem ty35 : tyOf Go.Proofs.Try.prog 35 = some (false, 1) := by kernel_rfl
theorem z35 : zcOf Go.Proofs.Try.prog 35 = some [.r true (val (.nilFunc))] := by kernel_rfl
theorem zp35 : zpOf Go.Proofs.Try.prog 35 = some (.one (val (.nilFunc))) := by kernel_rfl
theorem ty36 : tyOf Go.Proofs.Try.prog 36 = some (false, 1) := by kernel_rfl
theorem z36 : zcOf Go.Proofs.Try.prog 36 = some [.r true (val (.nilFunc))] := by kernel_rfl
theorem zp36 : zpOf Go.Proofs.Try.prog 36 = some (.one (val (.nilFunc))) := by kernel_rfl
theorem ty37 : tyOf Go.Proofs.Try.prog 37 = some (false, 1) := by kernel_rfl
theorem z37 : zcOf Go.Proofs.Try.prog 37 = some [.r true (val (.nilFunc))] := by kernel_rfl
theorem zp37 : zpOf Go.Proofs.Try.prog 37 = some (.one (val (.nilFunc))) := by kernel_rfl
theorem ty38 : tyOf Go.Proofs.Try.prog 38 = some (false, 1) := by kernel_rfl
theorem sl38 : slOf Go.Proofs.Try.prog 38 = some (71, 2) := by kernel_rfl
theorem z38 : zcOf Go.Proofs.Try.prog 38 = some [.r true (row true 0 [])] := by kernel_rfl
theorem el38 : elOf Go.Proofs.Try.prog 38 = some (71, 2, 16) := by kernel_rfl
theorem zp38 : zpOf Go.Proofs.Try.prog 38 = some (.one (row true 0 [])) := by kernel_rfl
theorem ty39 : tyOf Go.Proofs.Try.prog 39 = some (true, 5) := by kernel_rfl
theorem fl39_0 : fldOf Go.Proofs.Try.prog 39 0 = some (0, 25) := by kernel_rfl
theorem fl39_1 : fldOf Go.Proofs.Try.prog 39 1 = some (1, 3) := by kernel_rfl
theorem fl39_2 : fldOf Go.Proofs.Try.prog 39 2 = some (2, 25) := by kernel_rfl
theorem fl39_3 : fldOf Go.Proofs.Try.prog 39 3 = some (3, 38) := by kernel_rfl
theorem fl39_4 : fldOf Go.Proofs.Try.prog 39 4 = some (4, 25) := by kernel_rfl
theorem z39 : zcOf Go.Proofs.Try.prog 39 = some [.r true (row true 0 []), .r true (val (.int .i64 0)), .r true (row true 0 []), .r true (row true 0 []), .r true (row true 0 [])] := by kernel_rfl
theorem zp39 : zpOf Go.Proofs.Try.prog 39 = some (.agg [row true 0 [], val (.int .i64 0), row true 0 [], row true 0 [], row true 0 []]) := by kernel_rfl
theorem bl39 : bldOf Go.Proofs.Try.prog 39 = some [(0, 1), (1, 1), (2, 1), (3, 1), (4, 1)] := by kernel_rfl
theorem ty40 : tyOf Go.Proofs.Try.prog 40 = some (true, 5) := by kernel_rfl
theorem fl40_0 : fldOf Go.Proofs.Try.prog 40 0 = some (0, 25) := by kernel_rfl
theorem fl40_1 : fldOf Go.Proofs.Try.prog 40 1 = some (1, 3) := by kernel_rfl
theorem fl40_2 : fldOf Go.Proofs.Try.prog 40 2 = some (2, 25) := by kernel_rfl
theorem fl40_3 : fldOf Go.Proofs.Try.prog 40 3 = some (3, 38) := by kernel_rfl
theorem fl40_4 : fldOf Go.Proofs.Try.prog 40 4 = some (4, 25) := by kernel_rfl
theorem z40 : zcOf Go.Proofs.Try.prog 40 = some [.r true (row true 0 []), .r true (val (.int .i64 0)), .r true (row true 0 []), .r true (row true 0 []), .r true (row true 0 [])] := by kernel_rfl
theorem zp40 : zpOf Go.Proofs.Try.prog 40 = some (.agg [row true 0 [], val (.int .i64 0), row true 0 [], row true 0 [], row true 0 []]) := by kernel_rfl
theorem bl40 : bldOf Go.Proofs.Try.prog 40 = some [(0, 1), (1, 1), (2, 1), (3, 1), (4, 1)] := by kernel_rfl
theorem ty41 : tyOf Go.Proofs.Try.prog 41 = some (false, 1) := by kernel_rfl
theorem ty42 : tyOf Go.Proofs.Try.prog 42 = some (false, 1) := by kernel_rfl
theorem z42 : zcOf Go.Proofs.Try.prog 42 = some [.r true (val (.nilFunc))] := by kernel_rfl
theorem zp42 : zpOf Go.Proofs.Try.prog 42 = some (.one (val (.nilFunc))) := by kernel_rfl
theorem ty43 : tyOf Go.Proofs.Try.prog 43 = some (false, 1) := by kernel_rfl
theorem ty44 : tyOf Go.Proofs.Try.prog 44 = some (false, 1) := by kernel_rfl
theorem z44 : zcOf Go.Proofs.Try.prog 44 = some [.r true (val (.nilFunc))] := by kernel_rfl
theorem zp44 : zpOf Go.Proofs.Try.prog 44 = some (.one (val (.nilFunc))) := by kernel_rfl
theorem ty45 : tyOf Go.Proofs.Try.prog 45 = some (false, 1) := by kernel_rfl
theorem z45 : zcOf Go.Proofs.Try.prog 45 = some [.r true (val (.nilFunc))] := by kernel_rfl
theorem zp45 : zpOf Go.Proofs.Try.prog 45 = some (.one (val (.nilFunc))) := by kernel_rfl
theorem ty46 : tyOf Go.Proofs.Try.prog 46 = some (false, 1) := by kernel_rfl
theorem z46 : zcOf Go.Proofs.Try.prog 46 = some [.r true (val (.nilFunc))] := by kernel_rfl
theorem zp46 : zpOf Go.Proofs.Try.prog 46 = some (.one (val (.nilFunc))) := by kernel_rfl
theorem ty47 : tyOf Go.Proofs.Try.prog 47 = some (false, 1) := by kernel_rfl
theorem z47 : zcOf Go.Proofs.Try.prog 47 = some [.r true (val (.nilFunc))] := by kernel_rfl
theorem zp47 : zpOf Go.Proofs.Try.prog 47 = some (.one (val (.nilFunc))) := by kernel_rfl
theorem ty48 : tyOf Go.Proofs.Try.prog 48 = some (false, 1) := by kernel_rfl
theorem z48 : zcOf Go.Proofs.Try.prog 48 = some [.r true (val (.nilFunc))] := by kernel_rfl
theorem zp48 : zpOf Go.Proofs.Try.prog 48 = some (.one (val (.nilFunc))) := by kernel_rfl
theorem ty49 : tyOf Go.Proofs.Try.prog 49 = some (false, 1) := by kernel_rfl
theorem ty50 : tyOf Go.Proofs.Try.prog 50 = some (false, 1) := by kernel_rfl
theorem z50 : zcOf Go.Proofs.Try.prog 50 = some [.r true (val (.nilFunc))] := by kernel_rfl
theorem zp50 : zpOf Go.Proofs.Try.prog 50 = some (.one (val (.nilFunc))) := by kernel_rfl
theorem ty51 : tyOf Go.Proofs.Try.prog 51 = some (false, 1) := by kernel_rfl
theorem z51 : zcOf Go.Proofs.Try.prog 51 = some [.r true (val (.nilFunc))] := by kernel_rfl
theorem zp51 : zpOf Go.Proofs.Try.prog 51 = some (.one (val (.nilFunc))) := by kernel_rfl
theorem ty52 : tyOf Go.Proofs.Try.prog 52 = some (false, 1) := by kernel_rfl
theorem z52 : zcOf Go.Proofs.Try.prog 52 = some [.r true (val (.nilFunc))] := by kernel_rfl
theorem zp52 : zpOf Go.Proofs.Try.prog 52 = some (.one (val (.nilFunc))) := by kernel_rfl
theorem ty53 : tyOf Go.Proofs.Try.prog 53 = some (false, 1) := by kernel_rfl
theorem z53 : zcOf Go.Proofs.Try.prog 53 = some [.r true (val (.nilFunc))] := by kernel_rfl
theorem zp53 : zpOf Go.Proofs.Try.prog 53 = some (.one (val (.nilFunc))) := by kernel_rfl
theorem ty54 : tyOf Go.Proofs.Try.prog 54 = some (false, 1) := by kernel_rfl
theorem z54 : zcOf Go.Proofs.Try.prog 54 = some [.r true (val (.pointer none))] := by kernel_rfl
theorem zp54 : zpOf Go.Proofs.Try.prog 54 = some (.one (val (.pointer none))) := by kernel_rfl
theorem ty55 : tyOf Go.Proofs.Try.prog 55 = some (false, 1) := by kernel_rfl
theorem z55 : zcOf Go.Proofs.Try.prog 55 = some [.r true (val (.nilFunc))] := by kernel_rfl
theorem zp55 : zpOf Go.Proofs.Try.prog 55 = some (.one (val (.nilFunc))) := by kernel_rfl
theorem ty56 : tyOf Go.Proofs.Try.prog 56 = some (false, 1) := by kernel_rfl
theorem z56 : zcOf Go.Proofs.Try.prog 56 = some [.r true (val (.nilFunc))] := by kernel_rfl
theorem zp56 : zpOf Go.Proofs.Try.prog 56 = some (.one (val (.nilFunc))) := by kernel_rfl
theorem ty57 : tyOf Go.Proofs.Try.prog 57 = some (false, 1) := by kernel_rfl
theorem z57 : zcOf Go.Proofs.Try.prog 57 = some [.r true (val (.nilFunc))] := by kernel_rfl
theorem zp57 : zpOf Go.Proofs.Try.prog 57 = some (.one (val (.nilFunc))) := by kernel_rfl
theorem ty58 : tyOf Go.Proofs.Try.prog 58 = some (false, 1) := by kernel_rfl
theorem z58 : zcOf Go.Proofs.Try.prog 58 = some [.r true (val (.nilFunc))] := by kernel_rfl
theorem zp58 : zpOf Go.Proofs.Try.prog 58 = some (.one (val (.nilFunc))) := by kernel_rfl
theorem ty59 : tyOf Go.Proofs.Try.prog 59 = some (false, 1) := by kernel_rfl
theorem z59 : zcOf Go.Proofs.Try.prog 59 = some [.r true (val (.nilFunc))] := by kernel_rfl
theorem zp59 : zpOf Go.Proofs.Try.prog 59 = some (.one (val (.nilFunc))) := by kernel_rfl
theorem ty60 : tyOf Go.Proofs.Try.prog 60 = some (false, 1) := by kernel_rfl
theorem z60 : zcOf Go.Proofs.Try.prog 60 = some [.r true (val (.nilFunc))] := by kernel_rfl
theorem zp60 : zpOf Go.Proofs.Try.prog 60 = some (.one (val (.nilFunc))) := by kernel_rfl
theorem ty61 : tyOf Go.Proofs.Try.prog 61 = some (false, 1) := by kernel_rfl
theorem ty62 : tyOf Go.Proofs.Try.prog 62 = some (false, 1) := by kernel_rfl
theorem z62 : zcOf Go.Proofs.Try.prog 62 = some [.r true (val (.nilFunc))] := by kernel_rfl
theorem zp62 : zpOf Go.Proofs.Try.prog 62 = some (.one (val (.nilFunc))) := by kernel_rfl
theorem ty63 : tyOf Go.Proofs.Try.prog 63 = some (false, 1) := by kernel_rfl
theorem z63 : zcOf Go.Proofs.Try.prog 63 = some [.r true (val (.nilFunc))] := by kernel_rfl
theorem zp63 : zpOf Go.Proofs.Try.prog 63 = some (.one (val (.nilFunc))) := by kernel_rfl
theorem ty64 : tyOf Go.Proofs.Try.prog 64 = some (false, 1) := by kernel_rfl
theorem z64 : zcOf Go.Proofs.Try.prog 64 = some [.r true (val (.nilFunc))] := by kernel_rfl
theorem zp64 : zpOf Go.Proofs.Try.prog 64 = some (.one (val (.nilFunc))) := by kernel_rfl
theorem ty65 : tyOf Go.Proofs.Try.prog 65 = some (false, 1) := by kernel_rfl
theorem z65 : zcOf Go.Proofs.Try.prog 65 = some [.r true (val (.nilFunc))] := by kernel_rfl
theorem zp65 : zpOf Go.Proofs.Try.prog 65 = some (.one (val (.nilFunc))) := by kernel_rfl
theorem ty66 : tyOf Go.Proofs.Try.prog 66 = some (false, 1) := by kernel_rfl
theorem z66 : zcOf Go.Proofs.Try.prog 66 = some [.r true (val (.nilFunc))] := by kernel_rfl
theorem zp66 : zpOf Go.Proofs.Try.prog 66 = some (.one (val (.nilFunc))) := by kernel_rfl
theorem ty67 : tyOf Go.Proofs.Try.prog 67 = some (false, 1) := by kernel_rfl
theorem z67 : zcOf Go.Proofs.Try.prog 67 = some [.r true (val (.nilFunc))] := by kernel_rfl
theorem zp67 : zpOf Go.Proofs.Try.prog 67 = some (.one (val (.nilFunc))) := by kernel_rfl
theorem ty68 : tyOf Go.Proofs.Try.prog 68 = some (false, 1) := by kernel_rfl
theorem z68 : zcOf Go.Proofs.Try.prog 68 = some [.r true (val (.nilFunc))] := by kernel_rfl
theorem zp68 : zpOf Go.Proofs.Try.prog 68 = some (.one (val (.nilFunc))) := by kernel_rfl
theorem ty69 : tyOf Go.Proofs.Try.prog 69 = some (false, 1) := by kernel_rfl
theorem z69 : zcOf Go.Proofs.Try.prog 69 = some [.r true (val (.nilFunc))] := by kernel_rfl
theorem zp69 : zpOf Go.Proofs.Try.prog 69 = some (.one (val (.nilFunc))) := by kernel_rfl
theorem ty70 : tyOf Go.Proofs.Try.prog 70 = some (true, 2) := by kernel_rfl
theorem fl70_0 : fldOf Go.Proofs.Try.prog 70 0 = some (0, 3) := by kernel_rfl
theorem fl70_1 : fldOf Go.Proofs.Try.prog 70 1 = some (1, 3) := by kernel_rfl
theorem z70 : zcOf Go.Proofs.Try.prog 70 = some [.r true (val (.int .i64 0)), .r true (val (.int .i64 0))] := by kernel_rfl
theorem zp70 : zpOf Go.Proofs.Try.prog 70 = some (.agg [val (.int .i64 0), val (.int .i64 0)]) := by kernel_rfl
theorem bl70 : bldOf Go.Proofs.Try.prog 70 = some [(0, 1), (1, 1)] := by kernel_rfl
theorem ty71 : tyOf Go.Proofs.Try.prog 71 = some (true, 2) := by kernel_rfl
theorem fl71_0 : fldOf Go.Proofs.Try.prog 71 0 = some (0, 3) := by kernel_rfl
theorem fl71_1 : fldOf Go.Proofs.Try.prog 71 1 = some (1, 3) := by kernel_rfl
theorem z71 : zcOf Go.Proofs.Try.prog 71 = some [.r true (val (.int .i64 0)), .r true (val (.int .i64 0))] := by kernel_rfl
theorem zp71 : zpOf Go.Proofs.Try.prog 71 = some (.agg [val (.int .i64 0), val (.int .i64 0)]) := by kernel_rfl
theorem bl71 : bldOf Go.Proofs.Try.prog 71 = some [(0, 1), (1, 1)] := by kernel_rfl
theorem ty72 : tyOf Go.Proofs.Try.prog 72 = some (false, 1) := by kernel_rfl
theorem z72 : zcOf Go.Proofs.Try.prog 72 = some [.r true (val (.nilFunc))] := by kernel_rfl
theorem zp72 : zpOf Go.Proofs.Try.prog 72 = some (.one (val (.nilFunc))) := by kernel_rfl
theorem ty73 : tyOf Go.Proofs.Try.prog 73 = some (false, 1) := by kernel_rfl
theorem z73 : zcOf Go.Proofs.Try.prog 73 = some [.r true (val (.nilFunc))] := by kernel_rfl
theorem zp73 : zpOf Go.Proofs.Try.prog 73 = some (.one (val (.nilFunc))) := by kernel_rfl
theorem ty74 : tyOf Go.Proofs.Try.prog 74 = some (true, 2) := by kernel_rfl
theorem fl74_0 : fldOf Go.Proofs.Try.prog 74 0 = some (0, 22) := by kernel_rfl
theorem fl74_1 : fldOf Go.Proofs.Try.prog 74 1 = some (1, 3) := by kernel_rfl
theorem z74 : zcOf Go.Proofs.Try.prog 74 = some [.r true (row true 0 []), .r true (val (.int .i64 0))] := by kernel_rfl
theorem zp74 : zpOf Go.Proofs.Try.prog 74 = some (.agg [row true 0 [], val (.int .i64 0)]) := by kernel_rfl
theorem bl74 : bldOf Go.Proofs.Try.prog 74 = some [(0, 1), (1, 1)] := by kernel_rfl
theorem ty75 : tyOf Go.Proofs.Try.prog 75 = some (true, 2) := by kernel_rfl
theorem fl75_0 : fldOf Go.Proofs.Try.prog 75 0 = some (0, 22) := by kernel_rfl
theorem fl75_1 : fldOf Go.Proofs.Try.prog 75 1 = some (1, 3) := by kernel_rfl
theorem z75 : zcOf Go.Proofs.Try.prog 75 = some [.r true (row true 0 []), .r true (val (.int .i64 0))] := by kernel_rfl
theorem zp75 : zpOf Go.Proofs.Try.prog 75 = some (.agg [row true 0 [], val (.int .i64 0)]) := by kernel_rfl
theorem bl75 : bldOf Go.Proofs.Try.prog 75 = some [(0, 1), (1, 1)] := by kernel_rfl
theorem ty76 : tyOf Go.Proofs.Try.prog 76 = some (false, 1) := by kernel_rfl
theorem z76 : zcOf Go.Proofs.Try.prog 76 = some [.r true (val (.nilFunc))] := by kernel_rfl
theorem zp76 : zpOf Go.Proofs.Try.prog 76 = some (.one (val (.nilFunc))) := by kernel_rfl
theorem ty77 : tyOf Go.Proofs.Try.prog 77 = some (false, 1) := by kernel_rfl
theorem z77 : zcOf Go.Proofs.Try.prog 77 = some [.r true (val (.nilFunc))] := by kernel_rfl
theorem zp77 : zpOf Go.Proofs.Try.prog 77 = some (.one (val (.nilFunc))) := by kernel_rfl
theorem ty78 : tyOf Go.Proofs.Try.prog 78 = some (false, 1) := by kernel_rfl
theorem z78 : zcOf Go.Proofs.Try.prog 78 = some [.r true (val (.nilFunc))] := by kernel_rfl
theorem zp78 : zpOf Go.Proofs.Try.prog 78 = some (.one (val (.nilFunc))) := by kernel_rfl
theorem ty79 : tyOf Go.Proofs.Try.prog 79 = some (false, 1) := by kernel_rfl
theorem z79 : zcOf Go.Proofs.Try.prog 79 = some [.r true (val (.nilFunc))] := by kernel_rfl
theorem zp79 : zpOf Go.Proofs.Try.prog 79 = some (.one (val (.nilFunc))) := by kernel_rfl
theorem ty80 : tyOf Go.Proofs.Try.prog 80 = some (false, 1) := by kernel_rfl
theorem z80 : zcOf Go.Proofs.Try.prog 80 = some [.r true (val (.nilFunc))] := by kernel_rfl
theorem zp80 : zpOf Go.Proofs.Try.prog 80 = some (.one (val (.nilFunc))) := by kernel_rfl
theorem ty81 : tyOf Go.Proofs.Try.prog 81 = some (false, 1) := by kernel_rfl
theorem z81 : zcOf Go.Proofs.Try.prog 81 = some [.r true (val (.nilFunc))] := by kernel_rfl
theorem zp81 : zpOf Go.Proofs.Try.prog 81 = some (.one (val (.nilFunc))) := by kernel_rfl
theorem ty82 : tyOf Go.Proofs.Try.prog 82 = some (false, 1) := by kernel_rfl
theorem z82 : zcOf Go.Proofs.Try.prog 82 = some [.r true (val (.pointer none))] := by kernel_rfl
theorem zp82 : zpOf Go.Proofs.Try.prog 82 = some (.one (val (.pointer none))) := by kernel_rfl
theorem ty83 : tyOf Go.Proofs.Try.prog 83 = some (false, 1) := by kernel_rfl
theorem z83 : zcOf Go.Proofs.Try.prog 83 = some [.r true (val (.nilFunc))] := by kernel_rfl
theorem zp83 : zpOf Go.Proofs.Try.prog 83 = some (.one (val (.nilFunc))) := by kernel_rfl
theorem ty84 : tyOf Go.Proofs.Try.prog 84 = some (false, 1) := by kernel_rfl
theorem ty85 : tyOf Go.Proofs.Try.prog 85 = some (false, 1) := by kernel_rfl
theorem z85 : zcOf Go.Proofs.Try.prog 85 = some [.r true (val (.nilFunc))] := by kernel_rfl
theorem zp85 : zpOf Go.Proofs.Try.prog 85 = some (.one (val (.nilFunc))) := by kernel_rfl
theorem ty86 : tyOf Go.Proofs.Try.prog 86 = some (false, 1) := by kernel_rfl
theorem z86 : zcOf Go.Proofs.Try.prog 86 = some [.r true (val (.nilFunc))] := by kernel_rfl
theorem zp86 : zpOf Go.Proofs.Try.prog 86 = some (.one (val (.nilFunc))) := by kernel_rfl
theorem ty87 : tyOf Go.Proofs.Try.prog 87 = some (true, 4) := by kernel_rfl
theorem fl87_0 : fldOf Go.Proofs.Try.prog 87 0 = some (0, 17) := by kernel_rfl
theorem fl87_1 : fldOf Go.Proofs.Try.prog 87 1 = some (1, 17) := by kernel_rfl
theorem fl87_2 : fldOf Go.Proofs.Try.prog 87 2 = some (2, 17) := by kernel_rfl
theorem fl87_3 : fldOf Go.Proofs.Try.prog 87 3 = some (3, 9) := by kernel_rfl
theorem z87 : zcOf Go.Proofs.Try.prog 87 = some [.r true (val (.pointer none)), .r true (val (.pointer none)), .r true (val (.pointer none)), .r true (val (.string ⟨#[]⟩))] := by kernel_rfl
theorem zp87 : zpOf Go.Proofs.Try.prog 87 = some (.agg [val (.pointer none), val (.pointer none), val (.pointer none), val (.string ⟨#[]⟩)]) := by kernel_rfl
theorem bl87 : bldOf Go.Proofs.Try.prog 87 = some [(0, 1), (1, 1), (2, 1), (3, 1)] := by kernel_rfl
theorem ty88 : tyOf Go.Proofs.Try.prog 88 = some (true, 4) := by kernel_rfl
theorem fl88_0 : fldOf Go.Proofs.Try.prog 88 0 = some (0, 17) := by kernel_rfl
theorem fl88_1 : fldOf Go.Proofs.Try.prog 88 1 = some (1, 17) := by kernel_rfl
theorem fl88_2 : fldOf Go.Proofs.Try.prog 88 2 = some (2, 17) := by kernel_rfl
theorem fl88_3 : fldOf Go.Proofs.Try.prog 88 3 = some (3, 9) := by kernel_rfl
theorem z88 : zcOf Go.Proofs.Try.prog 88 = some [.r true (val (.pointer none)), .r true (val (.pointer none)), .r true (val (.pointer none)), .r true (val (.string ⟨#[]⟩))] := by kernel_rfl
theorem zp88 : zpOf Go.Proofs.Try.prog 88 = some (.agg [val (.pointer none), val (.pointer none), val (.pointer none), val (.string ⟨#[]⟩)]) := by kernel_rfl
theorem bl88 : bldOf Go.Proofs.Try.prog 88 = some [(0, 1), (1, 1), (2, 1), (3, 1)] := by kernel_rfl
theorem ty89 : tyOf Go.Proofs.Try.prog 89 = some (true, 0) := by kernel_rfl
theorem z89 : zcOf Go.Proofs.Try.prog 89 = some [] := by kernel_rfl
theorem zp89 : zpOf Go.Proofs.Try.prog 89 = some (.agg []) := by kernel_rfl
theorem ty90 : tyOf Go.Proofs.Try.prog 90 = some (true, 0) := by kernel_rfl
theorem z90 : zcOf Go.Proofs.Try.prog 90 = some [] := by kernel_rfl
theorem zp90 : zpOf Go.Proofs.Try.prog 90 = some (.agg []) := by kernel_rfl
theorem bl90 : bldOf Go.Proofs.Try.prog 90 = some [(0, 0)] := by kernel_rfl
theorem ty91 : tyOf Go.Proofs.Try.prog 91 = some (true, 0) := by kernel_rfl
theorem z91 : zcOf Go.Proofs.Try.prog 91 = some [] := by kernel_rfl
theorem zp91 : zpOf Go.Proofs.Try.prog 91 = some (.agg []) := by kernel_rfl
theorem bl91 : bldOf Go.Proofs.Try.prog 91 = some [(0, 0)] := by kernel_rfl
theorem ty92 : tyOf Go.Proofs.Try.prog 92 = some (false, 1) := by kernel_rfl
theorem z92 : zcOf Go.Proofs.Try.prog 92 = some [.r true (val (.nilFunc))] := by kernel_rfl
theorem zp92 : zpOf Go.Proofs.Try.prog 92 = some (.one (val (.nilFunc))) := by kernel_rfl
theorem ty93 : tyOf Go.Proofs.Try.prog 93 = some (false, 1) := by kernel_rfl
theorem z93 : zcOf Go.Proofs.Try.prog 93 = some [.r true (val (.int .u32 0))] := by kernel_rfl
theorem zp93 : zpOf Go.Proofs.Try.prog 93 = some (.one (val (.int .u32 0))) := by kernel_rfl
theorem ty94 : tyOf Go.Proofs.Try.prog 94 = some (false, 1) := by kernel_rfl
theorem z94 : zcOf Go.Proofs.Try.prog 94 = some [.r true (val (.int .u8 0))] := by kernel_rfl
theorem zp94 : zpOf Go.Proofs.Try.prog 94 = some (.one (val (.int .u8 0))) := by kernel_rfl
theorem ty95 : tyOf Go.Proofs.Try.prog 95 = some (false, 1) := by kernel_rfl
theorem z95 : zcOf Go.Proofs.Try.prog 95 = some [.r true (val (.int .u8 0))] := by kernel_rfl
theorem zp95 : zpOf Go.Proofs.Try.prog 95 = some (.one (val (.int .u8 0))) := by kernel_rfl
theorem ty96 : tyOf Go.Proofs.Try.prog 96 = some (false, 1) := by kernel_rfl
theorem z96 : zcOf Go.Proofs.Try.prog 96 = some [.r true (val (.nilFunc))] := by kernel_rfl
theorem zp96 : zpOf Go.Proofs.Try.prog 96 = some (.one (val (.nilFunc))) := by kernel_rfl
theorem ty97 : tyOf Go.Proofs.Try.prog 97 = some (false, 1) := by kernel_rfl
theorem z97 : zcOf Go.Proofs.Try.prog 97 = some [.r true (val (.pointer none))] := by kernel_rfl
theorem zp97 : zpOf Go.Proofs.Try.prog 97 = some (.one (val (.pointer none))) := by kernel_rfl
theorem ty98 : tyOf Go.Proofs.Try.prog 98 = some (false, 1) := by kernel_rfl
theorem z98 : zcOf Go.Proofs.Try.prog 98 = some [.r true (val (.int .i32 0))] := by kernel_rfl
theorem zp98 : zpOf Go.Proofs.Try.prog 98 = some (.one (val (.int .i32 0))) := by kernel_rfl
theorem ty99 : tyOf Go.Proofs.Try.prog 99 = some (false, 1) := by kernel_rfl
theorem z99 : zcOf Go.Proofs.Try.prog 99 = some [.r true (val (.int .i32 0))] := by kernel_rfl
theorem zp99 : zpOf Go.Proofs.Try.prog 99 = some (.one (val (.int .i32 0))) := by kernel_rfl
theorem ty100 : tyOf Go.Proofs.Try.prog 100 = some (true, 11) := by kernel_rfl
theorem fl100_0 : fldOf Go.Proofs.Try.prog 100 0 = some (0, 12) := by kernel_rfl
theorem fl100_1 : fldOf Go.Proofs.Try.prog 100 1 = some (1, 12) := by kernel_rfl
theorem fl100_2 : fldOf Go.Proofs.Try.prog 100 2 = some (2, 93) := by kernel_rfl
theorem fl100_3 : fldOf Go.Proofs.Try.prog 100 3 = some (3, 94) := by kernel_rfl
theorem fl100_4 : fldOf Go.Proofs.Try.prog 100 4 = some (4, 5) := by kernel_rfl
theorem fl100_5 : fldOf Go.Proofs.Try.prog 100 5 = some (5, 5) := by kernel_rfl
theorem fl100_6 : fldOf Go.Proofs.Try.prog 100 6 = some (6, 95) := by kernel_rfl
theorem fl100_7 : fldOf Go.Proofs.Try.prog 100 7 = some (7, 96) := by kernel_rfl
theorem fl100_8 : fldOf Go.Proofs.Try.prog 100 8 = some (8, 97) := by kernel_rfl
theorem fl100_9 : fldOf Go.Proofs.Try.prog 100 9 = some (9, 98) := by kernel_rfl
theorem z100 : zcOf Go.Proofs.Try.prog 100 = some [.r true (val (.int .u64 0)), .r true (val (.int .u64 0)), .r true (val (.int .u32 0)), .r true (val (.int .u8 0)), .r true (val (.int .u8 0)), .r true (val (.int .u8 0)), .r true (val (.int .u8 0)), .r true (val (.nilFunc)), .r true (val (.pointer none)), .r true (val (.int .i32 0)), .r true (val (.int .i32 0))] := by kernel_rfl
theorem zp100 : zpOf Go.Proofs.Try.prog 100 = some (.agg [val (.int .u64 0), val (.int .u64 0), val (.int .u32 0), val (.int .u8 0), val (.int .u8 0), val (.int .u8 0), val (.int .u8 0), val (.nilFunc), val (.pointer none), val (.int .i32 0), val (.int .i32 0)]) := by kernel_rfl
theorem bl100 : bldOf Go.Proofs.Try.prog 100 = some [(0, 1), (1, 1), (2, 1), (3, 1), (4, 1), (5, 1), (6, 1), (7, 1), (8, 1), (9, 1), (10, 1)] := by kernel_rfl
theorem ty101 : tyOf Go.Proofs.Try.prog 101 = some (true, 11) := by kernel_rfl
theorem fl101_0 : fldOf Go.Proofs.Try.prog 101 0 = some (0, 12) := by kernel_rfl
theorem fl101_1 : fldOf Go.Proofs.Try.prog 101 1 = some (1, 12) := by kernel_rfl
theorem fl101_2 : fldOf Go.Proofs.Try.prog 101 2 = some (2, 93) := by kernel_rfl
theorem fl101_3 : fldOf Go.Proofs.Try.prog 101 3 = some (3, 94) := by kernel_rfl
theorem fl101_4 : fldOf Go.Proofs.Try.prog 101 4 = some (4, 5) := by kernel_rfl
theorem fl101_5 : fldOf Go.Proofs.Try.prog 101 5 = some (5, 5) := by kernel_rfl
theorem fl101_6 : fldOf Go.Proofs.Try.prog 101 6 = some (6, 95) := by kernel_rfl
theorem fl101_7 : fldOf Go.Proofs.Try.prog 101 7 = some (7, 96) := by kernel_rfl
theorem fl101_8 : fldOf Go.Proofs.Try.prog 101 8 = some (8, 97) := by kernel_rfl
theorem fl101_9 : fldOf Go.Proofs.Try.prog 101 9 = some (9, 98) := by kernel_rfl
theorem z101 : zcOf Go.Proofs.Try.prog 101 = some [.r true (val (.int .u64 0)), .r true (val (.int .u64 0)), .r true (val (.int .u32 0)), .r true (val (.int .u8 0)), .r true (val (.int .u8 0)), .r true (val (.int .u8 0)), .r true (val (.int .u8 0)), .r true (val (.nilFunc)), .r true (val (.pointer none)), .r true (val (.int .i32 0)), .r true (val (.int .i32 0))] := by kernel_rfl
theorem zp101 : zpOf Go.Proofs.Try.prog 101 = some (.agg [val (.int .u64 0), val (.int .u64 0), val (.int .u32 0), val (.int .u8 0), val (.int .u8 0), val (.int .u8 0), val (.int .u8 0), val (.nilFunc), val (.pointer none), val (.int .i32 0), val (.int .i32 0)]) := by kernel_rfl
theorem bl101 : bldOf Go.Proofs.Try.prog 101 = some [(0, 1), (1, 1), (2, 1), (3, 1), (4, 1), (5, 1), (6, 1), (7, 1), (8, 1), (9, 1), (10, 1)] := by kernel_rfl
theorem ty102 : tyOf Go.Proofs.Try.prog 102 = some (false, 1) := by kernel_rfl
theorem z102 : zcOf Go.Proofs.Try.prog 102 = some [.r true (val (.pointer none))] := by kernel_rfl
theorem zp102 : zpOf Go.Proofs.Try.prog 102 = some (.one (val (.pointer none))) := by kernel_rfl
def tb : TB := ⟨[(0, false, 1), (1, false, 1), (2, false, 1), (3, false, 1), (4, false, 1), (5, false, 1), (6, false, 1), (7, true, 4), (8, true, 4), (9, false, 1), (10, false, 1), (11, false, 1), (12, false, 1), (13, true, 2), (14, true, 2), (15, false, 1), (16, false, 1), (17, false, 1), (18, true, 1), (19, true, 1), (20, false, 1), (21, false, 1), (22, false, 1), (23, false, 1), (24, false, 1), (25, false, 1), (26, false, 1), (27, false, 1), (28, false, 1), (29, false, 1), (30, true, 2), (31, true, 2), (32, false, 1), (33, false, 1), (34, false, 1), (35, false, 1), (36, false, 1), (37, false, 1), (38, false, 1), (39, true, 5), (40, true, 5), (41, false, 1), (42, false, 1), (43, false, 1), (44, false, 1), (45, false, 1), (46, false, 1), (47, false, 1), (48, false, 1), (49, false, 1), (50, false, 1), (51, false, 1), (52, false, 1), (53, false, 1), (54, false, 1), (55, false, 1), (56, false, 1), (57, false, 1), (58, false, 1), (59, false, 1), (60, false, 1), (61, false, 1), (62, false, 1), (63, false, 1), (64, false, 1), (65, false, 1), (66, false, 1), (67, false, 1), (68, false, 1), (69, false, 1), (70, true, 2), (71, true, 2), (72, false, 1), (73, false, 1), (74, true, 2), (75, true, 2), (76, false, 1), (77, false, 1), (78, false, 1), (79, false, 1), (80, false, 1), (81, false, 1), (82, false, 1), (83, false, 1), (84, false, 1), (85, false, 1), (86, false, 1), (87, true, 4), (88, true, 4), (89, true, 0), (90, true, 0), (91, true, 0), (92, false, 1), (93, false, 1), (94, false, 1), (95, false, 1), (96, false, 1), (97, false, 1), (98, false, 1), (99, false, 1), (100, true, 11), (101, true, 11), (102, false, 1)], [(7, 0, 0, 2), (7, 1, 1, 3), (7, 2, 2, 4), (7, 3, 3, 6), (8, 0, 0, 2), (8, 1, 1, 3), (8, 2, 2, 4), (8, 3, 3, 6), (13, 0, 0, 9), (13, 1, 1, 12), (14, 0, 0, 9), (14, 1, 1, 12), (18, 0, 0, 17), (19, 0, 0, 17), (30, 0, 0, 25), (30, 1, 1, 25), (31, 0, 0, 25), (31, 1, 1, 25), (39, 0, 0, 25), (39, 1, 1, 3), (39, 2, 2, 25), (39, 3, 3, 38), (39, 4, 4, 25), (40, 0, 0, 25), (40, 1, 1, 3), (40, 2, 2, 25), (40, 3, 3, 38), (40, 4, 4, 25), (70, 0, 0, 3), (70, 1, 1, 3), (71, 0, 0, 3), (71, 1, 1, 3), (74, 0, 0, 22), (74, 1, 1, 3), (75, 0, 0, 22), (75, 1, 1, 3), (87, 0, 0, 17), (87, 1, 1, 17), (87, 2, 2, 17), (87, 3, 3, 9), (88, 0, 0, 17), (88, 1, 1, 17), (88, 2, 2, 17), (88, 3, 3, 9), (100, 0, 0, 12), (100, 1, 1, 12), (100, 2, 2, 93), (100, 3, 3, 94), (100, 4, 4, 5), (100, 5, 5, 5), (100, 6, 6, 95), (100, 7, 7, 96), (100, 8, 8, 97), (100, 9, 9, 98), (101, 0, 0, 12), (101, 1, 1, 12), (101, 2, 2, 93), (101, 3, 3, 94), (101, 4, 4, 5), (101, 5, 5, 5), (101, 6, 6, 95), (101, 7, 7, 96), (101, 8, 8, 97), (101, 9, 9, 98)], [(22, 5, 1), (23, 25, 1), (25, 3, 1), (38, 71, 2)], [(1, [.r true (val (.nilFunc))]), (2, [.r true (val (.int .i64 0))]), (3, [.r true (val (.int .i64 0))]), (5, [.r true (val (.int .u8 0))]), (6, [.r true (val (.int .u8 0))]), (9, [.r true (val (.string ⟨#[]⟩))]), (10, [.r true (val (.string ⟨#[]⟩))]), (11, [.r true (val (.string ⟨#[]⟩))]), (12, [.r true (val (.int .u64 0))]), (13, [.r true (val (.string ⟨#[]⟩)), .r true (val (.int .u64 0))]), (14, [.r true (val (.string ⟨#[]⟩)), .r true (val (.int .u64 0))]), (15, [.r true (val (.pointer none))]), (16, [.r true (val (.pointer none))]), (17, [.r true (val (.pointer none))]), (18, [.r true (val (.pointer none))]), (19, [.r true (val (.pointer none))]), (20, [.r true (val (.nilIface))]), (21, [.r true (val (.int .i32 0))]), (22, [.r true (row true 0 [])]), (23, [.r true (row true 0 [])]), (24, [.r true (val (.nilFunc))]), (25, [.r true (row true 0 [])]), (27, [.r true (val (.nilFunc))]), (28, [.r true (val (.nilFunc))]), (29, [.r true (val (.nilFunc))]), (30, [.r true (row true 0 []), .r true (row true 0 [])]), (31, [.r true (row true 0 []), .r true (row true 0 [])]), (33, [.r true (val (.nilFunc))]), (34, [.r true (val (.nilFunc))]), (35, [.r true (val (.nilFunc))]), (36, [.r true (val (.nilFunc))]), (37, [.r true (val (.nilFunc))]), (38, [.r true (row true 0 [])]), (39, [.r true (row true 0 []), .r true (val (.int .i64 0)), .r true (row true 0 []), .r true (row true 0 []), .r true (row true 0 [])]), (40, [.r true (row true 0 []), .r true (val (.int .i64 0)), .r true (row true 0 []), .r true (row true 0 []), .r true (row true 0 [])]), (42, [.r true (val (.nilFunc))]), (44, [.r true (val (.nilFunc))]), (45, [.r true (val (.nilFunc))]), (46, [.r true (val (.nilFunc))]), (47, [.r true (val (.nilFunc))]), (48, [.r true (val (.nilFunc))]), (50, [.r true (val (.nilFunc))]), (51, [.r true (val (.nilFunc))]), (52, [.r true (val (.nilFunc))]), (53, [.r true (val (.nilFunc))]), (54, [.r true (val (.pointer none))]), (55, [.r true (val (.nilFunc))]), (56, [.r true (val (.nilFunc))]), (57, [.r true (val (.nilFunc))]), (58, [.r true (val (.nilFunc))]), (59, [.r true (val (.nilFunc))]), (60, [.r true (val (.nilFunc))]), (62, [.r true (val (.nilFunc))]), (63, [.r true (val (.nilFunc))]), (64, [.r true (val (.nilFunc))]), (65, [.r true (val (.nilFunc))]), (66, [.r true (val (.nilFunc))]), (67, [.r true (val (.nilFunc))]), (68, [.r true (val (.nilFunc))]), (69, [.r true (val (.nilFunc))]), (70, [.r true (val (.int .i64 0)), .r true (val (.int .i64 0))]), (71, [.r true (val (.int .i64 0)), .r true (val (.int .i64 0))]), (72, [.r true (val (.nilFunc))]), (73, [.r true (val (.nilFunc))]), (74, [.r true (row true 0 []), .r true (val (.int .i64 0))]), (75, [.r true (row true 0 []), .r true (val (.int .i64 0))]), (76, [.r true (val (.nilFunc))]), (77, [.r true (val (.nilFunc))]), (78, [.r true (val (.nilFunc))]), (79, [.r true (val (.nilFunc))]), (80, [.r true (val (.nilFunc))]), (81, [.r true (val (.nilFunc))]), (82, [.r true (val (.pointer none))]), (83, [.r true (val (.nilFunc))]), (85, [.r true (val (.nilFunc))]), (86, [.r true (val (.nilFunc))]), (87, [.r true (val (.pointer none)), .r true (val (.pointer none)), .r true (val (.pointer none)), .r true (val (.string ⟨#[]⟩))]), (88, [.r true (val (.pointer none)), .r true (val (.pointer none)), .r true (val (.pointer none)), .r true (val (.string ⟨#[]⟩))]), (89, []), (90, []), (91, []), (92, [.r true (val (.nilFunc))]), (93, [.r true (val (.int .u32 0))]), (94, [.r true (val (.int .u8 0))]), (95, [.r true (val (.int .u8 0))]), (96, [.r true (val (.nilFunc))]), (97, [.r true (val (.pointer none))]), (98, [.r true (val (.int .i32 0))]), (99, [.r true (val (.int .i32 0))]), (100, [.r true (val (.int .u64 0)), .r true (val (.int .u64 0)), .r true (val (.int .u32 0)), .r true (val (.int .u8 0)), .r true (val (.int .u8 0)), .r true (val (.int .u8 0)), .r true (val (.int .u8 0)), .r true (val (.nilFunc)), .r true (val (.pointer none)), .r true (val (.int .i32 0)), .r true (val (.int .i32 0))]), (101, [.r true (val (.int .u64 0)), .r true (val (.int .u64 0)), .r true (val (.int .u32 0)), .r true (val (.int .u8 0)), .r true (val (.int .u8 0)), .r true (val (.int .u8 0)), .r true (val (.int .u8 0)), .r true (val (.nilFunc)), .r true (val (.pointer none)), .r true (val (.int .i32 0)), .r true (val (.int .i32 0))]), (102, [.r true (val (.pointer none))])], [4], [(7, [(0, 1), (1, 1), (2, 1), (3, 1)]), (8, [(0, 1), (1, 1), (2, 1), (3, 1)]), (13, [(0, 1), (1, 1)]), (14, [(0, 1), (1, 1)]), (18, [(0, 1)]), (19, [(0, 1)]), (30, [(0, 1), (1, 1)]), (31, [(0, 1), (1, 1)]), (39, [(0, 1), (1, 1), (2, 1), (3, 1), (4, 1)]), (40, [(0, 1), (1, 1), (2, 1), (3, 1), (4, 1)]), (70, [(0, 1), (1, 1)]), (71, [(0, 1), (1, 1)]), (74, [(0, 1), (1, 1)]), (75, [(0, 1), (1, 1)]), (87, [(0, 1), (1, 1), (2, 1), (3, 1)]), (88, [(0, 1), (1, 1), (2, 1), (3, 1)]), (90, [(0, 0)]), (91, [(0, 0)]), (100, [(0, 1), (1, 1), (2, 1), (3, 1), (4, 1), (5, 1), (6, 1), (7, 1), (8, 1), (9, 1), (10, 1)]), (101, [(0, 1), (1, 1), (2, 1), (3, 1), (4, 1), (5, 1), (6, 1), (7, 1), (8, 1), (9, 1), (10, 1)])]⟩
theorem tbOk : TbOk Go.Proofs.Try.prog tb := ⟨⟨ty0, ty1, ty2, ty3, ty4, ty5, ty6, ty7, ty8, ty9, ty10, ty11, ty12, ty13, ty14, ty15, ty16, ty17, ty18, ty19, ty20, ty21, ty22, ty23, ty24, ty25, ty26, ty27, ty28, ty29, ty30, ty31, ty32, ty33, ty34, ty35, ty36, ty37, ty38, ty39, ty40, ty41, ty42, ty43, ty44, ty45, ty46, ty47, ty48, ty49, ty50, ty51, ty52, ty53, ty54, ty55, ty56, ty57, ty58, ty59, ty60, ty61, ty62, ty63, ty64, ty65, ty66, ty67, ty68, ty69, ty70, ty71, ty72, ty73, ty74, ty75, ty76, ty77, ty78, ty79, ty80, ty81, ty82, ty83, ty84, ty85, ty86, ty87, ty88, ty89, ty90, ty91, ty92, ty93, ty94, ty95, ty96, ty97, ty98, ty99, ty100, ty101, ty102, trivial⟩, ⟨fl7_0, fl7_1, fl7_2, fl7_3, fl8_0, fl8_1, fl8_2, fl8_3, fl13_0, fl13_1, fl14_0, fl14_1, fl18_0, fl19_0, fl30_0, fl30_1, fl31_0, fl31_1, fl39_0, fl39_1, fl39_2, fl39_3, fl39_4, fl40_0, fl40_1, fl40_2, fl40_3, fl40_4, fl70_0, fl70_1, fl71_0, fl71_1, fl74_0, fl74_1, fl75_0, fl75_1, fl87_0, fl87_1, fl87_2, fl87_3, fl88_0, fl88_1, fl88_2, fl88_3, fl100_0, fl100_1, fl100_2, fl100_3, fl100_4, fl100_5, fl100_6, fl100_7, fl100_8, fl100_9, fl101_0, fl101_1, fl101_2, fl101_3, fl101_4, fl101_5, fl101_6, fl101_7, fl101_8, fl101_9, trivial⟩, ⟨sl22, sl23, sl25, sl38, trivial⟩, ⟨z1, z2, z3, z5, z6, z9, z10, z11, z12, z13, z14, z15, z16, z17, z18, z19, z20, z21, z22, z23, z24, z25, z27, z28, z29, z30, z31, z33, z34, z35, z36, z37, z38, z39, z40, z42, z44, z45, z46, z47, z48, z50, z51, z52, z53, z54, z55, z56, z57, z58, z59, z60, z62, z63, z64, z65, z66, z67, z68, z69, z70, z71, z72, z73, z74, z75, z76, z77, z78, z79, z80, z81, z82, z83, z85, z86, z87, z88, z89, z90, z91, z92, z93, z94, z95, z96, z97, z98, z99, z100, z101, z102, trivial⟩, ⟨bo4, trivial⟩, ⟨bl7, bl8, bl13, bl14, bl18, bl19, bl30, bl31, bl39, bl40, bl70, bl71, bl74, bl75, bl87, bl88, bl90, bl91, bl100, bl101, trivial⟩⟩
def tl : TL := ⟨[(22, 5, 1, 1), (23, 25, 1, 24), (25, 3, 1, 8), (38, 71, 2, 16)], [(1, (.one (val (.nilFunc)))), (2, (.one (val (.int .i64 0)))), (3, (.one (val (.int .i64 0)))), (5, (.one (val (.int .u8 0)))), (6, (.one (val (.int .u8 0)))), (9, (.one (val (.string ⟨#[]⟩)))), (10, (.one (val (.string ⟨#[]⟩)))), (11, (.one (val (.string ⟨#[]⟩)))), (12, (.one (val (.int .u64 0)))), (13, (.agg [val (.string ⟨#[]⟩), val (.int .u64 0)])), (14, (.agg [val (.string ⟨#[]⟩), val (.int .u64 0)])), (15, (.one (val (.pointer none)))), (16, (.one (val (.pointer none)))), (17, (.one (val (.pointer none)))), (18, (.agg [val (.pointer none)])), (19, (.agg [val (.pointer none)])), (20, (.one (val (.nilIface)))), (21, (.one (val (.int .i32 0)))), (22, (.one (row true 0 []))), (23, (.one (row true 0 []))), (24, (.one (val (.nilFunc)))), (25, (.one (row true 0 []))), (27, (.one (val (.nilFunc)))), (28, (.one (val (.nilFunc)))), (29, (.one (val (.nilFunc)))), (30, (.agg [row true 0 [], row true 0 []])), (31, (.agg [row true 0 [], row true 0 []])), (33, (.one (val (.nilFunc)))), (34, (.one (val (.nilFunc)))), (35, (.one (val (.nilFunc)))), (36, (.one (val (.nilFunc)))), (37, (.one (val (.nilFunc)))), (38, (.one (row true 0 []))), (39, (.agg [row true 0 [], val (.int .i64 0), row true 0 [], row true 0 [], row true 0 []])), (40, (.agg [row true 0 [], val (.int .i64 0), row true 0 [], row true 0 [], row true 0 []])), (42, (.one (val (.nilFunc)))), (44, (.one (val (.nilFunc)))), (45, (.one (val (.nilFunc)))), (46, (.one (val (.nilFunc)))), (47, (.one (val (.nilFunc)))), (48, (.one (val (.nilFunc)))), (50, (.one (val (.nilFunc)))), (51, (.one (val (.nilFunc)))), (52, (.one (val (.nilFunc)))), (53, (.one (val (.nilFunc)))), (54, (.one (val (.pointer none)))), (55, (.one (val (.nilFunc)))), (56, (.one (val (.nilFunc)))), (57, (.one (val (.nilFunc)))), (58, (.one (val (.nilFunc)))), (59, (.one (val (.nilFunc)))), (60, (.one (val (.nilFunc)))), (62, (.one (val (.nilFunc)))), (63, (.one (val (.nilFunc)))), (64, (.one (val (.nilFunc)))), (65, (.one (val (.nilFunc)))), (66, (.one (val (.nilFunc)))), (67, (.one (val (.nilFunc)))), (68, (.one (val (.nilFunc)))), (69, (.one (val (.nilFunc)))), (70, (.agg [val (.int .i64 0), val (.int .i64 0)])), (71, (.agg [val (.int .i64 0), val (.int .i64 0)])), (72, (.one (val (.nilFunc)))), (73, (.one (val (.nilFunc)))), (74, (.agg [row true 0 [], val (.int .i64 0)])), (75, (.agg [row true 0 [], val (.int .i64 0)])), (76, (.one (val (.nilFunc)))), (77, (.one (val (.nilFunc)))), (78, (.one (val (.nilFunc)))), (79, (.one (val (.nilFunc)))), (80, (.one (val (.nilFunc)))), (81, (.one (val (.nilFunc)))), (82, (.one (val (.pointer none)))), (83, (.one (val (.nilFunc)))), (85, (.one (val (.nilFunc)))), (86, (.one (val (.nilFunc)))), (87, (.agg [val (.pointer none), val (.pointer none), val (.pointer none), val (.string ⟨#[]⟩)])), (88, (.agg [val (.pointer none), val (.pointer none), val (.pointer none), val (.string ⟨#[]⟩)])), (89, (.agg [])), (90, (.agg [])), (91, (.agg [])), (92, (.one (val (.nilFunc)))), (93, (.one (val (.int .u32 0)))), (94, (.one (val (.int .u8 0)))), (95, (.one (val (.int .u8 0)))), (96, (.one (val (.nilFunc)))), (97, (.one (val (.pointer none)))), (98, (.one (val (.int .i32 0)))), (99, (.one (val (.int .i32 0)))), (100, (.agg [val (.int .u64 0), val (.int .u64 0), val (.int .u32 0), val (.int .u8 0), val (.int .u8 0), val (.int .u8 0), val (.int .u8 0), val (.nilFunc), val (.pointer none), val (.int .i32 0), val (.int .i32 0)])), (101, (.agg [val (.int .u64 0), val (.int .u64 0), val (.int .u32 0), val (.int .u8 0), val (.int .u8 0), val (.int .u8 0), val (.int .u8 0), val (.nilFunc), val (.pointer none), val (.int .i32 0), val (.int .i32 0)])), (102, (.one (val (.pointer none))))]⟩
theorem tlOk : TLOk Go.Proofs.Try.prog tl := ⟨⟨el22, el23, el25, el38, trivial⟩, ⟨zp1, zp2, zp3, zp5, zp6, zp9, zp10, zp11, zp12, zp13, zp14, zp15, zp16, zp17, zp18, zp19, zp20, zp21, zp22, zp23, zp24, zp25, zp27, zp28, zp29, zp30, zp31, zp33, zp34, zp35, zp36, zp37, zp38, zp39, zp40, zp42, zp44, zp45, zp46, zp47, zp48, zp50, zp51, zp52, zp53, zp54, zp55, zp56, zp57, zp58, zp59, zp60, zp62, zp63, zp64, zp65, zp66, zp67, zp68, zp69, zp70, zp71, zp72, zp73, zp74, zp75, zp76, zp77, zp78, zp79, zp80, zp81, zp82, zp83, zp85, zp86, zp87, zp88, zp89, zp90, zp91, zp92, zp93, zp94, zp95, zp96, zp97, zp98, zp99, zp100, zp101, zp102, trivial⟩⟩
end Go.Proofs.Ytjjeihcmiofkmaa.Abs
