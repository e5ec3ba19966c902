/- The types of the program as facts: cells, fields, elements, zero values. No statement of the seat is proved here. -/
import Derived.Test.YtmkijbfiilpccaaGreatProg
import Derived.Test.YtmkijbfiilpccaaGreatRsAbsN
namespace Go.Proofs.YtmkijbfiilpccaaGreat.Abs
open R (val row ref)
theorem ty3 : tyOf Go.Proofs.Tryz.prog 3 = some (false,1):=by kernel_rfl
theorem z3 : zcOf Go.Proofs.Tryz.prog 3 = some [.r true (val (.int .i64 0))]:=by kernel_rfl
theorem zp3 : zpOf Go.Proofs.Tryz.prog 3 = some (.one (val (.int .i64 0))):=by kernel_rfl
theorem ty4 : tyOf Go.Proofs.Tryz.prog 4 = some (false,1):=by kernel_rfl
theorem bo4 : Go.Proofs.Tryz.prog.underlying 4 = some .bool:=by kernel_rfl
theorem ty5 : tyOf Go.Proofs.Tryz.prog 5 = some (false,1):=by kernel_rfl
theorem z5 : zcOf Go.Proofs.Tryz.prog 5 = some [.r true (val (.int .u8 0))]:=by kernel_rfl
theorem zp5 : zpOf Go.Proofs.Tryz.prog 5 = some (.one (val (.int .u8 0))):=by kernel_rfl
theorem ty9 : tyOf Go.Proofs.Tryz.prog 9 = some (false,1):=by kernel_rfl
theorem z9 : zcOf Go.Proofs.Tryz.prog 9 = some [.r true (val (.string ⟨#[]⟩))]:=by kernel_rfl
theorem zp9 : zpOf Go.Proofs.Tryz.prog 9 = some (.one (val (.string ⟨#[]⟩))):=by kernel_rfl
theorem ty17 : tyOf Go.Proofs.Tryz.prog 17 = some (false,1):=by kernel_rfl
theorem z17 : zcOf Go.Proofs.Tryz.prog 17 = some [.r true (val (.pointer none))]:=by kernel_rfl
theorem zp17 : zpOf Go.Proofs.Tryz.prog 17 = some (.one (val (.pointer none))):=by kernel_rfl
theorem ty19 : tyOf Go.Proofs.Tryz.prog 19 = some (true,1):=by kernel_rfl
theorem fl19_0 : fldOf Go.Proofs.Tryz.prog 19 0 = some (0,17):=by kernel_rfl
theorem z19 : zcOf Go.Proofs.Tryz.prog 19 = some [.r true (val (.pointer none))]:=by kernel_rfl
theorem zp19 : zpOf Go.Proofs.Tryz.prog 19 = some (.agg [val (.pointer none)]):=by kernel_rfl
theorem bl19 : bldOf Go.Proofs.Tryz.prog 19 = some [(0,1)]:=by kernel_rfl
theorem ty22 : tyOf Go.Proofs.Tryz.prog 22 = some (false,1):=by kernel_rfl
theorem sl22 : slOf Go.Proofs.Tryz.prog 22 = some (5,1):=by kernel_rfl
theorem z22 : zcOf Go.Proofs.Tryz.prog 22 = some [.r true (row true 0 [])]:=by kernel_rfl
theorem el22 : elOf Go.Proofs.Tryz.prog 22 = some (5,1,1):=by kernel_rfl
theorem zp22 : zpOf Go.Proofs.Tryz.prog 22 = some (.one (row true 0 [])):=by kernel_rfl
theorem ty23 : tyOf Go.Proofs.Tryz.prog 23 = some (false,1):=by kernel_rfl
theorem sl23 : slOf Go.Proofs.Tryz.prog 23 = some (66,3):=by kernel_rfl
theorem z23 : zcOf Go.Proofs.Tryz.prog 23 = some [.r true (row true 0 [])]:=by kernel_rfl
theorem el23 : elOf Go.Proofs.Tryz.prog 23 = some (66,3,24):=by kernel_rfl
theorem zp23 : zpOf Go.Proofs.Tryz.prog 23 = some (.one (row true 0 [])):=by kernel_rfl
theorem ty25 : tyOf Go.Proofs.Tryz.prog 25 = some (true,2):=by kernel_rfl
theorem fl25_0 : fldOf Go.Proofs.Tryz.prog 25 0 = some (0,3):=by kernel_rfl
theorem fl25_1 : fldOf Go.Proofs.Tryz.prog 25 1 = some (1,23):=by kernel_rfl
theorem z25 : zcOf Go.Proofs.Tryz.prog 25 = some [.r true (val (.int .i64 0)),.r true (row true 0 [])]:=by kernel_rfl
theorem zp25 : zpOf Go.Proofs.Tryz.prog 25 = some (.agg [val (.int .i64 0),row true 0 []]):=by kernel_rfl
theorem bl25 : bldOf Go.Proofs.Tryz.prog 25 = some [(0,1),(1,1)]:=by kernel_rfl
theorem ty26 : tyOf Go.Proofs.Tryz.prog 26 = some (false,1):=by kernel_rfl
theorem sl26 : slOf Go.Proofs.Tryz.prog 26 = some (3,1):=by kernel_rfl
theorem z26 : zcOf Go.Proofs.Tryz.prog 26 = some [.r true (row true 0 [])]:=by kernel_rfl
theorem el26 : elOf Go.Proofs.Tryz.prog 26 = some (3,1,8):=by kernel_rfl
theorem zp26 : zpOf Go.Proofs.Tryz.prog 26 = some (.one (row true 0 [])):=by kernel_rfl
theorem ty28 : tyOf Go.Proofs.Tryz.prog 28 = some (true,2):=by kernel_rfl
theorem fl28_0 : fldOf Go.Proofs.Tryz.prog 28 0 = some (0,26):=by kernel_rfl
theorem fl28_1 : fldOf Go.Proofs.Tryz.prog 28 1 = some (1,26):=by kernel_rfl
theorem z28 : zcOf Go.Proofs.Tryz.prog 28 = some [.r true (row true 0 []),.r true (row true 0 [])]:=by kernel_rfl
theorem zp28 : zpOf Go.Proofs.Tryz.prog 28 = some (.agg [row true 0 [],row true 0 []]):=by kernel_rfl
theorem bl28 : bldOf Go.Proofs.Tryz.prog 28 = some [(0,1),(1,1)]:=by kernel_rfl
theorem ty31 : tyOf Go.Proofs.Tryz.prog 31 = some (false,1):=by kernel_rfl
theorem sl31 : slOf Go.Proofs.Tryz.prog 31 = some (4,1):=by kernel_rfl
theorem z31 : zcOf Go.Proofs.Tryz.prog 31 = some [.r true (row true 0 [])]:=by kernel_rfl
theorem el31 : elOf Go.Proofs.Tryz.prog 31 = some (4,1,1):=by kernel_rfl
theorem zp31 : zpOf Go.Proofs.Tryz.prog 31 = some (.one (row true 0 [])):=by kernel_rfl
theorem ty32 : tyOf Go.Proofs.Tryz.prog 32 = some (false,1):=by kernel_rfl
theorem sl32 : slOf Go.Proofs.Tryz.prog 32 = some (87,3):=by kernel_rfl
theorem z32 : zcOf Go.Proofs.Tryz.prog 32 = some [.r true (row true 0 [])]:=by kernel_rfl
theorem el32 : elOf Go.Proofs.Tryz.prog 32 = some (87,3,24):=by kernel_rfl
theorem zp32 : zpOf Go.Proofs.Tryz.prog 32 = some (.one (row true 0 [])):=by kernel_rfl
theorem ty34 : tyOf Go.Proofs.Tryz.prog 34 = some (true,4):=by kernel_rfl
theorem fl34_0 : fldOf Go.Proofs.Tryz.prog 34 0 = some (0,3):=by kernel_rfl
theorem fl34_1 : fldOf Go.Proofs.Tryz.prog 34 1 = some (1,26):=by kernel_rfl
theorem fl34_2 : fldOf Go.Proofs.Tryz.prog 34 2 = some (2,31):=by kernel_rfl
theorem fl34_3 : fldOf Go.Proofs.Tryz.prog 34 3 = some (3,32):=by kernel_rfl
theorem z34 : zcOf Go.Proofs.Tryz.prog 34 = some [.r true (val (.int .i64 0)),.r true (row true 0 []),.r true (row true 0 []),.r true (row true 0 [])]:=by kernel_rfl
theorem zp34 : zpOf Go.Proofs.Tryz.prog 34 = some (.agg [val (.int .i64 0),row true 0 [],row true 0 [],row true 0 []]):=by kernel_rfl
theorem bl34 : bldOf Go.Proofs.Tryz.prog 34 = some [(0,1),(1,1),(2,1),(3,1)]:=by kernel_rfl
theorem ty42 : tyOf Go.Proofs.Tryz.prog 42 = some (false,1):=by kernel_rfl
theorem sl42 : slOf Go.Proofs.Tryz.prog 42 = some (26,1):=by kernel_rfl
theorem z42 : zcOf Go.Proofs.Tryz.prog 42 = some [.r true (row true 0 [])]:=by kernel_rfl
theorem el42 : elOf Go.Proofs.Tryz.prog 42 = some (26,1,24):=by kernel_rfl
theorem zp42 : zpOf Go.Proofs.Tryz.prog 42 = some (.one (row true 0 [])):=by kernel_rfl
theorem ty48 : tyOf Go.Proofs.Tryz.prog 48 = some (false,1):=by kernel_rfl
theorem z48 : zcOf Go.Proofs.Tryz.prog 48 = some [.r true (val (.pointer none))]:=by kernel_rfl
theorem zp48 : zpOf Go.Proofs.Tryz.prog 48 = some (.one (val (.pointer none))):=by kernel_rfl
theorem ty51 : tyOf Go.Proofs.Tryz.prog 51 = some (true,3):=by kernel_rfl
theorem fl51_0 : fldOf Go.Proofs.Tryz.prog 51 0 = some (0,3):=by kernel_rfl
theorem fl51_1 : fldOf Go.Proofs.Tryz.prog 51 1 = some (1,3):=by kernel_rfl
theorem fl51_2 : fldOf Go.Proofs.Tryz.prog 51 2 = some (2,3):=by kernel_rfl
theorem z51 : zcOf Go.Proofs.Tryz.prog 51 = some [.r true (val (.int .i64 0)),.r true (val (.int .i64 0)),.r true (val (.int .i64 0))]:=by kernel_rfl
theorem zp51 : zpOf Go.Proofs.Tryz.prog 51 = some (.agg [val (.int .i64 0),val (.int .i64 0),val (.int .i64 0)]):=by kernel_rfl
theorem bl51 : bldOf Go.Proofs.Tryz.prog 51 = some [(0,1),(1,1),(2,1)]:=by kernel_rfl
theorem ty66 : tyOf Go.Proofs.Tryz.prog 66 = some (true,3):=by kernel_rfl
theorem fl66_0 : fldOf Go.Proofs.Tryz.prog 66 0 = some (0,3):=by kernel_rfl
theorem fl66_1 : fldOf Go.Proofs.Tryz.prog 66 1 = some (1,3):=by kernel_rfl
theorem fl66_2 : fldOf Go.Proofs.Tryz.prog 66 2 = some (2,3):=by kernel_rfl
theorem z66 : zcOf Go.Proofs.Tryz.prog 66 = some [.r true (val (.int .i64 0)),.r true (val (.int .i64 0)),.r true (val (.int .i64 0))]:=by kernel_rfl
theorem zp66 : zpOf Go.Proofs.Tryz.prog 66 = some (.agg [val (.int .i64 0),val (.int .i64 0),val (.int .i64 0)]):=by kernel_rfl
theorem bl66 : bldOf Go.Proofs.Tryz.prog 66 = some [(0,1),(1,1),(2,1)]:=by kernel_rfl
theorem ty77 : tyOf Go.Proofs.Tryz.prog 77 = some (true,2):=by kernel_rfl
theorem fl77_0 : fldOf Go.Proofs.Tryz.prog 77 0 = some (0,22):=by kernel_rfl
theorem fl77_1 : fldOf Go.Proofs.Tryz.prog 77 1 = some (1,3):=by kernel_rfl
theorem z77 : zcOf Go.Proofs.Tryz.prog 77 = some [.r true (row true 0 []),.r true (val (.int .i64 0))]:=by kernel_rfl
theorem zp77 : zpOf Go.Proofs.Tryz.prog 77 = some (.agg [row true 0 [],val (.int .i64 0)]):=by kernel_rfl
theorem bl77 : bldOf Go.Proofs.Tryz.prog 77 = some [(0,1),(1,1)]:=by kernel_rfl
theorem ty87 : tyOf Go.Proofs.Tryz.prog 87 = some (true,3):=by kernel_rfl
theorem fl87_0 : fldOf Go.Proofs.Tryz.prog 87 0 = some (0,3):=by kernel_rfl
theorem fl87_1 : fldOf Go.Proofs.Tryz.prog 87 1 = some (1,3):=by kernel_rfl
theorem fl87_2 : fldOf Go.Proofs.Tryz.prog 87 2 = some (2,3):=by kernel_rfl
theorem z87 : zcOf Go.Proofs.Tryz.prog 87 = some [.r true (val (.int .i64 0)),.r true (val (.int .i64 0)),.r true (val (.int .i64 0))]:=by kernel_rfl
theorem zp87 : zpOf Go.Proofs.Tryz.prog 87 = some (.agg [val (.int .i64 0),val (.int .i64 0),val (.int .i64 0)]):=by kernel_rfl
theorem bl87 : bldOf Go.Proofs.Tryz.prog 87 = some [(0,1),(1,1),(2,1)]:=by kernel_rfl
theorem ty99 : tyOf Go.Proofs.Tryz.prog 99 = some (false,1):=by kernel_rfl
theorem z99 : zcOf Go.Proofs.Tryz.prog 99 = some [.r true (val (.nilFunc))]:=by kernel_rfl
theorem zp99 : zpOf Go.Proofs.Tryz.prog 99 = some (.one (val (.nilFunc))):=by kernel_rfl
theorem ty103 : tyOf Go.Proofs.Tryz.prog 103 = some (false,1):=by kernel_rfl
theorem z103 : zcOf Go.Proofs.Tryz.prog 103 = some [.r true (val (.nilFunc))]:=by kernel_rfl
theorem zp103 : zpOf Go.Proofs.Tryz.prog 103 = some (.one (val (.nilFunc))):=by kernel_rfl
theorem ty123 : tyOf Go.Proofs.Tryz.prog 123 = some (true,2):=by kernel_rfl
theorem fl123_0 : fldOf Go.Proofs.Tryz.prog 123 0 = some (0,26):=by kernel_rfl
theorem fl123_1 : fldOf Go.Proofs.Tryz.prog 123 1 = some (1,3):=by kernel_rfl
theorem z123 : zcOf Go.Proofs.Tryz.prog 123 = some [.r true (row true 0 []),.r true (val (.int .i64 0))]:=by kernel_rfl
theorem zp123 : zpOf Go.Proofs.Tryz.prog 123 = some (.agg [row true 0 [],val (.int .i64 0)]):=by kernel_rfl
theorem bl123 : bldOf Go.Proofs.Tryz.prog 123 = some [(0,1),(1,1)]:=by kernel_rfl
theorem ty126 : tyOf Go.Proofs.Tryz.prog 126 = some (false,1):=by kernel_rfl
theorem z126 : zcOf Go.Proofs.Tryz.prog 126 = some [.r true (val (.pointer none))]:=by kernel_rfl
theorem zp126 : zpOf Go.Proofs.Tryz.prog 126 = some (.one (val (.pointer none))):=by kernel_rfl
theorem ty127 : tyOf Go.Proofs.Tryz.prog 127 = some (false,1):=by kernel_rfl
theorem z127 : zcOf Go.Proofs.Tryz.prog 127 = some [.r true (val (.nilFunc))]:=by kernel_rfl
theorem zp127 : zpOf Go.Proofs.Tryz.prog 127 = some (.one (val (.nilFunc))):=by kernel_rfl
theorem ty135 : tyOf Go.Proofs.Tryz.prog 135 = some (false,1):=by kernel_rfl
theorem z135 : zcOf Go.Proofs.Tryz.prog 135 = some [.r true (val (.pointer none))]:=by kernel_rfl
theorem zp135 : zpOf Go.Proofs.Tryz.prog 135 = some (.one (val (.pointer none))):=by kernel_rfl
def tb : TB:=⟨[(3,false,1),(4,false,1),(5,false,1),(9,false,1),(17,false,1),(19,true,1),(22,false,1),(23,false,1),(25,true,2),(26,false,1),(28,true,2),(31,false,1),(32,false,1),(34,true,4),(42,false,1),(48,false,1),(51,true,3),(66,true,3),(77,true,2),(87,true,3),(99,false,1),(103,false,1),(123,true,2),(126,false,1),(127,false,1),(135,false,1)],[(19,0,0,17),(25,0,0,3),(25,1,1,23),(28,0,0,26),(28,1,1,26),(34,0,0,3),(34,1,1,26),(34,2,2,31),(34,3,3,32),(51,0,0,3),(51,1,1,3),(51,2,2,3),(66,0,0,3),(66,1,1,3),(66,2,2,3),(77,0,0,22),(77,1,1,3),(87,0,0,3),(87,1,1,3),(87,2,2,3),(123,0,0,26),(123,1,1,3)],[(22,5,1),(23,66,3),(26,3,1),(31,4,1),(32,87,3),(42,26,1)],[(3,[.r true (val (.int .i64 0))]),(5,[.r true (val (.int .u8 0))]),(9,[.r true (val (.string ⟨#[]⟩))]),(17,[.r true (val (.pointer none))]),(19,[.r true (val (.pointer none))]),(22,[.r true (row true 0 [])]),(23,[.r true (row true 0 [])]),(25,[.r true (val (.int .i64 0)),.r true (row true 0 [])]),(26,[.r true (row true 0 [])]),(28,[.r true (row true 0 []),.r true (row true 0 [])]),(31,[.r true (row true 0 [])]),(32,[.r true (row true 0 [])]),(34,[.r true (val (.int .i64 0)),.r true (row true 0 []),.r true (row true 0 []),.r true (row true 0 [])]),(42,[.r true (row true 0 [])]),(48,[.r true (val (.pointer none))]),(51,[.r true (val (.int .i64 0)),.r true (val (.int .i64 0)),.r true (val (.int .i64 0))]),(66,[.r true (val (.int .i64 0)),.r true (val (.int .i64 0)),.r true (val (.int .i64 0))]),(77,[.r true (row true 0 []),.r true (val (.int .i64 0))]),(87,[.r true (val (.int .i64 0)),.r true (val (.int .i64 0)),.r true (val (.int .i64 0))]),(99,[.r true (val (.nilFunc))]),(103,[.r true (val (.nilFunc))]),(123,[.r true (row true 0 []),.r true (val (.int .i64 0))]),(126,[.r true (val (.pointer none))]),(127,[.r true (val (.nilFunc))]),(135,[.r true (val (.pointer none))])],[4],[(19,[(0,1)]),(25,[(0,1),(1,1)]),(28,[(0,1),(1,1)]),(34,[(0,1),(1,1),(2,1),(3,1)]),(51,[(0,1),(1,1),(2,1)]),(66,[(0,1),(1,1),(2,1)]),(77,[(0,1),(1,1)]),(87,[(0,1),(1,1),(2,1)]),(123,[(0,1),(1,1)])]⟩
theorem tbOk : TbOk Go.Proofs.Tryz.prog tb:=⟨⟨ty3,ty4,ty5,ty9,ty17,ty19,ty22,ty23,ty25,ty26,ty28,ty31,ty32,ty34,ty42,ty48,ty51,ty66,ty77,ty87,ty99,ty103,ty123,ty126,ty127,ty135,trivial⟩,⟨fl19_0,fl25_0,fl25_1,fl28_0,fl28_1,fl34_0,fl34_1,fl34_2,fl34_3,fl51_0,fl51_1,fl51_2,fl66_0,fl66_1,fl66_2,fl77_0,fl77_1,fl87_0,fl87_1,fl87_2,fl123_0,fl123_1,trivial⟩,⟨sl22,sl23,sl26,sl31,sl32,sl42,trivial⟩,⟨z3,z5,z9,z17,z19,z22,z23,z25,z26,z28,z31,z32,z34,z42,z48,z51,z66,z77,z87,z99,z103,z123,z126,z127,z135,trivial⟩,⟨bo4,trivial⟩,⟨bl19,bl25,bl28,bl34,bl51,bl66,bl77,bl87,bl123,trivial⟩⟩
def tl : TL:=⟨[(22,5,1,1),(23,66,3,24),(26,3,1,8),(31,4,1,1),(32,87,3,24),(42,26,1,24)],[(3,(.one (val (.int .i64 0)))),(5,(.one (val (.int .u8 0)))),(9,(.one (val (.string ⟨#[]⟩)))),(17,(.one (val (.pointer none)))),(19,(.agg [val (.pointer none)])),(22,(.one (row true 0 []))),(23,(.one (row true 0 []))),(25,(.agg [val (.int .i64 0),row true 0 []])),(26,(.one (row true 0 []))),(28,(.agg [row true 0 [],row true 0 []])),(31,(.one (row true 0 []))),(32,(.one (row true 0 []))),(34,(.agg [val (.int .i64 0),row true 0 [],row true 0 [],row true 0 []])),(42,(.one (row true 0 []))),(48,(.one (val (.pointer none)))),(51,(.agg [val (.int .i64 0),val (.int .i64 0),val (.int .i64 0)])),(66,(.agg [val (.int .i64 0),val (.int .i64 0),val (.int .i64 0)])),(77,(.agg [row true 0 [],val (.int .i64 0)])),(87,(.agg [val (.int .i64 0),val (.int .i64 0),val (.int .i64 0)])),(99,(.one (val (.nilFunc)))),(103,(.one (val (.nilFunc)))),(123,(.agg [row true 0 [],val (.int .i64 0)])),(126,(.one (val (.pointer none)))),(127,(.one (val (.nilFunc)))),(135,(.one (val (.pointer none))))]⟩
theorem tlOk : TLOk Go.Proofs.Tryz.prog tl:=⟨⟨el22,el23,el26,el31,el32,el42,trivial⟩,⟨zp3,zp5,zp9,zp17,zp19,zp22,zp23,zp25,zp26,zp28,zp31,zp32,zp34,zp42,zp48,zp51,zp66,zp77,zp87,zp99,zp103,zp123,zp126,zp127,zp135,trivial⟩⟩
theorem wk {P Q : Prop} (q : Q) (h : Q → P := by intro q;first|(with_reducible first|exact Zbr q|exact thn_normal q|exact thn_ret q|exact thn_exit q|exact blk_normal q|exact blk_ret q|exact blk_hit q|exact blk_miss rfl q|exact aw_block q|exact aw_ret q|exact aw_skip q|exact aw_exit q|exact w_nil q|exact x_nil (by kernel_rfl) q)|exact aw_region q|exact aw_region_draw (by kernel_rfl) q|exact aw_yes rfl q|exact aw_no rfl q|((with_reducible refine w_seq ?_);first|exact r_q tbOk rfl rfl rfl rfl q|exact r_e tbOk rfl rfl rfl rfl rfl q|exact r_yes tbOk rfl rfl rfl rfl rfl rfl q|exact w_no rfl rfl (Zd rfl) rfl rfl rfl q|exact w_un rfl rfl (Zd rfl) rfl rfl q)|((with_reducible refine w_drw ?_);first|exact rx_q tbOk rfl rfl rfl rfl q|exact rx_e tbOk rfl rfl rfl rfl rfl q|exact rx_yes tbOk rfl rfl rfl rfl rfl rfl q|exact x_no rfl rfl (Zd rfl) rfl rfl rfl q|exact x_un rfl rfl (Zd rfl) rfl rfl q)) : P := h q
theorem wkN {P Q : Prop} (q : Q) (h : Q → P := by intro q;first|(with_reducible first|exact thn_normal q|exact thn_ret q|exact thn_exit q|exact blk_normal q|exact blk_ret q|exact blk_hit q|exact blk_miss rfl q|exact aw_block q|exact aw_ret q|exact aw_skip q|exact aw_exit q|exact w_nil q|exact x_nil (by kernel_rfl) q)|exact aw_region q|exact aw_region_draw (by kernel_rfl) q|exact aw_yes rfl q|exact aw_no rfl q|((with_reducible refine w_seq ?_);first|exact r_q tbOk rfl rfl rfl rfl q|exact r_e tbOk rfl rfl rfl rfl rfl q|exact r_yes tbOk rfl rfl rfl rfl rfl rfl q|exact w_no rfl rfl (Zd rfl) rfl rfl rfl q|exact w_un rfl rfl (Zd rfl) rfl rfl q)|((with_reducible refine w_drw ?_);first|exact rx_q tbOk rfl rfl rfl rfl q|exact rx_e tbOk rfl rfl rfl rfl rfl q|exact rx_yes tbOk rfl rfl rfl rfl rfl rfl q|exact x_no rfl rfl (Zd rfl) rfl rfl rfl q|exact x_un rfl rfl (Zd rfl) rfl rfl q)) : P := h q
theorem wkB {P Q R : Prop} (q : Q) (r : R) (h : Q → R → P := by intro q r;(first|refine aw_ways rfl ?_ ?_|refine r_split rfl rfl rfl ?_ ?_);(focus (intro g;(fail_if_success (exact Bool.noConfusion g));first|(have t : True → True := q;simp only [prn] at g;done)|(simp only [prn] at g;revert g;exact q)|(revert g;exact q)));(focus (intro g;(fail_if_success (exact Bool.noConfusion g));first|(have t : True → True := r;simp only [prn] at g;done)|(simp only [prn] at g;revert g;exact r)|(revert g;exact r)))) : P := h q r
theorem wkX {P : Prop} (h : P := by first|contradiction|trivial|(exfalso;omega)) : P := h
theorem sbH {P : Prop} (h : P := by repeat' (first|exact trivial|refine Zbm rfl ?_ ?_|rfl)) : P := h
theorem wkS {P Q R : Prop} (q : Q) (r : R) (h : Q → R → P := by intro q r;first|exact subR_cons rfl q r|exact Zbm rfl q r) : P := h q r
theorem wkD {P Q : Prop} (q : Q) (h : Q → P := by intro q;(dsimp only [P0.d, Res.d, List.map_cons, List.map_nil, List.set_cons_zero, List.set_cons_succ, Nat.reduceAdd]);exact q) : P := h q
theorem kRf {P : Prop} (h : P := by kernel_rfl) : P := h
theorem oM {P : Prop} (h : P := by omega) : P := h
theorem asE {P : Prop} (h : P := by rw [Za rfl];exact asD_r rfl) : P := h
theorem wkE {P : Prop} (h : P := by first|exact trivial|rfl|(refine Zu ?_;(first|rfl|omega|(rw [IntWalk.i64_in _ (by omega)] <;> omega)|(simp;done)|(simp;omega)))|(refine d_bool ?_;(first|(simp_all;done)|(rw [Bool.eq_iff_iff];simp_all;done)|(rw [Bool.eq_iff_iff];simp_all;omega)|(rw [Bool.eq_iff_iff];simp;omega)))) : P := h
theorem wkW {P : Prop} (h : P := by repeat' (first|exact trivial|refine subR_cons rfl ?_ ?_|refine Zbm rfl ?_ ?_|exact wkE|fail)) : P := h
theorem tyF0 {P : Prop} (h : P := by (with_reducible first|exact ty3|exact ty4|exact ty5|exact ty9|exact ty17|exact ty19|exact ty22|exact ty23|exact ty25|exact ty26|exact ty28|exact ty31|exact ty32|exact ty34|exact ty42|exact ty48|exact ty51|exact ty66|exact ty77|exact ty87|exact ty99|exact ty103|exact ty123|exact ty126|exact ty127|exact ty135)) : P := h
end Go.Proofs.YtmkijbfiilpccaaGreat.Abs
