/- The types of the program as facts: cells, fields, elements, zero values. No statement of the seat is proved here. -/
import Derived.Test.YtmkijbfiilpccaaProg
import Derived.Test.YtmkijbfiilpccaaXlAbsN
namespace Go.Proofs.Ytmkijbfiilpccaa.Abs
open R (val row ref)
theorem ty3 : tyOf Go.Proofs.Try.prog 3 = some (false,1):=by kernel_rfl
theorem z3 : zcOf Go.Proofs.Try.prog 3 = some [.r true (val (.int .i64 0))]:=by kernel_rfl
theorem zp3 : zpOf Go.Proofs.Try.prog 3 = some (.one (val (.int .i64 0))):=by kernel_rfl
theorem ty4 : tyOf Go.Proofs.Try.prog 4 = some (false,1):=by kernel_rfl
theorem bo4 : Go.Proofs.Try.prog.underlying 4 = some .bool:=by kernel_rfl
theorem ty5 : tyOf Go.Proofs.Try.prog 5 = some (false,1):=by kernel_rfl
theorem z5 : zcOf Go.Proofs.Try.prog 5 = some [.r true (val (.int .u8 0))]:=by kernel_rfl
theorem zp5 : zpOf Go.Proofs.Try.prog 5 = some (.one (val (.int .u8 0))):=by kernel_rfl
theorem ty9 : tyOf Go.Proofs.Try.prog 9 = some (false,1):=by kernel_rfl
theorem z9 : zcOf Go.Proofs.Try.prog 9 = some [.r true (val (.string ⟨#[]⟩))]:=by kernel_rfl
theorem zp9 : zpOf Go.Proofs.Try.prog 9 = some (.one (val (.string ⟨#[]⟩))):=by kernel_rfl
theorem ty17 : tyOf Go.Proofs.Try.prog 17 = some (false,1):=by kernel_rfl
theorem z17 : zcOf Go.Proofs.Try.prog 17 = some [.r true (val (.pointer none))]:=by kernel_rfl
theorem zp17 : zpOf Go.Proofs.Try.prog 17 = some (.one (val (.pointer none))):=by kernel_rfl
theorem ty19 : tyOf Go.Proofs.Try.prog 19 = some (true,1):=by kernel_rfl
theorem fl19_0 : fldOf Go.Proofs.Try.prog 19 0 = some (0,17):=by kernel_rfl
theorem z19 : zcOf Go.Proofs.Try.prog 19 = some [.r true (val (.pointer none))]:=by kernel_rfl
theorem zp19 : zpOf Go.Proofs.Try.prog 19 = some (.agg [val (.pointer none)]):=by kernel_rfl
theorem bl19 : bldOf Go.Proofs.Try.prog 19 = some [(0,1)]:=by kernel_rfl
theorem ty22 : tyOf Go.Proofs.Try.prog 22 = some (false,1):=by kernel_rfl
theorem sl22 : slOf Go.Proofs.Try.prog 22 = some (24,1):=by kernel_rfl
theorem z22 : zcOf Go.Proofs.Try.prog 22 = some [.r true (row true 0 [])]:=by kernel_rfl
theorem el22 : elOf Go.Proofs.Try.prog 22 = some (24,1,24):=by kernel_rfl
theorem zp22 : zpOf Go.Proofs.Try.prog 22 = some (.one (row true 0 [])):=by kernel_rfl
theorem ty24 : tyOf Go.Proofs.Try.prog 24 = some (false,1):=by kernel_rfl
theorem sl24 : slOf Go.Proofs.Try.prog 24 = some (3,1):=by kernel_rfl
theorem z24 : zcOf Go.Proofs.Try.prog 24 = some [.r true (row true 0 [])]:=by kernel_rfl
theorem el24 : elOf Go.Proofs.Try.prog 24 = some (3,1,8):=by kernel_rfl
theorem zp24 : zpOf Go.Proofs.Try.prog 24 = some (.one (row true 0 [])):=by kernel_rfl
theorem ty25 : tyOf Go.Proofs.Try.prog 25 = some (false,1):=by kernel_rfl
theorem sl25 : slOf Go.Proofs.Try.prog 25 = some (4,1):=by kernel_rfl
theorem z25 : zcOf Go.Proofs.Try.prog 25 = some [.r true (row true 0 [])]:=by kernel_rfl
theorem el25 : elOf Go.Proofs.Try.prog 25 = some (4,1,1):=by kernel_rfl
theorem zp25 : zpOf Go.Proofs.Try.prog 25 = some (.one (row true 0 [])):=by kernel_rfl
theorem ty26 : tyOf Go.Proofs.Try.prog 26 = some (false,1):=by kernel_rfl
theorem sl26 : slOf Go.Proofs.Try.prog 26 = some (70,3):=by kernel_rfl
theorem z26 : zcOf Go.Proofs.Try.prog 26 = some [.r true (row true 0 [])]:=by kernel_rfl
theorem el26 : elOf Go.Proofs.Try.prog 26 = some (70,3,24):=by kernel_rfl
theorem zp26 : zpOf Go.Proofs.Try.prog 26 = some (.one (row true 0 [])):=by kernel_rfl
theorem ty28 : tyOf Go.Proofs.Try.prog 28 = some (true,4):=by kernel_rfl
theorem fl28_0 : fldOf Go.Proofs.Try.prog 28 0 = some (0,3):=by kernel_rfl
theorem fl28_1 : fldOf Go.Proofs.Try.prog 28 1 = some (1,24):=by kernel_rfl
theorem fl28_2 : fldOf Go.Proofs.Try.prog 28 2 = some (2,25):=by kernel_rfl
theorem fl28_3 : fldOf Go.Proofs.Try.prog 28 3 = some (3,26):=by kernel_rfl
theorem z28 : zcOf Go.Proofs.Try.prog 28 = some [.r true (val (.int .i64 0)),.r true (row true 0 []),.r true (row true 0 []),.r true (row true 0 [])]:=by kernel_rfl
theorem zp28 : zpOf Go.Proofs.Try.prog 28 = some (.agg [val (.int .i64 0),row true 0 [],row true 0 [],row true 0 []]):=by kernel_rfl
theorem bl28 : bldOf Go.Proofs.Try.prog 28 = some [(0,1),(1,1),(2,1),(3,1)]:=by kernel_rfl
theorem ty36 : tyOf Go.Proofs.Try.prog 36 = some (false,1):=by kernel_rfl
theorem sl36 : slOf Go.Proofs.Try.prog 36 = some (5,1):=by kernel_rfl
theorem z36 : zcOf Go.Proofs.Try.prog 36 = some [.r true (row true 0 [])]:=by kernel_rfl
theorem el36 : elOf Go.Proofs.Try.prog 36 = some (5,1,1):=by kernel_rfl
theorem zp36 : zpOf Go.Proofs.Try.prog 36 = some (.one (row true 0 [])):=by kernel_rfl
theorem ty53 : tyOf Go.Proofs.Try.prog 53 = some (false,1):=by kernel_rfl
theorem z53 : zcOf Go.Proofs.Try.prog 53 = some [.r true (val (.pointer none))]:=by kernel_rfl
theorem zp53 : zpOf Go.Proofs.Try.prog 53 = some (.one (val (.pointer none))):=by kernel_rfl
theorem ty55 : tyOf Go.Proofs.Try.prog 55 = some (false,1):=by kernel_rfl
theorem sl55 : slOf Go.Proofs.Try.prog 55 = some (73,3):=by kernel_rfl
theorem z55 : zcOf Go.Proofs.Try.prog 55 = some [.r true (row true 0 [])]:=by kernel_rfl
theorem el55 : elOf Go.Proofs.Try.prog 55 = some (73,3,24):=by kernel_rfl
theorem zp55 : zpOf Go.Proofs.Try.prog 55 = some (.one (row true 0 [])):=by kernel_rfl
theorem ty57 : tyOf Go.Proofs.Try.prog 57 = some (true,2):=by kernel_rfl
theorem fl57_0 : fldOf Go.Proofs.Try.prog 57 0 = some (0,3):=by kernel_rfl
theorem fl57_1 : fldOf Go.Proofs.Try.prog 57 1 = some (1,55):=by kernel_rfl
theorem z57 : zcOf Go.Proofs.Try.prog 57 = some [.r true (val (.int .i64 0)),.r true (row true 0 [])]:=by kernel_rfl
theorem zp57 : zpOf Go.Proofs.Try.prog 57 = some (.agg [val (.int .i64 0),row true 0 []]):=by kernel_rfl
theorem bl57 : bldOf Go.Proofs.Try.prog 57 = some [(0,1),(1,1)]:=by kernel_rfl
theorem ty59 : tyOf Go.Proofs.Try.prog 59 = some (true,3):=by kernel_rfl
theorem fl59_0 : fldOf Go.Proofs.Try.prog 59 0 = some (0,3):=by kernel_rfl
theorem fl59_1 : fldOf Go.Proofs.Try.prog 59 1 = some (1,3):=by kernel_rfl
theorem fl59_2 : fldOf Go.Proofs.Try.prog 59 2 = some (2,3):=by kernel_rfl
theorem z59 : zcOf Go.Proofs.Try.prog 59 = some [.r true (val (.int .i64 0)),.r true (val (.int .i64 0)),.r true (val (.int .i64 0))]:=by kernel_rfl
theorem zp59 : zpOf Go.Proofs.Try.prog 59 = some (.agg [val (.int .i64 0),val (.int .i64 0),val (.int .i64 0)]):=by kernel_rfl
theorem bl59 : bldOf Go.Proofs.Try.prog 59 = some [(0,1),(1,1),(2,1)]:=by kernel_rfl
theorem ty64 : tyOf Go.Proofs.Try.prog 64 = some (false,1):=by kernel_rfl
theorem z64 : zcOf Go.Proofs.Try.prog 64 = some [.r true (val (.nilFunc))]:=by kernel_rfl
theorem zp64 : zpOf Go.Proofs.Try.prog 64 = some (.one (val (.nilFunc))):=by kernel_rfl
theorem ty70 : tyOf Go.Proofs.Try.prog 70 = some (true,3):=by kernel_rfl
theorem fl70_0 : fldOf Go.Proofs.Try.prog 70 0 = some (0,3):=by kernel_rfl
theorem fl70_1 : fldOf Go.Proofs.Try.prog 70 1 = some (1,3):=by kernel_rfl
theorem fl70_2 : fldOf Go.Proofs.Try.prog 70 2 = some (2,3):=by kernel_rfl
theorem z70 : zcOf Go.Proofs.Try.prog 70 = some [.r true (val (.int .i64 0)),.r true (val (.int .i64 0)),.r true (val (.int .i64 0))]:=by kernel_rfl
theorem zp70 : zpOf Go.Proofs.Try.prog 70 = some (.agg [val (.int .i64 0),val (.int .i64 0),val (.int .i64 0)]):=by kernel_rfl
theorem bl70 : bldOf Go.Proofs.Try.prog 70 = some [(0,1),(1,1),(2,1)]:=by kernel_rfl
theorem ty73 : tyOf Go.Proofs.Try.prog 73 = some (true,3):=by kernel_rfl
theorem fl73_0 : fldOf Go.Proofs.Try.prog 73 0 = some (0,3):=by kernel_rfl
theorem fl73_1 : fldOf Go.Proofs.Try.prog 73 1 = some (1,3):=by kernel_rfl
theorem fl73_2 : fldOf Go.Proofs.Try.prog 73 2 = some (2,3):=by kernel_rfl
theorem z73 : zcOf Go.Proofs.Try.prog 73 = some [.r true (val (.int .i64 0)),.r true (val (.int .i64 0)),.r true (val (.int .i64 0))]:=by kernel_rfl
theorem zp73 : zpOf Go.Proofs.Try.prog 73 = some (.agg [val (.int .i64 0),val (.int .i64 0),val (.int .i64 0)]):=by kernel_rfl
theorem bl73 : bldOf Go.Proofs.Try.prog 73 = some [(0,1),(1,1),(2,1)]:=by kernel_rfl
theorem ty80 : tyOf Go.Proofs.Try.prog 80 = some (false,1):=by kernel_rfl
theorem z80 : zcOf Go.Proofs.Try.prog 80 = some [.r true (val (.nilFunc))]:=by kernel_rfl
theorem zp80 : zpOf Go.Proofs.Try.prog 80 = some (.one (val (.nilFunc))):=by kernel_rfl
theorem ty90 : tyOf Go.Proofs.Try.prog 90 = some (true,2):=by kernel_rfl
theorem fl90_0 : fldOf Go.Proofs.Try.prog 90 0 = some (0,36):=by kernel_rfl
theorem fl90_1 : fldOf Go.Proofs.Try.prog 90 1 = some (1,3):=by kernel_rfl
theorem z90 : zcOf Go.Proofs.Try.prog 90 = some [.r true (row true 0 []),.r true (val (.int .i64 0))]:=by kernel_rfl
theorem zp90 : zpOf Go.Proofs.Try.prog 90 = some (.agg [row true 0 [],val (.int .i64 0)]):=by kernel_rfl
theorem bl90 : bldOf Go.Proofs.Try.prog 90 = some [(0,1),(1,1)]:=by kernel_rfl
theorem ty100 : tyOf Go.Proofs.Try.prog 100 = some (false,1):=by kernel_rfl
theorem z100 : zcOf Go.Proofs.Try.prog 100 = some [.r true (val (.nilFunc))]:=by kernel_rfl
theorem zp100 : zpOf Go.Proofs.Try.prog 100 = some (.one (val (.nilFunc))):=by kernel_rfl
theorem ty102 : tyOf Go.Proofs.Try.prog 102 = some (true,2):=by kernel_rfl
theorem fl102_0 : fldOf Go.Proofs.Try.prog 102 0 = some (0,24):=by kernel_rfl
theorem fl102_1 : fldOf Go.Proofs.Try.prog 102 1 = some (1,3):=by kernel_rfl
theorem z102 : zcOf Go.Proofs.Try.prog 102 = some [.r true (row true 0 []),.r true (val (.int .i64 0))]:=by kernel_rfl
theorem zp102 : zpOf Go.Proofs.Try.prog 102 = some (.agg [row true 0 [],val (.int .i64 0)]):=by kernel_rfl
theorem bl102 : bldOf Go.Proofs.Try.prog 102 = some [(0,1),(1,1)]:=by kernel_rfl
theorem ty105 : tyOf Go.Proofs.Try.prog 105 = some (false,1):=by kernel_rfl
theorem z105 : zcOf Go.Proofs.Try.prog 105 = some [.r true (val (.pointer none))]:=by kernel_rfl
theorem zp105 : zpOf Go.Proofs.Try.prog 105 = some (.one (val (.pointer none))):=by kernel_rfl
theorem ty115 : tyOf Go.Proofs.Try.prog 115 = some (true,1):=by kernel_rfl
theorem fl115_0 : fldOf Go.Proofs.Try.prog 115 0 = some (0,24):=by kernel_rfl
theorem z115 : zcOf Go.Proofs.Try.prog 115 = some [.r true (row true 0 [])]:=by kernel_rfl
theorem zp115 : zpOf Go.Proofs.Try.prog 115 = some (.agg [row true 0 []]):=by kernel_rfl
theorem bl115 : bldOf Go.Proofs.Try.prog 115 = some [(0,1)]:=by kernel_rfl
theorem ty119 : tyOf Go.Proofs.Try.prog 119 = some (false,1):=by kernel_rfl
theorem z119 : zcOf Go.Proofs.Try.prog 119 = some [.r true (val (.pointer none))]:=by kernel_rfl
theorem zp119 : zpOf Go.Proofs.Try.prog 119 = some (.one (val (.pointer none))):=by kernel_rfl
theorem ty124 : tyOf Go.Proofs.Try.prog 124 = some (false,1):=by kernel_rfl
theorem z124 : zcOf Go.Proofs.Try.prog 124 = some [.r true (val (.pointer none))]:=by kernel_rfl
theorem zp124 : zpOf Go.Proofs.Try.prog 124 = some (.one (val (.pointer none))):=by kernel_rfl
def tb : TB:=⟨[(3,false,1),(4,false,1),(5,false,1),(9,false,1),(17,false,1),(19,true,1),(22,false,1),(24,false,1),(25,false,1),(26,false,1),(28,true,4),(36,false,1),(53,false,1),(55,false,1),(57,true,2),(59,true,3),(64,false,1),(70,true,3),(73,true,3),(80,false,1),(90,true,2),(100,false,1),(102,true,2),(105,false,1),(115,true,1),(119,false,1),(124,false,1)],[(19,0,0,17),(28,0,0,3),(28,1,1,24),(28,2,2,25),(28,3,3,26),(57,0,0,3),(57,1,1,55),(59,0,0,3),(59,1,1,3),(59,2,2,3),(70,0,0,3),(70,1,1,3),(70,2,2,3),(73,0,0,3),(73,1,1,3),(73,2,2,3),(90,0,0,36),(90,1,1,3),(102,0,0,24),(102,1,1,3),(115,0,0,24)],[(22,24,1),(24,3,1),(25,4,1),(26,70,3),(36,5,1),(55,73,3)],[(3,[.r true (val (.int .i64 0))]),(5,[.r true (val (.int .u8 0))]),(9,[.r true (val (.string ⟨#[]⟩))]),(17,[.r true (val (.pointer none))]),(19,[.r true (val (.pointer none))]),(22,[.r true (row true 0 [])]),(24,[.r true (row true 0 [])]),(25,[.r true (row true 0 [])]),(26,[.r true (row true 0 [])]),(28,[.r true (val (.int .i64 0)),.r true (row true 0 []),.r true (row true 0 []),.r true (row true 0 [])]),(36,[.r true (row true 0 [])]),(53,[.r true (val (.pointer none))]),(55,[.r true (row true 0 [])]),(57,[.r true (val (.int .i64 0)),.r true (row true 0 [])]),(59,[.r true (val (.int .i64 0)),.r true (val (.int .i64 0)),.r true (val (.int .i64 0))]),(64,[.r true (val (.nilFunc))]),(70,[.r true (val (.int .i64 0)),.r true (val (.int .i64 0)),.r true (val (.int .i64 0))]),(73,[.r true (val (.int .i64 0)),.r true (val (.int .i64 0)),.r true (val (.int .i64 0))]),(80,[.r true (val (.nilFunc))]),(90,[.r true (row true 0 []),.r true (val (.int .i64 0))]),(100,[.r true (val (.nilFunc))]),(102,[.r true (row true 0 []),.r true (val (.int .i64 0))]),(105,[.r true (val (.pointer none))]),(115,[.r true (row true 0 [])]),(119,[.r true (val (.pointer none))]),(124,[.r true (val (.pointer none))])],[4],[(19,[(0,1)]),(28,[(0,1),(1,1),(2,1),(3,1)]),(57,[(0,1),(1,1)]),(59,[(0,1),(1,1),(2,1)]),(70,[(0,1),(1,1),(2,1)]),(73,[(0,1),(1,1),(2,1)]),(90,[(0,1),(1,1)]),(102,[(0,1),(1,1)]),(115,[(0,1)])]⟩
theorem tbOk : TbOk Go.Proofs.Try.prog tb:=⟨⟨ty3,ty4,ty5,ty9,ty17,ty19,ty22,ty24,ty25,ty26,ty28,ty36,ty53,ty55,ty57,ty59,ty64,ty70,ty73,ty80,ty90,ty100,ty102,ty105,ty115,ty119,ty124,trivial⟩,⟨fl19_0,fl28_0,fl28_1,fl28_2,fl28_3,fl57_0,fl57_1,fl59_0,fl59_1,fl59_2,fl70_0,fl70_1,fl70_2,fl73_0,fl73_1,fl73_2,fl90_0,fl90_1,fl102_0,fl102_1,fl115_0,trivial⟩,⟨sl22,sl24,sl25,sl26,sl36,sl55,trivial⟩,⟨z3,z5,z9,z17,z19,z22,z24,z25,z26,z28,z36,z53,z55,z57,z59,z64,z70,z73,z80,z90,z100,z102,z105,z115,z119,z124,trivial⟩,⟨bo4,trivial⟩,⟨bl19,bl28,bl57,bl59,bl70,bl73,bl90,bl102,bl115,trivial⟩⟩
def tl : TL:=⟨[(22,24,1,24),(24,3,1,8),(25,4,1,1),(26,70,3,24),(36,5,1,1),(55,73,3,24)],[(3,(.one (val (.int .i64 0)))),(5,(.one (val (.int .u8 0)))),(9,(.one (val (.string ⟨#[]⟩)))),(17,(.one (val (.pointer none)))),(19,(.agg [val (.pointer none)])),(22,(.one (row true 0 []))),(24,(.one (row true 0 []))),(25,(.one (row true 0 []))),(26,(.one (row true 0 []))),(28,(.agg [val (.int .i64 0),row true 0 [],row true 0 [],row true 0 []])),(36,(.one (row true 0 []))),(53,(.one (val (.pointer none)))),(55,(.one (row true 0 []))),(57,(.agg [val (.int .i64 0),row true 0 []])),(59,(.agg [val (.int .i64 0),val (.int .i64 0),val (.int .i64 0)])),(64,(.one (val (.nilFunc)))),(70,(.agg [val (.int .i64 0),val (.int .i64 0),val (.int .i64 0)])),(73,(.agg [val (.int .i64 0),val (.int .i64 0),val (.int .i64 0)])),(80,(.one (val (.nilFunc)))),(90,(.agg [row true 0 [],val (.int .i64 0)])),(100,(.one (val (.nilFunc)))),(102,(.agg [row true 0 [],val (.int .i64 0)])),(105,(.one (val (.pointer none)))),(115,(.agg [row true 0 []])),(119,(.one (val (.pointer none)))),(124,(.one (val (.pointer none))))]⟩
theorem tlOk : TLOk Go.Proofs.Try.prog tl:=⟨⟨el22,el24,el25,el26,el36,el55,trivial⟩,⟨zp3,zp5,zp9,zp17,zp19,zp22,zp24,zp25,zp26,zp28,zp36,zp53,zp55,zp57,zp59,zp64,zp70,zp73,zp80,zp90,zp100,zp102,zp105,zp115,zp119,zp124,trivial⟩⟩
theorem wk {P Q : Prop} (q : Q) (h : Q → P := by intro q;first|(with_reducible first|exact aw_seq q|exact thn_normal q|exact thn_ret q|exact thn_exit q|exact blk_normal q|exact blk_ret q|exact blk_hit q|exact blk_miss rfl q|exact aw_block q|exact aw_ret q|exact aw_skip q|exact aw_exit q|exact w_nil q|exact x_nil (by kernel_rfl) q)|exact aw_region q|exact aw_region_draw (by kernel_rfl) q|exact aw_yes rfl q|exact aw_no rfl q|((with_reducible refine w_seq ?_);first|exact r_q tbOk rfl rfl rfl rfl q|exact r_e tbOk rfl rfl rfl rfl rfl q|exact r_yes tbOk rfl rfl rfl rfl rfl rfl q|exact w_no rfl rfl (Zb rfl) rfl rfl rfl q|exact w_un rfl rfl (Zb rfl) rfl rfl q)|((with_reducible refine w_drw ?_);first|exact rx_q tbOk rfl rfl rfl rfl q|exact rx_e tbOk rfl rfl rfl rfl rfl q|exact rx_yes tbOk rfl rfl rfl rfl rfl rfl q|exact x_no rfl rfl (Zb rfl) rfl rfl rfl q|exact x_un rfl rfl (Zb rfl) rfl rfl q)) : P := h q
theorem wkN {P Q : Prop} (q : Q) (h : Q → P := by intro q;first|(with_reducible first|exact thn_normal q|exact thn_ret q|exact thn_exit q|exact blk_normal q|exact blk_ret q|exact blk_hit q|exact blk_miss rfl q|exact aw_block q|exact aw_ret q|exact aw_skip q|exact aw_exit q|exact w_nil q|exact x_nil (by kernel_rfl) q)|exact aw_region q|exact aw_region_draw (by kernel_rfl) q|exact aw_yes rfl q|exact aw_no rfl q|((with_reducible refine w_seq ?_);first|exact r_q tbOk rfl rfl rfl rfl q|exact r_e tbOk rfl rfl rfl rfl rfl q|exact r_yes tbOk rfl rfl rfl rfl rfl rfl q|exact w_no rfl rfl (Zb rfl) rfl rfl rfl q|exact w_un rfl rfl (Zb rfl) rfl rfl q)|((with_reducible refine w_drw ?_);first|exact rx_q tbOk rfl rfl rfl rfl q|exact rx_e tbOk rfl rfl rfl rfl rfl q|exact rx_yes tbOk rfl rfl rfl rfl rfl rfl q|exact x_no rfl rfl (Zb rfl) rfl rfl rfl q|exact x_un rfl rfl (Zb rfl) rfl rfl q)) : P := h q
theorem wkB {P Q R : Prop} (q : Q) (r : R) (h : Q → R → P := by intro q r;(first|refine aw_ways rfl ?_ ?_|refine r_split rfl rfl rfl ?_ ?_);(focus (intro g;(fail_if_success (exact Bool.noConfusion g));first|(have t : True → True := q;simp only [prn] at g;done)|(simp only [prn] at g;revert g;exact q)|(revert g;exact q)));(focus (intro g;(fail_if_success (exact Bool.noConfusion g));first|(have t : True → True := r;simp only [prn] at g;done)|(simp only [prn] at g;revert g;exact r)|(revert g;exact r)))) : P := h q r
theorem wkX {P : Prop} (h : P := by first|contradiction|trivial|(exfalso;omega)) : P := h
theorem sbH {P : Prop} (h : P := by repeat' (first|exact trivial|refine subHR_cons rfl ?_ ?_|rfl)) : P := h
theorem wkS {P Q R : Prop} (q : Q) (r : R) (h : Q → R → P := by intro q r;first|exact subR_cons rfl q r|exact subHR_cons rfl q r) : P := h q r
theorem wkD {P Q : Prop} (q : Q) (h : Q → P := by intro q;(dsimp only [P0.d, Res.d, List.map_cons, List.map_nil, List.set_cons_zero, List.set_cons_succ, Nat.reduceAdd]);exact q) : P := h q
theorem kRf {P : Prop} (h : P := by kernel_rfl) : P := h
theorem oM {P : Prop} (h : P := by omega) : P := h
theorem asE {P : Prop} (h : P := by rw [Za rfl];exact asD_r rfl) : P := h
theorem wkE {P : Prop} (h : P := by first|exact trivial|rfl|(refine Zq ?_;(first|rfl|omega|(rw [IntWalk.i64_in _ (by omega)] <;> omega)|(simp;done)|(simp;omega)))|(refine d_bool ?_;(first|(simp_all;done)|(rw [Bool.eq_iff_iff];simp_all;done)|(rw [Bool.eq_iff_iff];simp_all;omega)|(rw [Bool.eq_iff_iff];simp;omega)))) : P := h
theorem wkW {P : Prop} (h : P := by repeat' (first|exact trivial|refine subR_cons rfl ?_ ?_|refine subHR_cons rfl ?_ ?_|exact wkE|fail)) : P := h
theorem tyF0 {P : Prop} (h : P := by (with_reducible first|exact ty3|exact ty4|exact ty5|exact ty9|exact ty17|exact ty19|exact ty22|exact ty24|exact ty25|exact ty26|exact ty28|exact ty36|exact ty53|exact ty55|exact ty57|exact ty59|exact ty64|exact ty70|exact ty73|exact ty80|exact ty90|exact ty100|exact ty102|exact ty105|exact ty115|exact ty119|exact ty124)) : P := h
end Go.Proofs.Ytmkijbfiilpccaa.Abs
