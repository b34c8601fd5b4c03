/-
 Part 9 of the proof: what the last text leans on.
-/
import Derived.Test.YtfndblbeikocdaaGreatProg
import Derived.KernelRfl
import Derived.Test.YtfndblbeikocdaaGreatW8
open Nat renaming zero_le → aL, le_trans → af, lt_of_lt_of_le → aN
open Go.Value renaming string → di
open Go.Value.bool renaming injEq → ni
open List renaming drop_of_length_le → fc, drop_zero → pA, nil_append → eB, any_cons → jC, foldl_cons → il, length_map → aA, length_take → aX, length_append → ae, length_cons → bT, length_nil → bI, take_add_one → bg, take_of_length_le → ba, mem_of_getElem? → aH
open BitVec renaming ofInt → cm
open Ieee.Datum renaming quotient → tU
set_option linter.unusedVariables false
set_option linter.unusedSimpArgs false
namespace Go.Proofs.YtfndblbeikocdaaGreat
open Go.Proofs.Tryz renaming prog → pg
open Go.bB
set_option maxRecDepth 100000
section
variable {R : Ending → World → Prop} {w0 : World} {p0 p1 p2 p3 p4 p5 p6 p7 p8 p9 p10 p11 : Value}
theorem qt {R:Ending→World→Prop} {w0:World} {p0:Value} {bS bY bW dW ey:Int} (h:kF R w0 (aR w0) p0 bS bY bW dW ey):Calls pg 126 #[p0,(.agg #[(I bS),(I bY),(I bW),(I dW),(I ey)])] w0 R:=
 aK (pl:=qu) Tryz.func126 (by kernel_rfl) (by kernel_rfl) h
theorem GS {R:Ending→World→Prop} {w0:World} {p0:Value} {bS bY bW dW ey eN eE eG:Int} {gl:Value} (h:ya R w0 (aR w0) p0 bS bY bW dW ey eN eE eG gl):Calls pg 127 #[p0,(.agg #[(I bS),(I bY),(I bW),(I dW),(I ey),(I eN),(I eE),(I eG),gl])] w0 R:=
 aK (pl:=Hc) Tryz.func127 (by kernel_rfl) (by kernel_rfl) h
theorem Vb {R:Ending→World→Prop} {w0:World} {aQ aV aW:Int} (h:IH R w0 (aR w0) aQ aV aW):Calls pg 128 #[(.agg #[(I aQ),(I aV),(I aW)])] w0 R:=
 aK (pl:=US) Tryz.func128 (by kernel_rfl) (by kernel_rfl) h
theorem JJ {R:Ending→World→Prop} {w0:World} {p0:Value} {bS bY bW:Int} (h:Ah R w0 (aR w0) p0 bS bY bW):Calls pg 129 #[p0,(.agg #[(I bS),(I bY),(I bW)])] w0 R:=
 aK (pl:=Kf) Tryz.func129 (by kernel_rfl) (by kernel_rfl) h
theorem N5 {R:Ending→World→Prop} {w0:World} {p0 p1:Nat} (h:CX R w0 (aR w0) p0 p1):Calls pg 130 #[(.float .f64 p0),(.float .f64 p1)] w0 R:=
 aK (pl:=NV) Tryz.func130 (by kernel_rfl) (by kernel_rfl) h
theorem IW {R:Ending→World→Prop} {w0:World} {aQ aV aW bq bG bJ:Int} {bM bV:Value} {bS bY bW dW ey eN:Int} {eE eG:Value} (h:zF R w0 (aR w0) aQ aV aW bq bG bJ bM bV bS bY bW dW ey eN eE eG):Calls pg 132 #[(.agg #[(I aQ),(I aV),(I aW),(I bq),(I bG),(I bJ),bM,bV]),(.agg #[(I bS),(I bY),(I bW),(I dW),(I ey),(I eN),eE,eG])] w0 R:=
 aK (pl:=II) Tryz.func132 (by kernel_rfl) (by kernel_rfl) h
theorem pH (h:jR R w0 (aR w0) p0):Calls pg 136 #[p0] w0 R:=cv ⟨4,[],[],[0,1,2],[],[]⟩ Tryz.func136 h
theorem vl {R:Ending→World→Prop} {w0:World} {p0:Value} {p1:ByteArray} (h:nY R w0 (aR w0) p0 p1):Calls pg 137 #[p0,(.string p1)] w0 R:=
 aK (pl:=vj) Tryz.func137 (by kernel_rfl) (by kernel_rfl) h
theorem mY (h:iY R w0 (aR w0) p0):Calls pg 139 #[p0] w0 R:=cv ⟨4,[],[],[0,1,2],[],[]⟩ Tryz.func139 h
theorem HS {R:Ending→World→Prop} {w0:World} {p0:Value} {p1:Int} {p2:Value} (h:zp R w0 (aR w0) p0 p1 p2):Calls pg 140 #[p0,(I p1),p2] w0 R:=
 aK (pl:=IJ) Tryz.func140 (by kernel_rfl) (by kernel_rfl) h
theorem Ly {R:Ending→World→Prop} {w0:World} {p0:Value} {p1:ByteArray} (h:BB R w0 (aR w0) p0 p1):Calls pg 141 #[p0,(.string p1)] w0 R:=
 aK (pl:=Mk) Tryz.func141 (by kernel_rfl) (by kernel_rfl) h
theorem JS {R:Ending→World→Prop} {w0:World} {p0:Value} {p1:ByteArray} (h:Ar R w0 (aR w0) p0 p1):Calls pg 143 #[p0,(.string p1)] w0 R:=
 aK (pl:=Kg) Tryz.func143 (by kernel_rfl) (by kernel_rfl) h
theorem Tg {R:Ending→World→Prop} {w0:World} {p0:ByteArray} (h:HR R w0 (aR w0) p0):Calls pg 144 #[(.string p0)] w0 R:=
 aK (pl:=UT) Tryz.func144 (by kernel_rfl) (by kernel_rfl) h
theorem Dm {R:Ending→World→Prop} {w0:World} {c0 c1:Value} (h:uy R w0 (aR w0) c0 c1):Calls pg 145 #[c0,c1] w0 R:=
 aK (pl:=DC) Tryz.func145 (by kernel_rfl) (by kernel_rfl) h
theorem Tk {R:Ending→World→Prop} {w0:World} {p0:Value} {p1:Int} (h:HW R w0 (aR w0) p0 p1):Calls pg 146 #[p0,(Value.int IntKind.u32 p1)] w0 R:=
 aK (pl:=UU) Tryz.func146 (by kernel_rfl) (by kernel_rfl) h
theorem JD (h:Ab R w0 (aR w0) p0):Calls pg 147 #[p0] w0 R:=cv ⟨39,[],[],[0,2,7,27],[],[]⟩ Tryz.func147 h
theorem Fb {R:Ending→World→Prop} {w0:World} {c0 c1:Value} (h:wU R w0 (aR w0) c0 c1):Calls pg 148 #[c0,c1] w0 R:=
 aK (pl:=FJ) Tryz.func148 (by kernel_rfl) (by kernel_rfl) h
theorem Dv {R:Ending→World→Prop} {w0:World} {c0 c1 c2:Value} (h:uG R w0 (aR w0) c0 c1 c2):Calls pg 149 #[c0,c1,c2] w0 R:=
 aK (pl:=DD) Tryz.func149 (by kernel_rfl) (by kernel_rfl) h
theorem OF (h:DY R w0 (aR w0)):Calls pg 150 #[] w0 R:=cv ⟨24,[(0,(pg.cellsOf 243))],[],[1,2,3,4,5,9,10],[],[3,4,9]⟩ Tryz.func150 h
theorem Pt {R:Ending→World→Prop} {w0:World} {aQ aV aW:Int} (h:Es R w0 (aR w0) aQ aV aW):Calls pg 152 #[(.agg #[(I aQ),(I aV),(I aW)])] w0 R:=
 aK (pl:=Ph) Tryz.func152 (by kernel_rfl) (by kernel_rfl) h
theorem SZ (h:HL R w0 (aR w0) p0):Calls pg 153 #[p0] w0 R:=cv ⟨32,[],[],[0,2,3,4,5,6,7,8,27],[15,16,17,18,19,20,21,22,23,24,25,26],[7]⟩ Tryz.func153 h
theorem S7 {R:Ending→World→Prop} {w0:World} {p0:Int} {p1:Bool} {p2:Value} (h:HO R w0 (aR w0) p0 p1 p2):Calls pg 154 #[(I p0),(B p1),p2] w0 R:=
 aK (pl:=UW) Tryz.func154 (by kernel_rfl) (by kernel_rfl) h
theorem S4 (h:HM R w0 (aR w0) p0):Calls pg 155 #[p0] w0 R:=cv ⟨42,[(5,(pg.cellsOf 166))],[13,17,22,28,33,34],[0,2,3,6,7,8,9,38],[21,23,24,25,27,29,30,31,32,35,36,37],[3,8]⟩ Tryz.func155 h
theorem MW (h:CD R w0 (aR w0) p0):Calls pg 156 #[p0] w0 R:=cv ⟨24,[(5,(pg.cellsOf 118))],[13,17],[0,2,3,6,7,8,9,20],[],[3,8]⟩ Tryz.func156 h
theorem Rz (h:GB R w0 (aR w0) p0):Calls pg 157 #[p0] w0 R:=cv ⟨35,[],[],[0,2,3,4,5,6,7,8,30],[14,15,16,18,19,20,21,22,23,24,25,26,27,28,29],[7]⟩ Tryz.func157 h
theorem VI {R:Ending→World→Prop} {w0:World} {p0:Value} {p1:Int} (h:KJ R w0 (aR w0) p0 p1):Calls pg 158 #[p0,(I p1)] w0 R:=
 aK (pl:=Wb) Tryz.func158 (by kernel_rfl) (by kernel_rfl) h
theorem Ot {R:Ending→World→Prop} {w0:World} {aQ aV aW bq bG bJ bM bV cD cV:Int} {cg:Bool} {bZ:Int} {dm:Nat} {de da dc df:Value} {dh cM:Int} {cK cN:Nat} {cO cP dd cQ cW cX:Int} {cY cZ:Value} (h:DT R w0 (aR w0) aQ aV aW bq bG bJ bM bV cD cV cg bZ dm de da dc df dh cM cK cN cO cP dd cQ cW cX cY cZ):Calls pg 159 #[(.agg #[(I aQ),(I aV),(I aW),(I bq),(I bG),(I bJ),(I bM),(I bV),(I cD),(I cV),(B cg),(I bZ),(.float .f64 dm),de,da,dc,df,(I dh),(I cM),(.float .f64 cK),(.float .f64 cN),(I cO),(I cP),(I dd),(I cQ),(I cW),(I cX),cY,cZ])] w0 R:=
 aK (pl:=Pj) Tryz.func159 (by kernel_rfl) (by kernel_rfl) h
theorem Vc {R:Ending→World→Prop} {w0:World} {aQ aV:Int} {aW bq:Nat} (h:IK R w0 (aR w0) aQ aV aW bq):Calls pg 160 #[(.agg #[(I aQ),(I aV),(.float .f64 aW),(.float .f64 bq)])] w0 R:=
 aK (pl:=UX) Tryz.func160 (by kernel_rfl) (by kernel_rfl) h
theorem Vd (h:IL R w0 (aR w0) p0 p1):Calls pg 161 #[p0,p1] w0 R:=cv ⟨80,[(9,(pg.cellsOf 225)),(11,(pg.cellsOf 182)),(13,(pg.cellsOf 182))],[30,32,35,51,74],[0,1,4,5,6,7,12,14,16,17,18,19,25,38,39,40,41,56,60,62,66],[],[7,18,40]⟩ Tryz.func161 h
theorem GJ {R:Ending→World→Prop} {w0:World} {p0:ByteArray} {c0:Value} (h:xR R w0 (aR w0) p0 c0):Calls pg 162 #[(.string p0),c0] w0 R:=
 aK (pl:=Hd) Tryz.func162 (by kernel_rfl) (by kernel_rfl) h
theorem Wh {R:Ending→World→Prop} {w0:World} {aQ aV:Int} {aW bq p1:Nat} (h:Lj R w0 (aR w0) aQ aV aW bq p1):Calls pg 163 #[(.agg #[(I aQ),(I aV),(.float .f64 aW),(.float .f64 bq)]),(.float .f64 p1)] w0 R:=
 aK (pl:=Wc) Tryz.func163 (by kernel_rfl) (by kernel_rfl) h
theorem Wi {R:Ending→World→Prop} {w0:World} {p0:ByteArray} (h:Lk R w0 (aR w0) p0):Calls pg 164 #[(.string p0)] w0 R:=
 aK (pl:=Wd) Tryz.func164 (by kernel_rfl) (by kernel_rfl) h
theorem IX {R:Ending→World→Prop} {w0:World} {aQ aV aW bq bG bJ:Int} {bM bV:Value} (h:zG R w0 (aR w0) aQ aV aW bq bG bJ bM bV):Calls pg 165 #[(.agg #[(I aQ),(I aV),(I aW),(I bq),(I bG),(I bJ),bM,bV])] w0 R:=
 aK (pl:=IM) Tryz.func165 (by kernel_rfl) (by kernel_rfl) h
theorem Vu {R:Ending→World→Prop} {w0:World} {aQ aV aW bq bG bJ bM bV cD cV:Int} {cg:Bool} {bZ:Int} {dm:Nat} {de da dc df:Value} {dh cM:Int} {cK cN:Nat} {cO cP dd cQ cW cX:Int} {cY cZ:Value} (h:Kx R w0 (aR w0) aQ aV aW bq bG bJ bM bV cD cV cg bZ dm de da dc df dh cM cK cN cO cP dd cQ cW cX cY cZ):Calls pg 166 #[(.agg #[(I aQ),(I aV),(I aW),(I bq),(I bG),(I bJ),(I bM),(I bV),(I cD),(I cV),(B cg),(I bZ),(.float .f64 dm),de,da,dc,df,(I dh),(I cM),(.float .f64 cK),(.float .f64 cN),(I cO),(I cP),(I dd),(I cQ),(I cW),(I cX),cY,cZ])] w0 R:=
 aK (pl:=We) Tryz.func166 (by kernel_rfl) (by kernel_rfl) h
theorem vm (h:nZ R w0 (aR w0) p0):Calls pg 167 #[p0] w0 R:=cv ⟨8,[],[],[0,2,4],[],[]⟩ Tryz.func167 h
theorem QX {R:Ending→World→Prop} {w0:World} {p0:Value} {p1:Nat} (h:Gc R w0 (aR w0) p0 p1):Calls pg 168 #[p0,(.float .f64 p1)] w0 R:=
 aK (pl:=Ru) Tryz.func168 (by kernel_rfl) (by kernel_rfl) h
theorem sI (h:lS R w0 (aR w0) p0 p1):Calls pg 169 #[p0,p1] w0 R:=cv ⟨42,[],[],[0,1,4,5,6,7,12,19,29],[],[5,6]⟩ Tryz.func169 h
theorem DR {R:Ending→World→Prop} {w0:World} {p0:ByteArray} {c0:Value} (h:vB R w0 (aR w0) p0 c0):Calls pg 170 #[(.string p0),c0] w0 R:=
 aK (pl:=Et) Tryz.func170 (by kernel_rfl) (by kernel_rfl) h
theorem rT {R:Ending→World→Prop} {w0:World} {p0:Value} {bS bY bW dW ey:Int} (h:lF R w0 (aR w0) p0 bS bY bW dW ey):Calls pg 171 #[p0,(.agg #[(I bS),(I bY),(I bW),(I dW),(I ey)])] w0 R:=
 aK (pl:=rY) Tryz.func171 (by kernel_rfl) (by kernel_rfl) h
theorem VN {R:Ending→World→Prop} {w0:World} {aQ aV aW bq bG bJ bM bV:Int} {cD:Value} (h:KT R w0 (aR w0) aQ aV aW bq bG bJ bM bV cD):Calls pg 172 #[(.agg #[(I aQ),(I aV),(I aW),(I bq),(I bG),(I bJ),(I bM),(I bV),cD])] w0 R:=
 aK (pl:=Wf) Tryz.func172 (by kernel_rfl) (by kernel_rfl) h
theorem LD {R:Ending→World→Prop} {w0:World} {p0:Value} {bS bY bW dW ey eN eE eG:Int} {gl:Value} (h:BF R w0 (aR w0) p0 bS bY bW dW ey eN eE eG gl):Calls pg 173 #[p0,(.agg #[(I bS),(I bY),(I bW),(I dW),(I ey),(I eN),(I eE),(I eG),gl])] w0 R:=
 aK (pl:=Ml) Tryz.func173 (by kernel_rfl) (by kernel_rfl) h
theorem po {R:Ending→World→Prop} {w0:World} {p0:Value} {p1 p2:Int} (h:jG R w0 (aR w0) p0 p1 p2):Calls pg 174 #[p0,(I p1),(I p2)] w0 R:=
 aK (pl:=py) Tryz.func174 (by kernel_rfl) (by kernel_rfl) h
theorem Ve {R:Ending→World→Prop} {w0:World} {p0:ByteArray} (h:IN R w0 (aR w0) p0):Calls pg 194 #[(.string p0)] w0 R:=
 aK (pl:=UY) Tryz.func194 (by kernel_rfl) (by kernel_rfl) h
theorem Q7 (h:Gi R w0 (aR w0) p0):Calls pg 195 #[p0] w0 R:=cv ⟨18,[(4,(pg.cellsOf 43))],[],[0,2,5,6,7,8,13],[],[7]⟩ Tryz.func195 h
theorem Vf {R:Ending→World→Prop} {w0:World} {aQ:Int} {aV:Nat} {aW:ByteArray} (h:IP R w0 (aR w0) aQ aV aW):Calls pg 196 #[(.agg #[(I aQ),(.float .f64 aV),(.string aW)])] w0 R:=
 aK (pl:=UZ) Tryz.func196 (by kernel_rfl) (by kernel_rfl) h
theorem SQ (h:HJ R w0 (aR w0) p0 p1):Calls pg 197 #[p0,p1] w0 R:=cv ⟨183,[],[],[0,1,4,13,14,21,30,78,95,102,119,138,145,169],[],[]⟩ Tryz.func197 h
theorem Pu {R:Ending→World→Prop} {w0:World} {p0:Nat} (h:Eu R w0 (aR w0) p0):Calls pg 198 #[(.float .f64 p0)] w0 R:=
 aK (pl:=Pk) Tryz.func198 (by kernel_rfl) (by kernel_rfl) h
theorem Wj (h:Ll R w0 (aR w0)):Calls pg 199 #[] w0 R:=cv ⟨5,[],[],[0],[],[]⟩ Tryz.func199 h
theorem N6 {R:Ending→World→Prop} {w0:World} {aQ:ByteArray} {aV:Value} {p1:ByteArray} (h:CY R w0 (aR w0) aQ aV p1):Calls pg 200 #[(.agg #[(.string aQ),aV]),(.string p1)] w0 R:=
 aK (pl:=NW) Tryz.func200 (by kernel_rfl) (by kernel_rfl) h
theorem qp (h:ky R w0 (aR w0) p0):Calls pg 201 #[p0] w0 R:=cv ⟨8,[],[],[0,2,4],[],[]⟩ Tryz.func201 h
theorem FP {R:Ending→World→Prop} {w0:World} {p0:Value} {bS bY bW dW ey eN:Int} {eE eG:Value} (h:xK R w0 (aR w0) p0 bS bY bW dW ey eN eE eG):Calls pg 202 #[p0,(.agg #[(I bS),(I bY),(I bW),(I dW),(I ey),(I eN),eE,eG])] w0 R:=
 aK (pl:=FK) Tryz.func202 (by kernel_rfl) (by kernel_rfl) h
theorem Kl {R:Ending→World→Prop} {w0:World} {p0:Value} {bS bY bW dW ey eN:Int} {eE eG:Value} (h:AB R w0 (aR w0) p0 bS bY bW dW ey eN eE eG):Calls pg 203 #[p0,(.agg #[(I bS),(I bY),(I bW),(I dW),(I ey),(I eN),eE,eG])] w0 R:=
 aK (pl:=Kh) Tryz.func203 (by kernel_rfl) (by kernel_rfl) h
theorem RA {R:Ending→World→Prop} {w0:World} {aQ aV aW bq bG bJ:Int} {bM bV:Value} (h:GC R w0 (aR w0) aQ aV aW bq bG bJ bM bV):Calls pg 204 #[(.agg #[(I aQ),(I aV),(I aW),(I bq),(I bG),(I bJ),bM,bV])] w0 R:=
 aK (pl:=Rv) Tryz.func204 (by kernel_rfl) (by kernel_rfl) h
theorem RC {R:Ending→World→Prop} {w0:World} {p0:ByteArray} (h:GD R w0 (aR w0) p0):Calls pg 205 #[(.string p0)] w0 R:=
 aK (pl:=Rw) Tryz.func205 (by kernel_rfl) (by kernel_rfl) h
theorem Vg (h:IQ R w0 (aR w0) p0):Calls pg 206 #[p0] w0 R:=cv ⟨32,[],[],[0,2,3,4,5,6,7,8,27],[15,16,17,18,19,20,21,22,23,24,25,26],[7]⟩ Tryz.func206 h
theorem Km (h:AD R w0 (aR w0) p0):Calls pg 207 #[p0] w0 R:=cv ⟨19,[(5,(pg.cellsOf 118))],[13],[0,2,3,6,7,8,9],[],[3,8]⟩ Tryz.func207 h
theorem N7 {R:Ending→World→Prop} {w0:World} {aQ aV aW bq bG bJ bM bV cD cV:Int} {cg:Bool} {bZ:Int} {dm:Nat} {de da dc df:Value} {dh cM:Int} {cK cN:Nat} {cO cP dd cQ cW cX:Int} {cY cZ:Value} (h:CZ R w0 (aR w0) aQ aV aW bq bG bJ bM bV cD cV cg bZ dm de da dc df dh cM cK cN cO cP dd cQ cW cX cY cZ):Calls pg 208 #[(.agg #[(I aQ),(I aV),(I aW),(I bq),(I bG),(I bJ),(I bM),(I bV),(I cD),(I cV),(B cg),(I bZ),(.float .f64 dm),de,da,dc,df,(I dh),(I cM),(.float .f64 cK),(.float .f64 cN),(I cO),(I cP),(I dd),(I cQ),(I cW),(I cX),cY,cZ])] w0 R:=
 aK (pl:=NX) Tryz.func208 (by kernel_rfl) (by kernel_rfl) h
theorem Vh {R:Ending→World→Prop} {w0:World} {aQ aV aW bq bG bJ bM bV cD cV:Int} {cg:Bool} {bZ:Int} {dm:Nat} {de da dc df:Value} {dh cM:Int} {cK cN:Nat} {cO cP dd cQ cW cX:Int} {cY cZ:Value} (h:IS R w0 (aR w0) aQ aV aW bq bG bJ bM bV cD cV cg bZ dm de da dc df dh cM cK cN cO cP dd cQ cW cX cY cZ):Calls pg 209 #[(.agg #[(I aQ),(I aV),(I aW),(I bq),(I bG),(I bJ),(I bM),(I bV),(I cD),(I cV),(B cg),(I bZ),(.float .f64 dm),de,da,dc,df,(I dh),(I cM),(.float .f64 cK),(.float .f64 cN),(I cO),(I cP),(I dd),(I cQ),(I cW),(I cX),cY,cZ])] w0 R:=
 aK (pl:=U5) Tryz.func209 (by kernel_rfl) (by kernel_rfl) h
theorem Og {R:Ending→World→Prop} {w0:World} {aQ aV aW bq bG bJ bM bV cD cV:Int} {cg:Bool} {bZ:Int} {dm:Nat} {de da dc df:Value} {dh cM:Int} {cK cN:Nat} {cO cP dd cQ cW cX:Int} {cY cZ:Value} (h:DN R w0 (aR w0) aQ aV aW bq bG bJ bM bV cD cV cg bZ dm de da dc df dh cM cK cN cO cP dd cQ cW cX cY cZ):Calls pg 210 #[(.agg #[(I aQ),(I aV),(I aW),(I bq),(I bG),(I bJ),(I bM),(I bV),(I cD),(I cV),(B cg),(I bZ),(.float .f64 dm),de,da,dc,df,(I dh),(I cM),(.float .f64 cK),(.float .f64 cN),(I cO),(I cP),(I dd),(I cQ),(I cW),(I cX),cY,cZ])] w0 R:=
 aK (pl:=Pm) Tryz.func210 (by kernel_rfl) (by kernel_rfl) h
theorem sQ (h:ml R w0 (aR w0) p0 p1):Calls pg 211 #[p0,p1] w0 R:=cv ⟨19,[],[],[0,1,4,5,7,8,9,16],[],[8]⟩ Tryz.func211 h
theorem LC {R:Ending→World→Prop} {w0:World} {p0:Value} {p1 gz gL gM:Int} (h:BE R w0 (aR w0) p0 p1 gz gL gM):Calls pg 212 #[p0,(I p1),(.agg #[(I gz),(I gL),(I gM)])] w0 R:=
 aK (pl:=Mm) Tryz.func212 (by kernel_rfl) (by kernel_rfl) h
theorem Tp (h:H4 R w0 (aR w0) p0 p1):Calls pg 213 #[p0,p1] w0 R:=cv ⟨8,[],[],[0,1,3,4],[],[]⟩ Tryz.func213 h
theorem jB {R:Ending→World→Prop} {w0:World} {p0:Value} {bS bY bW dW ey eN eE eG:Int} {gl p2:Value} (h:gy R w0 (aR w0) p0 bS bY bW dW ey eN eE eG gl p2):Calls pg 214 #[p0,(.agg #[(I bS),(I bY),(I bW),(I dW),(I ey),(I eN),(I eE),(I eG),gl]),p2] w0 R:=
 aK (pl:=jD) Tryz.func214 (by kernel_rfl) (by kernel_rfl) h
theorem Tn {R:Ending→World→Prop} {w0:World} {aQ aV aW bq bG bJ bM bV:Int} {cD:Value} {bS bY bW dW ey eN eE eG:Int} {gl:Value} (h:HY R w0 (aR w0) aQ aV aW bq bG bJ bM bV cD bS bY bW dW ey eN eE eG gl):Calls pg 215 #[(.agg #[(I aQ),(I aV),(I aW),(I bq),(I bG),(I bJ),(I bM),(I bV),cD]),(.agg #[(I bS),(I bY),(I bW),(I dW),(I ey),(I eN),(I eE),(I eG),gl])] w0 R:=
 aK (pl:=U6) Tryz.func215 (by kernel_rfl) (by kernel_rfl) h
theorem pj {R:Ending→World→Prop} {w0:World} {p0:Value} {p1:Int} {p2:Value} (h:jF R w0 (aR w0) p0 p1 p2):Calls pg 216 #[p0,(I p1),p2] w0 R:=
 aK (pl:=pz) Tryz.func216 (by kernel_rfl) (by kernel_rfl) h
theorem Rf {R:Ending→World→Prop} {w0:World} {aQ aV aW bq bG bJ bM bV:Int} {cD:Value} (h:Gq R w0 (aR w0) aQ aV aW bq bG bJ bM bV cD):Calls pg 217 #[(.agg #[(I aQ),(I aV),(I aW),(I bq),(I bG),(I bJ),(I bM),(I bV),cD])] w0 R:=
 aK (pl:=Rx) Tryz.func217 (by kernel_rfl) (by kernel_rfl) h
theorem Wk {R:Ending→World→Prop} {w0:World} {p0:Nat} (h:Lm R w0 (aR w0) p0):Calls pg 228 #[(.float .f64 p0)] w0 R:=
 aK (pl:=Wg) Tryz.func228 (by kernel_rfl) (by kernel_rfl) h
theorem HH (h:zm R w0 (aR w0) p0 p1):Calls pg 229 #[p0,p1] w0 R:=cv ⟨26,[],[],[0,1,8],[],[]⟩ Tryz.func229 h
theorem E6 (h:wN R w0 (aR w0) p0 p1):Calls pg 230 #[p0,p1] w0 R:=cv ⟨33,[],[],[0,1],[],[]⟩ Tryz.func230 h
theorem Dh (h:uv R w0 (aR w0) p0 p1):Calls pg 231 #[p0,p1] w0 R:=cv ⟨28,[],[],[0,1],[],[]⟩ Tryz.func231 h
theorem JC (h:Aa R w0 (aR w0) p0 p1 p2):Calls pg 232 #[p0,p1,p2] w0 R:=cv ⟨63,[],[],[0,1,2,6,7,8,17,38,39,40,46],[],[39]⟩ Tryz.func232 h
theorem HI (h:zn R w0 (aR w0) p0 p1):Calls pg 233 #[p0,p1] w0 R:=cv ⟨19,[],[],[0,1],[],[]⟩ Tryz.func233 h
theorem GO (h:xX R w0 (aR w0) p0 p1):Calls pg 234 #[p0,p1] w0 R:=cv ⟨26,[],[],[0,1,8],[],[]⟩ Tryz.func234 h
theorem EW (h:wH R w0 (aR w0) p0 p1):Calls pg 235 #[p0,p1] w0 R:=cv ⟨19,[],[],[0,1],[],[]⟩ Tryz.func235 h
theorem EZ (h:wK R w0 (aR w0) p0 p1):Calls pg 236 #[p0,p1] w0 R:=cv ⟨26,[],[],[0,1,8],[],[]⟩ Tryz.func236 h
theorem Ck (h:tL R w0 (aR w0) p0 p1 p2):Calls pg 237 #[p0,p1,p2] w0 R:=cv ⟨63,[(8,(pg.cellsOf 118))],[],[0,1,2,6,7,17,38,39,40,46],[],[39]⟩ Tryz.func237 h
theorem EY (h:wJ R w0 (aR w0) p0 p1):Calls pg 238 #[p0,p1] w0 R:=cv ⟨14,[],[],[0,1],[],[]⟩ Tryz.func238 h
theorem Df (h:uq R w0 (aR w0) p0 p1 p2):Calls pg 239 #[p0,p1,p2] w0 R:=cv ⟨63,[(8,(pg.cellsOf 205))],[],[0,1,2,6,7,17,38,39,40,46],[],[39]⟩ Tryz.func239 h
theorem GN (h:xW R w0 (aR w0) p0 p1):Calls pg 240 #[p0,p1] w0 R:=cv ⟨14,[],[],[0,1],[],[]⟩ Tryz.func240 h
theorem Vi {R:Ending→World→Prop} {w0:World} {p0:Nat} (h:IT R w0 (aR w0) p0):Calls pg 241 #[(.float .f64 p0)] w0 R:=
 aK (pl:=U7) Tryz.func241 (by kernel_rfl) (by kernel_rfl) h
theorem Pv {R:Ending→World→Prop} {w0:World} {aQ aV aW bq bG bJ:Int} {bM bV:Value} {p1:ByteArray} (h:Ew R w0 (aR w0) aQ aV aW bq bG bJ bM bV p1):Calls pg 242 #[(.agg #[(I aQ),(I aV),(I aW),(I bq),(I bG),(I bJ),bM,bV]),(.string p1)] w0 R:=
 aK (pl:=Pn) Tryz.func242 (by kernel_rfl) (by kernel_rfl) h
theorem FQ {R:Ending→World→Prop} {w0:World} {p0:Value} {p1:ByteArray} (h:xL R w0 (aR w0) p0 p1):Calls pg 243 #[p0,(.string p1)] w0 R:=
 aK (pl:=FL) Tryz.func243 (by kernel_rfl) (by kernel_rfl) h
theorem Kn {R:Ending→World→Prop} {w0:World} {aQ aV:Int} {aW bq:Nat} {bG bJ bM bV cD cV:Int} {cg bZ:Value} (h:AE R w0 (aR w0) aQ aV aW bq bG bJ bM bV cD cV cg bZ):Calls pg 244 #[(.agg #[(I aQ),(I aV),(.float .f64 aW),(.float .f64 bq),(I bG),(I bJ),(I bM),(I bV),(I cD),(I cV),cg,bZ])] w0 R:=
 aK (pl:=Ki) Tryz.func244 (by kernel_rfl) (by kernel_rfl) h
theorem N8 {R:Ending→World→Prop} {w0:World} {p0:Bool} {bS bY bW:Int} (h:C4 R w0 (aR w0) p0 bS bY bW):Calls pg 245 #[(B p0),(.agg #[(I bS),(I bY),(I bW)])] w0 R:=
 aK (pl:=NY) Tryz.func245 (by kernel_rfl) (by kernel_rfl) h
theorem Pw {R:Ending→World→Prop} {w0:World} {p0:Nat} (h:Ey R w0 (aR w0) p0):Calls pg 246 #[(.float .f64 p0)] w0 R:=
 aK (pl:=Po) Tryz.func246 (by kernel_rfl) (by kernel_rfl) h
theorem Px {R:Ending→World→Prop} {w0:World} {p0:Int} (h:Ez R w0 (aR w0) p0):Calls pg 247 #[(I p0)] w0 R:=
 aK (pl:=Pp) Tryz.func247 (by kernel_rfl) (by kernel_rfl) h
theorem Py {R:Ending→World→Prop} {w0:World} {aQ aV aW:Int} (h:EA R w0 (aR w0) aQ aV aW):Calls pg 248 #[(.agg #[(I aQ),(I aV),(I aW)])] w0 R:=
 aK (pl:=Pq) Tryz.func248 (by kernel_rfl) (by kernel_rfl) h
theorem RD (h:GF R w0 (aR w0) p0):Calls pg 249 #[p0] w0 R:=cv ⟨44,[(4,(pg.cellsOf 205))],[12,26,32,38,39],[0,2,3,5,6,7,8,42],[16,17,18,19,20,21,22,23,24,25,27,28,29,31,33,34,35,37,40,41],[7]⟩ Tryz.func249 h
theorem mU (h:iR R w0 (aR w0) p0 p1):Calls pg 250 #[p0,p1] w0 R:=cv ⟨9,[],[],[0,1,4],[],[]⟩ Tryz.func250 h
theorem GR {R:Ending→World→Prop} {w0:World} {aQ aV aW bq bG bJ bM bV:Int} {cD c0 c1:Value} (h:x5 R w0 (aR w0) aQ aV aW bq bG bJ bM bV cD c0 c1):Calls pg 251 #[(.agg #[(I aQ),(I aV),(I aW),(I bq),(I bG),(I bJ),(I bM),(I bV),cD]),c0,c1] w0 R:=
 aK (pl:=He) Tryz.func251 (by kernel_rfl) (by kernel_rfl) h
theorem pB (h:jJ R w0 (aR w0) p0 p1):Calls pg 252 #[p0,p1] w0 R:=cv ⟨9,[],[],[0,1,4],[],[]⟩ Tryz.func252 h
theorem Nc {R:Ending→World→Prop} {w0:World} {aQ:ByteArray} {aV:Int} {aW:Nat} {bq:ByteArray} {c0:Value} (h:CG R w0 (aR w0) aQ aV aW bq c0):Calls pg 253 #[(.agg #[(.string aQ),(I aV),(.float .f64 aW),(.string bq)]),c0] w0 R:=
 aK (pl:=NZ) Tryz.func253 (by kernel_rfl) (by kernel_rfl) h
theorem HZ {R:Ending→World→Prop} {w0:World} {aQ:ByteArray} {aV:Int} {aW:Nat} {bq:ByteArray} {c0:Value} (h:zt R w0 (aR w0) aQ aV aW bq c0):Calls pg 254 #[(.agg #[(.string aQ),(I aV),(.float .f64 aW),(.string bq)]),c0] w0 R:=
 aK (pl:=IU) Tryz.func254 (by kernel_rfl) (by kernel_rfl) h
theorem Vj {R:Ending→World→Prop} {w0:World} {p0:Nat} (h:IV R w0 (aR w0) p0):Calls pg 276 #[(.float .f64 p0)] w0 R:=
 aK (pl:=U8) Tryz.func276 (by kernel_rfl) (by kernel_rfl) h
theorem E4 (h:wL R w0 (aR w0) p0 p1):Calls pg 278 #[p0,p1] w0 R:=cv ⟨24,[],[],[0,1],[],[]⟩ Tryz.func278 h
theorem AK (h:sm R w0 (aR w0) p0 p1 p2):Calls pg 279 #[p0,p1,p2] w0 R:=cv ⟨63,[(8,(pg.cellsOf 225))],[],[0,1,2,6,7,17,38,39,40,46],[],[39]⟩ Tryz.func279 h
theorem Dg (h:uu R w0 (aR w0) p0 p1):Calls pg 280 #[p0,p1] w0 R:=cv ⟨16,[],[],[0,1],[],[]⟩ Tryz.func280 h
theorem AL (h:so R w0 (aR w0) p0 p1 p2):Calls pg 281 #[p0,p1,p2] w0 R:=cv ⟨63,[(8,(pg.cellsOf 182))],[],[0,1,2,6,7,17,38,39,40,46],[],[39]⟩ Tryz.func281 h
theorem E5 (h:wM R w0 (aR w0) p0 p1 p2):Calls pg 282 #[p0,p1,p2] w0 R:=cv ⟨63,[],[],[0,1,2,6,7,8,17,38,39,40,46],[],[39]⟩ Tryz.func282 h
theorem GM (h:xV R w0 (aR w0) p0 p1):Calls pg 283 #[p0,p1] w0 R:=cv ⟨26,[],[],[0,1,8],[],[]⟩ Tryz.func283 h
theorem GL {R:Ending→World→Prop} {w0:World} {p0:Value} {p1:Bool} (h:xU R w0 (aR w0) p0 p1):Calls pg 285 #[p0,(B p1)] w0 R:=
 aK (pl:=Hf) Tryz.func285 (by kernel_rfl) (by kernel_rfl) h
theorem ET {R:Ending→World→Prop} {w0:World} {p0:Value} {p1:Nat} (h:wE R w0 (aR w0) p0 p1):Calls pg 287 #[p0,(.float .f64 p1)] w0 R:=
 aK (pl:=FN) Tryz.func287 (by kernel_rfl) (by kernel_rfl) h
theorem EX (h:wI R w0 (aR w0) p0 p1):Calls pg 289 #[p0,p1] w0 R:=cv ⟨26,[],[],[0,1,8],[],[]⟩ Tryz.func289 h
theorem Ko {R:Ending→World→Prop} {w0:World} {aQ:ByteArray} {aV:Int} {aW:Nat} {bq:ByteArray} {c0:Value} (h:AF R w0 (aR w0) aQ aV aW bq c0):Calls pg 290 #[(.agg #[(.string aQ),(I aV),(.float .f64 aW),(.string bq)]),c0] w0 R:=
 aK (pl:=Kj) Tryz.func290 (by kernel_rfl) (by kernel_rfl) h
theorem FR {R:Ending→World→Prop} {w0:World} {p0:Value} {p1:ByteArray} {gz gL gM:Int} {p3:Bool} (h:xM R w0 (aR w0) p0 p1 gz gL gM p3):Calls pg 291 #[p0,(.string p1),(.agg #[(I gz),(I gL),(I gM)]),(B p3)] w0 R:=
 aK (pl:=FO) Tryz.func291 (by kernel_rfl) (by kernel_rfl) h
theorem nN (h:jh R w0 (aR w0) p0 p1):Calls pg 292 #[p0,p1] w0 R:=cv ⟨19,[],[],[0,1,4,5,7,8,9,16],[],[8]⟩ Tryz.func292 h
theorem qs (h:kz R w0 (aR w0) p0 p1):Calls pg 293 #[p0,p1] w0 R:=cv ⟨19,[],[],[0,1,4,5,7,8,9,16],[],[8]⟩ Tryz.func293 h
theorem AJ (h:sk R w0 (aR w0) p0 p1 p2):Calls pg 303 #[p0,p1,p2] w0 R:=cv ⟨63,[(8,(pg.cellsOf 227))],[],[0,1,2,6,7,17,38,39,40,46],[],[39]⟩ Tryz.func303 h
theorem De (h:uo R w0 (aR w0) p0 p1):Calls pg 304 #[p0,p1] w0 R:=cv ⟨14,[],[],[0,1],[],[]⟩ Tryz.func304 h
theorem GK {R:Ending→World→Prop} {w0:World} {p0:Value} {p1:ByteArray} (h:xT R w0 (aR w0) p0 p1):Calls pg 305 #[p0,(.string p1)] w0 R:=
 aK (pl:=Hg) Tryz.func305 (by kernel_rfl) (by kernel_rfl) h
theorem SK {R:Ending→World→Prop} {w0:World} {p0:Value} {bS:Int} {bY:Nat} {bW:ByteArray} (h:HG R w0 (aR w0) p0 bS bY bW):Calls pg 308 #[p0,(.agg #[(I bS),(.float .f64 bY),(.string bW)])] w0 R:=
 aK (pl:=U9) Tryz.func308 (by kernel_rfl) (by kernel_rfl) h
end
end Go.Proofs.YtfndblbeikocdaaGreat
namespace Go.Proofs.YtfndblbeikocdaaGreat
open Go.Proofs.Tryz renaming prog → pg
open Go.bB
set_option maxRecDepth 100000
set_option maxHeartbeats 1000000
set_option linter.unusedVariables false
set_option linter.unusedSimpArgs false
abbrev BA:=ByteArray
@[ext] structure aO where
 wall:Int
 dv:Int
 node:Int
 deriving DecidableEq
abbrev aO.l (s:aO):List Value:=[I s.wall,I s.dv,I s.node]
abbrev aO.v (s:aO):Value:=.agg #[I s.wall,I s.dv,I s.node]
abbrev aO.zero:aO:=⟨0,0,0⟩
@[ext] structure eh where
 iP:Int
 lu:Int
 sq:Int
 deriving DecidableEq
abbrev eh.l (s:eh):List Value:=[I s.iP,I s.lu,I s.sq]
abbrev eh.v (s:eh):Value:=.agg #[I s.iP,I s.lu,I s.sq]
abbrev eh.zero:eh:=⟨0,0,0⟩
@[ext] structure nq where
 kind:Int
 num:Nat
 text:BA
 deriving DecidableEq
abbrev nq.l (x:nq):List Value:=[I x.kind,.float .f64 x.num,.string x.text]
abbrev nq.v (x:nq):Value:=.agg #[I x.kind,.float .f64 x.num,.string x.text]
abbrev nq.zero:nq:=⟨0,0,⟨#[]⟩⟩
@[ext] structure KV where
 key:BA
 val:nq
 deriving DecidableEq
abbrev KV.l (x:KV):List Value:=[.string x.key,I x.val.kind,.float .f64 x.val.num,.string x.val.text]
abbrev KV.v (x:KV):Value:=.agg #[.string x.key,I x.val.kind,.float .f64 x.val.num,.string x.val.text]
abbrev S1 (x:BA):List Value:=[.string x]
abbrev I1 (x:Int):List Value:=[I x]
@[ext] structure ki where
 aw:aO
 val:nq
 deriving DecidableEq
abbrev ki.l (x:ki):List Value:=[I x.aw.wall,I x.aw.dv,I x.aw.node,I x.val.kind,.float .f64 x.val.num,.string x.val.text]
@[ext] structure iM where
 key:BA
 kc:List ki
 deriving DecidableEq
abbrev iM.l (h:iM) (vv:Value):List Value:=[.string h.key,vv]
def iM.rd (w:World) (X:XS) (l:List Value) (h:iM):Prop:= ∃vv,l=h.l vv∧Sl w X 6 vv (h.kc.map ki.l)
@[ext] structure dB where
 b6:eh
 aw:aO
 reads:List BA
 writes:List KV
 deriving DecidableEq
abbrev dB.l (p:dB) (vr vw:Value):List Value:=[I p.b6.iP,I p.b6.lu,I p.b6.sq,I p.aw.wall,I p.aw.dv,I p.aw.node,vr,vw]
abbrev dB.v (p:dB) (vr vw:Value):Value:=.agg #[I p.b6.iP,I p.b6.lu,I p.b6.sq,I p.aw.wall,I p.aw.dv,I p.aw.node,vr,vw]
def dB.rd (w:World) (X:XS) (l:List Value) (p:dB):Prop:= ∃vr vw,l=p.l vr vw∧Sl w X 1 vr (p.reads.map S1)∧Sl w X 4 vw (p.writes.map KV.l)
@[ext] structure ju where
 id:Int
 jo:Int
 lo:Nat
 hi:Nat
 deriving DecidableEq
abbrev ju.l (r:ju):List Value:=[I r.id,I r.jo,.float .f64 r.lo,.float .f64 r.hi]
abbrev ju.v (r:ju):Value:=.agg #[I r.id,I r.jo,.float .f64 r.lo,.float .f64 r.hi]
@[ext] structure State where
 range:ju
 floor:aO
 closed:aO
 gF:List iM
 eK:List dB
 deriving DecidableEq
abbrev State.l (s:State) (vh vp:Value):List Value:=[I s.range.id,I s.range.jo,.float .f64 s.range.lo,.float .f64 s.range.hi,
 I s.floor.wall,I s.floor.dv,I s.floor.node,I s.closed.wall,I s.closed.dv,I s.closed.node,vh,vp]
abbrev State.v (s:State) (vh vp:Value):Value:=.agg #[I s.range.id,I s.range.jo,.float .f64 s.range.lo,.float .f64 s.range.hi,
 I s.floor.wall,I s.floor.dv,I s.floor.node,I s.closed.wall,I s.closed.dv,I s.closed.node,vh,vp]
abbrev lA (w:World) (X:XS) (v:Value) (l:List iM):Prop:=gq w X 2 v iM.rd l
abbrev kH (w:World) (X:XS) (v:Value) (l:List dB):Prop:=gq w X 8 v dB.rd l
def State.rd (w:World) (X:XS) (l:List Value) (s:State):Prop:= ∃vh vp,l=s.l vh vp∧lA w X vh s.gF∧kH w X vp s.eK
@[ext] structure Rec where
 kind:Int
 b6:eh
 aw:aO
 prev:aO
 ij:Bool
 n:Int
 jV:Nat
 reads:List BA
 writes:List KV
 parts:List Int
 qL:List KV
 state:State
 deriving DecidableEq
abbrev Rec.l (r:Rec) (vr vw vp vq vh vd:Value):List Value:=[I r.kind,I r.b6.iP,I r.b6.lu,I r.b6.sq,I r.aw.wall,I r.aw.dv,I r.aw.node,
 I r.prev.wall,I r.prev.dv,I r.prev.node,B r.ij,I r.n,.float .f64 r.jV,vr,vw,vp,vq,I r.state.range.id,I r.state.range.jo,.float .f64 r.state.range.lo,.float .f64 r.state.range.hi,
 I r.state.floor.wall,I r.state.floor.dv,I r.state.floor.node,I r.state.closed.wall,I r.state.closed.dv,I r.state.closed.node,vh,vd]
abbrev Rec.v (r:Rec) (vr vw vp vq vh vd:Value):Value:=.agg #[I r.kind,I r.b6.iP,I r.b6.lu,I r.b6.sq,I r.aw.wall,I r.aw.dv,I r.aw.node,
 I r.prev.wall,I r.prev.dv,I r.prev.node,B r.ij,I r.n,.float .f64 r.jV,vr,vw,vp,vq,I r.state.range.id,I r.state.range.jo,.float .f64 r.state.range.lo,.float .f64 r.state.range.hi,
 I r.state.floor.wall,I r.state.floor.dv,I r.state.floor.node,I r.state.closed.wall,I r.state.closed.dv,I r.state.closed.node,vh,vd]
def Rec.at (w:World) (X:XS) (r:Rec) (vr vw vp vq vh vd:Value):Prop:=
 Sl w X 1 vr (r.reads.map S1)∧Sl w X 4 vw (r.writes.map KV.l)∧Sl w X 1 vp (r.parts.map I1)∧Sl w X 4 vq (r.qL.map KV.l)∧lA w X vh r.state.gF∧kH w X vd r.state.eK
def Rec.rd (w:World) (X:XS) (l:List Value) (r:Rec):Prop:= ∃vr vw vp vq vh vd,l=r.l vr vw vp vq vh vd∧r.at w X vr vw vp vq vh vd
theorem iM.mv:E9 iM.rd:=fun ⟨vv,h,h1⟩ m=>⟨vv,h,h1.mv m⟩
theorem dB.mv:E9 dB.rd:=fun ⟨vr,vw,h,h1,h2⟩ m=>⟨vr,vw,h,h1.mv m,h2.mv m⟩
theorem lA.mv {w w':World} {X Y:XS} {v:Value} {l:List iM} (h:lA w X v l) (m:Mv X w Y w'):lA w' Y v l:=gq.mv h iM.mv m
theorem kH.mv {w w':World} {X Y:XS} {v:Value} {l:List dB} (h:kH w X v l) (m:Mv X w Y w'):kH w' Y v l:=gq.mv h dB.mv m
theorem State.mv:E9 State.rd:=fun ⟨vh,vp,h,h1,h2⟩ m=>⟨vh,vp,h,gq.mv h1 iM.mv m,gq.mv h2 dB.mv m⟩
theorem Rec.at.mv {w w':World} {X Y:XS} {r:Rec} {vr vw vp vq vh vd:Value} (h:r.at w X vr vw vp vq vh vd) (m:Mv X w Y w'):r.at w' Y vr vw vp vq vh vd:=
 ⟨h.1.mv m,h.2.1.mv m,h.2.2.1.mv m,h.2.2.2.1.mv m,gq.mv h.2.2.2.2.1 iM.mv m,gq.mv h.2.2.2.2.2 dB.mv m⟩
theorem Rec.mv:E9 Rec.rd:=fun ⟨vr,vw,vp,vq,vh,vd,h,h1⟩ m=>⟨vr,vw,vp,vq,vh,vd,h,h1.mv m⟩
section
variable {P : Program} {X X0 : XS} {w w0 : World} {N : Value → Prop}
theorem EO {t:TypeId} {v:Value} {xs:List dB} {i:Nat} {z:Int} {x:dB} (h:kH w0 X0 v xs) (hr:xs[i]? =some x)
  (hz:z=i) (ht:P.underlying t=some (.slice (P.elem t))) (hs:(P.info? (P.elem t)).map (·.size)=some 8)
  (n: ∀b o vr vw,bB.one vr=true→bB.one vw=true→Cells w0 X0 b o (x.l vr vw)→Sl w0 X0 1 vr (x.reads.map S1)→Sl w0 X0 4 vw (x.writes.map KV.l)→N (ptr b o)):ab P X w (cA t 8 v (.int .i64 z)) N:=
 RW h hr hz ht hs fun b o _ hc ⟨vr,vw,hl,h1,h2⟩=>n b o vr vw h1.one h2.one (hl▸hc) h1 h2
theorem MD {t:TypeId} {v:Value} {xs:List iM} {i:Nat} {z:Int} {x:iM} (h:lA w0 X0 v xs) (hr:xs[i]? =some x)
  (hz:z=i) (ht:P.underlying t=some (.slice (P.elem t))) (hs:(P.info? (P.elem t)).map (·.size)=some 2)
  (n: ∀b o vv,bB.one vv=true→Cells w0 X0 b o (x.l vv)→Sl w0 X0 6 vv (x.kc.map ki.l)→N (ptr b o)):ab P X w (cA t 2 v (.int .i64 z)) N:=
 RW h hr hz ht hs fun b o _ hc ⟨vv,hl,h1⟩=>n b o vv h1.one (hl▸hc) h1
theorem Oy {t:TypeId} {v:Value} {xs:List Rec} {i:Nat} {z:Int} {x:Rec} (h:gq w0 X0 29 v Rec.rd xs) (hr:xs[i]? =some x)
  (hz:z=i) (ht:P.underlying t=some (.slice (P.elem t))) (hs:(P.info? (P.elem t)).map (·.size)=some 29)
  (n: ∀b o vr vw vp vq vh vd,bB.one vr=true→bB.one vw=true→bB.one vp=true→bB.one vq=true→bB.one vh=true→bB.one vd=true→
   Cells w0 X0 b o (x.l vr vw vp vq vh vd)→x.at w0 X0 vr vw vp vq vh vd→N (ptr b o)):ab P X w (cA t 29 v (.int .i64 z)) N:=
 RW h hr hz ht hs fun b o _ hc ⟨vr,vw,vp,vq,vh,vd,hl,h1⟩=>n b o vr vw vp vq vh vd h1.1.one h1.2.1.one h1.2.2.1.one h1.2.2.2.1.one h1.2.2.2.2.1.one h1.2.2.2.2.2.one (hl▸hc) h1
theorem RO {t:TypeId} {xo yo:Operand} (a b:aO) (h:gB P t 3=true) (hT:a=b→N (.bool true)) (hF: ¬a=b→N (.bool false)):
  ab P X w (aF .eql t xo yo a.v b.v) N:=aa0 h (fun h1 h2 h3=>hT (aO.ext h1 h2 h3)) fun hn=>hF fun e=>hn (by subst e;exact⟨rfl,rfl,rfl⟩)
theorem adk {t:TypeId} {xo yo:Operand} (a b:aO) (h:gB P t 3=true) (hT: ¬a=b→N (.bool true)) (hF:a=b→N (.bool false)):
  ab P X w (aF .neq t xo yo a.v b.v) N:=aax h (fun hn=>hT fun e=>hn (by subst e;exact⟨rfl,rfl,rfl⟩)) fun h1 h2 h3=>hF (aO.ext h1 h2 h3)
theorem wR {t:TypeId} {xo yo:Operand} (a:aO) (h:gB P t 3=true) (hT:a= .zero→N (.bool true)) (hF: ¬a= .zero→N (.bool false)):
  ab P X w (aF .eql t xo yo a.v (.agg #[I 0,I 0,I 0])) N:=RO a .zero h hT hF
theorem aae {t:TypeId} {xo yo:Operand} (a:aO) (h:gB P t 3=true) (hT: ¬a= .zero→N (.bool true)) (hF:a= .zero→N (.bool false)):
  ab P X w (aF .neq t xo yo a.v (.agg #[I 0,I 0,I 0])) N:=adk a .zero h hT hF
theorem Nb {t:TypeId} {xo yo:Operand} (a b:eh) (h:gB P t 3=true) (hT:a=b→N (.bool true)) (hF: ¬a=b→N (.bool false)):
  ab P X w (aF .eql t xo yo a.v b.v) N:=aa0 h (fun h1 h2 h3=>hT (eh.ext h1 h2 h3)) fun hn=>hF fun e=>hn (by subst e;exact⟨rfl,rfl,rfl⟩)
theorem aaf {t:TypeId} {xo yo:Operand} (a:eh) (h:gB P t 3=true) (hT:a= .zero→N (.bool true)) (hF: ¬a= .zero→N (.bool false)):
  ab P X w (aF .eql t xo yo a.v (.agg #[I 0,I 0,I 0])) N:=Nb a .zero h hT hF
end
def lim:Nat:=2^20
def dB.small (p:dB):Prop:=p.reads.length≤lim∧p.writes.length≤lim
end Go.Proofs.YtfndblbeikocdaaGreat
namespace Go.Proofs.YtfndblbeikocdaaGreat
open Go.Proofs.Tryz renaming prog → pg
open Go.bB
set_option maxRecDepth 100000
set_option maxHeartbeats 1000000
set_option linter.unusedVariables false
set_option linter.unusedSimpArgs false
attribute [local irreducible] un jn aI aT ld1 ek st1 cA cp mE ea mF wh vy gG ga ab ax ay eW eV eU eC eF gE au fin aM aP aF vS y9 gg ix rr wi wj za zc zd fY iy ru wm wo ze zf
def aO.cmp (a b:aO):Int:=
 let p:=if a.wall≠b.wall then(a.wall,b.wall)else if a.dv≠b.dv then(a.dv,b.dv)else(a.node,b.node)
 if p.1<p.2 then-1 else if p.1>p.2 then 1 else 0
def eh.less (a b:eh):Bool:=
 if a.iP≠b.iP then a.iP<b.iP else if a.lu≠b.lu then a.lu<b.lu else a.sq<b.sq
def eh.may (a:eh):Bool:=a.iP≥1&&a.iP≤2&&a.lu≥1&&a.sq≥1
def aO.may (a:aO):Bool:=a.wall≥0&&a.wall≤281474976710656&&a.dv≥0&&a.dv≤65535&&a.node≥0&&a.node≤63
def aO.later (a b:aO):aO:=if a.cmp b<0 then b else a
def aO.MF (a:aO):Bool:=a.may&&!decide (a= .zero)
def aO.qP (s:aO):aO×Bool:=
 if !s.may||decide (s= .zero)then(.zero,false)
 else if s.node>0 then(⟨s.wall,s.dv,s.node-1⟩,true)
 else if s.dv>0 then(⟨s.wall,s.dv-1,63⟩,true)
 else(⟨s.wall-1,65535,63⟩,true)
theorem aO.Ea {a:aO} :a.may=true↔0≤a.wall∧a.wall≤281474976710656∧0≤a.dv∧a.dv≤65535∧0≤a.node∧a.node≤63:=by
 simp [aO.may,and_assoc]
theorem iw (a b:aO):Pure pg 84 #[a.v,b.v] (I (a.cmp b)):=by
 intro w0;apply Ps;unfold Er;have hs:=aj.init w0;repeat' first|refine aG ?_;intros|refine dj ?_ ?_<;>intros|with_reducible apply dJ|(with_reducible refine fh hs ?_);simp_all [aO.cmp]<;>omega
theorem zJ (a:eh):Pure pg 152 #[a.v] (B a.may):=by
 intro w0;apply Pt;unfold Es;have hs:=aj.init w0;repeat' first|refine aG ?_;intros|refine dj ?_ ?_<;>intros|(with_reducible refine fh hs ?_);simp_all [eh.may]<;>omega
theorem jf (a:aO):Pure pg 57 #[a.v] (B a.may):=by
 intro w0;apply ZA;unfold NT;have hs:=aj.init w0;repeat' first|refine aG ?_;intros|refine dj ?_ ?_<;>intros|(with_reducible refine fh hs ?_);simp_all [aO.may]<;>omega
theorem ui (a b:aO):Pure pg 31 #[a.v,b.v] (a.later b).v:=by
 intro w0;apply Va;unfold IE;have hs:=aj.init w0;repeat' first|refine aG ?_;intros|refine dj ?_ ?_<;>intros|((with_reducible refine gh (iw _ _) ?_ hs.has ?_);(· kernel_rfl);intro w X ao;replace hs:=hs.trans ao)|(with_reducible refine fh hs ?_);simp_all [aO.later]<;>grind
theorem QW (n:Int):Pure pg 247 #[I n] (B (decide (n≥1)&&decide (n≤12))):=by
 intro w0;apply Px;unfold Ez;have hs:=aj.init w0;repeat' first|refine aG ?_;intros|refine dj ?_ ?_<;>intros|(with_reducible refine fh hs ?_);simp_all<;>omega
theorem Gb (a:aO):Pure pg 248 #[a.v] (B a.MF):=by
 intro w0;apply Py;unfold EA;have hs:=aj.init w0;repeat' first|refine aG ?_;intros|(with_reducible refine aae _ ?_ ?_ ?_);(· kernel_rfl);all_goals intros|((with_reducible refine dI (jf _) ?_ hs.has ?_ ?_);(· kernel_rfl);all_goals (intro _ w X ao;replace hs:=hs.trans ao))|(with_reducible refine fh hs ?_);simp_all [aO.MF]
def aO.Of (c:Bool) (a:aO):Bool:=if c then a.MF else decide (a= .zero)
theorem Oh (c:Bool) (a:aO):Pure pg 245 #[B c,a.v] (B (a.Of c)):=by
 intro w0;apply N8;unfold C4;have hs:=aj.init w0;repeat' first|refine aG ?_;intros|refine dj ?_ ?_<;>intros|(with_reducible refine wR _ ?_ ?_ ?_);(· kernel_rfl);all_goals intros|((with_reducible refine dI (Gb _) ?_ hs.has ?_ ?_);(· kernel_rfl);all_goals (intro _ w X ao;replace hs:=hs.trans ao))|(with_reducible refine fh hs ?_);simp_all [aO.Of]
theorem Vz (s:aO):Pure pg 128 #[s.v] (.tuple #[s.qP.1.v,B s.qP.2]):=by
 intro w0;apply Vb;unfold IH;have hs:=aj.init w0;repeat' first|refine aG ?_;intros|refine dj ?_ ?_<;>intros|(with_reducible refine wR _ ?_ ?_ ?_);(· kernel_rfl);all_goals intros|with_reducible apply dJ|((with_reducible refine dI (jf _) ?_ hs.has ?_ ?_);(· kernel_rfl);all_goals (intro _ w X ao;replace hs:=hs.trans ao))|(with_reducible refine fh hs ?_);(simp_all [aO.qP]<;>grind)|(have hb:=aO.Ea.1 ‹_›;(with_reducible refine adm ?_ ?_ ?_);omega;omega)
theorem yr (x:Nat) (wa:World):(callFunc 118 #[.float .f64 x]).run pg wa= .ok (.value (.int .u64 x)) wa:=by kernel_rfl
theorem ED (a b:Nat):Pure pg 130 #[.float .f64 a,.float .f64 b] (B (decide (a=b))):=by
 intro w0;apply N5;unfold CX;have hs:=aj.init w0;repeat' first|refine aG ?_;intros|refine dj ?_ ?_<;>intros|(with_reducible refine fh hs ?_);simp_all [Int.ofNat_inj]|((with_reducible refine Bx (yr _) hs.has ?_);intro w X ao;replace hs:=hs.trans ao)
theorem N9 (a b:nq):Pure pg 88 #[a.v,b.v] (B (decide (a=b))):=by
 intro w0;apply Mo;unfold Ce;have hs:=aj.init w0;repeat' first|refine aG ?_;intros|refine dj ?_ ?_<;>intros|with_reducible apply dJ|((with_reducible refine dI (ED _ _) ?_ hs.has ?_ ?_);(· kernel_rfl);all_goals (intro _ w X ao;replace hs:=hs.trans ao))|(with_reducible refine fh hs ?_);simp_all [nq.ext_iff]
theorem NJ (a b:ju):Pure pg 89 #[a.v,b.v] (B (decide (a=b))):=by
 intro w0;apply Mp;unfold Cf;have hs:=aj.init w0;repeat' first|refine aG ?_;intros|refine dj ?_ ?_<;>intros|with_reducible apply dJ|((with_reducible refine dI (ED _ _) ?_ hs.has ?_ ?_);(· kernel_rfl);all_goals (intro _ w X ao;replace hs:=hs.trans ao))|(with_reducible refine fh hs ?_);simp_all [ju.ext_iff]
theorem CP {w:World} {X:XS} {a b:Value} {xs ys:List BA} (ha:Sl w X 1 a (xs.map S1)) (hb:Sl w X 1 b (ys.map S1)):
  Ct pg 37 #[a,b] w X nX fun v _ _=>v=B (decide (xs=ys)):=by
  intro w0 hk;replace ha:=ha.mv hk.cE;replace hb:=hb.mv hk.cE;have gC:=ha.gw;apply Mn;unfold Cc;have hs:=aj.init w0;repeat' first|refine aG ?_;intros|refine dj ?_ ?_<;>intros|((first|(with_reducible refine ai hs ?_)|(with_reducible refine ai (bE.trans hs) ?_));intro wa hk;(simp only [B,ni];symm;rw [decide_eq_false_iff_not];rintro rfl;omega))
  have hlen:xs.length=ys.length:=by omega
  refine eA (fun n a w X=> ∃i:Nat,a=I (i:Nat)∧n=(xs).length-i∧i≤(xs).length∧aj (aR w0) w0 X w∧(xs=ys↔xs.drop i=ys.drop i)) (xs).length ⟨0,rfl,rfl,aL _,hs,by simp⟩ ?_;rintro n a w X ⟨i,rfl,rfl,hi,hs,hw⟩;rcases dX (xs) i with⟨cI,x,hx,hd⟩|⟨dV,hd⟩
  ·obtain⟨y,hy,Vk⟩:=yC (xs:=ys) (i:=i) zQ;repeat' first|refine bQ ?_;intros|refine dj ?_ ?_<;>intros|((first|(with_reducible refine ai hs ?_)|(with_reducible refine ai (bE.trans hs) ?_));intro wa hk;(simp_all [decide_true]))|((with_reducible refine en ((xs).length-(i+1)) ?_ ?_);omega;exact⟨i+1,by simp,rfl,by omega,hs,by simp_all [decide_true]⟩)
  ·have Vk:=fc (l:=ys) (i:=i) zQ;repeat' first|refine bQ ?_;intros|((first|(with_reducible refine ai hs ?_)|(with_reducible refine ai (bE.trans hs) ?_));intro wa hk;simp_all)
theorem O4 {w:World} {X:XS} {a b:Value} {xs ys:List Int} (ha:Sl w X 1 a (xs.map I1)) (hb:Sl w X 1 b (ys.map I1)):
  Ct pg 40 #[a,b] w X nX fun v _ _=>v=B (decide (xs=ys)):=by
  intro w0 hk;replace ha:=ha.mv hk.cE;replace hb:=hb.mv hk.cE;have gC:=ha.gw;apply N4;unfold CW;have hs:=aj.init w0;repeat' first|refine aG ?_;intros|refine dj ?_ ?_<;>intros|((first|(with_reducible refine ai hs ?_)|(with_reducible refine ai (bE.trans hs) ?_));intro wa hk;(simp only [B,ni];symm;rw [decide_eq_false_iff_not];rintro rfl;omega))
  have hlen:xs.length=ys.length:=by omega
  refine eA (fun n a w X=> ∃i:Nat,a=I (i:Nat)∧n=(xs).length-i∧i≤(xs).length∧aj (aR w0) w0 X w∧(xs=ys↔xs.drop i=ys.drop i)) (xs).length ⟨0,rfl,rfl,aL _,hs,by simp⟩ ?_;rintro n a w X ⟨i,rfl,rfl,hi,hs,hw⟩;rcases dX (xs) i with⟨cI,x,hx,hd⟩|⟨dV,hd⟩
  ·obtain⟨y,hy,Vk⟩:=yC (xs:=ys) (i:=i) zQ;repeat' first|refine bQ ?_;intros|refine dj ?_ ?_<;>intros|((first|(with_reducible refine ai hs ?_)|(with_reducible refine ai (bE.trans hs) ?_));intro wa hk;(simp_all [decide_true]))|((with_reducible refine en ((xs).length-(i+1)) ?_ ?_);omega;exact⟨i+1,by simp,rfl,by omega,hs,by simp_all [decide_true]⟩)
  ·have Vk:=fc (l:=ys) (i:=i) zQ;repeat' first|refine bQ ?_;intros|((first|(with_reducible refine ai hs ?_)|(with_reducible refine ai (bE.trans hs) ?_));intro wa hk;simp_all)
theorem u6 {w:World} {X:XS} {a b:Value} {xs ys:List KV} (ha:Sl w X 4 a (xs.map KV.l)) (hb:Sl w X 4 b (ys.map KV.l)):
  Ct pg 39 #[a,b] w X nX fun v _ _=>v=B (decide (xs=ys)):=by
  intro w0 hk;replace ha:=ha.mv hk.cE;replace hb:=hb.mv hk.cE;have gC:=ha.gw;apply Kk;unfold AA;have hs:=aj.init w0;repeat' first|refine aG ?_;intros|refine dj ?_ ?_<;>intros|((first|(with_reducible refine ai hs ?_)|(with_reducible refine ai (bE.trans hs) ?_));intro wa hk;(simp only [B,ni];symm;rw [decide_eq_false_iff_not];rintro rfl;omega))
  have hlen:xs.length=ys.length:=by omega
  refine eA (fun n a w X=> ∃i:Nat,a=I (i:Nat)∧n=(xs).length-i∧i≤(xs).length∧aj (aR w0) w0 X w∧(xs=ys↔xs.drop i=ys.drop i)) (xs).length ⟨0,rfl,rfl,aL _,hs,by simp⟩ ?_;rintro n a w X ⟨i,rfl,rfl,hi,hs,hw⟩;rcases dX (xs) i with⟨cI,x,hx,hd⟩|⟨dV,hd⟩
  ·obtain⟨y,hy,Vk⟩:=yC (xs:=ys) (i:=i) zQ;repeat' first|refine bQ ?_;intros|refine dj ?_ ?_<;>intros|with_reducible apply dJ|((with_reducible refine dI (N9 _ _) ?_ hs.has ?_ ?_);(· kernel_rfl);all_goals (intro _ w X ao;replace hs:=hs.trans ao))|((first|(with_reducible refine ai hs ?_)|(with_reducible refine ai (bE.trans hs) ?_));intro wa hk;(simp_all [KV.ext_iff,nq.ext_iff]))|((with_reducible refine en ((xs).length-(i+1)) ?_ ?_);omega;exact⟨i+1,by simp,rfl,by omega,hs,by simp_all [KV.ext_iff,nq.ext_iff]⟩)
  ·have Vk:=fc (l:=ys) (i:=i) zQ;repeat' first|refine bQ ?_;intros|((first|(with_reducible refine ai hs ?_)|(with_reducible refine ai (bE.trans hs) ?_));intro wa hk;simp_all)
theorem Kq {w:World} {X:XS} {p q:dB} {vr vw ur uw:Value} (h1:Sl w X 1 vr (p.reads.map S1)) (h2:Sl w X 4 vw (p.writes.map KV.l))
  (h3:Sl w X 1 ur (q.reads.map S1)) (h4:Sl w X 4 uw (q.writes.map KV.l)):
  Ct pg 132 #[p.v vr vw,q.v ur uw] w X nX fun v _ _=>v=B (decide (p=q)):=by
 intro w0 hk;replace h1:=h1.mv hk.cE;replace h2:=h2.mv hk.cE;replace h3:=h3.mv hk.cE;replace h4:=h4.mv hk.cE;apply IW;unfold zF;have hs:=aj.init w0;repeat' first|refine aG ?_;intros|(with_reducible refine RO _ _ ?_ ?_ ?_);(· kernel_rfl);all_goals intros|(with_reducible refine Nb _ _ ?_ ?_ ?_);(· kernel_rfl);all_goals intros|with_reducible apply dJ|((first|(with_reducible refine ai hs ?_)|(with_reducible refine ai (bE.trans hs) ?_));intro wa hk;simp_all [dB.ext_iff])|(refine eO (CP  qA qA) kQ hs.has ?_ ?_<;>(intro _ w X ao;replace hs:=hs.trans ao))|(refine eO (u6  qA qA) kQ hs.has ?_ ?_<;>(intro _ w X ao;replace hs:=hs.trans ao))
theorem Iu {w:World} {X:XS} {a b:Value} {xs ys:List dB} (ha:kH w X a xs) (hb:kH w X b ys):
  Ct pg 92 #[a,b] w X nX fun v _ _=>v=B (decide (xs=ys)):=by
  intro w0 hk;replace ha:=ha.mv hk.cE;replace hb:=hb.mv hk.cE;have gC:=ha.len;apply Hi;unfold yk;have hs:=aj.init w0;repeat' first|refine aG ?_;intros|refine dj ?_ ?_<;>intros|((first|(with_reducible refine ai hs ?_)|(with_reducible refine ai (bE.trans hs) ?_));intro wa hk;(simp only [B,ni];symm;rw [decide_eq_false_iff_not];rintro rfl;omega))
  have hlen:xs.length=ys.length:=by omega
  refine eA (fun n a w X=> ∃i:Nat,a=I (i:Nat)∧n=(xs).length-i∧i≤(xs).length∧aj (aR w0) w0 X w∧(xs=ys↔xs.drop i=ys.drop i)) (xs).length ⟨0,rfl,rfl,aL _,hs,by simp⟩ ?_;rintro n a w X ⟨i,rfl,rfl,hi,hs,hw⟩;rcases dX (xs) i with⟨cI,x,hx,hd⟩|⟨dV,hd⟩
  ·obtain⟨y,hy,Vk⟩:=yC (xs:=ys) (i:=i) zQ;repeat' first|refine bQ ?_;intros|((with_reducible apply EO);assumption;(try (case hz=>rfl));(case hr=>exact qR);(try (case hz=>omega));(case ht=>kernel_rfl);(case hs=>kernel_rfl);intros)|((first|(with_reducible refine ai hs ?_)|(with_reducible refine ai (bE.trans hs) ?_));intro wa hk;(simp_all [decide_true]))|((with_reducible refine en ((xs).length-(i+1)) ?_ ?_);omega;exact⟨i+1,by simp,rfl,by omega,hs,by simp_all [decide_true]⟩)|(refine eO (Kq  qA qA qA qA) kQ hs.has ?_ ?_<;>(intro _ w X ao;replace hs:=hs.trans ao))
  ·have Vk:=fc (l:=ys) (i:=i) zQ;repeat' first|refine bQ ?_;intros|((first|(with_reducible refine ai hs ?_)|(with_reducible refine ai (bE.trans hs) ?_));intro wa hk;simp_all)
abbrev AT:Value→World→World→Prop:=fun v _ _=> ∃n:Int,v=I n
theorem iO (a b c:Int) (w:World) (X:XS):Ct pg 69 #[I a,I b,I c] w X nX AT:=by
 intro w0 hk;apply Pr;unfold Em;have hs:=aj.init w0;repeat' first|refine aG ?_;intros|refine dj ?_ ?_<;>intros|((first|(with_reducible refine ai hs ?_)|(with_reducible refine ai (bE.trans hs) ?_));intro wa hk;exact⟨_,rfl⟩)|with_reducible apply mI
theorem rj {w:World} {X:XS} {a:Value} {xs:List BA} {most:Int} (ha:Sl w X 1 a (xs.map S1)):
  Ct pg 70 #[a,I most] w X nX AT:=by
 intro w0 hk;replace ha:=ha.mv hk.cE;have gC:=ha.gw;apply EB;unfold vR;have hs:=aj.init w0;refine fT (fun n a b w X=> ∃(i:Nat) (s:Int),a=I i∧b=I s∧n=(xs).length-i∧i≤(xs).length∧aj (aR w0) w0 X w) (xs).length ⟨0,_,rfl,rfl,rfl,aL _,hs⟩ ?_;rintro n a b w X ⟨i,s,rfl,rfl,rfl,hi,hs⟩;repeat' first|refine aG ?_;intros|refine dj ?_ ?_<;>intros|((first|(with_reducible refine ai hs ?_)|(with_reducible refine ai (bE.trans hs) ?_));intro wa hk;exact⟨_,rfl⟩)|(refine jj (iO  _ _ _ _ _) kQ hs.has ?_;intro n1 w X ao;replace hs:=hs.trans ao)|((with_reducible refine eR ((xs).length-(i+1)) ?_ ?_);omega;exact⟨i+1,_,by simp,rfl,rfl,by omega,hs⟩)|with_reducible apply mI
theorem qm {w:World} {X:XS} {a:Value} {xs:List KV} {most:Int} (ha:Sl w X 4 a (xs.map KV.l)):
  Ct pg 72 #[a,I most] w X nX AT:=by
 intro w0 hk;replace ha:=ha.mv hk.cE;have gC:=ha.gw;apply DE;unfold uI;have hs:=aj.init w0;refine fT (fun n a b w X=> ∃(i:Nat) (s:Int),a=I i∧b=I s∧n=(xs).length-i∧i≤(xs).length∧aj (aR w0) w0 X w) (xs).length ⟨0,_,rfl,rfl,rfl,aL _,hs⟩ ?_;rintro n a b w X ⟨i,s,rfl,rfl,rfl,hi,hs⟩;repeat' first|refine aG ?_;intros|refine dj ?_ ?_<;>intros|((first|(with_reducible refine ai hs ?_)|(with_reducible refine ai (bE.trans hs) ?_));intro wa hk;exact⟨_,rfl⟩)|(refine jj (iO  _ _ _ _ _) kQ hs.has ?_;intro n1 w X ao;replace hs:=hs.trans ao)|((with_reducible refine eR ((xs).length-(i+1)) ?_ ?_);omega;exact⟨i+1,_,by simp,rfl,rfl,by omega,hs⟩)|with_reducible apply mI
theorem Cn {w:World} {X:XS} {a:Value} {xs:List dB} {most:Int} (ha:kH w X a xs):
  Ct pg 116 #[a,I most] w X nX AT:=by
 intro w0 hk;replace ha:=ha.mv hk.cE;have gC:=ha.len;apply Ch;unfold s9;have hs:=aj.init w0;refine fT (fun n a b w X=> ∃(i:Nat) (s:Int),a=I i∧b=I s∧n=(xs).length-i∧i≤(xs).length∧aj (aR w0) w0 X w) (xs).length ⟨0,_,rfl,rfl,rfl,aL _,hs⟩ ?_;rintro n a b w X ⟨i,s,rfl,rfl,rfl,hi,hs⟩;repeat' first|refine aG ?_;intros|refine dj ?_ ?_<;>intros|((with_reducible apply EO);assumption;(try (case hz=>rfl));(case hr=>exact qR);(try (case hz=>omega));(case ht=>kernel_rfl);(case hs=>kernel_rfl);intros)|((first|(with_reducible refine ai hs ?_)|(with_reducible refine ai (bE.trans hs) ?_));intro wa hk;exact⟨_,rfl⟩)|(refine jj (iO  _ _ _ _ _) kQ hs.has ?_;intro n1 w X ao;replace hs:=hs.trans ao)|(refine jj (rj  qA) kQ hs.has ?_;intro n1 w X ao;replace hs:=hs.trans ao)|(refine jj (qm  qA) kQ hs.has ?_;intro n1 w X ao;replace hs:=hs.trans ao)|((with_reducible refine eR ((xs).length-(i+1)) ?_ ?_);omega;exact⟨i+1,_,by simp,rfl,rfl,by omega,hs⟩)|with_reducible apply mI
theorem Ci {w:World} {X:XS} {a:Value} {xs:List iM} {most:Int} (ha:lA w X a xs):
  Ct pg 115 #[a,I most] w X nX AT:=by
 intro w0 hk;replace ha:=ha.mv hk.cE;have gC:=ha.len;apply AW;unfold sH;have hs:=aj.init w0;refine Bg (fun n a _ b w X=> ∃(i:Nat) (s:Int),a=I i∧b=I s∧n=xs.length-i∧i≤xs.length∧aj (aR w0) w0 X w) xs.length ⟨0,_,rfl,rfl,rfl,aL _,hs⟩ ?_;rintro n a a2 b w X ⟨i,s,rfl,rfl,rfl,hi,hs⟩;repeat' first|refine aG ?_;intros|refine dj ?_ ?_<;>intros|((with_reducible apply MD);assumption;(try (case hz=>rfl));(case hr=>exact qR);(try (case hz=>omega));(case ht=>kernel_rfl);(case hs=>kernel_rfl);intros)|((first|(with_reducible refine ai hs ?_)|(with_reducible refine ai (bE.trans hs) ?_));intro wa hk;exact⟨_,rfl⟩)|(refine jj (iO  _ _ _ _ _) kQ hs.has ?_;intro n1 w X ao;replace hs:=hs.trans ao)|with_reducible apply mI
 have cI:i<xs.length:=by omega
 obtain⟨x,hx,hd⟩:=yC cI;refine fT (fun n a b w X=> ∃(k:Nat) (s:Int),a=I k∧b=I s∧n=x.kc.length-k∧k≤x.kc.length∧aj (aR w0) w0 X w) x.kc.length ⟨0,_,rfl,rfl,rfl,aL _,hs⟩ ?_;rintro n a b w X ⟨k,s,rfl,rfl,rfl,hk,hs⟩;repeat' first|refine aG ?_;intros|refine dj ?_ ?_<;>intros|((with_reducible apply MD);assumption;(try (case hz=>rfl));(case hr=>exact qR);(try (case hz=>omega));(case ht=>kernel_rfl);(case hs=>kernel_rfl);intros)|(refine jj (iO  _ _ _ _ _) kQ hs.has ?_;intro n1 w X ao;replace hs:=hs.trans ao)|((with_reducible refine zg ((xs).length-(i+1)) ?_ ?_);omega;exact⟨i+1,_,by simp,rfl,rfl,by omega,hs⟩)|((with_reducible refine eR (x.kc.length-(k+1)) ?_ ?_);omega;exact⟨k+1,_,by simp,rfl,rfl,by omega,hs⟩)|(have hl9:=Sl.gw ‹Sl w0 (aR w0) 6 _ (List.map ki.l x.kc)›;(with_reducible apply adl);omega;omega)|with_reducible apply mI
theorem xw {w:World} {X:XS} {s:State} {vh vp:Value} {most:Int} (ha:lA w X vh s.gF) (hb:kH w X vp s.eK):
  Ct pg 74 #[s.v vh vp,I most] w X nX AT:=by
 intro w0 hk;replace ha:=ha.mv hk.cE;replace hb:=hb.mv hk.cE;apply EC;unfold vT;have hs:=aj.init w0;repeat' first|((first|(with_reducible refine ai hs ?_)|(with_reducible refine ai (bE.trans hs) ?_));intro wa hk;exact⟨_,rfl⟩)|(refine jj (iO  _ _ _ _ _) kQ hs.has ?_;intro n1 w X ao;replace hs:=hs.trans ao)|(refine jj (Ci  qA) kQ hs.has ?_;intro n1 w X ao;replace hs:=hs.trans ao)|(refine jj (Cn  qA) kQ hs.has ?_;intro n1 w X ao;replace hs:=hs.trans ao)
theorem Iw {w:World} {X:XS} {r:Rec} {vr vw vp vq vh vd:Value} {most:Int} (ha:r.at w X vr vw vp vq vh vd):
  Ct pg 73 #[r.v vr vw vp vq vh vd,I most] w X nX AT:=by
 intro w0 hk;obtain⟨h1,h2,h3,h4,h5,h6⟩:=ha.mv hk.cE;have gC:=h4.gw;apply Hh;unfold yj;have hs:=aj.init w0;repeat' first|refine aG ?_;intros|(refine jj (iO  _ _ _ _ _) kQ hs.has ?_;intro n1 w X ao;replace hs:=hs.trans ao)|(refine jj (rj  qA) kQ hs.has ?_;intro n1 w X ao;replace hs:=hs.trans ao)|(refine jj (qm  qA) kQ hs.has ?_;intro n1 w X ao;replace hs:=hs.trans ao)|with_reducible apply mI
 refine fT (fun n a b w X=> ∃(i:Nat) (s:Int),a=I i∧b=I s∧n=(r.qL).length-i∧i≤(r.qL).length∧aj (aR w0) w0 X w) (r.qL).length ⟨0,_,rfl,rfl,rfl,aL _,hs⟩ ?_;rintro n a b w X ⟨i,s,rfl,rfl,rfl,hi,hs⟩;repeat' first|refine aG ?_;intros|refine dj ?_ ?_<;>intros|((first|(with_reducible refine ai hs ?_)|(with_reducible refine ai (bE.trans hs) ?_));intro wa hk;exact⟨_,rfl⟩)|(refine jj (iO  _ _ _ _ _) kQ hs.has ?_;intro n1 w X ao;replace hs:=hs.trans ao)|(refine jj (xw  (s:=r.state) qA qA) kQ hs.has ?_;intro n1 w X ao;replace hs:=hs.trans ao)|((with_reducible refine eR ((r.qL).length-(i+1)) ?_ ?_);omega;exact⟨i+1,_,by simp,rfl,rfl,by omega,hs⟩)|with_reducible apply mI
def rF (s:BA):Bool:=decide ((s.size:Int)≥1)&&decide ((s.size:Int)≤24)
theorem pG (s:BA):Pure pg 194 #[.string s] (B (rF s)):=by
 intro w0;apply Ve;unfold IN;have hs:=aj.init w0;repeat' first|refine aG ?_;intros|refine dj ?_ ?_<;>intros|(with_reducible refine fh hs ?_);simp_all [rF]<;>omega
theorem XG (r:ju) (x:Nat):Pure pg 163 #[r.v,.float .f64 x] (B ((F5 x r.lo||zU x r.lo)&&Cr x r.hi)):=by
 intro w0;apply Wh;unfold Lj;have hs:=aj.init w0;repeat' first|refine aG ?_;intros|refine dj ?_ ?_<;>intros|(with_reducible refine fh hs ?_);(simp_all<;>grind)
def canon (x:Nat):Nat:=if zU x x then x else 9221120237041090560
theorem Wl (x:Nat):Pure pg 276 #[.float .f64 x] (.float .f64 (canon x)):=by
 intro w0;apply Vj;unfold IV;have hs:=aj.init w0;repeat' first|refine aG ?_;intros|refine dj ?_ ?_<;>intros|(with_reducible refine fh hs ?_);simp_all [canon]|((with_reducible refine Bx (v:=.float .f64 9221120237041090560) ?_ hs.has ?_);(· intro wa;kernel_rfl);intro w X ao;replace hs:=hs.trans ao)
theorem EU (x:Nat):Pure pg 228 #[.float .f64 x] (.int .u64 (canon x)):=by
 intro w0;apply Wk;unfold Lm;have hs:=aj.init w0;repeat' first|((with_reducible refine gh (Wl _) ?_ hs.has ?_);(· kernel_rfl);intro w X ao;replace hs:=hs.trans ao)|(with_reducible refine fh hs ?_);rfl|((with_reducible refine Bx (yr _) hs.has ?_);intro w X ao;replace hs:=hs.trans ao)
def land (a b:Int):Int:=IntKind.u64.wrap (cm IntKind.u64.bits a&&& cm IntKind.u64.bits b).toNat
def Pz (a b:Int):Int:=IntKind.u64.wrap (cm IntKind.u64.bits a^^^cm IntKind.u64.bits b).toNat
def FU (a n:Int):Int:=a.fdiv (2^min n.toNat IntKind.u64.bits)
def Vl (a b:Int):Int:=IntKind.u64.wrap (a*b)
theorem agw {P:Program} {X:XS} {w:World} {N:Value→Prop} {t:TypeId} {a b:Int} (h:N (.int .u64 (land a b))):ab P X w (binOp .and t (.int .u64 a) (.int .u64 b)) N:=WO h
theorem Oa {P:Program} {X:XS} {w:World} {N:Value→Prop} {t:TypeId} {a b:Int} (h:N (.int .u64 (Pz a b))):ab P X w (binOp .xor t (.int .u64 a) (.int .u64 b)) N:=OE h
theorem IY {P:Program} {X:XS} {w:World} {N:Value→Prop} {t:TypeId} {a b:Int} (hb: ¬b<0) (h:N (.int .u64 (FU a b))):ab P X w (binOp .shr t (.int .u64 a) (.int .u64 b)) N:=AZ hb h
theorem Vm {P:Program} {X:XS} {w:World} {N:Value→Prop} {t:TypeId} {a b:Int} (h:N (.int .u64 (Vl a b))):ab P X w (binOp .mul t (.int .u64 a) (.int .u64 b)) N:=aeg h
def cls (x:Nat):Int:=
 let b:Int:=canon x
 let e:=land (FU b 52) 2047
 let f:=land b 4503599627370495
 if e=2047∧f≠0 then 0 else
  let k:=if e=2047 then 8 else if e>0 then 7 else if f>0 then 6 else 5
  if land b 9223372036854775808≠0 then 9-k else k
theorem Ln (x:Nat):Pure pg 241 #[.float .f64 x] (I (cls x)):=by
 intro w0;apply Vi;unfold IT;have hs:=aj.init w0;repeat' first|refine aG ?_;intros|refine dj ?_ ?_<;>intros|with_reducible apply dJ|((with_reducible refine gh (EU _) ?_ hs.has ?_);(· kernel_rfl);intro w X ao;replace hs:=hs.trans ao)|(with_reducible refine fh hs ?_);(simp only [cls] at*;grind)|with_reducible apply agw|(with_reducible apply IY);omega
def ME:Nat:=4607182418800017408
def EE (x:Nat):Bool:=decide (cls x≥5)&&(Cr x ME||zU x ME)
theorem GG (x:Nat):Pure pg 198 #[.float .f64 x] (B (EE x)):=by
 intro w0;apply Pu;unfold Eu;have hs:=aj.init w0;repeat' first|refine aG ?_;intros|refine dj ?_ ?_<;>intros|((with_reducible refine gh (Ln _) ?_ hs.has ?_);(· kernel_rfl);intro w X ao;replace hs:=hs.trans ao)|(with_reducible refine fh hs ?_);(simp_all [EE,ME]<;>grind)
def AY (x:Nat):Nat×Int:=if cls x=4 then(0,0)else if EE x then(x,0)else(0,1)
theorem QV (x:Nat):Pure pg 246 #[.float .f64 x] (.tuple #[.float .f64 (AY x).1,I (AY x).2]):=by
 intro w0;apply Pw;unfold Ey;have hs:=aj.init w0;repeat' first|refine aG ?_;intros|refine dj ?_ ?_<;>intros|((with_reducible refine dI (GG _) ?_ hs.has ?_ ?_);(· kernel_rfl);all_goals (intro _ w X ao;replace hs:=hs.trans ao))|((with_reducible refine gh (Ln _) ?_ hs.has ?_);(· kernel_rfl);intro w X ao;replace hs:=hs.trans ao)|(with_reducible refine fh hs ?_);(simp_all [AY]<;>grind)
def ju.may (r:ju):Bool:=decide (r.id≥1)&&decide (r.id≤12)&&decide (r.jo≥0)&&EE r.lo&&EE r.hi&&Cr r.lo r.hi
theorem Kw (r:ju):Pure pg 160 #[r.v] (B r.may):=by
 intro w0;apply Vc;unfold IK;have hs:=aj.init w0;repeat' first|refine aG ?_;intros|refine dj ?_ ?_<;>intros|with_reducible apply dJ|((with_reducible refine dI (GG _) ?_ hs.has ?_ ?_);(· kernel_rfl);all_goals (intro _ w X ao;replace hs:=hs.trans ao))|(with_reducible refine fh hs ?_);(simp_all [ju.may]<;>omega)
def nq.may (v:nq):Bool:=
 if v.kind=0 then decide (v.num=0)&&decide (v.text=⟨#[]⟩)
 else if v.kind=1 then decide (v.text=⟨#[]⟩)&&decide (v.num=canon v.num)
 else if v.kind=2 then decide (v.num=0)&&decide ((v.text.size:Int)≤64)
 else false
theorem ns (v:nq):Pure pg 196 #[v.v] (B v.may):=by
 intro w0;apply Vf;unfold IP;have hs:=aj.init w0;repeat' first|refine aG ?_;intros|refine dj ?_ ?_<;>intros|with_reducible apply dJ|((with_reducible refine gh (EU _) ?_ hs.has ?_);(· kernel_rfl);intro w X ao;replace hs:=hs.trans ao)|(with_reducible refine fh hs ?_);(simp_all [nq.may]<;>omega)|((with_reducible refine Bx (yr _) hs.has ?_);intro w X ao;replace hs:=hs.trans ao)
def Cw (h:Int) (b:UInt8):Int:=Vl (Pz h (IntKind.u64.wrap b.toNat)) 1099511628211
def agx (h:Int):Nat→Int
 |0=>h
 |1=>Vl (Pz h (FU h 33)) 18397679294719823053
 |_=>let g:=Vl (Pz h (FU h 33)) 18397679294719823053;Vl (Pz g (FU g 33)) 14181476777654086739
def IZ (s:BA):Int:=let h:=agx (s.data.toList.foldl Cw 14695981039346656037) 2;Pz h (FU h 33)
theorem Vn (s:BA) (ai2:s.size≤2^62):Pure pg 205 #[.string s] (.int .u64 (IZ s)):=by
 intro w0;have fN:=QR s;apply RC;unfold GD;have hs:=aj.init w0;repeat' first|refine aG ?_;intros
 refine fT (fun n a b w X=> ∃(i:Nat) (h:Int),a=I i∧b= .int .u64 h∧n=s.data.toList.length-i∧i≤s.data.toList.length∧aj (aR w0) w0 X w∧
  s.data.toList.foldl Cw 14695981039346656037=(s.data.toList.drop i).foldl Cw h) s.data.toList.length ?_ ?_
 ·exact⟨0,14695981039346656037,rfl,rfl,rfl,aL _,hs,by rw [pA]⟩
 rintro n a b w X ⟨i,h,rfl,rfl,rfl,hi,hs,hw⟩;rcases dX s.data.toList i with⟨cI,x,hx,hd⟩|⟨dV,hd⟩
 ·repeat' first|refine bQ ?_;intros|with_reducible (first|apply Oa|apply Vm)|((with_reducible refine eR ((s.data.toList).length-(i+1)) ?_ ?_);omega;exact⟨i+1,_,by simp,rfl,rfl,by omega,hs,by rw [hw,hd,il];rfl⟩)
 ·repeat' first|refine bQ ?_;intros
  rw [hd] at hw;refine fT (fun n a b w X=> ∃(i:Nat),a=I i∧b= .int .u64 (agx h i)∧n=2-i∧i≤2∧aj (aR w0) w0 X w) 2 ⟨0,rfl,rfl,rfl,aL _,hs⟩ ?_;rintro n a b w X ⟨i,rfl,rfl,rfl,hi,hs⟩;obtain rfl|rfl|rfl:i=0∨i=1∨i=2:=by omega
  ·repeat' first|refine bQ ?_;intros|(with_reducible apply Oa)|(with_reducible apply Vm)|(with_reducible apply IY);omega|(with_reducible refine eR 1 ?_ ?_);omega;exact⟨1,rfl,rfl,rfl,by omega,hs⟩
  ·repeat' first|refine bQ ?_;intros|(with_reducible apply Oa)|(with_reducible apply Vm)|(with_reducible apply IY);omega|(with_reducible refine eR 0 ?_ ?_);omega;exact⟨2,rfl,rfl,rfl,by omega,hs⟩
  ·repeat' first|refine bQ ?_;intros|(with_reducible refine fh hs ?_);(simp only [IZ,hw];rfl)|(with_reducible apply Oa)|(with_reducible apply IY);omega
theorem ZC (n:Int): ∃r,floatBits .quo .f64 (floatOfInt .f64 n) 4845873199050653696=some r:=by
 have hn:(Ieee.double.read (floatOfInt .f64 n)).isNaN=false:=UI _ _ _ _;have hd:Ieee.double.read 4845873199050653696= .number false 4503599627370496 1:=by kernel_rfl
 show∃r,((Ieee.double.read (floatOfInt .f64 n)).quotient _ (Ieee.double.read 4845873199050653696)).map _=some r
 rw [hd];cases hr:Ieee.double.read (floatOfInt .f64 n)with
 |number s m p=>simp [tU]
 |infinity s=>simp [tU]
 |nan s f=>rw [hr] at hn;simp [Ieee.Datum.isNaN] at hn
def placeOf (s:BA):Nat:=(floatBits .quo .f64 (floatOfInt .f64 (FU (IZ s) 11)) 4845873199050653696).getD 0
theorem ZD (s:BA):floatBits .quo .f64 (floatOfInt .f64 (FU (IZ s) 11)) 4845873199050653696=some (placeOf s):=by
 obtain⟨r,hr⟩:=ZC (FU (IZ s) 11);rw [placeOf,hr];rfl
theorem EN (s:BA) (ai2:s.size≤2^62):Pure pg 164 #[.string s] (.float .f64 (placeOf s)):=by
 intro w0;apply Wi;unfold Lk;have hs:=aj.init w0;repeat' first|refine aG ?_;intros|((with_reducible refine gh (Vn _ (by first|assumption|omega)) ?_ hs.has ?_);(· kernel_rfl);intro w X ao;replace hs:=hs.trans ao)|(with_reducible refine fh hs ?_);rfl|(with_reducible apply IY);omega|(with_reducible apply ahm);(· exact ZD s)
def rising (l:List BA):Bool:=chain rF pd none l
def qV (l:List BA):Bool:=rising l&&decide ((l.length:Int)≤16)
theorem Wm {w:World} {X:XS} {a:Value} {xs:List BA} (ha:Sl w X 1 a (xs.map S1)):
  Ct pg 206 #[a] w X nX fun v _ _=>v=B (qV xs):=by
 intro w0 hk;replace ha:=ha.mv hk.cE;have gC:=ha.gw;apply Vg;unfold IQ;have hs:=aj.init w0;repeat' first|refine aG ?_;intros
 refine eA (fun n a w X=> ∃i:Nat,a=I (i:Nat)∧n=(xs).length-i∧i≤(xs).length∧aj (aR w0) w0 X w∧chain rF pd none xs=chain rF pd (pe xs i) (xs.drop i)) (xs).length ⟨0,rfl,rfl,aL _,hs,by simp [pe]⟩ ?_;rintro n a w X ⟨i,rfl,rfl,hi,hs,hw⟩;rcases dX (xs) i with⟨cI,x,hx,hd⟩|⟨dV,hd⟩
 ·rcases Jf cI with⟨h0,hp⟩|⟨h0,y,hy,hp⟩<;>rw [hp,hd,chain] at hw<;>clear hd
  ·repeat' first|refine bQ ?_;intros|((with_reducible refine dI (pG _) ?_ hs.has ?_ ?_);(· kernel_rfl);all_goals (intro _ w X ao;replace hs:=hs.trans ao))|((first|(with_reducible refine ai hs ?_)|(with_reducible refine ai (bE.trans hs) ?_));intro wa hk;simp_all [qV,rising,chain])|((with_reducible refine en ((xs).length-(i+1)) ?_ ?_);omega;exact⟨i+1,by simp,rfl,by omega,hs,by rw [hw,nu hx];simp [*]⟩)
  ·repeat' first|refine bQ ?_;intros|refine dj ?_ ?_<;>intros|((with_reducible refine dI (pG _) ?_ hs.has ?_ ?_);(· kernel_rfl);all_goals (intro _ w X ao;replace hs:=hs.trans ao))|((first|(with_reducible refine ai hs ?_)|(with_reducible refine ai (bE.trans hs) ?_));intro wa hk;simp_all [qV,rising,chain])|((with_reducible refine en ((xs).length-(i+1)) ?_ ?_);omega;exact⟨i+1,by simp,rfl,by omega,hs,by rw [hw,nu hx];simp [*]⟩)
 ·repeat' first|refine bQ ?_;intros|refine dj ?_ ?_<;>intros|((first|(with_reducible refine ai hs ?_)|(with_reducible refine ai (bE.trans hs) ?_));intro wa hk;simp_all [qV,rising,chain]<;>omega)
def HN (l:List KV):Bool:=qV (l.map (·.key))&&l.all (·.val.may)
theorem Mq {w:World} {X:XS} {a:Value} {xs:List KV} (ha:Sl w X 4 a (xs.map KV.l)) (hb:xs.length≤2^40):
  Ct pg 207 #[a] w X nX fun v wa w'=>Own w' (made wa w') wa.heap.size 9 1 v ((xs.map (·.key)).map S1):=by
 intro w0 hk;replace ha:=ha.mv hk.cE;have gC:=ha.gw;apply Km;unfold AD;have hs:=aj.init w0;repeat' first|refine aG ?_;intros
 refine fT (fun n a b w X=> ∃i:Nat,a=I i∧n=xs.length-i∧i≤xs.length∧aj (aR w0) w0 X w∧Own w X w0.heap.size 9 1 b (((xs.take i).map (·.key)).map S1)) xs.length ⟨0,rfl,rfl,aL _,hs,Own.nil _ _ _ _ _⟩ ?_;rintro n a b w X ⟨i,rfl,rfl,hi,hs,ho⟩;rcases dX (xs) i with⟨cI,x,hx,hd⟩|⟨dV,hd⟩
 ·repeat' first|refine bQ ?_;intros|((with_reducible apply Ov);(case own=>first|assumption|exact Own.since (by assumption) (by assumption));(case hs=>assumption);(case h0=>first|exact fun _ h=>h|exact bE.has);(case he=>kernel_rfl);(case hk=>rfl);(case ho=>first|rfl|assumption);(case hb=>(simp only [aA,aX,ae,bT,bI];omega));(case hl=>(simp only [aA,aX,ae,bT,bI];omega));intro acc w X ao ho hc fH;replace hs:=ao)|((with_reducible refine eR ((xs).length-(i+1)) ?_ ?_);omega;exact⟨i+1,by simp,rfl,by omega,hs,by rw [bg,hx];simpa using ho⟩)
 ·repeat' first|refine bQ ?_;intros|((first|(with_reducible refine ai hs ?_)|(with_reducible refine ai (bE.trans hs) ?_));intro wa hk;(rw [ba dV] at ho;exact(ho.kp hk).tight))
def dB.err (p:dB):Int:=
 if !p.b6.may then 4 else if !p.aw.may||decide (p.aw= .zero)then 17
 else if !qV p.reads||!qV (p.writes.map (·.key))then 4
 else if p.writes.all (·.val.may)then 0 else 4
theorem pS {w:World} {X:XS} {p:dB} {vr vw:Value} (h1:Sl w X 1 vr (p.reads.map S1)) (h2:Sl w X 4 vw (p.writes.map KV.l)) (hb:p.writes.length≤2^40):
  Ct pg 165 #[p.v vr vw] w X nX fun v _ _=>v=I p.err:=by
 intro w0 hk;replace h1:=h1.mv hk.cE;replace h2:=h2.mv hk.cE;have gC:=h2.gw;apply IX;unfold zG;have hs:=aj.init w0;repeat' first|refine aG ?_;intros|(with_reducible refine wR _ ?_ ?_ ?_);(· kernel_rfl);all_goals intros|with_reducible apply dJ|((with_reducible refine dI (jf _) ?_ hs.has ?_ ?_);(· kernel_rfl);all_goals (intro _ w X ao;replace hs:=hs.trans ao))|((with_reducible refine dI (zJ _) ?_ hs.has ?_ ?_);(· kernel_rfl);all_goals (intro _ w X ao;replace hs:=hs.trans ao))|((first|(with_reducible refine ai hs ?_)|(with_reducible refine ai (bE.trans hs) ?_));intro wa hk;simp_all [dB.err])|(refine eO (Wm  qA) kQ hs.has ?_ ?_<;>(intro _ w X ao;replace hs:=hs.trans ao))|(refine ep (Mq  qA qA) kQ hs.has ?_;rintro v1 wa w X kD hle eH ao;have ez:=af hs.kp.size hle;replace hs:=hs.trans ao;replace kD:=kD.up eH ez)
 refine eA (fun n a w X=> ∃i:Nat,a=I (i:Nat)∧n=(p.writes).length-i∧i≤(p.writes).length∧aj (aR w0) w0 X w∧p.writes.all (·.val.may)=(p.writes.drop i).all (·.val.may)) (p.writes).length ⟨0,rfl,rfl,aL _,hs,by simp⟩ ?_;rintro n a w X ⟨i,rfl,rfl,hi,hs,hw⟩;rcases dX (p.writes) i with⟨cI,x,hx,hd⟩|⟨dV,hd⟩
 ·repeat' first|refine bQ ?_;intros|((with_reducible refine dI (ns _) ?_ hs.has ?_ ?_);(· kernel_rfl);all_goals (intro _ w X ao;replace hs:=hs.trans ao))|((first|(with_reducible refine ai hs ?_)|(with_reducible refine ai (bE.trans hs) ?_));intro wa hk;simp_all [dB.err])|((with_reducible refine en ((p.writes).length-(i+1)) ?_ ?_);omega;exact⟨i+1,by simp,rfl,by omega,hs,by rw [hw,hd];simp [*]⟩)
 ·repeat' first|refine bQ ?_;intros|((first|(with_reducible refine ai hs ?_)|(with_reducible refine ai (bE.trans hs) ?_));intro wa hk;simp_all [dB.err])
def yn (l:List Int):Bool:=chain (fun n=>decide (n≥1)&&decide (n≤12)) (fun a b=>decide (a<b)) none l&&decide (l≠[])
theorem Hv {w:World} {X:XS} {a:Value} {xs:List Int} (ha:Sl w X 1 a (xs.map I1)):
  Ct pg 157 #[a] w X nX fun v _ _=>v=B (yn xs):=by
 intro w0 hk;replace ha:=ha.mv hk.cE;have gC:=ha.gw;apply Rz;unfold GB;have hs:=aj.init w0;repeat' first|refine aG ?_;intros
 refine eA (fun n a w X=> ∃i:Nat,a=I (i:Nat)∧n=(xs).length-i∧i≤(xs).length∧aj (aR w0) w0 X w∧chain (fun n=>decide (n≥1)&&decide (n≤12)) (fun a b=>decide (a<b)) none xs=chain (fun n=>decide (n≥1)&&decide (n≤12)) (fun a b=>decide (a<b)) (pe xs i) (xs.drop i)) (xs).length ⟨0,rfl,rfl,aL _,hs,by simp [pe]⟩ ?_;rintro n a w X ⟨i,rfl,rfl,hi,hs,hw⟩;rcases dX (xs) i with⟨cI,x,hx,hd⟩|⟨dV,hd⟩
 ·rcases Jf cI with⟨h0,hp⟩|⟨h0,y,hy,hp⟩<;>rw [hp,hd,chain] at hw<;>clear hd
  ·repeat' first|refine bQ ?_;intros|refine dj ?_ ?_<;>intros|((first|(with_reducible refine ai hs ?_)|(with_reducible refine ai (bE.trans hs) ?_));intro wa hk;(simp_all [yn,chain]<;>omega))|((with_reducible refine en ((xs).length-(i+1)) ?_ ?_);omega;exact⟨i+1,by simp,rfl,by omega,hs,by rw [hw,nu hx];simp_all<;>omega⟩)
  ·repeat' first|refine bQ ?_;intros|refine dj ?_ ?_<;>intros|((first|(with_reducible refine ai hs ?_)|(with_reducible refine ai (bE.trans hs) ?_));intro wa hk;(simp_all [yn,chain]<;>omega))|((with_reducible refine en ((xs).length-(i+1)) ?_ ?_);omega;exact⟨i+1,by simp,rfl,by omega,hs,by rw [hw,nu hx];simp_all<;>omega⟩)
 ·repeat' first|refine bQ ?_;intros|refine dj ?_ ?_<;>intros|((first|(with_reducible refine ai hs ?_)|(with_reducible refine ai (bE.trans hs) ?_));intro wa hk;(simp_all [yn,chain]<;>grind))
def I8 (l:List KV):Bool:=chain (fun x=>rF x.key&&x.val.may&&decide (x.val.kind≠0)) (fun a b=>pd a.key b.key) none l
theorem Sp {w:World} {X:XS} {a:Value} {xs:List KV} (ha:Sl w X 4 a (xs.map KV.l)):
  Ct pg 249 #[a] w X nX fun v _ _=>v=B (I8 xs):=by
 intro w0 hk;replace ha:=ha.mv hk.cE;have gC:=ha.gw;apply RD;unfold GF;have hs:=aj.init w0;repeat' first|refine aG ?_;intros
 refine eA (fun n a w X=> ∃i:Nat,a=I (i:Nat)∧n=(xs).length-i∧i≤(xs).length∧aj (aR w0) w0 X w∧I8 xs=chain (fun x=>rF x.key&&x.val.may&&decide (x.val.kind≠0)) (fun a b=>pd a.key b.key) (pe xs i) (xs.drop i)) (xs).length ⟨0,rfl,rfl,aL _,hs,by simp [pe,I8]⟩ ?_;rintro n a w X ⟨i,rfl,rfl,hi,hs,hw⟩;rcases dX (xs) i with⟨cI,x,hx,hd⟩|⟨dV,hd⟩
 ·rcases Jf cI with⟨h0,hp⟩|⟨h0,y,hy,hp⟩<;>rw [hp,hd,chain] at hw<;>clear hd
  ·repeat' first|refine bQ ?_;intros|refine dj ?_ ?_<;>intros|with_reducible apply dJ|((with_reducible refine dI (pG _) ?_ hs.has ?_ ?_);(· kernel_rfl);all_goals (intro _ w X ao;replace hs:=hs.trans ao))|((with_reducible refine dI (ns _) ?_ hs.has ?_ ?_);(· kernel_rfl);all_goals (intro _ w X ao;replace hs:=hs.trans ao))|((first|(with_reducible refine ai hs ?_)|(with_reducible refine ai (bE.trans hs) ?_));intro wa hk;(simp_all [chain]<;>omega))|((with_reducible refine en ((xs).length-(i+1)) ?_ ?_);omega;exact⟨i+1,by simp,rfl,by omega,hs,by rw [hw,nu hx];simp_all<;>omega⟩)
  ·repeat' first|refine bQ ?_;intros|refine dj ?_ ?_<;>intros|with_reducible apply dJ|((with_reducible refine dI (pG _) ?_ hs.has ?_ ?_);(· kernel_rfl);all_goals (intro _ w X ao;replace hs:=hs.trans ao))|((with_reducible refine dI (ns _) ?_ hs.has ?_ ?_);(· kernel_rfl);all_goals (intro _ w X ao;replace hs:=hs.trans ao))|((first|(with_reducible refine ai hs ?_)|(with_reducible refine ai (bE.trans hs) ?_));intro wa hk;(simp_all [chain]<;>omega))|((with_reducible refine en ((xs).length-(i+1)) ?_ ?_);omega;exact⟨i+1,by simp,rfl,by omega,hs,by rw [hw,nu hx];simp_all<;>omega⟩)
 ·repeat' first|refine bQ ?_;intros|((first|(with_reducible refine ai hs ?_)|(with_reducible refine ai (bE.trans hs) ?_));intro wa hk;(simp_all [chain]<;>grind))
abbrev ju.zero:ju:=⟨0,0,0,0⟩
abbrev State.zero:State:=⟨.zero,.zero,.zero,[],[]⟩
def State.isZero (s:State):Bool:=decide (s.range= .zero)&&decide (s.floor= .zero)&&decide (s.closed= .zero)&&decide (s.gF=[])&&decide (s.eK=[])
theorem Mr {w:World} {X:XS} {s:State} {vh vp:Value} (h1:lA w X vh s.gF) (h2:kH w X vp s.eK):
  Ct pg 244 #[s.v vh vp] w X nX fun v _ _=>v=B s.isZero:=by
 intro w0 hk;replace h1:=h1.mv hk.cE;replace h2:=h2.mv hk.cE;apply Kn;unfold AE;have hs:=aj.init w0;repeat' first|refine aG ?_;intros|refine dj ?_ ?_<;>intros|(with_reducible refine wR _ ?_ ?_ ?_);(· kernel_rfl);all_goals intros|with_reducible apply dJ|((first|(with_reducible refine ai hs ?_)|(with_reducible refine ai (bE.trans hs) ?_));intro wa hk;(simp_all [State.isZero,ju.ext_iff]))|((with_reducible refine Bx (yr _) hs.has ?_);intro w X ao;replace hs:=hs.trans ao)
def Rec.isZero (r:Rec):Bool:=decide (r.b6= .zero)&&decide (r.aw= .zero)&&decide (r.prev= .zero)&&!r.ij&&decide (r.n=0)&&decide (r.jV=0)&&
 decide (r.reads=[])&&decide (r.writes=[])&&decide (r.parts=[])&&decide (r.qL=[])&&r.state.isZero
theorem Vv {w:World} {X:XS} {r:Rec} {vr vw vp vq vh vd:Value} (h:r.at w X vr vw vp vq vh vd):
  Ct pg 209 #[r.v vr vw vp vq vh vd] w X nX fun v _ _=>v=B r.isZero:=by
 intro w0 hk;obtain⟨h1,h2,h3,h4,h5,h6⟩:=h.mv hk.cE;apply Vh;unfold IS;have hs:=aj.init w0;cases hc:r.ij<;>
 repeat' first|refine aG ?_;intros|refine dj ?_ ?_<;>intros|(with_reducible refine wR _ ?_ ?_ ?_);(· kernel_rfl);all_goals intros|(with_reducible refine aaf _ ?_ ?_ ?_);(· kernel_rfl);all_goals intros|with_reducible apply dJ|((first|(with_reducible refine ai hs ?_)|(with_reducible refine ai (bE.trans hs) ?_));intro wa hk;(simp_all [Rec.isZero]))|((with_reducible refine Bx (yr _) hs.has ?_);intro w X ao;replace hs:=hs.trans ao)|(refine eO (Mr  (s:=r.state) qA qA) kQ hs.has ?_ ?_<;>(intro _ w X ao;replace hs:=hs.trans ao))
def Rec.strip (r:Rec):Rec×Bool:=
 if r.kind=1 then({ r with state:=.zero },true)
 else if r.kind=2∨r.kind=7∨r.kind=8 then({ r with n:=0 },true)
 else if r.kind=3 then({ r with b6:=.zero,aw:=.zero,reads:=[],writes:=[],parts:=[] },true)
 else if r.kind=4 then({ r with b6:=.zero,ij:=false,aw:=.zero },true)
 else if r.kind=5 then({ r with aw:=.zero },true)
 else if r.kind=6 then({ r with jV:=0,n:=0,aw:=.zero },true)
 else if r.kind=9 then({ r with b6:=.zero,aw:=.zero,parts:=[] },true)
 else if r.kind=10 then({ r with b6:=.zero },true)
 else if r.kind=11 then({ r with prev:=.zero,aw:=.zero,b6:=.zero,writes:=[] },true)
 else if r.kind=12 then({ r with aw:=.zero,qL:=[] },true)
 else(r,false)
theorem Oi {w:World} {X:XS} {r:Rec} {vr vw vp vq vh vd:Value} (h:r.at w X vr vw vp vq vh vd):
  Ct pg 208 #[r.v vr vw vp vq vh vd] w X nX fun v _ _=> ∃Sq oY Sr vq' Ss St,v= .tuple #[r.strip.1.v Sq oY Sr vq' Ss St,B r.strip.2]∧
   r.strip.1.at w X Sq oY Sr vq' Ss St:=by
 intro w0 hk;obtain⟨h1,h2,h3,h4,h5,h6⟩:=h;have o1:=h1.one;have o2:=h2.one;have o3:=h3.one;have o4:=h4.one;have o5:=h5.one;have o6:=h6.one;apply N7;unfold CZ;have hs:=aj.init w0;have n1:Sl w X 1 (.slice none 0 0) (([]:List BA).map S1):=Sl.nil _ _ _;have n2:Sl w X 4 (.slice none 0 0) (([]:List KV).map KV.l):=Sl.nil _ _ _;have n3:Sl w X 1 (.slice none 0 0) (([]:List Int).map I1):=Sl.nil _ _ _;have n4:lA w X (.slice none 0 0) []:=gq.nil _ _ _;have n5:kH w X (.slice none 0 0) []:=gq.nil _ _ _;repeat' first|refine aG ?_;intros|refine dj ?_ ?_<;>intros|with_reducible apply dJ
 all_goals
  refine ai hs ?_;intro wa bD;unfold Rec.strip;repeat (first|rw [if_pos zQ]|rw [if_neg zQ])
  exact⟨_,_,_,_,_,_,rfl,by assumption,by assumption,by assumption,by assumption,by assumption,by assumption⟩
theorem GH {w:World} {X:XS} {a:Value} {xs:List BA} (ha:Sl w X 1 a (xs.map S1)) (hb:xs.length≤2^40):
  Ct pg 167 #[a] w X nX fun v wa w'=>Own w' (made wa w') wa.heap.size 9 1 v (xs.map S1):=by
  intro w0 hk;replace ha:=ha.mv hk.cE;apply vm;unfold nZ;have hs:=aj.init w0;repeat' first|refine aG ?_;intros|refine dj ?_ ?_<;>intros|(with_reducible apply RM);(case hX=>exact hs.has);(case hu=>kernel_rfl);(case hz=>kernel_rfl);intro acc w X ao ho;replace hs:=hs.trans ao|((first|(with_reducible refine ai hs ?_)|(with_reducible refine ai (bE.trans hs) ?_));intro wa hk;(first|(rename_i h1 h2;(first|(rw [h2])|skip);exact Own.nil _ _ _ _ _)|exact(ho.kp hk).tight))|((with_reducible apply MQ);(case own=>assumption);(case hs=>assumption);(case h0=>exact fun _ h=>h);(case he=>kernel_rfl);(case src=>exact Sl.mv ha (aj.mv hs));(case h1=>simp [bB.one]);(case hb=>simp;omega);(case hl=>simp;omega);intro acc w X ao ho hc fH;replace hs:=ao;rw [eB] at ho)
theorem qf {w:World} {X:XS} {a:Value} {xs:List KV} (ha:Sl w X 4 a (xs.map KV.l)) (hb:xs.length≤2^40):
  Ct pg 45 #[a] w X nX fun v wa w'=>Own w' (made wa w') wa.heap.size 118 4 v (xs.map KV.l):=by
  intro w0 hk;replace ha:=ha.mv hk.cE;apply rZ;unfold lG;have hs:=aj.init w0;repeat' first|refine aG ?_;intros|refine dj ?_ ?_<;>intros|(with_reducible apply RM);(case hX=>exact hs.has);(case hu=>kernel_rfl);(case hz=>kernel_rfl);intro acc w X ao ho;replace hs:=hs.trans ao|((first|(with_reducible refine ai hs ?_)|(with_reducible refine ai (bE.trans hs) ?_));intro wa hk;(first|(rename_i h1 h2;(first|(rw [h2])|skip);exact Own.nil _ _ _ _ _)|exact(ho.kp hk).tight))|((with_reducible apply MQ);(case own=>assumption);(case hs=>assumption);(case h0=>exact fun _ h=>h);(case he=>kernel_rfl);(case src=>exact Sl.mv ha (aj.mv hs));(case h1=>simp [bB.one]);(case hb=>simp;omega);(case hl=>simp;omega);intro acc w X ao ho hc fH;replace hs:=ao;rw [eB] at ho)
theorem Ms {w:World} {X:XS} {a:Value} {xs:List ki} (ha:Sl w X 6 a (xs.map ki.l)) (hb:xs.length≤2^40):
  Ct pg 201 #[a] w X nX fun v wa w'=>Own w' (made wa w') wa.heap.size 227 6 v (xs.map ki.l):=by
  intro w0 hk;replace ha:=ha.mv hk.cE;apply qp;unfold ky;have hs:=aj.init w0;repeat' first|refine aG ?_;intros|refine dj ?_ ?_<;>intros|(with_reducible apply RM);(case hX=>exact hs.has);(case hu=>kernel_rfl);(case hz=>kernel_rfl);intro acc w X ao ho;replace hs:=hs.trans ao|((first|(with_reducible refine ai hs ?_)|(with_reducible refine ai (bE.trans hs) ?_));intro wa hk;(first|(rename_i h1 h2;(first|(rw [h2])|skip);exact Own.nil _ _ _ _ _)|exact(ho.kp hk).tight))|((with_reducible apply MQ);(case own=>assumption);(case hs=>assumption);(case h0=>exact fun _ h=>h);(case he=>kernel_rfl);(case src=>exact Sl.mv ha (aj.mv hs));(case h1=>simp [bB.one]);(case hb=>simp;omega);(case hl=>simp;omega);intro acc w X ao ho hc fH;replace hs:=ao;rw [eB] at ho)
theorem RE {w:World} {X:XS} {a:Value} {xs:List BA} {k:BA} (ha:Sl w X 1 a (xs.map S1)):
  Ct pg 137 #[a,.string k] w X nX fun v _ _=>v=I (idxOf (fun x=>decide (k=x)) xs):=by
 intro w0 hk;replace ha:=ha.mv hk.cE;have gC:=ha.gw;apply vl;unfold nY;have hs:=aj.init w0;repeat' first|refine aG ?_;intros
 refine eA (fun n a w X=> ∃i:Nat,a=I (i:Nat)∧n=(xs).length-i∧i≤(xs).length∧aj (aR w0) w0 X w∧(∀(j:Nat) x,j<i→xs[j]? =some x→decide (k=x)=false)) (xs).length ⟨0,rfl,rfl,aL _,hs,by simp⟩ ?_;rintro n a w X ⟨i,rfl,rfl,hi,hs,hw⟩;rcases dX (xs) i with⟨cI,x,hx,hd⟩|⟨dV,hd⟩
 ·repeat' first|refine bQ ?_;intros|refine dj ?_ ?_<;>intros|((first|(with_reducible refine ai hs ?_)|(with_reducible refine ai (bE.trans hs) ?_));intro wa hk;(rw [uX hw hx (by simpa)]))|((with_reducible refine en ((xs).length-(i+1)) ?_ ?_);omega;exact⟨i+1,by simp,rfl,by omega,hs,fun j y hj hy=>by rcases Nat.lt_succ_iff_lt_or_eq.1 hj with h|h;exact hw j y h hy;subst h;rw [hx] at hy;cases hy;simpa⟩)
 ·repeat' first|refine bQ ?_;intros|((first|(with_reducible refine ai hs ?_)|(with_reducible refine ai (bE.trans hs) ?_));intro wa hk;(rw [qQ fun j x hj hx=>hw j x zQ hx]))
theorem BW {w:World} {X:XS} {a:Value} {xs:List BA} {k:BA} (ha:Sl w X 1 a (xs.map S1)):
  Ct pg 99 #[a,.string k] w X nX fun v _ _=>v=B (xs.any fun x=>decide (k=x)):=by
 intro w0 hk;replace ha:=ha.mv hk.cE;apply tF;unfold mN;have hs:=aj.init w0;repeat' first|refine aG ?_;intros|refine dj ?_ ?_<;>intros|((first|(with_reducible refine ai hs ?_)|(with_reducible refine ai (bE.trans hs) ?_));intro wa hk;(rw [←qw];simp [*]))|(refine dH (RE  qA) kQ hs.has ?_;intro w X ao;replace hs:=hs.trans ao)
theorem I0 {w:World} {X:XS} {a:Value} {xs:List KV} {f:FuncId} {cs:List Value} {p:KV→Bool} (ha:Sl w X 4 a (xs.map KV.l)) (hX: ∀k,X k→k<w.heap.size) (hf:enters pg f=true)
  (hp: ∀x,Ct pg f ((.agg x.l.toArray)::cs).toArray w X nX fun v _ _=>v=B (p x)):
  Ct pg 293 #[a,.func (.func f) #[] cs.toArray] w X nX fun v _ _=>v=I (idxOf p xs):=by
 intro w0 hk;replace ha:=ha.mv hk.cE;replace hp:=fun x=>((hp x).kp hk).aR fun k hx=>aN (hX k hx) hk.size;have gC:=ha.gw;apply qs;unfold kz;have hs:=aj.init w0;repeat' first|refine aG ?_;intros
 refine eA (fun n a w X=> ∃i:Nat,a=I (i:Nat)∧n=(xs).length-i∧i≤(xs).length∧aj (aR w0) w0 X w∧(∀(j:Nat) x,j<i→xs[j]? =some x→p x=false)) (xs).length ⟨0,rfl,rfl,aL _,hs,by simp⟩ ?_;rintro n a w X ⟨i,rfl,rfl,hi,hs,hw⟩;rcases dX (xs) i with⟨cI,x,hx,hd⟩|⟨dV,hd⟩
 ·repeat' first|refine bQ ?_;intros|((first|(with_reducible refine ai hs ?_)|(with_reducible refine ai (bE.trans hs) ?_));intro wa hk;(rw [uX hw hx ‹_›]))|((with_reducible refine en ((xs).length-(i+1)) ?_ ?_);omega;exact⟨i+1,by simp,rfl,by omega,hs,fun j y hj hy=>by rcases Nat.lt_succ_iff_lt_or_eq.1 hj with h|h;exact hw j y h hy;subst h;rw [hx] at hy;cases hy;assumption⟩)|(refine eO ((hp x).since hs) hf hs.has ?_ ?_<;>(intro _ w X ao;replace hs:=hs.trans ao))
 ·repeat' first|refine bQ ?_;intros|((first|(with_reducible refine ai hs ?_)|(with_reducible refine ai (bE.trans hs) ?_));intro wa hk;(rw [qQ fun j x hj hx=>hw j x zQ hx]))
theorem qg {w:World} {X:XS} {a:Value} {xs:List KV} {f:FuncId} {cs:List Value} {p:KV→Bool} (ha:Sl w X 4 a (xs.map KV.l)) (hX: ∀k,X k→k<w.heap.size) (hf:enters pg f=true)
  (hp: ∀x,Ct pg f ((.agg x.l.toArray)::cs).toArray w X nX fun v _ _=>v=B (p x)):
  Ct pg 252 #[a,.func (.func f) #[] cs.toArray] w X nX fun v _ _=>v=B (xs.any p):=by
 intro w0 hk;replace ha:=ha.mv hk.cE;replace hp:=fun x=>((hp x).kp hk).aR fun k hx=>aN (hX k hx) hk.size;apply pB;unfold jJ;have hs:=aj.init w0;repeat' first|refine aG ?_;intros|refine dj ?_ ?_<;>intros|((first|(with_reducible refine ai hs ?_)|(with_reducible refine ai (bE.trans hs) ?_));intro wa hk;(rw [←qw];simp [*]))|(refine dH (I0 ha hs.has hf hp) kQ hs.has ?_;intro w X ao;replace hs:=hs.trans ao)
def tle (a b:BA):Bool:=pd a b||decide (a=b)
def yH:aO→List ki→Bool
 |_,[]=>true
 |s,v::r=>v.aw.may&&decide (v.aw.cmp s>0)&&v.val.may&&yH v.aw r
def iM.ok (h:iM) (ahead:BA):Bool:=rF h.key&&!tle h.key ahead&&decide (h.kc≠[])&&yH .zero h.kc
theorem PA {w:World} {X:XS} {h:iM} {vv:Value} {ahead:BA} (ha:Sl w X 6 vv (h.kc.map ki.l)):
  Ct pg 200 #[.agg (h.l vv).toArray,.string ahead] w X nX fun v _ _=>v=B (h.ok ahead):=by
 intro w0 hk;replace ha:=ha.mv hk.cE;have gC:=ha.gw;apply N6;unfold CY;have hs:=aj.init w0;repeat' first|refine aG ?_;intros|refine dj ?_ ?_<;>intros|((with_reducible refine dI (pG _) ?_ hs.has ?_ ?_);(· kernel_rfl);all_goals (intro _ w X ao;replace hs:=hs.trans ao))|((first|(with_reducible refine ai hs ?_)|(with_reducible refine ai (bE.trans hs) ?_));intro wa hk;(simp_all [iM.ok,tle]<;>grind))
 refine fT (fun n a b w X=> ∃(i:Nat) (s:aO),a=I i∧b=s.v∧n=h.kc.length-i∧i≤h.kc.length∧aj (aR w0) w0 X w∧yH .zero h.kc=yH s (h.kc.drop i)) h.kc.length
  ⟨0,.zero,rfl,rfl,rfl,aL _,hs,by simp⟩ ?_
 rintro n a b w X ⟨i,s,rfl,rfl,rfl,hi,hs,hw⟩;have cn:h.kc≠[]:=by intro e;simp_all
 rcases dX (h.kc) i with⟨cI,x,hx,hd⟩|⟨dV,hd⟩
 ·rw [hd,yH] at hw;clear hd;repeat' first|refine bQ ?_;intros|refine dj ?_ ?_<;>intros|with_reducible apply dJ|((with_reducible refine dI (jf _) ?_ hs.has ?_ ?_);(· kernel_rfl);all_goals (intro _ w X ao;replace hs:=hs.trans ao))|((with_reducible refine gh (iw _ _) ?_ hs.has ?_);(· kernel_rfl);intro w X ao;replace hs:=hs.trans ao)|((with_reducible refine dI (ns _) ?_ hs.has ?_ ?_);(· kernel_rfl);all_goals (intro _ w X ao;replace hs:=hs.trans ao))|((first|(with_reducible refine ai hs ?_)|(with_reducible refine ai (bE.trans hs) ?_));intro wa hk;(simp_all [iM.ok,tle]<;>grind))|((with_reducible refine eR ((h.kc).length-(i+1)) ?_ ?_);omega;exact⟨i+1,x.aw,by simp,rfl,rfl,by omega,hs,by simp_all⟩)
 ·repeat' first|refine bQ ?_;intros|((first|(with_reducible refine ai hs ?_)|(with_reducible refine ai (bE.trans hs) ?_));intro wa hk;(simp_all [iM.ok,tle,yH]<;>grind))
def dB.has (p:dB) (k:BA):Bool:=p.writes.any fun w=>decide (w.key=k)
theorem Mt {w:World} {X:XS} {x:KV} {k:BA} {b:Nat} (h:Cells w X b 0 [.string k]):
  Ct pg 290 #[.agg x.l.toArray,ptr b 0] w X nX fun v _ _=>v=B (decide (x.key=k)):=by
 intro w0 hk;replace h:=h.mv hk.cE;apply Ko;unfold AF;have hs:=aj.init w0;repeat' first|refine aG ?_;intros|refine dj ?_ ?_<;>intros|((first|(with_reducible refine ai hs ?_)|(with_reducible refine ai (bE.trans hs) ?_));intro wa hk;simp_all)
theorem GI {w:World} {X:XS} {p:dB} {vr vw:Value} {k:BA} (hX: ∀k,X k→k<w.heap.size) (h2:Sl w X 4 vw (p.writes.map KV.l)):
  Ct pg 242 #[p.v vr vw,.string k] w X nX fun v _ _=>v=B (p.has k):=by
 intro w0 hk;replace h2:=h2.mv hk.cE;apply Pv;unfold Ew;have hs:=aj.init w0;repeat' first|refine aG ?_;intros|(with_reducible apply ph);(case ho=>rfl);(case hX=>exact hs.has);intro bx w X fi ao bH;have bE:=hs.trans ao;replace hs:=aj.iB ao.has|((first|(with_reducible refine ai hs ?_)|(with_reducible refine ai (bE.trans hs) ?_));intro wa hk;(simp [dB.has]))|(refine dH (qg (p:=fun x=>decide (x.key=k)) (h2.mv (aj.mv (bE.trans hs))) hs.has kQ fun x=>Mt (x:=x) (by first|exact bH.cells)) kQ hs.has ?_;intro w X ao;replace hs:=hs.trans ao)
theorem tg:sy pg 32 (fun k:eh=>k.v):=
 acI (n:=3) kQ (fun k:eh=>[k.iP,k.lu,k.sq]) (fun _=>rfl) (fun a b h=>by
  simp only [List.cons.injEq,and_true] at h;exact eh.ext h.1 h.2.1 h.2.2)
theorem Vo:sy pg 9 (fun s:BA=>di s):=wS kQ
def pC (w:World) (A:XS) (v:Value) (l:List ki):Prop:=Sl w A 6 v (l.map ki.l)
def oa (w:World) (A:XS) (v:Value) (p:dB):Prop:= ∃vr vw,v=p.v vr vw∧Sl w A 1 vr (p.reads.map S1)∧Sl w A 4 vw (p.writes.map KV.l)
theorem pC.mv:oZ pC:=fun _ _ _ _ _ _ h m=>Sl.mv h m
theorem oa.mv:oZ oa:=fun _ _ _ _ _ _ ⟨vr,vw,h,h1,h2⟩ m=>⟨vr,vw,h,h1.mv m,h2.mv m⟩
structure js (w:World) (X A:XS) (sb kb pb:Nat) (hm:List (BA×List ki)) (pm:List (eh×dB)) (low:aO):Prop where
 box:bN w X sb [.map (some kb),.map (some pb),I low.wall,I low.dv,I low.node] 302
 keys:fL w X A kb (fun s:BA=>di s) pC hm
 eK:fL w X A pb (fun k:eh=>k.v) oa pm
 sub: ∀k,A k→X k
 off: ∀k,A k→k≠sb∧k≠kb∧k≠pb
theorem js.mv {w w':World} {X Y A:XS} {sb kb pb:Nat} {hm:List (BA×List ki)} {pm:List (eh×dB)} {low:aO} (h:js w X A sb kb pb hm pm low)
  (hX: ∀k,X k→k<w.heap.size) (m:Mv X w Y w'):js w' Y A sb kb pb hm pm low:=by
 have ma:Mv A w A w':=fun k hk hl=>⟨hk,(m k (h.sub k hk) hl).2⟩;exact⟨h.box.mv m,h.keys.mv pC.mv m ma,h.eK.mv oa.mv m ma,fun k hk=>(m k (h.sub k hk) (hX k (h.sub k hk))).1,h.off⟩
theorem acO {w:World} {X A:XS} {kb:Nat} {hm:List (BA×List ki)} {k:BA} {N:Value→Prop} {w0:World} {X0:XS} (h:fL w0 X0 A kb (fun s:BA=>di s) pC hm) (hA: ∀k,A k→X0 k) (m:Mv X0 w0 X w)
  (n: ∀v,Sl w0 X0 6 v (((getM k hm).getD []).map ki.l)→N v):ab pg X w (Instr.lookup 299 (.map (some kb)) (.string k) false) N:=by
 have h':fL w X A kb (fun s:BA=>di s) pC hm:=h.mv pC.mv m fun k hk hl=>⟨hk,(m k (hA k hk) hl).2⟩;obtain⟨es,c,h1,h2⟩:=h;have m':Mv A w0 A w:=fun k hk hl=>⟨hk,(m k (hA k hk) hl).2⟩;refine np (et:=223) (A:=X) (rd:=fun w X v l=>Sl w0 A 6 v (l.map ki.l)) (l:=hm) (.slice none 0 0) ?_ Vo kQ kQ (fun v a hg hr=>?_) fun hg=>?_
 ·exact⟨es,c,h1.mv m,by
   clear h1 h' n
   induction es generalizing hm with
   |nil=>cases hm<;>first|trivial|exact h2.elim
   |cons e es ih=>cases hm with
    |nil=>exact h2.elim
    |cons x l=>exact⟨h2.1,h2.2.1,ih h2.2.2⟩⟩
 ·exact n v (by rw [hg];exact Sl.mv hr (Mv.sub hA))
 ·exact n _ (by rw [hg];exact Sl.nil _ _ _)
def dB.AX (x q:dB):Bool:=x.writes.any (fun w=>q.has w.key||q.reads.any fun k=>decide (w.key=k))||x.reads.any fun k=>q.has k
def Cj (l:List ki) (gb:aO) (all:Bool):nq×aO:=l.foldl (fun s v=>if all||decide (v.aw.cmp gb≤0)then(v.val,v.aw)else s) (.zero,.zero)
def EF (hm:List (BA×List ki)) (k:BA):List ki:=(getM k hm).getD []
abbrev ZE (k:BA) (s:nq×aO):Value:=.agg #[.string k,I s.1.kind,.float .f64 s.1.num,.string s.1.text,I s.2.wall,I s.2.dv,I s.2.node]
theorem RF {w:World} {X A:XS} {sb kb pb:Nat} {hm:List (BA×List ki)} {pm:List (eh×dB)} {low gb:aO} {k:BA} {all:Bool}
  (h:js w X A sb kb pb hm pm low) (hX: ∀k,X k→k<w.heap.size):
  Ct pg 291 #[ptr sb 0,.string k,gb.v,B all] w X nX fun v _ _=>v=ZE k (Cj (EF hm k) gb all):=by
 intro w0 hk;replace h:=h.mv hX hk.cE;have fi:=h.box;have hkm:=h.keys;apply FR;unfold xM;have hs:=aj.init w0;repeat' first|refine aG ?_;intros
 refine acO hkm h.sub (Mv.refl _ _) fun vv Qg=>?_
 show ab _ _ _ _ _
 have hvs:EF hm k=(getM k hm).getD []:=rfl;rw [←hvs] at Qg;generalize EF hm k=vs at Qg;have gC:=Qg.gw;repeat' first|refine aG ?_;intros
 refine fT (fun n a b w X=> ∃(i:Nat) (s:nq×aO),a=I i∧b=ZE k s∧n=vs.length-i∧i≤vs.length∧aj (aR w0) w0 X w∧
  Cj vs gb all=(vs.drop i).foldl (fun s v=>if all||decide (v.aw.cmp gb≤0)then(v.val,v.aw)else s) s) vs.length ⟨0,(.zero,.zero),rfl,rfl,rfl,aL _,hs,by rw [pA];rfl⟩ ?_
 rintro n a b w X ⟨i,s,rfl,rfl,rfl,hi,hs,hw⟩;rcases dX (vs) i with⟨cI,x,hx,hd⟩|⟨dV,hd⟩
 ·rw [hd,il] at hw;cases all
  ·repeat' first|refine bQ ?_;intros|refine dj ?_ ?_<;>intros|with_reducible apply dJ|((with_reducible refine gh (iw _ _) ?_ hs.has ?_);(· kernel_rfl);intro w X ao;replace hs:=hs.trans ao)|((with_reducible refine eR ((vs).length-(i+1)) ?_ ?_);omega;exact⟨i+1,(x.val,x.aw),by simp,rfl,rfl,by omega,hs,by rw [hw];simp [*]⟩)|((with_reducible refine eR ((vs).length-(i+1)) ?_ ?_);omega;exact⟨i+1,s,by simp,rfl,rfl,by omega,hs,by rw [hw];simp [*]⟩)
  ·repeat' first|refine bQ ?_;intros|with_reducible apply dJ|((with_reducible refine eR ((vs).length-(i+1)) ?_ ?_);omega;exact⟨i+1,(x.val,x.aw),by simp,rfl,rfl,by omega,hs,by rw [hw];simp [*]⟩)
 ·repeat' first|refine bQ ?_;intros|((first|(with_reducible refine ai hs ?_)|(with_reducible refine ai (bE.trans hs) ?_));intro wa hk;(rw [hw,hd];rfl))
theorem RG {w:World} {X A:XS} {sb kb pb:Nat} {hm:List (BA×List ki)} {pm:List (eh×dB)} {low:aO} {k:BA}
  (h:js w X A sb kb pb hm pm low) (hX: ∀k,X k→k<w.heap.size):
  Ct pg 243 #[ptr sb 0,.string k] w X nX fun v _ _=>v=ZE k (Cj (EF hm k) .zero true):=by
 intro w0 hk;replace h:=h.mv hX hk.cE;apply FQ;unfold xL;have hs:=aj.init w0;repeat' first|refine aG ?_;intros|((first|(with_reducible refine ai hs ?_)|(with_reducible refine ai (bE.trans hs) ?_));intro wa hk;rfl)|(refine dH (RF (gb:=.zero) h hs.has) kQ hs.has ?_;intro w X ao;replace hs:=hs.trans ao)
def I2 (hm:List (BA×List ki)) (x:dB):Bool:=x.writes.any fun w=>decide ((Cj (EF hm w.key) .zero true).2.cmp x.aw≥0)
theorem ZF {w:World} {X A:XS} {sb kb pb:Nat} {hm:List (BA×List ki)} {pm:List (eh×dB)} {low:aO} {x:dB} {vr vw:Value}
  (h:js w X A sb kb pb hm pm low) (hX: ∀k,X k→k<w.heap.size) (h2:Sl w X 4 vw (x.writes.map KV.l)):
  Ct pg 203 #[ptr sb 0,x.v vr vw] w X nX fun v _ _=>v=B (I2 hm x):=by
 intro w0 hk;replace h:=h.mv hX hk.cE;replace h2:=h2.mv hk.cE;have gC:=h2.gw;apply Kl;unfold AB;have hs:=aj.init w0;repeat' first|refine aG ?_;intros
 refine eA (fun n a w X=> ∃i:Nat,a=I (i:Nat)∧n=(x.writes).length-i∧i≤(x.writes).length∧aj (aR w0) w0 X w∧I2 hm x=(x.writes.drop i).any (fun w=>decide ((Cj (EF hm w.key) .zero true).2.cmp x.aw≥0))) (x.writes).length ⟨0,rfl,rfl,aL _,hs,by simp [I2]⟩ ?_;rintro n a w X ⟨i,rfl,rfl,hi,hs,hw⟩;rcases dX (x.writes) i with⟨cI,y,hy,hd⟩|⟨dV,hd⟩
 ·rw [hd,jC] at hw;repeat' first|refine bQ ?_;intros|refine dj ?_ ?_<;>intros|((with_reducible refine gh (iw _ _) ?_ hs.has ?_);(· kernel_rfl);intro w X ao;replace hs:=hs.trans ao)|((first|(with_reducible refine ai hs ?_)|(with_reducible refine ai (bE.trans hs) ?_));intro wa hk;simp_all)|((with_reducible refine en ((x.writes).length-(i+1)) ?_ ?_);omega;exact⟨i+1,by simp,rfl,by omega,hs,by rw [hw];simp [*]⟩)|(refine dH (RG (h.mv (fun _ h=>h) (aj.mv hs)) hs.has) kQ hs.has ?_;intro w X ao;replace hs:=hs.trans ao)
 ·repeat' first|refine bQ ?_;intros|((first|(with_reducible refine ai hs ?_)|(with_reducible refine ai (bE.trans hs) ?_));intro wa hk;simp_all)
theorem RH {w:World} {X A:XS} {sb kb pb:Nat} {hm:List (BA×List ki)} {pm:List (eh×dB)} {low:aO} {x:dB} {vr vw:Value}
  (h:js w X A sb kb pb hm pm low) (hX: ∀k,X k→k<w.heap.size) (h1:Sl w X 1 vr (x.reads.map S1)) (h2:Sl w X 4 vw (x.writes.map KV.l)):
  Ct pg 202 #[ptr sb 0,x.v vr vw] w X nX fun v _ _=>v=B (pm.any fun q=>x.AX q.2):=by
 intro w0 hk;replace h:=h.mv hX hk.cE;replace h1:=h1.mv hk.cE;replace h2:=h2.mv hk.cE;have fi:=h.box;have Z5:=h1.gw;have Z6:=h2.gw;apply FP;unfold xK;have hs:=aj.init w0;repeat' first|refine aG ?_;intros
 refine I9 (kt:=32) (et:=182) h.eK oa.mv h.sub kQ hs.has fun r w X hr ao se=>?_;replace hs:=hs.trans ao;refine fT (fun n _ _ w X=> ∃left,n=left.length∧aj (aR w0) w0 X w∧tJ w X A r pb (fun k:eh=>k.v) oa pm left∧(pm.any fun q=>x.AX q.2)=left.any fun q=>x.AX q.2)
  pm.length ⟨pm,rfl,hs,se,rfl⟩ ?_
 rintro n a b w X ⟨left,rfl,hs,se,hw⟩;refine MK se oa.mv (fun k hk=>⟨hs.sub k (h.sub k hk),fun e=>by have:k<w0.heap.size:=h.sub k hk;omega⟩) hs.has (fun e0 w X ao=>?_) fun kx q v gY w1 X1 hc mG C9 he=>?_
 ·replace hs:=hs.trans ao;repeat' first|refine aG ?_;intros|((first|(with_reducible refine ai hs ?_)|(with_reducible refine ai (bE.trans hs) ?_));intro wa hk;(rw [hw,e0];rfl))
 ·have bE:=hs.dK hc fun k hk e=>by have:k<w0.heap.size:=hk;omega
  obtain⟨ur,uw,rfl,q1,q2⟩:=mG;have Kz: ∀k,A k→X1 k:=fun k hk=>bE.sub k (h.sub k hk);replace q1:=q1.mv (Mv.sub Kz);replace q2:=q2.mv (Mv.sub Kz);have o1:=q1.one;have o2:=q2.one;rw [aa2 _ se.nodup gY] at hw;replace hs:=aj.iB bE.has;repeat' first|refine aG ?_;intros
  refine Ja hs.has he fun w X ao=>?_;replace hs:=hs.trans ao;repeat' first|refine aG ?_;intros
  refine eA (fun n a w X=> ∃i:Nat,a=I (i:Nat)∧n=x.writes.length-i∧i≤x.writes.length∧aj X1 w1 X w∧
   (x.writes.any (fun w=>q.has w.key||q.reads.any fun k=>decide (w.key=k))=(x.writes.drop i).any (fun w=>q.has w.key||q.reads.any fun k=>decide (w.key=k)))) x.writes.length
   ⟨0,rfl,rfl,aL _,hs,by simp⟩ ?_
  rintro n a w X ⟨i,rfl,rfl,hi,hs,vz⟩;rcases dX (x.writes) i with⟨cI,y,hy,hd⟩|⟨dV,hd⟩
  ·rw [hd,jC] at vz;repeat' first|refine bQ ?_;intros|with_reducible apply dJ|((first|(with_reducible refine ai hs ?_)|(with_reducible refine ai (bE.trans hs) ?_));intro wa hk;(rw [hw];simp [dB.AX,vz, *]))|((with_reducible refine en ((x.writes).length-(i+1)) ?_ ?_);omega;exact⟨i+1,by simp,rfl,by omega,hs,by rw [vz];simp [*]⟩)|(refine eO (GI  (p:=q) hs.has qA) kQ hs.has ?_ ?_<;>(intro _ w X ao;replace hs:=hs.trans ao))|(refine eO (BW  qA) kQ hs.has ?_ ?_<;>(intro _ w X ao;replace hs:=hs.trans ao))
  ·rw [hd] at vz;repeat' first|refine bQ ?_;intros
   refine eA (fun n a w X=> ∃i:Nat,a=I (i:Nat)∧n=x.reads.length-i∧i≤x.reads.length∧aj X1 w1 X w∧
    (x.reads.any (fun k=>q.has k)=(x.reads.drop i).any (fun k=>q.has k))) x.reads.length
    ⟨0,rfl,rfl,aL _,hs,by simp⟩ ?_
   rintro n a w X ⟨j,rfl,rfl,hj,hs,F6⟩;rcases dX x.reads j with⟨cI,y,hy,rq⟩|⟨abi,rq⟩
   ·rw [rq,jC] at F6;repeat' first|refine bQ ?_;intros|((first|(with_reducible refine ai hs ?_)|(with_reducible refine ai (bE.trans hs) ?_));intro wa hk;(rw [hw];simp [dB.AX,F6, *]))|((with_reducible refine en (x.reads.length-(j+1)) ?_ ?_);omega;exact⟨j+1,by simp,rfl,by omega,hs,by rw [F6];simp [*]⟩)|(refine eO (GI  (p:=q) hs.has qA) kQ hs.has ?_ ?_<;>(intro _ w X ao;replace hs:=hs.trans ao))
   ·rw [rq] at F6;repeat' first|refine bQ ?_;intros
    refine eR _ (Jb gY) ⟨_,rfl,bE.trans hs,C9.mv oa.mv (aj.mv hs) (aj.kf hs Kz),?_⟩;rw [hw];have:x.AX q=false:=by unfold dB.AX;rw [vz,F6];rfl
    simp [this]
def dB.fresh (wa w':World) (v:Value) (p:dB):Prop:=
 ∃vr vw,v=p.v vr vw∧Own w' (made wa w') wa.heap.size 9 1 vr (p.reads.map S1)∧Own w' (made wa w') wa.heap.size 118 4 vw (p.writes.map KV.l)∧
  ∀g,vr.ownBlock=some g→vw.ownBlock≠some g
theorem Vp {w:World} {X:XS} {p:dB} {vr vw:Value} (h1:Sl w X 1 vr (p.reads.map S1)) (h2:Sl w X 4 vw (p.writes.map KV.l)) (Bm:p.reads.length≤2^40) (Ge:p.writes.length≤2^40):
  Ct pg 204 #[p.v vr vw] w X nX fun v wa w'=>p.fresh wa w' v:=by
  intro w0 hk;replace h1:=h1.mv hk.cE;replace h2:=h2.mv hk.cE;apply RA;unfold GC;have hs:=aj.init w0;refine ep (GH h1 Bm) kQ hs.has ?_;rintro v1 wa w X kD OM H6 ao;replace hs:=hs.trans ao;have q1:=kD.sl.one;repeat' first|refine aG ?_;intros
  refine ep (qf (h2.mv (aj.mv hs)) Ge) kQ hs.has ?_;rintro v2 wb w2 X2 iH oU lx dF;have hb:w0.heap.size≤wa.heap.size:=OM;have Vq:Own w X w0.heap.size 9 1 v1 (p.reads.map S1):=kD.up H6 hb;have acP:=Vq.since dF;have acQ:w0.heap.size≤wb.heap.size:=af hs.kp.size oU;have acR:Own w2 X2 w0.heap.size 118 4 v2 (p.writes.map KV.l):=iH.up lx acQ;have q2:=iH.sl.one;replace hs:=hs.trans dF;repeat' first|refine aG ?_;intros|((first|(with_reducible refine ai hs ?_)|(with_reducible refine ai (bE.trans hs) ?_));intro wa hk;(exact⟨v1,v2,rfl,(acP.kp hk).tight,(acR.kp hk).tight,fun g Bp Qe=>by have:=(Vq.ge Bp).2;have:=(iH.ge Qe).1;omega⟩))
theorem HA {w:World} {X:XS} {p:dB} {vr vw:Value} (h1:Sl w X 1 vr (p.reads.map S1)) (h2:Sl w X 4 vw (p.writes.map KV.l)) (Bm:p.reads.length≤2^40) (Ge:p.writes.length≤2^40):
  Ct pg 124 #[p.v vr vw] w X nX fun v wa w'=>p.fresh wa w' v:=by
  intro w0 hk;replace h1:=h1.mv hk.cE;replace h2:=h2.mv hk.cE;apply Ry;unfold GA;have hs:=aj.init w0;refine ep (GH h1 Bm) kQ hs.has ?_;rintro v1 wa w X kD OM H6 ao;replace hs:=hs.trans ao;have q1:=kD.sl.one
  skip
  refine ep (qf (h2.mv (aj.mv hs)) Ge) kQ hs.has ?_;rintro v2 wb w2 X2 iH oU lx dF;have hb:w0.heap.size≤wa.heap.size:=OM;have Vq:Own w X w0.heap.size 9 1 v1 (p.reads.map S1):=kD.up H6 hb;have acP:=Vq.since dF;have acQ:w0.heap.size≤wb.heap.size:=af hs.kp.size oU;have acR:Own w2 X2 w0.heap.size 118 4 v2 (p.writes.map KV.l):=iH.up lx acQ;have q2:=iH.sl.one;replace hs:=hs.trans dF;repeat' first|refine aG ?_;intros|((first|(with_reducible refine ai hs ?_)|(with_reducible refine ai (bE.trans hs) ?_));intro wa hk;(exact⟨v1,v2,rfl,(acP.kp hk).tight,(acR.kp hk).tight,fun g Bp Qe=>by have:=(Vq.ge Bp).2;have:=(iH.ge Qe).1;omega⟩))
def I3 (X:XS) (a b c:Nat):XS:=fun k=>X k∧k≠a∧k≠b∧k≠c
theorem ZG {w:World} {X:XS} :Ct pg 199 #[] w X nX fun v wa w'=>
  ∃sb kb pb,v=ptr sb 0∧js w' (made wa w') (I3 (made wa w') sb kb pb) sb kb pb [] [] .zero∧sb≠kb∧sb≠pb∧kb≠pb:=by
 intro w0 hk;apply Wj;unfold Ll;have hs:=aj.init w0;refine sP (kv:=fun s:BA=>di s) pC nX hs.has fun kb w1 X1 WE ao sd=>?_;refine sP (kv:=fun k:eh=>k.v) oa nX ao.has fun pb w2 X2 WH dF pf=>?_;have ai3:=sd.x;have ai4:=pf.x;have ai5:=sd.mv pC.mv (aj.mv dF) (Y:=X2) (A':=nX) (fun _ h=>h.elim);replace hs:=(hs.trans ao).trans dF;have fN:w0.heap.size≤w1.heap.size:=ao.kp.size;repeat' first|refine aG ?_;intros|(with_reducible apply nI);(case hX=>exact hs.has);intro bx w X fi ao bH;have bE:=hs.trans ao;replace hs:=aj.iB ao.has
 refine ai (bE.trans hs) ?_;intro wa hk;have MI:=(bH.kp hk).lt;have aeX:=ao.kp.size;have aez:=hk.size;have agy:=ao.kp.trans (hk.less ao.sub);have ai6:made w0 wa kb:=⟨WE,by omega⟩;have ai7:made w0 wa pb:=⟨by omega,by omega⟩;exact⟨bx,kb,pb,rfl,⟨bH.own.mv (Mv.one hk bH.1 ⟨by omega,MI⟩),ai5.own.mv pC.mv (Mv.one agy (dF.sub _ ai3.1) ai6) (fun _ h=>h.elim),
  pf.own.mv oa.mv (Mv.one agy ai4.1 ai7) (fun _ h=>h.elim),fun k hk=>hk.1,fun k hk=>hk.2⟩,by omega,by omega,by omega⟩
def zH:BA→List iM→Bool
 |_,[]=>true
 |a,h::r=>h.ok a&&zH h.key r
def uJ (l:List iM):List (BA×List ki):=l.foldl (fun m h=>bU h.key h.kc m) []
def Ob (hm:List (BA×List ki)):List (eh×dB)→List dB→Int
 |_,[]=>0
 |pm,p::r=>if p.err≠0 then p.err else if(getM p.b6 pm).isSome then 9 else if pm.any (fun q=>p.AX q.2)then 18 else if I2 hm p then 20
  else Ob hm (bU p.b6 p pm) r
def DL (hl:List iM) (pl:List dB):Int:=if zH ⟨#[]⟩ hl then Ob (uJ hl) [] pl else 4
theorem js.grow {w:World} {X A A':XS} {sb kb pb:Nat} {hm:List (BA×List ki)} {pm:List (eh×dB)} {low:aO} (h:js w X A sb kb pb hm pm low)
  (hA: ∀k,A k→A' k) (hs: ∀k,A' k→X k∧k≠sb∧k≠kb∧k≠pb):js w X A' sb kb pb hm pm low:=
 ⟨h.box,h.keys.mv pC.mv (Mv.refl _ _) (Mv.sub hA),h.eK.mv oa.mv (Mv.refl _ _) (Mv.sub hA),fun k hk=>(hs k hk).1,fun k hk=>(hs k hk).2⟩
theorem js.to {w w':World} {X Y:XS} {sb kb pb:Nat} {hm:List (BA×List ki)} {pm:List (eh×dB)} {low:aO} (h:js w X (I3 X sb kb pb) sb kb pb hm pm low)
  (hs:aj X w Y w') (hX: ∀k,X k→k<w.heap.size):js w' Y (I3 Y sb kb pb) sb kb pb hm pm low:=
 (h.mv hX (aj.mv hs)).grow (fun k hk=>⟨hs.sub k hk.1,hk.2⟩) fun k hk=>hk
def Sm (l:List dB):Prop:= ∀p∈l,p.reads.length≤2^40∧p.writes.length≤2^40
def Sk (l:List iM):Prop:= ∀h∈l,h.kc.length≤2^40
theorem Vt {w:World} {X:XS} {vh vp:Value} {hl:List iM} {pl:List dB} (h1:lA w X vh hl) (h2:kH w X vp pl) (Bm:Sk hl) (Ge:Sm pl):
  Ct pg 161 #[vh,vp] w X nX fun v _ _=> ∃u:Value,v= .tuple #[u,I (DL hl pl)]:=by
 intro w0 hk;replace h1:=h1.mv hk.cE;replace h2:=h2.mv hk.cE;have Z5:=h1.len;have Z6:=h2.len;apply Vd;unfold IL;have hs:=aj.init w0;refine ep ZG kQ hs.has ?_;rintro v wa w X ⟨sb,kb,pb,rfl,fZ,ne1,ne2,ne3⟩ hle eH ao;have DJ:w0.heap.size≤sb:=af hle fZ.box.1.1;have WE:w0.heap.size≤kb:=af hle fZ.keys.x.1.1;have WH:w0.heap.size≤pb:=af hle fZ.eK.x.1.1;replace hs:=hs.trans ao;have ai8:js w X (I3 X sb kb pb) sb kb pb [] [] .zero:=(fZ.mv (fun k hk=>hk.2) (Mv.sub eH)).grow (fun k hk=>⟨eH k hk.1,hk.2⟩) fun k hk=>hk;clear fZ;repeat' first|refine aG ?_;intros
 refine fT (fun n a b w X=> ∃(i:Nat) (s:BA),a=I i∧b= .string s∧n=hl.length-i∧i≤hl.length∧aj (aR w0) w0 X w∧
  js w X (I3 X sb kb pb) sb kb pb (uJ (hl.take i)) [] .zero∧zH ⟨#[]⟩ hl=zH s (hl.drop i)) hl.length
  ⟨0,⟨#[]⟩,rfl,rfl,rfl,aL _,hs,ai8,by rw [pA]⟩ ?_
 rintro n a b w X ⟨i,s,rfl,rfl,rfl,hi,bE,fZ,hw⟩;have hs:=aj.iB bE.has;rcases dX (hl) i with⟨cI,x,hx,hd⟩|⟨dV,hd⟩
 ·rw [hd,zH] at hw;have wD:=Bm x (aH hx);have fi:=fZ.box;repeat' first|refine bQ ?_;intros|((with_reducible apply MD);assumption;(try (case hz=>rfl));(case hr=>exact qR);(try (case hz=>omega));(case ht=>kernel_rfl);(case hs=>kernel_rfl);intros)|(refine eO (PA (h:=x) (ahead:=s) (by first|assumption|exact Sl.mv (by assumption) (aj.mv (bE.trans hs)))) kQ hs.has ?_ ?_<;>(intro _ w X ao;replace hs:=hs.trans ao))|(first|(with_reducible refine ai (bE.trans hs) ?_);intro wa hk;exact⟨_,by rw [DL,hw];simp [*];rfl⟩)
  have Qg:= ‹Sl w0 (aR w0) 6 _ (x.kc.map ki.l)›;have mH:= ‹x.ok s=true›;refine ep (Ms (Qg.mv (aj.mv (bE.trans hs))) wD) kQ hs.has ?_;rintro v1 wa w2 X2 kD OM H6 dF;have XI:=hs.kp.size;have Mu:=fZ.to (hs.trans dF) bE.has;have M8:Sl w2 (I3 X2 sb kb pb) 6 v1 (x.kc.map ki.l):=kD.sl.mv (Mv.sub fun k hk=>⟨H6 k hk,by
   have q1:=bE.has sb fZ.box.1;have q2:=bE.has kb fZ.keys.x.1;have q3:=bE.has pb fZ.eK.x.1;have:=hk.1;refine⟨?_,?_,?_⟩<;>omega⟩)
  replace hs:=hs.trans dF;repeat' first|refine aG ?_;intros
  refine sU (kv:=fun s:BA=>di s) (k:=x.key) (et:=223) Mu.keys pC.mv M8 (fun k hk=>⟨hk.1,hk.2.2.1⟩) Vo kQ hs.has fun w3 X3 hc Gn=>?_;have dZ:=(bE.trans hs).dK hc fun k hk e=>by have:k<w0.heap.size:=hk;omega
  have Ds:js w3 X3 (I3 X3 sb kb pb) sb kb pb (uJ (hl.take (i+1))) [] .zero:=by
   have fi:=Mu.box;have hpm:=Mu.eK;have e:uJ (hl.take (i+1))=bU x.key x.kc (uJ (hl.take i)):=by
    rw [bg,hx];simp [uJ]
   rw [e];have mo: ∀b,X2 b→b≠kb→Mv (fun k=>k=b) w2 X3 w3:=fun b hb cn k ah _=>by subst ah;exact⟨hc.sub _ hb,hc.block _ hb cn⟩
   exact⟨fi.own.mv (mo _ fi.1 ne1),Gn.mv pC.mv (Mv.refl _ _) (Mv.sub fun k hk=>⟨hc.sub k hk.1,hk.2⟩),
    hpm.own.mv oa.mv (mo _ hpm.x.1 ne3.symm) (fun k hk _=>⟨⟨hc.sub k hk.1,hk.2⟩,hc.block k hk.1 hk.2.2.1⟩),fun k hk=>hk.1,fun k hk=>hk.2⟩
  replace hs:=dZ;repeat' first|refine aG ?_;intros|((with_reducible refine eR ((hl).length-(i+1)) ?_ ?_);omega;exact⟨i+1,x.key,by simp,rfl,rfl,by omega,hs,Ds,by rw [hw,mH];rfl⟩)
 ·have hlen:hl.take i=hl:=ba dV;rw [hd] at hw;rw [hlen] at fZ;repeat' first|refine bQ ?_;intros
  refine eA (fun n a w X=> ∃(i:Nat) (pm:List (eh×dB)),a=I i∧n=pl.length-i∧i≤pl.length∧aj (aR w0) w0 X w∧
   js w X (I3 X sb kb pb) sb kb pb (uJ hl) pm .zero∧DL hl pl=Ob (uJ hl) pm (pl.drop i)) pl.length
   ⟨0,[],rfl,rfl,aL _,bE,fZ,by rw [pA,DL,hw];rfl⟩ ?_
  rintro n a w X ⟨j,pm,rfl,rfl,hj,bE,fZ,vz⟩;have hs:=aj.iB bE.has;rcases dX pl j with⟨abA,x,hx,rq⟩|⟨abi,rq⟩
  ·rw [rq,Ob] at vz;have wD:=Ge x (aH hx);have fi:=fZ.box;repeat' first|refine bQ ?_;intros|((with_reducible apply EO);assumption;(try (case hz=>rfl));(case hr=>exact qR);(try (case hz=>omega));(case ht=>kernel_rfl);(case hs=>kernel_rfl);intros)|(refine dH (pS (p:=x) (by first|assumption|exact Sl.mv (by assumption) (aj.mv (bE.trans hs))) (by first|assumption|exact Sl.mv (by assumption) (aj.mv (bE.trans hs))) wD.2) kQ hs.has ?_;intro w X ao;replace hs:=hs.trans ao)
   refine pF (kv:=fun k:eh=>k.v) (k:=x.b6) (kt:=32) (et:=182) (.agg #[I 0,I 0,I 0,I 0,I 0,I 0,.slice none 0 0,.slice none 0 0]) (fZ.mv bE.has (aj.mv hs)).eK tg kQ kQ (fun v q hg mG=>?_) fun hg=>?_
   ·obtain⟨ur,uw,rfl,q1,q2⟩:=mG;have o1:=q1.one;have o2:=q2.one;repeat' first|refine aG ?_;intros|refine dj ?_ ?_<;>intros|(first|(with_reducible refine ai (bE.trans hs) ?_);intro wa hk;exact⟨_,by rw [vz];simp [*];rfl⟩)
   ·repeat' first|refine aG ?_;intros|refine dj ?_ ?_<;>intros|(first|(with_reducible refine ai (bE.trans hs) ?_);intro wa hk;exact⟨_,by rw [vz];simp [*];rfl⟩)|(refine eO (RH (x:=x) (fZ.mv bE.has (aj.mv hs)) hs.has (by first|assumption|exact Sl.mv (by assumption) (aj.mv (bE.trans hs))) (by first|assumption|exact Sl.mv (by assumption) (aj.mv (bE.trans hs)))) kQ hs.has ?_ ?_<;>(intro _ w X ao;replace hs:=hs.trans ao))|(refine eO (ZF (x:=x) (fZ.mv bE.has (aj.mv hs)) hs.has (by first|assumption|exact Sl.mv (by assumption) (aj.mv (bE.trans hs)))) kQ hs.has ?_ ?_<;>(intro _ w X ao;replace hs:=hs.trans ao))
    have he:x.err=0:= ‹x.err=0›;have ai9:(pm.any fun q=>x.AX q.snd)=false:= ‹_›;have aja:I2 (uJ hl) x=false:= ‹_›;refine ep (Vp (p:=x) (by first|exact Sl.mv (by assumption) (aj.mv (bE.trans hs))) (by first|exact Sl.mv (by assumption) (aj.mv (bE.trans hs))) wD.1 wD.2) kQ hs.has ?_;rintro v1 wa w2 X2 ⟨ur,uw,rfl,kD,iH,-⟩ OM H6 dF;have XI:=hs.kp.size;have Mu:=fZ.to (hs.trans dF) bE.has;have hup: ∀k,made wa w2 k→I3 X2 sb kb pb k:=fun k hk=>⟨H6 k hk,by
     have q1:=bE.has sb fZ.box.1;have q2:=bE.has kb fZ.keys.x.1;have q3:=bE.has pb fZ.eK.x.1;have:=hk.1;refine⟨?_,?_,?_⟩<;>omega⟩
    have M8:oa w2 (I3 X2 sb kb pb) (x.v ur uw) x:=⟨ur,uw,rfl,kD.sl.mv (Mv.sub hup),iH.sl.mv (Mv.sub hup)⟩;replace hs:=hs.trans dF;refine sU (kv:=fun k:eh=>k.v) (k:=x.b6) (et:=182) Mu.eK oa.mv M8 (fun k hk=>⟨hk.1,hk.2.2.2⟩) tg kQ hs.has fun w3 X3 hc Gn=>?_;have dZ:=(bE.trans hs).dK hc fun k hk e=>by have:k<w0.heap.size:=hk;omega
    have Ds:js w3 X3 (I3 X3 sb kb pb) sb kb pb (uJ hl) (bU x.b6 x pm) .zero:=by
     have fi:=Mu.box;have hkm:=Mu.keys;have mo: ∀b,X2 b→b≠pb→Mv (fun k=>k=b) w2 X3 w3:=fun b hb cn k ah _=>by subst ah;exact⟨hc.sub _ hb,hc.block _ hb cn⟩
     exact⟨fi.own.mv (mo _ fi.1 ne2),hkm.own.mv pC.mv (mo _ hkm.x.1 ne3) (fun k hk _=>⟨⟨hc.sub k hk.1,hk.2⟩,hc.block k hk.1 hk.2.2.2⟩),
      Gn.mv oa.mv (Mv.refl _ _) (Mv.sub fun k hk=>⟨hc.sub k hk.1,hk.2⟩),fun k hk=>hk.1,fun k hk=>hk.2⟩
    replace hs:=dZ;repeat' first|refine aG ?_;intros|((with_reducible refine en (pl.length-(j+1)) ?_ ?_);omega;exact⟨j+1,_,by simp,rfl,by omega,hs,Ds,by rw [vz];simp [he,hg,ai9,aja]⟩)
  ·rw [rq] at vz;repeat' first|refine bQ ?_;intros|(first|(with_reducible refine ai (bE.trans hs) ?_);intro wa hk;exact⟨_,by rw [vz];rfl⟩)
end Go.Proofs.YtfndblbeikocdaaGreat
