/-
 Part 6 of the proof: what the last text leans on.
-/
import Derived.Test.YtpdkoaklobnegaaGreatProg
import Derived.KernelRfl
import Derived.Test.YtpdkoaklobnegaaGreatH5
open Nat renaming zero_le → aN, le_trans → ah, lt_of_lt_of_le → aK
open Go.Value renaming string → cu
open BitVec renaming ofInt → aQ
open List renaming drop_zero → ja, nil_append → cT, any_cons → km, foldl_cons → ib, length_map → aG, length_take → bp, length_append → ae, length_cons → aY, length_nil → bz, take_add_one → ca, take_of_length_le → bN, mem_of_getElem? → aX
open Ieee.Datum renaming quotient → uB
set_option linter.unusedVariables false
set_option linter.unusedSimpArgs false
namespace Go.Proofs.YtpdkoaklobnegaaGreat
open Go.Proofs.Tryz renaming prog → pg
open Go.dL
set_option maxRecDepth 100000
section
variable {R : Ending → World → Prop} {w0 : World} {p0 p1 p2 p3 p4 p5 p6 p7 p8 p9 p10 p11 : Value}
theorem LS {R:Ending→World→Prop} {w0:World} {p0:Value} {cZ dp du iH jX jY kn ko pU nw:Int} {lW:Bool} {lX:Int} {ml:Nat} {mm lv nR lu:Value} {nS nT:Int} {nU mn:Nat} {nV nW nY nZ ob oc:Int} {od oe:Value} (h:Br R w0 (ba w0) p0 cZ dp du iH jX jY kn ko pU nw lW lX ml mm lv nR lu nS nT nU mn nV nW nY nZ ob oc od oe):Calls pg 47 #[p0,(.agg #[(I cZ),(I dp),(I du),(I iH),(I jX),(I jY),(I kn),(I ko),(I pU),(I nw),(B lW),(I lX),(.float .f64 ml),mm,lv,nR,lu,(I nS),(I nT),(.float .f64 nU),(.float .f64 mn),(I nV),(I nW),(I nY),(I nZ),(I ob),(I oc),od,oe])] w0 R:=
 aL (pl:=LX) Tryz.func47 (by kernel_rfl) (by kernel_rfl) h
theorem nI (h:jD R w0 (ba w0) p0):Calls pg 49 #[p0] w0 R:=cv ⟨4,[],[],[0,1,2],[],[]⟩ Tryz.func49 h
theorem IF (h:yP R w0 (ba w0) p0 p1):Calls pg 51 #[p0,p1] w0 R:=cv ⟨15,[(5,(pg.cellsOf 184))],[],[1,4,6,13],[],[]⟩ Tryz.func51 h
theorem Nc {R:Ending→World→Prop} {w0:World} {bo bA bD cg cy cz cA cI dB dq cj cd dv dh da:Int} {dc:Bool} {dk dr:Int} {cO cL cP cQ cR dd:Value} {cS cV:Int} {cW cX:Nat} {cY gk gm gn gp gq:Int} {gr gu:Value} (h:EN R w0 (ba w0) bo bA bD cg cy cz cA cI dB dq cj cd dv dh da dc dk dr cO cL cP cQ cR dd cS cV cW cX cY gk gm gn gp gq gr gu):Calls pg 52 #[(.agg #[(I bo),(I bA),(I bD),(I cg),(I cy),(I cz),(I cA),(I cI),(I dB),(I dq),(I cj),(I cd),(I dv),(I dh),(I da),(B dc),(I dk),(I dr),cO,cL,cP,cQ,cR,dd,(I cS),(I cV),(.float .f64 cW),(.float .f64 cX),(I cY),(I gk),(I gm),(I gn),(I gp),(I gq),gr,gu])] w0 R:=
 aL (pl:=YD) Tryz.func52 (by kernel_rfl) (by kernel_rfl) h
theorem RG {R:Ending→World→Prop} {w0:World} {bo bA bD cZ dp du:Int} (h:FO R w0 (ba w0) bo bA bD cZ dp du):Calls pg 53 #[(.agg #[(I bo),(I bA),(I bD)]),(.agg #[(I cZ),(I dp),(I du)])] w0 R:=
 aL (pl:=Rs) Tryz.func53 (by kernel_rfl) (by kernel_rfl) h
theorem Bh {R:Ending→World→Prop} {w0:World} {p0:Value} {cZ dp du iH jX jY kn ko pU nw:Int} {lW:Bool} {lX:Int} {ml:Nat} {mm lv nR lu:Value} {nS nT:Int} {nU mn:Nat} {nV nW nY nZ ob oc:Int} {od oe:Value} (h:uG R w0 (ba w0) p0 cZ dp du iH jX jY kn ko pU nw lW lX ml mm lv nR lu nS nT nU mn nV nW nY nZ ob oc od oe):Calls pg 54 #[p0,(.agg #[(I cZ),(I dp),(I du),(I iH),(I jX),(I jY),(I kn),(I ko),(I pU),(I nw),(B lW),(I lX),(.float .f64 ml),mm,lv,nR,lu,(I nS),(I nT),(.float .f64 nU),(.float .f64 mn),(I nV),(I nW),(I nY),(I nZ),(I ob),(I oc),od,oe])] w0 R:=
 aL (pl:=LY) Tryz.func54 (by kernel_rfl) (by kernel_rfl) h
theorem Jk {R:Ending→World→Prop} {w0:World} {p0:Value} {cZ dp du tT tU tV:Int} {p3:Value} (h:zX R w0 (ba w0) p0 cZ dp du tT tU tV p3):Calls pg 55 #[p0,(.agg #[(I cZ),(I dp),(I du)]),(.agg #[(I tT),(I tU),(I tV)]),p3] w0 R:=
 aL (pl:=Kw) Tryz.func55 (by kernel_rfl) (by kernel_rfl) h
theorem Be {R:Ending→World→Prop} {w0:World} {p0:Value} {p1:Int} (h:uD R w0 (ba w0) p0 p1):Calls pg 57 #[p0,(I p1)] w0 R:=
 aL (pl:=LZ) Tryz.func57 (by kernel_rfl) (by kernel_rfl) h
theorem Qf {R:Ending→World→Prop} {w0:World} {p0:Value} {p1:Int} (h:DX R w0 (ba w0) p0 p1):Calls pg 58 #[p0,(I p1)] w0 R:=
 aL (pl:=P5) Tryz.func58 (by kernel_rfl) (by kernel_rfl) h
theorem nH (h:jC R w0 (ba w0) p0):Calls pg 59 #[p0] w0 R:=cv ⟨4,[],[],[0,1,2],[],[]⟩ Tryz.func59 h
theorem sP (h:my R w0 (ba w0) p0):Calls pg 60 #[p0] w0 R:=cv ⟨8,[],[],[0,2,4],[],[]⟩ Tryz.func60 h
theorem ID {R:Ending→World→Prop} {w0:World} {bo bA bD cg cy cz cA cI dB dq cj cd dv dh da:Int} {dc:Bool} {dk dr:Int} {cO cL cP cQ cR dd:Value} {cS cV:Int} {cW cX:Nat} {cY gk gm gn gp gq:Int} {gr gu:Value} {p1:Int} (h:yN R w0 (ba w0) bo bA bD cg cy cz cA cI dB dq cj cd dv dh da dc dk dr cO cL cP cQ cR dd cS cV cW cX cY gk gm gn gp gq gr gu p1):Calls pg 61 #[(.agg #[(I bo),(I bA),(I bD),(I cg),(I cy),(I cz),(I cA),(I cI),(I dB),(I dq),(I cj),(I cd),(I dv),(I dh),(I da),(B dc),(I dk),(I dr),cO,cL,cP,cQ,cR,dd,(I cS),(I cV),(.float .f64 cW),(.float .f64 cX),(I cY),(I gk),(I gm),(I gn),(I gp),(I gq),gr,gu]),(I p1)] w0 R:=
 aL (pl:=IK) Tryz.func61 (by kernel_rfl) (by kernel_rfl) h
theorem uk {R:Ending→World→Prop} {w0:World} {p0:Value} {p1:ByteArray} (h:nh R w0 (ba w0) p0 p1):Calls pg 351 #[p0,(.string p1)] w0 R:=
 aL (pl:=ui) Tryz.func351 (by kernel_rfl) (by kernel_rfl) h
theorem Hq {R:Ending→World→Prop} {w0:World} {p0:Value} {p1:ByteArray} (h:yb R w0 (ba w0) p0 p1):Calls pg 352 #[p0,(.string p1)] w0 R:=
 aL (pl:=Hh) Tryz.func352 (by kernel_rfl) (by kernel_rfl) h
theorem wA (h:oR R w0 (ba w0) p0):Calls pg 353 #[p0] w0 R:=cv ⟨8,[],[],[0,2,4],[],[]⟩ Tryz.func353 h
theorem pL (h:kA R w0 (ba w0) p0 p1):Calls pg 369 #[p0,p1] w0 R:=cv ⟨9,[],[],[0,1,4],[],[]⟩ Tryz.func369 h
theorem Md {R:Ending→World→Prop} {w0:World} {bo:ByteArray} {bA:Int} {bD:Nat} {cg:ByteArray} {c0:Value} (h:Bw R w0 (ba w0) bo bA bD cg c0):Calls pg 370 #[(.agg #[(.string bo),(I bA),(.float .f64 bD),(.string cg)]),c0] w0 R:=
 aL (pl:=L6) Tryz.func370 (by kernel_rfl) (by kernel_rfl) h
theorem wB {R:Ending→World→Prop} {w0:World} {p0:Value} {p1:ByteArray} (h:oS R w0 (ba w0) p0 p1):Calls pg 371 #[p0,(.string p1)] w0 R:=
 aL (pl:=wz) Tryz.func371 (by kernel_rfl) (by kernel_rfl) h
theorem Hr {R:Ending→World→Prop} {w0:World} {p0:Value} {p1:ByteArray} {tT tU tV:Int} {p3:Bool} (h:yc R w0 (ba w0) p0 p1 tT tU tV p3):Calls pg 372 #[p0,(.string p1),(.agg #[(I tT),(I tU),(I tV)]),(B p3)] w0 R:=
 aL (pl:=Hi) Tryz.func372 (by kernel_rfl) (by kernel_rfl) h
theorem qL (h:lp R w0 (ba w0) p0 p1):Calls pg 379 #[p0,p1] w0 R:=cv ⟨19,[],[],[0,1,4,5,7,8,9,16],[],[8]⟩ Tryz.func379 h
theorem Nx {R:Ending→World→Prop} {w0:World} {p0:Value} {cZ:ByteArray} {dp:Int} {du:Nat} {iH:ByteArray} (h:CA R w0 (ba w0) p0 cZ dp du iH):Calls pg 62 #[p0,(.agg #[(.string cZ),(I dp),(.float .f64 du),(.string iH)])] w0 R:=
 aL (pl:=Og) Tryz.func62 (by kernel_rfl) (by kernel_rfl) h
theorem Qg {R:Ending→World→Prop} {w0:World} {p0 p1:Nat} (h:DY R w0 (ba w0) p0 p1):Calls pg 63 #[(.float .f64 p0),(.float .f64 p1)] w0 R:=
 aL (pl:=P6) Tryz.func63 (by kernel_rfl) (by kernel_rfl) h
theorem IG {R:Ending→World→Prop} {w0:World} {bo bA bD cZ dp du:Int} (h:yS R w0 (ba w0) bo bA bD cZ dp du):Calls pg 65 #[(.agg #[(I bo),(I bA),(I bD)]),(.agg #[(I cZ),(I dp),(I du)])] w0 R:=
 aL (pl:=IL) Tryz.func65 (by kernel_rfl) (by kernel_rfl) h
theorem Xe {R:Ending→World→Prop} {w0:World} {p0:ByteArray} (h:Kx R w0 (ba w0) p0):Calls pg 73 #[(.string p0)] w0 R:=
 aL (pl:=W2) Tryz.func73 (by kernel_rfl) (by kernel_rfl) h
theorem YP {R:Ending→World→Prop} {w0:World} {p0:ByteArray} {p1:Int} (h:MY R w0 (ba w0) p0 p1):Calls pg 79 #[(.string p0),(I p1)] w0 R:=
 aL (pl:=YE) Tryz.func79 (by kernel_rfl) (by kernel_rfl) h
theorem Me (h:Bx R w0 (ba w0) p0):Calls pg 80 #[p0] w0 R:=cv ⟨7,[],[],[0,2],[],[]⟩ Tryz.func80 h
theorem Tn {R:Ending→World→Prop} {w0:World} {p0 p1:ByteArray} (h:H6 R w0 (ba w0) p0 p1):Calls pg 81 #[(.string p0),(.string p1)] w0 R:=
 aL (pl:=Ts) Tryz.func81 (by kernel_rfl) (by kernel_rfl) h
theorem Ps {R:Ending→World→Prop} {w0:World} {p0:Value} {p1:Int} {p2:ByteArray} (h:DK R w0 (ba w0) p0 p1 p2):Calls pg 82 #[p0,(I p1),(.string p2)] w0 R:=
 aL (pl:=P7) Tryz.func82 (by kernel_rfl) (by kernel_rfl) h
theorem Qh {R:Ending→World→Prop} {w0:World} {p0:Value} {p1:Int} (h:DZ R w0 (ba w0) p0 p1):Calls pg 83 #[p0,(I p1)] w0 R:=
 aL (pl:=P8) Tryz.func83 (by kernel_rfl) (by kernel_rfl) h
theorem Pt (h:DL R w0 (ba w0) p0):Calls pg 84 #[p0] w0 R:=cv ⟨50,[],[],[0,2,3,4,5,7,34,46],[],[]⟩ Tryz.func84 h
theorem Qi (h:D6 R w0 (ba w0) p0):Calls pg 85 #[p0] w0 R:=cv ⟨15,[],[],[0,2],[],[]⟩ Tryz.func85 h
theorem To {R:Ending→World→Prop} {w0:World} {p0:Value} {p1:Int} (h:H8 R w0 (ba w0) p0 p1):Calls pg 86 #[p0,(I p1)] w0 R:=
 aL (pl:=Tt) Tryz.func86 (by kernel_rfl) (by kernel_rfl) h
theorem Mf (h:By R w0 (ba w0) p0):Calls pg 88 #[p0] w0 R:=cv ⟨8,[],[],[0,2],[],[]⟩ Tryz.func88 h
theorem tC (h:qw R w0 (ba w0) p0 p1):Calls pg 89 #[p0,p1] w0 R:=cv ⟨183,[],[],[0,1,4,13,14,21,30,78,95,102,119,138,145,169],[],[]⟩ Tryz.func89 h
theorem KR (h:Ay R w0 (ba w0) p0):Calls pg 90 #[p0] w0 R:=cv ⟨29,[],[],[0,2,3,20],[9,10,11,12,13,14,15,16,17,18,19],[]⟩ Tryz.func90 h
theorem zx {R:Ending→World→Prop} {w0:World} {bo bA bD cg cy cz cA cI dB dq:Int} {cj:Bool} {cd:Int} {dv:Nat} {dh da dc dk:Value} {dr cO:Int} {cL cP:Nat} {cQ cR dd cS cV cW:Int} {cX cY:Value} (h:uj R w0 (ba w0) bo bA bD cg cy cz cA cI dB dq cj cd dv dh da dc dk dr cO cL cP cQ cR dd cS cV cW cX cY):Calls pg 91 #[(.agg #[(I bo),(I bA),(I bD),(I cg),(I cy),(I cz),(I cA),(I cI),(I dB),(I dq),(B cj),(I cd),(.float .f64 dv),dh,da,dc,dk,(I dr),(I cO),(.float .f64 cL),(.float .f64 cP),(I cQ),(I cR),(I dd),(I cS),(I cV),(I cW),cX,cY])] w0 R:=
 aL (pl:=Rt) Tryz.func91 (by kernel_rfl) (by kernel_rfl) h
theorem QK (h:Fg R w0 (ba w0) p0 p1):Calls pg 92 #[p0,p1] w0 R:=cv ⟨10,[],[],[0,1,4],[],[]⟩ Tryz.func92 h
theorem lB (h:iw R w0 (ba w0) p0 p1 p2):Calls pg 93 #[p0,p1,p2] w0 R:=cv ⟨32,[(8,(pg.cellsOf 74)),(9,(pg.cellsOf 74))],[],[0,1,2,6,7,14,15,16,17,18,30],[],[17]⟩ Tryz.func93 h
theorem GV {R:Ending→World→Prop} {w0:World} {bo:ByteArray} {bA:Int} {bD:Nat} {cg cZ:ByteArray} {dp:Int} {du:Nat} {iH:ByteArray} (h:xF R w0 (ba w0) bo bA bD cg cZ dp du iH):Calls pg 94 #[(.agg #[(.string bo),(I bA),(.float .f64 bD),(.string cg)]),(.agg #[(.string cZ),(I dp),(.float .f64 du),(.string iH)])] w0 R:=
 aL (pl:=Hj) Tryz.func94 (by kernel_rfl) (by kernel_rfl) h
theorem Tq {R:Ending→World→Prop} {w0:World} {bo:Int} {bA:Nat} {bD:ByteArray} {cZ:Int} {dp:Nat} {du:ByteArray} (h:H9 R w0 (ba w0) bo bA bD cZ dp du):Calls pg 95 #[(.agg #[(I bo),(.float .f64 bA),(.string bD)]),(.agg #[(I cZ),(.float .f64 dp),(.string du)])] w0 R:=
 aL (pl:=Tu) Tryz.func95 (by kernel_rfl) (by kernel_rfl) h
theorem Ej {R:Ending→World→Prop} {w0:World} {bo bA bD cg cy cz cA cI dB dq cj cd dv dh da:Int} {dc:Bool} {dk dr:Int} {cO cL cP cQ cR dd:Value} {cS cV:Int} {cW cX:Nat} {cY gk gm gn gp gq:Int} {gr gu:Value} (h:yd R w0 (ba w0) bo bA bD cg cy cz cA cI dB dq cj cd dv dh da dc dk dr cO cL cP cQ cR dd cS cV cW cX cY gk gm gn gp gq gr gu):Calls pg 99 #[(.agg #[(I bo),(I bA),(I bD),(I cg),(I cy),(I cz),(I cA),(I cI),(I dB),(I dq),(I cj),(I cd),(I dv),(I dh),(I da),(B dc),(I dk),(I dr),cO,cL,cP,cQ,cR,dd,(I cS),(I cV),(.float .f64 cW),(.float .f64 cX),(I cY),(I gk),(I gm),(I gn),(I gp),(I gq),gr,gu])] w0 R:=
 aL (pl:=P9) Tryz.func99 (by kernel_rfl) (by kernel_rfl) h
theorem Xf {R:Ending→World→Prop} {w0:World} {p0:Int} (h:Ky R w0 (ba w0) p0):Calls pg 100 #[(I p0)] w0 R:=
 aL (pl:=W3) Tryz.func100 (by kernel_rfl) (by kernel_rfl) h
theorem KS {R:Ending→World→Prop} {w0:World} {bo bA bD cg cy cz cA cI dB dq cj cd dv dh da:Int} {dc:Bool} {dk dr:Int} {cO cL cP cQ cR dd:Value} {cS cV:Int} {cW cX:Nat} {cY gk gm gn gp gq:Int} {gr gu:Value} (h:Df R w0 (ba w0) bo bA bD cg cy cz cA cI dB dq cj cd dv dh da dc dk dr cO cL cP cQ cR dd cS cV cW cX cY gk gm gn gp gq gr gu):Calls pg 101 #[(.agg #[(I bo),(I bA),(I bD),(I cg),(I cy),(I cz),(I cA),(I cI),(I dB),(I dq),(I cj),(I cd),(I dv),(I dh),(I da),(B dc),(I dk),(I dr),cO,cL,cP,cQ,cR,dd,(I cS),(I cV),(.float .f64 cW),(.float .f64 cX),(I cY),(I gk),(I gm),(I gn),(I gp),(I gq),gr,gu])] w0 R:=
 aL (pl:=W4) Tryz.func101 (by kernel_rfl) (by kernel_rfl) h
theorem Ge {R:Ending→World→Prop} {w0:World} {bo bA bD cg cy cz cA cI dB dq cj cd dv dh da:Int} {dc:Bool} {dk dr:Int} {cO cL cP cQ cR dd:Value} {cS cV:Int} {cW cX:Nat} {cY gk gm gn gp gq:Int} {gr gu:Value} (h:zw R w0 (ba w0) bo bA bD cg cy cz cA cI dB dq cj cd dv dh da dc dk dr cO cL cP cQ cR dd cS cV cW cX cY gk gm gn gp gq gr gu):Calls pg 102 #[(.agg #[(I bo),(I bA),(I bD),(I cg),(I cy),(I cz),(I cA),(I cI),(I dB),(I dq),(I cj),(I cd),(I dv),(I dh),(I da),(B dc),(I dk),(I dr),cO,cL,cP,cQ,cR,dd,(I cS),(I cV),(.float .f64 cW),(.float .f64 cX),(I cY),(I gk),(I gm),(I gn),(I gp),(I gq),gr,gu])] w0 R:=
 aL (pl:=Ru) Tryz.func102 (by kernel_rfl) (by kernel_rfl) h
theorem Mg (h:Bz R w0 (ba w0) p0 p1):Calls pg 103 #[p0,p1] w0 R:=cv ⟨90,[],[],[0,1,4,5,6,7,8,9,10,12,15,19,31,35,41,66],[],[]⟩ Tryz.func103 h
theorem Qj (h:D7 R w0 (ba w0) p0):Calls pg 104 #[p0] w0 R:=cv ⟨28,[],[],[0,2,3,20],[],[]⟩ Tryz.func104 h
theorem IX {R:Ending→World→Prop} {w0:World} {p0:Value} {p1:ByteArray} (h:yX R w0 (ba w0) p0 p1):Calls pg 105 #[p0,(.string p1)] w0 R:=
 aL (pl:=IM) Tryz.func105 (by kernel_rfl) (by kernel_rfl) h
theorem YQ {R:Ending→World→Prop} {w0:World} {p0:ByteArray} {p1:Int} (h:MZ R w0 (ba w0) p0 p1):Calls pg 106 #[(.string p0),(I p1)] w0 R:=
 aL (pl:=YG) Tryz.func106 (by kernel_rfl) (by kernel_rfl) h
theorem GI {R:Ending→World→Prop} {w0:World} {p0:Value} {p1:Int} (h:xu R w0 (ba w0) p0 p1):Calls pg 108 #[p0,(I p1)] w0 R:=
 aL (pl:=Hk) Tryz.func108 (by kernel_rfl) (by kernel_rfl) h
theorem IC {R:Ending→World→Prop} {w0:World} {bo bA bD cg cy cz cA cI dB dq:Int} {cj:Bool} {cd:Int} {dv:Nat} {dh da dc dk:Value} {dr cO:Int} {cL cP:Nat} {cQ cR dd cS cV cW:Int} {cX cY:Value} {p1:Int} (h:yM R w0 (ba w0) bo bA bD cg cy cz cA cI dB dq cj cd dv dh da dc dk dr cO cL cP cQ cR dd cS cV cW cX cY p1):Calls pg 109 #[(.agg #[(I bo),(I bA),(I bD),(I cg),(I cy),(I cz),(I cA),(I cI),(I dB),(I dq),(B cj),(I cd),(.float .f64 dv),dh,da,dc,dk,(I dr),(I cO),(.float .f64 cL),(.float .f64 cP),(I cQ),(I cR),(I dd),(I cS),(I cV),(I cW),cX,cY]),(I p1)] w0 R:=
 aL (pl:=IN) Tryz.func109 (by kernel_rfl) (by kernel_rfl) h
theorem Fx {R:Ending→World→Prop} {w0:World} {bo bA:Int} {bD cg:Nat} {cy cz cA cI dB dq:Int} {cj cd:Value} {p1:Int} (h:wL R w0 (ba w0) bo bA bD cg cy cz cA cI dB dq cj cd p1):Calls pg 110 #[(.agg #[(I bo),(I bA),(.float .f64 bD),(.float .f64 cg),(I cy),(I cz),(I cA),(I cI),(I dB),(I dq),cj,cd]),(I p1)] w0 R:=
 aL (pl:=FP) Tryz.func110 (by kernel_rfl) (by kernel_rfl) h
theorem LU {R:Ending→World→Prop} {w0:World} {p0 p1:Int} (h:Bt R w0 (ba w0) p0 p1):Calls pg 119 #[(I p0),(I p1)] w0 R:=
 aL (pl:=L7) Tryz.func119 (by kernel_rfl) (by kernel_rfl) h
theorem LQ {R:Ending→World→Prop} {w0:World} {p0:Value} {p1:ByteArray} (h:Bp R w0 (ba w0) p0 p1):Calls pg 138 #[p0,(.string p1)] w0 R:=
 aL (pl:=L8) Tryz.func138 (by kernel_rfl) (by kernel_rfl) h
theorem Tm (h:HZ R w0 (ba w0) p0):Calls pg 139 #[p0] w0 R:=cv ⟨73,[],[],[0,2,3,4,5,6,7,12,42,60],[20,21,22,23,24,25,26,27,28,29,30,31,32,34,35,36,37,38,39,40,41],[4,5]⟩ Tryz.func139 h
theorem IY {R:Ending→World→Prop} {w0:World} {p0:Value} {p1:ByteArray} (h:yY R w0 (ba w0) p0 p1):Calls pg 140 #[p0,(.string p1)] w0 R:=
 aL (pl:=IP) Tryz.func140 (by kernel_rfl) (by kernel_rfl) h
theorem NG {R:Ending→World→Prop} {w0:World} {p0:Value} {p1:ByteArray} {p2:Int} (h:CH R w0 (ba w0) p0 p1 p2):Calls pg 141 #[p0,(.string p1),(I p2)] w0 R:=
 aL (pl:=Oh) Tryz.func141 (by kernel_rfl) (by kernel_rfl) h
theorem AE (h:tW R w0 (ba w0) p0 p1):Calls pg 142 #[p0,p1] w0 R:=cv ⟨26,[],[],[0,1,8],[],[]⟩ Tryz.func142 h
theorem Hs (h:ye R w0 (ba w0) p0 p1):Calls pg 143 #[p0,p1] w0 R:=cv ⟨33,[],[],[0,1],[],[]⟩ Tryz.func143 h
theorem ER (h:vB R w0 (ba w0) p0 p1):Calls pg 144 #[p0,p1] w0 R:=cv ⟨28,[],[],[0,1],[],[]⟩ Tryz.func144 h
theorem Mh (h:BB R w0 (ba w0) p0 p1 p2):Calls pg 145 #[p0,p1,p2] w0 R:=cv ⟨63,[],[],[0,1,2,6,7,8,17,38,39,40,46],[],[39]⟩ Tryz.func145 h
theorem AF (h:tX R w0 (ba w0) p0 p1):Calls pg 146 #[p0,p1] w0 R:=cv ⟨19,[],[],[0,1],[],[]⟩ Tryz.func146 h
theorem IZ (h:yZ R w0 (ba w0) p0 p1):Calls pg 147 #[p0,p1] w0 R:=cv ⟨26,[],[],[0,1,8],[],[]⟩ Tryz.func147 h
theorem yr (h:rS R w0 (ba w0) p0 p1):Calls pg 148 #[p0,p1] w0 R:=cv ⟨19,[],[],[0,1],[],[]⟩ Tryz.func148 h
theorem Ht (h:yf R w0 (ba w0) p0 p1):Calls pg 149 #[p0,p1] w0 R:=cv ⟨26,[],[],[0,1,8],[],[]⟩ Tryz.func149 h
theorem py (h:mq R w0 (ba w0) p0 p1 p2):Calls pg 150 #[p0,p1,p2] w0 R:=cv ⟨63,[(8,(pg.cellsOf 53))],[],[0,1,2,6,7,17,38,39,40,46],[],[39]⟩ Tryz.func150 h
theorem yt (h:rT R w0 (ba w0) p0 p1):Calls pg 151 #[p0,p1] w0 R:=cv ⟨14,[],[],[0,1],[],[]⟩ Tryz.func151 h
theorem pV (h:mO R w0 (ba w0) p0 p1 p2):Calls pg 152 #[p0,p1,p2] w0 R:=cv ⟨63,[(8,(pg.cellsOf 74))],[],[0,1,2,6,7,17,38,39,40,46],[],[39]⟩ Tryz.func152 h
theorem ze (h:sN R w0 (ba w0) p0 p1):Calls pg 153 #[p0,p1] w0 R:=cv ⟨14,[],[],[0,1],[],[]⟩ Tryz.func153 h
theorem Hu (h:yg R w0 (ba w0) p0):Calls pg 154 #[p0] w0 R:=cv ⟨12,[],[],[0,2,3],[],[]⟩ Tryz.func154 h
theorem YR {R:Ending→World→Prop} {w0:World} {bo bA bD cg cy cz cA cI dB dq:Int} {cj:Bool} {cd:Int} {dv:Nat} {dh da dc dk:Value} {dr cO:Int} {cL cP:Nat} {cQ cR dd cS cV cW:Int} {cX cY:Value} (h:M6 R w0 (ba w0) bo bA bD cg cy cz cA cI dB dq cj cd dv dh da dc dk dr cO cL cP cQ cR dd cS cV cW cX cY):Calls pg 155 #[(.agg #[(I bo),(I bA),(I bD),(I cg),(I cy),(I cz),(I cA),(I cI),(I dB),(I dq),(B cj),(I cd),(.float .f64 dv),dh,da,dc,dk,(I dr),(I cO),(.float .f64 cL),(.float .f64 cP),(I cQ),(I cR),(I dd),(I cS),(I cV),(I cW),cX,cY])] w0 R:=
 aL (pl:=YH) Tryz.func155 (by kernel_rfl) (by kernel_rfl) h
theorem Mi (h:BC R w0 (ba w0)):Calls pg 156 #[] w0 R:=cv ⟨3,[],[],[0],[],[]⟩ Tryz.func156 h
theorem Hv (h:yh R w0 (ba w0) p0):Calls pg 157 #[p0] w0 R:=cv ⟨9,[],[],[0,2],[],[]⟩ Tryz.func157 h
theorem Xg {R:Ending→World→Prop} {w0:World} {bo:Int} {bA:Nat} {bD:ByteArray} (h:Kz R w0 (ba w0) bo bA bD):Calls pg 158 #[(.agg #[(I bo),(.float .f64 bA),(.string bD)])] w0 R:=
 aL (pl:=W5) Tryz.func158 (by kernel_rfl) (by kernel_rfl) h
theorem NJ {R:Ending→World→Prop} {w0:World} {bo:Int} {bA:Nat} {bD:ByteArray} {cZ:Int} {dp:Nat} {du:ByteArray} (h:CK R w0 (ba w0) bo bA bD cZ dp du):Calls pg 159 #[(.agg #[(I bo),(.float .f64 bA),(.string bD)]),(.agg #[(I cZ),(.float .f64 dp),(.string du)])] w0 R:=
 aL (pl:=Oi) Tryz.func159 (by kernel_rfl) (by kernel_rfl) h
theorem RH {R:Ending→World→Prop} {w0:World} {p0:Int} (h:FQ R w0 (ba w0) p0):Calls pg 163 #[(I p0)] w0 R:=
 aL (pl:=Rv) Tryz.func163 (by kernel_rfl) (by kernel_rfl) h
theorem Tz {R:Ending→World→Prop} {w0:World} {bo bA bD cg cy cz cA cI dB dq cj cd dv dh da:Int} {dc:Bool} {dk dr:Int} {cO cL cP cQ cR dd:Value} {cS cV:Int} {cW cX:Nat} {cY gk gm gn gp gq:Int} {gr gu:Value} (h:Io R w0 (ba w0) bo bA bD cg cy cz cA cI dB dq cj cd dv dh da dc dk dr cO cL cP cQ cR dd cS cV cW cX cY gk gm gn gp gq gr gu):Calls pg 164 #[(.agg #[(I bo),(I bA),(I bD),(I cg),(I cy),(I cz),(I cA),(I cI),(I dB),(I dq),(I cj),(I cd),(I dv),(I dh),(I da),(B dc),(I dk),(I dr),cO,cL,cP,cQ,cR,dd,(I cS),(I cV),(.float .f64 cW),(.float .f64 cX),(I cY),(I gk),(I gm),(I gn),(I gp),(I gq),gr,gu])] w0 R:=
 aL (pl:=Tv) Tryz.func164 (by kernel_rfl) (by kernel_rfl) h
theorem abO {R:Ending→World→Prop} {w0:World} {bo bA bD:Int} (h:Qa R w0 (ba w0) bo bA bD):Calls pg 165 #[(.agg #[(I bo),(I bA),(I bD)])] w0 R:=
 aL (pl:=abN) Tryz.func165 (by kernel_rfl) (by kernel_rfl) h
theorem TA (h:Ip R w0 (ba w0) p0):Calls pg 166 #[p0] w0 R:=cv ⟨24,[(4,(pg.cellsOf 117))],[],[0,2,6,7,8,9,10,19],[],[9]⟩ Tryz.func166 h
theorem Ot {R:Ending→World→Prop} {w0:World} {bo bA:Int} {bD cg:Nat} {cy cz cA cI dB dq:Int} {cj cd:Value} (h:Dg R w0 (ba w0) bo bA bD cg cy cz cA cI dB dq cj cd):Calls pg 167 #[(.agg #[(I bo),(I bA),(.float .f64 bD),(.float .f64 cg),(I cy),(I cz),(I cA),(I cI),(I dB),(I dq),cj,cd])] w0 R:=
 aL (pl:=Oj) Tryz.func167 (by kernel_rfl) (by kernel_rfl) h
theorem TB {R:Ending→World→Prop} {w0:World} {bo bA bD cZ dp du tT tU tV:Int} {p3:Value} (h:Iq R w0 (ba w0) bo bA bD cZ dp du tT tU tV p3):Calls pg 168 #[(.agg #[(I bo),(I bA),(I bD)]),(.agg #[(I cZ),(I dp),(I du)]),(.agg #[(I tT),(I tU),(I tV)]),p3] w0 R:=
 aL (pl:=Tw) Tryz.func168 (by kernel_rfl) (by kernel_rfl) h
theorem RI (h:FR R w0 (ba w0) p0):Calls pg 169 #[p0] w0 R:=cv ⟨27,[],[],[0,2,3,4,7],[],[]⟩ Tryz.func169 h
theorem I0 {R:Ending→World→Prop} {w0:World} {p0:Value} {p1:ByteArray} {p2:Value} (h:y6 R w0 (ba w0) p0 p1 p2):Calls pg 170 #[p0,(.string p1),p2] w0 R:=
 aL (pl:=IQ) Tryz.func170 (by kernel_rfl) (by kernel_rfl) h
theorem Mj {R:Ending→World→Prop} {w0:World} {p0:Value} {p1:ByteArray} (h:BD R w0 (ba w0) p0 p1):Calls pg 171 #[p0,(.string p1)] w0 R:=
 aL (pl:=L9) Tryz.func171 (by kernel_rfl) (by kernel_rfl) h
theorem KT {R:Ending→World→Prop} {w0:World} {p0:Value} {p1:Int} {p2:Value} (h:Az R w0 (ba w0) p0 p1 p2):Calls pg 172 #[p0,(I p1),p2] w0 R:=
 aL (pl:=KA) Tryz.func172 (by kernel_rfl) (by kernel_rfl) h
theorem Ou {R:Ending→World→Prop} {w0:World} {p0:Value} {p1:ByteArray} (h:Dh R w0 (ba w0) p0 p1):Calls pg 173 #[p0,(.string p1)] w0 R:=
 aL (pl:=Ol) Tryz.func173 (by kernel_rfl) (by kernel_rfl) h
theorem ES {R:Ending→World→Prop} {w0:World} {c0 c1:Value} (h:vC R w0 (ba w0) c0 c1):Calls pg 174 #[c0,c1] w0 R:=
 aL (pl:=EO) Tryz.func174 (by kernel_rfl) (by kernel_rfl) h
theorem Mk {R:Ending→World→Prop} {w0:World} {p0:Value} {p1:ByteArray} (h:BE R w0 (ba w0) p0 p1):Calls pg 175 #[p0,(.string p1)] w0 R:=
 aL (pl:=Ma) Tryz.func175 (by kernel_rfl) (by kernel_rfl) h
theorem BQ {R:Ending→World→Prop} {w0:World} {p0:Value} {p1:Int} (h:sY R w0 (ba w0) p0 p1):Calls pg 176 #[p0,(I p1)] w0 R:=
 aL (pl:=BW) Tryz.func176 (by kernel_rfl) (by kernel_rfl) h
theorem Cx {R:Ending→World→Prop} {w0:World} {p0:Value} {p1:Int} (h:tH R w0 (ba w0) p0 p1):Calls pg 177 #[p0,(I p1)] w0 R:=
 aL (pl:=Di) Tryz.func177 (by kernel_rfl) (by kernel_rfl) h
theorem Vd (h:Jy R w0 (ba w0) p0):Calls pg 202 #[p0] w0 R:=cv ⟨25,[],[],[0,2],[],[]⟩ Tryz.func202 h
theorem Xh (h:KB R w0 (ba w0) p0):Calls pg 203 #[p0] w0 R:=cv ⟨54,[],[],[0,2,3,5,6,8,11,12,13,14,15,22,23,36,37,38,39],[],[3,14,22,38]⟩ Tryz.func203 h
theorem ET {R:Ending→World→Prop} {w0:World} {c0 c1:Value} (h:vD R w0 (ba w0) c0 c1):Calls pg 204 #[c0,c1] w0 R:=
 aL (pl:=EP) Tryz.func204 (by kernel_rfl) (by kernel_rfl) h
theorem IE {R:Ending→World→Prop} {w0:World} {c0 c1 c2:Value} (h:yO R w0 (ba w0) c0 c1 c2):Calls pg 205 #[c0,c1,c2] w0 R:=
 aL (pl:=IS) Tryz.func205 (by kernel_rfl) (by kernel_rfl) h
theorem KU {R:Ending→World→Prop} {w0:World} {p0:Value} {p1:Int} (h:AA R w0 (ba w0) p0 p1):Calls pg 206 #[p0,(I p1)] w0 R:=
 aL (pl:=KC) Tryz.func206 (by kernel_rfl) (by kernel_rfl) h
theorem KW (h:AB R w0 (ba w0) p0):Calls pg 207 #[p0] w0 R:=cv ⟨27,[],[],[0,2,3,4,5,10,21],[],[]⟩ Tryz.func207 h
theorem I2 (h:y7 R w0 (ba w0) p0):Calls pg 208 #[p0] w0 R:=cv ⟨16,[],[],[0,2,13],[],[]⟩ Tryz.func208 h
theorem Hw (h:yi R w0 (ba w0) p0 p1):Calls pg 209 #[p0,p1] w0 R:=cv ⟨24,[],[],[0,1],[],[]⟩ Tryz.func209 h
theorem BX (h:te R w0 (ba w0) p0 p1 p2):Calls pg 210 #[p0,p1,p2] w0 R:=cv ⟨63,[(8,(pg.cellsOf 288))],[],[0,1,2,6,7,17,38,39,40,46],[],[39]⟩ Tryz.func210 h
theorem EU (h:vE R w0 (ba w0) p0 p1):Calls pg 211 #[p0,p1] w0 R:=cv ⟨16,[],[],[0,1],[],[]⟩ Tryz.func211 h
theorem BY (h:tf R w0 (ba w0) p0 p1 p2):Calls pg 212 #[p0,p1,p2] w0 R:=cv ⟨63,[(8,(pg.cellsOf 229))],[],[0,1,2,6,7,17,38,39,40,46],[],[39]⟩ Tryz.func212 h
theorem Hx (h:yj R w0 (ba w0) p0 p1 p2):Calls pg 213 #[p0,p1,p2] w0 R:=cv ⟨63,[],[],[0,1,2,6,7,8,17,38,39,40,46],[],[39]⟩ Tryz.func213 h
theorem zf (h:sO R w0 (ba w0) p0 p1):Calls pg 214 #[p0,p1] w0 R:=cv ⟨26,[],[],[0,1,8],[],[]⟩ Tryz.func214 h
theorem Hy {R:Ending→World→Prop} {w0:World} {p0:Value} {p1:Int} (h:yk R w0 (ba w0) p0 p1):Calls pg 215 #[p0,(I p1)] w0 R:=
 aL (pl:=Hl) Tryz.func215 (by kernel_rfl) (by kernel_rfl) h
theorem I3 (h:y8 R w0 (ba w0) p0):Calls pg 216 #[p0] w0 R:=cv ⟨18,[],[],[0,2,7],[],[]⟩ Tryz.func216 h
theorem I4 {R:Ending→World→Prop} {w0:World} {p0:Value} {p1:Bool} (h:y9 R w0 (ba w0) p0 p1):Calls pg 217 #[p0,(B p1)] w0 R:=
 aL (pl:=IT) Tryz.func217 (by kernel_rfl) (by kernel_rfl) h
theorem Hz {R:Ending→World→Prop} {w0:World} {p0:Value} {p1:Nat} (h:yl R w0 (ba w0) p0 p1):Calls pg 219 #[p0,(.float .f64 p1)] w0 R:=
 aL (pl:=Hm) Tryz.func219 (by kernel_rfl) (by kernel_rfl) h
theorem HA (h:ym R w0 (ba w0) p0):Calls pg 220 #[p0] w0 R:=cv ⟨69,[],[],[0,2,3,4,5,10,21,30,54],[33],[3,4]⟩ Tryz.func220 h
theorem yu (h:rU R w0 (ba w0) p0 p1):Calls pg 221 #[p0,p1] w0 R:=cv ⟨26,[],[],[0,1,8],[],[]⟩ Tryz.func221 h
theorem Qk {R:Ending→World→Prop} {w0:World} {bo bA bD cg cy cz cA cI dB dq:Int} {cj:Bool} {cd:Int} {dv:Nat} {dh da dc dk:Value} {dr cO:Int} {cL cP:Nat} {cQ cR dd cS cV cW:Int} {cX cY:Value} (h:D8 R w0 (ba w0) bo bA bD cg cy cz cA cI dB dq cj cd dv dh da dc dk dr cO cL cP cQ cR dd cS cV cW cX cY):Calls pg 222 #[(.agg #[(I bo),(I bA),(I bD),(I cg),(I cy),(I cz),(I cA),(I cI),(I dB),(I dq),(B cj),(I cd),(.float .f64 dv),dh,da,dc,dk,(I dr),(I cO),(.float .f64 cL),(.float .f64 cP),(I cQ),(I cR),(I dd),(I cS),(I cV),(I cW),cX,cY])] w0 R:=
 aL (pl:=Qb) Tryz.func222 (by kernel_rfl) (by kernel_rfl) h
theorem Xi {R:Ending→World→Prop} {w0:World} {bo bA bD cg cy cz cA cI dB dq:Int} {cj:Bool} {cd:Int} {dv:Nat} {dh da dc dk:Value} {dr cO:Int} {cL cP:Nat} {cQ cR dd cS cV cW:Int} {cX cY:Value} (h:KD R w0 (ba w0) bo bA bD cg cy cz cA cI dB dq cj cd dv dh da dc dk dr cO cL cP cQ cR dd cS cV cW cX cY):Calls pg 223 #[(.agg #[(I bo),(I bA),(I bD),(I cg),(I cy),(I cz),(I cA),(I cI),(I dB),(I dq),(B cj),(I cd),(.float .f64 dv),dh,da,dc,dk,(I dr),(I cO),(.float .f64 cL),(.float .f64 cP),(I cQ),(I cR),(I dd),(I cS),(I cV),(I cW),cX,cY])] w0 R:=
 aL (pl:=W6) Tryz.func223 (by kernel_rfl) (by kernel_rfl) h
theorem RJ {R:Ending→World→Prop} {w0:World} {bo bA bD cg cy cz cA cI dB dq:Int} {cj:Bool} {cd:Int} {dv:Nat} {dh da dc dk:Value} {dr cO:Int} {cL cP:Nat} {cQ cR dd cS cV cW:Int} {cX cY:Value} (h:FU R w0 (ba w0) bo bA bD cg cy cz cA cI dB dq cj cd dv dh da dc dk dr cO cL cP cQ cR dd cS cV cW cX cY):Calls pg 224 #[(.agg #[(I bo),(I bA),(I bD),(I cg),(I cy),(I cz),(I cA),(I cI),(I dB),(I dq),(B cj),(I cd),(.float .f64 dv),dh,da,dc,dk,(I dr),(I cO),(.float .f64 cL),(.float .f64 cP),(I cQ),(I cR),(I dd),(I cS),(I cV),(I cW),cX,cY])] w0 R:=
 aL (pl:=Rw) Tryz.func224 (by kernel_rfl) (by kernel_rfl) h
theorem YS {R:Ending→World→Prop} {w0:World} {p0:Nat} (h:M7 R w0 (ba w0) p0):Calls pg 225 #[(.float .f64 p0)] w0 R:=
 aL (pl:=YI) Tryz.func225 (by kernel_rfl) (by kernel_rfl) h
theorem Q7 {R:Ending→World→Prop} {w0:World} {p0 p1:Nat} (h:FE R w0 (ba w0) p0 p1):Calls pg 226 #[(.float .f64 p0),(.float .f64 p1)] w0 R:=
 aL (pl:=Rx) Tryz.func226 (by kernel_rfl) (by kernel_rfl) h
theorem RK {R:Ending→World→Prop} {w0:World} {bo bA bD:Int} (h:FV R w0 (ba w0) bo bA bD):Calls pg 238 #[(.agg #[(I bo),(I bA),(I bD)])] w0 R:=
 aL (pl:=Ry) Tryz.func238 (by kernel_rfl) (by kernel_rfl) h
theorem Xj (h:KE R w0 (ba w0) p0):Calls pg 239 #[p0] w0 R:=cv ⟨32,[],[],[0,2,3,4,5,6,7,8,27],[15,16,17,18,19,20,21,22,23,24,25,26],[7]⟩ Tryz.func239 h
theorem Xk {R:Ending→World→Prop} {w0:World} {p0:Int} {p1:Bool} {p2:Value} (h:KF R w0 (ba w0) p0 p1 p2):Calls pg 240 #[(I p0),(B p1),p2] w0 R:=
 aL (pl:=W7) Tryz.func240 (by kernel_rfl) (by kernel_rfl) h
theorem Xl (h:KG R w0 (ba w0) p0):Calls pg 241 #[p0] w0 R:=cv ⟨42,[(5,(pg.cellsOf 266))],[13,17,22,28,33,34],[0,2,3,6,7,8,9,38],[21,23,24,25,27,29,30,31,32,35,36,37],[3,8]⟩ Tryz.func241 h
theorem Ql (h:D9 R w0 (ba w0) p0):Calls pg 242 #[p0] w0 R:=cv ⟨24,[(5,(pg.cellsOf 53))],[13,17],[0,2,3,6,7,8,9,20],[],[3,8]⟩ Tryz.func242 h
theorem TC (h:Ir R w0 (ba w0) p0):Calls pg 243 #[p0] w0 R:=cv ⟨35,[],[],[0,2,3,4,5,6,7,8,30],[14,15,16,18,19,20,21,22,23,24,25,26,27,28,29],[7]⟩ Tryz.func243 h
theorem YT {R:Ending→World→Prop} {w0:World} {p0:Value} {p1:Int} (h:M8 R w0 (ba w0) p0 p1):Calls pg 244 #[p0,(I p1)] w0 R:=
 aL (pl:=YJ) Tryz.func244 (by kernel_rfl) (by kernel_rfl) h
theorem Xm {R:Ending→World→Prop} {w0:World} {bo bA:Int} {bD cg:Nat} (h:KH R w0 (ba w0) bo bA bD cg):Calls pg 245 #[(.agg #[(I bo),(I bA),(.float .f64 bD),(.float .f64 cg)])] w0 R:=
 aL (pl:=W8) Tryz.func245 (by kernel_rfl) (by kernel_rfl) h
theorem Xn (h:KI R w0 (ba w0) p0 p1):Calls pg 246 #[p0,p1] w0 R:=cv ⟨80,[(9,(pg.cellsOf 288)),(11,(pg.cellsOf 229)),(13,(pg.cellsOf 229))],[30,32,35,51,74],[0,1,4,5,6,7,12,14,16,17,18,19,25,38,39,40,41,56,60,62,66],[],[7,18,40]⟩ Tryz.func246 h
theorem I5 {R:Ending→World→Prop} {w0:World} {p0:ByteArray} {c0:Value} (h:za R w0 (ba w0) p0 c0):Calls pg 247 #[(.string p0),c0] w0 R:=
 aL (pl:=IU) Tryz.func247 (by kernel_rfl) (by kernel_rfl) h
theorem YU {R:Ending→World→Prop} {w0:World} {bo bA:Int} {bD cg p1:Nat} (h:M9 R w0 (ba w0) bo bA bD cg p1):Calls pg 248 #[(.agg #[(I bo),(I bA),(.float .f64 bD),(.float .f64 cg)]),(.float .f64 p1)] w0 R:=
 aL (pl:=YK) Tryz.func248 (by kernel_rfl) (by kernel_rfl) h
theorem YV {R:Ending→World→Prop} {w0:World} {p0:ByteArray} (h:Na R w0 (ba w0) p0):Calls pg 249 #[(.string p0)] w0 R:=
 aL (pl:=YM) Tryz.func249 (by kernel_rfl) (by kernel_rfl) h
theorem KX {R:Ending→World→Prop} {w0:World} {bo bA bD cg cy cz:Int} {cA cI:Value} (h:AD R w0 (ba w0) bo bA bD cg cy cz cA cI):Calls pg 250 #[(.agg #[(I bo),(I bA),(I bD),(I cg),(I cy),(I cz),cA,cI])] w0 R:=
 aL (pl:=KJ) Tryz.func250 (by kernel_rfl) (by kernel_rfl) h
theorem Xo {R:Ending→World→Prop} {w0:World} {p0:Value} {p1:Int} (h:KK R w0 (ba w0) p0 p1):Calls pg 251 #[p0,(Value.int IntKind.u32 p1)] w0 R:=
 aL (pl:=W9) Tryz.func251 (by kernel_rfl) (by kernel_rfl) h
theorem Ml (h:BF R w0 (ba w0) p0):Calls pg 252 #[p0] w0 R:=cv ⟨39,[],[],[0,2,7,27],[],[]⟩ Tryz.func252 h
theorem HB {R:Ending→World→Prop} {w0:World} {c0 c1:Value} (h:yn R w0 (ba w0) c0 c1):Calls pg 253 #[c0,c1] w0 R:=
 aL (pl:=Hn) Tryz.func253 (by kernel_rfl) (by kernel_rfl) h
theorem RL (h:FW R w0 (ba w0)):Calls pg 287 #[] w0 R:=cv ⟨24,[(0,(pg.cellsOf 353))],[],[1,2,3,4,5,9,10],[],[3,4,9]⟩ Tryz.func287 h
theorem Gf {R:Ending→World→Prop} {w0:World} {p0:Value} {p1:Int} (h:wT R w0 (ba w0) p0 p1):Calls pg 288 #[p0,(I p1)] w0 R:=
 aL (pl:=FY) Tryz.func288 (by kernel_rfl) (by kernel_rfl) h
theorem BZ (h:tg R w0 (ba w0) p0 p1 p2):Calls pg 289 #[p0,p1,p2] w0 R:=cv ⟨63,[(8,(pg.cellsOf 337))],[],[0,1,2,6,7,17,38,39,40,46],[],[39]⟩ Tryz.func289 h
theorem EV (h:vF R w0 (ba w0) p0 p1):Calls pg 290 #[p0,p1] w0 R:=cv ⟨14,[],[],[0,1],[],[]⟩ Tryz.func290 h
theorem I6 {R:Ending→World→Prop} {w0:World} {p0:Value} {p1:ByteArray} (h:zc R w0 (ba w0) p0 p1):Calls pg 291 #[p0,(.string p1)] w0 R:=
 aL (pl:=IV) Tryz.func291 (by kernel_rfl) (by kernel_rfl) h
theorem I7 {R:Ending→World→Prop} {w0:World} {p0:Value} {p1:Int} (h:zd R w0 (ba w0) p0 p1):Calls pg 292 #[p0,(I p1)] w0 R:=
 aL (pl:=IW) Tryz.func292 (by kernel_rfl) (by kernel_rfl) h
theorem HC {R:Ending→World→Prop} {w0:World} {p0:Value} {p1 p2:Int} (h:yp R w0 (ba w0) p0 p1 p2):Calls pg 293 #[p0,(I p1),(I p2)] w0 R:=
 aL (pl:=Ho) Tryz.func293 (by kernel_rfl) (by kernel_rfl) h
theorem adr {R:Ending→World→Prop} {w0:World} {p0:Int} (h:Ta R w0 (ba w0) p0):Calls pg 295 #[(Value.int IntKind.u64 p0)] w0 R:=
 aL (pl:=adq) Tryz.func295 (by kernel_rfl) (by kernel_rfl) h
theorem Xp {R:Ending→World→Prop} {w0:World} {p0:Value} {cZ:Int} {dp:Nat} {du:ByteArray} (h:KL R w0 (ba w0) p0 cZ dp du):Calls pg 296 #[p0,(.agg #[(I cZ),(.float .f64 dp),(.string du)])] w0 R:=
 aL (pl:=Xa) Tryz.func296 (by kernel_rfl) (by kernel_rfl) h
theorem Xq (h:KM R w0 (ba w0) p0):Calls pg 297 #[p0] w0 R:=cv ⟨30,[(2,(pg.cellsOf 51)),(3,(pg.cellsOf 51))],[9,15,20],[0,4,10,11,16,27],[],[]⟩ Tryz.func297 h
theorem Mm {R:Ending→World→Prop} {w0:World} {bo bA:Int} {bD cg:Nat} {cy cz cA cI dB dq:Int} {cj cd:Value} (h:BG R w0 (ba w0) bo bA bD cg cy cz cA cI dB dq cj cd):Calls pg 298 #[(.agg #[(I bo),(I bA),(.float .f64 bD),(.float .f64 cg),(I cy),(I cz),(I cA),(I cI),(I dB),(I dq),cj,cd])] w0 R:=
 aL (pl:=Mb) Tryz.func298 (by kernel_rfl) (by kernel_rfl) h
theorem Qm {R:Ending→World→Prop} {w0:World} {p0:Bool} {cZ dp du:Int} (h:Ea R w0 (ba w0) p0 cZ dp du):Calls pg 299 #[(B p0),(.agg #[(I cZ),(I dp),(I du)])] w0 R:=
 aL (pl:=Qc) Tryz.func299 (by kernel_rfl) (by kernel_rfl) h
theorem RM {R:Ending→World→Prop} {w0:World} {p0:Nat} (h:FZ R w0 (ba w0) p0):Calls pg 300 #[(.float .f64 p0)] w0 R:=
 aL (pl:=Rz) Tryz.func300 (by kernel_rfl) (by kernel_rfl) h
theorem RN {R:Ending→World→Prop} {w0:World} {p0:Int} (h:F9 R w0 (ba w0) p0):Calls pg 301 #[(I p0)] w0 R:=
 aL (pl:=RA) Tryz.func301 (by kernel_rfl) (by kernel_rfl) h
theorem RO {R:Ending→World→Prop} {w0:World} {bo bA bD:Int} (h:Ga R w0 (ba w0) bo bA bD):Calls pg 302 #[(.agg #[(I bo),(I bA),(I bD)])] w0 R:=
 aL (pl:=RC) Tryz.func302 (by kernel_rfl) (by kernel_rfl) h
theorem TD (h:Is R w0 (ba w0) p0):Calls pg 303 #[p0] w0 R:=cv ⟨44,[(4,(pg.cellsOf 74))],[12,26,32,38,39],[0,2,3,5,6,7,8,42],[16,17,18,19,20,21,22,23,24,25,27,28,29,31,33,34,35,37,40,41],[7]⟩ Tryz.func303 h
theorem Xr {R:Ending→World→Prop} {w0:World} {p0:Nat} (h:KN R w0 (ba w0) p0):Calls pg 304 #[(.float .f64 p0)] w0 R:=
 aL (pl:=Xb) Tryz.func304 (by kernel_rfl) (by kernel_rfl) h
theorem Yq {R:Ending→World→Prop} {w0:World} {p0:Nat} (h:MQ R w0 (ba w0) p0):Calls pg 305 #[(.float .f64 p0)] w0 R:=
 aL (pl:=YN) Tryz.func305 (by kernel_rfl) (by kernel_rfl) h
theorem Xs {R:Ending→World→Prop} {w0:World} {p0:ByteArray} (h:KO R w0 (ba w0) p0):Calls pg 312 #[(.string p0)] w0 R:=
 aL (pl:=Xc) Tryz.func312 (by kernel_rfl) (by kernel_rfl) h
theorem TE (h:It R w0 (ba w0) p0):Calls pg 313 #[p0] w0 R:=cv ⟨18,[(4,(pg.cellsOf 42))],[],[0,2,5,6,7,8,13],[],[7]⟩ Tryz.func313 h
theorem RQ {R:Ending→World→Prop} {w0:World} {p0:Nat} (h:Gb R w0 (ba w0) p0):Calls pg 314 #[(.float .f64 p0)] w0 R:=
 aL (pl:=RD) Tryz.func314 (by kernel_rfl) (by kernel_rfl) h
theorem YW (h:Nb R w0 (ba w0)):Calls pg 315 #[] w0 R:=cv ⟨5,[],[],[0],[],[]⟩ Tryz.func315 h
theorem Qn {R:Ending→World→Prop} {w0:World} {bo:ByteArray} {bA:Value} {p1:ByteArray} (h:Eb R w0 (ba w0) bo bA p1):Calls pg 316 #[(.agg #[(.string bo),bA]),(.string p1)] w0 R:=
 aL (pl:=Qd) Tryz.func316 (by kernel_rfl) (by kernel_rfl) h
theorem qP (h:lq R w0 (ba w0) p0):Calls pg 317 #[p0] w0 R:=cv ⟨8,[],[],[0,2,4],[],[]⟩ Tryz.func317 h
theorem HD {R:Ending→World→Prop} {w0:World} {p0:Value} {cZ dp du iH jX jY:Int} {kn ko:Value} (h:yq R w0 (ba w0) p0 cZ dp du iH jX jY kn ko):Calls pg 318 #[p0,(.agg #[(I cZ),(I dp),(I du),(I iH),(I jX),(I jY),kn,ko])] w0 R:=
 aL (pl:=Hp) Tryz.func318 (by kernel_rfl) (by kernel_rfl) h
theorem Mn {R:Ending→World→Prop} {w0:World} {p0:Value} {cZ dp du iH jX jY:Int} {kn ko:Value} (h:BH R w0 (ba w0) p0 cZ dp du iH jX jY kn ko):Calls pg 319 #[p0,(.agg #[(I cZ),(I dp),(I du),(I iH),(I jX),(I jY),kn,ko])] w0 R:=
 aL (pl:=Mc) Tryz.func319 (by kernel_rfl) (by kernel_rfl) h
theorem TF {R:Ending→World→Prop} {w0:World} {bo bA bD cg cy cz:Int} {cA cI:Value} (h:Iu R w0 (ba w0) bo bA bD cg cy cz cA cI):Calls pg 320 #[(.agg #[(I bo),(I bA),(I bD),(I cg),(I cy),(I cz),cA,cI])] w0 R:=
 aL (pl:=Tx) Tryz.func320 (by kernel_rfl) (by kernel_rfl) h
theorem TG {R:Ending→World→Prop} {w0:World} {p0:ByteArray} (h:Iv R w0 (ba w0) p0):Calls pg 321 #[(.string p0)] w0 R:=
 aL (pl:=Ty) Tryz.func321 (by kernel_rfl) (by kernel_rfl) h
theorem Xt (h:KP R w0 (ba w0) p0):Calls pg 322 #[p0] w0 R:=cv ⟨32,[],[],[0,2,3,4,5,6,7,8,27],[15,16,17,18,19,20,21,22,23,24,25,26],[7]⟩ Tryz.func322 h
theorem Mo (h:BI R w0 (ba w0) p0):Calls pg 323 #[p0] w0 R:=cv ⟨19,[(5,(pg.cellsOf 53))],[13],[0,2,3,6,7,8,9],[],[3,8]⟩ Tryz.func323 h
theorem Gg {R:Ending→World→Prop} {w0:World} {p0:Value} {p1:Int} (h:wU R w0 (ba w0) p0 p1):Calls pg 347 #[p0,(I p1)] w0 R:=
 aL (pl:=Gc) Tryz.func347 (by kernel_rfl) (by kernel_rfl) h
theorem Xu {R:Ending→World→Prop} {w0:World} {p0:Nat} (h:KQ R w0 (ba w0) p0):Calls pg 348 #[(.float .f64 p0)] w0 R:=
 aL (pl:=Xd) Tryz.func348 (by kernel_rfl) (by kernel_rfl) h
theorem RR {R:Ending→World→Prop} {w0:World} {bo bA bD cg cy cz:Int} {cA cI:Value} {p1:ByteArray} (h:Gd R w0 (ba w0) bo bA bD cg cy cz cA cI p1):Calls pg 350 #[(.agg #[(I bo),(I bA),(I bD),(I cg),(I cy),(I cz),cA,cI]),(.string p1)] w0 R:=
 aL (pl:=RE) Tryz.func350 (by kernel_rfl) (by kernel_rfl) h
theorem LP {R:Ending→World→Prop} {w0:World} {p0:Value} {cZ dp du iH jX jY kn ko pU nw lW lX ml mm lv:Int} {nR:Bool} {lu nS:Int} {nT nU mn nV nW nY:Value} {nZ ob:Int} {oc od:Nat} {oe Ec Ed Ee Ef Eg:Int} {Eh Ei:Value} (kU: ∀g,zj Tryz.f15=some g→Idle pg g) (hR: ∀ch w,¬R (.panicked ch) w) (h:qh R w0 (ba w0) p0 cZ dp du iH jX jY kn ko pU nw lW lX ml mm lv nR lu nS nT nU mn nV nW nY nZ ob oc od oe Ec Ed Ee Ef Eg Eh Ei):Calls pg 15 #[p0,(.agg #[(I cZ),(I dp),(I du),(I iH),(I jX),(I jY),(I kn),(I ko),(I pU),(I nw),(I lW),(I lX),(I ml),(I mm),(I lv),(B nR),(I lu),(I nS),nT,nU,mn,nV,nW,nY,(I nZ),(I ob),(.float .f64 oc),(.float .f64 od),(I oe),(I Ec),(I Ed),(I Ee),(I Ef),(I Eg),Eh,Ei])] w0 R:=
 Kt (pl:=nC) Tryz.func15 (by kernel_rfl) kU hR (by kernel_rfl) h
theorem Ka {R:Ending→World→Prop} {RP:List PanicEntry→World→Prop} {g0:FuncId} {cb:List Nat} {cv:List (Option Value)} {w0:World} {p0:Value} {cZ dp du iH jX jY kn ko pU nw lW lX ml mm lv:Int} {nR:Bool} {lu nS:Int} {nT nU mn nV nW nY:Value} {nZ ob:Int} {oc od:Nat} {oe Ec Ed Ee Ef Eg:Int} {Eh Ei:Value} (kU: ∀g,zj Tryz.f15=some g→Idle pg g) (pT:abM pg nC Tryz.f15 #[p0,(.agg #[(I cZ),(I dp),(I du),(I iH),(I jX),(I jY),(I kn),(I ko),(I pU),(I nw),(I lW),(I lX),(I ml),(I mm),(I lv),(B nR),(I lu),(I nS),nT,nU,mn,nV,nW,nY,(I nZ),(I ob),(.float .f64 oc),(.float .f64 od),(I oe),(I Ec),(I Ed),(I Ee),(I Ef),(I Eg),Eh,Ei])]=some (g0,cb,cv)) (qU:PG pg nC Tryz.f15 R g0 cb cv RP) (h:qh (LJ R RP) w0 (ba w0) p0 cZ dp du iH jX jY kn ko pU nw lW lX ml mm lv nR lu nS nT nU mn nV nW nY nZ ob oc od oe Ec Ed Ee Ef Eg Eh Ei):Calls pg 15 #[p0,(.agg #[(I cZ),(I dp),(I du),(I iH),(I jX),(I jY),(I kn),(I ko),(I pU),(I nw),(I lW),(I lX),(I ml),(I mm),(I lv),(B nR),(I lu),(I nS),nT,nU,mn,nV,nW,nY,(I nZ),(I ob),(.float .f64 oc),(.float .f64 od),(I oe),(I Ec),(I Ed),(I Ee),(I Ef),(I Eg),Eh,Ei])] w0 R:=
 Kr (pl:=nC) Tryz.func15 (by kernel_rfl) kU pT qU (by kernel_rfl) h
theorem adz {R:Ending→World→Prop} {w0:World} {p0:Value} (kU: ∀g,zj Tryz.f16=some g→Idle pg g) (hR: ∀ch w,¬R (.panicked ch) w) (h:uN R w0 (ba w0) p0):Calls pg 16 #[p0] w0 R:=
 Kt (pl:=nD) Tryz.func16 (by kernel_rfl) kU hR (by kernel_rfl) h
theorem Kb {R:Ending→World→Prop} {RP:List PanicEntry→World→Prop} {g0:FuncId} {cb:List Nat} {cv:List (Option Value)} {w0:World} {p0:Value} (kU: ∀g,zj Tryz.f16=some g→Idle pg g) (pT:abM pg nD Tryz.f16 #[p0]=some (g0,cb,cv)) (qU:PG pg nD Tryz.f16 R g0 cb cv RP) (h:uN (LJ R RP) w0 (ba w0) p0):Calls pg 16 #[p0] w0 R:=
 Kr (pl:=nD) Tryz.func16 (by kernel_rfl) kU pT qU (by kernel_rfl) h
theorem Fi {R:Ending→World→Prop} {w0:World} {p0:Value} (h:zm R w0 (ba w0) p0):Calls pg 45 #[p0] w0 R:=
 W0 (pl:=RF) Tryz.func45 (by kernel_rfl) (by kernel_rfl) h
end
end Go.Proofs.YtpdkoaklobnegaaGreat
namespace Go.Proofs.YtpdkoaklobnegaaGreat
open Go.Proofs.Tryz renaming prog → pg
open Go.dL
set_option maxRecDepth 100000
set_option maxHeartbeats 1000000
set_option linter.unusedVariables false
set_option linter.unusedSimpArgs false
abbrev BA:=ByteArray
@[ext] structure bE where
 wall:Int
 fi:Int
 node:Int
 deriving DecidableEq
abbrev bE.l (s:bE):List Value:=[I s.wall,I s.fi,I s.node]
abbrev bE.v (s:bE):Value:=.agg #[I s.wall,I s.fi,I s.node]
abbrev bE.zero:bE:=⟨0,0,0⟩
@[ext] structure gf where
 jr:Int
 mA:Int
 sq:Int
 deriving DecidableEq
abbrev gf.l (s:gf):List Value:=[I s.jr,I s.mA,I s.sq]
abbrev gf.v (s:gf):Value:=.agg #[I s.jr,I s.mA,I s.sq]
abbrev gf.zero:gf:=⟨0,0,0⟩
@[ext] structure eQ where
 kind:Int
 num:Nat
 text:BA
 deriving DecidableEq
abbrev eQ.l (x:eQ):List Value:=[I x.kind,.float .f64 x.num,.string x.text]
abbrev eQ.v (x:eQ):Value:=.agg #[I x.kind,.float .f64 x.num,.string x.text]
abbrev eQ.zero:eQ:=⟨0,0,⟨#[]⟩⟩
@[ext] structure KV where
 key:BA
 val:eQ
 deriving DecidableEq
abbrev KV.l (x:KV):List Value:=[.string x.key,I x.val.kind,.float .f64 x.val.num,.string x.val.text]
abbrev KV.v (x:KV):Value:=.agg #[.string x.key,I x.val.kind,.float .f64 x.val.num,.string x.val.text]
abbrev S1 (x:BA):List Value:=[.string x]
abbrev I1 (x:Int):List Value:=[I x]
@[ext] structure kZ where
 aP:bE
 val:eQ
 deriving DecidableEq
abbrev kZ.l (x:kZ):List Value:=[I x.aP.wall,I x.aP.fi,I x.aP.node,I x.val.kind,.float .f64 x.val.num,.string x.val.text]
@[ext] structure jl where
 key:BA
 jV:List kZ
 deriving DecidableEq
abbrev jl.l (h:jl) (vv:Value):List Value:=[.string h.key,vv]
def jl.rd (w:World) (X:XS) (l:List Value) (h:jl):Prop:= ∃vv,l=h.l vv∧Sl w X 6 vv (h.jV.map kZ.l)
@[ext] structure eG where
 cB:gf
 aP:bE
 reads:List BA
 writes:List KV
 deriving DecidableEq
abbrev eG.l (p:eG) (vr vw:Value):List Value:=[I p.cB.jr,I p.cB.mA,I p.cB.sq,I p.aP.wall,I p.aP.fi,I p.aP.node,vr,vw]
abbrev eG.v (p:eG) (vr vw:Value):Value:=.agg #[I p.cB.jr,I p.cB.mA,I p.cB.sq,I p.aP.wall,I p.aP.fi,I p.aP.node,vr,vw]
def eG.rd (w:World) (X:XS) (l:List Value) (p:eG):Prop:= ∃vr vw,l=p.l vr vw∧Sl w X 1 vr (p.reads.map S1)∧Sl w X 4 vw (p.writes.map KV.l)
@[ext] structure l9 where
 id:Int
 ku:Int
 lo:Nat
 hi:Nat
 deriving DecidableEq
abbrev l9.l (r:l9):List Value:=[I r.id,I r.ku,.float .f64 r.lo,.float .f64 r.hi]
abbrev l9.v (r:l9):Value:=.agg #[I r.id,I r.ku,.float .f64 r.lo,.float .f64 r.hi]
@[ext] structure State where
 range:l9
 floor:bE
 closed:bE
 ia:List jl
 g8:List eG
 deriving DecidableEq
abbrev State.l (s:State) (vh vp:Value):List Value:=[I s.range.id,I s.range.ku,.float .f64 s.range.lo,.float .f64 s.range.hi,
 I s.floor.wall,I s.floor.fi,I s.floor.node,I s.closed.wall,I s.closed.fi,I s.closed.node,vh,vp]
abbrev State.v (s:State) (vh vp:Value):Value:=.agg #[I s.range.id,I s.range.ku,.float .f64 s.range.lo,.float .f64 s.range.hi,
 I s.floor.wall,I s.floor.fi,I s.floor.node,I s.closed.wall,I s.closed.fi,I s.closed.node,vh,vp]
abbrev mi (w:World) (X:XS) (v:Value) (l:List jl):Prop:=ic w X 2 v jl.rd l
abbrev lF (w:World) (X:XS) (v:Value) (l:List eG):Prop:=ic w X 8 v eG.rd l
def State.rd (w:World) (X:XS) (l:List Value) (s:State):Prop:= ∃vh vp,l=s.l vh vp∧mi w X vh s.ia∧lF w X vp s.g8
@[ext] structure Rec where
 kind:Int
 cB:gf
 aP:bE
 prev:bE
 jW:Bool
 n:Int
 rq:Nat
 reads:List BA
 writes:List KV
 parts:List Int
 bF:List KV
 state:State
 deriving DecidableEq
abbrev Rec.l (r:Rec) (vr vw vp vq vh vd:Value):List Value:=[I r.kind,I r.cB.jr,I r.cB.mA,I r.cB.sq,I r.aP.wall,I r.aP.fi,I r.aP.node,
 I r.prev.wall,I r.prev.fi,I r.prev.node,B r.jW,I r.n,.float .f64 r.rq,vr,vw,vp,vq,I r.state.range.id,I r.state.range.ku,.float .f64 r.state.range.lo,.float .f64 r.state.range.hi,
 I r.state.floor.wall,I r.state.floor.fi,I r.state.floor.node,I r.state.closed.wall,I r.state.closed.fi,I r.state.closed.node,vh,vd]
abbrev Rec.v (r:Rec) (vr vw vp vq vh vd:Value):Value:=.agg #[I r.kind,I r.cB.jr,I r.cB.mA,I r.cB.sq,I r.aP.wall,I r.aP.fi,I r.aP.node,
 I r.prev.wall,I r.prev.fi,I r.prev.node,B r.jW,I r.n,.float .f64 r.rq,vr,vw,vp,vq,I r.state.range.id,I r.state.range.ku,.float .f64 r.state.range.lo,.float .f64 r.state.range.hi,
 I r.state.floor.wall,I r.state.floor.fi,I r.state.floor.node,I r.state.closed.wall,I r.state.closed.fi,I r.state.closed.node,vh,vd]
def Rec.at (w:World) (X:XS) (r:Rec) (vr vw vp vq vh vd:Value):Prop:=
 Sl w X 1 vr (r.reads.map S1)∧Sl w X 4 vw (r.writes.map KV.l)∧Sl w X 1 vp (r.parts.map I1)∧Sl w X 4 vq (r.bF.map KV.l)∧mi w X vh r.state.ia∧lF w X vd r.state.g8
def Rec.rd (w:World) (X:XS) (l:List Value) (r:Rec):Prop:= ∃vr vw vp vq vh vd,l=r.l vr vw vp vq vh vd∧r.at w X vr vw vp vq vh vd
theorem jl.mv:GK jl.rd:=fun ⟨vv,h,h1⟩ m=>⟨vv,h,h1.mv m⟩
theorem eG.mv:GK eG.rd:=fun ⟨vr,vw,h,h1,h2⟩ m=>⟨vr,vw,h,h1.mv m,h2.mv m⟩
theorem mi.mv {w w':World} {X Y:XS} {v:Value} {l:List jl} (h:mi w X v l) (m:Mv X w Y w'):mi w' Y v l:=ic.mv h jl.mv m
theorem lF.mv {w w':World} {X Y:XS} {v:Value} {l:List eG} (h:lF w X v l) (m:Mv X w Y w'):lF w' Y v l:=ic.mv h eG.mv m
theorem State.mv:GK State.rd:=fun ⟨vh,vp,h,h1,h2⟩ m=>⟨vh,vp,h,ic.mv h1 jl.mv m,ic.mv h2 eG.mv m⟩
theorem Rec.at.mv {w w':World} {X Y:XS} {r:Rec} {vr vw vp vq vh vd:Value} (h:r.at w X vr vw vp vq vh vd) (m:Mv X w Y w'):r.at w' Y vr vw vp vq vh vd:=
 ⟨h.1.mv m,h.2.1.mv m,h.2.2.1.mv m,h.2.2.2.1.mv m,ic.mv h.2.2.2.2.1 jl.mv m,ic.mv h.2.2.2.2.2 eG.mv m⟩
theorem Rec.mv:GK Rec.rd:=fun ⟨vr,vw,vp,vq,vh,vd,h,h1⟩ m=>⟨vr,vw,vp,vq,vh,vd,h,h1.mv m⟩
section
variable {P : Program} {X X0 : XS} {w w0 : World} {N : Value → Prop}
theorem T7 {t:TypeId} {v:Value} {xs:List eG} {i:Nat} {z:Int} {x:eG} (h:lF w0 X0 v xs) (hr:xs[i]? =some x)
  (hz:z=i) (ht:P.underlying t=some (.slice (P.elem t))) (hs:(P.info? (P.elem t)).map (·.size)=some 8)
  (n: ∀b o vr vw,one vr=true→one vw=true→Cells w0 X0 b o (x.l vr vw)→Sl w0 X0 1 vr (x.reads.map S1)→Sl w0 X0 4 vw (x.writes.map KV.l)→N (ptr b o)):aa P X w (dD t 8 v (.int .i64 z)) N:=
 T9 h hr hz ht hs fun b o _ hc ⟨vr,vw,hl,h1,h2⟩=>n b o vr vw h1.one h2.one (hl▸hc) h1 h2
theorem Lr {t:TypeId} {v:Value} {xs:List jl} {i:Nat} {z:Int} {x:jl} (h:mi w0 X0 v xs) (hr:xs[i]? =some x)
  (hz:z=i) (ht:P.underlying t=some (.slice (P.elem t))) (hs:(P.info? (P.elem t)).map (·.size)=some 2)
  (n: ∀b o vv,one vv=true→Cells w0 X0 b o (x.l vv)→Sl w0 X0 6 vv (x.jV.map kZ.l)→N (ptr b o)):aa P X w (dD t 2 v (.int .i64 z)) N:=
 T9 h hr hz ht hs fun b o _ hc ⟨vv,hl,h1⟩=>n b o vv h1.one (hl▸hc) h1
theorem Zz {t:TypeId} {v:Value} {xs:List Rec} {i:Nat} {z:Int} {x:Rec} (h:ic w0 X0 29 v Rec.rd xs) (hr:xs[i]? =some x)
  (hz:z=i) (ht:P.underlying t=some (.slice (P.elem t))) (hs:(P.info? (P.elem t)).map (·.size)=some 29)
  (n: ∀b o vr vw vp vq vh vd,one vr=true→one vw=true→one vp=true→one vq=true→one vh=true→one vd=true→
   Cells w0 X0 b o (x.l vr vw vp vq vh vd)→x.at w0 X0 vr vw vp vq vh vd→N (ptr b o)):aa P X w (dD t 29 v (.int .i64 z)) N:=
 T9 h hr hz ht hs fun b o _ hc ⟨vr,vw,vp,vq,vh,vd,hl,h1⟩=>n b o vr vw vp vq vh vd h1.1.one h1.2.1.one h1.2.2.1.one h1.2.2.2.1.one h1.2.2.2.2.1.one h1.2.2.2.2.2.one (hl▸hc) h1
theorem DB {t:TypeId} {xo yo:Operand} (a b:bE) (h:iZ P t 3=true) (hT:a=b→N (.bool true)) (hF: ¬a=b→N (.bool false)):
  aa P X w (aJ .eql t xo yo a.v b.v) N:=WQ h (fun h1 h2 h3=>hT (bE.ext h1 h2 h3)) fun hn=>hF fun e=>hn (by subst e;exact⟨rfl,rfl,rfl⟩)
theorem aa1 {t:TypeId} {xo yo:Operand} (a b:bE) (h:iZ P t 3=true) (hT: ¬a=b→N (.bool true)) (hF:a=b→N (.bool false)):
  aa P X w (aJ .neq t xo yo a.v b.v) N:=aiO h (fun hn=>hT fun e=>hn (by subst e;exact⟨rfl,rfl,rfl⟩)) fun h1 h2 h3=>hF (bE.ext h1 h2 h3)
theorem xM {t:TypeId} {xo yo:Operand} (a:bE) (h:iZ P t 3=true) (hT:a= .zero→N (.bool true)) (hF: ¬a= .zero→N (.bool false)):
  aa P X w (aJ .eql t xo yo a.v (.agg #[I 0,I 0,I 0])) N:=DB a .zero h hT hF
theorem ads {t:TypeId} {xo yo:Operand} (a:bE) (h:iZ P t 3=true) (hT: ¬a= .zero→N (.bool true)) (hF:a= .zero→N (.bool false)):
  aa P X w (aJ .neq t xo yo a.v (.agg #[I 0,I 0,I 0])) N:=aa1 a .zero h hT hF
theorem akB {t:TypeId} {xo yo:Operand} (a b:gf) (h:iZ P t 3=true) (hT:a=b→N (.bool true)) (hF: ¬a=b→N (.bool false)):
  aa P X w (aJ .eql t xo yo a.v b.v) N:=WQ h (fun h1 h2 h3=>hT (gf.ext h1 h2 h3)) fun hn=>hF fun e=>hn (by subst e;exact⟨rfl,rfl,rfl⟩)
theorem Xv {t:TypeId} {xo yo:Operand} (a:gf) (h:iZ P t 3=true) (hT:a= .zero→N (.bool true)) (hF: ¬a= .zero→N (.bool false)):
  aa P X w (aJ .eql t xo yo a.v (.agg #[I 0,I 0,I 0])) N:=akB a .zero h hT hF
end
def lim:Nat:=2^20
def eG.small (p:eG):Prop:=p.reads.length≤lim∧p.writes.length≤lim
end Go.Proofs.YtpdkoaklobnegaaGreat
namespace Go.Proofs.YtpdkoaklobnegaaGreat
open Go.Proofs.Tryz renaming prog → pg
open Go.dL
set_option maxRecDepth 100000
set_option maxHeartbeats 1000000
set_option linter.unusedVariables false
set_option linter.unusedSimpArgs false
attribute [local irreducible] un jn bq aS bb gy dV dD cK lJ ez kV yC xf gU gH aa ay aD eW eV eU eC eF gE ao fin aR aE aJ vS yD jw jA tq A6 A7 yE A8 yF jx jB tt A9 Ba yG Bb
def bE.cmp (a b:bE):Int:=
 let p:=if a.wall≠b.wall then(a.wall,b.wall)else if a.fi≠b.fi then(a.fi,b.fi)else(a.node,b.node)
 if p.1<p.2 then-1 else if p.1>p.2 then 1 else 0
def gf.less (a b:gf):Bool:=
 if a.jr≠b.jr then a.jr<b.jr else if a.mA≠b.mA then a.mA<b.mA else a.sq<b.sq
def gf.may (a:gf):Bool:=a.jr≥1&&a.jr≤2&&a.mA≥1&&a.sq≥1
def bE.may (a:bE):Bool:=a.wall≥0&&a.wall≤281474976710656&&a.fi≥0&&a.fi≤65535&&a.node≥0&&a.node≤63
def bE.Qo (a:bE):Bool:=a.may&&!decide (a= .zero)
theorem pz (a b:bE):Pure pg 53 #[a.v,b.v] (I (a.cmp b)):=by
 intro w0;apply RG;unfold FO;have hs:=aj.init w0;repeat' first|refine aI ?_;intros|refine de ?_ ?_<;>intros|with_reducible apply cG|(with_reducible refine eY hs ?_);simp_all [bE.cmp]<;>omega
theorem AV (a:gf):Pure pg 238 #[a.v] (B a.may):=by
 intro w0;apply RK;unfold FV;have hs:=aj.init w0;repeat' first|refine aI ?_;intros|refine de ?_ ?_<;>intros|(with_reducible refine eY hs ?_);simp_all [gf.may]<;>omega
theorem oz (a:bE):Pure pg 165 #[a.v] (B a.may):=by
 intro w0;apply abO;unfold Qa;have hs:=aj.init w0;repeat' first|refine aI ?_;intros|refine de ?_ ?_<;>intros|(with_reducible refine eY hs ?_);simp_all [bE.may]<;>omega
theorem TH (n:Int):Pure pg 301 #[I n] (B (decide (n≥1)&&decide (n≤12))):=by
 intro w0;apply RN;unfold F9;have hs:=aj.init w0;repeat' first|refine aI ?_;intros|refine de ?_ ?_<;>intros|(with_reducible refine eY hs ?_);simp_all<;>omega
theorem Iw (a:bE):Pure pg 302 #[a.v] (B a.Qo):=by
 intro w0;apply RO;unfold Ga;have hs:=aj.init w0;repeat' first|refine aI ?_;intros|(with_reducible refine ads _ ?_ ?_ ?_);(· kernel_rfl);all_goals intros|((with_reducible refine dI (oz _) ?_ hs.has ?_ ?_);(· kernel_rfl);all_goals (intro _ w X aq;replace hs:=hs.trans aq))|(with_reducible refine eY hs ?_);simp_all [bE.Qo]
def bE.RU (c:Bool) (a:bE):Bool:=if c then a.Qo else decide (a= .zero)
theorem RV (c:Bool) (a:bE):Pure pg 299 #[B c,a.v] (B (a.RU c)):=by
 intro w0;apply Qm;unfold Ea;have hs:=aj.init w0;repeat' first|refine aI ?_;intros|refine de ?_ ?_<;>intros|(with_reducible refine xM _ ?_ ?_ ?_);(· kernel_rfl);all_goals intros|((with_reducible refine dI (Iw _) ?_ hs.has ?_ ?_);(· kernel_rfl);all_goals (intro _ w X aq;replace hs:=hs.trans aq))|(with_reducible refine eY hs ?_);simp_all [bE.RU]
theorem wC (x:Nat) (wa:World):(callFunc 111 #[.float .f64 x]).run pg wa= .ok (.value (.int .u64 x)) wa:=by kernel_rfl
theorem Xw (x:Int) (wa:World):(callFunc 346 #[.int .u64 x]).run pg wa= .ok (.value (.float .f64 x.toNat)) wa:=by kernel_rfl
theorem RW (a b:Nat):Pure pg 63 #[.float .f64 a,.float .f64 b] (B (decide (a=b))):=by
 intro w0;apply Qg;unfold DY;have hs:=aj.init w0;repeat' first|refine aI ?_;intros|refine de ?_ ?_<;>intros|(with_reducible refine eY hs ?_);simp_all [Int.ofNat_inj]|((with_reducible refine xR (wC _) hs.has ?_);intro w X aq;replace hs:=hs.trans aq)
theorem Qp (a b:eQ):Pure pg 25 #[a.v,b.v] (B (decide (a=b))):=by
 intro w0;apply On;unfold Dc;have hs:=aj.init w0;repeat' first|refine aI ?_;intros|refine de ?_ ?_<;>intros|with_reducible apply cG|((with_reducible refine dI (RW _ _) ?_ hs.has ?_ ?_);(· kernel_rfl);all_goals (intro _ w X aq;replace hs:=hs.trans aq))|(with_reducible refine eY hs ?_);simp_all [eQ.ext_iff]
theorem PO {w:World} {X:XS} {a b:Value} {xs ys:List KV} (ha:Sl w X 4 a (xs.map KV.l)) (hb:Sl w X 4 b (ys.map KV.l)):
  Ct pg 18 #[a,b] w X nX fun v _ _=>v=B (decide (xs=ys)):=by
  intro w0 hk;replace ha:=ha.mv hk.dm;replace hb:=hb.mv hk.dm;have lS:=ha.fQ;apply Om;unfold Db;have hs:=aj.init w0;repeat' first|refine aI ?_;intros|refine de ?_ ?_<;>intros|((first|(with_reducible refine ak hs ?_)|(with_reducible refine ak (bT.trans hs) ?_));intro wa hk;(simp only [B,Value.bool.injEq];symm;rw [decide_eq_false_iff_not];rintro rfl;omega))
  have hlen:xs.length=ys.length:=by omega
  refine fV (fun n a w X=> ∃i:Nat,a=I (i:Nat)∧n=(xs).length-i∧i≤(xs).length∧aj (ba w0) w0 X w∧(xs=ys↔xs.drop i=ys.drop i)) (xs).length ⟨0,rfl,rfl,aN _,hs,by simp⟩ ?_;rintro n a w X ⟨i,rfl,rfl,hi,hs,hw⟩;rcases ej (xs) i with⟨cH,x,hx,hd⟩|⟨eh,hd⟩
  ·obtain⟨y,hy,hdy⟩:=Q8 (xs:=ys) (i:=i) zQ;repeat' first|refine bL ?_;intros|refine de ?_ ?_<;>intros|with_reducible apply cG|((with_reducible refine dI (Qp _ _) ?_ hs.has ?_ ?_);(· kernel_rfl);all_goals (intro _ w X aq;replace hs:=hs.trans aq))|((first|(with_reducible refine ak hs ?_)|(with_reducible refine ak (bT.trans hs) ?_));intro wa hk;(simp_all [KV.ext_iff,eQ.ext_iff]))|((with_reducible refine fF ((xs).length-(i+1)) ?_ ?_);omega;exact⟨i+1,by simp,rfl,by omega,hs,by simp_all [KV.ext_iff,eQ.ext_iff]⟩)
  ·have hdy:=List.drop_of_length_le (l:=ys) (i:=i) zQ;repeat' first|refine bL ?_;intros|((first|(with_reducible refine ak hs ?_)|(with_reducible refine ak (bT.trans hs) ?_));intro wa hk;simp_all)
def gI (s:BA):Bool:=decide ((s.size:Int)≥1)&&decide ((s.size:Int)≤24)
theorem pW (s:BA):Pure pg 312 #[.string s] (B (gI s)):=by
 intro w0;apply Xs;unfold KO;have hs:=aj.init w0;repeat' first|refine aI ?_;intros|refine de ?_ ?_<;>intros|(with_reducible refine eY hs ?_);simp_all [gI]<;>omega
theorem abP (r:l9) (x:Nat):Pure pg 248 #[r.v,.float .f64 x] (B ((PW x r.lo||DU x r.lo)&&Kl x r.hi)):=by
 intro w0;apply YU;unfold M9;have hs:=aj.init w0;repeat' first|refine aI ?_;intros|refine de ?_ ?_<;>intros|(with_reducible refine eY hs ?_);(simp_all<;>grind)
def canon (x:Nat):Nat:=if DU x x then x else 9221120237041090560
theorem Nd (x:Nat):Pure pg 304 #[.float .f64 x] (.float .f64 (canon x)):=by
 intro w0;apply Xr;unfold KN;have hs:=aj.init w0;repeat' first|refine aI ?_;intros|refine de ?_ ?_<;>intros|(with_reducible refine eY hs ?_);simp_all [canon]|((with_reducible refine xR (v:=.float .f64 9221120237041090560) ?_ hs.has ?_);(· intro wa;kernel_rfl);intro w X aq;replace hs:=hs.trans aq)
theorem xE (x:Nat):Pure pg 225 #[.float .f64 x] (.int .u64 (canon x)):=by
 intro w0;apply YS;unfold M7;have hs:=aj.init w0;repeat' first|((with_reducible refine gh (Nd _) ?_ hs.has ?_);(· kernel_rfl);intro w X aq;replace hs:=hs.trans aq)|(with_reducible refine eY hs ?_);rfl|((with_reducible refine xR (wC _) hs.has ?_);intro w X aq;replace hs:=hs.trans aq)
def land (a b:Int):Int:=IntKind.u64.wrap (aQ IntKind.u64.bits a&&& aQ IntKind.u64.bits b).toNat
def GU (a b:Int):Int:=IntKind.u64.wrap (aQ IntKind.u64.bits a^^^aQ IntKind.u64.bits b).toNat
def HE (a n:Int):Int:=a.fdiv (2^min n.toNat IntKind.u64.bits)
def Xx (a b:Int):Int:=IntKind.u64.wrap (a*b)
theorem acS {P:Program} {X:XS} {w:World} {N:Value→Prop} {t:TypeId} {a b:Int} (h:N (.int .u64 (land a b))):aa P X w (binOp .and t (.int .u64 a) (.int .u64 b)) N:=LA h
theorem Qq {P:Program} {X:XS} {w:World} {N:Value→Prop} {t:TypeId} {a b:Int} (h:N (.int .u64 (GU a b))):aa P X w (binOp .xor t (.int .u64 a) (.int .u64 b)) N:=Rn h
theorem KY {P:Program} {X:XS} {w:World} {N:Value→Prop} {t:TypeId} {a b:Int} (hb: ¬b<0) (h:N (.int .u64 (HE a b))):aa P X w (binOp .shr t (.int .u64 a) (.int .u64 b)) N:=B4 hb h
theorem Xy {P:Program} {X:XS} {w:World} {N:Value→Prop} {t:TypeId} {a b:Int} (h:N (.int .u64 (Xx a b))):aa P X w (binOp .mul t (.int .u64 a) (.int .u64 b)) N:=Rm h
def cls (x:Nat):Int:=
 let b:Int:=canon x
 let e:=land (HE b 52) 2047
 let f:=land b 4503599627370495
 if e=2047∧f≠0 then 0 else
  let k:=if e=2047 then 8 else if e>0 then 7 else if f>0 then 6 else 5
  if land b 9223372036854775808≠0 then 9-k else k
theorem Nf (x:Nat):Pure pg 348 #[.float .f64 x] (I (cls x)):=by
 intro w0;apply Xu;unfold KQ;have hs:=aj.init w0;repeat' first|refine aI ?_;intros|refine de ?_ ?_<;>intros|with_reducible apply cG|((with_reducible refine gh (xE _) ?_ hs.has ?_);(· kernel_rfl);intro w X aq;replace hs:=hs.trans aq)|(with_reducible refine eY hs ?_);(simp only [cls] at*;grind)|with_reducible apply acS|(with_reducible apply KY);omega
def Qr:Nat:=4607182418800017408
def Gh (x:Nat):Bool:=decide (cls x≥5)&&(Kl x Qr||DU x Qr)
theorem Ix (x:Nat):Pure pg 314 #[.float .f64 x] (B (Gh x)):=by
 intro w0;apply RQ;unfold Gb;have hs:=aj.init w0;repeat' first|refine aI ?_;intros|refine de ?_ ?_<;>intros|((with_reducible refine gh (Nf _) ?_ hs.has ?_);(· kernel_rfl);intro w X aq;replace hs:=hs.trans aq)|(with_reducible refine eY hs ?_);(simp_all [Gh,Qr]<;>grind)
def B5 (x:Nat):Nat×Int:=if cls x=4 then(0,0)else if Gh x then(x,0)else(0,1)
theorem TJ (x:Nat):Pure pg 300 #[.float .f64 x] (.tuple #[.float .f64 (B5 x).1,I (B5 x).2]):=by
 intro w0;apply RM;unfold FZ;have hs:=aj.init w0;repeat' first|refine aI ?_;intros|refine de ?_ ?_<;>intros|((with_reducible refine dI (Ix _) ?_ hs.has ?_ ?_);(· kernel_rfl);all_goals (intro _ w X aq;replace hs:=hs.trans aq))|((with_reducible refine gh (Nf _) ?_ hs.has ?_);(· kernel_rfl);intro w X aq;replace hs:=hs.trans aq)|(with_reducible refine eY hs ?_);(simp_all [B5]<;>grind)
def l9.may (r:l9):Bool:=decide (r.id≥1)&&decide (r.id≤12)&&decide (r.ku≥0)&&Gh r.lo&&Gh r.hi&&Kl r.lo r.hi
theorem Ng (r:l9):Pure pg 245 #[r.v] (B r.may):=by
 intro w0;apply Xm;unfold KH;have hs:=aj.init w0;repeat' first|refine aI ?_;intros|refine de ?_ ?_<;>intros|with_reducible apply cG|((with_reducible refine dI (Ix _) ?_ hs.has ?_ ?_);(· kernel_rfl);all_goals (intro _ w X aq;replace hs:=hs.trans aq))|(with_reducible refine eY hs ?_);(simp_all [l9.may]<;>omega)
def eQ.may (v:eQ):Bool:=
 if v.kind=0 then decide (v.num=0)&&decide (v.text=⟨#[]⟩)
 else if v.kind=1 then decide (v.text=⟨#[]⟩)&&decide (v.num=canon v.num)
 else if v.kind=2 then decide (v.num=0)&&decide ((v.text.size:Int)≤64)
 else false
theorem lD (v:eQ):Pure pg 158 #[v.v] (B v.may):=by
 intro w0;apply Xg;unfold Kz;have hs:=aj.init w0;repeat' first|refine aI ?_;intros|refine de ?_ ?_<;>intros|with_reducible apply cG|((with_reducible refine gh (xE _) ?_ hs.has ?_);(· kernel_rfl);intro w X aq;replace hs:=hs.trans aq)|(with_reducible refine eY hs ?_);(simp_all [eQ.may]<;>omega)|((with_reducible refine xR (wC _) hs.has ?_);intro w X aq;replace hs:=hs.trans aq)
def Pr (h:Int) (b:UInt8):Int:=Xx (GU h (IntKind.u64.wrap b.toNat)) 1099511628211
def ai3 (h:Int):Nat→Int
 |0=>h
 |1=>Xx (GU h (HE h 33)) 18397679294719823053
 |_=>let g:=Xx (GU h (HE h 33)) 18397679294719823053;Xx (GU g (HE g 33)) 14181476777654086739
def KZ (s:BA):Int:=let h:=ai3 (s.data.toList.foldl Pr 14695981039346656037) 2;GU h (HE h 33)
theorem Xz (s:BA) (alZ:s.size≤2^62):Pure pg 321 #[.string s] (.int .u64 (KZ s)):=by
 intro w0;have dU:=JR s;apply TG;unfold Iv;have hs:=aj.init w0;repeat' first|refine aI ?_;intros
 refine gN (fun n a b w X=> ∃(i:Nat) (h:Int),a=I i∧b= .int .u64 h∧n=s.data.toList.length-i∧i≤s.data.toList.length∧aj (ba w0) w0 X w∧
  s.data.toList.foldl Pr 14695981039346656037=(s.data.toList.drop i).foldl Pr h) s.data.toList.length ?_ ?_
 ·exact⟨0,14695981039346656037,rfl,rfl,rfl,aN _,hs,by rw [ja]⟩
 rintro n a b w X ⟨i,h,rfl,rfl,rfl,hi,hs,hw⟩;rcases ej s.data.toList i with⟨cH,x,hx,hd⟩|⟨eh,hd⟩
 ·repeat' first|refine bL ?_;intros|with_reducible (first|apply Qq|apply Xy)|((with_reducible refine gA ((s.data.toList).length-(i+1)) ?_ ?_);omega;exact⟨i+1,_,by simp,rfl,rfl,by omega,hs,by rw [hw,hd,ib];rfl⟩)
 ·repeat' first|refine bL ?_;intros
  rw [hd] at hw;refine gN (fun n a b w X=> ∃(i:Nat),a=I i∧b= .int .u64 (ai3 h i)∧n=2-i∧i≤2∧aj (ba w0) w0 X w) 2 ⟨0,rfl,rfl,rfl,aN _,hs⟩ ?_;rintro n a b w X ⟨i,rfl,rfl,rfl,hi,hs⟩;obtain rfl|rfl|rfl:i=0∨i=1∨i=2:=by omega
  ·repeat' first|refine bL ?_;intros|(with_reducible apply Qq)|(with_reducible apply Xy)|(with_reducible apply KY);omega|(with_reducible refine gA 1 ?_ ?_);omega;exact⟨1,rfl,rfl,rfl,by omega,hs⟩
  ·repeat' first|refine bL ?_;intros|(with_reducible apply Qq)|(with_reducible apply Xy)|(with_reducible apply KY);omega|(with_reducible refine gA 0 ?_ ?_);omega;exact⟨2,rfl,rfl,rfl,by omega,hs⟩
  ·repeat' first|refine bL ?_;intros|(with_reducible refine eY hs ?_);(simp only [KZ,hw];rfl)|(with_reducible apply Qq)|(with_reducible apply KY);omega
theorem abQ (n:Int): ∃r,floatBits .quo .f64 (floatOfInt .f64 n) 4845873199050653696=some r:=by
 have hn:(Ieee.double.read (floatOfInt .f64 n)).isNaN=false:=WR _ _ _ _;have hd:Ieee.double.read 4845873199050653696= .number false 4503599627370496 1:=by kernel_rfl
 show∃r,((Ieee.double.read (floatOfInt .f64 n)).quotient _ (Ieee.double.read 4845873199050653696)).map _=some r
 rw [hd];cases hr:Ieee.double.read (floatOfInt .f64 n)with
 |number s m p=>simp [uB]
 |infinity s=>simp [uB]
 |nan s f=>rw [hr] at hn;simp [Ieee.Datum.isNaN] at hn
def placeOf (s:BA):Nat:=(floatBits .quo .f64 (floatOfInt .f64 (HE (KZ s) 11)) 4845873199050653696).getD 0
theorem abR (s:BA):floatBits .quo .f64 (floatOfInt .f64 (HE (KZ s) 11)) 4845873199050653696=some (placeOf s):=by
 obtain⟨r,hr⟩:=abQ (HE (KZ s) 11);rw [placeOf,hr];rfl
theorem abS (s:BA) (alZ:s.size≤2^62):Pure pg 249 #[.string s] (.float .f64 (placeOf s)):=by
 intro w0;apply YV;unfold Na;have hs:=aj.init w0;repeat' first|refine aI ?_;intros|((with_reducible refine gh (Xz _ (by first|assumption|omega)) ?_ hs.has ?_);(· kernel_rfl);intro w X aq;replace hs:=hs.trans aq)|(with_reducible refine eY hs ?_);rfl|(with_reducible apply KY);omega|(with_reducible apply ako);(· exact abR s)
def rising (l:List BA):Bool:=chain gI jk none l
def rD (l:List BA):Bool:=rising l&&decide ((l.length:Int)≤16)
theorem YX {w:World} {X:XS} {a:Value} {xs:List BA} (ha:Sl w X 1 a (xs.map S1)):
  Ct pg 322 #[a] w X nX fun v _ _=>v=B (rD xs):=by
 intro w0 hk;replace ha:=ha.mv hk.dm;have lS:=ha.fQ;apply Xt;unfold KP;have hs:=aj.init w0;repeat' first|refine aI ?_;intros
 refine fV (fun n a w X=> ∃i:Nat,a=I (i:Nat)∧n=(xs).length-i∧i≤(xs).length∧aj (ba w0) w0 X w∧chain gI jk none xs=chain gI jk (pK xs i) (xs.drop i)) (xs).length ⟨0,rfl,rfl,aN _,hs,by simp [pK]⟩ ?_;rintro n a w X ⟨i,rfl,rfl,hi,hs,hw⟩;rcases ej (xs) i with⟨cH,x,hx,hd⟩|⟨eh,hd⟩
 ·rcases LF cH with⟨h0,hp⟩|⟨h0,y,hy,hp⟩<;>rw [hp,hd,chain] at hw<;>clear hd
  ·repeat' first|refine bL ?_;intros|((with_reducible refine dI (pW _) ?_ hs.has ?_ ?_);(· kernel_rfl);all_goals (intro _ w X aq;replace hs:=hs.trans aq))|((first|(with_reducible refine ak hs ?_)|(with_reducible refine ak (bT.trans hs) ?_));intro wa hk;simp_all [rD,rising,chain])|((with_reducible refine fF ((xs).length-(i+1)) ?_ ?_);omega;exact⟨i+1,by simp,rfl,by omega,hs,by rw [hw,oy hx];simp [*]⟩)
  ·repeat' first|refine bL ?_;intros|refine de ?_ ?_<;>intros|((with_reducible refine dI (pW _) ?_ hs.has ?_ ?_);(· kernel_rfl);all_goals (intro _ w X aq;replace hs:=hs.trans aq))|((first|(with_reducible refine ak hs ?_)|(with_reducible refine ak (bT.trans hs) ?_));intro wa hk;simp_all [rD,rising,chain])|((with_reducible refine fF ((xs).length-(i+1)) ?_ ?_);omega;exact⟨i+1,by simp,rfl,by omega,hs,by rw [hw,oy hx];simp [*]⟩)
 ·repeat' first|refine bL ?_;intros|refine de ?_ ?_<;>intros|((first|(with_reducible refine ak hs ?_)|(with_reducible refine ak (bT.trans hs) ?_));intro wa hk;simp_all [rD,rising,chain]<;>omega)
def K0 (l:List KV):Bool:=rD (l.map (·.key))&&l.all (·.val.may)
theorem Ov {w:World} {X:XS} {a:Value} {xs:List KV} (ha:Sl w X 4 a (xs.map KV.l)) (hb:xs.length≤2^40):
  Ct pg 323 #[a] w X nX fun v wa w'=>Own w' (made wa w') wa.heap.size 9 1 v ((xs.map (·.key)).map S1):=by
 intro w0 hk;replace ha:=ha.mv hk.dm;have lS:=ha.fQ;apply Mo;unfold BI;have hs:=aj.init w0;repeat' first|refine aI ?_;intros
 refine gN (fun n a b w X=> ∃i:Nat,a=I i∧n=xs.length-i∧i≤xs.length∧aj (ba w0) w0 X w∧Own w X w0.heap.size 9 1 b (((xs.take i).map (·.key)).map S1)) xs.length ⟨0,rfl,rfl,aN _,hs,Own.nil _ _ _ _ _⟩ ?_;rintro n a b w X ⟨i,rfl,rfl,hi,hs,ho⟩;rcases ej (xs) i with⟨cH,x,hx,hd⟩|⟨eh,hd⟩
 ·repeat' first|refine bL ?_;intros|((with_reducible apply Lv);(case own=>first|assumption|exact Own.since (by assumption) (by assumption));(case hs=>assumption);(case h0=>first|exact fun _ h=>h|exact bT.has);(case he=>kernel_rfl);(case hk=>rfl);(case ho=>first|rfl|assumption);(case hb=>(simp only [aG,bp,ae,aY,bz];omega));(case hl=>(simp only [aG,bp,ae,aY,bz];omega));intro acc w X aq ho hc fm;replace hs:=aq)|((with_reducible refine gA ((xs).length-(i+1)) ?_ ?_);omega;exact⟨i+1,by simp,rfl,by omega,hs,by rw [ca,hx];simpa using ho⟩)
 ·repeat' first|refine bL ?_;intros|((first|(with_reducible refine ak hs ?_)|(with_reducible refine ak (bT.trans hs) ?_));intro wa hk;(rw [bN eh] at ho;exact(ho.kp hk).tight))
def eG.err (p:eG):Int:=
 if !p.cB.may then 4 else if !p.aP.may||decide (p.aP= .zero)then 17
 else if !rD p.reads||!rD (p.writes.map (·.key))then 4
 else if p.writes.all (·.val.may)then 0 else 4
theorem uT {w:World} {X:XS} {p:eG} {vr vw:Value} (h1:Sl w X 1 vr (p.reads.map S1)) (h2:Sl w X 4 vw (p.writes.map KV.l)) (hb:p.writes.length≤2^40):
  Ct pg 250 #[p.v vr vw] w X nX fun v _ _=>v=I p.err:=by
 intro w0 hk;replace h1:=h1.mv hk.dm;replace h2:=h2.mv hk.dm;have lS:=h2.fQ;apply KX;unfold AD;have hs:=aj.init w0;repeat' first|refine aI ?_;intros|(with_reducible refine xM _ ?_ ?_ ?_);(· kernel_rfl);all_goals intros|with_reducible apply cG|((with_reducible refine dI (oz _) ?_ hs.has ?_ ?_);(· kernel_rfl);all_goals (intro _ w X aq;replace hs:=hs.trans aq))|((with_reducible refine dI (AV _) ?_ hs.has ?_ ?_);(· kernel_rfl);all_goals (intro _ w X aq;replace hs:=hs.trans aq))|((first|(with_reducible refine ak hs ?_)|(with_reducible refine ak (bT.trans hs) ?_));intro wa hk;simp_all [eG.err])|(refine gJ (YX  qA) kQ hs.has ?_ ?_<;>(intro _ w X aq;replace hs:=hs.trans aq))|(refine cJ (Ov  qA qA) kQ hs.has ?_;rintro v1 wa w X s7 hle fU aq;have fv:=ah hs.kp.size hle;replace hs:=hs.trans aq;replace s7:=s7.up fU fv)
 refine fV (fun n a w X=> ∃i:Nat,a=I (i:Nat)∧n=(p.writes).length-i∧i≤(p.writes).length∧aj (ba w0) w0 X w∧p.writes.all (·.val.may)=(p.writes.drop i).all (·.val.may)) (p.writes).length ⟨0,rfl,rfl,aN _,hs,by simp⟩ ?_;rintro n a w X ⟨i,rfl,rfl,hi,hs,hw⟩;rcases ej (p.writes) i with⟨cH,x,hx,hd⟩|⟨eh,hd⟩
 ·repeat' first|refine bL ?_;intros|((with_reducible refine dI (lD _) ?_ hs.has ?_ ?_);(· kernel_rfl);all_goals (intro _ w X aq;replace hs:=hs.trans aq))|((first|(with_reducible refine ak hs ?_)|(with_reducible refine ak (bT.trans hs) ?_));intro wa hk;simp_all [eG.err])|((with_reducible refine fF ((p.writes).length-(i+1)) ?_ ?_);omega;exact⟨i+1,by simp,rfl,by omega,hs,by rw [hw,hd];simp [*]⟩)
 ·repeat' first|refine bL ?_;intros|((first|(with_reducible refine ak hs ?_)|(with_reducible refine ak (bT.trans hs) ?_));intro wa hk;simp_all [eG.err])
def zy (l:List Int):Bool:=chain (fun n=>decide (n≥1)&&decide (n≤12)) (fun a b=>decide (a<b)) none l&&decide (l≠[])
theorem K3 {w:World} {X:XS} {a:Value} {xs:List Int} (ha:Sl w X 1 a (xs.map I1)):
  Ct pg 243 #[a] w X nX fun v _ _=>v=B (zy xs):=by
 intro w0 hk;replace ha:=ha.mv hk.dm;have lS:=ha.fQ;apply TC;unfold Ir;have hs:=aj.init w0;repeat' first|refine aI ?_;intros
 refine fV (fun n a w X=> ∃i:Nat,a=I (i:Nat)∧n=(xs).length-i∧i≤(xs).length∧aj (ba w0) w0 X w∧chain (fun n=>decide (n≥1)&&decide (n≤12)) (fun a b=>decide (a<b)) none xs=chain (fun n=>decide (n≥1)&&decide (n≤12)) (fun a b=>decide (a<b)) (pK xs i) (xs.drop i)) (xs).length ⟨0,rfl,rfl,aN _,hs,by simp [pK]⟩ ?_;rintro n a w X ⟨i,rfl,rfl,hi,hs,hw⟩;rcases ej (xs) i with⟨cH,x,hx,hd⟩|⟨eh,hd⟩
 ·rcases LF cH with⟨h0,hp⟩|⟨h0,y,hy,hp⟩<;>rw [hp,hd,chain] at hw<;>clear hd
  ·repeat' first|refine bL ?_;intros|refine de ?_ ?_<;>intros|((first|(with_reducible refine ak hs ?_)|(with_reducible refine ak (bT.trans hs) ?_));intro wa hk;(simp_all [zy,chain]<;>omega))|((with_reducible refine fF ((xs).length-(i+1)) ?_ ?_);omega;exact⟨i+1,by simp,rfl,by omega,hs,by rw [hw,oy hx];simp_all<;>omega⟩)
  ·repeat' first|refine bL ?_;intros|refine de ?_ ?_<;>intros|((first|(with_reducible refine ak hs ?_)|(with_reducible refine ak (bT.trans hs) ?_));intro wa hk;(simp_all [zy,chain]<;>omega))|((with_reducible refine fF ((xs).length-(i+1)) ?_ ?_);omega;exact⟨i+1,by simp,rfl,by omega,hs,by rw [hw,oy hx];simp_all<;>omega⟩)
 ·repeat' first|refine bL ?_;intros|refine de ?_ ?_<;>intros|((first|(with_reducible refine ak hs ?_)|(with_reducible refine ak (bT.trans hs) ?_));intro wa hk;(simp_all [zy,chain]<;>grind))
def sw (l:List KV):Bool:=chain (fun x=>gI x.key&&x.val.may&&decide (x.val.kind≠0)) (fun a b=>jk a.key b.key) none l
theorem XA {w:World} {X:XS} {a:Value} {xs:List KV} (ha:Sl w X 4 a (xs.map KV.l)):
  Ct pg 303 #[a] w X nX fun v _ _=>v=B (sw xs):=by
 intro w0 hk;replace ha:=ha.mv hk.dm;have lS:=ha.fQ;apply TD;unfold Is;have hs:=aj.init w0;repeat' first|refine aI ?_;intros
 refine fV (fun n a w X=> ∃i:Nat,a=I (i:Nat)∧n=(xs).length-i∧i≤(xs).length∧aj (ba w0) w0 X w∧sw xs=chain (fun x=>gI x.key&&x.val.may&&decide (x.val.kind≠0)) (fun a b=>jk a.key b.key) (pK xs i) (xs.drop i)) (xs).length ⟨0,rfl,rfl,aN _,hs,by simp [pK,sw]⟩ ?_;rintro n a w X ⟨i,rfl,rfl,hi,hs,hw⟩;rcases ej (xs) i with⟨cH,x,hx,hd⟩|⟨eh,hd⟩
 ·rcases LF cH with⟨h0,hp⟩|⟨h0,y,hy,hp⟩<;>rw [hp,hd,chain] at hw<;>clear hd
  ·repeat' first|refine bL ?_;intros|refine de ?_ ?_<;>intros|with_reducible apply cG|((with_reducible refine dI (lD _) ?_ hs.has ?_ ?_);(· kernel_rfl);all_goals (intro _ w X aq;replace hs:=hs.trans aq))|((with_reducible refine dI (pW _) ?_ hs.has ?_ ?_);(· kernel_rfl);all_goals (intro _ w X aq;replace hs:=hs.trans aq))|((first|(with_reducible refine ak hs ?_)|(with_reducible refine ak (bT.trans hs) ?_));intro wa hk;(simp_all [chain]<;>omega))|((with_reducible refine fF ((xs).length-(i+1)) ?_ ?_);omega;exact⟨i+1,by simp,rfl,by omega,hs,by rw [hw,oy hx];simp_all<;>omega⟩)
  ·repeat' first|refine bL ?_;intros|refine de ?_ ?_<;>intros|with_reducible apply cG|((with_reducible refine dI (lD _) ?_ hs.has ?_ ?_);(· kernel_rfl);all_goals (intro _ w X aq;replace hs:=hs.trans aq))|((with_reducible refine dI (pW _) ?_ hs.has ?_ ?_);(· kernel_rfl);all_goals (intro _ w X aq;replace hs:=hs.trans aq))|((first|(with_reducible refine ak hs ?_)|(with_reducible refine ak (bT.trans hs) ?_));intro wa hk;(simp_all [chain]<;>omega))|((with_reducible refine fF ((xs).length-(i+1)) ?_ ?_);omega;exact⟨i+1,by simp,rfl,by omega,hs,by rw [hw,oy hx];simp_all<;>omega⟩)
 ·repeat' first|refine bL ?_;intros|((first|(with_reducible refine ak hs ?_)|(with_reducible refine ak (bT.trans hs) ?_));intro wa hk;(simp_all [chain]<;>grind))
abbrev l9.zero:l9:=⟨0,0,0,0⟩
abbrev State.zero:State:=⟨.zero,.zero,.zero,[],[]⟩
def State.isZero (s:State):Bool:=decide (s.range= .zero)&&decide (s.floor= .zero)&&decide (s.closed= .zero)&&decide (s.ia=[])&&decide (s.g8=[])
theorem Ox {w:World} {X:XS} {s:State} {vh vp:Value} (h1:mi w X vh s.ia) (h2:lF w X vp s.g8):
  Ct pg 298 #[s.v vh vp] w X nX fun v _ _=>v=B s.isZero:=by
 intro w0 hk;replace h1:=h1.mv hk.dm;replace h2:=h2.mv hk.dm;apply Mm;unfold BG;have hs:=aj.init w0;repeat' first|refine aI ?_;intros|refine de ?_ ?_<;>intros|(with_reducible refine xM _ ?_ ?_ ?_);(· kernel_rfl);all_goals intros|with_reducible apply cG|((first|(with_reducible refine ak hs ?_)|(with_reducible refine ak (bT.trans hs) ?_));intro wa hk;(simp_all [State.isZero,l9.ext_iff]))|((with_reducible refine xR (wC _) hs.has ?_);intro w X aq;replace hs:=hs.trans aq)
def Rec.isZero (r:Rec):Bool:=decide (r.cB= .zero)&&decide (r.aP= .zero)&&decide (r.prev= .zero)&&!r.jW&&decide (r.n=0)&&decide (r.rq=0)&&
 decide (r.reads=[])&&decide (r.writes=[])&&decide (r.parts=[])&&decide (r.bF=[])&&r.state.isZero
theorem YY {w:World} {X:XS} {r:Rec} {vr vw vp vq vh vd:Value} (h:r.at w X vr vw vp vq vh vd):
  Ct pg 223 #[r.v vr vw vp vq vh vd] w X nX fun v _ _=>v=B r.isZero:=by
 intro w0 hk;obtain⟨h1,h2,h3,h4,h5,h6⟩:=h.mv hk.dm;apply Xi;unfold KD;have hs:=aj.init w0;cases hc:r.jW<;>
 repeat' first|refine aI ?_;intros|refine de ?_ ?_<;>intros|(with_reducible refine xM _ ?_ ?_ ?_);(· kernel_rfl);all_goals intros|(with_reducible refine Xv _ ?_ ?_ ?_);(· kernel_rfl);all_goals intros|with_reducible apply cG|((first|(with_reducible refine ak hs ?_)|(with_reducible refine ak (bT.trans hs) ?_));intro wa hk;(simp_all [Rec.isZero]))|((with_reducible refine xR (wC _) hs.has ?_);intro w X aq;replace hs:=hs.trans aq)|(refine gJ (Ox  (s:=r.state) qA qA) kQ hs.has ?_ ?_<;>(intro _ w X aq;replace hs:=hs.trans aq))
def Rec.strip (r:Rec):Rec×Bool:=
 if r.kind=1 then({ r with state:=.zero },true)
 else if r.kind=2∨r.kind=7∨r.kind=8 then({ r with n:=0 },true)
 else if r.kind=3 then({ r with cB:=.zero,aP:=.zero,reads:=[],writes:=[],parts:=[] },true)
 else if r.kind=4 then({ r with cB:=.zero,jW:=false,aP:=.zero },true)
 else if r.kind=5 then({ r with aP:=.zero },true)
 else if r.kind=6 then({ r with rq:=0,n:=0,aP:=.zero },true)
 else if r.kind=9 then({ r with cB:=.zero,aP:=.zero,parts:=[] },true)
 else if r.kind=10 then({ r with cB:=.zero },true)
 else if r.kind=11 then({ r with prev:=.zero,aP:=.zero,cB:=.zero,writes:=[] },true)
 else if r.kind=12 then({ r with aP:=.zero,bF:=[] },true)
 else(r,false)
theorem RX {w:World} {X:XS} {r:Rec} {vr vw vp vq vh vd:Value} (h:r.at w X vr vw vp vq vh vd):
  Ct pg 222 #[r.v vr vw vp vq vh vd] w X nX fun v _ _=> ∃XB XC XD vq' XE XF,v= .tuple #[r.strip.1.v XB XC XD vq' XE XF,B r.strip.2]∧
   r.strip.1.at w X XB XC XD vq' XE XF:=by
 intro w0 hk;obtain⟨h1,h2,h3,h4,h5,h6⟩:=h;have o1:=h1.one;have o2:=h2.one;have o3:=h3.one;have o4:=h4.one;have o5:=h5.one;have o6:=h6.one;apply Qk;unfold D8;have hs:=aj.init w0;have n1:Sl w X 1 (.slice none 0 0) (([]:List BA).map S1):=Sl.nil _ _ _;have n2:Sl w X 4 (.slice none 0 0) (([]:List KV).map KV.l):=Sl.nil _ _ _;have n3:Sl w X 1 (.slice none 0 0) (([]:List Int).map I1):=Sl.nil _ _ _;have n4:mi w X (.slice none 0 0) []:=ic.nil _ _ _;have n5:lF w X (.slice none 0 0) []:=ic.nil _ _ _;repeat' first|refine aI ?_;intros|refine de ?_ ?_<;>intros|with_reducible apply cG
 all_goals
  refine ak hs ?_;intro wa aM;unfold Rec.strip;repeat (first|rw [if_pos zQ]|rw [if_neg zQ])
  exact⟨_,_,_,_,_,_,rfl,by assumption,by assumption,by assumption,by assumption,by assumption,by assumption⟩
theorem TK {w:World} {X:XS} {a:Value} {xs:List BA} (ha:Sl w X 1 a (xs.map S1)) (hb:xs.length≤2^40):
  Ct pg 353 #[a] w X nX fun v wa w'=>Own w' (made wa w') wa.heap.size 9 1 v (xs.map S1):=by
  intro w0 hk;replace ha:=ha.mv hk.dm;apply wA;unfold oR;have hs:=aj.init w0;repeat' first|refine aI ?_;intros|refine de ?_ ?_<;>intros|(with_reducible apply DH);(case hX=>exact hs.has);(case hu=>kernel_rfl);(case hz=>kernel_rfl);intro acc w X aq ho;replace hs:=hs.trans aq|((first|(with_reducible refine ak hs ?_)|(with_reducible refine ak (bT.trans hs) ?_));intro wa hk;(first|(rename_i h1 h2;(first|(rw [h2])|skip);exact Own.nil _ _ _ _ _)|exact(ho.kp hk).tight))|((with_reducible apply xv);(case own=>assumption);(case hs=>assumption);(case h0=>exact fun _ h=>h);(case he=>kernel_rfl);(case src=>exact Sl.mv ha (aj.mv hs));(case h1=>simp [one]);(case hb=>simp;omega);(case hl=>simp;omega);intro acc w X aq ho hc fm;replace hs:=aq;rw [cT] at ho)
theorem Fb {w:World} {X:XS} {a:Value} {xs:List KV} (ha:Sl w X 4 a (xs.map KV.l)) (hb:xs.length≤2^40):
  Ct pg 60 #[a] w X nX fun v wa w'=>Own w' (made wa w') wa.heap.size 53 4 v (xs.map KV.l):=by
  intro w0 hk;replace ha:=ha.mv hk.dm;apply sP;unfold my;have hs:=aj.init w0;repeat' first|refine aI ?_;intros|refine de ?_ ?_<;>intros|(with_reducible apply DH);(case hX=>exact hs.has);(case hu=>kernel_rfl);(case hz=>kernel_rfl);intro acc w X aq ho;replace hs:=hs.trans aq|((first|(with_reducible refine ak hs ?_)|(with_reducible refine ak (bT.trans hs) ?_));intro wa hk;(first|(rename_i h1 h2;(first|(rw [h2])|skip);exact Own.nil _ _ _ _ _)|exact(ho.kp hk).tight))|((with_reducible apply xv);(case own=>assumption);(case hs=>assumption);(case h0=>exact fun _ h=>h);(case he=>kernel_rfl);(case src=>exact Sl.mv ha (aj.mv hs));(case h1=>simp [one]);(case hb=>simp;omega);(case hl=>simp;omega);intro acc w X aq ho hc fm;replace hs:=aq;rw [cT] at ho)
theorem Oy {w:World} {X:XS} {a:Value} {xs:List kZ} (ha:Sl w X 6 a (xs.map kZ.l)) (hb:xs.length≤2^40):
  Ct pg 317 #[a] w X nX fun v wa w'=>Own w' (made wa w') wa.heap.size 337 6 v (xs.map kZ.l):=by
  intro w0 hk;replace ha:=ha.mv hk.dm;apply qP;unfold lq;have hs:=aj.init w0;repeat' first|refine aI ?_;intros|refine de ?_ ?_<;>intros|(with_reducible apply DH);(case hX=>exact hs.has);(case hu=>kernel_rfl);(case hz=>kernel_rfl);intro acc w X aq ho;replace hs:=hs.trans aq|((first|(with_reducible refine ak hs ?_)|(with_reducible refine ak (bT.trans hs) ?_));intro wa hk;(first|(rename_i h1 h2;(first|(rw [h2])|skip);exact Own.nil _ _ _ _ _)|exact(ho.kp hk).tight))|((with_reducible apply xv);(case own=>assumption);(case hs=>assumption);(case h0=>exact fun _ h=>h);(case he=>kernel_rfl);(case src=>exact Sl.mv ha (aj.mv hs));(case h1=>simp [one]);(case hb=>simp;omega);(case hl=>simp;omega);intro acc w X aq ho hc fm;replace hs:=aq;rw [cT] at ho)
theorem TL {w:World} {X:XS} {a:Value} {xs:List BA} {k:BA} (ha:Sl w X 1 a (xs.map S1)):
  Ct pg 371 #[a,.string k] w X nX fun v _ _=>v=I (idxOf (fun x=>decide (k=x)) xs):=by
 intro w0 hk;replace ha:=ha.mv hk.dm;have lS:=ha.fQ;apply wB;unfold oS;have hs:=aj.init w0;repeat' first|refine aI ?_;intros
 refine fV (fun n a w X=> ∃i:Nat,a=I (i:Nat)∧n=(xs).length-i∧i≤(xs).length∧aj (ba w0) w0 X w∧(∀(j:Nat) x,j<i→xs[j]? =some x→decide (k=x)=false)) (xs).length ⟨0,rfl,rfl,aN _,hs,by simp⟩ ?_;rintro n a w X ⟨i,rfl,rfl,hi,hs,hw⟩;rcases ej (xs) i with⟨cH,x,hx,hd⟩|⟨eh,hd⟩
 ·repeat' first|refine bL ?_;intros|refine de ?_ ?_<;>intros|((first|(with_reducible refine ak hs ?_)|(with_reducible refine ak (bT.trans hs) ?_));intro wa hk;(rw [WU hw hx (by simpa)]))|((with_reducible refine fF ((xs).length-(i+1)) ?_ ?_);omega;exact⟨i+1,by simp,rfl,by omega,hs,fun j y hj hy=>by rcases Nat.lt_succ_iff_lt_or_eq.1 hj with h|h;exact hw j y h hy;subst h;rw [hx] at hy;cases hy;simpa⟩)
 ·repeat' first|refine bL ?_;intros|((first|(with_reducible refine ak hs ?_)|(with_reducible refine ak (bT.trans hs) ?_));intro wa hk;(rw [PY fun j x hj hx=>hw j x zQ hx]))
theorem Oz {w:World} {X:XS} {a:Value} {xs:List BA} {k:BA} (ha:Sl w X 1 a (xs.map S1)):
  Ct pg 351 #[a,.string k] w X nX fun v _ _=>v=B (xs.any fun x=>decide (k=x)):=by
 intro w0 hk;replace ha:=ha.mv hk.dm;apply uk;unfold nh;have hs:=aj.init w0;repeat' first|refine aI ?_;intros|refine de ?_ ?_<;>intros|((first|(with_reducible refine ak hs ?_)|(with_reducible refine ak (bT.trans hs) ?_));intro wa hk;(rw [←Kn];simp [*]))|(refine dy (TL  qA) kQ hs.has ?_;intro w X aq;replace hs:=hs.trans aq)
theorem K4 {w:World} {X:XS} {a:Value} {xs:List KV} {f:FuncId} {cs:List Value} {p:KV→Bool} (ha:Sl w X 4 a (xs.map KV.l)) (hX: ∀k,X k→k<w.heap.size) (hf:enters pg f=true)
  (hp: ∀x,Ct pg f ((.agg x.l.toArray)::cs).toArray w X nX fun v _ _=>v=B (p x)):
  Ct pg 379 #[a,.func (.func f) #[] cs.toArray] w X nX fun v _ _=>v=I (idxOf p xs):=by
 intro w0 hk;replace ha:=ha.mv hk.dm;replace hp:=fun x=>((hp x).kp hk).ba fun k hx=>aK (hX k hx) hk.size;have lS:=ha.fQ;apply qL;unfold lp;have hs:=aj.init w0;repeat' first|refine aI ?_;intros
 refine fV (fun n a w X=> ∃i:Nat,a=I (i:Nat)∧n=(xs).length-i∧i≤(xs).length∧aj (ba w0) w0 X w∧(∀(j:Nat) x,j<i→xs[j]? =some x→p x=false)) (xs).length ⟨0,rfl,rfl,aN _,hs,by simp⟩ ?_;rintro n a w X ⟨i,rfl,rfl,hi,hs,hw⟩;rcases ej (xs) i with⟨cH,x,hx,hd⟩|⟨eh,hd⟩
 ·repeat' first|refine bL ?_;intros|((first|(with_reducible refine ak hs ?_)|(with_reducible refine ak (bT.trans hs) ?_));intro wa hk;(rw [WU hw hx ‹_›]))|((with_reducible refine fF ((xs).length-(i+1)) ?_ ?_);omega;exact⟨i+1,by simp,rfl,by omega,hs,fun j y hj hy=>by rcases Nat.lt_succ_iff_lt_or_eq.1 hj with h|h;exact hw j y h hy;subst h;rw [hx] at hy;cases hy;assumption⟩)|(refine gJ ((hp x).since hs) hf hs.has ?_ ?_<;>(intro _ w X aq;replace hs:=hs.trans aq))
 ·repeat' first|refine bL ?_;intros|((first|(with_reducible refine ak hs ?_)|(with_reducible refine ak (bT.trans hs) ?_));intro wa hk;(rw [PY fun j x hj hx=>hw j x zQ hx]))
theorem Gi {w:World} {X:XS} {a:Value} {xs:List KV} {f:FuncId} {cs:List Value} {p:KV→Bool} (ha:Sl w X 4 a (xs.map KV.l)) (hX: ∀k,X k→k<w.heap.size) (hf:enters pg f=true)
  (hp: ∀x,Ct pg f ((.agg x.l.toArray)::cs).toArray w X nX fun v _ _=>v=B (p x)):
  Ct pg 369 #[a,.func (.func f) #[] cs.toArray] w X nX fun v _ _=>v=B (xs.any p):=by
 intro w0 hk;replace ha:=ha.mv hk.dm;replace hp:=fun x=>((hp x).kp hk).ba fun k hx=>aK (hX k hx) hk.size;apply pL;unfold kA;have hs:=aj.init w0;repeat' first|refine aI ?_;intros|refine de ?_ ?_<;>intros|((first|(with_reducible refine ak hs ?_)|(with_reducible refine ak (bT.trans hs) ?_));intro wa hk;(rw [←Kn];simp [*]))|(refine dy (K4 ha hs.has hf hp) kQ hs.has ?_;intro w X aq;replace hs:=hs.trans aq)
def tle (a b:BA):Bool:=jk a b||decide (a=b)
def zz:bE→List kZ→Bool
 |_,[]=>true
 |s,v::r=>v.aP.may&&decide (v.aP.cmp s>0)&&v.val.may&&zz v.aP r
def jl.ok (h:jl) (ahead:BA):Bool:=gI h.key&&!tle h.key ahead&&decide (h.jV≠[])&&zz .zero h.jV
theorem RY {w:World} {X:XS} {h:jl} {vv:Value} {ahead:BA} (ha:Sl w X 6 vv (h.jV.map kZ.l)):
  Ct pg 316 #[.agg (h.l vv).toArray,.string ahead] w X nX fun v _ _=>v=B (h.ok ahead):=by
 intro w0 hk;replace ha:=ha.mv hk.dm;have lS:=ha.fQ;apply Qn;unfold Eb;have hs:=aj.init w0;repeat' first|refine aI ?_;intros|refine de ?_ ?_<;>intros|((with_reducible refine dI (pW _) ?_ hs.has ?_ ?_);(· kernel_rfl);all_goals (intro _ w X aq;replace hs:=hs.trans aq))|((first|(with_reducible refine ak hs ?_)|(with_reducible refine ak (bT.trans hs) ?_));intro wa hk;(simp_all [jl.ok,tle]<;>grind))
 refine gN (fun n a b w X=> ∃(i:Nat) (s:bE),a=I i∧b=s.v∧n=h.jV.length-i∧i≤h.jV.length∧aj (ba w0) w0 X w∧zz .zero h.jV=zz s (h.jV.drop i)) h.jV.length
  ⟨0,.zero,rfl,rfl,rfl,aN _,hs,by simp⟩ ?_
 rintro n a b w X ⟨i,s,rfl,rfl,rfl,hi,hs,hw⟩;have cU:h.jV≠[]:=by intro e;simp_all
 rcases ej (h.jV) i with⟨cH,x,hx,hd⟩|⟨eh,hd⟩
 ·rw [hd,zz] at hw;clear hd;repeat' first|refine bL ?_;intros|refine de ?_ ?_<;>intros|with_reducible apply cG|((with_reducible refine gh (pz _ _) ?_ hs.has ?_);(· kernel_rfl);intro w X aq;replace hs:=hs.trans aq)|((with_reducible refine dI (lD _) ?_ hs.has ?_ ?_);(· kernel_rfl);all_goals (intro _ w X aq;replace hs:=hs.trans aq))|((with_reducible refine dI (oz _) ?_ hs.has ?_ ?_);(· kernel_rfl);all_goals (intro _ w X aq;replace hs:=hs.trans aq))|((first|(with_reducible refine ak hs ?_)|(with_reducible refine ak (bT.trans hs) ?_));intro wa hk;(simp_all [jl.ok,tle]<;>grind))|((with_reducible refine gA ((h.jV).length-(i+1)) ?_ ?_);omega;exact⟨i+1,x.aP,by simp,rfl,rfl,by omega,hs,by simp_all⟩)
 ·repeat' first|refine bL ?_;intros|((first|(with_reducible refine ak hs ?_)|(with_reducible refine ak (bT.trans hs) ?_));intro wa hk;(simp_all [jl.ok,tle,zz]<;>grind))
def eG.has (p:eG) (k:BA):Bool:=p.writes.any fun w=>decide (w.key=k)
theorem OA {w:World} {X:XS} {x:KV} {k:BA} {b:Nat} (h:Cells w X b 0 [.string k]):
  Ct pg 370 #[.agg x.l.toArray,ptr b 0] w X nX fun v _ _=>v=B (decide (x.key=k)):=by
 intro w0 hk;replace h:=h.mv hk.dm;apply Md;unfold Bw;have hs:=aj.init w0;repeat' first|refine aI ?_;intros|refine de ?_ ?_<;>intros|((first|(with_reducible refine ak hs ?_)|(with_reducible refine ak (bT.trans hs) ?_));intro wa hk;simp_all)
theorem Iy {w:World} {X:XS} {p:eG} {vr vw:Value} {k:BA} (hX: ∀k,X k→k<w.heap.size) (h2:Sl w X 4 vw (p.writes.map KV.l)):
  Ct pg 350 #[p.v vr vw,.string k] w X nX fun v _ _=>v=B (p.has k):=by
 intro w0 hk;replace h2:=h2.mv hk.dm;apply RR;unfold Gd;have hs:=aj.init w0;repeat' first|refine aI ?_;intros|(with_reducible apply rY);(case ho=>rfl);(case hX=>exact hs.has);intro bx w X gT aq dA;have bT:=hs.trans aq;replace hs:=aj.dY aq.has|((first|(with_reducible refine ak hs ?_)|(with_reducible refine ak (bT.trans hs) ?_));intro wa hk;(simp [eG.has]))|(refine dy (Gi (p:=fun x=>decide (x.key=k)) (h2.mv (aj.mv (bT.trans hs))) hs.has kQ fun x=>OA (x:=x) (by first|exact dA.cells)) kQ hs.has ?_;intro w X aq;replace hs:=hs.trans aq)
theorem aag:xS pg 33 (fun k:gf=>k.v):=
 ae8 (n:=3) kQ (fun k:gf=>[k.jr,k.mA,k.sq]) (fun _=>rfl) (fun a b h=>by
  simp only [List.cons.injEq,and_true] at h;exact gf.ext h.1 h.2.1 h.2.2)
theorem XG:xS pg 9 (fun s:BA=>cu s):=rz kQ
def pM (w:World) (A:XS) (v:Value) (l:List kZ):Prop:=Sl w A 6 v (l.map kZ.l)
def oT (w:World) (A:XS) (v:Value) (p:eG):Prop:= ∃vr vw,v=p.v vr vw∧Sl w A 1 vr (p.reads.map S1)∧Sl w A 4 vw (p.writes.map KV.l)
theorem pM.mv:tu pM:=fun _ _ _ _ _ _ h m=>Sl.mv h m
theorem oT.mv:tu oT:=fun _ _ _ _ _ _ ⟨vr,vw,h,h1,h2⟩ m=>⟨vr,vw,h,h1.mv m,h2.mv m⟩
structure kc (w:World) (X A:XS) (sb kb pb:Nat) (hm:List (BA×List kZ)) (pm:List (gf×eG)) (low:bE):Prop where
 box:bH w X sb [.map (some kb),.map (some pb),I low.wall,I low.fi,I low.node] 382
 keys:iK w X A kb (fun s:BA=>cu s) pM hm
 g8:iK w X A pb (fun k:gf=>k.v) oT pm
 sub: ∀k,A k→X k
 off: ∀k,A k→k≠sb∧k≠kb∧k≠pb
theorem kc.mv {w w':World} {X Y A:XS} {sb kb pb:Nat} {hm:List (BA×List kZ)} {pm:List (gf×eG)} {low:bE} (h:kc w X A sb kb pb hm pm low)
  (hX: ∀k,X k→k<w.heap.size) (m:Mv X w Y w'):kc w' Y A sb kb pb hm pm low:=by
 have ma:Mv A w A w':=fun k hk hl=>⟨hk,(m k (h.sub k hk) hl).2⟩;exact⟨h.box.mv m,h.keys.mv pM.mv m ma,h.g8.mv oT.mv m ma,fun k hk=>(m k (h.sub k hk) (hX k (h.sub k hk))).1,h.off⟩
theorem afi {w:World} {X A:XS} {kb:Nat} {hm:List (BA×List kZ)} {k:BA} {N:Value→Prop} {w0:World} {X0:XS} (h:iK w0 X0 A kb (fun s:BA=>cu s) pM hm) (hA: ∀k,A k→X0 k) (m:Mv X0 w0 X w)
  (n: ∀v,Sl w0 X0 6 v (((getM k hm).getD []).map kZ.l)→N v):aa pg X w (Instr.lookup 379 (.map (some kb)) (.string k) false) N:=by
 have h':iK w X A kb (fun s:BA=>cu s) pM hm:=h.mv pM.mv m fun k hk hl=>⟨hk,(m k (hA k hk) hl).2⟩;obtain⟨es,c,h1,h2⟩:=h;have m':Mv A w0 A w:=fun k hk hl=>⟨hk,(m k (hA k hk) hl).2⟩;refine Jn (et:=286) (A:=X) (rd:=fun w X v l=>Sl w0 A 6 v (l.map kZ.l)) (l:=hm) (.slice none 0 0) ?_ XG kQ kQ (fun v a hg hr=>?_) fun hg=>?_
 ·exact⟨es,c,h1.mv m,by
   clear h1 h' n
   induction es generalizing hm with
   |nil=>cases hm<;>first|trivial|exact h2.elim
   |cons e es ih=>cases hm with
    |nil=>exact h2.elim
    |cons x l=>exact⟨h2.1,h2.2.1,ih h2.2.2⟩⟩
 ·exact n v (by rw [hg];exact Sl.mv hr (Mv.sub hA))
 ·exact n _ (by rw [hg];exact Sl.nil _ _ _)
def eG.B0 (x q:eG):Bool:=x.writes.any (fun w=>q.has w.key||q.reads.any fun k=>decide (w.key=k))||x.reads.any fun k=>q.has k
def Dl (l:List kZ) (iX:bE) (all:Bool):eQ×bE:=l.foldl (fun s v=>if all||decide (v.aP.cmp iX≤0)then(v.val,v.aP)else s) (.zero,.zero)
def Gj (hm:List (BA×List kZ)) (k:BA):List kZ:=(getM k hm).getD []
abbrev abT (k:BA) (s:eQ×bE):Value:=.agg #[.string k,I s.1.kind,.float .f64 s.1.num,.string s.1.text,I s.2.wall,I s.2.fi,I s.2.node]
theorem TM {w:World} {X A:XS} {sb kb pb:Nat} {hm:List (BA×List kZ)} {pm:List (gf×eG)} {low iX:bE} {k:BA} {all:Bool}
  (h:kc w X A sb kb pb hm pm low) (hX: ∀k,X k→k<w.heap.size):
  Ct pg 372 #[ptr sb 0,.string k,iX.v,B all] w X nX fun v _ _=>v=abT k (Dl (Gj hm k) iX all):=by
 intro w0 hk;replace h:=h.mv hX hk.dm;have gT:=h.box;have hkm:=h.keys;apply Hr;unfold yc;have hs:=aj.init w0;repeat' first|refine aI ?_;intros
 refine afi hkm h.sub (Mv.refl _ _) fun vv hvv=>?_
 show aa _ _ _ _ _
 have ZI:Gj hm k=(getM k hm).getD []:=rfl;rw [←ZI] at hvv;generalize Gj hm k=vs at hvv;have lS:=hvv.fQ;repeat' first|refine aI ?_;intros
 refine gN (fun n a b w X=> ∃(i:Nat) (s:eQ×bE),a=I i∧b=abT k s∧n=vs.length-i∧i≤vs.length∧aj (ba w0) w0 X w∧
  Dl vs iX all=(vs.drop i).foldl (fun s v=>if all||decide (v.aP.cmp iX≤0)then(v.val,v.aP)else s) s) vs.length ⟨0,(.zero,.zero),rfl,rfl,rfl,aN _,hs,by rw [ja];rfl⟩ ?_
 rintro n a b w X ⟨i,s,rfl,rfl,rfl,hi,hs,hw⟩;rcases ej (vs) i with⟨cH,x,hx,hd⟩|⟨eh,hd⟩
 ·rw [hd,ib] at hw;cases all
  ·repeat' first|refine bL ?_;intros|refine de ?_ ?_<;>intros|with_reducible apply cG|((with_reducible refine gh (pz _ _) ?_ hs.has ?_);(· kernel_rfl);intro w X aq;replace hs:=hs.trans aq)|((with_reducible refine gA ((vs).length-(i+1)) ?_ ?_);omega;exact⟨i+1,(x.val,x.aP),by simp,rfl,rfl,by omega,hs,by rw [hw];simp [*]⟩)|((with_reducible refine gA ((vs).length-(i+1)) ?_ ?_);omega;exact⟨i+1,s,by simp,rfl,rfl,by omega,hs,by rw [hw];simp [*]⟩)
  ·repeat' first|refine bL ?_;intros|with_reducible apply cG|((with_reducible refine gA ((vs).length-(i+1)) ?_ ?_);omega;exact⟨i+1,(x.val,x.aP),by simp,rfl,rfl,by omega,hs,by rw [hw];simp [*]⟩)
 ·repeat' first|refine bL ?_;intros|((first|(with_reducible refine ak hs ?_)|(with_reducible refine ak (bT.trans hs) ?_));intro wa hk;(rw [hw,hd];rfl))
theorem TN {w:World} {X A:XS} {sb kb pb:Nat} {hm:List (BA×List kZ)} {pm:List (gf×eG)} {low:bE} {k:BA}
  (h:kc w X A sb kb pb hm pm low) (hX: ∀k,X k→k<w.heap.size):
  Ct pg 352 #[ptr sb 0,.string k] w X nX fun v _ _=>v=abT k (Dl (Gj hm k) .zero true):=by
 intro w0 hk;replace h:=h.mv hX hk.dm;apply Hq;unfold yb;have hs:=aj.init w0;repeat' first|refine aI ?_;intros|((first|(with_reducible refine ak hs ?_)|(with_reducible refine ak (bT.trans hs) ?_));intro wa hk;rfl)|(refine dy (TM (iX:=.zero) h hs.has) kQ hs.has ?_;intro w X aq;replace hs:=hs.trans aq)
def K5 (hm:List (BA×List kZ)) (x:eG):Bool:=x.writes.any fun w=>decide ((Dl (Gj hm w.key) .zero true).2.cmp x.aP≥0)
theorem abU {w:World} {X A:XS} {sb kb pb:Nat} {hm:List (BA×List kZ)} {pm:List (gf×eG)} {low:bE} {x:eG} {vr vw:Value}
  (h:kc w X A sb kb pb hm pm low) (hX: ∀k,X k→k<w.heap.size) (h2:Sl w X 4 vw (x.writes.map KV.l)):
  Ct pg 319 #[ptr sb 0,x.v vr vw] w X nX fun v _ _=>v=B (K5 hm x):=by
 intro w0 hk;replace h:=h.mv hX hk.dm;replace h2:=h2.mv hk.dm;have lS:=h2.fQ;apply Mn;unfold BH;have hs:=aj.init w0;repeat' first|refine aI ?_;intros
 refine fV (fun n a w X=> ∃i:Nat,a=I (i:Nat)∧n=(x.writes).length-i∧i≤(x.writes).length∧aj (ba w0) w0 X w∧K5 hm x=(x.writes.drop i).any (fun w=>decide ((Dl (Gj hm w.key) .zero true).2.cmp x.aP≥0))) (x.writes).length ⟨0,rfl,rfl,aN _,hs,by simp [K5]⟩ ?_;rintro n a w X ⟨i,rfl,rfl,hi,hs,hw⟩;rcases ej (x.writes) i with⟨cH,y,hy,hd⟩|⟨eh,hd⟩
 ·rw [hd,km] at hw;repeat' first|refine bL ?_;intros|refine de ?_ ?_<;>intros|((with_reducible refine gh (pz _ _) ?_ hs.has ?_);(· kernel_rfl);intro w X aq;replace hs:=hs.trans aq)|((first|(with_reducible refine ak hs ?_)|(with_reducible refine ak (bT.trans hs) ?_));intro wa hk;simp_all)|((with_reducible refine fF ((x.writes).length-(i+1)) ?_ ?_);omega;exact⟨i+1,by simp,rfl,by omega,hs,by rw [hw];simp [*]⟩)|(refine dy (TN (h.mv (fun _ h=>h) (aj.mv hs)) hs.has) kQ hs.has ?_;intro w X aq;replace hs:=hs.trans aq)
 ·repeat' first|refine bL ?_;intros|((first|(with_reducible refine ak hs ?_)|(with_reducible refine ak (bT.trans hs) ?_));intro wa hk;simp_all)
theorem TO {w:World} {X A:XS} {sb kb pb:Nat} {hm:List (BA×List kZ)} {pm:List (gf×eG)} {low:bE} {x:eG} {vr vw:Value}
  (h:kc w X A sb kb pb hm pm low) (hX: ∀k,X k→k<w.heap.size) (h1:Sl w X 1 vr (x.reads.map S1)) (h2:Sl w X 4 vw (x.writes.map KV.l)):
  Ct pg 318 #[ptr sb 0,x.v vr vw] w X nX fun v _ _=>v=B (pm.any fun q=>x.B0 q.2):=by
 intro w0 hk;replace h:=h.mv hX hk.dm;replace h1:=h1.mv hk.dm;replace h2:=h2.mv hk.dm;have gT:=h.box;have Am:=h1.fQ;have xw:=h2.fQ;apply HD;unfold yq;have hs:=aj.init w0;repeat' first|refine aI ?_;intros
 refine ag8 (kt:=33) (et:=229) h.g8 oT.mv h.sub kQ hs.has fun r w X hr aq WO=>?_;replace hs:=hs.trans aq;refine gN (fun n _ _ w X=> ∃left,n=left.length∧aj (ba w0) w0 X w∧Km w X A r pb (fun k:gf=>k.v) oT pm left∧(pm.any fun q=>x.B0 q.2)=left.any fun q=>x.B0 q.2)
  pm.length ⟨pm,rfl,hs,WO,rfl⟩ ?_
 rintro n a b w X ⟨left,rfl,hs,WO,hw⟩;refine aiS WO oT.mv (fun k hk=>⟨hs.sub k (h.sub k hk),fun e=>by have:k<w0.heap.size:=h.sub k hk;omega⟩) hs.has (fun e0 w X aq=>?_) fun kx q v mh w1 X1 hc rX al0 he=>?_
 ·replace hs:=hs.trans aq;repeat' first|refine aI ?_;intros|((first|(with_reducible refine ak hs ?_)|(with_reducible refine ak (bT.trans hs) ?_));intro wa hk;(rw [hw,e0];rfl))
 ·have bT:=hs.dM hc fun k hk e=>by have:k<w0.heap.size:=hk;omega
  obtain⟨ur,uw,rfl,q1,q2⟩:=rX;have hA1: ∀k,A k→X1 k:=fun k hk=>bT.sub k (h.sub k hk);replace q1:=q1.mv (Mv.sub hA1);replace q2:=q2.mv (Mv.sub hA1);have o1:=q1.one;have o2:=q2.one;rw [adi _ WO.nodup mh] at hw;replace hs:=aj.dY bT.has;repeat' first|refine aI ?_;intros
  refine ag9 hs.has he fun w X aq=>?_;replace hs:=hs.trans aq;repeat' first|refine aI ?_;intros
  refine fV (fun n a w X=> ∃i:Nat,a=I (i:Nat)∧n=x.writes.length-i∧i≤x.writes.length∧aj X1 w1 X w∧
   (x.writes.any (fun w=>q.has w.key||q.reads.any fun k=>decide (w.key=k))=(x.writes.drop i).any (fun w=>q.has w.key||q.reads.any fun k=>decide (w.key=k)))) x.writes.length
   ⟨0,rfl,rfl,aN _,hs,by simp⟩ ?_
  rintro n a w X ⟨i,rfl,rfl,hi,hs,wQ⟩;rcases ej (x.writes) i with⟨cH,y,hy,hd⟩|⟨eh,hd⟩
  ·rw [hd,km] at wQ;repeat' first|refine bL ?_;intros|with_reducible apply cG|((first|(with_reducible refine ak hs ?_)|(with_reducible refine ak (bT.trans hs) ?_));intro wa hk;(rw [hw];simp [eG.B0,wQ, *]))|((with_reducible refine fF ((x.writes).length-(i+1)) ?_ ?_);omega;exact⟨i+1,by simp,rfl,by omega,hs,by rw [wQ];simp [*]⟩)|(refine gJ (Iy  (p:=q) hs.has qA) kQ hs.has ?_ ?_<;>(intro _ w X aq;replace hs:=hs.trans aq))|(refine gJ (Oz  qA) kQ hs.has ?_ ?_<;>(intro _ w X aq;replace hs:=hs.trans aq))
  ·rw [hd] at wQ;repeat' first|refine bL ?_;intros
   refine fV (fun n a w X=> ∃i:Nat,a=I (i:Nat)∧n=x.reads.length-i∧i≤x.reads.length∧aj X1 w1 X w∧
    (x.reads.any (fun k=>q.has k)=(x.reads.drop i).any (fun k=>q.has k))) x.reads.length
    ⟨0,rfl,rfl,aN _,hs,by simp⟩ ?_
   rintro n a w X ⟨j,rfl,rfl,hj,hs,yQ⟩;rcases ej x.reads j with⟨cH,y,hy,pY⟩|⟨GJ,pY⟩
   ·rw [pY,km] at yQ;repeat' first|refine bL ?_;intros|((first|(with_reducible refine ak hs ?_)|(with_reducible refine ak (bT.trans hs) ?_));intro wa hk;(rw [hw];simp [eG.B0,yQ, *]))|((with_reducible refine fF (x.reads.length-(j+1)) ?_ ?_);omega;exact⟨j+1,by simp,rfl,by omega,hs,by rw [yQ];simp [*]⟩)|(refine gJ (Iy  (p:=q) hs.has qA) kQ hs.has ?_ ?_<;>(intro _ w X aq;replace hs:=hs.trans aq))
   ·rw [pY] at yQ;repeat' first|refine bL ?_;intros
    refine gA _ (ag7 mh) ⟨_,rfl,bT.trans hs,al0.mv oT.mv (aj.mv hs) (aj.ew hs hA1),?_⟩;rw [hw];have:x.B0 q=false:=by unfold eG.B0;rw [wQ,yQ];rfl
    simp [this]
def eG.fresh (wa w':World) (v:Value) (p:eG):Prop:=
 ∃vr vw,v=p.v vr vw∧Own w' (made wa w') wa.heap.size 9 1 vr (p.reads.map S1)∧Own w' (made wa w') wa.heap.size 53 4 vw (p.writes.map KV.l)∧
  ∀g,vr.ownBlock=some g→vw.ownBlock≠some g
theorem XH {w:World} {X:XS} {p:eG} {vr vw:Value} (h1:Sl w X 1 vr (p.reads.map S1)) (h2:Sl w X 4 vw (p.writes.map KV.l)) (kW:p.reads.length≤2^40) (ny:p.writes.length≤2^40):
  Ct pg 320 #[p.v vr vw] w X nX fun v wa w'=>p.fresh wa w' v:=by
  intro w0 hk;replace h1:=h1.mv hk.dm;replace h2:=h2.mv hk.dm;apply TF;unfold Iu;have hs:=aj.init w0;refine cJ (TK h1 kW) kQ hs.has ?_;rintro v1 wa w X s7 tv oF aq;replace hs:=hs.trans aq;have q1:=s7.sl.one;repeat' first|refine aI ?_;intros
  refine cJ (Fb (h2.mv (aj.mv hs)) ny) kQ hs.has ?_;rintro v2 wb w2 X2 m7 sD ph bQ;have hb:w0.heap.size≤wa.heap.size:=tv;have ai4:Own w X w0.heap.size 9 1 v1 (p.reads.map S1):=s7.up oF hb;have al1:=ai4.since bQ;have al2:w0.heap.size≤wb.heap.size:=ah hs.kp.size sD;have al3:Own w2 X2 w0.heap.size 53 4 v2 (p.writes.map KV.l):=m7.up ph al2;have q2:=m7.sl.one;replace hs:=hs.trans bQ;repeat' first|refine aI ?_;intros|((first|(with_reducible refine ak hs ?_)|(with_reducible refine ak (bT.trans hs) ?_));intro wa hk;(exact⟨v1,v2,rfl,(al1.kp hk).tight,(al3.kp hk).tight,fun g Ch qu=>by have:=(ai4.ge Ch).2;have:=(m7.ge qu).1;omega⟩))
def K6 (X:XS) (a b c:Nat):XS:=fun k=>X k∧k≠a∧k≠b∧k≠c
theorem abV {w:World} {X:XS} :Ct pg 315 #[] w X nX fun v wa w'=>
  ∃sb kb pb,v=ptr sb 0∧kc w' (made wa w') (K6 (made wa w') sb kb pb) sb kb pb [] [] .zero∧sb≠kb∧sb≠pb∧kb≠pb:=by
 intro w0 hk;apply YW;unfold Nb;have hs:=aj.init w0;refine Ag (kv:=fun s:BA=>cu s) pM nX hs.has fun kb w1 X1 me aq uq=>?_;refine Ag (kv:=fun k:gf=>k.v) oT nX aq.has fun pb w2 X2 Ib bQ sa=>?_;have al4:=uq.x;have al5:=sa.x;have al6:=uq.mv pM.mv (aj.mv bQ) (Y:=X2) (A':=nX) (fun _ h=>h.elim);replace hs:=(hs.trans aq).trans bQ;have dU:w0.heap.size≤w1.heap.size:=aq.kp.size;repeat' first|refine aI ?_;intros|(with_reducible apply kX);(case hX=>exact hs.has);intro bx w X gT aq dA;have bT:=hs.trans aq;replace hs:=aj.dY aq.has
 refine ak (bT.trans hs) ?_;intro wa hk;have tN:=(dA.kp hk).lt;have am2:=aq.kp.size;have am3:=hk.size;have ai5:=aq.kp.trans (hk.less aq.sub);have al7:made w0 wa kb:=⟨me,by omega⟩;have al8:made w0 wa pb:=⟨by omega,by omega⟩;exact⟨bx,kb,pb,rfl,⟨dA.own.mv (Mv.one hk dA.1 ⟨by omega,tN⟩),al6.own.mv pM.mv (Mv.one ai5 (bQ.sub _ al4.1) al7) (fun _ h=>h.elim),
  sa.own.mv oT.mv (Mv.one ai5 al5.1 al8) (fun _ h=>h.elim),fun k hk=>hk.1,fun k hk=>hk.2⟩,by omega,by omega,by omega⟩
def AG:BA→List jl→Bool
 |_,[]=>true
 |a,h::r=>h.ok a&&AG h.key r
def vG (l:List jl):List (BA×List kZ):=l.foldl (fun m h=>fC h.key h.jV m) []
def Qs (hm:List (BA×List kZ)):List (gf×eG)→List eG→Int
 |_,[]=>0
 |pm,p::r=>if p.err≠0 then p.err else if(getM p.cB pm).isSome then 9 else if pm.any (fun q=>p.B0 q.2)then 18 else if K5 hm p then 20
  else Qs hm (fC p.cB p pm) r
def Gk (hl:List jl) (pl:List eG):Int:=if AG ⟨#[]⟩ hl then Qs (vG hl) [] pl else 4
theorem kc.grow {w:World} {X A A':XS} {sb kb pb:Nat} {hm:List (BA×List kZ)} {pm:List (gf×eG)} {low:bE} (h:kc w X A sb kb pb hm pm low)
  (hA: ∀k,A k→A' k) (hs: ∀k,A' k→X k∧k≠sb∧k≠kb∧k≠pb):kc w X A' sb kb pb hm pm low:=
 ⟨h.box,h.keys.mv pM.mv (Mv.refl _ _) (Mv.sub hA),h.g8.mv oT.mv (Mv.refl _ _) (Mv.sub hA),fun k hk=>(hs k hk).1,fun k hk=>(hs k hk).2⟩
theorem kc.to {w w':World} {X Y:XS} {sb kb pb:Nat} {hm:List (BA×List kZ)} {pm:List (gf×eG)} {low:bE} (h:kc w X (K6 X sb kb pb) sb kb pb hm pm low)
  (hs:aj X w Y w') (hX: ∀k,X k→k<w.heap.size):kc w' Y (K6 Y sb kb pb) sb kb pb hm pm low:=
 (h.mv hX (aj.mv hs)).grow (fun k hk=>⟨hs.sub k hk.1,hk.2⟩) fun k hk=>hk
def Ab (l:List eG):Prop:= ∀p∈l,p.reads.length≤2^40∧p.writes.length≤2^40
def Aa (l:List jl):Prop:= ∀h∈l,h.jV.length≤2^40
theorem YZ {w:World} {X:XS} {vh vp:Value} {hl:List jl} {pl:List eG} (h1:mi w X vh hl) (h2:lF w X vp pl) (kW:Aa hl) (ny:Ab pl):
  Ct pg 246 #[vh,vp] w X nX fun v _ _=> ∃u:Value,v= .tuple #[u,I (Gk hl pl)]:=by
 intro w0 hk;replace h1:=h1.mv hk.dm;replace h2:=h2.mv hk.dm;have Am:=h1.len;have xw:=h2.len;apply Xn;unfold KI;have hs:=aj.init w0;refine cJ abV kQ hs.has ?_;rintro v wa w X ⟨sb,kb,pb,rfl,gD,ne1,ne2,ne3⟩ hle fU aq;have hsb:w0.heap.size≤sb:=ah hle gD.box.1.1;have me:w0.heap.size≤kb:=ah hle gD.keys.x.1.1;have Ib:w0.heap.size≤pb:=ah hle gD.g8.x.1.1;replace hs:=hs.trans aq;have al9:kc w X (K6 X sb kb pb) sb kb pb [] [] .zero:=(gD.mv (fun k hk=>hk.2) (Mv.sub fU)).grow (fun k hk=>⟨fU k hk.1,hk.2⟩) fun k hk=>hk;clear gD;repeat' first|refine aI ?_;intros
 refine gN (fun n a b w X=> ∃(i:Nat) (s:BA),a=I i∧b= .string s∧n=hl.length-i∧i≤hl.length∧aj (ba w0) w0 X w∧
  kc w X (K6 X sb kb pb) sb kb pb (vG (hl.take i)) [] .zero∧AG ⟨#[]⟩ hl=AG s (hl.drop i)) hl.length
  ⟨0,⟨#[]⟩,rfl,rfl,rfl,aN _,hs,al9,by rw [ja]⟩ ?_
 rintro n a b w X ⟨i,s,rfl,rfl,rfl,hi,bT,gD,hw⟩;have hs:=aj.dY bT.has;rcases ej (hl) i with⟨cH,x,hx,hd⟩|⟨eh,hd⟩
 ·rw [hd,AG] at hw;have Il:=kW x (aX hx);have gT:=gD.box;repeat' first|refine bL ?_;intros|((with_reducible apply Lr);assumption;(try (case hz=>rfl));(case hr=>exact qR);(try (case hz=>omega));(case ht=>kernel_rfl);(case hs=>kernel_rfl);intros)|(refine gJ (RY (h:=x) (ahead:=s) (by first|assumption|exact Sl.mv (by assumption) (aj.mv (bT.trans hs)))) kQ hs.has ?_ ?_<;>(intro _ w X aq;replace hs:=hs.trans aq))|(first|(with_reducible refine ak (bT.trans hs) ?_);intro wa hk;exact⟨_,by rw [Gk,hw];simp [*];rfl⟩)
  have hvv:= ‹Sl w0 (ba w0) 6 _ (x.jV.map kZ.l)›;have lz:= ‹x.ok s=true›;refine cJ (Oy (hvv.mv (aj.mv (bT.trans hs))) Il) kQ hs.has ?_;rintro v1 wa w2 X2 s7 tv oF bQ;have No:=hs.kp.size;have OB:=gD.to (hs.trans bQ) bT.has;have DG:Sl w2 (K6 X2 sb kb pb) 6 v1 (x.jV.map kZ.l):=s7.sl.mv (Mv.sub fun k hk=>⟨oF k hk,by
   have q1:=bT.has sb gD.box.1;have q2:=bT.has kb gD.keys.x.1;have q3:=bT.has pb gD.g8.x.1;have:=hk.1;refine⟨?_,?_,?_⟩<;>omega⟩)
  replace hs:=hs.trans bQ;repeat' first|refine aI ?_;intros
  refine Gs (kv:=fun s:BA=>cu s) (k:=x.key) (et:=286) OB.keys pM.mv DG (fun k hk=>⟨hk.1,hk.2.2.1⟩) XG kQ hs.has fun w3 X3 hc Dx=>?_;have cl:=(bT.trans hs).dM hc fun k hk e=>by have:k<w0.heap.size:=hk;omega
  have afj:kc w3 X3 (K6 X3 sb kb pb) sb kb pb (vG (hl.take (i+1))) [] .zero:=by
   have gT:=OB.box;have hpm:=OB.g8;have e:vG (hl.take (i+1))=fC x.key x.jV (vG (hl.take i)):=by
    rw [ca,hx];simp [vG]
   rw [e];have mo: ∀b,X2 b→b≠kb→Mv (fun k=>k=b) w2 X3 w3:=fun b hb cU k ai _=>by subst ai;exact⟨hc.sub _ hb,hc.block _ hb cU⟩
   exact⟨gT.own.mv (mo _ gT.1 ne1),Dx.mv pM.mv (Mv.refl _ _) (Mv.sub fun k hk=>⟨hc.sub k hk.1,hk.2⟩),
    hpm.own.mv oT.mv (mo _ hpm.x.1 ne3.symm) (fun k hk _=>⟨⟨hc.sub k hk.1,hk.2⟩,hc.block k hk.1 hk.2.2.1⟩),fun k hk=>hk.1,fun k hk=>hk.2⟩
  replace hs:=cl;repeat' first|refine aI ?_;intros|((with_reducible refine gA ((hl).length-(i+1)) ?_ ?_);omega;exact⟨i+1,x.key,by simp,rfl,rfl,by omega,hs,afj,by rw [hw,lz];rfl⟩)
 ·have hlen:hl.take i=hl:=bN eh;rw [hd] at hw;rw [hlen] at gD;repeat' first|refine bL ?_;intros
  refine fV (fun n a w X=> ∃(i:Nat) (pm:List (gf×eG)),a=I i∧n=pl.length-i∧i≤pl.length∧aj (ba w0) w0 X w∧
   kc w X (K6 X sb kb pb) sb kb pb (vG hl) pm .zero∧Gk hl pl=Qs (vG hl) pm (pl.drop i)) pl.length
   ⟨0,[],rfl,rfl,aN _,bT,gD,by rw [ja,Gk,hw];rfl⟩ ?_
  rintro n a w X ⟨j,pm,rfl,rfl,hj,bT,gD,wQ⟩;have hs:=aj.dY bT.has;rcases ej pl j with⟨Nw,x,hx,pY⟩|⟨GJ,pY⟩
  ·rw [pY,Qs] at wQ;have Il:=ny x (aX hx);have gT:=gD.box;repeat' first|refine bL ?_;intros|((with_reducible apply T7);assumption;(try (case hz=>rfl));(case hr=>exact qR);(try (case hz=>omega));(case ht=>kernel_rfl);(case hs=>kernel_rfl);intros)|(refine dy (uT (p:=x) (by first|assumption|exact Sl.mv (by assumption) (aj.mv (bT.trans hs))) (by first|assumption|exact Sl.mv (by assumption) (aj.mv (bT.trans hs))) Il.2) kQ hs.has ?_;intro w X aq;replace hs:=hs.trans aq)
   refine WT (kv:=fun k:gf=>k.v) (k:=x.cB) (kt:=33) (et:=229) (.agg #[I 0,I 0,I 0,I 0,I 0,I 0,.slice none 0 0,.slice none 0 0]) (gD.mv bT.has (aj.mv hs)).g8 aag kQ kQ (fun v q hg rX=>?_) fun hg=>?_
   ·obtain⟨ur,uw,rfl,q1,q2⟩:=rX;have o1:=q1.one;have o2:=q2.one;repeat' first|refine aI ?_;intros|refine de ?_ ?_<;>intros|(first|(with_reducible refine ak (bT.trans hs) ?_);intro wa hk;exact⟨_,by rw [wQ];simp [*];rfl⟩)
   ·repeat' first|refine aI ?_;intros|refine de ?_ ?_<;>intros|(first|(with_reducible refine ak (bT.trans hs) ?_);intro wa hk;exact⟨_,by rw [wQ];simp [*];rfl⟩)|(refine gJ (TO (x:=x) (gD.mv bT.has (aj.mv hs)) hs.has (by first|assumption|exact Sl.mv (by assumption) (aj.mv (bT.trans hs))) (by first|assumption|exact Sl.mv (by assumption) (aj.mv (bT.trans hs)))) kQ hs.has ?_ ?_<;>(intro _ w X aq;replace hs:=hs.trans aq))|(refine gJ (abU (x:=x) (gD.mv bT.has (aj.mv hs)) hs.has (by first|assumption|exact Sl.mv (by assumption) (aj.mv (bT.trans hs)))) kQ hs.has ?_ ?_<;>(intro _ w X aq;replace hs:=hs.trans aq))
    have he:x.err=0:= ‹x.err=0›;have ama:(pm.any fun q=>x.B0 q.snd)=false:= ‹_›;have amb:K5 (vG hl) x=false:= ‹_›;refine cJ (XH (p:=x) (by first|exact Sl.mv (by assumption) (aj.mv (bT.trans hs))) (by first|exact Sl.mv (by assumption) (aj.mv (bT.trans hs))) Il.1 Il.2) kQ hs.has ?_;rintro v1 wa w2 X2 ⟨ur,uw,rfl,s7,m7,-⟩ tv oF bQ;have No:=hs.kp.size;have OB:=gD.to (hs.trans bQ) bT.has;have CQ: ∀k,made wa w2 k→K6 X2 sb kb pb k:=fun k hk=>⟨oF k hk,by
     have q1:=bT.has sb gD.box.1;have q2:=bT.has kb gD.keys.x.1;have q3:=bT.has pb gD.g8.x.1;have:=hk.1;refine⟨?_,?_,?_⟩<;>omega⟩
    have DG:oT w2 (K6 X2 sb kb pb) (x.v ur uw) x:=⟨ur,uw,rfl,s7.sl.mv (Mv.sub CQ),m7.sl.mv (Mv.sub CQ)⟩;replace hs:=hs.trans bQ;refine Gs (kv:=fun k:gf=>k.v) (k:=x.cB) (et:=229) OB.g8 oT.mv DG (fun k hk=>⟨hk.1,hk.2.2.2⟩) aag kQ hs.has fun w3 X3 hc Dx=>?_;have cl:=(bT.trans hs).dM hc fun k hk e=>by have:k<w0.heap.size:=hk;omega
    have afj:kc w3 X3 (K6 X3 sb kb pb) sb kb pb (vG hl) (fC x.cB x pm) .zero:=by
     have gT:=OB.box;have hkm:=OB.keys;have mo: ∀b,X2 b→b≠pb→Mv (fun k=>k=b) w2 X3 w3:=fun b hb cU k ai _=>by subst ai;exact⟨hc.sub _ hb,hc.block _ hb cU⟩
     exact⟨gT.own.mv (mo _ gT.1 ne2),hkm.own.mv pM.mv (mo _ hkm.x.1 ne3) (fun k hk _=>⟨⟨hc.sub k hk.1,hk.2⟩,hc.block k hk.1 hk.2.2.2⟩),
      Dx.mv oT.mv (Mv.refl _ _) (Mv.sub fun k hk=>⟨hc.sub k hk.1,hk.2⟩),fun k hk=>hk.1,fun k hk=>hk.2⟩
    replace hs:=cl;repeat' first|refine aI ?_;intros|((with_reducible refine fF (pl.length-(j+1)) ?_ ?_);omega;exact⟨j+1,_,by simp,rfl,by omega,hs,afj,by rw [wQ];simp [he,hg,ama,amb]⟩)
  ·rw [pY] at wQ;repeat' first|refine bL ?_;intros|(first|(with_reducible refine ak (bT.trans hs) ?_);intro wa hk;exact⟨_,by rw [wQ];rfl⟩)
end Go.Proofs.YtpdkoaklobnegaaGreat
