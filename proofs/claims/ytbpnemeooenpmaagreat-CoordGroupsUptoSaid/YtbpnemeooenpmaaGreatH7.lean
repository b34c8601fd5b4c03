/-
 Part 7 of the proof: what the last text leans on.
-/
import Derived.Test.YtbpnemeooenpmaaGreatProg
import Derived.KernelRfl
import Derived.Test.YtbpnemeooenpmaaGreatH6
open Nat renaming zero_le → aF, lt_of_lt_of_le → aG
open BitVec renaming ofInt → bT
open Go.Value renaming string → bB
open List renaming nil_append → dG, any_cons → jv, foldl_cons → fI, length_map → aH, length_take → bW, length_append → au, length_cons → bh, length_nil → bI
open Ieee.Datum renaming quotient → uv
set_option linter.unusedVariables false
set_option linter.unusedSimpArgs false
namespace Go.Proofs.YtbpnemeooenpmaaGreat
open Go.Proofs.Tryz renaming prog → pg
open Go.aV
set_option maxRecDepth 100000
section
variable {R : Ending → World → Prop} {w0 : World} {p0 p1 p2 p3 p4 p5 p6 p7 p8 p9 p10 p11 : Value}
theorem HV {R:Ending→World→Prop} {w0:World} {aX bo bt bN cd cr cp cy dh cX bO bM cZ cP cN:Int} {cO:Bool} {cQ cT:Int} {cE cz cG cH cA cM:Value} {cB cI:Int} {cJ cK:Nat} {cL eI eJ eK eM eO:Int} {eP eQ:Value} {p1:Int} (h:yJ R w0 (aR w0) aX bo bt bN cd cr cp cy dh cX bO bM cZ cP cN cO cQ cT cE cz cG cH cA cM cB cI cJ cK cL eI eJ eK eM eO eP eQ p1):Calls pg 18 #[(.agg #[(I aX),(I bo),(I bt),(I bN),(I cd),(I cr),(I cp),(I cy),(I dh),(I cX),(I bO),(I bM),(I cZ),(I cP),(I cN),(B cO),(I cQ),(I cT),cE,cz,cG,cH,cA,cM,(I cB),(I cI),(.float .f64 cJ),(.float .f64 cK),(I cL),(I eI),(I eJ),(I eK),(I eM),(I eO),eP,eQ]),(I p1)] w0 R:=
 aM (pl:=HZ) Tryz.func18 (by kernel_rfl) (by kernel_rfl) h
theorem Zh (h:Oi R w0 (aR w0) p0):Calls pg 19 #[p0] w0 R:=cv ⟨18,[],[],[0,2,3,4,5,9],[],[]⟩ Tryz.func19 h
theorem W5 {R:Ending→World→Prop} {w0:World} {p0:Value} {p1:ByteArray} {p2:Int} (h:LL R w0 (aR w0) p0 p1 p2):Calls pg 20 #[p0,(.string p1),(I p2)] w0 R:=
 aM (pl:=Xx) Tryz.func20 (by kernel_rfl) (by kernel_rfl) h
theorem NB (h:CC R w0 (aR w0) p0):Calls pg 21 #[p0] w0 R:=cv ⟨12,[],[],[0,2],[],[]⟩ Tryz.func21 h
theorem Pq (h:DJ R w0 (aR w0) p0):Calls pg 22 #[p0] w0 R:=cv ⟨15,[],[],[0,2],[],[]⟩ Tryz.func22 h
theorem Jk {R:Ending→World→Prop} {w0:World} {p0:Value} {dw bZ dP iq iz jw iN ja mF mG:Int} {jB:Bool} {jC:Int} {k7:Nat} {k8 lf ky lh:Value} {lj lk:Int} {ln lp:Nat} {lq jS lr lu lv lx:Int} {ly lz:Value} (h:zT R w0 (aR w0) p0 dw bZ dP iq iz jw iN ja mF mG jB jC k7 k8 lf ky lh lj lk ln lp lq jS lr lu lv lx ly lz):Calls pg 28 #[p0,(.agg #[(I dw),(I bZ),(I dP),(I iq),(I iz),(I jw),(I iN),(I ja),(I mF),(I mG),(B jB),(I jC),(.float .f64 k7),k8,lf,ky,lh,(I lj),(I lk),(.float .f64 ln),(.float .f64 lp),(I lq),(I jS),(I lr),(I lu),(I lv),(I lx),ly,lz])] w0 R:=
 aM (pl:=JS) Tryz.func28 (by kernel_rfl) (by kernel_rfl) h
theorem Ze {R:Ending→World→Prop} {w0:World} {p0 dw bZ dP:Int} (h:N9 R w0 (aR w0) p0 dw bZ dP):Calls pg 29 #[(I p0),(.agg #[(I dw),(I bZ),(I dP)])] w0 R:=
 aM (pl:=aaG) Tryz.func29 (by kernel_rfl) (by kernel_rfl) h
theorem IX (h:zM R w0 (aR w0) p0):Calls pg 30 #[p0] w0 R:=cv ⟨8,[],[],[0,2],[],[]⟩ Tryz.func30 h
theorem wg (h:oh R w0 (aR w0) p0):Calls pg 32 #[p0] w0 R:=cv ⟨8,[],[],[0,2,4],[],[]⟩ Tryz.func32 h
theorem HT {R:Ending→World→Prop} {w0:World} {p0:Value} {p1:Int} {p2:Value} (h:yF R w0 (aR w0) p0 p1 p2):Calls pg 33 #[p0,(I p1),p2] w0 R:=
 aM (pl:=H6) Tryz.func33 (by kernel_rfl) (by kernel_rfl) h
theorem Lh {R:Ending→World→Prop} {w0:World} {p0 p1:Value} {gQ gL iF oV oW oX oY:Int} {oZ:Bool} {o9:Value} (h:AQ R w0 (aR w0) p0 p1 gQ gL iF oV oW oX oY oZ o9):Calls pg 34 #[p0,p1,(.agg #[(I gQ),(I gL),(I iF),(I oV),(I oW),(I oX),(I oY),(B oZ),o9])] w0 R:=
 aM (pl:=Ll) Tryz.func34 (by kernel_rfl) (by kernel_rfl) h
theorem I3 (h:zO R w0 (aR w0) p0):Calls pg 35 #[p0] w0 R:=cv ⟨13,[(2,(pg.cellsOf 56)),(3,(pg.cellsOf 56))],[],[0],[],[]⟩ Tryz.func35 h
theorem Lf {R:Ending→World→Prop} {w0:World} {p0 p1:Value} {gQ gL iF oV oW oX oY oZ o9 tO pz pA pB pC pD:Int} {pE:Bool} {pF pG:Int} {pH pI pJ pK pL pM:Value} {pN pO:Int} {pP pQ:Nat} {pR pS pT pU pV pW:Int} {pX pY:Value} (h:AP R w0 (aR w0) p0 p1 gQ gL iF oV oW oX oY oZ o9 tO pz pA pB pC pD pE pF pG pH pI pJ pK pL pM pN pO pP pQ pR pS pT pU pV pW pX pY):Calls pg 36 #[p0,p1,(.agg #[(I gQ),(I gL),(I iF),(I oV),(I oW),(I oX),(I oY),(I oZ),(I o9),(I tO),(I pz),(I pA),(I pB),(I pC),(I pD),(B pE),(I pF),(I pG),pH,pI,pJ,pK,pL,pM,(I pN),(I pO),(.float .f64 pP),(.float .f64 pQ),(I pR),(I pS),(I pT),(I pU),(I pV),(I pW),pX,pY])] w0 R:=
 aM (pl:=Lm) Tryz.func36 (by kernel_rfl) (by kernel_rfl) h
theorem Li (h:AS R w0 (aR w0) p0 p1):Calls pg 37 #[p0,p1] w0 R:=cv ⟨165,[(8,(pg.cellsOf 64)),(11,(pg.cellsOf 120)),(13,(pg.cellsOf 120)),(14,(pg.cellsOf 44)),(16,(pg.cellsOf 215)),(18,(pg.cellsOf 64))],[62,98,99,112,113,115,116,130,132,135,140,148,150,153,158],[0,1,4,5,6,9,32,39,55,56,57,58,79,87,88,89,90,106,107,108,109,124,125,126,127,134,142,143,144,145,152],[],[6,14,57,89,108,126,144]⟩ Tryz.func37 h
theorem On {R:Ending→World→Prop} {w0:World} {p0:Int} (h:FZ R w0 (aR w0) p0):Calls pg 38 #[(I p0)] w0 R:=
 aM (pl:=aaH) Tryz.func38 (by kernel_rfl) (by kernel_rfl) h
theorem Ul {R:Ending→World→Prop} {w0:World} {aX:Int} {bo:ByteArray} {bt:Int} {bN:Nat} {cd:ByteArray} {p1:Int} (h:II R w0 (aR w0) aX bo bt bN cd p1):Calls pg 39 #[(.agg #[(I aX),(.string bo),(I bt),(.float .f64 bN),(.string cd)]),(I p1)] w0 R:=
 aM (pl:=VH) Tryz.func39 (by kernel_rfl) (by kernel_rfl) h
theorem Sz (h:Hq R w0 (aR w0) p0):Calls pg 40 #[p0] w0 R:=cv ⟨5,[],[],[0,2],[],[]⟩ Tryz.func40 h
theorem Sx {R:Ending→World→Prop} {w0:World} {p0:Value} {p1 p2:Int} (h:Ho R w0 (aR w0) p0 p1 p2):Calls pg 41 #[p0,(I p1),(I p2)] w0 R:=
 aM (pl:=SN) Tryz.func41 (by kernel_rfl) (by kernel_rfl) h
theorem XJ {R:Ending→World→Prop} {w0:World} {aX bo:Int} {bt bN p1:Nat} (h:Mn R w0 (aR w0) aX bo bt bN p1):Calls pg 42 #[(.agg #[(I aX),(I bo),(.float .f64 bt),(.float .f64 bN)]),(.float .f64 p1)] w0 R:=
 aM (pl:=Xy) Tryz.func42 (by kernel_rfl) (by kernel_rfl) h
theorem SV {R:Ending→World→Prop} {w0:World} {p0:ByteArray} (h:HF R w0 (aR w0) p0):Calls pg 43 #[(.string p0)] w0 R:=
 aM (pl:=SO) Tryz.func43 (by kernel_rfl) (by kernel_rfl) h
theorem UB (h:IS R w0 (aR w0) p0 p1):Calls pg 44 #[p0,p1] w0 R:=cv ⟨43,[],[],[0,1,4,5,6,7,9,10,12,13,14,15,22,41],[24,25,26,27,28,29,30,31],[7,14]⟩ Tryz.func44 h
theorem nL {R:Ending→World→Prop} {w0:World} {p0:Value} {dw:Int} {bZ:ByteArray} {dP:Int} {iq:Nat} {iz:ByteArray} (h:l8 R w0 (aR w0) p0 dw bZ dP iq iz):Calls pg 46 #[p0,(.agg #[(I dw),(.string bZ),(I dP),(.float .f64 iq),(.string iz)])] w0 R:=
 aM (pl:=Qr) Tryz.func46 (by kernel_rfl) (by kernel_rfl) h
theorem nk (h:iI R w0 (aR w0) p0):Calls pg 48 #[p0] w0 R:=cv ⟨4,[],[],[0,1,2],[],[]⟩ Tryz.func48 h
theorem zg (h:qZ R w0 (aR w0) p0 p1):Calls pg 49 #[p0,p1] w0 R:=cv ⟨12,[],[],[0,1,4,5],[],[]⟩ Tryz.func49 h
theorem lK (h:gP R w0 (aR w0) p0):Calls pg 50 #[p0] w0 R:=cv ⟨4,[],[],[0,1,2],[],[]⟩ Tryz.func50 h
theorem XK {R:Ending→World→Prop} {w0:World} {aX bo bt bN cd cr cp cy dh cX bO bM cZ cP cN:Int} {cO:Bool} {cQ cT:Int} {cE cz cG cH cA cM:Value} {cB cI:Int} {cJ cK:Nat} {cL eI eJ eK eM eO:Int} {eP eQ:Value} (h:Mo R w0 (aR w0) aX bo bt bN cd cr cp cy dh cX bO bM cZ cP cN cO cQ cT cE cz cG cH cA cM cB cI cJ cK cL eI eJ eK eM eO eP eQ):Calls pg 54 #[(.agg #[(I aX),(I bo),(I bt),(I bN),(I cd),(I cr),(I cp),(I cy),(I dh),(I cX),(I bO),(I bM),(I cZ),(I cP),(I cN),(B cO),(I cQ),(I cT),cE,cz,cG,cH,cA,cM,(I cB),(I cI),(.float .f64 cJ),(.float .f64 cK),(I cL),(I eI),(I eJ),(I eK),(I eM),(I eO),eP,eQ])] w0 R:=
 aM (pl:=Xz) Tryz.func54 (by kernel_rfl) (by kernel_rfl) h
theorem Jp {R:Ending→World→Prop} {w0:World} {p0:Value} {dw bZ dP iq iz jw iN ja mF mG jB jC k7 k8 lf:Int} {ky:Bool} {lh lj:Int} {lk ln lp lq jS lr:Value} {lu lv:Int} {lx ly:Nat} {lz vL vM vN vO vP:Int} {vQ vR:Value} (h:zV R w0 (aR w0) p0 dw bZ dP iq iz jw iN ja mF mG jB jC k7 k8 lf ky lh lj lk ln lp lq jS lr lu lv lx ly lz vL vM vN vO vP vQ vR):Calls pg 56 #[p0,(.agg #[(I dw),(I bZ),(I dP),(I iq),(I iz),(I jw),(I iN),(I ja),(I mF),(I mG),(I jB),(I jC),(I k7),(I k8),(I lf),(B ky),(I lh),(I lj),lk,ln,lp,lq,jS,lr,(I lu),(I lv),(.float .f64 lx),(.float .f64 ly),(I lz),(I vL),(I vM),(I vN),(I vO),(I vP),vQ,vR])] w0 R:=
 aM (pl:=JU) Tryz.func56 (by kernel_rfl) (by kernel_rfl) h
theorem QG {R:Ending→World→Prop} {w0:World} {p0 p1 p2:Int} (h:Fa R w0 (aR w0) p0 p1 p2):Calls pg 59 #[(I p0),(I p1),(I p2)] w0 R:=
 aM (pl:=Qs) Tryz.func59 (by kernel_rfl) (by kernel_rfl) h
theorem Fu {R:Ending→World→Prop} {w0:World} {p0:Value} {p1:Int} (h:wU R w0 (aR w0) p0 p1):Calls pg 60 #[p0,(I p1)] w0 R:=
 aM (pl:=Fb) Tryz.func60 (by kernel_rfl) (by kernel_rfl) h
theorem Gu {R:Ending→World→Prop} {w0:World} {p0:Value} {p1:Int} (h:xN R w0 (aR w0) p0 p1):Calls pg 61 #[p0,(I p1)] w0 R:=
 aM (pl:=GD) Tryz.func61 (by kernel_rfl) (by kernel_rfl) h
theorem Em {R:Ending→World→Prop} {w0:World} {p0:Value} {p1:Int} (h:vu R w0 (aR w0) p0 p1):Calls pg 62 #[p0,(I p1)] w0 R:=
 aM (pl:=Ek) Tryz.func62 (by kernel_rfl) (by kernel_rfl) h
theorem Ig {R:Ending→World→Prop} {w0:World} {aX bo bt bN cd cr cp cy dh cX:Int} {bO:Bool} {bM:Int} {cZ:Nat} {cP cN cO cQ:Value} {cT cE:Int} {cz cG:Nat} {cH cA cM cB cI cJ:Int} {cK cL:Value} {p1:Int} (h:yM R w0 (aR w0) aX bo bt bN cd cr cp cy dh cX bO bM cZ cP cN cO cQ cT cE cz cG cH cA cM cB cI cJ cK cL p1):Calls pg 63 #[(.agg #[(I aX),(I bo),(I bt),(I bN),(I cd),(I cr),(I cp),(I cy),(I dh),(I cX),(B bO),(I bM),(.float .f64 cZ),cP,cN,cO,cQ,(I cT),(I cE),(.float .f64 cz),(.float .f64 cG),(I cH),(I cA),(I cM),(I cB),(I cI),(I cJ),cK,cL]),(I p1)] w0 R:=
 aM (pl:=H7) Tryz.func63 (by kernel_rfl) (by kernel_rfl) h
theorem Fv {R:Ending→World→Prop} {w0:World} {aX bo:Int} {bt bN:Nat} {cd cr cp cy dh cX:Int} {bO bM:Value} {p1:Int} (h:wV R w0 (aR w0) aX bo bt bN cd cr cp cy dh cX bO bM p1):Calls pg 64 #[(.agg #[(I aX),(I bo),(.float .f64 bt),(.float .f64 bN),(I cd),(I cr),(I cp),(I cy),(I dh),(I cX),bO,bM]),(I p1)] w0 R:=
 aM (pl:=Fc) Tryz.func64 (by kernel_rfl) (by kernel_rfl) h
theorem PS (h:EG R w0 (aR w0) p0):Calls pg 65 #[p0] w0 R:=cv ⟨72,[(4,(pg.cellsOf 38)),(6,(pg.cellsOf 38)),(12,(pg.cellsOf 38))],[39,41,54,58],[0,2,3,7,8,9,10,13,17,21,22,23,24,30,33,34,35,36,43,47,48,49,50,51,57,64,71],[],[7,8,9,10,23,35,50]⟩ Tryz.func65 h
theorem ML (h:B4 R w0 (aR w0) p0 p1):Calls pg 66 #[p0,p1] w0 R:=cv ⟨50,[(7,(pg.cellsOf 38)),(8,(pg.cellsOf 38))],[21,32,34,43],[0,1,4,5,9,10,11,12,13,38],[29,30,31,33,35,36,37],[5,12]⟩ Tryz.func66 h
theorem XM {R:Ending→World→Prop} {w0:World} {p0:ByteArray} {p1:Int} (h:Mp R w0 (aR w0) p0 p1):Calls pg 67 #[(.string p0),(I p1)] w0 R:=
 aM (pl:=XA) Tryz.func67 (by kernel_rfl) (by kernel_rfl) h
theorem Lt (h:AZ R w0 (aR w0) p0):Calls pg 68 #[p0] w0 R:=cv ⟨7,[],[],[0,2],[],[]⟩ Tryz.func68 h
theorem Ld (h:AH R w0 (aR w0) p0):Calls pg 69 #[p0] w0 R:=cv ⟨9,[],[],[0,2],[],[]⟩ Tryz.func69 h
theorem Pr {R:Ending→World→Prop} {w0:World} {p0:Value} {p1:Int} (h:DK R w0 (aR w0) p0 p1):Calls pg 72 #[p0,(I p1)] w0 R:=
 aM (pl:=Pf) Tryz.func72 (by kernel_rfl) (by kernel_rfl) h
theorem Ps (h:DL R w0 (aR w0) p0):Calls pg 74 #[p0] w0 R:=cv ⟨15,[],[],[0,2],[],[]⟩ Tryz.func74 h
theorem VW (h:JV R w0 (aR w0) p0 p1):Calls pg 78 #[p0,p1] w0 R:=cv ⟨183,[],[],[0,1,4,13,14,21,30,78,95,102,119,138,145,169],[],[]⟩ Tryz.func78 h
theorem QH {R:Ending→World→Prop} {w0:World} {aX bo bt bN cd cr cp cy dh cX:Int} {bO:Bool} {bM:Int} {cZ:Nat} {cP cN cO cQ:Value} {cT cE:Int} {cz cG:Nat} {cH cA cM cB cI cJ:Int} {cK cL:Value} (h:Fe R w0 (aR w0) aX bo bt bN cd cr cp cy dh cX bO bM cZ cP cN cO cQ cT cE cz cG cH cA cM cB cI cJ cK cL):Calls pg 80 #[(.agg #[(I aX),(I bo),(I bt),(I bN),(I cd),(I cr),(I cp),(I cy),(I dh),(I cX),(B bO),(I bM),(.float .f64 cZ),cP,cN,cO,cQ,(I cT),(I cE),(.float .f64 cz),(.float .f64 cG),(I cH),(I cA),(I cM),(I cB),(I cI),(I cJ),cK,cL])] w0 R:=
 aM (pl:=Qt) Tryz.func80 (by kernel_rfl) (by kernel_rfl) h
theorem Lj {R:Ending→World→Prop} {w0:World} {p0:Value} {dw bZ dP iq iz jw iN ja mF mG:Int} {jB:Bool} {jC:Int} {k7:Nat} {k8 lf ky lh:Value} {lj lk:Int} {ln lp:Nat} {lq jS lr lu lv lx:Int} {ly lz:Value} (h:AV R w0 (aR w0) p0 dw bZ dP iq iz jw iN ja mF mG jB jC k7 k8 lf ky lh lj lk ln lp lq jS lr lu lv lx ly lz):Calls pg 82 #[p0,(.agg #[(I dw),(I bZ),(I dP),(I iq),(I iz),(I jw),(I iN),(I ja),(I mF),(I mG),(B jB),(I jC),(.float .f64 k7),k8,lf,ky,lh,(I lj),(I lk),(.float .f64 ln),(.float .f64 lp),(I lq),(I jS),(I lr),(I lu),(I lv),(I lx),ly,lz])] w0 R:=
 aM (pl:=Ln) Tryz.func82 (by kernel_rfl) (by kernel_rfl) h
theorem Lu (h:A6 R w0 (aR w0) p0 p1):Calls pg 83 #[p0,p1] w0 R:=cv ⟨90,[],[],[0,1,4,5,6,7,8,9,10,12,15,19,31,35,41,66],[],[]⟩ Tryz.func83 h
theorem Pt (h:DN R w0 (aR w0) p0):Calls pg 84 #[p0] w0 R:=cv ⟨28,[],[],[0,2,3,20],[],[]⟩ Tryz.func84 h
theorem aaJ {R:Ending→World→Prop} {w0:World} {aX bo bt:Int} (h:Pg R w0 (aR w0) aX bo bt):Calls pg 85 #[(.agg #[(I aX),(I bo),(I bt)])] w0 R:=
 aM (pl:=aaI) Tryz.func85 (by kernel_rfl) (by kernel_rfl) h
theorem MX {R:Ending→World→Prop} {w0:World} {p0:Value} {p1:Int} (h:Cl R w0 (aR w0) p0 p1):Calls pg 86 #[p0,(I p1)] w0 R:=
 aM (pl:=Nv) Tryz.func86 (by kernel_rfl) (by kernel_rfl) h
theorem MO (h:B6 R w0 (aR w0) p0 p1):Calls pg 87 #[p0,p1] w0 R:=cv ⟨73,[(9,(pg.cellsOf 38))],[33,40,43],[0,1,4,5,6,8,10,11,13,15,16,17,18,23,31,38,52,53,54,55],[58,1000048],[11,17,54]⟩ Tryz.func87 h
theorem IZ {R:Ending→World→Prop} {w0:World} {p0:Value} {dw bZ dP iq iz jw iN ja mF mG jB jC k7 k8 lf:Int} {ky:Bool} {lh lj:Int} {lk ln lp lq jS lr:Value} {lu lv:Int} {lx ly:Nat} {lz vL vM vN vO vP:Int} {vQ vR:Value} (h:zN R w0 (aR w0) p0 dw bZ dP iq iz jw iN ja mF mG jB jC k7 k8 lf ky lh lj lk ln lp lq jS lr lu lv lx ly lz vL vM vN vO vP vQ vR):Calls pg 88 #[p0,(.agg #[(I dw),(I bZ),(I dP),(I iq),(I iz),(I jw),(I iN),(I ja),(I mF),(I mG),(I jB),(I jC),(I k7),(I k8),(I lf),(B ky),(I lh),(I lj),lk,ln,lp,lq,jS,lr,(I lu),(I lv),(.float .f64 lx),(.float .f64 ly),(I lz),(I vL),(I vM),(I vN),(I vO),(I vP),vQ,vR])] w0 R:=
 aM (pl:=JW) Tryz.func88 (by kernel_rfl) (by kernel_rfl) h
theorem Oz {R:Ending→World→Prop} {w0:World} {aX bo bt bN cd cr cp cy dh cX bO bM cZ cP cN:Int} {cO:Bool} {cQ cT:Int} {cE cz cG cH cA cM:Value} {cB cI:Int} {cJ cK:Nat} {cL eI eJ eK eM eO:Int} {eP eQ:Value} (h:Ds R w0 (aR w0) aX bo bt bN cd cr cp cy dh cX bO bM cZ cP cN cO cQ cT cE cz cG cH cA cM cB cI cJ cK cL eI eJ eK eM eO eP eQ):Calls pg 89 #[(.agg #[(I aX),(I bo),(I bt),(I bN),(I cd),(I cr),(I cp),(I cy),(I dh),(I cX),(I bO),(I bM),(I cZ),(I cP),(I cN),(B cO),(I cQ),(I cT),cE,cz,cG,cH,cA,cM,(I cB),(I cI),(.float .f64 cJ),(.float .f64 cK),(I cL),(I eI),(I eJ),(I eK),(I eM),(I eO),eP,eQ])] w0 R:=
 aM (pl:=Ph) Tryz.func89 (by kernel_rfl) (by kernel_rfl) h
theorem HS {R:Ending→World→Prop} {w0:World} {p0 p1:Value} {p2:Int} (h:yC R w0 (aR w0) p0 p1 p2):Calls pg 90 #[p0,p1,(I p2)] w0 R:=
 aM (pl:=H8) Tryz.func90 (by kernel_rfl) (by kernel_rfl) h
theorem Ec (h:uX R w0 (aR w0) p0):Calls pg 91 #[p0] w0 R:=cv ⟨12,[],[],[0,2,3],[],[]⟩ Tryz.func91 h
theorem uc {R:Ending→World→Prop} {w0:World} {p0:Value} {p1:ByteArray} (h:mQ R w0 (aR w0) p0 p1):Calls pg 93 #[p0,(.string p1)] w0 R:=
 aM (pl:=ua) Tryz.func93 (by kernel_rfl) (by kernel_rfl) h
theorem Sw (h:Hn R w0 (aR w0)):Calls pg 94 #[] w0 R:=cv ⟨17,[(0,(pg.cellsOf 217))],[],[],[],[]⟩ Tryz.func94 h
theorem VX {R:Ending→World→Prop} {w0:World} {p0:ByteArray} (h:JX R w0 (aR w0) p0):Calls pg 95 #[(.string p0)] w0 R:=
 aM (pl:=VI) Tryz.func95 (by kernel_rfl) (by kernel_rfl) h
theorem VY {R:Ending→World→Prop} {w0:World} {aX:Int} {bo:Nat} {bt:ByteArray} (h:JY R w0 (aR w0) aX bo bt):Calls pg 96 #[(.agg #[(I aX),(.float .f64 bo),(.string bt)])] w0 R:=
 aM (pl:=VJ) Tryz.func96 (by kernel_rfl) (by kernel_rfl) h
theorem sm (h:lR R w0 (aR w0) p0):Calls pg 98 #[p0] w0 R:=cv ⟨4,[],[],[0,1,2],[],[]⟩ Tryz.func98 h
theorem MR {R:Ending→World→Prop} {w0:World} {p0:Value} {dw:Int} {bZ:Nat} {dP:ByteArray} (h:Ce R w0 (aR w0) p0 dw bZ dP):Calls pg 101 #[p0,(.agg #[(I dw),(.float .f64 bZ),(.string dP)])] w0 R:=
 aM (pl:=Nw) Tryz.func101 (by kernel_rfl) (by kernel_rfl) h
theorem Ot (h:Dl R w0 (aR w0) p0):Calls pg 103 #[p0] w0 R:=cv ⟨28,[(2,(pg.cellsOf 62)),(4,(pg.cellsOf 62))],[],[0,3],[],[]⟩ Tryz.func103 h
theorem SC {R:Ending→World→Prop} {w0:World} {aX:Int} {bo:Nat} {bt:ByteArray} (h:Ht R w0 (aR w0) aX bo bt):Calls pg 104 #[(.agg #[(I aX),(.float .f64 bo),(.string bt)])] w0 R:=
 aM (pl:=SP) Tryz.func104 (by kernel_rfl) (by kernel_rfl) h
theorem Ov {R:Ending→World→Prop} {w0:World} {p0:Value} {p1:Int} (h:Dm R w0 (aR w0) p0 p1):Calls pg 105 #[p0,(I p1)] w0 R:=
 aM (pl:=Pj) Tryz.func105 (by kernel_rfl) (by kernel_rfl) h
theorem s6 (h:mi R w0 (aR w0) p0 p1):Calls pg 109 #[p0,p1] w0 R:=cv ⟨14,[],[],[0,1,4],[],[]⟩ Tryz.func109 h
theorem Pu {R:Ending→World→Prop} {w0:World} {aX bo bt bN cd cr cp cy dh cX bO bM cZ cP cN:Int} {cO:Bool} {cQ cT:Int} {cE cz cG cH cA cM:Value} {cB cI:Int} {cJ cK:Nat} {cL eI eJ eK eM eO:Int} {eP eQ:Value} (h:DO R w0 (aR w0) aX bo bt bN cd cr cp cy dh cX bO bM cZ cP cN cO cQ cT cE cz cG cH cA cM cB cI cJ cK cL eI eJ eK eM eO eP eQ):Calls pg 111 #[(.agg #[(I aX),(I bo),(I bt),(I bN),(I cd),(I cr),(I cp),(I cy),(I dh),(I cX),(I bO),(I bM),(I cZ),(I cP),(I cN),(B cO),(I cQ),(I cT),cE,cz,cG,cH,cA,cM,(I cB),(I cI),(.float .f64 cJ),(.float .f64 cK),(I cL),(I eI),(I eJ),(I eK),(I eM),(I eO),eP,eQ])] w0 R:=
 aM (pl:=Pk) Tryz.func111 (by kernel_rfl) (by kernel_rfl) h
theorem VZ {R:Ending→World→Prop} {w0:World} {p0:Int} (h:JZ R w0 (aR w0) p0):Calls pg 112 #[(I p0)] w0 R:=
 aM (pl:=VK) Tryz.func112 (by kernel_rfl) (by kernel_rfl) h
theorem V5 {R:Ending→World→Prop} {w0:World} {aX bo bt bN cd cr cp cy dh cX bO bM cZ cP cN:Int} {cO:Bool} {cQ cT:Int} {cE cz cG cH cA cM:Value} {cB cI:Int} {cJ cK:Nat} {cL eI eJ eK eM eO:Int} {eP eQ:Value} (h:J0 R w0 (aR w0) aX bo bt bN cd cr cp cy dh cX bO bM cZ cP cN cO cQ cT cE cz cG cH cA cM cB cI cJ cK cL eI eJ eK eM eO eP eQ):Calls pg 113 #[(.agg #[(I aX),(I bo),(I bt),(I bN),(I cd),(I cr),(I cp),(I cy),(I dh),(I cX),(I bO),(I bM),(I cZ),(I cP),(I cN),(B cO),(I cQ),(I cT),cE,cz,cG,cH,cA,cM,(I cB),(I cI),(.float .f64 cJ),(.float .f64 cK),(I cL),(I eI),(I eJ),(I eK),(I eM),(I eO),eP,eQ])] w0 R:=
 aM (pl:=VL) Tryz.func113 (by kernel_rfl) (by kernel_rfl) h
theorem QI {R:Ending→World→Prop} {w0:World} {aX bo bt bN cd cr cp cy dh cX bO bM cZ cP cN:Int} {cO:Bool} {cQ cT:Int} {cE cz cG cH cA cM:Value} {cB cI:Int} {cJ cK:Nat} {cL eI eJ eK eM eO:Int} {eP eQ:Value} (h:Ff R w0 (aR w0) aX bo bt bN cd cr cp cy dh cX bO bM cZ cP cN cO cQ cT cE cz cG cH cA cM cB cI cJ cK cL eI eJ eK eM eO eP eQ):Calls pg 114 #[(.agg #[(I aX),(I bo),(I bt),(I bN),(I cd),(I cr),(I cp),(I cy),(I dh),(I cX),(I bO),(I bM),(I cZ),(I cP),(I cN),(B cO),(I cQ),(I cT),cE,cz,cG,cH,cA,cM,(I cB),(I cI),(.float .f64 cJ),(.float .f64 cK),(I cL),(I eI),(I eJ),(I eK),(I eM),(I eO),eP,eQ])] w0 R:=
 aM (pl:=Qu) Tryz.func114 (by kernel_rfl) (by kernel_rfl) h
theorem Gr {R:Ending→World→Prop} {w0:World} {p0:Value} {dw bZ dP iq iz jw iN ja mF mG jB jC k7 k8 lf:Int} {ky:Bool} {lh lj:Int} {lk ln lp lq jS lr:Value} {lu lv:Int} {lx ly:Nat} {lz vL vM vN vO vP:Int} {vQ vR:Value} {p2:Bool} (h:xJ R w0 (aR w0) p0 dw bZ dP iq iz jw iN ja mF mG jB jC k7 k8 lf ky lh lj lk ln lp lq jS lr lu lv lx ly lz vL vM vN vO vP vQ vR p2):Calls pg 115 #[p0,(.agg #[(I dw),(I bZ),(I dP),(I iq),(I iz),(I jw),(I iN),(I ja),(I mF),(I mG),(I jB),(I jC),(I k7),(I k8),(I lf),(B ky),(I lh),(I lj),lk,ln,lp,lq,jS,lr,(I lu),(I lv),(.float .f64 lx),(.float .f64 ly),(I lz),(I vL),(I vM),(I vN),(I vO),(I vP),vQ,vR]),(B p2)] w0 R:=
 aM (pl:=GF) Tryz.func115 (by kernel_rfl) (by kernel_rfl) h
theorem tZ {R:Ending→World→Prop} {w0:World} {p0:Value} {p1 p2:Int} (h:mN R w0 (aR w0) p0 p1 p2):Calls pg 118 #[p0,(I p1),(I p2)] w0 R:=
 aM (pl:=ub) Tryz.func118 (by kernel_rfl) (by kernel_rfl) h
theorem V6 {R:Ending→World→Prop} {w0:World} {aX bo bt dw bZ dP:Int} (h:J6 R w0 (aR w0) aX bo bt dw bZ dP):Calls pg 119 #[(.agg #[(I aX),(I bo),(I bt)]),(.agg #[(I dw),(I bZ),(I dP)])] w0 R:=
 aM (pl:=VM) Tryz.func119 (by kernel_rfl) (by kernel_rfl) h
theorem Gs (h:xK R w0 (aR w0) p0 p1):Calls pg 120 #[p0,p1] w0 R:=cv ⟨30,[],[],[0,1,5,9,10,11,12],[],[11]⟩ Tryz.func120 h
theorem BB {R:Ending→World→Prop} {w0:World} {p0:Value} {p1:Int} (h:sV R w0 (aR w0) p0 p1):Calls pg 123 #[p0,(I p1)] w0 R:=
 aM (pl:=Bz) Tryz.func123 (by kernel_rfl) (by kernel_rfl) h
theorem CG {R:Ending→World→Prop} {w0:World} {p0:Value} {p1:Int} (h:tP R w0 (aR w0) p0 p1):Calls pg 124 #[p0,(I p1)] w0 R:=
 aM (pl:=CD) Tryz.func124 (by kernel_rfl) (by kernel_rfl) h
theorem V7 {R:Ending→World→Prop} {w0:World} {aX bo:Int} {bt bN:Nat} (h:J7 R w0 (aR w0) aX bo bt bN):Calls pg 125 #[(.agg #[(I aX),(I bo),(.float .f64 bt),(.float .f64 bN)])] w0 R:=
 aM (pl:=VN) Tryz.func125 (by kernel_rfl) (by kernel_rfl) h
theorem XN {R:Ending→World→Prop} {w0:World} {p0:ByteArray} {p1:Int} (h:Mq R w0 (aR w0) p0 p1):Calls pg 126 #[(.string p0),(I p1)] w0 R:=
 aM (pl:=XB) Tryz.func126 (by kernel_rfl) (by kernel_rfl) h
theorem nj (h:iH R w0 (aR w0) p0):Calls pg 127 #[p0] w0 R:=cv ⟨4,[],[],[0,1,2],[],[]⟩ Tryz.func127 h
theorem Ih {R:Ending→World→Prop} {w0:World} {p0:Value} {p1:ByteArray} (h:yN R w0 (aR w0) p0 p1):Calls pg 130 #[p0,(.string p1)] w0 R:=
 aM (pl:=H9) Tryz.func130 (by kernel_rfl) (by kernel_rfl) h
theorem Kn (h:Aa R w0 (aR w0) p0 p1):Calls pg 132 #[p0,p1] w0 R:=cv ⟨26,[],[],[0,1,8],[],[]⟩ Tryz.func132 h
theorem GO (h:yc R w0 (aR w0) p0 p1):Calls pg 133 #[p0,p1] w0 R:=cv ⟨33,[],[],[0,1],[],[]⟩ Tryz.func133 h
theorem En (h:vx R w0 (aR w0) p0 p1):Calls pg 134 #[p0,p1] w0 R:=cv ⟨28,[],[],[0,1],[],[]⟩ Tryz.func134 h
theorem Lv (h:A7 R w0 (aR w0) p0 p1 p2):Calls pg 135 #[p0,p1,p2] w0 R:=cv ⟨63,[],[],[0,1,2,6,7,8,17,38,39,40,46],[],[39]⟩ Tryz.func135 h
theorem Ko (h:Ab R w0 (aR w0) p0 p1):Calls pg 136 #[p0,p1] w0 R:=cv ⟨19,[],[],[0,1],[],[]⟩ Tryz.func136 h
theorem Ii (h:yO R w0 (aR w0) p0 p1):Calls pg 137 #[p0,p1] w0 R:=cv ⟨26,[],[],[0,1,8],[],[]⟩ Tryz.func137 h
theorem GP (h:yd R w0 (aR w0) p0 p1):Calls pg 138 #[p0,p1] w0 R:=cv ⟨19,[],[],[0,1],[],[]⟩ Tryz.func138 h
theorem GQ (h:ye R w0 (aR w0) p0 p1):Calls pg 139 #[p0,p1] w0 R:=cv ⟨26,[],[],[0,1,8],[],[]⟩ Tryz.func139 h
theorem CP (h:uu R w0 (aR w0) p0 p1 p2):Calls pg 140 #[p0,p1,p2] w0 R:=cv ⟨63,[(8,(pg.cellsOf 64))],[],[0,1,2,6,7,17,38,39,40,46],[],[39]⟩ Tryz.func140 h
theorem GR (h:yf R w0 (aR w0) p0 p1):Calls pg 141 #[p0,p1] w0 R:=cv ⟨14,[],[],[0,1],[],[]⟩ Tryz.func141 h
theorem Eo (h:vy R w0 (aR w0) p0 p1 p2):Calls pg 142 #[p0,p1,p2] w0 R:=cv ⟨63,[(8,(pg.cellsOf 247))],[],[0,1,2,6,7,17,38,39,40,46],[],[39]⟩ Tryz.func142 h
theorem Ij (h:yP R w0 (aR w0) p0 p1):Calls pg 143 #[p0,p1] w0 R:=cv ⟨14,[],[],[0,1],[],[]⟩ Tryz.func143 h
theorem XO {R:Ending→World→Prop} {w0:World} {aX bo bt bN cd cr cp cy dh cX:Int} {bO:Bool} {bM:Int} {cZ:Nat} {cP cN cO cQ:Value} {cT cE:Int} {cz cG:Nat} {cH cA cM cB cI cJ:Int} {cK cL:Value} (h:Mr R w0 (aR w0) aX bo bt bN cd cr cp cy dh cX bO bM cZ cP cN cO cQ cT cE cz cG cH cA cM cB cI cJ cK cL):Calls pg 145 #[(.agg #[(I aX),(I bo),(I bt),(I bN),(I cd),(I cr),(I cp),(I cy),(I dh),(I cX),(B bO),(I bM),(.float .f64 cZ),cP,cN,cO,cQ,(I cT),(I cE),(.float .f64 cz),(.float .f64 cG),(I cH),(I cA),(I cM),(I cB),(I cI),(I cJ),cK,cL])] w0 R:=
 aM (pl:=XC) Tryz.func145 (by kernel_rfl) (by kernel_rfl) h
theorem Lw (h:A8 R w0 (aR w0)):Calls pg 146 #[] w0 R:=cv ⟨3,[],[],[0],[],[]⟩ Tryz.func146 h
theorem GS (h:yh R w0 (aR w0) p0):Calls pg 147 #[p0] w0 R:=cv ⟨9,[],[],[0,2],[],[]⟩ Tryz.func147 h
theorem Ar (h:rV R w0 (aR w0) p0):Calls pg 148 #[p0] w0 R:=cv ⟨8,[],[],[0,2,4],[],[]⟩ Tryz.func148 h
theorem QJ (h:Fg R w0 (aR w0) p0):Calls pg 149 #[p0] w0 R:=cv ⟨27,[],[],[0,2,3,4,7],[],[]⟩ Tryz.func149 h
theorem Ik {R:Ending→World→Prop} {w0:World} {p0:Value} {p1:ByteArray} {p2:Value} (h:yQ R w0 (aR w0) p0 p1 p2):Calls pg 150 #[p0,(.string p1),p2] w0 R:=
 aM (pl:=Ia) Tryz.func150 (by kernel_rfl) (by kernel_rfl) h
theorem Lx {R:Ending→World→Prop} {w0:World} {p0:Value} {p1:ByteArray} (h:A9 R w0 (aR w0) p0 p1):Calls pg 151 #[p0,(.string p1)] w0 R:=
 aM (pl:=Lo) Tryz.func151 (by kernel_rfl) (by kernel_rfl) h
theorem Le {R:Ending→World→Prop} {w0:World} {p0:Value} {p1:Int} (h:AI R w0 (aR w0) p0 p1):Calls pg 152 #[p0,(I p1)] w0 R:=
 aM (pl:=Lp) Tryz.func152 (by kernel_rfl) (by kernel_rfl) h
theorem MM {R:Ending→World→Prop} {w0:World} {p0:Value} {p1:ByteArray} (h:B5 R w0 (aR w0) p0 p1):Calls pg 153 #[p0,(.string p1)] w0 R:=
 aM (pl:=Nx) Tryz.func153 (by kernel_rfl) (by kernel_rfl) h
theorem qj (h:jJ R w0 (aR w0) p0):Calls pg 155 #[p0] w0 R:=cv ⟨4,[],[],[0,1,2],[],[]⟩ Tryz.func155 h
theorem wy (h:oz R w0 (aR w0) p0):Calls pg 156 #[p0] w0 R:=cv ⟨8,[],[],[0,2,4],[],[]⟩ Tryz.func156 h
theorem tu (h:mA R w0 (aR w0) p0):Calls pg 157 #[p0] w0 R:=cv ⟨8,[],[],[0,2,4],[],[]⟩ Tryz.func157 h
theorem sH (h:lZ R w0 (aR w0) p0):Calls pg 158 #[p0] w0 R:=cv ⟨8,[],[],[0,2,4],[],[]⟩ Tryz.func158 h
theorem rY (h:lG R w0 (aR w0) p0 p1):Calls pg 159 #[p0,p1] w0 R:=cv ⟨14,[],[],[0,1,4],[],[]⟩ Tryz.func159 h
theorem wz {R:Ending→World→Prop} {w0:World} {p0:Value} {p1:ByteArray} (h:oA R w0 (aR w0) p0 p1):Calls pg 163 #[p0,(.string p1)] w0 R:=
 aM (pl:=wv) Tryz.func163 (by kernel_rfl) (by kernel_rfl) h
theorem XP {R:Ending→World→Prop} {w0:World} {p0:Nat} (h:Ms R w0 (aR w0) p0):Calls pg 164 #[(.float .f64 p0)] w0 R:=
 aM (pl:=XD) Tryz.func164 (by kernel_rfl) (by kernel_rfl) h
theorem V8 {R:Ending→World→Prop} {w0:World} {p0:Nat} (h:J8 R w0 (aR w0) p0):Calls pg 166 #[(.float .f64 p0)] w0 R:=
 aM (pl:=VO) Tryz.func166 (by kernel_rfl) (by kernel_rfl) h
theorem SB {R:Ending→World→Prop} {w0:World} {p0:Bool} (h:Hs R w0 (aR w0) p0):Calls pg 167 #[(B p0)] w0 R:=
 aM (pl:=SQ) Tryz.func167 (by kernel_rfl) (by kernel_rfl) h
theorem MQ {R:Ending→World→Prop} {w0:World} {aX:Int} {bo:Nat} {bt:ByteArray} {dw:Int} {bZ:Nat} {dP:ByteArray} (h:Cd R w0 (aR w0) aX bo bt dw bZ dP):Calls pg 168 #[(.agg #[(I aX),(.float .f64 bo),(.string bt)]),(.agg #[(I dw),(.float .f64 bZ),(.string dP)])] w0 R:=
 aM (pl:=Ny) Tryz.func168 (by kernel_rfl) (by kernel_rfl) h
theorem PY {R:Ending→World→Prop} {w0:World} {p0 dw:Int} {bZ:Nat} {dP:ByteArray} {gQ:Int} {gL:Nat} {iF:ByteArray} (h:EP R w0 (aR w0) p0 dw bZ dP gQ gL iF):Calls pg 169 #[(I p0),(.agg #[(I dw),(.float .f64 bZ),(.string dP)]),(.agg #[(I gQ),(.float .f64 gL),(.string iF)])] w0 R:=
 aM (pl:=Qv) Tryz.func169 (by kernel_rfl) (by kernel_rfl) h
theorem wi {R:Ending→World→Prop} {w0:World} {p0:Value} {p1 p2 p3:Int} {p4:Value} (h:oq R w0 (aR w0) p0 p1 p2 p3 p4):Calls pg 172 #[p0,(I p1),(I p2),(I p3),p4] w0 R:=
 aM (pl:=wx) Tryz.func172 (by kernel_rfl) (by kernel_rfl) h
theorem QK {R:Ending→World→Prop} {w0:World} {p0:Int} (h:Fh R w0 (aR w0) p0):Calls pg 173 #[(I p0)] w0 R:=
 aM (pl:=Qw) Tryz.func173 (by kernel_rfl) (by kernel_rfl) h
theorem SX {R:Ending→World→Prop} {w0:World} {aX bo bt bN cd cr cp cy dh cX bO bM cZ cP cN:Int} {cO:Bool} {cQ cT:Int} {cE cz cG cH cA cM:Value} {cB cI:Int} {cJ cK:Nat} {cL eI eJ eK eM eO:Int} {eP eQ:Value} (h:HG R w0 (aR w0) aX bo bt bN cd cr cp cy dh cX bO bM cZ cP cN cO cQ cT cE cz cG cH cA cM cB cI cJ cK cL eI eJ eK eM eO eP eQ):Calls pg 174 #[(.agg #[(I aX),(I bo),(I bt),(I bN),(I cd),(I cr),(I cp),(I cy),(I dh),(I cX),(I bO),(I bM),(I cZ),(I cP),(I cN),(B cO),(I cQ),(I cT),cE,cz,cG,cH,cA,cM,(I cB),(I cI),(.float .f64 cJ),(.float .f64 cK),(I cL),(I eI),(I eJ),(I eK),(I eM),(I eO),eP,eQ])] w0 R:=
 aM (pl:=SR) Tryz.func174 (by kernel_rfl) (by kernel_rfl) h
theorem SY (h:HH R w0 (aR w0) p0):Calls pg 175 #[p0] w0 R:=cv ⟨24,[(4,(pg.cellsOf 99))],[],[0,2,6,7,8,9,10,19],[],[9]⟩ Tryz.func175 h
theorem NC {R:Ending→World→Prop} {w0:World} {aX bo:Int} {bt bN:Nat} {cd cr cp cy dh cX:Int} {bO bM:Value} (h:CE R w0 (aR w0) aX bo bt bN cd cr cp cy dh cX bO bM):Calls pg 176 #[(.agg #[(I aX),(I bo),(.float .f64 bt),(.float .f64 bN),(I cd),(I cr),(I cp),(I cy),(I dh),(I cX),bO,bM])] w0 R:=
 aM (pl:=Nz) Tryz.func176 (by kernel_rfl) (by kernel_rfl) h
theorem SZ {R:Ending→World→Prop} {w0:World} {aX bo bt dw bZ dP gQ gL iF:Int} {p3:Value} (h:HI R w0 (aR w0) aX bo bt dw bZ dP gQ gL iF p3):Calls pg 177 #[(.agg #[(I aX),(I bo),(I bt)]),(.agg #[(I dw),(I bZ),(I dP)]),(.agg #[(I gQ),(I gL),(I iF)]),p3] w0 R:=
 aM (pl:=SS) Tryz.func177 (by kernel_rfl) (by kernel_rfl) h
theorem CN {R:Ending→World→Prop} {w0:World} {p0:Value} {p1:Int} (h:um R w0 (aR w0) p0 p1):Calls pg 178 #[p0,(I p1)] w0 R:=
 aM (pl:=CO) Tryz.func178 (by kernel_rfl) (by kernel_rfl) h
theorem FN {R:Ending→World→Prop} {w0:World} {p0:Value} {dw bZ dP:Int} (h:xl R w0 (aR w0) p0 dw bZ dP):Calls pg 179 #[p0,(.agg #[(I dw),(I bZ),(I dP)])] w0 R:=
 aM (pl:=GG) Tryz.func179 (by kernel_rfl) (by kernel_rfl) h
theorem QL {R:Ending→World→Prop} {w0:World} {aX bo bt dw bZ dP:Int} (h:Fi R w0 (aR w0) aX bo bt dw bZ dP):Calls pg 180 #[(.agg #[(I aX),(I bo),(I bt)]),(.agg #[(I dw),(I bZ),(I dP)])] w0 R:=
 aM (pl:=Qx) Tryz.func180 (by kernel_rfl) (by kernel_rfl) h
theorem QM {R:Ending→World→Prop} {w0:World} {p0:Nat} (h:Fj R w0 (aR w0) p0):Calls pg 181 #[(.float .f64 p0)] w0 R:=
 aM (pl:=Qy) Tryz.func181 (by kernel_rfl) (by kernel_rfl) h
theorem V9 (h:J9 R w0 (aR w0) p0):Calls pg 184 #[p0] w0 R:=cv ⟨54,[],[],[0,2,3,5,6,8,11,12,13,14,15,22,23,36,37,38,39],[],[3,14,22,38]⟩ Tryz.func184 h
theorem Wa {R:Ending→World→Prop} {w0:World} {p0:ByteArray} (h:Ka R w0 (aR w0) p0):Calls pg 185 #[(.string p0)] w0 R:=
 aM (pl:=VP) Tryz.func185 (by kernel_rfl) (by kernel_rfl) h
theorem Kq {R:Ending→World→Prop} {w0:World} {p0:Value} {p1:Int} {p2:Value} (h:Ac R w0 (aR w0) p0 p1 p2):Calls pg 186 #[p0,(I p1),p2] w0 R:=
 aM (pl:=Kb) Tryz.func186 (by kernel_rfl) (by kernel_rfl) h
theorem Ep {R:Ending→World→Prop} {w0:World} {c0 c1:Value} (h:vz R w0 (aR w0) c0 c1):Calls pg 187 #[c0,c1] w0 R:=
 aM (pl:=El) Tryz.func187 (by kernel_rfl) (by kernel_rfl) h
theorem ND {R:Ending→World→Prop} {w0:World} {p0:Value} {p1:ByteArray} (h:CF R w0 (aR w0) p0 p1):Calls pg 188 #[p0,(.string p1)] w0 R:=
 aM (pl:=NA) Tryz.func188 (by kernel_rfl) (by kernel_rfl) h
theorem Kr {R:Ending→World→Prop} {w0:World} {p0:Value} {p1:Int} (h:Ad R w0 (aR w0) p0 p1):Calls pg 190 #[p0,(I p1)] w0 R:=
 aM (pl:=Kc) Tryz.func190 (by kernel_rfl) (by kernel_rfl) h
theorem GU (h:yi R w0 (aR w0) p0 p1):Calls pg 193 #[p0,p1] w0 R:=cv ⟨24,[],[],[0,1],[],[]⟩ Tryz.func193 h
theorem BC (h:sW R w0 (aR w0) p0 p1 p2):Calls pg 194 #[p0,p1,p2] w0 R:=cv ⟨63,[(8,(pg.cellsOf 320))],[],[0,1,2,6,7,17,38,39,40,46],[],[39]⟩ Tryz.func194 h
theorem Er (h:vA R w0 (aR w0) p0 p1):Calls pg 195 #[p0,p1] w0 R:=cv ⟨16,[],[],[0,1],[],[]⟩ Tryz.func195 h
theorem BD (h:sX R w0 (aR w0) p0 p1 p2):Calls pg 196 #[p0,p1,p2] w0 R:=cv ⟨63,[(8,(pg.cellsOf 266))],[],[0,1,2,6,7,17,38,39,40,46],[],[39]⟩ Tryz.func196 h
theorem GW (h:yj R w0 (aR w0) p0 p1 p2):Calls pg 197 #[p0,p1,p2] w0 R:=cv ⟨63,[],[],[0,1,2,6,7,8,17,38,39,40,46],[],[39]⟩ Tryz.func197 h
theorem Il (h:yR R w0 (aR w0) p0 p1):Calls pg 198 #[p0,p1] w0 R:=cv ⟨26,[],[],[0,1,8],[],[]⟩ Tryz.func198 h
theorem Im {R:Ending→World→Prop} {w0:World} {p0:Value} {p1:Bool} (h:yS R w0 (aR w0) p0 p1):Calls pg 201 #[p0,(B p1)] w0 R:=
 aM (pl:=Ib) Tryz.func201 (by kernel_rfl) (by kernel_rfl) h
theorem GX {R:Ending→World→Prop} {w0:World} {p0:Value} {p1:Nat} (h:yk R w0 (aR w0) p0 p1):Calls pg 203 #[p0,(.float .f64 p1)] w0 R:=
 aM (pl:=GH) Tryz.func203 (by kernel_rfl) (by kernel_rfl) h
theorem GY (h:yl R w0 (aR w0) p0 p1):Calls pg 205 #[p0,p1] w0 R:=cv ⟨26,[],[],[0,1,8],[],[]⟩ Tryz.func205 h
theorem Pv {R:Ending→World→Prop} {w0:World} {aX bo bt bN cd cr cp cy dh cX:Int} {bO:Bool} {bM:Int} {cZ:Nat} {cP cN cO cQ:Value} {cT cE:Int} {cz cG:Nat} {cH cA cM cB cI cJ:Int} {cK cL:Value} (h:DP R w0 (aR w0) aX bo bt bN cd cr cp cy dh cX bO bM cZ cP cN cO cQ cT cE cz cG cH cA cM cB cI cJ cK cL):Calls pg 206 #[(.agg #[(I aX),(I bo),(I bt),(I bN),(I cd),(I cr),(I cp),(I cy),(I dh),(I cX),(B bO),(I bM),(.float .f64 cZ),cP,cN,cO,cQ,(I cT),(I cE),(.float .f64 cz),(.float .f64 cG),(I cH),(I cA),(I cM),(I cB),(I cI),(I cJ),cK,cL])] w0 R:=
 aM (pl:=Pm) Tryz.func206 (by kernel_rfl) (by kernel_rfl) h
theorem Wb {R:Ending→World→Prop} {w0:World} {aX bo bt bN cd cr cp cy dh cX:Int} {bO:Bool} {bM:Int} {cZ:Nat} {cP cN cO cQ:Value} {cT cE:Int} {cz cG:Nat} {cH cA cM cB cI cJ:Int} {cK cL:Value} (h:Kd R w0 (aR w0) aX bo bt bN cd cr cp cy dh cX bO bM cZ cP cN cO cQ cT cE cz cG cH cA cM cB cI cJ cK cL):Calls pg 207 #[(.agg #[(I aX),(I bo),(I bt),(I bN),(I cd),(I cr),(I cp),(I cy),(I dh),(I cX),(B bO),(I bM),(.float .f64 cZ),cP,cN,cO,cQ,(I cT),(I cE),(.float .f64 cz),(.float .f64 cG),(I cH),(I cA),(I cM),(I cB),(I cI),(I cJ),cK,cL])] w0 R:=
 aM (pl:=VQ) Tryz.func207 (by kernel_rfl) (by kernel_rfl) h
theorem QN {R:Ending→World→Prop} {w0:World} {aX bo bt bN cd cr cp cy dh cX:Int} {bO:Bool} {bM:Int} {cZ:Nat} {cP cN cO cQ:Value} {cT cE:Int} {cz cG:Nat} {cH cA cM cB cI cJ:Int} {cK cL:Value} (h:Fk R w0 (aR w0) aX bo bt bN cd cr cp cy dh cX bO bM cZ cP cN cO cQ cT cE cz cG cH cA cM cB cI cJ cK cL):Calls pg 208 #[(.agg #[(I aX),(I bo),(I bt),(I bN),(I cd),(I cr),(I cp),(I cy),(I dh),(I cX),(B bO),(I bM),(.float .f64 cZ),cP,cN,cO,cQ,(I cT),(I cE),(.float .f64 cz),(.float .f64 cG),(I cH),(I cA),(I cM),(I cB),(I cI),(I cJ),cK,cL])] w0 R:=
 aM (pl:=Qz) Tryz.func208 (by kernel_rfl) (by kernel_rfl) h
theorem Wc {R:Ending→World→Prop} {w0:World} {p0:Value} {p1:Int} (h:Ke R w0 (aR w0) p0 p1):Calls pg 209 #[p0,(Value.int IntKind.u32 p1)] w0 R:=
 aM (pl:=VR) Tryz.func209 (by kernel_rfl) (by kernel_rfl) h
theorem Ly (h:Ba R w0 (aR w0) p0):Calls pg 210 #[p0] w0 R:=cv ⟨39,[],[],[0,2,7,27],[],[]⟩ Tryz.func210 h
theorem GZ {R:Ending→World→Prop} {w0:World} {c0 c1:Value} (h:ym R w0 (aR w0) c0 c1):Calls pg 211 #[c0,c1] w0 R:=
 aM (pl:=GI) Tryz.func211 (by kernel_rfl) (by kernel_rfl) h
theorem uW {R:Ending→World→Prop} {w0:World} {p0:Value} {p1 p2 p3:Int} {p4:Value} (h:nH R w0 (aR w0) p0 p1 p2 p3 p4):Calls pg 215 #[p0,(I p1),(I p2),(I p3),p4] w0 R:=
 aM (pl:=vB) Tryz.func215 (by kernel_rfl) (by kernel_rfl) h
theorem Wd {R:Ending→World→Prop} {w0:World} {p0:Nat} (h:Kf R w0 (aR w0) p0):Calls pg 227 #[(.float .f64 p0)] w0 R:=
 aM (pl:=VS) Tryz.func227 (by kernel_rfl) (by kernel_rfl) h
theorem Oo {R:Ending→World→Prop} {w0:World} {p0:Nat} (h:Dh R w0 (aR w0) p0):Calls pg 228 #[(.float .f64 p0)] w0 R:=
 aM (pl:=Pn) Tryz.func228 (by kernel_rfl) (by kernel_rfl) h
theorem PV {R:Ending→World→Prop} {w0:World} {p0 p1:Nat} (h:EN R w0 (aR w0) p0 p1):Calls pg 229 #[(.float .f64 p0),(.float .f64 p1)] w0 R:=
 aM (pl:=QA) Tryz.func229 (by kernel_rfl) (by kernel_rfl) h
theorem Ur {R:Ending→World→Prop} {w0:World} {p0 p1:Nat} (h:IK R w0 (aR w0) p0 p1):Calls pg 234 #[(.float .f64 p0),(.float .f64 p1)] w0 R:=
 aM (pl:=VT) Tryz.func234 (by kernel_rfl) (by kernel_rfl) h
theorem Xf {R:Ending→World→Prop} {w0:World} {p0 p1:Nat} (h:LS R w0 (aR w0) p0 p1):Calls pg 235 #[(.float .f64 p0),(.float .f64 p1)] w0 R:=
 aM (pl:=XE) Tryz.func235 (by kernel_rfl) (by kernel_rfl) h
theorem su {R:Ending→World→Prop} {w0:World} {p0:Value} {p1 p2:Int} {p3:Value} (h:lU R w0 (aR w0) p0 p1 p2 p3):Calls pg 236 #[p0,(I p1),(I p2),p3] w0 R:=
 aM (pl:=sG) Tryz.func236 (by kernel_rfl) (by kernel_rfl) h
theorem QO {R:Ending→World→Prop} {w0:World} {aX bo bt:Int} (h:Fl R w0 (aR w0) aX bo bt):Calls pg 244 #[(.agg #[(I aX),(I bo),(I bt)])] w0 R:=
 aM (pl:=QB) Tryz.func244 (by kernel_rfl) (by kernel_rfl) h
theorem We (h:Kg R w0 (aR w0) p0):Calls pg 245 #[p0] w0 R:=cv ⟨32,[],[],[0,2,3,4,5,6,7,8,27],[15,16,17,18,19,20,21,22,23,24,25,26],[7]⟩ Tryz.func245 h
theorem Wf {R:Ending→World→Prop} {w0:World} {p0:Int} {p1:Bool} {p2:Value} (h:Kh R w0 (aR w0) p0 p1 p2):Calls pg 246 #[(I p0),(B p1),p2] w0 R:=
 aM (pl:=VU) Tryz.func246 (by kernel_rfl) (by kernel_rfl) h
theorem Wg (h:Ki R w0 (aR w0) p0):Calls pg 247 #[p0] w0 R:=cv ⟨42,[(5,(pg.cellsOf 215))],[13,17,22,28,33,34],[0,2,3,6,7,8,9,38],[21,23,24,25,27,29,30,31,32,35,36,37],[3,8]⟩ Tryz.func247 h
theorem Pw (h:DQ R w0 (aR w0) p0):Calls pg 248 #[p0] w0 R:=cv ⟨24,[(5,(pg.cellsOf 64))],[13,17],[0,2,3,6,7,8,9,20],[],[3,8]⟩ Tryz.func248 h
theorem S5 (h:HJ R w0 (aR w0) p0):Calls pg 249 #[p0] w0 R:=cv ⟨35,[],[],[0,2,3,4,5,6,7,8,30],[14,15,16,18,19,20,21,22,23,24,25,26,27,28,29],[7]⟩ Tryz.func249 h
theorem XQ {R:Ending→World→Prop} {w0:World} {p0:Value} {p1:Int} (h:Mt R w0 (aR w0) p0 p1):Calls pg 250 #[p0,(I p1)] w0 R:=
 aM (pl:=XF) Tryz.func250 (by kernel_rfl) (by kernel_rfl) h
theorem Wh (h:Kj R w0 (aR w0) p0 p1):Calls pg 251 #[p0,p1] w0 R:=cv ⟨80,[(9,(pg.cellsOf 320)),(11,(pg.cellsOf 266)),(13,(pg.cellsOf 266))],[30,32,35,51,74],[0,1,4,5,6,7,12,14,16,17,18,19,25,38,39,40,41,56,60,62,66],[],[7,18,40]⟩ Tryz.func251 h
theorem Io {R:Ending→World→Prop} {w0:World} {p0:ByteArray} {c0:Value} (h:yT R w0 (aR w0) p0 c0):Calls pg 252 #[(.string p0),c0] w0 R:=
 aM (pl:=Ic) Tryz.func252 (by kernel_rfl) (by kernel_rfl) h
theorem Ks {R:Ending→World→Prop} {w0:World} {aX bo bt bN cd cr:Int} {cp cy:Value} (h:Ae R w0 (aR w0) aX bo bt bN cd cr cp cy):Calls pg 253 #[(.agg #[(I aX),(I bo),(I bt),(I bN),(I cd),(I cr),cp,cy])] w0 R:=
 aM (pl:=Kk) Tryz.func253 (by kernel_rfl) (by kernel_rfl) h
theorem sA (h:lX R w0 (aR w0) p0 p1):Calls pg 254 #[p0,p1] w0 R:=cv ⟨19,[],[],[0,1,4,5,7,8,9,16],[],[8]⟩ Tryz.func254 h
theorem Av {R:Ending→World→Prop} {w0:World} {aX bo bt bN cd cr cp cy dh cX bO bM cZ cP cN:Int} {cO:Bool} {cQ cT:Int} {cE cz cG cH cA cM:Value} {cB cI:Int} {cJ cK:Nat} {cL eI eJ eK eM eO:Int} {eP eQ c0:Value} (h:r7 R w0 (aR w0) aX bo bt bN cd cr cp cy dh cX bO bM cZ cP cN cO cQ cT cE cz cG cH cA cM cB cI cJ cK cL eI eJ eK eM eO eP eQ c0):Calls pg 255 #[(.agg #[(I aX),(I bo),(I bt),(I bN),(I cd),(I cr),(I cp),(I cy),(I dh),(I cX),(I bO),(I bM),(I cZ),(I cP),(I cN),(B cO),(I cQ),(I cT),cE,cz,cG,cH,cA,cM,(I cB),(I cI),(.float .f64 cJ),(.float .f64 cK),(I cL),(I eI),(I eJ),(I eK),(I eM),(I eO),eP,eQ]),c0] w0 R:=
 aM (pl:=Ax) Tryz.func255 (by kernel_rfl) (by kernel_rfl) h
theorem QQ (h:Fm R w0 (aR w0)):Calls pg 256 #[] w0 R:=cv ⟨24,[(0,(pg.cellsOf 385))],[],[1,2,3,4,5,9,10],[],[3,4,9]⟩ Tryz.func256 h
theorem BE (h:sY R w0 (aR w0) p0 p1 p2):Calls pg 258 #[p0,p1,p2] w0 R:=cv ⟨63,[(8,(pg.cellsOf 322))],[],[0,1,2,6,7,17,38,39,40,46],[],[39]⟩ Tryz.func258 h
theorem Es (h:vC R w0 (aR w0) p0 p1):Calls pg 259 #[p0,p1] w0 R:=cv ⟨14,[],[],[0,1],[],[]⟩ Tryz.func259 h
theorem Ip {R:Ending→World→Prop} {w0:World} {p0:Value} {p1:ByteArray} (h:yU R w0 (aR w0) p0 p1):Calls pg 260 #[p0,(.string p1)] w0 R:=
 aM (pl:=Ie) Tryz.func260 (by kernel_rfl) (by kernel_rfl) h
theorem Wi {R:Ending→World→Prop} {w0:World} {p0:Value} {dw:Int} {bZ:Nat} {dP:ByteArray} (h:Kl R w0 (aR w0) p0 dw bZ dP):Calls pg 265 #[p0,(.agg #[(I dw),(.float .f64 bZ),(.string dP)])] w0 R:=
 aM (pl:=VV) Tryz.func265 (by kernel_rfl) (by kernel_rfl) h
theorem Lz {R:Ending→World→Prop} {w0:World} {aX bo:Int} {bt bN:Nat} {cd cr cp cy dh cX:Int} {bO bM:Value} (h:Bb R w0 (aR w0) aX bo bt bN cd cr cp cy dh cX bO bM):Calls pg 267 #[(.agg #[(I aX),(I bo),(.float .f64 bt),(.float .f64 bN),(I cd),(I cr),(I cp),(I cy),(I dh),(I cX),bO,bM])] w0 R:=
 aM (pl:=Lq) Tryz.func267 (by kernel_rfl) (by kernel_rfl) h
theorem Px {R:Ending→World→Prop} {w0:World} {p0:Bool} {dw bZ dP:Int} (h:DR R w0 (aR w0) p0 dw bZ dP):Calls pg 268 #[(B p0),(.agg #[(I dw),(I bZ),(I dP)])] w0 R:=
 aM (pl:=Po) Tryz.func268 (by kernel_rfl) (by kernel_rfl) h
theorem QR {R:Ending→World→Prop} {w0:World} {p0:Nat} (h:Fo R w0 (aR w0) p0):Calls pg 269 #[(.float .f64 p0)] w0 R:=
 aM (pl:=QC) Tryz.func269 (by kernel_rfl) (by kernel_rfl) h
theorem QS {R:Ending→World→Prop} {w0:World} {p0:Int} (h:Fp R w0 (aR w0) p0):Calls pg 270 #[(I p0)] w0 R:=
 aM (pl:=QD) Tryz.func270 (by kernel_rfl) (by kernel_rfl) h
theorem QT {R:Ending→World→Prop} {w0:World} {aX bo bt:Int} (h:Fq R w0 (aR w0) aX bo bt):Calls pg 271 #[(.agg #[(I aX),(I bo),(I bt)])] w0 R:=
 aM (pl:=QE) Tryz.func271 (by kernel_rfl) (by kernel_rfl) h
theorem S6 (h:HK R w0 (aR w0) p0):Calls pg 272 #[p0] w0 R:=cv ⟨44,[(4,(pg.cellsOf 247))],[12,26,32,38,39],[0,2,3,5,6,7,8,42],[16,17,18,19,20,21,22,23,24,25,27,28,29,31,33,34,35,37,40,41],[7]⟩ Tryz.func272 h
theorem rX {R:Ending→World→Prop} {w0:World} {p0:Value} {p1 p2:Int} {p3:Value} (h:lF R w0 (aR w0) p0 p1 p2 p3):Calls pg 275 #[p0,(I p1),(I p2),p3] w0 R:=
 aM (pl:=r9) Tryz.func275 (by kernel_rfl) (by kernel_rfl) h
theorem Xd {R:Ending→World→Prop} {w0:World} {p0:Nat} (h:LR R w0 (aR w0) p0):Calls pg 290 #[(.float .f64 p0)] w0 R:=
 aM (pl:=XG) Tryz.func290 (by kernel_rfl) (by kernel_rfl) h
theorem S7 (h:HL R w0 (aR w0) p0):Calls pg 294 #[p0] w0 R:=cv ⟨18,[(4,(pg.cellsOf 38))],[],[0,2,5,6,7,8,13],[],[7]⟩ Tryz.func294 h
theorem XR (h:Mu R w0 (aR w0)):Calls pg 295 #[] w0 R:=cv ⟨5,[],[],[0],[],[]⟩ Tryz.func295 h
theorem Py {R:Ending→World→Prop} {w0:World} {aX:ByteArray} {bo:Value} {p1:ByteArray} (h:DS R w0 (aR w0) aX bo p1):Calls pg 296 #[(.agg #[(.string aX),bo]),(.string p1)] w0 R:=
 aM (pl:=Pp) Tryz.func296 (by kernel_rfl) (by kernel_rfl) h
theorem rl (h:km R w0 (aR w0) p0):Calls pg 297 #[p0] w0 R:=cv ⟨8,[],[],[0,2,4],[],[]⟩ Tryz.func297 h
theorem G6 {R:Ending→World→Prop} {w0:World} {p0:Value} {dw bZ dP iq iz jw:Int} {iN ja:Value} (h:yn R w0 (aR w0) p0 dw bZ dP iq iz jw iN ja):Calls pg 298 #[p0,(.agg #[(I dw),(I bZ),(I dP),(I iq),(I iz),(I jw),iN,ja])] w0 R:=
 aM (pl:=GJ) Tryz.func298 (by kernel_rfl) (by kernel_rfl) h
theorem LA {R:Ending→World→Prop} {w0:World} {p0:Value} {dw bZ dP iq iz jw:Int} {iN ja:Value} (h:Bc R w0 (aR w0) p0 dw bZ dP iq iz jw iN ja):Calls pg 299 #[p0,(.agg #[(I dw),(I bZ),(I dP),(I iq),(I iz),(I jw),iN,ja])] w0 R:=
 aM (pl:=Lr) Tryz.func299 (by kernel_rfl) (by kernel_rfl) h
theorem S8 {R:Ending→World→Prop} {w0:World} {aX bo bt bN cd cr:Int} {cp cy:Value} (h:HM R w0 (aR w0) aX bo bt bN cd cr cp cy):Calls pg 300 #[(.agg #[(I aX),(I bo),(I bt),(I bN),(I cd),(I cr),cp,cy])] w0 R:=
 aM (pl:=SU) Tryz.func300 (by kernel_rfl) (by kernel_rfl) h
theorem Wj (h:Km R w0 (aR w0) p0):Calls pg 301 #[p0] w0 R:=cv ⟨32,[],[],[0,2,3,4,5,6,7,8,27],[15,16,17,18,19,20,21,22,23,24,25,26],[7]⟩ Tryz.func301 h
theorem LB (h:Bd R w0 (aR w0) p0):Calls pg 302 #[p0] w0 R:=cv ⟨19,[(5,(pg.cellsOf 64))],[13],[0,2,3,6,7,8,9],[],[3,8]⟩ Tryz.func302 h
theorem QU {R:Ending→World→Prop} {w0:World} {aX bo bt bN cd cr:Int} {cp cy:Value} {p1:ByteArray} (h:Fs R w0 (aR w0) aX bo bt bN cd cr cp cy p1):Calls pg 318 #[(.agg #[(I aX),(I bo),(I bt),(I bN),(I cd),(I cr),cp,cy]),(.string p1)] w0 R:=
 aM (pl:=QF) Tryz.func318 (by kernel_rfl) (by kernel_rfl) h
theorem G7 {R:Ending→World→Prop} {w0:World} {p0:Value} {p1:ByteArray} (h:yp R w0 (aR w0) p0 p1):Calls pg 319 #[p0,(.string p1)] w0 R:=
 aM (pl:=GK) Tryz.func319 (by kernel_rfl) (by kernel_rfl) h
theorem qb (h:jD R w0 (aR w0) p0 p1):Calls pg 325 #[p0,p1] w0 R:=cv ⟨9,[],[],[0,1,4],[],[]⟩ Tryz.func325 h
theorem LC {R:Ending→World→Prop} {w0:World} {aX:ByteArray} {bo:Int} {bt:Nat} {bN:ByteArray} {c0:Value} (h:Be R w0 (aR w0) aX bo bt bN c0):Calls pg 326 #[(.agg #[(.string aX),(I bo),(.float .f64 bt),(.string bN)]),c0] w0 R:=
 aM (pl:=Ls) Tryz.func326 (by kernel_rfl) (by kernel_rfl) h
theorem G8 {R:Ending→World→Prop} {w0:World} {p0:Value} {p1:ByteArray} {gQ gL iF:Int} {p3:Bool} (h:yq R w0 (aR w0) p0 p1 gQ gL iF p3):Calls pg 327 #[p0,(.string p1),(.agg #[(I gQ),(I gL),(I iF)]),(B p3)] w0 R:=
 aM (pl:=GN) Tryz.func327 (by kernel_rfl) (by kernel_rfl) h
theorem rp (h:ko R w0 (aR w0) p0 p1):Calls pg 329 #[p0,p1] w0 R:=cv ⟨19,[],[],[0,1,4,5,7,8,9,16],[],[8]⟩ Tryz.func329 h
theorem Jj {R:Ending→World→Prop} {w0:World} {p0:Value} {p1:Int} {p2:Value} (lP: ∀g,Au Tryz.f8=some g→Idle pg g) (hR: ∀ch w,¬R (.panicked ch) w) (h:tA R w0 (aR w0) p0 p1 p2):Calls pg 8 #[p0,(I p1),p2] w0 R:=
 JR (pl:=pZ) Tryz.func8 (by kernel_rfl) lP hR (by kernel_rfl) h
theorem aa2 {R:Ending→World→Prop} {RP:List PanicEntry→World→Prop} {g0:FuncId} {cb:List Nat} {cv:List (Option Value)} {w0:World} {p0:Value} {p1:Int} {p2:Value} (lP: ∀g,Au Tryz.f8=some g→Idle pg g) (k6:aaB pg pZ Tryz.f8 #[p0,(I p1),p2]=some (g0,cb,cv)) (xw:KO pg pZ Tryz.f8 R g0 cb cv RP) (h:tA (Br R RP) w0 (aR w0) p0 p1 p2):Calls pg 8 #[p0,(I p1),p2] w0 R:=
 JO (pl:=pZ) Tryz.func8 (by kernel_rfl) lP k6 xw (by kernel_rfl) h
theorem Js {R:Ending→World→Prop} {w0:World} {p0:Value} {p1 gQ gL iF oV oW oX oY oZ o9 tO pz pA pB pC pD:Int} {pE:Bool} {pF pG:Int} {pH pI pJ pK pL pM:Value} {pN pO:Int} {pP pQ:Nat} {pR pS pT pU pV pW:Int} {pX pY:Value} (lP: ∀g,Au Tryz.f16=some g→Idle pg g) (hR: ∀ch w,¬R (.panicked ch) w) (h:tD R w0 (aR w0) p0 p1 gQ gL iF oV oW oX oY oZ o9 tO pz pA pB pC pD pE pF pG pH pI pJ pK pL pM pN pO pP pQ pR pS pT pU pV pW pX pY):Calls pg 16 #[p0,(I p1),(.agg #[(I gQ),(I gL),(I iF),(I oV),(I oW),(I oX),(I oY),(I oZ),(I o9),(I tO),(I pz),(I pA),(I pB),(I pC),(I pD),(B pE),(I pF),(I pG),pH,pI,pJ,pK,pL,pM,(I pN),(I pO),(.float .f64 pP),(.float .f64 pQ),(I pR),(I pS),(I pT),(I pU),(I pV),(I pW),pX,pY])] w0 R:=
 JR (pl:=qa) Tryz.func16 (by kernel_rfl) lP hR (by kernel_rfl) h
theorem aa3 {R:Ending→World→Prop} {RP:List PanicEntry→World→Prop} {g0:FuncId} {cb:List Nat} {cv:List (Option Value)} {w0:World} {p0:Value} {p1 gQ gL iF oV oW oX oY oZ o9 tO pz pA pB pC pD:Int} {pE:Bool} {pF pG:Int} {pH pI pJ pK pL pM:Value} {pN pO:Int} {pP pQ:Nat} {pR pS pT pU pV pW:Int} {pX pY:Value} (lP: ∀g,Au Tryz.f16=some g→Idle pg g) (k6:aaB pg qa Tryz.f16 #[p0,(I p1),(.agg #[(I gQ),(I gL),(I iF),(I oV),(I oW),(I oX),(I oY),(I oZ),(I o9),(I tO),(I pz),(I pA),(I pB),(I pC),(I pD),(B pE),(I pF),(I pG),pH,pI,pJ,pK,pL,pM,(I pN),(I pO),(.float .f64 pP),(.float .f64 pQ),(I pR),(I pS),(I pT),(I pU),(I pV),(I pW),pX,pY])]=some (g0,cb,cv)) (xw:KO pg qa Tryz.f16 R g0 cb cv RP) (h:tD (Br R RP) w0 (aR w0) p0 p1 gQ gL iF oV oW oX oY oZ o9 tO pz pA pB pC pD pE pF pG pH pI pJ pK pL pM pN pO pP pQ pR pS pT pU pV pW pX pY):Calls pg 16 #[p0,(I p1),(.agg #[(I gQ),(I gL),(I iF),(I oV),(I oW),(I oX),(I oY),(I oZ),(I o9),(I tO),(I pz),(I pA),(I pB),(I pC),(I pD),(B pE),(I pF),(I pG),pH,pI,pJ,pK,pL,pM,(I pN),(I pO),(.float .f64 pP),(.float .f64 pQ),(I pR),(I pS),(I pT),(I pU),(I pV),(I pW),pX,pY])] w0 R:=
 JO (pl:=qa) Tryz.func16 (by kernel_rfl) lP k6 xw (by kernel_rfl) h
end
end Go.Proofs.YtbpnemeooenpmaaGreat
namespace Go.Proofs.YtbpnemeooenpmaaGreat
open Go.Proofs.Tryz renaming prog → pg
open Go.aV
set_option maxRecDepth 100000
set_option maxHeartbeats 1000000
set_option linter.unusedVariables false
set_option linter.unusedSimpArgs false
abbrev BA:=ByteArray
@[ext] structure cw where
 wall:Int
 ep:Int
 node:Int
 deriving DecidableEq
abbrev cw.l (s:cw):List Value:=[I s.wall,I s.ep,I s.node]
abbrev cw.v (s:cw):Value:=.agg #[I s.wall,I s.ep,I s.node]
abbrev cw.zero:cw:=⟨0,0,0⟩
@[ext] structure dc where
 gM:Int
 ga:Int
 sq:Int
 deriving DecidableEq
abbrev dc.l (s:dc):List Value:=[I s.gM,I s.ga,I s.sq]
abbrev dc.v (s:dc):Value:=.agg #[I s.gM,I s.ga,I s.sq]
abbrev dc.zero:dc:=⟨0,0,0⟩
@[ext] structure fS where
 kind:Int
 num:Nat
 text:BA
 deriving DecidableEq
abbrev fS.l (x:fS):List Value:=[I x.kind,.float .f64 x.num,.string x.text]
abbrev fS.v (x:fS):Value:=.agg #[I x.kind,.float .f64 x.num,.string x.text]
abbrev fS.zero:fS:=⟨0,0,⟨#[]⟩⟩
@[ext] structure KV where
 key:BA
 val:fS
 deriving DecidableEq
abbrev KV.l (x:KV):List Value:=[.string x.key,I x.val.kind,.float .f64 x.val.num,.string x.val.text]
abbrev KV.v (x:KV):Value:=.agg #[.string x.key,I x.val.kind,.float .f64 x.val.num,.string x.val.text]
abbrev S1 (x:BA):List Value:=[.string x]
abbrev I1 (x:Int):List Value:=[I x]
@[ext] structure j8 where
 bF:cw
 val:fS
 deriving DecidableEq
abbrev j8.l (x:j8):List Value:=[I x.bF.wall,I x.bF.ep,I x.bF.node,I x.val.kind,.float .f64 x.val.num,.string x.val.text]
@[ext] structure jm where
 key:BA
 l7:List j8
 deriving DecidableEq
abbrev jm.l (h:jm) (vv:Value):List Value:=[.string h.key,vv]
def jm.rd (w:World) (X:XS) (l:List Value) (h:jm):Prop:= ∃vv,l=h.l vv∧Sl w X 6 vv (h.l7.map j8.l)
@[ext] structure ey where
 dK:dc
 bF:cw
 reads:List BA
 writes:List KV
 deriving DecidableEq
abbrev ey.l (p:ey) (vr vw:Value):List Value:=[I p.dK.gM,I p.dK.ga,I p.dK.sq,I p.bF.wall,I p.bF.ep,I p.bF.node,vr,vw]
abbrev ey.v (p:ey) (vr vw:Value):Value:=.agg #[I p.dK.gM,I p.dK.ga,I p.dK.sq,I p.bF.wall,I p.bF.ep,I p.bF.node,vr,vw]
def ey.rd (w:World) (X:XS) (l:List Value) (p:ey):Prop:= ∃vr vw,l=p.l vr vw∧Sl w X 1 vr (p.reads.map S1)∧Sl w X 4 vw (p.writes.map KV.l)
@[ext] structure dq where
 id:Int
 gx:Int
 lo:Nat
 hi:Nat
 deriving DecidableEq
abbrev dq.l (r:dq):List Value:=[I r.id,I r.gx,.float .f64 r.lo,.float .f64 r.hi]
abbrev dq.v (r:dq):Value:=.agg #[I r.id,I r.gx,.float .f64 r.lo,.float .f64 r.hi]
@[ext] structure State where
 range:dq
 floor:cw
 closed:cw
 fV:List jm
 fB:List ey
 deriving DecidableEq
abbrev State.l (s:State) (vh vp:Value):List Value:=[I s.range.id,I s.range.gx,.float .f64 s.range.lo,.float .f64 s.range.hi,
 I s.floor.wall,I s.floor.ep,I s.floor.node,I s.closed.wall,I s.closed.ep,I s.closed.node,vh,vp]
abbrev State.v (s:State) (vh vp:Value):Value:=.agg #[I s.range.id,I s.range.gx,.float .f64 s.range.lo,.float .f64 s.range.hi,
 I s.floor.wall,I s.floor.ep,I s.floor.node,I s.closed.wall,I s.closed.ep,I s.closed.node,vh,vp]
abbrev nh (w:World) (X:XS) (v:Value) (l:List jm):Prop:=en w X 2 v jm.rd l
abbrev nf (w:World) (X:XS) (v:Value) (l:List ey):Prop:=en w X 8 v ey.rd l
def State.rd (w:World) (X:XS) (l:List Value) (s:State):Prop:= ∃vh vp,l=s.l vh vp∧nh w X vh s.fV∧nf w X vp s.fB
@[ext] structure Rec where
 kind:Int
 dK:dc
 bF:cw
 prev:cw
 kM:Bool
 n:Int
 vF:Nat
 reads:List BA
 writes:List KV
 parts:List Int
 xm:List KV
 state:State
 deriving DecidableEq
abbrev Rec.l (r:Rec) (vr vw vp vq vh vd:Value):List Value:=[I r.kind,I r.dK.gM,I r.dK.ga,I r.dK.sq,I r.bF.wall,I r.bF.ep,I r.bF.node,
 I r.prev.wall,I r.prev.ep,I r.prev.node,B r.kM,I r.n,.float .f64 r.vF,vr,vw,vp,vq,I r.state.range.id,I r.state.range.gx,.float .f64 r.state.range.lo,.float .f64 r.state.range.hi,
 I r.state.floor.wall,I r.state.floor.ep,I r.state.floor.node,I r.state.closed.wall,I r.state.closed.ep,I r.state.closed.node,vh,vd]
abbrev Rec.v (r:Rec) (vr vw vp vq vh vd:Value):Value:=.agg #[I r.kind,I r.dK.gM,I r.dK.ga,I r.dK.sq,I r.bF.wall,I r.bF.ep,I r.bF.node,
 I r.prev.wall,I r.prev.ep,I r.prev.node,B r.kM,I r.n,.float .f64 r.vF,vr,vw,vp,vq,I r.state.range.id,I r.state.range.gx,.float .f64 r.state.range.lo,.float .f64 r.state.range.hi,
 I r.state.floor.wall,I r.state.floor.ep,I r.state.floor.node,I r.state.closed.wall,I r.state.closed.ep,I r.state.closed.node,vh,vd]
def Rec.at (w:World) (X:XS) (r:Rec) (vr vw vp vq vh vd:Value):Prop:=
 Sl w X 1 vr (r.reads.map S1)∧Sl w X 4 vw (r.writes.map KV.l)∧Sl w X 1 vp (r.parts.map I1)∧Sl w X 4 vq (r.xm.map KV.l)∧nh w X vh r.state.fV∧nf w X vd r.state.fB
def Rec.rd (w:World) (X:XS) (l:List Value) (r:Rec):Prop:= ∃vr vw vp vq vh vd,l=r.l vr vw vp vq vh vd∧r.at w X vr vw vp vq vh vd
theorem jm.mv:Dc jm.rd:=fun ⟨vv,h,h1⟩ m=>⟨vv,h,h1.mv m⟩
theorem ey.mv:Dc ey.rd:=fun ⟨vr,vw,h,h1,h2⟩ m=>⟨vr,vw,h,h1.mv m,h2.mv m⟩
theorem nh.mv {w w':World} {X Y:XS} {v:Value} {l:List jm} (h:nh w X v l) (m:Mv X w Y w'):nh w' Y v l:=en.mv h jm.mv m
theorem nf.mv {w w':World} {X Y:XS} {v:Value} {l:List ey} (h:nf w X v l) (m:Mv X w Y w'):nf w' Y v l:=en.mv h ey.mv m
theorem State.mv:Dc State.rd:=fun ⟨vh,vp,h,h1,h2⟩ m=>⟨vh,vp,h,en.mv h1 jm.mv m,en.mv h2 ey.mv m⟩
theorem Rec.at.mv {w w':World} {X Y:XS} {r:Rec} {vr vw vp vq vh vd:Value} (h:r.at w X vr vw vp vq vh vd) (m:Mv X w Y w'):r.at w' Y vr vw vp vq vh vd:=
 ⟨h.1.mv m,h.2.1.mv m,h.2.2.1.mv m,h.2.2.2.1.mv m,en.mv h.2.2.2.2.1 jm.mv m,en.mv h.2.2.2.2.2 ey.mv m⟩
theorem Rec.mv:Dc Rec.rd:=fun ⟨vr,vw,vp,vq,vh,vd,h,h1⟩ m=>⟨vr,vw,vp,vq,vh,vd,h,h1.mv m⟩
section
variable {P : Program} {X X0 : XS} {w w0 : World} {N : Value → Prop}
theorem TC {t:TypeId} {v:Value} {xs:List ey} {i:Nat} {z:Int} {x:ey} (h:nf w0 X0 v xs) (hr:xs[i]? =some x)
  (hz:z=i) (ht:P.underlying t=some (.slice (P.elem t))) (hs:(P.info? (P.elem t)).map (·.size)=some 8)
  (n: ∀b o vr vw,aV.one vr=true→aV.one vw=true→Cells w0 X0 b o (x.l vr vw)→Sl w0 X0 1 vr (x.reads.map S1)→Sl w0 X0 4 vw (x.writes.map KV.l)→N (ptr b o)):ae P X w (dt t 8 v (.int .i64 z)) N:=
 Bt h hr hz ht hs fun b o _ hc ⟨vr,vw,hl,h1,h2⟩=>n b o vr vw h1.one h2.one (hl▸hc) h1 h2
theorem Pz {t:TypeId} {v:Value} {xs:List jm} {i:Nat} {z:Int} {x:jm} (h:nh w0 X0 v xs) (hr:xs[i]? =some x)
  (hz:z=i) (ht:P.underlying t=some (.slice (P.elem t))) (hs:(P.info? (P.elem t)).map (·.size)=some 2)
  (n: ∀b o vv,aV.one vv=true→Cells w0 X0 b o (x.l vv)→Sl w0 X0 6 vv (x.l7.map j8.l)→N (ptr b o)):ae P X w (dt t 2 v (.int .i64 z)) N:=
 Bt h hr hz ht hs fun b o _ hc ⟨vv,hl,h1⟩=>n b o vv h1.one (hl▸hc) h1
theorem YE {t:TypeId} {v:Value} {xs:List Rec} {i:Nat} {z:Int} {x:Rec} (h:en w0 X0 29 v Rec.rd xs) (hr:xs[i]? =some x)
  (hz:z=i) (ht:P.underlying t=some (.slice (P.elem t))) (hs:(P.info? (P.elem t)).map (·.size)=some 29)
  (n: ∀b o vr vw vp vq vh vd,aV.one vr=true→aV.one vw=true→aV.one vp=true→aV.one vq=true→aV.one vh=true→aV.one vd=true→
   Cells w0 X0 b o (x.l vr vw vp vq vh vd)→x.at w0 X0 vr vw vp vq vh vd→N (ptr b o)):ae P X w (dt t 29 v (.int .i64 z)) N:=
 Bt h hr hz ht hs fun b o _ hc ⟨vr,vw,vp,vq,vh,vd,hl,h1⟩=>n b o vr vw vp vq vh vd h1.1.one h1.2.1.one h1.2.2.1.one h1.2.2.2.1.one h1.2.2.2.2.1.one h1.2.2.2.2.2.one (hl▸hc) h1
theorem ake {t:TypeId} {xo yo:Operand} (a b:cw) (h:ij P t 3=true) (hT:a=b→N (.bool true)) (hF: ¬a=b→N (.bool false)):
  ae P X w (aD .eql t xo yo a.v b.v) N:=Vg h (fun h1 h2 h3=>hT (cw.ext h1 h2 h3)) fun hn=>hF fun e=>hn (by subst e;exact⟨rfl,rfl,rfl⟩)
theorem akf {t:TypeId} {xo yo:Operand} (a b:cw) (h:ij P t 3=true) (hT: ¬a=b→N (.bool true)) (hF:a=b→N (.bool false)):
  ae P X w (aD .neq t xo yo a.v b.v) N:=aiA h (fun hn=>hT fun e=>hn (by subst e;exact⟨rfl,rfl,rfl⟩)) fun h1 h2 h3=>hF (cw.ext h1 h2 h3)
theorem CH {t:TypeId} {xo yo:Operand} (a:cw) (h:ij P t 3=true) (hT:a= .zero→N (.bool true)) (hF: ¬a= .zero→N (.bool false)):
  ae P X w (aD .eql t xo yo a.v (.agg #[I 0,I 0,I 0])) N:=ake a .zero h hT hF
theorem acp {t:TypeId} {xo yo:Operand} (a:cw) (h:ij P t 3=true) (hT: ¬a= .zero→N (.bool true)) (hF:a= .zero→N (.bool false)):
  ae P X w (aD .neq t xo yo a.v (.agg #[I 0,I 0,I 0])) N:=akf a .zero h hT hF
theorem akg {t:TypeId} {xo yo:Operand} (a b:dc) (h:ij P t 3=true) (hT:a=b→N (.bool true)) (hF: ¬a=b→N (.bool false)):
  ae P X w (aD .eql t xo yo a.v b.v) N:=Vg h (fun h1 h2 h3=>hT (dc.ext h1 h2 h3)) fun hn=>hF fun e=>hn (by subst e;exact⟨rfl,rfl,rfl⟩)
theorem acq {t:TypeId} {xo yo:Operand} (a:dc) (h:ij P t 3=true) (hT:a= .zero→N (.bool true)) (hF: ¬a= .zero→N (.bool false)):
  ae P X w (aD .eql t xo yo a.v (.agg #[I 0,I 0,I 0])) N:=akg a .zero h hT hF
end
def lim:Nat:=2^20
def ey.small (p:ey):Prop:=p.reads.length≤lim∧p.writes.length≤lim
end Go.Proofs.YtbpnemeooenpmaaGreat
namespace Go.Proofs.YtbpnemeooenpmaaGreat
open Go.Proofs.Tryz renaming prog → pg
open Go.aV
set_option maxRecDepth 100000
set_option maxHeartbeats 1000000
set_option linter.unusedVariables false
set_option linter.unusedSimpArgs false
attribute [local irreducible] un jn aC aS ld1 dY st1 dt cD kK dC lQ uJ sO fH e7 ae aB aK eW eV eU eC eF gE az fin aP aE aD vS xd gO gW ry uK sP xe xf xg gB gR rz uL sQ xh xi
def cw.cmp (a b:cw):Int:=
 let p:=if a.wall≠b.wall then(a.wall,b.wall)else if a.ep≠b.ep then(a.ep,b.ep)else(a.node,b.node)
 if p.1<p.2 then-1 else if p.1>p.2 then 1 else 0
def dc.less (a b:dc):Bool:=
 if a.gM≠b.gM then a.gM<b.gM else if a.ga≠b.ga then a.ga<b.ga else a.sq<b.sq
def dc.may (a:dc):Bool:=a.gM≥1&&a.gM≤2&&a.ga≥1&&a.sq≥1
def cw.may (a:cw):Bool:=a.wall≥0&&a.wall≤281474976710656&&a.ep≥0&&a.ep≤65535&&a.node≥0&&a.node≤63
def cw.later (a b:cw):cw:=if a.cmp b<0 then b else a
def cw.PA (a:cw):Bool:=a.may&&!decide (a= .zero)
theorem sa (a b:cw):Pure pg 180 #[a.v,b.v] (I (a.cmp b)):=by
 intro w0;apply QL;unfold Fi;have hs:=aj.init w0;repeat' first|refine aJ ?_;intros|refine dM ?_ ?_<;>intros|with_reducible apply dx|(with_reducible refine eD hs ?_);simp_all [cw.cmp]<;>omega
theorem Ay (a:dc):Pure pg 244 #[a.v] (B a.may):=by
 intro w0;apply QO;unfold Fl;have hs:=aj.init w0;repeat' first|refine aJ ?_;intros|refine dM ?_ ?_<;>intros|(with_reducible refine eD hs ?_);simp_all [dc.may]<;>omega
theorem mw (a:cw):Pure pg 85 #[a.v] (B a.may):=by
 intro w0;apply aaJ;unfold Pg;have hs:=aj.init w0;repeat' first|refine aJ ?_;intros|refine dM ?_ ?_<;>intros|(with_reducible refine eD hs ?_);simp_all [cw.may]<;>omega
theorem LN (a b:cw):Pure pg 119 #[a.v,b.v] (a.later b).v:=by
 intro w0;apply V6;unfold J6;have hs:=aj.init w0;repeat' first|refine aJ ?_;intros|refine dM ?_ ?_<;>intros|((with_reducible refine ee (sa _ _) ?_ hs.has ?_);(· kernel_rfl);intro w X ao;replace hs:=hs.trans ao)|(with_reducible refine eD hs ?_);simp_all [cw.later]<;>grind
theorem S9 (n:Int):Pure pg 270 #[I n] (B (decide (n≥1)&&decide (n≤12))):=by
 intro w0;apply QS;unfold Fp;have hs:=aj.init w0;repeat' first|refine aJ ?_;intros|refine dM ?_ ?_<;>intros|(with_reducible refine eD hs ?_);simp_all<;>omega
theorem HN (a:cw):Pure pg 271 #[a.v] (B a.PA):=by
 intro w0;apply QT;unfold Fq;have hs:=aj.init w0;repeat' first|refine aJ ?_;intros|(with_reducible refine acp _ ?_ ?_ ?_);(· kernel_rfl);all_goals intros|((with_reducible refine dJ (mw _) ?_ hs.has ?_ ?_);(· kernel_rfl);all_goals (intro _ w X ao;replace hs:=hs.trans ao))|(with_reducible refine eD hs ?_);simp_all [cw.PA]
def cw.QV (c:Bool) (a:cw):Bool:=if c then a.PA else decide (a= .zero)
theorem QW (c:Bool) (a:cw):Pure pg 268 #[B c,a.v] (B (a.QV c)):=by
 intro w0;apply Px;unfold DR;have hs:=aj.init w0;repeat' first|refine aJ ?_;intros|refine dM ?_ ?_<;>intros|(with_reducible refine CH _ ?_ ?_ ?_);(· kernel_rfl);all_goals intros|((with_reducible refine dJ (HN _) ?_ hs.has ?_ ?_);(· kernel_rfl);all_goals (intro _ w X ao;replace hs:=hs.trans ao))|(with_reducible refine eD hs ?_);simp_all [cw.QV]
theorem zc (x:Nat) (wa:World):(callFunc 97 #[.float .f64 x]).run pg wa= .ok (.value (.int .u64 x)) wa:=by kernel_rfl
abbrev Bw:Value→World→World→Prop:=fun v _ _=> ∃n:Int,v=I n
theorem ix (a b c:Int) (w:World) (X:XS):Ct pg 59 #[I a,I b,I c] w X nX Bw:=by
 intro w0 hk;apply QG;unfold Fa;have hs:=aj.init w0;repeat' first|refine aJ ?_;intros|refine dM ?_ ?_<;>intros|((first|(with_reducible refine av hs ?_)|(with_reducible refine av (bS.trans hs) ?_));intro wa hk;exact⟨_,rfl⟩)|with_reducible apply lA
theorem rM {w:World} {X:XS} {a:Value} {xs:List BA} {most:Int} (ha:Sl w X 1 a (xs.map S1)):
  Ct pg 60 #[a,I most] w X nX Bw:=by
 intro w0 hk;replace ha:=ha.mv hk.dD;have jT:=ha.gy;apply Fu;unfold wU;have hs:=aj.init w0;refine fN (fun n a b w X=> ∃(i:Nat) (s:Int),a=I i∧b=I s∧n=(xs).length-i∧i≤(xs).length∧aj (aR w0) w0 X w) (xs).length ⟨0,_,rfl,rfl,rfl,aF _,hs⟩ ?_;rintro n a b w X ⟨i,s,rfl,rfl,rfl,hi,hs⟩;repeat' first|refine aJ ?_;intros|refine dM ?_ ?_<;>intros|((first|(with_reducible refine av hs ?_)|(with_reducible refine av (bS.trans hs) ?_));intro wa hk;exact⟨_,rfl⟩)|(refine iZ (ix  _ _ _ _ _) kQ hs.has ?_;intro n1 w X ao;replace hs:=hs.trans ao)|((with_reducible refine fJ ((xs).length-(i+1)) ?_ ?_);omega;exact⟨i+1,_,by simp,rfl,rfl,by omega,hs⟩)|with_reducible apply lA
theorem re {w:World} {X:XS} {a:Value} {xs:List KV} {most:Int} (ha:Sl w X 4 a (xs.map KV.l)):
  Ct pg 62 #[a,I most] w X nX Bw:=by
 intro w0 hk;replace ha:=ha.mv hk.dD;have jT:=ha.gy;apply Em;unfold vu;have hs:=aj.init w0;refine fN (fun n a b w X=> ∃(i:Nat) (s:Int),a=I i∧b=I s∧n=(xs).length-i∧i≤(xs).length∧aj (aR w0) w0 X w) (xs).length ⟨0,_,rfl,rfl,rfl,aF _,hs⟩ ?_;rintro n a b w X ⟨i,s,rfl,rfl,rfl,hi,hs⟩;repeat' first|refine aJ ?_;intros|refine dM ?_ ?_<;>intros|((first|(with_reducible refine av hs ?_)|(with_reducible refine av (bS.trans hs) ?_));intro wa hk;exact⟨_,rfl⟩)|(refine iZ (ix  _ _ _ _ _) kQ hs.has ?_;intro n1 w X ao;replace hs:=hs.trans ao)|((with_reducible refine fJ ((xs).length-(i+1)) ?_ ?_);omega;exact⟨i+1,_,by simp,rfl,rfl,by omega,hs⟩)|with_reducible apply lA
theorem CQ {w:World} {X:XS} {a:Value} {xs:List ey} {most:Int} (ha:nf w X a xs):
  Ct pg 124 #[a,I most] w X nX Bw:=by
 intro w0 hk;replace ha:=ha.mv hk.dD;have jT:=ha.len;apply CG;unfold tP;have hs:=aj.init w0;refine fN (fun n a b w X=> ∃(i:Nat) (s:Int),a=I i∧b=I s∧n=(xs).length-i∧i≤(xs).length∧aj (aR w0) w0 X w) (xs).length ⟨0,_,rfl,rfl,rfl,aF _,hs⟩ ?_;rintro n a b w X ⟨i,s,rfl,rfl,rfl,hi,hs⟩;repeat' first|refine aJ ?_;intros|refine dM ?_ ?_<;>intros|((with_reducible apply TC);assumption;(try (case hz=>rfl));(case hr=>exact qR);(try (case hz=>omega));(case ht=>kernel_rfl);(case hs=>kernel_rfl);intros)|((first|(with_reducible refine av hs ?_)|(with_reducible refine av (bS.trans hs) ?_));intro wa hk;exact⟨_,rfl⟩)|(refine iZ (ix  _ _ _ _ _) kQ hs.has ?_;intro n1 w X ao;replace hs:=hs.trans ao)|(refine iZ (rM  qA) kQ hs.has ?_;intro n1 w X ao;replace hs:=hs.trans ao)|(refine iZ (re  qA) kQ hs.has ?_;intro n1 w X ao;replace hs:=hs.trans ao)|((with_reducible refine fJ ((xs).length-(i+1)) ?_ ?_);omega;exact⟨i+1,_,by simp,rfl,rfl,by omega,hs⟩)|with_reducible apply lA
theorem CI {w:World} {X:XS} {a:Value} {xs:List jm} {most:Int} (ha:nh w X a xs):
  Ct pg 123 #[a,I most] w X nX Bw:=by
 intro w0 hk;replace ha:=ha.mv hk.dD;have jT:=ha.len;apply BB;unfold sV;have hs:=aj.init w0;refine B2 (fun n a _ b w X=> ∃(i:Nat) (s:Int),a=I i∧b=I s∧n=xs.length-i∧i≤xs.length∧aj (aR w0) w0 X w) xs.length ⟨0,_,rfl,rfl,rfl,aF _,hs⟩ ?_;rintro n a a2 b w X ⟨i,s,rfl,rfl,rfl,hi,hs⟩;repeat' first|refine aJ ?_;intros|refine dM ?_ ?_<;>intros|((with_reducible apply Pz);assumption;(try (case hz=>rfl));(case hr=>exact qR);(try (case hz=>omega));(case ht=>kernel_rfl);(case hs=>kernel_rfl);intros)|((first|(with_reducible refine av hs ?_)|(with_reducible refine av (bS.trans hs) ?_));intro wa hk;exact⟨_,rfl⟩)|(refine iZ (ix  _ _ _ _ _) kQ hs.has ?_;intro n1 w X ao;replace hs:=hs.trans ao)|with_reducible apply lA
 have dy:i<xs.length:=by omega
 obtain⟨x,hx,hd⟩:=YT dy;refine fN (fun n a b w X=> ∃(k:Nat) (s:Int),a=I k∧b=I s∧n=x.l7.length-k∧k≤x.l7.length∧aj (aR w0) w0 X w) x.l7.length ⟨0,_,rfl,rfl,rfl,aF _,hs⟩ ?_;rintro n a b w X ⟨k,s,rfl,rfl,rfl,hk,hs⟩;repeat' first|refine aJ ?_;intros|refine dM ?_ ?_<;>intros|((with_reducible apply Pz);assumption;(try (case hz=>rfl));(case hr=>exact qR);(try (case hz=>omega));(case ht=>kernel_rfl);(case hs=>kernel_rfl);intros)|(refine iZ (ix  _ _ _ _ _) kQ hs.has ?_;intro n1 w X ao;replace hs:=hs.trans ao)|((with_reducible refine B3 ((xs).length-(i+1)) ?_ ?_);omega;exact⟨i+1,_,by simp,rfl,rfl,by omega,hs⟩)|((with_reducible refine fJ (x.l7.length-(k+1)) ?_ ?_);omega;exact⟨k+1,_,by simp,rfl,rfl,by omega,hs⟩)|(have hl9:=Sl.gy ‹Sl w0 (aR w0) 6 _ (List.map j8.l x.l7)›;(with_reducible apply Tt);omega;omega)|with_reducible apply lA
theorem xO {w:World} {X:XS} {s:State} {vh vp:Value} {most:Int} (ha:nh w X vh s.fV) (hb:nf w X vp s.fB):
  Ct pg 64 #[s.v vh vp,I most] w X nX Bw:=by
 intro w0 hk;replace ha:=ha.mv hk.dD;replace hb:=hb.mv hk.dD;apply Fv;unfold wV;have hs:=aj.init w0;repeat' first|((first|(with_reducible refine av hs ?_)|(with_reducible refine av (bS.trans hs) ?_));intro wa hk;exact⟨_,rfl⟩)|(refine iZ (ix  _ _ _ _ _) kQ hs.has ?_;intro n1 w X ao;replace hs:=hs.trans ao)|(refine iZ (CI  qA) kQ hs.has ?_;intro n1 w X ao;replace hs:=hs.trans ao)|(refine iZ (CQ  qA) kQ hs.has ?_;intro n1 w X ao;replace hs:=hs.trans ao)
theorem Jw {w:World} {X:XS} {r:Rec} {vr vw vp vq vh vd:Value} {most:Int} (ha:r.at w X vr vw vp vq vh vd):
  Ct pg 63 #[r.v vr vw vp vq vh vd,I most] w X nX Bw:=by
 intro w0 hk;obtain⟨h1,h2,h3,h4,h5,h6⟩:=ha.mv hk.dD;have jT:=h4.gy;apply Ig;unfold yM;have hs:=aj.init w0;repeat' first|refine aJ ?_;intros|(refine iZ (ix  _ _ _ _ _) kQ hs.has ?_;intro n1 w X ao;replace hs:=hs.trans ao)|(refine iZ (rM  qA) kQ hs.has ?_;intro n1 w X ao;replace hs:=hs.trans ao)|(refine iZ (re  qA) kQ hs.has ?_;intro n1 w X ao;replace hs:=hs.trans ao)|with_reducible apply lA
 refine fN (fun n a b w X=> ∃(i:Nat) (s:Int),a=I i∧b=I s∧n=(r.xm).length-i∧i≤(r.xm).length∧aj (aR w0) w0 X w) (r.xm).length ⟨0,_,rfl,rfl,rfl,aF _,hs⟩ ?_;rintro n a b w X ⟨i,s,rfl,rfl,rfl,hi,hs⟩;repeat' first|refine aJ ?_;intros|refine dM ?_ ?_<;>intros|((first|(with_reducible refine av hs ?_)|(with_reducible refine av (bS.trans hs) ?_));intro wa hk;exact⟨_,rfl⟩)|(refine iZ (ix  _ _ _ _ _) kQ hs.has ?_;intro n1 w X ao;replace hs:=hs.trans ao)|(refine iZ (xO  (s:=r.state) qA qA) kQ hs.has ?_;intro n1 w X ao;replace hs:=hs.trans ao)|((with_reducible refine fJ ((r.xm).length-(i+1)) ?_ ?_);omega;exact⟨i+1,_,by simp,rfl,rfl,by omega,hs⟩)|with_reducible apply lA
def gn (s:BA):Bool:=decide ((s.size:Int)≥1)&&decide ((s.size:Int)≤24)
theorem jd (s:BA):Pure pg 95 #[.string s] (B (gn s)):=by
 intro w0;apply VX;unfold JX;have hs:=aj.init w0;repeat' first|refine aJ ?_;intros|refine dM ?_ ?_<;>intros|(with_reducible refine eD hs ?_);simp_all [gn]<;>omega
theorem xu (r:dq) (x:Nat):Pure pg 42 #[r.v,.float .f64 x] (B ((BZ x r.lo||jI x r.lo)&&j9 x r.hi)):=by
 intro w0;apply XJ;unfold Mn;have hs:=aj.init w0;repeat' first|refine aJ ?_;intros|refine dM ?_ ?_<;>intros|(with_reducible refine eD hs ?_);(simp_all<;>grind)
def canon (x:Nat):Nat:=if jI x x then x else 9221120237041090560
theorem nE (x:Nat):Pure pg 227 #[.float .f64 x] (.float .f64 (canon x)):=by
 intro w0;apply Wd;unfold Kf;have hs:=aj.init w0;repeat' first|refine aJ ?_;intros|refine dM ?_ ?_<;>intros|(with_reducible refine eD hs ?_);simp_all [canon]|((with_reducible refine Ca (v:=.float .f64 9221120237041090560) ?_ hs.has ?_);(· intro wa;kernel_rfl);intro w X ao;replace hs:=hs.trans ao)
theorem Bo (x:Nat):Pure pg 164 #[.float .f64 x] (.int .u64 (canon x)):=by
 intro w0;apply XP;unfold Ms;have hs:=aj.init w0;repeat' first|((with_reducible refine ee (nE _) ?_ hs.has ?_);(· kernel_rfl);intro w X ao;replace hs:=hs.trans ao)|(with_reducible refine eD hs ?_);rfl|((with_reducible refine Ca (zc _) hs.has ?_);intro w X ao;replace hs:=hs.trans ao)
def land (a b:Int):Int:=IntKind.u64.wrap (bT IntKind.u64.bits a&&& bT IntKind.u64.bits b).toNat
def Ga (a b:Int):Int:=IntKind.u64.wrap (bT IntKind.u64.bits a^^^bT IntKind.u64.bits b).toNat
def Ha (a n:Int):Int:=a.fdiv (2^min n.toNat IntKind.u64.bits)
def Wk (a b:Int):Int:=IntKind.u64.wrap (a*b)
theorem abB {P:Program} {X:XS} {w:World} {N:Value→Prop} {t:TypeId} {a b:Int} (h:N (.int .u64 (land a b))):ae P X w (binOp .and t (.int .u64 a) (.int .u64 b)) N:=YO h
theorem PB {P:Program} {X:XS} {w:World} {N:Value→Prop} {t:TypeId} {a b:Int} (h:N (.int .u64 (Ga a b))):ae P X w (binOp .xor t (.int .u64 a) (.int .u64 b)) N:=Qk h
theorem Kt {P:Program} {X:XS} {w:World} {N:Value→Prop} {t:TypeId} {a b:Int} (hb: ¬b<0) (h:N (.int .u64 (Ha a b))):ae P X w (binOp .shr t (.int .u64 a) (.int .u64 b)) N:=E9 hb h
theorem Wl {P:Program} {X:XS} {w:World} {N:Value→Prop} {t:TypeId} {a b:Int} (h:N (.int .u64 (Wk a b))):ae P X w (binOp .mul t (.int .u64 a) (.int .u64 b)) N:=agi h
def cls (x:Nat):Int:=
 let b:Int:=canon x
 let e:=land (Ha b 52) 2047
 let f:=land b 4503599627370495
 if e=2047∧f≠0 then 0 else
  let k:=if e=2047 then 8 else if e>0 then 7 else if f>0 then 6 else 5
  if land b 9223372036854775808≠0 then 9-k else k
theorem D9 (x:Nat):Pure pg 166 #[.float .f64 x] (I (cls x)):=by
 intro w0;apply V8;unfold J8;have hs:=aj.init w0;repeat' first|refine aJ ?_;intros|refine dM ?_ ?_<;>intros|with_reducible apply dx|((with_reducible refine ee (Bo _) ?_ hs.has ?_);(· kernel_rfl);intro w X ao;replace hs:=hs.trans ao)|(with_reducible refine eD hs ?_);(simp only [cls] at*;grind)|with_reducible apply abB|(with_reducible apply Kt);omega
def Da:Nat:=4607182418800017408
def Fw (x:Nat):Bool:=decide (cls x≥5)&&(j9 x Da||jI x Da)
theorem HO (x:Nat):Pure pg 181 #[.float .f64 x] (B (Fw x)):=by
 intro w0;apply QM;unfold Fj;have hs:=aj.init w0;repeat' first|refine aJ ?_;intros|refine dM ?_ ?_<;>intros|((with_reducible refine ee (D9 _) ?_ hs.has ?_);(· kernel_rfl);intro w X ao;replace hs:=hs.trans ao)|(with_reducible refine eD hs ?_);(simp_all [Fw,Da]<;>grind)
def BM (x:Nat):Nat×Int:=if cls x=4 then(0,0)else if Fw x then(x,0)else(0,1)
theorem Ta (x:Nat):Pure pg 269 #[.float .f64 x] (.tuple #[.float .f64 (BM x).1,I (BM x).2]):=by
 intro w0;apply QR;unfold Fo;have hs:=aj.init w0;repeat' first|refine aJ ?_;intros|refine dM ?_ ?_<;>intros|((with_reducible refine ee (D9 _) ?_ hs.has ?_);(· kernel_rfl);intro w X ao;replace hs:=hs.trans ao)|((with_reducible refine dJ (HO _) ?_ hs.has ?_ ?_);(· kernel_rfl);all_goals (intro _ w X ao;replace hs:=hs.trans ao))|(with_reducible refine eD hs ?_);(simp_all [BM]<;>grind)
def dq.may (r:dq):Bool:=decide (r.id≥1)&&decide (r.id≤12)&&decide (r.gx≥0)&&Fw r.lo&&Fw r.hi&&j9 r.lo r.hi
theorem sc (r:dq):Pure pg 125 #[r.v] (B r.may):=by
 intro w0;apply V7;unfold J7;have hs:=aj.init w0;repeat' first|refine aJ ?_;intros|refine dM ?_ ?_<;>intros|with_reducible apply dx|((with_reducible refine dJ (HO _) ?_ hs.has ?_ ?_);(· kernel_rfl);all_goals (intro _ w X ao;replace hs:=hs.trans ao))|(with_reducible refine eD hs ?_);(simp_all [dq.may]<;>omega)
def fS.may (v:fS):Bool:=
 if v.kind=0 then decide (v.num=0)&&decide (v.text=⟨#[]⟩)
 else if v.kind=1 then decide (v.text=⟨#[]⟩)&&decide (v.num=canon v.num)
 else if v.kind=2 then decide (v.num=0)&&decide ((v.text.size:Int)≤64)
 else false
theorem kE (v:fS):Pure pg 96 #[v.v] (B v.may):=by
 intro w0;apply VY;unfold JY;have hs:=aj.init w0;repeat' first|refine aJ ?_;intros|refine dM ?_ ?_<;>intros|with_reducible apply dx|((with_reducible refine ee (Bo _) ?_ hs.has ?_);(· kernel_rfl);intro w X ao;replace hs:=hs.trans ao)|(with_reducible refine eD hs ?_);(simp_all [fS.may]<;>omega)|((with_reducible refine Ca (zc _) hs.has ?_);intro w X ao;replace hs:=hs.trans ao)
def aaK (h:Int) (b:UInt8):Int:=Wk (Ga h (IntKind.u64.wrap b.toNat)) 1099511628211
def aiN (h:Int):Nat→Int
 |0=>h
 |1=>Wk (Ga h (Ha h 33)) 18397679294719823053
 |_=>let g:=Wk (Ga h (Ha h 33)) 18397679294719823053;Wk (Ga g (Ha g 33)) 14181476777654086739
def Ku (s:BA):Int:=let h:=aiN (s.data.toList.foldl aaK 14695981039346656037) 2;Ga h (Ha h 33)
theorem Wm (s:BA) (al1:s.size≤2^62):Pure pg 43 #[.string s] (.int .u64 (Ku s)):=by
 intro w0;have fL:=Se s;apply SV;unfold HF;have hs:=aj.init w0;repeat' first|refine aJ ?_;intros
 refine fN (fun n a b w X=> ∃(i:Nat) (h:Int),a=I i∧b= .int .u64 h∧n=s.data.toList.length-i∧i≤s.data.toList.length∧aj (aR w0) w0 X w∧
  s.data.toList.foldl aaK 14695981039346656037=(s.data.toList.drop i).foldl aaK h) s.data.toList.length ?_ ?_
 ·exact⟨0,14695981039346656037,rfl,rfl,rfl,aF _,hs,by rw [List.drop_zero]⟩
 rintro n a b w X ⟨i,h,rfl,rfl,rfl,hi,hs,hw⟩;rcases ew s.data.toList i with⟨dy,x,hx,hd⟩|⟨dV,hd⟩
 ·repeat' first|refine bD ?_;intros|with_reducible (first|apply PB|apply Wl)|((with_reducible refine fJ ((s.data.toList).length-(i+1)) ?_ ?_);omega;exact⟨i+1,_,by simp,rfl,rfl,by omega,hs,by rw [hw,hd,fI];rfl⟩)
 ·repeat' first|refine bD ?_;intros
  rw [hd] at hw;refine fN (fun n a b w X=> ∃(i:Nat),a=I i∧b= .int .u64 (aiN h i)∧n=2-i∧i≤2∧aj (aR w0) w0 X w) 2 ⟨0,rfl,rfl,rfl,aF _,hs⟩ ?_;rintro n a b w X ⟨i,rfl,rfl,rfl,hi,hs⟩;obtain rfl|rfl|rfl:i=0∨i=1∨i=2:=by omega
  ·repeat' first|refine bD ?_;intros|(with_reducible apply PB)|(with_reducible apply Wl)|(with_reducible apply Kt);omega|(with_reducible refine fJ 1 ?_ ?_);omega;exact⟨1,rfl,rfl,rfl,by omega,hs⟩
  ·repeat' first|refine bD ?_;intros|(with_reducible apply PB)|(with_reducible apply Wl)|(with_reducible apply Kt);omega|(with_reducible refine fJ 0 ?_ ?_);omega;exact⟨2,rfl,rfl,rfl,by omega,hs⟩
  ·repeat' first|refine bD ?_;intros|(with_reducible refine eD hs ?_);(simp only [Ku,hw];rfl)|(with_reducible apply PB)|(with_reducible apply Kt);omega
theorem aaL (n:Int): ∃r,floatBits .quo .f64 (floatOfInt .f64 n) 4845873199050653696=some r:=by
 have hn:(Ieee.double.read (floatOfInt .f64 n)).isNaN=false:=Vv _ _ _ _;have hd:Ieee.double.read 4845873199050653696= .number false 4503599627370496 1:=by kernel_rfl
 show∃r,((Ieee.double.read (floatOfInt .f64 n)).quotient _ (Ieee.double.read 4845873199050653696)).map _=some r
 rw [hd];cases hr:Ieee.double.read (floatOfInt .f64 n)with
 |number s m p=>simp [uv]
 |infinity s=>simp [uv]
 |nan s f=>rw [hr] at hn;simp [Ieee.Datum.isNaN] at hn
def placeOf (s:BA):Nat:=(floatBits .quo .f64 (floatOfInt .f64 (Ha (Ku s) 11)) 4845873199050653696).getD 0
theorem aaM (s:BA):floatBits .quo .f64 (floatOfInt .f64 (Ha (Ku s) 11)) 4845873199050653696=some (placeOf s):=by
 obtain⟨r,hr⟩:=aaL (Ha (Ku s) 11);rw [placeOf,hr];rfl
theorem Bn (s:BA) (al1:s.size≤2^62):Pure pg 12 #[.string s] (.float .f64 (placeOf s)):=by
 intro w0;apply XI;unfold Mm;have hs:=aj.init w0;repeat' first|refine aJ ?_;intros|((with_reducible refine ee (Wm _ (by first|assumption|omega)) ?_ hs.has ?_);(· kernel_rfl);intro w X ao;replace hs:=hs.trans ao)|(with_reducible refine eD hs ?_);rfl|(with_reducible apply Kt);omega|(with_reducible apply aj4);(· exact aaM s)
def rising (l:List BA):Bool:=chain gn uP none l
def ud (l:List BA):Bool:=rising l&&decide ((l.length:Int)≤16)
theorem XT {w:World} {X:XS} {a:Value} {xs:List BA} (ha:Sl w X 1 a (xs.map S1)):
  Ct pg 301 #[a] w X nX fun v _ _=>v=B (ud xs):=by
 intro w0 hk;replace ha:=ha.mv hk.dD;have jT:=ha.gy;apply Wj;unfold Km;have hs:=aj.init w0;repeat' first|refine aJ ?_;intros
 refine fR (fun n a w X=> ∃i:Nat,a=I (i:Nat)∧n=(xs).length-i∧i≤(xs).length∧aj (aR w0) w0 X w∧chain gn uP none xs=chain gn uP (pt xs i) (xs.drop i)) (xs).length ⟨0,rfl,rfl,aF _,hs,by simp [pt]⟩ ?_;rintro n a w X ⟨i,rfl,rfl,hi,hs,hw⟩;rcases ew (xs) i with⟨dy,x,hx,hd⟩|⟨dV,hd⟩
 ·rcases KU dy with⟨h0,hp⟩|⟨h0,y,hy,hp⟩<;>rw [hp,hd,chain] at hw<;>clear hd
  ·repeat' first|refine bD ?_;intros|((with_reducible refine dJ (jd _) ?_ hs.has ?_ ?_);(· kernel_rfl);all_goals (intro _ w X ao;replace hs:=hs.trans ao))|((first|(with_reducible refine av hs ?_)|(with_reducible refine av (bS.trans hs) ?_));intro wa hk;simp_all [ud,rising,chain])|((with_reducible refine fh ((xs).length-(i+1)) ?_ ?_);omega;exact⟨i+1,by simp,rfl,by omega,hs,by rw [hw,nI hx];simp [*]⟩)
  ·repeat' first|refine bD ?_;intros|refine dM ?_ ?_<;>intros|((with_reducible refine dJ (jd _) ?_ hs.has ?_ ?_);(· kernel_rfl);all_goals (intro _ w X ao;replace hs:=hs.trans ao))|((first|(with_reducible refine av hs ?_)|(with_reducible refine av (bS.trans hs) ?_));intro wa hk;simp_all [ud,rising,chain])|((with_reducible refine fh ((xs).length-(i+1)) ?_ ?_);omega;exact⟨i+1,by simp,rfl,by omega,hs,by rw [hw,nI hx];simp [*]⟩)
 ·repeat' first|refine bD ?_;intros|refine dM ?_ ?_<;>intros|((first|(with_reducible refine av hs ?_)|(with_reducible refine av (bS.trans hs) ?_));intro wa hk;simp_all [ud,rising,chain]<;>omega)
def Kv (l:List KV):Bool:=ud (l.map (·.key))&&l.all (·.val.may)
theorem NF {w:World} {X:XS} {a:Value} {xs:List KV} (ha:Sl w X 4 a (xs.map KV.l)) (hb:xs.length≤2^40):
  Ct pg 302 #[a] w X nX fun v wa w'=>Own w' (made wa w') wa.heap.size 9 1 v ((xs.map (·.key)).map S1):=by
 intro w0 hk;replace ha:=ha.mv hk.dD;have jT:=ha.gy;apply LB;unfold Bd;have hs:=aj.init w0;repeat' first|refine aJ ?_;intros
 refine fN (fun n a b w X=> ∃i:Nat,a=I i∧n=xs.length-i∧i≤xs.length∧aj (aR w0) w0 X w∧Own w X w0.heap.size 9 1 b (((xs.take i).map (·.key)).map S1)) xs.length ⟨0,rfl,rfl,aF _,hs,Own.nil _ _ _ _ _⟩ ?_;rintro n a b w X ⟨i,rfl,rfl,hi,hs,ho⟩;rcases ew (xs) i with⟨dy,x,hx,hd⟩|⟨dV,hd⟩
 ·repeat' first|refine bD ?_;intros|((with_reducible apply Ql);(case own=>first|assumption|exact Own.since (by assumption) (by assumption));(case hs=>assumption);(case h0=>first|exact fun _ h=>h|exact bS.has);(case he=>kernel_rfl);(case hk=>rfl);(case ho=>first|rfl|assumption);(case hb=>(simp only [aH,bW,au,bh,bI];omega));(case hl=>(simp only [aH,bW,au,bh,bI];omega));intro acc w X ao ho hc ef;replace hs:=ao)|((with_reducible refine fJ ((xs).length-(i+1)) ?_ ?_);omega;exact⟨i+1,by simp,rfl,by omega,hs,by rw [List.take_add_one,hx];simpa using ho⟩)
 ·repeat' first|refine bD ?_;intros|((first|(with_reducible refine av hs ?_)|(with_reducible refine av (bS.trans hs) ?_));intro wa hk;(rw [List.take_of_length_le dV] at ho;exact(ho.kp hk).tight))
def ey.err (p:ey):Int:=
 if !p.dK.may then 4 else if !p.bF.may||decide (p.bF= .zero)then 17
 else if !ud p.reads||!ud (p.writes.map (·.key))then 4
 else if p.writes.all (·.val.may)then 0 else 4
theorem uG {w:World} {X:XS} {p:ey} {vr vw:Value} (h1:Sl w X 1 vr (p.reads.map S1)) (h2:Sl w X 4 vw (p.writes.map KV.l)) (hb:p.writes.length≤2^40):
  Ct pg 253 #[p.v vr vw] w X nX fun v _ _=>v=I p.err:=by
 intro w0 hk;replace h1:=h1.mv hk.dD;replace h2:=h2.mv hk.dD;have jT:=h2.gy;apply Ks;unfold Ae;have hs:=aj.init w0;repeat' first|refine aJ ?_;intros|(with_reducible refine CH _ ?_ ?_ ?_);(· kernel_rfl);all_goals intros|with_reducible apply dx|((with_reducible refine dJ (mw _) ?_ hs.has ?_ ?_);(· kernel_rfl);all_goals (intro _ w X ao;replace hs:=hs.trans ao))|((with_reducible refine dJ (Ay _) ?_ hs.has ?_ ?_);(· kernel_rfl);all_goals (intro _ w X ao;replace hs:=hs.trans ao))|((first|(with_reducible refine av hs ?_)|(with_reducible refine av (bS.trans hs) ?_));intro wa hk;simp_all [ey.err])|(refine fT (XT  qA) kQ hs.has ?_ ?_<;>(intro _ w X ao;replace hs:=hs.trans ao))|(refine dp (NF  qA qA) kQ hs.has ?_;rintro v1 wa w X uf hle fP ao;have fp:=Nat.le_trans hs.kp.size hle;replace hs:=hs.trans ao;replace uf:=uf.up fP fp)
 refine fR (fun n a w X=> ∃i:Nat,a=I (i:Nat)∧n=(p.writes).length-i∧i≤(p.writes).length∧aj (aR w0) w0 X w∧p.writes.all (·.val.may)=(p.writes.drop i).all (·.val.may)) (p.writes).length ⟨0,rfl,rfl,aF _,hs,by simp⟩ ?_;rintro n a w X ⟨i,rfl,rfl,hi,hs,hw⟩;rcases ew (p.writes) i with⟨dy,x,hx,hd⟩|⟨dV,hd⟩
 ·repeat' first|refine bD ?_;intros|((with_reducible refine dJ (kE _) ?_ hs.has ?_ ?_);(· kernel_rfl);all_goals (intro _ w X ao;replace hs:=hs.trans ao))|((first|(with_reducible refine av hs ?_)|(with_reducible refine av (bS.trans hs) ?_));intro wa hk;simp_all [ey.err])|((with_reducible refine fh ((p.writes).length-(i+1)) ?_ ?_);omega;exact⟨i+1,by simp,rfl,by omega,hs,by rw [hw,hd];simp [*]⟩)
 ·repeat' first|refine bD ?_;intros|((first|(with_reducible refine av hs ?_)|(with_reducible refine av (bS.trans hs) ?_));intro wa hk;simp_all [ey.err])
def zk (l:List Int):Bool:=chain (fun n=>decide (n≥1)&&decide (n≤12)) (fun a b=>decide (a<b)) none l&&decide (l≠[])
theorem Kw {w:World} {X:XS} {a:Value} {xs:List Int} (ha:Sl w X 1 a (xs.map I1)):
  Ct pg 249 #[a] w X nX fun v _ _=>v=B (zk xs):=by
 intro w0 hk;replace ha:=ha.mv hk.dD;have jT:=ha.gy;apply S5;unfold HJ;have hs:=aj.init w0;repeat' first|refine aJ ?_;intros
 refine fR (fun n a w X=> ∃i:Nat,a=I (i:Nat)∧n=(xs).length-i∧i≤(xs).length∧aj (aR w0) w0 X w∧chain (fun n=>decide (n≥1)&&decide (n≤12)) (fun a b=>decide (a<b)) none xs=chain (fun n=>decide (n≥1)&&decide (n≤12)) (fun a b=>decide (a<b)) (pt xs i) (xs.drop i)) (xs).length ⟨0,rfl,rfl,aF _,hs,by simp [pt]⟩ ?_;rintro n a w X ⟨i,rfl,rfl,hi,hs,hw⟩;rcases ew (xs) i with⟨dy,x,hx,hd⟩|⟨dV,hd⟩
 ·rcases KU dy with⟨h0,hp⟩|⟨h0,y,hy,hp⟩<;>rw [hp,hd,chain] at hw<;>clear hd
  ·repeat' first|refine bD ?_;intros|refine dM ?_ ?_<;>intros|((first|(with_reducible refine av hs ?_)|(with_reducible refine av (bS.trans hs) ?_));intro wa hk;(simp_all [zk,chain]<;>omega))|((with_reducible refine fh ((xs).length-(i+1)) ?_ ?_);omega;exact⟨i+1,by simp,rfl,by omega,hs,by rw [hw,nI hx];simp_all<;>omega⟩)
  ·repeat' first|refine bD ?_;intros|refine dM ?_ ?_<;>intros|((first|(with_reducible refine av hs ?_)|(with_reducible refine av (bS.trans hs) ?_));intro wa hk;(simp_all [zk,chain]<;>omega))|((with_reducible refine fh ((xs).length-(i+1)) ?_ ?_);omega;exact⟨i+1,by simp,rfl,by omega,hs,by rw [hw,nI hx];simp_all<;>omega⟩)
 ·repeat' first|refine bD ?_;intros|refine dM ?_ ?_<;>intros|((first|(with_reducible refine av hs ?_)|(with_reducible refine av (bS.trans hs) ?_));intro wa hk;(simp_all [zk,chain]<;>grind))
def KZ (l:List KV):Bool:=chain (fun x=>gn x.key&&x.val.may&&decide (x.val.kind≠0)) (fun a b=>uP a.key b.key) none l
theorem Wn {w:World} {X:XS} {a:Value} {xs:List KV} (ha:Sl w X 4 a (xs.map KV.l)):
  Ct pg 272 #[a] w X nX fun v _ _=>v=B (KZ xs):=by
 intro w0 hk;replace ha:=ha.mv hk.dD;have jT:=ha.gy;apply S6;unfold HK;have hs:=aj.init w0;repeat' first|refine aJ ?_;intros
 refine fR (fun n a w X=> ∃i:Nat,a=I (i:Nat)∧n=(xs).length-i∧i≤(xs).length∧aj (aR w0) w0 X w∧KZ xs=chain (fun x=>gn x.key&&x.val.may&&decide (x.val.kind≠0)) (fun a b=>uP a.key b.key) (pt xs i) (xs.drop i)) (xs).length ⟨0,rfl,rfl,aF _,hs,by simp [pt,KZ]⟩ ?_;rintro n a w X ⟨i,rfl,rfl,hi,hs,hw⟩;rcases ew (xs) i with⟨dy,x,hx,hd⟩|⟨dV,hd⟩
 ·rcases KU dy with⟨h0,hp⟩|⟨h0,y,hy,hp⟩<;>rw [hp,hd,chain] at hw<;>clear hd
  ·repeat' first|refine bD ?_;intros|refine dM ?_ ?_<;>intros|with_reducible apply dx|((with_reducible refine dJ (jd _) ?_ hs.has ?_ ?_);(· kernel_rfl);all_goals (intro _ w X ao;replace hs:=hs.trans ao))|((with_reducible refine dJ (kE _) ?_ hs.has ?_ ?_);(· kernel_rfl);all_goals (intro _ w X ao;replace hs:=hs.trans ao))|((first|(with_reducible refine av hs ?_)|(with_reducible refine av (bS.trans hs) ?_));intro wa hk;(simp_all [chain]<;>omega))|((with_reducible refine fh ((xs).length-(i+1)) ?_ ?_);omega;exact⟨i+1,by simp,rfl,by omega,hs,by rw [hw,nI hx];simp_all<;>omega⟩)
  ·repeat' first|refine bD ?_;intros|refine dM ?_ ?_<;>intros|with_reducible apply dx|((with_reducible refine dJ (jd _) ?_ hs.has ?_ ?_);(· kernel_rfl);all_goals (intro _ w X ao;replace hs:=hs.trans ao))|((with_reducible refine dJ (kE _) ?_ hs.has ?_ ?_);(· kernel_rfl);all_goals (intro _ w X ao;replace hs:=hs.trans ao))|((first|(with_reducible refine av hs ?_)|(with_reducible refine av (bS.trans hs) ?_));intro wa hk;(simp_all [chain]<;>omega))|((with_reducible refine fh ((xs).length-(i+1)) ?_ ?_);omega;exact⟨i+1,by simp,rfl,by omega,hs,by rw [hw,nI hx];simp_all<;>omega⟩)
 ·repeat' first|refine bD ?_;intros|((first|(with_reducible refine av hs ?_)|(with_reducible refine av (bS.trans hs) ?_));intro wa hk;(simp_all [chain]<;>grind))
abbrev dq.zero:dq:=⟨0,0,0,0⟩
abbrev State.zero:State:=⟨.zero,.zero,.zero,[],[]⟩
def State.isZero (s:State):Bool:=decide (s.range= .zero)&&decide (s.floor= .zero)&&decide (s.closed= .zero)&&decide (s.fV=[])&&decide (s.fB=[])
theorem NG {w:World} {X:XS} {s:State} {vh vp:Value} (h1:nh w X vh s.fV) (h2:nf w X vp s.fB):
  Ct pg 267 #[s.v vh vp] w X nX fun v _ _=>v=B s.isZero:=by
 intro w0 hk;replace h1:=h1.mv hk.dD;replace h2:=h2.mv hk.dD;apply Lz;unfold Bb;have hs:=aj.init w0;repeat' first|refine aJ ?_;intros|refine dM ?_ ?_<;>intros|(with_reducible refine CH _ ?_ ?_ ?_);(· kernel_rfl);all_goals intros|with_reducible apply dx|((first|(with_reducible refine av hs ?_)|(with_reducible refine av (bS.trans hs) ?_));intro wa hk;(simp_all [State.isZero,dq.ext_iff]))|((with_reducible refine Ca (zc _) hs.has ?_);intro w X ao;replace hs:=hs.trans ao)
def Rec.isZero (r:Rec):Bool:=decide (r.dK= .zero)&&decide (r.bF= .zero)&&decide (r.prev= .zero)&&!r.kM&&decide (r.n=0)&&decide (r.vF=0)&&
 decide (r.reads=[])&&decide (r.writes=[])&&decide (r.parts=[])&&decide (r.xm=[])&&r.state.isZero
theorem XU {w:World} {X:XS} {r:Rec} {vr vw vp vq vh vd:Value} (h:r.at w X vr vw vp vq vh vd):
  Ct pg 207 #[r.v vr vw vp vq vh vd] w X nX fun v _ _=>v=B r.isZero:=by
 intro w0 hk;obtain⟨h1,h2,h3,h4,h5,h6⟩:=h.mv hk.dD;apply Wb;unfold Kd;have hs:=aj.init w0;cases hc:r.kM<;>
 repeat' first|refine aJ ?_;intros|refine dM ?_ ?_<;>intros|(with_reducible refine CH _ ?_ ?_ ?_);(· kernel_rfl);all_goals intros|(with_reducible refine acq _ ?_ ?_ ?_);(· kernel_rfl);all_goals intros|with_reducible apply dx|((first|(with_reducible refine av hs ?_)|(with_reducible refine av (bS.trans hs) ?_));intro wa hk;(simp_all [Rec.isZero]))|((with_reducible refine Ca (zc _) hs.has ?_);intro w X ao;replace hs:=hs.trans ao)|(refine fT (NG  (s:=r.state) qA qA) kQ hs.has ?_ ?_<;>(intro _ w X ao;replace hs:=hs.trans ao))
def Rec.strip (r:Rec):Rec×Bool:=
 if r.kind=1 then({ r with state:=.zero },true)
 else if r.kind=2∨r.kind=7∨r.kind=8 then({ r with n:=0 },true)
 else if r.kind=3 then({ r with dK:=.zero,bF:=.zero,reads:=[],writes:=[],parts:=[] },true)
 else if r.kind=4 then({ r with dK:=.zero,kM:=false,bF:=.zero },true)
 else if r.kind=5 then({ r with bF:=.zero },true)
 else if r.kind=6 then({ r with vF:=0,n:=0,bF:=.zero },true)
 else if r.kind=9 then({ r with dK:=.zero,bF:=.zero,parts:=[] },true)
 else if r.kind=10 then({ r with dK:=.zero },true)
 else if r.kind=11 then({ r with prev:=.zero,bF:=.zero,dK:=.zero,writes:=[] },true)
 else if r.kind=12 then({ r with bF:=.zero,xm:=[] },true)
 else(r,false)
theorem QX {w:World} {X:XS} {r:Rec} {vr vw vp vq vh vd:Value} (h:r.at w X vr vw vp vq vh vd):
  Ct pg 206 #[r.v vr vw vp vq vh vd] w X nX fun v _ _=> ∃Wo fy Hu vq' Wp Wq,v= .tuple #[r.strip.1.v Wo fy Hu vq' Wp Wq,B r.strip.2]∧
   r.strip.1.at w X Wo fy Hu vq' Wp Wq:=by
 intro w0 hk;obtain⟨h1,h2,h3,h4,h5,h6⟩:=h;have o1:=h1.one;have o2:=h2.one;have o3:=h3.one;have o4:=h4.one;have o5:=h5.one;have o6:=h6.one;apply Pv;unfold DP;have hs:=aj.init w0;have n1:Sl w X 1 (.slice none 0 0) (([]:List BA).map S1):=Sl.nil _ _ _;have n2:Sl w X 4 (.slice none 0 0) (([]:List KV).map KV.l):=Sl.nil _ _ _;have n3:Sl w X 1 (.slice none 0 0) (([]:List Int).map I1):=Sl.nil _ _ _;have n4:nh w X (.slice none 0 0) []:=en.nil _ _ _;have n5:nf w X (.slice none 0 0) []:=en.nil _ _ _;repeat' first|refine aJ ?_;intros|refine dM ?_ ?_<;>intros|with_reducible apply dx
 all_goals
  refine av hs ?_;intro wa bk;unfold Rec.strip;repeat (first|rw [if_pos zQ]|rw [if_neg zQ])
  exact⟨_,_,_,_,_,_,rfl,by assumption,by assumption,by assumption,by assumption,by assumption,by assumption⟩
theorem Hv {w:World} {X:XS} {a:Value} {xs:List BA} (ha:Sl w X 1 a (xs.map S1)) (hb:xs.length≤2^40):
  Ct pg 156 #[a] w X nX fun v wa w'=>Own w' (made wa w') wa.heap.size 9 1 v (xs.map S1):=by
  intro w0 hk;replace ha:=ha.mv hk.dD;apply wy;unfold oz;have hs:=aj.init w0;repeat' first|refine aJ ?_;intros|refine dM ?_ ?_<;>intros|(with_reducible apply Ge);(case hX=>exact hs.has);(case hu=>kernel_rfl);(case hz=>kernel_rfl);intro acc w X ao ho;replace hs:=hs.trans ao|((first|(with_reducible refine av hs ?_)|(with_reducible refine av (bS.trans hs) ?_));intro wa hk;(first|(rename_i h1 h2;(first|(rw [h2])|skip);exact Own.nil _ _ _ _ _)|exact(ho.kp hk).tight))|((with_reducible apply qQ);(case own=>assumption);(case hs=>assumption);(case h0=>exact fun _ h=>h);(case he=>kernel_rfl);(case src=>exact Sl.mv ha (aj.mv hs));(case h1=>simp [aV.one]);(case hb=>simp;omega);(case hl=>simp;omega);intro acc w X ao ho hc ef;replace hs:=ao;rw [dG] at ho)
theorem ET {w:World} {X:XS} {a:Value} {xs:List KV} (ha:Sl w X 4 a (xs.map KV.l)) (hb:xs.length≤2^40):
  Ct pg 158 #[a] w X nX fun v wa w'=>Own w' (made wa w') wa.heap.size 64 4 v (xs.map KV.l):=by
  intro w0 hk;replace ha:=ha.mv hk.dD;apply sH;unfold lZ;have hs:=aj.init w0;repeat' first|refine aJ ?_;intros|refine dM ?_ ?_<;>intros|(with_reducible apply Ge);(case hX=>exact hs.has);(case hu=>kernel_rfl);(case hz=>kernel_rfl);intro acc w X ao ho;replace hs:=hs.trans ao|((first|(with_reducible refine av hs ?_)|(with_reducible refine av (bS.trans hs) ?_));intro wa hk;(first|(rename_i h1 h2;(first|(rw [h2])|skip);exact Own.nil _ _ _ _ _)|exact(ho.kp hk).tight))|((with_reducible apply qQ);(case own=>assumption);(case hs=>assumption);(case h0=>exact fun _ h=>h);(case he=>kernel_rfl);(case src=>exact Sl.mv ha (aj.mv hs));(case h1=>simp [aV.one]);(case hb=>simp;omega);(case hl=>simp;omega);intro acc w X ao ho hc ef;replace hs:=ao;rw [dG] at ho)
theorem NH {w:World} {X:XS} {a:Value} {xs:List j8} (ha:Sl w X 6 a (xs.map j8.l)) (hb:xs.length≤2^40):
  Ct pg 297 #[a] w X nX fun v wa w'=>Own w' (made wa w') wa.heap.size 322 6 v (xs.map j8.l):=by
  intro w0 hk;replace ha:=ha.mv hk.dD;apply rl;unfold km;have hs:=aj.init w0;repeat' first|refine aJ ?_;intros|refine dM ?_ ?_<;>intros|(with_reducible apply Ge);(case hX=>exact hs.has);(case hu=>kernel_rfl);(case hz=>kernel_rfl);intro acc w X ao ho;replace hs:=hs.trans ao|((first|(with_reducible refine av hs ?_)|(with_reducible refine av (bS.trans hs) ?_));intro wa hk;(first|(rename_i h1 h2;(first|(rw [h2])|skip);exact Own.nil _ _ _ _ _)|exact(ho.kp hk).tight))|((with_reducible apply qQ);(case own=>assumption);(case hs=>assumption);(case h0=>exact fun _ h=>h);(case he=>kernel_rfl);(case src=>exact Sl.mv ha (aj.mv hs));(case h1=>simp [aV.one]);(case hb=>simp;omega);(case hl=>simp;omega);intro acc w X ao ho hc ef;replace hs:=ao;rw [dG] at ho)
theorem Tb {w:World} {X:XS} {a:Value} {xs:List BA} {k:BA} (ha:Sl w X 1 a (xs.map S1)):
  Ct pg 163 #[a,.string k] w X nX fun v _ _=>v=I (idxOf (fun x=>decide (k=x)) xs):=by
 intro w0 hk;replace ha:=ha.mv hk.dD;have jT:=ha.gy;apply wz;unfold oA;have hs:=aj.init w0;repeat' first|refine aJ ?_;intros
 refine fR (fun n a w X=> ∃i:Nat,a=I (i:Nat)∧n=(xs).length-i∧i≤(xs).length∧aj (aR w0) w0 X w∧(∀(j:Nat) x,j<i→xs[j]? =some x→decide (k=x)=false)) (xs).length ⟨0,rfl,rfl,aF _,hs,by simp⟩ ?_;rintro n a w X ⟨i,rfl,rfl,hi,hs,hw⟩;rcases ew (xs) i with⟨dy,x,hx,hd⟩|⟨dV,hd⟩
 ·repeat' first|refine bD ?_;intros|refine dM ?_ ?_<;>intros|((first|(with_reducible refine av hs ?_)|(with_reducible refine av (bS.trans hs) ?_));intro wa hk;(rw [Nc hw hx (by simpa)]))|((with_reducible refine fh ((xs).length-(i+1)) ?_ ?_);omega;exact⟨i+1,by simp,rfl,by omega,hs,fun j y hj hy=>by rcases Nat.lt_succ_iff_lt_or_eq.1 hj with h|h;exact hw j y h hy;subst h;rw [hx] at hy;cases hy;simpa⟩)
 ·repeat' first|refine bD ?_;intros|((first|(with_reducible refine av hs ?_)|(with_reducible refine av (bS.trans hs) ?_));intro wa hk;(rw [Gq fun j x hj hx=>hw j x zQ hx]))
theorem wc {w:World} {X:XS} {a:Value} {xs:List BA} {k:BA} (ha:Sl w X 1 a (xs.map S1)):
  Ct pg 93 #[a,.string k] w X nX fun v _ _=>v=B (xs.any fun x=>decide (k=x)):=by
 intro w0 hk;replace ha:=ha.mv hk.dD;apply uc;unfold mQ;have hs:=aj.init w0;repeat' first|refine aJ ?_;intros|refine dM ?_ ?_<;>intros|((first|(with_reducible refine av hs ?_)|(with_reducible refine av (bS.trans hs) ?_));intro wa hk;(rw [←JI];simp [*]))|(refine gC (Tb  qA) kQ hs.has ?_;intro w X ao;replace hs:=hs.trans ao)
theorem Ky {w:World} {X:XS} {a:Value} {xs:List KV} {f:FuncId} {cs:List Value} {p:KV→Bool} (ha:Sl w X 4 a (xs.map KV.l)) (hX: ∀k,X k→k<w.heap.size) (hf:enters pg f=true)
  (hp: ∀x,Ct pg f ((.agg x.l.toArray)::cs).toArray w X nX fun v _ _=>v=B (p x)):
  Ct pg 329 #[a,.func (.func f) #[] cs.toArray] w X nX fun v _ _=>v=I (idxOf p xs):=by
 intro w0 hk;replace ha:=ha.mv hk.dD;replace hp:=fun x=>((hp x).kp hk).aR fun k hx=>aG (hX k hx) hk.size;have jT:=ha.gy;apply rp;unfold ko;have hs:=aj.init w0;repeat' first|refine aJ ?_;intros
 refine fR (fun n a w X=> ∃i:Nat,a=I (i:Nat)∧n=(xs).length-i∧i≤(xs).length∧aj (aR w0) w0 X w∧(∀(j:Nat) x,j<i→xs[j]? =some x→p x=false)) (xs).length ⟨0,rfl,rfl,aF _,hs,by simp⟩ ?_;rintro n a w X ⟨i,rfl,rfl,hi,hs,hw⟩;rcases ew (xs) i with⟨dy,x,hx,hd⟩|⟨dV,hd⟩
 ·repeat' first|refine bD ?_;intros|((first|(with_reducible refine av hs ?_)|(with_reducible refine av (bS.trans hs) ?_));intro wa hk;(rw [Nc hw hx ‹_›]))|((with_reducible refine fh ((xs).length-(i+1)) ?_ ?_);omega;exact⟨i+1,by simp,rfl,by omega,hs,fun j y hj hy=>by rcases Nat.lt_succ_iff_lt_or_eq.1 hj with h|h;exact hw j y h hy;subst h;rw [hx] at hy;cases hy;assumption⟩)|(refine fT ((hp x).since hs) hf hs.has ?_ ?_<;>(intro _ w X ao;replace hs:=hs.trans ao))
 ·repeat' first|refine bD ?_;intros|((first|(with_reducible refine av hs ?_)|(with_reducible refine av (bS.trans hs) ?_));intro wa hk;(rw [Gq fun j x hj hx=>hw j x zQ hx]))
theorem Fx {w:World} {X:XS} {a:Value} {xs:List KV} {f:FuncId} {cs:List Value} {p:KV→Bool} (ha:Sl w X 4 a (xs.map KV.l)) (hX: ∀k,X k→k<w.heap.size) (hf:enters pg f=true)
  (hp: ∀x,Ct pg f ((.agg x.l.toArray)::cs).toArray w X nX fun v _ _=>v=B (p x)):
  Ct pg 325 #[a,.func (.func f) #[] cs.toArray] w X nX fun v _ _=>v=B (xs.any p):=by
 intro w0 hk;replace ha:=ha.mv hk.dD;replace hp:=fun x=>((hp x).kp hk).aR fun k hx=>aG (hX k hx) hk.size;apply qb;unfold jD;have hs:=aj.init w0;repeat' first|refine aJ ?_;intros|refine dM ?_ ?_<;>intros|((first|(with_reducible refine av hs ?_)|(with_reducible refine av (bS.trans hs) ?_));intro wa hk;(rw [←JI];simp [*]))|(refine gC (Ky ha hs.has hf hp) kQ hs.has ?_;intro w X ao;replace hs:=hs.trans ao)
def tle (a b:BA):Bool:=uP a b||decide (a=b)
def zl:cw→List j8→Bool
 |_,[]=>true
 |s,v::r=>v.bF.may&&decide (v.bF.cmp s>0)&&v.val.may&&zl v.bF r
def jm.ok (h:jm) (ahead:BA):Bool:=gn h.key&&!tle h.key ahead&&decide (h.l7≠[])&&zl .zero h.l7
theorem QY {w:World} {X:XS} {h:jm} {vv:Value} {ahead:BA} (ha:Sl w X 6 vv (h.l7.map j8.l)):
  Ct pg 296 #[.agg (h.l vv).toArray,.string ahead] w X nX fun v _ _=>v=B (h.ok ahead):=by
 intro w0 hk;replace ha:=ha.mv hk.dD;have jT:=ha.gy;apply Py;unfold DS;have hs:=aj.init w0;repeat' first|refine aJ ?_;intros|refine dM ?_ ?_<;>intros|((with_reducible refine dJ (jd _) ?_ hs.has ?_ ?_);(· kernel_rfl);all_goals (intro _ w X ao;replace hs:=hs.trans ao))|((first|(with_reducible refine av hs ?_)|(with_reducible refine av (bS.trans hs) ?_));intro wa hk;(simp_all [jm.ok,tle]<;>grind))
 refine fN (fun n a b w X=> ∃(i:Nat) (s:cw),a=I i∧b=s.v∧n=h.l7.length-i∧i≤h.l7.length∧aj (aR w0) w0 X w∧zl .zero h.l7=zl s (h.l7.drop i)) h.l7.length
  ⟨0,.zero,rfl,rfl,rfl,aF _,hs,by simp⟩ ?_
 rintro n a b w X ⟨i,s,rfl,rfl,rfl,hi,hs,hw⟩;have du:h.l7≠[]:=by intro e;simp_all
 rcases ew (h.l7) i with⟨dy,x,hx,hd⟩|⟨dV,hd⟩
 ·rw [hd,zl] at hw;clear hd;repeat' first|refine bD ?_;intros|refine dM ?_ ?_<;>intros|with_reducible apply dx|((with_reducible refine dJ (mw _) ?_ hs.has ?_ ?_);(· kernel_rfl);all_goals (intro _ w X ao;replace hs:=hs.trans ao))|((with_reducible refine dJ (kE _) ?_ hs.has ?_ ?_);(· kernel_rfl);all_goals (intro _ w X ao;replace hs:=hs.trans ao))|((with_reducible refine ee (sa _ _) ?_ hs.has ?_);(· kernel_rfl);intro w X ao;replace hs:=hs.trans ao)|((first|(with_reducible refine av hs ?_)|(with_reducible refine av (bS.trans hs) ?_));intro wa hk;(simp_all [jm.ok,tle]<;>grind))|((with_reducible refine fJ ((h.l7).length-(i+1)) ?_ ?_);omega;exact⟨i+1,x.bF,by simp,rfl,rfl,by omega,hs,by simp_all⟩)
 ·repeat' first|refine bD ?_;intros|((first|(with_reducible refine av hs ?_)|(with_reducible refine av (bS.trans hs) ?_));intro wa hk;(simp_all [jm.ok,tle,zl]<;>grind))
def ey.has (p:ey) (k:BA):Bool:=p.writes.any fun w=>decide (w.key=k)
theorem NI {w:World} {X:XS} {x:KV} {k:BA} {b:Nat} (h:Cells w X b 0 [.string k]):
  Ct pg 326 #[.agg x.l.toArray,ptr b 0] w X nX fun v _ _=>v=B (decide (x.key=k)):=by
 intro w0 hk;replace h:=h.mv hk.dD;apply LC;unfold Be;have hs:=aj.init w0;repeat' first|refine aJ ?_;intros|refine dM ?_ ?_<;>intros|((first|(with_reducible refine av hs ?_)|(with_reducible refine av (bS.trans hs) ?_));intro wa hk;simp_all)
theorem HP {w:World} {X:XS} {p:ey} {vr vw:Value} {k:BA} (hX: ∀k,X k→k<w.heap.size) (h2:Sl w X 4 vw (p.writes.map KV.l)):
  Ct pg 318 #[p.v vr vw,.string k] w X nX fun v _ _=>v=B (p.has k):=by
 intro w0 hk;replace h2:=h2.mv hk.dD;apply QU;unfold Fs;have hs:=aj.init w0;repeat' first|refine aJ ?_;intros|(with_reducible apply ta);(case ho=>rfl);(case hX=>exact hs.has);intro bx w X gh ao bJ;have bS:=hs.trans ao;replace hs:=aj.ct ao.has|((first|(with_reducible refine av hs ?_)|(with_reducible refine av (bS.trans hs) ?_));intro wa hk;(simp [ey.has]))|(refine gC (Fx (p:=fun x=>decide (x.key=k)) (h2.mv (aj.mv (bS.trans hs))) hs.has kQ fun x=>NI (x:=x) (by first|exact bJ.cells)) kQ hs.has ?_;intro w X ao;replace hs:=hs.trans ao)
theorem BI:sR pg 27 (fun k:dc=>k.v):=
 aeB (n:=3) kQ (fun k:dc=>[k.gM,k.ga,k.sq]) (fun _=>rfl) (fun a b h=>by
  simp only [List.cons.injEq,and_true] at h;exact dc.ext h.1 h.2.1 h.2.2)
theorem zd:sR pg 9 (fun s:BA=>bB s):=Gx kQ
def oB (w:World) (A:XS) (v:Value) (l:List j8):Prop:=Sl w A 6 v (l.map j8.l)
def mZ (w:World) (A:XS) (v:Value) (p:ey):Prop:= ∃vr vw,v=p.v vr vw∧Sl w A 1 vr (p.reads.map S1)∧Sl w A 4 vw (p.writes.map KV.l)
theorem oB.mv:mU oB:=fun _ _ _ _ _ _ h m=>Sl.mv h m
theorem mZ.mv:mU mZ:=fun _ _ _ _ _ _ ⟨vr,vw,h,h1,h2⟩ m=>⟨vr,vw,h,h1.mv m,h2.mv m⟩
structure gv (w:World) (X A:XS) (sb kb pb:Nat) (hm:List (BA×List j8)) (pm:List (dc×ey)) (low:cw):Prop where
 box:a7 w X sb [.map (some kb),.map (some pb),I low.wall,I low.ep,I low.node] 425
 keys:dR w X A kb (fun s:BA=>bB s) oB hm
 fB:dR w X A pb (fun k:dc=>k.v) mZ pm
 sub: ∀k,A k→X k
 off: ∀k,A k→k≠sb∧k≠kb∧k≠pb
theorem gv.mv {w w':World} {X Y A:XS} {sb kb pb:Nat} {hm:List (BA×List j8)} {pm:List (dc×ey)} {low:cw} (h:gv w X A sb kb pb hm pm low)
  (hX: ∀k,X k→k<w.heap.size) (m:Mv X w Y w'):gv w' Y A sb kb pb hm pm low:=by
 have ma:Mv A w A w':=fun k hk hl=>⟨hk,(m k (h.sub k hk) hl).2⟩;exact⟨h.box.mv m,h.keys.mv oB.mv m ma,h.fB.mv mZ.mv m ma,fun k hk=>(m k (h.sub k hk) (hX k (h.sub k hk))).1,h.off⟩
theorem aeO {w:World} {X A:XS} {kb:Nat} {hm:List (BA×List j8)} {k:BA} {N:Value→Prop} {w0:World} {X0:XS} (h:dR w0 X0 A kb (fun s:BA=>bB s) oB hm) (hA: ∀k,A k→X0 k) (m:Mv X0 w0 X w)
  (n: ∀v,Sl w0 X0 6 v (((getM k hm).getD []).map j8.l)→N v):ae pg X w (Instr.lookup 422 (.map (some kb)) (.string k) false) N:=by
 have h':dR w X A kb (fun s:BA=>bB s) oB hm:=h.mv oB.mv m fun k hk hl=>⟨hk,(m k (hA k hk) hl).2⟩;obtain⟨es,c,h1,h2⟩:=h;have m':Mv A w0 A w:=fun k hk hl=>⟨hk,(m k (hA k hk) hl).2⟩;refine th (et:=318) (A:=X) (rd:=fun w X v l=>Sl w0 A 6 v (l.map j8.l)) (l:=hm) (.slice none 0 0) ?_ zd kQ kQ (fun v a hg hr=>?_) fun hg=>?_
 ·exact⟨es,c,h1.mv m,by
   clear h1 h' n
   induction es generalizing hm with
   |nil=>cases hm<;>first|trivial|exact h2.elim
   |cons e es ih=>cases hm with
    |nil=>exact h2.elim
    |cons x l=>exact⟨h2.1,h2.2.1,ih h2.2.2⟩⟩
 ·exact n v (by rw [hg];exact Sl.mv hr (Mv.sub hA))
 ·exact n _ (by rw [hg];exact Sl.nil _ _ _)
def ey.BF (x q:ey):Bool:=x.writes.any (fun w=>q.has w.key||q.reads.any fun k=>decide (w.key=k))||x.reads.any fun k=>q.has k
def CJ (l:List j8) (rB:cw) (all:Bool):fS×cw:=l.foldl (fun s v=>if all||decide (v.bF.cmp rB≤0)then(v.val,v.bF)else s) (.zero,.zero)
def Fy (hm:List (BA×List j8)) (k:BA):List j8:=(getM k hm).getD []
abbrev aaN (k:BA) (s:fS×cw):Value:=.agg #[.string k,I s.1.kind,.float .f64 s.1.num,.string s.1.text,I s.2.wall,I s.2.ep,I s.2.node]
theorem Tc {w:World} {X A:XS} {sb kb pb:Nat} {hm:List (BA×List j8)} {pm:List (dc×ey)} {low rB:cw} {k:BA} {all:Bool}
  (h:gv w X A sb kb pb hm pm low) (hX: ∀k,X k→k<w.heap.size):
  Ct pg 327 #[ptr sb 0,.string k,rB.v,B all] w X nX fun v _ _=>v=aaN k (CJ (Fy hm k) rB all):=by
 intro w0 hk;replace h:=h.mv hX hk.dD;have gh:=h.box;have RR:=h.keys;apply G8;unfold yq;have hs:=aj.init w0;repeat' first|refine aJ ?_;intros
 refine aeO RR h.sub (Mv.refl _ _) fun vv hvv=>?_
 show ae _ _ _ _ _
 have Oa:Fy hm k=(getM k hm).getD []:=rfl;rw [←Oa] at hvv;generalize Fy hm k=vs at hvv;have jT:=hvv.gy;repeat' first|refine aJ ?_;intros
 refine fN (fun n a b w X=> ∃(i:Nat) (s:fS×cw),a=I i∧b=aaN k s∧n=vs.length-i∧i≤vs.length∧aj (aR w0) w0 X w∧
  CJ vs rB all=(vs.drop i).foldl (fun s v=>if all||decide (v.bF.cmp rB≤0)then(v.val,v.bF)else s) s) vs.length ⟨0,(.zero,.zero),rfl,rfl,rfl,aF _,hs,by rw [List.drop_zero];rfl⟩ ?_
 rintro n a b w X ⟨i,s,rfl,rfl,rfl,hi,hs,hw⟩;rcases ew (vs) i with⟨dy,x,hx,hd⟩|⟨dV,hd⟩
 ·rw [hd,fI] at hw;cases all
  ·repeat' first|refine bD ?_;intros|refine dM ?_ ?_<;>intros|with_reducible apply dx|((with_reducible refine ee (sa _ _) ?_ hs.has ?_);(· kernel_rfl);intro w X ao;replace hs:=hs.trans ao)|((with_reducible refine fJ ((vs).length-(i+1)) ?_ ?_);omega;exact⟨i+1,(x.val,x.bF),by simp,rfl,rfl,by omega,hs,by rw [hw];simp [*]⟩)|((with_reducible refine fJ ((vs).length-(i+1)) ?_ ?_);omega;exact⟨i+1,s,by simp,rfl,rfl,by omega,hs,by rw [hw];simp [*]⟩)
  ·repeat' first|refine bD ?_;intros|with_reducible apply dx|((with_reducible refine fJ ((vs).length-(i+1)) ?_ ?_);omega;exact⟨i+1,(x.val,x.bF),by simp,rfl,rfl,by omega,hs,by rw [hw];simp [*]⟩)
 ·repeat' first|refine bD ?_;intros|((first|(with_reducible refine av hs ?_)|(with_reducible refine av (bS.trans hs) ?_));intro wa hk;(rw [hw,hd];rfl))
theorem Td {w:World} {X A:XS} {sb kb pb:Nat} {hm:List (BA×List j8)} {pm:List (dc×ey)} {low:cw} {k:BA}
  (h:gv w X A sb kb pb hm pm low) (hX: ∀k,X k→k<w.heap.size):
  Ct pg 319 #[ptr sb 0,.string k] w X nX fun v _ _=>v=aaN k (CJ (Fy hm k) .zero true):=by
 intro w0 hk;replace h:=h.mv hX hk.dD;apply G7;unfold yp;have hs:=aj.init w0;repeat' first|refine aJ ?_;intros|((first|(with_reducible refine av hs ?_)|(with_reducible refine av (bS.trans hs) ?_));intro wa hk;rfl)|(refine gC (Tc (rB:=.zero) h hs.has) kQ hs.has ?_;intro w X ao;replace hs:=hs.trans ao)
def Kz (hm:List (BA×List j8)) (x:ey):Bool:=x.writes.any fun w=>decide ((CJ (Fy hm w.key) .zero true).2.cmp x.bF≥0)
theorem aaO {w:World} {X A:XS} {sb kb pb:Nat} {hm:List (BA×List j8)} {pm:List (dc×ey)} {low:cw} {x:ey} {vr vw:Value}
  (h:gv w X A sb kb pb hm pm low) (hX: ∀k,X k→k<w.heap.size) (h2:Sl w X 4 vw (x.writes.map KV.l)):
  Ct pg 299 #[ptr sb 0,x.v vr vw] w X nX fun v _ _=>v=B (Kz hm x):=by
 intro w0 hk;replace h:=h.mv hX hk.dD;replace h2:=h2.mv hk.dD;have jT:=h2.gy;apply LA;unfold Bc;have hs:=aj.init w0;repeat' first|refine aJ ?_;intros
 refine fR (fun n a w X=> ∃i:Nat,a=I (i:Nat)∧n=(x.writes).length-i∧i≤(x.writes).length∧aj (aR w0) w0 X w∧Kz hm x=(x.writes.drop i).any (fun w=>decide ((CJ (Fy hm w.key) .zero true).2.cmp x.bF≥0))) (x.writes).length ⟨0,rfl,rfl,aF _,hs,by simp [Kz]⟩ ?_;rintro n a w X ⟨i,rfl,rfl,hi,hs,hw⟩;rcases ew (x.writes) i with⟨dy,y,hy,hd⟩|⟨dV,hd⟩
 ·rw [hd,jv] at hw;repeat' first|refine bD ?_;intros|refine dM ?_ ?_<;>intros|((with_reducible refine ee (sa _ _) ?_ hs.has ?_);(· kernel_rfl);intro w X ao;replace hs:=hs.trans ao)|((first|(with_reducible refine av hs ?_)|(with_reducible refine av (bS.trans hs) ?_));intro wa hk;simp_all)|((with_reducible refine fh ((x.writes).length-(i+1)) ?_ ?_);omega;exact⟨i+1,by simp,rfl,by omega,hs,by rw [hw];simp [*]⟩)|(refine gC (Td (h.mv (fun _ h=>h) (aj.mv hs)) hs.has) kQ hs.has ?_;intro w X ao;replace hs:=hs.trans ao)
 ·repeat' first|refine bD ?_;intros|((first|(with_reducible refine av hs ?_)|(with_reducible refine av (bS.trans hs) ?_));intro wa hk;simp_all)
theorem Te {w:World} {X A:XS} {sb kb pb:Nat} {hm:List (BA×List j8)} {pm:List (dc×ey)} {low:cw} {x:ey} {vr vw:Value}
  (h:gv w X A sb kb pb hm pm low) (hX: ∀k,X k→k<w.heap.size) (h1:Sl w X 1 vr (x.reads.map S1)) (h2:Sl w X 4 vw (x.writes.map KV.l)):
  Ct pg 298 #[ptr sb 0,x.v vr vw] w X nX fun v _ _=>v=B (pm.any fun q=>x.BF q.2):=by
 intro w0 hk;replace h:=h.mv hX hk.dD;replace h1:=h1.mv hk.dD;replace h2:=h2.mv hk.dD;have gh:=h.box;have RG:=h1.gy;have LU:=h2.gy;apply G6;unfold yn;have hs:=aj.init w0;repeat' first|refine aJ ?_;intros
 refine agw (kt:=27) (et:=266) h.fB mZ.mv h.sub kQ hs.has fun r w X hr ao Hx=>?_;replace hs:=hs.trans ao;refine fN (fun n _ _ w X=> ∃left,n=left.length∧aj (aR w0) w0 X w∧JH w X A r pb (fun k:dc=>k.v) mZ pm left∧(pm.any fun q=>x.BF q.2)=left.any fun q=>x.BF q.2)
  pm.length ⟨pm,rfl,hs,Hx,rfl⟩ ?_
 rintro n a b w X ⟨left,rfl,hs,Hx,hw⟩;refine aiE Hx mZ.mv (fun k hk=>⟨hs.sub k (h.sub k hk),fun e=>by have:k<w0.heap.size:=h.sub k hk;omega⟩) hs.has (fun e0 w X ao=>?_) fun kx q v nr w1 X1 hc qq al2 he=>?_
 ·replace hs:=hs.trans ao;repeat' first|refine aJ ?_;intros|((first|(with_reducible refine av hs ?_)|(with_reducible refine av (bS.trans hs) ?_));intro wa hk;(rw [hw,e0];rfl))
 ·have bS:=hs.fM hc fun k hk e=>by have:k<w0.heap.size:=hk;omega
  obtain⟨ur,uw,rfl,q1,q2⟩:=qq;have hA1: ∀k,A k→X1 k:=fun k hk=>bS.sub k (h.sub k hk);replace q1:=q1.mv (Mv.sub hA1);replace q2:=q2.mv (Mv.sub hA1);have o1:=q1.one;have o2:=q2.one;rw [acj _ Hx.nodup nr] at hw;replace hs:=aj.ct bS.has;repeat' first|refine aJ ?_;intros
  refine agx hs.has he fun w X ao=>?_;replace hs:=hs.trans ao;repeat' first|refine aJ ?_;intros
  refine fR (fun n a w X=> ∃i:Nat,a=I (i:Nat)∧n=x.writes.length-i∧i≤x.writes.length∧aj X1 w1 X w∧
   (x.writes.any (fun w=>q.has w.key||q.reads.any fun k=>decide (w.key=k))=(x.writes.drop i).any (fun w=>q.has w.key||q.reads.any fun k=>decide (w.key=k)))) x.writes.length
   ⟨0,rfl,rfl,aF _,hs,by simp⟩ ?_
  rintro n a w X ⟨i,rfl,rfl,hi,hs,rA⟩;rcases ew (x.writes) i with⟨dy,y,hy,hd⟩|⟨dV,hd⟩
  ·rw [hd,jv] at rA;repeat' first|refine bD ?_;intros|with_reducible apply dx|((first|(with_reducible refine av hs ?_)|(with_reducible refine av (bS.trans hs) ?_));intro wa hk;(rw [hw];simp [ey.BF,rA, *]))|((with_reducible refine fh ((x.writes).length-(i+1)) ?_ ?_);omega;exact⟨i+1,by simp,rfl,by omega,hs,by rw [rA];simp [*]⟩)|(refine fT (HP  (p:=q) hs.has qA) kQ hs.has ?_ ?_<;>(intro _ w X ao;replace hs:=hs.trans ao))|(refine fT (wc  qA) kQ hs.has ?_ ?_<;>(intro _ w X ao;replace hs:=hs.trans ao))
  ·rw [hd] at rA;repeat' first|refine bD ?_;intros
   refine fR (fun n a w X=> ∃i:Nat,a=I (i:Nat)∧n=x.reads.length-i∧i≤x.reads.length∧aj X1 w1 X w∧
    (x.reads.any (fun k=>q.has k)=(x.reads.drop i).any (fun k=>q.has k))) x.reads.length
    ⟨0,rfl,rfl,aF _,hs,by simp⟩ ?_
   rintro n a w X ⟨j,rfl,rfl,hj,hs,ug⟩;rcases ew x.reads j with⟨dy,y,hy,nR⟩|⟨MI,nR⟩
   ·rw [nR,jv] at ug;repeat' first|refine bD ?_;intros|((first|(with_reducible refine av hs ?_)|(with_reducible refine av (bS.trans hs) ?_));intro wa hk;(rw [hw];simp [ey.BF,ug, *]))|((with_reducible refine fh (x.reads.length-(j+1)) ?_ ?_);omega;exact⟨j+1,by simp,rfl,by omega,hs,by rw [ug];simp [*]⟩)|(refine fT (HP  (p:=q) hs.has qA) kQ hs.has ?_ ?_<;>(intro _ w X ao;replace hs:=hs.trans ao))
   ·rw [nR] at ug;repeat' first|refine bD ?_;intros
    refine fJ _ (agv nr) ⟨_,rfl,bS.trans hs,al2.mv mZ.mv (aj.mv hs) (aj.fi hs hA1),?_⟩;rw [hw];have:x.BF q=false:=by unfold ey.BF;rw [rA,ug];rfl
    simp [this]
end Go.Proofs.YtbpnemeooenpmaaGreat
