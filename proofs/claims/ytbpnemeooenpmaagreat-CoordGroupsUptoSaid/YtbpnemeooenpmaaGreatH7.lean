/-
 Part 7 of the proof: what the last text leans on.
-/
import Derived.Test.YtbpnemeooenpmaaGreatProg
import Derived.KernelRfl
import Derived.Test.YtbpnemeooenpmaaGreatH6
open Nat renaming zero_le → aG, lt_of_lt_of_le → aH
open Go.Value renaming cells → aa, agg → ai, tuple → aq, int → aA
open Go.Instr renaming extract → aD, makeMap → gd
open Array renaming toList → ad
open List renaming toArray → aO, all → ao, nil_append → dG, length_map → aI, length_take → bU, length_append → av, length_cons → ba, length_nil → bL
open BitVec renaming ofInt → bS
open Ieee.Datum renaming quotient → ux
set_option linter.unusedVariables false
set_option linter.unusedSimpArgs false
namespace Go.Proofs.YtbpnemeooenpmaaGreat
open Go.Proofs.Tryz renaming prog → pg
open Go.aR
set_option maxRecDepth 100000
section
variable (R : Ending → World → Prop) (w0 : World) (X0 : XS)
noncomputable def HQ:bp:=⟨105,[(8,(pg.cellsOf 48)),(9,(pg.cellsOf 28)),(15,(pg.cellsOf 99))],[],[0,1,2,3,10,11,12,13,16,17,23,30,39,53,74,85],[20,21,22,31,40,69,70,71,72,73],[8,9,12]⟩
def HD (R1 R2:Ending→World→Prop) (w0:World) (X0:XS) (p0:Value) (p1 p2:Int) (p3:Value):Prop:=
 (ae pg X0 w0 (binOp .lss 3 (I p1) (I 1)) fun a=>
 un (aU a false (I p1)) fun b=>
 aJ pg X0 w0 a false (vS (binOp .gtr 3 b (I 2))) fun c=>
 aC pg X0 w0 (aQ a (B true) c) fun d=>
 (ay d
 ((fin R1 X0 w0 (aq #[(.pointer none),(I 1)])))
 ((eC pg R1 X0 w0 true 19 #[p3] fun e g h=>
 ae pg h g (aD e 0) fun i=>
 ae pg h g (aD e 1) fun j=>
 aB (aR.one j) ((ae pg h g (aE .neq 28 (.tmp 29) (.const (I 0)) j (I 0)) fun k=>
 (ay k
 (aB (aR.one j) ((fin R1 h g (aq #[(.pointer none),j]))))
 ((eC pg R1 h g true 20 #[p0,(.string { data:= #[108,111,103] }),(I p2)] fun l m n=>
 ae pg n m (aD l 0) fun o=>
 ae pg n m (aD l 1) fun q=>
 aB (aR.one q) ((ae pg n m (aE .neq 28 (.tmp 38) (.const (I 0)) q (I 0)) fun r=>
 (ay r
 (aB (aR.one q) ((fin R1 n m (aq #[(.pointer none),q]))))
 ((eV pg R1 n m true (gd 88 none) fun s t v=>
 eV pg R1 v t true (gd 89 none) fun y z A=>
 ae pg A z (dw 93 #[(I p1),(I 0),(I 0),o,(B false),i,(.pointer none),s,(.slice none 0 0),y,(.slice none 0 0),(.slice none 0 0)] #[(0,(I p1)),(3,o),(5,i),(7,s),(9,y)]) fun C=>
 eV pg R1 A z true (Instr.box 93 C) fun D E F=>
 aB (aR.one D) ((eC pg R1 F E true 21 #[o] fun G H L=>
 (qK L H G (.agg #[q]) (.agg #[D]) 12 9 8 fun M N O Q S T U=>
 eC pg R1 U T true 22 #[o] fun V Y Z=>
 ae pg Z Y (binOp .lss 3 O V) fun a0=>
 (ay a0
 ((eC pg R1 Z Y true 23 #[o,O] fun b0 c0 d0=>
 ae pg d0 c0 (aD b0 0) fun e0=>
 ae pg d0 c0 (aD b0 1) fun _=>
 (eC pg R1 d0 c0 true 24 #[e0] fun g0 h0 i0=>
 ae pg i0 h0 (aD g0 0) fun j0=>
 ae pg i0 h0 (aD g0 1) fun k0=>
 un (ai (aa j0)) fun l0=>
 aB (List.length (ad (aa j0))==29) (aB (ao (ad (aa j0)) aR.one) ((ae pg i0 h0 (aE .neq 28 (.tmp 67) (.const (I 0)) k0 (I 0)) fun m0=>
 aB (bH S) (un (cellOf S 0) fun n0=>
 un (aU m0 false n0) fun o0=>
 aB (bH l0) (un (cj l0 0 29) fun q0=>
 un (aU m0 false q0) fun r0=>
 jn (fun (s0:Value) (t0:World) (v0:XS)=>
 aJ pg v0 t0 m0 false (vS (Op.unary UnOp.not s0)) fun y0=>
 aC pg v0 t0 (aQ m0 (B true) y0) fun z0=>
 (ay z0
 (aB (bH S) (un (ai (aO (cV (ad (aa S)) 0 [(.pointer none)]))) fun A0=>
 aB (bH Q) (un (ai (aO (cV (ad (aa Q)) 0 [(I 13)]))) fun C0=>
 (un (cellOf A0 0) fun D0=>
 un (cellOf C0 0) fun E0=>
 aB (ao [A0,C0] bH) (fin R1 v0 t0 (aq #[D0,E0]))))))
 (((ae pg v0 t0 (binOp .add 3 O (I 1)) fun F0=>
 qL M N F0 Q S t0 v0))))) fun G0=>
 (gE m0 false (eC pg R1 i0 h0 true 25 #[o0,r0] G0) (G0 undef h0 i0))))))))))
 (((aB (bH S) (aB (bH Q) ((aB (bH S) (un (cellOf S 0) fun H0=>
 aC pg Z Y (aF H0) fun L0=>
 ae pg Z Y (aS 93 1 1 1 L0) fun M0=>
 ae pg Z Y (ld1 3 M0) fun N0=>
 ae pg Z Y (binOp .add 3 N0 (I 1)) fun O0=>
 ae pg Z Y (dw 99 #[(I 8),(I 0),(I 0),(I 0),(I 0),(I 0),(I 0),(I 0),(I 0),(I 0),(B false),O0,(.float .f64 0),(.slice none 0 0),(.slice none 0 0),(.slice none 0 0),(.slice none 0 0),(I 0),(I 0),(.float .f64 0),(.float .f64 0),(I 0),(I 0),(I 0),(I 0),(I 0),(I 0),(.slice none 0 0),(.slice none 0 0)] #[(0,(I 8)),(5,O0)]) fun Q0=>
 eC pg R2 Z Y true 28 #[H0,Q0] fun S0 T0 U0=>
 (ae pg U0 T0 (aE .neq 28 (.tmp 84) (.const (I 0)) S0 (I 0)) fun V0=>
 (ay V0
 (aB (bH S) (un (ai (aO (cV (ad (aa S)) 0 [(.pointer none)]))) fun Y0=>
 aB (bH Q) (un (ai (aO (cV (ad (aa Q)) 0 [S0]))) fun Z0=>
 aB (aR.one S0) ((un (cellOf Y0 0) fun a1=>
 un (cellOf Z0 0) fun b1=>
 aB (ao [Y0,Z0] bH) (fin R2 U0 T0 (aq #[a1,b1])))))))
 ((aB (bH S) (aC pg U0 T0 (aF H0) fun c1=>
 ae pg U0 T0 (aS 93 1 1 1 c1) fun d1=>
 ae pg U0 T0 (ld1 3 d1) fun e1=>
 ae pg U0 T0 (binOp .add 3 e1 (I 1)) fun g1=>
 aC pg U0 T0 (aF H0) fun h1=>
 ae pg U0 T0 (aS 93 1 1 1 h1) fun i1=>
 eU pg R2 U0 T0 true (st1 3 1 i1 g1) fun _ j1 k1=>
 (aB (bH S) (ae pg k1 j1 (dw 30 #[(I 0),(I 0),(I 0)] #[]) fun l1=>
 eC pg R2 k1 j1 false 30 #[H0] fun m1 n1 o1=>
 eC pg R2 o1 n1 true 29 #[m1,l1] fun q1 r1 s1=>
 ae pg s1 r1 (aD q1 0) fun t1=>
 ae pg s1 r1 (aD q1 1) fun _=>
 aC pg s1 r1 (aF H0) fun v1=>
 ae pg s1 r1 (aS 93 6 6 1 v1) fun y1=>
 eU pg R2 s1 r1 true (st1 90 1 y1 t1) fun _ z1 A1=>
 (aB (bH S) (un (ai (aO (cV (ad (aa S)) 0 [H0]))) fun C1=>
 aB (aR.one H0) (aB (bH Q) (un (ai (aO (cV (ad (aa Q)) 0 [(I 0)]))) fun D1=>
 (un (cellOf C1 0) fun E1=>
 un (cellOf D1 0) fun F1=>
 aB (ao [C1,D1] bH) (fin R2 A1 z1 (aq #[E1,F1])))))))))))))))))))))))))))))))))))))))
noncomputable def Ec:bp:=⟨67,[(4,(pg.cellsOf 33)),(5,(pg.cellsOf 28)),(10,(pg.cellsOf 75))],[],[0,1,6,7,8,12,16,26,33,34,35,36,48,49,50,51],[27,54],[4,35,50]⟩
def L7 (R1 R2:Ending→World→Prop) (w0:World) (X0:XS) (p0 p1:Value):Prop:=
 (eC pg R1 X0 w0 true 9 #[p0] fun a b c=>
 (ae pg c b (aE .neq 28 (.tmp 15) (.const (I 0)) a (I 0)) fun d=>
 (ay d
 (aB (aR.one a) ((fin R1 c b (aq #[(.slice none 0 0),a]))))
 ((eC pg R1 c b true 10 #[p0] fun e g h=>
 eC pg R1 h g true 44 #[e,p1] fun i j k=>
 ae pg k j (aD i 0) fun l=>
 ae pg k j (aD i 1) fun m=>
 aB (aR.one m) ((ae pg k j (aE .neq 28 (.tmp 25) (.const (I 0)) m (I 0)) fun n=>
 (ay n
 (aB (aR.one m) ((fin R1 k j (aq #[(.slice none 0 0),m]))))
 (((eV pg R2 k j true (gd 133 none) fun o q r=>
 ae pg r q (dw 141 #[(.slice none 0 0),l,o] #[(1,l),(2,o)]) fun s=>
 eV pg R2 r q true (Instr.box 141 s) fun t v y=>
 (ae pg y v (cB 23 3 p0) fun z=>
 (gG y v (I 0) 35 fun A C D E F=>
 ae pg F E (binOp .lss 3 D z) fun G=>
 (ay G
 ((ae pg F E (dr 23 5 p0 D) fun H=>
 ae pg F E (dY 75 5 H) fun L=>
 un (ai (aa L)) fun M=>
 aB (List.length (ad (aa L))==5) (aB (ao (ad (aa L)) aR.one) ((aB (bH M) (un (cj M 0 5) fun N=>
 eC pg R2 F E true 46 #[t,N] fun _ O Q=>
 ((ae pg Q O (binOp .add 3 D (I 1)) fun S=>
 gz A C S O Q))))))))
 (((aC pg F E (aF t) fun T=>
 ae pg F E (aS 141 2 2 1 T) fun U=>
 ae pg F E (ld1 133 U) fun V=>
 eC pg R2 F E true 48 #[V] fun Y Z a0=>
 eC pg R2 a0 Z true 47 #[Y] fun b0 c0 d0=>
 ae pg d0 c0 (cB 31 3 b0) fun e0=>
 (gS d0 c0 (I 0) (.agg #[(.slice none 0 0)]) 50 4 fun g0 h0 i0 j0 k0 l0=>
 ae pg l0 k0 (binOp .lss 3 i0 e0) fun m0=>
 (ay m0
 ((ae pg l0 k0 (dr 31 1 b0 i0) fun n0=>
 ae pg l0 k0 (ld1 9 n0) fun o0=>
 (aB (bH j0) (un (cellOf j0 0) fun q0=>
 aC pg l0 k0 (aF t) fun r0=>
 ae pg l0 k0 (aS 141 2 2 1 r0) fun s0=>
 ae pg l0 k0 (ld1 133 s0) fun t0=>
 ae pg l0 k0 (Instr.lookup 133 t0 o0 false) fun v0=>
 un (cellOf v0 0) fun y0=>
 un (cellOf v0 1) fun z0=>
 un (cellOf v0 2) fun A0=>
 ae pg l0 k0 (dw 64 #[o0,y0,z0,A0] #[(0,o0),(1,v0)]) fun C0=>
 eV pg R2 l0 k0 true (fC 33 64 4 1 #[(0,C0)]) fun D0 E0 F0=>
 eV pg R2 F0 E0 true (e6 33 64 4 48 33 q0 D0) fun G0 H0 L0=>
 un (ai (aO (cV (ad (aa j0)) 0 [G0]))) fun M0=>
 aB (aR.one G0) (((ae pg L0 H0 (binOp .add 3 i0 (I 1)) fun N0=>
 gP g0 h0 N0 M0 H0 L0)))))))
 (((aB (bH j0) (un (cellOf j0 0) fun O0=>
 un (ai (aO (cV (ad (aa j0)) 0 [O0]))) fun Q0=>
 aB (aR.one O0) ((un (cellOf Q0 0) fun S0=>
 aB (ao [Q0,(.agg #[(I 0)])] bH) (fin R2 l0 k0 (aq #[S0,(I 0)])))))))))))))))))))))))))))
end
theorem cv {f:FuncId} {fn:Func} {args:Array Value} {w:World} {R:Ending→World→Prop} {V:Prop} (pl:bp) (hf:pg.funcs[f]? =some fn) (h:V)
 (hs:(decide (args.size≤pl.n)&&pl.boxes.all fun p=>decide (args.size≤p.1))=true:=by kernel_rfl) (hv:V=Nu pg (cF pg pl fn) R args w:=by kernel_rfl):Calls pg f args w R:=aM hf hs hv h
section
variable {R : Ending → World → Prop} {w0 : World} {p0 p1 p2 p3 p4 p5 p6 p7 p8 p9 p10 p11 : Value}
theorem Cv {R:Ending→World→Prop} {w0:World} {p0:Value} {p1:Int} {p2:Value} (h:tK R w0 (aV w0) p0 p1 p2):Calls pg 3 #[p0,(I p1),p2] w0 R:=
 aM (pl:=CB) Tryz.func3 (by kernel_rfl) (by kernel_rfl) h
theorem JD (h:z6 R w0 (aV w0)):Calls pg 4 #[] w0 R:=cv ⟨128,[(4,(pg.cellsOf 27)),(5,(pg.cellsOf 56)),(7,(pg.cellsOf 30)),(8,(pg.cellsOf 56))],[46,51,59,67,72,77,85,94,100],[0,1,2,3,6,9,10,11,14,26],[23,24,25,50,52,53,54,55,56,58,60,61,62,63,64,66,68,69,70,76,78,79,80,81,82,84,86,87,88,89,90,91,93,95,96,97,99,101,102,103,104,108,109,110,112,113,114,115,117,118,120,121,123,124,125,126],[]⟩ Tryz.func4 h
theorem Np (h:Cs R w0 (aV w0) p0):Calls pg 5 #[p0] w0 R:=cv ⟨79,[],[],[0,2,3,4,5,17,34,42],[10,11,12,14,15,16,45,75,76,77],[3,4,5]⟩ Tryz.func5 h
theorem XQ (h:Mq R w0 (aV w0)):Calls pg 7 #[] w0 R:=cv ⟨4,[],[],[0],[],[]⟩ Tryz.func7 h
theorem SG (h:Ht R w0 (aV w0) p0):Calls pg 9 #[p0] w0 R:=cv ⟨57,[(5,(pg.cellsOf 75)),(6,(pg.cellsOf 124))],[18,28,34,38,40],[0,2,3,7,10,11,12,13,14,23,26,32,45,56],[51,52,53,54,55],[3,13]⟩ Tryz.func9 h
theorem SE (h:Hr R w0 (aV w0) p0):Calls pg 10 #[p0] w0 R:=cv ⟨5,[],[],[0,2],[],[]⟩ Tryz.func10 h
theorem SQ {R:Ending→World→Prop} {w0:World} {p0:Value} {p1:Nat} (h:HF R w0 (aV w0) p0 p1):Calls pg 11 #[p0,(.float .f64 p1)] w0 R:=
 aM (pl:=SS) Tryz.func11 (by kernel_rfl) (by kernel_rfl) h
theorem XR {R:Ending→World→Prop} {w0:World} {p0:ByteArray} (h:Mr R w0 (aV w0) p0):Calls pg 12 #[(.string p0)] w0 R:=
 aM (pl:=XE) Tryz.func12 (by kernel_rfl) (by kernel_rfl) h
theorem Gv (h:xO R w0 (aV w0) p0):Calls pg 14 #[p0] w0 R:=cv ⟨13,[],[],[0,2,6],[],[]⟩ Tryz.func14 h
theorem Ns (h:Cu R w0 (aV w0)):Calls pg 15 #[] w0 R:=cv ⟨4,[],[],[0],[],[]⟩ Tryz.func15 h
theorem Jw (h:zY R w0 (aV w0) p0):Calls pg 17 #[p0] w0 R:=cv ⟨11,[],[],[0,2,6],[],[]⟩ Tryz.func17 h
theorem HZ {R:Ending→World→Prop} {w0:World} {aX bo bu bO bZ cr cq cz dh cY bP bN da cP cN:Int} {cO:Bool} {cQ cT:Int} {cE cA cG cH cC cM:Value} {cD cI:Int} {cJ cK:Nat} {cL eI eJ eK eM eO:Int} {eP eQ:Value} {p1:Int} (h:yL R w0 (aV w0) aX bo bu bO bZ cr cq cz dh cY bP bN da cP cN cO cQ cT cE cA cG cH cC cM cD cI cJ cK cL eI eJ eK eM eO eP eQ p1):Calls pg 18 #[(.agg #[(I aX),(I bo),(I bu),(I bO),(I bZ),(I cr),(I cq),(I cz),(I dh),(I cY),(I bP),(I bN),(I da),(I cP),(I cN),(B cO),(I cQ),(I cT),cE,cA,cG,cH,cC,cM,(I cD),(I cI),(.float .f64 cJ),(.float .f64 cK),(I cL),(I eI),(I eJ),(I eK),(I eM),(I eO),eP,eQ]),(I p1)] w0 R:=
 aM (pl:=H9) Tryz.func18 (by kernel_rfl) (by kernel_rfl) h
theorem Zp (h:Oq R w0 (aV w0) p0):Calls pg 19 #[p0] w0 R:=cv ⟨18,[],[],[0,2,3,4,5,9],[],[]⟩ Tryz.func19 h
theorem Xd {R:Ending→World→Prop} {w0:World} {p0:Value} {p1:ByteArray} {p2:Int} (h:LQ R w0 (aV w0) p0 p1 p2):Calls pg 20 #[p0,(.string p1),(I p2)] w0 R:=
 aM (pl:=XF) Tryz.func20 (by kernel_rfl) (by kernel_rfl) h
theorem NH (h:CC R w0 (aV w0) p0):Calls pg 21 #[p0] w0 R:=cv ⟨12,[],[],[0,2],[],[]⟩ Tryz.func21 h
theorem Pw (h:DK R w0 (aV w0) p0):Calls pg 22 #[p0] w0 R:=cv ⟨15,[],[],[0,2],[],[]⟩ Tryz.func22 h
theorem Jp {R:Ending→World→Prop} {w0:World} {p0:Value} {dx bY dP iu iB jy iO jc mG mH:Int} {jD:Bool} {jE:Int} {lf:Nat} {lh lj kB lk:Value} {ln lp:Int} {lq lr:Nat} {lu jU lv lx ly lz:Int} {lA lB:Value} (h:zV R w0 (aV w0) p0 dx bY dP iu iB jy iO jc mG mH jD jE lf lh lj kB lk ln lp lq lr lu jU lv lx ly lz lA lB):Calls pg 28 #[p0,(.agg #[(I dx),(I bY),(I dP),(I iu),(I iB),(I jy),(I iO),(I jc),(I mG),(I mH),(B jD),(I jE),(.float .f64 lf),lh,lj,kB,lk,(I ln),(I lp),(.float .f64 lq),(.float .f64 lr),(I lu),(I jU),(I lv),(I lx),(I ly),(I lz),lA,lB])] w0 R:=
 aM (pl:=JY) Tryz.func28 (by kernel_rfl) (by kernel_rfl) h
theorem Zm {R:Ending→World→Prop} {w0:World} {p0 dx bY dP:Int} (h:Of R w0 (aV w0) p0 dx bY dP):Calls pg 29 #[(I p0),(.agg #[(I dx),(I bY),(I dP)])] w0 R:=
 aM (pl:=aaO) Tryz.func29 (by kernel_rfl) (by kernel_rfl) h
theorem I3 (h:zO R w0 (aV w0) p0):Calls pg 30 #[p0] w0 R:=cv ⟨8,[],[],[0,2],[],[]⟩ Tryz.func30 h
theorem wh (h:oq R w0 (aV w0) p0):Calls pg 32 #[p0] w0 R:=cv ⟨8,[],[],[0,2,4],[],[]⟩ Tryz.func32 h
theorem HX {R:Ending→World→Prop} {w0:World} {p0:Value} {p1:Int} {p2:Value} (h:yH R w0 (aV w0) p0 p1 p2):Calls pg 33 #[p0,(I p1),p2] w0 R:=
 aM (pl:=Ia) Tryz.func33 (by kernel_rfl) (by kernel_rfl) h
theorem Ll {R:Ending→World→Prop} {w0:World} {p0 p1:Value} {gR gM iG oW oX oY oZ:Int} {o9:Bool} {pa:Value} (h:AR R w0 (aV w0) p0 p1 gR gM iG oW oX oY oZ o9 pa):Calls pg 34 #[p0,p1,(.agg #[(I gR),(I gM),(I iG),(I oW),(I oX),(I oY),(I oZ),(B o9),pa])] w0 R:=
 aM (pl:=Lp) Tryz.func34 (by kernel_rfl) (by kernel_rfl) h
theorem I8 (h:zR R w0 (aV w0) p0):Calls pg 35 #[p0] w0 R:=cv ⟨13,[(2,(pg.cellsOf 56)),(3,(pg.cellsOf 56))],[],[0],[],[]⟩ Tryz.func35 h
theorem Lk {R:Ending→World→Prop} {w0:World} {p0 p1:Value} {gR gM iG oW oX oY oZ o9 pa tP pA pB pC pD pE:Int} {pF:Bool} {pG pH:Int} {pI pJ pK pL pM pN:Value} {pO pP:Int} {pQ pR:Nat} {pS pT pU pV pW pX:Int} {pY pZ:Value} (h:AQ R w0 (aV w0) p0 p1 gR gM iG oW oX oY oZ o9 pa tP pA pB pC pD pE pF pG pH pI pJ pK pL pM pN pO pP pQ pR pS pT pU pV pW pX pY pZ):Calls pg 36 #[p0,p1,(.agg #[(I gR),(I gM),(I iG),(I oW),(I oX),(I oY),(I oZ),(I o9),(I pa),(I tP),(I pA),(I pB),(I pC),(I pD),(I pE),(B pF),(I pG),(I pH),pI,pJ,pK,pL,pM,pN,(I pO),(I pP),(.float .f64 pQ),(.float .f64 pR),(I pS),(I pT),(I pU),(I pV),(I pW),(I pX),pY,pZ])] w0 R:=
 aM (pl:=Lq) Tryz.func36 (by kernel_rfl) (by kernel_rfl) h
theorem Lm (h:AT R w0 (aV w0) p0 p1):Calls pg 37 #[p0,p1] w0 R:=cv ⟨165,[(8,(pg.cellsOf 64)),(11,(pg.cellsOf 120)),(13,(pg.cellsOf 120)),(14,(pg.cellsOf 44)),(16,(pg.cellsOf 215)),(18,(pg.cellsOf 64))],[62,98,99,112,113,115,116,130,132,135,140,148,150,153,158],[0,1,4,5,6,9,32,39,55,56,57,58,79,87,88,89,90,106,107,108,109,124,125,126,127,134,142,143,144,145,152],[],[6,14,57,89,108,126,144]⟩ Tryz.func37 h
theorem Ox {R:Ending→World→Prop} {w0:World} {p0:Int} (h:F9 R w0 (aV w0) p0):Calls pg 38 #[(I p0)] w0 R:=
 aM (pl:=aaP) Tryz.func38 (by kernel_rfl) (by kernel_rfl) h
theorem Uu {R:Ending→World→Prop} {w0:World} {aX:Int} {bo:ByteArray} {bu:Int} {bO:Nat} {bZ:ByteArray} {p1:Int} (h:IN R w0 (aV w0) aX bo bu bO bZ p1):Calls pg 39 #[(.agg #[(I aX),(.string bo),(I bu),(.float .f64 bO),(.string bZ)]),(I p1)] w0 R:=
 aM (pl:=VS) Tryz.func39 (by kernel_rfl) (by kernel_rfl) h
theorem SF (h:Hs R w0 (aV w0) p0):Calls pg 40 #[p0] w0 R:=cv ⟨5,[],[],[0,2],[],[]⟩ Tryz.func40 h
theorem SD {R:Ending→World→Prop} {w0:World} {p0:Value} {p1 p2:Int} (h:Hq R w0 (aV w0) p0 p1 p2):Calls pg 41 #[p0,(I p1),(I p2)] w0 R:=
 aM (pl:=SU) Tryz.func41 (by kernel_rfl) (by kernel_rfl) h
theorem XT {R:Ending→World→Prop} {w0:World} {aX bo:Int} {bu bO p1:Nat} (h:Ms R w0 (aV w0) aX bo bu bO p1):Calls pg 42 #[(.agg #[(I aX),(I bo),(.float .f64 bu),(.float .f64 bO)]),(.float .f64 p1)] w0 R:=
 aM (pl:=XG) Tryz.func42 (by kernel_rfl) (by kernel_rfl) h
theorem S7 {R:Ending→World→Prop} {w0:World} {p0:ByteArray} (h:HI R w0 (aV w0) p0):Calls pg 43 #[(.string p0)] w0 R:=
 aM (pl:=SV) Tryz.func43 (by kernel_rfl) (by kernel_rfl) h
theorem UK (h:IX R w0 (aV w0) p0 p1):Calls pg 44 #[p0,p1] w0 R:=cv ⟨43,[],[],[0,1,4,5,6,7,9,10,12,13,14,15,22,41],[24,25,26,27,28,29,30,31],[7,14]⟩ Tryz.func44 h
theorem nM {R:Ending→World→Prop} {w0:World} {p0:Value} {dx:Int} {bY:ByteArray} {dP:Int} {iu:Nat} {iB:ByteArray} (h:l9 R w0 (aV w0) p0 dx bY dP iu iB):Calls pg 46 #[p0,(.agg #[(I dx),(.string bY),(I dP),(.float .f64 iu),(.string iB)])] w0 R:=
 aM (pl:=Qz) Tryz.func46 (by kernel_rfl) (by kernel_rfl) h
theorem nm (h:iJ R w0 (aV w0) p0):Calls pg 48 #[p0] w0 R:=cv ⟨4,[],[],[0,1,2],[],[]⟩ Tryz.func48 h
theorem zi (h:ri R w0 (aV w0) p0 p1):Calls pg 49 #[p0,p1] w0 R:=cv ⟨12,[],[],[0,1,4,5],[],[]⟩ Tryz.func49 h
theorem lM (h:gQ R w0 (aV w0) p0):Calls pg 50 #[p0] w0 R:=cv ⟨4,[],[],[0,1,2],[],[]⟩ Tryz.func50 h
theorem XU {R:Ending→World→Prop} {w0:World} {aX bo bu bO bZ cr cq cz dh cY bP bN da cP cN:Int} {cO:Bool} {cQ cT:Int} {cE cA cG cH cC cM:Value} {cD cI:Int} {cJ cK:Nat} {cL eI eJ eK eM eO:Int} {eP eQ:Value} (h:Mt R w0 (aV w0) aX bo bu bO bZ cr cq cz dh cY bP bN da cP cN cO cQ cT cE cA cG cH cC cM cD cI cJ cK cL eI eJ eK eM eO eP eQ):Calls pg 54 #[(.agg #[(I aX),(I bo),(I bu),(I bO),(I bZ),(I cr),(I cq),(I cz),(I dh),(I cY),(I bP),(I bN),(I da),(I cP),(I cN),(B cO),(I cQ),(I cT),cE,cA,cG,cH,cC,cM,(I cD),(I cI),(.float .f64 cJ),(.float .f64 cK),(I cL),(I eI),(I eJ),(I eK),(I eM),(I eO),eP,eQ])] w0 R:=
 aM (pl:=XH) Tryz.func54 (by kernel_rfl) (by kernel_rfl) h
theorem Ju {R:Ending→World→Prop} {w0:World} {p0:Value} {dx bY dP iu iB jy iO jc mG mH jD jE lf lh lj:Int} {kB:Bool} {lk ln:Int} {lp lq lr lu jU lv:Value} {lx ly:Int} {lz lA:Nat} {lB vM vN vO vP vQ:Int} {vR vT:Value} (h:zX R w0 (aV w0) p0 dx bY dP iu iB jy iO jc mG mH jD jE lf lh lj kB lk ln lp lq lr lu jU lv lx ly lz lA lB vM vN vO vP vQ vR vT):Calls pg 56 #[p0,(.agg #[(I dx),(I bY),(I dP),(I iu),(I iB),(I jy),(I iO),(I jc),(I mG),(I mH),(I jD),(I jE),(I lf),(I lh),(I lj),(B kB),(I lk),(I ln),lp,lq,lr,lu,jU,lv,(I lx),(I ly),(.float .f64 lz),(.float .f64 lA),(I lB),(I vM),(I vN),(I vO),(I vP),(I vQ),vR,vT])] w0 R:=
 aM (pl:=JZ) Tryz.func56 (by kernel_rfl) (by kernel_rfl) h
theorem QO {R:Ending→World→Prop} {w0:World} {p0 p1 p2:Int} (h:Fc R w0 (aV w0) p0 p1 p2):Calls pg 59 #[(I p0),(I p1),(I p2)] w0 R:=
 aM (pl:=QA) Tryz.func59 (by kernel_rfl) (by kernel_rfl) h
theorem Fw {R:Ending→World→Prop} {w0:World} {p0:Value} {p1:Int} (h:wV R w0 (aV w0) p0 p1):Calls pg 60 #[p0,(I p1)] w0 R:=
 aM (pl:=Fe) Tryz.func60 (by kernel_rfl) (by kernel_rfl) h
theorem Gw {R:Ending→World→Prop} {w0:World} {p0:Value} {p1:Int} (h:xP R w0 (aV w0) p0 p1):Calls pg 61 #[p0,(I p1)] w0 R:=
 aM (pl:=GG) Tryz.func61 (by kernel_rfl) (by kernel_rfl) h
theorem Eo {R:Ending→World→Prop} {w0:World} {p0:Value} {p1:Int} (h:vx R w0 (aV w0) p0 p1):Calls pg 62 #[p0,(I p1)] w0 R:=
 aM (pl:=Em) Tryz.func62 (by kernel_rfl) (by kernel_rfl) h
theorem Ik {R:Ending→World→Prop} {w0:World} {aX bo bu bO bZ cr cq cz dh cY:Int} {bP:Bool} {bN:Int} {da:Nat} {cP cN cO cQ:Value} {cT cE:Int} {cA cG:Nat} {cH cC cM cD cI cJ:Int} {cK cL:Value} {p1:Int} (h:yO R w0 (aV w0) aX bo bu bO bZ cr cq cz dh cY bP bN da cP cN cO cQ cT cE cA cG cH cC cM cD cI cJ cK cL p1):Calls pg 63 #[(.agg #[(I aX),(I bo),(I bu),(I bO),(I bZ),(I cr),(I cq),(I cz),(I dh),(I cY),(B bP),(I bN),(.float .f64 da),cP,cN,cO,cQ,(I cT),(I cE),(.float .f64 cA),(.float .f64 cG),(I cH),(I cC),(I cM),(I cD),(I cI),(I cJ),cK,cL]),(I p1)] w0 R:=
 aM (pl:=Ib) Tryz.func63 (by kernel_rfl) (by kernel_rfl) h
theorem Fx {R:Ending→World→Prop} {w0:World} {aX bo:Int} {bu bO:Nat} {bZ cr cq cz dh cY:Int} {bP bN:Value} {p1:Int} (h:wW R w0 (aV w0) aX bo bu bO bZ cr cq cz dh cY bP bN p1):Calls pg 64 #[(.agg #[(I aX),(I bo),(.float .f64 bu),(.float .f64 bO),(I bZ),(I cr),(I cq),(I cz),(I dh),(I cY),bP,bN]),(I p1)] w0 R:=
 aM (pl:=Ff) Tryz.func64 (by kernel_rfl) (by kernel_rfl) h
theorem PZ (h:EI R w0 (aV w0) p0):Calls pg 65 #[p0] w0 R:=cv ⟨72,[(4,(pg.cellsOf 38)),(6,(pg.cellsOf 38)),(12,(pg.cellsOf 38))],[39,41,54,58],[0,2,3,7,8,9,10,13,17,21,22,23,24,30,33,34,35,36,43,47,48,49,50,51,57,64,71],[],[7,8,9,10,23,35,50]⟩ Tryz.func65 h
theorem MQ (h:B4 R w0 (aV w0) p0 p1):Calls pg 66 #[p0,p1] w0 R:=cv ⟨50,[(7,(pg.cellsOf 38)),(8,(pg.cellsOf 38))],[21,32,34,43],[0,1,4,5,9,10,11,12,13,38],[29,30,31,33,35,36,37],[5,12]⟩ Tryz.func66 h
theorem XV {R:Ending→World→Prop} {w0:World} {p0:ByteArray} {p1:Int} (h:Mu R w0 (aV w0) p0 p1):Calls pg 67 #[(.string p0),(I p1)] w0 R:=
 aM (pl:=XI) Tryz.func67 (by kernel_rfl) (by kernel_rfl) h
theorem Lx (h:A6 R w0 (aV w0) p0):Calls pg 68 #[p0] w0 R:=cv ⟨7,[],[],[0,2],[],[]⟩ Tryz.func68 h
theorem Li (h:AI R w0 (aV w0) p0):Calls pg 69 #[p0] w0 R:=cv ⟨9,[],[],[0,2],[],[]⟩ Tryz.func69 h
theorem Px {R:Ending→World→Prop} {w0:World} {p0:Value} {p1:Int} (h:DL R w0 (aV w0) p0 p1):Calls pg 72 #[p0,(I p1)] w0 R:=
 aM (pl:=Pn) Tryz.func72 (by kernel_rfl) (by kernel_rfl) h
theorem Py (h:DN R w0 (aV w0) p0):Calls pg 74 #[p0] w0 R:=cv ⟨15,[],[],[0,2],[],[]⟩ Tryz.func74 h
theorem Wc (h:J0 R w0 (aV w0) p0 p1):Calls pg 78 #[p0,p1] w0 R:=cv ⟨183,[],[],[0,1,4,13,14,21,30,78,95,102,119,138,145,169],[],[]⟩ Tryz.func78 h
theorem QQ {R:Ending→World→Prop} {w0:World} {aX bo bu bO bZ cr cq cz dh cY:Int} {bP:Bool} {bN:Int} {da:Nat} {cP cN cO cQ:Value} {cT cE:Int} {cA cG:Nat} {cH cC cM cD cI cJ:Int} {cK cL:Value} (h:Fg R w0 (aV w0) aX bo bu bO bZ cr cq cz dh cY bP bN da cP cN cO cQ cT cE cA cG cH cC cM cD cI cJ cK cL):Calls pg 80 #[(.agg #[(I aX),(I bo),(I bu),(I bO),(I bZ),(I cr),(I cq),(I cz),(I dh),(I cY),(B bP),(I bN),(.float .f64 da),cP,cN,cO,cQ,(I cT),(I cE),(.float .f64 cA),(.float .f64 cG),(I cH),(I cC),(I cM),(I cD),(I cI),(I cJ),cK,cL])] w0 R:=
 aM (pl:=QB) Tryz.func80 (by kernel_rfl) (by kernel_rfl) h
theorem Ln {R:Ending→World→Prop} {w0:World} {p0:Value} {dx bY dP iu iB jy iO jc mG mH:Int} {jD:Bool} {jE:Int} {lf:Nat} {lh lj kB lk:Value} {ln lp:Int} {lq lr:Nat} {lu jU lv lx ly lz:Int} {lA lB:Value} (h:AW R w0 (aV w0) p0 dx bY dP iu iB jy iO jc mG mH jD jE lf lh lj kB lk ln lp lq lr lu jU lv lx ly lz lA lB):Calls pg 82 #[p0,(.agg #[(I dx),(I bY),(I dP),(I iu),(I iB),(I jy),(I iO),(I jc),(I mG),(I mH),(B jD),(I jE),(.float .f64 lf),lh,lj,kB,lk,(I ln),(I lp),(.float .f64 lq),(.float .f64 lr),(I lu),(I jU),(I lv),(I lx),(I ly),(I lz),lA,lB])] w0 R:=
 aM (pl:=Lr) Tryz.func82 (by kernel_rfl) (by kernel_rfl) h
theorem Ly (h:A7 R w0 (aV w0) p0 p1):Calls pg 83 #[p0,p1] w0 R:=cv ⟨90,[],[],[0,1,4,5,6,7,8,9,10,12,15,19,31,35,41,66],[],[]⟩ Tryz.func83 h
theorem Pz (h:DO R w0 (aV w0) p0):Calls pg 84 #[p0] w0 R:=cv ⟨28,[],[],[0,2,3,20],[],[]⟩ Tryz.func84 h
theorem aaR {R:Ending→World→Prop} {w0:World} {aX bo bu:Int} (h:Po R w0 (aV w0) aX bo bu):Calls pg 85 #[(.agg #[(I aX),(I bo),(I bu)])] w0 R:=
 aM (pl:=aaQ) Tryz.func85 (by kernel_rfl) (by kernel_rfl) h
theorem M8 {R:Ending→World→Prop} {w0:World} {p0:Value} {p1:Int} (h:Cl R w0 (aV w0) p0 p1):Calls pg 86 #[p0,(I p1)] w0 R:=
 aM (pl:=NA) Tryz.func86 (by kernel_rfl) (by kernel_rfl) h
theorem MT (h:B6 R w0 (aV w0) p0 p1):Calls pg 87 #[p0,p1] w0 R:=cv ⟨73,[(9,(pg.cellsOf 38))],[33,40,43],[0,1,4,5,6,8,10,11,13,15,16,17,18,23,31,38,52,53,54,55],[58,1000048],[11,17,54]⟩ Tryz.func87 h
theorem I5 {R:Ending→World→Prop} {w0:World} {p0:Value} {dx bY dP iu iB jy iO jc mG mH jD jE lf lh lj:Int} {kB:Bool} {lk ln:Int} {lp lq lr lu jU lv:Value} {lx ly:Int} {lz lA:Nat} {lB vM vN vO vP vQ:Int} {vR vT:Value} (h:zP R w0 (aV w0) p0 dx bY dP iu iB jy iO jc mG mH jD jE lf lh lj kB lk ln lp lq lr lu jU lv lx ly lz lA lB vM vN vO vP vQ vR vT):Calls pg 88 #[p0,(.agg #[(I dx),(I bY),(I dP),(I iu),(I iB),(I jy),(I iO),(I jc),(I mG),(I mH),(I jD),(I jE),(I lf),(I lh),(I lj),(B kB),(I lk),(I ln),lp,lq,lr,lu,jU,lv,(I lx),(I ly),(.float .f64 lz),(.float .f64 lA),(I lB),(I vM),(I vN),(I vO),(I vP),(I vQ),vR,vT])] w0 R:=
 aM (pl:=J6) Tryz.func88 (by kernel_rfl) (by kernel_rfl) h
theorem OF {R:Ending→World→Prop} {w0:World} {aX bo bu bO bZ cr cq cz dh cY bP bN da cP cN:Int} {cO:Bool} {cQ cT:Int} {cE cA cG cH cC cM:Value} {cD cI:Int} {cJ cK:Nat} {cL eI eJ eK eM eO:Int} {eP eQ:Value} (h:Du R w0 (aV w0) aX bo bu bO bZ cr cq cz dh cY bP bN da cP cN cO cQ cT cE cA cG cH cC cM cD cI cJ cK cL eI eJ eK eM eO eP eQ):Calls pg 89 #[(.agg #[(I aX),(I bo),(I bu),(I bO),(I bZ),(I cr),(I cq),(I cz),(I dh),(I cY),(I bP),(I bN),(I da),(I cP),(I cN),(B cO),(I cQ),(I cT),cE,cA,cG,cH,cC,cM,(I cD),(I cI),(.float .f64 cJ),(.float .f64 cK),(I cL),(I eI),(I eJ),(I eK),(I eM),(I eO),eP,eQ])] w0 R:=
 aM (pl:=Pp) Tryz.func89 (by kernel_rfl) (by kernel_rfl) h
theorem HW {R:Ending→World→Prop} {w0:World} {p0 p1:Value} {p2:Int} (h:yE R w0 (aV w0) p0 p1 p2):Calls pg 90 #[p0,p1,(I p2)] w0 R:=
 aM (pl:=Ic) Tryz.func90 (by kernel_rfl) (by kernel_rfl) h
theorem Ef (h:uY R w0 (aV w0) p0):Calls pg 91 #[p0] w0 R:=cv ⟨12,[],[],[0,2,3],[],[]⟩ Tryz.func91 h
theorem ud {R:Ending→World→Prop} {w0:World} {p0:Value} {p1:ByteArray} (h:mR R w0 (aV w0) p0 p1):Calls pg 93 #[p0,(.string p1)] w0 R:=
 aM (pl:=ub) Tryz.func93 (by kernel_rfl) (by kernel_rfl) h
theorem SC (h:Hp R w0 (aV w0)):Calls pg 94 #[] w0 R:=cv ⟨17,[(0,(pg.cellsOf 217))],[],[],[],[]⟩ Tryz.func94 h
theorem Wd {R:Ending→World→Prop} {w0:World} {p0:ByteArray} (h:J7 R w0 (aV w0) p0):Calls pg 95 #[(.string p0)] w0 R:=
 aM (pl:=VT) Tryz.func95 (by kernel_rfl) (by kernel_rfl) h
theorem We {R:Ending→World→Prop} {w0:World} {aX:Int} {bo:Nat} {bu:ByteArray} (h:J8 R w0 (aV w0) aX bo bu):Calls pg 96 #[(.agg #[(I aX),(.float .f64 bo),(.string bu)])] w0 R:=
 aM (pl:=VU) Tryz.func96 (by kernel_rfl) (by kernel_rfl) h
theorem sn (h:lS R w0 (aV w0) p0):Calls pg 98 #[p0] w0 R:=cv ⟨4,[],[],[0,1,2],[],[]⟩ Tryz.func98 h
theorem MW {R:Ending→World→Prop} {w0:World} {p0:Value} {dx:Int} {bY:Nat} {dP:ByteArray} (h:Ce R w0 (aV w0) p0 dx bY dP):Calls pg 101 #[p0,(.agg #[(I dx),(.float .f64 bY),(.string dP)])] w0 R:=
 aM (pl:=NB) Tryz.func101 (by kernel_rfl) (by kernel_rfl) h
theorem OA (h:Dm R w0 (aV w0) p0):Calls pg 103 #[p0] w0 R:=cv ⟨28,[(2,(pg.cellsOf 62)),(4,(pg.cellsOf 62))],[],[0,3],[],[]⟩ Tryz.func103 h
theorem SI {R:Ending→World→Prop} {w0:World} {aX:Int} {bo:Nat} {bu:ByteArray} (h:Hv R w0 (aV w0) aX bo bu):Calls pg 104 #[(.agg #[(I aX),(.float .f64 bo),(.string bu)])] w0 R:=
 aM (pl:=SX) Tryz.func104 (by kernel_rfl) (by kernel_rfl) h
theorem OC {R:Ending→World→Prop} {w0:World} {p0:Value} {p1:Int} (h:Dn R w0 (aV w0) p0 p1):Calls pg 105 #[p0,(I p1)] w0 R:=
 aM (pl:=Pq) Tryz.func105 (by kernel_rfl) (by kernel_rfl) h
theorem s7 (h:mj R w0 (aV w0) p0 p1):Calls pg 109 #[p0,p1] w0 R:=cv ⟨14,[],[],[0,1,4],[],[]⟩ Tryz.func109 h
theorem PA {R:Ending→World→Prop} {w0:World} {aX bo bu bO bZ cr cq cz dh cY bP bN da cP cN:Int} {cO:Bool} {cQ cT:Int} {cE cA cG cH cC cM:Value} {cD cI:Int} {cJ cK:Nat} {cL eI eJ eK eM eO:Int} {eP eQ:Value} (h:DP R w0 (aV w0) aX bo bu bO bZ cr cq cz dh cY bP bN da cP cN cO cQ cT cE cA cG cH cC cM cD cI cJ cK cL eI eJ eK eM eO eP eQ):Calls pg 111 #[(.agg #[(I aX),(I bo),(I bu),(I bO),(I bZ),(I cr),(I cq),(I cz),(I dh),(I cY),(I bP),(I bN),(I da),(I cP),(I cN),(B cO),(I cQ),(I cT),cE,cA,cG,cH,cC,cM,(I cD),(I cI),(.float .f64 cJ),(.float .f64 cK),(I cL),(I eI),(I eJ),(I eK),(I eM),(I eO),eP,eQ])] w0 R:=
 aM (pl:=Pr) Tryz.func111 (by kernel_rfl) (by kernel_rfl) h
theorem Wf {R:Ending→World→Prop} {w0:World} {p0:Int} (h:J9 R w0 (aV w0) p0):Calls pg 112 #[(I p0)] w0 R:=
 aM (pl:=VV) Tryz.func112 (by kernel_rfl) (by kernel_rfl) h
theorem Wg {R:Ending→World→Prop} {w0:World} {aX bo bu bO bZ cr cq cz dh cY bP bN da cP cN:Int} {cO:Bool} {cQ cT:Int} {cE cA cG cH cC cM:Value} {cD cI:Int} {cJ cK:Nat} {cL eI eJ eK eM eO:Int} {eP eQ:Value} (h:Ka R w0 (aV w0) aX bo bu bO bZ cr cq cz dh cY bP bN da cP cN cO cQ cT cE cA cG cH cC cM cD cI cJ cK cL eI eJ eK eM eO eP eQ):Calls pg 113 #[(.agg #[(I aX),(I bo),(I bu),(I bO),(I bZ),(I cr),(I cq),(I cz),(I dh),(I cY),(I bP),(I bN),(I da),(I cP),(I cN),(B cO),(I cQ),(I cT),cE,cA,cG,cH,cC,cM,(I cD),(I cI),(.float .f64 cJ),(.float .f64 cK),(I cL),(I eI),(I eJ),(I eK),(I eM),(I eO),eP,eQ])] w0 R:=
 aM (pl:=VW) Tryz.func113 (by kernel_rfl) (by kernel_rfl) h
theorem QR {R:Ending→World→Prop} {w0:World} {aX bo bu bO bZ cr cq cz dh cY bP bN da cP cN:Int} {cO:Bool} {cQ cT:Int} {cE cA cG cH cC cM:Value} {cD cI:Int} {cJ cK:Nat} {cL eI eJ eK eM eO:Int} {eP eQ:Value} (h:Fh R w0 (aV w0) aX bo bu bO bZ cr cq cz dh cY bP bN da cP cN cO cQ cT cE cA cG cH cC cM cD cI cJ cK cL eI eJ eK eM eO eP eQ):Calls pg 114 #[(.agg #[(I aX),(I bo),(I bu),(I bO),(I bZ),(I cr),(I cq),(I cz),(I dh),(I cY),(I bP),(I bN),(I da),(I cP),(I cN),(B cO),(I cQ),(I cT),cE,cA,cG,cH,cC,cM,(I cD),(I cI),(.float .f64 cJ),(.float .f64 cK),(I cL),(I eI),(I eJ),(I eK),(I eM),(I eO),eP,eQ])] w0 R:=
 aM (pl:=QC) Tryz.func114 (by kernel_rfl) (by kernel_rfl) h
theorem Gt {R:Ending→World→Prop} {w0:World} {p0:Value} {dx bY dP iu iB jy iO jc mG mH jD jE lf lh lj:Int} {kB:Bool} {lk ln:Int} {lp lq lr lu jU lv:Value} {lx ly:Int} {lz lA:Nat} {lB vM vN vO vP vQ:Int} {vR vT:Value} {p2:Bool} (h:xM R w0 (aV w0) p0 dx bY dP iu iB jy iO jc mG mH jD jE lf lh lj kB lk ln lp lq lr lu jU lv lx ly lz lA lB vM vN vO vP vQ vR vT p2):Calls pg 115 #[p0,(.agg #[(I dx),(I bY),(I dP),(I iu),(I iB),(I jy),(I iO),(I jc),(I mG),(I mH),(I jD),(I jE),(I lf),(I lh),(I lj),(B kB),(I lk),(I ln),lp,lq,lr,lu,jU,lv,(I lx),(I ly),(.float .f64 lz),(.float .f64 lA),(I lB),(I vM),(I vN),(I vO),(I vP),(I vQ),vR,vT]),(B p2)] w0 R:=
 aM (pl:=GH) Tryz.func115 (by kernel_rfl) (by kernel_rfl) h
theorem ua {R:Ending→World→Prop} {w0:World} {p0:Value} {p1 p2:Int} (h:mO R w0 (aV w0) p0 p1 p2):Calls pg 118 #[p0,(I p1),(I p2)] w0 R:=
 aM (pl:=uc) Tryz.func118 (by kernel_rfl) (by kernel_rfl) h
theorem Wh {R:Ending→World→Prop} {w0:World} {aX bo bu dx bY dP:Int} (h:Kb R w0 (aV w0) aX bo bu dx bY dP):Calls pg 119 #[(.agg #[(I aX),(I bo),(I bu)]),(.agg #[(I dx),(I bY),(I dP)])] w0 R:=
 aM (pl:=VX) Tryz.func119 (by kernel_rfl) (by kernel_rfl) h
theorem Gu (h:xN R w0 (aV w0) p0 p1):Calls pg 120 #[p0,p1] w0 R:=cv ⟨30,[],[],[0,1,5,9,10,11,12],[],[11]⟩ Tryz.func120 h
theorem BB {R:Ending→World→Prop} {w0:World} {p0:Value} {p1:Int} (h:sW R w0 (aV w0) p0 p1):Calls pg 123 #[p0,(I p1)] w0 R:=
 aM (pl:=Bz) Tryz.func123 (by kernel_rfl) (by kernel_rfl) h
theorem CG {R:Ending→World→Prop} {w0:World} {p0:Value} {p1:Int} (h:tQ R w0 (aV w0) p0 p1):Calls pg 124 #[p0,(I p1)] w0 R:=
 aM (pl:=CD) Tryz.func124 (by kernel_rfl) (by kernel_rfl) h
theorem Wi {R:Ending→World→Prop} {w0:World} {aX bo:Int} {bu bO:Nat} (h:Kc R w0 (aV w0) aX bo bu bO):Calls pg 125 #[(.agg #[(I aX),(I bo),(.float .f64 bu),(.float .f64 bO)])] w0 R:=
 aM (pl:=VY) Tryz.func125 (by kernel_rfl) (by kernel_rfl) h
theorem XW {R:Ending→World→Prop} {w0:World} {p0:ByteArray} {p1:Int} (h:Mw R w0 (aV w0) p0 p1):Calls pg 126 #[(.string p0),(I p1)] w0 R:=
 aM (pl:=XJ) Tryz.func126 (by kernel_rfl) (by kernel_rfl) h
theorem nk (h:iI R w0 (aV w0) p0):Calls pg 127 #[p0] w0 R:=cv ⟨4,[],[],[0,1,2],[],[]⟩ Tryz.func127 h
theorem Il {R:Ending→World→Prop} {w0:World} {p0:Value} {p1:ByteArray} (h:yP R w0 (aV w0) p0 p1):Calls pg 130 #[p0,(.string p1)] w0 R:=
 aM (pl:=Ie) Tryz.func130 (by kernel_rfl) (by kernel_rfl) h
theorem Kt (h:Ac R w0 (aV w0) p0 p1):Calls pg 132 #[p0,p1] w0 R:=cv ⟨26,[],[],[0,1,8],[],[]⟩ Tryz.func132 h
theorem GQ (h:ye R w0 (aV w0) p0 p1):Calls pg 133 #[p0,p1] w0 R:=cv ⟨33,[],[],[0,1],[],[]⟩ Tryz.func133 h
theorem Ep (h:vy R w0 (aV w0) p0 p1):Calls pg 134 #[p0,p1] w0 R:=cv ⟨28,[],[],[0,1],[],[]⟩ Tryz.func134 h
theorem Lz (h:A8 R w0 (aV w0) p0 p1 p2):Calls pg 135 #[p0,p1,p2] w0 R:=cv ⟨63,[],[],[0,1,2,6,7,8,17,38,39,40,46],[],[39]⟩ Tryz.func135 h
theorem Ku (h:Ad R w0 (aV w0) p0 p1):Calls pg 136 #[p0,p1] w0 R:=cv ⟨19,[],[],[0,1],[],[]⟩ Tryz.func136 h
theorem Im (h:yQ R w0 (aV w0) p0 p1):Calls pg 137 #[p0,p1] w0 R:=cv ⟨26,[],[],[0,1,8],[],[]⟩ Tryz.func137 h
theorem GR (h:yf R w0 (aV w0) p0 p1):Calls pg 138 #[p0,p1] w0 R:=cv ⟨19,[],[],[0,1],[],[]⟩ Tryz.func138 h
theorem GS (h:yg R w0 (aV w0) p0 p1):Calls pg 139 #[p0,p1] w0 R:=cv ⟨26,[],[],[0,1,8],[],[]⟩ Tryz.func139 h
theorem CP (h:uv R w0 (aV w0) p0 p1 p2):Calls pg 140 #[p0,p1,p2] w0 R:=cv ⟨63,[(8,(pg.cellsOf 64))],[],[0,1,2,6,7,17,38,39,40,46],[],[39]⟩ Tryz.func140 h
theorem GU (h:yh R w0 (aV w0) p0 p1):Calls pg 141 #[p0,p1] w0 R:=cv ⟨14,[],[],[0,1],[],[]⟩ Tryz.func141 h
theorem Er (h:vz R w0 (aV w0) p0 p1 p2):Calls pg 142 #[p0,p1,p2] w0 R:=cv ⟨63,[(8,(pg.cellsOf 247))],[],[0,1,2,6,7,17,38,39,40,46],[],[39]⟩ Tryz.func142 h
theorem Io (h:yR R w0 (aV w0) p0 p1):Calls pg 143 #[p0,p1] w0 R:=cv ⟨14,[],[],[0,1],[],[]⟩ Tryz.func143 h
theorem XX {R:Ending→World→Prop} {w0:World} {aX bo bu bO bZ cr cq cz dh cY:Int} {bP:Bool} {bN:Int} {da:Nat} {cP cN cO cQ:Value} {cT cE:Int} {cA cG:Nat} {cH cC cM cD cI cJ:Int} {cK cL:Value} (h:Mx R w0 (aV w0) aX bo bu bO bZ cr cq cz dh cY bP bN da cP cN cO cQ cT cE cA cG cH cC cM cD cI cJ cK cL):Calls pg 145 #[(.agg #[(I aX),(I bo),(I bu),(I bO),(I bZ),(I cr),(I cq),(I cz),(I dh),(I cY),(B bP),(I bN),(.float .f64 da),cP,cN,cO,cQ,(I cT),(I cE),(.float .f64 cA),(.float .f64 cG),(I cH),(I cC),(I cM),(I cD),(I cI),(I cJ),cK,cL])] w0 R:=
 aM (pl:=XK) Tryz.func145 (by kernel_rfl) (by kernel_rfl) h
theorem LA (h:A9 R w0 (aV w0)):Calls pg 146 #[] w0 R:=cv ⟨3,[],[],[0],[],[]⟩ Tryz.func146 h
theorem GW (h:yj R w0 (aV w0) p0):Calls pg 147 #[p0] w0 R:=cv ⟨9,[],[],[0,2],[],[]⟩ Tryz.func147 h
theorem As (h:rW R w0 (aV w0) p0):Calls pg 148 #[p0] w0 R:=cv ⟨8,[],[],[0,2,4],[],[]⟩ Tryz.func148 h
theorem QS (h:Fi R w0 (aV w0) p0):Calls pg 149 #[p0] w0 R:=cv ⟨27,[],[],[0,2,3,4,7],[],[]⟩ Tryz.func149 h
theorem Ip {R:Ending→World→Prop} {w0:World} {p0:Value} {p1:ByteArray} {p2:Value} (h:yS R w0 (aV w0) p0 p1 p2):Calls pg 150 #[p0,(.string p1),p2] w0 R:=
 aM (pl:=Ig) Tryz.func150 (by kernel_rfl) (by kernel_rfl) h
theorem LB {R:Ending→World→Prop} {w0:World} {p0:Value} {p1:ByteArray} (h:Ba R w0 (aV w0) p0 p1):Calls pg 151 #[p0,(.string p1)] w0 R:=
 aM (pl:=Ls) Tryz.func151 (by kernel_rfl) (by kernel_rfl) h
theorem Lj {R:Ending→World→Prop} {w0:World} {p0:Value} {p1:Int} (h:AJ R w0 (aV w0) p0 p1):Calls pg 152 #[p0,(I p1)] w0 R:=
 aM (pl:=Lt) Tryz.func152 (by kernel_rfl) (by kernel_rfl) h
theorem MR {R:Ending→World→Prop} {w0:World} {p0:Value} {p1:ByteArray} (h:B5 R w0 (aV w0) p0 p1):Calls pg 153 #[p0,(.string p1)] w0 R:=
 aM (pl:=NC) Tryz.func153 (by kernel_rfl) (by kernel_rfl) h
theorem qk (h:jL R w0 (aV w0) p0):Calls pg 155 #[p0] w0 R:=cv ⟨4,[],[],[0,1,2],[],[]⟩ Tryz.func155 h
theorem wz (h:oA R w0 (aV w0) p0):Calls pg 156 #[p0] w0 R:=cv ⟨8,[],[],[0,2,4],[],[]⟩ Tryz.func156 h
theorem tw (h:mB R w0 (aV w0) p0):Calls pg 157 #[p0] w0 R:=cv ⟨8,[],[],[0,2,4],[],[]⟩ Tryz.func157 h
theorem sI (h:l7 R w0 (aV w0) p0):Calls pg 158 #[p0] w0 R:=cv ⟨8,[],[],[0,2,4],[],[]⟩ Tryz.func158 h
theorem rZ (h:lJ R w0 (aV w0) p0 p1):Calls pg 159 #[p0,p1] w0 R:=cv ⟨14,[],[],[0,1,4],[],[]⟩ Tryz.func159 h
theorem wA {R:Ending→World→Prop} {w0:World} {p0:Value} {p1:ByteArray} (h:oB R w0 (aV w0) p0 p1):Calls pg 163 #[p0,(.string p1)] w0 R:=
 aM (pl:=wx) Tryz.func163 (by kernel_rfl) (by kernel_rfl) h
theorem XY {R:Ending→World→Prop} {w0:World} {p0:Nat} (h:My R w0 (aV w0) p0):Calls pg 164 #[(.float .f64 p0)] w0 R:=
 aM (pl:=XM) Tryz.func164 (by kernel_rfl) (by kernel_rfl) h
theorem Wj {R:Ending→World→Prop} {w0:World} {p0:Nat} (h:Kd R w0 (aV w0) p0):Calls pg 166 #[(.float .f64 p0)] w0 R:=
 aM (pl:=VZ) Tryz.func166 (by kernel_rfl) (by kernel_rfl) h
theorem SH {R:Ending→World→Prop} {w0:World} {p0:Bool} (h:Hu R w0 (aV w0) p0):Calls pg 167 #[(B p0)] w0 R:=
 aM (pl:=SY) Tryz.func167 (by kernel_rfl) (by kernel_rfl) h
theorem MV {R:Ending→World→Prop} {w0:World} {aX:Int} {bo:Nat} {bu:ByteArray} {dx:Int} {bY:Nat} {dP:ByteArray} (h:Cd R w0 (aV w0) aX bo bu dx bY dP):Calls pg 168 #[(.agg #[(I aX),(.float .f64 bo),(.string bu)]),(.agg #[(I dx),(.float .f64 bY),(.string dP)])] w0 R:=
 aM (pl:=ND) Tryz.func168 (by kernel_rfl) (by kernel_rfl) h
theorem P5 {R:Ending→World→Prop} {w0:World} {p0 dx:Int} {bY:Nat} {dP:ByteArray} {gR:Int} {gM:Nat} {iG:ByteArray} (h:ES R w0 (aV w0) p0 dx bY dP gR gM iG):Calls pg 169 #[(I p0),(.agg #[(I dx),(.float .f64 bY),(.string dP)]),(.agg #[(I gR),(.float .f64 gM),(.string iG)])] w0 R:=
 aM (pl:=QD) Tryz.func169 (by kernel_rfl) (by kernel_rfl) h
theorem wj {R:Ending→World→Prop} {w0:World} {p0:Value} {p1 p2 p3:Int} {p4:Value} (h:ot R w0 (aV w0) p0 p1 p2 p3 p4):Calls pg 172 #[p0,(I p1),(I p2),(I p3),p4] w0 R:=
 aM (pl:=wy) Tryz.func172 (by kernel_rfl) (by kernel_rfl) h
theorem QT {R:Ending→World→Prop} {w0:World} {p0:Int} (h:Fj R w0 (aV w0) p0):Calls pg 173 #[(I p0)] w0 R:=
 aM (pl:=QE) Tryz.func173 (by kernel_rfl) (by kernel_rfl) h
theorem S8 {R:Ending→World→Prop} {w0:World} {aX bo bu bO bZ cr cq cz dh cY bP bN da cP cN:Int} {cO:Bool} {cQ cT:Int} {cE cA cG cH cC cM:Value} {cD cI:Int} {cJ cK:Nat} {cL eI eJ eK eM eO:Int} {eP eQ:Value} (h:HJ R w0 (aV w0) aX bo bu bO bZ cr cq cz dh cY bP bN da cP cN cO cQ cT cE cA cG cH cC cM cD cI cJ cK cL eI eJ eK eM eO eP eQ):Calls pg 174 #[(.agg #[(I aX),(I bo),(I bu),(I bO),(I bZ),(I cr),(I cq),(I cz),(I dh),(I cY),(I bP),(I bN),(I da),(I cP),(I cN),(B cO),(I cQ),(I cT),cE,cA,cG,cH,cC,cM,(I cD),(I cI),(.float .f64 cJ),(.float .f64 cK),(I cL),(I eI),(I eJ),(I eK),(I eM),(I eO),eP,eQ])] w0 R:=
 aM (pl:=SZ) Tryz.func174 (by kernel_rfl) (by kernel_rfl) h
theorem S9 (h:HK R w0 (aV w0) p0):Calls pg 175 #[p0] w0 R:=cv ⟨24,[(4,(pg.cellsOf 99))],[],[0,2,6,7,8,9,10,19],[],[9]⟩ Tryz.func175 h
theorem NI {R:Ending→World→Prop} {w0:World} {aX bo:Int} {bu bO:Nat} {bZ cr cq cz dh cY:Int} {bP bN:Value} (h:CE R w0 (aV w0) aX bo bu bO bZ cr cq cz dh cY bP bN):Calls pg 176 #[(.agg #[(I aX),(I bo),(.float .f64 bu),(.float .f64 bO),(I bZ),(I cr),(I cq),(I cz),(I dh),(I cY),bP,bN])] w0 R:=
 aM (pl:=NF) Tryz.func176 (by kernel_rfl) (by kernel_rfl) h
theorem Ta {R:Ending→World→Prop} {w0:World} {aX bo bu dx bY dP gR gM iG:Int} {p3:Value} (h:HL R w0 (aV w0) aX bo bu dx bY dP gR gM iG p3):Calls pg 177 #[(.agg #[(I aX),(I bo),(I bu)]),(.agg #[(I dx),(I bY),(I dP)]),(.agg #[(I gR),(I gM),(I iG)]),p3] w0 R:=
 aM (pl:=S5) Tryz.func177 (by kernel_rfl) (by kernel_rfl) h
theorem CN {R:Ending→World→Prop} {w0:World} {p0:Value} {p1:Int} (h:uo R w0 (aV w0) p0 p1):Calls pg 178 #[p0,(I p1)] w0 R:=
 aM (pl:=CO) Tryz.func178 (by kernel_rfl) (by kernel_rfl) h
theorem FP {R:Ending→World→Prop} {w0:World} {p0:Value} {dx bY dP:Int} (h:xn R w0 (aV w0) p0 dx bY dP):Calls pg 179 #[p0,(.agg #[(I dx),(I bY),(I dP)])] w0 R:=
 aM (pl:=GI) Tryz.func179 (by kernel_rfl) (by kernel_rfl) h
theorem QU {R:Ending→World→Prop} {w0:World} {aX bo bu dx bY dP:Int} (h:Fk R w0 (aV w0) aX bo bu dx bY dP):Calls pg 180 #[(.agg #[(I aX),(I bo),(I bu)]),(.agg #[(I dx),(I bY),(I dP)])] w0 R:=
 aM (pl:=QF) Tryz.func180 (by kernel_rfl) (by kernel_rfl) h
theorem QV {R:Ending→World→Prop} {w0:World} {p0:Nat} (h:Fl R w0 (aV w0) p0):Calls pg 181 #[(.float .f64 p0)] w0 R:=
 aM (pl:=QG) Tryz.func181 (by kernel_rfl) (by kernel_rfl) h
theorem Wk (h:Ke R w0 (aV w0) p0):Calls pg 184 #[p0] w0 R:=cv ⟨54,[],[],[0,2,3,5,6,8,11,12,13,14,15,22,23,36,37,38,39],[],[3,14,22,38]⟩ Tryz.func184 h
theorem Wl {R:Ending→World→Prop} {w0:World} {p0:ByteArray} (h:Kf R w0 (aV w0) p0):Calls pg 185 #[(.string p0)] w0 R:=
 aM (pl:=V5) Tryz.func185 (by kernel_rfl) (by kernel_rfl) h
theorem Kv {R:Ending→World→Prop} {w0:World} {p0:Value} {p1:Int} {p2:Value} (h:Ae R w0 (aV w0) p0 p1 p2):Calls pg 186 #[p0,(I p1),p2] w0 R:=
 aM (pl:=Kg) Tryz.func186 (by kernel_rfl) (by kernel_rfl) h
theorem Es {R:Ending→World→Prop} {w0:World} {c0 c1:Value} (h:vA R w0 (aV w0) c0 c1):Calls pg 187 #[c0,c1] w0 R:=
 aM (pl:=En) Tryz.func187 (by kernel_rfl) (by kernel_rfl) h
theorem NJ {R:Ending→World→Prop} {w0:World} {p0:Value} {p1:ByteArray} (h:CF R w0 (aV w0) p0 p1):Calls pg 188 #[p0,(.string p1)] w0 R:=
 aM (pl:=NG) Tryz.func188 (by kernel_rfl) (by kernel_rfl) h
theorem Kw {R:Ending→World→Prop} {w0:World} {p0:Value} {p1:Int} (h:Af R w0 (aV w0) p0 p1):Calls pg 190 #[p0,(I p1)] w0 R:=
 aM (pl:=Kh) Tryz.func190 (by kernel_rfl) (by kernel_rfl) h
theorem GX (h:yk R w0 (aV w0) p0 p1):Calls pg 193 #[p0,p1] w0 R:=cv ⟨24,[],[],[0,1],[],[]⟩ Tryz.func193 h
theorem BC (h:sX R w0 (aV w0) p0 p1 p2):Calls pg 194 #[p0,p1,p2] w0 R:=cv ⟨63,[(8,(pg.cellsOf 320))],[],[0,1,2,6,7,17,38,39,40,46],[],[39]⟩ Tryz.func194 h
theorem Et (h:vB R w0 (aV w0) p0 p1):Calls pg 195 #[p0,p1] w0 R:=cv ⟨16,[],[],[0,1],[],[]⟩ Tryz.func195 h
theorem BD (h:sY R w0 (aV w0) p0 p1 p2):Calls pg 196 #[p0,p1,p2] w0 R:=cv ⟨63,[(8,(pg.cellsOf 266))],[],[0,1,2,6,7,17,38,39,40,46],[],[39]⟩ Tryz.func196 h
theorem GY (h:yl R w0 (aV w0) p0 p1 p2):Calls pg 197 #[p0,p1,p2] w0 R:=cv ⟨63,[],[],[0,1,2,6,7,8,17,38,39,40,46],[],[39]⟩ Tryz.func197 h
theorem Iq (h:yT R w0 (aV w0) p0 p1):Calls pg 198 #[p0,p1] w0 R:=cv ⟨26,[],[],[0,1,8],[],[]⟩ Tryz.func198 h
theorem Ir {R:Ending→World→Prop} {w0:World} {p0:Value} {p1:Bool} (h:yU R w0 (aV w0) p0 p1):Calls pg 201 #[p0,(B p1)] w0 R:=
 aM (pl:=Ih) Tryz.func201 (by kernel_rfl) (by kernel_rfl) h
theorem GZ {R:Ending→World→Prop} {w0:World} {p0:Value} {p1:Nat} (h:ym R w0 (aV w0) p0 p1):Calls pg 203 #[p0,(.float .f64 p1)] w0 R:=
 aM (pl:=GJ) Tryz.func203 (by kernel_rfl) (by kernel_rfl) h
theorem G6 (h:yn R w0 (aV w0) p0 p1):Calls pg 205 #[p0,p1] w0 R:=cv ⟨26,[],[],[0,1,8],[],[]⟩ Tryz.func205 h
theorem PB {R:Ending→World→Prop} {w0:World} {aX bo bu bO bZ cr cq cz dh cY:Int} {bP:Bool} {bN:Int} {da:Nat} {cP cN cO cQ:Value} {cT cE:Int} {cA cG:Nat} {cH cC cM cD cI cJ:Int} {cK cL:Value} (h:DQ R w0 (aV w0) aX bo bu bO bZ cr cq cz dh cY bP bN da cP cN cO cQ cT cE cA cG cH cC cM cD cI cJ cK cL):Calls pg 206 #[(.agg #[(I aX),(I bo),(I bu),(I bO),(I bZ),(I cr),(I cq),(I cz),(I dh),(I cY),(B bP),(I bN),(.float .f64 da),cP,cN,cO,cQ,(I cT),(I cE),(.float .f64 cA),(.float .f64 cG),(I cH),(I cC),(I cM),(I cD),(I cI),(I cJ),cK,cL])] w0 R:=
 aM (pl:=Ps) Tryz.func206 (by kernel_rfl) (by kernel_rfl) h
theorem Wm {R:Ending→World→Prop} {w0:World} {aX bo bu bO bZ cr cq cz dh cY:Int} {bP:Bool} {bN:Int} {da:Nat} {cP cN cO cQ:Value} {cT cE:Int} {cA cG:Nat} {cH cC cM cD cI cJ:Int} {cK cL:Value} (h:Ki R w0 (aV w0) aX bo bu bO bZ cr cq cz dh cY bP bN da cP cN cO cQ cT cE cA cG cH cC cM cD cI cJ cK cL):Calls pg 207 #[(.agg #[(I aX),(I bo),(I bu),(I bO),(I bZ),(I cr),(I cq),(I cz),(I dh),(I cY),(B bP),(I bN),(.float .f64 da),cP,cN,cO,cQ,(I cT),(I cE),(.float .f64 cA),(.float .f64 cG),(I cH),(I cC),(I cM),(I cD),(I cI),(I cJ),cK,cL])] w0 R:=
 aM (pl:=V6) Tryz.func207 (by kernel_rfl) (by kernel_rfl) h
theorem QW {R:Ending→World→Prop} {w0:World} {aX bo bu bO bZ cr cq cz dh cY:Int} {bP:Bool} {bN:Int} {da:Nat} {cP cN cO cQ:Value} {cT cE:Int} {cA cG:Nat} {cH cC cM cD cI cJ:Int} {cK cL:Value} (h:Fm R w0 (aV w0) aX bo bu bO bZ cr cq cz dh cY bP bN da cP cN cO cQ cT cE cA cG cH cC cM cD cI cJ cK cL):Calls pg 208 #[(.agg #[(I aX),(I bo),(I bu),(I bO),(I bZ),(I cr),(I cq),(I cz),(I dh),(I cY),(B bP),(I bN),(.float .f64 da),cP,cN,cO,cQ,(I cT),(I cE),(.float .f64 cA),(.float .f64 cG),(I cH),(I cC),(I cM),(I cD),(I cI),(I cJ),cK,cL])] w0 R:=
 aM (pl:=QH) Tryz.func208 (by kernel_rfl) (by kernel_rfl) h
theorem Wn {R:Ending→World→Prop} {w0:World} {p0:Value} {p1:Int} (h:Kj R w0 (aV w0) p0 p1):Calls pg 209 #[p0,(aA IntKind.u32 p1)] w0 R:=
 aM (pl:=V7) Tryz.func209 (by kernel_rfl) (by kernel_rfl) h
theorem LC (h:Bb R w0 (aV w0) p0):Calls pg 210 #[p0] w0 R:=cv ⟨39,[],[],[0,2,7,27],[],[]⟩ Tryz.func210 h
theorem G7 {R:Ending→World→Prop} {w0:World} {c0 c1:Value} (h:yp R w0 (aV w0) c0 c1):Calls pg 211 #[c0,c1] w0 R:=
 aM (pl:=GK) Tryz.func211 (by kernel_rfl) (by kernel_rfl) h
theorem uX {R:Ending→World→Prop} {w0:World} {p0:Value} {p1 p2 p3:Int} {p4:Value} (h:nI R w0 (aV w0) p0 p1 p2 p3 p4):Calls pg 215 #[p0,(I p1),(I p2),(I p3),p4] w0 R:=
 aM (pl:=vC) Tryz.func215 (by kernel_rfl) (by kernel_rfl) h
theorem Wo {R:Ending→World→Prop} {w0:World} {p0:Nat} (h:Kk R w0 (aV w0) p0):Calls pg 227 #[(.float .f64 p0)] w0 R:=
 aM (pl:=V8) Tryz.func227 (by kernel_rfl) (by kernel_rfl) h
theorem Oy {R:Ending→World→Prop} {w0:World} {p0:Nat} (h:Di R w0 (aV w0) p0):Calls pg 228 #[(.float .f64 p0)] w0 R:=
 aM (pl:=Pt) Tryz.func228 (by kernel_rfl) (by kernel_rfl) h
theorem P2 {R:Ending→World→Prop} {w0:World} {p0 p1:Nat} (h:EP R w0 (aV w0) p0 p1):Calls pg 229 #[(.float .f64 p0),(.float .f64 p1)] w0 R:=
 aM (pl:=QI) Tryz.func229 (by kernel_rfl) (by kernel_rfl) h
theorem UA {R:Ending→World→Prop} {w0:World} {p0 p1:Nat} (h:IQ R w0 (aV w0) p0 p1):Calls pg 234 #[(.float .f64 p0),(.float .f64 p1)] w0 R:=
 aM (pl:=V9) Tryz.func234 (by kernel_rfl) (by kernel_rfl) h
theorem Xn {R:Ending→World→Prop} {w0:World} {p0 p1:Nat} (h:LY R w0 (aV w0) p0 p1):Calls pg 235 #[(.float .f64 p0),(.float .f64 p1)] w0 R:=
 aM (pl:=XN) Tryz.func235 (by kernel_rfl) (by kernel_rfl) h
theorem sx {R:Ending→World→Prop} {w0:World} {p0:Value} {p1 p2:Int} {p3:Value} (h:lV R w0 (aV w0) p0 p1 p2 p3):Calls pg 236 #[p0,(I p1),(I p2),p3] w0 R:=
 aM (pl:=sH) Tryz.func236 (by kernel_rfl) (by kernel_rfl) h
theorem QX {R:Ending→World→Prop} {w0:World} {aX bo bu:Int} (h:Fo R w0 (aV w0) aX bo bu):Calls pg 244 #[(.agg #[(I aX),(I bo),(I bu)])] w0 R:=
 aM (pl:=QJ) Tryz.func244 (by kernel_rfl) (by kernel_rfl) h
theorem Wp (h:Kl R w0 (aV w0) p0):Calls pg 245 #[p0] w0 R:=cv ⟨32,[],[],[0,2,3,4,5,6,7,8,27],[15,16,17,18,19,20,21,22,23,24,25,26],[7]⟩ Tryz.func245 h
theorem Wq {R:Ending→World→Prop} {w0:World} {p0:Int} {p1:Bool} {p2:Value} (h:Km R w0 (aV w0) p0 p1 p2):Calls pg 246 #[(I p0),(B p1),p2] w0 R:=
 aM (pl:=Wa) Tryz.func246 (by kernel_rfl) (by kernel_rfl) h
theorem Ws (h:Kn R w0 (aV w0) p0):Calls pg 247 #[p0] w0 R:=cv ⟨42,[(5,(pg.cellsOf 215))],[13,17,22,28,33,34],[0,2,3,6,7,8,9,38],[21,23,24,25,27,29,30,31,32,35,36,37],[3,8]⟩ Tryz.func247 h
theorem PC (h:DR R w0 (aV w0) p0):Calls pg 248 #[p0] w0 R:=cv ⟨24,[(5,(pg.cellsOf 64))],[13,17],[0,2,3,6,7,8,9,20],[],[3,8]⟩ Tryz.func248 h
theorem Tb (h:HM R w0 (aV w0) p0):Calls pg 249 #[p0] w0 R:=cv ⟨35,[],[],[0,2,3,4,5,6,7,8,30],[14,15,16,18,19,20,21,22,23,24,25,26,27,28,29],[7]⟩ Tryz.func249 h
theorem XZ {R:Ending→World→Prop} {w0:World} {p0:Value} {p1:Int} (h:Mz R w0 (aV w0) p0 p1):Calls pg 250 #[p0,(I p1)] w0 R:=
 aM (pl:=XO) Tryz.func250 (by kernel_rfl) (by kernel_rfl) h
theorem Wu (h:Ko R w0 (aV w0) p0 p1):Calls pg 251 #[p0,p1] w0 R:=cv ⟨80,[(9,(pg.cellsOf 320)),(11,(pg.cellsOf 266)),(13,(pg.cellsOf 266))],[30,32,35,51,74],[0,1,4,5,6,7,12,14,16,17,18,19,25,38,39,40,41,56,60,62,66],[],[7,18,40]⟩ Tryz.func251 h
theorem Is {R:Ending→World→Prop} {w0:World} {p0:ByteArray} {c0:Value} (h:yV R w0 (aV w0) p0 c0):Calls pg 252 #[(.string p0),c0] w0 R:=
 aM (pl:=Ii) Tryz.func252 (by kernel_rfl) (by kernel_rfl) h
theorem Ky {R:Ending→World→Prop} {w0:World} {aX bo bu bO bZ cr:Int} {cq cz:Value} (h:Ag R w0 (aV w0) aX bo bu bO bZ cr cq cz):Calls pg 253 #[(.agg #[(I aX),(I bo),(I bu),(I bO),(I bZ),(I cr),cq,cz])] w0 R:=
 aM (pl:=Kq) Tryz.func253 (by kernel_rfl) (by kernel_rfl) h
theorem sB (h:lY R w0 (aV w0) p0 p1):Calls pg 254 #[p0,p1] w0 R:=cv ⟨19,[],[],[0,1,4,5,7,8,9,16],[],[8]⟩ Tryz.func254 h
theorem Aw {R:Ending→World→Prop} {w0:World} {aX bo bu bO bZ cr cq cz dh cY bP bN da cP cN:Int} {cO:Bool} {cQ cT:Int} {cE cA cG cH cC cM:Value} {cD cI:Int} {cJ cK:Nat} {cL eI eJ eK eM eO:Int} {eP eQ c0:Value} (h:r8 R w0 (aV w0) aX bo bu bO bZ cr cq cz dh cY bP bN da cP cN cO cQ cT cE cA cG cH cC cM cD cI cJ cK cL eI eJ eK eM eO eP eQ c0):Calls pg 255 #[(.agg #[(I aX),(I bo),(I bu),(I bO),(I bZ),(I cr),(I cq),(I cz),(I dh),(I cY),(I bP),(I bN),(I da),(I cP),(I cN),(B cO),(I cQ),(I cT),cE,cA,cG,cH,cC,cM,(I cD),(I cI),(.float .f64 cJ),(.float .f64 cK),(I cL),(I eI),(I eJ),(I eK),(I eM),(I eO),eP,eQ]),c0] w0 R:=
 aM (pl:=Ay) Tryz.func255 (by kernel_rfl) (by kernel_rfl) h
theorem QY (h:Fp R w0 (aV w0)):Calls pg 256 #[] w0 R:=cv ⟨24,[(0,(pg.cellsOf 385))],[],[1,2,3,4,5,9,10],[],[3,4,9]⟩ Tryz.func256 h
theorem BE (h:sZ R w0 (aV w0) p0 p1 p2):Calls pg 258 #[p0,p1,p2] w0 R:=cv ⟨63,[(8,(pg.cellsOf 322))],[],[0,1,2,6,7,17,38,39,40,46],[],[39]⟩ Tryz.func258 h
theorem Eu (h:vD R w0 (aV w0) p0 p1):Calls pg 259 #[p0,p1] w0 R:=cv ⟨14,[],[],[0,1],[],[]⟩ Tryz.func259 h
theorem It {R:Ending→World→Prop} {w0:World} {p0:Value} {p1:ByteArray} (h:yW R w0 (aV w0) p0 p1):Calls pg 260 #[p0,(.string p1)] w0 R:=
 aM (pl:=Ij) Tryz.func260 (by kernel_rfl) (by kernel_rfl) h
theorem Wv {R:Ending→World→Prop} {w0:World} {p0:Value} {dx:Int} {bY:Nat} {dP:ByteArray} (h:Kr R w0 (aV w0) p0 dx bY dP):Calls pg 265 #[p0,(.agg #[(I dx),(.float .f64 bY),(.string dP)])] w0 R:=
 aM (pl:=Wb) Tryz.func265 (by kernel_rfl) (by kernel_rfl) h
theorem LF {R:Ending→World→Prop} {w0:World} {aX bo:Int} {bu bO:Nat} {bZ cr cq cz dh cY:Int} {bP bN:Value} (h:Bc R w0 (aV w0) aX bo bu bO bZ cr cq cz dh cY bP bN):Calls pg 267 #[(.agg #[(I aX),(I bo),(.float .f64 bu),(.float .f64 bO),(I bZ),(I cr),(I cq),(I cz),(I dh),(I cY),bP,bN])] w0 R:=
 aM (pl:=Lu) Tryz.func267 (by kernel_rfl) (by kernel_rfl) h
theorem PD {R:Ending→World→Prop} {w0:World} {p0:Bool} {dx bY dP:Int} (h:DS R w0 (aV w0) p0 dx bY dP):Calls pg 268 #[(B p0),(.agg #[(I dx),(I bY),(I dP)])] w0 R:=
 aM (pl:=Pu) Tryz.func268 (by kernel_rfl) (by kernel_rfl) h
theorem QZ {R:Ending→World→Prop} {w0:World} {p0:Nat} (h:Fq R w0 (aV w0) p0):Calls pg 269 #[(.float .f64 p0)] w0 R:=
 aM (pl:=QK) Tryz.func269 (by kernel_rfl) (by kernel_rfl) h
theorem Q5 {R:Ending→World→Prop} {w0:World} {p0:Int} (h:Fs R w0 (aV w0) p0):Calls pg 270 #[(I p0)] w0 R:=
 aM (pl:=QL) Tryz.func270 (by kernel_rfl) (by kernel_rfl) h
theorem Q6 {R:Ending→World→Prop} {w0:World} {aX bo bu:Int} (h:Fu R w0 (aV w0) aX bo bu):Calls pg 271 #[(.agg #[(I aX),(I bo),(I bu)])] w0 R:=
 aM (pl:=QM) Tryz.func271 (by kernel_rfl) (by kernel_rfl) h
theorem Tc (h:HN R w0 (aV w0) p0):Calls pg 272 #[p0] w0 R:=cv ⟨44,[(4,(pg.cellsOf 247))],[12,26,32,38,39],[0,2,3,5,6,7,8,42],[16,17,18,19,20,21,22,23,24,25,27,28,29,31,33,34,35,37,40,41],[7]⟩ Tryz.func272 h
theorem rY {R:Ending→World→Prop} {w0:World} {p0:Value} {p1 p2:Int} {p3:Value} (h:lI R w0 (aV w0) p0 p1 p2 p3):Calls pg 275 #[p0,(I p1),(I p2),p3] w0 R:=
 aM (pl:=sa) Tryz.func275 (by kernel_rfl) (by kernel_rfl) h
theorem Xl {R:Ending→World→Prop} {w0:World} {p0:Nat} (h:LX R w0 (aV w0) p0):Calls pg 290 #[(.float .f64 p0)] w0 R:=
 aM (pl:=XP) Tryz.func290 (by kernel_rfl) (by kernel_rfl) h
theorem Td (h:HO R w0 (aV w0) p0):Calls pg 294 #[p0] w0 R:=cv ⟨18,[(4,(pg.cellsOf 38))],[],[0,2,5,6,7,8,13],[],[7]⟩ Tryz.func294 h
theorem Ya (h:MA R w0 (aV w0)):Calls pg 295 #[] w0 R:=cv ⟨5,[],[],[0],[],[]⟩ Tryz.func295 h
theorem PE {R:Ending→World→Prop} {w0:World} {aX:ByteArray} {bo:Value} {p1:ByteArray} (h:DT R w0 (aV w0) aX bo p1):Calls pg 296 #[(.agg #[(.string aX),bo]),(.string p1)] w0 R:=
 aM (pl:=Pv) Tryz.func296 (by kernel_rfl) (by kernel_rfl) h
theorem rr (h:ku R w0 (aV w0) p0):Calls pg 297 #[p0] w0 R:=cv ⟨8,[],[],[0,2,4],[],[]⟩ Tryz.func297 h
theorem G8 {R:Ending→World→Prop} {w0:World} {p0:Value} {dx bY dP iu iB jy:Int} {iO jc:Value} (h:yq R w0 (aV w0) p0 dx bY dP iu iB jy iO jc):Calls pg 298 #[p0,(.agg #[(I dx),(I bY),(I dP),(I iu),(I iB),(I jy),iO,jc])] w0 R:=
 aM (pl:=GN) Tryz.func298 (by kernel_rfl) (by kernel_rfl) h
theorem LG {R:Ending→World→Prop} {w0:World} {p0:Value} {dx bY dP iu iB jy:Int} {iO jc:Value} (h:Bd R w0 (aV w0) p0 dx bY dP iu iB jy iO jc):Calls pg 299 #[p0,(.agg #[(I dx),(I bY),(I dP),(I iu),(I iB),(I jy),iO,jc])] w0 R:=
 aM (pl:=Lv) Tryz.func299 (by kernel_rfl) (by kernel_rfl) h
theorem Te {R:Ending→World→Prop} {w0:World} {aX bo bu bO bZ cr:Int} {cq cz:Value} (h:HP R w0 (aV w0) aX bo bu bO bZ cr cq cz):Calls pg 300 #[(.agg #[(I aX),(I bo),(I bu),(I bO),(I bZ),(I cr),cq,cz])] w0 R:=
 aM (pl:=S6) Tryz.func300 (by kernel_rfl) (by kernel_rfl) h
theorem Ww (h:Ks R w0 (aV w0) p0):Calls pg 301 #[p0] w0 R:=cv ⟨32,[],[],[0,2,3,4,5,6,7,8,27],[15,16,17,18,19,20,21,22,23,24,25,26],[7]⟩ Tryz.func301 h
theorem LH (h:Be R w0 (aV w0) p0):Calls pg 302 #[p0] w0 R:=cv ⟨19,[(5,(pg.cellsOf 64))],[13],[0,2,3,6,7,8,9],[],[3,8]⟩ Tryz.func302 h
theorem Q7 {R:Ending→World→Prop} {w0:World} {aX bo bu bO bZ cr:Int} {cq cz:Value} {p1:ByteArray} (h:Fv R w0 (aV w0) aX bo bu bO bZ cr cq cz p1):Calls pg 318 #[(.agg #[(I aX),(I bo),(I bu),(I bO),(I bZ),(I cr),cq,cz]),(.string p1)] w0 R:=
 aM (pl:=QN) Tryz.func318 (by kernel_rfl) (by kernel_rfl) h
theorem Ha {R:Ending→World→Prop} {w0:World} {p0:Value} {p1:ByteArray} (h:yr R w0 (aV w0) p0 p1):Calls pg 319 #[p0,(.string p1)] w0 R:=
 aM (pl:=GO) Tryz.func319 (by kernel_rfl) (by kernel_rfl) h
theorem qc (h:jF R w0 (aV w0) p0 p1):Calls pg 325 #[p0,p1] w0 R:=cv ⟨9,[],[],[0,1,4],[],[]⟩ Tryz.func325 h
theorem LI {R:Ending→World→Prop} {w0:World} {aX:ByteArray} {bo:Int} {bu:Nat} {bO:ByteArray} {c0:Value} (h:Bf R w0 (aV w0) aX bo bu bO c0):Calls pg 326 #[(.agg #[(.string aX),(I bo),(.float .f64 bu),(.string bO)]),c0] w0 R:=
 aM (pl:=Lw) Tryz.func326 (by kernel_rfl) (by kernel_rfl) h
theorem Hb {R:Ending→World→Prop} {w0:World} {p0:Value} {p1:ByteArray} {gR gM iG:Int} {p3:Bool} (h:yt R w0 (aV w0) p0 p1 gR gM iG p3):Calls pg 327 #[p0,(.string p1),(.agg #[(I gR),(I gM),(I iG)]),(B p3)] w0 R:=
 aM (pl:=GP) Tryz.func327 (by kernel_rfl) (by kernel_rfl) h
theorem ru (h:ky R w0 (aV w0) p0 p1):Calls pg 329 #[p0,p1] w0 R:=cv ⟨19,[],[],[0,1,4,5,7,8,9,16],[],[8]⟩ Tryz.func329 h
theorem Jo {R:Ending→World→Prop} {w0:World} {p0:Value} {p1:Int} {p2:Value} (ka: ∀g,Av Tryz.f8=some g→Idle pg g) (hR: ∀ch w,¬R (.panicked ch) w) (h:tC R w0 (aV w0) p0 p1 p2):Calls pg 8 #[p0,(I p1),p2] w0 R:=
 JW (pl:=qa) Tryz.func8 (by kernel_rfl) ka hR (by kernel_rfl) h
theorem aba {R:Ending→World→Prop} {RP:List PanicEntry→World→Prop} {g0:FuncId} {cb:List Nat} {cv:List (Option Value)} {w0:World} {p0:Value} {p1:Int} {p2:Value} (ka: ∀g,Av Tryz.f8=some g→Idle pg g) (jx:aaJ pg qa Tryz.f8 #[p0,(I p1),p2]=some (g0,cb,cv)) (tt:Dp pg qa Tryz.f8 R g0 cb cv RP) (h:tC (xA R RP) w0 (aV w0) p0 p1 p2):Calls pg 8 #[p0,(I p1),p2] w0 R:=
 JS (pl:=qa) Tryz.func8 (by kernel_rfl) ka jx tt (by kernel_rfl) h
theorem Jx {R:Ending→World→Prop} {w0:World} {p0:Value} {p1 gR gM iG oW oX oY oZ o9 pa tP pA pB pC pD pE:Int} {pF:Bool} {pG pH:Int} {pI pJ pK pL pM pN:Value} {pO pP:Int} {pQ pR:Nat} {pS pT pU pV pW pX:Int} {pY pZ:Value} (ka: ∀g,Av Tryz.f16=some g→Idle pg g) (hR: ∀ch w,¬R (.panicked ch) w) (h:tF R w0 (aV w0) p0 p1 gR gM iG oW oX oY oZ o9 pa tP pA pB pC pD pE pF pG pH pI pJ pK pL pM pN pO pP pQ pR pS pT pU pV pW pX pY pZ):Calls pg 16 #[p0,(I p1),(.agg #[(I gR),(I gM),(I iG),(I oW),(I oX),(I oY),(I oZ),(I o9),(I pa),(I tP),(I pA),(I pB),(I pC),(I pD),(I pE),(B pF),(I pG),(I pH),pI,pJ,pK,pL,pM,pN,(I pO),(I pP),(.float .f64 pQ),(.float .f64 pR),(I pS),(I pT),(I pU),(I pV),(I pW),(I pX),pY,pZ])] w0 R:=
 JW (pl:=qb) Tryz.func16 (by kernel_rfl) ka hR (by kernel_rfl) h
theorem abb {R:Ending→World→Prop} {RP:List PanicEntry→World→Prop} {g0:FuncId} {cb:List Nat} {cv:List (Option Value)} {w0:World} {p0:Value} {p1 gR gM iG oW oX oY oZ o9 pa tP pA pB pC pD pE:Int} {pF:Bool} {pG pH:Int} {pI pJ pK pL pM pN:Value} {pO pP:Int} {pQ pR:Nat} {pS pT pU pV pW pX:Int} {pY pZ:Value} (ka: ∀g,Av Tryz.f16=some g→Idle pg g) (jx:aaJ pg qb Tryz.f16 #[p0,(I p1),(.agg #[(I gR),(I gM),(I iG),(I oW),(I oX),(I oY),(I oZ),(I o9),(I pa),(I tP),(I pA),(I pB),(I pC),(I pD),(I pE),(B pF),(I pG),(I pH),pI,pJ,pK,pL,pM,pN,(I pO),(I pP),(.float .f64 pQ),(.float .f64 pR),(I pS),(I pT),(I pU),(I pV),(I pW),(I pX),pY,pZ])]=some (g0,cb,cv)) (tt:Dp pg qb Tryz.f16 R g0 cb cv RP) (h:tF (xA R RP) w0 (aV w0) p0 p1 gR gM iG oW oX oY oZ o9 pa tP pA pB pC pD pE pF pG pH pI pJ pK pL pM pN pO pP pQ pR pS pT pU pV pW pX pY pZ):Calls pg 16 #[p0,(I p1),(.agg #[(I gR),(I gM),(I iG),(I oW),(I oX),(I oY),(I oZ),(I o9),(I pa),(I tP),(I pA),(I pB),(I pC),(I pD),(I pE),(B pF),(I pG),(I pH),pI,pJ,pK,pL,pM,pN,(I pO),(I pP),(.float .f64 pQ),(.float .f64 pR),(I pS),(I pT),(I pU),(I pV),(I pW),(I pX),pY,pZ])] w0 R:=
 JS (pl:=qb) Tryz.func16 (by kernel_rfl) ka jx tt (by kernel_rfl) h
theorem Qj {R:Ending→World→Prop} {RP:List PanicEntry→World→Prop} {g0:FuncId} {cb:List Nat} {w0:World} {p0:Value} {p1 p2:Int} {p3:Value} (jx:Vc Tryz.f6=some (g0,cb)) (ka:Idle pg g0) (tt:Dp pg HQ Tryz.f6 R g0 cb [] RP) (h:HD (noP R) (xA R RP) w0 (aV w0) p0 p1 p2 p3):Calls pg 6 #[p0,(aA IntKind.i64 p1),(aA IntKind.i64 p2),p3] w0 R:=
 JX (pl:=HQ) Tryz.func6 (by kernel_rfl) jx ka tt (by kernel_rfl) h
theorem UL {R:Ending→World→Prop} {RP:List PanicEntry→World→Prop} {g0:FuncId} {cb:List Nat} {w0:World} {p0 p1:Value} (jx:Vc Tryz.f13=some (g0,cb)) (ka:Idle pg g0) (tt:Dp pg Ec Tryz.f13 R g0 cb [] RP) (h:L7 (noP R) (xA R RP) w0 (aV w0) p0 p1):Calls pg 13 #[p0,p1] w0 R:=
 JX (pl:=Ec) Tryz.func13 (by kernel_rfl) jx ka tt (by kernel_rfl) h
end
end Go.Proofs.YtbpnemeooenpmaaGreat
namespace Go.Proofs.YtbpnemeooenpmaaGreat
open Go.Proofs.Tryz renaming prog → pg
open Go.aR
set_option maxRecDepth 100000
set_option maxHeartbeats 1000000
set_option linter.unusedVariables false
set_option linter.unusedSimpArgs false
abbrev BA:=ByteArray
@[ext] structure cx where
 wall:Int
 ep:Int
 node:Int
 deriving DecidableEq
abbrev cx.l (s:cx):List Value:=[I s.wall,I s.ep,I s.node]
abbrev cx.v (s:cx):Value:=.agg #[I s.wall,I s.ep,I s.node]
abbrev cx.zero:cx:=⟨0,0,0⟩
@[ext] structure de where
 gN:Int
 ga:Int
 sq:Int
 deriving DecidableEq
abbrev de.l (s:de):List Value:=[I s.gN,I s.ga,I s.sq]
abbrev de.v (s:de):Value:=.agg #[I s.gN,I s.ga,I s.sq]
abbrev de.zero:de:=⟨0,0,0⟩
@[ext] structure fR where
 kind:Int
 num:Nat
 text:BA
 deriving DecidableEq
abbrev fR.l (x:fR):List Value:=[I x.kind,.float .f64 x.num,.string x.text]
abbrev fR.v (x:fR):Value:=.agg #[I x.kind,.float .f64 x.num,.string x.text]
abbrev fR.zero:fR:=⟨0,0,⟨#[]⟩⟩
@[ext] structure KV where
 key:BA
 val:fR
 deriving DecidableEq
abbrev KV.l (x:KV):List Value:=[.string x.key,I x.val.kind,.float .f64 x.val.num,.string x.val.text]
abbrev KV.v (x:KV):Value:=.agg #[.string x.key,I x.val.kind,.float .f64 x.val.num,.string x.val.text]
abbrev S1 (x:BA):List Value:=[.string x]
abbrev I1 (x:Int):List Value:=[I x]
@[ext] structure kf where
 bF:cx
 val:fR
 deriving DecidableEq
abbrev kf.l (x:kf):List Value:=[I x.bF.wall,I x.bF.ep,I x.bF.node,I x.val.kind,.float .f64 x.val.num,.string x.val.text]
@[ext] structure jq where
 key:BA
 l8:List kf
 deriving DecidableEq
abbrev jq.l (h:jq) (vv:Value):List Value:=[.string h.key,vv]
def jq.rd (w:World) (X:XS) (l:List Value) (h:jq):Prop:= ∃vv,l=h.l vv∧Sl w X 6 vv (h.l8.map kf.l)
@[ext] structure ey where
 dK:de
 bF:cx
 reads:List BA
 writes:List KV
 deriving DecidableEq
abbrev ey.l (p:ey) (vr vw:Value):List Value:=[I p.dK.gN,I p.dK.ga,I p.dK.sq,I p.bF.wall,I p.bF.ep,I p.bF.node,vr,vw]
abbrev ey.v (p:ey) (vr vw:Value):Value:=.agg #[I p.dK.gN,I p.dK.ga,I p.dK.sq,I p.bF.wall,I p.bF.ep,I p.bF.node,vr,vw]
def ey.rd (w:World) (X:XS) (l:List Value) (p:ey):Prop:= ∃vr vw,l=p.l vr vw∧Sl w X 1 vr (p.reads.map S1)∧Sl w X 4 vw (p.writes.map KV.l)
@[ext] structure dq where
 id:Int
 gx:Int
 lo:Nat
 hi:Nat
 deriving DecidableEq
abbrev dq.l (r:dq):List Value:=[I r.id,I r.gx,.float .f64 r.lo,.float .f64 r.hi]
abbrev dq.v (r:dq):Value:=.agg #[I r.id,I r.gx,.float .f64 r.lo,.float .f64 r.hi]
@[ext] structure State where
 range:dq
 floor:cx
 closed:cx
 fU:List jq
 fB:List ey
 deriving DecidableEq
abbrev State.l (s:State) (vh vp:Value):List Value:=[I s.range.id,I s.range.gx,.float .f64 s.range.lo,.float .f64 s.range.hi,
 I s.floor.wall,I s.floor.ep,I s.floor.node,I s.closed.wall,I s.closed.ep,I s.closed.node,vh,vp]
abbrev State.v (s:State) (vh vp:Value):Value:=.agg #[I s.range.id,I s.range.gx,.float .f64 s.range.lo,.float .f64 s.range.hi,
 I s.floor.wall,I s.floor.ep,I s.floor.node,I s.closed.wall,I s.closed.ep,I s.closed.node,vh,vp]
abbrev ni (w:World) (X:XS) (v:Value) (l:List jq):Prop:=en w X 2 v jq.rd l
abbrev nh (w:World) (X:XS) (v:Value) (l:List ey):Prop:=en w X 8 v ey.rd l
def State.rd (w:World) (X:XS) (l:List Value) (s:State):Prop:= ∃vh vp,l=s.l vh vp∧ni w X vh s.fU∧nh w X vp s.fB
@[ext] structure Rec where
 kind:Int
 dK:de
 bF:cx
 prev:cx
 kP:Bool
 n:Int
 vG:Nat
 reads:List BA
 writes:List KV
 parts:List Int
 xp:List KV
 state:State
 deriving DecidableEq
abbrev Rec.l (r:Rec) (vr vw vp vq vh vd:Value):List Value:=[I r.kind,I r.dK.gN,I r.dK.ga,I r.dK.sq,I r.bF.wall,I r.bF.ep,I r.bF.node,
 I r.prev.wall,I r.prev.ep,I r.prev.node,B r.kP,I r.n,.float .f64 r.vG,vr,vw,vp,vq,I r.state.range.id,I r.state.range.gx,.float .f64 r.state.range.lo,.float .f64 r.state.range.hi,
 I r.state.floor.wall,I r.state.floor.ep,I r.state.floor.node,I r.state.closed.wall,I r.state.closed.ep,I r.state.closed.node,vh,vd]
abbrev Rec.v (r:Rec) (vr vw vp vq vh vd:Value):Value:=.agg #[I r.kind,I r.dK.gN,I r.dK.ga,I r.dK.sq,I r.bF.wall,I r.bF.ep,I r.bF.node,
 I r.prev.wall,I r.prev.ep,I r.prev.node,B r.kP,I r.n,.float .f64 r.vG,vr,vw,vp,vq,I r.state.range.id,I r.state.range.gx,.float .f64 r.state.range.lo,.float .f64 r.state.range.hi,
 I r.state.floor.wall,I r.state.floor.ep,I r.state.floor.node,I r.state.closed.wall,I r.state.closed.ep,I r.state.closed.node,vh,vd]
def Rec.at (w:World) (X:XS) (r:Rec) (vr vw vp vq vh vd:Value):Prop:=
 Sl w X 1 vr (r.reads.map S1)∧Sl w X 4 vw (r.writes.map KV.l)∧Sl w X 1 vp (r.parts.map I1)∧Sl w X 4 vq (r.xp.map KV.l)∧ni w X vh r.state.fU∧nh w X vd r.state.fB
def Rec.rd (w:World) (X:XS) (l:List Value) (r:Rec):Prop:= ∃vr vw vp vq vh vd,l=r.l vr vw vp vq vh vd∧r.at w X vr vw vp vq vh vd
theorem jq.mv:Dd jq.rd:=fun ⟨vv,h,h1⟩ m=>⟨vv,h,h1.mv m⟩
theorem ey.mv:Dd ey.rd:=fun ⟨vr,vw,h,h1,h2⟩ m=>⟨vr,vw,h,h1.mv m,h2.mv m⟩
theorem ni.mv {w w':World} {X Y:XS} {v:Value} {l:List jq} (h:ni w X v l) (m:Mv X w Y w'):ni w' Y v l:=en.mv h jq.mv m
theorem nh.mv {w w':World} {X Y:XS} {v:Value} {l:List ey} (h:nh w X v l) (m:Mv X w Y w'):nh w' Y v l:=en.mv h ey.mv m
theorem State.mv:Dd State.rd:=fun ⟨vh,vp,h,h1,h2⟩ m=>⟨vh,vp,h,en.mv h1 jq.mv m,en.mv h2 ey.mv m⟩
theorem Rec.at.mv {w w':World} {X Y:XS} {r:Rec} {vr vw vp vq vh vd:Value} (h:r.at w X vr vw vp vq vh vd) (m:Mv X w Y w'):r.at w' Y vr vw vp vq vh vd:=
 ⟨h.1.mv m,h.2.1.mv m,h.2.2.1.mv m,h.2.2.2.1.mv m,en.mv h.2.2.2.2.1 jq.mv m,en.mv h.2.2.2.2.2 ey.mv m⟩
theorem Rec.mv:Dd Rec.rd:=fun ⟨vr,vw,vp,vq,vh,vd,h,h1⟩ m=>⟨vr,vw,vp,vq,vh,vd,h,h1.mv m⟩
section
variable {P : Program} {X X0 : XS} {w w0 : World} {N : Value → Prop}
theorem TJ {t:TypeId} {v:Value} {xs:List ey} {i:Nat} {z:Int} {x:ey} (h:nh w0 X0 v xs) (hr:xs[i]? =some x)
  (hz:z=i) (ht:P.underlying t=some (.slice (P.elem t))) (hs:(P.info? (P.elem t)).map (·.size)=some 8)
  (n: ∀b o vr vw,aR.one vr=true→aR.one vw=true→Cells w0 X0 b o (x.l vr vw)→Sl w0 X0 1 vr (x.reads.map S1)→Sl w0 X0 4 vw (x.writes.map KV.l)→N (ptr b o)):ae P X w (dr t 8 v (.int .i64 z)) N:=
 Bt h hr hz ht hs fun b o _ hc ⟨vr,vw,hl,h1,h2⟩=>n b o vr vw h1.one h2.one (hl▸hc) h1 h2
theorem PF {t:TypeId} {v:Value} {xs:List jq} {i:Nat} {z:Int} {x:jq} (h:ni w0 X0 v xs) (hr:xs[i]? =some x)
  (hz:z=i) (ht:P.underlying t=some (.slice (P.elem t))) (hs:(P.info? (P.elem t)).map (·.size)=some 2)
  (n: ∀b o vv,aR.one vv=true→Cells w0 X0 b o (x.l vv)→Sl w0 X0 6 vv (x.l8.map kf.l)→N (ptr b o)):ae P X w (dr t 2 v (.int .i64 z)) N:=
 Bt h hr hz ht hs fun b o _ hc ⟨vv,hl,h1⟩=>n b o vv h1.one (hl▸hc) h1
theorem YP {t:TypeId} {v:Value} {xs:List Rec} {i:Nat} {z:Int} {x:Rec} (h:en w0 X0 29 v Rec.rd xs) (hr:xs[i]? =some x)
  (hz:z=i) (ht:P.underlying t=some (.slice (P.elem t))) (hs:(P.info? (P.elem t)).map (·.size)=some 29)
  (n: ∀b o vr vw vp vq vh vd,aR.one vr=true→aR.one vw=true→aR.one vp=true→aR.one vq=true→aR.one vh=true→aR.one vd=true→
   Cells w0 X0 b o (x.l vr vw vp vq vh vd)→x.at w0 X0 vr vw vp vq vh vd→N (ptr b o)):ae P X w (dr t 29 v (.int .i64 z)) N:=
 Bt h hr hz ht hs fun b o _ hc ⟨vr,vw,vp,vq,vh,vd,hl,h1⟩=>n b o vr vw vp vq vh vd h1.1.one h1.2.1.one h1.2.2.1.one h1.2.2.2.1.one h1.2.2.2.2.1.one h1.2.2.2.2.2.one (hl▸hc) h1
theorem akh {t:TypeId} {xo yo:Operand} (a b:cx) (h:il P t 3=true) (hT:a=b→N (.bool true)) (hF: ¬a=b→N (.bool false)):
  ae P X w (aE .eql t xo yo a.v b.v) N:=Vr h (fun h1 h2 h3=>hT (cx.ext h1 h2 h3)) fun hn=>hF fun e=>hn (by subst e;exact⟨rfl,rfl,rfl⟩)
theorem aki {t:TypeId} {xo yo:Operand} (a b:cx) (h:il P t 3=true) (hT: ¬a=b→N (.bool true)) (hF:a=b→N (.bool false)):
  ae P X w (aE .neq t xo yo a.v b.v) N:=aiE h (fun hn=>hT fun e=>hn (by subst e;exact⟨rfl,rfl,rfl⟩)) fun h1 h2 h3=>hF (cx.ext h1 h2 h3)
theorem CH {t:TypeId} {xo yo:Operand} (a:cx) (h:il P t 3=true) (hT:a= .zero→N (.bool true)) (hF: ¬a= .zero→N (.bool false)):
  ae P X w (aE .eql t xo yo a.v (.agg #[I 0,I 0,I 0])) N:=akh a .zero h hT hF
theorem acC {t:TypeId} {xo yo:Operand} (a:cx) (h:il P t 3=true) (hT: ¬a= .zero→N (.bool true)) (hF:a= .zero→N (.bool false)):
  ae P X w (aE .neq t xo yo a.v (.agg #[I 0,I 0,I 0])) N:=aki a .zero h hT hF
theorem akj {t:TypeId} {xo yo:Operand} (a b:de) (h:il P t 3=true) (hT:a=b→N (.bool true)) (hF: ¬a=b→N (.bool false)):
  ae P X w (aE .eql t xo yo a.v b.v) N:=Vr h (fun h1 h2 h3=>hT (de.ext h1 h2 h3)) fun hn=>hF fun e=>hn (by subst e;exact⟨rfl,rfl,rfl⟩)
theorem acD {t:TypeId} {xo yo:Operand} (a:de) (h:il P t 3=true) (hT:a= .zero→N (.bool true)) (hF: ¬a= .zero→N (.bool false)):
  ae P X w (aE .eql t xo yo a.v (.agg #[I 0,I 0,I 0])) N:=akj a .zero h hT hF
end
def lim:Nat:=2^20
def ey.small (p:ey):Prop:=p.reads.length≤lim∧p.writes.length≤lim
end Go.Proofs.YtbpnemeooenpmaaGreat
namespace Go.Proofs.YtbpnemeooenpmaaGreat
open Go.Proofs.Tryz renaming prog → pg
open Go.aR
set_option maxRecDepth 100000
set_option maxHeartbeats 1000000
set_option linter.unusedVariables false
set_option linter.unusedSimpArgs false
attribute [local irreducible] un jn aB aS ld1 dY st1 dr cB kN dw lR uK sP fC e6 ae aC aJ eW eV eU eC eF gE ay fin aQ aF aE vS xh gG gS qK uL sQ xi xj xk gz gP qL uM sR xl xm
def cx.cmp (a b:cx):Int:=
 let p:=if a.wall≠b.wall then(a.wall,b.wall)else if a.ep≠b.ep then(a.ep,b.ep)else(a.node,b.node)
 if p.1<p.2 then-1 else if p.1>p.2 then 1 else 0
def de.less (a b:de):Bool:=
 if a.gN≠b.gN then a.gN<b.gN else if a.ga≠b.ga then a.ga<b.ga else a.sq<b.sq
def de.may (a:de):Bool:=a.gN≥1&&a.gN≤2&&a.ga≥1&&a.sq≥1
def cx.may (a:cx):Bool:=a.wall≥0&&a.wall≤281474976710656&&a.ep≥0&&a.ep≤65535&&a.node≥0&&a.node≤63
def cx.later (a b:cx):cx:=if a.cmp b<0 then b else a
def cx.PG (a:cx):Bool:=a.may&&!decide (a= .zero)
theorem sc (a b:cx):Pure pg 180 #[a.v,b.v] (I (a.cmp b)):=by
 intro w0;apply QU;unfold Fk;have hs:=ak.init w0;repeat' first|refine aL ?_;intros|refine dM ?_ ?_<;>intros|with_reducible apply dy|(with_reducible refine eD hs ?_);simp_all [cx.cmp]<;>omega
theorem Az (a:de):Pure pg 244 #[a.v] (B a.may):=by
 intro w0;apply QX;unfold Fo;have hs:=ak.init w0;repeat' first|refine aL ?_;intros|refine dM ?_ ?_<;>intros|(with_reducible refine eD hs ?_);simp_all [de.may]<;>omega
theorem my (a:cx):Pure pg 85 #[a.v] (B a.may):=by
 intro w0;apply aaR;unfold Po;have hs:=ak.init w0;repeat' first|refine aL ?_;intros|refine dM ?_ ?_<;>intros|(with_reducible refine eD hs ?_);simp_all [cx.may]<;>omega
theorem LR (a b:cx):Pure pg 119 #[a.v,b.v] (a.later b).v:=by
 intro w0;apply Wh;unfold Kb;have hs:=ak.init w0;repeat' first|refine aL ?_;intros|refine dM ?_ ?_<;>intros|((with_reducible refine ee (sc _ _) ?_ hs.has ?_);(· kernel_rfl);intro w X au;replace hs:=hs.trans au)|(with_reducible refine eD hs ?_);simp_all [cx.later]<;>grind
theorem Tf (n:Int):Pure pg 270 #[I n] (B (decide (n≥1)&&decide (n≤12))):=by
 intro w0;apply Q5;unfold Fs;have hs:=ak.init w0;repeat' first|refine aL ?_;intros|refine dM ?_ ?_<;>intros|(with_reducible refine eD hs ?_);simp_all<;>omega
theorem HR (a:cx):Pure pg 271 #[a.v] (B a.PG):=by
 intro w0;apply Q6;unfold Fu;have hs:=ak.init w0;repeat' first|refine aL ?_;intros|(with_reducible refine acC _ ?_ ?_ ?_);(· kernel_rfl);all_goals intros|((with_reducible refine dJ (my _) ?_ hs.has ?_ ?_);(· kernel_rfl);all_goals (intro _ w X au;replace hs:=hs.trans au))|(with_reducible refine eD hs ?_);simp_all [cx.PG]
def cx.Q8 (c:Bool) (a:cx):Bool:=if c then a.PG else decide (a= .zero)
theorem Q9 (c:Bool) (a:cx):Pure pg 268 #[B c,a.v] (B (a.Q8 c)):=by
 intro w0;apply PD;unfold DS;have hs:=ak.init w0;repeat' first|refine aL ?_;intros|refine dM ?_ ?_<;>intros|(with_reducible refine CH _ ?_ ?_ ?_);(· kernel_rfl);all_goals intros|((with_reducible refine dJ (HR _) ?_ hs.has ?_ ?_);(· kernel_rfl);all_goals (intro _ w X au;replace hs:=hs.trans au))|(with_reducible refine eD hs ?_);simp_all [cx.Q8]
theorem ze (x:Nat) (wa:World):(callFunc 97 #[.float .f64 x]).run pg wa= .ok (.value (.int .u64 x)) wa:=by kernel_rfl
abbrev Bw:Value→World→World→Prop:=fun v _ _=> ∃n:Int,v=I n
theorem iz (a b c:Int) (w:World) (X:XS):Ct pg 59 #[I a,I b,I c] w X nX Bw:=by
 intro w0 hk;apply QO;unfold Fc;have hs:=ak.init w0;repeat' first|refine aL ?_;intros|refine dM ?_ ?_<;>intros|((first|(with_reducible refine aw hs ?_)|(with_reducible refine aw (bR.trans hs) ?_));intro wa hk;exact⟨_,rfl⟩)|with_reducible apply lC
theorem rN {w:World} {X:XS} {a:Value} {xs:List BA} {most:Int} (ha:Sl w X 1 a (xs.map S1)):
  Ct pg 60 #[a,I most] w X nX Bw:=by
 intro w0 hk;replace ha:=ha.mv hk.dD;have jV:=ha.gy;apply Fw;unfold wV;have hs:=ak.init w0;refine fM (fun n a b w X=> ∃(i:Nat) (s:Int),a=I i∧b=I s∧n=(xs).length-i∧i≤(xs).length∧ak (aV w0) w0 X w) (xs).length ⟨0,_,rfl,rfl,rfl,aG _,hs⟩ ?_;rintro n a b w X ⟨i,s,rfl,rfl,rfl,hi,hs⟩;repeat' first|refine aL ?_;intros|refine dM ?_ ?_<;>intros|((first|(with_reducible refine aw hs ?_)|(with_reducible refine aw (bR.trans hs) ?_));intro wa hk;exact⟨_,rfl⟩)|(refine ja (iz  _ _ _ _ _) kQ hs.has ?_;intro n1 w X au;replace hs:=hs.trans au)|((with_reducible refine fI ((xs).length-(i+1)) ?_ ?_);omega;exact⟨i+1,_,by simp,rfl,rfl,by omega,hs⟩)|with_reducible apply lC
theorem rj {w:World} {X:XS} {a:Value} {xs:List KV} {most:Int} (ha:Sl w X 4 a (xs.map KV.l)):
  Ct pg 62 #[a,I most] w X nX Bw:=by
 intro w0 hk;replace ha:=ha.mv hk.dD;have jV:=ha.gy;apply Eo;unfold vx;have hs:=ak.init w0;refine fM (fun n a b w X=> ∃(i:Nat) (s:Int),a=I i∧b=I s∧n=(xs).length-i∧i≤(xs).length∧ak (aV w0) w0 X w) (xs).length ⟨0,_,rfl,rfl,rfl,aG _,hs⟩ ?_;rintro n a b w X ⟨i,s,rfl,rfl,rfl,hi,hs⟩;repeat' first|refine aL ?_;intros|refine dM ?_ ?_<;>intros|((first|(with_reducible refine aw hs ?_)|(with_reducible refine aw (bR.trans hs) ?_));intro wa hk;exact⟨_,rfl⟩)|(refine ja (iz  _ _ _ _ _) kQ hs.has ?_;intro n1 w X au;replace hs:=hs.trans au)|((with_reducible refine fI ((xs).length-(i+1)) ?_ ?_);omega;exact⟨i+1,_,by simp,rfl,rfl,by omega,hs⟩)|with_reducible apply lC
theorem CQ {w:World} {X:XS} {a:Value} {xs:List ey} {most:Int} (ha:nh w X a xs):
  Ct pg 124 #[a,I most] w X nX Bw:=by
 intro w0 hk;replace ha:=ha.mv hk.dD;have jV:=ha.len;apply CG;unfold tQ;have hs:=ak.init w0;refine fM (fun n a b w X=> ∃(i:Nat) (s:Int),a=I i∧b=I s∧n=(xs).length-i∧i≤(xs).length∧ak (aV w0) w0 X w) (xs).length ⟨0,_,rfl,rfl,rfl,aG _,hs⟩ ?_;rintro n a b w X ⟨i,s,rfl,rfl,rfl,hi,hs⟩;repeat' first|refine aL ?_;intros|refine dM ?_ ?_<;>intros|((with_reducible apply TJ);assumption;(try (case hz=>rfl));(case hr=>exact qR);(try (case hz=>omega));(case ht=>kernel_rfl);(case hs=>kernel_rfl);intros)|((first|(with_reducible refine aw hs ?_)|(with_reducible refine aw (bR.trans hs) ?_));intro wa hk;exact⟨_,rfl⟩)|(refine ja (iz  _ _ _ _ _) kQ hs.has ?_;intro n1 w X au;replace hs:=hs.trans au)|(refine ja (rN  qA) kQ hs.has ?_;intro n1 w X au;replace hs:=hs.trans au)|(refine ja (rj  qA) kQ hs.has ?_;intro n1 w X au;replace hs:=hs.trans au)|((with_reducible refine fI ((xs).length-(i+1)) ?_ ?_);omega;exact⟨i+1,_,by simp,rfl,rfl,by omega,hs⟩)|with_reducible apply lC
theorem CI {w:World} {X:XS} {a:Value} {xs:List jq} {most:Int} (ha:ni w X a xs):
  Ct pg 123 #[a,I most] w X nX Bw:=by
 intro w0 hk;replace ha:=ha.mv hk.dD;have jV:=ha.len;apply BB;unfold sW;have hs:=ak.init w0;refine B2 (fun n a _ b w X=> ∃(i:Nat) (s:Int),a=I i∧b=I s∧n=xs.length-i∧i≤xs.length∧ak (aV w0) w0 X w) xs.length ⟨0,_,rfl,rfl,rfl,aG _,hs⟩ ?_;rintro n a a2 b w X ⟨i,s,rfl,rfl,rfl,hi,hs⟩;repeat' first|refine aL ?_;intros|refine dM ?_ ?_<;>intros|((with_reducible apply PF);assumption;(try (case hz=>rfl));(case hr=>exact qR);(try (case hz=>omega));(case ht=>kernel_rfl);(case hs=>kernel_rfl);intros)|((first|(with_reducible refine aw hs ?_)|(with_reducible refine aw (bR.trans hs) ?_));intro wa hk;exact⟨_,rfl⟩)|(refine ja (iz  _ _ _ _ _) kQ hs.has ?_;intro n1 w X au;replace hs:=hs.trans au)|with_reducible apply lC
 have dz:i<xs.length:=by omega
 obtain⟨x,hx,hd⟩:=Y7 dz;refine fM (fun n a b w X=> ∃(k:Nat) (s:Int),a=I k∧b=I s∧n=x.l8.length-k∧k≤x.l8.length∧ak (aV w0) w0 X w) x.l8.length ⟨0,_,rfl,rfl,rfl,aG _,hs⟩ ?_;rintro n a b w X ⟨k,s,rfl,rfl,rfl,hk,hs⟩;repeat' first|refine aL ?_;intros|refine dM ?_ ?_<;>intros|((with_reducible apply PF);assumption;(try (case hz=>rfl));(case hr=>exact qR);(try (case hz=>omega));(case ht=>kernel_rfl);(case hs=>kernel_rfl);intros)|(refine ja (iz  _ _ _ _ _) kQ hs.has ?_;intro n1 w X au;replace hs:=hs.trans au)|((with_reducible refine B3 ((xs).length-(i+1)) ?_ ?_);omega;exact⟨i+1,_,by simp,rfl,rfl,by omega,hs⟩)|((with_reducible refine fI (x.l8.length-(k+1)) ?_ ?_);omega;exact⟨k+1,_,by simp,rfl,rfl,by omega,hs⟩)|(have hl9:=Sl.gy ‹Sl w0 (aV w0) 6 _ (List.map kf.l x.l8)›;(with_reducible apply Tz);omega;omega)|with_reducible apply lC
theorem xQ {w:World} {X:XS} {s:State} {vh vp:Value} {most:Int} (ha:ni w X vh s.fU) (hb:nh w X vp s.fB):
  Ct pg 64 #[s.v vh vp,I most] w X nX Bw:=by
 intro w0 hk;replace ha:=ha.mv hk.dD;replace hb:=hb.mv hk.dD;apply Fx;unfold wW;have hs:=ak.init w0;repeat' first|((first|(with_reducible refine aw hs ?_)|(with_reducible refine aw (bR.trans hs) ?_));intro wa hk;exact⟨_,rfl⟩)|(refine ja (iz  _ _ _ _ _) kQ hs.has ?_;intro n1 w X au;replace hs:=hs.trans au)|(refine ja (CI  qA) kQ hs.has ?_;intro n1 w X au;replace hs:=hs.trans au)|(refine ja (CQ  qA) kQ hs.has ?_;intro n1 w X au;replace hs:=hs.trans au)
theorem JB {w:World} {X:XS} {r:Rec} {vr vw vp vq vh vd:Value} {most:Int} (ha:r.at w X vr vw vp vq vh vd):
  Ct pg 63 #[r.v vr vw vp vq vh vd,I most] w X nX Bw:=by
 intro w0 hk;obtain⟨h1,h2,h3,h4,h5,h6⟩:=ha.mv hk.dD;have jV:=h4.gy;apply Ik;unfold yO;have hs:=ak.init w0;repeat' first|refine aL ?_;intros|(refine ja (iz  _ _ _ _ _) kQ hs.has ?_;intro n1 w X au;replace hs:=hs.trans au)|(refine ja (rN  qA) kQ hs.has ?_;intro n1 w X au;replace hs:=hs.trans au)|(refine ja (rj  qA) kQ hs.has ?_;intro n1 w X au;replace hs:=hs.trans au)|with_reducible apply lC
 refine fM (fun n a b w X=> ∃(i:Nat) (s:Int),a=I i∧b=I s∧n=(r.xp).length-i∧i≤(r.xp).length∧ak (aV w0) w0 X w) (r.xp).length ⟨0,_,rfl,rfl,rfl,aG _,hs⟩ ?_;rintro n a b w X ⟨i,s,rfl,rfl,rfl,hi,hs⟩;repeat' first|refine aL ?_;intros|refine dM ?_ ?_<;>intros|((first|(with_reducible refine aw hs ?_)|(with_reducible refine aw (bR.trans hs) ?_));intro wa hk;exact⟨_,rfl⟩)|(refine ja (iz  _ _ _ _ _) kQ hs.has ?_;intro n1 w X au;replace hs:=hs.trans au)|(refine ja (xQ  (s:=r.state) qA qA) kQ hs.has ?_;intro n1 w X au;replace hs:=hs.trans au)|((with_reducible refine fI ((r.xp).length-(i+1)) ?_ ?_);omega;exact⟨i+1,_,by simp,rfl,rfl,by omega,hs⟩)|with_reducible apply lC
def gn (s:BA):Bool:=decide ((s.size:Int)≥1)&&decide ((s.size:Int)≤24)
theorem jf (s:BA):Pure pg 95 #[.string s] (B (gn s)):=by
 intro w0;apply Wd;unfold J7;have hs:=ak.init w0;repeat' first|refine aL ?_;intros|refine dM ?_ ?_<;>intros|(with_reducible refine eD hs ?_);simp_all [gn]<;>omega
theorem xw (r:dq) (x:Nat):Pure pg 42 #[r.v,.float .f64 x] (B ((BZ x r.lo||jK x r.lo)&&kg x r.hi)):=by
 intro w0;apply XT;unfold Ms;have hs:=ak.init w0;repeat' first|refine aL ?_;intros|refine dM ?_ ?_<;>intros|(with_reducible refine eD hs ?_);(simp_all<;>grind)
def canon (x:Nat):Nat:=if jK x x then x else 9221120237041090560
theorem nG (x:Nat):Pure pg 227 #[.float .f64 x] (.float .f64 (canon x)):=by
 intro w0;apply Wo;unfold Kk;have hs:=ak.init w0;repeat' first|refine aL ?_;intros|refine dM ?_ ?_<;>intros|(with_reducible refine eD hs ?_);simp_all [canon]|((with_reducible refine Ca (v:=.float .f64 9221120237041090560) ?_ hs.has ?_);(· intro wa;kernel_rfl);intro w X au;replace hs:=hs.trans au)
theorem Bp (x:Nat):Pure pg 164 #[.float .f64 x] (.int .u64 (canon x)):=by
 intro w0;apply XY;unfold My;have hs:=ak.init w0;repeat' first|((with_reducible refine ee (nG _) ?_ hs.has ?_);(· kernel_rfl);intro w X au;replace hs:=hs.trans au)|(with_reducible refine eD hs ?_);rfl|((with_reducible refine Ca (ze _) hs.has ?_);intro w X au;replace hs:=hs.trans au)
def land (a b:Int):Int:=IntKind.u64.wrap (bS IntKind.u64.bits a&&& bS IntKind.u64.bits b).toNat
def Gc (a b:Int):Int:=IntKind.u64.wrap (bS IntKind.u64.bits a^^^bS IntKind.u64.bits b).toNat
def Hc (a n:Int):Int:=a.fdiv (2^min n.toNat IntKind.u64.bits)
def Wx (a b:Int):Int:=IntKind.u64.wrap (a*b)
theorem abN {P:Program} {X:XS} {w:World} {N:Value→Prop} {t:TypeId} {a b:Int} (h:N (.int .u64 (land a b))):ae P X w (binOp .and t (.int .u64 a) (.int .u64 b)) N:=YX h
theorem PH {P:Program} {X:XS} {w:World} {N:Value→Prop} {t:TypeId} {a b:Int} (h:N (.int .u64 (Gc a b))):ae P X w (binOp .xor t (.int .u64 a) (.int .u64 b)) N:=Qs h
theorem Kz {P:Program} {X:XS} {w:World} {N:Value→Prop} {t:TypeId} {a b:Int} (hb: ¬b<0) (h:N (.int .u64 (Hc a b))):ae P X w (binOp .shr t (.int .u64 a) (.int .u64 b)) N:=Fb hb h
theorem Wy {P:Program} {X:XS} {w:World} {N:Value→Prop} {t:TypeId} {a b:Int} (h:N (.int .u64 (Wx a b))):ae P X w (binOp .mul t (.int .u64 a) (.int .u64 b)) N:=agq h
def cls (x:Nat):Int:=
 let b:Int:=canon x
 let e:=land (Hc b 52) 2047
 let f:=land b 4503599627370495
 if e=2047∧f≠0 then 0 else
  let k:=if e=2047 then 8 else if e>0 then 7 else if f>0 then 6 else 5
  if land b 9223372036854775808≠0 then 9-k else k
theorem Eb (x:Nat):Pure pg 166 #[.float .f64 x] (I (cls x)):=by
 intro w0;apply Wj;unfold Kd;have hs:=ak.init w0;repeat' first|refine aL ?_;intros|refine dM ?_ ?_<;>intros|with_reducible apply dy|((with_reducible refine ee (Bp _) ?_ hs.has ?_);(· kernel_rfl);intro w X au;replace hs:=hs.trans au)|(with_reducible refine eD hs ?_);(simp only [cls] at*;grind)|with_reducible apply abN|(with_reducible apply Kz);omega
def Db:Nat:=4607182418800017408
def Fy (x:Nat):Bool:=decide (cls x≥5)&&(kg x Db||jK x Db)
theorem HS (x:Nat):Pure pg 181 #[.float .f64 x] (B (Fy x)):=by
 intro w0;apply QV;unfold Fl;have hs:=ak.init w0;repeat' first|refine aL ?_;intros|refine dM ?_ ?_<;>intros|((with_reducible refine ee (Eb _) ?_ hs.has ?_);(· kernel_rfl);intro w X au;replace hs:=hs.trans au)|(with_reducible refine eD hs ?_);(simp_all [Fy,Db]<;>grind)
def BN (x:Nat):Nat×Int:=if cls x=4 then(0,0)else if Fy x then(x,0)else(0,1)
theorem Tg (x:Nat):Pure pg 269 #[.float .f64 x] (.tuple #[.float .f64 (BN x).1,I (BN x).2]):=by
 intro w0;apply QZ;unfold Fq;have hs:=ak.init w0;repeat' first|refine aL ?_;intros|refine dM ?_ ?_<;>intros|((with_reducible refine ee (Eb _) ?_ hs.has ?_);(· kernel_rfl);intro w X au;replace hs:=hs.trans au)|((with_reducible refine dJ (HS _) ?_ hs.has ?_ ?_);(· kernel_rfl);all_goals (intro _ w X au;replace hs:=hs.trans au))|(with_reducible refine eD hs ?_);(simp_all [BN]<;>grind)
def dq.may (r:dq):Bool:=decide (r.id≥1)&&decide (r.id≤12)&&decide (r.gx≥0)&&Fy r.lo&&Fy r.hi&&kg r.lo r.hi
theorem sd (r:dq):Pure pg 125 #[r.v] (B r.may):=by
 intro w0;apply Wi;unfold Kc;have hs:=ak.init w0;repeat' first|refine aL ?_;intros|refine dM ?_ ?_<;>intros|with_reducible apply dy|((with_reducible refine dJ (HS _) ?_ hs.has ?_ ?_);(· kernel_rfl);all_goals (intro _ w X au;replace hs:=hs.trans au))|(with_reducible refine eD hs ?_);(simp_all [dq.may]<;>omega)
def fR.may (v:fR):Bool:=
 if v.kind=0 then decide (v.num=0)&&decide (v.text=⟨#[]⟩)
 else if v.kind=1 then decide (v.text=⟨#[]⟩)&&decide (v.num=canon v.num)
 else if v.kind=2 then decide (v.num=0)&&decide ((v.text.size:Int)≤64)
 else false
theorem kH (v:fR):Pure pg 96 #[v.v] (B v.may):=by
 intro w0;apply We;unfold J8;have hs:=ak.init w0;repeat' first|refine aL ?_;intros|refine dM ?_ ?_<;>intros|with_reducible apply dy|((with_reducible refine ee (Bp _) ?_ hs.has ?_);(· kernel_rfl);intro w X au;replace hs:=hs.trans au)|(with_reducible refine eD hs ?_);(simp_all [fR.may]<;>omega)|((with_reducible refine Ca (ze _) hs.has ?_);intro w X au;replace hs:=hs.trans au)
def aaS (h:Int) (b:UInt8):Int:=Wx (Gc h (IntKind.u64.wrap b.toNat)) 1099511628211
def aiQ (h:Int):Nat→Int
 |0=>h
 |1=>Wx (Gc h (Hc h 33)) 18397679294719823053
 |_=>let g:=Wx (Gc h (Hc h 33)) 18397679294719823053;Wx (Gc g (Hc g 33)) 14181476777654086739
def KA (s:BA):Int:=let h:=aiQ (s.data.toList.foldl aaS 14695981039346656037) 2;Gc h (Hc h 33)
theorem Wz (s:BA) (al4:s.size≤2^62):Pure pg 43 #[.string s] (.int .u64 (KA s)):=by
 intro w0;have fK:=Sn s;apply S7;unfold HI;have hs:=ak.init w0;repeat' first|refine aL ?_;intros
 refine fM (fun n a b w X=> ∃(i:Nat) (h:Int),a=I i∧b= .int .u64 h∧n=s.data.toList.length-i∧i≤s.data.toList.length∧ak (aV w0) w0 X w∧
  s.data.toList.foldl aaS 14695981039346656037=(s.data.toList.drop i).foldl aaS h) s.data.toList.length ?_ ?_
 ·exact⟨0,14695981039346656037,rfl,rfl,rfl,aG _,hs,by rw [List.drop_zero]⟩
 rintro n a b w X ⟨i,h,rfl,rfl,rfl,hi,hs,hw⟩;rcases ew s.data.toList i with⟨dz,x,hx,hd⟩|⟨dV,hd⟩
 ·repeat' first|refine bD ?_;intros|with_reducible (first|apply PH|apply Wy)|((with_reducible refine fI ((s.data.toList).length-(i+1)) ?_ ?_);omega;exact⟨i+1,_,by simp,rfl,rfl,by omega,hs,by rw [hw,hd,List.foldl_cons];rfl⟩)
 ·repeat' first|refine bD ?_;intros
  rw [hd] at hw;refine fM (fun n a b w X=> ∃(i:Nat),a=I i∧b= .int .u64 (aiQ h i)∧n=2-i∧i≤2∧ak (aV w0) w0 X w) 2 ⟨0,rfl,rfl,rfl,aG _,hs⟩ ?_;rintro n a b w X ⟨i,rfl,rfl,rfl,hi,hs⟩;obtain rfl|rfl|rfl:i=0∨i=1∨i=2:=by omega
  ·repeat' first|refine bD ?_;intros|(with_reducible apply PH)|(with_reducible apply Wy)|(with_reducible apply Kz);omega|(with_reducible refine fI 1 ?_ ?_);omega;exact⟨1,rfl,rfl,rfl,by omega,hs⟩
  ·repeat' first|refine bD ?_;intros|(with_reducible apply PH)|(with_reducible apply Wy)|(with_reducible apply Kz);omega|(with_reducible refine fI 0 ?_ ?_);omega;exact⟨2,rfl,rfl,rfl,by omega,hs⟩
  ·repeat' first|refine bD ?_;intros|(with_reducible refine eD hs ?_);(simp only [KA,hw];rfl)|(with_reducible apply PH)|(with_reducible apply Kz);omega
theorem aaT (n:Int): ∃r,floatBits .quo .f64 (floatOfInt .f64 n) 4845873199050653696=some r:=by
 have hn:(Ieee.double.read (floatOfInt .f64 n)).isNaN=false:=VG _ _ _ _;have hd:Ieee.double.read 4845873199050653696= .number false 4503599627370496 1:=by kernel_rfl
 show∃r,((Ieee.double.read (floatOfInt .f64 n)).quotient _ (Ieee.double.read 4845873199050653696)).map _=some r
 rw [hd];cases hr:Ieee.double.read (floatOfInt .f64 n)with
 |number s m p=>simp [ux]
 |infinity s=>simp [ux]
 |nan s f=>rw [hr] at hn;simp [Ieee.Datum.isNaN] at hn
def placeOf (s:BA):Nat:=(floatBits .quo .f64 (floatOfInt .f64 (Hc (KA s) 11)) 4845873199050653696).getD 0
theorem aaU (s:BA):floatBits .quo .f64 (floatOfInt .f64 (Hc (KA s) 11)) 4845873199050653696=some (placeOf s):=by
 obtain⟨r,hr⟩:=aaT (Hc (KA s) 11);rw [placeOf,hr];rfl
theorem Bo (s:BA) (al4:s.size≤2^62):Pure pg 12 #[.string s] (.float .f64 (placeOf s)):=by
 intro w0;apply XR;unfold Mr;have hs:=ak.init w0;repeat' first|refine aL ?_;intros|((with_reducible refine ee (Wz _ (by first|assumption|omega)) ?_ hs.has ?_);(· kernel_rfl);intro w X au;replace hs:=hs.trans au)|(with_reducible refine eD hs ?_);rfl|(with_reducible apply Kz);omega|(with_reducible apply aj7);(· exact aaU s)
def rising (l:List BA):Bool:=chain gn uQ none l
def ue (l:List BA):Bool:=rising l&&decide ((l.length:Int)≤16)
theorem Yb {w:World} {X:XS} {a:Value} {xs:List BA} (ha:Sl w X 1 a (xs.map S1)):
  Ct pg 301 #[a] w X nX fun v _ _=>v=B (ue xs):=by
 intro w0 hk;replace ha:=ha.mv hk.dD;have jV:=ha.gy;apply Ww;unfold Ks;have hs:=ak.init w0;repeat' first|refine aL ?_;intros
 refine fQ (fun n a w X=> ∃i:Nat,a=I (i:Nat)∧n=(xs).length-i∧i≤(xs).length∧ak (aV w0) w0 X w∧chain gn uQ none xs=chain gn uQ (px xs i) (xs.drop i)) (xs).length ⟨0,rfl,rfl,aG _,hs,by simp [px]⟩ ?_;rintro n a w X ⟨i,rfl,rfl,hi,hs,hw⟩;rcases ew (xs) i with⟨dz,x,hx,hd⟩|⟨dV,hd⟩
 ·rcases K0 dz with⟨h0,hp⟩|⟨h0,y,hy,hp⟩<;>rw [hp,hd,chain] at hw<;>clear hd
  ·repeat' first|refine bD ?_;intros|((with_reducible refine dJ (jf _) ?_ hs.has ?_ ?_);(· kernel_rfl);all_goals (intro _ w X au;replace hs:=hs.trans au))|((first|(with_reducible refine aw hs ?_)|(with_reducible refine aw (bR.trans hs) ?_));intro wa hk;simp_all [ue,rising,chain])|((with_reducible refine fh ((xs).length-(i+1)) ?_ ?_);omega;exact⟨i+1,by simp,rfl,by omega,hs,by rw [hw,nJ hx];simp [*]⟩)
  ·repeat' first|refine bD ?_;intros|refine dM ?_ ?_<;>intros|((with_reducible refine dJ (jf _) ?_ hs.has ?_ ?_);(· kernel_rfl);all_goals (intro _ w X au;replace hs:=hs.trans au))|((first|(with_reducible refine aw hs ?_)|(with_reducible refine aw (bR.trans hs) ?_));intro wa hk;simp_all [ue,rising,chain])|((with_reducible refine fh ((xs).length-(i+1)) ?_ ?_);omega;exact⟨i+1,by simp,rfl,by omega,hs,by rw [hw,nJ hx];simp [*]⟩)
 ·repeat' first|refine bD ?_;intros|refine dM ?_ ?_<;>intros|((first|(with_reducible refine aw hs ?_)|(with_reducible refine aw (bR.trans hs) ?_));intro wa hk;simp_all [ue,rising,chain]<;>omega)
def KB (l:List KV):Bool:=ue (l.map (·.key))&&l.all (·.val.may)
theorem NK {w:World} {X:XS} {a:Value} {xs:List KV} (ha:Sl w X 4 a (xs.map KV.l)) (hb:xs.length≤2^40):
  Ct pg 302 #[a] w X nX fun v wa w'=>Own w' (made wa w') wa.heap.size 9 1 v ((xs.map (·.key)).map S1):=by
 intro w0 hk;replace ha:=ha.mv hk.dD;have jV:=ha.gy;apply LH;unfold Be;have hs:=ak.init w0;repeat' first|refine aL ?_;intros
 refine fM (fun n a b w X=> ∃i:Nat,a=I i∧n=xs.length-i∧i≤xs.length∧ak (aV w0) w0 X w∧Own w X w0.heap.size 9 1 b (((xs.take i).map (·.key)).map S1)) xs.length ⟨0,rfl,rfl,aG _,hs,Own.nil _ _ _ _ _⟩ ?_;rintro n a b w X ⟨i,rfl,rfl,hi,hs,ho⟩;rcases ew (xs) i with⟨dz,x,hx,hd⟩|⟨dV,hd⟩
 ·repeat' first|refine bD ?_;intros|((with_reducible apply Qt);(case own=>first|assumption|exact Own.since (by assumption) (by assumption));(case hs=>assumption);(case h0=>first|exact fun _ h=>h|exact bR.has);(case he=>kernel_rfl);(case hk=>rfl);(case ho=>first|rfl|assumption);(case hb=>(simp only [aI,bU,av,ba,bL];omega));(case hl=>(simp only [aI,bU,av,ba,bL];omega));intro acc w X au ho hc ef;replace hs:=au)|((with_reducible refine fI ((xs).length-(i+1)) ?_ ?_);omega;exact⟨i+1,by simp,rfl,by omega,hs,by rw [List.take_add_one,hx];simpa using ho⟩)
 ·repeat' first|refine bD ?_;intros|((first|(with_reducible refine aw hs ?_)|(with_reducible refine aw (bR.trans hs) ?_));intro wa hk;(rw [List.take_of_length_le dV] at ho;exact(ho.kp hk).tight))
def ey.err (p:ey):Int:=
 if !p.dK.may then 4 else if !p.bF.may||decide (p.bF= .zero)then 17
 else if !ue p.reads||!ue (p.writes.map (·.key))then 4
 else if p.writes.all (·.val.may)then 0 else 4
theorem uI {w:World} {X:XS} {p:ey} {vr vw:Value} (h1:Sl w X 1 vr (p.reads.map S1)) (h2:Sl w X 4 vw (p.writes.map KV.l)) (hb:p.writes.length≤2^40):
  Ct pg 253 #[p.v vr vw] w X nX fun v _ _=>v=I p.err:=by
 intro w0 hk;replace h1:=h1.mv hk.dD;replace h2:=h2.mv hk.dD;have jV:=h2.gy;apply Ky;unfold Ag;have hs:=ak.init w0;repeat' first|refine aL ?_;intros|(with_reducible refine CH _ ?_ ?_ ?_);(· kernel_rfl);all_goals intros|with_reducible apply dy|((with_reducible refine dJ (my _) ?_ hs.has ?_ ?_);(· kernel_rfl);all_goals (intro _ w X au;replace hs:=hs.trans au))|((with_reducible refine dJ (Az _) ?_ hs.has ?_ ?_);(· kernel_rfl);all_goals (intro _ w X au;replace hs:=hs.trans au))|((first|(with_reducible refine aw hs ?_)|(with_reducible refine aw (bR.trans hs) ?_));intro wa hk;simp_all [ey.err])|(refine fS (Yb  qA) kQ hs.has ?_ ?_<;>(intro _ w X au;replace hs:=hs.trans au))|(refine dp (NK  qA qA) kQ hs.has ?_;rintro v1 wa w X uh hle fO au;have fp:=Nat.le_trans hs.kp.size hle;replace hs:=hs.trans au;replace uh:=uh.up fO fp)
 refine fQ (fun n a w X=> ∃i:Nat,a=I (i:Nat)∧n=(p.writes).length-i∧i≤(p.writes).length∧ak (aV w0) w0 X w∧p.writes.all (·.val.may)=(p.writes.drop i).all (·.val.may)) (p.writes).length ⟨0,rfl,rfl,aG _,hs,by simp⟩ ?_;rintro n a w X ⟨i,rfl,rfl,hi,hs,hw⟩;rcases ew (p.writes) i with⟨dz,x,hx,hd⟩|⟨dV,hd⟩
 ·repeat' first|refine bD ?_;intros|((with_reducible refine dJ (kH _) ?_ hs.has ?_ ?_);(· kernel_rfl);all_goals (intro _ w X au;replace hs:=hs.trans au))|((first|(with_reducible refine aw hs ?_)|(with_reducible refine aw (bR.trans hs) ?_));intro wa hk;simp_all [ey.err])|((with_reducible refine fh ((p.writes).length-(i+1)) ?_ ?_);omega;exact⟨i+1,by simp,rfl,by omega,hs,by rw [hw,hd];simp [*]⟩)
 ·repeat' first|refine bD ?_;intros|((first|(with_reducible refine aw hs ?_)|(with_reducible refine aw (bR.trans hs) ?_));intro wa hk;simp_all [ey.err])
def zm (l:List Int):Bool:=chain (fun n=>decide (n≥1)&&decide (n≤12)) (fun a b=>decide (a<b)) none l&&decide (l≠[])
theorem KC {w:World} {X:XS} {a:Value} {xs:List Int} (ha:Sl w X 1 a (xs.map I1)):
  Ct pg 249 #[a] w X nX fun v _ _=>v=B (zm xs):=by
 intro w0 hk;replace ha:=ha.mv hk.dD;have jV:=ha.gy;apply Tb;unfold HM;have hs:=ak.init w0;repeat' first|refine aL ?_;intros
 refine fQ (fun n a w X=> ∃i:Nat,a=I (i:Nat)∧n=(xs).length-i∧i≤(xs).length∧ak (aV w0) w0 X w∧chain (fun n=>decide (n≥1)&&decide (n≤12)) (fun a b=>decide (a<b)) none xs=chain (fun n=>decide (n≥1)&&decide (n≤12)) (fun a b=>decide (a<b)) (px xs i) (xs.drop i)) (xs).length ⟨0,rfl,rfl,aG _,hs,by simp [px]⟩ ?_;rintro n a w X ⟨i,rfl,rfl,hi,hs,hw⟩;rcases ew (xs) i with⟨dz,x,hx,hd⟩|⟨dV,hd⟩
 ·rcases K0 dz with⟨h0,hp⟩|⟨h0,y,hy,hp⟩<;>rw [hp,hd,chain] at hw<;>clear hd
  ·repeat' first|refine bD ?_;intros|refine dM ?_ ?_<;>intros|((first|(with_reducible refine aw hs ?_)|(with_reducible refine aw (bR.trans hs) ?_));intro wa hk;(simp_all [zm,chain]<;>omega))|((with_reducible refine fh ((xs).length-(i+1)) ?_ ?_);omega;exact⟨i+1,by simp,rfl,by omega,hs,by rw [hw,nJ hx];simp_all<;>omega⟩)
  ·repeat' first|refine bD ?_;intros|refine dM ?_ ?_<;>intros|((first|(with_reducible refine aw hs ?_)|(with_reducible refine aw (bR.trans hs) ?_));intro wa hk;(simp_all [zm,chain]<;>omega))|((with_reducible refine fh ((xs).length-(i+1)) ?_ ?_);omega;exact⟨i+1,by simp,rfl,by omega,hs,by rw [hw,nJ hx];simp_all<;>omega⟩)
 ·repeat' first|refine bD ?_;intros|refine dM ?_ ?_<;>intros|((first|(with_reducible refine aw hs ?_)|(with_reducible refine aw (bR.trans hs) ?_));intro wa hk;(simp_all [zm,chain]<;>grind))
def Lb (l:List KV):Bool:=chain (fun x=>gn x.key&&x.val.may&&decide (x.val.kind≠0)) (fun a b=>uQ a.key b.key) none l
theorem WB {w:World} {X:XS} {a:Value} {xs:List KV} (ha:Sl w X 4 a (xs.map KV.l)):
  Ct pg 272 #[a] w X nX fun v _ _=>v=B (Lb xs):=by
 intro w0 hk;replace ha:=ha.mv hk.dD;have jV:=ha.gy;apply Tc;unfold HN;have hs:=ak.init w0;repeat' first|refine aL ?_;intros
 refine fQ (fun n a w X=> ∃i:Nat,a=I (i:Nat)∧n=(xs).length-i∧i≤(xs).length∧ak (aV w0) w0 X w∧Lb xs=chain (fun x=>gn x.key&&x.val.may&&decide (x.val.kind≠0)) (fun a b=>uQ a.key b.key) (px xs i) (xs.drop i)) (xs).length ⟨0,rfl,rfl,aG _,hs,by simp [px,Lb]⟩ ?_;rintro n a w X ⟨i,rfl,rfl,hi,hs,hw⟩;rcases ew (xs) i with⟨dz,x,hx,hd⟩|⟨dV,hd⟩
 ·rcases K0 dz with⟨h0,hp⟩|⟨h0,y,hy,hp⟩<;>rw [hp,hd,chain] at hw<;>clear hd
  ·repeat' first|refine bD ?_;intros|refine dM ?_ ?_<;>intros|with_reducible apply dy|((with_reducible refine dJ (jf _) ?_ hs.has ?_ ?_);(· kernel_rfl);all_goals (intro _ w X au;replace hs:=hs.trans au))|((with_reducible refine dJ (kH _) ?_ hs.has ?_ ?_);(· kernel_rfl);all_goals (intro _ w X au;replace hs:=hs.trans au))|((first|(with_reducible refine aw hs ?_)|(with_reducible refine aw (bR.trans hs) ?_));intro wa hk;(simp_all [chain]<;>omega))|((with_reducible refine fh ((xs).length-(i+1)) ?_ ?_);omega;exact⟨i+1,by simp,rfl,by omega,hs,by rw [hw,nJ hx];simp_all<;>omega⟩)
  ·repeat' first|refine bD ?_;intros|refine dM ?_ ?_<;>intros|with_reducible apply dy|((with_reducible refine dJ (jf _) ?_ hs.has ?_ ?_);(· kernel_rfl);all_goals (intro _ w X au;replace hs:=hs.trans au))|((with_reducible refine dJ (kH _) ?_ hs.has ?_ ?_);(· kernel_rfl);all_goals (intro _ w X au;replace hs:=hs.trans au))|((first|(with_reducible refine aw hs ?_)|(with_reducible refine aw (bR.trans hs) ?_));intro wa hk;(simp_all [chain]<;>omega))|((with_reducible refine fh ((xs).length-(i+1)) ?_ ?_);omega;exact⟨i+1,by simp,rfl,by omega,hs,by rw [hw,nJ hx];simp_all<;>omega⟩)
 ·repeat' first|refine bD ?_;intros|((first|(with_reducible refine aw hs ?_)|(with_reducible refine aw (bR.trans hs) ?_));intro wa hk;(simp_all [chain]<;>grind))
abbrev dq.zero:dq:=⟨0,0,0,0⟩
abbrev State.zero:State:=⟨.zero,.zero,.zero,[],[]⟩
def State.isZero (s:State):Bool:=decide (s.range= .zero)&&decide (s.floor= .zero)&&decide (s.closed= .zero)&&decide (s.fU=[])&&decide (s.fB=[])
theorem NL {w:World} {X:XS} {s:State} {vh vp:Value} (h1:ni w X vh s.fU) (h2:nh w X vp s.fB):
  Ct pg 267 #[s.v vh vp] w X nX fun v _ _=>v=B s.isZero:=by
 intro w0 hk;replace h1:=h1.mv hk.dD;replace h2:=h2.mv hk.dD;apply LF;unfold Bc;have hs:=ak.init w0;repeat' first|refine aL ?_;intros|refine dM ?_ ?_<;>intros|(with_reducible refine CH _ ?_ ?_ ?_);(· kernel_rfl);all_goals intros|with_reducible apply dy|((first|(with_reducible refine aw hs ?_)|(with_reducible refine aw (bR.trans hs) ?_));intro wa hk;(simp_all [State.isZero,dq.ext_iff]))|((with_reducible refine Ca (ze _) hs.has ?_);intro w X au;replace hs:=hs.trans au)
def Rec.isZero (r:Rec):Bool:=decide (r.dK= .zero)&&decide (r.bF= .zero)&&decide (r.prev= .zero)&&!r.kP&&decide (r.n=0)&&decide (r.vG=0)&&
 decide (r.reads=[])&&decide (r.writes=[])&&decide (r.parts=[])&&decide (r.xp=[])&&r.state.isZero
theorem Yc {w:World} {X:XS} {r:Rec} {vr vw vp vq vh vd:Value} (h:r.at w X vr vw vp vq vh vd):
  Ct pg 207 #[r.v vr vw vp vq vh vd] w X nX fun v _ _=>v=B r.isZero:=by
 intro w0 hk;obtain⟨h1,h2,h3,h4,h5,h6⟩:=h.mv hk.dD;apply Wm;unfold Ki;have hs:=ak.init w0;cases hc:r.kP<;>
 repeat' first|refine aL ?_;intros|refine dM ?_ ?_<;>intros|(with_reducible refine CH _ ?_ ?_ ?_);(· kernel_rfl);all_goals intros|(with_reducible refine acD _ ?_ ?_ ?_);(· kernel_rfl);all_goals intros|with_reducible apply dy|((first|(with_reducible refine aw hs ?_)|(with_reducible refine aw (bR.trans hs) ?_));intro wa hk;(simp_all [Rec.isZero]))|((with_reducible refine Ca (ze _) hs.has ?_);intro w X au;replace hs:=hs.trans au)|(refine fS (NL  (s:=r.state) qA qA) kQ hs.has ?_ ?_<;>(intro _ w X au;replace hs:=hs.trans au))
def Rec.strip (r:Rec):Rec×Bool:=
 if r.kind=1 then({ r with state:=.zero },true)
 else if r.kind=2∨r.kind=7∨r.kind=8 then({ r with n:=0 },true)
 else if r.kind=3 then({ r with dK:=.zero,bF:=.zero,reads:=[],writes:=[],parts:=[] },true)
 else if r.kind=4 then({ r with dK:=.zero,kP:=false,bF:=.zero },true)
 else if r.kind=5 then({ r with bF:=.zero },true)
 else if r.kind=6 then({ r with vG:=0,n:=0,bF:=.zero },true)
 else if r.kind=9 then({ r with dK:=.zero,bF:=.zero,parts:=[] },true)
 else if r.kind=10 then({ r with dK:=.zero },true)
 else if r.kind=11 then({ r with prev:=.zero,bF:=.zero,dK:=.zero,writes:=[] },true)
 else if r.kind=12 then({ r with bF:=.zero,xp:=[] },true)
 else(r,false)
theorem Ra {w:World} {X:XS} {r:Rec} {vr vw vp vq vh vd:Value} (h:r.at w X vr vw vp vq vh vd):
  Ct pg 206 #[r.v vr vw vp vq vh vd] w X nX fun v _ _=> ∃WC fy Hw vq' WD WE,v= .tuple #[r.strip.1.v WC fy Hw vq' WD WE,B r.strip.2]∧
   r.strip.1.at w X WC fy Hw vq' WD WE:=by
 intro w0 hk;obtain⟨h1,h2,h3,h4,h5,h6⟩:=h;have o1:=h1.one;have o2:=h2.one;have o3:=h3.one;have o4:=h4.one;have o5:=h5.one;have o6:=h6.one;apply PB;unfold DQ;have hs:=ak.init w0;have n1:Sl w X 1 (.slice none 0 0) (([]:List BA).map S1):=Sl.nil _ _ _;have n2:Sl w X 4 (.slice none 0 0) (([]:List KV).map KV.l):=Sl.nil _ _ _;have n3:Sl w X 1 (.slice none 0 0) (([]:List Int).map I1):=Sl.nil _ _ _;have n4:ni w X (.slice none 0 0) []:=en.nil _ _ _;have n5:nh w X (.slice none 0 0) []:=en.nil _ _ _;repeat' first|refine aL ?_;intros|refine dM ?_ ?_<;>intros|with_reducible apply dy
 all_goals
  refine aw hs ?_;intro wa bk;unfold Rec.strip;repeat (first|rw [if_pos zQ]|rw [if_neg zQ])
  exact⟨_,_,_,_,_,_,rfl,by assumption,by assumption,by assumption,by assumption,by assumption,by assumption⟩
theorem Hx {w:World} {X:XS} {a:Value} {xs:List BA} (ha:Sl w X 1 a (xs.map S1)) (hb:xs.length≤2^40):
  Ct pg 156 #[a] w X nX fun v wa w'=>Own w' (made wa w') wa.heap.size 9 1 v (xs.map S1):=by
  intro w0 hk;replace ha:=ha.mv hk.dD;apply wz;unfold oA;have hs:=ak.init w0;repeat' first|refine aL ?_;intros|refine dM ?_ ?_<;>intros|(with_reducible apply Gg);(case hX=>exact hs.has);(case hu=>kernel_rfl);(case hz=>kernel_rfl);intro acc w X au ho;replace hs:=hs.trans au|((first|(with_reducible refine aw hs ?_)|(with_reducible refine aw (bR.trans hs) ?_));intro wa hk;(first|(rename_i h1 h2;(first|(rw [h2])|skip);exact Own.nil _ _ _ _ _)|exact(ho.kp hk).tight))|((with_reducible apply qV);(case own=>assumption);(case hs=>assumption);(case h0=>exact fun _ h=>h);(case he=>kernel_rfl);(case src=>exact Sl.mv ha (ak.mv hs));(case h1=>simp [aR.one]);(case hb=>simp;omega);(case hl=>simp;omega);intro acc w X au ho hc ef;replace hs:=au;rw [dG] at ho)
theorem EV {w:World} {X:XS} {a:Value} {xs:List KV} (ha:Sl w X 4 a (xs.map KV.l)) (hb:xs.length≤2^40):
  Ct pg 158 #[a] w X nX fun v wa w'=>Own w' (made wa w') wa.heap.size 64 4 v (xs.map KV.l):=by
  intro w0 hk;replace ha:=ha.mv hk.dD;apply sI;unfold l7;have hs:=ak.init w0;repeat' first|refine aL ?_;intros|refine dM ?_ ?_<;>intros|(with_reducible apply Gg);(case hX=>exact hs.has);(case hu=>kernel_rfl);(case hz=>kernel_rfl);intro acc w X au ho;replace hs:=hs.trans au|((first|(with_reducible refine aw hs ?_)|(with_reducible refine aw (bR.trans hs) ?_));intro wa hk;(first|(rename_i h1 h2;(first|(rw [h2])|skip);exact Own.nil _ _ _ _ _)|exact(ho.kp hk).tight))|((with_reducible apply qV);(case own=>assumption);(case hs=>assumption);(case h0=>exact fun _ h=>h);(case he=>kernel_rfl);(case src=>exact Sl.mv ha (ak.mv hs));(case h1=>simp [aR.one]);(case hb=>simp;omega);(case hl=>simp;omega);intro acc w X au ho hc ef;replace hs:=au;rw [dG] at ho)
theorem NM {w:World} {X:XS} {a:Value} {xs:List kf} (ha:Sl w X 6 a (xs.map kf.l)) (hb:xs.length≤2^40):
  Ct pg 297 #[a] w X nX fun v wa w'=>Own w' (made wa w') wa.heap.size 322 6 v (xs.map kf.l):=by
  intro w0 hk;replace ha:=ha.mv hk.dD;apply rr;unfold ku;have hs:=ak.init w0;repeat' first|refine aL ?_;intros|refine dM ?_ ?_<;>intros|(with_reducible apply Gg);(case hX=>exact hs.has);(case hu=>kernel_rfl);(case hz=>kernel_rfl);intro acc w X au ho;replace hs:=hs.trans au|((first|(with_reducible refine aw hs ?_)|(with_reducible refine aw (bR.trans hs) ?_));intro wa hk;(first|(rename_i h1 h2;(first|(rw [h2])|skip);exact Own.nil _ _ _ _ _)|exact(ho.kp hk).tight))|((with_reducible apply qV);(case own=>assumption);(case hs=>assumption);(case h0=>exact fun _ h=>h);(case he=>kernel_rfl);(case src=>exact Sl.mv ha (ak.mv hs));(case h1=>simp [aR.one]);(case hb=>simp;omega);(case hl=>simp;omega);intro acc w X au ho hc ef;replace hs:=au;rw [dG] at ho)
theorem Th {w:World} {X:XS} {a:Value} {xs:List BA} {k:BA} (ha:Sl w X 1 a (xs.map S1)):
  Ct pg 163 #[a,.string k] w X nX fun v _ _=>v=I (idxOf (fun x=>decide (k=x)) xs):=by
 intro w0 hk;replace ha:=ha.mv hk.dD;have jV:=ha.gy;apply wA;unfold oB;have hs:=ak.init w0;repeat' first|refine aL ?_;intros
 refine fQ (fun n a w X=> ∃i:Nat,a=I (i:Nat)∧n=(xs).length-i∧i≤(xs).length∧ak (aV w0) w0 X w∧(∀(j:Nat) x,j<i→xs[j]? =some x→decide (k=x)=false)) (xs).length ⟨0,rfl,rfl,aG _,hs,by simp⟩ ?_;rintro n a w X ⟨i,rfl,rfl,hi,hs,hw⟩;rcases ew (xs) i with⟨dz,x,hx,hd⟩|⟨dV,hd⟩
 ·repeat' first|refine bD ?_;intros|refine dM ?_ ?_<;>intros|((first|(with_reducible refine aw hs ?_)|(with_reducible refine aw (bR.trans hs) ?_));intro wa hk;(rw [Ni hw hx (by simpa)]))|((with_reducible refine fh ((xs).length-(i+1)) ?_ ?_);omega;exact⟨i+1,by simp,rfl,by omega,hs,fun j y hj hy=>by rcases Nat.lt_succ_iff_lt_or_eq.1 hj with h|h;exact hw j y h hy;subst h;rw [hx] at hy;cases hy;simpa⟩)
 ·repeat' first|refine bD ?_;intros|((first|(with_reducible refine aw hs ?_)|(with_reducible refine aw (bR.trans hs) ?_));intro wa hk;(rw [Gs fun j x hj hx=>hw j x zQ hx]))
theorem we {w:World} {X:XS} {a:Value} {xs:List BA} {k:BA} (ha:Sl w X 1 a (xs.map S1)):
  Ct pg 93 #[a,.string k] w X nX fun v _ _=>v=B (xs.any fun x=>decide (k=x)):=by
 intro w0 hk;replace ha:=ha.mv hk.dD;apply ud;unfold mR;have hs:=ak.init w0;repeat' first|refine aL ?_;intros|refine dM ?_ ?_<;>intros|((first|(with_reducible refine aw hs ?_)|(with_reducible refine aw (bR.trans hs) ?_));intro wa hk;(rw [←JN];simp [*]))|(refine gC (Th  qA) kQ hs.has ?_;intro w X au;replace hs:=hs.trans au)
theorem KD {w:World} {X:XS} {a:Value} {xs:List KV} {f:FuncId} {cs:List Value} {p:KV→Bool} (ha:Sl w X 4 a (xs.map KV.l)) (hX: ∀k,X k→k<w.heap.size) (hf:enters pg f=true)
  (hp: ∀x,Ct pg f ((.agg x.l.toArray)::cs).toArray w X nX fun v _ _=>v=B (p x)):
  Ct pg 329 #[a,.func (.func f) #[] cs.toArray] w X nX fun v _ _=>v=I (idxOf p xs):=by
 intro w0 hk;replace ha:=ha.mv hk.dD;replace hp:=fun x=>((hp x).kp hk).aV fun k hx=>aH (hX k hx) hk.size;have jV:=ha.gy;apply ru;unfold ky;have hs:=ak.init w0;repeat' first|refine aL ?_;intros
 refine fQ (fun n a w X=> ∃i:Nat,a=I (i:Nat)∧n=(xs).length-i∧i≤(xs).length∧ak (aV w0) w0 X w∧(∀(j:Nat) x,j<i→xs[j]? =some x→p x=false)) (xs).length ⟨0,rfl,rfl,aG _,hs,by simp⟩ ?_;rintro n a w X ⟨i,rfl,rfl,hi,hs,hw⟩;rcases ew (xs) i with⟨dz,x,hx,hd⟩|⟨dV,hd⟩
 ·repeat' first|refine bD ?_;intros|((first|(with_reducible refine aw hs ?_)|(with_reducible refine aw (bR.trans hs) ?_));intro wa hk;(rw [Ni hw hx ‹_›]))|((with_reducible refine fh ((xs).length-(i+1)) ?_ ?_);omega;exact⟨i+1,by simp,rfl,by omega,hs,fun j y hj hy=>by rcases Nat.lt_succ_iff_lt_or_eq.1 hj with h|h;exact hw j y h hy;subst h;rw [hx] at hy;cases hy;assumption⟩)|(refine fS ((hp x).since hs) hf hs.has ?_ ?_<;>(intro _ w X au;replace hs:=hs.trans au))
 ·repeat' first|refine bD ?_;intros|((first|(with_reducible refine aw hs ?_)|(with_reducible refine aw (bR.trans hs) ?_));intro wa hk;(rw [Gs fun j x hj hx=>hw j x zQ hx]))
theorem Fz {w:World} {X:XS} {a:Value} {xs:List KV} {f:FuncId} {cs:List Value} {p:KV→Bool} (ha:Sl w X 4 a (xs.map KV.l)) (hX: ∀k,X k→k<w.heap.size) (hf:enters pg f=true)
  (hp: ∀x,Ct pg f ((.agg x.l.toArray)::cs).toArray w X nX fun v _ _=>v=B (p x)):
  Ct pg 325 #[a,.func (.func f) #[] cs.toArray] w X nX fun v _ _=>v=B (xs.any p):=by
 intro w0 hk;replace ha:=ha.mv hk.dD;replace hp:=fun x=>((hp x).kp hk).aV fun k hx=>aH (hX k hx) hk.size;apply qc;unfold jF;have hs:=ak.init w0;repeat' first|refine aL ?_;intros|refine dM ?_ ?_<;>intros|((first|(with_reducible refine aw hs ?_)|(with_reducible refine aw (bR.trans hs) ?_));intro wa hk;(rw [←JN];simp [*]))|(refine gC (KD ha hs.has hf hp) kQ hs.has ?_;intro w X au;replace hs:=hs.trans au)
def tle (a b:BA):Bool:=uQ a b||decide (a=b)
def zn:cx→List kf→Bool
 |_,[]=>true
 |s,v::r=>v.bF.may&&decide (v.bF.cmp s>0)&&v.val.may&&zn v.bF r
def jq.ok (h:jq) (ahead:BA):Bool:=gn h.key&&!tle h.key ahead&&decide (h.l8≠[])&&zn .zero h.l8
theorem Rb {w:World} {X:XS} {h:jq} {vv:Value} {ahead:BA} (ha:Sl w X 6 vv (h.l8.map kf.l)):
  Ct pg 296 #[.agg (h.l vv).toArray,.string ahead] w X nX fun v _ _=>v=B (h.ok ahead):=by
 intro w0 hk;replace ha:=ha.mv hk.dD;have jV:=ha.gy;apply PE;unfold DT;have hs:=ak.init w0;repeat' first|refine aL ?_;intros|refine dM ?_ ?_<;>intros|((with_reducible refine dJ (jf _) ?_ hs.has ?_ ?_);(· kernel_rfl);all_goals (intro _ w X au;replace hs:=hs.trans au))|((first|(with_reducible refine aw hs ?_)|(with_reducible refine aw (bR.trans hs) ?_));intro wa hk;(simp_all [jq.ok,tle]<;>grind))
 refine fM (fun n a b w X=> ∃(i:Nat) (s:cx),a=I i∧b=s.v∧n=h.l8.length-i∧i≤h.l8.length∧ak (aV w0) w0 X w∧zn .zero h.l8=zn s (h.l8.drop i)) h.l8.length
  ⟨0,.zero,rfl,rfl,rfl,aG _,hs,by simp⟩ ?_
 rintro n a b w X ⟨i,s,rfl,rfl,rfl,hi,hs,hw⟩;have du:h.l8≠[]:=by intro e;simp_all
 rcases ew (h.l8) i with⟨dz,x,hx,hd⟩|⟨dV,hd⟩
 ·rw [hd,zn] at hw;clear hd;repeat' first|refine bD ?_;intros|refine dM ?_ ?_<;>intros|with_reducible apply dy|((with_reducible refine dJ (my _) ?_ hs.has ?_ ?_);(· kernel_rfl);all_goals (intro _ w X au;replace hs:=hs.trans au))|((with_reducible refine dJ (kH _) ?_ hs.has ?_ ?_);(· kernel_rfl);all_goals (intro _ w X au;replace hs:=hs.trans au))|((with_reducible refine ee (sc _ _) ?_ hs.has ?_);(· kernel_rfl);intro w X au;replace hs:=hs.trans au)|((first|(with_reducible refine aw hs ?_)|(with_reducible refine aw (bR.trans hs) ?_));intro wa hk;(simp_all [jq.ok,tle]<;>grind))|((with_reducible refine fI ((h.l8).length-(i+1)) ?_ ?_);omega;exact⟨i+1,x.bF,by simp,rfl,rfl,by omega,hs,by simp_all⟩)
 ·repeat' first|refine bD ?_;intros|((first|(with_reducible refine aw hs ?_)|(with_reducible refine aw (bR.trans hs) ?_));intro wa hk;(simp_all [jq.ok,tle,zn]<;>grind))
def ey.has (p:ey) (k:BA):Bool:=p.writes.any fun w=>decide (w.key=k)
theorem NN {w:World} {X:XS} {x:KV} {k:BA} {b:Nat} (h:Cells w X b 0 [.string k]):
  Ct pg 326 #[.agg x.l.toArray,ptr b 0] w X nX fun v _ _=>v=B (decide (x.key=k)):=by
 intro w0 hk;replace h:=h.mv hk.dD;apply LI;unfold Bf;have hs:=ak.init w0;repeat' first|refine aL ?_;intros|refine dM ?_ ?_<;>intros|((first|(with_reducible refine aw hs ?_)|(with_reducible refine aw (bR.trans hs) ?_));intro wa hk;simp_all)
theorem HT {w:World} {X:XS} {p:ey} {vr vw:Value} {k:BA} (hX: ∀k,X k→k<w.heap.size) (h2:Sl w X 4 vw (p.writes.map KV.l)):
  Ct pg 318 #[p.v vr vw,.string k] w X nX fun v _ _=>v=B (p.has k):=by
 intro w0 hk;replace h2:=h2.mv hk.dD;apply Q7;unfold Fv;have hs:=ak.init w0;repeat' first|refine aL ?_;intros|(with_reducible apply td);(case ho=>rfl);(case hX=>exact hs.has);intro bx w X gh au bJ;have bR:=hs.trans au;replace hs:=ak.ct au.has|((first|(with_reducible refine aw hs ?_)|(with_reducible refine aw (bR.trans hs) ?_));intro wa hk;(simp [ey.has]))|(refine gC (Fz (p:=fun x=>decide (x.key=k)) (h2.mv (ak.mv (bR.trans hs))) hs.has kQ fun x=>NN (x:=x) (by first|exact bJ.cells)) kQ hs.has ?_;intro w X au;replace hs:=hs.trans au)
end Go.Proofs.YtbpnemeooenpmaaGreat
