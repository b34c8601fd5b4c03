/-
 Part 3 of the proof: what the last text leans on.
-/
import Derived.Test.YtpdkoaklobnegaaGreatProg
import Derived.KernelRfl
import Derived.Test.YtpdkoaklobnegaaGreatH2
open Go.Value renaming cells → ad, int → aA, tuple → az, agg → aJ
open Array renaming toList → af
open Go.IntKind renaming u64 → bc, u32 → fv, u8 → cN
open List renaming all → aT, length → aB, toArray → bb, nil_append → cV, length_map → aS, length_take → bQ, length_append → ae, length_cons → bC, length_nil → cA
open Go.Op renaming unary → aY
open Go.UnOp renaming not → bF, xor → tS
open Go.Instr renaming extract → aE, box → de, lookup → ek, makeFunc → cE, alloc → g7, mapUpdate → gJ
open Nat renaming zero_le → aV, lt_of_lt_of_le → aU
open Go.Fn renaming func → gD
open BitVec renaming ofInt → aP
open Ieee.Datum renaming quotient → uQ
set_option linter.unusedVariables false
set_option linter.unusedSimpArgs false
namespace Go.Proofs.YtpdkoaklobnegaaGreat
open Go.Proofs.Tryz renaming prog → pg
open Go.fR
set_option maxRecDepth 100000
section
variable (R : Ending → World → Prop) (w0 : World) (X0 : XS)
noncomputable def TA:bI:=⟨41,[(1,(pg.cellsOf 51))],[4,8,14,20,24,27,36],[0,2,3,9,10,18,32],[13,15,16,23,25,26,28,29,30,35,37,38,39],[]⟩
def IJ (bf:Int) (bB:Nat) (bD:ByteArray):Prop:=
 (eC pg R X0 w0 true 111 #[(.float .f64 bB)] fun a b c=>
 aa pg c b (aI .eql 196 (.tmp 6) (.const (aA bc 0)) a (aA bc 0)) fun d=>
 ((aa pg c b (aI .eql 3 (.tmp 9) (.const (I 0)) (I bf) (I 0)) fun e=>
 (ao e
 (un (aL d true (.string bD)) fun g=>
 aF pg c b d true (vS (aI .eql 9 (.tmp 15) (.const (.string { data:= #[] })) g (.string { data:= #[] }))) fun h=>
 ay pg c b (aN d h (B false)) fun i=>
 (fin R c b i))
 (aa pg c b (aI .eql 3 (.tmp 9) (.const (I 1)) (I bf) (I 1)) fun j=>
 (ao j
 (aa pg c b (aI .eql 9 (.tmp 21) (.const (.string { data:= #[] })) (.string bD) (.string { data:= #[] })) fun k=>
 un (aL k true (.float .f64 bB)) fun l=>
 jn (fun (m:Value) (n:World) (o:XS)=>
 jn (fun (q:Value) (r:World) (s:XS)=>
 aF pg s r k true (vS (aI .eql 196 (.tmp 26) (.tmp 29) m q)) fun t=>
 ay pg s r (aN k t (B false)) fun v=>
 (fin R s r v)) fun y=>
 (gE k true (eC pg R o n true 225 #[l] y) (y undef n o))) fun z=>
 (gE k true (eC pg R c b false 111 #[l] z) (z undef b c)))
 (aa pg c b (aI .eql 3 (.tmp 9) (.const (I 2)) (I bf) (I 2)) fun A=>
 (ao A
 (un (aL d true (.string bD)) fun C=>
 aF pg c b d true (vS (nu 9 3 C)) fun D=>
 aF pg c b d true (vS (binOp .leq 3 D (I 64))) fun E=>
 ay pg c b (aN d E (B false)) fun F=>
 (fin R c b F))
 (fin R c b (B false))))))))))
noncomputable def Mo:bI:=⟨46,[(2,(pg.cellsOf 51)),(3,(pg.cellsOf 51))],[14,16,20,22,26,29,31,35,37,41,43],[0,1,4,12,13,19,25,34,40],[8,9,10,11],[]⟩
def B2 (bf:Int) (bB:Nat) (bD:ByteArray) (dE:Int) (dJ:Nat) (dL:ByteArray):Prop:=
 (eC pg R X0 w0 true 158 #[(.agg #[(I bf),(.float .f64 bB),(.string bD)])] fun a b c=>
 aa pg c b (aY bF a) fun d=>
 un (aL d false (.agg #[(I dE),(.float .f64 dJ),(.string dL)])) fun e=>
 jn (fun (g:Value) (h:World) (i:XS)=>
 aF pg i h d false (vS (aY bF g)) fun j=>
 ay pg i h (aN d (B true) j) fun k=>
 (ao k
 (fin R i h (I 0))
 ((aa pg i h (binOp .lss 3 (I bf) (I dE)) fun l=>
 (ao l
 ((fin R i h (I (-1))))
 (aa pg i h (binOp .gtr 3 (I bf) (I dE)) fun m=>
 (ao m
 (fin R i h (I 1))
 (aa pg i h (aI .eql 3 (.tmp 27) (.const (I 1)) (I bf) (I 1)) fun n=>
 (ao n
 (eC pg R i h true 226 #[(.float .f64 bB),(.float .f64 dJ)] fun o q r=>
 (fin R r q o))
 (aa pg i h (binOp .lss 9 (.string bD) (.string dL)) fun s=>
 (ao s
 ((fin R i h (I (-1))))
 (aa pg i h (binOp .gtr 9 (.string bD) (.string dL)) fun t=>
 (ao t
 (fin R i h (I 1))
 (fin R i h (I 0))))))))))))))) fun v=>
 (gE d false (eC pg R c b true 158 #[e] v) (v undef b c)))
noncomputable def Pz:bI:=⟨9,[],[],[0,2],[5,6,7],[]⟩
def EA (p0:Int):Prop:=
 (aa pg X0 w0 (binOp .geq 3 (I p0) (I 1)) fun a=>
 un (aL a true (I p0)) fun b=>
 aF pg X0 w0 a true (vS (binOp .leq 3 b (I 12))) fun c=>
 ay pg X0 w0 (aN a c (B false)) fun d=>
 (fin R X0 w0 d))
noncomputable def RI:bI:=⟨131,[(1,(pg.cellsOf 48))],[4,9,14,18,22,27,32,39,41,45,50,55,60,64,72,76,81,86,91,96,98,104,106,110,116,118,122,127],[0,2,3,13,15,16,37,70,102,114,117],[8,10,11,12,21,23,24,26,28,29,31,33,34,35,44,46,47,48,54,56,57,59,61,62,63,65,66,67,68,75,77,78,80,82,83,85,87,88,90,92,93,95,97,99,100,109,111,112,121,123,124,125],[]⟩
def Hb (bf _p0_1 _p0_2 bT cm cn cq cy dp cQ bX bV _p0_12 _p0_13 _p0_14:Int) (cX:Bool) (_p0_16 _p0_17:Int) (cG cC cH cI cJ _p0_23:Value) (_p0_24 _p0_25:Int) (_p0_26 _p0_27:Nat) (_p0_28 _p0_29 _p0_30 _p0_31 _p0_32 _p0_33:Int) (_p0_34 _p0_35:Value):Prop:=
 (eC pg R X0 w0 true 238 #[(.agg #[(I bT),(I cm),(I cn)])] fun a b c=>
 aa pg c b (aY bF a) fun d=>
 un (aL d false (I cq)) fun e=>
 jn (fun (g:Value) (h:World) (i:XS)=>
 aF pg i h d false (vS (aY bF g)) fun j=>
 ay pg i h (aN d (B true) j) fun k=>
 (ao k
 (fin R i h (B false))
 (((aa pg i h (aI .eql 3 (.tmp 15) (.const (I 1)) (I bf) (I 1)) fun l=>
 (ao l
 (aa pg i h (binOp .geq 3 (I cy) (I 0)) fun m=>
 un (aL m true (.agg #[(I cQ),(I bX),(I bV)])) fun n=>
 jn (fun (o:Value) (q:World) (r:XS)=>
 ay pg r q (aN m o (B false)) fun s=>
 un (aL s true cG) fun t=>
 jn (fun (v:Value) (y:World) (z:XS)=>
 ay pg z y (aN s v (B false)) fun A=>
 un (aL A true cG) fun C=>
 aF pg z y A true (vS (cr 36 3 C)) fun D=>
 aF pg z y A true (vS (binOp .gtr 3 D (I 0))) fun E=>
 ay pg z y (aN A E (B false)) fun F=>
 (fin R z y F)) fun G=>
 (gE s true (eC pg R r q true 239 #[t] G) (G undef q r))) fun H=>
 (gE m true (eC pg R i h true 165 #[n] H) (H undef h i)))
 (aa pg i h (aI .eql 3 (.tmp 15) (.const (I 2)) (I bf) (I 2)) fun L=>
 (ao L
 (eC pg R i h false 241 #[cC] fun M N O=>
 un (aL M true cC) fun Q=>
 aF pg O N M true (vS (cr 37 3 Q)) fun S=>
 aF pg O N M true (vS (binOp .gtr 3 S (I 0))) fun T=>
 ay pg O N (aN M T (B false)) fun U=>
 eC pg R O N true 240 #[(I dp),U,cJ] fun V Y Z=>
 (un (aL V true (.agg #[(I cQ),(I bX),(I bV)])) fun a0=>
 jn (fun (b0:Value) (c0:World) (d0:XS)=>
 ay pg d0 c0 (aN V b0 (B false)) fun e0=>
 un (aL e0 true (I dp)) fun g0=>
 aF pg d0 c0 e0 true (vS (aI .eql 29 (.tmp 61) (.const (I 0)) g0 (I 0))) fun h0=>
 un (aL e0 true h0) fun i0=>
 un (aL i0 false cC) fun j0=>
 aF pg d0 c0 i0 false (vS (cr 37 3 j0)) fun k0=>
 aF pg d0 c0 i0 false (vS (aI .eql 3 (.tmp 66) (.const (I 0)) k0 (I 0))) fun l0=>
 aF pg d0 c0 e0 true (aN i0 (B true) l0) fun m0=>
 ay pg d0 c0 (aN e0 m0 (B false)) fun n0=>
 (fin R d0 c0 n0)) fun o0=>
 (gE V true (eC pg R Z Y true 165 #[a0] o0) (o0 undef Y Z))))
 (aa pg i h (aI .eql 3 (.tmp 15) (.const (I 3)) (I bf) (I 3)) fun q0=>
 (ao q0
 (aa pg i h (binOp .geq 3 (I cy) (I 0)) fun r0=>
 un (aL r0 true (.agg #[(I cQ),(I bX),(I bV)])) fun s0=>
 jn (fun (t0:Value) (v0:World) (y0:XS)=>
 ay pg y0 v0 (aN r0 t0 (B false)) fun z0=>
 un (aL z0 true cC) fun A0=>
 jn (fun (C0:Value) (D0:World) (E0:XS)=>
 ay pg E0 D0 (aN z0 C0 (B false)) fun F0=>
 un (aL F0 true cH) fun G0=>
 jn (fun (H0:Value) (L0:World) (M0:XS)=>
 ay pg M0 L0 (aN F0 H0 (B false)) fun N0=>
 un (aL N0 true cI) fun O0=>
 jn (fun (Q0:Value) (S0:World) (T0:XS)=>
 ay pg T0 S0 (aN N0 Q0 (B false)) fun U0=>
 un (aL U0 true cI) fun V0=>
 un (aL U0 true (I cq)) fun Y0=>
 jn (fun (Z0:Value) (a1:World) (b1:XS)=>
 ay pg b1 a1 (aN U0 Z0 (B false)) fun c1=>
 (fin R b1 a1 c1)) fun d1=>
 (gE U0 true (eC pg R T0 S0 true 244 #[V0,Y0] d1) (d1 undef S0 T0))) fun e1=>
 (gE N0 true (eC pg R M0 L0 true 243 #[O0] e1) (e1 undef L0 M0))) fun g1=>
 (gE F0 true (eC pg R E0 D0 true 242 #[G0] g1) (g1 undef D0 E0))) fun h1=>
 (gE z0 true (eC pg R y0 v0 true 241 #[A0] h1) (h1 undef v0 y0))) fun i1=>
 (gE r0 true (eC pg R i h true 165 #[s0] i1) (i1 undef h i)))
 (aa pg i h (aI .eql 3 (.tmp 15) (.const (I 4)) (I bf) (I 4)) fun j1=>
 (ao j1
 (eC pg R i h true 240 #[(I dp),(B true),cJ] fun k1 l1 m1=>
 un (aL k1 true (.agg #[(I cQ),(I bX),(I bV)])) fun n1=>
 jn (fun (o1:Value) (q1:World) (r1:XS)=>
 ay pg r1 q1 (aN k1 o1 (B false)) fun s1=>
 (fin R r1 q1 s1)) fun t1=>
 (gE k1 true (eC pg R m1 l1 true 165 #[n1] t1) (t1 undef l1 m1)))
 (aa pg i h (aI .eql 3 (.tmp 15) (.const (I 5)) (I bf) (I 5)) fun v1=>
 (ao v1
 ((ao (B cX)
 (eC pg R i h true 165 #[(.agg #[(I cQ),(I bX),(I bV)])] fun y1 z1 A1=>
 un (aL y1 true (.agg #[(I cQ),(I bX),(I bV)])) fun C1=>
 aF pg A1 z1 y1 true (vS (fF 35 #[(I 0),(I 0),(I 0)] #[])) fun D1=>
 aF pg A1 z1 y1 true (vS (aI .neq 35 (.tmp 123) (.tmp 124) C1 D1)) fun E1=>
 ay pg A1 z1 (aN y1 E1 (B false)) fun F1=>
 (fin R A1 z1 F1))
 ((aa pg i h (fF 35 #[(I 0),(I 0),(I 0)] #[]) fun G1=>
 aa pg i h (aI .eql 35 (.tmp 128) (.tmp 129) (.agg #[(I cQ),(I bX),(I bV)]) G1) fun H1=>
 (fin R i h H1)))))
 (fin R i h (B true)))))))))))))))) fun L1=>
 (gE d false (eC pg R c b true 163 #[e] L1) (L1 undef b c)))
noncomputable def YA:bI:=⟨31,[(1,(pg.cellsOf 35))],[3,7,12,17,22,27],[0,2],[6,8,9,11,13,14,16,18,19,21,23,24,26,28,29],[]⟩
def NQ (bf bB bD:Int):Prop:=
 (aa pg X0 w0 (binOp .geq 3 (I bf) (I 0)) fun a=>
 un (aL a true (I bf)) fun b=>
 aF pg X0 w0 a true (vS (binOp .leq 3 b (I 281474976710656))) fun c=>
 ay pg X0 w0 (aN a c (B false)) fun d=>
 un (aL d true (I bB)) fun e=>
 aF pg X0 w0 d true (vS (binOp .geq 3 e (I 0))) fun g=>
 ay pg X0 w0 (aN d g (B false)) fun h=>
 un (aL h true (I bB)) fun i=>
 aF pg X0 w0 h true (vS (binOp .leq 3 i (I 65535))) fun j=>
 ay pg X0 w0 (aN h j (B false)) fun k=>
 un (aL k true (I bD)) fun l=>
 aF pg X0 w0 k true (vS (binOp .geq 3 l (I 0))) fun m=>
 ay pg X0 w0 (aN k m (B false)) fun n=>
 un (aL n true (I bD)) fun o=>
 aF pg X0 w0 n true (vS (binOp .leq 3 o (I 63))) fun q=>
 ay pg X0 w0 (aN n q (B false)) fun r=>
 (fin R X0 w0 r))
def Hc (p0:Value):Prop:=
 (aa pg X0 w0 (cr 39 3 p0) fun a=>
 (jB X0 w0 (I 0) 9 fun b c d e g=>
 aa pg g e (binOp .lss 3 d a) fun h=>
 (ao h
 ((aa pg g e (dx 39 29 p0 d) fun i=>
 aa pg g e (gL 117 29 i) fun j=>
 un (aJ (ad j)) fun k=>
 bz (aB (af (ad j))==29) (bz (aT (af (ad j)) one) ((bz (ez k) (un (eQ k 0 29) fun l=>
 eC pg R g e true 91 #[l] fun m n o=>
 aa pg o n (aE m 0) fun _=>
 aa pg o n (aE m 1) fun q=>
 (aa pg o n (aI .neq 29 (.tmp 18) (.const (I 0)) q (I 0)) fun r=>
 (ao r
 (fin R o n (B false))
 (((aa pg o n (binOp .add 3 d (I 1)) fun s=>
 jC b c s n o)))))))))))
 (((aa pg g e (cr 39 3 p0) fun t=>
 aa pg g e (binOp .leq 3 t (I 8)) fun v=>
 (fin R g e v)))))))
noncomputable def Mp:bI:=⟨87,[(7,(pg.cellsOf 288)),(9,(pg.cellsOf 229)),(13,(pg.cellsOf 53))],[49,61,73,81],[0,1,2,4,5,11,29,39,42,43,44,45,52,55,56,57,58,62,63,64,65,71,74,75,76,77,84],[18,19,20,21,22,24,25,26,27,28],[44,57,64,76]⟩
def B3 (bf bB:Int) (bD bT:Nat) (cm cn cq cy dp cQ:Int) (bX bV:Value):Prop:=
 eV pg R X0 w0 true (de 46 (.agg #[(I bf),(I bB),(.float .f64 bD),(.float .f64 bT),(I cm),(I cn),(I cq),(I cy),(I dp),(I cQ),bX,bV])) fun a b c=>
 (aa pg c b (aQ 46 0 0 4 a) fun d=>
 aa pg c b (gL 42 4 d) fun e=>
 eC pg R c b true 245 #[e] fun g h i=>
 aa pg i h (aY bF g) fun j=>
 aF pg i h j false (vS (aQ 46 1 4 3 a)) fun k=>
 aF pg i h j false (vS (gL 35 3 k)) fun l=>
 jn (fun (m:Value) (n:World) (o:XS)=>
 aF pg o n j false (vS (aY bF m)) fun q=>
 ay pg o n (aN j (B true) q) fun r=>
 aF pg o n r false (vS (aQ 46 2 7 3 a)) fun s=>
 aF pg o n r false (vS (gL 35 3 s)) fun t=>
 jn (fun (v:Value) (y:World) (z:XS)=>
 aF pg z y r false (vS (aY bF v)) fun A=>
 ay pg z y (aN r (B true) A) fun C=>
 (ao C
 (fin R z y (B false))
 ((aa pg z y (aQ 46 3 10 1 a) fun D=>
 aa pg z y (aX 43 D) fun E=>
 aa pg z y (aQ 46 4 11 1 a) fun F=>
 aa pg z y (aX 44 F) fun G=>
 eC pg R z y true 246 #[E,G] fun H L M=>
 aa pg M L (aE H 0) fun _=>
 aa pg M L (aE H 1) fun N=>
 (aa pg M L (aI .neq 29 (.tmp 38) (.const (I 0)) N (I 0)) fun O=>
 (ao O
 (fin R M L (B false))
 ((aa pg M L (cE (gD 247) #[] #[a]) fun Q=>
 (aa pg M L (aQ 46 3 10 1 a) fun S=>
 aa pg M L (aX 43 S) fun T=>
 aa pg M L (cr 43 3 T) fun U=>
 (jB M L (I 0) 44 fun V Y Z a0 b0=>
 aa pg b0 a0 (binOp .lss 3 Z U) fun c0=>
 (ao c0
 ((aa pg b0 a0 (dx 43 2 T Z) fun d0=>
 aa pg b0 a0 (gL 288 2 d0) fun e0=>
 un (aJ (ad e0)) fun g0=>
 bz (aB (af (ad e0))==2) (bz (aT (af (ad e0)) one) ((bz (ez g0) (un (cellOf g0 0) fun h0=>
 eF pg R b0 a0 true Q #[h0] fun i0 j0 k0=>
 aa pg k0 j0 (aY bF i0) fun l0=>
 (ao l0
 (fin R k0 j0 (B false))
 (((aa pg k0 j0 (binOp .add 3 Z (I 1)) fun m0=>
 jC V Y m0 j0 k0))))))))))
 (((aa pg b0 a0 (aQ 46 4 11 1 a) fun n0=>
 aa pg b0 a0 (aX 44 n0) fun o0=>
 aa pg b0 a0 (cr 44 3 o0) fun q0=>
 (wK b0 a0 (I 0) undef undef 57 76 64 fun r0 s0 t0 _ _ v0 y0=>
 aa pg y0 v0 (binOp .lss 3 t0 q0) fun z0=>
 (ao z0
 ((aa pg y0 v0 (dx 44 8 o0 t0) fun A0=>
 aa pg y0 v0 (gL 229 8 A0) fun C0=>
 un (aJ (ad C0)) fun D0=>
 bz (aB (af (ad C0))==8) (bz (aT (af (ad C0)) one) ((bz (ez D0) (un (cellOf D0 6) fun E0=>
 aa pg y0 v0 (cr 36 3 E0) fun F0=>
 (jB y0 v0 (I 0) 64 fun G0 H0 L0 M0 N0=>
 aa pg N0 M0 (binOp .lss 3 L0 F0) fun O0=>
 (ao O0
 ((aa pg N0 M0 (dx 36 1 E0 L0) fun Q0=>
 aa pg N0 M0 (aX 9 Q0) fun S0=>
 (eF pg R N0 M0 true Q #[S0] fun T0 U0 V0=>
 aa pg V0 U0 (aY bF T0) fun Y0=>
 (ao Y0
 (fin R V0 U0 (B false))
 (((aa pg V0 U0 (binOp .add 3 L0 (I 1)) fun Z0=>
 jC G0 H0 Z0 U0 V0)))))))
 (((bz (ez D0) (un (cellOf D0 7) fun a1=>
 aa pg N0 M0 (cr 23 3 a1) fun b1=>
 (jB N0 M0 (I 0) 76 fun c1 d1 e1 g1 h1=>
 aa pg h1 g1 (binOp .lss 3 e1 b1) fun i1=>
 (ao i1
 ((aa pg h1 g1 (dx 23 4 a1 e1) fun j1=>
 aa pg h1 g1 (gL 53 4 j1) fun k1=>
 un (aJ (ad k1)) fun l1=>
 bz (aB (af (ad k1))==4) (bz (aT (af (ad k1)) one) ((bz (ez l1) (un (cellOf l1 0) fun m1=>
 eF pg R h1 g1 true Q #[m1] fun n1 o1 q1=>
 aa pg q1 o1 (aY bF n1) fun r1=>
 (ao r1
 (fin R q1 o1 (B false))
 (((aa pg q1 o1 (binOp .add 3 e1 (I 1)) fun s1=>
 jC c1 d1 s1 o1 q1))))))))))
 ((((aa pg h1 g1 (binOp .add 3 t0 (I 1)) fun t1=>
 wL r0 s0 t1 e1 L0 g1 h1))))))))))))))))))
 (fin R y0 v0 (B true)))))))))))))))))) fun v1=>
 (gE r false (eC pg R o n true 165 #[t] v1) (v1 undef n o))) fun y1=>
 (gE j false (eC pg R i h true 165 #[l] y1) (y1 undef h i)))
noncomputable def RJ:bI:=⟨29,[(4,(pg.cellsOf 35)),(5,(pg.cellsOf 35)),(6,(pg.cellsOf 33))],[],[0,1,2,3,8,22],[12,13,14,15,16,18,19,20,21],[]⟩
def Hd (bf bB bD dE dJ dL tN tO tP:Int) (p3:Value):Prop:=
 (eC pg R X0 w0 true 165 #[(.agg #[(I bf),(I bB),(I bD)])] fun a b c=>
 aa pg c b (aY bF a) fun d=>
 un (aL d false (.agg #[(I bf),(I bB),(I bD)])) fun e=>
 un (aL d false (.agg #[(I dE),(I dJ),(I dL)])) fun g=>
 jn (fun (h:Value) (i:World) (j:XS)=>
 aF pg j i d false (vS (binOp .geq 3 h (I 0))) fun k=>
 ay pg j i (aN d (B true) k) fun l=>
 un (aL l false p3) fun m=>
 aF pg j i l false (vS (cr 23 3 m)) fun n=>
 aF pg j i l false (vS (aI .eql 3 (.tmp 20) (.const (I 0)) n (I 0))) fun o=>
 ay pg j i (aN l (B true) o) fun q=>
 (ao q
 (fin R j i (B false))
 ((aa pg j i (fF 229 #[(I tN),(I tO),(I tP),(I dE),(I dJ),(I dL),(.slice none 0 0),p3] #[(0,(.agg #[(I tN),(I tO),(I tP)])),(1,(.agg #[(I dE),(I dJ),(I dL)])),(3,p3)]) fun r=>
 eC pg R j i true 250 #[r] fun s t v=>
 aa pg v t (aI .eql 29 (.tmp 27) (.const (I 0)) s (I 0)) fun y=>
 (fin R v t y))))) fun z=>
 (gE d false (eC pg R c b true 53 #[e,g] z) (z undef b c)))
def EB (p0:Value):Prop:=
 (aa pg X0 w0 (cr 95 3 p0) fun a=>
 aa pg X0 w0 (binOp .gtr 3 a (I 262144)) fun b=>
 (ao b
 ((fin R X0 w0 (az #[(.slice none 0 0),(I 2)])))
 ((aa pg X0 w0 (cr 95 3 p0) fun c=>
 aa pg X0 w0 (binOp .add 3 c (I 12)) fun d=>
 eV pg R X0 w0 true (Instr.makeSlice 95 (I 0) d) fun e g h=>
 aa pg h g (cr 95 3 p0) fun i=>
 aa pg h g (mO fv 3 281 i) fun j=>
 eC pg R h g true 251 #[e,j] fun k l m=>
 (eC pg R m l true 203 #[k] fun n o q=>
 eC pg R q o true 251 #[k,n] fun r s t=>
 (eV pg R t s true (iS 95 5 1 1 95 r p0) fun v y z=>
 (eC pg R z y true 203 #[p0] fun A C D=>
 eC pg R D C true 251 #[v,A] fun E F G=>
 (fin R G F (az #[E,(I 0)])))))))))
noncomputable def HG:bI:=⟨53,[],[],[0,1,2,6,7,8,15,20,23,52],[],[]⟩
def yL (p0:Value) (p1:ByteArray) (p2:Value):Prop:=
 (ay pg X0 w0 (aH p0) fun a=>
 aa pg X0 w0 (aQ 106 0 0 1 a) fun b=>
 aa pg X0 w0 (aX 104 b) fun c=>
 aa pg X0 w0 (ek 104 c (.string p1) false) fun d=>
 (ay pg X0 w0 (aH p0) fun e=>
 aa pg X0 w0 (aQ 106 4 4 1 e) fun g=>
 aa pg X0 w0 (aX 4 g) fun h=>
 (ao h
 (fin R X0 w0 (I 12))
 (aa pg X0 w0 (aI .eql 135 (.tmp 21) (.const (.pointer none)) d (.pointer none)) fun i=>
 (ao i
 (fin R X0 w0 (I 8))
 (aa pg X0 w0 (cr 95 3 p2) fun j=>
 ay pg X0 w0 (aH p0) fun k=>
 aa pg X0 w0 (aQ 106 1 1 1 k) fun l=>
 aa pg X0 w0 (aX 3 l) fun m=>
 aa pg X0 w0 (binOp .sub 3 (I 4194304) m) fun n=>
 aa pg X0 w0 (binOp .gtr 3 j n) fun o=>
 (ao o
 (fin R X0 w0 (I 11))
 (((eC pg R X0 w0 true 252 #[p0] fun q r s=>
 (ay pg s r (aH d) fun t=>
 aa pg s r (aQ 141 0 0 1 t) fun v=>
 aa pg s r (aX 95 v) fun y=>
 eV pg R s r true (iS 95 5 1 1 95 y p2) fun z A C=>
 ay pg C A (aH d) fun D=>
 aa pg C A (aQ 141 0 0 1 D) fun E=>
 eU pg R C A true (eo 95 1 E z) fun _ F G=>
 (ay pg G F (aH p0) fun H=>
 aa pg G F (aQ 106 1 1 1 H) fun L=>
 aa pg G F (aX 3 L) fun M=>
 aa pg G F (cr 95 3 p2) fun N=>
 aa pg G F (binOp .add 3 M N) fun O=>
 ay pg G F (aH p0) fun Q=>
 aa pg G F (aQ 106 1 1 1 Q) fun S=>
 eU pg R G F true (eo 3 1 S O) fun _ T U=>
 ((ao q
 (fin R U T (I 12))
 (fin R U T (I 0))))))))))))))))
noncomputable def KK:bI:=⟨11,[],[],[0,1,2,3,4],[],[]⟩
def AT (p0:Value) (p1:ByteArray):Prop:=
 eV pg R X0 w0 true (de 26 p0) fun a b c=>
 eV pg R c b true (de 9 (.string p1)) fun d e g=>
 (aa pg g e (aX 26 a) fun h=>
 aa pg g e (aX 26 a) fun i=>
 aa pg g e (aX 9 d) fun j=>
 aa pg g e (cE (gD 253) #[] #[a,d]) fun k=>
 eC pg R g e false 173 #[i,j] fun l m n=>
 eC pg R n m true 172 #[h,l,k] fun o q r=>
 (fin R r q o))
noncomputable def IK:bI:=⟨21,[],[],[0,1,2,6,7,12,16],[],[]⟩
def zT (p0:Value) (p1:Int) (p2:Value):Prop:=
 (ay pg X0 w0 (aH p0) fun a=>
 aa pg X0 w0 (aQ 106 4 4 1 a) fun b=>
 aa pg X0 w0 (aX 4 b) fun c=>
 (ao c
 (fin R X0 w0 (I 12))
 (aa pg X0 w0 (aI .neq 29 (.tmp 13) (.const (I 0)) (I p1) (I 0)) fun d=>
 (ao d
 (fin R X0 w0 (I p1))
 (eC pg R X0 w0 true 252 #[p0] fun e g h=>
 (ao e
 (fin R h g (I 12))
 (((eF pg R h g true p2 #[] fun _ i j=>
 (fin R j i (I 0)))))))))))
noncomputable def Mq:bI:=⟨12,[],[],[0,1,4,11],[],[]⟩
def B4 (p0:Value) (p1:ByteArray):Prop:=
 (ay pg X0 w0 (aH p0) fun a=>
 aa pg X0 w0 (aQ 106 0 0 1 a) fun b=>
 aa pg X0 w0 (aX 104 b) fun c=>
 aa pg X0 w0 (ek 104 c (.string p1) false) fun d=>
 aa pg X0 w0 (aI .eql 135 (.tmp 10) (.const (.pointer none)) d (.pointer none)) fun e=>
 (ao e
 (fin R X0 w0 (I 8))
 (fin R X0 w0 (I 0))))
noncomputable def Dy:bI:=⟨5,[],[],[0,1],[],[]⟩
def vI (c0 c1:Value):Prop:=
 aa pg X0 w0 (aX 26 c0) fun a=>
 aa pg X0 w0 (aX 9 c1) fun b=>
 eC pg R X0 w0 true 175 #[a,b] fun _ c d=>
 fin R d c (az #[])
noncomputable def KL:bI:=⟨30,[],[],[0,1,4,12],[],[]⟩
def AU (p0:Value) (p1:ByteArray):Prop:=
 ay pg X0 w0 (aH p0) fun a=>
 aa pg X0 w0 (aQ 106 0 0 1 a) fun b=>
 aa pg X0 w0 (aX 104 b) fun c=>
 aa pg X0 w0 (ek 104 c (.string p1) false) fun d=>
 (aa pg X0 w0 (aI .neq 135 (.tmp 11) (.const (.pointer none)) d (.pointer none)) fun e=>
 (ao e
 (ay pg X0 w0 (aH p0) fun g=>
 aa pg X0 w0 (aQ 106 1 1 1 g) fun h=>
 aa pg X0 w0 (aX 3 h) fun i=>
 ay pg X0 w0 (aH d) fun j=>
 aa pg X0 w0 (aQ 141 0 0 1 j) fun k=>
 aa pg X0 w0 (aX 95 k) fun l=>
 aa pg X0 w0 (cr 95 3 l) fun m=>
 aa pg X0 w0 (binOp .sub 3 i m) fun n=>
 ay pg X0 w0 (aH p0) fun o=>
 aa pg X0 w0 (aQ 106 1 1 1 o) fun q=>
 eU pg R X0 w0 true (eo 3 1 q n) fun _ r s=>
 (ay pg s r (aH p0) fun t=>
 aa pg s r (aQ 106 0 0 1 t) fun v=>
 aa pg s r (aX 104 v) fun y=>
 eV pg R s r true (Builtin.delete_ #[104,9] 0 #[y,(.string p1)]) fun _ z A=>
 fin R A z (az #[])))
 (fin R X0 w0 (az #[]))))
noncomputable def Bf:bI:=⟨60,[],[],[0,1,4,5,6,7,16,41],[12,13,14,15,37,38,39,40],[5,6,7]⟩
def tf (p0:Value) (p1:Int):Prop:=
 (((wK X0 w0 (I 0) undef (I 0) 6 7 5 fun a b c _ d e g=>
 aa pg g e (cr 43 3 p0) fun h=>
 aa pg g e (binOp .lss 3 c h) fun i=>
 un (aL i true d) fun j=>
 un (aL i true (I p1)) fun k=>
 aF pg g e i true (vS (binOp .leq 3 j k)) fun l=>
 ay pg g e (aN i l (B false)) fun m=>
 (ao m
 ((aa pg g e (dx 43 2 p0 c) fun n=>
 aa pg g e (aQ 288 0 0 1 n) fun o=>
 aa pg g e (aX 9 o) fun q=>
 aa pg g e (nu 9 3 q) fun r=>
 aa pg g e (binOp .add 3 (I 1) r) fun s=>
 eC pg R g e true 40 #[d,s,(I p1)] fun t v y=>
 ((lq y v (I 0) t 7 5 fun z A C D E F=>
 aa pg F E (dx 43 2 p0 c) fun G=>
 aa pg F E (aQ 288 1 1 1 G) fun H=>
 aa pg F E (aX 286 H) fun L=>
 aa pg F E (cr 286 3 L) fun M=>
 aa pg F E (binOp .lss 3 C M) fun N=>
 un (aL N true D) fun O=>
 un (aL N true (I p1)) fun Q=>
 aF pg F E N true (vS (binOp .leq 3 O Q)) fun S=>
 ay pg F E (aN N S (B false)) fun T=>
 (ao T
 ((aa pg F E (dx 43 2 p0 c) fun U=>
 aa pg F E (aQ 288 1 1 1 U) fun V=>
 aa pg F E (aX 286 V) fun Y=>
 aa pg F E (dx 286 6 Y C) fun Z=>
 aa pg F E (aQ 337 1 3 3 Z) fun a0=>
 aa pg F E (aQ 51 2 2 1 a0) fun b0=>
 aa pg F E (aX 9 b0) fun c0=>
 aa pg F E (nu 9 3 c0) fun d0=>
 aa pg F E (binOp .add 3 (I 1) d0) fun e0=>
 eC pg R F E true 40 #[D,e0,(I p1)] fun g0 h0 i0=>
 ((aa pg i0 h0 (binOp .add 3 C (I 1)) fun j0=>
 lr z A j0 g0 h0 i0))))
 ((((aa pg F E (binOp .add 3 c (I 1)) fun k0=>
 wL a b k0 C D E F)))))))))
 (fin R g e d)))))
noncomputable def B5:bI:=⟨39,[],[],[0,1,4,5,6,15],[11,12,13,14,18],[5,6]⟩
def tT (p0:Value) (p1:Int):Prop:=
 (((lq X0 w0 (I 0) (I 0) 6 5 fun a b c d e g=>
 aa pg g e (cr 44 3 p0) fun h=>
 aa pg g e (binOp .lss 3 c h) fun i=>
 un (aL i true d) fun j=>
 un (aL i true (I p1)) fun k=>
 aF pg g e i true (vS (binOp .leq 3 j k)) fun l=>
 ay pg g e (aN i l (B false)) fun m=>
 (ao m
 ((aa pg g e (dx 44 8 p0 c) fun n=>
 aa pg g e (aQ 229 2 6 1 n) fun o=>
 aa pg g e (aX 36 o) fun q=>
 aa pg g e (dx 44 8 p0 c) fun r=>
 aa pg g e (aQ 229 3 7 1 r) fun s=>
 aa pg g e (aX 23 s) fun t=>
 eC pg R g e false 23 #[q,(I p1)] fun v y z=>
 aa pg z y (binOp .add 3 (I 1) v) fun A=>
 eC pg R z y false 40 #[d,A,(I p1)] fun C D E=>
 eC pg R E D true 10 #[t,(I p1)] fun F G H=>
 eC pg R H G true 40 #[C,F,(I p1)] fun L M N=>
 ((aa pg N M (binOp .add 3 c (I 1)) fun O=>
 lr a b O L M N))))
 (fin R g e d)))))
noncomputable def Mr:bI:=⟨31,[(2,(pg.cellsOf 42)),(3,(pg.cellsOf 42))],[5,7,11,13,18,20,25,27],[0,1,4],[10,12,14,15,17,19,21,22,24,26,28,29],[]⟩
def B6 (bf bB:Int) (bD bT:Nat) (dE dJ:Int) (dL gX:Nat):Prop:=
 (aa pg X0 w0 (aI .eql 3 (.tmp 6) (.tmp 8) (I bf) (I dE)) fun a=>
 un (aL a true (I bB)) fun b=>
 un (aL a true (I dJ)) fun c=>
 aF pg X0 w0 a true (vS (aI .eql 3 (.tmp 12) (.tmp 14) b c)) fun d=>
 ay pg X0 w0 (aN a d (B false)) fun e=>
 un (aL e true (.float .f64 bD)) fun g=>
 un (aL e true (.float .f64 dL)) fun h=>
 jn (fun (i:Value) (j:World) (k:XS)=>
 ay pg k j (aN e i (B false)) fun l=>
 un (aL l true (.float .f64 bT)) fun m=>
 un (aL l true (.float .f64 gX)) fun n=>
 jn (fun (o:Value) (q:World) (r:XS)=>
 ay pg r q (aN l o (B false)) fun s=>
 (fin R r q s)) fun t=>
 (gE l true (eC pg R k j true 63 #[m,n] t) (t undef j k))) fun v=>
 (gE e true (eC pg R X0 w0 true 63 #[g,h] v) (v undef w0 X0)))
def xP (p0 p1:Value):Prop:=
 (aa pg X0 w0 (cr 43 3 p0) fun a=>
 aa pg X0 w0 (cr 43 3 p1) fun b=>
 aa pg X0 w0 (aI .neq 3 (.tmp 10) (.tmp 12) a b) fun c=>
 (ao c
 (fin R X0 w0 (B false))
 (((lq X0 w0 (I 0) undef 5 6 fun d e g _ h i=>
 aa pg i h (cr 43 3 p0) fun j=>
 aa pg i h (binOp .lss 3 g j) fun k=>
 (ao k
 ((aa pg i h (dx 43 2 p0 g) fun l=>
 aa pg i h (aQ 288 0 0 1 l) fun m=>
 aa pg i h (aX 9 m) fun n=>
 aa pg i h (dx 43 2 p1 g) fun o=>
 aa pg i h (aQ 288 0 0 1 o) fun q=>
 aa pg i h (aX 9 q) fun r=>
 aa pg i h (aI .neq 9 (.tmp 24) (.tmp 29) n r) fun s=>
 un (aL s false p0) fun t=>
 un (aL s false g) fun v=>
 aF pg i h s false (vS (dx 43 2 t v)) fun y=>
 aF pg i h s false (vS (aQ 288 1 1 1 y)) fun z=>
 aF pg i h s false (vS (aX 286 z)) fun A=>
 aF pg i h s false (vS (cr 286 3 A)) fun C=>
 un (aL s false p1) fun D=>
 aF pg i h s false (vS (dx 43 2 D v)) fun E=>
 aF pg i h s false (vS (aQ 288 1 1 1 E)) fun F=>
 aF pg i h s false (vS (aX 286 F)) fun G=>
 aF pg i h s false (vS (cr 286 3 G)) fun H=>
 aF pg i h s false (vS (aI .neq 3 (.tmp 37) (.tmp 43) C H)) fun L=>
 ay pg i h (aN s (B true) L) fun M=>
 (ao M
 (fin R i h (B false))
 (((jB i h (I 0) 6 fun N O Q S T=>
 aa pg T S (dx 43 2 p0 g) fun U=>
 aa pg T S (aQ 288 1 1 1 U) fun V=>
 aa pg T S (aX 286 V) fun Y=>
 aa pg T S (cr 286 3 Y) fun Z=>
 aa pg T S (binOp .lss 3 Q Z) fun a0=>
 (ao a0
 ((aa pg T S (dx 43 2 p0 g) fun b0=>
 aa pg T S (aQ 288 1 1 1 b0) fun c0=>
 aa pg T S (aX 286 c0) fun d0=>
 aa pg T S (dx 286 6 d0 Q) fun e0=>
 aa pg T S (gL 337 6 e0) fun g0=>
 aa pg T S (dx 43 2 p1 g) fun h0=>
 aa pg T S (aQ 288 1 1 1 h0) fun i0=>
 aa pg T S (aX 286 i0) fun j0=>
 aa pg T S (dx 286 6 j0 Q) fun k0=>
 aa pg T S (gL 337 6 k0) fun l0=>
 un (aJ (ad g0)) fun m0=>
 bz (aB (af (ad g0))==6) (bz (aT (af (ad g0)) one) (un (aJ (ad l0)) fun n0=>
 bz (aB (af (ad l0))==6) (bz (aT (af (ad l0)) one) ((bz (ez m0) (bz (ez n0) (un (eQ m0 0 3) fun o0=>
 un (eQ n0 0 3) fun q0=>
 aa pg T S (aI .neq 35 (.tmp 73) (.tmp 75) o0 q0) fun r0=>
 un (eQ m0 3 3) fun s0=>
 un (aL r0 false s0) fun t0=>
 un (eQ n0 3 3) fun v0=>
 un (aL r0 false v0) fun y0=>
 jn (fun (z0:Value) (A0:World) (C0:XS)=>
 aF pg C0 A0 r0 false (vS (aY bF z0)) fun D0=>
 ay pg C0 A0 (aN r0 (B true) D0) fun E0=>
 (ao E0
 (fin R C0 A0 (B false))
 (((aa pg C0 A0 (binOp .add 3 Q (I 1)) fun F0=>
 jC N O F0 A0 C0))))) fun G0=>
 (gE r0 false (eC pg R T S true 25 #[t0,y0] G0) (G0 undef S T)))))))))))
 ((((aa pg T S (binOp .add 3 g (I 1)) fun H0=>
 lr d e H0 Q S T)))))))))))
 (fin R i h (B true))))))))
def yM (p0 p1:Value):Prop:=
 (aa pg X0 w0 (cr 44 3 p0) fun a=>
 aa pg X0 w0 (cr 44 3 p1) fun b=>
 aa pg X0 w0 (aI .neq 3 (.tmp 7) (.tmp 9) a b) fun c=>
 (ao c
 (fin R X0 w0 (B false))
 (((jB X0 w0 (I 0) 5 fun d e g h i=>
 aa pg i h (cr 44 3 p0) fun j=>
 aa pg i h (binOp .lss 3 g j) fun k=>
 (ao k
 ((aa pg i h (dx 44 8 p0 g) fun l=>
 aa pg i h (gL 229 8 l) fun m=>
 aa pg i h (dx 44 8 p1 g) fun n=>
 aa pg i h (gL 229 8 n) fun o=>
 eC pg R i h true 254 #[m,o] fun q r s=>
 aa pg s r (aY bF q) fun t=>
 (ao t
 (fin R s r (B false))
 (((aa pg s r (binOp .add 3 g (I 1)) fun v=>
 jC d e v r s))))))
 (fin R i h (B true))))))))
def IL (p0:Value):Prop:=
 (aa pg X0 w0 (dx 95 1 p0 (I 0)) fun a=>
 aa pg X0 w0 (aX 5 a) fun b=>
 aa pg X0 w0 (mO fv 5 281 b) fun c=>
 aa pg X0 w0 (dx 95 1 p0 (I 1)) fun d=>
 aa pg X0 w0 (aX 5 d) fun e=>
 aa pg X0 w0 (mO fv 5 281 e) fun g=>
 aa pg X0 w0 (binOp .shl 281 g (aA bc 8)) fun h=>
 aa pg X0 w0 (binOp .or 281 c h) fun i=>
 aa pg X0 w0 (dx 95 1 p0 (I 2)) fun j=>
 aa pg X0 w0 (aX 5 j) fun k=>
 aa pg X0 w0 (mO fv 5 281 k) fun l=>
 aa pg X0 w0 (binOp .shl 281 l (aA bc 16)) fun m=>
 aa pg X0 w0 (binOp .or 281 i m) fun n=>
 aa pg X0 w0 (dx 95 1 p0 (I 3)) fun o=>
 aa pg X0 w0 (aX 5 o) fun q=>
 aa pg X0 w0 (mO fv 5 281 q) fun r=>
 aa pg X0 w0 (binOp .shl 281 r (aA bc 24)) fun s=>
 aa pg X0 w0 (binOp .or 281 n s) fun t=>
 (fin R X0 w0 t))
def IM (p0:Value):Prop:=
 ((aa pg X0 w0 (cr 95 3 p0) fun a=>
 aa pg X0 w0 (binOp .lss 3 a (I 64)) fun b=>
 (ao b
 (aa pg X0 w0 (cr 95 3 p0) fun c=>
 (wK X0 w0 (I 0) undef (aA fv 4294967295) 14 22 3 fun d e g _ h i j=>
 aa pg j i (binOp .lss 3 g c) fun k=>
 (ao k
 ((aa pg j i (dx 95 1 p0 g) fun l=>
 aa pg j i (aX 5 l) fun m=>
 (aa pg j i (mO fv 5 281 m) fun n=>
 aa pg j i (binOp .xor 281 h n) fun o=>
 ((lq j i (I 0) o 22 3 fun q r s t v y=>
 aa pg y v (binOp .lss 3 s (I 8)) fun z=>
 (ao z
 ((aa pg y v (binOp .shr 281 t (aA bc 1)) fun A=>
 aa pg y v (binOp .and 281 t (aA fv 1)) fun C=>
 aa pg y v (aY UnOp.neg C) fun D=>
 aa pg y v (binOp .and 281 (aA fv 2197175160) D) fun E=>
 aa pg y v (binOp .xor 281 A E) fun F=>
 ((aa pg y v (binOp .add 3 s (I 1)) fun G=>
 lr q r G F v y))))
 ((((aa pg y v (binOp .add 3 g (I 1)) fun H=>
 wL d e H s t v y))))))))))
 (aa pg j i (aY tS h) fun L=>
 (fin R j i L)))))
 ((eC pg R X0 w0 true 287 #[] fun M N O=>
 eV pg R O N true (g7 353 true (az #[])) fun Q S T=>
 eU pg R T S true (eo 353 256 Q M) fun _ U V=>
 (aa pg V U (cr 95 3 p0) fun Y=>
 (lq V U (I 0) (aA fv 4294967295) 38 3 fun Z a0 b0 c0 d0 e0=>
 aa pg e0 d0 (binOp .lss 3 b0 Y) fun g0=>
 (ao g0
 ((aa pg e0 d0 (dx 95 1 p0 b0) fun h0=>
 aa pg e0 d0 (aX 5 h0) fun i0=>
 (aa pg e0 d0 (binOp .shr 281 c0 (aA bc 8)) fun j0=>
 aa pg e0 d0 (mO cN 281 5 c0) fun k0=>
 aa pg e0 d0 (binOp .xor 5 k0 i0) fun l0=>
 aa pg e0 d0 (Instr.indexAt 353 Q l0) fun m0=>
 aa pg e0 d0 (aX 281 m0) fun n0=>
 aa pg e0 d0 (binOp .xor 281 j0 n0) fun o0=>
 ((aa pg e0 d0 (binOp .add 3 b0 (I 1)) fun q0=>
 lr Z a0 q0 o0 d0 e0)))))
 (aa pg e0 d0 (aY tS c0) fun r0=>
 (fin R e0 d0 r0))))))))))
noncomputable def Dz:bI:=⟨9,[],[],[0,1],[],[]⟩
def vJ (c0 c1:Value):Prop:=
 aa pg X0 w0 (aX 26 c0) fun a=>
 ay pg X0 w0 (aH a) fun b=>
 aa pg X0 w0 (aQ 106 0 0 1 b) fun c=>
 aa pg X0 w0 (aX 104 c) fun d=>
 aa pg X0 w0 (aX 9 c1) fun e=>
 aa pg X0 w0 (fF 141 #[(.slice none 0 0),(I 0)] #[]) fun g=>
 eV pg R X0 w0 false (de 141 g) fun h i j=>
 eU pg R j i true (gJ 104 d e h) fun _ k l=>
 fin R l k (az #[])
noncomputable def HH:bI:=⟨43,[],[],[0,1,2,3],[],[]⟩
def yN (c0 c1 c2:Value):Prop:=
 aa pg X0 w0 (aX 26 c0) fun a=>
 ay pg X0 w0 (aH a) fun b=>
 aa pg X0 w0 (aQ 106 0 0 1 b) fun c=>
 aa pg X0 w0 (aX 104 c) fun d=>
 aa pg X0 w0 (aX 9 c1) fun e=>
 aa pg X0 w0 (ek 104 d e false) fun g=>
 (aa pg X0 w0 (aX 26 c0) fun h=>
 ay pg X0 w0 (aH h) fun i=>
 aa pg X0 w0 (aQ 106 1 1 1 i) fun j=>
 aa pg X0 w0 (aX 3 j) fun k=>
 ay pg X0 w0 (aH g) fun l=>
 aa pg X0 w0 (aQ 141 0 0 1 l) fun m=>
 aa pg X0 w0 (aX 95 m) fun n=>
 aa pg X0 w0 (cr 95 3 n) fun o=>
 aa pg X0 w0 (aX 3 c2) fun q=>
 aa pg X0 w0 (binOp .sub 3 o q) fun r=>
 aa pg X0 w0 (binOp .sub 3 k r) fun s=>
 ay pg X0 w0 (aH h) fun t=>
 aa pg X0 w0 (aQ 106 1 1 1 t) fun v=>
 eU pg R X0 w0 true (eo 3 1 v s) fun _ y z=>
 (ay pg z y (aH g) fun A=>
 aa pg z y (aQ 141 0 0 1 A) fun C=>
 aa pg z y (aX 95 C) fun D=>
 aa pg z y (aX 3 c2) fun E=>
 aa pg z y (aX 3 c2) fun F=>
 aa pg z y (Instr.sliceAt 95 D none (some E) (some F)) fun G=>
 ay pg z y (aH g) fun H=>
 aa pg z y (aQ 141 0 0 1 H) fun L=>
 eU pg R z y true (eo 95 1 L G) fun _ M N=>
 (ay pg N M (aH g) fun O=>
 aa pg N M (aQ 141 1 1 1 O) fun Q=>
 aa pg N M (aX 3 Q) fun S=>
 aa pg N M (aX 3 c2) fun T=>
 aa pg N M (Builtin.min_ #[3,3] 3 #[S,T]) fun U=>
 ay pg N M (aH g) fun V=>
 aa pg N M (aQ 141 1 1 1 V) fun Y=>
 eU pg R N M true (eo 3 1 Y U) fun _ Z a0=>
 fin R a0 Z (az #[]))))
noncomputable def IN:bI:=⟨39,[],[],[0,1,4,9,13],[],[4]⟩
def zU (p0:Value) (p1:Int):Prop:=
 aa pg X0 w0 (mO bc 3 196 (I p1)) fun a=>
 aa pg X0 w0 (binOp .shl 196 a (aA bc 1)) fun b=>
 ((jn (fun (c:Value)=>
 jB X0 w0 c 4 fun d e g h i=>
 aa pg i h (binOp .geq 196 g (aA bc 128)) fun j=>
 (ao j
 ((ay pg i h (aH p0) fun k=>
 aa pg i h (aQ 308 0 0 1 k) fun l=>
 aa pg i h (aX 95 l) fun m=>
 aa pg i h (mO cN 196 5 g) fun n=>
 aa pg i h (binOp .or 5 n (aA cN 128)) fun o=>
 eV pg R i h true (jc 95 5 1 1 #[(0,o)]) fun q r s=>
 eV pg R s r true (iS 95 5 1 1 95 m q) fun t v y=>
 ay pg y v (aH p0) fun z=>
 aa pg y v (aQ 308 0 0 1 z) fun A=>
 eU pg R y v true (eo 95 1 A t) fun _ C D=>
 (aa pg D C (binOp .shr 196 g (aA bc 7)) fun E=>
 (jC d e E C D))))
 (((ay pg i h (aH p0) fun F=>
 aa pg i h (aQ 308 0 0 1 F) fun G=>
 aa pg i h (aX 95 G) fun H=>
 aa pg i h (mO cN 196 5 g) fun L=>
 eV pg R i h true (jc 95 5 1 1 #[(0,L)]) fun M N O=>
 eV pg R O N true (iS 95 5 1 1 95 H M) fun Q S T=>
 ay pg T S (aH p0) fun U=>
 aa pg T S (aQ 308 0 0 1 U) fun V=>
 eU pg R T S true (eo 95 1 V Q) fun _ Y Z=>
 fin R Z Y (az #[])))))) fun a0=>
 aa pg X0 w0 (binOp .lss 3 (I p1) (I 0)) fun b0=>
 (ao b0
 (aa pg X0 w0 (aY tS b) fun c0=>
 (a0 c0))
 (a0 b))))
def zV (p0:Value):Prop:=
 (ay pg X0 w0 (aH p0) fun a=>
 aa pg X0 w0 (aQ 223 2 2 1 a) fun b=>
 aa pg X0 w0 (aX 29 b) fun c=>
 aa pg X0 w0 (aI .neq 29 (.tmp 9) (.const (I 0)) c (I 0)) fun d=>
 (ao d
 (fin R X0 w0 (I 0))
 ((ay pg X0 w0 (aH p0) fun e=>
 aa pg X0 w0 (aQ 223 1 1 1 e) fun g=>
 aa pg X0 w0 (aX 3 g) fun h=>
 eC pg R X0 w0 true 288 #[p0,h] fun i j k=>
 aa pg k j (aE i 0) fun l=>
 aa pg k j (aE i 1) fun m=>
 aa pg k j (aE i 2) fun n=>
 ((jn (fun (o:World) (q:XS)=>
 (fin R q o l)) fun r=>
 (ao n
 (ay pg k j (aH p0) fun s=>
 aa pg k j (aQ 223 1 1 1 s) fun t=>
 eU pg R k j true (eo 3 1 t m) fun _ v y=>
 (r v y))
 (r j k))))))))
def yO (p0:Value):Prop:=
 ay pg X0 w0 (aH p0) fun a=>
 aa pg X0 w0 (aQ 175 1 1 1 a) fun b=>
 aa pg X0 w0 (aX 169 b) fun c=>
 eC pg R X0 w0 true 154 #[c] fun d e g=>
 aa pg g e (aE d 0) fun h=>
 aa pg g e (aE d 1) fun _=>
 (aa pg g e (aI .neq 29 (.tmp 12) (.const (I 0)) h (I 0)) fun i=>
 (ao i
 (aa pg g e (fF 168 #[] #[]) fun j=>
 aa pg g e (Instr.makeInterface 168 j) fun k=>
 eV pg R g e true (Instr.panic k) fun _ l m=>
 fin R m l (az #[]))
 (fin R g e (az #[]))))
def xQ (p0 p1:Value):Prop:=
 ay pg X0 w0 (aH p1) fun a=>
 aa pg X0 w0 (aQ 42 0 0 1 a) fun b=>
 eC pg R X0 w0 true 142 #[p0,b] fun _ c d=>
 (ay pg d c (aH p1) fun e=>
 aa pg d c (aQ 42 1 1 1 e) fun g=>
 eC pg R d c true 142 #[p0,g] fun _ h i=>
 (ay pg i h (aH p1) fun j=>
 aa pg i h (aQ 42 2 2 1 j) fun k=>
 eC pg R i h true 149 #[p0,k] fun _ l m=>
 (ay pg m l (aH p1) fun n=>
 aa pg m l (aQ 42 3 3 1 n) fun o=>
 eC pg R m l true 149 #[p0,o] fun _ q r=>
 fin R r q (az #[]))))
def tg (p0 p1 p2:Value):Prop:=
 ay pg X0 w0 (aH p1) fun a=>
 aa pg X0 w0 (aX 43 a) fun b=>
 aa pg X0 w0 (cr 43 3 b) fun c=>
 ((jn (fun (d:Value) (e:World) (g:XS)=>
 (jB g e (I 0) 39 fun h i j k l=>
 aa pg l k (binOp .lss 3 j d) fun m=>
 (ao m
 ((((jn (fun (n:World) (o:XS)=>
 ay pg o n (aH p1) fun q=>
 aa pg o n (aX 43 q) fun r=>
 aa pg o n (dx 43 2 r j) fun s=>
 eF pg R o n true p2 #[s] fun _ t v=>
 ((aa pg v t (binOp .add 3 j (I 1)) fun y=>
 jC h i y t v))) fun z=>
 ay pg l k (aH p0) fun A=>
 aa pg l k (aQ 175 0 0 1 A) fun C=>
 aa pg l k (aX 173 C) fun D=>
 aa pg l k (aI .eql 173 (.tmp 45) (.const (.pointer none)) D (.pointer none)) fun E=>
 (ao E
 ((ay pg l k (aH p1) fun F=>
 aa pg l k (aX 43 F) fun G=>
 eV pg R l k false (jc 43 288 2 1 #[(0,(.agg #[(.string { data:= #[] }),(.slice none 0 0)]))]) fun H L M=>
 eV pg R M L true (iS 43 288 2 40 43 G H) fun N O Q=>
 ay pg Q O (aH p1) fun S=>
 eU pg R Q O true (eo 43 1 S N) fun _ T U=>
 (z T U)))
 (z k l))))))
 (fin R l k (az #[]))))) fun V=>
 ay pg X0 w0 (aH p0) fun Y=>
 aa pg X0 w0 (aQ 175 0 0 1 Y) fun Z=>
 aa pg X0 w0 (aX 173 Z) fun a0=>
 aa pg X0 w0 (aI .neq 173 (.tmp 16) (.const (.pointer none)) a0 (.pointer none)) fun b0=>
 (ao b0
 (ay pg X0 w0 (aH p0) fun c0=>
 aa pg X0 w0 (aQ 175 0 0 1 c0) fun d0=>
 aa pg X0 w0 (aX 173 d0) fun e0=>
 eC pg R X0 w0 true 206 #[e0,c] fun _ g0 h0=>
 (V c g0 h0))
 (ay pg X0 w0 (aH p0) fun i0=>
 aa pg X0 w0 (aQ 175 1 1 1 i0) fun j0=>
 aa pg X0 w0 (aX 169 j0) fun k0=>
 ay pg X0 w0 (aH p0) fun l0=>
 aa pg X0 w0 (aQ 175 1 1 1 l0) fun m0=>
 aa pg X0 w0 (aX 169 m0) fun n0=>
 eC pg R X0 w0 false 216 #[n0] fun o0 q0 r0=>
 eC pg R r0 q0 true 215 #[k0,o0] fun s0 t0 v0=>
 (eC pg R v0 t0 true 208 #[p0] fun _ y0 z0=>
 (ay pg z0 y0 (aH p1) fun A0=>
 eU pg R z0 y0 true (eo 43 1 A0 (.slice none 0 0)) fun _ C0 D0=>
 (V s0 C0 D0)))))))
def vK (p0 p1:Value):Prop:=
 ay pg X0 w0 (aH p1) fun a=>
 aa pg X0 w0 (aQ 288 0 0 1 a) fun b=>
 eC pg R X0 w0 true 214 #[p0,b] fun _ c d=>
 (ay pg d c (aH p1) fun e=>
 aa pg d c (aQ 288 1 1 1 e) fun g=>
 aa pg d c (cE (gD 290) #[p0] #[]) fun h=>
 eC pg R d c true 289 #[p0,g,h] fun _ i j=>
 fin R j i (az #[]))
def th (p0 p1 p2:Value):Prop:=
 ay pg X0 w0 (aH p1) fun a=>
 aa pg X0 w0 (aX 44 a) fun b=>
 aa pg X0 w0 (cr 44 3 b) fun c=>
 ((jn (fun (d:Value) (e:World) (g:XS)=>
 (jB g e (I 0) 39 fun h i j k l=>
 aa pg l k (binOp .lss 3 j d) fun m=>
 (ao m
 ((((jn (fun (n:World) (o:XS)=>
 ay pg o n (aH p1) fun q=>
 aa pg o n (aX 44 q) fun r=>
 aa pg o n (dx 44 8 r j) fun s=>
 eF pg R o n true p2 #[s] fun _ t v=>
 ((aa pg v t (binOp .add 3 j (I 1)) fun y=>
 jC h i y t v))) fun z=>
 ay pg l k (aH p0) fun A=>
 aa pg l k (aQ 175 0 0 1 A) fun C=>
 aa pg l k (aX 173 C) fun D=>
 aa pg l k (aI .eql 173 (.tmp 45) (.const (.pointer none)) D (.pointer none)) fun E=>
 (ao E
 ((ay pg l k (aH p1) fun F=>
 aa pg l k (aX 44 F) fun G=>
 eV pg R l k false (jc 44 229 8 1 #[(0,(.agg #[(I 0),(I 0),(I 0),(I 0),(I 0),(I 0),(.slice none 0 0),(.slice none 0 0)]))]) fun H L M=>
 eV pg R M L true (iS 44 229 8 96 44 G H) fun N O Q=>
 ay pg Q O (aH p1) fun S=>
 eU pg R Q O true (eo 44 1 S N) fun _ T U=>
 (z T U)))
 (z k l))))))
 (fin R l k (az #[]))))) fun V=>
 ay pg X0 w0 (aH p0) fun Y=>
 aa pg X0 w0 (aQ 175 0 0 1 Y) fun Z=>
 aa pg X0 w0 (aX 173 Z) fun a0=>
 aa pg X0 w0 (aI .neq 173 (.tmp 16) (.const (.pointer none)) a0 (.pointer none)) fun b0=>
 (ao b0
 (ay pg X0 w0 (aH p0) fun c0=>
 aa pg X0 w0 (aQ 175 0 0 1 c0) fun d0=>
 aa pg X0 w0 (aX 173 d0) fun e0=>
 eC pg R X0 w0 true 206 #[e0,c] fun _ g0 h0=>
 (V c g0 h0))
 (ay pg X0 w0 (aH p0) fun i0=>
 aa pg X0 w0 (aQ 175 1 1 1 i0) fun j0=>
 aa pg X0 w0 (aX 169 j0) fun k0=>
 ay pg X0 w0 (aH p0) fun l0=>
 aa pg X0 w0 (aQ 175 1 1 1 l0) fun m0=>
 aa pg X0 w0 (aX 169 m0) fun n0=>
 eC pg R X0 w0 false 216 #[n0] fun o0 q0 r0=>
 eC pg R r0 q0 true 215 #[k0,o0] fun s0 t0 v0=>
 (eC pg R v0 t0 true 208 #[p0] fun _ y0 z0=>
 (ay pg z0 y0 (aH p1) fun A0=>
 eU pg R z0 y0 true (eo 44 1 A0 (.slice none 0 0)) fun _ C0 D0=>
 (V s0 C0 D0)))))))
def xR (p0 p1 p2:Value):Prop:=
 ay pg X0 w0 (aH p1) fun a=>
 aa pg X0 w0 (aX 36 a) fun b=>
 aa pg X0 w0 (cr 36 3 b) fun c=>
 ((jn (fun (d:Value) (e:World) (g:XS)=>
 (jB g e (I 0) 39 fun h i j k l=>
 aa pg l k (binOp .lss 3 j d) fun m=>
 (ao m
 ((((jn (fun (n:World) (o:XS)=>
 ay pg o n (aH p1) fun q=>
 aa pg o n (aX 36 q) fun r=>
 aa pg o n (dx 36 1 r j) fun s=>
 eF pg R o n true p2 #[s] fun _ t v=>
 ((aa pg v t (binOp .add 3 j (I 1)) fun y=>
 jC h i y t v))) fun z=>
 ay pg l k (aH p0) fun A=>
 aa pg l k (aQ 175 0 0 1 A) fun C=>
 aa pg l k (aX 173 C) fun D=>
 aa pg l k (aI .eql 173 (.tmp 45) (.const (.pointer none)) D (.pointer none)) fun E=>
 (ao E
 ((ay pg l k (aH p1) fun F=>
 aa pg l k (aX 36 F) fun G=>
 eV pg R l k true (jc 36 9 1 1 #[(0,(.string { data:= #[] }))]) fun H L M=>
 eV pg R M L true (iS 36 9 1 16 36 G H) fun N O Q=>
 ay pg Q O (aH p1) fun S=>
 eU pg R Q O true (eo 36 1 S N) fun _ T U=>
 (z T U)))
 (z k l))))))
 (fin R l k (az #[]))))) fun V=>
 ay pg X0 w0 (aH p0) fun Y=>
 aa pg X0 w0 (aQ 175 0 0 1 Y) fun Z=>
 aa pg X0 w0 (aX 173 Z) fun a0=>
 aa pg X0 w0 (aI .neq 173 (.tmp 16) (.const (.pointer none)) a0 (.pointer none)) fun b0=>
 (ao b0
 (ay pg X0 w0 (aH p0) fun c0=>
 aa pg X0 w0 (aQ 175 0 0 1 c0) fun d0=>
 aa pg X0 w0 (aX 173 d0) fun e0=>
 eC pg R X0 w0 true 206 #[e0,c] fun _ g0 h0=>
 (V c g0 h0))
 (ay pg X0 w0 (aH p0) fun i0=>
 aa pg X0 w0 (aQ 175 1 1 1 i0) fun j0=>
 aa pg X0 w0 (aX 169 j0) fun k0=>
 ay pg X0 w0 (aH p0) fun l0=>
 aa pg X0 w0 (aQ 175 1 1 1 l0) fun m0=>
 aa pg X0 w0 (aX 169 m0) fun n0=>
 eC pg R X0 w0 false 216 #[n0] fun o0 q0 r0=>
 eC pg R r0 q0 true 215 #[k0,o0] fun s0 t0 v0=>
 (eC pg R v0 t0 true 208 #[p0] fun _ y0 z0=>
 (ay pg z0 y0 (aH p1) fun A0=>
 eU pg R z0 y0 true (eo 36 1 A0 (.slice none 0 0)) fun _ C0 D0=>
 (V s0 C0 D0)))))))
def sW (p0 p1:Value):Prop:=
 ay pg X0 w0 (aH p0) fun a=>
 aa pg X0 w0 (aQ 175 0 0 1 a) fun b=>
 aa pg X0 w0 (aX 173 b) fun c=>
 aa pg X0 w0 (aI .neq 173 (.tmp 7) (.const (.pointer none)) c (.pointer none)) fun d=>
 (ao d
 (ay pg X0 w0 (aH p0) fun e=>
 aa pg X0 w0 (aQ 175 0 0 1 e) fun g=>
 aa pg X0 w0 (aX 173 g) fun h=>
 ay pg X0 w0 (aH p1) fun i=>
 aa pg X0 w0 (aX 9 i) fun j=>
 eC pg R X0 w0 true 291 #[h,j] fun _ k l=>
 (fin R l k (az #[])))
 ((ay pg X0 w0 (aH p0) fun m=>
 aa pg X0 w0 (aQ 175 1 1 1 m) fun n=>
 aa pg X0 w0 (aX 169 n) fun o=>
 eC pg R X0 w0 true 292 #[o,(I 262144)] fun q r s=>
 ay pg s r (aH p1) fun t=>
 eU pg R s r true (eo 9 1 t q) fun _ v y=>
 (eC pg R y v true 208 #[p0] fun _ z A=>
 fin R A z (az #[])))))
noncomputable def FC:bI:=⟨26,[],[],[0,1,4,5,6,7,12,20],[],[]⟩
def xS (p0:Value) (p1:Int):Prop:=
 (ay pg X0 w0 (aH p0) fun a=>
 aa pg X0 w0 (aQ 223 2 2 1 a) fun b=>
 aa pg X0 w0 (aX 29 b) fun c=>
 aa pg X0 w0 (aI .neq 29 (.tmp 11) (.const (I 0)) c (I 0)) fun d=>
 (ao d
 (fin R X0 w0 (I 0))
 ((eC pg R X0 w0 true 293 #[p0,(I p1),(I 3)] fun e g h=>
 aa pg h g (aE e 0) fun i=>
 aa pg h g (aE e 1) fun j=>
 aa pg h g (aE e 2) fun k=>
 ((jn (fun (l:World) (m:XS)=>
 (fin R m l i)) fun n=>
 (ao k
 (ay pg h g (aH p0) fun o=>
 aa pg h g (aQ 223 1 1 1 o) fun q=>
 eU pg R h g true (eo 3 1 q j) fun _ r s=>
 (n r s))
 (n g h))))))))
def yP (p0:Value):Prop:=
 (ay pg X0 w0 (aH p0) fun a=>
 aa pg X0 w0 (aQ 223 2 2 1 a) fun b=>
 aa pg X0 w0 (aX 29 b) fun c=>
 aa pg X0 w0 (aI .neq 29 (.tmp 6) (.const (I 0)) c (I 0)) fun d=>
 (ao d
 (fin R X0 w0 (I 0))
 (ay pg X0 w0 (aH p0) fun e=>
 aa pg X0 w0 (aQ 223 0 0 1 e) fun g=>
 aa pg X0 w0 (aX 95 g) fun h=>
 aa pg X0 w0 (cr 95 3 h) fun i=>
 ay pg X0 w0 (aH p0) fun j=>
 aa pg X0 w0 (aQ 223 1 1 1 j) fun k=>
 aa pg X0 w0 (aX 3 k) fun l=>
 aa pg X0 w0 (binOp .sub 3 i l) fun m=>
 (fin R X0 w0 m))))
noncomputable def HI:bI:=⟨23,[],[],[0,1,4],[],[]⟩
def yQ (p0:Value) (p1:Bool):Prop:=
 (ao (B p1)
 (ay pg X0 w0 (aH p0) fun a=>
 aa pg X0 w0 (aQ 308 0 0 1 a) fun b=>
 aa pg X0 w0 (aX 95 b) fun c=>
 eV pg R X0 w0 true (jc 95 5 1 1 #[(0,(aA cN 1))]) fun d e g=>
 eV pg R g e true (iS 95 5 1 1 95 c d) fun h i j=>
 ay pg j i (aH p0) fun k=>
 aa pg j i (aQ 308 0 0 1 k) fun l=>
 eU pg R j i true (eo 95 1 l h) fun _ m n=>
 (fin R n m (az #[])))
 ((ay pg X0 w0 (aH p0) fun o=>
 aa pg X0 w0 (aQ 308 0 0 1 o) fun q=>
 aa pg X0 w0 (aX 95 q) fun r=>
 eV pg R X0 w0 true (jc 95 5 1 1 #[(0,(aA cN 0))]) fun s t v=>
 eV pg R v t true (iS 95 5 1 1 95 r s) fun y z A=>
 ay pg A z (aH p0) fun C=>
 aa pg A z (aQ 308 0 0 1 C) fun D=>
 eU pg R A z true (eo 95 1 D y) fun _ E F=>
 fin R F E (az #[]))))
noncomputable def FE:bI:=⟨23,[],[],[0,1,4,7,8],[],[4,7]⟩
def xT (p0:Value) (p1:Nat):Prop:=
 eC pg R X0 w0 true 225 #[(.float .f64 p1)] fun a b c=>
 ((lq c b (I 0) a 7 4 fun d e g h i j=>
 aa pg j i (binOp .lss 3 g (I 8)) fun k=>
 (ao k
 ((ay pg j i (aH p0) fun l=>
 aa pg j i (aQ 308 0 0 1 l) fun m=>
 aa pg j i (aX 95 m) fun n=>
 aa pg j i (mO cN 196 5 h) fun o=>
 eV pg R j i true (jc 95 5 1 1 #[(0,o)]) fun q r s=>
 eV pg R s r true (iS 95 5 1 1 95 n q) fun t v y=>
 ay pg y v (aH p0) fun z=>
 aa pg y v (aQ 308 0 0 1 z) fun A=>
 eU pg R y v true (eo 95 1 A t) fun _ C D=>
 (aa pg D C (binOp .shr 196 h (aA bc 8)) fun E=>
 ((aa pg D C (binOp .add 3 g (I 1)) fun F=>
 lr d e F E C D)))))
 (fin R j i (az #[])))))
def xU (p0:Value):Prop:=
 (ay pg X0 w0 (aH p0) fun a=>
 aa pg X0 w0 (aQ 223 2 2 1 a) fun b=>
 aa pg X0 w0 (aX 29 b) fun c=>
 aa pg X0 w0 (aI .neq 29 (.tmp 9) (.const (I 0)) c (I 0)) fun d=>
 (ao d
 (fin R X0 w0 (.float .f64 0))
 ((ay pg X0 w0 (aH p0) fun e=>
 aa pg X0 w0 (aQ 223 0 0 1 e) fun g=>
 aa pg X0 w0 (aX 95 g) fun h=>
 aa pg X0 w0 (cr 95 3 h) fun i=>
 ay pg X0 w0 (aH p0) fun j=>
 aa pg X0 w0 (aQ 223 1 1 1 j) fun k=>
 aa pg X0 w0 (aX 3 k) fun l=>
 aa pg X0 w0 (binOp .sub 3 i l) fun m=>
 aa pg X0 w0 (binOp .lss 3 m (I 8)) fun n=>
 (ao n
 (ay pg X0 w0 (aH p0) fun o=>
 aa pg X0 w0 (aQ 223 0 0 1 o) fun q=>
 aa pg X0 w0 (aX 95 q) fun r=>
 aa pg X0 w0 (cr 95 3 r) fun s=>
 eC pg R X0 w0 true 294 #[p0,(I 5),s] fun _ t v=>
 (fin R v t (.float .f64 0)))
 ((((lq X0 w0 (I 7) (aA bc 0) 4 3 fun y z A C D E=>
 aa pg E D (binOp .geq 3 A (I 0)) fun F=>
 (ao F
 ((aa pg E D (binOp .shl 196 C (aA bc 8)) fun G=>
 ay pg E D (aH p0) fun H=>
 aa pg E D (aQ 223 0 0 1 H) fun L=>
 aa pg E D (aX 95 L) fun M=>
 ay pg E D (aH p0) fun N=>
 aa pg E D (aQ 223 1 1 1 N) fun O=>
 aa pg E D (aX 3 O) fun Q=>
 aa pg E D (binOp .add 3 Q A) fun S=>
 aa pg E D (dx 95 1 M S) fun T=>
 aa pg E D (aX 5 T) fun U=>
 aa pg E D (mO bc 5 196 U) fun V=>
 aa pg E D (binOp .or 196 G V) fun Y=>
 ((aa pg E D (binOp .sub 3 A (I 1)) fun Z=>
 lr y z Z Y D E))))
 (((eC pg R E D true 295 #[C] fun a0 b0 c0=>
 (eC pg R c0 b0 true 225 #[a0] fun d0 e0 g0=>
 aa pg g0 e0 (aI .neq 196 (.tmp 52) (.tmp 53) d0 C) fun h0=>
 (ao h0
 (ay pg g0 e0 (aH p0) fun i0=>
 aa pg g0 e0 (aQ 223 1 1 1 i0) fun j0=>
 aa pg g0 e0 (aX 3 j0) fun k0=>
 eC pg R g0 e0 true 294 #[p0,(I 4),k0] fun _ l0 m0=>
 (fin R m0 l0 (.float .f64 0)))
 ((ay pg g0 e0 (aH p0) fun n0=>
 aa pg g0 e0 (aQ 223 1 1 1 n0) fun o0=>
 aa pg g0 e0 (aX 3 o0) fun q0=>
 aa pg g0 e0 (binOp .add 3 q0 (I 8)) fun r0=>
 ay pg g0 e0 (aH p0) fun s0=>
 aa pg g0 e0 (aQ 223 1 1 1 s0) fun t0=>
 eU pg R g0 e0 true (eo 3 1 t0 r0) fun _ v0 y0=>
 (fin R y0 v0 a0))))))))))))))))))
def r6 (p0 p1:Value):Prop:=
 ay pg X0 w0 (aH p0) fun a=>
 aa pg X0 w0 (aQ 175 0 0 1 a) fun b=>
 aa pg X0 w0 (aX 173 b) fun c=>
 aa pg X0 w0 (aI .neq 173 (.tmp 7) (.const (.pointer none)) c (.pointer none)) fun d=>
 (ao d
 (ay pg X0 w0 (aH p0) fun e=>
 aa pg X0 w0 (aQ 175 0 0 1 e) fun g=>
 aa pg X0 w0 (aX 173 g) fun h=>
 ay pg X0 w0 (aH p1) fun i=>
 aa pg X0 w0 (gL 51 3 i) fun j=>
 eC pg R X0 w0 true 296 #[h,j] fun _ k l=>
 (fin R l k (az #[])))
 ((ay pg X0 w0 (aH p0) fun m=>
 aa pg X0 w0 (aQ 175 1 1 1 m) fun n=>
 aa pg X0 w0 (aX 169 n) fun o=>
 eC pg R X0 w0 true 297 #[o] fun q r s=>
 ay pg s r (aH p1) fun t=>
 eU pg R s r true (eo 51 3 t q) fun _ v y=>
 (eC pg R y v true 208 #[p0] fun _ z A=>
 fin R A z (az #[])))))
noncomputable def NR:bI:=⟨68,[(1,(pg.cellsOf 117)),(2,(pg.cellsOf 117))],[4,10,15,20,21,22,23,24,29,30,31,35,39,40,41,46,47,48,52,58,59,60,61,65,66],[0,3,5,7,11,16,25,32,36,42,49,53,62],[],[]⟩
def CY (bf bB bD bT cm cn cq cy dp cQ:Int) (bX:Bool) (bV:Int) (dq:Nat) (cZ cW cX da:Value) (dc cG:Int) (cC cH:Nat) (cI cJ cY cK cR cS:Int) (cT cU:Value):Prop:=
 (((jn (fun (a:Value)=>
 (bz (ez a) (un (eQ a 0 29) fun b=>
 un (aJ (ad b)) fun c=>
 bz (aB (af (ad b))==29) (bz (aT (af (ad b)) one) ((un (eQ c 0 29) fun d=>
 bz (aT [c] ez) (fin R X0 w0 (az #[d,(B true)])))))))) fun e=>
 aa pg X0 w0 (aI .eql 3 (.tmp 5) (.const (I 1)) (I bf) (I 1)) fun g=>
 (ao g
 (aa pg X0 w0 (fF 46 #[(I 0),(I 0),(.float .f64 0),(.float .f64 0),(I 0),(I 0),(I 0),(I 0),(I 0),(I 0),(.slice none 0 0),(.slice none 0 0)] #[]) fun h=>
 un (aJ (bb (cd [(I bf),(I bB),(I bD),(I bT),(I cm),(I cn),(I cq),(I cy),(I dp),(I cQ),(B bX),(I bV),(.float .f64 dq),cZ,cW,cX,da,(I dc),(I cG),(.float .f64 cC),(.float .f64 cH),(I cI),(I cJ),(I cY),(I cK),(I cR),(I cS),cT,cU] 17 (af (ad h))))) fun i=>
 bz (aB (af (ad h))==12) (bz (aT (af (ad h)) one) (e i)))
 ((jn (fun (j:Value)=>
 ao j
 ((e (.agg #[(I bf),(I bB),(I bD),(I bT),(I cm),(I cn),(I cq),(I cy),(I dp),(I cQ),(B bX),(I 0),(.float .f64 dq),cZ,cW,cX,da,(I dc),(I cG),(.float .f64 cC),(.float .f64 cH),(I cI),(I cJ),(I cY),(I cK),(I cR),(I cS),cT,cU])))
 (aa pg X0 w0 (aI .eql 3 (.tmp 5) (.const (I 3)) (I bf) (I 3)) fun k=>
 (ao k
 (aa pg X0 w0 (fF 33 #[(I 0),(I 0),(I 0)] #[]) fun l=>
 aa pg X0 w0 (fF 35 #[(I 0),(I 0),(I 0)] #[]) fun m=>
 un (aJ (bb (cd [(I bf),(I bB),(I bD),(I bT),(I cm),(I cn),(I cq),(I cy),(I dp),(I cQ),(B bX),(I bV),(.float .f64 dq),cZ,cW,cX,da,(I dc),(I cG),(.float .f64 cC),(.float .f64 cH),(I cI),(I cJ),(I cY),(I cK),(I cR),(I cS),cT,cU] 1 (af (ad l))))) fun n=>
 bz (aB (af (ad l))==3) (bz (aT (af (ad l)) one) (un (aJ (bb (cd (af (ad n)) 4 (af (ad m))))) fun o=>
 bz (aB (af (ad m))==3) (bz (aT (af (ad m)) one) (un (aJ (bb (cd (af (ad o)) 13 [(.slice none 0 0)]))) fun q=>
 un (aJ (bb (cd (af (ad q)) 14 [(.slice none 0 0)]))) fun r=>
 un (aJ (bb (cd (af (ad r)) 15 [(.slice none 0 0)]))) fun s=>
 (e s))))))
 (aa pg X0 w0 (aI .eql 3 (.tmp 5) (.const (I 4)) (I bf) (I 4)) fun t=>
 (ao t
 (aa pg X0 w0 (fF 33 #[(I 0),(I 0),(I 0)] #[]) fun v=>
 aa pg X0 w0 (fF 35 #[(I 0),(I 0),(I 0)] #[]) fun y=>
 un (aJ (bb (cd [(I bf),(I bB),(I bD),(I bT),(I cm),(I cn),(I cq),(I cy),(I dp),(I cQ),(B bX),(I bV),(.float .f64 dq),cZ,cW,cX,da,(I dc),(I cG),(.float .f64 cC),(.float .f64 cH),(I cI),(I cJ),(I cY),(I cK),(I cR),(I cS),cT,cU] 1 (af (ad v))))) fun z=>
 bz (aB (af (ad v))==3) (bz (aT (af (ad v)) one) (un (aJ (bb (cd (af (ad z)) 10 [(B false)]))) fun A=>
 un (aJ (bb (cd (af (ad A)) 4 (af (ad y))))) fun C=>
 bz (aB (af (ad y))==3) (bz (aT (af (ad y)) one) (e C)))))
 (aa pg X0 w0 (aI .eql 3 (.tmp 5) (.const (I 5)) (I bf) (I 5)) fun D=>
 (ao D
 (aa pg X0 w0 (fF 35 #[(I 0),(I 0),(I 0)] #[]) fun E=>
 un (aJ (bb (cd [(I bf),(I bB),(I bD),(I bT),(I cm),(I cn),(I cq),(I cy),(I dp),(I cQ),(B bX),(I bV),(.float .f64 dq),cZ,cW,cX,da,(I dc),(I cG),(.float .f64 cC),(.float .f64 cH),(I cI),(I cJ),(I cY),(I cK),(I cR),(I cS),cT,cU] 4 (af (ad E))))) fun F=>
 bz (aB (af (ad E))==3) (bz (aT (af (ad E)) one) (e F)))
 (aa pg X0 w0 (aI .eql 3 (.tmp 5) (.const (I 6)) (I bf) (I 6)) fun G=>
 (ao G
 (aa pg X0 w0 (fF 35 #[(I 0),(I 0),(I 0)] #[]) fun H=>
 un (aJ (bb (cd [(I bf),(I bB),(I bD),(I bT),(I cm),(I cn),(I cq),(I cy),(I dp),(I cQ),(B bX),(I 0),(.float .f64 0),cZ,cW,cX,da,(I dc),(I cG),(.float .f64 cC),(.float .f64 cH),(I cI),(I cJ),(I cY),(I cK),(I cR),(I cS),cT,cU] 4 (af (ad H))))) fun L=>
 bz (aB (af (ad H))==3) (bz (aT (af (ad H)) one) (e L)))
 (aa pg X0 w0 (aI .eql 3 (.tmp 5) (.const (I 9)) (I bf) (I 9)) fun M=>
 (ao M
 (aa pg X0 w0 (fF 33 #[(I 0),(I 0),(I 0)] #[]) fun N=>
 aa pg X0 w0 (fF 35 #[(I 0),(I 0),(I 0)] #[]) fun O=>
 un (aJ (bb (cd [(I bf),(I bB),(I bD),(I bT),(I cm),(I cn),(I cq),(I cy),(I dp),(I cQ),(B bX),(I bV),(.float .f64 dq),cZ,cW,cX,da,(I dc),(I cG),(.float .f64 cC),(.float .f64 cH),(I cI),(I cJ),(I cY),(I cK),(I cR),(I cS),cT,cU] 1 (af (ad N))))) fun Q=>
 bz (aB (af (ad N))==3) (bz (aT (af (ad N)) one) (un (aJ (bb (cd (af (ad Q)) 4 (af (ad O))))) fun S=>
 bz (aB (af (ad O))==3) (bz (aT (af (ad O)) one) (un (aJ (bb (cd (af (ad S)) 15 [(.slice none 0 0)]))) fun T=>
 (e T))))))
 (aa pg X0 w0 (aI .eql 3 (.tmp 5) (.const (I 10)) (I bf) (I 10)) fun U=>
 (ao U
 (aa pg X0 w0 (fF 33 #[(I 0),(I 0),(I 0)] #[]) fun V=>
 un (aJ (bb (cd [(I bf),(I bB),(I bD),(I bT),(I cm),(I cn),(I cq),(I cy),(I dp),(I cQ),(B bX),(I bV),(.float .f64 dq),cZ,cW,cX,da,(I dc),(I cG),(.float .f64 cC),(.float .f64 cH),(I cI),(I cJ),(I cY),(I cK),(I cR),(I cS),cT,cU] 1 (af (ad V))))) fun Y=>
 bz (aB (af (ad V))==3) (bz (aT (af (ad V)) one) (e Y)))
 (aa pg X0 w0 (aI .eql 3 (.tmp 5) (.const (I 11)) (I bf) (I 11)) fun Z=>
 (ao Z
 (aa pg X0 w0 (fF 35 #[(I 0),(I 0),(I 0)] #[]) fun a0=>
 aa pg X0 w0 (fF 35 #[(I 0),(I 0),(I 0)] #[]) fun b0=>
 aa pg X0 w0 (fF 33 #[(I 0),(I 0),(I 0)] #[]) fun c0=>
 un (aJ (bb (cd [(I bf),(I bB),(I bD),(I bT),(I cm),(I cn),(I cq),(I cy),(I dp),(I cQ),(B bX),(I bV),(.float .f64 dq),cZ,cW,cX,da,(I dc),(I cG),(.float .f64 cC),(.float .f64 cH),(I cI),(I cJ),(I cY),(I cK),(I cR),(I cS),cT,cU] 7 (af (ad a0))))) fun d0=>
 bz (aB (af (ad a0))==3) (bz (aT (af (ad a0)) one) (un (aJ (bb (cd (af (ad d0)) 4 (af (ad b0))))) fun e0=>
 bz (aB (af (ad b0))==3) (bz (aT (af (ad b0)) one) (un (aJ (bb (cd (af (ad e0)) 1 (af (ad c0))))) fun g0=>
 bz (aB (af (ad c0))==3) (bz (aT (af (ad c0)) one) (un (aJ (bb (cd (af (ad g0)) 14 [(.slice none 0 0)]))) fun h0=>
 (e h0))))))))
 (aa pg X0 w0 (aI .eql 3 (.tmp 5) (.const (I 12)) (I bf) (I 12)) fun i0=>
 (ao i0
 (aa pg X0 w0 (fF 35 #[(I 0),(I 0),(I 0)] #[]) fun j0=>
 un (aJ (bb (cd [(I bf),(I bB),(I bD),(I bT),(I cm),(I cn),(I cq),(I cy),(I dp),(I cQ),(B bX),(I bV),(.float .f64 dq),cZ,cW,cX,da,(I dc),(I cG),(.float .f64 cC),(.float .f64 cH),(I cI),(I cJ),(I cY),(I cK),(I cR),(I cS),cT,cU] 4 (af (ad j0))))) fun k0=>
 bz (aB (af (ad j0))==3) (bz (aT (af (ad j0)) one) (un (aJ (bb (cd (af (ad k0)) 16 [(.slice none 0 0)]))) fun l0=>
 (e l0))))
 (bz (aT [(I bf),(I bB),(I bD),(I bT),(I cm),(I cn),(I cq),(I cy),(I dp),(I cQ),(B bX),(I bV),(.float .f64 dq),cZ,cW,cX,da,(I dc),(I cG),(.float .f64 cC),(.float .f64 cH),(I cI),(I cJ),(I cY),(I cK),(I cR),(I cS),cT,cU] one) ((fin R X0 w0 (az #[(.agg #[(I bf),(I bB),(I bD),(I bT),(I cm),(I cn),(I cq),(I cy),(I dp),(I cQ),(B bX),(I bV),(.float .f64 dq),cZ,cW,cX,da,(I dc),(I cG),(.float .f64 cC),(.float .f64 cH),(I cI),(I cJ),(I cY),(I cK),(I cR),(I cS),cT,cU]),(B false)]))))))))))))))))))))) fun m0=>
 aa pg X0 w0 (aI .eql 3 (.tmp 5) (.const (I 2)) (I bf) (I 2)) fun n0=>
 (ao n0
 (m0 n0)
 (aa pg X0 w0 (aI .eql 3 (.tmp 5) (.const (I 7)) (I bf) (I 7)) fun o0=>
 (ao o0
 (m0 o0)
 (aa pg X0 w0 (aI .eql 3 (.tmp 5) (.const (I 8)) (I bf) (I 8)) fun q0=>
 (m0 q0)))))))))))
noncomputable def TB:bI:=⟨64,[(1,(pg.cellsOf 117))],[3,8,14,20,25,30,36,42,48,54,60],[0,2],[7,9,10,11,13,15,16,17,19,21,22,24,26,27,29,31,32,33,35,37,38,39,41,43,44,45,47,49,50,51,53,55,56,57,59,61,62],[]⟩
def IP (_p0_0 bB bD bT cm cn cq cy dp cQ:Int) (bX:Bool) (bV:Int) (dq:Nat) (cZ cW cX da:Value) (dc cG:Int) (cC cH:Nat) (cI cJ cY cK cR cS:Int) (cT cU:Value):Prop:=
 (aa pg X0 w0 (fF 33 #[(I 0),(I 0),(I 0)] #[]) fun a=>
 aa pg X0 w0 (aI .eql 33 (.tmp 4) (.tmp 5) (.agg #[(I bB),(I bD),(I bT)]) a) fun b=>
 un (aL b true (.agg #[(I cm),(I cn),(I cq)])) fun c=>
 aF pg X0 w0 b true (vS (fF 35 #[(I 0),(I 0),(I 0)] #[])) fun d=>
 aF pg X0 w0 b true (vS (aI .eql 35 (.tmp 9) (.tmp 10) c d)) fun e=>
 ay pg X0 w0 (aN b e (B false)) fun g=>
 un (aL g true (.agg #[(I cy),(I dp),(I cQ)])) fun h=>
 aF pg X0 w0 g true (vS (fF 35 #[(I 0),(I 0),(I 0)] #[])) fun i=>
 aF pg X0 w0 g true (vS (aI .eql 35 (.tmp 15) (.tmp 16) h i)) fun j=>
 ay pg X0 w0 (aN g j (B false)) fun k=>
 un (aL k true (B bX)) fun l=>
 aF pg X0 w0 k true (vS (aY bF l)) fun m=>
 ay pg X0 w0 (aN k m (B false)) fun n=>
 un (aL n true (I bV)) fun o=>
 aF pg X0 w0 n true (vS (aI .eql 3 (.tmp 26) (.const (I 0)) o (I 0))) fun q=>
 ay pg X0 w0 (aN n q (B false)) fun r=>
 un (aL r true (.float .f64 dq)) fun s=>
 jn (fun (t:Value) (v:World) (y:XS)=>
 aF pg y v r true (vS (aI .eql 196 (.tmp 32) (.const (aA bc 0)) t (aA bc 0))) fun z=>
 ay pg y v (aN r z (B false)) fun A=>
 un (aL A true cZ) fun C=>
 aF pg y v A true (vS (cr 36 3 C)) fun D=>
 aF pg y v A true (vS (aI .eql 3 (.tmp 38) (.const (I 0)) D (I 0))) fun E=>
 ay pg y v (aN A E (B false)) fun F=>
 un (aL F true cW) fun G=>
 aF pg y v F true (vS (cr 23 3 G)) fun H=>
 aF pg y v F true (vS (aI .eql 3 (.tmp 44) (.const (I 0)) H (I 0))) fun L=>
 ay pg y v (aN F L (B false)) fun M=>
 un (aL M true cX) fun N=>
 aF pg y v M true (vS (cr 22 3 N)) fun O=>
 aF pg y v M true (vS (aI .eql 3 (.tmp 50) (.const (I 0)) O (I 0))) fun Q=>
 ay pg y v (aN M Q (B false)) fun S=>
 un (aL S true da) fun T=>
 aF pg y v S true (vS (cr 54 3 T)) fun U=>
 aF pg y v S true (vS (aI .eql 3 (.tmp 56) (.const (I 0)) U (I 0))) fun V=>
 ay pg y v (aN S V (B false)) fun Y=>
 un (aL Y true (.agg #[(I dc),(I cG),(.float .f64 cC),(.float .f64 cH),(I cI),(I cJ),(I cY),(I cK),(I cR),(I cS),cT,cU])) fun Z=>
 jn (fun (a0:Value) (b0:World) (c0:XS)=>
 ay pg c0 b0 (aN Y a0 (B false)) fun d0=>
 (fin R c0 b0 d0)) fun e0=>
 (gE Y true (eC pg R y v true 298 #[Z] e0) (e0 undef v y))) fun g0=>
 (gE r true (eC pg R X0 w0 true 111 #[s] g0) (g0 undef w0 X0)))
noncomputable def PA:bI:=⟨134,[(1,(pg.cellsOf 117))],[5,9,14,18,24,26,28,30,36,42,46,48,54,60,76,81,87,92,97,101,106,112,117,119,121,123,126,130],[0,2,3,4,6,7,12,22,40,52,57,85,90,95,110,115],[17,19,20,35,37,38,45,47,49,50,67,68,69,71,72,73,75,77,78,80,82,83,100,102,103,105,107,108,129,131,132],[]⟩
def EC (bf bB bD bT cm cn cq cy dp cQ:Int) (bX:Bool) (bV:Int) (dq:Nat) (cZ cW cX da:Value) (dc cG:Int) (cC cH:Nat) (cI cJ cY cK cR cS:Int) (cT cU:Value):Prop:=
 ((aa pg X0 w0 (aI .eql 3 (.tmp 6) (.const (I 1)) (I bf) (I 1)) fun a=>
 (ao a
 (eC pg R X0 w0 true 167 #[(.agg #[(I dc),(I cG),(.float .f64 cC),(.float .f64 cH),(I cI),(I cJ),(I cY),(I cK),(I cR),(I cS),cT,cU])] fun b c d=>
 (fin R d c b))
 (aa pg X0 w0 (aI .eql 3 (.tmp 6) (.const (I 2)) (I bf) (I 2)) fun e=>
 (ao e
 (aa pg X0 w0 (binOp .geq 3 (I bV) (I 0)) fun g=>
 un (aL g true (I bV)) fun h=>
 aF pg X0 w0 g true (vS (binOp .leq 3 h (I 281474976710656))) fun i=>
 ay pg X0 w0 (aN g i (B false)) fun j=>
 (fin R X0 w0 j))
 (aa pg X0 w0 (aI .eql 3 (.tmp 6) (.const (I 3)) (I bf) (I 3)) fun k=>
 (ao k
 (aa pg X0 w0 (fF 229 #[(I bB),(I bD),(I bT),(I cm),(I cn),(I cq),cZ,cW] #[(0,(.agg #[(I bB),(I bD),(I bT)])),(1,(.agg #[(I cm),(I cn),(I cq)])),(2,cZ),(3,cW)]) fun l=>
 eC pg R X0 w0 true 250 #[l] fun m n o=>
 aa pg o n (aI .eql 29 (.tmp 33) (.const (I 0)) m (I 0)) fun q=>
 un (aL q true cX) fun r=>
 jn (fun (s:Value) (t:World) (v:XS)=>
 ay pg v t (aN q s (B false)) fun y=>
 (fin R v t y)) fun z=>
 (gE q true (eC pg R o n true 243 #[r] z) (z undef n o)))
 (aa pg X0 w0 (aI .eql 3 (.tmp 6) (.const (I 4)) (I bf) (I 4)) fun A=>
 (ao A
 (eC pg R X0 w0 true 238 #[(.agg #[(I bB),(I bD),(I bT)])] fun C D E=>
 un (aL C true (B bX)) fun F=>
 un (aL C true (.agg #[(I cm),(I cn),(I cq)])) fun G=>
 jn (fun (H:Value) (L:World) (M:XS)=>
 ay pg M L (aN C H (B false)) fun N=>
 (fin R M L N)) fun O=>
 (gE C true (eC pg R E D true 299 #[F,G] O) (O undef D E)))
 (aa pg X0 w0 (aI .eql 3 (.tmp 6) (.const (I 5)) (I bf) (I 5)) fun Q=>
 (ao Q
 (eC pg R X0 w0 true 165 #[(.agg #[(I cm),(I cn),(I cq)])] fun S T U=>
 (fin R U T S))
 (aa pg X0 w0 (aI .eql 3 (.tmp 6) (.const (I 6)) (I bf) (I 6)) fun V=>
 (ao V
 (eC pg R X0 w0 true 300 #[(.float .f64 dq)] fun Y Z a0=>
 aa pg a0 Z (aE Y 0) fun b0=>
 aa pg a0 Z (aE Y 1) fun c0=>
 (aa pg a0 Z (aI .eql 29 (.tmp 65) (.const (I 0)) c0 (I 0)) fun d0=>
 un (aL d0 true b0) fun e0=>
 aF pg a0 Z d0 true (vS (binOp .gtr 40 e0 (.float .f64 0))) fun g0=>
 ay pg a0 Z (aN d0 g0 (B false)) fun h0=>
 un (aL h0 true b0) fun i0=>
 aF pg a0 Z h0 true (vS (binOp .lss 40 i0 (.float .f64 4607182418800017408))) fun j0=>
 ay pg a0 Z (aN h0 j0 (B false)) fun k0=>
 un (aL k0 true (I bV)) fun l0=>
 jn (fun (m0:Value) (n0:World) (o0:XS)=>
 ay pg o0 n0 (aN k0 m0 (B false)) fun q0=>
 un (aL q0 true (.agg #[(I cm),(I cn),(I cq)])) fun r0=>
 jn (fun (s0:Value) (t0:World) (v0:XS)=>
 ay pg v0 t0 (aN q0 s0 (B false)) fun y0=>
 (fin R v0 t0 y0)) fun z0=>
 (gE q0 true (eC pg R o0 n0 true 165 #[r0] z0) (z0 undef n0 o0))) fun A0=>
 (gE k0 true (eC pg R a0 Z true 301 #[l0] A0) (A0 undef Z a0))))
 (aa pg X0 w0 (aI .eql 3 (.tmp 6) (.const (I 7)) (I bf) (I 7)) fun C0=>
 (ao C0
 (eC pg R X0 w0 true 301 #[(I bV)] fun D0 E0 F0=>
 (fin R F0 E0 D0))
 (aa pg X0 w0 (aI .eql 3 (.tmp 6) (.const (I 8)) (I bf) (I 8)) fun G0=>
 (ao G0
 (aa pg X0 w0 (binOp .geq 3 (I bV) (I 1)) fun H0=>
 (fin R X0 w0 H0))
 (aa pg X0 w0 (aI .eql 3 (.tmp 6) (.const (I 9)) (I bf) (I 9)) fun L0=>
 (ao L0
 (eC pg R X0 w0 true 238 #[(.agg #[(I bB),(I bD),(I bT)])] fun M0 N0 O0=>
 un (aL M0 true (.agg #[(I cm),(I cn),(I cq)])) fun Q0=>
 jn (fun (S0:Value) (T0:World) (U0:XS)=>
 ay pg U0 T0 (aN M0 S0 (B false)) fun V0=>
 un (aL V0 true cX) fun Y0=>
 jn (fun (Z0:Value) (a1:World) (b1:XS)=>
 ay pg b1 a1 (aN V0 Z0 (B false)) fun c1=>
 (fin R b1 a1 c1)) fun d1=>
 (gE V0 true (eC pg R U0 T0 true 243 #[Y0] d1) (d1 undef T0 U0))) fun e1=>
 (gE M0 true (eC pg R O0 N0 true 302 #[Q0] e1) (e1 undef N0 O0)))
 (aa pg X0 w0 (aI .eql 3 (.tmp 6) (.const (I 10)) (I bf) (I 10)) fun g1=>
 (ao g1
 (eC pg R X0 w0 true 238 #[(.agg #[(I bB),(I bD),(I bT)])] fun h1 i1 j1=>
 (fin R j1 i1 h1))
 (aa pg X0 w0 (aI .eql 3 (.tmp 6) (.const (I 11)) (I bf) (I 11)) fun k1=>
 (ao k1
 (eC pg R X0 w0 true 168 #[(.agg #[(I cy),(I dp),(I cQ)]),(.agg #[(I cm),(I cn),(I cq)]),(.agg #[(I bB),(I bD),(I bT)]),cW] fun l1 m1 n1=>
 (fin R n1 m1 l1))
 (((eC pg R X0 w0 true 165 #[(.agg #[(I cm),(I cn),(I cq)])] fun o1 q1 r1=>
 un (aL o1 true da) fun s1=>
 jn (fun (t1:Value) (v1:World) (y1:XS)=>
 ay pg y1 v1 (aN o1 t1 (B false)) fun z1=>
 (fin R y1 v1 z1)) fun A1=>
 (gE o1 true (eC pg R r1 q1 true 303 #[s1] A1) (A1 undef q1 r1))))))))))))))))))))))))))))
noncomputable def Wb:bI:=⟨6,[],[],[0,2],[],[]⟩
def Ly (p0:Nat):Prop:=
 (eC pg R X0 w0 true 304 #[(.float .f64 p0)] fun a b c=>
 eC pg R c b true 111 #[a] fun d e g=>
 (fin R g e d))
noncomputable def PB:bI:=⟨19,[],[],[0,1,4,5,6,11,15],[],[]⟩
def ED (p0 p1:Nat):Prop:=
 (eC pg R X0 w0 true 305 #[(.float .f64 p0)] fun a b c=>
 eC pg R c b true 305 #[(.float .f64 p1)] fun d e g=>
 (aa pg g e (binOp .lss 196 a d) fun h=>
 (ao h
 ((fin R g e (I (-1))))
 (aa pg g e (binOp .gtr 196 a d) fun i=>
 (ao i
 (fin R g e (I 1))
 (fin R g e (I 0)))))))
noncomputable def PC:bI:=⟨21,[(1,(pg.cellsOf 33))],[3,7,12,17],[0,2],[6,8,9,11,13,14,16,18,19],[]⟩
def EE (bf bB bD:Int):Prop:=
 (aa pg X0 w0 (binOp .geq 3 (I bf) (I 1)) fun a=>
 un (aL a true (I bf)) fun b=>
 aF pg X0 w0 a true (vS (binOp .leq 3 b (I 2))) fun c=>
 ay pg X0 w0 (aN a c (B false)) fun d=>
 un (aL d true (I bB)) fun e=>
 aF pg X0 w0 d true (vS (binOp .geq 3 e (I 1))) fun g=>
 ay pg X0 w0 (aN d g (B false)) fun h=>
 un (aL h true (I bD)) fun i=>
 aF pg X0 w0 h true (vS (binOp .geq 3 i (I 1))) fun j=>
 ay pg X0 w0 (aN h j (B false)) fun k=>
 (fin R X0 w0 k))
def IQ (p0:Value):Prop:=
 (aa pg X0 w0 (cr 36 3 p0) fun a=>
 (jB X0 w0 (I 0) 7 fun b c d e g=>
 aa pg g e (binOp .lss 3 d a) fun h=>
 (ao h
 ((aa pg g e (dx 36 1 p0 d) fun i=>
 aa pg g e (aX 9 i) fun j=>
 (eC pg R g e true 312 #[j] fun k l m=>
 aa pg m l (aY bF k) fun n=>
 un (aL n false d) fun o=>
 aF pg m l n false (vS (binOp .gtr 3 o (I 0))) fun q=>
 un (aL n false q) fun r=>
 un (aL r true p0) fun s=>
 un (aL r true d) fun t=>
 aF pg m l r true (vS (binOp .sub 3 t (I 1))) fun v=>
 aF pg m l r true (vS (dx 36 1 s v)) fun y=>
 aF pg m l r true (vS (aX 9 y)) fun z=>
 un (aL r true j) fun A=>
 aF pg m l r true (vS (binOp .geq 9 z A)) fun C=>
 aF pg m l n false (aN r C (B false)) fun D=>
 ay pg m l (aN n (B true) D) fun E=>
 (ao E
 (fin R m l (B false))
 (((aa pg m l (binOp .add 3 d (I 1)) fun F=>
 jC b c F l m)))))))
 (((aa pg g e (cr 36 3 p0) fun G=>
 aa pg g e (binOp .leq 3 G (I 16)) fun H=>
 (fin R g e H)))))))
noncomputable def TC:bI:=⟨25,[],[],[0,1,2,6,8],[10,11,12,13,17,18,19,21,22,23],[]⟩
def IS (p0:Int) (p1:Bool) (p2:Value):Prop:=
 (aa pg X0 w0 (aI .eql 29 (.tmp 7) (.const (I 0)) (I p0) (I 0)) fun a=>
 (ao a
 (un (aL (B p1) true p2) fun b=>
 aF pg X0 w0 (B p1) true (vS (cr 38 3 b)) fun c=>
 aF pg X0 w0 (B p1) true (vS (aI .eql 3 (.tmp 12) (.const (I 0)) c (I 0))) fun d=>
 ay pg X0 w0 (aN (B p1) d (B false)) fun e=>
 (fin R X0 w0 e))
 ((aa pg X0 w0 (binOp .gtr 29 (I p0) (I 0)) fun g=>
 un (aL g true (I p0)) fun h=>
 aF pg X0 w0 g true (vS (binOp .leq 29 h (I 25))) fun i=>
 ay pg X0 w0 (aN g i (B false)) fun j=>
 un (aL j true p2) fun k=>
 jn (fun (l:Value) (m:World) (n:XS)=>
 ay pg n m (aN j l (B false)) fun o=>
 (fin R n m o)) fun q=>
 (gE j true (eC pg R X0 w0 true 313 #[k] q) (q undef w0 X0))))))
def IT (p0:Value):Prop:=
 ((aa pg X0 w0 (cr 37 3 p0) fun a=>
 (lq X0 w0 (I 0) (.slice none 0 0) 8 3 fun b c d e g h=>
 aa pg h g (binOp .lss 3 d a) fun i=>
 (ao i
 ((aa pg h g (dx 37 7 p0 d) fun j=>
 aa pg h g (gL 266 7 j) fun k=>
 un (aJ (ad k)) fun l=>
 bz (aB (af (ad k))==7) (bz (aT (af (ad k)) one) ((bz (ez l) (un (cellOf l 0) fun m=>
 eV pg R h g true (jc 36 9 1 1 #[(0,m)]) fun n o q=>
 eV pg R q o true (iS 36 9 1 16 36 e n) fun r s t=>
 (bz (ez l) (un (eQ l 4 3) fun v=>
 eC pg R t s true 165 #[v] fun y z A=>
 aa pg A z (aY bF y) fun C=>
 un (eQ l 1 3) fun D=>
 un (aL C false D) fun E=>
 jn (fun (F:Value) (G:World) (H:XS)=>
 aF pg H G C false (vS (aY bF F)) fun L=>
 ay pg H G (aN C (B true) L) fun M=>
 un (aL M false v) fun N=>
 aF pg H G M false (vS (fF 35 #[(I 0),(I 0),(I 0)] #[])) fun O=>
 aF pg H G M false (vS (aI .eql 35 (.tmp 29) (.tmp 30) N O)) fun Q=>
 un (aL M false Q) fun S=>
 un (cellOf l 1) fun T=>
 un (aL S true T) fun U=>
 aF pg H G S true (vS (aI .neq 3 (.tmp 35) (.const (I 0)) U (I 0))) fun V=>
 aF pg H G M false (aN S V (B false)) fun Y=>
 ay pg H G (aN M (B true) Y) fun Z=>
 (ao Z
 (fin R H G (B false))
 (((aa pg H G (binOp .add 3 d (I 1)) fun a0=>
 lr b c a0 r G H))))) fun b0=>
 (gE C false (eC pg R A z true 158 #[E] b0) (b0 undef z A))))))))))
 (eC pg R h g true 239 #[e] fun c0 d0 e0=>
 (fin R e0 d0 c0))))))
def CZ (p0:Value):Prop:=
 ((aa pg X0 w0 (cr 23 3 p0) fun a=>
 (lq X0 w0 (I 0) (.slice none 0 0) 8 3 fun b c d e g h=>
 aa pg h g (binOp .lss 3 d a) fun i=>
 (ao i
 ((aa pg h g (dx 23 4 p0 d) fun j=>
 aa pg h g (gL 53 4 j) fun k=>
 un (aJ (ad k)) fun l=>
 bz (aB (af (ad k))==4) (bz (aT (af (ad k)) one) ((bz (ez l) (un (cellOf l 0) fun m=>
 eV pg R h g true (jc 36 9 1 1 #[(0,m)]) fun n o q=>
 eV pg R q o true (iS 36 9 1 16 36 e n) fun r s t=>
 (bz (ez l) (un (eQ l 1 3) fun v=>
 eC pg R t s true 158 #[v] fun y z A=>
 aa pg A z (aY bF y) fun C=>
 (ao C
 (fin R A z (B false))
 (((aa pg A z (binOp .add 3 d (I 1)) fun D=>
 lr b c D r z A))))))))))))
 (eC pg R h g true 239 #[e] fun E F G=>
 (fin R G F E))))))
def He (p0:Value):Prop:=
 (aa pg X0 w0 (cr 22 3 p0) fun a=>
 (jB X0 w0 (I 0) 7 fun b c d e g=>
 aa pg g e (binOp .lss 3 d a) fun h=>
 (ao h
 ((aa pg g e (dx 22 1 p0 d) fun i=>
 aa pg g e (aX 3 i) fun j=>
 (aa pg g e (binOp .lss 3 j (I 1)) fun k=>
 un (aL k false j) fun l=>
 aF pg g e k false (vS (binOp .gtr 3 l (I 12))) fun m=>
 ay pg g e (aN k (B true) m) fun n=>
 un (aL n false d) fun o=>
 aF pg g e n false (vS (binOp .gtr 3 o (I 0))) fun q=>
 un (aL n false q) fun r=>
 un (aL r true p0) fun s=>
 un (aL r true d) fun t=>
 aF pg g e r true (vS (binOp .sub 3 t (I 1))) fun v=>
 aF pg g e r true (vS (dx 22 1 s v)) fun y=>
 aF pg g e r true (vS (aX 3 y)) fun z=>
 un (aL r true j) fun A=>
 aF pg g e r true (vS (binOp .geq 3 z A)) fun C=>
 aF pg g e n false (aN r C (B false)) fun D=>
 ay pg g e (aN n (B true) D) fun E=>
 (ao E
 (fin R g e (B false))
 (((aa pg g e (binOp .add 3 d (I 1)) fun F=>
 jC b c F e g)))))))
 (((aa pg g e (cr 22 3 p0) fun G=>
 aa pg g e (binOp .gtr 3 G (I 0)) fun H=>
 (fin R g e H)))))))
noncomputable def Wc:bI:=⟨17,[],[],[0,1,4,6,7,8,9,10,15],[],[9]⟩
def Lz (p0:Value) (p1:Int):Prop:=
 (aa pg X0 w0 (cr 22 3 p0) fun a=>
 (jB X0 w0 (I 0) 9 fun b c d e g=>
 aa pg g e (binOp .lss 3 d a) fun h=>
 (ao h
 ((aa pg g e (dx 22 1 p0 d) fun i=>
 aa pg g e (aX 3 i) fun j=>
 (aa pg g e (aI .eql 3 (.tmp 13) (.tmp 14) j (I p1)) fun k=>
 (ao k
 (fin R g e (B true))
 (((aa pg g e (binOp .add 3 d (I 1)) fun l=>
 jC b c l e g)))))))
 (fin R g e (B false)))))
noncomputable def TD:bI:=⟨33,[(1,(pg.cellsOf 42))],[3,7,12,17,22,27,29],[0,2],[6,8,9,11,13,14,16,18,19,21,23,24,26,28,30,31],[]⟩
def IU (bf bB:Int) (bD bT:Nat):Prop:=
 (aa pg X0 w0 (binOp .geq 3 (I bf) (I 1)) fun a=>
 un (aL a true (I bf)) fun b=>
 aF pg X0 w0 a true (vS (binOp .leq 3 b (I 12))) fun c=>
 ay pg X0 w0 (aN a c (B false)) fun d=>
 un (aL d true (I bB)) fun e=>
 aF pg X0 w0 d true (vS (binOp .geq 3 e (I 0))) fun g=>
 ay pg X0 w0 (aN d g (B false)) fun h=>
 un (aL h true (.float .f64 bD)) fun i=>
 jn (fun (j:Value) (k:World) (l:XS)=>
 ay pg l k (aN h j (B false)) fun m=>
 un (aL m true (.float .f64 bT)) fun n=>
 jn (fun (o:Value) (q:World) (r:XS)=>
 ay pg r q (aN m o (B false)) fun s=>
 un (aL s true (.float .f64 bD)) fun t=>
 un (aL s true (.float .f64 bT)) fun v=>
 aF pg r q s true (vS (binOp .lss 40 t v)) fun y=>
 ay pg r q (aN s y (B false)) fun z=>
 (fin R r q z)) fun A=>
 (gE m true (eC pg R l k true 314 #[n] A) (A undef k l))) fun C=>
 (gE h true (eC pg R X0 w0 true 314 #[i] C) (C undef w0 X0)))
def IV (p0 p1:Value):Prop:=
 (eC pg R X0 w0 true 315 #[] fun a b c=>
 ((aa pg c b (cr 43 3 p0) fun d=>
 (lq c b (I 0) (.string { data:= #[] }) 18 7 fun e g h i j k=>
 aa pg k j (binOp .lss 3 h d) fun l=>
 (ao l
 ((aa pg k j (dx 43 2 p0 h) fun m=>
 aa pg k j (gL 288 2 m) fun n=>
 un (aJ (ad n)) fun o=>
 bz (aB (af (ad n))==2) (bz (aT (af (ad n)) one) ((bz (ez o) (un (eQ o 0 2) fun q=>
 eC pg R k j true 316 #[q,i] fun r s t=>
 aa pg t s (aY bF r) fun v=>
 (ao v
 ((fin R t s (az #[(.pointer none),(I 4)])))
 ((ay pg t s (aH a) fun y=>
 aa pg t s (aQ 382 0 0 1 y) fun z=>
 aa pg t s (aX 379 z) fun A=>
 bz (ez o) (un (cellOf o 1) fun C=>
 eC pg R t s false 317 #[C] fun D E F=>
 un (cellOf o 0) fun G=>
 eU pg R F E true (gJ 379 A G D) fun _ H L=>
 (bz (ez o) (((aa pg L H (binOp .add 3 h (I 1)) fun M=>
 lr e g M G H L))))))))))))))
 (((aa pg k j (cr 44 3 p1) fun N=>
 (jB k j (I 0) 40 fun O Q S T U=>
 aa pg U T (binOp .lss 3 S N) fun V=>
 (ao V
 ((aa pg U T (dx 44 8 p1 S) fun Y=>
 aa pg U T (gL 229 8 Y) fun Z=>
 un (aJ (ad Z)) fun a0=>
 bz (aB (af (ad Z))==8) (bz (aT (af (ad Z)) one) ((bz (ez a0) (un (eQ a0 0 8) fun b0=>
 eC pg R U T true 250 #[b0] fun c0 d0 e0=>
 (ay pg e0 d0 (aH a) fun g0=>
 aa pg e0 d0 (aQ 382 1 1 1 g0) fun h0=>
 aa pg e0 d0 (aX 380 h0) fun i0=>
 bz (ez a0) (un (eQ a0 0 3) fun j0=>
 aa pg e0 d0 (ek 380 i0 j0 true) fun k0=>
 aa pg e0 d0 (aE k0 0) fun l0=>
 aa pg e0 d0 (aE k0 1) fun m0=>
 un (aJ (ad l0)) fun _=>
 bz (aB (af (ad l0))==8) (bz (aT (af (ad l0)) one) ((aa pg e0 d0 (aI .neq 29 (.tmp 57) (.const (I 0)) c0 (I 0)) fun n0=>
 (ao n0
 ((fin R e0 d0 (az #[(.pointer none),c0])))
 ((ao m0
 ((fin R e0 d0 (az #[(.pointer none),(I 9)])))
 (bz (ez a0) (eC pg R e0 d0 true 318 #[a,b0] fun o0 q0 r0=>
 (ao o0
 ((fin R r0 q0 (az #[(.pointer none),(I 18)])))
 (bz (ez a0) (eC pg R r0 q0 true 319 #[a,b0] fun s0 t0 v0=>
 (ao s0
 ((fin R v0 t0 (az #[(.pointer none),(I 20)])))
 (((ay pg v0 t0 (aH a) fun y0=>
 aa pg v0 t0 (aQ 382 1 1 1 y0) fun z0=>
 aa pg v0 t0 (aX 380 z0) fun A0=>
 bz (ez a0) (eC pg R v0 t0 false 320 #[b0] fun C0 D0 E0=>
 eU pg R E0 D0 true (gJ 380 A0 j0 C0) fun _ F0 G0=>
 ((aa pg G0 F0 (binOp .add 3 S (I 1)) fun H0=>
 jC O Q H0 F0 G0))))))))))))))))))))))))))
 ((((fin R U T (az #[a,(I 0)])))))))))))))))
noncomputable def HJ:bI:=⟨9,[],[],[0,1,3],[],[]⟩
def yR (p0:ByteArray) (c0:Value):Prop:=
 (aa pg X0 w0 (aQ 46 0 0 4 c0) fun a=>
 aa pg X0 w0 (gL 42 4 a) fun b=>
 eC pg R X0 w0 false 249 #[(.string p0)] fun c d e=>
 eC pg R e d true 248 #[b,c] fun g h i=>
 (fin R i h g))
noncomputable def Wd:bI:=⟨15,[(2,(pg.cellsOf 42))],[6,11],[0,1,4],[9,10,12,13],[]⟩
def LA (_p0_0 _p0_1:Int) (bD bT p1:Nat):Prop:=
 (aa pg X0 w0 (binOp .geq 40 (.float .f64 p1) (.float .f64 bD)) fun a=>
 un (aL a true (.float .f64 p1)) fun b=>
 un (aL a true (.float .f64 bT)) fun c=>
 aF pg X0 w0 a true (vS (binOp .lss 40 b c)) fun d=>
 ay pg X0 w0 (aN a d (B false)) fun e=>
 (fin R X0 w0 e))
noncomputable def We:bI:=⟨8,[],[],[0,2],[],[]⟩
def LB (p0:ByteArray):Prop:=
 (eC pg R X0 w0 true 321 #[(.string p0)] fun a b c=>
 aa pg c b (binOp .shr 196 a (aA bc 11)) fun d=>
 aa pg c b (BK 196 40 d) fun e=>
 aa pg c b (binOp .quo 40 e (.float .f64 4845873199050653696)) fun g=>
 (fin R c b g))
noncomputable def IW:bI:=⟨45,[(1,(pg.cellsOf 229)),(4,(pg.cellsOf 53))],[6,11,16,22,27,33,40],[0,2,5,10,21,34,35,36,37,43],[15,17,18,19,26,28,29,30,31],[36]⟩
def zW (bf bB bD bT cm cn:Int) (cq cy:Value):Prop:=
 (eC pg R X0 w0 true 238 #[(.agg #[(I bf),(I bB),(I bD)])] fun a b c=>
 aa pg c b (aY bF a) fun d=>
 (ao d
 (fin R c b (I 4))
 (eC pg R c b true 165 #[(.agg #[(I bT),(I cm),(I cn)])] fun e g h=>
 aa pg h g (aY bF e) fun i=>
 un (aL i false (.agg #[(I bT),(I cm),(I cn)])) fun j=>
 aF pg h g i false (vS (fF 35 #[(I 0),(I 0),(I 0)] #[])) fun k=>
 aF pg h g i false (vS (aI .eql 35 (.tmp 17) (.tmp 18) j k)) fun l=>
 ay pg h g (aN i (B true) l) fun m=>
 (ao m
 (fin R h g (I 17))
 (eC pg R h g true 322 #[cq] fun n o q=>
 aa pg q o (aY bF n) fun r=>
 un (aL r false cy) fun s=>
 jn (fun (t:Value) (v:World) (y:XS)=>
 jn (fun (z:Value) (A:World) (C:XS)=>
 aF pg C A r false (vS (aY bF z)) fun D=>
 ay pg C A (aN r (B true) D) fun E=>
 (ao E
 (fin R C A (I 4))
 (((aa pg C A (cr 23 3 cy) fun F=>
 (jB C A (I 0) 36 fun G H L M N=>
 aa pg N M (binOp .lss 3 L F) fun O=>
 (ao O
 ((aa pg N M (dx 23 4 cy L) fun Q=>
 aa pg N M (gL 53 4 Q) fun S=>
 un (aJ (ad S)) fun T=>
 bz (aB (af (ad S))==4) (bz (aT (af (ad S)) one) ((bz (ez T) (un (eQ T 1 3) fun U=>
 eC pg R N M true 158 #[U] fun V Y Z=>
 aa pg Z Y (aY bF V) fun a0=>
 (ao a0
 (fin R Z Y (I 4))
 (((aa pg Z Y (binOp .add 3 L (I 1)) fun b0=>
 jC G H b0 Y Z))))))))))
 (fin R N M (I 0))))))))) fun c0=>
 (gE r false (eC pg R y v true 322 #[t] c0) (c0 undef v y))) fun d0=>
 (gE r false (eC pg R q o true 323 #[s] d0) (d0 undef o q)))))))
noncomputable def TE:bI:=⟨19,[],[],[0,1,4],[],[]⟩
def IX (p0:Value) (p1:Int):Prop:=
 (aa pg X0 w0 (mO cN 281 5 (aA fv p1)) fun a=>
 aa pg X0 w0 (binOp .shr 281 (aA fv p1) (aA bc 8)) fun b=>
 aa pg X0 w0 (mO cN 281 5 b) fun c=>
 aa pg X0 w0 (binOp .shr 281 (aA fv p1) (aA bc 16)) fun d=>
 aa pg X0 w0 (mO cN 281 5 d) fun e=>
 aa pg X0 w0 (binOp .shr 281 (aA fv p1) (aA bc 24)) fun g=>
 aa pg X0 w0 (mO cN 281 5 g) fun h=>
 eV pg R X0 w0 true (jc 95 5 1 4 #[(0,a),(1,c),(2,e),(3,h)]) fun i j k=>
 eV pg R k j true (iS 95 5 1 1 95 p0 i) fun l m n=>
 (fin R n m l))
def AV (p0:Value):Prop:=
 ((jn (fun (a:World) (b:XS)=>
 (jn (fun (c:World) (d:XS)=>
 ay pg d c (aH p0) fun e=>
 aa pg d c (aQ 106 4 4 1 e) fun g=>
 aa pg d c (aX 4 g) fun h=>
 (fin R d c h)) fun i=>
 ay pg b a (aH p0) fun j=>
 aa pg b a (aQ 106 4 4 1 j) fun k=>
 aa pg b a (aX 4 k) fun l=>
 aa pg b a (aY bF l) fun m=>
 (ao m
 (ay pg b a (aH p0) fun n=>
 aa pg b a (aQ 106 2 2 1 n) fun o=>
 aa pg b a (aX 3 o) fun q=>
 aa pg b a (binOp .add 3 q (I 1)) fun r=>
 ay pg b a (aH p0) fun s=>
 aa pg b a (aQ 106 2 2 1 s) fun t=>
 eU pg R b a true (eo 3 1 t r) fun _ v y=>
 (i v y))
 (i a b)))) fun z=>
 ay pg X0 w0 (aH p0) fun A=>
 aa pg X0 w0 (aQ 106 3 3 1 A) fun C=>
 aa pg X0 w0 (aX 3 C) fun D=>
 aa pg X0 w0 (binOp .gtr 3 D (I 0)) fun E=>
 (ao E
 (ay pg X0 w0 (aH p0) fun F=>
 aa pg X0 w0 (aQ 106 3 3 1 F) fun G=>
 aa pg X0 w0 (aX 3 G) fun H=>
 aa pg X0 w0 (binOp .sub 3 H (I 1)) fun L=>
 ay pg X0 w0 (aH p0) fun M=>
 aa pg X0 w0 (aQ 106 3 3 1 M) fun N=>
 eU pg R X0 w0 true (eo 3 1 N L) fun _ O Q=>
 (ay pg Q O (aH p0) fun S=>
 aa pg Q O (aQ 106 3 3 1 S) fun T=>
 aa pg Q O (aX 3 T) fun U=>
 aa pg Q O (aI .eql 3 (.tmp 19) (.const (I 0)) U (I 0)) fun V=>
 ay pg Q O (aH p0) fun Y=>
 aa pg Q O (aQ 106 4 4 1 Y) fun Z=>
 eU pg R Q O true (eo 4 1 Z V) fun _ a0 b0=>
 (z a0 b0)))
 (z w0 X0))))
noncomputable def FF:bI:=⟨20,[],[],[0,1],[],[]⟩
def xV (c0 c1:Value):Prop:=
 aa pg X0 w0 (aX 26 c0) fun a=>
 ay pg X0 w0 (aH a) fun b=>
 aa pg X0 w0 (aQ 106 0 0 1 b) fun c=>
 aa pg X0 w0 (aX 104 c) fun d=>
 aa pg X0 w0 (aX 9 c1) fun e=>
 aa pg X0 w0 (ek 104 d e false) fun g=>
 aa pg X0 w0 (aX 26 c0) fun h=>
 ay pg X0 w0 (aH h) fun i=>
 aa pg X0 w0 (aQ 106 0 0 1 i) fun j=>
 aa pg X0 w0 (aX 104 j) fun k=>
 aa pg X0 w0 (aX 9 c1) fun l=>
 aa pg X0 w0 (ek 104 k l false) fun m=>
 ay pg X0 w0 (aH m) fun n=>
 aa pg X0 w0 (aQ 141 0 0 1 n) fun o=>
 aa pg X0 w0 (aX 95 o) fun q=>
 aa pg X0 w0 (cr 95 3 q) fun r=>
 ay pg X0 w0 (aH g) fun s=>
 aa pg X0 w0 (aQ 141 1 1 1 s) fun t=>
 eU pg R X0 w0 true (eo 3 1 t r) fun _ v y=>
 fin R y v (az #[])
def EF:Prop:=
 (eV pg R X0 w0 true (g7 353 true (az #[])) fun a b c=>
 ((wK c b (I 0) undef undef 4 9 3 fun d e g _ _ h i=>
 aa pg i h (binOp .lss 3 g (I 256)) fun j=>
 (ao j
 (((aa pg i h (mO fv 3 281 g) fun k=>
 ((lq i h (I 0) k 9 3 fun l m n o q r=>
 aa pg r q (binOp .lss 3 n (I 8)) fun s=>
 (ao s
 ((aa pg r q (binOp .shr 281 o (aA bc 1)) fun t=>
 aa pg r q (binOp .and 281 o (aA fv 1)) fun v=>
 aa pg r q (aY UnOp.neg v) fun y=>
 aa pg r q (binOp .and 281 (aA fv 2197175160) y) fun z=>
 aa pg r q (binOp .xor 281 t z) fun A=>
 ((aa pg r q (binOp .add 3 n (I 1)) fun C=>
 lr l m C A q r))))
 (((aa pg r q (Instr.indexAt 353 a g) fun D=>
 eU pg R r q true (eo 281 1 D o) fun _ E F=>
 ((aa pg F E (binOp .add 3 g (I 1)) fun G=>
 wL d e G n o E F)))))))))))
 (((aa pg i h (gL 353 256 a) fun H=>
 un (aJ (ad H)) fun L=>
 bz (aB (af (ad H))==256) (bz (aT (af (ad H)) one) (un (eQ L 0 256) fun M=>
 bz (aT [L] ez) (fin R i h M))))))))))
noncomputable def EG:bI:=⟨90,[],[],[0,1,4,5,6,7,8,9,10,11,19,47,57,66,76],[33,34,35,37,38,39,40,41,42,43,44,59,60,61,62,63,64,65],[7,8,9]⟩
def wO (p0:Value) (p1:Int):Prop:=
 (((wK X0 w0 (I p1) (aA bc 0) (B false) 9 7 8 fun a b c d e g h=>
 ay pg h g (aH p0) fun i=>
 aa pg h g (aQ 223 0 0 1 i) fun j=>
 aa pg h g (aX 95 j) fun k=>
 aa pg h g (cr 95 3 k) fun l=>
 aa pg h g (binOp .lss 3 c l) fun m=>
 (ao m
 ((ay pg h g (aH p0) fun n=>
 aa pg h g (aQ 223 0 0 1 n) fun o=>
 aa pg h g (aX 95 o) fun q=>
 aa pg h g (dx 95 1 q c) fun r=>
 aa pg h g (aX 5 r) fun s=>
 (aa pg h g (binOp .sub 3 c (I p1)) fun t=>
 (un (aL e false t) fun v=>
 aF pg h g e false (vS (binOp .gtr 3 v (I 9))) fun y=>
 ay pg h g (aN e (B true) y) fun z=>
 un (aL z false t) fun A=>
 aF pg h g z false (vS (aI .eql 3 (.tmp 38) (.const (I 9)) A (I 9))) fun C=>
 un (aL z false C) fun D=>
 un (aL D true s) fun E=>
 aF pg h g D true (vS (binOp .and 5 E (aA cN 127))) fun F=>
 aF pg h g D true (vS (binOp .gtr 5 F (aA cN 1))) fun G=>
 aF pg h g z false (aN D G (B false)) fun H=>
 ay pg h g (aN z (B true) H) fun L=>
 ((jn (fun (M:Value)=>
 aa pg h g (binOp .geq 5 s (aA cN 128)) fun N=>
 (ao N
 (((aa pg h g (binOp .add 3 c (I 1)) fun O=>
 wL a b O M L g h)))
 ((un (aL L false s) fun Q=>
 aF pg h g L false (vS (aI .eql 5 (.tmp 60) (.const (aA cN 0)) Q (aA cN 0))) fun S=>
 un (aL L false S) fun T=>
 un (aL T true t) fun U=>
 aF pg h g T true (vS (binOp .gtr 3 U (I 0))) fun V=>
 aF pg h g L false (aN T V (B false)) fun Y=>
 ay pg h g (aN L (B true) Y) fun Z=>
 (ao Z
 (eC pg R h g true 294 #[p0,(I 4),(I p1)] fun _ a0 b0=>
 ((fin R b0 a0 (az #[(I 0),(I p1),(B false)]))))
 ((aa pg h g (binOp .shr 196 M (aA bc 1)) fun c0=>
 aa pg h g (mO IntKind.i64 196 3 c0) fun d0=>
 ((jn (fun (e0:Value)=>
 aa pg h g (binOp .add 3 c (I 1)) fun g0=>
 (fin R h g (az #[e0,g0,(B true)]))) fun h0=>
 aa pg h g (binOp .and 196 M (aA bc 1)) fun i0=>
 aa pg h g (aI .eql 196 (.tmp 75) (.const (aA bc 1)) i0 (aA bc 1)) fun j0=>
 (ao j0
 (aa pg h g (aY tS d0) fun k0=>
 (h0 k0))
 (h0 d0))))))))))) fun l0=>
 aa pg h g (aY bF L) fun m0=>
 (ao m0
 (aa pg h g (binOp .and 5 s (aA cN 127)) fun n0=>
 aa pg h g (mO bc 5 196 n0) fun o0=>
 aa pg h g (binOp .mul 3 (I 7) t) fun q0=>
 aa pg h g (binOp .shl 196 o0 q0) fun r0=>
 aa pg h g (binOp .or 196 d r0) fun s0=>
 (l0 s0))
 (l0 d))))))))
 (((ay pg h g (aH p0) fun t0=>
 aa pg h g (aQ 223 0 0 1 t0) fun v0=>
 aa pg h g (aX 95 v0) fun y0=>
 aa pg h g (cr 95 3 y0) fun z0=>
 eC pg R h g true 294 #[p0,(I 5),z0] fun _ A0 C0=>
 ((fin R C0 A0 (az #[(I 0),(I p1),(B false)]))))))))))
def ti (p0 p1 p2:Value):Prop:=
 ay pg X0 w0 (aH p1) fun a=>
 aa pg X0 w0 (aX 286 a) fun b=>
 aa pg X0 w0 (cr 286 3 b) fun c=>
 ((jn (fun (d:Value) (e:World) (g:XS)=>
 (jB g e (I 0) 39 fun h i j k l=>
 aa pg l k (binOp .lss 3 j d) fun m=>
 (ao m
 ((((jn (fun (n:World) (o:XS)=>
 ay pg o n (aH p1) fun q=>
 aa pg o n (aX 286 q) fun r=>
 aa pg o n (dx 286 6 r j) fun s=>
 eF pg R o n true p2 #[s] fun _ t v=>
 ((aa pg v t (binOp .add 3 j (I 1)) fun y=>
 jC h i y t v))) fun z=>
 ay pg l k (aH p0) fun A=>
 aa pg l k (aQ 175 0 0 1 A) fun C=>
 aa pg l k (aX 173 C) fun D=>
 aa pg l k (aI .eql 173 (.tmp 45) (.const (.pointer none)) D (.pointer none)) fun E=>
 (ao E
 ((ay pg l k (aH p1) fun F=>
 aa pg l k (aX 286 F) fun G=>
 eV pg R l k false (jc 286 337 6 1 #[(0,(.agg #[(I 0),(I 0),(I 0),(I 0),(.float .f64 0),(.string { data:= #[] })]))]) fun H L M=>
 eV pg R M L true (iS 286 337 6 56 286 G H) fun N O Q=>
 ay pg Q O (aH p1) fun S=>
 eU pg R Q O true (eo 286 1 S N) fun _ T U=>
 (z T U)))
 (z k l))))))
 (fin R l k (az #[]))))) fun V=>
 ay pg X0 w0 (aH p0) fun Y=>
 aa pg X0 w0 (aQ 175 0 0 1 Y) fun Z=>
 aa pg X0 w0 (aX 173 Z) fun a0=>
 aa pg X0 w0 (aI .neq 173 (.tmp 16) (.const (.pointer none)) a0 (.pointer none)) fun b0=>
 (ao b0
 (ay pg X0 w0 (aH p0) fun c0=>
 aa pg X0 w0 (aQ 175 0 0 1 c0) fun d0=>
 aa pg X0 w0 (aX 173 d0) fun e0=>
 eC pg R X0 w0 true 206 #[e0,c] fun _ g0 h0=>
 (V c g0 h0))
 (ay pg X0 w0 (aH p0) fun i0=>
 aa pg X0 w0 (aQ 175 1 1 1 i0) fun j0=>
 aa pg X0 w0 (aX 169 j0) fun k0=>
 ay pg X0 w0 (aH p0) fun l0=>
 aa pg X0 w0 (aQ 175 1 1 1 l0) fun m0=>
 aa pg X0 w0 (aX 169 m0) fun n0=>
 eC pg R X0 w0 false 216 #[n0] fun o0 q0 r0=>
 eC pg R r0 q0 true 215 #[k0,o0] fun s0 t0 v0=>
 (eC pg R v0 t0 true 208 #[p0] fun _ y0 z0=>
 (ay pg z0 y0 (aH p1) fun A0=>
 eU pg R z0 y0 true (eo 286 1 A0 (.slice none 0 0)) fun _ C0 D0=>
 (V s0 C0 D0)))))))
def vL (p0 p1:Value):Prop:=
 ay pg X0 w0 (aH p1) fun a=>
 aa pg X0 w0 (aQ 337 0 0 3 a) fun b=>
 eC pg R X0 w0 true 148 #[p0,b] fun _ c d=>
 (ay pg d c (aH p1) fun e=>
 aa pg d c (aQ 337 1 3 3 e) fun g=>
 eC pg R d c true 221 #[p0,g] fun _ h i=>
 fin R i h (az #[]))
noncomputable def HK:bI:=⟨17,[],[],[0,1],[],[]⟩
def yS (p0:Value) (p1:ByteArray):Prop:=
 aa pg X0 w0 (nu 9 3 (.string p1)) fun a=>
 eC pg R X0 w0 true 206 #[p0,a] fun _ b c=>
 (ay pg c b (aH p0) fun d=>
 aa pg c b (aQ 308 0 0 1 d) fun e=>
 aa pg c b (aX 95 e) fun g=>
 eV pg R c b true (Builtin.append_ #[95,9] 95 #[g,(.string p1)]) fun h i j=>
 ay pg j i (aH p0) fun k=>
 aa pg j i (aQ 308 0 0 1 k) fun l=>
 eU pg R j i true (eo 95 1 l h) fun _ m n=>
 fin R n m (az #[]))
noncomputable def HL:bI:=⟨55,[],[],[0,1,4,5,6,7,12,21,30],[],[]⟩
def yT (p0:Value) (p1:Int):Prop:=
 (ay pg X0 w0 (aH p0) fun a=>
 aa pg X0 w0 (aQ 223 2 2 1 a) fun b=>
 aa pg X0 w0 (aX 29 b) fun c=>
 aa pg X0 w0 (aI .neq 29 (.tmp 11) (.const (I 0)) c (I 0)) fun d=>
 (ao d
 (fin R X0 w0 (.string { data:= #[] }))
 ((eC pg R X0 w0 true 293 #[p0,(I p1),(I 2)] fun e g h=>
 aa pg h g (aE e 0) fun i=>
 aa pg h g (aE e 1) fun j=>
 aa pg h g (aE e 2) fun k=>
 (aa pg h g (aY bF k) fun l=>
 (ao l
 (fin R h g (.string { data:= #[] }))
 ((ay pg h g (aH p0) fun m=>
 aa pg h g (aQ 223 0 0 1 m) fun n=>
 aa pg h g (aX 95 n) fun o=>
 aa pg h g (cr 95 3 o) fun q=>
 aa pg h g (binOp .sub 3 q j) fun r=>
 aa pg h g (binOp .gtr 3 i r) fun s=>
 (ao s
 (ay pg h g (aH p0) fun t=>
 aa pg h g (aQ 223 0 0 1 t) fun v=>
 aa pg h g (aX 95 v) fun y=>
 aa pg h g (cr 95 3 y) fun z=>
 eC pg R h g true 294 #[p0,(I 5),z] fun _ A C=>
 (fin R C A (.string { data:= #[] })))
 ((aa pg h g (binOp .add 3 j i) fun D=>
 ay pg h g (aH p0) fun E=>
 aa pg h g (aQ 223 1 1 1 E) fun F=>
 eU pg R h g true (eo 3 1 F D) fun _ G H=>
 (ay pg H G (aH p0) fun L=>
 aa pg H G (aQ 223 0 0 1 L) fun M=>
 aa pg H G (aX 95 M) fun N=>
 ay pg H G (aH p0) fun O=>
 aa pg H G (aQ 223 1 1 1 O) fun Q=>
 aa pg H G (aX 3 Q) fun S=>
 aa pg H G (Instr.sliceAt 95 N (some j) (some S) none) fun T=>
 eV pg R H G true (convert 95 9 T) fun U V Y=>
 (fin R Y V U)))))))))))))
noncomputable def FH:bI:=⟨56,[],[],[0,1,2,6,7,8,19,26,39],[],[]⟩
def xW (p0:Value) (p1 p2:Int):Prop:=
 (ay pg X0 w0 (aH p0) fun a=>
 aa pg X0 w0 (aQ 223 1 1 1 a) fun b=>
 aa pg X0 w0 (aX 3 b) fun c=>
 eC pg R X0 w0 true 288 #[p0,c] fun d e g=>
 aa pg g e (aE d 0) fun h=>
 aa pg g e (aE d 1) fun i=>
 aa pg g e (aE d 2) fun j=>
 (aa pg g e (aY bF j) fun k=>
 (ao k
 (ay pg g e (aH p0) fun l=>
 aa pg g e (aQ 223 1 1 1 l) fun m=>
 aa pg g e (aX 3 m) fun n=>
 (fin R g e (az #[(I 0),n,(B false)])))
 (aa pg g e (binOp .lss 3 h (I 0)) fun o=>
 (ao o
 (ay pg g e (aH p0) fun q=>
 aa pg g e (aQ 223 1 1 1 q) fun r=>
 aa pg g e (aX 3 r) fun s=>
 eC pg R g e true 294 #[p0,(I 4),s] fun _ t v=>
 (ay pg v t (aH p0) fun y=>
 aa pg v t (aQ 223 1 1 1 y) fun z=>
 aa pg v t (aX 3 z) fun A=>
 (fin R v t (az #[(I 0),A,(B false)]))))
 (aa pg g e (binOp .gtr 3 h (I p1)) fun C=>
 (ao C
 (ay pg g e (aH p0) fun D=>
 aa pg g e (aQ 223 1 1 1 D) fun E=>
 aa pg g e (aX 3 E) fun F=>
 eC pg R g e true 294 #[p0,(I p2),F] fun _ G H=>
 (ay pg H G (aH p0) fun L=>
 aa pg H G (aQ 223 1 1 1 L) fun M=>
 aa pg H G (aX 3 M) fun N=>
 (fin R H G (az #[(I 0),N,(B false)]))))
 ((((fin R g e (az #[h,i,(B true)]))))))))))))
noncomputable def aav:bI:=⟨6,[],[],[0,2],[],[]⟩
def QM (p0:Int):Prop:=
 (eC pg R X0 w0 true 346 #[(aA bc p0)] fun a b c=>
 eC pg R c b true 304 #[a] fun d e g=>
 (fin R g e d))
noncomputable def TF:bI:=⟨26,[(3,(pg.cellsOf 51))],[9,12,17,23],[0,1,6,13,14,20],[],[]⟩
def IY (p0:Value) (dE:Int) (dJ:Nat) (dL:ByteArray):Prop:=
 ((jn (fun (a:Value) (b:World) (c:XS)=>
 bz (ez a) (un (cellOf a 0) fun d=>
 eC pg R c b true 206 #[p0,d] fun _ e g=>
 (bz (ez a) (((jn (fun (h:World) (i:XS)=>
 fin R i h (az #[])) fun j=>
 aa pg g e (aI .eql 3 (.tmp 13) (.const (I 1)) d (I 1)) fun k=>
 (ao k
 (bz (ez a) (un (cellOf a 1) fun l=>
 eC pg R g e true 219 #[p0,l] fun _ m n=>
 (j m n)))
 (aa pg g e (aI .eql 3 (.tmp 13) (.const (I 2)) d (I 2)) fun o=>
 (ao o
 (bz (ez a) (un (cellOf a 2) fun q=>
 eC pg R g e true 291 #[p0,q] fun _ r s=>
 (j r s)))
 (j e g)))))))))) fun t=>
 eC pg R X0 w0 true 158 #[(.agg #[(I dE),(.float .f64 dJ),(.string dL)])] fun v y z=>
 aa pg z y (aY bF v) fun A=>
 (ao A
 (aa pg z y (fF 51 #[(I 0),(.float .f64 0),(.string ⟨#[]⟩)] #[]) fun C=>
 un (aJ (ad C)) fun D=>
 bz (aB (af (ad C))==3) (bz (aT (af (ad C)) one) (t D y z)))
 ((t (.agg #[(I dE),(.float .f64 dJ),(.string dL)]) y z)))))
def IZ (p0:Value):Prop:=
 (eC pg R X0 w0 true 347 #[p0,(I 2)] fun a b c=>
 aa pg c b (fF 51 #[a,(.float .f64 0),(.string ⟨#[]⟩)] #[(0,a)]) fun d=>
 un (aJ (ad d)) fun e=>
 bz (aB (af (ad d))==3) (bz (aT (af (ad d)) one) ((bz (ez e) (un (cellOf e 0) fun g=>
 ((jn (fun (h:Value) (i:World) (j:XS)=>
 (eC pg R j i true 154 #[p0] fun k l m=>
 aa pg m l (aE k 0) fun n=>
 aa pg m l (aE k 1) fun _=>
 (aa pg m l (aI .neq 29 (.tmp 26) (.const (I 0)) n (I 0)) fun o=>
 (ao o
 (aa pg m l (fF 51 #[(I 0),(.float .f64 0),(.string ⟨#[]⟩)] #[]) fun q=>
 un (aJ (ad q)) fun r=>
 bz (aB (af (ad q))==3) (bz (aT (af (ad q)) one) (un (eQ r 0 3) fun s=>
 bz (aT [r] ez) (fin R m l s))))
 ((bz (ez h) (un (eQ h 0 3) fun t=>
 un (aJ (ad t)) fun v=>
 bz (aB (af (ad t))==3) (bz (aT (af (ad t)) one) (un (eQ v 0 3) fun y=>
 bz (aT [v] ez) (fin R m l y)))))))))) fun z=>
 aa pg c b (aI .eql 3 (.tmp 10) (.const (I 1)) g (I 1)) fun A=>
 (ao A
 (eC pg R c b true 220 #[p0] fun C D E=>
 bz (ez e) (un (aJ (bb (cd (af (ad e)) 1 [C]))) fun F=>
 bz (one C) (z F D E)))
 (aa pg c b (aI .eql 3 (.tmp 10) (.const (I 2)) g (I 2)) fun G=>
 (ao G
 (eC pg R c b true 292 #[p0,(I 64)] fun H L M=>
 bz (ez e) (un (aJ (bb (cd (af (ad e)) 2 [H]))) fun N=>
 bz (one H) (z N L M)))
 (z e b c)))))))))))
noncomputable def KM:bI:=⟨51,[(1,(pg.cellsOf 46))],[3,4,8,9,14,15,21,22,28,34,40,46],[0,2],[7,10,11,13,16,17,18,20,23,24,25,27,29,30,31,33,35,36,37,39,41,42,43,45,47,48,49],[]⟩
def AW (bf bB:Int) (bD bT:Nat) (cm cn cq cy dp cQ:Int) (bX bV:Value):Prop:=
 (aa pg X0 w0 (aI .eql 3 (.tmp 5) (.const (I 0)) (I bf) (I 0)) fun a=>
 un (aL a true (I bB)) fun b=>
 aF pg X0 w0 a true (vS (aI .eql 3 (.tmp 10) (.const (I 0)) b (I 0))) fun c=>
 ay pg X0 w0 (aN a c (B false)) fun d=>
 un (aL d true (.float .f64 bD)) fun e=>
 jn (fun (g:Value) (h:World) (i:XS)=>
 aF pg i h d true (vS (aI .eql 196 (.tmp 17) (.const (aA bc 0)) g (aA bc 0))) fun j=>
 ay pg i h (aN d j (B false)) fun k=>
 un (aL k true (.float .f64 bT)) fun l=>
 jn (fun (m:Value) (n:World) (o:XS)=>
 aF pg o n k true (vS (aI .eql 196 (.tmp 24) (.const (aA bc 0)) m (aA bc 0))) fun q=>
 ay pg o n (aN k q (B false)) fun r=>
 un (aL r true (.agg #[(I cm),(I cn),(I cq)])) fun s=>
 aF pg o n r true (vS (fF 35 #[(I 0),(I 0),(I 0)] #[])) fun t=>
 aF pg o n r true (vS (aI .eql 35 (.tmp 29) (.tmp 30) s t)) fun v=>
 ay pg o n (aN r v (B false)) fun y=>
 un (aL y true (.agg #[(I cy),(I dp),(I cQ)])) fun z=>
 aF pg o n y true (vS (fF 35 #[(I 0),(I 0),(I 0)] #[])) fun A=>
 aF pg o n y true (vS (aI .eql 35 (.tmp 35) (.tmp 36) z A)) fun C=>
 ay pg o n (aN y C (B false)) fun D=>
 un (aL D true bX) fun E=>
 aF pg o n D true (vS (cr 43 3 E)) fun F=>
 aF pg o n D true (vS (aI .eql 3 (.tmp 42) (.const (I 0)) F (I 0))) fun G=>
 ay pg o n (aN D G (B false)) fun H=>
 un (aL H true bV) fun L=>
 aF pg o n H true (vS (cr 44 3 L)) fun M=>
 aF pg o n H true (vS (aI .eql 3 (.tmp 48) (.const (I 0)) M (I 0))) fun N=>
 ay pg o n (aN H N (B false)) fun O=>
 (fin R o n O)) fun Q=>
 (gE k true (eC pg R i h true 111 #[l] Q) (Q undef h i))) fun S=>
 (gE d true (eC pg R X0 w0 true 111 #[e] S) (S undef w0 X0)))
noncomputable def NS:bI:=⟨11,[(3,(pg.cellsOf 35))],[],[0,1,4,5],[],[]⟩
def C3 (p0:Bool) (dE dJ dL:Int):Prop:=
 ((ao (B p0)
 (eC pg R X0 w0 true 302 #[(.agg #[(I dE),(I dJ),(I dL)])] fun a b c=>
 (fin R c b a))
 ((aa pg X0 w0 (fF 35 #[(I 0),(I 0),(I 0)] #[]) fun d=>
 aa pg X0 w0 (aI .eql 35 (.tmp 8) (.tmp 9) (.agg #[(I dE),(I dJ),(I dL)]) d) fun e=>
 (fin R X0 w0 e)))))
noncomputable def PD:bI:=⟨13,[],[],[0,2,3,4,8],[],[]⟩
def EH (p0:Nat):Prop:=
 (eC pg R X0 w0 true 348 #[(.float .f64 p0)] fun a b c=>
 aa pg c b (aI .eql 3 (.tmp 6) (.const (I 4)) a (I 4)) fun d=>
 (ao d
 ((fin R c b (az #[(.float .f64 0),(I 0)])))
 (eC pg R c b true 314 #[(.float .f64 p0)] fun e g h=>
 aa pg h g (aY bF e) fun i=>
 (ao i
 ((fin R h g (az #[(.float .f64 0),(I 1)])))
 ((((fin R h g (az #[(.float .f64 p0),(I 0)])))))))))
noncomputable def PE:bI:=⟨9,[],[],[0,2],[5,6,7],[]⟩
def EI (p0:Int):Prop:=
 (aa pg X0 w0 (binOp .geq 3 (I p0) (I 1)) fun a=>
 un (aL a true (I p0)) fun b=>
 aF pg X0 w0 a true (vS (binOp .leq 3 b (I 12))) fun c=>
 ay pg X0 w0 (aN a c (B false)) fun d=>
 (fin R X0 w0 d))
noncomputable def PF:bI:=⟨10,[(1,(pg.cellsOf 35))],[],[0,2],[5,6,7,8],[]⟩
def EJ (bf bB bD:Int):Prop:=
 (eC pg R X0 w0 true 165 #[(.agg #[(I bf),(I bB),(I bD)])] fun a b c=>
 un (aL a true (.agg #[(I bf),(I bB),(I bD)])) fun d=>
 aF pg c b a true (vS (fF 35 #[(I 0),(I 0),(I 0)] #[])) fun e=>
 aF pg c b a true (vS (aI .neq 35 (.tmp 6) (.tmp 7) d e)) fun g=>
 ay pg c b (aN a g (B false)) fun h=>
 (fin R c b h))
def Hf (p0:Value):Prop:=
 (aa pg X0 w0 (cr 54 3 p0) fun a=>
 (jB X0 w0 (I 0) 7 fun b c d e g=>
 aa pg g e (binOp .lss 3 d a) fun h=>
 (ao h
 ((aa pg g e (dx 54 4 p0 d) fun i=>
 aa pg g e (gL 74 4 i) fun j=>
 un (aJ (ad j)) fun k=>
 bz (aB (af (ad j))==4) (bz (aT (af (ad j)) one) ((bz (ez k) (un (cellOf k 0) fun l=>
 eC pg R g e true 312 #[l] fun m n o=>
 aa pg o n (aY bF m) fun q=>
 un (aL q false d) fun r=>
 aF pg o n q false (vS (binOp .gtr 3 r (I 0))) fun s=>
 un (aL q false s) fun t=>
 un (aL t true p0) fun v=>
 un (aL t true d) fun y=>
 aF pg o n t true (vS (binOp .sub 3 y (I 1))) fun z=>
 aF pg o n t true (vS (dx 54 4 v z)) fun A=>
 aF pg o n t true (vS (aQ 74 0 0 1 A)) fun C=>
 aF pg o n t true (vS (aX 9 C)) fun D=>
 un (aL t true l) fun E=>
 aF pg o n t true (vS (binOp .geq 9 D E)) fun F=>
 aF pg o n q false (aN t F (B false)) fun G=>
 ay pg o n (aN q (B true) G) fun H=>
 un (eQ k 1 3) fun L=>
 un (aL H false L) fun M=>
 jn (fun (N:Value) (O:World) (Q:XS)=>
 aF pg Q O H false (vS (aY bF N)) fun S=>
 ay pg Q O (aN H (B true) S) fun T=>
 un (cellOf k 1) fun U=>
 un (aL T false U) fun V=>
 aF pg Q O T false (vS (aI .eql 3 (.tmp 40) (.const (I 0)) V (I 0))) fun Y=>
 ay pg Q O (aN T (B true) Y) fun Z=>
 (ao Z
 (fin R Q O (B false))
 (((aa pg Q O (binOp .add 3 d (I 1)) fun a0=>
 jC b c a0 O Q))))) fun b0=>
 (gE H false (eC pg R o n true 158 #[M] b0) (b0 undef n o))))))))
 (fin R g e (B true)))))
noncomputable def TG:bI:=⟨8,[],[],[0,2,5],[],[]⟩
def I0 (p0:Nat):Prop:=
 (aa pg X0 w0 (aI .neq 40 (.tmp 3) (.tmp 4) (.float .f64 p0) (.float .f64 p0)) fun a=>
 (ao a
 (eC pg R X0 w0 true 346 #[(aA bc 9221120237041090560)] fun b c d=>
 (fin R d c b))
 (fin R X0 w0 (.float .f64 p0))))
noncomputable def Wf:bI:=⟨13,[],[],[0,2,3,8],[],[]⟩
def LC (p0:Nat):Prop:=
 (eC pg R X0 w0 true 225 #[(.float .f64 p0)] fun a b c=>
 (aa pg c b (binOp .and 196 a (aA bc 9223372036854775808)) fun d=>
 aa pg c b (aI .neq 196 (.tmp 7) (.const (aA bc 0)) d (aA bc 0)) fun e=>
 (ao e
 (aa pg c b (aY tS a) fun g=>
 (fin R c b g))
 ((aa pg c b (binOp .or 196 a (aA bc 9223372036854775808)) fun h=>
 (fin R c b h))))))
noncomputable def TH:bI:=⟨11,[],[],[0,2],[6,7,8,9],[]⟩
def I2 (p0:ByteArray):Prop:=
 (aa pg X0 w0 (nu 9 3 (.string p0)) fun a=>
 aa pg X0 w0 (binOp .geq 3 a (I 1)) fun b=>
 un (aL b true (.string p0)) fun c=>
 aF pg X0 w0 b true (vS (nu 9 3 c)) fun d=>
 aF pg X0 w0 b true (vS (binOp .leq 3 d (I 24))) fun e=>
 ay pg X0 w0 (aN b e (B false)) fun g=>
 (fin R X0 w0 g))
def Hg (p0:Value):Prop:=
 (aa pg X0 w0 (cr 38 3 p0) fun a=>
 (jB X0 w0 (I 0) 7 fun b c d e g=>
 aa pg g e (binOp .lss 3 d a) fun h=>
 (ao h
 ((aa pg g e (dx 38 4 p0 d) fun i=>
 aa pg g e (gL 42 4 i) fun j=>
 un (aJ (ad j)) fun k=>
 bz (aB (af (ad j))==4) (bz (aT (af (ad j)) one) ((bz (ez k) (un (eQ k 0 4) fun l=>
 eC pg R g e true 245 #[l] fun m n o=>
 aa pg o n (aY bF m) fun q=>
 (ao q
 (fin R o n (B false))
 (((aa pg o n (binOp .add 3 d (I 1)) fun r=>
 jC b c r n o))))))))))
 (((aa pg g e (cr 38 3 p0) fun s=>
 aa pg g e (binOp .leq 3 s (I 12)) fun t=>
 (fin R g e t)))))))
noncomputable def PG:bI:=⟨10,[],[],[0,2],[6,7,8],[]⟩
def EK (p0:Nat):Prop:=
 (eC pg R X0 w0 true 348 #[(.float .f64 p0)] fun a b c=>
 aa pg c b (binOp .geq 3 a (I 5)) fun d=>
 un (aL d true (.float .f64 p0)) fun e=>
 aF pg c b d true (vS (binOp .leq 40 e (.float .f64 4607182418800017408))) fun g=>
 ay pg c b (aN d g (B false)) fun h=>
 (fin R c b h))
def LF:Prop:=
 (eV pg R X0 w0 true (Instr.makeMap 379 none) fun a b c=>
 eV pg R c b true (Instr.makeMap 380 none) fun d e g=>
 aa pg g e (fF 382 #[a,d,(I 0),(I 0),(I 0)] #[(0,a),(1,d)]) fun h=>
 eV pg R g e true (de 382 h) fun i j k=>
 (fin R k j i))
noncomputable def NT:bI:=⟨52,[(2,(pg.cellsOf 288)),(5,(pg.cellsOf 35)),(7,(pg.cellsOf 337))],[8,13,19,25,32,37,44,49],[0,1,4,23,26,27,28,29,48],[12,14,15,16,18,20,21,22,36,38,39,40,41,43,45,46,47],[5,28]⟩
def C4 (bf:ByteArray) (bB:Value) (p1:ByteArray):Prop:=
 (eC pg R X0 w0 true 312 #[(.string bf)] fun a b c=>
 aa pg c b (aY bF a) fun d=>
 un (aL d false (.string bf)) fun e=>
 un (aL d false (.string p1)) fun g=>
 aF pg c b d false (vS (binOp .leq 9 e g)) fun h=>
 ay pg c b (aN d (B true) h) fun i=>
 un (aL i false bB) fun j=>
 aF pg c b i false (vS (cr 286 3 j)) fun k=>
 aF pg c b i false (vS (aI .eql 3 (.tmp 21) (.const (I 0)) k (I 0))) fun l=>
 ay pg c b (aN i (B true) l) fun m=>
 (ao m
 (fin R c b (B false))
 ((aa pg c b (fF 35 #[(I 0),(I 0),(I 0)] #[]) fun n=>
 un (aJ (ad n)) fun o=>
 bz (aB (af (ad n))==3) (bz (aT (af (ad n)) one) ((aa pg c b (cr 286 3 bB) fun q=>
 (lq c b (I 0) o 28 5 fun r s t v y z=>
 aa pg z y (binOp .lss 3 t q) fun A=>
 (ao A
 ((aa pg z y (dx 286 6 bB t) fun C=>
 aa pg z y (gL 337 6 C) fun D=>
 un (aJ (ad D)) fun E=>
 bz (aB (af (ad D))==6) (bz (aT (af (ad D)) one) ((bz (ez E) (un (eQ E 0 3) fun F=>
 eC pg R z y true 165 #[F] fun G H L=>
 aa pg L H (aY bF G) fun M=>
 un (aL M false F) fun N=>
 bz (ez v) (un (eQ v 0 3) fun O=>
 un (aL M false O) fun Q=>
 jn (fun (S:Value) (T:World) (U:XS)=>
 aF pg U T M false (vS (binOp .leq 3 S (I 0))) fun V=>
 ay pg U T (aN M (B true) V) fun Y=>
 un (eQ E 3 3) fun Z=>
 un (aL Y false Z) fun a0=>
 jn (fun (b0:Value) (c0:World) (d0:XS)=>
 aF pg d0 c0 Y false (vS (aY bF b0)) fun e0=>
 ay pg d0 c0 (aN Y (B true) e0) fun g0=>
 (ao g0
 (fin R d0 c0 (B false))
 ((bz (ez E) (bz (ez v) (un (aJ (ad F)) fun h0=>
 bz (aB (af (ad F))==3) (bz (aT (af (ad F)) one) (((aa pg d0 c0 (binOp .add 3 t (I 1)) fun i0=>
 lr r s i0 h0 c0 d0)))))))))) fun j0=>
 (gE Y false (eC pg R U T true 158 #[a0] j0) (j0 undef T U))) fun k0=>
 (gE M false (eC pg R L H true 53 #[N,Q] k0) (k0 undef H L)))))))))
 (fin R z y (B true)))))))))))
def lU (p0:Value):Prop:=
 (aa pg X0 w0 (aI .eql 286 (.tmp 3) (.const (.slice none 0 0)) p0 (.slice none 0 0)) fun a=>
 (ao a
 (fin R X0 w0 (.slice none 0 0))
 (eV pg R X0 w0 true (jc 286 337 6 0 #[]) fun b c d=>
 eV pg R d c true (iS 286 337 6 56 286 b p0) fun e g h=>
 (fin R h g e))))
noncomputable def FI:bI:=⟨50,[(3,(pg.cellsOf 229)),(6,(pg.cellsOf 229)),(8,(pg.cellsOf 53))],[20,28,32,34,39],[0,1,4,10,15,17,21,22,23,24,37,40,41,42,43,48],[31,33,35,36],[23,42]⟩
def xX (p0:Value) (_p1_0 _p1_1 _p1_2 _p1_3 _p1_4 _p1_5:Int) (je jf:Value):Prop:=
 (ay pg X0 w0 (aH p0) fun a=>
 aa pg X0 w0 (aQ 382 1 1 1 a) fun b=>
 aa pg X0 w0 (aX 380 b) fun c=>
 eV pg R X0 w0 true (Instr.range 380 c) fun d e g=>
 (lq g e undef undef 42 23 fun h i _ _ j k=>
 eV pg R k j true (Instr.next d false 0) fun l m n=>
 aa pg n m (aE l 0) fun o=>
 (ao o
 ((eV pg R n m true (Instr.entry d) fun q r s=>
 aa pg s r (aE q 1) fun t=>
 un (aJ (ad t)) fun v=>
 bz (aB (af (ad t))==8) (bz (aT (af (ad t)) one) ((aa pg s r (cr 23 3 jf) fun y=>
 (jB s r (I 0) 23 fun z A C D E=>
 aa pg E D (binOp .lss 3 C y) fun F=>
 (ao F
 ((aa pg E D (dx 23 4 jf C) fun G=>
 aa pg E D (gL 53 4 G) fun H=>
 un (aJ (ad H)) fun L=>
 bz (aB (af (ad H))==4) (bz (aT (af (ad H)) one) ((bz (ez v) (bz (ez L) (un (eQ v 0 8) fun M=>
 un (cellOf L 0) fun N=>
 eC pg R E D true 350 #[M,N] fun O Q S=>
 un (cellOf v 6) fun T=>
 un (aL O false T) fun U=>
 un (aL O false N) fun V=>
 jn (fun (Y:Value) (Z:World) (a0:XS)=>
 ay pg a0 Z (aN O (B true) Y) fun b0=>
 (ao b0
 (fin R a0 Z (B true))
 (((aa pg a0 Z (binOp .add 3 C (I 1)) fun c0=>
 jC z A c0 Z a0))))) fun d0=>
 (gE O false (eC pg R S Q true 351 #[U,V] d0) (d0 undef Q S)))))))))
 (((aa pg E D (cr 36 3 je) fun e0=>
 (jB E D (I 0) 42 fun g0 h0 i0 j0 k0=>
 aa pg k0 j0 (binOp .lss 3 i0 e0) fun l0=>
 (ao l0
 ((aa pg k0 j0 (dx 36 1 je i0) fun m0=>
 aa pg k0 j0 (aX 9 m0) fun n0=>
 (bz (ez v) (un (eQ v 0 8) fun o0=>
 eC pg R k0 j0 true 350 #[o0,n0] fun q0 r0 s0=>
 (ao q0
 (fin R s0 r0 (B true))
 (((aa pg s0 r0 (binOp .add 3 i0 (I 1)) fun t0=>
 jC g0 h0 t0 r0 s0))))))))
 (lr h i i0 C j0 k0)))))))))))))
 (fin R n m (B false)))))
noncomputable def KN:bI:=⟨24,[(3,(pg.cellsOf 229)),(6,(pg.cellsOf 53))],[7,15,19],[0,1,4,8,9,10,11,22],[],[10]⟩
def AX (p0:Value) (_p1_0 _p1_1 _p1_2 gX iQ iR:Int) (_p1_6 jf:Value):Prop:=
 (aa pg X0 w0 (cr 23 3 jf) fun a=>
 (jB X0 w0 (I 0) 10 fun b c d e g=>
 aa pg g e (binOp .lss 3 d a) fun h=>
 (ao h
 ((aa pg g e (dx 23 4 jf d) fun i=>
 aa pg g e (gL 53 4 i) fun j=>
 un (aJ (ad j)) fun k=>
 bz (aB (af (ad j))==4) (bz (aT (af (ad j)) one) ((bz (ez k) (un (cellOf k 0) fun l=>
 eC pg R g e false 352 #[p0,l] fun m n o=>
 aa pg o n (Xh 266 2 4 3 m) fun q=>
 eC pg R o n true 53 #[q,(.agg #[(I gX),(I iQ),(I iR)])] fun r s t=>
 aa pg t s (binOp .geq 3 r (I 0)) fun v=>
 (ao v
 (fin R t s (B true))
 (((aa pg t s (binOp .add 3 d (I 1)) fun y=>
 jC b c y s t))))))))))
 (fin R g e (B false)))))
noncomputable def RK:bI:=⟨12,[(1,(pg.cellsOf 229)),(2,(pg.cellsOf 229))],[3,6,7,10],[0],[],[]⟩
def Hh (bf bB bD bT cm cn:Int) (cq cy:Value):Prop:=
 (eC pg R X0 w0 true 353 #[cq] fun a b c=>
 bz (one a) ((eC pg R c b true 60 #[cy] fun d e g=>
 bz (one d) ((bz (aT [(I bf),(I bB),(I bD),(I bT),(I cm),(I cn),a,d] one) ((fin R g e (.agg #[(I bf),(I bB),(I bD),(I bT),(I cm),(I cn),a,d]))))))))
noncomputable def RL:bI:=⟨37,[],[],[0,2,3,4,6,8,9,10,21,22,23],[],[3,9,22]⟩
def Hi (p0:ByteArray):Prop:=
 ((aa pg X0 w0 (nu 9 3 (.string p0)) fun a=>
 (lq X0 w0 (I 0) (aA bc 14695981039346656037) 9 3 fun b c d e g h=>
 aa pg h g (binOp .lss 3 d a) fun i=>
 (ao i
 (((aa pg h g (Instr.index 9 (.string p0) d) fun j=>
 aa pg h g (mO bc 5 196 j) fun k=>
 aa pg h g (binOp .xor 196 e k) fun l=>
 (aa pg h g (binOp .mul 196 l (aA bc 1099511628211)) fun m=>
 ((aa pg h g (binOp .add 3 d (I 1)) fun n=>
 lr b c n m g h))))))
 (((aa pg h g (fF 409 #[(aA bc 18397679294719823053),(aA bc 14181476777654086739)] #[(0,(aA bc 18397679294719823053)),(1,(aA bc 14181476777654086739))]) fun o=>
 (lq h g (I 0) e 22 3 fun q r s t v y=>
 aa pg y v (binOp .lss 3 s (I 2)) fun z=>
 (ao z
 ((aa pg y v (AB 409 2 196 o s) fun A=>
 (aa pg y v (binOp .shr 196 t (aA bc 33)) fun C=>
 aa pg y v (binOp .xor 196 t C) fun D=>
 (aa pg y v (binOp .mul 196 D A) fun E=>
 ((aa pg y v (binOp .add 3 s (I 1)) fun F=>
 lr q r F E v y))))))
 (((aa pg y v (binOp .shr 196 t (aA bc 33)) fun G=>
 aa pg y v (binOp .xor 196 t G) fun H=>
 (fin R y v H)))))))))))))
def I3 (p0:Value):Prop:=
 (aa pg X0 w0 (cr 36 3 p0) fun a=>
 (jB X0 w0 (I 0) 7 fun b c d e g=>
 aa pg g e (binOp .lss 3 d a) fun h=>
 (ao h
 ((aa pg g e (dx 36 1 p0 d) fun i=>
 aa pg g e (aX 9 i) fun j=>
 (eC pg R g e true 312 #[j] fun k l m=>
 aa pg m l (aY bF k) fun n=>
 un (aL n false d) fun o=>
 aF pg m l n false (vS (binOp .gtr 3 o (I 0))) fun q=>
 un (aL n false q) fun r=>
 un (aL r true p0) fun s=>
 un (aL r true d) fun t=>
 aF pg m l r true (vS (binOp .sub 3 t (I 1))) fun v=>
 aF pg m l r true (vS (dx 36 1 s v)) fun y=>
 aF pg m l r true (vS (aX 9 y)) fun z=>
 un (aL r true j) fun A=>
 aF pg m l r true (vS (binOp .geq 9 z A)) fun C=>
 aF pg m l n false (aN r C (B false)) fun D=>
 ay pg m l (aN n (B true) D) fun E=>
 (ao E
 (fin R m l (B false))
 (((aa pg m l (binOp .add 3 d (I 1)) fun F=>
 jC b c F l m)))))))
 (((aa pg g e (cr 36 3 p0) fun G=>
 aa pg g e (binOp .leq 3 G (I 16)) fun H=>
 (fin R g e H)))))))
def AY (p0:Value):Prop:=
 ((aa pg X0 w0 (cr 23 3 p0) fun a=>
 (lq X0 w0 (I 0) (.slice none 0 0) 8 3 fun b c d e g h=>
 aa pg h g (binOp .lss 3 d a) fun i=>
 (ao i
 ((aa pg h g (dx 23 4 p0 d) fun j=>
 aa pg h g (gL 53 4 j) fun k=>
 un (aJ (ad k)) fun l=>
 bz (aB (af (ad k))==4) (bz (aT (af (ad k)) one) ((bz (ez l) (un (cellOf l 0) fun m=>
 eV pg R h g true (jc 36 9 1 1 #[(0,m)]) fun n o q=>
 eV pg R q o true (iS 36 9 1 16 36 e n) fun r s t=>
 ((aa pg t s (binOp .add 3 d (I 1)) fun v=>
 lr b c v r s t))))))))
 (fin R h g e)))))
noncomputable def EL:bI:=⟨26,[],[],[0,1,4,5,6,7,12,20],[],[]⟩
def wP (p0:Value) (p1:Int):Prop:=
 (ay pg X0 w0 (aH p0) fun a=>
 aa pg X0 w0 (aQ 223 2 2 1 a) fun b=>
 aa pg X0 w0 (aX 29 b) fun c=>
 aa pg X0 w0 (aI .neq 29 (.tmp 11) (.const (I 0)) c (I 0)) fun d=>
 (ao d
 (fin R X0 w0 (I 0))
 ((eC pg R X0 w0 true 293 #[p0,(I p1),(I 4)] fun e g h=>
 aa pg h g (aE e 0) fun i=>
 aa pg h g (aE e 1) fun j=>
 aa pg h g (aE e 2) fun k=>
 ((jn (fun (l:World) (m:XS)=>
 (fin R m l i)) fun n=>
 (ao k
 (ay pg h g (aH p0) fun o=>
 aa pg h g (aQ 223 1 1 1 o) fun q=>
 eU pg R h g true (eo 3 1 q j) fun _ r s=>
 (n r s))
 (n g h))))))))
noncomputable def TJ:bI:=⟨36,[],[],[0,2,3,4,5,6,14,21,24,27,32],[17,18,19],[]⟩
def I4 (p0:Nat):Prop:=
 (eC pg R X0 w0 true 225 #[(.float .f64 p0)] fun a b c=>
 (aa pg c b (binOp .shr 196 a (aA bc 52)) fun d=>
 aa pg c b (binOp .and 196 d (aA bc 2047)) fun e=>
 aa pg c b (binOp .and 196 a (aA bc 4503599627370495)) fun g=>
 (((jn (fun (h:Value)=>
 (aa pg c b (binOp .and 196 a (aA bc 9223372036854775808)) fun i=>
 aa pg c b (aI .neq 196 (.tmp 31) (.const (aA bc 0)) i (aA bc 0)) fun j=>
 (ao j
 (aa pg c b (binOp .sub 3 (I 9) h) fun k=>
 (fin R c b k))
 (fin R c b h)))) fun l=>
 aa pg c b (aI .eql 196 (.tmp 15) (.const (aA bc 2047)) e (aA bc 2047)) fun m=>
 un (aL m true g) fun n=>
 aF pg c b m true (vS (aI .neq 196 (.tmp 18) (.const (aA bc 0)) n (aA bc 0))) fun o=>
 ay pg c b (aN m o (B false)) fun q=>
 (ao q
 (fin R c b (I 0))
 (aa pg c b (aI .eql 196 (.tmp 22) (.const (aA bc 2047)) e (aA bc 2047)) fun r=>
 (ao r
 (l (I 8))
 (aa pg c b (binOp .gtr 196 e (aA bc 0)) fun s=>
 (ao s
 (l (I 7))
 (aa pg c b (binOp .gtr 196 g (aA bc 0)) fun t=>
 (ao t
 (l (I 6))
 (l (I 5))))))))))))))
noncomputable def PH:bI:=⟨9,[(2,(pg.cellsOf 229))],[5],[0,1,3,4],[],[]⟩
def EM (_p0_0 _p0_1 _p0_2 _p0_3 _p0_4 _p0_5:Int) (_p0_6 cy:Value) (p1:ByteArray):Prop:=
 eV pg R X0 w0 true (de 9 (.string p1)) fun a b c=>
 (aa pg c b (cE (gD 370) #[] #[a]) fun d=>
 eC pg R c b true 369 #[cy,d] fun e g h=>
 (fin R h g e))
noncomputable def uX:bI:=⟨92,[(2,(pg.cellsOf 28)),(3,(pg.cellsOf 48)),(4,(pg.cellsOf 56)),(5,(pg.cellsOf 29))],[17,22,26,31,35,45,55,57,59,61,70,72,74,84],[0,1,7,12,30,52,68],[16,18,19,21,23,24,25,27,28,29,34,36,37,38,39,40,41,42,44,46,47,48,49,50,51],[]⟩
def qH (p0:Value) (dE dJ dL gX iQ iR je jf lH km jr js kI kJ j5:Int) (lX:Bool) (jZ lY:Int) (lZ l7 kK l8 l9 mc:Value) (me mf:Int) (mg mh:Nat) (mi ux uy uz uA uB:Int) (uC uD:Value):Prop:=
 bz (one p0) ((ay pg X0 w0 (aH p0) fun a=>
 aa pg X0 w0 (aQ 112 3 3 1 a) fun b=>
 aa pg X0 w0 (aX 4 b) fun c=>
 (ao c
 ((fin R X0 w0 (az #[(.slice none 0 0),(I 12)])))
 ((eC pg R X0 w0 true 52 #[(.agg #[(I dE),(I dJ),(I dL),(I gX),(I iQ),(I iR),(I je),(I jf),(I lH),(I km),(I jr),(I js),(I kI),(I kJ),(I j5),(B lX),(I jZ),(I lY),lZ,l7,kK,l8,l9,mc,(I me),(I mf),(.float .f64 mg),(.float .f64 mh),(I mi),(I ux),(I uy),(I uz),(I uA),(I uB),uC,uD])] fun d e g=>
 aa pg g e (aI .neq 29 (.tmp 14) (.const (I 0)) d (I 0)) fun h=>
 un (aL h false (I dL)) fun i=>
 aF pg g e h false (vS (aI .neq 3 (.tmp 18) (.const (I 32)) i (I 32))) fun j=>
 ay pg g e (aN h (B true) j) fun k=>
 un (aL k false (I dE)) fun l=>
 aF pg g e k false (vS (aI .neq 3 (.tmp 23) (.const (I 12)) l (I 12))) fun m=>
 un (aL k false m) fun n=>
 un (aL n true (I dE)) fun o=>
 aF pg g e n true (vS (aI .neq 3 (.tmp 27) (.const (I 13)) o (I 13))) fun q=>
 aF pg g e k false (aN n q (B false)) fun r=>
 ay pg g e (aN k (B true) r) fun s=>
 (ao s
 ((fin R g e (az #[(.slice none 0 0),(I 0)])))
 (((jn (fun (t:World) (v:XS)=>
 ay pg v t (aH p0) fun y=>
 aa pg v t (aQ 112 5 5 3 y) fun z=>
 aa pg v t (gL 35 3 z) fun A=>
 un (cellOf A 0) fun C=>
 un (cellOf A 1) fun D=>
 un (cellOf A 2) fun E=>
 aa pg v t (fF 48 #[(I 14),(I 32),(I dJ),(I 0),(I 0),(I 0),(I 0),(I 0),(I 0),C,D,E,(I 0),(I 0),(I 0),(B false),(I 0),(I 0),(.slice none 0 0),(.slice none 0 0),(.slice none 0 0),(.slice none 0 0),(.slice none 0 0),(.slice none 0 0),(I 0),(I 0),(.float .f64 0),(.float .f64 0),(I 0),(I 0),(I 0),(I 0),(I 0),(I 0),(.slice none 0 0),(.slice none 0 0)] #[(0,(I 14)),(1,(I 32)),(2,(I dJ)),(7,A)]) fun F=>
 eV pg R v t true (jc 56 48 36 1 #[(0,F)]) fun G H L=>
 bz (one G) ((fin R L H (az #[G,(I 0)])))) fun M=>
 aa pg g e (aI .eql 3 (.tmp 32) (.const (I 12)) (I dE) (I 12)) fun N=>
 un (aL N true (.agg #[(I km),(I jr),(I js)])) fun O=>
 un (aL N true p0) fun Q=>
 aF pg g e N true (aH Q) fun S=>
 aF pg g e N true (vS (aQ 112 5 5 3 S)) fun T=>
 aF pg g e N true (vS (gL 35 3 T)) fun U=>
 jn (fun (V:Value) (Y:World) (Z:XS)=>
 aF pg Z Y N true (vS (binOp .gtr 3 V (I 0))) fun a0=>
 ay pg Z Y (aN N a0 (B false)) fun b0=>
 un (aL b0 true (.agg #[(I kI),(I kJ),(I j5)])) fun c0=>
 un (aL b0 true p0) fun d0=>
 aF pg Z Y b0 true (aH d0) fun e0=>
 aF pg Z Y b0 true (vS (aQ 112 5 5 3 e0)) fun g0=>
 aF pg Z Y b0 true (vS (gL 35 3 g0)) fun h0=>
 aF pg Z Y b0 true (vS (aI .eql 35 (.tmp 46) (.tmp 50) c0 h0)) fun i0=>
 ay pg Z Y (aN b0 i0 (B false)) fun j0=>
 (ao j0
 (aa pg Z Y (fF 117 #[(I 11),(I gX),(I iQ),(I iR),(I km),(I jr),(I js),(I kI),(I kJ),(I j5),(B false),(I 0),(.float .f64 0),(.slice none 0 0),kK,(.slice none 0 0),(.slice none 0 0),(I 0),(I 0),(.float .f64 0),(.float .f64 0),(I 0),(I 0),(I 0),(I 0),(I 0),(I 0),(.slice none 0 0),(.slice none 0 0)] #[(0,(I 11)),(3,(.agg #[(I kI),(I kJ),(I j5)])),(2,(.agg #[(I km),(I jr),(I js)])),(1,(.agg #[(I gX),(I iQ),(I iR)])),(8,kK)]) fun k0=>
 eC pg R Z Y true 54 #[p0,k0] fun l0 m0 n0=>
 aa pg n0 m0 (aE l0 0) fun _=>
 aa pg n0 m0 (aE l0 1) fun o0=>
 (aa pg n0 m0 (aI .eql 29 (.tmp 67) (.const (I 0)) o0 (I 0)) fun q0=>
 (ao q0
 (eC pg R n0 m0 true 55 #[p0,(.agg #[(I gX),(I iQ),(I iR)]),(.agg #[(I km),(I jr),(I js)]),kK] fun _ r0 s0=>
 (ay pg s0 r0 (aH p0) fun t0=>
 aa pg s0 r0 (aQ 112 2 2 1 t0) fun v0=>
 aa pg s0 r0 (aX 3 v0) fun y0=>
 aa pg s0 r0 (binOp .add 3 y0 (I 1)) fun z0=>
 ay pg s0 r0 (aH p0) fun A0=>
 aa pg s0 r0 (aQ 112 2 2 1 A0) fun C0=>
 eU pg R s0 r0 true (eo 3 1 C0 z0) fun _ D0 E0=>
 (M D0 E0)))
 (M m0 n0))))
 (M Y Z))) fun F0=>
 (gE N true (eC pg R g e true 53 #[O,U] F0) (F0 undef e g)))))))))))
noncomputable def uY:bI:=⟨52,[(1,(pg.cellsOf 28)),(2,(pg.cellsOf 29))],[],[0,3,5,10,40],[16,17,18,19,20,21,22,23,24,25],[]⟩
def uZ (p0:Value):Prop:=
 bz (one p0) ((ay pg X0 w0 (aH p0) fun a=>
 aa pg X0 w0 (aQ 112 3 3 1 a) fun b=>
 aa pg X0 w0 (aX 4 b) fun c=>
 (ao c
 (fin R X0 w0 (I 12))
 (ay pg X0 w0 (aH p0) fun d=>
 aa pg X0 w0 (aQ 112 1 1 1 d) fun e=>
 aa pg X0 w0 (aX 3 e) fun g=>
 aa pg X0 w0 (aI .eql 3 (.tmp 14) (.const (I 0)) g (I 0)) fun h=>
 un (aL h false p0) fun i=>
 aF pg X0 w0 h false (aH i) fun j=>
 aF pg X0 w0 h false (vS (aQ 112 2 2 1 j)) fun k=>
 aF pg X0 w0 h false (vS (aX 3 k)) fun l=>
 aF pg X0 w0 h false (aH i) fun m=>
 aF pg X0 w0 h false (vS (aQ 112 1 1 1 m)) fun n=>
 aF pg X0 w0 h false (vS (aX 3 n)) fun o=>
 aF pg X0 w0 h false (vS (binOp .lss 3 l o)) fun q=>
 ay pg X0 w0 (aN h (B true) q) fun r=>
 (ao r
 (fin R X0 w0 (I 0))
 (((ay pg X0 w0 (aH p0) fun s=>
 aa pg X0 w0 (aQ 112 5 5 3 s) fun t=>
 aa pg X0 w0 (gL 35 3 t) fun v=>
 eC pg R X0 w0 false 14 #[p0] fun y z A=>
 un (cellOf v 0) fun C=>
 un (cellOf v 1) fun D=>
 un (cellOf v 2) fun E=>
 aa pg A z (fF 117 #[(I 12),(I 0),(I 0),(I 0),C,D,E,(I 0),(I 0),(I 0),(B false),(I 0),(.float .f64 0),(.slice none 0 0),(.slice none 0 0),(.slice none 0 0),y,(I 0),(I 0),(.float .f64 0),(.float .f64 0),(I 0),(I 0),(I 0),(I 0),(I 0),(I 0),(.slice none 0 0),(.slice none 0 0)] #[(0,(I 12)),(2,v),(10,y)]) fun F=>
 eC pg R A z true 54 #[p0,F] fun G H L=>
 aa pg L H (aE G 0) fun M=>
 aa pg L H (aE G 1) fun N=>
 bz (one N) (((jn (fun (O:World) (Q:XS)=>
 (fin R Q O (I 0))) fun S=>
 aa pg L H (aI .eql 29 (.tmp 39) (.const (I 0)) N (I 0)) fun T=>
 (ao T
 (ay pg L H (aH p0) fun U=>
 aa pg L H (aQ 112 2 2 1 U) fun V=>
 eU pg R L H true (eo 3 1 V (I 0)) fun _ Y Z=>
 (ay pg Z Y (aH p0) fun a0=>
 aa pg Z Y (aQ 112 0 0 1 a0) fun b0=>
 aa pg Z Y (aX 107 b0) fun c0=>
 eC pg R Z Y true 58 #[c0,M] fun d0 e0 g0=>
 eC pg R g0 e0 true 57 #[p0,d0] fun _ h0 i0=>
 (S h0 i0)))
 (S H L)))))))))))))
noncomputable def PI:bI:=⟨43,[],[],[0,2,3,4,5,7,8,9,12,26,40],[35,36,37,38,39],[]⟩
def ze (p0:Value):Prop:=
 eV pg nP X0 w0 true (g7 117 true (az #[])) fun a b c=>
 eV pg nP c b true (g7 29 true (az #[])) fun d e g=>
 (aa pg g e (cE (gD 87) #[] #[a,d]) fun h=>
 (aa pg g e (cr 95 3 p0) fun i=>
 aa pg g e (binOp .gtr 3 i (I 262144)) fun j=>
 (ao j
 (aa pg g e (fF 117 #[(I 0),(I 0),(I 0),(I 0),(I 0),(I 0),(I 0),(I 0),(I 0),(I 0),(B false),(I 0),(.float .f64 0),(.slice none 0 0),(.slice none 0 0),(.slice none 0 0),(.slice none 0 0),(I 0),(I 0),(.float .f64 0),(.float .f64 0),(I 0),(I 0),(I 0),(I 0),(I 0),(I 0),(.slice none 0 0),(.slice none 0 0)] #[]) fun k=>
 eU pg (dP pg Tryz.f45 R [a,d,h]) g e true (eo 117 29 a k) fun _ l m=>
 eU pg (dP pg Tryz.f45 R [a,d,h]) m l true (eo 29 1 d (I 4)) fun _ n o=>
 (fin (dP pg Tryz.f45 R [a,d,h]) o n (az #[a,d,h])))
 ((eC pg (dP pg Tryz.f45 R [a,d,h]) g e true 88 #[p0] fun q r s=>
 (aa pg s r (fF 175 #[(.pointer none),q] #[(1,q)]) fun t=>
 eV pg (dP pg Tryz.f45 R [a,d,h]) s r true (de 175 t) fun v y z=>
 eC pg (dP pg Tryz.f45 R [a,d,h]) z y true 89 #[v,a] fun _ A C=>
 (eC pg (dP pg Tryz.f45 R [a,d,h]) C A true 90 #[q] fun D E F=>
 aa pg F E (aE D 0) fun G=>
 aa pg F E (aE D 1) fun _=>
 (aa pg F E (aI .neq 29 (.tmp 25) (.const (I 0)) G (I 0)) fun H=>
 (ao H
 (aa pg F E (fF 117 #[(I 0),(I 0),(I 0),(I 0),(I 0),(I 0),(I 0),(I 0),(I 0),(I 0),(B false),(I 0),(.float .f64 0),(.slice none 0 0),(.slice none 0 0),(.slice none 0 0),(.slice none 0 0),(I 0),(I 0),(.float .f64 0),(.float .f64 0),(I 0),(I 0),(I 0),(I 0),(I 0),(I 0),(.slice none 0 0),(.slice none 0 0)] #[]) fun L=>
 eU pg (dP pg Tryz.f45 R [a,d,h]) F E true (eo 117 29 a L) fun _ M N=>
 eU pg (dP pg Tryz.f45 R [a,d,h]) N M true (eo 29 1 d (I 4)) fun _ O Q=>
 (fin (dP pg Tryz.f45 R [a,d,h]) Q O (az #[a,d,h])))
 ((aa pg F E (gL 117 29 a) fun S=>
 eC pg (dP pg Tryz.f45 R [a,d,h]) F E true 91 #[S] fun T U V=>
 aa pg V U (aE T 0) fun Y=>
 aa pg V U (aE T 1) fun Z=>
 (aa pg V U (aI .neq 29 (.tmp 33) (.const (I 0)) Z (I 0)) fun a0=>
 un (aL a0 false Y) fun b0=>
 un (aL a0 false p0) fun c0=>
 jn (fun (d0:Value) (e0:World) (g0:XS)=>
 aF pg g0 e0 a0 false (vS (aY bF d0)) fun h0=>
 ay pg g0 e0 (aN a0 (B true) h0) fun i0=>
 (ao i0
 (aa pg g0 e0 (fF 117 #[(I 0),(I 0),(I 0),(I 0),(I 0),(I 0),(I 0),(I 0),(I 0),(I 0),(B false),(I 0),(.float .f64 0),(.slice none 0 0),(.slice none 0 0),(.slice none 0 0),(.slice none 0 0),(I 0),(I 0),(.float .f64 0),(.float .f64 0),(I 0),(I 0),(I 0),(I 0),(I 0),(I 0),(.slice none 0 0),(.slice none 0 0)] #[]) fun j0=>
 eU pg (dP pg Tryz.f45 R [a,d,h]) g0 e0 true (eo 117 29 a j0) fun _ k0 l0=>
 eU pg (dP pg Tryz.f45 R [a,d,h]) l0 k0 true (eo 29 1 d (I 4)) fun _ m0 n0=>
 (fin (dP pg Tryz.f45 R [a,d,h]) n0 m0 (az #[a,d,h])))
 ((aa pg g0 e0 (gL 117 29 a) fun o0=>
 eU pg (dP pg Tryz.f45 R [a,d,h]) g0 e0 true (eo 117 29 a o0) fun _ q0 r0=>
 eU pg (dP pg Tryz.f45 R [a,d,h]) r0 q0 true (eo 29 1 d (I 0)) fun _ s0 t0=>
 (fin (dP pg Tryz.f45 R [a,d,h]) t0 s0 (az #[a,d,h])))))) fun v0=>
 (gE a0 false (eC pg (dP pg Tryz.f45 R [a,d,h]) V U true 92 #[b0,c0] v0) (v0 undef U V))))))))))))))
end
theorem cv {f:FuncId} {fn:Func} {args:Array Value} {w:World} {R:Ending→World→Prop} {V:Prop} (pl:bI) (hf:pg.funcs[f]? =some fn) (h:V)
 (hs:(decide (args.size≤pl.n)&&pl.boxes.all fun p=>decide (args.size≤p.1))=true:=by kernel_rfl) (hv:V=Md pg (cF pg pl fn) R args w:=by kernel_rfl):Calls pg f args w R:=aO hf hs hv h
section
variable {R : Ending → World → Prop} {w0 : World} {p0 p1 p2 p3 p4 p5 p6 p7 p8 p9 p10 p11 : Value}
theorem DA {R:Ending→World→Prop} {w0:World} {p0:Value} {p1 p2:Int} (h:vF R w0 (aW w0) p0 p1 p2):Calls pg 5 #[p0,(I p1),(I p2)] w0 R:=
 aO (pl:=Du) Tryz.func5 (by kernel_rfl) (by kernel_rfl) h
theorem I5 (h:zN R w0 (aW w0)):Calls pg 9 #[] w0 R:=cv ⟨94,[],[],[0,1,2,3,4,5,6,7,8,11,22],[19,20,21,39,40,41,43,44,45,46,48,49,50,51,52,53,55,56,57,58,59,60,61,63,64,65,66,68,69,70,71,72,73,74,76,77,78,79,81,82,83,84,85,86,88,89,90,91,92],[]⟩ Tryz.func9 h
theorem DB {R:Ending→World→Prop} {w0:World} {p0:Value} {p1:Int} (h:vG R w0 (aW w0) p0 p1):Calls pg 10 #[p0,(I p1)] w0 R:=
 aO (pl:=Dv) Tryz.func10 (by kernel_rfl) (by kernel_rfl) h
theorem Wg (h:Lu R w0 (aW w0)):Calls pg 11 #[] w0 R:=cv ⟨4,[],[],[0],[],[]⟩ Tryz.func11 h
theorem I6 {R:Ending→World→Prop} {w0:World} {p0:Value} {p1 p2:Int} (h:BT R w0 (aW w0) p0 p1 p2):Calls pg 12 #[p0,(I p1),(I p2)] w0 R:=
 aO (pl:=Tw) Tryz.func12 (by kernel_rfl) (by kernel_rfl) h
theorem I7 {R:Ending→World→Prop} {w0:World} {p0 p1:Int} {p2:ByteArray} (h:zO R w0 (aW w0) p0 p1 p2):Calls pg 13 #[(I p0),(I p1),(.string p2)] w0 R:=
 aO (pl:=IF) Tryz.func13 (by kernel_rfl) (by kernel_rfl) h
theorem I8 (h:zP R w0 (aW w0) p0):Calls pg 14 #[p0] w0 R:=cv ⟨30,[],[],[0,2,3,5,11,12,13,14],[],[3,13]⟩ Tryz.func14 h
theorem Ms (h:BU R w0 (aW w0) p0 p1):Calls pg 18 #[p0,p1] w0 R:=cv ⟨42,[],[],[0,1,4,5,10,14,41],[28,29,30,31,32,33,34,35,36,37,38,39,40],[5]⟩ Tryz.func18 h
theorem KO (h:AD R w0 (aW w0) p0):Calls pg 19 #[p0] w0 R:=cv ⟨7,[(2,(pg.cellsOf 35))],[],[0],[],[]⟩ Tryz.func19 h
theorem KP (h:AE R w0 (aW w0) p0):Calls pg 20 #[p0] w0 R:=cv ⟨9,[],[],[0,2],[],[]⟩ Tryz.func20 h
theorem Mt (h:BV R w0 (aW w0) p0):Calls pg 22 #[p0] w0 R:=cv ⟨34,[],[],[0,2,3,4,16],[9,10,11,13,14,15,30,31,32],[3,4]⟩ Tryz.func22 h
theorem EN {R:Ending→World→Prop} {w0:World} {p0:Value} {p1:Int} (h:wM R w0 (aW w0) p0 p1):Calls pg 23 #[p0,(I p1)] w0 R:=
 aO (pl:=Et) Tryz.func23 (by kernel_rfl) (by kernel_rfl) h
theorem Mu {R:Ending→World→Prop} {w0:World} {bf:Int} {bB:Nat} {bD:ByteArray} {dE:Int} {dJ:Nat} {dL:ByteArray} (h:BW R w0 (aW w0) bf bB bD dE dJ dL):Calls pg 25 #[(.agg #[(I bf),(.float .f64 bB),(.string bD)]),(.agg #[(I dE),(.float .f64 dJ),(.string dL)])] w0 R:=
 aO (pl:=Ml) Tryz.func25 (by kernel_rfl) (by kernel_rfl) h
theorem NU (h:CJ R w0 (aW w0) p0 p1):Calls pg 27 #[p0,p1] w0 R:=cv ⟨27,[],[],[0,1,4,5,10,14,26],[],[5]⟩ Tryz.func27 h
theorem I9 (h:zQ R w0 (aW w0) p0 p1):Calls pg 28 #[p0,p1] w0 R:=cv ⟨100,[],[],[0,1,4,6,7,8,9,11,12,13,14,34,45],[39,40,41,42,43,44],[4,13]⟩ Tryz.func28 h
theorem PJ {R:Ending→World→Prop} {w0:World} {p0 p1 p2:Int} (h:Eu R w0 (aW w0) p0 p1 p2):Calls pg 40 #[(I p0),(I p1),(I p2)] w0 R:=
 aO (pl:=Pu) Tryz.func40 (by kernel_rfl) (by kernel_rfl) h
theorem LG {R:Ending→World→Prop} {w0:World} {p0:Value} {p1:ByteArray} {p2:Int} (h:Dw R w0 (aW w0) p0 p1 p2):Calls pg 41 #[p0,(.string p1),(I p2)] w0 R:=
 aO (pl:=V6) Tryz.func41 (by kernel_rfl) (by kernel_rfl) h
theorem Mw (h:BX R w0 (aW w0) p0):Calls pg 42 #[p0] w0 R:=cv ⟨12,[],[],[0,2],[],[]⟩ Tryz.func42 h
theorem NV (h:CK R w0 (aW w0) p0):Calls pg 43 #[p0] w0 R:=cv ⟨15,[],[],[0,2],[],[]⟩ Tryz.func43 h
theorem NW {R:Ending→World→Prop} {w0:World} {p0:Value} {p1:Int} (h:CL R w0 (aW w0) p0 p1):Calls pg 44 #[p0,(I p1)] w0 R:=
 aO (pl:=NK) Tryz.func44 (by kernel_rfl) (by kernel_rfl) h
theorem KQ {R:Ending→World→Prop} {w0:World} {p0:Value} {dE dJ dL gX iQ iR je jf lH km:Int} {jr:Bool} {js:Int} {kI:Nat} {kJ j5 lX jZ:Value} {lY lZ:Int} {l7 kK:Nat} {l8 l9 mc me mf mg:Int} {mh mi:Value} {p2:Bool} (h:AF R w0 (aW w0) p0 dE dJ dL gX iQ iR je jf lH km jr js kI kJ j5 lX jZ lY lZ l7 kK l8 l9 mc me mf mg mh mi p2):Calls pg 46 #[p0,(.agg #[(I dE),(I dJ),(I dL),(I gX),(I iQ),(I iR),(I je),(I jf),(I lH),(I km),(B jr),(I js),(.float .f64 kI),kJ,j5,lX,jZ,(I lY),(I lZ),(.float .f64 l7),(.float .f64 kK),(I l8),(I l9),(I mc),(I me),(I mf),(I mg),mh,mi]),(B p2)] w0 R:=
 aO (pl:=KE) Tryz.func46 (by kernel_rfl) (by kernel_rfl) h
theorem KR {R:Ending→World→Prop} {w0:World} {p0:Value} {dE dJ dL gX iQ iR je jf lH km:Int} {jr:Bool} {js:Int} {kI:Nat} {kJ j5 lX jZ:Value} {lY lZ:Int} {l7 kK:Nat} {l8 l9 mc me mf mg:Int} {mh mi:Value} (h:AG R w0 (aW w0) p0 dE dJ dL gX iQ iR je jf lH km jr js kI kJ j5 lX jZ lY lZ l7 kK l8 l9 mc me mf mg mh mi):Calls pg 47 #[p0,(.agg #[(I dE),(I dJ),(I dL),(I gX),(I iQ),(I iR),(I je),(I jf),(I lH),(I km),(B jr),(I js),(.float .f64 kI),kJ,j5,lX,jZ,(I lY),(I lZ),(.float .f64 l7),(.float .f64 kK),(I l8),(I l9),(I mc),(I me),(I mf),(I mg),mh,mi])] w0 R:=
 aO (pl:=KF) Tryz.func47 (by kernel_rfl) (by kernel_rfl) h
theorem oD (h:j6 R w0 (aW w0) p0):Calls pg 49 #[p0] w0 R:=cv ⟨4,[],[],[0,1,2],[],[]⟩ Tryz.func49 h
theorem LH {R:Ending→World→Prop} {w0:World} {bf bB bD bT cm cn cq cy dp cQ bX bV dq cZ cW:Int} {cX:Bool} {da dc:Int} {cG cC cH cI cJ cY:Value} {cK cR:Int} {cS cT:Nat} {cU gh gk gm gn gp:Int} {gq gr:Value} (h:Dx R w0 (aW w0) bf bB bD bT cm cn cq cy dp cQ bX bV dq cZ cW cX da dc cG cC cH cI cJ cY cK cR cS cT cU gh gk gm gn gp gq gr):Calls pg 52 #[(.agg #[(I bf),(I bB),(I bD),(I bT),(I cm),(I cn),(I cq),(I cy),(I dp),(I cQ),(I bX),(I bV),(I dq),(I cZ),(I cW),(B cX),(I da),(I dc),cG,cC,cH,cI,cJ,cY,(I cK),(I cR),(.float .f64 cS),(.float .f64 cT),(I cU),(I gh),(I gk),(I gm),(I gn),(I gp),gq,gr])] w0 R:=
 aO (pl:=V7) Tryz.func52 (by kernel_rfl) (by kernel_rfl) h
theorem PK {R:Ending→World→Prop} {w0:World} {bf bB bD dE dJ dL:Int} (h:Ev R w0 (aW w0) bf bB bD dE dJ dL):Calls pg 53 #[(.agg #[(I bf),(I bB),(I bD)]),(.agg #[(I dE),(I dJ),(I dL)])] w0 R:=
 aO (pl:=Pv) Tryz.func53 (by kernel_rfl) (by kernel_rfl) h
theorem KS {R:Ending→World→Prop} {w0:World} {p0:Value} {dE dJ dL gX iQ iR je jf lH km:Int} {jr:Bool} {js:Int} {kI:Nat} {kJ j5 lX jZ:Value} {lY lZ:Int} {l7 kK:Nat} {l8 l9 mc me mf mg:Int} {mh mi:Value} (h:AH R w0 (aW w0) p0 dE dJ dL gX iQ iR je jf lH km jr js kI kJ j5 lX jZ lY lZ l7 kK l8 l9 mc me mf mg mh mi):Calls pg 54 #[p0,(.agg #[(I dE),(I dJ),(I dL),(I gX),(I iQ),(I iR),(I je),(I jf),(I lH),(I km),(B jr),(I js),(.float .f64 kI),kJ,j5,lX,jZ,(I lY),(I lZ),(.float .f64 l7),(.float .f64 kK),(I l8),(I l9),(I mc),(I me),(I mf),(I mg),mh,mi])] w0 R:=
 aO (pl:=KG) Tryz.func54 (by kernel_rfl) (by kernel_rfl) h
theorem Ja {R:Ending→World→Prop} {w0:World} {p0:Value} {dE dJ dL tN tO tP:Int} {p3:Value} (h:zR R w0 (aW w0) p0 dE dJ dL tN tO tP p3):Calls pg 55 #[p0,(.agg #[(I dE),(I dJ),(I dL)]),(.agg #[(I tN),(I tO),(I tP)]),p3] w0 R:=
 aO (pl:=IG) Tryz.func55 (by kernel_rfl) (by kernel_rfl) h
theorem KT {R:Ending→World→Prop} {w0:World} {p0:Value} {p1:Int} (h:AI R w0 (aW w0) p0 p1):Calls pg 57 #[p0,(I p1)] w0 R:=
 aO (pl:=KH) Tryz.func57 (by kernel_rfl) (by kernel_rfl) h
theorem NX {R:Ending→World→Prop} {w0:World} {p0:Value} {p1:Int} (h:CM R w0 (aW w0) p0 p1):Calls pg 58 #[p0,(I p1)] w0 R:=
 aO (pl:=NL) Tryz.func58 (by kernel_rfl) (by kernel_rfl) h
theorem oE (h:j7 R w0 (aW w0) p0):Calls pg 59 #[p0] w0 R:=cv ⟨4,[],[],[0,1,2],[],[]⟩ Tryz.func59 h
theorem sX (h:m8 R w0 (aW w0) p0):Calls pg 60 #[p0] w0 R:=cv ⟨8,[],[],[0,2,4],[],[]⟩ Tryz.func60 h
theorem HM {R:Ending→World→Prop} {w0:World} {bf bB bD bT cm cn cq cy dp cQ bX bV dq cZ cW:Int} {cX:Bool} {da dc:Int} {cG cC cH cI cJ cY:Value} {cK cR:Int} {cS cT:Nat} {cU gh gk gm gn gp:Int} {gq gr:Value} {p1:Int} (h:yG R w0 (aW w0) bf bB bD bT cm cn cq cy dp cQ bX bV dq cZ cW cX da dc cG cC cH cI cJ cY cK cR cS cT cU gh gk gm gn gp gq gr p1):Calls pg 61 #[(.agg #[(I bf),(I bB),(I bD),(I bT),(I cm),(I cn),(I cq),(I cy),(I dp),(I cQ),(I bX),(I bV),(I dq),(I cZ),(I cW),(B cX),(I da),(I dc),cG,cC,cH,cI,cJ,cY,(I cK),(I cR),(.float .f64 cS),(.float .f64 cT),(I cU),(I gh),(I gk),(I gm),(I gn),(I gp),gq,gr]),(I p1)] w0 R:=
 aO (pl:=HC) Tryz.func61 (by kernel_rfl) (by kernel_rfl) h
theorem uF {R:Ending→World→Prop} {w0:World} {p0:Value} {p1:ByteArray} (h:nN R w0 (aW w0) p0 p1):Calls pg 351 #[p0,(.string p1)] w0 R:=
 aO (pl:=uv) Tryz.func351 (by kernel_rfl) (by kernel_rfl) h
theorem FJ {R:Ending→World→Prop} {w0:World} {p0:Value} {p1:ByteArray} (h:xG R w0 (aW w0) p0 p1):Calls pg 352 #[p0,(.string p1)] w0 R:=
 aO (pl:=Fy) Tryz.func352 (by kernel_rfl) (by kernel_rfl) h
theorem wy (h:oW R w0 (aW w0) p0):Calls pg 353 #[p0] w0 R:=cv ⟨8,[],[],[0,2,4],[],[]⟩ Tryz.func353 h
theorem pU (h:kZ R w0 (aW w0) p0 p1):Calls pg 369 #[p0,p1] w0 R:=cv ⟨9,[],[],[0,1,4],[],[]⟩ Tryz.func369 h
theorem KU {R:Ending→World→Prop} {w0:World} {bf:ByteArray} {bB:Int} {bD:Nat} {bT:ByteArray} {c0:Value} (h:AJ R w0 (aW w0) bf bB bD bT c0):Calls pg 370 #[(.agg #[(.string bf),(I bB),(.float .f64 bD),(.string bT)]),c0] w0 R:=
 aO (pl:=KI) Tryz.func370 (by kernel_rfl) (by kernel_rfl) h
theorem wz {R:Ending→World→Prop} {w0:World} {p0:Value} {p1:ByteArray} (h:oX R w0 (aW w0) p0 p1):Calls pg 371 #[p0,(.string p1)] w0 R:=
 aO (pl:=wv) Tryz.func371 (by kernel_rfl) (by kernel_rfl) h
theorem FK {R:Ending→World→Prop} {w0:World} {p0:Value} {p1:ByteArray} {tN tO tP:Int} {p3:Bool} (h:xH R w0 (aW w0) p0 p1 tN tO tP p3):Calls pg 372 #[p0,(.string p1),(.agg #[(I tN),(I tO),(I tP)]),(B p3)] w0 R:=
 aO (pl:=Fz) Tryz.func372 (by kernel_rfl) (by kernel_rfl) h
theorem ra (h:lT R w0 (aW w0) p0 p1):Calls pg 379 #[p0,p1] w0 R:=cv ⟨19,[],[],[0,1,4,5,7,8,9,16],[],[8]⟩ Tryz.func379 h
theorem NY {R:Ending→World→Prop} {w0:World} {p0 p1:Nat} (h:CN R w0 (aW w0) p0 p1):Calls pg 63 #[(.float .f64 p0),(.float .f64 p1)] w0 R:=
 aO (pl:=NM) Tryz.func63 (by kernel_rfl) (by kernel_rfl) h
theorem PL {R:Ending→World→Prop} {w0:World} {bf bB bD bT cm cn cq cy dp cQ bX bV dq cZ cW:Int} {cX:Bool} {da dc:Int} {cG cC cH cI cJ cY:Value} {cK cR:Int} {cS cT:Nat} {cU gh gk gm gn gp:Int} {gq gr:Value} {dE dJ dL gX iQ iR je jf lH km jr js kI kJ j5:Int} {lX:Bool} {jZ lY:Int} {lZ l7 kK l8 l9 mc:Value} {me mf:Int} {mg mh:Nat} {mi ux uy uz uA uB:Int} {uC uD:Value} (h:Ew R w0 (aW w0) bf bB bD bT cm cn cq cy dp cQ bX bV dq cZ cW cX da dc cG cC cH cI cJ cY cK cR cS cT cU gh gk gm gn gp gq gr dE dJ dL gX iQ iR je jf lH km jr js kI kJ j5 lX jZ lY lZ l7 kK l8 l9 mc me mf mg mh mi ux uy uz uA uB uC uD):Calls pg 64 #[(.agg #[(I bf),(I bB),(I bD),(I bT),(I cm),(I cn),(I cq),(I cy),(I dp),(I cQ),(I bX),(I bV),(I dq),(I cZ),(I cW),(B cX),(I da),(I dc),cG,cC,cH,cI,cJ,cY,(I cK),(I cR),(.float .f64 cS),(.float .f64 cT),(I cU),(I gh),(I gk),(I gm),(I gn),(I gp),gq,gr]),(.agg #[(I dE),(I dJ),(I dL),(I gX),(I iQ),(I iR),(I je),(I jf),(I lH),(I km),(I jr),(I js),(I kI),(I kJ),(I j5),(B lX),(I jZ),(I lY),lZ,l7,kK,l8,l9,mc,(I me),(I mf),(.float .f64 mg),(.float .f64 mh),(I mi),(I ux),(I uy),(I uz),(I uA),(I uB),uC,uD])] w0 R:=
 aO (pl:=Pw) Tryz.func64 (by kernel_rfl) (by kernel_rfl) h
theorem TK {R:Ending→World→Prop} {w0:World} {p0:ByteArray} (h:IH R w0 (aW w0) p0):Calls pg 73 #[(.string p0)] w0 R:=
 aO (pl:=Tx) Tryz.func73 (by kernel_rfl) (by kernel_rfl) h
theorem Wh {R:Ending→World→Prop} {w0:World} {p0:ByteArray} {p1:Int} (h:Lv R w0 (aW w0) p0 p1):Calls pg 79 #[(.string p0),(I p1)] w0 R:=
 aO (pl:=V8) Tryz.func79 (by kernel_rfl) (by kernel_rfl) h
theorem KW (h:AK R w0 (aW w0) p0):Calls pg 80 #[p0] w0 R:=cv ⟨7,[],[],[0,2],[],[]⟩ Tryz.func80 h
theorem RM {R:Ending→World→Prop} {w0:World} {p0 p1:ByteArray} (h:G7 R w0 (aW w0) p0 p1):Calls pg 81 #[(.string p0),(.string p1)] w0 R:=
 aO (pl:=RF) Tryz.func81 (by kernel_rfl) (by kernel_rfl) h
theorem NZ {R:Ending→World→Prop} {w0:World} {p0:Value} {p1:Int} {p2:ByteArray} (h:CO R w0 (aW w0) p0 p1 p2):Calls pg 82 #[p0,(I p1),(.string p2)] w0 R:=
 aO (pl:=NN) Tryz.func82 (by kernel_rfl) (by kernel_rfl) h
theorem N3 {R:Ending→World→Prop} {w0:World} {p0:Value} {p1:Int} (h:CP R w0 (aW w0) p0 p1):Calls pg 83 #[p0,(I p1)] w0 R:=
 aO (pl:=NO) Tryz.func83 (by kernel_rfl) (by kernel_rfl) h
theorem N4 (h:CQ R w0 (aW w0) p0):Calls pg 84 #[p0] w0 R:=cv ⟨50,[],[],[0,2,3,4,5,7,34,46],[],[]⟩ Tryz.func84 h
theorem N5 (h:CT R w0 (aW w0) p0):Calls pg 85 #[p0] w0 R:=cv ⟨15,[],[],[0,2],[],[]⟩ Tryz.func85 h
theorem RN {R:Ending→World→Prop} {w0:World} {p0:Value} {p1:Int} (h:G8 R w0 (aW w0) p0 p1):Calls pg 86 #[p0,(I p1)] w0 R:=
 aO (pl:=RG) Tryz.func86 (by kernel_rfl) (by kernel_rfl) h
theorem KX (h:AL R w0 (aW w0) p0):Calls pg 88 #[p0] w0 R:=cv ⟨8,[],[],[0,2],[],[]⟩ Tryz.func88 h
theorem tU (h:qZ R w0 (aW w0) p0 p1):Calls pg 89 #[p0,p1] w0 R:=cv ⟨183,[],[],[0,1,4,13,14,21,30,78,95,102,119,138,145,169],[],[]⟩ Tryz.func89 h
theorem Jb (h:zS R w0 (aW w0) p0):Calls pg 90 #[p0] w0 R:=cv ⟨29,[],[],[0,2,3,20],[9,10,11,12,13,14,15,16,17,18,19],[]⟩ Tryz.func90 h
theorem zf {R:Ending→World→Prop} {w0:World} {bf bB bD bT cm cn cq cy dp cQ:Int} {bX:Bool} {bV:Int} {dq:Nat} {cZ cW cX da:Value} {dc cG:Int} {cC cH:Nat} {cI cJ cY cK cR cS:Int} {cT cU:Value} (h:uE R w0 (aW w0) bf bB bD bT cm cn cq cy dp cQ bX bV dq cZ cW cX da dc cG cC cH cI cJ cY cK cR cS cT cU):Calls pg 91 #[(.agg #[(I bf),(I bB),(I bD),(I bT),(I cm),(I cn),(I cq),(I cy),(I dp),(I cQ),(B bX),(I bV),(.float .f64 dq),cZ,cW,cX,da,(I dc),(I cG),(.float .f64 cC),(.float .f64 cH),(I cI),(I cJ),(I cY),(I cK),(I cR),(I cS),cT,cU])] w0 R:=
 aO (pl:=Px) Tryz.func91 (by kernel_rfl) (by kernel_rfl) h
theorem PM (h:Ey R w0 (aW w0) p0 p1):Calls pg 92 #[p0,p1] w0 R:=cv ⟨10,[],[],[0,1,4],[],[]⟩ Tryz.func92 h
theorem mw (h:iT R w0 (aW w0) p0 p1 p2):Calls pg 93 #[p0,p1,p2] w0 R:=cv ⟨32,[(8,(pg.cellsOf 74)),(9,(pg.cellsOf 74))],[],[0,1,2,6,7,14,15,16,17,18,30],[],[17]⟩ Tryz.func93 h
theorem FM {R:Ending→World→Prop} {w0:World} {bf:ByteArray} {bB:Int} {bD:Nat} {bT dE:ByteArray} {dJ:Int} {dL:Nat} {gX:ByteArray} (h:xI R w0 (aW w0) bf bB bD bT dE dJ dL gX):Calls pg 94 #[(.agg #[(.string bf),(I bB),(.float .f64 bD),(.string bT)]),(.agg #[(.string dE),(I dJ),(.float .f64 dL),(.string gX)])] w0 R:=
 aO (pl:=FA) Tryz.func94 (by kernel_rfl) (by kernel_rfl) h
theorem RO {R:Ending→World→Prop} {w0:World} {bf:Int} {bB:Nat} {bD:ByteArray} {dE:Int} {dJ:Nat} {dL:ByteArray} (h:G9 R w0 (aW w0) bf bB bD dE dJ dL):Calls pg 95 #[(.agg #[(I bf),(.float .f64 bB),(.string bD)]),(.agg #[(I dE),(.float .f64 dJ),(.string dL)])] w0 R:=
 aO (pl:=RH) Tryz.func95 (by kernel_rfl) (by kernel_rfl) h
theorem C5 {R:Ending→World→Prop} {w0:World} {bf bB bD bT cm cn cq cy dp cQ bX bV dq cZ cW:Int} {cX:Bool} {da dc:Int} {cG cC cH cI cJ cY:Value} {cK cR:Int} {cS cT:Nat} {cU gh gk gm gn gp:Int} {gq gr:Value} (h:xJ R w0 (aW w0) bf bB bD bT cm cn cq cy dp cQ bX bV dq cZ cW cX da dc cG cC cH cI cJ cY cK cR cS cT cU gh gk gm gn gp gq gr):Calls pg 99 #[(.agg #[(I bf),(I bB),(I bD),(I bT),(I cm),(I cn),(I cq),(I cy),(I dp),(I cQ),(I bX),(I bV),(I dq),(I cZ),(I cW),(B cX),(I da),(I dc),cG,cC,cH,cI,cJ,cY,(I cK),(I cR),(.float .f64 cS),(.float .f64 cT),(I cU),(I gh),(I gk),(I gm),(I gn),(I gp),gq,gr])] w0 R:=
 aO (pl:=NP) Tryz.func99 (by kernel_rfl) (by kernel_rfl) h
theorem TL {R:Ending→World→Prop} {w0:World} {p0:Int} (h:II R w0 (aW w0) p0):Calls pg 100 #[(I p0)] w0 R:=
 aO (pl:=Ty) Tryz.func100 (by kernel_rfl) (by kernel_rfl) h
theorem Jc {R:Ending→World→Prop} {w0:World} {bf bB bD bT cm cn cq cy dp cQ bX bV dq cZ cW:Int} {cX:Bool} {da dc:Int} {cG cC cH cI cJ cY:Value} {cK cR:Int} {cS cT:Nat} {cU gh gk gm gn gp:Int} {gq gr:Value} (h:BY R w0 (aW w0) bf bB bD bT cm cn cq cy dp cQ bX bV dq cZ cW cX da dc cG cC cH cI cJ cY cK cR cS cT cU gh gk gm gn gp gq gr):Calls pg 101 #[(.agg #[(I bf),(I bB),(I bD),(I bT),(I cm),(I cn),(I cq),(I cy),(I dp),(I cQ),(I bX),(I bV),(I dq),(I cZ),(I cW),(B cX),(I da),(I dc),cG,cC,cH,cI,cJ,cY,(I cK),(I cR),(.float .f64 cS),(.float .f64 cT),(I cU),(I gh),(I gk),(I gm),(I gn),(I gp),gq,gr])] w0 R:=
 aO (pl:=Tz) Tryz.func101 (by kernel_rfl) (by kernel_rfl) h
theorem EO {R:Ending→World→Prop} {w0:World} {bf bB bD bT cm cn cq cy dp cQ bX bV dq cZ cW:Int} {cX:Bool} {da dc:Int} {cG cC cH cI cJ cY:Value} {cK cR:Int} {cS cT:Nat} {cU gh gk gm gn gp:Int} {gq gr:Value} (h:zd R w0 (aW w0) bf bB bD bT cm cn cq cy dp cQ bX bV dq cZ cW cX da dc cG cC cH cI cJ cY cK cR cS cT cU gh gk gm gn gp gq gr):Calls pg 102 #[(.agg #[(I bf),(I bB),(I bD),(I bT),(I cm),(I cn),(I cq),(I cy),(I dp),(I cQ),(I bX),(I bV),(I dq),(I cZ),(I cW),(B cX),(I da),(I dc),cG,cC,cH,cI,cJ,cY,(I cK),(I cR),(.float .f64 cS),(.float .f64 cT),(I cU),(I gh),(I gk),(I gm),(I gn),(I gp),gq,gr])] w0 R:=
 aO (pl:=Py) Tryz.func102 (by kernel_rfl) (by kernel_rfl) h
theorem KY (h:AM R w0 (aW w0) p0 p1):Calls pg 103 #[p0,p1] w0 R:=cv ⟨90,[],[],[0,1,4,5,6,7,8,9,10,12,15,19,31,35,41,66],[],[]⟩ Tryz.func103 h
theorem N6 (h:CU R w0 (aW w0) p0):Calls pg 104 #[p0] w0 R:=cv ⟨28,[],[],[0,2,3,20],[],[]⟩ Tryz.func104 h
theorem HN {R:Ending→World→Prop} {w0:World} {p0:Value} {p1:ByteArray} (h:yH R w0 (aW w0) p0 p1):Calls pg 105 #[p0,(.string p1)] w0 R:=
 aO (pl:=HD) Tryz.func105 (by kernel_rfl) (by kernel_rfl) h
theorem Wi {R:Ending→World→Prop} {w0:World} {p0:ByteArray} {p1:Int} (h:Lw R w0 (aW w0) p0 p1):Calls pg 106 #[(.string p0),(I p1)] w0 R:=
 aO (pl:=V9) Tryz.func106 (by kernel_rfl) (by kernel_rfl) h
theorem FO {R:Ending→World→Prop} {w0:World} {p0:Value} {p1:Int} (h:xK R w0 (aW w0) p0 p1):Calls pg 108 #[p0,(I p1)] w0 R:=
 aO (pl:=FB) Tryz.func108 (by kernel_rfl) (by kernel_rfl) h
theorem HO {R:Ending→World→Prop} {w0:World} {bf bB bD bT cm cn cq cy dp cQ:Int} {bX:Bool} {bV:Int} {dq:Nat} {cZ cW cX da:Value} {dc cG:Int} {cC cH:Nat} {cI cJ cY cK cR cS:Int} {cT cU:Value} {p1:Int} (h:yI R w0 (aW w0) bf bB bD bT cm cn cq cy dp cQ bX bV dq cZ cW cX da dc cG cC cH cI cJ cY cK cR cS cT cU p1):Calls pg 109 #[(.agg #[(I bf),(I bB),(I bD),(I bT),(I cm),(I cn),(I cq),(I cy),(I dp),(I cQ),(B bX),(I bV),(.float .f64 dq),cZ,cW,cX,da,(I dc),(I cG),(.float .f64 cC),(.float .f64 cH),(I cI),(I cJ),(I cY),(I cK),(I cR),(I cS),cT,cU]),(I p1)] w0 R:=
 aO (pl:=HE) Tryz.func109 (by kernel_rfl) (by kernel_rfl) h
theorem EP {R:Ending→World→Prop} {w0:World} {bf bB:Int} {bD bT:Nat} {cm cn cq cy dp cQ:Int} {bX bV:Value} {p1:Int} (h:wN R w0 (aW w0) bf bB bD bT cm cn cq cy dp cQ bX bV p1):Calls pg 110 #[(.agg #[(I bf),(I bB),(.float .f64 bD),(.float .f64 bT),(I cm),(I cn),(I cq),(I cy),(I dp),(I cQ),bX,bV]),(I p1)] w0 R:=
 aO (pl:=Ez) Tryz.func110 (by kernel_rfl) (by kernel_rfl) h
theorem Mx (h:BZ R w0 (aW w0) p0 p1):Calls pg 112 #[p0,p1] w0 R:=cv ⟨26,[],[],[0,1,4,5,10,14,25],[],[5]⟩ Tryz.func112 h
theorem N7 (h:CV R w0 (aW w0) p0 p1):Calls pg 113 #[p0,p1] w0 R:=cv ⟨27,[],[],[0,1,4,5,10,14,26],[],[5]⟩ Tryz.func113 h
theorem KZ (h:AN R w0 (aW w0) p0 p1):Calls pg 114 #[p0,p1] w0 R:=cv ⟨42,[],[],[0,1,4,5,10,14,41],[28,29,30,31,32,33,34,35,36,37,38,39,40],[5]⟩ Tryz.func114 h
theorem N8 (h:CW R w0 (aW w0) p0 p1):Calls pg 115 #[p0,p1] w0 R:=cv ⟨26,[],[],[0,1,4,5,10,14,25],[],[5]⟩ Tryz.func115 h
theorem K0 (h:AO R w0 (aW w0) p0 p1):Calls pg 116 #[p0,p1] w0 R:=cv ⟨27,[],[],[0,1,4,5,10,14,26],[],[5]⟩ Tryz.func116 h
theorem N9 (h:CX R w0 (aW w0) p0 p1):Calls pg 117 #[p0,p1] w0 R:=cv ⟨27,[],[],[0,1,4,5,10,14,26],[],[5]⟩ Tryz.func117 h
theorem My {R:Ending→World→Prop} {w0:World} {bf bB:Int} {bD bT:Nat} {cm cn cq cy dp cQ:Int} {bX bV:Value} {dE dJ:Int} {dL gX:Nat} {iQ iR je jf lH km:Int} {jr js:Value} (h:B0 R w0 (aW w0) bf bB bD bT cm cn cq cy dp cQ bX bV dE dJ dL gX iQ iR je jf lH km jr js):Calls pg 118 #[(.agg #[(I bf),(I bB),(.float .f64 bD),(.float .f64 bT),(I cm),(I cn),(I cq),(I cy),(I dp),(I cQ),bX,bV]),(.agg #[(I dE),(I dJ),(.float .f64 dL),(.float .f64 gX),(I iQ),(I iR),(I je),(I jf),(I lH),(I km),jr,js])] w0 R:=
 aO (pl:=Mm) Tryz.func118 (by kernel_rfl) (by kernel_rfl) h
theorem K3 {R:Ending→World→Prop} {w0:World} {p0:Value} {p1:ByteArray} (h:AP R w0 (aW w0) p0 p1):Calls pg 138 #[p0,(.string p1)] w0 R:=
 aO (pl:=KJ) Tryz.func138 (by kernel_rfl) (by kernel_rfl) h
theorem RQ (h:Ha R w0 (aW w0) p0):Calls pg 139 #[p0] w0 R:=cv ⟨73,[],[],[0,2,3,4,5,6,7,12,42,60],[20,21,22,23,24,25,26,27,28,29,30,31,32,34,35,36,37,38,39,40,41],[4,5]⟩ Tryz.func139 h
theorem HP {R:Ending→World→Prop} {w0:World} {p0:Value} {p1:ByteArray} (h:yJ R w0 (aW w0) p0 p1):Calls pg 140 #[p0,(.string p1)] w0 R:=
 aO (pl:=HF) Tryz.func140 (by kernel_rfl) (by kernel_rfl) h
theorem Mz {R:Ending→World→Prop} {w0:World} {p0:Value} {p1:ByteArray} {p2:Int} (h:B1 R w0 (aW w0) p0 p1 p2):Calls pg 141 #[p0,(.string p1),(I p2)] w0 R:=
 aO (pl:=Mn) Tryz.func141 (by kernel_rfl) (by kernel_rfl) h
theorem zX (h:tQ R w0 (aW w0) p0 p1):Calls pg 142 #[p0,p1] w0 R:=cv ⟨26,[],[],[0,1,8],[],[]⟩ Tryz.func142 h
theorem FP (h:xL R w0 (aW w0) p0 p1):Calls pg 143 #[p0,p1] w0 R:=cv ⟨33,[],[],[0,1],[],[]⟩ Tryz.func143 h
theorem DC (h:vH R w0 (aW w0) p0 p1):Calls pg 144 #[p0,p1] w0 R:=cv ⟨28,[],[],[0,1],[],[]⟩ Tryz.func144 h
theorem K4 (h:AQ R w0 (aW w0) p0 p1 p2):Calls pg 145 #[p0,p1,p2] w0 R:=cv ⟨63,[],[],[0,1,2,6,7,8,17,38,39,40,46],[],[39]⟩ Tryz.func145 h
theorem zY (h:tR R w0 (aW w0) p0 p1):Calls pg 146 #[p0,p1] w0 R:=cv ⟨19,[],[],[0,1],[],[]⟩ Tryz.func146 h
theorem HQ (h:yK R w0 (aW w0) p0 p1):Calls pg 147 #[p0,p1] w0 R:=cv ⟨26,[],[],[0,1,8],[],[]⟩ Tryz.func147 h
theorem xY (h:rZ R w0 (aW w0) p0 p1):Calls pg 148 #[p0,p1] w0 R:=cv ⟨19,[],[],[0,1],[],[]⟩ Tryz.func148 h
theorem FQ (h:xM R w0 (aW w0) p0 p1):Calls pg 149 #[p0,p1] w0 R:=cv ⟨26,[],[],[0,1,8],[],[]⟩ Tryz.func149 h
theorem pG (h:mZ R w0 (aW w0) p0 p1 p2):Calls pg 150 #[p0,p1,p2] w0 R:=cv ⟨63,[(8,(pg.cellsOf 53))],[],[0,1,2,6,7,17,38,39,40,46],[],[39]⟩ Tryz.func150 h
theorem xZ (h:r5 R w0 (aW w0) p0 p1):Calls pg 151 #[p0,p1] w0 R:=cv ⟨14,[],[],[0,1],[],[]⟩ Tryz.func151 h
theorem qh (h:ny R w0 (aW w0) p0 p1 p2):Calls pg 152 #[p0,p1,p2] w0 R:=cv ⟨63,[(8,(pg.cellsOf 74))],[],[0,1,2,6,7,17,38,39,40,46],[],[39]⟩ Tryz.func152 h
theorem yU (h:sV R w0 (aW w0) p0 p1):Calls pg 153 #[p0,p1] w0 R:=cv ⟨14,[],[],[0,1],[],[]⟩ Tryz.func153 h
theorem FR (h:xN R w0 (aW w0) p0):Calls pg 154 #[p0] w0 R:=cv ⟨12,[],[],[0,2,3],[],[]⟩ Tryz.func154 h
theorem Wj {R:Ending→World→Prop} {w0:World} {bf bB bD bT cm cn cq cy dp cQ:Int} {bX:Bool} {bV:Int} {dq:Nat} {cZ cW cX da:Value} {dc cG:Int} {cC cH:Nat} {cI cJ cY cK cR cS:Int} {cT cU:Value} (h:Lx R w0 (aW w0) bf bB bD bT cm cn cq cy dp cQ bX bV dq cZ cW cX da dc cG cC cH cI cJ cY cK cR cS cT cU):Calls pg 155 #[(.agg #[(I bf),(I bB),(I bD),(I bT),(I cm),(I cn),(I cq),(I cy),(I dp),(I cQ),(B bX),(I bV),(.float .f64 dq),cZ,cW,cX,da,(I dc),(I cG),(.float .f64 cC),(.float .f64 cH),(I cI),(I cJ),(I cY),(I cK),(I cR),(I cS),cT,cU])] w0 R:=
 aO (pl:=Wa) Tryz.func155 (by kernel_rfl) (by kernel_rfl) h
theorem K5 (h:AR R w0 (aW w0)):Calls pg 156 #[] w0 R:=cv ⟨3,[],[],[0],[],[]⟩ Tryz.func156 h
theorem FU (h:xO R w0 (aW w0) p0):Calls pg 157 #[p0] w0 R:=cv ⟨9,[],[],[0,2],[],[]⟩ Tryz.func157 h
theorem TM {R:Ending→World→Prop} {w0:World} {bf:Int} {bB:Nat} {bD:ByteArray} (h:IJ R w0 (aW w0) bf bB bD):Calls pg 158 #[(.agg #[(I bf),(.float .f64 bB),(.string bD)])] w0 R:=
 aO (pl:=TA) Tryz.func158 (by kernel_rfl) (by kernel_rfl) h
theorem MB {R:Ending→World→Prop} {w0:World} {bf:Int} {bB:Nat} {bD:ByteArray} {dE:Int} {dJ:Nat} {dL:ByteArray} (h:B2 R w0 (aW w0) bf bB bD dE dJ dL):Calls pg 159 #[(.agg #[(I bf),(.float .f64 bB),(.string bD)]),(.agg #[(I dE),(.float .f64 dJ),(.string dL)])] w0 R:=
 aO (pl:=Mo) Tryz.func159 (by kernel_rfl) (by kernel_rfl) h
theorem PN {R:Ending→World→Prop} {w0:World} {p0:Int} (h:EA R w0 (aW w0) p0):Calls pg 163 #[(I p0)] w0 R:=
 aO (pl:=Pz) Tryz.func163 (by kernel_rfl) (by kernel_rfl) h
theorem RR {R:Ending→World→Prop} {w0:World} {bf bB bD bT cm cn cq cy dp cQ bX bV dq cZ cW:Int} {cX:Bool} {da dc:Int} {cG cC cH cI cJ cY:Value} {cK cR:Int} {cS cT:Nat} {cU gh gk gm gn gp:Int} {gq gr:Value} (h:Hb R w0 (aW w0) bf bB bD bT cm cn cq cy dp cQ bX bV dq cZ cW cX da dc cG cC cH cI cJ cY cK cR cS cT cU gh gk gm gn gp gq gr):Calls pg 164 #[(.agg #[(I bf),(I bB),(I bD),(I bT),(I cm),(I cn),(I cq),(I cy),(I dp),(I cQ),(I bX),(I bV),(I dq),(I cZ),(I cW),(B cX),(I da),(I dc),cG,cC,cH,cI,cJ,cY,(I cK),(I cR),(.float .f64 cS),(.float .f64 cT),(I cU),(I gh),(I gk),(I gm),(I gn),(I gp),gq,gr])] w0 R:=
 aO (pl:=RI) Tryz.func164 (by kernel_rfl) (by kernel_rfl) h
theorem YB {R:Ending→World→Prop} {w0:World} {bf bB bD:Int} (h:NQ R w0 (aW w0) bf bB bD):Calls pg 165 #[(.agg #[(I bf),(I bB),(I bD)])] w0 R:=
 aO (pl:=YA) Tryz.func165 (by kernel_rfl) (by kernel_rfl) h
theorem RU (h:Hc R w0 (aW w0) p0):Calls pg 166 #[p0] w0 R:=cv ⟨24,[(4,(pg.cellsOf 117))],[],[0,2,6,7,8,9,10,19],[],[9]⟩ Tryz.func166 h
theorem MC {R:Ending→World→Prop} {w0:World} {bf bB:Int} {bD bT:Nat} {cm cn cq cy dp cQ:Int} {bX bV:Value} (h:B3 R w0 (aW w0) bf bB bD bT cm cn cq cy dp cQ bX bV):Calls pg 167 #[(.agg #[(I bf),(I bB),(.float .f64 bD),(.float .f64 bT),(I cm),(I cn),(I cq),(I cy),(I dp),(I cQ),bX,bV])] w0 R:=
 aO (pl:=Mp) Tryz.func167 (by kernel_rfl) (by kernel_rfl) h
theorem RV {R:Ending→World→Prop} {w0:World} {bf bB bD dE dJ dL tN tO tP:Int} {p3:Value} (h:Hd R w0 (aW w0) bf bB bD dE dJ dL tN tO tP p3):Calls pg 168 #[(.agg #[(I bf),(I bB),(I bD)]),(.agg #[(I dE),(I dJ),(I dL)]),(.agg #[(I tN),(I tO),(I tP)]),p3] w0 R:=
 aO (pl:=RJ) Tryz.func168 (by kernel_rfl) (by kernel_rfl) h
theorem PO (h:EB R w0 (aW w0) p0):Calls pg 169 #[p0] w0 R:=cv ⟨27,[],[],[0,2,3,4,7],[],[]⟩ Tryz.func169 h
theorem HR {R:Ending→World→Prop} {w0:World} {p0:Value} {p1:ByteArray} {p2:Value} (h:yL R w0 (aW w0) p0 p1 p2):Calls pg 170 #[p0,(.string p1),p2] w0 R:=
 aO (pl:=HG) Tryz.func170 (by kernel_rfl) (by kernel_rfl) h
theorem K6 {R:Ending→World→Prop} {w0:World} {p0:Value} {p1:ByteArray} (h:AT R w0 (aW w0) p0 p1):Calls pg 171 #[p0,(.string p1)] w0 R:=
 aO (pl:=KK) Tryz.func171 (by kernel_rfl) (by kernel_rfl) h
theorem Jd {R:Ending→World→Prop} {w0:World} {p0:Value} {p1:Int} {p2:Value} (h:zT R w0 (aW w0) p0 p1 p2):Calls pg 172 #[p0,(I p1),p2] w0 R:=
 aO (pl:=IK) Tryz.func172 (by kernel_rfl) (by kernel_rfl) h
theorem MD {R:Ending→World→Prop} {w0:World} {p0:Value} {p1:ByteArray} (h:B4 R w0 (aW w0) p0 p1):Calls pg 173 #[p0,(.string p1)] w0 R:=
 aO (pl:=Mq) Tryz.func173 (by kernel_rfl) (by kernel_rfl) h
theorem DD {R:Ending→World→Prop} {w0:World} {c0 c1:Value} (h:vI R w0 (aW w0) c0 c1):Calls pg 174 #[c0,c1] w0 R:=
 aO (pl:=Dy) Tryz.func174 (by kernel_rfl) (by kernel_rfl) h
theorem K7 {R:Ending→World→Prop} {w0:World} {p0:Value} {p1:ByteArray} (h:AU R w0 (aW w0) p0 p1):Calls pg 175 #[p0,(.string p1)] w0 R:=
 aO (pl:=KL) Tryz.func175 (by kernel_rfl) (by kernel_rfl) h
theorem Bg {R:Ending→World→Prop} {w0:World} {p0:Value} {p1:Int} (h:tf R w0 (aW w0) p0 p1):Calls pg 176 #[p0,(I p1)] w0 R:=
 aO (pl:=Bf) Tryz.func176 (by kernel_rfl) (by kernel_rfl) h
theorem B7 {R:Ending→World→Prop} {w0:World} {p0:Value} {p1:Int} (h:tT R w0 (aW w0) p0 p1):Calls pg 177 #[p0,(I p1)] w0 R:=
 aO (pl:=B5) Tryz.func177 (by kernel_rfl) (by kernel_rfl) h
theorem ME {R:Ending→World→Prop} {w0:World} {bf bB:Int} {bD bT:Nat} {dE dJ:Int} {dL gX:Nat} (h:B6 R w0 (aW w0) bf bB bD bT dE dJ dL gX):Calls pg 179 #[(.agg #[(I bf),(I bB),(.float .f64 bD),(.float .f64 bT)]),(.agg #[(I dE),(I dJ),(.float .f64 dL),(.float .f64 gX)])] w0 R:=
 aO (pl:=Mr) Tryz.func179 (by kernel_rfl) (by kernel_rfl) h
theorem FV (h:xP R w0 (aW w0) p0 p1):Calls pg 181 #[p0,p1] w0 R:=cv ⟨85,[(7,(pg.cellsOf 337)),(8,(pg.cellsOf 337))],[72,74,78,80],[0,1,4,5,6,13,17,45,53,84],[31,32,33,34,35,36,37,38,39,40,41,42,43,44,77,79,81,82,83],[5,6]⟩ Tryz.func181 h
theorem HS (h:yM R w0 (aW w0) p0 p1):Calls pg 182 #[p0,p1] w0 R:=cv ⟨27,[],[],[0,1,4,5,10,14,26],[],[5]⟩ Tryz.func182 h
theorem TN (h:IL R w0 (aW w0) p0):Calls pg 202 #[p0] w0 R:=cv ⟨25,[],[],[0,2],[],[]⟩ Tryz.func202 h
theorem TO (h:IM R w0 (aW w0) p0):Calls pg 203 #[p0] w0 R:=cv ⟨54,[],[],[0,2,3,5,6,8,11,12,13,14,15,22,23,36,37,38,39],[],[3,14,22,38]⟩ Tryz.func203 h
theorem DE {R:Ending→World→Prop} {w0:World} {c0 c1:Value} (h:vJ R w0 (aW w0) c0 c1):Calls pg 204 #[c0,c1] w0 R:=
 aO (pl:=Dz) Tryz.func204 (by kernel_rfl) (by kernel_rfl) h
theorem HT {R:Ending→World→Prop} {w0:World} {c0 c1 c2:Value} (h:yN R w0 (aW w0) c0 c1 c2):Calls pg 205 #[c0,c1,c2] w0 R:=
 aO (pl:=HH) Tryz.func205 (by kernel_rfl) (by kernel_rfl) h
theorem Je {R:Ending→World→Prop} {w0:World} {p0:Value} {p1:Int} (h:zU R w0 (aW w0) p0 p1):Calls pg 206 #[p0,(I p1)] w0 R:=
 aO (pl:=IN) Tryz.func206 (by kernel_rfl) (by kernel_rfl) h
theorem Jf (h:zV R w0 (aW w0) p0):Calls pg 207 #[p0] w0 R:=cv ⟨27,[],[],[0,2,3,4,5,10,21],[],[]⟩ Tryz.func207 h
theorem HU (h:yO R w0 (aW w0) p0):Calls pg 208 #[p0] w0 R:=cv ⟨16,[],[],[0,2,13],[],[]⟩ Tryz.func208 h
theorem FW (h:xQ R w0 (aW w0) p0 p1):Calls pg 209 #[p0,p1] w0 R:=cv ⟨24,[],[],[0,1],[],[]⟩ Tryz.func209 h
theorem Bh (h:tg R w0 (aW w0) p0 p1 p2):Calls pg 210 #[p0,p1,p2] w0 R:=cv ⟨63,[(8,(pg.cellsOf 288))],[],[0,1,2,6,7,17,38,39,40,46],[],[39]⟩ Tryz.func210 h
theorem DF (h:vK R w0 (aW w0) p0 p1):Calls pg 211 #[p0,p1] w0 R:=cv ⟨16,[],[],[0,1],[],[]⟩ Tryz.func211 h
theorem Bi (h:th R w0 (aW w0) p0 p1 p2):Calls pg 212 #[p0,p1,p2] w0 R:=cv ⟨63,[(8,(pg.cellsOf 229))],[],[0,1,2,6,7,17,38,39,40,46],[],[39]⟩ Tryz.func212 h
theorem FY (h:xR R w0 (aW w0) p0 p1 p2):Calls pg 213 #[p0,p1,p2] w0 R:=cv ⟨63,[],[],[0,1,2,6,7,8,17,38,39,40,46],[],[39]⟩ Tryz.func213 h
theorem yV (h:sW R w0 (aW w0) p0 p1):Calls pg 214 #[p0,p1] w0 R:=cv ⟨26,[],[],[0,1,8],[],[]⟩ Tryz.func214 h
theorem FZ {R:Ending→World→Prop} {w0:World} {p0:Value} {p1:Int} (h:xS R w0 (aW w0) p0 p1):Calls pg 215 #[p0,(I p1)] w0 R:=
 aO (pl:=FC) Tryz.func215 (by kernel_rfl) (by kernel_rfl) h
theorem HV (h:yP R w0 (aW w0) p0):Calls pg 216 #[p0] w0 R:=cv ⟨18,[],[],[0,2,7],[],[]⟩ Tryz.func216 h
theorem HW {R:Ending→World→Prop} {w0:World} {p0:Value} {p1:Bool} (h:yQ R w0 (aW w0) p0 p1):Calls pg 217 #[p0,(B p1)] w0 R:=
 aO (pl:=HI) Tryz.func217 (by kernel_rfl) (by kernel_rfl) h
theorem F5 {R:Ending→World→Prop} {w0:World} {p0:Value} {p1:Nat} (h:xT R w0 (aW w0) p0 p1):Calls pg 219 #[p0,(.float .f64 p1)] w0 R:=
 aO (pl:=FE) Tryz.func219 (by kernel_rfl) (by kernel_rfl) h
theorem F9 (h:xU R w0 (aW w0) p0):Calls pg 220 #[p0] w0 R:=cv ⟨69,[],[],[0,2,3,4,5,10,21,30,54],[33],[3,4]⟩ Tryz.func220 h
theorem x5 (h:r6 R w0 (aW w0) p0 p1):Calls pg 221 #[p0,p1] w0 R:=cv ⟨26,[],[],[0,1,8],[],[]⟩ Tryz.func221 h
theorem Oa {R:Ending→World→Prop} {w0:World} {bf bB bD bT cm cn cq cy dp cQ:Int} {bX:Bool} {bV:Int} {dq:Nat} {cZ cW cX da:Value} {dc cG:Int} {cC cH:Nat} {cI cJ cY cK cR cS:Int} {cT cU:Value} (h:CY R w0 (aW w0) bf bB bD bT cm cn cq cy dp cQ bX bV dq cZ cW cX da dc cG cC cH cI cJ cY cK cR cS cT cU):Calls pg 222 #[(.agg #[(I bf),(I bB),(I bD),(I bT),(I cm),(I cn),(I cq),(I cy),(I dp),(I cQ),(B bX),(I bV),(.float .f64 dq),cZ,cW,cX,da,(I dc),(I cG),(.float .f64 cC),(.float .f64 cH),(I cI),(I cJ),(I cY),(I cK),(I cR),(I cS),cT,cU])] w0 R:=
 aO (pl:=NR) Tryz.func222 (by kernel_rfl) (by kernel_rfl) h
theorem TP {R:Ending→World→Prop} {w0:World} {bf bB bD bT cm cn cq cy dp cQ:Int} {bX:Bool} {bV:Int} {dq:Nat} {cZ cW cX da:Value} {dc cG:Int} {cC cH:Nat} {cI cJ cY cK cR cS:Int} {cT cU:Value} (h:IP R w0 (aW w0) bf bB bD bT cm cn cq cy dp cQ bX bV dq cZ cW cX da dc cG cC cH cI cJ cY cK cR cS cT cU):Calls pg 223 #[(.agg #[(I bf),(I bB),(I bD),(I bT),(I cm),(I cn),(I cq),(I cy),(I dp),(I cQ),(B bX),(I bV),(.float .f64 dq),cZ,cW,cX,da,(I dc),(I cG),(.float .f64 cC),(.float .f64 cH),(I cI),(I cJ),(I cY),(I cK),(I cR),(I cS),cT,cU])] w0 R:=
 aO (pl:=TB) Tryz.func223 (by kernel_rfl) (by kernel_rfl) h
theorem PQ {R:Ending→World→Prop} {w0:World} {bf bB bD bT cm cn cq cy dp cQ:Int} {bX:Bool} {bV:Int} {dq:Nat} {cZ cW cX da:Value} {dc cG:Int} {cC cH:Nat} {cI cJ cY cK cR cS:Int} {cT cU:Value} (h:EC R w0 (aW w0) bf bB bD bT cm cn cq cy dp cQ bX bV dq cZ cW cX da dc cG cC cH cI cJ cY cK cR cS cT cU):Calls pg 224 #[(.agg #[(I bf),(I bB),(I bD),(I bT),(I cm),(I cn),(I cq),(I cy),(I dp),(I cQ),(B bX),(I bV),(.float .f64 dq),cZ,cW,cX,da,(I dc),(I cG),(.float .f64 cC),(.float .f64 cH),(I cI),(I cJ),(I cY),(I cK),(I cR),(I cS),cT,cU])] w0 R:=
 aO (pl:=PA) Tryz.func224 (by kernel_rfl) (by kernel_rfl) h
theorem Wk {R:Ending→World→Prop} {w0:World} {p0:Nat} (h:Ly R w0 (aW w0) p0):Calls pg 225 #[(.float .f64 p0)] w0 R:=
 aO (pl:=Wb) Tryz.func225 (by kernel_rfl) (by kernel_rfl) h
theorem PR {R:Ending→World→Prop} {w0:World} {p0 p1:Nat} (h:ED R w0 (aW w0) p0 p1):Calls pg 226 #[(.float .f64 p0),(.float .f64 p1)] w0 R:=
 aO (pl:=PB) Tryz.func226 (by kernel_rfl) (by kernel_rfl) h
theorem PS {R:Ending→World→Prop} {w0:World} {bf bB bD:Int} (h:EE R w0 (aW w0) bf bB bD):Calls pg 238 #[(.agg #[(I bf),(I bB),(I bD)])] w0 R:=
 aO (pl:=PC) Tryz.func238 (by kernel_rfl) (by kernel_rfl) h
theorem TQ (h:IQ R w0 (aW w0) p0):Calls pg 239 #[p0] w0 R:=cv ⟨32,[],[],[0,2,3,4,5,6,7,8,27],[15,16,17,18,19,20,21,22,23,24,25,26],[7]⟩ Tryz.func239 h
theorem TR {R:Ending→World→Prop} {w0:World} {p0:Int} {p1:Bool} {p2:Value} (h:IS R w0 (aW w0) p0 p1 p2):Calls pg 240 #[(I p0),(B p1),p2] w0 R:=
 aO (pl:=TC) Tryz.func240 (by kernel_rfl) (by kernel_rfl) h
theorem TS (h:IT R w0 (aW w0) p0):Calls pg 241 #[p0] w0 R:=cv ⟨42,[(5,(pg.cellsOf 266))],[13,17,22,28,33,34],[0,2,3,6,7,8,9,38],[21,23,24,25,27,29,30,31,32,35,36,37],[3,8]⟩ Tryz.func241 h
theorem Ob (h:CZ R w0 (aW w0) p0):Calls pg 242 #[p0] w0 R:=cv ⟨24,[(5,(pg.cellsOf 53))],[13,17],[0,2,3,6,7,8,9,20],[],[3,8]⟩ Tryz.func242 h
theorem RW (h:He R w0 (aW w0) p0):Calls pg 243 #[p0] w0 R:=cv ⟨35,[],[],[0,2,3,4,5,6,7,8,30],[14,15,16,18,19,20,21,22,23,24,25,26,27,28,29],[7]⟩ Tryz.func243 h
theorem Wl {R:Ending→World→Prop} {w0:World} {p0:Value} {p1:Int} (h:Lz R w0 (aW w0) p0 p1):Calls pg 244 #[p0,(I p1)] w0 R:=
 aO (pl:=Wc) Tryz.func244 (by kernel_rfl) (by kernel_rfl) h
theorem TT {R:Ending→World→Prop} {w0:World} {bf bB:Int} {bD bT:Nat} (h:IU R w0 (aW w0) bf bB bD bT):Calls pg 245 #[(.agg #[(I bf),(I bB),(.float .f64 bD),(.float .f64 bT)])] w0 R:=
 aO (pl:=TD) Tryz.func245 (by kernel_rfl) (by kernel_rfl) h
theorem TU (h:IV R w0 (aW w0) p0 p1):Calls pg 246 #[p0,p1] w0 R:=cv ⟨80,[(9,(pg.cellsOf 288)),(11,(pg.cellsOf 229)),(13,(pg.cellsOf 229))],[30,32,35,51,74],[0,1,4,5,6,7,12,14,16,17,18,19,25,38,39,40,41,56,60,62,66],[],[7,18,40]⟩ Tryz.func246 h
theorem HX {R:Ending→World→Prop} {w0:World} {p0:ByteArray} {c0:Value} (h:yR R w0 (aW w0) p0 c0):Calls pg 247 #[(.string p0),c0] w0 R:=
 aO (pl:=HJ) Tryz.func247 (by kernel_rfl) (by kernel_rfl) h
theorem Wm {R:Ending→World→Prop} {w0:World} {bf bB:Int} {bD bT p1:Nat} (h:LA R w0 (aW w0) bf bB bD bT p1):Calls pg 248 #[(.agg #[(I bf),(I bB),(.float .f64 bD),(.float .f64 bT)]),(.float .f64 p1)] w0 R:=
 aO (pl:=Wd) Tryz.func248 (by kernel_rfl) (by kernel_rfl) h
theorem Wn {R:Ending→World→Prop} {w0:World} {p0:ByteArray} (h:LB R w0 (aW w0) p0):Calls pg 249 #[(.string p0)] w0 R:=
 aO (pl:=We) Tryz.func249 (by kernel_rfl) (by kernel_rfl) h
theorem Jg {R:Ending→World→Prop} {w0:World} {bf bB bD bT cm cn:Int} {cq cy:Value} (h:zW R w0 (aW w0) bf bB bD bT cm cn cq cy):Calls pg 250 #[(.agg #[(I bf),(I bB),(I bD),(I bT),(I cm),(I cn),cq,cy])] w0 R:=
 aO (pl:=IW) Tryz.func250 (by kernel_rfl) (by kernel_rfl) h
theorem TV {R:Ending→World→Prop} {w0:World} {p0:Value} {p1:Int} (h:IX R w0 (aW w0) p0 p1):Calls pg 251 #[p0,(aA fv p1)] w0 R:=
 aO (pl:=TE) Tryz.func251 (by kernel_rfl) (by kernel_rfl) h
theorem K8 (h:AV R w0 (aW w0) p0):Calls pg 252 #[p0] w0 R:=cv ⟨39,[],[],[0,2,7,27],[],[]⟩ Tryz.func252 h
theorem Ga {R:Ending→World→Prop} {w0:World} {c0 c1:Value} (h:xV R w0 (aW w0) c0 c1):Calls pg 253 #[c0,c1] w0 R:=
 aO (pl:=FF) Tryz.func253 (by kernel_rfl) (by kernel_rfl) h
theorem PT (h:EF R w0 (aW w0)):Calls pg 287 #[] w0 R:=cv ⟨24,[(0,(pg.cellsOf 353))],[],[1,2,3,4,5,9,10],[],[3,4,9]⟩ Tryz.func287 h
theorem ER {R:Ending→World→Prop} {w0:World} {p0:Value} {p1:Int} (h:wO R w0 (aW w0) p0 p1):Calls pg 288 #[p0,(I p1)] w0 R:=
 aO (pl:=EG) Tryz.func288 (by kernel_rfl) (by kernel_rfl) h
theorem Bj (h:ti R w0 (aW w0) p0 p1 p2):Calls pg 289 #[p0,p1,p2] w0 R:=cv ⟨63,[(8,(pg.cellsOf 337))],[],[0,1,2,6,7,17,38,39,40,46],[],[39]⟩ Tryz.func289 h
theorem DG (h:vL R w0 (aW w0) p0 p1):Calls pg 290 #[p0,p1] w0 R:=cv ⟨14,[],[],[0,1],[],[]⟩ Tryz.func290 h
theorem HY {R:Ending→World→Prop} {w0:World} {p0:Value} {p1:ByteArray} (h:yS R w0 (aW w0) p0 p1):Calls pg 291 #[p0,(.string p1)] w0 R:=
 aO (pl:=HK) Tryz.func291 (by kernel_rfl) (by kernel_rfl) h
theorem HZ {R:Ending→World→Prop} {w0:World} {p0:Value} {p1:Int} (h:yT R w0 (aW w0) p0 p1):Calls pg 292 #[p0,(I p1)] w0 R:=
 aO (pl:=HL) Tryz.func292 (by kernel_rfl) (by kernel_rfl) h
theorem Gb {R:Ending→World→Prop} {w0:World} {p0:Value} {p1 p2:Int} (h:xW R w0 (aW w0) p0 p1 p2):Calls pg 293 #[p0,(I p1),(I p2)] w0 R:=
 aO (pl:=FH) Tryz.func293 (by kernel_rfl) (by kernel_rfl) h
theorem aaw {R:Ending→World→Prop} {w0:World} {p0:Int} (h:QM R w0 (aW w0) p0):Calls pg 295 #[(aA bc p0)] w0 R:=
 aO (pl:=aav) Tryz.func295 (by kernel_rfl) (by kernel_rfl) h
theorem TW {R:Ending→World→Prop} {w0:World} {p0:Value} {dE:Int} {dJ:Nat} {dL:ByteArray} (h:IY R w0 (aW w0) p0 dE dJ dL):Calls pg 296 #[p0,(.agg #[(I dE),(.float .f64 dJ),(.string dL)])] w0 R:=
 aO (pl:=TF) Tryz.func296 (by kernel_rfl) (by kernel_rfl) h
theorem TX (h:IZ R w0 (aW w0) p0):Calls pg 297 #[p0] w0 R:=cv ⟨30,[(2,(pg.cellsOf 51)),(3,(pg.cellsOf 51))],[9,15,20],[0,4,10,11,16,27],[],[]⟩ Tryz.func297 h
theorem K9 {R:Ending→World→Prop} {w0:World} {bf bB:Int} {bD bT:Nat} {cm cn cq cy dp cQ:Int} {bX bV:Value} (h:AW R w0 (aW w0) bf bB bD bT cm cn cq cy dp cQ bX bV):Calls pg 298 #[(.agg #[(I bf),(I bB),(.float .f64 bD),(.float .f64 bT),(I cm),(I cn),(I cq),(I cy),(I dp),(I cQ),bX,bV])] w0 R:=
 aO (pl:=KM) Tryz.func298 (by kernel_rfl) (by kernel_rfl) h
theorem Oc {R:Ending→World→Prop} {w0:World} {p0:Bool} {dE dJ dL:Int} (h:C3 R w0 (aW w0) p0 dE dJ dL):Calls pg 299 #[(B p0),(.agg #[(I dE),(I dJ),(I dL)])] w0 R:=
 aO (pl:=NS) Tryz.func299 (by kernel_rfl) (by kernel_rfl) h
theorem PU {R:Ending→World→Prop} {w0:World} {p0:Nat} (h:EH R w0 (aW w0) p0):Calls pg 300 #[(.float .f64 p0)] w0 R:=
 aO (pl:=PD) Tryz.func300 (by kernel_rfl) (by kernel_rfl) h
theorem PV {R:Ending→World→Prop} {w0:World} {p0:Int} (h:EI R w0 (aW w0) p0):Calls pg 301 #[(I p0)] w0 R:=
 aO (pl:=PE) Tryz.func301 (by kernel_rfl) (by kernel_rfl) h
theorem PW {R:Ending→World→Prop} {w0:World} {bf bB bD:Int} (h:EJ R w0 (aW w0) bf bB bD):Calls pg 302 #[(.agg #[(I bf),(I bB),(I bD)])] w0 R:=
 aO (pl:=PF) Tryz.func302 (by kernel_rfl) (by kernel_rfl) h
theorem RX (h:Hf R w0 (aW w0) p0):Calls pg 303 #[p0] w0 R:=cv ⟨44,[(4,(pg.cellsOf 74))],[12,26,32,38,39],[0,2,3,5,6,7,8,42],[16,17,18,19,20,21,22,23,24,25,27,28,29,31,33,34,35,37,40,41],[7]⟩ Tryz.func303 h
theorem TY {R:Ending→World→Prop} {w0:World} {p0:Nat} (h:I0 R w0 (aW w0) p0):Calls pg 304 #[(.float .f64 p0)] w0 R:=
 aO (pl:=TG) Tryz.func304 (by kernel_rfl) (by kernel_rfl) h
theorem Wo {R:Ending→World→Prop} {w0:World} {p0:Nat} (h:LC R w0 (aW w0) p0):Calls pg 305 #[(.float .f64 p0)] w0 R:=
 aO (pl:=Wf) Tryz.func305 (by kernel_rfl) (by kernel_rfl) h
theorem TZ {R:Ending→World→Prop} {w0:World} {p0:ByteArray} (h:I2 R w0 (aW w0) p0):Calls pg 312 #[(.string p0)] w0 R:=
 aO (pl:=TH) Tryz.func312 (by kernel_rfl) (by kernel_rfl) h
theorem RY (h:Hg R w0 (aW w0) p0):Calls pg 313 #[p0] w0 R:=cv ⟨18,[(4,(pg.cellsOf 42))],[],[0,2,5,6,7,8,13],[],[7]⟩ Tryz.func313 h
theorem PX {R:Ending→World→Prop} {w0:World} {p0:Nat} (h:EK R w0 (aW w0) p0):Calls pg 314 #[(.float .f64 p0)] w0 R:=
 aO (pl:=PG) Tryz.func314 (by kernel_rfl) (by kernel_rfl) h
theorem Wp (h:LF R w0 (aW w0)):Calls pg 315 #[] w0 R:=cv ⟨5,[],[],[0],[],[]⟩ Tryz.func315 h
theorem Od {R:Ending→World→Prop} {w0:World} {bf:ByteArray} {bB:Value} {p1:ByteArray} (h:C4 R w0 (aW w0) bf bB p1):Calls pg 316 #[(.agg #[(.string bf),bB]),(.string p1)] w0 R:=
 aO (pl:=NT) Tryz.func316 (by kernel_rfl) (by kernel_rfl) h
theorem ri (h:lU R w0 (aW w0) p0):Calls pg 317 #[p0] w0 R:=cv ⟨8,[],[],[0,2,4],[],[]⟩ Tryz.func317 h
theorem Gc {R:Ending→World→Prop} {w0:World} {p0:Value} {dE dJ dL gX iQ iR:Int} {je jf:Value} (h:xX R w0 (aW w0) p0 dE dJ dL gX iQ iR je jf):Calls pg 318 #[p0,(.agg #[(I dE),(I dJ),(I dL),(I gX),(I iQ),(I iR),je,jf])] w0 R:=
 aO (pl:=FI) Tryz.func318 (by kernel_rfl) (by kernel_rfl) h
theorem La {R:Ending→World→Prop} {w0:World} {p0:Value} {dE dJ dL gX iQ iR:Int} {je jf:Value} (h:AX R w0 (aW w0) p0 dE dJ dL gX iQ iR je jf):Calls pg 319 #[p0,(.agg #[(I dE),(I dJ),(I dL),(I gX),(I iQ),(I iR),je,jf])] w0 R:=
 aO (pl:=KN) Tryz.func319 (by kernel_rfl) (by kernel_rfl) h
theorem RZ {R:Ending→World→Prop} {w0:World} {bf bB bD bT cm cn:Int} {cq cy:Value} (h:Hh R w0 (aW w0) bf bB bD bT cm cn cq cy):Calls pg 320 #[(.agg #[(I bf),(I bB),(I bD),(I bT),(I cm),(I cn),cq,cy])] w0 R:=
 aO (pl:=RK) Tryz.func320 (by kernel_rfl) (by kernel_rfl) h
theorem R0 {R:Ending→World→Prop} {w0:World} {p0:ByteArray} (h:Hi R w0 (aW w0) p0):Calls pg 321 #[(.string p0)] w0 R:=
 aO (pl:=RL) Tryz.func321 (by kernel_rfl) (by kernel_rfl) h
theorem T3 (h:I3 R w0 (aW w0) p0):Calls pg 322 #[p0] w0 R:=cv ⟨32,[],[],[0,2,3,4,5,6,7,8,27],[15,16,17,18,19,20,21,22,23,24,25,26],[7]⟩ Tryz.func322 h
theorem Lb (h:AY R w0 (aW w0) p0):Calls pg 323 #[p0] w0 R:=cv ⟨19,[(5,(pg.cellsOf 53))],[13],[0,2,3,6,7,8,9],[],[3,8]⟩ Tryz.func323 h
theorem ES {R:Ending→World→Prop} {w0:World} {p0:Value} {p1:Int} (h:wP R w0 (aW w0) p0 p1):Calls pg 347 #[p0,(I p1)] w0 R:=
 aO (pl:=EL) Tryz.func347 (by kernel_rfl) (by kernel_rfl) h
theorem T4 {R:Ending→World→Prop} {w0:World} {p0:Nat} (h:I4 R w0 (aW w0) p0):Calls pg 348 #[(.float .f64 p0)] w0 R:=
 aO (pl:=TJ) Tryz.func348 (by kernel_rfl) (by kernel_rfl) h
theorem PY {R:Ending→World→Prop} {w0:World} {bf bB bD bT cm cn:Int} {cq cy:Value} {p1:ByteArray} (h:EM R w0 (aW w0) bf bB bD bT cm cn cq cy p1):Calls pg 350 #[(.agg #[(I bf),(I bB),(I bD),(I bT),(I cm),(I cn),cq,cy]),(.string p1)] w0 R:=
 aO (pl:=PH) Tryz.func350 (by kernel_rfl) (by kernel_rfl) h
theorem AZ {R:Ending→World→Prop} {w0:World} {p0:Value} {dE dJ dL gX iQ iR je jf lH km jr js kI kJ j5:Int} {lX:Bool} {jZ lY:Int} {lZ l7 kK l8 l9 mc:Value} {me mf:Int} {mg mh:Nat} {mi ux uy uz uA uB:Int} {uC uD:Value} (m4: ∀g,zc Tryz.f15=some g→Idle pg g) (hR: ∀ch w,¬R (.panicked ch) w) (h:qH R w0 (aW w0) p0 dE dJ dL gX iQ iR je jf lH km jr js kI kJ j5 lX jZ lY lZ l7 kK l8 l9 mc me mf mg mh mi ux uy uz uA uB uC uD):Calls pg 15 #[p0,(.agg #[(I dE),(I dJ),(I dL),(I gX),(I iQ),(I iR),(I je),(I jf),(I lH),(I km),(I jr),(I js),(I kI),(I kJ),(I j5),(B lX),(I jZ),(I lY),lZ,l7,kK,l8,l9,mc,(I me),(I mf),(.float .f64 mg),(.float .f64 mh),(I mi),(I ux),(I uy),(I uz),(I uA),(I uB),uC,uD])] w0 R:=
 ID (pl:=uX) Tryz.func15 (by kernel_rfl) m4 hR (by kernel_rfl) h
theorem aax {R:Ending→World→Prop} {RP:List PanicEntry→World→Prop} {g0:FuncId} {cb:List Nat} {cv:List (Option Value)} {w0:World} {p0:Value} {dE dJ dL gX iQ iR je jf lH km jr js kI kJ j5:Int} {lX:Bool} {jZ lY:Int} {lZ l7 kK l8 l9 mc:Value} {me mf:Int} {mg mh:Nat} {mi ux uy uz uA uB:Int} {uC uD:Value} (m4: ∀g,zc Tryz.f15=some g→Idle pg g) (rX:Yy pg uX Tryz.f15 #[p0,(.agg #[(I dE),(I dJ),(I dL),(I gX),(I iQ),(I iR),(I je),(I jf),(I lH),(I km),(I jr),(I js),(I kI),(I kJ),(I j5),(B lX),(I jZ),(I lY),lZ,l7,kK,l8,l9,mc,(I me),(I mf),(.float .f64 mg),(.float .f64 mh),(I mi),(I ux),(I uy),(I uz),(I uA),(I uB),uC,uD])]=some (g0,cb,cv)) (uN:Yz pg Tryz.f15 R g0 cb cv RP) (h:qH (Ss R RP) w0 (aW w0) p0 dE dJ dL gX iQ iR je jf lH km jr js kI kJ j5 lX jZ lY lZ l7 kK l8 l9 mc me mf mg mh mi ux uy uz uA uB uC uD):Calls pg 15 #[p0,(.agg #[(I dE),(I dJ),(I dL),(I gX),(I iQ),(I iR),(I je),(I jf),(I lH),(I km),(I jr),(I js),(I kI),(I kJ),(I j5),(B lX),(I jZ),(I lY),lZ,l7,kK,l8,l9,mc,(I me),(I mf),(.float .f64 mg),(.float .f64 mh),(I mi),(I ux),(I uy),(I uz),(I uA),(I uB),uC,uD])] w0 R:=
 IB (pl:=uX) Tryz.func15 (by kernel_rfl) m4 rX uN (by kernel_rfl) h
theorem Lc {R:Ending→World→Prop} {w0:World} {p0:Value} (m4: ∀g,zc Tryz.f16=some g→Idle pg g) (hR: ∀ch w,¬R (.panicked ch) w) (h:uZ R w0 (aW w0) p0):Calls pg 16 #[p0] w0 R:=
 ID (pl:=uY) Tryz.func16 (by kernel_rfl) m4 hR (by kernel_rfl) h
theorem aay {R:Ending→World→Prop} {RP:List PanicEntry→World→Prop} {g0:FuncId} {cb:List Nat} {cv:List (Option Value)} {w0:World} {p0:Value} (m4: ∀g,zc Tryz.f16=some g→Idle pg g) (rX:Yy pg uY Tryz.f16 #[p0]=some (g0,cb,cv)) (uN:Yz pg Tryz.f16 R g0 cb cv RP) (h:uZ (Ss R RP) w0 (aW w0) p0):Calls pg 16 #[p0] w0 R:=
 IB (pl:=uY) Tryz.func16 (by kernel_rfl) m4 rX uN (by kernel_rfl) h
theorem ET {R:Ending→World→Prop} {w0:World} {p0:Value} (h:ze R w0 (aW w0) p0):Calls pg 45 #[p0] w0 R:=
 Tu (pl:=PI) Tryz.func45 (by kernel_rfl) (by kernel_rfl) h
end
end Go.Proofs.YtpdkoaklobnegaaGreat
namespace Go.Proofs.YtpdkoaklobnegaaGreat
open Go.Proofs.Tryz renaming prog → pg
open Go.fR
set_option maxRecDepth 100000
set_option maxHeartbeats 1000000
set_option linter.unusedVariables false
set_option linter.unusedSimpArgs false
abbrev BA:=ByteArray
@[ext] structure bZ where
 wall:Int
 fA:Int
 node:Int
 deriving DecidableEq
abbrev bZ.l (s:bZ):List Value:=[I s.wall,I s.fA,I s.node]
abbrev bZ.v (s:bZ):Value:=.agg #[I s.wall,I s.fA,I s.node]
abbrev bZ.zero:bZ:=⟨0,0,0⟩
@[ext] structure gM where
 jR:Int
 nj:Int
 sq:Int
 deriving DecidableEq
abbrev gM.l (s:gM):List Value:=[I s.jR,I s.nj,I s.sq]
abbrev gM.v (s:gM):Value:=.agg #[I s.jR,I s.nj,I s.sq]
abbrev gM.zero:gM:=⟨0,0,0⟩
@[ext] structure fq where
 kind:Int
 num:Nat
 text:BA
 deriving DecidableEq
abbrev fq.l (x:fq):List Value:=[I x.kind,.float .f64 x.num,.string x.text]
abbrev fq.v (x:fq):Value:=.agg #[I x.kind,.float .f64 x.num,.string x.text]
abbrev fq.zero:fq:=⟨0,0,⟨#[]⟩⟩
@[ext] structure KV where
 key:BA
 val:fq
 deriving DecidableEq
abbrev KV.l (x:KV):List Value:=[.string x.key,I x.val.kind,.float .f64 x.val.num,.string x.val.text]
abbrev KV.v (x:KV):Value:=.agg #[.string x.key,I x.val.kind,.float .f64 x.val.num,.string x.val.text]
abbrev S1 (x:BA):List Value:=[.string x]
abbrev I1 (x:Int):List Value:=[I x]
@[ext] structure lV where
 br:bZ
 val:fq
 deriving DecidableEq
abbrev lV.l (x:lV):List Value:=[I x.br.wall,I x.br.fA,I x.br.node,I x.val.kind,.float .f64 x.val.num,.string x.val.text]
@[ext] structure jO where
 key:BA
 kn:List lV
 deriving DecidableEq
abbrev jO.l (h:jO) (vv:Value):List Value:=[.string h.key,vv]
def jO.rd (w:World) (X:XS) (l:List Value) (h:jO):Prop:= ∃vv,l=h.l vv∧Sl w X 6 vv (h.kn.map lV.l)
@[ext] structure fk where
 dH:gM
 br:bZ
 reads:List BA
 writes:List KV
 deriving DecidableEq
abbrev fk.l (p:fk) (vr vw:Value):List Value:=[I p.dH.jR,I p.dH.nj,I p.dH.sq,I p.br.wall,I p.br.fA,I p.br.node,vr,vw]
abbrev fk.v (p:fk) (vr vw:Value):Value:=.agg #[I p.dH.jR,I p.dH.nj,I p.dH.sq,I p.br.wall,I p.br.fA,I p.br.node,vr,vw]
def fk.rd (w:World) (X:XS) (l:List Value) (p:fk):Prop:= ∃vr vw,l=p.l vr vw∧Sl w X 1 vr (p.reads.map S1)∧Sl w X 4 vw (p.writes.map KV.l)
@[ext] structure mn where
 id:Int
 lf:Int
 lo:Nat
 hi:Nat
 deriving DecidableEq
abbrev mn.l (r:mn):List Value:=[I r.id,I r.lf,.float .f64 r.lo,.float .f64 r.hi]
abbrev mn.v (r:mn):Value:=.agg #[I r.id,I r.lf,.float .f64 r.lo,.float .f64 r.hi]
@[ext] structure State where
 range:mn
 floor:bZ
 closed:bZ
 iF:List jO
 iD:List fk
 deriving DecidableEq
abbrev State.l (s:State) (vh vp:Value):List Value:=[I s.range.id,I s.range.lf,.float .f64 s.range.lo,.float .f64 s.range.hi,
 I s.floor.wall,I s.floor.fA,I s.floor.node,I s.closed.wall,I s.closed.fA,I s.closed.node,vh,vp]
abbrev State.v (s:State) (vh vp:Value):Value:=.agg #[I s.range.id,I s.range.lf,.float .f64 s.range.lo,.float .f64 s.range.hi,
 I s.floor.wall,I s.floor.fA,I s.floor.node,I s.closed.wall,I s.closed.fA,I s.closed.node,vh,vp]
abbrev mW (w:World) (X:XS) (v:Value) (l:List jO):Prop:=iw w X 2 v jO.rd l
abbrev mC (w:World) (X:XS) (v:Value) (l:List fk):Prop:=iw w X 8 v fk.rd l
def State.rd (w:World) (X:XS) (l:List Value) (s:State):Prop:= ∃vh vp,l=s.l vh vp∧mW w X vh s.iF∧mC w X vp s.iD
@[ext] structure Rec where
 kind:Int
 dH:gM
 br:bZ
 prev:bZ
 ko:Bool
 n:Int
 rP:Nat
 reads:List BA
 writes:List KV
 parts:List Int
 bH:List KV
 state:State
 deriving DecidableEq
abbrev Rec.l (r:Rec) (vr vw vp vq vh vd:Value):List Value:=[I r.kind,I r.dH.jR,I r.dH.nj,I r.dH.sq,I r.br.wall,I r.br.fA,I r.br.node,
 I r.prev.wall,I r.prev.fA,I r.prev.node,B r.ko,I r.n,.float .f64 r.rP,vr,vw,vp,vq,I r.state.range.id,I r.state.range.lf,.float .f64 r.state.range.lo,.float .f64 r.state.range.hi,
 I r.state.floor.wall,I r.state.floor.fA,I r.state.floor.node,I r.state.closed.wall,I r.state.closed.fA,I r.state.closed.node,vh,vd]
abbrev Rec.v (r:Rec) (vr vw vp vq vh vd:Value):Value:=.agg #[I r.kind,I r.dH.jR,I r.dH.nj,I r.dH.sq,I r.br.wall,I r.br.fA,I r.br.node,
 I r.prev.wall,I r.prev.fA,I r.prev.node,B r.ko,I r.n,.float .f64 r.rP,vr,vw,vp,vq,I r.state.range.id,I r.state.range.lf,.float .f64 r.state.range.lo,.float .f64 r.state.range.hi,
 I r.state.floor.wall,I r.state.floor.fA,I r.state.floor.node,I r.state.closed.wall,I r.state.closed.fA,I r.state.closed.node,vh,vd]
def Rec.at (w:World) (X:XS) (r:Rec) (vr vw vp vq vh vd:Value):Prop:=
 Sl w X 1 vr (r.reads.map S1)∧Sl w X 4 vw (r.writes.map KV.l)∧Sl w X 1 vp (r.parts.map I1)∧Sl w X 4 vq (r.bH.map KV.l)∧mW w X vh r.state.iF∧mC w X vd r.state.iD
def Rec.rd (w:World) (X:XS) (l:List Value) (r:Rec):Prop:= ∃vr vw vp vq vh vd,l=r.l vr vw vp vq vh vd∧r.at w X vr vw vp vq vh vd
theorem jO.mv:Fo jO.rd:=fun ⟨vv,h,h1⟩ m=>⟨vv,h,h1.mv m⟩
theorem fk.mv:Fo fk.rd:=fun ⟨vr,vw,h,h1,h2⟩ m=>⟨vr,vw,h,h1.mv m,h2.mv m⟩
theorem mW.mv {w w':World} {X Y:XS} {v:Value} {l:List jO} (h:mW w X v l) (m:Mv X w Y w'):mW w' Y v l:=iw.mv h jO.mv m
theorem mC.mv {w w':World} {X Y:XS} {v:Value} {l:List fk} (h:mC w X v l) (m:Mv X w Y w'):mC w' Y v l:=iw.mv h fk.mv m
theorem State.mv:Fo State.rd:=fun ⟨vh,vp,h,h1,h2⟩ m=>⟨vh,vp,h,iw.mv h1 jO.mv m,iw.mv h2 fk.mv m⟩
theorem Rec.at.mv {w w':World} {X Y:XS} {r:Rec} {vr vw vp vq vh vd:Value} (h:r.at w X vr vw vp vq vh vd) (m:Mv X w Y w'):r.at w' Y vr vw vp vq vh vd:=
 ⟨h.1.mv m,h.2.1.mv m,h.2.2.1.mv m,h.2.2.2.1.mv m,iw.mv h.2.2.2.2.1 jO.mv m,iw.mv h.2.2.2.2.2 fk.mv m⟩
theorem Rec.mv:Fo Rec.rd:=fun ⟨vr,vw,vp,vq,vh,vd,h,h1⟩ m=>⟨vr,vw,vp,vq,vh,vd,h,h1.mv m⟩
section
variable {P : Program} {X X0 : XS} {w w0 : World} {N : Value → Prop}
theorem St {t:TypeId} {v:Value} {xs:List fk} {i:Nat} {z:Int} {x:fk} (h:mC w0 X0 v xs) (hr:xs[i]? =some x)
  (hz:z=i) (ht:P.underlying t=some (.slice (P.elem t))) (hs:(P.info? (P.elem t)).map (·.size)=some 8)
  (n: ∀b o vr vw,one vr=true→one vw=true→Cells w0 X0 b o (x.l vr vw)→Sl w0 X0 1 vr (x.reads.map S1)→Sl w0 X0 4 vw (x.writes.map KV.l)→N (ptr b o)):aa P X w (dx t 8 v (.int .i64 z)) N:=
 Sp h hr hz ht hs fun b o _ hc ⟨vr,vw,hl,h1,h2⟩=>n b o vr vw h1.one h2.one (hl▸hc) h1 h2
theorem Ks {t:TypeId} {v:Value} {xs:List jO} {i:Nat} {z:Int} {x:jO} (h:mW w0 X0 v xs) (hr:xs[i]? =some x)
  (hz:z=i) (ht:P.underlying t=some (.slice (P.elem t))) (hs:(P.info? (P.elem t)).map (·.size)=some 2)
  (n: ∀b o vv,one vv=true→Cells w0 X0 b o (x.l vv)→Sl w0 X0 6 vv (x.kn.map lV.l)→N (ptr b o)):aa P X w (dx t 2 v (.int .i64 z)) N:=
 Sp h hr hz ht hs fun b o _ hc ⟨vv,hl,h1⟩=>n b o vv h1.one (hl▸hc) h1
theorem Xr {t:TypeId} {v:Value} {xs:List Rec} {i:Nat} {z:Int} {x:Rec} (h:iw w0 X0 29 v Rec.rd xs) (hr:xs[i]? =some x)
  (hz:z=i) (ht:P.underlying t=some (.slice (P.elem t))) (hs:(P.info? (P.elem t)).map (·.size)=some 29)
  (n: ∀b o vr vw vp vq vh vd,one vr=true→one vw=true→one vp=true→one vq=true→one vh=true→one vd=true→
   Cells w0 X0 b o (x.l vr vw vp vq vh vd)→x.at w0 X0 vr vw vp vq vh vd→N (ptr b o)):aa P X w (dx t 29 v (.int .i64 z)) N:=
 Sp h hr hz ht hs fun b o _ hc ⟨vr,vw,vp,vq,vh,vd,hl,h1⟩=>n b o vr vw vp vq vh vd h1.1.one h1.2.1.one h1.2.2.1.one h1.2.2.2.1.one h1.2.2.2.2.1.one h1.2.2.2.2.2.one (hl▸hc) h1
theorem Oe {t:TypeId} {xo yo:Operand} (a b:bZ) (h:jE P t 3=true) (hT:a=b→N (.bool true)) (hF: ¬a=b→N (.bool false)):
  aa P X w (aI .eql t xo yo a.v b.v) N:=Is h (fun h1 h2 h3=>hT (bZ.ext h1 h2 h3)) fun hn=>hF fun e=>hn (by subst e;exact⟨rfl,rfl,rfl⟩)
theorem YC {t:TypeId} {xo yo:Operand} (a b:bZ) (h:jE P t 3=true) (hT: ¬a=b→N (.bool true)) (hF:a=b→N (.bool false)):
  aa P X w (aI .neq t xo yo a.v b.v) N:=afa h (fun hn=>hT fun e=>hn (by subst e;exact⟨rfl,rfl,rfl⟩)) fun h1 h2 h3=>hF (bZ.ext h1 h2 h3)
theorem zZ {t:TypeId} {xo yo:Operand} (a:bZ) (h:jE P t 3=true) (hT:a= .zero→N (.bool true)) (hF: ¬a= .zero→N (.bool false)):
  aa P X w (aI .eql t xo yo a.v (.agg #[I 0,I 0,I 0])) N:=Oe a .zero h hT hF
theorem aaz {t:TypeId} {xo yo:Operand} (a:bZ) (h:jE P t 3=true) (hT: ¬a= .zero→N (.bool true)) (hF:a= .zero→N (.bool false)):
  aa P X w (aI .neq t xo yo a.v (.agg #[I 0,I 0,I 0])) N:=YC a .zero h hT hF
theorem ag8 {t:TypeId} {xo yo:Operand} (a b:gM) (h:jE P t 3=true) (hT:a=b→N (.bool true)) (hF: ¬a=b→N (.bool false)):
  aa P X w (aI .eql t xo yo a.v b.v) N:=Is h (fun h1 h2 h3=>hT (gM.ext h1 h2 h3)) fun hn=>hF fun e=>hn (by subst e;exact⟨rfl,rfl,rfl⟩)
theorem T5 {t:TypeId} {xo yo:Operand} (a:gM) (h:jE P t 3=true) (hT:a= .zero→N (.bool true)) (hF: ¬a= .zero→N (.bool false)):
  aa P X w (aI .eql t xo yo a.v (.agg #[I 0,I 0,I 0])) N:=ag8 a .zero h hT hF
end
def lim:Nat:=2^20
def fk.small (p:fk):Prop:=p.reads.length≤lim∧p.writes.length≤lim
end Go.Proofs.YtpdkoaklobnegaaGreat
namespace Go.Proofs.YtpdkoaklobnegaaGreat
open Go.Proofs.Tryz renaming prog → pg
open Go.fR
set_option maxRecDepth 100000
set_option maxHeartbeats 1000000
set_option linter.unusedVariables false
set_option linter.unusedSimpArgs false
attribute [local irreducible] un jn bz aQ aX gL eo dx cr nu fF mO BK AB jc iS aa ay aF eW eV eU eC eF gE ao fin aN aH aI vS BL jB lq wK D9 Ea Eb Ec BM jC lr wL Ed Ee Ef Eg
def bZ.cmp (a b:bZ):Int:=
 let p:=if a.wall≠b.wall then(a.wall,b.wall)else if a.fA≠b.fA then(a.fA,b.fA)else(a.node,b.node)
 if p.1<p.2 then-1 else if p.1>p.2 then 1 else 0
def gM.less (a b:gM):Bool:=
 if a.jR≠b.jR then a.jR<b.jR else if a.nj≠b.nj then a.nj<b.nj else a.sq<b.sq
def gM.may (a:gM):Bool:=a.jR≥1&&a.jR≤2&&a.nj≥1&&a.sq≥1
def bZ.may (a:bZ):Bool:=a.wall≥0&&a.wall≤281474976710656&&a.fA≥0&&a.fA≤65535&&a.node≥0&&a.node≤63
def bZ.Of (a:bZ):Bool:=a.may&&!decide (a= .zero)
theorem pM (a b:bZ):Pure pg 53 #[a.v,b.v] (I (a.cmp b)):=by
 intro w0
 apply PK;unfold Ev
 have hs:=aj.init w0
 repeat' first|with_reducible (first|apply aD|apply ak)|(with_reducible apply kE<;>intro _)|(with_reducible apply kG<;>intro _)|(with_reducible apply kF<;>intro _)|with_reducible apply dY|(with_reducible refine fI hs ?_);simp_all [bZ.cmp]<;>omega
theorem Ak (a:gM):Pure pg 238 #[a.v] (B a.may):=by
 intro w0
 apply PS;unfold EE
 have hs:=aj.init w0
 repeat' first|with_reducible (first|apply dz|apply cL|apply cM|apply cu|apply bE|apply bt)|(with_reducible apply jK<;>intro _)|(with_reducible apply mG<;>intro _)|(with_reducible refine fI hs ?_);simp_all [gM.may]<;>omega
theorem oM (a:bZ):Pure pg 165 #[a.v] (B a.may):=by
 intro w0
 apply YB;unfold NQ
 have hs:=aj.init w0
 repeat' first|with_reducible (first|apply dz|apply cL|apply cM|apply cu|apply bE|apply bt)|(with_reducible apply jK<;>intro _)|(with_reducible apply mG<;>intro _)|(with_reducible refine fI hs ?_);simp_all [bZ.may]<;>omega
theorem R1 (n:Int):Pure pg 301 #[I n] (B (decide (n≥1)&&decide (n≤12))):=by
 intro w0
 apply PV;unfold EI
 have hs:=aj.init w0
 repeat' first|with_reducible (first|apply dz|apply cL|apply cM|apply cu|apply bE|apply bt)|(with_reducible apply jK<;>intro _)|(with_reducible apply mG<;>intro _)|(with_reducible refine fI hs ?_);simp_all<;>omega
theorem Hj (a:bZ):Pure pg 302 #[a.v] (B a.Of):=by
 intro w0
 apply PW;unfold EJ
 have hs:=aj.init w0
 repeat' first|with_reducible (first|apply dz|apply cL|apply cM|apply cu|apply bE|apply bt)|(with_reducible apply gg);(· kernel_rfl)|(with_reducible refine aaz _ ?_ ?_ ?_);(· kernel_rfl);all_goals intros|((with_reducible refine dU (oM _) ?_ hs.has ?_ ?_);(· kernel_rfl);all_goals (intro _ w X au;replace hs:=hs.trans au))|(with_reducible refine fI hs ?_);simp_all [bZ.Of]
def bZ.PZ (c:Bool) (a:bZ):Bool:=if c then a.Of else decide (a= .zero)
theorem P0 (c:Bool) (a:bZ):Pure pg 299 #[B c,a.v] (B (a.PZ c)):=by
 intro w0
 apply Oc;unfold C3
 have hs:=aj.init w0
 repeat' first|(with_reducible apply gg);(· kernel_rfl)|(with_reducible refine zZ _ ?_ ?_ ?_);(· kernel_rfl);all_goals intros|(with_reducible apply Xe<;>intro _)|((with_reducible refine dU (Hj _) ?_ hs.has ?_ ?_);(· kernel_rfl);all_goals (intro _ w X au;replace hs:=hs.trans au))|(with_reducible refine fI hs ?_);simp_all [bZ.PZ]
theorem wA (x:Nat) (wa:World):(callFunc 111 #[.float .f64 x]).run pg wa= .ok (.value (.int .u64 x)) wa:=by kernel_rfl
theorem T6 (x:Int) (wa:World):(callFunc 346 #[.int .u64 x]).run pg wa= .ok (.value (.float .f64 x.toNat)) wa:=by kernel_rfl
theorem EU (a b:Nat):Pure pg 63 #[.float .f64 a,.float .f64 b] (B (decide (a=b))):=by
 intro w0
 apply NY;unfold CN
 have hs:=aj.init w0
 repeat' first|(with_reducible apply gF<;>intro _)|(with_reducible refine fI hs ?_);simp_all [Int.ofNat_inj]|((with_reducible refine xm (wA _) hs.has ?_);intro w X au;replace hs:=hs.trans au)
theorem Og (a b:fq):Pure pg 25 #[a.v,b.v] (B (decide (a=b))):=by
 intro w0
 apply Mu;unfold BW
 have hs:=aj.init w0
 repeat' first|with_reducible (first|apply dz|apply cL|apply cM|apply cu|apply bE|apply bt|apply pD|apply oA)|(with_reducible apply gF<;>intro _)|(with_reducible apply zJ<;>intro _)|with_reducible apply dY|((with_reducible refine dU (EU _ _) ?_ hs.has ?_ ?_);(· kernel_rfl);all_goals (intro _ w X au;replace hs:=hs.trans au))|(with_reducible refine fI hs ?_);simp_all [fq.ext_iff]
theorem Oh (a b:mn):Pure pg 179 #[a.v,b.v] (B (decide (a=b))):=by
 intro w0
 apply ME;unfold B6
 have hs:=aj.init w0
 repeat' first|with_reducible (first|apply dz|apply cL|apply cM|apply cu|apply bE|apply bt|apply pD|apply oA)|(with_reducible apply gF<;>intro _)|with_reducible apply dY|((with_reducible refine dU (EU _ _) ?_ hs.has ?_ ?_);(· kernel_rfl);all_goals (intro _ w X au;replace hs:=hs.trans au))|(with_reducible refine fI hs ?_);simp_all [mn.ext_iff]
theorem Oi {w:World} {X:XS} {a b:Value} {xs ys:List KV} (ha:Sl w X 4 a (xs.map KV.l)) (hb:Sl w X 4 b (ys.map KV.l)):
  Ct pg 18 #[a,b] w X nX fun v _ _=>v=B (decide (xs=ys)):=by
  intro w0 hk
  replace ha:=ha.mv hk.dA
  replace hb:=hb.mv hk.dA
  have nw:=ha.gW
  apply Ms;unfold BU
  have hs:=aj.init w0
  repeat' first|with_reducible (first|apply aD|apply ak)|(with_reducible apply kG<;>intro _)|(with_reducible apply bS);exact qO;(· kernel_rfl)|((first|(with_reducible refine aq hs ?_)|(with_reducible refine aq (cg.trans hs) ?_));intro wa hk;(simp only [B,Value.bool.injEq];symm;rw [decide_eq_false_iff_not];rintro rfl;omega))
  have hlen:xs.length=ys.length:=by omega
  refine fK (fun n a w X=> ∃i:Nat,a=I (i:Nat)∧n=(xs).length-i∧i≤(xs).length∧aj (aW w0) w0 X w∧(xs=ys↔xs.drop i=ys.drop i)) (xs).length ⟨0,rfl,rfl,aV _,hs,by simp⟩ ?_
  rintro n a w X ⟨i,rfl,rfl,hi,hs,hw⟩
  rcases fh (xs) i with⟨dh,x,hx,hd⟩|⟨eI,hd⟩
  ·obtain⟨y,hy,hdy⟩:=Pp (xs:=ys) (i:=i) (by omega)
   repeat' first|(with_reducible refine dC ?_ ?_);omega|with_reducible (first|apply aD|apply ak|apply dG|apply fb|apply cD|apply dW|apply bE|apply bt|apply oz|apply pP|apply eY|apply gv)|(with_reducible apply aak<;>intro _)|(with_reducible apply aM);exact qF;(· kernel_rfl);rfl;intro _ _ _|(with_reducible apply gx);exact qF;(· kernel_rfl);rfl;exact qN;intro _ _ _|(with_reducible apply aZ);exact qF;exact qM;(· kernel_rfl);rfl|(with_reducible apply fP);exact qF;exact qM;(· kernel_rfl);rfl|(with_reducible apply bS);exact qO;(· kernel_rfl)|((with_reducible apply e7);exact qO;(try (case hz=>rfl));(case hr=>exact qR);(try (case hz=>omega));(case ht=>kernel_rfl);(case hs=>kernel_rfl);intro _ _ _)|(with_reducible apply cx);omega;omega|with_reducible apply dY|((with_reducible refine dU (Og _ _) ?_ hs.has ?_ ?_);(· kernel_rfl);all_goals (intro _ w X au;replace hs:=hs.trans au))|((first|(with_reducible refine aq hs ?_)|(with_reducible refine aq (cg.trans hs) ?_));intro wa hk;(simp_all [KV.ext_iff,fq.ext_iff]))|((with_reducible refine ga ((xs).length-(i+1)) ?_ ?_);omega;exact⟨i+1,by simp,rfl,by omega,hs,by simp_all [KV.ext_iff,fq.ext_iff]⟩)
  ·have hdy:=List.drop_of_length_le (l:=ys) (i:=i) (by omega)
   repeat' first|(with_reducible refine dm ?_ ?_);omega|with_reducible apply ak|(with_reducible apply bS);exact qO;(· kernel_rfl)|((first|(with_reducible refine aq hs ?_)|(with_reducible refine aq (cg.trans hs) ?_));intro wa hk;simp_all)
def g8 (s:BA):Bool:=decide ((s.size:Int)≥1)&&decide ((s.size:Int)≤24)
theorem qi (s:BA):Pure pg 312 #[.string s] (B (g8 s)):=by
 intro w0
 apply TZ;unfold I2
 have hs:=aj.init w0
 repeat' first|with_reducible (first|apply dz|apply cL|apply cM|apply cu|apply bE|apply bt)|(with_reducible apply jK<;>intro _)|(with_reducible apply mG<;>intro _)|(with_reducible apply rV);(· kernel_rfl)|(with_reducible refine fI hs ?_);simp_all [g8]<;>omega
theorem YD (r:mn) (x:Nat):Pure pg 248 #[r.v,.float .f64 x] (B ((Nx x r.lo||CE x r.lo)&&Ir x r.hi)):=by
 intro w0
 apply Wm;unfold LA
 have hs:=aj.init w0
 repeat' first|with_reducible (first|apply dz|apply cL|apply cM|apply cu|apply bE|apply bt)|(with_reducible apply Tg<;>intro _)|(with_reducible apply ae8<;>intros)|(with_reducible refine fI hs ?_);(simp_all<;>grind)
def canon (x:Nat):Nat:=if CE x x then x else 9221120237041090560
theorem LI (x:Nat):Pure pg 304 #[.float .f64 x] (.float .f64 (canon x)):=by
 intro w0
 apply TY;unfold I0
 have hs:=aj.init w0
 repeat' first|with_reducible (first|apply aD|apply ak)|(with_reducible apply ae9<;>intro _)|(with_reducible refine fI hs ?_);simp_all [canon]|((with_reducible refine xm (v:=.float .f64 9221120237041090560) ?_ hs.has ?_);(· intro wa;kernel_rfl);intro w X au;replace hs:=hs.trans au)
theorem x6 (x:Nat):Pure pg 225 #[.float .f64 x] (.int .u64 (canon x)):=by
 intro w0
 apply Wk;unfold Ly
 have hs:=aj.init w0
 repeat' first|((with_reducible refine iO (LI _) ?_ hs.has ?_);(· kernel_rfl);intro w X au;replace hs:=hs.trans au)|(with_reducible refine fI hs ?_);rfl|((with_reducible refine xm (wA _) hs.has ?_);intro w X au;replace hs:=hs.trans au)
def land (a b:Int):Int:=IntKind.u64.wrap (aP IntKind.u64.bits a&&& aP IntKind.u64.bits b).toNat
def Gd (a b:Int):Int:=IntKind.u64.wrap (aP IntKind.u64.bits a^^^aP IntKind.u64.bits b).toNat
def Ge (a n:Int):Int:=a.fdiv (2^min n.toNat IntKind.u64.bits)
def T7 (a b:Int):Int:=IntKind.u64.wrap (a*b)
theorem aaA {P:Program} {X:XS} {w:World} {N:Value→Prop} {t:TypeId} {a b:Int} (h:N (.int .u64 (land a b))):aa P X w (binOp .and t (.int .u64 a) (.int .u64 b)) N:=Kg h
theorem Oj {P:Program} {X:XS} {w:World} {N:Value→Prop} {t:TypeId} {a b:Int} (h:N (.int .u64 (Gd a b))):aa P X w (binOp .xor t (.int .u64 a) (.int .u64 b)) N:=Po h
theorem Jh {P:Program} {X:XS} {w:World} {N:Value→Prop} {t:TypeId} {a b:Int} (hb: ¬b<0) (h:N (.int .u64 (Ge a b))):aa P X w (binOp .shr t (.int .u64 a) (.int .u64 b)) N:=Bs hb h
theorem T8 {P:Program} {X:XS} {w:World} {N:Value→Prop} {t:TypeId} {a b:Int} (h:N (.int .u64 (T7 a b))):aa P X w (binOp .mul t (.int .u64 a) (.int .u64 b)) N:=Pn h
def cls (x:Nat):Int:=
 let b:Int:=canon x
 let e:=land (Ge b 52) 2047
 let f:=land b 4503599627370495
 if e=2047∧f≠0 then 0 else
  let k:=if e=2047 then 8 else if e>0 then 7 else if f>0 then 6 else 5
  if land b 9223372036854775808≠0 then 9-k else k
theorem LJ (x:Nat):Pure pg 348 #[.float .f64 x] (I (cls x)):=by
 intro w0
 apply T4;unfold I4
 have hs:=aj.init w0
 repeat' first|with_reducible (first|apply aD|apply ak|apply dz|apply cL|apply cM|apply cu|apply bE|apply bt)|(with_reducible apply gF<;>intro _)|(with_reducible apply kG<;>intro _)|(with_reducible apply kF<;>intro _)|(with_reducible apply kY);omega;omega|with_reducible apply dY|((with_reducible refine iO (x6 _) ?_ hs.has ?_);(· kernel_rfl);intro w X au;replace hs:=hs.trans au)|(with_reducible refine fI hs ?_);(simp only [cls] at*;grind)|with_reducible apply aaA|(with_reducible apply Jh);omega
def Ol:Nat:=4607182418800017408
def EV (x:Nat):Bool:=decide (cls x≥5)&&(Ir x Ol||CE x Ol)
theorem Hk (x:Nat):Pure pg 314 #[.float .f64 x] (B (EV x)):=by
 intro w0
 apply PX;unfold EK
 have hs:=aj.init w0
 repeat' first|with_reducible (first|apply dz|apply cL|apply cM|apply cu|apply bE|apply bt)|(with_reducible apply mG<;>intro _)|(with_reducible apply ae7<;>intros)|((with_reducible refine iO (LJ _) ?_ hs.has ?_);(· kernel_rfl);intro w X au;replace hs:=hs.trans au)|(with_reducible refine fI hs ?_);(simp_all [EV,Ol]<;>grind)
def Bt (x:Nat):Nat×Int:=if cls x=4 then(0,0)else if EV x then(x,0)else(0,1)
theorem R2 (x:Nat):Pure pg 300 #[.float .f64 x] (.tuple #[.float .f64 (Bt x).1,I (Bt x).2]):=by
 intro w0
 apply PU;unfold EH
 have hs:=aj.init w0
 repeat' first|with_reducible (first|apply aD|apply ak|apply eY|apply gv)|(with_reducible apply gF<;>intro _)|((with_reducible refine dU (Hk _) ?_ hs.has ?_ ?_);(· kernel_rfl);all_goals (intro _ w X au;replace hs:=hs.trans au))|((with_reducible refine iO (LJ _) ?_ hs.has ?_);(· kernel_rfl);intro w X au;replace hs:=hs.trans au)|(with_reducible refine fI hs ?_);(simp_all [Bt]<;>grind)
def mn.may (r:mn):Bool:=decide (r.id≥1)&&decide (r.id≤12)&&decide (r.lf≥0)&&EV r.lo&&EV r.hi&&Ir r.lo r.hi
theorem LK (r:mn):Pure pg 245 #[r.v] (B r.may):=by
 intro w0
 apply TT;unfold IU
 have hs:=aj.init w0
 repeat' first|with_reducible (first|apply dz|apply cL|apply cM|apply cu|apply bE|apply bt|apply pD|apply oA)|(with_reducible apply jK<;>intro _)|(with_reducible apply mG<;>intro _)|(with_reducible apply Tg<;>intro _)|with_reducible apply dY|((with_reducible refine dU (Hk _) ?_ hs.has ?_ ?_);(· kernel_rfl);all_goals (intro _ w X au;replace hs:=hs.trans au))|(with_reducible refine fI hs ?_);(simp_all [mn.may]<;>omega)
def fq.may (v:fq):Bool:=
 if v.kind=0 then decide (v.num=0)&&decide (v.text=⟨#[]⟩)
 else if v.kind=1 then decide (v.text=⟨#[]⟩)&&decide (v.num=canon v.num)
 else if v.kind=2 then decide (v.num=0)&&decide ((v.text.size:Int)≤64)
 else false
theorem mz (v:fq):Pure pg 158 #[v.v] (B v.may):=by
 intro w0
 apply TM;unfold IJ
 have hs:=aj.init w0
 repeat' first|with_reducible (first|apply aD|apply ak|apply dz|apply cL|apply cM|apply cu|apply bE|apply bt|apply pD|apply oA)|(with_reducible apply gF<;>intro _)|(with_reducible apply jK<;>intro _)|(with_reducible apply zJ<;>intro _)|(with_reducible apply rV);(· kernel_rfl)|with_reducible apply dY|((with_reducible refine iO (x6 _) ?_ hs.has ?_);(· kernel_rfl);intro w X au;replace hs:=hs.trans au)|(with_reducible refine fI hs ?_);(simp_all [fq.may]<;>omega)|((with_reducible refine xm (wA _) hs.has ?_);intro w X au;replace hs:=hs.trans au)
def Om (h:Int) (b:UInt8):Int:=T7 (Gd h (IntKind.u64.wrap b.toNat)) 1099511628211
def afr (h:Int):Nat→Int
 |0=>h
 |1=>T7 (Gd h (Ge h 33)) 18397679294719823053
 |_=>let g:=T7 (Gd h (Ge h 33)) 18397679294719823053;T7 (Gd g (Ge g 33)) 14181476777654086739
def Ji (s:BA):Int:=let h:=afr (s.data.toList.foldl Om 14695981039346656037) 2;Gd h (Ge h 33)
theorem T9 (s:BA) (ahR:s.size≤2^62):Pure pg 321 #[.string s] (.int .u64 (Ji s)):=by
 intro w0
 have eu:=It s
 apply R0;unfold Hi
 have hs:=aj.init w0
 repeat' first|(with_reducible apply rV);(· kernel_rfl)
 refine iN (fun n a b w X=> ∃(i:Nat) (h:Int),a=I i∧b= .int .u64 h∧n=s.data.toList.length-i∧i≤s.data.toList.length∧aj (aW w0) w0 X w∧
  s.data.toList.foldl Om 14695981039346656037=(s.data.toList.drop i).foldl Om h) s.data.toList.length ?_ ?_
 ·exact⟨0,14695981039346656037,rfl,rfl,rfl,aV _,hs,by rw [List.drop_zero]⟩
 rintro n a b w X ⟨i,h,rfl,rfl,rfl,hi,hs,hw⟩
 rcases fh s.data.toList i with⟨dh,x,hx,hd⟩|⟨eI,hd⟩
 ·repeat' first|(with_reducible refine dC ?_ ?_);omega|with_reducible apply aD|(with_reducible apply cx);omega;omega|(with_reducible apply pq);(· kernel_rfl);(· kernel_rfl)|((with_reducible apply adv);(try (case hz=>rfl));(case hb=>assumption);(try (case hz=>omega));(case ht=>kernel_rfl))|with_reducible (first|apply Oj|apply T8)|((with_reducible refine iC ((s.data.toList).length-(i+1)) ?_ ?_);omega;exact⟨i+1,_,by simp,rfl,rfl,by omega,hs,by rw [hw,hd,List.foldl_cons];rfl⟩)
 ·repeat' first|(with_reducible refine dm ?_ ?_);omega|with_reducible apply ak|(with_reducible apply gg);(· kernel_rfl)
  rw [hd] at hw
  refine iN (fun n a b w X=> ∃(i:Nat),a=I i∧b= .int .u64 (afr h i)∧n=2-i∧i≤2∧aj (aW w0) w0 X w) 2 ⟨0,rfl,rfl,rfl,aV _,hs⟩ ?_
  rintro n a b w X ⟨i,rfl,rfl,rfl,hi,hs⟩
  obtain rfl|rfl|rfl:i=0∨i=1∨i=2:=by omega
  ·repeat' first|(with_reducible refine dC ?_ ?_);omega|with_reducible apply aD|(with_reducible apply cx);omega;omega|((with_reducible apply adu);(· kernel_rfl);(· kernel_rfl);(try (case hz=>rfl));(case hn=>omega);(case hl=>rfl))|(with_reducible apply Oj)|(with_reducible apply T8)|(with_reducible apply Jh);omega|(with_reducible refine iC 1 ?_ ?_);omega;exact⟨1,rfl,rfl,rfl,by omega,hs⟩
  ·repeat' first|(with_reducible refine dC ?_ ?_);omega|with_reducible apply aD|(with_reducible apply cx);omega;omega|((with_reducible apply adu);(· kernel_rfl);(· kernel_rfl);(try (case hz=>rfl));(case hn=>omega);(case hl=>rfl))|(with_reducible apply Oj)|(with_reducible apply T8)|(with_reducible apply Jh);omega|(with_reducible refine iC 0 ?_ ?_);omega;exact⟨2,rfl,rfl,rfl,by omega,hs⟩
  ·repeat' first|(with_reducible refine dm ?_ ?_);omega|with_reducible apply ak|(with_reducible refine fI hs ?_);(simp only [Ji,hw];rfl)|(with_reducible apply Oj)|(with_reducible apply Jh);omega
theorem YE (n:Int): ∃r,floatBits .quo .f64 (floatOfInt .f64 n) 4845873199050653696=some r:=by
 have hn:(Ieee.double.read (floatOfInt .f64 n)).isNaN=false:=Ti _ _ _ _
 have hd:Ieee.double.read 4845873199050653696= .number false 4503599627370496 1:=by kernel_rfl
 show∃r,((Ieee.double.read (floatOfInt .f64 n)).quotient _ (Ieee.double.read 4845873199050653696)).map _=some r
 rw [hd]
 cases hr:Ieee.double.read (floatOfInt .f64 n)with
 |number s m p=>simp [uQ]
 |infinity s=>simp [uQ]
 |nan s f=>rw [hr] at hn;simp [Ieee.Datum.isNaN] at hn
def placeOf (s:BA):Nat:=(floatBits .quo .f64 (floatOfInt .f64 (Ge (Ji s) 11)) 4845873199050653696).getD 0
theorem YG (s:BA):floatBits .quo .f64 (floatOfInt .f64 (Ge (Ji s) 11)) 4845873199050653696=some (placeOf s):=by
 obtain⟨r,hr⟩:=YE (Ge (Ji s) 11)
 rw [placeOf,hr];rfl
theorem YH (s:BA) (ahR:s.size≤2^62):Pure pg 249 #[.string s] (.float .f64 (placeOf s)):=by
 intro w0
 apply Wn;unfold LB
 have hs:=aj.init w0
 repeat' first|(with_reducible apply agU);(· kernel_rfl);(· kernel_rfl)|((with_reducible refine iO (T9 _ (by first|assumption|omega)) ?_ hs.has ?_);(· kernel_rfl);intro w X au;replace hs:=hs.trans au)|(with_reducible refine fI hs ?_);rfl|(with_reducible apply Jh);omega|(with_reducible apply agV);(· exact YG s)
def rising (l:List BA):Bool:=chain g8 kO none l
def sa (l:List BA):Bool:=rising l&&decide ((l.length:Int)≤16)
theorem Wq {w:World} {X:XS} {a:Value} {xs:List BA} (ha:Sl w X 1 a (xs.map S1)):
  Ct pg 322 #[a] w X nX fun v _ _=>v=B (sa xs):=by
 intro w0 hk
 replace ha:=ha.mv hk.dA
 have nw:=ha.gW
 apply T3;unfold I3
 have hs:=aj.init w0
 repeat' first|(with_reducible apply bS);exact qO;(· kernel_rfl)
 refine fK (fun n a w X=> ∃i:Nat,a=I (i:Nat)∧n=(xs).length-i∧i≤(xs).length∧aj (aW w0) w0 X w∧chain g8 kO none xs=chain g8 kO (pT xs i) (xs.drop i)) (xs).length ⟨0,rfl,rfl,aV _,hs,by simp [pT]⟩ ?_
 rintro n a w X ⟨i,rfl,rfl,hi,hs,hw⟩
 rcases fh (xs) i with⟨dh,x,hx,hd⟩|⟨eI,hd⟩
 ·rcases Kj dh with⟨h0,hp⟩|⟨h0,y,hy,hp⟩<;>rw [hp,hd,chain] at hw<;>clear hd
  ·repeat' first|(with_reducible refine dC ?_ ?_);omega|(with_reducible refine lN ?_ ?_);omega|with_reducible (first|apply aD|apply ak|apply dG|apply fb|apply cL|apply oR|apply cD|apply iB|apply cu|apply dW|apply pS|apply bE|apply bt|apply eY|apply gv)|(with_reducible apply aZ);exact qF;exact qM;(· kernel_rfl);rfl|((with_reducible apply e7);exact qO;(try (case hz=>rfl));(case hr=>exact qR);(try (case hz=>omega));(case ht=>kernel_rfl);(case hs=>kernel_rfl);intro _ _ _)|(with_reducible apply cx);omega;omega|((with_reducible refine dU (qi _) ?_ hs.has ?_ ?_);(· kernel_rfl);all_goals (intro _ w X au;replace hs:=hs.trans au))|((first|(with_reducible refine aq hs ?_)|(with_reducible refine aq (cg.trans hs) ?_));intro wa hk;simp_all [sa,rising,chain])|((with_reducible refine ga ((xs).length-(i+1)) ?_ ?_);omega;exact⟨i+1,by simp,rfl,by omega,hs,by rw [hw,oL hx];simp [*]⟩)
  ·repeat' first|(with_reducible refine dC ?_ ?_);omega|(with_reducible refine BO ?_ ?_);omega|with_reducible (first|apply aD|apply ak|apply dz|apply dG|apply fb|apply oR|apply cM|apply cD|apply iB|apply dW|apply pS|apply bE|apply bt|apply eY|apply gv)|(with_reducible apply Tf<;>intro _)|(with_reducible apply aZ);exact qF;exact qM;(· kernel_rfl);rfl|((with_reducible apply e7);exact qO;(try (case hz=>rfl));(case hr=>exact qR);(try (case hz=>omega));(case ht=>kernel_rfl);(case hs=>kernel_rfl);intro _ _ _)|(with_reducible apply cx);omega;omega|(with_reducible apply kY);omega;omega|((with_reducible refine dU (qi _) ?_ hs.has ?_ ?_);(· kernel_rfl);all_goals (intro _ w X au;replace hs:=hs.trans au))|((first|(with_reducible refine aq hs ?_)|(with_reducible refine aq (cg.trans hs) ?_));intro wa hk;simp_all [sa,rising,chain])|((with_reducible refine ga ((xs).length-(i+1)) ?_ ?_);omega;exact⟨i+1,by simp,rfl,by omega,hs,by rw [hw,oL hx];simp [*]⟩)
 ·repeat' first|(with_reducible refine dm ?_ ?_);omega|with_reducible apply ak|(with_reducible apply jK<;>intro _)|(with_reducible apply bS);exact qO;(· kernel_rfl)|((first|(with_reducible refine aq hs ?_)|(with_reducible refine aq (cg.trans hs) ?_));intro wa hk;simp_all [sa,rising,chain]<;>omega)
def Jj (l:List KV):Bool:=sa (l.map (·.key))&&l.all (·.val.may)
theorem MF {w:World} {X:XS} {a:Value} {xs:List KV} (ha:Sl w X 4 a (xs.map KV.l)) (hb:xs.length≤2^40):
  Ct pg 323 #[a] w X nX fun v wa w'=>Own w' (made wa w') wa.heap.size 9 1 v ((xs.map (·.key)).map S1):=by
 intro w0 hk
 replace ha:=ha.mv hk.dA
 have nw:=ha.gW
 apply Lb;unfold AY
 have hs:=aj.init w0
 repeat' first|(with_reducible apply bS);exact qO;(· kernel_rfl)
 refine iN (fun n a b w X=> ∃i:Nat,a=I i∧n=xs.length-i∧i≤xs.length∧aj (aW w0) w0 X w∧Own w X w0.heap.size 9 1 b (((xs.take i).map (·.key)).map S1)) xs.length ⟨0,rfl,rfl,aV _,hs,Own.nil _ _ _ _ _⟩ ?_
 rintro n a b w X ⟨i,rfl,rfl,hi,hs,ho⟩
 rcases fh (xs) i with⟨dh,x,hx,hd⟩|⟨eI,hd⟩
 ·repeat' first|(with_reducible refine dC ?_ ?_);omega|with_reducible apply aD|(with_reducible apply gP);rfl|with_reducible apply ff|(with_reducible apply fP);exact qF;exact qM;(· kernel_rfl);rfl|((with_reducible apply e7);exact qO;(try (case hz=>rfl));(case hr=>exact qR);(try (case hz=>omega));(case ht=>kernel_rfl);(case hs=>kernel_rfl);intro _ _ _)|(with_reducible apply fj);(case h=>exact qE)|(with_reducible apply eh);exact qC|(with_reducible apply cx);omega;omega|((with_reducible apply Kk);(case own=>first|assumption|exact Own.since (by assumption) (by assumption));(case hs=>assumption);(case h0=>first|exact fun _ h=>h|exact cg.has);(case he=>kernel_rfl);(case hk=>rfl);(case ho=>first|rfl|assumption);(case hb=>(simp only [aS,bQ,ae,bC,cA];omega));(case hl=>(simp only [aS,bQ,ae,bC,cA];omega));intro acc w X au ho hc gQ;replace hs:=au)|((with_reducible refine iC ((xs).length-(i+1)) ?_ ?_);omega;exact⟨i+1,by simp,rfl,by omega,hs,by rw [List.take_add_one,hx];simpa using ho⟩)
 ·repeat' first|(with_reducible refine dm ?_ ?_);omega|with_reducible apply ak|((first|(with_reducible refine aq hs ?_)|(with_reducible refine aq (cg.trans hs) ?_));intro wa hk;(rw [List.take_of_length_le eI] at ho;exact(ho.kp hk).tight))
def fk.err (p:fk):Int:=
 if !p.dH.may then 4 else if !p.br.may||decide (p.br= .zero)then 17
 else if !sa p.reads||!sa (p.writes.map (·.key))then 4
 else if p.writes.all (·.val.may)then 0 else 4
theorem u3 {w:World} {X:XS} {p:fk} {vr vw:Value} (h1:Sl w X 1 vr (p.reads.map S1)) (h2:Sl w X 4 vw (p.writes.map KV.l)) (hb:p.writes.length≤2^40):
  Ct pg 250 #[p.v vr vw] w X nX fun v _ _=>v=I p.err:=by
 intro w0 hk
 replace h1:=h1.mv hk.dA
 replace h2:=h2.mv hk.dA
 have nw:=h2.gW
 apply Jg;unfold zW
 have hs:=aj.init w0
 repeat' first|with_reducible (first|apply aD|apply ak|apply dG|apply fb|apply cD|apply dW|apply bE|apply bt|apply oz|apply pP|apply eY|apply gv)|(with_reducible apply bS);exact qO;(· kernel_rfl)|(with_reducible apply gg);(· kernel_rfl)|(with_reducible refine zZ _ ?_ ?_ ?_);(· kernel_rfl);all_goals intros|with_reducible apply dY|((with_reducible refine dU (oM _) ?_ hs.has ?_ ?_);(· kernel_rfl);all_goals (intro _ w X au;replace hs:=hs.trans au))|((with_reducible refine dU (Ak _) ?_ hs.has ?_ ?_);(· kernel_rfl);all_goals (intro _ w X au;replace hs:=hs.trans au))|((first|(with_reducible refine aq hs ?_)|(with_reducible refine aq (cg.trans hs) ?_));intro wa hk;simp_all [fk.err])|(refine gZ (Wq  qA) (by kernel_rfl) hs.has ?_ ?_<;>(intro _ w X au;replace hs:=hs.trans au))|(refine dk (MF  qA qA) (by kernel_rfl) hs.has ?_;rintro v1 wa w X tj hle hU au;have fT:=Nat.le_trans hs.kp.size hle;replace hs:=hs.trans au;replace tj:=tj.up hU fT)
 refine fK (fun n a w X=> ∃i:Nat,a=I (i:Nat)∧n=(p.writes).length-i∧i≤(p.writes).length∧aj (aW w0) w0 X w∧p.writes.all (·.val.may)=(p.writes.drop i).all (·.val.may)) (p.writes).length ⟨0,rfl,rfl,aV _,hs,by simp⟩ ?_
 rintro n a w X ⟨i,rfl,rfl,hi,hs,hw⟩
 rcases fh (p.writes) i with⟨dh,x,hx,hd⟩|⟨eI,hd⟩
 ·repeat' first|(with_reducible refine dC ?_ ?_);omega|with_reducible (first|apply aD|apply ak)|(with_reducible apply ji);exact qN|with_reducible (first|apply ff|apply eY|apply gv)|(with_reducible apply fP);exact qF;exact qM;(· kernel_rfl);rfl|((with_reducible apply e7);exact qO;(try (case hz=>rfl));(case hr=>exact qR);(try (case hz=>omega));(case ht=>kernel_rfl);(case hs=>kernel_rfl);intro _ _ _)|(with_reducible apply fj);(case h=>exact qE)|(with_reducible apply eh);exact qC|(with_reducible apply cx);omega;omega|((with_reducible refine dU (mz _) ?_ hs.has ?_ ?_);(· kernel_rfl);all_goals (intro _ w X au;replace hs:=hs.trans au))|((first|(with_reducible refine aq hs ?_)|(with_reducible refine aq (cg.trans hs) ?_));intro wa hk;simp_all [fk.err])|((with_reducible refine ga ((p.writes).length-(i+1)) ?_ ?_);omega;exact⟨i+1,by simp,rfl,by omega,hs,by rw [hw,hd];simp [*]⟩)
 ·repeat' first|(with_reducible refine dm ?_ ?_);omega|with_reducible apply ak|((first|(with_reducible refine aq hs ?_)|(with_reducible refine aq (cg.trans hs) ?_));intro wa hk;simp_all [fk.err])
def zg (l:List Int):Bool:=chain (fun n=>decide (n≥1)&&decide (n≤12)) (fun a b=>decide (a<b)) none l&&decide (l≠[])
theorem Jk {w:World} {X:XS} {a:Value} {xs:List Int} (ha:Sl w X 1 a (xs.map I1)):
  Ct pg 243 #[a] w X nX fun v _ _=>v=B (zg xs):=by
 intro w0 hk
 replace ha:=ha.mv hk.dA
 have nw:=ha.gW
 apply RW;unfold He
 have hs:=aj.init w0
 repeat' first|(with_reducible apply bS);exact qO;(· kernel_rfl)
 refine fK (fun n a w X=> ∃i:Nat,a=I (i:Nat)∧n=(xs).length-i∧i≤(xs).length∧aj (aW w0) w0 X w∧chain (fun n=>decide (n≥1)&&decide (n≤12)) (fun a b=>decide (a<b)) none xs=chain (fun n=>decide (n≥1)&&decide (n≤12)) (fun a b=>decide (a<b)) (pT xs i) (xs.drop i)) (xs).length ⟨0,rfl,rfl,aV _,hs,by simp [pT]⟩ ?_
 rintro n a w X ⟨i,rfl,rfl,hi,hs,hw⟩
 rcases fh (xs) i with⟨dh,x,hx,hd⟩|⟨eI,hd⟩
 ·rcases Kj dh with⟨h0,hp⟩|⟨h0,y,hy,hp⟩<;>rw [hp,hd,chain] at hw<;>clear hd
  ·repeat' first|(with_reducible refine dC ?_ ?_);omega|(with_reducible refine lN ?_ ?_);omega|with_reducible (first|apply aD|apply ak|apply dG|apply fb|apply cL|apply oR|apply cD|apply iB|apply cu|apply dW|apply pS|apply bE|apply bt)|(with_reducible apply kE<;>intro _)|(with_reducible apply kF<;>intro _)|(with_reducible apply aZ);exact qF;exact qM;(· kernel_rfl);rfl|((with_reducible apply e7);exact qO;(try (case hz=>rfl));(case hr=>exact qR);(try (case hz=>omega));(case ht=>kernel_rfl);(case hs=>kernel_rfl);intro _ _ _)|(with_reducible apply cx);omega;omega|((first|(with_reducible refine aq hs ?_)|(with_reducible refine aq (cg.trans hs) ?_));intro wa hk;(simp_all [zg,chain]<;>omega))|((with_reducible refine ga ((xs).length-(i+1)) ?_ ?_);omega;exact⟨i+1,by simp,rfl,by omega,hs,by rw [hw,oL hx];simp_all<;>omega⟩)
  ·repeat' first|(with_reducible refine dC ?_ ?_);omega|(with_reducible refine BO ?_ ?_);omega|with_reducible (first|apply aD|apply ak|apply dz|apply dG|apply fb|apply oR|apply cM|apply cD|apply iB|apply dW|apply pS|apply bE|apply bt)|(with_reducible apply kE<;>intro _)|(with_reducible apply kF<;>intro _)|(with_reducible apply mG<;>intro _)|(with_reducible apply aZ);exact qF;exact qM;(· kernel_rfl);rfl|((with_reducible apply e7);exact qO;(try (case hz=>rfl));(case hr=>exact qR);(try (case hz=>omega));(case ht=>kernel_rfl);(case hs=>kernel_rfl);intro _ _ _)|(with_reducible apply cx);omega;omega|(with_reducible apply kY);omega;omega|((first|(with_reducible refine aq hs ?_)|(with_reducible refine aq (cg.trans hs) ?_));intro wa hk;(simp_all [zg,chain]<;>omega))|((with_reducible refine ga ((xs).length-(i+1)) ?_ ?_);omega;exact⟨i+1,by simp,rfl,by omega,hs,by rw [hw,oL hx];simp_all<;>omega⟩)
 ·repeat' first|(with_reducible refine dm ?_ ?_);omega|with_reducible apply ak|(with_reducible apply kF<;>intro _)|(with_reducible apply bS);exact qO;(· kernel_rfl)|((first|(with_reducible refine aq hs ?_)|(with_reducible refine aq (cg.trans hs) ?_));intro wa hk;(simp_all [zg,chain]<;>grind))
def sQ (l:List KV):Bool:=chain (fun x=>g8 x.key&&x.val.may&&decide (x.val.kind≠0)) (fun a b=>kO a.key b.key) none l
theorem Ua {w:World} {X:XS} {a:Value} {xs:List KV} (ha:Sl w X 4 a (xs.map KV.l)):
  Ct pg 303 #[a] w X nX fun v _ _=>v=B (sQ xs):=by
 intro w0 hk
 replace ha:=ha.mv hk.dA
 have nw:=ha.gW
 apply RX;unfold Hf
 have hs:=aj.init w0
 repeat' first|(with_reducible apply bS);exact qO;(· kernel_rfl)
 refine fK (fun n a w X=> ∃i:Nat,a=I (i:Nat)∧n=(xs).length-i∧i≤(xs).length∧aj (aW w0) w0 X w∧sQ xs=chain (fun x=>g8 x.key&&x.val.may&&decide (x.val.kind≠0)) (fun a b=>kO a.key b.key) (pT xs i) (xs.drop i)) (xs).length ⟨0,rfl,rfl,aV _,hs,by simp [pT,sQ]⟩ ?_
 rintro n a w X ⟨i,rfl,rfl,hi,hs,hw⟩
 rcases fh (xs) i with⟨dh,x,hx,hd⟩|⟨eI,hd⟩
 ·rcases Kj dh with⟨h0,hp⟩|⟨h0,y,hy,hp⟩<;>rw [hp,hd,chain] at hw<;>clear hd
  ·repeat' first|(with_reducible refine dC ?_ ?_);omega|(with_reducible refine lN ?_ ?_);omega|with_reducible (first|apply aD|apply ak)|(with_reducible apply gP);rfl|(with_reducible apply ji);exact qN|with_reducible (first|apply ff|apply dG|apply fb|apply cL|apply oR|apply cD|apply iB|apply cu|apply dW|apply pS|apply bE|apply bt|apply oz|apply pP|apply eY|apply gv)|(with_reducible apply gF<;>intro _)|(with_reducible apply fP);exact qF;exact qM;(· kernel_rfl);rfl|((with_reducible apply e7);exact qO;(try (case hz=>rfl));(case hr=>exact qR);(try (case hz=>omega));(case ht=>kernel_rfl);(case hs=>kernel_rfl);intro _ _ _)|(with_reducible apply fj);(case h=>exact qE)|(with_reducible apply eh);exact qC|(with_reducible apply cx);omega;omega|with_reducible apply dY|((with_reducible refine dU (mz _) ?_ hs.has ?_ ?_);(· kernel_rfl);all_goals (intro _ w X au;replace hs:=hs.trans au))|((with_reducible refine dU (qi _) ?_ hs.has ?_ ?_);(· kernel_rfl);all_goals (intro _ w X au;replace hs:=hs.trans au))|((first|(with_reducible refine aq hs ?_)|(with_reducible refine aq (cg.trans hs) ?_));intro wa hk;(simp_all [chain]<;>omega))|((with_reducible refine ga ((xs).length-(i+1)) ?_ ?_);omega;exact⟨i+1,by simp,rfl,by omega,hs,by rw [hw,oL hx];simp_all<;>omega⟩)
  ·repeat' first|(with_reducible refine dC ?_ ?_);omega|(with_reducible refine BO ?_ ?_);omega|with_reducible (first|apply aD|apply ak)|(with_reducible apply gP);rfl|(with_reducible apply ji);exact qN|with_reducible (first|apply ff|apply dz|apply dG|apply fb|apply oR|apply cM|apply cD|apply iB|apply dW|apply pS|apply bE|apply bt|apply oz|apply pP|apply eY|apply gv)|(with_reducible apply gF<;>intro _)|(with_reducible apply Tf<;>intro _)|(with_reducible apply aM);exact qF;(· kernel_rfl);rfl;intro _ _ _|(with_reducible apply aZ);exact qF;exact qM;(· kernel_rfl);rfl|(with_reducible apply fP);exact qF;exact qM;(· kernel_rfl);rfl|((with_reducible apply e7);exact qO;(try (case hz=>rfl));(case hr=>exact qR);(try (case hz=>omega));(case ht=>kernel_rfl);(case hs=>kernel_rfl);intro _ _ _)|(with_reducible apply fj);(case h=>exact qE)|(with_reducible apply eh);exact qC|(with_reducible apply cx);omega;omega|(with_reducible apply kY);omega;omega|with_reducible apply dY|((with_reducible refine dU (mz _) ?_ hs.has ?_ ?_);(· kernel_rfl);all_goals (intro _ w X au;replace hs:=hs.trans au))|((with_reducible refine dU (qi _) ?_ hs.has ?_ ?_);(· kernel_rfl);all_goals (intro _ w X au;replace hs:=hs.trans au))|((first|(with_reducible refine aq hs ?_)|(with_reducible refine aq (cg.trans hs) ?_));intro wa hk;(simp_all [chain]<;>omega))|((with_reducible refine ga ((xs).length-(i+1)) ?_ ?_);omega;exact⟨i+1,by simp,rfl,by omega,hs,by rw [hw,oL hx];simp_all<;>omega⟩)
 ·repeat' first|(with_reducible refine dm ?_ ?_);omega|with_reducible apply ak|((first|(with_reducible refine aq hs ?_)|(with_reducible refine aq (cg.trans hs) ?_));intro wa hk;(simp_all [chain]<;>grind))
abbrev mn.zero:mn:=⟨0,0,0,0⟩
abbrev State.zero:State:=⟨.zero,.zero,.zero,[],[]⟩
def State.isZero (s:State):Bool:=decide (s.range= .zero)&&decide (s.floor= .zero)&&decide (s.closed= .zero)&&decide (s.iF=[])&&decide (s.iD=[])
theorem MG {w:World} {X:XS} {s:State} {vh vp:Value} (h1:mW w X vh s.iF) (h2:mC w X vp s.iD):
  Ct pg 298 #[s.v vh vp] w X nX fun v _ _=>v=B s.isZero:=by
 intro w0 hk
 replace h1:=h1.mv hk.dA
 replace h2:=h2.mv hk.dA
 apply K9;unfold AW
 have hs:=aj.init w0
 repeat' first|with_reducible (first|apply dz|apply cL|apply cM|apply cu|apply bE|apply bt|apply pD|apply oA)|(with_reducible apply gF<;>intro _)|(with_reducible apply nL);assumption;(· kernel_rfl)|(with_reducible apply gg);(· kernel_rfl)|(with_reducible refine zZ _ ?_ ?_ ?_);(· kernel_rfl);all_goals intros|with_reducible apply dY|((first|(with_reducible refine aq hs ?_)|(with_reducible refine aq (cg.trans hs) ?_));intro wa hk;(simp_all [State.isZero,mn.ext_iff]))|((with_reducible refine xm (wA _) hs.has ?_);intro w X au;replace hs:=hs.trans au)
def Rec.isZero (r:Rec):Bool:=decide (r.dH= .zero)&&decide (r.br= .zero)&&decide (r.prev= .zero)&&!r.ko&&decide (r.n=0)&&decide (r.rP=0)&&
 decide (r.reads=[])&&decide (r.writes=[])&&decide (r.parts=[])&&decide (r.bH=[])&&r.state.isZero
theorem Ws {w:World} {X:XS} {r:Rec} {vr vw vp vq vh vd:Value} (h:r.at w X vr vw vp vq vh vd):
  Ct pg 223 #[r.v vr vw vp vq vh vd] w X nX fun v _ _=>v=B r.isZero:=by
 intro w0 hk
 obtain⟨h1,h2,h3,h4,h5,h6⟩:=h.mv hk.dA
 apply TP;unfold IP
 have hs:=aj.init w0
 cases hc:r.ko<;>
 repeat' first|with_reducible (first|apply dz|apply cL|apply cM|apply cu|apply bE|apply bt|apply pD|apply oA|apply eY|apply gv)|(with_reducible apply gF<;>intro _)|(with_reducible apply bS);exact qO;(· kernel_rfl)|(with_reducible apply gg);(· kernel_rfl)|(with_reducible refine zZ _ ?_ ?_ ?_);(· kernel_rfl);all_goals intros|(with_reducible refine T5 _ ?_ ?_ ?_);(· kernel_rfl);all_goals intros|with_reducible apply dY|((first|(with_reducible refine aq hs ?_)|(with_reducible refine aq (cg.trans hs) ?_));intro wa hk;(simp_all [Rec.isZero]))|((with_reducible refine xm (wA _) hs.has ?_);intro w X au;replace hs:=hs.trans au)|(refine gZ (MG  (s:=r.state) qA qA) (by kernel_rfl) hs.has ?_ ?_<;>(intro _ w X au;replace hs:=hs.trans au))
def Rec.strip (r:Rec):Rec×Bool:=
 if r.kind=1 then({ r with state:=.zero },true)
 else if r.kind=2∨r.kind=7∨r.kind=8 then({ r with n:=0 },true)
 else if r.kind=3 then({ r with dH:=.zero,br:=.zero,reads:=[],writes:=[],parts:=[] },true)
 else if r.kind=4 then({ r with dH:=.zero,ko:=false,br:=.zero },true)
 else if r.kind=5 then({ r with br:=.zero },true)
 else if r.kind=6 then({ r with rP:=0,n:=0,br:=.zero },true)
 else if r.kind=9 then({ r with dH:=.zero,br:=.zero,parts:=[] },true)
 else if r.kind=10 then({ r with dH:=.zero },true)
 else if r.kind=11 then({ r with prev:=.zero,br:=.zero,dH:=.zero,writes:=[] },true)
 else if r.kind=12 then({ r with br:=.zero,bH:=[] },true)
 else(r,false)
theorem P1 {w:World} {X:XS} {r:Rec} {vr vw vp vq vh vd:Value} (h:r.at w X vr vw vp vq vh vd):
  Ct pg 222 #[r.v vr vw vp vq vh vd] w X nX fun v _ _=> ∃Ub Uc Ud vq' Ue Uf,v= .tuple #[r.strip.1.v Ub Uc Ud vq' Ue Uf,B r.strip.2]∧
   r.strip.1.at w X Ub Uc Ud vq' Ue Uf:=by
 intro w0 hk
 obtain⟨h1,h2,h3,h4,h5,h6⟩:=h
 have o1:=h1.one
 have o2:=h2.one
 have o3:=h3.one
 have o4:=h4.one
 have o5:=h5.one
 have o6:=h6.one
 apply Oa;unfold CY
 have hs:=aj.init w0
 have n1:Sl w X 1 (.slice none 0 0) (([]:List BA).map S1):=Sl.nil _ _ _
 have n2:Sl w X 4 (.slice none 0 0) (([]:List KV).map KV.l):=Sl.nil _ _ _
 have n3:Sl w X 1 (.slice none 0 0) (([]:List Int).map I1):=Sl.nil _ _ _
 have n4:mW w X (.slice none 0 0) []:=iw.nil _ _ _
 have n5:mC w X (.slice none 0 0) []:=iw.nil _ _ _
 repeat' first|with_reducible (first|apply aD|apply ak)|(with_reducible apply ji);exact qN|(with_reducible apply CF);exact qN|with_reducible apply ff|(with_reducible apply gF<;>intro _)|(with_reducible apply gg);(· kernel_rfl)|(with_reducible apply fj);(case h=>exact qE)|(with_reducible apply Ek);(case h=>exact qE)|(with_reducible apply eh);exact qC|with_reducible apply dY
 all_goals
  refine aq hs ?_
  intro wa aR
  unfold Rec.strip
  repeat (first|rw [if_pos (by omega)]|rw [if_neg (by omega)])
  exact⟨_,_,_,_,_,_,rfl,by assumption,by assumption,by assumption,by assumption,by assumption,by assumption⟩
theorem R3 {w:World} {X:XS} {a:Value} {xs:List BA} (ha:Sl w X 1 a (xs.map S1)) (hb:xs.length≤2^40):
  Ct pg 353 #[a] w X nX fun v wa w'=>Own w' (made wa w') wa.heap.size 9 1 v (xs.map S1):=by
  intro w0 hk
  replace ha:=ha.mv hk.dA
  apply wy;unfold oW
  have hs:=aj.init w0
  repeat' first|with_reducible (first|apply aD|apply ak)|(with_reducible apply Th);exact qO;(· kernel_rfl);all_goals intros|(with_reducible apply CG);(case hX=>exact hs.has);(case hu=>kernel_rfl);(case hz=>kernel_rfl);intro acc w X au ho;replace hs:=hs.trans au|((first|(with_reducible refine aq hs ?_)|(with_reducible refine aq (cg.trans hs) ?_));intro wa hk;(first|(rename_i h1 h2;(first|(rw [h2])|skip);exact Own.nil _ _ _ _ _)|exact(ho.kp hk).tight))|((with_reducible apply zK);(case own=>assumption);(case hs=>assumption);(case h0=>exact fun _ h=>h);(case he=>kernel_rfl);(case src=>exact Sl.mv ha (aj.mv hs));(case h1=>simp [one]);(case hb=>simp;omega);(case hl=>simp;omega);intro acc w X au ho hc gQ;replace hs:=au;rw [cV] at ho)
theorem EW {w:World} {X:XS} {a:Value} {xs:List KV} (ha:Sl w X 4 a (xs.map KV.l)) (hb:xs.length≤2^40):
  Ct pg 60 #[a] w X nX fun v wa w'=>Own w' (made wa w') wa.heap.size 53 4 v (xs.map KV.l):=by
  intro w0 hk
  replace ha:=ha.mv hk.dA
  apply sX;unfold m8
  have hs:=aj.init w0
  repeat' first|with_reducible (first|apply aD|apply ak)|(with_reducible apply Th);exact qO;(· kernel_rfl);all_goals intros|(with_reducible apply CG);(case hX=>exact hs.has);(case hu=>kernel_rfl);(case hz=>kernel_rfl);intro acc w X au ho;replace hs:=hs.trans au|((first|(with_reducible refine aq hs ?_)|(with_reducible refine aq (cg.trans hs) ?_));intro wa hk;(first|(rename_i h1 h2;(first|(rw [h2])|skip);exact Own.nil _ _ _ _ _)|exact(ho.kp hk).tight))|((with_reducible apply zK);(case own=>assumption);(case hs=>assumption);(case h0=>exact fun _ h=>h);(case he=>kernel_rfl);(case src=>exact Sl.mv ha (aj.mv hs));(case h1=>simp [one]);(case hb=>simp;omega);(case hl=>simp;omega);intro acc w X au ho hc gQ;replace hs:=au;rw [cV] at ho)
theorem MH {w:World} {X:XS} {a:Value} {xs:List lV} (ha:Sl w X 6 a (xs.map lV.l)) (hb:xs.length≤2^40):
  Ct pg 317 #[a] w X nX fun v wa w'=>Own w' (made wa w') wa.heap.size 337 6 v (xs.map lV.l):=by
  intro w0 hk
  replace ha:=ha.mv hk.dA
  apply ri;unfold lU
  have hs:=aj.init w0
  repeat' first|with_reducible (first|apply aD|apply ak)|(with_reducible apply Th);exact qO;(· kernel_rfl);all_goals intros|(with_reducible apply CG);(case hX=>exact hs.has);(case hu=>kernel_rfl);(case hz=>kernel_rfl);intro acc w X au ho;replace hs:=hs.trans au|((first|(with_reducible refine aq hs ?_)|(with_reducible refine aq (cg.trans hs) ?_));intro wa hk;(first|(rename_i h1 h2;(first|(rw [h2])|skip);exact Own.nil _ _ _ _ _)|exact(ho.kp hk).tight))|((with_reducible apply zK);(case own=>assumption);(case hs=>assumption);(case h0=>exact fun _ h=>h);(case he=>kernel_rfl);(case src=>exact Sl.mv ha (aj.mv hs));(case h1=>simp [one]);(case hb=>simp;omega);(case hl=>simp;omega);intro acc w X au ho hc gQ;replace hs:=au;rw [cV] at ho)
theorem R4 {w:World} {X:XS} {a:Value} {xs:List BA} {k:BA} (ha:Sl w X 1 a (xs.map S1)):
  Ct pg 371 #[a,.string k] w X nX fun v _ _=>v=I (idxOf (fun x=>decide (k=x)) xs):=by
 intro w0 hk
 replace ha:=ha.mv hk.dA
 have nw:=ha.gW
 apply wz;unfold oX
 have hs:=aj.init w0
 repeat' first|(with_reducible apply bS);exact qO;(· kernel_rfl)
 refine fK (fun n a w X=> ∃i:Nat,a=I (i:Nat)∧n=(xs).length-i∧i≤(xs).length∧aj (aW w0) w0 X w∧(∀(j:Nat) x,j<i→xs[j]? =some x→decide (k=x)=false)) (xs).length ⟨0,rfl,rfl,aV _,hs,by simp⟩ ?_
 rintro n a w X ⟨i,rfl,rfl,hi,hs,hw⟩
 rcases fh (xs) i with⟨dh,x,hx,hd⟩|⟨eI,hd⟩
 ·repeat' first|(with_reducible refine dC ?_ ?_);omega|with_reducible (first|apply aD|apply ak)|(with_reducible apply zJ<;>intro _)|(with_reducible apply aZ);exact qF;exact qM;(· kernel_rfl);rfl|((with_reducible apply e7);exact qO;(try (case hz=>rfl));(case hr=>exact qR);(try (case hz=>omega));(case ht=>kernel_rfl);(case hs=>kernel_rfl);intro _ _ _)|(with_reducible apply cx);omega;omega|((first|(with_reducible refine aq hs ?_)|(with_reducible refine aq (cg.trans hs) ?_));intro wa hk;(rw [Tm hw hx (by simpa)]))|((with_reducible refine ga ((xs).length-(i+1)) ?_ ?_);omega;exact⟨i+1,by simp,rfl,by omega,hs,fun j y hj hy=>by rcases Nat.lt_succ_iff_lt_or_eq.1 hj with h|h;exact hw j y h hy;subst h;rw [hx] at hy;cases hy;simpa⟩)
 ·repeat' first|(with_reducible refine dm ?_ ?_);omega|with_reducible apply ak|((first|(with_reducible refine aq hs ?_)|(with_reducible refine aq (cg.trans hs) ?_));intro wa hk;(rw [NB fun j x hj hx=>hw j x (by omega) hx]))
theorem MI {w:World} {X:XS} {a:Value} {xs:List BA} {k:BA} (ha:Sl w X 1 a (xs.map S1)):
  Ct pg 351 #[a,.string k] w X nX fun v _ _=>v=B (xs.any fun x=>decide (k=x)):=by
 intro w0 hk
 replace ha:=ha.mv hk.dA
 apply uF;unfold nN
 have hs:=aj.init w0
 repeat' first|(with_reducible apply mG<;>intro _)|((first|(with_reducible refine aq hs ?_)|(with_reducible refine aq (cg.trans hs) ?_));intro wa hk;(rw [←Iw];simp [*]))|(refine dt (R4  qA) (by kernel_rfl) hs.has ?_;intro w X au;replace hs:=hs.trans au)
theorem Jl {w:World} {X:XS} {a:Value} {xs:List KV} {f:FuncId} {cs:List Value} {p:KV→Bool} (ha:Sl w X 4 a (xs.map KV.l)) (hX: ∀k,X k→k<w.heap.size) (hf:enters pg f=true)
  (hp: ∀x,Ct pg f ((.agg x.l.toArray)::cs).toArray w X nX fun v _ _=>v=B (p x)):
  Ct pg 379 #[a,.func (.func f) #[] cs.toArray] w X nX fun v _ _=>v=I (idxOf p xs):=by
 intro w0 hk
 replace ha:=ha.mv hk.dA
 replace hp:=fun x=>((hp x).kp hk).aW fun k hx=>aU (hX k hx) hk.size
 have nw:=ha.gW
 apply ra;unfold lT
 have hs:=aj.init w0
 repeat' first|(with_reducible apply bS);exact qO;(· kernel_rfl)
 refine fK (fun n a w X=> ∃i:Nat,a=I (i:Nat)∧n=(xs).length-i∧i≤(xs).length∧aj (aW w0) w0 X w∧(∀(j:Nat) x,j<i→xs[j]? =some x→p x=false)) (xs).length ⟨0,rfl,rfl,aV _,hs,by simp⟩ ?_
 rintro n a w X ⟨i,rfl,rfl,hi,hs,hw⟩
 rcases fh (xs) i with⟨dh,x,hx,hd⟩|⟨eI,hd⟩
 ·repeat' first|(with_reducible refine dC ?_ ?_);omega|with_reducible (first|apply aD|apply ak)|(with_reducible apply fP);exact qF;exact qM;(· kernel_rfl);rfl|((with_reducible apply e7);exact qO;(try (case hz=>rfl));(case hr=>exact qR);(try (case hz=>omega));(case ht=>kernel_rfl);(case hs=>kernel_rfl);intro _ _ _)|(with_reducible apply cx);omega;omega|(with_reducible apply Kl);rfl|((first|(with_reducible refine aq hs ?_)|(with_reducible refine aq (cg.trans hs) ?_));intro wa hk;(rw [Tm hw hx ‹_›]))|((with_reducible refine ga ((xs).length-(i+1)) ?_ ?_);omega;exact⟨i+1,by simp,rfl,by omega,hs,fun j y hj hy=>by rcases Nat.lt_succ_iff_lt_or_eq.1 hj with h|h;exact hw j y h hy;subst h;rw [hx] at hy;cases hy;assumption⟩)|(refine gZ ((hp x).since hs) hf hs.has ?_ ?_<;>(intro _ w X au;replace hs:=hs.trans au))
 ·repeat' first|(with_reducible refine dm ?_ ?_);omega|with_reducible apply ak|((first|(with_reducible refine aq hs ?_)|(with_reducible refine aq (cg.trans hs) ?_));intro wa hk;(rw [NB fun j x hj hx=>hw j x (by omega) hx]))
theorem EX {w:World} {X:XS} {a:Value} {xs:List KV} {f:FuncId} {cs:List Value} {p:KV→Bool} (ha:Sl w X 4 a (xs.map KV.l)) (hX: ∀k,X k→k<w.heap.size) (hf:enters pg f=true)
  (hp: ∀x,Ct pg f ((.agg x.l.toArray)::cs).toArray w X nX fun v _ _=>v=B (p x)):
  Ct pg 369 #[a,.func (.func f) #[] cs.toArray] w X nX fun v _ _=>v=B (xs.any p):=by
 intro w0 hk
 replace ha:=ha.mv hk.dA
 replace hp:=fun x=>((hp x).kp hk).aW fun k hx=>aU (hX k hx) hk.size
 apply pU;unfold kZ
 have hs:=aj.init w0
 repeat' first|(with_reducible apply mG<;>intro _)|((first|(with_reducible refine aq hs ?_)|(with_reducible refine aq (cg.trans hs) ?_));intro wa hk;(rw [←Iw];simp [*]))|(refine dt (Jl ha hs.has hf hp) (by kernel_rfl) hs.has ?_;intro w X au;replace hs:=hs.trans au)
end Go.Proofs.YtpdkoaklobnegaaGreat
