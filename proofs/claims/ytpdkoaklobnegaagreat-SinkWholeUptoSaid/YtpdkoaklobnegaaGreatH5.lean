/-
 Part 5 of the proof: what the last text leans on.
-/
import Derived.Test.YtpdkoaklobnegaaGreatProg
import Derived.KernelRfl
import Derived.Test.YtpdkoaklobnegaaGreatH4
open Go.Value renaming cells → ad, int → aC, tuple → ax, agg → aF
open Array renaming toList → af
open Go.IntKind renaming u64 → bm, u32 → fy, u8 → cE
open List renaming all → aW, length → az, toArray → bh
open Go.Op renaming unary → bg
open Go.Instr renaming extract → aH, box → dx, lookup → dR, makeFunc → cx, alloc → gZ, mapUpdate → gK
open Go.UnOp renaming not → bJ, xor → tY
open Go.Fn renaming func → fZ
set_option linter.unusedVariables false
set_option linter.unusedSimpArgs false
namespace Go.Proofs.YtpdkoaklobnegaaGreat
open Go.Proofs.Tryz renaming prog → pg
open Go.dL
set_option maxRecDepth 100000
section
variable (R : Ending → World → Prop) (w0 : World) (X0 : XS)
def sN (p0 p1:Value):Prop:=
 ay pg X0 w0 (aE p1) fun a=>
 aa pg X0 w0 (aS 74 0 0 1 a) fun b=>
 eC pg R X0 w0 true 214 #[p0,b] fun _ c d=>
 (ay pg d c (aE p1) fun e=>
 aa pg d c (aS 74 1 1 3 e) fun g=>
 eC pg R d c true 221 #[p0,g] fun _ h i=>
 fin R i h (ax #[]))
def yg (p0:Value):Prop:=
 (ay pg X0 w0 (aE p0) fun a=>
 aa pg X0 w0 (aS 223 2 2 1 a) fun b=>
 aa pg X0 w0 (bb 29 b) fun c=>
 ay pg X0 w0 (aE p0) fun d=>
 aa pg X0 w0 (aS 223 3 3 1 d) fun e=>
 aa pg X0 w0 (bb 3 e) fun g=>
 (fin R X0 w0 (ax #[c,g])))
noncomputable def YH:bG:=⟨22,[(1,(pg.cellsOf 117)),(3,(pg.cellsOf 117))],[],[0,2,4,10,13],[17,18,19,20],[]⟩
def M6 (bo bA bD cg cy cz cA cI dB dq:Int) (cj:Bool) (cd:Int) (dv:Nat) (dh da dc dk:Value) (dr cO:Int) (cL cP:Nat) (cQ cR dd cS cV cW:Int) (cX cY:Value):Prop:=
 (eC pg R X0 w0 true 222 #[(.agg #[(I bo),(I bA),(I bD),(I cg),(I cy),(I cz),(I cA),(I cI),(I dB),(I dq),(B cj),(I cd),(.float .f64 dv),dh,da,dc,dk,(I dr),(I cO),(.float .f64 cL),(.float .f64 cP),(I cQ),(I cR),(I dd),(I cS),(I cV),(I cW),cX,cY])] fun a b c=>
 aa pg c b (aH a 0) fun d=>
 aa pg c b (aH a 1) fun e=>
 un (aF (ad d)) fun g=>
 bq (az (af (ad d))==29) (bq (aW (af (ad d)) one) ((aa pg c b (bg bJ e) fun h=>
 (ao h
 (fin R c b (I 7))
 (bq (dO g) (un (ef g 0 29) fun i=>
 eC pg R c b true 223 #[i] fun j k l=>
 aa pg l k (bg bJ j) fun m=>
 un (aO m false (.agg #[(I bo),(I bA),(I bD),(I cg),(I cy),(I cz),(I cA),(I cI),(I dB),(I dq),(B cj),(I cd),(.float .f64 dv),dh,da,dc,dk,(I dr),(I cO),(.float .f64 cL),(.float .f64 cP),(I cQ),(I cR),(I dd),(I cS),(I cV),(I cW),cX,cY])) fun n=>
 jn (fun (o:Value) (q:World) (r:XS)=>
 aD pg r q m false (vS (bg bJ o)) fun s=>
 ay pg r q (aR m (B true) s) fun t=>
 (ao t
 (fin R r q (I 4))
 (fin R r q (I 0)))) fun v=>
 (gE m false (eC pg R l k true 224 #[n] v) (v undef k l)))))))))
def BC:Prop:=
 (aa pg X0 w0 (ez 308 #[(.slice none 0 0)] #[]) fun a=>
 eV pg R X0 w0 true (dx 308 a) fun b c d=>
 (fin R d c b))
def yh (p0:Value):Prop:=
 (eV pg R X0 w0 true (gU 95 5 1 0 #[]) fun a b c=>
 ay pg c b (aE p0) fun d=>
 aa pg c b (aS 308 0 0 1 d) fun e=>
 aa pg c b (bb 95 e) fun g=>
 eV pg R c b true (gH 95 5 1 1 95 a g) fun h i j=>
 (fin R j i h))
noncomputable def W5:bG:=⟨41,[(1,(pg.cellsOf 51))],[4,8,14,20,24,27,36],[0,2,3,9,10,18,32],[13,15,16,23,25,26,28,29,30,35,37,38,39],[]⟩
def Kz (bo:Int) (bA:Nat) (bD:ByteArray):Prop:=
 (eC pg R X0 w0 true 111 #[(.float .f64 bA)] fun a b c=>
 aa pg c b (aJ .eql 196 (.tmp 6) (.const (aC bm 0)) a (aC bm 0)) fun d=>
 ((aa pg c b (aJ .eql 3 (.tmp 9) (.const (I 0)) (I bo) (I 0)) fun e=>
 (ao e
 (un (aO d true (.string bD)) fun g=>
 aD pg c b d true (vS (aJ .eql 9 (.tmp 15) (.const (.string { data:= #[] })) g (.string { data:= #[] }))) fun h=>
 ay pg c b (aR d h (B false)) fun i=>
 (fin R c b i))
 (aa pg c b (aJ .eql 3 (.tmp 9) (.const (I 1)) (I bo) (I 1)) fun j=>
 (ao j
 (aa pg c b (aJ .eql 9 (.tmp 21) (.const (.string { data:= #[] })) (.string bD) (.string { data:= #[] })) fun k=>
 un (aO k true (.float .f64 bA)) fun l=>
 jn (fun (m:Value) (n:World) (o:XS)=>
 jn (fun (q:Value) (r:World) (s:XS)=>
 aD pg s r k true (vS (aJ .eql 196 (.tmp 26) (.tmp 29) m q)) fun t=>
 ay pg s r (aR k t (B false)) fun v=>
 (fin R s r v)) fun y=>
 (gE k true (eC pg R o n true 225 #[l] y) (y undef n o))) fun z=>
 (gE k true (eC pg R c b false 111 #[l] z) (z undef b c)))
 (aa pg c b (aJ .eql 3 (.tmp 9) (.const (I 2)) (I bo) (I 2)) fun A=>
 (ao A
 (un (aO d true (.string bD)) fun C=>
 aD pg c b d true (vS (lJ 9 3 C)) fun D=>
 aD pg c b d true (vS (binOp .leq 3 D (I 64))) fun E=>
 ay pg c b (aR d E (B false)) fun F=>
 (fin R c b F))
 (fin R c b (B false))))))))))
noncomputable def Oi:bG:=⟨46,[(2,(pg.cellsOf 51)),(3,(pg.cellsOf 51))],[14,16,20,22,26,29,31,35,37,41,43],[0,1,4,12,13,19,25,34,40],[8,9,10,11],[]⟩
def CK (bo:Int) (bA:Nat) (bD:ByteArray) (cZ:Int) (dp:Nat) (du:ByteArray):Prop:=
 (eC pg R X0 w0 true 158 #[(.agg #[(I bo),(.float .f64 bA),(.string bD)])] fun a b c=>
 aa pg c b (bg bJ a) fun d=>
 un (aO d false (.agg #[(I cZ),(.float .f64 dp),(.string du)])) fun e=>
 jn (fun (g:Value) (h:World) (i:XS)=>
 aD pg i h d false (vS (bg bJ g)) fun j=>
 ay pg i h (aR d (B true) j) fun k=>
 (ao k
 (fin R i h (I 0))
 ((aa pg i h (binOp .lss 3 (I bo) (I cZ)) fun l=>
 (ao l
 ((fin R i h (I (-1))))
 (aa pg i h (binOp .gtr 3 (I bo) (I cZ)) fun m=>
 (ao m
 (fin R i h (I 1))
 (aa pg i h (aJ .eql 3 (.tmp 27) (.const (I 1)) (I bo) (I 1)) fun n=>
 (ao n
 (eC pg R i h true 226 #[(.float .f64 bA),(.float .f64 dp)] fun o q r=>
 (fin R r q o))
 (aa pg i h (binOp .lss 9 (.string bD) (.string du)) fun s=>
 (ao s
 ((fin R i h (I (-1))))
 (aa pg i h (binOp .gtr 9 (.string bD) (.string du)) fun t=>
 (ao t
 (fin R i h (I 1))
 (fin R i h (I 0))))))))))))))) fun v=>
 (gE d false (eC pg R c b true 158 #[e] v) (v undef b c)))
noncomputable def Rv:bG:=⟨9,[],[],[0,2],[5,6,7],[]⟩
def FQ (p0:Int):Prop:=
 (aa pg X0 w0 (binOp .geq 3 (I p0) (I 1)) fun a=>
 un (aO a true (I p0)) fun b=>
 aD pg X0 w0 a true (vS (binOp .leq 3 b (I 12))) fun c=>
 ay pg X0 w0 (aR a c (B false)) fun d=>
 (fin R X0 w0 d))
noncomputable def Tv:bG:=⟨131,[(1,(pg.cellsOf 48))],[4,9,14,18,22,27,32,39,41,45,50,55,60,64,72,76,81,86,91,96,98,104,106,110,116,118,122,127],[0,2,3,13,15,16,37,70,102,114,117],[8,10,11,12,21,23,24,26,28,29,31,33,34,35,44,46,47,48,54,56,57,59,61,62,63,65,66,67,68,75,77,78,80,82,83,85,87,88,90,92,93,95,97,99,100,109,111,112,121,123,124,125],[]⟩
def Io (bo _p0_1 _p0_2 cg cy cz cA cI dB dq cj cd _p0_12 _p0_13 _p0_14:Int) (dc:Bool) (_p0_16 _p0_17:Int) (cO cL cP cQ cR _p0_23:Value) (_p0_24 _p0_25:Int) (_p0_26 _p0_27:Nat) (_p0_28 _p0_29 _p0_30 _p0_31 _p0_32 _p0_33:Int) (_p0_34 _p0_35:Value):Prop:=
 (eC pg R X0 w0 true 238 #[(.agg #[(I cg),(I cy),(I cz)])] fun a b c=>
 aa pg c b (bg bJ a) fun d=>
 un (aO d false (I cA)) fun e=>
 jn (fun (g:Value) (h:World) (i:XS)=>
 aD pg i h d false (vS (bg bJ g)) fun j=>
 ay pg i h (aR d (B true) j) fun k=>
 (ao k
 (fin R i h (B false))
 (((aa pg i h (aJ .eql 3 (.tmp 15) (.const (I 1)) (I bo) (I 1)) fun l=>
 (ao l
 (aa pg i h (binOp .geq 3 (I cI) (I 0)) fun m=>
 un (aO m true (.agg #[(I dq),(I cj),(I cd)])) fun n=>
 jn (fun (o:Value) (q:World) (r:XS)=>
 ay pg r q (aR m o (B false)) fun s=>
 un (aO s true cO) fun t=>
 jn (fun (v:Value) (y:World) (z:XS)=>
 ay pg z y (aR s v (B false)) fun A=>
 un (aO A true cO) fun C=>
 aD pg z y A true (vS (cK 36 3 C)) fun D=>
 aD pg z y A true (vS (binOp .gtr 3 D (I 0))) fun E=>
 ay pg z y (aR A E (B false)) fun F=>
 (fin R z y F)) fun G=>
 (gE s true (eC pg R r q true 239 #[t] G) (G undef q r))) fun H=>
 (gE m true (eC pg R i h true 165 #[n] H) (H undef h i)))
 (aa pg i h (aJ .eql 3 (.tmp 15) (.const (I 2)) (I bo) (I 2)) fun L=>
 (ao L
 (eC pg R i h false 241 #[cL] fun M N O=>
 un (aO M true cL) fun Q=>
 aD pg O N M true (vS (cK 37 3 Q)) fun S=>
 aD pg O N M true (vS (binOp .gtr 3 S (I 0))) fun T=>
 ay pg O N (aR M T (B false)) fun U=>
 eC pg R O N true 240 #[(I dB),U,cR] fun V Y Z=>
 (un (aO V true (.agg #[(I dq),(I cj),(I cd)])) fun a0=>
 jn (fun (b0:Value) (c0:World) (d0:XS)=>
 ay pg d0 c0 (aR V b0 (B false)) fun e0=>
 un (aO e0 true (I dB)) fun g0=>
 aD pg d0 c0 e0 true (vS (aJ .eql 29 (.tmp 61) (.const (I 0)) g0 (I 0))) fun h0=>
 un (aO e0 true h0) fun i0=>
 un (aO i0 false cL) fun j0=>
 aD pg d0 c0 i0 false (vS (cK 37 3 j0)) fun k0=>
 aD pg d0 c0 i0 false (vS (aJ .eql 3 (.tmp 66) (.const (I 0)) k0 (I 0))) fun l0=>
 aD pg d0 c0 e0 true (aR i0 (B true) l0) fun m0=>
 ay pg d0 c0 (aR e0 m0 (B false)) fun n0=>
 (fin R d0 c0 n0)) fun o0=>
 (gE V true (eC pg R Z Y true 165 #[a0] o0) (o0 undef Y Z))))
 (aa pg i h (aJ .eql 3 (.tmp 15) (.const (I 3)) (I bo) (I 3)) fun q0=>
 (ao q0
 (aa pg i h (binOp .geq 3 (I cI) (I 0)) fun r0=>
 un (aO r0 true (.agg #[(I dq),(I cj),(I cd)])) fun s0=>
 jn (fun (t0:Value) (v0:World) (y0:XS)=>
 ay pg y0 v0 (aR r0 t0 (B false)) fun z0=>
 un (aO z0 true cL) fun A0=>
 jn (fun (C0:Value) (D0:World) (E0:XS)=>
 ay pg E0 D0 (aR z0 C0 (B false)) fun F0=>
 un (aO F0 true cP) fun G0=>
 jn (fun (H0:Value) (L0:World) (M0:XS)=>
 ay pg M0 L0 (aR F0 H0 (B false)) fun N0=>
 un (aO N0 true cQ) fun O0=>
 jn (fun (Q0:Value) (S0:World) (T0:XS)=>
 ay pg T0 S0 (aR N0 Q0 (B false)) fun U0=>
 un (aO U0 true cQ) fun V0=>
 un (aO U0 true (I cA)) fun Y0=>
 jn (fun (Z0:Value) (a1:World) (b1:XS)=>
 ay pg b1 a1 (aR U0 Z0 (B false)) fun c1=>
 (fin R b1 a1 c1)) fun d1=>
 (gE U0 true (eC pg R T0 S0 true 244 #[V0,Y0] d1) (d1 undef S0 T0))) fun e1=>
 (gE N0 true (eC pg R M0 L0 true 243 #[O0] e1) (e1 undef L0 M0))) fun g1=>
 (gE F0 true (eC pg R E0 D0 true 242 #[G0] g1) (g1 undef D0 E0))) fun h1=>
 (gE z0 true (eC pg R y0 v0 true 241 #[A0] h1) (h1 undef v0 y0))) fun i1=>
 (gE r0 true (eC pg R i h true 165 #[s0] i1) (i1 undef h i)))
 (aa pg i h (aJ .eql 3 (.tmp 15) (.const (I 4)) (I bo) (I 4)) fun j1=>
 (ao j1
 (eC pg R i h true 240 #[(I dB),(B true),cR] fun k1 l1 m1=>
 un (aO k1 true (.agg #[(I dq),(I cj),(I cd)])) fun n1=>
 jn (fun (o1:Value) (q1:World) (r1:XS)=>
 ay pg r1 q1 (aR k1 o1 (B false)) fun s1=>
 (fin R r1 q1 s1)) fun t1=>
 (gE k1 true (eC pg R m1 l1 true 165 #[n1] t1) (t1 undef l1 m1)))
 (aa pg i h (aJ .eql 3 (.tmp 15) (.const (I 5)) (I bo) (I 5)) fun v1=>
 (ao v1
 ((ao (B dc)
 (eC pg R i h true 165 #[(.agg #[(I dq),(I cj),(I cd)])] fun y1 z1 A1=>
 un (aO y1 true (.agg #[(I dq),(I cj),(I cd)])) fun C1=>
 aD pg A1 z1 y1 true (vS (ez 35 #[(I 0),(I 0),(I 0)] #[])) fun D1=>
 aD pg A1 z1 y1 true (vS (aJ .neq 35 (.tmp 123) (.tmp 124) C1 D1)) fun E1=>
 ay pg A1 z1 (aR y1 E1 (B false)) fun F1=>
 (fin R A1 z1 F1))
 ((aa pg i h (ez 35 #[(I 0),(I 0),(I 0)] #[]) fun G1=>
 aa pg i h (aJ .eql 35 (.tmp 128) (.tmp 129) (.agg #[(I dq),(I cj),(I cd)]) G1) fun H1=>
 (fin R i h H1)))))
 (fin R i h (B true)))))))))))))))) fun L1=>
 (gE d false (eC pg R c b true 163 #[e] L1) (L1 undef b c)))
noncomputable def abN:bG:=⟨31,[(1,(pg.cellsOf 35))],[3,7,12,17,22,27],[0,2],[6,8,9,11,13,14,16,18,19,21,23,24,26,28,29],[]⟩
def Qa (bo bA bD:Int):Prop:=
 (aa pg X0 w0 (binOp .geq 3 (I bo) (I 0)) fun a=>
 un (aO a true (I bo)) fun b=>
 aD pg X0 w0 a true (vS (binOp .leq 3 b (I 281474976710656))) fun c=>
 ay pg X0 w0 (aR a c (B false)) fun d=>
 un (aO d true (I bA)) fun e=>
 aD pg X0 w0 d true (vS (binOp .geq 3 e (I 0))) fun g=>
 ay pg X0 w0 (aR d g (B false)) fun h=>
 un (aO h true (I bA)) fun i=>
 aD pg X0 w0 h true (vS (binOp .leq 3 i (I 65535))) fun j=>
 ay pg X0 w0 (aR h j (B false)) fun k=>
 un (aO k true (I bD)) fun l=>
 aD pg X0 w0 k true (vS (binOp .geq 3 l (I 0))) fun m=>
 ay pg X0 w0 (aR k m (B false)) fun n=>
 un (aO n true (I bD)) fun o=>
 aD pg X0 w0 n true (vS (binOp .leq 3 o (I 63))) fun q=>
 ay pg X0 w0 (aR n q (B false)) fun r=>
 (fin R X0 w0 r))
def Ip (p0:Value):Prop:=
 (aa pg X0 w0 (cK 39 3 p0) fun a=>
 (jw X0 w0 (I 0) 9 fun b c d e g=>
 aa pg g e (binOp .lss 3 d a) fun h=>
 (ao h
 ((aa pg g e (dD 39 29 p0 d) fun i=>
 aa pg g e (gy 117 29 i) fun j=>
 un (aF (ad j)) fun k=>
 bq (az (af (ad j))==29) (bq (aW (af (ad j)) one) ((bq (dO k) (un (ef k 0 29) fun l=>
 eC pg R g e true 91 #[l] fun m n o=>
 aa pg o n (aH m 0) fun _=>
 aa pg o n (aH m 1) fun q=>
 (aa pg o n (aJ .neq 29 (.tmp 18) (.const (I 0)) q (I 0)) fun r=>
 (ao r
 (fin R o n (B false))
 (((aa pg o n (binOp .add 3 d (I 1)) fun s=>
 jx b c s n o)))))))))))
 (((aa pg g e (cK 39 3 p0) fun t=>
 aa pg g e (binOp .leq 3 t (I 8)) fun v=>
 (fin R g e v)))))))
noncomputable def Oj:bG:=⟨87,[(7,(pg.cellsOf 288)),(9,(pg.cellsOf 229)),(13,(pg.cellsOf 53))],[49,61,73,81],[0,1,2,4,5,11,29,39,42,43,44,45,52,55,56,57,58,62,63,64,65,71,74,75,76,77,84],[18,19,20,21,22,24,25,26,27,28],[44,57,64,76]⟩
def Dg (bo bA:Int) (bD cg:Nat) (cy cz cA cI dB dq:Int) (cj cd:Value):Prop:=
 eV pg R X0 w0 true (dx 46 (.agg #[(I bo),(I bA),(.float .f64 bD),(.float .f64 cg),(I cy),(I cz),(I cA),(I cI),(I dB),(I dq),cj,cd])) fun a b c=>
 (aa pg c b (aS 46 0 0 4 a) fun d=>
 aa pg c b (gy 42 4 d) fun e=>
 eC pg R c b true 245 #[e] fun g h i=>
 aa pg i h (bg bJ g) fun j=>
 aD pg i h j false (vS (aS 46 1 4 3 a)) fun k=>
 aD pg i h j false (vS (gy 35 3 k)) fun l=>
 jn (fun (m:Value) (n:World) (o:XS)=>
 aD pg o n j false (vS (bg bJ m)) fun q=>
 ay pg o n (aR j (B true) q) fun r=>
 aD pg o n r false (vS (aS 46 2 7 3 a)) fun s=>
 aD pg o n r false (vS (gy 35 3 s)) fun t=>
 jn (fun (v:Value) (y:World) (z:XS)=>
 aD pg z y r false (vS (bg bJ v)) fun A=>
 ay pg z y (aR r (B true) A) fun C=>
 (ao C
 (fin R z y (B false))
 ((aa pg z y (aS 46 3 10 1 a) fun D=>
 aa pg z y (bb 43 D) fun E=>
 aa pg z y (aS 46 4 11 1 a) fun F=>
 aa pg z y (bb 44 F) fun G=>
 eC pg R z y true 246 #[E,G] fun H L M=>
 aa pg M L (aH H 0) fun _=>
 aa pg M L (aH H 1) fun N=>
 (aa pg M L (aJ .neq 29 (.tmp 38) (.const (I 0)) N (I 0)) fun O=>
 (ao O
 (fin R M L (B false))
 ((aa pg M L (cx (fZ 247) #[] #[a]) fun Q=>
 (aa pg M L (aS 46 3 10 1 a) fun S=>
 aa pg M L (bb 43 S) fun T=>
 aa pg M L (cK 43 3 T) fun U=>
 (jw M L (I 0) 44 fun V Y Z a0 b0=>
 aa pg b0 a0 (binOp .lss 3 Z U) fun c0=>
 (ao c0
 ((aa pg b0 a0 (dD 43 2 T Z) fun d0=>
 aa pg b0 a0 (gy 288 2 d0) fun e0=>
 un (aF (ad e0)) fun g0=>
 bq (az (af (ad e0))==2) (bq (aW (af (ad e0)) one) ((bq (dO g0) (un (cellOf g0 0) fun h0=>
 eF pg R b0 a0 true Q #[h0] fun i0 j0 k0=>
 aa pg k0 j0 (bg bJ i0) fun l0=>
 (ao l0
 (fin R k0 j0 (B false))
 (((aa pg k0 j0 (binOp .add 3 Z (I 1)) fun m0=>
 jx V Y m0 j0 k0))))))))))
 (((aa pg b0 a0 (aS 46 4 11 1 a) fun n0=>
 aa pg b0 a0 (bb 44 n0) fun o0=>
 aa pg b0 a0 (cK 44 3 o0) fun q0=>
 (tq b0 a0 (I 0) undef undef 57 76 64 fun r0 s0 t0 _ _ v0 y0=>
 aa pg y0 v0 (binOp .lss 3 t0 q0) fun z0=>
 (ao z0
 ((aa pg y0 v0 (dD 44 8 o0 t0) fun A0=>
 aa pg y0 v0 (gy 229 8 A0) fun C0=>
 un (aF (ad C0)) fun D0=>
 bq (az (af (ad C0))==8) (bq (aW (af (ad C0)) one) ((bq (dO D0) (un (cellOf D0 6) fun E0=>
 aa pg y0 v0 (cK 36 3 E0) fun F0=>
 (jw y0 v0 (I 0) 64 fun G0 H0 L0 M0 N0=>
 aa pg N0 M0 (binOp .lss 3 L0 F0) fun O0=>
 (ao O0
 ((aa pg N0 M0 (dD 36 1 E0 L0) fun Q0=>
 aa pg N0 M0 (bb 9 Q0) fun S0=>
 (eF pg R N0 M0 true Q #[S0] fun T0 U0 V0=>
 aa pg V0 U0 (bg bJ T0) fun Y0=>
 (ao Y0
 (fin R V0 U0 (B false))
 (((aa pg V0 U0 (binOp .add 3 L0 (I 1)) fun Z0=>
 jx G0 H0 Z0 U0 V0)))))))
 (((bq (dO D0) (un (cellOf D0 7) fun a1=>
 aa pg N0 M0 (cK 23 3 a1) fun b1=>
 (jw N0 M0 (I 0) 76 fun c1 d1 e1 g1 h1=>
 aa pg h1 g1 (binOp .lss 3 e1 b1) fun i1=>
 (ao i1
 ((aa pg h1 g1 (dD 23 4 a1 e1) fun j1=>
 aa pg h1 g1 (gy 53 4 j1) fun k1=>
 un (aF (ad k1)) fun l1=>
 bq (az (af (ad k1))==4) (bq (aW (af (ad k1)) one) ((bq (dO l1) (un (cellOf l1 0) fun m1=>
 eF pg R h1 g1 true Q #[m1] fun n1 o1 q1=>
 aa pg q1 o1 (bg bJ n1) fun r1=>
 (ao r1
 (fin R q1 o1 (B false))
 (((aa pg q1 o1 (binOp .add 3 e1 (I 1)) fun s1=>
 jx c1 d1 s1 o1 q1))))))))))
 ((((aa pg h1 g1 (binOp .add 3 t0 (I 1)) fun t1=>
 tt r0 s0 t1 e1 L0 g1 h1))))))))))))))))))
 (fin R y0 v0 (B true)))))))))))))))))) fun v1=>
 (gE r false (eC pg R o n true 165 #[t] v1) (v1 undef n o))) fun y1=>
 (gE j false (eC pg R i h true 165 #[l] y1) (y1 undef h i)))
noncomputable def Tw:bG:=⟨29,[(4,(pg.cellsOf 35)),(5,(pg.cellsOf 35)),(6,(pg.cellsOf 33))],[],[0,1,2,3,8,22],[12,13,14,15,16,18,19,20,21],[]⟩
def Iq (bo bA bD cZ dp du tT tU tV:Int) (p3:Value):Prop:=
 (eC pg R X0 w0 true 165 #[(.agg #[(I bo),(I bA),(I bD)])] fun a b c=>
 aa pg c b (bg bJ a) fun d=>
 un (aO d false (.agg #[(I bo),(I bA),(I bD)])) fun e=>
 un (aO d false (.agg #[(I cZ),(I dp),(I du)])) fun g=>
 jn (fun (h:Value) (i:World) (j:XS)=>
 aD pg j i d false (vS (binOp .geq 3 h (I 0))) fun k=>
 ay pg j i (aR d (B true) k) fun l=>
 un (aO l false p3) fun m=>
 aD pg j i l false (vS (cK 23 3 m)) fun n=>
 aD pg j i l false (vS (aJ .eql 3 (.tmp 20) (.const (I 0)) n (I 0))) fun o=>
 ay pg j i (aR l (B true) o) fun q=>
 (ao q
 (fin R j i (B false))
 ((aa pg j i (ez 229 #[(I tT),(I tU),(I tV),(I cZ),(I dp),(I du),(.slice none 0 0),p3] #[(0,(.agg #[(I tT),(I tU),(I tV)])),(1,(.agg #[(I cZ),(I dp),(I du)])),(3,p3)]) fun r=>
 eC pg R j i true 250 #[r] fun s t v=>
 aa pg v t (aJ .eql 29 (.tmp 27) (.const (I 0)) s (I 0)) fun y=>
 (fin R v t y))))) fun z=>
 (gE d false (eC pg R c b true 53 #[e,g] z) (z undef b c)))
def FR (p0:Value):Prop:=
 (aa pg X0 w0 (cK 95 3 p0) fun a=>
 aa pg X0 w0 (binOp .gtr 3 a (I 262144)) fun b=>
 (ao b
 ((fin R X0 w0 (ax #[(.slice none 0 0),(I 2)])))
 ((aa pg X0 w0 (cK 95 3 p0) fun c=>
 aa pg X0 w0 (binOp .add 3 c (I 12)) fun d=>
 eV pg R X0 w0 true (Instr.makeSlice 95 (I 0) d) fun e g h=>
 aa pg h g (cK 95 3 p0) fun i=>
 aa pg h g (kV fy 3 281 i) fun j=>
 eC pg R h g true 251 #[e,j] fun k l m=>
 (eC pg R m l true 203 #[k] fun n o q=>
 eC pg R q o true 251 #[k,n] fun r s t=>
 (eV pg R t s true (gH 95 5 1 1 95 r p0) fun v y z=>
 (eC pg R z y true 203 #[p0] fun A C D=>
 eC pg R D C true 251 #[v,A] fun E F G=>
 (fin R G F (ax #[E,(I 0)])))))))))
noncomputable def IQ:bG:=⟨53,[],[],[0,1,2,6,7,8,15,20,23,52],[],[]⟩
def y6 (p0:Value) (p1:ByteArray) (p2:Value):Prop:=
 (ay pg X0 w0 (aE p0) fun a=>
 aa pg X0 w0 (aS 106 0 0 1 a) fun b=>
 aa pg X0 w0 (bb 104 b) fun c=>
 aa pg X0 w0 (dR 104 c (.string p1) false) fun d=>
 (ay pg X0 w0 (aE p0) fun e=>
 aa pg X0 w0 (aS 106 4 4 1 e) fun g=>
 aa pg X0 w0 (bb 4 g) fun h=>
 (ao h
 (fin R X0 w0 (I 12))
 (aa pg X0 w0 (aJ .eql 135 (.tmp 21) (.const (.pointer none)) d (.pointer none)) fun i=>
 (ao i
 (fin R X0 w0 (I 8))
 (aa pg X0 w0 (cK 95 3 p2) fun j=>
 ay pg X0 w0 (aE p0) fun k=>
 aa pg X0 w0 (aS 106 1 1 1 k) fun l=>
 aa pg X0 w0 (bb 3 l) fun m=>
 aa pg X0 w0 (binOp .sub 3 (I 4194304) m) fun n=>
 aa pg X0 w0 (binOp .gtr 3 j n) fun o=>
 (ao o
 (fin R X0 w0 (I 11))
 (((eC pg R X0 w0 true 252 #[p0] fun q r s=>
 (ay pg s r (aE d) fun t=>
 aa pg s r (aS 141 0 0 1 t) fun v=>
 aa pg s r (bb 95 v) fun y=>
 eV pg R s r true (gH 95 5 1 1 95 y p2) fun z A C=>
 ay pg C A (aE d) fun D=>
 aa pg C A (aS 141 0 0 1 D) fun E=>
 eU pg R C A true (dV 95 1 E z) fun _ F G=>
 (ay pg G F (aE p0) fun H=>
 aa pg G F (aS 106 1 1 1 H) fun L=>
 aa pg G F (bb 3 L) fun M=>
 aa pg G F (cK 95 3 p2) fun N=>
 aa pg G F (binOp .add 3 M N) fun O=>
 ay pg G F (aE p0) fun Q=>
 aa pg G F (aS 106 1 1 1 Q) fun S=>
 eU pg R G F true (dV 3 1 S O) fun _ T U=>
 ((ao q
 (fin R U T (I 12))
 (fin R U T (I 0))))))))))))))))
noncomputable def L9:bG:=⟨11,[],[],[0,1,2,3,4],[],[]⟩
def BD (p0:Value) (p1:ByteArray):Prop:=
 eV pg R X0 w0 true (dx 26 p0) fun a b c=>
 eV pg R c b true (dx 9 (.string p1)) fun d e g=>
 (aa pg g e (bb 26 a) fun h=>
 aa pg g e (bb 26 a) fun i=>
 aa pg g e (bb 9 d) fun j=>
 aa pg g e (cx (fZ 253) #[] #[a,d]) fun k=>
 eC pg R g e false 173 #[i,j] fun l m n=>
 eC pg R n m true 172 #[h,l,k] fun o q r=>
 (fin R r q o))
noncomputable def KA:bG:=⟨21,[],[],[0,1,2,6,7,12,16],[],[]⟩
def Az (p0:Value) (p1:Int) (p2:Value):Prop:=
 (ay pg X0 w0 (aE p0) fun a=>
 aa pg X0 w0 (aS 106 4 4 1 a) fun b=>
 aa pg X0 w0 (bb 4 b) fun c=>
 (ao c
 (fin R X0 w0 (I 12))
 (aa pg X0 w0 (aJ .neq 29 (.tmp 13) (.const (I 0)) (I p1) (I 0)) fun d=>
 (ao d
 (fin R X0 w0 (I p1))
 (eC pg R X0 w0 true 252 #[p0] fun e g h=>
 (ao e
 (fin R h g (I 12))
 (((eF pg R h g true p2 #[] fun _ i j=>
 (fin R j i (I 0)))))))))))
noncomputable def Ol:bG:=⟨12,[],[],[0,1,4,11],[],[]⟩
def Dh (p0:Value) (p1:ByteArray):Prop:=
 (ay pg X0 w0 (aE p0) fun a=>
 aa pg X0 w0 (aS 106 0 0 1 a) fun b=>
 aa pg X0 w0 (bb 104 b) fun c=>
 aa pg X0 w0 (dR 104 c (.string p1) false) fun d=>
 aa pg X0 w0 (aJ .eql 135 (.tmp 10) (.const (.pointer none)) d (.pointer none)) fun e=>
 (ao e
 (fin R X0 w0 (I 8))
 (fin R X0 w0 (I 0))))
noncomputable def EO:bG:=⟨5,[],[],[0,1],[],[]⟩
def vC (c0 c1:Value):Prop:=
 aa pg X0 w0 (bb 26 c0) fun a=>
 aa pg X0 w0 (bb 9 c1) fun b=>
 eC pg R X0 w0 true 175 #[a,b] fun _ c d=>
 fin R d c (ax #[])
noncomputable def Ma:bG:=⟨30,[],[],[0,1,4,12],[],[]⟩
def BE (p0:Value) (p1:ByteArray):Prop:=
 ay pg X0 w0 (aE p0) fun a=>
 aa pg X0 w0 (aS 106 0 0 1 a) fun b=>
 aa pg X0 w0 (bb 104 b) fun c=>
 aa pg X0 w0 (dR 104 c (.string p1) false) fun d=>
 (aa pg X0 w0 (aJ .neq 135 (.tmp 11) (.const (.pointer none)) d (.pointer none)) fun e=>
 (ao e
 (ay pg X0 w0 (aE p0) fun g=>
 aa pg X0 w0 (aS 106 1 1 1 g) fun h=>
 aa pg X0 w0 (bb 3 h) fun i=>
 ay pg X0 w0 (aE d) fun j=>
 aa pg X0 w0 (aS 141 0 0 1 j) fun k=>
 aa pg X0 w0 (bb 95 k) fun l=>
 aa pg X0 w0 (cK 95 3 l) fun m=>
 aa pg X0 w0 (binOp .sub 3 i m) fun n=>
 ay pg X0 w0 (aE p0) fun o=>
 aa pg X0 w0 (aS 106 1 1 1 o) fun q=>
 eU pg R X0 w0 true (dV 3 1 q n) fun _ r s=>
 (ay pg s r (aE p0) fun t=>
 aa pg s r (aS 106 0 0 1 t) fun v=>
 aa pg s r (bb 104 v) fun y=>
 eV pg R s r true (Builtin.delete_ #[104,9] 0 #[y,(.string p1)]) fun _ z A=>
 fin R A z (ax #[])))
 (fin R X0 w0 (ax #[]))))
noncomputable def BW:bG:=⟨60,[],[],[0,1,4,5,6,7,16,41],[12,13,14,15,37,38,39,40],[5,6,7]⟩
def sY (p0:Value) (p1:Int):Prop:=
 (((tq X0 w0 (I 0) undef (I 0) 6 7 5 fun a b c _ d e g=>
 aa pg g e (cK 43 3 p0) fun h=>
 aa pg g e (binOp .lss 3 c h) fun i=>
 un (aO i true d) fun j=>
 un (aO i true (I p1)) fun k=>
 aD pg g e i true (vS (binOp .leq 3 j k)) fun l=>
 ay pg g e (aR i l (B false)) fun m=>
 (ao m
 ((aa pg g e (dD 43 2 p0 c) fun n=>
 aa pg g e (aS 288 0 0 1 n) fun o=>
 aa pg g e (bb 9 o) fun q=>
 aa pg g e (lJ 9 3 q) fun r=>
 aa pg g e (binOp .add 3 (I 1) r) fun s=>
 eC pg R g e true 40 #[d,s,(I p1)] fun t v y=>
 ((jA y v (I 0) t 7 5 fun z A C D E F=>
 aa pg F E (dD 43 2 p0 c) fun G=>
 aa pg F E (aS 288 1 1 1 G) fun H=>
 aa pg F E (bb 286 H) fun L=>
 aa pg F E (cK 286 3 L) fun M=>
 aa pg F E (binOp .lss 3 C M) fun N=>
 un (aO N true D) fun O=>
 un (aO N true (I p1)) fun Q=>
 aD pg F E N true (vS (binOp .leq 3 O Q)) fun S=>
 ay pg F E (aR N S (B false)) fun T=>
 (ao T
 ((aa pg F E (dD 43 2 p0 c) fun U=>
 aa pg F E (aS 288 1 1 1 U) fun V=>
 aa pg F E (bb 286 V) fun Y=>
 aa pg F E (dD 286 6 Y C) fun Z=>
 aa pg F E (aS 337 1 3 3 Z) fun a0=>
 aa pg F E (aS 51 2 2 1 a0) fun b0=>
 aa pg F E (bb 9 b0) fun c0=>
 aa pg F E (lJ 9 3 c0) fun d0=>
 aa pg F E (binOp .add 3 (I 1) d0) fun e0=>
 eC pg R F E true 40 #[D,e0,(I p1)] fun g0 h0 i0=>
 ((aa pg i0 h0 (binOp .add 3 C (I 1)) fun j0=>
 jB z A j0 g0 h0 i0))))
 ((((aa pg F E (binOp .add 3 c (I 1)) fun k0=>
 tt a b k0 C D E F)))))))))
 (fin R g e d)))))
noncomputable def Di:bG:=⟨39,[],[],[0,1,4,5,6,15],[11,12,13,14,18],[5,6]⟩
def tH (p0:Value) (p1:Int):Prop:=
 (((jA X0 w0 (I 0) (I 0) 6 5 fun a b c d e g=>
 aa pg g e (cK 44 3 p0) fun h=>
 aa pg g e (binOp .lss 3 c h) fun i=>
 un (aO i true d) fun j=>
 un (aO i true (I p1)) fun k=>
 aD pg g e i true (vS (binOp .leq 3 j k)) fun l=>
 ay pg g e (aR i l (B false)) fun m=>
 (ao m
 ((aa pg g e (dD 44 8 p0 c) fun n=>
 aa pg g e (aS 229 2 6 1 n) fun o=>
 aa pg g e (bb 36 o) fun q=>
 aa pg g e (dD 44 8 p0 c) fun r=>
 aa pg g e (aS 229 3 7 1 r) fun s=>
 aa pg g e (bb 23 s) fun t=>
 eC pg R g e false 23 #[q,(I p1)] fun v y z=>
 aa pg z y (binOp .add 3 (I 1) v) fun A=>
 eC pg R z y false 40 #[d,A,(I p1)] fun C D E=>
 eC pg R E D true 10 #[t,(I p1)] fun F G H=>
 eC pg R H G true 40 #[C,F,(I p1)] fun L M N=>
 ((aa pg N M (binOp .add 3 c (I 1)) fun O=>
 jB a b O L M N))))
 (fin R g e d)))))
def Jy (p0:Value):Prop:=
 (aa pg X0 w0 (dD 95 1 p0 (I 0)) fun a=>
 aa pg X0 w0 (bb 5 a) fun b=>
 aa pg X0 w0 (kV fy 5 281 b) fun c=>
 aa pg X0 w0 (dD 95 1 p0 (I 1)) fun d=>
 aa pg X0 w0 (bb 5 d) fun e=>
 aa pg X0 w0 (kV fy 5 281 e) fun g=>
 aa pg X0 w0 (binOp .shl 281 g (aC bm 8)) fun h=>
 aa pg X0 w0 (binOp .or 281 c h) fun i=>
 aa pg X0 w0 (dD 95 1 p0 (I 2)) fun j=>
 aa pg X0 w0 (bb 5 j) fun k=>
 aa pg X0 w0 (kV fy 5 281 k) fun l=>
 aa pg X0 w0 (binOp .shl 281 l (aC bm 16)) fun m=>
 aa pg X0 w0 (binOp .or 281 i m) fun n=>
 aa pg X0 w0 (dD 95 1 p0 (I 3)) fun o=>
 aa pg X0 w0 (bb 5 o) fun q=>
 aa pg X0 w0 (kV fy 5 281 q) fun r=>
 aa pg X0 w0 (binOp .shl 281 r (aC bm 24)) fun s=>
 aa pg X0 w0 (binOp .or 281 n s) fun t=>
 (fin R X0 w0 t))
def KB (p0:Value):Prop:=
 ((aa pg X0 w0 (cK 95 3 p0) fun a=>
 aa pg X0 w0 (binOp .lss 3 a (I 64)) fun b=>
 (ao b
 (aa pg X0 w0 (cK 95 3 p0) fun c=>
 (tq X0 w0 (I 0) undef (aC fy 4294967295) 14 22 3 fun d e g _ h i j=>
 aa pg j i (binOp .lss 3 g c) fun k=>
 (ao k
 ((aa pg j i (dD 95 1 p0 g) fun l=>
 aa pg j i (bb 5 l) fun m=>
 (aa pg j i (kV fy 5 281 m) fun n=>
 aa pg j i (binOp .xor 281 h n) fun o=>
 ((jA j i (I 0) o 22 3 fun q r s t v y=>
 aa pg y v (binOp .lss 3 s (I 8)) fun z=>
 (ao z
 ((aa pg y v (binOp .shr 281 t (aC bm 1)) fun A=>
 aa pg y v (binOp .and 281 t (aC fy 1)) fun C=>
 aa pg y v (bg UnOp.neg C) fun D=>
 aa pg y v (binOp .and 281 (aC fy 2197175160) D) fun E=>
 aa pg y v (binOp .xor 281 A E) fun F=>
 ((aa pg y v (binOp .add 3 s (I 1)) fun G=>
 jB q r G F v y))))
 ((((aa pg y v (binOp .add 3 g (I 1)) fun H=>
 tt d e H s t v y))))))))))
 (aa pg j i (bg tY h) fun L=>
 (fin R j i L)))))
 ((eC pg R X0 w0 true 287 #[] fun M N O=>
 eV pg R O N true (gZ 353 true (ax #[])) fun Q S T=>
 eU pg R T S true (dV 353 256 Q M) fun _ U V=>
 (aa pg V U (cK 95 3 p0) fun Y=>
 (jA V U (I 0) (aC fy 4294967295) 38 3 fun Z a0 b0 c0 d0 e0=>
 aa pg e0 d0 (binOp .lss 3 b0 Y) fun g0=>
 (ao g0
 ((aa pg e0 d0 (dD 95 1 p0 b0) fun h0=>
 aa pg e0 d0 (bb 5 h0) fun i0=>
 (aa pg e0 d0 (binOp .shr 281 c0 (aC bm 8)) fun j0=>
 aa pg e0 d0 (kV cE 281 5 c0) fun k0=>
 aa pg e0 d0 (binOp .xor 5 k0 i0) fun l0=>
 aa pg e0 d0 (Instr.indexAt 353 Q l0) fun m0=>
 aa pg e0 d0 (bb 281 m0) fun n0=>
 aa pg e0 d0 (binOp .xor 281 j0 n0) fun o0=>
 ((aa pg e0 d0 (binOp .add 3 b0 (I 1)) fun q0=>
 jB Z a0 q0 o0 d0 e0)))))
 (aa pg e0 d0 (bg tY c0) fun r0=>
 (fin R e0 d0 r0))))))))))
noncomputable def EP:bG:=⟨9,[],[],[0,1],[],[]⟩
def vD (c0 c1:Value):Prop:=
 aa pg X0 w0 (bb 26 c0) fun a=>
 ay pg X0 w0 (aE a) fun b=>
 aa pg X0 w0 (aS 106 0 0 1 b) fun c=>
 aa pg X0 w0 (bb 104 c) fun d=>
 aa pg X0 w0 (bb 9 c1) fun e=>
 aa pg X0 w0 (ez 141 #[(.slice none 0 0),(I 0)] #[]) fun g=>
 eV pg R X0 w0 false (dx 141 g) fun h i j=>
 eU pg R j i true (gK 104 d e h) fun _ k l=>
 fin R l k (ax #[])
noncomputable def IS:bG:=⟨43,[],[],[0,1,2,3],[],[]⟩
def yO (c0 c1 c2:Value):Prop:=
 aa pg X0 w0 (bb 26 c0) fun a=>
 ay pg X0 w0 (aE a) fun b=>
 aa pg X0 w0 (aS 106 0 0 1 b) fun c=>
 aa pg X0 w0 (bb 104 c) fun d=>
 aa pg X0 w0 (bb 9 c1) fun e=>
 aa pg X0 w0 (dR 104 d e false) fun g=>
 (aa pg X0 w0 (bb 26 c0) fun h=>
 ay pg X0 w0 (aE h) fun i=>
 aa pg X0 w0 (aS 106 1 1 1 i) fun j=>
 aa pg X0 w0 (bb 3 j) fun k=>
 ay pg X0 w0 (aE g) fun l=>
 aa pg X0 w0 (aS 141 0 0 1 l) fun m=>
 aa pg X0 w0 (bb 95 m) fun n=>
 aa pg X0 w0 (cK 95 3 n) fun o=>
 aa pg X0 w0 (bb 3 c2) fun q=>
 aa pg X0 w0 (binOp .sub 3 o q) fun r=>
 aa pg X0 w0 (binOp .sub 3 k r) fun s=>
 ay pg X0 w0 (aE h) fun t=>
 aa pg X0 w0 (aS 106 1 1 1 t) fun v=>
 eU pg R X0 w0 true (dV 3 1 v s) fun _ y z=>
 (ay pg z y (aE g) fun A=>
 aa pg z y (aS 141 0 0 1 A) fun C=>
 aa pg z y (bb 95 C) fun D=>
 aa pg z y (bb 3 c2) fun E=>
 aa pg z y (bb 3 c2) fun F=>
 aa pg z y (Instr.sliceAt 95 D none (some E) (some F)) fun G=>
 ay pg z y (aE g) fun H=>
 aa pg z y (aS 141 0 0 1 H) fun L=>
 eU pg R z y true (dV 95 1 L G) fun _ M N=>
 (ay pg N M (aE g) fun O=>
 aa pg N M (aS 141 1 1 1 O) fun Q=>
 aa pg N M (bb 3 Q) fun S=>
 aa pg N M (bb 3 c2) fun T=>
 aa pg N M (Builtin.min_ #[3,3] 3 #[S,T]) fun U=>
 ay pg N M (aE g) fun V=>
 aa pg N M (aS 141 1 1 1 V) fun Y=>
 eU pg R N M true (dV 3 1 Y U) fun _ Z a0=>
 fin R a0 Z (ax #[]))))
noncomputable def KC:bG:=⟨39,[],[],[0,1,4,9,13],[],[4]⟩
def AA (p0:Value) (p1:Int):Prop:=
 aa pg X0 w0 (kV bm 3 196 (I p1)) fun a=>
 aa pg X0 w0 (binOp .shl 196 a (aC bm 1)) fun b=>
 ((jn (fun (c:Value)=>
 jw X0 w0 c 4 fun d e g h i=>
 aa pg i h (binOp .geq 196 g (aC bm 128)) fun j=>
 (ao j
 ((ay pg i h (aE p0) fun k=>
 aa pg i h (aS 308 0 0 1 k) fun l=>
 aa pg i h (bb 95 l) fun m=>
 aa pg i h (kV cE 196 5 g) fun n=>
 aa pg i h (binOp .or 5 n (aC cE 128)) fun o=>
 eV pg R i h true (gU 95 5 1 1 #[(0,o)]) fun q r s=>
 eV pg R s r true (gH 95 5 1 1 95 m q) fun t v y=>
 ay pg y v (aE p0) fun z=>
 aa pg y v (aS 308 0 0 1 z) fun A=>
 eU pg R y v true (dV 95 1 A t) fun _ C D=>
 (aa pg D C (binOp .shr 196 g (aC bm 7)) fun E=>
 (jx d e E C D))))
 (((ay pg i h (aE p0) fun F=>
 aa pg i h (aS 308 0 0 1 F) fun G=>
 aa pg i h (bb 95 G) fun H=>
 aa pg i h (kV cE 196 5 g) fun L=>
 eV pg R i h true (gU 95 5 1 1 #[(0,L)]) fun M N O=>
 eV pg R O N true (gH 95 5 1 1 95 H M) fun Q S T=>
 ay pg T S (aE p0) fun U=>
 aa pg T S (aS 308 0 0 1 U) fun V=>
 eU pg R T S true (dV 95 1 V Q) fun _ Y Z=>
 fin R Z Y (ax #[])))))) fun a0=>
 aa pg X0 w0 (binOp .lss 3 (I p1) (I 0)) fun b0=>
 (ao b0
 (aa pg X0 w0 (bg tY b) fun c0=>
 (a0 c0))
 (a0 b))))
def AB (p0:Value):Prop:=
 (ay pg X0 w0 (aE p0) fun a=>
 aa pg X0 w0 (aS 223 2 2 1 a) fun b=>
 aa pg X0 w0 (bb 29 b) fun c=>
 aa pg X0 w0 (aJ .neq 29 (.tmp 9) (.const (I 0)) c (I 0)) fun d=>
 (ao d
 (fin R X0 w0 (I 0))
 ((ay pg X0 w0 (aE p0) fun e=>
 aa pg X0 w0 (aS 223 1 1 1 e) fun g=>
 aa pg X0 w0 (bb 3 g) fun h=>
 eC pg R X0 w0 true 288 #[p0,h] fun i j k=>
 aa pg k j (aH i 0) fun l=>
 aa pg k j (aH i 1) fun m=>
 aa pg k j (aH i 2) fun n=>
 ((jn (fun (o:World) (q:XS)=>
 (fin R q o l)) fun r=>
 (ao n
 (ay pg k j (aE p0) fun s=>
 aa pg k j (aS 223 1 1 1 s) fun t=>
 eU pg R k j true (dV 3 1 t m) fun _ v y=>
 (r v y))
 (r j k))))))))
def y7 (p0:Value):Prop:=
 ay pg X0 w0 (aE p0) fun a=>
 aa pg X0 w0 (aS 175 1 1 1 a) fun b=>
 aa pg X0 w0 (bb 169 b) fun c=>
 eC pg R X0 w0 true 154 #[c] fun d e g=>
 aa pg g e (aH d 0) fun h=>
 aa pg g e (aH d 1) fun _=>
 (aa pg g e (aJ .neq 29 (.tmp 12) (.const (I 0)) h (I 0)) fun i=>
 (ao i
 (aa pg g e (ez 168 #[] #[]) fun j=>
 aa pg g e (Instr.makeInterface 168 j) fun k=>
 eV pg R g e true (Instr.panic k) fun _ l m=>
 fin R m l (ax #[]))
 (fin R g e (ax #[]))))
def yi (p0 p1:Value):Prop:=
 ay pg X0 w0 (aE p1) fun a=>
 aa pg X0 w0 (aS 42 0 0 1 a) fun b=>
 eC pg R X0 w0 true 142 #[p0,b] fun _ c d=>
 (ay pg d c (aE p1) fun e=>
 aa pg d c (aS 42 1 1 1 e) fun g=>
 eC pg R d c true 142 #[p0,g] fun _ h i=>
 (ay pg i h (aE p1) fun j=>
 aa pg i h (aS 42 2 2 1 j) fun k=>
 eC pg R i h true 149 #[p0,k] fun _ l m=>
 (ay pg m l (aE p1) fun n=>
 aa pg m l (aS 42 3 3 1 n) fun o=>
 eC pg R m l true 149 #[p0,o] fun _ q r=>
 fin R r q (ax #[]))))
def te (p0 p1 p2:Value):Prop:=
 ay pg X0 w0 (aE p1) fun a=>
 aa pg X0 w0 (bb 43 a) fun b=>
 aa pg X0 w0 (cK 43 3 b) fun c=>
 ((jn (fun (d:Value) (e:World) (g:XS)=>
 (jw g e (I 0) 39 fun h i j k l=>
 aa pg l k (binOp .lss 3 j d) fun m=>
 (ao m
 ((((jn (fun (n:World) (o:XS)=>
 ay pg o n (aE p1) fun q=>
 aa pg o n (bb 43 q) fun r=>
 aa pg o n (dD 43 2 r j) fun s=>
 eF pg R o n true p2 #[s] fun _ t v=>
 ((aa pg v t (binOp .add 3 j (I 1)) fun y=>
 jx h i y t v))) fun z=>
 ay pg l k (aE p0) fun A=>
 aa pg l k (aS 175 0 0 1 A) fun C=>
 aa pg l k (bb 173 C) fun D=>
 aa pg l k (aJ .eql 173 (.tmp 45) (.const (.pointer none)) D (.pointer none)) fun E=>
 (ao E
 ((ay pg l k (aE p1) fun F=>
 aa pg l k (bb 43 F) fun G=>
 eV pg R l k false (gU 43 288 2 1 #[(0,(.agg #[(.string { data:= #[] }),(.slice none 0 0)]))]) fun H L M=>
 eV pg R M L true (gH 43 288 2 40 43 G H) fun N O Q=>
 ay pg Q O (aE p1) fun S=>
 eU pg R Q O true (dV 43 1 S N) fun _ T U=>
 (z T U)))
 (z k l))))))
 (fin R l k (ax #[]))))) fun V=>
 ay pg X0 w0 (aE p0) fun Y=>
 aa pg X0 w0 (aS 175 0 0 1 Y) fun Z=>
 aa pg X0 w0 (bb 173 Z) fun a0=>
 aa pg X0 w0 (aJ .neq 173 (.tmp 16) (.const (.pointer none)) a0 (.pointer none)) fun b0=>
 (ao b0
 (ay pg X0 w0 (aE p0) fun c0=>
 aa pg X0 w0 (aS 175 0 0 1 c0) fun d0=>
 aa pg X0 w0 (bb 173 d0) fun e0=>
 eC pg R X0 w0 true 206 #[e0,c] fun _ g0 h0=>
 (V c g0 h0))
 (ay pg X0 w0 (aE p0) fun i0=>
 aa pg X0 w0 (aS 175 1 1 1 i0) fun j0=>
 aa pg X0 w0 (bb 169 j0) fun k0=>
 ay pg X0 w0 (aE p0) fun l0=>
 aa pg X0 w0 (aS 175 1 1 1 l0) fun m0=>
 aa pg X0 w0 (bb 169 m0) fun n0=>
 eC pg R X0 w0 false 216 #[n0] fun o0 q0 r0=>
 eC pg R r0 q0 true 215 #[k0,o0] fun s0 t0 v0=>
 (eC pg R v0 t0 true 208 #[p0] fun _ y0 z0=>
 (ay pg z0 y0 (aE p1) fun A0=>
 eU pg R z0 y0 true (dV 43 1 A0 (.slice none 0 0)) fun _ C0 D0=>
 (V s0 C0 D0)))))))
def vE (p0 p1:Value):Prop:=
 ay pg X0 w0 (aE p1) fun a=>
 aa pg X0 w0 (aS 288 0 0 1 a) fun b=>
 eC pg R X0 w0 true 214 #[p0,b] fun _ c d=>
 (ay pg d c (aE p1) fun e=>
 aa pg d c (aS 288 1 1 1 e) fun g=>
 aa pg d c (cx (fZ 290) #[p0] #[]) fun h=>
 eC pg R d c true 289 #[p0,g,h] fun _ i j=>
 fin R j i (ax #[]))
def tf (p0 p1 p2:Value):Prop:=
 ay pg X0 w0 (aE p1) fun a=>
 aa pg X0 w0 (bb 44 a) fun b=>
 aa pg X0 w0 (cK 44 3 b) fun c=>
 ((jn (fun (d:Value) (e:World) (g:XS)=>
 (jw g e (I 0) 39 fun h i j k l=>
 aa pg l k (binOp .lss 3 j d) fun m=>
 (ao m
 ((((jn (fun (n:World) (o:XS)=>
 ay pg o n (aE p1) fun q=>
 aa pg o n (bb 44 q) fun r=>
 aa pg o n (dD 44 8 r j) fun s=>
 eF pg R o n true p2 #[s] fun _ t v=>
 ((aa pg v t (binOp .add 3 j (I 1)) fun y=>
 jx h i y t v))) fun z=>
 ay pg l k (aE p0) fun A=>
 aa pg l k (aS 175 0 0 1 A) fun C=>
 aa pg l k (bb 173 C) fun D=>
 aa pg l k (aJ .eql 173 (.tmp 45) (.const (.pointer none)) D (.pointer none)) fun E=>
 (ao E
 ((ay pg l k (aE p1) fun F=>
 aa pg l k (bb 44 F) fun G=>
 eV pg R l k false (gU 44 229 8 1 #[(0,(.agg #[(I 0),(I 0),(I 0),(I 0),(I 0),(I 0),(.slice none 0 0),(.slice none 0 0)]))]) fun H L M=>
 eV pg R M L true (gH 44 229 8 96 44 G H) fun N O Q=>
 ay pg Q O (aE p1) fun S=>
 eU pg R Q O true (dV 44 1 S N) fun _ T U=>
 (z T U)))
 (z k l))))))
 (fin R l k (ax #[]))))) fun V=>
 ay pg X0 w0 (aE p0) fun Y=>
 aa pg X0 w0 (aS 175 0 0 1 Y) fun Z=>
 aa pg X0 w0 (bb 173 Z) fun a0=>
 aa pg X0 w0 (aJ .neq 173 (.tmp 16) (.const (.pointer none)) a0 (.pointer none)) fun b0=>
 (ao b0
 (ay pg X0 w0 (aE p0) fun c0=>
 aa pg X0 w0 (aS 175 0 0 1 c0) fun d0=>
 aa pg X0 w0 (bb 173 d0) fun e0=>
 eC pg R X0 w0 true 206 #[e0,c] fun _ g0 h0=>
 (V c g0 h0))
 (ay pg X0 w0 (aE p0) fun i0=>
 aa pg X0 w0 (aS 175 1 1 1 i0) fun j0=>
 aa pg X0 w0 (bb 169 j0) fun k0=>
 ay pg X0 w0 (aE p0) fun l0=>
 aa pg X0 w0 (aS 175 1 1 1 l0) fun m0=>
 aa pg X0 w0 (bb 169 m0) fun n0=>
 eC pg R X0 w0 false 216 #[n0] fun o0 q0 r0=>
 eC pg R r0 q0 true 215 #[k0,o0] fun s0 t0 v0=>
 (eC pg R v0 t0 true 208 #[p0] fun _ y0 z0=>
 (ay pg z0 y0 (aE p1) fun A0=>
 eU pg R z0 y0 true (dV 44 1 A0 (.slice none 0 0)) fun _ C0 D0=>
 (V s0 C0 D0)))))))
def yj (p0 p1 p2:Value):Prop:=
 ay pg X0 w0 (aE p1) fun a=>
 aa pg X0 w0 (bb 36 a) fun b=>
 aa pg X0 w0 (cK 36 3 b) fun c=>
 ((jn (fun (d:Value) (e:World) (g:XS)=>
 (jw g e (I 0) 39 fun h i j k l=>
 aa pg l k (binOp .lss 3 j d) fun m=>
 (ao m
 ((((jn (fun (n:World) (o:XS)=>
 ay pg o n (aE p1) fun q=>
 aa pg o n (bb 36 q) fun r=>
 aa pg o n (dD 36 1 r j) fun s=>
 eF pg R o n true p2 #[s] fun _ t v=>
 ((aa pg v t (binOp .add 3 j (I 1)) fun y=>
 jx h i y t v))) fun z=>
 ay pg l k (aE p0) fun A=>
 aa pg l k (aS 175 0 0 1 A) fun C=>
 aa pg l k (bb 173 C) fun D=>
 aa pg l k (aJ .eql 173 (.tmp 45) (.const (.pointer none)) D (.pointer none)) fun E=>
 (ao E
 ((ay pg l k (aE p1) fun F=>
 aa pg l k (bb 36 F) fun G=>
 eV pg R l k true (gU 36 9 1 1 #[(0,(.string { data:= #[] }))]) fun H L M=>
 eV pg R M L true (gH 36 9 1 16 36 G H) fun N O Q=>
 ay pg Q O (aE p1) fun S=>
 eU pg R Q O true (dV 36 1 S N) fun _ T U=>
 (z T U)))
 (z k l))))))
 (fin R l k (ax #[]))))) fun V=>
 ay pg X0 w0 (aE p0) fun Y=>
 aa pg X0 w0 (aS 175 0 0 1 Y) fun Z=>
 aa pg X0 w0 (bb 173 Z) fun a0=>
 aa pg X0 w0 (aJ .neq 173 (.tmp 16) (.const (.pointer none)) a0 (.pointer none)) fun b0=>
 (ao b0
 (ay pg X0 w0 (aE p0) fun c0=>
 aa pg X0 w0 (aS 175 0 0 1 c0) fun d0=>
 aa pg X0 w0 (bb 173 d0) fun e0=>
 eC pg R X0 w0 true 206 #[e0,c] fun _ g0 h0=>
 (V c g0 h0))
 (ay pg X0 w0 (aE p0) fun i0=>
 aa pg X0 w0 (aS 175 1 1 1 i0) fun j0=>
 aa pg X0 w0 (bb 169 j0) fun k0=>
 ay pg X0 w0 (aE p0) fun l0=>
 aa pg X0 w0 (aS 175 1 1 1 l0) fun m0=>
 aa pg X0 w0 (bb 169 m0) fun n0=>
 eC pg R X0 w0 false 216 #[n0] fun o0 q0 r0=>
 eC pg R r0 q0 true 215 #[k0,o0] fun s0 t0 v0=>
 (eC pg R v0 t0 true 208 #[p0] fun _ y0 z0=>
 (ay pg z0 y0 (aE p1) fun A0=>
 eU pg R z0 y0 true (dV 36 1 A0 (.slice none 0 0)) fun _ C0 D0=>
 (V s0 C0 D0)))))))
def sO (p0 p1:Value):Prop:=
 ay pg X0 w0 (aE p0) fun a=>
 aa pg X0 w0 (aS 175 0 0 1 a) fun b=>
 aa pg X0 w0 (bb 173 b) fun c=>
 aa pg X0 w0 (aJ .neq 173 (.tmp 7) (.const (.pointer none)) c (.pointer none)) fun d=>
 (ao d
 (ay pg X0 w0 (aE p0) fun e=>
 aa pg X0 w0 (aS 175 0 0 1 e) fun g=>
 aa pg X0 w0 (bb 173 g) fun h=>
 ay pg X0 w0 (aE p1) fun i=>
 aa pg X0 w0 (bb 9 i) fun j=>
 eC pg R X0 w0 true 291 #[h,j] fun _ k l=>
 (fin R l k (ax #[])))
 ((ay pg X0 w0 (aE p0) fun m=>
 aa pg X0 w0 (aS 175 1 1 1 m) fun n=>
 aa pg X0 w0 (bb 169 n) fun o=>
 eC pg R X0 w0 true 292 #[o,(I 262144)] fun q r s=>
 ay pg s r (aE p1) fun t=>
 eU pg R s r true (dV 9 1 t q) fun _ v y=>
 (eC pg R y v true 208 #[p0] fun _ z A=>
 fin R A z (ax #[])))))
noncomputable def Hl:bG:=⟨26,[],[],[0,1,4,5,6,7,12,20],[],[]⟩
def yk (p0:Value) (p1:Int):Prop:=
 (ay pg X0 w0 (aE p0) fun a=>
 aa pg X0 w0 (aS 223 2 2 1 a) fun b=>
 aa pg X0 w0 (bb 29 b) fun c=>
 aa pg X0 w0 (aJ .neq 29 (.tmp 11) (.const (I 0)) c (I 0)) fun d=>
 (ao d
 (fin R X0 w0 (I 0))
 ((eC pg R X0 w0 true 293 #[p0,(I p1),(I 3)] fun e g h=>
 aa pg h g (aH e 0) fun i=>
 aa pg h g (aH e 1) fun j=>
 aa pg h g (aH e 2) fun k=>
 ((jn (fun (l:World) (m:XS)=>
 (fin R m l i)) fun n=>
 (ao k
 (ay pg h g (aE p0) fun o=>
 aa pg h g (aS 223 1 1 1 o) fun q=>
 eU pg R h g true (dV 3 1 q j) fun _ r s=>
 (n r s))
 (n g h))))))))
def y8 (p0:Value):Prop:=
 (ay pg X0 w0 (aE p0) fun a=>
 aa pg X0 w0 (aS 223 2 2 1 a) fun b=>
 aa pg X0 w0 (bb 29 b) fun c=>
 aa pg X0 w0 (aJ .neq 29 (.tmp 6) (.const (I 0)) c (I 0)) fun d=>
 (ao d
 (fin R X0 w0 (I 0))
 (ay pg X0 w0 (aE p0) fun e=>
 aa pg X0 w0 (aS 223 0 0 1 e) fun g=>
 aa pg X0 w0 (bb 95 g) fun h=>
 aa pg X0 w0 (cK 95 3 h) fun i=>
 ay pg X0 w0 (aE p0) fun j=>
 aa pg X0 w0 (aS 223 1 1 1 j) fun k=>
 aa pg X0 w0 (bb 3 k) fun l=>
 aa pg X0 w0 (binOp .sub 3 i l) fun m=>
 (fin R X0 w0 m))))
noncomputable def IT:bG:=⟨23,[],[],[0,1,4],[],[]⟩
def y9 (p0:Value) (p1:Bool):Prop:=
 (ao (B p1)
 (ay pg X0 w0 (aE p0) fun a=>
 aa pg X0 w0 (aS 308 0 0 1 a) fun b=>
 aa pg X0 w0 (bb 95 b) fun c=>
 eV pg R X0 w0 true (gU 95 5 1 1 #[(0,(aC cE 1))]) fun d e g=>
 eV pg R g e true (gH 95 5 1 1 95 c d) fun h i j=>
 ay pg j i (aE p0) fun k=>
 aa pg j i (aS 308 0 0 1 k) fun l=>
 eU pg R j i true (dV 95 1 l h) fun _ m n=>
 (fin R n m (ax #[])))
 ((ay pg X0 w0 (aE p0) fun o=>
 aa pg X0 w0 (aS 308 0 0 1 o) fun q=>
 aa pg X0 w0 (bb 95 q) fun r=>
 eV pg R X0 w0 true (gU 95 5 1 1 #[(0,(aC cE 0))]) fun s t v=>
 eV pg R v t true (gH 95 5 1 1 95 r s) fun y z A=>
 ay pg A z (aE p0) fun C=>
 aa pg A z (aS 308 0 0 1 C) fun D=>
 eU pg R A z true (dV 95 1 D y) fun _ E F=>
 fin R F E (ax #[]))))
noncomputable def Hm:bG:=⟨23,[],[],[0,1,4,7,8],[],[4,7]⟩
def yl (p0:Value) (p1:Nat):Prop:=
 eC pg R X0 w0 true 225 #[(.float .f64 p1)] fun a b c=>
 ((jA c b (I 0) a 7 4 fun d e g h i j=>
 aa pg j i (binOp .lss 3 g (I 8)) fun k=>
 (ao k
 ((ay pg j i (aE p0) fun l=>
 aa pg j i (aS 308 0 0 1 l) fun m=>
 aa pg j i (bb 95 m) fun n=>
 aa pg j i (kV cE 196 5 h) fun o=>
 eV pg R j i true (gU 95 5 1 1 #[(0,o)]) fun q r s=>
 eV pg R s r true (gH 95 5 1 1 95 n q) fun t v y=>
 ay pg y v (aE p0) fun z=>
 aa pg y v (aS 308 0 0 1 z) fun A=>
 eU pg R y v true (dV 95 1 A t) fun _ C D=>
 (aa pg D C (binOp .shr 196 h (aC bm 8)) fun E=>
 ((aa pg D C (binOp .add 3 g (I 1)) fun F=>
 jB d e F E C D)))))
 (fin R j i (ax #[])))))
def ym (p0:Value):Prop:=
 (ay pg X0 w0 (aE p0) fun a=>
 aa pg X0 w0 (aS 223 2 2 1 a) fun b=>
 aa pg X0 w0 (bb 29 b) fun c=>
 aa pg X0 w0 (aJ .neq 29 (.tmp 9) (.const (I 0)) c (I 0)) fun d=>
 (ao d
 (fin R X0 w0 (.float .f64 0))
 ((ay pg X0 w0 (aE p0) fun e=>
 aa pg X0 w0 (aS 223 0 0 1 e) fun g=>
 aa pg X0 w0 (bb 95 g) fun h=>
 aa pg X0 w0 (cK 95 3 h) fun i=>
 ay pg X0 w0 (aE p0) fun j=>
 aa pg X0 w0 (aS 223 1 1 1 j) fun k=>
 aa pg X0 w0 (bb 3 k) fun l=>
 aa pg X0 w0 (binOp .sub 3 i l) fun m=>
 aa pg X0 w0 (binOp .lss 3 m (I 8)) fun n=>
 (ao n
 (ay pg X0 w0 (aE p0) fun o=>
 aa pg X0 w0 (aS 223 0 0 1 o) fun q=>
 aa pg X0 w0 (bb 95 q) fun r=>
 aa pg X0 w0 (cK 95 3 r) fun s=>
 eC pg R X0 w0 true 294 #[p0,(I 5),s] fun _ t v=>
 (fin R v t (.float .f64 0)))
 ((((jA X0 w0 (I 7) (aC bm 0) 4 3 fun y z A C D E=>
 aa pg E D (binOp .geq 3 A (I 0)) fun F=>
 (ao F
 ((aa pg E D (binOp .shl 196 C (aC bm 8)) fun G=>
 ay pg E D (aE p0) fun H=>
 aa pg E D (aS 223 0 0 1 H) fun L=>
 aa pg E D (bb 95 L) fun M=>
 ay pg E D (aE p0) fun N=>
 aa pg E D (aS 223 1 1 1 N) fun O=>
 aa pg E D (bb 3 O) fun Q=>
 aa pg E D (binOp .add 3 Q A) fun S=>
 aa pg E D (dD 95 1 M S) fun T=>
 aa pg E D (bb 5 T) fun U=>
 aa pg E D (kV bm 5 196 U) fun V=>
 aa pg E D (binOp .or 196 G V) fun Y=>
 ((aa pg E D (binOp .sub 3 A (I 1)) fun Z=>
 jB y z Z Y D E))))
 (((eC pg R E D true 295 #[C] fun a0 b0 c0=>
 (eC pg R c0 b0 true 225 #[a0] fun d0 e0 g0=>
 aa pg g0 e0 (aJ .neq 196 (.tmp 52) (.tmp 53) d0 C) fun h0=>
 (ao h0
 (ay pg g0 e0 (aE p0) fun i0=>
 aa pg g0 e0 (aS 223 1 1 1 i0) fun j0=>
 aa pg g0 e0 (bb 3 j0) fun k0=>
 eC pg R g0 e0 true 294 #[p0,(I 4),k0] fun _ l0 m0=>
 (fin R m0 l0 (.float .f64 0)))
 ((ay pg g0 e0 (aE p0) fun n0=>
 aa pg g0 e0 (aS 223 1 1 1 n0) fun o0=>
 aa pg g0 e0 (bb 3 o0) fun q0=>
 aa pg g0 e0 (binOp .add 3 q0 (I 8)) fun r0=>
 ay pg g0 e0 (aE p0) fun s0=>
 aa pg g0 e0 (aS 223 1 1 1 s0) fun t0=>
 eU pg R g0 e0 true (dV 3 1 t0 r0) fun _ v0 y0=>
 (fin R y0 v0 a0))))))))))))))))))
def rU (p0 p1:Value):Prop:=
 ay pg X0 w0 (aE p0) fun a=>
 aa pg X0 w0 (aS 175 0 0 1 a) fun b=>
 aa pg X0 w0 (bb 173 b) fun c=>
 aa pg X0 w0 (aJ .neq 173 (.tmp 7) (.const (.pointer none)) c (.pointer none)) fun d=>
 (ao d
 (ay pg X0 w0 (aE p0) fun e=>
 aa pg X0 w0 (aS 175 0 0 1 e) fun g=>
 aa pg X0 w0 (bb 173 g) fun h=>
 ay pg X0 w0 (aE p1) fun i=>
 aa pg X0 w0 (gy 51 3 i) fun j=>
 eC pg R X0 w0 true 296 #[h,j] fun _ k l=>
 (fin R l k (ax #[])))
 ((ay pg X0 w0 (aE p0) fun m=>
 aa pg X0 w0 (aS 175 1 1 1 m) fun n=>
 aa pg X0 w0 (bb 169 n) fun o=>
 eC pg R X0 w0 true 297 #[o] fun q r s=>
 ay pg s r (aE p1) fun t=>
 eU pg R s r true (dV 51 3 t q) fun _ v y=>
 (eC pg R y v true 208 #[p0] fun _ z A=>
 fin R A z (ax #[])))))
noncomputable def Qb:bG:=⟨68,[(1,(pg.cellsOf 117)),(2,(pg.cellsOf 117))],[4,10,15,20,21,22,23,24,29,30,31,35,39,40,41,46,47,48,52,58,59,60,61,65,66],[0,3,5,7,11,16,25,32,36,42,49,53,62],[],[]⟩
def D8 (bo bA bD cg cy cz cA cI dB dq:Int) (cj:Bool) (cd:Int) (dv:Nat) (dh da dc dk:Value) (dr cO:Int) (cL cP:Nat) (cQ cR dd cS cV cW:Int) (cX cY:Value):Prop:=
 (((jn (fun (a:Value)=>
 (bq (dO a) (un (ef a 0 29) fun b=>
 un (aF (ad b)) fun c=>
 bq (az (af (ad b))==29) (bq (aW (af (ad b)) one) ((un (ef c 0 29) fun d=>
 bq (aW [c] dO) (fin R X0 w0 (ax #[d,(B true)])))))))) fun e=>
 aa pg X0 w0 (aJ .eql 3 (.tmp 5) (.const (I 1)) (I bo) (I 1)) fun g=>
 (ao g
 (aa pg X0 w0 (ez 46 #[(I 0),(I 0),(.float .f64 0),(.float .f64 0),(I 0),(I 0),(I 0),(I 0),(I 0),(I 0),(.slice none 0 0),(.slice none 0 0)] #[]) fun h=>
 un (aF (bh (b8 [(I bo),(I bA),(I bD),(I cg),(I cy),(I cz),(I cA),(I cI),(I dB),(I dq),(B cj),(I cd),(.float .f64 dv),dh,da,dc,dk,(I dr),(I cO),(.float .f64 cL),(.float .f64 cP),(I cQ),(I cR),(I dd),(I cS),(I cV),(I cW),cX,cY] 17 (af (ad h))))) fun i=>
 bq (az (af (ad h))==12) (bq (aW (af (ad h)) one) (e i)))
 ((jn (fun (j:Value)=>
 ao j
 ((e (.agg #[(I bo),(I bA),(I bD),(I cg),(I cy),(I cz),(I cA),(I cI),(I dB),(I dq),(B cj),(I 0),(.float .f64 dv),dh,da,dc,dk,(I dr),(I cO),(.float .f64 cL),(.float .f64 cP),(I cQ),(I cR),(I dd),(I cS),(I cV),(I cW),cX,cY])))
 (aa pg X0 w0 (aJ .eql 3 (.tmp 5) (.const (I 3)) (I bo) (I 3)) fun k=>
 (ao k
 (aa pg X0 w0 (ez 33 #[(I 0),(I 0),(I 0)] #[]) fun l=>
 aa pg X0 w0 (ez 35 #[(I 0),(I 0),(I 0)] #[]) fun m=>
 un (aF (bh (b8 [(I bo),(I bA),(I bD),(I cg),(I cy),(I cz),(I cA),(I cI),(I dB),(I dq),(B cj),(I cd),(.float .f64 dv),dh,da,dc,dk,(I dr),(I cO),(.float .f64 cL),(.float .f64 cP),(I cQ),(I cR),(I dd),(I cS),(I cV),(I cW),cX,cY] 1 (af (ad l))))) fun n=>
 bq (az (af (ad l))==3) (bq (aW (af (ad l)) one) (un (aF (bh (b8 (af (ad n)) 4 (af (ad m))))) fun o=>
 bq (az (af (ad m))==3) (bq (aW (af (ad m)) one) (un (aF (bh (b8 (af (ad o)) 13 [(.slice none 0 0)]))) fun q=>
 un (aF (bh (b8 (af (ad q)) 14 [(.slice none 0 0)]))) fun r=>
 un (aF (bh (b8 (af (ad r)) 15 [(.slice none 0 0)]))) fun s=>
 (e s))))))
 (aa pg X0 w0 (aJ .eql 3 (.tmp 5) (.const (I 4)) (I bo) (I 4)) fun t=>
 (ao t
 (aa pg X0 w0 (ez 33 #[(I 0),(I 0),(I 0)] #[]) fun v=>
 aa pg X0 w0 (ez 35 #[(I 0),(I 0),(I 0)] #[]) fun y=>
 un (aF (bh (b8 [(I bo),(I bA),(I bD),(I cg),(I cy),(I cz),(I cA),(I cI),(I dB),(I dq),(B cj),(I cd),(.float .f64 dv),dh,da,dc,dk,(I dr),(I cO),(.float .f64 cL),(.float .f64 cP),(I cQ),(I cR),(I dd),(I cS),(I cV),(I cW),cX,cY] 1 (af (ad v))))) fun z=>
 bq (az (af (ad v))==3) (bq (aW (af (ad v)) one) (un (aF (bh (b8 (af (ad z)) 10 [(B false)]))) fun A=>
 un (aF (bh (b8 (af (ad A)) 4 (af (ad y))))) fun C=>
 bq (az (af (ad y))==3) (bq (aW (af (ad y)) one) (e C)))))
 (aa pg X0 w0 (aJ .eql 3 (.tmp 5) (.const (I 5)) (I bo) (I 5)) fun D=>
 (ao D
 (aa pg X0 w0 (ez 35 #[(I 0),(I 0),(I 0)] #[]) fun E=>
 un (aF (bh (b8 [(I bo),(I bA),(I bD),(I cg),(I cy),(I cz),(I cA),(I cI),(I dB),(I dq),(B cj),(I cd),(.float .f64 dv),dh,da,dc,dk,(I dr),(I cO),(.float .f64 cL),(.float .f64 cP),(I cQ),(I cR),(I dd),(I cS),(I cV),(I cW),cX,cY] 4 (af (ad E))))) fun F=>
 bq (az (af (ad E))==3) (bq (aW (af (ad E)) one) (e F)))
 (aa pg X0 w0 (aJ .eql 3 (.tmp 5) (.const (I 6)) (I bo) (I 6)) fun G=>
 (ao G
 (aa pg X0 w0 (ez 35 #[(I 0),(I 0),(I 0)] #[]) fun H=>
 un (aF (bh (b8 [(I bo),(I bA),(I bD),(I cg),(I cy),(I cz),(I cA),(I cI),(I dB),(I dq),(B cj),(I 0),(.float .f64 0),dh,da,dc,dk,(I dr),(I cO),(.float .f64 cL),(.float .f64 cP),(I cQ),(I cR),(I dd),(I cS),(I cV),(I cW),cX,cY] 4 (af (ad H))))) fun L=>
 bq (az (af (ad H))==3) (bq (aW (af (ad H)) one) (e L)))
 (aa pg X0 w0 (aJ .eql 3 (.tmp 5) (.const (I 9)) (I bo) (I 9)) fun M=>
 (ao M
 (aa pg X0 w0 (ez 33 #[(I 0),(I 0),(I 0)] #[]) fun N=>
 aa pg X0 w0 (ez 35 #[(I 0),(I 0),(I 0)] #[]) fun O=>
 un (aF (bh (b8 [(I bo),(I bA),(I bD),(I cg),(I cy),(I cz),(I cA),(I cI),(I dB),(I dq),(B cj),(I cd),(.float .f64 dv),dh,da,dc,dk,(I dr),(I cO),(.float .f64 cL),(.float .f64 cP),(I cQ),(I cR),(I dd),(I cS),(I cV),(I cW),cX,cY] 1 (af (ad N))))) fun Q=>
 bq (az (af (ad N))==3) (bq (aW (af (ad N)) one) (un (aF (bh (b8 (af (ad Q)) 4 (af (ad O))))) fun S=>
 bq (az (af (ad O))==3) (bq (aW (af (ad O)) one) (un (aF (bh (b8 (af (ad S)) 15 [(.slice none 0 0)]))) fun T=>
 (e T))))))
 (aa pg X0 w0 (aJ .eql 3 (.tmp 5) (.const (I 10)) (I bo) (I 10)) fun U=>
 (ao U
 (aa pg X0 w0 (ez 33 #[(I 0),(I 0),(I 0)] #[]) fun V=>
 un (aF (bh (b8 [(I bo),(I bA),(I bD),(I cg),(I cy),(I cz),(I cA),(I cI),(I dB),(I dq),(B cj),(I cd),(.float .f64 dv),dh,da,dc,dk,(I dr),(I cO),(.float .f64 cL),(.float .f64 cP),(I cQ),(I cR),(I dd),(I cS),(I cV),(I cW),cX,cY] 1 (af (ad V))))) fun Y=>
 bq (az (af (ad V))==3) (bq (aW (af (ad V)) one) (e Y)))
 (aa pg X0 w0 (aJ .eql 3 (.tmp 5) (.const (I 11)) (I bo) (I 11)) fun Z=>
 (ao Z
 (aa pg X0 w0 (ez 35 #[(I 0),(I 0),(I 0)] #[]) fun a0=>
 aa pg X0 w0 (ez 35 #[(I 0),(I 0),(I 0)] #[]) fun b0=>
 aa pg X0 w0 (ez 33 #[(I 0),(I 0),(I 0)] #[]) fun c0=>
 un (aF (bh (b8 [(I bo),(I bA),(I bD),(I cg),(I cy),(I cz),(I cA),(I cI),(I dB),(I dq),(B cj),(I cd),(.float .f64 dv),dh,da,dc,dk,(I dr),(I cO),(.float .f64 cL),(.float .f64 cP),(I cQ),(I cR),(I dd),(I cS),(I cV),(I cW),cX,cY] 7 (af (ad a0))))) fun d0=>
 bq (az (af (ad a0))==3) (bq (aW (af (ad a0)) one) (un (aF (bh (b8 (af (ad d0)) 4 (af (ad b0))))) fun e0=>
 bq (az (af (ad b0))==3) (bq (aW (af (ad b0)) one) (un (aF (bh (b8 (af (ad e0)) 1 (af (ad c0))))) fun g0=>
 bq (az (af (ad c0))==3) (bq (aW (af (ad c0)) one) (un (aF (bh (b8 (af (ad g0)) 14 [(.slice none 0 0)]))) fun h0=>
 (e h0))))))))
 (aa pg X0 w0 (aJ .eql 3 (.tmp 5) (.const (I 12)) (I bo) (I 12)) fun i0=>
 (ao i0
 (aa pg X0 w0 (ez 35 #[(I 0),(I 0),(I 0)] #[]) fun j0=>
 un (aF (bh (b8 [(I bo),(I bA),(I bD),(I cg),(I cy),(I cz),(I cA),(I cI),(I dB),(I dq),(B cj),(I cd),(.float .f64 dv),dh,da,dc,dk,(I dr),(I cO),(.float .f64 cL),(.float .f64 cP),(I cQ),(I cR),(I dd),(I cS),(I cV),(I cW),cX,cY] 4 (af (ad j0))))) fun k0=>
 bq (az (af (ad j0))==3) (bq (aW (af (ad j0)) one) (un (aF (bh (b8 (af (ad k0)) 16 [(.slice none 0 0)]))) fun l0=>
 (e l0))))
 (bq (aW [(I bo),(I bA),(I bD),(I cg),(I cy),(I cz),(I cA),(I cI),(I dB),(I dq),(B cj),(I cd),(.float .f64 dv),dh,da,dc,dk,(I dr),(I cO),(.float .f64 cL),(.float .f64 cP),(I cQ),(I cR),(I dd),(I cS),(I cV),(I cW),cX,cY] one) ((fin R X0 w0 (ax #[(.agg #[(I bo),(I bA),(I bD),(I cg),(I cy),(I cz),(I cA),(I cI),(I dB),(I dq),(B cj),(I cd),(.float .f64 dv),dh,da,dc,dk,(I dr),(I cO),(.float .f64 cL),(.float .f64 cP),(I cQ),(I cR),(I dd),(I cS),(I cV),(I cW),cX,cY]),(B false)]))))))))))))))))))))) fun m0=>
 aa pg X0 w0 (aJ .eql 3 (.tmp 5) (.const (I 2)) (I bo) (I 2)) fun n0=>
 (ao n0
 (m0 n0)
 (aa pg X0 w0 (aJ .eql 3 (.tmp 5) (.const (I 7)) (I bo) (I 7)) fun o0=>
 (ao o0
 (m0 o0)
 (aa pg X0 w0 (aJ .eql 3 (.tmp 5) (.const (I 8)) (I bo) (I 8)) fun q0=>
 (m0 q0)))))))))))
noncomputable def W6:bG:=⟨64,[(1,(pg.cellsOf 117))],[3,8,14,20,25,30,36,42,48,54,60],[0,2],[7,9,10,11,13,15,16,17,19,21,22,24,26,27,29,31,32,33,35,37,38,39,41,43,44,45,47,49,50,51,53,55,56,57,59,61,62],[]⟩
def KD (_p0_0 bA bD cg cy cz cA cI dB dq:Int) (cj:Bool) (cd:Int) (dv:Nat) (dh da dc dk:Value) (dr cO:Int) (cL cP:Nat) (cQ cR dd cS cV cW:Int) (cX cY:Value):Prop:=
 (aa pg X0 w0 (ez 33 #[(I 0),(I 0),(I 0)] #[]) fun a=>
 aa pg X0 w0 (aJ .eql 33 (.tmp 4) (.tmp 5) (.agg #[(I bA),(I bD),(I cg)]) a) fun b=>
 un (aO b true (.agg #[(I cy),(I cz),(I cA)])) fun c=>
 aD pg X0 w0 b true (vS (ez 35 #[(I 0),(I 0),(I 0)] #[])) fun d=>
 aD pg X0 w0 b true (vS (aJ .eql 35 (.tmp 9) (.tmp 10) c d)) fun e=>
 ay pg X0 w0 (aR b e (B false)) fun g=>
 un (aO g true (.agg #[(I cI),(I dB),(I dq)])) fun h=>
 aD pg X0 w0 g true (vS (ez 35 #[(I 0),(I 0),(I 0)] #[])) fun i=>
 aD pg X0 w0 g true (vS (aJ .eql 35 (.tmp 15) (.tmp 16) h i)) fun j=>
 ay pg X0 w0 (aR g j (B false)) fun k=>
 un (aO k true (B cj)) fun l=>
 aD pg X0 w0 k true (vS (bg bJ l)) fun m=>
 ay pg X0 w0 (aR k m (B false)) fun n=>
 un (aO n true (I cd)) fun o=>
 aD pg X0 w0 n true (vS (aJ .eql 3 (.tmp 26) (.const (I 0)) o (I 0))) fun q=>
 ay pg X0 w0 (aR n q (B false)) fun r=>
 un (aO r true (.float .f64 dv)) fun s=>
 jn (fun (t:Value) (v:World) (y:XS)=>
 aD pg y v r true (vS (aJ .eql 196 (.tmp 32) (.const (aC bm 0)) t (aC bm 0))) fun z=>
 ay pg y v (aR r z (B false)) fun A=>
 un (aO A true dh) fun C=>
 aD pg y v A true (vS (cK 36 3 C)) fun D=>
 aD pg y v A true (vS (aJ .eql 3 (.tmp 38) (.const (I 0)) D (I 0))) fun E=>
 ay pg y v (aR A E (B false)) fun F=>
 un (aO F true da) fun G=>
 aD pg y v F true (vS (cK 23 3 G)) fun H=>
 aD pg y v F true (vS (aJ .eql 3 (.tmp 44) (.const (I 0)) H (I 0))) fun L=>
 ay pg y v (aR F L (B false)) fun M=>
 un (aO M true dc) fun N=>
 aD pg y v M true (vS (cK 22 3 N)) fun O=>
 aD pg y v M true (vS (aJ .eql 3 (.tmp 50) (.const (I 0)) O (I 0))) fun Q=>
 ay pg y v (aR M Q (B false)) fun S=>
 un (aO S true dk) fun T=>
 aD pg y v S true (vS (cK 54 3 T)) fun U=>
 aD pg y v S true (vS (aJ .eql 3 (.tmp 56) (.const (I 0)) U (I 0))) fun V=>
 ay pg y v (aR S V (B false)) fun Y=>
 un (aO Y true (.agg #[(I dr),(I cO),(.float .f64 cL),(.float .f64 cP),(I cQ),(I cR),(I dd),(I cS),(I cV),(I cW),cX,cY])) fun Z=>
 jn (fun (a0:Value) (b0:World) (c0:XS)=>
 ay pg c0 b0 (aR Y a0 (B false)) fun d0=>
 (fin R c0 b0 d0)) fun e0=>
 (gE Y true (eC pg R y v true 298 #[Z] e0) (e0 undef v y))) fun g0=>
 (gE r true (eC pg R X0 w0 true 111 #[s] g0) (g0 undef w0 X0)))
noncomputable def Rw:bG:=⟨134,[(1,(pg.cellsOf 117))],[5,9,14,18,24,26,28,30,36,42,46,48,54,60,76,81,87,92,97,101,106,112,117,119,121,123,126,130],[0,2,3,4,6,7,12,22,40,52,57,85,90,95,110,115],[17,19,20,35,37,38,45,47,49,50,67,68,69,71,72,73,75,77,78,80,82,83,100,102,103,105,107,108,129,131,132],[]⟩
def FU (bo bA bD cg cy cz cA cI dB dq:Int) (cj:Bool) (cd:Int) (dv:Nat) (dh da dc dk:Value) (dr cO:Int) (cL cP:Nat) (cQ cR dd cS cV cW:Int) (cX cY:Value):Prop:=
 ((aa pg X0 w0 (aJ .eql 3 (.tmp 6) (.const (I 1)) (I bo) (I 1)) fun a=>
 (ao a
 (eC pg R X0 w0 true 167 #[(.agg #[(I dr),(I cO),(.float .f64 cL),(.float .f64 cP),(I cQ),(I cR),(I dd),(I cS),(I cV),(I cW),cX,cY])] fun b c d=>
 (fin R d c b))
 (aa pg X0 w0 (aJ .eql 3 (.tmp 6) (.const (I 2)) (I bo) (I 2)) fun e=>
 (ao e
 (aa pg X0 w0 (binOp .geq 3 (I cd) (I 0)) fun g=>
 un (aO g true (I cd)) fun h=>
 aD pg X0 w0 g true (vS (binOp .leq 3 h (I 281474976710656))) fun i=>
 ay pg X0 w0 (aR g i (B false)) fun j=>
 (fin R X0 w0 j))
 (aa pg X0 w0 (aJ .eql 3 (.tmp 6) (.const (I 3)) (I bo) (I 3)) fun k=>
 (ao k
 (aa pg X0 w0 (ez 229 #[(I bA),(I bD),(I cg),(I cy),(I cz),(I cA),dh,da] #[(0,(.agg #[(I bA),(I bD),(I cg)])),(1,(.agg #[(I cy),(I cz),(I cA)])),(2,dh),(3,da)]) fun l=>
 eC pg R X0 w0 true 250 #[l] fun m n o=>
 aa pg o n (aJ .eql 29 (.tmp 33) (.const (I 0)) m (I 0)) fun q=>
 un (aO q true dc) fun r=>
 jn (fun (s:Value) (t:World) (v:XS)=>
 ay pg v t (aR q s (B false)) fun y=>
 (fin R v t y)) fun z=>
 (gE q true (eC pg R o n true 243 #[r] z) (z undef n o)))
 (aa pg X0 w0 (aJ .eql 3 (.tmp 6) (.const (I 4)) (I bo) (I 4)) fun A=>
 (ao A
 (eC pg R X0 w0 true 238 #[(.agg #[(I bA),(I bD),(I cg)])] fun C D E=>
 un (aO C true (B cj)) fun F=>
 un (aO C true (.agg #[(I cy),(I cz),(I cA)])) fun G=>
 jn (fun (H:Value) (L:World) (M:XS)=>
 ay pg M L (aR C H (B false)) fun N=>
 (fin R M L N)) fun O=>
 (gE C true (eC pg R E D true 299 #[F,G] O) (O undef D E)))
 (aa pg X0 w0 (aJ .eql 3 (.tmp 6) (.const (I 5)) (I bo) (I 5)) fun Q=>
 (ao Q
 (eC pg R X0 w0 true 165 #[(.agg #[(I cy),(I cz),(I cA)])] fun S T U=>
 (fin R U T S))
 (aa pg X0 w0 (aJ .eql 3 (.tmp 6) (.const (I 6)) (I bo) (I 6)) fun V=>
 (ao V
 (eC pg R X0 w0 true 300 #[(.float .f64 dv)] fun Y Z a0=>
 aa pg a0 Z (aH Y 0) fun b0=>
 aa pg a0 Z (aH Y 1) fun c0=>
 (aa pg a0 Z (aJ .eql 29 (.tmp 65) (.const (I 0)) c0 (I 0)) fun d0=>
 un (aO d0 true b0) fun e0=>
 aD pg a0 Z d0 true (vS (binOp .gtr 40 e0 (.float .f64 0))) fun g0=>
 ay pg a0 Z (aR d0 g0 (B false)) fun h0=>
 un (aO h0 true b0) fun i0=>
 aD pg a0 Z h0 true (vS (binOp .lss 40 i0 (.float .f64 4607182418800017408))) fun j0=>
 ay pg a0 Z (aR h0 j0 (B false)) fun k0=>
 un (aO k0 true (I cd)) fun l0=>
 jn (fun (m0:Value) (n0:World) (o0:XS)=>
 ay pg o0 n0 (aR k0 m0 (B false)) fun q0=>
 un (aO q0 true (.agg #[(I cy),(I cz),(I cA)])) fun r0=>
 jn (fun (s0:Value) (t0:World) (v0:XS)=>
 ay pg v0 t0 (aR q0 s0 (B false)) fun y0=>
 (fin R v0 t0 y0)) fun z0=>
 (gE q0 true (eC pg R o0 n0 true 165 #[r0] z0) (z0 undef n0 o0))) fun A0=>
 (gE k0 true (eC pg R a0 Z true 301 #[l0] A0) (A0 undef Z a0))))
 (aa pg X0 w0 (aJ .eql 3 (.tmp 6) (.const (I 7)) (I bo) (I 7)) fun C0=>
 (ao C0
 (eC pg R X0 w0 true 301 #[(I cd)] fun D0 E0 F0=>
 (fin R F0 E0 D0))
 (aa pg X0 w0 (aJ .eql 3 (.tmp 6) (.const (I 8)) (I bo) (I 8)) fun G0=>
 (ao G0
 (aa pg X0 w0 (binOp .geq 3 (I cd) (I 1)) fun H0=>
 (fin R X0 w0 H0))
 (aa pg X0 w0 (aJ .eql 3 (.tmp 6) (.const (I 9)) (I bo) (I 9)) fun L0=>
 (ao L0
 (eC pg R X0 w0 true 238 #[(.agg #[(I bA),(I bD),(I cg)])] fun M0 N0 O0=>
 un (aO M0 true (.agg #[(I cy),(I cz),(I cA)])) fun Q0=>
 jn (fun (S0:Value) (T0:World) (U0:XS)=>
 ay pg U0 T0 (aR M0 S0 (B false)) fun V0=>
 un (aO V0 true dc) fun Y0=>
 jn (fun (Z0:Value) (a1:World) (b1:XS)=>
 ay pg b1 a1 (aR V0 Z0 (B false)) fun c1=>
 (fin R b1 a1 c1)) fun d1=>
 (gE V0 true (eC pg R U0 T0 true 243 #[Y0] d1) (d1 undef T0 U0))) fun e1=>
 (gE M0 true (eC pg R O0 N0 true 302 #[Q0] e1) (e1 undef N0 O0)))
 (aa pg X0 w0 (aJ .eql 3 (.tmp 6) (.const (I 10)) (I bo) (I 10)) fun g1=>
 (ao g1
 (eC pg R X0 w0 true 238 #[(.agg #[(I bA),(I bD),(I cg)])] fun h1 i1 j1=>
 (fin R j1 i1 h1))
 (aa pg X0 w0 (aJ .eql 3 (.tmp 6) (.const (I 11)) (I bo) (I 11)) fun k1=>
 (ao k1
 (eC pg R X0 w0 true 168 #[(.agg #[(I cI),(I dB),(I dq)]),(.agg #[(I cy),(I cz),(I cA)]),(.agg #[(I bA),(I bD),(I cg)]),da] fun l1 m1 n1=>
 (fin R n1 m1 l1))
 (((eC pg R X0 w0 true 165 #[(.agg #[(I cy),(I cz),(I cA)])] fun o1 q1 r1=>
 un (aO o1 true dk) fun s1=>
 jn (fun (t1:Value) (v1:World) (y1:XS)=>
 ay pg y1 v1 (aR o1 t1 (B false)) fun z1=>
 (fin R y1 v1 z1)) fun A1=>
 (gE o1 true (eC pg R r1 q1 true 303 #[s1] A1) (A1 undef q1 r1))))))))))))))))))))))))))))
noncomputable def YI:bG:=⟨6,[],[],[0,2],[],[]⟩
def M7 (p0:Nat):Prop:=
 (eC pg R X0 w0 true 304 #[(.float .f64 p0)] fun a b c=>
 eC pg R c b true 111 #[a] fun d e g=>
 (fin R g e d))
noncomputable def Rx:bG:=⟨19,[],[],[0,1,4,5,6,11,15],[],[]⟩
def FE (p0 p1:Nat):Prop:=
 (eC pg R X0 w0 true 305 #[(.float .f64 p0)] fun a b c=>
 eC pg R c b true 305 #[(.float .f64 p1)] fun d e g=>
 (aa pg g e (binOp .lss 196 a d) fun h=>
 (ao h
 ((fin R g e (I (-1))))
 (aa pg g e (binOp .gtr 196 a d) fun i=>
 (ao i
 (fin R g e (I 1))
 (fin R g e (I 0)))))))
noncomputable def Ry:bG:=⟨21,[(1,(pg.cellsOf 33))],[3,7,12,17],[0,2],[6,8,9,11,13,14,16,18,19],[]⟩
def FV (bo bA bD:Int):Prop:=
 (aa pg X0 w0 (binOp .geq 3 (I bo) (I 1)) fun a=>
 un (aO a true (I bo)) fun b=>
 aD pg X0 w0 a true (vS (binOp .leq 3 b (I 2))) fun c=>
 ay pg X0 w0 (aR a c (B false)) fun d=>
 un (aO d true (I bA)) fun e=>
 aD pg X0 w0 d true (vS (binOp .geq 3 e (I 1))) fun g=>
 ay pg X0 w0 (aR d g (B false)) fun h=>
 un (aO h true (I bD)) fun i=>
 aD pg X0 w0 h true (vS (binOp .geq 3 i (I 1))) fun j=>
 ay pg X0 w0 (aR h j (B false)) fun k=>
 (fin R X0 w0 k))
def KE (p0:Value):Prop:=
 (aa pg X0 w0 (cK 36 3 p0) fun a=>
 (jw X0 w0 (I 0) 7 fun b c d e g=>
 aa pg g e (binOp .lss 3 d a) fun h=>
 (ao h
 ((aa pg g e (dD 36 1 p0 d) fun i=>
 aa pg g e (bb 9 i) fun j=>
 (eC pg R g e true 312 #[j] fun k l m=>
 aa pg m l (bg bJ k) fun n=>
 un (aO n false d) fun o=>
 aD pg m l n false (vS (binOp .gtr 3 o (I 0))) fun q=>
 un (aO n false q) fun r=>
 un (aO r true p0) fun s=>
 un (aO r true d) fun t=>
 aD pg m l r true (vS (binOp .sub 3 t (I 1))) fun v=>
 aD pg m l r true (vS (dD 36 1 s v)) fun y=>
 aD pg m l r true (vS (bb 9 y)) fun z=>
 un (aO r true j) fun A=>
 aD pg m l r true (vS (binOp .geq 9 z A)) fun C=>
 aD pg m l n false (aR r C (B false)) fun D=>
 ay pg m l (aR n (B true) D) fun E=>
 (ao E
 (fin R m l (B false))
 (((aa pg m l (binOp .add 3 d (I 1)) fun F=>
 jx b c F l m)))))))
 (((aa pg g e (cK 36 3 p0) fun G=>
 aa pg g e (binOp .leq 3 G (I 16)) fun H=>
 (fin R g e H)))))))
noncomputable def W7:bG:=⟨25,[],[],[0,1,2,6,8],[10,11,12,13,17,18,19,21,22,23],[]⟩
def KF (p0:Int) (p1:Bool) (p2:Value):Prop:=
 (aa pg X0 w0 (aJ .eql 29 (.tmp 7) (.const (I 0)) (I p0) (I 0)) fun a=>
 (ao a
 (un (aO (B p1) true p2) fun b=>
 aD pg X0 w0 (B p1) true (vS (cK 38 3 b)) fun c=>
 aD pg X0 w0 (B p1) true (vS (aJ .eql 3 (.tmp 12) (.const (I 0)) c (I 0))) fun d=>
 ay pg X0 w0 (aR (B p1) d (B false)) fun e=>
 (fin R X0 w0 e))
 ((aa pg X0 w0 (binOp .gtr 29 (I p0) (I 0)) fun g=>
 un (aO g true (I p0)) fun h=>
 aD pg X0 w0 g true (vS (binOp .leq 29 h (I 25))) fun i=>
 ay pg X0 w0 (aR g i (B false)) fun j=>
 un (aO j true p2) fun k=>
 jn (fun (l:Value) (m:World) (n:XS)=>
 ay pg n m (aR j l (B false)) fun o=>
 (fin R n m o)) fun q=>
 (gE j true (eC pg R X0 w0 true 313 #[k] q) (q undef w0 X0))))))
def KG (p0:Value):Prop:=
 ((aa pg X0 w0 (cK 37 3 p0) fun a=>
 (jA X0 w0 (I 0) (.slice none 0 0) 8 3 fun b c d e g h=>
 aa pg h g (binOp .lss 3 d a) fun i=>
 (ao i
 ((aa pg h g (dD 37 7 p0 d) fun j=>
 aa pg h g (gy 266 7 j) fun k=>
 un (aF (ad k)) fun l=>
 bq (az (af (ad k))==7) (bq (aW (af (ad k)) one) ((bq (dO l) (un (cellOf l 0) fun m=>
 eV pg R h g true (gU 36 9 1 1 #[(0,m)]) fun n o q=>
 eV pg R q o true (gH 36 9 1 16 36 e n) fun r s t=>
 (bq (dO l) (un (ef l 4 3) fun v=>
 eC pg R t s true 165 #[v] fun y z A=>
 aa pg A z (bg bJ y) fun C=>
 un (ef l 1 3) fun D=>
 un (aO C false D) fun E=>
 jn (fun (F:Value) (G:World) (H:XS)=>
 aD pg H G C false (vS (bg bJ F)) fun L=>
 ay pg H G (aR C (B true) L) fun M=>
 un (aO M false v) fun N=>
 aD pg H G M false (vS (ez 35 #[(I 0),(I 0),(I 0)] #[])) fun O=>
 aD pg H G M false (vS (aJ .eql 35 (.tmp 29) (.tmp 30) N O)) fun Q=>
 un (aO M false Q) fun S=>
 un (cellOf l 1) fun T=>
 un (aO S true T) fun U=>
 aD pg H G S true (vS (aJ .neq 3 (.tmp 35) (.const (I 0)) U (I 0))) fun V=>
 aD pg H G M false (aR S V (B false)) fun Y=>
 ay pg H G (aR M (B true) Y) fun Z=>
 (ao Z
 (fin R H G (B false))
 (((aa pg H G (binOp .add 3 d (I 1)) fun a0=>
 jB b c a0 r G H))))) fun b0=>
 (gE C false (eC pg R A z true 158 #[E] b0) (b0 undef z A))))))))))
 (eC pg R h g true 239 #[e] fun c0 d0 e0=>
 (fin R e0 d0 c0))))))
def D9 (p0:Value):Prop:=
 ((aa pg X0 w0 (cK 23 3 p0) fun a=>
 (jA X0 w0 (I 0) (.slice none 0 0) 8 3 fun b c d e g h=>
 aa pg h g (binOp .lss 3 d a) fun i=>
 (ao i
 ((aa pg h g (dD 23 4 p0 d) fun j=>
 aa pg h g (gy 53 4 j) fun k=>
 un (aF (ad k)) fun l=>
 bq (az (af (ad k))==4) (bq (aW (af (ad k)) one) ((bq (dO l) (un (cellOf l 0) fun m=>
 eV pg R h g true (gU 36 9 1 1 #[(0,m)]) fun n o q=>
 eV pg R q o true (gH 36 9 1 16 36 e n) fun r s t=>
 (bq (dO l) (un (ef l 1 3) fun v=>
 eC pg R t s true 158 #[v] fun y z A=>
 aa pg A z (bg bJ y) fun C=>
 (ao C
 (fin R A z (B false))
 (((aa pg A z (binOp .add 3 d (I 1)) fun D=>
 jB b c D r z A))))))))))))
 (eC pg R h g true 239 #[e] fun E F G=>
 (fin R G F E))))))
def Ir (p0:Value):Prop:=
 (aa pg X0 w0 (cK 22 3 p0) fun a=>
 (jw X0 w0 (I 0) 7 fun b c d e g=>
 aa pg g e (binOp .lss 3 d a) fun h=>
 (ao h
 ((aa pg g e (dD 22 1 p0 d) fun i=>
 aa pg g e (bb 3 i) fun j=>
 (aa pg g e (binOp .lss 3 j (I 1)) fun k=>
 un (aO k false j) fun l=>
 aD pg g e k false (vS (binOp .gtr 3 l (I 12))) fun m=>
 ay pg g e (aR k (B true) m) fun n=>
 un (aO n false d) fun o=>
 aD pg g e n false (vS (binOp .gtr 3 o (I 0))) fun q=>
 un (aO n false q) fun r=>
 un (aO r true p0) fun s=>
 un (aO r true d) fun t=>
 aD pg g e r true (vS (binOp .sub 3 t (I 1))) fun v=>
 aD pg g e r true (vS (dD 22 1 s v)) fun y=>
 aD pg g e r true (vS (bb 3 y)) fun z=>
 un (aO r true j) fun A=>
 aD pg g e r true (vS (binOp .geq 3 z A)) fun C=>
 aD pg g e n false (aR r C (B false)) fun D=>
 ay pg g e (aR n (B true) D) fun E=>
 (ao E
 (fin R g e (B false))
 (((aa pg g e (binOp .add 3 d (I 1)) fun F=>
 jx b c F e g)))))))
 (((aa pg g e (cK 22 3 p0) fun G=>
 aa pg g e (binOp .gtr 3 G (I 0)) fun H=>
 (fin R g e H)))))))
noncomputable def YJ:bG:=⟨17,[],[],[0,1,4,6,7,8,9,10,15],[],[9]⟩
def M8 (p0:Value) (p1:Int):Prop:=
 (aa pg X0 w0 (cK 22 3 p0) fun a=>
 (jw X0 w0 (I 0) 9 fun b c d e g=>
 aa pg g e (binOp .lss 3 d a) fun h=>
 (ao h
 ((aa pg g e (dD 22 1 p0 d) fun i=>
 aa pg g e (bb 3 i) fun j=>
 (aa pg g e (aJ .eql 3 (.tmp 13) (.tmp 14) j (I p1)) fun k=>
 (ao k
 (fin R g e (B true))
 (((aa pg g e (binOp .add 3 d (I 1)) fun l=>
 jx b c l e g)))))))
 (fin R g e (B false)))))
noncomputable def W8:bG:=⟨33,[(1,(pg.cellsOf 42))],[3,7,12,17,22,27,29],[0,2],[6,8,9,11,13,14,16,18,19,21,23,24,26,28,30,31],[]⟩
def KH (bo bA:Int) (bD cg:Nat):Prop:=
 (aa pg X0 w0 (binOp .geq 3 (I bo) (I 1)) fun a=>
 un (aO a true (I bo)) fun b=>
 aD pg X0 w0 a true (vS (binOp .leq 3 b (I 12))) fun c=>
 ay pg X0 w0 (aR a c (B false)) fun d=>
 un (aO d true (I bA)) fun e=>
 aD pg X0 w0 d true (vS (binOp .geq 3 e (I 0))) fun g=>
 ay pg X0 w0 (aR d g (B false)) fun h=>
 un (aO h true (.float .f64 bD)) fun i=>
 jn (fun (j:Value) (k:World) (l:XS)=>
 ay pg l k (aR h j (B false)) fun m=>
 un (aO m true (.float .f64 cg)) fun n=>
 jn (fun (o:Value) (q:World) (r:XS)=>
 ay pg r q (aR m o (B false)) fun s=>
 un (aO s true (.float .f64 bD)) fun t=>
 un (aO s true (.float .f64 cg)) fun v=>
 aD pg r q s true (vS (binOp .lss 40 t v)) fun y=>
 ay pg r q (aR s y (B false)) fun z=>
 (fin R r q z)) fun A=>
 (gE m true (eC pg R l k true 314 #[n] A) (A undef k l))) fun C=>
 (gE h true (eC pg R X0 w0 true 314 #[i] C) (C undef w0 X0)))
def KI (p0 p1:Value):Prop:=
 (eC pg R X0 w0 true 315 #[] fun a b c=>
 ((aa pg c b (cK 43 3 p0) fun d=>
 (jA c b (I 0) (.string { data:= #[] }) 18 7 fun e g h i j k=>
 aa pg k j (binOp .lss 3 h d) fun l=>
 (ao l
 ((aa pg k j (dD 43 2 p0 h) fun m=>
 aa pg k j (gy 288 2 m) fun n=>
 un (aF (ad n)) fun o=>
 bq (az (af (ad n))==2) (bq (aW (af (ad n)) one) ((bq (dO o) (un (ef o 0 2) fun q=>
 eC pg R k j true 316 #[q,i] fun r s t=>
 aa pg t s (bg bJ r) fun v=>
 (ao v
 ((fin R t s (ax #[(.pointer none),(I 4)])))
 ((ay pg t s (aE a) fun y=>
 aa pg t s (aS 382 0 0 1 y) fun z=>
 aa pg t s (bb 379 z) fun A=>
 bq (dO o) (un (cellOf o 1) fun C=>
 eC pg R t s false 317 #[C] fun D E F=>
 un (cellOf o 0) fun G=>
 eU pg R F E true (gK 379 A G D) fun _ H L=>
 (bq (dO o) (((aa pg L H (binOp .add 3 h (I 1)) fun M=>
 jB e g M G H L))))))))))))))
 (((aa pg k j (cK 44 3 p1) fun N=>
 (jw k j (I 0) 40 fun O Q S T U=>
 aa pg U T (binOp .lss 3 S N) fun V=>
 (ao V
 ((aa pg U T (dD 44 8 p1 S) fun Y=>
 aa pg U T (gy 229 8 Y) fun Z=>
 un (aF (ad Z)) fun a0=>
 bq (az (af (ad Z))==8) (bq (aW (af (ad Z)) one) ((bq (dO a0) (un (ef a0 0 8) fun b0=>
 eC pg R U T true 250 #[b0] fun c0 d0 e0=>
 (ay pg e0 d0 (aE a) fun g0=>
 aa pg e0 d0 (aS 382 1 1 1 g0) fun h0=>
 aa pg e0 d0 (bb 380 h0) fun i0=>
 bq (dO a0) (un (ef a0 0 3) fun j0=>
 aa pg e0 d0 (dR 380 i0 j0 true) fun k0=>
 aa pg e0 d0 (aH k0 0) fun l0=>
 aa pg e0 d0 (aH k0 1) fun m0=>
 un (aF (ad l0)) fun _=>
 bq (az (af (ad l0))==8) (bq (aW (af (ad l0)) one) ((aa pg e0 d0 (aJ .neq 29 (.tmp 57) (.const (I 0)) c0 (I 0)) fun n0=>
 (ao n0
 ((fin R e0 d0 (ax #[(.pointer none),c0])))
 ((ao m0
 ((fin R e0 d0 (ax #[(.pointer none),(I 9)])))
 (bq (dO a0) (eC pg R e0 d0 true 318 #[a,b0] fun o0 q0 r0=>
 (ao o0
 ((fin R r0 q0 (ax #[(.pointer none),(I 18)])))
 (bq (dO a0) (eC pg R r0 q0 true 319 #[a,b0] fun s0 t0 v0=>
 (ao s0
 ((fin R v0 t0 (ax #[(.pointer none),(I 20)])))
 (((ay pg v0 t0 (aE a) fun y0=>
 aa pg v0 t0 (aS 382 1 1 1 y0) fun z0=>
 aa pg v0 t0 (bb 380 z0) fun A0=>
 bq (dO a0) (eC pg R v0 t0 false 320 #[b0] fun C0 D0 E0=>
 eU pg R E0 D0 true (gK 380 A0 j0 C0) fun _ F0 G0=>
 ((aa pg G0 F0 (binOp .add 3 S (I 1)) fun H0=>
 jx O Q H0 F0 G0))))))))))))))))))))))))))
 ((((fin R U T (ax #[a,(I 0)])))))))))))))))
noncomputable def IU:bG:=⟨9,[],[],[0,1,3],[],[]⟩
def za (p0:ByteArray) (c0:Value):Prop:=
 (aa pg X0 w0 (aS 46 0 0 4 c0) fun a=>
 aa pg X0 w0 (gy 42 4 a) fun b=>
 eC pg R X0 w0 false 249 #[(.string p0)] fun c d e=>
 eC pg R e d true 248 #[b,c] fun g h i=>
 (fin R i h g))
noncomputable def YK:bG:=⟨15,[(2,(pg.cellsOf 42))],[6,11],[0,1,4],[9,10,12,13],[]⟩
def M9 (_p0_0 _p0_1:Int) (bD cg p1:Nat):Prop:=
 (aa pg X0 w0 (binOp .geq 40 (.float .f64 p1) (.float .f64 bD)) fun a=>
 un (aO a true (.float .f64 p1)) fun b=>
 un (aO a true (.float .f64 cg)) fun c=>
 aD pg X0 w0 a true (vS (binOp .lss 40 b c)) fun d=>
 ay pg X0 w0 (aR a d (B false)) fun e=>
 (fin R X0 w0 e))
noncomputable def YM:bG:=⟨8,[],[],[0,2],[],[]⟩
def Na (p0:ByteArray):Prop:=
 (eC pg R X0 w0 true 321 #[(.string p0)] fun a b c=>
 aa pg c b (binOp .shr 196 a (aC bm 11)) fun d=>
 aa pg c b (yC 196 40 d) fun e=>
 aa pg c b (binOp .quo 40 e (.float .f64 4845873199050653696)) fun g=>
 (fin R c b g))
noncomputable def KJ:bG:=⟨45,[(1,(pg.cellsOf 229)),(4,(pg.cellsOf 53))],[6,11,16,22,27,33,40],[0,2,5,10,21,34,35,36,37,43],[15,17,18,19,26,28,29,30,31],[36]⟩
def AD (bo bA bD cg cy cz:Int) (cA cI:Value):Prop:=
 (eC pg R X0 w0 true 238 #[(.agg #[(I bo),(I bA),(I bD)])] fun a b c=>
 aa pg c b (bg bJ a) fun d=>
 (ao d
 (fin R c b (I 4))
 (eC pg R c b true 165 #[(.agg #[(I cg),(I cy),(I cz)])] fun e g h=>
 aa pg h g (bg bJ e) fun i=>
 un (aO i false (.agg #[(I cg),(I cy),(I cz)])) fun j=>
 aD pg h g i false (vS (ez 35 #[(I 0),(I 0),(I 0)] #[])) fun k=>
 aD pg h g i false (vS (aJ .eql 35 (.tmp 17) (.tmp 18) j k)) fun l=>
 ay pg h g (aR i (B true) l) fun m=>
 (ao m
 (fin R h g (I 17))
 (eC pg R h g true 322 #[cA] fun n o q=>
 aa pg q o (bg bJ n) fun r=>
 un (aO r false cI) fun s=>
 jn (fun (t:Value) (v:World) (y:XS)=>
 jn (fun (z:Value) (A:World) (C:XS)=>
 aD pg C A r false (vS (bg bJ z)) fun D=>
 ay pg C A (aR r (B true) D) fun E=>
 (ao E
 (fin R C A (I 4))
 (((aa pg C A (cK 23 3 cI) fun F=>
 (jw C A (I 0) 36 fun G H L M N=>
 aa pg N M (binOp .lss 3 L F) fun O=>
 (ao O
 ((aa pg N M (dD 23 4 cI L) fun Q=>
 aa pg N M (gy 53 4 Q) fun S=>
 un (aF (ad S)) fun T=>
 bq (az (af (ad S))==4) (bq (aW (af (ad S)) one) ((bq (dO T) (un (ef T 1 3) fun U=>
 eC pg R N M true 158 #[U] fun V Y Z=>
 aa pg Z Y (bg bJ V) fun a0=>
 (ao a0
 (fin R Z Y (I 4))
 (((aa pg Z Y (binOp .add 3 L (I 1)) fun b0=>
 jx G H b0 Y Z))))))))))
 (fin R N M (I 0))))))))) fun c0=>
 (gE r false (eC pg R y v true 322 #[t] c0) (c0 undef v y))) fun d0=>
 (gE r false (eC pg R q o true 323 #[s] d0) (d0 undef o q)))))))
noncomputable def W9:bG:=⟨19,[],[],[0,1,4],[],[]⟩
def KK (p0:Value) (p1:Int):Prop:=
 (aa pg X0 w0 (kV cE 281 5 (aC fy p1)) fun a=>
 aa pg X0 w0 (binOp .shr 281 (aC fy p1) (aC bm 8)) fun b=>
 aa pg X0 w0 (kV cE 281 5 b) fun c=>
 aa pg X0 w0 (binOp .shr 281 (aC fy p1) (aC bm 16)) fun d=>
 aa pg X0 w0 (kV cE 281 5 d) fun e=>
 aa pg X0 w0 (binOp .shr 281 (aC fy p1) (aC bm 24)) fun g=>
 aa pg X0 w0 (kV cE 281 5 g) fun h=>
 eV pg R X0 w0 true (gU 95 5 1 4 #[(0,a),(1,c),(2,e),(3,h)]) fun i j k=>
 eV pg R k j true (gH 95 5 1 1 95 p0 i) fun l m n=>
 (fin R n m l))
def BF (p0:Value):Prop:=
 ((jn (fun (a:World) (b:XS)=>
 (jn (fun (c:World) (d:XS)=>
 ay pg d c (aE p0) fun e=>
 aa pg d c (aS 106 4 4 1 e) fun g=>
 aa pg d c (bb 4 g) fun h=>
 (fin R d c h)) fun i=>
 ay pg b a (aE p0) fun j=>
 aa pg b a (aS 106 4 4 1 j) fun k=>
 aa pg b a (bb 4 k) fun l=>
 aa pg b a (bg bJ l) fun m=>
 (ao m
 (ay pg b a (aE p0) fun n=>
 aa pg b a (aS 106 2 2 1 n) fun o=>
 aa pg b a (bb 3 o) fun q=>
 aa pg b a (binOp .add 3 q (I 1)) fun r=>
 ay pg b a (aE p0) fun s=>
 aa pg b a (aS 106 2 2 1 s) fun t=>
 eU pg R b a true (dV 3 1 t r) fun _ v y=>
 (i v y))
 (i a b)))) fun z=>
 ay pg X0 w0 (aE p0) fun A=>
 aa pg X0 w0 (aS 106 3 3 1 A) fun C=>
 aa pg X0 w0 (bb 3 C) fun D=>
 aa pg X0 w0 (binOp .gtr 3 D (I 0)) fun E=>
 (ao E
 (ay pg X0 w0 (aE p0) fun F=>
 aa pg X0 w0 (aS 106 3 3 1 F) fun G=>
 aa pg X0 w0 (bb 3 G) fun H=>
 aa pg X0 w0 (binOp .sub 3 H (I 1)) fun L=>
 ay pg X0 w0 (aE p0) fun M=>
 aa pg X0 w0 (aS 106 3 3 1 M) fun N=>
 eU pg R X0 w0 true (dV 3 1 N L) fun _ O Q=>
 (ay pg Q O (aE p0) fun S=>
 aa pg Q O (aS 106 3 3 1 S) fun T=>
 aa pg Q O (bb 3 T) fun U=>
 aa pg Q O (aJ .eql 3 (.tmp 19) (.const (I 0)) U (I 0)) fun V=>
 ay pg Q O (aE p0) fun Y=>
 aa pg Q O (aS 106 4 4 1 Y) fun Z=>
 eU pg R Q O true (dV 4 1 Z V) fun _ a0 b0=>
 (z a0 b0)))
 (z w0 X0))))
noncomputable def Hn:bG:=⟨20,[],[],[0,1],[],[]⟩
def yn (c0 c1:Value):Prop:=
 aa pg X0 w0 (bb 26 c0) fun a=>
 ay pg X0 w0 (aE a) fun b=>
 aa pg X0 w0 (aS 106 0 0 1 b) fun c=>
 aa pg X0 w0 (bb 104 c) fun d=>
 aa pg X0 w0 (bb 9 c1) fun e=>
 aa pg X0 w0 (dR 104 d e false) fun g=>
 aa pg X0 w0 (bb 26 c0) fun h=>
 ay pg X0 w0 (aE h) fun i=>
 aa pg X0 w0 (aS 106 0 0 1 i) fun j=>
 aa pg X0 w0 (bb 104 j) fun k=>
 aa pg X0 w0 (bb 9 c1) fun l=>
 aa pg X0 w0 (dR 104 k l false) fun m=>
 ay pg X0 w0 (aE m) fun n=>
 aa pg X0 w0 (aS 141 0 0 1 n) fun o=>
 aa pg X0 w0 (bb 95 o) fun q=>
 aa pg X0 w0 (cK 95 3 q) fun r=>
 ay pg X0 w0 (aE g) fun s=>
 aa pg X0 w0 (aS 141 1 1 1 s) fun t=>
 eU pg R X0 w0 true (dV 3 1 t r) fun _ v y=>
 fin R y v (ax #[])
def FW:Prop:=
 (eV pg R X0 w0 true (gZ 353 true (ax #[])) fun a b c=>
 ((tq c b (I 0) undef undef 4 9 3 fun d e g _ _ h i=>
 aa pg i h (binOp .lss 3 g (I 256)) fun j=>
 (ao j
 (((aa pg i h (kV fy 3 281 g) fun k=>
 ((jA i h (I 0) k 9 3 fun l m n o q r=>
 aa pg r q (binOp .lss 3 n (I 8)) fun s=>
 (ao s
 ((aa pg r q (binOp .shr 281 o (aC bm 1)) fun t=>
 aa pg r q (binOp .and 281 o (aC fy 1)) fun v=>
 aa pg r q (bg UnOp.neg v) fun y=>
 aa pg r q (binOp .and 281 (aC fy 2197175160) y) fun z=>
 aa pg r q (binOp .xor 281 t z) fun A=>
 ((aa pg r q (binOp .add 3 n (I 1)) fun C=>
 jB l m C A q r))))
 (((aa pg r q (Instr.indexAt 353 a g) fun D=>
 eU pg R r q true (dV 281 1 D o) fun _ E F=>
 ((aa pg F E (binOp .add 3 g (I 1)) fun G=>
 tt d e G n o E F)))))))))))
 (((aa pg i h (gy 353 256 a) fun H=>
 un (aF (ad H)) fun L=>
 bq (az (af (ad H))==256) (bq (aW (af (ad H)) one) (un (ef L 0 256) fun M=>
 bq (aW [L] dO) (fin R i h M))))))))))
noncomputable def FY:bG:=⟨90,[],[],[0,1,4,5,6,7,8,9,10,11,19,47,57,66,76],[33,34,35,37,38,39,40,41,42,43,44,59,60,61,62,63,64,65],[7,8,9]⟩
def wT (p0:Value) (p1:Int):Prop:=
 (((tq X0 w0 (I p1) (aC bm 0) (B false) 9 7 8 fun a b c d e g h=>
 ay pg h g (aE p0) fun i=>
 aa pg h g (aS 223 0 0 1 i) fun j=>
 aa pg h g (bb 95 j) fun k=>
 aa pg h g (cK 95 3 k) fun l=>
 aa pg h g (binOp .lss 3 c l) fun m=>
 (ao m
 ((ay pg h g (aE p0) fun n=>
 aa pg h g (aS 223 0 0 1 n) fun o=>
 aa pg h g (bb 95 o) fun q=>
 aa pg h g (dD 95 1 q c) fun r=>
 aa pg h g (bb 5 r) fun s=>
 (aa pg h g (binOp .sub 3 c (I p1)) fun t=>
 (un (aO e false t) fun v=>
 aD pg h g e false (vS (binOp .gtr 3 v (I 9))) fun y=>
 ay pg h g (aR e (B true) y) fun z=>
 un (aO z false t) fun A=>
 aD pg h g z false (vS (aJ .eql 3 (.tmp 38) (.const (I 9)) A (I 9))) fun C=>
 un (aO z false C) fun D=>
 un (aO D true s) fun E=>
 aD pg h g D true (vS (binOp .and 5 E (aC cE 127))) fun F=>
 aD pg h g D true (vS (binOp .gtr 5 F (aC cE 1))) fun G=>
 aD pg h g z false (aR D G (B false)) fun H=>
 ay pg h g (aR z (B true) H) fun L=>
 ((jn (fun (M:Value)=>
 aa pg h g (binOp .geq 5 s (aC cE 128)) fun N=>
 (ao N
 (((aa pg h g (binOp .add 3 c (I 1)) fun O=>
 tt a b O M L g h)))
 ((un (aO L false s) fun Q=>
 aD pg h g L false (vS (aJ .eql 5 (.tmp 60) (.const (aC cE 0)) Q (aC cE 0))) fun S=>
 un (aO L false S) fun T=>
 un (aO T true t) fun U=>
 aD pg h g T true (vS (binOp .gtr 3 U (I 0))) fun V=>
 aD pg h g L false (aR T V (B false)) fun Y=>
 ay pg h g (aR L (B true) Y) fun Z=>
 (ao Z
 (eC pg R h g true 294 #[p0,(I 4),(I p1)] fun _ a0 b0=>
 ((fin R b0 a0 (ax #[(I 0),(I p1),(B false)]))))
 ((aa pg h g (binOp .shr 196 M (aC bm 1)) fun c0=>
 aa pg h g (kV IntKind.i64 196 3 c0) fun d0=>
 ((jn (fun (e0:Value)=>
 aa pg h g (binOp .add 3 c (I 1)) fun g0=>
 (fin R h g (ax #[e0,g0,(B true)]))) fun h0=>
 aa pg h g (binOp .and 196 M (aC bm 1)) fun i0=>
 aa pg h g (aJ .eql 196 (.tmp 75) (.const (aC bm 1)) i0 (aC bm 1)) fun j0=>
 (ao j0
 (aa pg h g (bg tY d0) fun k0=>
 (h0 k0))
 (h0 d0))))))))))) fun l0=>
 aa pg h g (bg bJ L) fun m0=>
 (ao m0
 (aa pg h g (binOp .and 5 s (aC cE 127)) fun n0=>
 aa pg h g (kV bm 5 196 n0) fun o0=>
 aa pg h g (binOp .mul 3 (I 7) t) fun q0=>
 aa pg h g (binOp .shl 196 o0 q0) fun r0=>
 aa pg h g (binOp .or 196 d r0) fun s0=>
 (l0 s0))
 (l0 d))))))))
 (((ay pg h g (aE p0) fun t0=>
 aa pg h g (aS 223 0 0 1 t0) fun v0=>
 aa pg h g (bb 95 v0) fun y0=>
 aa pg h g (cK 95 3 y0) fun z0=>
 eC pg R h g true 294 #[p0,(I 5),z0] fun _ A0 C0=>
 ((fin R C0 A0 (ax #[(I 0),(I p1),(B false)]))))))))))
def tg (p0 p1 p2:Value):Prop:=
 ay pg X0 w0 (aE p1) fun a=>
 aa pg X0 w0 (bb 286 a) fun b=>
 aa pg X0 w0 (cK 286 3 b) fun c=>
 ((jn (fun (d:Value) (e:World) (g:XS)=>
 (jw g e (I 0) 39 fun h i j k l=>
 aa pg l k (binOp .lss 3 j d) fun m=>
 (ao m
 ((((jn (fun (n:World) (o:XS)=>
 ay pg o n (aE p1) fun q=>
 aa pg o n (bb 286 q) fun r=>
 aa pg o n (dD 286 6 r j) fun s=>
 eF pg R o n true p2 #[s] fun _ t v=>
 ((aa pg v t (binOp .add 3 j (I 1)) fun y=>
 jx h i y t v))) fun z=>
 ay pg l k (aE p0) fun A=>
 aa pg l k (aS 175 0 0 1 A) fun C=>
 aa pg l k (bb 173 C) fun D=>
 aa pg l k (aJ .eql 173 (.tmp 45) (.const (.pointer none)) D (.pointer none)) fun E=>
 (ao E
 ((ay pg l k (aE p1) fun F=>
 aa pg l k (bb 286 F) fun G=>
 eV pg R l k false (gU 286 337 6 1 #[(0,(.agg #[(I 0),(I 0),(I 0),(I 0),(.float .f64 0),(.string { data:= #[] })]))]) fun H L M=>
 eV pg R M L true (gH 286 337 6 56 286 G H) fun N O Q=>
 ay pg Q O (aE p1) fun S=>
 eU pg R Q O true (dV 286 1 S N) fun _ T U=>
 (z T U)))
 (z k l))))))
 (fin R l k (ax #[]))))) fun V=>
 ay pg X0 w0 (aE p0) fun Y=>
 aa pg X0 w0 (aS 175 0 0 1 Y) fun Z=>
 aa pg X0 w0 (bb 173 Z) fun a0=>
 aa pg X0 w0 (aJ .neq 173 (.tmp 16) (.const (.pointer none)) a0 (.pointer none)) fun b0=>
 (ao b0
 (ay pg X0 w0 (aE p0) fun c0=>
 aa pg X0 w0 (aS 175 0 0 1 c0) fun d0=>
 aa pg X0 w0 (bb 173 d0) fun e0=>
 eC pg R X0 w0 true 206 #[e0,c] fun _ g0 h0=>
 (V c g0 h0))
 (ay pg X0 w0 (aE p0) fun i0=>
 aa pg X0 w0 (aS 175 1 1 1 i0) fun j0=>
 aa pg X0 w0 (bb 169 j0) fun k0=>
 ay pg X0 w0 (aE p0) fun l0=>
 aa pg X0 w0 (aS 175 1 1 1 l0) fun m0=>
 aa pg X0 w0 (bb 169 m0) fun n0=>
 eC pg R X0 w0 false 216 #[n0] fun o0 q0 r0=>
 eC pg R r0 q0 true 215 #[k0,o0] fun s0 t0 v0=>
 (eC pg R v0 t0 true 208 #[p0] fun _ y0 z0=>
 (ay pg z0 y0 (aE p1) fun A0=>
 eU pg R z0 y0 true (dV 286 1 A0 (.slice none 0 0)) fun _ C0 D0=>
 (V s0 C0 D0)))))))
def vF (p0 p1:Value):Prop:=
 ay pg X0 w0 (aE p1) fun a=>
 aa pg X0 w0 (aS 337 0 0 3 a) fun b=>
 eC pg R X0 w0 true 148 #[p0,b] fun _ c d=>
 (ay pg d c (aE p1) fun e=>
 aa pg d c (aS 337 1 3 3 e) fun g=>
 eC pg R d c true 221 #[p0,g] fun _ h i=>
 fin R i h (ax #[]))
noncomputable def IV:bG:=⟨17,[],[],[0,1],[],[]⟩
def zc (p0:Value) (p1:ByteArray):Prop:=
 aa pg X0 w0 (lJ 9 3 (.string p1)) fun a=>
 eC pg R X0 w0 true 206 #[p0,a] fun _ b c=>
 (ay pg c b (aE p0) fun d=>
 aa pg c b (aS 308 0 0 1 d) fun e=>
 aa pg c b (bb 95 e) fun g=>
 eV pg R c b true (Builtin.append_ #[95,9] 95 #[g,(.string p1)]) fun h i j=>
 ay pg j i (aE p0) fun k=>
 aa pg j i (aS 308 0 0 1 k) fun l=>
 eU pg R j i true (dV 95 1 l h) fun _ m n=>
 fin R n m (ax #[]))
noncomputable def IW:bG:=⟨55,[],[],[0,1,4,5,6,7,12,21,30],[],[]⟩
def zd (p0:Value) (p1:Int):Prop:=
 (ay pg X0 w0 (aE p0) fun a=>
 aa pg X0 w0 (aS 223 2 2 1 a) fun b=>
 aa pg X0 w0 (bb 29 b) fun c=>
 aa pg X0 w0 (aJ .neq 29 (.tmp 11) (.const (I 0)) c (I 0)) fun d=>
 (ao d
 (fin R X0 w0 (.string { data:= #[] }))
 ((eC pg R X0 w0 true 293 #[p0,(I p1),(I 2)] fun e g h=>
 aa pg h g (aH e 0) fun i=>
 aa pg h g (aH e 1) fun j=>
 aa pg h g (aH e 2) fun k=>
 (aa pg h g (bg bJ k) fun l=>
 (ao l
 (fin R h g (.string { data:= #[] }))
 ((ay pg h g (aE p0) fun m=>
 aa pg h g (aS 223 0 0 1 m) fun n=>
 aa pg h g (bb 95 n) fun o=>
 aa pg h g (cK 95 3 o) fun q=>
 aa pg h g (binOp .sub 3 q j) fun r=>
 aa pg h g (binOp .gtr 3 i r) fun s=>
 (ao s
 (ay pg h g (aE p0) fun t=>
 aa pg h g (aS 223 0 0 1 t) fun v=>
 aa pg h g (bb 95 v) fun y=>
 aa pg h g (cK 95 3 y) fun z=>
 eC pg R h g true 294 #[p0,(I 5),z] fun _ A C=>
 (fin R C A (.string { data:= #[] })))
 ((aa pg h g (binOp .add 3 j i) fun D=>
 ay pg h g (aE p0) fun E=>
 aa pg h g (aS 223 1 1 1 E) fun F=>
 eU pg R h g true (dV 3 1 F D) fun _ G H=>
 (ay pg H G (aE p0) fun L=>
 aa pg H G (aS 223 0 0 1 L) fun M=>
 aa pg H G (bb 95 M) fun N=>
 ay pg H G (aE p0) fun O=>
 aa pg H G (aS 223 1 1 1 O) fun Q=>
 aa pg H G (bb 3 Q) fun S=>
 aa pg H G (Instr.sliceAt 95 N (some j) (some S) none) fun T=>
 eV pg R H G true (convert 95 9 T) fun U V Y=>
 (fin R Y V U)))))))))))))
noncomputable def Ho:bG:=⟨56,[],[],[0,1,2,6,7,8,19,26,39],[],[]⟩
def yp (p0:Value) (p1 p2:Int):Prop:=
 (ay pg X0 w0 (aE p0) fun a=>
 aa pg X0 w0 (aS 223 1 1 1 a) fun b=>
 aa pg X0 w0 (bb 3 b) fun c=>
 eC pg R X0 w0 true 288 #[p0,c] fun d e g=>
 aa pg g e (aH d 0) fun h=>
 aa pg g e (aH d 1) fun i=>
 aa pg g e (aH d 2) fun j=>
 (aa pg g e (bg bJ j) fun k=>
 (ao k
 (ay pg g e (aE p0) fun l=>
 aa pg g e (aS 223 1 1 1 l) fun m=>
 aa pg g e (bb 3 m) fun n=>
 (fin R g e (ax #[(I 0),n,(B false)])))
 (aa pg g e (binOp .lss 3 h (I 0)) fun o=>
 (ao o
 (ay pg g e (aE p0) fun q=>
 aa pg g e (aS 223 1 1 1 q) fun r=>
 aa pg g e (bb 3 r) fun s=>
 eC pg R g e true 294 #[p0,(I 4),s] fun _ t v=>
 (ay pg v t (aE p0) fun y=>
 aa pg v t (aS 223 1 1 1 y) fun z=>
 aa pg v t (bb 3 z) fun A=>
 (fin R v t (ax #[(I 0),A,(B false)]))))
 (aa pg g e (binOp .gtr 3 h (I p1)) fun C=>
 (ao C
 (ay pg g e (aE p0) fun D=>
 aa pg g e (aS 223 1 1 1 D) fun E=>
 aa pg g e (bb 3 E) fun F=>
 eC pg R g e true 294 #[p0,(I p2),F] fun _ G H=>
 (ay pg H G (aE p0) fun L=>
 aa pg H G (aS 223 1 1 1 L) fun M=>
 aa pg H G (bb 3 M) fun N=>
 (fin R H G (ax #[(I 0),N,(B false)]))))
 ((((fin R g e (ax #[h,i,(B true)]))))))))))))
noncomputable def adq:bG:=⟨6,[],[],[0,2],[],[]⟩
def Ta (p0:Int):Prop:=
 (eC pg R X0 w0 true 346 #[(aC bm p0)] fun a b c=>
 eC pg R c b true 304 #[a] fun d e g=>
 (fin R g e d))
noncomputable def Xa:bG:=⟨26,[(3,(pg.cellsOf 51))],[9,12,17,23],[0,1,6,13,14,20],[],[]⟩
def KL (p0:Value) (cZ:Int) (dp:Nat) (du:ByteArray):Prop:=
 ((jn (fun (a:Value) (b:World) (c:XS)=>
 bq (dO a) (un (cellOf a 0) fun d=>
 eC pg R c b true 206 #[p0,d] fun _ e g=>
 (bq (dO a) (((jn (fun (h:World) (i:XS)=>
 fin R i h (ax #[])) fun j=>
 aa pg g e (aJ .eql 3 (.tmp 13) (.const (I 1)) d (I 1)) fun k=>
 (ao k
 (bq (dO a) (un (cellOf a 1) fun l=>
 eC pg R g e true 219 #[p0,l] fun _ m n=>
 (j m n)))
 (aa pg g e (aJ .eql 3 (.tmp 13) (.const (I 2)) d (I 2)) fun o=>
 (ao o
 (bq (dO a) (un (cellOf a 2) fun q=>
 eC pg R g e true 291 #[p0,q] fun _ r s=>
 (j r s)))
 (j e g)))))))))) fun t=>
 eC pg R X0 w0 true 158 #[(.agg #[(I cZ),(.float .f64 dp),(.string du)])] fun v y z=>
 aa pg z y (bg bJ v) fun A=>
 (ao A
 (aa pg z y (ez 51 #[(I 0),(.float .f64 0),(.string ⟨#[]⟩)] #[]) fun C=>
 un (aF (ad C)) fun D=>
 bq (az (af (ad C))==3) (bq (aW (af (ad C)) one) (t D y z)))
 ((t (.agg #[(I cZ),(.float .f64 dp),(.string du)]) y z)))))
def KM (p0:Value):Prop:=
 (eC pg R X0 w0 true 347 #[p0,(I 2)] fun a b c=>
 aa pg c b (ez 51 #[a,(.float .f64 0),(.string ⟨#[]⟩)] #[(0,a)]) fun d=>
 un (aF (ad d)) fun e=>
 bq (az (af (ad d))==3) (bq (aW (af (ad d)) one) ((bq (dO e) (un (cellOf e 0) fun g=>
 ((jn (fun (h:Value) (i:World) (j:XS)=>
 (eC pg R j i true 154 #[p0] fun k l m=>
 aa pg m l (aH k 0) fun n=>
 aa pg m l (aH k 1) fun _=>
 (aa pg m l (aJ .neq 29 (.tmp 26) (.const (I 0)) n (I 0)) fun o=>
 (ao o
 (aa pg m l (ez 51 #[(I 0),(.float .f64 0),(.string ⟨#[]⟩)] #[]) fun q=>
 un (aF (ad q)) fun r=>
 bq (az (af (ad q))==3) (bq (aW (af (ad q)) one) (un (ef r 0 3) fun s=>
 bq (aW [r] dO) (fin R m l s))))
 ((bq (dO h) (un (ef h 0 3) fun t=>
 un (aF (ad t)) fun v=>
 bq (az (af (ad t))==3) (bq (aW (af (ad t)) one) (un (ef v 0 3) fun y=>
 bq (aW [v] dO) (fin R m l y)))))))))) fun z=>
 aa pg c b (aJ .eql 3 (.tmp 10) (.const (I 1)) g (I 1)) fun A=>
 (ao A
 (eC pg R c b true 220 #[p0] fun C D E=>
 bq (dO e) (un (aF (bh (b8 (af (ad e)) 1 [C]))) fun F=>
 bq (one C) (z F D E)))
 (aa pg c b (aJ .eql 3 (.tmp 10) (.const (I 2)) g (I 2)) fun G=>
 (ao G
 (eC pg R c b true 292 #[p0,(I 64)] fun H L M=>
 bq (dO e) (un (aF (bh (b8 (af (ad e)) 2 [H]))) fun N=>
 bq (one H) (z N L M)))
 (z e b c)))))))))))
noncomputable def Mb:bG:=⟨51,[(1,(pg.cellsOf 46))],[3,4,8,9,14,15,21,22,28,34,40,46],[0,2],[7,10,11,13,16,17,18,20,23,24,25,27,29,30,31,33,35,36,37,39,41,42,43,45,47,48,49],[]⟩
def BG (bo bA:Int) (bD cg:Nat) (cy cz cA cI dB dq:Int) (cj cd:Value):Prop:=
 (aa pg X0 w0 (aJ .eql 3 (.tmp 5) (.const (I 0)) (I bo) (I 0)) fun a=>
 un (aO a true (I bA)) fun b=>
 aD pg X0 w0 a true (vS (aJ .eql 3 (.tmp 10) (.const (I 0)) b (I 0))) fun c=>
 ay pg X0 w0 (aR a c (B false)) fun d=>
 un (aO d true (.float .f64 bD)) fun e=>
 jn (fun (g:Value) (h:World) (i:XS)=>
 aD pg i h d true (vS (aJ .eql 196 (.tmp 17) (.const (aC bm 0)) g (aC bm 0))) fun j=>
 ay pg i h (aR d j (B false)) fun k=>
 un (aO k true (.float .f64 cg)) fun l=>
 jn (fun (m:Value) (n:World) (o:XS)=>
 aD pg o n k true (vS (aJ .eql 196 (.tmp 24) (.const (aC bm 0)) m (aC bm 0))) fun q=>
 ay pg o n (aR k q (B false)) fun r=>
 un (aO r true (.agg #[(I cy),(I cz),(I cA)])) fun s=>
 aD pg o n r true (vS (ez 35 #[(I 0),(I 0),(I 0)] #[])) fun t=>
 aD pg o n r true (vS (aJ .eql 35 (.tmp 29) (.tmp 30) s t)) fun v=>
 ay pg o n (aR r v (B false)) fun y=>
 un (aO y true (.agg #[(I cI),(I dB),(I dq)])) fun z=>
 aD pg o n y true (vS (ez 35 #[(I 0),(I 0),(I 0)] #[])) fun A=>
 aD pg o n y true (vS (aJ .eql 35 (.tmp 35) (.tmp 36) z A)) fun C=>
 ay pg o n (aR y C (B false)) fun D=>
 un (aO D true cj) fun E=>
 aD pg o n D true (vS (cK 43 3 E)) fun F=>
 aD pg o n D true (vS (aJ .eql 3 (.tmp 42) (.const (I 0)) F (I 0))) fun G=>
 ay pg o n (aR D G (B false)) fun H=>
 un (aO H true cd) fun L=>
 aD pg o n H true (vS (cK 44 3 L)) fun M=>
 aD pg o n H true (vS (aJ .eql 3 (.tmp 48) (.const (I 0)) M (I 0))) fun N=>
 ay pg o n (aR H N (B false)) fun O=>
 (fin R o n O)) fun Q=>
 (gE k true (eC pg R i h true 111 #[l] Q) (Q undef h i))) fun S=>
 (gE d true (eC pg R X0 w0 true 111 #[e] S) (S undef w0 X0)))
noncomputable def Qc:bG:=⟨11,[(3,(pg.cellsOf 35))],[],[0,1,4,5],[],[]⟩
def Ea (p0:Bool) (cZ dp du:Int):Prop:=
 ((ao (B p0)
 (eC pg R X0 w0 true 302 #[(.agg #[(I cZ),(I dp),(I du)])] fun a b c=>
 (fin R c b a))
 ((aa pg X0 w0 (ez 35 #[(I 0),(I 0),(I 0)] #[]) fun d=>
 aa pg X0 w0 (aJ .eql 35 (.tmp 8) (.tmp 9) (.agg #[(I cZ),(I dp),(I du)]) d) fun e=>
 (fin R X0 w0 e)))))
noncomputable def Rz:bG:=⟨13,[],[],[0,2,3,4,8],[],[]⟩
def FZ (p0:Nat):Prop:=
 (eC pg R X0 w0 true 348 #[(.float .f64 p0)] fun a b c=>
 aa pg c b (aJ .eql 3 (.tmp 6) (.const (I 4)) a (I 4)) fun d=>
 (ao d
 ((fin R c b (ax #[(.float .f64 0),(I 0)])))
 (eC pg R c b true 314 #[(.float .f64 p0)] fun e g h=>
 aa pg h g (bg bJ e) fun i=>
 (ao i
 ((fin R h g (ax #[(.float .f64 0),(I 1)])))
 ((((fin R h g (ax #[(.float .f64 p0),(I 0)])))))))))
noncomputable def RA:bG:=⟨9,[],[],[0,2],[5,6,7],[]⟩
def F9 (p0:Int):Prop:=
 (aa pg X0 w0 (binOp .geq 3 (I p0) (I 1)) fun a=>
 un (aO a true (I p0)) fun b=>
 aD pg X0 w0 a true (vS (binOp .leq 3 b (I 12))) fun c=>
 ay pg X0 w0 (aR a c (B false)) fun d=>
 (fin R X0 w0 d))
noncomputable def RC:bG:=⟨10,[(1,(pg.cellsOf 35))],[],[0,2],[5,6,7,8],[]⟩
def Ga (bo bA bD:Int):Prop:=
 (eC pg R X0 w0 true 165 #[(.agg #[(I bo),(I bA),(I bD)])] fun a b c=>
 un (aO a true (.agg #[(I bo),(I bA),(I bD)])) fun d=>
 aD pg c b a true (vS (ez 35 #[(I 0),(I 0),(I 0)] #[])) fun e=>
 aD pg c b a true (vS (aJ .neq 35 (.tmp 6) (.tmp 7) d e)) fun g=>
 ay pg c b (aR a g (B false)) fun h=>
 (fin R c b h))
def Is (p0:Value):Prop:=
 (aa pg X0 w0 (cK 54 3 p0) fun a=>
 (jw X0 w0 (I 0) 7 fun b c d e g=>
 aa pg g e (binOp .lss 3 d a) fun h=>
 (ao h
 ((aa pg g e (dD 54 4 p0 d) fun i=>
 aa pg g e (gy 74 4 i) fun j=>
 un (aF (ad j)) fun k=>
 bq (az (af (ad j))==4) (bq (aW (af (ad j)) one) ((bq (dO k) (un (cellOf k 0) fun l=>
 eC pg R g e true 312 #[l] fun m n o=>
 aa pg o n (bg bJ m) fun q=>
 un (aO q false d) fun r=>
 aD pg o n q false (vS (binOp .gtr 3 r (I 0))) fun s=>
 un (aO q false s) fun t=>
 un (aO t true p0) fun v=>
 un (aO t true d) fun y=>
 aD pg o n t true (vS (binOp .sub 3 y (I 1))) fun z=>
 aD pg o n t true (vS (dD 54 4 v z)) fun A=>
 aD pg o n t true (vS (aS 74 0 0 1 A)) fun C=>
 aD pg o n t true (vS (bb 9 C)) fun D=>
 un (aO t true l) fun E=>
 aD pg o n t true (vS (binOp .geq 9 D E)) fun F=>
 aD pg o n q false (aR t F (B false)) fun G=>
 ay pg o n (aR q (B true) G) fun H=>
 un (ef k 1 3) fun L=>
 un (aO H false L) fun M=>
 jn (fun (N:Value) (O:World) (Q:XS)=>
 aD pg Q O H false (vS (bg bJ N)) fun S=>
 ay pg Q O (aR H (B true) S) fun T=>
 un (cellOf k 1) fun U=>
 un (aO T false U) fun V=>
 aD pg Q O T false (vS (aJ .eql 3 (.tmp 40) (.const (I 0)) V (I 0))) fun Y=>
 ay pg Q O (aR T (B true) Y) fun Z=>
 (ao Z
 (fin R Q O (B false))
 (((aa pg Q O (binOp .add 3 d (I 1)) fun a0=>
 jx b c a0 O Q))))) fun b0=>
 (gE H false (eC pg R o n true 158 #[M] b0) (b0 undef n o))))))))
 (fin R g e (B true)))))
noncomputable def Xb:bG:=⟨8,[],[],[0,2,5],[],[]⟩
def KN (p0:Nat):Prop:=
 (aa pg X0 w0 (aJ .neq 40 (.tmp 3) (.tmp 4) (.float .f64 p0) (.float .f64 p0)) fun a=>
 (ao a
 (eC pg R X0 w0 true 346 #[(aC bm 9221120237041090560)] fun b c d=>
 (fin R d c b))
 (fin R X0 w0 (.float .f64 p0))))
noncomputable def YN:bG:=⟨13,[],[],[0,2,3,8],[],[]⟩
def MQ (p0:Nat):Prop:=
 (eC pg R X0 w0 true 225 #[(.float .f64 p0)] fun a b c=>
 (aa pg c b (binOp .and 196 a (aC bm 9223372036854775808)) fun d=>
 aa pg c b (aJ .neq 196 (.tmp 7) (.const (aC bm 0)) d (aC bm 0)) fun e=>
 (ao e
 (aa pg c b (bg tY a) fun g=>
 (fin R c b g))
 ((aa pg c b (binOp .or 196 a (aC bm 9223372036854775808)) fun h=>
 (fin R c b h))))))
noncomputable def Xc:bG:=⟨11,[],[],[0,2],[6,7,8,9],[]⟩
def KO (p0:ByteArray):Prop:=
 (aa pg X0 w0 (lJ 9 3 (.string p0)) fun a=>
 aa pg X0 w0 (binOp .geq 3 a (I 1)) fun b=>
 un (aO b true (.string p0)) fun c=>
 aD pg X0 w0 b true (vS (lJ 9 3 c)) fun d=>
 aD pg X0 w0 b true (vS (binOp .leq 3 d (I 24))) fun e=>
 ay pg X0 w0 (aR b e (B false)) fun g=>
 (fin R X0 w0 g))
def It (p0:Value):Prop:=
 (aa pg X0 w0 (cK 38 3 p0) fun a=>
 (jw X0 w0 (I 0) 7 fun b c d e g=>
 aa pg g e (binOp .lss 3 d a) fun h=>
 (ao h
 ((aa pg g e (dD 38 4 p0 d) fun i=>
 aa pg g e (gy 42 4 i) fun j=>
 un (aF (ad j)) fun k=>
 bq (az (af (ad j))==4) (bq (aW (af (ad j)) one) ((bq (dO k) (un (ef k 0 4) fun l=>
 eC pg R g e true 245 #[l] fun m n o=>
 aa pg o n (bg bJ m) fun q=>
 (ao q
 (fin R o n (B false))
 (((aa pg o n (binOp .add 3 d (I 1)) fun r=>
 jx b c r n o))))))))))
 (((aa pg g e (cK 38 3 p0) fun s=>
 aa pg g e (binOp .leq 3 s (I 12)) fun t=>
 (fin R g e t)))))))
noncomputable def RD:bG:=⟨10,[],[],[0,2],[6,7,8],[]⟩
def Gb (p0:Nat):Prop:=
 (eC pg R X0 w0 true 348 #[(.float .f64 p0)] fun a b c=>
 aa pg c b (binOp .geq 3 a (I 5)) fun d=>
 un (aO d true (.float .f64 p0)) fun e=>
 aD pg c b d true (vS (binOp .leq 40 e (.float .f64 4607182418800017408))) fun g=>
 ay pg c b (aR d g (B false)) fun h=>
 (fin R c b h))
def Nb:Prop:=
 (eV pg R X0 w0 true (Instr.makeMap 379 none) fun a b c=>
 eV pg R c b true (Instr.makeMap 380 none) fun d e g=>
 aa pg g e (ez 382 #[a,d,(I 0),(I 0),(I 0)] #[(0,a),(1,d)]) fun h=>
 eV pg R g e true (dx 382 h) fun i j k=>
 (fin R k j i))
noncomputable def Qd:bG:=⟨52,[(2,(pg.cellsOf 288)),(5,(pg.cellsOf 35)),(7,(pg.cellsOf 337))],[8,13,19,25,32,37,44,49],[0,1,4,23,26,27,28,29,48],[12,14,15,16,18,20,21,22,36,38,39,40,41,43,45,46,47],[5,28]⟩
def Eb (bo:ByteArray) (bA:Value) (p1:ByteArray):Prop:=
 (eC pg R X0 w0 true 312 #[(.string bo)] fun a b c=>
 aa pg c b (bg bJ a) fun d=>
 un (aO d false (.string bo)) fun e=>
 un (aO d false (.string p1)) fun g=>
 aD pg c b d false (vS (binOp .leq 9 e g)) fun h=>
 ay pg c b (aR d (B true) h) fun i=>
 un (aO i false bA) fun j=>
 aD pg c b i false (vS (cK 286 3 j)) fun k=>
 aD pg c b i false (vS (aJ .eql 3 (.tmp 21) (.const (I 0)) k (I 0))) fun l=>
 ay pg c b (aR i (B true) l) fun m=>
 (ao m
 (fin R c b (B false))
 ((aa pg c b (ez 35 #[(I 0),(I 0),(I 0)] #[]) fun n=>
 un (aF (ad n)) fun o=>
 bq (az (af (ad n))==3) (bq (aW (af (ad n)) one) ((aa pg c b (cK 286 3 bA) fun q=>
 (jA c b (I 0) o 28 5 fun r s t v y z=>
 aa pg z y (binOp .lss 3 t q) fun A=>
 (ao A
 ((aa pg z y (dD 286 6 bA t) fun C=>
 aa pg z y (gy 337 6 C) fun D=>
 un (aF (ad D)) fun E=>
 bq (az (af (ad D))==6) (bq (aW (af (ad D)) one) ((bq (dO E) (un (ef E 0 3) fun F=>
 eC pg R z y true 165 #[F] fun G H L=>
 aa pg L H (bg bJ G) fun M=>
 un (aO M false F) fun N=>
 bq (dO v) (un (ef v 0 3) fun O=>
 un (aO M false O) fun Q=>
 jn (fun (S:Value) (T:World) (U:XS)=>
 aD pg U T M false (vS (binOp .leq 3 S (I 0))) fun V=>
 ay pg U T (aR M (B true) V) fun Y=>
 un (ef E 3 3) fun Z=>
 un (aO Y false Z) fun a0=>
 jn (fun (b0:Value) (c0:World) (d0:XS)=>
 aD pg d0 c0 Y false (vS (bg bJ b0)) fun e0=>
 ay pg d0 c0 (aR Y (B true) e0) fun g0=>
 (ao g0
 (fin R d0 c0 (B false))
 ((bq (dO E) (bq (dO v) (un (aF (ad F)) fun h0=>
 bq (az (af (ad F))==3) (bq (aW (af (ad F)) one) (((aa pg d0 c0 (binOp .add 3 t (I 1)) fun i0=>
 jB r s i0 h0 c0 d0)))))))))) fun j0=>
 (gE Y false (eC pg R U T true 158 #[a0] j0) (j0 undef T U))) fun k0=>
 (gE M false (eC pg R L H true 53 #[N,Q] k0) (k0 undef H L)))))))))
 (fin R z y (B true)))))))))))
def lq (p0:Value):Prop:=
 (aa pg X0 w0 (aJ .eql 286 (.tmp 3) (.const (.slice none 0 0)) p0 (.slice none 0 0)) fun a=>
 (ao a
 (fin R X0 w0 (.slice none 0 0))
 (eV pg R X0 w0 true (gU 286 337 6 0 #[]) fun b c d=>
 eV pg R d c true (gH 286 337 6 56 286 b p0) fun e g h=>
 (fin R h g e))))
noncomputable def Hp:bG:=⟨50,[(3,(pg.cellsOf 229)),(6,(pg.cellsOf 229)),(8,(pg.cellsOf 53))],[20,28,32,34,39],[0,1,4,10,15,17,21,22,23,24,37,40,41,42,43,48],[31,33,35,36],[23,42]⟩
def yq (p0:Value) (_p1_0 _p1_1 _p1_2 _p1_3 _p1_4 _p1_5:Int) (kn ko:Value):Prop:=
 (ay pg X0 w0 (aE p0) fun a=>
 aa pg X0 w0 (aS 382 1 1 1 a) fun b=>
 aa pg X0 w0 (bb 380 b) fun c=>
 eV pg R X0 w0 true (Instr.range 380 c) fun d e g=>
 (jA g e undef undef 42 23 fun h i _ _ j k=>
 eV pg R k j true (Instr.next d false 0) fun l m n=>
 aa pg n m (aH l 0) fun o=>
 (ao o
 ((eV pg R n m true (Instr.entry d) fun q r s=>
 aa pg s r (aH q 1) fun t=>
 un (aF (ad t)) fun v=>
 bq (az (af (ad t))==8) (bq (aW (af (ad t)) one) ((aa pg s r (cK 23 3 ko) fun y=>
 (jw s r (I 0) 23 fun z A C D E=>
 aa pg E D (binOp .lss 3 C y) fun F=>
 (ao F
 ((aa pg E D (dD 23 4 ko C) fun G=>
 aa pg E D (gy 53 4 G) fun H=>
 un (aF (ad H)) fun L=>
 bq (az (af (ad H))==4) (bq (aW (af (ad H)) one) ((bq (dO v) (bq (dO L) (un (ef v 0 8) fun M=>
 un (cellOf L 0) fun N=>
 eC pg R E D true 350 #[M,N] fun O Q S=>
 un (cellOf v 6) fun T=>
 un (aO O false T) fun U=>
 un (aO O false N) fun V=>
 jn (fun (Y:Value) (Z:World) (a0:XS)=>
 ay pg a0 Z (aR O (B true) Y) fun b0=>
 (ao b0
 (fin R a0 Z (B true))
 (((aa pg a0 Z (binOp .add 3 C (I 1)) fun c0=>
 jx z A c0 Z a0))))) fun d0=>
 (gE O false (eC pg R S Q true 351 #[U,V] d0) (d0 undef Q S)))))))))
 (((aa pg E D (cK 36 3 kn) fun e0=>
 (jw E D (I 0) 42 fun g0 h0 i0 j0 k0=>
 aa pg k0 j0 (binOp .lss 3 i0 e0) fun l0=>
 (ao l0
 ((aa pg k0 j0 (dD 36 1 kn i0) fun m0=>
 aa pg k0 j0 (bb 9 m0) fun n0=>
 (bq (dO v) (un (ef v 0 8) fun o0=>
 eC pg R k0 j0 true 350 #[o0,n0] fun q0 r0 s0=>
 (ao q0
 (fin R s0 r0 (B true))
 (((aa pg s0 r0 (binOp .add 3 i0 (I 1)) fun t0=>
 jx g0 h0 t0 r0 s0))))))))
 (jB h i i0 C j0 k0)))))))))))))
 (fin R n m (B false)))))
noncomputable def Mc:bG:=⟨24,[(3,(pg.cellsOf 229)),(6,(pg.cellsOf 53))],[7,15,19],[0,1,4,8,9,10,11,22],[],[10]⟩
def BH (p0:Value) (_p1_0 _p1_1 _p1_2 iH jX jY:Int) (_p1_6 ko:Value):Prop:=
 (aa pg X0 w0 (cK 23 3 ko) fun a=>
 (jw X0 w0 (I 0) 10 fun b c d e g=>
 aa pg g e (binOp .lss 3 d a) fun h=>
 (ao h
 ((aa pg g e (dD 23 4 ko d) fun i=>
 aa pg g e (gy 53 4 i) fun j=>
 un (aF (ad j)) fun k=>
 bq (az (af (ad j))==4) (bq (aW (af (ad j)) one) ((bq (dO k) (un (cellOf k 0) fun l=>
 eC pg R g e false 352 #[p0,l] fun m n o=>
 aa pg o n (fdV 266 2 4 3 m) fun q=>
 eC pg R o n true 53 #[q,(.agg #[(I iH),(I jX),(I jY)])] fun r s t=>
 aa pg t s (binOp .geq 3 r (I 0)) fun v=>
 (ao v
 (fin R t s (B true))
 (((aa pg t s (binOp .add 3 d (I 1)) fun y=>
 jx b c y s t))))))))))
 (fin R g e (B false)))))
noncomputable def Tx:bG:=⟨12,[(1,(pg.cellsOf 229)),(2,(pg.cellsOf 229))],[3,6,7,10],[0],[],[]⟩
def Iu (bo bA bD cg cy cz:Int) (cA cI:Value):Prop:=
 (eC pg R X0 w0 true 353 #[cA] fun a b c=>
 bq (one a) ((eC pg R c b true 60 #[cI] fun d e g=>
 bq (one d) ((bq (aW [(I bo),(I bA),(I bD),(I cg),(I cy),(I cz),a,d] one) ((fin R g e (.agg #[(I bo),(I bA),(I bD),(I cg),(I cy),(I cz),a,d]))))))))
noncomputable def Ty:bG:=⟨37,[],[],[0,2,3,4,6,8,9,10,21,22,23],[],[3,9,22]⟩
def Iv (p0:ByteArray):Prop:=
 ((aa pg X0 w0 (lJ 9 3 (.string p0)) fun a=>
 (jA X0 w0 (I 0) (aC bm 14695981039346656037) 9 3 fun b c d e g h=>
 aa pg h g (binOp .lss 3 d a) fun i=>
 (ao i
 (((aa pg h g (Instr.index 9 (.string p0) d) fun j=>
 aa pg h g (kV bm 5 196 j) fun k=>
 aa pg h g (binOp .xor 196 e k) fun l=>
 (aa pg h g (binOp .mul 196 l (aC bm 1099511628211)) fun m=>
 ((aa pg h g (binOp .add 3 d (I 1)) fun n=>
 jB b c n m g h))))))
 (((aa pg h g (ez 409 #[(aC bm 18397679294719823053),(aC bm 14181476777654086739)] #[(0,(aC bm 18397679294719823053)),(1,(aC bm 14181476777654086739))]) fun o=>
 (jA h g (I 0) e 22 3 fun q r s t v y=>
 aa pg y v (binOp .lss 3 s (I 2)) fun z=>
 (ao z
 ((aa pg y v (xf 409 2 196 o s) fun A=>
 (aa pg y v (binOp .shr 196 t (aC bm 33)) fun C=>
 aa pg y v (binOp .xor 196 t C) fun D=>
 (aa pg y v (binOp .mul 196 D A) fun E=>
 ((aa pg y v (binOp .add 3 s (I 1)) fun F=>
 jB q r F E v y))))))
 (((aa pg y v (binOp .shr 196 t (aC bm 33)) fun G=>
 aa pg y v (binOp .xor 196 t G) fun H=>
 (fin R y v H)))))))))))))
def KP (p0:Value):Prop:=
 (aa pg X0 w0 (cK 36 3 p0) fun a=>
 (jw X0 w0 (I 0) 7 fun b c d e g=>
 aa pg g e (binOp .lss 3 d a) fun h=>
 (ao h
 ((aa pg g e (dD 36 1 p0 d) fun i=>
 aa pg g e (bb 9 i) fun j=>
 (eC pg R g e true 312 #[j] fun k l m=>
 aa pg m l (bg bJ k) fun n=>
 un (aO n false d) fun o=>
 aD pg m l n false (vS (binOp .gtr 3 o (I 0))) fun q=>
 un (aO n false q) fun r=>
 un (aO r true p0) fun s=>
 un (aO r true d) fun t=>
 aD pg m l r true (vS (binOp .sub 3 t (I 1))) fun v=>
 aD pg m l r true (vS (dD 36 1 s v)) fun y=>
 aD pg m l r true (vS (bb 9 y)) fun z=>
 un (aO r true j) fun A=>
 aD pg m l r true (vS (binOp .geq 9 z A)) fun C=>
 aD pg m l n false (aR r C (B false)) fun D=>
 ay pg m l (aR n (B true) D) fun E=>
 (ao E
 (fin R m l (B false))
 (((aa pg m l (binOp .add 3 d (I 1)) fun F=>
 jx b c F l m)))))))
 (((aa pg g e (cK 36 3 p0) fun G=>
 aa pg g e (binOp .leq 3 G (I 16)) fun H=>
 (fin R g e H)))))))
def BI (p0:Value):Prop:=
 ((aa pg X0 w0 (cK 23 3 p0) fun a=>
 (jA X0 w0 (I 0) (.slice none 0 0) 8 3 fun b c d e g h=>
 aa pg h g (binOp .lss 3 d a) fun i=>
 (ao i
 ((aa pg h g (dD 23 4 p0 d) fun j=>
 aa pg h g (gy 53 4 j) fun k=>
 un (aF (ad k)) fun l=>
 bq (az (af (ad k))==4) (bq (aW (af (ad k)) one) ((bq (dO l) (un (cellOf l 0) fun m=>
 eV pg R h g true (gU 36 9 1 1 #[(0,m)]) fun n o q=>
 eV pg R q o true (gH 36 9 1 16 36 e n) fun r s t=>
 ((aa pg t s (binOp .add 3 d (I 1)) fun v=>
 jB b c v r s t))))))))
 (fin R h g e)))))
noncomputable def Gc:bG:=⟨26,[],[],[0,1,4,5,6,7,12,20],[],[]⟩
def wU (p0:Value) (p1:Int):Prop:=
 (ay pg X0 w0 (aE p0) fun a=>
 aa pg X0 w0 (aS 223 2 2 1 a) fun b=>
 aa pg X0 w0 (bb 29 b) fun c=>
 aa pg X0 w0 (aJ .neq 29 (.tmp 11) (.const (I 0)) c (I 0)) fun d=>
 (ao d
 (fin R X0 w0 (I 0))
 ((eC pg R X0 w0 true 293 #[p0,(I p1),(I 4)] fun e g h=>
 aa pg h g (aH e 0) fun i=>
 aa pg h g (aH e 1) fun j=>
 aa pg h g (aH e 2) fun k=>
 ((jn (fun (l:World) (m:XS)=>
 (fin R m l i)) fun n=>
 (ao k
 (ay pg h g (aE p0) fun o=>
 aa pg h g (aS 223 1 1 1 o) fun q=>
 eU pg R h g true (dV 3 1 q j) fun _ r s=>
 (n r s))
 (n g h))))))))
noncomputable def Xd:bG:=⟨36,[],[],[0,2,3,4,5,6,14,21,24,27,32],[17,18,19],[]⟩
def KQ (p0:Nat):Prop:=
 (eC pg R X0 w0 true 225 #[(.float .f64 p0)] fun a b c=>
 (aa pg c b (binOp .shr 196 a (aC bm 52)) fun d=>
 aa pg c b (binOp .and 196 d (aC bm 2047)) fun e=>
 aa pg c b (binOp .and 196 a (aC bm 4503599627370495)) fun g=>
 (((jn (fun (h:Value)=>
 (aa pg c b (binOp .and 196 a (aC bm 9223372036854775808)) fun i=>
 aa pg c b (aJ .neq 196 (.tmp 31) (.const (aC bm 0)) i (aC bm 0)) fun j=>
 (ao j
 (aa pg c b (binOp .sub 3 (I 9) h) fun k=>
 (fin R c b k))
 (fin R c b h)))) fun l=>
 aa pg c b (aJ .eql 196 (.tmp 15) (.const (aC bm 2047)) e (aC bm 2047)) fun m=>
 un (aO m true g) fun n=>
 aD pg c b m true (vS (aJ .neq 196 (.tmp 18) (.const (aC bm 0)) n (aC bm 0))) fun o=>
 ay pg c b (aR m o (B false)) fun q=>
 (ao q
 (fin R c b (I 0))
 (aa pg c b (aJ .eql 196 (.tmp 22) (.const (aC bm 2047)) e (aC bm 2047)) fun r=>
 (ao r
 (l (I 8))
 (aa pg c b (binOp .gtr 196 e (aC bm 0)) fun s=>
 (ao s
 (l (I 7))
 (aa pg c b (binOp .gtr 196 g (aC bm 0)) fun t=>
 (ao t
 (l (I 6))
 (l (I 5))))))))))))))
noncomputable def RE:bG:=⟨9,[(2,(pg.cellsOf 229))],[5],[0,1,3,4],[],[]⟩
def Gd (_p0_0 _p0_1 _p0_2 _p0_3 _p0_4 _p0_5:Int) (_p0_6 cI:Value) (p1:ByteArray):Prop:=
 eV pg R X0 w0 true (dx 9 (.string p1)) fun a b c=>
 (aa pg c b (cx (fZ 370) #[] #[a]) fun d=>
 eC pg R c b true 369 #[cI,d] fun e g h=>
 (fin R h g e))
noncomputable def nC:bG:=⟨92,[(2,(pg.cellsOf 28)),(3,(pg.cellsOf 48)),(4,(pg.cellsOf 56)),(5,(pg.cellsOf 29))],[17,22,26,31,35,45,55,57,59,61,70,72,74,84],[0,1,7,12,30,52,68],[16,18,19,21,23,24,25,27,28,29,34,36,37,38,39,40,41,42,44,46,47,48,49,50,51],[]⟩
def qh (p0:Value) (cZ dp du iH jX jY kn ko pU nw lW lX ml mm lv:Int) (nR:Bool) (lu nS:Int) (nT nU mn nV nW nY:Value) (nZ ob:Int) (oc od:Nat) (oe Ec Ed Ee Ef Eg:Int) (Eh Ei:Value):Prop:=
 bq (one p0) ((ay pg X0 w0 (aE p0) fun a=>
 aa pg X0 w0 (aS 112 3 3 1 a) fun b=>
 aa pg X0 w0 (bb 4 b) fun c=>
 (ao c
 ((fin R X0 w0 (ax #[(.slice none 0 0),(I 12)])))
 ((eC pg R X0 w0 true 52 #[(.agg #[(I cZ),(I dp),(I du),(I iH),(I jX),(I jY),(I kn),(I ko),(I pU),(I nw),(I lW),(I lX),(I ml),(I mm),(I lv),(B nR),(I lu),(I nS),nT,nU,mn,nV,nW,nY,(I nZ),(I ob),(.float .f64 oc),(.float .f64 od),(I oe),(I Ec),(I Ed),(I Ee),(I Ef),(I Eg),Eh,Ei])] fun d e g=>
 aa pg g e (aJ .neq 29 (.tmp 14) (.const (I 0)) d (I 0)) fun h=>
 un (aO h false (I du)) fun i=>
 aD pg g e h false (vS (aJ .neq 3 (.tmp 18) (.const (I 32)) i (I 32))) fun j=>
 ay pg g e (aR h (B true) j) fun k=>
 un (aO k false (I cZ)) fun l=>
 aD pg g e k false (vS (aJ .neq 3 (.tmp 23) (.const (I 12)) l (I 12))) fun m=>
 un (aO k false m) fun n=>
 un (aO n true (I cZ)) fun o=>
 aD pg g e n true (vS (aJ .neq 3 (.tmp 27) (.const (I 13)) o (I 13))) fun q=>
 aD pg g e k false (aR n q (B false)) fun r=>
 ay pg g e (aR k (B true) r) fun s=>
 (ao s
 ((fin R g e (ax #[(.slice none 0 0),(I 0)])))
 (((jn (fun (t:World) (v:XS)=>
 ay pg v t (aE p0) fun y=>
 aa pg v t (aS 112 5 5 3 y) fun z=>
 aa pg v t (gy 35 3 z) fun A=>
 un (cellOf A 0) fun C=>
 un (cellOf A 1) fun D=>
 un (cellOf A 2) fun E=>
 aa pg v t (ez 48 #[(I 14),(I 32),(I dp),(I 0),(I 0),(I 0),(I 0),(I 0),(I 0),C,D,E,(I 0),(I 0),(I 0),(B false),(I 0),(I 0),(.slice none 0 0),(.slice none 0 0),(.slice none 0 0),(.slice none 0 0),(.slice none 0 0),(.slice none 0 0),(I 0),(I 0),(.float .f64 0),(.float .f64 0),(I 0),(I 0),(I 0),(I 0),(I 0),(I 0),(.slice none 0 0),(.slice none 0 0)] #[(0,(I 14)),(1,(I 32)),(2,(I dp)),(7,A)]) fun F=>
 eV pg R v t true (gU 56 48 36 1 #[(0,F)]) fun G H L=>
 bq (one G) ((fin R L H (ax #[G,(I 0)])))) fun M=>
 aa pg g e (aJ .eql 3 (.tmp 32) (.const (I 12)) (I cZ) (I 12)) fun N=>
 un (aO N true (.agg #[(I nw),(I lW),(I lX)])) fun O=>
 un (aO N true p0) fun Q=>
 aD pg g e N true (aE Q) fun S=>
 aD pg g e N true (vS (aS 112 5 5 3 S)) fun T=>
 aD pg g e N true (vS (gy 35 3 T)) fun U=>
 jn (fun (V:Value) (Y:World) (Z:XS)=>
 aD pg Z Y N true (vS (binOp .gtr 3 V (I 0))) fun a0=>
 ay pg Z Y (aR N a0 (B false)) fun b0=>
 un (aO b0 true (.agg #[(I ml),(I mm),(I lv)])) fun c0=>
 un (aO b0 true p0) fun d0=>
 aD pg Z Y b0 true (aE d0) fun e0=>
 aD pg Z Y b0 true (vS (aS 112 5 5 3 e0)) fun g0=>
 aD pg Z Y b0 true (vS (gy 35 3 g0)) fun h0=>
 aD pg Z Y b0 true (vS (aJ .eql 35 (.tmp 46) (.tmp 50) c0 h0)) fun i0=>
 ay pg Z Y (aR b0 i0 (B false)) fun j0=>
 (ao j0
 (aa pg Z Y (ez 117 #[(I 11),(I iH),(I jX),(I jY),(I nw),(I lW),(I lX),(I ml),(I mm),(I lv),(B false),(I 0),(.float .f64 0),(.slice none 0 0),mn,(.slice none 0 0),(.slice none 0 0),(I 0),(I 0),(.float .f64 0),(.float .f64 0),(I 0),(I 0),(I 0),(I 0),(I 0),(I 0),(.slice none 0 0),(.slice none 0 0)] #[(0,(I 11)),(3,(.agg #[(I ml),(I mm),(I lv)])),(2,(.agg #[(I nw),(I lW),(I lX)])),(1,(.agg #[(I iH),(I jX),(I jY)])),(8,mn)]) fun k0=>
 eC pg R Z Y true 54 #[p0,k0] fun l0 m0 n0=>
 aa pg n0 m0 (aH l0 0) fun _=>
 aa pg n0 m0 (aH l0 1) fun o0=>
 (aa pg n0 m0 (aJ .eql 29 (.tmp 67) (.const (I 0)) o0 (I 0)) fun q0=>
 (ao q0
 (eC pg R n0 m0 true 55 #[p0,(.agg #[(I iH),(I jX),(I jY)]),(.agg #[(I nw),(I lW),(I lX)]),mn] fun _ r0 s0=>
 (ay pg s0 r0 (aE p0) fun t0=>
 aa pg s0 r0 (aS 112 2 2 1 t0) fun v0=>
 aa pg s0 r0 (bb 3 v0) fun y0=>
 aa pg s0 r0 (binOp .add 3 y0 (I 1)) fun z0=>
 ay pg s0 r0 (aE p0) fun A0=>
 aa pg s0 r0 (aS 112 2 2 1 A0) fun C0=>
 eU pg R s0 r0 true (dV 3 1 C0 z0) fun _ D0 E0=>
 (M D0 E0)))
 (M m0 n0))))
 (M Y Z))) fun F0=>
 (gE N true (eC pg R g e true 53 #[O,U] F0) (F0 undef e g)))))))))))
noncomputable def nD:bG:=⟨52,[(1,(pg.cellsOf 28)),(2,(pg.cellsOf 29))],[],[0,3,5,10,40],[16,17,18,19,20,21,22,23,24,25],[]⟩
def uN (p0:Value):Prop:=
 bq (one p0) ((ay pg X0 w0 (aE p0) fun a=>
 aa pg X0 w0 (aS 112 3 3 1 a) fun b=>
 aa pg X0 w0 (bb 4 b) fun c=>
 (ao c
 (fin R X0 w0 (I 12))
 (ay pg X0 w0 (aE p0) fun d=>
 aa pg X0 w0 (aS 112 1 1 1 d) fun e=>
 aa pg X0 w0 (bb 3 e) fun g=>
 aa pg X0 w0 (aJ .eql 3 (.tmp 14) (.const (I 0)) g (I 0)) fun h=>
 un (aO h false p0) fun i=>
 aD pg X0 w0 h false (aE i) fun j=>
 aD pg X0 w0 h false (vS (aS 112 2 2 1 j)) fun k=>
 aD pg X0 w0 h false (vS (bb 3 k)) fun l=>
 aD pg X0 w0 h false (aE i) fun m=>
 aD pg X0 w0 h false (vS (aS 112 1 1 1 m)) fun n=>
 aD pg X0 w0 h false (vS (bb 3 n)) fun o=>
 aD pg X0 w0 h false (vS (binOp .lss 3 l o)) fun q=>
 ay pg X0 w0 (aR h (B true) q) fun r=>
 (ao r
 (fin R X0 w0 (I 0))
 (((ay pg X0 w0 (aE p0) fun s=>
 aa pg X0 w0 (aS 112 5 5 3 s) fun t=>
 aa pg X0 w0 (gy 35 3 t) fun v=>
 eC pg R X0 w0 false 14 #[p0] fun y z A=>
 un (cellOf v 0) fun C=>
 un (cellOf v 1) fun D=>
 un (cellOf v 2) fun E=>
 aa pg A z (ez 117 #[(I 12),(I 0),(I 0),(I 0),C,D,E,(I 0),(I 0),(I 0),(B false),(I 0),(.float .f64 0),(.slice none 0 0),(.slice none 0 0),(.slice none 0 0),y,(I 0),(I 0),(.float .f64 0),(.float .f64 0),(I 0),(I 0),(I 0),(I 0),(I 0),(I 0),(.slice none 0 0),(.slice none 0 0)] #[(0,(I 12)),(2,v),(10,y)]) fun F=>
 eC pg R A z true 54 #[p0,F] fun G H L=>
 aa pg L H (aH G 0) fun M=>
 aa pg L H (aH G 1) fun N=>
 bq (one N) (((jn (fun (O:World) (Q:XS)=>
 (fin R Q O (I 0))) fun S=>
 aa pg L H (aJ .eql 29 (.tmp 39) (.const (I 0)) N (I 0)) fun T=>
 (ao T
 (ay pg L H (aE p0) fun U=>
 aa pg L H (aS 112 2 2 1 U) fun V=>
 eU pg R L H true (dV 3 1 V (I 0)) fun _ Y Z=>
 (ay pg Z Y (aE p0) fun a0=>
 aa pg Z Y (aS 112 0 0 1 a0) fun b0=>
 aa pg Z Y (bb 107 b0) fun c0=>
 eC pg R Z Y true 58 #[c0,M] fun d0 e0 g0=>
 eC pg R g0 e0 true 57 #[p0,d0] fun _ h0 i0=>
 (S h0 i0)))
 (S H L)))))))))))))
noncomputable def RF:bG:=⟨43,[],[],[0,2,3,4,5,7,8,9,12,26,40],[35,36,37,38,39],[]⟩
def zm (p0:Value):Prop:=
 eV pg nP X0 w0 true (gZ 117 true (ax #[])) fun a b c=>
 eV pg nP c b true (gZ 29 true (ax #[])) fun d e g=>
 (aa pg g e (cx (fZ 87) #[] #[a,d]) fun h=>
 (aa pg g e (cK 95 3 p0) fun i=>
 aa pg g e (binOp .gtr 3 i (I 262144)) fun j=>
 (ao j
 (aa pg g e (ez 117 #[(I 0),(I 0),(I 0),(I 0),(I 0),(I 0),(I 0),(I 0),(I 0),(I 0),(B false),(I 0),(.float .f64 0),(.slice none 0 0),(.slice none 0 0),(.slice none 0 0),(.slice none 0 0),(I 0),(I 0),(.float .f64 0),(.float .f64 0),(I 0),(I 0),(I 0),(I 0),(I 0),(I 0),(.slice none 0 0),(.slice none 0 0)] #[]) fun k=>
 eU pg (dP pg Tryz.f45 R [a,d,h]) g e true (dV 117 29 a k) fun _ l m=>
 eU pg (dP pg Tryz.f45 R [a,d,h]) m l true (dV 29 1 d (I 4)) fun _ n o=>
 (fin (dP pg Tryz.f45 R [a,d,h]) o n (ax #[a,d,h])))
 ((eC pg (dP pg Tryz.f45 R [a,d,h]) g e true 88 #[p0] fun q r s=>
 (aa pg s r (ez 175 #[(.pointer none),q] #[(1,q)]) fun t=>
 eV pg (dP pg Tryz.f45 R [a,d,h]) s r true (dx 175 t) fun v y z=>
 eC pg (dP pg Tryz.f45 R [a,d,h]) z y true 89 #[v,a] fun _ A C=>
 (eC pg (dP pg Tryz.f45 R [a,d,h]) C A true 90 #[q] fun D E F=>
 aa pg F E (aH D 0) fun G=>
 aa pg F E (aH D 1) fun _=>
 (aa pg F E (aJ .neq 29 (.tmp 25) (.const (I 0)) G (I 0)) fun H=>
 (ao H
 (aa pg F E (ez 117 #[(I 0),(I 0),(I 0),(I 0),(I 0),(I 0),(I 0),(I 0),(I 0),(I 0),(B false),(I 0),(.float .f64 0),(.slice none 0 0),(.slice none 0 0),(.slice none 0 0),(.slice none 0 0),(I 0),(I 0),(.float .f64 0),(.float .f64 0),(I 0),(I 0),(I 0),(I 0),(I 0),(I 0),(.slice none 0 0),(.slice none 0 0)] #[]) fun L=>
 eU pg (dP pg Tryz.f45 R [a,d,h]) F E true (dV 117 29 a L) fun _ M N=>
 eU pg (dP pg Tryz.f45 R [a,d,h]) N M true (dV 29 1 d (I 4)) fun _ O Q=>
 (fin (dP pg Tryz.f45 R [a,d,h]) Q O (ax #[a,d,h])))
 ((aa pg F E (gy 117 29 a) fun S=>
 eC pg (dP pg Tryz.f45 R [a,d,h]) F E true 91 #[S] fun T U V=>
 aa pg V U (aH T 0) fun Y=>
 aa pg V U (aH T 1) fun Z=>
 (aa pg V U (aJ .neq 29 (.tmp 33) (.const (I 0)) Z (I 0)) fun a0=>
 un (aO a0 false Y) fun b0=>
 un (aO a0 false p0) fun c0=>
 jn (fun (d0:Value) (e0:World) (g0:XS)=>
 aD pg g0 e0 a0 false (vS (bg bJ d0)) fun h0=>
 ay pg g0 e0 (aR a0 (B true) h0) fun i0=>
 (ao i0
 (aa pg g0 e0 (ez 117 #[(I 0),(I 0),(I 0),(I 0),(I 0),(I 0),(I 0),(I 0),(I 0),(I 0),(B false),(I 0),(.float .f64 0),(.slice none 0 0),(.slice none 0 0),(.slice none 0 0),(.slice none 0 0),(I 0),(I 0),(.float .f64 0),(.float .f64 0),(I 0),(I 0),(I 0),(I 0),(I 0),(I 0),(.slice none 0 0),(.slice none 0 0)] #[]) fun j0=>
 eU pg (dP pg Tryz.f45 R [a,d,h]) g0 e0 true (dV 117 29 a j0) fun _ k0 l0=>
 eU pg (dP pg Tryz.f45 R [a,d,h]) l0 k0 true (dV 29 1 d (I 4)) fun _ m0 n0=>
 (fin (dP pg Tryz.f45 R [a,d,h]) n0 m0 (ax #[a,d,h])))
 ((aa pg g0 e0 (gy 117 29 a) fun o0=>
 eU pg (dP pg Tryz.f45 R [a,d,h]) g0 e0 true (dV 117 29 a o0) fun _ q0 r0=>
 eU pg (dP pg Tryz.f45 R [a,d,h]) r0 q0 true (dV 29 1 d (I 0)) fun _ s0 t0=>
 (fin (dP pg Tryz.f45 R [a,d,h]) t0 s0 (ax #[a,d,h])))))) fun v0=>
 (gE a0 false (eC pg (dP pg Tryz.f45 R [a,d,h]) V U true 92 #[b0,c0] v0) (v0 undef U V))))))))))))))
end
theorem cv {f:FuncId} {fn:Func} {args:Array Value} {w:World} {R:Ending→World→Prop} {V:Prop} (pl:bG) (hf:pg.funcs[f]? =some fn) (h:V)
 (hs:(decide (args.size≤pl.n)&&pl.boxes.all fun p=>decide (args.size≤p.1))=true:=by kernel_rfl) (hv:V=N7 pg (cF pg pl fn) R args w:=by kernel_rfl):Calls pg f args w R:=aL hf hs hv h
section
variable {R : Ending → World → Prop} {w0 : World} {p0 p1 p2 p3 p4 p5 p6 p7 p8 p9 p10 p11 : Value}
theorem EI {R:Ending→World→Prop} {w0:World} {p0 p1:Int} {p2:Value} (h:vm R w0 (ba w0) p0 p1 p2):Calls pg 6 #[(I p0),(I p1),p2] w0 R:=
 aL (pl:=EL) Tryz.func6 (by kernel_rfl) (by kernel_rfl) h
theorem JF (h:Ak R w0 (ba w0)):Calls pg 9 #[] w0 R:=cv ⟨94,[],[],[0,1,2,3,4,5,6,7,8,11,22],[19,20,21,39,40,41,43,44,45,46,48,49,50,51,52,53,55,56,57,58,59,60,61,63,64,65,66,68,69,70,71,72,73,74,76,77,78,79,81,82,83,84,85,86,88,89,90,91,92],[]⟩ Tryz.func9 h
theorem EC {R:Ending→World→Prop} {w0:World} {p0:Value} {p1:Int} (h:u0 R w0 (ba w0) p0 p1):Calls pg 10 #[p0,(I p1)] w0 R:=
 aL (pl:=EM) Tryz.func10 (by kernel_rfl) (by kernel_rfl) h
theorem YO (h:MX R w0 (ba w0)):Calls pg 11 #[] w0 R:=cv ⟨4,[],[],[0],[],[]⟩ Tryz.func11 h
theorem JB {R:Ending→World→Prop} {w0:World} {p0:Value} {p1 p2:Int} (h:Cr R w0 (ba w0) p0 p1 p2):Calls pg 12 #[p0,(I p1),(I p2)] w0 R:=
 aL (pl:=W1) Tryz.func12 (by kernel_rfl) (by kernel_rfl) h
theorem JC {R:Ending→World→Prop} {w0:World} {p0 p1:Int} {p2:ByteArray} (h:Ah R w0 (ba w0) p0 p1 p2):Calls pg 13 #[(I p0),(I p1),(.string p2)] w0 R:=
 aL (pl:=Ku) Tryz.func13 (by kernel_rfl) (by kernel_rfl) h
theorem Jo (h:zZ R w0 (ba w0) p0):Calls pg 14 #[p0] w0 R:=cv ⟨30,[],[],[0,2,3,5,11,12,13,14],[],[3,13]⟩ Tryz.func14 h
theorem Bg (h:uF R w0 (ba w0) p0):Calls pg 17 #[p0] w0 R:=cv ⟨7,[],[],[0,2],[],[]⟩ Tryz.func17 h
theorem Om (h:Db R w0 (ba w0) p0 p1):Calls pg 18 #[p0,p1] w0 R:=cv ⟨42,[],[],[0,1,4,5,10,14,41],[28,29,30,31,32,33,34,35,36,37,38,39,40],[5]⟩ Tryz.func18 h
theorem Bf (h:uE R w0 (ba w0) p0):Calls pg 19 #[p0] w0 R:=cv ⟨7,[(2,(pg.cellsOf 35))],[],[0],[],[]⟩ Tryz.func19 h
theorem LO (h:Bd R w0 (ba w0) p0):Calls pg 20 #[p0] w0 R:=cv ⟨9,[],[],[0,2],[],[]⟩ Tryz.func20 h
theorem NA (h:CD R w0 (ba w0) p0):Calls pg 22 #[p0] w0 R:=cv ⟨34,[],[],[0,2,3,4,16],[9,10,11,13,14,15,30,31,32],[3,4]⟩ Tryz.func22 h
theorem Fv {R:Ending→World→Prop} {w0:World} {p0:Value} {p1:Int} (h:wK R w0 (ba w0) p0 p1):Calls pg 23 #[p0,(I p1)] w0 R:=
 aL (pl:=FM) Tryz.func23 (by kernel_rfl) (by kernel_rfl) h
theorem JH {R:Ending→World→Prop} {w0:World} {p0:Value} {p1:Int} (h:Al R w0 (ba w0) p0 p1):Calls pg 24 #[p0,(I p1)] w0 R:=
 aL (pl:=Kv) Tryz.func24 (by kernel_rfl) (by kernel_rfl) h
theorem On {R:Ending→World→Prop} {w0:World} {bo:Int} {bA:Nat} {bD:ByteArray} {cZ:Int} {dp:Nat} {du:ByteArray} (h:Dc R w0 (ba w0) bo bA bD cZ dp du):Calls pg 25 #[(.agg #[(I bo),(.float .f64 bA),(.string bD)]),(.agg #[(I cZ),(.float .f64 dp),(.string du)])] w0 R:=
 aL (pl:=Oc) Tryz.func25 (by kernel_rfl) (by kernel_rfl) h
theorem JP (h:Aq R w0 (ba w0) p0 p1):Calls pg 28 #[p0,p1] w0 R:=cv ⟨100,[],[],[0,1,4,6,7,8,9,11,12,13,14,34,45],[39,40,41,42,43,44],[4,13]⟩ Tryz.func28 h
theorem NT {R:Ending→World→Prop} {w0:World} {bo bA bD cZ dp du:Int} (h:CU R w0 (ba w0) bo bA bD cZ dp du):Calls pg 29 #[(.agg #[(I bo),(I bA),(I bD)]),(.agg #[(I cZ),(I dp),(I du)])] w0 R:=
 aL (pl:=Od) Tryz.func29 (by kernel_rfl) (by kernel_rfl) h
theorem NV {R:Ending→World→Prop} {w0:World} {p0:Value} {cZ dp du:Int} (h:CW R w0 (ba w0) p0 cZ dp du):Calls pg 30 #[p0,(.agg #[(I cZ),(I dp),(I du)])] w0 R:=
 aL (pl:=Oe) Tryz.func30 (by kernel_rfl) (by kernel_rfl) h
theorem FH (h:wP R w0 (ba w0) p0):Calls pg 31 #[p0] w0 R:=cv ⟨19,[],[],[0,2,3,4,8],[],[3,4]⟩ Tryz.func31 h
theorem Oo {R:Ending→World→Prop} {w0:World} {p0:Value} {p1:Int} (h:Dd R w0 (ba w0) p0 p1):Calls pg 32 #[p0,(I p1)] w0 R:=
 aL (pl:=Of) Tryz.func32 (by kernel_rfl) (by kernel_rfl) h
theorem QN {R:Ending→World→Prop} {w0:World} {p0 p1 p2:Int} (h:Fq R w0 (ba w0) p0 p1 p2):Calls pg 40 #[(I p0),(I p1),(I p2)] w0 R:=
 aL (pl:=Rr) Tryz.func40 (by kernel_rfl) (by kernel_rfl) h
theorem MF {R:Ending→World→Prop} {w0:World} {p0:Value} {p1:ByteArray} {p2:Int} (h:Ew R w0 (ba w0) p0 p1 p2):Calls pg 41 #[p0,(.string p1),(I p2)] w0 R:=
 aL (pl:=YC) Tryz.func41 (by kernel_rfl) (by kernel_rfl) h
theorem Oq (h:De R w0 (ba w0) p0):Calls pg 42 #[p0] w0 R:=cv ⟨12,[],[],[0,2],[],[]⟩ Tryz.func42 h
theorem Qe (h:DW R w0 (ba w0) p0):Calls pg 43 #[p0] w0 R:=cv ⟨15,[],[],[0,2],[],[]⟩ Tryz.func43 h
theorem Pv {R:Ending→World→Prop} {w0:World} {p0:Value} {p1:Int} (h:DO R w0 (ba w0) p0 p1):Calls pg 44 #[p0,(I p1)] w0 R:=
 aL (pl:=P4) Tryz.func44 (by kernel_rfl) (by kernel_rfl) h
theorem LR {R:Ending→World→Prop} {w0:World} {p0:Value} {cZ dp du iH jX jY kn ko pU nw:Int} {lW:Bool} {lX:Int} {ml:Nat} {mm lv nR lu:Value} {nS nT:Int} {nU mn:Nat} {nV nW nY nZ ob oc:Int} {od oe:Value} {p2:Bool} (h:Bq R w0 (ba w0) p0 cZ dp du iH jX jY kn ko pU nw lW lX ml mm lv nR lu nS nT nU mn nV nW nY nZ ob oc od oe p2):Calls pg 46 #[p0,(.agg #[(I cZ),(I dp),(I du),(I iH),(I jX),(I jY),(I kn),(I ko),(I pU),(I nw),(B lW),(I lX),(.float .f64 ml),mm,lv,nR,lu,(I nS),(I nT),(.float .f64 nU),(.float .f64 mn),(I nV),(I nW),(I nY),(I nZ),(I ob),(I oc),od,oe]),(B p2)] w0 R:=
 aL (pl:=LV) Tryz.func46 (by kernel_rfl) (by kernel_rfl) h
end
end Go.Proofs.YtpdkoaklobnegaaGreat
