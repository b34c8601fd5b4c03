/-
 Part 5 of the proof: what the last text leans on.
-/
import Derived.Test.YtbpnemeooenpmaaGreatProg
import Derived.KernelRfl
import Derived.Test.YtbpnemeooenpmaaGreatH4
open Go.Value renaming cells → aa, tuple → aq, agg → ai, int → aA
open Array renaming toList → ad
open List renaming all → ao, length → aj, toArray → aO
open Go.Instr renaming mapUpdate → aP, extract → aD, makeFunc → cp, box → dN, lookup → dc, sliceAt → gf, makeMap → gd, makeInterface → jt
open Go.IntKind renaming u64 → bh, u8 → ei
open Go.Op renaming unary → aY
open Go.UnOp renaming not → br
open Go.Fn renaming func → e7
set_option linter.unusedVariables false
set_option linter.unusedSimpArgs false
namespace Go.Proofs.YtbpnemeooenpmaaGreat
open Go.Proofs.Tryz renaming prog → pg
open Go.aR
set_option maxRecDepth 100000
section
variable (R : Ending → World → Prop) (w0 : World) (X0 : XS)
noncomputable def XF:bp:=⟨79,[],[],[0,1,2,6,7,9,10,12,13,14,15,16,22,26,33,42,43,44,45,52,58,66,70,76],[29,30,31],[44]⟩
def LQ (p0:Value) (p1:ByteArray) (p2:Int):Prop:=
 (eC pg R X0 w0 true 67 #[(.string p1),(I 1)] fun a b c=>
 ae pg c b (aD a 0) fun _=>
 ae pg c b (aD a 1) fun d=>
 (ae pg c b (aE .neq 28 (.tmp 23) (.const (I 0)) d (I 0)) fun e=>
 (ay e
 ((fin R c b (aq #[(.pointer none),d])))
 (ae pg c b (binOp .lss 3 (I p2) (I 64)) fun g=>
 un (aU g false (I p2)) fun h=>
 aJ pg c b g false (vS (binOp .gtr 3 h (I 262144))) fun i=>
 aC pg c b (aQ g (B true) i) fun j=>
 (ay j
 ((fin R c b (aq #[(.pointer none),(I 1)])))
 (eC pg R c b true 68 #[p0] fun k l m=>
 (ay k
 ((fin R m l (aq #[(.pointer none),(I 12)])))
 (((ae pg m l (dw 170 #[p0,(.string p1),(I p2),(.slice none 0 0),(I 0)] #[(0,p0),(1,(.string p1)),(2,(I p2))]) fun n=>
 eV pg R m l true (dN 170 n) fun o q r=>
 (eC pg R r q true 69 #[p0] fun s t v=>
 ae pg v t (cB 31 3 s) fun y=>
 (gG v t (I 0) 44 fun z A C D E=>
 ae pg E D (binOp .lss 3 C y) fun F=>
 (ay F
 (((jn (fun (G:World) (H:XS)=>
 (ae pg H G (binOp .add 3 C (I 1)) fun L=>
 gz z A L G H)) fun M=>
 ae pg E D (dr 31 1 s C) fun N=>
 ae pg E D (ld1 9 N) fun O=>
 (eC pg R E D true 70 #[(.string p1),O] fun Q S T=>
 (ae pg T S (aE .eql 3 (.tmp 51) (.const (I 0)) Q (I 0)) fun U=>
 (ay U
 (M S T)
 ((eC pg R T S true 71 #[o,Q,O] fun V Y Z=>
 (ae pg Z Y (aE .neq 28 (.tmp 57) (.const (I 0)) V (I 0)) fun a0=>
 (ay a0
 ((fin R Z Y (aq #[(.pointer none),V])))
 (M Y Z)))))))))))
 (((aC pg E D (aF o) fun b0=>
 ae pg E D (aS 170 3 3 1 b0) fun c0=>
 ae pg E D (ld1 168 c0) fun d0=>
 ae pg E D (cB 168 3 d0) fun e0=>
 ae pg E D (aE .eql 3 (.tmp 65) (.const (I 0)) e0 (I 0)) fun g0=>
 (ay g0
 (eC pg R E D true 72 #[o,(I 1)] fun h0 i0 j0=>
 (ae pg j0 i0 (aE .neq 28 (.tmp 69) (.const (I 0)) h0 (I 0)) fun k0=>
 (ay k0
 ((fin R j0 i0 (aq #[(.pointer none),h0])))
 (((fin R j0 i0 (aq #[o,(I 0)])))))))
 ((eC pg R E D true 73 #[o] fun l0 m0 n0=>
 (ae pg n0 m0 (aE .neq 28 (.tmp 75) (.const (I 0)) l0 (I 0)) fun o0=>
 (ay o0
 ((fin R n0 m0 (aq #[(.pointer none),l0])))
 (((fin R n0 m0 (aq #[o,(I 0)])))))))))))))))))))))))))
def CC (p0:Value):Prop:=
 (aC pg X0 w0 (aF p0) fun a=>
 ae pg X0 w0 (aS 170 3 3 1 a) fun b=>
 ae pg X0 w0 (ld1 168 b) fun c=>
 ae pg X0 w0 (dr 168 1 c (I 0)) fun d=>
 ae pg X0 w0 (ld1 179 d) fun e=>
 aC pg X0 w0 (aF e) fun g=>
 ae pg X0 w0 (aS 178 0 0 1 g) fun h=>
 ae pg X0 w0 (ld1 3 h) fun i=>
 (fin R X0 w0 i))
def DK (p0:Value):Prop:=
 (eC pg R X0 w0 true 74 #[p0] fun a b c=>
 aC pg c b (aF a) fun d=>
 ae pg c b (aS 178 0 0 1 d) fun e=>
 ae pg c b (ld1 3 e) fun g=>
 eC pg R c b false 74 #[p0] fun h i j=>
 aC pg j i (aF h) fun k=>
 ae pg j i (aS 178 1 1 1 k) fun l=>
 ae pg j i (ld1 176 l) fun m=>
 ae pg j i (cB 176 3 m) fun n=>
 ae pg j i (binOp .add 3 g n) fun o=>
 (fin R j i o))
noncomputable def JY:bp:=⟨38,[(3,(pg.cellsOf 99))],[],[0,1,4,5,6,13,24,31],[],[]⟩
def zV (p0:Value) (dx bY dP iu iB jy iO jc mG mH:Int) (jD:Bool) (jE:Int) (lf:Nat) (lh lj kB lk:Value) (ln lp:Int) (lq lr:Nat) (lu jU lv lx ly lz:Int) (lA lB:Value):Prop:=
 (eC pg R X0 w0 true 80 #[(.agg #[(I dx),(I bY),(I dP),(I iu),(I iB),(I jy),(I iO),(I jc),(I mG),(I mH),(B jD),(I jE),(.float .f64 lf),lh,lj,kB,lk,(I ln),(I lp),(.float .f64 lq),(.float .f64 lr),(I lu),(I jU),(I lv),(I lx),(I ly),(I lz),lA,lB])] fun a b c=>
 ae pg c b (aD a 0) fun d=>
 ae pg c b (aD a 1) fun e=>
 ((jn (fun (g:Value) (h:World) (i:XS)=>
 (jn (fun (j:Value) (k:World) (l:XS)=>
 (jn (fun (m:World) (n:XS)=>
 (fin R n m j)) fun o=>
 ae pg l k (aE .eql 28 (.tmp 30) (.const (I 12)) j (I 12)) fun q=>
 (ay q
 (aC pg l k (aF p0) fun r=>
 ae pg l k (aS 93 4 4 1 r) fun s=>
 eU pg R l k true (st1 4 1 s (B true)) fun _ t v=>
 (ae pg v t (dw 200 #[] #[]) fun y=>
 ae pg v t (jt 200 y) fun z=>
 eV pg R v t true (Instr.panic z) fun _ A C=>
 (o A C)))
 (o k l)))) fun D=>
 ae pg i h (aE .eql 28 (.tmp 23) (.const (I 0)) g (I 0)) fun E=>
 (ay E
 (aC pg i h (aF p0) fun F=>
 ae pg i h (aS 93 3 3 1 F) fun G=>
 ae pg i h (ld1 85 G) fun H=>
 eC pg R i h true 84 #[H] fun L M N=>
 (D L M N))
 (D g h i)))) fun O=>
 ae pg c b (aE .eql 28 (.tmp 12) (.const (I 0)) e (I 0)) fun Q=>
 (ay Q
 (aC pg c b (aF p0) fun S=>
 ae pg c b (aS 93 3 3 1 S) fun T=>
 ae pg c b (ld1 85 T) fun U=>
 eC pg R c b true 83 #[U,d] fun V Y Z=>
 ae pg Z Y (aD V 0) fun _=>
 ae pg Z Y (aD V 1) fun a0=>
 (O a0 Y Z))
 (O e b c)))))
noncomputable def aaO:bp:=⟨22,[(3,(pg.cellsOf 30))],[18],[0,1,4,5,6,13],[9,10,11],[]⟩
def Of (p0 dx bY dP:Int):Prop:=
 (ae pg X0 w0 (binOp .lss 3 (I p0) (I 1)) fun a=>
 un (aU a false (I p0)) fun b=>
 aJ pg X0 w0 a false (vS (binOp .gtr 3 b (I 63))) fun c=>
 aC pg X0 w0 (aQ a (B true) c) fun d=>
 (ay d
 ((fin R X0 w0 (aq #[(.pointer none),(I 1)])))
 (eC pg R X0 w0 true 85 #[(.agg #[(I dx),(I bY),(I dP)])] fun e g h=>
 ae pg h g (aY br e) fun i=>
 (ay i
 ((fin R h g (aq #[(.pointer none),(I 17)])))
 ((((ae pg h g (dw 206 #[(I dx),(I bY),(I p0)] #[(0,(.agg #[(I dx),(I bY),(I p0)]))]) fun j=>
 eV pg R h g true (dN 206 j) fun k l m=>
 (fin R m l (aq #[k,(I 0)]))))))))))
def zO (p0:Value):Prop:=
 (aC pg X0 w0 (aF p0) fun a=>
 ae pg X0 w0 (aS 93 0 0 1 a) fun b=>
 ae pg X0 w0 (ld1 3 b) fun c=>
 ae pg X0 w0 (binOp .add 3 (I 20) c) fun d=>
 (fin R X0 w0 d))
def oq (p0:Value):Prop:=
 (ae pg X0 w0 (aE .eql 23 (.tmp 3) (.const (.slice none 0 0)) p0 (.slice none 0 0)) fun a=>
 (ay a
 (fin R X0 w0 (.slice none 0 0))
 (eV pg R X0 w0 true (fC 23 75 5 0 #[]) fun b c d=>
 eV pg R d c true (e6 23 75 5 56 23 b p0) fun e g h=>
 (fin R h g e))))
noncomputable def Ia:bp:=⟨47,[(9,(pg.cellsOf 30))],[],[0,1,2,6,7,8,10,17,29],[],[]⟩
def yH (p0:Value) (p1:Int) (p2:Value):Prop:=
 (aC pg X0 w0 (aF p2) fun a=>
 ae pg X0 w0 (aS 113 1 3 1 a) fun b=>
 ae pg X0 w0 (ld1 23 b) fun c=>
 eC pg R X0 w0 true 9 #[c] fun d e g=>
 (ae pg g e (aE .neq 28 (.tmp 16) (.const (I 0)) d (I 0)) fun h=>
 (ay h
 ((fin R g e (aq #[(.slice none 0 0),d])))
 ((aC pg g e (aF p0) fun i=>
 ae pg g e (aS 93 6 6 1 i) fun j=>
 ae pg g e (ld1 90 j) fun k=>
 eC pg R g e true 86 #[k,(I p1)] fun l m n=>
 ae pg n m (aD l 0) fun o=>
 ae pg n m (aD l 1) fun q=>
 un (ai (aa o)) fun r=>
 aB (aj (ad (aa o))==3) (aB (ao (ad (aa o)) aR.one) ((ae pg n m (aE .neq 28 (.tmp 28) (.const (I 0)) q (I 0)) fun s=>
 (ay s
 ((fin R n m (aq #[(.slice none 0 0),q])))
 ((aB (bH r) (aC pg n m (aF p2) fun t=>
 ae pg n m (aS 113 2 4 3 t) fun v=>
 un (cj r 0 3) fun y=>
 eU pg R n m true (st1 30 3 v y) fun _ z A=>
 (aC pg A z (aF p0) fun C=>
 ae pg A z (aS 93 5 5 1 C) fun D=>
 ae pg A z (ld1 82 D) fun E=>
 aC pg A z (aF p2) fun F=>
 ae pg A z (aS 113 1 3 1 F) fun G=>
 ae pg A z (ld1 23 G) fun H=>
 eC pg R A z false 10 #[H] fun L M N=>
 eC pg R N M true 87 #[E,L] fun O Q S=>
 ae pg S Q (aD O 0) fun T=>
 ae pg S Q (aD O 1) fun U=>
 (fin R S Q (aq #[T,U])))))))))))))))
noncomputable def Lp:bp:=⟨31,[(5,(pg.cellsOf 79))],[18],[0,1,2],[],[]⟩
def AR (p0 p1:Value) (gR gM iG oW oX oY oZ:Int) (o9:Bool) (pa:Value):Prop:=
 (aC pg X0 w0 (aF p0) fun a=>
 ae pg X0 w0 (aS 93 7 7 1 a) fun b=>
 ae pg X0 w0 (ld1 88 b) fun c=>
 aC pg X0 w0 (aF p1) fun d=>
 ae pg X0 w0 (aS 113 0 0 3 d) fun e=>
 ae pg X0 w0 (dY 27 3 e) fun g=>
 eV pg R X0 w0 true (Builtin.delete_ #[88,27] 0 #[c,g]) fun _ h i=>
 (aC pg i h (aF p1) fun j=>
 ae pg i h (aS 113 0 0 3 j) fun k=>
 ae pg i h (dY 27 3 k) fun l=>
 un (ai (aO (cV [(I gR),(I gM),(I iG),(I oW),(I oX),(I oY),(I oZ),(B o9),pa] 1 (ad (aa l))))) fun m=>
 aB (aj (ad (aa l))==3) (aB (ao (ad (aa l)) aR.one) ((aC pg i h (aF p0) fun n=>
 ae pg i h (aS 93 10 10 2 n) fun o=>
 ae pg i h (aS 56 1 1 1 o) fun q=>
 ae pg i h (ld1 54 q) fun r=>
 aB (bH m) (un (cj m 0 9) fun s=>
 eV pg R i h false (fC 54 79 9 1 #[(0,s)]) fun t v y=>
 eV pg R y v true (e6 54 79 9 88 54 r t) fun z A C=>
 aC pg C A (aF p0) fun D=>
 ae pg C A (aS 93 10 10 2 D) fun E=>
 ae pg C A (aS 56 1 1 1 E) fun F=>
 eU pg R C A true (st1 54 1 F z) fun _ G H=>
 fin R H G (aq #[])))))))
def zR (p0:Value):Prop:=
 (aC pg X0 w0 (aF p0) fun a=>
 ae pg X0 w0 (aS 93 10 10 2 a) fun b=>
 ae pg X0 w0 (dY 56 2 b) fun c=>
 un (ai (aa c)) fun d=>
 aB (aj (ad (aa c))==2) (aB (ao (ad (aa c)) aR.one) ((ae pg X0 w0 (dw 56 #[(.slice none 0 0),(.slice none 0 0)] #[]) fun e=>
 aC pg X0 w0 (aF p0) fun g=>
 ae pg X0 w0 (aS 93 10 10 2 g) fun h=>
 eU pg R X0 w0 true (st1 56 2 h e) fun _ i j=>
 (aB (bH d) (un (cj d 0 2) fun k=>
 un (ai (aa k)) fun l=>
 aB (aj (ad (aa k))==2) (aB (ao (ad (aa k)) aR.one) (un (cj l 0 2) fun m=>
 aB (ao [l] bH) (fin R j i m)))))))))
noncomputable def Lq:bp:=⟨30,[(5,(pg.cellsOf 44))],[14,15],[0,1,2],[],[]⟩
def AQ (p0 p1:Value) (gR gM iG oW oX oY oZ o9 pa tP pA pB pC pD pE:Int) (pF:Bool) (pG pH:Int) (pI pJ pK pL pM pN:Value) (pO pP:Int) (pQ pR:Nat) (pS pT pU pV pW pX:Int) (pY pZ:Value):Prop:=
 (aC pg X0 w0 (aF p1) fun a=>
 ae pg X0 w0 (aS 113 0 0 3 a) fun b=>
 ae pg X0 w0 (dY 27 3 b) fun c=>
 aC pg X0 w0 (aF p1) fun d=>
 ae pg X0 w0 (aS 113 2 4 3 d) fun e=>
 ae pg X0 w0 (dY 30 3 e) fun g=>
 un (ai (aO (cV [(I gR),(I gM),(I iG),(I oW),(I oX),(I oY),(I oZ),(I o9),(I pa),(I tP),(I pA),(I pB),(I pC),(I pD),(I pE),(B pF),(I pG),(I pH),pI,pJ,pK,pL,pM,pN,(I pO),(I pP),(.float .f64 pQ),(.float .f64 pR),(I pS),(I pT),(I pU),(I pV),(I pW),(I pX),pY,pZ] 3 (ad (aa c))))) fun h=>
 aB (aj (ad (aa c))==3) (aB (ao (ad (aa c)) aR.one) (un (ai (aO (cV (ad (aa h)) 9 (ad (aa g))))) fun i=>
 aB (aj (ad (aa g))==3) (aB (ao (ad (aa g)) aR.one) ((aC pg X0 w0 (aF p1) fun j=>
 ae pg X0 w0 (aS 113 6 10 1 j) fun k=>
 ae pg X0 w0 (ld1 53 k) fun l=>
 aB (bH i) (un (cj i 0 36) fun m=>
 eV pg R X0 w0 false (fC 53 44 36 1 #[(0,m)]) fun n o q=>
 eV pg R q o true (e6 53 44 36 416 53 l n) fun r s t=>
 aC pg t s (aF p1) fun v=>
 ae pg t s (aS 113 6 10 1 v) fun y=>
 eU pg R t s true (st1 53 1 y r) fun _ z A=>
 (aB (bH i) (eC pg R A z true 89 #[m] fun C D E=>
 eC pg R E D true 88 #[p0,C] fun _ F G=>
 fin R G F (aq #[]))))))))))
def AT (p0 p1:Value):Prop:=
 aC pg X0 w0 (aF p1) fun a=>
 ae pg X0 w0 (aS 113 1 3 1 a) fun b=>
 ae pg X0 w0 (ld1 23 b) fun c=>
 aC pg X0 w0 (aF p1) fun d=>
 ae pg X0 w0 (aS 113 4 8 1 d) fun e=>
 ae pg X0 w0 (ld1 32 e) fun g=>
 eC pg R X0 w0 true 13 #[c,g] fun h i j=>
 ae pg j i (aD h 0) fun k=>
 ae pg j i (aD h 1) fun l=>
 (ae pg j i (aE .neq 28 (.tmp 31) (.const (I 0)) l (I 0)) fun m=>
 (ay m
 (eC pg R j i true 90 #[p0,p1,l] fun _ n o=>
 (fin R o n (aq #[])))
 ((ae pg j i (cB 33 3 k) fun q=>
 ae pg j i (aE .eql 3 (.tmp 38) (.const (I 0)) q (I 0)) fun r=>
 (ay r
 (aC pg j i (aF p1) fun s=>
 ae pg j i (aS 113 2 4 3 s) fun t=>
 ae pg j i (dY 30 3 t) fun v=>
 eC pg R j i false 91 #[p1] fun y z A=>
 un (cellOf v 0) fun C=>
 un (cellOf v 1) fun D=>
 un (cellOf v 2) fun E=>
 ae pg A z (dw 79 #[(I 0),(I 0),(I 0),(I 0),C,D,E,(B true),y] #[(2,v),(3,(B true)),(4,y)]) fun F=>
 eC pg R A z true 34 #[p0,p1,F] fun _ G H=>
 (fin R H G (aq #[])))
 ((aC pg j i (aF p1) fun L=>
 ae pg j i (aS 113 1 3 1 L) fun M=>
 ae pg j i (ld1 23 M) fun N=>
 eC pg R j i true 10 #[N] fun O Q S=>
 (ae pg S Q (cB 33 3 k) fun T=>
 (gS S Q (I 0) O 57 6 fun U V Y Z a0 b0=>
 ae pg b0 a0 (binOp .lss 3 Y T) fun c0=>
 (ay c0
 ((ae pg b0 a0 (dr 33 4 k Y) fun d0=>
 ae pg b0 a0 (dY 64 4 d0) fun e0=>
 un (ai (aa e0)) fun g0=>
 aB (aj (ad (aa e0))==4) (aB (ao (ad (aa e0)) aR.one) ((aB (bH g0) (un (cellOf g0 0) fun h0=>
 eV pg R b0 a0 true (fC 31 9 1 1 #[(0,h0)]) fun i0 j0 k0=>
 eV pg R k0 j0 true (e6 31 9 1 16 31 Z i0) fun l0 m0 n0=>
 ((ae pg n0 m0 (binOp .add 3 Y (I 1)) fun o0=>
 gP U V o0 l0 m0 n0))))))))
 (((eC pg R b0 a0 true 92 #[Z] fun _ q0 r0=>
 (aC pg r0 q0 (aF p0) fun s0=>
 ae pg r0 q0 (aS 93 5 5 1 s0) fun t0=>
 ae pg r0 q0 (ld1 82 t0) fun v0=>
 eC pg R r0 q0 true 87 #[v0,Z] fun y0 z0 A0=>
 ae pg A0 z0 (aD y0 0) fun C0=>
 ae pg A0 z0 (aD y0 1) fun D0=>
 (ae pg A0 z0 (aE .neq 28 (.tmp 78) (.const (I 0)) D0 (I 0)) fun E0=>
 (ay E0
 (eC pg R A0 z0 true 90 #[p0,p1,D0] fun _ F0 G0=>
 (fin R G0 F0 (aq #[])))
 ((aC pg A0 z0 (aF p1) fun H0=>
 ae pg A0 z0 (aS 113 5 9 1 H0) fun L0=>
 eU pg R A0 z0 true (st1 4 1 L0 (B true)) fun _ M0 N0=>
 (ae pg N0 M0 (cB 114 3 C0) fun O0=>
 (gG N0 M0 (I 0) 89 fun Q0 S0 T0 U0 V0=>
 ae pg V0 U0 (binOp .lss 3 T0 O0) fun Y0=>
 (ay Y0
 ((ae pg V0 U0 (dr 114 5 C0 T0) fun Z0=>
 ae pg V0 U0 (dY 120 5 Z0) fun a1=>
 un (ai (aa a1)) fun b1=>
 aB (aj (ad (aa a1))==5) (aB (ao (ad (aa a1)) aR.one) ((aC pg V0 U0 (aF p1) fun c1=>
 ae pg V0 U0 (aS 113 7 11 1 c1) fun d1=>
 ae pg V0 U0 (ld1 34 d1) fun e1=>
 aB (bH b1) (un (cellOf b1 0) fun g1=>
 eV pg R V0 U0 false (fC 34 3 1 1 #[(0,g1)]) fun h1 i1 j1=>
 eV pg R j1 i1 true (e6 34 3 1 8 34 e1 h1) fun k1 l1 m1=>
 aC pg m1 l1 (aF p1) fun n1=>
 ae pg m1 l1 (aS 113 7 11 1 n1) fun o1=>
 eU pg R m1 l1 true (st1 34 1 o1 k1) fun _ q1 r1=>
 ((ae pg r1 q1 (binOp .add 3 T0 (I 1)) fun s1=>
 gz Q0 S0 s1 q1 r1))))))))
 (((ae pg V0 U0 (cB 114 3 C0) fun t1=>
 (uL V0 U0 (I 0) undef undef undef 108 144 126 14 fun v1 y1 z1 _ _ _ A1 C1=>
 ae pg C1 A1 (binOp .lss 3 z1 t1) fun D1=>
 (ay D1
 ((ae pg C1 A1 (dr 114 5 C0 z1) fun E1=>
 ae pg C1 A1 (dY 120 5 E1) fun F1=>
 un (ai (aa F1)) fun G1=>
 aB (aj (ad (aa F1))==5) (aB (ao (ad (aa F1)) aR.one) ((aB (bH G1) (aC pg C1 A1 (aF p1) fun H1=>
 ae pg C1 A1 (aS 113 7 11 1 H1) fun L1=>
 ae pg C1 A1 (ld1 34 L1) fun M1=>
 un (cellOf G1 0) fun N1=>
 un (cellOf G1 1) fun O1=>
 ae pg C1 A1 (dw 44 #[(I 3),(I 0),(I 0),(I 0),(I 0),(I 0),N1,O1,(I 0),(I 0),(I 0),(I 0),(I 0),(I 0),(I 0),(B false),(I 0),(I 0),(.slice none 0 0),(.slice none 0 0),(.slice none 0 0),M1,(.slice none 0 0),(.slice none 0 0),(I 0),(I 0),(.float .f64 0),(.float .f64 0),(I 0),(I 0),(I 0),(I 0),(I 0),(I 0),(.slice none 0 0),(.slice none 0 0)] #[(0,(I 3)),(4,N1),(5,O1),(15,M1)]) fun Q1=>
 un (ai (aa Q1)) fun S1=>
 aB (aj (ad (aa Q1))==36) (aB (ao (ad (aa Q1)) aR.one) ((eC pg R C1 A1 true 91 #[p1] fun T1 U1 V1=>
 ae pg V1 U1 (cB 32 3 T1) fun Y1=>
 (gS V1 U1 (I 0) S1 126 14 fun Z1 a2 b2 c2 d2 e2=>
 ae pg e2 d2 (binOp .lss 3 b2 Y1) fun g2=>
 (ay g2
 (((jn (fun (h2:Value) (i2:World) (j2:XS)=>
 (ae pg j2 i2 (binOp .add 3 b2 (I 1)) fun k2=>
 gP Z1 a2 k2 h2 i2 j2)) fun l2=>
 ae pg e2 d2 (dr 32 7 T1 b2) fun m2=>
 ae pg e2 d2 (dY 215 7 m2) fun n2=>
 un (ai (aa n2)) fun o2=>
 aB (aj (ad (aa n2))==7) (aB (ao (ad (aa n2)) aR.one) ((aB (bH G1) (aB (bH o2) (un (cellOf G1 4) fun q2=>
 un (cellOf o2 0) fun r2=>
 eC pg R e2 d2 true 93 #[q2,r2] fun s2 t2 v2=>
 (ay s2
 (aB (bH c2) (aB (bH o2) (un (cj o2 0 7) fun y2=>
 eV pg R v2 t2 true (fC 32 215 7 1 #[(0,y2)]) fun z2 A2 C2=>
 un (cellOf c2 19) fun D2=>
 eV pg R C2 A2 true (e6 32 215 7 72 32 D2 z2) fun E2 F2 G2=>
 un (ai (aO (cV (ad (aa c2)) 19 [E2]))) fun H2=>
 aB (aR.one E2) (l2 H2 F2 G2))))
 (l2 c2 t2 v2))))))))))
 (((ae pg e2 d2 (cB 33 3 k) fun L2=>
 (gS e2 d2 (I 0) c2 144 14 fun M2 N2 O2 Q2 S2 T2=>
 ae pg T2 S2 (binOp .lss 3 O2 L2) fun U2=>
 (ay U2
 (((jn (fun (V2:Value) (Y2:World) (Z2:XS)=>
 (ae pg Z2 Y2 (binOp .add 3 O2 (I 1)) fun a3=>
 gP M2 N2 a3 V2 Y2 Z2)) fun b3=>
 ae pg T2 S2 (dr 33 4 k O2) fun c3=>
 ae pg T2 S2 (dY 64 4 c3) fun d3=>
 un (ai (aa d3)) fun e3=>
 aB (aj (ad (aa d3))==4) (aB (ao (ad (aa d3)) aR.one) ((aB (bH G1) (aB (bH e3) (un (cellOf G1 4) fun g3=>
 un (cellOf e3 0) fun h3=>
 eC pg R T2 S2 true 93 #[g3,h3] fun i3 j3 k3=>
 (ay i3
 (aB (bH Q2) (aB (bH e3) (un (cj e3 0 4) fun l3=>
 eV pg R k3 j3 true (fC 33 64 4 1 #[(0,l3)]) fun m3 n3 o3=>
 un (cellOf Q2 20) fun q3=>
 eV pg R o3 n3 true (e6 33 64 4 48 33 q3 m3) fun r3 s3 t3=>
 un (ai (aO (cV (ad (aa Q2)) 20 [r3]))) fun v3=>
 aB (aR.one r3) (b3 v3 s3 t3))))
 (b3 Q2 j3 k3))))))))))
 (((aB (bH Q2) (un (cj Q2 0 36) fun y3=>
 eC pg R T2 S2 true 36 #[p0,p1,y3] fun _ z3 A3=>
 ((ae pg A3 z3 (binOp .add 3 z1 (I 1)) fun C3=>
 uM v1 y1 C3 O2 b2 Q2 z3 A3))))))))))))))))))))))
 (fin R C1 A1 (aq #[]))))))))))))))))))))))))))))
noncomputable def aaP:bp:=⟨14,[(2,(pg.cellsOf 124))],[],[0,3,9],[6,7,8],[]⟩
def F9 (p0:Int):Prop:=
 (ae pg X0 w0 (binOp .lss 3 (I p0) (I 1)) fun a=>
 un (aU a false (I p0)) fun b=>
 aJ pg X0 w0 a false (vS (binOp .gtr 3 b (I 15))) fun c=>
 aC pg X0 w0 (aQ a (B true) c) fun d=>
 (ay d
 (ae pg X0 w0 (dw 124 #[(.string ⟨#[]⟩),(I 0),(I 0),(I 0)] #[]) fun e=>
 un (ai (aa e)) fun g=>
 aB (aj (ad (aa e))==4) (aB (ao (ad (aa e)) aR.one) ((un (cj g 0 4) fun h=>
 aB (ao [g] bH) (fin R X0 w0 (aq #[h,(B false)]))))))
 ((eC pg R X0 w0 true 94 #[] fun i j k=>
 ae pg k j (sP 217 16 124 i (I p0)) fun l=>
 un (ai (aa l)) fun m=>
 aB (aj (ad (aa l))==4) (aB (ao (ad (aa l)) aR.one) ((un (cj m 0 4) fun n=>
 aB (ao [m] bH) (fin R k j (aq #[n,(B true)])))))))))
noncomputable def VS:bp:=⟨44,[(2,(pg.cellsOf 75))],[8,17,24,27,28,32,33,38,39],[0,1,4,21,23],[7,9,10,11,13,14,15,16,18,19,20,31,34,35,37,40,41,42],[]⟩
def IN (_p0_0:Int) (bo:ByteArray) (bu:Int) (bO:Nat) (bZ:ByteArray) (p1:Int):Prop:=
 (ae pg X0 w0 (aE .eql 3 (.tmp 5) (.const (I 1)) (I p1) (I 1)) fun a=>
 un (aU a true (.string bo)) fun b=>
 jn (fun (c:Value) (d:World) (e:XS)=>
 aJ pg e d a true (vS (aY br c)) fun g=>
 aC pg e d (aQ a g (B false)) fun h=>
 un (aU h false (I p1)) fun i=>
 aJ pg e d h false (vS (aE .neq 3 (.tmp 14) (.const (I 1)) i (I 1))) fun j=>
 un (aU h false j) fun k=>
 un (aU k true (.string bo)) fun l=>
 aJ pg e d k true (vS (aE .neq 9 (.tmp 18) (.const (.string { data:= #[] })) l (.string { data:= #[] }))) fun m=>
 aJ pg e d h false (aQ k m (B false)) fun n=>
 aC pg e d (aQ h (B true) n) fun o=>
 (ay o
 (fin R e d (B false))
 ((ae pg e d (aE .eql 3 (.tmp 22) (.const (I 2)) (I p1) (I 2)) fun q=>
 (ay q
 (eC pg R e d true 96 #[(.agg #[(I bu),(.float .f64 bO),(.string bZ)])] fun r s t=>
 (fin R t s r))
 ((ae pg e d (aE .eql 3 (.tmp 29) (.const (I 0)) (I bu) (I 0)) fun v=>
 un (aU v true (.string bZ)) fun y=>
 aJ pg e d v true (vS (aE .eql 9 (.tmp 34) (.const (.string { data:= #[] })) y (.string { data:= #[] }))) fun z=>
 aC pg e d (aQ v z (B false)) fun A=>
 un (aU A true (.float .f64 bO)) fun C=>
 jn (fun (D:Value) (E:World) (F:XS)=>
 aJ pg F E A true (vS (aE .eql 130 (.tmp 41) (.const (aA bh 0)) D (aA bh 0))) fun G=>
 aC pg F E (aQ A G (B false)) fun H=>
 (fin R F E H)) fun L=>
 (gE A true (eC pg R e d true 97 #[C] L) (L undef d e))))))))) fun M=>
 (gE a true (eC pg R X0 w0 true 95 #[b] M) (M undef w0 X0)))
def Hs (p0:Value):Prop:=
 (eC pg R X0 w0 true 41 #[p0,(I 2),(I 3)] fun a b c=>
 (fin R c b a))
noncomputable def SU:bp:=⟨41,[(9,(pg.cellsOf 75))],[17,22,28,33],[0,1,2,6,7,11,12,13,14,31],[21,23,24,25,27,29,30],[13]⟩
def Hq (p0:Value) (p1 p2:Int):Prop:=
 (eV pg R X0 w0 true (gd 222 none) fun a b c=>
 (ae pg c b (cB 23 3 p0) fun d=>
 (gG c b (I 0) 13 fun e g h i j=>
 ae pg j i (binOp .lss 3 h d) fun k=>
 (ay k
 (((jn (fun (l:World) (m:XS)=>
 (ae pg m l (binOp .add 3 h (I 1)) fun n=>
 gz e g n l m)) fun o=>
 ae pg j i (dr 23 5 p0 h) fun q=>
 ae pg j i (dY 75 5 q) fun r=>
 un (ai (aa r)) fun s=>
 aB (aj (ad (aa r))==5) (aB (ao (ad (aa r)) aR.one) ((aB (bH s) (un (cellOf s 0) fun t=>
 ae pg j i (aE .eql 3 (.tmp 18) (.tmp 19) t (I p1)) fun v=>
 un (aU v false t) fun y=>
 un (aU v false (I p2)) fun z=>
 aJ pg j i v false (vS (aE .eql 3 (.tmp 23) (.tmp 24) y z)) fun A=>
 aC pg j i (aQ v (B true) A) fun C=>
 un (cellOf s 1) fun D=>
 un (aU C true D) fun E=>
 jn (fun (F:Value) (G:World) (H:XS)=>
 aC pg H G (aQ C F (B false)) fun L=>
 (ay L
 (aB (bH s) (ae pg H G (dc 222 a D false) fun M=>
 ae pg H G (binOp .add 3 M (I 1)) fun N=>
 eU pg R H G true (aP 222 a D N) fun _ O Q=>
 (o O Q)))
 (o G H))) fun S=>
 (gE C true (eC pg R j i true 95 #[E] S) (S undef i j)))))))))
 (eC pg R j i true 98 #[a] fun T U V=>
 eC pg R V U true 47 #[T] fun Y Z a0=>
 (fin R a0 Z Y))))))
noncomputable def XG:bp:=⟨15,[(2,(pg.cellsOf 38))],[6,11],[0,1,4],[9,10,12,13],[]⟩
def Ms (_p0_0 _p0_1:Int) (bu bO p1:Nat):Prop:=
 (ae pg X0 w0 (binOp .geq 36 (.float .f64 p1) (.float .f64 bu)) fun a=>
 un (aU a true (.float .f64 p1)) fun b=>
 un (aU a true (.float .f64 bO)) fun c=>
 aJ pg X0 w0 a true (vS (binOp .lss 36 b c)) fun d=>
 aC pg X0 w0 (aQ a d (B false)) fun e=>
 (fin R X0 w0 e))
noncomputable def SV:bp:=⟨37,[],[],[0,2,3,4,6,8,9,10,21,22,23],[],[3,9,22]⟩
def HI (p0:ByteArray):Prop:=
 ((ae pg X0 w0 (kN 9 3 (.string p0)) fun a=>
 (gS X0 w0 (I 0) (aA bh 14695981039346656037) 9 3 fun b c d e g h=>
 ae pg h g (binOp .lss 3 d a) fun i=>
 (ay i
 (((ae pg h g (Instr.index 9 (.string p0) d) fun j=>
 ae pg h g (lR bh 5 130 j) fun k=>
 ae pg h g (binOp .xor 130 e k) fun l=>
 (ae pg h g (binOp .mul 130 l (aA bh 1099511628211)) fun m=>
 ((ae pg h g (binOp .add 3 d (I 1)) fun n=>
 gP b c n m g h))))))
 (((ae pg h g (dw 224 #[(aA bh 18397679294719823053),(aA bh 14181476777654086739)] #[(0,(aA bh 18397679294719823053)),(1,(aA bh 14181476777654086739))]) fun o=>
 (gS h g (I 0) e 22 3 fun q r s t v y=>
 ae pg y v (binOp .lss 3 s (I 2)) fun z=>
 (ay z
 ((ae pg y v (sP 224 2 130 o s) fun A=>
 (ae pg y v (binOp .shr 130 t (aA bh 33)) fun C=>
 ae pg y v (binOp .xor 130 t C) fun D=>
 (ae pg y v (binOp .mul 130 D A) fun E=>
 ((ae pg y v (binOp .add 3 s (I 1)) fun F=>
 gP q r F E v y))))))
 (((ae pg y v (binOp .shr 130 t (aA bh 33)) fun G=>
 ae pg y v (binOp .xor 130 t G) fun H=>
 (fin R y v H)))))))))))))
def IX (p0 p1:Value):Prop:=
 (eV pg R X0 w0 true (gd 133 none) fun a b c=>
 ((ae pg c b (cB 31 3 p0) fun d=>
 (gS c b (I 0) (B false) 14 7 fun e g h i j k=>
 ae pg k j (binOp .lss 3 h d) fun l=>
 (ay l
 ((ae pg k j (dr 31 1 p0 h) fun m=>
 ae pg k j (ld1 9 m) fun n=>
 eV pg R k j true (Instr.alloc 9 true (aq #[])) fun o q r=>
 eU pg R r q true (st1 9 1 o n) fun _ s t=>
 (ae pg t s (cp (e7 100) #[] #[o]) fun v=>
 eC pg R t s true 99 #[p1,v] fun y z A=>
 (ae pg A z (binOp .lss 3 y (I 0)) fun C=>
 (ay C
 ((fin R A z (aq #[(Value.map none),(I 8)])))
 ((un (aU i false p1) fun D=>
 un (aU i false y) fun E=>
 aJ pg A z i false (vS (dr 32 7 D E)) fun F=>
 aJ pg A z i false (vS (aS 215 1 1 3 F)) fun G=>
 aJ pg A z i false (vS (dY 62 3 G)) fun H=>
 jn (fun (L:Value) (M:World) (N:XS)=>
 aJ pg N M i false (vS (aY br L)) fun O=>
 aC pg N M (aQ i (B true) O) fun Q=>
 (ae pg N M (ld1 9 o) fun S=>
 ae pg N M (dr 32 7 p1 y) fun T=>
 ae pg N M (aS 215 1 1 3 T) fun U=>
 ae pg N M (dY 62 3 U) fun V=>
 eU pg R N M true (aP 133 a S V) fun _ Y Z=>
 ((ae pg Z Y (binOp .add 3 h (I 1)) fun a0=>
 gP e g a0 Q Y Z)))) fun b0=>
 (gE i false (eC pg R A z true 96 #[H] b0) (b0 undef z A)))))))))
 ((((ay i
 ((fin R k j (aq #[(Value.map none),(I 4)])))
 (((fin R k j (aq #[a,(I 0)])))))))))))))
noncomputable def Qz:bp:=⟨62,[(3,(pg.cellsOf 75)),(4,(pg.cellsOf 62))],[5,8,15,25,35,41],[0,1,6,11,19,29,38,44,49,52],[1000028],[]⟩
def l9 (p0:Value) (dx:Int) (bY:ByteArray) (dP:Int) (iu:Nat) (iB:ByteArray):Prop:=
 (((jn (fun (a:World) (b:XS)=>
 fin R b a (aq #[])) fun c=>
 ae pg X0 w0 (aE .eql 3 (.tmp 6) (.const (I 1)) (I dx) (I 1)) fun d=>
 (ay d
 (eC pg R X0 w0 true 102 #[p0,(.string bY)] fun e g h=>
 eC pg R h g true 101 #[p0,e] fun _ i j=>
 (c i j))
 (ae pg X0 w0 (aE .eql 3 (.tmp 6) (.const (I 2)) (I dx) (I 2)) fun k=>
 (ay k
 (((And
 (aC pg X0 w0 (aF p0) fun l=>
 (And
 (ae pg X0 w0 (aS 141 2 2 1 l) fun m=>
 (And
 (ae pg X0 w0 (ld1 133 m) fun n=>
 (And
 ((And
 ((eC pg R X0 w0 true 103 #[p0] fun o q r=>
 (eU pg R r q true (aP 133 n (.string bY) o) fun _ s t=>
 (c s t))))
 (eC pg R X0 w0 true 103 #[p0] fun v y z=>
 ((eU pg R z y true (aP 133 n (.string bY) v) fun _ A C=>
 (c A C))))))
 (eC pg R X0 w0 true 103 #[p0] fun D E F=>
 (((eU pg R F E true (aP 133 n (.string bY) D) fun _ G H=>
 (c G H)))))))
 (And
 ((And
 (ae pg X0 w0 (ld1 133 m) fun L=>
 (And
 ((eC pg R X0 w0 true 103 #[p0] fun M N O=>
 (eU pg R O N true (aP 133 L (.string bY) M) fun _ Q S=>
 (c Q S))))
 (eC pg R X0 w0 true 103 #[p0] fun T U V=>
 ((eU pg R V U true (aP 133 L (.string bY) T) fun _ Y Z=>
 (c Y Z))))))
 (And
 ((And
 (ae pg X0 w0 (ld1 133 m) fun a0=>
 (eC pg R X0 w0 true 103 #[p0] fun b0 c0 d0=>
 (eU pg R d0 c0 true (aP 133 a0 (.string bY) b0) fun _ e0 g0=>
 (c e0 g0))))
 (eC pg R X0 w0 true 103 #[p0] fun h0 i0 j0=>
 (ae pg j0 i0 (ld1 133 m) fun k0=>
 (eU pg R j0 i0 true (aP 133 k0 (.string bY) h0) fun _ l0 m0=>
 (c l0 m0))))))
 (eC pg R X0 w0 true 103 #[p0] fun n0 o0 q0=>
 (ae pg q0 o0 (ld1 133 m) fun r0=>
 ((eU pg R q0 o0 true (aP 133 r0 (.string bY) n0) fun _ s0 t0=>
 (c s0 t0))))))))
 (eC pg R X0 w0 true 103 #[p0] fun v0 y0 z0=>
 (ae pg z0 y0 (ld1 133 m) fun A0=>
 (((eU pg R z0 y0 true (aP 133 A0 (.string bY) v0) fun _ C0 D0=>
 (c C0 D0)))))))))
 (And
 ((And
 (ae pg X0 w0 (aS 141 2 2 1 l) fun E0=>
 (And
 (ae pg X0 w0 (ld1 133 E0) fun F0=>
 (And
 ((eC pg R X0 w0 true 103 #[p0] fun G0 H0 L0=>
 (eU pg R L0 H0 true (aP 133 F0 (.string bY) G0) fun _ M0 N0=>
 (c M0 N0))))
 (eC pg R X0 w0 true 103 #[p0] fun O0 Q0 S0=>
 ((eU pg R S0 Q0 true (aP 133 F0 (.string bY) O0) fun _ T0 U0=>
 (c T0 U0))))))
 (And
 ((And
 (ae pg X0 w0 (ld1 133 E0) fun V0=>
 (eC pg R X0 w0 true 103 #[p0] fun Y0 Z0 a1=>
 (eU pg R a1 Z0 true (aP 133 V0 (.string bY) Y0) fun _ b1 c1=>
 (c b1 c1))))
 (eC pg R X0 w0 true 103 #[p0] fun d1 e1 g1=>
 (ae pg g1 e1 (ld1 133 E0) fun h1=>
 (eU pg R g1 e1 true (aP 133 h1 (.string bY) d1) fun _ i1 j1=>
 (c i1 j1))))))
 (eC pg R X0 w0 true 103 #[p0] fun k1 l1 m1=>
 (ae pg m1 l1 (ld1 133 E0) fun n1=>
 ((eU pg R m1 l1 true (aP 133 n1 (.string bY) k1) fun _ o1 q1=>
 (c o1 q1))))))))
 (And
 ((And
 (ae pg X0 w0 (aS 141 2 2 1 l) fun r1=>
 (And
 (ae pg X0 w0 (ld1 133 r1) fun s1=>
 (eC pg R X0 w0 true 103 #[p0] fun t1 v1 y1=>
 (eU pg R y1 v1 true (aP 133 s1 (.string bY) t1) fun _ z1 A1=>
 (c z1 A1))))
 (eC pg R X0 w0 true 103 #[p0] fun C1 D1 E1=>
 (ae pg E1 D1 (ld1 133 r1) fun F1=>
 (eU pg R E1 D1 true (aP 133 F1 (.string bY) C1) fun _ G1 H1=>
 (c G1 H1))))))
 (eC pg R X0 w0 true 103 #[p0] fun L1 M1 N1=>
 (ae pg N1 M1 (aS 141 2 2 1 l) fun O1=>
 (ae pg N1 M1 (ld1 133 O1) fun Q1=>
 (eU pg R N1 M1 true (aP 133 Q1 (.string bY) L1) fun _ S1 T1=>
 (c S1 T1)))))))
 (eC pg R X0 w0 true 103 #[p0] fun U1 V1 Y1=>
 (ae pg Y1 V1 (aS 141 2 2 1 l) fun Z1=>
 (ae pg Y1 V1 (ld1 133 Z1) fun a2=>
 ((eU pg R Y1 V1 true (aP 133 a2 (.string bY) U1) fun _ b2 c2=>
 (c b2 c2)))))))))
 (eC pg R X0 w0 true 103 #[p0] fun d2 e2 g2=>
 (ae pg g2 e2 (aS 141 2 2 1 l) fun h2=>
 (ae pg g2 e2 (ld1 133 h2) fun i2=>
 (((eU pg R g2 e2 true (aP 133 i2 (.string bY) d2) fun _ j2 k2=>
 (c j2 k2))))))))))
 (And
 ((And
 (aC pg X0 w0 (aF p0) fun l2=>
 (And
 (ae pg X0 w0 (aS 141 2 2 1 l2) fun m2=>
 (And
 (ae pg X0 w0 (ld1 133 m2) fun n2=>
 (And
 ((eC pg R X0 w0 true 103 #[p0] fun o2 q2 r2=>
 (eU pg R r2 q2 true (aP 133 n2 (.string bY) o2) fun _ s2 t2=>
 (c s2 t2))))
 (eC pg R X0 w0 true 103 #[p0] fun v2 y2 z2=>
 ((eU pg R z2 y2 true (aP 133 n2 (.string bY) v2) fun _ A2 C2=>
 (c A2 C2))))))
 (And
 ((And
 (ae pg X0 w0 (ld1 133 m2) fun D2=>
 (eC pg R X0 w0 true 103 #[p0] fun E2 F2 G2=>
 (eU pg R G2 F2 true (aP 133 D2 (.string bY) E2) fun _ H2 L2=>
 (c H2 L2))))
 (eC pg R X0 w0 true 103 #[p0] fun M2 N2 O2=>
 (ae pg O2 N2 (ld1 133 m2) fun Q2=>
 (eU pg R O2 N2 true (aP 133 Q2 (.string bY) M2) fun _ S2 T2=>
 (c S2 T2))))))
 (eC pg R X0 w0 true 103 #[p0] fun U2 V2 Y2=>
 (ae pg Y2 V2 (ld1 133 m2) fun Z2=>
 ((eU pg R Y2 V2 true (aP 133 Z2 (.string bY) U2) fun _ a3 b3=>
 (c a3 b3))))))))
 (And
 ((And
 (ae pg X0 w0 (aS 141 2 2 1 l2) fun c3=>
 (And
 (ae pg X0 w0 (ld1 133 c3) fun d3=>
 (eC pg R X0 w0 true 103 #[p0] fun e3 g3 h3=>
 (eU pg R h3 g3 true (aP 133 d3 (.string bY) e3) fun _ i3 j3=>
 (c i3 j3))))
 (eC pg R X0 w0 true 103 #[p0] fun k3 l3 m3=>
 (ae pg m3 l3 (ld1 133 c3) fun n3=>
 (eU pg R m3 l3 true (aP 133 n3 (.string bY) k3) fun _ o3 q3=>
 (c o3 q3))))))
 (eC pg R X0 w0 true 103 #[p0] fun r3 s3 t3=>
 (ae pg t3 s3 (aS 141 2 2 1 l2) fun v3=>
 (ae pg t3 s3 (ld1 133 v3) fun y3=>
 (eU pg R t3 s3 true (aP 133 y3 (.string bY) r3) fun _ z3 A3=>
 (c z3 A3)))))))
 (eC pg R X0 w0 true 103 #[p0] fun C3 D3 E3=>
 (ae pg E3 D3 (aS 141 2 2 1 l2) fun F3=>
 (ae pg E3 D3 (ld1 133 F3) fun G3=>
 ((eU pg R E3 D3 true (aP 133 G3 (.string bY) C3) fun _ H3 L3=>
 (c H3 L3)))))))))
 (And
 ((And
 (aC pg X0 w0 (aF p0) fun M3=>
 (And
 (ae pg X0 w0 (aS 141 2 2 1 M3) fun N3=>
 (And
 (ae pg X0 w0 (ld1 133 N3) fun O3=>
 (eC pg R X0 w0 true 103 #[p0] fun Q3 S3 T3=>
 (eU pg R T3 S3 true (aP 133 O3 (.string bY) Q3) fun _ U3 V3=>
 (c U3 V3))))
 (eC pg R X0 w0 true 103 #[p0] fun Y3 Z3 a4=>
 (ae pg a4 Z3 (ld1 133 N3) fun b4=>
 (eU pg R a4 Z3 true (aP 133 b4 (.string bY) Y3) fun _ c4 d4=>
 (c c4 d4))))))
 (eC pg R X0 w0 true 103 #[p0] fun e4 g4 h4=>
 (ae pg h4 g4 (aS 141 2 2 1 M3) fun i4=>
 (ae pg h4 g4 (ld1 133 i4) fun j4=>
 (eU pg R h4 g4 true (aP 133 j4 (.string bY) e4) fun _ k4 l4=>
 (c k4 l4)))))))
 (eC pg R X0 w0 true 103 #[p0] fun m4 n4 o4=>
 (aC pg o4 n4 (aF p0) fun q4=>
 (ae pg o4 n4 (aS 141 2 2 1 q4) fun r4=>
 (ae pg o4 n4 (ld1 133 r4) fun s4=>
 (eU pg R o4 n4 true (aP 133 s4 (.string bY) m4) fun _ t4 v4=>
 (c t4 v4))))))))
 (eC pg R X0 w0 true 103 #[p0] fun y4 z4 A4=>
 (aC pg A4 z4 (aF p0) fun C4=>
 (ae pg A4 z4 (aS 141 2 2 1 C4) fun D4=>
 (ae pg A4 z4 (ld1 133 D4) fun E4=>
 ((eU pg R A4 z4 true (aP 133 E4 (.string bY) y4) fun _ F4 G4=>
 (c F4 G4))))))))))
 (eC pg R X0 w0 true 103 #[p0] fun H4 L4 M4=>
 (aC pg M4 L4 (aF p0) fun N4=>
 (ae pg M4 L4 (aS 141 2 2 1 N4) fun O4=>
 (ae pg M4 L4 (ld1 133 O4) fun Q4=>
 (((eU pg R M4 L4 true (aP 133 Q4 (.string bY) H4) fun _ S4 T4=>
 (c S4 T4))))))))))))
 (ae pg X0 w0 (aE .eql 3 (.tmp 6) (.const (I 3)) (I dx) (I 3)) fun U4=>
 (ay U4
 (aC pg X0 w0 (aF p0) fun V4=>
 ae pg X0 w0 (aS 141 2 2 1 V4) fun Y4=>
 ae pg X0 w0 (ld1 133 Y4) fun Z4=>
 ae pg X0 w0 (dw 62 #[(I 0),(.float .f64 0),(.string ⟨#[]⟩)] #[]) fun a5=>
 eU pg R X0 w0 true (aP 133 Z4 (.string bY) a5) fun _ b5 c5=>
 (c b5 c5))
 (ae pg X0 w0 (aE .eql 3 (.tmp 6) (.const (I 4)) (I dx) (I 4)) fun d5=>
 (ay d5
 (eC pg R X0 w0 true 101 #[p0,(.agg #[(I dP),(.float .f64 iu),(.string iB)])] fun _ e5 g5=>
 (c e5 g5))
 (ae pg X0 w0 (aE .eql 3 (.tmp 6) (.const (I 13)) (I dx) (I 13)) fun h5=>
 (ay h5
 (eC pg R X0 w0 true 103 #[p0] fun i5 j5 k5=>
 eC pg R k5 j5 true 104 #[i5] fun l5 m5 n5=>
 ae pg n5 m5 (aY br l5) fun o5=>
 (ay o5
 (ae pg n5 m5 (dw 137 #[(I 22)] #[(0,(I 22))]) fun q5=>
 ae pg n5 m5 (jt 137 q5) fun r5=>
 eV pg R n5 m5 true (Instr.panic r5) fun _ s5 t5=>
 (c s5 t5))
 (c m5 n5)))
 (ae pg X0 w0 (aE .eql 3 (.tmp 6) (.const (I 14)) (I dx) (I 14)) fun v5=>
 (ay v5
 (eC pg R X0 w0 true 103 #[p0] fun y5 z5 A5=>
 un (ai (aa y5)) fun C5=>
 aB (aj (ad (aa y5))==3) (aB (ao (ad (aa y5)) aR.one) ((aB (bH C5) (un (cj C5 0 3) fun D5=>
 eC pg R A5 z5 true 101 #[p0,D5] fun _ E5 F5=>
 (aB (bH C5) (eC pg R F5 E5 true 101 #[p0,D5] fun _ G5 H5=>
 (c G5 H5))))))))
 (eC pg R X0 w0 true 105 #[p0,(I dx)] fun _ L5 M5=>
 (c L5 M5))))))))))))))))
def iJ (p0:Value):Prop:=
 eV pg R X0 w0 true (dN 133 p0) fun a b c=>
 (ae pg c b (cp (e7 107) #[] #[a]) fun d=>
 (fin R c b d))
def ri (p0 p1:Value):Prop:=
 (eC pg R X0 w0 true 108 #[p0] fun a b c=>
 (eC pg R c b true 109 #[a,p1] fun _ d e=>
 (fin R e d a)))
def gQ (p0:Value):Prop:=
 eV pg R X0 w0 true (dN 88 p0) fun a b c=>
 (ae pg c b (cp (e7 110) #[] #[a]) fun d=>
 (fin R c b d))
noncomputable def XH:bp:=⟨34,[(1,(pg.cellsOf 44)),(3,(pg.cellsOf 44))],[14,19],[0,2,4,10,13],[18,20,21,22,24,25,26,27,29,30,31,32],[]⟩
def Mt (aX bo bu bO bZ cr cq cz dh cY bP bN da cP cN:Int) (cO:Bool) (cQ cT:Int) (cE cA cG cH cC cM:Value) (cD cI:Int) (cJ cK:Nat) (cL eI eJ eK eM eO:Int) (eP eQ:Value):Prop:=
 (eC pg R X0 w0 true 111 #[(.agg #[(I aX),(I bo),(I bu),(I bO),(I bZ),(I cr),(I cq),(I cz),(I dh),(I cY),(I bP),(I bN),(I da),(I cP),(I cN),(B cO),(I cQ),(I cT),cE,cA,cG,cH,cC,cM,(I cD),(I cI),(.float .f64 cJ),(.float .f64 cK),(I cL),(I eI),(I eJ),(I eK),(I eM),(I eO),eP,eQ])] fun a b c=>
 ae pg c b (aD a 0) fun d=>
 ae pg c b (aD a 1) fun e=>
 un (ai (aa d)) fun g=>
 aB (aj (ad (aa d))==36) (aB (ao (ad (aa d)) aR.one) ((ae pg c b (aY br e) fun h=>
 (ay h
 (fin R c b (I 7))
 (eC pg R c b true 112 #[(I bo)] fun i j k=>
 ae pg k j (aY br i) fun l=>
 un (aU l false (I bu)) fun m=>
 jn (fun (n:Value) (o:World) (q:XS)=>
 aJ pg q o l false (vS (aY br n)) fun r=>
 aC pg q o (aQ l (B true) r) fun s=>
 aB (bH g) (un (cj g 0 36) fun t=>
 un (aU s false t) fun v=>
 jn (fun (y:Value) (z:World) (A:XS)=>
 aJ pg A z s false (vS (aY br y)) fun C=>
 aC pg A z (aQ s (B true) C) fun D=>
 un (aU D false (.agg #[(I aX),(I bo),(I bu),(I bO),(I bZ),(I cr),(I cq),(I cz),(I dh),(I cY),(I bP),(I bN),(I da),(I cP),(I cN),(B cO),(I cQ),(I cT),cE,cA,cG,cH,cC,cM,(I cD),(I cI),(.float .f64 cJ),(.float .f64 cK),(I cL),(I eI),(I eJ),(I eK),(I eM),(I eO),eP,eQ])) fun E=>
 jn (fun (F:Value) (G:World) (H:XS)=>
 aJ pg H G D false (vS (aY br F)) fun L=>
 aC pg H G (aQ D (B true) L) fun M=>
 (ay M
 (fin R H G (I 4))
 (fin R H G (I 0)))) fun N=>
 (gE D false (eC pg R A z true 114 #[E] N) (N undef z A))) fun O=>
 (gE s false (eC pg R q o true 113 #[v] O) (O undef o q)))) fun Q=>
 (gE l false (eC pg R k j true 112 #[m] Q) (Q undef j k))))))))
noncomputable def JZ:bp:=⟨80,[(3,(pg.cellsOf 44)),(6,(pg.cellsOf 99))],[21],[0,1,4,5,7,15,42,60],[],[]⟩
def zX (p0:Value) (dx bY dP iu iB jy iO jc mG mH jD jE lf lh lj:Int) (kB:Bool) (lk ln:Int) (lp lq lr lu jU lv:Value) (lx ly:Int) (lz lA:Nat) (lB vM vN vO vP vQ:Int) (vR vT:Value):Prop:=
 (eC pg R X0 w0 true 115 #[p0,(.agg #[(I dx),(I bY),(I dP),(I iu),(I iB),(I jy),(I iO),(I jc),(I mG),(I mH),(I jD),(I jE),(I lf),(I lh),(I lj),(B kB),(I lk),(I ln),lp,lq,lr,lu,jU,lv,(I lx),(I ly),(.float .f64 lz),(.float .f64 lA),(I lB),(I vM),(I vN),(I vO),(I vP),(I vQ),vR,vT]),(B true)] fun a b c=>
 ae pg c b (aD a 0) fun d=>
 ae pg c b (aD a 1) fun e=>
 (ae pg c b (aE .eql 110 (.tmp 14) (.const (.pointer none)) d (.pointer none)) fun g=>
 (ay g
 (fin R c b (aq #[]))
 ((aC pg c b (aF d) fun h=>
 ae pg c b (aS 113 8 12 3 h) fun i=>
 ae pg c b (dY 30 3 i) fun j=>
 eC pg R c b true 119 #[j,(.agg #[(I mH),(I jD),(I jE)])] fun k l m=>
 aC pg m l (aF d) fun n=>
 ae pg m l (aS 113 8 12 3 n) fun o=>
 eU pg R m l true (st1 30 3 o k) fun _ q r=>
 (aC pg r q (aF d) fun s=>
 ae pg r q (aS 113 6 10 1 s) fun t=>
 ae pg r q (ld1 53 t) fun v=>
 ae pg r q (binOp .add 3 e (I 1)) fun y=>
 eC pg R r q true 118 #[v,e,y] fun z A C=>
 aC pg C A (aF d) fun D=>
 ae pg C A (aS 113 6 10 1 D) fun E=>
 eU pg R C A true (st1 53 1 E z) fun _ F G=>
 (aC pg G F (aF d) fun H=>
 ae pg G F (aS 113 6 10 1 H) fun L=>
 ae pg G F (ld1 53 L) fun M=>
 ae pg G F (cB 53 3 M) fun N=>
 ae pg G F (binOp .gtr 3 N (I 0)) fun O=>
 (ay O
 (fin R G F (aq #[]))
 ((aC pg G F (aF d) fun Q=>
 ae pg G F (aS 113 0 0 3 Q) fun S=>
 ae pg G F (dY 27 3 S) fun T=>
 aC pg G F (aF d) fun U=>
 ae pg G F (aS 113 8 12 3 U) fun V=>
 ae pg G F (dY 30 3 V) fun Y=>
 aC pg G F (aF d) fun Z=>
 ae pg G F (aS 113 7 11 1 Z) fun a0=>
 ae pg G F (ld1 34 a0) fun b0=>
 un (cellOf T 0) fun c0=>
 un (cellOf T 1) fun d0=>
 un (cellOf T 2) fun e0=>
 un (cellOf Y 0) fun g0=>
 un (cellOf Y 1) fun h0=>
 un (cellOf Y 2) fun i0=>
 ae pg G F (dw 99 #[(I 9),c0,d0,e0,g0,h0,i0,(I 0),(I 0),(I 0),(B false),(I 0),(.float .f64 0),(.slice none 0 0),(.slice none 0 0),b0,(.slice none 0 0),(I 0),(I 0),(.float .f64 0),(.float .f64 0),(I 0),(I 0),(I 0),(I 0),(I 0),(I 0),(.slice none 0 0),(.slice none 0 0)] #[(0,(I 9)),(1,T),(2,Y),(9,b0)]) fun j0=>
 un (ai (aa j0)) fun k0=>
 aB (aj (ad (aa j0))==29) (aB (ao (ad (aa j0)) aR.one) ((aB (bH k0) (un (cj k0 0 29) fun l0=>
 eC pg R G F true 28 #[p0,l0] fun m0 n0 o0=>
 (ae pg o0 n0 (aE .neq 28 (.tmp 59) (.const (I 0)) m0 (I 0)) fun q0=>
 (ay q0
 (eC pg R o0 n0 true 90 #[p0,d,m0] fun _ r0 s0=>
 (fin R s0 r0 (aq #[])))
 ((aC pg o0 n0 (aF d) fun t0=>
 ae pg o0 n0 (aS 113 8 12 3 t0) fun v0=>
 ae pg o0 n0 (dY 30 3 v0) fun y0=>
 eC pg R o0 n0 false 91 #[d] fun z0 A0 C0=>
 un (cellOf y0 0) fun D0=>
 un (cellOf y0 1) fun E0=>
 un (cellOf y0 2) fun F0=>
 ae pg C0 A0 (dw 79 #[(I 0),(I 0),(I 0),(I 0),D0,E0,F0,(B false),z0] #[(2,y0),(4,z0)]) fun G0=>
 eC pg R C0 A0 true 34 #[p0,d,G0] fun _ H0 L0=>
 (aB (bH k0) (eC pg R L0 H0 true 82 #[p0,l0] fun M0 N0 O0=>
 eC pg R O0 N0 true 120 #[p0,M0] fun _ Q0 S0=>
 fin R S0 Q0 (aq #[])))))))))))))))))))))
noncomputable def QA:bp:=⟨20,[],[],[0,1,2,6,14],[10,11,12,13],[]⟩
def Fc (p0 p1 p2:Int):Prop:=
 (ae pg X0 w0 (binOp .gtr 3 (I p1) (I p2)) fun a=>
 un (aU a false (I p0)) fun b=>
 un (aU a false (I p2)) fun c=>
 aJ pg X0 w0 a false (vS (binOp .gtr 3 b c)) fun d=>
 aC pg X0 w0 (aQ a (B true) d) fun e=>
 (ay e
 (ae pg X0 w0 (binOp .add 3 (I p2) (I 1)) fun g=>
 (fin R X0 w0 g))
 ((ae pg X0 w0 (binOp .add 3 (I p0) (I p1)) fun h=>
 (fin R X0 w0 h)))))
noncomputable def Fe:bp:=⟨28,[],[],[0,1,4,5,6,15],[11,12,13,14],[5,6]⟩
def wV (p0:Value) (p1:Int):Prop:=
 (((gS X0 w0 (I 0) (I 0) 6 5 fun a b c d e g=>
 ae pg g e (cB 31 3 p0) fun h=>
 ae pg g e (binOp .lss 3 c h) fun i=>
 un (aU i true d) fun j=>
 un (aU i true (I p1)) fun k=>
 aJ pg g e i true (vS (binOp .leq 3 j k)) fun l=>
 aC pg g e (aQ i l (B false)) fun m=>
 (ay m
 ((ae pg g e (dr 31 1 p0 c) fun n=>
 ae pg g e (ld1 9 n) fun o=>
 ae pg g e (kN 9 3 o) fun q=>
 ae pg g e (binOp .add 3 (I 1) q) fun r=>
 eC pg R g e true 59 #[d,r,(I p1)] fun s t v=>
 ((ae pg v t (binOp .add 3 c (I 1)) fun y=>
 gP a b y s t v))))
 (fin R g e d)))))
noncomputable def GG:bp:=⟨38,[],[],[0,1,4,5,6,15],[11,12,13,14,18],[5,6]⟩
def xP (p0:Value) (p1:Int):Prop:=
 (((gS X0 w0 (I 0) (I 0) 6 5 fun a b c d e g=>
 ae pg g e (cB 32 3 p0) fun h=>
 ae pg g e (binOp .lss 3 c h) fun i=>
 un (aU i true d) fun j=>
 un (aU i true (I p1)) fun k=>
 aJ pg g e i true (vS (binOp .leq 3 j k)) fun l=>
 aC pg g e (aQ i l (B false)) fun m=>
 (ay m
 ((ae pg g e (dr 32 7 p0 c) fun n=>
 ae pg g e (aS 215 0 0 1 n) fun o=>
 ae pg g e (ld1 9 o) fun q=>
 ae pg g e (kN 9 3 q) fun r=>
 ae pg g e (binOp .add 3 (I 1) r) fun s=>
 ae pg g e (dr 32 7 p0 c) fun t=>
 ae pg g e (aS 215 1 1 3 t) fun v=>
 ae pg g e (aS 62 2 2 1 v) fun y=>
 ae pg g e (ld1 9 y) fun z=>
 ae pg g e (kN 9 3 z) fun A=>
 eC pg R g e false 59 #[d,s,(I p1)] fun C D E=>
 eC pg R E D true 59 #[C,A,(I p1)] fun F G H=>
 ((ae pg H G (binOp .add 3 c (I 1)) fun L=>
 gP a b L F G H))))
 (fin R g e d)))))
noncomputable def Em:bp:=⟨38,[],[],[0,1,4,5,6,15],[11,12,13,14,18],[5,6]⟩
def vx (p0:Value) (p1:Int):Prop:=
 (((gS X0 w0 (I 0) (I 0) 6 5 fun a b c d e g=>
 ae pg g e (cB 33 3 p0) fun h=>
 ae pg g e (binOp .lss 3 c h) fun i=>
 un (aU i true d) fun j=>
 un (aU i true (I p1)) fun k=>
 aJ pg g e i true (vS (binOp .leq 3 j k)) fun l=>
 aC pg g e (aQ i l (B false)) fun m=>
 (ay m
 ((ae pg g e (dr 33 4 p0 c) fun n=>
 ae pg g e (aS 64 0 0 1 n) fun o=>
 ae pg g e (ld1 9 o) fun q=>
 ae pg g e (kN 9 3 q) fun r=>
 ae pg g e (binOp .add 3 (I 1) r) fun s=>
 ae pg g e (dr 33 4 p0 c) fun t=>
 ae pg g e (aS 64 1 1 3 t) fun v=>
 ae pg g e (aS 62 2 2 1 v) fun y=>
 ae pg g e (ld1 9 y) fun z=>
 ae pg g e (kN 9 3 z) fun A=>
 eC pg R g e false 59 #[d,s,(I p1)] fun C D E=>
 eC pg R E D true 59 #[C,A,(I p1)] fun F G H=>
 ((ae pg H G (binOp .add 3 c (I 1)) fun L=>
 gP a b L F G H))))
 (fin R g e d)))))
noncomputable def Ib:bp:=⟨67,[(2,(pg.cellsOf 99))],[7,11,18,27,39,49,61],[0,1,4,5,6,35],[31,32,33,34,38],[5,6]⟩
def yO (_p0_0 _p0_1 _p0_2 _p0_3 _p0_4 _p0_5 _p0_6 _p0_7 _p0_8 _p0_9:Int) (_p0_10:Bool) (_p0_11:Int) (_p0_12:Nat) (cP cN cO cQ:Value) (cT cE:Int) (cA cG:Nat) (cH cC cM cD cI cJ:Int) (cK cL:Value) (p1:Int):Prop:=
 (eC pg R X0 w0 false 60 #[cP,(I p1)] fun a b c=>
 eC pg R c b true 62 #[cN,(I p1)] fun d e g=>
 eC pg R g e true 59 #[a,d,(I p1)] fun h i j=>
 (ae pg j i (cB 34 3 cO) fun k=>
 ae pg j i (binOp .add 3 (I p1) (I 1)) fun l=>
 ae pg j i (Builtin.min_ #[3,3] 3 #[k,l]) fun m=>
 eC pg R j i true 59 #[h,m,(I p1)] fun n o q=>
 ((gS q o (I 0) n 6 5 fun r s t v y z=>
 ae pg z y (cB 97 3 cQ) fun A=>
 ae pg z y (binOp .lss 3 t A) fun C=>
 un (aU C true v) fun D=>
 un (aU C true (I p1)) fun E=>
 aJ pg z y C true (vS (binOp .leq 3 D E)) fun F=>
 aC pg z y (aQ C F (B false)) fun G=>
 (ay G
 ((ae pg z y (dr 97 4 cQ t) fun H=>
 ae pg z y (aS 247 0 0 1 H) fun L=>
 ae pg z y (ld1 9 L) fun M=>
 ae pg z y (kN 9 3 M) fun N=>
 ae pg z y (binOp .add 3 (I 1) N) fun O=>
 ae pg z y (dr 97 4 cQ t) fun Q=>
 ae pg z y (aS 247 1 1 3 Q) fun S=>
 ae pg z y (aS 62 2 2 1 S) fun T=>
 ae pg z y (ld1 9 T) fun U=>
 ae pg z y (kN 9 3 U) fun V=>
 eC pg R z y false 59 #[v,O,(I p1)] fun Y Z a0=>
 eC pg R a0 Z true 59 #[Y,V,(I p1)] fun b0 c0 d0=>
 ((ae pg d0 c0 (binOp .add 3 t (I 1)) fun e0=>
 gP r s e0 b0 c0 d0))))
 (((ae pg z y (binOp .add 3 v (I 1)) fun g0=>
 eC pg R z y true 64 #[(.agg #[(I cT),(I cE),(.float .f64 cA),(.float .f64 cG),(I cH),(I cC),(I cM),(I cD),(I cI),(I cJ),cK,cL]),(I p1)] fun h0 i0 j0=>
 eC pg R j0 i0 true 59 #[g0,h0,(I p1)] fun k0 l0 m0=>
 (fin R m0 l0 k0)))))))))
noncomputable def Ff:bp:=⟨15,[(2,(pg.cellsOf 42))],[5,9],[0,1,4],[],[]⟩
def wW (_p0_0 _p0_1:Int) (_p0_2 _p0_3:Nat) (_p0_4 _p0_5 _p0_6 _p0_7 _p0_8 _p0_9:Int) (bP bN:Value) (p1:Int):Prop:=
 (eC pg R X0 w0 false 123 #[bP,(I p1)] fun a b c=>
 eC pg R c b true 124 #[bN,(I p1)] fun d e g=>
 eC pg R g e true 59 #[a,d,(I p1)] fun h i j=>
 (fin R j i h))
def EI (p0:Value):Prop:=
 (ae pg X0 w0 (cB 22 3 p0) fun a=>
 ae pg X0 w0 (aE .eql 3 (.tmp 15) (.const (I 0)) a (I 0)) fun b=>
 (ay b
 (fin R X0 w0 (I 8))
 (ae pg X0 w0 (cB 22 3 p0) fun c=>
 ae pg X0 w0 (binOp .gtr 3 c (I 12)) fun d=>
 (ay d
 (fin R X0 w0 (I 3))
 (((ae pg X0 w0 (cB 22 3 p0) fun e=>
 (gS X0 w0 (I 0) undef 23 35 fun g h i _ j k=>
 ae pg k j (binOp .lss 3 i e) fun l=>
 (ay l
 ((ae pg k j (dr 22 4 p0 i) fun m=>
 ae pg k j (dY 38 4 m) fun n=>
 un (ai (aa n)) fun o=>
 aB (aj (ad (aa n))==4) (aB (ao (ad (aa n)) aR.one) ((aB (bH o) (un (cj o 0 4) fun q=>
 eC pg R k j true 125 #[q] fun r s t=>
 ae pg t s (aY br r) fun v=>
 (ay v
 (fin R t s (I 1))
 ((ae pg t s (gf 22 p0 none (some i) none) fun y=>
 ae pg t s (cB 22 3 y) fun z=>
 (gG t s (I 0) 35 fun A C D E F=>
 ae pg F E (binOp .lss 3 D z) fun G=>
 (ay G
 ((ae pg F E (dr 22 4 y D) fun H=>
 ae pg F E (dY 38 4 H) fun L=>
 un (ai (aa L)) fun M=>
 aB (aj (ad (aa L))==4) (aB (ao (ad (aa L)) aR.one) ((aB (bH M) (aB (bH o) (un (cellOf M 0) fun N=>
 un (cellOf o 0) fun O=>
 ae pg F E (aE .eql 3 (.tmp 40) (.tmp 42) N O) fun Q=>
 (ay Q
 (fin R F E (I 9))
 (((ae pg F E (binOp .add 3 D (I 1)) fun S=>
 gz A C S E F)))))))))))
 ((((ae pg F E (binOp .add 3 i (I 1)) fun T=>
 gP g h T D E F)))))))))))))))
 ((((sQ k j (I 0) (.float .f64 0) undef undef undef 8 7 50 10 9 fun U V Y Z _ _ _ a0 b0=>
 ae pg b0 a0 (binOp .lss 36 Z (.float .f64 4607182418800017408)) fun c0=>
 (ay c0
 (((ae pg b0 a0 (cB 22 3 p0) fun d0=>
 (qK b0 a0 (I 0) (I 0) (.float .f64 0) 50 10 9 fun e0 g0 h0 i0 j0 k0 l0=>
 ae pg l0 k0 (binOp .lss 3 h0 d0) fun m0=>
 (ay m0
 (((jn (fun (n0 o0:Value)=>
 (ae pg l0 k0 (binOp .add 3 h0 (I 1)) fun q0=>
 qL e0 g0 q0 o0 n0 k0 l0)) fun r0=>
 ae pg l0 k0 (dr 22 4 p0 h0) fun s0=>
 ae pg l0 k0 (dY 38 4 s0) fun t0=>
 un (ai (aa t0)) fun v0=>
 aB (aj (ad (aa t0))==4) (aB (ao (ad (aa t0)) aR.one) ((aB (bH v0) (un (cellOf v0 2) fun y0=>
 ae pg l0 k0 (aE .eql 36 (.tmp 55) (.tmp 56) y0 Z) fun z0=>
 (ay z0
 (aB (bH v0) (un (cellOf v0 3) fun A0=>
 (ae pg l0 k0 (binOp .add 3 i0 (I 1)) fun C0=>
 (r0 A0 C0))))
 (r0 j0 i0)))))))))
 (((ae pg l0 k0 (aE .neq 3 (.tmp 63) (.const (I 1)) i0 (I 1)) fun D0=>
 (ay D0
 (fin R l0 k0 (I 14))
 (((ae pg l0 k0 (binOp .add 3 Y (I 1)) fun E0=>
 (sR U V E0 j0 h0 i0 j0 k0 l0)))))))))))))
 (((ae pg b0 a0 (cB 22 3 p0) fun F0=>
 ae pg b0 a0 (aE .neq 3 (.tmp 68) (.tmp 70) Y F0) fun G0=>
 (ay G0
 (fin R b0 a0 (I 14))
 (fin R b0 a0 (I 0))))))))))))))))))))
def B4 (p0 p1:Value):Prop:=
 ((ae pg X0 w0 (cB 22 3 p1) fun a=>
 (gS X0 w0 (I 0) (I 0) 12 5 fun b c d e g h=>
 ae pg h g (binOp .lss 3 d a) fun i=>
 (ay i
 (((jn (fun (j:Value) (k:World) (l:XS)=>
 (ae pg l k (binOp .add 3 d (I 1)) fun m=>
 gP b c m j k l)) fun n=>
 ae pg h g (dr 22 4 p1 d) fun o=>
 ae pg h g (dY 38 4 o) fun q=>
 un (ai (aa q)) fun r=>
 aB (aj (ad (aa q))==4) (aB (ao (ad (aa q)) aR.one) ((aC pg h g (aF p0) fun s=>
 ae pg h g (aS 164 0 0 1 s) fun t=>
 ae pg h g (ld1 162 t) fun v=>
 aB (bH r) (un (cellOf r 0) fun y=>
 ae pg h g (dc 162 v y true) fun z=>
 ae pg h g (aD z 0) fun A=>
 ae pg h g (aD z 1) fun C=>
 un (ai (aa A)) fun D=>
 aB (aj (ad (aa A))==4) (aB (ao (ad (aa A)) aR.one) ((aB (bH r) (un (cj r 0 4) fun E=>
 eC pg R h g true 125 #[E] fun F G H=>
 ae pg H G (aY br F) fun L=>
 un (aU L false C) fun M=>
 un (aU L false M) fun N=>
 aB (bH D) (un (cellOf D 1) fun O=>
 un (aU N true O) fun Q=>
 un (cellOf r 1) fun S=>
 un (aU N true S) fun T=>
 aJ pg H G N true (vS (binOp .geq 3 Q T)) fun U=>
 aJ pg H G L false (aQ N U (B false)) fun V=>
 aC pg H G (aQ L (B true) V) fun Y=>
 (ay Y
 (n e G H)
 ((aC pg H G (aF p0) fun Z=>
 ae pg H G (aS 164 0 0 1 Z) fun a0=>
 ae pg H G (ld1 162 a0) fun b0=>
 aB (bH r) (eU pg R H G true (aP 162 b0 y E) fun _ c0 d0=>
 (ae pg d0 c0 (binOp .add 3 e (I 1)) fun e0=>
 (n e0 c0 d0))))))))))))))))))
 (fin R h g e)))))
noncomputable def XI:bp:=⟨24,[],[],[0,1,4,5,6,14],[9,10,11,12,17,18,19],[]⟩
def Mu (p0:ByteArray) (p1:Int):Prop:=
 (ae pg X0 w0 (aE .eql 9 (.tmp 7) (.const (.string { data:= #[] })) (.string p0) (.string { data:= #[] })) fun a=>
 un (aU a false (.string p0)) fun b=>
 aJ pg X0 w0 a false (vS (kN 9 3 b)) fun c=>
 aJ pg X0 w0 a false (vS (binOp .gtr 3 c (I 11))) fun d=>
 aC pg X0 w0 (aQ a (B true) d) fun e=>
 (ay e
 ((fin R X0 w0 (aq #[(.string { data:= #[] }),(I 10)])))
 (ae pg X0 w0 (binOp .lss 3 (I p1) (I 1)) fun g=>
 un (aU g false (I p1)) fun h=>
 aJ pg X0 w0 g false (vS (binOp .gtr 3 h (I 99999999))) fun i=>
 aC pg X0 w0 (aQ g (B true) i) fun j=>
 (ay j
 ((fin R X0 w0 (aq #[(.string { data:= #[] }),(I 1)])))
 (((eC pg R X0 w0 true 126 #[(.string p0),(I p1)] fun k l m=>
 (fin R m l (aq #[k,(I 0)])))))))))
def A6 (p0:Value):Prop:=
 (aC pg X0 w0 (aF p0) fun a=>
 ae pg X0 w0 (aS 109 4 4 1 a) fun b=>
 ae pg X0 w0 (ld1 4 b) fun c=>
 (fin R X0 w0 c))
def AI (p0:Value):Prop:=
 (aC pg X0 w0 (aF p0) fun a=>
 ae pg X0 w0 (aS 109 0 0 1 a) fun b=>
 ae pg X0 w0 (ld1 107 b) fun c=>
 eC pg R X0 w0 true 127 #[c] fun d e g=>
 eC pg R g e true 47 #[d] fun h i j=>
 (fin R j i h))
noncomputable def Pn:bp:=⟨32,[],[],[0,1,4,5,18],[],[]⟩
def DL (p0:Value) (p1:Int):Prop:=
 (aC pg X0 w0 (aF p0) fun a=>
 ae pg X0 w0 (aS 170 0 0 1 a) fun b=>
 ae pg X0 w0 (ld1 51 b) fun c=>
 aC pg X0 w0 (aF p0) fun d=>
 ae pg X0 w0 (aS 170 1 1 1 d) fun e=>
 ae pg X0 w0 (ld1 9 e) fun g=>
 eC pg R X0 w0 false 126 #[g,(I p1)] fun h i j=>
 eC pg R j i true 130 #[c,h] fun k l m=>
 ((jn (fun (n:World) (o:XS)=>
 (fin R o n k)) fun q=>
 ae pg m l (aE .eql 28 (.tmp 17) (.const (I 0)) k (I 0)) fun r=>
 (ay r
 (aC pg m l (aF p0) fun s=>
 ae pg m l (aS 170 3 3 1 s) fun t=>
 ae pg m l (ld1 168 t) fun v=>
 ae pg m l (dw 178 #[(I p1),(.slice none 0 0),(I 0)] #[(0,(I p1))]) fun y=>
 eV pg R m l true (dN 178 y) fun z A C=>
 eV pg R C A true (fC 168 179 1 1 #[(0,z)]) fun D E F=>
 eV pg R F E true (e6 168 179 1 8 168 v D) fun G H L=>
 aC pg L H (aF p0) fun M=>
 ae pg L H (aS 170 3 3 1 M) fun N=>
 eU pg R L H true (st1 168 1 N G) fun _ O Q=>
 (q O Q))
 (q l m)))))
def DN (p0:Value):Prop:=
 (aC pg X0 w0 (aF p0) fun a=>
 ae pg X0 w0 (aS 170 3 3 1 a) fun b=>
 ae pg X0 w0 (ld1 168 b) fun c=>
 aC pg X0 w0 (aF p0) fun d=>
 ae pg X0 w0 (aS 170 3 3 1 d) fun e=>
 ae pg X0 w0 (ld1 168 e) fun g=>
 ae pg X0 w0 (cB 168 3 g) fun h=>
 ae pg X0 w0 (binOp .sub 3 h (I 1)) fun i=>
 ae pg X0 w0 (dr 168 1 c i) fun j=>
 ae pg X0 w0 (ld1 179 j) fun k=>
 (fin R X0 w0 k))
def J0 (p0 p1:Value):Prop:=
 aC pg X0 w0 (aF p1) fun a=>
 ae pg X0 w0 (aS 99 0 0 1 a) fun b=>
 eC pg R X0 w0 true 132 #[p0,b] fun _ c d=>
 (aC pg d c (aF p1) fun e=>
 ae pg d c (aS 99 0 0 1 e) fun g=>
 ae pg d c (ld1 3 g) fun h=>
 ((jn (fun (i:World) (j:XS)=>
 fin R j i (aq #[])) fun k=>
 ae pg d c (aE .eql 3 (.tmp 13) (.const (I 1)) h (I 1)) fun l=>
 (ay l
 (aC pg d c (aF p1) fun m=>
 ae pg d c (aS 99 11 17 12 m) fun n=>
 eC pg R d c true 133 #[p0,n] fun _ o q=>
 (k o q))
 ((jn (fun (r:Value)=>
 ay r
 (aC pg d c (aF p1) fun s=>
 ae pg d c (aS 99 5 11 1 s) fun t=>
 eC pg R d c true 132 #[p0,t] fun _ v y=>
 (k v y))
 (ae pg d c (aE .eql 3 (.tmp 13) (.const (I 3)) h (I 3)) fun z=>
 (ay z
 (aC pg d c (aF p1) fun A=>
 ae pg d c (aS 99 1 1 3 A) fun C=>
 ae pg d c (dY 27 3 C) fun D=>
 aC pg d c (aF p1) fun E=>
 ae pg d c (aS 99 2 4 3 E) fun F=>
 ae pg d c (dY 30 3 F) fun G=>
 aC pg d c (aF p1) fun H=>
 ae pg d c (aS 99 7 13 1 H) fun L=>
 ae pg d c (ld1 31 L) fun M=>
 aC pg d c (aF p1) fun N=>
 ae pg d c (aS 99 8 14 1 N) fun O=>
 ae pg d c (ld1 33 O) fun Q=>
 un (cellOf D 0) fun S=>
 un (cellOf D 1) fun T=>
 un (cellOf D 2) fun U=>
 un (cellOf G 0) fun V=>
 un (cellOf G 1) fun Y=>
 un (cellOf G 2) fun Z=>
 ae pg d c (dw 266 #[S,T,U,V,Y,Z,M,Q] #[(0,D),(1,G),(2,M),(3,Q)]) fun a0=>
 eV pg R d c false (Instr.alloc 266 true (aq #[])) fun b0 c0 d0=>
 eU pg R d0 c0 true (st1 266 8 b0 a0) fun _ e0 g0=>
 (eC pg R g0 e0 true 134 #[p0,b0] fun _ h0 i0=>
 (ae pg i0 h0 (aS 266 0 0 3 b0) fun j0=>
 ae pg i0 h0 (dY 27 3 j0) fun k0=>
 ae pg i0 h0 (aS 266 1 3 3 b0) fun l0=>
 ae pg i0 h0 (dY 30 3 l0) fun m0=>
 ae pg i0 h0 (aS 266 2 6 1 b0) fun n0=>
 ae pg i0 h0 (ld1 31 n0) fun o0=>
 ae pg i0 h0 (aS 266 3 7 1 b0) fun q0=>
 ae pg i0 h0 (ld1 33 q0) fun r0=>
 aC pg i0 h0 (aF p1) fun s0=>
 ae pg i0 h0 (aS 99 1 1 3 s0) fun t0=>
 eU pg R i0 h0 true (st1 27 3 t0 k0) fun _ v0 y0=>
 aC pg y0 v0 (aF p1) fun z0=>
 ae pg y0 v0 (aS 99 2 4 3 z0) fun A0=>
 eU pg R y0 v0 true (st1 30 3 A0 m0) fun _ C0 D0=>
 aC pg D0 C0 (aF p1) fun E0=>
 ae pg D0 C0 (aS 99 7 13 1 E0) fun F0=>
 eU pg R D0 C0 true (st1 31 1 F0 o0) fun _ G0 H0=>
 aC pg H0 G0 (aF p1) fun L0=>
 ae pg H0 G0 (aS 99 8 14 1 L0) fun M0=>
 eU pg R H0 G0 true (st1 33 1 M0 r0) fun _ N0 O0=>
 (aC pg O0 N0 (aF p1) fun Q0=>
 ae pg O0 N0 (aS 99 9 15 1 Q0) fun S0=>
 ae pg O0 N0 (cp (e7 132) #[p0] #[]) fun T0=>
 eC pg R O0 N0 true 135 #[p0,S0,T0] fun _ U0 V0=>
 (k U0 V0)))))
 (ae pg d c (aE .eql 3 (.tmp 13) (.const (I 4)) h (I 4)) fun Y0=>
 (ay Y0
 (aC pg d c (aF p1) fun Z0=>
 ae pg d c (aS 99 1 1 3 Z0) fun a1=>
 eC pg R d c true 136 #[p0,a1] fun _ b1 c1=>
 (aC pg c1 b1 (aF p1) fun d1=>
 ae pg c1 b1 (aS 99 4 10 1 d1) fun e1=>
 eC pg R c1 b1 true 137 #[p0,e1] fun _ g1 h1=>
 (aC pg h1 g1 (aF p1) fun i1=>
 ae pg h1 g1 (aS 99 2 4 3 i1) fun j1=>
 eC pg R h1 g1 true 138 #[p0,j1] fun _ k1 l1=>
 (k k1 l1))))
 (ae pg d c (aE .eql 3 (.tmp 13) (.const (I 5)) h (I 5)) fun m1=>
 (ay m1
 (aC pg d c (aF p1) fun n1=>
 ae pg d c (aS 99 2 4 3 n1) fun o1=>
 eC pg R d c true 138 #[p0,o1] fun _ q1 r1=>
 (k q1 r1))
 (ae pg d c (aE .eql 3 (.tmp 13) (.const (I 6)) h (I 6)) fun s1=>
 (ay s1
 (aC pg d c (aF p1) fun t1=>
 ae pg d c (aS 99 6 12 1 t1) fun v1=>
 eC pg R d c true 139 #[p0,v1] fun _ y1 z1=>
 (aC pg z1 y1 (aF p1) fun A1=>
 ae pg z1 y1 (aS 99 5 11 1 A1) fun C1=>
 eC pg R z1 y1 true 132 #[p0,C1] fun _ D1 E1=>
 (aC pg E1 D1 (aF p1) fun F1=>
 ae pg E1 D1 (aS 99 2 4 3 F1) fun G1=>
 eC pg R E1 D1 true 138 #[p0,G1] fun _ H1 L1=>
 (k H1 L1))))
 (ae pg d c (aE .eql 3 (.tmp 13) (.const (I 9)) h (I 9)) fun M1=>
 (ay M1
 (aC pg d c (aF p1) fun N1=>
 ae pg d c (aS 99 1 1 3 N1) fun O1=>
 eC pg R d c true 136 #[p0,O1] fun _ Q1 S1=>
 (aC pg S1 Q1 (aF p1) fun T1=>
 ae pg S1 Q1 (aS 99 2 4 3 T1) fun U1=>
 eC pg R S1 Q1 true 138 #[p0,U1] fun _ V1 Y1=>
 (aC pg Y1 V1 (aF p1) fun Z1=>
 ae pg Y1 V1 (aS 99 9 15 1 Z1) fun a2=>
 ae pg Y1 V1 (cp (e7 132) #[p0] #[]) fun b2=>
 eC pg R Y1 V1 true 135 #[p0,a2,b2] fun _ c2 d2=>
 (k c2 d2))))
 (ae pg d c (aE .eql 3 (.tmp 13) (.const (I 10)) h (I 10)) fun e2=>
 (ay e2
 (aC pg d c (aF p1) fun g2=>
 ae pg d c (aS 99 1 1 3 g2) fun h2=>
 eC pg R d c true 136 #[p0,h2] fun _ i2 j2=>
 (k i2 j2))
 (ae pg d c (aE .eql 3 (.tmp 13) (.const (I 11)) h (I 11)) fun k2=>
 (ay k2
 (aC pg d c (aF p1) fun l2=>
 ae pg d c (aS 99 3 7 3 l2) fun m2=>
 eC pg R d c true 138 #[p0,m2] fun _ n2 o2=>
 (aC pg o2 n2 (aF p1) fun q2=>
 ae pg o2 n2 (aS 99 2 4 3 q2) fun r2=>
 eC pg R o2 n2 true 138 #[p0,r2] fun _ s2 t2=>
 (aC pg t2 s2 (aF p1) fun v2=>
 ae pg t2 s2 (aS 99 1 1 3 v2) fun y2=>
 eC pg R t2 s2 true 136 #[p0,y2] fun _ z2 A2=>
 (aC pg A2 z2 (aF p1) fun C2=>
 ae pg A2 z2 (aS 99 8 14 1 C2) fun D2=>
 ae pg A2 z2 (cp (e7 141) #[p0] #[]) fun E2=>
 eC pg R A2 z2 true 140 #[p0,D2,E2] fun _ F2 G2=>
 (k F2 G2)))))
 (ae pg d c (aE .eql 3 (.tmp 13) (.const (I 12)) h (I 12)) fun H2=>
 (ay H2
 (aC pg d c (aF p1) fun L2=>
 ae pg d c (aS 99 2 4 3 L2) fun M2=>
 eC pg R d c true 138 #[p0,M2] fun _ N2 O2=>
 (aC pg O2 N2 (aF p1) fun Q2=>
 ae pg O2 N2 (aS 99 10 16 1 Q2) fun S2=>
 ae pg O2 N2 (cp (e7 143) #[p0] #[]) fun T2=>
 eC pg R O2 N2 true 142 #[p0,S2,T2] fun _ U2 V2=>
 (k U2 V2)))
 (k c d)))))))))))))))))) fun Y2=>
 ae pg d c (aE .eql 3 (.tmp 13) (.const (I 2)) h (I 2)) fun Z2=>
 (ay Z2
 (Y2 Z2)
 (ae pg d c (aE .eql 3 (.tmp 13) (.const (I 7)) h (I 7)) fun a3=>
 (ay a3
 (Y2 a3)
 (ae pg d c (aE .eql 3 (.tmp 13) (.const (I 8)) h (I 8)) fun b3=>
 (Y2 b3)))))))))))
noncomputable def QB:bp:=⟨23,[],[],[0,1,2,3,4,5,6,10,21],[],[]⟩
def Fg (aX bo bu bO bZ cr cq cz dh cY:Int) (bP:Bool) (bN:Int) (da:Nat) (cP cN cO cQ:Value) (cT cE:Int) (cA cG:Nat) (cH cC cM cD cI cJ:Int) (cK cL:Value):Prop:=
 eV pg R X0 w0 true (dN 99 (.agg #[(I aX),(I bo),(I bu),(I bO),(I bZ),(I cr),(I cq),(I cz),(I dh),(I cY),(B bP),(I bN),(.float .f64 da),cP,cN,cO,cQ,(I cT),(I cE),(.float .f64 cA),(.float .f64 cG),(I cH),(I cC),(I cM),(I cD),(I cI),(I cJ),cK,cL])) fun a b c=>
 (ae pg c b (dY 99 29 a) fun d=>
 eC pg R c b true 145 #[d] fun e g h=>
 (ae pg h g (aE .neq 28 (.tmp 9) (.const (I 0)) e (I 0)) fun i=>
 (ay i
 ((fin R h g (aq #[(.slice none 0 0),e])))
 ((eC pg R h g true 146 #[] fun j k l=>
 (ae pg l k (dw 190 #[j,(.pointer none)] #[(0,j)]) fun m=>
 eV pg R l k true (dN 190 m) fun n o q=>
 eC pg R q o true 78 #[n,a] fun _ r s=>
 (eC pg R s r true 147 #[j] fun t v y=>
 (ae pg y v (cB 94 3 t) fun z=>
 ae pg y v (binOp .gtr 3 z (I 262144)) fun A=>
 (ay A
 ((fin R y v (aq #[(.slice none 0 0),(I 2)])))
 (((fin R y v (aq #[t,(I 0)])))))))))))))
noncomputable def Lr:bp:=⟨30,[(3,(pg.cellsOf 99))],[7,26],[0,1,4,5],[],[]⟩
def AW (p0:Value) (dx bY dP iu iB jy iO jc mG mH:Int) (jD:Bool) (jE:Int) (lf:Nat) (lh lj kB lk:Value) (ln lp:Int) (lq lr:Nat) (lu jU lv lx ly lz:Int) (lA lB:Value):Prop:=
 (eC pg R X0 w0 true 148 #[kB] fun a b c=>
 ae pg c b (dw 199 #[(I dx),(I bY),(I dP),(I iu),(I iB),(I jy),(I iO),(I jc),(I mG),(I mH),(B jD),(I jE),(.float .f64 lf),lh,lj,kB,lk,(I ln),(I lp),(.float .f64 lq),(.float .f64 lr),(I lu),(I jU),(I lv),(I lx),(I ly),(I lz),lA,lB,a,(B false)] #[(0,(.agg #[(I dx),(I bY),(I dP),(I iu),(I iB),(I jy),(I iO),(I jc),(I mG),(I mH),(B jD),(I jE),(.float .f64 lf),lh,lj,kB,lk,(I ln),(I lp),(.float .f64 lq),(.float .f64 lr),(I lu),(I jU),(I lv),(I lx),(I ly),(I lz),lA,lB])),(1,a)]) fun d=>
 eV pg R c b true (dN 199 d) fun e g h=>
 (aC pg h g (aF p0) fun i=>
 ae pg h g (aS 93 8 8 1 i) fun j=>
 ae pg h g (ld1 91 j) fun k=>
 eV pg R h g true (fC 91 196 1 1 #[(0,e)]) fun l m n=>
 eV pg R n m true (e6 91 196 1 8 91 k l) fun o q r=>
 aC pg r q (aF p0) fun s=>
 ae pg r q (aS 93 8 8 1 s) fun t=>
 eU pg R r q true (st1 91 1 t o) fun _ v y=>
 (aC pg y v (aF p0) fun z=>
 ae pg y v (aS 93 9 9 1 z) fun A=>
 ae pg y v (ld1 89 A) fun C=>
 eU pg R y v true (aP 89 C (.agg #[(I bY),(I dP),(I iu)]) e) fun _ D E=>
 (fin R E D e))))
def A7 (p0 p1:Value):Prop:=
 (eC pg R X0 w0 true 22 #[p0] fun a b c=>
 (ae pg c b (cB 94 3 p1) fun d=>
 ae pg c b (binOp .gtr 3 d (I 262144)) fun e=>
 (ay e
 ((fin R c b (aq #[(I 0),(I 2)])))
 (ae pg c b (binOp .gtr 3 a (I 99999999)) fun g=>
 (ay g
 ((fin R c b (aq #[(I 0),(I 1)])))
 ((((jn (fun (h:World) (i:XS)=>
 eC pg R i h true 74 #[p0] fun j k l=>
 (eC pg R l k true 149 #[p1] fun m n o=>
 ae pg o n (aD m 0) fun q=>
 ae pg o n (aD m 1) fun _=>
 (aC pg o n (aF p0) fun r=>
 ae pg o n (aS 170 0 0 1 r) fun s=>
 ae pg o n (ld1 51 s) fun t=>
 aC pg o n (aF p0) fun v=>
 ae pg o n (aS 170 1 1 1 v) fun y=>
 ae pg o n (ld1 9 y) fun z=>
 aC pg o n (aF j) fun A=>
 ae pg o n (aS 178 0 0 1 A) fun C=>
 ae pg o n (ld1 3 C) fun D=>
 eC pg R o n false 126 #[z,D] fun E F G=>
 eC pg R G F true 150 #[t,E,q] fun H L M=>
 (ae pg M L (aE .neq 28 (.tmp 65) (.const (I 0)) H (I 0)) fun N=>
 (ay N
 ((fin R M L (aq #[(I 0),H])))
 ((aC pg M L (aF j) fun O=>
 ae pg M L (aS 178 1 1 1 O) fun Q=>
 ae pg M L (ld1 176 Q) fun S=>
 eV pg R M L false (fC 94 5 1 0 #[]) fun T U V=>
 eV pg R V U false (e6 94 5 1 1 94 T p1) fun Y Z a0=>
 eV pg R a0 Z false (fC 176 94 1 1 #[(0,Y)]) fun b0 c0 d0=>
 eV pg R d0 c0 true (e6 176 94 1 24 176 S b0) fun e0 g0 h0=>
 aC pg h0 g0 (aF j) fun i0=>
 ae pg h0 g0 (aS 178 1 1 1 i0) fun j0=>
 eU pg R h0 g0 true (st1 176 1 j0 e0) fun _ k0 l0=>
 (aC pg l0 k0 (aF j) fun m0=>
 ae pg l0 k0 (aS 178 2 2 1 m0) fun n0=>
 ae pg l0 k0 (ld1 3 n0) fun o0=>
 ae pg l0 k0 (cB 94 3 q) fun q0=>
 ae pg l0 k0 (binOp .add 3 o0 q0) fun r0=>
 aC pg l0 k0 (aF j) fun s0=>
 ae pg l0 k0 (aS 178 2 2 1 s0) fun t0=>
 eU pg R l0 k0 true (st1 3 1 t0 r0) fun _ v0 y0=>
 ((fin R y0 v0 (aq #[a,(I 0)]))))))))))) fun z0=>
 aC pg c b (aF p0) fun A0=>
 ae pg c b (aS 170 2 2 1 A0) fun C0=>
 ae pg c b (ld1 3 C0) fun D0=>
 eC pg R c b false 74 #[p0] fun E0 F0 G0=>
 aC pg G0 F0 (aF E0) fun H0=>
 ae pg G0 F0 (aS 178 2 2 1 H0) fun L0=>
 ae pg G0 F0 (ld1 3 L0) fun M0=>
 ae pg G0 F0 (binOp .geq 3 M0 D0) fun N0=>
 (ay N0
 (eC pg R G0 F0 true 84 #[p0] fun O0 Q0 S0=>
 (ae pg S0 Q0 (aE .neq 28 (.tmp 34) (.const (I 0)) O0 (I 0)) fun T0=>
 (ay T0
 ((fin R S0 Q0 (aq #[(I 0),O0])))
 ((eC pg R S0 Q0 true 72 #[p0,a] fun U0 V0 Y0=>
 (ae pg Y0 V0 (aE .neq 28 (.tmp 40) (.const (I 0)) U0 (I 0)) fun Z0=>
 (ay Z0
 ((fin R Y0 V0 (aq #[(I 0),U0])))
 (z0 V0 Y0))))))))
 (z0 F0 G0)))))))))))
def DO (p0:Value):Prop:=
 (aC pg X0 w0 (aF p0) fun a=>
 ae pg X0 w0 (aS 170 0 0 1 a) fun b=>
 ae pg X0 w0 (ld1 51 b) fun c=>
 aC pg X0 w0 (aF p0) fun d=>
 ae pg X0 w0 (aS 170 1 1 1 d) fun e=>
 ae pg X0 w0 (ld1 9 e) fun g=>
 eC pg R X0 w0 false 74 #[p0] fun h i j=>
 aC pg j i (aF h) fun k=>
 ae pg j i (aS 178 0 0 1 k) fun l=>
 ae pg j i (ld1 3 l) fun m=>
 eC pg R j i false 126 #[g,m] fun n o q=>
 eC pg R q o true 151 #[c,n] fun r s t=>
 ((jn (fun (v:World) (y:XS)=>
 (fin R y v r)) fun z=>
 ae pg t s (aE .eql 28 (.tmp 19) (.const (I 0)) r (I 0)) fun A=>
 (ay A
 (eC pg R t s true 22 #[p0] fun C D E=>
 ae pg E D (binOp .sub 3 C (I 1)) fun F=>
 aC pg E D (aF p0) fun G=>
 ae pg E D (aS 170 4 4 1 G) fun H=>
 eU pg R E D true (st1 3 1 H F) fun _ L M=>
 (z L M))
 (z s t)))))
noncomputable def aaQ:bp:=⟨31,[(1,(pg.cellsOf 30))],[3,7,12,17,22,27],[0,2],[6,8,9,11,13,14,16,18,19,21,23,24,26,28,29],[]⟩
def Po (aX bo bu:Int):Prop:=
 (ae pg X0 w0 (binOp .geq 3 (I aX) (I 0)) fun a=>
 un (aU a true (I aX)) fun b=>
 aJ pg X0 w0 a true (vS (binOp .leq 3 b (I 281474976710656))) fun c=>
 aC pg X0 w0 (aQ a c (B false)) fun d=>
 un (aU d true (I bo)) fun e=>
 aJ pg X0 w0 d true (vS (binOp .geq 3 e (I 0))) fun g=>
 aC pg X0 w0 (aQ d g (B false)) fun h=>
 un (aU h true (I bo)) fun i=>
 aJ pg X0 w0 h true (vS (binOp .leq 3 i (I 65535))) fun j=>
 aC pg X0 w0 (aQ h j (B false)) fun k=>
 un (aU k true (I bu)) fun l=>
 aJ pg X0 w0 k true (vS (binOp .geq 3 l (I 0))) fun m=>
 aC pg X0 w0 (aQ k m (B false)) fun n=>
 un (aU n true (I bu)) fun o=>
 aJ pg X0 w0 n true (vS (binOp .leq 3 o (I 63))) fun q=>
 aC pg X0 w0 (aQ n q (B false)) fun r=>
 (fin R X0 w0 r))
noncomputable def NA:bp:=⟨22,[(4,(pg.cellsOf 30)),(6,(pg.cellsOf 30))],[],[0,1,5,7,15],[],[]⟩
def Cl (p0:Value) (p1:Int):Prop:=
 (eC pg R X0 w0 true 152 #[p0,(I p1)] fun a b c=>
 ae pg c b (aD a 0) fun d=>
 ae pg c b (aD a 1) fun e=>
 un (ai (aa d)) fun g=>
 aB (aj (ad (aa d))==3) (aB (ao (ad (aa d)) aR.one) (((jn (fun (h:World) (i:XS)=>
 aB (bH g) (un (cj g 0 3) fun j=>
 un (ai (aa j)) fun k=>
 aB (aj (ad (aa j))==3) (aB (ao (ad (aa j)) aR.one) ((un (cj k 0 3) fun l=>
 aB (ao [k] bH) (fin R i h (aq #[l,e]))))))) fun m=>
 ae pg c b (aE .eql 28 (.tmp 14) (.const (I 0)) e (I 0)) fun n=>
 (ay n
 (aB (bH g) (aC pg c b (aF p0) fun o=>
 ae pg c b (aS 206 0 0 3 o) fun q=>
 un (cj g 0 3) fun r=>
 eU pg R c b true (st1 30 3 q r) fun _ s t=>
 (m s t)))
 (m b c)))))))
def B6 (p0 p1:Value):Prop:=
 (eV pg R X0 w0 true (gd 290 none) fun a b c=>
 (ae pg c b (cB 31 3 p1) fun d=>
 (gG c b (I 0) 17 fun e g h i j=>
 ae pg j i (binOp .lss 3 h d) fun k=>
 (ay k
 (((jn (fun (l:World) (m:XS)=>
 (ae pg m l (binOp .add 3 h (I 1)) fun n=>
 gz e g n l m)) fun o=>
 ae pg j i (dr 31 1 p1 h) fun q=>
 ae pg j i (ld1 9 q) fun r=>
 (eC pg R j i true 95 #[r] fun s t v=>
 ae pg v t (aY br s) fun y=>
 (ay y
 ((fin R v t (aq #[(.slice none 0 0),(I 10)])))
 ((eC pg R v t true 153 #[p0,r] fun z A C=>
 ae pg C A (aD z 0) fun D=>
 ae pg C A (aD z 1) fun E=>
 un (ai (aa D)) fun F=>
 aB (aj (ad (aa D))==4) (aB (ao (ad (aa D)) aR.one) ((ae pg C A (aY br E) fun G=>
 (ay G
 ((fin R C A (aq #[(.slice none 0 0),(I 8)])))
 ((aB (bH F) (un (cellOf F 0) fun H=>
 ae pg C A (dc 290 a H false) fun L=>
 eC pg R C A true 93 #[L,r] fun M N O=>
 ae pg O N (aY br M) fun Q=>
 (ay Q
 (((aB (bH F) (((ae pg O N (dc 290 a H false) fun S=>
 ((And
 ((And
 ((eV pg R O N false (fC 31 9 1 1 #[(0,r)]) fun T U V=>
 (eV pg R V U true (e6 31 9 1 16 31 S T) fun Y Z a0=>
 (eU pg R a0 Z true (aP 290 a H Y) fun _ b0 c0=>
 (o b0 c0)))))
 (eV pg R O N false (fC 31 9 1 1 #[(0,r)]) fun d0 e0 g0=>
 (And
 ((eV pg R g0 e0 true (e6 31 9 1 16 31 S d0) fun h0 i0 j0=>
 (eU pg R j0 i0 true (aP 290 a H h0) fun _ k0 l0=>
 (o k0 l0))))
 (eV pg R g0 e0 true (e6 31 9 1 16 31 S d0) fun m0 n0 o0=>
 (eU pg R o0 n0 true (aP 290 a H m0) fun _ q0 r0=>
 (o q0 r0)))))))
 (eV pg R O N false (fC 31 9 1 1 #[(0,r)]) fun s0 t0 v0=>
 (And
 ((And
 ((eV pg R v0 t0 true (e6 31 9 1 16 31 S s0) fun y0 z0 A0=>
 (eU pg R A0 z0 true (aP 290 a H y0) fun _ C0 D0=>
 (o C0 D0))))
 (eV pg R v0 t0 true (e6 31 9 1 16 31 S s0) fun E0 F0 G0=>
 (eU pg R G0 F0 true (aP 290 a H E0) fun _ H0 L0=>
 (o H0 L0)))))
 (eV pg R v0 t0 true (e6 31 9 1 16 31 S s0) fun M0 N0 O0=>
 (eU pg R O0 N0 true (aP 290 a H M0) fun _ Q0 S0=>
 (o Q0 S0)))))))))))))
 (o N O))))))))))))))))
 ((((eC pg R j i true 155 #[a] fun T0 U0 V0=>
 eC pg R V0 U0 true 154 #[T0] fun Y0 Z0 a1=>
 ae pg a1 Z0 (cB 34 3 Y0) fun b1=>
 (gS a1 Z0 (I 0) (.slice none 0 0) 54 11 fun c1 d1 e1 g1 h1 i1=>
 ae pg i1 h1 (binOp .lss 3 e1 b1) fun j1=>
 (ay j1
 ((ae pg i1 h1 (dr 34 1 Y0 e1) fun k1=>
 ae pg i1 h1 (ld1 3 k1) fun l1=>
 (aC pg i1 h1 (aF p0) fun m1=>
 ae pg i1 h1 (aS 164 0 0 1 m1) fun n1=>
 ae pg i1 h1 (ld1 162 n1) fun o1=>
 ae pg i1 h1 (dc 162 o1 l1 false) fun q1=>
 ae pg i1 h1 (dc 290 a l1 false) fun r1=>
 un (cellOf q1 0) fun s1=>
 un (cellOf q1 1) fun t1=>
 un (cellOf q1 2) fun v1=>
 un (cellOf q1 3) fun y1=>
 ae pg i1 h1 (dw 120 #[s1,t1,v1,y1,r1] #[(0,q1),(1,r1)]) fun z1=>
 eV pg R i1 h1 true (fC 114 120 5 1 #[(0,z1)]) fun A1 C1 D1=>
 eV pg R D1 C1 true (e6 114 120 5 56 114 g1 A1) fun E1 F1 G1=>
 ((ae pg G1 F1 (binOp .add 3 e1 (I 1)) fun H1=>
 gP c1 d1 H1 E1 F1 G1)))))
 ((((fin R i1 h1 (aq #[g1,(I 0)])))))))))))))))
noncomputable def J6:bp:=⟨22,[(3,(pg.cellsOf 44))],[6,8,9],[0,1],[7],[]⟩
def zP (p0:Value) (dx _p1_1 _p1_2 iu iB jy iO jc mG mH jD jE lf lh lj:Int) (kB:Bool) (lk ln:Int) (lp lq lr lu jU lv:Value) (lx ly:Int) (lz lA:Nat) (lB vM vN vO vP vQ:Int) (vR vT:Value):Prop:=
 (eC pg R X0 w0 false 30 #[p0] fun a b c=>
 aB (aR.one a) ((aC pg c b (aF p0) fun d=>
 ae pg c b (aS 93 10 10 2 d) fun e=>
 ae pg c b (aS 56 0 0 1 e) fun g=>
 ae pg c b (ld1 53 g) fun h=>
 eV pg R c b false (fC 53 44 36 1 #[(0,(.agg #[(I dx),a,(I iO),(I iu),(I iB),(I jy),(I iO),(I jc),(I mG),(I mH),(I jD),(I jE),(I lf),(I lh),(I lj),(B kB),(I lk),(I ln),lp,lq,lr,lu,jU,lv,(I lx),(I ly),(.float .f64 lz),(.float .f64 lA),(I lB),(I vM),(I vN),(I vO),(I vP),(I vQ),vR,vT]))]) fun i j k=>
 eV pg R k j true (e6 53 44 36 416 53 h i) fun l m n=>
 aC pg n m (aF p0) fun o=>
 ae pg n m (aS 93 10 10 2 o) fun q=>
 ae pg n m (aS 56 0 0 1 q) fun r=>
 eU pg R n m true (st1 53 1 r l) fun _ s t=>
 fin R t s (aq #[]))))
noncomputable def Pp:bp:=⟨20,[(1,(pg.cellsOf 44)),(2,(pg.cellsOf 44))],[3,6,9,12,15,16,17,18],[0],[4,7,10,13],[]⟩
def Du (aX bo bu bO bZ cr cq cz dh cY bP bN da cP cN:Int) (cO:Bool) (cQ cT:Int) (cE cA cG cH cC cM:Value) (cD cI:Int) (cJ cK:Nat) (cL eI eJ eK eM eO:Int) (eP eQ:Value):Prop:=
 (eC pg R X0 w0 false 156 #[cE] fun a b c=>
 eC pg R c b false 157 #[cA] fun d e g=>
 eC pg R g e false 158 #[cG] fun h i j=>
 eC pg R j i false 148 #[cH] fun k l m=>
 aB (aR.one a) (aB (aR.one d) (aB (aR.one h) (aB (aR.one k) ((aB (ao [(I aX),(I bo),(I bu),(I bO),(I bZ),(I cr),(I cq),(I cz),(I dh),(I cY),(I bP),(I bN),(I da),(I cP),(I cN),(B cO),(I cQ),(I cT),a,d,h,k,cC,cM,(I cD),(I cI),(.float .f64 cJ),(.float .f64 cK),(I cL),(I eI),(I eJ),(I eK),(I eM),(I eO),eP,eQ] aR.one) ((fin R m l (.agg #[(I aX),(I bo),(I bu),(I bO),(I bZ),(I cr),(I cq),(I cz),(I dh),(I cY),(I bP),(I bN),(I da),(I cP),(I cN),(B cO),(I cQ),(I cT),a,d,h,k,cC,cM,(I cD),(I cI),(.float .f64 cJ),(.float .f64 cK),(I cL),(I eI),(I eJ),(I eK),(I eM),(I eO),eP,eQ])))))))))
noncomputable def Ic:bp:=⟨35,[],[],[0,1,2,7,16,20,21,22,23],[],[22]⟩
def yE (p0 p1:Value) (p2:Int):Prop:=
 ae pg X0 w0 (dw 79 #[(I p2),(I 0),(I 0),(I 0),(I 0),(I 0),(I 0),(B false),(.slice none 0 0)] #[(0,(I p2))]) fun a=>
 eC pg R X0 w0 true 34 #[p0,p1,a] fun _ b c=>
 (aC pg c b (aF p1) fun d=>
 ae pg c b (aS 113 5 9 1 d) fun e=>
 ae pg c b (ld1 4 e) fun g=>
 (ay g
 (aC pg c b (aF p1) fun h=>
 ae pg c b (aS 113 7 11 1 h) fun i=>
 ae pg c b (ld1 34 i) fun j=>
 ae pg c b (cB 34 3 j) fun k=>
 (gG c b (I 0) 22 fun l m n o q=>
 ae pg q o (binOp .lss 3 n k) fun r=>
 (ay r
 ((ae pg q o (dr 34 1 j n) fun s=>
 ae pg q o (ld1 3 s) fun t=>
 (aC pg q o (aF p1) fun v=>
 ae pg q o (aS 113 0 0 3 v) fun y=>
 ae pg q o (dY 27 3 y) fun z=>
 un (cellOf z 0) fun A=>
 un (cellOf z 1) fun C=>
 un (cellOf z 2) fun D=>
 ae pg q o (dw 44 #[(I 5),(I 0),(I 0),A,C,D,t,(I 0),(I 0),(I 0),(I 0),(I 0),(I 0),(I 0),(I 0),(B false),(I 0),(I 0),(.slice none 0 0),(.slice none 0 0),(.slice none 0 0),(.slice none 0 0),(.slice none 0 0),(.slice none 0 0),(I 0),(I 0),(.float .f64 0),(.float .f64 0),(I 0),(I 0),(I 0),(I 0),(I 0),(I 0),(.slice none 0 0),(.slice none 0 0)] #[(0,(I 5)),(3,z),(4,t)]) fun E=>
 eC pg R q o true 88 #[p0,E] fun _ F G=>
 ((ae pg G F (binOp .add 3 n (I 1)) fun H=>
 gz l m H F G)))))
 (fin R q o (aq #[])))))
 (fin R c b (aq #[]))))
def uY (p0:Value):Prop:=
 (aC pg X0 w0 (aF p0) fun a=>
 ae pg X0 w0 (aS 113 4 8 1 a) fun b=>
 ae pg X0 w0 (ld1 32 b) fun c=>
 eC pg R X0 w0 true 157 #[c] fun d e g=>
 (eC pg R g e true 159 #[d,(Value.func (e7 160) #[] #[])] fun _ h i=>
 (fin R i h d)))
noncomputable def ub:bp:=⟨9,[],[],[0,1,4],[],[]⟩
def mR (p0:Value) (p1:ByteArray):Prop:=
 (eC pg R X0 w0 true 163 #[p0,(.string p1)] fun a b c=>
 ae pg c b (binOp .geq 3 a (I 0)) fun d=>
 (fin R c b d))
def Hp:Prop:=
 (ae pg X0 w0 (dw 124 #[(.string { data:= #[103,101,116] }),(I 1),(I 0),(I 1)] #[(0,(.string { data:= #[103,101,116] })),(1,(I 1)),(2,(I 0)),(3,(I 1))]) fun a=>
 ae pg X0 w0 (dw 124 #[(.string { data:= #[112,117,116] }),(I 1),(I 1),(I 0)] #[(0,(.string { data:= #[112,117,116] })),(1,(I 1)),(2,(I 1)),(3,(I 0))]) fun b=>
 ae pg X0 w0 (dw 124 #[(.string { data:= #[100,114,111,112] }),(I 1),(I 0),(I 0)] #[(0,(.string { data:= #[100,114,111,112] })),(1,(I 1)),(2,(I 0)),(3,(I 0))]) fun c=>
 ae pg X0 w0 (dw 124 #[(.string { data:= #[112,117,115,104] }),(I 2),(I 0),(I 1)] #[(0,(.string { data:= #[112,117,115,104] })),(1,(I 2)),(2,(I 0)),(3,(I 1))]) fun d=>
 ae pg X0 w0 (dw 124 #[(.string { data:= #[97,100,100] }),(I 0),(I 2),(I 1)] #[(0,(.string { data:= #[97,100,100] })),(1,(I 0)),(2,(I 2)),(3,(I 1))]) fun e=>
 ae pg X0 w0 (dw 124 #[(.string { data:= #[115,117,98] }),(I 0),(I 2),(I 1)] #[(0,(.string { data:= #[115,117,98] })),(1,(I 0)),(2,(I 2)),(3,(I 1))]) fun g=>
 ae pg X0 w0 (dw 124 #[(.string { data:= #[109,117,108] }),(I 0),(I 2),(I 1)] #[(0,(.string { data:= #[109,117,108] })),(1,(I 0)),(2,(I 2)),(3,(I 1))]) fun h=>
 ae pg X0 w0 (dw 124 #[(.string { data:= #[100,105,118] }),(I 0),(I 2),(I 1)] #[(0,(.string { data:= #[100,105,118] })),(1,(I 0)),(2,(I 2)),(3,(I 1))]) fun i=>
 ae pg X0 w0 (dw 124 #[(.string { data:= #[109,105,110] }),(I 0),(I 2),(I 1)] #[(0,(.string { data:= #[109,105,110] })),(1,(I 0)),(2,(I 2)),(3,(I 1))]) fun j=>
 ae pg X0 w0 (dw 124 #[(.string { data:= #[109,97,120] }),(I 0),(I 2),(I 1)] #[(0,(.string { data:= #[109,97,120] })),(1,(I 0)),(2,(I 2)),(3,(I 1))]) fun k=>
 ae pg X0 w0 (dw 124 #[(.string { data:= #[108,101,115,115] }),(I 0),(I 2),(I 1)] #[(0,(.string { data:= #[108,101,115,115] })),(1,(I 0)),(2,(I 2)),(3,(I 1))]) fun l=>
 ae pg X0 w0 (dw 124 #[(.string { data:= #[115,97,109,101] }),(I 0),(I 2),(I 1)] #[(0,(.string { data:= #[115,97,109,101] })),(1,(I 0)),(2,(I 2)),(3,(I 1))]) fun m=>
 ae pg X0 w0 (dw 124 #[(.string { data:= #[110,101,101,100] }),(I 0),(I 1),(I 0)] #[(0,(.string { data:= #[110,101,101,100] })),(1,(I 0)),(2,(I 1)),(3,(I 0))]) fun n=>
 ae pg X0 w0 (dw 124 #[(.string { data:= #[100,117,112] }),(I 0),(I 1),(I 2)] #[(0,(.string { data:= #[100,117,112] })),(1,(I 0)),(2,(I 1)),(3,(I 2))]) fun o=>
 ae pg X0 w0 (dw 124 #[(.string { data:= #[115,119,97,112] }),(I 0),(I 2),(I 2)] #[(0,(.string { data:= #[115,119,97,112] })),(1,(I 0)),(2,(I 2)),(3,(I 2))]) fun q=>
 un (cellOf a 0) fun r=>
 un (cellOf a 1) fun s=>
 un (cellOf a 2) fun t=>
 un (cellOf a 3) fun v=>
 un (cellOf b 0) fun y=>
 un (cellOf b 1) fun z=>
 un (cellOf b 2) fun A=>
 un (cellOf b 3) fun C=>
 un (cellOf c 0) fun D=>
 un (cellOf c 1) fun E=>
 un (cellOf c 2) fun F=>
 un (cellOf c 3) fun G=>
 un (cellOf d 0) fun H=>
 un (cellOf d 1) fun L=>
 un (cellOf d 2) fun M=>
 un (cellOf d 3) fun N=>
 un (cellOf e 0) fun O=>
 un (cellOf e 1) fun Q=>
 un (cellOf e 2) fun S=>
 un (cellOf e 3) fun T=>
 un (cellOf g 0) fun U=>
 un (cellOf g 1) fun V=>
 un (cellOf g 2) fun Y=>
 un (cellOf g 3) fun Z=>
 un (cellOf h 0) fun a0=>
 un (cellOf h 1) fun b0=>
 un (cellOf h 2) fun c0=>
 un (cellOf h 3) fun d0=>
 un (cellOf i 0) fun e0=>
 un (cellOf i 1) fun g0=>
 un (cellOf i 2) fun h0=>
 un (cellOf i 3) fun i0=>
 un (cellOf j 0) fun j0=>
 un (cellOf j 1) fun k0=>
 un (cellOf j 2) fun l0=>
 un (cellOf j 3) fun m0=>
 un (cellOf k 0) fun n0=>
 un (cellOf k 1) fun o0=>
 un (cellOf k 2) fun q0=>
 un (cellOf k 3) fun r0=>
 un (cellOf l 0) fun s0=>
 un (cellOf l 1) fun t0=>
 un (cellOf l 2) fun v0=>
 un (cellOf l 3) fun y0=>
 un (cellOf m 0) fun z0=>
 un (cellOf m 1) fun A0=>
 un (cellOf m 2) fun C0=>
 un (cellOf m 3) fun D0=>
 un (cellOf n 0) fun E0=>
 un (cellOf n 1) fun F0=>
 un (cellOf n 2) fun G0=>
 un (cellOf n 3) fun H0=>
 un (cellOf o 0) fun L0=>
 un (cellOf o 1) fun M0=>
 un (cellOf o 2) fun N0=>
 un (cellOf o 3) fun O0=>
 un (cellOf q 0) fun Q0=>
 un (cellOf q 1) fun S0=>
 un (cellOf q 2) fun T0=>
 un (cellOf q 3) fun U0=>
 ae pg X0 w0 (dw 217 #[(.string ⟨#[]⟩),(I 0),(I 0),(I 0),r,s,t,v,y,z,A,C,D,E,F,G,H,L,M,N,O,Q,S,T,U,V,Y,Z,a0,b0,c0,d0,e0,g0,h0,i0,j0,k0,l0,m0,n0,o0,q0,r0,s0,t0,v0,y0,z0,A0,C0,D0,E0,F0,G0,H0,L0,M0,N0,O0,Q0,S0,T0,U0] #[(1,a),(2,b),(3,c),(4,d),(5,e),(6,g),(7,h),(8,i),(9,j),(10,k),(11,l),(12,m),(13,n),(14,o),(15,q)]) fun V0=>
 un (ai (aa V0)) fun Y0=>
 aB (aj (ad (aa V0))==64) (aB (ao (ad (aa V0)) aR.one) (un (cj Y0 0 64) fun Z0=>
 aB (ao [Y0] bH) (fin R X0 w0 Z0))))
noncomputable def VT:bp:=⟨11,[],[],[0,2],[6,7,8,9],[]⟩
def J7 (p0:ByteArray):Prop:=
 (ae pg X0 w0 (kN 9 3 (.string p0)) fun a=>
 ae pg X0 w0 (binOp .geq 3 a (I 1)) fun b=>
 un (aU b true (.string p0)) fun c=>
 aJ pg X0 w0 b true (vS (kN 9 3 c)) fun d=>
 aJ pg X0 w0 b true (vS (binOp .leq 3 d (I 24))) fun e=>
 aC pg X0 w0 (aQ b e (B false)) fun g=>
 (fin R X0 w0 g))
noncomputable def VU:bp:=⟨41,[(1,(pg.cellsOf 62))],[4,8,14,20,24,27,36],[0,2,3,9,10,18,32],[13,15,16,23,25,26,28,29,30,35,37,38,39],[]⟩
def J8 (aX:Int) (bo:Nat) (bu:ByteArray):Prop:=
 (eC pg R X0 w0 true 97 #[(.float .f64 bo)] fun a b c=>
 ae pg c b (aE .eql 130 (.tmp 6) (.const (aA bh 0)) a (aA bh 0)) fun d=>
 ((ae pg c b (aE .eql 3 (.tmp 9) (.const (I 0)) (I aX) (I 0)) fun e=>
 (ay e
 (un (aU d true (.string bu)) fun g=>
 aJ pg c b d true (vS (aE .eql 9 (.tmp 15) (.const (.string { data:= #[] })) g (.string { data:= #[] }))) fun h=>
 aC pg c b (aQ d h (B false)) fun i=>
 (fin R c b i))
 (ae pg c b (aE .eql 3 (.tmp 9) (.const (I 1)) (I aX) (I 1)) fun j=>
 (ay j
 (ae pg c b (aE .eql 9 (.tmp 21) (.const (.string { data:= #[] })) (.string bu) (.string { data:= #[] })) fun k=>
 un (aU k true (.float .f64 bo)) fun l=>
 jn (fun (m:Value) (n:World) (o:XS)=>
 jn (fun (q:Value) (r:World) (s:XS)=>
 aJ pg s r k true (vS (aE .eql 130 (.tmp 26) (.tmp 29) m q)) fun t=>
 aC pg s r (aQ k t (B false)) fun v=>
 (fin R s r v)) fun y=>
 (gE k true (eC pg R o n true 164 #[l] y) (y undef n o))) fun z=>
 (gE k true (eC pg R c b false 97 #[l] z) (z undef b c)))
 (ae pg c b (aE .eql 3 (.tmp 9) (.const (I 2)) (I aX) (I 2)) fun A=>
 (ay A
 (un (aU d true (.string bu)) fun C=>
 aJ pg c b d true (vS (kN 9 3 C)) fun D=>
 aJ pg c b d true (vS (binOp .leq 3 D (I 64))) fun E=>
 aC pg c b (aQ d E (B false)) fun F=>
 (fin R c b F))
 (fin R c b (B false))))))))))
def lS (p0:Value):Prop:=
 eV pg R X0 w0 true (dN 222 p0) fun a b c=>
 (ae pg c b (cp (e7 165) #[] #[a]) fun d=>
 (fin R c b d))
noncomputable def NB:bp:=⟨14,[(3,(pg.cellsOf 62))],[],[0,1],[],[]⟩
def Ce (p0:Value) (dx:Int) (bY:Nat) (dP:ByteArray):Prop:=
 (aC pg X0 w0 (aF p0) fun a=>
 ae pg X0 w0 (aS 141 0 0 1 a) fun b=>
 ae pg X0 w0 (ld1 139 b) fun c=>
 eV pg R X0 w0 false (fC 139 62 3 1 #[(0,(.agg #[(I dx),(.float .f64 bY),(.string dP)]))]) fun d e g=>
 eV pg R g e true (e6 139 62 3 32 139 c d) fun h i j=>
 aC pg j i (aF p0) fun k=>
 ae pg j i (aS 141 0 0 1 k) fun l=>
 eU pg R j i true (st1 139 1 l h) fun _ m n=>
 fin R n m (aq #[]))
def Dm (p0:Value):Prop:=
 (aC pg X0 w0 (aF p0) fun a=>
 ae pg X0 w0 (aS 141 0 0 1 a) fun b=>
 ae pg X0 w0 (ld1 139 b) fun c=>
 ae pg X0 w0 (cB 139 3 c) fun d=>
 ae pg X0 w0 (binOp .sub 3 d (I 1)) fun e=>
 (aC pg X0 w0 (aF p0) fun g=>
 ae pg X0 w0 (aS 141 0 0 1 g) fun h=>
 ae pg X0 w0 (ld1 139 h) fun i=>
 ae pg X0 w0 (dr 139 3 i e) fun j=>
 ae pg X0 w0 (dY 62 3 j) fun k=>
 un (ai (aa k)) fun l=>
 aB (aj (ad (aa k))==3) (aB (ao (ad (aa k)) aR.one) ((aC pg X0 w0 (aF p0) fun m=>
 ae pg X0 w0 (aS 141 0 0 1 m) fun n=>
 ae pg X0 w0 (ld1 139 n) fun o=>
 ae pg X0 w0 (gf 139 o none (some e) none) fun q=>
 aC pg X0 w0 (aF p0) fun r=>
 ae pg X0 w0 (aS 141 0 0 1 r) fun s=>
 eU pg R X0 w0 true (st1 139 1 s q) fun _ t v=>
 (aB (bH l) (un (cj l 0 3) fun y=>
 un (ai (aa y)) fun z=>
 aB (aj (ad (aa y))==3) (aB (ao (ad (aa y)) aR.one) (un (cj z 0 3) fun A=>
 aB (ao [z] bH) (fin R v t A))))))))))
noncomputable def SX:bp:=⟨26,[(1,(pg.cellsOf 62))],[4,8,23],[0,2,3,5,6,21],[13,14,15,17,18,19],[]⟩
def Hv (aX:Int) (bo:Nat) (bu:ByteArray):Prop:=
 ((ae pg X0 w0 (aE .eql 3 (.tmp 5) (.const (I 1)) (I aX) (I 1)) fun a=>
 (ay a
 (eC pg R X0 w0 true 166 #[(.float .f64 bo)] fun b c d=>
 (ae pg d c (aE .neq 3 (.tmp 11) (.const (I 0)) b (I 0)) fun e=>
 un (aU e true b) fun g=>
 aJ pg d c e true (vS (aE .neq 3 (.tmp 14) (.const (I 4)) g (I 4))) fun h=>
 aC pg d c (aQ e h (B false)) fun i=>
 un (aU i true b) fun j=>
 aJ pg d c i true (vS (aE .neq 3 (.tmp 18) (.const (I 5)) j (I 5))) fun k=>
 aC pg d c (aQ i k (B false)) fun l=>
 (fin R d c l)))
 (ae pg X0 w0 (aE .eql 3 (.tmp 5) (.const (I 2)) (I aX) (I 2)) fun m=>
 (ay m
 (ae pg X0 w0 (aE .neq 9 (.tmp 24) (.const (.string { data:= #[] })) (.string bu) (.string { data:= #[] })) fun n=>
 (fin R X0 w0 n))
 (fin R X0 w0 (B false)))))))
noncomputable def Pq:bp:=⟨43,[(4,(pg.cellsOf 62)),(5,(pg.cellsOf 62))],[],[0,1,10,17,26,35],[],[]⟩
def Dn (p0:Value) (p1:Int):Prop:=
 eC pg R X0 w0 true 103 #[p0] fun a b c=>
 un (ai (aa a)) fun d=>
 aB (aj (ad (aa a))==3) (aB (ao (ad (aa a)) aR.one) ((eC pg R c b true 103 #[p0] fun e g h=>
 un (ai (aa e)) fun i=>
 aB (aj (ad (aa e))==3) (aB (ao (ad (aa e)) aR.one) ((((jn (fun (j:World) (k:XS)=>
 fin R k j (aq #[])) fun l=>
 ae pg h g (aE .eql 3 (.tmp 10) (.const (I 11)) (I p1) (I 11)) fun m=>
 (ay m
 (aB (bH i) (aB (bH d) (un (cj i 0 3) fun n=>
 un (cj d 0 3) fun o=>
 eC pg R h g true 168 #[n,o] fun q r s=>
 ae pg s r (binOp .lss 3 q (I 0)) fun t=>
 eC pg R s r true 167 #[t] fun v y z=>
 eC pg R z y true 101 #[p0,v] fun _ A C=>
 (l A C))))
 (ae pg h g (aE .eql 3 (.tmp 10) (.const (I 12)) (I p1) (I 12)) fun D=>
 (ay D
 (aB (bH i) (aB (bH d) (un (cj i 0 3) fun E=>
 un (cj d 0 3) fun F=>
 eC pg R h g true 168 #[E,F] fun G H L=>
 ae pg L H (aE .eql 3 (.tmp 31) (.const (I 0)) G (I 0)) fun M=>
 eC pg R L H true 167 #[M] fun N O Q=>
 eC pg R Q O true 101 #[p0,N] fun _ S T=>
 (l S T))))
 (ae pg h g (aE .eql 3 (.tmp 10) (.const (I 15)) (I p1) (I 15)) fun U=>
 (ay U
 (aB (bH d) (un (cj d 0 3) fun V=>
 eC pg R h g true 101 #[p0,V] fun _ Y Z=>
 (aB (bH i) (un (cj i 0 3) fun a0=>
 eC pg R Z Y true 101 #[p0,a0] fun _ b0 c0=>
 (l b0 c0)))))
 (aB (bH i) (aB (bH d) (un (cj i 0 3) fun d0=>
 un (cj d 0 3) fun e0=>
 eC pg R h g true 169 #[(I p1),d0,e0] fun g0 h0 i0=>
 eC pg R i0 h0 true 101 #[p0,g0] fun _ j0 k0=>
 (l j0 k0)))))))))))))))))
def mj (p0 p1:Value):Prop:=
 ae pg X0 w0 (cB 70 3 p0) fun a=>
 (ae pg X0 w0 (lR bh 3 132 a) fun b=>
 eC pg R X0 w0 true 162 #[b] fun c d e=>
 eC pg R e d true 172 #[p0,(I 0),a,c,p1] fun _ g h=>
 fin R h g (aq #[]))
noncomputable def Pr:bp:=⟨98,[(1,(pg.cellsOf 44)),(2,(pg.cellsOf 44)),(4,(pg.cellsOf 30))],[6,13,14,15,16,17,22,23,24,25,26,27,32,33,34,35,36,37,38,43,44,45,46,47,52,53,54,55,60,61,65,66,67,68,71,72,73,77,78,81,87,88,89,90,96],[0,3,7,9,18,28,39,48,56,62,69,74,79,82,91,93],[],[]⟩
def DP (aX bo bu bO bZ cr cq cz dh cY bP bN da cP cN:Int) (cO:Bool) (cQ cT:Int) (cE cA cG cH cC cM:Value) (cD cI:Int) (cJ cK:Nat) (cL eI eJ eK eM eO:Int) (eP eQ:Value):Prop:=
 (ae pg X0 w0 (dw 30 #[(I 0),(I 0),(I 0)] #[]) fun a=>
 un (ai (aa a)) fun b=>
 aB (aj (ad (aa a))==3) (aB (ao (ad (aa a)) aR.one) ((((jn (fun (c:Value)=>
 (aB (bH c) (un (cj c 0 36) fun d=>
 un (ai (aa d)) fun e=>
 aB (aj (ad (aa d))==36) (aB (ao (ad (aa d)) aR.one) ((un (cj e 0 36) fun g=>
 aB (ao [e] bH) (fin R X0 w0 (aq #[g,(B true)])))))))) fun h=>
 ae pg X0 w0 (aE .eql 3 (.tmp 7) (.const (I 1)) (I aX) (I 1)) fun i=>
 (ay i
 (ae pg X0 w0 (dw 27 #[(I 0),(I 0),(I 0)] #[]) fun j=>
 aB (bH b) (un (ai (aO (cV [(I aX),(I bo),(I bu),(I bO),(I bZ),(I cr),(I cq),(I cz),(I dh),(I cY),(I bP),(I bN),(I da),(I cP),(I cN),(B cO),(I cQ),(I cT),cE,cA,cG,cH,cC,cM,(I cD),(I cI),(.float .f64 cJ),(.float .f64 cK),(I cL),(I eI),(I eJ),(I eK),(I eM),(I eO),eP,eQ] 3 (ad (aa j))))) fun k=>
 aB (aj (ad (aa j))==3) (aB (ao (ad (aa j)) aR.one) (un (ai (aO (cV (ad (aa k)) 6 [(I 0)]))) fun l=>
 un (ai (aO (cV (ad (aa l)) 7 [(I 0)]))) fun m=>
 un (cj b 0 3) fun n=>
 un (ai (aO (cV (ad (aa m)) 9 (ad (aa n))))) fun o=>
 aB (aj (ad (aa n))==3) (aB (ao (ad (aa n)) aR.one) (un (ai (aO (cV (ad (aa o)) 18 [(.slice none 0 0)]))) fun q=>
 (h q)))))))
 (ae pg X0 w0 (aE .eql 3 (.tmp 7) (.const (I 2)) (I aX) (I 2)) fun r=>
 (ay r
 (ae pg X0 w0 (dw 27 #[(I 0),(I 0),(I 0)] #[]) fun s=>
 aB (bH b) (un (ai (aO (cV [(I aX),(I bo),(I bu),(I bO),(I bZ),(I cr),(I cq),(I cz),(I dh),(I cY),(I bP),(I bN),(I da),(I cP),(I cN),(B cO),(I cQ),(I cT),cE,cA,cG,cH,cC,cM,(I cD),(I cI),(.float .f64 cJ),(.float .f64 cK),(I cL),(I eI),(I eJ),(I eK),(I eM),(I eO),eP,eQ] 3 (ad (aa s))))) fun t=>
 aB (aj (ad (aa s))==3) (aB (ao (ad (aa s)) aR.one) (un (ai (aO (cV (ad (aa t)) 6 [(I 0)]))) fun v=>
 un (ai (aO (cV (ad (aa v)) 8 [(I 0)]))) fun y=>
 un (cj b 0 3) fun z=>
 un (ai (aO (cV (ad (aa y)) 9 (ad (aa z))))) fun A=>
 aB (aj (ad (aa z))==3) (aB (ao (ad (aa z)) aR.one) (un (ai (aO (cV (ad (aa A)) 19 [(.slice none 0 0)]))) fun C=>
 un (ai (aO (cV (ad (aa C)) 22 [(.slice none 0 0)]))) fun D=>
 (h D)))))))
 (ae pg X0 w0 (aE .eql 3 (.tmp 7) (.const (I 3)) (I aX) (I 3)) fun E=>
 (ay E
 (ae pg X0 w0 (dw 27 #[(I 0),(I 0),(I 0)] #[]) fun F=>
 aB (bH b) (un (ai (aO (cV [(I aX),(I bo),(I bu),(I bO),(I bZ),(I cr),(I cq),(I cz),(I dh),(I cY),(I bP),(I bN),(I da),(I cP),(I cN),(B cO),(I cQ),(I cT),cE,cA,cG,cH,cC,cM,(I cD),(I cI),(.float .f64 cJ),(.float .f64 cK),(I cL),(I eI),(I eJ),(I eK),(I eM),(I eO),eP,eQ] 3 (ad (aa F))))) fun G=>
 aB (aj (ad (aa F))==3) (aB (ao (ad (aa F)) aR.one) (un (ai (aO (cV (ad (aa G)) 6 [(I 0)]))) fun H=>
 un (ai (aO (cV (ad (aa H)) 7 [(I 0)]))) fun L=>
 un (cj b 0 3) fun M=>
 un (ai (aO (cV (ad (aa L)) 9 (ad (aa M))))) fun N=>
 aB (aj (ad (aa M))==3) (aB (ao (ad (aa M)) aR.one) (un (ai (aO (cV (ad (aa N)) 19 [(.slice none 0 0)]))) fun O=>
 un (ai (aO (cV (ad (aa O)) 20 [(.slice none 0 0)]))) fun Q=>
 un (ai (aO (cV (ad (aa Q)) 21 [(.slice none 0 0)]))) fun S=>
 (h S)))))))
 (ae pg X0 w0 (aE .eql 3 (.tmp 7) (.const (I 4)) (I aX) (I 4)) fun T=>
 (ay T
 (ae pg X0 w0 (dw 27 #[(I 0),(I 0),(I 0)] #[]) fun U=>
 aB (bH b) (un (ai (aO (cV [(I aX),(I bo),(I bu),(I bO),(I bZ),(I cr),(I cq),(I cz),(I dh),(I cY),(I bP),(I bN),(I da),(I cP),(I cN),(B cO),(I cQ),(I cT),cE,cA,cG,cH,cC,cM,(I cD),(I cI),(.float .f64 cJ),(.float .f64 cK),(I cL),(I eI),(I eJ),(I eK),(I eM),(I eO),eP,eQ] 3 (ad (aa U))))) fun V=>
 aB (aj (ad (aa U))==3) (aB (ao (ad (aa U)) aR.one) (un (ai (aO (cV (ad (aa V)) 6 [(I 0)]))) fun Y=>
 un (ai (aO (cV (ad (aa Y)) 8 [(I 0)]))) fun Z=>
 un (cj b 0 3) fun a0=>
 un (ai (aO (cV (ad (aa Z)) 9 (ad (aa a0))))) fun b0=>
 aB (aj (ad (aa a0))==3) (aB (ao (ad (aa a0)) aR.one) (un (ai (aO (cV (ad (aa b0)) 22 [(.slice none 0 0)]))) fun c0=>
 (h c0)))))))
 (ae pg X0 w0 (aE .eql 3 (.tmp 7) (.const (I 5)) (I aX) (I 5)) fun d0=>
 (ay d0
 (ae pg X0 w0 (dw 27 #[(I 0),(I 0),(I 0)] #[]) fun e0=>
 aB (bH b) (un (ai (aO (cV [(I aX),(I bo),(I bu),(I bO),(I bZ),(I cr),(I cq),(I cz),(I dh),(I cY),(I bP),(I bN),(I da),(I cP),(I cN),(B cO),(I cQ),(I cT),cE,cA,cG,cH,cC,cM,(I cD),(I cI),(.float .f64 cJ),(.float .f64 cK),(I cL),(I eI),(I eJ),(I eK),(I eM),(I eO),eP,eQ] 3 (ad (aa e0))))) fun g0=>
 aB (aj (ad (aa e0))==3) (aB (ao (ad (aa e0)) aR.one) (un (ai (aO (cV (ad (aa g0)) 6 [(I 0)]))) fun h0=>
 un (ai (aO (cV (ad (aa h0)) 15 [(B false)]))) fun i0=>
 un (cj b 0 3) fun j0=>
 un (ai (aO (cV (ad (aa i0)) 9 (ad (aa j0))))) fun k0=>
 aB (aj (ad (aa j0))==3) (aB (ao (ad (aa j0)) aR.one) (h k0))))))
 ((jn (fun (l0:Value)=>
 ay l0
 (ae pg X0 w0 (dw 27 #[(I 0),(I 0),(I 0)] #[]) fun m0=>
 un (ai (aO (cV [(I aX),(I bo),(I bu),(I bO),(I bZ),(I cr),(I cq),(I cz),(I dh),(I cY),(I bP),(I bN),(I da),(I cP),(I cN),(B cO),(I cQ),(I cT),cE,cA,cG,cH,cC,cM,(I cD),(I cI),(.float .f64 cJ),(.float .f64 cK),(I cL),(I eI),(I eJ),(I eK),(I eM),(I eO),eP,eQ] 3 (ad (aa m0))))) fun n0=>
 aB (aj (ad (aa m0))==3) (aB (ao (ad (aa m0)) aR.one) (un (ai (aO (cV (ad (aa n0)) 6 [(I 0)]))) fun o0=>
 (h o0))))
 (ae pg X0 w0 (aE .eql 3 (.tmp 7) (.const (I 8)) (I aX) (I 8)) fun q0=>
 (ay q0
 (aB (bH b) (un (cj b 0 3) fun r0=>
 un (ai (aO (cV [(I aX),(I bo),(I bu),(I bO),(I bZ),(I cr),(I 0),(I cz),(I dh),(I cY),(I bP),(I bN),(I da),(I cP),(I cN),(B cO),(I 0),(I 0),cE,cA,cG,cH,cC,cM,(I cD),(I cI),(.float .f64 cJ),(.float .f64 cK),(I cL),(I eI),(I eJ),(I eK),(I eM),(I eO),eP,eQ] 9 (ad (aa r0))))) fun s0=>
 aB (aj (ad (aa r0))==3) (aB (ao (ad (aa r0)) aR.one) (h s0))))
 (ae pg X0 w0 (aE .eql 3 (.tmp 7) (.const (I 9)) (I aX) (I 9)) fun t0=>
 (ay t0
 ((h (.agg #[(I aX),(I bo),(I bu),(I bO),(I bZ),(I cr),(I 0),(I cz),(I dh),(I cY),(I bP),(I bN),(I da),(I cP),(I cN),(B cO),(I 0),(I cT),cE,cA,cG,cH,cC,(.slice none 0 0),(I cD),(I cI),(.float .f64 cJ),(.float .f64 cK),(I cL),(I eI),(I eJ),(I eK),(I eM),(I eO),eP,eQ])))
 (ae pg X0 w0 (aE .eql 3 (.tmp 7) (.const (I 10)) (I aX) (I 10)) fun v0=>
 (ay v0
 (ae pg X0 w0 (dw 42 #[(I 0),(I 0),(.float .f64 0),(.float .f64 0),(I 0),(I 0),(I 0),(I 0),(I 0),(I 0),(.slice none 0 0),(.slice none 0 0)] #[]) fun y0=>
 un (ai (aO (cV [(I aX),(I bo),(I bu),(I bO),(I bZ),(I cr),(I 0),(I cz),(I dh),(I cY),(I bP),(I bN),(I da),(I cP),(I cN),(B cO),(I cQ),(I cT),cE,cA,cG,cH,cC,cM,(I cD),(I cI),(.float .f64 cJ),(.float .f64 cK),(I cL),(I eI),(I eJ),(I eK),(I eM),(I eO),eP,eQ] 24 (ad (aa y0))))) fun z0=>
 aB (aj (ad (aa y0))==12) (aB (ao (ad (aa y0)) aR.one) (h z0)))
 (ae pg X0 w0 (aE .eql 3 (.tmp 7) (.const (I 11)) (I aX) (I 11)) fun A0=>
 (ay A0
 ((h (.agg #[(I aX),(I bo),(I bu),(I bO),(I bZ),(I cr),(I 0),(I cz),(I dh),(I cY),(I bP),(I bN),(I da),(I cP),(I cN),(B cO),(I cQ),(I cT),cE,cA,cG,cH,cC,cM,(I cD),(I cI),(.float .f64 cJ),(.float .f64 cK),(I cL),(I eI),(I eJ),(I eK),(I eM),(I eO),eP,eQ])))
 (ae pg X0 w0 (aE .eql 3 (.tmp 7) (.const (I 12)) (I aX) (I 12)) fun C0=>
 (ay C0
 (aB (bH b) (ae pg X0 w0 (dw 27 #[(I 0),(I 0),(I 0)] #[]) fun D0=>
 un (cj b 0 3) fun E0=>
 un (ai (aO (cV [(I aX),(I bo),(I bu),(I bO),(I bZ),(I cr),(I cq),(I cz),(I dh),(I cY),(I bP),(I bN),(I da),(I cP),(I cN),(B cO),(I cQ),(I cT),cE,cA,cG,cH,cC,cM,(I cD),(I cI),(.float .f64 cJ),(.float .f64 cK),(I cL),(I eI),(I eJ),(I eK),(I eM),(I eO),eP,eQ] 12 (ad (aa E0))))) fun F0=>
 aB (aj (ad (aa E0))==3) (aB (ao (ad (aa E0)) aR.one) (un (ai (aO (cV (ad (aa F0)) 9 (ad (aa E0))))) fun G0=>
 aB (aj (ad (aa E0))==3) (aB (ao (ad (aa E0)) aR.one) (un (ai (aO (cV (ad (aa G0)) 3 (ad (aa D0))))) fun H0=>
 aB (aj (ad (aa D0))==3) (aB (ao (ad (aa D0)) aR.one) (un (ai (aO (cV (ad (aa H0)) 20 [(.slice none 0 0)]))) fun L0=>
 (h L0)))))))))
 (ae pg X0 w0 (aE .eql 3 (.tmp 7) (.const (I 13)) (I aX) (I 13)) fun M0=>
 (ay M0
 ((h (.agg #[(I aX),(I bo),(I bu),(I bO),(I bZ),(I cr),(I cq),(I cz),(I dh),(I cY),(I bP),(I bN),(I da),(I cP),(I cN),(B cO),(I cQ),(I cT),cE,cA,cG,cH,cC,cM,(I cD),(I cI),(.float .f64 cJ),(.float .f64 cK),(I cL),(I eI),(I eJ),(I eK),(I eM),(I eO),eP,eQ])))
 (ae pg X0 w0 (aE .eql 3 (.tmp 7) (.const (I 14)) (I aX) (I 14)) fun N0=>
 (ay N0
 (aB (bH b) (un (cj b 0 3) fun O0=>
 un (ai (aO (cV [(I aX),(I bo),(I bu),(I bO),(I bZ),(I cr),(I cq),(I cz),(I dh),(I cY),(I bP),(I bN),(I da),(I cP),(I cN),(B cO),(I cQ),(I cT),cE,cA,cG,cH,cC,cM,(I cD),(I cI),(.float .f64 cJ),(.float .f64 cK),(I cL),(I eI),(I eJ),(I eK),(I eM),(I eO),eP,eQ] 9 (ad (aa O0))))) fun Q0=>
 aB (aj (ad (aa O0))==3) (aB (ao (ad (aa O0)) aR.one) (h Q0))))
 (aB (ao [(I aX),(I bo),(I bu),(I bO),(I bZ),(I cr),(I cq),(I cz),(I dh),(I cY),(I bP),(I bN),(I da),(I cP),(I cN),(B cO),(I cQ),(I cT),cE,cA,cG,cH,cC,cM,(I cD),(I cI),(.float .f64 cJ),(.float .f64 cK),(I cL),(I eI),(I eJ),(I eK),(I eM),(I eO),eP,eQ] aR.one) ((fin R X0 w0 (aq #[(.agg #[(I aX),(I bo),(I bu),(I bO),(I bZ),(I cr),(I cq),(I cz),(I dh),(I cY),(I bP),(I bN),(I da),(I cP),(I cN),(B cO),(I cQ),(I cT),cE,cA,cG,cH,cC,cM,(I cD),(I cI),(.float .f64 cJ),(.float .f64 cK),(I cL),(I eI),(I eJ),(I eK),(I eM),(I eO),eP,eQ]),(B false)]))))))))))))))))))) fun S0=>
 ae pg X0 w0 (aE .eql 3 (.tmp 7) (.const (I 6)) (I aX) (I 6)) fun T0=>
 (ay T0
 (S0 T0)
 (ae pg X0 w0 (aE .eql 3 (.tmp 7) (.const (I 7)) (I aX) (I 7)) fun U0=>
 (S0 U0))))))))))))))))))))
noncomputable def VV:bp:=⟨21,[],[],[0,2],[5,6,7,8,9,10,11,13,14,15,17,18,19],[]⟩
def J9 (p0:Int):Prop:=
 (eC pg R X0 w0 true 173 #[(I p0)] fun a b c=>
 un (aU a false (I p0)) fun d=>
 aJ pg c b a false (vS (binOp .gtr 3 d (I 20))) fun e=>
 un (aU a false e) fun g=>
 un (aU g true (I p0)) fun h=>
 aJ pg c b g true (vS (binOp .leq 3 h (I 22))) fun i=>
 aJ pg c b a false (aQ g i (B false)) fun j=>
 aC pg c b (aQ a (B true) j) fun k=>
 un (aU k false (I p0)) fun l=>
 aJ pg c b k false (vS (aE .eql 3 (.tmp 14) (.const (I 31)) l (I 31))) fun m=>
 aC pg c b (aQ k (B true) m) fun n=>
 un (aU n false (I p0)) fun o=>
 aJ pg c b n false (vS (aE .eql 3 (.tmp 18) (.const (I 32)) o (I 32))) fun q=>
 aC pg c b (aQ n (B true) q) fun r=>
 (fin R c b r))
noncomputable def VW:bp:=⟨132,[(1,(pg.cellsOf 44)),(3,(pg.cellsOf 42))],[6,8,13,18,23,28,34,40,45,50,54,55,59,60,65,66,72,73,79,85,91,97,107,110,114,118,122,126],[0,2,4,5],[12,14,15,17,19,20,22,24,25,27,29,30,31,33,35,36,37,39,41,42,44,46,47,49,51,52,58,61,62,64,67,68,69,71,74,75,76,78,80,81,82,84,86,87,88,90,92,93,94,96,98,99,100,103,104,106,108,109,111,112,113,115,116,117,119,120,121,123,124,125,127,128,129,130],[]⟩
def Ka (_p0_0 _p0_1 _p0_2 bO bZ cr cq cz dh cY bP bN da cP cN:Int) (cO:Bool) (cQ cT:Int) (cE cA cG cH cC cM:Value) (cD cI:Int) (cJ cK:Nat) (cL eI eJ eK eM eO:Int) (eP eQ:Value):Prop:=
 (aB (ao [(I cD),(I cI),(.float .f64 cJ),(.float .f64 cK),(I cL),(I eI),(I eJ),(I eK),(I eM),(I eO),eP,eQ] aR.one) ((ae pg X0 w0 (dw 27 #[(I 0),(I 0),(I 0)] #[]) fun a=>
 ae pg X0 w0 (aE .eql 27 (.tmp 9) (.tmp 10) (.agg #[(I bO),(I bZ),(I cr)]) a) fun b=>
 un (aU b true (I cq)) fun c=>
 aJ pg X0 w0 b true (vS (aE .eql 3 (.tmp 14) (.const (I 0)) c (I 0))) fun d=>
 aC pg X0 w0 (aQ b d (B false)) fun e=>
 un (aU e true (I cz)) fun g=>
 aJ pg X0 w0 e true (vS (aE .eql 3 (.tmp 19) (.const (I 0)) g (I 0))) fun h=>
 aC pg X0 w0 (aQ e h (B false)) fun i=>
 un (aU i true (I dh)) fun j=>
 aJ pg X0 w0 i true (vS (aE .eql 28 (.tmp 24) (.const (I 0)) j (I 0))) fun k=>
 aC pg X0 w0 (aQ i k (B false)) fun l=>
 un (aU l true (.agg #[(I cY),(I bP),(I bN)])) fun m=>
 aJ pg X0 w0 l true (vS (dw 30 #[(I 0),(I 0),(I 0)] #[])) fun n=>
 aJ pg X0 w0 l true (vS (aE .eql 30 (.tmp 29) (.tmp 30) m n)) fun o=>
 aC pg X0 w0 (aQ l o (B false)) fun q=>
 un (aU q true (.agg #[(I da),(I cP),(I cN)])) fun r=>
 aJ pg X0 w0 q true (vS (dw 30 #[(I 0),(I 0),(I 0)] #[])) fun s=>
 aJ pg X0 w0 q true (vS (aE .eql 30 (.tmp 35) (.tmp 36) r s)) fun t=>
 aC pg X0 w0 (aQ q t (B false)) fun v=>
 un (aU v true (B cO)) fun y=>
 aJ pg X0 w0 v true (vS (aY br y)) fun z=>
 aC pg X0 w0 (aQ v z (B false)) fun A=>
 un (aU A true (I cQ)) fun C=>
 aJ pg X0 w0 A true (vS (aE .eql 3 (.tmp 46) (.const (I 0)) C (I 0))) fun D=>
 aC pg X0 w0 (aQ A D (B false)) fun E=>
 un (aU E true (I cT)) fun F=>
 aJ pg X0 w0 E true (vS (aE .eql 3 (.tmp 51) (.const (I 0)) F (I 0))) fun G=>
 aC pg X0 w0 (aQ E G (B false)) fun H=>
 (ae pg X0 w0 (aE .eql 3 (.tmp 56) (.const (I 0)) (I cD) (I 0)) fun L=>
 un (aU L true (I cI)) fun M=>
 aJ pg X0 w0 L true (vS (aE .eql 3 (.tmp 61) (.const (I 0)) M (I 0))) fun N=>
 aC pg X0 w0 (aQ L N (B false)) fun O=>
 un (aU O true (.float .f64 cJ)) fun Q=>
 jn (fun (S:Value) (T:World) (U:XS)=>
 aJ pg U T O true (vS (aE .eql 130 (.tmp 68) (.const (aA bh 0)) S (aA bh 0))) fun V=>
 aC pg U T (aQ O V (B false)) fun Y=>
 un (aU Y true (.float .f64 cK)) fun Z=>
 jn (fun (a0:Value) (b0:World) (c0:XS)=>
 aJ pg c0 b0 Y true (vS (aE .eql 130 (.tmp 75) (.const (aA bh 0)) a0 (aA bh 0))) fun d0=>
 aC pg c0 b0 (aQ Y d0 (B false)) fun e0=>
 un (aU e0 true (.agg #[(I cL),(I eI),(I eJ)])) fun g0=>
 aJ pg c0 b0 e0 true (vS (dw 30 #[(I 0),(I 0),(I 0)] #[])) fun h0=>
 aJ pg c0 b0 e0 true (vS (aE .eql 30 (.tmp 80) (.tmp 81) g0 h0)) fun i0=>
 aC pg c0 b0 (aQ e0 i0 (B false)) fun j0=>
 un (aU j0 true (.agg #[(I eK),(I eM),(I eO)])) fun k0=>
 aJ pg c0 b0 j0 true (vS (dw 30 #[(I 0),(I 0),(I 0)] #[])) fun l0=>
 aJ pg c0 b0 j0 true (vS (aE .eql 30 (.tmp 86) (.tmp 87) k0 l0)) fun m0=>
 aC pg c0 b0 (aQ j0 m0 (B false)) fun n0=>
 un (aU n0 true eP) fun o0=>
 aJ pg c0 b0 n0 true (vS (cB 39 3 o0)) fun q0=>
 aJ pg c0 b0 n0 true (vS (aE .eql 3 (.tmp 93) (.const (I 0)) q0 (I 0))) fun r0=>
 aC pg c0 b0 (aQ n0 r0 (B false)) fun s0=>
 un (aU s0 true eQ) fun t0=>
 aJ pg c0 b0 s0 true (vS (cB 40 3 t0)) fun v0=>
 aJ pg c0 b0 s0 true (vS (aE .eql 3 (.tmp 99) (.const (I 0)) v0 (I 0))) fun y0=>
 aC pg c0 b0 (aQ s0 y0 (B false)) fun z0=>
 (un (aU H true z0) fun A0=>
 aC pg c0 b0 (aQ H A0 (B false)) fun C0=>
 un (aU C0 true cE) fun D0=>
 aJ pg c0 b0 C0 true (vS (cB 31 3 D0)) fun E0=>
 un (aU C0 true cA) fun F0=>
 aJ pg c0 b0 C0 true (vS (cB 32 3 F0)) fun G0=>
 aJ pg c0 b0 C0 true (vS (binOp .add 3 E0 G0)) fun H0=>
 un (aU C0 true cG) fun L0=>
 aJ pg c0 b0 C0 true (vS (cB 33 3 L0)) fun M0=>
 aJ pg c0 b0 C0 true (vS (binOp .add 3 H0 M0)) fun N0=>
 un (aU C0 true cH) fun O0=>
 aJ pg c0 b0 C0 true (vS (cB 34 3 O0)) fun Q0=>
 aJ pg c0 b0 C0 true (vS (binOp .add 3 N0 Q0)) fun S0=>
 un (aU C0 true cC) fun T0=>
 aJ pg c0 b0 C0 true (vS (cB 22 3 T0)) fun U0=>
 aJ pg c0 b0 C0 true (vS (binOp .add 3 S0 U0)) fun V0=>
 un (aU C0 true cM) fun Y0=>
 aJ pg c0 b0 C0 true (vS (cB 35 3 Y0)) fun Z0=>
 aJ pg c0 b0 C0 true (vS (binOp .add 3 V0 Z0)) fun a1=>
 aJ pg c0 b0 C0 true (vS (aE .eql 3 (.tmp 129) (.const (I 0)) a1 (I 0))) fun b1=>
 aC pg c0 b0 (aQ C0 b1 (B false)) fun c1=>
 (fin R c0 b0 c1))) fun d1=>
 (gE Y true (eC pg R U T true 97 #[Z] d1) (d1 undef T U))) fun e1=>
 (gE O true (eC pg R X0 w0 true 97 #[Q] e1) (e1 undef w0 X0))))))
noncomputable def QC:bp:=⟨95,[(1,(pg.cellsOf 44))],[3,17,21,26,31,36,42,46,51,57,61,66,67,68,70,76,81,83,85,87,92],[0,2,4,5,15,40,55,74,79,90],[20,22,23,25,27,28,30,32,33,35,37,38,45,47,48,50,52,53,60,62,63,65,69,71,72],[]⟩
def Fh (aX bo bu bO bZ cr cq cz dh cY bP bN da cP cN:Int) (cO:Bool) (cQ cT:Int) (cE cA cG cH cC cM:Value) (cD cI:Int) (cJ cK:Nat) (cL eI eJ eK eM eO:Int) (eP eQ:Value):Prop:=
 (((jn (fun (a:Value)=>
 ay a
 (eC pg R X0 w0 true 174 #[(.agg #[(I aX),(I bo),(I bu),(I bO),(I bZ),(I cr),(I cq),(I cz),(I dh),(I cY),(I bP),(I bN),(I da),(I cP),(I cN),(B cO),(I cQ),(I cT),cE,cA,cG,cH,cC,cM,(I cD),(I cI),(.float .f64 cJ),(.float .f64 cK),(I cL),(I eI),(I eJ),(I eK),(I eM),(I eO),eP,eQ])] fun b c d=>
 (fin R d c b))
 (ae pg X0 w0 (aE .eql 3 (.tmp 4) (.const (I 8)) (I aX) (I 8)) fun e=>
 (ay e
 (eC pg R X0 w0 true 173 #[(I cq)] fun g h i=>
 un (aU g true (I cQ)) fun j=>
 aJ pg i h g true (vS (binOp .geq 3 j (I 1))) fun k=>
 aC pg i h (aQ g k (B false)) fun l=>
 un (aU l true (I cT)) fun m=>
 aJ pg i h l true (vS (binOp .geq 3 m (I 0))) fun n=>
 aC pg i h (aQ l n (B false)) fun o=>
 un (aU o true (I cT)) fun q=>
 aJ pg i h o true (vS (binOp .leq 3 q (I 8))) fun r=>
 aC pg i h (aQ o r (B false)) fun s=>
 un (aU s true (.agg #[(I cY),(I bP),(I bN)])) fun t=>
 jn (fun (v:Value) (y:World) (z:XS)=>
 aC pg z y (aQ s v (B false)) fun A=>
 (fin R z y A)) fun C=>
 (gE s true (eC pg R i h true 85 #[t] C) (C undef h i)))
 (ae pg X0 w0 (aE .eql 3 (.tmp 4) (.const (I 9)) (I aX) (I 9)) fun D=>
 (ay D
 (eC pg R X0 w0 true 173 #[(I cq)] fun E F G=>
 un (aU E true (I cQ)) fun H=>
 aJ pg G F E true (vS (binOp .geq 3 H (I 1))) fun L=>
 aC pg G F (aQ E L (B false)) fun M=>
 un (aU M true cM) fun N=>
 jn (fun (O:Value) (Q:World) (S:XS)=>
 aC pg S Q (aQ M O (B false)) fun T=>
 (fin R S Q T)) fun U=>
 (gE M true (eC pg R G F true 175 #[N] U) (U undef F G)))
 (ae pg X0 w0 (aE .eql 3 (.tmp 4) (.const (I 10)) (I aX) (I 10)) fun V=>
 (ay V
 (eC pg R X0 w0 true 173 #[(I cq)] fun Y Z a0=>
 un (aU Y true (.agg #[(I cD),(I cI),(.float .f64 cJ),(.float .f64 cK),(I cL),(I eI),(I eJ),(I eK),(I eM),(I eO),eP,eQ])) fun b0=>
 jn (fun (c0:Value) (d0:World) (e0:XS)=>
 aC pg e0 d0 (aQ Y c0 (B false)) fun g0=>
 un (aU g0 true (I cD)) fun h0=>
 un (aU g0 true (I cq)) fun i0=>
 aJ pg e0 d0 g0 true (vS (aE .eql 3 (.tmp 69) (.tmp 71) h0 i0)) fun j0=>
 aC pg e0 d0 (aQ g0 j0 (B false)) fun k0=>
 (fin R e0 d0 k0)) fun l0=>
 (gE Y true (eC pg R a0 Z true 176 #[b0] l0) (l0 undef Z a0)))
 (ae pg X0 w0 (aE .eql 3 (.tmp 4) (.const (I 11)) (I aX) (I 11)) fun m0=>
 (ay m0
 (eC pg R X0 w0 true 173 #[(I cq)] fun n0 o0 q0=>
 (fin R q0 o0 n0))
 (ae pg X0 w0 (aE .eql 3 (.tmp 4) (.const (I 12)) (I aX) (I 12)) fun r0=>
 (ay r0
 (eC pg R X0 w0 true 177 #[(.agg #[(I da),(I cP),(I cN)]),(.agg #[(I cY),(I bP),(I bN)]),(.agg #[(I bO),(I bZ),(I cr)]),cG] fun s0 t0 v0=>
 (fin R v0 t0 s0))
 (ae pg X0 w0 (aE .eql 3 (.tmp 4) (.const (I 14)) (I aX) (I 14)) fun y0=>
 (ay y0
 (eC pg R X0 w0 true 85 #[(.agg #[(I cY),(I bP),(I bN)])] fun z0 A0 C0=>
 (fin R C0 A0 z0))
 (fin R X0 w0 (B true))))))))))))))) fun D0=>
 ae pg X0 w0 (aE .eql 3 (.tmp 4) (.const (I 1)) (I aX) (I 1)) fun E0=>
 (ay E0
 (D0 E0)
 (ae pg X0 w0 (aE .eql 3 (.tmp 4) (.const (I 2)) (I aX) (I 2)) fun F0=>
 (ay F0
 (D0 F0)
 (ae pg X0 w0 (aE .eql 3 (.tmp 4) (.const (I 3)) (I aX) (I 3)) fun G0=>
 (ay G0
 (D0 G0)
 (ae pg X0 w0 (aE .eql 3 (.tmp 4) (.const (I 4)) (I aX) (I 4)) fun H0=>
 (ay H0
 (D0 H0)
 (ae pg X0 w0 (aE .eql 3 (.tmp 4) (.const (I 5)) (I aX) (I 5)) fun L0=>
 (ay L0
 (D0 L0)
 (ae pg X0 w0 (aE .eql 3 (.tmp 4) (.const (I 6)) (I aX) (I 6)) fun M0=>
 (ay M0
 (D0 M0)
 (ae pg X0 w0 (aE .eql 3 (.tmp 4) (.const (I 7)) (I aX) (I 7)) fun N0=>
 (D0 N0))))))))))))))))
noncomputable def GH:bp:=⟨60,[(4,(pg.cellsOf 44))],[13,28,37,40,47,52,57],[0,1,2,6,7,8,32,42],[18,19,20,21,22,23,24,26,27,29,30,31],[]⟩
def xM (p0:Value) (_p1_0 _p1_1 _p1_2 iu iB jy iO _p1_7 mG mH jD jE _p1_12 _p1_13 _p1_14:Int) (_p1_15:Bool) (_p1_16 _p1_17:Int) (_p1_18 _p1_19 _p1_20 _p1_21 jU _p1_23:Value) (_p1_24 _p1_25:Int) (_p1_26 _p1_27:Nat) (_p1_28 _p1_29 _p1_30 _p1_31 _p1_32 _p1_33:Int) (_p1_34 _p1_35:Value) (p2:Bool):Prop:=
 (aC pg X0 w0 (aF p0) fun a=>
 ae pg X0 w0 (aS 93 7 7 1 a) fun b=>
 ae pg X0 w0 (ld1 88 b) fun c=>
 ae pg X0 w0 (dc 88 c (.agg #[(I iu),(I iB),(I jy)]) false) fun d=>
 (ae pg X0 w0 (aE .eql 110 (.tmp 16) (.const (.pointer none)) d (.pointer none)) fun e=>
 un (aU e false d) fun g=>
 aJ pg X0 w0 e false (aF g) fun h=>
 aJ pg X0 w0 e false (vS (aS 113 5 9 1 h)) fun i=>
 aJ pg X0 w0 e false (vS (ld1 4 i)) fun j=>
 un (aU e false (B p2)) fun k=>
 aJ pg X0 w0 e false (vS (aE .neq 4 (.tmp 22) (.tmp 23) j k)) fun l=>
 aC pg X0 w0 (aQ e (B true) l) fun m=>
 un (aU m false d) fun n=>
 un (aU m false (I iO)) fun o=>
 jn (fun (q:Value) (r:World) (s:XS)=>
 aJ pg s r m false (vS (binOp .lss 3 q (I 0))) fun t=>
 aC pg s r (aQ m (B true) t) fun v=>
 (ay v
 ((fin R s r (aq #[(.pointer none),(I 0)])))
 ((aC pg s r (aF p0) fun y=>
 ae pg s r (aS 93 6 6 1 y) fun z=>
 ae pg s r (ld1 90 z) fun A=>
 eC pg R s r true 179 #[A,(.agg #[(I mH),(I jD),(I jE)])] fun _ C D=>
 (ae pg D C (aE .neq 28 (.tmp 41) (.const (I 0)) (I mG) (I 0)) fun E=>
 (ay E
 (aC pg D C (aF p0) fun F=>
 ae pg D C (aS 93 5 5 1 F) fun G=>
 ae pg D C (ld1 82 G) fun H=>
 eC pg R D C true 66 #[H,jU] fun _ L M=>
 (eC pg R M L true 90 #[p0,d,(I mG)] fun _ N O=>
 ((fin R O N (aq #[(.pointer none),(I 0)])))))
 ((eC pg R D C true 178 #[d,(I iO)] fun Q S T=>
 (fin R T S (aq #[d,Q])))))))))) fun U=>
 (gE m false (eC pg R X0 w0 true 178 #[n,o] U) (U undef w0 X0))))
noncomputable def uc:bp:=⟨33,[],[],[0,1,2,6,7,16],[20,23],[]⟩
def mO (p0:Value) (p1 p2:Int):Prop:=
 (ae pg X0 w0 (cB 53 3 p0) fun a=>
 ae pg X0 w0 (gf 53 p0 (some (I p1)) (some (I p2)) (some a)) fun _=>
 (ae pg X0 w0 (aE .eql 3 (.tmp 14) (.tmp 15) (I p1) (I p2)) fun b=>
 (ay b
 (fin R X0 w0 p0)
 ((ae pg X0 w0 (cB 53 3 p0) fun c=>
 (ae pg X0 w0 (gf 53 p0 none (some (I p1)) none) fun d=>
 ae pg X0 w0 (gf 53 p0 (some (I p2)) none none) fun e=>
 eV pg R X0 w0 true (e6 53 44 36 416 53 d e) fun g h i=>
 (ae pg i h (cB 53 3 g) fun j=>
 ae pg i h (gf 53 g (some j) (some c) none) fun k=>
 eV pg R i h true (Builtin.clear_ #[53] 0 #[k]) fun _ l m=>
 (fin R m l g))))))))
noncomputable def VX:bp:=⟨11,[(2,(pg.cellsOf 30)),(3,(pg.cellsOf 30)),(4,(pg.cellsOf 30))],[],[0,1,8],[],[]⟩
def Kb (aX bo bu dx bY dP:Int):Prop:=
 (eC pg R X0 w0 true 180 #[(.agg #[(I aX),(I bo),(I bu)]),(.agg #[(I dx),(I bY),(I dP)])] fun a b c=>
 ae pg c b (binOp .lss 3 a (I 0)) fun d=>
 (ay d
 ((fin R c b (.agg #[(I dx),(I bY),(I dP)])))
 (((fin R c b (.agg #[(I aX),(I bo),(I bu)]))))))
def xN (p0 p1:Value):Prop:=
 aC pg X0 w0 (aF p1) fun a=>
 ae pg X0 w0 (aS 199 1 29 1 a) fun b=>
 ae pg X0 w0 (ld1 34 b) fun c=>
 ae pg X0 w0 (cB 34 3 c) fun d=>
 (gG X0 w0 (I 0) 11 fun e g h i j=>
 ae pg j i (binOp .lss 3 h d) fun k=>
 (ay k
 ((ae pg j i (dr 34 1 c h) fun l=>
 ae pg j i (ld1 3 l) fun m=>
 (aC pg j i (aF p1) fun n=>
 ae pg j i (aS 199 0 0 29 n) fun o=>
 ae pg j i (aS 99 1 1 3 o) fun q=>
 ae pg j i (dY 27 3 q) fun r=>
 aC pg j i (aF p1) fun s=>
 ae pg j i (aS 199 0 0 29 s) fun t=>
 ae pg j i (aS 99 2 4 3 t) fun v=>
 ae pg j i (dY 30 3 v) fun y=>
 un (cellOf r 0) fun z=>
 un (cellOf r 1) fun A=>
 un (cellOf r 2) fun C=>
 un (cellOf y 0) fun D=>
 un (cellOf y 1) fun E=>
 un (cellOf y 2) fun F=>
 ae pg j i (dw 44 #[(I 5),(I 0),(I 0),z,A,C,m,(I 0),(I 0),D,E,F,(I 0),(I 0),(I 0),(B true),(I 0),(I 0),(.slice none 0 0),(.slice none 0 0),(.slice none 0 0),(.slice none 0 0),(.slice none 0 0),(.slice none 0 0),(I 0),(I 0),(.float .f64 0),(.float .f64 0),(I 0),(I 0),(I 0),(I 0),(I 0),(I 0),(.slice none 0 0),(.slice none 0 0)] #[(0,(I 5)),(3,r),(4,m),(9,(B true)),(7,y)]) fun G=>
 eC pg R j i true 88 #[p0,G] fun _ H L=>
 ((ae pg L H (binOp .add 3 h (I 1)) fun M=>
 gz e g M H L)))))
 (fin R j i (aq #[]))))
noncomputable def Bz:bp:=⟨60,[],[],[0,1,4,5,6,7,16,41],[12,13,14,15,37,38,39,40],[5,6,7]⟩
def sW (p0:Value) (p1:Int):Prop:=
 (((qK X0 w0 (I 0) undef (I 0) 6 7 5 fun a b c _ d e g=>
 ae pg g e (cB 39 3 p0) fun h=>
 ae pg g e (binOp .lss 3 c h) fun i=>
 un (aU i true d) fun j=>
 un (aU i true (I p1)) fun k=>
 aJ pg g e i true (vS (binOp .leq 3 j k)) fun l=>
 aC pg g e (aQ i l (B false)) fun m=>
 (ay m
 ((ae pg g e (dr 39 2 p0 c) fun n=>
 ae pg g e (aS 320 0 0 1 n) fun o=>
 ae pg g e (ld1 9 o) fun q=>
 ae pg g e (kN 9 3 q) fun r=>
 ae pg g e (binOp .add 3 (I 1) r) fun s=>
 eC pg R g e true 59 #[d,s,(I p1)] fun t v y=>
 ((gS y v (I 0) t 7 5 fun z A C D E F=>
 ae pg F E (dr 39 2 p0 c) fun G=>
 ae pg F E (aS 320 1 1 1 G) fun H=>
 ae pg F E (ld1 318 H) fun L=>
 ae pg F E (cB 318 3 L) fun M=>
 ae pg F E (binOp .lss 3 C M) fun N=>
 un (aU N true D) fun O=>
 un (aU N true (I p1)) fun Q=>
 aJ pg F E N true (vS (binOp .leq 3 O Q)) fun S=>
 aC pg F E (aQ N S (B false)) fun T=>
 (ay T
 ((ae pg F E (dr 39 2 p0 c) fun U=>
 ae pg F E (aS 320 1 1 1 U) fun V=>
 ae pg F E (ld1 318 V) fun Y=>
 ae pg F E (dr 318 6 Y C) fun Z=>
 ae pg F E (aS 322 1 3 3 Z) fun a0=>
 ae pg F E (aS 62 2 2 1 a0) fun b0=>
 ae pg F E (ld1 9 b0) fun c0=>
 ae pg F E (kN 9 3 c0) fun d0=>
 ae pg F E (binOp .add 3 (I 1) d0) fun e0=>
 eC pg R F E true 59 #[D,e0,(I p1)] fun g0 h0 i0=>
 ((ae pg i0 h0 (binOp .add 3 C (I 1)) fun j0=>
 gP z A j0 g0 h0 i0))))
 ((((ae pg F E (binOp .add 3 c (I 1)) fun k0=>
 qL a b k0 C D E F)))))))))
 (fin R g e d)))))
noncomputable def CD:bp:=⟨39,[],[],[0,1,4,5,6,15],[11,12,13,14,18],[5,6]⟩
def tQ (p0:Value) (p1:Int):Prop:=
 (((gS X0 w0 (I 0) (I 0) 6 5 fun a b c d e g=>
 ae pg g e (cB 40 3 p0) fun h=>
 ae pg g e (binOp .lss 3 c h) fun i=>
 un (aU i true d) fun j=>
 un (aU i true (I p1)) fun k=>
 aJ pg g e i true (vS (binOp .leq 3 j k)) fun l=>
 aC pg g e (aQ i l (B false)) fun m=>
 (ay m
 ((ae pg g e (dr 40 8 p0 c) fun n=>
 ae pg g e (aS 266 2 6 1 n) fun o=>
 ae pg g e (ld1 31 o) fun q=>
 ae pg g e (dr 40 8 p0 c) fun r=>
 ae pg g e (aS 266 3 7 1 r) fun s=>
 ae pg g e (ld1 33 s) fun t=>
 eC pg R g e false 60 #[q,(I p1)] fun v y z=>
 ae pg z y (binOp .add 3 (I 1) v) fun A=>
 eC pg R z y false 59 #[d,A,(I p1)] fun C D E=>
 eC pg R E D true 62 #[t,(I p1)] fun F G H=>
 eC pg R H G true 59 #[C,F,(I p1)] fun L M N=>
 ((ae pg N M (binOp .add 3 c (I 1)) fun O=>
 gP a b O L M N))))
 (fin R g e d)))))
noncomputable def VY:bp:=⟨33,[(1,(pg.cellsOf 38))],[3,7,12,17,22,27,29],[0,2],[6,8,9,11,13,14,16,18,19,21,23,24,26,28,30,31],[]⟩
def Kc (aX bo:Int) (bu bO:Nat):Prop:=
 (ae pg X0 w0 (binOp .geq 3 (I aX) (I 1)) fun a=>
 un (aU a true (I aX)) fun b=>
 aJ pg X0 w0 a true (vS (binOp .leq 3 b (I 12))) fun c=>
 aC pg X0 w0 (aQ a c (B false)) fun d=>
 un (aU d true (I bo)) fun e=>
 aJ pg X0 w0 d true (vS (binOp .geq 3 e (I 0))) fun g=>
 aC pg X0 w0 (aQ d g (B false)) fun h=>
 un (aU h true (.float .f64 bu)) fun i=>
 jn (fun (j:Value) (k:World) (l:XS)=>
 aC pg l k (aQ h j (B false)) fun m=>
 un (aU m true (.float .f64 bO)) fun n=>
 jn (fun (o:Value) (q:World) (r:XS)=>
 aC pg r q (aQ m o (B false)) fun s=>
 un (aU s true (.float .f64 bu)) fun t=>
 un (aU s true (.float .f64 bO)) fun v=>
 aJ pg r q s true (vS (binOp .lss 36 t v)) fun y=>
 aC pg r q (aQ s y (B false)) fun z=>
 (fin R r q z)) fun A=>
 (gE m true (eC pg R l k true 181 #[n] A) (A undef k l))) fun C=>
 (gE h true (eC pg R X0 w0 true 181 #[i] C) (C undef w0 X0)))
noncomputable def XJ:bp:=⟨29,[],[],[0,1,4,5,6,10],[],[1,6]⟩
def Mw (p0:ByteArray) (p1:Int):Prop:=
 (eV pg R X0 w0 true (fC 94 5 1 8 #[(0,(aA ei 48)),(1,(aA ei 48)),(2,(aA ei 48)),(3,(aA ei 48)),(4,(aA ei 48)),(5,(aA ei 48)),(6,(aA ei 48)),(7,(aA ei 48))]) fun a b c=>
 eV pg R c b true (convert 94 94 a) fun d e g=>
 ((gS g e (I 7) (I p1) 6 1 fun h i j k l m=>
 ae pg m l (binOp .geq 3 j (I 0)) fun n=>
 (ay n
 ((ae pg m l (dr 94 1 d j) fun o=>
 ae pg m l (ld1 5 o) fun q=>
 ae pg m l (binOp .rem 3 k (I 10)) fun r=>
 ae pg m l (lR ei 3 5 r) fun s=>
 ae pg m l (binOp .add 5 q s) fun t=>
 ae pg m l (dr 94 1 d j) fun v=>
 eU pg R m l true (st1 5 1 v t) fun _ y z=>
 (ae pg z y (binOp .quo 3 k (I 10)) fun A=>
 ((ae pg z y (binOp .sub 3 j (I 1)) fun C=>
 gP h i C A y z)))))
 (((ae pg m l (binOp .add 9 (.string p0) (.string { data:= #[46] })) fun D=>
 eV pg R m l true (convert 94 9 d) fun E F G=>
 ae pg G F (binOp .add 9 D E) fun H=>
 (fin R G F H))))))))
def iI (p0:Value):Prop:=
 eV pg R X0 w0 true (dN 107 p0) fun a b c=>
 (ae pg c b (cp (e7 182) #[] #[a]) fun d=>
 (fin R c b d))
noncomputable def Ie:bp:=⟨29,[],[],[0,1,2,3,4,5,6,10,18],[],[]⟩
def yP (p0:Value) (p1:ByteArray):Prop:=
 eV pg R X0 w0 true (dN 51 p0) fun a b c=>
 eV pg R c b true (dN 9 (.string p1)) fun d e g=>
 (((jn (fun (h:Value) (i:World) (j:XS)=>
 (ae pg j i (ld1 51 a) fun k=>
 ae pg j i (cp (e7 187) #[] #[a,d]) fun l=>
 eC pg R j i true 186 #[k,h,l] fun m n o=>
 (fin R o n m))) fun q=>
 ae pg g e (ld1 9 d) fun r=>
 eC pg R g e true 185 #[r] fun s t v=>
 ae pg v t (aY br s) fun y=>
 (ay y
 (q (I 10) t v)
 (ae pg v t (ld1 51 a) fun z=>
 aC pg v t (aF z) fun A=>
 ae pg v t (aS 109 0 0 1 A) fun C=>
 ae pg v t (ld1 107 C) fun D=>
 ae pg v t (ld1 9 d) fun E=>
 ae pg v t (dc 107 D E false) fun F=>
 ae pg v t (aE .neq 253 (.tmp 16) (.const (.pointer none)) F (.pointer none)) fun G=>
 (ay G
 (q (I 9) t v)
 (ae pg v t (ld1 51 a) fun H=>
 aC pg v t (aF H) fun L=>
 ae pg v t (aS 109 0 0 1 L) fun M=>
 ae pg v t (ld1 107 M) fun N=>
 ae pg v t (Builtin.len_ #[107] 3 #[N]) fun O=>
 ae pg v t (binOp .geq 3 O (I 64)) fun Q=>
 (ay Q
 (q (I 3) t v)
 (q (I 0) t v)))))))))
def Ac (p0 p1:Value):Prop:=
 aC pg X0 w0 (aF p0) fun a=>
 ae pg X0 w0 (aS 190 0 0 1 a) fun b=>
 ae pg X0 w0 (ld1 188 b) fun c=>
 ae pg X0 w0 (aE .neq 188 (.tmp 7) (.const (.pointer none)) c (.pointer none)) fun d=>
 (ay d
 (aC pg X0 w0 (aF p0) fun e=>
 ae pg X0 w0 (aS 190 0 0 1 e) fun g=>
 ae pg X0 w0 (ld1 188 g) fun h=>
 aC pg X0 w0 (aF p1) fun i=>
 ae pg X0 w0 (ld1 3 i) fun j=>
 eC pg R X0 w0 true 190 #[h,j] fun _ k l=>
 (fin R l k (aq #[])))
 ((aC pg X0 w0 (aF p0) fun m=>
 ae pg X0 w0 (aS 190 1 1 1 m) fun n=>
 ae pg X0 w0 (ld1 184 n) fun o=>
 eC pg R X0 w0 true 191 #[o] fun q r s=>
 aC pg s r (aF p1) fun t=>
 eU pg R s r true (st1 3 1 t q) fun _ v y=>
 (eC pg R y v true 192 #[p0] fun _ z A=>
 fin R A z (aq #[])))))
def ye (p0 p1:Value):Prop:=
 aC pg X0 w0 (aF p1) fun a=>
 ae pg X0 w0 (aS 42 0 0 4 a) fun b=>
 eC pg R X0 w0 true 193 #[p0,b] fun _ c d=>
 (aC pg d c (aF p1) fun e=>
 ae pg d c (aS 42 1 4 3 e) fun g=>
 eC pg R d c true 138 #[p0,g] fun _ h i=>
 (aC pg i h (aF p1) fun j=>
 ae pg i h (aS 42 2 7 3 j) fun k=>
 eC pg R i h true 138 #[p0,k] fun _ l m=>
 (aC pg m l (aF p1) fun n=>
 ae pg m l (aS 42 3 10 1 n) fun o=>
 ae pg m l (cp (e7 195) #[p0] #[]) fun q=>
 eC pg R m l true 194 #[p0,o,q] fun _ r s=>
 (aC pg s r (aF p1) fun t=>
 ae pg s r (aS 42 4 11 1 t) fun v=>
 ae pg s r (cp (e7 134) #[p0] #[]) fun y=>
 eC pg R s r true 196 #[p0,v,y] fun _ z A=>
 fin R A z (aq #[])))))
def vy (p0 p1:Value):Prop:=
 aC pg X0 w0 (aF p1) fun a=>
 ae pg X0 w0 (aS 266 0 0 3 a) fun b=>
 eC pg R X0 w0 true 136 #[p0,b] fun _ c d=>
 (aC pg d c (aF p1) fun e=>
 ae pg d c (aS 266 1 3 3 e) fun g=>
 eC pg R d c true 138 #[p0,g] fun _ h i=>
 (aC pg i h (aF p1) fun j=>
 ae pg i h (aS 266 2 6 1 j) fun k=>
 ae pg i h (cp (e7 198) #[p0] #[]) fun l=>
 eC pg R i h true 197 #[p0,k,l] fun _ m n=>
 (aC pg n m (aF p1) fun o=>
 ae pg n m (aS 266 3 7 1 o) fun q=>
 ae pg n m (cp (e7 141) #[p0] #[]) fun r=>
 eC pg R n m true 140 #[p0,q,r] fun _ s t=>
 fin R t s (aq #[]))))
def A8 (p0 p1 p2:Value):Prop:=
 aC pg X0 w0 (aF p1) fun a=>
 ae pg X0 w0 (ld1 34 a) fun b=>
 ae pg X0 w0 (cB 34 3 b) fun c=>
 ((jn (fun (d:Value) (e:World) (g:XS)=>
 (gG g e (I 0) 39 fun h i j k l=>
 ae pg l k (binOp .lss 3 j d) fun m=>
 (ay m
 ((((jn (fun (n:World) (o:XS)=>
 aC pg o n (aF p1) fun q=>
 ae pg o n (ld1 34 q) fun r=>
 ae pg o n (dr 34 1 r j) fun s=>
 eF pg R o n true p2 #[s] fun _ t v=>
 ((ae pg v t (binOp .add 3 j (I 1)) fun y=>
 gz h i y t v))) fun z=>
 aC pg l k (aF p0) fun A=>
 ae pg l k (aS 190 0 0 1 A) fun C=>
 ae pg l k (ld1 188 C) fun D=>
 ae pg l k (aE .eql 188 (.tmp 45) (.const (.pointer none)) D (.pointer none)) fun E=>
 (ay E
 ((aC pg l k (aF p1) fun F=>
 ae pg l k (ld1 34 F) fun G=>
 eV pg R l k true (fC 34 3 1 1 #[(0,(I 0))]) fun H L M=>
 eV pg R M L true (e6 34 3 1 8 34 G H) fun N O Q=>
 aC pg Q O (aF p1) fun S=>
 eU pg R Q O true (st1 34 1 S N) fun _ T U=>
 (z T U)))
 (z k l))))))
 (fin R l k (aq #[]))))) fun V=>
 aC pg X0 w0 (aF p0) fun Y=>
 ae pg X0 w0 (aS 190 0 0 1 Y) fun Z=>
 ae pg X0 w0 (ld1 188 Z) fun a0=>
 ae pg X0 w0 (aE .neq 188 (.tmp 16) (.const (.pointer none)) a0 (.pointer none)) fun b0=>
 (ay b0
 (aC pg X0 w0 (aF p0) fun c0=>
 ae pg X0 w0 (aS 190 0 0 1 c0) fun d0=>
 ae pg X0 w0 (ld1 188 d0) fun e0=>
 eC pg R X0 w0 true 190 #[e0,c] fun _ g0 h0=>
 (V c g0 h0))
 (aC pg X0 w0 (aF p0) fun i0=>
 ae pg X0 w0 (aS 190 1 1 1 i0) fun j0=>
 ae pg X0 w0 (ld1 184 j0) fun k0=>
 aC pg X0 w0 (aF p0) fun l0=>
 ae pg X0 w0 (aS 190 1 1 1 l0) fun m0=>
 ae pg X0 w0 (ld1 184 m0) fun n0=>
 eC pg R X0 w0 false 200 #[n0] fun o0 q0 r0=>
 eC pg R r0 q0 true 199 #[k0,o0] fun s0 t0 v0=>
 (eC pg R v0 t0 true 192 #[p0] fun _ y0 z0=>
 (aC pg z0 y0 (aF p1) fun A0=>
 eU pg R z0 y0 true (st1 34 1 A0 (.slice none 0 0)) fun _ C0 D0=>
 (V s0 C0 D0)))))))
def Ad (p0 p1:Value):Prop:=
 aC pg X0 w0 (aF p1) fun a=>
 ae pg X0 w0 (aS 27 0 0 1 a) fun b=>
 eC pg R X0 w0 true 132 #[p0,b] fun _ c d=>
 (aC pg d c (aF p1) fun e=>
 ae pg d c (aS 27 1 1 1 e) fun g=>
 eC pg R d c true 132 #[p0,g] fun _ h i=>
 (aC pg i h (aF p1) fun j=>
 ae pg i h (aS 27 2 2 1 j) fun k=>
 eC pg R i h true 132 #[p0,k] fun _ l m=>
 fin R m l (aq #[])))
def yQ (p0 p1:Value):Prop:=
 aC pg X0 w0 (aF p0) fun a=>
 ae pg X0 w0 (aS 190 0 0 1 a) fun b=>
 ae pg X0 w0 (ld1 188 b) fun c=>
 ae pg X0 w0 (aE .neq 188 (.tmp 7) (.const (.pointer none)) c (.pointer none)) fun d=>
 (ay d
 (aC pg X0 w0 (aF p0) fun e=>
 ae pg X0 w0 (aS 190 0 0 1 e) fun g=>
 ae pg X0 w0 (ld1 188 g) fun h=>
 aC pg X0 w0 (aF p1) fun i=>
 ae pg X0 w0 (ld1 4 i) fun j=>
 eC pg R X0 w0 true 201 #[h,j] fun _ k l=>
 (fin R l k (aq #[])))
 ((aC pg X0 w0 (aF p0) fun m=>
 ae pg X0 w0 (aS 190 1 1 1 m) fun n=>
 ae pg X0 w0 (ld1 184 n) fun o=>
 eC pg R X0 w0 true 202 #[o] fun q r s=>
 aC pg s r (aF p1) fun t=>
 eU pg R s r true (st1 4 1 t q) fun _ v y=>
 (eC pg R y v true 192 #[p0] fun _ z A=>
 fin R A z (aq #[])))))
def yf (p0 p1:Value):Prop:=
 aC pg X0 w0 (aF p1) fun a=>
 ae pg X0 w0 (aS 30 0 0 1 a) fun b=>
 eC pg R X0 w0 true 132 #[p0,b] fun _ c d=>
 (aC pg d c (aF p1) fun e=>
 ae pg d c (aS 30 1 1 1 e) fun g=>
 eC pg R d c true 132 #[p0,g] fun _ h i=>
 (aC pg i h (aF p1) fun j=>
 ae pg i h (aS 30 2 2 1 j) fun k=>
 eC pg R i h true 132 #[p0,k] fun _ l m=>
 fin R m l (aq #[])))
def yg (p0 p1:Value):Prop:=
 aC pg X0 w0 (aF p0) fun a=>
 ae pg X0 w0 (aS 190 0 0 1 a) fun b=>
 ae pg X0 w0 (ld1 188 b) fun c=>
 ae pg X0 w0 (aE .neq 188 (.tmp 7) (.const (.pointer none)) c (.pointer none)) fun d=>
 (ay d
 (aC pg X0 w0 (aF p0) fun e=>
 ae pg X0 w0 (aS 190 0 0 1 e) fun g=>
 ae pg X0 w0 (ld1 188 g) fun h=>
 aC pg X0 w0 (aF p1) fun i=>
 ae pg X0 w0 (ld1 36 i) fun j=>
 eC pg R X0 w0 true 203 #[h,j] fun _ k l=>
 (fin R l k (aq #[])))
 ((aC pg X0 w0 (aF p0) fun m=>
 ae pg X0 w0 (aS 190 1 1 1 m) fun n=>
 ae pg X0 w0 (ld1 184 n) fun o=>
 eC pg R X0 w0 true 204 #[o] fun q r s=>
 aC pg s r (aF p1) fun t=>
 eU pg R s r true (st1 36 1 t q) fun _ v y=>
 (eC pg R y v true 192 #[p0] fun _ z A=>
 fin R A z (aq #[])))))
def uv (p0 p1 p2:Value):Prop:=
 aC pg X0 w0 (aF p1) fun a=>
 ae pg X0 w0 (ld1 33 a) fun b=>
 ae pg X0 w0 (cB 33 3 b) fun c=>
 ((jn (fun (d:Value) (e:World) (g:XS)=>
 (gG g e (I 0) 39 fun h i j k l=>
 ae pg l k (binOp .lss 3 j d) fun m=>
 (ay m
 ((((jn (fun (n:World) (o:XS)=>
 aC pg o n (aF p1) fun q=>
 ae pg o n (ld1 33 q) fun r=>
 ae pg o n (dr 33 4 r j) fun s=>
 eF pg R o n true p2 #[s] fun _ t v=>
 ((ae pg v t (binOp .add 3 j (I 1)) fun y=>
 gz h i y t v))) fun z=>
 aC pg l k (aF p0) fun A=>
 ae pg l k (aS 190 0 0 1 A) fun C=>
 ae pg l k (ld1 188 C) fun D=>
 ae pg l k (aE .eql 188 (.tmp 45) (.const (.pointer none)) D (.pointer none)) fun E=>
 (ay E
 ((aC pg l k (aF p1) fun F=>
 ae pg l k (ld1 33 F) fun G=>
 eV pg R l k false (fC 33 64 4 1 #[(0,(.agg #[(.string { data:= #[] }),(I 0),(.float .f64 0),(.string { data:= #[] })]))]) fun H L M=>
 eV pg R M L true (e6 33 64 4 48 33 G H) fun N O Q=>
 aC pg Q O (aF p1) fun S=>
 eU pg R Q O true (st1 33 1 S N) fun _ T U=>
 (z T U)))
 (z k l))))))
 (fin R l k (aq #[]))))) fun V=>
 aC pg X0 w0 (aF p0) fun Y=>
 ae pg X0 w0 (aS 190 0 0 1 Y) fun Z=>
 ae pg X0 w0 (ld1 188 Z) fun a0=>
 ae pg X0 w0 (aE .neq 188 (.tmp 16) (.const (.pointer none)) a0 (.pointer none)) fun b0=>
 (ay b0
 (aC pg X0 w0 (aF p0) fun c0=>
 ae pg X0 w0 (aS 190 0 0 1 c0) fun d0=>
 ae pg X0 w0 (ld1 188 d0) fun e0=>
 eC pg R X0 w0 true 190 #[e0,c] fun _ g0 h0=>
 (V c g0 h0))
 (aC pg X0 w0 (aF p0) fun i0=>
 ae pg X0 w0 (aS 190 1 1 1 i0) fun j0=>
 ae pg X0 w0 (ld1 184 j0) fun k0=>
 aC pg X0 w0 (aF p0) fun l0=>
 ae pg X0 w0 (aS 190 1 1 1 l0) fun m0=>
 ae pg X0 w0 (ld1 184 m0) fun n0=>
 eC pg R X0 w0 false 200 #[n0] fun o0 q0 r0=>
 eC pg R r0 q0 true 199 #[k0,o0] fun s0 t0 v0=>
 (eC pg R v0 t0 true 192 #[p0] fun _ y0 z0=>
 (aC pg z0 y0 (aF p1) fun A0=>
 eU pg R z0 y0 true (st1 33 1 A0 (.slice none 0 0)) fun _ C0 D0=>
 (V s0 C0 D0)))))))
def yh (p0 p1:Value):Prop:=
 aC pg X0 w0 (aF p1) fun a=>
 ae pg X0 w0 (aS 64 0 0 1 a) fun b=>
 eC pg R X0 w0 true 198 #[p0,b] fun _ c d=>
 (aC pg d c (aF p1) fun e=>
 ae pg d c (aS 64 1 1 3 e) fun g=>
 eC pg R d c true 205 #[p0,g] fun _ h i=>
 fin R i h (aq #[]))
end
end Go.Proofs.YtbpnemeooenpmaaGreat
