/-
 Part 5 of the proof: what the last text leans on.
-/
import Derived.Test.YtfndblbeikocdaaGreatProg
import Derived.KernelRfl
import Derived.Test.YtfndblbeikocdaaGreatW4
open Go.Value renaming cells → aa, agg → ak, tuple → aJ
open Array renaming toList → ad
open Go.Instr renaming extract → aD, lookup → cx, box → cL, sliceAt → cy, makeMap → iT, makeFunc → cz, mapUpdate → dE
open List renaming all → av, length → aq, toArray → aS
open Go.Op renaming unary → aU
open Go.UnOp renaming not → bh
open Go.Builtin renaming min_ → ib, clear_ → eY
set_option linter.unusedVariables false
set_option linter.unusedSimpArgs false
namespace Go.Proofs.YtfndblbeikocdaaGreat
open Go.Proofs.Tryz renaming prog → pg
open Go.bB
set_option maxRecDepth 100000
section
variable (R : Ending → World → Prop) (w0 : World) (X0 : XS)
noncomputable def Ek:bu:=⟨129,[(12,(pg.cellsOf 49))],[73,77,82,88,90,92,94,100],[0,1,2,6,7,8,9,10,11,13,14,16,19,37,49,56,57,105,127],[29,30,31,33,34,35,36,39,40,41,42,43,44,72,74,75,76,78,79,80,81,83,84,85,86,87,89,91,93,95,96,97,98,99,101,102,103,121,122,123,124,125,126],[10,11]⟩
def vM (p0 p1:Int) (p2:Value):Prop:=
 (eC pg R X0 w0 true 5 #[] fun a b c=>
 ab pg c b (aU bh a) fun d=>
 (au d
 (fin R c b (B false))
 ((eC pg R c b true 6 #[] fun e g h=>
 (ab pg h g (aF .eql 24 (.tmp 18) (.const (.pointer none)) e (.pointer none)) fun i=>
 (au i
 (fin R h g (B false))
 ((eC pg R h g true 7 #[e,(I p0),(I p1)] fun j k l=>
 ab pg l k (aD j 0) fun m=>
 ab pg l k (aD j 1) fun n=>
 (ab pg l k (aF .neq 27 (.tmp 27) (.const (I 0)) n (I 0)) fun o=>
 un (aB o false m) fun q=>
 ay pg l k o false (vS (aF .eql 26 (.tmp 30) (.const (.pointer none)) q (.pointer none))) fun r=>
 ax pg l k (aM o (B true) r) fun s=>
 un (aB s false p2) fun t=>
 jn (fun (v:Value) (y:World) (z:XS)=>
 ay pg z y s false (vS (aU bh v)) fun A=>
 ax pg z y (aM s (B true) A) fun C=>
 (au C
 (eC pg R z y true 5 #[] fun D E F=>
 un (aB D true n) fun G=>
 ay pg F E D true (vS (aF .eql 27 (.tmp 40) (.const (I 0)) G (I 0))) fun H=>
 un (aB D true m) fun L=>
 ay pg F E D true (vS (aF .neq 26 (.tmp 42) (.const (.pointer none)) L (.pointer none))) fun M=>
 ay pg F E D true (vS (aF .eql 4 (.tmp 41) (.tmp 43) H M)) fun N=>
 ax pg F E (aM D N (B false)) fun O=>
 (fin R F E O))
 ((((ix z y (I 0) (B false) 11 10 fun Q S T U V Y=>
 ab pg Y V (cp 22 3 p2) fun Z=>
 ab pg Y V (binOp .lss 3 T Z) fun a0=>
 (au a0
 ((ab pg Y V (cA 22 39 p2 T) fun b0=>
 ab pg Y V (aT 51 0 0 1 b0) fun c0=>
 ab pg Y V (ld1 3 c0) fun d0=>
 ((jn (fun (e0:Value) (g0:World) (h0:XS)=>
 (eC pg R h0 g0 true 14 #[m] fun i0 j0 k0=>
 ab pg k0 j0 (aD i0 0) fun l0=>
 ab pg k0 j0 (aD i0 1) fun m0=>
 (ab pg k0 j0 (aF .neq 27 (.tmp 119) (.const (I 0)) m0 (I 0)) fun n0=>
 un (aB n0 false m) fun o0=>
 un (aB n0 false l0) fun q0=>
 un (aB n0 false e0) fun r0=>
 jn (fun (s0:Value) (t0:World) (v0:XS)=>
 ay pg v0 t0 n0 false (vS (aU bh s0)) fun y0=>
 ax pg v0 t0 (aM n0 (B true) y0) fun z0=>
 (au z0
 (fin R v0 t0 (B false))
 (((ab pg v0 t0 (binOp .add 3 T (I 1)) fun A0=>
 iy Q S A0 e0 t0 v0))))) fun C0=>
 (gE n0 false (eC pg R k0 j0 true 15 #[o0,q0,r0] C0) (C0 undef j0 k0))))) fun D0=>
 ab pg Y V (aF .eql 3 (.tmp 56) (.const (I 1)) d0 (I 1)) fun E0=>
 (au E0
 (ab pg Y V (cA 22 39 p2 T) fun F0=>
 ab pg Y V (aT 51 2 2 36 F0) fun G0=>
 ab pg Y V (ek 49 36 G0) fun H0=>
 eC pg R Y V true 9 #[m,H0] fun _ L0 M0=>
 (ab pg M0 L0 (cA 22 39 p2 T) fun N0=>
 ab pg M0 L0 (aT 51 2 2 36 N0) fun O0=>
 ab pg M0 L0 (ek 49 36 O0) fun Q0=>
 un (ak (aa Q0)) fun S0=>
 aI (aq (ad (aa Q0))==36) (aI (av (ad (aa Q0)) bB.one) ((aI (cu S0) (un (cellOf S0 0) fun T0=>
 un (aB U false T0) fun U0=>
 ay pg M0 L0 U false (vS (aF .eql 3 (.tmp 74) (.const (I 14)) U0 (I 14))) fun V0=>
 un (aB U false V0) fun Y0=>
 un (cellOf S0 2) fun Z0=>
 un (aB Y0 true Z0) fun a1=>
 ay pg M0 L0 Y0 true (vS (aF .eql 3 (.tmp 78) (.const (I 31)) a1 (I 31))) fun b1=>
 ay pg M0 L0 U false (aM Y0 b1 (B false)) fun c1=>
 un (aB U false c1) fun d1=>
 un (cj S0 9 3) fun e1=>
 un (aB d1 true e1) fun g1=>
 jn (fun (h1:Value) (i1:World) (j1:XS)=>
 ay pg j1 i1 U false (aM d1 h1 (B false)) fun k1=>
 un (aB U false k1) fun l1=>
 un (cj S0 0 36) fun m1=>
 un (aB l1 true m1) fun n1=>
 un (aB l1 true T0) fun o1=>
 un (cellOf S0 1) fun q1=>
 un (aB l1 true q1) fun r1=>
 un (aB l1 true Z0) fun s1=>
 un (aB l1 true e1) fun t1=>
 un (cellOf t1 0) fun v1=>
 un (cellOf t1 1) fun y1=>
 un (cellOf t1 2) fun z1=>
 ay pg j1 i1 l1 true (vS (ea 49 #[o1,r1,s1,(I 0),(I 0),(I 0),(I 0),(I 0),(I 0),v1,y1,z1,(I 0),(I 0),(I 0),(B false),(I 0),(I 0),(.slice none 0 0),(.slice none 0 0),(.slice none 0 0),(.slice none 0 0),(.slice none 0 0),(.slice none 0 0),(I 0),(I 0),(.float .f64 0),(.float .f64 0),(I 0),(I 0),(I 0),(I 0),(I 0),(I 0),(.slice none 0 0),(.slice none 0 0)] #[(0,o1),(1,r1),(2,s1),(7,t1)])) fun A1=>
 jn (fun (C1:Value) (D1:World) (E1:XS)=>
 ay pg E1 D1 U false (aM l1 C1 (B false)) fun F1=>
 un (aB U false F1) fun G1=>
 un (aB G1 true q1) fun H1=>
 jn (fun (L1:Value) (M1:World) (N1:XS)=>
 ay pg N1 M1 U false (aM G1 L1 (B false)) fun O1=>
 ax pg N1 M1 (aM U (B true) O1) fun Q1=>
 (D0 Q1 M1 N1)) fun S1=>
 (gE G1 true (eC pg R E1 D1 true 12 #[H1] S1) (S1 undef D1 E1))) fun T1=>
 (gE l1 true (eC pg R j1 i1 true 11 #[n1,A1] T1) (T1 undef i1 j1))) fun U1=>
 (gE d1 true (eC pg R M0 L0 true 10 #[g1] U1) (U1 undef L0 M0))))))))
 (ab pg Y V (aF .eql 3 (.tmp 56) (.const (I 4)) d0 (I 4)) fun V1=>
 (au V1
 (ab pg Y V (cA 22 39 p2 T) fun Y1=>
 ab pg Y V (aT 51 1 1 1 Y1) fun Z1=>
 ab pg Y V (ld1 3 Z1) fun a2=>
 eC pg R Y V true 13 #[m,a2] fun _ b2 c2=>
 (D0 U b2 c2))
 (D0 U V Y))))))))
 (eC pg R Y V true 5 #[] fun d2 e2 g2=>
 (fin R g2 e2 d2))))))))) fun h2=>
 (gE s false (eC pg R l k true 8 #[t] h2) (h2 undef k l)))))))))))
def zB:Prop:=
 (eC pg R X0 w0 true 6 #[] fun a b c=>
 (ab pg c b (aF .eql 24 (.tmp 14) (.const (.pointer none)) a (.pointer none)) fun d=>
 (au d
 (fin R c b (B false))
 ((eC pg R c b true 7 #[a,(I 2),(I 8)] fun e g h=>
 ab pg h g (aD e 0) fun i=>
 ab pg h g (aD e 1) fun j=>
 (ab pg h g (aF .eql 26 (.tmp 21) (.const (.pointer none)) i (.pointer none)) fun k=>
 un (aB k false j) fun l=>
 ay pg h g k false (vS (aF .neq 27 (.tmp 24) (.const (I 0)) l (I 0))) fun m=>
 ax pg h g (aM k (B true) m) fun n=>
 (au n
 (fin R h g (B false))
 ((eC pg R h g true 14 #[i] fun o q r=>
 ab pg r q (aD o 0) fun s=>
 ab pg r q (aD o 1) fun t=>
 (ab pg r q (ea 43 #[(I 1),(I 0),(.float .f64 0),(.float .f64 4602678819172646912)] #[(0,(I 1)),(3,(.float .f64 4602678819172646912))]) fun v=>
 un (cellOf v 0) fun y=>
 un (cellOf v 1) fun z=>
 un (cellOf v 2) fun A=>
 un (cellOf v 3) fun C=>
 ab pg r q (ea 47 #[y,z,A,C,(I 0),(I 0),(I 0),(I 0),(I 0),(I 0),(.slice none 0 0),(.slice none 0 0)] #[(0,v)]) fun D=>
 un (cellOf D 0) fun E=>
 un (cellOf D 1) fun F=>
 un (cellOf D 2) fun G=>
 un (cellOf D 3) fun H=>
 un (cellOf D 4) fun L=>
 un (cellOf D 5) fun M=>
 un (cellOf D 6) fun N=>
 un (cellOf D 7) fun O=>
 un (cellOf D 8) fun Q=>
 un (cellOf D 9) fun S=>
 un (cellOf D 10) fun T=>
 un (cellOf D 11) fun U=>
 ab pg r q (ea 73 #[(I 1),(I 0),(I 0),(I 0),(I 0),(I 0),(I 0),(I 0),(I 0),(I 0),(B false),(I 0),(.float .f64 0),(.slice none 0 0),(.slice none 0 0),(.slice none 0 0),(.slice none 0 0),E,F,G,H,L,M,N,O,Q,S,T,U] #[(0,(I 1)),(11,D)]) fun V=>
 ab pg r q (ea 34 #[(I 5),(I 0),(I 1)] #[(0,(I 5)),(2,(I 1))]) fun Y=>
 un (cellOf Y 0) fun Z=>
 un (cellOf Y 1) fun a0=>
 un (cellOf Y 2) fun b0=>
 ab pg r q (ea 73 #[(I 5),(I 0),(I 0),(I 0),Z,a0,b0,(I 0),(I 0),(I 0),(B false),(I 0),(.float .f64 0),(.slice none 0 0),(.slice none 0 0),(.slice none 0 0),(.slice none 0 0),(I 0),(I 0),(.float .f64 0),(.float .f64 0),(I 0),(I 0),(I 0),(I 0),(I 0),(I 0),(.slice none 0 0),(.slice none 0 0)] #[(0,(I 5)),(2,Y)]) fun c0=>
 eV pg R r q true (gG 40 73 29 2 #[(0,V),(1,c0)]) fun d0 e0 g0=>
 ab pg g0 e0 (ea 49 #[(I 9),(I 1),(I 31),(I 0),(I 0),(I 0),(I 1),(I 0),(I 0),(I 0),(I 0),(I 0),(I 0),(I 0),(I 0),(B false),(I 1),(I 0),(.slice none 0 0),(.slice none 0 0),(.slice none 0 0),(.slice none 0 0),(.slice none 0 0),d0,(I 0),(I 0),(.float .f64 0),(.float .f64 0),(I 0),(I 0),(I 0),(I 0),(I 0),(I 0),(.slice none 0 0),(.slice none 0 0)] #[(0,(I 9)),(1,(I 1)),(2,(I 31)),(4,(I 1)),(10,(I 1)),(17,d0)]) fun h0=>
 un (ak (aa h0)) fun i0=>
 aI (aq (ad (aa h0))==36) (aI (av (ad (aa h0)) bB.one) ((aI (cu i0) (un (cj i0 0 36) fun j0=>
 eC pg R g0 e0 true 9 #[i,j0] fun k0 l0 m0=>
 (aI (cu i0) (eC pg R m0 l0 true 9 #[i,j0] fun n0 o0 q0=>
 (eC pg R q0 o0 true 22 #[i,(I 1)] fun r0 s0 t0=>
 ab pg t0 s0 (aD r0 0) fun v0=>
 ab pg t0 s0 (aD r0 1) fun y0=>
 un (ak (aa v0)) fun z0=>
 aI (aq (ad (aa v0))==3) (aI (av (ad (aa v0)) bB.one) ((eC pg R t0 s0 true 23 #[i] fun A0 C0 D0=>
 (eC pg R D0 C0 true 13 #[i,(I 1)] fun E0 F0 G0=>
 (ab pg G0 F0 (aF .eql 27 (.tmp 54) (.const (I 0)) t (I 0)) fun H0=>
 un (aB H0 true s) fun L0=>
 ay pg G0 F0 H0 true (vS (cp 57 3 L0)) fun M0=>
 ay pg G0 F0 H0 true (vS (aF .eql 3 (.tmp 58) (.const (I 3)) M0 (I 3))) fun N0=>
 ax pg G0 F0 (aM H0 N0 (B false)) fun O0=>
 un (aB O0 true s) fun Q0=>
 ay pg G0 F0 O0 true (vS (cA 57 36 Q0 (I 0))) fun S0=>
 ay pg G0 F0 O0 true (vS (aT 49 0 0 1 S0)) fun T0=>
 ay pg G0 F0 O0 true (vS (ld1 3 T0)) fun U0=>
 ay pg G0 F0 O0 true (vS (aF .eql 3 (.tmp 65) (.const (I 13)) U0 (I 13))) fun V0=>
 ax pg G0 F0 (aM O0 V0 (B false)) fun Y0=>
 un (aB Y0 true s) fun Z0=>
 ay pg G0 F0 Y0 true (vS (cA 57 36 Z0 (I 2))) fun a1=>
 ay pg G0 F0 Y0 true (vS (aT 49 0 0 1 a1)) fun b1=>
 ay pg G0 F0 Y0 true (vS (ld1 3 b1)) fun c1=>
 ay pg G0 F0 Y0 true (vS (aF .eql 3 (.tmp 72) (.const (I 8)) c1 (I 8))) fun d1=>
 ax pg G0 F0 (aM Y0 d1 (B false)) fun e1=>
 un (aB e1 true s) fun g1=>
 ay pg G0 F0 e1 true (vS (cA 57 36 g1 (I 2))) fun h1=>
 ay pg G0 F0 e1 true (vS (aT 49 11 17 1 h1)) fun i1=>
 ay pg G0 F0 e1 true (vS (ld1 3 i1)) fun j1=>
 ay pg G0 F0 e1 true (vS (aF .eql 3 (.tmp 79) (.const (I 8)) j1 (I 8))) fun k1=>
 ax pg G0 F0 (aM e1 k1 (B false)) fun l1=>
 un (aB l1 true k0) fun m1=>
 ay pg G0 F0 l1 true (vS (aF .eql 27 (.tmp 83) (.const (I 0)) m1 (I 0))) fun n1=>
 ax pg G0 F0 (aM l1 n1 (B false)) fun o1=>
 un (aB o1 true n0) fun q1=>
 ay pg G0 F0 o1 true (vS (aF .eql 27 (.tmp 87) (.const (I 0)) q1 (I 0))) fun r1=>
 ax pg G0 F0 (aM o1 r1 (B false)) fun s1=>
 un (aB s1 true y0) fun t1=>
 ax pg G0 F0 (aM s1 t1 (B false)) fun v1=>
 aI (cu z0) (un (cellOf z0 0) fun y1=>
 un (aB v1 true y1) fun z1=>
 ay pg G0 F0 v1 true (vS (aF .eql 3 (.tmp 95) (.const (I 5)) z1 (I 5))) fun A1=>
 ax pg G0 F0 (aM v1 A1 (B false)) fun C1=>
 un (aB C1 true i) fun D1=>
 jn (fun (E1:Value) (F1:World) (G1:XS)=>
 ay pg G1 F1 C1 true (vS (aF .eql 3 (.tmp 100) (.const (I 3)) E1 (I 3))) fun H1=>
 ax pg G1 F1 (aM C1 H1 (B false)) fun L1=>
 un (aB L1 true A0) fun M1=>
 ay pg G1 F1 L1 true (vS (aF .eql 27 (.tmp 104) (.const (I 0)) M1 (I 0))) fun N1=>
 ax pg G1 F1 (aM L1 N1 (B false)) fun O1=>
 un (aB O1 true E0) fun Q1=>
 ay pg G1 F1 O1 true (vS (aF .eql 27 (.tmp 108) (.const (I 0)) Q1 (I 0))) fun S1=>
 ax pg G1 F1 (aM O1 S1 (B false)) fun T1=>
 (fin R G1 F1 T1)) fun U1=>
 (gE C1 true (eC pg R G0 F0 true 19 #[D1,(I 1)] U1) (U1 undef F0 G0)))))))))))))))))))))))))
def KN:Prop:=
 (eV pg R X0 w0 true (iT 77 none) fun a b c=>
 ab pg c b (ea 79 #[a,(I 0),(I 0),(I 0),(B false)] #[(0,a)]) fun d=>
 eV pg R c b true (cL 79 d) fun e g h=>
 (fin R h g e))
noncomputable def UM:bu:=⟨93,[(10,(pg.cellsOf 85)),(15,(pg.cellsOf 89))],[46,53,61,63,70,77,85,87],[0,1,2,6,7,9,11,12,13,16,23,33,41,42,43,44,56,78,79,80,81],[19,20,21],[10,43,80]⟩
def Iq (p0:Value) (p1 p2:Int):Prop:=
 (ab pg X0 w0 (binOp .lss 3 (I p1) (I 1)) fun a=>
 un (aB a false (I p1)) fun b=>
 ay pg X0 w0 a false (vS (binOp .gtr 3 b (I 12))) fun c=>
 ax pg X0 w0 (aM a (B true) c) fun d=>
 (au d
 ((fin R X0 w0 (aJ #[(.pointer none),(I 1)])))
 (eC pg R X0 w0 true 24 #[p0] fun e g h=>
 (au e
 ((fin R h g (aJ #[(.pointer none),(I 12)])))
 (((ab pg h g (ea 34 #[(I 0),(I 0),(I 0)] #[]) fun i=>
 eC pg R h g true 25 #[(I p2),i] fun j k l=>
 ab pg l k (aD j 0) fun _=>
 ab pg l k (aD j 1) fun m=>
 (ab pg l k (aF .neq 27 (.tmp 32) (.const (I 0)) m (I 0)) fun n=>
 (au n
 ((fin R l k (aJ #[(.pointer none),m])))
 ((eC pg R l k true 26 #[p0] fun o q r=>
 ab pg r q (aD o 0) fun s=>
 ab pg r q (aD o 1) fun t=>
 un (ak (aa s)) fun v=>
 aI (aq (ad (aa s))==4) (aI (av (ad (aa s)) bB.one) (((jn (fun (y:Value) (z:World) (A:XS)=>
 aI (cu y) (eV pg R A z true (iT 90 none) fun C D E=>
 un (cj y 0 4) fun F=>
 un (cj y 0 3) fun G=>
 un (cellOf F 0) fun H=>
 un (cellOf F 1) fun L=>
 un (cellOf F 2) fun M=>
 un (cellOf F 3) fun N=>
 un (cellOf G 0) fun O=>
 un (cellOf G 1) fun Q=>
 un (cellOf G 2) fun S=>
 ab pg E D (ea 93 #[p0,H,L,M,N,(.pointer none),C,O,Q,S,(B false),(.slice none 0 0),(.slice none 0 0),O,Q,S,(B false)] #[(0,p0),(1,F),(3,C),(4,G),(8,G)]) fun T=>
 eV pg R E D true (cL 93 T) fun U V Y=>
 (aI (cu y) (eC pg R Y V true 25 #[(I p2),G] fun Z a0 b0=>
 ab pg b0 a0 (aD Z 0) fun c0=>
 ab pg b0 a0 (aD Z 1) fun _=>
 ax pg b0 a0 (aP U) fun d0=>
 ab pg b0 a0 (aT 93 2 5 1 d0) fun e0=>
 eU pg R b0 a0 true (st1 80 1 e0 c0) fun _ g0 h0=>
 (aI (cu y) (un (cellOf y 3) fun i0=>
 ab pg h0 g0 (cp 83 3 i0) fun j0=>
 (gg h0 g0 (I 0) 80 fun k0 l0 m0 n0 o0=>
 ab pg o0 n0 (binOp .lss 3 m0 j0) fun q0=>
 (au q0
 ((ab pg o0 n0 (cA 83 2 i0 m0) fun r0=>
 ab pg o0 n0 (ek 89 2 r0) fun s0=>
 un (ak (aa s0)) fun t0=>
 aI (aq (ad (aa s0))==2) (aI (av (ad (aa s0)) bB.one) ((aI (cu t0) (ab pg o0 n0 (ea 34 #[(I 0),(I 0),(I 0)] #[]) fun v0=>
 un (cellOf t0 0) fun y0=>
 un (cellOf t0 1) fun z0=>
 eC pg R o0 n0 true 27 #[U,y0,z0,v0] fun _ A0 C0=>
 ((ab pg C0 A0 (binOp .add 3 m0 (I 1)) fun D0=>
 fY k0 l0 D0 A0 C0))))))))
 ((((fin R o0 n0 (aJ #[U,(I 0)]))))))))))))) fun E0=>
 ab pg r q (aF .eql 27 (.tmp 40) (.const (I 8)) t (I 8)) fun F0=>
 (au F0
 ((ix r q (I 0) v 43 10 fun G0 H0 L0 M0 N0 O0=>
 ab pg O0 N0 (binOp .lss 3 L0 (I p1)) fun Q0=>
 (au Q0
 (((aI (cu M0) (ab pg O0 N0 (binOp .add 3 L0 (I 1)) fun S0=>
 ab pg O0 N0 (ea 89 #[S0,(I 1)] #[(0,S0),(1,(I 1))]) fun T0=>
 eV pg R O0 N0 true (gG 83 89 2 1 #[(0,T0)]) fun U0 V0 Y0=>
 un (cellOf M0 3) fun Z0=>
 eV pg R Y0 V0 true (ga 83 89 2 16 83 Z0 U0) fun a1 b1 c1=>
 un (ak (aS (cH (ad (aa M0)) 3 [a1]))) fun d1=>
 aI (bB.one a1) (((ab pg c1 b1 (binOp .add 3 L0 (I 1)) fun e1=>
 iy G0 H0 e1 d1 b1 c1)))))))
 (E0 M0 N0 O0))))
 (ab pg r q (aF .neq 27 (.tmp 55) (.const (I 0)) t (I 0)) fun g1=>
 (au g1
 ((fin R r q (aJ #[(.pointer none),t])))
 (E0 v q r)))))))))))))))))))
def B2 (p0:Value):Prop:=
 (((ix X0 w0 (I 0) (I 0) 4 3 fun a b c d e g=>
 ab pg g e (cp 22 3 p0) fun h=>
 ab pg g e (binOp .lss 3 c h) fun i=>
 un (aB i true c) fun j=>
 ay pg g e i true (vS (binOp .lss 3 j (I 200))) fun k=>
 ax pg g e (aM i k (B false)) fun l=>
 un (aB l true d) fun m=>
 ay pg g e l true (vS (binOp .leq 3 m (I 20000))) fun n=>
 ax pg g e (aM l n (B false)) fun o=>
 (au o
 ((ab pg g e (cA 22 39 p0 c) fun q=>
 ab pg g e (aT 51 2 2 36 q) fun r=>
 ab pg g e (ek 49 36 r) fun s=>
 eC pg R g e true 28 #[s,(I 20000)] fun t v y=>
 ab pg y v (binOp .add 3 d t) fun z=>
 ((ab pg y v (binOp .add 3 c (I 1)) fun A=>
 iy a b A z v y))))
 (((ab pg g e (cp 22 3 p0) fun C=>
 ab pg g e (binOp .leq 3 C (I 200)) fun D=>
 un (aB D true d) fun E=>
 ay pg g e D true (vS (binOp .leq 3 E (I 20000))) fun F=>
 ax pg g e (aM D F (B false)) fun G=>
 (fin R g e G))))))))
noncomputable def J0:bu:=⟨61,[(3,(pg.cellsOf 49))],[15,20,27,38],[0,1,2,4,5,10,19,26],[14,16,17,1000049,1000058],[]⟩
def Al (p0:Value) (bS bY bW dW ey eN eE eG gl nh kB kC oA oB oC:Int) (oD:Bool) (mM oE:Int) (oF oG oH oI oJ me:Value) (oK oL:Int) (oM oN:Nat) (oO tv tw tz tA tB:Int) (tC tD:Value):Prop:=
 eV pg R X0 w0 true (cL 26 p0) fun a b c=>
 ((jn (fun (d:World) (e:XS)=>
 (fin R e d (I 0))) fun g=>
 ab pg c b (ld1 26 a) fun h=>
 ax pg c b (aP h) fun i=>
 ab pg c b (aT 93 9 16 1 i) fun j=>
 ab pg c b (ld1 4 j) fun k=>
 (au k
 (fin R c b (I 12))
 (eC pg R c b true 29 #[(.agg #[(I bS),(I bY),(I bW),(I dW),(I ey),(I eN),(I eE),(I eG),(I gl),(I nh),(I kB),(I kC),(I oA),(I oB),(I oC),(B oD),(I mM),(I oE),oF,oG,oH,oI,oJ,me,(I oK),(I oL),(.float .f64 oM),(.float .f64 oN),(I oO),(I tv),(I tw),(I tz),(I tA),(I tB),tC,tD])] fun l m n=>
 ab pg n m (aF .neq 27 (.tmp 12) (.const (I 0)) l (I 0)) fun o=>
 un (aB o false (I bW)) fun q=>
 ay pg n m o false (vS (aF .neq 3 (.tmp 16) (.const (I 31)) q (I 31))) fun r=>
 ax pg n m (aM o (B true) r) fun s=>
 (au s
 (g m n)
 (ab pg n m (aF .eql 3 (.tmp 21) (.const (I 9)) (I bS) (I 9)) fun t=>
 (au t
 (ab pg n m (ld1 26 a) fun v=>
 eC pg R n m true 30 #[v,(.agg #[(I bS),(I bY),(I bW),(I dW),(I ey),(I eN),(I eE),(I eG),(I gl),(I nh),(I kB),(I kC),(I oA),(I oB),(I oC),(B oD),(I mM),(I oE),oF,oG,oH,oI,oJ,me,(I oK),(I oL),(.float .f64 oM),(.float .f64 oN),(I oO),(I tv),(I tw),(I tz),(I tA),(I tB),tC,tD])] fun _ y z=>
 (g y z))
 (ab pg n m (aF .eql 3 (.tmp 28) (.const (I 14)) (I bS) (I 14)) fun A=>
 (au A
 (ab pg n m (ld1 26 a) fun C=>
 ax pg n m (aP C) fun D=>
 ab pg n m (aT 93 5 10 1 D) fun E=>
 eU pg R n m true (st1 4 1 E (B true)) fun _ F G=>
 (ab pg G F (ld1 26 a) fun H=>
 ab pg G F (ld1 26 a) fun L=>
 ax pg G F (aP L) fun M=>
 ab pg G F (aT 93 4 7 3 M) fun N=>
 ab pg G F (ek 34 3 N) fun O=>
 eC pg R G F false 31 #[O,(.agg #[(I nh),(I kB),(I kC)])] fun Q S T=>
 ax pg T S (aP H) fun U=>
 ab pg T S (aT 93 4 7 3 U) fun V=>
 eU pg R T S true (st1 34 3 V Q) fun _ Y Z=>
 ((jn (fun (a0:World) (b0:XS)=>
 ab pg b0 a0 (ld1 26 a) fun c0=>
 (ax pg b0 a0 (aP c0) fun d0=>
 (ab pg b0 a0 (aT 93 7 12 1 d0) fun e0=>
 (ab pg b0 a0 (ld1 91 e0) fun g0=>
 (ab pg b0 a0 (cz (Fn.func 36) #[] #[a]) fun h0=>
 (And
 (ab pg b0 a0 (ld1 26 a) fun i0=>
 (eC pg R b0 a0 true 35 #[g0,h0] fun j0 k0 l0=>
 (ax pg l0 k0 (aP i0) fun m0=>
 (ab pg l0 k0 (aT 93 7 12 1 m0) fun n0=>
 (eU pg R l0 k0 true (st1 91 1 n0 j0) fun _ o0 q0=>
 (g o0 q0))))))
 (eC pg R b0 a0 true 35 #[g0,h0] fun r0 s0 t0=>
 (ab pg t0 s0 (ld1 26 a) fun v0=>
 (ax pg t0 s0 (aP v0) fun y0=>
 (ab pg t0 s0 (aT 93 7 12 1 y0) fun z0=>
 (eU pg R t0 s0 true (st1 91 1 z0 r0) fun _ A0 C0=>
 (g A0 C0)))))))))))) fun D0=>
 ab pg Z Y (ld1 26 a) fun E0=>
 (ax pg Z Y (aP E0) fun F0=>
 (ab pg Z Y (aT 93 6 11 1 F0) fun G0=>
 (ab pg Z Y (ld1 63 G0) fun H0=>
 (ab pg Z Y (cz (Fn.func 33) #[] #[a]) fun L0=>
 (And
 (ab pg Z Y (ld1 26 a) fun M0=>
 (eC pg R Z Y true 32 #[H0,L0] fun N0 O0 Q0=>
 (ax pg Q0 O0 (aP M0) fun S0=>
 (ab pg Q0 O0 (aT 93 6 11 1 S0) fun T0=>
 (eU pg R Q0 O0 true (st1 63 1 T0 N0) fun _ U0 V0=>
 (D0 U0 V0))))))
 (eC pg R Z Y true 32 #[H0,L0] fun Y0 Z0 a1=>
 (ab pg a1 Z0 (ld1 26 a) fun b1=>
 (ax pg a1 Z0 (aP b1) fun c1=>
 (ab pg a1 Z0 (aT 93 6 11 1 c1) fun d1=>
 (eU pg R a1 Z0 true (st1 63 1 d1 Y0) fun _ e1 g1=>
 (D0 e1 g1)))))))))))))))
 (g m n))))))))))
noncomputable def NS:bu:=⟨31,[(1,(pg.cellsOf 34))],[3,7,12,17,22,27],[0,2],[6,8,9,11,13,14,16,18,19,21,23,24,26,28,29],[]⟩
def CM (aQ aV aW:Int):Prop:=
 (ab pg X0 w0 (binOp .geq 3 (I aQ) (I 0)) fun a=>
 un (aB a true (I aQ)) fun b=>
 ay pg X0 w0 a true (vS (binOp .leq 3 b (I 281474976710656))) fun c=>
 ax pg X0 w0 (aM a c (B false)) fun d=>
 un (aB d true (I aV)) fun e=>
 ay pg X0 w0 d true (vS (binOp .geq 3 e (I 0))) fun g=>
 ax pg X0 w0 (aM d g (B false)) fun h=>
 un (aB h true (I aV)) fun i=>
 ay pg X0 w0 h true (vS (binOp .leq 3 i (I 65535))) fun j=>
 ax pg X0 w0 (aM h j (B false)) fun k=>
 un (aB k true (I aW)) fun l=>
 ay pg X0 w0 k true (vS (binOp .geq 3 l (I 0))) fun m=>
 ax pg X0 w0 (aM k m (B false)) fun n=>
 un (aB n true (I aW)) fun o=>
 ay pg X0 w0 n true (vS (binOp .leq 3 o (I 63))) fun q=>
 ax pg X0 w0 (aM n q (B false)) fun r=>
 (fin R X0 w0 r))
noncomputable def Pb:bu:=⟨142,[(2,(pg.cellsOf 49)),(3,(pg.cellsOf 49))],[8,10,14,16,21,23,28,30,35,37,42,44,49,51,55,57,61,63,68,70,75,77,82,84,88,90,94,96,101,103,108,110,115,117,129,131,136,138],[0,1,4,5,6,7],[13,15,17,18,20,22,24,25,27,29,31,32,34,36,38,39,41,43,45,46,48,50,52,53,60,62,64,65,67,69,71,72,74,76,78,79,81,83,85,86,93,95,97,98,100,102,104,105,107,109,111,112,114,116,118,119,122,123,125,126,128,130,132,133,135,137,139,140],[]⟩
def Eh (aQ aV aW bq bG bJ bM bV cD cV cg bZ dm de da:Int) (dc:Bool) (df dh:Int) (cM cK cN cO cP dd:Value) (cQ cW:Int) (cX cY:Nat) (cZ fq fu fv fw fy:Int) (fz fA:Value) (bS bY bW dW ey eN eE eG gl nh kB kC oA oB oC:Int) (oD:Bool) (mM oE:Int) (oF oG oH oI oJ me:Value) (oK oL:Int) (oM oN:Nat) (oO tv tw tz tA tB:Int) (tC tD:Value):Prop:=
 (ab pg X0 w0 (aF .eql 3 (.tmp 9) (.tmp 11) (I aQ) (I bS)) fun a=>
 un (aB a true (I aV)) fun b=>
 un (aB a true (I bY)) fun c=>
 ay pg X0 w0 a true (vS (aF .eql 3 (.tmp 15) (.tmp 17) b c)) fun d=>
 ax pg X0 w0 (aM a d (B false)) fun e=>
 un (aB e true (I aW)) fun g=>
 un (aB e true (I bW)) fun h=>
 ay pg X0 w0 e true (vS (aF .eql 3 (.tmp 22) (.tmp 24) g h)) fun i=>
 ax pg X0 w0 (aM e i (B false)) fun j=>
 un (aB j true (.agg #[(I bq),(I bG),(I bJ)])) fun k=>
 un (aB j true (.agg #[(I dW),(I ey),(I eN)])) fun l=>
 ay pg X0 w0 j true (vS (aF .eql 32 (.tmp 29) (.tmp 31) k l)) fun m=>
 ax pg X0 w0 (aM j m (B false)) fun n=>
 un (aB n true (I bM)) fun o=>
 un (aB n true (I eE)) fun q=>
 ay pg X0 w0 n true (vS (aF .eql 3 (.tmp 36) (.tmp 38) o q)) fun r=>
 ax pg X0 w0 (aM n r (B false)) fun s=>
 un (aB s true (I bV)) fun t=>
 un (aB s true (I eG)) fun v=>
 ay pg X0 w0 s true (vS (aF .eql 3 (.tmp 43) (.tmp 45) t v)) fun y=>
 ax pg X0 w0 (aM s y (B false)) fun z=>
 un (aB z true (I cD)) fun A=>
 un (aB z true (I gl)) fun C=>
 ay pg X0 w0 z true (vS (aF .eql 27 (.tmp 50) (.tmp 52) A C)) fun D=>
 ax pg X0 w0 (aM z D (B false)) fun E=>
 (ab pg X0 w0 (aF .eql 34 (.tmp 56) (.tmp 58) (.agg #[(I cV),(I cg),(I bZ)]) (.agg #[(I nh),(I kB),(I kC)])) fun F=>
 un (aB F true (.agg #[(I dm),(I de),(I da)])) fun G=>
 un (aB F true (.agg #[(I oA),(I oB),(I oC)])) fun H=>
 ay pg X0 w0 F true (vS (aF .eql 34 (.tmp 62) (.tmp 64) G H)) fun L=>
 ax pg X0 w0 (aM F L (B false)) fun M=>
 un (aB M true (B dc)) fun N=>
 un (aB M true (B oD)) fun O=>
 ay pg X0 w0 M true (vS (aF .eql 4 (.tmp 69) (.tmp 71) N O)) fun Q=>
 ax pg X0 w0 (aM M Q (B false)) fun S=>
 un (aB S true (I df)) fun T=>
 un (aB S true (I mM)) fun U=>
 ay pg X0 w0 S true (vS (aF .eql 3 (.tmp 76) (.tmp 78) T U)) fun V=>
 ax pg X0 w0 (aM S V (B false)) fun Y=>
 un (aB Y true (I dh)) fun Z=>
 un (aB Y true (I oE)) fun a0=>
 ay pg X0 w0 Y true (vS (aF .eql 3 (.tmp 83) (.tmp 85) Z a0)) fun b0=>
 ax pg X0 w0 (aM Y b0 (B false)) fun c0=>
 (eC pg R X0 w0 true 37 #[cM,oF] fun d0 e0 g0=>
 un (aB d0 true cK) fun h0=>
 un (aB d0 true oG) fun i0=>
 jn (fun (j0:Value) (k0:World) (l0:XS)=>
 ax pg l0 k0 (aM d0 j0 (B false)) fun m0=>
 un (aB m0 true cN) fun n0=>
 un (aB m0 true oH) fun o0=>
 jn (fun (q0:Value) (r0:World) (s0:XS)=>
 ax pg s0 r0 (aM m0 q0 (B false)) fun t0=>
 un (aB t0 true cO) fun v0=>
 un (aB t0 true oI) fun y0=>
 jn (fun (z0:Value) (A0:World) (C0:XS)=>
 ax pg C0 A0 (aM t0 z0 (B false)) fun D0=>
 un (aB D0 true cP) fun E0=>
 un (aB D0 true oJ) fun F0=>
 jn (fun (G0:Value) (H0:World) (L0:XS)=>
 ax pg L0 H0 (aM D0 G0 (B false)) fun M0=>
 (un (aB E true c0) fun N0=>
 ax pg L0 H0 (aM E N0 (B false)) fun O0=>
 un (aB O0 true M0) fun Q0=>
 ax pg L0 H0 (aM O0 Q0 (B false)) fun S0=>
 un (aB S0 true dd) fun T0=>
 un (aB S0 true me) fun U0=>
 jn (fun (V0:Value) (Y0:World) (Z0:XS)=>
 ax pg Z0 Y0 (aM S0 V0 (B false)) fun a1=>
 un (aB a1 true (.agg #[(I cQ),(I cW),(.float .f64 cX),(.float .f64 cY),(I cZ),(I fq),(I fu),(I fv),(I fw),(I fy),fz,fA])) fun b1=>
 un (aB a1 true (.agg #[(I oK),(I oL),(.float .f64 oM),(.float .f64 oN),(I oO),(I tv),(I tw),(I tz),(I tA),(I tB),tC,tD])) fun c1=>
 jn (fun (d1:Value) (e1:World) (g1:XS)=>
 ax pg g1 e1 (aM a1 d1 (B false)) fun h1=>
 (fin R g1 e1 h1)) fun i1=>
 (gE a1 true (eC pg R Z0 Y0 true 43 #[b1,c1] i1) (i1 undef Y0 Z0))) fun j1=>
 (gE S0 true (eC pg R L0 H0 true 42 #[T0,U0] j1) (j1 undef H0 L0)))) fun k1=>
 (gE D0 true (eC pg R C0 A0 true 41 #[E0,F0] k1) (k1 undef A0 C0))) fun l1=>
 (gE t0 true (eC pg R s0 r0 true 40 #[v0,y0] l1) (l1 undef r0 s0))) fun m1=>
 (gE m0 true (eC pg R l0 k0 true 39 #[n0,o0] m1) (m1 undef k0 l0))) fun n1=>
 (gE d0 true (eC pg R g0 e0 true 38 #[h0,i0] n1) (n1 undef e0 g0)))))
noncomputable def J6:bu:=⟨25,[],[],[0,2],[5,6,7,9,10,11,12,13,14,15,17,18,19,21,22,23],[]⟩
def Aw (p0:Int):Prop:=
 (ab pg X0 w0 (binOp .geq 3 (I p0) (I 1)) fun a=>
 un (aB a true (I p0)) fun b=>
 ay pg X0 w0 a true (vS (binOp .leq 3 b (I 12))) fun c=>
 ax pg X0 w0 (aM a c (B false)) fun d=>
 un (aB d false (I p0)) fun e=>
 ay pg X0 w0 d false (vS (binOp .gtr 3 e (I 20))) fun g=>
 un (aB d false g) fun h=>
 un (aB h true (I p0)) fun i=>
 ay pg X0 w0 h true (vS (binOp .leq 3 i (I 22))) fun j=>
 ay pg X0 w0 d false (aM h j (B false)) fun k=>
 ax pg X0 w0 (aM d (B true) k) fun l=>
 un (aB l false (I p0)) fun m=>
 ay pg X0 w0 l false (vS (aF .eql 3 (.tmp 18) (.const (I 31)) m (I 31))) fun n=>
 ax pg X0 w0 (aM l (B true) n) fun o=>
 un (aB o false (I p0)) fun q=>
 ay pg X0 w0 o false (vS (aF .eql 3 (.tmp 22) (.const (I 32)) q (I 32))) fun r=>
 ax pg X0 w0 (aM o (B true) r) fun s=>
 (fin R X0 w0 s))
noncomputable def J7:bu:=⟨49,[(7,(pg.cellsOf 89))],[31,35],[0,1,4,5,8,13,25,26,27,28,34],[],[5,27]⟩
def An (p0:Value) (p1:Int):Prop:=
 (ax pg X0 w0 (aP p0) fun a=>
 ab pg X0 w0 (aT 93 9 16 1 a) fun b=>
 ab pg X0 w0 (ld1 4 b) fun c=>
 (au c
 (fin R X0 w0 (I 12))
 (ax pg X0 w0 (aP p0) fun d=>
 ab pg X0 w0 (aT 93 3 6 1 d) fun e=>
 ab pg X0 w0 (ld1 90 e) fun g=>
 ab pg X0 w0 (cx 90 g (I p1) false) fun h=>
 ab pg X0 w0 (aF .eql 111 (.tmp 19) (.const (.pointer none)) h (.pointer none)) fun i=>
 (au i
 (fin R X0 w0 (I 8))
 ((((ax pg X0 w0 (aP p0) fun j=>
 ab pg X0 w0 (aT 93 1 1 4 j) fun k=>
 ab pg X0 w0 (aT 85 1 3 1 k) fun l=>
 ab pg X0 w0 (ld1 83 l) fun m=>
 ab pg X0 w0 (cp 83 3 m) fun n=>
 (ix X0 w0 (I 0) (I 1) 27 5 fun o q r s t v=>
 ab pg v t (binOp .lss 3 r n) fun y=>
 (au y
 (((jn (fun (z:Value)=>
 (ab pg v t (binOp .add 3 r (I 1)) fun A=>
 iy o q A z t v)) fun C=>
 ab pg v t (cA 83 2 m r) fun D=>
 ab pg v t (ek 89 2 D) fun E=>
 un (ak (aa E)) fun F=>
 aI (aq (ad (aa E))==2) (aI (av (ad (aa E)) bB.one) ((aI (cu F) (un (cellOf F 0) fun G=>
 ab pg v t (aF .eql 3 (.tmp 32) (.tmp 33) G (I p1)) fun H=>
 (au H
 (aI (cu F) (un (cellOf F 1) fun L=>
 (C L)))
 (C s)))))))))
 (((ax pg v t (aP p0) fun M=>
 ab pg v t (aT 93 3 6 1 M) fun N=>
 ab pg v t (ld1 90 N) fun O=>
 eC pg R v t false 44 #[(I p1),s] fun Q S T=>
 ab pg T S (aD Q 0) fun U=>
 ab pg T S (aD Q 1) fun _=>
 eU pg R T S true (dE 90 O (I p1) U) fun _ V Y=>
 (fin R Y V (I 0)))))))))))))))
def Ao (p0:Value):Prop:=
 (ax pg X0 w0 (aP p0) fun a=>
 ab pg X0 w0 (aT 93 9 16 1 a) fun b=>
 ab pg X0 w0 (ld1 4 b) fun c=>
 (au c
 ((fin R X0 w0 (aJ #[(.slice none 0 0),(I 12)])))
 ((((jn (fun (d:Value) (e:World) (g:XS)=>
 ax pg g e (aP p0) fun h=>
 ab pg g e (aT 93 3 6 1 h) fun i=>
 ab pg g e (ld1 90 i) fun j=>
 eC pg R g e true 47 #[j] fun k l m=>
 eC pg R m l true 46 #[k] fun n o q=>
 ab pg q o (cp 38 3 n) fun r=>
 (ix q o (I 0) d 66 4 fun s t v y z A=>
 ab pg A z (binOp .lss 3 v r) fun C=>
 (au C
 ((ab pg A z (cA 38 1 n v) fun D=>
 ab pg A z (ld1 3 D) fun E=>
 ((jn (fun (F:Value) (G:World) (H:XS)=>
 (jn (fun (L:Value) (M:World) (N:XS)=>
 aI (cu L) (un (cj L 0 36) fun O=>
 eV pg R N M true (gG 57 49 36 1 #[(0,O)]) fun Q S T=>
 eV pg R T S true (ga 57 49 36 416 57 y Q) fun U V Y=>
 ((ab pg Y V (binOp .add 3 v (I 1)) fun Z=>
 iy s t Z U V Y)))) fun a0=>
 ax pg H G (aP p0) fun b0=>
 ab pg H G (aT 93 2 5 1 b0) fun c0=>
 ab pg H G (ld1 80 c0) fun d0=>
 ax pg H G (aP p0) fun e0=>
 ab pg H G (aT 93 6 11 1 e0) fun g0=>
 ab pg H G (ld1 63 g0) fun h0=>
 ab pg H G (cp 63 3 h0) fun i0=>
 eC pg R H G true 49 #[d0,E,i0] fun j0 k0 l0=>
 (au j0
 (aI (cu F) (un (ak (aS (cH (ad (aa F)) 17 [(I 0)]))) fun m0=>
 (a0 m0 k0 l0)))
 (a0 F k0 l0)))) fun n0=>
 (((ax pg A z (aP p0) fun o0=>
 (ab pg A z (aT 93 3 6 1 o0) fun q0=>
 (ab pg A z (ld1 90 q0) fun r0=>
 ((ab pg A z (cx 90 r0 E false) fun s0=>
 ((ax pg A z (aP p0) fun t0=>
 (ab pg A z (aT 93 8 13 3 t0) fun v0=>
 (ab pg A z (ek 34 3 v0) fun y0=>
 (And
 (eC pg R A z false 48 #[s0] fun z0 A0 C0=>
 (un (cellOf y0 0) fun D0=>
 un (cellOf y0 1) fun E0=>
 un (cellOf y0 2) fun F0=>
 ab pg C0 A0 (ea 49 #[(I 8),(I 31),E,(I 0),(I 0),(I 0),E,(I 0),(I 0),D0,E0,F0,(I 0),(I 0),(I 0),(B false),z0,(I 8),(.slice none 0 0),(.slice none 0 0),(.slice none 0 0),(.slice none 0 0),(.slice none 0 0),(.slice none 0 0),(I 0),(I 0),(.float .f64 0),(.float .f64 0),(I 0),(I 0),(I 0),(I 0),(I 0),(I 0),(.slice none 0 0),(.slice none 0 0)] #[(0,(I 8)),(1,(I 31)),(2,E),(4,E),(10,z0),(11,(I 8)),(7,y0)]) fun G0=>
 ((un (ak (aa G0)) fun H0=>
 aI (aq (ad (aa G0))==36) (aI (av (ad (aa G0)) bB.one) (n0 H0 A0 C0))))))
 ((eC pg R A z false 48 #[s0] fun L0 M0 N0=>
 (un (cellOf y0 0) fun O0=>
 un (cellOf y0 1) fun Q0=>
 un (cellOf y0 2) fun S0=>
 ab pg N0 M0 (ea 49 #[(I 8),(I 31),E,(I 0),(I 0),(I 0),E,(I 0),(I 0),O0,Q0,S0,(I 0),(I 0),(I 0),(B false),L0,(I 8),(.slice none 0 0),(.slice none 0 0),(.slice none 0 0),(.slice none 0 0),(.slice none 0 0),(.slice none 0 0),(I 0),(I 0),(.float .f64 0),(.float .f64 0),(I 0),(I 0),(I 0),(I 0),(I 0),(I 0),(.slice none 0 0),(.slice none 0 0)] #[(0,(I 8)),(1,(I 31)),(2,E),(4,E),(10,L0),(11,(I 8)),(7,y0)]) fun T0=>
 (un (ak (aa T0)) fun U0=>
 aI (aq (ad (aa T0))==36) (aI (av (ad (aa T0)) bB.one) (n0 U0 M0 N0))))))))))))))))))))))
 ((((fin R A z (aJ #[y,(I 0)])))))))) fun V0=>
 ax pg X0 w0 (aP p0) fun Y0=>
 ab pg X0 w0 (aT 93 5 10 1 Y0) fun Z0=>
 ab pg X0 w0 (ld1 4 Z0) fun a1=>
 ab pg X0 w0 (aU bh a1) fun b1=>
 (au b1
 (ab pg X0 w0 (ea 49 #[(I 13),(I 31),(I 32),(I 0),(I 0),(I 0),(I 0),(I 0),(I 0),(I 0),(I 0),(I 0),(I 0),(I 0),(I 0),(B false),(I 0),(I 0),(.slice none 0 0),(.slice none 0 0),(.slice none 0 0),(.slice none 0 0),(.slice none 0 0),(.slice none 0 0),(I 0),(I 0),(.float .f64 0),(.float .f64 0),(I 0),(I 0),(I 0),(I 0),(I 0),(I 0),(.slice none 0 0),(.slice none 0 0)] #[(0,(I 13)),(1,(I 31)),(2,(I 32))]) fun c1=>
 eV pg R X0 w0 true (gG 57 49 36 1 #[(0,c1)]) fun d1 e1 g1=>
 eV pg R g1 e1 true (ga 57 49 36 416 57 (.slice none 0 0) d1) fun h1 i1 j1=>
 (V0 h1 i1 j1))
 (ax pg X0 w0 (aP p0) fun k1=>
 ab pg X0 w0 (aT 93 4 7 3 k1) fun l1=>
 ab pg X0 w0 (ek 34 3 l1) fun m1=>
 un (ak (aa m1)) fun n1=>
 aI (aq (ad (aa m1))==3) (aI (av (ad (aa m1)) bB.one) ((ax pg X0 w0 (aP p0) fun o1=>
 ab pg X0 w0 (aT 93 6 11 1 o1) fun q1=>
 ab pg X0 w0 (ld1 63 q1) fun r1=>
 ax pg X0 w0 (aP p0) fun s1=>
 ab pg X0 w0 (aT 93 6 11 1 s1) fun t1=>
 ab pg X0 w0 (ld1 63 t1) fun v1=>
 ab pg X0 w0 (cp 63 3 v1) fun y1=>
 ab pg X0 w0 (ib #[3,3] 3 #[y1,(I 8)]) fun z1=>
 ab pg X0 w0 (cy 63 r1 none (some z1) none) fun A1=>
 ab pg X0 w0 (cp 63 3 A1) fun C1=>
 (rr X0 w0 (I 0) n1 (.slice none 0 0) 40 5 4 fun D1 E1 F1 G1 H1 L1 M1=>
 ab pg M1 L1 (binOp .lss 3 F1 C1) fun N1=>
 (au N1
 ((ab pg M1 L1 (cA 63 7 A1 F1) fun O1=>
 ab pg M1 L1 (ek 69 7 O1) fun Q1=>
 un (ak (aa Q1)) fun S1=>
 aI (aq (ad (aa Q1))==7) (aI (av (ad (aa Q1)) bB.one) ((aI (cu G1) (aI (cu S1) (un (cellOf S1 6) fun T1=>
 eC pg R M1 L1 false 45 #[T1] fun U1 V1 Y1=>
 un (cj G1 0 3) fun Z1=>
 un (cj S1 3 3) fun a2=>
 un (cj S1 0 3) fun b2=>
 un (cellOf Z1 0) fun c2=>
 un (cellOf Z1 1) fun d2=>
 un (cellOf Z1 2) fun e2=>
 un (cellOf a2 0) fun g2=>
 un (cellOf a2 1) fun h2=>
 un (cellOf a2 2) fun i2=>
 un (cellOf b2 0) fun j2=>
 un (cellOf b2 1) fun k2=>
 un (cellOf b2 2) fun l2=>
 ab pg Y1 V1 (ea 49 #[(I 12),(I 31),(I 32),j2,k2,l2,(I 0),(I 0),(I 0),g2,h2,i2,c2,d2,e2,(B false),(I 0),(I 0),(.slice none 0 0),(.slice none 0 0),U1,(.slice none 0 0),(.slice none 0 0),(.slice none 0 0),(I 0),(I 0),(.float .f64 0),(.float .f64 0),(I 0),(I 0),(I 0),(I 0),(I 0),(I 0),(.slice none 0 0),(.slice none 0 0)] #[(0,(I 12)),(1,(I 31)),(2,(I 32)),(8,Z1),(7,a2),(3,b2),(14,U1)]) fun m2=>
 eV pg R Y1 V1 true (gG 57 49 36 1 #[(0,m2)]) fun n2 o2 q2=>
 eV pg R q2 o2 true (ga 57 49 36 416 57 H1 n2) fun r2 s2 t2=>
 (aI (cu S1) (aI (cu G1) (un (ak (aa a2)) fun v2=>
 aI (aq (ad (aa a2))==3) (aI (av (ad (aa a2)) bB.one) (((ab pg t2 s2 (binOp .add 3 F1 (I 1)) fun y2=>
 ru D1 E1 y2 v2 r2 s2 t2))))))))))))))
 (V0 H1 L1 M1))))))))))))))
noncomputable def J8:bu:=⟨231,[(8,(pg.cellsOf 34)),(14,(pg.cellsOf 34)),(18,(pg.cellsOf 34))],[],[0,1,2,6,7,9,10,11,12,13,16,17,25,42,53,103,116,172,185,212],[29,30,31,32,33,34,36,37,38,39,40,41,44,45,46,47,48,50,51,52,60,61,62,63,64,65,66,68,69,70,71,72,73,74,75,77,78,79,80,81,82,83,84,85,86,87,88,90,91,92,93,94,95,96,97,98,99,100,101,102,123,124,125,126,127,128,129,131,132,133,134,135,136,137,138,139,140,141,143,144,145,146,147,148,149,150,151,152,153,154,155,157,158,159,160,161,162,163,164,165,166,167,168,169,170,171,198,199,200,201,202,205,206,207,208,209,210,211,214,215,223,224,225,226,227,228,229],[8,9,10,12,13,16,17]⟩
def Ay (p0 p1:Value) (p2:Bool):Prop:=
 (eC pg R X0 w0 true 17 #[p0] fun a b c=>
 (eC pg R c b true 16 #[p0] fun d e g=>
 un (ak (aa d)) fun h=>
 aI (aq (ad (aa d))==3) (aI (av (ad (aa d)) bB.one) ((((jn (fun (i:Value)=>
 (rr g e (I 0) i h 10 9 8 fun j k l m n o q=>
 un (aB (B p2) true l) fun r=>
 un (aB (B p2) true a) fun s=>
 ay pg q o (B p2) true (vS (cp 63 3 s)) fun t=>
 ay pg q o (B p2) true (vS (binOp .lss 3 r t)) fun v=>
 ax pg q o (aM (B p2) v (B false)) fun y=>
 un (aB y true l) fun z=>
 ay pg q o y true (vS (binOp .lss 3 z (I 8))) fun A=>
 ax pg q o (aM y A (B false)) fun C=>
 (au C
 ((ab pg q o (cp 57 3 p1) fun D=>
 ab pg q o (binOp .geq 3 m D) fun E=>
 un (aB E false p1) fun F=>
 un (aB E false m) fun G=>
 ay pg q o E false (vS (cA 57 36 F G)) fun H=>
 ay pg q o E false (vS (aT 49 0 0 1 H)) fun L=>
 ay pg q o E false (vS (ld1 3 L)) fun M=>
 ay pg q o E false (vS (aF .neq 3 (.tmp 65) (.const (I 12)) M (I 12))) fun N=>
 ax pg q o (aM E (B true) N) fun O=>
 un (aB O false p1) fun Q=>
 un (aB O false m) fun S=>
 ay pg q o O false (vS (cA 57 36 Q S)) fun T=>
 ay pg q o O false (vS (aT 49 8 12 3 T)) fun U=>
 ay pg q o O false (vS (ek 34 3 U)) fun V=>
 aI (cu n) (un (cj n 0 3) fun Y=>
 un (aB O false Y) fun Z=>
 ay pg q o O false (vS (aF .neq 34 (.tmp 73) (.tmp 74) V Z)) fun a0=>
 ax pg q o (aM O (B true) a0) fun b0=>
 un (aB b0 false p1) fun c0=>
 un (aB b0 false m) fun d0=>
 ay pg q o b0 false (vS (cA 57 36 c0 d0)) fun e0=>
 ay pg q o b0 false (vS (aT 49 7 9 3 e0)) fun g0=>
 ay pg q o b0 false (vS (ek 34 3 g0)) fun h0=>
 un (aB b0 false a) fun i0=>
 un (aB b0 false l) fun j0=>
 ay pg q o b0 false (vS (cA 63 7 i0 j0)) fun k0=>
 ay pg q o b0 false (vS (aT 69 1 3 3 k0)) fun l0=>
 ay pg q o b0 false (vS (ek 34 3 l0)) fun m0=>
 ay pg q o b0 false (vS (aF .neq 34 (.tmp 82) (.tmp 87) h0 m0)) fun n0=>
 ax pg q o (aM b0 (B true) n0) fun o0=>
 un (aB o0 false p1) fun q0=>
 un (aB o0 false m) fun r0=>
 ay pg q o o0 false (vS (cA 57 36 q0 r0)) fun s0=>
 ay pg q o o0 false (vS (aT 49 14 20 1 s0)) fun t0=>
 ay pg q o o0 false (vS (ld1 37 t0)) fun v0=>
 un (aB o0 false a) fun y0=>
 un (aB o0 false l) fun z0=>
 ay pg q o o0 false (vS (cA 63 7 y0 z0)) fun A0=>
 ay pg q o o0 false (vS (aT 69 2 6 1 A0)) fun C0=>
 ay pg q o o0 false (vS (ld1 37 C0)) fun D0=>
 jn (fun (E0:Value) (F0:World) (G0:XS)=>
 ay pg G0 F0 o0 false (vS (aU bh E0)) fun H0=>
 ax pg G0 F0 (aM o0 (B true) H0) fun L0=>
 (au L0
 (fin R G0 F0 (B false))
 ((ab pg G0 F0 (cA 63 7 a l) fun M0=>
 ab pg G0 F0 (aT 69 1 3 3 M0) fun N0=>
 ab pg G0 F0 (ek 34 3 N0) fun O0=>
 aI (cu n) (un (ak (aa O0)) fun Q0=>
 aI (aq (ad (aa O0))==3) (aI (av (ad (aa O0)) bB.one) ((ab pg G0 F0 (binOp .add 3 m (I 1)) fun S0=>
 ((ab pg G0 F0 (binOp .add 3 l (I 1)) fun T0=>
 ru j k T0 S0 Q0 F0 G0)))))))))) fun U0=>
 (gE o0 false (eC pg R q o true 39 #[v0,D0] U0) (U0 undef o q)))))
 (((eC pg R q o true 50 #[p0] fun V0 Y0 Z0=>
 (((wj Z0 Y0 (I 0) m (B false) undef undef 13 9 12 17 16 fun a1 b1 c1 d1 e1 _ _ g1 h1=>
 ab pg h1 g1 (cp 38 3 V0) fun i1=>
 ab pg h1 g1 (binOp .lss 3 c1 i1) fun j1=>
 (au j1
 ((ab pg h1 g1 (cp 57 3 p1) fun k1=>
 ab pg h1 g1 (binOp .geq 3 d1 k1) fun l1=>
 un (aB l1 false p1) fun m1=>
 un (aB l1 false d1) fun n1=>
 ay pg h1 g1 l1 false (vS (cA 57 36 m1 n1)) fun o1=>
 ay pg h1 g1 l1 false (vS (aT 49 0 0 1 o1)) fun q1=>
 ay pg h1 g1 l1 false (vS (ld1 3 q1)) fun r1=>
 ay pg h1 g1 l1 false (vS (aF .neq 3 (.tmp 128) (.const (I 8)) r1 (I 8))) fun s1=>
 ax pg h1 g1 (aM l1 (B true) s1) fun t1=>
 un (aB t1 false p1) fun v1=>
 un (aB t1 false d1) fun y1=>
 ay pg h1 g1 t1 false (vS (cA 57 36 v1 y1)) fun z1=>
 ay pg h1 g1 t1 false (vS (aT 49 2 2 1 z1)) fun A1=>
 ay pg h1 g1 t1 false (vS (ld1 3 A1)) fun C1=>
 un (aB t1 false V0) fun D1=>
 un (aB t1 false c1) fun E1=>
 ay pg h1 g1 t1 false (vS (cA 38 1 D1 E1)) fun F1=>
 ay pg h1 g1 t1 false (vS (ld1 3 F1)) fun G1=>
 ay pg h1 g1 t1 false (vS (aF .neq 3 (.tmp 136) (.tmp 140) C1 G1)) fun H1=>
 ax pg h1 g1 (aM t1 (B true) H1) fun L1=>
 un (aB L1 false p1) fun M1=>
 un (aB L1 false d1) fun N1=>
 ay pg h1 g1 L1 false (vS (cA 57 36 M1 N1)) fun O1=>
 ay pg h1 g1 L1 false (vS (aT 49 10 16 1 O1)) fun Q1=>
 ay pg h1 g1 L1 false (vS (ld1 3 Q1)) fun S1=>
 un (aB L1 false p0) fun T1=>
 un (aB L1 false V0) fun U1=>
 un (aB L1 false c1) fun V1=>
 ay pg h1 g1 L1 false (vS (cA 38 1 U1 V1)) fun Y1=>
 ay pg h1 g1 L1 false (vS (ld1 3 Y1)) fun Z1=>
 jn (fun (a2:Value) (b2:World) (c2:XS)=>
 ay pg c2 b2 L1 false (vS (aF .neq 3 (.tmp 148) (.tmp 154) S1 a2)) fun d2=>
 ax pg c2 b2 (aM L1 (B true) d2) fun e2=>
 un (aB e2 false p1) fun g2=>
 un (aB e2 false d1) fun h2=>
 ay pg c2 b2 e2 false (vS (cA 57 36 g2 h2)) fun i2=>
 ay pg c2 b2 e2 false (vS (aT 49 11 17 1 i2)) fun j2=>
 ay pg c2 b2 e2 false (vS (ld1 3 j2)) fun k2=>
 ay pg c2 b2 e2 false (vS (aF .neq 3 (.tmp 162) (.const (I 0)) k2 (I 0))) fun l2=>
 un (aB e2 false l2) fun m2=>
 un (aB m2 true p1) fun n2=>
 un (aB m2 true d1) fun o2=>
 ay pg c2 b2 m2 true (vS (cA 57 36 n2 o2)) fun q2=>
 ay pg c2 b2 m2 true (vS (aT 49 11 17 1 q2)) fun r2=>
 ay pg c2 b2 m2 true (vS (ld1 3 r2)) fun s2=>
 ay pg c2 b2 m2 true (vS (aF .neq 3 (.tmp 169) (.const (I 8)) s2 (I 8))) fun t2=>
 ay pg c2 b2 e2 false (aM m2 t2 (B false)) fun v2=>
 ax pg c2 b2 (aM e2 (B true) v2) fun y2=>
 (au y2
 (fin R c2 b2 (B false))
 ((ab pg c2 b2 (cA 38 1 V0 c1) fun z2=>
 ab pg c2 b2 (ld1 3 z2) fun A2=>
 eC pg R c2 b2 true 22 #[p0,A2] fun C2 D2 E2=>
 ab pg E2 D2 (aD C2 0) fun F2=>
 ab pg E2 D2 (aD C2 1) fun _=>
 un (ak (aa F2)) fun G2=>
 aI (aq (ad (aa F2))==3) (aI (av (ad (aa F2)) bB.one) ((((ix E2 D2 (I 0) (B true) 17 16 fun H2 L2 M2 N2 O2 Q2=>
 ab pg Q2 O2 (cp 38 3 V0) fun S2=>
 ab pg Q2 O2 (binOp .lss 3 M2 S2) fun T2=>
 (au T2
 ((ab pg Q2 O2 (cA 38 1 V0 M2) fun U2=>
 ab pg Q2 O2 (ld1 3 U2) fun V2=>
 eC pg R Q2 O2 true 22 #[p0,V2] fun Y2 Z2 a3=>
 ab pg a3 Z2 (aD Y2 0) fun b3=>
 ab pg a3 Z2 (aD Y2 1) fun _=>
 un (ak (aa b3)) fun c3=>
 aI (aq (ad (aa b3))==3) (aI (av (ad (aa b3)) bB.one) ((aI (cu c3) (un (cj c3 0 3) fun d3=>
 un (aB N2 true d3) fun e3=>
 aI (cu G2) (un (cj G2 0 3) fun g3=>
 un (aB N2 true g3) fun h3=>
 jn (fun (i3:Value) (j3:World) (k3:XS)=>
 ay pg k3 j3 N2 true (vS (aU bh i3)) fun l3=>
 ax pg k3 j3 (aM N2 l3 (B false)) fun m3=>
 ((ab pg k3 j3 (binOp .add 3 M2 (I 1)) fun n3=>
 iy H2 L2 n3 m3 j3 k3))) fun o3=>
 (gE N2 true (eC pg R a3 Z2 true 20 #[e3,h3] o3) (o3 undef Z2 a3)))))))))
 (((un (aB N2 true p1) fun q3=>
 un (aB N2 true d1) fun r3=>
 ay pg Q2 O2 N2 true (vS (cA 57 36 q3 r3)) fun s3=>
 ay pg Q2 O2 N2 true (vS (aT 49 11 17 1 s3)) fun t3=>
 ay pg Q2 O2 N2 true (vS (ld1 3 t3)) fun v3=>
 ay pg Q2 O2 N2 true (vS (aF .eql 3 (.tmp 210) (.const (I 0)) v3 (I 0))) fun y3=>
 ax pg Q2 O2 (aM N2 y3 (B false)) fun z3=>
 (au z3
 (fin R Q2 O2 (B false))
 ((un (aB e1 false N2) fun A3=>
 ax pg Q2 O2 (aM e1 (B true) A3) fun C3=>
 (ab pg Q2 O2 (binOp .add 3 d1 (I 1)) fun D3=>
 ((ab pg Q2 O2 (binOp .add 3 c1 (I 1)) fun E3=>
 wo a1 b1 E3 D3 C3 M2 N2 O2 Q2))))))))))))))))))) fun F3=>
 (gE L1 false (eC pg R h1 g1 false 19 #[T1,Z1] F3) (F3 undef g1 h1))))
 (((ab pg h1 g1 (cp 57 3 p1) fun G3=>
 ab pg h1 g1 (aF .eql 3 (.tmp 219) (.tmp 221) d1 G3) fun H3=>
 un (aB H3 true e1) fun L3=>
 un (aB H3 true L3) fun M3=>
 un (aB M3 false V0) fun N3=>
 ay pg h1 g1 M3 false (vS (cp 38 3 N3)) fun O3=>
 ay pg h1 g1 M3 false (vS (aF .eql 3 (.tmp 227) (.const (I 0)) O3 (I 0))) fun Q3=>
 ay pg h1 g1 H3 true (aM M3 (B true) Q3) fun S3=>
 ax pg h1 g1 (aM H3 S3 (B false)) fun T3=>
 (fin R h1 g1 T3)))))))))))))) fun U3=>
 ab pg g e (aU bh (B p2)) fun V3=>
 (au V3
 (ab pg g e (cp 57 3 p1) fun Y3=>
 ab pg g e (aF .eql 3 (.tmp 27) (.const (I 0)) Y3 (I 0)) fun Z3=>
 un (aB Z3 false p1) fun a4=>
 ay pg g e Z3 false (vS (cA 57 36 a4 (I 0))) fun b4=>
 ay pg g e Z3 false (vS (aT 49 0 0 1 b4)) fun c4=>
 ay pg g e Z3 false (vS (ld1 3 c4)) fun d4=>
 ay pg g e Z3 false (vS (aF .neq 3 (.tmp 33) (.const (I 13)) d4 (I 13))) fun e4=>
 ax pg g e (aM Z3 (B true) e4) fun g4=>
 un (aB g4 false p1) fun h4=>
 ay pg g e g4 false (vS (cA 57 36 h4 (I 0))) fun i4=>
 ay pg g e g4 false (vS (aT 49 2 2 1 i4)) fun j4=>
 ay pg g e g4 false (vS (ld1 3 j4)) fun k4=>
 ay pg g e g4 false (vS (aF .neq 3 (.tmp 40) (.const (I 32)) k4 (I 32))) fun l4=>
 ax pg g e (aM g4 (B true) l4) fun m4=>
 (au m4
 (fin R g e (B false))
 (U3 (I 1))))
 (U3 (I 0))))))))))
def zA (p0:Value):Prop:=
 (ax pg X0 w0 (aP p0) fun a=>
 ab pg X0 w0 (aT 93 4 7 3 a) fun b=>
 ab pg X0 w0 (ek 34 3 b) fun c=>
 un (ak (aa c)) fun d=>
 aI (aq (ad (aa c))==3) (aI (av (ad (aa c)) bB.one) (un (cj d 0 3) fun e=>
 aI (av [d] cu) (fin R X0 w0 e))))
def xp (p0:Value):Prop:=
 ((ax pg X0 w0 (aP p0) fun a=>
 ab pg X0 w0 (aT 93 6 11 1 a) fun b=>
 ab pg X0 w0 (ld1 63 b) fun c=>
 ab pg X0 w0 (cp 63 3 c) fun d=>
 (ix X0 w0 (I 0) (.slice none 0 0) 11 3 fun e g h i j k=>
 ab pg k j (binOp .lss 3 h d) fun l=>
 (au l
 ((ab pg k j (cA 63 7 c h) fun m=>
 ab pg k j (ek 69 7 m) fun n=>
 un (ak (aa n)) fun o=>
 aI (aq (ad (aa n))==7) (aI (av (ad (aa n)) bB.one) ((aI (cu o) (un (cellOf o 6) fun q=>
 eC pg R k j true 45 #[q] fun r s t=>
 un (ak (aS (cH (ad (aa o)) 6 [r]))) fun v=>
 aI (bB.one r) ((aI (cu v) (un (cj v 0 7) fun y=>
 eV pg R t s true (gG 63 69 7 1 #[(0,y)]) fun z A C=>
 eV pg R C A true (ga 63 69 7 72 63 i z) fun D E F=>
 ((ab pg F E (binOp .add 3 h (I 1)) fun G=>
 iy e g G D E F)))))))))))
 (fin R k j i)))))
noncomputable def J9:bu:=⟨16,[],[],[0,1,4,5,13],[],[]⟩
def Am (p0:Value) (p1:Int):Prop:=
 (ax pg X0 w0 (aP p0) fun a=>
 ab pg X0 w0 (aT 93 3 6 1 a) fun b=>
 ab pg X0 w0 (ld1 90 b) fun c=>
 ab pg X0 w0 (cx 90 c (I p1) false) fun d=>
 (ab pg X0 w0 (aF .neq 111 (.tmp 12) (.const (.pointer none)) d (.pointer none)) fun e=>
 (au e
 (eC pg R X0 w0 true 48 #[d] fun g h i=>
 (fin R i h g))
 (fin R X0 w0 (I 0)))))
noncomputable def Md:bu:=⟨9,[(2,(pg.cellsOf 34)),(3,(pg.cellsOf 34))],[],[0,1,4],[],[]⟩
def BZ (aQ aV aW bS bY bW:Int):Prop:=
 (eC pg R X0 w0 true 52 #[(.agg #[(I aQ),(I aV),(I aW)]),(.agg #[(I bS),(I bY),(I bW)])] fun a b c=>
 ab pg c b (binOp .lss 3 a (I 0)) fun d=>
 (fin R c b d))
noncomputable def El:bu:=⟨14,[(4,(pg.cellsOf 34))],[],[0,1,5],[],[]⟩
def vJ (p0:Value) (p1:Int):Prop:=
 (ax pg X0 w0 (aP p0) fun a=>
 ab pg X0 w0 (aT 93 2 5 1 a) fun b=>
 ab pg X0 w0 (ld1 80 b) fun c=>
 eC pg R X0 w0 true 53 #[c,(I p1)] fun d e g=>
 ab pg g e (aD d 0) fun h=>
 ab pg g e (aD d 1) fun i=>
 un (ak (aa h)) fun j=>
 aI (aq (ad (aa h))==3) (aI (av (ad (aa h)) bB.one) ((un (cj j 0 3) fun k=>
 aI (av [j] cu) (fin R g e (aJ #[k,i]))))))
def As (p0:Value):Prop:=
 (ax pg X0 w0 (aP p0) fun a=>
 ab pg X0 w0 (aT 93 9 16 1 a) fun b=>
 ab pg X0 w0 (ld1 4 b) fun c=>
 (au c
 (fin R X0 w0 (I 12))
 ((ax pg X0 w0 (aP p0) fun d=>
 ab pg X0 w0 (aT 93 4 7 3 d) fun e=>
 ab pg X0 w0 (ek 34 3 e) fun g=>
 un (cellOf g 0) fun h=>
 un (cellOf g 1) fun i=>
 un (cellOf g 2) fun j=>
 ab pg X0 w0 (ea 85 #[h,i,j,(.slice none 0 0)] #[(0,g)]) fun k=>
 un (ak (aa k)) fun l=>
 aI (aq (ad (aa k))==4) (aI (av (ad (aa k)) bB.one) ((ax pg X0 w0 (aP p0) fun m=>
 ab pg X0 w0 (aT 93 3 6 1 m) fun n=>
 ab pg X0 w0 (ld1 90 n) fun o=>
 eC pg R X0 w0 true 47 #[o] fun q r s=>
 eC pg R s r true 46 #[q] fun t v y=>
 ab pg y v (cp 38 3 t) fun z=>
 (wi y v (I 0) l undef undef 26 3 42 6 fun A C D E _ _ F G=>
 ab pg G F (binOp .lss 3 D z) fun H=>
 (au H
 ((ab pg G F (cA 38 1 t D) fun L=>
 ab pg G F (ld1 3 L) fun M=>
 (ax pg G F (aP p0) fun N=>
 ab pg G F (aT 93 3 6 1 N) fun O=>
 ab pg G F (ld1 90 O) fun Q=>
 ab pg G F (cx 90 Q M false) fun S=>
 eC pg R G F true 54 #[S] fun T U V=>
 (ax pg V U (aP p0) fun Y=>
 ab pg V U (aT 93 7 12 1 Y) fun Z=>
 ab pg V U (ld1 91 Z) fun a0=>
 ab pg V U (cp 91 3 a0) fun b0=>
 (ix V U (I 0) T 42 6 fun c0 d0 e0 g0 h0 i0=>
 ab pg i0 h0 (binOp .lss 3 e0 b0) fun j0=>
 (au j0
 (((jn (fun (k0:Value)=>
 (ab pg i0 h0 (binOp .add 3 e0 (I 1)) fun l0=>
 iy c0 d0 l0 k0 h0 i0)) fun m0=>
 ab pg i0 h0 (cA 91 5 a0 e0) fun n0=>
 ab pg i0 h0 (ek 102 5 n0) fun o0=>
 un (ak (aa o0)) fun q0=>
 aI (aq (ad (aa o0))==5) (aI (av (ad (aa o0)) bB.one) ((aI (cu q0) (un (cellOf q0 0) fun r0=>
 ab pg i0 h0 (aF .eql 3 (.tmp 47) (.tmp 48) r0 M) fun s0=>
 (au s0
 (aI (cu q0) (un (cellOf q0 1) fun t0=>
 ab pg i0 h0 (ib #[3,3] 3 #[g0,t0]) fun v0=>
 (m0 v0)))
 (m0 g0)))))))))
 (((aI (cu E) (ab pg i0 h0 (ea 89 #[M,g0] #[(0,M),(1,g0)]) fun y0=>
 eV pg R i0 h0 true (gG 83 89 2 1 #[(0,y0)]) fun z0 A0 C0=>
 un (cellOf E 3) fun D0=>
 eV pg R C0 A0 true (ga 83 89 2 16 83 D0 z0) fun E0 F0 G0=>
 un (ak (aS (cH (ad (aa E)) 3 [E0]))) fun H0=>
 aI (bB.one E0) (((ab pg G0 F0 (binOp .add 3 D (I 1)) fun L0=>
 wm A C L0 H0 e0 g0 F0 G0)))))))))))))
 (((ax pg G F (aP p0) fun M0=>
 ab pg G F (aT 93 0 0 1 M0) fun N0=>
 ab pg G F (ld1 24 N0) fun O0=>
 aI (cu E) (un (cj E 0 4) fun Q0=>
 eC pg R G F true 55 #[O0,Q0] fun S0 T0 U0=>
 (((jn (fun (V0:World) (Y0:XS)=>
 (fin R Y0 V0 S0)) fun Z0=>
 ab pg U0 T0 (aF .eql 27 (.tmp 70) (.const (I 0)) S0 (I 0)) fun a1=>
 (au a1
 (aI (cu E) (ax pg U0 T0 (aP p0) fun b1=>
 ab pg U0 T0 (aT 93 1 1 4 b1) fun c1=>
 eU pg R U0 T0 true (st1 85 4 c1 Q0) fun _ d1 e1=>
 (Z0 d1 e1)))
 (ab pg U0 T0 (aF .eql 27 (.tmp 70) (.const (I 12)) S0 (I 12)) fun g1=>
 (au g1
 (eC pg R U0 T0 true 56 #[p0] fun _ h1 i1=>
 (Z0 h1 i1))
 (Z0 T0 U0))))))))))))))))))))
def Ac (p0:Value):Prop:=
 (ax pg X0 w0 (aP p0) fun a=>
 ab pg X0 w0 (aT 79 4 4 1 a) fun b=>
 ab pg X0 w0 (ld1 4 b) fun c=>
 (fin R X0 w0 c))
noncomputable def UN:bu:=⟨23,[(3,(pg.cellsOf 34))],[],[0,1,4,5,6,13],[9,10,11],[]⟩
def Ig (p0 bS bY bW:Int):Prop:=
 (ab pg X0 w0 (binOp .lss 3 (I p0) (I 1)) fun a=>
 un (aB a false (I p0)) fun b=>
 ay pg X0 w0 a false (vS (binOp .gtr 3 b (I 64))) fun c=>
 ax pg X0 w0 (aM a (B true) c) fun d=>
 (au d
 ((fin R X0 w0 (aJ #[(.pointer none),(I 1)])))
 (eC pg R X0 w0 true 57 #[(.agg #[(I bS),(I bY),(I bW)])] fun e g h=>
 ab pg h g (aU bh e) fun i=>
 (au i
 ((fin R h g (aJ #[(.pointer none),(I 17)])))
 ((((jn (fun (j:Value) (k:World) (l:XS)=>
 fin R l k (aJ #[j,(I 0)])) fun m=>
 ((And
 (eC pg R h g false 58 #[] fun n o q=>
 (eV pg R q o false (iT 126 none) fun r s t=>
 (ab pg t s (ea 128 #[n,(I p0),(I bS),(I bY),(I bW),r] #[(0,n),(1,(I p0)),(2,(.agg #[(I bS),(I bY),(I bW)])),(3,r)]) fun v=>
 (eV pg R t s true (cL 128 v) fun y z A=>
 (m y z A)))))
 (eV pg R h g false (iT 126 none) fun C D E=>
 (eC pg R E D false 58 #[] fun F G H=>
 (ab pg H G (ea 128 #[F,(I p0),(I bS),(I bY),(I bW),C] #[(0,F),(1,(I p0)),(2,(.agg #[(I bS),(I bY),(I bW)])),(3,C)]) fun L=>
 (eV pg R H G true (cL 128 L) fun M N O=>
 (m M N O)))))))))))))))
def Im (p0:Value):Prop:=
 (eC pg R X0 w0 true 59 #[p0,(.string { data:= #[109,97,114,107] })] fun a b c=>
 ab pg c b (aD a 0) fun d=>
 ab pg c b (aD a 1) fun e=>
 (ab pg c b (aF .neq 27 (.tmp 17) (.const (I 0)) e (I 0)) fun g=>
 (au g
 (ab pg c b (ea 85 #[(I 0),(I 0),(I 0),(.slice none 0 0)] #[]) fun h=>
 un (ak (aa h)) fun i=>
 aI (aq (ad (aa h))==4) (aI (av (ad (aa h)) bB.one) ((un (cj i 0 4) fun j=>
 aI (av [i] cu) (fin R c b (aJ #[j,(I 8)]))))))
 ((eC pg R c b true 60 #[d] fun k l m=>
 ab pg m l (aD k 0) fun n=>
 ab pg m l (aD k 1) fun o=>
 (ab pg m l (cp 135 3 n) fun q=>
 ab pg m l (aF .neq 3 (.tmp 26) (.const (I 1)) q (I 1)) fun r=>
 un (aB r false o) fun s=>
 un (aB r false d) fun t=>
 ay pg m l r false (vS (cp 132 3 t)) fun v=>
 ay pg m l r false (vS (aF .neq 3 (.tmp 29) (.tmp 31) s v)) fun y=>
 ax pg m l (aM r (B true) y) fun z=>
 (au z
 (ab pg m l (ea 85 #[(I 0),(I 0),(I 0),(.slice none 0 0)] #[]) fun A=>
 un (ak (aa A)) fun C=>
 aI (aq (ad (aa A))==4) (aI (av (ad (aa A)) bB.one) ((un (cj C 0 4) fun D=>
 aI (av [C] cu) (fin R m l (aJ #[D,(I 13)]))))))
 ((ab pg m l (cA 135 1 n (I 0)) fun E=>
 ab pg m l (ld1 132 E) fun F=>
 eC pg R m l true 61 #[F] fun G H L=>
 (eC pg R L H true 62 #[G] fun M N O=>
 eC pg R O N true 62 #[G] fun Q S T=>
 eC pg R T S true 62 #[G] fun U V Y=>
 ab pg Y V (ea 34 #[M,Q,U] #[(0,M),(1,Q),(2,U)]) fun Z=>
 un (cellOf Z 0) fun a0=>
 un (cellOf Z 1) fun b0=>
 un (cellOf Z 2) fun c0=>
 ab pg Y V (ea 85 #[a0,b0,c0,(.slice none 0 0)] #[(0,Z)]) fun d0=>
 un (ak (aa d0)) fun e0=>
 aI (aq (ad (aa d0))==4) (aI (av (ad (aa d0)) bB.one) ((eC pg R Y V true 63 #[G,(I 12)] fun g0 h0 i0=>
 (ix i0 h0 (I 0) e0 49 9 fun j0 k0 l0 m0 n0 o0=>
 ab pg o0 n0 (binOp .lss 3 l0 g0) fun q0=>
 (au q0
 ((aI (cu m0) (un (cellOf m0 3) fun r0=>
 eC pg R o0 n0 false 62 #[G] fun s0 t0 v0=>
 eC pg R v0 t0 false 62 #[G] fun y0 z0 A0=>
 ab pg A0 z0 (ea 89 #[s0,y0] #[(0,s0),(1,y0)]) fun C0=>
 eV pg R A0 z0 false (gG 83 89 2 1 #[(0,C0)]) fun D0 E0 F0=>
 eV pg R F0 E0 true (ga 83 89 2 16 83 r0 D0) fun G0 H0 L0=>
 un (ak (aS (cH (ad (aa m0)) 3 [G0]))) fun M0=>
 aI (bB.one G0) (((ab pg L0 H0 (binOp .add 3 l0 (I 1)) fun N0=>
 iy j0 k0 N0 M0 H0 L0))))))
 (((eC pg R o0 n0 true 64 #[G] fun O0 Q0 S0=>
 ab pg S0 Q0 (aD O0 0) fun T0=>
 ab pg S0 Q0 (aD O0 1) fun _=>
 (ab pg S0 Q0 (aF .neq 27 (.tmp 67) (.const (I 0)) T0 (I 0)) fun U0=>
 aI (cu m0) (un (cj m0 0 4) fun V0=>
 un (aB U0 false V0) fun Y0=>
 jn (fun (Z0:Value) (a1:World) (b1:XS)=>
 ay pg b1 a1 U0 false (vS (aU bh Z0)) fun c1=>
 ax pg b1 a1 (aM U0 (B true) c1) fun d1=>
 un (aB d1 false V0) fun e1=>
 un (aB d1 false n) fun g1=>
 ay pg b1 a1 d1 false (vS (cA 135 1 g1 (I 0))) fun h1=>
 ay pg b1 a1 d1 false (vS (ld1 132 h1)) fun i1=>
 jn (fun (j1:Value) (k1:World) (l1:XS)=>
 jn (fun (m1:Value) (n1:World) (o1:XS)=>
 ay pg o1 n1 d1 false (vS (aU bh m1)) fun q1=>
 ax pg o1 n1 (aM d1 (B true) q1) fun r1=>
 (au r1
 (ab pg o1 n1 (ea 85 #[(I 0),(I 0),(I 0),(.slice none 0 0)] #[]) fun s1=>
 un (ak (aa s1)) fun t1=>
 aI (aq (ad (aa s1))==4) (aI (av (ad (aa s1)) bB.one) ((un (cj t1 0 4) fun v1=>
 aI (av [t1] cu) (fin R o1 n1 (aJ #[v1,(I 13)]))))))
 ((aI (cu m0) (un (ak (aa V0)) fun y1=>
 aI (aq (ad (aa V0))==4) (aI (av (ad (aa V0)) bB.one) ((un (cj y1 0 4) fun z1=>
 aI (av [y1] cu) (fin R o1 n1 (aJ #[z1,(I 0)])))))))))) fun A1=>
 (gE d1 false (eC pg R l1 k1 true 66 #[j1,i1] A1) (A1 undef k1 l1))) fun C1=>
 (gE d1 false (eC pg R b1 a1 false 67 #[e1] C1) (C1 undef a1 b1))) fun D1=>
 (gE U0 false (eC pg R S0 Q0 true 65 #[Y0] D1) (D1 undef Q0 S0))))))))))))))))))))))
noncomputable def Ka:bu:=⟨26,[(7,(pg.cellsOf 34))],[],[0,1,2,3],[],[]⟩
def Ak (p0:Value) (p1 p2 Zw Zx Zy:Int):Prop:=
 (ax pg X0 w0 (aP p0) fun a=>
 ab pg X0 w0 (aT 93 3 6 1 a) fun b=>
 ab pg X0 w0 (ld1 90 b) fun c=>
 eC pg R X0 w0 false 44 #[(I p1),(I p2)] fun d e g=>
 ab pg g e (aD d 0) fun h=>
 ab pg g e (aD d 1) fun _=>
 eU pg R g e true (dE 90 c (I p1) h) fun _ i j=>
 (ax pg j i (aP p0) fun k=>
 ab pg j i (aT 93 2 5 1 k) fun l=>
 ab pg j i (ld1 80 l) fun m=>
 eC pg R j i true 68 #[m,(I p1),(.agg #[(I Zw),(I Zx),(I Zy)])] fun _ n o=>
 fin R o n (aJ #[])))
noncomputable def G6:bu:=⟨72,[(2,(pg.cellsOf 49))],[7,11,18,25,34,43,55,66],[0,1,4,5,6,51],[47,48,49,50],[5,6]⟩
def yf (_p0_0 _p0_1 _p0_2 _p0_3 _p0_4 _p0_5 _p0_6 _p0_7 _p0_8 _p0_9 _p0_10 _p0_11 _p0_12 _p0_13 _p0_14:Int) (_p0_15:Bool) (_p0_16 _p0_17:Int) (cM cK cN cO cP dd:Value) (cQ cW:Int) (cX cY:Nat) (cZ fq fu fv fw fy:Int) (fz fA:Value) (p1:Int):Prop:=
 (eC pg R X0 w0 false 70 #[cM,(I p1)] fun a b c=>
 eC pg R c b true 71 #[cK,(I p1)] fun d e g=>
 eC pg R g e true 69 #[a,d,(I p1)] fun h i j=>
 (eC pg R j i true 72 #[cN,(I p1)] fun k l m=>
 eC pg R m l true 69 #[h,k,(I p1)] fun n o q=>
 (ab pg q o (cp 38 3 cO) fun r=>
 ab pg q o (binOp .add 3 (I p1) (I 1)) fun s=>
 ab pg q o (ib #[3,3] 3 #[r,s]) fun t=>
 eC pg R q o true 69 #[n,t,(I p1)] fun v y z=>
 (ab pg z y (cp 39 3 cP) fun A=>
 ab pg z y (binOp .add 3 (I p1) (I 1)) fun C=>
 ab pg z y (ib #[3,3] 3 #[A,C]) fun D=>
 eC pg R z y true 69 #[v,D,(I p1)] fun E F G=>
 ((ix G F (I 0) E 6 5 fun H L M N O Q=>
 ab pg Q O (cp 40 3 dd) fun S=>
 ab pg Q O (binOp .lss 3 M S) fun T=>
 un (aB T true N) fun U=>
 un (aB T true (I p1)) fun V=>
 ay pg Q O T true (vS (binOp .leq 3 U V)) fun Y=>
 ax pg Q O (aM T Y (B false)) fun Z=>
 (au Z
 ((ab pg Q O (cA 40 29 dd M) fun a0=>
 ab pg Q O (ek 73 29 a0) fun b0=>
 eC pg R Q O true 73 #[b0,(I p1)] fun c0 d0 e0=>
 eC pg R e0 d0 true 69 #[N,c0,(I p1)] fun g0 h0 i0=>
 ((ab pg i0 h0 (binOp .add 3 M (I 1)) fun j0=>
 iy H L j0 g0 h0 i0))))
 (((ab pg Q O (binOp .add 3 N (I 1)) fun k0=>
 eC pg R Q O true 74 #[(.agg #[(I cQ),(I cW),(.float .f64 cX),(.float .f64 cY),(I cZ),(I fq),(I fu),(I fv),(I fw),(I fy),fz,fA]),(I p1)] fun l0 m0 n0=>
 eC pg R n0 m0 true 69 #[k0,l0,(I p1)] fun o0 q0 r0=>
 (fin R r0 q0 o0)))))))))))
noncomputable def V8:bu:=⟨34,[(1,(pg.cellsOf 49)),(3,(pg.cellsOf 49))],[14,19],[0,2,4,10,13],[18,20,21,22,24,25,26,27,29,30,31,32],[]⟩
def KK (aQ aV aW bq bG bJ bM bV cD cV cg bZ dm de da:Int) (dc:Bool) (df dh:Int) (cM cK cN cO cP dd:Value) (cQ cW:Int) (cX cY:Nat) (cZ fq fu fv fw fy:Int) (fz fA:Value):Prop:=
 (eC pg R X0 w0 true 75 #[(.agg #[(I aQ),(I aV),(I aW),(I bq),(I bG),(I bJ),(I bM),(I bV),(I cD),(I cV),(I cg),(I bZ),(I dm),(I de),(I da),(B dc),(I df),(I dh),cM,cK,cN,cO,cP,dd,(I cQ),(I cW),(.float .f64 cX),(.float .f64 cY),(I cZ),(I fq),(I fu),(I fv),(I fw),(I fy),fz,fA])] fun a b c=>
 ab pg c b (aD a 0) fun d=>
 ab pg c b (aD a 1) fun e=>
 un (ak (aa d)) fun g=>
 aI (aq (ad (aa d))==36) (aI (av (ad (aa d)) bB.one) ((ab pg c b (aU bh e) fun h=>
 (au h
 (fin R c b (I 7))
 (eC pg R c b true 76 #[(I aV)] fun i j k=>
 ab pg k j (aU bh i) fun l=>
 un (aB l false (I aW)) fun m=>
 jn (fun (n:Value) (o:World) (q:XS)=>
 ay pg q o l false (vS (aU bh n)) fun r=>
 ax pg q o (aM l (B true) r) fun s=>
 aI (cu g) (un (cj g 0 36) fun t=>
 un (aB s false t) fun v=>
 jn (fun (y:Value) (z:World) (A:XS)=>
 ay pg A z s false (vS (aU bh y)) fun C=>
 ax pg A z (aM s (B true) C) fun D=>
 un (aB D false (.agg #[(I aQ),(I aV),(I aW),(I bq),(I bG),(I bJ),(I bM),(I bV),(I cD),(I cV),(I cg),(I bZ),(I dm),(I de),(I da),(B dc),(I df),(I dh),cM,cK,cN,cO,cP,dd,(I cQ),(I cW),(.float .f64 cX),(.float .f64 cY),(I cZ),(I fq),(I fu),(I fv),(I fw),(I fy),fz,fA])) fun E=>
 jn (fun (F:Value) (G:World) (H:XS)=>
 ay pg H G D false (vS (aU bh F)) fun L=>
 ax pg H G (aM D (B true) L) fun M=>
 (au M
 (fin R H G (I 4))
 (fin R H G (I 0)))) fun N=>
 (gE D false (eC pg R A z true 78 #[E] N) (N undef z A))) fun O=>
 (gE s false (eC pg R q o true 77 #[v] O) (O undef o q)))) fun Q=>
 (gE l false (eC pg R k j true 76 #[m] Q) (Q undef j k))))))))
noncomputable def ID:bu:=⟨107,[(3,(pg.cellsOf 49)),(6,(pg.cellsOf 73)),(7,(pg.cellsOf 158)),(10,(pg.cellsOf 69))],[15,23,27,45,49,53,61,67,69,77,93],[0,1,4,8,26,28,29,30,31,43,44,52,86,87,88,89,95],[20,21,22,24,25,56,57,58,59,60,62,63,64],[30,88]⟩
def zy (p0:Value) (_p1_0 _p1_1 _p1_2 _p1_3 _p1_4 _p1_5 eE _p1_7 _p1_8 _p1_9 _p1_10 _p1_11 _p1_12 _p1_13 _p1_14:Int) (_p1_15:Bool) (mM _p1_17:Int) (_p1_18 _p1_19 _p1_20 _p1_21 _p1_22 me:Value) (_p1_24 _p1_25:Int) (_p1_26 _p1_27:Nat) (_p1_28 _p1_29 _p1_30 _p1_31 _p1_32 _p1_33:Int) (_p1_34 _p1_35:Value):Prop:=
 (ax pg X0 w0 (aP p0) fun a=>
 ab pg X0 w0 (aT 93 3 6 1 a) fun b=>
 ab pg X0 w0 (ld1 90 b) fun c=>
 ab pg X0 w0 (cx 90 c (I eE) false) fun d=>
 (ab pg X0 w0 (aF .eql 111 (.tmp 18) (.const (.pointer none)) d (.pointer none)) fun e=>
 un (aB e false d) fun g=>
 un (aB e false (I mM)) fun h=>
 jn (fun (i:Value) (j:World) (k:XS)=>
 ay pg k j e false (vS (aF .neq 3 (.tmp 22) (.tmp 24) i h)) fun l=>
 ax pg k j (aM e (B true) l) fun m=>
 (au m
 (fin R k j (aJ #[]))
 ((ab pg k j (cp 40 3 me) fun n=>
 ((jn (fun (o:World) (q:XS)=>
 (ax pg q o (aP p0) fun r=>
 ab pg q o (aT 93 2 5 1 r) fun s=>
 ab pg q o (ld1 80 s) fun t=>
 eC pg R q o false 82 #[d] fun v y z=>
 eC pg R z y true 81 #[t,(I eE),v] fun _ A C=>
 (ax pg C A (aP p0) fun D=>
 ab pg C A (aT 93 2 5 1 D) fun E=>
 ab pg C A (ld1 80 E) fun F=>
 eC pg R C A true 83 #[F] fun G H L=>
 ab pg L H (cp 63 3 G) fun M=>
 (gg L H (I 0) 88 fun N O Q S T=>
 ab pg T S (binOp .lss 3 Q M) fun U=>
 (au U
 (((jn (fun (V:World) (Y:XS)=>
 (ab pg Y V (binOp .add 3 Q (I 1)) fun Z=>
 fY N O Z V Y)) fun a0=>
 ab pg T S (cA 63 7 G Q) fun b0=>
 ab pg T S (ek 69 7 b0) fun c0=>
 un (ak (aa c0)) fun d0=>
 aI (aq (ad (aa c0))==7) (aI (av (ad (aa c0)) bB.one) ((aI (cu d0) (un (cj d0 3 3) fun e0=>
 eC pg R T S true 34 #[p0,e0] fun g0 h0 i0=>
 (au g0
 (ax pg i0 h0 (aP p0) fun j0=>
 ab pg i0 h0 (aT 93 6 11 1 j0) fun k0=>
 ab pg i0 h0 (ld1 63 k0) fun l0=>
 aI (cu d0) (un (cj d0 0 7) fun m0=>
 eV pg R i0 h0 false (gG 63 69 7 1 #[(0,m0)]) fun n0 o0 q0=>
 eV pg R q0 o0 true (ga 63 69 7 72 63 l0 n0) fun r0 s0 t0=>
 ax pg t0 s0 (aP p0) fun v0=>
 ab pg t0 s0 (aT 93 6 11 1 v0) fun y0=>
 eU pg R t0 s0 true (st1 63 1 y0 r0) fun _ z0 A0=>
 (a0 z0 A0)))
 (a0 h0 i0)))))))))
 (fin R T S (aJ #[]))))))) fun C0=>
 gg k j (I 0) 30 fun D0 E0 F0 G0 H0=>
 ab pg H0 G0 (binOp .lss 3 F0 n) fun L0=>
 (au L0
 ((ab pg H0 G0 (cA 40 29 me F0) fun M0=>
 ab pg H0 G0 (ek 73 29 M0) fun N0=>
 un (ak (aa N0)) fun O0=>
 aI (aq (ad (aa N0))==29) (aI (av (ad (aa N0)) bB.one) (((jn (fun (Q0 S0:Value) (T0:World) (U0:XS)=>
 ab pg U0 T0 (aF .neq 27 (.tmp 42) (.const (I 0)) S0 (I 0)) fun V0=>
 (au V0
 (C0 T0 U0)
 (((jn (fun (Y0:World) (Z0:XS)=>
 ((ab pg Z0 Y0 (binOp .add 3 F0 (I 1)) fun a1=>
 fY D0 E0 a1 Y0 Z0))) fun b1=>
 aI (cu Q0) (un (cellOf Q0 0) fun c1=>
 ab pg U0 T0 (aF .eql 3 (.tmp 46) (.const (I 1)) c1 (I 1)) fun d1=>
 (au d1
 (aI (cu Q0) (un (cj Q0 1 9) fun e1=>
 eC pg R U0 T0 true 80 #[p0,e1] fun _ g1 h1=>
 (b1 g1 h1)))
 (aI (cu Q0) (ab pg U0 T0 (aF .eql 3 (.tmp 54) (.const (I 2)) c1 (I 2)) fun i1=>
 un (aB i1 true p0) fun j1=>
 ay pg U0 T0 i1 true (aP j1) fun k1=>
 ay pg U0 T0 i1 true (vS (aT 93 3 6 1 k1)) fun l1=>
 ay pg U0 T0 i1 true (vS (ld1 90 l1)) fun m1=>
 un (cellOf Q0 10) fun n1=>
 un (aB i1 true n1) fun o1=>
 ay pg U0 T0 i1 true (vS (cx 90 m1 o1 false)) fun q1=>
 ay pg U0 T0 i1 true (vS (aF .eql 111 (.tmp 63) (.const (.pointer none)) q1 (.pointer none))) fun r1=>
 ax pg U0 T0 (aM i1 r1 (B false)) fun s1=>
 (au s1
 (aI (cu Q0) (un (cj Q0 11 3) fun t1=>
 eC pg R U0 T0 true 27 #[p0,n1,(I 1),t1] fun _ v1 y1=>
 (b1 v1 y1)))
 (b1 T0 U0))))))))))) fun z1=>
 ((aI (cu O0) ((And
 (eC pg R H0 G0 true 48 #[d] fun A1 C1 D1=>
 (And
 (un (cj O0 0 29) fun E1=>
 eC pg R D1 C1 true 79 #[d,A1,E1] fun F1 G1 H1=>
 ((ab pg H1 G1 (aD F1 0) fun L1=>
 (ab pg H1 G1 (aD F1 1) fun M1=>
 ((un (ak (aa L1)) fun N1=>
 aI (aq (ad (aa L1))==14) (aI (av (ad (aa L1)) bB.one) (z1 N1 M1 G1 H1))))))))
 ((un (cj O0 0 29) fun O1=>
 eC pg R D1 C1 true 79 #[d,A1,O1] fun Q1 S1 T1=>
 ((ab pg T1 S1 (aD Q1 0) fun U1=>
 (ab pg T1 S1 (aD Q1 1) fun V1=>
 (un (ak (aa U1)) fun Y1=>
 aI (aq (ad (aa U1))==14) (aI (av (ad (aa U1)) bB.one) (z1 Y1 V1 S1 T1))))))))))
 ((eC pg R H0 G0 true 48 #[d] fun Z1 a2 b2=>
 (un (cj O0 0 29) fun c2=>
 eC pg R b2 a2 true 79 #[d,Z1,c2] fun d2 e2 g2=>
 ((ab pg g2 e2 (aD d2 0) fun h2=>
 (ab pg g2 e2 (aD d2 1) fun i2=>
 (un (ak (aa h2)) fun j2=>
 aI (aq (ad (aa h2))==14) (aI (av (ad (aa h2)) bB.one) (z1 j2 i2 e2 g2)))))))))))))))))))
 (C0 G0 H0)))))))) fun k2=>
 (gE e false (eC pg R X0 w0 false 48 #[g] k2) (k2 undef w0 X0))))
noncomputable def UO:bu:=⟨11,[(2,(pg.cellsOf 34)),(3,(pg.cellsOf 34)),(4,(pg.cellsOf 34))],[],[0,1,8],[],[]⟩
def IE (aQ aV aW bS bY bW:Int):Prop:=
 (eC pg R X0 w0 true 84 #[(.agg #[(I aQ),(I aV),(I aW)]),(.agg #[(I bS),(I bY),(I bW)])] fun a b c=>
 ab pg c b (binOp .lss 3 a (I 0)) fun d=>
 (au d
 ((fin R c b (.agg #[(I bS),(I bY),(I bW)])))
 (((fin R c b (.agg #[(I aQ),(I aV),(I aW)]))))))
def j8 (p0 p1:Value):Prop:=
 (eC pg R X0 w0 true 85 #[p0,p1] fun a b c=>
 (ab pg c b (aF .eql 3 (.tmp 11) (.const (I (-1))) a (I (-1))) fun d=>
 (au d
 (fin R c b p0)
 ((ab pg c b (binOp .add 3 a (I 1)) fun e=>
 (ix c b e a 6 5 fun g h i j k l=>
 ab pg l k (cp 63 3 p0) fun m=>
 ab pg l k (binOp .lss 3 i m) fun n=>
 (au n
 (((jn (fun (o:Value) (q:World) (r:XS)=>
 (ab pg r q (binOp .add 3 i (I 1)) fun s=>
 iy g h s o q r)) fun t=>
 ab pg l k (cA 63 7 p0 i) fun v=>
 ab pg l k (ek 69 7 v) fun y=>
 un (ak (aa y)) fun z=>
 aI (aq (ad (aa y))==7) (aI (av (ad (aa y)) bB.one) ((aI (cu z) (un (cj z 0 7) fun A=>
 eF pg R l k true p1 #[A] fun C D E=>
 ab pg E D (aU bh C) fun F=>
 (au F
 (aI (cu z) (ab pg E D (cA 63 7 p0 j) fun G=>
 eU pg R E D true (st1 69 7 G A) fun _ H L=>
 (ab pg L H (binOp .add 3 j (I 1)) fun M=>
 (t M H L))))
 (t j D E)))))))))
 (((ab pg l k (cy 63 p0 (some j) none none) fun N=>
 eV pg R l k true (eY #[63] 0 #[N]) fun _ O Q=>
 (ab pg Q O (cy 63 p0 none (some j) none) fun S=>
 (fin R Q O S))))))))))))
noncomputable def FE:bu:=⟨9,[(2,(pg.cellsOf 69))],[5],[0,1,3],[],[]⟩
def xk (_p0_0 _p0_1 _p0_2 bq bG bJ:Int) (_p0_6 c0:Value):Prop:=
 (ab pg X0 w0 (ld1 26 c0) fun a=>
 eC pg R X0 w0 true 34 #[a,(.agg #[(I bq),(I bG),(I bJ)])] fun b c d=>
 ab pg d c (aU bh b) fun e=>
 (fin R d c e))
noncomputable def Me:bu:=⟨12,[(3,(pg.cellsOf 34))],[],[0,1,4],[],[]⟩
def BR (p0:Value) (bS bY bW:Int):Prop:=
 (ax pg X0 w0 (aP p0) fun a=>
 ab pg X0 w0 (aT 93 4 7 3 a) fun b=>
 ab pg X0 w0 (ek 34 3 b) fun c=>
 eC pg R X0 w0 true 84 #[(.agg #[(I bS),(I bY),(I bW)]),c] fun d e g=>
 ab pg g e (binOp .gtr 3 d (I 0)) fun h=>
 (fin R g e h))
def j9 (p0 p1:Value):Prop:=
 (eC pg R X0 w0 true 86 #[p0,p1] fun a b c=>
 (ab pg c b (aF .eql 3 (.tmp 11) (.const (I (-1))) a (I (-1))) fun d=>
 (au d
 (fin R c b p0)
 ((ab pg c b (binOp .add 3 a (I 1)) fun e=>
 (ix c b e a 6 5 fun g h i j k l=>
 ab pg l k (cp 91 3 p0) fun m=>
 ab pg l k (binOp .lss 3 i m) fun n=>
 (au n
 (((jn (fun (o:Value) (q:World) (r:XS)=>
 (ab pg r q (binOp .add 3 i (I 1)) fun s=>
 iy g h s o q r)) fun t=>
 ab pg l k (cA 91 5 p0 i) fun v=>
 ab pg l k (ek 102 5 v) fun y=>
 un (ak (aa y)) fun z=>
 aI (aq (ad (aa y))==5) (aI (av (ad (aa y)) bB.one) ((aI (cu z) (un (cj z 0 5) fun A=>
 eF pg R l k true p1 #[A] fun C D E=>
 ab pg E D (aU bh C) fun F=>
 (au F
 (aI (cu z) (ab pg E D (cA 91 5 p0 j) fun G=>
 eU pg R E D true (st1 102 5 G A) fun _ H L=>
 (ab pg L H (binOp .add 3 j (I 1)) fun M=>
 (t M H L))))
 (t j D E)))))))))
 (((ab pg l k (cy 91 p0 (some j) none none) fun N=>
 eV pg R l k true (eY #[91] 0 #[N]) fun _ O Q=>
 (ab pg Q O (cy 91 p0 none (some j) none) fun S=>
 (fin R Q O S))))))))))))
noncomputable def FF:bu:=⟨9,[(2,(pg.cellsOf 102))],[5],[0,1,3],[],[]⟩
def xl (_p0_0 _p0_1 aW bq bG:Int) (c0:Value):Prop:=
 (ab pg X0 w0 (ld1 26 c0) fun a=>
 eC pg R X0 w0 true 34 #[a,(.agg #[(I aW),(I bq),(I bG)])] fun b c d=>
 ab pg d c (aU bh b) fun e=>
 (fin R d c e))
end
end Go.Proofs.YtfndblbeikocdaaGreat
