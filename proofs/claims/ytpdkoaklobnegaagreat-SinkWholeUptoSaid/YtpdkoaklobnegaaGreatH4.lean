/-
 Part 4 of the proof: what the last text leans on.
-/
import Derived.Test.YtpdkoaklobnegaaGreatProg
import Derived.KernelRfl
import Derived.Test.YtpdkoaklobnegaaGreatH3
open Go.Value renaming cells → ad, agg → aF, tuple → ax, int → aC
open Array renaming toList → af
open List renaming all → aW, length → az, toArray → bh
open Go.Instr renaming extract → aH, box → dx, makeFunc → cx, sliceAt → cp, lookup → dR, mapUpdate → gK
open Go.Op renaming unary → bg
open Go.UnOp renaming not → bJ
open Go.Fn renaming func → fZ
open Go.IntKind renaming u8 → cE, u64 → bm
open Go.Builtin renaming min_ → mD
set_option linter.unusedVariables false
set_option linter.unusedSimpArgs false
namespace Go.Proofs.YtpdkoaklobnegaaGreat
open Go.Proofs.Tryz renaming prog → pg
open Go.dL
set_option maxRecDepth 100000
section
variable (R : Ending → World → Prop) (w0 : World) (X0 : XS)
noncomputable def EL:bG:=⟨270,[(11,(pg.cellsOf 35)),(13,(pg.cellsOf 70)),(14,(pg.cellsOf 35))],[73,79,85,90,91,95,96,101,102,109,110,124,125,140,141,143,144,146,147,188,194],[0,1,2,6,7,8,9,10,12,15,16,17,18,19,20,22,41,45,58,63,76,80,81,135,156,175,181,185,191,215,217,232,268],[26,27,28,30,31,32,34,35,36,38,39,40,55,56,57,72,74,75,94,97,98,100,103,104,105,107,108,111,112,115,116,117,118,119,120,121,122,123,126,127,128,129,131,132,133,134,139,166,167,168,169,170,171,172,173,174,206,207,208,210,211,212,213,214,222,223,224,225,226,227,228,229,230,231,237,238,239,240,241,242,243,244,245,246,248,249,250,251,252,253,254,255,256,260,261,262,263,264,265,266,267],[8,10,11,12,18,19]⟩
def vm (p0 p1:Int) (p2:Value):Prop:=
 (eC pg R X0 w0 true 9 #[] fun a b c=>
 aa pg c b (bg bJ a) fun d=>
 (ao d
 (fin R c b (B false))
 ((eC pg R c b true 22 #[p2] fun e g h=>
 aa pg h g (bg bJ e) fun i=>
 un (aO i false (I p0)) fun j=>
 aD pg h g i false (vS (binOp .lss 3 j (I 64))) fun k=>
 ay pg h g (aR i (B true) k) fun l=>
 un (aO l false (I p0)) fun m=>
 aD pg h g l false (vS (binOp .gtr 3 m (I 262144))) fun n=>
 ay pg h g (aR l (B true) n) fun o=>
 un (aO o false (I p1)) fun q=>
 aD pg h g o false (vS (binOp .lss 3 q (I 0))) fun r=>
 ay pg h g (aR o (B true) r) fun s=>
 un (aO s false (I p1)) fun t=>
 aD pg h g s false (vS (binOp .gtr 3 t (I 1000))) fun v=>
 ay pg h g (aR s (B true) v) fun y=>
 (ao y
 (eC pg R h g true 9 #[] fun z A C=>
 (fin R C A z))
 ((eC pg R h g true 11 #[] fun D E F=>
 (aa pg F E (aJ .eql 26 (.tmp 44) (.const (.pointer none)) D (.pointer none)) fun G=>
 (ao G
 (fin R F E (B false))
 ((eC pg R F E true 12 #[D,(I p0),(I p1)] fun H L M=>
 aa pg M L (aH H 0) fun N=>
 aa pg M L (aH H 1) fun O=>
 (aa pg M L (aJ .eql 28 (.tmp 53) (.const (.pointer none)) N (.pointer none)) fun Q=>
 un (aO Q false O) fun S=>
 aD pg M L Q false (vS (aJ .neq 29 (.tmp 56) (.const (I 0)) S (I 0))) fun T=>
 ay pg M L (aR Q (B true) T) fun U=>
 (ao U
 (fin R M L (B false))
 (((aa pg M L (ez 35 #[(I 0),(I 0),(I 0)] #[]) fun V=>
 un (aF (ad V)) fun Y=>
 bq (az (af (ad V))==3) (bq (aW (af (ad V)) one) (((yE M L (I 0) undef N Y undef (.slice none 0 0) 12 19 8 11 18 10 fun Z a0 b0 c0 d0 e0 g0 h0 i0 j0=>
 aa pg j0 i0 (cK 66 3 p2) fun k0=>
 aa pg j0 i0 (binOp .lss 3 b0 k0) fun l0=>
 (ao l0
 (((jn (fun (m0 n0 o0 q0 r0:Value) (s0:World) (t0:XS)=>
 (aa pg t0 s0 (binOp .add 3 b0 (I 1)) fun v0=>
 yG Z a0 v0 r0 m0 o0 q0 n0 s0 t0)) fun y0=>
 aa pg j0 i0 (dD 66 39 p2 b0) fun z0=>
 aa pg j0 i0 (gy 70 39 z0) fun A0=>
 un (aF (ad A0)) fun C0=>
 bq (az (af (ad A0))==39) (bq (aW (af (ad A0)) one) ((eC pg R j0 i0 true 17 #[d0] fun D0 E0 F0=>
 bq (dO C0) (un (cellOf C0 0) fun G0=>
 un (aO D0 true G0) fun H0=>
 aD pg F0 E0 D0 true (vS (binOp .leq 3 H0 (I 2))) fun L0=>
 ay pg F0 E0 (aR D0 L0 (B false)) fun M0=>
 (ao M0
 (y0 d0 h0 e0 g0 c0 E0 F0)
 ((eC pg R F0 E0 true 19 #[d0] fun N0 O0 Q0=>
 un (aF (ad N0)) fun S0=>
 bq (az (af (ad N0))==3) (bq (aW (af (ad N0)) one) ((bq (dO C0) (((jn (fun (T0 U0 V0 Y0:Value) (Z0:World) (a1:XS)=>
 (eC pg R a1 Z0 true 17 #[T0] fun b1 c1 d1=>
 (ao b1
 (y0 T0 U0 V0 Y0 c0 c1 d1)
 (((jw d1 c1 (I 0) 19 fun e1 g1 h1 i1 j1=>
 aa pg j1 i1 (cK 63 3 U0) fun k1=>
 aa pg j1 i1 (binOp .lss 3 h1 k1) fun l1=>
 un (aO l1 true T0) fun m1=>
 un (aO l1 true U0) fun n1=>
 un (aO l1 true h1) fun o1=>
 aD pg j1 i1 l1 true (vS (dD 63 7 n1 o1)) fun q1=>
 aD pg j1 i1 l1 true (vS (aS 73 1 3 3 q1)) fun r1=>
 aD pg j1 i1 l1 true (vS (gy 35 3 r1)) fun s1=>
 jn (fun (t1:Value) (v1:World) (y1:XS)=>
 jn (fun (z1:Value) (A1:World) (C1:XS)=>
 aD pg C1 A1 l1 true (vS (bg bJ z1)) fun D1=>
 ay pg C1 A1 (aR l1 D1 (B false)) fun E1=>
 (ao E1
 ((aa pg C1 A1 (binOp .add 3 h1 (I 1)) fun F1=>
 (jx e1 g1 F1 A1 C1)))
 (((aa pg C1 A1 (binOp .gtr 3 h1 (I 0)) fun G1=>
 un (aO G1 true U0) fun H1=>
 un (aO G1 true h1) fun L1=>
 aD pg C1 A1 G1 true (vS (binOp .sub 3 L1 (I 1))) fun M1=>
 aD pg C1 A1 G1 true (vS (dD 63 7 H1 M1)) fun N1=>
 aD pg C1 A1 G1 true (vS (aS 73 1 3 3 N1)) fun O1=>
 aD pg C1 A1 G1 true (vS (gy 35 3 O1)) fun Q1=>
 un (aO G1 true T0) fun S1=>
 jn (fun (T1:Value) (U1:World) (V1:XS)=>
 aD pg V1 U1 G1 true (vS (aJ .eql 35 (.tmp 243) (.tmp 245) Q1 T1)) fun Y1=>
 ay pg V1 U1 (aR G1 Y1 (B false)) fun Z1=>
 un (aO Z1 false h1) fun a2=>
 aD pg V1 U1 Z1 false (vS (aJ .eql 3 (.tmp 249) (.const (I 0)) a2 (I 0))) fun b2=>
 un (aO Z1 false b2) fun c2=>
 un (aO c2 true T0) fun d2=>
 aD pg V1 U1 c2 true (vS (ez 35 #[(I 0),(I 0),(I 0)] #[])) fun e2=>
 jn (fun (g2:Value) (h2:World) (i2:XS)=>
 aD pg i2 h2 c2 true (vS (aJ .eql 35 (.tmp 253) (.tmp 254) g2 e2)) fun j2=>
 aD pg i2 h2 Z1 false (aR c2 j2 (B false)) fun k2=>
 ay pg i2 h2 (aR Z1 (B true) k2) fun l2=>
 (aa pg i2 h2 (bg bJ l2) fun m2=>
 un (aO m2 false T0) fun n2=>
 jn (fun (o2:Value) (q2:World) (r2:XS)=>
 un (aO m2 false U0) fun s2=>
 un (aO m2 false h1) fun t2=>
 jn (fun (v2:Value) (y2:World) (z2:XS)=>
 jn (fun (A2:Value) (C2:World) (D2:XS)=>
 aD pg D2 C2 m2 false (vS (bg bJ A2)) fun E2=>
 ay pg D2 C2 (aR m2 (B true) E2) fun F2=>
 (ao F2
 (fin R D2 C2 (B false))
 (y0 T0 U0 V0 Y0 h1 C2 D2))) fun G2=>
 (gE m2 false (eC pg R z2 y2 true 18 #[o2,v2] G2) (G2 undef y2 z2))) fun H2=>
 (gE m2 false (eC pg R r2 q2 true 24 #[s2,t2] H2) (H2 undef q2 r2))) fun L2=>
 (gE m2 false (eC pg R i2 h2 true 14 #[n2] L2) (L2 undef h2 i2)))) fun M2=>
 (gE c2 true (eC pg R V1 U1 false 19 #[d2] M2) (M2 undef U1 V1))) fun N2=>
 (gE G1 true (eC pg R C1 A1 false 19 #[S1] N2) (N2 undef A1 C1))))))) fun O2=>
 (gE l1 true (eC pg R y1 v1 true 29 #[t1,s1] O2) (O2 undef v1 y1))) fun Q2=>
 (gE l1 true (eC pg R j1 i1 false 19 #[m1] Q2) (Q2 undef i1 j1)))))))) fun S2=>
 aa pg Q0 O0 (aJ .eql 3 (.tmp 80) (.const (I 1)) G0 (I 1)) fun T2=>
 (ao T2
 (bq (dO C0) (un (ef C0 2 36) fun U2=>
 eC pg R Q0 O0 true 15 #[d0,U2] fun V2 Y2 Z2=>
 aa pg Z2 Y2 (aH V2 0) fun a3=>
 aa pg Z2 Y2 (aH V2 1) fun b3=>
 (bq (dO C0) (un (cellOf C0 2) fun c3=>
 aa pg Z2 Y2 (aJ .eql 3 (.tmp 92) (.const (I 12)) c3 (I 12)) fun d3=>
 un (cellOf C0 4) fun e3=>
 un (aO d3 true e3) fun g3=>
 aD pg Z2 Y2 d3 true (vS (aJ .eql 3 (.tmp 97) (.const (I 32)) g3 (I 32))) fun h3=>
 ay pg Z2 Y2 (aR d3 h3 (B false)) fun i3=>
 un (ef C0 14 3) fun j3=>
 un (aO i3 true j3) fun k3=>
 bq (dO S0) (un (ef S0 0 3) fun l3=>
 un (aO i3 true l3) fun m3=>
 aD pg Z2 Y2 i3 true (vS (aJ .eql 35 (.tmp 103) (.tmp 104) k3 m3)) fun n3=>
 ay pg Z2 Y2 (aR i3 n3 (B false)) fun o3=>
 un (aO o3 true l3) fun q3=>
 un (ef C0 11 3) fun r3=>
 un (aO o3 true r3) fun s3=>
 jn (fun (t3:Value) (v3:World) (y3:XS)=>
 ay pg y3 v3 (aR o3 t3 (B false)) fun z3=>
 ((jn (fun (A3:Value) (C3:World) (D3:XS)=>
 (jA D3 C3 (I 0) e0 18 11 fun E3 F3 G3 H3 L3 M3=>
 aa pg M3 L3 (cK 56 3 a3) fun N3=>
 aa pg M3 L3 (binOp .lss 3 G3 N3) fun O3=>
 (ao O3
 ((aa pg M3 L3 (dD 56 36 a3 G3) fun Q3=>
 aa pg M3 L3 (aS 48 7 9 3 Q3) fun S3=>
 aa pg M3 L3 (gy 35 3 S3) fun T3=>
 bq (dO H3) (un (ef H3 0 3) fun U3=>
 eC pg R M3 L3 true 29 #[T3,U3] fun V3 Y3 Z3=>
 un (aO V3 false a3) fun a4=>
 un (aO V3 false G3) fun b4=>
 aD pg Z3 Y3 V3 false (vS (dD 56 36 a4 b4)) fun c4=>
 aD pg Z3 Y3 V3 false (vS (aS 48 7 9 3 c4)) fun d4=>
 aD pg Z3 Y3 V3 false (vS (gy 35 3 d4)) fun e4=>
 un (aO V3 false d0) fun g4=>
 jn (fun (h4:Value) (i4:World) (j4:XS)=>
 aD pg j4 i4 V3 false (vS (aJ .neq 35 (.tmp 171) (.tmp 173) e4 h4)) fun k4=>
 ay pg j4 i4 (aR V3 (B true) k4) fun l4=>
 (ao l4
 (fin R j4 i4 (B false))
 ((aa pg j4 i4 (dD 56 36 a3 G3) fun m4=>
 aa pg j4 i4 (aS 48 7 9 3 m4) fun n4=>
 aa pg j4 i4 (gy 35 3 n4) fun o4=>
 bq (dO H3) (un (aF (ad o4)) fun q4=>
 bq (az (af (ad o4))==3) (bq (aW (af (ad o4)) one) (((aa pg j4 i4 (binOp .add 3 G3 (I 1)) fun r4=>
 jB E3 F3 r4 q4 i4 j4))))))))) fun s4=>
 (gE V3 false (eC pg R Z3 Y3 false 19 #[g4] s4) (s4 undef Y3 Z3)))))
 (S2 d0 A3 H3 G3 L3 M3)))) fun t4=>
 un (aO z3 true b3) fun v4=>
 aD pg y3 v3 z3 true (vS (aJ .eql 29 (.tmp 116) (.const (I 12)) v4 (I 12))) fun y4=>
 un (aO z3 true y4) fun z4=>
 un (aO z4 false b3) fun A4=>
 aD pg y3 v3 z4 false (vS (aJ .eql 29 (.tmp 119) (.const (I 0)) A4 (I 0))) fun C4=>
 un (aO z4 false C4) fun D4=>
 un (aO D4 true d0) fun E4=>
 bq (dO C0) (un (aO D4 true r3) fun F4=>
 jn (fun (G4:Value) (H4:World) (L4:XS)=>
 aD pg L4 H4 D4 true (vS (aJ .eql 35 (.tmp 123) (.tmp 126) G4 F4)) fun M4=>
 aD pg L4 H4 z4 false (aR D4 M4 (B false)) fun N4=>
 aD pg L4 H4 z3 true (aR z4 (B true) N4) fun O4=>
 ay pg L4 H4 (aR z3 O4 (B false)) fun Q4=>
 un (aO Q4 true h0) fun S4=>
 aD pg L4 H4 Q4 true (vS (cK 63 3 S4)) fun T4=>
 aD pg L4 H4 Q4 true (vS (binOp .lss 3 T4 (I 400))) fun U4=>
 ay pg L4 H4 (aR Q4 U4 (B false)) fun V4=>
 (ao V4
 (bq (dO S0) (eC pg R L4 H4 true 30 #[h0,l3] fun Y4 Z4 a5=>
 (bq (dO C0) (un (cellOf C0 22) fun b5=>
 eC pg R a5 Z4 false 31 #[b5] fun c5 d5 e5=>
 un (ef C0 5 3) fun g5=>
 un (cellOf g5 0) fun h5=>
 un (cellOf g5 1) fun i5=>
 un (cellOf g5 2) fun j5=>
 un (cellOf r3 0) fun k5=>
 un (cellOf r3 1) fun l5=>
 un (cellOf r3 2) fun m5=>
 aa pg e5 d5 (ez 73 #[h5,i5,j5,k5,l5,m5,c5] #[(0,g5),(1,r3),(2,c5)]) fun n5=>
 eV pg R e5 d5 true (gU 63 73 7 1 #[(0,n5)]) fun o5 q5 r5=>
 eV pg R r5 q5 true (gH 63 73 7 72 63 Y4 o5) fun s5 t5 v5=>
 (t4 s5 t5 v5)))))
 (t4 h0 H4 L4))) fun y5=>
 (gE D4 true (eC pg R y3 v3 false 19 #[E4] y5) (y5 undef v3 y3)))))) fun z5=>
 (gE o3 true (eC pg R Z2 Y2 true 29 #[q3,s3] z5) (z5 undef Y2 Z2)))))))
 (aa pg Q0 O0 (aJ .eql 3 (.tmp 80) (.const (I 2)) G0 (I 2)) fun A5=>
 (ao A5
 (eC pg R Q0 O0 true 16 #[d0] fun _ C5 D5=>
 (S2 d0 h0 e0 g0 C5 D5))
 (aa pg Q0 O0 (aJ .eql 3 (.tmp 80) (.const (I 3)) G0 (I 3)) fun E5=>
 (ao E5
 (bq (dO C0) (un (cellOf C0 1) fun F5=>
 eC pg R Q0 O0 true 32 #[D,F5] fun _ G5 H5=>
 (S2 d0 h0 e0 g0 G5 H5)))
 (aa pg Q0 O0 (aJ .eql 3 (.tmp 80) (.const (I 4)) G0 (I 4)) fun L5=>
 (ao L5
 (bq (dO C0) (un (cellOf C0 38) fun M5=>
 eC pg R Q0 O0 true 28 #[D,M5] fun _ N5 O5=>
 (eC pg R O5 N5 true 12 #[D,(I p0),(I p1)] fun Q5 S5 T5=>
 aa pg T5 S5 (aH Q5 0) fun U5=>
 aa pg T5 S5 (aH Q5 1) fun V5=>
 (aa pg T5 S5 (aJ .eql 28 (.tmp 204) (.const (.pointer none)) U5 (.pointer none)) fun Y5=>
 un (aO Y5 false V5) fun Z5=>
 aD pg T5 S5 Y5 false (vS (aJ .neq 29 (.tmp 207) (.const (I 0)) Z5 (I 0))) fun a6=>
 ay pg T5 S5 (aR Y5 (B true) a6) fun b6=>
 un (aO b6 false U5) fun c6=>
 bq (dO e0) (un (ef e0 0 3) fun d6=>
 un (aO b6 false d6) fun e6=>
 jn (fun (g6:Value) (h6:World) (i6:XS)=>
 jn (fun (j6:Value) (k6:World) (l6:XS)=>
 ay pg l6 k6 (aR b6 (B true) j6) fun m6=>
 (ao m6
 (fin R l6 k6 (B false))
 (S2 U5 h0 e0 g0 k6 l6))) fun n6=>
 (gE b6 false (eC pg R i6 h6 true 29 #[g6,e6] n6) (n6 undef h6 i6))) fun o6=>
 (gE b6 false (eC pg R T5 S5 true 19 #[c6] o6) (o6 undef S5 T5)))))))
 (S2 d0 h0 e0 g0 O0 Q0))))))))))))))))))))))))
 (eC pg R j0 i0 true 9 #[] fun q6 r6 s6=>
 (fin R s6 r6 q6)))))))))))))))))))))))
def Ak:Prop:=
 (eC pg R X0 w0 true 11 #[] fun a b c=>
 (aa pg c b (aJ .eql 26 (.tmp 10) (.const (.pointer none)) a (.pointer none)) fun d=>
 (ao d
 (fin R c b (B false))
 ((eC pg R c b true 12 #[a,(I 4096),(I 0)] fun e g h=>
 aa pg h g (aH e 0) fun i=>
 aa pg h g (aH e 1) fun j=>
 (aa pg h g (aJ .eql 28 (.tmp 17) (.const (.pointer none)) i (.pointer none)) fun k=>
 un (aO k false j) fun l=>
 aD pg h g k false (vS (aJ .neq 29 (.tmp 20) (.const (I 0)) l (I 0))) fun m=>
 ay pg h g (aR k (B true) m) fun n=>
 (ao n
 (fin R h g (B false))
 ((eC pg R h g true 13 #[(I 0),(I 5),(.string { data:= #[97] })] fun o q r=>
 eC pg R r q true 15 #[i,o] fun s t v=>
 aa pg v t (aH s 0) fun y=>
 aa pg v t (aH s 1) fun z=>
 (eC pg R v t true 13 #[(I 4),(I 7),(.string { data:= #[98] })] fun A C D=>
 eC pg R D C true 15 #[i,A] fun E F G=>
 aa pg G F (aH E 0) fun H=>
 aa pg G F (aH E 1) fun L=>
 (eC pg R G F true 14 #[i] fun M N O=>
 (aa pg O N (aJ .eql 29 (.tmp 37) (.const (I 0)) z (I 0)) fun Q=>
 un (aO Q true L) fun S=>
 aD pg O N Q true (vS (aJ .eql 29 (.tmp 40) (.const (I 0)) S (I 0))) fun T=>
 ay pg O N (aR Q T (B false)) fun U=>
 un (aO U true y) fun V=>
 aD pg O N U true (vS (cK 56 3 V)) fun Y=>
 aD pg O N U true (vS (aJ .eql 3 (.tmp 45) (.const (I 1)) Y (I 1))) fun Z=>
 ay pg O N (aR U Z (B false)) fun a0=>
 un (aO a0 true y) fun b0=>
 aD pg O N a0 true (vS (dD 56 36 b0 (I 0))) fun c0=>
 aD pg O N a0 true (vS (aS 48 0 0 1 c0)) fun d0=>
 aD pg O N a0 true (vS (bb 3 d0)) fun e0=>
 aD pg O N a0 true (vS (aJ .eql 3 (.tmp 52) (.const (I 14)) e0 (I 14))) fun g0=>
 ay pg O N (aR a0 g0 (B false)) fun h0=>
 un (aO h0 true y) fun i0=>
 aD pg O N h0 true (vS (dD 56 36 i0 (I 0))) fun j0=>
 aD pg O N h0 true (vS (aS 48 7 9 3 j0)) fun k0=>
 aD pg O N h0 true (vS (aS 35 0 0 1 k0)) fun l0=>
 aD pg O N h0 true (vS (bb 3 l0)) fun m0=>
 aD pg O N h0 true (vS (aJ .eql 3 (.tmp 60) (.const (I 5)) m0 (I 5))) fun n0=>
 ay pg O N (aR h0 n0 (B false)) fun o0=>
 un (aO o0 true H) fun q0=>
 aD pg O N o0 true (vS (cK 56 3 q0)) fun r0=>
 aD pg O N o0 true (vS (aJ .eql 3 (.tmp 65) (.const (I 1)) r0 (I 1))) fun s0=>
 ay pg O N (aR o0 s0 (B false)) fun t0=>
 un (aO t0 true H) fun v0=>
 aD pg O N t0 true (vS (dD 56 36 v0 (I 0))) fun y0=>
 aD pg O N t0 true (vS (aS 48 7 9 3 y0)) fun z0=>
 aD pg O N t0 true (vS (aS 35 0 0 1 z0)) fun A0=>
 aD pg O N t0 true (vS (bb 3 A0)) fun C0=>
 aD pg O N t0 true (vS (aJ .eql 3 (.tmp 73) (.const (I 5)) C0 (I 5))) fun D0=>
 ay pg O N (aR t0 D0 (B false)) fun E0=>
 un (aO E0 true M) fun F0=>
 aD pg O N E0 true (vS (cK 54 3 F0)) fun G0=>
 aD pg O N E0 true (vS (aJ .eql 3 (.tmp 78) (.const (I 1)) G0 (I 1))) fun H0=>
 ay pg O N (aR E0 H0 (B false)) fun L0=>
 un (aO L0 true M) fun M0=>
 aD pg O N L0 true (vS (dD 54 4 M0 (I 0))) fun N0=>
 aD pg O N L0 true (vS (aS 74 0 0 1 N0)) fun O0=>
 aD pg O N L0 true (vS (bb 9 O0)) fun Q0=>
 aD pg O N L0 true (vS (aJ .eql 9 (.tmp 85) (.const (.string { data:= #[97] })) Q0 (.string { data:= #[97] }))) fun S0=>
 ay pg O N (aR L0 S0 (B false)) fun T0=>
 un (aO T0 true i) fun U0=>
 jn (fun (V0:Value) (Y0:World) (Z0:XS)=>
 aD pg Z0 Y0 T0 true (vS (fdV 35 0 0 1 V0)) fun a1=>
 aD pg Z0 Y0 T0 true (vS (aJ .eql 3 (.tmp 91) (.const (I 5)) a1 (I 5))) fun b1=>
 ay pg Z0 Y0 (aR T0 b1 (B false)) fun c1=>
 (fin R Z0 Y0 c1)) fun d1=>
 (gE T0 true (eC pg R O N true 19 #[U0] d1) (d1 undef N O))))))))))))))
noncomputable def EM:bG:=⟨38,[],[],[0,1,4,5,6,15],[11,12,13,14,18],[5,6]⟩
def u0 (p0:Value) (p1:Int):Prop:=
 (((jA X0 w0 (I 0) (I 0) 6 5 fun a b c d e g=>
 aa pg g e (cK 23 3 p0) fun h=>
 aa pg g e (binOp .lss 3 c h) fun i=>
 un (aO i true d) fun j=>
 un (aO i true (I p1)) fun k=>
 aD pg g e i true (vS (binOp .leq 3 j k)) fun l=>
 ay pg g e (aR i l (B false)) fun m=>
 (ao m
 ((aa pg g e (dD 23 4 p0 c) fun n=>
 aa pg g e (aS 53 0 0 1 n) fun o=>
 aa pg g e (bb 9 o) fun q=>
 aa pg g e (lJ 9 3 q) fun r=>
 aa pg g e (binOp .add 3 (I 1) r) fun s=>
 aa pg g e (dD 23 4 p0 c) fun t=>
 aa pg g e (aS 53 1 1 3 t) fun v=>
 aa pg g e (aS 51 2 2 1 v) fun y=>
 aa pg g e (bb 9 y) fun z=>
 aa pg g e (lJ 9 3 z) fun A=>
 eC pg R g e false 40 #[d,s,(I p1)] fun C D E=>
 eC pg R E D true 40 #[C,A,(I p1)] fun F G H=>
 ((aa pg H G (binOp .add 3 c (I 1)) fun L=>
 jB a b L F G H))))
 (fin R g e d)))))
def MX:Prop:=
 (eV pg R X0 w0 true (Instr.makeMap 104 none) fun a b c=>
 aa pg c b (ez 106 #[a,(I 0),(I 0),(I 0),(B false)] #[(0,a)]) fun d=>
 eV pg R c b true (dx 106 d) fun e g h=>
 (fin R h g e))
noncomputable def W1:bG:=⟨87,[(15,(pg.cellsOf 117))],[62,66,73],[0,1,2,6,7,8,9,10,11,12,13,16,22,30,45,70,72,83,85],[19,20,21,61,63,64,65,67,68,69],[11,12]⟩
def Cr (p0:Value) (p1 p2:Int):Prop:=
 (aa pg X0 w0 (binOp .lss 3 (I p2) (I 0)) fun a=>
 un (aO a false (I p2)) fun b=>
 aD pg X0 w0 a false (vS (binOp .gtr 3 b (I 1000))) fun c=>
 ay pg X0 w0 (aR a (B true) c) fun d=>
 (ao d
 ((fin R X0 w0 (ax #[(.pointer none),(I 1)])))
 ((eC pg R X0 w0 true 41 #[p0,(.string { data:= #[115,105,110,107] }),(I p1)] fun e g h=>
 aa pg h g (aH e 0) fun i=>
 aa pg h g (aH e 1) fun j=>
 (aa pg h g (aJ .neq 29 (.tmp 29) (.const (I 0)) j (I 0)) fun k=>
 (ao k
 ((fin R h g (ax #[(.pointer none),j])))
 ((eV pg R h g true (Instr.makeMap 110 none) fun l m n=>
 aa pg n m (ez 112 #[i,(I p2),(I 0),(B false),l,(I 0),(I 0),(I 0),(.slice none 0 0)] #[(0,i),(1,(I p2)),(4,l)]) fun o=>
 eV pg R n m true (dx 112 o) fun q r s=>
 (eC pg R s r true 42 #[i] fun t v y=>
 aa pg y v (aJ .eql 3 (.tmp 38) (.const (I 1)) t (I 1)) fun z=>
 (eC pg R y v true 42 #[i] fun A C D=>
 (jA D C A z 12 11 fun E F G H L M=>
 eC pg R M L true 43 #[i] fun N O Q=>
 aa pg Q O (binOp .lss 3 G N) fun S=>
 (ao S
 (((jn (fun (T:Value) (U:World) (V:XS)=>
 (aa pg V U (binOp .add 3 G (I 1)) fun Y=>
 jB E F Y T U V)) fun Z=>
 eC pg R Q O true 44 #[i,G] fun a0 b0 c0=>
 aa pg c0 b0 (aH a0 0) fun d0=>
 aa pg c0 b0 (aH a0 1) fun _=>
 (eC pg R c0 b0 true 45 #[d0] fun e0 g0 h0=>
 aa pg h0 g0 (aH e0 0) fun i0=>
 aa pg h0 g0 (aH e0 1) fun j0=>
 un (aF (ad i0)) fun k0=>
 bq (az (af (ad i0))==29) (bq (aW (af (ad i0)) one) ((aa pg h0 g0 (aJ .neq 29 (.tmp 59) (.const (I 0)) j0 (I 0)) fun l0=>
 bq (dO k0) (un (cellOf k0 0) fun m0=>
 un (aO l0 false m0) fun n0=>
 aD pg h0 g0 l0 false (vS (aJ .neq 3 (.tmp 63) (.const (I 11)) n0 (I 11))) fun o0=>
 un (aO l0 false o0) fun q0=>
 un (aO q0 true m0) fun r0=>
 aD pg h0 g0 q0 true (vS (aJ .neq 3 (.tmp 67) (.const (I 12)) r0 (I 12))) fun s0=>
 aD pg h0 g0 l0 false (aR q0 s0 (B false)) fun t0=>
 ay pg h0 g0 (aR l0 (B true) t0) fun v0=>
 (ao v0
 ((fin R h0 g0 (ax #[(.pointer none),(I 13)])))
 ((aa pg h0 g0 (bg bJ H) fun y0=>
 (ao y0
 (bq (dO k0) (aa pg h0 g0 (aJ .eql 3 (.tmp 74) (.const (I 12)) m0 (I 12)) fun z0=>
 (bq (dO k0) (un (ef k0 0 29) fun A0=>
 eC pg R h0 g0 true 46 #[q,A0,z0] fun _ C0 D0=>
 (Z z0 C0 D0)))))
 ((bq (dO k0) (un (ef k0 0 29) fun E0=>
 eC pg R h0 g0 true 47 #[q,E0] fun F0 G0 H0=>
 aa pg H0 G0 (bg bJ F0) fun L0=>
 (ao L0
 ((fin R H0 G0 (ax #[(.pointer none),(I 13)])))
 (Z H G0 H0)))))))))))))))))
 (((aa pg Q O (bg bJ H) fun M0=>
 (ao M0
 ((fin R Q O (ax #[(.pointer none),(I 13)])))
 (((fin R Q O (ax #[q,(I 0)]))))))))))))))))))))
noncomputable def Ku:bG:=⟨23,[(6,(pg.cellsOf 48)),(7,(pg.cellsOf 48))],[21],[0,1,2,18],[],[]⟩
def Ah (p0 p1:Int) (p2:ByteArray):Prop:=
 (aa pg X0 w0 (ez 33 #[(I 1),(I 1),(I p1)] #[(0,(I 1)),(1,(I 1)),(2,(I p1))]) fun a=>
 aa pg X0 w0 (ez 35 #[(I p1),(I 0),(I 1)] #[(0,(I p1)),(2,(I 1))]) fun b=>
 aa pg X0 w0 (ez 51 #[(I 1),(.float .f64 4607182418800017408),(.string ⟨#[]⟩)] #[(0,(I 1)),(1,(.float .f64 4607182418800017408))]) fun c=>
 un (cellOf c 0) fun d=>
 un (cellOf c 1) fun e=>
 un (cellOf c 2) fun g=>
 aa pg X0 w0 (ez 53 #[(.string p2),d,e,g] #[(0,(.string p2)),(1,c)]) fun h=>
 eV pg R X0 w0 true (gU 23 53 4 1 #[(0,h)]) fun i j k=>
 un (cellOf a 0) fun l=>
 un (cellOf a 1) fun m=>
 un (cellOf a 2) fun n=>
 un (cellOf b 0) fun o=>
 un (cellOf b 1) fun q=>
 un (cellOf b 2) fun r=>
 aa pg k j (ez 48 #[(I 12),(I 31),(I 32),l,m,n,(I 0),(I 0),(I 0),o,q,r,(I 0),(I 0),(I 0),(B false),(I 0),(I 0),(.slice none 0 0),(.slice none 0 0),i,(.slice none 0 0),(.slice none 0 0),(.slice none 0 0),(I 0),(I 0),(.float .f64 0),(.float .f64 0),(I 0),(I 0),(I 0),(I 0),(I 0),(I 0),(.slice none 0 0),(.slice none 0 0)] #[(0,(I 12)),(1,(I 31)),(2,(I 32)),(3,a),(7,b),(14,i)]) fun s=>
 un (aF (ad s)) fun t=>
 bq (az (af (ad s))==36) (bq (aW (af (ad s)) one) (((jn (fun (v:Value)=>
 bq (dO v) (un (ef v 0 36) fun y=>
 un (aF (ad y)) fun z=>
 bq (az (af (ad y))==36) (bq (aW (af (ad y)) one) (un (ef z 0 36) fun A=>
 bq (aW [z] dO) (fin R k j A))))) fun C=>
 aa pg k j (binOp .gtr 3 (I p0) (I 0)) fun D=>
 (ao D
 (aa pg k j (ez 35 #[(I p0),(I 0),(I 1)] #[(0,(I p0)),(2,(I 1))]) fun E=>
 bq (dO t) (un (aF (bh (b8 (af (ad t)) 12 (af (ad E))))) fun F=>
 bq (az (af (ad E))==3) (bq (aW (af (ad E)) one) (C F))))
 (C t)))))))
def zZ (p0:Value):Prop:=
 ((ay pg X0 w0 (aE p0) fun a=>
 aa pg X0 w0 (aS 112 4 4 1 a) fun b=>
 aa pg X0 w0 (bb 110 b) fun c=>
 eC pg R X0 w0 true 49 #[c] fun d e g=>
 eC pg R g e true 48 #[d] fun h i j=>
 aa pg j i (cK 36 3 h) fun k=>
 (jA j i (I 0) (.slice none 0 0) 13 3 fun l m n o q r=>
 aa pg r q (binOp .lss 3 n k) fun s=>
 (ao s
 ((aa pg r q (dD 36 1 h n) fun t=>
 aa pg r q (bb 9 t) fun v=>
 (ay pg r q (aE p0) fun y=>
 aa pg r q (aS 112 4 4 1 y) fun z=>
 aa pg r q (bb 110 z) fun A=>
 aa pg r q (dR 110 A v false) fun C=>
 un (cellOf C 0) fun D=>
 un (cellOf C 1) fun E=>
 un (cellOf C 2) fun F=>
 aa pg r q (ez 74 #[v,D,E,F] #[(0,v),(1,C)]) fun G=>
 eV pg R r q true (gU 54 74 4 1 #[(0,G)]) fun H L M=>
 eV pg R M L true (gH 54 74 4 48 54 o H) fun N O Q=>
 ((aa pg Q O (binOp .add 3 n (I 1)) fun S=>
 jB l m S N O Q)))))
 (fin R r q o)))))
def uF (p0:Value):Prop:=
 (ay pg X0 w0 (aE p0) fun a=>
 aa pg X0 w0 (aS 112 3 3 1 a) fun b=>
 aa pg X0 w0 (bb 4 b) fun c=>
 (fin R X0 w0 c))
def Db (p0 p1:Value):Prop:=
 (aa pg X0 w0 (cK 54 3 p0) fun a=>
 aa pg X0 w0 (cK 54 3 p1) fun b=>
 aa pg X0 w0 (aJ .neq 3 (.tmp 7) (.tmp 9) a b) fun c=>
 (ao c
 (fin R X0 w0 (B false))
 (((jw X0 w0 (I 0) 5 fun d e g h i=>
 aa pg i h (cK 54 3 p0) fun j=>
 aa pg i h (binOp .lss 3 g j) fun k=>
 (ao k
 ((aa pg i h (dD 54 4 p0 g) fun l=>
 aa pg i h (aS 74 0 0 1 l) fun m=>
 aa pg i h (bb 9 m) fun n=>
 aa pg i h (dD 54 4 p1 g) fun o=>
 aa pg i h (aS 74 0 0 1 o) fun q=>
 aa pg i h (bb 9 q) fun r=>
 aa pg i h (aJ .neq 9 (.tmp 21) (.tmp 26) n r) fun s=>
 un (aO s false p0) fun t=>
 un (aO s false g) fun v=>
 aD pg i h s false (vS (dD 54 4 t v)) fun y=>
 aD pg i h s false (vS (aS 74 1 1 3 y)) fun z=>
 aD pg i h s false (vS (gy 51 3 z)) fun A=>
 un (aO s false p1) fun C=>
 aD pg i h s false (vS (dD 54 4 C v)) fun D=>
 aD pg i h s false (vS (aS 74 1 1 3 D)) fun E=>
 aD pg i h s false (vS (gy 51 3 E)) fun F=>
 jn (fun (G:Value) (H:World) (L:XS)=>
 aD pg L H s false (vS (bg bJ G)) fun M=>
 ay pg L H (aR s (B true) M) fun N=>
 (ao N
 (fin R L H (B false))
 (((aa pg L H (binOp .add 3 g (I 1)) fun O=>
 jx d e O H L))))) fun Q=>
 (gE s false (eC pg R i h true 25 #[A,F] Q) (Q undef h i))))
 (fin R i h (B true))))))))
def uE (p0:Value):Prop:=
 (ay pg X0 w0 (aE p0) fun a=>
 aa pg X0 w0 (aS 112 5 5 3 a) fun b=>
 aa pg X0 w0 (gy 35 3 b) fun c=>
 un (aF (ad c)) fun d=>
 bq (az (af (ad c))==3) (bq (aW (af (ad c)) one) (un (ef d 0 3) fun e=>
 bq (aW [d] dO) (fin R X0 w0 e))))
def Bd (p0:Value):Prop:=
 (ay pg X0 w0 (aE p0) fun a=>
 aa pg X0 w0 (aS 106 0 0 1 a) fun b=>
 aa pg X0 w0 (bb 104 b) fun c=>
 eC pg R X0 w0 true 59 #[c] fun d e g=>
 eC pg R g e true 48 #[d] fun h i j=>
 (fin R j i h))
def CD (p0:Value):Prop:=
 (((jA X0 w0 (I 0) (I 0) 4 3 fun a b c d e g=>
 aa pg g e (cK 66 3 p0) fun h=>
 aa pg g e (binOp .lss 3 c h) fun i=>
 un (aO i true c) fun j=>
 aD pg g e i true (vS (binOp .lss 3 j (I 200))) fun k=>
 ay pg g e (aR i k (B false)) fun l=>
 un (aO l true d) fun m=>
 aD pg g e l true (vS (binOp .leq 3 m (I 20000))) fun n=>
 ay pg g e (aR l n (B false)) fun o=>
 (ao o
 ((aa pg g e (dD 66 39 p0 c) fun q=>
 aa pg g e (aS 70 2 2 36 q) fun r=>
 aa pg g e (gy 48 36 r) fun s=>
 eC pg R g e true 61 #[s,(I 20000)] fun t v y=>
 aa pg y v (binOp .add 3 d t) fun z=>
 ((aa pg y v (binOp .add 3 c (I 1)) fun A=>
 jB a b A z v y))))
 (((aa pg g e (cK 66 3 p0) fun C=>
 aa pg g e (binOp .leq 3 C (I 200)) fun D=>
 un (aO D true d) fun E=>
 aD pg g e D true (vS (binOp .leq 3 E (I 20000))) fun F=>
 ay pg g e (aR D F (B false)) fun G=>
 (fin R g e G))))))))
noncomputable def FM:bG:=⟨28,[],[],[0,1,4,5,6,15],[11,12,13,14],[5,6]⟩
def wK (p0:Value) (p1:Int):Prop:=
 (((jA X0 w0 (I 0) (I 0) 6 5 fun a b c d e g=>
 aa pg g e (cK 36 3 p0) fun h=>
 aa pg g e (binOp .lss 3 c h) fun i=>
 un (aO i true d) fun j=>
 un (aO i true (I p1)) fun k=>
 aD pg g e i true (vS (binOp .leq 3 j k)) fun l=>
 ay pg g e (aR i l (B false)) fun m=>
 (ao m
 ((aa pg g e (dD 36 1 p0 c) fun n=>
 aa pg g e (bb 9 n) fun o=>
 aa pg g e (lJ 9 3 o) fun q=>
 aa pg g e (binOp .add 3 (I 1) q) fun r=>
 eC pg R g e true 40 #[d,r,(I p1)] fun s t v=>
 ((aa pg v t (binOp .add 3 c (I 1)) fun y=>
 jB a b y s t v))))
 (fin R g e d)))))
noncomputable def Kv:bG:=⟨34,[],[],[0,1,4,5,6,7,10,20],[],[5,6,7]⟩
def Al (p0:Value) (p1:Int):Prop:=
 (((tq X0 w0 (I 0) (.slice none 0 0) undef 6 5 7 fun a b c d _ e g=>
 aa pg g e (binOp .lss 3 c (I p1)) fun h=>
 (ao h
 (((jA g e (I 0) d 7 5 fun i j k l m n=>
 aa pg n m (dD 63 7 p0 c) fun o=>
 aa pg n m (aS 73 2 6 1 o) fun q=>
 aa pg n m (bb 23 q) fun r=>
 aa pg n m (cK 23 3 r) fun s=>
 aa pg n m (binOp .lss 3 k s) fun t=>
 (ao t
 ((aa pg n m (dD 63 7 p0 c) fun v=>
 aa pg n m (aS 73 2 6 1 v) fun y=>
 aa pg n m (bb 23 y) fun z=>
 aa pg n m (dD 23 4 z k) fun A=>
 aa pg n m (gy 53 4 A) fun C=>
 eC pg R n m true 62 #[l,C] fun D E F=>
 ((aa pg F E (binOp .add 3 k (I 1)) fun G=>
 jB i j G D E F))))
 ((((aa pg n m (binOp .add 3 c (I 1)) fun H=>
 tt a b H l k m n))))))))
 (fin R g e d)))))
noncomputable def Oc:bG:=⟨24,[(2,(pg.cellsOf 51)),(3,(pg.cellsOf 51))],[5,7,11,13,18,20],[0,1,4],[10,12,14,15,17,19,21,22],[]⟩
def Dc (bo:Int) (bA:Nat) (bD:ByteArray) (cZ:Int) (dp:Nat) (du:ByteArray):Prop:=
 (aa pg X0 w0 (aJ .eql 3 (.tmp 6) (.tmp 8) (I bo) (I cZ)) fun a=>
 un (aO a true (.string bD)) fun b=>
 un (aO a true (.string du)) fun c=>
 aD pg X0 w0 a true (vS (aJ .eql 9 (.tmp 12) (.tmp 14) b c)) fun d=>
 ay pg X0 w0 (aR a d (B false)) fun e=>
 un (aO e true (.float .f64 bA)) fun g=>
 un (aO e true (.float .f64 dp)) fun h=>
 jn (fun (i:Value) (j:World) (k:XS)=>
 ay pg k j (aR e i (B false)) fun l=>
 (fin R k j l)) fun m=>
 (gE e true (eC pg R X0 w0 true 63 #[g,h] m) (m undef w0 X0)))
def Aq (p0 p1:Value):Prop:=
 (eC pg R X0 w0 true 20 #[p0] fun a b c=>
 aa pg c b (cK 36 3 a) fun d=>
 (jA c b (I 0) (I 0) 13 4 fun e g h i j k=>
 aa pg k j (binOp .lss 3 h d) fun l=>
 (ao l
 (((jn (fun (m:Value) (n:World) (o:XS)=>
 (aa pg o n (binOp .add 3 h (I 1)) fun q=>
 jB e g q m n o)) fun r=>
 aa pg k j (dD 36 1 a h) fun s=>
 aa pg k j (bb 9 s) fun t=>
 (ay pg k j (aE p0) fun v=>
 aa pg k j (aS 106 0 0 1 v) fun y=>
 aa pg k j (bb 104 y) fun z=>
 aa pg k j (dR 104 z t false) fun A=>
 (ay pg k j (aE A) fun C=>
 aa pg k j (aS 141 0 0 1 C) fun D=>
 aa pg k j (bb 95 D) fun E=>
 aa pg k j (cK 95 3 E) fun F=>
 ay pg k j (aE A) fun G=>
 aa pg k j (aS 141 1 1 1 G) fun H=>
 aa pg k j (bb 3 H) fun L=>
 aa pg k j (binOp .sub 3 F L) fun M=>
 (aa pg k j (aJ .eql 3 (.tmp 33) (.const (I 0)) M (I 0)) fun N=>
 (ao N
 (r i j k)
 ((((jn (fun (O:Value)=>
 aa pg k j (binOp .add 3 i (I 1)) fun Q=>
 (ay pg k j (aE p0) fun S=>
 aa pg k j (aS 106 1 1 1 S) fun T=>
 aa pg k j (bb 3 T) fun U=>
 aa pg k j (binOp .sub 3 M O) fun V=>
 aa pg k j (binOp .sub 3 U V) fun Y=>
 ay pg k j (aE p0) fun Z=>
 aa pg k j (aS 106 1 1 1 Z) fun a0=>
 eU pg R k j true (dV 3 1 a0 Y) fun _ b0 c0=>
 (ay pg c0 b0 (aE A) fun d0=>
 aa pg c0 b0 (aS 141 0 0 1 d0) fun e0=>
 aa pg c0 b0 (bb 95 e0) fun g0=>
 ay pg c0 b0 (aE A) fun h0=>
 aa pg c0 b0 (aS 141 1 1 1 h0) fun i0=>
 aa pg c0 b0 (bb 3 i0) fun j0=>
 aa pg c0 b0 (binOp .add 3 j0 O) fun k0=>
 ay pg c0 b0 (aE A) fun l0=>
 aa pg c0 b0 (aS 141 1 1 1 l0) fun m0=>
 aa pg c0 b0 (bb 3 m0) fun n0=>
 aa pg c0 b0 (binOp .add 3 n0 O) fun o0=>
 aa pg c0 b0 (cp 95 g0 none (some k0) (some o0)) fun q0=>
 ay pg c0 b0 (aE A) fun r0=>
 aa pg c0 b0 (aS 141 0 0 1 r0) fun s0=>
 eU pg R c0 b0 true (dV 95 1 s0 q0) fun _ t0 v0=>
 (ay pg v0 t0 (aE A) fun y0=>
 aa pg v0 t0 (aS 141 0 0 1 y0) fun z0=>
 aa pg v0 t0 (bb 95 z0) fun A0=>
 aa pg v0 t0 (cK 95 3 A0) fun C0=>
 ay pg v0 t0 (aE A) fun D0=>
 aa pg v0 t0 (aS 141 1 1 1 D0) fun E0=>
 eU pg R v0 t0 true (dV 3 1 E0 C0) fun _ F0 G0=>
 (r Q F0 G0))))) fun H0=>
 aa pg k j (cK 22 3 p1) fun L0=>
 aa pg k j (binOp .lss 3 i L0) fun M0=>
 un (aO M0 true p1) fun N0=>
 un (aO M0 true i) fun O0=>
 aD pg k j M0 true (vS (dD 22 1 N0 O0)) fun Q0=>
 aD pg k j M0 true (vS (bb 3 Q0)) fun S0=>
 aD pg k j M0 true (vS (binOp .geq 3 S0 (I 0))) fun T0=>
 ay pg k j (aR M0 T0 (B false)) fun U0=>
 (ao U0
 (aa pg k j (dD 22 1 p1 i) fun V0=>
 aa pg k j (bb 3 V0) fun Y0=>
 aa pg k j (binOp .add 3 M (I 1)) fun Z0=>
 aa pg k j (binOp .rem 3 Y0 Z0) fun a1=>
 (H0 a1))
 (H0 (I 0))))))))))))))
 (((ay pg k j (aE p0) fun b1=>
 aa pg k j (aS 106 4 4 1 b1) fun c1=>
 eU pg R k j true (dV 4 1 c1 (B false)) fun _ d1 e1=>
 (ay pg e1 d1 (aE p0) fun g1=>
 aa pg e1 d1 (aS 106 3 3 1 g1) fun h1=>
 eU pg R e1 d1 true (dV 3 1 h1 (I 0)) fun _ i1 j1=>
 fin R j1 i1 (ax #[]))))))))
noncomputable def Od:bG:=⟨9,[(2,(pg.cellsOf 35)),(3,(pg.cellsOf 35))],[],[0,1,4],[],[]⟩
def CU (bo bA bD cZ dp du:Int):Prop:=
 (eC pg R X0 w0 true 65 #[(.agg #[(I bo),(I bA),(I bD)]),(.agg #[(I cZ),(I dp),(I du)])] fun a b c=>
 aa pg c b (binOp .lss 3 a (I 0)) fun d=>
 (fin R c b d))
noncomputable def Oe:bG:=⟨25,[(3,(pg.cellsOf 35))],[],[0,1,4,5,19],[10,11,12,13,14,15,16,17,18],[5]⟩
def CW (p0:Value) (cZ dp du:Int):Prop:=
 ((jw X0 w0 (I 0) 5 fun a b c d e=>
 aa pg e d (cK 63 3 p0) fun g=>
 aa pg e d (binOp .lss 3 c g) fun h=>
 un (aO h true (.agg #[(I cZ),(I dp),(I du)])) fun i=>
 un (aO h true p0) fun j=>
 un (aO h true c) fun k=>
 aD pg e d h true (vS (dD 63 7 j k)) fun l=>
 aD pg e d h true (vS (aS 73 1 3 3 l)) fun m=>
 aD pg e d h true (vS (gy 35 3 m)) fun n=>
 jn (fun (o:Value) (q:World) (r:XS)=>
 aD pg r q h true (vS (bg bJ o)) fun s=>
 ay pg r q (aR h s (B false)) fun t=>
 (ao t
 ((aa pg r q (binOp .add 3 c (I 1)) fun v=>
 (jx a b v q r)))
 (((aa pg r q (cp 63 p0 none (some c) none) fun y=>
 (fin R r q y)))))) fun z=>
 (gE h true (eC pg R e d true 29 #[i,n] z) (z undef d e))))
def wP (p0:Value):Prop:=
 (((jA X0 w0 (I 0) (.slice none 0 0) 4 3 fun a b c d e g=>
 aa pg g e (cK 23 3 p0) fun h=>
 aa pg g e (binOp .lss 3 c h) fun i=>
 (ao i
 ((aa pg g e (dD 23 4 p0 c) fun j=>
 aa pg g e (gy 53 4 j) fun k=>
 eV pg R g e true (gU 23 53 4 1 #[(0,k)]) fun l m n=>
 eV pg R n m true (gH 23 53 4 48 23 d l) fun o q r=>
 ((aa pg r q (binOp .add 3 c (I 1)) fun s=>
 jB a b s o q r))))
 (fin R g e d)))))
noncomputable def Of:bG:=⟨14,[],[],[0,1,8],[],[]⟩
def Dd (p0:Value) (p1:Int):Prop:=
 ay pg X0 w0 (aE p0) fun a=>
 aa pg X0 w0 (aS 106 4 4 1 a) fun b=>
 aa pg X0 w0 (bb 4 b) fun c=>
 aa pg X0 w0 (bg bJ c) fun d=>
 (ao d
 (aa pg X0 w0 (Builtin.max_ #[3,3] 3 #[(I p1),(I 0)]) fun e=>
 ay pg X0 w0 (aE p0) fun g=>
 aa pg X0 w0 (aS 106 3 3 1 g) fun h=>
 eU pg R X0 w0 true (dV 3 1 h e) fun _ i j=>
 fin R j i (ax #[]))
 (fin R X0 w0 (ax #[])))
noncomputable def Rr:bG:=⟨20,[],[],[0,1,2,6,14],[10,11,12,13],[]⟩
def Fq (p0 p1 p2:Int):Prop:=
 (aa pg X0 w0 (binOp .gtr 3 (I p1) (I p2)) fun a=>
 un (aO a false (I p0)) fun b=>
 un (aO a false (I p2)) fun c=>
 aD pg X0 w0 a false (vS (binOp .gtr 3 b c)) fun d=>
 ay pg X0 w0 (aR a (B true) d) fun e=>
 (ao e
 (aa pg X0 w0 (binOp .add 3 (I p2) (I 1)) fun g=>
 (fin R X0 w0 g))
 ((aa pg X0 w0 (binOp .add 3 (I p0) (I p1)) fun h=>
 (fin R X0 w0 h)))))
noncomputable def YC:bG:=⟨79,[],[],[0,1,2,6,7,9,10,12,13,14,15,16,22,26,33,42,43,44,45,52,58,66,70,76],[29,30,31],[44]⟩
def Ew (p0:Value) (p1:ByteArray) (p2:Int):Prop:=
 (eC pg R X0 w0 true 79 #[(.string p1),(I 1)] fun a b c=>
 aa pg c b (aH a 0) fun _=>
 aa pg c b (aH a 1) fun d=>
 (aa pg c b (aJ .neq 29 (.tmp 23) (.const (I 0)) d (I 0)) fun e=>
 (ao e
 ((fin R c b (ax #[(.pointer none),d])))
 (aa pg c b (binOp .lss 3 (I p2) (I 64)) fun g=>
 un (aO g false (I p2)) fun h=>
 aD pg c b g false (vS (binOp .gtr 3 h (I 262144))) fun i=>
 ay pg c b (aR g (B true) i) fun j=>
 (ao j
 ((fin R c b (ax #[(.pointer none),(I 1)])))
 (eC pg R c b true 80 #[p0] fun k l m=>
 (ao k
 ((fin R m l (ax #[(.pointer none),(I 12)])))
 (((aa pg m l (ez 158 #[p0,(.string p1),(I p2),(.slice none 0 0),(I 0)] #[(0,p0),(1,(.string p1)),(2,(I p2))]) fun n=>
 eV pg R m l true (dx 158 n) fun o q r=>
 (eC pg R r q true 20 #[p0] fun s t v=>
 aa pg v t (cK 36 3 s) fun y=>
 (jw v t (I 0) 44 fun z A C D E=>
 aa pg E D (binOp .lss 3 C y) fun F=>
 (ao F
 (((jn (fun (G:World) (H:XS)=>
 (aa pg H G (binOp .add 3 C (I 1)) fun L=>
 jx z A L G H)) fun M=>
 aa pg E D (dD 36 1 s C) fun N=>
 aa pg E D (bb 9 N) fun O=>
 (eC pg R E D true 81 #[(.string p1),O] fun Q S T=>
 (aa pg T S (aJ .eql 3 (.tmp 51) (.const (I 0)) Q (I 0)) fun U=>
 (ao U
 (M S T)
 ((eC pg R T S true 82 #[o,Q,O] fun V Y Z=>
 (aa pg Z Y (aJ .neq 29 (.tmp 57) (.const (I 0)) V (I 0)) fun a0=>
 (ao a0
 ((fin R Z Y (ax #[(.pointer none),V])))
 (M Y Z)))))))))))
 (((ay pg E D (aE o) fun b0=>
 aa pg E D (aS 158 3 3 1 b0) fun c0=>
 aa pg E D (bb 156 c0) fun d0=>
 aa pg E D (cK 156 3 d0) fun e0=>
 aa pg E D (aJ .eql 3 (.tmp 65) (.const (I 0)) e0 (I 0)) fun g0=>
 (ao g0
 (eC pg R E D true 83 #[o,(I 1)] fun h0 i0 j0=>
 (aa pg j0 i0 (aJ .neq 29 (.tmp 69) (.const (I 0)) h0 (I 0)) fun k0=>
 (ao k0
 ((fin R j0 i0 (ax #[(.pointer none),h0])))
 (((fin R j0 i0 (ax #[o,(I 0)])))))))
 ((eC pg R E D true 84 #[o] fun l0 m0 n0=>
 (aa pg n0 m0 (aJ .neq 29 (.tmp 75) (.const (I 0)) l0 (I 0)) fun o0=>
 (ao o0
 ((fin R n0 m0 (ax #[(.pointer none),l0])))
 (((fin R n0 m0 (ax #[o,(I 0)])))))))))))))))))))))))))
def De (p0:Value):Prop:=
 (ay pg X0 w0 (aE p0) fun a=>
 aa pg X0 w0 (aS 158 3 3 1 a) fun b=>
 aa pg X0 w0 (bb 156 b) fun c=>
 aa pg X0 w0 (dD 156 1 c (I 0)) fun d=>
 aa pg X0 w0 (bb 164 d) fun e=>
 ay pg X0 w0 (aE e) fun g=>
 aa pg X0 w0 (aS 163 0 0 1 g) fun h=>
 aa pg X0 w0 (bb 3 h) fun i=>
 (fin R X0 w0 i))
def DW (p0:Value):Prop:=
 (eC pg R X0 w0 true 85 #[p0] fun a b c=>
 ay pg c b (aE a) fun d=>
 aa pg c b (aS 163 0 0 1 d) fun e=>
 aa pg c b (bb 3 e) fun g=>
 eC pg R c b false 85 #[p0] fun h i j=>
 ay pg j i (aE h) fun k=>
 aa pg j i (aS 163 1 1 1 k) fun l=>
 aa pg j i (bb 161 l) fun m=>
 aa pg j i (cK 161 3 m) fun n=>
 aa pg j i (binOp .add 3 g n) fun o=>
 (fin R j i o))
noncomputable def P4:bG:=⟨19,[],[],[0,1,4,5,15],[10,11,12,13,14],[]⟩
def DO (p0:Value) (p1:Int):Prop:=
 (eC pg R X0 w0 true 42 #[p0] fun a b c=>
 aa pg c b (binOp .lss 3 (I p1) a) fun d=>
 un (aO d false (I p1)) fun e=>
 un (aO d false p0) fun g=>
 jn (fun (h:Value) (i:World) (j:XS)=>
 aD pg j i d false (vS (binOp .geq 3 e h)) fun k=>
 ay pg j i (aR d (B true) k) fun l=>
 (ao l
 ((fin R j i (ax #[(.slice none 0 0),(I 8)])))
 ((eC pg R j i true 86 #[p0,(I p1)] fun m n o=>
 (fin R o n (ax #[m,(I 0)])))))) fun q=>
 (gE d false (eC pg R c b true 43 #[g] q) (q undef b c)))
noncomputable def LV:bG:=⟨31,[(4,(pg.cellsOf 117)),(7,(pg.cellsOf 74))],[11,15,26,28],[0,1,2,9,16,17,18,19],[],[18]⟩
def Bq (p0:Value) (_p1_0 _p1_1 _p1_2 _p1_3 jX jY kn _p1_7 _p1_8 _p1_9:Int) (_p1_10:Bool) (_p1_11:Int) (_p1_12:Nat) (_p1_13 _p1_14 _p1_15 lu:Value) (_p1_17 _p1_18:Int) (_p1_19 _p1_20:Nat) (_p1_21 _p1_22 _p1_23 _p1_24 _p1_25 _p1_26:Int) (_p1_27 _p1_28:Value) (p2:Bool):Prop:=
 (aa pg X0 w0 (bg bJ (B p2)) fun a=>
 (ao a
 (fin R X0 w0 (ax #[]))
 ((ay pg X0 w0 (aE p0) fun b=>
 aa pg X0 w0 (aS 112 5 5 3 b) fun c=>
 eU pg R X0 w0 true (dV 35 3 c (.agg #[(I jX),(I jY),(I kn)])) fun _ d e=>
 (aa pg e d (cK 54 3 lu) fun g=>
 (jw e d (I 0) 18 fun h i j k l=>
 aa pg l k (binOp .lss 3 j g) fun m=>
 (ao m
 ((aa pg l k (dD 54 4 lu j) fun n=>
 aa pg l k (gy 74 4 n) fun o=>
 un (aF (ad o)) fun q=>
 bq (az (af (ad o))==4) (bq (aW (af (ad o)) one) ((ay pg l k (aE p0) fun r=>
 aa pg l k (aS 112 4 4 1 r) fun s=>
 aa pg l k (bb 110 s) fun t=>
 bq (dO q) (un (cellOf q 0) fun v=>
 un (ef q 1 3) fun y=>
 eU pg R l k true (gK 110 t v y) fun _ z A=>
 ((aa pg A z (binOp .add 3 j (I 1)) fun C=>
 jx h i C z A))))))))
 (fin R l k (ax #[])))))))))
noncomputable def LX:bG:=⟨37,[(3,(pg.cellsOf 117))],[5,8,16,18,20,23,31],[0,1,4,7,14],[30,32,33,34,35],[]⟩
def Br (p0:Value) (cZ dp du iH jX jY kn ko pU nw:Int) (_p1_10:Bool) (_p1_11:Int) (_p1_12:Nat) (_p1_13 lv _p1_15 lu:Value) (_p1_17 _p1_18:Int) (_p1_19 _p1_20:Nat) (_p1_21 _p1_22 _p1_23 _p1_24 _p1_25 _p1_26:Int) (_p1_27 _p1_28:Value):Prop:=
 (aa pg X0 w0 (aJ .eql 3 (.tmp 6) (.const (I 11)) (I cZ) (I 11)) fun a=>
 (ao a
 (ay pg X0 w0 (aE p0) fun b=>
 aa pg X0 w0 (aS 112 5 5 3 b) fun c=>
 aa pg X0 w0 (gy 35 3 c) fun d=>
 aa pg X0 w0 (aJ .neq 35 (.tmp 9) (.tmp 13) (.agg #[(I ko),(I pU),(I nw)]) d) fun e=>
 (ao e
 (fin R X0 w0 (B false))
 ((eC pg R X0 w0 true 55 #[p0,(.agg #[(I dp),(I du),(I iH)]),(.agg #[(I jX),(I jY),(I kn)]),lv] fun _ g h=>
 (fin R h g (B true))))))
 ((ay pg X0 w0 (aE p0) fun i=>
 aa pg X0 w0 (aS 112 5 5 3 i) fun j=>
 aa pg X0 w0 (gy 35 3 j) fun k=>
 aa pg X0 w0 (aJ .eql 35 (.tmp 24) (.tmp 28) (.agg #[(I jX),(I jY),(I kn)]) k) fun l=>
 un (aO l true lu) fun m=>
 un (aO l true p0) fun n=>
 jn (fun (o:Value) (q:World) (r:XS)=>
 jn (fun (s:Value) (t:World) (v:XS)=>
 ay pg v t (aR l s (B false)) fun y=>
 (fin R v t y)) fun z=>
 (gE l true (eC pg R r q true 93 #[m,o,(Value.func (fZ 94) #[] #[])] z) (z undef q r))) fun A=>
 (gE l true (eC pg R X0 w0 false 14 #[n] A) (A undef w0 X0))))))
def jD (p0:Value):Prop:=
 eV pg R X0 w0 true (dx 110 p0) fun a b c=>
 (aa pg c b (cx (fZ 98) #[] #[a]) fun d=>
 (fin R c b d))
def yP (_p0 p1:Value):Prop:=
 ((jn (fun (a:World) (b:XS)=>
 (fin R b a (I 12))) fun c=>
 aa pg X0 w0 (Instr.typeAssert p1 20 184 true) fun d=>
 aa pg X0 w0 (aH d 0) fun e=>
 aa pg X0 w0 (aH d 1) fun g=>
 un (aF (ad e)) fun _=>
 bq (az (af (ad e))==0) (bq (aW (af (ad e)) one) ((aa pg X0 w0 (bg bJ g) fun h=>
 (ao h
 (eV pg R X0 w0 true (Instr.panic p1) fun _ i j=>
 (c i j))
 (c w0 X0)))))))
noncomputable def YD:bG:=⟨34,[(1,(pg.cellsOf 48)),(3,(pg.cellsOf 48))],[14,19],[0,2,4,10,13],[18,20,21,22,24,25,26,27,29,30,31,32],[]⟩
def EN (bo bA bD cg cy cz cA cI dB dq cj cd dv dh da:Int) (dc:Bool) (dk dr:Int) (cO cL cP cQ cR dd:Value) (cS cV:Int) (cW cX:Nat) (cY gk gm gn gp gq:Int) (gr gu:Value):Prop:=
 (eC pg R X0 w0 true 99 #[(.agg #[(I bo),(I bA),(I bD),(I cg),(I cy),(I cz),(I cA),(I cI),(I dB),(I dq),(I cj),(I cd),(I dv),(I dh),(I da),(B dc),(I dk),(I dr),cO,cL,cP,cQ,cR,dd,(I cS),(I cV),(.float .f64 cW),(.float .f64 cX),(I cY),(I gk),(I gm),(I gn),(I gp),(I gq),gr,gu])] fun a b c=>
 aa pg c b (aH a 0) fun d=>
 aa pg c b (aH a 1) fun e=>
 un (aF (ad d)) fun g=>
 bq (az (af (ad d))==36) (bq (aW (af (ad d)) one) ((aa pg c b (bg bJ e) fun h=>
 (ao h
 (fin R c b (I 7))
 (eC pg R c b true 100 #[(I bA)] fun i j k=>
 aa pg k j (bg bJ i) fun l=>
 un (aO l false (I bD)) fun m=>
 jn (fun (n:Value) (o:World) (q:XS)=>
 aD pg q o l false (vS (bg bJ n)) fun r=>
 ay pg q o (aR l (B true) r) fun s=>
 bq (dO g) (un (ef g 0 36) fun t=>
 un (aO s false t) fun v=>
 jn (fun (y:Value) (z:World) (A:XS)=>
 aD pg A z s false (vS (bg bJ y)) fun C=>
 ay pg A z (aR s (B true) C) fun D=>
 un (aO D false (.agg #[(I bo),(I bA),(I bD),(I cg),(I cy),(I cz),(I cA),(I cI),(I dB),(I dq),(I cj),(I cd),(I dv),(I dh),(I da),(B dc),(I dk),(I dr),cO,cL,cP,cQ,cR,dd,(I cS),(I cV),(.float .f64 cW),(.float .f64 cX),(I cY),(I gk),(I gm),(I gn),(I gp),(I gq),gr,gu])) fun E=>
 jn (fun (F:Value) (G:World) (H:XS)=>
 aD pg H G D false (vS (bg bJ F)) fun L=>
 ay pg H G (aR D (B true) L) fun M=>
 (ao M
 (fin R H G (I 4))
 (fin R H G (I 0)))) fun N=>
 (gE D false (eC pg R A z true 102 #[E] N) (N undef z A))) fun O=>
 (gE s false (eC pg R q o true 101 #[v] O) (O undef o q)))) fun Q=>
 (gE l false (eC pg R k j true 100 #[m] Q) (Q undef j k))))))))
noncomputable def Rs:bG:=⟨37,[(2,(pg.cellsOf 35)),(3,(pg.cellsOf 35))],[7,9,11,13,20,22,25,27],[0,1,4,5,6,15,19,29,33],[],[]⟩
def FO (bo bA bD cZ dp du:Int):Prop:=
 (((jn (fun (a b:Value)=>
 (aa pg X0 w0 (binOp .lss 3 a b) fun c=>
 (ao c
 ((fin R X0 w0 (I (-1))))
 (aa pg X0 w0 (binOp .gtr 3 a b) fun d=>
 (ao d
 (fin R X0 w0 (I 1))
 (fin R X0 w0 (I 0))))))) fun e=>
 aa pg X0 w0 (aJ .neq 3 (.tmp 16) (.tmp 17) (I bo) (I cZ)) fun g=>
 (ao g
 (e (I bo) (I cZ))
 (aa pg X0 w0 (aJ .neq 3 (.tmp 21) (.tmp 23) (I bA) (I dp)) fun h=>
 (ao h
 (e (I bA) (I dp))
 (e (I bD) (I du))))))))
noncomputable def LY:bG:=⟨36,[(3,(pg.cellsOf 117))],[],[0,1,4,5,6,7,8,15,26],[],[]⟩
def uG (p0:Value) (cZ dp du iH jX jY kn ko pU nw:Int) (lW:Bool) (lX:Int) (ml:Nat) (mm lv nR lu:Value) (nS nT:Int) (nU mn:Nat) (nV nW nY nZ ob oc:Int) (od oe:Value):Prop:=
 (eC pg R X0 w0 true 91 #[(.agg #[(I cZ),(I dp),(I du),(I iH),(I jX),(I jY),(I kn),(I ko),(I pU),(I nw),(B lW),(I lX),(.float .f64 ml),mm,lv,nR,lu,(I nS),(I nT),(.float .f64 nU),(.float .f64 mn),(I nV),(I nW),(I nY),(I nZ),(I ob),(I oc),od,oe])] fun a b c=>
 aa pg c b (aH a 0) fun d=>
 aa pg c b (aH a 1) fun e=>
 (((jn (fun (g h:Value) (i:World) (j:XS)=>
 (jn (fun (k:Value) (l:World) (m:XS)=>
 eC pg R m l true 57 #[p0,k] fun n o q=>
 (fin R q o (ax #[h,n]))) fun r=>
 aa pg j i (aJ .eql 29 (.tmp 25) (.const (I 0)) g (I 0)) fun s=>
 (ao s
 (ay pg j i (aE p0) fun t=>
 aa pg j i (aS 112 0 0 1 t) fun v=>
 aa pg j i (bb 107 v) fun y=>
 eC pg R j i true 104 #[y] fun z A C=>
 (r z A C))
 (r g i j)))) fun D=>
 aa pg c b (aJ .eql 29 (.tmp 14) (.const (I 0)) e (I 0)) fun E=>
 (ao E
 (ay pg c b (aE p0) fun F=>
 aa pg c b (aS 112 0 0 1 F) fun G=>
 aa pg c b (bb 107 G) fun H=>
 eC pg R c b true 103 #[H,d] fun L M N=>
 aa pg N M (aH L 0) fun O=>
 aa pg N M (aH L 1) fun Q=>
 (D Q O M N))
 (D e (I 0) b c))))))
noncomputable def Kw:bG:=⟨53,[(5,(pg.cellsOf 33)),(6,(pg.cellsOf 35)),(9,(pg.cellsOf 53))],[16,17,24,30,32],[0,1,2,3,10,11,12,13,19],[],[12]⟩
def zX (p0:Value) (cZ dp du tT tU tV:Int) (p3:Value):Prop:=
 (aa pg X0 w0 (cK 23 3 p3) fun a=>
 (jw X0 w0 (I 0) 12 fun b c d e g=>
 aa pg g e (binOp .lss 3 d a) fun h=>
 (ao h
 (((jn (fun (i:World) (j:XS)=>
 (aa pg j i (binOp .add 3 d (I 1)) fun k=>
 jx b c k i j)) fun l=>
 aa pg g e (dD 23 4 p3 d) fun m=>
 aa pg g e (gy 53 4 m) fun n=>
 un (aF (ad n)) fun o=>
 bq (az (af (ad n))==4) (bq (aW (af (ad n)) one) ((bq (dO o) (un (cellOf o 1) fun q=>
 aa pg g e (aJ .eql 3 (.tmp 18) (.const (I 0)) q (I 0)) fun r=>
 (ao r
 (ay pg g e (aE p0) fun s=>
 aa pg g e (aS 112 4 4 1 s) fun t=>
 aa pg g e (bb 110 t) fun v=>
 bq (dO o) (un (cellOf o 0) fun y=>
 eV pg R g e true (Builtin.delete_ #[110,9] 0 #[v,y]) fun _ z A=>
 (l z A)))
 ((ay pg g e (aE p0) fun C=>
 aa pg g e (aS 112 4 4 1 C) fun D=>
 aa pg g e (bb 110 D) fun E=>
 bq (dO o) (un (cellOf o 0) fun F=>
 un (ef o 1 3) fun G=>
 eU pg R g e true (gK 110 E F G) fun _ H L=>
 (l H L))))))))))))
 (((ay pg g e (aE p0) fun M=>
 aa pg g e (aS 112 5 5 3 M) fun N=>
 eU pg R g e true (dV 35 3 N (.agg #[(I tT),(I tU),(I tV)])) fun _ O Q=>
 (ay pg Q O (aE p0) fun S=>
 aa pg Q O (aS 112 6 8 1 S) fun T=>
 aa pg Q O (bb 63 T) fun U=>
 eC pg R Q O false 60 #[p3] fun V Y Z=>
 aa pg Z Y (ez 73 #[(I cZ),(I dp),(I du),(I tT),(I tU),(I tV),V] #[(0,(.agg #[(I cZ),(I dp),(I du)])),(1,(.agg #[(I tT),(I tU),(I tV)])),(2,V)]) fun a0=>
 eV pg R Z Y false (gU 63 73 7 1 #[(0,a0)]) fun b0 c0 d0=>
 eV pg R d0 c0 true (gH 63 73 7 72 63 U b0) fun e0 g0 h0=>
 ay pg h0 g0 (aE p0) fun i0=>
 aa pg h0 g0 (aS 112 6 8 1 i0) fun j0=>
 eU pg R h0 g0 true (dV 63 1 j0 e0) fun _ k0 l0=>
 fin R l0 k0 (ax #[]))))))))
noncomputable def LZ:bG:=⟨23,[],[],[0,1,4,6],[],[]⟩
def uD (p0:Value) (p1:Int):Prop:=
 ((jn (fun (a:World) (b:XS)=>
 (fin R b a (I p1))) fun c=>
 aa pg X0 w0 (aJ .eql 29 (.tmp 5) (.const (I 12)) (I p1) (I 12)) fun d=>
 (ao d
 (ay pg X0 w0 (aE p0) fun e=>
 aa pg X0 w0 (aS 112 3 3 1 e) fun g=>
 eU pg R X0 w0 true (dV 4 1 g (B true)) fun _ h i=>
 (aa pg i h (ez 35 #[(I 0),(I 0),(I 0)] #[]) fun j=>
 ay pg i h (aE p0) fun k=>
 aa pg i h (aS 112 5 5 3 k) fun l=>
 eU pg R i h true (dV 35 3 l j) fun _ m n=>
 ay pg n m (aE p0) fun o=>
 aa pg n m (aS 112 4 4 1 o) fun q=>
 eU pg R n m true (dV 110 1 q (Value.map none)) fun _ r s=>
 ay pg s r (aE p0) fun t=>
 aa pg s r (aS 112 6 8 1 t) fun v=>
 eU pg R s r true (dV 63 1 v (.slice none 0 0)) fun _ y z=>
 (aa pg z y (ez 184 #[] #[]) fun A=>
 aa pg z y (Instr.makeInterface 184 A) fun C=>
 eV pg R z y true (Instr.panic C) fun _ D E=>
 (c D E))))
 (c w0 X0))))
noncomputable def P5:bG:=⟨55,[],[],[0,1,4,5,24,45],[12,13,14,15,16,17,18,19,20,21,22,23],[]⟩
def DX (p0:Value) (p1:Int):Prop:=
 (yD X0 w0 fun a b c d=>
 ay pg d c (aE p0) fun e=>
 aa pg d c (aS 158 3 3 1 e) fun g=>
 aa pg d c (bb 156 g) fun h=>
 aa pg d c (cK 156 3 h) fun i=>
 aa pg d c (binOp .gtr 3 i (I 1)) fun j=>
 un (aO j true p0) fun k=>
 aD pg d c j true (aE k) fun l=>
 aD pg d c j true (vS (aS 158 3 3 1 l)) fun m=>
 aD pg d c j true (vS (bb 156 m)) fun n=>
 aD pg d c j true (vS (dD 156 1 n (I 1))) fun o=>
 aD pg d c j true (vS (bb 164 o)) fun q=>
 aD pg d c j true (aE q) fun r=>
 aD pg d c j true (vS (aS 163 0 0 1 r)) fun s=>
 aD pg d c j true (vS (bb 3 s)) fun t=>
 un (aO j true (I p1)) fun v=>
 aD pg d c j true (vS (binOp .leq 3 t v)) fun y=>
 ay pg d c (aR j y (B false)) fun z=>
 (ao z
 ((ay pg d c (aE p0) fun A=>
 aa pg d c (aS 158 0 0 1 A) fun C=>
 aa pg d c (bb 26 C) fun D=>
 ay pg d c (aE p0) fun E=>
 aa pg d c (aS 158 1 1 1 E) fun F=>
 aa pg d c (bb 9 F) fun G=>
 ay pg d c (aE p0) fun H=>
 aa pg d c (aS 158 3 3 1 H) fun L=>
 aa pg d c (bb 156 L) fun M=>
 aa pg d c (dD 156 1 M (I 0)) fun N=>
 aa pg d c (bb 164 N) fun O=>
 ay pg d c (aE O) fun Q=>
 aa pg d c (aS 163 0 0 1 Q) fun S=>
 aa pg d c (bb 3 S) fun T=>
 eC pg R d c false 106 #[G,T] fun U V Y=>
 eC pg R Y V true 105 #[D,U] fun Z a0 b0=>
 (aa pg b0 a0 (aJ .neq 29 (.tmp 44) (.const (I 0)) Z (I 0)) fun c0=>
 (ao c0
 (fin R b0 a0 Z)
 ((ay pg b0 a0 (aE p0) fun d0=>
 aa pg b0 a0 (aS 158 3 3 1 d0) fun e0=>
 aa pg b0 a0 (bb 156 e0) fun g0=>
 aa pg b0 a0 (cp 156 g0 (some (I 1)) none none) fun h0=>
 ay pg b0 a0 (aE p0) fun i0=>
 aa pg b0 a0 (aS 158 3 3 1 i0) fun j0=>
 eU pg R b0 a0 true (dV 156 1 j0 h0) fun _ k0 l0=>
 (yF a b k0 l0)))))))
 (fin R d c (I 0))))
def jC (p0:Value):Prop:=
 eV pg R X0 w0 true (dx 104 p0) fun a b c=>
 (aa pg c b (cx (fZ 107) #[] #[a]) fun d=>
 (fin R c b d))
def my (p0:Value):Prop:=
 (aa pg X0 w0 (aJ .eql 23 (.tmp 3) (.const (.slice none 0 0)) p0 (.slice none 0 0)) fun a=>
 (ao a
 (fin R X0 w0 (.slice none 0 0))
 (eV pg R X0 w0 true (gU 23 53 4 0 #[]) fun b c d=>
 eV pg R d c true (gH 23 53 4 48 23 b p0) fun e g h=>
 (fin R h g e))))
noncomputable def IK:bG:=⟨72,[(2,(pg.cellsOf 48))],[7,11,18,25,34,43,55,66],[0,1,4,5,6,51],[47,48,49,50],[5,6]⟩
def yN (_p0_0 _p0_1 _p0_2 _p0_3 _p0_4 _p0_5 _p0_6 _p0_7 _p0_8 _p0_9 _p0_10 _p0_11 _p0_12 _p0_13 _p0_14:Int) (_p0_15:Bool) (_p0_16 _p0_17:Int) (cO cL cP cQ cR dd:Value) (cS cV:Int) (cW cX:Nat) (cY gk gm gn gp gq:Int) (gr gu:Value) (p1:Int):Prop:=
 (eC pg R X0 w0 false 23 #[cO,(I p1)] fun a b c=>
 eC pg R c b true 108 #[cL,(I p1)] fun d e g=>
 eC pg R g e true 40 #[a,d,(I p1)] fun h i j=>
 (eC pg R j i true 10 #[cP,(I p1)] fun k l m=>
 eC pg R m l true 40 #[h,k,(I p1)] fun n o q=>
 (aa pg q o (cK 22 3 cQ) fun r=>
 aa pg q o (binOp .add 3 (I p1) (I 1)) fun s=>
 aa pg q o (mD #[3,3] 3 #[r,s]) fun t=>
 eC pg R q o true 40 #[n,t,(I p1)] fun v y z=>
 (aa pg z y (cK 38 3 cR) fun A=>
 aa pg z y (binOp .add 3 (I p1) (I 1)) fun C=>
 aa pg z y (mD #[3,3] 3 #[A,C]) fun D=>
 eC pg R z y true 40 #[v,D,(I p1)] fun E F G=>
 ((jA G F (I 0) E 6 5 fun H L M N O Q=>
 aa pg Q O (cK 39 3 dd) fun S=>
 aa pg Q O (binOp .lss 3 M S) fun T=>
 un (aO T true N) fun U=>
 un (aO T true (I p1)) fun V=>
 aD pg Q O T true (vS (binOp .leq 3 U V)) fun Y=>
 ay pg Q O (aR T Y (B false)) fun Z=>
 (ao Z
 ((aa pg Q O (dD 39 29 dd M) fun a0=>
 aa pg Q O (gy 117 29 a0) fun b0=>
 eC pg R Q O true 109 #[b0,(I p1)] fun c0 d0 e0=>
 eC pg R e0 d0 true 40 #[N,c0,(I p1)] fun g0 h0 i0=>
 ((aa pg i0 h0 (binOp .add 3 M (I 1)) fun j0=>
 jB H L j0 g0 h0 i0))))
 (((aa pg Q O (binOp .add 3 N (I 1)) fun k0=>
 eC pg R Q O true 110 #[(.agg #[(I cS),(I cV),(.float .f64 cW),(.float .f64 cX),(I cY),(I gk),(I gm),(I gn),(I gp),(I gq),gr,gu]),(I p1)] fun l0 m0 n0=>
 eC pg R n0 m0 true 40 #[k0,l0,(I p1)] fun o0 q0 r0=>
 (fin R r0 q0 o0)))))))))))
noncomputable def ui:bG:=⟨9,[],[],[0,1,4],[],[]⟩
def nh (p0:Value) (p1:ByteArray):Prop:=
 (eC pg R X0 w0 true 371 #[p0,(.string p1)] fun a b c=>
 aa pg c b (binOp .geq 3 a (I 0)) fun d=>
 (fin R c b d))
noncomputable def Hh:bG:=⟨9,[(4,(pg.cellsOf 266))],[],[0,1],[],[]⟩
def yb (p0:Value) (p1:ByteArray):Prop:=
 (aa pg X0 w0 (ez 35 #[(I 0),(I 0),(I 0)] #[]) fun a=>
 eC pg R X0 w0 true 372 #[p0,(.string p1),a,(B true)] fun b c d=>
 un (aF (ad b)) fun e=>
 bq (az (af (ad b))==7) (bq (aW (af (ad b)) one) (un (ef e 0 7) fun g=>
 bq (aW [e] dO) (fin R d c g))))
def oR (p0:Value):Prop:=
 (aa pg X0 w0 (aJ .eql 36 (.tmp 3) (.const (.slice none 0 0)) p0 (.slice none 0 0)) fun a=>
 (ao a
 (fin R X0 w0 (.slice none 0 0))
 (eV pg R X0 w0 true (gU 36 9 1 0 #[]) fun b c d=>
 eV pg R d c true (gH 36 9 1 16 36 b p0) fun e g h=>
 (fin R h g e))))
def kA (p0 p1:Value):Prop:=
 (eC pg R X0 w0 true 379 #[p0,p1] fun a b c=>
 aa pg c b (binOp .geq 3 a (I 0)) fun d=>
 (fin R c b d))
noncomputable def L6:bG:=⟨8,[(2,(pg.cellsOf 53))],[4],[0,1,3],[],[]⟩
def Bw (bo:ByteArray) (_p0_1:Int) (_p0_2:Nat) (_p0_3:ByteArray) (c0:Value):Prop:=
 (aa pg X0 w0 (bb 9 c0) fun a=>
 aa pg X0 w0 (aJ .eql 9 (.tmp 5) (.tmp 6) (.string bo) a) fun b=>
 (fin R X0 w0 b))
noncomputable def wz:bG:=⟨19,[],[],[0,1,4,5,7,8,9,16],[],[8]⟩
def oS (p0:Value) (p1:ByteArray):Prop:=
 (aa pg X0 w0 (cK 36 3 p0) fun a=>
 (jw X0 w0 (I 0) 8 fun b c d e g=>
 aa pg g e (binOp .lss 3 d a) fun h=>
 (ao h
 (((aa pg g e (dD 36 1 p0 d) fun i=>
 aa pg g e (bb 9 i) fun j=>
 aa pg g e (aJ .eql 9 (.tmp 11) (.tmp 15) (.string p1) j) fun k=>
 (ao k
 (fin R g e d)
 (((aa pg g e (binOp .add 3 d (I 1)) fun l=>
 jx b c l e g)))))))
 ((((fin R g e (I (-1)))))))))
noncomputable def Hi:bG:=⟨41,[(6,(pg.cellsOf 35)),(8,(pg.cellsOf 266)),(9,(pg.cellsOf 266)),(11,(pg.cellsOf 337))],[27,33,35,37,38],[0,1,2,3,19,20,21,22,32],[26,28,29,30,31],[9,21]⟩
def yc (p0:Value) (p1:ByteArray) (tT tU tV:Int) (p3:Bool):Prop:=
 (aa pg X0 w0 (ez 266 #[(.string p1),(I 0),(.float .f64 0),(.string ⟨#[]⟩),(I 0),(I 0),(I 0)] #[(0,(.string p1))]) fun a=>
 un (aF (ad a)) fun b=>
 bq (az (af (ad a))==7) (bq (aW (af (ad a)) one) ((ay pg X0 w0 (aE p0) fun c=>
 aa pg X0 w0 (aS 382 0 0 1 c) fun d=>
 aa pg X0 w0 (bb 379 d) fun e=>
 aa pg X0 w0 (dR 379 e (.string p1) false) fun g=>
 aa pg X0 w0 (cK 286 3 g) fun h=>
 (jA X0 w0 (I 0) b 21 9 fun i j k l m n=>
 aa pg n m (binOp .lss 3 k h) fun o=>
 (ao o
 (((jn (fun (q:Value) (r:World) (s:XS)=>
 (aa pg s r (binOp .add 3 k (I 1)) fun t=>
 jB i j t q r s)) fun v=>
 aa pg n m (dD 286 6 g k) fun y=>
 aa pg n m (gy 337 6 y) fun z=>
 un (aF (ad z)) fun A=>
 bq (az (af (ad z))==6) (bq (aW (af (ad z)) one) ((bq (dO A) (un (ef A 0 3) fun C=>
 un (aO (B p3) false C) fun D=>
 un (aO (B p3) false (.agg #[(I tT),(I tU),(I tV)])) fun E=>
 jn (fun (F:Value) (G:World) (H:XS)=>
 aD pg H G (B p3) false (vS (binOp .leq 3 F (I 0))) fun L=>
 ay pg H G (aR (B p3) (B true) L) fun M=>
 (ao M
 (bq (dO A) (bq (dO l) (un (ef A 3 3) fun N=>
 un (aF (bh (b8 (af (ad l)) 1 (af (ad N))))) fun O=>
 bq (az (af (ad N))==3) (bq (aW (af (ad N)) one) (un (aF (bh (b8 (af (ad O)) 4 (af (ad C))))) fun Q=>
 bq (az (af (ad C))==3) (bq (aW (af (ad C)) one) (v Q G H)))))))
 (v l G H))) fun S=>
 (gE (B p3) false (eC pg R n m true 53 #[D,E] S) (S undef m n)))))))))
 (((bq (dO l) (un (ef l 0 7) fun T=>
 un (aF (ad T)) fun U=>
 bq (az (af (ad T))==7) (bq (aW (af (ad T)) one) (un (ef U 0 7) fun V=>
 bq (aW [U] dO) (fin R n m V)))))))))))))
def lp (p0 p1:Value):Prop:=
 (aa pg X0 w0 (cK 23 3 p0) fun a=>
 (jw X0 w0 (I 0) 8 fun b c d e g=>
 aa pg g e (binOp .lss 3 d a) fun h=>
 (ao h
 (((aa pg g e (dD 23 4 p0 d) fun i=>
 aa pg g e (gy 53 4 i) fun j=>
 eF pg R g e true p1 #[j] fun k l m=>
 (ao k
 (fin R m l d)
 (((aa pg m l (binOp .add 3 d (I 1)) fun n=>
 jx b c n l m)))))))
 ((((fin R g e (I (-1)))))))))
noncomputable def Og:bG:=⟨63,[(3,(pg.cellsOf 53))],[17,30,31,35,37,52],[0,1,4,5,6,20,33,55],[11,12,13,14,15,16,18,19,46,47,48,49,50,51,53,54],[5,6]⟩
def CA (p0:Value) (cZ:ByteArray) (dp:Int) (du:Nat) (iH:ByteArray):Prop:=
 (((jA X0 w0 (I 0) (.slice none 0 0) 6 5 fun a b c d e g=>
 aa pg g e (cK 54 3 p0) fun h=>
 aa pg g e (binOp .lss 3 c h) fun i=>
 un (aO i true p0) fun j=>
 un (aO i true c) fun k=>
 aD pg g e i true (vS (dD 54 4 j k)) fun l=>
 aD pg g e i true (vS (aS 74 0 0 1 l)) fun m=>
 aD pg g e i true (vS (bb 9 m)) fun n=>
 un (aO i true (.string cZ)) fun o=>
 aD pg g e i true (vS (binOp .lss 9 n o)) fun q=>
 ay pg g e (aR i q (B false)) fun r=>
 (ao r
 ((aa pg g e (dD 54 4 p0 c) fun s=>
 aa pg g e (gy 74 4 s) fun t=>
 eV pg R g e true (gU 54 74 4 1 #[(0,t)]) fun v y z=>
 eV pg R z y true (gH 54 74 4 48 54 d v) fun A C D=>
 (aa pg D C (binOp .add 3 c (I 1)) fun E=>
 (jB a b E A C D))))
 ((((jn (fun (F:Value) (G:World) (H:XS)=>
 (jn (fun (L:Value)=>
 aa pg H G (cp 54 p0 (some L) none none) fun M=>
 eV pg R H G true (gH 54 74 4 48 54 F M) fun N O Q=>
 (fin R Q O N)) fun S=>
 aa pg H G (cK 54 3 p0) fun T=>
 aa pg H G (binOp .lss 3 c T) fun U=>
 un (aO U true p0) fun V=>
 un (aO U true c) fun Y=>
 aD pg H G U true (vS (dD 54 4 V Y)) fun Z=>
 aD pg H G U true (vS (aS 74 0 0 1 Z)) fun a0=>
 aD pg H G U true (vS (bb 9 a0)) fun b0=>
 un (aO U true (.string cZ)) fun c0=>
 aD pg H G U true (vS (aJ .eql 9 (.tmp 51) (.tmp 53) b0 c0)) fun d0=>
 ay pg H G (aR U d0 (B false)) fun e0=>
 (ao e0
 (aa pg H G (binOp .add 3 c (I 1)) fun g0=>
 (S g0))
 (S c)))) fun h0=>
 aa pg g e (aJ .neq 3 (.tmp 32) (.const (I 0)) (I dp) (I 0)) fun i0=>
 (ao i0
 (aa pg g e (ez 74 #[(.string cZ),(I dp),(.float .f64 du),(.string iH)] #[(0,(.string cZ)),(1,(.agg #[(I dp),(.float .f64 du),(.string iH)]))]) fun j0=>
 eV pg R g e true (gU 54 74 4 1 #[(0,j0)]) fun k0 l0 m0=>
 eV pg R m0 l0 true (gH 54 74 4 48 54 d k0) fun n0 o0 q0=>
 (h0 n0 o0 q0))
 (h0 d e g))))))))))
noncomputable def P6:bG:=⟨10,[],[],[0,1,4],[],[]⟩
def DY (p0 p1:Nat):Prop:=
 (eC pg R X0 w0 true 111 #[(.float .f64 p0)] fun a b c=>
 eC pg R c b true 111 #[(.float .f64 p1)] fun d e g=>
 aa pg g e (aJ .eql 196 (.tmp 6) (.tmp 8) a d) fun h=>
 (fin R g e h))
noncomputable def IL:bG:=⟨26,[(2,(pg.cellsOf 35)),(3,(pg.cellsOf 35))],[6,8,13,15,20,22],[0,1,4,5,12,19],[],[]⟩
def yS (bo bA bD cZ dp du:Int):Prop:=
 (eC pg R X0 w0 true 119 #[(I bo),(I cZ)] fun a b c=>
 ((jn (fun (d:Value) (e:World) (g:XS)=>
 (jn (fun (h:Value) (i:World) (j:XS)=>
 (fin R j i h)) fun k=>
 aa pg g e (aJ .eql 3 (.tmp 18) (.const (I 0)) d (I 0)) fun l=>
 (ao l
 (eC pg R g e true 119 #[(I bD),(I du)] fun m n o=>
 (k m n o))
 (k d e g)))) fun q=>
 aa pg c b (aJ .eql 3 (.tmp 11) (.const (I 0)) a (I 0)) fun r=>
 (ao r
 (eC pg R c b true 119 #[(I bA),(I dp)] fun s t v=>
 (q s t v))
 (q a b c)))))
noncomputable def W2:bG:=⟨11,[],[],[0,2],[6,7,8,9],[]⟩
def Kx (p0:ByteArray):Prop:=
 (aa pg X0 w0 (lJ 9 3 (.string p0)) fun a=>
 aa pg X0 w0 (binOp .geq 3 a (I 1)) fun b=>
 un (aO b true (.string p0)) fun c=>
 aD pg X0 w0 b true (vS (lJ 9 3 c)) fun d=>
 aD pg X0 w0 b true (vS (binOp .leq 3 d (I 20))) fun e=>
 ay pg X0 w0 (aR b e (B false)) fun g=>
 (fin R X0 w0 g))
noncomputable def YE:bG:=⟨24,[],[],[0,1,4,5,6,14],[9,10,11,12,17,18,19],[]⟩
def MY (p0:ByteArray) (p1:Int):Prop:=
 (aa pg X0 w0 (aJ .eql 9 (.tmp 7) (.const (.string { data:= #[] })) (.string p0) (.string { data:= #[] })) fun a=>
 un (aO a false (.string p0)) fun b=>
 aD pg X0 w0 a false (vS (lJ 9 3 b)) fun c=>
 aD pg X0 w0 a false (vS (binOp .gtr 3 c (I 11))) fun d=>
 ay pg X0 w0 (aR a (B true) d) fun e=>
 (ao e
 ((fin R X0 w0 (ax #[(.string { data:= #[] }),(I 10)])))
 (aa pg X0 w0 (binOp .lss 3 (I p1) (I 1)) fun g=>
 un (aO g false (I p1)) fun h=>
 aD pg X0 w0 g false (vS (binOp .gtr 3 h (I 99999999))) fun i=>
 ay pg X0 w0 (aR g (B true) i) fun j=>
 (ao j
 ((fin R X0 w0 (ax #[(.string { data:= #[] }),(I 1)])))
 (((eC pg R X0 w0 true 106 #[(.string p0),(I p1)] fun k l m=>
 (fin R m l (ax #[k,(I 0)])))))))))
def Bx (p0:Value):Prop:=
 (ay pg X0 w0 (aE p0) fun a=>
 aa pg X0 w0 (aS 106 4 4 1 a) fun b=>
 aa pg X0 w0 (bb 4 b) fun c=>
 (fin R X0 w0 c))
noncomputable def Ts:bG:=⟨54,[],[],[0,1,4,5,7,28,34,35,36,37,45],[14,15,16,17,18,19,20,22,23,24,25,26,27,42,43,44],[5,36]⟩
def H6 (p0 p1:ByteArray):Prop:=
 (aa pg X0 w0 (lJ 9 3 (.string p1)) fun a=>
 aa pg X0 w0 (lJ 9 3 (.string p0)) fun b=>
 aa pg X0 w0 (binOp .add 3 b (I 9)) fun c=>
 aa pg X0 w0 (aJ .neq 3 (.tmp 9) (.tmp 12) a c) fun d=>
 un (aO d false (.string p1)) fun e=>
 un (aO d false (.string p0)) fun g=>
 aD pg X0 w0 d false (vS (lJ 9 3 g)) fun h=>
 aD pg X0 w0 d false (vS (cp 9 e none (some h) none)) fun i=>
 aD pg X0 w0 d false (vS (aJ .neq 9 (.tmp 18) (.tmp 19) i g)) fun j=>
 ay pg X0 w0 (aR d (B true) j) fun k=>
 un (aO k false (.string p1)) fun l=>
 un (aO k false (.string p0)) fun m=>
 aD pg X0 w0 k false (vS (lJ 9 3 m)) fun n=>
 aD pg X0 w0 k false (vS (Instr.index 9 l n)) fun o=>
 aD pg X0 w0 k false (vS (aJ .neq 5 (.tmp 26) (.const (aC cE 46)) o (aC cE 46))) fun q=>
 ay pg X0 w0 (aR k (B true) q) fun r=>
 (ao r
 (fin R X0 w0 (I 0))
 (((aa pg X0 w0 (lJ 9 3 (.string p0)) fun s=>
 aa pg X0 w0 (binOp .add 3 s (I 1)) fun t=>
 aa pg X0 w0 (cp 9 (.string p1) (some t) none none) fun v=>
 eV pg R X0 w0 true (convert 9 95 v) fun y z A=>
 aa pg A z (cK 95 3 y) fun C=>
 (jA A z (I 0) (I 0) 36 5 fun D E F G H L=>
 aa pg L H (binOp .lss 3 F C) fun M=>
 (ao M
 ((aa pg L H (dD 95 1 y F) fun N=>
 aa pg L H (bb 5 N) fun O=>
 (aa pg L H (binOp .lss 5 O (aC cE 48)) fun Q=>
 un (aO Q false O) fun S=>
 aD pg L H Q false (vS (binOp .gtr 5 S (aC cE 57))) fun T=>
 ay pg L H (aR Q (B true) T) fun U=>
 (ao U
 (fin R L H (I 0))
 ((aa pg L H (binOp .mul 3 G (I 10)) fun V=>
 aa pg L H (binOp .sub 5 O (aC cE 48)) fun Y=>
 aa pg L H (kV IntKind.i64 5 3 Y) fun Z=>
 aa pg L H (binOp .add 3 V Z) fun a0=>
 ((aa pg L H (binOp .add 3 F (I 1)) fun b0=>
 jB D E b0 a0 H L))))))))
 (fin R L H G))))))))
noncomputable def P7:bG:=⟨96,[],[],[0,1,2,6,7,8,9,11,13,14,21,67],[54,55,56,57,58,59,60,61,62,63,64,65,66],[]⟩
def DK (p0:Value) (p1:Int) (p2:ByteArray):Prop:=
 ((jn (fun (a:World) (b:XS)=>
 ay pg b a (aE p0) fun c=>
 aa pg b a (aS 158 0 0 1 c) fun d=>
 aa pg b a (bb 26 d) fun e=>
 eC pg R b a true 138 #[e,(.string p2)] fun g h i=>
 aa pg i h (aH g 0) fun j=>
 aa pg i h (aH g 1) fun _=>
 (eC pg R i h true 139 #[j] fun k l m=>
 aa pg m l (aH k 0) fun n=>
 aa pg m l (aH k 1) fun o=>
 (ay pg m l (aE p0) fun q=>
 aa pg m l (aS 158 3 3 1 q) fun r=>
 aa pg m l (bb 156 r) fun s=>
 aa pg m l (ez 163 #[(I p1),n,o] #[(0,(I p1)),(1,n),(2,o)]) fun t=>
 eV pg R m l true (dx 163 t) fun v y z=>
 eV pg R z y true (gU 156 164 1 1 #[(0,v)]) fun A C D=>
 eV pg R D C true (gH 156 164 1 8 156 s A) fun E F G=>
 ay pg G F (aE p0) fun H=>
 aa pg G F (aS 158 3 3 1 H) fun L=>
 eU pg R G F true (dV 156 1 L E) fun _ M N=>
 (fin R N M (I 0))))) fun O=>
 ay pg X0 w0 (aE p0) fun Q=>
 aa pg X0 w0 (aS 158 3 3 1 Q) fun S=>
 aa pg X0 w0 (bb 156 S) fun T=>
 aa pg X0 w0 (cK 156 3 T) fun U=>
 (aa pg X0 w0 (binOp .gtr 3 U (I 0)) fun V=>
 (ao V
 (ay pg X0 w0 (aE p0) fun Y=>
 aa pg X0 w0 (aS 158 3 3 1 Y) fun Z=>
 aa pg X0 w0 (bb 156 Z) fun a0=>
 aa pg X0 w0 (binOp .sub 3 U (I 1)) fun b0=>
 aa pg X0 w0 (dD 156 1 a0 b0) fun c0=>
 aa pg X0 w0 (bb 164 c0) fun d0=>
 (ay pg X0 w0 (aE p0) fun e0=>
 aa pg X0 w0 (aS 158 0 0 1 e0) fun g0=>
 aa pg X0 w0 (bb 26 g0) fun h0=>
 ay pg X0 w0 (aE p0) fun i0=>
 aa pg X0 w0 (aS 158 1 1 1 i0) fun j0=>
 aa pg X0 w0 (bb 9 j0) fun k0=>
 ay pg X0 w0 (aE d0) fun l0=>
 aa pg X0 w0 (aS 163 0 0 1 l0) fun m0=>
 aa pg X0 w0 (bb 3 m0) fun n0=>
 eC pg R X0 w0 false 106 #[k0,n0] fun o0 q0 r0=>
 eC pg R r0 q0 true 138 #[h0,o0] fun s0 t0 v0=>
 aa pg v0 t0 (aH s0 0) fun y0=>
 aa pg v0 t0 (aH s0 1) fun _=>
 (aa pg v0 t0 (cK 95 3 y0) fun z0=>
 ay pg v0 t0 (aE d0) fun A0=>
 aa pg v0 t0 (aS 163 2 2 1 A0) fun C0=>
 aa pg v0 t0 (bb 3 C0) fun D0=>
 aa pg v0 t0 (aJ .neq 3 (.tmp 48) (.tmp 52) z0 D0) fun E0=>
 un (aO E0 false (I p1)) fun F0=>
 un (aO E0 false d0) fun G0=>
 aD pg v0 t0 E0 false (aE G0) fun H0=>
 aD pg v0 t0 E0 false (vS (aS 163 0 0 1 H0)) fun L0=>
 aD pg v0 t0 E0 false (vS (bb 3 L0)) fun M0=>
 aD pg v0 t0 E0 false (aE G0) fun N0=>
 aD pg v0 t0 E0 false (vS (aS 163 1 1 1 N0)) fun O0=>
 aD pg v0 t0 E0 false (vS (bb 161 O0)) fun Q0=>
 aD pg v0 t0 E0 false (vS (cK 161 3 Q0)) fun S0=>
 aD pg v0 t0 E0 false (vS (binOp .add 3 M0 S0)) fun T0=>
 aD pg v0 t0 E0 false (vS (aJ .neq 3 (.tmp 55) (.tmp 65) F0 T0)) fun U0=>
 ay pg v0 t0 (aR E0 (B true) U0) fun V0=>
 (ao V0
 (fin R v0 t0 (I 13))
 (O t0 v0)))))
 (O w0 X0)))))
noncomputable def P8:bG:=⟨32,[],[],[0,1,4,5,18],[],[]⟩
def DZ (p0:Value) (p1:Int):Prop:=
 (ay pg X0 w0 (aE p0) fun a=>
 aa pg X0 w0 (aS 158 0 0 1 a) fun b=>
 aa pg X0 w0 (bb 26 b) fun c=>
 ay pg X0 w0 (aE p0) fun d=>
 aa pg X0 w0 (aS 158 1 1 1 d) fun e=>
 aa pg X0 w0 (bb 9 e) fun g=>
 eC pg R X0 w0 false 106 #[g,(I p1)] fun h i j=>
 eC pg R j i true 140 #[c,h] fun k l m=>
 ((jn (fun (n:World) (o:XS)=>
 (fin R o n k)) fun q=>
 aa pg m l (aJ .eql 29 (.tmp 17) (.const (I 0)) k (I 0)) fun r=>
 (ao r
 (ay pg m l (aE p0) fun s=>
 aa pg m l (aS 158 3 3 1 s) fun t=>
 aa pg m l (bb 156 t) fun v=>
 aa pg m l (ez 163 #[(I p1),(.slice none 0 0),(I 0)] #[(0,(I p1))]) fun y=>
 eV pg R m l true (dx 163 y) fun z A C=>
 eV pg R C A true (gU 156 164 1 1 #[(0,z)]) fun D E F=>
 eV pg R F E true (gH 156 164 1 8 156 v D) fun G H L=>
 ay pg L H (aE p0) fun M=>
 aa pg L H (aS 158 3 3 1 M) fun N=>
 eU pg R L H true (dV 156 1 N G) fun _ O Q=>
 (q O Q))
 (q l m)))))
def DL (p0:Value):Prop:=
 (eC pg R X0 w0 true 85 #[p0] fun a b c=>
 (ay pg c b (aE p0) fun d=>
 aa pg c b (aS 158 1 1 1 d) fun e=>
 aa pg c b (bb 9 e) fun g=>
 ay pg c b (aE a) fun h=>
 aa pg c b (aS 163 0 0 1 h) fun i=>
 aa pg c b (bb 3 i) fun j=>
 eC pg R c b true 106 #[g,j] fun k l m=>
 ((jn (fun (n:World) (o:XS)=>
 eC pg R o n true 104 #[p0] fun q r s=>
 (fin R s r q)) fun t=>
 ay pg m l (aE p0) fun v=>
 aa pg m l (aS 158 0 0 1 v) fun y=>
 aa pg m l (bb 26 y) fun z=>
 eC pg R m l true 138 #[z,k] fun A C D=>
 aa pg D C (aH A 0) fun E=>
 aa pg D C (aH A 1) fun _=>
 (aa pg D C (cK 95 3 E) fun F=>
 ay pg D C (aE a) fun G=>
 aa pg D C (aS 163 2 2 1 G) fun H=>
 aa pg D C (bb 3 H) fun L=>
 aa pg D C (binOp .gtr 3 F L) fun M=>
 (ao M
 (ay pg D C (aE p0) fun N=>
 aa pg D C (aS 158 0 0 1 N) fun O=>
 aa pg D C (bb 26 O) fun Q=>
 ay pg D C (aE a) fun S=>
 aa pg D C (aS 163 2 2 1 S) fun T=>
 aa pg D C (bb 3 T) fun U=>
 eC pg R D C true 141 #[Q,k,U] fun V Y Z=>
 (aa pg Z Y (aJ .neq 29 (.tmp 45) (.const (I 0)) V (I 0)) fun a0=>
 (ao a0
 (fin R Z Y V)
 (t Y Z))))
 (t C D)))))))
def D6 (p0:Value):Prop:=
 (ay pg X0 w0 (aE p0) fun a=>
 aa pg X0 w0 (aS 158 3 3 1 a) fun b=>
 aa pg X0 w0 (bb 156 b) fun c=>
 ay pg X0 w0 (aE p0) fun d=>
 aa pg X0 w0 (aS 158 3 3 1 d) fun e=>
 aa pg X0 w0 (bb 156 e) fun g=>
 aa pg X0 w0 (cK 156 3 g) fun h=>
 aa pg X0 w0 (binOp .sub 3 h (I 1)) fun i=>
 aa pg X0 w0 (dD 156 1 c i) fun j=>
 aa pg X0 w0 (bb 164 j) fun k=>
 (fin R X0 w0 k))
noncomputable def Tt:bG:=⟨52,[],[],[0,1,4,5,23],[],[5]⟩
def H8 (p0:Value) (p1:Int):Prop:=
 (ay pg X0 w0 (aE p0) fun a=>
 aa pg X0 w0 (aS 158 3 3 1 a) fun b=>
 aa pg X0 w0 (bb 156 b) fun c=>
 aa pg X0 w0 (cK 156 3 c) fun d=>
 aa pg X0 w0 (binOp .sub 3 d (I 1)) fun e=>
 (jw X0 w0 e 5 fun g h i j k=>
 ay pg k j (aE p0) fun l=>
 aa pg k j (aS 158 3 3 1 l) fun m=>
 aa pg k j (bb 156 m) fun n=>
 aa pg k j (dD 156 1 n i) fun o=>
 aa pg k j (bb 164 o) fun q=>
 ay pg k j (aE q) fun r=>
 aa pg k j (aS 163 0 0 1 r) fun s=>
 aa pg k j (bb 3 s) fun t=>
 aa pg k j (binOp .gtr 3 t (I p1)) fun v=>
 (ao v
 ((aa pg k j (binOp .sub 3 i (I 1)) fun y=>
 (jx g h y j k)))
 (((ay pg k j (aE p0) fun z=>
 aa pg k j (aS 158 3 3 1 z) fun A=>
 aa pg k j (bb 156 A) fun C=>
 aa pg k j (dD 156 1 C i) fun D=>
 aa pg k j (bb 164 D) fun E=>
 ay pg k j (aE E) fun F=>
 aa pg k j (aS 163 1 1 1 F) fun G=>
 aa pg k j (bb 161 G) fun H=>
 ay pg k j (aE p0) fun L=>
 aa pg k j (aS 158 3 3 1 L) fun M=>
 aa pg k j (bb 156 M) fun N=>
 aa pg k j (dD 156 1 N i) fun O=>
 aa pg k j (bb 164 O) fun Q=>
 ay pg k j (aE Q) fun S=>
 aa pg k j (aS 163 0 0 1 S) fun T=>
 aa pg k j (bb 3 T) fun U=>
 aa pg k j (binOp .sub 3 (I p1) U) fun V=>
 aa pg k j (dD 161 1 H V) fun Y=>
 aa pg k j (bb 95 Y) fun Z=>
 eV pg R k j false (gU 95 5 1 0 #[]) fun a0 b0 c0=>
 eV pg R c0 b0 true (gH 95 5 1 1 95 a0 Z) fun d0 e0 g0=>
 (fin R g0 e0 d0)))))))
def By (p0:Value):Prop:=
 (eV pg R X0 w0 true (gU 95 5 1 0 #[]) fun a b c=>
 eV pg R c b true (gH 95 5 1 1 95 a p0) fun d e g=>
 aa pg g e (ez 223 #[d,(I 0),(I 0),(I 0)] #[(0,d)]) fun h=>
 eV pg R g e true (dx 223 h) fun i j k=>
 (fin R k j i))
def qw (p0 p1:Value):Prop:=
 ay pg X0 w0 (aE p1) fun a=>
 aa pg X0 w0 (aS 117 0 0 1 a) fun b=>
 eC pg R X0 w0 true 142 #[p0,b] fun _ c d=>
 (ay pg d c (aE p1) fun e=>
 aa pg d c (aS 117 0 0 1 e) fun g=>
 aa pg d c (bb 3 g) fun h=>
 ((jn (fun (i:World) (j:XS)=>
 fin R j i (ax #[])) fun k=>
 aa pg d c (aJ .eql 3 (.tmp 13) (.const (I 1)) h (I 1)) fun l=>
 (ao l
 (ay pg d c (aE p1) fun m=>
 aa pg d c (aS 117 11 17 12 m) fun n=>
 eC pg R d c true 143 #[p0,n] fun _ o q=>
 (k o q))
 ((jn (fun (r:Value)=>
 ao r
 (ay pg d c (aE p1) fun s=>
 aa pg d c (aS 117 5 11 1 s) fun t=>
 eC pg R d c true 142 #[p0,t] fun _ v y=>
 (k v y))
 (aa pg d c (aJ .eql 3 (.tmp 13) (.const (I 3)) h (I 3)) fun z=>
 (ao z
 (ay pg d c (aE p1) fun A=>
 aa pg d c (aS 117 1 1 3 A) fun C=>
 aa pg d c (gy 33 3 C) fun D=>
 ay pg d c (aE p1) fun E=>
 aa pg d c (aS 117 2 4 3 E) fun F=>
 aa pg d c (gy 35 3 F) fun G=>
 ay pg d c (aE p1) fun H=>
 aa pg d c (aS 117 7 13 1 H) fun L=>
 aa pg d c (bb 36 L) fun M=>
 ay pg d c (aE p1) fun N=>
 aa pg d c (aS 117 8 14 1 N) fun O=>
 aa pg d c (bb 23 O) fun Q=>
 un (cellOf D 0) fun S=>
 un (cellOf D 1) fun T=>
 un (cellOf D 2) fun U=>
 un (cellOf G 0) fun V=>
 un (cellOf G 1) fun Y=>
 un (cellOf G 2) fun Z=>
 aa pg d c (ez 229 #[S,T,U,V,Y,Z,M,Q] #[(0,D),(1,G),(2,M),(3,Q)]) fun a0=>
 eV pg R d c false (Instr.alloc 229 true (ax #[])) fun b0 c0 d0=>
 eU pg R d0 c0 true (dV 229 8 b0 a0) fun _ e0 g0=>
 (eC pg R g0 e0 true 144 #[p0,b0] fun _ h0 i0=>
 (aa pg i0 h0 (aS 229 0 0 3 b0) fun j0=>
 aa pg i0 h0 (gy 33 3 j0) fun k0=>
 aa pg i0 h0 (aS 229 1 3 3 b0) fun l0=>
 aa pg i0 h0 (gy 35 3 l0) fun m0=>
 aa pg i0 h0 (aS 229 2 6 1 b0) fun n0=>
 aa pg i0 h0 (bb 36 n0) fun o0=>
 aa pg i0 h0 (aS 229 3 7 1 b0) fun q0=>
 aa pg i0 h0 (bb 23 q0) fun r0=>
 ay pg i0 h0 (aE p1) fun s0=>
 aa pg i0 h0 (aS 117 1 1 3 s0) fun t0=>
 eU pg R i0 h0 true (dV 33 3 t0 k0) fun _ v0 y0=>
 ay pg y0 v0 (aE p1) fun z0=>
 aa pg y0 v0 (aS 117 2 4 3 z0) fun A0=>
 eU pg R y0 v0 true (dV 35 3 A0 m0) fun _ C0 D0=>
 ay pg D0 C0 (aE p1) fun E0=>
 aa pg D0 C0 (aS 117 7 13 1 E0) fun F0=>
 eU pg R D0 C0 true (dV 36 1 F0 o0) fun _ G0 H0=>
 ay pg H0 G0 (aE p1) fun L0=>
 aa pg H0 G0 (aS 117 8 14 1 L0) fun M0=>
 eU pg R H0 G0 true (dV 23 1 M0 r0) fun _ N0 O0=>
 (ay pg O0 N0 (aE p1) fun Q0=>
 aa pg O0 N0 (aS 117 9 15 1 Q0) fun S0=>
 aa pg O0 N0 (cx (fZ 142) #[p0] #[]) fun T0=>
 eC pg R O0 N0 true 145 #[p0,S0,T0] fun _ U0 V0=>
 (k U0 V0)))))
 (aa pg d c (aJ .eql 3 (.tmp 13) (.const (I 4)) h (I 4)) fun Y0=>
 (ao Y0
 (ay pg d c (aE p1) fun Z0=>
 aa pg d c (aS 117 1 1 3 Z0) fun a1=>
 eC pg R d c true 146 #[p0,a1] fun _ b1 c1=>
 (ay pg c1 b1 (aE p1) fun d1=>
 aa pg c1 b1 (aS 117 4 10 1 d1) fun e1=>
 eC pg R c1 b1 true 147 #[p0,e1] fun _ g1 h1=>
 (ay pg h1 g1 (aE p1) fun i1=>
 aa pg h1 g1 (aS 117 2 4 3 i1) fun j1=>
 eC pg R h1 g1 true 148 #[p0,j1] fun _ k1 l1=>
 (k k1 l1))))
 (aa pg d c (aJ .eql 3 (.tmp 13) (.const (I 5)) h (I 5)) fun m1=>
 (ao m1
 (ay pg d c (aE p1) fun n1=>
 aa pg d c (aS 117 2 4 3 n1) fun o1=>
 eC pg R d c true 148 #[p0,o1] fun _ q1 r1=>
 (k q1 r1))
 (aa pg d c (aJ .eql 3 (.tmp 13) (.const (I 6)) h (I 6)) fun s1=>
 (ao s1
 (ay pg d c (aE p1) fun t1=>
 aa pg d c (aS 117 6 12 1 t1) fun v1=>
 eC pg R d c true 149 #[p0,v1] fun _ y1 z1=>
 (ay pg z1 y1 (aE p1) fun A1=>
 aa pg z1 y1 (aS 117 5 11 1 A1) fun C1=>
 eC pg R z1 y1 true 142 #[p0,C1] fun _ D1 E1=>
 (ay pg E1 D1 (aE p1) fun F1=>
 aa pg E1 D1 (aS 117 2 4 3 F1) fun G1=>
 eC pg R E1 D1 true 148 #[p0,G1] fun _ H1 L1=>
 (k H1 L1))))
 (aa pg d c (aJ .eql 3 (.tmp 13) (.const (I 9)) h (I 9)) fun M1=>
 (ao M1
 (ay pg d c (aE p1) fun N1=>
 aa pg d c (aS 117 1 1 3 N1) fun O1=>
 eC pg R d c true 146 #[p0,O1] fun _ Q1 S1=>
 (ay pg S1 Q1 (aE p1) fun T1=>
 aa pg S1 Q1 (aS 117 2 4 3 T1) fun U1=>
 eC pg R S1 Q1 true 148 #[p0,U1] fun _ V1 Y1=>
 (ay pg Y1 V1 (aE p1) fun Z1=>
 aa pg Y1 V1 (aS 117 9 15 1 Z1) fun a2=>
 aa pg Y1 V1 (cx (fZ 142) #[p0] #[]) fun b2=>
 eC pg R Y1 V1 true 145 #[p0,a2,b2] fun _ c2 d2=>
 (k c2 d2))))
 (aa pg d c (aJ .eql 3 (.tmp 13) (.const (I 10)) h (I 10)) fun e2=>
 (ao e2
 (ay pg d c (aE p1) fun g2=>
 aa pg d c (aS 117 1 1 3 g2) fun h2=>
 eC pg R d c true 146 #[p0,h2] fun _ i2 j2=>
 (k i2 j2))
 (aa pg d c (aJ .eql 3 (.tmp 13) (.const (I 11)) h (I 11)) fun k2=>
 (ao k2
 (ay pg d c (aE p1) fun l2=>
 aa pg d c (aS 117 3 7 3 l2) fun m2=>
 eC pg R d c true 148 #[p0,m2] fun _ n2 o2=>
 (ay pg o2 n2 (aE p1) fun q2=>
 aa pg o2 n2 (aS 117 2 4 3 q2) fun r2=>
 eC pg R o2 n2 true 148 #[p0,r2] fun _ s2 t2=>
 (ay pg t2 s2 (aE p1) fun v2=>
 aa pg t2 s2 (aS 117 1 1 3 v2) fun y2=>
 eC pg R t2 s2 true 146 #[p0,y2] fun _ z2 A2=>
 (ay pg A2 z2 (aE p1) fun C2=>
 aa pg A2 z2 (aS 117 8 14 1 C2) fun D2=>
 aa pg A2 z2 (cx (fZ 151) #[p0] #[]) fun E2=>
 eC pg R A2 z2 true 150 #[p0,D2,E2] fun _ F2 G2=>
 (k F2 G2)))))
 (aa pg d c (aJ .eql 3 (.tmp 13) (.const (I 12)) h (I 12)) fun H2=>
 (ao H2
 (ay pg d c (aE p1) fun L2=>
 aa pg d c (aS 117 2 4 3 L2) fun M2=>
 eC pg R d c true 148 #[p0,M2] fun _ N2 O2=>
 (ay pg O2 N2 (aE p1) fun Q2=>
 aa pg O2 N2 (aS 117 10 16 1 Q2) fun S2=>
 aa pg O2 N2 (cx (fZ 153) #[p0] #[]) fun T2=>
 eC pg R O2 N2 true 152 #[p0,S2,T2] fun _ U2 V2=>
 (k U2 V2)))
 (k c d)))))))))))))))))) fun Y2=>
 aa pg d c (aJ .eql 3 (.tmp 13) (.const (I 2)) h (I 2)) fun Z2=>
 (ao Z2
 (Y2 Z2)
 (aa pg d c (aJ .eql 3 (.tmp 13) (.const (I 7)) h (I 7)) fun a3=>
 (ao a3
 (Y2 a3)
 (aa pg d c (aJ .eql 3 (.tmp 13) (.const (I 8)) h (I 8)) fun b3=>
 (Y2 b3)))))))))))
def Ay (p0:Value):Prop:=
 (ay pg X0 w0 (aE p0) fun a=>
 aa pg X0 w0 (aS 223 2 2 1 a) fun b=>
 aa pg X0 w0 (bb 29 b) fun c=>
 aa pg X0 w0 (aJ .eql 29 (.tmp 7) (.const (I 0)) c (I 0)) fun d=>
 un (aO d true p0) fun e=>
 aD pg X0 w0 d true (aE e) fun g=>
 aD pg X0 w0 d true (vS (aS 223 1 1 1 g)) fun h=>
 aD pg X0 w0 d true (vS (bb 3 h)) fun i=>
 aD pg X0 w0 d true (aE e) fun j=>
 aD pg X0 w0 d true (vS (aS 223 0 0 1 j)) fun k=>
 aD pg X0 w0 d true (vS (bb 95 k)) fun l=>
 aD pg X0 w0 d true (vS (cK 95 3 l)) fun m=>
 aD pg X0 w0 d true (vS (binOp .lss 3 i m)) fun n=>
 ay pg X0 w0 (aR d n (B false)) fun o=>
 (ao o
 (ay pg X0 w0 (aE p0) fun q=>
 aa pg X0 w0 (aS 223 1 1 1 q) fun r=>
 aa pg X0 w0 (bb 3 r) fun s=>
 (fin R X0 w0 (ax #[(I 6),s])))
 ((eC pg R X0 w0 true 154 #[p0] fun t v y=>
 aa pg y v (aH t 0) fun z=>
 aa pg y v (aH t 1) fun A=>
 (fin R y v (ax #[z,A]))))))
noncomputable def Rt:bG:=⟨23,[],[],[0,1,2,3,4,5,6,10,21],[],[]⟩
def uj (bo bA bD cg cy cz cA cI dB dq:Int) (cj:Bool) (cd:Int) (dv:Nat) (dh da dc dk:Value) (dr cO:Int) (cL cP:Nat) (cQ cR dd cS cV cW:Int) (cX cY:Value):Prop:=
 eV pg R X0 w0 true (dx 117 (.agg #[(I bo),(I bA),(I bD),(I cg),(I cy),(I cz),(I cA),(I cI),(I dB),(I dq),(B cj),(I cd),(.float .f64 dv),dh,da,dc,dk,(I dr),(I cO),(.float .f64 cL),(.float .f64 cP),(I cQ),(I cR),(I dd),(I cS),(I cV),(I cW),cX,cY])) fun a b c=>
 (aa pg c b (gy 117 29 a) fun d=>
 eC pg R c b true 155 #[d] fun e g h=>
 (aa pg h g (aJ .neq 29 (.tmp 9) (.const (I 0)) e (I 0)) fun i=>
 (ao i
 ((fin R h g (ax #[(.slice none 0 0),e])))
 ((eC pg R h g true 156 #[] fun j k l=>
 (aa pg l k (ez 175 #[j,(.pointer none)] #[(0,j)]) fun m=>
 eV pg R l k true (dx 175 m) fun n o q=>
 eC pg R q o true 89 #[n,a] fun _ r s=>
 (eC pg R s r true 157 #[j] fun t v y=>
 (aa pg y v (cK 95 3 t) fun z=>
 aa pg y v (binOp .gtr 3 z (I 262144)) fun A=>
 (ao A
 ((fin R y v (ax #[(.slice none 0 0),(I 2)])))
 (((fin R y v (ax #[t,(I 0)])))))))))))))
def Fg (p0 p1:Value):Prop:=
 (eV pg R X0 w0 true (convert 95 9 p0) fun a b c=>
 eV pg R c b true (convert 95 9 p1) fun d e g=>
 aa pg g e (aJ .eql 9 (.tmp 6) (.tmp 8) a d) fun h=>
 (fin R g e h))
def iw (p0 p1 p2:Value):Prop:=
 (aa pg X0 w0 (cK 54 3 p0) fun a=>
 aa pg X0 w0 (cK 54 3 p1) fun b=>
 aa pg X0 w0 (aJ .neq 3 (.tmp 11) (.tmp 13) a b) fun c=>
 (ao c
 (fin R X0 w0 (B false))
 ((aa pg X0 w0 (cK 54 3 p0) fun d=>
 (jw X0 w0 (I 0) 17 fun e g h i j=>
 aa pg j i (binOp .lss 3 h d) fun k=>
 (ao k
 ((aa pg j i (dD 54 4 p0 h) fun l=>
 aa pg j i (gy 74 4 l) fun m=>
 un (aF (ad m)) fun n=>
 bq (az (af (ad m))==4) (bq (aW (af (ad m)) one) ((aa pg j i (dD 54 4 p1 h) fun o=>
 aa pg j i (gy 74 4 o) fun q=>
 un (aF (ad q)) fun r=>
 bq (az (af (ad q))==4) (bq (aW (af (ad q)) one) ((bq (dO n) (bq (dO r) (un (ef n 0 4) fun s=>
 un (ef r 0 4) fun t=>
 eF pg R j i true p2 #[s,t] fun v y z=>
 aa pg z y (bg bJ v) fun A=>
 (ao A
 (fin R z y (B false))
 (((aa pg z y (binOp .add 3 h (I 1)) fun C=>
 jx e g C y z))))))))))))))
 (fin R j i (B true))))))))
noncomputable def Hj:bG:=⟨17,[(2,(pg.cellsOf 74)),(3,(pg.cellsOf 74))],[5,7,11,13],[0,1,4],[10,12,14,15],[]⟩
def xF (bo:ByteArray) (bA:Int) (bD:Nat) (cg cZ:ByteArray) (dp:Int) (du:Nat) (iH:ByteArray):Prop:=
 (aa pg X0 w0 (aJ .eql 9 (.tmp 6) (.tmp 8) (.string bo) (.string cZ)) fun a=>
 un (aO a true (.agg #[(I bA),(.float .f64 bD),(.string cg)])) fun b=>
 un (aO a true (.agg #[(I dp),(.float .f64 du),(.string iH)])) fun c=>
 jn (fun (d:Value) (e:World) (g:XS)=>
 ay pg g e (aR a d (B false)) fun h=>
 (fin R g e h)) fun i=>
 (gE a true (eC pg R X0 w0 true 95 #[b,c] i) (i undef w0 X0)))
noncomputable def Tu:bG:=⟨17,[(2,(pg.cellsOf 51)),(3,(pg.cellsOf 51))],[],[0,1,4],[7,8,9,11,12,13,14,15],[]⟩
def H9 (bo:Int) (bA:Nat) (bD:ByteArray) (cZ:Int) (dp:Nat) (du:ByteArray):Prop:=
 (eC pg R X0 w0 true 158 #[(.agg #[(I bo),(.float .f64 bA),(.string bD)])] fun a b c=>
 un (aO a true (.agg #[(I cZ),(.float .f64 dp),(.string du)])) fun d=>
 jn (fun (e:Value) (g:World) (h:XS)=>
 ay pg h g (aR a e (B false)) fun i=>
 un (aO i true (.agg #[(I bo),(.float .f64 bA),(.string bD)])) fun j=>
 un (aO i true (.agg #[(I cZ),(.float .f64 dp),(.string du)])) fun k=>
 jn (fun (l:Value) (m:World) (n:XS)=>
 aD pg n m i true (vS (aJ .eql 3 (.tmp 14) (.const (I 0)) l (I 0))) fun o=>
 ay pg n m (aR i o (B false)) fun q=>
 (fin R n m q)) fun r=>
 (gE i true (eC pg R h g true 159 #[j,k] r) (r undef g h))) fun s=>
 (gE a true (eC pg R c b true 158 #[d] s) (s undef b c)))
noncomputable def P9:bG:=⟨98,[(1,(pg.cellsOf 48)),(2,(pg.cellsOf 48)),(4,(pg.cellsOf 35))],[6,13,14,15,16,17,22,23,24,25,26,27,32,33,34,35,36,37,38,43,44,45,46,47,52,53,54,55,60,61,65,66,67,68,71,72,73,77,78,81,87,88,89,90,96],[0,3,7,9,18,28,39,48,56,62,69,74,79,82,91,93],[],[]⟩
def yd (bo bA bD cg cy cz cA cI dB dq cj cd dv dh da:Int) (dc:Bool) (dk dr:Int) (cO cL cP cQ cR dd:Value) (cS cV:Int) (cW cX:Nat) (cY gk gm gn gp gq:Int) (gr gu:Value):Prop:=
 (aa pg X0 w0 (ez 35 #[(I 0),(I 0),(I 0)] #[]) fun a=>
 un (aF (ad a)) fun b=>
 bq (az (af (ad a))==3) (bq (aW (af (ad a)) one) ((((jn (fun (c:Value)=>
 (bq (dO c) (un (ef c 0 36) fun d=>
 un (aF (ad d)) fun e=>
 bq (az (af (ad d))==36) (bq (aW (af (ad d)) one) ((un (ef e 0 36) fun g=>
 bq (aW [e] dO) (fin R X0 w0 (ax #[g,(B true)])))))))) fun h=>
 aa pg X0 w0 (aJ .eql 3 (.tmp 7) (.const (I 1)) (I bo) (I 1)) fun i=>
 (ao i
 (aa pg X0 w0 (ez 33 #[(I 0),(I 0),(I 0)] #[]) fun j=>
 bq (dO b) (un (aF (bh (b8 [(I bo),(I bA),(I bD),(I cg),(I cy),(I cz),(I cA),(I cI),(I dB),(I dq),(I cj),(I cd),(I dv),(I dh),(I da),(B dc),(I dk),(I dr),cO,cL,cP,cQ,cR,dd,(I cS),(I cV),(.float .f64 cW),(.float .f64 cX),(I cY),(I gk),(I gm),(I gn),(I gp),(I gq),gr,gu] 3 (af (ad j))))) fun k=>
 bq (az (af (ad j))==3) (bq (aW (af (ad j)) one) (un (aF (bh (b8 (af (ad k)) 6 [(I 0)]))) fun l=>
 un (aF (bh (b8 (af (ad l)) 7 [(I 0)]))) fun m=>
 un (ef b 0 3) fun n=>
 un (aF (bh (b8 (af (ad m)) 9 (af (ad n))))) fun o=>
 bq (az (af (ad n))==3) (bq (aW (af (ad n)) one) (un (aF (bh (b8 (af (ad o)) 18 [(.slice none 0 0)]))) fun q=>
 (h q)))))))
 (aa pg X0 w0 (aJ .eql 3 (.tmp 7) (.const (I 2)) (I bo) (I 2)) fun r=>
 (ao r
 (aa pg X0 w0 (ez 33 #[(I 0),(I 0),(I 0)] #[]) fun s=>
 bq (dO b) (un (aF (bh (b8 [(I bo),(I bA),(I bD),(I cg),(I cy),(I cz),(I cA),(I cI),(I dB),(I dq),(I cj),(I cd),(I dv),(I dh),(I da),(B dc),(I dk),(I dr),cO,cL,cP,cQ,cR,dd,(I cS),(I cV),(.float .f64 cW),(.float .f64 cX),(I cY),(I gk),(I gm),(I gn),(I gp),(I gq),gr,gu] 3 (af (ad s))))) fun t=>
 bq (az (af (ad s))==3) (bq (aW (af (ad s)) one) (un (aF (bh (b8 (af (ad t)) 6 [(I 0)]))) fun v=>
 un (aF (bh (b8 (af (ad v)) 8 [(I 0)]))) fun y=>
 un (ef b 0 3) fun z=>
 un (aF (bh (b8 (af (ad y)) 9 (af (ad z))))) fun A=>
 bq (az (af (ad z))==3) (bq (aW (af (ad z)) one) (un (aF (bh (b8 (af (ad A)) 19 [(.slice none 0 0)]))) fun C=>
 un (aF (bh (b8 (af (ad C)) 22 [(.slice none 0 0)]))) fun D=>
 (h D)))))))
 (aa pg X0 w0 (aJ .eql 3 (.tmp 7) (.const (I 3)) (I bo) (I 3)) fun E=>
 (ao E
 (aa pg X0 w0 (ez 33 #[(I 0),(I 0),(I 0)] #[]) fun F=>
 bq (dO b) (un (aF (bh (b8 [(I bo),(I bA),(I bD),(I cg),(I cy),(I cz),(I cA),(I cI),(I dB),(I dq),(I cj),(I cd),(I dv),(I dh),(I da),(B dc),(I dk),(I dr),cO,cL,cP,cQ,cR,dd,(I cS),(I cV),(.float .f64 cW),(.float .f64 cX),(I cY),(I gk),(I gm),(I gn),(I gp),(I gq),gr,gu] 3 (af (ad F))))) fun G=>
 bq (az (af (ad F))==3) (bq (aW (af (ad F)) one) (un (aF (bh (b8 (af (ad G)) 6 [(I 0)]))) fun H=>
 un (aF (bh (b8 (af (ad H)) 7 [(I 0)]))) fun L=>
 un (ef b 0 3) fun M=>
 un (aF (bh (b8 (af (ad L)) 9 (af (ad M))))) fun N=>
 bq (az (af (ad M))==3) (bq (aW (af (ad M)) one) (un (aF (bh (b8 (af (ad N)) 19 [(.slice none 0 0)]))) fun O=>
 un (aF (bh (b8 (af (ad O)) 20 [(.slice none 0 0)]))) fun Q=>
 un (aF (bh (b8 (af (ad Q)) 21 [(.slice none 0 0)]))) fun S=>
 (h S)))))))
 (aa pg X0 w0 (aJ .eql 3 (.tmp 7) (.const (I 4)) (I bo) (I 4)) fun T=>
 (ao T
 (aa pg X0 w0 (ez 33 #[(I 0),(I 0),(I 0)] #[]) fun U=>
 bq (dO b) (un (aF (bh (b8 [(I bo),(I bA),(I bD),(I cg),(I cy),(I cz),(I cA),(I cI),(I dB),(I dq),(I cj),(I cd),(I dv),(I dh),(I da),(B dc),(I dk),(I dr),cO,cL,cP,cQ,cR,dd,(I cS),(I cV),(.float .f64 cW),(.float .f64 cX),(I cY),(I gk),(I gm),(I gn),(I gp),(I gq),gr,gu] 3 (af (ad U))))) fun V=>
 bq (az (af (ad U))==3) (bq (aW (af (ad U)) one) (un (aF (bh (b8 (af (ad V)) 6 [(I 0)]))) fun Y=>
 un (aF (bh (b8 (af (ad Y)) 8 [(I 0)]))) fun Z=>
 un (ef b 0 3) fun a0=>
 un (aF (bh (b8 (af (ad Z)) 9 (af (ad a0))))) fun b0=>
 bq (az (af (ad a0))==3) (bq (aW (af (ad a0)) one) (un (aF (bh (b8 (af (ad b0)) 22 [(.slice none 0 0)]))) fun c0=>
 (h c0)))))))
 (aa pg X0 w0 (aJ .eql 3 (.tmp 7) (.const (I 5)) (I bo) (I 5)) fun d0=>
 (ao d0
 (aa pg X0 w0 (ez 33 #[(I 0),(I 0),(I 0)] #[]) fun e0=>
 bq (dO b) (un (aF (bh (b8 [(I bo),(I bA),(I bD),(I cg),(I cy),(I cz),(I cA),(I cI),(I dB),(I dq),(I cj),(I cd),(I dv),(I dh),(I da),(B dc),(I dk),(I dr),cO,cL,cP,cQ,cR,dd,(I cS),(I cV),(.float .f64 cW),(.float .f64 cX),(I cY),(I gk),(I gm),(I gn),(I gp),(I gq),gr,gu] 3 (af (ad e0))))) fun g0=>
 bq (az (af (ad e0))==3) (bq (aW (af (ad e0)) one) (un (aF (bh (b8 (af (ad g0)) 6 [(I 0)]))) fun h0=>
 un (aF (bh (b8 (af (ad h0)) 15 [(B false)]))) fun i0=>
 un (ef b 0 3) fun j0=>
 un (aF (bh (b8 (af (ad i0)) 9 (af (ad j0))))) fun k0=>
 bq (az (af (ad j0))==3) (bq (aW (af (ad j0)) one) (h k0))))))
 ((jn (fun (l0:Value)=>
 ao l0
 (aa pg X0 w0 (ez 33 #[(I 0),(I 0),(I 0)] #[]) fun m0=>
 un (aF (bh (b8 [(I bo),(I bA),(I bD),(I cg),(I cy),(I cz),(I cA),(I cI),(I dB),(I dq),(I cj),(I cd),(I dv),(I dh),(I da),(B dc),(I dk),(I dr),cO,cL,cP,cQ,cR,dd,(I cS),(I cV),(.float .f64 cW),(.float .f64 cX),(I cY),(I gk),(I gm),(I gn),(I gp),(I gq),gr,gu] 3 (af (ad m0))))) fun n0=>
 bq (az (af (ad m0))==3) (bq (aW (af (ad m0)) one) (un (aF (bh (b8 (af (ad n0)) 6 [(I 0)]))) fun o0=>
 (h o0))))
 (aa pg X0 w0 (aJ .eql 3 (.tmp 7) (.const (I 8)) (I bo) (I 8)) fun q0=>
 (ao q0
 (bq (dO b) (un (ef b 0 3) fun r0=>
 un (aF (bh (b8 [(I bo),(I bA),(I bD),(I cg),(I cy),(I cz),(I 0),(I cI),(I dB),(I dq),(I cj),(I cd),(I dv),(I dh),(I da),(B dc),(I 0),(I 0),cO,cL,cP,cQ,cR,dd,(I cS),(I cV),(.float .f64 cW),(.float .f64 cX),(I cY),(I gk),(I gm),(I gn),(I gp),(I gq),gr,gu] 9 (af (ad r0))))) fun s0=>
 bq (az (af (ad r0))==3) (bq (aW (af (ad r0)) one) (h s0))))
 (aa pg X0 w0 (aJ .eql 3 (.tmp 7) (.const (I 9)) (I bo) (I 9)) fun t0=>
 (ao t0
 ((h (.agg #[(I bo),(I bA),(I bD),(I cg),(I cy),(I cz),(I 0),(I cI),(I dB),(I dq),(I cj),(I cd),(I dv),(I dh),(I da),(B dc),(I 0),(I dr),cO,cL,cP,cQ,cR,(.slice none 0 0),(I cS),(I cV),(.float .f64 cW),(.float .f64 cX),(I cY),(I gk),(I gm),(I gn),(I gp),(I gq),gr,gu])))
 (aa pg X0 w0 (aJ .eql 3 (.tmp 7) (.const (I 10)) (I bo) (I 10)) fun v0=>
 (ao v0
 (aa pg X0 w0 (ez 46 #[(I 0),(I 0),(.float .f64 0),(.float .f64 0),(I 0),(I 0),(I 0),(I 0),(I 0),(I 0),(.slice none 0 0),(.slice none 0 0)] #[]) fun y0=>
 un (aF (bh (b8 [(I bo),(I bA),(I bD),(I cg),(I cy),(I cz),(I 0),(I cI),(I dB),(I dq),(I cj),(I cd),(I dv),(I dh),(I da),(B dc),(I dk),(I dr),cO,cL,cP,cQ,cR,dd,(I cS),(I cV),(.float .f64 cW),(.float .f64 cX),(I cY),(I gk),(I gm),(I gn),(I gp),(I gq),gr,gu] 24 (af (ad y0))))) fun z0=>
 bq (az (af (ad y0))==12) (bq (aW (af (ad y0)) one) (h z0)))
 (aa pg X0 w0 (aJ .eql 3 (.tmp 7) (.const (I 11)) (I bo) (I 11)) fun A0=>
 (ao A0
 ((h (.agg #[(I bo),(I bA),(I bD),(I cg),(I cy),(I cz),(I 0),(I cI),(I dB),(I dq),(I cj),(I cd),(I dv),(I dh),(I da),(B dc),(I dk),(I dr),cO,cL,cP,cQ,cR,dd,(I cS),(I cV),(.float .f64 cW),(.float .f64 cX),(I cY),(I gk),(I gm),(I gn),(I gp),(I gq),gr,gu])))
 (aa pg X0 w0 (aJ .eql 3 (.tmp 7) (.const (I 12)) (I bo) (I 12)) fun C0=>
 (ao C0
 (bq (dO b) (aa pg X0 w0 (ez 33 #[(I 0),(I 0),(I 0)] #[]) fun D0=>
 un (ef b 0 3) fun E0=>
 un (aF (bh (b8 [(I bo),(I bA),(I bD),(I cg),(I cy),(I cz),(I cA),(I cI),(I dB),(I dq),(I cj),(I cd),(I dv),(I dh),(I da),(B dc),(I dk),(I dr),cO,cL,cP,cQ,cR,dd,(I cS),(I cV),(.float .f64 cW),(.float .f64 cX),(I cY),(I gk),(I gm),(I gn),(I gp),(I gq),gr,gu] 12 (af (ad E0))))) fun F0=>
 bq (az (af (ad E0))==3) (bq (aW (af (ad E0)) one) (un (aF (bh (b8 (af (ad F0)) 9 (af (ad E0))))) fun G0=>
 bq (az (af (ad E0))==3) (bq (aW (af (ad E0)) one) (un (aF (bh (b8 (af (ad G0)) 3 (af (ad D0))))) fun H0=>
 bq (az (af (ad D0))==3) (bq (aW (af (ad D0)) one) (un (aF (bh (b8 (af (ad H0)) 20 [(.slice none 0 0)]))) fun L0=>
 (h L0)))))))))
 (aa pg X0 w0 (aJ .eql 3 (.tmp 7) (.const (I 13)) (I bo) (I 13)) fun M0=>
 (ao M0
 ((h (.agg #[(I bo),(I bA),(I bD),(I cg),(I cy),(I cz),(I cA),(I cI),(I dB),(I dq),(I cj),(I cd),(I dv),(I dh),(I da),(B dc),(I dk),(I dr),cO,cL,cP,cQ,cR,dd,(I cS),(I cV),(.float .f64 cW),(.float .f64 cX),(I cY),(I gk),(I gm),(I gn),(I gp),(I gq),gr,gu])))
 (aa pg X0 w0 (aJ .eql 3 (.tmp 7) (.const (I 14)) (I bo) (I 14)) fun N0=>
 (ao N0
 (bq (dO b) (un (ef b 0 3) fun O0=>
 un (aF (bh (b8 [(I bo),(I bA),(I bD),(I cg),(I cy),(I cz),(I cA),(I cI),(I dB),(I dq),(I cj),(I cd),(I dv),(I dh),(I da),(B dc),(I dk),(I dr),cO,cL,cP,cQ,cR,dd,(I cS),(I cV),(.float .f64 cW),(.float .f64 cX),(I cY),(I gk),(I gm),(I gn),(I gp),(I gq),gr,gu] 9 (af (ad O0))))) fun Q0=>
 bq (az (af (ad O0))==3) (bq (aW (af (ad O0)) one) (h Q0))))
 (bq (aW [(I bo),(I bA),(I bD),(I cg),(I cy),(I cz),(I cA),(I cI),(I dB),(I dq),(I cj),(I cd),(I dv),(I dh),(I da),(B dc),(I dk),(I dr),cO,cL,cP,cQ,cR,dd,(I cS),(I cV),(.float .f64 cW),(.float .f64 cX),(I cY),(I gk),(I gm),(I gn),(I gp),(I gq),gr,gu] one) ((fin R X0 w0 (ax #[(.agg #[(I bo),(I bA),(I bD),(I cg),(I cy),(I cz),(I cA),(I cI),(I dB),(I dq),(I cj),(I cd),(I dv),(I dh),(I da),(B dc),(I dk),(I dr),cO,cL,cP,cQ,cR,dd,(I cS),(I cV),(.float .f64 cW),(.float .f64 cX),(I cY),(I gk),(I gm),(I gn),(I gp),(I gq),gr,gu]),(B false)]))))))))))))))))))) fun S0=>
 aa pg X0 w0 (aJ .eql 3 (.tmp 7) (.const (I 6)) (I bo) (I 6)) fun T0=>
 (ao T0
 (S0 T0)
 (aa pg X0 w0 (aJ .eql 3 (.tmp 7) (.const (I 7)) (I bo) (I 7)) fun U0=>
 (S0 U0))))))))))))))))))))
noncomputable def W3:bG:=⟨21,[],[],[0,2],[5,6,7,8,9,10,11,13,14,15,17,18,19],[]⟩
def Ky (p0:Int):Prop:=
 (eC pg R X0 w0 true 163 #[(I p0)] fun a b c=>
 un (aO a false (I p0)) fun d=>
 aD pg c b a false (vS (binOp .gtr 3 d (I 20))) fun e=>
 un (aO a false e) fun g=>
 un (aO g true (I p0)) fun h=>
 aD pg c b g true (vS (binOp .leq 3 h (I 22))) fun i=>
 aD pg c b a false (aR g i (B false)) fun j=>
 ay pg c b (aR a (B true) j) fun k=>
 un (aO k false (I p0)) fun l=>
 aD pg c b k false (vS (aJ .eql 3 (.tmp 14) (.const (I 31)) l (I 31))) fun m=>
 ay pg c b (aR k (B true) m) fun n=>
 un (aO n false (I p0)) fun o=>
 aD pg c b n false (vS (aJ .eql 3 (.tmp 18) (.const (I 32)) o (I 32))) fun q=>
 ay pg c b (aR n (B true) q) fun r=>
 (fin R c b r))
noncomputable def W4:bG:=⟨132,[(1,(pg.cellsOf 48)),(3,(pg.cellsOf 46))],[6,8,13,18,23,28,34,40,45,50,54,55,59,60,65,66,72,73,79,85,91,97,107,110,114,118,122,126],[0,2,4,5],[12,14,15,17,19,20,22,24,25,27,29,30,31,33,35,36,37,39,41,42,44,46,47,49,51,52,58,61,62,64,67,68,69,71,74,75,76,78,80,81,82,84,86,87,88,90,92,93,94,96,98,99,100,103,104,106,108,109,111,112,113,115,116,117,119,120,121,123,124,125,127,128,129,130],[]⟩
def Df (_p0_0 _p0_1 _p0_2 cg cy cz cA cI dB dq cj cd dv dh da:Int) (dc:Bool) (dk dr:Int) (cO cL cP cQ cR dd:Value) (cS cV:Int) (cW cX:Nat) (cY gk gm gn gp gq:Int) (gr gu:Value):Prop:=
 (bq (aW [(I cS),(I cV),(.float .f64 cW),(.float .f64 cX),(I cY),(I gk),(I gm),(I gn),(I gp),(I gq),gr,gu] one) ((aa pg X0 w0 (ez 33 #[(I 0),(I 0),(I 0)] #[]) fun a=>
 aa pg X0 w0 (aJ .eql 33 (.tmp 9) (.tmp 10) (.agg #[(I cg),(I cy),(I cz)]) a) fun b=>
 un (aO b true (I cA)) fun c=>
 aD pg X0 w0 b true (vS (aJ .eql 3 (.tmp 14) (.const (I 0)) c (I 0))) fun d=>
 ay pg X0 w0 (aR b d (B false)) fun e=>
 un (aO e true (I cI)) fun g=>
 aD pg X0 w0 e true (vS (aJ .eql 3 (.tmp 19) (.const (I 0)) g (I 0))) fun h=>
 ay pg X0 w0 (aR e h (B false)) fun i=>
 un (aO i true (I dB)) fun j=>
 aD pg X0 w0 i true (vS (aJ .eql 29 (.tmp 24) (.const (I 0)) j (I 0))) fun k=>
 ay pg X0 w0 (aR i k (B false)) fun l=>
 un (aO l true (.agg #[(I dq),(I cj),(I cd)])) fun m=>
 aD pg X0 w0 l true (vS (ez 35 #[(I 0),(I 0),(I 0)] #[])) fun n=>
 aD pg X0 w0 l true (vS (aJ .eql 35 (.tmp 29) (.tmp 30) m n)) fun o=>
 ay pg X0 w0 (aR l o (B false)) fun q=>
 un (aO q true (.agg #[(I dv),(I dh),(I da)])) fun r=>
 aD pg X0 w0 q true (vS (ez 35 #[(I 0),(I 0),(I 0)] #[])) fun s=>
 aD pg X0 w0 q true (vS (aJ .eql 35 (.tmp 35) (.tmp 36) r s)) fun t=>
 ay pg X0 w0 (aR q t (B false)) fun v=>
 un (aO v true (B dc)) fun y=>
 aD pg X0 w0 v true (vS (bg bJ y)) fun z=>
 ay pg X0 w0 (aR v z (B false)) fun A=>
 un (aO A true (I dk)) fun C=>
 aD pg X0 w0 A true (vS (aJ .eql 3 (.tmp 46) (.const (I 0)) C (I 0))) fun D=>
 ay pg X0 w0 (aR A D (B false)) fun E=>
 un (aO E true (I dr)) fun F=>
 aD pg X0 w0 E true (vS (aJ .eql 3 (.tmp 51) (.const (I 0)) F (I 0))) fun G=>
 ay pg X0 w0 (aR E G (B false)) fun H=>
 (aa pg X0 w0 (aJ .eql 3 (.tmp 56) (.const (I 0)) (I cS) (I 0)) fun L=>
 un (aO L true (I cV)) fun M=>
 aD pg X0 w0 L true (vS (aJ .eql 3 (.tmp 61) (.const (I 0)) M (I 0))) fun N=>
 ay pg X0 w0 (aR L N (B false)) fun O=>
 un (aO O true (.float .f64 cW)) fun Q=>
 jn (fun (S:Value) (T:World) (U:XS)=>
 aD pg U T O true (vS (aJ .eql 196 (.tmp 68) (.const (aC bm 0)) S (aC bm 0))) fun V=>
 ay pg U T (aR O V (B false)) fun Y=>
 un (aO Y true (.float .f64 cX)) fun Z=>
 jn (fun (a0:Value) (b0:World) (c0:XS)=>
 aD pg c0 b0 Y true (vS (aJ .eql 196 (.tmp 75) (.const (aC bm 0)) a0 (aC bm 0))) fun d0=>
 ay pg c0 b0 (aR Y d0 (B false)) fun e0=>
 un (aO e0 true (.agg #[(I cY),(I gk),(I gm)])) fun g0=>
 aD pg c0 b0 e0 true (vS (ez 35 #[(I 0),(I 0),(I 0)] #[])) fun h0=>
 aD pg c0 b0 e0 true (vS (aJ .eql 35 (.tmp 80) (.tmp 81) g0 h0)) fun i0=>
 ay pg c0 b0 (aR e0 i0 (B false)) fun j0=>
 un (aO j0 true (.agg #[(I gn),(I gp),(I gq)])) fun k0=>
 aD pg c0 b0 j0 true (vS (ez 35 #[(I 0),(I 0),(I 0)] #[])) fun l0=>
 aD pg c0 b0 j0 true (vS (aJ .eql 35 (.tmp 86) (.tmp 87) k0 l0)) fun m0=>
 ay pg c0 b0 (aR j0 m0 (B false)) fun n0=>
 un (aO n0 true gr) fun o0=>
 aD pg c0 b0 n0 true (vS (cK 43 3 o0)) fun q0=>
 aD pg c0 b0 n0 true (vS (aJ .eql 3 (.tmp 93) (.const (I 0)) q0 (I 0))) fun r0=>
 ay pg c0 b0 (aR n0 r0 (B false)) fun s0=>
 un (aO s0 true gu) fun t0=>
 aD pg c0 b0 s0 true (vS (cK 44 3 t0)) fun v0=>
 aD pg c0 b0 s0 true (vS (aJ .eql 3 (.tmp 99) (.const (I 0)) v0 (I 0))) fun y0=>
 ay pg c0 b0 (aR s0 y0 (B false)) fun z0=>
 (un (aO H true z0) fun A0=>
 ay pg c0 b0 (aR H A0 (B false)) fun C0=>
 un (aO C0 true cO) fun D0=>
 aD pg c0 b0 C0 true (vS (cK 36 3 D0)) fun E0=>
 un (aO C0 true cL) fun F0=>
 aD pg c0 b0 C0 true (vS (cK 37 3 F0)) fun G0=>
 aD pg c0 b0 C0 true (vS (binOp .add 3 E0 G0)) fun H0=>
 un (aO C0 true cP) fun L0=>
 aD pg c0 b0 C0 true (vS (cK 23 3 L0)) fun M0=>
 aD pg c0 b0 C0 true (vS (binOp .add 3 H0 M0)) fun N0=>
 un (aO C0 true cQ) fun O0=>
 aD pg c0 b0 C0 true (vS (cK 22 3 O0)) fun Q0=>
 aD pg c0 b0 C0 true (vS (binOp .add 3 N0 Q0)) fun S0=>
 un (aO C0 true cR) fun T0=>
 aD pg c0 b0 C0 true (vS (cK 38 3 T0)) fun U0=>
 aD pg c0 b0 C0 true (vS (binOp .add 3 S0 U0)) fun V0=>
 un (aO C0 true dd) fun Y0=>
 aD pg c0 b0 C0 true (vS (cK 39 3 Y0)) fun Z0=>
 aD pg c0 b0 C0 true (vS (binOp .add 3 V0 Z0)) fun a1=>
 aD pg c0 b0 C0 true (vS (aJ .eql 3 (.tmp 129) (.const (I 0)) a1 (I 0))) fun b1=>
 ay pg c0 b0 (aR C0 b1 (B false)) fun c1=>
 (fin R c0 b0 c1))) fun d1=>
 (gE Y true (eC pg R U T true 111 #[Z] d1) (d1 undef T U))) fun e1=>
 (gE O true (eC pg R X0 w0 true 111 #[Q] e1) (e1 undef w0 X0))))))
noncomputable def Ru:bG:=⟨95,[(1,(pg.cellsOf 48))],[3,17,21,26,31,36,42,46,51,57,61,66,67,68,70,76,81,83,85,87,92],[0,2,4,5,15,40,55,74,79,90],[20,22,23,25,27,28,30,32,33,35,37,38,45,47,48,50,52,53,60,62,63,65,69,71,72],[]⟩
def zw (bo bA bD cg cy cz cA cI dB dq cj cd dv dh da:Int) (dc:Bool) (dk dr:Int) (cO cL cP cQ cR dd:Value) (cS cV:Int) (cW cX:Nat) (cY gk gm gn gp gq:Int) (gr gu:Value):Prop:=
 (((jn (fun (a:Value)=>
 ao a
 (eC pg R X0 w0 true 164 #[(.agg #[(I bo),(I bA),(I bD),(I cg),(I cy),(I cz),(I cA),(I cI),(I dB),(I dq),(I cj),(I cd),(I dv),(I dh),(I da),(B dc),(I dk),(I dr),cO,cL,cP,cQ,cR,dd,(I cS),(I cV),(.float .f64 cW),(.float .f64 cX),(I cY),(I gk),(I gm),(I gn),(I gp),(I gq),gr,gu])] fun b c d=>
 (fin R d c b))
 (aa pg X0 w0 (aJ .eql 3 (.tmp 4) (.const (I 8)) (I bo) (I 8)) fun e=>
 (ao e
 (eC pg R X0 w0 true 163 #[(I cA)] fun g h i=>
 un (aO g true (I dk)) fun j=>
 aD pg i h g true (vS (binOp .geq 3 j (I 1))) fun k=>
 ay pg i h (aR g k (B false)) fun l=>
 un (aO l true (I dr)) fun m=>
 aD pg i h l true (vS (binOp .geq 3 m (I 0))) fun n=>
 ay pg i h (aR l n (B false)) fun o=>
 un (aO o true (I dr)) fun q=>
 aD pg i h o true (vS (binOp .leq 3 q (I 8))) fun r=>
 ay pg i h (aR o r (B false)) fun s=>
 un (aO s true (.agg #[(I dq),(I cj),(I cd)])) fun t=>
 jn (fun (v:Value) (y:World) (z:XS)=>
 ay pg z y (aR s v (B false)) fun A=>
 (fin R z y A)) fun C=>
 (gE s true (eC pg R i h true 165 #[t] C) (C undef h i)))
 (aa pg X0 w0 (aJ .eql 3 (.tmp 4) (.const (I 9)) (I bo) (I 9)) fun D=>
 (ao D
 (eC pg R X0 w0 true 163 #[(I cA)] fun E F G=>
 un (aO E true (I dk)) fun H=>
 aD pg G F E true (vS (binOp .geq 3 H (I 1))) fun L=>
 ay pg G F (aR E L (B false)) fun M=>
 un (aO M true dd) fun N=>
 jn (fun (O:Value) (Q:World) (S:XS)=>
 ay pg S Q (aR M O (B false)) fun T=>
 (fin R S Q T)) fun U=>
 (gE M true (eC pg R G F true 166 #[N] U) (U undef F G)))
 (aa pg X0 w0 (aJ .eql 3 (.tmp 4) (.const (I 10)) (I bo) (I 10)) fun V=>
 (ao V
 (eC pg R X0 w0 true 163 #[(I cA)] fun Y Z a0=>
 un (aO Y true (.agg #[(I cS),(I cV),(.float .f64 cW),(.float .f64 cX),(I cY),(I gk),(I gm),(I gn),(I gp),(I gq),gr,gu])) fun b0=>
 jn (fun (c0:Value) (d0:World) (e0:XS)=>
 ay pg e0 d0 (aR Y c0 (B false)) fun g0=>
 un (aO g0 true (I cS)) fun h0=>
 un (aO g0 true (I cA)) fun i0=>
 aD pg e0 d0 g0 true (vS (aJ .eql 3 (.tmp 69) (.tmp 71) h0 i0)) fun j0=>
 ay pg e0 d0 (aR g0 j0 (B false)) fun k0=>
 (fin R e0 d0 k0)) fun l0=>
 (gE Y true (eC pg R a0 Z true 167 #[b0] l0) (l0 undef Z a0)))
 (aa pg X0 w0 (aJ .eql 3 (.tmp 4) (.const (I 11)) (I bo) (I 11)) fun m0=>
 (ao m0
 (eC pg R X0 w0 true 163 #[(I cA)] fun n0 o0 q0=>
 (fin R q0 o0 n0))
 (aa pg X0 w0 (aJ .eql 3 (.tmp 4) (.const (I 12)) (I bo) (I 12)) fun r0=>
 (ao r0
 (eC pg R X0 w0 true 168 #[(.agg #[(I dv),(I dh),(I da)]),(.agg #[(I dq),(I cj),(I cd)]),(.agg #[(I cg),(I cy),(I cz)]),cP] fun s0 t0 v0=>
 (fin R v0 t0 s0))
 (aa pg X0 w0 (aJ .eql 3 (.tmp 4) (.const (I 14)) (I bo) (I 14)) fun y0=>
 (ao y0
 (eC pg R X0 w0 true 165 #[(.agg #[(I dq),(I cj),(I cd)])] fun z0 A0 C0=>
 (fin R C0 A0 z0))
 (fin R X0 w0 (B true))))))))))))))) fun D0=>
 aa pg X0 w0 (aJ .eql 3 (.tmp 4) (.const (I 1)) (I bo) (I 1)) fun E0=>
 (ao E0
 (D0 E0)
 (aa pg X0 w0 (aJ .eql 3 (.tmp 4) (.const (I 2)) (I bo) (I 2)) fun F0=>
 (ao F0
 (D0 F0)
 (aa pg X0 w0 (aJ .eql 3 (.tmp 4) (.const (I 3)) (I bo) (I 3)) fun G0=>
 (ao G0
 (D0 G0)
 (aa pg X0 w0 (aJ .eql 3 (.tmp 4) (.const (I 4)) (I bo) (I 4)) fun H0=>
 (ao H0
 (D0 H0)
 (aa pg X0 w0 (aJ .eql 3 (.tmp 4) (.const (I 5)) (I bo) (I 5)) fun L0=>
 (ao L0
 (D0 L0)
 (aa pg X0 w0 (aJ .eql 3 (.tmp 4) (.const (I 6)) (I bo) (I 6)) fun M0=>
 (ao M0
 (D0 M0)
 (aa pg X0 w0 (aJ .eql 3 (.tmp 4) (.const (I 7)) (I bo) (I 7)) fun N0=>
 (D0 N0))))))))))))))))
def Bz (p0 p1:Value):Prop:=
 (eC pg R X0 w0 true 43 #[p0] fun a b c=>
 (aa pg c b (cK 95 3 p1) fun d=>
 aa pg c b (binOp .gtr 3 d (I 262144)) fun e=>
 (ao e
 ((fin R c b (ax #[(I 0),(I 2)])))
 (aa pg c b (binOp .gtr 3 a (I 99999999)) fun g=>
 (ao g
 ((fin R c b (ax #[(I 0),(I 1)])))
 ((((jn (fun (h:World) (i:XS)=>
 eC pg R i h true 85 #[p0] fun j k l=>
 (eC pg R l k true 169 #[p1] fun m n o=>
 aa pg o n (aH m 0) fun q=>
 aa pg o n (aH m 1) fun _=>
 (ay pg o n (aE p0) fun r=>
 aa pg o n (aS 158 0 0 1 r) fun s=>
 aa pg o n (bb 26 s) fun t=>
 ay pg o n (aE p0) fun v=>
 aa pg o n (aS 158 1 1 1 v) fun y=>
 aa pg o n (bb 9 y) fun z=>
 ay pg o n (aE j) fun A=>
 aa pg o n (aS 163 0 0 1 A) fun C=>
 aa pg o n (bb 3 C) fun D=>
 eC pg R o n false 106 #[z,D] fun E F G=>
 eC pg R G F true 170 #[t,E,q] fun H L M=>
 (aa pg M L (aJ .neq 29 (.tmp 65) (.const (I 0)) H (I 0)) fun N=>
 (ao N
 ((fin R M L (ax #[(I 0),H])))
 ((ay pg M L (aE j) fun O=>
 aa pg M L (aS 163 1 1 1 O) fun Q=>
 aa pg M L (bb 161 Q) fun S=>
 eV pg R M L false (gU 95 5 1 0 #[]) fun T U V=>
 eV pg R V U false (gH 95 5 1 1 95 T p1) fun Y Z a0=>
 eV pg R a0 Z false (gU 161 95 1 1 #[(0,Y)]) fun b0 c0 d0=>
 eV pg R d0 c0 true (gH 161 95 1 24 161 S b0) fun e0 g0 h0=>
 ay pg h0 g0 (aE j) fun i0=>
 aa pg h0 g0 (aS 163 1 1 1 i0) fun j0=>
 eU pg R h0 g0 true (dV 161 1 j0 e0) fun _ k0 l0=>
 (ay pg l0 k0 (aE j) fun m0=>
 aa pg l0 k0 (aS 163 2 2 1 m0) fun n0=>
 aa pg l0 k0 (bb 3 n0) fun o0=>
 aa pg l0 k0 (cK 95 3 q) fun q0=>
 aa pg l0 k0 (binOp .add 3 o0 q0) fun r0=>
 ay pg l0 k0 (aE j) fun s0=>
 aa pg l0 k0 (aS 163 2 2 1 s0) fun t0=>
 eU pg R l0 k0 true (dV 3 1 t0 r0) fun _ v0 y0=>
 ((fin R y0 v0 (ax #[a,(I 0)]))))))))))) fun z0=>
 ay pg c b (aE p0) fun A0=>
 aa pg c b (aS 158 2 2 1 A0) fun C0=>
 aa pg c b (bb 3 C0) fun D0=>
 eC pg R c b false 85 #[p0] fun E0 F0 G0=>
 ay pg G0 F0 (aE E0) fun H0=>
 aa pg G0 F0 (aS 163 2 2 1 H0) fun L0=>
 aa pg G0 F0 (bb 3 L0) fun M0=>
 aa pg G0 F0 (binOp .geq 3 M0 D0) fun N0=>
 (ao N0
 (eC pg R G0 F0 true 104 #[p0] fun O0 Q0 S0=>
 (aa pg S0 Q0 (aJ .neq 29 (.tmp 34) (.const (I 0)) O0 (I 0)) fun T0=>
 (ao T0
 ((fin R S0 Q0 (ax #[(I 0),O0])))
 ((eC pg R S0 Q0 true 83 #[p0,a] fun U0 V0 Y0=>
 (aa pg Y0 V0 (aJ .neq 29 (.tmp 40) (.const (I 0)) U0 (I 0)) fun Z0=>
 (ao Z0
 ((fin R Y0 V0 (ax #[(I 0),U0])))
 (z0 V0 Y0))))))))
 (z0 F0 G0)))))))))))
def D7 (p0:Value):Prop:=
 (ay pg X0 w0 (aE p0) fun a=>
 aa pg X0 w0 (aS 158 0 0 1 a) fun b=>
 aa pg X0 w0 (bb 26 b) fun c=>
 ay pg X0 w0 (aE p0) fun d=>
 aa pg X0 w0 (aS 158 1 1 1 d) fun e=>
 aa pg X0 w0 (bb 9 e) fun g=>
 eC pg R X0 w0 false 85 #[p0] fun h i j=>
 ay pg j i (aE h) fun k=>
 aa pg j i (aS 163 0 0 1 k) fun l=>
 aa pg j i (bb 3 l) fun m=>
 eC pg R j i false 106 #[g,m] fun n o q=>
 eC pg R q o true 171 #[c,n] fun r s t=>
 ((jn (fun (v:World) (y:XS)=>
 (fin R y v r)) fun z=>
 aa pg t s (aJ .eql 29 (.tmp 19) (.const (I 0)) r (I 0)) fun A=>
 (ao A
 (eC pg R t s true 43 #[p0] fun C D E=>
 aa pg E D (binOp .sub 3 C (I 1)) fun F=>
 ay pg E D (aE p0) fun G=>
 aa pg E D (aS 158 4 4 1 G) fun H=>
 eU pg R E D true (dV 3 1 H F) fun _ L M=>
 (z L M))
 (z s t)))))
noncomputable def IM:bG:=⟨11,[],[],[0,1,2,3,4],[],[]⟩
def yX (p0:Value) (p1:ByteArray):Prop:=
 eV pg R X0 w0 true (dx 26 p0) fun a b c=>
 eV pg R c b true (dx 9 (.string p1)) fun d e g=>
 (aa pg g e (bb 26 a) fun h=>
 aa pg g e (bb 26 a) fun i=>
 aa pg g e (bb 9 d) fun j=>
 aa pg g e (cx (fZ 174) #[] #[a,d]) fun k=>
 eC pg R g e false 173 #[i,j] fun l m n=>
 eC pg R n m true 172 #[h,l,k] fun o q r=>
 (fin R r q o))
noncomputable def YG:bG:=⟨29,[],[],[0,1,4,5,6,10],[],[1,6]⟩
def MZ (p0:ByteArray) (p1:Int):Prop:=
 (eV pg R X0 w0 true (gU 95 5 1 8 #[(0,(aC cE 48)),(1,(aC cE 48)),(2,(aC cE 48)),(3,(aC cE 48)),(4,(aC cE 48)),(5,(aC cE 48)),(6,(aC cE 48)),(7,(aC cE 48))]) fun a b c=>
 eV pg R c b true (convert 95 95 a) fun d e g=>
 ((jA g e (I 7) (I p1) 6 1 fun h i j k l m=>
 aa pg m l (binOp .geq 3 j (I 0)) fun n=>
 (ao n
 ((aa pg m l (dD 95 1 d j) fun o=>
 aa pg m l (bb 5 o) fun q=>
 aa pg m l (binOp .rem 3 k (I 10)) fun r=>
 aa pg m l (kV cE 3 5 r) fun s=>
 aa pg m l (binOp .add 5 q s) fun t=>
 aa pg m l (dD 95 1 d j) fun v=>
 eU pg R m l true (dV 5 1 v t) fun _ y z=>
 (aa pg z y (binOp .quo 3 k (I 10)) fun A=>
 ((aa pg z y (binOp .sub 3 j (I 1)) fun C=>
 jB h i C A y z)))))
 (((aa pg m l (binOp .add 9 (.string p0) (.string { data:= #[46] })) fun D=>
 eV pg R m l true (convert 95 9 d) fun E F G=>
 aa pg G F (binOp .add 9 D E) fun H=>
 (fin R G F H))))))))
noncomputable def Hk:bG:=⟨38,[],[],[0,1,4,5,6,15],[11,12,13,14,18],[5,6]⟩
def xu (p0:Value) (p1:Int):Prop:=
 (((jA X0 w0 (I 0) (I 0) 6 5 fun a b c d e g=>
 aa pg g e (cK 37 3 p0) fun h=>
 aa pg g e (binOp .lss 3 c h) fun i=>
 un (aO i true d) fun j=>
 un (aO i true (I p1)) fun k=>
 aD pg g e i true (vS (binOp .leq 3 j k)) fun l=>
 ay pg g e (aR i l (B false)) fun m=>
 (ao m
 ((aa pg g e (dD 37 7 p0 c) fun n=>
 aa pg g e (aS 266 0 0 1 n) fun o=>
 aa pg g e (bb 9 o) fun q=>
 aa pg g e (lJ 9 3 q) fun r=>
 aa pg g e (binOp .add 3 (I 1) r) fun s=>
 aa pg g e (dD 37 7 p0 c) fun t=>
 aa pg g e (aS 266 1 1 3 t) fun v=>
 aa pg g e (aS 51 2 2 1 v) fun y=>
 aa pg g e (bb 9 y) fun z=>
 aa pg g e (lJ 9 3 z) fun A=>
 eC pg R g e false 40 #[d,s,(I p1)] fun C D E=>
 eC pg R E D true 40 #[C,A,(I p1)] fun F G H=>
 ((aa pg H G (binOp .add 3 c (I 1)) fun L=>
 jB a b L F G H))))
 (fin R g e d)))))
noncomputable def IN:bG:=⟨67,[(2,(pg.cellsOf 117))],[7,11,18,27,39,49,61],[0,1,4,5,6,35],[31,32,33,34,38],[5,6]⟩
def yM (_p0_0 _p0_1 _p0_2 _p0_3 _p0_4 _p0_5 _p0_6 _p0_7 _p0_8 _p0_9:Int) (_p0_10:Bool) (_p0_11:Int) (_p0_12:Nat) (dh da dc dk:Value) (dr cO:Int) (cL cP:Nat) (cQ cR dd cS cV cW:Int) (cX cY:Value) (p1:Int):Prop:=
 (eC pg R X0 w0 false 23 #[dh,(I p1)] fun a b c=>
 eC pg R c b true 10 #[da,(I p1)] fun d e g=>
 eC pg R g e true 40 #[a,d,(I p1)] fun h i j=>
 (aa pg j i (cK 22 3 dc) fun k=>
 aa pg j i (binOp .add 3 (I p1) (I 1)) fun l=>
 aa pg j i (mD #[3,3] 3 #[k,l]) fun m=>
 eC pg R j i true 40 #[h,m,(I p1)] fun n o q=>
 ((jA q o (I 0) n 6 5 fun r s t v y z=>
 aa pg z y (cK 54 3 dk) fun A=>
 aa pg z y (binOp .lss 3 t A) fun C=>
 un (aO C true v) fun D=>
 un (aO C true (I p1)) fun E=>
 aD pg z y C true (vS (binOp .leq 3 D E)) fun F=>
 ay pg z y (aR C F (B false)) fun G=>
 (ao G
 ((aa pg z y (dD 54 4 dk t) fun H=>
 aa pg z y (aS 74 0 0 1 H) fun L=>
 aa pg z y (bb 9 L) fun M=>
 aa pg z y (lJ 9 3 M) fun N=>
 aa pg z y (binOp .add 3 (I 1) N) fun O=>
 aa pg z y (dD 54 4 dk t) fun Q=>
 aa pg z y (aS 74 1 1 3 Q) fun S=>
 aa pg z y (aS 51 2 2 1 S) fun T=>
 aa pg z y (bb 9 T) fun U=>
 aa pg z y (lJ 9 3 U) fun V=>
 eC pg R z y false 40 #[v,O,(I p1)] fun Y Z a0=>
 eC pg R a0 Z true 40 #[Y,V,(I p1)] fun b0 c0 d0=>
 ((aa pg d0 c0 (binOp .add 3 t (I 1)) fun e0=>
 jB r s e0 b0 c0 d0))))
 (((aa pg z y (binOp .add 3 v (I 1)) fun g0=>
 eC pg R z y true 110 #[(.agg #[(I dr),(I cO),(.float .f64 cL),(.float .f64 cP),(I cQ),(I cR),(I dd),(I cS),(I cV),(I cW),cX,cY]),(I p1)] fun h0 i0 j0=>
 eC pg R j0 i0 true 40 #[g0,h0,(I p1)] fun k0 l0 m0=>
 (fin R m0 l0 k0)))))))))
noncomputable def FP:bG:=⟨15,[(2,(pg.cellsOf 46))],[5,9],[0,1,4],[],[]⟩
def wL (_p0_0 _p0_1:Int) (_p0_2 _p0_3:Nat) (_p0_4 _p0_5 _p0_6 _p0_7 _p0_8 _p0_9:Int) (cj cd:Value) (p1:Int):Prop:=
 (eC pg R X0 w0 false 176 #[cj,(I p1)] fun a b c=>
 eC pg R c b true 177 #[cd,(I p1)] fun d e g=>
 eC pg R g e true 40 #[a,d,(I p1)] fun h i j=>
 (fin R j i h))
noncomputable def L7:bG:=⟨11,[],[],[0,1,4,7,10],[],[]⟩
def Bt (p0 p1:Int):Prop:=
 (aa pg X0 w0 (binOp .lss 3 (I p0) (I p1)) fun a=>
 (ao a
 ((fin R X0 w0 (I (-1))))
 ((aa pg X0 w0 (binOp .gtr 3 (I p0) (I p1)) fun b=>
 (ao b
 (fin R X0 w0 (I 1))
 (fin R X0 w0 (I 0)))))))
noncomputable def L8:bG:=⟨21,[],[],[0,1,4,5,6,14],[],[]⟩
def Bp (p0:Value) (p1:ByteArray):Prop:=
 (ay pg X0 w0 (aE p0) fun a=>
 aa pg X0 w0 (aS 106 0 0 1 a) fun b=>
 aa pg X0 w0 (bb 104 b) fun c=>
 aa pg X0 w0 (dR 104 c (.string p1) false) fun d=>
 (aa pg X0 w0 (aJ .eql 135 (.tmp 13) (.const (.pointer none)) d (.pointer none)) fun e=>
 (ao e
 ((fin R X0 w0 (ax #[(.slice none 0 0),(I 8)])))
 ((eV pg R X0 w0 true (gU 95 5 1 0 #[]) fun g h i=>
 ay pg i h (aE d) fun j=>
 aa pg i h (aS 141 0 0 1 j) fun k=>
 aa pg i h (bb 95 k) fun l=>
 eV pg R i h true (gH 95 5 1 1 95 g l) fun m n o=>
 (fin R o n (ax #[m,(I 0)])))))))
def HZ (p0:Value):Prop:=
 ((((jn (fun (a b:Value) (c:World) (d:XS)=>
 (fin R d c (ax #[a,b]))) fun e=>
 jA X0 w0 (I 0) (.slice none 0 0) 5 4 fun g h i j k l=>
 aa pg l k (cK 95 3 p0) fun m=>
 aa pg l k (binOp .sub 3 m i) fun n=>
 aa pg l k (binOp .geq 3 n (I 12)) fun o=>
 (ao o
 ((aa pg l k (cp 95 p0 (some i) none none) fun q=>
 eC pg R l k true 202 #[q] fun r s t=>
 aa pg t s (kV IntKind.i64 281 3 r) fun v=>
 (aa pg t s (binOp .gtr 3 v (I 262144)) fun y=>
 un (aO y false p0) fun z=>
 un (aO y false i) fun A=>
 aD pg t s y false (vS (binOp .add 3 A (I 4))) fun C=>
 aD pg t s y false (vS (cp 95 z (some C) none none)) fun D=>
 aD pg t s y false (vS (binOp .add 3 A (I 4))) fun E=>
 aD pg t s y false (vS (cp 95 z (some A) (some E) none)) fun F=>
 jn (fun (G:Value) (H:World) (L:XS)=>
 jn (fun (M:Value) (N:World) (O:XS)=>
 aD pg O N y false (vS (aJ .neq 281 (.tmp 25) (.tmp 31) G M)) fun Q=>
 ay pg O N (aR y (B true) Q) fun S=>
 un (aO S false v) fun T=>
 un (aO S false p0) fun U=>
 aD pg O N S false (vS (cK 95 3 U)) fun V=>
 un (aO S false i) fun Y=>
 aD pg O N S false (vS (binOp .sub 3 V Y)) fun Z=>
 aD pg O N S false (vS (binOp .sub 3 Z (I 12))) fun a0=>
 aD pg O N S false (vS (binOp .gtr 3 T a0)) fun b0=>
 ay pg O N (aR S (B true) b0) fun c0=>
 (ao c0
 (e j i N O)
 ((aa pg O N (binOp .add 3 i (I 8)) fun d0=>
 aa pg O N (binOp .add 3 i (I 8)) fun e0=>
 aa pg O N (binOp .add 3 e0 v) fun g0=>
 aa pg O N (cp 95 p0 (some d0) (some g0) none) fun h0=>
 (aa pg O N (binOp .add 3 i (I 8)) fun i0=>
 aa pg O N (binOp .add 3 i0 v) fun j0=>
 aa pg O N (cp 95 p0 (some j0) none none) fun k0=>
 eC pg R O N true 202 #[k0] fun l0 m0 n0=>
 eC pg R n0 m0 true 203 #[h0] fun o0 q0 r0=>
 aa pg r0 q0 (aJ .neq 281 (.tmp 57) (.tmp 59) l0 o0) fun s0=>
 (ao s0
 (e j i q0 r0)
 ((eV pg R r0 q0 true (gU 95 5 1 0 #[]) fun t0 v0 y0=>
 eV pg R y0 v0 true (gH 95 5 1 1 95 t0 h0) fun z0 A0 C0=>
 eV pg R C0 A0 true (gU 161 95 1 1 #[(0,z0)]) fun D0 E0 F0=>
 eV pg R F0 E0 true (gH 161 95 1 24 161 j D0) fun G0 H0 L0=>
 (aa pg L0 H0 (binOp .add 3 v (I 12)) fun M0=>
 aa pg L0 H0 (binOp .add 3 i M0) fun N0=>
 (jB g h N0 G0 H0 L0)))))))))) fun O0=>
 (gE y false (eC pg R L H true 203 #[F] O0) (O0 undef H L))) fun Q0=>
 (gE y false (eC pg R t s false 202 #[D] Q0) (Q0 undef s t)))))
 (e j i k l))))))
noncomputable def IP:bG:=⟨29,[],[],[0,1,2,3,4,5,6,10,18],[],[]⟩
def yY (p0:Value) (p1:ByteArray):Prop:=
 eV pg R X0 w0 true (dx 26 p0) fun a b c=>
 eV pg R c b true (dx 9 (.string p1)) fun d e g=>
 (((jn (fun (h:Value) (i:World) (j:XS)=>
 (aa pg j i (bb 26 a) fun k=>
 aa pg j i (cx (fZ 204) #[] #[a,d]) fun l=>
 eC pg R j i true 172 #[k,h,l] fun m n o=>
 (fin R o n m))) fun q=>
 aa pg g e (bb 9 d) fun r=>
 eC pg R g e true 73 #[r] fun s t v=>
 aa pg v t (bg bJ s) fun y=>
 (ao y
 (q (I 10) t v)
 (aa pg v t (bb 26 a) fun z=>
 ay pg v t (aE z) fun A=>
 aa pg v t (aS 106 0 0 1 A) fun C=>
 aa pg v t (bb 104 C) fun D=>
 aa pg v t (bb 9 d) fun E=>
 aa pg v t (dR 104 D E false) fun F=>
 aa pg v t (aJ .neq 135 (.tmp 16) (.const (.pointer none)) F (.pointer none)) fun G=>
 (ao G
 (q (I 9) t v)
 (aa pg v t (bb 26 a) fun H=>
 ay pg v t (aE H) fun L=>
 aa pg v t (aS 106 0 0 1 L) fun M=>
 aa pg v t (bb 104 M) fun N=>
 aa pg v t (Builtin.len_ #[104] 3 #[N]) fun O=>
 aa pg v t (binOp .geq 3 O (I 64)) fun Q=>
 (ao Q
 (q (I 3) t v)
 (q (I 0) t v)))))))))
noncomputable def Oh:bG:=⟨35,[],[],[0,1,2,3,4,5,6,7,30],[13,14,15,16,17,18,19,20,21,22,23,24,25,26,27,28,29],[]⟩
def CH (p0:Value) (p1:ByteArray) (p2:Int):Prop:=
 eV pg R X0 w0 true (dx 26 p0) fun a b c=>
 eV pg R c b true (dx 9 (.string p1)) fun d e g=>
 eV pg R g e true (dx 3 (I p2)) fun h i j=>
 (aa pg j i (bb 26 a) fun k=>
 aa pg j i (bb 9 d) fun l=>
 eC pg R j i true 173 #[k,l] fun m n o=>
 ((jn (fun (q:Value)=>
 aa pg o n (bb 26 a) fun r=>
 aa pg o n (cx (fZ 205) #[] #[a,d,h]) fun s=>
 eC pg R o n true 172 #[r,q,s] fun t v y=>
 (fin R y v t)) fun z=>
 aa pg o n (aJ .eql 29 (.tmp 11) (.const (I 0)) m (I 0)) fun A=>
 aD pg o n A true (vS (bb 3 h)) fun C=>
 aD pg o n A true (vS (binOp .lss 3 C (I 0))) fun D=>
 un (aO A true D) fun E=>
 aD pg o n E false (vS (bb 3 h)) fun F=>
 aD pg o n E false (vS (bb 26 a)) fun G=>
 aD pg o n E false (aE G) fun H=>
 aD pg o n E false (vS (aS 106 0 0 1 H)) fun L=>
 aD pg o n E false (vS (bb 104 L)) fun M=>
 aD pg o n E false (vS (bb 9 d)) fun N=>
 aD pg o n E false (vS (dR 104 M N false)) fun O=>
 aD pg o n E false (aE O) fun Q=>
 aD pg o n E false (vS (aS 141 0 0 1 Q)) fun S=>
 aD pg o n E false (vS (bb 95 S)) fun T=>
 aD pg o n E false (vS (cK 95 3 T)) fun U=>
 aD pg o n E false (vS (binOp .gtr 3 F U)) fun V=>
 aD pg o n A true (aR E (B true) V) fun Y=>
 ay pg o n (aR A Y (B false)) fun Z=>
 (ao Z
 (z (I 1))
 (z m)))))
def tW (p0 p1:Value):Prop:=
 ay pg X0 w0 (aE p0) fun a=>
 aa pg X0 w0 (aS 175 0 0 1 a) fun b=>
 aa pg X0 w0 (bb 173 b) fun c=>
 aa pg X0 w0 (aJ .neq 173 (.tmp 7) (.const (.pointer none)) c (.pointer none)) fun d=>
 (ao d
 (ay pg X0 w0 (aE p0) fun e=>
 aa pg X0 w0 (aS 175 0 0 1 e) fun g=>
 aa pg X0 w0 (bb 173 g) fun h=>
 ay pg X0 w0 (aE p1) fun i=>
 aa pg X0 w0 (bb 3 i) fun j=>
 eC pg R X0 w0 true 206 #[h,j] fun _ k l=>
 (fin R l k (ax #[])))
 ((ay pg X0 w0 (aE p0) fun m=>
 aa pg X0 w0 (aS 175 1 1 1 m) fun n=>
 aa pg X0 w0 (bb 169 n) fun o=>
 eC pg R X0 w0 true 207 #[o] fun q r s=>
 ay pg s r (aE p1) fun t=>
 eU pg R s r true (dV 3 1 t q) fun _ v y=>
 (eC pg R y v true 208 #[p0] fun _ z A=>
 fin R A z (ax #[])))))
def ye (p0 p1:Value):Prop:=
 ay pg X0 w0 (aE p1) fun a=>
 aa pg X0 w0 (aS 46 0 0 4 a) fun b=>
 eC pg R X0 w0 true 209 #[p0,b] fun _ c d=>
 (ay pg d c (aE p1) fun e=>
 aa pg d c (aS 46 1 4 3 e) fun g=>
 eC pg R d c true 148 #[p0,g] fun _ h i=>
 (ay pg i h (aE p1) fun j=>
 aa pg i h (aS 46 2 7 3 j) fun k=>
 eC pg R i h true 148 #[p0,k] fun _ l m=>
 (ay pg m l (aE p1) fun n=>
 aa pg m l (aS 46 3 10 1 n) fun o=>
 aa pg m l (cx (fZ 211) #[p0] #[]) fun q=>
 eC pg R m l true 210 #[p0,o,q] fun _ r s=>
 (ay pg s r (aE p1) fun t=>
 aa pg s r (aS 46 4 11 1 t) fun v=>
 aa pg s r (cx (fZ 144) #[p0] #[]) fun y=>
 eC pg R s r true 212 #[p0,v,y] fun _ z A=>
 fin R A z (ax #[])))))
def vB (p0 p1:Value):Prop:=
 ay pg X0 w0 (aE p1) fun a=>
 aa pg X0 w0 (aS 229 0 0 3 a) fun b=>
 eC pg R X0 w0 true 146 #[p0,b] fun _ c d=>
 (ay pg d c (aE p1) fun e=>
 aa pg d c (aS 229 1 3 3 e) fun g=>
 eC pg R d c true 148 #[p0,g] fun _ h i=>
 (ay pg i h (aE p1) fun j=>
 aa pg i h (aS 229 2 6 1 j) fun k=>
 aa pg i h (cx (fZ 214) #[p0] #[]) fun l=>
 eC pg R i h true 213 #[p0,k,l] fun _ m n=>
 (ay pg n m (aE p1) fun o=>
 aa pg n m (aS 229 3 7 1 o) fun q=>
 aa pg n m (cx (fZ 151) #[p0] #[]) fun r=>
 eC pg R n m true 150 #[p0,q,r] fun _ s t=>
 fin R t s (ax #[]))))
def BB (p0 p1 p2:Value):Prop:=
 ay pg X0 w0 (aE p1) fun a=>
 aa pg X0 w0 (bb 22 a) fun b=>
 aa pg X0 w0 (cK 22 3 b) fun c=>
 ((jn (fun (d:Value) (e:World) (g:XS)=>
 (jw g e (I 0) 39 fun h i j k l=>
 aa pg l k (binOp .lss 3 j d) fun m=>
 (ao m
 ((((jn (fun (n:World) (o:XS)=>
 ay pg o n (aE p1) fun q=>
 aa pg o n (bb 22 q) fun r=>
 aa pg o n (dD 22 1 r j) fun s=>
 eF pg R o n true p2 #[s] fun _ t v=>
 ((aa pg v t (binOp .add 3 j (I 1)) fun y=>
 jx h i y t v))) fun z=>
 ay pg l k (aE p0) fun A=>
 aa pg l k (aS 175 0 0 1 A) fun C=>
 aa pg l k (bb 173 C) fun D=>
 aa pg l k (aJ .eql 173 (.tmp 45) (.const (.pointer none)) D (.pointer none)) fun E=>
 (ao E
 ((ay pg l k (aE p1) fun F=>
 aa pg l k (bb 22 F) fun G=>
 eV pg R l k true (gU 22 3 1 1 #[(0,(I 0))]) fun H L M=>
 eV pg R M L true (gH 22 3 1 8 22 G H) fun N O Q=>
 ay pg Q O (aE p1) fun S=>
 eU pg R Q O true (dV 22 1 S N) fun _ T U=>
 (z T U)))
 (z k l))))))
 (fin R l k (ax #[]))))) fun V=>
 ay pg X0 w0 (aE p0) fun Y=>
 aa pg X0 w0 (aS 175 0 0 1 Y) fun Z=>
 aa pg X0 w0 (bb 173 Z) fun a0=>
 aa pg X0 w0 (aJ .neq 173 (.tmp 16) (.const (.pointer none)) a0 (.pointer none)) fun b0=>
 (ao b0
 (ay pg X0 w0 (aE p0) fun c0=>
 aa pg X0 w0 (aS 175 0 0 1 c0) fun d0=>
 aa pg X0 w0 (bb 173 d0) fun e0=>
 eC pg R X0 w0 true 206 #[e0,c] fun _ g0 h0=>
 (V c g0 h0))
 (ay pg X0 w0 (aE p0) fun i0=>
 aa pg X0 w0 (aS 175 1 1 1 i0) fun j0=>
 aa pg X0 w0 (bb 169 j0) fun k0=>
 ay pg X0 w0 (aE p0) fun l0=>
 aa pg X0 w0 (aS 175 1 1 1 l0) fun m0=>
 aa pg X0 w0 (bb 169 m0) fun n0=>
 eC pg R X0 w0 false 216 #[n0] fun o0 q0 r0=>
 eC pg R r0 q0 true 215 #[k0,o0] fun s0 t0 v0=>
 (eC pg R v0 t0 true 208 #[p0] fun _ y0 z0=>
 (ay pg z0 y0 (aE p1) fun A0=>
 eU pg R z0 y0 true (dV 22 1 A0 (.slice none 0 0)) fun _ C0 D0=>
 (V s0 C0 D0)))))))
def tX (p0 p1:Value):Prop:=
 ay pg X0 w0 (aE p1) fun a=>
 aa pg X0 w0 (aS 33 0 0 1 a) fun b=>
 eC pg R X0 w0 true 142 #[p0,b] fun _ c d=>
 (ay pg d c (aE p1) fun e=>
 aa pg d c (aS 33 1 1 1 e) fun g=>
 eC pg R d c true 142 #[p0,g] fun _ h i=>
 (ay pg i h (aE p1) fun j=>
 aa pg i h (aS 33 2 2 1 j) fun k=>
 eC pg R i h true 142 #[p0,k] fun _ l m=>
 fin R m l (ax #[])))
def yZ (p0 p1:Value):Prop:=
 ay pg X0 w0 (aE p0) fun a=>
 aa pg X0 w0 (aS 175 0 0 1 a) fun b=>
 aa pg X0 w0 (bb 173 b) fun c=>
 aa pg X0 w0 (aJ .neq 173 (.tmp 7) (.const (.pointer none)) c (.pointer none)) fun d=>
 (ao d
 (ay pg X0 w0 (aE p0) fun e=>
 aa pg X0 w0 (aS 175 0 0 1 e) fun g=>
 aa pg X0 w0 (bb 173 g) fun h=>
 ay pg X0 w0 (aE p1) fun i=>
 aa pg X0 w0 (bb 4 i) fun j=>
 eC pg R X0 w0 true 217 #[h,j] fun _ k l=>
 (fin R l k (ax #[])))
 ((ay pg X0 w0 (aE p0) fun m=>
 aa pg X0 w0 (aS 175 1 1 1 m) fun n=>
 aa pg X0 w0 (bb 169 n) fun o=>
 eC pg R X0 w0 true 218 #[o] fun q r s=>
 ay pg s r (aE p1) fun t=>
 eU pg R s r true (dV 4 1 t q) fun _ v y=>
 (eC pg R y v true 208 #[p0] fun _ z A=>
 fin R A z (ax #[])))))
def rS (p0 p1:Value):Prop:=
 ay pg X0 w0 (aE p1) fun a=>
 aa pg X0 w0 (aS 35 0 0 1 a) fun b=>
 eC pg R X0 w0 true 142 #[p0,b] fun _ c d=>
 (ay pg d c (aE p1) fun e=>
 aa pg d c (aS 35 1 1 1 e) fun g=>
 eC pg R d c true 142 #[p0,g] fun _ h i=>
 (ay pg i h (aE p1) fun j=>
 aa pg i h (aS 35 2 2 1 j) fun k=>
 eC pg R i h true 142 #[p0,k] fun _ l m=>
 fin R m l (ax #[])))
def yf (p0 p1:Value):Prop:=
 ay pg X0 w0 (aE p0) fun a=>
 aa pg X0 w0 (aS 175 0 0 1 a) fun b=>
 aa pg X0 w0 (bb 173 b) fun c=>
 aa pg X0 w0 (aJ .neq 173 (.tmp 7) (.const (.pointer none)) c (.pointer none)) fun d=>
 (ao d
 (ay pg X0 w0 (aE p0) fun e=>
 aa pg X0 w0 (aS 175 0 0 1 e) fun g=>
 aa pg X0 w0 (bb 173 g) fun h=>
 ay pg X0 w0 (aE p1) fun i=>
 aa pg X0 w0 (bb 40 i) fun j=>
 eC pg R X0 w0 true 219 #[h,j] fun _ k l=>
 (fin R l k (ax #[])))
 ((ay pg X0 w0 (aE p0) fun m=>
 aa pg X0 w0 (aS 175 1 1 1 m) fun n=>
 aa pg X0 w0 (bb 169 n) fun o=>
 eC pg R X0 w0 true 220 #[o] fun q r s=>
 ay pg s r (aE p1) fun t=>
 eU pg R s r true (dV 40 1 t q) fun _ v y=>
 (eC pg R y v true 208 #[p0] fun _ z A=>
 fin R A z (ax #[])))))
def mq (p0 p1 p2:Value):Prop:=
 ay pg X0 w0 (aE p1) fun a=>
 aa pg X0 w0 (bb 23 a) fun b=>
 aa pg X0 w0 (cK 23 3 b) fun c=>
 ((jn (fun (d:Value) (e:World) (g:XS)=>
 (jw g e (I 0) 39 fun h i j k l=>
 aa pg l k (binOp .lss 3 j d) fun m=>
 (ao m
 ((((jn (fun (n:World) (o:XS)=>
 ay pg o n (aE p1) fun q=>
 aa pg o n (bb 23 q) fun r=>
 aa pg o n (dD 23 4 r j) fun s=>
 eF pg R o n true p2 #[s] fun _ t v=>
 ((aa pg v t (binOp .add 3 j (I 1)) fun y=>
 jx h i y t v))) fun z=>
 ay pg l k (aE p0) fun A=>
 aa pg l k (aS 175 0 0 1 A) fun C=>
 aa pg l k (bb 173 C) fun D=>
 aa pg l k (aJ .eql 173 (.tmp 45) (.const (.pointer none)) D (.pointer none)) fun E=>
 (ao E
 ((ay pg l k (aE p1) fun F=>
 aa pg l k (bb 23 F) fun G=>
 eV pg R l k false (gU 23 53 4 1 #[(0,(.agg #[(.string { data:= #[] }),(I 0),(.float .f64 0),(.string { data:= #[] })]))]) fun H L M=>
 eV pg R M L true (gH 23 53 4 48 23 G H) fun N O Q=>
 ay pg Q O (aE p1) fun S=>
 eU pg R Q O true (dV 23 1 S N) fun _ T U=>
 (z T U)))
 (z k l))))))
 (fin R l k (ax #[]))))) fun V=>
 ay pg X0 w0 (aE p0) fun Y=>
 aa pg X0 w0 (aS 175 0 0 1 Y) fun Z=>
 aa pg X0 w0 (bb 173 Z) fun a0=>
 aa pg X0 w0 (aJ .neq 173 (.tmp 16) (.const (.pointer none)) a0 (.pointer none)) fun b0=>
 (ao b0
 (ay pg X0 w0 (aE p0) fun c0=>
 aa pg X0 w0 (aS 175 0 0 1 c0) fun d0=>
 aa pg X0 w0 (bb 173 d0) fun e0=>
 eC pg R X0 w0 true 206 #[e0,c] fun _ g0 h0=>
 (V c g0 h0))
 (ay pg X0 w0 (aE p0) fun i0=>
 aa pg X0 w0 (aS 175 1 1 1 i0) fun j0=>
 aa pg X0 w0 (bb 169 j0) fun k0=>
 ay pg X0 w0 (aE p0) fun l0=>
 aa pg X0 w0 (aS 175 1 1 1 l0) fun m0=>
 aa pg X0 w0 (bb 169 m0) fun n0=>
 eC pg R X0 w0 false 216 #[n0] fun o0 q0 r0=>
 eC pg R r0 q0 true 215 #[k0,o0] fun s0 t0 v0=>
 (eC pg R v0 t0 true 208 #[p0] fun _ y0 z0=>
 (ay pg z0 y0 (aE p1) fun A0=>
 eU pg R z0 y0 true (dV 23 1 A0 (.slice none 0 0)) fun _ C0 D0=>
 (V s0 C0 D0)))))))
def rT (p0 p1:Value):Prop:=
 ay pg X0 w0 (aE p1) fun a=>
 aa pg X0 w0 (aS 53 0 0 1 a) fun b=>
 eC pg R X0 w0 true 214 #[p0,b] fun _ c d=>
 (ay pg d c (aE p1) fun e=>
 aa pg d c (aS 53 1 1 3 e) fun g=>
 eC pg R d c true 221 #[p0,g] fun _ h i=>
 fin R i h (ax #[]))
def mO (p0 p1 p2:Value):Prop:=
 ay pg X0 w0 (aE p1) fun a=>
 aa pg X0 w0 (bb 54 a) fun b=>
 aa pg X0 w0 (cK 54 3 b) fun c=>
 ((jn (fun (d:Value) (e:World) (g:XS)=>
 (jw g e (I 0) 39 fun h i j k l=>
 aa pg l k (binOp .lss 3 j d) fun m=>
 (ao m
 ((((jn (fun (n:World) (o:XS)=>
 ay pg o n (aE p1) fun q=>
 aa pg o n (bb 54 q) fun r=>
 aa pg o n (dD 54 4 r j) fun s=>
 eF pg R o n true p2 #[s] fun _ t v=>
 ((aa pg v t (binOp .add 3 j (I 1)) fun y=>
 jx h i y t v))) fun z=>
 ay pg l k (aE p0) fun A=>
 aa pg l k (aS 175 0 0 1 A) fun C=>
 aa pg l k (bb 173 C) fun D=>
 aa pg l k (aJ .eql 173 (.tmp 45) (.const (.pointer none)) D (.pointer none)) fun E=>
 (ao E
 ((ay pg l k (aE p1) fun F=>
 aa pg l k (bb 54 F) fun G=>
 eV pg R l k false (gU 54 74 4 1 #[(0,(.agg #[(.string { data:= #[] }),(I 0),(.float .f64 0),(.string { data:= #[] })]))]) fun H L M=>
 eV pg R M L true (gH 54 74 4 48 54 G H) fun N O Q=>
 ay pg Q O (aE p1) fun S=>
 eU pg R Q O true (dV 54 1 S N) fun _ T U=>
 (z T U)))
 (z k l))))))
 (fin R l k (ax #[]))))) fun V=>
 ay pg X0 w0 (aE p0) fun Y=>
 aa pg X0 w0 (aS 175 0 0 1 Y) fun Z=>
 aa pg X0 w0 (bb 173 Z) fun a0=>
 aa pg X0 w0 (aJ .neq 173 (.tmp 16) (.const (.pointer none)) a0 (.pointer none)) fun b0=>
 (ao b0
 (ay pg X0 w0 (aE p0) fun c0=>
 aa pg X0 w0 (aS 175 0 0 1 c0) fun d0=>
 aa pg X0 w0 (bb 173 d0) fun e0=>
 eC pg R X0 w0 true 206 #[e0,c] fun _ g0 h0=>
 (V c g0 h0))
 (ay pg X0 w0 (aE p0) fun i0=>
 aa pg X0 w0 (aS 175 1 1 1 i0) fun j0=>
 aa pg X0 w0 (bb 169 j0) fun k0=>
 ay pg X0 w0 (aE p0) fun l0=>
 aa pg X0 w0 (aS 175 1 1 1 l0) fun m0=>
 aa pg X0 w0 (bb 169 m0) fun n0=>
 eC pg R X0 w0 false 216 #[n0] fun o0 q0 r0=>
 eC pg R r0 q0 true 215 #[k0,o0] fun s0 t0 v0=>
 (eC pg R v0 t0 true 208 #[p0] fun _ y0 z0=>
 (ay pg z0 y0 (aE p1) fun A0=>
 eU pg R z0 y0 true (dV 54 1 A0 (.slice none 0 0)) fun _ C0 D0=>
 (V s0 C0 D0)))))))
end
end Go.Proofs.YtpdkoaklobnegaaGreat
