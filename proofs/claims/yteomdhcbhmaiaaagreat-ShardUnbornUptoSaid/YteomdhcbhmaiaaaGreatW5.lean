/-
 Part 5 of the proof: what the last text leans on.
-/
import Derived.Test.YteomdhcbhmaiaaaGreatProg
import Derived.KernelRfl
import Derived.Test.YteomdhcbhmaiaaaGreatW4
open Go.Value renaming cells → aa, agg → ai, tuple → ay, int → aF
open Array renaming toList → ab
open List renaming all → aq, length → ao, toArray → aI
open Go.Op renaming unary → aQ
open Go.UnOp renaming not → aT
open Go.Instr renaming extract → aB, box → dR, makeFunc → cL, lookup → dI, mapUpdate → gI
open Go.Fn renaming func → gm
open Go.IntKind renaming u8 → dE, u64 → aZ
open Go.Builtin renaming min_ → gZ
set_option linter.unusedVariables false
set_option linter.unusedSimpArgs false
namespace Go.Proofs.YteomdhcbhmaiaaaGreat
open Go.Proofs.Tryz renaming prog → pg
open Go.aX
set_option maxRecDepth 100000
section
variable (R : Ending → World → Prop) (w0 : World) (X0 : XS)
def th (p0 p1:Value):Prop:=
 (ad pg X0 w0 (cY 28 3 p0) fun a=>
 ad pg X0 w0 (cY 28 3 p1) fun b=>
 ad pg X0 w0 (aD .neq 3 (.tmp 10) (.tmp 12) a b) fun c=>
 (au c
 (fin R X0 w0 (B false))
 (((ja X0 w0 (I 0) undef 5 6 fun d e g _ h i=>
 ad pg i h (cY 28 3 p0) fun j=>
 ad pg i h (binOp .lss 3 g j) fun k=>
 (au k
 ((ad pg i h (dy 28 2 p0 g) fun l=>
 ad pg i h (aJ 129 0 0 1 l) fun m=>
 ad pg i h (ld1 9 m) fun n=>
 ad pg i h (dy 28 2 p1 g) fun o=>
 ad pg i h (aJ 129 0 0 1 o) fun q=>
 ad pg i h (ld1 9 q) fun r=>
 ad pg i h (aD .neq 9 (.tmp 24) (.tmp 29) n r) fun s=>
 un (aK s false p0) fun t=>
 un (aK s false g) fun v=>
 aG pg i h s false (vS (dy 28 2 t v)) fun y=>
 aG pg i h s false (vS (aJ 129 1 1 1 y)) fun z=>
 aG pg i h s false (vS (ld1 127 z)) fun A=>
 aG pg i h s false (vS (cY 127 3 A)) fun C=>
 un (aK s false p1) fun D=>
 aG pg i h s false (vS (dy 28 2 D v)) fun E=>
 aG pg i h s false (vS (aJ 129 1 1 1 E)) fun F=>
 aG pg i h s false (vS (ld1 127 F)) fun G=>
 aG pg i h s false (vS (cY 127 3 G)) fun H=>
 aG pg i h s false (vS (aD .neq 3 (.tmp 37) (.tmp 43) C H)) fun L=>
 aw pg i h (aM s (B true) L) fun M=>
 (au M
 (fin R i h (B false))
 (((gU i h (I 0) 6 fun N O Q S T=>
 ad pg T S (dy 28 2 p0 g) fun U=>
 ad pg T S (aJ 129 1 1 1 U) fun V=>
 ad pg T S (ld1 127 V) fun Y=>
 ad pg T S (cY 127 3 Y) fun Z=>
 ad pg T S (binOp .lss 3 Q Z) fun a0=>
 (au a0
 ((ad pg T S (dy 28 2 p0 g) fun b0=>
 ad pg T S (aJ 129 1 1 1 b0) fun c0=>
 ad pg T S (ld1 127 c0) fun d0=>
 ad pg T S (dy 127 6 d0 Q) fun e0=>
 ad pg T S (ff 131 6 e0) fun g0=>
 ad pg T S (dy 28 2 p1 g) fun h0=>
 ad pg T S (aJ 129 1 1 1 h0) fun i0=>
 ad pg T S (ld1 127 i0) fun j0=>
 ad pg T S (dy 127 6 j0 Q) fun k0=>
 ad pg T S (ff 131 6 k0) fun l0=>
 un (ai (aa g0)) fun m0=>
 aC (ao (ab (aa g0))==6) (aC (aq (ab (aa g0)) aX.one) (un (ai (aa l0)) fun n0=>
 aC (ao (ab (aa l0))==6) (aC (aq (ab (aa l0)) aX.one) ((aC (bP m0) (aC (bP n0) (un (bV m0 0 3) fun o0=>
 un (bV n0 0 3) fun q0=>
 ad pg T S (aD .neq 27 (.tmp 73) (.tmp 75) o0 q0) fun r0=>
 un (bV m0 3 3) fun s0=>
 un (aK r0 false s0) fun t0=>
 un (bV n0 3 3) fun v0=>
 un (aK r0 false v0) fun y0=>
 jn (fun (z0:Value) (A0:World) (C0:XS)=>
 aG pg C0 A0 r0 false (vS (aQ aT z0)) fun D0=>
 aw pg C0 A0 (aM r0 (B true) D0) fun E0=>
 (au E0
 (fin R C0 A0 (B false))
 (((ad pg C0 A0 (binOp .add 3 Q (I 1)) fun F0=>
 gV N O F0 A0 C0))))) fun G0=>
 (gE r0 false (eC pg R T S true 106 #[t0,y0] G0) (G0 undef S T)))))))))))
 ((((ad pg T S (binOp .add 3 g (I 1)) fun H0=>
 jb d e H0 Q S T)))))))))))
 (fin R i h (B true))))))))
def tZ (p0 p1:Value):Prop:=
 (ad pg X0 w0 (cY 29 3 p0) fun a=>
 ad pg X0 w0 (cY 29 3 p1) fun b=>
 ad pg X0 w0 (aD .neq 3 (.tmp 7) (.tmp 9) a b) fun c=>
 (au c
 (fin R X0 w0 (B false))
 (((gU X0 w0 (I 0) 5 fun d e g h i=>
 ad pg i h (cY 29 3 p0) fun j=>
 ad pg i h (binOp .lss 3 g j) fun k=>
 (au k
 ((ad pg i h (dy 29 8 p0 g) fun l=>
 ad pg i h (ff 65 8 l) fun m=>
 ad pg i h (dy 29 8 p1 g) fun n=>
 ad pg i h (ff 65 8 n) fun o=>
 eC pg R i h true 107 #[m,o] fun q r s=>
 ad pg s r (aQ aT q) fun t=>
 (au t
 (fin R s r (B false))
 (((ad pg s r (binOp .add 3 g (I 1)) fun v=>
 gV d e v r s))))))
 (fin R i h (B true))))))))
def pU (p0:Value):Prop:=
 ((aw pg X0 w0 (az p0) fun a=>
 ad pg X0 w0 (aJ 190 0 0 1 a) fun b=>
 ad pg X0 w0 (ld1 187 b) fun c=>
 eC pg R X0 w0 true 109 #[c] fun d e g=>
 eC pg R g e true 108 #[d] fun h i j=>
 ad pg j i (cY 43 3 h) fun k=>
 (ja j i (I 0) (.slice none 0 0) 13 3 fun l m n o q r=>
 ad pg r q (binOp .lss 3 n k) fun s=>
 (au s
 ((ad pg r q (dy 43 1 h n) fun t=>
 ad pg r q (ld1 9 t) fun v=>
 (aw pg r q (az p0) fun y=>
 ad pg r q (aJ 190 0 0 1 y) fun z=>
 ad pg r q (ld1 187 z) fun A=>
 ad pg r q (dI 187 A v false) fun C=>
 eC pg R r q true 110 #[C] fun D E F=>
 ad pg F E (dK 129 #[v,D] #[(0,v),(1,D)]) fun G=>
 eV pg R F E true (fR 28 129 2 1 #[(0,G)]) fun H L M=>
 eV pg R M L true (gf 28 129 2 40 28 o H) fun N O Q=>
 ((ad pg Q O (binOp .add 3 n (I 1)) fun S=>
 jb l m S N O Q)))))
 (fin R r q o)))))
noncomputable def JC:ba:=⟨23,[],[],[0,1,2,3,4,5,6,10,21],[],[]⟩
def zL (aR aW aY bB bQ bR bS bW cN cj:Int) (bJ:Bool) (bG:Int) (cR:Nat) (cH cE cG cI:Value) (cK cm:Int) (ca cn:Nat) (cq ct cD cu cy cz:Int) (cA cB:Value):Prop:=
 eV pg R X0 w0 true (dR 91 (.agg #[(I aR),(I aW),(I aY),(I bB),(I bQ),(I bR),(I bS),(I bW),(I cN),(I cj),(B bJ),(I bG),(.float .f64 cR),cH,cE,cG,cI,(I cK),(I cm),(.float .f64 ca),(.float .f64 cn),(I cq),(I ct),(I cD),(I cu),(I cy),(I cz),cA,cB])) fun a b c=>
 (ad pg c b (ff 91 29 a) fun d=>
 eC pg R c b true 114 #[d] fun e g h=>
 (ad pg h g (aD .neq 36 (.tmp 9) (.const (I 0)) e (I 0)) fun i=>
 (au i
 ((fin R h g (ay #[(.slice none 0 0),e])))
 ((eC pg R h g true 115 #[] fun j k l=>
 (ad pg l k (dK 156 #[j,(.pointer none)] #[(0,j)]) fun m=>
 eV pg R l k true (dR 156 m) fun n o q=>
 eC pg R q o true 73 #[n,a] fun _ r s=>
 (eC pg R s r true 116 #[j] fun t v y=>
 (ad pg y v (cY 86 3 t) fun z=>
 ad pg y v (binOp .gtr 3 z (I 262144)) fun A=>
 (au A
 ((fin R y v (ay #[(.slice none 0 0),(I 2)])))
 (((fin R y v (ay #[t,(I 0)])))))))))))))
noncomputable def zM:ba:=⟨28,[],[],[0,1,4,5,6,15],[11,12,13,14],[5,6]⟩
def sf (p0:Value) (p1:Int):Prop:=
 (((ja X0 w0 (I 0) (I 0) 6 5 fun a b c d e g=>
 ad pg g e (cY 43 3 p0) fun h=>
 ad pg g e (binOp .lss 3 c h) fun i=>
 un (aK i true d) fun j=>
 un (aK i true (I p1)) fun k=>
 aG pg g e i true (vS (binOp .leq 3 j k)) fun l=>
 aw pg g e (aM i l (B false)) fun m=>
 (au m
 ((ad pg g e (dy 43 1 p0 c) fun n=>
 ad pg g e (ld1 9 n) fun o=>
 ad pg g e (mm 9 3 o) fun q=>
 ad pg g e (binOp .add 3 (I 1) q) fun r=>
 eC pg R g e true 23 #[d,r,(I p1)] fun s t v=>
 ((ad pg v t (binOp .add 3 c (I 1)) fun y=>
 jb a b y s t v))))
 (fin R g e d)))))
noncomputable def AR:ba:=⟨38,[],[],[0,1,4,5,6,15],[11,12,13,14,18],[5,6]⟩
def sR (p0:Value) (p1:Int):Prop:=
 (((ja X0 w0 (I 0) (I 0) 6 5 fun a b c d e g=>
 ad pg g e (cY 44 3 p0) fun h=>
 ad pg g e (binOp .lss 3 c h) fun i=>
 un (aK i true d) fun j=>
 un (aK i true (I p1)) fun k=>
 aG pg g e i true (vS (binOp .leq 3 j k)) fun l=>
 aw pg g e (aM i l (B false)) fun m=>
 (au m
 ((ad pg g e (dy 44 7 p0 c) fun n=>
 ad pg g e (aJ 163 0 0 1 n) fun o=>
 ad pg g e (ld1 9 o) fun q=>
 ad pg g e (mm 9 3 q) fun r=>
 ad pg g e (binOp .add 3 (I 1) r) fun s=>
 ad pg g e (dy 44 7 p0 c) fun t=>
 ad pg g e (aJ 163 1 1 3 t) fun v=>
 ad pg g e (aJ 69 2 2 1 v) fun y=>
 ad pg g e (ld1 9 y) fun z=>
 ad pg g e (mm 9 3 z) fun A=>
 eC pg R g e false 23 #[d,s,(I p1)] fun C D E=>
 eC pg R E D true 23 #[C,A,(I p1)] fun F G H=>
 ((ad pg H G (binOp .add 3 c (I 1)) fun L=>
 jb a b L F G H))))
 (fin R g e d)))))
noncomputable def yX:ba:=⟨38,[],[],[0,1,4,5,6,15],[11,12,13,14,18],[5,6]⟩
def qu (p0:Value) (p1:Int):Prop:=
 (((ja X0 w0 (I 0) (I 0) 6 5 fun a b c d e g=>
 ad pg g e (cY 45 3 p0) fun h=>
 ad pg g e (binOp .lss 3 c h) fun i=>
 un (aK i true d) fun j=>
 un (aK i true (I p1)) fun k=>
 aG pg g e i true (vS (binOp .leq 3 j k)) fun l=>
 aw pg g e (aM i l (B false)) fun m=>
 (au m
 ((ad pg g e (dy 45 4 p0 c) fun n=>
 ad pg g e (aJ 71 0 0 1 n) fun o=>
 ad pg g e (ld1 9 o) fun q=>
 ad pg g e (mm 9 3 q) fun r=>
 ad pg g e (binOp .add 3 (I 1) r) fun s=>
 ad pg g e (dy 45 4 p0 c) fun t=>
 ad pg g e (aJ 71 1 1 3 t) fun v=>
 ad pg g e (aJ 69 2 2 1 v) fun y=>
 ad pg g e (ld1 9 y) fun z=>
 ad pg g e (mm 9 3 z) fun A=>
 eC pg R g e false 23 #[d,s,(I p1)] fun C D E=>
 eC pg R E D true 23 #[C,A,(I p1)] fun F G H=>
 ((ad pg H G (binOp .add 3 c (I 1)) fun L=>
 jb a b L F G H))))
 (fin R g e d)))))
noncomputable def Cd:ba:=⟨67,[(2,(pg.cellsOf 91))],[7,11,18,27,39,49,61],[0,1,4,5,6,35],[31,32,33,34,38],[5,6]⟩
def ua (_p0_0 _p0_1 _p0_2 _p0_3 _p0_4 _p0_5 _p0_6 _p0_7 _p0_8 _p0_9:Int) (_p0_10:Bool) (_p0_11:Int) (_p0_12:Nat) (cH cE cG cI:Value) (cK cm:Int) (ca cn:Nat) (cq ct cD cu cy cz:Int) (cA cB:Value) (p1:Int):Prop:=
 (eC pg R X0 w0 false 58 #[cH,(I p1)] fun a b c=>
 eC pg R c b true 60 #[cE,(I p1)] fun d e g=>
 eC pg R g e true 23 #[a,d,(I p1)] fun h i j=>
 (ad pg j i (cY 46 3 cG) fun k=>
 ad pg j i (binOp .add 3 (I p1) (I 1)) fun l=>
 ad pg j i (gZ #[3,3] 3 #[k,l]) fun m=>
 eC pg R j i true 23 #[h,m,(I p1)] fun n o q=>
 ((ja q o (I 0) n 6 5 fun r s t v y z=>
 ad pg z y (cY 89 3 cI) fun A=>
 ad pg z y (binOp .lss 3 t A) fun C=>
 un (aK C true v) fun D=>
 un (aK C true (I p1)) fun E=>
 aG pg z y C true (vS (binOp .leq 3 D E)) fun F=>
 aw pg z y (aM C F (B false)) fun G=>
 (au G
 ((ad pg z y (dy 89 4 cI t) fun H=>
 ad pg z y (aJ 207 0 0 1 H) fun L=>
 ad pg z y (ld1 9 L) fun M=>
 ad pg z y (mm 9 3 M) fun N=>
 ad pg z y (binOp .add 3 (I 1) N) fun O=>
 ad pg z y (dy 89 4 cI t) fun Q=>
 ad pg z y (aJ 207 1 1 3 Q) fun S=>
 ad pg z y (aJ 69 2 2 1 S) fun T=>
 ad pg z y (ld1 9 T) fun U=>
 ad pg z y (mm 9 3 U) fun V=>
 eC pg R z y false 23 #[v,O,(I p1)] fun Y Z a0=>
 eC pg R a0 Z true 23 #[Y,V,(I p1)] fun b0 c0 d0=>
 ((ad pg d0 c0 (binOp .add 3 t (I 1)) fun e0=>
 jb r s e0 b0 c0 d0))))
 (((ad pg z y (binOp .add 3 v (I 1)) fun g0=>
 eC pg R z y true 6 #[(.agg #[(I cK),(I cm),(.float .f64 ca),(.float .f64 cn),(I cq),(I ct),(I cD),(I cu),(I cy),(I cz),cA,cB]),(I p1)] fun h0 i0 j0=>
 eC pg R j0 i0 true 23 #[g0,h0,(I p1)] fun k0 l0 m0=>
 (fin R m0 l0 k0)))))))))
noncomputable def PT:ba:=⟨24,[],[],[0,1,4,5,6,14],[9,10,11,12,17,18,19],[]⟩
def Gh (p0:ByteArray) (p1:Int):Prop:=
 (ad pg X0 w0 (aD .eql 9 (.tmp 7) (.const (.string { data:= #[] })) (.string p0) (.string { data:= #[] })) fun a=>
 un (aK a false (.string p0)) fun b=>
 aG pg X0 w0 a false (vS (mm 9 3 b)) fun c=>
 aG pg X0 w0 a false (vS (binOp .gtr 3 c (I 11))) fun d=>
 aw pg X0 w0 (aM a (B true) d) fun e=>
 (au e
 ((fin R X0 w0 (ay #[(.string { data:= #[] }),(I 10)])))
 (ad pg X0 w0 (binOp .lss 3 (I p1) (I 1)) fun g=>
 un (aK g false (I p1)) fun h=>
 aG pg X0 w0 g false (vS (binOp .gtr 3 h (I 99999999))) fun i=>
 aw pg X0 w0 (aM g (B true) i) fun j=>
 (au j
 ((fin R X0 w0 (ay #[(.string { data:= #[] }),(I 1)])))
 (((eC pg R X0 w0 true 117 #[(.string p0),(I p1)] fun k l m=>
 (fin R m l (ay #[k,(I 0)])))))))))
def wm (p0:Value):Prop:=
 (aw pg X0 w0 (az p0) fun a=>
 ad pg X0 w0 (aJ 97 4 4 1 a) fun b=>
 ad pg X0 w0 (ld1 4 b) fun c=>
 (fin R X0 w0 c))
def vV (p0:Value):Prop:=
 (aw pg X0 w0 (az p0) fun a=>
 ad pg X0 w0 (aJ 97 0 0 1 a) fun b=>
 ad pg X0 w0 (ld1 95 b) fun c=>
 eC pg R X0 w0 true 118 #[c] fun d e g=>
 eC pg R g e true 108 #[d] fun h i j=>
 (fin R j i h))
noncomputable def IC:ba:=⟨32,[],[],[0,1,4,5,18],[],[]⟩
def yA (p0:Value) (p1:Int):Prop:=
 (aw pg X0 w0 (az p0) fun a=>
 ad pg X0 w0 (aJ 136 0 0 1 a) fun b=>
 ad pg X0 w0 (ld1 39 b) fun c=>
 aw pg X0 w0 (az p0) fun d=>
 ad pg X0 w0 (aJ 136 1 1 1 d) fun e=>
 ad pg X0 w0 (ld1 9 e) fun g=>
 eC pg R X0 w0 false 117 #[g,(I p1)] fun h i j=>
 eC pg R j i true 121 #[c,h] fun k l m=>
 ((jn (fun (n:World) (o:XS)=>
 (fin R o n k)) fun q=>
 ad pg m l (aD .eql 36 (.tmp 17) (.const (I 0)) k (I 0)) fun r=>
 (au r
 (aw pg m l (az p0) fun s=>
 ad pg m l (aJ 136 3 3 1 s) fun t=>
 ad pg m l (ld1 134 t) fun v=>
 ad pg m l (dK 144 #[(I p1),(.slice none 0 0),(I 0)] #[(0,(I p1))]) fun y=>
 eV pg R m l true (dR 144 y) fun z A C=>
 eV pg R C A true (fR 134 145 1 1 #[(0,z)]) fun D E F=>
 eV pg R F E true (gf 134 145 1 8 134 v D) fun G H L=>
 aw pg L H (az p0) fun M=>
 ad pg L H (aJ 136 3 3 1 M) fun N=>
 eU pg R L H true (st1 134 1 N G) fun _ O Q=>
 (q O Q))
 (q l m)))))
def yB (p0:Value):Prop:=
 (aw pg X0 w0 (az p0) fun a=>
 ad pg X0 w0 (aJ 136 3 3 1 a) fun b=>
 ad pg X0 w0 (ld1 134 b) fun c=>
 aw pg X0 w0 (az p0) fun d=>
 ad pg X0 w0 (aJ 136 3 3 1 d) fun e=>
 ad pg X0 w0 (ld1 134 e) fun g=>
 ad pg X0 w0 (cY 134 3 g) fun h=>
 ad pg X0 w0 (binOp .sub 3 h (I 1)) fun i=>
 ad pg X0 w0 (dy 134 1 c i) fun j=>
 ad pg X0 w0 (ld1 145 j) fun k=>
 (fin R X0 w0 k))
def DE (p0 p1:Value):Prop:=
 aw pg X0 w0 (az p1) fun a=>
 ad pg X0 w0 (aJ 91 0 0 1 a) fun b=>
 eC pg R X0 w0 true 123 #[p0,b] fun _ c d=>
 (aw pg d c (az p1) fun e=>
 ad pg d c (aJ 91 0 0 1 e) fun g=>
 ad pg d c (ld1 3 g) fun h=>
 ((jn (fun (i:World) (j:XS)=>
 fin R j i (ay #[])) fun k=>
 ad pg d c (aD .eql 3 (.tmp 13) (.const (I 1)) h (I 1)) fun l=>
 (au l
 (aw pg d c (az p1) fun m=>
 ad pg d c (aJ 91 11 17 12 m) fun n=>
 eC pg R d c true 124 #[p0,n] fun _ o q=>
 (k o q))
 ((jn (fun (r:Value)=>
 au r
 (aw pg d c (az p1) fun s=>
 ad pg d c (aJ 91 5 11 1 s) fun t=>
 eC pg R d c true 123 #[p0,t] fun _ v y=>
 (k v y))
 (ad pg d c (aD .eql 3 (.tmp 13) (.const (I 3)) h (I 3)) fun z=>
 (au z
 (aw pg d c (az p1) fun A=>
 ad pg d c (aJ 91 1 1 3 A) fun C=>
 ad pg d c (ff 42 3 C) fun D=>
 aw pg d c (az p1) fun E=>
 ad pg d c (aJ 91 2 4 3 E) fun F=>
 ad pg d c (ff 27 3 F) fun G=>
 aw pg d c (az p1) fun H=>
 ad pg d c (aJ 91 7 13 1 H) fun L=>
 ad pg d c (ld1 43 L) fun M=>
 aw pg d c (az p1) fun N=>
 ad pg d c (aJ 91 8 14 1 N) fun O=>
 ad pg d c (ld1 45 O) fun Q=>
 un (cellOf D 0) fun S=>
 un (cellOf D 1) fun T=>
 un (cellOf D 2) fun U=>
 un (cellOf G 0) fun V=>
 un (cellOf G 1) fun Y=>
 un (cellOf G 2) fun Z=>
 ad pg d c (dK 65 #[S,T,U,V,Y,Z,M,Q] #[(0,D),(1,G),(2,M),(3,Q)]) fun a0=>
 eV pg R d c false (Instr.alloc 65 true (ay #[])) fun b0 c0 d0=>
 eU pg R d0 c0 true (st1 65 8 b0 a0) fun _ e0 g0=>
 (eC pg R g0 e0 true 125 #[p0,b0] fun _ h0 i0=>
 (ad pg i0 h0 (aJ 65 0 0 3 b0) fun j0=>
 ad pg i0 h0 (ff 42 3 j0) fun k0=>
 ad pg i0 h0 (aJ 65 1 3 3 b0) fun l0=>
 ad pg i0 h0 (ff 27 3 l0) fun m0=>
 ad pg i0 h0 (aJ 65 2 6 1 b0) fun n0=>
 ad pg i0 h0 (ld1 43 n0) fun o0=>
 ad pg i0 h0 (aJ 65 3 7 1 b0) fun q0=>
 ad pg i0 h0 (ld1 45 q0) fun r0=>
 aw pg i0 h0 (az p1) fun s0=>
 ad pg i0 h0 (aJ 91 1 1 3 s0) fun t0=>
 eU pg R i0 h0 true (st1 42 3 t0 k0) fun _ v0 y0=>
 aw pg y0 v0 (az p1) fun z0=>
 ad pg y0 v0 (aJ 91 2 4 3 z0) fun A0=>
 eU pg R y0 v0 true (st1 27 3 A0 m0) fun _ C0 D0=>
 aw pg D0 C0 (az p1) fun E0=>
 ad pg D0 C0 (aJ 91 7 13 1 E0) fun F0=>
 eU pg R D0 C0 true (st1 43 1 F0 o0) fun _ G0 H0=>
 aw pg H0 G0 (az p1) fun L0=>
 ad pg H0 G0 (aJ 91 8 14 1 L0) fun M0=>
 eU pg R H0 G0 true (st1 45 1 M0 r0) fun _ N0 O0=>
 (aw pg O0 N0 (az p1) fun Q0=>
 ad pg O0 N0 (aJ 91 9 15 1 Q0) fun S0=>
 ad pg O0 N0 (cL (gm 123) #[p0] #[]) fun T0=>
 eC pg R O0 N0 true 126 #[p0,S0,T0] fun _ U0 V0=>
 (k U0 V0)))))
 (ad pg d c (aD .eql 3 (.tmp 13) (.const (I 4)) h (I 4)) fun Y0=>
 (au Y0
 (aw pg d c (az p1) fun Z0=>
 ad pg d c (aJ 91 1 1 3 Z0) fun a1=>
 eC pg R d c true 127 #[p0,a1] fun _ b1 c1=>
 (aw pg c1 b1 (az p1) fun d1=>
 ad pg c1 b1 (aJ 91 4 10 1 d1) fun e1=>
 eC pg R c1 b1 true 128 #[p0,e1] fun _ g1 h1=>
 (aw pg h1 g1 (az p1) fun i1=>
 ad pg h1 g1 (aJ 91 2 4 3 i1) fun j1=>
 eC pg R h1 g1 true 129 #[p0,j1] fun _ k1 l1=>
 (k k1 l1))))
 (ad pg d c (aD .eql 3 (.tmp 13) (.const (I 5)) h (I 5)) fun m1=>
 (au m1
 (aw pg d c (az p1) fun n1=>
 ad pg d c (aJ 91 2 4 3 n1) fun o1=>
 eC pg R d c true 129 #[p0,o1] fun _ q1 r1=>
 (k q1 r1))
 (ad pg d c (aD .eql 3 (.tmp 13) (.const (I 6)) h (I 6)) fun s1=>
 (au s1
 (aw pg d c (az p1) fun t1=>
 ad pg d c (aJ 91 6 12 1 t1) fun v1=>
 eC pg R d c true 130 #[p0,v1] fun _ y1 z1=>
 (aw pg z1 y1 (az p1) fun A1=>
 ad pg z1 y1 (aJ 91 5 11 1 A1) fun C1=>
 eC pg R z1 y1 true 123 #[p0,C1] fun _ D1 E1=>
 (aw pg E1 D1 (az p1) fun F1=>
 ad pg E1 D1 (aJ 91 2 4 3 F1) fun G1=>
 eC pg R E1 D1 true 129 #[p0,G1] fun _ H1 L1=>
 (k H1 L1))))
 (ad pg d c (aD .eql 3 (.tmp 13) (.const (I 9)) h (I 9)) fun M1=>
 (au M1
 (aw pg d c (az p1) fun N1=>
 ad pg d c (aJ 91 1 1 3 N1) fun O1=>
 eC pg R d c true 127 #[p0,O1] fun _ Q1 S1=>
 (aw pg S1 Q1 (az p1) fun T1=>
 ad pg S1 Q1 (aJ 91 2 4 3 T1) fun U1=>
 eC pg R S1 Q1 true 129 #[p0,U1] fun _ V1 Y1=>
 (aw pg Y1 V1 (az p1) fun Z1=>
 ad pg Y1 V1 (aJ 91 9 15 1 Z1) fun a2=>
 ad pg Y1 V1 (cL (gm 123) #[p0] #[]) fun b2=>
 eC pg R Y1 V1 true 126 #[p0,a2,b2] fun _ c2 d2=>
 (k c2 d2))))
 (ad pg d c (aD .eql 3 (.tmp 13) (.const (I 10)) h (I 10)) fun e2=>
 (au e2
 (aw pg d c (az p1) fun g2=>
 ad pg d c (aJ 91 1 1 3 g2) fun h2=>
 eC pg R d c true 127 #[p0,h2] fun _ i2 j2=>
 (k i2 j2))
 (ad pg d c (aD .eql 3 (.tmp 13) (.const (I 11)) h (I 11)) fun k2=>
 (au k2
 (aw pg d c (az p1) fun l2=>
 ad pg d c (aJ 91 3 7 3 l2) fun m2=>
 eC pg R d c true 129 #[p0,m2] fun _ n2 o2=>
 (aw pg o2 n2 (az p1) fun q2=>
 ad pg o2 n2 (aJ 91 2 4 3 q2) fun r2=>
 eC pg R o2 n2 true 129 #[p0,r2] fun _ s2 t2=>
 (aw pg t2 s2 (az p1) fun v2=>
 ad pg t2 s2 (aJ 91 1 1 3 v2) fun y2=>
 eC pg R t2 s2 true 127 #[p0,y2] fun _ z2 A2=>
 (aw pg A2 z2 (az p1) fun C2=>
 ad pg A2 z2 (aJ 91 8 14 1 C2) fun D2=>
 ad pg A2 z2 (cL (gm 132) #[p0] #[]) fun E2=>
 eC pg R A2 z2 true 131 #[p0,D2,E2] fun _ F2 G2=>
 (k F2 G2)))))
 (ad pg d c (aD .eql 3 (.tmp 13) (.const (I 12)) h (I 12)) fun H2=>
 (au H2
 (aw pg d c (az p1) fun L2=>
 ad pg d c (aJ 91 2 4 3 L2) fun M2=>
 eC pg R d c true 129 #[p0,M2] fun _ N2 O2=>
 (aw pg O2 N2 (az p1) fun Q2=>
 ad pg O2 N2 (aJ 91 10 16 1 Q2) fun S2=>
 ad pg O2 N2 (cL (gm 134) #[p0] #[]) fun T2=>
 eC pg R O2 N2 true 133 #[p0,S2,T2] fun _ U2 V2=>
 (k U2 V2)))
 (k c d)))))))))))))))))) fun Y2=>
 ad pg d c (aD .eql 3 (.tmp 13) (.const (I 2)) h (I 2)) fun Z2=>
 (au Z2
 (Y2 Z2)
 (ad pg d c (aD .eql 3 (.tmp 13) (.const (I 7)) h (I 7)) fun a3=>
 (au a3
 (Y2 a3)
 (ad pg d c (aD .eql 3 (.tmp 13) (.const (I 8)) h (I 8)) fun b3=>
 (Y2 b3)))))))))))
noncomputable def Ce:ba:=⟨48,[(3,(pg.cellsOf 31))],[10,11,21,23,34,36,38],[0,1,4,18],[9,12,13,14,15,16,17,2000012,2000015],[]⟩
def tO (p0:Value) (bo bh:Int) (bp dp:Nat) (cV cW cS cM dD dC:Int) (eu ei:Value):Prop:=
 (aw pg X0 w0 (az p0) fun a=>
 ad pg X0 w0 (aJ 85 3 3 1 a) fun b=>
 ad pg X0 w0 (ld1 4 b) fun c=>
 un (aK c false (I bo)) fun d=>
 un (aK c false p0) fun e=>
 aG pg X0 w0 c false (az e) fun g=>
 aG pg X0 w0 c false (vS (aJ 85 0 0 1 g)) fun h=>
 aG pg X0 w0 c false (vS (ld1 3 h)) fun i=>
 aG pg X0 w0 c false (vS (aD .neq 3 (.tmp 12) (.tmp 16) d i)) fun j=>
 aw pg X0 w0 (aM c (B true) j) fun k=>
 (au k
 (fin R X0 w0 (B false))
 ((eC pg R X0 w0 true 100 #[eu,ei] fun l m n=>
 ad pg n m (aB l 0) fun o=>
 ad pg n m (aB l 1) fun _=>
 aw pg n m (az p0) fun q=>
 ad pg n m (aJ 85 5 8 1 q) fun r=>
 eU pg R n m true (st1 80 1 r o) fun _ s t=>
 ((jn (fun (v:World) (y:XS)=>
 (fin R y v (B true))) fun z=>
 ((((((aw pg t s (az p0) fun A=>
 (ad pg t s (aJ 85 4 4 4 A) fun C=>
 (And
 ((And
 ((And
 ((And
 ((eU pg R t s true (st1 25 4 C (.agg #[(I bo),(I bh),(.float .f64 bp),(.float .f64 dp)])) fun _ D E=>
 (aw pg E D (az p0) fun F=>
 (ad pg E D (aJ 85 8 11 3 F) fun G=>
 (eU pg R E D true (st1 27 3 G (.agg #[(I cV),(I cW),(I cS)])) fun _ H L=>
 (aw pg L H (az p0) fun M=>
 (ad pg L H (aJ 85 9 14 3 M) fun N=>
 (eU pg R L H true (st1 27 3 N (.agg #[(I cM),(I dD),(I dC)])) fun _ O Q=>
 (aw pg Q O (az p0) fun S=>
 (ad pg Q O (aJ 85 3 3 1 S) fun T=>
 (eU pg R Q O true (st1 4 1 T (B true)) fun _ U V=>
 (z U V))))))))))))
 (eU pg R t s true (st1 25 4 C (.agg #[(I bo),(I bh),(.float .f64 bp),(.float .f64 dp)])) fun _ Y Z=>
 (aw pg Z Y (az p0) fun a0=>
 (ad pg Z Y (aJ 85 8 11 3 a0) fun b0=>
 (And
 ((eU pg R Z Y true (st1 27 3 b0 (.agg #[(I cV),(I cW),(I cS)])) fun _ c0 d0=>
 (aw pg d0 c0 (az p0) fun e0=>
 (ad pg d0 c0 (aJ 85 9 14 3 e0) fun g0=>
 (eU pg R d0 c0 true (st1 27 3 g0 (.agg #[(I cM),(I dD),(I dC)])) fun _ h0 i0=>
 (aw pg i0 h0 (az p0) fun j0=>
 (ad pg i0 h0 (aJ 85 3 3 1 j0) fun k0=>
 (eU pg R i0 h0 true (st1 4 1 k0 (B true)) fun _ l0 m0=>
 (z l0 m0)))))))))
 (eU pg R Z Y true (st1 27 3 b0 (.agg #[(I cV),(I cW),(I cS)])) fun _ n0 o0=>
 ((aw pg o0 n0 (az p0) fun q0=>
 (ad pg o0 n0 (aJ 85 9 14 3 q0) fun r0=>
 (eU pg R o0 n0 true (st1 27 3 r0 (.agg #[(I cM),(I dD),(I dC)])) fun _ s0 t0=>
 (aw pg t0 s0 (az p0) fun v0=>
 (ad pg t0 s0 (aJ 85 3 3 1 v0) fun y0=>
 (eU pg R t0 s0 true (st1 4 1 y0 (B true)) fun _ z0 A0=>
 (z z0 A0)))))))))))))))
 (eU pg R t s true (st1 25 4 C (.agg #[(I bo),(I bh),(.float .f64 bp),(.float .f64 dp)])) fun _ C0 D0=>
 (aw pg D0 C0 (az p0) fun E0=>
 (ad pg D0 C0 (aJ 85 8 11 3 E0) fun F0=>
 (And
 ((And
 ((eU pg R D0 C0 true (st1 27 3 F0 (.agg #[(I cV),(I cW),(I cS)])) fun _ G0 H0=>
 (aw pg H0 G0 (az p0) fun L0=>
 (ad pg H0 G0 (aJ 85 9 14 3 L0) fun M0=>
 (eU pg R H0 G0 true (st1 27 3 M0 (.agg #[(I cM),(I dD),(I dC)])) fun _ N0 O0=>
 (aw pg O0 N0 (az p0) fun Q0=>
 (ad pg O0 N0 (aJ 85 3 3 1 Q0) fun S0=>
 (eU pg R O0 N0 true (st1 4 1 S0 (B true)) fun _ T0 U0=>
 (z T0 U0)))))))))
 (eU pg R D0 C0 true (st1 27 3 F0 (.agg #[(I cV),(I cW),(I cS)])) fun _ V0 Y0=>
 ((aw pg Y0 V0 (az p0) fun Z0=>
 (ad pg Y0 V0 (aJ 85 9 14 3 Z0) fun a1=>
 (eU pg R Y0 V0 true (st1 27 3 a1 (.agg #[(I cM),(I dD),(I dC)])) fun _ b1 c1=>
 (aw pg c1 b1 (az p0) fun d1=>
 (ad pg c1 b1 (aJ 85 3 3 1 d1) fun e1=>
 (eU pg R c1 b1 true (st1 4 1 e1 (B true)) fun _ g1 h1=>
 (z g1 h1)))))))))))
 (eU pg R D0 C0 true (st1 27 3 F0 (.agg #[(I cV),(I cW),(I cS)])) fun _ i1 j1=>
 (((aw pg j1 i1 (az p0) fun k1=>
 (ad pg j1 i1 (aJ 85 9 14 3 k1) fun l1=>
 (eU pg R j1 i1 true (st1 27 3 l1 (.agg #[(I cM),(I dD),(I dC)])) fun _ m1 n1=>
 (aw pg n1 m1 (az p0) fun o1=>
 (ad pg n1 m1 (aJ 85 3 3 1 o1) fun q1=>
 (eU pg R n1 m1 true (st1 4 1 q1 (B true)) fun _ r1 s1=>
 (z r1 s1))))))))))))))))
 (And
 ((And
 ((And
 ((eU pg R t s true (st1 25 4 C (.agg #[(I bo),(I bh),(.float .f64 bp),(.float .f64 dp)])) fun _ t1 v1=>
 (aw pg v1 t1 (az p0) fun y1=>
 (ad pg v1 t1 (aJ 85 8 11 3 y1) fun z1=>
 (eU pg R v1 t1 true (st1 27 3 z1 (.agg #[(I cV),(I cW),(I cS)])) fun _ A1 C1=>
 (aw pg C1 A1 (az p0) fun D1=>
 (ad pg C1 A1 (aJ 85 9 14 3 D1) fun E1=>
 (eU pg R C1 A1 true (st1 27 3 E1 (.agg #[(I cM),(I dD),(I dC)])) fun _ F1 G1=>
 (aw pg G1 F1 (az p0) fun H1=>
 (ad pg G1 F1 (aJ 85 3 3 1 H1) fun L1=>
 (eU pg R G1 F1 true (st1 4 1 L1 (B true)) fun _ M1 N1=>
 (z M1 N1))))))))))))
 (eU pg R t s true (st1 25 4 C (.agg #[(I bo),(I bh),(.float .f64 bp),(.float .f64 dp)])) fun _ O1 Q1=>
 (aw pg Q1 O1 (az p0) fun S1=>
 (ad pg Q1 O1 (aJ 85 8 11 3 S1) fun T1=>
 (And
 ((eU pg R Q1 O1 true (st1 27 3 T1 (.agg #[(I cV),(I cW),(I cS)])) fun _ U1 V1=>
 (aw pg V1 U1 (az p0) fun Y1=>
 (ad pg V1 U1 (aJ 85 9 14 3 Y1) fun Z1=>
 (eU pg R V1 U1 true (st1 27 3 Z1 (.agg #[(I cM),(I dD),(I dC)])) fun _ a2 b2=>
 (aw pg b2 a2 (az p0) fun c2=>
 (ad pg b2 a2 (aJ 85 3 3 1 c2) fun d2=>
 (eU pg R b2 a2 true (st1 4 1 d2 (B true)) fun _ e2 g2=>
 (z e2 g2)))))))))
 (eU pg R Q1 O1 true (st1 27 3 T1 (.agg #[(I cV),(I cW),(I cS)])) fun _ h2 i2=>
 ((aw pg i2 h2 (az p0) fun j2=>
 (ad pg i2 h2 (aJ 85 9 14 3 j2) fun k2=>
 (eU pg R i2 h2 true (st1 27 3 k2 (.agg #[(I cM),(I dD),(I dC)])) fun _ l2 m2=>
 (aw pg m2 l2 (az p0) fun n2=>
 (ad pg m2 l2 (aJ 85 3 3 1 n2) fun o2=>
 (eU pg R m2 l2 true (st1 4 1 o2 (B true)) fun _ q2 r2=>
 (z q2 r2)))))))))))))))
 (And
 ((And
 ((eU pg R t s true (st1 25 4 C (.agg #[(I bo),(I bh),(.float .f64 bp),(.float .f64 dp)])) fun _ s2 t2=>
 (aw pg t2 s2 (az p0) fun v2=>
 (ad pg t2 s2 (aJ 85 8 11 3 v2) fun y2=>
 (eU pg R t2 s2 true (st1 27 3 y2 (.agg #[(I cV),(I cW),(I cS)])) fun _ z2 A2=>
 (aw pg A2 z2 (az p0) fun C2=>
 (ad pg A2 z2 (aJ 85 9 14 3 C2) fun D2=>
 (eU pg R A2 z2 true (st1 27 3 D2 (.agg #[(I cM),(I dD),(I dC)])) fun _ E2 F2=>
 (aw pg F2 E2 (az p0) fun G2=>
 (ad pg F2 E2 (aJ 85 3 3 1 G2) fun H2=>
 (eU pg R F2 E2 true (st1 4 1 H2 (B true)) fun _ L2 M2=>
 (z L2 M2))))))))))))
 (eU pg R t s true (st1 25 4 C (.agg #[(I bo),(I bh),(.float .f64 bp),(.float .f64 dp)])) fun _ N2 O2=>
 ((aw pg O2 N2 (az p0) fun Q2=>
 (ad pg O2 N2 (aJ 85 8 11 3 Q2) fun S2=>
 (eU pg R O2 N2 true (st1 27 3 S2 (.agg #[(I cV),(I cW),(I cS)])) fun _ T2 U2=>
 (aw pg U2 T2 (az p0) fun V2=>
 (ad pg U2 T2 (aJ 85 9 14 3 V2) fun Y2=>
 (eU pg R U2 T2 true (st1 27 3 Y2 (.agg #[(I cM),(I dD),(I dC)])) fun _ Z2 a3=>
 (aw pg a3 Z2 (az p0) fun b3=>
 (ad pg a3 Z2 (aJ 85 3 3 1 b3) fun c3=>
 (eU pg R a3 Z2 true (st1 4 1 c3 (B true)) fun _ d3 e3=>
 (z d3 e3))))))))))))))
 (eU pg R t s true (st1 25 4 C (.agg #[(I bo),(I bh),(.float .f64 bp),(.float .f64 dp)])) fun _ g3 h3=>
 ((aw pg h3 g3 (az p0) fun i3=>
 (ad pg h3 g3 (aJ 85 8 11 3 i3) fun j3=>
 (And
 ((eU pg R h3 g3 true (st1 27 3 j3 (.agg #[(I cV),(I cW),(I cS)])) fun _ k3 l3=>
 (aw pg l3 k3 (az p0) fun m3=>
 (ad pg l3 k3 (aJ 85 9 14 3 m3) fun n3=>
 (eU pg R l3 k3 true (st1 27 3 n3 (.agg #[(I cM),(I dD),(I dC)])) fun _ o3 q3=>
 (aw pg q3 o3 (az p0) fun r3=>
 (ad pg q3 o3 (aJ 85 3 3 1 r3) fun s3=>
 (eU pg R q3 o3 true (st1 4 1 s3 (B true)) fun _ t3 v3=>
 (z t3 v3)))))))))
 (eU pg R h3 g3 true (st1 27 3 j3 (.agg #[(I cV),(I cW),(I cS)])) fun _ y3 z3=>
 ((aw pg z3 y3 (az p0) fun A3=>
 (ad pg z3 y3 (aJ 85 9 14 3 A3) fun C3=>
 (eU pg R z3 y3 true (st1 27 3 C3 (.agg #[(I cM),(I dD),(I dC)])) fun _ D3 E3=>
 (aw pg E3 D3 (az p0) fun F3=>
 (ad pg E3 D3 (aJ 85 3 3 1 F3) fun G3=>
 (eU pg R E3 D3 true (st1 4 1 G3 (B true)) fun _ H3 L3=>
 (z H3 L3)))))))))))))))))
 (eU pg R t s true (st1 25 4 C (.agg #[(I bo),(I bh),(.float .f64 bp),(.float .f64 dp)])) fun _ M3 N3=>
 ((aw pg N3 M3 (az p0) fun O3=>
 (ad pg N3 M3 (aJ 85 8 11 3 O3) fun Q3=>
 (And
 ((And
 ((eU pg R N3 M3 true (st1 27 3 Q3 (.agg #[(I cV),(I cW),(I cS)])) fun _ S3 T3=>
 (aw pg T3 S3 (az p0) fun U3=>
 (ad pg T3 S3 (aJ 85 9 14 3 U3) fun V3=>
 (eU pg R T3 S3 true (st1 27 3 V3 (.agg #[(I cM),(I dD),(I dC)])) fun _ Y3 Z3=>
 (aw pg Z3 Y3 (az p0) fun a4=>
 (ad pg Z3 Y3 (aJ 85 3 3 1 a4) fun b4=>
 (eU pg R Z3 Y3 true (st1 4 1 b4 (B true)) fun _ c4 d4=>
 (z c4 d4)))))))))
 (eU pg R N3 M3 true (st1 27 3 Q3 (.agg #[(I cV),(I cW),(I cS)])) fun _ e4 g4=>
 ((aw pg g4 e4 (az p0) fun h4=>
 (ad pg g4 e4 (aJ 85 9 14 3 h4) fun i4=>
 (eU pg R g4 e4 true (st1 27 3 i4 (.agg #[(I cM),(I dD),(I dC)])) fun _ j4 k4=>
 (aw pg k4 j4 (az p0) fun l4=>
 (ad pg k4 j4 (aJ 85 3 3 1 l4) fun m4=>
 (eU pg R k4 j4 true (st1 4 1 m4 (B true)) fun _ n4 o4=>
 (z n4 o4)))))))))))
 (eU pg R N3 M3 true (st1 27 3 Q3 (.agg #[(I cV),(I cW),(I cS)])) fun _ q4 r4=>
 (((aw pg r4 q4 (az p0) fun s4=>
 (ad pg r4 q4 (aJ 85 9 14 3 s4) fun t4=>
 (eU pg R r4 q4 true (st1 27 3 t4 (.agg #[(I cM),(I dD),(I dC)])) fun _ v4 y4=>
 (aw pg y4 v4 (az p0) fun z4=>
 (ad pg y4 v4 (aJ 85 3 3 1 z4) fun A4=>
 (eU pg R y4 v4 true (st1 4 1 A4 (B true)) fun _ C4 D4=>
 (z C4 D4))))))))))))))))))
 (And
 ((And
 ((And
 ((And
 ((eU pg R t s true (st1 25 4 C (.agg #[(I bo),(I bh),(.float .f64 bp),(.float .f64 dp)])) fun _ E4 F4=>
 (aw pg F4 E4 (az p0) fun G4=>
 (ad pg F4 E4 (aJ 85 8 11 3 G4) fun H4=>
 (eU pg R F4 E4 true (st1 27 3 H4 (.agg #[(I cV),(I cW),(I cS)])) fun _ L4 M4=>
 (aw pg M4 L4 (az p0) fun N4=>
 (ad pg M4 L4 (aJ 85 9 14 3 N4) fun O4=>
 (eU pg R M4 L4 true (st1 27 3 O4 (.agg #[(I cM),(I dD),(I dC)])) fun _ Q4 S4=>
 (aw pg S4 Q4 (az p0) fun T4=>
 (ad pg S4 Q4 (aJ 85 3 3 1 T4) fun U4=>
 (eU pg R S4 Q4 true (st1 4 1 U4 (B true)) fun _ V4 Y4=>
 (z V4 Y4))))))))))))
 (eU pg R t s true (st1 25 4 C (.agg #[(I bo),(I bh),(.float .f64 bp),(.float .f64 dp)])) fun _ Z4 a5=>
 (aw pg a5 Z4 (az p0) fun b5=>
 (ad pg a5 Z4 (aJ 85 8 11 3 b5) fun c5=>
 (And
 ((eU pg R a5 Z4 true (st1 27 3 c5 (.agg #[(I cV),(I cW),(I cS)])) fun _ d5 e5=>
 (aw pg e5 d5 (az p0) fun g5=>
 (ad pg e5 d5 (aJ 85 9 14 3 g5) fun h5=>
 (eU pg R e5 d5 true (st1 27 3 h5 (.agg #[(I cM),(I dD),(I dC)])) fun _ i5 j5=>
 (aw pg j5 i5 (az p0) fun k5=>
 (ad pg j5 i5 (aJ 85 3 3 1 k5) fun l5=>
 (eU pg R j5 i5 true (st1 4 1 l5 (B true)) fun _ m5 n5=>
 (z m5 n5)))))))))
 (eU pg R a5 Z4 true (st1 27 3 c5 (.agg #[(I cV),(I cW),(I cS)])) fun _ o5 q5=>
 ((aw pg q5 o5 (az p0) fun r5=>
 (ad pg q5 o5 (aJ 85 9 14 3 r5) fun s5=>
 (eU pg R q5 o5 true (st1 27 3 s5 (.agg #[(I cM),(I dD),(I dC)])) fun _ t5 v5=>
 (aw pg v5 t5 (az p0) fun y5=>
 (ad pg v5 t5 (aJ 85 3 3 1 y5) fun z5=>
 (eU pg R v5 t5 true (st1 4 1 z5 (B true)) fun _ A5 C5=>
 (z A5 C5)))))))))))))))
 (And
 ((And
 ((eU pg R t s true (st1 25 4 C (.agg #[(I bo),(I bh),(.float .f64 bp),(.float .f64 dp)])) fun _ D5 E5=>
 (aw pg E5 D5 (az p0) fun F5=>
 (ad pg E5 D5 (aJ 85 8 11 3 F5) fun G5=>
 (eU pg R E5 D5 true (st1 27 3 G5 (.agg #[(I cV),(I cW),(I cS)])) fun _ H5 L5=>
 (aw pg L5 H5 (az p0) fun M5=>
 (ad pg L5 H5 (aJ 85 9 14 3 M5) fun N5=>
 (eU pg R L5 H5 true (st1 27 3 N5 (.agg #[(I cM),(I dD),(I dC)])) fun _ O5 Q5=>
 (aw pg Q5 O5 (az p0) fun S5=>
 (ad pg Q5 O5 (aJ 85 3 3 1 S5) fun T5=>
 (eU pg R Q5 O5 true (st1 4 1 T5 (B true)) fun _ U5 V5=>
 (z U5 V5))))))))))))
 (eU pg R t s true (st1 25 4 C (.agg #[(I bo),(I bh),(.float .f64 bp),(.float .f64 dp)])) fun _ Y5 Z5=>
 ((aw pg Z5 Y5 (az p0) fun a6=>
 (ad pg Z5 Y5 (aJ 85 8 11 3 a6) fun b6=>
 (eU pg R Z5 Y5 true (st1 27 3 b6 (.agg #[(I cV),(I cW),(I cS)])) fun _ c6 d6=>
 (aw pg d6 c6 (az p0) fun e6=>
 (ad pg d6 c6 (aJ 85 9 14 3 e6) fun g6=>
 (eU pg R d6 c6 true (st1 27 3 g6 (.agg #[(I cM),(I dD),(I dC)])) fun _ h6 i6=>
 (aw pg i6 h6 (az p0) fun j6=>
 (ad pg i6 h6 (aJ 85 3 3 1 j6) fun k6=>
 (eU pg R i6 h6 true (st1 4 1 k6 (B true)) fun _ l6 m6=>
 (z l6 m6))))))))))))))
 (eU pg R t s true (st1 25 4 C (.agg #[(I bo),(I bh),(.float .f64 bp),(.float .f64 dp)])) fun _ n6 o6=>
 ((aw pg o6 n6 (az p0) fun q6=>
 (ad pg o6 n6 (aJ 85 8 11 3 q6) fun r6=>
 (And
 ((eU pg R o6 n6 true (st1 27 3 r6 (.agg #[(I cV),(I cW),(I cS)])) fun _ s6 t6=>
 (aw pg t6 s6 (az p0) fun v6=>
 (ad pg t6 s6 (aJ 85 9 14 3 v6) fun y6=>
 (eU pg R t6 s6 true (st1 27 3 y6 (.agg #[(I cM),(I dD),(I dC)])) fun _ z6 A6=>
 (aw pg A6 z6 (az p0) fun C6=>
 (ad pg A6 z6 (aJ 85 3 3 1 C6) fun D6=>
 (eU pg R A6 z6 true (st1 4 1 D6 (B true)) fun _ E6 F6=>
 (z E6 F6)))))))))
 (eU pg R o6 n6 true (st1 27 3 r6 (.agg #[(I cV),(I cW),(I cS)])) fun _ G6 H6=>
 ((aw pg H6 G6 (az p0) fun L6=>
 (ad pg H6 G6 (aJ 85 9 14 3 L6) fun M6=>
 (eU pg R H6 G6 true (st1 27 3 M6 (.agg #[(I cM),(I dD),(I dC)])) fun _ N6 O6=>
 (aw pg O6 N6 (az p0) fun Q6=>
 (ad pg O6 N6 (aJ 85 3 3 1 Q6) fun S6=>
 (eU pg R O6 N6 true (st1 4 1 S6 (B true)) fun _ T6 U6=>
 (z T6 U6)))))))))))))))))
 (And
 ((And
 ((And
 ((eU pg R t s true (st1 25 4 C (.agg #[(I bo),(I bh),(.float .f64 bp),(.float .f64 dp)])) fun _ V6 Y6=>
 (aw pg Y6 V6 (az p0) fun Z6=>
 (ad pg Y6 V6 (aJ 85 8 11 3 Z6) fun a7=>
 (eU pg R Y6 V6 true (st1 27 3 a7 (.agg #[(I cV),(I cW),(I cS)])) fun _ b7 c7=>
 (aw pg c7 b7 (az p0) fun d7=>
 (ad pg c7 b7 (aJ 85 9 14 3 d7) fun e7=>
 (eU pg R c7 b7 true (st1 27 3 e7 (.agg #[(I cM),(I dD),(I dC)])) fun _ g7 h7=>
 (aw pg h7 g7 (az p0) fun i7=>
 (ad pg h7 g7 (aJ 85 3 3 1 i7) fun j7=>
 (eU pg R h7 g7 true (st1 4 1 j7 (B true)) fun _ k7 l7=>
 (z k7 l7))))))))))))
 (eU pg R t s true (st1 25 4 C (.agg #[(I bo),(I bh),(.float .f64 bp),(.float .f64 dp)])) fun _ m7 n7=>
 ((aw pg n7 m7 (az p0) fun o7=>
 (ad pg n7 m7 (aJ 85 8 11 3 o7) fun q7=>
 (eU pg R n7 m7 true (st1 27 3 q7 (.agg #[(I cV),(I cW),(I cS)])) fun _ r7 s7=>
 (aw pg s7 r7 (az p0) fun t7=>
 (ad pg s7 r7 (aJ 85 9 14 3 t7) fun v7=>
 (eU pg R s7 r7 true (st1 27 3 v7 (.agg #[(I cM),(I dD),(I dC)])) fun _ y7 z7=>
 (aw pg z7 y7 (az p0) fun A7=>
 (ad pg z7 y7 (aJ 85 3 3 1 A7) fun C7=>
 (eU pg R z7 y7 true (st1 4 1 C7 (B true)) fun _ D7 E7=>
 (z D7 E7))))))))))))))
 (eU pg R t s true (st1 25 4 C (.agg #[(I bo),(I bh),(.float .f64 bp),(.float .f64 dp)])) fun _ F7 G7=>
 (((aw pg G7 F7 (az p0) fun H7=>
 (ad pg G7 F7 (aJ 85 8 11 3 H7) fun L7=>
 (eU pg R G7 F7 true (st1 27 3 L7 (.agg #[(I cV),(I cW),(I cS)])) fun _ M7 N7=>
 (aw pg N7 M7 (az p0) fun O7=>
 (ad pg N7 M7 (aJ 85 9 14 3 O7) fun Q7=>
 (eU pg R N7 M7 true (st1 27 3 Q7 (.agg #[(I cM),(I dD),(I dC)])) fun _ S7 T7=>
 (aw pg T7 S7 (az p0) fun U7=>
 (ad pg T7 S7 (aJ 85 3 3 1 U7) fun V7=>
 (eU pg R T7 S7 true (st1 4 1 V7 (B true)) fun _ Y7 Z7=>
 (z Y7 Z7)))))))))))))))
 (eU pg R t s true (st1 25 4 C (.agg #[(I bo),(I bh),(.float .f64 bp),(.float .f64 dp)])) fun _ a8 b8=>
 (((aw pg b8 a8 (az p0) fun c8=>
 (ad pg b8 a8 (aJ 85 8 11 3 c8) fun d8=>
 (And
 ((eU pg R b8 a8 true (st1 27 3 d8 (.agg #[(I cV),(I cW),(I cS)])) fun _ e8 g8=>
 (aw pg g8 e8 (az p0) fun h8=>
 (ad pg g8 e8 (aJ 85 9 14 3 h8) fun i8=>
 (eU pg R g8 e8 true (st1 27 3 i8 (.agg #[(I cM),(I dD),(I dC)])) fun _ j8 k8=>
 (aw pg k8 j8 (az p0) fun l8=>
 (ad pg k8 j8 (aJ 85 3 3 1 l8) fun m8=>
 (eU pg R k8 j8 true (st1 4 1 m8 (B true)) fun _ n8 o8=>
 (z n8 o8)))))))))
 (eU pg R b8 a8 true (st1 27 3 d8 (.agg #[(I cV),(I cW),(I cS)])) fun _ q8 r8=>
 ((aw pg r8 q8 (az p0) fun s8=>
 (ad pg r8 q8 (aJ 85 9 14 3 s8) fun t8=>
 (eU pg R r8 q8 true (st1 27 3 t8 (.agg #[(I cM),(I dD),(I dC)])) fun _ v8 y8=>
 (aw pg y8 v8 (az p0) fun z8=>
 (ad pg y8 v8 (aJ 85 3 3 1 z8) fun A8=>
 (eU pg R y8 v8 true (st1 4 1 A8 (B true)) fun _ C8 D8=>
 (z C8 D8))))))))))))))))))
 (eU pg R t s true (st1 25 4 C (.agg #[(I bo),(I bh),(.float .f64 bp),(.float .f64 dp)])) fun _ E8 F8=>
 (((aw pg F8 E8 (az p0) fun G8=>
 (ad pg F8 E8 (aJ 85 8 11 3 G8) fun H8=>
 (And
 ((And
 ((eU pg R F8 E8 true (st1 27 3 H8 (.agg #[(I cV),(I cW),(I cS)])) fun _ L8 M8=>
 (aw pg M8 L8 (az p0) fun N8=>
 (ad pg M8 L8 (aJ 85 9 14 3 N8) fun O8=>
 (eU pg R M8 L8 true (st1 27 3 O8 (.agg #[(I cM),(I dD),(I dC)])) fun _ Q8 S8=>
 (aw pg S8 Q8 (az p0) fun T8=>
 (ad pg S8 Q8 (aJ 85 3 3 1 T8) fun U8=>
 (eU pg R S8 Q8 true (st1 4 1 U8 (B true)) fun _ V8 Y8=>
 (z V8 Y8)))))))))
 (eU pg R F8 E8 true (st1 27 3 H8 (.agg #[(I cV),(I cW),(I cS)])) fun _ Z8 a9=>
 ((aw pg a9 Z8 (az p0) fun b9=>
 (ad pg a9 Z8 (aJ 85 9 14 3 b9) fun c9=>
 (eU pg R a9 Z8 true (st1 27 3 c9 (.agg #[(I cM),(I dD),(I dC)])) fun _ d9 e9=>
 (aw pg e9 d9 (az p0) fun g9=>
 (ad pg e9 d9 (aJ 85 3 3 1 g9) fun h9=>
 (eU pg R e9 d9 true (st1 4 1 h9 (B true)) fun _ i9 j9=>
 (z i9 j9)))))))))))
 (eU pg R F8 E8 true (st1 27 3 H8 (.agg #[(I cV),(I cW),(I cS)])) fun _ k9 l9=>
 (((aw pg l9 k9 (az p0) fun m9=>
 (ad pg l9 k9 (aJ 85 9 14 3 m9) fun n9=>
 (eU pg R l9 k9 true (st1 27 3 n9 (.agg #[(I cM),(I dD),(I dC)])) fun _ o9 q9=>
 (aw pg q9 o9 (az p0) fun r9=>
 (ad pg q9 o9 (aJ 85 3 3 1 r9) fun s9=>
 (eU pg R q9 o9 true (st1 4 1 s9 (B true)) fun _ t9 v9=>
 (z t9 v9)))))))))))))))))))))))))))))))
noncomputable def AS:ba:=⟨9,[(4,(pg.cellsOf 163))],[],[0,1],[],[]⟩
def ti (p0:Value) (p1:ByteArray):Prop:=
 (ad pg X0 w0 (dK 27 #[(I 0),(I 0),(I 0)] #[]) fun a=>
 eC pg R X0 w0 true 136 #[p0,(.string p1),a,(B true)] fun b c d=>
 un (ai (aa b)) fun e=>
 aC (ao (ab (aa b))==7) (aC (aq (ab (aa b)) aX.one) (un (bV e 0 7) fun g=>
 aC (aq [e] bP) (fin R d c g))))
noncomputable def zN:ba:=⟨72,[(4,(pg.cellsOf 65)),(8,(pg.cellsOf 65)),(11,(pg.cellsOf 163))],[17,27,34,53,57,68],[0,1,2,6,7,9,15,21,32,33,42,46,47,48,49,59,63],[],[48]⟩
def rU (p0:Value) (bo bh bp dp cV cW:Int) (cS cM p2:Value):Prop:=
 (eC pg R X0 w0 true 137 #[(.agg #[(I bo),(I bh),(I bp),(I dp),(I cV),(I cW),cS,cM])] fun a b c=>
 (ad pg c b (aD .neq 36 (.tmp 14) (.const (I 0)) a (I 0)) fun d=>
 (au d
 (fin R c b a)
 ((eC pg R c b true 138 #[cS,p2,(Value.func (gm 139) #[] #[])] fun e g h=>
 ad pg h g (aQ aT e) fun i=>
 (au i
 (fin R h g (I 4))
 ((aw pg h g (az p0) fun j=>
 ad pg h g (aJ 190 1 1 1 j) fun k=>
 ad pg h g (ld1 188 k) fun l=>
 ad pg h g (dI 188 l (.agg #[(I bo),(I bh),(I bp)]) true) fun m=>
 ad pg h g (aB m 0) fun n=>
 ad pg h g (aB m 1) fun o=>
 un (ai (aa n)) fun _=>
 aC (ao (ab (aa n))==8) (aC (aq (ab (aa n)) aX.one) (((au o
 (fin R h g (I 9))
 ((aw pg h g (az p0) fun q=>
 ad pg h g (aJ 190 2 2 3 q) fun r=>
 ad pg h g (ff 27 3 r) fun s=>
 eC pg R h g true 140 #[(.agg #[(I dp),(I cV),(I cW)]),s] fun t v y=>
 ad pg y v (binOp .leq 3 t (I 0)) fun z=>
 (au z
 (fin R y v (I 20))
 (eC pg R y v true 141 #[p0,(.agg #[(I bo),(I bh),(I bp),(I dp),(I cV),(I cW),cS,cM])] fun A C D=>
 (au A
 (fin R D C (I 18))
 (((ad pg D C (cY 44 3 p2) fun E=>
 (gU D C (I 0) 48 fun F G H L M=>
 ad pg M L (binOp .lss 3 H E) fun N=>
 (au N
 ((ad pg M L (dy 44 7 p2 H) fun O=>
 ad pg M L (ff 163 7 O) fun Q=>
 un (ai (aa Q)) fun S=>
 aC (ao (ab (aa Q))==7) (aC (aq (ab (aa Q)) aX.one) ((aC (bP S) (un (cellOf S 0) fun T=>
 eC pg R M L false 77 #[p0,T] fun U V Y=>
 ad pg Y V (W5 163 2 4 3 U) fun Z=>
 un (bV S 4 3) fun a0=>
 ad pg Y V (aD .neq 27 (.tmp 56) (.tmp 58) Z a0) fun b0=>
 (au b0
 (fin R Y V (I 19))
 (((ad pg Y V (binOp .add 3 H (I 1)) fun c0=>
 gV F G c0 V Y))))))))))
 (((eC pg R M L true 142 #[p0,(.agg #[(I bo),(I bh),(I bp),(I dp),(I cV),(I cW),cS,cM])] fun d0 e0 g0=>
 (au d0
 (fin R g0 e0 (I 20))
 ((aw pg g0 e0 (az p0) fun h0=>
 ad pg g0 e0 (aJ 190 1 1 1 h0) fun i0=>
 ad pg g0 e0 (ld1 188 i0) fun j0=>
 eC pg R g0 e0 false 101 #[(.agg #[(I bo),(I bh),(I bp),(I dp),(I cV),(I cW),cS,cM])] fun k0 l0 m0=>
 eU pg R m0 l0 true (gI 188 j0 (.agg #[(I bo),(I bh),(I bp)]) k0) fun _ n0 o0=>
 (fin R o0 n0 (I 0))))))))))))))))))))))))))))))
noncomputable def Oa:ba:=⟨11,[(2,(pg.cellsOf 27)),(3,(pg.cellsOf 27)),(4,(pg.cellsOf 27))],[],[0,1,8],[],[]⟩
def DF (aR aW aY bo bh bp:Int):Prop:=
 (eC pg R X0 w0 true 140 #[(.agg #[(I aR),(I aW),(I aY)]),(.agg #[(I bo),(I bh),(I bp)])] fun a b c=>
 ad pg c b (binOp .lss 3 a (I 0)) fun d=>
 (au d
 ((fin R c b (.agg #[(I bo),(I bh),(I bp)])))
 (((fin R c b (.agg #[(I aR),(I aW),(I aY)]))))))
noncomputable def Sc:ba:=⟨22,[(3,(pg.cellsOf 27))],[18],[0,1,4,5,6,13],[9,10,11],[]⟩
def HS (p0 bo bh bp:Int):Prop:=
 (ad pg X0 w0 (binOp .lss 3 (I p0) (I 1)) fun a=>
 un (aK a false (I p0)) fun b=>
 aG pg X0 w0 a false (vS (binOp .gtr 3 b (I 63))) fun c=>
 aw pg X0 w0 (aM a (B true) c) fun d=>
 (au d
 ((fin R X0 w0 (ay #[(.pointer none),(I 1)])))
 (eC pg R X0 w0 true 144 #[(.agg #[(I bo),(I bh),(I bp)])] fun e g h=>
 ad pg h g (aQ aT e) fun i=>
 (au i
 ((fin R h g (ay #[(.pointer none),(I 17)])))
 ((((ad pg h g (dK 249 #[(I bo),(I bh),(I p0)] #[(0,(.agg #[(I bo),(I bh),(I p0)]))]) fun j=>
 eV pg R h g true (dR 249 j) fun k l m=>
 (fin R m l (ay #[k,(I 0)]))))))))))
noncomputable def AT:ba:=⟨23,[(3,(pg.cellsOf 27))],[13],[0,1,4,7],[],[]⟩
def sH (p0:Value) (bo bh bp:Int):Prop:=
 (eC pg R X0 w0 true 144 #[(.agg #[(I bo),(I bh),(I bp)])] fun a b c=>
 ad pg c b (aQ aT a) fun d=>
 (au d
 (fin R c b (I 17))
 ((aw pg c b (az p0) fun e=>
 ad pg c b (aJ 249 0 0 3 e) fun g=>
 ad pg c b (aJ 27 2 2 1 g) fun h=>
 ad pg c b (ld1 3 h) fun i=>
 aC (aX.one i) ((aw pg c b (az p0) fun j=>
 ad pg c b (aJ 249 0 0 3 j) fun k=>
 ad pg c b (ff 27 3 k) fun l=>
 eC pg R c b true 80 #[l,(.agg #[(I bo),(I bh),i])] fun m n o=>
 aw pg o n (az p0) fun q=>
 ad pg o n (aJ 249 0 0 3 q) fun r=>
 eU pg R o n true (st1 27 3 r m) fun _ s t=>
 (fin R t s (I 0))))))))
noncomputable def ID:ba:=⟨98,[(1,(pg.cellsOf 50)),(2,(pg.cellsOf 50)),(4,(pg.cellsOf 27))],[6,13,14,15,16,17,22,23,24,25,26,27,32,33,34,35,36,37,38,43,44,45,46,47,52,53,54,55,60,61,65,66,67,68,71,72,73,77,78,81,87,88,89,90,96],[0,3,7,9,18,28,39,48,56,62,69,74,79,82,91,93],[],[]⟩
def yC (aR aW aY bB bQ bR bS bW cN cj bJ bG cR cH cE:Int) (cG:Bool) (cI cK:Int) (cm ca cn cq ct cD:Value) (cu cy:Int) (cz cA:Nat) (cB eH eI eJ eK eM:Int) (eO eP:Value):Prop:=
 (ad pg X0 w0 (dK 27 #[(I 0),(I 0),(I 0)] #[]) fun a=>
 un (ai (aa a)) fun b=>
 aC (ao (ab (aa a))==3) (aC (aq (ab (aa a)) aX.one) ((((jn (fun (c:Value)=>
 (aC (bP c) (un (bV c 0 36) fun d=>
 un (ai (aa d)) fun e=>
 aC (ao (ab (aa d))==36) (aC (aq (ab (aa d)) aX.one) ((un (bV e 0 36) fun g=>
 aC (aq [e] bP) (fin R X0 w0 (ay #[g,(B true)])))))))) fun h=>
 ad pg X0 w0 (aD .eql 3 (.tmp 7) (.const (I 1)) (I aR) (I 1)) fun i=>
 (au i
 (ad pg X0 w0 (dK 42 #[(I 0),(I 0),(I 0)] #[]) fun j=>
 aC (bP b) (un (ai (aI (cP [(I aR),(I aW),(I aY),(I bB),(I bQ),(I bR),(I bS),(I bW),(I cN),(I cj),(I bJ),(I bG),(I cR),(I cH),(I cE),(B cG),(I cI),(I cK),cm,ca,cn,cq,ct,cD,(I cu),(I cy),(.float .f64 cz),(.float .f64 cA),(I cB),(I eH),(I eI),(I eJ),(I eK),(I eM),eO,eP] 3 (ab (aa j))))) fun k=>
 aC (ao (ab (aa j))==3) (aC (aq (ab (aa j)) aX.one) (un (ai (aI (cP (ab (aa k)) 6 [(I 0)]))) fun l=>
 un (ai (aI (cP (ab (aa l)) 7 [(I 0)]))) fun m=>
 un (bV b 0 3) fun n=>
 un (ai (aI (cP (ab (aa m)) 9 (ab (aa n))))) fun o=>
 aC (ao (ab (aa n))==3) (aC (aq (ab (aa n)) aX.one) (un (ai (aI (cP (ab (aa o)) 18 [(.slice none 0 0)]))) fun q=>
 (h q)))))))
 (ad pg X0 w0 (aD .eql 3 (.tmp 7) (.const (I 2)) (I aR) (I 2)) fun r=>
 (au r
 (ad pg X0 w0 (dK 42 #[(I 0),(I 0),(I 0)] #[]) fun s=>
 aC (bP b) (un (ai (aI (cP [(I aR),(I aW),(I aY),(I bB),(I bQ),(I bR),(I bS),(I bW),(I cN),(I cj),(I bJ),(I bG),(I cR),(I cH),(I cE),(B cG),(I cI),(I cK),cm,ca,cn,cq,ct,cD,(I cu),(I cy),(.float .f64 cz),(.float .f64 cA),(I cB),(I eH),(I eI),(I eJ),(I eK),(I eM),eO,eP] 3 (ab (aa s))))) fun t=>
 aC (ao (ab (aa s))==3) (aC (aq (ab (aa s)) aX.one) (un (ai (aI (cP (ab (aa t)) 6 [(I 0)]))) fun v=>
 un (ai (aI (cP (ab (aa v)) 8 [(I 0)]))) fun y=>
 un (bV b 0 3) fun z=>
 un (ai (aI (cP (ab (aa y)) 9 (ab (aa z))))) fun A=>
 aC (ao (ab (aa z))==3) (aC (aq (ab (aa z)) aX.one) (un (ai (aI (cP (ab (aa A)) 19 [(.slice none 0 0)]))) fun C=>
 un (ai (aI (cP (ab (aa C)) 22 [(.slice none 0 0)]))) fun D=>
 (h D)))))))
 (ad pg X0 w0 (aD .eql 3 (.tmp 7) (.const (I 3)) (I aR) (I 3)) fun E=>
 (au E
 (ad pg X0 w0 (dK 42 #[(I 0),(I 0),(I 0)] #[]) fun F=>
 aC (bP b) (un (ai (aI (cP [(I aR),(I aW),(I aY),(I bB),(I bQ),(I bR),(I bS),(I bW),(I cN),(I cj),(I bJ),(I bG),(I cR),(I cH),(I cE),(B cG),(I cI),(I cK),cm,ca,cn,cq,ct,cD,(I cu),(I cy),(.float .f64 cz),(.float .f64 cA),(I cB),(I eH),(I eI),(I eJ),(I eK),(I eM),eO,eP] 3 (ab (aa F))))) fun G=>
 aC (ao (ab (aa F))==3) (aC (aq (ab (aa F)) aX.one) (un (ai (aI (cP (ab (aa G)) 6 [(I 0)]))) fun H=>
 un (ai (aI (cP (ab (aa H)) 7 [(I 0)]))) fun L=>
 un (bV b 0 3) fun M=>
 un (ai (aI (cP (ab (aa L)) 9 (ab (aa M))))) fun N=>
 aC (ao (ab (aa M))==3) (aC (aq (ab (aa M)) aX.one) (un (ai (aI (cP (ab (aa N)) 19 [(.slice none 0 0)]))) fun O=>
 un (ai (aI (cP (ab (aa O)) 20 [(.slice none 0 0)]))) fun Q=>
 un (ai (aI (cP (ab (aa Q)) 21 [(.slice none 0 0)]))) fun S=>
 (h S)))))))
 (ad pg X0 w0 (aD .eql 3 (.tmp 7) (.const (I 4)) (I aR) (I 4)) fun T=>
 (au T
 (ad pg X0 w0 (dK 42 #[(I 0),(I 0),(I 0)] #[]) fun U=>
 aC (bP b) (un (ai (aI (cP [(I aR),(I aW),(I aY),(I bB),(I bQ),(I bR),(I bS),(I bW),(I cN),(I cj),(I bJ),(I bG),(I cR),(I cH),(I cE),(B cG),(I cI),(I cK),cm,ca,cn,cq,ct,cD,(I cu),(I cy),(.float .f64 cz),(.float .f64 cA),(I cB),(I eH),(I eI),(I eJ),(I eK),(I eM),eO,eP] 3 (ab (aa U))))) fun V=>
 aC (ao (ab (aa U))==3) (aC (aq (ab (aa U)) aX.one) (un (ai (aI (cP (ab (aa V)) 6 [(I 0)]))) fun Y=>
 un (ai (aI (cP (ab (aa Y)) 8 [(I 0)]))) fun Z=>
 un (bV b 0 3) fun a0=>
 un (ai (aI (cP (ab (aa Z)) 9 (ab (aa a0))))) fun b0=>
 aC (ao (ab (aa a0))==3) (aC (aq (ab (aa a0)) aX.one) (un (ai (aI (cP (ab (aa b0)) 22 [(.slice none 0 0)]))) fun c0=>
 (h c0)))))))
 (ad pg X0 w0 (aD .eql 3 (.tmp 7) (.const (I 5)) (I aR) (I 5)) fun d0=>
 (au d0
 (ad pg X0 w0 (dK 42 #[(I 0),(I 0),(I 0)] #[]) fun e0=>
 aC (bP b) (un (ai (aI (cP [(I aR),(I aW),(I aY),(I bB),(I bQ),(I bR),(I bS),(I bW),(I cN),(I cj),(I bJ),(I bG),(I cR),(I cH),(I cE),(B cG),(I cI),(I cK),cm,ca,cn,cq,ct,cD,(I cu),(I cy),(.float .f64 cz),(.float .f64 cA),(I cB),(I eH),(I eI),(I eJ),(I eK),(I eM),eO,eP] 3 (ab (aa e0))))) fun g0=>
 aC (ao (ab (aa e0))==3) (aC (aq (ab (aa e0)) aX.one) (un (ai (aI (cP (ab (aa g0)) 6 [(I 0)]))) fun h0=>
 un (ai (aI (cP (ab (aa h0)) 15 [(B false)]))) fun i0=>
 un (bV b 0 3) fun j0=>
 un (ai (aI (cP (ab (aa i0)) 9 (ab (aa j0))))) fun k0=>
 aC (ao (ab (aa j0))==3) (aC (aq (ab (aa j0)) aX.one) (h k0))))))
 ((jn (fun (l0:Value)=>
 au l0
 (ad pg X0 w0 (dK 42 #[(I 0),(I 0),(I 0)] #[]) fun m0=>
 un (ai (aI (cP [(I aR),(I aW),(I aY),(I bB),(I bQ),(I bR),(I bS),(I bW),(I cN),(I cj),(I bJ),(I bG),(I cR),(I cH),(I cE),(B cG),(I cI),(I cK),cm,ca,cn,cq,ct,cD,(I cu),(I cy),(.float .f64 cz),(.float .f64 cA),(I cB),(I eH),(I eI),(I eJ),(I eK),(I eM),eO,eP] 3 (ab (aa m0))))) fun n0=>
 aC (ao (ab (aa m0))==3) (aC (aq (ab (aa m0)) aX.one) (un (ai (aI (cP (ab (aa n0)) 6 [(I 0)]))) fun o0=>
 (h o0))))
 (ad pg X0 w0 (aD .eql 3 (.tmp 7) (.const (I 8)) (I aR) (I 8)) fun q0=>
 (au q0
 (aC (bP b) (un (bV b 0 3) fun r0=>
 un (ai (aI (cP [(I aR),(I aW),(I aY),(I bB),(I bQ),(I bR),(I 0),(I bW),(I cN),(I cj),(I bJ),(I bG),(I cR),(I cH),(I cE),(B cG),(I 0),(I 0),cm,ca,cn,cq,ct,cD,(I cu),(I cy),(.float .f64 cz),(.float .f64 cA),(I cB),(I eH),(I eI),(I eJ),(I eK),(I eM),eO,eP] 9 (ab (aa r0))))) fun s0=>
 aC (ao (ab (aa r0))==3) (aC (aq (ab (aa r0)) aX.one) (h s0))))
 (ad pg X0 w0 (aD .eql 3 (.tmp 7) (.const (I 9)) (I aR) (I 9)) fun t0=>
 (au t0
 ((h (.agg #[(I aR),(I aW),(I aY),(I bB),(I bQ),(I bR),(I 0),(I bW),(I cN),(I cj),(I bJ),(I bG),(I cR),(I cH),(I cE),(B cG),(I 0),(I cK),cm,ca,cn,cq,ct,(.slice none 0 0),(I cu),(I cy),(.float .f64 cz),(.float .f64 cA),(I cB),(I eH),(I eI),(I eJ),(I eK),(I eM),eO,eP])))
 (ad pg X0 w0 (aD .eql 3 (.tmp 7) (.const (I 10)) (I aR) (I 10)) fun v0=>
 (au v0
 (ad pg X0 w0 (dK 31 #[(I 0),(I 0),(.float .f64 0),(.float .f64 0),(I 0),(I 0),(I 0),(I 0),(I 0),(I 0),(.slice none 0 0),(.slice none 0 0)] #[]) fun y0=>
 un (ai (aI (cP [(I aR),(I aW),(I aY),(I bB),(I bQ),(I bR),(I 0),(I bW),(I cN),(I cj),(I bJ),(I bG),(I cR),(I cH),(I cE),(B cG),(I cI),(I cK),cm,ca,cn,cq,ct,cD,(I cu),(I cy),(.float .f64 cz),(.float .f64 cA),(I cB),(I eH),(I eI),(I eJ),(I eK),(I eM),eO,eP] 24 (ab (aa y0))))) fun z0=>
 aC (ao (ab (aa y0))==12) (aC (aq (ab (aa y0)) aX.one) (h z0)))
 (ad pg X0 w0 (aD .eql 3 (.tmp 7) (.const (I 11)) (I aR) (I 11)) fun A0=>
 (au A0
 ((h (.agg #[(I aR),(I aW),(I aY),(I bB),(I bQ),(I bR),(I 0),(I bW),(I cN),(I cj),(I bJ),(I bG),(I cR),(I cH),(I cE),(B cG),(I cI),(I cK),cm,ca,cn,cq,ct,cD,(I cu),(I cy),(.float .f64 cz),(.float .f64 cA),(I cB),(I eH),(I eI),(I eJ),(I eK),(I eM),eO,eP])))
 (ad pg X0 w0 (aD .eql 3 (.tmp 7) (.const (I 12)) (I aR) (I 12)) fun C0=>
 (au C0
 (aC (bP b) (ad pg X0 w0 (dK 42 #[(I 0),(I 0),(I 0)] #[]) fun D0=>
 un (bV b 0 3) fun E0=>
 un (ai (aI (cP [(I aR),(I aW),(I aY),(I bB),(I bQ),(I bR),(I bS),(I bW),(I cN),(I cj),(I bJ),(I bG),(I cR),(I cH),(I cE),(B cG),(I cI),(I cK),cm,ca,cn,cq,ct,cD,(I cu),(I cy),(.float .f64 cz),(.float .f64 cA),(I cB),(I eH),(I eI),(I eJ),(I eK),(I eM),eO,eP] 12 (ab (aa E0))))) fun F0=>
 aC (ao (ab (aa E0))==3) (aC (aq (ab (aa E0)) aX.one) (un (ai (aI (cP (ab (aa F0)) 9 (ab (aa E0))))) fun G0=>
 aC (ao (ab (aa E0))==3) (aC (aq (ab (aa E0)) aX.one) (un (ai (aI (cP (ab (aa G0)) 3 (ab (aa D0))))) fun H0=>
 aC (ao (ab (aa D0))==3) (aC (aq (ab (aa D0)) aX.one) (un (ai (aI (cP (ab (aa H0)) 20 [(.slice none 0 0)]))) fun L0=>
 (h L0)))))))))
 (ad pg X0 w0 (aD .eql 3 (.tmp 7) (.const (I 13)) (I aR) (I 13)) fun M0=>
 (au M0
 ((h (.agg #[(I aR),(I aW),(I aY),(I bB),(I bQ),(I bR),(I bS),(I bW),(I cN),(I cj),(I bJ),(I bG),(I cR),(I cH),(I cE),(B cG),(I cI),(I cK),cm,ca,cn,cq,ct,cD,(I cu),(I cy),(.float .f64 cz),(.float .f64 cA),(I cB),(I eH),(I eI),(I eJ),(I eK),(I eM),eO,eP])))
 (ad pg X0 w0 (aD .eql 3 (.tmp 7) (.const (I 14)) (I aR) (I 14)) fun N0=>
 (au N0
 (aC (bP b) (un (bV b 0 3) fun O0=>
 un (ai (aI (cP [(I aR),(I aW),(I aY),(I bB),(I bQ),(I bR),(I bS),(I bW),(I cN),(I cj),(I bJ),(I bG),(I cR),(I cH),(I cE),(B cG),(I cI),(I cK),cm,ca,cn,cq,ct,cD,(I cu),(I cy),(.float .f64 cz),(.float .f64 cA),(I cB),(I eH),(I eI),(I eJ),(I eK),(I eM),eO,eP] 9 (ab (aa O0))))) fun Q0=>
 aC (ao (ab (aa O0))==3) (aC (aq (ab (aa O0)) aX.one) (h Q0))))
 (aC (aq [(I aR),(I aW),(I aY),(I bB),(I bQ),(I bR),(I bS),(I bW),(I cN),(I cj),(I bJ),(I bG),(I cR),(I cH),(I cE),(B cG),(I cI),(I cK),cm,ca,cn,cq,ct,cD,(I cu),(I cy),(.float .f64 cz),(.float .f64 cA),(I cB),(I eH),(I eI),(I eJ),(I eK),(I eM),eO,eP] aX.one) ((fin R X0 w0 (ay #[(.agg #[(I aR),(I aW),(I aY),(I bB),(I bQ),(I bR),(I bS),(I bW),(I cN),(I cj),(I bJ),(I bG),(I cR),(I cH),(I cE),(B cG),(I cI),(I cK),cm,ca,cn,cq,ct,cD,(I cu),(I cy),(.float .f64 cz),(.float .f64 cA),(I cB),(I eH),(I eI),(I eJ),(I eK),(I eM),eO,eP]),(B false)]))))))))))))))))))) fun S0=>
 ad pg X0 w0 (aD .eql 3 (.tmp 7) (.const (I 6)) (I aR) (I 6)) fun T0=>
 (au T0
 (S0 T0)
 (ad pg X0 w0 (aD .eql 3 (.tmp 7) (.const (I 7)) (I aR) (I 7)) fun U0=>
 (S0 U0))))))))))))))))))))
noncomputable def Ob:ba:=⟨21,[],[],[0,2],[5,6,7,8,9,10,11,13,14,15,17,18,19],[]⟩
def DG (p0:Int):Prop:=
 (eC pg R X0 w0 true 145 #[(I p0)] fun a b c=>
 un (aK a false (I p0)) fun d=>
 aG pg c b a false (vS (binOp .gtr 3 d (I 20))) fun e=>
 un (aK a false e) fun g=>
 un (aK g true (I p0)) fun h=>
 aG pg c b g true (vS (binOp .leq 3 h (I 22))) fun i=>
 aG pg c b a false (aM g i (B false)) fun j=>
 aw pg c b (aM a (B true) j) fun k=>
 un (aK k false (I p0)) fun l=>
 aG pg c b k false (vS (aD .eql 3 (.tmp 14) (.const (I 31)) l (I 31))) fun m=>
 aw pg c b (aM k (B true) m) fun n=>
 un (aK n false (I p0)) fun o=>
 aG pg c b n false (vS (aD .eql 3 (.tmp 18) (.const (I 32)) o (I 32))) fun q=>
 aw pg c b (aM n (B true) q) fun r=>
 (fin R c b r))
noncomputable def Oc:ba:=⟨132,[(1,(pg.cellsOf 50)),(3,(pg.cellsOf 31))],[6,8,13,18,23,28,34,40,45,50,54,55,59,60,65,66,72,73,79,85,91,97,107,110,114,118,122,126],[0,2,4,5],[12,14,15,17,19,20,22,24,25,27,29,30,31,33,35,36,37,39,41,42,44,46,47,49,51,52,58,61,62,64,67,68,69,71,74,75,76,78,80,81,82,84,86,87,88,90,92,93,94,96,98,99,100,103,104,106,108,109,111,112,113,115,116,117,119,120,121,123,124,125,127,128,129,130],[]⟩
def DH (_p0_0 _p0_1 _p0_2 bB bQ bR bS bW cN cj bJ bG cR cH cE:Int) (cG:Bool) (cI cK:Int) (cm ca cn cq ct cD:Value) (cu cy:Int) (cz cA:Nat) (cB eH eI eJ eK eM:Int) (eO eP:Value):Prop:=
 (aC (aq [(I cu),(I cy),(.float .f64 cz),(.float .f64 cA),(I cB),(I eH),(I eI),(I eJ),(I eK),(I eM),eO,eP] aX.one) ((ad pg X0 w0 (dK 42 #[(I 0),(I 0),(I 0)] #[]) fun a=>
 ad pg X0 w0 (aD .eql 42 (.tmp 9) (.tmp 10) (.agg #[(I bB),(I bQ),(I bR)]) a) fun b=>
 un (aK b true (I bS)) fun c=>
 aG pg X0 w0 b true (vS (aD .eql 3 (.tmp 14) (.const (I 0)) c (I 0))) fun d=>
 aw pg X0 w0 (aM b d (B false)) fun e=>
 un (aK e true (I bW)) fun g=>
 aG pg X0 w0 e true (vS (aD .eql 3 (.tmp 19) (.const (I 0)) g (I 0))) fun h=>
 aw pg X0 w0 (aM e h (B false)) fun i=>
 un (aK i true (I cN)) fun j=>
 aG pg X0 w0 i true (vS (aD .eql 36 (.tmp 24) (.const (I 0)) j (I 0))) fun k=>
 aw pg X0 w0 (aM i k (B false)) fun l=>
 un (aK l true (.agg #[(I cj),(I bJ),(I bG)])) fun m=>
 aG pg X0 w0 l true (vS (dK 27 #[(I 0),(I 0),(I 0)] #[])) fun n=>
 aG pg X0 w0 l true (vS (aD .eql 27 (.tmp 29) (.tmp 30) m n)) fun o=>
 aw pg X0 w0 (aM l o (B false)) fun q=>
 un (aK q true (.agg #[(I cR),(I cH),(I cE)])) fun r=>
 aG pg X0 w0 q true (vS (dK 27 #[(I 0),(I 0),(I 0)] #[])) fun s=>
 aG pg X0 w0 q true (vS (aD .eql 27 (.tmp 35) (.tmp 36) r s)) fun t=>
 aw pg X0 w0 (aM q t (B false)) fun v=>
 un (aK v true (B cG)) fun y=>
 aG pg X0 w0 v true (vS (aQ aT y)) fun z=>
 aw pg X0 w0 (aM v z (B false)) fun A=>
 un (aK A true (I cI)) fun C=>
 aG pg X0 w0 A true (vS (aD .eql 3 (.tmp 46) (.const (I 0)) C (I 0))) fun D=>
 aw pg X0 w0 (aM A D (B false)) fun E=>
 un (aK E true (I cK)) fun F=>
 aG pg X0 w0 E true (vS (aD .eql 3 (.tmp 51) (.const (I 0)) F (I 0))) fun G=>
 aw pg X0 w0 (aM E G (B false)) fun H=>
 (ad pg X0 w0 (aD .eql 3 (.tmp 56) (.const (I 0)) (I cu) (I 0)) fun L=>
 un (aK L true (I cy)) fun M=>
 aG pg X0 w0 L true (vS (aD .eql 3 (.tmp 61) (.const (I 0)) M (I 0))) fun N=>
 aw pg X0 w0 (aM L N (B false)) fun O=>
 un (aK O true (.float .f64 cz)) fun Q=>
 jn (fun (S:Value) (T:World) (U:XS)=>
 aG pg U T O true (vS (aD .eql 250 (.tmp 68) (.const (aF aZ 0)) S (aF aZ 0))) fun V=>
 aw pg U T (aM O V (B false)) fun Y=>
 un (aK Y true (.float .f64 cA)) fun Z=>
 jn (fun (a0:Value) (b0:World) (c0:XS)=>
 aG pg c0 b0 Y true (vS (aD .eql 250 (.tmp 75) (.const (aF aZ 0)) a0 (aF aZ 0))) fun d0=>
 aw pg c0 b0 (aM Y d0 (B false)) fun e0=>
 un (aK e0 true (.agg #[(I cB),(I eH),(I eI)])) fun g0=>
 aG pg c0 b0 e0 true (vS (dK 27 #[(I 0),(I 0),(I 0)] #[])) fun h0=>
 aG pg c0 b0 e0 true (vS (aD .eql 27 (.tmp 80) (.tmp 81) g0 h0)) fun i0=>
 aw pg c0 b0 (aM e0 i0 (B false)) fun j0=>
 un (aK j0 true (.agg #[(I eJ),(I eK),(I eM)])) fun k0=>
 aG pg c0 b0 j0 true (vS (dK 27 #[(I 0),(I 0),(I 0)] #[])) fun l0=>
 aG pg c0 b0 j0 true (vS (aD .eql 27 (.tmp 86) (.tmp 87) k0 l0)) fun m0=>
 aw pg c0 b0 (aM j0 m0 (B false)) fun n0=>
 un (aK n0 true eO) fun o0=>
 aG pg c0 b0 n0 true (vS (cY 28 3 o0)) fun q0=>
 aG pg c0 b0 n0 true (vS (aD .eql 3 (.tmp 93) (.const (I 0)) q0 (I 0))) fun r0=>
 aw pg c0 b0 (aM n0 r0 (B false)) fun s0=>
 un (aK s0 true eP) fun t0=>
 aG pg c0 b0 s0 true (vS (cY 29 3 t0)) fun v0=>
 aG pg c0 b0 s0 true (vS (aD .eql 3 (.tmp 99) (.const (I 0)) v0 (I 0))) fun y0=>
 aw pg c0 b0 (aM s0 y0 (B false)) fun z0=>
 (un (aK H true z0) fun A0=>
 aw pg c0 b0 (aM H A0 (B false)) fun C0=>
 un (aK C0 true cm) fun D0=>
 aG pg c0 b0 C0 true (vS (cY 43 3 D0)) fun E0=>
 un (aK C0 true ca) fun F0=>
 aG pg c0 b0 C0 true (vS (cY 44 3 F0)) fun G0=>
 aG pg c0 b0 C0 true (vS (binOp .add 3 E0 G0)) fun H0=>
 un (aK C0 true cn) fun L0=>
 aG pg c0 b0 C0 true (vS (cY 45 3 L0)) fun M0=>
 aG pg c0 b0 C0 true (vS (binOp .add 3 H0 M0)) fun N0=>
 un (aK C0 true cq) fun O0=>
 aG pg c0 b0 C0 true (vS (cY 46 3 O0)) fun Q0=>
 aG pg c0 b0 C0 true (vS (binOp .add 3 N0 Q0)) fun S0=>
 un (aK C0 true ct) fun T0=>
 aG pg c0 b0 C0 true (vS (cY 47 3 T0)) fun U0=>
 aG pg c0 b0 C0 true (vS (binOp .add 3 S0 U0)) fun V0=>
 un (aK C0 true cD) fun Y0=>
 aG pg c0 b0 C0 true (vS (cY 48 3 Y0)) fun Z0=>
 aG pg c0 b0 C0 true (vS (binOp .add 3 V0 Z0)) fun a1=>
 aG pg c0 b0 C0 true (vS (aD .eql 3 (.tmp 129) (.const (I 0)) a1 (I 0))) fun b1=>
 aw pg c0 b0 (aM C0 b1 (B false)) fun c1=>
 (fin R c0 b0 c1))) fun d1=>
 (gE Y true (eC pg R U T true 146 #[Z] d1) (d1 undef T U))) fun e1=>
 (gE O true (eC pg R X0 w0 true 146 #[Q] e1) (e1 undef w0 X0))))))
noncomputable def JD:ba:=⟨95,[(1,(pg.cellsOf 50))],[3,17,21,26,31,36,42,46,51,57,61,66,67,68,70,76,81,83,85,87,92],[0,2,4,5,15,40,55,74,79,90],[20,22,23,25,27,28,30,32,33,35,37,38,45,47,48,50,52,53,60,62,63,65,69,71,72],[]⟩
def zO (aR aW aY bB bQ bR bS bW cN cj bJ bG cR cH cE:Int) (cG:Bool) (cI cK:Int) (cm ca cn cq ct cD:Value) (cu cy:Int) (cz cA:Nat) (cB eH eI eJ eK eM:Int) (eO eP:Value):Prop:=
 (((jn (fun (a:Value)=>
 au a
 (eC pg R X0 w0 true 147 #[(.agg #[(I aR),(I aW),(I aY),(I bB),(I bQ),(I bR),(I bS),(I bW),(I cN),(I cj),(I bJ),(I bG),(I cR),(I cH),(I cE),(B cG),(I cI),(I cK),cm,ca,cn,cq,ct,cD,(I cu),(I cy),(.float .f64 cz),(.float .f64 cA),(I cB),(I eH),(I eI),(I eJ),(I eK),(I eM),eO,eP])] fun b c d=>
 (fin R d c b))
 (ad pg X0 w0 (aD .eql 3 (.tmp 4) (.const (I 8)) (I aR) (I 8)) fun e=>
 (au e
 (eC pg R X0 w0 true 145 #[(I bS)] fun g h i=>
 un (aK g true (I cI)) fun j=>
 aG pg i h g true (vS (binOp .geq 3 j (I 1))) fun k=>
 aw pg i h (aM g k (B false)) fun l=>
 un (aK l true (I cK)) fun m=>
 aG pg i h l true (vS (binOp .geq 3 m (I 0))) fun n=>
 aw pg i h (aM l n (B false)) fun o=>
 un (aK o true (I cK)) fun q=>
 aG pg i h o true (vS (binOp .leq 3 q (I 8))) fun r=>
 aw pg i h (aM o r (B false)) fun s=>
 un (aK s true (.agg #[(I cj),(I bJ),(I bG)])) fun t=>
 jn (fun (v:Value) (y:World) (z:XS)=>
 aw pg z y (aM s v (B false)) fun A=>
 (fin R z y A)) fun C=>
 (gE s true (eC pg R i h true 144 #[t] C) (C undef h i)))
 (ad pg X0 w0 (aD .eql 3 (.tmp 4) (.const (I 9)) (I aR) (I 9)) fun D=>
 (au D
 (eC pg R X0 w0 true 145 #[(I bS)] fun E F G=>
 un (aK E true (I cI)) fun H=>
 aG pg G F E true (vS (binOp .geq 3 H (I 1))) fun L=>
 aw pg G F (aM E L (B false)) fun M=>
 un (aK M true cD) fun N=>
 jn (fun (O:Value) (Q:World) (S:XS)=>
 aw pg S Q (aM M O (B false)) fun T=>
 (fin R S Q T)) fun U=>
 (gE M true (eC pg R G F true 148 #[N] U) (U undef F G)))
 (ad pg X0 w0 (aD .eql 3 (.tmp 4) (.const (I 10)) (I aR) (I 10)) fun V=>
 (au V
 (eC pg R X0 w0 true 145 #[(I bS)] fun Y Z a0=>
 un (aK Y true (.agg #[(I cu),(I cy),(.float .f64 cz),(.float .f64 cA),(I cB),(I eH),(I eI),(I eJ),(I eK),(I eM),eO,eP])) fun b0=>
 jn (fun (c0:Value) (d0:World) (e0:XS)=>
 aw pg e0 d0 (aM Y c0 (B false)) fun g0=>
 un (aK g0 true (I cu)) fun h0=>
 un (aK g0 true (I bS)) fun i0=>
 aG pg e0 d0 g0 true (vS (aD .eql 3 (.tmp 69) (.tmp 71) h0 i0)) fun j0=>
 aw pg e0 d0 (aM g0 j0 (B false)) fun k0=>
 (fin R e0 d0 k0)) fun l0=>
 (gE Y true (eC pg R a0 Z true 96 #[b0] l0) (l0 undef Z a0)))
 (ad pg X0 w0 (aD .eql 3 (.tmp 4) (.const (I 11)) (I aR) (I 11)) fun m0=>
 (au m0
 (eC pg R X0 w0 true 145 #[(I bS)] fun n0 o0 q0=>
 (fin R q0 o0 n0))
 (ad pg X0 w0 (aD .eql 3 (.tmp 4) (.const (I 12)) (I aR) (I 12)) fun r0=>
 (au r0
 (eC pg R X0 w0 true 149 #[(.agg #[(I cR),(I cH),(I cE)]),(.agg #[(I cj),(I bJ),(I bG)]),(.agg #[(I bB),(I bQ),(I bR)]),cn] fun s0 t0 v0=>
 (fin R v0 t0 s0))
 (ad pg X0 w0 (aD .eql 3 (.tmp 4) (.const (I 14)) (I aR) (I 14)) fun y0=>
 (au y0
 (eC pg R X0 w0 true 144 #[(.agg #[(I cj),(I bJ),(I bG)])] fun z0 A0 C0=>
 (fin R C0 A0 z0))
 (fin R X0 w0 (B true))))))))))))))) fun D0=>
 ad pg X0 w0 (aD .eql 3 (.tmp 4) (.const (I 1)) (I aR) (I 1)) fun E0=>
 (au E0
 (D0 E0)
 (ad pg X0 w0 (aD .eql 3 (.tmp 4) (.const (I 2)) (I aR) (I 2)) fun F0=>
 (au F0
 (D0 F0)
 (ad pg X0 w0 (aD .eql 3 (.tmp 4) (.const (I 3)) (I aR) (I 3)) fun G0=>
 (au G0
 (D0 G0)
 (ad pg X0 w0 (aD .eql 3 (.tmp 4) (.const (I 4)) (I aR) (I 4)) fun H0=>
 (au H0
 (D0 H0)
 (ad pg X0 w0 (aD .eql 3 (.tmp 4) (.const (I 5)) (I aR) (I 5)) fun L0=>
 (au L0
 (D0 L0)
 (ad pg X0 w0 (aD .eql 3 (.tmp 4) (.const (I 6)) (I aR) (I 6)) fun M0=>
 (au M0
 (D0 M0)
 (ad pg X0 w0 (aD .eql 3 (.tmp 4) (.const (I 7)) (I aR) (I 7)) fun N0=>
 (D0 N0))))))))))))))))
noncomputable def Fa:ba:=⟨20,[(3,(pg.cellsOf 42)),(4,(pg.cellsOf 65)),(6,(pg.cellsOf 65))],[],[0,1,5,7],[],[]⟩
def vY (p0:Value) (bo bh bp:Int):Prop:=
 (aw pg X0 w0 (az p0) fun a=>
 ad pg X0 w0 (aJ 190 1 1 1 a) fun b=>
 ad pg X0 w0 (ld1 188 b) fun c=>
 ad pg X0 w0 (dI 188 c (.agg #[(I bo),(I bh),(I bp)]) true) fun d=>
 ad pg X0 w0 (aB d 0) fun e=>
 ad pg X0 w0 (aB d 1) fun g=>
 un (ai (aa e)) fun h=>
 aC (ao (ab (aa e))==8) (aC (aq (ab (aa e)) aX.one) ((aC (bP h) (un (bV h 0 8) fun i=>
 eC pg R X0 w0 true 101 #[i] fun j k l=>
 un (ai (aa j)) fun m=>
 aC (ao (ab (aa j))==8) (aC (aq (ab (aa j)) aX.one) ((un (bV m 0 8) fun n=>
 aC (aq [m] bP) (fin R l k (ay #[n,g]))))))))))
noncomputable def DI:ba:=⟨122,[(5,(pg.cellsOf 50)),(6,(pg.cellsOf 27)),(9,(pg.cellsOf 65)),(11,(pg.cellsOf 163)),(13,(pg.cellsOf 71)),(14,(pg.cellsOf 27))],[17,27,34,36,39,47,52,54,58,60,68,85,91,99,102,104,106,116],[0,1,2,7,8,15,16,24,31,40,41,42,43,50,61,62,63,64,71,81,95,111],[],[6,9,42,63]⟩
def vi (p0:Value) (p1 _p2_0 _p2_1 _p2_2 nf nh ni _p2_6 pC _p2_8 pD lS lT _p2_12 _p2_13 _p2_14:Int) (_p2_15:Bool) (_p2_16 _p2_17:Int) (_p2_18 kB kd ll _p2_22 _p2_23:Value) (_p2_24 _p2_25:Int) (_p2_26 _p2_27:Nat) (_p2_28 _p2_29 _p2_30 _p2_31 _p2_32 _p2_33:Int) (_p2_34 _p2_35:Value):Prop:=
 (aw pg X0 w0 (az p0) fun a=>
 ad pg X0 w0 (aJ 85 4 4 4 a) fun b=>
 ad pg X0 w0 (aJ 25 1 1 1 b) fun c=>
 ad pg X0 w0 (ld1 3 c) fun d=>
 ad pg X0 w0 (aD .neq 3 (.tmp 18) (.tmp 23) (I pC) d) fun e=>
 (au e
 (ad pg X0 w0 (dK 27 #[(I 0),(I 0),(I 0)] #[]) fun g=>
 un (ai (aa g)) fun h=>
 aC (ao (ab (aa g))==3) (aC (aq (ab (aa g)) aX.one) ((un (bV h 0 3) fun i=>
 aC (aq [h] bP) (fin R X0 w0 (ay #[i,(I 21)]))))))
 ((eC pg R X0 w0 true 92 #[p0,(.agg #[(I pD),(I lS),(I lT)])] fun j k l=>
 (ad pg l k (aD .neq 36 (.tmp 30) (.const (I 0)) j (I 0)) fun m=>
 (au m
 (ad pg l k (dK 27 #[(I 0),(I 0),(I 0)] #[]) fun n=>
 un (ai (aa n)) fun o=>
 aC (ao (ab (aa n))==3) (aC (aq (ab (aa n)) aX.one) ((un (bV o 0 3) fun q=>
 aC (aq [o] bP) (fin R l k (ay #[q,j]))))))
 ((ad pg l k (dK 65 #[(I nf),(I nh),(I ni),(I 0),(I 0),(I 0),(.slice none 0 0),kd] #[(0,(.agg #[(I nf),(I nh),(I ni)])),(3,kd)]) fun r=>
 un (ai (aa r)) fun s=>
 aC (ao (ab (aa r))==8) (aC (aq (ab (aa r)) aX.one) ((ad pg l k (cY 44 3 kB) fun t=>
 (vT l k (I 0) s (.agg #[(I 0),(I 0),(I 0)]) 42 9 6 fun v y z A C D E=>
 ad pg E D (binOp .lss 3 z t) fun F=>
 (au F
 ((ad pg E D (dy 44 7 kB z) fun G=>
 ad pg E D (ff 163 7 G) fun H=>
 un (ai (aa H)) fun L=>
 aC (ao (ab (aa H))==7) (aC (aq (ab (aa H)) aX.one) ((aC (bP L) (un (cellOf L 0) fun M=>
 eC pg R E D true 150 #[p0,M] fun N O Q=>
 ad pg Q O (aQ aT N) fun S=>
 (au S
 (ad pg Q O (dK 27 #[(I 0),(I 0),(I 0)] #[]) fun T=>
 aC (bP C) (un (ai (aa T)) fun U=>
 aC (ao (ab (aa T))==3) (aC (aq (ab (aa T)) aX.one) ((un (bV U 0 3) fun V=>
 aC (aq [U] bP) (fin R Q O (ay #[V,(I 1)])))))))
 ((aC (bP A) (aC (bP L) (eV pg R Q O true (fR 43 9 1 1 #[(0,M)]) fun Y Z a0=>
 un (cellOf A 6) fun b0=>
 eV pg R a0 Z true (gf 43 9 1 16 43 b0 Y) fun c0 d0 e0=>
 un (ai (aI (cP (ab (aa A)) 6 [c0]))) fun g0=>
 aC (aX.one c0) (((ad pg e0 d0 (binOp .add 3 z (I 1)) fun h0=>
 vU v y h0 g0 C d0 e0))))))))))))))
 (((ad pg E D (cY 45 3 kd) fun i0=>
 (ja E D (I 0) C 63 6 fun j0 k0 l0 m0 n0 o0=>
 ad pg o0 n0 (binOp .lss 3 l0 i0) fun q0=>
 (au q0
 ((ad pg o0 n0 (dy 45 4 kd l0) fun r0=>
 ad pg o0 n0 (ff 71 4 r0) fun s0=>
 un (ai (aa s0)) fun t0=>
 aC (ao (ab (aa s0))==4) (aC (aq (ab (aa s0)) aX.one) ((aC (bP t0) (un (cellOf t0 0) fun v0=>
 eC pg R o0 n0 true 150 #[p0,v0] fun y0 z0 A0=>
 ad pg A0 z0 (aQ aT y0) fun C0=>
 (au C0
 (ad pg A0 z0 (dK 27 #[(I 0),(I 0),(I 0)] #[]) fun D0=>
 aC (bP m0) (un (ai (aa D0)) fun E0=>
 aC (ao (ab (aa D0))==3) (aC (aq (ab (aa D0)) aX.one) ((un (bV E0 0 3) fun F0=>
 aC (aq [E0] bP) (fin R A0 z0 (ay #[F0,(I 1)])))))))
 (((ad pg A0 z0 (binOp .add 3 l0 (I 1)) fun G0=>
 jb j0 k0 G0 m0 z0 A0))))))))))
 (((eC pg R o0 n0 true 45 #[p0,(I p1)] fun H0 L0 M0=>
 ad pg M0 L0 (aB H0 0) fun N0=>
 ad pg M0 L0 (aB H0 1) fun O0=>
 un (ai (aa N0)) fun Q0=>
 aC (ao (ab (aa N0))==3) (aC (aq (ab (aa N0)) aX.one) ((ad pg M0 L0 (aD .neq 36 (.tmp 80) (.const (I 0)) O0 (I 0)) fun S0=>
 (au S0
 (aC (bP Q0) (aC (bP m0) (un (bV Q0 0 3) fun T0=>
 un (ai (aa T0)) fun U0=>
 aC (ao (ab (aa T0))==3) (aC (aq (ab (aa T0)) aX.one) ((un (bV U0 0 3) fun V0=>
 aC (aq [U0] bP) (fin R M0 L0 (ay #[V0,O0]))))))))
 ((aC (bP Q0) (aC (bP A) (un (bV Q0 0 3) fun Y0=>
 un (ai (aI (cP (ab (aa A)) 3 (ab (aa Y0))))) fun Z0=>
 aC (ao (ab (aa Y0))==3) (aC (aq (ab (aa Y0)) aX.one) ((aw pg M0 L0 (az p0) fun a1=>
 ad pg M0 L0 (aJ 85 5 8 1 a1) fun b1=>
 ad pg M0 L0 (ld1 80 b1) fun c1=>
 aC (bP Z0) (un (bV Z0 0 8) fun d1=>
 eC pg R M0 L0 true 78 #[c1,d1,kB] fun e1 g1 h1=>
 (ad pg h1 g1 (aD .neq 36 (.tmp 94) (.const (I 0)) e1 (I 0)) fun i1=>
 (au i1
 (aC (bP Q0) (aC (bP m0) (un (ai (aa Y0)) fun j1=>
 aC (ao (ab (aa Y0))==3) (aC (aq (ab (aa Y0)) aX.one) ((un (bV j1 0 3) fun k1=>
 aC (aq [j1] bP) (fin R h1 g1 (ay #[k1,e1]))))))))
 ((aC (bP Z0) (aC (bP Q0) (un (bV Z0 0 3) fun l1=>
 un (cellOf Z0 6) fun m1=>
 un (cellOf Z0 7) fun n1=>
 un (cellOf l1 0) fun o1=>
 un (cellOf l1 1) fun q1=>
 un (cellOf l1 2) fun r1=>
 un (cellOf Y0 0) fun s1=>
 un (cellOf Y0 1) fun t1=>
 un (cellOf Y0 2) fun v1=>
 ad pg h1 g1 (dK 91 #[(I 3),o1,q1,r1,s1,t1,v1,(I 0),(I 0),(I 0),(B false),(I 0),(.float .f64 0),m1,n1,ll,(.slice none 0 0),(I 0),(I 0),(.float .f64 0),(.float .f64 0),(I 0),(I 0),(I 0),(I 0),(I 0),(I 0),(.slice none 0 0),(.slice none 0 0)] #[(0,(I 3)),(1,l1),(2,Y0),(7,m1),(8,n1),(9,ll)]) fun y1=>
 eC pg R h1 g1 true 41 #[p0,y1] fun z1 A1 C1=>
 ((jn (fun (D1:World) (E1:XS)=>
 aC (bP Q0) (aC (bP m0) (un (ai (aa Y0)) fun F1=>
 aC (ao (ab (aa Y0))==3) (aC (aq (ab (aa Y0)) aX.one) ((un (bV F1 0 3) fun G1=>
 aC (aq [F1] bP) (fin R E1 D1 (ay #[G1,z1])))))))) fun H1=>
 ad pg C1 A1 (aD .neq 36 (.tmp 110) (.const (I 0)) z1 (I 0)) fun L1=>
 (au L1
 (aw pg C1 A1 (az p0) fun M1=>
 ad pg C1 A1 (aJ 85 5 8 1 M1) fun N1=>
 ad pg C1 A1 (ld1 80 N1) fun O1=>
 aC (bP Z0) (ad pg C1 A1 (dK 27 #[(I 0),(I 0),(I 0)] #[]) fun Q1=>
 eC pg R C1 A1 true 79 #[O1,l1,(B false),Q1] fun _ S1 T1=>
 (H1 S1 T1)))
 (H1 A1 C1)))))))))))))))))))))))))))))))))))))))))))
noncomputable def DJ:ba:=⟨19,[(3,(pg.cellsOf 27))],[7],[0,1,4,5,11],[],[]⟩
def vg (p0:Value) (bo bh bp:Int):Prop:=
 (eC pg R X0 w0 true 98 #[p0,(I bo)] fun a b c=>
 ((jn (fun (d:World) (e:XS)=>
 (fin R e d a)) fun g=>
 ad pg c b (aD .eql 36 (.tmp 10) (.const (I 0)) a (I 0)) fun h=>
 (au h
 (aw pg c b (az p0) fun i=>
 ad pg c b (aJ 85 6 9 1 i) fun j=>
 ad pg c b (ld1 81 j) fun k=>
 eC pg R c b true 82 #[k,(.agg #[(I bo),(I bh),(I bp)])] fun _ l m=>
 (g l m))
 (g b c)))))
def wo (p0 p1:Value):Prop:=
 (eC pg R X0 w0 true 28 #[p0] fun a b c=>
 (ad pg c b (cY 86 3 p1) fun d=>
 ad pg c b (binOp .gtr 3 d (I 262144)) fun e=>
 (au e
 ((fin R c b (ay #[(I 0),(I 2)])))
 (ad pg c b (binOp .gtr 3 a (I 99999999)) fun g=>
 (au g
 ((fin R c b (ay #[(I 0),(I 1)])))
 ((((jn (fun (h:World) (i:XS)=>
 eC pg R i h true 69 #[p0] fun j k l=>
 (eC pg R l k true 155 #[p1] fun m n o=>
 ad pg o n (aB m 0) fun q=>
 ad pg o n (aB m 1) fun _=>
 (aw pg o n (az p0) fun r=>
 ad pg o n (aJ 136 0 0 1 r) fun s=>
 ad pg o n (ld1 39 s) fun t=>
 aw pg o n (az p0) fun v=>
 ad pg o n (aJ 136 1 1 1 v) fun y=>
 ad pg o n (ld1 9 y) fun z=>
 aw pg o n (az j) fun A=>
 ad pg o n (aJ 144 0 0 1 A) fun C=>
 ad pg o n (ld1 3 C) fun D=>
 eC pg R o n false 117 #[z,D] fun E F G=>
 eC pg R G F true 156 #[t,E,q] fun H L M=>
 (ad pg M L (aD .neq 36 (.tmp 65) (.const (I 0)) H (I 0)) fun N=>
 (au N
 ((fin R M L (ay #[(I 0),H])))
 ((aw pg M L (az j) fun O=>
 ad pg M L (aJ 144 1 1 1 O) fun Q=>
 ad pg M L (ld1 142 Q) fun S=>
 eV pg R M L false (fR 86 5 1 0 #[]) fun T U V=>
 eV pg R V U false (gf 86 5 1 1 86 T p1) fun Y Z a0=>
 eV pg R a0 Z false (fR 142 86 1 1 #[(0,Y)]) fun b0 c0 d0=>
 eV pg R d0 c0 true (gf 142 86 1 24 142 S b0) fun e0 g0 h0=>
 aw pg h0 g0 (az j) fun i0=>
 ad pg h0 g0 (aJ 144 1 1 1 i0) fun j0=>
 eU pg R h0 g0 true (st1 142 1 j0 e0) fun _ k0 l0=>
 (aw pg l0 k0 (az j) fun m0=>
 ad pg l0 k0 (aJ 144 2 2 1 m0) fun n0=>
 ad pg l0 k0 (ld1 3 n0) fun o0=>
 ad pg l0 k0 (cY 86 3 q) fun q0=>
 ad pg l0 k0 (binOp .add 3 o0 q0) fun r0=>
 aw pg l0 k0 (az j) fun s0=>
 ad pg l0 k0 (aJ 144 2 2 1 s0) fun t0=>
 eU pg R l0 k0 true (st1 3 1 t0 r0) fun _ v0 y0=>
 ((fin R y0 v0 (ay #[a,(I 0)]))))))))))) fun z0=>
 aw pg c b (az p0) fun A0=>
 ad pg c b (aJ 136 2 2 1 A0) fun C0=>
 ad pg c b (ld1 3 C0) fun D0=>
 eC pg R c b false 69 #[p0] fun E0 F0 G0=>
 aw pg G0 F0 (az E0) fun H0=>
 ad pg G0 F0 (aJ 144 2 2 1 H0) fun L0=>
 ad pg G0 F0 (ld1 3 L0) fun M0=>
 ad pg G0 F0 (binOp .geq 3 M0 D0) fun N0=>
 (au N0
 (eC pg R G0 F0 true 95 #[p0] fun O0 Q0 S0=>
 (ad pg S0 Q0 (aD .neq 36 (.tmp 34) (.const (I 0)) O0 (I 0)) fun T0=>
 (au T0
 ((fin R S0 Q0 (ay #[(I 0),O0])))
 ((eC pg R S0 Q0 true 67 #[p0,a] fun U0 V0 Y0=>
 (ad pg Y0 V0 (aD .neq 36 (.tmp 40) (.const (I 0)) U0 (I 0)) fun Z0=>
 (au Z0
 ((fin R Y0 V0 (ay #[(I 0),U0])))
 (z0 V0 Y0))))))))
 (z0 F0 G0)))))))))))
def yD (p0:Value):Prop:=
 (aw pg X0 w0 (az p0) fun a=>
 ad pg X0 w0 (aJ 136 0 0 1 a) fun b=>
 ad pg X0 w0 (ld1 39 b) fun c=>
 aw pg X0 w0 (az p0) fun d=>
 ad pg X0 w0 (aJ 136 1 1 1 d) fun e=>
 ad pg X0 w0 (ld1 9 e) fun g=>
 eC pg R X0 w0 false 69 #[p0] fun h i j=>
 aw pg j i (az h) fun k=>
 ad pg j i (aJ 144 0 0 1 k) fun l=>
 ad pg j i (ld1 3 l) fun m=>
 eC pg R j i false 117 #[g,m] fun n o q=>
 eC pg R q o true 157 #[c,n] fun r s t=>
 ((jn (fun (v:World) (y:XS)=>
 (fin R y v r)) fun z=>
 ad pg t s (aD .eql 36 (.tmp 19) (.const (I 0)) r (I 0)) fun A=>
 (au A
 (eC pg R t s true 28 #[p0] fun C D E=>
 ad pg E D (binOp .sub 3 C (I 1)) fun F=>
 aw pg E D (az p0) fun G=>
 ad pg E D (aJ 136 4 4 1 G) fun H=>
 eU pg R E D true (st1 3 1 H F) fun _ L M=>
 (z L M))
 (z s t)))))
noncomputable def Hb:ba:=⟨87,[(7,(pg.cellsOf 129)),(9,(pg.cellsOf 65)),(13,(pg.cellsOf 71))],[49,61,73,81],[0,1,2,4,5,11,29,39,42,43,44,45,52,55,56,57,58,62,63,64,65,71,74,75,76,77,84],[18,19,20,21,22,24,25,26,27,28],[44,57,64,76]⟩
def xY (aR aW:Int) (aY bB:Nat) (bQ bR bS bW cN cj:Int) (bJ bG:Value):Prop:=
 eV pg R X0 w0 true (dR 31 (.agg #[(I aR),(I aW),(.float .f64 aY),(.float .f64 bB),(I bQ),(I bR),(I bS),(I bW),(I cN),(I cj),bJ,bG])) fun a b c=>
 (ad pg c b (aJ 31 0 0 4 a) fun d=>
 ad pg c b (ff 25 4 d) fun e=>
 eC pg R c b true 111 #[e] fun g h i=>
 ad pg i h (aQ aT g) fun j=>
 aG pg i h j false (vS (aJ 31 1 4 3 a)) fun k=>
 aG pg i h j false (vS (ff 27 3 k)) fun l=>
 jn (fun (m:Value) (n:World) (o:XS)=>
 aG pg o n j false (vS (aQ aT m)) fun q=>
 aw pg o n (aM j (B true) q) fun r=>
 aG pg o n r false (vS (aJ 31 2 7 3 a)) fun s=>
 aG pg o n r false (vS (ff 27 3 s)) fun t=>
 jn (fun (v:Value) (y:World) (z:XS)=>
 aG pg z y r false (vS (aQ aT v)) fun A=>
 aw pg z y (aM r (B true) A) fun C=>
 (au C
 (fin R z y (B false))
 ((ad pg z y (aJ 31 3 10 1 a) fun D=>
 ad pg z y (ld1 28 D) fun E=>
 ad pg z y (aJ 31 4 11 1 a) fun F=>
 ad pg z y (ld1 29 F) fun G=>
 eC pg R z y true 100 #[E,G] fun H L M=>
 ad pg M L (aB H 0) fun _=>
 ad pg M L (aB H 1) fun N=>
 (ad pg M L (aD .neq 36 (.tmp 38) (.const (I 0)) N (I 0)) fun O=>
 (au O
 (fin R M L (B false))
 ((ad pg M L (cL (gm 158) #[] #[a]) fun Q=>
 (ad pg M L (aJ 31 3 10 1 a) fun S=>
 ad pg M L (ld1 28 S) fun T=>
 ad pg M L (cY 28 3 T) fun U=>
 (gU M L (I 0) 44 fun V Y Z a0 b0=>
 ad pg b0 a0 (binOp .lss 3 Z U) fun c0=>
 (au c0
 ((ad pg b0 a0 (dy 28 2 T Z) fun d0=>
 ad pg b0 a0 (ff 129 2 d0) fun e0=>
 un (ai (aa e0)) fun g0=>
 aC (ao (ab (aa e0))==2) (aC (aq (ab (aa e0)) aX.one) ((aC (bP g0) (un (cellOf g0 0) fun h0=>
 eF pg R b0 a0 true Q #[h0] fun i0 j0 k0=>
 ad pg k0 j0 (aQ aT i0) fun l0=>
 (au l0
 (fin R k0 j0 (B false))
 (((ad pg k0 j0 (binOp .add 3 Z (I 1)) fun m0=>
 gV V Y m0 j0 k0))))))))))
 (((ad pg b0 a0 (aJ 31 4 11 1 a) fun n0=>
 ad pg b0 a0 (ld1 29 n0) fun o0=>
 ad pg b0 a0 (cY 29 3 o0) fun q0=>
 (vT b0 a0 (I 0) undef undef 57 76 64 fun r0 s0 t0 _ _ v0 y0=>
 ad pg y0 v0 (binOp .lss 3 t0 q0) fun z0=>
 (au z0
 ((ad pg y0 v0 (dy 29 8 o0 t0) fun A0=>
 ad pg y0 v0 (ff 65 8 A0) fun C0=>
 un (ai (aa C0)) fun D0=>
 aC (ao (ab (aa C0))==8) (aC (aq (ab (aa C0)) aX.one) ((aC (bP D0) (un (cellOf D0 6) fun E0=>
 ad pg y0 v0 (cY 43 3 E0) fun F0=>
 (gU y0 v0 (I 0) 64 fun G0 H0 L0 M0 N0=>
 ad pg N0 M0 (binOp .lss 3 L0 F0) fun O0=>
 (au O0
 ((ad pg N0 M0 (dy 43 1 E0 L0) fun Q0=>
 ad pg N0 M0 (ld1 9 Q0) fun S0=>
 (eF pg R N0 M0 true Q #[S0] fun T0 U0 V0=>
 ad pg V0 U0 (aQ aT T0) fun Y0=>
 (au Y0
 (fin R V0 U0 (B false))
 (((ad pg V0 U0 (binOp .add 3 L0 (I 1)) fun Z0=>
 gV G0 H0 Z0 U0 V0)))))))
 (((aC (bP D0) (un (cellOf D0 7) fun a1=>
 ad pg N0 M0 (cY 45 3 a1) fun b1=>
 (gU N0 M0 (I 0) 76 fun c1 d1 e1 g1 h1=>
 ad pg h1 g1 (binOp .lss 3 e1 b1) fun i1=>
 (au i1
 ((ad pg h1 g1 (dy 45 4 a1 e1) fun j1=>
 ad pg h1 g1 (ff 71 4 j1) fun k1=>
 un (ai (aa k1)) fun l1=>
 aC (ao (ab (aa k1))==4) (aC (aq (ab (aa k1)) aX.one) ((aC (bP l1) (un (cellOf l1 0) fun m1=>
 eF pg R h1 g1 true Q #[m1] fun n1 o1 q1=>
 ad pg q1 o1 (aQ aT n1) fun r1=>
 (au r1
 (fin R q1 o1 (B false))
 (((ad pg q1 o1 (binOp .add 3 e1 (I 1)) fun s1=>
 gV c1 d1 s1 o1 q1))))))))))
 ((((ad pg h1 g1 (binOp .add 3 t0 (I 1)) fun t1=>
 vU r0 s0 t1 e1 L0 g1 h1))))))))))))))))))
 (fin R y0 v0 (B true)))))))))))))))))) fun v1=>
 (gE r false (eC pg R o n true 144 #[t] v1) (v1 undef n o))) fun y1=>
 (gE j false (eC pg R i h true 144 #[l] y1) (y1 undef h i)))
noncomputable def Fb:ba:=⟨35,[(4,(pg.cellsOf 27)),(6,(pg.cellsOf 27))],[13,16,23,27,28,30],[0,1,5,17,21,29],[],[]⟩
def vX (p0:Value) (p1:Int):Prop:=
 (ad pg X0 w0 (Builtin.max_ #[3,3] 3 #[(I p1),(I 0)]) fun a=>
 (aw pg X0 w0 (az p0) fun b=>
 ad pg X0 w0 (aJ 249 0 0 3 b) fun c=>
 ad pg X0 w0 (ff 27 3 c) fun d=>
 un (ai (aa d)) fun e=>
 aC (ao (ab (aa d))==3) (aC (aq (ab (aa d)) aX.one) (((jn (fun (g:Value)=>
 (aC (bP g) (un (bV g 0 3) fun h=>
 un (ai (aa h)) fun i=>
 aC (ao (ab (aa h))==3) (aC (aq (ab (aa h)) aX.one) ((un (bV i 0 3) fun j=>
 aC (aq [i] bP) (fin R X0 w0 (ay #[j,(I 0)])))))))) fun k=>
 ad pg X0 w0 (binOp .gtr 3 a (I 281474976710656)) fun l=>
 (au l
 (ad pg X0 w0 (dK 27 #[(I 0),(I 0),(I 0)] #[]) fun m=>
 un (ai (aa m)) fun n=>
 aC (ao (ab (aa m))==3) (aC (aq (ab (aa m)) aX.one) ((un (bV n 0 3) fun o=>
 aC (aq [n] bP) (fin R X0 w0 (ay #[o,(I 15)]))))))
 (aC (bP e) (un (cellOf e 0) fun q=>
 ad pg X0 w0 (binOp .gtr 3 a q) fun r=>
 (au r
 (aC (bP e) (un (ai (aI (cP (ab (aa e)) 0 [a]))) fun s=>
 aC (aX.one a) (un (ai (aI (cP (ab (aa s)) 1 [(I 0)]))) fun t=>
 (k t))))
 (aC (bP e) (un (cellOf e 1) fun v=>
 ad pg X0 w0 (binOp .geq 3 v (I 65535)) fun y=>
 (au y
 (ad pg X0 w0 (dK 27 #[(I 0),(I 0),(I 0)] #[]) fun z=>
 un (ai (aa z)) fun A=>
 aC (ao (ab (aa z))==3) (aC (aq (ab (aa z)) aX.one) ((un (bV A 0 3) fun C=>
 aC (aq [A] bP) (fin R X0 w0 (ay #[C,(I 16)]))))))
 (aC (bP e) (ad pg X0 w0 (binOp .add 3 v (I 1)) fun D=>
 un (ai (aI (cP (ab (aa e)) 1 [D]))) fun E=>
 aC (aX.one D) (k E))))))))))))))))
noncomputable def Cf:ba:=⟨27,[],[],[0,1,4,5,6,12,21],[],[]⟩
def tM (p0:Value) (p1:Int):Prop:=
 (aw pg X0 w0 (az p0) fun a=>
 ad pg X0 w0 (aJ 85 7 10 1 a) fun b=>
 ad pg X0 w0 (ld1 3 b) fun c=>
 ad pg X0 w0 (binOp .geq 3 c (I p1)) fun d=>
 (au d
 (fin R X0 w0 (I 0))
 ((ad pg X0 w0 (binOp .add 3 (I p1) (I 16)) fun e=>
 ad pg X0 w0 (gZ #[3,3] 3 #[e,(I 281474976710656)]) fun g=>
 (ad pg X0 w0 (dK 91 #[(I 2),(I 0),(I 0),(I 0),(I 0),(I 0),(I 0),(I 0),(I 0),(I 0),(B false),g,(.float .f64 0),(.slice none 0 0),(.slice none 0 0),(.slice none 0 0),(.slice none 0 0),(I 0),(I 0),(.float .f64 0),(.float .f64 0),(I 0),(I 0),(I 0),(I 0),(I 0),(I 0),(.slice none 0 0),(.slice none 0 0)] #[(0,(I 2)),(5,g)]) fun h=>
 eC pg R X0 w0 true 41 #[p0,h] fun i j k=>
 ((jn (fun (l:World) (m:XS)=>
 (fin R m l i)) fun n=>
 ad pg k j (aD .eql 36 (.tmp 20) (.const (I 0)) i (I 0)) fun o=>
 (au o
 (aw pg k j (az p0) fun q=>
 ad pg k j (aJ 85 7 10 1 q) fun r=>
 eU pg R k j true (st1 3 1 r g) fun _ s t=>
 (n s t))
 (n j k)))))))))
noncomputable def Hc:ba:=⟨22,[(4,(pg.cellsOf 27)),(6,(pg.cellsOf 27))],[],[0,1,5,7,15],[],[]⟩
def xy (p0:Value) (p1:Int):Prop:=
 (eC pg R X0 w0 true 97 #[p0,(I p1)] fun a b c=>
 ad pg c b (aB a 0) fun d=>
 ad pg c b (aB a 1) fun e=>
 un (ai (aa d)) fun g=>
 aC (ao (ab (aa d))==3) (aC (aq (ab (aa d)) aX.one) (((jn (fun (h:World) (i:XS)=>
 aC (bP g) (un (bV g 0 3) fun j=>
 un (ai (aa j)) fun k=>
 aC (ao (ab (aa j))==3) (aC (aq (ab (aa j)) aX.one) ((un (bV k 0 3) fun l=>
 aC (aq [k] bP) (fin R i h (ay #[l,e]))))))) fun m=>
 ad pg c b (aD .eql 36 (.tmp 14) (.const (I 0)) e (I 0)) fun n=>
 (au n
 (aC (bP g) (aw pg c b (az p0) fun o=>
 ad pg c b (aJ 249 0 0 3 o) fun q=>
 un (bV g 0 3) fun r=>
 eU pg R c b true (st1 27 3 q r) fun _ s t=>
 (m s t)))
 (m b c)))))))
def DK (p0 p1:Value):Prop:=
 (eC pg R X0 w0 true 161 #[] fun a b c=>
 ((ad pg c b (cY 28 3 p0) fun d=>
 (ja c b (I 0) (.string { data:= #[] }) 18 7 fun e g h i j k=>
 ad pg k j (binOp .lss 3 h d) fun l=>
 (au l
 ((ad pg k j (dy 28 2 p0 h) fun m=>
 ad pg k j (ff 129 2 m) fun n=>
 un (ai (aa n)) fun o=>
 aC (ao (ab (aa n))==2) (aC (aq (ab (aa n)) aX.one) ((aC (bP o) (un (bV o 0 2) fun q=>
 eC pg R k j true 162 #[q,i] fun r s t=>
 ad pg t s (aQ aT r) fun v=>
 (au v
 ((fin R t s (ay #[(.pointer none),(I 4)])))
 ((aw pg t s (az a) fun y=>
 ad pg t s (aJ 190 0 0 1 y) fun z=>
 ad pg t s (ld1 187 z) fun A=>
 aC (bP o) (un (cellOf o 1) fun C=>
 eC pg R t s false 110 #[C] fun D E F=>
 un (cellOf o 0) fun G=>
 eU pg R F E true (gI 187 A G D) fun _ H L=>
 (aC (bP o) (((ad pg L H (binOp .add 3 h (I 1)) fun M=>
 jb e g M G H L))))))))))))))
 (((ad pg k j (cY 29 3 p1) fun N=>
 (gU k j (I 0) 40 fun O Q S T U=>
 ad pg U T (binOp .lss 3 S N) fun V=>
 (au V
 ((ad pg U T (dy 29 8 p1 S) fun Y=>
 ad pg U T (ff 65 8 Y) fun Z=>
 un (ai (aa Z)) fun a0=>
 aC (ao (ab (aa Z))==8) (aC (aq (ab (aa Z)) aX.one) ((aC (bP a0) (un (bV a0 0 8) fun b0=>
 eC pg R U T true 137 #[b0] fun c0 d0 e0=>
 (aw pg e0 d0 (az a) fun g0=>
 ad pg e0 d0 (aJ 190 1 1 1 g0) fun h0=>
 ad pg e0 d0 (ld1 188 h0) fun i0=>
 aC (bP a0) (un (bV a0 0 3) fun j0=>
 ad pg e0 d0 (dI 188 i0 j0 true) fun k0=>
 ad pg e0 d0 (aB k0 0) fun l0=>
 ad pg e0 d0 (aB k0 1) fun m0=>
 un (ai (aa l0)) fun _=>
 aC (ao (ab (aa l0))==8) (aC (aq (ab (aa l0)) aX.one) ((ad pg e0 d0 (aD .neq 36 (.tmp 57) (.const (I 0)) c0 (I 0)) fun n0=>
 (au n0
 ((fin R e0 d0 (ay #[(.pointer none),c0])))
 ((au m0
 ((fin R e0 d0 (ay #[(.pointer none),(I 9)])))
 (aC (bP a0) (eC pg R e0 d0 true 141 #[a,b0] fun o0 q0 r0=>
 (au o0
 ((fin R r0 q0 (ay #[(.pointer none),(I 18)])))
 (aC (bP a0) (eC pg R r0 q0 true 142 #[a,b0] fun s0 t0 v0=>
 (au s0
 ((fin R v0 t0 (ay #[(.pointer none),(I 20)])))
 (((aw pg v0 t0 (az a) fun y0=>
 ad pg v0 t0 (aJ 190 1 1 1 y0) fun z0=>
 ad pg v0 t0 (ld1 188 z0) fun A0=>
 aC (bP a0) (eC pg R v0 t0 false 101 #[b0] fun C0 D0 E0=>
 eU pg R E0 D0 true (gI 188 A0 j0 C0) fun _ F0 G0=>
 ((ad pg G0 F0 (binOp .add 3 S (I 1)) fun H0=>
 gV O Q H0 F0 G0))))))))))))))))))))))))))
 ((((fin R U T (ay #[a,(I 0)])))))))))))))))
noncomputable def Li:ba:=⟨12,[(1,(pg.cellsOf 65)),(2,(pg.cellsOf 65))],[3,6,7,10],[0],[],[]⟩
def BL (aR aW aY bB bQ bR:Int) (bS bW:Value):Prop:=
 (eC pg R X0 w0 true 163 #[bS] fun a b c=>
 aC (aX.one a) ((eC pg R c b true 164 #[bW] fun d e g=>
 aC (aX.one d) ((aC (aq [(I aR),(I aW),(I aY),(I bB),(I bQ),(I bR),a,d] aX.one) ((fin R g e (.agg #[(I aR),(I aW),(I aY),(I bB),(I bQ),(I bR),a,d]))))))))
noncomputable def IE:ba:=⟨10,[],[],[0,1,4],[],[]⟩
def yE (p0 p1:Nat):Prop:=
 (eC pg R X0 w0 true 146 #[(.float .f64 p0)] fun a b c=>
 eC pg R c b true 146 #[(.float .f64 p1)] fun d e g=>
 ad pg g e (aD .eql 250 (.tmp 6) (.tmp 8) a d) fun h=>
 (fin R g e h))
noncomputable def Hd:ba:=⟨24,[(2,(pg.cellsOf 69)),(3,(pg.cellsOf 69))],[5,7,11,13,18,20],[0,1,4],[10,12,14,15,17,19,21,22],[]⟩
def xZ (aR:Int) (aW:Nat) (aY:ByteArray) (bo:Int) (bh:Nat) (bp:ByteArray):Prop:=
 (ad pg X0 w0 (aD .eql 3 (.tmp 6) (.tmp 8) (I aR) (I bo)) fun a=>
 un (aK a true (.string aY)) fun b=>
 un (aK a true (.string bp)) fun c=>
 aG pg X0 w0 a true (vS (aD .eql 9 (.tmp 12) (.tmp 14) b c)) fun d=>
 aw pg X0 w0 (aM a d (B false)) fun e=>
 un (aK e true (.float .f64 aW)) fun g=>
 un (aK e true (.float .f64 bh)) fun h=>
 jn (fun (i:Value) (j:World) (k:XS)=>
 aw pg k j (aM e i (B false)) fun l=>
 (fin R k j l)) fun m=>
 (gE e true (eC pg R X0 w0 true 105 #[g,h] m) (m undef w0 X0)))
noncomputable def DL:ba:=⟨31,[(2,(pg.cellsOf 65)),(3,(pg.cellsOf 65))],[5,7,11,13,18,20,25,27],[0,1,4],[10,12,14,15,17,19,21,22,24,26,28,29],[]⟩
def vx (aR aW aY bB bQ bR:Int) (bS bW:Value) (bo bh bp dp cV cW:Int) (cS cM:Value):Prop:=
 (ad pg X0 w0 (aD .eql 42 (.tmp 6) (.tmp 8) (.agg #[(I aR),(I aW),(I aY)]) (.agg #[(I bo),(I bh),(I bp)])) fun a=>
 un (aK a true (.agg #[(I bB),(I bQ),(I bR)])) fun b=>
 un (aK a true (.agg #[(I dp),(I cV),(I cW)])) fun c=>
 aG pg X0 w0 a true (vS (aD .eql 27 (.tmp 12) (.tmp 14) b c)) fun d=>
 aw pg X0 w0 (aM a d (B false)) fun e=>
 un (aK e true bS) fun g=>
 un (aK e true cS) fun h=>
 jn (fun (i:Value) (j:World) (k:XS)=>
 aw pg k j (aM e i (B false)) fun l=>
 un (aK l true bW) fun m=>
 un (aK l true cM) fun n=>
 jn (fun (o:Value) (q:World) (r:XS)=>
 aw pg r q (aM l o (B false)) fun s=>
 (fin R r q s)) fun t=>
 (gE l true (eC pg R k j true 168 #[m,n] t) (t undef j k))) fun v=>
 (gE e true (eC pg R X0 w0 true 167 #[g,h] v) (v undef w0 X0)))
def fK (p0:Value):Prop:=
 eV pg R X0 w0 true (dR 187 p0) fun a b c=>
 (ad pg c b (cL (gm 171) #[] #[a]) fun d=>
 (fin R c b d))
def iT (p0:Value):Prop:=
 (ad pg X0 w0 (aD .eql 127 (.tmp 3) (.const (.slice none 0 0)) p0 (.slice none 0 0)) fun a=>
 (au a
 (fin R X0 w0 (.slice none 0 0))
 (eV pg R X0 w0 true (fR 127 131 6 0 #[]) fun b c d=>
 eV pg R d c true (gf 127 131 6 56 127 b p0) fun e g h=>
 (fin R h g e))))
noncomputable def Od:ba:=⟨33,[(1,(pg.cellsOf 25))],[3,7,12,17,22,27,29],[0,2],[6,8,9,11,13,14,16,18,19,21,23,24,26,28,30,31],[]⟩
def DN (aR aW:Int) (aY bB:Nat):Prop:=
 (ad pg X0 w0 (binOp .geq 3 (I aR) (I 1)) fun a=>
 un (aK a true (I aR)) fun b=>
 aG pg X0 w0 a true (vS (binOp .leq 3 b (I 12))) fun c=>
 aw pg X0 w0 (aM a c (B false)) fun d=>
 un (aK d true (I aW)) fun e=>
 aG pg X0 w0 d true (vS (binOp .geq 3 e (I 0))) fun g=>
 aw pg X0 w0 (aM d g (B false)) fun h=>
 un (aK h true (.float .f64 aY)) fun i=>
 jn (fun (j:Value) (k:World) (l:XS)=>
 aw pg l k (aM h j (B false)) fun m=>
 un (aK m true (.float .f64 bB)) fun n=>
 jn (fun (o:Value) (q:World) (r:XS)=>
 aw pg r q (aM m o (B false)) fun s=>
 un (aK s true (.float .f64 aY)) fun t=>
 un (aK s true (.float .f64 bB)) fun v=>
 aG pg r q s true (vS (binOp .lss 23 t v)) fun y=>
 aw pg r q (aM s y (B false)) fun z=>
 (fin R r q z)) fun A=>
 (gE m true (eC pg R l k true 112 #[n] A) (A undef k l))) fun C=>
 (gE h true (eC pg R X0 w0 true 112 #[i] C) (C undef w0 X0)))
noncomputable def JE:ba:=⟨10,[],[],[0,2],[6,7,8],[]⟩
def zP (p0:Nat):Prop:=
 (eC pg R X0 w0 true 172 #[(.float .f64 p0)] fun a b c=>
 ad pg c b (binOp .geq 3 a (I 5)) fun d=>
 un (aK d true (.float .f64 p0)) fun e=>
 aG pg c b d true (vS (binOp .leq 23 e (.float .f64 4607182418800017408))) fun g=>
 aw pg c b (aM d g (B false)) fun h=>
 (fin R c b h))
noncomputable def PU:ba:=⟨22,[(1,(pg.cellsOf 91)),(3,(pg.cellsOf 91))],[],[0,2,4,10,13],[17,18,19,20],[]⟩
def Gi (aR aW aY bB bQ bR bS bW cN cj:Int) (bJ:Bool) (bG:Int) (cR:Nat) (cH cE cG cI:Value) (cK cm:Int) (ca cn:Nat) (cq ct cD cu cy cz:Int) (cA cB:Value):Prop:=
 (eC pg R X0 w0 true 174 #[(.agg #[(I aR),(I aW),(I aY),(I bB),(I bQ),(I bR),(I bS),(I bW),(I cN),(I cj),(B bJ),(I bG),(.float .f64 cR),cH,cE,cG,cI,(I cK),(I cm),(.float .f64 ca),(.float .f64 cn),(I cq),(I ct),(I cD),(I cu),(I cy),(I cz),cA,cB])] fun a b c=>
 ad pg c b (aB a 0) fun d=>
 ad pg c b (aB a 1) fun e=>
 un (ai (aa d)) fun g=>
 aC (ao (ab (aa d))==29) (aC (aq (ab (aa d)) aX.one) ((ad pg c b (aQ aT e) fun h=>
 (au h
 (fin R c b (I 7))
 (aC (bP g) (un (bV g 0 29) fun i=>
 eC pg R c b true 175 #[i] fun j k l=>
 ad pg l k (aQ aT j) fun m=>
 un (aK m false (.agg #[(I aR),(I aW),(I aY),(I bB),(I bQ),(I bR),(I bS),(I bW),(I cN),(I cj),(B bJ),(I bG),(.float .f64 cR),cH,cE,cG,cI,(I cK),(I cm),(.float .f64 ca),(.float .f64 cn),(I cq),(I ct),(I cD),(I cu),(I cy),(I cz),cA,cB])) fun n=>
 jn (fun (o:Value) (q:World) (r:XS)=>
 aG pg r q m false (vS (aQ aT o)) fun s=>
 aw pg r q (aM m (B true) s) fun t=>
 (au t
 (fin R r q (I 4))
 (fin R r q (I 0)))) fun v=>
 (gE m false (eC pg R l k true 176 #[n] v) (v undef k l)))))))))
def wq:Prop:=
 (ad pg X0 w0 (dK 279 #[(.slice none 0 0)] #[]) fun a=>
 eV pg R X0 w0 true (dR 279 a) fun b c d=>
 (fin R d c b))
def tj (p0:Value):Prop:=
 (eV pg R X0 w0 true (fR 86 5 1 0 #[]) fun a b c=>
 aw pg c b (az p0) fun d=>
 ad pg c b (aJ 279 0 0 1 d) fun e=>
 ad pg c b (ld1 86 e) fun g=>
 eV pg R c b true (gf 86 5 1 1 86 a g) fun h i j=>
 (fin R j i h))
noncomputable def PW:ba:=⟨29,[],[],[0,1,4,5,6,10],[],[1,6]⟩
def Gj (p0:ByteArray) (p1:Int):Prop:=
 (eV pg R X0 w0 true (fR 86 5 1 8 #[(0,(aF dE 48)),(1,(aF dE 48)),(2,(aF dE 48)),(3,(aF dE 48)),(4,(aF dE 48)),(5,(aF dE 48)),(6,(aF dE 48)),(7,(aF dE 48))]) fun a b c=>
 eV pg R c b true (convert 86 86 a) fun d e g=>
 ((ja g e (I 7) (I p1) 6 1 fun h i j k l m=>
 ad pg m l (binOp .geq 3 j (I 0)) fun n=>
 (au n
 ((ad pg m l (dy 86 1 d j) fun o=>
 ad pg m l (ld1 5 o) fun q=>
 ad pg m l (binOp .rem 3 k (I 10)) fun r=>
 ad pg m l (nv dE 3 5 r) fun s=>
 ad pg m l (binOp .add 5 q s) fun t=>
 ad pg m l (dy 86 1 d j) fun v=>
 eU pg R m l true (st1 5 1 v t) fun _ y z=>
 (ad pg z y (binOp .quo 3 k (I 10)) fun A=>
 ((ad pg z y (binOp .sub 3 j (I 1)) fun C=>
 jb h i C A y z)))))
 (((ad pg m l (binOp .add 9 (.string p0) (.string { data:= #[46] })) fun D=>
 eV pg R m l true (convert 86 9 d) fun E F G=>
 ad pg G F (binOp .add 9 D E) fun H=>
 (fin R G F H))))))))
def gJ (p0:Value):Prop:=
 eV pg R X0 w0 true (dR 95 p0) fun a b c=>
 (ad pg c b (cL (gm 177) #[] #[a]) fun d=>
 (fin R c b d))
noncomputable def Cg:ba:=⟨29,[],[],[0,1,2,3,4,5,6,10,18],[],[]⟩
def ub (p0:Value) (p1:ByteArray):Prop:=
 eV pg R X0 w0 true (dR 39 p0) fun a b c=>
 eV pg R c b true (dR 9 (.string p1)) fun d e g=>
 (((jn (fun (h:Value) (i:World) (j:XS)=>
 (ad pg j i (ld1 39 a) fun k=>
 ad pg j i (cL (gm 182) #[] #[a,d]) fun l=>
 eC pg R j i true 181 #[k,h,l] fun m n o=>
 (fin R o n m))) fun q=>
 ad pg g e (ld1 9 d) fun r=>
 eC pg R g e true 180 #[r] fun s t v=>
 ad pg v t (aQ aT s) fun y=>
 (au y
 (q (I 10) t v)
 (ad pg v t (ld1 39 a) fun z=>
 aw pg v t (az z) fun A=>
 ad pg v t (aJ 97 0 0 1 A) fun C=>
 ad pg v t (ld1 95 C) fun D=>
 ad pg v t (ld1 9 d) fun E=>
 ad pg v t (dI 95 D E false) fun F=>
 ad pg v t (aD .neq 210 (.tmp 16) (.const (.pointer none)) F (.pointer none)) fun G=>
 (au G
 (q (I 9) t v)
 (ad pg v t (ld1 39 a) fun H=>
 aw pg v t (az H) fun L=>
 ad pg v t (aJ 97 0 0 1 L) fun M=>
 ad pg v t (ld1 95 M) fun N=>
 ad pg v t (Builtin.len_ #[95] 3 #[N]) fun O=>
 ad pg v t (binOp .geq 3 O (I 64)) fun Q=>
 (au Q
 (q (I 3) t v)
 (q (I 0) t v)))))))))
def vy (p0 p1:Value):Prop:=
 aw pg X0 w0 (az p0) fun a=>
 ad pg X0 w0 (aJ 156 0 0 1 a) fun b=>
 ad pg X0 w0 (ld1 154 b) fun c=>
 ad pg X0 w0 (aD .neq 154 (.tmp 7) (.const (.pointer none)) c (.pointer none)) fun d=>
 (au d
 (aw pg X0 w0 (az p0) fun e=>
 ad pg X0 w0 (aJ 156 0 0 1 e) fun g=>
 ad pg X0 w0 (ld1 154 g) fun h=>
 aw pg X0 w0 (az p1) fun i=>
 ad pg X0 w0 (ld1 3 i) fun j=>
 eC pg R X0 w0 true 185 #[h,j] fun _ k l=>
 (fin R l k (ay #[])))
 ((aw pg X0 w0 (az p0) fun m=>
 ad pg X0 w0 (aJ 156 1 1 1 m) fun n=>
 ad pg X0 w0 (ld1 150 n) fun o=>
 eC pg R X0 w0 true 186 #[o] fun q r s=>
 aw pg s r (az p1) fun t=>
 eU pg R s r true (st1 3 1 t q) fun _ v y=>
 (eC pg R y v true 187 #[p0] fun _ z A=>
 fin R A z (ay #[])))))
def tk (p0 p1:Value):Prop:=
 aw pg X0 w0 (az p1) fun a=>
 ad pg X0 w0 (aJ 31 0 0 4 a) fun b=>
 eC pg R X0 w0 true 188 #[p0,b] fun _ c d=>
 (aw pg d c (az p1) fun e=>
 ad pg d c (aJ 31 1 4 3 e) fun g=>
 eC pg R d c true 129 #[p0,g] fun _ h i=>
 (aw pg i h (az p1) fun j=>
 ad pg i h (aJ 31 2 7 3 j) fun k=>
 eC pg R i h true 129 #[p0,k] fun _ l m=>
 (aw pg m l (az p1) fun n=>
 ad pg m l (aJ 31 3 10 1 n) fun o=>
 ad pg m l (cL (gm 190) #[p0] #[]) fun q=>
 eC pg R m l true 189 #[p0,o,q] fun _ r s=>
 (aw pg s r (az p1) fun t=>
 ad pg s r (aJ 31 4 11 1 t) fun v=>
 ad pg s r (cL (gm 125) #[p0] #[]) fun y=>
 eC pg R s r true 191 #[p0,v,y] fun _ z A=>
 fin R A z (ay #[])))))
def qv (p0 p1:Value):Prop:=
 aw pg X0 w0 (az p1) fun a=>
 ad pg X0 w0 (aJ 65 0 0 3 a) fun b=>
 eC pg R X0 w0 true 127 #[p0,b] fun _ c d=>
 (aw pg d c (az p1) fun e=>
 ad pg d c (aJ 65 1 3 3 e) fun g=>
 eC pg R d c true 129 #[p0,g] fun _ h i=>
 (aw pg i h (az p1) fun j=>
 ad pg i h (aJ 65 2 6 1 j) fun k=>
 ad pg i h (cL (gm 193) #[p0] #[]) fun l=>
 eC pg R i h true 192 #[p0,k,l] fun _ m n=>
 (aw pg n m (az p1) fun o=>
 ad pg n m (aJ 65 3 7 1 o) fun q=>
 ad pg n m (cL (gm 132) #[p0] #[]) fun r=>
 eC pg R n m true 131 #[p0,q,r] fun _ s t=>
 fin R t s (ay #[]))))
def wu (p0 p1 p2:Value):Prop:=
 aw pg X0 w0 (az p1) fun a=>
 ad pg X0 w0 (ld1 46 a) fun b=>
 ad pg X0 w0 (cY 46 3 b) fun c=>
 ((jn (fun (d:Value) (e:World) (g:XS)=>
 (gU g e (I 0) 39 fun h i j k l=>
 ad pg l k (binOp .lss 3 j d) fun m=>
 (au m
 ((((jn (fun (n:World) (o:XS)=>
 aw pg o n (az p1) fun q=>
 ad pg o n (ld1 46 q) fun r=>
 ad pg o n (dy 46 1 r j) fun s=>
 eF pg R o n true p2 #[s] fun _ t v=>
 ((ad pg v t (binOp .add 3 j (I 1)) fun y=>
 gV h i y t v))) fun z=>
 aw pg l k (az p0) fun A=>
 ad pg l k (aJ 156 0 0 1 A) fun C=>
 ad pg l k (ld1 154 C) fun D=>
 ad pg l k (aD .eql 154 (.tmp 45) (.const (.pointer none)) D (.pointer none)) fun E=>
 (au E
 ((aw pg l k (az p1) fun F=>
 ad pg l k (ld1 46 F) fun G=>
 eV pg R l k true (fR 46 3 1 1 #[(0,(I 0))]) fun H L M=>
 eV pg R M L true (gf 46 3 1 8 46 G H) fun N O Q=>
 aw pg Q O (az p1) fun S=>
 eU pg R Q O true (st1 46 1 S N) fun _ T U=>
 (z T U)))
 (z k l))))))
 (fin R l k (ay #[]))))) fun V=>
 aw pg X0 w0 (az p0) fun Y=>
 ad pg X0 w0 (aJ 156 0 0 1 Y) fun Z=>
 ad pg X0 w0 (ld1 154 Z) fun a0=>
 ad pg X0 w0 (aD .neq 154 (.tmp 16) (.const (.pointer none)) a0 (.pointer none)) fun b0=>
 (au b0
 (aw pg X0 w0 (az p0) fun c0=>
 ad pg X0 w0 (aJ 156 0 0 1 c0) fun d0=>
 ad pg X0 w0 (ld1 154 d0) fun e0=>
 eC pg R X0 w0 true 185 #[e0,c] fun _ g0 h0=>
 (V c g0 h0))
 (aw pg X0 w0 (az p0) fun i0=>
 ad pg X0 w0 (aJ 156 1 1 1 i0) fun j0=>
 ad pg X0 w0 (ld1 150 j0) fun k0=>
 aw pg X0 w0 (az p0) fun l0=>
 ad pg X0 w0 (aJ 156 1 1 1 l0) fun m0=>
 ad pg X0 w0 (ld1 150 m0) fun n0=>
 eC pg R X0 w0 false 195 #[n0] fun o0 q0 r0=>
 eC pg R r0 q0 true 194 #[k0,o0] fun s0 t0 v0=>
 (eC pg R v0 t0 true 187 #[p0] fun _ y0 z0=>
 (aw pg z0 y0 (az p1) fun A0=>
 eU pg R z0 y0 true (st1 46 1 A0 (.slice none 0 0)) fun _ C0 D0=>
 (V s0 C0 D0)))))))
def vz (p0 p1:Value):Prop:=
 aw pg X0 w0 (az p1) fun a=>
 ad pg X0 w0 (aJ 42 0 0 1 a) fun b=>
 eC pg R X0 w0 true 123 #[p0,b] fun _ c d=>
 (aw pg d c (az p1) fun e=>
 ad pg d c (aJ 42 1 1 1 e) fun g=>
 eC pg R d c true 123 #[p0,g] fun _ h i=>
 (aw pg i h (az p1) fun j=>
 ad pg i h (aJ 42 2 2 1 j) fun k=>
 eC pg R i h true 123 #[p0,k] fun _ l m=>
 fin R m l (ay #[])))
def uc (p0 p1:Value):Prop:=
 aw pg X0 w0 (az p0) fun a=>
 ad pg X0 w0 (aJ 156 0 0 1 a) fun b=>
 ad pg X0 w0 (ld1 154 b) fun c=>
 ad pg X0 w0 (aD .neq 154 (.tmp 7) (.const (.pointer none)) c (.pointer none)) fun d=>
 (au d
 (aw pg X0 w0 (az p0) fun e=>
 ad pg X0 w0 (aJ 156 0 0 1 e) fun g=>
 ad pg X0 w0 (ld1 154 g) fun h=>
 aw pg X0 w0 (az p1) fun i=>
 ad pg X0 w0 (ld1 4 i) fun j=>
 eC pg R X0 w0 true 196 #[h,j] fun _ k l=>
 (fin R l k (ay #[])))
 ((aw pg X0 w0 (az p0) fun m=>
 ad pg X0 w0 (aJ 156 1 1 1 m) fun n=>
 ad pg X0 w0 (ld1 150 n) fun o=>
 eC pg R X0 w0 true 197 #[o] fun q r s=>
 aw pg s r (az p1) fun t=>
 eU pg R s r true (st1 4 1 t q) fun _ v y=>
 (eC pg R y v true 187 #[p0] fun _ z A=>
 fin R A z (ay #[])))))
def tp (p0 p1:Value):Prop:=
 aw pg X0 w0 (az p1) fun a=>
 ad pg X0 w0 (aJ 27 0 0 1 a) fun b=>
 eC pg R X0 w0 true 123 #[p0,b] fun _ c d=>
 (aw pg d c (az p1) fun e=>
 ad pg d c (aJ 27 1 1 1 e) fun g=>
 eC pg R d c true 123 #[p0,g] fun _ h i=>
 (aw pg i h (az p1) fun j=>
 ad pg i h (aJ 27 2 2 1 j) fun k=>
 eC pg R i h true 123 #[p0,k] fun _ l m=>
 fin R m l (ay #[])))
def tq (p0 p1:Value):Prop:=
 aw pg X0 w0 (az p0) fun a=>
 ad pg X0 w0 (aJ 156 0 0 1 a) fun b=>
 ad pg X0 w0 (ld1 154 b) fun c=>
 ad pg X0 w0 (aD .neq 154 (.tmp 7) (.const (.pointer none)) c (.pointer none)) fun d=>
 (au d
 (aw pg X0 w0 (az p0) fun e=>
 ad pg X0 w0 (aJ 156 0 0 1 e) fun g=>
 ad pg X0 w0 (ld1 154 g) fun h=>
 aw pg X0 w0 (az p1) fun i=>
 ad pg X0 w0 (ld1 23 i) fun j=>
 eC pg R X0 w0 true 198 #[h,j] fun _ k l=>
 (fin R l k (ay #[])))
 ((aw pg X0 w0 (az p0) fun m=>
 ad pg X0 w0 (aJ 156 1 1 1 m) fun n=>
 ad pg X0 w0 (ld1 150 n) fun o=>
 eC pg R X0 w0 true 199 #[o] fun q r s=>
 aw pg s r (az p1) fun t=>
 eU pg R s r true (st1 23 1 t q) fun _ v y=>
 (eC pg R y v true 187 #[p0] fun _ z A=>
 fin R A z (ay #[])))))
def pZ (p0 p1 p2:Value):Prop:=
 aw pg X0 w0 (az p1) fun a=>
 ad pg X0 w0 (ld1 45 a) fun b=>
 ad pg X0 w0 (cY 45 3 b) fun c=>
 ((jn (fun (d:Value) (e:World) (g:XS)=>
 (gU g e (I 0) 39 fun h i j k l=>
 ad pg l k (binOp .lss 3 j d) fun m=>
 (au m
 ((((jn (fun (n:World) (o:XS)=>
 aw pg o n (az p1) fun q=>
 ad pg o n (ld1 45 q) fun r=>
 ad pg o n (dy 45 4 r j) fun s=>
 eF pg R o n true p2 #[s] fun _ t v=>
 ((ad pg v t (binOp .add 3 j (I 1)) fun y=>
 gV h i y t v))) fun z=>
 aw pg l k (az p0) fun A=>
 ad pg l k (aJ 156 0 0 1 A) fun C=>
 ad pg l k (ld1 154 C) fun D=>
 ad pg l k (aD .eql 154 (.tmp 45) (.const (.pointer none)) D (.pointer none)) fun E=>
 (au E
 ((aw pg l k (az p1) fun F=>
 ad pg l k (ld1 45 F) fun G=>
 eV pg R l k false (fR 45 71 4 1 #[(0,(.agg #[(.string { data:= #[] }),(I 0),(.float .f64 0),(.string { data:= #[] })]))]) fun H L M=>
 eV pg R M L true (gf 45 71 4 48 45 G H) fun N O Q=>
 aw pg Q O (az p1) fun S=>
 eU pg R Q O true (st1 45 1 S N) fun _ T U=>
 (z T U)))
 (z k l))))))
 (fin R l k (ay #[]))))) fun V=>
 aw pg X0 w0 (az p0) fun Y=>
 ad pg X0 w0 (aJ 156 0 0 1 Y) fun Z=>
 ad pg X0 w0 (ld1 154 Z) fun a0=>
 ad pg X0 w0 (aD .neq 154 (.tmp 16) (.const (.pointer none)) a0 (.pointer none)) fun b0=>
 (au b0
 (aw pg X0 w0 (az p0) fun c0=>
 ad pg X0 w0 (aJ 156 0 0 1 c0) fun d0=>
 ad pg X0 w0 (ld1 154 d0) fun e0=>
 eC pg R X0 w0 true 185 #[e0,c] fun _ g0 h0=>
 (V c g0 h0))
 (aw pg X0 w0 (az p0) fun i0=>
 ad pg X0 w0 (aJ 156 1 1 1 i0) fun j0=>
 ad pg X0 w0 (ld1 150 j0) fun k0=>
 aw pg X0 w0 (az p0) fun l0=>
 ad pg X0 w0 (aJ 156 1 1 1 l0) fun m0=>
 ad pg X0 w0 (ld1 150 m0) fun n0=>
 eC pg R X0 w0 false 195 #[n0] fun o0 q0 r0=>
 eC pg R r0 q0 true 194 #[k0,o0] fun s0 t0 v0=>
 (eC pg R v0 t0 true 187 #[p0] fun _ y0 z0=>
 (aw pg z0 y0 (az p1) fun A0=>
 eU pg R z0 y0 true (st1 45 1 A0 (.slice none 0 0)) fun _ C0 D0=>
 (V s0 C0 D0)))))))
def tr (p0 p1:Value):Prop:=
 aw pg X0 w0 (az p1) fun a=>
 ad pg X0 w0 (aJ 71 0 0 1 a) fun b=>
 eC pg R X0 w0 true 193 #[p0,b] fun _ c d=>
 (aw pg d c (az p1) fun e=>
 ad pg d c (aJ 71 1 1 3 e) fun g=>
 eC pg R d c true 200 #[p0,g] fun _ h i=>
 fin R i h (ay #[]))
def qw (p0 p1 p2:Value):Prop:=
 aw pg X0 w0 (az p1) fun a=>
 ad pg X0 w0 (ld1 89 a) fun b=>
 ad pg X0 w0 (cY 89 3 b) fun c=>
 ((jn (fun (d:Value) (e:World) (g:XS)=>
 (gU g e (I 0) 39 fun h i j k l=>
 ad pg l k (binOp .lss 3 j d) fun m=>
 (au m
 ((((jn (fun (n:World) (o:XS)=>
 aw pg o n (az p1) fun q=>
 ad pg o n (ld1 89 q) fun r=>
 ad pg o n (dy 89 4 r j) fun s=>
 eF pg R o n true p2 #[s] fun _ t v=>
 ((ad pg v t (binOp .add 3 j (I 1)) fun y=>
 gV h i y t v))) fun z=>
 aw pg l k (az p0) fun A=>
 ad pg l k (aJ 156 0 0 1 A) fun C=>
 ad pg l k (ld1 154 C) fun D=>
 ad pg l k (aD .eql 154 (.tmp 45) (.const (.pointer none)) D (.pointer none)) fun E=>
 (au E
 ((aw pg l k (az p1) fun F=>
 ad pg l k (ld1 89 F) fun G=>
 eV pg R l k false (fR 89 207 4 1 #[(0,(.agg #[(.string { data:= #[] }),(I 0),(.float .f64 0),(.string { data:= #[] })]))]) fun H L M=>
 eV pg R M L true (gf 89 207 4 48 89 G H) fun N O Q=>
 aw pg Q O (az p1) fun S=>
 eU pg R Q O true (st1 89 1 S N) fun _ T U=>
 (z T U)))
 (z k l))))))
 (fin R l k (ay #[]))))) fun V=>
 aw pg X0 w0 (az p0) fun Y=>
 ad pg X0 w0 (aJ 156 0 0 1 Y) fun Z=>
 ad pg X0 w0 (ld1 154 Z) fun a0=>
 ad pg X0 w0 (aD .neq 154 (.tmp 16) (.const (.pointer none)) a0 (.pointer none)) fun b0=>
 (au b0
 (aw pg X0 w0 (az p0) fun c0=>
 ad pg X0 w0 (aJ 156 0 0 1 c0) fun d0=>
 ad pg X0 w0 (ld1 154 d0) fun e0=>
 eC pg R X0 w0 true 185 #[e0,c] fun _ g0 h0=>
 (V c g0 h0))
 (aw pg X0 w0 (az p0) fun i0=>
 ad pg X0 w0 (aJ 156 1 1 1 i0) fun j0=>
 ad pg X0 w0 (ld1 150 j0) fun k0=>
 aw pg X0 w0 (az p0) fun l0=>
 ad pg X0 w0 (aJ 156 1 1 1 l0) fun m0=>
 ad pg X0 w0 (ld1 150 m0) fun n0=>
 eC pg R X0 w0 false 195 #[n0] fun o0 q0 r0=>
 eC pg R r0 q0 true 194 #[k0,o0] fun s0 t0 v0=>
 (eC pg R v0 t0 true 187 #[p0] fun _ y0 z0=>
 (aw pg z0 y0 (az p1) fun A0=>
 eU pg R z0 y0 true (st1 89 1 A0 (.slice none 0 0)) fun _ C0 D0=>
 (V s0 C0 D0)))))))
def ud (p0 p1:Value):Prop:=
 aw pg X0 w0 (az p1) fun a=>
 ad pg X0 w0 (aJ 207 0 0 1 a) fun b=>
 eC pg R X0 w0 true 193 #[p0,b] fun _ c d=>
 (aw pg d c (az p1) fun e=>
 ad pg d c (aJ 207 1 1 3 e) fun g=>
 eC pg R d c true 200 #[p0,g] fun _ h i=>
 fin R i h (ay #[]))
noncomputable def AU:ba:=⟨41,[(6,(pg.cellsOf 27)),(8,(pg.cellsOf 163)),(9,(pg.cellsOf 163)),(11,(pg.cellsOf 131))],[27,33,35,37,38],[0,1,2,3,19,20,21,22,32],[26,28,29,30,31],[9,21]⟩
def tt (p0:Value) (p1:ByteArray) (im ju jB:Int) (p3:Bool):Prop:=
 (ad pg X0 w0 (dK 163 #[(.string p1),(I 0),(.float .f64 0),(.string ⟨#[]⟩),(I 0),(I 0),(I 0)] #[(0,(.string p1))]) fun a=>
 un (ai (aa a)) fun b=>
 aC (ao (ab (aa a))==7) (aC (aq (ab (aa a)) aX.one) ((aw pg X0 w0 (az p0) fun c=>
 ad pg X0 w0 (aJ 190 0 0 1 c) fun d=>
 ad pg X0 w0 (ld1 187 d) fun e=>
 ad pg X0 w0 (dI 187 e (.string p1) false) fun g=>
 ad pg X0 w0 (cY 127 3 g) fun h=>
 (ja X0 w0 (I 0) b 21 9 fun i j k l m n=>
 ad pg n m (binOp .lss 3 k h) fun o=>
 (au o
 (((jn (fun (q:Value) (r:World) (s:XS)=>
 (ad pg s r (binOp .add 3 k (I 1)) fun t=>
 jb i j t q r s)) fun v=>
 ad pg n m (dy 127 6 g k) fun y=>
 ad pg n m (ff 131 6 y) fun z=>
 un (ai (aa z)) fun A=>
 aC (ao (ab (aa z))==6) (aC (aq (ab (aa z)) aX.one) ((aC (bP A) (un (bV A 0 3) fun C=>
 un (aK (B p3) false C) fun D=>
 un (aK (B p3) false (.agg #[(I im),(I ju),(I jB)])) fun E=>
 jn (fun (F:Value) (G:World) (H:XS)=>
 aG pg H G (B p3) false (vS (binOp .leq 3 F (I 0))) fun L=>
 aw pg H G (aM (B p3) (B true) L) fun M=>
 (au M
 (aC (bP A) (aC (bP l) (un (bV A 3 3) fun N=>
 un (ai (aI (cP (ab (aa l)) 1 (ab (aa N))))) fun O=>
 aC (ao (ab (aa N))==3) (aC (aq (ab (aa N)) aX.one) (un (ai (aI (cP (ab (aa O)) 4 (ab (aa C))))) fun Q=>
 aC (ao (ab (aa C))==3) (aC (aq (ab (aa C)) aX.one) (v Q G H)))))))
 (v l G H))) fun S=>
 (gE (B p3) false (eC pg R n m true 140 #[D,E] S) (S undef m n)))))))))
 (((aC (bP l) (un (bV l 0 7) fun T=>
 un (ai (aa T)) fun U=>
 aC (ao (ab (aa T))==7) (aC (aq (ab (aa T)) aX.one) (un (bV U 0 7) fun V=>
 aC (aq [U] bP) (fin R n m V)))))))))))))
noncomputable def DO:ba:=⟨45,[(1,(pg.cellsOf 65)),(4,(pg.cellsOf 71))],[6,11,16,22,27,33,40],[0,2,5,10,21,34,35,36,37,43],[15,17,18,19,26,28,29,30,31],[36]⟩
def vA (aR aW aY bB bQ bR:Int) (bS bW:Value):Prop:=
 (eC pg R X0 w0 true 201 #[(.agg #[(I aR),(I aW),(I aY)])] fun a b c=>
 ad pg c b (aQ aT a) fun d=>
 (au d
 (fin R c b (I 4))
 (eC pg R c b true 144 #[(.agg #[(I bB),(I bQ),(I bR)])] fun e g h=>
 ad pg h g (aQ aT e) fun i=>
 un (aK i false (.agg #[(I bB),(I bQ),(I bR)])) fun j=>
 aG pg h g i false (vS (dK 27 #[(I 0),(I 0),(I 0)] #[])) fun k=>
 aG pg h g i false (vS (aD .eql 27 (.tmp 17) (.tmp 18) j k)) fun l=>
 aw pg h g (aM i (B true) l) fun m=>
 (au m
 (fin R h g (I 17))
 (eC pg R h g true 202 #[bS] fun n o q=>
 ad pg q o (aQ aT n) fun r=>
 un (aK r false bW) fun s=>
 jn (fun (t:Value) (v:World) (y:XS)=>
 jn (fun (z:Value) (A:World) (C:XS)=>
 aG pg C A r false (vS (aQ aT z)) fun D=>
 aw pg C A (aM r (B true) D) fun E=>
 (au E
 (fin R C A (I 4))
 (((ad pg C A (cY 45 3 bW) fun F=>
 (gU C A (I 0) 36 fun G H L M N=>
 ad pg N M (binOp .lss 3 L F) fun O=>
 (au O
 ((ad pg N M (dy 45 4 bW L) fun Q=>
 ad pg N M (ff 71 4 Q) fun S=>
 un (ai (aa S)) fun T=>
 aC (ao (ab (aa S))==4) (aC (aq (ab (aa S)) aX.one) ((aC (bP T) (un (bV T 1 3) fun U=>
 eC pg R N M true 204 #[U] fun V Y Z=>
 ad pg Z Y (aQ aT V) fun a0=>
 (au a0
 (fin R Z Y (I 4))
 (((ad pg Z Y (binOp .add 3 L (I 1)) fun b0=>
 gV G H b0 Y Z))))))))))
 (fin R N M (I 0))))))))) fun c0=>
 (gE r false (eC pg R y v true 202 #[t] c0) (c0 undef v y))) fun d0=>
 (gE r false (eC pg R q o true 203 #[s] d0) (d0 undef o q)))))))
def fX (p0 p1 p2:Value):Prop:=
 (ad pg X0 w0 (cY 43 3 p0) fun a=>
 ad pg X0 w0 (cY 44 3 p1) fun b=>
 ad pg X0 w0 (aD .neq 3 (.tmp 11) (.tmp 13) a b) fun c=>
 (au c
 (fin R X0 w0 (B false))
 ((ad pg X0 w0 (cY 43 3 p0) fun d=>
 (gU X0 w0 (I 0) 17 fun e g h i j=>
 ad pg j i (binOp .lss 3 h d) fun k=>
 (au k
 ((ad pg j i (dy 43 1 p0 h) fun l=>
 ad pg j i (ld1 9 l) fun m=>
 (ad pg j i (dy 44 7 p1 h) fun n=>
 ad pg j i (ff 163 7 n) fun o=>
 un (ai (aa o)) fun q=>
 aC (ao (ab (aa o))==7) (aC (aq (ab (aa o)) aX.one) ((aC (bP q) (un (bV q 0 7) fun r=>
 eF pg R j i true p2 #[m,r] fun s t v=>
 ad pg v t (aQ aT s) fun y=>
 (au y
 (fin R v t (B false))
 (((ad pg v t (binOp .add 3 h (I 1)) fun z=>
 gV e g z t v)))))))))))
 (fin R j i (B true))))))))
noncomputable def JF:ba:=⟨37,[(2,(pg.cellsOf 27)),(3,(pg.cellsOf 27))],[7,9,11,13,20,22,25,27],[0,1,4,5,6,15,19,29,33],[],[]⟩
def zR (aR aW aY bo bh bp:Int):Prop:=
 (((jn (fun (a b:Value)=>
 (ad pg X0 w0 (binOp .lss 3 a b) fun c=>
 (au c
 ((fin R X0 w0 (I (-1))))
 (ad pg X0 w0 (binOp .gtr 3 a b) fun d=>
 (au d
 (fin R X0 w0 (I 1))
 (fin R X0 w0 (I 0))))))) fun e=>
 ad pg X0 w0 (aD .neq 3 (.tmp 16) (.tmp 17) (I aR) (I bo)) fun g=>
 (au g
 (e (I aR) (I bo))
 (ad pg X0 w0 (aD .neq 3 (.tmp 21) (.tmp 23) (I aW) (I bh)) fun h=>
 (au h
 (e (I aW) (I bh))
 (e (I aY) (I bp))))))))
noncomputable def AV:ba:=⟨50,[(3,(pg.cellsOf 65)),(6,(pg.cellsOf 65)),(8,(pg.cellsOf 71))],[20,28,32,34,39],[0,1,4,10,15,17,21,22,23,24,37,40,41,42,43,48],[31,33,35,36],[23,42]⟩
def tu (p0:Value) (_p1_0 _p1_1 _p1_2 _p1_3 _p1_4 _p1_5:Int) (cS cM:Value):Prop:=
 (aw pg X0 w0 (az p0) fun a=>
 ad pg X0 w0 (aJ 190 1 1 1 a) fun b=>
 ad pg X0 w0 (ld1 188 b) fun c=>
 eV pg R X0 w0 true (Instr.range 188 c) fun d e g=>
 (ja g e undef undef 42 23 fun h i _ _ j k=>
 eV pg R k j true (Instr.next d false 0) fun l m n=>
 ad pg n m (aB l 0) fun o=>
 (au o
 ((eV pg R n m true (Instr.entry d) fun q r s=>
 ad pg s r (aB q 1) fun t=>
 un (ai (aa t)) fun v=>
 aC (ao (ab (aa t))==8) (aC (aq (ab (aa t)) aX.one) ((ad pg s r (cY 45 3 cM) fun y=>
 (gU s r (I 0) 23 fun z A C D E=>
 ad pg E D (binOp .lss 3 C y) fun F=>
 (au F
 ((ad pg E D (dy 45 4 cM C) fun G=>
 ad pg E D (ff 71 4 G) fun H=>
 un (ai (aa H)) fun L=>
 aC (ao (ab (aa H))==4) (aC (aq (ab (aa H)) aX.one) ((aC (bP v) (aC (bP L) (un (bV v 0 8) fun M=>
 un (cellOf L 0) fun N=>
 eC pg R E D true 205 #[M,N] fun O Q S=>
 un (cellOf v 6) fun T=>
 un (aK O false T) fun U=>
 un (aK O false N) fun V=>
 jn (fun (Y:Value) (Z:World) (a0:XS)=>
 aw pg a0 Z (aM O (B true) Y) fun b0=>
 (au b0
 (fin R a0 Z (B true))
 (((ad pg a0 Z (binOp .add 3 C (I 1)) fun c0=>
 gV z A c0 Z a0))))) fun d0=>
 (gE O false (eC pg R S Q true 206 #[U,V] d0) (d0 undef Q S)))))))))
 (((ad pg E D (cY 43 3 cS) fun e0=>
 (gU E D (I 0) 42 fun g0 h0 i0 j0 k0=>
 ad pg k0 j0 (binOp .lss 3 i0 e0) fun l0=>
 (au l0
 ((ad pg k0 j0 (dy 43 1 cS i0) fun m0=>
 ad pg k0 j0 (ld1 9 m0) fun n0=>
 (aC (bP v) (un (bV v 0 8) fun o0=>
 eC pg R k0 j0 true 205 #[o0,n0] fun q0 r0 s0=>
 (au q0
 (fin R s0 r0 (B true))
 (((ad pg s0 r0 (binOp .add 3 i0 (I 1)) fun t0=>
 gV g0 h0 t0 r0 s0))))))))
 (jb h i i0 C j0 k0)))))))))))))
 (fin R n m (B false)))))
noncomputable def Fc:ba:=⟨24,[(3,(pg.cellsOf 65)),(6,(pg.cellsOf 71))],[7,15,19],[0,1,4,8,9,10,11,22],[],[10]⟩
def wv (p0:Value) (_p1_0 _p1_1 _p1_2 dp cV cW:Int) (_p1_6 cM:Value):Prop:=
 (ad pg X0 w0 (cY 45 3 cM) fun a=>
 (gU X0 w0 (I 0) 10 fun b c d e g=>
 ad pg g e (binOp .lss 3 d a) fun h=>
 (au h
 ((ad pg g e (dy 45 4 cM d) fun i=>
 ad pg g e (ff 71 4 i) fun j=>
 un (ai (aa j)) fun k=>
 aC (ao (ab (aa j))==4) (aC (aq (ab (aa j)) aX.one) ((aC (bP k) (un (cellOf k 0) fun l=>
 eC pg R g e false 77 #[p0,l] fun m n o=>
 ad pg o n (W5 163 2 4 3 m) fun q=>
 eC pg R o n true 140 #[q,(.agg #[(I dp),(I cV),(I cW)])] fun r s t=>
 ad pg t s (binOp .geq 3 r (I 0)) fun v=>
 (au v
 (fin R t s (B true))
 (((ad pg t s (binOp .add 3 d (I 1)) fun y=>
 gV b c y s t))))))))))
 (fin R g e (B false)))))
noncomputable def Sd:ba:=⟨31,[(1,(pg.cellsOf 27))],[3,7,12,17,22,27],[0,2],[6,8,9,11,13,14,16,18,19,21,23,24,26,28,29],[]⟩
def IF (aR aW aY:Int):Prop:=
 (ad pg X0 w0 (binOp .geq 3 (I aR) (I 0)) fun a=>
 un (aK a true (I aR)) fun b=>
 aG pg X0 w0 a true (vS (binOp .leq 3 b (I 281474976710656))) fun c=>
 aw pg X0 w0 (aM a c (B false)) fun d=>
 un (aK d true (I aW)) fun e=>
 aG pg X0 w0 d true (vS (binOp .geq 3 e (I 0))) fun g=>
 aw pg X0 w0 (aM d g (B false)) fun h=>
 un (aK h true (I aW)) fun i=>
 aG pg X0 w0 h true (vS (binOp .leq 3 i (I 65535))) fun j=>
 aw pg X0 w0 (aM h j (B false)) fun k=>
 un (aK k true (I aY)) fun l=>
 aG pg X0 w0 k true (vS (binOp .geq 3 l (I 0))) fun m=>
 aw pg X0 w0 (aM k m (B false)) fun n=>
 un (aK n true (I aY)) fun o=>
 aG pg X0 w0 n true (vS (binOp .leq 3 o (I 63))) fun q=>
 aw pg X0 w0 (aM n q (B false)) fun r=>
 (fin R X0 w0 r))
noncomputable def JG:ba:=⟨9,[],[],[0,2],[5,6,7],[]⟩
def zS (p0:Int):Prop:=
 (ad pg X0 w0 (binOp .geq 3 (I p0) (I 1)) fun a=>
 un (aK a true (I p0)) fun b=>
 aG pg X0 w0 a true (vS (binOp .leq 3 b (I 12))) fun c=>
 aw pg X0 w0 (aM a c (B false)) fun d=>
 (fin R X0 w0 d))
noncomputable def Lj:ba:=⟨131,[(1,(pg.cellsOf 50))],[4,9,14,18,22,27,32,39,41,45,50,55,60,64,72,76,81,86,91,96,98,104,106,110,116,118,122,127],[0,2,3,13,15,16,37,70,102,114,117],[8,10,11,12,21,23,24,26,28,29,31,33,34,35,44,46,47,48,54,56,57,59,61,62,63,65,66,67,68,75,77,78,80,82,83,85,87,88,90,92,93,95,97,99,100,109,111,112,121,123,124,125],[]⟩
def BM (aR _p0_1 _p0_2 bB bQ bR bS bW cN cj bJ bG _p0_12 _p0_13 _p0_14:Int) (cG:Bool) (_p0_16 _p0_17:Int) (cm ca cn cq ct _p0_23:Value) (_p0_24 _p0_25:Int) (_p0_26 _p0_27:Nat) (_p0_28 _p0_29 _p0_30 _p0_31 _p0_32 _p0_33:Int) (_p0_34 _p0_35:Value):Prop:=
 (eC pg R X0 w0 true 201 #[(.agg #[(I bB),(I bQ),(I bR)])] fun a b c=>
 ad pg c b (aQ aT a) fun d=>
 un (aK d false (I bS)) fun e=>
 jn (fun (g:Value) (h:World) (i:XS)=>
 aG pg i h d false (vS (aQ aT g)) fun j=>
 aw pg i h (aM d (B true) j) fun k=>
 (au k
 (fin R i h (B false))
 (((ad pg i h (aD .eql 3 (.tmp 15) (.const (I 1)) (I aR) (I 1)) fun l=>
 (au l
 (ad pg i h (binOp .geq 3 (I bW) (I 0)) fun m=>
 un (aK m true (.agg #[(I cj),(I bJ),(I bG)])) fun n=>
 jn (fun (o:Value) (q:World) (r:XS)=>
 aw pg r q (aM m o (B false)) fun s=>
 un (aK s true cm) fun t=>
 jn (fun (v:Value) (y:World) (z:XS)=>
 aw pg z y (aM s v (B false)) fun A=>
 un (aK A true cm) fun C=>
 aG pg z y A true (vS (cY 43 3 C)) fun D=>
 aG pg z y A true (vS (binOp .gtr 3 D (I 0))) fun E=>
 aw pg z y (aM A E (B false)) fun F=>
 (fin R z y F)) fun G=>
 (gE s true (eC pg R r q true 209 #[t] G) (G undef q r))) fun H=>
 (gE m true (eC pg R i h true 144 #[n] H) (H undef h i)))
 (ad pg i h (aD .eql 3 (.tmp 15) (.const (I 2)) (I aR) (I 2)) fun L=>
 (au L
 (eC pg R i h false 211 #[ca] fun M N O=>
 un (aK M true ca) fun Q=>
 aG pg O N M true (vS (cY 44 3 Q)) fun S=>
 aG pg O N M true (vS (binOp .gtr 3 S (I 0))) fun T=>
 aw pg O N (aM M T (B false)) fun U=>
 eC pg R O N true 210 #[(I cN),U,ct] fun V Y Z=>
 (un (aK V true (.agg #[(I cj),(I bJ),(I bG)])) fun a0=>
 jn (fun (b0:Value) (c0:World) (d0:XS)=>
 aw pg d0 c0 (aM V b0 (B false)) fun e0=>
 un (aK e0 true (I cN)) fun g0=>
 aG pg d0 c0 e0 true (vS (aD .eql 36 (.tmp 61) (.const (I 0)) g0 (I 0))) fun h0=>
 un (aK e0 true h0) fun i0=>
 un (aK i0 false ca) fun j0=>
 aG pg d0 c0 i0 false (vS (cY 44 3 j0)) fun k0=>
 aG pg d0 c0 i0 false (vS (aD .eql 3 (.tmp 66) (.const (I 0)) k0 (I 0))) fun l0=>
 aG pg d0 c0 e0 true (aM i0 (B true) l0) fun m0=>
 aw pg d0 c0 (aM e0 m0 (B false)) fun n0=>
 (fin R d0 c0 n0)) fun o0=>
 (gE V true (eC pg R Z Y true 144 #[a0] o0) (o0 undef Y Z))))
 (ad pg i h (aD .eql 3 (.tmp 15) (.const (I 3)) (I aR) (I 3)) fun q0=>
 (au q0
 (ad pg i h (binOp .geq 3 (I bW) (I 0)) fun r0=>
 un (aK r0 true (.agg #[(I cj),(I bJ),(I bG)])) fun s0=>
 jn (fun (t0:Value) (v0:World) (y0:XS)=>
 aw pg y0 v0 (aM r0 t0 (B false)) fun z0=>
 un (aK z0 true ca) fun A0=>
 jn (fun (C0:Value) (D0:World) (E0:XS)=>
 aw pg E0 D0 (aM z0 C0 (B false)) fun F0=>
 un (aK F0 true cn) fun G0=>
 jn (fun (H0:Value) (L0:World) (M0:XS)=>
 aw pg M0 L0 (aM F0 H0 (B false)) fun N0=>
 un (aK N0 true cq) fun O0=>
 jn (fun (Q0:Value) (S0:World) (T0:XS)=>
 aw pg T0 S0 (aM N0 Q0 (B false)) fun U0=>
 un (aK U0 true cq) fun V0=>
 un (aK U0 true (I bS)) fun Y0=>
 jn (fun (Z0:Value) (a1:World) (b1:XS)=>
 aw pg b1 a1 (aM U0 Z0 (B false)) fun c1=>
 (fin R b1 a1 c1)) fun d1=>
 (gE U0 true (eC pg R T0 S0 true 214 #[V0,Y0] d1) (d1 undef S0 T0))) fun e1=>
 (gE N0 true (eC pg R M0 L0 true 213 #[O0] e1) (e1 undef L0 M0))) fun g1=>
 (gE F0 true (eC pg R E0 D0 true 212 #[G0] g1) (g1 undef D0 E0))) fun h1=>
 (gE z0 true (eC pg R y0 v0 true 211 #[A0] h1) (h1 undef v0 y0))) fun i1=>
 (gE r0 true (eC pg R i h true 144 #[s0] i1) (i1 undef h i)))
 (ad pg i h (aD .eql 3 (.tmp 15) (.const (I 4)) (I aR) (I 4)) fun j1=>
 (au j1
 (eC pg R i h true 210 #[(I cN),(B true),ct] fun k1 l1 m1=>
 un (aK k1 true (.agg #[(I cj),(I bJ),(I bG)])) fun n1=>
 jn (fun (o1:Value) (q1:World) (r1:XS)=>
 aw pg r1 q1 (aM k1 o1 (B false)) fun s1=>
 (fin R r1 q1 s1)) fun t1=>
 (gE k1 true (eC pg R m1 l1 true 144 #[n1] t1) (t1 undef l1 m1)))
 (ad pg i h (aD .eql 3 (.tmp 15) (.const (I 5)) (I aR) (I 5)) fun v1=>
 (au v1
 ((au (B cG)
 (eC pg R i h true 144 #[(.agg #[(I cj),(I bJ),(I bG)])] fun y1 z1 A1=>
 un (aK y1 true (.agg #[(I cj),(I bJ),(I bG)])) fun C1=>
 aG pg A1 z1 y1 true (vS (dK 27 #[(I 0),(I 0),(I 0)] #[])) fun D1=>
 aG pg A1 z1 y1 true (vS (aD .neq 27 (.tmp 123) (.tmp 124) C1 D1)) fun E1=>
 aw pg A1 z1 (aM y1 E1 (B false)) fun F1=>
 (fin R A1 z1 F1))
 ((ad pg i h (dK 27 #[(I 0),(I 0),(I 0)] #[]) fun G1=>
 ad pg i h (aD .eql 27 (.tmp 128) (.tmp 129) (.agg #[(I cj),(I bJ),(I bG)]) G1) fun H1=>
 (fin R i h H1)))))
 (fin R i h (B true)))))))))))))))) fun L1=>
 (gE d false (eC pg R c b true 145 #[e] L1) (L1 undef b c)))
def BN (p0:Value):Prop:=
 (ad pg X0 w0 (cY 48 3 p0) fun a=>
 (gU X0 w0 (I 0) 9 fun b c d e g=>
 ad pg g e (binOp .lss 3 d a) fun h=>
 (au h
 ((ad pg g e (dy 48 29 p0 d) fun i=>
 ad pg g e (ff 91 29 i) fun j=>
 un (ai (aa j)) fun k=>
 aC (ao (ab (aa j))==29) (aC (aq (ab (aa j)) aX.one) ((aC (bP k) (un (bV k 0 29) fun l=>
 eC pg R g e true 55 #[l] fun m n o=>
 ad pg o n (aB m 0) fun _=>
 ad pg o n (aB m 1) fun q=>
 (ad pg o n (aD .neq 36 (.tmp 18) (.const (I 0)) q (I 0)) fun r=>
 (au r
 (fin R o n (B false))
 (((ad pg o n (binOp .add 3 d (I 1)) fun s=>
 gV b c s n o)))))))))))
 (((ad pg g e (cY 48 3 p0) fun t=>
 ad pg g e (binOp .leq 3 t (I 8)) fun v=>
 (fin R g e v)))))))
noncomputable def Lk:ba:=⟨29,[(4,(pg.cellsOf 27)),(5,(pg.cellsOf 27)),(6,(pg.cellsOf 42))],[],[0,1,2,3,8,22],[12,13,14,15,16,18,19,20,21],[]⟩
def BO (aR aW aY bo bh bp im ju jB:Int) (p3:Value):Prop:=
 (eC pg R X0 w0 true 144 #[(.agg #[(I aR),(I aW),(I aY)])] fun a b c=>
 ad pg c b (aQ aT a) fun d=>
 un (aK d false (.agg #[(I aR),(I aW),(I aY)])) fun e=>
 un (aK d false (.agg #[(I bo),(I bh),(I bp)])) fun g=>
 jn (fun (h:Value) (i:World) (j:XS)=>
 aG pg j i d false (vS (binOp .geq 3 h (I 0))) fun k=>
 aw pg j i (aM d (B true) k) fun l=>
 un (aK l false p3) fun m=>
 aG pg j i l false (vS (cY 45 3 m)) fun n=>
 aG pg j i l false (vS (aD .eql 3 (.tmp 20) (.const (I 0)) n (I 0))) fun o=>
 aw pg j i (aM l (B true) o) fun q=>
 (au q
 (fin R j i (B false))
 ((ad pg j i (dK 65 #[(I im),(I ju),(I jB),(I bo),(I bh),(I bp),(.slice none 0 0),p3] #[(0,(.agg #[(I im),(I ju),(I jB)])),(1,(.agg #[(I bo),(I bh),(I bp)])),(3,p3)]) fun r=>
 eC pg R j i true 137 #[r] fun s t v=>
 ad pg v t (aD .eql 36 (.tmp 27) (.const (I 0)) s (I 0)) fun y=>
 (fin R v t y))))) fun z=>
 (gE d false (eC pg R c b true 140 #[e,g] z) (z undef b c)))
noncomputable def He:ba:=⟨12,[],[],[0,1,4],[],[]⟩
def xB (p0:Value) (p1:ByteArray):Prop:=
 (aw pg X0 w0 (az p0) fun a=>
 ad pg X0 w0 (aJ 85 4 4 4 a) fun b=>
 ad pg X0 w0 (ff 25 4 b) fun c=>
 eC pg R X0 w0 false 160 #[(.string p1)] fun d e g=>
 eC pg R g e true 159 #[c,d] fun h i j=>
 (fin R j i h))
def zT (p0:Value):Prop:=
 (ad pg X0 w0 (cY 86 3 p0) fun a=>
 ad pg X0 w0 (binOp .gtr 3 a (I 262144)) fun b=>
 (au b
 ((fin R X0 w0 (ay #[(.slice none 0 0),(I 2)])))
 ((ad pg X0 w0 (cY 86 3 p0) fun c=>
 ad pg X0 w0 (binOp .add 3 c (I 12)) fun d=>
 eV pg R X0 w0 true (Instr.makeSlice 86 (I 0) d) fun e g h=>
 ad pg h g (cY 86 3 p0) fun i=>
 ad pg h g (nv IntKind.u32 3 282 i) fun j=>
 eC pg R h g true 217 #[e,j] fun k l m=>
 (eC pg R m l true 179 #[k] fun n o q=>
 eC pg R q o true 217 #[k,n] fun r s t=>
 (eV pg R t s true (gf 86 5 1 1 86 r p0) fun v y z=>
 (eC pg R z y true 179 #[p0] fun A C D=>
 eC pg R D C true 217 #[v,A] fun E F G=>
 (fin R G F (ay #[E,(I 0)])))))))))
noncomputable def Ch:ba:=⟨53,[],[],[0,1,2,6,7,8,15,20,23,52],[],[]⟩
def ue (p0:Value) (p1:ByteArray) (p2:Value):Prop:=
 (aw pg X0 w0 (az p0) fun a=>
 ad pg X0 w0 (aJ 97 0 0 1 a) fun b=>
 ad pg X0 w0 (ld1 95 b) fun c=>
 ad pg X0 w0 (dI 95 c (.string p1) false) fun d=>
 (aw pg X0 w0 (az p0) fun e=>
 ad pg X0 w0 (aJ 97 4 4 1 e) fun g=>
 ad pg X0 w0 (ld1 4 g) fun h=>
 (au h
 (fin R X0 w0 (I 12))
 (ad pg X0 w0 (aD .eql 210 (.tmp 21) (.const (.pointer none)) d (.pointer none)) fun i=>
 (au i
 (fin R X0 w0 (I 8))
 (ad pg X0 w0 (cY 86 3 p2) fun j=>
 aw pg X0 w0 (az p0) fun k=>
 ad pg X0 w0 (aJ 97 1 1 1 k) fun l=>
 ad pg X0 w0 (ld1 3 l) fun m=>
 ad pg X0 w0 (binOp .sub 3 (I 4194304) m) fun n=>
 ad pg X0 w0 (binOp .gtr 3 j n) fun o=>
 (au o
 (fin R X0 w0 (I 11))
 (((eC pg R X0 w0 true 218 #[p0] fun q r s=>
 (aw pg s r (az d) fun t=>
 ad pg s r (aJ 281 0 0 1 t) fun v=>
 ad pg s r (ld1 86 v) fun y=>
 eV pg R s r true (gf 86 5 1 1 86 y p2) fun z A C=>
 aw pg C A (az d) fun D=>
 ad pg C A (aJ 281 0 0 1 D) fun E=>
 eU pg R C A true (st1 86 1 E z) fun _ F G=>
 (aw pg G F (az p0) fun H=>
 ad pg G F (aJ 97 1 1 1 H) fun L=>
 ad pg G F (ld1 3 L) fun M=>
 ad pg G F (cY 86 3 p2) fun N=>
 ad pg G F (binOp .add 3 M N) fun O=>
 aw pg G F (az p0) fun Q=>
 ad pg G F (aJ 97 1 1 1 Q) fun S=>
 eU pg R G F true (st1 3 1 S O) fun _ T U=>
 ((au q
 (fin R U T (I 12))
 (fin R U T (I 0))))))))))))))))
noncomputable def Fe:ba:=⟨11,[],[],[0,1,2,3,4],[],[]⟩
def wx (p0:Value) (p1:ByteArray):Prop:=
 eV pg R X0 w0 true (dR 39 p0) fun a b c=>
 eV pg R c b true (dR 9 (.string p1)) fun d e g=>
 (ad pg g e (ld1 39 a) fun h=>
 ad pg g e (ld1 39 a) fun i=>
 ad pg g e (ld1 9 d) fun j=>
 ad pg g e (cL (gm 219) #[] #[a,d]) fun k=>
 eC pg R g e false 183 #[i,j] fun l m n=>
 eC pg R n m true 181 #[h,l,k] fun o q r=>
 (fin R r q o))
noncomputable def Ci:ba:=⟨9,[],[],[0,1,3],[],[]⟩
def uf (p0:ByteArray) (c0:Value):Prop:=
 (ad pg X0 w0 (aJ 31 0 0 4 c0) fun a=>
 ad pg X0 w0 (ff 25 4 a) fun b=>
 eC pg R X0 w0 false 160 #[(.string p0)] fun c d e=>
 eC pg R e d true 159 #[b,c] fun g h i=>
 (fin R i h g))
noncomputable def PX:ba:=⟨15,[(2,(pg.cellsOf 25))],[6,11],[0,1,4],[9,10,12,13],[]⟩
def Gk (_p0_0 _p0_1:Int) (aY bB p1:Nat):Prop:=
 (ad pg X0 w0 (binOp .geq 23 (.float .f64 p1) (.float .f64 aY)) fun a=>
 un (aK a true (.float .f64 p1)) fun b=>
 un (aK a true (.float .f64 bB)) fun c=>
 aG pg X0 w0 a true (vS (binOp .lss 23 b c)) fun d=>
 aw pg X0 w0 (aM a d (B false)) fun e=>
 (fin R X0 w0 e))
noncomputable def PY:ba:=⟨8,[],[],[0,2],[],[]⟩
def Gl (p0:ByteArray):Prop:=
 (eC pg R X0 w0 true 220 #[(.string p0)] fun a b c=>
 ad pg c b (binOp .shr 250 a (aF aZ 11)) fun d=>
 ad pg c b (Bw 250 23 d) fun e=>
 ad pg c b (binOp .quo 23 e (.float .f64 4845873199050653696)) fun g=>
 (fin R c b g))
def Gm:Prop:=
 (eV pg R X0 w0 true (Instr.makeMap 187 none) fun a b c=>
 eV pg R c b true (Instr.makeMap 188 none) fun d e g=>
 ad pg g e (dK 190 #[a,d,(I 0),(I 0),(I 0)] #[(0,a),(1,d)]) fun h=>
 eV pg R g e true (dR 190 h) fun i j k=>
 (fin R k j i))
end
end Go.Proofs.YteomdhcbhmaiaaaGreat
