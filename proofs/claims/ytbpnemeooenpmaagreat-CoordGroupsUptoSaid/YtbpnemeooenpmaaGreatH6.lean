/-
 Part 6 of the proof: what the last text leans on.
-/
import Derived.Test.YtbpnemeooenpmaaGreatProg
import Derived.KernelRfl
import Derived.Test.YtbpnemeooenpmaaGreatH5
open Go.Value renaming cells → aa, agg → ak, tuple → aw, int → aA
open Array renaming toList → ad
open List renaming all → aq, length → ai, toArray → aQ
open Go.Op renaming unary → aY
open Go.UnOp renaming not → bp, xor → yg
open Go.IntKind renaming u64 → bg, u32 → fX, u8 → ei
open Go.Instr renaming extract → aL, box → dN, lookup → da, makeFunc → cn, mapUpdate → aO
open Go.Fn renaming func → e6
set_option linter.unusedVariables false
set_option linter.unusedSimpArgs false
namespace Go.Proofs.YtbpnemeooenpmaaGreat
open Go.Proofs.Tryz renaming prog → pg
open Go.aV
set_option maxRecDepth 100000
section
variable (R : Ending → World → Prop) (w0 : World) (X0 : XS)
def vy (p0 p1 p2:Value):Prop:=
 aB pg X0 w0 (aE p1) fun a=>
 ae pg X0 w0 (ld1 97 a) fun b=>
 ae pg X0 w0 (cD 97 3 b) fun c=>
 ((jn (fun (d:Value) (e:World) (g:XS)=>
 (gO g e (I 0) 39 fun h i j k l=>
 ae pg l k (binOp .lss 3 j d) fun m=>
 (az m
 ((((jn (fun (n:World) (o:XS)=>
 aB pg o n (aE p1) fun q=>
 ae pg o n (ld1 97 q) fun r=>
 ae pg o n (dt 97 4 r j) fun s=>
 eF pg R o n true p2 #[s] fun _ t v=>
 ((ae pg v t (binOp .add 3 j (I 1)) fun y=>
 gB h i y t v))) fun z=>
 aB pg l k (aE p0) fun A=>
 ae pg l k (aS 190 0 0 1 A) fun C=>
 ae pg l k (ld1 188 C) fun D=>
 ae pg l k (aD .eql 188 (.tmp 45) (.const (.pointer none)) D (.pointer none)) fun E=>
 (az E
 ((aB pg l k (aE p1) fun F=>
 ae pg l k (ld1 97 F) fun G=>
 eV pg R l k false (fH 97 247 4 1 #[(0,(.agg #[(.string { data:= #[] }),(I 0),(.float .f64 0),(.string { data:= #[] })]))]) fun H L M=>
 eV pg R M L true (e7 97 247 4 48 97 G H) fun N O Q=>
 aB pg Q O (aE p1) fun S=>
 eU pg R Q O true (st1 97 1 S N) fun _ T U=>
 (z T U)))
 (z k l))))))
 (fin R l k (aw #[]))))) fun V=>
 aB pg X0 w0 (aE p0) fun Y=>
 ae pg X0 w0 (aS 190 0 0 1 Y) fun Z=>
 ae pg X0 w0 (ld1 188 Z) fun a0=>
 ae pg X0 w0 (aD .neq 188 (.tmp 16) (.const (.pointer none)) a0 (.pointer none)) fun b0=>
 (az b0
 (aB pg X0 w0 (aE p0) fun c0=>
 ae pg X0 w0 (aS 190 0 0 1 c0) fun d0=>
 ae pg X0 w0 (ld1 188 d0) fun e0=>
 eC pg R X0 w0 true 190 #[e0,c] fun _ g0 h0=>
 (V c g0 h0))
 (aB pg X0 w0 (aE p0) fun i0=>
 ae pg X0 w0 (aS 190 1 1 1 i0) fun j0=>
 ae pg X0 w0 (ld1 184 j0) fun k0=>
 aB pg X0 w0 (aE p0) fun l0=>
 ae pg X0 w0 (aS 190 1 1 1 l0) fun m0=>
 ae pg X0 w0 (ld1 184 m0) fun n0=>
 eC pg R X0 w0 false 200 #[n0] fun o0 q0 r0=>
 eC pg R r0 q0 true 199 #[k0,o0] fun s0 t0 v0=>
 (eC pg R v0 t0 true 192 #[p0] fun _ y0 z0=>
 (aB pg z0 y0 (aE p1) fun A0=>
 eU pg R z0 y0 true (st1 97 1 A0 (.slice none 0 0)) fun _ C0 D0=>
 (V s0 C0 D0)))))))
def yP (p0 p1:Value):Prop:=
 aB pg X0 w0 (aE p1) fun a=>
 ae pg X0 w0 (aS 247 0 0 1 a) fun b=>
 eC pg R X0 w0 true 198 #[p0,b] fun _ c d=>
 (aB pg d c (aE p1) fun e=>
 ae pg d c (aS 247 1 1 3 e) fun g=>
 eC pg R d c true 205 #[p0,g] fun _ h i=>
 fin R i h (aw #[]))
noncomputable def XC:br:=⟨22,[(1,(pg.cellsOf 99)),(3,(pg.cellsOf 99))],[],[0,2,4,10,13],[17,18,19,20],[]⟩
def Mr (aX bo bt bN cd cr cp cy dh cX:Int) (bO:Bool) (bM:Int) (cZ:Nat) (cP cN cO cQ:Value) (cT cE:Int) (cz cG:Nat) (cH cA cM cB cI cJ:Int) (cK cL:Value):Prop:=
 (eC pg R X0 w0 true 206 #[(.agg #[(I aX),(I bo),(I bt),(I bN),(I cd),(I cr),(I cp),(I cy),(I dh),(I cX),(B bO),(I bM),(.float .f64 cZ),cP,cN,cO,cQ,(I cT),(I cE),(.float .f64 cz),(.float .f64 cG),(I cH),(I cA),(I cM),(I cB),(I cI),(I cJ),cK,cL])] fun a b c=>
 ae pg c b (aL a 0) fun d=>
 ae pg c b (aL a 1) fun e=>
 un (ak (aa d)) fun g=>
 aC (ai (ad (aa d))==29) (aC (aq (ad (aa d)) aV.one) ((ae pg c b (aY bp e) fun h=>
 (az h
 (fin R c b (I 7))
 (aC (bP g) (un (cq g 0 29) fun i=>
 eC pg R c b true 207 #[i] fun j k l=>
 ae pg l k (aY bp j) fun m=>
 un (aU m false (.agg #[(I aX),(I bo),(I bt),(I bN),(I cd),(I cr),(I cp),(I cy),(I dh),(I cX),(B bO),(I bM),(.float .f64 cZ),cP,cN,cO,cQ,(I cT),(I cE),(.float .f64 cz),(.float .f64 cG),(I cH),(I cA),(I cM),(I cB),(I cI),(I cJ),cK,cL])) fun n=>
 jn (fun (o:Value) (q:World) (r:XS)=>
 aK pg r q m false (vS (aY bp o)) fun s=>
 aB pg r q (aP m (B true) s) fun t=>
 (az t
 (fin R r q (I 4))
 (fin R r q (I 0)))) fun v=>
 (gE m false (eC pg R l k true 208 #[n] v) (v undef k l)))))))))
def A8:Prop:=
 (ae pg X0 w0 (dC 350 #[(.slice none 0 0)] #[]) fun a=>
 eV pg R X0 w0 true (dN 350 a) fun b c d=>
 (fin R d c b))
def yh (p0:Value):Prop:=
 (eV pg R X0 w0 true (fH 94 5 1 0 #[]) fun a b c=>
 aB pg c b (aE p0) fun d=>
 ae pg c b (aS 350 0 0 1 d) fun e=>
 ae pg c b (ld1 94 e) fun g=>
 eV pg R c b true (e7 94 5 1 1 94 a g) fun h i j=>
 (fin R j i h))
def rV (p0:Value):Prop:=
 (ae pg X0 w0 (aD .eql 34 (.tmp 3) (.const (.slice none 0 0)) p0 (.slice none 0 0)) fun a=>
 (az a
 (fin R X0 w0 (.slice none 0 0))
 (eV pg R X0 w0 true (fH 34 3 1 0 #[]) fun b c d=>
 eV pg R d c true (e7 34 3 1 8 34 b p0) fun e g h=>
 (fin R h g e))))
def Fg (p0:Value):Prop:=
 (ae pg X0 w0 (cD 94 3 p0) fun a=>
 ae pg X0 w0 (binOp .gtr 3 a (I 262144)) fun b=>
 (az b
 ((fin R X0 w0 (aw #[(.slice none 0 0),(I 2)])))
 ((ae pg X0 w0 (cD 94 3 p0) fun c=>
 ae pg X0 w0 (binOp .add 3 c (I 12)) fun d=>
 eV pg R X0 w0 true (Instr.makeSlice 94 (I 0) d) fun e g h=>
 ae pg h g (cD 94 3 p0) fun i=>
 ae pg h g (lQ fX 3 326 i) fun j=>
 eC pg R h g true 209 #[e,j] fun k l m=>
 (eC pg R m l true 184 #[k] fun n o q=>
 eC pg R q o true 209 #[k,n] fun r s t=>
 (eV pg R t s true (e7 94 5 1 1 94 r p0) fun v y z=>
 (eC pg R z y true 184 #[p0] fun A C D=>
 eC pg R D C true 209 #[v,A] fun E F G=>
 (fin R G F (aw #[E,(I 0)])))))))))
noncomputable def Ia:br:=⟨53,[],[],[0,1,2,6,7,8,15,20,23,52],[],[]⟩
def yQ (p0:Value) (p1:ByteArray) (p2:Value):Prop:=
 (aB pg X0 w0 (aE p0) fun a=>
 ae pg X0 w0 (aS 109 0 0 1 a) fun b=>
 ae pg X0 w0 (ld1 107 b) fun c=>
 ae pg X0 w0 (da 107 c (.string p1) false) fun d=>
 (aB pg X0 w0 (aE p0) fun e=>
 ae pg X0 w0 (aS 109 4 4 1 e) fun g=>
 ae pg X0 w0 (ld1 4 g) fun h=>
 (az h
 (fin R X0 w0 (I 12))
 (ae pg X0 w0 (aD .eql 253 (.tmp 21) (.const (.pointer none)) d (.pointer none)) fun i=>
 (az i
 (fin R X0 w0 (I 8))
 (ae pg X0 w0 (cD 94 3 p2) fun j=>
 aB pg X0 w0 (aE p0) fun k=>
 ae pg X0 w0 (aS 109 1 1 1 k) fun l=>
 ae pg X0 w0 (ld1 3 l) fun m=>
 ae pg X0 w0 (binOp .sub 3 (I 4194304) m) fun n=>
 ae pg X0 w0 (binOp .gtr 3 j n) fun o=>
 (az o
 (fin R X0 w0 (I 11))
 (((eC pg R X0 w0 true 210 #[p0] fun q r s=>
 (aB pg s r (aE d) fun t=>
 ae pg s r (aS 325 0 0 1 t) fun v=>
 ae pg s r (ld1 94 v) fun y=>
 eV pg R s r true (e7 94 5 1 1 94 y p2) fun z A C=>
 aB pg C A (aE d) fun D=>
 ae pg C A (aS 325 0 0 1 D) fun E=>
 eU pg R C A true (st1 94 1 E z) fun _ F G=>
 (aB pg G F (aE p0) fun H=>
 ae pg G F (aS 109 1 1 1 H) fun L=>
 ae pg G F (ld1 3 L) fun M=>
 ae pg G F (cD 94 3 p2) fun N=>
 ae pg G F (binOp .add 3 M N) fun O=>
 aB pg G F (aE p0) fun Q=>
 ae pg G F (aS 109 1 1 1 Q) fun S=>
 eU pg R G F true (st1 3 1 S O) fun _ T U=>
 ((az q
 (fin R U T (I 12))
 (fin R U T (I 0))))))))))))))))
noncomputable def Lo:br:=⟨11,[],[],[0,1,2,3,4],[],[]⟩
def A9 (p0:Value) (p1:ByteArray):Prop:=
 eV pg R X0 w0 true (dN 51 p0) fun a b c=>
 eV pg R c b true (dN 9 (.string p1)) fun d e g=>
 (ae pg g e (ld1 51 a) fun h=>
 ae pg g e (ld1 51 a) fun i=>
 ae pg g e (ld1 9 d) fun j=>
 ae pg g e (cn (e6 211) #[] #[a,d]) fun k=>
 eC pg R g e false 188 #[i,j] fun l m n=>
 eC pg R n m true 186 #[h,l,k] fun o q r=>
 (fin R r q o))
noncomputable def Lp:br:=⟨35,[(4,(pg.cellsOf 30)),(6,(pg.cellsOf 30))],[13,16,23,27,28,30],[0,1,5,17,21,29],[],[]⟩
def AI (p0:Value) (p1:Int):Prop:=
 (ae pg X0 w0 (Builtin.max_ #[3,3] 3 #[(I p1),(I 0)]) fun a=>
 (aB pg X0 w0 (aE p0) fun b=>
 ae pg X0 w0 (aS 206 0 0 3 b) fun c=>
 ae pg X0 w0 (dY 30 3 c) fun d=>
 un (ak (aa d)) fun e=>
 aC (ai (ad (aa d))==3) (aC (aq (ad (aa d)) aV.one) (((jn (fun (g:Value)=>
 (aC (bP g) (un (cq g 0 3) fun h=>
 un (ak (aa h)) fun i=>
 aC (ai (ad (aa h))==3) (aC (aq (ad (aa h)) aV.one) ((un (cq i 0 3) fun j=>
 aC (aq [i] bP) (fin R X0 w0 (aw #[j,(I 0)])))))))) fun k=>
 ae pg X0 w0 (binOp .gtr 3 a (I 281474976710656)) fun l=>
 (az l
 (ae pg X0 w0 (dC 30 #[(I 0),(I 0),(I 0)] #[]) fun m=>
 un (ak (aa m)) fun n=>
 aC (ai (ad (aa m))==3) (aC (aq (ad (aa m)) aV.one) ((un (cq n 0 3) fun o=>
 aC (aq [n] bP) (fin R X0 w0 (aw #[o,(I 15)]))))))
 (aC (bP e) (un (cellOf e 0) fun q=>
 ae pg X0 w0 (binOp .gtr 3 a q) fun r=>
 (az r
 (aC (bP e) (un (ak (aQ (dg (ad (aa e)) 0 [a]))) fun s=>
 aC (aV.one a) (un (ak (aQ (dg (ad (aa s)) 1 [(I 0)]))) fun t=>
 (k t))))
 (aC (bP e) (un (cellOf e 1) fun v=>
 ae pg X0 w0 (binOp .geq 3 v (I 65535)) fun y=>
 (az y
 (ae pg X0 w0 (dC 30 #[(I 0),(I 0),(I 0)] #[]) fun z=>
 un (ak (aa z)) fun A=>
 aC (ai (ad (aa z))==3) (aC (aq (ad (aa z)) aV.one) ((un (cq A 0 3) fun C=>
 aC (aq [A] bP) (fin R X0 w0 (aw #[C,(I 16)]))))))
 (aC (bP e) (ae pg X0 w0 (binOp .add 3 v (I 1)) fun D=>
 un (ak (aQ (dg (ad (aa e)) 1 [D]))) fun E=>
 aC (aV.one D) (k E))))))))))))))))
noncomputable def Nx:br:=⟨37,[(4,(pg.cellsOf 38)),(8,(pg.cellsOf 38))],[],[0,1,5,6,7,9,12,17,34],[30,31,32,33],[4,7]⟩
def B5 (p0:Value) (p1:ByteArray):Prop:=
 (eC pg R X0 w0 true 95 #[(.string p1)] fun a b c=>
 ae pg c b (aY bp a) fun d=>
 (az d
 (ae pg c b (dC 38 #[(I 0),(I 0),(.float .f64 0),(.float .f64 0)] #[]) fun e=>
 un (ak (aa e)) fun g=>
 aC (ai (ad (aa e))==4) (aC (aq (ad (aa e)) aV.one) ((un (cq g 0 4) fun h=>
 aC (aq [g] bP) (fin R c b (aw #[h,(B false)]))))))
 ((eC pg R c b true 12 #[(.string p1)] fun i j k=>
 ((gW k j (I 12) (.agg #[(I 0),(I 0),(.float .f64 0),(.float .f64 0)]) 7 4 fun l m n o q r=>
 ae pg r q (binOp .geq 3 n (I 1)) fun s=>
 (az s
 ((aB pg r q (aE p0) fun t=>
 ae pg r q (aS 164 0 0 1 t) fun v=>
 ae pg r q (ld1 162 v) fun y=>
 ae pg r q (da 162 y n true) fun z=>
 ae pg r q (aL z 0) fun A=>
 ae pg r q (aL z 1) fun C=>
 un (ak (aa A)) fun D=>
 aC (ai (ad (aa A))==4) (aC (aq (ad (aa A)) aV.one) ((aC (bP D) (un (cq D 0 4) fun E=>
 un (aU C true E) fun F=>
 un (aU C true i) fun G=>
 jn (fun (H:Value) (L:World) (M:XS)=>
 aB pg M L (aP C H (B false)) fun N=>
 (az N
 (aC (bP D) (aC (bP o) (un (ak (aa E)) fun O=>
 aC (ai (ad (aa E))==4) (aC (aq (ad (aa E)) aV.one) ((un (cq O 0 4) fun Q=>
 aC (aq [O] bP) (fin R M L (aw #[Q,(B true)]))))))))
 (((ae pg M L (binOp .sub 3 n (I 1)) fun S=>
 gR l m S o L M))))) fun T=>
 (gE C true (eC pg R r q true 42 #[F,G] T) (T undef q r))))))))
 (((ae pg r q (dC 38 #[(I 0),(I 0),(.float .f64 0),(.float .f64 0)] #[]) fun U=>
 aC (bP o) (un (ak (aa U)) fun V=>
 aC (ai (ad (aa U))==4) (aC (aq (ad (aa U)) aV.one) ((un (cq V 0 4) fun Y=>
 aC (aq [V] bP) (fin R r q (aw #[Y,(B false)]))))))))))))))))
def jJ (p0:Value):Prop:=
 eV pg R X0 w0 true (dN 290 p0) fun a b c=>
 (ae pg c b (cn (e6 214) #[] #[a]) fun d=>
 (fin R c b d))
def oz (p0:Value):Prop:=
 (ae pg X0 w0 (aD .eql 31 (.tmp 3) (.const (.slice none 0 0)) p0 (.slice none 0 0)) fun a=>
 (az a
 (fin R X0 w0 (.slice none 0 0))
 (eV pg R X0 w0 true (fH 31 9 1 0 #[]) fun b c d=>
 eV pg R d c true (e7 31 9 1 16 31 b p0) fun e g h=>
 (fin R h g e))))
def mA (p0:Value):Prop:=
 (ae pg X0 w0 (aD .eql 32 (.tmp 3) (.const (.slice none 0 0)) p0 (.slice none 0 0)) fun a=>
 (az a
 (fin R X0 w0 (.slice none 0 0))
 (eV pg R X0 w0 true (fH 32 215 7 0 #[]) fun b c d=>
 eV pg R d c true (e7 32 215 7 72 32 b p0) fun e g h=>
 (fin R h g e))))
def lZ (p0:Value):Prop:=
 (ae pg X0 w0 (aD .eql 33 (.tmp 3) (.const (.slice none 0 0)) p0 (.slice none 0 0)) fun a=>
 (az a
 (fin R X0 w0 (.slice none 0 0))
 (eV pg R X0 w0 true (fH 33 64 4 0 #[]) fun b c d=>
 eV pg R d c true (e7 33 64 4 48 33 b p0) fun e g h=>
 (fin R h g e))))
def lG (p0 p1:Value):Prop:=
 ae pg X0 w0 (cD 32 3 p0) fun a=>
 (ae pg X0 w0 (lQ bg 3 132 a) fun b=>
 eC pg R X0 w0 true 162 #[b] fun c d e=>
 eC pg R e d true 215 #[p0,(I 0),a,c,p1] fun _ g h=>
 fin R h g (aw #[]))
noncomputable def wv:br:=⟨19,[],[],[0,1,4,5,7,8,9,16],[],[8]⟩
def oA (p0:Value) (p1:ByteArray):Prop:=
 (ae pg X0 w0 (cD 31 3 p0) fun a=>
 (gO X0 w0 (I 0) 8 fun b c d e g=>
 ae pg g e (binOp .lss 3 d a) fun h=>
 (az h
 (((ae pg g e (dt 31 1 p0 d) fun i=>
 ae pg g e (ld1 9 i) fun j=>
 ae pg g e (aD .eql 9 (.tmp 11) (.tmp 15) (.string p1) j) fun k=>
 (az k
 (fin R g e d)
 (((ae pg g e (binOp .add 3 d (I 1)) fun l=>
 gB b c l e g)))))))
 ((((fin R g e (I (-1)))))))))
noncomputable def XD:br:=⟨6,[],[],[0,2],[],[]⟩
def Ms (p0:Nat):Prop:=
 (eC pg R X0 w0 true 227 #[(.float .f64 p0)] fun a b c=>
 eC pg R c b true 97 #[a] fun d e g=>
 (fin R g e d))
noncomputable def VO:br:=⟨36,[],[],[0,2,3,4,5,6,14,21,24,27,32],[17,18,19],[]⟩
def J8 (p0:Nat):Prop:=
 (eC pg R X0 w0 true 164 #[(.float .f64 p0)] fun a b c=>
 (ae pg c b (binOp .shr 130 a (aA bg 52)) fun d=>
 ae pg c b (binOp .and 130 d (aA bg 2047)) fun e=>
 ae pg c b (binOp .and 130 a (aA bg 4503599627370495)) fun g=>
 (((jn (fun (h:Value)=>
 (ae pg c b (binOp .and 130 a (aA bg 9223372036854775808)) fun i=>
 ae pg c b (aD .neq 130 (.tmp 31) (.const (aA bg 0)) i (aA bg 0)) fun j=>
 (az j
 (ae pg c b (binOp .sub 3 (I 9) h) fun k=>
 (fin R c b k))
 (fin R c b h)))) fun l=>
 ae pg c b (aD .eql 130 (.tmp 15) (.const (aA bg 2047)) e (aA bg 2047)) fun m=>
 un (aU m true g) fun n=>
 aK pg c b m true (vS (aD .neq 130 (.tmp 18) (.const (aA bg 0)) n (aA bg 0))) fun o=>
 aB pg c b (aP m o (B false)) fun q=>
 (az q
 (fin R c b (I 0))
 (ae pg c b (aD .eql 130 (.tmp 22) (.const (aA bg 2047)) e (aA bg 2047)) fun r=>
 (az r
 (l (I 8))
 (ae pg c b (binOp .gtr 130 e (aA bg 0)) fun s=>
 (az s
 (l (I 7))
 (ae pg c b (binOp .gtr 130 g (aA bg 0)) fun t=>
 (az t
 (l (I 6))
 (l (I 5))))))))))))))
noncomputable def SQ:br:=⟨6,[(2,(pg.cellsOf 62))],[],[0,3],[],[]⟩
def Hs (p0:Bool):Prop:=
 ((az (B p0)
 (eC pg R X0 w0 true 228 #[(.float .f64 4607182418800017408)] fun a b c=>
 un (ak (aa a)) fun d=>
 aC (ai (ad (aa a))==3) (aC (aq (ad (aa a)) aV.one) (un (cq d 0 3) fun e=>
 aC (aq [d] bP) (fin R c b e))))
 ((eC pg R X0 w0 true 228 #[(.float .f64 0)] fun g h i=>
 un (ak (aa g)) fun j=>
 aC (ai (ad (aa g))==3) (aC (aq (ad (aa g)) aV.one) (un (cq j 0 3) fun k=>
 aC (aq [j] bP) (fin R i h k)))))))
noncomputable def Ny:br:=⟨46,[(2,(pg.cellsOf 62)),(3,(pg.cellsOf 62))],[14,16,20,22,26,29,31,35,37,41,43],[0,1,4,12,13,19,25,34,40],[8,9,10,11],[]⟩
def Cd (aX:Int) (bo:Nat) (bt:ByteArray) (dw:Int) (bZ:Nat) (dP:ByteArray):Prop:=
 (eC pg R X0 w0 true 96 #[(.agg #[(I aX),(.float .f64 bo),(.string bt)])] fun a b c=>
 ae pg c b (aY bp a) fun d=>
 un (aU d false (.agg #[(I dw),(.float .f64 bZ),(.string dP)])) fun e=>
 jn (fun (g:Value) (h:World) (i:XS)=>
 aK pg i h d false (vS (aY bp g)) fun j=>
 aB pg i h (aP d (B true) j) fun k=>
 (az k
 (fin R i h (I 0))
 ((ae pg i h (binOp .lss 3 (I aX) (I dw)) fun l=>
 (az l
 ((fin R i h (I (-1))))
 (ae pg i h (binOp .gtr 3 (I aX) (I dw)) fun m=>
 (az m
 (fin R i h (I 1))
 (ae pg i h (aD .eql 3 (.tmp 27) (.const (I 1)) (I aX) (I 1)) fun n=>
 (az n
 (eC pg R i h true 229 #[(.float .f64 bo),(.float .f64 bZ)] fun o q r=>
 (fin R r q o))
 (ae pg i h (binOp .lss 9 (.string bt) (.string dP)) fun s=>
 (az s
 ((fin R i h (I (-1))))
 (ae pg i h (binOp .gtr 9 (.string bt) (.string dP)) fun t=>
 (az t
 (fin R i h (I 1))
 (fin R i h (I 0))))))))))))))) fun v=>
 (gE d false (eC pg R c b true 96 #[e] v) (v undef b c)))
noncomputable def Qv:br:=⟨54,[(4,(pg.cellsOf 62)),(5,(pg.cellsOf 62)),(6,(pg.cellsOf 62))],[9,13,19,21],[0,1,2,7,8,16,23,27,32,37,42,47],[12,14,15],[]⟩
def EP (p0 dw:Int) (bZ:Nat) (_p1_2:ByteArray) (gQ:Int) (gL:Nat) (_p2_2:ByteArray):Prop:=
 ((jn (fun (a:World) (b:XS)=>
 (((jn (fun (c:Value) (d:World) (e:XS)=>
 (eC pg R e d true 228 #[c] fun g h i=>
 un (ak (aa g)) fun j=>
 aC (ai (ad (aa g))==3) (aC (aq (ad (aa g)) aV.one) (un (cq j 0 3) fun k=>
 aC (aq [j] bP) (fin R i h k))))) fun l=>
 ae pg b a (aD .eql 3 (.tmp 23) (.const (I 5)) (I p0) (I 5)) fun m=>
 (az m
 (eC pg R b a true 230 #[(.float .f64 bZ),(.float .f64 gL)] fun n o q=>
 (l n o q))
 (ae pg b a (aD .eql 3 (.tmp 23) (.const (I 6)) (I p0) (I 6)) fun r=>
 (az r
 (eC pg R b a true 231 #[(.float .f64 bZ),(.float .f64 gL)] fun s t v=>
 (l s t v))
 (ae pg b a (aD .eql 3 (.tmp 23) (.const (I 7)) (I p0) (I 7)) fun y=>
 (az y
 (eC pg R b a true 232 #[(.float .f64 bZ),(.float .f64 gL)] fun z A C=>
 (l z A C))
 (ae pg b a (aD .eql 3 (.tmp 23) (.const (I 8)) (I p0) (I 8)) fun D=>
 (az D
 (eC pg R b a true 233 #[(.float .f64 bZ),(.float .f64 gL)] fun E F G=>
 (l E F G))
 (ae pg b a (aD .eql 3 (.tmp 23) (.const (I 9)) (I p0) (I 9)) fun H=>
 (az H
 (eC pg R b a true 234 #[(.float .f64 bZ),(.float .f64 gL)] fun L M N=>
 (l L M N))
 (eC pg R b a true 235 #[(.float .f64 bZ),(.float .f64 gL)] fun O Q S=>
 (l O Q S))))))))))))))) fun T=>
 ae pg X0 w0 (aD .eql 3 (.tmp 10) (.const (I 2)) (I dw) (I 2)) fun U=>
 un (aU U false (I gQ)) fun V=>
 aK pg X0 w0 U false (vS (aD .eql 3 (.tmp 14) (.const (I 2)) V (I 2))) fun Y=>
 aB pg X0 w0 (aP U (B true) Y) fun Z=>
 (az Z
 (ae pg X0 w0 (dC 137 #[(I 23)] #[(0,(I 23))]) fun a0=>
 ae pg X0 w0 (Instr.makeInterface 137 a0) fun b0=>
 eV pg R X0 w0 true (Instr.panic b0) fun _ c0 d0=>
 (T c0 d0))
 (T w0 X0))))
noncomputable def wx:br:=⟨148,[],[],[0,1,2,3,4,10,11,12,13,14,15,16,17,18,19,20,25,32,39,56,75,80,97,125],[69,70,72,73,74,83,84,85,86,87,88,89,90,91,92,93,94,95,96],[1,2,3,10,11]⟩
def oq (p0:Value) (p1 p2 p3:Int) (p4:Value):Prop:=
 ((sP X0 w0 (I p2) (B true) (B true) (I p1) (I p3) 2 10 11 1 3 fun a b c d e g h i j=>
 (jn (fun (k l m n o:Value) (q:World) (r:XS)=>
 sQ a b l n o k m q r) fun s=>
 ae pg j i (binOp .sub 3 c g) fun t=>
 (ae pg j i (binOp .leq 3 t (I 12)) fun v=>
 (az v
 (eC pg R j i true 236 #[p0,g,c,p4] fun _ y z=>
 (fin R z y (aw #[])))
 ((ae pg j i (aD .eql 3 (.tmp 31) (.const (I 0)) h (I 0)) fun A=>
 (az A
 (eC pg R j i true 237 #[p0,g,c,p4] fun _ C D=>
 (fin R D C (aw #[])))
 (((jn (fun (E:Value) (F:World) (G:XS)=>
 eC pg R G F true 239 #[p0,g,c,p4] fun H L M=>
 ae pg M L (aL H 0) fun N=>
 ae pg M L (aL H 1) fun O=>
 ((jn (fun (Q S:Value) (T:World) (U:XS)=>
 (jn (fun (V:World) (Y:XS)=>
 ae pg Y V (binOp .gtr 3 g (I 0)) fun Z=>
 un (aU Z true p4) fun a0=>
 un (aU Z true p0) fun b0=>
 un (aU Z true g) fun c0=>
 aK pg Y V Z true (vS (binOp .sub 3 c0 (I 1))) fun d0=>
 aK pg Y V Z true (vS (dt 70 3 b0 d0)) fun e0=>
 aK pg Y V Z true (vS (dY 27 3 e0)) fun g0=>
 un (aU Z true Q) fun h0=>
 aK pg Y V Z true (vS (dt 70 3 b0 h0)) fun i0=>
 aK pg Y V Z true (vS (dY 27 3 i0)) fun j0=>
 jn (fun (k0:Value) (l0:World) (m0:XS)=>
 aK pg m0 l0 Z true (vS (binOp .lss 3 k0 (I 0))) fun n0=>
 aK pg m0 l0 Z true (vS (aY bp n0)) fun o0=>
 aB pg m0 l0 (aP Z o0 (B false)) fun q0=>
 (az q0
 (eC pg R m0 l0 true 242 #[p0,g,c,Q,p4] fun r0 s0 t0=>
 (s r0 c E d e s0 t0))
 ((eC pg R m0 l0 true 243 #[p0,g,c,Q,p4] fun v0 y0 z0=>
 ae pg z0 y0 (aL v0 0) fun A0=>
 ae pg z0 y0 (aL v0 1) fun C0=>
 ((ae pg z0 y0 (binOp .sub 3 A0 g) fun D0=>
 ae pg z0 y0 (binOp .sub 3 c A0) fun E0=>
 (ae pg z0 y0 (binOp .quo 3 t (I 8)) fun F0=>
 (ae pg z0 y0 (binOp .lss 3 D0 E0) fun G0=>
 (az G0
 (ae pg z0 y0 (binOp .geq 3 D0 F0) fun H0=>
 (eC pg R z0 y0 true 172 #[p0,g,A0,E,p4] fun _ L0 M0=>
 (ae pg M0 L0 (binOp .add 3 A0 (I 1)) fun N0=>
 (s N0 c E H0 C0 L0 M0))))
 (ae pg z0 y0 (binOp .geq 3 E0 F0) fun O0=>
 (ae pg z0 y0 (binOp .add 3 A0 (I 1)) fun Q0=>
 eC pg R z0 y0 true 172 #[p0,Q0,c,E,p4] fun _ S0 T0=>
 (s g A0 E O0 C0 S0 T0)))))))))))) fun U0=>
 (gE Z true (eF pg R Y V true a0 #[g0,j0] U0) (U0 undef V Y))) fun V0=>
 un (aU d true e) fun Y0=>
 aB pg U T (aP d Y0 (B false)) fun Z0=>
 un (aU Z0 true S) fun a1=>
 aK pg U T Z0 true (vS (aD .eql 355 (.tmp 73) (.const (I 1)) a1 (I 1))) fun b1=>
 aB pg U T (aP Z0 b1 (B false)) fun c1=>
 (az c1
 (eC pg R U T true 241 #[p0,g,c,p4] fun d1 e1 g1=>
 (az d1
 (fin R g1 e1 (aw #[]))
 (V0 e1 g1)))
 (V0 T U)))) fun h1=>
 ae pg M L (aD .eql 355 (.tmp 55) (.const (I 2)) O (I 2)) fun i1=>
 (az i1
 (eC pg R M L true 240 #[p0,g,c,p4] fun _ j1 k1=>
 (ae pg k1 j1 (binOp .sub 3 c (I 1)) fun l1=>
 ae pg k1 j1 (binOp .sub 3 N g) fun m1=>
 ae pg k1 j1 (binOp .sub 3 l1 m1) fun n1=>
 (h1 n1 (I 1) j1 k1)))
 (h1 N O L M))))) fun o1=>
 ae pg j i (aY bp d) fun q1=>
 (az q1
 (eC pg R j i true 238 #[p0,g,c,p4] fun _ r1 s1=>
 (ae pg s1 r1 (binOp .sub 3 h (I 1)) fun t1=>
 (o1 t1 r1 s1)))
 (o1 h i j)))))))))))))
noncomputable def Qw:br:=⟨9,[],[],[0,2],[5,6,7],[]⟩
def Fh (p0:Int):Prop:=
 (ae pg X0 w0 (binOp .geq 3 (I p0) (I 1)) fun a=>
 un (aU a true (I p0)) fun b=>
 aK pg X0 w0 a true (vS (binOp .leq 3 b (I 12))) fun c=>
 aB pg X0 w0 (aP a c (B false)) fun d=>
 (fin R X0 w0 d))
noncomputable def SR:br:=⟨131,[(1,(pg.cellsOf 44))],[4,9,14,18,22,27,32,39,41,45,50,55,60,64,72,76,81,86,91,96,98,104,106,110,116,118,122,127],[0,2,3,13,15,16,37,70,102,114,117],[8,10,11,12,21,23,24,26,28,29,31,33,34,35,44,46,47,48,54,56,57,59,61,62,63,65,66,67,68,75,77,78,80,82,83,85,87,88,90,92,93,95,97,99,100,109,111,112,121,123,124,125],[]⟩
def HG (aX _p0_1 _p0_2 bN cd cr cp cy dh cX bO bM _p0_12 _p0_13 _p0_14:Int) (cO:Bool) (_p0_16 _p0_17:Int) (cE cz cG cH cA _p0_23:Value) (_p0_24 _p0_25:Int) (_p0_26 _p0_27:Nat) (_p0_28 _p0_29 _p0_30 _p0_31 _p0_32 _p0_33:Int) (_p0_34 _p0_35:Value):Prop:=
 (eC pg R X0 w0 true 244 #[(.agg #[(I bN),(I cd),(I cr)])] fun a b c=>
 ae pg c b (aY bp a) fun d=>
 un (aU d false (I cp)) fun e=>
 jn (fun (g:Value) (h:World) (i:XS)=>
 aK pg i h d false (vS (aY bp g)) fun j=>
 aB pg i h (aP d (B true) j) fun k=>
 (az k
 (fin R i h (B false))
 (((ae pg i h (aD .eql 3 (.tmp 15) (.const (I 1)) (I aX) (I 1)) fun l=>
 (az l
 (ae pg i h (binOp .geq 3 (I cy) (I 0)) fun m=>
 un (aU m true (.agg #[(I cX),(I bO),(I bM)])) fun n=>
 jn (fun (o:Value) (q:World) (r:XS)=>
 aB pg r q (aP m o (B false)) fun s=>
 un (aU s true cE) fun t=>
 jn (fun (v:Value) (y:World) (z:XS)=>
 aB pg z y (aP s v (B false)) fun A=>
 un (aU A true cE) fun C=>
 aK pg z y A true (vS (cD 31 3 C)) fun D=>
 aK pg z y A true (vS (binOp .gtr 3 D (I 0))) fun E=>
 aB pg z y (aP A E (B false)) fun F=>
 (fin R z y F)) fun G=>
 (gE s true (eC pg R r q true 245 #[t] G) (G undef q r))) fun H=>
 (gE m true (eC pg R i h true 85 #[n] H) (H undef h i)))
 (ae pg i h (aD .eql 3 (.tmp 15) (.const (I 2)) (I aX) (I 2)) fun L=>
 (az L
 (eC pg R i h false 247 #[cz] fun M N O=>
 un (aU M true cz) fun Q=>
 aK pg O N M true (vS (cD 32 3 Q)) fun S=>
 aK pg O N M true (vS (binOp .gtr 3 S (I 0))) fun T=>
 aB pg O N (aP M T (B false)) fun U=>
 eC pg R O N true 246 #[(I dh),U,cA] fun V Y Z=>
 (un (aU V true (.agg #[(I cX),(I bO),(I bM)])) fun a0=>
 jn (fun (b0:Value) (c0:World) (d0:XS)=>
 aB pg d0 c0 (aP V b0 (B false)) fun e0=>
 un (aU e0 true (I dh)) fun g0=>
 aK pg d0 c0 e0 true (vS (aD .eql 28 (.tmp 61) (.const (I 0)) g0 (I 0))) fun h0=>
 un (aU e0 true h0) fun i0=>
 un (aU i0 false cz) fun j0=>
 aK pg d0 c0 i0 false (vS (cD 32 3 j0)) fun k0=>
 aK pg d0 c0 i0 false (vS (aD .eql 3 (.tmp 66) (.const (I 0)) k0 (I 0))) fun l0=>
 aK pg d0 c0 e0 true (aP i0 (B true) l0) fun m0=>
 aB pg d0 c0 (aP e0 m0 (B false)) fun n0=>
 (fin R d0 c0 n0)) fun o0=>
 (gE V true (eC pg R Z Y true 85 #[a0] o0) (o0 undef Y Z))))
 (ae pg i h (aD .eql 3 (.tmp 15) (.const (I 3)) (I aX) (I 3)) fun q0=>
 (az q0
 (ae pg i h (binOp .geq 3 (I cy) (I 0)) fun r0=>
 un (aU r0 true (.agg #[(I cX),(I bO),(I bM)])) fun s0=>
 jn (fun (t0:Value) (v0:World) (y0:XS)=>
 aB pg y0 v0 (aP r0 t0 (B false)) fun z0=>
 un (aU z0 true cz) fun A0=>
 jn (fun (C0:Value) (D0:World) (E0:XS)=>
 aB pg E0 D0 (aP z0 C0 (B false)) fun F0=>
 un (aU F0 true cG) fun G0=>
 jn (fun (H0:Value) (L0:World) (M0:XS)=>
 aB pg M0 L0 (aP F0 H0 (B false)) fun N0=>
 un (aU N0 true cH) fun O0=>
 jn (fun (Q0:Value) (S0:World) (T0:XS)=>
 aB pg T0 S0 (aP N0 Q0 (B false)) fun U0=>
 un (aU U0 true cH) fun V0=>
 un (aU U0 true (I cp)) fun Y0=>
 jn (fun (Z0:Value) (a1:World) (b1:XS)=>
 aB pg b1 a1 (aP U0 Z0 (B false)) fun c1=>
 (fin R b1 a1 c1)) fun d1=>
 (gE U0 true (eC pg R T0 S0 true 250 #[V0,Y0] d1) (d1 undef S0 T0))) fun e1=>
 (gE N0 true (eC pg R M0 L0 true 249 #[O0] e1) (e1 undef L0 M0))) fun g1=>
 (gE F0 true (eC pg R E0 D0 true 248 #[G0] g1) (g1 undef D0 E0))) fun h1=>
 (gE z0 true (eC pg R y0 v0 true 247 #[A0] h1) (h1 undef v0 y0))) fun i1=>
 (gE r0 true (eC pg R i h true 85 #[s0] i1) (i1 undef h i)))
 (ae pg i h (aD .eql 3 (.tmp 15) (.const (I 4)) (I aX) (I 4)) fun j1=>
 (az j1
 (eC pg R i h true 246 #[(I dh),(B true),cA] fun k1 l1 m1=>
 un (aU k1 true (.agg #[(I cX),(I bO),(I bM)])) fun n1=>
 jn (fun (o1:Value) (q1:World) (r1:XS)=>
 aB pg r1 q1 (aP k1 o1 (B false)) fun s1=>
 (fin R r1 q1 s1)) fun t1=>
 (gE k1 true (eC pg R m1 l1 true 85 #[n1] t1) (t1 undef l1 m1)))
 (ae pg i h (aD .eql 3 (.tmp 15) (.const (I 5)) (I aX) (I 5)) fun v1=>
 (az v1
 ((az (B cO)
 (eC pg R i h true 85 #[(.agg #[(I cX),(I bO),(I bM)])] fun y1 z1 A1=>
 un (aU y1 true (.agg #[(I cX),(I bO),(I bM)])) fun C1=>
 aK pg A1 z1 y1 true (vS (dC 30 #[(I 0),(I 0),(I 0)] #[])) fun D1=>
 aK pg A1 z1 y1 true (vS (aD .neq 30 (.tmp 123) (.tmp 124) C1 D1)) fun E1=>
 aB pg A1 z1 (aP y1 E1 (B false)) fun F1=>
 (fin R A1 z1 F1))
 ((ae pg i h (dC 30 #[(I 0),(I 0),(I 0)] #[]) fun G1=>
 ae pg i h (aD .eql 30 (.tmp 128) (.tmp 129) (.agg #[(I cX),(I bO),(I bM)]) G1) fun H1=>
 (fin R i h H1)))))
 (fin R i h (B true)))))))))))))))) fun L1=>
 (gE d false (eC pg R c b true 173 #[e] L1) (L1 undef b c)))
def HH (p0:Value):Prop:=
 (ae pg X0 w0 (cD 35 3 p0) fun a=>
 (gO X0 w0 (I 0) 9 fun b c d e g=>
 ae pg g e (binOp .lss 3 d a) fun h=>
 (az h
 ((ae pg g e (dt 35 29 p0 d) fun i=>
 ae pg g e (dY 99 29 i) fun j=>
 un (ak (aa j)) fun k=>
 aC (ai (ad (aa j))==29) (aC (aq (ad (aa j)) aV.one) ((aC (bP k) (un (cq k 0 29) fun l=>
 eC pg R g e true 80 #[l] fun m n o=>
 ae pg o n (aL m 0) fun _=>
 ae pg o n (aL m 1) fun q=>
 (ae pg o n (aD .neq 28 (.tmp 18) (.const (I 0)) q (I 0)) fun r=>
 (az r
 (fin R o n (B false))
 (((ae pg o n (binOp .add 3 d (I 1)) fun s=>
 gB b c s n o)))))))))))
 (((ae pg g e (cD 35 3 p0) fun t=>
 ae pg g e (binOp .leq 3 t (I 8)) fun v=>
 (fin R g e v)))))))
noncomputable def Nz:br:=⟨87,[(7,(pg.cellsOf 320)),(9,(pg.cellsOf 266)),(13,(pg.cellsOf 64))],[49,61,73,81],[0,1,2,4,5,11,29,39,42,43,44,45,52,55,56,57,58,62,63,64,65,71,74,75,76,77,84],[18,19,20,21,22,24,25,26,27,28],[44,57,64,76]⟩
def CE (aX bo:Int) (bt bN:Nat) (cd cr cp cy dh cX:Int) (bO bM:Value):Prop:=
 eV pg R X0 w0 true (dN 42 (.agg #[(I aX),(I bo),(.float .f64 bt),(.float .f64 bN),(I cd),(I cr),(I cp),(I cy),(I dh),(I cX),bO,bM])) fun a b c=>
 (ae pg c b (aS 42 0 0 4 a) fun d=>
 ae pg c b (dY 38 4 d) fun e=>
 eC pg R c b true 125 #[e] fun g h i=>
 ae pg i h (aY bp g) fun j=>
 aK pg i h j false (vS (aS 42 1 4 3 a)) fun k=>
 aK pg i h j false (vS (dY 30 3 k)) fun l=>
 jn (fun (m:Value) (n:World) (o:XS)=>
 aK pg o n j false (vS (aY bp m)) fun q=>
 aB pg o n (aP j (B true) q) fun r=>
 aK pg o n r false (vS (aS 42 2 7 3 a)) fun s=>
 aK pg o n r false (vS (dY 30 3 s)) fun t=>
 jn (fun (v:Value) (y:World) (z:XS)=>
 aK pg z y r false (vS (aY bp v)) fun A=>
 aB pg z y (aP r (B true) A) fun C=>
 (az C
 (fin R z y (B false))
 ((ae pg z y (aS 42 3 10 1 a) fun D=>
 ae pg z y (ld1 39 D) fun E=>
 ae pg z y (aS 42 4 11 1 a) fun F=>
 ae pg z y (ld1 40 F) fun G=>
 eC pg R z y true 251 #[E,G] fun H L M=>
 ae pg M L (aL H 0) fun _=>
 ae pg M L (aL H 1) fun N=>
 (ae pg M L (aD .neq 28 (.tmp 38) (.const (I 0)) N (I 0)) fun O=>
 (az O
 (fin R M L (B false))
 ((ae pg M L (cn (e6 252) #[] #[a]) fun Q=>
 (ae pg M L (aS 42 3 10 1 a) fun S=>
 ae pg M L (ld1 39 S) fun T=>
 ae pg M L (cD 39 3 T) fun U=>
 (gO M L (I 0) 44 fun V Y Z a0 b0=>
 ae pg b0 a0 (binOp .lss 3 Z U) fun c0=>
 (az c0
 ((ae pg b0 a0 (dt 39 2 T Z) fun d0=>
 ae pg b0 a0 (dY 320 2 d0) fun e0=>
 un (ak (aa e0)) fun g0=>
 aC (ai (ad (aa e0))==2) (aC (aq (ad (aa e0)) aV.one) ((aC (bP g0) (un (cellOf g0 0) fun h0=>
 eF pg R b0 a0 true Q #[h0] fun i0 j0 k0=>
 ae pg k0 j0 (aY bp i0) fun l0=>
 (az l0
 (fin R k0 j0 (B false))
 (((ae pg k0 j0 (binOp .add 3 Z (I 1)) fun m0=>
 gB V Y m0 j0 k0))))))))))
 (((ae pg b0 a0 (aS 42 4 11 1 a) fun n0=>
 ae pg b0 a0 (ld1 40 n0) fun o0=>
 ae pg b0 a0 (cD 40 3 o0) fun q0=>
 (ry b0 a0 (I 0) undef undef 57 76 64 fun r0 s0 t0 _ _ v0 y0=>
 ae pg y0 v0 (binOp .lss 3 t0 q0) fun z0=>
 (az z0
 ((ae pg y0 v0 (dt 40 8 o0 t0) fun A0=>
 ae pg y0 v0 (dY 266 8 A0) fun C0=>
 un (ak (aa C0)) fun D0=>
 aC (ai (ad (aa C0))==8) (aC (aq (ad (aa C0)) aV.one) ((aC (bP D0) (un (cellOf D0 6) fun E0=>
 ae pg y0 v0 (cD 31 3 E0) fun F0=>
 (gO y0 v0 (I 0) 64 fun G0 H0 L0 M0 N0=>
 ae pg N0 M0 (binOp .lss 3 L0 F0) fun O0=>
 (az O0
 ((ae pg N0 M0 (dt 31 1 E0 L0) fun Q0=>
 ae pg N0 M0 (ld1 9 Q0) fun S0=>
 (eF pg R N0 M0 true Q #[S0] fun T0 U0 V0=>
 ae pg V0 U0 (aY bp T0) fun Y0=>
 (az Y0
 (fin R V0 U0 (B false))
 (((ae pg V0 U0 (binOp .add 3 L0 (I 1)) fun Z0=>
 gB G0 H0 Z0 U0 V0)))))))
 (((aC (bP D0) (un (cellOf D0 7) fun a1=>
 ae pg N0 M0 (cD 33 3 a1) fun b1=>
 (gO N0 M0 (I 0) 76 fun c1 d1 e1 g1 h1=>
 ae pg h1 g1 (binOp .lss 3 e1 b1) fun i1=>
 (az i1
 ((ae pg h1 g1 (dt 33 4 a1 e1) fun j1=>
 ae pg h1 g1 (dY 64 4 j1) fun k1=>
 un (ak (aa k1)) fun l1=>
 aC (ai (ad (aa k1))==4) (aC (aq (ad (aa k1)) aV.one) ((aC (bP l1) (un (cellOf l1 0) fun m1=>
 eF pg R h1 g1 true Q #[m1] fun n1 o1 q1=>
 ae pg q1 o1 (aY bp n1) fun r1=>
 (az r1
 (fin R q1 o1 (B false))
 (((ae pg q1 o1 (binOp .add 3 e1 (I 1)) fun s1=>
 gB c1 d1 s1 o1 q1))))))))))
 ((((ae pg h1 g1 (binOp .add 3 t0 (I 1)) fun t1=>
 rz r0 s0 t1 e1 L0 g1 h1))))))))))))))))))
 (fin R y0 v0 (B true)))))))))))))))))) fun v1=>
 (gE r false (eC pg R o n true 85 #[t] v1) (v1 undef n o))) fun y1=>
 (gE j false (eC pg R i h true 85 #[l] y1) (y1 undef h i)))
noncomputable def SS:br:=⟨29,[(4,(pg.cellsOf 30)),(5,(pg.cellsOf 30)),(6,(pg.cellsOf 27))],[],[0,1,2,3,8,22],[12,13,14,15,16,18,19,20,21],[]⟩
def HI (aX bo bt dw bZ dP gQ gL iF:Int) (p3:Value):Prop:=
 (eC pg R X0 w0 true 85 #[(.agg #[(I aX),(I bo),(I bt)])] fun a b c=>
 ae pg c b (aY bp a) fun d=>
 un (aU d false (.agg #[(I aX),(I bo),(I bt)])) fun e=>
 un (aU d false (.agg #[(I dw),(I bZ),(I dP)])) fun g=>
 jn (fun (h:Value) (i:World) (j:XS)=>
 aK pg j i d false (vS (binOp .geq 3 h (I 0))) fun k=>
 aB pg j i (aP d (B true) k) fun l=>
 un (aU l false p3) fun m=>
 aK pg j i l false (vS (cD 33 3 m)) fun n=>
 aK pg j i l false (vS (aD .eql 3 (.tmp 20) (.const (I 0)) n (I 0))) fun o=>
 aB pg j i (aP l (B true) o) fun q=>
 (az q
 (fin R j i (B false))
 ((ae pg j i (dC 266 #[(I gQ),(I gL),(I iF),(I dw),(I bZ),(I dP),(.slice none 0 0),p3] #[(0,(.agg #[(I gQ),(I gL),(I iF)])),(1,(.agg #[(I dw),(I bZ),(I dP)])),(3,p3)]) fun r=>
 eC pg R j i true 253 #[r] fun s t v=>
 ae pg v t (aD .eql 28 (.tmp 27) (.const (I 0)) s (I 0)) fun y=>
 (fin R v t y))))) fun z=>
 (gE d false (eC pg R c b true 180 #[e,g] z) (z undef b c)))
noncomputable def CO:br:=⟨11,[],[],[0,1,3,4],[],[]⟩
def um (p0:Value) (p1:Int):Prop:=
 eV pg R X0 w0 true (dN 3 (I p1)) fun a b c=>
 (aB pg c b (aE p0) fun d=>
 ae pg c b (aS 113 6 10 1 d) fun e=>
 ae pg c b (ld1 53 e) fun g=>
 ae pg c b (cn (e6 255) #[] #[a]) fun h=>
 eC pg R c b true 254 #[g,h] fun i j k=>
 (fin R k j i))
noncomputable def GG:br:=⟨23,[(3,(pg.cellsOf 30))],[13],[0,1,4,7],[],[]⟩
def xl (p0:Value) (dw bZ dP:Int):Prop:=
 (eC pg R X0 w0 true 85 #[(.agg #[(I dw),(I bZ),(I dP)])] fun a b c=>
 ae pg c b (aY bp a) fun d=>
 (az d
 (fin R c b (I 17))
 ((aB pg c b (aE p0) fun e=>
 ae pg c b (aS 206 0 0 3 e) fun g=>
 ae pg c b (aS 30 2 2 1 g) fun h=>
 ae pg c b (ld1 3 h) fun i=>
 aC (aV.one i) ((aB pg c b (aE p0) fun j=>
 ae pg c b (aS 206 0 0 3 j) fun k=>
 ae pg c b (dY 30 3 k) fun l=>
 eC pg R c b true 119 #[l,(.agg #[(I dw),(I bZ),i])] fun m n o=>
 aB pg o n (aE p0) fun q=>
 ae pg o n (aS 206 0 0 3 q) fun r=>
 eU pg R o n true (st1 30 3 r m) fun _ s t=>
 (fin R t s (I 0))))))))
noncomputable def Qx:br:=⟨37,[(2,(pg.cellsOf 30)),(3,(pg.cellsOf 30))],[7,9,11,13,20,22,25,27],[0,1,4,5,6,15,19,29,33],[],[]⟩
def Fi (aX bo bt dw bZ dP:Int):Prop:=
 (((jn (fun (a b:Value)=>
 (ae pg X0 w0 (binOp .lss 3 a b) fun c=>
 (az c
 ((fin R X0 w0 (I (-1))))
 (ae pg X0 w0 (binOp .gtr 3 a b) fun d=>
 (az d
 (fin R X0 w0 (I 1))
 (fin R X0 w0 (I 0))))))) fun e=>
 ae pg X0 w0 (aD .neq 3 (.tmp 16) (.tmp 17) (I aX) (I dw)) fun g=>
 (az g
 (e (I aX) (I dw))
 (ae pg X0 w0 (aD .neq 3 (.tmp 21) (.tmp 23) (I bo) (I bZ)) fun h=>
 (az h
 (e (I bo) (I bZ))
 (e (I bt) (I dP))))))))
noncomputable def Qy:br:=⟨10,[],[],[0,2],[6,7,8],[]⟩
def Fj (p0:Nat):Prop:=
 (eC pg R X0 w0 true 166 #[(.float .f64 p0)] fun a b c=>
 ae pg c b (binOp .geq 3 a (I 5)) fun d=>
 un (aU d true (.float .f64 p0)) fun e=>
 aK pg c b d true (vS (binOp .leq 36 e (.float .f64 4607182418800017408))) fun g=>
 aB pg c b (aP d g (B false)) fun h=>
 (fin R c b h))
def J9 (p0:Value):Prop:=
 ((ae pg X0 w0 (cD 94 3 p0) fun a=>
 ae pg X0 w0 (binOp .lss 3 a (I 64)) fun b=>
 (az b
 (ae pg X0 w0 (cD 94 3 p0) fun c=>
 (ry X0 w0 (I 0) undef (aA fX 4294967295) 14 22 3 fun d e g _ h i j=>
 ae pg j i (binOp .lss 3 g c) fun k=>
 (az k
 ((ae pg j i (dt 94 1 p0 g) fun l=>
 ae pg j i (ld1 5 l) fun m=>
 (ae pg j i (lQ fX 5 326 m) fun n=>
 ae pg j i (binOp .xor 326 h n) fun o=>
 ((gW j i (I 0) o 22 3 fun q r s t v y=>
 ae pg y v (binOp .lss 3 s (I 8)) fun z=>
 (az z
 ((ae pg y v (binOp .shr 326 t (aA bg 1)) fun A=>
 ae pg y v (binOp .and 326 t (aA fX 1)) fun C=>
 ae pg y v (aY UnOp.neg C) fun D=>
 ae pg y v (binOp .and 326 (aA fX 2197175160) D) fun E=>
 ae pg y v (binOp .xor 326 A E) fun F=>
 ((ae pg y v (binOp .add 3 s (I 1)) fun G=>
 gR q r G F v y))))
 ((((ae pg y v (binOp .add 3 g (I 1)) fun H=>
 rz d e H s t v y))))))))))
 (ae pg j i (aY yg h) fun L=>
 (fin R j i L)))))
 ((eC pg R X0 w0 true 256 #[] fun M N O=>
 eV pg R O N true (Instr.alloc 385 true (aw #[])) fun Q S T=>
 eU pg R T S true (st1 385 256 Q M) fun _ U V=>
 (ae pg V U (cD 94 3 p0) fun Y=>
 (gW V U (I 0) (aA fX 4294967295) 38 3 fun Z a0 b0 c0 d0 e0=>
 ae pg e0 d0 (binOp .lss 3 b0 Y) fun g0=>
 (az g0
 ((ae pg e0 d0 (dt 94 1 p0 b0) fun h0=>
 ae pg e0 d0 (ld1 5 h0) fun i0=>
 (ae pg e0 d0 (binOp .shr 326 c0 (aA bg 8)) fun j0=>
 ae pg e0 d0 (lQ ei 326 5 c0) fun k0=>
 ae pg e0 d0 (binOp .xor 5 k0 i0) fun l0=>
 ae pg e0 d0 (Instr.indexAt 385 Q l0) fun m0=>
 ae pg e0 d0 (ld1 326 m0) fun n0=>
 ae pg e0 d0 (binOp .xor 326 j0 n0) fun o0=>
 ((ae pg e0 d0 (binOp .add 3 b0 (I 1)) fun q0=>
 gR Z a0 q0 o0 d0 e0)))))
 (ae pg e0 d0 (aY yg c0) fun r0=>
 (fin R e0 d0 r0))))))))))
noncomputable def VP:br:=⟨11,[],[],[0,2],[6,7,8,9],[]⟩
def Ka (p0:ByteArray):Prop:=
 (ae pg X0 w0 (kK 9 3 (.string p0)) fun a=>
 ae pg X0 w0 (binOp .geq 3 a (I 1)) fun b=>
 un (aU b true (.string p0)) fun c=>
 aK pg X0 w0 b true (vS (kK 9 3 c)) fun d=>
 aK pg X0 w0 b true (vS (binOp .leq 3 d (I 20))) fun e=>
 aB pg X0 w0 (aP b e (B false)) fun g=>
 (fin R X0 w0 g))
noncomputable def Kb:br:=⟨21,[],[],[0,1,2,6,7,12,16],[],[]⟩
def Ac (p0:Value) (p1:Int) (p2:Value):Prop:=
 (aB pg X0 w0 (aE p0) fun a=>
 ae pg X0 w0 (aS 109 4 4 1 a) fun b=>
 ae pg X0 w0 (ld1 4 b) fun c=>
 (az c
 (fin R X0 w0 (I 12))
 (ae pg X0 w0 (aD .neq 28 (.tmp 13) (.const (I 0)) (I p1) (I 0)) fun d=>
 (az d
 (fin R X0 w0 (I p1))
 (eC pg R X0 w0 true 210 #[p0] fun e g h=>
 (az e
 (fin R h g (I 12))
 (((eF pg R h g true p2 #[] fun _ i j=>
 (fin R j i (I 0)))))))))))
noncomputable def El:br:=⟨9,[],[],[0,1],[],[]⟩
def vz (c0 c1:Value):Prop:=
 ae pg X0 w0 (ld1 51 c0) fun a=>
 aB pg X0 w0 (aE a) fun b=>
 ae pg X0 w0 (aS 109 0 0 1 b) fun c=>
 ae pg X0 w0 (ld1 107 c) fun d=>
 ae pg X0 w0 (ld1 9 c1) fun e=>
 ae pg X0 w0 (dC 325 #[(.slice none 0 0),(I 0)] #[]) fun g=>
 eV pg R X0 w0 false (dN 325 g) fun h i j=>
 eU pg R j i true (aO 107 d e h) fun _ k l=>
 fin R l k (aw #[])
noncomputable def NA:br:=⟨12,[],[],[0,1,4,11],[],[]⟩
def CF (p0:Value) (p1:ByteArray):Prop:=
 (aB pg X0 w0 (aE p0) fun a=>
 ae pg X0 w0 (aS 109 0 0 1 a) fun b=>
 ae pg X0 w0 (ld1 107 b) fun c=>
 ae pg X0 w0 (da 107 c (.string p1) false) fun d=>
 ae pg X0 w0 (aD .eql 253 (.tmp 10) (.const (.pointer none)) d (.pointer none)) fun e=>
 (az e
 (fin R X0 w0 (I 8))
 (fin R X0 w0 (I 0))))
noncomputable def Kc:br:=⟨39,[],[],[0,1,4,9,13],[],[4]⟩
def Ad (p0:Value) (p1:Int):Prop:=
 ae pg X0 w0 (lQ bg 3 130 (I p1)) fun a=>
 ae pg X0 w0 (binOp .shl 130 a (aA bg 1)) fun b=>
 ((jn (fun (c:Value)=>
 gO X0 w0 c 4 fun d e g h i=>
 ae pg i h (binOp .geq 130 g (aA bg 128)) fun j=>
 (az j
 ((aB pg i h (aE p0) fun k=>
 ae pg i h (aS 350 0 0 1 k) fun l=>
 ae pg i h (ld1 94 l) fun m=>
 ae pg i h (lQ ei 130 5 g) fun n=>
 ae pg i h (binOp .or 5 n (aA ei 128)) fun o=>
 eV pg R i h true (fH 94 5 1 1 #[(0,o)]) fun q r s=>
 eV pg R s r true (e7 94 5 1 1 94 m q) fun t v y=>
 aB pg y v (aE p0) fun z=>
 ae pg y v (aS 350 0 0 1 z) fun A=>
 eU pg R y v true (st1 94 1 A t) fun _ C D=>
 (ae pg D C (binOp .shr 130 g (aA bg 7)) fun E=>
 (gB d e E C D))))
 (((aB pg i h (aE p0) fun F=>
 ae pg i h (aS 350 0 0 1 F) fun G=>
 ae pg i h (ld1 94 G) fun H=>
 ae pg i h (lQ ei 130 5 g) fun L=>
 eV pg R i h true (fH 94 5 1 1 #[(0,L)]) fun M N O=>
 eV pg R O N true (e7 94 5 1 1 94 H M) fun Q S T=>
 aB pg T S (aE p0) fun U=>
 ae pg T S (aS 350 0 0 1 U) fun V=>
 eU pg R T S true (st1 94 1 V Q) fun _ Y Z=>
 fin R Z Y (aw #[])))))) fun a0=>
 ae pg X0 w0 (binOp .lss 3 (I p1) (I 0)) fun b0=>
 (az b0
 (ae pg X0 w0 (aY yg b) fun c0=>
 (a0 c0))
 (a0 b))))
def yi (p0 p1:Value):Prop:=
 aB pg X0 w0 (aE p1) fun a=>
 ae pg X0 w0 (aS 38 0 0 1 a) fun b=>
 eC pg R X0 w0 true 132 #[p0,b] fun _ c d=>
 (aB pg d c (aE p1) fun e=>
 ae pg d c (aS 38 1 1 1 e) fun g=>
 eC pg R d c true 132 #[p0,g] fun _ h i=>
 (aB pg i h (aE p1) fun j=>
 ae pg i h (aS 38 2 2 1 j) fun k=>
 eC pg R i h true 139 #[p0,k] fun _ l m=>
 (aB pg m l (aE p1) fun n=>
 ae pg m l (aS 38 3 3 1 n) fun o=>
 eC pg R m l true 139 #[p0,o] fun _ q r=>
 fin R r q (aw #[]))))
def sW (p0 p1 p2:Value):Prop:=
 aB pg X0 w0 (aE p1) fun a=>
 ae pg X0 w0 (ld1 39 a) fun b=>
 ae pg X0 w0 (cD 39 3 b) fun c=>
 ((jn (fun (d:Value) (e:World) (g:XS)=>
 (gO g e (I 0) 39 fun h i j k l=>
 ae pg l k (binOp .lss 3 j d) fun m=>
 (az m
 ((((jn (fun (n:World) (o:XS)=>
 aB pg o n (aE p1) fun q=>
 ae pg o n (ld1 39 q) fun r=>
 ae pg o n (dt 39 2 r j) fun s=>
 eF pg R o n true p2 #[s] fun _ t v=>
 ((ae pg v t (binOp .add 3 j (I 1)) fun y=>
 gB h i y t v))) fun z=>
 aB pg l k (aE p0) fun A=>
 ae pg l k (aS 190 0 0 1 A) fun C=>
 ae pg l k (ld1 188 C) fun D=>
 ae pg l k (aD .eql 188 (.tmp 45) (.const (.pointer none)) D (.pointer none)) fun E=>
 (az E
 ((aB pg l k (aE p1) fun F=>
 ae pg l k (ld1 39 F) fun G=>
 eV pg R l k false (fH 39 320 2 1 #[(0,(.agg #[(.string { data:= #[] }),(.slice none 0 0)]))]) fun H L M=>
 eV pg R M L true (e7 39 320 2 40 39 G H) fun N O Q=>
 aB pg Q O (aE p1) fun S=>
 eU pg R Q O true (st1 39 1 S N) fun _ T U=>
 (z T U)))
 (z k l))))))
 (fin R l k (aw #[]))))) fun V=>
 aB pg X0 w0 (aE p0) fun Y=>
 ae pg X0 w0 (aS 190 0 0 1 Y) fun Z=>
 ae pg X0 w0 (ld1 188 Z) fun a0=>
 ae pg X0 w0 (aD .neq 188 (.tmp 16) (.const (.pointer none)) a0 (.pointer none)) fun b0=>
 (az b0
 (aB pg X0 w0 (aE p0) fun c0=>
 ae pg X0 w0 (aS 190 0 0 1 c0) fun d0=>
 ae pg X0 w0 (ld1 188 d0) fun e0=>
 eC pg R X0 w0 true 190 #[e0,c] fun _ g0 h0=>
 (V c g0 h0))
 (aB pg X0 w0 (aE p0) fun i0=>
 ae pg X0 w0 (aS 190 1 1 1 i0) fun j0=>
 ae pg X0 w0 (ld1 184 j0) fun k0=>
 aB pg X0 w0 (aE p0) fun l0=>
 ae pg X0 w0 (aS 190 1 1 1 l0) fun m0=>
 ae pg X0 w0 (ld1 184 m0) fun n0=>
 eC pg R X0 w0 false 200 #[n0] fun o0 q0 r0=>
 eC pg R r0 q0 true 199 #[k0,o0] fun s0 t0 v0=>
 (eC pg R v0 t0 true 192 #[p0] fun _ y0 z0=>
 (aB pg z0 y0 (aE p1) fun A0=>
 eU pg R z0 y0 true (st1 39 1 A0 (.slice none 0 0)) fun _ C0 D0=>
 (V s0 C0 D0)))))))
def vA (p0 p1:Value):Prop:=
 aB pg X0 w0 (aE p1) fun a=>
 ae pg X0 w0 (aS 320 0 0 1 a) fun b=>
 eC pg R X0 w0 true 198 #[p0,b] fun _ c d=>
 (aB pg d c (aE p1) fun e=>
 ae pg d c (aS 320 1 1 1 e) fun g=>
 ae pg d c (cn (e6 259) #[p0] #[]) fun h=>
 eC pg R d c true 258 #[p0,g,h] fun _ i j=>
 fin R j i (aw #[]))
def sX (p0 p1 p2:Value):Prop:=
 aB pg X0 w0 (aE p1) fun a=>
 ae pg X0 w0 (ld1 40 a) fun b=>
 ae pg X0 w0 (cD 40 3 b) fun c=>
 ((jn (fun (d:Value) (e:World) (g:XS)=>
 (gO g e (I 0) 39 fun h i j k l=>
 ae pg l k (binOp .lss 3 j d) fun m=>
 (az m
 ((((jn (fun (n:World) (o:XS)=>
 aB pg o n (aE p1) fun q=>
 ae pg o n (ld1 40 q) fun r=>
 ae pg o n (dt 40 8 r j) fun s=>
 eF pg R o n true p2 #[s] fun _ t v=>
 ((ae pg v t (binOp .add 3 j (I 1)) fun y=>
 gB h i y t v))) fun z=>
 aB pg l k (aE p0) fun A=>
 ae pg l k (aS 190 0 0 1 A) fun C=>
 ae pg l k (ld1 188 C) fun D=>
 ae pg l k (aD .eql 188 (.tmp 45) (.const (.pointer none)) D (.pointer none)) fun E=>
 (az E
 ((aB pg l k (aE p1) fun F=>
 ae pg l k (ld1 40 F) fun G=>
 eV pg R l k false (fH 40 266 8 1 #[(0,(.agg #[(I 0),(I 0),(I 0),(I 0),(I 0),(I 0),(.slice none 0 0),(.slice none 0 0)]))]) fun H L M=>
 eV pg R M L true (e7 40 266 8 96 40 G H) fun N O Q=>
 aB pg Q O (aE p1) fun S=>
 eU pg R Q O true (st1 40 1 S N) fun _ T U=>
 (z T U)))
 (z k l))))))
 (fin R l k (aw #[]))))) fun V=>
 aB pg X0 w0 (aE p0) fun Y=>
 ae pg X0 w0 (aS 190 0 0 1 Y) fun Z=>
 ae pg X0 w0 (ld1 188 Z) fun a0=>
 ae pg X0 w0 (aD .neq 188 (.tmp 16) (.const (.pointer none)) a0 (.pointer none)) fun b0=>
 (az b0
 (aB pg X0 w0 (aE p0) fun c0=>
 ae pg X0 w0 (aS 190 0 0 1 c0) fun d0=>
 ae pg X0 w0 (ld1 188 d0) fun e0=>
 eC pg R X0 w0 true 190 #[e0,c] fun _ g0 h0=>
 (V c g0 h0))
 (aB pg X0 w0 (aE p0) fun i0=>
 ae pg X0 w0 (aS 190 1 1 1 i0) fun j0=>
 ae pg X0 w0 (ld1 184 j0) fun k0=>
 aB pg X0 w0 (aE p0) fun l0=>
 ae pg X0 w0 (aS 190 1 1 1 l0) fun m0=>
 ae pg X0 w0 (ld1 184 m0) fun n0=>
 eC pg R X0 w0 false 200 #[n0] fun o0 q0 r0=>
 eC pg R r0 q0 true 199 #[k0,o0] fun s0 t0 v0=>
 (eC pg R v0 t0 true 192 #[p0] fun _ y0 z0=>
 (aB pg z0 y0 (aE p1) fun A0=>
 eU pg R z0 y0 true (st1 40 1 A0 (.slice none 0 0)) fun _ C0 D0=>
 (V s0 C0 D0)))))))
def yj (p0 p1 p2:Value):Prop:=
 aB pg X0 w0 (aE p1) fun a=>
 ae pg X0 w0 (ld1 31 a) fun b=>
 ae pg X0 w0 (cD 31 3 b) fun c=>
 ((jn (fun (d:Value) (e:World) (g:XS)=>
 (gO g e (I 0) 39 fun h i j k l=>
 ae pg l k (binOp .lss 3 j d) fun m=>
 (az m
 ((((jn (fun (n:World) (o:XS)=>
 aB pg o n (aE p1) fun q=>
 ae pg o n (ld1 31 q) fun r=>
 ae pg o n (dt 31 1 r j) fun s=>
 eF pg R o n true p2 #[s] fun _ t v=>
 ((ae pg v t (binOp .add 3 j (I 1)) fun y=>
 gB h i y t v))) fun z=>
 aB pg l k (aE p0) fun A=>
 ae pg l k (aS 190 0 0 1 A) fun C=>
 ae pg l k (ld1 188 C) fun D=>
 ae pg l k (aD .eql 188 (.tmp 45) (.const (.pointer none)) D (.pointer none)) fun E=>
 (az E
 ((aB pg l k (aE p1) fun F=>
 ae pg l k (ld1 31 F) fun G=>
 eV pg R l k true (fH 31 9 1 1 #[(0,(.string { data:= #[] }))]) fun H L M=>
 eV pg R M L true (e7 31 9 1 16 31 G H) fun N O Q=>
 aB pg Q O (aE p1) fun S=>
 eU pg R Q O true (st1 31 1 S N) fun _ T U=>
 (z T U)))
 (z k l))))))
 (fin R l k (aw #[]))))) fun V=>
 aB pg X0 w0 (aE p0) fun Y=>
 ae pg X0 w0 (aS 190 0 0 1 Y) fun Z=>
 ae pg X0 w0 (ld1 188 Z) fun a0=>
 ae pg X0 w0 (aD .neq 188 (.tmp 16) (.const (.pointer none)) a0 (.pointer none)) fun b0=>
 (az b0
 (aB pg X0 w0 (aE p0) fun c0=>
 ae pg X0 w0 (aS 190 0 0 1 c0) fun d0=>
 ae pg X0 w0 (ld1 188 d0) fun e0=>
 eC pg R X0 w0 true 190 #[e0,c] fun _ g0 h0=>
 (V c g0 h0))
 (aB pg X0 w0 (aE p0) fun i0=>
 ae pg X0 w0 (aS 190 1 1 1 i0) fun j0=>
 ae pg X0 w0 (ld1 184 j0) fun k0=>
 aB pg X0 w0 (aE p0) fun l0=>
 ae pg X0 w0 (aS 190 1 1 1 l0) fun m0=>
 ae pg X0 w0 (ld1 184 m0) fun n0=>
 eC pg R X0 w0 false 200 #[n0] fun o0 q0 r0=>
 eC pg R r0 q0 true 199 #[k0,o0] fun s0 t0 v0=>
 (eC pg R v0 t0 true 192 #[p0] fun _ y0 z0=>
 (aB pg z0 y0 (aE p1) fun A0=>
 eU pg R z0 y0 true (st1 31 1 A0 (.slice none 0 0)) fun _ C0 D0=>
 (V s0 C0 D0)))))))
def yR (p0 p1:Value):Prop:=
 aB pg X0 w0 (aE p0) fun a=>
 ae pg X0 w0 (aS 190 0 0 1 a) fun b=>
 ae pg X0 w0 (ld1 188 b) fun c=>
 ae pg X0 w0 (aD .neq 188 (.tmp 7) (.const (.pointer none)) c (.pointer none)) fun d=>
 (az d
 (aB pg X0 w0 (aE p0) fun e=>
 ae pg X0 w0 (aS 190 0 0 1 e) fun g=>
 ae pg X0 w0 (ld1 188 g) fun h=>
 aB pg X0 w0 (aE p1) fun i=>
 ae pg X0 w0 (ld1 9 i) fun j=>
 eC pg R X0 w0 true 260 #[h,j] fun _ k l=>
 (fin R l k (aw #[])))
 ((aB pg X0 w0 (aE p0) fun m=>
 ae pg X0 w0 (aS 190 1 1 1 m) fun n=>
 ae pg X0 w0 (ld1 184 n) fun o=>
 eC pg R X0 w0 true 261 #[o,(I 262144)] fun q r s=>
 aB pg s r (aE p1) fun t=>
 eU pg R s r true (st1 9 1 t q) fun _ v y=>
 (eC pg R y v true 192 #[p0] fun _ z A=>
 fin R A z (aw #[])))))
noncomputable def Ib:br:=⟨23,[],[],[0,1,4],[],[]⟩
def yS (p0:Value) (p1:Bool):Prop:=
 (az (B p1)
 (aB pg X0 w0 (aE p0) fun a=>
 ae pg X0 w0 (aS 350 0 0 1 a) fun b=>
 ae pg X0 w0 (ld1 94 b) fun c=>
 eV pg R X0 w0 true (fH 94 5 1 1 #[(0,(aA ei 1))]) fun d e g=>
 eV pg R g e true (e7 94 5 1 1 94 c d) fun h i j=>
 aB pg j i (aE p0) fun k=>
 ae pg j i (aS 350 0 0 1 k) fun l=>
 eU pg R j i true (st1 94 1 l h) fun _ m n=>
 (fin R n m (aw #[])))
 ((aB pg X0 w0 (aE p0) fun o=>
 ae pg X0 w0 (aS 350 0 0 1 o) fun q=>
 ae pg X0 w0 (ld1 94 q) fun r=>
 eV pg R X0 w0 true (fH 94 5 1 1 #[(0,(aA ei 0))]) fun s t v=>
 eV pg R v t true (e7 94 5 1 1 94 r s) fun y z A=>
 aB pg A z (aE p0) fun C=>
 ae pg A z (aS 350 0 0 1 C) fun D=>
 eU pg R A z true (st1 94 1 D y) fun _ E F=>
 fin R F E (aw #[]))))
noncomputable def GH:br:=⟨23,[],[],[0,1,4,7,8],[],[4,7]⟩
def yk (p0:Value) (p1:Nat):Prop:=
 eC pg R X0 w0 true 164 #[(.float .f64 p1)] fun a b c=>
 ((gW c b (I 0) a 7 4 fun d e g h i j=>
 ae pg j i (binOp .lss 3 g (I 8)) fun k=>
 (az k
 ((aB pg j i (aE p0) fun l=>
 ae pg j i (aS 350 0 0 1 l) fun m=>
 ae pg j i (ld1 94 m) fun n=>
 ae pg j i (lQ ei 130 5 h) fun o=>
 eV pg R j i true (fH 94 5 1 1 #[(0,o)]) fun q r s=>
 eV pg R s r true (e7 94 5 1 1 94 n q) fun t v y=>
 aB pg y v (aE p0) fun z=>
 ae pg y v (aS 350 0 0 1 z) fun A=>
 eU pg R y v true (st1 94 1 A t) fun _ C D=>
 (ae pg D C (binOp .shr 130 h (aA bg 8)) fun E=>
 ((ae pg D C (binOp .add 3 g (I 1)) fun F=>
 gR d e F E C D)))))
 (fin R j i (aw #[])))))
def yl (p0 p1:Value):Prop:=
 aB pg X0 w0 (aE p0) fun a=>
 ae pg X0 w0 (aS 190 0 0 1 a) fun b=>
 ae pg X0 w0 (ld1 188 b) fun c=>
 ae pg X0 w0 (aD .neq 188 (.tmp 7) (.const (.pointer none)) c (.pointer none)) fun d=>
 (az d
 (aB pg X0 w0 (aE p0) fun e=>
 ae pg X0 w0 (aS 190 0 0 1 e) fun g=>
 ae pg X0 w0 (ld1 188 g) fun h=>
 aB pg X0 w0 (aE p1) fun i=>
 ae pg X0 w0 (dY 62 3 i) fun j=>
 eC pg R X0 w0 true 265 #[h,j] fun _ k l=>
 (fin R l k (aw #[])))
 ((aB pg X0 w0 (aE p0) fun m=>
 ae pg X0 w0 (aS 190 1 1 1 m) fun n=>
 ae pg X0 w0 (ld1 184 n) fun o=>
 eC pg R X0 w0 true 266 #[o] fun q r s=>
 aB pg s r (aE p1) fun t=>
 eU pg R s r true (st1 62 3 t q) fun _ v y=>
 (eC pg R y v true 192 #[p0] fun _ z A=>
 fin R A z (aw #[])))))
noncomputable def Pm:br:=⟨68,[(1,(pg.cellsOf 99)),(2,(pg.cellsOf 99))],[4,10,15,20,21,22,23,24,29,30,31,35,39,40,41,46,47,48,52,58,59,60,61,65,66],[0,3,5,7,11,16,25,32,36,42,49,53,62],[],[]⟩
def DP (aX bo bt bN cd cr cp cy dh cX:Int) (bO:Bool) (bM:Int) (cZ:Nat) (cP cN cO cQ:Value) (cT cE:Int) (cz cG:Nat) (cH cA cM cB cI cJ:Int) (cK cL:Value):Prop:=
 (((jn (fun (a:Value)=>
 (aC (bP a) (un (cq a 0 29) fun b=>
 un (ak (aa b)) fun c=>
 aC (ai (ad (aa b))==29) (aC (aq (ad (aa b)) aV.one) ((un (cq c 0 29) fun d=>
 aC (aq [c] bP) (fin R X0 w0 (aw #[d,(B true)])))))))) fun e=>
 ae pg X0 w0 (aD .eql 3 (.tmp 5) (.const (I 1)) (I aX) (I 1)) fun g=>
 (az g
 (ae pg X0 w0 (dC 42 #[(I 0),(I 0),(.float .f64 0),(.float .f64 0),(I 0),(I 0),(I 0),(I 0),(I 0),(I 0),(.slice none 0 0),(.slice none 0 0)] #[]) fun h=>
 un (ak (aQ (dg [(I aX),(I bo),(I bt),(I bN),(I cd),(I cr),(I cp),(I cy),(I dh),(I cX),(B bO),(I bM),(.float .f64 cZ),cP,cN,cO,cQ,(I cT),(I cE),(.float .f64 cz),(.float .f64 cG),(I cH),(I cA),(I cM),(I cB),(I cI),(I cJ),cK,cL] 17 (ad (aa h))))) fun i=>
 aC (ai (ad (aa h))==12) (aC (aq (ad (aa h)) aV.one) (e i)))
 ((jn (fun (j:Value)=>
 az j
 ((e (.agg #[(I aX),(I bo),(I bt),(I bN),(I cd),(I cr),(I cp),(I cy),(I dh),(I cX),(B bO),(I 0),(.float .f64 cZ),cP,cN,cO,cQ,(I cT),(I cE),(.float .f64 cz),(.float .f64 cG),(I cH),(I cA),(I cM),(I cB),(I cI),(I cJ),cK,cL])))
 (ae pg X0 w0 (aD .eql 3 (.tmp 5) (.const (I 3)) (I aX) (I 3)) fun k=>
 (az k
 (ae pg X0 w0 (dC 27 #[(I 0),(I 0),(I 0)] #[]) fun l=>
 ae pg X0 w0 (dC 30 #[(I 0),(I 0),(I 0)] #[]) fun m=>
 un (ak (aQ (dg [(I aX),(I bo),(I bt),(I bN),(I cd),(I cr),(I cp),(I cy),(I dh),(I cX),(B bO),(I bM),(.float .f64 cZ),cP,cN,cO,cQ,(I cT),(I cE),(.float .f64 cz),(.float .f64 cG),(I cH),(I cA),(I cM),(I cB),(I cI),(I cJ),cK,cL] 1 (ad (aa l))))) fun n=>
 aC (ai (ad (aa l))==3) (aC (aq (ad (aa l)) aV.one) (un (ak (aQ (dg (ad (aa n)) 4 (ad (aa m))))) fun o=>
 aC (ai (ad (aa m))==3) (aC (aq (ad (aa m)) aV.one) (un (ak (aQ (dg (ad (aa o)) 13 [(.slice none 0 0)]))) fun q=>
 un (ak (aQ (dg (ad (aa q)) 14 [(.slice none 0 0)]))) fun r=>
 un (ak (aQ (dg (ad (aa r)) 15 [(.slice none 0 0)]))) fun s=>
 (e s))))))
 (ae pg X0 w0 (aD .eql 3 (.tmp 5) (.const (I 4)) (I aX) (I 4)) fun t=>
 (az t
 (ae pg X0 w0 (dC 27 #[(I 0),(I 0),(I 0)] #[]) fun v=>
 ae pg X0 w0 (dC 30 #[(I 0),(I 0),(I 0)] #[]) fun y=>
 un (ak (aQ (dg [(I aX),(I bo),(I bt),(I bN),(I cd),(I cr),(I cp),(I cy),(I dh),(I cX),(B bO),(I bM),(.float .f64 cZ),cP,cN,cO,cQ,(I cT),(I cE),(.float .f64 cz),(.float .f64 cG),(I cH),(I cA),(I cM),(I cB),(I cI),(I cJ),cK,cL] 1 (ad (aa v))))) fun z=>
 aC (ai (ad (aa v))==3) (aC (aq (ad (aa v)) aV.one) (un (ak (aQ (dg (ad (aa z)) 10 [(B false)]))) fun A=>
 un (ak (aQ (dg (ad (aa A)) 4 (ad (aa y))))) fun C=>
 aC (ai (ad (aa y))==3) (aC (aq (ad (aa y)) aV.one) (e C)))))
 (ae pg X0 w0 (aD .eql 3 (.tmp 5) (.const (I 5)) (I aX) (I 5)) fun D=>
 (az D
 (ae pg X0 w0 (dC 30 #[(I 0),(I 0),(I 0)] #[]) fun E=>
 un (ak (aQ (dg [(I aX),(I bo),(I bt),(I bN),(I cd),(I cr),(I cp),(I cy),(I dh),(I cX),(B bO),(I bM),(.float .f64 cZ),cP,cN,cO,cQ,(I cT),(I cE),(.float .f64 cz),(.float .f64 cG),(I cH),(I cA),(I cM),(I cB),(I cI),(I cJ),cK,cL] 4 (ad (aa E))))) fun F=>
 aC (ai (ad (aa E))==3) (aC (aq (ad (aa E)) aV.one) (e F)))
 (ae pg X0 w0 (aD .eql 3 (.tmp 5) (.const (I 6)) (I aX) (I 6)) fun G=>
 (az G
 (ae pg X0 w0 (dC 30 #[(I 0),(I 0),(I 0)] #[]) fun H=>
 un (ak (aQ (dg [(I aX),(I bo),(I bt),(I bN),(I cd),(I cr),(I cp),(I cy),(I dh),(I cX),(B bO),(I 0),(.float .f64 0),cP,cN,cO,cQ,(I cT),(I cE),(.float .f64 cz),(.float .f64 cG),(I cH),(I cA),(I cM),(I cB),(I cI),(I cJ),cK,cL] 4 (ad (aa H))))) fun L=>
 aC (ai (ad (aa H))==3) (aC (aq (ad (aa H)) aV.one) (e L)))
 (ae pg X0 w0 (aD .eql 3 (.tmp 5) (.const (I 9)) (I aX) (I 9)) fun M=>
 (az M
 (ae pg X0 w0 (dC 27 #[(I 0),(I 0),(I 0)] #[]) fun N=>
 ae pg X0 w0 (dC 30 #[(I 0),(I 0),(I 0)] #[]) fun O=>
 un (ak (aQ (dg [(I aX),(I bo),(I bt),(I bN),(I cd),(I cr),(I cp),(I cy),(I dh),(I cX),(B bO),(I bM),(.float .f64 cZ),cP,cN,cO,cQ,(I cT),(I cE),(.float .f64 cz),(.float .f64 cG),(I cH),(I cA),(I cM),(I cB),(I cI),(I cJ),cK,cL] 1 (ad (aa N))))) fun Q=>
 aC (ai (ad (aa N))==3) (aC (aq (ad (aa N)) aV.one) (un (ak (aQ (dg (ad (aa Q)) 4 (ad (aa O))))) fun S=>
 aC (ai (ad (aa O))==3) (aC (aq (ad (aa O)) aV.one) (un (ak (aQ (dg (ad (aa S)) 15 [(.slice none 0 0)]))) fun T=>
 (e T))))))
 (ae pg X0 w0 (aD .eql 3 (.tmp 5) (.const (I 10)) (I aX) (I 10)) fun U=>
 (az U
 (ae pg X0 w0 (dC 27 #[(I 0),(I 0),(I 0)] #[]) fun V=>
 un (ak (aQ (dg [(I aX),(I bo),(I bt),(I bN),(I cd),(I cr),(I cp),(I cy),(I dh),(I cX),(B bO),(I bM),(.float .f64 cZ),cP,cN,cO,cQ,(I cT),(I cE),(.float .f64 cz),(.float .f64 cG),(I cH),(I cA),(I cM),(I cB),(I cI),(I cJ),cK,cL] 1 (ad (aa V))))) fun Y=>
 aC (ai (ad (aa V))==3) (aC (aq (ad (aa V)) aV.one) (e Y)))
 (ae pg X0 w0 (aD .eql 3 (.tmp 5) (.const (I 11)) (I aX) (I 11)) fun Z=>
 (az Z
 (ae pg X0 w0 (dC 30 #[(I 0),(I 0),(I 0)] #[]) fun a0=>
 ae pg X0 w0 (dC 30 #[(I 0),(I 0),(I 0)] #[]) fun b0=>
 ae pg X0 w0 (dC 27 #[(I 0),(I 0),(I 0)] #[]) fun c0=>
 un (ak (aQ (dg [(I aX),(I bo),(I bt),(I bN),(I cd),(I cr),(I cp),(I cy),(I dh),(I cX),(B bO),(I bM),(.float .f64 cZ),cP,cN,cO,cQ,(I cT),(I cE),(.float .f64 cz),(.float .f64 cG),(I cH),(I cA),(I cM),(I cB),(I cI),(I cJ),cK,cL] 7 (ad (aa a0))))) fun d0=>
 aC (ai (ad (aa a0))==3) (aC (aq (ad (aa a0)) aV.one) (un (ak (aQ (dg (ad (aa d0)) 4 (ad (aa b0))))) fun e0=>
 aC (ai (ad (aa b0))==3) (aC (aq (ad (aa b0)) aV.one) (un (ak (aQ (dg (ad (aa e0)) 1 (ad (aa c0))))) fun g0=>
 aC (ai (ad (aa c0))==3) (aC (aq (ad (aa c0)) aV.one) (un (ak (aQ (dg (ad (aa g0)) 14 [(.slice none 0 0)]))) fun h0=>
 (e h0))))))))
 (ae pg X0 w0 (aD .eql 3 (.tmp 5) (.const (I 12)) (I aX) (I 12)) fun i0=>
 (az i0
 (ae pg X0 w0 (dC 30 #[(I 0),(I 0),(I 0)] #[]) fun j0=>
 un (ak (aQ (dg [(I aX),(I bo),(I bt),(I bN),(I cd),(I cr),(I cp),(I cy),(I dh),(I cX),(B bO),(I bM),(.float .f64 cZ),cP,cN,cO,cQ,(I cT),(I cE),(.float .f64 cz),(.float .f64 cG),(I cH),(I cA),(I cM),(I cB),(I cI),(I cJ),cK,cL] 4 (ad (aa j0))))) fun k0=>
 aC (ai (ad (aa j0))==3) (aC (aq (ad (aa j0)) aV.one) (un (ak (aQ (dg (ad (aa k0)) 16 [(.slice none 0 0)]))) fun l0=>
 (e l0))))
 (aC (aq [(I aX),(I bo),(I bt),(I bN),(I cd),(I cr),(I cp),(I cy),(I dh),(I cX),(B bO),(I bM),(.float .f64 cZ),cP,cN,cO,cQ,(I cT),(I cE),(.float .f64 cz),(.float .f64 cG),(I cH),(I cA),(I cM),(I cB),(I cI),(I cJ),cK,cL] aV.one) ((fin R X0 w0 (aw #[(.agg #[(I aX),(I bo),(I bt),(I bN),(I cd),(I cr),(I cp),(I cy),(I dh),(I cX),(B bO),(I bM),(.float .f64 cZ),cP,cN,cO,cQ,(I cT),(I cE),(.float .f64 cz),(.float .f64 cG),(I cH),(I cA),(I cM),(I cB),(I cI),(I cJ),cK,cL]),(B false)]))))))))))))))))))))) fun m0=>
 ae pg X0 w0 (aD .eql 3 (.tmp 5) (.const (I 2)) (I aX) (I 2)) fun n0=>
 (az n0
 (m0 n0)
 (ae pg X0 w0 (aD .eql 3 (.tmp 5) (.const (I 7)) (I aX) (I 7)) fun o0=>
 (az o0
 (m0 o0)
 (ae pg X0 w0 (aD .eql 3 (.tmp 5) (.const (I 8)) (I aX) (I 8)) fun q0=>
 (m0 q0)))))))))))
noncomputable def VQ:br:=⟨64,[(1,(pg.cellsOf 99))],[3,8,14,20,25,30,36,42,48,54,60],[0,2],[7,9,10,11,13,15,16,17,19,21,22,24,26,27,29,31,32,33,35,37,38,39,41,43,44,45,47,49,50,51,53,55,56,57,59,61,62],[]⟩
def Kd (_p0_0 bo bt bN cd cr cp cy dh cX:Int) (bO:Bool) (bM:Int) (cZ:Nat) (cP cN cO cQ:Value) (cT cE:Int) (cz cG:Nat) (cH cA cM cB cI cJ:Int) (cK cL:Value):Prop:=
 (ae pg X0 w0 (dC 27 #[(I 0),(I 0),(I 0)] #[]) fun a=>
 ae pg X0 w0 (aD .eql 27 (.tmp 4) (.tmp 5) (.agg #[(I bo),(I bt),(I bN)]) a) fun b=>
 un (aU b true (.agg #[(I cd),(I cr),(I cp)])) fun c=>
 aK pg X0 w0 b true (vS (dC 30 #[(I 0),(I 0),(I 0)] #[])) fun d=>
 aK pg X0 w0 b true (vS (aD .eql 30 (.tmp 9) (.tmp 10) c d)) fun e=>
 aB pg X0 w0 (aP b e (B false)) fun g=>
 un (aU g true (.agg #[(I cy),(I dh),(I cX)])) fun h=>
 aK pg X0 w0 g true (vS (dC 30 #[(I 0),(I 0),(I 0)] #[])) fun i=>
 aK pg X0 w0 g true (vS (aD .eql 30 (.tmp 15) (.tmp 16) h i)) fun j=>
 aB pg X0 w0 (aP g j (B false)) fun k=>
 un (aU k true (B bO)) fun l=>
 aK pg X0 w0 k true (vS (aY bp l)) fun m=>
 aB pg X0 w0 (aP k m (B false)) fun n=>
 un (aU n true (I bM)) fun o=>
 aK pg X0 w0 n true (vS (aD .eql 3 (.tmp 26) (.const (I 0)) o (I 0))) fun q=>
 aB pg X0 w0 (aP n q (B false)) fun r=>
 un (aU r true (.float .f64 cZ)) fun s=>
 jn (fun (t:Value) (v:World) (y:XS)=>
 aK pg y v r true (vS (aD .eql 130 (.tmp 32) (.const (aA bg 0)) t (aA bg 0))) fun z=>
 aB pg y v (aP r z (B false)) fun A=>
 un (aU A true cP) fun C=>
 aK pg y v A true (vS (cD 31 3 C)) fun D=>
 aK pg y v A true (vS (aD .eql 3 (.tmp 38) (.const (I 0)) D (I 0))) fun E=>
 aB pg y v (aP A E (B false)) fun F=>
 un (aU F true cN) fun G=>
 aK pg y v F true (vS (cD 33 3 G)) fun H=>
 aK pg y v F true (vS (aD .eql 3 (.tmp 44) (.const (I 0)) H (I 0))) fun L=>
 aB pg y v (aP F L (B false)) fun M=>
 un (aU M true cO) fun N=>
 aK pg y v M true (vS (cD 34 3 N)) fun O=>
 aK pg y v M true (vS (aD .eql 3 (.tmp 50) (.const (I 0)) O (I 0))) fun Q=>
 aB pg y v (aP M Q (B false)) fun S=>
 un (aU S true cQ) fun T=>
 aK pg y v S true (vS (cD 97 3 T)) fun U=>
 aK pg y v S true (vS (aD .eql 3 (.tmp 56) (.const (I 0)) U (I 0))) fun V=>
 aB pg y v (aP S V (B false)) fun Y=>
 un (aU Y true (.agg #[(I cT),(I cE),(.float .f64 cz),(.float .f64 cG),(I cH),(I cA),(I cM),(I cB),(I cI),(I cJ),cK,cL])) fun Z=>
 jn (fun (a0:Value) (b0:World) (c0:XS)=>
 aB pg c0 b0 (aP Y a0 (B false)) fun d0=>
 (fin R c0 b0 d0)) fun e0=>
 (gE Y true (eC pg R y v true 267 #[Z] e0) (e0 undef v y))) fun g0=>
 (gE r true (eC pg R X0 w0 true 97 #[s] g0) (g0 undef w0 X0)))
noncomputable def Qz:br:=⟨134,[(1,(pg.cellsOf 99))],[5,9,14,18,24,26,28,30,36,42,46,48,54,60,76,81,87,92,97,101,106,112,117,119,121,123,126,130],[0,2,3,4,6,7,12,22,40,52,57,85,90,95,110,115],[17,19,20,35,37,38,45,47,49,50,67,68,69,71,72,73,75,77,78,80,82,83,100,102,103,105,107,108,129,131,132],[]⟩
def Fk (aX bo bt bN cd cr cp cy dh cX:Int) (bO:Bool) (bM:Int) (cZ:Nat) (cP cN cO cQ:Value) (cT cE:Int) (cz cG:Nat) (cH cA cM cB cI cJ:Int) (cK cL:Value):Prop:=
 ((ae pg X0 w0 (aD .eql 3 (.tmp 6) (.const (I 1)) (I aX) (I 1)) fun a=>
 (az a
 (eC pg R X0 w0 true 176 #[(.agg #[(I cT),(I cE),(.float .f64 cz),(.float .f64 cG),(I cH),(I cA),(I cM),(I cB),(I cI),(I cJ),cK,cL])] fun b c d=>
 (fin R d c b))
 (ae pg X0 w0 (aD .eql 3 (.tmp 6) (.const (I 2)) (I aX) (I 2)) fun e=>
 (az e
 (ae pg X0 w0 (binOp .geq 3 (I bM) (I 0)) fun g=>
 un (aU g true (I bM)) fun h=>
 aK pg X0 w0 g true (vS (binOp .leq 3 h (I 281474976710656))) fun i=>
 aB pg X0 w0 (aP g i (B false)) fun j=>
 (fin R X0 w0 j))
 (ae pg X0 w0 (aD .eql 3 (.tmp 6) (.const (I 3)) (I aX) (I 3)) fun k=>
 (az k
 (ae pg X0 w0 (dC 266 #[(I bo),(I bt),(I bN),(I cd),(I cr),(I cp),cP,cN] #[(0,(.agg #[(I bo),(I bt),(I bN)])),(1,(.agg #[(I cd),(I cr),(I cp)])),(2,cP),(3,cN)]) fun l=>
 eC pg R X0 w0 true 253 #[l] fun m n o=>
 ae pg o n (aD .eql 28 (.tmp 33) (.const (I 0)) m (I 0)) fun q=>
 un (aU q true cO) fun r=>
 jn (fun (s:Value) (t:World) (v:XS)=>
 aB pg v t (aP q s (B false)) fun y=>
 (fin R v t y)) fun z=>
 (gE q true (eC pg R o n true 249 #[r] z) (z undef n o)))
 (ae pg X0 w0 (aD .eql 3 (.tmp 6) (.const (I 4)) (I aX) (I 4)) fun A=>
 (az A
 (eC pg R X0 w0 true 244 #[(.agg #[(I bo),(I bt),(I bN)])] fun C D E=>
 un (aU C true (B bO)) fun F=>
 un (aU C true (.agg #[(I cd),(I cr),(I cp)])) fun G=>
 jn (fun (H:Value) (L:World) (M:XS)=>
 aB pg M L (aP C H (B false)) fun N=>
 (fin R M L N)) fun O=>
 (gE C true (eC pg R E D true 268 #[F,G] O) (O undef D E)))
 (ae pg X0 w0 (aD .eql 3 (.tmp 6) (.const (I 5)) (I aX) (I 5)) fun Q=>
 (az Q
 (eC pg R X0 w0 true 85 #[(.agg #[(I cd),(I cr),(I cp)])] fun S T U=>
 (fin R U T S))
 (ae pg X0 w0 (aD .eql 3 (.tmp 6) (.const (I 6)) (I aX) (I 6)) fun V=>
 (az V
 (eC pg R X0 w0 true 269 #[(.float .f64 cZ)] fun Y Z a0=>
 ae pg a0 Z (aL Y 0) fun b0=>
 ae pg a0 Z (aL Y 1) fun c0=>
 (ae pg a0 Z (aD .eql 28 (.tmp 65) (.const (I 0)) c0 (I 0)) fun d0=>
 un (aU d0 true b0) fun e0=>
 aK pg a0 Z d0 true (vS (binOp .gtr 36 e0 (.float .f64 0))) fun g0=>
 aB pg a0 Z (aP d0 g0 (B false)) fun h0=>
 un (aU h0 true b0) fun i0=>
 aK pg a0 Z h0 true (vS (binOp .lss 36 i0 (.float .f64 4607182418800017408))) fun j0=>
 aB pg a0 Z (aP h0 j0 (B false)) fun k0=>
 un (aU k0 true (I bM)) fun l0=>
 jn (fun (m0:Value) (n0:World) (o0:XS)=>
 aB pg o0 n0 (aP k0 m0 (B false)) fun q0=>
 un (aU q0 true (.agg #[(I cd),(I cr),(I cp)])) fun r0=>
 jn (fun (s0:Value) (t0:World) (v0:XS)=>
 aB pg v0 t0 (aP q0 s0 (B false)) fun y0=>
 (fin R v0 t0 y0)) fun z0=>
 (gE q0 true (eC pg R o0 n0 true 85 #[r0] z0) (z0 undef n0 o0))) fun A0=>
 (gE k0 true (eC pg R a0 Z true 270 #[l0] A0) (A0 undef Z a0))))
 (ae pg X0 w0 (aD .eql 3 (.tmp 6) (.const (I 7)) (I aX) (I 7)) fun C0=>
 (az C0
 (eC pg R X0 w0 true 270 #[(I bM)] fun D0 E0 F0=>
 (fin R F0 E0 D0))
 (ae pg X0 w0 (aD .eql 3 (.tmp 6) (.const (I 8)) (I aX) (I 8)) fun G0=>
 (az G0
 (ae pg X0 w0 (binOp .geq 3 (I bM) (I 1)) fun H0=>
 (fin R X0 w0 H0))
 (ae pg X0 w0 (aD .eql 3 (.tmp 6) (.const (I 9)) (I aX) (I 9)) fun L0=>
 (az L0
 (eC pg R X0 w0 true 244 #[(.agg #[(I bo),(I bt),(I bN)])] fun M0 N0 O0=>
 un (aU M0 true (.agg #[(I cd),(I cr),(I cp)])) fun Q0=>
 jn (fun (S0:Value) (T0:World) (U0:XS)=>
 aB pg U0 T0 (aP M0 S0 (B false)) fun V0=>
 un (aU V0 true cO) fun Y0=>
 jn (fun (Z0:Value) (a1:World) (b1:XS)=>
 aB pg b1 a1 (aP V0 Z0 (B false)) fun c1=>
 (fin R b1 a1 c1)) fun d1=>
 (gE V0 true (eC pg R U0 T0 true 249 #[Y0] d1) (d1 undef T0 U0))) fun e1=>
 (gE M0 true (eC pg R O0 N0 true 271 #[Q0] e1) (e1 undef N0 O0)))
 (ae pg X0 w0 (aD .eql 3 (.tmp 6) (.const (I 10)) (I aX) (I 10)) fun g1=>
 (az g1
 (eC pg R X0 w0 true 244 #[(.agg #[(I bo),(I bt),(I bN)])] fun h1 i1 j1=>
 (fin R j1 i1 h1))
 (ae pg X0 w0 (aD .eql 3 (.tmp 6) (.const (I 11)) (I aX) (I 11)) fun k1=>
 (az k1
 (eC pg R X0 w0 true 177 #[(.agg #[(I cy),(I dh),(I cX)]),(.agg #[(I cd),(I cr),(I cp)]),(.agg #[(I bo),(I bt),(I bN)]),cN] fun l1 m1 n1=>
 (fin R n1 m1 l1))
 (((eC pg R X0 w0 true 85 #[(.agg #[(I cd),(I cr),(I cp)])] fun o1 q1 r1=>
 un (aU o1 true cQ) fun s1=>
 jn (fun (t1:Value) (v1:World) (y1:XS)=>
 aB pg y1 v1 (aP o1 t1 (B false)) fun z1=>
 (fin R y1 v1 z1)) fun A1=>
 (gE o1 true (eC pg R r1 q1 true 272 #[s1] A1) (A1 undef q1 r1))))))))))))))))))))))))))))
noncomputable def VR:br:=⟨19,[],[],[0,1,4],[],[]⟩
def Ke (p0:Value) (p1:Int):Prop:=
 (ae pg X0 w0 (lQ ei 326 5 (aA fX p1)) fun a=>
 ae pg X0 w0 (binOp .shr 326 (aA fX p1) (aA bg 8)) fun b=>
 ae pg X0 w0 (lQ ei 326 5 b) fun c=>
 ae pg X0 w0 (binOp .shr 326 (aA fX p1) (aA bg 16)) fun d=>
 ae pg X0 w0 (lQ ei 326 5 d) fun e=>
 ae pg X0 w0 (binOp .shr 326 (aA fX p1) (aA bg 24)) fun g=>
 ae pg X0 w0 (lQ ei 326 5 g) fun h=>
 eV pg R X0 w0 true (fH 94 5 1 4 #[(0,a),(1,c),(2,e),(3,h)]) fun i j k=>
 eV pg R k j true (e7 94 5 1 1 94 p0 i) fun l m n=>
 (fin R n m l))
def Ba (p0:Value):Prop:=
 ((jn (fun (a:World) (b:XS)=>
 (jn (fun (c:World) (d:XS)=>
 aB pg d c (aE p0) fun e=>
 ae pg d c (aS 109 4 4 1 e) fun g=>
 ae pg d c (ld1 4 g) fun h=>
 (fin R d c h)) fun i=>
 aB pg b a (aE p0) fun j=>
 ae pg b a (aS 109 4 4 1 j) fun k=>
 ae pg b a (ld1 4 k) fun l=>
 ae pg b a (aY bp l) fun m=>
 (az m
 (aB pg b a (aE p0) fun n=>
 ae pg b a (aS 109 2 2 1 n) fun o=>
 ae pg b a (ld1 3 o) fun q=>
 ae pg b a (binOp .add 3 q (I 1)) fun r=>
 aB pg b a (aE p0) fun s=>
 ae pg b a (aS 109 2 2 1 s) fun t=>
 eU pg R b a true (st1 3 1 t r) fun _ v y=>
 (i v y))
 (i a b)))) fun z=>
 aB pg X0 w0 (aE p0) fun A=>
 ae pg X0 w0 (aS 109 3 3 1 A) fun C=>
 ae pg X0 w0 (ld1 3 C) fun D=>
 ae pg X0 w0 (binOp .gtr 3 D (I 0)) fun E=>
 (az E
 (aB pg X0 w0 (aE p0) fun F=>
 ae pg X0 w0 (aS 109 3 3 1 F) fun G=>
 ae pg X0 w0 (ld1 3 G) fun H=>
 ae pg X0 w0 (binOp .sub 3 H (I 1)) fun L=>
 aB pg X0 w0 (aE p0) fun M=>
 ae pg X0 w0 (aS 109 3 3 1 M) fun N=>
 eU pg R X0 w0 true (st1 3 1 N L) fun _ O Q=>
 (aB pg Q O (aE p0) fun S=>
 ae pg Q O (aS 109 3 3 1 S) fun T=>
 ae pg Q O (ld1 3 T) fun U=>
 ae pg Q O (aD .eql 3 (.tmp 19) (.const (I 0)) U (I 0)) fun V=>
 aB pg Q O (aE p0) fun Y=>
 ae pg Q O (aS 109 4 4 1 Y) fun Z=>
 eU pg R Q O true (st1 4 1 Z V) fun _ a0 b0=>
 (z a0 b0)))
 (z w0 X0))))
noncomputable def GI:br:=⟨20,[],[],[0,1],[],[]⟩
def ym (c0 c1:Value):Prop:=
 ae pg X0 w0 (ld1 51 c0) fun a=>
 aB pg X0 w0 (aE a) fun b=>
 ae pg X0 w0 (aS 109 0 0 1 b) fun c=>
 ae pg X0 w0 (ld1 107 c) fun d=>
 ae pg X0 w0 (ld1 9 c1) fun e=>
 ae pg X0 w0 (da 107 d e false) fun g=>
 ae pg X0 w0 (ld1 51 c0) fun h=>
 aB pg X0 w0 (aE h) fun i=>
 ae pg X0 w0 (aS 109 0 0 1 i) fun j=>
 ae pg X0 w0 (ld1 107 j) fun k=>
 ae pg X0 w0 (ld1 9 c1) fun l=>
 ae pg X0 w0 (da 107 k l false) fun m=>
 aB pg X0 w0 (aE m) fun n=>
 ae pg X0 w0 (aS 325 0 0 1 n) fun o=>
 ae pg X0 w0 (ld1 94 o) fun q=>
 ae pg X0 w0 (cD 94 3 q) fun r=>
 aB pg X0 w0 (aE g) fun s=>
 ae pg X0 w0 (aS 325 1 1 1 s) fun t=>
 eU pg R X0 w0 true (st1 3 1 t r) fun _ v y=>
 fin R y v (aw #[])
noncomputable def vB:br:=⟨148,[],[],[0,1,2,3,4,10,11,12,13,14,15,16,17,18,19,20,25,32,39,56,75,80,97,125],[69,70,72,73,74,83,84,85,86,87,88,89,90,91,92,93,94,95,96],[1,2,3,10,11]⟩
def nH (p0:Value) (p1 p2 p3:Int) (p4:Value):Prop:=
 ((sP X0 w0 (I p2) (B true) (B true) (I p1) (I p3) 2 10 11 1 3 fun a b c d e g h i j=>
 (jn (fun (k l m n o:Value) (q:World) (r:XS)=>
 sQ a b l n o k m q r) fun s=>
 ae pg j i (binOp .sub 3 c g) fun t=>
 (ae pg j i (binOp .leq 3 t (I 12)) fun v=>
 (az v
 (eC pg R j i true 275 #[p0,g,c,p4] fun _ y z=>
 (fin R z y (aw #[])))
 ((ae pg j i (aD .eql 3 (.tmp 31) (.const (I 0)) h (I 0)) fun A=>
 (az A
 (eC pg R j i true 276 #[p0,g,c,p4] fun _ C D=>
 (fin R D C (aw #[])))
 (((jn (fun (E:Value) (F:World) (G:XS)=>
 eC pg R G F true 278 #[p0,g,c,p4] fun H L M=>
 ae pg M L (aL H 0) fun N=>
 ae pg M L (aL H 1) fun O=>
 ((jn (fun (Q S:Value) (T:World) (U:XS)=>
 (jn (fun (V:World) (Y:XS)=>
 ae pg Y V (binOp .gtr 3 g (I 0)) fun Z=>
 un (aU Z true p4) fun a0=>
 un (aU Z true p0) fun b0=>
 un (aU Z true g) fun c0=>
 aK pg Y V Z true (vS (binOp .sub 3 c0 (I 1))) fun d0=>
 aK pg Y V Z true (vS (dt 32 7 b0 d0)) fun e0=>
 aK pg Y V Z true (vS (dY 215 7 e0)) fun g0=>
 un (aU Z true Q) fun h0=>
 aK pg Y V Z true (vS (dt 32 7 b0 h0)) fun i0=>
 aK pg Y V Z true (vS (dY 215 7 i0)) fun j0=>
 jn (fun (k0:Value) (l0:World) (m0:XS)=>
 aK pg m0 l0 Z true (vS (binOp .lss 3 k0 (I 0))) fun n0=>
 aK pg m0 l0 Z true (vS (aY bp n0)) fun o0=>
 aB pg m0 l0 (aP Z o0 (B false)) fun q0=>
 (az q0
 (eC pg R m0 l0 true 281 #[p0,g,c,Q,p4] fun r0 s0 t0=>
 (s r0 c E d e s0 t0))
 ((eC pg R m0 l0 true 282 #[p0,g,c,Q,p4] fun v0 y0 z0=>
 ae pg z0 y0 (aL v0 0) fun A0=>
 ae pg z0 y0 (aL v0 1) fun C0=>
 ((ae pg z0 y0 (binOp .sub 3 A0 g) fun D0=>
 ae pg z0 y0 (binOp .sub 3 c A0) fun E0=>
 (ae pg z0 y0 (binOp .quo 3 t (I 8)) fun F0=>
 (ae pg z0 y0 (binOp .lss 3 D0 E0) fun G0=>
 (az G0
 (ae pg z0 y0 (binOp .geq 3 D0 F0) fun H0=>
 (eC pg R z0 y0 true 215 #[p0,g,A0,E,p4] fun _ L0 M0=>
 (ae pg M0 L0 (binOp .add 3 A0 (I 1)) fun N0=>
 (s N0 c E H0 C0 L0 M0))))
 (ae pg z0 y0 (binOp .geq 3 E0 F0) fun O0=>
 (ae pg z0 y0 (binOp .add 3 A0 (I 1)) fun Q0=>
 eC pg R z0 y0 true 215 #[p0,Q0,c,E,p4] fun _ S0 T0=>
 (s g A0 E O0 C0 S0 T0)))))))))))) fun U0=>
 (gE Z true (eF pg R Y V true a0 #[g0,j0] U0) (U0 undef V Y))) fun V0=>
 un (aU d true e) fun Y0=>
 aB pg U T (aP d Y0 (B false)) fun Z0=>
 un (aU Z0 true S) fun a1=>
 aK pg U T Z0 true (vS (aD .eql 355 (.tmp 73) (.const (I 1)) a1 (I 1))) fun b1=>
 aB pg U T (aP Z0 b1 (B false)) fun c1=>
 (az c1
 (eC pg R U T true 280 #[p0,g,c,p4] fun d1 e1 g1=>
 (az d1
 (fin R g1 e1 (aw #[]))
 (V0 e1 g1)))
 (V0 T U)))) fun h1=>
 ae pg M L (aD .eql 355 (.tmp 55) (.const (I 2)) O (I 2)) fun i1=>
 (az i1
 (eC pg R M L true 279 #[p0,g,c,p4] fun _ j1 k1=>
 (ae pg k1 j1 (binOp .sub 3 c (I 1)) fun l1=>
 ae pg k1 j1 (binOp .sub 3 N g) fun m1=>
 ae pg k1 j1 (binOp .sub 3 l1 m1) fun n1=>
 (h1 n1 (I 1) j1 k1)))
 (h1 N O L M))))) fun o1=>
 ae pg j i (aY bp d) fun q1=>
 (az q1
 (eC pg R j i true 277 #[p0,g,c,p4] fun _ r1 s1=>
 (ae pg s1 r1 (binOp .sub 3 h (I 1)) fun t1=>
 (o1 t1 r1 s1)))
 (o1 h i j)))))))))))))
noncomputable def VS:br:=⟨8,[],[],[0,2,5],[],[]⟩
def Kf (p0:Nat):Prop:=
 (ae pg X0 w0 (aD .neq 36 (.tmp 3) (.tmp 4) (.float .f64 p0) (.float .f64 p0)) fun a=>
 (az a
 (eC pg R X0 w0 true 289 #[(aA bg 9221120237041090560)] fun b c d=>
 (fin R d c b))
 (fin R X0 w0 (.float .f64 p0))))
noncomputable def Pn:br:=⟨6,[(2,(pg.cellsOf 62))],[],[0],[],[]⟩
def Dh (p0:Nat):Prop:=
 (eC pg R X0 w0 true 227 #[(.float .f64 p0)] fun a b c=>
 ae pg c b (dC 62 #[(I 1),a,(.string ⟨#[]⟩)] #[(0,(I 1)),(1,a)]) fun d=>
 un (ak (aa d)) fun e=>
 aC (ai (ad (aa d))==3) (aC (aq (ad (aa d)) aV.one) (un (cq e 0 3) fun g=>
 aC (aq [e] bP) (fin R c b g))))
noncomputable def QA:br:=⟨19,[],[],[0,1,4,5,6,11,15],[],[]⟩
def EN (p0 p1:Nat):Prop:=
 (eC pg R X0 w0 true 290 #[(.float .f64 p0)] fun a b c=>
 eC pg R c b true 290 #[(.float .f64 p1)] fun d e g=>
 (ae pg g e (binOp .lss 130 a d) fun h=>
 (az h
 ((fin R g e (I (-1))))
 (ae pg g e (binOp .gtr 130 a d) fun i=>
 (az i
 (fin R g e (I 1))
 (fin R g e (I 0)))))))
noncomputable def VT:br:=⟨13,[],[],[0,1,4,8],[],[]⟩
def IK (p0 p1:Nat):Prop:=
 (eC pg R X0 w0 true 229 #[(.float .f64 p0),(.float .f64 p1)] fun a b c=>
 ae pg c b (binOp .gtr 3 a (I 0)) fun d=>
 (az d
 (eC pg R c b true 227 #[(.float .f64 p1)] fun e g h=>
 (fin R h g e))
 (eC pg R c b true 227 #[(.float .f64 p0)] fun i j k=>
 (fin R k j i))))
noncomputable def XE:br:=⟨13,[],[],[0,1,4,8],[],[]⟩
def LS (p0 p1:Nat):Prop:=
 (eC pg R X0 w0 true 229 #[(.float .f64 p0),(.float .f64 p1)] fun a b c=>
 ae pg c b (binOp .lss 3 a (I 0)) fun d=>
 (az d
 (eC pg R c b true 227 #[(.float .f64 p1)] fun e g h=>
 (fin R h g e))
 (eC pg R c b true 227 #[(.float .f64 p0)] fun i j k=>
 (fin R k j i))))
noncomputable def sG:br:=⟨53,[],[],[0,1,2,3,8,9,14,34],[21,22,23,24,25,26,27,28,29,30,31,32,33],[8,9]⟩
def lU (p0:Value) (p1 p2:Int) (p3:Value):Prop:=
 ae pg X0 w0 (binOp .add 3 (I p1) (I 1)) fun a=>
 (gW X0 w0 a undef 8 9 fun b c d _ e g=>
 ae pg g e (binOp .lss 3 d (I p2)) fun h=>
 (az h
 (((gO g e d 9 fun i j k l m=>
 ae pg m l (binOp .gtr 3 k (I p1)) fun n=>
 un (aU n true p3) fun o=>
 un (aU n true p0) fun q=>
 un (aU n true k) fun r=>
 aK pg m l n true (vS (dt 70 3 q r)) fun s=>
 aK pg m l n true (vS (dY 27 3 s)) fun t=>
 aK pg m l n true (vS (binOp .sub 3 r (I 1))) fun v=>
 aK pg m l n true (vS (dt 70 3 q v)) fun y=>
 aK pg m l n true (vS (dY 27 3 y)) fun z=>
 jn (fun (A:Value) (C:World) (D:XS)=>
 aK pg D C n true (vS (binOp .lss 3 A (I 0))) fun E=>
 aB pg D C (aP n E (B false)) fun F=>
 (az F
 ((ae pg D C (binOp .sub 3 k (I 1)) fun G=>
 ae pg D C (binOp .sub 3 k (I 1)) fun H=>
 ae pg D C (dt 70 3 p0 H) fun L=>
 ae pg D C (dY 27 3 L) fun M=>
 ae pg D C (dt 70 3 p0 k) fun N=>
 ae pg D C (dY 27 3 N) fun O=>
 ae pg D C (dt 70 3 p0 k) fun Q=>
 eU pg R D C false (st1 27 3 Q M) fun _ S T=>
 ae pg T S (dt 70 3 p0 G) fun U=>
 eU pg R T S true (st1 27 3 U O) fun _ V Y=>
 ((ae pg Y V (binOp .sub 3 k (I 1)) fun Z=>
 gB i j Z V Y))))
 ((((ae pg D C (binOp .add 3 d (I 1)) fun a0=>
 gR b c a0 k C D)))))) fun b0=>
 (gE n true (eF pg R m l true o #[t,z] b0) (b0 undef l m)))))
 (fin R g e (aw #[]))))
noncomputable def QB:br:=⟨21,[(1,(pg.cellsOf 27))],[3,7,12,17],[0,2],[6,8,9,11,13,14,16,18,19],[]⟩
def Fl (aX bo bt:Int):Prop:=
 (ae pg X0 w0 (binOp .geq 3 (I aX) (I 1)) fun a=>
 un (aU a true (I aX)) fun b=>
 aK pg X0 w0 a true (vS (binOp .leq 3 b (I 2))) fun c=>
 aB pg X0 w0 (aP a c (B false)) fun d=>
 un (aU d true (I bo)) fun e=>
 aK pg X0 w0 d true (vS (binOp .geq 3 e (I 1))) fun g=>
 aB pg X0 w0 (aP d g (B false)) fun h=>
 un (aU h true (I bt)) fun i=>
 aK pg X0 w0 h true (vS (binOp .geq 3 i (I 1))) fun j=>
 aB pg X0 w0 (aP h j (B false)) fun k=>
 (fin R X0 w0 k))
def Kg (p0:Value):Prop:=
 (ae pg X0 w0 (cD 31 3 p0) fun a=>
 (gO X0 w0 (I 0) 7 fun b c d e g=>
 ae pg g e (binOp .lss 3 d a) fun h=>
 (az h
 ((ae pg g e (dt 31 1 p0 d) fun i=>
 ae pg g e (ld1 9 i) fun j=>
 (eC pg R g e true 95 #[j] fun k l m=>
 ae pg m l (aY bp k) fun n=>
 un (aU n false d) fun o=>
 aK pg m l n false (vS (binOp .gtr 3 o (I 0))) fun q=>
 un (aU n false q) fun r=>
 un (aU r true p0) fun s=>
 un (aU r true d) fun t=>
 aK pg m l r true (vS (binOp .sub 3 t (I 1))) fun v=>
 aK pg m l r true (vS (dt 31 1 s v)) fun y=>
 aK pg m l r true (vS (ld1 9 y)) fun z=>
 un (aU r true j) fun A=>
 aK pg m l r true (vS (binOp .geq 9 z A)) fun C=>
 aK pg m l n false (aP r C (B false)) fun D=>
 aB pg m l (aP n (B true) D) fun E=>
 (az E
 (fin R m l (B false))
 (((ae pg m l (binOp .add 3 d (I 1)) fun F=>
 gB b c F l m)))))))
 (((ae pg g e (cD 31 3 p0) fun G=>
 ae pg g e (binOp .leq 3 G (I 16)) fun H=>
 (fin R g e H)))))))
noncomputable def VU:br:=⟨25,[],[],[0,1,2,6,8],[10,11,12,13,17,18,19,21,22,23],[]⟩
def Kh (p0:Int) (p1:Bool) (p2:Value):Prop:=
 (ae pg X0 w0 (aD .eql 28 (.tmp 7) (.const (I 0)) (I p0) (I 0)) fun a=>
 (az a
 (un (aU (B p1) true p2) fun b=>
 aK pg X0 w0 (B p1) true (vS (cD 22 3 b)) fun c=>
 aK pg X0 w0 (B p1) true (vS (aD .eql 3 (.tmp 12) (.const (I 0)) c (I 0))) fun d=>
 aB pg X0 w0 (aP (B p1) d (B false)) fun e=>
 (fin R X0 w0 e))
 ((ae pg X0 w0 (binOp .gtr 28 (I p0) (I 0)) fun g=>
 un (aU g true (I p0)) fun h=>
 aK pg X0 w0 g true (vS (binOp .leq 28 h (I 25))) fun i=>
 aB pg X0 w0 (aP g i (B false)) fun j=>
 un (aU j true p2) fun k=>
 jn (fun (l:Value) (m:World) (n:XS)=>
 aB pg n m (aP j l (B false)) fun o=>
 (fin R n m o)) fun q=>
 (gE j true (eC pg R X0 w0 true 294 #[k] q) (q undef w0 X0))))))
def Ki (p0:Value):Prop:=
 ((ae pg X0 w0 (cD 32 3 p0) fun a=>
 (gW X0 w0 (I 0) (.slice none 0 0) 8 3 fun b c d e g h=>
 ae pg h g (binOp .lss 3 d a) fun i=>
 (az i
 ((ae pg h g (dt 32 7 p0 d) fun j=>
 ae pg h g (dY 215 7 j) fun k=>
 un (ak (aa k)) fun l=>
 aC (ai (ad (aa k))==7) (aC (aq (ad (aa k)) aV.one) ((aC (bP l) (un (cellOf l 0) fun m=>
 eV pg R h g true (fH 31 9 1 1 #[(0,m)]) fun n o q=>
 eV pg R q o true (e7 31 9 1 16 31 e n) fun r s t=>
 (aC (bP l) (un (cq l 4 3) fun v=>
 eC pg R t s true 85 #[v] fun y z A=>
 ae pg A z (aY bp y) fun C=>
 un (cq l 1 3) fun D=>
 un (aU C false D) fun E=>
 jn (fun (F:Value) (G:World) (H:XS)=>
 aK pg H G C false (vS (aY bp F)) fun L=>
 aB pg H G (aP C (B true) L) fun M=>
 un (aU M false v) fun N=>
 aK pg H G M false (vS (dC 30 #[(I 0),(I 0),(I 0)] #[])) fun O=>
 aK pg H G M false (vS (aD .eql 30 (.tmp 29) (.tmp 30) N O)) fun Q=>
 un (aU M false Q) fun S=>
 un (cellOf l 1) fun T=>
 un (aU S true T) fun U=>
 aK pg H G S true (vS (aD .neq 3 (.tmp 35) (.const (I 0)) U (I 0))) fun V=>
 aK pg H G M false (aP S V (B false)) fun Y=>
 aB pg H G (aP M (B true) Y) fun Z=>
 (az Z
 (fin R H G (B false))
 (((ae pg H G (binOp .add 3 d (I 1)) fun a0=>
 gR b c a0 r G H))))) fun b0=>
 (gE C false (eC pg R A z true 96 #[E] b0) (b0 undef z A))))))))))
 (eC pg R h g true 245 #[e] fun c0 d0 e0=>
 (fin R e0 d0 c0))))))
def DQ (p0:Value):Prop:=
 ((ae pg X0 w0 (cD 33 3 p0) fun a=>
 (gW X0 w0 (I 0) (.slice none 0 0) 8 3 fun b c d e g h=>
 ae pg h g (binOp .lss 3 d a) fun i=>
 (az i
 ((ae pg h g (dt 33 4 p0 d) fun j=>
 ae pg h g (dY 64 4 j) fun k=>
 un (ak (aa k)) fun l=>
 aC (ai (ad (aa k))==4) (aC (aq (ad (aa k)) aV.one) ((aC (bP l) (un (cellOf l 0) fun m=>
 eV pg R h g true (fH 31 9 1 1 #[(0,m)]) fun n o q=>
 eV pg R q o true (e7 31 9 1 16 31 e n) fun r s t=>
 (aC (bP l) (un (cq l 1 3) fun v=>
 eC pg R t s true 96 #[v] fun y z A=>
 ae pg A z (aY bp y) fun C=>
 (az C
 (fin R A z (B false))
 (((ae pg A z (binOp .add 3 d (I 1)) fun D=>
 gR b c D r z A))))))))))))
 (eC pg R h g true 245 #[e] fun E F G=>
 (fin R G F E))))))
def HJ (p0:Value):Prop:=
 (ae pg X0 w0 (cD 34 3 p0) fun a=>
 (gO X0 w0 (I 0) 7 fun b c d e g=>
 ae pg g e (binOp .lss 3 d a) fun h=>
 (az h
 ((ae pg g e (dt 34 1 p0 d) fun i=>
 ae pg g e (ld1 3 i) fun j=>
 (ae pg g e (binOp .lss 3 j (I 1)) fun k=>
 un (aU k false j) fun l=>
 aK pg g e k false (vS (binOp .gtr 3 l (I 12))) fun m=>
 aB pg g e (aP k (B true) m) fun n=>
 un (aU n false d) fun o=>
 aK pg g e n false (vS (binOp .gtr 3 o (I 0))) fun q=>
 un (aU n false q) fun r=>
 un (aU r true p0) fun s=>
 un (aU r true d) fun t=>
 aK pg g e r true (vS (binOp .sub 3 t (I 1))) fun v=>
 aK pg g e r true (vS (dt 34 1 s v)) fun y=>
 aK pg g e r true (vS (ld1 3 y)) fun z=>
 un (aU r true j) fun A=>
 aK pg g e r true (vS (binOp .geq 3 z A)) fun C=>
 aK pg g e n false (aP r C (B false)) fun D=>
 aB pg g e (aP n (B true) D) fun E=>
 (az E
 (fin R g e (B false))
 (((ae pg g e (binOp .add 3 d (I 1)) fun F=>
 gB b c F e g)))))))
 (((ae pg g e (cD 34 3 p0) fun G=>
 ae pg g e (binOp .gtr 3 G (I 0)) fun H=>
 (fin R g e H)))))))
noncomputable def XF:br:=⟨17,[],[],[0,1,4,6,7,8,9,10,15],[],[9]⟩
def Mt (p0:Value) (p1:Int):Prop:=
 (ae pg X0 w0 (cD 34 3 p0) fun a=>
 (gO X0 w0 (I 0) 9 fun b c d e g=>
 ae pg g e (binOp .lss 3 d a) fun h=>
 (az h
 ((ae pg g e (dt 34 1 p0 d) fun i=>
 ae pg g e (ld1 3 i) fun j=>
 (ae pg g e (aD .eql 3 (.tmp 13) (.tmp 14) j (I p1)) fun k=>
 (az k
 (fin R g e (B true))
 (((ae pg g e (binOp .add 3 d (I 1)) fun l=>
 gB b c l e g)))))))
 (fin R g e (B false)))))
def Kj (p0 p1:Value):Prop:=
 (eC pg R X0 w0 true 295 #[] fun a b c=>
 ((ae pg c b (cD 39 3 p0) fun d=>
 (gW c b (I 0) (.string { data:= #[] }) 18 7 fun e g h i j k=>
 ae pg k j (binOp .lss 3 h d) fun l=>
 (az l
 ((ae pg k j (dt 39 2 p0 h) fun m=>
 ae pg k j (dY 320 2 m) fun n=>
 un (ak (aa n)) fun o=>
 aC (ai (ad (aa n))==2) (aC (aq (ad (aa n)) aV.one) ((aC (bP o) (un (cq o 0 2) fun q=>
 eC pg R k j true 296 #[q,i] fun r s t=>
 ae pg t s (aY bp r) fun v=>
 (az v
 ((fin R t s (aw #[(.pointer none),(I 4)])))
 ((aB pg t s (aE a) fun y=>
 ae pg t s (aS 425 0 0 1 y) fun z=>
 ae pg t s (ld1 422 z) fun A=>
 aC (bP o) (un (cellOf o 1) fun C=>
 eC pg R t s false 297 #[C] fun D E F=>
 un (cellOf o 0) fun G=>
 eU pg R F E true (aO 422 A G D) fun _ H L=>
 (aC (bP o) (((ae pg L H (binOp .add 3 h (I 1)) fun M=>
 gR e g M G H L))))))))))))))
 (((ae pg k j (cD 40 3 p1) fun N=>
 (gO k j (I 0) 40 fun O Q S T U=>
 ae pg U T (binOp .lss 3 S N) fun V=>
 (az V
 ((ae pg U T (dt 40 8 p1 S) fun Y=>
 ae pg U T (dY 266 8 Y) fun Z=>
 un (ak (aa Z)) fun a0=>
 aC (ai (ad (aa Z))==8) (aC (aq (ad (aa Z)) aV.one) ((aC (bP a0) (un (cq a0 0 8) fun b0=>
 eC pg R U T true 253 #[b0] fun c0 d0 e0=>
 (aB pg e0 d0 (aE a) fun g0=>
 ae pg e0 d0 (aS 425 1 1 1 g0) fun h0=>
 ae pg e0 d0 (ld1 423 h0) fun i0=>
 aC (bP a0) (un (cq a0 0 3) fun j0=>
 ae pg e0 d0 (da 423 i0 j0 true) fun k0=>
 ae pg e0 d0 (aL k0 0) fun l0=>
 ae pg e0 d0 (aL k0 1) fun m0=>
 un (ak (aa l0)) fun _=>
 aC (ai (ad (aa l0))==8) (aC (aq (ad (aa l0)) aV.one) ((ae pg e0 d0 (aD .neq 28 (.tmp 57) (.const (I 0)) c0 (I 0)) fun n0=>
 (az n0
 ((fin R e0 d0 (aw #[(.pointer none),c0])))
 ((az m0
 ((fin R e0 d0 (aw #[(.pointer none),(I 9)])))
 (aC (bP a0) (eC pg R e0 d0 true 298 #[a,b0] fun o0 q0 r0=>
 (az o0
 ((fin R r0 q0 (aw #[(.pointer none),(I 18)])))
 (aC (bP a0) (eC pg R r0 q0 true 299 #[a,b0] fun s0 t0 v0=>
 (az s0
 ((fin R v0 t0 (aw #[(.pointer none),(I 20)])))
 (((aB pg v0 t0 (aE a) fun y0=>
 ae pg v0 t0 (aS 425 1 1 1 y0) fun z0=>
 ae pg v0 t0 (ld1 423 z0) fun A0=>
 aC (bP a0) (eC pg R v0 t0 false 300 #[b0] fun C0 D0 E0=>
 eU pg R E0 D0 true (aO 423 A0 j0 C0) fun _ F0 G0=>
 ((ae pg G0 F0 (binOp .add 3 S (I 1)) fun H0=>
 gB O Q H0 F0 G0))))))))))))))))))))))))))
 ((((fin R U T (aw #[a,(I 0)])))))))))))))))
noncomputable def Ic:br:=⟨9,[],[],[0,1,3],[],[]⟩
def yT (p0:ByteArray) (c0:Value):Prop:=
 (ae pg X0 w0 (aS 42 0 0 4 c0) fun a=>
 ae pg X0 w0 (dY 38 4 a) fun b=>
 eC pg R X0 w0 false 12 #[(.string p0)] fun c d e=>
 eC pg R e d true 42 #[b,c] fun g h i=>
 (fin R i h g))
noncomputable def Kk:br:=⟨45,[(1,(pg.cellsOf 266)),(4,(pg.cellsOf 64))],[6,11,16,22,27,33,40],[0,2,5,10,21,34,35,36,37,43],[15,17,18,19,26,28,29,30,31],[36]⟩
def Ae (aX bo bt bN cd cr:Int) (cp cy:Value):Prop:=
 (eC pg R X0 w0 true 244 #[(.agg #[(I aX),(I bo),(I bt)])] fun a b c=>
 ae pg c b (aY bp a) fun d=>
 (az d
 (fin R c b (I 4))
 (eC pg R c b true 85 #[(.agg #[(I bN),(I cd),(I cr)])] fun e g h=>
 ae pg h g (aY bp e) fun i=>
 un (aU i false (.agg #[(I bN),(I cd),(I cr)])) fun j=>
 aK pg h g i false (vS (dC 30 #[(I 0),(I 0),(I 0)] #[])) fun k=>
 aK pg h g i false (vS (aD .eql 30 (.tmp 17) (.tmp 18) j k)) fun l=>
 aB pg h g (aP i (B true) l) fun m=>
 (az m
 (fin R h g (I 17))
 (eC pg R h g true 301 #[cp] fun n o q=>
 ae pg q o (aY bp n) fun r=>
 un (aU r false cy) fun s=>
 jn (fun (t:Value) (v:World) (y:XS)=>
 jn (fun (z:Value) (A:World) (C:XS)=>
 aK pg C A r false (vS (aY bp z)) fun D=>
 aB pg C A (aP r (B true) D) fun E=>
 (az E
 (fin R C A (I 4))
 (((ae pg C A (cD 33 3 cy) fun F=>
 (gO C A (I 0) 36 fun G H L M N=>
 ae pg N M (binOp .lss 3 L F) fun O=>
 (az O
 ((ae pg N M (dt 33 4 cy L) fun Q=>
 ae pg N M (dY 64 4 Q) fun S=>
 un (ak (aa S)) fun T=>
 aC (ai (ad (aa S))==4) (aC (aq (ad (aa S)) aV.one) ((aC (bP T) (un (cq T 1 3) fun U=>
 eC pg R N M true 96 #[U] fun V Y Z=>
 ae pg Z Y (aY bp V) fun a0=>
 (az a0
 (fin R Z Y (I 4))
 (((ae pg Z Y (binOp .add 3 L (I 1)) fun b0=>
 gB G H b0 Y Z))))))))))
 (fin R N M (I 0))))))))) fun c0=>
 (gE r false (eC pg R y v true 301 #[t] c0) (c0 undef v y))) fun d0=>
 (gE r false (eC pg R q o true 302 #[s] d0) (d0 undef o q)))))))
def lX (p0 p1:Value):Prop:=
 (ae pg X0 w0 (cD 53 3 p0) fun a=>
 (gO X0 w0 (I 0) 8 fun b c d e g=>
 ae pg g e (binOp .lss 3 d a) fun h=>
 (az h
 (((ae pg g e (dt 53 36 p0 d) fun i=>
 ae pg g e (dY 44 36 i) fun j=>
 eF pg R g e true p1 #[j] fun k l m=>
 (az k
 (fin R m l d)
 (((ae pg m l (binOp .add 3 d (I 1)) fun n=>
 gB b c n l m)))))))
 ((((fin R g e (I (-1)))))))))
noncomputable def Ax:br:=⟨8,[(2,(pg.cellsOf 44))],[4],[0,1,3],[],[]⟩
def r7 (_p0_0 _p0_1 _p0_2 _p0_3 _p0_4 _p0_5 cp _p0_7 _p0_8 _p0_9 _p0_10 _p0_11 _p0_12 _p0_13 _p0_14:Int) (_p0_15:Bool) (_p0_16 _p0_17:Int) (_p0_18 _p0_19 _p0_20 _p0_21 _p0_22 _p0_23:Value) (_p0_24 _p0_25:Int) (_p0_26 _p0_27:Nat) (_p0_28 _p0_29 _p0_30 _p0_31 _p0_32 _p0_33:Int) (_p0_34 _p0_35 c0:Value):Prop:=
 (ae pg X0 w0 (ld1 3 c0) fun a=>
 ae pg X0 w0 (aD .eql 3 (.tmp 5) (.tmp 6) (I cp) a) fun b=>
 (fin R X0 w0 b))
def Fm:Prop:=
 (eV pg R X0 w0 true (Instr.alloc 385 true (aw #[])) fun a b c=>
 ((ry c b (I 0) undef undef 4 9 3 fun d e g _ _ h i=>
 ae pg i h (binOp .lss 3 g (I 256)) fun j=>
 (az j
 (((ae pg i h (lQ fX 3 326 g) fun k=>
 ((gW i h (I 0) k 9 3 fun l m n o q r=>
 ae pg r q (binOp .lss 3 n (I 8)) fun s=>
 (az s
 ((ae pg r q (binOp .shr 326 o (aA bg 1)) fun t=>
 ae pg r q (binOp .and 326 o (aA fX 1)) fun v=>
 ae pg r q (aY UnOp.neg v) fun y=>
 ae pg r q (binOp .and 326 (aA fX 2197175160) y) fun z=>
 ae pg r q (binOp .xor 326 t z) fun A=>
 ((ae pg r q (binOp .add 3 n (I 1)) fun C=>
 gR l m C A q r))))
 (((ae pg r q (Instr.indexAt 385 a g) fun D=>
 eU pg R r q true (st1 326 1 D o) fun _ E F=>
 ((ae pg F E (binOp .add 3 g (I 1)) fun G=>
 rz d e G n o E F)))))))))))
 (((ae pg i h (dY 385 256 a) fun H=>
 un (ak (aa H)) fun L=>
 aC (ai (ad (aa H))==256) (aC (aq (ad (aa H)) aV.one) (un (cq L 0 256) fun M=>
 aC (aq [L] bP) (fin R i h M))))))))))
def sY (p0 p1 p2:Value):Prop:=
 aB pg X0 w0 (aE p1) fun a=>
 ae pg X0 w0 (ld1 318 a) fun b=>
 ae pg X0 w0 (cD 318 3 b) fun c=>
 ((jn (fun (d:Value) (e:World) (g:XS)=>
 (gO g e (I 0) 39 fun h i j k l=>
 ae pg l k (binOp .lss 3 j d) fun m=>
 (az m
 ((((jn (fun (n:World) (o:XS)=>
 aB pg o n (aE p1) fun q=>
 ae pg o n (ld1 318 q) fun r=>
 ae pg o n (dt 318 6 r j) fun s=>
 eF pg R o n true p2 #[s] fun _ t v=>
 ((ae pg v t (binOp .add 3 j (I 1)) fun y=>
 gB h i y t v))) fun z=>
 aB pg l k (aE p0) fun A=>
 ae pg l k (aS 190 0 0 1 A) fun C=>
 ae pg l k (ld1 188 C) fun D=>
 ae pg l k (aD .eql 188 (.tmp 45) (.const (.pointer none)) D (.pointer none)) fun E=>
 (az E
 ((aB pg l k (aE p1) fun F=>
 ae pg l k (ld1 318 F) fun G=>
 eV pg R l k false (fH 318 322 6 1 #[(0,(.agg #[(I 0),(I 0),(I 0),(I 0),(.float .f64 0),(.string { data:= #[] })]))]) fun H L M=>
 eV pg R M L true (e7 318 322 6 56 318 G H) fun N O Q=>
 aB pg Q O (aE p1) fun S=>
 eU pg R Q O true (st1 318 1 S N) fun _ T U=>
 (z T U)))
 (z k l))))))
 (fin R l k (aw #[]))))) fun V=>
 aB pg X0 w0 (aE p0) fun Y=>
 ae pg X0 w0 (aS 190 0 0 1 Y) fun Z=>
 ae pg X0 w0 (ld1 188 Z) fun a0=>
 ae pg X0 w0 (aD .neq 188 (.tmp 16) (.const (.pointer none)) a0 (.pointer none)) fun b0=>
 (az b0
 (aB pg X0 w0 (aE p0) fun c0=>
 ae pg X0 w0 (aS 190 0 0 1 c0) fun d0=>
 ae pg X0 w0 (ld1 188 d0) fun e0=>
 eC pg R X0 w0 true 190 #[e0,c] fun _ g0 h0=>
 (V c g0 h0))
 (aB pg X0 w0 (aE p0) fun i0=>
 ae pg X0 w0 (aS 190 1 1 1 i0) fun j0=>
 ae pg X0 w0 (ld1 184 j0) fun k0=>
 aB pg X0 w0 (aE p0) fun l0=>
 ae pg X0 w0 (aS 190 1 1 1 l0) fun m0=>
 ae pg X0 w0 (ld1 184 m0) fun n0=>
 eC pg R X0 w0 false 200 #[n0] fun o0 q0 r0=>
 eC pg R r0 q0 true 199 #[k0,o0] fun s0 t0 v0=>
 (eC pg R v0 t0 true 192 #[p0] fun _ y0 z0=>
 (aB pg z0 y0 (aE p1) fun A0=>
 eU pg R z0 y0 true (st1 318 1 A0 (.slice none 0 0)) fun _ C0 D0=>
 (V s0 C0 D0)))))))
def vC (p0 p1:Value):Prop:=
 aB pg X0 w0 (aE p1) fun a=>
 ae pg X0 w0 (aS 322 0 0 3 a) fun b=>
 eC pg R X0 w0 true 138 #[p0,b] fun _ c d=>
 (aB pg d c (aE p1) fun e=>
 ae pg d c (aS 322 1 3 3 e) fun g=>
 eC pg R d c true 205 #[p0,g] fun _ h i=>
 fin R i h (aw #[]))
noncomputable def Ie:br:=⟨17,[],[],[0,1],[],[]⟩
def yU (p0:Value) (p1:ByteArray):Prop:=
 ae pg X0 w0 (kK 9 3 (.string p1)) fun a=>
 eC pg R X0 w0 true 190 #[p0,a] fun _ b c=>
 (aB pg c b (aE p0) fun d=>
 ae pg c b (aS 350 0 0 1 d) fun e=>
 ae pg c b (ld1 94 e) fun g=>
 eV pg R c b true (Builtin.append_ #[94,9] 94 #[g,(.string p1)]) fun h i j=>
 aB pg j i (aE p0) fun k=>
 ae pg j i (aS 350 0 0 1 k) fun l=>
 eU pg R j i true (st1 94 1 l h) fun _ m n=>
 fin R n m (aw #[]))
noncomputable def VV:br:=⟨26,[(3,(pg.cellsOf 62))],[9,12,17,23],[0,1,6,13,14,20],[],[]⟩
def Kl (p0:Value) (dw:Int) (bZ:Nat) (dP:ByteArray):Prop:=
 ((jn (fun (a:Value) (b:World) (c:XS)=>
 aC (bP a) (un (cellOf a 0) fun d=>
 eC pg R c b true 190 #[p0,d] fun _ e g=>
 (aC (bP a) (((jn (fun (h:World) (i:XS)=>
 fin R i h (aw #[])) fun j=>
 ae pg g e (aD .eql 3 (.tmp 13) (.const (I 1)) d (I 1)) fun k=>
 (az k
 (aC (bP a) (un (cellOf a 1) fun l=>
 eC pg R g e true 203 #[p0,l] fun _ m n=>
 (j m n)))
 (ae pg g e (aD .eql 3 (.tmp 13) (.const (I 2)) d (I 2)) fun o=>
 (az o
 (aC (bP a) (un (cellOf a 2) fun q=>
 eC pg R g e true 260 #[p0,q] fun _ r s=>
 (j r s)))
 (j e g)))))))))) fun t=>
 eC pg R X0 w0 true 96 #[(.agg #[(I dw),(.float .f64 bZ),(.string dP)])] fun v y z=>
 ae pg z y (aY bp v) fun A=>
 (az A
 (ae pg z y (dC 62 #[(I 0),(.float .f64 0),(.string ⟨#[]⟩)] #[]) fun C=>
 un (ak (aa C)) fun D=>
 aC (ai (ad (aa C))==3) (aC (aq (ad (aa C)) aV.one) (t D y z)))
 ((t (.agg #[(I dw),(.float .f64 bZ),(.string dP)]) y z)))))
noncomputable def Lq:br:=⟨51,[(1,(pg.cellsOf 42))],[3,4,8,9,14,15,21,22,28,34,40,46],[0,2],[7,10,11,13,16,17,18,20,23,24,25,27,29,30,31,33,35,36,37,39,41,42,43,45,47,48,49],[]⟩
def Bb (aX bo:Int) (bt bN:Nat) (cd cr cp cy dh cX:Int) (bO bM:Value):Prop:=
 (ae pg X0 w0 (aD .eql 3 (.tmp 5) (.const (I 0)) (I aX) (I 0)) fun a=>
 un (aU a true (I bo)) fun b=>
 aK pg X0 w0 a true (vS (aD .eql 3 (.tmp 10) (.const (I 0)) b (I 0))) fun c=>
 aB pg X0 w0 (aP a c (B false)) fun d=>
 un (aU d true (.float .f64 bt)) fun e=>
 jn (fun (g:Value) (h:World) (i:XS)=>
 aK pg i h d true (vS (aD .eql 130 (.tmp 17) (.const (aA bg 0)) g (aA bg 0))) fun j=>
 aB pg i h (aP d j (B false)) fun k=>
 un (aU k true (.float .f64 bN)) fun l=>
 jn (fun (m:Value) (n:World) (o:XS)=>
 aK pg o n k true (vS (aD .eql 130 (.tmp 24) (.const (aA bg 0)) m (aA bg 0))) fun q=>
 aB pg o n (aP k q (B false)) fun r=>
 un (aU r true (.agg #[(I cd),(I cr),(I cp)])) fun s=>
 aK pg o n r true (vS (dC 30 #[(I 0),(I 0),(I 0)] #[])) fun t=>
 aK pg o n r true (vS (aD .eql 30 (.tmp 29) (.tmp 30) s t)) fun v=>
 aB pg o n (aP r v (B false)) fun y=>
 un (aU y true (.agg #[(I cy),(I dh),(I cX)])) fun z=>
 aK pg o n y true (vS (dC 30 #[(I 0),(I 0),(I 0)] #[])) fun A=>
 aK pg o n y true (vS (aD .eql 30 (.tmp 35) (.tmp 36) z A)) fun C=>
 aB pg o n (aP y C (B false)) fun D=>
 un (aU D true bO) fun E=>
 aK pg o n D true (vS (cD 39 3 E)) fun F=>
 aK pg o n D true (vS (aD .eql 3 (.tmp 42) (.const (I 0)) F (I 0))) fun G=>
 aB pg o n (aP D G (B false)) fun H=>
 un (aU H true bM) fun L=>
 aK pg o n H true (vS (cD 40 3 L)) fun M=>
 aK pg o n H true (vS (aD .eql 3 (.tmp 48) (.const (I 0)) M (I 0))) fun N=>
 aB pg o n (aP H N (B false)) fun O=>
 (fin R o n O)) fun Q=>
 (gE k true (eC pg R i h true 97 #[l] Q) (Q undef h i))) fun S=>
 (gE d true (eC pg R X0 w0 true 97 #[e] S) (S undef w0 X0)))
noncomputable def Po:br:=⟨11,[(3,(pg.cellsOf 30))],[],[0,1,4,5],[],[]⟩
def DR (p0:Bool) (dw bZ dP:Int):Prop:=
 ((az (B p0)
 (eC pg R X0 w0 true 271 #[(.agg #[(I dw),(I bZ),(I dP)])] fun a b c=>
 (fin R c b a))
 ((ae pg X0 w0 (dC 30 #[(I 0),(I 0),(I 0)] #[]) fun d=>
 ae pg X0 w0 (aD .eql 30 (.tmp 8) (.tmp 9) (.agg #[(I dw),(I bZ),(I dP)]) d) fun e=>
 (fin R X0 w0 e)))))
noncomputable def QC:br:=⟨13,[],[],[0,2,3,4,8],[],[]⟩
def Fo (p0:Nat):Prop:=
 (eC pg R X0 w0 true 166 #[(.float .f64 p0)] fun a b c=>
 ae pg c b (aD .eql 3 (.tmp 6) (.const (I 4)) a (I 4)) fun d=>
 (az d
 ((fin R c b (aw #[(.float .f64 0),(I 0)])))
 (eC pg R c b true 181 #[(.float .f64 p0)] fun e g h=>
 ae pg h g (aY bp e) fun i=>
 (az i
 ((fin R h g (aw #[(.float .f64 0),(I 1)])))
 ((((fin R h g (aw #[(.float .f64 p0),(I 0)])))))))))
noncomputable def QD:br:=⟨9,[],[],[0,2],[5,6,7],[]⟩
def Fp (p0:Int):Prop:=
 (ae pg X0 w0 (binOp .geq 3 (I p0) (I 1)) fun a=>
 un (aU a true (I p0)) fun b=>
 aK pg X0 w0 a true (vS (binOp .leq 3 b (I 12))) fun c=>
 aB pg X0 w0 (aP a c (B false)) fun d=>
 (fin R X0 w0 d))
noncomputable def QE:br:=⟨10,[(1,(pg.cellsOf 30))],[],[0,2],[5,6,7,8],[]⟩
def Fq (aX bo bt:Int):Prop:=
 (eC pg R X0 w0 true 85 #[(.agg #[(I aX),(I bo),(I bt)])] fun a b c=>
 un (aU a true (.agg #[(I aX),(I bo),(I bt)])) fun d=>
 aK pg c b a true (vS (dC 30 #[(I 0),(I 0),(I 0)] #[])) fun e=>
 aK pg c b a true (vS (aD .neq 30 (.tmp 6) (.tmp 7) d e)) fun g=>
 aB pg c b (aP a g (B false)) fun h=>
 (fin R c b h))
def HK (p0:Value):Prop:=
 (ae pg X0 w0 (cD 97 3 p0) fun a=>
 (gO X0 w0 (I 0) 7 fun b c d e g=>
 ae pg g e (binOp .lss 3 d a) fun h=>
 (az h
 ((ae pg g e (dt 97 4 p0 d) fun i=>
 ae pg g e (dY 247 4 i) fun j=>
 un (ak (aa j)) fun k=>
 aC (ai (ad (aa j))==4) (aC (aq (ad (aa j)) aV.one) ((aC (bP k) (un (cellOf k 0) fun l=>
 eC pg R g e true 95 #[l] fun m n o=>
 ae pg o n (aY bp m) fun q=>
 un (aU q false d) fun r=>
 aK pg o n q false (vS (binOp .gtr 3 r (I 0))) fun s=>
 un (aU q false s) fun t=>
 un (aU t true p0) fun v=>
 un (aU t true d) fun y=>
 aK pg o n t true (vS (binOp .sub 3 y (I 1))) fun z=>
 aK pg o n t true (vS (dt 97 4 v z)) fun A=>
 aK pg o n t true (vS (aS 247 0 0 1 A)) fun C=>
 aK pg o n t true (vS (ld1 9 C)) fun D=>
 un (aU t true l) fun E=>
 aK pg o n t true (vS (binOp .geq 9 D E)) fun F=>
 aK pg o n q false (aP t F (B false)) fun G=>
 aB pg o n (aP q (B true) G) fun H=>
 un (cq k 1 3) fun L=>
 un (aU H false L) fun M=>
 jn (fun (N:Value) (O:World) (Q:XS)=>
 aK pg Q O H false (vS (aY bp N)) fun S=>
 aB pg Q O (aP H (B true) S) fun T=>
 un (cellOf k 1) fun U=>
 un (aU T false U) fun V=>
 aK pg Q O T false (vS (aD .eql 3 (.tmp 40) (.const (I 0)) V (I 0))) fun Y=>
 aB pg Q O (aP T (B true) Y) fun Z=>
 (az Z
 (fin R Q O (B false))
 (((ae pg Q O (binOp .add 3 d (I 1)) fun a0=>
 gB b c a0 O Q))))) fun b0=>
 (gE H false (eC pg R o n true 96 #[M] b0) (b0 undef n o))))))))
 (fin R g e (B true)))))
noncomputable def r9:br:=⟨53,[],[],[0,1,2,3,8,9,14,34],[21,22,23,24,25,26,27,28,29,30,31,32,33],[8,9]⟩
def lF (p0:Value) (p1 p2:Int) (p3:Value):Prop:=
 ae pg X0 w0 (binOp .add 3 (I p1) (I 1)) fun a=>
 (gW X0 w0 a undef 8 9 fun b c d _ e g=>
 ae pg g e (binOp .lss 3 d (I p2)) fun h=>
 (az h
 (((gO g e d 9 fun i j k l m=>
 ae pg m l (binOp .gtr 3 k (I p1)) fun n=>
 un (aU n true p3) fun o=>
 un (aU n true p0) fun q=>
 un (aU n true k) fun r=>
 aK pg m l n true (vS (dt 32 7 q r)) fun s=>
 aK pg m l n true (vS (dY 215 7 s)) fun t=>
 aK pg m l n true (vS (binOp .sub 3 r (I 1))) fun v=>
 aK pg m l n true (vS (dt 32 7 q v)) fun y=>
 aK pg m l n true (vS (dY 215 7 y)) fun z=>
 jn (fun (A:Value) (C:World) (D:XS)=>
 aK pg D C n true (vS (binOp .lss 3 A (I 0))) fun E=>
 aB pg D C (aP n E (B false)) fun F=>
 (az F
 ((ae pg D C (binOp .sub 3 k (I 1)) fun G=>
 ae pg D C (binOp .sub 3 k (I 1)) fun H=>
 ae pg D C (dt 32 7 p0 H) fun L=>
 ae pg D C (dY 215 7 L) fun M=>
 ae pg D C (dt 32 7 p0 k) fun N=>
 ae pg D C (dY 215 7 N) fun O=>
 ae pg D C (dt 32 7 p0 k) fun Q=>
 eU pg R D C false (st1 215 7 Q M) fun _ S T=>
 ae pg T S (dt 32 7 p0 G) fun U=>
 eU pg R T S true (st1 215 7 U O) fun _ V Y=>
 ((ae pg Y V (binOp .sub 3 k (I 1)) fun Z=>
 gB i j Z V Y))))
 ((((ae pg D C (binOp .add 3 d (I 1)) fun a0=>
 gR b c a0 k C D)))))) fun b0=>
 (gE n true (eF pg R m l true o #[t,z] b0) (b0 undef l m)))))
 (fin R g e (aw #[]))))
noncomputable def XG:br:=⟨13,[],[],[0,2,3,8],[],[]⟩
def LR (p0:Nat):Prop:=
 (eC pg R X0 w0 true 164 #[(.float .f64 p0)] fun a b c=>
 (ae pg c b (binOp .and 130 a (aA bg 9223372036854775808)) fun d=>
 ae pg c b (aD .neq 130 (.tmp 7) (.const (aA bg 0)) d (aA bg 0)) fun e=>
 (az e
 (ae pg c b (aY yg a) fun g=>
 (fin R c b g))
 ((ae pg c b (binOp .or 130 a (aA bg 9223372036854775808)) fun h=>
 (fin R c b h))))))
def HL (p0:Value):Prop:=
 (ae pg X0 w0 (cD 22 3 p0) fun a=>
 (gO X0 w0 (I 0) 7 fun b c d e g=>
 ae pg g e (binOp .lss 3 d a) fun h=>
 (az h
 ((ae pg g e (dt 22 4 p0 d) fun i=>
 ae pg g e (dY 38 4 i) fun j=>
 un (ak (aa j)) fun k=>
 aC (ai (ad (aa j))==4) (aC (aq (ad (aa j)) aV.one) ((aC (bP k) (un (cq k 0 4) fun l=>
 eC pg R g e true 125 #[l] fun m n o=>
 ae pg o n (aY bp m) fun q=>
 (az q
 (fin R o n (B false))
 (((ae pg o n (binOp .add 3 d (I 1)) fun r=>
 gB b c r n o))))))))))
 (((ae pg g e (cD 22 3 p0) fun s=>
 ae pg g e (binOp .leq 3 s (I 12)) fun t=>
 (fin R g e t)))))))
def Mu:Prop:=
 (eV pg R X0 w0 true (Instr.makeMap 422 none) fun a b c=>
 eV pg R c b true (Instr.makeMap 423 none) fun d e g=>
 ae pg g e (dC 425 #[a,d,(I 0),(I 0),(I 0)] #[(0,a),(1,d)]) fun h=>
 eV pg R g e true (dN 425 h) fun i j k=>
 (fin R k j i))
noncomputable def Pp:br:=⟨52,[(2,(pg.cellsOf 320)),(5,(pg.cellsOf 30)),(7,(pg.cellsOf 322))],[8,13,19,25,32,37,44,49],[0,1,4,23,26,27,28,29,48],[12,14,15,16,18,20,21,22,36,38,39,40,41,43,45,46,47],[5,28]⟩
def DS (aX:ByteArray) (bo:Value) (p1:ByteArray):Prop:=
 (eC pg R X0 w0 true 95 #[(.string aX)] fun a b c=>
 ae pg c b (aY bp a) fun d=>
 un (aU d false (.string aX)) fun e=>
 un (aU d false (.string p1)) fun g=>
 aK pg c b d false (vS (binOp .leq 9 e g)) fun h=>
 aB pg c b (aP d (B true) h) fun i=>
 un (aU i false bo) fun j=>
 aK pg c b i false (vS (cD 318 3 j)) fun k=>
 aK pg c b i false (vS (aD .eql 3 (.tmp 21) (.const (I 0)) k (I 0))) fun l=>
 aB pg c b (aP i (B true) l) fun m=>
 (az m
 (fin R c b (B false))
 ((ae pg c b (dC 30 #[(I 0),(I 0),(I 0)] #[]) fun n=>
 un (ak (aa n)) fun o=>
 aC (ai (ad (aa n))==3) (aC (aq (ad (aa n)) aV.one) ((ae pg c b (cD 318 3 bo) fun q=>
 (gW c b (I 0) o 28 5 fun r s t v y z=>
 ae pg z y (binOp .lss 3 t q) fun A=>
 (az A
 ((ae pg z y (dt 318 6 bo t) fun C=>
 ae pg z y (dY 322 6 C) fun D=>
 un (ak (aa D)) fun E=>
 aC (ai (ad (aa D))==6) (aC (aq (ad (aa D)) aV.one) ((aC (bP E) (un (cq E 0 3) fun F=>
 eC pg R z y true 85 #[F] fun G H L=>
 ae pg L H (aY bp G) fun M=>
 un (aU M false F) fun N=>
 aC (bP v) (un (cq v 0 3) fun O=>
 un (aU M false O) fun Q=>
 jn (fun (S:Value) (T:World) (U:XS)=>
 aK pg U T M false (vS (binOp .leq 3 S (I 0))) fun V=>
 aB pg U T (aP M (B true) V) fun Y=>
 un (cq E 3 3) fun Z=>
 un (aU Y false Z) fun a0=>
 jn (fun (b0:Value) (c0:World) (d0:XS)=>
 aK pg d0 c0 Y false (vS (aY bp b0)) fun e0=>
 aB pg d0 c0 (aP Y (B true) e0) fun g0=>
 (az g0
 (fin R d0 c0 (B false))
 ((aC (bP E) (aC (bP v) (un (ak (aa F)) fun h0=>
 aC (ai (ad (aa F))==3) (aC (aq (ad (aa F)) aV.one) (((ae pg d0 c0 (binOp .add 3 t (I 1)) fun i0=>
 gR r s i0 h0 c0 d0)))))))))) fun j0=>
 (gE Y false (eC pg R U T true 96 #[a0] j0) (j0 undef T U))) fun k0=>
 (gE M false (eC pg R L H true 180 #[N,Q] k0) (k0 undef H L)))))))))
 (fin R z y (B true)))))))))))
def km (p0:Value):Prop:=
 (ae pg X0 w0 (aD .eql 318 (.tmp 3) (.const (.slice none 0 0)) p0 (.slice none 0 0)) fun a=>
 (az a
 (fin R X0 w0 (.slice none 0 0))
 (eV pg R X0 w0 true (fH 318 322 6 0 #[]) fun b c d=>
 eV pg R d c true (e7 318 322 6 56 318 b p0) fun e g h=>
 (fin R h g e))))
noncomputable def GJ:br:=⟨50,[(3,(pg.cellsOf 266)),(6,(pg.cellsOf 266)),(8,(pg.cellsOf 64))],[20,28,32,34,39],[0,1,4,10,15,17,21,22,23,24,37,40,41,42,43,48],[31,33,35,36],[23,42]⟩
def yn (p0:Value) (_p1_0 _p1_1 _p1_2 _p1_3 _p1_4 _p1_5:Int) (iN ja:Value):Prop:=
 (aB pg X0 w0 (aE p0) fun a=>
 ae pg X0 w0 (aS 425 1 1 1 a) fun b=>
 ae pg X0 w0 (ld1 423 b) fun c=>
 eV pg R X0 w0 true (Instr.range 423 c) fun d e g=>
 (gW g e undef undef 42 23 fun h i _ _ j k=>
 eV pg R k j true (Instr.next d false 0) fun l m n=>
 ae pg n m (aL l 0) fun o=>
 (az o
 ((eV pg R n m true (Instr.entry d) fun q r s=>
 ae pg s r (aL q 1) fun t=>
 un (ak (aa t)) fun v=>
 aC (ai (ad (aa t))==8) (aC (aq (ad (aa t)) aV.one) ((ae pg s r (cD 33 3 ja) fun y=>
 (gO s r (I 0) 23 fun z A C D E=>
 ae pg E D (binOp .lss 3 C y) fun F=>
 (az F
 ((ae pg E D (dt 33 4 ja C) fun G=>
 ae pg E D (dY 64 4 G) fun H=>
 un (ak (aa H)) fun L=>
 aC (ai (ad (aa H))==4) (aC (aq (ad (aa H)) aV.one) ((aC (bP v) (aC (bP L) (un (cq v 0 8) fun M=>
 un (cellOf L 0) fun N=>
 eC pg R E D true 318 #[M,N] fun O Q S=>
 un (cellOf v 6) fun T=>
 un (aU O false T) fun U=>
 un (aU O false N) fun V=>
 jn (fun (Y:Value) (Z:World) (a0:XS)=>
 aB pg a0 Z (aP O (B true) Y) fun b0=>
 (az b0
 (fin R a0 Z (B true))
 (((ae pg a0 Z (binOp .add 3 C (I 1)) fun c0=>
 gB z A c0 Z a0))))) fun d0=>
 (gE O false (eC pg R S Q true 93 #[U,V] d0) (d0 undef Q S)))))))))
 (((ae pg E D (cD 31 3 iN) fun e0=>
 (gO E D (I 0) 42 fun g0 h0 i0 j0 k0=>
 ae pg k0 j0 (binOp .lss 3 i0 e0) fun l0=>
 (az l0
 ((ae pg k0 j0 (dt 31 1 iN i0) fun m0=>
 ae pg k0 j0 (ld1 9 m0) fun n0=>
 (aC (bP v) (un (cq v 0 8) fun o0=>
 eC pg R k0 j0 true 318 #[o0,n0] fun q0 r0 s0=>
 (az q0
 (fin R s0 r0 (B true))
 (((ae pg s0 r0 (binOp .add 3 i0 (I 1)) fun t0=>
 gB g0 h0 t0 r0 s0))))))))
 (gR h i i0 C j0 k0)))))))))))))
 (fin R n m (B false)))))
noncomputable def Lr:br:=⟨24,[(3,(pg.cellsOf 266)),(6,(pg.cellsOf 64))],[7,15,19],[0,1,4,8,9,10,11,22],[],[10]⟩
def Bc (p0:Value) (_p1_0 _p1_1 _p1_2 iq iz jw:Int) (_p1_6 ja:Value):Prop:=
 (ae pg X0 w0 (cD 33 3 ja) fun a=>
 (gO X0 w0 (I 0) 10 fun b c d e g=>
 ae pg g e (binOp .lss 3 d a) fun h=>
 (az h
 ((ae pg g e (dt 33 4 ja d) fun i=>
 ae pg g e (dY 64 4 i) fun j=>
 un (ak (aa j)) fun k=>
 aC (ai (ad (aa j))==4) (aC (aq (ad (aa j)) aV.one) ((aC (bP k) (un (cellOf k 0) fun l=>
 eC pg R g e false 319 #[p0,l] fun m n o=>
 ae pg o n (fdV 215 2 4 3 m) fun q=>
 eC pg R o n true 180 #[q,(.agg #[(I iq),(I iz),(I jw)])] fun r s t=>
 ae pg t s (binOp .geq 3 r (I 0)) fun v=>
 (az v
 (fin R t s (B true))
 (((ae pg t s (binOp .add 3 d (I 1)) fun y=>
 gB b c y s t))))))))))
 (fin R g e (B false)))))
noncomputable def SU:br:=⟨12,[(1,(pg.cellsOf 266)),(2,(pg.cellsOf 266))],[3,6,7,10],[0],[],[]⟩
def HM (aX bo bt bN cd cr:Int) (cp cy:Value):Prop:=
 (eC pg R X0 w0 true 156 #[cp] fun a b c=>
 aC (aV.one a) ((eC pg R c b true 158 #[cy] fun d e g=>
 aC (aV.one d) ((aC (aq [(I aX),(I bo),(I bt),(I bN),(I cd),(I cr),a,d] aV.one) ((fin R g e (.agg #[(I aX),(I bo),(I bt),(I bN),(I cd),(I cr),a,d]))))))))
def Km (p0:Value):Prop:=
 (ae pg X0 w0 (cD 31 3 p0) fun a=>
 (gO X0 w0 (I 0) 7 fun b c d e g=>
 ae pg g e (binOp .lss 3 d a) fun h=>
 (az h
 ((ae pg g e (dt 31 1 p0 d) fun i=>
 ae pg g e (ld1 9 i) fun j=>
 (eC pg R g e true 95 #[j] fun k l m=>
 ae pg m l (aY bp k) fun n=>
 un (aU n false d) fun o=>
 aK pg m l n false (vS (binOp .gtr 3 o (I 0))) fun q=>
 un (aU n false q) fun r=>
 un (aU r true p0) fun s=>
 un (aU r true d) fun t=>
 aK pg m l r true (vS (binOp .sub 3 t (I 1))) fun v=>
 aK pg m l r true (vS (dt 31 1 s v)) fun y=>
 aK pg m l r true (vS (ld1 9 y)) fun z=>
 un (aU r true j) fun A=>
 aK pg m l r true (vS (binOp .geq 9 z A)) fun C=>
 aK pg m l n false (aP r C (B false)) fun D=>
 aB pg m l (aP n (B true) D) fun E=>
 (az E
 (fin R m l (B false))
 (((ae pg m l (binOp .add 3 d (I 1)) fun F=>
 gB b c F l m)))))))
 (((ae pg g e (cD 31 3 p0) fun G=>
 ae pg g e (binOp .leq 3 G (I 16)) fun H=>
 (fin R g e H)))))))
def Bd (p0:Value):Prop:=
 ((ae pg X0 w0 (cD 33 3 p0) fun a=>
 (gW X0 w0 (I 0) (.slice none 0 0) 8 3 fun b c d e g h=>
 ae pg h g (binOp .lss 3 d a) fun i=>
 (az i
 ((ae pg h g (dt 33 4 p0 d) fun j=>
 ae pg h g (dY 64 4 j) fun k=>
 un (ak (aa k)) fun l=>
 aC (ai (ad (aa k))==4) (aC (aq (ad (aa k)) aV.one) ((aC (bP l) (un (cellOf l 0) fun m=>
 eV pg R h g true (fH 31 9 1 1 #[(0,m)]) fun n o q=>
 eV pg R q o true (e7 31 9 1 16 31 e n) fun r s t=>
 ((ae pg t s (binOp .add 3 d (I 1)) fun v=>
 gR b c v r s t))))))))
 (fin R h g e)))))
noncomputable def QF:br:=⟨9,[(2,(pg.cellsOf 266))],[5],[0,1,3,4],[],[]⟩
def Fs (_p0_0 _p0_1 _p0_2 _p0_3 _p0_4 _p0_5:Int) (_p0_6 cy:Value) (p1:ByteArray):Prop:=
 eV pg R X0 w0 true (dN 9 (.string p1)) fun a b c=>
 (ae pg c b (cn (e6 326) #[] #[a]) fun d=>
 eC pg R c b true 325 #[cy,d] fun e g h=>
 (fin R h g e))
noncomputable def GK:br:=⟨9,[(4,(pg.cellsOf 215))],[],[0,1],[],[]⟩
def yp (p0:Value) (p1:ByteArray):Prop:=
 (ae pg X0 w0 (dC 30 #[(I 0),(I 0),(I 0)] #[]) fun a=>
 eC pg R X0 w0 true 327 #[p0,(.string p1),a,(B true)] fun b c d=>
 un (ak (aa b)) fun e=>
 aC (ai (ad (aa b))==7) (aC (aq (ad (aa b)) aV.one) (un (cq e 0 7) fun g=>
 aC (aq [e] bP) (fin R d c g))))
def jD (p0 p1:Value):Prop:=
 (eC pg R X0 w0 true 329 #[p0,p1] fun a b c=>
 ae pg c b (binOp .geq 3 a (I 0)) fun d=>
 (fin R c b d))
noncomputable def Ls:br:=⟨8,[(2,(pg.cellsOf 64))],[4],[0,1,3],[],[]⟩
def Be (aX:ByteArray) (_p0_1:Int) (_p0_2:Nat) (_p0_3:ByteArray) (c0:Value):Prop:=
 (ae pg X0 w0 (ld1 9 c0) fun a=>
 ae pg X0 w0 (aD .eql 9 (.tmp 5) (.tmp 6) (.string aX) a) fun b=>
 (fin R X0 w0 b))
noncomputable def GN:br:=⟨41,[(6,(pg.cellsOf 30)),(8,(pg.cellsOf 215)),(9,(pg.cellsOf 215)),(11,(pg.cellsOf 322))],[27,33,35,37,38],[0,1,2,3,19,20,21,22,32],[26,28,29,30,31],[9,21]⟩
def yq (p0:Value) (p1:ByteArray) (gQ gL iF:Int) (p3:Bool):Prop:=
 (ae pg X0 w0 (dC 215 #[(.string p1),(I 0),(.float .f64 0),(.string ⟨#[]⟩),(I 0),(I 0),(I 0)] #[(0,(.string p1))]) fun a=>
 un (ak (aa a)) fun b=>
 aC (ai (ad (aa a))==7) (aC (aq (ad (aa a)) aV.one) ((aB pg X0 w0 (aE p0) fun c=>
 ae pg X0 w0 (aS 425 0 0 1 c) fun d=>
 ae pg X0 w0 (ld1 422 d) fun e=>
 ae pg X0 w0 (da 422 e (.string p1) false) fun g=>
 ae pg X0 w0 (cD 318 3 g) fun h=>
 (gW X0 w0 (I 0) b 21 9 fun i j k l m n=>
 ae pg n m (binOp .lss 3 k h) fun o=>
 (az o
 (((jn (fun (q:Value) (r:World) (s:XS)=>
 (ae pg s r (binOp .add 3 k (I 1)) fun t=>
 gR i j t q r s)) fun v=>
 ae pg n m (dt 318 6 g k) fun y=>
 ae pg n m (dY 322 6 y) fun z=>
 un (ak (aa z)) fun A=>
 aC (ai (ad (aa z))==6) (aC (aq (ad (aa z)) aV.one) ((aC (bP A) (un (cq A 0 3) fun C=>
 un (aU (B p3) false C) fun D=>
 un (aU (B p3) false (.agg #[(I gQ),(I gL),(I iF)])) fun E=>
 jn (fun (F:Value) (G:World) (H:XS)=>
 aK pg H G (B p3) false (vS (binOp .leq 3 F (I 0))) fun L=>
 aB pg H G (aP (B p3) (B true) L) fun M=>
 (az M
 (aC (bP A) (aC (bP l) (un (cq A 3 3) fun N=>
 un (ak (aQ (dg (ad (aa l)) 1 (ad (aa N))))) fun O=>
 aC (ai (ad (aa N))==3) (aC (aq (ad (aa N)) aV.one) (un (ak (aQ (dg (ad (aa O)) 4 (ad (aa C))))) fun Q=>
 aC (ai (ad (aa C))==3) (aC (aq (ad (aa C)) aV.one) (v Q G H)))))))
 (v l G H))) fun S=>
 (gE (B p3) false (eC pg R n m true 180 #[D,E] S) (S undef m n)))))))))
 (((aC (bP l) (un (cq l 0 7) fun T=>
 un (ak (aa T)) fun U=>
 aC (ai (ad (aa T))==7) (aC (aq (ad (aa T)) aV.one) (un (cq U 0 7) fun V=>
 aC (aq [U] bP) (fin R n m V)))))))))))))
def ko (p0 p1:Value):Prop:=
 (ae pg X0 w0 (cD 33 3 p0) fun a=>
 (gO X0 w0 (I 0) 8 fun b c d e g=>
 ae pg g e (binOp .lss 3 d a) fun h=>
 (az h
 (((ae pg g e (dt 33 4 p0 d) fun i=>
 ae pg g e (dY 64 4 i) fun j=>
 eF pg R g e true p1 #[j] fun k l m=>
 (az k
 (fin R m l d)
 (((ae pg m l (binOp .add 3 d (I 1)) fun n=>
 gB b c n l m)))))))
 ((((fin R g e (I (-1)))))))))
noncomputable def pZ:br:=⟨104,[(3,(pg.cellsOf 48)),(6,(pg.cellsOf 27)),(7,(pg.cellsOf 56)),(8,(pg.cellsOf 28)),(12,(pg.cellsOf 120))],[81,82,84,85,87],[0,1,2,9,10,17,52,73,74,75,76,94],[1000063,1000103],[75]⟩
def tA (p0:Value) (p1:Int) (p2:Value):Prop:=
 aC (aV.one p0) ((aB pg X0 w0 (aE p0) fun a=>
 ae pg X0 w0 (aS 93 4 4 1 a) fun b=>
 ae pg X0 w0 (ld1 4 b) fun c=>
 (az c
 (ae pg X0 w0 (dC 27 #[(I 0),(I 0),(I 0)] #[]) fun d=>
 ae pg X0 w0 (dC 56 #[(.slice none 0 0),(.slice none 0 0)] #[]) fun e=>
 un (ak (aa d)) fun g=>
 aC (ai (ad (aa d))==3) (aC (aq (ad (aa d)) aV.one) (un (ak (aa e)) fun h=>
 aC (ai (ad (aa e))==2) (aC (aq (ad (aa e)) aV.one) ((un (cq g 0 3) fun i=>
 un (cq h 0 2) fun j=>
 aC (aq [g,h,(.agg #[(I 12)])] bP) (fin R X0 w0 (aw #[i,j,(I 12)]))))))))
 ((aB pg X0 w0 (aE p0) fun k=>
 ae pg X0 w0 (aS 93 2 2 1 k) fun l=>
 ae pg X0 w0 (ld1 3 l) fun m=>
 ae pg X0 w0 (binOp .add 3 m (I 1)) fun n=>
 aB pg X0 w0 (aE p0) fun o=>
 ae pg X0 w0 (aS 93 2 2 1 o) fun q=>
 eU pg R X0 w0 true (st1 3 1 q n) fun _ r s=>
 (aB pg s r (aE p0) fun t=>
 ae pg s r (aS 93 0 0 1 t) fun v=>
 ae pg s r (ld1 3 v) fun y=>
 aB pg s r (aE p0) fun z=>
 ae pg s r (aS 93 1 1 1 z) fun A=>
 ae pg s r (ld1 3 A) fun C=>
 aB pg s r (aE p0) fun D=>
 ae pg s r (aS 93 2 2 1 D) fun E=>
 ae pg s r (ld1 3 E) fun F=>
 ae pg s r (dC 27 #[y,C,F] #[(0,y),(1,C),(2,F)]) fun G=>
 eC pg R s r false 32 #[p2] fun H L M=>
 un (cellOf G 0) fun N=>
 un (cellOf G 1) fun O=>
 un (cellOf G 2) fun Q=>
 ae pg M L (dC 113 #[N,O,Q,H,(I 0),(I 0),(I 0),(I 0),(.slice none 0 0),(B false),(.slice none 0 0),(.slice none 0 0),(I 0),(I 0),(I 0)] #[(0,G),(1,H)]) fun S=>
 eV pg R M L true (dN 113 S) fun T U V=>
 (eC pg R V U true 33 #[p0,(I p1),T] fun Y Z a0=>
 ae pg a0 Z (aL Y 0) fun b0=>
 ae pg a0 Z (aL Y 1) fun c0=>
 aC (aV.one c0) ((ae pg a0 Z (aD .neq 28 (.tmp 51) (.const (I 0)) c0 (I 0)) fun d0=>
 (az d0
 (ae pg a0 Z (dC 79 #[c0,(I 0),(I 0),(I 0),(I 0),(I 0),(I 0),(B false),(.slice none 0 0)] #[(0,c0)]) fun e0=>
 eC pg R a0 Z true 34 #[p0,T,e0] fun _ g0 h0=>
 ((jn (fun (i0 j0:Value) (k0:World) (l0:XS)=>
 un (cq i0 0 3) fun m0=>
 un (cq j0 0 2) fun n0=>
 aC (aq [i0,j0,(.agg #[(I 0)])] bP) (fin R l0 k0 (aw #[m0,n0,(I 0)]))) fun o0=>
 ((And
 (aB pg h0 g0 (aE T) fun q0=>
 (And
 (ae pg h0 g0 (aS 113 0 0 3 q0) fun r0=>
 (And
 (ae pg h0 g0 (dY 27 3 r0) fun s0=>
 (eC pg R h0 g0 true 35 #[p0] fun t0 v0 y0=>
 (un (ak (aa s0)) fun z0=>
 aC (ai (ad (aa s0))==3) (aC (aq (ad (aa s0)) aV.one) ((un (ak (aa t0)) fun A0=>
 aC (ai (ad (aa t0))==2) (aC (aq (ad (aa t0)) aV.one) (o0 z0 A0 v0 y0))))))))
 (eC pg R h0 g0 true 35 #[p0] fun C0 D0 E0=>
 (ae pg E0 D0 (dY 27 3 r0) fun F0=>
 (un (ak (aa F0)) fun G0=>
 aC (ai (ad (aa F0))==3) (aC (aq (ad (aa F0)) aV.one) ((un (ak (aa C0)) fun H0=>
 aC (ai (ad (aa C0))==2) (aC (aq (ad (aa C0)) aV.one) (o0 G0 H0 D0 E0))))))))))
 (eC pg R h0 g0 true 35 #[p0] fun L0 M0 N0=>
 (ae pg N0 M0 (aS 113 0 0 3 q0) fun O0=>
 (ae pg N0 M0 (dY 27 3 O0) fun Q0=>
 (un (ak (aa Q0)) fun S0=>
 aC (ai (ad (aa Q0))==3) (aC (aq (ad (aa Q0)) aV.one) ((un (ak (aa L0)) fun T0=>
 aC (ai (ad (aa L0))==2) (aC (aq (ad (aa L0)) aV.one) (o0 S0 T0 M0 N0)))))))))))
 (eC pg R h0 g0 true 35 #[p0] fun U0 V0 Y0=>
 (aB pg Y0 V0 (aE T) fun Z0=>
 (ae pg Y0 V0 (aS 113 0 0 3 Z0) fun a1=>
 (ae pg Y0 V0 (dY 27 3 a1) fun b1=>
 (un (ak (aa b1)) fun c1=>
 aC (ai (ad (aa b1))==3) (aC (aq (ad (aa b1)) aV.one) ((un (ak (aa U0)) fun d1=>
 aC (ai (ad (aa U0))==2) (aC (aq (ad (aa U0)) aV.one) (o0 c1 d1 V0 Y0)))))))))))))))
 ((aB pg a0 Z (aE p0) fun e1=>
 ae pg a0 Z (aS 93 7 7 1 e1) fun g1=>
 ae pg a0 Z (ld1 88 g1) fun h1=>
 aB pg a0 Z (aE T) fun i1=>
 ae pg a0 Z (aS 113 0 0 3 i1) fun j1=>
 ae pg a0 Z (dY 27 3 j1) fun k1=>
 eU pg R a0 Z true (aO 88 h1 k1 T) fun _ l1 m1=>
 (ae pg m1 l1 (cD 114 3 b0) fun n1=>
 (gO m1 l1 (I 0) 75 fun o1 q1 r1 s1 t1=>
 ae pg t1 s1 (binOp .lss 3 r1 n1) fun v1=>
 (az v1
 ((ae pg t1 s1 (dt 114 5 b0 r1) fun y1=>
 ae pg t1 s1 (dY 120 5 y1) fun z1=>
 un (ak (aa z1)) fun A1=>
 aC (ai (ad (aa z1))==5) (aC (aq (ad (aa z1)) aV.one) ((aC (bP A1) (un (cellOf A1 0) fun C1=>
 un (cellOf A1 1) fun D1=>
 un (cellOf A1 4) fun E1=>
 ae pg t1 s1 (dC 44 #[(I 1),(I 0),(I 0),(I 0),(I 0),(I 0),C1,D1,(I 0),(I 0),(I 0),(I 0),(I 0),(I 0),(I 0),(B false),(I 0),(I 0),E1,(.slice none 0 0),(.slice none 0 0),(.slice none 0 0),(.slice none 0 0),(.slice none 0 0),(I 0),(I 0),(.float .f64 0),(.float .f64 0),(I 0),(I 0),(I 0),(I 0),(I 0),(I 0),(.slice none 0 0),(.slice none 0 0)] #[(0,(I 1)),(4,C1),(5,D1),(12,E1)]) fun F1=>
 eC pg R t1 s1 true 36 #[p0,T,F1] fun _ G1 H1=>
 ((ae pg H1 G1 (binOp .add 3 r1 (I 1)) fun L1=>
 gB o1 q1 L1 G1 H1))))))))
 ((((jn (fun (M1:World) (N1:XS)=>
 (jn (fun (O1 Q1:Value) (S1:World) (T1:XS)=>
 un (cq O1 0 3) fun U1=>
 un (cq Q1 0 2) fun V1=>
 aC (aq [O1,Q1,(.agg #[(I 0)])] bP) (fin R T1 S1 (aw #[U1,V1,(I 0)]))) fun Y1=>
 ((And
 (aB pg N1 M1 (aE T) fun Z1=>
 (And
 (ae pg N1 M1 (aS 113 0 0 3 Z1) fun a2=>
 (And
 (ae pg N1 M1 (dY 27 3 a2) fun b2=>
 (eC pg R N1 M1 true 35 #[p0] fun c2 d2 e2=>
 (un (ak (aa b2)) fun g2=>
 aC (ai (ad (aa b2))==3) (aC (aq (ad (aa b2)) aV.one) ((un (ak (aa c2)) fun h2=>
 aC (ai (ad (aa c2))==2) (aC (aq (ad (aa c2)) aV.one) (Y1 g2 h2 d2 e2))))))))
 (eC pg R N1 M1 true 35 #[p0] fun i2 j2 k2=>
 (ae pg k2 j2 (dY 27 3 a2) fun l2=>
 (un (ak (aa l2)) fun m2=>
 aC (ai (ad (aa l2))==3) (aC (aq (ad (aa l2)) aV.one) ((un (ak (aa i2)) fun n2=>
 aC (ai (ad (aa i2))==2) (aC (aq (ad (aa i2)) aV.one) (Y1 m2 n2 j2 k2))))))))))
 (eC pg R N1 M1 true 35 #[p0] fun o2 q2 r2=>
 (ae pg r2 q2 (aS 113 0 0 3 Z1) fun s2=>
 (ae pg r2 q2 (dY 27 3 s2) fun t2=>
 (un (ak (aa t2)) fun v2=>
 aC (ai (ad (aa t2))==3) (aC (aq (ad (aa t2)) aV.one) ((un (ak (aa o2)) fun y2=>
 aC (ai (ad (aa o2))==2) (aC (aq (ad (aa o2)) aV.one) (Y1 v2 y2 q2 r2)))))))))))
 (eC pg R N1 M1 true 35 #[p0] fun z2 A2 C2=>
 (aB pg C2 A2 (aE T) fun D2=>
 (ae pg C2 A2 (aS 113 0 0 3 D2) fun E2=>
 (ae pg C2 A2 (dY 27 3 E2) fun F2=>
 (un (ak (aa F2)) fun G2=>
 aC (ai (ad (aa F2))==3) (aC (aq (ad (aa F2)) aV.one) ((un (ak (aa z2)) fun H2=>
 aC (ai (ad (aa z2))==2) (aC (aq (ad (aa z2)) aV.one) (Y1 G2 H2 A2 C2)))))))))))))) fun L2=>
 ae pg t1 s1 (cD 114 3 b0) fun M2=>
 ae pg t1 s1 (aD .eql 3 (.tmp 93) (.const (I 0)) M2 (I 0)) fun N2=>
 (az N2
 (eC pg R t1 s1 true 37 #[p0,T] fun _ O2 Q2=>
 (L2 O2 Q2))
 (L2 s1 t1)))))))))))))))))))))
noncomputable def qa:br:=⟨49,[(3,(pg.cellsOf 48)),(5,(pg.cellsOf 44)),(6,(pg.cellsOf 56)),(7,(pg.cellsOf 28))],[18,25],[0,2,12,23,26,27,32,37,42],[17,19,20,21,22],[]⟩
def tD (p0:Value) (_p1 gQ gL iF oV oW oX oY oZ o9 tO pz pA pB pC pD:Int) (pE:Bool) (pF pG:Int) (pH pI pJ pK pL pM:Value) (pN pO:Int) (pP pQ:Nat) (pR pS pT pU pV pW:Int) (pX pY:Value):Prop:=
 aC (aV.one p0) ((aB pg X0 w0 (aE p0) fun a=>
 ae pg X0 w0 (aS 93 4 4 1 a) fun b=>
 ae pg X0 w0 (ld1 4 b) fun c=>
 (az c
 (ae pg X0 w0 (dC 56 #[(.slice none 0 0),(.slice none 0 0)] #[]) fun d=>
 un (ak (aa d)) fun e=>
 aC (ai (ad (aa d))==2) (aC (aq (ad (aa d)) aV.one) ((un (cq e 0 2) fun g=>
 aC (aq [e,(.agg #[(I 12)])] bP) (fin R X0 w0 (aw #[g,(I 12)]))))))
 ((eC pg R X0 w0 true 54 #[(.agg #[(I gQ),(I gL),(I iF),(I oV),(I oW),(I oX),(I oY),(I oZ),(I o9),(I tO),(I pz),(I pA),(I pB),(I pC),(I pD),(B pE),(I pF),(I pG),pH,pI,pJ,pK,pL,pM,(I pN),(I pO),(.float .f64 pP),(.float .f64 pQ),(I pR),(I pS),(I pT),(I pU),(I pV),(I pW),pX,pY])] fun h i j=>
 ae pg j i (aD .neq 28 (.tmp 15) (.const (I 0)) h (I 0)) fun k=>
 un (aU k false (I iF)) fun l=>
 un (aU k false p0) fun m=>
 jn (fun (n:Value) (o:World) (q:XS)=>
 aK pg q o k false (vS (aD .neq 3 (.tmp 19) (.tmp 21) l n)) fun r=>
 aB pg q o (aP k (B true) r) fun s=>
 (az s
 (ae pg q o (dC 56 #[(.slice none 0 0),(.slice none 0 0)] #[]) fun t=>
 un (ak (aa t)) fun v=>
 aC (ai (ad (aa t))==2) (aC (aq (ad (aa t)) aV.one) ((un (cq v 0 2) fun y=>
 aC (aq [v,(.agg #[(I 0)])] bP) (fin R q o (aw #[y,(I 0)]))))))
 ((((jn (fun (z:World) (A:XS)=>
 (eC pg R A z true 35 #[p0] fun C D E=>
 un (ak (aa C)) fun F=>
 aC (ai (ad (aa C))==2) (aC (aq (ad (aa C)) aV.one) ((un (cq F 0 2) fun G=>
 aC (aq [F,(.agg #[(I 0)])] bP) (fin R E D (aw #[G,(I 0)]))))))) fun H=>
 ae pg q o (aD .eql 3 (.tmp 26) (.const (I 2)) (I gQ) (I 2)) fun L=>
 (az L
 (eC pg R q o true 55 #[p0,(.agg #[(I gQ),(I gL),(I iF),(I oV),(I oW),(I oX),(I oY),(I oZ),(I o9),(I tO),(I pz),(I pA),(I pB),(I pC),(I pD),(B pE),(I pF),(I pG),pH,pI,pJ,pK,pL,pM,(I pN),(I pO),(.float .f64 pP),(.float .f64 pQ),(I pR),(I pS),(I pT),(I pU),(I pV),(I pW),pX,pY])] fun _ M N=>
 (H M N))
 (ae pg q o (aD .eql 3 (.tmp 26) (.const (I 4)) (I gQ) (I 4)) fun O=>
 (az O
 (eC pg R q o true 56 #[p0,(.agg #[(I gQ),(I gL),(I iF),(I oV),(I oW),(I oX),(I oY),(I oZ),(I o9),(I tO),(I pz),(I pA),(I pB),(I pC),(I pD),(B pE),(I pF),(I pG),pH,pI,pJ,pK,pL,pM,(I pN),(I pO),(.float .f64 pP),(.float .f64 pQ),(I pR),(I pS),(I pT),(I pU),(I pV),(I pW),pX,pY])] fun _ Q S=>
 (H Q S))
 (ae pg q o (aD .eql 3 (.tmp 26) (.const (I 6)) (I gQ) (I 6)) fun T=>
 (az T
 (eC pg R q o true 57 #[p0,(.agg #[(I gQ),(I gL),(I iF),(I oV),(I oW),(I oX),(I oY),(I oZ),(I o9),(I tO),(I pz),(I pA),(I pB),(I pC),(I pD),(B pE),(I pF),(I pG),pH,pI,pJ,pK,pL,pM,(I pN),(I pO),(.float .f64 pP),(.float .f64 pQ),(I pR),(I pS),(I pT),(I pU),(I pV),(I pW),pX,pY])] fun _ U V=>
 (H U V))
 (ae pg q o (aD .eql 3 (.tmp 26) (.const (I 7)) (I gQ) (I 7)) fun Y=>
 (az Y
 (eC pg R q o true 58 #[p0,(.agg #[(I gQ),(I gL),(I iF),(I oV),(I oW),(I oX),(I oY),(I oZ),(I o9),(I tO),(I pz),(I pA),(I pB),(I pC),(I pD),(B pE),(I pF),(I pG),pH,pI,pJ,pK,pL,pM,(I pN),(I pO),(.float .f64 pP),(.float .f64 pQ),(I pR),(I pS),(I pT),(I pU),(I pV),(I pW),pX,pY])] fun _ Z a0=>
 (H Z a0))
 (H o q)))))))))))))) fun b0=>
 (gE k false (eC pg R j i false 30 #[m] b0) (b0 undef i j)))))))
end
theorem cv {f:FuncId} {fn:Func} {args:Array Value} {w:World} {R:Ending→World→Prop} {V:Prop} (pl:br) (hf:pg.funcs[f]? =some fn) (h:V)
 (hs:(decide (args.size≤pl.n)&&pl.boxes.all fun p=>decide (args.size≤p.1))=true:=by kernel_rfl) (hv:V=Np pg (cF pg pl fn) R args w:=by kernel_rfl):Calls pg f args w R:=aM hf hs hv h
section
variable {R : Ending → World → Prop} {w0 : World} {p0 p1 p2 p3 p4 p5 p6 p7 p8 p9 p10 p11 : Value}
theorem Cv {R:Ending→World→Prop} {w0:World} {p0:Value} {p1:Int} {p2:Value} (h:tI R w0 (aR w0) p0 p1 p2):Calls pg 3 #[p0,(I p1),p2] w0 R:=
 aM (pl:=CB) Tryz.func3 (by kernel_rfl) (by kernel_rfl) h
theorem Jy (h:zY R w0 (aR w0)):Calls pg 4 #[] w0 R:=cv ⟨128,[(4,(pg.cellsOf 27)),(5,(pg.cellsOf 56)),(7,(pg.cellsOf 30)),(8,(pg.cellsOf 56))],[46,51,59,67,72,77,85,94,100],[0,1,2,3,6,9,10,11,14,26],[23,24,25,50,52,53,54,55,56,58,60,61,62,63,64,66,68,69,70,76,78,79,80,81,82,84,86,87,88,89,90,91,93,95,96,97,99,101,102,103,104,108,109,110,112,113,114,115,117,118,120,121,123,124,125,126],[]⟩ Tryz.func4 h
theorem Nj (h:Cs R w0 (aR w0) p0):Calls pg 5 #[p0] w0 R:=cv ⟨79,[],[],[0,2,3,4,5,17,34,42],[10,11,12,14,15,16,45,75,76,77],[3,4,5]⟩ Tryz.func5 h
theorem XH (h:Ml R w0 (aR w0)):Calls pg 7 #[] w0 R:=cv ⟨4,[],[],[0],[],[]⟩ Tryz.func7 h
theorem SA (h:Hr R w0 (aR w0) p0):Calls pg 9 #[p0] w0 R:=cv ⟨57,[(5,(pg.cellsOf 75)),(6,(pg.cellsOf 124))],[18,28,34,38,40],[0,2,3,7,10,11,12,13,14,23,26,32,45,56],[51,52,53,54,55],[3,13]⟩ Tryz.func9 h
theorem Sy (h:Hp R w0 (aR w0) p0):Calls pg 10 #[p0] w0 R:=cv ⟨5,[],[],[0,2],[],[]⟩ Tryz.func10 h
theorem SK {R:Ending→World→Prop} {w0:World} {p0:Value} {p1:Nat} (h:HC R w0 (aR w0) p0 p1):Calls pg 11 #[p0,(.float .f64 p1)] w0 R:=
 aM (pl:=SM) Tryz.func11 (by kernel_rfl) (by kernel_rfl) h
theorem XI {R:Ending→World→Prop} {w0:World} {p0:ByteArray} (h:Mm R w0 (aR w0) p0):Calls pg 12 #[(.string p0)] w0 R:=
 aM (pl:=Xw) Tryz.func12 (by kernel_rfl) (by kernel_rfl) h
theorem Gt (h:xM R w0 (aR w0) p0):Calls pg 14 #[p0] w0 R:=cv ⟨13,[],[],[0,2,6],[],[]⟩ Tryz.func14 h
theorem Nn (h:Cu R w0 (aR w0)):Calls pg 15 #[] w0 R:=cv ⟨4,[],[],[0],[],[]⟩ Tryz.func15 h
theorem Jr (h:zW R w0 (aR w0) p0):Calls pg 17 #[p0] w0 R:=cv ⟨11,[],[],[0,2,6],[],[]⟩ Tryz.func17 h
end
end Go.Proofs.YtbpnemeooenpmaaGreat
