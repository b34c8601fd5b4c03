/-
 Part 6 of the proof: what the last text leans on.
-/
import Derived.Test.YtbpnemeooenpmaaGreatProg
import Derived.KernelRfl
import Derived.Test.YtbpnemeooenpmaaGreatH5
open Go.Value renaming cells → aa, agg → ai, tuple → aq, int → aA
open Array renaming toList → ad
open List renaming all → ao, length → aj, toArray → aO
open Go.Op renaming unary → aY
open Go.UnOp renaming not → br, xor → yi
open Go.IntKind renaming u64 → bh, u32 → fW, u8 → ei
open Go.Instr renaming extract → aD, box → dN, lookup → dc, makeFunc → cp, mapUpdate → aP
open Go.Fn renaming func → e7
set_option linter.unusedVariables false
set_option linter.unusedSimpArgs false
namespace Go.Proofs.YtbpnemeooenpmaaGreat
open Go.Proofs.Tryz renaming prog → pg
open Go.aR
set_option maxRecDepth 100000
section
variable (R : Ending → World → Prop) (w0 : World) (X0 : XS)
def vz (p0 p1 p2:Value):Prop:=
 aC pg X0 w0 (aF p1) fun a=>
 ae pg X0 w0 (ld1 97 a) fun b=>
 ae pg X0 w0 (cB 97 3 b) fun c=>
 ((jn (fun (d:Value) (e:World) (g:XS)=>
 (gG g e (I 0) 39 fun h i j k l=>
 ae pg l k (binOp .lss 3 j d) fun m=>
 (ay m
 ((((jn (fun (n:World) (o:XS)=>
 aC pg o n (aF p1) fun q=>
 ae pg o n (ld1 97 q) fun r=>
 ae pg o n (dr 97 4 r j) fun s=>
 eF pg R o n true p2 #[s] fun _ t v=>
 ((ae pg v t (binOp .add 3 j (I 1)) fun y=>
 gz h i y t v))) fun z=>
 aC pg l k (aF p0) fun A=>
 ae pg l k (aS 190 0 0 1 A) fun C=>
 ae pg l k (ld1 188 C) fun D=>
 ae pg l k (aE .eql 188 (.tmp 45) (.const (.pointer none)) D (.pointer none)) fun E=>
 (ay E
 ((aC pg l k (aF p1) fun F=>
 ae pg l k (ld1 97 F) fun G=>
 eV pg R l k false (fC 97 247 4 1 #[(0,(.agg #[(.string { data:= #[] }),(I 0),(.float .f64 0),(.string { data:= #[] })]))]) fun H L M=>
 eV pg R M L true (e6 97 247 4 48 97 G H) fun N O Q=>
 aC pg Q O (aF p1) fun S=>
 eU pg R Q O true (st1 97 1 S N) fun _ T U=>
 (z T U)))
 (z k l))))))
 (fin R l k (aq #[]))))) fun V=>
 aC pg X0 w0 (aF p0) fun Y=>
 ae pg X0 w0 (aS 190 0 0 1 Y) fun Z=>
 ae pg X0 w0 (ld1 188 Z) fun a0=>
 ae pg X0 w0 (aE .neq 188 (.tmp 16) (.const (.pointer none)) a0 (.pointer none)) fun b0=>
 (ay b0
 (aC pg X0 w0 (aF p0) fun c0=>
 ae pg X0 w0 (aS 190 0 0 1 c0) fun d0=>
 ae pg X0 w0 (ld1 188 d0) fun e0=>
 eC pg R X0 w0 true 190 #[e0,c] fun _ g0 h0=>
 (V c g0 h0))
 (aC pg X0 w0 (aF p0) fun i0=>
 ae pg X0 w0 (aS 190 1 1 1 i0) fun j0=>
 ae pg X0 w0 (ld1 184 j0) fun k0=>
 aC pg X0 w0 (aF p0) fun l0=>
 ae pg X0 w0 (aS 190 1 1 1 l0) fun m0=>
 ae pg X0 w0 (ld1 184 m0) fun n0=>
 eC pg R X0 w0 false 200 #[n0] fun o0 q0 r0=>
 eC pg R r0 q0 true 199 #[k0,o0] fun s0 t0 v0=>
 (eC pg R v0 t0 true 192 #[p0] fun _ y0 z0=>
 (aC pg z0 y0 (aF p1) fun A0=>
 eU pg R z0 y0 true (st1 97 1 A0 (.slice none 0 0)) fun _ C0 D0=>
 (V s0 C0 D0)))))))
def yR (p0 p1:Value):Prop:=
 aC pg X0 w0 (aF p1) fun a=>
 ae pg X0 w0 (aS 247 0 0 1 a) fun b=>
 eC pg R X0 w0 true 198 #[p0,b] fun _ c d=>
 (aC pg d c (aF p1) fun e=>
 ae pg d c (aS 247 1 1 3 e) fun g=>
 eC pg R d c true 205 #[p0,g] fun _ h i=>
 fin R i h (aq #[]))
noncomputable def XK:bp:=⟨22,[(1,(pg.cellsOf 99)),(3,(pg.cellsOf 99))],[],[0,2,4,10,13],[17,18,19,20],[]⟩
def Mx (aX bo bu bO bZ cr cq cz dh cY:Int) (bP:Bool) (bN:Int) (da:Nat) (cP cN cO cQ:Value) (cT cE:Int) (cA cG:Nat) (cH cC cM cD cI cJ:Int) (cK cL:Value):Prop:=
 (eC pg R X0 w0 true 206 #[(.agg #[(I aX),(I bo),(I bu),(I bO),(I bZ),(I cr),(I cq),(I cz),(I dh),(I cY),(B bP),(I bN),(.float .f64 da),cP,cN,cO,cQ,(I cT),(I cE),(.float .f64 cA),(.float .f64 cG),(I cH),(I cC),(I cM),(I cD),(I cI),(I cJ),cK,cL])] fun a b c=>
 ae pg c b (aD a 0) fun d=>
 ae pg c b (aD a 1) fun e=>
 un (ai (aa d)) fun g=>
 aB (aj (ad (aa d))==29) (aB (ao (ad (aa d)) aR.one) ((ae pg c b (aY br e) fun h=>
 (ay h
 (fin R c b (I 7))
 (aB (bH g) (un (cj g 0 29) fun i=>
 eC pg R c b true 207 #[i] fun j k l=>
 ae pg l k (aY br j) fun m=>
 un (aU m false (.agg #[(I aX),(I bo),(I bu),(I bO),(I bZ),(I cr),(I cq),(I cz),(I dh),(I cY),(B bP),(I bN),(.float .f64 da),cP,cN,cO,cQ,(I cT),(I cE),(.float .f64 cA),(.float .f64 cG),(I cH),(I cC),(I cM),(I cD),(I cI),(I cJ),cK,cL])) fun n=>
 jn (fun (o:Value) (q:World) (r:XS)=>
 aJ pg r q m false (vS (aY br o)) fun s=>
 aC pg r q (aQ m (B true) s) fun t=>
 (ay t
 (fin R r q (I 4))
 (fin R r q (I 0)))) fun v=>
 (gE m false (eC pg R l k true 208 #[n] v) (v undef k l)))))))))
def A9:Prop:=
 (ae pg X0 w0 (dw 350 #[(.slice none 0 0)] #[]) fun a=>
 eV pg R X0 w0 true (dN 350 a) fun b c d=>
 (fin R d c b))
def yj (p0:Value):Prop:=
 (eV pg R X0 w0 true (fC 94 5 1 0 #[]) fun a b c=>
 aC pg c b (aF p0) fun d=>
 ae pg c b (aS 350 0 0 1 d) fun e=>
 ae pg c b (ld1 94 e) fun g=>
 eV pg R c b true (e6 94 5 1 1 94 a g) fun h i j=>
 (fin R j i h))
def rW (p0:Value):Prop:=
 (ae pg X0 w0 (aE .eql 34 (.tmp 3) (.const (.slice none 0 0)) p0 (.slice none 0 0)) fun a=>
 (ay a
 (fin R X0 w0 (.slice none 0 0))
 (eV pg R X0 w0 true (fC 34 3 1 0 #[]) fun b c d=>
 eV pg R d c true (e6 34 3 1 8 34 b p0) fun e g h=>
 (fin R h g e))))
def Fi (p0:Value):Prop:=
 (ae pg X0 w0 (cB 94 3 p0) fun a=>
 ae pg X0 w0 (binOp .gtr 3 a (I 262144)) fun b=>
 (ay b
 ((fin R X0 w0 (aq #[(.slice none 0 0),(I 2)])))
 ((ae pg X0 w0 (cB 94 3 p0) fun c=>
 ae pg X0 w0 (binOp .add 3 c (I 12)) fun d=>
 eV pg R X0 w0 true (Instr.makeSlice 94 (I 0) d) fun e g h=>
 ae pg h g (cB 94 3 p0) fun i=>
 ae pg h g (lR fW 3 326 i) fun j=>
 eC pg R h g true 209 #[e,j] fun k l m=>
 (eC pg R m l true 184 #[k] fun n o q=>
 eC pg R q o true 209 #[k,n] fun r s t=>
 (eV pg R t s true (e6 94 5 1 1 94 r p0) fun v y z=>
 (eC pg R z y true 184 #[p0] fun A C D=>
 eC pg R D C true 209 #[v,A] fun E F G=>
 (fin R G F (aq #[E,(I 0)])))))))))
noncomputable def Ig:bp:=⟨53,[],[],[0,1,2,6,7,8,15,20,23,52],[],[]⟩
def yS (p0:Value) (p1:ByteArray) (p2:Value):Prop:=
 (aC pg X0 w0 (aF p0) fun a=>
 ae pg X0 w0 (aS 109 0 0 1 a) fun b=>
 ae pg X0 w0 (ld1 107 b) fun c=>
 ae pg X0 w0 (dc 107 c (.string p1) false) fun d=>
 (aC pg X0 w0 (aF p0) fun e=>
 ae pg X0 w0 (aS 109 4 4 1 e) fun g=>
 ae pg X0 w0 (ld1 4 g) fun h=>
 (ay h
 (fin R X0 w0 (I 12))
 (ae pg X0 w0 (aE .eql 253 (.tmp 21) (.const (.pointer none)) d (.pointer none)) fun i=>
 (ay i
 (fin R X0 w0 (I 8))
 (ae pg X0 w0 (cB 94 3 p2) fun j=>
 aC pg X0 w0 (aF p0) fun k=>
 ae pg X0 w0 (aS 109 1 1 1 k) fun l=>
 ae pg X0 w0 (ld1 3 l) fun m=>
 ae pg X0 w0 (binOp .sub 3 (I 4194304) m) fun n=>
 ae pg X0 w0 (binOp .gtr 3 j n) fun o=>
 (ay o
 (fin R X0 w0 (I 11))
 (((eC pg R X0 w0 true 210 #[p0] fun q r s=>
 (aC pg s r (aF d) fun t=>
 ae pg s r (aS 325 0 0 1 t) fun v=>
 ae pg s r (ld1 94 v) fun y=>
 eV pg R s r true (e6 94 5 1 1 94 y p2) fun z A C=>
 aC pg C A (aF d) fun D=>
 ae pg C A (aS 325 0 0 1 D) fun E=>
 eU pg R C A true (st1 94 1 E z) fun _ F G=>
 (aC pg G F (aF p0) fun H=>
 ae pg G F (aS 109 1 1 1 H) fun L=>
 ae pg G F (ld1 3 L) fun M=>
 ae pg G F (cB 94 3 p2) fun N=>
 ae pg G F (binOp .add 3 M N) fun O=>
 aC pg G F (aF p0) fun Q=>
 ae pg G F (aS 109 1 1 1 Q) fun S=>
 eU pg R G F true (st1 3 1 S O) fun _ T U=>
 ((ay q
 (fin R U T (I 12))
 (fin R U T (I 0))))))))))))))))
noncomputable def Ls:bp:=⟨11,[],[],[0,1,2,3,4],[],[]⟩
def Ba (p0:Value) (p1:ByteArray):Prop:=
 eV pg R X0 w0 true (dN 51 p0) fun a b c=>
 eV pg R c b true (dN 9 (.string p1)) fun d e g=>
 (ae pg g e (ld1 51 a) fun h=>
 ae pg g e (ld1 51 a) fun i=>
 ae pg g e (ld1 9 d) fun j=>
 ae pg g e (cp (e7 211) #[] #[a,d]) fun k=>
 eC pg R g e false 188 #[i,j] fun l m n=>
 eC pg R n m true 186 #[h,l,k] fun o q r=>
 (fin R r q o))
noncomputable def Lt:bp:=⟨35,[(4,(pg.cellsOf 30)),(6,(pg.cellsOf 30))],[13,16,23,27,28,30],[0,1,5,17,21,29],[],[]⟩
def AJ (p0:Value) (p1:Int):Prop:=
 (ae pg X0 w0 (Builtin.max_ #[3,3] 3 #[(I p1),(I 0)]) fun a=>
 (aC pg X0 w0 (aF p0) fun b=>
 ae pg X0 w0 (aS 206 0 0 3 b) fun c=>
 ae pg X0 w0 (dY 30 3 c) fun d=>
 un (ai (aa d)) fun e=>
 aB (aj (ad (aa d))==3) (aB (ao (ad (aa d)) aR.one) (((jn (fun (g:Value)=>
 (aB (bH g) (un (cj g 0 3) fun h=>
 un (ai (aa h)) fun i=>
 aB (aj (ad (aa h))==3) (aB (ao (ad (aa h)) aR.one) ((un (cj i 0 3) fun j=>
 aB (ao [i] bH) (fin R X0 w0 (aq #[j,(I 0)])))))))) fun k=>
 ae pg X0 w0 (binOp .gtr 3 a (I 281474976710656)) fun l=>
 (ay l
 (ae pg X0 w0 (dw 30 #[(I 0),(I 0),(I 0)] #[]) fun m=>
 un (ai (aa m)) fun n=>
 aB (aj (ad (aa m))==3) (aB (ao (ad (aa m)) aR.one) ((un (cj n 0 3) fun o=>
 aB (ao [n] bH) (fin R X0 w0 (aq #[o,(I 15)]))))))
 (aB (bH e) (un (cellOf e 0) fun q=>
 ae pg X0 w0 (binOp .gtr 3 a q) fun r=>
 (ay r
 (aB (bH e) (un (ai (aO (cV (ad (aa e)) 0 [a]))) fun s=>
 aB (aR.one a) (un (ai (aO (cV (ad (aa s)) 1 [(I 0)]))) fun t=>
 (k t))))
 (aB (bH e) (un (cellOf e 1) fun v=>
 ae pg X0 w0 (binOp .geq 3 v (I 65535)) fun y=>
 (ay y
 (ae pg X0 w0 (dw 30 #[(I 0),(I 0),(I 0)] #[]) fun z=>
 un (ai (aa z)) fun A=>
 aB (aj (ad (aa z))==3) (aB (ao (ad (aa z)) aR.one) ((un (cj A 0 3) fun C=>
 aB (ao [A] bH) (fin R X0 w0 (aq #[C,(I 16)]))))))
 (aB (bH e) (ae pg X0 w0 (binOp .add 3 v (I 1)) fun D=>
 un (ai (aO (cV (ad (aa e)) 1 [D]))) fun E=>
 aB (aR.one D) (k E))))))))))))))))
noncomputable def NC:bp:=⟨37,[(4,(pg.cellsOf 38)),(8,(pg.cellsOf 38))],[],[0,1,5,6,7,9,12,17,34],[30,31,32,33],[4,7]⟩
def B5 (p0:Value) (p1:ByteArray):Prop:=
 (eC pg R X0 w0 true 95 #[(.string p1)] fun a b c=>
 ae pg c b (aY br a) fun d=>
 (ay d
 (ae pg c b (dw 38 #[(I 0),(I 0),(.float .f64 0),(.float .f64 0)] #[]) fun e=>
 un (ai (aa e)) fun g=>
 aB (aj (ad (aa e))==4) (aB (ao (ad (aa e)) aR.one) ((un (cj g 0 4) fun h=>
 aB (ao [g] bH) (fin R c b (aq #[h,(B false)]))))))
 ((eC pg R c b true 12 #[(.string p1)] fun i j k=>
 ((gS k j (I 12) (.agg #[(I 0),(I 0),(.float .f64 0),(.float .f64 0)]) 7 4 fun l m n o q r=>
 ae pg r q (binOp .geq 3 n (I 1)) fun s=>
 (ay s
 ((aC pg r q (aF p0) fun t=>
 ae pg r q (aS 164 0 0 1 t) fun v=>
 ae pg r q (ld1 162 v) fun y=>
 ae pg r q (dc 162 y n true) fun z=>
 ae pg r q (aD z 0) fun A=>
 ae pg r q (aD z 1) fun C=>
 un (ai (aa A)) fun D=>
 aB (aj (ad (aa A))==4) (aB (ao (ad (aa A)) aR.one) ((aB (bH D) (un (cj D 0 4) fun E=>
 un (aU C true E) fun F=>
 un (aU C true i) fun G=>
 jn (fun (H:Value) (L:World) (M:XS)=>
 aC pg M L (aQ C H (B false)) fun N=>
 (ay N
 (aB (bH D) (aB (bH o) (un (ai (aa E)) fun O=>
 aB (aj (ad (aa E))==4) (aB (ao (ad (aa E)) aR.one) ((un (cj O 0 4) fun Q=>
 aB (ao [O] bH) (fin R M L (aq #[Q,(B true)]))))))))
 (((ae pg M L (binOp .sub 3 n (I 1)) fun S=>
 gP l m S o L M))))) fun T=>
 (gE C true (eC pg R r q true 42 #[F,G] T) (T undef q r))))))))
 (((ae pg r q (dw 38 #[(I 0),(I 0),(.float .f64 0),(.float .f64 0)] #[]) fun U=>
 aB (bH o) (un (ai (aa U)) fun V=>
 aB (aj (ad (aa U))==4) (aB (ao (ad (aa U)) aR.one) ((un (cj V 0 4) fun Y=>
 aB (ao [V] bH) (fin R r q (aq #[Y,(B false)]))))))))))))))))
def jL (p0:Value):Prop:=
 eV pg R X0 w0 true (dN 290 p0) fun a b c=>
 (ae pg c b (cp (e7 214) #[] #[a]) fun d=>
 (fin R c b d))
def oA (p0:Value):Prop:=
 (ae pg X0 w0 (aE .eql 31 (.tmp 3) (.const (.slice none 0 0)) p0 (.slice none 0 0)) fun a=>
 (ay a
 (fin R X0 w0 (.slice none 0 0))
 (eV pg R X0 w0 true (fC 31 9 1 0 #[]) fun b c d=>
 eV pg R d c true (e6 31 9 1 16 31 b p0) fun e g h=>
 (fin R h g e))))
def mB (p0:Value):Prop:=
 (ae pg X0 w0 (aE .eql 32 (.tmp 3) (.const (.slice none 0 0)) p0 (.slice none 0 0)) fun a=>
 (ay a
 (fin R X0 w0 (.slice none 0 0))
 (eV pg R X0 w0 true (fC 32 215 7 0 #[]) fun b c d=>
 eV pg R d c true (e6 32 215 7 72 32 b p0) fun e g h=>
 (fin R h g e))))
def l7 (p0:Value):Prop:=
 (ae pg X0 w0 (aE .eql 33 (.tmp 3) (.const (.slice none 0 0)) p0 (.slice none 0 0)) fun a=>
 (ay a
 (fin R X0 w0 (.slice none 0 0))
 (eV pg R X0 w0 true (fC 33 64 4 0 #[]) fun b c d=>
 eV pg R d c true (e6 33 64 4 48 33 b p0) fun e g h=>
 (fin R h g e))))
def lJ (p0 p1:Value):Prop:=
 ae pg X0 w0 (cB 32 3 p0) fun a=>
 (ae pg X0 w0 (lR bh 3 132 a) fun b=>
 eC pg R X0 w0 true 162 #[b] fun c d e=>
 eC pg R e d true 215 #[p0,(I 0),a,c,p1] fun _ g h=>
 fin R h g (aq #[]))
noncomputable def wx:bp:=⟨19,[],[],[0,1,4,5,7,8,9,16],[],[8]⟩
def oB (p0:Value) (p1:ByteArray):Prop:=
 (ae pg X0 w0 (cB 31 3 p0) fun a=>
 (gG X0 w0 (I 0) 8 fun b c d e g=>
 ae pg g e (binOp .lss 3 d a) fun h=>
 (ay h
 (((ae pg g e (dr 31 1 p0 d) fun i=>
 ae pg g e (ld1 9 i) fun j=>
 ae pg g e (aE .eql 9 (.tmp 11) (.tmp 15) (.string p1) j) fun k=>
 (ay k
 (fin R g e d)
 (((ae pg g e (binOp .add 3 d (I 1)) fun l=>
 gz b c l e g)))))))
 ((((fin R g e (I (-1)))))))))
noncomputable def XM:bp:=⟨6,[],[],[0,2],[],[]⟩
def My (p0:Nat):Prop:=
 (eC pg R X0 w0 true 227 #[(.float .f64 p0)] fun a b c=>
 eC pg R c b true 97 #[a] fun d e g=>
 (fin R g e d))
noncomputable def VZ:bp:=⟨36,[],[],[0,2,3,4,5,6,14,21,24,27,32],[17,18,19],[]⟩
def Kd (p0:Nat):Prop:=
 (eC pg R X0 w0 true 164 #[(.float .f64 p0)] fun a b c=>
 (ae pg c b (binOp .shr 130 a (aA bh 52)) fun d=>
 ae pg c b (binOp .and 130 d (aA bh 2047)) fun e=>
 ae pg c b (binOp .and 130 a (aA bh 4503599627370495)) fun g=>
 (((jn (fun (h:Value)=>
 (ae pg c b (binOp .and 130 a (aA bh 9223372036854775808)) fun i=>
 ae pg c b (aE .neq 130 (.tmp 31) (.const (aA bh 0)) i (aA bh 0)) fun j=>
 (ay j
 (ae pg c b (binOp .sub 3 (I 9) h) fun k=>
 (fin R c b k))
 (fin R c b h)))) fun l=>
 ae pg c b (aE .eql 130 (.tmp 15) (.const (aA bh 2047)) e (aA bh 2047)) fun m=>
 un (aU m true g) fun n=>
 aJ pg c b m true (vS (aE .neq 130 (.tmp 18) (.const (aA bh 0)) n (aA bh 0))) fun o=>
 aC pg c b (aQ m o (B false)) fun q=>
 (ay q
 (fin R c b (I 0))
 (ae pg c b (aE .eql 130 (.tmp 22) (.const (aA bh 2047)) e (aA bh 2047)) fun r=>
 (ay r
 (l (I 8))
 (ae pg c b (binOp .gtr 130 e (aA bh 0)) fun s=>
 (ay s
 (l (I 7))
 (ae pg c b (binOp .gtr 130 g (aA bh 0)) fun t=>
 (ay t
 (l (I 6))
 (l (I 5))))))))))))))
noncomputable def SY:bp:=⟨6,[(2,(pg.cellsOf 62))],[],[0,3],[],[]⟩
def Hu (p0:Bool):Prop:=
 ((ay (B p0)
 (eC pg R X0 w0 true 228 #[(.float .f64 4607182418800017408)] fun a b c=>
 un (ai (aa a)) fun d=>
 aB (aj (ad (aa a))==3) (aB (ao (ad (aa a)) aR.one) (un (cj d 0 3) fun e=>
 aB (ao [d] bH) (fin R c b e))))
 ((eC pg R X0 w0 true 228 #[(.float .f64 0)] fun g h i=>
 un (ai (aa g)) fun j=>
 aB (aj (ad (aa g))==3) (aB (ao (ad (aa g)) aR.one) (un (cj j 0 3) fun k=>
 aB (ao [j] bH) (fin R i h k)))))))
noncomputable def ND:bp:=⟨46,[(2,(pg.cellsOf 62)),(3,(pg.cellsOf 62))],[14,16,20,22,26,29,31,35,37,41,43],[0,1,4,12,13,19,25,34,40],[8,9,10,11],[]⟩
def Cd (aX:Int) (bo:Nat) (bu:ByteArray) (dx:Int) (bY:Nat) (dP:ByteArray):Prop:=
 (eC pg R X0 w0 true 96 #[(.agg #[(I aX),(.float .f64 bo),(.string bu)])] fun a b c=>
 ae pg c b (aY br a) fun d=>
 un (aU d false (.agg #[(I dx),(.float .f64 bY),(.string dP)])) fun e=>
 jn (fun (g:Value) (h:World) (i:XS)=>
 aJ pg i h d false (vS (aY br g)) fun j=>
 aC pg i h (aQ d (B true) j) fun k=>
 (ay k
 (fin R i h (I 0))
 ((ae pg i h (binOp .lss 3 (I aX) (I dx)) fun l=>
 (ay l
 ((fin R i h (I (-1))))
 (ae pg i h (binOp .gtr 3 (I aX) (I dx)) fun m=>
 (ay m
 (fin R i h (I 1))
 (ae pg i h (aE .eql 3 (.tmp 27) (.const (I 1)) (I aX) (I 1)) fun n=>
 (ay n
 (eC pg R i h true 229 #[(.float .f64 bo),(.float .f64 bY)] fun o q r=>
 (fin R r q o))
 (ae pg i h (binOp .lss 9 (.string bu) (.string dP)) fun s=>
 (ay s
 ((fin R i h (I (-1))))
 (ae pg i h (binOp .gtr 9 (.string bu) (.string dP)) fun t=>
 (ay t
 (fin R i h (I 1))
 (fin R i h (I 0))))))))))))))) fun v=>
 (gE d false (eC pg R c b true 96 #[e] v) (v undef b c)))
noncomputable def QD:bp:=⟨54,[(4,(pg.cellsOf 62)),(5,(pg.cellsOf 62)),(6,(pg.cellsOf 62))],[9,13,19,21],[0,1,2,7,8,16,23,27,32,37,42,47],[12,14,15],[]⟩
def ES (p0 dx:Int) (bY:Nat) (_p1_2:ByteArray) (gR:Int) (gM:Nat) (_p2_2:ByteArray):Prop:=
 ((jn (fun (a:World) (b:XS)=>
 (((jn (fun (c:Value) (d:World) (e:XS)=>
 (eC pg R e d true 228 #[c] fun g h i=>
 un (ai (aa g)) fun j=>
 aB (aj (ad (aa g))==3) (aB (ao (ad (aa g)) aR.one) (un (cj j 0 3) fun k=>
 aB (ao [j] bH) (fin R i h k))))) fun l=>
 ae pg b a (aE .eql 3 (.tmp 23) (.const (I 5)) (I p0) (I 5)) fun m=>
 (ay m
 (eC pg R b a true 230 #[(.float .f64 bY),(.float .f64 gM)] fun n o q=>
 (l n o q))
 (ae pg b a (aE .eql 3 (.tmp 23) (.const (I 6)) (I p0) (I 6)) fun r=>
 (ay r
 (eC pg R b a true 231 #[(.float .f64 bY),(.float .f64 gM)] fun s t v=>
 (l s t v))
 (ae pg b a (aE .eql 3 (.tmp 23) (.const (I 7)) (I p0) (I 7)) fun y=>
 (ay y
 (eC pg R b a true 232 #[(.float .f64 bY),(.float .f64 gM)] fun z A C=>
 (l z A C))
 (ae pg b a (aE .eql 3 (.tmp 23) (.const (I 8)) (I p0) (I 8)) fun D=>
 (ay D
 (eC pg R b a true 233 #[(.float .f64 bY),(.float .f64 gM)] fun E F G=>
 (l E F G))
 (ae pg b a (aE .eql 3 (.tmp 23) (.const (I 9)) (I p0) (I 9)) fun H=>
 (ay H
 (eC pg R b a true 234 #[(.float .f64 bY),(.float .f64 gM)] fun L M N=>
 (l L M N))
 (eC pg R b a true 235 #[(.float .f64 bY),(.float .f64 gM)] fun O Q S=>
 (l O Q S))))))))))))))) fun T=>
 ae pg X0 w0 (aE .eql 3 (.tmp 10) (.const (I 2)) (I dx) (I 2)) fun U=>
 un (aU U false (I gR)) fun V=>
 aJ pg X0 w0 U false (vS (aE .eql 3 (.tmp 14) (.const (I 2)) V (I 2))) fun Y=>
 aC pg X0 w0 (aQ U (B true) Y) fun Z=>
 (ay Z
 (ae pg X0 w0 (dw 137 #[(I 23)] #[(0,(I 23))]) fun a0=>
 ae pg X0 w0 (Instr.makeInterface 137 a0) fun b0=>
 eV pg R X0 w0 true (Instr.panic b0) fun _ c0 d0=>
 (T c0 d0))
 (T w0 X0))))
noncomputable def wy:bp:=⟨148,[],[],[0,1,2,3,4,10,11,12,13,14,15,16,17,18,19,20,25,32,39,56,75,80,97,125],[69,70,72,73,74,83,84,85,86,87,88,89,90,91,92,93,94,95,96],[1,2,3,10,11]⟩
def ot (p0:Value) (p1 p2 p3:Int) (p4:Value):Prop:=
 ((sQ X0 w0 (I p2) (B true) (B true) (I p1) (I p3) 2 10 11 1 3 fun a b c d e g h i j=>
 (jn (fun (k l m n o:Value) (q:World) (r:XS)=>
 sR a b l n o k m q r) fun s=>
 ae pg j i (binOp .sub 3 c g) fun t=>
 (ae pg j i (binOp .leq 3 t (I 12)) fun v=>
 (ay v
 (eC pg R j i true 236 #[p0,g,c,p4] fun _ y z=>
 (fin R z y (aq #[])))
 ((ae pg j i (aE .eql 3 (.tmp 31) (.const (I 0)) h (I 0)) fun A=>
 (ay A
 (eC pg R j i true 237 #[p0,g,c,p4] fun _ C D=>
 (fin R D C (aq #[])))
 (((jn (fun (E:Value) (F:World) (G:XS)=>
 eC pg R G F true 239 #[p0,g,c,p4] fun H L M=>
 ae pg M L (aD H 0) fun N=>
 ae pg M L (aD H 1) fun O=>
 ((jn (fun (Q S:Value) (T:World) (U:XS)=>
 (jn (fun (V:World) (Y:XS)=>
 ae pg Y V (binOp .gtr 3 g (I 0)) fun Z=>
 un (aU Z true p4) fun a0=>
 un (aU Z true p0) fun b0=>
 un (aU Z true g) fun c0=>
 aJ pg Y V Z true (vS (binOp .sub 3 c0 (I 1))) fun d0=>
 aJ pg Y V Z true (vS (dr 70 3 b0 d0)) fun e0=>
 aJ pg Y V Z true (vS (dY 27 3 e0)) fun g0=>
 un (aU Z true Q) fun h0=>
 aJ pg Y V Z true (vS (dr 70 3 b0 h0)) fun i0=>
 aJ pg Y V Z true (vS (dY 27 3 i0)) fun j0=>
 jn (fun (k0:Value) (l0:World) (m0:XS)=>
 aJ pg m0 l0 Z true (vS (binOp .lss 3 k0 (I 0))) fun n0=>
 aJ pg m0 l0 Z true (vS (aY br n0)) fun o0=>
 aC pg m0 l0 (aQ Z o0 (B false)) fun q0=>
 (ay q0
 (eC pg R m0 l0 true 242 #[p0,g,c,Q,p4] fun r0 s0 t0=>
 (s r0 c E d e s0 t0))
 ((eC pg R m0 l0 true 243 #[p0,g,c,Q,p4] fun v0 y0 z0=>
 ae pg z0 y0 (aD v0 0) fun A0=>
 ae pg z0 y0 (aD v0 1) fun C0=>
 ((ae pg z0 y0 (binOp .sub 3 A0 g) fun D0=>
 ae pg z0 y0 (binOp .sub 3 c A0) fun E0=>
 (ae pg z0 y0 (binOp .quo 3 t (I 8)) fun F0=>
 (ae pg z0 y0 (binOp .lss 3 D0 E0) fun G0=>
 (ay G0
 (ae pg z0 y0 (binOp .geq 3 D0 F0) fun H0=>
 (eC pg R z0 y0 true 172 #[p0,g,A0,E,p4] fun _ L0 M0=>
 (ae pg M0 L0 (binOp .add 3 A0 (I 1)) fun N0=>
 (s N0 c E H0 C0 L0 M0))))
 (ae pg z0 y0 (binOp .geq 3 E0 F0) fun O0=>
 (ae pg z0 y0 (binOp .add 3 A0 (I 1)) fun Q0=>
 eC pg R z0 y0 true 172 #[p0,Q0,c,E,p4] fun _ S0 T0=>
 (s g A0 E O0 C0 S0 T0)))))))))))) fun U0=>
 (gE Z true (eF pg R Y V true a0 #[g0,j0] U0) (U0 undef V Y))) fun V0=>
 un (aU d true e) fun Y0=>
 aC pg U T (aQ d Y0 (B false)) fun Z0=>
 un (aU Z0 true S) fun a1=>
 aJ pg U T Z0 true (vS (aE .eql 355 (.tmp 73) (.const (I 1)) a1 (I 1))) fun b1=>
 aC pg U T (aQ Z0 b1 (B false)) fun c1=>
 (ay c1
 (eC pg R U T true 241 #[p0,g,c,p4] fun d1 e1 g1=>
 (ay d1
 (fin R g1 e1 (aq #[]))
 (V0 e1 g1)))
 (V0 T U)))) fun h1=>
 ae pg M L (aE .eql 355 (.tmp 55) (.const (I 2)) O (I 2)) fun i1=>
 (ay i1
 (eC pg R M L true 240 #[p0,g,c,p4] fun _ j1 k1=>
 (ae pg k1 j1 (binOp .sub 3 c (I 1)) fun l1=>
 ae pg k1 j1 (binOp .sub 3 N g) fun m1=>
 ae pg k1 j1 (binOp .sub 3 l1 m1) fun n1=>
 (h1 n1 (I 1) j1 k1)))
 (h1 N O L M))))) fun o1=>
 ae pg j i (aY br d) fun q1=>
 (ay q1
 (eC pg R j i true 238 #[p0,g,c,p4] fun _ r1 s1=>
 (ae pg s1 r1 (binOp .sub 3 h (I 1)) fun t1=>
 (o1 t1 r1 s1)))
 (o1 h i j)))))))))))))
noncomputable def QE:bp:=⟨9,[],[],[0,2],[5,6,7],[]⟩
def Fj (p0:Int):Prop:=
 (ae pg X0 w0 (binOp .geq 3 (I p0) (I 1)) fun a=>
 un (aU a true (I p0)) fun b=>
 aJ pg X0 w0 a true (vS (binOp .leq 3 b (I 12))) fun c=>
 aC pg X0 w0 (aQ a c (B false)) fun d=>
 (fin R X0 w0 d))
noncomputable def SZ:bp:=⟨131,[(1,(pg.cellsOf 44))],[4,9,14,18,22,27,32,39,41,45,50,55,60,64,72,76,81,86,91,96,98,104,106,110,116,118,122,127],[0,2,3,13,15,16,37,70,102,114,117],[8,10,11,12,21,23,24,26,28,29,31,33,34,35,44,46,47,48,54,56,57,59,61,62,63,65,66,67,68,75,77,78,80,82,83,85,87,88,90,92,93,95,97,99,100,109,111,112,121,123,124,125],[]⟩
def HJ (aX _p0_1 _p0_2 bO bZ cr cq cz dh cY bP bN _p0_12 _p0_13 _p0_14:Int) (cO:Bool) (_p0_16 _p0_17:Int) (cE cA cG cH cC _p0_23:Value) (_p0_24 _p0_25:Int) (_p0_26 _p0_27:Nat) (_p0_28 _p0_29 _p0_30 _p0_31 _p0_32 _p0_33:Int) (_p0_34 _p0_35:Value):Prop:=
 (eC pg R X0 w0 true 244 #[(.agg #[(I bO),(I bZ),(I cr)])] fun a b c=>
 ae pg c b (aY br a) fun d=>
 un (aU d false (I cq)) fun e=>
 jn (fun (g:Value) (h:World) (i:XS)=>
 aJ pg i h d false (vS (aY br g)) fun j=>
 aC pg i h (aQ d (B true) j) fun k=>
 (ay k
 (fin R i h (B false))
 (((ae pg i h (aE .eql 3 (.tmp 15) (.const (I 1)) (I aX) (I 1)) fun l=>
 (ay l
 (ae pg i h (binOp .geq 3 (I cz) (I 0)) fun m=>
 un (aU m true (.agg #[(I cY),(I bP),(I bN)])) fun n=>
 jn (fun (o:Value) (q:World) (r:XS)=>
 aC pg r q (aQ m o (B false)) fun s=>
 un (aU s true cE) fun t=>
 jn (fun (v:Value) (y:World) (z:XS)=>
 aC pg z y (aQ s v (B false)) fun A=>
 un (aU A true cE) fun C=>
 aJ pg z y A true (vS (cB 31 3 C)) fun D=>
 aJ pg z y A true (vS (binOp .gtr 3 D (I 0))) fun E=>
 aC pg z y (aQ A E (B false)) fun F=>
 (fin R z y F)) fun G=>
 (gE s true (eC pg R r q true 245 #[t] G) (G undef q r))) fun H=>
 (gE m true (eC pg R i h true 85 #[n] H) (H undef h i)))
 (ae pg i h (aE .eql 3 (.tmp 15) (.const (I 2)) (I aX) (I 2)) fun L=>
 (ay L
 (eC pg R i h false 247 #[cA] fun M N O=>
 un (aU M true cA) fun Q=>
 aJ pg O N M true (vS (cB 32 3 Q)) fun S=>
 aJ pg O N M true (vS (binOp .gtr 3 S (I 0))) fun T=>
 aC pg O N (aQ M T (B false)) fun U=>
 eC pg R O N true 246 #[(I dh),U,cC] fun V Y Z=>
 (un (aU V true (.agg #[(I cY),(I bP),(I bN)])) fun a0=>
 jn (fun (b0:Value) (c0:World) (d0:XS)=>
 aC pg d0 c0 (aQ V b0 (B false)) fun e0=>
 un (aU e0 true (I dh)) fun g0=>
 aJ pg d0 c0 e0 true (vS (aE .eql 28 (.tmp 61) (.const (I 0)) g0 (I 0))) fun h0=>
 un (aU e0 true h0) fun i0=>
 un (aU i0 false cA) fun j0=>
 aJ pg d0 c0 i0 false (vS (cB 32 3 j0)) fun k0=>
 aJ pg d0 c0 i0 false (vS (aE .eql 3 (.tmp 66) (.const (I 0)) k0 (I 0))) fun l0=>
 aJ pg d0 c0 e0 true (aQ i0 (B true) l0) fun m0=>
 aC pg d0 c0 (aQ e0 m0 (B false)) fun n0=>
 (fin R d0 c0 n0)) fun o0=>
 (gE V true (eC pg R Z Y true 85 #[a0] o0) (o0 undef Y Z))))
 (ae pg i h (aE .eql 3 (.tmp 15) (.const (I 3)) (I aX) (I 3)) fun q0=>
 (ay q0
 (ae pg i h (binOp .geq 3 (I cz) (I 0)) fun r0=>
 un (aU r0 true (.agg #[(I cY),(I bP),(I bN)])) fun s0=>
 jn (fun (t0:Value) (v0:World) (y0:XS)=>
 aC pg y0 v0 (aQ r0 t0 (B false)) fun z0=>
 un (aU z0 true cA) fun A0=>
 jn (fun (C0:Value) (D0:World) (E0:XS)=>
 aC pg E0 D0 (aQ z0 C0 (B false)) fun F0=>
 un (aU F0 true cG) fun G0=>
 jn (fun (H0:Value) (L0:World) (M0:XS)=>
 aC pg M0 L0 (aQ F0 H0 (B false)) fun N0=>
 un (aU N0 true cH) fun O0=>
 jn (fun (Q0:Value) (S0:World) (T0:XS)=>
 aC pg T0 S0 (aQ N0 Q0 (B false)) fun U0=>
 un (aU U0 true cH) fun V0=>
 un (aU U0 true (I cq)) fun Y0=>
 jn (fun (Z0:Value) (a1:World) (b1:XS)=>
 aC pg b1 a1 (aQ U0 Z0 (B false)) fun c1=>
 (fin R b1 a1 c1)) fun d1=>
 (gE U0 true (eC pg R T0 S0 true 250 #[V0,Y0] d1) (d1 undef S0 T0))) fun e1=>
 (gE N0 true (eC pg R M0 L0 true 249 #[O0] e1) (e1 undef L0 M0))) fun g1=>
 (gE F0 true (eC pg R E0 D0 true 248 #[G0] g1) (g1 undef D0 E0))) fun h1=>
 (gE z0 true (eC pg R y0 v0 true 247 #[A0] h1) (h1 undef v0 y0))) fun i1=>
 (gE r0 true (eC pg R i h true 85 #[s0] i1) (i1 undef h i)))
 (ae pg i h (aE .eql 3 (.tmp 15) (.const (I 4)) (I aX) (I 4)) fun j1=>
 (ay j1
 (eC pg R i h true 246 #[(I dh),(B true),cC] fun k1 l1 m1=>
 un (aU k1 true (.agg #[(I cY),(I bP),(I bN)])) fun n1=>
 jn (fun (o1:Value) (q1:World) (r1:XS)=>
 aC pg r1 q1 (aQ k1 o1 (B false)) fun s1=>
 (fin R r1 q1 s1)) fun t1=>
 (gE k1 true (eC pg R m1 l1 true 85 #[n1] t1) (t1 undef l1 m1)))
 (ae pg i h (aE .eql 3 (.tmp 15) (.const (I 5)) (I aX) (I 5)) fun v1=>
 (ay v1
 ((ay (B cO)
 (eC pg R i h true 85 #[(.agg #[(I cY),(I bP),(I bN)])] fun y1 z1 A1=>
 un (aU y1 true (.agg #[(I cY),(I bP),(I bN)])) fun C1=>
 aJ pg A1 z1 y1 true (vS (dw 30 #[(I 0),(I 0),(I 0)] #[])) fun D1=>
 aJ pg A1 z1 y1 true (vS (aE .neq 30 (.tmp 123) (.tmp 124) C1 D1)) fun E1=>
 aC pg A1 z1 (aQ y1 E1 (B false)) fun F1=>
 (fin R A1 z1 F1))
 ((ae pg i h (dw 30 #[(I 0),(I 0),(I 0)] #[]) fun G1=>
 ae pg i h (aE .eql 30 (.tmp 128) (.tmp 129) (.agg #[(I cY),(I bP),(I bN)]) G1) fun H1=>
 (fin R i h H1)))))
 (fin R i h (B true)))))))))))))))) fun L1=>
 (gE d false (eC pg R c b true 173 #[e] L1) (L1 undef b c)))
def HK (p0:Value):Prop:=
 (ae pg X0 w0 (cB 35 3 p0) fun a=>
 (gG X0 w0 (I 0) 9 fun b c d e g=>
 ae pg g e (binOp .lss 3 d a) fun h=>
 (ay h
 ((ae pg g e (dr 35 29 p0 d) fun i=>
 ae pg g e (dY 99 29 i) fun j=>
 un (ai (aa j)) fun k=>
 aB (aj (ad (aa j))==29) (aB (ao (ad (aa j)) aR.one) ((aB (bH k) (un (cj k 0 29) fun l=>
 eC pg R g e true 80 #[l] fun m n o=>
 ae pg o n (aD m 0) fun _=>
 ae pg o n (aD m 1) fun q=>
 (ae pg o n (aE .neq 28 (.tmp 18) (.const (I 0)) q (I 0)) fun r=>
 (ay r
 (fin R o n (B false))
 (((ae pg o n (binOp .add 3 d (I 1)) fun s=>
 gz b c s n o)))))))))))
 (((ae pg g e (cB 35 3 p0) fun t=>
 ae pg g e (binOp .leq 3 t (I 8)) fun v=>
 (fin R g e v)))))))
noncomputable def NF:bp:=⟨87,[(7,(pg.cellsOf 320)),(9,(pg.cellsOf 266)),(13,(pg.cellsOf 64))],[49,61,73,81],[0,1,2,4,5,11,29,39,42,43,44,45,52,55,56,57,58,62,63,64,65,71,74,75,76,77,84],[18,19,20,21,22,24,25,26,27,28],[44,57,64,76]⟩
def CE (aX bo:Int) (bu bO:Nat) (bZ cr cq cz dh cY:Int) (bP bN:Value):Prop:=
 eV pg R X0 w0 true (dN 42 (.agg #[(I aX),(I bo),(.float .f64 bu),(.float .f64 bO),(I bZ),(I cr),(I cq),(I cz),(I dh),(I cY),bP,bN])) fun a b c=>
 (ae pg c b (aS 42 0 0 4 a) fun d=>
 ae pg c b (dY 38 4 d) fun e=>
 eC pg R c b true 125 #[e] fun g h i=>
 ae pg i h (aY br g) fun j=>
 aJ pg i h j false (vS (aS 42 1 4 3 a)) fun k=>
 aJ pg i h j false (vS (dY 30 3 k)) fun l=>
 jn (fun (m:Value) (n:World) (o:XS)=>
 aJ pg o n j false (vS (aY br m)) fun q=>
 aC pg o n (aQ j (B true) q) fun r=>
 aJ pg o n r false (vS (aS 42 2 7 3 a)) fun s=>
 aJ pg o n r false (vS (dY 30 3 s)) fun t=>
 jn (fun (v:Value) (y:World) (z:XS)=>
 aJ pg z y r false (vS (aY br v)) fun A=>
 aC pg z y (aQ r (B true) A) fun C=>
 (ay C
 (fin R z y (B false))
 ((ae pg z y (aS 42 3 10 1 a) fun D=>
 ae pg z y (ld1 39 D) fun E=>
 ae pg z y (aS 42 4 11 1 a) fun F=>
 ae pg z y (ld1 40 F) fun G=>
 eC pg R z y true 251 #[E,G] fun H L M=>
 ae pg M L (aD H 0) fun _=>
 ae pg M L (aD H 1) fun N=>
 (ae pg M L (aE .neq 28 (.tmp 38) (.const (I 0)) N (I 0)) fun O=>
 (ay O
 (fin R M L (B false))
 ((ae pg M L (cp (e7 252) #[] #[a]) fun Q=>
 (ae pg M L (aS 42 3 10 1 a) fun S=>
 ae pg M L (ld1 39 S) fun T=>
 ae pg M L (cB 39 3 T) fun U=>
 (gG M L (I 0) 44 fun V Y Z a0 b0=>
 ae pg b0 a0 (binOp .lss 3 Z U) fun c0=>
 (ay c0
 ((ae pg b0 a0 (dr 39 2 T Z) fun d0=>
 ae pg b0 a0 (dY 320 2 d0) fun e0=>
 un (ai (aa e0)) fun g0=>
 aB (aj (ad (aa e0))==2) (aB (ao (ad (aa e0)) aR.one) ((aB (bH g0) (un (cellOf g0 0) fun h0=>
 eF pg R b0 a0 true Q #[h0] fun i0 j0 k0=>
 ae pg k0 j0 (aY br i0) fun l0=>
 (ay l0
 (fin R k0 j0 (B false))
 (((ae pg k0 j0 (binOp .add 3 Z (I 1)) fun m0=>
 gz V Y m0 j0 k0))))))))))
 (((ae pg b0 a0 (aS 42 4 11 1 a) fun n0=>
 ae pg b0 a0 (ld1 40 n0) fun o0=>
 ae pg b0 a0 (cB 40 3 o0) fun q0=>
 (qK b0 a0 (I 0) undef undef 57 76 64 fun r0 s0 t0 _ _ v0 y0=>
 ae pg y0 v0 (binOp .lss 3 t0 q0) fun z0=>
 (ay z0
 ((ae pg y0 v0 (dr 40 8 o0 t0) fun A0=>
 ae pg y0 v0 (dY 266 8 A0) fun C0=>
 un (ai (aa C0)) fun D0=>
 aB (aj (ad (aa C0))==8) (aB (ao (ad (aa C0)) aR.one) ((aB (bH D0) (un (cellOf D0 6) fun E0=>
 ae pg y0 v0 (cB 31 3 E0) fun F0=>
 (gG y0 v0 (I 0) 64 fun G0 H0 L0 M0 N0=>
 ae pg N0 M0 (binOp .lss 3 L0 F0) fun O0=>
 (ay O0
 ((ae pg N0 M0 (dr 31 1 E0 L0) fun Q0=>
 ae pg N0 M0 (ld1 9 Q0) fun S0=>
 (eF pg R N0 M0 true Q #[S0] fun T0 U0 V0=>
 ae pg V0 U0 (aY br T0) fun Y0=>
 (ay Y0
 (fin R V0 U0 (B false))
 (((ae pg V0 U0 (binOp .add 3 L0 (I 1)) fun Z0=>
 gz G0 H0 Z0 U0 V0)))))))
 (((aB (bH D0) (un (cellOf D0 7) fun a1=>
 ae pg N0 M0 (cB 33 3 a1) fun b1=>
 (gG N0 M0 (I 0) 76 fun c1 d1 e1 g1 h1=>
 ae pg h1 g1 (binOp .lss 3 e1 b1) fun i1=>
 (ay i1
 ((ae pg h1 g1 (dr 33 4 a1 e1) fun j1=>
 ae pg h1 g1 (dY 64 4 j1) fun k1=>
 un (ai (aa k1)) fun l1=>
 aB (aj (ad (aa k1))==4) (aB (ao (ad (aa k1)) aR.one) ((aB (bH l1) (un (cellOf l1 0) fun m1=>
 eF pg R h1 g1 true Q #[m1] fun n1 o1 q1=>
 ae pg q1 o1 (aY br n1) fun r1=>
 (ay r1
 (fin R q1 o1 (B false))
 (((ae pg q1 o1 (binOp .add 3 e1 (I 1)) fun s1=>
 gz c1 d1 s1 o1 q1))))))))))
 ((((ae pg h1 g1 (binOp .add 3 t0 (I 1)) fun t1=>
 qL r0 s0 t1 e1 L0 g1 h1))))))))))))))))))
 (fin R y0 v0 (B true)))))))))))))))))) fun v1=>
 (gE r false (eC pg R o n true 85 #[t] v1) (v1 undef n o))) fun y1=>
 (gE j false (eC pg R i h true 85 #[l] y1) (y1 undef h i)))
noncomputable def S5:bp:=⟨29,[(4,(pg.cellsOf 30)),(5,(pg.cellsOf 30)),(6,(pg.cellsOf 27))],[],[0,1,2,3,8,22],[12,13,14,15,16,18,19,20,21],[]⟩
def HL (aX bo bu dx bY dP gR gM iG:Int) (p3:Value):Prop:=
 (eC pg R X0 w0 true 85 #[(.agg #[(I aX),(I bo),(I bu)])] fun a b c=>
 ae pg c b (aY br a) fun d=>
 un (aU d false (.agg #[(I aX),(I bo),(I bu)])) fun e=>
 un (aU d false (.agg #[(I dx),(I bY),(I dP)])) fun g=>
 jn (fun (h:Value) (i:World) (j:XS)=>
 aJ pg j i d false (vS (binOp .geq 3 h (I 0))) fun k=>
 aC pg j i (aQ d (B true) k) fun l=>
 un (aU l false p3) fun m=>
 aJ pg j i l false (vS (cB 33 3 m)) fun n=>
 aJ pg j i l false (vS (aE .eql 3 (.tmp 20) (.const (I 0)) n (I 0))) fun o=>
 aC pg j i (aQ l (B true) o) fun q=>
 (ay q
 (fin R j i (B false))
 ((ae pg j i (dw 266 #[(I gR),(I gM),(I iG),(I dx),(I bY),(I dP),(.slice none 0 0),p3] #[(0,(.agg #[(I gR),(I gM),(I iG)])),(1,(.agg #[(I dx),(I bY),(I dP)])),(3,p3)]) fun r=>
 eC pg R j i true 253 #[r] fun s t v=>
 ae pg v t (aE .eql 28 (.tmp 27) (.const (I 0)) s (I 0)) fun y=>
 (fin R v t y))))) fun z=>
 (gE d false (eC pg R c b true 180 #[e,g] z) (z undef b c)))
noncomputable def CO:bp:=⟨11,[],[],[0,1,3,4],[],[]⟩
def uo (p0:Value) (p1:Int):Prop:=
 eV pg R X0 w0 true (dN 3 (I p1)) fun a b c=>
 (aC pg c b (aF p0) fun d=>
 ae pg c b (aS 113 6 10 1 d) fun e=>
 ae pg c b (ld1 53 e) fun g=>
 ae pg c b (cp (e7 255) #[] #[a]) fun h=>
 eC pg R c b true 254 #[g,h] fun i j k=>
 (fin R k j i))
noncomputable def GI:bp:=⟨23,[(3,(pg.cellsOf 30))],[13],[0,1,4,7],[],[]⟩
def xn (p0:Value) (dx bY dP:Int):Prop:=
 (eC pg R X0 w0 true 85 #[(.agg #[(I dx),(I bY),(I dP)])] fun a b c=>
 ae pg c b (aY br a) fun d=>
 (ay d
 (fin R c b (I 17))
 ((aC pg c b (aF p0) fun e=>
 ae pg c b (aS 206 0 0 3 e) fun g=>
 ae pg c b (aS 30 2 2 1 g) fun h=>
 ae pg c b (ld1 3 h) fun i=>
 aB (aR.one i) ((aC pg c b (aF p0) fun j=>
 ae pg c b (aS 206 0 0 3 j) fun k=>
 ae pg c b (dY 30 3 k) fun l=>
 eC pg R c b true 119 #[l,(.agg #[(I dx),(I bY),i])] fun m n o=>
 aC pg o n (aF p0) fun q=>
 ae pg o n (aS 206 0 0 3 q) fun r=>
 eU pg R o n true (st1 30 3 r m) fun _ s t=>
 (fin R t s (I 0))))))))
noncomputable def QF:bp:=⟨37,[(2,(pg.cellsOf 30)),(3,(pg.cellsOf 30))],[7,9,11,13,20,22,25,27],[0,1,4,5,6,15,19,29,33],[],[]⟩
def Fk (aX bo bu dx bY dP:Int):Prop:=
 (((jn (fun (a b:Value)=>
 (ae pg X0 w0 (binOp .lss 3 a b) fun c=>
 (ay c
 ((fin R X0 w0 (I (-1))))
 (ae pg X0 w0 (binOp .gtr 3 a b) fun d=>
 (ay d
 (fin R X0 w0 (I 1))
 (fin R X0 w0 (I 0))))))) fun e=>
 ae pg X0 w0 (aE .neq 3 (.tmp 16) (.tmp 17) (I aX) (I dx)) fun g=>
 (ay g
 (e (I aX) (I dx))
 (ae pg X0 w0 (aE .neq 3 (.tmp 21) (.tmp 23) (I bo) (I bY)) fun h=>
 (ay h
 (e (I bo) (I bY))
 (e (I bu) (I dP))))))))
noncomputable def QG:bp:=⟨10,[],[],[0,2],[6,7,8],[]⟩
def Fl (p0:Nat):Prop:=
 (eC pg R X0 w0 true 166 #[(.float .f64 p0)] fun a b c=>
 ae pg c b (binOp .geq 3 a (I 5)) fun d=>
 un (aU d true (.float .f64 p0)) fun e=>
 aJ pg c b d true (vS (binOp .leq 36 e (.float .f64 4607182418800017408))) fun g=>
 aC pg c b (aQ d g (B false)) fun h=>
 (fin R c b h))
def Ke (p0:Value):Prop:=
 ((ae pg X0 w0 (cB 94 3 p0) fun a=>
 ae pg X0 w0 (binOp .lss 3 a (I 64)) fun b=>
 (ay b
 (ae pg X0 w0 (cB 94 3 p0) fun c=>
 (qK X0 w0 (I 0) undef (aA fW 4294967295) 14 22 3 fun d e g _ h i j=>
 ae pg j i (binOp .lss 3 g c) fun k=>
 (ay k
 ((ae pg j i (dr 94 1 p0 g) fun l=>
 ae pg j i (ld1 5 l) fun m=>
 (ae pg j i (lR fW 5 326 m) fun n=>
 ae pg j i (binOp .xor 326 h n) fun o=>
 ((gS j i (I 0) o 22 3 fun q r s t v y=>
 ae pg y v (binOp .lss 3 s (I 8)) fun z=>
 (ay z
 ((ae pg y v (binOp .shr 326 t (aA bh 1)) fun A=>
 ae pg y v (binOp .and 326 t (aA fW 1)) fun C=>
 ae pg y v (aY UnOp.neg C) fun D=>
 ae pg y v (binOp .and 326 (aA fW 2197175160) D) fun E=>
 ae pg y v (binOp .xor 326 A E) fun F=>
 ((ae pg y v (binOp .add 3 s (I 1)) fun G=>
 gP q r G F v y))))
 ((((ae pg y v (binOp .add 3 g (I 1)) fun H=>
 qL d e H s t v y))))))))))
 (ae pg j i (aY yi h) fun L=>
 (fin R j i L)))))
 ((eC pg R X0 w0 true 256 #[] fun M N O=>
 eV pg R O N true (Instr.alloc 385 true (aq #[])) fun Q S T=>
 eU pg R T S true (st1 385 256 Q M) fun _ U V=>
 (ae pg V U (cB 94 3 p0) fun Y=>
 (gS V U (I 0) (aA fW 4294967295) 38 3 fun Z a0 b0 c0 d0 e0=>
 ae pg e0 d0 (binOp .lss 3 b0 Y) fun g0=>
 (ay g0
 ((ae pg e0 d0 (dr 94 1 p0 b0) fun h0=>
 ae pg e0 d0 (ld1 5 h0) fun i0=>
 (ae pg e0 d0 (binOp .shr 326 c0 (aA bh 8)) fun j0=>
 ae pg e0 d0 (lR ei 326 5 c0) fun k0=>
 ae pg e0 d0 (binOp .xor 5 k0 i0) fun l0=>
 ae pg e0 d0 (Instr.indexAt 385 Q l0) fun m0=>
 ae pg e0 d0 (ld1 326 m0) fun n0=>
 ae pg e0 d0 (binOp .xor 326 j0 n0) fun o0=>
 ((ae pg e0 d0 (binOp .add 3 b0 (I 1)) fun q0=>
 gP Z a0 q0 o0 d0 e0)))))
 (ae pg e0 d0 (aY yi c0) fun r0=>
 (fin R e0 d0 r0))))))))))
noncomputable def V5:bp:=⟨11,[],[],[0,2],[6,7,8,9],[]⟩
def Kf (p0:ByteArray):Prop:=
 (ae pg X0 w0 (kN 9 3 (.string p0)) fun a=>
 ae pg X0 w0 (binOp .geq 3 a (I 1)) fun b=>
 un (aU b true (.string p0)) fun c=>
 aJ pg X0 w0 b true (vS (kN 9 3 c)) fun d=>
 aJ pg X0 w0 b true (vS (binOp .leq 3 d (I 20))) fun e=>
 aC pg X0 w0 (aQ b e (B false)) fun g=>
 (fin R X0 w0 g))
noncomputable def Kg:bp:=⟨21,[],[],[0,1,2,6,7,12,16],[],[]⟩
def Ae (p0:Value) (p1:Int) (p2:Value):Prop:=
 (aC pg X0 w0 (aF p0) fun a=>
 ae pg X0 w0 (aS 109 4 4 1 a) fun b=>
 ae pg X0 w0 (ld1 4 b) fun c=>
 (ay c
 (fin R X0 w0 (I 12))
 (ae pg X0 w0 (aE .neq 28 (.tmp 13) (.const (I 0)) (I p1) (I 0)) fun d=>
 (ay d
 (fin R X0 w0 (I p1))
 (eC pg R X0 w0 true 210 #[p0] fun e g h=>
 (ay e
 (fin R h g (I 12))
 (((eF pg R h g true p2 #[] fun _ i j=>
 (fin R j i (I 0)))))))))))
noncomputable def En:bp:=⟨9,[],[],[0,1],[],[]⟩
def vA (c0 c1:Value):Prop:=
 ae pg X0 w0 (ld1 51 c0) fun a=>
 aC pg X0 w0 (aF a) fun b=>
 ae pg X0 w0 (aS 109 0 0 1 b) fun c=>
 ae pg X0 w0 (ld1 107 c) fun d=>
 ae pg X0 w0 (ld1 9 c1) fun e=>
 ae pg X0 w0 (dw 325 #[(.slice none 0 0),(I 0)] #[]) fun g=>
 eV pg R X0 w0 false (dN 325 g) fun h i j=>
 eU pg R j i true (aP 107 d e h) fun _ k l=>
 fin R l k (aq #[])
noncomputable def NG:bp:=⟨12,[],[],[0,1,4,11],[],[]⟩
def CF (p0:Value) (p1:ByteArray):Prop:=
 (aC pg X0 w0 (aF p0) fun a=>
 ae pg X0 w0 (aS 109 0 0 1 a) fun b=>
 ae pg X0 w0 (ld1 107 b) fun c=>
 ae pg X0 w0 (dc 107 c (.string p1) false) fun d=>
 ae pg X0 w0 (aE .eql 253 (.tmp 10) (.const (.pointer none)) d (.pointer none)) fun e=>
 (ay e
 (fin R X0 w0 (I 8))
 (fin R X0 w0 (I 0))))
noncomputable def Kh:bp:=⟨39,[],[],[0,1,4,9,13],[],[4]⟩
def Af (p0:Value) (p1:Int):Prop:=
 ae pg X0 w0 (lR bh 3 130 (I p1)) fun a=>
 ae pg X0 w0 (binOp .shl 130 a (aA bh 1)) fun b=>
 ((jn (fun (c:Value)=>
 gG X0 w0 c 4 fun d e g h i=>
 ae pg i h (binOp .geq 130 g (aA bh 128)) fun j=>
 (ay j
 ((aC pg i h (aF p0) fun k=>
 ae pg i h (aS 350 0 0 1 k) fun l=>
 ae pg i h (ld1 94 l) fun m=>
 ae pg i h (lR ei 130 5 g) fun n=>
 ae pg i h (binOp .or 5 n (aA ei 128)) fun o=>
 eV pg R i h true (fC 94 5 1 1 #[(0,o)]) fun q r s=>
 eV pg R s r true (e6 94 5 1 1 94 m q) fun t v y=>
 aC pg y v (aF p0) fun z=>
 ae pg y v (aS 350 0 0 1 z) fun A=>
 eU pg R y v true (st1 94 1 A t) fun _ C D=>
 (ae pg D C (binOp .shr 130 g (aA bh 7)) fun E=>
 (gz d e E C D))))
 (((aC pg i h (aF p0) fun F=>
 ae pg i h (aS 350 0 0 1 F) fun G=>
 ae pg i h (ld1 94 G) fun H=>
 ae pg i h (lR ei 130 5 g) fun L=>
 eV pg R i h true (fC 94 5 1 1 #[(0,L)]) fun M N O=>
 eV pg R O N true (e6 94 5 1 1 94 H M) fun Q S T=>
 aC pg T S (aF p0) fun U=>
 ae pg T S (aS 350 0 0 1 U) fun V=>
 eU pg R T S true (st1 94 1 V Q) fun _ Y Z=>
 fin R Z Y (aq #[])))))) fun a0=>
 ae pg X0 w0 (binOp .lss 3 (I p1) (I 0)) fun b0=>
 (ay b0
 (ae pg X0 w0 (aY yi b) fun c0=>
 (a0 c0))
 (a0 b))))
def yk (p0 p1:Value):Prop:=
 aC pg X0 w0 (aF p1) fun a=>
 ae pg X0 w0 (aS 38 0 0 1 a) fun b=>
 eC pg R X0 w0 true 132 #[p0,b] fun _ c d=>
 (aC pg d c (aF p1) fun e=>
 ae pg d c (aS 38 1 1 1 e) fun g=>
 eC pg R d c true 132 #[p0,g] fun _ h i=>
 (aC pg i h (aF p1) fun j=>
 ae pg i h (aS 38 2 2 1 j) fun k=>
 eC pg R i h true 139 #[p0,k] fun _ l m=>
 (aC pg m l (aF p1) fun n=>
 ae pg m l (aS 38 3 3 1 n) fun o=>
 eC pg R m l true 139 #[p0,o] fun _ q r=>
 fin R r q (aq #[]))))
def sX (p0 p1 p2:Value):Prop:=
 aC pg X0 w0 (aF p1) fun a=>
 ae pg X0 w0 (ld1 39 a) fun b=>
 ae pg X0 w0 (cB 39 3 b) fun c=>
 ((jn (fun (d:Value) (e:World) (g:XS)=>
 (gG g e (I 0) 39 fun h i j k l=>
 ae pg l k (binOp .lss 3 j d) fun m=>
 (ay m
 ((((jn (fun (n:World) (o:XS)=>
 aC pg o n (aF p1) fun q=>
 ae pg o n (ld1 39 q) fun r=>
 ae pg o n (dr 39 2 r j) fun s=>
 eF pg R o n true p2 #[s] fun _ t v=>
 ((ae pg v t (binOp .add 3 j (I 1)) fun y=>
 gz h i y t v))) fun z=>
 aC pg l k (aF p0) fun A=>
 ae pg l k (aS 190 0 0 1 A) fun C=>
 ae pg l k (ld1 188 C) fun D=>
 ae pg l k (aE .eql 188 (.tmp 45) (.const (.pointer none)) D (.pointer none)) fun E=>
 (ay E
 ((aC pg l k (aF p1) fun F=>
 ae pg l k (ld1 39 F) fun G=>
 eV pg R l k false (fC 39 320 2 1 #[(0,(.agg #[(.string { data:= #[] }),(.slice none 0 0)]))]) fun H L M=>
 eV pg R M L true (e6 39 320 2 40 39 G H) fun N O Q=>
 aC pg Q O (aF p1) fun S=>
 eU pg R Q O true (st1 39 1 S N) fun _ T U=>
 (z T U)))
 (z k l))))))
 (fin R l k (aq #[]))))) fun V=>
 aC pg X0 w0 (aF p0) fun Y=>
 ae pg X0 w0 (aS 190 0 0 1 Y) fun Z=>
 ae pg X0 w0 (ld1 188 Z) fun a0=>
 ae pg X0 w0 (aE .neq 188 (.tmp 16) (.const (.pointer none)) a0 (.pointer none)) fun b0=>
 (ay b0
 (aC pg X0 w0 (aF p0) fun c0=>
 ae pg X0 w0 (aS 190 0 0 1 c0) fun d0=>
 ae pg X0 w0 (ld1 188 d0) fun e0=>
 eC pg R X0 w0 true 190 #[e0,c] fun _ g0 h0=>
 (V c g0 h0))
 (aC pg X0 w0 (aF p0) fun i0=>
 ae pg X0 w0 (aS 190 1 1 1 i0) fun j0=>
 ae pg X0 w0 (ld1 184 j0) fun k0=>
 aC pg X0 w0 (aF p0) fun l0=>
 ae pg X0 w0 (aS 190 1 1 1 l0) fun m0=>
 ae pg X0 w0 (ld1 184 m0) fun n0=>
 eC pg R X0 w0 false 200 #[n0] fun o0 q0 r0=>
 eC pg R r0 q0 true 199 #[k0,o0] fun s0 t0 v0=>
 (eC pg R v0 t0 true 192 #[p0] fun _ y0 z0=>
 (aC pg z0 y0 (aF p1) fun A0=>
 eU pg R z0 y0 true (st1 39 1 A0 (.slice none 0 0)) fun _ C0 D0=>
 (V s0 C0 D0)))))))
def vB (p0 p1:Value):Prop:=
 aC pg X0 w0 (aF p1) fun a=>
 ae pg X0 w0 (aS 320 0 0 1 a) fun b=>
 eC pg R X0 w0 true 198 #[p0,b] fun _ c d=>
 (aC pg d c (aF p1) fun e=>
 ae pg d c (aS 320 1 1 1 e) fun g=>
 ae pg d c (cp (e7 259) #[p0] #[]) fun h=>
 eC pg R d c true 258 #[p0,g,h] fun _ i j=>
 fin R j i (aq #[]))
def sY (p0 p1 p2:Value):Prop:=
 aC pg X0 w0 (aF p1) fun a=>
 ae pg X0 w0 (ld1 40 a) fun b=>
 ae pg X0 w0 (cB 40 3 b) fun c=>
 ((jn (fun (d:Value) (e:World) (g:XS)=>
 (gG g e (I 0) 39 fun h i j k l=>
 ae pg l k (binOp .lss 3 j d) fun m=>
 (ay m
 ((((jn (fun (n:World) (o:XS)=>
 aC pg o n (aF p1) fun q=>
 ae pg o n (ld1 40 q) fun r=>
 ae pg o n (dr 40 8 r j) fun s=>
 eF pg R o n true p2 #[s] fun _ t v=>
 ((ae pg v t (binOp .add 3 j (I 1)) fun y=>
 gz h i y t v))) fun z=>
 aC pg l k (aF p0) fun A=>
 ae pg l k (aS 190 0 0 1 A) fun C=>
 ae pg l k (ld1 188 C) fun D=>
 ae pg l k (aE .eql 188 (.tmp 45) (.const (.pointer none)) D (.pointer none)) fun E=>
 (ay E
 ((aC pg l k (aF p1) fun F=>
 ae pg l k (ld1 40 F) fun G=>
 eV pg R l k false (fC 40 266 8 1 #[(0,(.agg #[(I 0),(I 0),(I 0),(I 0),(I 0),(I 0),(.slice none 0 0),(.slice none 0 0)]))]) fun H L M=>
 eV pg R M L true (e6 40 266 8 96 40 G H) fun N O Q=>
 aC pg Q O (aF p1) fun S=>
 eU pg R Q O true (st1 40 1 S N) fun _ T U=>
 (z T U)))
 (z k l))))))
 (fin R l k (aq #[]))))) fun V=>
 aC pg X0 w0 (aF p0) fun Y=>
 ae pg X0 w0 (aS 190 0 0 1 Y) fun Z=>
 ae pg X0 w0 (ld1 188 Z) fun a0=>
 ae pg X0 w0 (aE .neq 188 (.tmp 16) (.const (.pointer none)) a0 (.pointer none)) fun b0=>
 (ay b0
 (aC pg X0 w0 (aF p0) fun c0=>
 ae pg X0 w0 (aS 190 0 0 1 c0) fun d0=>
 ae pg X0 w0 (ld1 188 d0) fun e0=>
 eC pg R X0 w0 true 190 #[e0,c] fun _ g0 h0=>
 (V c g0 h0))
 (aC pg X0 w0 (aF p0) fun i0=>
 ae pg X0 w0 (aS 190 1 1 1 i0) fun j0=>
 ae pg X0 w0 (ld1 184 j0) fun k0=>
 aC pg X0 w0 (aF p0) fun l0=>
 ae pg X0 w0 (aS 190 1 1 1 l0) fun m0=>
 ae pg X0 w0 (ld1 184 m0) fun n0=>
 eC pg R X0 w0 false 200 #[n0] fun o0 q0 r0=>
 eC pg R r0 q0 true 199 #[k0,o0] fun s0 t0 v0=>
 (eC pg R v0 t0 true 192 #[p0] fun _ y0 z0=>
 (aC pg z0 y0 (aF p1) fun A0=>
 eU pg R z0 y0 true (st1 40 1 A0 (.slice none 0 0)) fun _ C0 D0=>
 (V s0 C0 D0)))))))
def yl (p0 p1 p2:Value):Prop:=
 aC pg X0 w0 (aF p1) fun a=>
 ae pg X0 w0 (ld1 31 a) fun b=>
 ae pg X0 w0 (cB 31 3 b) fun c=>
 ((jn (fun (d:Value) (e:World) (g:XS)=>
 (gG g e (I 0) 39 fun h i j k l=>
 ae pg l k (binOp .lss 3 j d) fun m=>
 (ay m
 ((((jn (fun (n:World) (o:XS)=>
 aC pg o n (aF p1) fun q=>
 ae pg o n (ld1 31 q) fun r=>
 ae pg o n (dr 31 1 r j) fun s=>
 eF pg R o n true p2 #[s] fun _ t v=>
 ((ae pg v t (binOp .add 3 j (I 1)) fun y=>
 gz h i y t v))) fun z=>
 aC pg l k (aF p0) fun A=>
 ae pg l k (aS 190 0 0 1 A) fun C=>
 ae pg l k (ld1 188 C) fun D=>
 ae pg l k (aE .eql 188 (.tmp 45) (.const (.pointer none)) D (.pointer none)) fun E=>
 (ay E
 ((aC pg l k (aF p1) fun F=>
 ae pg l k (ld1 31 F) fun G=>
 eV pg R l k true (fC 31 9 1 1 #[(0,(.string { data:= #[] }))]) fun H L M=>
 eV pg R M L true (e6 31 9 1 16 31 G H) fun N O Q=>
 aC pg Q O (aF p1) fun S=>
 eU pg R Q O true (st1 31 1 S N) fun _ T U=>
 (z T U)))
 (z k l))))))
 (fin R l k (aq #[]))))) fun V=>
 aC pg X0 w0 (aF p0) fun Y=>
 ae pg X0 w0 (aS 190 0 0 1 Y) fun Z=>
 ae pg X0 w0 (ld1 188 Z) fun a0=>
 ae pg X0 w0 (aE .neq 188 (.tmp 16) (.const (.pointer none)) a0 (.pointer none)) fun b0=>
 (ay b0
 (aC pg X0 w0 (aF p0) fun c0=>
 ae pg X0 w0 (aS 190 0 0 1 c0) fun d0=>
 ae pg X0 w0 (ld1 188 d0) fun e0=>
 eC pg R X0 w0 true 190 #[e0,c] fun _ g0 h0=>
 (V c g0 h0))
 (aC pg X0 w0 (aF p0) fun i0=>
 ae pg X0 w0 (aS 190 1 1 1 i0) fun j0=>
 ae pg X0 w0 (ld1 184 j0) fun k0=>
 aC pg X0 w0 (aF p0) fun l0=>
 ae pg X0 w0 (aS 190 1 1 1 l0) fun m0=>
 ae pg X0 w0 (ld1 184 m0) fun n0=>
 eC pg R X0 w0 false 200 #[n0] fun o0 q0 r0=>
 eC pg R r0 q0 true 199 #[k0,o0] fun s0 t0 v0=>
 (eC pg R v0 t0 true 192 #[p0] fun _ y0 z0=>
 (aC pg z0 y0 (aF p1) fun A0=>
 eU pg R z0 y0 true (st1 31 1 A0 (.slice none 0 0)) fun _ C0 D0=>
 (V s0 C0 D0)))))))
def yT (p0 p1:Value):Prop:=
 aC pg X0 w0 (aF p0) fun a=>
 ae pg X0 w0 (aS 190 0 0 1 a) fun b=>
 ae pg X0 w0 (ld1 188 b) fun c=>
 ae pg X0 w0 (aE .neq 188 (.tmp 7) (.const (.pointer none)) c (.pointer none)) fun d=>
 (ay d
 (aC pg X0 w0 (aF p0) fun e=>
 ae pg X0 w0 (aS 190 0 0 1 e) fun g=>
 ae pg X0 w0 (ld1 188 g) fun h=>
 aC pg X0 w0 (aF p1) fun i=>
 ae pg X0 w0 (ld1 9 i) fun j=>
 eC pg R X0 w0 true 260 #[h,j] fun _ k l=>
 (fin R l k (aq #[])))
 ((aC pg X0 w0 (aF p0) fun m=>
 ae pg X0 w0 (aS 190 1 1 1 m) fun n=>
 ae pg X0 w0 (ld1 184 n) fun o=>
 eC pg R X0 w0 true 261 #[o,(I 262144)] fun q r s=>
 aC pg s r (aF p1) fun t=>
 eU pg R s r true (st1 9 1 t q) fun _ v y=>
 (eC pg R y v true 192 #[p0] fun _ z A=>
 fin R A z (aq #[])))))
noncomputable def Ih:bp:=⟨23,[],[],[0,1,4],[],[]⟩
def yU (p0:Value) (p1:Bool):Prop:=
 (ay (B p1)
 (aC pg X0 w0 (aF p0) fun a=>
 ae pg X0 w0 (aS 350 0 0 1 a) fun b=>
 ae pg X0 w0 (ld1 94 b) fun c=>
 eV pg R X0 w0 true (fC 94 5 1 1 #[(0,(aA ei 1))]) fun d e g=>
 eV pg R g e true (e6 94 5 1 1 94 c d) fun h i j=>
 aC pg j i (aF p0) fun k=>
 ae pg j i (aS 350 0 0 1 k) fun l=>
 eU pg R j i true (st1 94 1 l h) fun _ m n=>
 (fin R n m (aq #[])))
 ((aC pg X0 w0 (aF p0) fun o=>
 ae pg X0 w0 (aS 350 0 0 1 o) fun q=>
 ae pg X0 w0 (ld1 94 q) fun r=>
 eV pg R X0 w0 true (fC 94 5 1 1 #[(0,(aA ei 0))]) fun s t v=>
 eV pg R v t true (e6 94 5 1 1 94 r s) fun y z A=>
 aC pg A z (aF p0) fun C=>
 ae pg A z (aS 350 0 0 1 C) fun D=>
 eU pg R A z true (st1 94 1 D y) fun _ E F=>
 fin R F E (aq #[]))))
noncomputable def GJ:bp:=⟨23,[],[],[0,1,4,7,8],[],[4,7]⟩
def ym (p0:Value) (p1:Nat):Prop:=
 eC pg R X0 w0 true 164 #[(.float .f64 p1)] fun a b c=>
 ((gS c b (I 0) a 7 4 fun d e g h i j=>
 ae pg j i (binOp .lss 3 g (I 8)) fun k=>
 (ay k
 ((aC pg j i (aF p0) fun l=>
 ae pg j i (aS 350 0 0 1 l) fun m=>
 ae pg j i (ld1 94 m) fun n=>
 ae pg j i (lR ei 130 5 h) fun o=>
 eV pg R j i true (fC 94 5 1 1 #[(0,o)]) fun q r s=>
 eV pg R s r true (e6 94 5 1 1 94 n q) fun t v y=>
 aC pg y v (aF p0) fun z=>
 ae pg y v (aS 350 0 0 1 z) fun A=>
 eU pg R y v true (st1 94 1 A t) fun _ C D=>
 (ae pg D C (binOp .shr 130 h (aA bh 8)) fun E=>
 ((ae pg D C (binOp .add 3 g (I 1)) fun F=>
 gP d e F E C D)))))
 (fin R j i (aq #[])))))
def yn (p0 p1:Value):Prop:=
 aC pg X0 w0 (aF p0) fun a=>
 ae pg X0 w0 (aS 190 0 0 1 a) fun b=>
 ae pg X0 w0 (ld1 188 b) fun c=>
 ae pg X0 w0 (aE .neq 188 (.tmp 7) (.const (.pointer none)) c (.pointer none)) fun d=>
 (ay d
 (aC pg X0 w0 (aF p0) fun e=>
 ae pg X0 w0 (aS 190 0 0 1 e) fun g=>
 ae pg X0 w0 (ld1 188 g) fun h=>
 aC pg X0 w0 (aF p1) fun i=>
 ae pg X0 w0 (dY 62 3 i) fun j=>
 eC pg R X0 w0 true 265 #[h,j] fun _ k l=>
 (fin R l k (aq #[])))
 ((aC pg X0 w0 (aF p0) fun m=>
 ae pg X0 w0 (aS 190 1 1 1 m) fun n=>
 ae pg X0 w0 (ld1 184 n) fun o=>
 eC pg R X0 w0 true 266 #[o] fun q r s=>
 aC pg s r (aF p1) fun t=>
 eU pg R s r true (st1 62 3 t q) fun _ v y=>
 (eC pg R y v true 192 #[p0] fun _ z A=>
 fin R A z (aq #[])))))
noncomputable def Ps:bp:=⟨68,[(1,(pg.cellsOf 99)),(2,(pg.cellsOf 99))],[4,10,15,20,21,22,23,24,29,30,31,35,39,40,41,46,47,48,52,58,59,60,61,65,66],[0,3,5,7,11,16,25,32,36,42,49,53,62],[],[]⟩
def DQ (aX bo bu bO bZ cr cq cz dh cY:Int) (bP:Bool) (bN:Int) (da:Nat) (cP cN cO cQ:Value) (cT cE:Int) (cA cG:Nat) (cH cC cM cD cI cJ:Int) (cK cL:Value):Prop:=
 (((jn (fun (a:Value)=>
 (aB (bH a) (un (cj a 0 29) fun b=>
 un (ai (aa b)) fun c=>
 aB (aj (ad (aa b))==29) (aB (ao (ad (aa b)) aR.one) ((un (cj c 0 29) fun d=>
 aB (ao [c] bH) (fin R X0 w0 (aq #[d,(B true)])))))))) fun e=>
 ae pg X0 w0 (aE .eql 3 (.tmp 5) (.const (I 1)) (I aX) (I 1)) fun g=>
 (ay g
 (ae pg X0 w0 (dw 42 #[(I 0),(I 0),(.float .f64 0),(.float .f64 0),(I 0),(I 0),(I 0),(I 0),(I 0),(I 0),(.slice none 0 0),(.slice none 0 0)] #[]) fun h=>
 un (ai (aO (cV [(I aX),(I bo),(I bu),(I bO),(I bZ),(I cr),(I cq),(I cz),(I dh),(I cY),(B bP),(I bN),(.float .f64 da),cP,cN,cO,cQ,(I cT),(I cE),(.float .f64 cA),(.float .f64 cG),(I cH),(I cC),(I cM),(I cD),(I cI),(I cJ),cK,cL] 17 (ad (aa h))))) fun i=>
 aB (aj (ad (aa h))==12) (aB (ao (ad (aa h)) aR.one) (e i)))
 ((jn (fun (j:Value)=>
 ay j
 ((e (.agg #[(I aX),(I bo),(I bu),(I bO),(I bZ),(I cr),(I cq),(I cz),(I dh),(I cY),(B bP),(I 0),(.float .f64 da),cP,cN,cO,cQ,(I cT),(I cE),(.float .f64 cA),(.float .f64 cG),(I cH),(I cC),(I cM),(I cD),(I cI),(I cJ),cK,cL])))
 (ae pg X0 w0 (aE .eql 3 (.tmp 5) (.const (I 3)) (I aX) (I 3)) fun k=>
 (ay k
 (ae pg X0 w0 (dw 27 #[(I 0),(I 0),(I 0)] #[]) fun l=>
 ae pg X0 w0 (dw 30 #[(I 0),(I 0),(I 0)] #[]) fun m=>
 un (ai (aO (cV [(I aX),(I bo),(I bu),(I bO),(I bZ),(I cr),(I cq),(I cz),(I dh),(I cY),(B bP),(I bN),(.float .f64 da),cP,cN,cO,cQ,(I cT),(I cE),(.float .f64 cA),(.float .f64 cG),(I cH),(I cC),(I cM),(I cD),(I cI),(I cJ),cK,cL] 1 (ad (aa l))))) fun n=>
 aB (aj (ad (aa l))==3) (aB (ao (ad (aa l)) aR.one) (un (ai (aO (cV (ad (aa n)) 4 (ad (aa m))))) fun o=>
 aB (aj (ad (aa m))==3) (aB (ao (ad (aa m)) aR.one) (un (ai (aO (cV (ad (aa o)) 13 [(.slice none 0 0)]))) fun q=>
 un (ai (aO (cV (ad (aa q)) 14 [(.slice none 0 0)]))) fun r=>
 un (ai (aO (cV (ad (aa r)) 15 [(.slice none 0 0)]))) fun s=>
 (e s))))))
 (ae pg X0 w0 (aE .eql 3 (.tmp 5) (.const (I 4)) (I aX) (I 4)) fun t=>
 (ay t
 (ae pg X0 w0 (dw 27 #[(I 0),(I 0),(I 0)] #[]) fun v=>
 ae pg X0 w0 (dw 30 #[(I 0),(I 0),(I 0)] #[]) fun y=>
 un (ai (aO (cV [(I aX),(I bo),(I bu),(I bO),(I bZ),(I cr),(I cq),(I cz),(I dh),(I cY),(B bP),(I bN),(.float .f64 da),cP,cN,cO,cQ,(I cT),(I cE),(.float .f64 cA),(.float .f64 cG),(I cH),(I cC),(I cM),(I cD),(I cI),(I cJ),cK,cL] 1 (ad (aa v))))) fun z=>
 aB (aj (ad (aa v))==3) (aB (ao (ad (aa v)) aR.one) (un (ai (aO (cV (ad (aa z)) 10 [(B false)]))) fun A=>
 un (ai (aO (cV (ad (aa A)) 4 (ad (aa y))))) fun C=>
 aB (aj (ad (aa y))==3) (aB (ao (ad (aa y)) aR.one) (e C)))))
 (ae pg X0 w0 (aE .eql 3 (.tmp 5) (.const (I 5)) (I aX) (I 5)) fun D=>
 (ay D
 (ae pg X0 w0 (dw 30 #[(I 0),(I 0),(I 0)] #[]) fun E=>
 un (ai (aO (cV [(I aX),(I bo),(I bu),(I bO),(I bZ),(I cr),(I cq),(I cz),(I dh),(I cY),(B bP),(I bN),(.float .f64 da),cP,cN,cO,cQ,(I cT),(I cE),(.float .f64 cA),(.float .f64 cG),(I cH),(I cC),(I cM),(I cD),(I cI),(I cJ),cK,cL] 4 (ad (aa E))))) fun F=>
 aB (aj (ad (aa E))==3) (aB (ao (ad (aa E)) aR.one) (e F)))
 (ae pg X0 w0 (aE .eql 3 (.tmp 5) (.const (I 6)) (I aX) (I 6)) fun G=>
 (ay G
 (ae pg X0 w0 (dw 30 #[(I 0),(I 0),(I 0)] #[]) fun H=>
 un (ai (aO (cV [(I aX),(I bo),(I bu),(I bO),(I bZ),(I cr),(I cq),(I cz),(I dh),(I cY),(B bP),(I 0),(.float .f64 0),cP,cN,cO,cQ,(I cT),(I cE),(.float .f64 cA),(.float .f64 cG),(I cH),(I cC),(I cM),(I cD),(I cI),(I cJ),cK,cL] 4 (ad (aa H))))) fun L=>
 aB (aj (ad (aa H))==3) (aB (ao (ad (aa H)) aR.one) (e L)))
 (ae pg X0 w0 (aE .eql 3 (.tmp 5) (.const (I 9)) (I aX) (I 9)) fun M=>
 (ay M
 (ae pg X0 w0 (dw 27 #[(I 0),(I 0),(I 0)] #[]) fun N=>
 ae pg X0 w0 (dw 30 #[(I 0),(I 0),(I 0)] #[]) fun O=>
 un (ai (aO (cV [(I aX),(I bo),(I bu),(I bO),(I bZ),(I cr),(I cq),(I cz),(I dh),(I cY),(B bP),(I bN),(.float .f64 da),cP,cN,cO,cQ,(I cT),(I cE),(.float .f64 cA),(.float .f64 cG),(I cH),(I cC),(I cM),(I cD),(I cI),(I cJ),cK,cL] 1 (ad (aa N))))) fun Q=>
 aB (aj (ad (aa N))==3) (aB (ao (ad (aa N)) aR.one) (un (ai (aO (cV (ad (aa Q)) 4 (ad (aa O))))) fun S=>
 aB (aj (ad (aa O))==3) (aB (ao (ad (aa O)) aR.one) (un (ai (aO (cV (ad (aa S)) 15 [(.slice none 0 0)]))) fun T=>
 (e T))))))
 (ae pg X0 w0 (aE .eql 3 (.tmp 5) (.const (I 10)) (I aX) (I 10)) fun U=>
 (ay U
 (ae pg X0 w0 (dw 27 #[(I 0),(I 0),(I 0)] #[]) fun V=>
 un (ai (aO (cV [(I aX),(I bo),(I bu),(I bO),(I bZ),(I cr),(I cq),(I cz),(I dh),(I cY),(B bP),(I bN),(.float .f64 da),cP,cN,cO,cQ,(I cT),(I cE),(.float .f64 cA),(.float .f64 cG),(I cH),(I cC),(I cM),(I cD),(I cI),(I cJ),cK,cL] 1 (ad (aa V))))) fun Y=>
 aB (aj (ad (aa V))==3) (aB (ao (ad (aa V)) aR.one) (e Y)))
 (ae pg X0 w0 (aE .eql 3 (.tmp 5) (.const (I 11)) (I aX) (I 11)) fun Z=>
 (ay Z
 (ae pg X0 w0 (dw 30 #[(I 0),(I 0),(I 0)] #[]) fun a0=>
 ae pg X0 w0 (dw 30 #[(I 0),(I 0),(I 0)] #[]) fun b0=>
 ae pg X0 w0 (dw 27 #[(I 0),(I 0),(I 0)] #[]) fun c0=>
 un (ai (aO (cV [(I aX),(I bo),(I bu),(I bO),(I bZ),(I cr),(I cq),(I cz),(I dh),(I cY),(B bP),(I bN),(.float .f64 da),cP,cN,cO,cQ,(I cT),(I cE),(.float .f64 cA),(.float .f64 cG),(I cH),(I cC),(I cM),(I cD),(I cI),(I cJ),cK,cL] 7 (ad (aa a0))))) fun d0=>
 aB (aj (ad (aa a0))==3) (aB (ao (ad (aa a0)) aR.one) (un (ai (aO (cV (ad (aa d0)) 4 (ad (aa b0))))) fun e0=>
 aB (aj (ad (aa b0))==3) (aB (ao (ad (aa b0)) aR.one) (un (ai (aO (cV (ad (aa e0)) 1 (ad (aa c0))))) fun g0=>
 aB (aj (ad (aa c0))==3) (aB (ao (ad (aa c0)) aR.one) (un (ai (aO (cV (ad (aa g0)) 14 [(.slice none 0 0)]))) fun h0=>
 (e h0))))))))
 (ae pg X0 w0 (aE .eql 3 (.tmp 5) (.const (I 12)) (I aX) (I 12)) fun i0=>
 (ay i0
 (ae pg X0 w0 (dw 30 #[(I 0),(I 0),(I 0)] #[]) fun j0=>
 un (ai (aO (cV [(I aX),(I bo),(I bu),(I bO),(I bZ),(I cr),(I cq),(I cz),(I dh),(I cY),(B bP),(I bN),(.float .f64 da),cP,cN,cO,cQ,(I cT),(I cE),(.float .f64 cA),(.float .f64 cG),(I cH),(I cC),(I cM),(I cD),(I cI),(I cJ),cK,cL] 4 (ad (aa j0))))) fun k0=>
 aB (aj (ad (aa j0))==3) (aB (ao (ad (aa j0)) aR.one) (un (ai (aO (cV (ad (aa k0)) 16 [(.slice none 0 0)]))) fun l0=>
 (e l0))))
 (aB (ao [(I aX),(I bo),(I bu),(I bO),(I bZ),(I cr),(I cq),(I cz),(I dh),(I cY),(B bP),(I bN),(.float .f64 da),cP,cN,cO,cQ,(I cT),(I cE),(.float .f64 cA),(.float .f64 cG),(I cH),(I cC),(I cM),(I cD),(I cI),(I cJ),cK,cL] aR.one) ((fin R X0 w0 (aq #[(.agg #[(I aX),(I bo),(I bu),(I bO),(I bZ),(I cr),(I cq),(I cz),(I dh),(I cY),(B bP),(I bN),(.float .f64 da),cP,cN,cO,cQ,(I cT),(I cE),(.float .f64 cA),(.float .f64 cG),(I cH),(I cC),(I cM),(I cD),(I cI),(I cJ),cK,cL]),(B false)]))))))))))))))))))))) fun m0=>
 ae pg X0 w0 (aE .eql 3 (.tmp 5) (.const (I 2)) (I aX) (I 2)) fun n0=>
 (ay n0
 (m0 n0)
 (ae pg X0 w0 (aE .eql 3 (.tmp 5) (.const (I 7)) (I aX) (I 7)) fun o0=>
 (ay o0
 (m0 o0)
 (ae pg X0 w0 (aE .eql 3 (.tmp 5) (.const (I 8)) (I aX) (I 8)) fun q0=>
 (m0 q0)))))))))))
noncomputable def V6:bp:=⟨64,[(1,(pg.cellsOf 99))],[3,8,14,20,25,30,36,42,48,54,60],[0,2],[7,9,10,11,13,15,16,17,19,21,22,24,26,27,29,31,32,33,35,37,38,39,41,43,44,45,47,49,50,51,53,55,56,57,59,61,62],[]⟩
def Ki (_p0_0 bo bu bO bZ cr cq cz dh cY:Int) (bP:Bool) (bN:Int) (da:Nat) (cP cN cO cQ:Value) (cT cE:Int) (cA cG:Nat) (cH cC cM cD cI cJ:Int) (cK cL:Value):Prop:=
 (ae pg X0 w0 (dw 27 #[(I 0),(I 0),(I 0)] #[]) fun a=>
 ae pg X0 w0 (aE .eql 27 (.tmp 4) (.tmp 5) (.agg #[(I bo),(I bu),(I bO)]) a) fun b=>
 un (aU b true (.agg #[(I bZ),(I cr),(I cq)])) fun c=>
 aJ pg X0 w0 b true (vS (dw 30 #[(I 0),(I 0),(I 0)] #[])) fun d=>
 aJ pg X0 w0 b true (vS (aE .eql 30 (.tmp 9) (.tmp 10) c d)) fun e=>
 aC pg X0 w0 (aQ b e (B false)) fun g=>
 un (aU g true (.agg #[(I cz),(I dh),(I cY)])) fun h=>
 aJ pg X0 w0 g true (vS (dw 30 #[(I 0),(I 0),(I 0)] #[])) fun i=>
 aJ pg X0 w0 g true (vS (aE .eql 30 (.tmp 15) (.tmp 16) h i)) fun j=>
 aC pg X0 w0 (aQ g j (B false)) fun k=>
 un (aU k true (B bP)) fun l=>
 aJ pg X0 w0 k true (vS (aY br l)) fun m=>
 aC pg X0 w0 (aQ k m (B false)) fun n=>
 un (aU n true (I bN)) fun o=>
 aJ pg X0 w0 n true (vS (aE .eql 3 (.tmp 26) (.const (I 0)) o (I 0))) fun q=>
 aC pg X0 w0 (aQ n q (B false)) fun r=>
 un (aU r true (.float .f64 da)) fun s=>
 jn (fun (t:Value) (v:World) (y:XS)=>
 aJ pg y v r true (vS (aE .eql 130 (.tmp 32) (.const (aA bh 0)) t (aA bh 0))) fun z=>
 aC pg y v (aQ r z (B false)) fun A=>
 un (aU A true cP) fun C=>
 aJ pg y v A true (vS (cB 31 3 C)) fun D=>
 aJ pg y v A true (vS (aE .eql 3 (.tmp 38) (.const (I 0)) D (I 0))) fun E=>
 aC pg y v (aQ A E (B false)) fun F=>
 un (aU F true cN) fun G=>
 aJ pg y v F true (vS (cB 33 3 G)) fun H=>
 aJ pg y v F true (vS (aE .eql 3 (.tmp 44) (.const (I 0)) H (I 0))) fun L=>
 aC pg y v (aQ F L (B false)) fun M=>
 un (aU M true cO) fun N=>
 aJ pg y v M true (vS (cB 34 3 N)) fun O=>
 aJ pg y v M true (vS (aE .eql 3 (.tmp 50) (.const (I 0)) O (I 0))) fun Q=>
 aC pg y v (aQ M Q (B false)) fun S=>
 un (aU S true cQ) fun T=>
 aJ pg y v S true (vS (cB 97 3 T)) fun U=>
 aJ pg y v S true (vS (aE .eql 3 (.tmp 56) (.const (I 0)) U (I 0))) fun V=>
 aC pg y v (aQ S V (B false)) fun Y=>
 un (aU Y true (.agg #[(I cT),(I cE),(.float .f64 cA),(.float .f64 cG),(I cH),(I cC),(I cM),(I cD),(I cI),(I cJ),cK,cL])) fun Z=>
 jn (fun (a0:Value) (b0:World) (c0:XS)=>
 aC pg c0 b0 (aQ Y a0 (B false)) fun d0=>
 (fin R c0 b0 d0)) fun e0=>
 (gE Y true (eC pg R y v true 267 #[Z] e0) (e0 undef v y))) fun g0=>
 (gE r true (eC pg R X0 w0 true 97 #[s] g0) (g0 undef w0 X0)))
noncomputable def QH:bp:=⟨134,[(1,(pg.cellsOf 99))],[5,9,14,18,24,26,28,30,36,42,46,48,54,60,76,81,87,92,97,101,106,112,117,119,121,123,126,130],[0,2,3,4,6,7,12,22,40,52,57,85,90,95,110,115],[17,19,20,35,37,38,45,47,49,50,67,68,69,71,72,73,75,77,78,80,82,83,100,102,103,105,107,108,129,131,132],[]⟩
def Fm (aX bo bu bO bZ cr cq cz dh cY:Int) (bP:Bool) (bN:Int) (da:Nat) (cP cN cO cQ:Value) (cT cE:Int) (cA cG:Nat) (cH cC cM cD cI cJ:Int) (cK cL:Value):Prop:=
 ((ae pg X0 w0 (aE .eql 3 (.tmp 6) (.const (I 1)) (I aX) (I 1)) fun a=>
 (ay a
 (eC pg R X0 w0 true 176 #[(.agg #[(I cT),(I cE),(.float .f64 cA),(.float .f64 cG),(I cH),(I cC),(I cM),(I cD),(I cI),(I cJ),cK,cL])] fun b c d=>
 (fin R d c b))
 (ae pg X0 w0 (aE .eql 3 (.tmp 6) (.const (I 2)) (I aX) (I 2)) fun e=>
 (ay e
 (ae pg X0 w0 (binOp .geq 3 (I bN) (I 0)) fun g=>
 un (aU g true (I bN)) fun h=>
 aJ pg X0 w0 g true (vS (binOp .leq 3 h (I 281474976710656))) fun i=>
 aC pg X0 w0 (aQ g i (B false)) fun j=>
 (fin R X0 w0 j))
 (ae pg X0 w0 (aE .eql 3 (.tmp 6) (.const (I 3)) (I aX) (I 3)) fun k=>
 (ay k
 (ae pg X0 w0 (dw 266 #[(I bo),(I bu),(I bO),(I bZ),(I cr),(I cq),cP,cN] #[(0,(.agg #[(I bo),(I bu),(I bO)])),(1,(.agg #[(I bZ),(I cr),(I cq)])),(2,cP),(3,cN)]) fun l=>
 eC pg R X0 w0 true 253 #[l] fun m n o=>
 ae pg o n (aE .eql 28 (.tmp 33) (.const (I 0)) m (I 0)) fun q=>
 un (aU q true cO) fun r=>
 jn (fun (s:Value) (t:World) (v:XS)=>
 aC pg v t (aQ q s (B false)) fun y=>
 (fin R v t y)) fun z=>
 (gE q true (eC pg R o n true 249 #[r] z) (z undef n o)))
 (ae pg X0 w0 (aE .eql 3 (.tmp 6) (.const (I 4)) (I aX) (I 4)) fun A=>
 (ay A
 (eC pg R X0 w0 true 244 #[(.agg #[(I bo),(I bu),(I bO)])] fun C D E=>
 un (aU C true (B bP)) fun F=>
 un (aU C true (.agg #[(I bZ),(I cr),(I cq)])) fun G=>
 jn (fun (H:Value) (L:World) (M:XS)=>
 aC pg M L (aQ C H (B false)) fun N=>
 (fin R M L N)) fun O=>
 (gE C true (eC pg R E D true 268 #[F,G] O) (O undef D E)))
 (ae pg X0 w0 (aE .eql 3 (.tmp 6) (.const (I 5)) (I aX) (I 5)) fun Q=>
 (ay Q
 (eC pg R X0 w0 true 85 #[(.agg #[(I bZ),(I cr),(I cq)])] fun S T U=>
 (fin R U T S))
 (ae pg X0 w0 (aE .eql 3 (.tmp 6) (.const (I 6)) (I aX) (I 6)) fun V=>
 (ay V
 (eC pg R X0 w0 true 269 #[(.float .f64 da)] fun Y Z a0=>
 ae pg a0 Z (aD Y 0) fun b0=>
 ae pg a0 Z (aD Y 1) fun c0=>
 (ae pg a0 Z (aE .eql 28 (.tmp 65) (.const (I 0)) c0 (I 0)) fun d0=>
 un (aU d0 true b0) fun e0=>
 aJ pg a0 Z d0 true (vS (binOp .gtr 36 e0 (.float .f64 0))) fun g0=>
 aC pg a0 Z (aQ d0 g0 (B false)) fun h0=>
 un (aU h0 true b0) fun i0=>
 aJ pg a0 Z h0 true (vS (binOp .lss 36 i0 (.float .f64 4607182418800017408))) fun j0=>
 aC pg a0 Z (aQ h0 j0 (B false)) fun k0=>
 un (aU k0 true (I bN)) fun l0=>
 jn (fun (m0:Value) (n0:World) (o0:XS)=>
 aC pg o0 n0 (aQ k0 m0 (B false)) fun q0=>
 un (aU q0 true (.agg #[(I bZ),(I cr),(I cq)])) fun r0=>
 jn (fun (s0:Value) (t0:World) (v0:XS)=>
 aC pg v0 t0 (aQ q0 s0 (B false)) fun y0=>
 (fin R v0 t0 y0)) fun z0=>
 (gE q0 true (eC pg R o0 n0 true 85 #[r0] z0) (z0 undef n0 o0))) fun A0=>
 (gE k0 true (eC pg R a0 Z true 270 #[l0] A0) (A0 undef Z a0))))
 (ae pg X0 w0 (aE .eql 3 (.tmp 6) (.const (I 7)) (I aX) (I 7)) fun C0=>
 (ay C0
 (eC pg R X0 w0 true 270 #[(I bN)] fun D0 E0 F0=>
 (fin R F0 E0 D0))
 (ae pg X0 w0 (aE .eql 3 (.tmp 6) (.const (I 8)) (I aX) (I 8)) fun G0=>
 (ay G0
 (ae pg X0 w0 (binOp .geq 3 (I bN) (I 1)) fun H0=>
 (fin R X0 w0 H0))
 (ae pg X0 w0 (aE .eql 3 (.tmp 6) (.const (I 9)) (I aX) (I 9)) fun L0=>
 (ay L0
 (eC pg R X0 w0 true 244 #[(.agg #[(I bo),(I bu),(I bO)])] fun M0 N0 O0=>
 un (aU M0 true (.agg #[(I bZ),(I cr),(I cq)])) fun Q0=>
 jn (fun (S0:Value) (T0:World) (U0:XS)=>
 aC pg U0 T0 (aQ M0 S0 (B false)) fun V0=>
 un (aU V0 true cO) fun Y0=>
 jn (fun (Z0:Value) (a1:World) (b1:XS)=>
 aC pg b1 a1 (aQ V0 Z0 (B false)) fun c1=>
 (fin R b1 a1 c1)) fun d1=>
 (gE V0 true (eC pg R U0 T0 true 249 #[Y0] d1) (d1 undef T0 U0))) fun e1=>
 (gE M0 true (eC pg R O0 N0 true 271 #[Q0] e1) (e1 undef N0 O0)))
 (ae pg X0 w0 (aE .eql 3 (.tmp 6) (.const (I 10)) (I aX) (I 10)) fun g1=>
 (ay g1
 (eC pg R X0 w0 true 244 #[(.agg #[(I bo),(I bu),(I bO)])] fun h1 i1 j1=>
 (fin R j1 i1 h1))
 (ae pg X0 w0 (aE .eql 3 (.tmp 6) (.const (I 11)) (I aX) (I 11)) fun k1=>
 (ay k1
 (eC pg R X0 w0 true 177 #[(.agg #[(I cz),(I dh),(I cY)]),(.agg #[(I bZ),(I cr),(I cq)]),(.agg #[(I bo),(I bu),(I bO)]),cN] fun l1 m1 n1=>
 (fin R n1 m1 l1))
 (((eC pg R X0 w0 true 85 #[(.agg #[(I bZ),(I cr),(I cq)])] fun o1 q1 r1=>
 un (aU o1 true cQ) fun s1=>
 jn (fun (t1:Value) (v1:World) (y1:XS)=>
 aC pg y1 v1 (aQ o1 t1 (B false)) fun z1=>
 (fin R y1 v1 z1)) fun A1=>
 (gE o1 true (eC pg R r1 q1 true 272 #[s1] A1) (A1 undef q1 r1))))))))))))))))))))))))))))
noncomputable def V7:bp:=⟨19,[],[],[0,1,4],[],[]⟩
def Kj (p0:Value) (p1:Int):Prop:=
 (ae pg X0 w0 (lR ei 326 5 (aA fW p1)) fun a=>
 ae pg X0 w0 (binOp .shr 326 (aA fW p1) (aA bh 8)) fun b=>
 ae pg X0 w0 (lR ei 326 5 b) fun c=>
 ae pg X0 w0 (binOp .shr 326 (aA fW p1) (aA bh 16)) fun d=>
 ae pg X0 w0 (lR ei 326 5 d) fun e=>
 ae pg X0 w0 (binOp .shr 326 (aA fW p1) (aA bh 24)) fun g=>
 ae pg X0 w0 (lR ei 326 5 g) fun h=>
 eV pg R X0 w0 true (fC 94 5 1 4 #[(0,a),(1,c),(2,e),(3,h)]) fun i j k=>
 eV pg R k j true (e6 94 5 1 1 94 p0 i) fun l m n=>
 (fin R n m l))
def Bb (p0:Value):Prop:=
 ((jn (fun (a:World) (b:XS)=>
 (jn (fun (c:World) (d:XS)=>
 aC pg d c (aF p0) fun e=>
 ae pg d c (aS 109 4 4 1 e) fun g=>
 ae pg d c (ld1 4 g) fun h=>
 (fin R d c h)) fun i=>
 aC pg b a (aF p0) fun j=>
 ae pg b a (aS 109 4 4 1 j) fun k=>
 ae pg b a (ld1 4 k) fun l=>
 ae pg b a (aY br l) fun m=>
 (ay m
 (aC pg b a (aF p0) fun n=>
 ae pg b a (aS 109 2 2 1 n) fun o=>
 ae pg b a (ld1 3 o) fun q=>
 ae pg b a (binOp .add 3 q (I 1)) fun r=>
 aC pg b a (aF p0) fun s=>
 ae pg b a (aS 109 2 2 1 s) fun t=>
 eU pg R b a true (st1 3 1 t r) fun _ v y=>
 (i v y))
 (i a b)))) fun z=>
 aC pg X0 w0 (aF p0) fun A=>
 ae pg X0 w0 (aS 109 3 3 1 A) fun C=>
 ae pg X0 w0 (ld1 3 C) fun D=>
 ae pg X0 w0 (binOp .gtr 3 D (I 0)) fun E=>
 (ay E
 (aC pg X0 w0 (aF p0) fun F=>
 ae pg X0 w0 (aS 109 3 3 1 F) fun G=>
 ae pg X0 w0 (ld1 3 G) fun H=>
 ae pg X0 w0 (binOp .sub 3 H (I 1)) fun L=>
 aC pg X0 w0 (aF p0) fun M=>
 ae pg X0 w0 (aS 109 3 3 1 M) fun N=>
 eU pg R X0 w0 true (st1 3 1 N L) fun _ O Q=>
 (aC pg Q O (aF p0) fun S=>
 ae pg Q O (aS 109 3 3 1 S) fun T=>
 ae pg Q O (ld1 3 T) fun U=>
 ae pg Q O (aE .eql 3 (.tmp 19) (.const (I 0)) U (I 0)) fun V=>
 aC pg Q O (aF p0) fun Y=>
 ae pg Q O (aS 109 4 4 1 Y) fun Z=>
 eU pg R Q O true (st1 4 1 Z V) fun _ a0 b0=>
 (z a0 b0)))
 (z w0 X0))))
noncomputable def GK:bp:=⟨20,[],[],[0,1],[],[]⟩
def yp (c0 c1:Value):Prop:=
 ae pg X0 w0 (ld1 51 c0) fun a=>
 aC pg X0 w0 (aF a) fun b=>
 ae pg X0 w0 (aS 109 0 0 1 b) fun c=>
 ae pg X0 w0 (ld1 107 c) fun d=>
 ae pg X0 w0 (ld1 9 c1) fun e=>
 ae pg X0 w0 (dc 107 d e false) fun g=>
 ae pg X0 w0 (ld1 51 c0) fun h=>
 aC pg X0 w0 (aF h) fun i=>
 ae pg X0 w0 (aS 109 0 0 1 i) fun j=>
 ae pg X0 w0 (ld1 107 j) fun k=>
 ae pg X0 w0 (ld1 9 c1) fun l=>
 ae pg X0 w0 (dc 107 k l false) fun m=>
 aC pg X0 w0 (aF m) fun n=>
 ae pg X0 w0 (aS 325 0 0 1 n) fun o=>
 ae pg X0 w0 (ld1 94 o) fun q=>
 ae pg X0 w0 (cB 94 3 q) fun r=>
 aC pg X0 w0 (aF g) fun s=>
 ae pg X0 w0 (aS 325 1 1 1 s) fun t=>
 eU pg R X0 w0 true (st1 3 1 t r) fun _ v y=>
 fin R y v (aq #[])
noncomputable def vC:bp:=⟨148,[],[],[0,1,2,3,4,10,11,12,13,14,15,16,17,18,19,20,25,32,39,56,75,80,97,125],[69,70,72,73,74,83,84,85,86,87,88,89,90,91,92,93,94,95,96],[1,2,3,10,11]⟩
def nI (p0:Value) (p1 p2 p3:Int) (p4:Value):Prop:=
 ((sQ X0 w0 (I p2) (B true) (B true) (I p1) (I p3) 2 10 11 1 3 fun a b c d e g h i j=>
 (jn (fun (k l m n o:Value) (q:World) (r:XS)=>
 sR a b l n o k m q r) fun s=>
 ae pg j i (binOp .sub 3 c g) fun t=>
 (ae pg j i (binOp .leq 3 t (I 12)) fun v=>
 (ay v
 (eC pg R j i true 275 #[p0,g,c,p4] fun _ y z=>
 (fin R z y (aq #[])))
 ((ae pg j i (aE .eql 3 (.tmp 31) (.const (I 0)) h (I 0)) fun A=>
 (ay A
 (eC pg R j i true 276 #[p0,g,c,p4] fun _ C D=>
 (fin R D C (aq #[])))
 (((jn (fun (E:Value) (F:World) (G:XS)=>
 eC pg R G F true 278 #[p0,g,c,p4] fun H L M=>
 ae pg M L (aD H 0) fun N=>
 ae pg M L (aD H 1) fun O=>
 ((jn (fun (Q S:Value) (T:World) (U:XS)=>
 (jn (fun (V:World) (Y:XS)=>
 ae pg Y V (binOp .gtr 3 g (I 0)) fun Z=>
 un (aU Z true p4) fun a0=>
 un (aU Z true p0) fun b0=>
 un (aU Z true g) fun c0=>
 aJ pg Y V Z true (vS (binOp .sub 3 c0 (I 1))) fun d0=>
 aJ pg Y V Z true (vS (dr 32 7 b0 d0)) fun e0=>
 aJ pg Y V Z true (vS (dY 215 7 e0)) fun g0=>
 un (aU Z true Q) fun h0=>
 aJ pg Y V Z true (vS (dr 32 7 b0 h0)) fun i0=>
 aJ pg Y V Z true (vS (dY 215 7 i0)) fun j0=>
 jn (fun (k0:Value) (l0:World) (m0:XS)=>
 aJ pg m0 l0 Z true (vS (binOp .lss 3 k0 (I 0))) fun n0=>
 aJ pg m0 l0 Z true (vS (aY br n0)) fun o0=>
 aC pg m0 l0 (aQ Z o0 (B false)) fun q0=>
 (ay q0
 (eC pg R m0 l0 true 281 #[p0,g,c,Q,p4] fun r0 s0 t0=>
 (s r0 c E d e s0 t0))
 ((eC pg R m0 l0 true 282 #[p0,g,c,Q,p4] fun v0 y0 z0=>
 ae pg z0 y0 (aD v0 0) fun A0=>
 ae pg z0 y0 (aD v0 1) fun C0=>
 ((ae pg z0 y0 (binOp .sub 3 A0 g) fun D0=>
 ae pg z0 y0 (binOp .sub 3 c A0) fun E0=>
 (ae pg z0 y0 (binOp .quo 3 t (I 8)) fun F0=>
 (ae pg z0 y0 (binOp .lss 3 D0 E0) fun G0=>
 (ay G0
 (ae pg z0 y0 (binOp .geq 3 D0 F0) fun H0=>
 (eC pg R z0 y0 true 215 #[p0,g,A0,E,p4] fun _ L0 M0=>
 (ae pg M0 L0 (binOp .add 3 A0 (I 1)) fun N0=>
 (s N0 c E H0 C0 L0 M0))))
 (ae pg z0 y0 (binOp .geq 3 E0 F0) fun O0=>
 (ae pg z0 y0 (binOp .add 3 A0 (I 1)) fun Q0=>
 eC pg R z0 y0 true 215 #[p0,Q0,c,E,p4] fun _ S0 T0=>
 (s g A0 E O0 C0 S0 T0)))))))))))) fun U0=>
 (gE Z true (eF pg R Y V true a0 #[g0,j0] U0) (U0 undef V Y))) fun V0=>
 un (aU d true e) fun Y0=>
 aC pg U T (aQ d Y0 (B false)) fun Z0=>
 un (aU Z0 true S) fun a1=>
 aJ pg U T Z0 true (vS (aE .eql 355 (.tmp 73) (.const (I 1)) a1 (I 1))) fun b1=>
 aC pg U T (aQ Z0 b1 (B false)) fun c1=>
 (ay c1
 (eC pg R U T true 280 #[p0,g,c,p4] fun d1 e1 g1=>
 (ay d1
 (fin R g1 e1 (aq #[]))
 (V0 e1 g1)))
 (V0 T U)))) fun h1=>
 ae pg M L (aE .eql 355 (.tmp 55) (.const (I 2)) O (I 2)) fun i1=>
 (ay i1
 (eC pg R M L true 279 #[p0,g,c,p4] fun _ j1 k1=>
 (ae pg k1 j1 (binOp .sub 3 c (I 1)) fun l1=>
 ae pg k1 j1 (binOp .sub 3 N g) fun m1=>
 ae pg k1 j1 (binOp .sub 3 l1 m1) fun n1=>
 (h1 n1 (I 1) j1 k1)))
 (h1 N O L M))))) fun o1=>
 ae pg j i (aY br d) fun q1=>
 (ay q1
 (eC pg R j i true 277 #[p0,g,c,p4] fun _ r1 s1=>
 (ae pg s1 r1 (binOp .sub 3 h (I 1)) fun t1=>
 (o1 t1 r1 s1)))
 (o1 h i j)))))))))))))
noncomputable def V8:bp:=⟨8,[],[],[0,2,5],[],[]⟩
def Kk (p0:Nat):Prop:=
 (ae pg X0 w0 (aE .neq 36 (.tmp 3) (.tmp 4) (.float .f64 p0) (.float .f64 p0)) fun a=>
 (ay a
 (eC pg R X0 w0 true 289 #[(aA bh 9221120237041090560)] fun b c d=>
 (fin R d c b))
 (fin R X0 w0 (.float .f64 p0))))
noncomputable def Pt:bp:=⟨6,[(2,(pg.cellsOf 62))],[],[0],[],[]⟩
def Di (p0:Nat):Prop:=
 (eC pg R X0 w0 true 227 #[(.float .f64 p0)] fun a b c=>
 ae pg c b (dw 62 #[(I 1),a,(.string ⟨#[]⟩)] #[(0,(I 1)),(1,a)]) fun d=>
 un (ai (aa d)) fun e=>
 aB (aj (ad (aa d))==3) (aB (ao (ad (aa d)) aR.one) (un (cj e 0 3) fun g=>
 aB (ao [e] bH) (fin R c b g))))
noncomputable def QI:bp:=⟨19,[],[],[0,1,4,5,6,11,15],[],[]⟩
def EP (p0 p1:Nat):Prop:=
 (eC pg R X0 w0 true 290 #[(.float .f64 p0)] fun a b c=>
 eC pg R c b true 290 #[(.float .f64 p1)] fun d e g=>
 (ae pg g e (binOp .lss 130 a d) fun h=>
 (ay h
 ((fin R g e (I (-1))))
 (ae pg g e (binOp .gtr 130 a d) fun i=>
 (ay i
 (fin R g e (I 1))
 (fin R g e (I 0)))))))
noncomputable def V9:bp:=⟨13,[],[],[0,1,4,8],[],[]⟩
def IQ (p0 p1:Nat):Prop:=
 (eC pg R X0 w0 true 229 #[(.float .f64 p0),(.float .f64 p1)] fun a b c=>
 ae pg c b (binOp .gtr 3 a (I 0)) fun d=>
 (ay d
 (eC pg R c b true 227 #[(.float .f64 p1)] fun e g h=>
 (fin R h g e))
 (eC pg R c b true 227 #[(.float .f64 p0)] fun i j k=>
 (fin R k j i))))
noncomputable def XN:bp:=⟨13,[],[],[0,1,4,8],[],[]⟩
def LY (p0 p1:Nat):Prop:=
 (eC pg R X0 w0 true 229 #[(.float .f64 p0),(.float .f64 p1)] fun a b c=>
 ae pg c b (binOp .lss 3 a (I 0)) fun d=>
 (ay d
 (eC pg R c b true 227 #[(.float .f64 p1)] fun e g h=>
 (fin R h g e))
 (eC pg R c b true 227 #[(.float .f64 p0)] fun i j k=>
 (fin R k j i))))
noncomputable def sH:bp:=⟨53,[],[],[0,1,2,3,8,9,14,34],[21,22,23,24,25,26,27,28,29,30,31,32,33],[8,9]⟩
def lV (p0:Value) (p1 p2:Int) (p3:Value):Prop:=
 ae pg X0 w0 (binOp .add 3 (I p1) (I 1)) fun a=>
 (gS X0 w0 a undef 8 9 fun b c d _ e g=>
 ae pg g e (binOp .lss 3 d (I p2)) fun h=>
 (ay h
 (((gG g e d 9 fun i j k l m=>
 ae pg m l (binOp .gtr 3 k (I p1)) fun n=>
 un (aU n true p3) fun o=>
 un (aU n true p0) fun q=>
 un (aU n true k) fun r=>
 aJ pg m l n true (vS (dr 70 3 q r)) fun s=>
 aJ pg m l n true (vS (dY 27 3 s)) fun t=>
 aJ pg m l n true (vS (binOp .sub 3 r (I 1))) fun v=>
 aJ pg m l n true (vS (dr 70 3 q v)) fun y=>
 aJ pg m l n true (vS (dY 27 3 y)) fun z=>
 jn (fun (A:Value) (C:World) (D:XS)=>
 aJ pg D C n true (vS (binOp .lss 3 A (I 0))) fun E=>
 aC pg D C (aQ n E (B false)) fun F=>
 (ay F
 ((ae pg D C (binOp .sub 3 k (I 1)) fun G=>
 ae pg D C (binOp .sub 3 k (I 1)) fun H=>
 ae pg D C (dr 70 3 p0 H) fun L=>
 ae pg D C (dY 27 3 L) fun M=>
 ae pg D C (dr 70 3 p0 k) fun N=>
 ae pg D C (dY 27 3 N) fun O=>
 ae pg D C (dr 70 3 p0 k) fun Q=>
 eU pg R D C false (st1 27 3 Q M) fun _ S T=>
 ae pg T S (dr 70 3 p0 G) fun U=>
 eU pg R T S true (st1 27 3 U O) fun _ V Y=>
 ((ae pg Y V (binOp .sub 3 k (I 1)) fun Z=>
 gz i j Z V Y))))
 ((((ae pg D C (binOp .add 3 d (I 1)) fun a0=>
 gP b c a0 k C D)))))) fun b0=>
 (gE n true (eF pg R m l true o #[t,z] b0) (b0 undef l m)))))
 (fin R g e (aq #[]))))
noncomputable def QJ:bp:=⟨21,[(1,(pg.cellsOf 27))],[3,7,12,17],[0,2],[6,8,9,11,13,14,16,18,19],[]⟩
def Fo (aX bo bu:Int):Prop:=
 (ae pg X0 w0 (binOp .geq 3 (I aX) (I 1)) fun a=>
 un (aU a true (I aX)) fun b=>
 aJ pg X0 w0 a true (vS (binOp .leq 3 b (I 2))) fun c=>
 aC pg X0 w0 (aQ a c (B false)) fun d=>
 un (aU d true (I bo)) fun e=>
 aJ pg X0 w0 d true (vS (binOp .geq 3 e (I 1))) fun g=>
 aC pg X0 w0 (aQ d g (B false)) fun h=>
 un (aU h true (I bu)) fun i=>
 aJ pg X0 w0 h true (vS (binOp .geq 3 i (I 1))) fun j=>
 aC pg X0 w0 (aQ h j (B false)) fun k=>
 (fin R X0 w0 k))
def Kl (p0:Value):Prop:=
 (ae pg X0 w0 (cB 31 3 p0) fun a=>
 (gG X0 w0 (I 0) 7 fun b c d e g=>
 ae pg g e (binOp .lss 3 d a) fun h=>
 (ay h
 ((ae pg g e (dr 31 1 p0 d) fun i=>
 ae pg g e (ld1 9 i) fun j=>
 (eC pg R g e true 95 #[j] fun k l m=>
 ae pg m l (aY br k) fun n=>
 un (aU n false d) fun o=>
 aJ pg m l n false (vS (binOp .gtr 3 o (I 0))) fun q=>
 un (aU n false q) fun r=>
 un (aU r true p0) fun s=>
 un (aU r true d) fun t=>
 aJ pg m l r true (vS (binOp .sub 3 t (I 1))) fun v=>
 aJ pg m l r true (vS (dr 31 1 s v)) fun y=>
 aJ pg m l r true (vS (ld1 9 y)) fun z=>
 un (aU r true j) fun A=>
 aJ pg m l r true (vS (binOp .geq 9 z A)) fun C=>
 aJ pg m l n false (aQ r C (B false)) fun D=>
 aC pg m l (aQ n (B true) D) fun E=>
 (ay E
 (fin R m l (B false))
 (((ae pg m l (binOp .add 3 d (I 1)) fun F=>
 gz b c F l m)))))))
 (((ae pg g e (cB 31 3 p0) fun G=>
 ae pg g e (binOp .leq 3 G (I 16)) fun H=>
 (fin R g e H)))))))
noncomputable def Wa:bp:=⟨25,[],[],[0,1,2,6,8],[10,11,12,13,17,18,19,21,22,23],[]⟩
def Km (p0:Int) (p1:Bool) (p2:Value):Prop:=
 (ae pg X0 w0 (aE .eql 28 (.tmp 7) (.const (I 0)) (I p0) (I 0)) fun a=>
 (ay a
 (un (aU (B p1) true p2) fun b=>
 aJ pg X0 w0 (B p1) true (vS (cB 22 3 b)) fun c=>
 aJ pg X0 w0 (B p1) true (vS (aE .eql 3 (.tmp 12) (.const (I 0)) c (I 0))) fun d=>
 aC pg X0 w0 (aQ (B p1) d (B false)) fun e=>
 (fin R X0 w0 e))
 ((ae pg X0 w0 (binOp .gtr 28 (I p0) (I 0)) fun g=>
 un (aU g true (I p0)) fun h=>
 aJ pg X0 w0 g true (vS (binOp .leq 28 h (I 25))) fun i=>
 aC pg X0 w0 (aQ g i (B false)) fun j=>
 un (aU j true p2) fun k=>
 jn (fun (l:Value) (m:World) (n:XS)=>
 aC pg n m (aQ j l (B false)) fun o=>
 (fin R n m o)) fun q=>
 (gE j true (eC pg R X0 w0 true 294 #[k] q) (q undef w0 X0))))))
def Kn (p0:Value):Prop:=
 ((ae pg X0 w0 (cB 32 3 p0) fun a=>
 (gS X0 w0 (I 0) (.slice none 0 0) 8 3 fun b c d e g h=>
 ae pg h g (binOp .lss 3 d a) fun i=>
 (ay i
 ((ae pg h g (dr 32 7 p0 d) fun j=>
 ae pg h g (dY 215 7 j) fun k=>
 un (ai (aa k)) fun l=>
 aB (aj (ad (aa k))==7) (aB (ao (ad (aa k)) aR.one) ((aB (bH l) (un (cellOf l 0) fun m=>
 eV pg R h g true (fC 31 9 1 1 #[(0,m)]) fun n o q=>
 eV pg R q o true (e6 31 9 1 16 31 e n) fun r s t=>
 (aB (bH l) (un (cj l 4 3) fun v=>
 eC pg R t s true 85 #[v] fun y z A=>
 ae pg A z (aY br y) fun C=>
 un (cj l 1 3) fun D=>
 un (aU C false D) fun E=>
 jn (fun (F:Value) (G:World) (H:XS)=>
 aJ pg H G C false (vS (aY br F)) fun L=>
 aC pg H G (aQ C (B true) L) fun M=>
 un (aU M false v) fun N=>
 aJ pg H G M false (vS (dw 30 #[(I 0),(I 0),(I 0)] #[])) fun O=>
 aJ pg H G M false (vS (aE .eql 30 (.tmp 29) (.tmp 30) N O)) fun Q=>
 un (aU M false Q) fun S=>
 un (cellOf l 1) fun T=>
 un (aU S true T) fun U=>
 aJ pg H G S true (vS (aE .neq 3 (.tmp 35) (.const (I 0)) U (I 0))) fun V=>
 aJ pg H G M false (aQ S V (B false)) fun Y=>
 aC pg H G (aQ M (B true) Y) fun Z=>
 (ay Z
 (fin R H G (B false))
 (((ae pg H G (binOp .add 3 d (I 1)) fun a0=>
 gP b c a0 r G H))))) fun b0=>
 (gE C false (eC pg R A z true 96 #[E] b0) (b0 undef z A))))))))))
 (eC pg R h g true 245 #[e] fun c0 d0 e0=>
 (fin R e0 d0 c0))))))
def DR (p0:Value):Prop:=
 ((ae pg X0 w0 (cB 33 3 p0) fun a=>
 (gS X0 w0 (I 0) (.slice none 0 0) 8 3 fun b c d e g h=>
 ae pg h g (binOp .lss 3 d a) fun i=>
 (ay i
 ((ae pg h g (dr 33 4 p0 d) fun j=>
 ae pg h g (dY 64 4 j) fun k=>
 un (ai (aa k)) fun l=>
 aB (aj (ad (aa k))==4) (aB (ao (ad (aa k)) aR.one) ((aB (bH l) (un (cellOf l 0) fun m=>
 eV pg R h g true (fC 31 9 1 1 #[(0,m)]) fun n o q=>
 eV pg R q o true (e6 31 9 1 16 31 e n) fun r s t=>
 (aB (bH l) (un (cj l 1 3) fun v=>
 eC pg R t s true 96 #[v] fun y z A=>
 ae pg A z (aY br y) fun C=>
 (ay C
 (fin R A z (B false))
 (((ae pg A z (binOp .add 3 d (I 1)) fun D=>
 gP b c D r z A))))))))))))
 (eC pg R h g true 245 #[e] fun E F G=>
 (fin R G F E))))))
def HM (p0:Value):Prop:=
 (ae pg X0 w0 (cB 34 3 p0) fun a=>
 (gG X0 w0 (I 0) 7 fun b c d e g=>
 ae pg g e (binOp .lss 3 d a) fun h=>
 (ay h
 ((ae pg g e (dr 34 1 p0 d) fun i=>
 ae pg g e (ld1 3 i) fun j=>
 (ae pg g e (binOp .lss 3 j (I 1)) fun k=>
 un (aU k false j) fun l=>
 aJ pg g e k false (vS (binOp .gtr 3 l (I 12))) fun m=>
 aC pg g e (aQ k (B true) m) fun n=>
 un (aU n false d) fun o=>
 aJ pg g e n false (vS (binOp .gtr 3 o (I 0))) fun q=>
 un (aU n false q) fun r=>
 un (aU r true p0) fun s=>
 un (aU r true d) fun t=>
 aJ pg g e r true (vS (binOp .sub 3 t (I 1))) fun v=>
 aJ pg g e r true (vS (dr 34 1 s v)) fun y=>
 aJ pg g e r true (vS (ld1 3 y)) fun z=>
 un (aU r true j) fun A=>
 aJ pg g e r true (vS (binOp .geq 3 z A)) fun C=>
 aJ pg g e n false (aQ r C (B false)) fun D=>
 aC pg g e (aQ n (B true) D) fun E=>
 (ay E
 (fin R g e (B false))
 (((ae pg g e (binOp .add 3 d (I 1)) fun F=>
 gz b c F e g)))))))
 (((ae pg g e (cB 34 3 p0) fun G=>
 ae pg g e (binOp .gtr 3 G (I 0)) fun H=>
 (fin R g e H)))))))
noncomputable def XO:bp:=⟨17,[],[],[0,1,4,6,7,8,9,10,15],[],[9]⟩
def Mz (p0:Value) (p1:Int):Prop:=
 (ae pg X0 w0 (cB 34 3 p0) fun a=>
 (gG X0 w0 (I 0) 9 fun b c d e g=>
 ae pg g e (binOp .lss 3 d a) fun h=>
 (ay h
 ((ae pg g e (dr 34 1 p0 d) fun i=>
 ae pg g e (ld1 3 i) fun j=>
 (ae pg g e (aE .eql 3 (.tmp 13) (.tmp 14) j (I p1)) fun k=>
 (ay k
 (fin R g e (B true))
 (((ae pg g e (binOp .add 3 d (I 1)) fun l=>
 gz b c l e g)))))))
 (fin R g e (B false)))))
def Ko (p0 p1:Value):Prop:=
 (eC pg R X0 w0 true 295 #[] fun a b c=>
 ((ae pg c b (cB 39 3 p0) fun d=>
 (gS c b (I 0) (.string { data:= #[] }) 18 7 fun e g h i j k=>
 ae pg k j (binOp .lss 3 h d) fun l=>
 (ay l
 ((ae pg k j (dr 39 2 p0 h) fun m=>
 ae pg k j (dY 320 2 m) fun n=>
 un (ai (aa n)) fun o=>
 aB (aj (ad (aa n))==2) (aB (ao (ad (aa n)) aR.one) ((aB (bH o) (un (cj o 0 2) fun q=>
 eC pg R k j true 296 #[q,i] fun r s t=>
 ae pg t s (aY br r) fun v=>
 (ay v
 ((fin R t s (aq #[(.pointer none),(I 4)])))
 ((aC pg t s (aF a) fun y=>
 ae pg t s (aS 425 0 0 1 y) fun z=>
 ae pg t s (ld1 422 z) fun A=>
 aB (bH o) (un (cellOf o 1) fun C=>
 eC pg R t s false 297 #[C] fun D E F=>
 un (cellOf o 0) fun G=>
 eU pg R F E true (aP 422 A G D) fun _ H L=>
 (aB (bH o) (((ae pg L H (binOp .add 3 h (I 1)) fun M=>
 gP e g M G H L))))))))))))))
 (((ae pg k j (cB 40 3 p1) fun N=>
 (gG k j (I 0) 40 fun O Q S T U=>
 ae pg U T (binOp .lss 3 S N) fun V=>
 (ay V
 ((ae pg U T (dr 40 8 p1 S) fun Y=>
 ae pg U T (dY 266 8 Y) fun Z=>
 un (ai (aa Z)) fun a0=>
 aB (aj (ad (aa Z))==8) (aB (ao (ad (aa Z)) aR.one) ((aB (bH a0) (un (cj a0 0 8) fun b0=>
 eC pg R U T true 253 #[b0] fun c0 d0 e0=>
 (aC pg e0 d0 (aF a) fun g0=>
 ae pg e0 d0 (aS 425 1 1 1 g0) fun h0=>
 ae pg e0 d0 (ld1 423 h0) fun i0=>
 aB (bH a0) (un (cj a0 0 3) fun j0=>
 ae pg e0 d0 (dc 423 i0 j0 true) fun k0=>
 ae pg e0 d0 (aD k0 0) fun l0=>
 ae pg e0 d0 (aD k0 1) fun m0=>
 un (ai (aa l0)) fun _=>
 aB (aj (ad (aa l0))==8) (aB (ao (ad (aa l0)) aR.one) ((ae pg e0 d0 (aE .neq 28 (.tmp 57) (.const (I 0)) c0 (I 0)) fun n0=>
 (ay n0
 ((fin R e0 d0 (aq #[(.pointer none),c0])))
 ((ay m0
 ((fin R e0 d0 (aq #[(.pointer none),(I 9)])))
 (aB (bH a0) (eC pg R e0 d0 true 298 #[a,b0] fun o0 q0 r0=>
 (ay o0
 ((fin R r0 q0 (aq #[(.pointer none),(I 18)])))
 (aB (bH a0) (eC pg R r0 q0 true 299 #[a,b0] fun s0 t0 v0=>
 (ay s0
 ((fin R v0 t0 (aq #[(.pointer none),(I 20)])))
 (((aC pg v0 t0 (aF a) fun y0=>
 ae pg v0 t0 (aS 425 1 1 1 y0) fun z0=>
 ae pg v0 t0 (ld1 423 z0) fun A0=>
 aB (bH a0) (eC pg R v0 t0 false 300 #[b0] fun C0 D0 E0=>
 eU pg R E0 D0 true (aP 423 A0 j0 C0) fun _ F0 G0=>
 ((ae pg G0 F0 (binOp .add 3 S (I 1)) fun H0=>
 gz O Q H0 F0 G0))))))))))))))))))))))))))
 ((((fin R U T (aq #[a,(I 0)])))))))))))))))
noncomputable def Ii:bp:=⟨9,[],[],[0,1,3],[],[]⟩
def yV (p0:ByteArray) (c0:Value):Prop:=
 (ae pg X0 w0 (aS 42 0 0 4 c0) fun a=>
 ae pg X0 w0 (dY 38 4 a) fun b=>
 eC pg R X0 w0 false 12 #[(.string p0)] fun c d e=>
 eC pg R e d true 42 #[b,c] fun g h i=>
 (fin R i h g))
noncomputable def Kq:bp:=⟨45,[(1,(pg.cellsOf 266)),(4,(pg.cellsOf 64))],[6,11,16,22,27,33,40],[0,2,5,10,21,34,35,36,37,43],[15,17,18,19,26,28,29,30,31],[36]⟩
def Ag (aX bo bu bO bZ cr:Int) (cq cz:Value):Prop:=
 (eC pg R X0 w0 true 244 #[(.agg #[(I aX),(I bo),(I bu)])] fun a b c=>
 ae pg c b (aY br a) fun d=>
 (ay d
 (fin R c b (I 4))
 (eC pg R c b true 85 #[(.agg #[(I bO),(I bZ),(I cr)])] fun e g h=>
 ae pg h g (aY br e) fun i=>
 un (aU i false (.agg #[(I bO),(I bZ),(I cr)])) fun j=>
 aJ pg h g i false (vS (dw 30 #[(I 0),(I 0),(I 0)] #[])) fun k=>
 aJ pg h g i false (vS (aE .eql 30 (.tmp 17) (.tmp 18) j k)) fun l=>
 aC pg h g (aQ i (B true) l) fun m=>
 (ay m
 (fin R h g (I 17))
 (eC pg R h g true 301 #[cq] fun n o q=>
 ae pg q o (aY br n) fun r=>
 un (aU r false cz) fun s=>
 jn (fun (t:Value) (v:World) (y:XS)=>
 jn (fun (z:Value) (A:World) (C:XS)=>
 aJ pg C A r false (vS (aY br z)) fun D=>
 aC pg C A (aQ r (B true) D) fun E=>
 (ay E
 (fin R C A (I 4))
 (((ae pg C A (cB 33 3 cz) fun F=>
 (gG C A (I 0) 36 fun G H L M N=>
 ae pg N M (binOp .lss 3 L F) fun O=>
 (ay O
 ((ae pg N M (dr 33 4 cz L) fun Q=>
 ae pg N M (dY 64 4 Q) fun S=>
 un (ai (aa S)) fun T=>
 aB (aj (ad (aa S))==4) (aB (ao (ad (aa S)) aR.one) ((aB (bH T) (un (cj T 1 3) fun U=>
 eC pg R N M true 96 #[U] fun V Y Z=>
 ae pg Z Y (aY br V) fun a0=>
 (ay a0
 (fin R Z Y (I 4))
 (((ae pg Z Y (binOp .add 3 L (I 1)) fun b0=>
 gz G H b0 Y Z))))))))))
 (fin R N M (I 0))))))))) fun c0=>
 (gE r false (eC pg R y v true 301 #[t] c0) (c0 undef v y))) fun d0=>
 (gE r false (eC pg R q o true 302 #[s] d0) (d0 undef o q)))))))
def lY (p0 p1:Value):Prop:=
 (ae pg X0 w0 (cB 53 3 p0) fun a=>
 (gG X0 w0 (I 0) 8 fun b c d e g=>
 ae pg g e (binOp .lss 3 d a) fun h=>
 (ay h
 (((ae pg g e (dr 53 36 p0 d) fun i=>
 ae pg g e (dY 44 36 i) fun j=>
 eF pg R g e true p1 #[j] fun k l m=>
 (ay k
 (fin R m l d)
 (((ae pg m l (binOp .add 3 d (I 1)) fun n=>
 gz b c n l m)))))))
 ((((fin R g e (I (-1)))))))))
noncomputable def Ay:bp:=⟨8,[(2,(pg.cellsOf 44))],[4],[0,1,3],[],[]⟩
def r8 (_p0_0 _p0_1 _p0_2 _p0_3 _p0_4 _p0_5 cq _p0_7 _p0_8 _p0_9 _p0_10 _p0_11 _p0_12 _p0_13 _p0_14:Int) (_p0_15:Bool) (_p0_16 _p0_17:Int) (_p0_18 _p0_19 _p0_20 _p0_21 _p0_22 _p0_23:Value) (_p0_24 _p0_25:Int) (_p0_26 _p0_27:Nat) (_p0_28 _p0_29 _p0_30 _p0_31 _p0_32 _p0_33:Int) (_p0_34 _p0_35 c0:Value):Prop:=
 (ae pg X0 w0 (ld1 3 c0) fun a=>
 ae pg X0 w0 (aE .eql 3 (.tmp 5) (.tmp 6) (I cq) a) fun b=>
 (fin R X0 w0 b))
def Fp:Prop:=
 (eV pg R X0 w0 true (Instr.alloc 385 true (aq #[])) fun a b c=>
 ((qK c b (I 0) undef undef 4 9 3 fun d e g _ _ h i=>
 ae pg i h (binOp .lss 3 g (I 256)) fun j=>
 (ay j
 (((ae pg i h (lR fW 3 326 g) fun k=>
 ((gS i h (I 0) k 9 3 fun l m n o q r=>
 ae pg r q (binOp .lss 3 n (I 8)) fun s=>
 (ay s
 ((ae pg r q (binOp .shr 326 o (aA bh 1)) fun t=>
 ae pg r q (binOp .and 326 o (aA fW 1)) fun v=>
 ae pg r q (aY UnOp.neg v) fun y=>
 ae pg r q (binOp .and 326 (aA fW 2197175160) y) fun z=>
 ae pg r q (binOp .xor 326 t z) fun A=>
 ((ae pg r q (binOp .add 3 n (I 1)) fun C=>
 gP l m C A q r))))
 (((ae pg r q (Instr.indexAt 385 a g) fun D=>
 eU pg R r q true (st1 326 1 D o) fun _ E F=>
 ((ae pg F E (binOp .add 3 g (I 1)) fun G=>
 qL d e G n o E F)))))))))))
 (((ae pg i h (dY 385 256 a) fun H=>
 un (ai (aa H)) fun L=>
 aB (aj (ad (aa H))==256) (aB (ao (ad (aa H)) aR.one) (un (cj L 0 256) fun M=>
 aB (ao [L] bH) (fin R i h M))))))))))
def sZ (p0 p1 p2:Value):Prop:=
 aC pg X0 w0 (aF p1) fun a=>
 ae pg X0 w0 (ld1 318 a) fun b=>
 ae pg X0 w0 (cB 318 3 b) fun c=>
 ((jn (fun (d:Value) (e:World) (g:XS)=>
 (gG g e (I 0) 39 fun h i j k l=>
 ae pg l k (binOp .lss 3 j d) fun m=>
 (ay m
 ((((jn (fun (n:World) (o:XS)=>
 aC pg o n (aF p1) fun q=>
 ae pg o n (ld1 318 q) fun r=>
 ae pg o n (dr 318 6 r j) fun s=>
 eF pg R o n true p2 #[s] fun _ t v=>
 ((ae pg v t (binOp .add 3 j (I 1)) fun y=>
 gz h i y t v))) fun z=>
 aC pg l k (aF p0) fun A=>
 ae pg l k (aS 190 0 0 1 A) fun C=>
 ae pg l k (ld1 188 C) fun D=>
 ae pg l k (aE .eql 188 (.tmp 45) (.const (.pointer none)) D (.pointer none)) fun E=>
 (ay E
 ((aC pg l k (aF p1) fun F=>
 ae pg l k (ld1 318 F) fun G=>
 eV pg R l k false (fC 318 322 6 1 #[(0,(.agg #[(I 0),(I 0),(I 0),(I 0),(.float .f64 0),(.string { data:= #[] })]))]) fun H L M=>
 eV pg R M L true (e6 318 322 6 56 318 G H) fun N O Q=>
 aC pg Q O (aF p1) fun S=>
 eU pg R Q O true (st1 318 1 S N) fun _ T U=>
 (z T U)))
 (z k l))))))
 (fin R l k (aq #[]))))) fun V=>
 aC pg X0 w0 (aF p0) fun Y=>
 ae pg X0 w0 (aS 190 0 0 1 Y) fun Z=>
 ae pg X0 w0 (ld1 188 Z) fun a0=>
 ae pg X0 w0 (aE .neq 188 (.tmp 16) (.const (.pointer none)) a0 (.pointer none)) fun b0=>
 (ay b0
 (aC pg X0 w0 (aF p0) fun c0=>
 ae pg X0 w0 (aS 190 0 0 1 c0) fun d0=>
 ae pg X0 w0 (ld1 188 d0) fun e0=>
 eC pg R X0 w0 true 190 #[e0,c] fun _ g0 h0=>
 (V c g0 h0))
 (aC pg X0 w0 (aF p0) fun i0=>
 ae pg X0 w0 (aS 190 1 1 1 i0) fun j0=>
 ae pg X0 w0 (ld1 184 j0) fun k0=>
 aC pg X0 w0 (aF p0) fun l0=>
 ae pg X0 w0 (aS 190 1 1 1 l0) fun m0=>
 ae pg X0 w0 (ld1 184 m0) fun n0=>
 eC pg R X0 w0 false 200 #[n0] fun o0 q0 r0=>
 eC pg R r0 q0 true 199 #[k0,o0] fun s0 t0 v0=>
 (eC pg R v0 t0 true 192 #[p0] fun _ y0 z0=>
 (aC pg z0 y0 (aF p1) fun A0=>
 eU pg R z0 y0 true (st1 318 1 A0 (.slice none 0 0)) fun _ C0 D0=>
 (V s0 C0 D0)))))))
def vD (p0 p1:Value):Prop:=
 aC pg X0 w0 (aF p1) fun a=>
 ae pg X0 w0 (aS 322 0 0 3 a) fun b=>
 eC pg R X0 w0 true 138 #[p0,b] fun _ c d=>
 (aC pg d c (aF p1) fun e=>
 ae pg d c (aS 322 1 3 3 e) fun g=>
 eC pg R d c true 205 #[p0,g] fun _ h i=>
 fin R i h (aq #[]))
noncomputable def Ij:bp:=⟨17,[],[],[0,1],[],[]⟩
def yW (p0:Value) (p1:ByteArray):Prop:=
 ae pg X0 w0 (kN 9 3 (.string p1)) fun a=>
 eC pg R X0 w0 true 190 #[p0,a] fun _ b c=>
 (aC pg c b (aF p0) fun d=>
 ae pg c b (aS 350 0 0 1 d) fun e=>
 ae pg c b (ld1 94 e) fun g=>
 eV pg R c b true (Builtin.append_ #[94,9] 94 #[g,(.string p1)]) fun h i j=>
 aC pg j i (aF p0) fun k=>
 ae pg j i (aS 350 0 0 1 k) fun l=>
 eU pg R j i true (st1 94 1 l h) fun _ m n=>
 fin R n m (aq #[]))
noncomputable def Wb:bp:=⟨26,[(3,(pg.cellsOf 62))],[9,12,17,23],[0,1,6,13,14,20],[],[]⟩
def Kr (p0:Value) (dx:Int) (bY:Nat) (dP:ByteArray):Prop:=
 ((jn (fun (a:Value) (b:World) (c:XS)=>
 aB (bH a) (un (cellOf a 0) fun d=>
 eC pg R c b true 190 #[p0,d] fun _ e g=>
 (aB (bH a) (((jn (fun (h:World) (i:XS)=>
 fin R i h (aq #[])) fun j=>
 ae pg g e (aE .eql 3 (.tmp 13) (.const (I 1)) d (I 1)) fun k=>
 (ay k
 (aB (bH a) (un (cellOf a 1) fun l=>
 eC pg R g e true 203 #[p0,l] fun _ m n=>
 (j m n)))
 (ae pg g e (aE .eql 3 (.tmp 13) (.const (I 2)) d (I 2)) fun o=>
 (ay o
 (aB (bH a) (un (cellOf a 2) fun q=>
 eC pg R g e true 260 #[p0,q] fun _ r s=>
 (j r s)))
 (j e g)))))))))) fun t=>
 eC pg R X0 w0 true 96 #[(.agg #[(I dx),(.float .f64 bY),(.string dP)])] fun v y z=>
 ae pg z y (aY br v) fun A=>
 (ay A
 (ae pg z y (dw 62 #[(I 0),(.float .f64 0),(.string ⟨#[]⟩)] #[]) fun C=>
 un (ai (aa C)) fun D=>
 aB (aj (ad (aa C))==3) (aB (ao (ad (aa C)) aR.one) (t D y z)))
 ((t (.agg #[(I dx),(.float .f64 bY),(.string dP)]) y z)))))
noncomputable def Lu:bp:=⟨51,[(1,(pg.cellsOf 42))],[3,4,8,9,14,15,21,22,28,34,40,46],[0,2],[7,10,11,13,16,17,18,20,23,24,25,27,29,30,31,33,35,36,37,39,41,42,43,45,47,48,49],[]⟩
def Bc (aX bo:Int) (bu bO:Nat) (bZ cr cq cz dh cY:Int) (bP bN:Value):Prop:=
 (ae pg X0 w0 (aE .eql 3 (.tmp 5) (.const (I 0)) (I aX) (I 0)) fun a=>
 un (aU a true (I bo)) fun b=>
 aJ pg X0 w0 a true (vS (aE .eql 3 (.tmp 10) (.const (I 0)) b (I 0))) fun c=>
 aC pg X0 w0 (aQ a c (B false)) fun d=>
 un (aU d true (.float .f64 bu)) fun e=>
 jn (fun (g:Value) (h:World) (i:XS)=>
 aJ pg i h d true (vS (aE .eql 130 (.tmp 17) (.const (aA bh 0)) g (aA bh 0))) fun j=>
 aC pg i h (aQ d j (B false)) fun k=>
 un (aU k true (.float .f64 bO)) fun l=>
 jn (fun (m:Value) (n:World) (o:XS)=>
 aJ pg o n k true (vS (aE .eql 130 (.tmp 24) (.const (aA bh 0)) m (aA bh 0))) fun q=>
 aC pg o n (aQ k q (B false)) fun r=>
 un (aU r true (.agg #[(I bZ),(I cr),(I cq)])) fun s=>
 aJ pg o n r true (vS (dw 30 #[(I 0),(I 0),(I 0)] #[])) fun t=>
 aJ pg o n r true (vS (aE .eql 30 (.tmp 29) (.tmp 30) s t)) fun v=>
 aC pg o n (aQ r v (B false)) fun y=>
 un (aU y true (.agg #[(I cz),(I dh),(I cY)])) fun z=>
 aJ pg o n y true (vS (dw 30 #[(I 0),(I 0),(I 0)] #[])) fun A=>
 aJ pg o n y true (vS (aE .eql 30 (.tmp 35) (.tmp 36) z A)) fun C=>
 aC pg o n (aQ y C (B false)) fun D=>
 un (aU D true bP) fun E=>
 aJ pg o n D true (vS (cB 39 3 E)) fun F=>
 aJ pg o n D true (vS (aE .eql 3 (.tmp 42) (.const (I 0)) F (I 0))) fun G=>
 aC pg o n (aQ D G (B false)) fun H=>
 un (aU H true bN) fun L=>
 aJ pg o n H true (vS (cB 40 3 L)) fun M=>
 aJ pg o n H true (vS (aE .eql 3 (.tmp 48) (.const (I 0)) M (I 0))) fun N=>
 aC pg o n (aQ H N (B false)) fun O=>
 (fin R o n O)) fun Q=>
 (gE k true (eC pg R i h true 97 #[l] Q) (Q undef h i))) fun S=>
 (gE d true (eC pg R X0 w0 true 97 #[e] S) (S undef w0 X0)))
noncomputable def Pu:bp:=⟨11,[(3,(pg.cellsOf 30))],[],[0,1,4,5],[],[]⟩
def DS (p0:Bool) (dx bY dP:Int):Prop:=
 ((ay (B p0)
 (eC pg R X0 w0 true 271 #[(.agg #[(I dx),(I bY),(I dP)])] fun a b c=>
 (fin R c b a))
 ((ae pg X0 w0 (dw 30 #[(I 0),(I 0),(I 0)] #[]) fun d=>
 ae pg X0 w0 (aE .eql 30 (.tmp 8) (.tmp 9) (.agg #[(I dx),(I bY),(I dP)]) d) fun e=>
 (fin R X0 w0 e)))))
noncomputable def QK:bp:=⟨13,[],[],[0,2,3,4,8],[],[]⟩
def Fq (p0:Nat):Prop:=
 (eC pg R X0 w0 true 166 #[(.float .f64 p0)] fun a b c=>
 ae pg c b (aE .eql 3 (.tmp 6) (.const (I 4)) a (I 4)) fun d=>
 (ay d
 ((fin R c b (aq #[(.float .f64 0),(I 0)])))
 (eC pg R c b true 181 #[(.float .f64 p0)] fun e g h=>
 ae pg h g (aY br e) fun i=>
 (ay i
 ((fin R h g (aq #[(.float .f64 0),(I 1)])))
 ((((fin R h g (aq #[(.float .f64 p0),(I 0)])))))))))
noncomputable def QL:bp:=⟨9,[],[],[0,2],[5,6,7],[]⟩
def Fs (p0:Int):Prop:=
 (ae pg X0 w0 (binOp .geq 3 (I p0) (I 1)) fun a=>
 un (aU a true (I p0)) fun b=>
 aJ pg X0 w0 a true (vS (binOp .leq 3 b (I 12))) fun c=>
 aC pg X0 w0 (aQ a c (B false)) fun d=>
 (fin R X0 w0 d))
noncomputable def QM:bp:=⟨10,[(1,(pg.cellsOf 30))],[],[0,2],[5,6,7,8],[]⟩
def Fu (aX bo bu:Int):Prop:=
 (eC pg R X0 w0 true 85 #[(.agg #[(I aX),(I bo),(I bu)])] fun a b c=>
 un (aU a true (.agg #[(I aX),(I bo),(I bu)])) fun d=>
 aJ pg c b a true (vS (dw 30 #[(I 0),(I 0),(I 0)] #[])) fun e=>
 aJ pg c b a true (vS (aE .neq 30 (.tmp 6) (.tmp 7) d e)) fun g=>
 aC pg c b (aQ a g (B false)) fun h=>
 (fin R c b h))
def HN (p0:Value):Prop:=
 (ae pg X0 w0 (cB 97 3 p0) fun a=>
 (gG X0 w0 (I 0) 7 fun b c d e g=>
 ae pg g e (binOp .lss 3 d a) fun h=>
 (ay h
 ((ae pg g e (dr 97 4 p0 d) fun i=>
 ae pg g e (dY 247 4 i) fun j=>
 un (ai (aa j)) fun k=>
 aB (aj (ad (aa j))==4) (aB (ao (ad (aa j)) aR.one) ((aB (bH k) (un (cellOf k 0) fun l=>
 eC pg R g e true 95 #[l] fun m n o=>
 ae pg o n (aY br m) fun q=>
 un (aU q false d) fun r=>
 aJ pg o n q false (vS (binOp .gtr 3 r (I 0))) fun s=>
 un (aU q false s) fun t=>
 un (aU t true p0) fun v=>
 un (aU t true d) fun y=>
 aJ pg o n t true (vS (binOp .sub 3 y (I 1))) fun z=>
 aJ pg o n t true (vS (dr 97 4 v z)) fun A=>
 aJ pg o n t true (vS (aS 247 0 0 1 A)) fun C=>
 aJ pg o n t true (vS (ld1 9 C)) fun D=>
 un (aU t true l) fun E=>
 aJ pg o n t true (vS (binOp .geq 9 D E)) fun F=>
 aJ pg o n q false (aQ t F (B false)) fun G=>
 aC pg o n (aQ q (B true) G) fun H=>
 un (cj k 1 3) fun L=>
 un (aU H false L) fun M=>
 jn (fun (N:Value) (O:World) (Q:XS)=>
 aJ pg Q O H false (vS (aY br N)) fun S=>
 aC pg Q O (aQ H (B true) S) fun T=>
 un (cellOf k 1) fun U=>
 un (aU T false U) fun V=>
 aJ pg Q O T false (vS (aE .eql 3 (.tmp 40) (.const (I 0)) V (I 0))) fun Y=>
 aC pg Q O (aQ T (B true) Y) fun Z=>
 (ay Z
 (fin R Q O (B false))
 (((ae pg Q O (binOp .add 3 d (I 1)) fun a0=>
 gz b c a0 O Q))))) fun b0=>
 (gE H false (eC pg R o n true 96 #[M] b0) (b0 undef n o))))))))
 (fin R g e (B true)))))
noncomputable def sa:bp:=⟨53,[],[],[0,1,2,3,8,9,14,34],[21,22,23,24,25,26,27,28,29,30,31,32,33],[8,9]⟩
def lI (p0:Value) (p1 p2:Int) (p3:Value):Prop:=
 ae pg X0 w0 (binOp .add 3 (I p1) (I 1)) fun a=>
 (gS X0 w0 a undef 8 9 fun b c d _ e g=>
 ae pg g e (binOp .lss 3 d (I p2)) fun h=>
 (ay h
 (((gG g e d 9 fun i j k l m=>
 ae pg m l (binOp .gtr 3 k (I p1)) fun n=>
 un (aU n true p3) fun o=>
 un (aU n true p0) fun q=>
 un (aU n true k) fun r=>
 aJ pg m l n true (vS (dr 32 7 q r)) fun s=>
 aJ pg m l n true (vS (dY 215 7 s)) fun t=>
 aJ pg m l n true (vS (binOp .sub 3 r (I 1))) fun v=>
 aJ pg m l n true (vS (dr 32 7 q v)) fun y=>
 aJ pg m l n true (vS (dY 215 7 y)) fun z=>
 jn (fun (A:Value) (C:World) (D:XS)=>
 aJ pg D C n true (vS (binOp .lss 3 A (I 0))) fun E=>
 aC pg D C (aQ n E (B false)) fun F=>
 (ay F
 ((ae pg D C (binOp .sub 3 k (I 1)) fun G=>
 ae pg D C (binOp .sub 3 k (I 1)) fun H=>
 ae pg D C (dr 32 7 p0 H) fun L=>
 ae pg D C (dY 215 7 L) fun M=>
 ae pg D C (dr 32 7 p0 k) fun N=>
 ae pg D C (dY 215 7 N) fun O=>
 ae pg D C (dr 32 7 p0 k) fun Q=>
 eU pg R D C false (st1 215 7 Q M) fun _ S T=>
 ae pg T S (dr 32 7 p0 G) fun U=>
 eU pg R T S true (st1 215 7 U O) fun _ V Y=>
 ((ae pg Y V (binOp .sub 3 k (I 1)) fun Z=>
 gz i j Z V Y))))
 ((((ae pg D C (binOp .add 3 d (I 1)) fun a0=>
 gP b c a0 k C D)))))) fun b0=>
 (gE n true (eF pg R m l true o #[t,z] b0) (b0 undef l m)))))
 (fin R g e (aq #[]))))
noncomputable def XP:bp:=⟨13,[],[],[0,2,3,8],[],[]⟩
def LX (p0:Nat):Prop:=
 (eC pg R X0 w0 true 164 #[(.float .f64 p0)] fun a b c=>
 (ae pg c b (binOp .and 130 a (aA bh 9223372036854775808)) fun d=>
 ae pg c b (aE .neq 130 (.tmp 7) (.const (aA bh 0)) d (aA bh 0)) fun e=>
 (ay e
 (ae pg c b (aY yi a) fun g=>
 (fin R c b g))
 ((ae pg c b (binOp .or 130 a (aA bh 9223372036854775808)) fun h=>
 (fin R c b h))))))
def HO (p0:Value):Prop:=
 (ae pg X0 w0 (cB 22 3 p0) fun a=>
 (gG X0 w0 (I 0) 7 fun b c d e g=>
 ae pg g e (binOp .lss 3 d a) fun h=>
 (ay h
 ((ae pg g e (dr 22 4 p0 d) fun i=>
 ae pg g e (dY 38 4 i) fun j=>
 un (ai (aa j)) fun k=>
 aB (aj (ad (aa j))==4) (aB (ao (ad (aa j)) aR.one) ((aB (bH k) (un (cj k 0 4) fun l=>
 eC pg R g e true 125 #[l] fun m n o=>
 ae pg o n (aY br m) fun q=>
 (ay q
 (fin R o n (B false))
 (((ae pg o n (binOp .add 3 d (I 1)) fun r=>
 gz b c r n o))))))))))
 (((ae pg g e (cB 22 3 p0) fun s=>
 ae pg g e (binOp .leq 3 s (I 12)) fun t=>
 (fin R g e t)))))))
def MA:Prop:=
 (eV pg R X0 w0 true (Instr.makeMap 422 none) fun a b c=>
 eV pg R c b true (Instr.makeMap 423 none) fun d e g=>
 ae pg g e (dw 425 #[a,d,(I 0),(I 0),(I 0)] #[(0,a),(1,d)]) fun h=>
 eV pg R g e true (dN 425 h) fun i j k=>
 (fin R k j i))
noncomputable def Pv:bp:=⟨52,[(2,(pg.cellsOf 320)),(5,(pg.cellsOf 30)),(7,(pg.cellsOf 322))],[8,13,19,25,32,37,44,49],[0,1,4,23,26,27,28,29,48],[12,14,15,16,18,20,21,22,36,38,39,40,41,43,45,46,47],[5,28]⟩
def DT (aX:ByteArray) (bo:Value) (p1:ByteArray):Prop:=
 (eC pg R X0 w0 true 95 #[(.string aX)] fun a b c=>
 ae pg c b (aY br a) fun d=>
 un (aU d false (.string aX)) fun e=>
 un (aU d false (.string p1)) fun g=>
 aJ pg c b d false (vS (binOp .leq 9 e g)) fun h=>
 aC pg c b (aQ d (B true) h) fun i=>
 un (aU i false bo) fun j=>
 aJ pg c b i false (vS (cB 318 3 j)) fun k=>
 aJ pg c b i false (vS (aE .eql 3 (.tmp 21) (.const (I 0)) k (I 0))) fun l=>
 aC pg c b (aQ i (B true) l) fun m=>
 (ay m
 (fin R c b (B false))
 ((ae pg c b (dw 30 #[(I 0),(I 0),(I 0)] #[]) fun n=>
 un (ai (aa n)) fun o=>
 aB (aj (ad (aa n))==3) (aB (ao (ad (aa n)) aR.one) ((ae pg c b (cB 318 3 bo) fun q=>
 (gS c b (I 0) o 28 5 fun r s t v y z=>
 ae pg z y (binOp .lss 3 t q) fun A=>
 (ay A
 ((ae pg z y (dr 318 6 bo t) fun C=>
 ae pg z y (dY 322 6 C) fun D=>
 un (ai (aa D)) fun E=>
 aB (aj (ad (aa D))==6) (aB (ao (ad (aa D)) aR.one) ((aB (bH E) (un (cj E 0 3) fun F=>
 eC pg R z y true 85 #[F] fun G H L=>
 ae pg L H (aY br G) fun M=>
 un (aU M false F) fun N=>
 aB (bH v) (un (cj v 0 3) fun O=>
 un (aU M false O) fun Q=>
 jn (fun (S:Value) (T:World) (U:XS)=>
 aJ pg U T M false (vS (binOp .leq 3 S (I 0))) fun V=>
 aC pg U T (aQ M (B true) V) fun Y=>
 un (cj E 3 3) fun Z=>
 un (aU Y false Z) fun a0=>
 jn (fun (b0:Value) (c0:World) (d0:XS)=>
 aJ pg d0 c0 Y false (vS (aY br b0)) fun e0=>
 aC pg d0 c0 (aQ Y (B true) e0) fun g0=>
 (ay g0
 (fin R d0 c0 (B false))
 ((aB (bH E) (aB (bH v) (un (ai (aa F)) fun h0=>
 aB (aj (ad (aa F))==3) (aB (ao (ad (aa F)) aR.one) (((ae pg d0 c0 (binOp .add 3 t (I 1)) fun i0=>
 gP r s i0 h0 c0 d0)))))))))) fun j0=>
 (gE Y false (eC pg R U T true 96 #[a0] j0) (j0 undef T U))) fun k0=>
 (gE M false (eC pg R L H true 180 #[N,Q] k0) (k0 undef H L)))))))))
 (fin R z y (B true)))))))))))
def ku (p0:Value):Prop:=
 (ae pg X0 w0 (aE .eql 318 (.tmp 3) (.const (.slice none 0 0)) p0 (.slice none 0 0)) fun a=>
 (ay a
 (fin R X0 w0 (.slice none 0 0))
 (eV pg R X0 w0 true (fC 318 322 6 0 #[]) fun b c d=>
 eV pg R d c true (e6 318 322 6 56 318 b p0) fun e g h=>
 (fin R h g e))))
noncomputable def GN:bp:=⟨50,[(3,(pg.cellsOf 266)),(6,(pg.cellsOf 266)),(8,(pg.cellsOf 64))],[20,28,32,34,39],[0,1,4,10,15,17,21,22,23,24,37,40,41,42,43,48],[31,33,35,36],[23,42]⟩
def yq (p0:Value) (_p1_0 _p1_1 _p1_2 _p1_3 _p1_4 _p1_5:Int) (iO jc:Value):Prop:=
 (aC pg X0 w0 (aF p0) fun a=>
 ae pg X0 w0 (aS 425 1 1 1 a) fun b=>
 ae pg X0 w0 (ld1 423 b) fun c=>
 eV pg R X0 w0 true (Instr.range 423 c) fun d e g=>
 (gS g e undef undef 42 23 fun h i _ _ j k=>
 eV pg R k j true (Instr.next d false 0) fun l m n=>
 ae pg n m (aD l 0) fun o=>
 (ay o
 ((eV pg R n m true (Instr.entry d) fun q r s=>
 ae pg s r (aD q 1) fun t=>
 un (ai (aa t)) fun v=>
 aB (aj (ad (aa t))==8) (aB (ao (ad (aa t)) aR.one) ((ae pg s r (cB 33 3 jc) fun y=>
 (gG s r (I 0) 23 fun z A C D E=>
 ae pg E D (binOp .lss 3 C y) fun F=>
 (ay F
 ((ae pg E D (dr 33 4 jc C) fun G=>
 ae pg E D (dY 64 4 G) fun H=>
 un (ai (aa H)) fun L=>
 aB (aj (ad (aa H))==4) (aB (ao (ad (aa H)) aR.one) ((aB (bH v) (aB (bH L) (un (cj v 0 8) fun M=>
 un (cellOf L 0) fun N=>
 eC pg R E D true 318 #[M,N] fun O Q S=>
 un (cellOf v 6) fun T=>
 un (aU O false T) fun U=>
 un (aU O false N) fun V=>
 jn (fun (Y:Value) (Z:World) (a0:XS)=>
 aC pg a0 Z (aQ O (B true) Y) fun b0=>
 (ay b0
 (fin R a0 Z (B true))
 (((ae pg a0 Z (binOp .add 3 C (I 1)) fun c0=>
 gz z A c0 Z a0))))) fun d0=>
 (gE O false (eC pg R S Q true 93 #[U,V] d0) (d0 undef Q S)))))))))
 (((ae pg E D (cB 31 3 iO) fun e0=>
 (gG E D (I 0) 42 fun g0 h0 i0 j0 k0=>
 ae pg k0 j0 (binOp .lss 3 i0 e0) fun l0=>
 (ay l0
 ((ae pg k0 j0 (dr 31 1 iO i0) fun m0=>
 ae pg k0 j0 (ld1 9 m0) fun n0=>
 (aB (bH v) (un (cj v 0 8) fun o0=>
 eC pg R k0 j0 true 318 #[o0,n0] fun q0 r0 s0=>
 (ay q0
 (fin R s0 r0 (B true))
 (((ae pg s0 r0 (binOp .add 3 i0 (I 1)) fun t0=>
 gz g0 h0 t0 r0 s0))))))))
 (gP h i i0 C j0 k0)))))))))))))
 (fin R n m (B false)))))
noncomputable def Lv:bp:=⟨24,[(3,(pg.cellsOf 266)),(6,(pg.cellsOf 64))],[7,15,19],[0,1,4,8,9,10,11,22],[],[10]⟩
def Bd (p0:Value) (_p1_0 _p1_1 _p1_2 iu iB jy:Int) (_p1_6 jc:Value):Prop:=
 (ae pg X0 w0 (cB 33 3 jc) fun a=>
 (gG X0 w0 (I 0) 10 fun b c d e g=>
 ae pg g e (binOp .lss 3 d a) fun h=>
 (ay h
 ((ae pg g e (dr 33 4 jc d) fun i=>
 ae pg g e (dY 64 4 i) fun j=>
 un (ai (aa j)) fun k=>
 aB (aj (ad (aa j))==4) (aB (ao (ad (aa j)) aR.one) ((aB (bH k) (un (cellOf k 0) fun l=>
 eC pg R g e false 319 #[p0,l] fun m n o=>
 ae pg o n (fdV 215 2 4 3 m) fun q=>
 eC pg R o n true 180 #[q,(.agg #[(I iu),(I iB),(I jy)])] fun r s t=>
 ae pg t s (binOp .geq 3 r (I 0)) fun v=>
 (ay v
 (fin R t s (B true))
 (((ae pg t s (binOp .add 3 d (I 1)) fun y=>
 gz b c y s t))))))))))
 (fin R g e (B false)))))
noncomputable def S6:bp:=⟨12,[(1,(pg.cellsOf 266)),(2,(pg.cellsOf 266))],[3,6,7,10],[0],[],[]⟩
def HP (aX bo bu bO bZ cr:Int) (cq cz:Value):Prop:=
 (eC pg R X0 w0 true 156 #[cq] fun a b c=>
 aB (aR.one a) ((eC pg R c b true 158 #[cz] fun d e g=>
 aB (aR.one d) ((aB (ao [(I aX),(I bo),(I bu),(I bO),(I bZ),(I cr),a,d] aR.one) ((fin R g e (.agg #[(I aX),(I bo),(I bu),(I bO),(I bZ),(I cr),a,d]))))))))
def Ks (p0:Value):Prop:=
 (ae pg X0 w0 (cB 31 3 p0) fun a=>
 (gG X0 w0 (I 0) 7 fun b c d e g=>
 ae pg g e (binOp .lss 3 d a) fun h=>
 (ay h
 ((ae pg g e (dr 31 1 p0 d) fun i=>
 ae pg g e (ld1 9 i) fun j=>
 (eC pg R g e true 95 #[j] fun k l m=>
 ae pg m l (aY br k) fun n=>
 un (aU n false d) fun o=>
 aJ pg m l n false (vS (binOp .gtr 3 o (I 0))) fun q=>
 un (aU n false q) fun r=>
 un (aU r true p0) fun s=>
 un (aU r true d) fun t=>
 aJ pg m l r true (vS (binOp .sub 3 t (I 1))) fun v=>
 aJ pg m l r true (vS (dr 31 1 s v)) fun y=>
 aJ pg m l r true (vS (ld1 9 y)) fun z=>
 un (aU r true j) fun A=>
 aJ pg m l r true (vS (binOp .geq 9 z A)) fun C=>
 aJ pg m l n false (aQ r C (B false)) fun D=>
 aC pg m l (aQ n (B true) D) fun E=>
 (ay E
 (fin R m l (B false))
 (((ae pg m l (binOp .add 3 d (I 1)) fun F=>
 gz b c F l m)))))))
 (((ae pg g e (cB 31 3 p0) fun G=>
 ae pg g e (binOp .leq 3 G (I 16)) fun H=>
 (fin R g e H)))))))
def Be (p0:Value):Prop:=
 ((ae pg X0 w0 (cB 33 3 p0) fun a=>
 (gS X0 w0 (I 0) (.slice none 0 0) 8 3 fun b c d e g h=>
 ae pg h g (binOp .lss 3 d a) fun i=>
 (ay i
 ((ae pg h g (dr 33 4 p0 d) fun j=>
 ae pg h g (dY 64 4 j) fun k=>
 un (ai (aa k)) fun l=>
 aB (aj (ad (aa k))==4) (aB (ao (ad (aa k)) aR.one) ((aB (bH l) (un (cellOf l 0) fun m=>
 eV pg R h g true (fC 31 9 1 1 #[(0,m)]) fun n o q=>
 eV pg R q o true (e6 31 9 1 16 31 e n) fun r s t=>
 ((ae pg t s (binOp .add 3 d (I 1)) fun v=>
 gP b c v r s t))))))))
 (fin R h g e)))))
noncomputable def QN:bp:=⟨9,[(2,(pg.cellsOf 266))],[5],[0,1,3,4],[],[]⟩
def Fv (_p0_0 _p0_1 _p0_2 _p0_3 _p0_4 _p0_5:Int) (_p0_6 cz:Value) (p1:ByteArray):Prop:=
 eV pg R X0 w0 true (dN 9 (.string p1)) fun a b c=>
 (ae pg c b (cp (e7 326) #[] #[a]) fun d=>
 eC pg R c b true 325 #[cz,d] fun e g h=>
 (fin R h g e))
noncomputable def GO:bp:=⟨9,[(4,(pg.cellsOf 215))],[],[0,1],[],[]⟩
def yr (p0:Value) (p1:ByteArray):Prop:=
 (ae pg X0 w0 (dw 30 #[(I 0),(I 0),(I 0)] #[]) fun a=>
 eC pg R X0 w0 true 327 #[p0,(.string p1),a,(B true)] fun b c d=>
 un (ai (aa b)) fun e=>
 aB (aj (ad (aa b))==7) (aB (ao (ad (aa b)) aR.one) (un (cj e 0 7) fun g=>
 aB (ao [e] bH) (fin R d c g))))
def jF (p0 p1:Value):Prop:=
 (eC pg R X0 w0 true 329 #[p0,p1] fun a b c=>
 ae pg c b (binOp .geq 3 a (I 0)) fun d=>
 (fin R c b d))
noncomputable def Lw:bp:=⟨8,[(2,(pg.cellsOf 64))],[4],[0,1,3],[],[]⟩
def Bf (aX:ByteArray) (_p0_1:Int) (_p0_2:Nat) (_p0_3:ByteArray) (c0:Value):Prop:=
 (ae pg X0 w0 (ld1 9 c0) fun a=>
 ae pg X0 w0 (aE .eql 9 (.tmp 5) (.tmp 6) (.string aX) a) fun b=>
 (fin R X0 w0 b))
noncomputable def GP:bp:=⟨41,[(6,(pg.cellsOf 30)),(8,(pg.cellsOf 215)),(9,(pg.cellsOf 215)),(11,(pg.cellsOf 322))],[27,33,35,37,38],[0,1,2,3,19,20,21,22,32],[26,28,29,30,31],[9,21]⟩
def yt (p0:Value) (p1:ByteArray) (gR gM iG:Int) (p3:Bool):Prop:=
 (ae pg X0 w0 (dw 215 #[(.string p1),(I 0),(.float .f64 0),(.string ⟨#[]⟩),(I 0),(I 0),(I 0)] #[(0,(.string p1))]) fun a=>
 un (ai (aa a)) fun b=>
 aB (aj (ad (aa a))==7) (aB (ao (ad (aa a)) aR.one) ((aC pg X0 w0 (aF p0) fun c=>
 ae pg X0 w0 (aS 425 0 0 1 c) fun d=>
 ae pg X0 w0 (ld1 422 d) fun e=>
 ae pg X0 w0 (dc 422 e (.string p1) false) fun g=>
 ae pg X0 w0 (cB 318 3 g) fun h=>
 (gS X0 w0 (I 0) b 21 9 fun i j k l m n=>
 ae pg n m (binOp .lss 3 k h) fun o=>
 (ay o
 (((jn (fun (q:Value) (r:World) (s:XS)=>
 (ae pg s r (binOp .add 3 k (I 1)) fun t=>
 gP i j t q r s)) fun v=>
 ae pg n m (dr 318 6 g k) fun y=>
 ae pg n m (dY 322 6 y) fun z=>
 un (ai (aa z)) fun A=>
 aB (aj (ad (aa z))==6) (aB (ao (ad (aa z)) aR.one) ((aB (bH A) (un (cj A 0 3) fun C=>
 un (aU (B p3) false C) fun D=>
 un (aU (B p3) false (.agg #[(I gR),(I gM),(I iG)])) fun E=>
 jn (fun (F:Value) (G:World) (H:XS)=>
 aJ pg H G (B p3) false (vS (binOp .leq 3 F (I 0))) fun L=>
 aC pg H G (aQ (B p3) (B true) L) fun M=>
 (ay M
 (aB (bH A) (aB (bH l) (un (cj A 3 3) fun N=>
 un (ai (aO (cV (ad (aa l)) 1 (ad (aa N))))) fun O=>
 aB (aj (ad (aa N))==3) (aB (ao (ad (aa N)) aR.one) (un (ai (aO (cV (ad (aa O)) 4 (ad (aa C))))) fun Q=>
 aB (aj (ad (aa C))==3) (aB (ao (ad (aa C)) aR.one) (v Q G H)))))))
 (v l G H))) fun S=>
 (gE (B p3) false (eC pg R n m true 180 #[D,E] S) (S undef m n)))))))))
 (((aB (bH l) (un (cj l 0 7) fun T=>
 un (ai (aa T)) fun U=>
 aB (aj (ad (aa T))==7) (aB (ao (ad (aa T)) aR.one) (un (cj U 0 7) fun V=>
 aB (ao [U] bH) (fin R n m V)))))))))))))
def ky (p0 p1:Value):Prop:=
 (ae pg X0 w0 (cB 33 3 p0) fun a=>
 (gG X0 w0 (I 0) 8 fun b c d e g=>
 ae pg g e (binOp .lss 3 d a) fun h=>
 (ay h
 (((ae pg g e (dr 33 4 p0 d) fun i=>
 ae pg g e (dY 64 4 i) fun j=>
 eF pg R g e true p1 #[j] fun k l m=>
 (ay k
 (fin R m l d)
 (((ae pg m l (binOp .add 3 d (I 1)) fun n=>
 gz b c n l m)))))))
 ((((fin R g e (I (-1)))))))))
noncomputable def qa:bp:=⟨104,[(3,(pg.cellsOf 48)),(6,(pg.cellsOf 27)),(7,(pg.cellsOf 56)),(8,(pg.cellsOf 28)),(12,(pg.cellsOf 120))],[81,82,84,85,87],[0,1,2,9,10,17,52,73,74,75,76,94],[1000063,1000103],[75]⟩
def tC (p0:Value) (p1:Int) (p2:Value):Prop:=
 aB (aR.one p0) ((aC pg X0 w0 (aF p0) fun a=>
 ae pg X0 w0 (aS 93 4 4 1 a) fun b=>
 ae pg X0 w0 (ld1 4 b) fun c=>
 (ay c
 (ae pg X0 w0 (dw 27 #[(I 0),(I 0),(I 0)] #[]) fun d=>
 ae pg X0 w0 (dw 56 #[(.slice none 0 0),(.slice none 0 0)] #[]) fun e=>
 un (ai (aa d)) fun g=>
 aB (aj (ad (aa d))==3) (aB (ao (ad (aa d)) aR.one) (un (ai (aa e)) fun h=>
 aB (aj (ad (aa e))==2) (aB (ao (ad (aa e)) aR.one) ((un (cj g 0 3) fun i=>
 un (cj h 0 2) fun j=>
 aB (ao [g,h,(.agg #[(I 12)])] bH) (fin R X0 w0 (aq #[i,j,(I 12)]))))))))
 ((aC pg X0 w0 (aF p0) fun k=>
 ae pg X0 w0 (aS 93 2 2 1 k) fun l=>
 ae pg X0 w0 (ld1 3 l) fun m=>
 ae pg X0 w0 (binOp .add 3 m (I 1)) fun n=>
 aC pg X0 w0 (aF p0) fun o=>
 ae pg X0 w0 (aS 93 2 2 1 o) fun q=>
 eU pg R X0 w0 true (st1 3 1 q n) fun _ r s=>
 (aC pg s r (aF p0) fun t=>
 ae pg s r (aS 93 0 0 1 t) fun v=>
 ae pg s r (ld1 3 v) fun y=>
 aC pg s r (aF p0) fun z=>
 ae pg s r (aS 93 1 1 1 z) fun A=>
 ae pg s r (ld1 3 A) fun C=>
 aC pg s r (aF p0) fun D=>
 ae pg s r (aS 93 2 2 1 D) fun E=>
 ae pg s r (ld1 3 E) fun F=>
 ae pg s r (dw 27 #[y,C,F] #[(0,y),(1,C),(2,F)]) fun G=>
 eC pg R s r false 32 #[p2] fun H L M=>
 un (cellOf G 0) fun N=>
 un (cellOf G 1) fun O=>
 un (cellOf G 2) fun Q=>
 ae pg M L (dw 113 #[N,O,Q,H,(I 0),(I 0),(I 0),(I 0),(.slice none 0 0),(B false),(.slice none 0 0),(.slice none 0 0),(I 0),(I 0),(I 0)] #[(0,G),(1,H)]) fun S=>
 eV pg R M L true (dN 113 S) fun T U V=>
 (eC pg R V U true 33 #[p0,(I p1),T] fun Y Z a0=>
 ae pg a0 Z (aD Y 0) fun b0=>
 ae pg a0 Z (aD Y 1) fun c0=>
 aB (aR.one c0) ((ae pg a0 Z (aE .neq 28 (.tmp 51) (.const (I 0)) c0 (I 0)) fun d0=>
 (ay d0
 (ae pg a0 Z (dw 79 #[c0,(I 0),(I 0),(I 0),(I 0),(I 0),(I 0),(B false),(.slice none 0 0)] #[(0,c0)]) fun e0=>
 eC pg R a0 Z true 34 #[p0,T,e0] fun _ g0 h0=>
 ((jn (fun (i0 j0:Value) (k0:World) (l0:XS)=>
 un (cj i0 0 3) fun m0=>
 un (cj j0 0 2) fun n0=>
 aB (ao [i0,j0,(.agg #[(I 0)])] bH) (fin R l0 k0 (aq #[m0,n0,(I 0)]))) fun o0=>
 ((And
 (aC pg h0 g0 (aF T) fun q0=>
 (And
 (ae pg h0 g0 (aS 113 0 0 3 q0) fun r0=>
 (And
 (ae pg h0 g0 (dY 27 3 r0) fun s0=>
 (eC pg R h0 g0 true 35 #[p0] fun t0 v0 y0=>
 (un (ai (aa s0)) fun z0=>
 aB (aj (ad (aa s0))==3) (aB (ao (ad (aa s0)) aR.one) ((un (ai (aa t0)) fun A0=>
 aB (aj (ad (aa t0))==2) (aB (ao (ad (aa t0)) aR.one) (o0 z0 A0 v0 y0))))))))
 (eC pg R h0 g0 true 35 #[p0] fun C0 D0 E0=>
 (ae pg E0 D0 (dY 27 3 r0) fun F0=>
 (un (ai (aa F0)) fun G0=>
 aB (aj (ad (aa F0))==3) (aB (ao (ad (aa F0)) aR.one) ((un (ai (aa C0)) fun H0=>
 aB (aj (ad (aa C0))==2) (aB (ao (ad (aa C0)) aR.one) (o0 G0 H0 D0 E0))))))))))
 (eC pg R h0 g0 true 35 #[p0] fun L0 M0 N0=>
 (ae pg N0 M0 (aS 113 0 0 3 q0) fun O0=>
 (ae pg N0 M0 (dY 27 3 O0) fun Q0=>
 (un (ai (aa Q0)) fun S0=>
 aB (aj (ad (aa Q0))==3) (aB (ao (ad (aa Q0)) aR.one) ((un (ai (aa L0)) fun T0=>
 aB (aj (ad (aa L0))==2) (aB (ao (ad (aa L0)) aR.one) (o0 S0 T0 M0 N0)))))))))))
 (eC pg R h0 g0 true 35 #[p0] fun U0 V0 Y0=>
 (aC pg Y0 V0 (aF T) fun Z0=>
 (ae pg Y0 V0 (aS 113 0 0 3 Z0) fun a1=>
 (ae pg Y0 V0 (dY 27 3 a1) fun b1=>
 (un (ai (aa b1)) fun c1=>
 aB (aj (ad (aa b1))==3) (aB (ao (ad (aa b1)) aR.one) ((un (ai (aa U0)) fun d1=>
 aB (aj (ad (aa U0))==2) (aB (ao (ad (aa U0)) aR.one) (o0 c1 d1 V0 Y0)))))))))))))))
 ((aC pg a0 Z (aF p0) fun e1=>
 ae pg a0 Z (aS 93 7 7 1 e1) fun g1=>
 ae pg a0 Z (ld1 88 g1) fun h1=>
 aC pg a0 Z (aF T) fun i1=>
 ae pg a0 Z (aS 113 0 0 3 i1) fun j1=>
 ae pg a0 Z (dY 27 3 j1) fun k1=>
 eU pg R a0 Z true (aP 88 h1 k1 T) fun _ l1 m1=>
 (ae pg m1 l1 (cB 114 3 b0) fun n1=>
 (gG m1 l1 (I 0) 75 fun o1 q1 r1 s1 t1=>
 ae pg t1 s1 (binOp .lss 3 r1 n1) fun v1=>
 (ay v1
 ((ae pg t1 s1 (dr 114 5 b0 r1) fun y1=>
 ae pg t1 s1 (dY 120 5 y1) fun z1=>
 un (ai (aa z1)) fun A1=>
 aB (aj (ad (aa z1))==5) (aB (ao (ad (aa z1)) aR.one) ((aB (bH A1) (un (cellOf A1 0) fun C1=>
 un (cellOf A1 1) fun D1=>
 un (cellOf A1 4) fun E1=>
 ae pg t1 s1 (dw 44 #[(I 1),(I 0),(I 0),(I 0),(I 0),(I 0),C1,D1,(I 0),(I 0),(I 0),(I 0),(I 0),(I 0),(I 0),(B false),(I 0),(I 0),E1,(.slice none 0 0),(.slice none 0 0),(.slice none 0 0),(.slice none 0 0),(.slice none 0 0),(I 0),(I 0),(.float .f64 0),(.float .f64 0),(I 0),(I 0),(I 0),(I 0),(I 0),(I 0),(.slice none 0 0),(.slice none 0 0)] #[(0,(I 1)),(4,C1),(5,D1),(12,E1)]) fun F1=>
 eC pg R t1 s1 true 36 #[p0,T,F1] fun _ G1 H1=>
 ((ae pg H1 G1 (binOp .add 3 r1 (I 1)) fun L1=>
 gz o1 q1 L1 G1 H1))))))))
 ((((jn (fun (M1:World) (N1:XS)=>
 (jn (fun (O1 Q1:Value) (S1:World) (T1:XS)=>
 un (cj O1 0 3) fun U1=>
 un (cj Q1 0 2) fun V1=>
 aB (ao [O1,Q1,(.agg #[(I 0)])] bH) (fin R T1 S1 (aq #[U1,V1,(I 0)]))) fun Y1=>
 ((And
 (aC pg N1 M1 (aF T) fun Z1=>
 (And
 (ae pg N1 M1 (aS 113 0 0 3 Z1) fun a2=>
 (And
 (ae pg N1 M1 (dY 27 3 a2) fun b2=>
 (eC pg R N1 M1 true 35 #[p0] fun c2 d2 e2=>
 (un (ai (aa b2)) fun g2=>
 aB (aj (ad (aa b2))==3) (aB (ao (ad (aa b2)) aR.one) ((un (ai (aa c2)) fun h2=>
 aB (aj (ad (aa c2))==2) (aB (ao (ad (aa c2)) aR.one) (Y1 g2 h2 d2 e2))))))))
 (eC pg R N1 M1 true 35 #[p0] fun i2 j2 k2=>
 (ae pg k2 j2 (dY 27 3 a2) fun l2=>
 (un (ai (aa l2)) fun m2=>
 aB (aj (ad (aa l2))==3) (aB (ao (ad (aa l2)) aR.one) ((un (ai (aa i2)) fun n2=>
 aB (aj (ad (aa i2))==2) (aB (ao (ad (aa i2)) aR.one) (Y1 m2 n2 j2 k2))))))))))
 (eC pg R N1 M1 true 35 #[p0] fun o2 q2 r2=>
 (ae pg r2 q2 (aS 113 0 0 3 Z1) fun s2=>
 (ae pg r2 q2 (dY 27 3 s2) fun t2=>
 (un (ai (aa t2)) fun v2=>
 aB (aj (ad (aa t2))==3) (aB (ao (ad (aa t2)) aR.one) ((un (ai (aa o2)) fun y2=>
 aB (aj (ad (aa o2))==2) (aB (ao (ad (aa o2)) aR.one) (Y1 v2 y2 q2 r2)))))))))))
 (eC pg R N1 M1 true 35 #[p0] fun z2 A2 C2=>
 (aC pg C2 A2 (aF T) fun D2=>
 (ae pg C2 A2 (aS 113 0 0 3 D2) fun E2=>
 (ae pg C2 A2 (dY 27 3 E2) fun F2=>
 (un (ai (aa F2)) fun G2=>
 aB (aj (ad (aa F2))==3) (aB (ao (ad (aa F2)) aR.one) ((un (ai (aa z2)) fun H2=>
 aB (aj (ad (aa z2))==2) (aB (ao (ad (aa z2)) aR.one) (Y1 G2 H2 A2 C2)))))))))))))) fun L2=>
 ae pg t1 s1 (cB 114 3 b0) fun M2=>
 ae pg t1 s1 (aE .eql 3 (.tmp 93) (.const (I 0)) M2 (I 0)) fun N2=>
 (ay N2
 (eC pg R t1 s1 true 37 #[p0,T] fun _ O2 Q2=>
 (L2 O2 Q2))
 (L2 s1 t1)))))))))))))))))))))
noncomputable def qb:bp:=⟨49,[(3,(pg.cellsOf 48)),(5,(pg.cellsOf 44)),(6,(pg.cellsOf 56)),(7,(pg.cellsOf 28))],[18,25],[0,2,12,23,26,27,32,37,42],[17,19,20,21,22],[]⟩
def tF (p0:Value) (_p1 gR gM iG oW oX oY oZ o9 pa tP pA pB pC pD pE:Int) (pF:Bool) (pG pH:Int) (pI pJ pK pL pM pN:Value) (pO pP:Int) (pQ pR:Nat) (pS pT pU pV pW pX:Int) (pY pZ:Value):Prop:=
 aB (aR.one p0) ((aC pg X0 w0 (aF p0) fun a=>
 ae pg X0 w0 (aS 93 4 4 1 a) fun b=>
 ae pg X0 w0 (ld1 4 b) fun c=>
 (ay c
 (ae pg X0 w0 (dw 56 #[(.slice none 0 0),(.slice none 0 0)] #[]) fun d=>
 un (ai (aa d)) fun e=>
 aB (aj (ad (aa d))==2) (aB (ao (ad (aa d)) aR.one) ((un (cj e 0 2) fun g=>
 aB (ao [e,(.agg #[(I 12)])] bH) (fin R X0 w0 (aq #[g,(I 12)]))))))
 ((eC pg R X0 w0 true 54 #[(.agg #[(I gR),(I gM),(I iG),(I oW),(I oX),(I oY),(I oZ),(I o9),(I pa),(I tP),(I pA),(I pB),(I pC),(I pD),(I pE),(B pF),(I pG),(I pH),pI,pJ,pK,pL,pM,pN,(I pO),(I pP),(.float .f64 pQ),(.float .f64 pR),(I pS),(I pT),(I pU),(I pV),(I pW),(I pX),pY,pZ])] fun h i j=>
 ae pg j i (aE .neq 28 (.tmp 15) (.const (I 0)) h (I 0)) fun k=>
 un (aU k false (I iG)) fun l=>
 un (aU k false p0) fun m=>
 jn (fun (n:Value) (o:World) (q:XS)=>
 aJ pg q o k false (vS (aE .neq 3 (.tmp 19) (.tmp 21) l n)) fun r=>
 aC pg q o (aQ k (B true) r) fun s=>
 (ay s
 (ae pg q o (dw 56 #[(.slice none 0 0),(.slice none 0 0)] #[]) fun t=>
 un (ai (aa t)) fun v=>
 aB (aj (ad (aa t))==2) (aB (ao (ad (aa t)) aR.one) ((un (cj v 0 2) fun y=>
 aB (ao [v,(.agg #[(I 0)])] bH) (fin R q o (aq #[y,(I 0)]))))))
 ((((jn (fun (z:World) (A:XS)=>
 (eC pg R A z true 35 #[p0] fun C D E=>
 un (ai (aa C)) fun F=>
 aB (aj (ad (aa C))==2) (aB (ao (ad (aa C)) aR.one) ((un (cj F 0 2) fun G=>
 aB (ao [F,(.agg #[(I 0)])] bH) (fin R E D (aq #[G,(I 0)]))))))) fun H=>
 ae pg q o (aE .eql 3 (.tmp 26) (.const (I 2)) (I gR) (I 2)) fun L=>
 (ay L
 (eC pg R q o true 55 #[p0,(.agg #[(I gR),(I gM),(I iG),(I oW),(I oX),(I oY),(I oZ),(I o9),(I pa),(I tP),(I pA),(I pB),(I pC),(I pD),(I pE),(B pF),(I pG),(I pH),pI,pJ,pK,pL,pM,pN,(I pO),(I pP),(.float .f64 pQ),(.float .f64 pR),(I pS),(I pT),(I pU),(I pV),(I pW),(I pX),pY,pZ])] fun _ M N=>
 (H M N))
 (ae pg q o (aE .eql 3 (.tmp 26) (.const (I 4)) (I gR) (I 4)) fun O=>
 (ay O
 (eC pg R q o true 56 #[p0,(.agg #[(I gR),(I gM),(I iG),(I oW),(I oX),(I oY),(I oZ),(I o9),(I pa),(I tP),(I pA),(I pB),(I pC),(I pD),(I pE),(B pF),(I pG),(I pH),pI,pJ,pK,pL,pM,pN,(I pO),(I pP),(.float .f64 pQ),(.float .f64 pR),(I pS),(I pT),(I pU),(I pV),(I pW),(I pX),pY,pZ])] fun _ Q S=>
 (H Q S))
 (ae pg q o (aE .eql 3 (.tmp 26) (.const (I 6)) (I gR) (I 6)) fun T=>
 (ay T
 (eC pg R q o true 57 #[p0,(.agg #[(I gR),(I gM),(I iG),(I oW),(I oX),(I oY),(I oZ),(I o9),(I pa),(I tP),(I pA),(I pB),(I pC),(I pD),(I pE),(B pF),(I pG),(I pH),pI,pJ,pK,pL,pM,pN,(I pO),(I pP),(.float .f64 pQ),(.float .f64 pR),(I pS),(I pT),(I pU),(I pV),(I pW),(I pX),pY,pZ])] fun _ U V=>
 (H U V))
 (ae pg q o (aE .eql 3 (.tmp 26) (.const (I 7)) (I gR) (I 7)) fun Y=>
 (ay Y
 (eC pg R q o true 58 #[p0,(.agg #[(I gR),(I gM),(I iG),(I oW),(I oX),(I oY),(I oZ),(I o9),(I pa),(I tP),(I pA),(I pB),(I pC),(I pD),(I pE),(B pF),(I pG),(I pH),pI,pJ,pK,pL,pM,pN,(I pO),(I pP),(.float .f64 pQ),(.float .f64 pR),(I pS),(I pT),(I pU),(I pV),(I pW),(I pX),pY,pZ])] fun _ Z a0=>
 (H Z a0))
 (H o q)))))))))))))) fun b0=>
 (gE k false (eC pg R j i false 30 #[m] b0) (b0 undef i j)))))))
end
end Go.Proofs.YtbpnemeooenpmaaGreat
