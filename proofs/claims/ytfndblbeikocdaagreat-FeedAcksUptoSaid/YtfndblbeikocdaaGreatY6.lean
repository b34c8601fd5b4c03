/-
 Part 6 of the proof: what the last text leans on.
-/
import Derived.Test.YtfndblbeikocdaaGreatProg
import Derived.KernelRfl
import Derived.Test.YtfndblbeikocdaaGreatY5
open Go.Value renaming cells → aa, agg → aj, tuple → aG, int → aU
open Array renaming toList → ab
open List renaming all → av, length → ao, toArray → aR
open Go.IntKind renaming u64 → bq, u8 → gL
open Go.Instr renaming sliceAt → cp, makeFunc → ct, box → cE, extract → aC
open Go.Op renaming unary → aX
open Go.UnOp renaming not → bm
open Go.Fn renaming func → eO
open Go.Builtin renaming copy_ → ia, append_ → dL
set_option linter.unusedVariables false
set_option linter.unusedSimpArgs false
namespace Go.Proofs.YtfndblbeikocdaaGreat
open Go.Proofs.Tryz renaming prog → pg
open Go.bu
set_option maxRecDepth 100000
section
variable (R : Ending → World → Prop) (w0 : World) (X0 : XS)
noncomputable def Mu:bz:=⟨52,[(2,(pg.cellsOf 225)),(5,(pg.cellsOf 34)),(7,(pg.cellsOf 227))],[8,13,19,25,32,37,44,49],[0,1,4,23,26,27,28,29,48],[12,14,15,16,18,20,21,22,36,38,39,40,41,43,45,46,47],[5,28]⟩
def Ch (aO:ByteArray) (aZ:Value) (p1:ByteArray):Prop:=
 (eC pg R X0 w0 true 194 #[(.string aO)] fun a b c=>
 ad pg c b (aX bm a) fun d=>
 un (aP d false (.string aO)) fun e=>
 un (aP d false (.string p1)) fun g=>
 aJ pg c b d false (vS (binOp .leq 9 e g)) fun h=>
 az pg c b (aQ d (B true) h) fun i=>
 un (aP i false aZ) fun j=>
 aJ pg c b i false (vS (cB 223 3 j)) fun k=>
 aJ pg c b i false (vS (aH .eql 3 (.tmp 21) (.const (I 0)) k (I 0))) fun l=>
 az pg c b (aQ i (B true) l) fun m=>
 (au m
 (fin R c b (B false))
 ((ad pg c b (dV 34 #[(I 0),(I 0),(I 0)] #[]) fun n=>
 un (aj (aa n)) fun o=>
 aF (ao (ab (aa n))==3) (aF (av (ab (aa n)) bu.one) ((ad pg c b (cB 223 3 aZ) fun q=>
 (il c b (I 0) o 28 5 fun r s t v y z=>
 ad pg z y (binOp .lss 3 t q) fun A=>
 (au A
 ((ad pg z y (dt 223 6 aZ t) fun C=>
 ad pg z y (ew 227 6 C) fun D=>
 un (aj (aa D)) fun E=>
 aF (ao (ab (aa D))==6) (aF (av (ab (aa D)) bu.one) ((aF (cd E) (un (b7 E 0 3) fun F=>
 eC pg R z y true 57 #[F] fun G H L=>
 ad pg L H (aX bm G) fun M=>
 un (aP M false F) fun N=>
 aF (cd v) (un (b7 v 0 3) fun O=>
 un (aP M false O) fun Q=>
 jn (fun (S:Value) (T:World) (U:XS)=>
 aJ pg U T M false (vS (binOp .leq 3 S (I 0))) fun V=>
 az pg U T (aQ M (B true) V) fun Y=>
 un (b7 E 3 3) fun Z=>
 un (aP Y false Z) fun a0=>
 jn (fun (b0:Value) (c0:World) (d0:XS)=>
 aJ pg d0 c0 Y false (vS (aX bm b0)) fun e0=>
 az pg d0 c0 (aQ Y (B true) e0) fun g0=>
 (au g0
 (fin R d0 c0 (B false))
 ((aF (cd E) (aF (cd v) (un (aj (aa F)) fun h0=>
 aF (ao (ab (aa F))==3) (aF (av (ab (aa F)) bu.one) (((ad pg d0 c0 (binOp .add 3 t (I 1)) fun i0=>
 im r s i0 h0 c0 d0)))))))))) fun j0=>
 (gE Y false (eC pg R U T true 196 #[a0] j0) (j0 undef T U))) fun k0=>
 (gE M false (eC pg R L H true 84 #[N,Q] k0) (k0 undef H L)))))))))
 (fin R z y (B true)))))))))))
def kf (p0:Value):Prop:=
 (ad pg X0 w0 (aH .eql 223 (.tmp 3) (.const (.slice none 0 0)) p0 (.slice none 0 0)) fun a=>
 (au a
 (fin R X0 w0 (.slice none 0 0))
 (eV pg R X0 w0 true (gq 223 227 6 0 #[]) fun b c d=>
 eV pg R d c true (fW 223 227 6 56 223 b p0) fun e g h=>
 (fin R h g e))))
noncomputable def EI:bz:=⟨50,[(3,(pg.cellsOf 182)),(6,(pg.cellsOf 182)),(8,(pg.cellsOf 118))],[20,28,32,34,39],[0,1,4,10,15,17,21,22,23,24,37,40,41,42,43,48],[31,33,35,36],[23,42]⟩
def wV (p0:Value) (_p1_0 _p1_1 _p1_2 _p1_3 _p1_4 _p1_5:Int) (fi fj:Value):Prop:=
 (az pg X0 w0 (aM p0) fun a=>
 ad pg X0 w0 (aT 302 1 1 1 a) fun b=>
 ad pg X0 w0 (ld1 300 b) fun c=>
 eV pg R X0 w0 true (Instr.range 300 c) fun d e g=>
 (il g e undef undef 42 23 fun h i _ _ j k=>
 eV pg R k j true (Instr.next d false 0) fun l m n=>
 ad pg n m (aC l 0) fun o=>
 (au o
 ((eV pg R n m true (Instr.entry d) fun q r s=>
 ad pg s r (aC q 1) fun t=>
 un (aj (aa t)) fun v=>
 aF (ao (ab (aa t))==8) (aF (av (ab (aa t)) bu.one) ((ad pg s r (cB 37 3 fj) fun y=>
 (gp s r (I 0) 23 fun z A C D E=>
 ad pg E D (binOp .lss 3 C y) fun F=>
 (au F
 ((ad pg E D (dt 37 4 fj C) fun G=>
 ad pg E D (ew 118 4 G) fun H=>
 un (aj (aa H)) fun L=>
 aF (ao (ab (aa H))==4) (aF (av (ab (aa H)) bu.one) ((aF (cd v) (aF (cd L) (un (b7 v 0 8) fun M=>
 un (cellOf L 0) fun N=>
 eC pg R E D true 242 #[M,N] fun O Q S=>
 un (cellOf v 6) fun T=>
 un (aP O false T) fun U=>
 un (aP O false N) fun V=>
 jn (fun (Y:Value) (Z:World) (a0:XS)=>
 az pg a0 Z (aQ O (B true) Y) fun b0=>
 (au b0
 (fin R a0 Z (B true))
 (((ad pg a0 Z (binOp .add 3 C (I 1)) fun c0=>
 gm z A c0 Z a0))))) fun d0=>
 (gE O false (eC pg R S Q true 99 #[U,V] d0) (d0 undef Q S)))))))))
 (((ad pg E D (cB 35 3 fi) fun e0=>
 (gp E D (I 0) 42 fun g0 h0 i0 j0 k0=>
 ad pg k0 j0 (binOp .lss 3 i0 e0) fun l0=>
 (au l0
 ((ad pg k0 j0 (dt 35 1 fi i0) fun m0=>
 ad pg k0 j0 (ld1 9 m0) fun n0=>
 (aF (cd v) (un (b7 v 0 8) fun o0=>
 eC pg R k0 j0 true 242 #[o0,n0] fun q0 r0 s0=>
 (au q0
 (fin R s0 r0 (B true))
 (((ad pg s0 r0 (binOp .add 3 i0 (I 1)) fun t0=>
 gm g0 h0 t0 r0 s0))))))))
 (im h i i0 C j0 k0)))))))))))))
 (fin R n m (B false)))))
noncomputable def Je:bz:=⟨24,[(3,(pg.cellsOf 182)),(6,(pg.cellsOf 118))],[7,15,19],[0,1,4,8,9,10,11,22],[],[10]⟩
def zX (p0:Value) (_p1_0 _p1_1 _p1_2 eJ ff fH:Int) (_p1_6 fj:Value):Prop:=
 (ad pg X0 w0 (cB 37 3 fj) fun a=>
 (gp X0 w0 (I 0) 10 fun b c d e g=>
 ad pg g e (binOp .lss 3 d a) fun h=>
 (au h
 ((ad pg g e (dt 37 4 fj d) fun i=>
 ad pg g e (ew 118 4 i) fun j=>
 un (aj (aa j)) fun k=>
 aF (ao (ab (aa j))==4) (aF (av (ab (aa j)) bu.one) ((aF (cd k) (un (cellOf k 0) fun l=>
 eC pg R g e false 243 #[p0,l] fun m n o=>
 ad pg o n (fdV 166 2 4 3 m) fun q=>
 eC pg R o n true 84 #[q,(.agg #[(I eJ),(I ff),(I fH)])] fun r s t=>
 ad pg t s (binOp .geq 3 r (I 0)) fun v=>
 (au v
 (fin R t s (B true))
 (((ad pg t s (binOp .add 3 d (I 1)) fun y=>
 gm b c y s t))))))))))
 (fin R g e (B false)))))
noncomputable def PZ:bz:=⟨12,[(1,(pg.cellsOf 182)),(2,(pg.cellsOf 182))],[3,6,7,10],[0],[],[]⟩
def FG (aO aZ ba bA bN bQ:Int) (bV b6:Value):Prop:=
 (eC pg R X0 w0 true 167 #[bV] fun a b c=>
 aF (bu.one a) ((eC pg R c b true 45 #[b6] fun d e g=>
 aF (bu.one d) ((aF (av [(I aO),(I aZ),(I ba),(I bA),(I bN),(I bQ),a,d] bu.one) ((fin R g e (.agg #[(I aO),(I aZ),(I ba),(I bA),(I bN),(I bQ),a,d]))))))))
noncomputable def P0:bz:=⟨37,[],[],[0,2,3,4,6,8,9,10,21,22,23],[],[3,9,22]⟩
def FI (p0:ByteArray):Prop:=
 ((ad pg X0 w0 (lS 9 3 (.string p0)) fun a=>
 (il X0 w0 (I 0) (aU bq 14695981039346656037) 9 3 fun b c d e g h=>
 ad pg h g (binOp .lss 3 d a) fun i=>
 (au i
 (((ad pg h g (Instr.index 9 (.string p0) d) fun j=>
 ad pg h g (lT bq 5 208 j) fun k=>
 ad pg h g (binOp .xor 208 e k) fun l=>
 (ad pg h g (binOp .mul 208 l (aU bq 1099511628211)) fun m=>
 ((ad pg h g (binOp .add 3 d (I 1)) fun n=>
 im b c n m g h))))))
 (((ad pg h g (dV 350 #[(aU bq 18397679294719823053),(aU bq 14181476777654086739)] #[(0,(aU bq 18397679294719823053)),(1,(aU bq 14181476777654086739))]) fun o=>
 (il h g (I 0) e 22 3 fun q r s t v y=>
 ad pg y v (binOp .lss 3 s (I 2)) fun z=>
 (au z
 ((ad pg y v (tG 350 2 208 o s) fun A=>
 (ad pg y v (binOp .shr 208 t (aU bq 33)) fun C=>
 ad pg y v (binOp .xor 208 t C) fun D=>
 (ad pg y v (binOp .mul 208 D A) fun E=>
 ((ad pg y v (binOp .add 3 s (I 1)) fun F=>
 im q r F E v y))))))
 (((ad pg y v (binOp .shr 208 t (aU bq 33)) fun G=>
 ad pg y v (binOp .xor 208 t G) fun H=>
 (fin R y v H)))))))))))))
def HF (p0:Value):Prop:=
 (ad pg X0 w0 (cB 35 3 p0) fun a=>
 (gp X0 w0 (I 0) 7 fun b c d e g=>
 ad pg g e (binOp .lss 3 d a) fun h=>
 (au h
 ((ad pg g e (dt 35 1 p0 d) fun i=>
 ad pg g e (ld1 9 i) fun j=>
 (eC pg R g e true 194 #[j] fun k l m=>
 ad pg m l (aX bm k) fun n=>
 un (aP n false d) fun o=>
 aJ pg m l n false (vS (binOp .gtr 3 o (I 0))) fun q=>
 un (aP n false q) fun r=>
 un (aP r true p0) fun s=>
 un (aP r true d) fun t=>
 aJ pg m l r true (vS (binOp .sub 3 t (I 1))) fun v=>
 aJ pg m l r true (vS (dt 35 1 s v)) fun y=>
 aJ pg m l r true (vS (ld1 9 y)) fun z=>
 un (aP r true j) fun A=>
 aJ pg m l r true (vS (binOp .geq 9 z A)) fun C=>
 aJ pg m l n false (aQ r C (B false)) fun D=>
 az pg m l (aQ n (B true) D) fun E=>
 (au E
 (fin R m l (B false))
 (((ad pg m l (binOp .add 3 d (I 1)) fun F=>
 gm b c F l m)))))))
 (((ad pg g e (cB 35 3 p0) fun G=>
 ad pg g e (binOp .leq 3 G (I 16)) fun H=>
 (fin R g e H)))))))
def zY (p0:Value):Prop:=
 ((ad pg X0 w0 (cB 37 3 p0) fun a=>
 (il X0 w0 (I 0) (.slice none 0 0) 8 3 fun b c d e g h=>
 ad pg h g (binOp .lss 3 d a) fun i=>
 (au i
 ((ad pg h g (dt 37 4 p0 d) fun j=>
 ad pg h g (ew 118 4 j) fun k=>
 un (aj (aa k)) fun l=>
 aF (ao (ab (aa k))==4) (aF (av (ab (aa k)) bu.one) ((aF (cd l) (un (cellOf l 0) fun m=>
 eV pg R h g true (gq 35 9 1 1 #[(0,m)]) fun n o q=>
 eV pg R q o true (fW 35 9 1 16 35 e n) fun r s t=>
 ((ad pg t s (binOp .add 3 d (I 1)) fun v=>
 im b c v r s t))))))))
 (fin R h g e)))))
noncomputable def Mw:bz:=⟨68,[(1,(pg.cellsOf 73)),(2,(pg.cellsOf 73))],[4,10,15,20,21,22,23,24,29,30,31,35,39,40,41,46,47,48,52,58,59,60,61,65,66],[0,3,5,7,11,16,25,32,36,42,49,53,62],[],[]⟩
def Ci (aO aZ ba bA bN bQ bV b6 cI dg:Int) (cn:Bool) (cj:Int) (du:Nat) (da cY cZ dc:Value) (dh cO:Int) (cM cP:Nat) (cQ cR cX cS cT cU:Int) (cV cW:Value):Prop:=
 (((jn (fun (a:Value)=>
 (aF (cd a) (un (b7 a 0 29) fun b=>
 un (aj (aa b)) fun c=>
 aF (ao (ab (aa b))==29) (aF (av (ab (aa b)) bu.one) ((un (b7 c 0 29) fun d=>
 aF (av [c] cd) (fin R X0 w0 (aG #[d,(B true)])))))))) fun e=>
 ad pg X0 w0 (aH .eql 3 (.tmp 5) (.const (I 1)) (I aO) (I 1)) fun g=>
 (au g
 (ad pg X0 w0 (dV 47 #[(I 0),(I 0),(.float .f64 0),(.float .f64 0),(I 0),(I 0),(I 0),(I 0),(I 0),(I 0),(.slice none 0 0),(.slice none 0 0)] #[]) fun h=>
 un (aj (aR (cz [(I aO),(I aZ),(I ba),(I bA),(I bN),(I bQ),(I bV),(I b6),(I cI),(I dg),(B cn),(I cj),(.float .f64 du),da,cY,cZ,dc,(I dh),(I cO),(.float .f64 cM),(.float .f64 cP),(I cQ),(I cR),(I cX),(I cS),(I cT),(I cU),cV,cW] 17 (ab (aa h))))) fun i=>
 aF (ao (ab (aa h))==12) (aF (av (ab (aa h)) bu.one) (e i)))
 ((jn (fun (j:Value)=>
 au j
 ((e (.agg #[(I aO),(I aZ),(I ba),(I bA),(I bN),(I bQ),(I bV),(I b6),(I cI),(I dg),(B cn),(I 0),(.float .f64 du),da,cY,cZ,dc,(I dh),(I cO),(.float .f64 cM),(.float .f64 cP),(I cQ),(I cR),(I cX),(I cS),(I cT),(I cU),cV,cW])))
 (ad pg X0 w0 (aH .eql 3 (.tmp 5) (.const (I 3)) (I aO) (I 3)) fun k=>
 (au k
 (ad pg X0 w0 (dV 32 #[(I 0),(I 0),(I 0)] #[]) fun l=>
 ad pg X0 w0 (dV 34 #[(I 0),(I 0),(I 0)] #[]) fun m=>
 un (aj (aR (cz [(I aO),(I aZ),(I ba),(I bA),(I bN),(I bQ),(I bV),(I b6),(I cI),(I dg),(B cn),(I cj),(.float .f64 du),da,cY,cZ,dc,(I dh),(I cO),(.float .f64 cM),(.float .f64 cP),(I cQ),(I cR),(I cX),(I cS),(I cT),(I cU),cV,cW] 1 (ab (aa l))))) fun n=>
 aF (ao (ab (aa l))==3) (aF (av (ab (aa l)) bu.one) (un (aj (aR (cz (ab (aa n)) 4 (ab (aa m))))) fun o=>
 aF (ao (ab (aa m))==3) (aF (av (ab (aa m)) bu.one) (un (aj (aR (cz (ab (aa o)) 13 [(.slice none 0 0)]))) fun q=>
 un (aj (aR (cz (ab (aa q)) 14 [(.slice none 0 0)]))) fun r=>
 un (aj (aR (cz (ab (aa r)) 15 [(.slice none 0 0)]))) fun s=>
 (e s))))))
 (ad pg X0 w0 (aH .eql 3 (.tmp 5) (.const (I 4)) (I aO) (I 4)) fun t=>
 (au t
 (ad pg X0 w0 (dV 32 #[(I 0),(I 0),(I 0)] #[]) fun v=>
 ad pg X0 w0 (dV 34 #[(I 0),(I 0),(I 0)] #[]) fun y=>
 un (aj (aR (cz [(I aO),(I aZ),(I ba),(I bA),(I bN),(I bQ),(I bV),(I b6),(I cI),(I dg),(B cn),(I cj),(.float .f64 du),da,cY,cZ,dc,(I dh),(I cO),(.float .f64 cM),(.float .f64 cP),(I cQ),(I cR),(I cX),(I cS),(I cT),(I cU),cV,cW] 1 (ab (aa v))))) fun z=>
 aF (ao (ab (aa v))==3) (aF (av (ab (aa v)) bu.one) (un (aj (aR (cz (ab (aa z)) 10 [(B false)]))) fun A=>
 un (aj (aR (cz (ab (aa A)) 4 (ab (aa y))))) fun C=>
 aF (ao (ab (aa y))==3) (aF (av (ab (aa y)) bu.one) (e C)))))
 (ad pg X0 w0 (aH .eql 3 (.tmp 5) (.const (I 5)) (I aO) (I 5)) fun D=>
 (au D
 (ad pg X0 w0 (dV 34 #[(I 0),(I 0),(I 0)] #[]) fun E=>
 un (aj (aR (cz [(I aO),(I aZ),(I ba),(I bA),(I bN),(I bQ),(I bV),(I b6),(I cI),(I dg),(B cn),(I cj),(.float .f64 du),da,cY,cZ,dc,(I dh),(I cO),(.float .f64 cM),(.float .f64 cP),(I cQ),(I cR),(I cX),(I cS),(I cT),(I cU),cV,cW] 4 (ab (aa E))))) fun F=>
 aF (ao (ab (aa E))==3) (aF (av (ab (aa E)) bu.one) (e F)))
 (ad pg X0 w0 (aH .eql 3 (.tmp 5) (.const (I 6)) (I aO) (I 6)) fun G=>
 (au G
 (ad pg X0 w0 (dV 34 #[(I 0),(I 0),(I 0)] #[]) fun H=>
 un (aj (aR (cz [(I aO),(I aZ),(I ba),(I bA),(I bN),(I bQ),(I bV),(I b6),(I cI),(I dg),(B cn),(I 0),(.float .f64 0),da,cY,cZ,dc,(I dh),(I cO),(.float .f64 cM),(.float .f64 cP),(I cQ),(I cR),(I cX),(I cS),(I cT),(I cU),cV,cW] 4 (ab (aa H))))) fun L=>
 aF (ao (ab (aa H))==3) (aF (av (ab (aa H)) bu.one) (e L)))
 (ad pg X0 w0 (aH .eql 3 (.tmp 5) (.const (I 9)) (I aO) (I 9)) fun M=>
 (au M
 (ad pg X0 w0 (dV 32 #[(I 0),(I 0),(I 0)] #[]) fun N=>
 ad pg X0 w0 (dV 34 #[(I 0),(I 0),(I 0)] #[]) fun O=>
 un (aj (aR (cz [(I aO),(I aZ),(I ba),(I bA),(I bN),(I bQ),(I bV),(I b6),(I cI),(I dg),(B cn),(I cj),(.float .f64 du),da,cY,cZ,dc,(I dh),(I cO),(.float .f64 cM),(.float .f64 cP),(I cQ),(I cR),(I cX),(I cS),(I cT),(I cU),cV,cW] 1 (ab (aa N))))) fun Q=>
 aF (ao (ab (aa N))==3) (aF (av (ab (aa N)) bu.one) (un (aj (aR (cz (ab (aa Q)) 4 (ab (aa O))))) fun S=>
 aF (ao (ab (aa O))==3) (aF (av (ab (aa O)) bu.one) (un (aj (aR (cz (ab (aa S)) 15 [(.slice none 0 0)]))) fun T=>
 (e T))))))
 (ad pg X0 w0 (aH .eql 3 (.tmp 5) (.const (I 10)) (I aO) (I 10)) fun U=>
 (au U
 (ad pg X0 w0 (dV 32 #[(I 0),(I 0),(I 0)] #[]) fun V=>
 un (aj (aR (cz [(I aO),(I aZ),(I ba),(I bA),(I bN),(I bQ),(I bV),(I b6),(I cI),(I dg),(B cn),(I cj),(.float .f64 du),da,cY,cZ,dc,(I dh),(I cO),(.float .f64 cM),(.float .f64 cP),(I cQ),(I cR),(I cX),(I cS),(I cT),(I cU),cV,cW] 1 (ab (aa V))))) fun Y=>
 aF (ao (ab (aa V))==3) (aF (av (ab (aa V)) bu.one) (e Y)))
 (ad pg X0 w0 (aH .eql 3 (.tmp 5) (.const (I 11)) (I aO) (I 11)) fun Z=>
 (au Z
 (ad pg X0 w0 (dV 34 #[(I 0),(I 0),(I 0)] #[]) fun a0=>
 ad pg X0 w0 (dV 34 #[(I 0),(I 0),(I 0)] #[]) fun b0=>
 ad pg X0 w0 (dV 32 #[(I 0),(I 0),(I 0)] #[]) fun c0=>
 un (aj (aR (cz [(I aO),(I aZ),(I ba),(I bA),(I bN),(I bQ),(I bV),(I b6),(I cI),(I dg),(B cn),(I cj),(.float .f64 du),da,cY,cZ,dc,(I dh),(I cO),(.float .f64 cM),(.float .f64 cP),(I cQ),(I cR),(I cX),(I cS),(I cT),(I cU),cV,cW] 7 (ab (aa a0))))) fun d0=>
 aF (ao (ab (aa a0))==3) (aF (av (ab (aa a0)) bu.one) (un (aj (aR (cz (ab (aa d0)) 4 (ab (aa b0))))) fun e0=>
 aF (ao (ab (aa b0))==3) (aF (av (ab (aa b0)) bu.one) (un (aj (aR (cz (ab (aa e0)) 1 (ab (aa c0))))) fun g0=>
 aF (ao (ab (aa c0))==3) (aF (av (ab (aa c0)) bu.one) (un (aj (aR (cz (ab (aa g0)) 14 [(.slice none 0 0)]))) fun h0=>
 (e h0))))))))
 (ad pg X0 w0 (aH .eql 3 (.tmp 5) (.const (I 12)) (I aO) (I 12)) fun i0=>
 (au i0
 (ad pg X0 w0 (dV 34 #[(I 0),(I 0),(I 0)] #[]) fun j0=>
 un (aj (aR (cz [(I aO),(I aZ),(I ba),(I bA),(I bN),(I bQ),(I bV),(I b6),(I cI),(I dg),(B cn),(I cj),(.float .f64 du),da,cY,cZ,dc,(I dh),(I cO),(.float .f64 cM),(.float .f64 cP),(I cQ),(I cR),(I cX),(I cS),(I cT),(I cU),cV,cW] 4 (ab (aa j0))))) fun k0=>
 aF (ao (ab (aa j0))==3) (aF (av (ab (aa j0)) bu.one) (un (aj (aR (cz (ab (aa k0)) 16 [(.slice none 0 0)]))) fun l0=>
 (e l0))))
 (aF (av [(I aO),(I aZ),(I ba),(I bA),(I bN),(I bQ),(I bV),(I b6),(I cI),(I dg),(B cn),(I cj),(.float .f64 du),da,cY,cZ,dc,(I dh),(I cO),(.float .f64 cM),(.float .f64 cP),(I cQ),(I cR),(I cX),(I cS),(I cT),(I cU),cV,cW] bu.one) ((fin R X0 w0 (aG #[(.agg #[(I aO),(I aZ),(I ba),(I bA),(I bN),(I bQ),(I bV),(I b6),(I cI),(I dg),(B cn),(I cj),(.float .f64 du),da,cY,cZ,dc,(I dh),(I cO),(.float .f64 cM),(.float .f64 cP),(I cQ),(I cR),(I cX),(I cS),(I cT),(I cU),cV,cW]),(B false)]))))))))))))))))))))) fun m0=>
 ad pg X0 w0 (aH .eql 3 (.tmp 5) (.const (I 2)) (I aO) (I 2)) fun n0=>
 (au n0
 (m0 n0)
 (ad pg X0 w0 (aH .eql 3 (.tmp 5) (.const (I 7)) (I aO) (I 7)) fun o0=>
 (au o0
 (m0 o0)
 (ad pg X0 w0 (aH .eql 3 (.tmp 5) (.const (I 8)) (I aO) (I 8)) fun q0=>
 (m0 q0)))))))))))
noncomputable def S4:bz:=⟨64,[(1,(pg.cellsOf 73))],[3,8,14,20,25,30,36,42,48,54,60],[0,2],[7,9,10,11,13,15,16,17,19,21,22,24,26,27,29,31,32,33,35,37,38,39,41,43,44,45,47,49,50,51,53,55,56,57,59,61,62],[]⟩
def HG (_p0_0 aZ ba bA bN bQ bV b6 cI dg:Int) (cn:Bool) (cj:Int) (du:Nat) (da cY cZ dc:Value) (dh cO:Int) (cM cP:Nat) (cQ cR cX cS cT cU:Int) (cV cW:Value):Prop:=
 (ad pg X0 w0 (dV 32 #[(I 0),(I 0),(I 0)] #[]) fun a=>
 ad pg X0 w0 (aH .eql 32 (.tmp 4) (.tmp 5) (.agg #[(I aZ),(I ba),(I bA)]) a) fun b=>
 un (aP b true (.agg #[(I bN),(I bQ),(I bV)])) fun c=>
 aJ pg X0 w0 b true (vS (dV 34 #[(I 0),(I 0),(I 0)] #[])) fun d=>
 aJ pg X0 w0 b true (vS (aH .eql 34 (.tmp 9) (.tmp 10) c d)) fun e=>
 az pg X0 w0 (aQ b e (B false)) fun g=>
 un (aP g true (.agg #[(I b6),(I cI),(I dg)])) fun h=>
 aJ pg X0 w0 g true (vS (dV 34 #[(I 0),(I 0),(I 0)] #[])) fun i=>
 aJ pg X0 w0 g true (vS (aH .eql 34 (.tmp 15) (.tmp 16) h i)) fun j=>
 az pg X0 w0 (aQ g j (B false)) fun k=>
 un (aP k true (B cn)) fun l=>
 aJ pg X0 w0 k true (vS (aX bm l)) fun m=>
 az pg X0 w0 (aQ k m (B false)) fun n=>
 un (aP n true (I cj)) fun o=>
 aJ pg X0 w0 n true (vS (aH .eql 3 (.tmp 26) (.const (I 0)) o (I 0))) fun q=>
 az pg X0 w0 (aQ n q (B false)) fun r=>
 un (aP r true (.float .f64 du)) fun s=>
 jn (fun (t:Value) (v:World) (y:XS)=>
 aJ pg y v r true (vS (aH .eql 208 (.tmp 32) (.const (aU bq 0)) t (aU bq 0))) fun z=>
 az pg y v (aQ r z (B false)) fun A=>
 un (aP A true da) fun C=>
 aJ pg y v A true (vS (cB 35 3 C)) fun D=>
 aJ pg y v A true (vS (aH .eql 3 (.tmp 38) (.const (I 0)) D (I 0))) fun E=>
 az pg y v (aQ A E (B false)) fun F=>
 un (aP F true cY) fun G=>
 aJ pg y v F true (vS (cB 37 3 G)) fun H=>
 aJ pg y v F true (vS (aH .eql 3 (.tmp 44) (.const (I 0)) H (I 0))) fun L=>
 az pg y v (aQ F L (B false)) fun M=>
 un (aP M true cZ) fun N=>
 aJ pg y v M true (vS (cB 38 3 N)) fun O=>
 aJ pg y v M true (vS (aH .eql 3 (.tmp 50) (.const (I 0)) O (I 0))) fun Q=>
 az pg y v (aQ M Q (B false)) fun S=>
 un (aP S true dc) fun T=>
 aJ pg y v S true (vS (cB 71 3 T)) fun U=>
 aJ pg y v S true (vS (aH .eql 3 (.tmp 56) (.const (I 0)) U (I 0))) fun V=>
 az pg y v (aQ S V (B false)) fun Y=>
 un (aP Y true (.agg #[(I dh),(I cO),(.float .f64 cM),(.float .f64 cP),(I cQ),(I cR),(I cX),(I cS),(I cT),(I cU),cV,cW])) fun Z=>
 jn (fun (a0:Value) (b0:World) (c0:XS)=>
 az pg c0 b0 (aQ Y a0 (B false)) fun d0=>
 (fin R c0 b0 d0)) fun e0=>
 (gE Y true (eC pg R y v true 244 #[Z] e0) (e0 undef v y))) fun g0=>
 (gE r true (eC pg R X0 w0 true 118 #[s] g0) (g0 undef w0 X0)))
noncomputable def NB:bz:=⟨134,[(1,(pg.cellsOf 73))],[5,9,14,18,24,26,28,30,36,42,46,48,54,60,76,81,87,92,97,101,106,112,117,119,121,123,126,130],[0,2,3,4,6,7,12,22,40,52,57,85,90,95,110,115],[17,19,20,35,37,38,45,47,49,50,67,68,69,71,72,73,75,77,78,80,82,83,100,102,103,105,107,108,129,131,132],[]⟩
def DL (aO aZ ba bA bN bQ bV b6 cI dg:Int) (cn:Bool) (cj:Int) (du:Nat) (da cY cZ dc:Value) (dh cO:Int) (cM cP:Nat) (cQ cR cX cS cT cU:Int) (cV cW:Value):Prop:=
 ((ad pg X0 w0 (aH .eql 3 (.tmp 6) (.const (I 1)) (I aO) (I 1)) fun a=>
 (au a
 (eC pg R X0 w0 true 121 #[(.agg #[(I dh),(I cO),(.float .f64 cM),(.float .f64 cP),(I cQ),(I cR),(I cX),(I cS),(I cT),(I cU),cV,cW])] fun b c d=>
 (fin R d c b))
 (ad pg X0 w0 (aH .eql 3 (.tmp 6) (.const (I 2)) (I aO) (I 2)) fun e=>
 (au e
 (ad pg X0 w0 (binOp .geq 3 (I cj) (I 0)) fun g=>
 un (aP g true (I cj)) fun h=>
 aJ pg X0 w0 g true (vS (binOp .leq 3 h (I 281474976710656))) fun i=>
 az pg X0 w0 (aQ g i (B false)) fun j=>
 (fin R X0 w0 j))
 (ad pg X0 w0 (aH .eql 3 (.tmp 6) (.const (I 3)) (I aO) (I 3)) fun k=>
 (au k
 (ad pg X0 w0 (dV 182 #[(I aZ),(I ba),(I bA),(I bN),(I bQ),(I bV),da,cY] #[(0,(.agg #[(I aZ),(I ba),(I bA)])),(1,(.agg #[(I bN),(I bQ),(I bV)])),(2,da),(3,cY)]) fun l=>
 eC pg R X0 w0 true 165 #[l] fun m n o=>
 ad pg o n (aH .eql 27 (.tmp 33) (.const (I 0)) m (I 0)) fun q=>
 un (aP q true cZ) fun r=>
 jn (fun (s:Value) (t:World) (v:XS)=>
 az pg v t (aQ q s (B false)) fun y=>
 (fin R v t y)) fun z=>
 (gE q true (eC pg R o n true 157 #[r] z) (z undef n o)))
 (ad pg X0 w0 (aH .eql 3 (.tmp 6) (.const (I 4)) (I aO) (I 4)) fun A=>
 (au A
 (eC pg R X0 w0 true 152 #[(.agg #[(I aZ),(I ba),(I bA)])] fun C D E=>
 un (aP C true (B cn)) fun F=>
 un (aP C true (.agg #[(I bN),(I bQ),(I bV)])) fun G=>
 jn (fun (H:Value) (L:World) (M:XS)=>
 az pg M L (aQ C H (B false)) fun N=>
 (fin R M L N)) fun O=>
 (gE C true (eC pg R E D true 245 #[F,G] O) (O undef D E)))
 (ad pg X0 w0 (aH .eql 3 (.tmp 6) (.const (I 5)) (I aO) (I 5)) fun Q=>
 (au Q
 (eC pg R X0 w0 true 57 #[(.agg #[(I bN),(I bQ),(I bV)])] fun S T U=>
 (fin R U T S))
 (ad pg X0 w0 (aH .eql 3 (.tmp 6) (.const (I 6)) (I aO) (I 6)) fun V=>
 (au V
 (eC pg R X0 w0 true 246 #[(.float .f64 du)] fun Y Z a0=>
 ad pg a0 Z (aC Y 0) fun b0=>
 ad pg a0 Z (aC Y 1) fun c0=>
 (ad pg a0 Z (aH .eql 27 (.tmp 65) (.const (I 0)) c0 (I 0)) fun d0=>
 un (aP d0 true b0) fun e0=>
 aJ pg a0 Z d0 true (vS (binOp .gtr 41 e0 (.float .f64 0))) fun g0=>
 az pg a0 Z (aQ d0 g0 (B false)) fun h0=>
 un (aP h0 true b0) fun i0=>
 aJ pg a0 Z h0 true (vS (binOp .lss 41 i0 (.float .f64 4607182418800017408))) fun j0=>
 az pg a0 Z (aQ h0 j0 (B false)) fun k0=>
 un (aP k0 true (I cj)) fun l0=>
 jn (fun (m0:Value) (n0:World) (o0:XS)=>
 az pg o0 n0 (aQ k0 m0 (B false)) fun q0=>
 un (aP q0 true (.agg #[(I bN),(I bQ),(I bV)])) fun r0=>
 jn (fun (s0:Value) (t0:World) (v0:XS)=>
 az pg v0 t0 (aQ q0 s0 (B false)) fun y0=>
 (fin R v0 t0 y0)) fun z0=>
 (gE q0 true (eC pg R o0 n0 true 57 #[r0] z0) (z0 undef n0 o0))) fun A0=>
 (gE k0 true (eC pg R a0 Z true 247 #[l0] A0) (A0 undef Z a0))))
 (ad pg X0 w0 (aH .eql 3 (.tmp 6) (.const (I 7)) (I aO) (I 7)) fun C0=>
 (au C0
 (eC pg R X0 w0 true 247 #[(I cj)] fun D0 E0 F0=>
 (fin R F0 E0 D0))
 (ad pg X0 w0 (aH .eql 3 (.tmp 6) (.const (I 8)) (I aO) (I 8)) fun G0=>
 (au G0
 (ad pg X0 w0 (binOp .geq 3 (I cj) (I 1)) fun H0=>
 (fin R X0 w0 H0))
 (ad pg X0 w0 (aH .eql 3 (.tmp 6) (.const (I 9)) (I aO) (I 9)) fun L0=>
 (au L0
 (eC pg R X0 w0 true 152 #[(.agg #[(I aZ),(I ba),(I bA)])] fun M0 N0 O0=>
 un (aP M0 true (.agg #[(I bN),(I bQ),(I bV)])) fun Q0=>
 jn (fun (S0:Value) (T0:World) (U0:XS)=>
 az pg U0 T0 (aQ M0 S0 (B false)) fun V0=>
 un (aP V0 true cZ) fun Y0=>
 jn (fun (Z0:Value) (a1:World) (b1:XS)=>
 az pg b1 a1 (aQ V0 Z0 (B false)) fun c1=>
 (fin R b1 a1 c1)) fun d1=>
 (gE V0 true (eC pg R U0 T0 true 157 #[Y0] d1) (d1 undef T0 U0))) fun e1=>
 (gE M0 true (eC pg R O0 N0 true 248 #[Q0] e1) (e1 undef N0 O0)))
 (ad pg X0 w0 (aH .eql 3 (.tmp 6) (.const (I 10)) (I aO) (I 10)) fun g1=>
 (au g1
 (eC pg R X0 w0 true 152 #[(.agg #[(I aZ),(I ba),(I bA)])] fun h1 i1 j1=>
 (fin R j1 i1 h1))
 (ad pg X0 w0 (aH .eql 3 (.tmp 6) (.const (I 11)) (I aO) (I 11)) fun k1=>
 (au k1
 (eC pg R X0 w0 true 122 #[(.agg #[(I b6),(I cI),(I dg)]),(.agg #[(I bN),(I bQ),(I bV)]),(.agg #[(I aZ),(I ba),(I bA)]),cY] fun l1 m1 n1=>
 (fin R n1 m1 l1))
 (((eC pg R X0 w0 true 57 #[(.agg #[(I bN),(I bQ),(I bV)])] fun o1 q1 r1=>
 un (aP o1 true dc) fun s1=>
 jn (fun (t1:Value) (v1:World) (y1:XS)=>
 az pg y1 v1 (aQ o1 t1 (B false)) fun z1=>
 (fin R y1 v1 z1)) fun A1=>
 (gE o1 true (eC pg R r1 q1 true 249 #[s1] A1) (A1 undef q1 r1))))))))))))))))))))))))))))
def me (p0 p1:Value):Prop:=
 (ad pg X0 w0 (cB 35 3 p0) fun a=>
 (gp X0 w0 (I 0) 8 fun b c d e g=>
 ad pg g e (binOp .lss 3 d a) fun h=>
 (au h
 (((ad pg g e (dt 35 1 p0 d) fun i=>
 ad pg g e (ld1 9 i) fun j=>
 eF pg R g e true p1 #[j] fun k l m=>
 (au k
 (fin R m l d)
 (((ad pg m l (binOp .add 3 d (I 1)) fun n=>
 gm b c n l m)))))))
 ((((fin R g e (I (-1)))))))))
noncomputable def Lc:bz:=⟨13,[],[],[0,1,2,4,5,6],[],[]⟩
def BC (p0:Value) (p1 gj gB gC:Int):Prop:=
 eV pg R X0 w0 true (cE 3 (I p1)) fun a b c=>
 eV pg R c b true (cE 32 (.agg #[(I gj),(I gB),(I gC)])) fun d e g=>
 (az pg g e (aM p0) fun h=>
 ad pg g e (aT 179 0 0 1 h) fun i=>
 ad pg g e (ld1 177 i) fun j=>
 ad pg g e (ct (eO 251) #[] #[a,d]) fun k=>
 eC pg R g e true 250 #[j,k] fun l m n=>
 (fin R n m l))
def HH (p0 p1:Value):Prop:=
 eV pg R X0 w0 true (cE 37 p1) fun a b c=>
 (ad pg c b (ct (eO 253) #[] #[a]) fun d=>
 eC pg R c b true 252 #[p0,d] fun e g h=>
 (fin R h g e))
noncomputable def jw:bz:=⟨49,[(4,(pg.cellsOf 156))],[],[0,1,2,6,7,8,9,10,11,17,31],[39,40,41,42,43,44,45,46,47],[9,10]⟩
def gk (p0:Value) (cm cu cq eJ ff fH fi fj:Int) (ij p2:Value):Prop:=
 (ad pg X0 w0 (cB 177 3 p0) fun a=>
 ((il X0 w0 a (I 0) 10 9 fun b c d e g h=>
 ad pg h g (binOp .lss 3 e d) fun i=>
 (au i
 (((jn (fun (j k:Value) (l:World) (m:XS)=>
 im b c k j l m) fun n=>
 ad pg h g (binOp .add 3 e d) fun o=>
 ad pg h g (lT bq 3 232 o) fun q=>
 ad pg h g (binOp .shr 232 q (aU bq 1)) fun r=>
 ad pg h g (lT IntKind.i64 232 3 r) fun s=>
 (ad pg h g (dt 177 9 p0 s) fun t=>
 ad pg h g (ew 156 9 t) fun v=>
 eF pg R h g true p2 #[v,(.agg #[(I cm),(I cu),(I cq),(I eJ),(I ff),(I fH),(I fi),(I fj),ij])] fun y z A=>
 ad pg A z (binOp .lss 3 y (I 0)) fun C=>
 (au C
 (ad pg A z (binOp .add 3 s (I 1)) fun D=>
 (n D d z A))
 (n e s z A))))))
 (((ad pg h g (binOp .lss 3 e a) fun E=>
 un (aP E true p2) fun F=>
 un (aP E true p0) fun G=>
 un (aP E true e) fun H=>
 aJ pg h g E true (vS (dt 177 9 G H)) fun L=>
 aJ pg h g E true (vS (ew 156 9 L)) fun M=>
 un (aP E true (.agg #[(I cm),(I cu),(I cq),(I eJ),(I ff),(I fH),(I fi),(I fj),ij])) fun N=>
 jn (fun (O:Value) (Q:World) (S:XS)=>
 aJ pg S Q E true (vS (aH .eql 3 (.tmp 46) (.const (I 0)) O (I 0))) fun T=>
 az pg S Q (aQ E T (B false)) fun U=>
 (fin R S Q (aG #[e,U]))) fun V=>
 (gE E true (eF pg R h g true F #[M,N] V) (V undef g h)))))))))
noncomputable def S5:bz:=⟨19,[(2,(pg.cellsOf 156)),(3,(pg.cellsOf 156))],[6,8,14,16],[0,1,4,5,12],[],[]⟩
def HI (aO _p0_1 _p0_2 _p0_3 _p0_4 bQ bV b6:Int) (_p0_8:Value) (cm _p1_1 _p1_2 _p1_3 _p1_4 fH fi fj:Int) (_p1_8:Value):Prop:=
 (eC pg R X0 w0 true 84 #[(.agg #[(I bQ),(I bV),(I b6)]),(.agg #[(I fH),(I fi),(I fj)])] fun a b c=>
 (ad pg c b (aH .neq 3 (.tmp 11) (.const (I 0)) a (I 0)) fun d=>
 (au d
 (fin R c b a)
 ((ad pg c b (binOp .sub 3 (I aO) (I cm)) fun e=>
 (fin R c b e))))))
noncomputable def oK:bz:=⟨95,[],[],[0,1,2,6,7,8,9,16,22,31,68],[],[]⟩
def jE (p0:Value) (p1:Int) (p2:Value):Prop:=
 (ad pg X0 w0 (cp 177 p0 (some (I p1)) none none) fun _=>
 (ad pg X0 w0 (cB 177 3 p2) fun a=>
 (ad pg X0 w0 (aH .eql 3 (.tmp 15) (.const (I 0)) a (I 0)) fun b=>
 (au b
 (fin R X0 w0 p0)
 ((ad pg X0 w0 (cB 177 3 p0) fun c=>
 (ad pg X0 w0 (aH .eql 3 (.tmp 20) (.tmp 21) (I p1) c) fun d=>
 (au d
 (eV pg R X0 w0 true (fW 177 156 9 88 177 p0 p2) fun e g h=>
 (fin R h g e))
 ((ad pg X0 w0 (binOp .add 3 c a) fun i=>
 ad pg X0 w0 (Builtin.cap_ #[177] 3 #[p0]) fun j=>
 ad pg X0 w0 (binOp .gtr 3 i j) fun k=>
 (au k
 (ad pg X0 w0 (cp 177 p0 none (some (I p1)) none) fun l=>
 ad pg X0 w0 (binOp .add 3 c a) fun m=>
 ad pg X0 w0 (binOp .sub 3 m (I p1)) fun n=>
 eV pg R X0 w0 true (dL #[177,3] 177 #[l,n]) fun o q r=>
 (ad pg r q (cp 177 o (some (I p1)) none none) fun s=>
 eV pg R r q true (ia #[177,177] 3 #[s,p2]) fun _ t v=>
 (ad pg v t (binOp .add 3 (I p1) a) fun y=>
 ad pg v t (cp 177 o (some y) none none) fun z=>
 ad pg v t (cp 177 p0 (some (I p1)) none none) fun A=>
 eV pg R v t true (ia #[177,177] 3 #[z,A]) fun _ C D=>
 (fin R D C o))))
 ((ad pg X0 w0 (binOp .add 3 c a) fun E=>
 ad pg X0 w0 (cp 177 p0 none (some E) none) fun F=>
 (ad pg X0 w0 (binOp .add 3 (I p1) a) fun G=>
 ad pg X0 w0 (cp 177 F (some G) none none) fun H=>
 eC pg R X0 w0 true 255 #[p2,H] fun L M N=>
 ad pg N M (aX bm L) fun O=>
 (au O
 (ad pg N M (binOp .add 3 (I p1) a) fun Q=>
 ad pg N M (cp 177 F (some Q) none none) fun S=>
 ad pg N M (cp 177 F (some (I p1)) none none) fun T=>
 eV pg R N M true (ia #[177,177] 3 #[S,T]) fun _ U V=>
 (ad pg V U (cp 177 F (some (I p1)) none none) fun Y=>
 eV pg R V U true (ia #[177,177] 3 #[Y,p2]) fun _ Z a0=>
 (fin R a0 Z F)))
 ((ad pg N M (cp 177 F (some c) none none) fun b0=>
 eV pg R N M true (ia #[177,177] 3 #[b0,p2]) fun _ c0 d0=>
 (ad pg d0 c0 (cp 177 F (some (I p1)) none none) fun e0=>
 eC pg R d0 c0 true 256 #[e0,a] fun _ g0 h0=>
 (fin R h0 g0 F)))))))))))))))))))
noncomputable def P1:bz:=⟨8,[(1,(pg.cellsOf 156)),(2,(pg.cellsOf 156))],[3,6],[0],[],[]⟩
def FJ (aO aZ ba bA bN bQ bV b6:Int) (cI:Value):Prop:=
 (eC pg R X0 w0 true 45 #[cI] fun a b c=>
 aF (bu.one a) ((aF (av [(I aO),(I aZ),(I ba),(I bA),(I bN),(I bQ),(I bV),(I b6),a] bu.one) ((fin R c b (.agg #[(I aO),(I aZ),(I ba),(I bA),(I bN),(I bQ),(I bV),(I b6),a]))))))
noncomputable def UD:bz:=⟨6,[],[],[0,2],[],[]⟩
def Km (p0:Nat):Prop:=
 (eC pg R X0 w0 true 276 #[(.float .f64 p0)] fun a b c=>
 eC pg R c b true 118 #[a] fun d e g=>
 (fin R g e d))
def y9 (p0 p1:Value):Prop:=
 az pg X0 w0 (aM p0) fun a=>
 ad pg X0 w0 (aT 293 0 0 1 a) fun b=>
 ad pg X0 w0 (ld1 201 b) fun c=>
 ad pg X0 w0 (aH .neq 201 (.tmp 7) (.const (.pointer none)) c (.pointer none)) fun d=>
 (au d
 (az pg X0 w0 (aM p0) fun e=>
 ad pg X0 w0 (aT 293 0 0 1 e) fun g=>
 ad pg X0 w0 (ld1 201 g) fun h=>
 az pg X0 w0 (aM p1) fun i=>
 ad pg X0 w0 (ld1 3 i) fun j=>
 eC pg R X0 w0 true 113 #[h,j] fun _ k l=>
 (fin R l k (aG #[])))
 ((az pg X0 w0 (aM p0) fun m=>
 ad pg X0 w0 (aT 293 1 1 1 m) fun n=>
 ad pg X0 w0 (ld1 138 n) fun o=>
 eC pg R X0 w0 true 62 #[o] fun q r s=>
 az pg s r (aM p1) fun t=>
 eU pg R s r true (st1 3 1 t q) fun _ v y=>
 (eC pg R y v true 277 #[p0] fun _ z A=>
 fin R A z (aG #[])))))
def wW (p0 p1:Value):Prop:=
 az pg X0 w0 (aM p1) fun a=>
 ad pg X0 w0 (aT 47 0 0 4 a) fun b=>
 eC pg R X0 w0 true 278 #[p0,b] fun _ c d=>
 (az pg d c (aM p1) fun e=>
 ad pg d c (aT 47 1 4 3 e) fun g=>
 eC pg R d c true 235 #[p0,g] fun _ h i=>
 (az pg i h (aM p1) fun j=>
 ad pg i h (aT 47 2 7 3 j) fun k=>
 eC pg R i h true 235 #[p0,k] fun _ l m=>
 (az pg m l (aM p1) fun n=>
 ad pg m l (aT 47 3 10 1 n) fun o=>
 ad pg m l (ct (eO 280) #[p0] #[]) fun q=>
 eC pg R m l true 279 #[p0,o,q] fun _ r s=>
 (az pg s r (aM p1) fun t=>
 ad pg s r (aT 47 4 11 1 t) fun v=>
 ad pg s r (ct (eO 231) #[p0] #[]) fun y=>
 eC pg R s r true 281 #[p0,v,y] fun _ z A=>
 fin R A z (aG #[])))))
def tZ (p0 p1:Value):Prop:=
 az pg X0 w0 (aM p1) fun a=>
 ad pg X0 w0 (aT 182 0 0 3 a) fun b=>
 eC pg R X0 w0 true 233 #[p0,b] fun _ c d=>
 (az pg d c (aM p1) fun e=>
 ad pg d c (aT 182 1 3 3 e) fun g=>
 eC pg R d c true 235 #[p0,g] fun _ h i=>
 (az pg i h (aM p1) fun j=>
 ad pg i h (aT 182 2 6 1 j) fun k=>
 ad pg i h (ct (eO 283) #[p0] #[]) fun l=>
 eC pg R i h true 282 #[p0,k,l] fun _ m n=>
 (az pg n m (aM p1) fun o=>
 ad pg n m (aT 182 3 7 1 o) fun q=>
 ad pg n m (ct (eO 238) #[p0] #[]) fun r=>
 eC pg R n m true 237 #[p0,q,r] fun _ s t=>
 fin R t s (aG #[]))))
def zZ (p0 p1 p2:Value):Prop:=
 az pg X0 w0 (aM p1) fun a=>
 ad pg X0 w0 (ld1 38 a) fun b=>
 ad pg X0 w0 (cB 38 3 b) fun c=>
 ((jn (fun (d:Value) (e:World) (g:XS)=>
 (gp g e (I 0) 39 fun h i j k l=>
 ad pg l k (binOp .lss 3 j d) fun m=>
 (au m
 ((((jn (fun (n:World) (o:XS)=>
 az pg o n (aM p1) fun q=>
 ad pg o n (ld1 38 q) fun r=>
 ad pg o n (dt 38 1 r j) fun s=>
 eF pg R o n true p2 #[s] fun _ t v=>
 ((ad pg v t (binOp .add 3 j (I 1)) fun y=>
 gm h i y t v))) fun z=>
 az pg l k (aM p0) fun A=>
 ad pg l k (aT 293 0 0 1 A) fun C=>
 ad pg l k (ld1 201 C) fun D=>
 ad pg l k (aH .eql 201 (.tmp 45) (.const (.pointer none)) D (.pointer none)) fun E=>
 (au E
 ((az pg l k (aM p1) fun F=>
 ad pg l k (ld1 38 F) fun G=>
 eV pg R l k true (gq 38 3 1 1 #[(0,(I 0))]) fun H L M=>
 eV pg R M L true (fW 38 3 1 8 38 G H) fun N O Q=>
 az pg Q O (aM p1) fun S=>
 eU pg R Q O true (st1 38 1 S N) fun _ T U=>
 (z T U)))
 (z k l))))))
 (fin R l k (aG #[]))))) fun V=>
 az pg X0 w0 (aM p0) fun Y=>
 ad pg X0 w0 (aT 293 0 0 1 Y) fun Z=>
 ad pg X0 w0 (ld1 201 Z) fun a0=>
 ad pg X0 w0 (aH .neq 201 (.tmp 16) (.const (.pointer none)) a0 (.pointer none)) fun b0=>
 (au b0
 (az pg X0 w0 (aM p0) fun c0=>
 ad pg X0 w0 (aT 293 0 0 1 c0) fun d0=>
 ad pg X0 w0 (ld1 201 d0) fun e0=>
 eC pg R X0 w0 true 113 #[e0,c] fun _ g0 h0=>
 (V c g0 h0))
 (az pg X0 w0 (aM p0) fun i0=>
 ad pg X0 w0 (aT 293 1 1 1 i0) fun j0=>
 ad pg X0 w0 (ld1 138 j0) fun k0=>
 az pg X0 w0 (aM p0) fun l0=>
 ad pg X0 w0 (aT 293 1 1 1 l0) fun m0=>
 ad pg X0 w0 (ld1 138 m0) fun n0=>
 eC pg R X0 w0 false 284 #[n0] fun o0 q0 r0=>
 eC pg R r0 q0 true 63 #[k0,o0] fun s0 t0 v0=>
 (eC pg R v0 t0 true 277 #[p0] fun _ y0 z0=>
 (az pg z0 y0 (aM p1) fun A0=>
 eU pg R z0 y0 true (st1 38 1 A0 (.slice none 0 0)) fun _ C0 D0=>
 (V s0 C0 D0)))))))
def za (p0 p1:Value):Prop:=
 az pg X0 w0 (aM p1) fun a=>
 ad pg X0 w0 (aT 32 0 0 1 a) fun b=>
 eC pg R X0 w0 true 229 #[p0,b] fun _ c d=>
 (az pg d c (aM p1) fun e=>
 ad pg d c (aT 32 1 1 1 e) fun g=>
 eC pg R d c true 229 #[p0,g] fun _ h i=>
 (az pg i h (aM p1) fun j=>
 ad pg i h (aT 32 2 2 1 j) fun k=>
 eC pg R i h true 229 #[p0,k] fun _ l m=>
 fin R m l (aG #[])))
def xU (p0 p1:Value):Prop:=
 az pg X0 w0 (aM p0) fun a=>
 ad pg X0 w0 (aT 293 0 0 1 a) fun b=>
 ad pg X0 w0 (ld1 201 b) fun c=>
 ad pg X0 w0 (aH .neq 201 (.tmp 7) (.const (.pointer none)) c (.pointer none)) fun d=>
 (au d
 (az pg X0 w0 (aM p0) fun e=>
 ad pg X0 w0 (aT 293 0 0 1 e) fun g=>
 ad pg X0 w0 (ld1 201 g) fun h=>
 az pg X0 w0 (aM p1) fun i=>
 ad pg X0 w0 (ld1 4 i) fun j=>
 eC pg R X0 w0 true 285 #[h,j] fun _ k l=>
 (fin R l k (aG #[])))
 ((az pg X0 w0 (aM p0) fun m=>
 ad pg X0 w0 (aT 293 1 1 1 m) fun n=>
 ad pg X0 w0 (ld1 138 n) fun o=>
 eC pg R X0 w0 true 286 #[o] fun q r s=>
 az pg s r (aM p1) fun t=>
 eU pg R s r true (st1 4 1 t q) fun _ v y=>
 (eC pg R y v true 277 #[p0] fun _ z A=>
 fin R A z (aG #[])))))
def wX (p0 p1:Value):Prop:=
 az pg X0 w0 (aM p1) fun a=>
 ad pg X0 w0 (aT 34 0 0 1 a) fun b=>
 eC pg R X0 w0 true 229 #[p0,b] fun _ c d=>
 (az pg d c (aM p1) fun e=>
 ad pg d c (aT 34 1 1 1 e) fun g=>
 eC pg R d c true 229 #[p0,g] fun _ h i=>
 (az pg i h (aM p1) fun j=>
 ad pg i h (aT 34 2 2 1 j) fun k=>
 eC pg R i h true 229 #[p0,k] fun _ l m=>
 fin R m l (aG #[])))
def wY (p0 p1:Value):Prop:=
 az pg X0 w0 (aM p0) fun a=>
 ad pg X0 w0 (aT 293 0 0 1 a) fun b=>
 ad pg X0 w0 (ld1 201 b) fun c=>
 ad pg X0 w0 (aH .neq 201 (.tmp 7) (.const (.pointer none)) c (.pointer none)) fun d=>
 (au d
 (az pg X0 w0 (aM p0) fun e=>
 ad pg X0 w0 (aT 293 0 0 1 e) fun g=>
 ad pg X0 w0 (ld1 201 g) fun h=>
 az pg X0 w0 (aM p1) fun i=>
 ad pg X0 w0 (ld1 41 i) fun j=>
 eC pg R X0 w0 true 287 #[h,j] fun _ k l=>
 (fin R l k (aG #[])))
 ((az pg X0 w0 (aM p0) fun m=>
 ad pg X0 w0 (aT 293 1 1 1 m) fun n=>
 ad pg X0 w0 (ld1 138 n) fun o=>
 eC pg R X0 w0 true 288 #[o] fun q r s=>
 az pg s r (aM p1) fun t=>
 eU pg R s r true (st1 41 1 t q) fun _ v y=>
 (eC pg R y v true 277 #[p0] fun _ z A=>
 fin R A z (aG #[])))))
def tp (p0 p1 p2:Value):Prop:=
 az pg X0 w0 (aM p1) fun a=>
 ad pg X0 w0 (ld1 37 a) fun b=>
 ad pg X0 w0 (cB 37 3 b) fun c=>
 ((jn (fun (d:Value) (e:World) (g:XS)=>
 (gp g e (I 0) 39 fun h i j k l=>
 ad pg l k (binOp .lss 3 j d) fun m=>
 (au m
 ((((jn (fun (n:World) (o:XS)=>
 az pg o n (aM p1) fun q=>
 ad pg o n (ld1 37 q) fun r=>
 ad pg o n (dt 37 4 r j) fun s=>
 eF pg R o n true p2 #[s] fun _ t v=>
 ((ad pg v t (binOp .add 3 j (I 1)) fun y=>
 gm h i y t v))) fun z=>
 az pg l k (aM p0) fun A=>
 ad pg l k (aT 293 0 0 1 A) fun C=>
 ad pg l k (ld1 201 C) fun D=>
 ad pg l k (aH .eql 201 (.tmp 45) (.const (.pointer none)) D (.pointer none)) fun E=>
 (au E
 ((az pg l k (aM p1) fun F=>
 ad pg l k (ld1 37 F) fun G=>
 eV pg R l k false (gq 37 118 4 1 #[(0,(.agg #[(.string { data:= #[] }),(I 0),(.float .f64 0),(.string { data:= #[] })]))]) fun H L M=>
 eV pg R M L true (fW 37 118 4 48 37 G H) fun N O Q=>
 az pg Q O (aM p1) fun S=>
 eU pg R Q O true (st1 37 1 S N) fun _ T U=>
 (z T U)))
 (z k l))))))
 (fin R l k (aG #[]))))) fun V=>
 az pg X0 w0 (aM p0) fun Y=>
 ad pg X0 w0 (aT 293 0 0 1 Y) fun Z=>
 ad pg X0 w0 (ld1 201 Z) fun a0=>
 ad pg X0 w0 (aH .neq 201 (.tmp 16) (.const (.pointer none)) a0 (.pointer none)) fun b0=>
 (au b0
 (az pg X0 w0 (aM p0) fun c0=>
 ad pg X0 w0 (aT 293 0 0 1 c0) fun d0=>
 ad pg X0 w0 (ld1 201 d0) fun e0=>
 eC pg R X0 w0 true 113 #[e0,c] fun _ g0 h0=>
 (V c g0 h0))
 (az pg X0 w0 (aM p0) fun i0=>
 ad pg X0 w0 (aT 293 1 1 1 i0) fun j0=>
 ad pg X0 w0 (ld1 138 j0) fun k0=>
 az pg X0 w0 (aM p0) fun l0=>
 ad pg X0 w0 (aT 293 1 1 1 l0) fun m0=>
 ad pg X0 w0 (ld1 138 m0) fun n0=>
 eC pg R X0 w0 false 284 #[n0] fun o0 q0 r0=>
 eC pg R r0 q0 true 63 #[k0,o0] fun s0 t0 v0=>
 (eC pg R v0 t0 true 277 #[p0] fun _ y0 z0=>
 (az pg z0 y0 (aM p1) fun A0=>
 eU pg R z0 y0 true (st1 37 1 A0 (.slice none 0 0)) fun _ C0 D0=>
 (V s0 C0 D0)))))))
def wZ (p0 p1:Value):Prop:=
 az pg X0 w0 (aM p1) fun a=>
 ad pg X0 w0 (aT 118 0 0 1 a) fun b=>
 eC pg R X0 w0 true 283 #[p0,b] fun _ c d=>
 (az pg d c (aM p1) fun e=>
 ad pg d c (aT 118 1 1 3 e) fun g=>
 eC pg R d c true 289 #[p0,g] fun _ h i=>
 fin R i h (aG #[]))
def ua (p0 p1 p2:Value):Prop:=
 az pg X0 w0 (aM p1) fun a=>
 ad pg X0 w0 (ld1 71 a) fun b=>
 ad pg X0 w0 (cB 71 3 b) fun c=>
 ((jn (fun (d:Value) (e:World) (g:XS)=>
 (gp g e (I 0) 39 fun h i j k l=>
 ad pg l k (binOp .lss 3 j d) fun m=>
 (au m
 ((((jn (fun (n:World) (o:XS)=>
 az pg o n (aM p1) fun q=>
 ad pg o n (ld1 71 q) fun r=>
 ad pg o n (dt 71 4 r j) fun s=>
 eF pg R o n true p2 #[s] fun _ t v=>
 ((ad pg v t (binOp .add 3 j (I 1)) fun y=>
 gm h i y t v))) fun z=>
 az pg l k (aM p0) fun A=>
 ad pg l k (aT 293 0 0 1 A) fun C=>
 ad pg l k (ld1 201 C) fun D=>
 ad pg l k (aH .eql 201 (.tmp 45) (.const (.pointer none)) D (.pointer none)) fun E=>
 (au E
 ((az pg l k (aM p1) fun F=>
 ad pg l k (ld1 71 F) fun G=>
 eV pg R l k false (gq 71 205 4 1 #[(0,(.agg #[(.string { data:= #[] }),(I 0),(.float .f64 0),(.string { data:= #[] })]))]) fun H L M=>
 eV pg R M L true (fW 71 205 4 48 71 G H) fun N O Q=>
 az pg Q O (aM p1) fun S=>
 eU pg R Q O true (st1 71 1 S N) fun _ T U=>
 (z T U)))
 (z k l))))))
 (fin R l k (aG #[]))))) fun V=>
 az pg X0 w0 (aM p0) fun Y=>
 ad pg X0 w0 (aT 293 0 0 1 Y) fun Z=>
 ad pg X0 w0 (ld1 201 Z) fun a0=>
 ad pg X0 w0 (aH .neq 201 (.tmp 16) (.const (.pointer none)) a0 (.pointer none)) fun b0=>
 (au b0
 (az pg X0 w0 (aM p0) fun c0=>
 ad pg X0 w0 (aT 293 0 0 1 c0) fun d0=>
 ad pg X0 w0 (ld1 201 d0) fun e0=>
 eC pg R X0 w0 true 113 #[e0,c] fun _ g0 h0=>
 (V c g0 h0))
 (az pg X0 w0 (aM p0) fun i0=>
 ad pg X0 w0 (aT 293 1 1 1 i0) fun j0=>
 ad pg X0 w0 (ld1 138 j0) fun k0=>
 az pg X0 w0 (aM p0) fun l0=>
 ad pg X0 w0 (aT 293 1 1 1 l0) fun m0=>
 ad pg X0 w0 (ld1 138 m0) fun n0=>
 eC pg R X0 w0 false 284 #[n0] fun o0 q0 r0=>
 eC pg R r0 q0 true 63 #[k0,o0] fun s0 t0 v0=>
 (eC pg R v0 t0 true 277 #[p0] fun _ y0 z0=>
 (az pg z0 y0 (aM p1) fun A0=>
 eU pg R z0 y0 true (st1 71 1 A0 (.slice none 0 0)) fun _ C0 D0=>
 (V s0 C0 D0)))))))
def xV (p0 p1:Value):Prop:=
 az pg X0 w0 (aM p1) fun a=>
 ad pg X0 w0 (aT 205 0 0 1 a) fun b=>
 eC pg R X0 w0 true 283 #[p0,b] fun _ c d=>
 (az pg d c (aM p1) fun e=>
 ad pg d c (aT 205 1 1 3 e) fun g=>
 eC pg R d c true 289 #[p0,g] fun _ h i=>
 fin R i h (aG #[]))
noncomputable def S6:bz:=⟨36,[],[],[0,2,3,4,5,6,14,21,24,27,32],[17,18,19],[]⟩
def HJ (p0:Nat):Prop:=
 (eC pg R X0 w0 true 228 #[(.float .f64 p0)] fun a b c=>
 (ad pg c b (binOp .shr 208 a (aU bq 52)) fun d=>
 ad pg c b (binOp .and 208 d (aU bq 2047)) fun e=>
 ad pg c b (binOp .and 208 a (aU bq 4503599627370495)) fun g=>
 (((jn (fun (h:Value)=>
 (ad pg c b (binOp .and 208 a (aU bq 9223372036854775808)) fun i=>
 ad pg c b (aH .neq 208 (.tmp 31) (.const (aU bq 0)) i (aU bq 0)) fun j=>
 (au j
 (ad pg c b (binOp .sub 3 (I 9) h) fun k=>
 (fin R c b k))
 (fin R c b h)))) fun l=>
 ad pg c b (aH .eql 208 (.tmp 15) (.const (aU bq 2047)) e (aU bq 2047)) fun m=>
 un (aP m true g) fun n=>
 aJ pg c b m true (vS (aH .neq 208 (.tmp 18) (.const (aU bq 0)) n (aU bq 0))) fun o=>
 az pg c b (aQ m o (B false)) fun q=>
 (au q
 (fin R c b (I 0))
 (ad pg c b (aH .eql 208 (.tmp 22) (.const (aU bq 2047)) e (aU bq 2047)) fun r=>
 (au r
 (l (I 8))
 (ad pg c b (binOp .gtr 208 e (aU bq 0)) fun s=>
 (au s
 (l (I 7))
 (ad pg c b (binOp .gtr 208 g (aU bq 0)) fun t=>
 (au t
 (l (I 6))
 (l (I 5))))))))))))))
noncomputable def NC:bz:=⟨9,[(2,(pg.cellsOf 182))],[5],[0,1,3,4],[],[]⟩
def DN (_p0_0 _p0_1 _p0_2 _p0_3 _p0_4 _p0_5:Int) (_p0_6 b6:Value) (p1:ByteArray):Prop:=
 eV pg R X0 w0 true (cE 9 (.string p1)) fun a b c=>
 (ad pg c b (ct (eO 290) #[] #[a]) fun d=>
 eC pg R c b true 252 #[b6,d] fun e g h=>
 (fin R h g e))
noncomputable def EJ:bz:=⟨9,[(4,(pg.cellsOf 166))],[],[0,1],[],[]⟩
def xa (p0:Value) (p1:ByteArray):Prop:=
 (ad pg X0 w0 (dV 34 #[(I 0),(I 0),(I 0)] #[]) fun a=>
 eC pg R X0 w0 true 291 #[p0,(.string p1),a,(B true)] fun b c d=>
 un (aj (aa b)) fun e=>
 aF (ao (ab (aa b))==7) (aF (av (ab (aa b)) bu.one) (un (b7 e 0 7) fun g=>
 aF (av [e] cd) (fin R d c g))))
noncomputable def Jf:bz:=⟨51,[(1,(pg.cellsOf 47))],[3,4,8,9,14,15,21,22,28,34,40,46],[0,2],[7,10,11,13,16,17,18,20,23,24,25,27,29,30,31,33,35,36,37,39,41,42,43,45,47,48,49],[]⟩
def z7 (aO aZ:Int) (ba bA:Nat) (bN bQ bV b6 cI dg:Int) (cn cj:Value):Prop:=
 (ad pg X0 w0 (aH .eql 3 (.tmp 5) (.const (I 0)) (I aO) (I 0)) fun a=>
 un (aP a true (I aZ)) fun b=>
 aJ pg X0 w0 a true (vS (aH .eql 3 (.tmp 10) (.const (I 0)) b (I 0))) fun c=>
 az pg X0 w0 (aQ a c (B false)) fun d=>
 un (aP d true (.float .f64 ba)) fun e=>
 jn (fun (g:Value) (h:World) (i:XS)=>
 aJ pg i h d true (vS (aH .eql 208 (.tmp 17) (.const (aU bq 0)) g (aU bq 0))) fun j=>
 az pg i h (aQ d j (B false)) fun k=>
 un (aP k true (.float .f64 bA)) fun l=>
 jn (fun (m:Value) (n:World) (o:XS)=>
 aJ pg o n k true (vS (aH .eql 208 (.tmp 24) (.const (aU bq 0)) m (aU bq 0))) fun q=>
 az pg o n (aQ k q (B false)) fun r=>
 un (aP r true (.agg #[(I bN),(I bQ),(I bV)])) fun s=>
 aJ pg o n r true (vS (dV 34 #[(I 0),(I 0),(I 0)] #[])) fun t=>
 aJ pg o n r true (vS (aH .eql 34 (.tmp 29) (.tmp 30) s t)) fun v=>
 az pg o n (aQ r v (B false)) fun y=>
 un (aP y true (.agg #[(I b6),(I cI),(I dg)])) fun z=>
 aJ pg o n y true (vS (dV 34 #[(I 0),(I 0),(I 0)] #[])) fun A=>
 aJ pg o n y true (vS (aH .eql 34 (.tmp 35) (.tmp 36) z A)) fun C=>
 az pg o n (aQ y C (B false)) fun D=>
 un (aP D true cn) fun E=>
 aJ pg o n D true (vS (cB 44 3 E)) fun F=>
 aJ pg o n D true (vS (aH .eql 3 (.tmp 42) (.const (I 0)) F (I 0))) fun G=>
 az pg o n (aQ D G (B false)) fun H=>
 un (aP H true cj) fun L=>
 aJ pg o n H true (vS (cB 45 3 L)) fun M=>
 aJ pg o n H true (vS (aH .eql 3 (.tmp 48) (.const (I 0)) M (I 0))) fun N=>
 az pg o n (aQ H N (B false)) fun O=>
 (fin R o n O)) fun Q=>
 (gE k true (eC pg R i h true 118 #[l] Q) (Q undef h i))) fun S=>
 (gE d true (eC pg R X0 w0 true 118 #[e] S) (S undef w0 X0)))
noncomputable def Mx:bz:=⟨11,[(3,(pg.cellsOf 34))],[],[0,1,4,5],[],[]⟩
def Cj (p0:Bool) (cm cu cq:Int):Prop:=
 ((au (B p0)
 (eC pg R X0 w0 true 248 #[(.agg #[(I cm),(I cu),(I cq)])] fun a b c=>
 (fin R c b a))
 ((ad pg X0 w0 (dV 34 #[(I 0),(I 0),(I 0)] #[]) fun d=>
 ad pg X0 w0 (aH .eql 34 (.tmp 8) (.tmp 9) (.agg #[(I cm),(I cu),(I cq)]) d) fun e=>
 (fin R X0 w0 e)))))
noncomputable def ND:bz:=⟨13,[],[],[0,2,3,4,8],[],[]⟩
def DO (p0:Nat):Prop:=
 (eC pg R X0 w0 true 241 #[(.float .f64 p0)] fun a b c=>
 ad pg c b (aH .eql 3 (.tmp 6) (.const (I 4)) a (I 4)) fun d=>
 (au d
 ((fin R c b (aG #[(.float .f64 0),(I 0)])))
 (eC pg R c b true 198 #[(.float .f64 p0)] fun e g h=>
 ad pg h g (aX bm e) fun i=>
 (au i
 ((fin R h g (aG #[(.float .f64 0),(I 1)])))
 ((((fin R h g (aG #[(.float .f64 p0),(I 0)])))))))))
noncomputable def NF:bz:=⟨9,[],[],[0,2],[5,6,7],[]⟩
def DP (p0:Int):Prop:=
 (ad pg X0 w0 (binOp .geq 3 (I p0) (I 1)) fun a=>
 un (aP a true (I p0)) fun b=>
 aJ pg X0 w0 a true (vS (binOp .leq 3 b (I 12))) fun c=>
 az pg X0 w0 (aQ a c (B false)) fun d=>
 (fin R X0 w0 d))
noncomputable def NG:bz:=⟨10,[(1,(pg.cellsOf 34))],[],[0,2],[5,6,7,8],[]⟩
def DQ (aO aZ ba:Int):Prop:=
 (eC pg R X0 w0 true 57 #[(.agg #[(I aO),(I aZ),(I ba)])] fun a b c=>
 un (aP a true (.agg #[(I aO),(I aZ),(I ba)])) fun d=>
 aJ pg c b a true (vS (dV 34 #[(I 0),(I 0),(I 0)] #[])) fun e=>
 aJ pg c b a true (vS (aH .neq 34 (.tmp 6) (.tmp 7) d e)) fun g=>
 az pg c b (aQ a g (B false)) fun h=>
 (fin R c b h))
def FK (p0:Value):Prop:=
 (ad pg X0 w0 (cB 71 3 p0) fun a=>
 (gp X0 w0 (I 0) 7 fun b c d e g=>
 ad pg g e (binOp .lss 3 d a) fun h=>
 (au h
 ((ad pg g e (dt 71 4 p0 d) fun i=>
 ad pg g e (ew 205 4 i) fun j=>
 un (aj (aa j)) fun k=>
 aF (ao (ab (aa j))==4) (aF (av (ab (aa j)) bu.one) ((aF (cd k) (un (cellOf k 0) fun l=>
 eC pg R g e true 194 #[l] fun m n o=>
 ad pg o n (aX bm m) fun q=>
 un (aP q false d) fun r=>
 aJ pg o n q false (vS (binOp .gtr 3 r (I 0))) fun s=>
 un (aP q false s) fun t=>
 un (aP t true p0) fun v=>
 un (aP t true d) fun y=>
 aJ pg o n t true (vS (binOp .sub 3 y (I 1))) fun z=>
 aJ pg o n t true (vS (dt 71 4 v z)) fun A=>
 aJ pg o n t true (vS (aT 205 0 0 1 A)) fun C=>
 aJ pg o n t true (vS (ld1 9 C)) fun D=>
 un (aP t true l) fun E=>
 aJ pg o n t true (vS (binOp .geq 9 D E)) fun F=>
 aJ pg o n q false (aQ t F (B false)) fun G=>
 az pg o n (aQ q (B true) G) fun H=>
 un (b7 k 1 3) fun L=>
 un (aP H false L) fun M=>
 jn (fun (N:Value) (O:World) (Q:XS)=>
 aJ pg Q O H false (vS (aX bm N)) fun S=>
 az pg Q O (aQ H (B true) S) fun T=>
 un (cellOf k 1) fun U=>
 un (aP T false U) fun V=>
 aJ pg Q O T false (vS (aH .eql 3 (.tmp 40) (.const (I 0)) V (I 0))) fun Y=>
 az pg Q O (aQ T (B true) Y) fun Z=>
 (au Z
 (fin R Q O (B false))
 (((ad pg Q O (binOp .add 3 d (I 1)) fun a0=>
 gm b c a0 O Q))))) fun b0=>
 (gE H false (eC pg R o n true 196 #[M] b0) (b0 undef n o))))))))
 (fin R g e (B true)))))
def iL (p0 p1:Value):Prop:=
 (eC pg R X0 w0 true 292 #[p0,p1] fun a b c=>
 ad pg c b (binOp .geq 3 a (I 0)) fun d=>
 (fin R c b d))
noncomputable def Gk:bz:=⟨15,[(3,(pg.cellsOf 156))],[5,10],[0,1,2,4],[9,11,12,13],[]⟩
def xW (aO _p0_1 ba bA bN _p0_5 _p0_6 _p0_7:Int) (_p0_8 c0 c1:Value):Prop:=
 (ad pg X0 w0 (ld1 3 c0) fun a=>
 ad pg X0 w0 (aH .eql 3 (.tmp 6) (.tmp 7) (I aO) a) fun b=>
 un (aP b true (.agg #[(I ba),(I bA),(I bN)])) fun c=>
 aJ pg X0 w0 b true (vS (ew 32 3 c1)) fun d=>
 aJ pg X0 w0 b true (vS (aH .eql 32 (.tmp 11) (.tmp 12) c d)) fun e=>
 az pg X0 w0 (aQ b e (B false)) fun g=>
 (fin R X0 w0 g))
def jF (p0 p1:Value):Prop:=
 (eC pg R X0 w0 true 293 #[p0,p1] fun a b c=>
 ad pg c b (binOp .geq 3 a (I 0)) fun d=>
 (fin R c b d))
noncomputable def My:bz:=⟨7,[],[],[0,1,2,3],[],[]⟩
def Ck (aO:ByteArray) (aZ:Int) (ba:Nat) (bA:ByteArray) (c0:Value):Prop:=
 eV pg R X0 w0 true (cE 118 (.agg #[(.string aO),(I aZ),(.float .f64 ba),(.string bA)])) fun a b c=>
 (ad pg c b (ld1 37 c0) fun d=>
 ad pg c b (ct (eO 254) #[] #[a]) fun e=>
 eC pg R c b true 252 #[d,e] fun g h i=>
 (fin R i h g))
noncomputable def HK:bz:=⟨9,[(2,(pg.cellsOf 118))],[6],[0,1,3],[],[]⟩
def zc (aO:ByteArray) (_p0_1:Int) (_p0_2:Nat) (_p0_3:ByteArray) (c0:Value):Prop:=
 (ad pg X0 w0 (aT 118 0 0 1 c0) fun a=>
 ad pg X0 w0 (ld1 9 a) fun b=>
 ad pg X0 w0 (aH .eql 9 (.tmp 5) (.tmp 7) b (.string aO)) fun c=>
 (fin R X0 w0 c))
noncomputable def S7:bz:=⟨8,[],[],[0,2,5],[],[]⟩
def HL (p0:Nat):Prop:=
 (ad pg X0 w0 (aH .neq 41 (.tmp 3) (.tmp 4) (.float .f64 p0) (.float .f64 p0)) fun a=>
 (au a
 (eC pg R X0 w0 true 302 #[(aU bq 9221120237041090560)] fun b c d=>
 (fin R d c b))
 (fin R X0 w0 (.float .f64 p0))))
def xd (p0 p1:Value):Prop:=
 az pg X0 w0 (aM p1) fun a=>
 ad pg X0 w0 (aT 43 0 0 1 a) fun b=>
 eC pg R X0 w0 true 229 #[p0,b] fun _ c d=>
 (az pg d c (aM p1) fun e=>
 ad pg d c (aT 43 1 1 1 e) fun g=>
 eC pg R d c true 229 #[p0,g] fun _ h i=>
 (az pg i h (aM p1) fun j=>
 ad pg i h (aT 43 2 2 1 j) fun k=>
 eC pg R i h true 236 #[p0,k] fun _ l m=>
 (az pg m l (aM p1) fun n=>
 ad pg m l (aT 43 3 3 1 n) fun o=>
 eC pg R m l true 236 #[p0,o] fun _ q r=>
 fin R r q (aG #[]))))
def rS (p0 p1 p2:Value):Prop:=
 az pg X0 w0 (aM p1) fun a=>
 ad pg X0 w0 (ld1 44 a) fun b=>
 ad pg X0 w0 (cB 44 3 b) fun c=>
 ((jn (fun (d:Value) (e:World) (g:XS)=>
 (gp g e (I 0) 39 fun h i j k l=>
 ad pg l k (binOp .lss 3 j d) fun m=>
 (au m
 ((((jn (fun (n:World) (o:XS)=>
 az pg o n (aM p1) fun q=>
 ad pg o n (ld1 44 q) fun r=>
 ad pg o n (dt 44 2 r j) fun s=>
 eF pg R o n true p2 #[s] fun _ t v=>
 ((ad pg v t (binOp .add 3 j (I 1)) fun y=>
 gm h i y t v))) fun z=>
 az pg l k (aM p0) fun A=>
 ad pg l k (aT 293 0 0 1 A) fun C=>
 ad pg l k (ld1 201 C) fun D=>
 ad pg l k (aH .eql 201 (.tmp 45) (.const (.pointer none)) D (.pointer none)) fun E=>
 (au E
 ((az pg l k (aM p1) fun F=>
 ad pg l k (ld1 44 F) fun G=>
 eV pg R l k false (gq 44 225 2 1 #[(0,(.agg #[(.string { data:= #[] }),(.slice none 0 0)]))]) fun H L M=>
 eV pg R M L true (fW 44 225 2 40 44 G H) fun N O Q=>
 az pg Q O (aM p1) fun S=>
 eU pg R Q O true (st1 44 1 S N) fun _ T U=>
 (z T U)))
 (z k l))))))
 (fin R l k (aG #[]))))) fun V=>
 az pg X0 w0 (aM p0) fun Y=>
 ad pg X0 w0 (aT 293 0 0 1 Y) fun Z=>
 ad pg X0 w0 (ld1 201 Z) fun a0=>
 ad pg X0 w0 (aH .neq 201 (.tmp 16) (.const (.pointer none)) a0 (.pointer none)) fun b0=>
 (au b0
 (az pg X0 w0 (aM p0) fun c0=>
 ad pg X0 w0 (aT 293 0 0 1 c0) fun d0=>
 ad pg X0 w0 (ld1 201 d0) fun e0=>
 eC pg R X0 w0 true 113 #[e0,c] fun _ g0 h0=>
 (V c g0 h0))
 (az pg X0 w0 (aM p0) fun i0=>
 ad pg X0 w0 (aT 293 1 1 1 i0) fun j0=>
 ad pg X0 w0 (ld1 138 j0) fun k0=>
 az pg X0 w0 (aM p0) fun l0=>
 ad pg X0 w0 (aT 293 1 1 1 l0) fun m0=>
 ad pg X0 w0 (ld1 138 m0) fun n0=>
 eC pg R X0 w0 false 284 #[n0] fun o0 q0 r0=>
 eC pg R r0 q0 true 63 #[k0,o0] fun s0 t0 v0=>
 (eC pg R v0 t0 true 277 #[p0] fun _ y0 z0=>
 (az pg z0 y0 (aM p1) fun A0=>
 eU pg R z0 y0 true (st1 44 1 A0 (.slice none 0 0)) fun _ C0 D0=>
 (V s0 C0 D0)))))))
def ub (p0 p1:Value):Prop:=
 az pg X0 w0 (aM p1) fun a=>
 ad pg X0 w0 (aT 225 0 0 1 a) fun b=>
 eC pg R X0 w0 true 283 #[p0,b] fun _ c d=>
 (az pg d c (aM p1) fun e=>
 ad pg d c (aT 225 1 1 1 e) fun g=>
 ad pg d c (ct (eO 304) #[p0] #[]) fun h=>
 eC pg R d c true 303 #[p0,g,h] fun _ i j=>
 fin R j i (aG #[]))
def rT (p0 p1 p2:Value):Prop:=
 az pg X0 w0 (aM p1) fun a=>
 ad pg X0 w0 (ld1 45 a) fun b=>
 ad pg X0 w0 (cB 45 3 b) fun c=>
 ((jn (fun (d:Value) (e:World) (g:XS)=>
 (gp g e (I 0) 39 fun h i j k l=>
 ad pg l k (binOp .lss 3 j d) fun m=>
 (au m
 ((((jn (fun (n:World) (o:XS)=>
 az pg o n (aM p1) fun q=>
 ad pg o n (ld1 45 q) fun r=>
 ad pg o n (dt 45 8 r j) fun s=>
 eF pg R o n true p2 #[s] fun _ t v=>
 ((ad pg v t (binOp .add 3 j (I 1)) fun y=>
 gm h i y t v))) fun z=>
 az pg l k (aM p0) fun A=>
 ad pg l k (aT 293 0 0 1 A) fun C=>
 ad pg l k (ld1 201 C) fun D=>
 ad pg l k (aH .eql 201 (.tmp 45) (.const (.pointer none)) D (.pointer none)) fun E=>
 (au E
 ((az pg l k (aM p1) fun F=>
 ad pg l k (ld1 45 F) fun G=>
 eV pg R l k false (gq 45 182 8 1 #[(0,(.agg #[(I 0),(I 0),(I 0),(I 0),(I 0),(I 0),(.slice none 0 0),(.slice none 0 0)]))]) fun H L M=>
 eV pg R M L true (fW 45 182 8 96 45 G H) fun N O Q=>
 az pg Q O (aM p1) fun S=>
 eU pg R Q O true (st1 45 1 S N) fun _ T U=>
 (z T U)))
 (z k l))))))
 (fin R l k (aG #[]))))) fun V=>
 az pg X0 w0 (aM p0) fun Y=>
 ad pg X0 w0 (aT 293 0 0 1 Y) fun Z=>
 ad pg X0 w0 (ld1 201 Z) fun a0=>
 ad pg X0 w0 (aH .neq 201 (.tmp 16) (.const (.pointer none)) a0 (.pointer none)) fun b0=>
 (au b0
 (az pg X0 w0 (aM p0) fun c0=>
 ad pg X0 w0 (aT 293 0 0 1 c0) fun d0=>
 ad pg X0 w0 (ld1 201 d0) fun e0=>
 eC pg R X0 w0 true 113 #[e0,c] fun _ g0 h0=>
 (V c g0 h0))
 (az pg X0 w0 (aM p0) fun i0=>
 ad pg X0 w0 (aT 293 1 1 1 i0) fun j0=>
 ad pg X0 w0 (ld1 138 j0) fun k0=>
 az pg X0 w0 (aM p0) fun l0=>
 ad pg X0 w0 (aT 293 1 1 1 l0) fun m0=>
 ad pg X0 w0 (ld1 138 m0) fun n0=>
 eC pg R X0 w0 false 284 #[n0] fun o0 q0 r0=>
 eC pg R r0 q0 true 63 #[k0,o0] fun s0 t0 v0=>
 (eC pg R v0 t0 true 277 #[p0] fun _ y0 z0=>
 (az pg z0 y0 (aM p1) fun A0=>
 eU pg R z0 y0 true (st1 45 1 A0 (.slice none 0 0)) fun _ C0 D0=>
 (V s0 C0 D0)))))))
def xe (p0 p1 p2:Value):Prop:=
 az pg X0 w0 (aM p1) fun a=>
 ad pg X0 w0 (ld1 35 a) fun b=>
 ad pg X0 w0 (cB 35 3 b) fun c=>
 ((jn (fun (d:Value) (e:World) (g:XS)=>
 (gp g e (I 0) 39 fun h i j k l=>
 ad pg l k (binOp .lss 3 j d) fun m=>
 (au m
 ((((jn (fun (n:World) (o:XS)=>
 az pg o n (aM p1) fun q=>
 ad pg o n (ld1 35 q) fun r=>
 ad pg o n (dt 35 1 r j) fun s=>
 eF pg R o n true p2 #[s] fun _ t v=>
 ((ad pg v t (binOp .add 3 j (I 1)) fun y=>
 gm h i y t v))) fun z=>
 az pg l k (aM p0) fun A=>
 ad pg l k (aT 293 0 0 1 A) fun C=>
 ad pg l k (ld1 201 C) fun D=>
 ad pg l k (aH .eql 201 (.tmp 45) (.const (.pointer none)) D (.pointer none)) fun E=>
 (au E
 ((az pg l k (aM p1) fun F=>
 ad pg l k (ld1 35 F) fun G=>
 eV pg R l k true (gq 35 9 1 1 #[(0,(.string { data:= #[] }))]) fun H L M=>
 eV pg R M L true (fW 35 9 1 16 35 G H) fun N O Q=>
 az pg Q O (aM p1) fun S=>
 eU pg R Q O true (st1 35 1 S N) fun _ T U=>
 (z T U)))
 (z k l))))))
 (fin R l k (aG #[]))))) fun V=>
 az pg X0 w0 (aM p0) fun Y=>
 ad pg X0 w0 (aT 293 0 0 1 Y) fun Z=>
 ad pg X0 w0 (ld1 201 Z) fun a0=>
 ad pg X0 w0 (aH .neq 201 (.tmp 16) (.const (.pointer none)) a0 (.pointer none)) fun b0=>
 (au b0
 (az pg X0 w0 (aM p0) fun c0=>
 ad pg X0 w0 (aT 293 0 0 1 c0) fun d0=>
 ad pg X0 w0 (ld1 201 d0) fun e0=>
 eC pg R X0 w0 true 113 #[e0,c] fun _ g0 h0=>
 (V c g0 h0))
 (az pg X0 w0 (aM p0) fun i0=>
 ad pg X0 w0 (aT 293 1 1 1 i0) fun j0=>
 ad pg X0 w0 (ld1 138 j0) fun k0=>
 az pg X0 w0 (aM p0) fun l0=>
 ad pg X0 w0 (aT 293 1 1 1 l0) fun m0=>
 ad pg X0 w0 (ld1 138 m0) fun n0=>
 eC pg R X0 w0 false 284 #[n0] fun o0 q0 r0=>
 eC pg R r0 q0 true 63 #[k0,o0] fun s0 t0 v0=>
 (eC pg R v0 t0 true 277 #[p0] fun _ y0 z0=>
 (az pg z0 y0 (aM p1) fun A0=>
 eU pg R z0 y0 true (st1 35 1 A0 (.slice none 0 0)) fun _ C0 D0=>
 (V s0 C0 D0)))))))
def xX (p0 p1:Value):Prop:=
 az pg X0 w0 (aM p0) fun a=>
 ad pg X0 w0 (aT 293 0 0 1 a) fun b=>
 ad pg X0 w0 (ld1 201 b) fun c=>
 ad pg X0 w0 (aH .neq 201 (.tmp 7) (.const (.pointer none)) c (.pointer none)) fun d=>
 (au d
 (az pg X0 w0 (aM p0) fun e=>
 ad pg X0 w0 (aT 293 0 0 1 e) fun g=>
 ad pg X0 w0 (ld1 201 g) fun h=>
 az pg X0 w0 (aM p1) fun i=>
 ad pg X0 w0 (ld1 9 i) fun j=>
 eC pg R X0 w0 true 305 #[h,j] fun _ k l=>
 (fin R l k (aG #[])))
 ((az pg X0 w0 (aM p0) fun m=>
 ad pg X0 w0 (aT 293 1 1 1 m) fun n=>
 ad pg X0 w0 (ld1 138 n) fun o=>
 eC pg R X0 w0 true 306 #[o,(I 262144)] fun q r s=>
 az pg s r (aM p1) fun t=>
 eU pg R s r true (st1 9 1 t q) fun _ v y=>
 (eC pg R y v true 277 #[p0] fun _ z A=>
 fin R A z (aG #[])))))
noncomputable def Gl:bz:=⟨23,[],[],[0,1,4],[],[]⟩
def xY (p0:Value) (p1:Bool):Prop:=
 (au (B p1)
 (az pg X0 w0 (aM p0) fun a=>
 ad pg X0 w0 (aT 247 0 0 1 a) fun b=>
 ad pg X0 w0 (ld1 132 b) fun c=>
 eV pg R X0 w0 true (gq 132 5 1 1 #[(0,(aU gL 1))]) fun d e g=>
 eV pg R g e true (fW 132 5 1 1 132 c d) fun h i j=>
 az pg j i (aM p0) fun k=>
 ad pg j i (aT 247 0 0 1 k) fun l=>
 eU pg R j i true (st1 132 1 l h) fun _ m n=>
 (fin R n m (aG #[])))
 ((az pg X0 w0 (aM p0) fun o=>
 ad pg X0 w0 (aT 247 0 0 1 o) fun q=>
 ad pg X0 w0 (ld1 132 q) fun r=>
 eV pg R X0 w0 true (gq 132 5 1 1 #[(0,(aU gL 0))]) fun s t v=>
 eV pg R v t true (fW 132 5 1 1 132 r s) fun y z A=>
 az pg A z (aM p0) fun C=>
 ad pg A z (aT 247 0 0 1 C) fun D=>
 eU pg R A z true (st1 132 1 D y) fun _ E F=>
 fin R F E (aG #[]))))
noncomputable def EK:bz:=⟨23,[],[],[0,1,4,7,8],[],[4,7]⟩
def xf (p0:Value) (p1:Nat):Prop:=
 eC pg R X0 w0 true 228 #[(.float .f64 p1)] fun a b c=>
 ((il c b (I 0) a 7 4 fun d e g h i j=>
 ad pg j i (binOp .lss 3 g (I 8)) fun k=>
 (au k
 ((az pg j i (aM p0) fun l=>
 ad pg j i (aT 247 0 0 1 l) fun m=>
 ad pg j i (ld1 132 m) fun n=>
 ad pg j i (lT gL 208 5 h) fun o=>
 eV pg R j i true (gq 132 5 1 1 #[(0,o)]) fun q r s=>
 eV pg R s r true (fW 132 5 1 1 132 n q) fun t v y=>
 az pg y v (aM p0) fun z=>
 ad pg y v (aT 247 0 0 1 z) fun A=>
 eU pg R y v true (st1 132 1 A t) fun _ C D=>
 (ad pg D C (binOp .shr 208 h (aU bq 8)) fun E=>
 ((ad pg D C (binOp .add 3 g (I 1)) fun F=>
 im d e F E C D)))))
 (fin R j i (aG #[])))))
def xg (p0 p1:Value):Prop:=
 az pg X0 w0 (aM p0) fun a=>
 ad pg X0 w0 (aT 293 0 0 1 a) fun b=>
 ad pg X0 w0 (ld1 201 b) fun c=>
 ad pg X0 w0 (aH .neq 201 (.tmp 7) (.const (.pointer none)) c (.pointer none)) fun d=>
 (au d
 (az pg X0 w0 (aM p0) fun e=>
 ad pg X0 w0 (aT 293 0 0 1 e) fun g=>
 ad pg X0 w0 (ld1 201 g) fun h=>
 az pg X0 w0 (aM p1) fun i=>
 ad pg X0 w0 (ew 116 3 i) fun j=>
 eC pg R X0 w0 true 308 #[h,j] fun _ k l=>
 (fin R l k (aG #[])))
 ((az pg X0 w0 (aM p0) fun m=>
 ad pg X0 w0 (aT 293 1 1 1 m) fun n=>
 ad pg X0 w0 (ld1 138 n) fun o=>
 eC pg R X0 w0 true 309 #[o] fun q r s=>
 az pg s r (aM p1) fun t=>
 eU pg R s r true (st1 116 3 t q) fun _ v y=>
 (eC pg R y v true 277 #[p0] fun _ z A=>
 fin R A z (aG #[])))))
noncomputable def Jg:bz:=⟨8,[(2,(pg.cellsOf 118))],[4],[0,1,3],[],[]⟩
def Aa (aO:ByteArray) (_p0_1:Int) (_p0_2:Nat) (_p0_3:ByteArray) (c0:Value):Prop:=
 (ad pg X0 w0 (ld1 9 c0) fun a=>
 ad pg X0 w0 (aH .eql 9 (.tmp 5) (.tmp 6) (.string aO) a) fun b=>
 (fin R X0 w0 b))
noncomputable def EL:bz:=⟨41,[(6,(pg.cellsOf 34)),(8,(pg.cellsOf 166)),(9,(pg.cellsOf 166)),(11,(pg.cellsOf 227))],[27,33,35,37,38],[0,1,2,3,19,20,21,22,32],[26,28,29,30,31],[9,21]⟩
def xh (p0:Value) (p1:ByteArray) (gj gB gC:Int) (p3:Bool):Prop:=
 (ad pg X0 w0 (dV 166 #[(.string p1),(I 0),(.float .f64 0),(.string ⟨#[]⟩),(I 0),(I 0),(I 0)] #[(0,(.string p1))]) fun a=>
 un (aj (aa a)) fun b=>
 aF (ao (ab (aa a))==7) (aF (av (ab (aa a)) bu.one) ((az pg X0 w0 (aM p0) fun c=>
 ad pg X0 w0 (aT 302 0 0 1 c) fun d=>
 ad pg X0 w0 (ld1 299 d) fun e=>
 ad pg X0 w0 (Instr.lookup 299 e (.string p1) false) fun g=>
 ad pg X0 w0 (cB 223 3 g) fun h=>
 (il X0 w0 (I 0) b 21 9 fun i j k l m n=>
 ad pg n m (binOp .lss 3 k h) fun o=>
 (au o
 (((jn (fun (q:Value) (r:World) (s:XS)=>
 (ad pg s r (binOp .add 3 k (I 1)) fun t=>
 im i j t q r s)) fun v=>
 ad pg n m (dt 223 6 g k) fun y=>
 ad pg n m (ew 227 6 y) fun z=>
 un (aj (aa z)) fun A=>
 aF (ao (ab (aa z))==6) (aF (av (ab (aa z)) bu.one) ((aF (cd A) (un (b7 A 0 3) fun C=>
 un (aP (B p3) false C) fun D=>
 un (aP (B p3) false (.agg #[(I gj),(I gB),(I gC)])) fun E=>
 jn (fun (F:Value) (G:World) (H:XS)=>
 aJ pg H G (B p3) false (vS (binOp .leq 3 F (I 0))) fun L=>
 az pg H G (aQ (B p3) (B true) L) fun M=>
 (au M
 (aF (cd A) (aF (cd l) (un (b7 A 3 3) fun N=>
 un (aj (aR (cz (ab (aa l)) 1 (ab (aa N))))) fun O=>
 aF (ao (ab (aa N))==3) (aF (av (ab (aa N)) bu.one) (un (aj (aR (cz (ab (aa O)) 4 (ab (aa C))))) fun Q=>
 aF (ao (ab (aa C))==3) (aF (av (ab (aa C)) bu.one) (v Q G H)))))))
 (v l G H))) fun S=>
 (gE (B p3) false (eC pg R n m true 84 #[D,E] S) (S undef m n)))))))))
 (((aF (cd l) (un (b7 l 0 7) fun T=>
 un (aj (aa T)) fun U=>
 aF (ao (ab (aa T))==7) (aF (av (ab (aa T)) bu.one) (un (b7 U 0 7) fun V=>
 aF (av [U] cd) (fin R n m V)))))))))))))
def jf (p0 p1:Value):Prop:=
 (ad pg X0 w0 (cB 177 3 p0) fun a=>
 (gp X0 w0 (I 0) 8 fun b c d e g=>
 ad pg g e (binOp .lss 3 d a) fun h=>
 (au h
 (((ad pg g e (dt 177 9 p0 d) fun i=>
 ad pg g e (ew 156 9 i) fun j=>
 eF pg R g e true p1 #[j] fun k l m=>
 (au k
 (fin R m l d)
 (((ad pg m l (binOp .add 3 d (I 1)) fun n=>
 gm b c n l m)))))))
 ((((fin R g e (I (-1)))))))))
def kg (p0 p1:Value):Prop:=
 (ad pg X0 w0 (cB 37 3 p0) fun a=>
 (gp X0 w0 (I 0) 8 fun b c d e g=>
 ad pg g e (binOp .lss 3 d a) fun h=>
 (au h
 (((ad pg g e (dt 37 4 p0 d) fun i=>
 ad pg g e (ew 118 4 i) fun j=>
 eF pg R g e true p1 #[j] fun k l m=>
 (au k
 (fin R m l d)
 (((ad pg m l (binOp .add 3 d (I 1)) fun n=>
 gm b c n l m)))))))
 ((((fin R g e (I (-1)))))))))
def rU (p0 p1 p2:Value):Prop:=
 az pg X0 w0 (aM p1) fun a=>
 ad pg X0 w0 (ld1 223 a) fun b=>
 ad pg X0 w0 (cB 223 3 b) fun c=>
 ((jn (fun (d:Value) (e:World) (g:XS)=>
 (gp g e (I 0) 39 fun h i j k l=>
 ad pg l k (binOp .lss 3 j d) fun m=>
 (au m
 ((((jn (fun (n:World) (o:XS)=>
 az pg o n (aM p1) fun q=>
 ad pg o n (ld1 223 q) fun r=>
 ad pg o n (dt 223 6 r j) fun s=>
 eF pg R o n true p2 #[s] fun _ t v=>
 ((ad pg v t (binOp .add 3 j (I 1)) fun y=>
 gm h i y t v))) fun z=>
 az pg l k (aM p0) fun A=>
 ad pg l k (aT 293 0 0 1 A) fun C=>
 ad pg l k (ld1 201 C) fun D=>
 ad pg l k (aH .eql 201 (.tmp 45) (.const (.pointer none)) D (.pointer none)) fun E=>
 (au E
 ((az pg l k (aM p1) fun F=>
 ad pg l k (ld1 223 F) fun G=>
 eV pg R l k false (gq 223 227 6 1 #[(0,(.agg #[(I 0),(I 0),(I 0),(I 0),(.float .f64 0),(.string { data:= #[] })]))]) fun H L M=>
 eV pg R M L true (fW 223 227 6 56 223 G H) fun N O Q=>
 az pg Q O (aM p1) fun S=>
 eU pg R Q O true (st1 223 1 S N) fun _ T U=>
 (z T U)))
 (z k l))))))
 (fin R l k (aG #[]))))) fun V=>
 az pg X0 w0 (aM p0) fun Y=>
 ad pg X0 w0 (aT 293 0 0 1 Y) fun Z=>
 ad pg X0 w0 (ld1 201 Z) fun a0=>
 ad pg X0 w0 (aH .neq 201 (.tmp 16) (.const (.pointer none)) a0 (.pointer none)) fun b0=>
 (au b0
 (az pg X0 w0 (aM p0) fun c0=>
 ad pg X0 w0 (aT 293 0 0 1 c0) fun d0=>
 ad pg X0 w0 (ld1 201 d0) fun e0=>
 eC pg R X0 w0 true 113 #[e0,c] fun _ g0 h0=>
 (V c g0 h0))
 (az pg X0 w0 (aM p0) fun i0=>
 ad pg X0 w0 (aT 293 1 1 1 i0) fun j0=>
 ad pg X0 w0 (ld1 138 j0) fun k0=>
 az pg X0 w0 (aM p0) fun l0=>
 ad pg X0 w0 (aT 293 1 1 1 l0) fun m0=>
 ad pg X0 w0 (ld1 138 m0) fun n0=>
 eC pg R X0 w0 false 284 #[n0] fun o0 q0 r0=>
 eC pg R r0 q0 true 63 #[k0,o0] fun s0 t0 v0=>
 (eC pg R v0 t0 true 277 #[p0] fun _ y0 z0=>
 (az pg z0 y0 (aM p1) fun A0=>
 eU pg R z0 y0 true (st1 223 1 A0 (.slice none 0 0)) fun _ C0 D0=>
 (V s0 C0 D0)))))))
def uc (p0 p1:Value):Prop:=
 az pg X0 w0 (aM p1) fun a=>
 ad pg X0 w0 (aT 227 0 0 3 a) fun b=>
 eC pg R X0 w0 true 235 #[p0,b] fun _ c d=>
 (az pg d c (aM p1) fun e=>
 ad pg d c (aT 227 1 3 3 e) fun g=>
 eC pg R d c true 289 #[p0,g] fun _ h i=>
 fin R i h (aG #[]))
noncomputable def Gm:bz:=⟨17,[],[],[0,1],[],[]⟩
def xZ (p0:Value) (p1:ByteArray):Prop:=
 ad pg X0 w0 (lS 9 3 (.string p1)) fun a=>
 eC pg R X0 w0 true 113 #[p0,a] fun _ b c=>
 (az pg c b (aM p0) fun d=>
 ad pg c b (aT 247 0 0 1 d) fun e=>
 ad pg c b (ld1 132 e) fun g=>
 eV pg R c b true (dL #[132,9] 132 #[g,(.string p1)]) fun h i j=>
 az pg j i (aM p0) fun k=>
 ad pg j i (aT 247 0 0 1 k) fun l=>
 eU pg R j i true (st1 132 1 l h) fun _ m n=>
 fin R n m (aG #[]))
noncomputable def S8:bz:=⟨26,[(3,(pg.cellsOf 116))],[9,12,17,23],[0,1,6,13,14,20],[],[]⟩
def HM (p0:Value) (cm:Int) (cu:Nat) (cq:ByteArray):Prop:=
 ((jn (fun (a:Value) (b:World) (c:XS)=>
 aF (cd a) (un (cellOf a 0) fun d=>
 eC pg R c b true 113 #[p0,d] fun _ e g=>
 (aF (cd a) (((jn (fun (h:World) (i:XS)=>
 fin R i h (aG #[])) fun j=>
 ad pg g e (aH .eql 3 (.tmp 13) (.const (I 1)) d (I 1)) fun k=>
 (au k
 (aF (cd a) (un (cellOf a 1) fun l=>
 eC pg R g e true 287 #[p0,l] fun _ m n=>
 (j m n)))
 (ad pg g e (aH .eql 3 (.tmp 13) (.const (I 2)) d (I 2)) fun o=>
 (au o
 (aF (cd a) (un (cellOf a 2) fun q=>
 eC pg R g e true 305 #[p0,q] fun _ r s=>
 (j r s)))
 (j e g)))))))))) fun t=>
 eC pg R X0 w0 true 196 #[(.agg #[(I cm),(.float .f64 cu),(.string cq)])] fun v y z=>
 ad pg z y (aX bm v) fun A=>
 (au A
 (ad pg z y (dV 116 #[(I 0),(.float .f64 0),(.string ⟨#[]⟩)] #[]) fun C=>
 un (aj (aa C)) fun D=>
 aF (ao (ab (aa C))==3) (aF (av (ab (aa C)) bu.one) (t D y z)))
 ((t (.agg #[(I cm),(.float .f64 cu),(.string cq)]) y z)))))
end
theorem cv {f:FuncId} {fn:Func} {args:Array Value} {w:World} {R:Ending→World→Prop} {V:Prop} (pl:bz) (hf:pg.funcs[f]? =some fn) (h:V)
 (hs:(decide (args.size≤pl.n)&&pl.boxes.all fun p=>decide (args.size≤p.1))=true:=by kernel_rfl) (hv:V=abl pg (cF pg pl fn) R args w:=by kernel_rfl):Calls pg f args w R:=aL hf hs hv h
section
variable {R : Ending → World → Prop} {w0 : World} {p0 p1 p2 p3 p4 p5 p6 p7 p8 p9 p10 p11 : Value}
theorem Dt {R:Ending→World→Prop} {w0:World} {p0 p1:Int} {p2:Value} (h:u7 R w0 (aS w0) p0 p1 p2):Calls pg 4 #[(I p0),(I p1),p2] w0 R:=
 aL (pl:=Dw) Tryz.func4 (by kernel_rfl) (by kernel_rfl) h
theorem Hb (h:yX R w0 (aS w0)):Calls pg 5 #[] w0 R:=cv ⟨111,[(6,(pg.cellsOf 49)),(9,(pg.cellsOf 34))],[94],[0,1,2,3,4,5,7,8,10,11,12,15,26],[23,24,25,56,57,58,59,61,62,63,64,65,66,68,69,70,71,72,73,75,76,77,78,79,80,82,83,84,86,87,88,90,91,93,95,96,98,99,100,101,103,104,105,107,108,109],[]⟩ Tryz.func5 h
theorem UE (h:Kc R w0 (aS w0)):Calls pg 6 #[] w0 R:=cv ⟨4,[],[],[0],[],[]⟩ Tryz.func6 h
theorem R6 {R:Ending→World→Prop} {w0:World} {p0:Value} {p1 p2:Int} (h:G9 R w0 (aS w0) p0 p1 p2):Calls pg 7 #[p0,(I p1),(I p2)] w0 R:=
 aL (pl:=SM) Tryz.func7 (by kernel_rfl) (by kernel_rfl) h
theorem KS (h:Bg R w0 (aS w0) p0):Calls pg 8 #[p0] w0 R:=cv ⟨34,[],[],[0,2,3,4,16],[9,10,11,13,14,15,30,31,32],[3,4]⟩ Tryz.func8 h
theorem IT {R:Ending→World→Prop} {w0:World} {p0:Value} {cm cu cq eJ ff fH fi fj ij wN rO rP sL sM sN:Int} {sO:Bool} {qs sP:Int} {sQ sR sS sU sV pr:Value} {sW sX:Int} {sY sZ:Nat} {s4 B7 B8 B9 Ca Cb:Int} {Cc Cd:Value} (h:zz R w0 (aS w0) p0 cm cu cq eJ ff fH fi fj ij wN rO rP sL sM sN sO qs sP sQ sR sS sU sV pr sW sX sY sZ s4 B7 B8 B9 Ca Cb Cc Cd):Calls pg 9 #[p0,(.agg #[(I cm),(I cu),(I cq),(I eJ),(I ff),(I fH),(I fi),(I fj),(I ij),(I wN),(I rO),(I rP),(I sL),(I sM),(I sN),(B sO),(I qs),(I sP),sQ,sR,sS,sU,sV,pr,(I sW),(I sX),(.float .f64 sY),(.float .f64 sZ),(I s4),(I B7),(I B8),(I B9),(I Ca),(I Cb),Cc,Cd])] w0 R:=
 aL (pl:=I4) Tryz.func9 (by kernel_rfl) (by kernel_rfl) h
theorem IW {R:Ending→World→Prop} {w0:World} {p0:Value} {p1:Int} (h:zC R w0 (aS w0) p0 p1):Calls pg 13 #[p0,(I p1)] w0 R:=
 aL (pl:=I5) Tryz.func13 (by kernel_rfl) (by kernel_rfl) h
theorem IX (h:zD R w0 (aS w0) p0):Calls pg 14 #[p0] w0 R:=cv ⟨102,[(5,(pg.cellsOf 34)),(7,(pg.cellsOf 69)),(10,(pg.cellsOf 49))],[46,48,50,56,95],[0,2,3,4,9,14,19,38,39,40,41,64,65,66,67,94],[44],[4,5,40,66]⟩ Tryz.func14 h
theorem GX (h:yT R w0 (aS w0) p0):Calls pg 16 #[p0] w0 R:=cv ⟨7,[(2,(pg.cellsOf 34))],[],[0],[],[]⟩ Tryz.func16 h
theorem Et (h:wg R w0 (aS w0) p0):Calls pg 17 #[p0] w0 R:=cv ⟨25,[(5,(pg.cellsOf 69))],[15,18],[0,2,3,9,10,11,12],[],[3,11]⟩ Tryz.func17 h
theorem IU (h:zA R w0 (aS w0) p0):Calls pg 18 #[p0] w0 R:=cv ⟨11,[],[],[0,2],[],[]⟩ Tryz.func18 h
theorem IV {R:Ending→World→Prop} {w0:World} {p0:Value} {p1:Int} (h:zB R w0 (aS w0) p0 p1):Calls pg 19 #[p0,(I p1)] w0 R:=
 aL (pl:=I6) Tryz.func19 (by kernel_rfl) (by kernel_rfl) h
theorem KR {R:Ending→World→Prop} {w0:World} {aO aZ ba cm cu cq:Int} (h:Bf R w0 (aS w0) aO aZ ba cm cu cq):Calls pg 20 #[(.agg #[(I aO),(I aZ),(I ba)]),(.agg #[(I cm),(I cu),(I cq)])] w0 R:=
 aL (pl:=K5) Tryz.func20 (by kernel_rfl) (by kernel_rfl) h
theorem He (h:yY R w0 (aS w0) p0 p1):Calls pg 21 #[p0,p1] w0 R:=cv ⟨55,[],[],[0,1,4,5,10,14,54],[28,29,30,31,32,33,34,35,36,37,38,39,41,42,43,44,45,46,47,48,49,50,51,52,53],[5]⟩ Tryz.func21 h
theorem Dm {R:Ending→World→Prop} {w0:World} {p0:Value} {p1:Int} (h:uZ R w0 (aS w0) p0 p1):Calls pg 22 #[p0,(I p1)] w0 R:=
 aL (pl:=Dx) Tryz.func22 (by kernel_rfl) (by kernel_rfl) h
theorem I0 (h:zK R w0 (aS w0) p0):Calls pg 23 #[p0] w0 R:=cv ⟨82,[(3,(pg.cellsOf 85)),(8,(pg.cellsOf 102))],[46,51,55,62],[0,2,5,6,9,13,24,25,26,27,40,41,42,43,49,70,71,77],[],[3,6,26,42]⟩ Tryz.func23 h
theorem Jh (h:zO R w0 (aS w0) p0):Calls pg 24 #[p0] w0 R:=cv ⟨7,[],[],[0,2],[],[]⟩ Tryz.func24 h
theorem Rx {R:Ending→World→Prop} {w0:World} {p0 cm cu cq:Int} (h:GQ R w0 (aS w0) p0 cm cu cq):Calls pg 25 #[(I p0),(.agg #[(I cm),(I cu),(I cq)])] w0 R:=
 aL (pl:=SN) Tryz.func25 (by kernel_rfl) (by kernel_rfl) h
theorem RX (h:G3 R w0 (aS w0) p0):Calls pg 26 #[p0] w0 R:=cv ⟨85,[(2,(pg.cellsOf 85)),(9,(pg.cellsOf 85))],[51,60],[0,3,4,5,6,7,8,10,18,33,48,49,50,82],[28,29,30,31,32,52,69,70,71,72,74,75,76,77,78,79,80,81],[9,49]⟩ Tryz.func26 h
theorem IS {R:Ending→World→Prop} {w0:World} {p0:Value} {p1 p2 Xu Xv Xw:Int} (h:zy R w0 (aS w0) p0 p1 p2 Xu Xv Xw):Calls pg 27 #[p0,(I p1),(I p2),(.agg #[(I Xu),(I Xv),(I Xw)])] w0 R:=
 aL (pl:=I7) Tryz.func27 (by kernel_rfl) (by kernel_rfl) h
theorem F5 {R:Ending→World→Prop} {w0:World} {aO aZ ba bA bN bQ bV b6 cI dg cn cj du da cY:Int} {cZ:Bool} {dc dh:Int} {cO cM cP cQ cR cX:Value} {cS cT:Int} {cU cV:Nat} {cW fI fJ fK fL fM:Int} {fN fO:Value} {p1:Int} (h:xM R w0 (aS w0) aO aZ ba bA bN bQ bV b6 cI dg cn cj du da cY cZ dc dh cO cM cP cQ cR cX cS cT cU cV cW fI fJ fK fL fM fN fO p1):Calls pg 28 #[(.agg #[(I aO),(I aZ),(I ba),(I bA),(I bN),(I bQ),(I bV),(I b6),(I cI),(I dg),(I cn),(I cj),(I du),(I da),(I cY),(B cZ),(I dc),(I dh),cO,cM,cP,cQ,cR,cX,(I cS),(I cT),(.float .f64 cU),(.float .f64 cV),(I cW),(I fI),(I fJ),(I fK),(I fL),(I fM),fN,fO]),(I p1)] w0 R:=
 aL (pl:=Gc) Tryz.func28 (by kernel_rfl) (by kernel_rfl) h
theorem UF {R:Ending→World→Prop} {w0:World} {aO aZ ba bA bN bQ bV b6 cI dg cn cj du da cY:Int} {cZ:Bool} {dc dh:Int} {cO cM cP cQ cR cX:Value} {cS cT:Int} {cU cV:Nat} {cW fI fJ fK fL fM:Int} {fN fO:Value} (h:Kd R w0 (aS w0) aO aZ ba bA bN bQ bV b6 cI dg cn cj du da cY cZ dc dh cO cM cP cQ cR cX cS cT cU cV cW fI fJ fK fL fM fN fO):Calls pg 29 #[(.agg #[(I aO),(I aZ),(I ba),(I bA),(I bN),(I bQ),(I bV),(I b6),(I cI),(I dg),(I cn),(I cj),(I du),(I da),(I cY),(B cZ),(I dc),(I dh),cO,cM,cP,cQ,cR,cX,(I cS),(I cT),(.float .f64 cU),(.float .f64 cV),(I cW),(I fI),(I fJ),(I fK),(I fL),(I fM),fN,fO])] w0 R:=
 aL (pl:=Uv) Tryz.func29 (by kernel_rfl) (by kernel_rfl) h
theorem GU {R:Ending→World→Prop} {w0:World} {p0:Value} {cm cu cq eJ ff fH fi fj ij wN rO rP sL sM sN:Int} {sO:Bool} {qs sP:Int} {sQ sR sS sU sV pr:Value} {sW sX:Int} {sY sZ:Nat} {s4 B7 B8 B9 Ca Cb:Int} {Cc Cd:Value} (h:yS R w0 (aS w0) p0 cm cu cq eJ ff fH fi fj ij wN rO rP sL sM sN sO qs sP sQ sR sS sU sV pr sW sX sY sZ s4 B7 B8 B9 Ca Cb Cc Cd):Calls pg 30 #[p0,(.agg #[(I cm),(I cu),(I cq),(I eJ),(I ff),(I fH),(I fi),(I fj),(I ij),(I wN),(I rO),(I rP),(I sL),(I sM),(I sN),(B sO),(I qs),(I sP),sQ,sR,sS,sU,sV,pr,(I sW),(I sX),(.float .f64 sY),(.float .f64 sZ),(I s4),(I B7),(I B8),(I B9),(I Ca),(I Cb),Cc,Cd])] w0 R:=
 aL (pl:=Hl) Tryz.func30 (by kernel_rfl) (by kernel_rfl) h
theorem S9 {R:Ending→World→Prop} {w0:World} {aO aZ ba cm cu cq:Int} (h:Hm R w0 (aS w0) aO aZ ba cm cu cq):Calls pg 31 #[(.agg #[(I aO),(I aZ),(I ba)]),(.agg #[(I cm),(I cu),(I cq)])] w0 R:=
 aL (pl:=SO) Tryz.func31 (by kernel_rfl) (by kernel_rfl) h
theorem pc (h:jV R w0 (aS w0) p0 p1):Calls pg 32 #[p0,p1] w0 R:=cv ⟨42,[(7,(pg.cellsOf 69))],[],[0,1,4,5,6,12,19,29],[],[5,6]⟩ Tryz.func32 h
theorem Er {R:Ending→World→Prop} {w0:World} {aO aZ ba bA bN bQ:Int} {bV c0:Value} (h:wc R w0 (aS w0) aO aZ ba bA bN bQ bV c0):Calls pg 33 #[(.agg #[(I aO),(I aZ),(I ba),(I bA),(I bN),(I bQ),bV]),c0] w0 R:=
 aL (pl:=ED) Tryz.func33 (by kernel_rfl) (by kernel_rfl) h
theorem KL {R:Ending→World→Prop} {w0:World} {p0:Value} {cm cu cq:Int} (h:AW R w0 (aS w0) p0 cm cu cq):Calls pg 34 #[p0,(.agg #[(I cm),(I cu),(I cq)])] w0 R:=
 aL (pl:=K6) Tryz.func34 (by kernel_rfl) (by kernel_rfl) h
theorem pd (h:jW R w0 (aS w0) p0 p1):Calls pg 35 #[p0,p1] w0 R:=cv ⟨42,[(7,(pg.cellsOf 102))],[],[0,1,4,5,6,12,19,29],[],[5,6]⟩ Tryz.func35 h
theorem Es {R:Ending→World→Prop} {w0:World} {aO aZ ba bA bN:Int} {c0:Value} (h:we R w0 (aS w0) aO aZ ba bA bN c0):Calls pg 36 #[(.agg #[(I aO),(I aZ),(I ba),(I bA),(I bN)]),c0] w0 R:=
 aL (pl:=EE) Tryz.func36 (by kernel_rfl) (by kernel_rfl) h
theorem Ji (h:zP R w0 (aS w0) p0 p1):Calls pg 39 #[p0,p1] w0 R:=cv ⟨42,[],[],[0,1,4,5,10,14,41],[28,29,30,31,32,33,34,35,36,37,38,39,40],[5]⟩ Tryz.func39 h
theorem UG {R:Ending→World→Prop} {w0:World} {p0 p1:Int} (h:Ke R w0 (aS w0) p0 p1):Calls pg 44 #[(I p0),(I p1)] w0 R:=
 aL (pl:=Uw) Tryz.func44 (by kernel_rfl) (by kernel_rfl) h
theorem ra (h:lu R w0 (aS w0) p0):Calls pg 45 #[p0] w0 R:=cv ⟨8,[],[],[0,2,4],[],[]⟩ Tryz.func45 h
theorem oV (h:jM R w0 (aS w0) p0):Calls pg 47 #[p0] w0 R:=cv ⟨4,[],[],[0,1,2],[],[]⟩ Tryz.func47 h
theorem Jj (h:zR R w0 (aS w0) p0):Calls pg 48 #[p0] w0 R:=cv ⟨7,[],[],[0,2],[],[]⟩ Tryz.func48 h
theorem Cy {R:Ending→World→Prop} {w0:World} {p0:Value} {p1 p2:Int} (h:tQ R w0 (aS w0) p0 p1 p2):Calls pg 49 #[p0,(I p1),(I p2)] w0 R:=
 aL (pl:=CH) Tryz.func49 (by kernel_rfl) (by kernel_rfl) h
theorem Ld (h:Bt R w0 (aS w0) p0):Calls pg 51 #[p0] w0 R:=cv ⟨8,[],[],[0,2],[],[]⟩ Tryz.func51 h
theorem FZ {R:Ending→World→Prop} {w0:World} {aO aZ ba cm cu cq:Int} (h:xL R w0 (aS w0) aO aZ ba cm cu cq):Calls pg 52 #[(.agg #[(I aO),(I aZ),(I ba)]),(.agg #[(I cm),(I cu),(I cq)])] w0 R:=
 aL (pl:=Gd) Tryz.func52 (by kernel_rfl) (by kernel_rfl) h
theorem AR {R:Ending→World→Prop} {w0:World} {p0:Value} {p1:Int} (h:sd R w0 (aS w0) p0 p1):Calls pg 53 #[p0,(I p1)] w0 R:=
 aL (pl:=Bu) Tryz.func53 (by kernel_rfl) (by kernel_rfl) h
theorem Jk (h:zS R w0 (aS w0) p0):Calls pg 54 #[p0] w0 R:=cv ⟨24,[(5,(pg.cellsOf 184))],[20],[0,2,3,14,16],[],[3]⟩ Tryz.func54 h
theorem R4 {R:Ending→World→Prop} {w0:World} {p0:Value} {cm cu cq:Int} {eJ:Value} (h:G7 R w0 (aS w0) p0 cm cu cq eJ):Calls pg 55 #[p0,(.agg #[(I cm),(I cu),(I cq),eJ])] w0 R:=
 aL (pl:=SP) Tryz.func55 (by kernel_rfl) (by kernel_rfl) h
theorem Xy {R:Ending→World→Prop} {w0:World} {aO aZ ba:Int} (h:Mr R w0 (aS w0) aO aZ ba):Calls pg 57 #[(.agg #[(I aO),(I aZ),(I ba)])] w0 R:=
 aL (pl:=Xx) Tryz.func57 (by kernel_rfl) (by kernel_rfl) h
theorem UH (h:Kf R w0 (aS w0)):Calls pg 58 #[] w0 R:=cv ⟨3,[],[],[0],[],[]⟩ Tryz.func58 h
theorem IY {R:Ending→World→Prop} {w0:World} {p0:Value} {p1:ByteArray} (h:zG R w0 (aS w0) p0 p1):Calls pg 59 #[p0,(.string p1)] w0 R:=
 aL (pl:=I8) Tryz.func59 (by kernel_rfl) (by kernel_rfl) h
theorem Uo {R:Ending→World→Prop} {w0:World} {aO aZ ba:Int} {bA:Value} (h:JO R w0 (aS w0) aO aZ ba bA):Calls pg 65 #[(.agg #[(I aO),(I aZ),(I ba),bA])] w0 R:=
 aL (pl:=Ux) Tryz.func65 (by kernel_rfl) (by kernel_rfl) h
theorem Nd {R:Ending→World→Prop} {w0:World} {aO aZ ba:Int} {bA:Value} (h:Dr R w0 (aS w0) aO aZ ba bA):Calls pg 67 #[(.agg #[(I aO),(I aZ),(I ba),bA])] w0 R:=
 aL (pl:=Nt) Tryz.func67 (by kernel_rfl) (by kernel_rfl) h
theorem Ef {R:Ending→World→Prop} {w0:World} {p0:Value} {p1 gj gB gC:Int} (h:vQ R w0 (aS w0) p0 p1 gj gB gC):Calls pg 68 #[p0,(I p1),(.agg #[(I gj),(I gB),(I gC)])] w0 R:=
 aL (pl:=EF) Tryz.func68 (by kernel_rfl) (by kernel_rfl) h
theorem NH {R:Ending→World→Prop} {w0:World} {p0 p1 p2:Int} (h:Dy R w0 (aS w0) p0 p1 p2):Calls pg 69 #[(I p0),(I p1),(I p2)] w0 R:=
 aL (pl:=Nu) Tryz.func69 (by kernel_rfl) (by kernel_rfl) h
theorem DR {R:Ending→World→Prop} {w0:World} {p0:Value} {p1:Int} (h:vj R w0 (aS w0) p0 p1):Calls pg 70 #[p0,(I p1)] w0 R:=
 aL (pl:=Dz) Tryz.func70 (by kernel_rfl) (by kernel_rfl) h
theorem Ey {R:Ending→World→Prop} {w0:World} {p0:Value} {p1:Int} (h:wm R w0 (aS w0) p0 p1):Calls pg 71 #[p0,(I p1)] w0 R:=
 aL (pl:=EG) Tryz.func71 (by kernel_rfl) (by kernel_rfl) h
theorem CO {R:Ending→World→Prop} {w0:World} {p0:Value} {p1:Int} (h:tX R w0 (aS w0) p0 p1):Calls pg 72 #[p0,(I p1)] w0 R:=
 aL (pl:=CI) Tryz.func72 (by kernel_rfl) (by kernel_rfl) h
theorem Gn {R:Ending→World→Prop} {w0:World} {aO aZ ba bA bN bQ bV b6 cI dg:Int} {cn:Bool} {cj:Int} {du:Nat} {da cY cZ dc:Value} {dh cO:Int} {cM cP:Nat} {cQ cR cX cS cT cU:Int} {cV cW:Value} {p1:Int} (h:xQ R w0 (aS w0) aO aZ ba bA bN bQ bV b6 cI dg cn cj du da cY cZ dc dh cO cM cP cQ cR cX cS cT cU cV cW p1):Calls pg 73 #[(.agg #[(I aO),(I aZ),(I ba),(I bA),(I bN),(I bQ),(I bV),(I b6),(I cI),(I dg),(B cn),(I cj),(.float .f64 du),da,cY,cZ,dc,(I dh),(I cO),(.float .f64 cM),(.float .f64 cP),(I cQ),(I cR),(I cX),(I cS),(I cT),(I cU),cV,cW]),(I p1)] w0 R:=
 aL (pl:=Ge) Tryz.func73 (by kernel_rfl) (by kernel_rfl) h
theorem DS {R:Ending→World→Prop} {w0:World} {aO aZ:Int} {ba bA:Nat} {bN bQ bV b6 cI dg:Int} {cn cj:Value} {p1:Int} (h:vl R w0 (aS w0) aO aZ ba bA bN bQ bV b6 cI dg cn cj p1):Calls pg 74 #[(.agg #[(I aO),(I aZ),(.float .f64 ba),(.float .f64 bA),(I bN),(I bQ),(I bV),(I b6),(I cI),(I dg),cn,cj]),(I p1)] w0 R:=
 aL (pl:=DA) Tryz.func74 (by kernel_rfl) (by kernel_rfl) h
theorem Mz {R:Ending→World→Prop} {w0:World} {aO aZ ba bA bN bQ bV b6 cI dg cn cj du da cY:Int} {cZ:Bool} {dc dh:Int} {cO cM cP cQ cR cX:Value} {cS cT:Int} {cU cV:Nat} {cW fI fJ fK fL fM:Int} {fN fO:Value} (h:Ce R w0 (aS w0) aO aZ ba bA bN bQ bV b6 cI dg cn cj du da cY cZ dc dh cO cM cP cQ cR cX cS cT cU cV cW fI fJ fK fL fM fN fO):Calls pg 75 #[(.agg #[(I aO),(I aZ),(I ba),(I bA),(I bN),(I bQ),(I bV),(I b6),(I cI),(I dg),(I cn),(I cj),(I du),(I da),(I cY),(B cZ),(I dc),(I dh),cO,cM,cP,cQ,cR,cX,(I cS),(I cT),(.float .f64 cU),(.float .f64 cV),(I cW),(I fI),(I fJ),(I fK),(I fL),(I fM),fN,fO])] w0 R:=
 aL (pl:=Ms) Tryz.func75 (by kernel_rfl) (by kernel_rfl) h
theorem Ta {R:Ending→World→Prop} {w0:World} {p0:Int} (h:Hn R w0 (aS w0) p0):Calls pg 76 #[(I p0)] w0 R:=
 aL (pl:=SQ) Tryz.func76 (by kernel_rfl) (by kernel_rfl) h
theorem Tb {R:Ending→World→Prop} {w0:World} {aO aZ ba bA bN bQ bV b6 cI dg cn cj du da cY:Int} {cZ:Bool} {dc dh:Int} {cO cM cP cQ cR cX:Value} {cS cT:Int} {cU cV:Nat} {cW fI fJ fK fL fM:Int} {fN fO:Value} (h:Ho R w0 (aS w0) aO aZ ba bA bN bQ bV b6 cI dg cn cj du da cY cZ dc dh cO cM cP cQ cR cX cS cT cU cV cW fI fJ fK fL fM fN fO):Calls pg 77 #[(.agg #[(I aO),(I aZ),(I ba),(I bA),(I bN),(I bQ),(I bV),(I b6),(I cI),(I dg),(I cn),(I cj),(I du),(I da),(I cY),(B cZ),(I dc),(I dh),cO,cM,cP,cQ,cR,cX,(I cS),(I cT),(.float .f64 cU),(.float .f64 cV),(I cW),(I fI),(I fJ),(I fK),(I fL),(I fM),fN,fO])] w0 R:=
 aL (pl:=SR) Tryz.func77 (by kernel_rfl) (by kernel_rfl) h
theorem NI {R:Ending→World→Prop} {w0:World} {aO aZ ba bA bN bQ bV b6 cI dg cn cj du da cY:Int} {cZ:Bool} {dc dh:Int} {cO cM cP cQ cR cX:Value} {cS cT:Int} {cU cV:Nat} {cW fI fJ fK fL fM:Int} {fN fO:Value} (h:DB R w0 (aS w0) aO aZ ba bA bN bQ bV b6 cI dg cn cj du da cY cZ dc dh cO cM cP cQ cR cX cS cT cU cV cW fI fJ fK fL fM fN fO):Calls pg 78 #[(.agg #[(I aO),(I aZ),(I ba),(I bA),(I bN),(I bQ),(I bV),(I b6),(I cI),(I dg),(I cn),(I cj),(I du),(I da),(I cY),(B cZ),(I dc),(I dh),cO,cM,cP,cQ,cR,cX,(I cS),(I cT),(.float .f64 cU),(.float .f64 cV),(I cW),(I fI),(I fJ),(I fK),(I fL),(I fM),fN,fO])] w0 R:=
 aL (pl:=Nv) Tryz.func78 (by kernel_rfl) (by kernel_rfl) h
theorem Jl {R:Ending→World→Prop} {w0:World} {p0:Value} {p1 gj gB gC qY uE uF uG CJ CK CL:Int} {wO:Bool} {yv:Int} {yw:Nat} {uj uk yy yz:Value} {wP yA:Int} {yB yC:Nat} {yD yE yF wQ wR wS:Int} {yG rQ:Value} (h:zT R w0 (aS w0) p0 p1 gj gB gC qY uE uF uG CJ CK CL wO yv yw uj uk yy yz wP yA yB yC yD yE yF wQ wR wS yG rQ):Calls pg 79 #[p0,(I p1),(.agg #[(I gj),(I gB),(I gC),(I qY),(I uE),(I uF),(I uG),(I CJ),(I CK),(I CL),(B wO),(I yv),(.float .f64 yw),uj,uk,yy,yz,(I wP),(I yA),(.float .f64 yB),(.float .f64 yC),(I yD),(I yE),(I yF),(I wQ),(I wR),(I wS),yG,rQ])] w0 R:=
 aL (pl:=I9) Tryz.func79 (by kernel_rfl) (by kernel_rfl) h
theorem Dl {R:Ending→World→Prop} {w0:World} {p0:Value} {cm cu cq eJ ff fH fi fj:Int} {ij:Value} (h:uX R w0 (aS w0) p0 cm cu cq eJ ff fH fi fj ij):Calls pg 80 #[p0,(.agg #[(I cm),(I cu),(I cq),(I eJ),(I ff),(I fH),(I fi),(I fj),ij])] w0 R:=
 aL (pl:=DC) Tryz.func80 (by kernel_rfl) (by kernel_rfl) h
theorem BL {R:Ending→World→Prop} {w0:World} {p0:Value} {p1 gj gB gC:Int} (h:tf R w0 (aS w0) p0 p1 gj gB gC):Calls pg 81 #[p0,(I p1),(.agg #[(I gj),(I gB),(I gC)])] w0 R:=
 aL (pl:=BM) Tryz.func81 (by kernel_rfl) (by kernel_rfl) h
theorem DT (h:vm R w0 (aS w0) p0):Calls pg 82 #[p0] w0 R:=cv ⟨34,[(2,(pg.cellsOf 34)),(3,(pg.cellsOf 34)),(5,(pg.cellsOf 184)),(6,(pg.cellsOf 34))],[22,23],[0,16,18,31],[],[3]⟩ Tryz.func82 h
theorem Eh (h:vX R w0 (aS w0) p0):Calls pg 83 #[p0] w0 R:=cv ⟨33,[(3,(pg.cellsOf 34))],[],[0,2,4,5,12,21],[],[]⟩ Tryz.func83 h
theorem NJ {R:Ending→World→Prop} {w0:World} {aO aZ ba cm cu cq:Int} (h:DD R w0 (aS w0) aO aZ ba cm cu cq):Calls pg 84 #[(.agg #[(I aO),(I aZ),(I ba)]),(.agg #[(I cm),(I cu),(I cq)])] w0 R:=
 aL (pl:=Nw) Tryz.func84 (by kernel_rfl) (by kernel_rfl) h
theorem pD (h:j7 R w0 (aS w0) p0 p1):Calls pg 85 #[p0,p1] w0 R:=cv ⟨19,[],[],[0,1,4,5,7,8,9,16],[],[8]⟩ Tryz.func85 h
theorem pE (h:j8 R w0 (aS w0) p0 p1):Calls pg 86 #[p0,p1] w0 R:=cv ⟨19,[],[],[0,1,4,5,7,8,9,16],[],[8]⟩ Tryz.func86 h
theorem Le {R:Ending→World→Prop} {w0:World} {aO:Int} {aZ:Nat} {ba:ByteArray} {cm:Int} {cu:Nat} {cq:ByteArray} (h:Bv R w0 (aS w0) aO aZ ba cm cu cq):Calls pg 88 #[(.agg #[(I aO),(.float .f64 aZ),(.string ba)]),(.agg #[(I cm),(.float .f64 cu),(.string cq)])] w0 R:=
 aL (pl:=K7) Tryz.func88 (by kernel_rfl) (by kernel_rfl) h
theorem Df (h:uV R w0 (aS w0) p0):Calls pg 96 #[p0] w0 R:=cv ⟨39,[(2,(pg.cellsOf 34)),(4,(pg.cellsOf 34)),(7,(pg.cellsOf 34))],[],[0,3,5,6,9,10,11,12,29],[24,25,26,27,28],[4,11]⟩ Tryz.func96 h
theorem Cv (h:tN R w0 (aS w0) p0):Calls pg 97 #[p0] w0 R:=cv ⟨9,[],[],[0,2],[],[]⟩ Tryz.func97 h
theorem I2 {R:Ending→World→Prop} {w0:World} {p0 p1:Int} (h:zL R w0 (aS w0) p0 p1):Calls pg 98 #[(I p0),(I p1)] w0 R:=
 aL (pl:=Ja) Tryz.func98 (by kernel_rfl) (by kernel_rfl) h
theorem s6 {R:Ending→World→Prop} {w0:World} {p0:Value} {p1:ByteArray} (h:mr R w0 (aS w0) p0 p1):Calls pg 99 #[p0,(.string p1)] w0 R:=
 aL (pl:=s5) Tryz.func99 (by kernel_rfl) (by kernel_rfl) h
theorem IM (h:zv R w0 (aS w0) p0):Calls pg 100 #[p0] w0 R:=cv ⟨9,[],[],[0,2],[],[]⟩ Tryz.func100 h
theorem Gp {R:Ending→World→Prop} {w0:World} {p0:Value} {p1:ByteArray} (h:xR R w0 (aS w0) p0 p1):Calls pg 102 #[p0,(.string p1)] w0 R:=
 aL (pl:=Gf) Tryz.func102 (by kernel_rfl) (by kernel_rfl) h
theorem NK (h:DE R w0 (aS w0) p0):Calls pg 103 #[p0] w0 R:=cv ⟨27,[],[],[0,2,3,4,7],[],[]⟩ Tryz.func103 h
theorem Gq {R:Ending→World→Prop} {w0:World} {p0:Value} {p1:ByteArray} {p2:Value} (h:xS R w0 (aS w0) p0 p1 p2):Calls pg 104 #[p0,(.string p1),p2] w0 R:=
 aL (pl:=Gg) Tryz.func104 (by kernel_rfl) (by kernel_rfl) h
theorem Jm {R:Ending→World→Prop} {w0:World} {p0:Value} {p1:ByteArray} (h:zU R w0 (aS w0) p0 p1):Calls pg 105 #[p0,(.string p1)] w0 R:=
 aL (pl:=Jb) Tryz.func105 (by kernel_rfl) (by kernel_rfl) h
theorem FY {R:Ending→World→Prop} {w0:World} {p0:Value} {p1 p2:ByteArray} (h:xK R w0 (aS w0) p0 p1 p2):Calls pg 106 #[p0,(.string p1),(.string p2)] w0 R:=
 aL (pl:=Gh) Tryz.func106 (by kernel_rfl) (by kernel_rfl) h
theorem Tc (h:Hp R w0 (aS w0) p0):Calls pg 108 #[p0] w0 R:=cv ⟨54,[],[],[0,2,3,5,6,8,11,12,13,14,15,22,23,36,37,38,39],[],[3,14,22,38]⟩ Tryz.func108 h
theorem Jn (h:zV R w0 (aS w0)):Calls pg 112 #[] w0 R:=cv ⟨3,[],[],[0],[],[]⟩ Tryz.func112 h
theorem HN {R:Ending→World→Prop} {w0:World} {p0:Value} {p1:Int} (h:y5 R w0 (aS w0) p0 p1):Calls pg 113 #[p0,(I p1)] w0 R:=
 aL (pl:=Hq) Tryz.func113 (by kernel_rfl) (by kernel_rfl) h
theorem EM (h:wT R w0 (aS w0) p0):Calls pg 114 #[p0] w0 R:=cv ⟨9,[],[],[0,2],[],[]⟩ Tryz.func114 h
theorem An {R:Ending→World→Prop} {w0:World} {p0:Value} {p1:Int} (h:rR R w0 (aS w0) p0 p1):Calls pg 115 #[p0,(I p1)] w0 R:=
 aL (pl:=Am) Tryz.func115 (by kernel_rfl) (by kernel_rfl) h
theorem BD {R:Ending→World→Prop} {w0:World} {p0:Value} {p1:Int} (h:sv R w0 (aS w0) p0 p1):Calls pg 116 #[p0,(I p1)] w0 R:=
 aL (pl:=Bw) Tryz.func116 (by kernel_rfl) (by kernel_rfl) h
theorem NL {R:Ending→World→Prop} {w0:World} {p0:Int} (h:DF R w0 (aS w0) p0):Calls pg 117 #[(I p0)] w0 R:=
 aL (pl:=Nx) Tryz.func117 (by kernel_rfl) (by kernel_rfl) h
theorem P2 {R:Ending→World→Prop} {w0:World} {aO aZ ba bA bN bQ bV b6 cI dg cn cj du da cY:Int} {cZ:Bool} {dc dh:Int} {cO cM cP cQ cR cX:Value} {cS cT:Int} {cU cV:Nat} {cW fI fJ fK fL fM:Int} {fN fO:Value} (h:Fy R w0 (aS w0) aO aZ ba bA bN bQ bV b6 cI dg cn cj du da cY cZ dc dh cO cM cP cQ cR cX cS cT cU cV cW fI fJ fK fL fM fN fO):Calls pg 119 #[(.agg #[(I aO),(I aZ),(I ba),(I bA),(I bN),(I bQ),(I bV),(I b6),(I cI),(I dg),(I cn),(I cj),(I du),(I da),(I cY),(B cZ),(I dc),(I dh),cO,cM,cP,cQ,cR,cX,(I cS),(I cT),(.float .f64 cU),(.float .f64 cV),(I cW),(I fI),(I fJ),(I fK),(I fL),(I fM),fN,fO])] w0 R:=
 aL (pl:=PV) Tryz.func119 (by kernel_rfl) (by kernel_rfl) h
theorem P3 (h:FA R w0 (aS w0) p0):Calls pg 120 #[p0] w0 R:=cv ⟨24,[(4,(pg.cellsOf 73))],[],[0,2,6,7,8,9,10,19],[],[9]⟩ Tryz.func120 h
theorem Lf {R:Ending→World→Prop} {w0:World} {aO aZ:Int} {ba bA:Nat} {bN bQ bV b6 cI dg:Int} {cn cj:Value} (h:Bx R w0 (aS w0) aO aZ ba bA bN bQ bV b6 cI dg cn cj):Calls pg 121 #[(.agg #[(I aO),(I aZ),(.float .f64 ba),(.float .f64 bA),(I bN),(I bQ),(I bV),(I b6),(I cI),(I dg),cn,cj])] w0 R:=
 aL (pl:=K8) Tryz.func121 (by kernel_rfl) (by kernel_rfl) h
theorem P4 {R:Ending→World→Prop} {w0:World} {aO aZ ba cm cu cq gj gB gC:Int} {p3:Value} (h:FB R w0 (aS w0) aO aZ ba cm cu cq gj gB gC p3):Calls pg 122 #[(.agg #[(I aO),(I aZ),(I ba)]),(.agg #[(I cm),(I cu),(I cq)]),(.agg #[(I gj),(I gB),(I gC)]),p3] w0 R:=
 aL (pl:=PW) Tryz.func122 (by kernel_rfl) (by kernel_rfl) h
theorem Lg {R:Ending→World→Prop} {w0:World} {p0:Value} {p1 gj gB gC qY uE uF uG CJ CK CL:Int} {wO:Bool} {yv:Int} {yw:Nat} {uj uk yy yz:Value} {wP yA:Int} {yB yC:Nat} {yD yE yF wQ wR wS:Int} {yG rQ:Value} (h:By R w0 (aS w0) p0 p1 gj gB gC qY uE uF uG CJ CK CL wO yv yw uj uk yy yz wP yA yB yC yD yE yF wQ wR wS yG rQ):Calls pg 123 #[p0,(I p1),(.agg #[(I gj),(I gB),(I gC),(I qY),(I uE),(I uF),(I uG),(I CJ),(I CK),(I CL),(B wO),(I yv),(.float .f64 yw),uj,uk,yy,yz,(I wP),(I yA),(.float .f64 yB),(.float .f64 yC),(I yD),(I yE),(I yF),(I wQ),(I wR),(I wS),yG,rQ])] w0 R:=
 aL (pl:=K9) Tryz.func123 (by kernel_rfl) (by kernel_rfl) h
theorem P5 {R:Ending→World→Prop} {w0:World} {aO aZ ba bA bN bQ:Int} {bV b6:Value} (h:FC R w0 (aS w0) aO aZ ba bA bN bQ bV b6):Calls pg 124 #[(.agg #[(I aO),(I aZ),(I ba),(I bA),(I bN),(I bQ),bV,b6])] w0 R:=
 aL (pl:=PX) Tryz.func124 (by kernel_rfl) (by kernel_rfl) h
theorem HO {R:Ending→World→Prop} {w0:World} {p0:Value} {cm cu cq eJ ff fH fi fj ij wN:Int} {rO:Bool} {rP:Int} {sL:Nat} {sM sN sO qs:Value} {sP sQ:Int} {sR sS:Nat} {sU sV pr sW sX sY:Int} {sZ s4:Value} (h:y6 R w0 (aS w0) p0 cm cu cq eJ ff fH fi fj ij wN rO rP sL sM sN sO qs sP sQ sR sS sU sV pr sW sX sY sZ s4):Calls pg 125 #[p0,(.agg #[(I cm),(I cu),(I cq),(I eJ),(I ff),(I fH),(I fi),(I fj),(I ij),(I wN),(B rO),(I rP),(.float .f64 sL),sM,sN,sO,qs,(I sP),(I sQ),(.float .f64 sR),(.float .f64 sS),(I sU),(I sV),(I pr),(I sW),(I sX),(I sY),sZ,s4])] w0 R:=
 aL (pl:=Hr) Tryz.func125 (by kernel_rfl) (by kernel_rfl) h
theorem pP {R:Ending→World→Prop} {w0:World} {p0:Value} {cm cu cq eJ ff:Int} (h:kr R w0 (aS w0) p0 cm cu cq eJ ff):Calls pg 126 #[p0,(.agg #[(I cm),(I cu),(I cq),(I eJ),(I ff)])] w0 R:=
 aL (pl:=pQ) Tryz.func126 (by kernel_rfl) (by kernel_rfl) h
theorem FW {R:Ending→World→Prop} {w0:World} {p0:Value} {cm cu cq eJ ff fH fi fj:Int} {ij:Value} (h:xF R w0 (aS w0) p0 cm cu cq eJ ff fH fi fj ij):Calls pg 127 #[p0,(.agg #[(I cm),(I cu),(I cq),(I eJ),(I ff),(I fH),(I fi),(I fj),ij])] w0 R:=
 aL (pl:=Gi) Tryz.func127 (by kernel_rfl) (by kernel_rfl) h
theorem Td {R:Ending→World→Prop} {w0:World} {aO aZ ba:Int} (h:Hs R w0 (aS w0) aO aZ ba):Calls pg 128 #[(.agg #[(I aO),(I aZ),(I ba)])] w0 R:=
 aL (pl:=SS) Tryz.func128 (by kernel_rfl) (by kernel_rfl) h
theorem IN {R:Ending→World→Prop} {w0:World} {p0:Value} {cm cu cq:Int} (h:zw R w0 (aS w0) p0 cm cu cq):Calls pg 129 #[p0,(.agg #[(I cm),(I cu),(I cq)])] w0 R:=
 aL (pl:=Jc) Tryz.func129 (by kernel_rfl) (by kernel_rfl) h
theorem MA {R:Ending→World→Prop} {w0:World} {p0 p1:Nat} (h:Cf R w0 (aS w0) p0 p1):Calls pg 130 #[(.float .f64 p0),(.float .f64 p1)] w0 R:=
 aL (pl:=Mt) Tryz.func130 (by kernel_rfl) (by kernel_rfl) h
theorem oT (h:jK R w0 (aS w0) p0):Calls pg 136 #[p0] w0 R:=cv ⟨4,[],[],[0,1,2],[],[]⟩ Tryz.func136 h
theorem uI {R:Ending→World→Prop} {w0:World} {p0:Value} {p1:ByteArray} (h:nE R w0 (aS w0) p0 p1):Calls pg 137 #[p0,(.string p1)] w0 R:=
 aL (pl:=uH) Tryz.func137 (by kernel_rfl) (by kernel_rfl) h
theorem mH (h:iR R w0 (aS w0) p0):Calls pg 139 #[p0] w0 R:=cv ⟨4,[],[],[0,1,2],[],[]⟩ Tryz.func139 h
theorem HP {R:Ending→World→Prop} {w0:World} {p0:Value} {p1:Int} {p2:Value} (h:y7 R w0 (aS w0) p0 p1 p2):Calls pg 140 #[p0,(I p1),p2] w0 R:=
 aL (pl:=Ht) Tryz.func140 (by kernel_rfl) (by kernel_rfl) h
theorem Lh {R:Ending→World→Prop} {w0:World} {p0:Value} {p1:ByteArray} (h:Bz R w0 (aS w0) p0 p1):Calls pg 141 #[p0,(.string p1)] w0 R:=
 aL (pl:=La) Tryz.func141 (by kernel_rfl) (by kernel_rfl) h
theorem IZ {R:Ending→World→Prop} {w0:World} {p0:Value} {p1:ByteArray} (h:zI R w0 (aS w0) p0 p1):Calls pg 143 #[p0,(.string p1)] w0 R:=
 aL (pl:=Jd) Tryz.func143 (by kernel_rfl) (by kernel_rfl) h
theorem Te {R:Ending→World→Prop} {w0:World} {p0:ByteArray} (h:Hu R w0 (aS w0) p0):Calls pg 144 #[(.string p0)] w0 R:=
 aL (pl:=SU) Tryz.func144 (by kernel_rfl) (by kernel_rfl) h
theorem CP {R:Ending→World→Prop} {w0:World} {c0 c1:Value} (h:tY R w0 (aS w0) c0 c1):Calls pg 145 #[c0,c1] w0 R:=
 aL (pl:=CM) Tryz.func145 (by kernel_rfl) (by kernel_rfl) h
theorem Tf {R:Ending→World→Prop} {w0:World} {p0:Value} {p1:Int} (h:Hv R w0 (aS w0) p0 p1):Calls pg 146 #[p0,(aU IntKind.u32 p1)] w0 R:=
 aL (pl:=SV) Tryz.func146 (by kernel_rfl) (by kernel_rfl) h
theorem Jo (h:zW R w0 (aS w0) p0):Calls pg 147 #[p0] w0 R:=cv ⟨39,[],[],[0,2,7,27],[],[]⟩ Tryz.func147 h
theorem EN {R:Ending→World→Prop} {w0:World} {c0 c1:Value} (h:wU R w0 (aS w0) c0 c1):Calls pg 148 #[c0,c1] w0 R:=
 aL (pl:=EH) Tryz.func148 (by kernel_rfl) (by kernel_rfl) h
theorem CF {R:Ending→World→Prop} {w0:World} {c0 c1 c2:Value} (h:tT R w0 (aS w0) c0 c1 c2):Calls pg 149 #[c0,c1,c2] w0 R:=
 aL (pl:=CN) Tryz.func149 (by kernel_rfl) (by kernel_rfl) h
theorem NM (h:DG R w0 (aS w0)):Calls pg 150 #[] w0 R:=cv ⟨24,[(0,(pg.cellsOf 243))],[],[1,2,3,4,5,9,10],[],[3,4,9]⟩ Tryz.func150 h
theorem NN {R:Ending→World→Prop} {w0:World} {aO aZ ba:Int} (h:DH R w0 (aS w0) aO aZ ba):Calls pg 152 #[(.agg #[(I aO),(I aZ),(I ba)])] w0 R:=
 aL (pl:=Ny) Tryz.func152 (by kernel_rfl) (by kernel_rfl) h
theorem Tg (h:Hw R w0 (aS w0) p0):Calls pg 153 #[p0] w0 R:=cv ⟨32,[],[],[0,2,3,4,5,6,7,8,27],[15,16,17,18,19,20,21,22,23,24,25,26],[7]⟩ Tryz.func153 h
theorem Th {R:Ending→World→Prop} {w0:World} {p0:Int} {p1:Bool} {p2:Value} (h:Hx R w0 (aS w0) p0 p1 p2):Calls pg 154 #[(I p0),(B p1),p2] w0 R:=
 aL (pl:=SX) Tryz.func154 (by kernel_rfl) (by kernel_rfl) h
theorem Ti (h:Hy R w0 (aS w0) p0):Calls pg 155 #[p0] w0 R:=cv ⟨42,[(5,(pg.cellsOf 166))],[13,17,22,28,33,34],[0,2,3,6,7,8,9,38],[21,23,24,25,27,29,30,31,32,35,36,37],[3,8]⟩ Tryz.func155 h
theorem MB (h:Cg R w0 (aS w0) p0):Calls pg 156 #[p0] w0 R:=cv ⟨24,[(5,(pg.cellsOf 118))],[13,17],[0,2,3,6,7,8,9,20],[],[3,8]⟩ Tryz.func156 h
theorem P6 (h:FD R w0 (aS w0) p0):Calls pg 157 #[p0] w0 R:=cv ⟨35,[],[],[0,2,3,4,5,6,7,8,30],[14,15,16,18,19,20,21,22,23,24,25,26,27,28,29],[7]⟩ Tryz.func157 h
theorem UI {R:Ending→World→Prop} {w0:World} {p0:Value} {p1:Int} (h:Kg R w0 (aS w0) p0 p1):Calls pg 158 #[p0,(I p1)] w0 R:=
 aL (pl:=Uy) Tryz.func158 (by kernel_rfl) (by kernel_rfl) h
theorem NO {R:Ending→World→Prop} {w0:World} {aO aZ ba bA bN bQ bV b6 cI dg:Int} {cn:Bool} {cj:Int} {du:Nat} {da cY cZ dc:Value} {dh cO:Int} {cM cP:Nat} {cQ cR cX cS cT cU:Int} {cV cW:Value} (h:DI R w0 (aS w0) aO aZ ba bA bN bQ bV b6 cI dg cn cj du da cY cZ dc dh cO cM cP cQ cR cX cS cT cU cV cW):Calls pg 159 #[(.agg #[(I aO),(I aZ),(I ba),(I bA),(I bN),(I bQ),(I bV),(I b6),(I cI),(I dg),(B cn),(I cj),(.float .f64 du),da,cY,cZ,dc,(I dh),(I cO),(.float .f64 cM),(.float .f64 cP),(I cQ),(I cR),(I cX),(I cS),(I cT),(I cU),cV,cW])] w0 R:=
 aL (pl:=Nz) Tryz.func159 (by kernel_rfl) (by kernel_rfl) h
theorem Tj {R:Ending→World→Prop} {w0:World} {aO aZ:Int} {ba bA:Nat} (h:Hz R w0 (aS w0) aO aZ ba bA):Calls pg 160 #[(.agg #[(I aO),(I aZ),(.float .f64 ba),(.float .f64 bA)])] w0 R:=
 aL (pl:=SY) Tryz.func160 (by kernel_rfl) (by kernel_rfl) h
theorem Tk (h:HA R w0 (aS w0) p0 p1):Calls pg 161 #[p0,p1] w0 R:=cv ⟨80,[(9,(pg.cellsOf 225)),(11,(pg.cellsOf 182)),(13,(pg.cellsOf 182))],[30,32,35,51,74],[0,1,4,5,6,7,12,14,16,17,18,19,25,38,39,40,41,56,60,62,66],[],[7,18,40]⟩ Tryz.func161 h
theorem Gs {R:Ending→World→Prop} {w0:World} {p0:ByteArray} {c0:Value} (h:xT R w0 (aS w0) p0 c0):Calls pg 162 #[(.string p0),c0] w0 R:=
 aL (pl:=Gj) Tryz.func162 (by kernel_rfl) (by kernel_rfl) h
theorem UJ {R:Ending→World→Prop} {w0:World} {aO aZ:Int} {ba bA p1:Nat} (h:Kh R w0 (aS w0) aO aZ ba bA p1):Calls pg 163 #[(.agg #[(I aO),(I aZ),(.float .f64 ba),(.float .f64 bA)]),(.float .f64 p1)] w0 R:=
 aL (pl:=Uz) Tryz.func163 (by kernel_rfl) (by kernel_rfl) h
theorem UK {R:Ending→World→Prop} {w0:World} {p0:ByteArray} (h:Ki R w0 (aS w0) p0):Calls pg 164 #[(.string p0)] w0 R:=
 aL (pl:=UA) Tryz.func164 (by kernel_rfl) (by kernel_rfl) h
theorem HQ {R:Ending→World→Prop} {w0:World} {aO aZ ba bA bN bQ:Int} {bV b6:Value} (h:y8 R w0 (aS w0) aO aZ ba bA bN bQ bV b6):Calls pg 165 #[(.agg #[(I aO),(I aZ),(I ba),(I bA),(I bN),(I bQ),bV,b6])] w0 R:=
 aL (pl:=HB) Tryz.func165 (by kernel_rfl) (by kernel_rfl) h
theorem UL {R:Ending→World→Prop} {w0:World} {aO aZ ba bA bN bQ bV b6 cI dg:Int} {cn:Bool} {cj:Int} {du:Nat} {da cY cZ dc:Value} {dh cO:Int} {cM cP:Nat} {cQ cR cX cS cT cU:Int} {cV cW:Value} (h:Kj R w0 (aS w0) aO aZ ba bA bN bQ bV b6 cI dg cn cj du da cY cZ dc dh cO cM cP cQ cR cX cS cT cU cV cW):Calls pg 166 #[(.agg #[(I aO),(I aZ),(I ba),(I bA),(I bN),(I bQ),(I bV),(I b6),(I cI),(I dg),(B cn),(I cj),(.float .f64 du),da,cY,cZ,dc,(I dh),(I cO),(.float .f64 cM),(.float .f64 cP),(I cQ),(I cR),(I cX),(I cS),(I cT),(I cU),cV,cW])] w0 R:=
 aL (pl:=UB) Tryz.func166 (by kernel_rfl) (by kernel_rfl) h
theorem uJ (h:nF R w0 (aS w0) p0):Calls pg 167 #[p0] w0 R:=cv ⟨8,[],[],[0,2,4],[],[]⟩ Tryz.func167 h
theorem P7 {R:Ending→World→Prop} {w0:World} {p0:Value} {p1:Nat} (h:FE R w0 (aS w0) p0 p1):Calls pg 168 #[p0,(.float .f64 p1)] w0 R:=
 aL (pl:=PY) Tryz.func168 (by kernel_rfl) (by kernel_rfl) h
theorem rV (h:lJ R w0 (aS w0) p0 p1):Calls pg 169 #[p0,p1] w0 R:=cv ⟨42,[],[],[0,1,4,5,6,7,12,19,29],[],[5,6]⟩ Tryz.func169 h
theorem DU {R:Ending→World→Prop} {w0:World} {p0:ByteArray} {c0:Value} (h:vn R w0 (aS w0) p0 c0):Calls pg 170 #[(.string p0),c0] w0 R:=
 aL (pl:=DJ) Tryz.func170 (by kernel_rfl) (by kernel_rfl) h
theorem qS {R:Ending→World→Prop} {w0:World} {p0:Value} {cm cu cq eJ ff:Int} (h:lq R w0 (aS w0) p0 cm cu cq eJ ff):Calls pg 171 #[p0,(.agg #[(I cm),(I cu),(I cq),(I eJ),(I ff)])] w0 R:=
 aL (pl:=qZ) Tryz.func171 (by kernel_rfl) (by kernel_rfl) h
theorem UM {R:Ending→World→Prop} {w0:World} {aO aZ ba bA bN bQ bV b6:Int} {cI:Value} (h:Kk R w0 (aS w0) aO aZ ba bA bN bQ bV b6 cI):Calls pg 172 #[(.agg #[(I aO),(I aZ),(I ba),(I bA),(I bN),(I bQ),(I bV),(I b6),cI])] w0 R:=
 aL (pl:=UC) Tryz.func172 (by kernel_rfl) (by kernel_rfl) h
theorem Li {R:Ending→World→Prop} {w0:World} {p0:Value} {cm cu cq eJ ff fH fi fj:Int} {ij:Value} (h:BB R w0 (aS w0) p0 cm cu cq eJ ff fH fi fj ij):Calls pg 173 #[p0,(.agg #[(I cm),(I cu),(I cq),(I eJ),(I ff),(I fH),(I fi),(I fj),ij])] w0 R:=
 aL (pl:=Lb) Tryz.func173 (by kernel_rfl) (by kernel_rfl) h
theorem od {R:Ending→World→Prop} {w0:World} {p0:Value} {p1 p2:Int} (h:jy R w0 (aS w0) p0 p1 p2):Calls pg 174 #[p0,(I p1),(I p2)] w0 R:=
 aL (pl:=oJ) Tryz.func174 (by kernel_rfl) (by kernel_rfl) h
theorem Tl {R:Ending→World→Prop} {w0:World} {p0:ByteArray} (h:HC R w0 (aS w0) p0):Calls pg 194 #[(.string p0)] w0 R:=
 aL (pl:=SZ) Tryz.func194 (by kernel_rfl) (by kernel_rfl) h
theorem P8 (h:FF R w0 (aS w0) p0):Calls pg 195 #[p0] w0 R:=cv ⟨18,[(4,(pg.cellsOf 43))],[],[0,2,5,6,7,8,13],[],[7]⟩ Tryz.func195 h
theorem Tm {R:Ending→World→Prop} {w0:World} {aO:Int} {aZ:Nat} {ba:ByteArray} (h:HD R w0 (aS w0) aO aZ ba):Calls pg 196 #[(.agg #[(I aO),(.float .f64 aZ),(.string ba)])] w0 R:=
 aL (pl:=S3) Tryz.func196 (by kernel_rfl) (by kernel_rfl) h
theorem Tn (h:HE R w0 (aS w0) p0 p1):Calls pg 197 #[p0,p1] w0 R:=cv ⟨183,[],[],[0,1,4,13,14,21,30,78,95,102,119,138,145,169],[],[]⟩ Tryz.func197 h
theorem NP {R:Ending→World→Prop} {w0:World} {p0:Nat} (h:DK R w0 (aS w0) p0):Calls pg 198 #[(.float .f64 p0)] w0 R:=
 aL (pl:=NA) Tryz.func198 (by kernel_rfl) (by kernel_rfl) h
theorem UN (h:Kl R w0 (aS w0)):Calls pg 199 #[] w0 R:=cv ⟨5,[],[],[0],[],[]⟩ Tryz.func199 h
theorem MC {R:Ending→World→Prop} {w0:World} {aO:ByteArray} {aZ:Value} {p1:ByteArray} (h:Ch R w0 (aS w0) aO aZ p1):Calls pg 200 #[(.agg #[(.string aO),aZ]),(.string p1)] w0 R:=
 aL (pl:=Mu) Tryz.func200 (by kernel_rfl) (by kernel_rfl) h
theorem pL (h:kf R w0 (aS w0) p0):Calls pg 201 #[p0] w0 R:=cv ⟨8,[],[],[0,2,4],[],[]⟩ Tryz.func201 h
theorem EO {R:Ending→World→Prop} {w0:World} {p0:Value} {cm cu cq eJ ff fH:Int} {fi fj:Value} (h:wV R w0 (aS w0) p0 cm cu cq eJ ff fH fi fj):Calls pg 202 #[p0,(.agg #[(I cm),(I cu),(I cq),(I eJ),(I ff),(I fH),fi,fj])] w0 R:=
 aL (pl:=EI) Tryz.func202 (by kernel_rfl) (by kernel_rfl) h
theorem Jp {R:Ending→World→Prop} {w0:World} {p0:Value} {cm cu cq eJ ff fH:Int} {fi fj:Value} (h:zX R w0 (aS w0) p0 cm cu cq eJ ff fH fi fj):Calls pg 203 #[p0,(.agg #[(I cm),(I cu),(I cq),(I eJ),(I ff),(I fH),fi,fj])] w0 R:=
 aL (pl:=Je) Tryz.func203 (by kernel_rfl) (by kernel_rfl) h
theorem P9 {R:Ending→World→Prop} {w0:World} {aO aZ ba bA bN bQ:Int} {bV b6:Value} (h:FG R w0 (aS w0) aO aZ ba bA bN bQ bV b6):Calls pg 204 #[(.agg #[(I aO),(I aZ),(I ba),(I bA),(I bN),(I bQ),bV,b6])] w0 R:=
 aL (pl:=PZ) Tryz.func204 (by kernel_rfl) (by kernel_rfl) h
theorem Qa {R:Ending→World→Prop} {w0:World} {p0:ByteArray} (h:FI R w0 (aS w0) p0):Calls pg 205 #[(.string p0)] w0 R:=
 aL (pl:=P0) Tryz.func205 (by kernel_rfl) (by kernel_rfl) h
theorem To (h:HF R w0 (aS w0) p0):Calls pg 206 #[p0] w0 R:=cv ⟨32,[],[],[0,2,3,4,5,6,7,8,27],[15,16,17,18,19,20,21,22,23,24,25,26],[7]⟩ Tryz.func206 h
theorem Jq (h:zY R w0 (aS w0) p0):Calls pg 207 #[p0] w0 R:=cv ⟨19,[(5,(pg.cellsOf 118))],[13],[0,2,3,6,7,8,9],[],[3,8]⟩ Tryz.func207 h
theorem MD {R:Ending→World→Prop} {w0:World} {aO aZ ba bA bN bQ bV b6 cI dg:Int} {cn:Bool} {cj:Int} {du:Nat} {da cY cZ dc:Value} {dh cO:Int} {cM cP:Nat} {cQ cR cX cS cT cU:Int} {cV cW:Value} (h:Ci R w0 (aS w0) aO aZ ba bA bN bQ bV b6 cI dg cn cj du da cY cZ dc dh cO cM cP cQ cR cX cS cT cU cV cW):Calls pg 208 #[(.agg #[(I aO),(I aZ),(I ba),(I bA),(I bN),(I bQ),(I bV),(I b6),(I cI),(I dg),(B cn),(I cj),(.float .f64 du),da,cY,cZ,dc,(I dh),(I cO),(.float .f64 cM),(.float .f64 cP),(I cQ),(I cR),(I cX),(I cS),(I cT),(I cU),cV,cW])] w0 R:=
 aL (pl:=Mw) Tryz.func208 (by kernel_rfl) (by kernel_rfl) h
theorem Tp {R:Ending→World→Prop} {w0:World} {aO aZ ba bA bN bQ bV b6 cI dg:Int} {cn:Bool} {cj:Int} {du:Nat} {da cY cZ dc:Value} {dh cO:Int} {cM cP:Nat} {cQ cR cX cS cT cU:Int} {cV cW:Value} (h:HG R w0 (aS w0) aO aZ ba bA bN bQ bV b6 cI dg cn cj du da cY cZ dc dh cO cM cP cQ cR cX cS cT cU cV cW):Calls pg 209 #[(.agg #[(I aO),(I aZ),(I ba),(I bA),(I bN),(I bQ),(I bV),(I b6),(I cI),(I dg),(B cn),(I cj),(.float .f64 du),da,cY,cZ,dc,(I dh),(I cO),(.float .f64 cM),(.float .f64 cP),(I cQ),(I cR),(I cX),(I cS),(I cT),(I cU),cV,cW])] w0 R:=
 aL (pl:=S4) Tryz.func209 (by kernel_rfl) (by kernel_rfl) h
theorem NQ {R:Ending→World→Prop} {w0:World} {aO aZ ba bA bN bQ bV b6 cI dg:Int} {cn:Bool} {cj:Int} {du:Nat} {da cY cZ dc:Value} {dh cO:Int} {cM cP:Nat} {cQ cR cX cS cT cU:Int} {cV cW:Value} (h:DL R w0 (aS w0) aO aZ ba bA bN bQ bV b6 cI dg cn cj du da cY cZ dc dh cO cM cP cQ cR cX cS cT cU cV cW):Calls pg 210 #[(.agg #[(I aO),(I aZ),(I ba),(I bA),(I bN),(I bQ),(I bV),(I b6),(I cI),(I dg),(B cn),(I cj),(.float .f64 du),da,cY,cZ,dc,(I dh),(I cO),(.float .f64 cM),(.float .f64 cP),(I cQ),(I cR),(I cX),(I cS),(I cT),(I cU),cV,cW])] w0 R:=
 aL (pl:=NB) Tryz.func210 (by kernel_rfl) (by kernel_rfl) h
theorem sw (h:me R w0 (aS w0) p0 p1):Calls pg 211 #[p0,p1] w0 R:=cv ⟨19,[],[],[0,1,4,5,7,8,9,16],[],[8]⟩ Tryz.func211 h
theorem Lj {R:Ending→World→Prop} {w0:World} {p0:Value} {p1 gj gB gC:Int} (h:BC R w0 (aS w0) p0 p1 gj gB gC):Calls pg 212 #[p0,(I p1),(.agg #[(I gj),(I gB),(I gC)])] w0 R:=
 aL (pl:=Lc) Tryz.func212 (by kernel_rfl) (by kernel_rfl) h
theorem Tq (h:HH R w0 (aS w0) p0 p1):Calls pg 213 #[p0,p1] w0 R:=cv ⟨8,[],[],[0,1,3,4],[],[]⟩ Tryz.func213 h
theorem jx {R:Ending→World→Prop} {w0:World} {p0:Value} {cm cu cq eJ ff fH fi fj:Int} {ij p2:Value} (h:gk R w0 (aS w0) p0 cm cu cq eJ ff fH fi fj ij p2):Calls pg 214 #[p0,(.agg #[(I cm),(I cu),(I cq),(I eJ),(I ff),(I fH),(I fi),(I fj),ij]),p2] w0 R:=
 aL (pl:=jw) Tryz.func214 (by kernel_rfl) (by kernel_rfl) h
theorem Tr {R:Ending→World→Prop} {w0:World} {aO aZ ba bA bN bQ bV b6:Int} {cI:Value} {cm cu cq eJ ff fH fi fj:Int} {ij:Value} (h:HI R w0 (aS w0) aO aZ ba bA bN bQ bV b6 cI cm cu cq eJ ff fH fi fj ij):Calls pg 215 #[(.agg #[(I aO),(I aZ),(I ba),(I bA),(I bN),(I bQ),(I bV),(I b6),cI]),(.agg #[(I cm),(I cu),(I cq),(I eJ),(I ff),(I fH),(I fi),(I fj),ij])] w0 R:=
 aL (pl:=S5) Tryz.func215 (by kernel_rfl) (by kernel_rfl) h
theorem oL {R:Ending→World→Prop} {w0:World} {p0:Value} {p1:Int} {p2:Value} (h:jE R w0 (aS w0) p0 p1 p2):Calls pg 216 #[p0,(I p1),p2] w0 R:=
 aL (pl:=oK) Tryz.func216 (by kernel_rfl) (by kernel_rfl) h
theorem Qb {R:Ending→World→Prop} {w0:World} {aO aZ ba bA bN bQ bV b6:Int} {cI:Value} (h:FJ R w0 (aS w0) aO aZ ba bA bN bQ bV b6 cI):Calls pg 217 #[(.agg #[(I aO),(I aZ),(I ba),(I bA),(I bN),(I bQ),(I bV),(I b6),cI])] w0 R:=
 aL (pl:=P1) Tryz.func217 (by kernel_rfl) (by kernel_rfl) h
theorem UO {R:Ending→World→Prop} {w0:World} {p0:Nat} (h:Km R w0 (aS w0) p0):Calls pg 228 #[(.float .f64 p0)] w0 R:=
 aL (pl:=UD) Tryz.func228 (by kernel_rfl) (by kernel_rfl) h
theorem HR (h:y9 R w0 (aS w0) p0 p1):Calls pg 229 #[p0,p1] w0 R:=cv ⟨26,[],[],[0,1,8],[],[]⟩ Tryz.func229 h
theorem EP (h:wW R w0 (aS w0) p0 p1):Calls pg 230 #[p0,p1] w0 R:=cv ⟨33,[],[],[0,1],[],[]⟩ Tryz.func230 h
theorem CQ (h:tZ R w0 (aS w0) p0 p1):Calls pg 231 #[p0,p1] w0 R:=cv ⟨28,[],[],[0,1],[],[]⟩ Tryz.func231 h
theorem Jr (h:zZ R w0 (aS w0) p0 p1 p2):Calls pg 232 #[p0,p1,p2] w0 R:=cv ⟨63,[],[],[0,1,2,6,7,8,17,38,39,40,46],[],[39]⟩ Tryz.func232 h
theorem HS (h:za R w0 (aS w0) p0 p1):Calls pg 233 #[p0,p1] w0 R:=cv ⟨19,[],[],[0,1],[],[]⟩ Tryz.func233 h
theorem Gt (h:xU R w0 (aS w0) p0 p1):Calls pg 234 #[p0,p1] w0 R:=cv ⟨26,[],[],[0,1,8],[],[]⟩ Tryz.func234 h
theorem ER (h:wX R w0 (aS w0) p0 p1):Calls pg 235 #[p0,p1] w0 R:=cv ⟨19,[],[],[0,1],[],[]⟩ Tryz.func235 h
theorem ES (h:wY R w0 (aS w0) p0 p1):Calls pg 236 #[p0,p1] w0 R:=cv ⟨26,[],[],[0,1,8],[],[]⟩ Tryz.func236 h
theorem BN (h:tp R w0 (aS w0) p0 p1 p2):Calls pg 237 #[p0,p1,p2] w0 R:=cv ⟨63,[(8,(pg.cellsOf 118))],[],[0,1,2,6,7,17,38,39,40,46],[],[39]⟩ Tryz.func237 h
theorem ET (h:wZ R w0 (aS w0) p0 p1):Calls pg 238 #[p0,p1] w0 R:=cv ⟨14,[],[],[0,1],[],[]⟩ Tryz.func238 h
theorem CT (h:ua R w0 (aS w0) p0 p1 p2):Calls pg 239 #[p0,p1,p2] w0 R:=cv ⟨63,[(8,(pg.cellsOf 205))],[],[0,1,2,6,7,17,38,39,40,46],[],[39]⟩ Tryz.func239 h
theorem Gu (h:xV R w0 (aS w0) p0 p1):Calls pg 240 #[p0,p1] w0 R:=cv ⟨14,[],[],[0,1],[],[]⟩ Tryz.func240 h
theorem Ts {R:Ending→World→Prop} {w0:World} {p0:Nat} (h:HJ R w0 (aS w0) p0):Calls pg 241 #[(.float .f64 p0)] w0 R:=
 aL (pl:=S6) Tryz.func241 (by kernel_rfl) (by kernel_rfl) h
theorem NR {R:Ending→World→Prop} {w0:World} {aO aZ ba bA bN bQ:Int} {bV b6:Value} {p1:ByteArray} (h:DN R w0 (aS w0) aO aZ ba bA bN bQ bV b6 p1):Calls pg 242 #[(.agg #[(I aO),(I aZ),(I ba),(I bA),(I bN),(I bQ),bV,b6]),(.string p1)] w0 R:=
 aL (pl:=NC) Tryz.func242 (by kernel_rfl) (by kernel_rfl) h
theorem EU {R:Ending→World→Prop} {w0:World} {p0:Value} {p1:ByteArray} (h:xa R w0 (aS w0) p0 p1):Calls pg 243 #[p0,(.string p1)] w0 R:=
 aL (pl:=EJ) Tryz.func243 (by kernel_rfl) (by kernel_rfl) h
theorem Js {R:Ending→World→Prop} {w0:World} {aO aZ:Int} {ba bA:Nat} {bN bQ bV b6 cI dg:Int} {cn cj:Value} (h:z7 R w0 (aS w0) aO aZ ba bA bN bQ bV b6 cI dg cn cj):Calls pg 244 #[(.agg #[(I aO),(I aZ),(.float .f64 ba),(.float .f64 bA),(I bN),(I bQ),(I bV),(I b6),(I cI),(I dg),cn,cj])] w0 R:=
 aL (pl:=Jf) Tryz.func244 (by kernel_rfl) (by kernel_rfl) h
theorem ME {R:Ending→World→Prop} {w0:World} {p0:Bool} {cm cu cq:Int} (h:Cj R w0 (aS w0) p0 cm cu cq):Calls pg 245 #[(B p0),(.agg #[(I cm),(I cu),(I cq)])] w0 R:=
 aL (pl:=Mx) Tryz.func245 (by kernel_rfl) (by kernel_rfl) h
theorem NS {R:Ending→World→Prop} {w0:World} {p0:Nat} (h:DO R w0 (aS w0) p0):Calls pg 246 #[(.float .f64 p0)] w0 R:=
 aL (pl:=ND) Tryz.func246 (by kernel_rfl) (by kernel_rfl) h
theorem NT {R:Ending→World→Prop} {w0:World} {p0:Int} (h:DP R w0 (aS w0) p0):Calls pg 247 #[(I p0)] w0 R:=
 aL (pl:=NF) Tryz.func247 (by kernel_rfl) (by kernel_rfl) h
theorem NU {R:Ending→World→Prop} {w0:World} {aO aZ ba:Int} (h:DQ R w0 (aS w0) aO aZ ba):Calls pg 248 #[(.agg #[(I aO),(I aZ),(I ba)])] w0 R:=
 aL (pl:=NG) Tryz.func248 (by kernel_rfl) (by kernel_rfl) h
theorem Qc (h:FK R w0 (aS w0) p0):Calls pg 249 #[p0] w0 R:=cv ⟨44,[(4,(pg.cellsOf 205))],[12,26,32,38,39],[0,2,3,5,6,7,8,42],[16,17,18,19,20,21,22,23,24,25,27,28,29,31,33,34,35,37,40,41],[7]⟩ Tryz.func249 h
theorem mF (h:iL R w0 (aS w0) p0 p1):Calls pg 250 #[p0,p1] w0 R:=cv ⟨9,[],[],[0,1,4],[],[]⟩ Tryz.func250 h
theorem Gv {R:Ending→World→Prop} {w0:World} {aO aZ ba bA bN bQ bV b6:Int} {cI c0 c1:Value} (h:xW R w0 (aS w0) aO aZ ba bA bN bQ bV b6 cI c0 c1):Calls pg 251 #[(.agg #[(I aO),(I aZ),(I ba),(I bA),(I bN),(I bQ),(I bV),(I b6),cI]),c0,c1] w0 R:=
 aL (pl:=Gk) Tryz.func251 (by kernel_rfl) (by kernel_rfl) h
theorem oM (h:jF R w0 (aS w0) p0 p1):Calls pg 252 #[p0,p1] w0 R:=cv ⟨9,[],[],[0,1,4],[],[]⟩ Tryz.func252 h
theorem MF {R:Ending→World→Prop} {w0:World} {aO:ByteArray} {aZ:Int} {ba:Nat} {bA:ByteArray} {c0:Value} (h:Ck R w0 (aS w0) aO aZ ba bA c0):Calls pg 253 #[(.agg #[(.string aO),(I aZ),(.float .f64 ba),(.string bA)]),c0] w0 R:=
 aL (pl:=My) Tryz.func253 (by kernel_rfl) (by kernel_rfl) h
theorem HT {R:Ending→World→Prop} {w0:World} {aO:ByteArray} {aZ:Int} {ba:Nat} {bA:ByteArray} {c0:Value} (h:zc R w0 (aS w0) aO aZ ba bA c0):Calls pg 254 #[(.agg #[(.string aO),(I aZ),(.float .f64 ba),(.string bA)]),c0] w0 R:=
 aL (pl:=HK) Tryz.func254 (by kernel_rfl) (by kernel_rfl) h
theorem Tt {R:Ending→World→Prop} {w0:World} {p0:Nat} (h:HL R w0 (aS w0) p0):Calls pg 276 #[(.float .f64 p0)] w0 R:=
 aL (pl:=S7) Tryz.func276 (by kernel_rfl) (by kernel_rfl) h
theorem EV (h:xd R w0 (aS w0) p0 p1):Calls pg 278 #[p0,p1] w0 R:=cv ⟨24,[],[],[0,1],[],[]⟩ Tryz.func278 h
theorem Ao (h:rS R w0 (aS w0) p0 p1 p2):Calls pg 279 #[p0,p1,p2] w0 R:=cv ⟨63,[(8,(pg.cellsOf 225))],[],[0,1,2,6,7,17,38,39,40,46],[],[39]⟩ Tryz.func279 h
theorem CU (h:ub R w0 (aS w0) p0 p1):Calls pg 280 #[p0,p1] w0 R:=cv ⟨16,[],[],[0,1],[],[]⟩ Tryz.func280 h
theorem Ap (h:rT R w0 (aS w0) p0 p1 p2):Calls pg 281 #[p0,p1,p2] w0 R:=cv ⟨63,[(8,(pg.cellsOf 182))],[],[0,1,2,6,7,17,38,39,40,46],[],[39]⟩ Tryz.func281 h
theorem EW (h:xe R w0 (aS w0) p0 p1 p2):Calls pg 282 #[p0,p1,p2] w0 R:=cv ⟨63,[],[],[0,1,2,6,7,8,17,38,39,40,46],[],[39]⟩ Tryz.func282 h
theorem Gw (h:xX R w0 (aS w0) p0 p1):Calls pg 283 #[p0,p1] w0 R:=cv ⟨26,[],[],[0,1,8],[],[]⟩ Tryz.func283 h
theorem Gx {R:Ending→World→Prop} {w0:World} {p0:Value} {p1:Bool} (h:xY R w0 (aS w0) p0 p1):Calls pg 285 #[p0,(B p1)] w0 R:=
 aL (pl:=Gl) Tryz.func285 (by kernel_rfl) (by kernel_rfl) h
theorem EX {R:Ending→World→Prop} {w0:World} {p0:Value} {p1:Nat} (h:xf R w0 (aS w0) p0 p1):Calls pg 287 #[p0,(.float .f64 p1)] w0 R:=
 aL (pl:=EK) Tryz.func287 (by kernel_rfl) (by kernel_rfl) h
theorem EY (h:xg R w0 (aS w0) p0 p1):Calls pg 289 #[p0,p1] w0 R:=cv ⟨26,[],[],[0,1,8],[],[]⟩ Tryz.func289 h
theorem Jt {R:Ending→World→Prop} {w0:World} {aO:ByteArray} {aZ:Int} {ba:Nat} {bA:ByteArray} {c0:Value} (h:Aa R w0 (aS w0) aO aZ ba bA c0):Calls pg 290 #[(.agg #[(.string aO),(I aZ),(.float .f64 ba),(.string bA)]),c0] w0 R:=
 aL (pl:=Jg) Tryz.func290 (by kernel_rfl) (by kernel_rfl) h
theorem EZ {R:Ending→World→Prop} {w0:World} {p0:Value} {p1:ByteArray} {gj gB gC:Int} {p3:Bool} (h:xh R w0 (aS w0) p0 p1 gj gB gC p3):Calls pg 291 #[p0,(.string p1),(.agg #[(I gj),(I gB),(I gC)]),(B p3)] w0 R:=
 aL (pl:=EL) Tryz.func291 (by kernel_rfl) (by kernel_rfl) h
theorem nG (h:jf R w0 (aS w0) p0 p1):Calls pg 292 #[p0,p1] w0 R:=cv ⟨19,[],[],[0,1,4,5,7,8,9,16],[],[8]⟩ Tryz.func292 h
theorem pM (h:kg R w0 (aS w0) p0 p1):Calls pg 293 #[p0,p1] w0 R:=cv ⟨19,[],[],[0,1,4,5,7,8,9,16],[],[8]⟩ Tryz.func293 h
end
end Go.Proofs.YtfndblbeikocdaaGreat
