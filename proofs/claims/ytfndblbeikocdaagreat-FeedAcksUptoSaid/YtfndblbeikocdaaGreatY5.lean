/-
 Part 5 of the proof: what the last text leans on.
-/
import Derived.Test.YtfndblbeikocdaaGreatProg
import Derived.KernelRfl
import Derived.Test.YtfndblbeikocdaaGreatY4
open Go.Value renaming cells → aa, agg → aj, tuple → aG, int → aU
open Array renaming toList → ab
open List renaming all → av, length → ao, toArray → aR
open Go.Op renaming unary → aX
open Go.UnOp renaming not → bm
open Go.Instr renaming extract → aC, lookup → ck, box → cE, makeFunc → ct, mapUpdate → dE, sliceAt → cp, alloc → kM
open Go.IntKind renaming u64 → bq, u32 → gf, u8 → gL
open Go.Fn renaming func → eO
open Go.Builtin renaming delete_ → iQ, len_ → eT, clear_ → e6
set_option linter.unusedVariables false
set_option linter.unusedSimpArgs false
namespace Go.Proofs.YtfndblbeikocdaaGreat
open Go.Proofs.Tryz renaming prog → pg
open Go.bu
set_option maxRecDepth 100000
section
variable (R : Ending → World → Prop) (w0 : World) (X0 : XS)
noncomputable def Nt:bz:=⟨49,[(1,(pg.cellsOf 85)),(7,(pg.cellsOf 89))],[9,10,12,13,15,16,18,31,39,43],[0,2,3,5,21,22,23,24,32,33,34,35],[],[23,34]⟩
def Dr (aO aZ ba:Int) (bA:Value):Prop:=
 (eC pg R X0 w0 true 112 #[] fun a b c=>
 (ad pg c b (cB 83 3 bA) fun d=>
 eV pg R c b true (gq 38 3 1 4 #[(0,(I aO)),(1,(I aZ)),(2,(I ba)),(3,d)]) fun e g h=>
 ad pg h g (cB 38 3 e) fun i=>
 (gp h g (I 0) 23 fun j k l m n=>
 ad pg n m (binOp .lss 3 l i) fun o=>
 (au o
 ((ad pg n m (dt 38 1 e l) fun q=>
 ad pg n m (ld1 3 q) fun r=>
 (eC pg R n m true 113 #[a,r] fun _ s t=>
 ((ad pg t s (binOp .add 3 l (I 1)) fun v=>
 gm j k v s t)))))
 (((ad pg n m (cB 83 3 bA) fun y=>
 (gp n m (I 0) 34 fun z A C D E=>
 ad pg E D (binOp .lss 3 C y) fun F=>
 (au F
 ((ad pg E D (dt 83 2 bA C) fun G=>
 ad pg E D (ew 89 2 G) fun H=>
 un (aj (aa H)) fun L=>
 aF (ao (ab (aa H))==2) (aF (av (ab (aa H)) bu.one) ((aF (cd L) (un (cellOf L 0) fun M=>
 eC pg R E D true 113 #[a,M] fun _ N O=>
 (aF (cd L) (un (cellOf L 1) fun Q=>
 eC pg R O N true 113 #[a,Q] fun _ S T=>
 ((ad pg T S (binOp .add 3 C (I 1)) fun U=>
 gm z A U S T))))))))))
 (eC pg R E D true 114 #[a] fun V Y Z=>
 (fin R Z Y V)))))))))))
noncomputable def EF:bz:=⟨37,[(5,(pg.cellsOf 34)),(7,(pg.cellsOf 34))],[],[0,1,2,6,8,18,25,29],[21,22,23],[]⟩
def vQ (p0:Value) (p1 gj gB gC:Int):Prop:=
 (az pg X0 w0 (aM p0) fun a=>
 ad pg X0 w0 (aT 128 3 5 1 a) fun b=>
 ad pg X0 w0 (ld1 126 b) fun c=>
 ad pg X0 w0 (ck 126 c (I p1) true) fun d=>
 ad pg X0 w0 (aC d 0) fun e=>
 ad pg X0 w0 (aC d 1) fun g=>
 un (aj (aa e)) fun _=>
 aF (ao (ab (aa e))==3) (aF (av (ab (aa e)) bu.one) ((ad pg X0 w0 (binOp .lss 3 (I p1) (I 1)) fun h=>
 un (aP h false (I p1)) fun i=>
 aJ pg X0 w0 h false (vS (binOp .gtr 3 i (I 12))) fun j=>
 az pg X0 w0 (aQ h (B true) j) fun k=>
 (au k
 (fin R X0 w0 (I 1))
 (eC pg R X0 w0 true 57 #[(.agg #[(I gj),(I gB),(I gC)])] fun l m n=>
 ad pg n m (aX bm l) fun o=>
 (au o
 (fin R n m (I 17))
 ((au g
 (fin R n m (I 9))
 (((az pg n m (aM p0) fun q=>
 ad pg n m (aT 128 3 5 1 q) fun r=>
 ad pg n m (ld1 126 r) fun s=>
 eU pg R n m true (dE 126 s (I p1) (.agg #[(I gj),(I gB),(I gC)])) fun _ t v=>
 (fin R v t (I 0))))))))))))))
noncomputable def Nu:bz:=⟨20,[],[],[0,1,2,6,14],[10,11,12,13],[]⟩
def Dy (p0 p1 p2:Int):Prop:=
 (ad pg X0 w0 (binOp .gtr 3 (I p1) (I p2)) fun a=>
 un (aP a false (I p0)) fun b=>
 un (aP a false (I p2)) fun c=>
 aJ pg X0 w0 a false (vS (binOp .gtr 3 b c)) fun d=>
 az pg X0 w0 (aQ a (B true) d) fun e=>
 (au e
 (ad pg X0 w0 (binOp .add 3 (I p2) (I 1)) fun g=>
 (fin R X0 w0 g))
 ((ad pg X0 w0 (binOp .add 3 (I p0) (I p1)) fun h=>
 (fin R X0 w0 h)))))
noncomputable def Dz:bz:=⟨28,[],[],[0,1,4,5,6,15],[11,12,13,14],[5,6]⟩
def vj (p0:Value) (p1:Int):Prop:=
 (((il X0 w0 (I 0) (I 0) 6 5 fun a b c d e g=>
 ad pg g e (cB 35 3 p0) fun h=>
 ad pg g e (binOp .lss 3 c h) fun i=>
 un (aP i true d) fun j=>
 un (aP i true (I p1)) fun k=>
 aJ pg g e i true (vS (binOp .leq 3 j k)) fun l=>
 az pg g e (aQ i l (B false)) fun m=>
 (au m
 ((ad pg g e (dt 35 1 p0 c) fun n=>
 ad pg g e (ld1 9 n) fun o=>
 ad pg g e (lS 9 3 o) fun q=>
 ad pg g e (binOp .add 3 (I 1) q) fun r=>
 eC pg R g e true 69 #[d,r,(I p1)] fun s t v=>
 ((ad pg v t (binOp .add 3 c (I 1)) fun y=>
 im a b y s t v))))
 (fin R g e d)))))
noncomputable def EG:bz:=⟨38,[],[],[0,1,4,5,6,15],[11,12,13,14,18],[5,6]⟩
def wm (p0:Value) (p1:Int):Prop:=
 (((il X0 w0 (I 0) (I 0) 6 5 fun a b c d e g=>
 ad pg g e (cB 36 3 p0) fun h=>
 ad pg g e (binOp .lss 3 c h) fun i=>
 un (aP i true d) fun j=>
 un (aP i true (I p1)) fun k=>
 aJ pg g e i true (vS (binOp .leq 3 j k)) fun l=>
 az pg g e (aQ i l (B false)) fun m=>
 (au m
 ((ad pg g e (dt 36 7 p0 c) fun n=>
 ad pg g e (aT 166 0 0 1 n) fun o=>
 ad pg g e (ld1 9 o) fun q=>
 ad pg g e (lS 9 3 q) fun r=>
 ad pg g e (binOp .add 3 (I 1) r) fun s=>
 ad pg g e (dt 36 7 p0 c) fun t=>
 ad pg g e (aT 166 1 1 3 t) fun v=>
 ad pg g e (aT 116 2 2 1 v) fun y=>
 ad pg g e (ld1 9 y) fun z=>
 ad pg g e (lS 9 3 z) fun A=>
 eC pg R g e false 69 #[d,s,(I p1)] fun C D E=>
 eC pg R E D true 69 #[C,A,(I p1)] fun F G H=>
 ((ad pg H G (binOp .add 3 c (I 1)) fun L=>
 im a b L F G H))))
 (fin R g e d)))))
noncomputable def CI:bz:=⟨38,[],[],[0,1,4,5,6,15],[11,12,13,14,18],[5,6]⟩
def tX (p0:Value) (p1:Int):Prop:=
 (((il X0 w0 (I 0) (I 0) 6 5 fun a b c d e g=>
 ad pg g e (cB 37 3 p0) fun h=>
 ad pg g e (binOp .lss 3 c h) fun i=>
 un (aP i true d) fun j=>
 un (aP i true (I p1)) fun k=>
 aJ pg g e i true (vS (binOp .leq 3 j k)) fun l=>
 az pg g e (aQ i l (B false)) fun m=>
 (au m
 ((ad pg g e (dt 37 4 p0 c) fun n=>
 ad pg g e (aT 118 0 0 1 n) fun o=>
 ad pg g e (ld1 9 o) fun q=>
 ad pg g e (lS 9 3 q) fun r=>
 ad pg g e (binOp .add 3 (I 1) r) fun s=>
 ad pg g e (dt 37 4 p0 c) fun t=>
 ad pg g e (aT 118 1 1 3 t) fun v=>
 ad pg g e (aT 116 2 2 1 v) fun y=>
 ad pg g e (ld1 9 y) fun z=>
 ad pg g e (lS 9 3 z) fun A=>
 eC pg R g e false 69 #[d,s,(I p1)] fun C D E=>
 eC pg R E D true 69 #[C,A,(I p1)] fun F G H=>
 ((ad pg H G (binOp .add 3 c (I 1)) fun L=>
 im a b L F G H))))
 (fin R g e d)))))
noncomputable def Ge:bz:=⟨67,[(2,(pg.cellsOf 73))],[7,11,18,27,39,49,61],[0,1,4,5,6,35],[31,32,33,34,38],[5,6]⟩
def xQ (_p0_0 _p0_1 _p0_2 _p0_3 _p0_4 _p0_5 _p0_6 _p0_7 _p0_8 _p0_9:Int) (_p0_10:Bool) (_p0_11:Int) (_p0_12:Nat) (da cY cZ dc:Value) (dh cO:Int) (cM cP:Nat) (cQ cR cX cS cT cU:Int) (cV cW:Value) (p1:Int):Prop:=
 (eC pg R X0 w0 false 70 #[da,(I p1)] fun a b c=>
 eC pg R c b true 72 #[cY,(I p1)] fun d e g=>
 eC pg R g e true 69 #[a,d,(I p1)] fun h i j=>
 (ad pg j i (cB 38 3 cZ) fun k=>
 ad pg j i (binOp .add 3 (I p1) (I 1)) fun l=>
 ad pg j i (Builtin.min_ #[3,3] 3 #[k,l]) fun m=>
 eC pg R j i true 69 #[h,m,(I p1)] fun n o q=>
 ((il q o (I 0) n 6 5 fun r s t v y z=>
 ad pg z y (cB 71 3 dc) fun A=>
 ad pg z y (binOp .lss 3 t A) fun C=>
 un (aP C true v) fun D=>
 un (aP C true (I p1)) fun E=>
 aJ pg z y C true (vS (binOp .leq 3 D E)) fun F=>
 az pg z y (aQ C F (B false)) fun G=>
 (au G
 ((ad pg z y (dt 71 4 dc t) fun H=>
 ad pg z y (aT 205 0 0 1 H) fun L=>
 ad pg z y (ld1 9 L) fun M=>
 ad pg z y (lS 9 3 M) fun N=>
 ad pg z y (binOp .add 3 (I 1) N) fun O=>
 ad pg z y (dt 71 4 dc t) fun Q=>
 ad pg z y (aT 205 1 1 3 Q) fun S=>
 ad pg z y (aT 116 2 2 1 S) fun T=>
 ad pg z y (ld1 9 T) fun U=>
 ad pg z y (lS 9 3 U) fun V=>
 eC pg R z y false 69 #[v,O,(I p1)] fun Y Z a0=>
 eC pg R a0 Z true 69 #[Y,V,(I p1)] fun b0 c0 d0=>
 ((ad pg d0 c0 (binOp .add 3 t (I 1)) fun e0=>
 im r s e0 b0 c0 d0))))
 (((ad pg z y (binOp .add 3 v (I 1)) fun g0=>
 eC pg R z y true 74 #[(.agg #[(I dh),(I cO),(.float .f64 cM),(.float .f64 cP),(I cQ),(I cR),(I cX),(I cS),(I cT),(I cU),cV,cW]),(I p1)] fun h0 i0 j0=>
 eC pg R j0 i0 true 69 #[g0,h0,(I p1)] fun k0 l0 m0=>
 (fin R m0 l0 k0)))))))))
noncomputable def DA:bz:=⟨15,[(2,(pg.cellsOf 47))],[5,9],[0,1,4],[],[]⟩
def vl (_p0_0 _p0_1:Int) (_p0_2 _p0_3:Nat) (_p0_4 _p0_5 _p0_6 _p0_7 _p0_8 _p0_9:Int) (cn cj:Value) (p1:Int):Prop:=
 (eC pg R X0 w0 false 115 #[cn,(I p1)] fun a b c=>
 eC pg R c b true 116 #[cj,(I p1)] fun d e g=>
 eC pg R g e true 69 #[a,d,(I p1)] fun h i j=>
 (fin R j i h))
noncomputable def Ms:bz:=⟨98,[(1,(pg.cellsOf 49)),(2,(pg.cellsOf 49)),(4,(pg.cellsOf 34))],[6,13,14,15,16,17,22,23,24,25,26,27,32,33,34,35,36,37,38,43,44,45,46,47,52,53,54,55,60,61,65,66,67,68,71,72,73,77,78,81,87,88,89,90,96],[0,3,7,9,18,28,39,48,56,62,69,74,79,82,91,93],[],[]⟩
def Ce (aO aZ ba bA bN bQ bV b6 cI dg cn cj du da cY:Int) (cZ:Bool) (dc dh:Int) (cO cM cP cQ cR cX:Value) (cS cT:Int) (cU cV:Nat) (cW fI fJ fK fL fM:Int) (fN fO:Value):Prop:=
 (ad pg X0 w0 (dV 34 #[(I 0),(I 0),(I 0)] #[]) fun a=>
 un (aj (aa a)) fun b=>
 aF (ao (ab (aa a))==3) (aF (av (ab (aa a)) bu.one) ((((jn (fun (c:Value)=>
 (aF (cd c) (un (b7 c 0 36) fun d=>
 un (aj (aa d)) fun e=>
 aF (ao (ab (aa d))==36) (aF (av (ab (aa d)) bu.one) ((un (b7 e 0 36) fun g=>
 aF (av [e] cd) (fin R X0 w0 (aG #[g,(B true)])))))))) fun h=>
 ad pg X0 w0 (aH .eql 3 (.tmp 7) (.const (I 1)) (I aO) (I 1)) fun i=>
 (au i
 (ad pg X0 w0 (dV 32 #[(I 0),(I 0),(I 0)] #[]) fun j=>
 aF (cd b) (un (aj (aR (cz [(I aO),(I aZ),(I ba),(I bA),(I bN),(I bQ),(I bV),(I b6),(I cI),(I dg),(I cn),(I cj),(I du),(I da),(I cY),(B cZ),(I dc),(I dh),cO,cM,cP,cQ,cR,cX,(I cS),(I cT),(.float .f64 cU),(.float .f64 cV),(I cW),(I fI),(I fJ),(I fK),(I fL),(I fM),fN,fO] 3 (ab (aa j))))) fun k=>
 aF (ao (ab (aa j))==3) (aF (av (ab (aa j)) bu.one) (un (aj (aR (cz (ab (aa k)) 6 [(I 0)]))) fun l=>
 un (aj (aR (cz (ab (aa l)) 7 [(I 0)]))) fun m=>
 un (b7 b 0 3) fun n=>
 un (aj (aR (cz (ab (aa m)) 9 (ab (aa n))))) fun o=>
 aF (ao (ab (aa n))==3) (aF (av (ab (aa n)) bu.one) (un (aj (aR (cz (ab (aa o)) 18 [(.slice none 0 0)]))) fun q=>
 (h q)))))))
 (ad pg X0 w0 (aH .eql 3 (.tmp 7) (.const (I 2)) (I aO) (I 2)) fun r=>
 (au r
 (ad pg X0 w0 (dV 32 #[(I 0),(I 0),(I 0)] #[]) fun s=>
 aF (cd b) (un (aj (aR (cz [(I aO),(I aZ),(I ba),(I bA),(I bN),(I bQ),(I bV),(I b6),(I cI),(I dg),(I cn),(I cj),(I du),(I da),(I cY),(B cZ),(I dc),(I dh),cO,cM,cP,cQ,cR,cX,(I cS),(I cT),(.float .f64 cU),(.float .f64 cV),(I cW),(I fI),(I fJ),(I fK),(I fL),(I fM),fN,fO] 3 (ab (aa s))))) fun t=>
 aF (ao (ab (aa s))==3) (aF (av (ab (aa s)) bu.one) (un (aj (aR (cz (ab (aa t)) 6 [(I 0)]))) fun v=>
 un (aj (aR (cz (ab (aa v)) 8 [(I 0)]))) fun y=>
 un (b7 b 0 3) fun z=>
 un (aj (aR (cz (ab (aa y)) 9 (ab (aa z))))) fun A=>
 aF (ao (ab (aa z))==3) (aF (av (ab (aa z)) bu.one) (un (aj (aR (cz (ab (aa A)) 19 [(.slice none 0 0)]))) fun C=>
 un (aj (aR (cz (ab (aa C)) 22 [(.slice none 0 0)]))) fun D=>
 (h D)))))))
 (ad pg X0 w0 (aH .eql 3 (.tmp 7) (.const (I 3)) (I aO) (I 3)) fun E=>
 (au E
 (ad pg X0 w0 (dV 32 #[(I 0),(I 0),(I 0)] #[]) fun F=>
 aF (cd b) (un (aj (aR (cz [(I aO),(I aZ),(I ba),(I bA),(I bN),(I bQ),(I bV),(I b6),(I cI),(I dg),(I cn),(I cj),(I du),(I da),(I cY),(B cZ),(I dc),(I dh),cO,cM,cP,cQ,cR,cX,(I cS),(I cT),(.float .f64 cU),(.float .f64 cV),(I cW),(I fI),(I fJ),(I fK),(I fL),(I fM),fN,fO] 3 (ab (aa F))))) fun G=>
 aF (ao (ab (aa F))==3) (aF (av (ab (aa F)) bu.one) (un (aj (aR (cz (ab (aa G)) 6 [(I 0)]))) fun H=>
 un (aj (aR (cz (ab (aa H)) 7 [(I 0)]))) fun L=>
 un (b7 b 0 3) fun M=>
 un (aj (aR (cz (ab (aa L)) 9 (ab (aa M))))) fun N=>
 aF (ao (ab (aa M))==3) (aF (av (ab (aa M)) bu.one) (un (aj (aR (cz (ab (aa N)) 19 [(.slice none 0 0)]))) fun O=>
 un (aj (aR (cz (ab (aa O)) 20 [(.slice none 0 0)]))) fun Q=>
 un (aj (aR (cz (ab (aa Q)) 21 [(.slice none 0 0)]))) fun S=>
 (h S)))))))
 (ad pg X0 w0 (aH .eql 3 (.tmp 7) (.const (I 4)) (I aO) (I 4)) fun T=>
 (au T
 (ad pg X0 w0 (dV 32 #[(I 0),(I 0),(I 0)] #[]) fun U=>
 aF (cd b) (un (aj (aR (cz [(I aO),(I aZ),(I ba),(I bA),(I bN),(I bQ),(I bV),(I b6),(I cI),(I dg),(I cn),(I cj),(I du),(I da),(I cY),(B cZ),(I dc),(I dh),cO,cM,cP,cQ,cR,cX,(I cS),(I cT),(.float .f64 cU),(.float .f64 cV),(I cW),(I fI),(I fJ),(I fK),(I fL),(I fM),fN,fO] 3 (ab (aa U))))) fun V=>
 aF (ao (ab (aa U))==3) (aF (av (ab (aa U)) bu.one) (un (aj (aR (cz (ab (aa V)) 6 [(I 0)]))) fun Y=>
 un (aj (aR (cz (ab (aa Y)) 8 [(I 0)]))) fun Z=>
 un (b7 b 0 3) fun a0=>
 un (aj (aR (cz (ab (aa Z)) 9 (ab (aa a0))))) fun b0=>
 aF (ao (ab (aa a0))==3) (aF (av (ab (aa a0)) bu.one) (un (aj (aR (cz (ab (aa b0)) 22 [(.slice none 0 0)]))) fun c0=>
 (h c0)))))))
 (ad pg X0 w0 (aH .eql 3 (.tmp 7) (.const (I 5)) (I aO) (I 5)) fun d0=>
 (au d0
 (ad pg X0 w0 (dV 32 #[(I 0),(I 0),(I 0)] #[]) fun e0=>
 aF (cd b) (un (aj (aR (cz [(I aO),(I aZ),(I ba),(I bA),(I bN),(I bQ),(I bV),(I b6),(I cI),(I dg),(I cn),(I cj),(I du),(I da),(I cY),(B cZ),(I dc),(I dh),cO,cM,cP,cQ,cR,cX,(I cS),(I cT),(.float .f64 cU),(.float .f64 cV),(I cW),(I fI),(I fJ),(I fK),(I fL),(I fM),fN,fO] 3 (ab (aa e0))))) fun g0=>
 aF (ao (ab (aa e0))==3) (aF (av (ab (aa e0)) bu.one) (un (aj (aR (cz (ab (aa g0)) 6 [(I 0)]))) fun h0=>
 un (aj (aR (cz (ab (aa h0)) 15 [(B false)]))) fun i0=>
 un (b7 b 0 3) fun j0=>
 un (aj (aR (cz (ab (aa i0)) 9 (ab (aa j0))))) fun k0=>
 aF (ao (ab (aa j0))==3) (aF (av (ab (aa j0)) bu.one) (h k0))))))
 ((jn (fun (l0:Value)=>
 au l0
 (ad pg X0 w0 (dV 32 #[(I 0),(I 0),(I 0)] #[]) fun m0=>
 un (aj (aR (cz [(I aO),(I aZ),(I ba),(I bA),(I bN),(I bQ),(I bV),(I b6),(I cI),(I dg),(I cn),(I cj),(I du),(I da),(I cY),(B cZ),(I dc),(I dh),cO,cM,cP,cQ,cR,cX,(I cS),(I cT),(.float .f64 cU),(.float .f64 cV),(I cW),(I fI),(I fJ),(I fK),(I fL),(I fM),fN,fO] 3 (ab (aa m0))))) fun n0=>
 aF (ao (ab (aa m0))==3) (aF (av (ab (aa m0)) bu.one) (un (aj (aR (cz (ab (aa n0)) 6 [(I 0)]))) fun o0=>
 (h o0))))
 (ad pg X0 w0 (aH .eql 3 (.tmp 7) (.const (I 8)) (I aO) (I 8)) fun q0=>
 (au q0
 (aF (cd b) (un (b7 b 0 3) fun r0=>
 un (aj (aR (cz [(I aO),(I aZ),(I ba),(I bA),(I bN),(I bQ),(I 0),(I b6),(I cI),(I dg),(I cn),(I cj),(I du),(I da),(I cY),(B cZ),(I 0),(I 0),cO,cM,cP,cQ,cR,cX,(I cS),(I cT),(.float .f64 cU),(.float .f64 cV),(I cW),(I fI),(I fJ),(I fK),(I fL),(I fM),fN,fO] 9 (ab (aa r0))))) fun s0=>
 aF (ao (ab (aa r0))==3) (aF (av (ab (aa r0)) bu.one) (h s0))))
 (ad pg X0 w0 (aH .eql 3 (.tmp 7) (.const (I 9)) (I aO) (I 9)) fun t0=>
 (au t0
 ((h (.agg #[(I aO),(I aZ),(I ba),(I bA),(I bN),(I bQ),(I 0),(I b6),(I cI),(I dg),(I cn),(I cj),(I du),(I da),(I cY),(B cZ),(I 0),(I dh),cO,cM,cP,cQ,cR,(.slice none 0 0),(I cS),(I cT),(.float .f64 cU),(.float .f64 cV),(I cW),(I fI),(I fJ),(I fK),(I fL),(I fM),fN,fO])))
 (ad pg X0 w0 (aH .eql 3 (.tmp 7) (.const (I 10)) (I aO) (I 10)) fun v0=>
 (au v0
 (ad pg X0 w0 (dV 47 #[(I 0),(I 0),(.float .f64 0),(.float .f64 0),(I 0),(I 0),(I 0),(I 0),(I 0),(I 0),(.slice none 0 0),(.slice none 0 0)] #[]) fun y0=>
 un (aj (aR (cz [(I aO),(I aZ),(I ba),(I bA),(I bN),(I bQ),(I 0),(I b6),(I cI),(I dg),(I cn),(I cj),(I du),(I da),(I cY),(B cZ),(I dc),(I dh),cO,cM,cP,cQ,cR,cX,(I cS),(I cT),(.float .f64 cU),(.float .f64 cV),(I cW),(I fI),(I fJ),(I fK),(I fL),(I fM),fN,fO] 24 (ab (aa y0))))) fun z0=>
 aF (ao (ab (aa y0))==12) (aF (av (ab (aa y0)) bu.one) (h z0)))
 (ad pg X0 w0 (aH .eql 3 (.tmp 7) (.const (I 11)) (I aO) (I 11)) fun A0=>
 (au A0
 ((h (.agg #[(I aO),(I aZ),(I ba),(I bA),(I bN),(I bQ),(I 0),(I b6),(I cI),(I dg),(I cn),(I cj),(I du),(I da),(I cY),(B cZ),(I dc),(I dh),cO,cM,cP,cQ,cR,cX,(I cS),(I cT),(.float .f64 cU),(.float .f64 cV),(I cW),(I fI),(I fJ),(I fK),(I fL),(I fM),fN,fO])))
 (ad pg X0 w0 (aH .eql 3 (.tmp 7) (.const (I 12)) (I aO) (I 12)) fun C0=>
 (au C0
 (aF (cd b) (ad pg X0 w0 (dV 32 #[(I 0),(I 0),(I 0)] #[]) fun D0=>
 un (b7 b 0 3) fun E0=>
 un (aj (aR (cz [(I aO),(I aZ),(I ba),(I bA),(I bN),(I bQ),(I bV),(I b6),(I cI),(I dg),(I cn),(I cj),(I du),(I da),(I cY),(B cZ),(I dc),(I dh),cO,cM,cP,cQ,cR,cX,(I cS),(I cT),(.float .f64 cU),(.float .f64 cV),(I cW),(I fI),(I fJ),(I fK),(I fL),(I fM),fN,fO] 12 (ab (aa E0))))) fun F0=>
 aF (ao (ab (aa E0))==3) (aF (av (ab (aa E0)) bu.one) (un (aj (aR (cz (ab (aa F0)) 9 (ab (aa E0))))) fun G0=>
 aF (ao (ab (aa E0))==3) (aF (av (ab (aa E0)) bu.one) (un (aj (aR (cz (ab (aa G0)) 3 (ab (aa D0))))) fun H0=>
 aF (ao (ab (aa D0))==3) (aF (av (ab (aa D0)) bu.one) (un (aj (aR (cz (ab (aa H0)) 20 [(.slice none 0 0)]))) fun L0=>
 (h L0)))))))))
 (ad pg X0 w0 (aH .eql 3 (.tmp 7) (.const (I 13)) (I aO) (I 13)) fun M0=>
 (au M0
 ((h (.agg #[(I aO),(I aZ),(I ba),(I bA),(I bN),(I bQ),(I bV),(I b6),(I cI),(I dg),(I cn),(I cj),(I du),(I da),(I cY),(B cZ),(I dc),(I dh),cO,cM,cP,cQ,cR,cX,(I cS),(I cT),(.float .f64 cU),(.float .f64 cV),(I cW),(I fI),(I fJ),(I fK),(I fL),(I fM),fN,fO])))
 (ad pg X0 w0 (aH .eql 3 (.tmp 7) (.const (I 14)) (I aO) (I 14)) fun N0=>
 (au N0
 (aF (cd b) (un (b7 b 0 3) fun O0=>
 un (aj (aR (cz [(I aO),(I aZ),(I ba),(I bA),(I bN),(I bQ),(I bV),(I b6),(I cI),(I dg),(I cn),(I cj),(I du),(I da),(I cY),(B cZ),(I dc),(I dh),cO,cM,cP,cQ,cR,cX,(I cS),(I cT),(.float .f64 cU),(.float .f64 cV),(I cW),(I fI),(I fJ),(I fK),(I fL),(I fM),fN,fO] 9 (ab (aa O0))))) fun Q0=>
 aF (ao (ab (aa O0))==3) (aF (av (ab (aa O0)) bu.one) (h Q0))))
 (aF (av [(I aO),(I aZ),(I ba),(I bA),(I bN),(I bQ),(I bV),(I b6),(I cI),(I dg),(I cn),(I cj),(I du),(I da),(I cY),(B cZ),(I dc),(I dh),cO,cM,cP,cQ,cR,cX,(I cS),(I cT),(.float .f64 cU),(.float .f64 cV),(I cW),(I fI),(I fJ),(I fK),(I fL),(I fM),fN,fO] bu.one) ((fin R X0 w0 (aG #[(.agg #[(I aO),(I aZ),(I ba),(I bA),(I bN),(I bQ),(I bV),(I b6),(I cI),(I dg),(I cn),(I cj),(I du),(I da),(I cY),(B cZ),(I dc),(I dh),cO,cM,cP,cQ,cR,cX,(I cS),(I cT),(.float .f64 cU),(.float .f64 cV),(I cW),(I fI),(I fJ),(I fK),(I fL),(I fM),fN,fO]),(B false)]))))))))))))))))))) fun S0=>
 ad pg X0 w0 (aH .eql 3 (.tmp 7) (.const (I 6)) (I aO) (I 6)) fun T0=>
 (au T0
 (S0 T0)
 (ad pg X0 w0 (aH .eql 3 (.tmp 7) (.const (I 7)) (I aO) (I 7)) fun U0=>
 (S0 U0))))))))))))))))))))
noncomputable def SQ:bz:=⟨21,[],[],[0,2],[5,6,7,8,9,10,11,13,14,15,17,18,19],[]⟩
def Hn (p0:Int):Prop:=
 (eC pg R X0 w0 true 117 #[(I p0)] fun a b c=>
 un (aP a false (I p0)) fun d=>
 aJ pg c b a false (vS (binOp .gtr 3 d (I 20))) fun e=>
 un (aP a false e) fun g=>
 un (aP g true (I p0)) fun h=>
 aJ pg c b g true (vS (binOp .leq 3 h (I 22))) fun i=>
 aJ pg c b a false (aQ g i (B false)) fun j=>
 az pg c b (aQ a (B true) j) fun k=>
 un (aP k false (I p0)) fun l=>
 aJ pg c b k false (vS (aH .eql 3 (.tmp 14) (.const (I 31)) l (I 31))) fun m=>
 az pg c b (aQ k (B true) m) fun n=>
 un (aP n false (I p0)) fun o=>
 aJ pg c b n false (vS (aH .eql 3 (.tmp 18) (.const (I 32)) o (I 32))) fun q=>
 az pg c b (aQ n (B true) q) fun r=>
 (fin R c b r))
noncomputable def SR:bz:=⟨132,[(1,(pg.cellsOf 49)),(3,(pg.cellsOf 47))],[6,8,13,18,23,28,34,40,45,50,54,55,59,60,65,66,72,73,79,85,91,97,107,110,114,118,122,126],[0,2,4,5],[12,14,15,17,19,20,22,24,25,27,29,30,31,33,35,36,37,39,41,42,44,46,47,49,51,52,58,61,62,64,67,68,69,71,74,75,76,78,80,81,82,84,86,87,88,90,92,93,94,96,98,99,100,103,104,106,108,109,111,112,113,115,116,117,119,120,121,123,124,125,127,128,129,130],[]⟩
def Ho (_p0_0 _p0_1 _p0_2 bA bN bQ bV b6 cI dg cn cj du da cY:Int) (cZ:Bool) (dc dh:Int) (cO cM cP cQ cR cX:Value) (cS cT:Int) (cU cV:Nat) (cW fI fJ fK fL fM:Int) (fN fO:Value):Prop:=
 (aF (av [(I cS),(I cT),(.float .f64 cU),(.float .f64 cV),(I cW),(I fI),(I fJ),(I fK),(I fL),(I fM),fN,fO] bu.one) ((ad pg X0 w0 (dV 32 #[(I 0),(I 0),(I 0)] #[]) fun a=>
 ad pg X0 w0 (aH .eql 32 (.tmp 9) (.tmp 10) (.agg #[(I bA),(I bN),(I bQ)]) a) fun b=>
 un (aP b true (I bV)) fun c=>
 aJ pg X0 w0 b true (vS (aH .eql 3 (.tmp 14) (.const (I 0)) c (I 0))) fun d=>
 az pg X0 w0 (aQ b d (B false)) fun e=>
 un (aP e true (I b6)) fun g=>
 aJ pg X0 w0 e true (vS (aH .eql 3 (.tmp 19) (.const (I 0)) g (I 0))) fun h=>
 az pg X0 w0 (aQ e h (B false)) fun i=>
 un (aP i true (I cI)) fun j=>
 aJ pg X0 w0 i true (vS (aH .eql 27 (.tmp 24) (.const (I 0)) j (I 0))) fun k=>
 az pg X0 w0 (aQ i k (B false)) fun l=>
 un (aP l true (.agg #[(I dg),(I cn),(I cj)])) fun m=>
 aJ pg X0 w0 l true (vS (dV 34 #[(I 0),(I 0),(I 0)] #[])) fun n=>
 aJ pg X0 w0 l true (vS (aH .eql 34 (.tmp 29) (.tmp 30) m n)) fun o=>
 az pg X0 w0 (aQ l o (B false)) fun q=>
 un (aP q true (.agg #[(I du),(I da),(I cY)])) fun r=>
 aJ pg X0 w0 q true (vS (dV 34 #[(I 0),(I 0),(I 0)] #[])) fun s=>
 aJ pg X0 w0 q true (vS (aH .eql 34 (.tmp 35) (.tmp 36) r s)) fun t=>
 az pg X0 w0 (aQ q t (B false)) fun v=>
 un (aP v true (B cZ)) fun y=>
 aJ pg X0 w0 v true (vS (aX bm y)) fun z=>
 az pg X0 w0 (aQ v z (B false)) fun A=>
 un (aP A true (I dc)) fun C=>
 aJ pg X0 w0 A true (vS (aH .eql 3 (.tmp 46) (.const (I 0)) C (I 0))) fun D=>
 az pg X0 w0 (aQ A D (B false)) fun E=>
 un (aP E true (I dh)) fun F=>
 aJ pg X0 w0 E true (vS (aH .eql 3 (.tmp 51) (.const (I 0)) F (I 0))) fun G=>
 az pg X0 w0 (aQ E G (B false)) fun H=>
 (ad pg X0 w0 (aH .eql 3 (.tmp 56) (.const (I 0)) (I cS) (I 0)) fun L=>
 un (aP L true (I cT)) fun M=>
 aJ pg X0 w0 L true (vS (aH .eql 3 (.tmp 61) (.const (I 0)) M (I 0))) fun N=>
 az pg X0 w0 (aQ L N (B false)) fun O=>
 un (aP O true (.float .f64 cU)) fun Q=>
 jn (fun (S:Value) (T:World) (U:XS)=>
 aJ pg U T O true (vS (aH .eql 208 (.tmp 68) (.const (aU bq 0)) S (aU bq 0))) fun V=>
 az pg U T (aQ O V (B false)) fun Y=>
 un (aP Y true (.float .f64 cV)) fun Z=>
 jn (fun (a0:Value) (b0:World) (c0:XS)=>
 aJ pg c0 b0 Y true (vS (aH .eql 208 (.tmp 75) (.const (aU bq 0)) a0 (aU bq 0))) fun d0=>
 az pg c0 b0 (aQ Y d0 (B false)) fun e0=>
 un (aP e0 true (.agg #[(I cW),(I fI),(I fJ)])) fun g0=>
 aJ pg c0 b0 e0 true (vS (dV 34 #[(I 0),(I 0),(I 0)] #[])) fun h0=>
 aJ pg c0 b0 e0 true (vS (aH .eql 34 (.tmp 80) (.tmp 81) g0 h0)) fun i0=>
 az pg c0 b0 (aQ e0 i0 (B false)) fun j0=>
 un (aP j0 true (.agg #[(I fK),(I fL),(I fM)])) fun k0=>
 aJ pg c0 b0 j0 true (vS (dV 34 #[(I 0),(I 0),(I 0)] #[])) fun l0=>
 aJ pg c0 b0 j0 true (vS (aH .eql 34 (.tmp 86) (.tmp 87) k0 l0)) fun m0=>
 az pg c0 b0 (aQ j0 m0 (B false)) fun n0=>
 un (aP n0 true fN) fun o0=>
 aJ pg c0 b0 n0 true (vS (cB 44 3 o0)) fun q0=>
 aJ pg c0 b0 n0 true (vS (aH .eql 3 (.tmp 93) (.const (I 0)) q0 (I 0))) fun r0=>
 az pg c0 b0 (aQ n0 r0 (B false)) fun s0=>
 un (aP s0 true fO) fun t0=>
 aJ pg c0 b0 s0 true (vS (cB 45 3 t0)) fun v0=>
 aJ pg c0 b0 s0 true (vS (aH .eql 3 (.tmp 99) (.const (I 0)) v0 (I 0))) fun y0=>
 az pg c0 b0 (aQ s0 y0 (B false)) fun z0=>
 (un (aP H true z0) fun A0=>
 az pg c0 b0 (aQ H A0 (B false)) fun C0=>
 un (aP C0 true cO) fun D0=>
 aJ pg c0 b0 C0 true (vS (cB 35 3 D0)) fun E0=>
 un (aP C0 true cM) fun F0=>
 aJ pg c0 b0 C0 true (vS (cB 36 3 F0)) fun G0=>
 aJ pg c0 b0 C0 true (vS (binOp .add 3 E0 G0)) fun H0=>
 un (aP C0 true cP) fun L0=>
 aJ pg c0 b0 C0 true (vS (cB 37 3 L0)) fun M0=>
 aJ pg c0 b0 C0 true (vS (binOp .add 3 H0 M0)) fun N0=>
 un (aP C0 true cQ) fun O0=>
 aJ pg c0 b0 C0 true (vS (cB 38 3 O0)) fun Q0=>
 aJ pg c0 b0 C0 true (vS (binOp .add 3 N0 Q0)) fun S0=>
 un (aP C0 true cR) fun T0=>
 aJ pg c0 b0 C0 true (vS (cB 39 3 T0)) fun U0=>
 aJ pg c0 b0 C0 true (vS (binOp .add 3 S0 U0)) fun V0=>
 un (aP C0 true cX) fun Y0=>
 aJ pg c0 b0 C0 true (vS (cB 40 3 Y0)) fun Z0=>
 aJ pg c0 b0 C0 true (vS (binOp .add 3 V0 Z0)) fun a1=>
 aJ pg c0 b0 C0 true (vS (aH .eql 3 (.tmp 129) (.const (I 0)) a1 (I 0))) fun b1=>
 az pg c0 b0 (aQ C0 b1 (B false)) fun c1=>
 (fin R c0 b0 c1))) fun d1=>
 (gE Y true (eC pg R U T true 118 #[Z] d1) (d1 undef T U))) fun e1=>
 (gE O true (eC pg R X0 w0 true 118 #[Q] e1) (e1 undef w0 X0))))))
noncomputable def Nv:bz:=⟨95,[(1,(pg.cellsOf 49))],[3,17,21,26,31,36,42,46,51,57,61,66,67,68,70,76,81,83,85,87,92],[0,2,4,5,15,40,55,74,79,90],[20,22,23,25,27,28,30,32,33,35,37,38,45,47,48,50,52,53,60,62,63,65,69,71,72],[]⟩
def DB (aO aZ ba bA bN bQ bV b6 cI dg cn cj du da cY:Int) (cZ:Bool) (dc dh:Int) (cO cM cP cQ cR cX:Value) (cS cT:Int) (cU cV:Nat) (cW fI fJ fK fL fM:Int) (fN fO:Value):Prop:=
 (((jn (fun (a:Value)=>
 au a
 (eC pg R X0 w0 true 119 #[(.agg #[(I aO),(I aZ),(I ba),(I bA),(I bN),(I bQ),(I bV),(I b6),(I cI),(I dg),(I cn),(I cj),(I du),(I da),(I cY),(B cZ),(I dc),(I dh),cO,cM,cP,cQ,cR,cX,(I cS),(I cT),(.float .f64 cU),(.float .f64 cV),(I cW),(I fI),(I fJ),(I fK),(I fL),(I fM),fN,fO])] fun b c d=>
 (fin R d c b))
 (ad pg X0 w0 (aH .eql 3 (.tmp 4) (.const (I 8)) (I aO) (I 8)) fun e=>
 (au e
 (eC pg R X0 w0 true 117 #[(I bV)] fun g h i=>
 un (aP g true (I dc)) fun j=>
 aJ pg i h g true (vS (binOp .geq 3 j (I 1))) fun k=>
 az pg i h (aQ g k (B false)) fun l=>
 un (aP l true (I dh)) fun m=>
 aJ pg i h l true (vS (binOp .geq 3 m (I 0))) fun n=>
 az pg i h (aQ l n (B false)) fun o=>
 un (aP o true (I dh)) fun q=>
 aJ pg i h o true (vS (binOp .leq 3 q (I 8))) fun r=>
 az pg i h (aQ o r (B false)) fun s=>
 un (aP s true (.agg #[(I dg),(I cn),(I cj)])) fun t=>
 jn (fun (v:Value) (y:World) (z:XS)=>
 az pg z y (aQ s v (B false)) fun A=>
 (fin R z y A)) fun C=>
 (gE s true (eC pg R i h true 57 #[t] C) (C undef h i)))
 (ad pg X0 w0 (aH .eql 3 (.tmp 4) (.const (I 9)) (I aO) (I 9)) fun D=>
 (au D
 (eC pg R X0 w0 true 117 #[(I bV)] fun E F G=>
 un (aP E true (I dc)) fun H=>
 aJ pg G F E true (vS (binOp .geq 3 H (I 1))) fun L=>
 az pg G F (aQ E L (B false)) fun M=>
 un (aP M true cX) fun N=>
 jn (fun (O:Value) (Q:World) (S:XS)=>
 az pg S Q (aQ M O (B false)) fun T=>
 (fin R S Q T)) fun U=>
 (gE M true (eC pg R G F true 120 #[N] U) (U undef F G)))
 (ad pg X0 w0 (aH .eql 3 (.tmp 4) (.const (I 10)) (I aO) (I 10)) fun V=>
 (au V
 (eC pg R X0 w0 true 117 #[(I bV)] fun Y Z a0=>
 un (aP Y true (.agg #[(I cS),(I cT),(.float .f64 cU),(.float .f64 cV),(I cW),(I fI),(I fJ),(I fK),(I fL),(I fM),fN,fO])) fun b0=>
 jn (fun (c0:Value) (d0:World) (e0:XS)=>
 az pg e0 d0 (aQ Y c0 (B false)) fun g0=>
 un (aP g0 true (I cS)) fun h0=>
 un (aP g0 true (I bV)) fun i0=>
 aJ pg e0 d0 g0 true (vS (aH .eql 3 (.tmp 69) (.tmp 71) h0 i0)) fun j0=>
 az pg e0 d0 (aQ g0 j0 (B false)) fun k0=>
 (fin R e0 d0 k0)) fun l0=>
 (gE Y true (eC pg R a0 Z true 121 #[b0] l0) (l0 undef Z a0)))
 (ad pg X0 w0 (aH .eql 3 (.tmp 4) (.const (I 11)) (I aO) (I 11)) fun m0=>
 (au m0
 (eC pg R X0 w0 true 117 #[(I bV)] fun n0 o0 q0=>
 (fin R q0 o0 n0))
 (ad pg X0 w0 (aH .eql 3 (.tmp 4) (.const (I 12)) (I aO) (I 12)) fun r0=>
 (au r0
 (eC pg R X0 w0 true 122 #[(.agg #[(I du),(I da),(I cY)]),(.agg #[(I dg),(I cn),(I cj)]),(.agg #[(I bA),(I bN),(I bQ)]),cP] fun s0 t0 v0=>
 (fin R v0 t0 s0))
 (ad pg X0 w0 (aH .eql 3 (.tmp 4) (.const (I 14)) (I aO) (I 14)) fun y0=>
 (au y0
 (eC pg R X0 w0 true 57 #[(.agg #[(I dg),(I cn),(I cj)])] fun z0 A0 C0=>
 (fin R C0 A0 z0))
 (fin R X0 w0 (B true))))))))))))))) fun D0=>
 ad pg X0 w0 (aH .eql 3 (.tmp 4) (.const (I 1)) (I aO) (I 1)) fun E0=>
 (au E0
 (D0 E0)
 (ad pg X0 w0 (aH .eql 3 (.tmp 4) (.const (I 2)) (I aO) (I 2)) fun F0=>
 (au F0
 (D0 F0)
 (ad pg X0 w0 (aH .eql 3 (.tmp 4) (.const (I 3)) (I aO) (I 3)) fun G0=>
 (au G0
 (D0 G0)
 (ad pg X0 w0 (aH .eql 3 (.tmp 4) (.const (I 4)) (I aO) (I 4)) fun H0=>
 (au H0
 (D0 H0)
 (ad pg X0 w0 (aH .eql 3 (.tmp 4) (.const (I 5)) (I aO) (I 5)) fun L0=>
 (au L0
 (D0 L0)
 (ad pg X0 w0 (aH .eql 3 (.tmp 4) (.const (I 6)) (I aO) (I 6)) fun M0=>
 (au M0
 (D0 M0)
 (ad pg X0 w0 (aH .eql 3 (.tmp 4) (.const (I 7)) (I aO) (I 7)) fun N0=>
 (D0 N0))))))))))))))))
noncomputable def I9:bz:=⟨145,[(5,(pg.cellsOf 73)),(6,(pg.cellsOf 158)),(10,(pg.cellsOf 182)),(11,(pg.cellsOf 184))],[28,37,38,43,44,55,68,70,72,74,76,89,98,102,106,107,116,118,120,122,123,134],[0,1,2,7,8,12,18,29,30,45,46,47,48,62,82,111,127,139],[101,103,105,108,109,110],[47]⟩
def zT (p0:Value) (p1 gj gB gC qY uE uF uG CJ CK CL:Int) (wO:Bool) (yv:Int) (yw:Nat) (uj uk yy yz:Value) (wP yA:Int) (yB yC:Nat) (yD yE yF wQ wR wS:Int) (yG rQ:Value):Prop:=
 (eC pg R X0 w0 true 123 #[p0,(I p1),(.agg #[(I gj),(I gB),(I gC),(I qY),(I uE),(I uF),(I uG),(I CJ),(I CK),(I CL),(B wO),(I yv),(.float .f64 yw),uj,uk,yy,yz,(I wP),(I yA),(.float .f64 yB),(.float .f64 yC),(I yD),(I yE),(I yF),(I wQ),(I wR),(I wS),yG,rQ])] fun a b c=>
 (ad pg c b (aH .neq 27 (.tmp 17) (.const (I 0)) a (I 0)) fun d=>
 (au d
 (ad pg c b (dV 158 #[(I 0),(I 0),(I 0),(I 0),(I 0),(I 0),(I 0),(I 0),(I 0),(.slice none 0 0),(I 0),(I 0),(I 0),(I 0)] #[]) fun e=>
 un (aj (aa e)) fun g=>
 aF (ao (ab (aa e))==14) (aF (av (ab (aa e)) bu.one) ((un (b7 g 0 14) fun h=>
 aF (av [g] cd) (fin R c b (aG #[h,a]))))))
 ((az pg c b (aM p0) fun i=>
 ad pg c b (aT 174 1 1 1 i) fun j=>
 ad pg c b (ld1 3 j) fun k=>
 ad pg c b (binOp .add 3 k (I 1)) fun l=>
 az pg c b (aM p0) fun m=>
 ad pg c b (aT 174 1 1 1 m) fun n=>
 eU pg R c b true (st1 3 1 n l) fun _ o q=>
 (((jn (fun (r:World) (s:XS)=>
 (ad pg s r (dV 158 #[(I 0),(I 0),(I 0),(I 0),(I 0),(I 0),(I 0),(I 0),(I 0),(.slice none 0 0),(I 0),(I 0),(I 0),(I 0)] #[]) fun t=>
 un (aj (aa t)) fun v=>
 aF (ao (ab (aa t))==14) (aF (av (ab (aa t)) bu.one) ((un (b7 v 0 14) fun y=>
 aF (av [v] cd) (fin R s r (aG #[y,(I 0)]))))))) fun z=>
 ad pg q o (aH .eql 3 (.tmp 29) (.const (I 1)) (I gj) (I 1)) fun A=>
 (au A
 (az pg q o (aM p0) fun C=>
 ad pg q o (aT 174 2 2 3 C) fun D=>
 ad pg q o (ew 34 3 D) fun E=>
 eC pg R q o true 31 #[E,(.agg #[(I wQ),(I wR),(I wS)])] fun F G H=>
 az pg H G (aM p0) fun L=>
 ad pg H G (aT 174 2 2 3 L) fun M=>
 eU pg R H G true (st1 34 3 M F) fun _ N O=>
 (ad pg O N (cB 45 3 rQ) fun Q=>
 (gp O N (I 0) 47 fun S T U V Y=>
 ad pg Y V (binOp .lss 3 U Q) fun Z=>
 (au Z
 ((ad pg Y V (dt 45 8 rQ U) fun a0=>
 ad pg Y V (ew 182 8 a0) fun b0=>
 un (aj (aa b0)) fun c0=>
 aF (ao (ab (aa b0))==8) (aF (av (ab (aa b0)) bu.one) ((az pg Y V (aM p0) fun d0=>
 ad pg Y V (aT 174 3 5 1 d0) fun e0=>
 ad pg Y V (ld1 172 e0) fun g0=>
 aF (cd c0) (un (b7 c0 0 8) fun h0=>
 eC pg R Y V false 124 #[h0] fun i0 j0 k0=>
 un (cellOf i0 0) fun l0=>
 un (cellOf i0 1) fun m0=>
 un (cellOf i0 2) fun n0=>
 un (cellOf i0 3) fun o0=>
 un (cellOf i0 4) fun q0=>
 un (cellOf i0 5) fun r0=>
 un (cellOf i0 6) fun s0=>
 un (cellOf i0 7) fun t0=>
 ad pg k0 j0 (dV 184 #[l0,m0,n0,o0,q0,r0,s0,t0,(I p1)] #[(0,i0),(1,(I p1))]) fun v0=>
 un (b7 c0 0 3) fun y0=>
 eU pg R k0 j0 true (dE 172 g0 y0 v0) fun _ z0 A0=>
 ((ad pg A0 z0 (binOp .add 3 U (I 1)) fun C0=>
 gm S T C0 z0 A0))))))))
 (z V Y)))))
 (ad pg q o (aH .eql 3 (.tmp 29) (.const (I 3)) (I gj) (I 3)) fun D0=>
 (au D0
 (az pg q o (aM p0) fun E0=>
 ad pg q o (aT 174 3 5 1 E0) fun F0=>
 ad pg q o (ld1 172 F0) fun G0=>
 ad pg q o (dV 182 #[(I gB),(I gC),(I qY),(I uE),(I uF),(I uG),uj,uk] #[(0,(.agg #[(I gB),(I gC),(I qY)])),(1,(.agg #[(I uE),(I uF),(I uG)])),(2,uj),(3,uk)]) fun H0=>
 eC pg R q o false 124 #[H0] fun L0 M0 N0=>
 un (cellOf L0 0) fun O0=>
 un (cellOf L0 1) fun Q0=>
 un (cellOf L0 2) fun S0=>
 un (cellOf L0 3) fun T0=>
 un (cellOf L0 4) fun U0=>
 un (cellOf L0 5) fun V0=>
 un (cellOf L0 6) fun Y0=>
 un (cellOf L0 7) fun Z0=>
 ad pg N0 M0 (dV 184 #[O0,Q0,S0,T0,U0,V0,Y0,Z0,(I p1)] #[(0,L0),(1,(I p1))]) fun a1=>
 eU pg R N0 M0 true (dE 172 G0 (.agg #[(I gB),(I gC),(I qY)]) a1) fun _ b1 c1=>
 (z b1 c1))
 (ad pg q o (aH .eql 3 (.tmp 29) (.const (I 4)) (I gj) (I 4)) fun d1=>
 (au d1
 (az pg q o (aM p0) fun e1=>
 ad pg q o (aT 174 3 5 1 e1) fun g1=>
 ad pg q o (ld1 172 g1) fun h1=>
 ad pg q o (ck 172 h1 (.agg #[(I gB),(I gC),(I qY)]) true) fun i1=>
 ad pg q o (aC i1 0) fun j1=>
 ad pg q o (aC i1 1) fun k1=>
 un (aj (aa j1)) fun l1=>
 aF (ao (ab (aa j1))==9) (aF (av (ab (aa j1)) bu.one) ((az pg q o (aM p0) fun m1=>
 ad pg q o (aT 174 3 5 1 m1) fun n1=>
 ad pg q o (ld1 172 n1) fun o1=>
 eV pg R q o true (iQ #[172,32] 0 #[o1,(.agg #[(I gB),(I gC),(I qY)])]) fun _ q1 r1=>
 (un (aP k1 true (B wO)) fun s1=>
 az pg r1 q1 (aQ k1 s1 (B false)) fun t1=>
 aF (cd l1) (un (cellOf l1 7) fun v1=>
 un (aP t1 true v1) fun y1=>
 aJ pg r1 q1 t1 true (vS (cB 37 3 y1)) fun z1=>
 aJ pg r1 q1 t1 true (vS (binOp .gtr 3 z1 (I 0))) fun A1=>
 az pg r1 q1 (aQ t1 A1 (B false)) fun C1=>
 (au C1
 (az pg r1 q1 (aM p0) fun D1=>
 ad pg r1 q1 (aT 174 0 0 1 D1) fun E1=>
 ad pg r1 q1 (ld1 3 E1) fun F1=>
 aF (cd l1) (un (cellOf l1 8) fun G1=>
 ad pg r1 q1 (dV 156 #[F1,G1,(I gB),(I gC),(I qY),(I uE),(I uF),(I uG),v1] #[(0,F1),(1,G1),(2,(.agg #[(I gB),(I gC),(I qY)])),(3,(.agg #[(I uE),(I uF),(I uG)])),(4,v1)]) fun H1=>
 un (cellOf H1 0) fun L1=>
 un (cellOf H1 1) fun M1=>
 un (cellOf H1 2) fun N1=>
 un (cellOf H1 3) fun O1=>
 un (cellOf H1 4) fun Q1=>
 un (cellOf H1 5) fun S1=>
 un (cellOf H1 6) fun T1=>
 un (cellOf H1 7) fun U1=>
 un (cellOf H1 8) fun V1=>
 ad pg r1 q1 (dV 158 #[(I 1),L1,M1,N1,O1,Q1,S1,T1,U1,V1,(I 0),(I 0),(I 0),(I 0)] #[(0,(I 1)),(1,H1)]) fun Y1=>
 un (aj (aa Y1)) fun Z1=>
 aF (ao (ab (aa Y1))==14) (aF (av (ab (aa Y1)) bu.one) ((un (b7 Z1 0 14) fun a2=>
 aF (av [Z1] cd) (fin R r1 q1 (aG #[a2,(I 0)])))))))
 (z q1 r1))))))))
 (ad pg q o (aH .eql 3 (.tmp 29) (.const (I 5)) (I gj) (I 5)) fun b2=>
 (au b2
 (az pg q o (aM p0) fun c2=>
 ad pg q o (aT 174 2 2 3 c2) fun d2=>
 ad pg q o (ew 34 3 d2) fun e2=>
 eC pg R q o true 31 #[e2,(.agg #[(I uE),(I uF),(I uG)])] fun g2 h2 i2=>
 az pg i2 h2 (aM p0) fun j2=>
 ad pg i2 h2 (aT 174 2 2 3 j2) fun k2=>
 eU pg R i2 h2 true (st1 34 3 k2 g2) fun _ l2 m2=>
 (z l2 m2))
 (ad pg q o (aH .eql 3 (.tmp 29) (.const (I 6)) (I gj) (I 6)) fun n2=>
 (au n2
 (eC pg R q o true 125 #[p0,(.agg #[(I gj),(I gB),(I gC),(I qY),(I uE),(I uF),(I uG),(I CJ),(I CK),(I CL),(B wO),(I yv),(.float .f64 yw),uj,uk,yy,yz,(I wP),(I yA),(.float .f64 yB),(.float .f64 yC),(I yD),(I yE),(I yF),(I wQ),(I wR),(I wS),yG,rQ])] fun o2 q2 r2=>
 un (aj (aa o2)) fun s2=>
 aF (ao (ab (aa o2))==14) (aF (av (ab (aa o2)) bu.one) ((un (b7 s2 0 14) fun t2=>
 aF (av [s2] cd) (fin R r2 q2 (aG #[t2,(I 0)]))))))
 (z o q))))))))))))))))))
noncomputable def DC:bz:=⟨51,[(3,(pg.cellsOf 156)),(4,(pg.cellsOf 102))],[10,15,17,19,23],[0,1,34],[26,27,28,29,30,31,32,33],[]⟩
def uX (p0:Value) (cm cu cq eJ ff fH fi fj:Int) (ij:Value):Prop:=
 (az pg X0 w0 (aM p0) fun a=>
 ad pg X0 w0 (aT 93 8 13 3 a) fun b=>
 ad pg X0 w0 (ew 34 3 b) fun c=>
 eC pg R X0 w0 true 31 #[c,(.agg #[(I fH),(I fi),(I fj)])] fun d e g=>
 az pg g e (aM p0) fun h=>
 ad pg g e (aT 93 8 13 3 h) fun i=>
 eU pg R g e true (st1 34 3 i d) fun _ j k=>
 (ad pg k j (dV 102 #[(I cm),(I cu),(I fH),(I fi),(I fj)] #[(0,(I cm)),(1,(I cu)),(2,(.agg #[(I fH),(I fi),(I fj)]))]) fun l=>
 un (aj (aa l)) fun m=>
 aF (ao (ab (aa l))==5) (aF (av (ab (aa l)) bu.one) ((eC pg R k j true 34 #[p0,(.agg #[(I fH),(I fi),(I fj)])] fun n o q=>
 un (aP n true p0) fun r=>
 aJ pg q o n true (aM r) fun s=>
 aJ pg q o n true (vS (aT 93 7 12 1 s)) fun t=>
 aJ pg q o n true (vS (ld1 91 t)) fun v=>
 aF (cd m) (un (b7 m 0 5) fun y=>
 un (aP n true y) fun z=>
 jn (fun (A:Value) (C:World) (D:XS)=>
 aJ pg D C n true (vS (aX bm A)) fun E=>
 az pg D C (aQ n E (B false)) fun F=>
 (au F
 (az pg D C (aM p0) fun G=>
 ad pg D C (aT 93 7 12 1 G) fun H=>
 ad pg D C (ld1 91 H) fun L=>
 aF (cd m) (eV pg R D C false (gq 91 102 5 1 #[(0,y)]) fun M N O=>
 eV pg R O N true (fW 91 102 5 40 91 L M) fun Q S T=>
 az pg T S (aM p0) fun U=>
 ad pg T S (aT 93 7 12 1 U) fun V=>
 eU pg R T S true (st1 91 1 V Q) fun _ Y Z=>
 (az pg Z Y (aM p0) fun a0=>
 ad pg Z Y (aT 93 2 5 1 a0) fun b0=>
 ad pg Z Y (ld1 80 b0) fun c0=>
 eC pg R Z Y true 127 #[c0,(.agg #[(I cm),(I cu),(I cq),(I eJ),(I ff),(I fH),(I fi),(I fj),ij])] fun _ d0 e0=>
 fin R e0 d0 (aG #[]))))
 (fin R D C (aG #[])))) fun g0=>
 (gE n true (eC pg R q o true 126 #[v,z] g0) (g0 undef o q))))))))
noncomputable def BM:bz:=⟨33,[(5,(pg.cellsOf 34)),(7,(pg.cellsOf 34))],[],[0,1,2,6,8,18,21],[],[]⟩
def tf (p0:Value) (p1 gj gB gC:Int):Prop:=
 (az pg X0 w0 (aM p0) fun a=>
 ad pg X0 w0 (aT 128 3 5 1 a) fun b=>
 ad pg X0 w0 (ld1 126 b) fun c=>
 ad pg X0 w0 (ck 126 c (I p1) true) fun d=>
 ad pg X0 w0 (aC d 0) fun e=>
 ad pg X0 w0 (aC d 1) fun g=>
 un (aj (aa e)) fun h=>
 aF (ao (ab (aa e))==3) (aF (av (ab (aa e)) bu.one) ((ad pg X0 w0 (aX bm g) fun i=>
 (au i
 (fin R X0 w0 (I 8))
 (eC pg R X0 w0 true 57 #[(.agg #[(I gj),(I gB),(I gC)])] fun j k l=>
 ad pg l k (aX bm j) fun m=>
 (au m
 (fin R l k (I 17))
 (((az pg l k (aM p0) fun n=>
 ad pg l k (aT 128 3 5 1 n) fun o=>
 ad pg l k (ld1 126 o) fun q=>
 aF (cd h) (un (b7 h 0 3) fun r=>
 eC pg R l k false 31 #[r,(.agg #[(I gj),(I gB),(I gC)])] fun s t v=>
 eU pg R v t true (dE 126 q (I p1) s) fun _ y z=>
 (fin R z y (I 0)))))))))))))
def vm (p0:Value):Prop:=
 (az pg X0 w0 (aM p0) fun a=>
 ad pg X0 w0 (aT 174 2 2 3 a) fun b=>
 ad pg X0 w0 (ew 34 3 b) fun c=>
 un (aj (aa c)) fun d=>
 aF (ao (ab (aa c))==3) (aF (av (ab (aa c)) bu.one) ((az pg X0 w0 (aM p0) fun e=>
 ad pg X0 w0 (aT 174 3 5 1 e) fun g=>
 ad pg X0 w0 (ld1 172 g) fun h=>
 eV pg R X0 w0 true (Instr.range 172 h) fun i j k=>
 (gp k j d 3 fun l m n o q=>
 eV pg R q o true (Instr.next i false 0) fun r s t=>
 ad pg t s (aC r 0) fun v=>
 (au v
 (((jn (fun (y:Value) (z:World) (A:XS)=>
 gm l m y z A) fun C=>
 eV pg R t s true (Instr.entry i) fun D E F=>
 ad pg F E (aC D 1) fun G=>
 un (aj (aa G)) fun H=>
 aF (ao (ab (aa G))==9) (aF (av (ab (aa G)) bu.one) ((aF (cd H) (un (b7 H 3 3) fun L=>
 eC pg R F E true 128 #[L] fun M N O=>
 ad pg O N (aC M 0) fun Q=>
 ad pg O N (aC M 1) fun _=>
 un (aj (aa Q)) fun S=>
 aF (ao (ab (aa Q))==3) (aF (av (ab (aa Q)) bu.one) ((aF (cd S) (aF (cd n) (un (b7 S 0 3) fun T=>
 un (b7 n 0 3) fun U=>
 eC pg R O N true 84 #[T,U] fun V Y Z=>
 ad pg Z Y (binOp .lss 3 V (I 0)) fun a0=>
 (au a0
 (aF (cd S) (aF (cd n) (un (aj (aa T)) fun b0=>
 aF (ao (ab (aa T))==3) (aF (av (ab (aa T)) bu.one) (C b0 Y Z)))))
 (C n Y Z))))))))))))))
 (((aF (cd n) (un (b7 n 0 3) fun c0=>
 un (aj (aa c0)) fun d0=>
 aF (ao (ab (aa c0))==3) (aF (av (ab (aa c0)) bu.one) (un (b7 d0 0 3) fun e0=>
 aF (av [d0] cd) (fin R t s e0)))))))))))))
def vX (p0:Value):Prop:=
 (eC pg R X0 w0 true 96 #[p0] fun a b c=>
 ad pg c b (aC a 0) fun d=>
 ad pg c b (aC a 1) fun e=>
 un (aj (aa d)) fun g=>
 aF (ao (ab (aa d))==3) (aF (av (ab (aa d)) bu.one) ((ad pg c b (aX bm e) fun h=>
 (au h
 (fin R c b (.slice none 0 0))
 ((az pg c b (aM p0) fun i=>
 ad pg c b (aT 128 0 0 1 i) fun j=>
 ad pg c b (ld1 125 j) fun k=>
 aF (cd g) (un (b7 g 0 3) fun l=>
 eC pg R c b true 129 #[k,l] fun m n o=>
 ((jn (fun (q:World) (r:XS)=>
 (fin R r q m)) fun s=>
 ad pg o n (cB 63 3 m) fun t=>
 ad pg o n (binOp .gtr 3 t (I 0)) fun v=>
 (au v
 (ad pg o n (cB 63 3 m) fun y=>
 ad pg o n (binOp .sub 3 y (I 1)) fun z=>
 ad pg o n (dt 63 7 m z) fun A=>
 ad pg o n (aT 69 1 3 3 A) fun C=>
 ad pg o n (ew 34 3 C) fun D=>
 az pg o n (aM p0) fun E=>
 ad pg o n (aT 128 2 2 3 E) fun F=>
 eU pg R o n true (st1 34 3 F D) fun _ G H=>
 (s G H))
 (s n o))))))))))))
noncomputable def Nw:bz:=⟨37,[(2,(pg.cellsOf 34)),(3,(pg.cellsOf 34))],[7,9,11,13,20,22,25,27],[0,1,4,5,6,15,19,29,33],[],[]⟩
def DD (aO aZ ba cm cu cq:Int):Prop:=
 (((jn (fun (a b:Value)=>
 (ad pg X0 w0 (binOp .lss 3 a b) fun c=>
 (au c
 ((fin R X0 w0 (I (-1))))
 (ad pg X0 w0 (binOp .gtr 3 a b) fun d=>
 (au d
 (fin R X0 w0 (I 1))
 (fin R X0 w0 (I 0))))))) fun e=>
 ad pg X0 w0 (aH .neq 3 (.tmp 16) (.tmp 17) (I aO) (I cm)) fun g=>
 (au g
 (e (I aO) (I cm))
 (ad pg X0 w0 (aH .neq 3 (.tmp 21) (.tmp 23) (I aZ) (I cu)) fun h=>
 (au h
 (e (I aZ) (I cu))
 (e (I ba) (I cq))))))))
def j7 (p0 p1:Value):Prop:=
 (ad pg X0 w0 (cB 63 3 p0) fun a=>
 (gp X0 w0 (I 0) 8 fun b c d e g=>
 ad pg g e (binOp .lss 3 d a) fun h=>
 (au h
 (((ad pg g e (dt 63 7 p0 d) fun i=>
 ad pg g e (ew 69 7 i) fun j=>
 eF pg R g e true p1 #[j] fun k l m=>
 (au k
 (fin R m l d)
 (((ad pg m l (binOp .add 3 d (I 1)) fun n=>
 gm b c n l m)))))))
 ((((fin R g e (I (-1)))))))))
def j8 (p0 p1:Value):Prop:=
 (ad pg X0 w0 (cB 91 3 p0) fun a=>
 (gp X0 w0 (I 0) 8 fun b c d e g=>
 ad pg g e (binOp .lss 3 d a) fun h=>
 (au h
 (((ad pg g e (dt 91 5 p0 d) fun i=>
 ad pg g e (ew 102 5 i) fun j=>
 eF pg R g e true p1 #[j] fun k l m=>
 (au k
 (fin R m l d)
 (((ad pg m l (binOp .add 3 d (I 1)) fun n=>
 gm b c n l m)))))))
 ((((fin R g e (I (-1)))))))))
noncomputable def K7:bz:=⟨24,[(2,(pg.cellsOf 116)),(3,(pg.cellsOf 116))],[5,7,11,13,18,20],[0,1,4],[10,12,14,15,17,19,21,22],[]⟩
def Bv (aO:Int) (aZ:Nat) (ba:ByteArray) (cm:Int) (cu:Nat) (cq:ByteArray):Prop:=
 (ad pg X0 w0 (aH .eql 3 (.tmp 6) (.tmp 8) (I aO) (I cm)) fun a=>
 un (aP a true (.string ba)) fun b=>
 un (aP a true (.string cq)) fun c=>
 aJ pg X0 w0 a true (vS (aH .eql 9 (.tmp 12) (.tmp 14) b c)) fun d=>
 az pg X0 w0 (aQ a d (B false)) fun e=>
 un (aP e true (.float .f64 aZ)) fun g=>
 un (aP e true (.float .f64 cu)) fun h=>
 jn (fun (i:Value) (j:World) (k:XS)=>
 az pg k j (aQ e i (B false)) fun l=>
 (fin R k j l)) fun m=>
 (gE e true (eC pg R X0 w0 true 130 #[g,h] m) (m undef w0 X0)))
def uV (p0:Value):Prop:=
 ((eC pg R X0 w0 true 97 #[p0] fun a b c=>
 ad pg c b (cB 38 3 a) fun d=>
 (il c b (I 0) (.agg #[(I 0),(I 0),(I 0)]) 11 4 fun e g h i j k=>
 ad pg k j (binOp .lss 3 h d) fun l=>
 (au l
 (((jn (fun (m:Value) (n:World) (o:XS)=>
 (ad pg o n (binOp .add 3 h (I 1)) fun q=>
 im e g q m n o)) fun r=>
 ad pg k j (dt 38 1 a h) fun s=>
 ad pg k j (ld1 3 s) fun t=>
 (az pg k j (aM p0) fun v=>
 ad pg k j (aT 128 3 5 1 v) fun y=>
 ad pg k j (ld1 126 y) fun z=>
 ad pg k j (ck 126 z t false) fun A=>
 un (aj (aa A)) fun C=>
 aF (ao (ab (aa A))==3) (aF (av (ab (aa A)) bu.one) ((ad pg k j (aH .eql 3 (.tmp 22) (.const (I 0)) h (I 0)) fun D=>
 aF (cd C) (un (b7 C 0 3) fun E=>
 un (aP D false E) fun F=>
 aF (cd i) (un (b7 i 0 3) fun G=>
 un (aP D false G) fun H=>
 jn (fun (L:Value) (M:World) (N:XS)=>
 aJ pg N M D false (vS (binOp .lss 3 L (I 0))) fun O=>
 az pg N M (aQ D (B true) O) fun Q=>
 (au Q
 (aF (cd C) (aF (cd i) (un (aj (aa E)) fun S=>
 aF (ao (ab (aa E))==3) (aF (av (ab (aa E)) bu.one) (r S M N)))))
 (r i M N))) fun T=>
 (gE D false (eC pg R k j true 84 #[F,H] T) (T undef j k)))))))))))
 (((aF (cd i) (az pg k j (aM p0) fun U=>
 ad pg k j (aT 128 3 5 1 U) fun V=>
 ad pg k j (ld1 126 V) fun Y=>
 ad pg k j (eT #[126] 3 #[Y]) fun Z=>
 ad pg k j (binOp .gtr 3 Z (I 0)) fun a0=>
 un (b7 i 0 3) fun b0=>
 un (aj (aa b0)) fun c0=>
 aF (ao (ab (aa b0))==3) (aF (av (ab (aa b0)) bu.one) ((un (b7 c0 0 3) fun d0=>
 aF (av [c0] cd) (fin R k j (aG #[d0,a0])))))))))))))
def tN (p0:Value):Prop:=
 (az pg X0 w0 (aM p0) fun a=>
 ad pg X0 w0 (aT 128 3 5 1 a) fun b=>
 ad pg X0 w0 (ld1 126 b) fun c=>
 eC pg R X0 w0 true 136 #[c] fun d e g=>
 eC pg R g e true 46 #[d] fun h i j=>
 (fin R j i h))
noncomputable def Ja:bz:=⟨11,[],[],[0,1,4,7,10],[],[]⟩
def zL (p0 p1:Int):Prop:=
 (ad pg X0 w0 (binOp .lss 3 (I p0) (I p1)) fun a=>
 (au a
 ((fin R X0 w0 (I (-1))))
 ((ad pg X0 w0 (binOp .gtr 3 (I p0) (I p1)) fun b=>
 (au b
 (fin R X0 w0 (I 1))
 (fin R X0 w0 (I 0)))))))
noncomputable def s5:bz:=⟨9,[],[],[0,1,4],[],[]⟩
def mr (p0:Value) (p1:ByteArray):Prop:=
 (eC pg R X0 w0 true 137 #[p0,(.string p1)] fun a b c=>
 ad pg c b (binOp .geq 3 a (I 0)) fun d=>
 (fin R c b d))
def zv (p0:Value):Prop:=
 (az pg X0 w0 (aM p0) fun a=>
 ad pg X0 w0 (aT 79 0 0 1 a) fun b=>
 ad pg X0 w0 (ld1 77 b) fun c=>
 eC pg R X0 w0 true 139 #[c] fun d e g=>
 eC pg R g e true 138 #[d] fun h i j=>
 (fin R j i h))
noncomputable def Gf:bz:=⟨29,[],[],[0,1,2,3,4,5,6,10,18],[],[]⟩
def xR (p0:Value) (p1:ByteArray):Prop:=
 eV pg R X0 w0 true (cE 24 p0) fun a b c=>
 eV pg R c b true (cE 9 (.string p1)) fun d e g=>
 (((jn (fun (h:Value) (i:World) (j:XS)=>
 (ad pg j i (ld1 24 a) fun k=>
 ad pg j i (ct (eO 145) #[] #[a,d]) fun l=>
 eC pg R j i true 140 #[k,h,l] fun m n o=>
 (fin R o n m))) fun q=>
 ad pg g e (ld1 9 d) fun r=>
 eC pg R g e true 144 #[r] fun s t v=>
 ad pg v t (aX bm s) fun y=>
 (au y
 (q (I 10) t v)
 (ad pg v t (ld1 24 a) fun z=>
 az pg v t (aM z) fun A=>
 ad pg v t (aT 79 0 0 1 A) fun C=>
 ad pg v t (ld1 77 C) fun D=>
 ad pg v t (ld1 9 d) fun E=>
 ad pg v t (ck 77 D E false) fun F=>
 ad pg v t (aH .neq 191 (.tmp 16) (.const (.pointer none)) F (.pointer none)) fun G=>
 (au G
 (q (I 9) t v)
 (ad pg v t (ld1 24 a) fun H=>
 az pg v t (aM H) fun L=>
 ad pg v t (aT 79 0 0 1 L) fun M=>
 ad pg v t (ld1 77 M) fun N=>
 ad pg v t (eT #[77] 3 #[N]) fun O=>
 ad pg v t (binOp .geq 3 O (I 64)) fun Q=>
 (au Q
 (q (I 3) t v)
 (q (I 0) t v)))))))))
def DE (p0:Value):Prop:=
 (ad pg X0 w0 (cB 132 3 p0) fun a=>
 ad pg X0 w0 (binOp .gtr 3 a (I 262144)) fun b=>
 (au b
 ((fin R X0 w0 (aG #[(.slice none 0 0),(I 2)])))
 ((ad pg X0 w0 (cB 132 3 p0) fun c=>
 ad pg X0 w0 (binOp .add 3 c (I 12)) fun d=>
 eV pg R X0 w0 true (Instr.makeSlice 132 (I 0) d) fun e g h=>
 ad pg h g (cB 132 3 p0) fun i=>
 ad pg h g (lT gf 3 194 i) fun j=>
 eC pg R h g true 146 #[e,j] fun k l m=>
 (eC pg R m l true 108 #[k] fun n o q=>
 eC pg R q o true 146 #[k,n] fun r s t=>
 (eV pg R t s true (fW 132 5 1 1 132 r p0) fun v y z=>
 (eC pg R z y true 108 #[p0] fun A C D=>
 eC pg R D C true 146 #[v,A] fun E F G=>
 (fin R G F (aG #[E,(I 0)])))))))))
noncomputable def Gg:bz:=⟨53,[],[],[0,1,2,6,7,8,15,20,23,52],[],[]⟩
def xS (p0:Value) (p1:ByteArray) (p2:Value):Prop:=
 (az pg X0 w0 (aM p0) fun a=>
 ad pg X0 w0 (aT 79 0 0 1 a) fun b=>
 ad pg X0 w0 (ld1 77 b) fun c=>
 ad pg X0 w0 (ck 77 c (.string p1) false) fun d=>
 (az pg X0 w0 (aM p0) fun e=>
 ad pg X0 w0 (aT 79 4 4 1 e) fun g=>
 ad pg X0 w0 (ld1 4 g) fun h=>
 (au h
 (fin R X0 w0 (I 12))
 (ad pg X0 w0 (aH .eql 191 (.tmp 21) (.const (.pointer none)) d (.pointer none)) fun i=>
 (au i
 (fin R X0 w0 (I 8))
 (ad pg X0 w0 (cB 132 3 p2) fun j=>
 az pg X0 w0 (aM p0) fun k=>
 ad pg X0 w0 (aT 79 1 1 1 k) fun l=>
 ad pg X0 w0 (ld1 3 l) fun m=>
 ad pg X0 w0 (binOp .sub 3 (I 4194304) m) fun n=>
 ad pg X0 w0 (binOp .gtr 3 j n) fun o=>
 (au o
 (fin R X0 w0 (I 11))
 (((eC pg R X0 w0 true 147 #[p0] fun q r s=>
 (az pg s r (aM d) fun t=>
 ad pg s r (aT 193 0 0 1 t) fun v=>
 ad pg s r (ld1 132 v) fun y=>
 eV pg R s r true (fW 132 5 1 1 132 y p2) fun z A C=>
 az pg C A (aM d) fun D=>
 ad pg C A (aT 193 0 0 1 D) fun E=>
 eU pg R C A true (st1 132 1 E z) fun _ F G=>
 (az pg G F (aM p0) fun H=>
 ad pg G F (aT 79 1 1 1 H) fun L=>
 ad pg G F (ld1 3 L) fun M=>
 ad pg G F (cB 132 3 p2) fun N=>
 ad pg G F (binOp .add 3 M N) fun O=>
 az pg G F (aM p0) fun Q=>
 ad pg G F (aT 79 1 1 1 Q) fun S=>
 eU pg R G F true (st1 3 1 S O) fun _ T U=>
 ((au q
 (fin R U T (I 12))
 (fin R U T (I 0))))))))))))))))
noncomputable def Jb:bz:=⟨11,[],[],[0,1,2,3,4],[],[]⟩
def zU (p0:Value) (p1:ByteArray):Prop:=
 eV pg R X0 w0 true (cE 24 p0) fun a b c=>
 eV pg R c b true (cE 9 (.string p1)) fun d e g=>
 (ad pg g e (ld1 24 a) fun h=>
 ad pg g e (ld1 24 a) fun i=>
 ad pg g e (ld1 9 d) fun j=>
 ad pg g e (ct (eO 148) #[] #[a,d]) fun k=>
 eC pg R g e false 141 #[i,j] fun l m n=>
 eC pg R n m true 140 #[h,l,k] fun o q r=>
 (fin R r q o))
noncomputable def Gh:bz:=⟨22,[],[],[0,1,2,3,4,5,6,7,17],[13,14,15,16],[]⟩
def xK (p0:Value) (p1 p2:ByteArray):Prop:=
 eV pg R X0 w0 true (cE 24 p0) fun a b c=>
 eV pg R c b true (cE 9 (.string p1)) fun d e g=>
 eV pg R g e true (cE 9 (.string p2)) fun h i j=>
 (ad pg j i (ld1 24 a) fun k=>
 ad pg j i (ld1 9 d) fun l=>
 eC pg R j i true 141 #[k,l] fun m n o=>
 ((jn (fun (q:Value) (r:World) (s:XS)=>
 ad pg s r (ld1 24 a) fun t=>
 ad pg s r (ct (eO 149) #[] #[d,h,a]) fun v=>
 eC pg R s r true 140 #[t,q,v] fun y z A=>
 (fin R A z y)) fun C=>
 ad pg o n (aH .eql 27 (.tmp 11) (.const (I 0)) m (I 0)) fun D=>
 aJ pg o n D true (vS (ld1 9 h)) fun E=>
 jn (fun (F:Value) (G:World) (H:XS)=>
 aJ pg H G D true (vS (aX bm F)) fun L=>
 az pg H G (aQ D L (B false)) fun M=>
 (au M
 (C (I 10) G H)
 (C m G H))) fun N=>
 (gE D true (eC pg R o n true 144 #[E] N) (N undef n o)))))
def Hp (p0:Value):Prop:=
 ((ad pg X0 w0 (cB 132 3 p0) fun a=>
 ad pg X0 w0 (binOp .lss 3 a (I 64)) fun b=>
 (au b
 (ad pg X0 w0 (cB 132 3 p0) fun c=>
 (pR X0 w0 (I 0) undef (aU gf 4294967295) 14 22 3 fun d e g _ h i j=>
 ad pg j i (binOp .lss 3 g c) fun k=>
 (au k
 ((ad pg j i (dt 132 1 p0 g) fun l=>
 ad pg j i (ld1 5 l) fun m=>
 (ad pg j i (lT gf 5 194 m) fun n=>
 ad pg j i (binOp .xor 194 h n) fun o=>
 ((il j i (I 0) o 22 3 fun q r s t v y=>
 ad pg y v (binOp .lss 3 s (I 8)) fun z=>
 (au z
 ((ad pg y v (binOp .shr 194 t (aU bq 1)) fun A=>
 ad pg y v (binOp .and 194 t (aU gf 1)) fun C=>
 ad pg y v (aX UnOp.neg C) fun D=>
 ad pg y v (binOp .and 194 (aU gf 2197175160) D) fun E=>
 ad pg y v (binOp .xor 194 A E) fun F=>
 ((ad pg y v (binOp .add 3 s (I 1)) fun G=>
 im q r G F v y))))
 ((((ad pg y v (binOp .add 3 g (I 1)) fun H=>
 pS d e H s t v y))))))))))
 (ad pg j i (aX UnOp.xor h) fun L=>
 (fin R j i L)))))
 ((eC pg R X0 w0 true 150 #[] fun M N O=>
 eV pg R O N true (kM 243 true (aG #[])) fun Q S T=>
 eU pg R T S true (st1 243 256 Q M) fun _ U V=>
 (ad pg V U (cB 132 3 p0) fun Y=>
 (il V U (I 0) (aU gf 4294967295) 38 3 fun Z a0 b0 c0 d0 e0=>
 ad pg e0 d0 (binOp .lss 3 b0 Y) fun g0=>
 (au g0
 ((ad pg e0 d0 (dt 132 1 p0 b0) fun h0=>
 ad pg e0 d0 (ld1 5 h0) fun i0=>
 (ad pg e0 d0 (binOp .shr 194 c0 (aU bq 8)) fun j0=>
 ad pg e0 d0 (lT gL 194 5 c0) fun k0=>
 ad pg e0 d0 (binOp .xor 5 k0 i0) fun l0=>
 ad pg e0 d0 (Instr.indexAt 243 Q l0) fun m0=>
 ad pg e0 d0 (ld1 194 m0) fun n0=>
 ad pg e0 d0 (binOp .xor 194 j0 n0) fun o0=>
 ((ad pg e0 d0 (binOp .add 3 b0 (I 1)) fun q0=>
 im Z a0 q0 o0 d0 e0)))))
 (ad pg e0 d0 (aX UnOp.xor c0) fun r0=>
 (fin R e0 d0 r0))))))))))
def zV:Prop:=
 (ad pg X0 w0 (dV 247 #[(.slice none 0 0)] #[]) fun a=>
 eV pg R X0 w0 true (cE 247 a) fun b c d=>
 (fin R d c b))
noncomputable def Hq:bz:=⟨39,[],[],[0,1,4,9,13],[],[4]⟩
def y5 (p0:Value) (p1:Int):Prop:=
 ad pg X0 w0 (lT bq 3 208 (I p1)) fun a=>
 ad pg X0 w0 (binOp .shl 208 a (aU bq 1)) fun b=>
 ((jn (fun (c:Value)=>
 gp X0 w0 c 4 fun d e g h i=>
 ad pg i h (binOp .geq 208 g (aU bq 128)) fun j=>
 (au j
 ((az pg i h (aM p0) fun k=>
 ad pg i h (aT 247 0 0 1 k) fun l=>
 ad pg i h (ld1 132 l) fun m=>
 ad pg i h (lT gL 208 5 g) fun n=>
 ad pg i h (binOp .or 5 n (aU gL 128)) fun o=>
 eV pg R i h true (gq 132 5 1 1 #[(0,o)]) fun q r s=>
 eV pg R s r true (fW 132 5 1 1 132 m q) fun t v y=>
 az pg y v (aM p0) fun z=>
 ad pg y v (aT 247 0 0 1 z) fun A=>
 eU pg R y v true (st1 132 1 A t) fun _ C D=>
 (ad pg D C (binOp .shr 208 g (aU bq 7)) fun E=>
 (gm d e E C D))))
 (((az pg i h (aM p0) fun F=>
 ad pg i h (aT 247 0 0 1 F) fun G=>
 ad pg i h (ld1 132 G) fun H=>
 ad pg i h (lT gL 208 5 g) fun L=>
 eV pg R i h true (gq 132 5 1 1 #[(0,L)]) fun M N O=>
 eV pg R O N true (fW 132 5 1 1 132 H M) fun Q S T=>
 az pg T S (aM p0) fun U=>
 ad pg T S (aT 247 0 0 1 U) fun V=>
 eU pg R T S true (st1 132 1 V Q) fun _ Y Z=>
 fin R Z Y (aG #[])))))) fun a0=>
 ad pg X0 w0 (binOp .lss 3 (I p1) (I 0)) fun b0=>
 (au b0
 (ad pg X0 w0 (aX UnOp.xor b) fun c0=>
 (a0 c0))
 (a0 b))))
def wT (p0:Value):Prop:=
 (eV pg R X0 w0 true (gq 132 5 1 0 #[]) fun a b c=>
 az pg c b (aM p0) fun d=>
 ad pg c b (aT 247 0 0 1 d) fun e=>
 ad pg c b (ld1 132 e) fun g=>
 eV pg R c b true (fW 132 5 1 1 132 a g) fun h i j=>
 (fin R j i h))
noncomputable def Am:bz:=⟨60,[],[],[0,1,4,5,6,7,16,41],[12,13,14,15,37,38,39,40],[5,6,7]⟩
def rR (p0:Value) (p1:Int):Prop:=
 (((pR X0 w0 (I 0) undef (I 0) 6 7 5 fun a b c _ d e g=>
 ad pg g e (cB 44 3 p0) fun h=>
 ad pg g e (binOp .lss 3 c h) fun i=>
 un (aP i true d) fun j=>
 un (aP i true (I p1)) fun k=>
 aJ pg g e i true (vS (binOp .leq 3 j k)) fun l=>
 az pg g e (aQ i l (B false)) fun m=>
 (au m
 ((ad pg g e (dt 44 2 p0 c) fun n=>
 ad pg g e (aT 225 0 0 1 n) fun o=>
 ad pg g e (ld1 9 o) fun q=>
 ad pg g e (lS 9 3 q) fun r=>
 ad pg g e (binOp .add 3 (I 1) r) fun s=>
 eC pg R g e true 69 #[d,s,(I p1)] fun t v y=>
 ((il y v (I 0) t 7 5 fun z A C D E F=>
 ad pg F E (dt 44 2 p0 c) fun G=>
 ad pg F E (aT 225 1 1 1 G) fun H=>
 ad pg F E (ld1 223 H) fun L=>
 ad pg F E (cB 223 3 L) fun M=>
 ad pg F E (binOp .lss 3 C M) fun N=>
 un (aP N true D) fun O=>
 un (aP N true (I p1)) fun Q=>
 aJ pg F E N true (vS (binOp .leq 3 O Q)) fun S=>
 az pg F E (aQ N S (B false)) fun T=>
 (au T
 ((ad pg F E (dt 44 2 p0 c) fun U=>
 ad pg F E (aT 225 1 1 1 U) fun V=>
 ad pg F E (ld1 223 V) fun Y=>
 ad pg F E (dt 223 6 Y C) fun Z=>
 ad pg F E (aT 227 1 3 3 Z) fun a0=>
 ad pg F E (aT 116 2 2 1 a0) fun b0=>
 ad pg F E (ld1 9 b0) fun c0=>
 ad pg F E (lS 9 3 c0) fun d0=>
 ad pg F E (binOp .add 3 (I 1) d0) fun e0=>
 eC pg R F E true 69 #[D,e0,(I p1)] fun g0 h0 i0=>
 ((ad pg i0 h0 (binOp .add 3 C (I 1)) fun j0=>
 im z A j0 g0 h0 i0))))
 ((((ad pg F E (binOp .add 3 c (I 1)) fun k0=>
 pS a b k0 C D E F)))))))))
 (fin R g e d)))))
noncomputable def Bw:bz:=⟨39,[],[],[0,1,4,5,6,15],[11,12,13,14,18],[5,6]⟩
def sv (p0:Value) (p1:Int):Prop:=
 (((il X0 w0 (I 0) (I 0) 6 5 fun a b c d e g=>
 ad pg g e (cB 45 3 p0) fun h=>
 ad pg g e (binOp .lss 3 c h) fun i=>
 un (aP i true d) fun j=>
 un (aP i true (I p1)) fun k=>
 aJ pg g e i true (vS (binOp .leq 3 j k)) fun l=>
 az pg g e (aQ i l (B false)) fun m=>
 (au m
 ((ad pg g e (dt 45 8 p0 c) fun n=>
 ad pg g e (aT 182 2 6 1 n) fun o=>
 ad pg g e (ld1 35 o) fun q=>
 ad pg g e (dt 45 8 p0 c) fun r=>
 ad pg g e (aT 182 3 7 1 r) fun s=>
 ad pg g e (ld1 37 s) fun t=>
 eC pg R g e false 70 #[q,(I p1)] fun v y z=>
 ad pg z y (binOp .add 3 (I 1) v) fun A=>
 eC pg R z y false 69 #[d,A,(I p1)] fun C D E=>
 eC pg R E D true 72 #[t,(I p1)] fun F G H=>
 eC pg R H G true 69 #[C,F,(I p1)] fun L M N=>
 ((ad pg N M (binOp .add 3 c (I 1)) fun O=>
 im a b O L M N))))
 (fin R g e d)))))
noncomputable def Nx:bz:=⟨9,[],[],[0,2],[5,6,7],[]⟩
def DF (p0:Int):Prop:=
 (ad pg X0 w0 (binOp .geq 3 (I p0) (I 1)) fun a=>
 un (aP a true (I p0)) fun b=>
 aJ pg X0 w0 a true (vS (binOp .leq 3 b (I 12))) fun c=>
 az pg X0 w0 (aQ a c (B false)) fun d=>
 (fin R X0 w0 d))
noncomputable def PV:bz:=⟨131,[(1,(pg.cellsOf 49))],[4,9,14,18,22,27,32,39,41,45,50,55,60,64,72,76,81,86,91,96,98,104,106,110,116,118,122,127],[0,2,3,13,15,16,37,70,102,114,117],[8,10,11,12,21,23,24,26,28,29,31,33,34,35,44,46,47,48,54,56,57,59,61,62,63,65,66,67,68,75,77,78,80,82,83,85,87,88,90,92,93,95,97,99,100,109,111,112,121,123,124,125],[]⟩
def Fy (aO _p0_1 _p0_2 bA bN bQ bV b6 cI dg cn cj _p0_12 _p0_13 _p0_14:Int) (cZ:Bool) (_p0_16 _p0_17:Int) (cO cM cP cQ cR _p0_23:Value) (_p0_24 _p0_25:Int) (_p0_26 _p0_27:Nat) (_p0_28 _p0_29 _p0_30 _p0_31 _p0_32 _p0_33:Int) (_p0_34 _p0_35:Value):Prop:=
 (eC pg R X0 w0 true 152 #[(.agg #[(I bA),(I bN),(I bQ)])] fun a b c=>
 ad pg c b (aX bm a) fun d=>
 un (aP d false (I bV)) fun e=>
 jn (fun (g:Value) (h:World) (i:XS)=>
 aJ pg i h d false (vS (aX bm g)) fun j=>
 az pg i h (aQ d (B true) j) fun k=>
 (au k
 (fin R i h (B false))
 (((ad pg i h (aH .eql 3 (.tmp 15) (.const (I 1)) (I aO) (I 1)) fun l=>
 (au l
 (ad pg i h (binOp .geq 3 (I b6) (I 0)) fun m=>
 un (aP m true (.agg #[(I dg),(I cn),(I cj)])) fun n=>
 jn (fun (o:Value) (q:World) (r:XS)=>
 az pg r q (aQ m o (B false)) fun s=>
 un (aP s true cO) fun t=>
 jn (fun (v:Value) (y:World) (z:XS)=>
 az pg z y (aQ s v (B false)) fun A=>
 un (aP A true cO) fun C=>
 aJ pg z y A true (vS (cB 35 3 C)) fun D=>
 aJ pg z y A true (vS (binOp .gtr 3 D (I 0))) fun E=>
 az pg z y (aQ A E (B false)) fun F=>
 (fin R z y F)) fun G=>
 (gE s true (eC pg R r q true 153 #[t] G) (G undef q r))) fun H=>
 (gE m true (eC pg R i h true 57 #[n] H) (H undef h i)))
 (ad pg i h (aH .eql 3 (.tmp 15) (.const (I 2)) (I aO) (I 2)) fun L=>
 (au L
 (eC pg R i h false 155 #[cM] fun M N O=>
 un (aP M true cM) fun Q=>
 aJ pg O N M true (vS (cB 36 3 Q)) fun S=>
 aJ pg O N M true (vS (binOp .gtr 3 S (I 0))) fun T=>
 az pg O N (aQ M T (B false)) fun U=>
 eC pg R O N true 154 #[(I cI),U,cR] fun V Y Z=>
 (un (aP V true (.agg #[(I dg),(I cn),(I cj)])) fun a0=>
 jn (fun (b0:Value) (c0:World) (d0:XS)=>
 az pg d0 c0 (aQ V b0 (B false)) fun e0=>
 un (aP e0 true (I cI)) fun g0=>
 aJ pg d0 c0 e0 true (vS (aH .eql 27 (.tmp 61) (.const (I 0)) g0 (I 0))) fun h0=>
 un (aP e0 true h0) fun i0=>
 un (aP i0 false cM) fun j0=>
 aJ pg d0 c0 i0 false (vS (cB 36 3 j0)) fun k0=>
 aJ pg d0 c0 i0 false (vS (aH .eql 3 (.tmp 66) (.const (I 0)) k0 (I 0))) fun l0=>
 aJ pg d0 c0 e0 true (aQ i0 (B true) l0) fun m0=>
 az pg d0 c0 (aQ e0 m0 (B false)) fun n0=>
 (fin R d0 c0 n0)) fun o0=>
 (gE V true (eC pg R Z Y true 57 #[a0] o0) (o0 undef Y Z))))
 (ad pg i h (aH .eql 3 (.tmp 15) (.const (I 3)) (I aO) (I 3)) fun q0=>
 (au q0
 (ad pg i h (binOp .geq 3 (I b6) (I 0)) fun r0=>
 un (aP r0 true (.agg #[(I dg),(I cn),(I cj)])) fun s0=>
 jn (fun (t0:Value) (v0:World) (y0:XS)=>
 az pg y0 v0 (aQ r0 t0 (B false)) fun z0=>
 un (aP z0 true cM) fun A0=>
 jn (fun (C0:Value) (D0:World) (E0:XS)=>
 az pg E0 D0 (aQ z0 C0 (B false)) fun F0=>
 un (aP F0 true cP) fun G0=>
 jn (fun (H0:Value) (L0:World) (M0:XS)=>
 az pg M0 L0 (aQ F0 H0 (B false)) fun N0=>
 un (aP N0 true cQ) fun O0=>
 jn (fun (Q0:Value) (S0:World) (T0:XS)=>
 az pg T0 S0 (aQ N0 Q0 (B false)) fun U0=>
 un (aP U0 true cQ) fun V0=>
 un (aP U0 true (I bV)) fun Y0=>
 jn (fun (Z0:Value) (a1:World) (b1:XS)=>
 az pg b1 a1 (aQ U0 Z0 (B false)) fun c1=>
 (fin R b1 a1 c1)) fun d1=>
 (gE U0 true (eC pg R T0 S0 true 158 #[V0,Y0] d1) (d1 undef S0 T0))) fun e1=>
 (gE N0 true (eC pg R M0 L0 true 157 #[O0] e1) (e1 undef L0 M0))) fun g1=>
 (gE F0 true (eC pg R E0 D0 true 156 #[G0] g1) (g1 undef D0 E0))) fun h1=>
 (gE z0 true (eC pg R y0 v0 true 155 #[A0] h1) (h1 undef v0 y0))) fun i1=>
 (gE r0 true (eC pg R i h true 57 #[s0] i1) (i1 undef h i)))
 (ad pg i h (aH .eql 3 (.tmp 15) (.const (I 4)) (I aO) (I 4)) fun j1=>
 (au j1
 (eC pg R i h true 154 #[(I cI),(B true),cR] fun k1 l1 m1=>
 un (aP k1 true (.agg #[(I dg),(I cn),(I cj)])) fun n1=>
 jn (fun (o1:Value) (q1:World) (r1:XS)=>
 az pg r1 q1 (aQ k1 o1 (B false)) fun s1=>
 (fin R r1 q1 s1)) fun t1=>
 (gE k1 true (eC pg R m1 l1 true 57 #[n1] t1) (t1 undef l1 m1)))
 (ad pg i h (aH .eql 3 (.tmp 15) (.const (I 5)) (I aO) (I 5)) fun v1=>
 (au v1
 ((au (B cZ)
 (eC pg R i h true 57 #[(.agg #[(I dg),(I cn),(I cj)])] fun y1 z1 A1=>
 un (aP y1 true (.agg #[(I dg),(I cn),(I cj)])) fun C1=>
 aJ pg A1 z1 y1 true (vS (dV 34 #[(I 0),(I 0),(I 0)] #[])) fun D1=>
 aJ pg A1 z1 y1 true (vS (aH .neq 34 (.tmp 123) (.tmp 124) C1 D1)) fun E1=>
 az pg A1 z1 (aQ y1 E1 (B false)) fun F1=>
 (fin R A1 z1 F1))
 ((ad pg i h (dV 34 #[(I 0),(I 0),(I 0)] #[]) fun G1=>
 ad pg i h (aH .eql 34 (.tmp 128) (.tmp 129) (.agg #[(I dg),(I cn),(I cj)]) G1) fun H1=>
 (fin R i h H1)))))
 (fin R i h (B true)))))))))))))))) fun L1=>
 (gE d false (eC pg R c b true 117 #[e] L1) (L1 undef b c)))
def FA (p0:Value):Prop:=
 (ad pg X0 w0 (cB 40 3 p0) fun a=>
 (gp X0 w0 (I 0) 9 fun b c d e g=>
 ad pg g e (binOp .lss 3 d a) fun h=>
 (au h
 ((ad pg g e (dt 40 29 p0 d) fun i=>
 ad pg g e (ew 73 29 i) fun j=>
 un (aj (aa j)) fun k=>
 aF (ao (ab (aa j))==29) (aF (av (ab (aa j)) bu.one) ((aF (cd k) (un (b7 k 0 29) fun l=>
 eC pg R g e true 159 #[l] fun m n o=>
 ad pg o n (aC m 0) fun _=>
 ad pg o n (aC m 1) fun q=>
 (ad pg o n (aH .neq 27 (.tmp 18) (.const (I 0)) q (I 0)) fun r=>
 (au r
 (fin R o n (B false))
 (((ad pg o n (binOp .add 3 d (I 1)) fun s=>
 gm b c s n o)))))))))))
 (((ad pg g e (cB 40 3 p0) fun t=>
 ad pg g e (binOp .leq 3 t (I 8)) fun v=>
 (fin R g e v)))))))
noncomputable def K8:bz:=⟨87,[(7,(pg.cellsOf 225)),(9,(pg.cellsOf 182)),(13,(pg.cellsOf 118))],[49,61,73,81],[0,1,2,4,5,11,29,39,42,43,44,45,52,55,56,57,58,62,63,64,65,71,74,75,76,77,84],[18,19,20,21,22,24,25,26,27,28],[44,57,64,76]⟩
def Bx (aO aZ:Int) (ba bA:Nat) (bN bQ bV b6 cI dg:Int) (cn cj:Value):Prop:=
 eV pg R X0 w0 true (cE 47 (.agg #[(I aO),(I aZ),(.float .f64 ba),(.float .f64 bA),(I bN),(I bQ),(I bV),(I b6),(I cI),(I dg),cn,cj])) fun a b c=>
 (ad pg c b (aT 47 0 0 4 a) fun d=>
 ad pg c b (ew 43 4 d) fun e=>
 eC pg R c b true 160 #[e] fun g h i=>
 ad pg i h (aX bm g) fun j=>
 aJ pg i h j false (vS (aT 47 1 4 3 a)) fun k=>
 aJ pg i h j false (vS (ew 34 3 k)) fun l=>
 jn (fun (m:Value) (n:World) (o:XS)=>
 aJ pg o n j false (vS (aX bm m)) fun q=>
 az pg o n (aQ j (B true) q) fun r=>
 aJ pg o n r false (vS (aT 47 2 7 3 a)) fun s=>
 aJ pg o n r false (vS (ew 34 3 s)) fun t=>
 jn (fun (v:Value) (y:World) (z:XS)=>
 aJ pg z y r false (vS (aX bm v)) fun A=>
 az pg z y (aQ r (B true) A) fun C=>
 (au C
 (fin R z y (B false))
 ((ad pg z y (aT 47 3 10 1 a) fun D=>
 ad pg z y (ld1 44 D) fun E=>
 ad pg z y (aT 47 4 11 1 a) fun F=>
 ad pg z y (ld1 45 F) fun G=>
 eC pg R z y true 161 #[E,G] fun H L M=>
 ad pg M L (aC H 0) fun _=>
 ad pg M L (aC H 1) fun N=>
 (ad pg M L (aH .neq 27 (.tmp 38) (.const (I 0)) N (I 0)) fun O=>
 (au O
 (fin R M L (B false))
 ((ad pg M L (ct (eO 162) #[] #[a]) fun Q=>
 (ad pg M L (aT 47 3 10 1 a) fun S=>
 ad pg M L (ld1 44 S) fun T=>
 ad pg M L (cB 44 3 T) fun U=>
 (gp M L (I 0) 44 fun V Y Z a0 b0=>
 ad pg b0 a0 (binOp .lss 3 Z U) fun c0=>
 (au c0
 ((ad pg b0 a0 (dt 44 2 T Z) fun d0=>
 ad pg b0 a0 (ew 225 2 d0) fun e0=>
 un (aj (aa e0)) fun g0=>
 aF (ao (ab (aa e0))==2) (aF (av (ab (aa e0)) bu.one) ((aF (cd g0) (un (cellOf g0 0) fun h0=>
 eF pg R b0 a0 true Q #[h0] fun i0 j0 k0=>
 ad pg k0 j0 (aX bm i0) fun l0=>
 (au l0
 (fin R k0 j0 (B false))
 (((ad pg k0 j0 (binOp .add 3 Z (I 1)) fun m0=>
 gm V Y m0 j0 k0))))))))))
 (((ad pg b0 a0 (aT 47 4 11 1 a) fun n0=>
 ad pg b0 a0 (ld1 45 n0) fun o0=>
 ad pg b0 a0 (cB 45 3 o0) fun q0=>
 (pR b0 a0 (I 0) undef undef 57 76 64 fun r0 s0 t0 _ _ v0 y0=>
 ad pg y0 v0 (binOp .lss 3 t0 q0) fun z0=>
 (au z0
 ((ad pg y0 v0 (dt 45 8 o0 t0) fun A0=>
 ad pg y0 v0 (ew 182 8 A0) fun C0=>
 un (aj (aa C0)) fun D0=>
 aF (ao (ab (aa C0))==8) (aF (av (ab (aa C0)) bu.one) ((aF (cd D0) (un (cellOf D0 6) fun E0=>
 ad pg y0 v0 (cB 35 3 E0) fun F0=>
 (gp y0 v0 (I 0) 64 fun G0 H0 L0 M0 N0=>
 ad pg N0 M0 (binOp .lss 3 L0 F0) fun O0=>
 (au O0
 ((ad pg N0 M0 (dt 35 1 E0 L0) fun Q0=>
 ad pg N0 M0 (ld1 9 Q0) fun S0=>
 (eF pg R N0 M0 true Q #[S0] fun T0 U0 V0=>
 ad pg V0 U0 (aX bm T0) fun Y0=>
 (au Y0
 (fin R V0 U0 (B false))
 (((ad pg V0 U0 (binOp .add 3 L0 (I 1)) fun Z0=>
 gm G0 H0 Z0 U0 V0)))))))
 (((aF (cd D0) (un (cellOf D0 7) fun a1=>
 ad pg N0 M0 (cB 37 3 a1) fun b1=>
 (gp N0 M0 (I 0) 76 fun c1 d1 e1 g1 h1=>
 ad pg h1 g1 (binOp .lss 3 e1 b1) fun i1=>
 (au i1
 ((ad pg h1 g1 (dt 37 4 a1 e1) fun j1=>
 ad pg h1 g1 (ew 118 4 j1) fun k1=>
 un (aj (aa k1)) fun l1=>
 aF (ao (ab (aa k1))==4) (aF (av (ab (aa k1)) bu.one) ((aF (cd l1) (un (cellOf l1 0) fun m1=>
 eF pg R h1 g1 true Q #[m1] fun n1 o1 q1=>
 ad pg q1 o1 (aX bm n1) fun r1=>
 (au r1
 (fin R q1 o1 (B false))
 (((ad pg q1 o1 (binOp .add 3 e1 (I 1)) fun s1=>
 gm c1 d1 s1 o1 q1))))))))))
 ((((ad pg h1 g1 (binOp .add 3 t0 (I 1)) fun t1=>
 pS r0 s0 t1 e1 L0 g1 h1))))))))))))))))))
 (fin R y0 v0 (B true)))))))))))))))))) fun v1=>
 (gE r false (eC pg R o n true 57 #[t] v1) (v1 undef n o))) fun y1=>
 (gE j false (eC pg R i h true 57 #[l] y1) (y1 undef h i)))
noncomputable def PW:bz:=⟨29,[(4,(pg.cellsOf 34)),(5,(pg.cellsOf 34)),(6,(pg.cellsOf 32))],[],[0,1,2,3,8,22],[12,13,14,15,16,18,19,20,21],[]⟩
def FB (aO aZ ba cm cu cq gj gB gC:Int) (p3:Value):Prop:=
 (eC pg R X0 w0 true 57 #[(.agg #[(I aO),(I aZ),(I ba)])] fun a b c=>
 ad pg c b (aX bm a) fun d=>
 un (aP d false (.agg #[(I aO),(I aZ),(I ba)])) fun e=>
 un (aP d false (.agg #[(I cm),(I cu),(I cq)])) fun g=>
 jn (fun (h:Value) (i:World) (j:XS)=>
 aJ pg j i d false (vS (binOp .geq 3 h (I 0))) fun k=>
 az pg j i (aQ d (B true) k) fun l=>
 un (aP l false p3) fun m=>
 aJ pg j i l false (vS (cB 37 3 m)) fun n=>
 aJ pg j i l false (vS (aH .eql 3 (.tmp 20) (.const (I 0)) n (I 0))) fun o=>
 az pg j i (aQ l (B true) o) fun q=>
 (au q
 (fin R j i (B false))
 ((ad pg j i (dV 182 #[(I gj),(I gB),(I gC),(I cm),(I cu),(I cq),(.slice none 0 0),p3] #[(0,(.agg #[(I gj),(I gB),(I gC)])),(1,(.agg #[(I cm),(I cu),(I cq)])),(3,p3)]) fun r=>
 eC pg R j i true 165 #[r] fun s t v=>
 ad pg v t (aH .eql 27 (.tmp 27) (.const (I 0)) s (I 0)) fun y=>
 (fin R v t y))))) fun z=>
 (gE d false (eC pg R c b true 84 #[e,g] z) (z undef b c)))
noncomputable def K9:bz:=⟨78,[(5,(pg.cellsOf 73)),(8,(pg.cellsOf 182)),(9,(pg.cellsOf 184)),(11,(pg.cellsOf 184))],[26,30,31,32,39,40,52,66],[0,1,2,6,10,12,22,25,27,28,38,41,42,43,44,57,59,71,72],[19,20,21],[43]⟩
def By (p0:Value) (p1 gj gB gC qY uE uF uG CJ CK CL:Int) (wO:Bool) (yv:Int) (yw:Nat) (uj uk yy yz:Value) (wP yA:Int) (yB yC:Nat) (yD yE yF wQ wR wS:Int) (yG rQ:Value):Prop:=
 (az pg X0 w0 (aM p0) fun a=>
 ad pg X0 w0 (aT 174 1 1 1 a) fun b=>
 ad pg X0 w0 (ld1 3 b) fun c=>
 ad pg X0 w0 (aH .neq 3 (.tmp 13) (.tmp 17) (I p1) c) fun d=>
 un (aP d false (I p1)) fun e=>
 aJ pg X0 w0 d false (vS (binOp .gtr 3 e (I 99999999))) fun g=>
 az pg X0 w0 (aQ d (B true) g) fun h=>
 (au h
 (fin R X0 w0 (I 14))
 ((eC pg R X0 w0 true 166 #[(.agg #[(I gj),(I gB),(I gC),(I qY),(I uE),(I uF),(I uG),(I CJ),(I CK),(I CL),(B wO),(I yv),(.float .f64 yw),uj,uk,yy,yz,(I wP),(I yA),(.float .f64 yB),(.float .f64 yC),(I yD),(I yE),(I yF),(I wQ),(I wR),(I wS),yG,rQ])] fun i j k=>
 ad pg k j (aH .neq 27 (.tmp 24) (.const (I 0)) i (I 0)) fun l=>
 (au l
 (fin R k j (I 4))
 ((((jn (fun (m:World) (n:XS)=>
 (fin R n m (I 0))) fun o=>
 ad pg k j (aH .eql 3 (.tmp 27) (.const (I 1)) (I gj) (I 1)) fun q=>
 (au q
 (az pg k j (aM p0) fun r=>
 ad pg k j (aT 174 0 0 1 r) fun s=>
 ad pg k j (ld1 3 s) fun t=>
 ad pg k j (aH .neq 3 (.tmp 33) (.tmp 37) (I wP) t) fun v=>
 (au v
 (fin R k j (I 4))
 ((ad pg k j (cB 45 3 rQ) fun y=>
 (gp k j (I 0) 43 fun z A C D E=>
 ad pg E D (binOp .lss 3 C y) fun F=>
 (au F
 ((ad pg E D (dt 45 8 rQ C) fun G=>
 ad pg E D (ew 182 8 G) fun H=>
 un (aj (aa H)) fun L=>
 aF (ao (ab (aa H))==8) (aF (av (ab (aa H)) bu.one) ((az pg E D (aM p0) fun M=>
 ad pg E D (aT 174 3 5 1 M) fun N=>
 ad pg E D (ld1 172 N) fun O=>
 aF (cd L) (un (b7 L 0 3) fun Q=>
 ad pg E D (ck 172 O Q true) fun S=>
 ad pg E D (aC S 0) fun T=>
 ad pg E D (aC S 1) fun U=>
 un (aj (aa T)) fun _=>
 aF (ao (ab (aa T))==9) (aF (av (ab (aa T)) bu.one) (((au U
 (fin R E D (I 9))
 (((ad pg E D (binOp .add 3 C (I 1)) fun V=>
 gm z A V D E)))))))))))))
 (o D E)))))))
 (ad pg k j (aH .eql 3 (.tmp 27) (.const (I 3)) (I gj) (I 3)) fun Y=>
 (au Y
 (az pg k j (aM p0) fun Z=>
 ad pg k j (aT 174 3 5 1 Z) fun a0=>
 ad pg k j (ld1 172 a0) fun b0=>
 ad pg k j (ck 172 b0 (.agg #[(I gB),(I gC),(I qY)]) true) fun c0=>
 ad pg k j (aC c0 0) fun d0=>
 ad pg k j (aC c0 1) fun e0=>
 un (aj (aa d0)) fun _=>
 aF (ao (ab (aa d0))==9) (aF (av (ab (aa d0)) bu.one) (((au e0
 (fin R k j (I 9))
 (o j k))))))
 ((jn (fun (g0:Value)=>
 au g0
 (o j k)
 (fin R k j (I 4))) fun h0=>
 ad pg k j (aH .eql 3 (.tmp 27) (.const (I 2)) (I gj) (I 2)) fun i0=>
 (au i0
 (h0 i0)
 (ad pg k j (aH .eql 3 (.tmp 27) (.const (I 4)) (I gj) (I 4)) fun j0=>
 (au j0
 (h0 j0)
 (ad pg k j (aH .eql 3 (.tmp 27) (.const (I 5)) (I gj) (I 5)) fun k0=>
 (au k0
 (h0 k0)
 (ad pg k j (aH .eql 3 (.tmp 27) (.const (I 6)) (I gj) (I 6)) fun l0=>
 (au l0
 (h0 l0)
 (ad pg k j (aH .eql 3 (.tmp 27) (.const (I 7)) (I gj) (I 7)) fun m0=>
 (h0 m0)))))))))))))))))))))))
noncomputable def PX:bz:=⟨12,[(1,(pg.cellsOf 182)),(2,(pg.cellsOf 182))],[3,6,9,10],[0],[4,7],[]⟩
def FC (aO aZ ba bA bN bQ:Int) (bV b6:Value):Prop:=
 (eC pg R X0 w0 false 167 #[bV] fun a b c=>
 eC pg R c b false 45 #[b6] fun d e g=>
 aF (bu.one a) (aF (bu.one d) ((aF (av [(I aO),(I aZ),(I ba),(I bA),(I bN),(I bQ),a,d] bu.one) ((fin R g e (.agg #[(I aO),(I aZ),(I ba),(I bA),(I bN),(I bQ),a,d])))))))
noncomputable def Hr:bz:=⟨75,[(4,(pg.cellsOf 158)),(6,(pg.cellsOf 32)),(8,(pg.cellsOf 32)),(9,(pg.cellsOf 184))],[46,47,54,55,56,57,61,62],[0,1,3,5,24,26,33,34,35,36],[],[5,35]⟩
def y6 (p0:Value) (cm cu cq eJ ff fH fi fj ij wN:Int) (rO:Bool) (rP:Int) (sL:Nat) (sM sN sO qs:Value) (sP sQ:Int) (sR sS:Nat) (sU sV pr sW sX sY:Int) (sZ s4:Value):Prop:=
 eV pg R X0 w0 true (cE 73 (.agg #[(I cm),(I cu),(I cq),(I eJ),(I ff),(I fH),(I fi),(I fj),(I ij),(I wN),(B rO),(I rP),(.float .f64 sL),sM,sN,sO,qs,(I sP),(I sQ),(.float .f64 sR),(.float .f64 sS),(I sU),(I sV),(I pr),(I sW),(I sX),(I sY),sZ,s4])) fun a b c=>
 (az pg c b (aM p0) fun d=>
 ad pg c b (aT 174 2 2 3 d) fun e=>
 ad pg c b (ew 34 3 e) fun g=>
 ad pg c b (aT 73 2 4 3 a) fun h=>
 ad pg c b (ew 34 3 h) fun i=>
 eC pg R c b true 31 #[g,i] fun j k l=>
 az pg l k (aM p0) fun m=>
 ad pg l k (aT 174 2 2 3 m) fun n=>
 eU pg R l k true (st1 34 3 n j) fun _ o q=>
 ((az pg q o (aM p0) fun r=>
 ad pg q o (aT 174 3 5 1 r) fun s=>
 ad pg q o (ld1 172 s) fun t=>
 eV pg R q o true (Instr.range 172 t) fun v y z=>
 (gp z y (.slice none 0 0) 5 fun A C D E F=>
 eV pg R F E true (Instr.next v false 0) fun G H L=>
 ad pg L H (aC G 0) fun M=>
 (au M
 ((eV pg R L H true (Instr.entry v) fun N O Q=>
 ad pg Q O (aC N 0) fun S=>
 un (aj (aa S)) fun T=>
 aF (ao (ab (aa S))==3) (aF (av (ab (aa S)) bu.one) ((aF (cd T) (un (b7 T 0 3) fun U=>
 eV pg R Q O true (gq 265 32 3 1 #[(0,U)]) fun V Y Z=>
 eV pg R Z Y true (fW 265 32 3 24 265 D V) fun a0 b0 c0=>
 (gm A C a0 b0 c0)))))))
 (((ad pg L H (cB 265 3 D) fun d0=>
 (gp L H (I 0) 35 fun e0 g0 h0 i0 j0=>
 ad pg j0 i0 (binOp .lss 3 h0 d0) fun k0=>
 (au k0
 ((ad pg j0 i0 (dt 265 3 D h0) fun l0=>
 ad pg j0 i0 (ew 32 3 l0) fun m0=>
 un (aj (aa m0)) fun n0=>
 aF (ao (ab (aa m0))==3) (aF (av (ab (aa m0)) bu.one) ((az pg j0 i0 (aM p0) fun o0=>
 ad pg j0 i0 (aT 174 3 5 1 o0) fun q0=>
 ad pg j0 i0 (ld1 172 q0) fun r0=>
 aF (cd n0) (un (b7 n0 0 3) fun s0=>
 ad pg j0 i0 (ck 172 r0 s0 false) fun t0=>
 un (aj (aa t0)) fun v0=>
 aF (ao (ab (aa t0))==9) (aF (av (ab (aa t0)) bu.one) ((aF (cd v0) (ad pg j0 i0 (aT 73 6 12 1 a) fun y0=>
 ad pg j0 i0 (ld1 41 y0) fun z0=>
 un (cellOf v0 7) fun A0=>
 eC pg R j0 i0 true 168 #[A0,z0] fun C0 D0 E0=>
 ad pg E0 D0 (aC C0 0) fun F0=>
 ad pg E0 D0 (aC C0 1) fun _=>
 un (aj (aR (cz (ab (aa v0)) 7 [F0]))) fun G0=>
 aF (bu.one F0) ((aF (cd G0) (ad pg E0 D0 (ct (eO 170) #[] #[a]) fun H0=>
 un (cellOf G0 6) fun L0=>
 eC pg R E0 D0 true 169 #[L0,H0] fun M0 N0 O0=>
 un (aj (aR (cz (ab (aa G0)) 6 [M0]))) fun Q0=>
 aF (bu.one M0) ((az pg O0 N0 (aM p0) fun S0=>
 ad pg O0 N0 (aT 174 3 5 1 S0) fun T0=>
 ad pg O0 N0 (ld1 172 T0) fun U0=>
 aF (cd n0) (aF (cd Q0) (un (b7 Q0 0 9) fun V0=>
 eU pg R O0 N0 true (dE 172 U0 s0 V0) fun _ Y0 Z0=>
 ((ad pg Z0 Y0 (binOp .add 3 h0 (I 1)) fun a1=>
 gm e0 g0 a1 Y0 Z0)))))))))))))))))))
 (((ad pg j0 i0 (aT 73 5 11 1 a) fun b1=>
 ad pg j0 i0 (ld1 3 b1) fun c1=>
 eC pg R j0 i0 false 82 #[p0] fun d1 e1 g1=>
 un (cellOf d1 0) fun h1=>
 un (cellOf d1 1) fun i1=>
 un (cellOf d1 2) fun j1=>
 ad pg g1 e1 (dV 158 #[(I 2),(I 0),(I 0),(I 0),(I 0),(I 0),(I 0),(I 0),(I 0),(.slice none 0 0),c1,h1,i1,j1] #[(0,(I 2)),(2,c1),(3,d1)]) fun k1=>
 un (aj (aa k1)) fun l1=>
 aF (ao (ab (aa k1))==14) (aF (av (ab (aa k1)) bu.one) (un (b7 l1 0 14) fun m1=>
 aF (av [l1] cd) (fin R g1 e1 m1))))))))))))))))
noncomputable def pQ:bz:=⟨9,[(3,(pg.cellsOf 102))],[],[0,1,4],[],[]⟩
def kr (p0:Value) (cm cu cq eJ ff:Int):Prop:=
 (eC pg R X0 w0 true 171 #[p0,(.agg #[(I cm),(I cu),(I cq),(I eJ),(I ff)])] fun a b c=>
 ad pg c b (binOp .geq 3 a (I 0)) fun d=>
 (fin R c b d))
noncomputable def Gi:bz:=⟨39,[(3,(pg.cellsOf 156)),(5,(pg.cellsOf 34))],[12,25],[0,1,4,6,17,21,24],[],[]⟩
def xF (p0:Value) (cm cu cq eJ ff fH fi fj:Int) (ij:Value):Prop:=
 (az pg X0 w0 (aM p0) fun a=>
 ad pg X0 w0 (aT 128 3 5 1 a) fun b=>
 ad pg X0 w0 (ld1 126 b) fun c=>
 ad pg X0 w0 (ck 126 c (I cm) true) fun d=>
 ad pg X0 w0 (aC d 0) fun e=>
 ad pg X0 w0 (aC d 1) fun g=>
 un (aj (aa e)) fun _=>
 aF (ao (ab (aa e))==3) (aF (av (ab (aa e)) bu.one) ((eC pg R X0 w0 true 172 #[(.agg #[(I cm),(I cu),(I cq),(I eJ),(I ff),(I fH),(I fi),(I fj),ij])] fun h i j=>
 ad pg j i (aX bm h) fun k=>
 (au k
 (fin R j i (I 4))
 (ad pg j i (aX bm g) fun l=>
 (au l
 (fin R j i (I 8))
 (az pg j i (aM p0) fun m=>
 ad pg j i (aT 128 2 2 3 m) fun n=>
 ad pg j i (ew 34 3 n) fun o=>
 eC pg R j i true 84 #[(.agg #[(I fH),(I fi),(I fj)]),o] fun q r s=>
 ad pg s r (binOp .leq 3 q (I 0)) fun t=>
 (au t
 (fin R s r (I 20))
 (((az pg s r (aM p0) fun v=>
 ad pg s r (aT 128 0 0 1 v) fun y=>
 ad pg s r (ld1 125 y) fun z=>
 eC pg R s r true 173 #[z,(.agg #[(I cm),(I cu),(I cq),(I eJ),(I ff),(I fH),(I fi),(I fj),ij])] fun A C D=>
 (fin R D C A)))))))))))))
noncomputable def SS:bz:=⟨36,[(1,(pg.cellsOf 34)),(2,(pg.cellsOf 34))],[4,19,22,25,27,30,33,34],[0,3,8,18,26],[12,13,14,15],[]⟩
def Hs (aO aZ ba:Int):Prop:=
 ((jn (fun (a:Value) (b:World) (c:XS)=>
 (aF (cd a) (un (b7 a 0 3) fun d=>
 un (aj (aa d)) fun e=>
 aF (ao (ab (aa d))==3) (aF (av (ab (aa d)) bu.one) ((un (b7 e 0 3) fun g=>
 aF (av [e] cd) (fin R c b (aG #[g,(B true)])))))))) fun h=>
 eC pg R X0 w0 true 57 #[(.agg #[(I aO),(I aZ),(I ba)])] fun i j k=>
 ad pg k j (aX bm i) fun l=>
 un (aP l false (.agg #[(I aO),(I aZ),(I ba)])) fun m=>
 aJ pg k j l false (vS (dV 34 #[(I 0),(I 0),(I 0)] #[])) fun n=>
 aJ pg k j l false (vS (aH .eql 34 (.tmp 13) (.tmp 14) m n)) fun o=>
 az pg k j (aQ l (B true) o) fun q=>
 (au q
 (ad pg k j (dV 34 #[(I 0),(I 0),(I 0)] #[]) fun r=>
 un (aj (aa r)) fun s=>
 aF (ao (ab (aa r))==3) (aF (av (ab (aa r)) bu.one) ((un (b7 s 0 3) fun t=>
 aF (av [s] cd) (fin R k j (aG #[t,(B false)]))))))
 (ad pg k j (binOp .gtr 3 (I ba) (I 0)) fun v=>
 (au v
 (ad pg k j (binOp .sub 3 (I ba) (I 1)) fun y=>
 aF (bu.one y) ((h (.agg #[(I aO),(I aZ),y]) j k)))
 (ad pg k j (binOp .gtr 3 (I aZ) (I 0)) fun z=>
 (au z
 (ad pg k j (binOp .sub 3 (I aZ) (I 1)) fun A=>
 aF (bu.one A) (((h (.agg #[(I aO),A,(I 63)]) j k))))
 (ad pg k j (binOp .sub 3 (I aO) (I 1)) fun C=>
 ad pg k j (dV 34 #[C,(I 65535),(I 63)] #[(0,C),(1,(I 65535)),(2,(I 63))]) fun D=>
 un (aj (aa D)) fun E=>
 aF (ao (ab (aa D))==3) (aF (av (ab (aa D)) bu.one) (h E j k))))))))))
noncomputable def Jc:bz:=⟨98,[(3,(pg.cellsOf 34)),(7,(pg.cellsOf 156)),(10,(pg.cellsOf 69))],[49,54,56,71,93],[0,1,4,5,6,8,30,52,87,88,89,90],[18,19,20,21,22,23,24,25,26,27,28,29,41,42,43,44,45,46,47,48,50,51],[5,6,89]⟩
def zw (p0:Value) (cm cu cq:Int):Prop:=
 (((il X0 w0 (I 0) (.slice none 0 0) 6 5 fun a b c d e g=>
 az pg g e (aM p0) fun h=>
 ad pg g e (aT 179 0 0 1 h) fun i=>
 ad pg g e (ld1 177 i) fun j=>
 ad pg g e (cB 177 3 j) fun k=>
 ad pg g e (binOp .lss 3 c k) fun l=>
 un (aP l true p0) fun m=>
 aJ pg g e l true (aM m) fun n=>
 aJ pg g e l true (vS (aT 179 0 0 1 n)) fun o=>
 aJ pg g e l true (vS (ld1 177 o)) fun q=>
 un (aP l true c) fun r=>
 aJ pg g e l true (vS (dt 177 9 q r)) fun s=>
 aJ pg g e l true (vS (aT 156 3 5 3 s)) fun t=>
 aJ pg g e l true (vS (ew 34 3 t)) fun v=>
 un (aP l true (.agg #[(I cm),(I cu),(I cq)])) fun y=>
 jn (fun (z:Value) (A:World) (C:XS)=>
 aJ pg C A l true (vS (binOp .leq 3 z (I 0))) fun D=>
 az pg C A (aQ l D (B false)) fun E=>
 (au E
 ((az pg C A (aM p0) fun F=>
 ad pg C A (aT 179 0 0 1 F) fun G=>
 ad pg C A (ld1 177 G) fun H=>
 ad pg C A (dt 177 9 H c) fun L=>
 ad pg C A (ew 156 9 L) fun M=>
 un (aj (aa M)) fun N=>
 aF (ao (ab (aa M))==9) (aF (av (ab (aa M)) bu.one) (((jn (fun (O:Value) (Q:World) (S:XS)=>
 ad pg S Q (cB 63 3 O) fun T=>
 ad pg S Q (binOp .sub 3 T (I 1)) fun U=>
 ad pg S Q (dt 63 7 O U) fun V=>
 (az pg S Q (aM V) fun Y=>
 ad pg S Q (aT 69 2 6 1 Y) fun Z=>
 ad pg S Q (ld1 37 Z) fun a0=>
 aF (cd N) (un (cellOf N 8) fun b0=>
 eV pg R S Q true (fW 37 118 4 48 37 a0 b0) fun c0 d0 e0=>
 az pg e0 d0 (aM V) fun g0=>
 ad pg e0 d0 (aT 69 2 6 1 g0) fun h0=>
 eU pg R e0 d0 true (st1 37 1 h0 c0) fun _ i0 j0=>
 (ad pg j0 i0 (binOp .add 3 c (I 1)) fun k0=>
 (im a b k0 O i0 j0))))) fun l0=>
 ad pg C A (cB 63 3 d) fun m0=>
 ad pg C A (aH .eql 3 (.tmp 39) (.const (I 0)) m0 (I 0)) fun n0=>
 un (aP n0 false d) fun o0=>
 aJ pg C A n0 false (vS (cB 63 3 o0)) fun q0=>
 aJ pg C A n0 false (vS (binOp .sub 3 q0 (I 1))) fun r0=>
 aJ pg C A n0 false (vS (dt 63 7 o0 r0)) fun s0=>
 aJ pg C A n0 false (vS (aT 69 0 0 3 s0)) fun t0=>
 aJ pg C A n0 false (vS (ew 32 3 t0)) fun v0=>
 aF (cd N) (un (b7 N 2 3) fun y0=>
 un (aP n0 false y0) fun z0=>
 aJ pg C A n0 false (vS (aH .neq 32 (.tmp 48) (.tmp 50) v0 z0)) fun A0=>
 az pg C A (aQ n0 (B true) A0) fun C0=>
 (au C0
 (aF (cd N) (un (b7 N 5 3) fun D0=>
 un (cellOf y0 0) fun E0=>
 un (cellOf y0 1) fun F0=>
 un (cellOf y0 2) fun G0=>
 un (cellOf D0 0) fun H0=>
 un (cellOf D0 1) fun L0=>
 un (cellOf D0 2) fun M0=>
 ad pg C A (dV 69 #[E0,F0,G0,H0,L0,M0,(.slice none 0 0)] #[(0,y0),(1,D0)]) fun N0=>
 eV pg R C A true (gq 63 69 7 1 #[(0,N0)]) fun O0 Q0 S0=>
 eV pg R S0 Q0 true (fW 63 69 7 72 63 d O0) fun T0 U0 V0=>
 (l0 T0 U0 V0)))
 (l0 d A C)))))))))
 (((az pg C A (aM p0) fun Y0=>
 ad pg C A (aT 179 0 0 1 Y0) fun Z0=>
 ad pg C A (ld1 177 Z0) fun a1=>
 eC pg R C A true 174 #[a1,(I 0),c] fun b1 c1 d1=>
 az pg d1 c1 (aM p0) fun e1=>
 ad pg d1 c1 (aT 179 0 0 1 e1) fun g1=>
 eU pg R d1 c1 true (st1 177 1 g1 b1) fun _ h1 i1=>
 (ad pg i1 h1 (cB 63 3 d) fun j1=>
 (gp i1 h1 (I 0) 89 fun k1 l1 m1 n1 o1=>
 ad pg o1 n1 (binOp .lss 3 m1 j1) fun q1=>
 (au q1
 ((ad pg o1 n1 (dt 63 7 d m1) fun r1=>
 ad pg o1 n1 (ew 69 7 r1) fun s1=>
 un (aj (aa s1)) fun t1=>
 aF (ao (ab (aa s1))==7) (aF (av (ab (aa s1)) bu.one) ((aF (cd t1) (un (cellOf t1 6) fun v1=>
 eC pg R o1 n1 true 175 #[v1,(Value.func (eO 176) #[] #[])] fun _ y1 z1=>
 ((ad pg z1 y1 (binOp .add 3 m1 (I 1)) fun A1=>
 gm k1 l1 A1 y1 z1))))))))
 (fin R o1 n1 d))))))))) fun C1=>
 (gE l true (eC pg R g e true 84 #[v,y] C1) (C1 undef e g)))))
noncomputable def Mt:bz:=⟨10,[],[],[0,1,4],[],[]⟩
def Cf (p0 p1:Nat):Prop:=
 (eC pg R X0 w0 true 118 #[(.float .f64 p0)] fun a b c=>
 eC pg R c b true 118 #[(.float .f64 p1)] fun d e g=>
 ad pg g e (aH .eql 208 (.tmp 6) (.tmp 8) a d) fun h=>
 (fin R g e h))
def jK (p0:Value):Prop:=
 eV pg R X0 w0 true (cE 126 p0) fun a b c=>
 (ad pg c b (ct (eO 190) #[] #[a]) fun d=>
 (fin R c b d))
noncomputable def uH:bz:=⟨19,[],[],[0,1,4,5,7,8,9,16],[],[8]⟩
def nE (p0:Value) (p1:ByteArray):Prop:=
 (ad pg X0 w0 (cB 35 3 p0) fun a=>
 (gp X0 w0 (I 0) 8 fun b c d e g=>
 ad pg g e (binOp .lss 3 d a) fun h=>
 (au h
 (((ad pg g e (dt 35 1 p0 d) fun i=>
 ad pg g e (ld1 9 i) fun j=>
 ad pg g e (aH .eql 9 (.tmp 11) (.tmp 15) (.string p1) j) fun k=>
 (au k
 (fin R g e d)
 (((ad pg g e (binOp .add 3 d (I 1)) fun l=>
 gm b c l e g)))))))
 ((((fin R g e (I (-1)))))))))
def iR (p0:Value):Prop:=
 eV pg R X0 w0 true (cE 77 p0) fun a b c=>
 (ad pg c b (ct (eO 193) #[] #[a]) fun d=>
 (fin R c b d))
noncomputable def Ht:bz:=⟨21,[],[],[0,1,2,6,7,12,16],[],[]⟩
def y7 (p0:Value) (p1:Int) (p2:Value):Prop:=
 (az pg X0 w0 (aM p0) fun a=>
 ad pg X0 w0 (aT 79 4 4 1 a) fun b=>
 ad pg X0 w0 (ld1 4 b) fun c=>
 (au c
 (fin R X0 w0 (I 12))
 (ad pg X0 w0 (aH .neq 27 (.tmp 13) (.const (I 0)) (I p1) (I 0)) fun d=>
 (au d
 (fin R X0 w0 (I p1))
 (eC pg R X0 w0 true 147 #[p0] fun e g h=>
 (au e
 (fin R h g (I 12))
 (((eF pg R h g true p2 #[] fun _ i j=>
 (fin R j i (I 0)))))))))))
noncomputable def La:bz:=⟨12,[],[],[0,1,4,11],[],[]⟩
def Bz (p0:Value) (p1:ByteArray):Prop:=
 (az pg X0 w0 (aM p0) fun a=>
 ad pg X0 w0 (aT 79 0 0 1 a) fun b=>
 ad pg X0 w0 (ld1 77 b) fun c=>
 ad pg X0 w0 (ck 77 c (.string p1) false) fun d=>
 ad pg X0 w0 (aH .eql 191 (.tmp 10) (.const (.pointer none)) d (.pointer none)) fun e=>
 (au e
 (fin R X0 w0 (I 8))
 (fin R X0 w0 (I 0))))
noncomputable def Jd:bz:=⟨30,[],[],[0,1,4,12],[],[]⟩
def zI (p0:Value) (p1:ByteArray):Prop:=
 az pg X0 w0 (aM p0) fun a=>
 ad pg X0 w0 (aT 79 0 0 1 a) fun b=>
 ad pg X0 w0 (ld1 77 b) fun c=>
 ad pg X0 w0 (ck 77 c (.string p1) false) fun d=>
 (ad pg X0 w0 (aH .neq 191 (.tmp 11) (.const (.pointer none)) d (.pointer none)) fun e=>
 (au e
 (az pg X0 w0 (aM p0) fun g=>
 ad pg X0 w0 (aT 79 1 1 1 g) fun h=>
 ad pg X0 w0 (ld1 3 h) fun i=>
 az pg X0 w0 (aM d) fun j=>
 ad pg X0 w0 (aT 193 0 0 1 j) fun k=>
 ad pg X0 w0 (ld1 132 k) fun l=>
 ad pg X0 w0 (cB 132 3 l) fun m=>
 ad pg X0 w0 (binOp .sub 3 i m) fun n=>
 az pg X0 w0 (aM p0) fun o=>
 ad pg X0 w0 (aT 79 1 1 1 o) fun q=>
 eU pg R X0 w0 true (st1 3 1 q n) fun _ r s=>
 (az pg s r (aM p0) fun t=>
 ad pg s r (aT 79 0 0 1 t) fun v=>
 ad pg s r (ld1 77 v) fun y=>
 eV pg R s r true (iQ #[77,9] 0 #[y,(.string p1)]) fun _ z A=>
 fin R A z (aG #[])))
 (fin R X0 w0 (aG #[]))))
noncomputable def SU:bz:=⟨11,[],[],[0,2],[6,7,8,9],[]⟩
def Hu (p0:ByteArray):Prop:=
 (ad pg X0 w0 (lS 9 3 (.string p0)) fun a=>
 ad pg X0 w0 (binOp .geq 3 a (I 1)) fun b=>
 un (aP b true (.string p0)) fun c=>
 aJ pg X0 w0 b true (vS (lS 9 3 c)) fun d=>
 aJ pg X0 w0 b true (vS (binOp .leq 3 d (I 20))) fun e=>
 az pg X0 w0 (aQ b e (B false)) fun g=>
 (fin R X0 w0 g))
noncomputable def CM:bz:=⟨9,[],[],[0,1],[],[]⟩
def tY (c0 c1:Value):Prop:=
 ad pg X0 w0 (ld1 24 c0) fun a=>
 az pg X0 w0 (aM a) fun b=>
 ad pg X0 w0 (aT 79 0 0 1 b) fun c=>
 ad pg X0 w0 (ld1 77 c) fun d=>
 ad pg X0 w0 (ld1 9 c1) fun e=>
 ad pg X0 w0 (dV 193 #[(.slice none 0 0),(I 0)] #[]) fun g=>
 eV pg R X0 w0 false (cE 193 g) fun h i j=>
 eU pg R j i true (dE 77 d e h) fun _ k l=>
 fin R l k (aG #[])
noncomputable def SV:bz:=⟨19,[],[],[0,1,4],[],[]⟩
def Hv (p0:Value) (p1:Int):Prop:=
 (ad pg X0 w0 (lT gL 194 5 (aU gf p1)) fun a=>
 ad pg X0 w0 (binOp .shr 194 (aU gf p1) (aU bq 8)) fun b=>
 ad pg X0 w0 (lT gL 194 5 b) fun c=>
 ad pg X0 w0 (binOp .shr 194 (aU gf p1) (aU bq 16)) fun d=>
 ad pg X0 w0 (lT gL 194 5 d) fun e=>
 ad pg X0 w0 (binOp .shr 194 (aU gf p1) (aU bq 24)) fun g=>
 ad pg X0 w0 (lT gL 194 5 g) fun h=>
 eV pg R X0 w0 true (gq 132 5 1 4 #[(0,a),(1,c),(2,e),(3,h)]) fun i j k=>
 eV pg R k j true (fW 132 5 1 1 132 p0 i) fun l m n=>
 (fin R n m l))
def zW (p0:Value):Prop:=
 ((jn (fun (a:World) (b:XS)=>
 (jn (fun (c:World) (d:XS)=>
 az pg d c (aM p0) fun e=>
 ad pg d c (aT 79 4 4 1 e) fun g=>
 ad pg d c (ld1 4 g) fun h=>
 (fin R d c h)) fun i=>
 az pg b a (aM p0) fun j=>
 ad pg b a (aT 79 4 4 1 j) fun k=>
 ad pg b a (ld1 4 k) fun l=>
 ad pg b a (aX bm l) fun m=>
 (au m
 (az pg b a (aM p0) fun n=>
 ad pg b a (aT 79 2 2 1 n) fun o=>
 ad pg b a (ld1 3 o) fun q=>
 ad pg b a (binOp .add 3 q (I 1)) fun r=>
 az pg b a (aM p0) fun s=>
 ad pg b a (aT 79 2 2 1 s) fun t=>
 eU pg R b a true (st1 3 1 t r) fun _ v y=>
 (i v y))
 (i a b)))) fun z=>
 az pg X0 w0 (aM p0) fun A=>
 ad pg X0 w0 (aT 79 3 3 1 A) fun C=>
 ad pg X0 w0 (ld1 3 C) fun D=>
 ad pg X0 w0 (binOp .gtr 3 D (I 0)) fun E=>
 (au E
 (az pg X0 w0 (aM p0) fun F=>
 ad pg X0 w0 (aT 79 3 3 1 F) fun G=>
 ad pg X0 w0 (ld1 3 G) fun H=>
 ad pg X0 w0 (binOp .sub 3 H (I 1)) fun L=>
 az pg X0 w0 (aM p0) fun M=>
 ad pg X0 w0 (aT 79 3 3 1 M) fun N=>
 eU pg R X0 w0 true (st1 3 1 N L) fun _ O Q=>
 (az pg Q O (aM p0) fun S=>
 ad pg Q O (aT 79 3 3 1 S) fun T=>
 ad pg Q O (ld1 3 T) fun U=>
 ad pg Q O (aH .eql 3 (.tmp 19) (.const (I 0)) U (I 0)) fun V=>
 az pg Q O (aM p0) fun Y=>
 ad pg Q O (aT 79 4 4 1 Y) fun Z=>
 eU pg R Q O true (st1 4 1 Z V) fun _ a0 b0=>
 (z a0 b0)))
 (z w0 X0))))
noncomputable def EH:bz:=⟨20,[],[],[0,1],[],[]⟩
def wU (c0 c1:Value):Prop:=
 ad pg X0 w0 (ld1 24 c0) fun a=>
 az pg X0 w0 (aM a) fun b=>
 ad pg X0 w0 (aT 79 0 0 1 b) fun c=>
 ad pg X0 w0 (ld1 77 c) fun d=>
 ad pg X0 w0 (ld1 9 c1) fun e=>
 ad pg X0 w0 (ck 77 d e false) fun g=>
 ad pg X0 w0 (ld1 24 c0) fun h=>
 az pg X0 w0 (aM h) fun i=>
 ad pg X0 w0 (aT 79 0 0 1 i) fun j=>
 ad pg X0 w0 (ld1 77 j) fun k=>
 ad pg X0 w0 (ld1 9 c1) fun l=>
 ad pg X0 w0 (ck 77 k l false) fun m=>
 az pg X0 w0 (aM m) fun n=>
 ad pg X0 w0 (aT 193 0 0 1 n) fun o=>
 ad pg X0 w0 (ld1 132 o) fun q=>
 ad pg X0 w0 (cB 132 3 q) fun r=>
 az pg X0 w0 (aM g) fun s=>
 ad pg X0 w0 (aT 193 1 1 1 s) fun t=>
 eU pg R X0 w0 true (st1 3 1 t r) fun _ v y=>
 fin R y v (aG #[])
noncomputable def CN:bz:=⟨25,[],[],[0,1,2,5],[],[]⟩
def tT (c0 c1 c2:Value):Prop:=
 ad pg X0 w0 (ld1 9 c0) fun a=>
 ad pg X0 w0 (ld1 9 c1) fun b=>
 ad pg X0 w0 (aH .eql 9 (.tmp 3) (.tmp 4) a b) fun c=>
 (au c
 (fin R X0 w0 (aG #[]))
 ((ad pg X0 w0 (ld1 24 c2) fun d=>
 ad pg X0 w0 (ld1 9 c1) fun e=>
 eC pg R X0 w0 true 143 #[d,e] fun _ g h=>
 (ad pg h g (ld1 24 c2) fun i=>
 az pg h g (aM i) fun j=>
 ad pg h g (aT 79 0 0 1 j) fun k=>
 ad pg h g (ld1 77 k) fun l=>
 ad pg h g (ld1 9 c1) fun m=>
 ad pg h g (ld1 24 c2) fun n=>
 az pg h g (aM n) fun o=>
 ad pg h g (aT 79 0 0 1 o) fun q=>
 ad pg h g (ld1 77 q) fun r=>
 ad pg h g (ld1 9 c0) fun s=>
 ad pg h g (ck 77 r s false) fun t=>
 eU pg R h g true (dE 77 l m t) fun _ v y=>
 (ad pg y v (ld1 24 c2) fun z=>
 az pg y v (aM z) fun A=>
 ad pg y v (aT 79 0 0 1 A) fun C=>
 ad pg y v (ld1 77 C) fun D=>
 ad pg y v (ld1 9 c0) fun E=>
 eV pg R y v true (iQ #[77,9] 0 #[D,E]) fun _ F G=>
 fin R G F (aG #[]))))))
def DG:Prop:=
 (eV pg R X0 w0 true (kM 243 true (aG #[])) fun a b c=>
 ((pR c b (I 0) undef undef 4 9 3 fun d e g _ _ h i=>
 ad pg i h (binOp .lss 3 g (I 256)) fun j=>
 (au j
 (((ad pg i h (lT gf 3 194 g) fun k=>
 ((il i h (I 0) k 9 3 fun l m n o q r=>
 ad pg r q (binOp .lss 3 n (I 8)) fun s=>
 (au s
 ((ad pg r q (binOp .shr 194 o (aU bq 1)) fun t=>
 ad pg r q (binOp .and 194 o (aU gf 1)) fun v=>
 ad pg r q (aX UnOp.neg v) fun y=>
 ad pg r q (binOp .and 194 (aU gf 2197175160) y) fun z=>
 ad pg r q (binOp .xor 194 t z) fun A=>
 ((ad pg r q (binOp .add 3 n (I 1)) fun C=>
 im l m C A q r))))
 (((ad pg r q (Instr.indexAt 243 a g) fun D=>
 eU pg R r q true (st1 194 1 D o) fun _ E F=>
 ((ad pg F E (binOp .add 3 g (I 1)) fun G=>
 pS d e G n o E F)))))))))))
 (((ad pg i h (ew 243 256 a) fun H=>
 un (aj (aa H)) fun L=>
 aF (ao (ab (aa H))==256) (aF (av (ab (aa H)) bu.one) (un (b7 L 0 256) fun M=>
 aF (av [L] cd) (fin R i h M))))))))))
noncomputable def Ny:bz:=⟨21,[(1,(pg.cellsOf 32))],[3,7,12,17],[0,2],[6,8,9,11,13,14,16,18,19],[]⟩
def DH (aO aZ ba:Int):Prop:=
 (ad pg X0 w0 (binOp .geq 3 (I aO) (I 1)) fun a=>
 un (aP a true (I aO)) fun b=>
 aJ pg X0 w0 a true (vS (binOp .leq 3 b (I 2))) fun c=>
 az pg X0 w0 (aQ a c (B false)) fun d=>
 un (aP d true (I aZ)) fun e=>
 aJ pg X0 w0 d true (vS (binOp .geq 3 e (I 1))) fun g=>
 az pg X0 w0 (aQ d g (B false)) fun h=>
 un (aP h true (I ba)) fun i=>
 aJ pg X0 w0 h true (vS (binOp .geq 3 i (I 1))) fun j=>
 az pg X0 w0 (aQ h j (B false)) fun k=>
 (fin R X0 w0 k))
def Hw (p0:Value):Prop:=
 (ad pg X0 w0 (cB 35 3 p0) fun a=>
 (gp X0 w0 (I 0) 7 fun b c d e g=>
 ad pg g e (binOp .lss 3 d a) fun h=>
 (au h
 ((ad pg g e (dt 35 1 p0 d) fun i=>
 ad pg g e (ld1 9 i) fun j=>
 (eC pg R g e true 194 #[j] fun k l m=>
 ad pg m l (aX bm k) fun n=>
 un (aP n false d) fun o=>
 aJ pg m l n false (vS (binOp .gtr 3 o (I 0))) fun q=>
 un (aP n false q) fun r=>
 un (aP r true p0) fun s=>
 un (aP r true d) fun t=>
 aJ pg m l r true (vS (binOp .sub 3 t (I 1))) fun v=>
 aJ pg m l r true (vS (dt 35 1 s v)) fun y=>
 aJ pg m l r true (vS (ld1 9 y)) fun z=>
 un (aP r true j) fun A=>
 aJ pg m l r true (vS (binOp .geq 9 z A)) fun C=>
 aJ pg m l n false (aQ r C (B false)) fun D=>
 az pg m l (aQ n (B true) D) fun E=>
 (au E
 (fin R m l (B false))
 (((ad pg m l (binOp .add 3 d (I 1)) fun F=>
 gm b c F l m)))))))
 (((ad pg g e (cB 35 3 p0) fun G=>
 ad pg g e (binOp .leq 3 G (I 16)) fun H=>
 (fin R g e H)))))))
noncomputable def SX:bz:=⟨25,[],[],[0,1,2,6,8],[10,11,12,13,17,18,19,21,22,23],[]⟩
def Hx (p0:Int) (p1:Bool) (p2:Value):Prop:=
 (ad pg X0 w0 (aH .eql 27 (.tmp 7) (.const (I 0)) (I p0) (I 0)) fun a=>
 (au a
 (un (aP (B p1) true p2) fun b=>
 aJ pg X0 w0 (B p1) true (vS (cB 39 3 b)) fun c=>
 aJ pg X0 w0 (B p1) true (vS (aH .eql 3 (.tmp 12) (.const (I 0)) c (I 0))) fun d=>
 az pg X0 w0 (aQ (B p1) d (B false)) fun e=>
 (fin R X0 w0 e))
 ((ad pg X0 w0 (binOp .gtr 27 (I p0) (I 0)) fun g=>
 un (aP g true (I p0)) fun h=>
 aJ pg X0 w0 g true (vS (binOp .leq 27 h (I 25))) fun i=>
 az pg X0 w0 (aQ g i (B false)) fun j=>
 un (aP j true p2) fun k=>
 jn (fun (l:Value) (m:World) (n:XS)=>
 az pg n m (aQ j l (B false)) fun o=>
 (fin R n m o)) fun q=>
 (gE j true (eC pg R X0 w0 true 195 #[k] q) (q undef w0 X0))))))
def Hy (p0:Value):Prop:=
 ((ad pg X0 w0 (cB 36 3 p0) fun a=>
 (il X0 w0 (I 0) (.slice none 0 0) 8 3 fun b c d e g h=>
 ad pg h g (binOp .lss 3 d a) fun i=>
 (au i
 ((ad pg h g (dt 36 7 p0 d) fun j=>
 ad pg h g (ew 166 7 j) fun k=>
 un (aj (aa k)) fun l=>
 aF (ao (ab (aa k))==7) (aF (av (ab (aa k)) bu.one) ((aF (cd l) (un (cellOf l 0) fun m=>
 eV pg R h g true (gq 35 9 1 1 #[(0,m)]) fun n o q=>
 eV pg R q o true (fW 35 9 1 16 35 e n) fun r s t=>
 (aF (cd l) (un (b7 l 4 3) fun v=>
 eC pg R t s true 57 #[v] fun y z A=>
 ad pg A z (aX bm y) fun C=>
 un (b7 l 1 3) fun D=>
 un (aP C false D) fun E=>
 jn (fun (F:Value) (G:World) (H:XS)=>
 aJ pg H G C false (vS (aX bm F)) fun L=>
 az pg H G (aQ C (B true) L) fun M=>
 un (aP M false v) fun N=>
 aJ pg H G M false (vS (dV 34 #[(I 0),(I 0),(I 0)] #[])) fun O=>
 aJ pg H G M false (vS (aH .eql 34 (.tmp 29) (.tmp 30) N O)) fun Q=>
 un (aP M false Q) fun S=>
 un (cellOf l 1) fun T=>
 un (aP S true T) fun U=>
 aJ pg H G S true (vS (aH .neq 3 (.tmp 35) (.const (I 0)) U (I 0))) fun V=>
 aJ pg H G M false (aQ S V (B false)) fun Y=>
 az pg H G (aQ M (B true) Y) fun Z=>
 (au Z
 (fin R H G (B false))
 (((ad pg H G (binOp .add 3 d (I 1)) fun a0=>
 im b c a0 r G H))))) fun b0=>
 (gE C false (eC pg R A z true 196 #[E] b0) (b0 undef z A))))))))))
 (eC pg R h g true 153 #[e] fun c0 d0 e0=>
 (fin R e0 d0 c0))))))
def Cg (p0:Value):Prop:=
 ((ad pg X0 w0 (cB 37 3 p0) fun a=>
 (il X0 w0 (I 0) (.slice none 0 0) 8 3 fun b c d e g h=>
 ad pg h g (binOp .lss 3 d a) fun i=>
 (au i
 ((ad pg h g (dt 37 4 p0 d) fun j=>
 ad pg h g (ew 118 4 j) fun k=>
 un (aj (aa k)) fun l=>
 aF (ao (ab (aa k))==4) (aF (av (ab (aa k)) bu.one) ((aF (cd l) (un (cellOf l 0) fun m=>
 eV pg R h g true (gq 35 9 1 1 #[(0,m)]) fun n o q=>
 eV pg R q o true (fW 35 9 1 16 35 e n) fun r s t=>
 (aF (cd l) (un (b7 l 1 3) fun v=>
 eC pg R t s true 196 #[v] fun y z A=>
 ad pg A z (aX bm y) fun C=>
 (au C
 (fin R A z (B false))
 (((ad pg A z (binOp .add 3 d (I 1)) fun D=>
 im b c D r z A))))))))))))
 (eC pg R h g true 153 #[e] fun E F G=>
 (fin R G F E))))))
def FD (p0:Value):Prop:=
 (ad pg X0 w0 (cB 38 3 p0) fun a=>
 (gp X0 w0 (I 0) 7 fun b c d e g=>
 ad pg g e (binOp .lss 3 d a) fun h=>
 (au h
 ((ad pg g e (dt 38 1 p0 d) fun i=>
 ad pg g e (ld1 3 i) fun j=>
 (ad pg g e (binOp .lss 3 j (I 1)) fun k=>
 un (aP k false j) fun l=>
 aJ pg g e k false (vS (binOp .gtr 3 l (I 12))) fun m=>
 az pg g e (aQ k (B true) m) fun n=>
 un (aP n false d) fun o=>
 aJ pg g e n false (vS (binOp .gtr 3 o (I 0))) fun q=>
 un (aP n false q) fun r=>
 un (aP r true p0) fun s=>
 un (aP r true d) fun t=>
 aJ pg g e r true (vS (binOp .sub 3 t (I 1))) fun v=>
 aJ pg g e r true (vS (dt 38 1 s v)) fun y=>
 aJ pg g e r true (vS (ld1 3 y)) fun z=>
 un (aP r true j) fun A=>
 aJ pg g e r true (vS (binOp .geq 3 z A)) fun C=>
 aJ pg g e n false (aQ r C (B false)) fun D=>
 az pg g e (aQ n (B true) D) fun E=>
 (au E
 (fin R g e (B false))
 (((ad pg g e (binOp .add 3 d (I 1)) fun F=>
 gm b c F e g)))))))
 (((ad pg g e (cB 38 3 p0) fun G=>
 ad pg g e (binOp .gtr 3 G (I 0)) fun H=>
 (fin R g e H)))))))
noncomputable def Uy:bz:=⟨17,[],[],[0,1,4,6,7,8,9,10,15],[],[9]⟩
def Kg (p0:Value) (p1:Int):Prop:=
 (ad pg X0 w0 (cB 38 3 p0) fun a=>
 (gp X0 w0 (I 0) 9 fun b c d e g=>
 ad pg g e (binOp .lss 3 d a) fun h=>
 (au h
 ((ad pg g e (dt 38 1 p0 d) fun i=>
 ad pg g e (ld1 3 i) fun j=>
 (ad pg g e (aH .eql 3 (.tmp 13) (.tmp 14) j (I p1)) fun k=>
 (au k
 (fin R g e (B true))
 (((ad pg g e (binOp .add 3 d (I 1)) fun l=>
 gm b c l e g)))))))
 (fin R g e (B false)))))
noncomputable def Nz:bz:=⟨23,[],[],[0,1,2,3,4,5,6,10,21],[],[]⟩
def DI (aO aZ ba bA bN bQ bV b6 cI dg:Int) (cn:Bool) (cj:Int) (du:Nat) (da cY cZ dc:Value) (dh cO:Int) (cM cP:Nat) (cQ cR cX cS cT cU:Int) (cV cW:Value):Prop:=
 eV pg R X0 w0 true (cE 73 (.agg #[(I aO),(I aZ),(I ba),(I bA),(I bN),(I bQ),(I bV),(I b6),(I cI),(I dg),(B cn),(I cj),(.float .f64 du),da,cY,cZ,dc,(I dh),(I cO),(.float .f64 cM),(.float .f64 cP),(I cQ),(I cR),(I cX),(I cS),(I cT),(I cU),cV,cW])) fun a b c=>
 (ad pg c b (ew 73 29 a) fun d=>
 eC pg R c b true 166 #[d] fun e g h=>
 (ad pg h g (aH .neq 27 (.tmp 9) (.const (I 0)) e (I 0)) fun i=>
 (au i
 ((fin R h g (aG #[(.slice none 0 0),e])))
 ((eC pg R h g true 112 #[] fun j k l=>
 (ad pg l k (dV 293 #[j,(.pointer none)] #[(0,j)]) fun m=>
 eV pg R l k true (cE 293 m) fun n o q=>
 eC pg R q o true 197 #[n,a] fun _ r s=>
 (eC pg R s r true 114 #[j] fun t v y=>
 (ad pg y v (cB 132 3 t) fun z=>
 ad pg y v (binOp .gtr 3 z (I 262144)) fun A=>
 (au A
 ((fin R y v (aG #[(.slice none 0 0),(I 2)])))
 (((fin R y v (aG #[t,(I 0)])))))))))))))
noncomputable def SY:bz:=⟨33,[(1,(pg.cellsOf 43))],[3,7,12,17,22,27,29],[0,2],[6,8,9,11,13,14,16,18,19,21,23,24,26,28,30,31],[]⟩
def Hz (aO aZ:Int) (ba bA:Nat):Prop:=
 (ad pg X0 w0 (binOp .geq 3 (I aO) (I 1)) fun a=>
 un (aP a true (I aO)) fun b=>
 aJ pg X0 w0 a true (vS (binOp .leq 3 b (I 12))) fun c=>
 az pg X0 w0 (aQ a c (B false)) fun d=>
 un (aP d true (I aZ)) fun e=>
 aJ pg X0 w0 d true (vS (binOp .geq 3 e (I 0))) fun g=>
 az pg X0 w0 (aQ d g (B false)) fun h=>
 un (aP h true (.float .f64 ba)) fun i=>
 jn (fun (j:Value) (k:World) (l:XS)=>
 az pg l k (aQ h j (B false)) fun m=>
 un (aP m true (.float .f64 bA)) fun n=>
 jn (fun (o:Value) (q:World) (r:XS)=>
 az pg r q (aQ m o (B false)) fun s=>
 un (aP s true (.float .f64 ba)) fun t=>
 un (aP s true (.float .f64 bA)) fun v=>
 aJ pg r q s true (vS (binOp .lss 41 t v)) fun y=>
 az pg r q (aQ s y (B false)) fun z=>
 (fin R r q z)) fun A=>
 (gE m true (eC pg R l k true 198 #[n] A) (A undef k l))) fun C=>
 (gE h true (eC pg R X0 w0 true 198 #[i] C) (C undef w0 X0)))
def HA (p0 p1:Value):Prop:=
 (eC pg R X0 w0 true 199 #[] fun a b c=>
 ((ad pg c b (cB 44 3 p0) fun d=>
 (il c b (I 0) (.string { data:= #[] }) 18 7 fun e g h i j k=>
 ad pg k j (binOp .lss 3 h d) fun l=>
 (au l
 ((ad pg k j (dt 44 2 p0 h) fun m=>
 ad pg k j (ew 225 2 m) fun n=>
 un (aj (aa n)) fun o=>
 aF (ao (ab (aa n))==2) (aF (av (ab (aa n)) bu.one) ((aF (cd o) (un (b7 o 0 2) fun q=>
 eC pg R k j true 200 #[q,i] fun r s t=>
 ad pg t s (aX bm r) fun v=>
 (au v
 ((fin R t s (aG #[(.pointer none),(I 4)])))
 ((az pg t s (aM a) fun y=>
 ad pg t s (aT 302 0 0 1 y) fun z=>
 ad pg t s (ld1 299 z) fun A=>
 aF (cd o) (un (cellOf o 1) fun C=>
 eC pg R t s false 201 #[C] fun D E F=>
 un (cellOf o 0) fun G=>
 eU pg R F E true (dE 299 A G D) fun _ H L=>
 (aF (cd o) (((ad pg L H (binOp .add 3 h (I 1)) fun M=>
 im e g M G H L))))))))))))))
 (((ad pg k j (cB 45 3 p1) fun N=>
 (gp k j (I 0) 40 fun O Q S T U=>
 ad pg U T (binOp .lss 3 S N) fun V=>
 (au V
 ((ad pg U T (dt 45 8 p1 S) fun Y=>
 ad pg U T (ew 182 8 Y) fun Z=>
 un (aj (aa Z)) fun a0=>
 aF (ao (ab (aa Z))==8) (aF (av (ab (aa Z)) bu.one) ((aF (cd a0) (un (b7 a0 0 8) fun b0=>
 eC pg R U T true 165 #[b0] fun c0 d0 e0=>
 (az pg e0 d0 (aM a) fun g0=>
 ad pg e0 d0 (aT 302 1 1 1 g0) fun h0=>
 ad pg e0 d0 (ld1 300 h0) fun i0=>
 aF (cd a0) (un (b7 a0 0 3) fun j0=>
 ad pg e0 d0 (ck 300 i0 j0 true) fun k0=>
 ad pg e0 d0 (aC k0 0) fun l0=>
 ad pg e0 d0 (aC k0 1) fun m0=>
 un (aj (aa l0)) fun _=>
 aF (ao (ab (aa l0))==8) (aF (av (ab (aa l0)) bu.one) ((ad pg e0 d0 (aH .neq 27 (.tmp 57) (.const (I 0)) c0 (I 0)) fun n0=>
 (au n0
 ((fin R e0 d0 (aG #[(.pointer none),c0])))
 ((au m0
 ((fin R e0 d0 (aG #[(.pointer none),(I 9)])))
 (aF (cd a0) (eC pg R e0 d0 true 202 #[a,b0] fun o0 q0 r0=>
 (au o0
 ((fin R r0 q0 (aG #[(.pointer none),(I 18)])))
 (aF (cd a0) (eC pg R r0 q0 true 203 #[a,b0] fun s0 t0 v0=>
 (au s0
 ((fin R v0 t0 (aG #[(.pointer none),(I 20)])))
 (((az pg v0 t0 (aM a) fun y0=>
 ad pg v0 t0 (aT 302 1 1 1 y0) fun z0=>
 ad pg v0 t0 (ld1 300 z0) fun A0=>
 aF (cd a0) (eC pg R v0 t0 false 204 #[b0] fun C0 D0 E0=>
 eU pg R E0 D0 true (dE 300 A0 j0 C0) fun _ F0 G0=>
 ((ad pg G0 F0 (binOp .add 3 S (I 1)) fun H0=>
 gm O Q H0 F0 G0))))))))))))))))))))))))))
 ((((fin R U T (aG #[a,(I 0)])))))))))))))))
noncomputable def Gj:bz:=⟨9,[],[],[0,1,3],[],[]⟩
def xT (p0:ByteArray) (c0:Value):Prop:=
 (ad pg X0 w0 (aT 47 0 0 4 c0) fun a=>
 ad pg X0 w0 (ew 43 4 a) fun b=>
 eC pg R X0 w0 false 164 #[(.string p0)] fun c d e=>
 eC pg R e d true 163 #[b,c] fun g h i=>
 (fin R i h g))
noncomputable def Uz:bz:=⟨15,[(2,(pg.cellsOf 43))],[6,11],[0,1,4],[9,10,12,13],[]⟩
def Kh (_p0_0 _p0_1:Int) (ba bA p1:Nat):Prop:=
 (ad pg X0 w0 (binOp .geq 41 (.float .f64 p1) (.float .f64 ba)) fun a=>
 un (aP a true (.float .f64 p1)) fun b=>
 un (aP a true (.float .f64 bA)) fun c=>
 aJ pg X0 w0 a true (vS (binOp .lss 41 b c)) fun d=>
 az pg X0 w0 (aQ a d (B false)) fun e=>
 (fin R X0 w0 e))
noncomputable def UA:bz:=⟨8,[],[],[0,2],[],[]⟩
def Ki (p0:ByteArray):Prop:=
 (eC pg R X0 w0 true 205 #[(.string p0)] fun a b c=>
 ad pg c b (binOp .shr 208 a (aU bq 11)) fun d=>
 ad pg c b (uN 208 41 d) fun e=>
 ad pg c b (binOp .quo 41 e (.float .f64 4845873199050653696)) fun g=>
 (fin R c b g))
noncomputable def HB:bz:=⟨45,[(1,(pg.cellsOf 182)),(4,(pg.cellsOf 118))],[6,11,16,22,27,33,40],[0,2,5,10,21,34,35,36,37,43],[15,17,18,19,26,28,29,30,31],[36]⟩
def y8 (aO aZ ba bA bN bQ:Int) (bV b6:Value):Prop:=
 (eC pg R X0 w0 true 152 #[(.agg #[(I aO),(I aZ),(I ba)])] fun a b c=>
 ad pg c b (aX bm a) fun d=>
 (au d
 (fin R c b (I 4))
 (eC pg R c b true 57 #[(.agg #[(I bA),(I bN),(I bQ)])] fun e g h=>
 ad pg h g (aX bm e) fun i=>
 un (aP i false (.agg #[(I bA),(I bN),(I bQ)])) fun j=>
 aJ pg h g i false (vS (dV 34 #[(I 0),(I 0),(I 0)] #[])) fun k=>
 aJ pg h g i false (vS (aH .eql 34 (.tmp 17) (.tmp 18) j k)) fun l=>
 az pg h g (aQ i (B true) l) fun m=>
 (au m
 (fin R h g (I 17))
 (eC pg R h g true 206 #[bV] fun n o q=>
 ad pg q o (aX bm n) fun r=>
 un (aP r false b6) fun s=>
 jn (fun (t:Value) (v:World) (y:XS)=>
 jn (fun (z:Value) (A:World) (C:XS)=>
 aJ pg C A r false (vS (aX bm z)) fun D=>
 az pg C A (aQ r (B true) D) fun E=>
 (au E
 (fin R C A (I 4))
 (((ad pg C A (cB 37 3 b6) fun F=>
 (gp C A (I 0) 36 fun G H L M N=>
 ad pg N M (binOp .lss 3 L F) fun O=>
 (au O
 ((ad pg N M (dt 37 4 b6 L) fun Q=>
 ad pg N M (ew 118 4 Q) fun S=>
 un (aj (aa S)) fun T=>
 aF (ao (ab (aa S))==4) (aF (av (ab (aa S)) bu.one) ((aF (cd T) (un (b7 T 1 3) fun U=>
 eC pg R N M true 196 #[U] fun V Y Z=>
 ad pg Z Y (aX bm V) fun a0=>
 (au a0
 (fin R Z Y (I 4))
 (((ad pg Z Y (binOp .add 3 L (I 1)) fun b0=>
 gm G H b0 Y Z))))))))))
 (fin R N M (I 0))))))))) fun c0=>
 (gE r false (eC pg R y v true 206 #[t] c0) (c0 undef v y))) fun d0=>
 (gE r false (eC pg R q o true 207 #[s] d0) (d0 undef o q)))))))
noncomputable def UB:bz:=⟨22,[(1,(pg.cellsOf 73)),(3,(pg.cellsOf 73))],[],[0,2,4,10,13],[17,18,19,20],[]⟩
def Kj (aO aZ ba bA bN bQ bV b6 cI dg:Int) (cn:Bool) (cj:Int) (du:Nat) (da cY cZ dc:Value) (dh cO:Int) (cM cP:Nat) (cQ cR cX cS cT cU:Int) (cV cW:Value):Prop:=
 (eC pg R X0 w0 true 208 #[(.agg #[(I aO),(I aZ),(I ba),(I bA),(I bN),(I bQ),(I bV),(I b6),(I cI),(I dg),(B cn),(I cj),(.float .f64 du),da,cY,cZ,dc,(I dh),(I cO),(.float .f64 cM),(.float .f64 cP),(I cQ),(I cR),(I cX),(I cS),(I cT),(I cU),cV,cW])] fun a b c=>
 ad pg c b (aC a 0) fun d=>
 ad pg c b (aC a 1) fun e=>
 un (aj (aa d)) fun g=>
 aF (ao (ab (aa d))==29) (aF (av (ab (aa d)) bu.one) ((ad pg c b (aX bm e) fun h=>
 (au h
 (fin R c b (I 7))
 (aF (cd g) (un (b7 g 0 29) fun i=>
 eC pg R c b true 209 #[i] fun j k l=>
 ad pg l k (aX bm j) fun m=>
 un (aP m false (.agg #[(I aO),(I aZ),(I ba),(I bA),(I bN),(I bQ),(I bV),(I b6),(I cI),(I dg),(B cn),(I cj),(.float .f64 du),da,cY,cZ,dc,(I dh),(I cO),(.float .f64 cM),(.float .f64 cP),(I cQ),(I cR),(I cX),(I cS),(I cT),(I cU),cV,cW])) fun n=>
 jn (fun (o:Value) (q:World) (r:XS)=>
 aJ pg r q m false (vS (aX bm o)) fun s=>
 az pg r q (aQ m (B true) s) fun t=>
 (au t
 (fin R r q (I 4))
 (fin R r q (I 0)))) fun v=>
 (gE m false (eC pg R l k true 210 #[n] v) (v undef k l)))))))))
def nF (p0:Value):Prop:=
 (ad pg X0 w0 (aH .eql 35 (.tmp 3) (.const (.slice none 0 0)) p0 (.slice none 0 0)) fun a=>
 (au a
 (fin R X0 w0 (.slice none 0 0))
 (eV pg R X0 w0 true (gq 35 9 1 0 #[]) fun b c d=>
 eV pg R d c true (fW 35 9 1 16 35 b p0) fun e g h=>
 (fin R h g e))))
noncomputable def PY:bz:=⟨30,[(7,(pg.cellsOf 118))],[14],[0,1,4,5,8,9,10,11,18],[],[4,5,10]⟩
def FE (p0:Value) (p1:Nat):Prop:=
 (ad pg X0 w0 (cB 37 3 p0) fun a=>
 (pR X0 w0 (I 0) (.slice none 0 0) (.slice none 0 0) 10 5 4 fun b c d e g h i=>
 ad pg i h (binOp .lss 3 d a) fun j=>
 (au j
 (((jn (fun (k l:Value) (m:World) (n:XS)=>
 (ad pg n m (binOp .add 3 d (I 1)) fun o=>
 pS b c o l k m n)) fun q=>
 ad pg i h (dt 37 4 p0 d) fun r=>
 ad pg i h (ew 118 4 r) fun s=>
 un (aj (aa s)) fun t=>
 aF (ao (ab (aa s))==4) (aF (av (ab (aa s)) bu.one) ((aF (cd t) (un (cellOf t 0) fun v=>
 eC pg R i h true 164 #[v] fun y z A=>
 ad pg A z (binOp .lss 41 y (.float .f64 p1)) fun C=>
 (au C
 (aF (cd t) (un (b7 t 0 4) fun D=>
 eV pg R A z true (gq 37 118 4 1 #[(0,D)]) fun E F G=>
 eV pg R G F true (fW 37 118 4 48 37 g E) fun H L M=>
 (q H e L M)))
 (aF (cd t) (un (b7 t 0 4) fun N=>
 eV pg R A z true (gq 37 118 4 1 #[(0,N)]) fun O Q S=>
 eV pg R S Q true (fW 37 118 4 48 37 e O) fun T U V=>
 (q g T U V)))))))))))
 (fin R i h (aG #[g,e])))))
def lJ (p0 p1:Value):Prop:=
 (eC pg R X0 w0 true 211 #[p0,p1] fun a b c=>
 (ad pg c b (aH .eql 3 (.tmp 11) (.const (I (-1))) a (I (-1))) fun d=>
 (au d
 (fin R c b p0)
 ((ad pg c b (binOp .add 3 a (I 1)) fun e=>
 (il c b e a 6 5 fun g h i j k l=>
 ad pg l k (cB 35 3 p0) fun m=>
 ad pg l k (binOp .lss 3 i m) fun n=>
 (au n
 (((jn (fun (o:Value) (q:World) (r:XS)=>
 (ad pg r q (binOp .add 3 i (I 1)) fun s=>
 im g h s o q r)) fun t=>
 ad pg l k (dt 35 1 p0 i) fun v=>
 ad pg l k (ld1 9 v) fun y=>
 (eF pg R l k true p1 #[y] fun z A C=>
 ad pg C A (aX bm z) fun D=>
 (au D
 (ad pg C A (dt 35 1 p0 j) fun E=>
 eU pg R C A true (st1 9 1 E y) fun _ F G=>
 (ad pg G F (binOp .add 3 j (I 1)) fun H=>
 (t H F G)))
 (t j A C))))))
 (((ad pg l k (cp 35 p0 (some j) none none) fun L=>
 eV pg R l k true (e6 #[35] 0 #[L]) fun _ M N=>
 (ad pg N M (cp 35 p0 none (some j) none) fun O=>
 (fin R N M O))))))))))))
noncomputable def DJ:bz:=⟨9,[],[],[0,1,3],[],[]⟩
def vn (p0:ByteArray) (c0:Value):Prop:=
 (ad pg X0 w0 (aT 73 6 12 1 c0) fun a=>
 ad pg X0 w0 (ld1 41 a) fun b=>
 eC pg R X0 w0 false 164 #[(.string p0)] fun c d e=>
 ad pg e d (binOp .geq 41 c b) fun g=>
 (fin R e d g))
noncomputable def qZ:bz:=⟨19,[(3,(pg.cellsOf 102))],[],[0,1,4,5,7,8,9,16],[],[8]⟩
def lq (p0:Value) (cm cu cq eJ ff:Int):Prop:=
 (ad pg X0 w0 (cB 91 3 p0) fun a=>
 (gp X0 w0 (I 0) 8 fun b c d e g=>
 ad pg g e (binOp .lss 3 d a) fun h=>
 (au h
 (((ad pg g e (dt 91 5 p0 d) fun i=>
 ad pg g e (ew 102 5 i) fun j=>
 ad pg g e (aH .eql 102 (.tmp 11) (.tmp 15) (.agg #[(I cm),(I cu),(I cq),(I eJ),(I ff)]) j) fun k=>
 (au k
 (fin R g e d)
 (((ad pg g e (binOp .add 3 d (I 1)) fun l=>
 gm b c l e g)))))))
 ((((fin R g e (I (-1)))))))))
noncomputable def UC:bz:=⟨31,[(1,(pg.cellsOf 156))],[3,7,12,17,22,24,26],[0,2,21],[6,8,9,11,13,14,16,18,19,20],[]⟩
def Kk (aO aZ ba bA bN bQ bV b6:Int) (cI:Value):Prop:=
 (ad pg X0 w0 (binOp .lss 3 (I aO) (I 1)) fun a=>
 un (aP a false (I aO)) fun b=>
 aJ pg X0 w0 a false (vS (binOp .gtr 3 b (I 12))) fun c=>
 az pg X0 w0 (aQ a (B true) c) fun d=>
 un (aP d false (I aZ)) fun e=>
 aJ pg X0 w0 d false (vS (binOp .lss 3 e (I 1))) fun g=>
 az pg X0 w0 (aQ d (B true) g) fun h=>
 un (aP h false cI) fun i=>
 aJ pg X0 w0 h false (vS (cB 37 3 i)) fun j=>
 aJ pg X0 w0 h false (vS (aH .eql 3 (.tmp 19) (.const (I 0)) j (I 0))) fun k=>
 az pg X0 w0 (aQ h (B true) k) fun l=>
 (au l
 (fin R X0 w0 (B false))
 ((ad pg X0 w0 (dV 182 #[(I ba),(I bA),(I bN),(I bQ),(I bV),(I b6),(.slice none 0 0),cI] #[(0,(.agg #[(I ba),(I bA),(I bN)])),(1,(.agg #[(I bQ),(I bV),(I b6)])),(3,cI)]) fun m=>
 eC pg R X0 w0 true 165 #[m] fun n o q=>
 ad pg q o (aH .eql 27 (.tmp 29) (.const (I 0)) n (I 0)) fun r=>
 (fin R q o r)))))
noncomputable def Lb:bz:=⟨79,[(3,(pg.cellsOf 156)),(7,(pg.cellsOf 156))],[16,18,30,32,35,37,43,45,49,51],[0,1,4,5,8,10,14,24,25,26,27,40,57],[42,44,46,47,48,50,52,53,54],[5,26]⟩
def BB (p0:Value) (cm cu cq eJ ff fH fi fj:Int) (ij:Value):Prop:=
 (eC pg R X0 w0 true 172 #[(.agg #[(I cm),(I cu),(I cq),(I eJ),(I ff),(I fH),(I fi),(I fj),ij])] fun a b c=>
 ad pg c b (aX bm a) fun d=>
 (au d
 (fin R c b (I 4))
 (eC pg R c b true 212 #[p0,(I cm),(.agg #[(I cq),(I eJ),(I ff)])] fun e g h=>
 (au e
 (fin R h g (I 9))
 ((((az pg h g (aM p0) fun i=>
 ad pg h g (aT 179 0 0 1 i) fun j=>
 ad pg h g (ld1 177 j) fun k=>
 ad pg h g (cB 177 3 k) fun l=>
 (il h g (I 0) (B false) 26 5 fun m n o q r s=>
 ad pg s r (binOp .lss 3 o l) fun t=>
 (au t
 ((ad pg s r (dt 177 9 k o) fun v=>
 ad pg s r (ew 156 9 v) fun y=>
 un (aj (aa y)) fun z=>
 aF (ao (ab (aa y))==9) (aF (av (ab (aa y)) bu.one) ((aF (cd z) (un (b7 z 2 3) fun A=>
 ad pg s r (aH .eql 32 (.tmp 31) (.tmp 33) A (.agg #[(I cq),(I eJ),(I ff)])) fun C=>
 un (b7 z 5 3) fun D=>
 ad pg s r (aH .eql 34 (.tmp 36) (.tmp 38) D (.agg #[(I fH),(I fi),(I fj)])) fun E=>
 ad pg s r (aH .neq 4 (.tmp 34) (.tmp 39) C E) fun F=>
 (au F
 (fin R s r (I 17))
 ((aF (cd z) (un (aP q false A) fun G=>
 un (aP q false (.agg #[(I cq),(I eJ),(I ff)])) fun H=>
 aJ pg s r q false (vS (aH .eql 32 (.tmp 44) (.tmp 46) G H)) fun L=>
 un (aP q false L) fun M=>
 un (cellOf z 8) fun N=>
 un (aP M true N) fun O=>
 un (aP M true ij) fun Q=>
 jn (fun (S:Value) (T:World) (U:XS)=>
 aJ pg U T q false (aQ M S (B false)) fun V=>
 az pg U T (aQ q (B true) V) fun Y=>
 ((ad pg U T (binOp .add 3 o (I 1)) fun Z=>
 im m n Z Y T U))) fun a0=>
 (gE M true (eC pg R s r true 213 #[O,Q] a0) (a0 undef r s))))))))))))
 ((((au q
 (fin R s r (I 18))
 ((az pg s r (aM p0) fun b0=>
 ad pg s r (aT 179 0 0 1 b0) fun c0=>
 ad pg s r (ld1 177 c0) fun d0=>
 eC pg R s r true 214 #[d0,(.agg #[(I cm),(I cu),(I cq),(I eJ),(I ff),(I fH),(I fi),(I fj),ij]),(Value.func (eO 215) #[] #[])] fun e0 g0 h0=>
 ad pg h0 g0 (aC e0 0) fun i0=>
 ad pg h0 g0 (aC e0 1) fun _=>
 (az pg h0 g0 (aM p0) fun j0=>
 ad pg h0 g0 (aT 179 0 0 1 j0) fun k0=>
 ad pg h0 g0 (ld1 177 k0) fun l0=>
 eC pg R h0 g0 false 217 #[(.agg #[(I cm),(I cu),(I cq),(I eJ),(I ff),(I fH),(I fi),(I fj),ij])] fun m0 n0 o0=>
 eV pg R o0 n0 false (gq 177 156 9 1 #[(0,m0)]) fun q0 r0 s0=>
 eC pg R s0 r0 true 216 #[l0,i0,q0] fun t0 v0 y0=>
 az pg y0 v0 (aM p0) fun z0=>
 ad pg y0 v0 (aT 179 0 0 1 z0) fun A0=>
 eU pg R y0 v0 true (st1 177 1 A0 t0) fun _ C0 D0=>
 (fin R D0 C0 (I 0)))))))))))))))))))
noncomputable def oJ:bz:=⟨33,[],[],[0,1,2,6,7,16],[20,23],[]⟩
def jy (p0:Value) (p1 p2:Int):Prop:=
 (ad pg X0 w0 (cB 177 3 p0) fun a=>
 ad pg X0 w0 (cp 177 p0 (some (I p1)) (some (I p2)) (some a)) fun _=>
 (ad pg X0 w0 (aH .eql 3 (.tmp 14) (.tmp 15) (I p1) (I p2)) fun b=>
 (au b
 (fin R X0 w0 p0)
 ((ad pg X0 w0 (cB 177 3 p0) fun c=>
 (ad pg X0 w0 (cp 177 p0 none (some (I p1)) none) fun d=>
 ad pg X0 w0 (cp 177 p0 (some (I p2)) none none) fun e=>
 eV pg R X0 w0 true (fW 177 156 9 88 177 d e) fun g h i=>
 (ad pg i h (cB 177 3 g) fun j=>
 ad pg i h (cp 177 g (some j) (some c) none) fun k=>
 eV pg R i h true (e6 #[177] 0 #[k]) fun _ l m=>
 (fin R m l g))))))))
noncomputable def SZ:bz:=⟨11,[],[],[0,2],[6,7,8,9],[]⟩
def HC (p0:ByteArray):Prop:=
 (ad pg X0 w0 (lS 9 3 (.string p0)) fun a=>
 ad pg X0 w0 (binOp .geq 3 a (I 1)) fun b=>
 un (aP b true (.string p0)) fun c=>
 aJ pg X0 w0 b true (vS (lS 9 3 c)) fun d=>
 aJ pg X0 w0 b true (vS (binOp .leq 3 d (I 24))) fun e=>
 az pg X0 w0 (aQ b e (B false)) fun g=>
 (fin R X0 w0 g))
def FF (p0:Value):Prop:=
 (ad pg X0 w0 (cB 39 3 p0) fun a=>
 (gp X0 w0 (I 0) 7 fun b c d e g=>
 ad pg g e (binOp .lss 3 d a) fun h=>
 (au h
 ((ad pg g e (dt 39 4 p0 d) fun i=>
 ad pg g e (ew 43 4 i) fun j=>
 un (aj (aa j)) fun k=>
 aF (ao (ab (aa j))==4) (aF (av (ab (aa j)) bu.one) ((aF (cd k) (un (b7 k 0 4) fun l=>
 eC pg R g e true 160 #[l] fun m n o=>
 ad pg o n (aX bm m) fun q=>
 (au q
 (fin R o n (B false))
 (((ad pg o n (binOp .add 3 d (I 1)) fun r=>
 gm b c r n o))))))))))
 (((ad pg g e (cB 39 3 p0) fun s=>
 ad pg g e (binOp .leq 3 s (I 12)) fun t=>
 (fin R g e t)))))))
noncomputable def S3:bz:=⟨41,[(1,(pg.cellsOf 116))],[4,8,14,20,24,27,36],[0,2,3,9,10,18,32],[13,15,16,23,25,26,28,29,30,35,37,38,39],[]⟩
def HD (aO:Int) (aZ:Nat) (ba:ByteArray):Prop:=
 (eC pg R X0 w0 true 118 #[(.float .f64 aZ)] fun a b c=>
 ad pg c b (aH .eql 208 (.tmp 6) (.const (aU bq 0)) a (aU bq 0)) fun d=>
 ((ad pg c b (aH .eql 3 (.tmp 9) (.const (I 0)) (I aO) (I 0)) fun e=>
 (au e
 (un (aP d true (.string ba)) fun g=>
 aJ pg c b d true (vS (aH .eql 9 (.tmp 15) (.const (.string { data:= #[] })) g (.string { data:= #[] }))) fun h=>
 az pg c b (aQ d h (B false)) fun i=>
 (fin R c b i))
 (ad pg c b (aH .eql 3 (.tmp 9) (.const (I 1)) (I aO) (I 1)) fun j=>
 (au j
 (ad pg c b (aH .eql 9 (.tmp 21) (.const (.string { data:= #[] })) (.string ba) (.string { data:= #[] })) fun k=>
 un (aP k true (.float .f64 aZ)) fun l=>
 jn (fun (m:Value) (n:World) (o:XS)=>
 jn (fun (q:Value) (r:World) (s:XS)=>
 aJ pg s r k true (vS (aH .eql 208 (.tmp 26) (.tmp 29) m q)) fun t=>
 az pg s r (aQ k t (B false)) fun v=>
 (fin R s r v)) fun y=>
 (gE k true (eC pg R o n true 228 #[l] y) (y undef n o))) fun z=>
 (gE k true (eC pg R c b false 118 #[l] z) (z undef b c)))
 (ad pg c b (aH .eql 3 (.tmp 9) (.const (I 2)) (I aO) (I 2)) fun A=>
 (au A
 (un (aP d true (.string ba)) fun C=>
 aJ pg c b d true (vS (lS 9 3 C)) fun D=>
 aJ pg c b d true (vS (binOp .leq 3 D (I 64))) fun E=>
 az pg c b (aQ d E (B false)) fun F=>
 (fin R c b F))
 (fin R c b (B false))))))))))
def HE (p0 p1:Value):Prop:=
 az pg X0 w0 (aM p1) fun a=>
 ad pg X0 w0 (aT 73 0 0 1 a) fun b=>
 eC pg R X0 w0 true 229 #[p0,b] fun _ c d=>
 (az pg d c (aM p1) fun e=>
 ad pg d c (aT 73 0 0 1 e) fun g=>
 ad pg d c (ld1 3 g) fun h=>
 ((jn (fun (i:World) (j:XS)=>
 fin R j i (aG #[])) fun k=>
 ad pg d c (aH .eql 3 (.tmp 13) (.const (I 1)) h (I 1)) fun l=>
 (au l
 (az pg d c (aM p1) fun m=>
 ad pg d c (aT 73 11 17 12 m) fun n=>
 eC pg R d c true 230 #[p0,n] fun _ o q=>
 (k o q))
 ((jn (fun (r:Value)=>
 au r
 (az pg d c (aM p1) fun s=>
 ad pg d c (aT 73 5 11 1 s) fun t=>
 eC pg R d c true 229 #[p0,t] fun _ v y=>
 (k v y))
 (ad pg d c (aH .eql 3 (.tmp 13) (.const (I 3)) h (I 3)) fun z=>
 (au z
 (az pg d c (aM p1) fun A=>
 ad pg d c (aT 73 1 1 3 A) fun C=>
 ad pg d c (ew 32 3 C) fun D=>
 az pg d c (aM p1) fun E=>
 ad pg d c (aT 73 2 4 3 E) fun F=>
 ad pg d c (ew 34 3 F) fun G=>
 az pg d c (aM p1) fun H=>
 ad pg d c (aT 73 7 13 1 H) fun L=>
 ad pg d c (ld1 35 L) fun M=>
 az pg d c (aM p1) fun N=>
 ad pg d c (aT 73 8 14 1 N) fun O=>
 ad pg d c (ld1 37 O) fun Q=>
 un (cellOf D 0) fun S=>
 un (cellOf D 1) fun T=>
 un (cellOf D 2) fun U=>
 un (cellOf G 0) fun V=>
 un (cellOf G 1) fun Y=>
 un (cellOf G 2) fun Z=>
 ad pg d c (dV 182 #[S,T,U,V,Y,Z,M,Q] #[(0,D),(1,G),(2,M),(3,Q)]) fun a0=>
 eV pg R d c false (kM 182 true (aG #[])) fun b0 c0 d0=>
 eU pg R d0 c0 true (st1 182 8 b0 a0) fun _ e0 g0=>
 (eC pg R g0 e0 true 231 #[p0,b0] fun _ h0 i0=>
 (ad pg i0 h0 (aT 182 0 0 3 b0) fun j0=>
 ad pg i0 h0 (ew 32 3 j0) fun k0=>
 ad pg i0 h0 (aT 182 1 3 3 b0) fun l0=>
 ad pg i0 h0 (ew 34 3 l0) fun m0=>
 ad pg i0 h0 (aT 182 2 6 1 b0) fun n0=>
 ad pg i0 h0 (ld1 35 n0) fun o0=>
 ad pg i0 h0 (aT 182 3 7 1 b0) fun q0=>
 ad pg i0 h0 (ld1 37 q0) fun r0=>
 az pg i0 h0 (aM p1) fun s0=>
 ad pg i0 h0 (aT 73 1 1 3 s0) fun t0=>
 eU pg R i0 h0 true (st1 32 3 t0 k0) fun _ v0 y0=>
 az pg y0 v0 (aM p1) fun z0=>
 ad pg y0 v0 (aT 73 2 4 3 z0) fun A0=>
 eU pg R y0 v0 true (st1 34 3 A0 m0) fun _ C0 D0=>
 az pg D0 C0 (aM p1) fun E0=>
 ad pg D0 C0 (aT 73 7 13 1 E0) fun F0=>
 eU pg R D0 C0 true (st1 35 1 F0 o0) fun _ G0 H0=>
 az pg H0 G0 (aM p1) fun L0=>
 ad pg H0 G0 (aT 73 8 14 1 L0) fun M0=>
 eU pg R H0 G0 true (st1 37 1 M0 r0) fun _ N0 O0=>
 (az pg O0 N0 (aM p1) fun Q0=>
 ad pg O0 N0 (aT 73 9 15 1 Q0) fun S0=>
 ad pg O0 N0 (ct (eO 229) #[p0] #[]) fun T0=>
 eC pg R O0 N0 true 232 #[p0,S0,T0] fun _ U0 V0=>
 (k U0 V0)))))
 (ad pg d c (aH .eql 3 (.tmp 13) (.const (I 4)) h (I 4)) fun Y0=>
 (au Y0
 (az pg d c (aM p1) fun Z0=>
 ad pg d c (aT 73 1 1 3 Z0) fun a1=>
 eC pg R d c true 233 #[p0,a1] fun _ b1 c1=>
 (az pg c1 b1 (aM p1) fun d1=>
 ad pg c1 b1 (aT 73 4 10 1 d1) fun e1=>
 eC pg R c1 b1 true 234 #[p0,e1] fun _ g1 h1=>
 (az pg h1 g1 (aM p1) fun i1=>
 ad pg h1 g1 (aT 73 2 4 3 i1) fun j1=>
 eC pg R h1 g1 true 235 #[p0,j1] fun _ k1 l1=>
 (k k1 l1))))
 (ad pg d c (aH .eql 3 (.tmp 13) (.const (I 5)) h (I 5)) fun m1=>
 (au m1
 (az pg d c (aM p1) fun n1=>
 ad pg d c (aT 73 2 4 3 n1) fun o1=>
 eC pg R d c true 235 #[p0,o1] fun _ q1 r1=>
 (k q1 r1))
 (ad pg d c (aH .eql 3 (.tmp 13) (.const (I 6)) h (I 6)) fun s1=>
 (au s1
 (az pg d c (aM p1) fun t1=>
 ad pg d c (aT 73 6 12 1 t1) fun v1=>
 eC pg R d c true 236 #[p0,v1] fun _ y1 z1=>
 (az pg z1 y1 (aM p1) fun A1=>
 ad pg z1 y1 (aT 73 5 11 1 A1) fun C1=>
 eC pg R z1 y1 true 229 #[p0,C1] fun _ D1 E1=>
 (az pg E1 D1 (aM p1) fun F1=>
 ad pg E1 D1 (aT 73 2 4 3 F1) fun G1=>
 eC pg R E1 D1 true 235 #[p0,G1] fun _ H1 L1=>
 (k H1 L1))))
 (ad pg d c (aH .eql 3 (.tmp 13) (.const (I 9)) h (I 9)) fun M1=>
 (au M1
 (az pg d c (aM p1) fun N1=>
 ad pg d c (aT 73 1 1 3 N1) fun O1=>
 eC pg R d c true 233 #[p0,O1] fun _ Q1 S1=>
 (az pg S1 Q1 (aM p1) fun T1=>
 ad pg S1 Q1 (aT 73 2 4 3 T1) fun U1=>
 eC pg R S1 Q1 true 235 #[p0,U1] fun _ V1 Y1=>
 (az pg Y1 V1 (aM p1) fun Z1=>
 ad pg Y1 V1 (aT 73 9 15 1 Z1) fun a2=>
 ad pg Y1 V1 (ct (eO 229) #[p0] #[]) fun b2=>
 eC pg R Y1 V1 true 232 #[p0,a2,b2] fun _ c2 d2=>
 (k c2 d2))))
 (ad pg d c (aH .eql 3 (.tmp 13) (.const (I 10)) h (I 10)) fun e2=>
 (au e2
 (az pg d c (aM p1) fun g2=>
 ad pg d c (aT 73 1 1 3 g2) fun h2=>
 eC pg R d c true 233 #[p0,h2] fun _ i2 j2=>
 (k i2 j2))
 (ad pg d c (aH .eql 3 (.tmp 13) (.const (I 11)) h (I 11)) fun k2=>
 (au k2
 (az pg d c (aM p1) fun l2=>
 ad pg d c (aT 73 3 7 3 l2) fun m2=>
 eC pg R d c true 235 #[p0,m2] fun _ n2 o2=>
 (az pg o2 n2 (aM p1) fun q2=>
 ad pg o2 n2 (aT 73 2 4 3 q2) fun r2=>
 eC pg R o2 n2 true 235 #[p0,r2] fun _ s2 t2=>
 (az pg t2 s2 (aM p1) fun v2=>
 ad pg t2 s2 (aT 73 1 1 3 v2) fun y2=>
 eC pg R t2 s2 true 233 #[p0,y2] fun _ z2 A2=>
 (az pg A2 z2 (aM p1) fun C2=>
 ad pg A2 z2 (aT 73 8 14 1 C2) fun D2=>
 ad pg A2 z2 (ct (eO 238) #[p0] #[]) fun E2=>
 eC pg R A2 z2 true 237 #[p0,D2,E2] fun _ F2 G2=>
 (k F2 G2)))))
 (ad pg d c (aH .eql 3 (.tmp 13) (.const (I 12)) h (I 12)) fun H2=>
 (au H2
 (az pg d c (aM p1) fun L2=>
 ad pg d c (aT 73 2 4 3 L2) fun M2=>
 eC pg R d c true 235 #[p0,M2] fun _ N2 O2=>
 (az pg O2 N2 (aM p1) fun Q2=>
 ad pg O2 N2 (aT 73 10 16 1 Q2) fun S2=>
 ad pg O2 N2 (ct (eO 240) #[p0] #[]) fun T2=>
 eC pg R O2 N2 true 239 #[p0,S2,T2] fun _ U2 V2=>
 (k U2 V2)))
 (k c d)))))))))))))))))) fun Y2=>
 ad pg d c (aH .eql 3 (.tmp 13) (.const (I 2)) h (I 2)) fun Z2=>
 (au Z2
 (Y2 Z2)
 (ad pg d c (aH .eql 3 (.tmp 13) (.const (I 7)) h (I 7)) fun a3=>
 (au a3
 (Y2 a3)
 (ad pg d c (aH .eql 3 (.tmp 13) (.const (I 8)) h (I 8)) fun b3=>
 (Y2 b3)))))))))))
noncomputable def NA:bz:=⟨10,[],[],[0,2],[6,7,8],[]⟩
def DK (p0:Nat):Prop:=
 (eC pg R X0 w0 true 241 #[(.float .f64 p0)] fun a b c=>
 ad pg c b (binOp .geq 3 a (I 5)) fun d=>
 un (aP d true (.float .f64 p0)) fun e=>
 aJ pg c b d true (vS (binOp .leq 41 e (.float .f64 4607182418800017408))) fun g=>
 az pg c b (aQ d g (B false)) fun h=>
 (fin R c b h))
def Kl:Prop:=
 (eV pg R X0 w0 true (Instr.makeMap 299 none) fun a b c=>
 eV pg R c b true (Instr.makeMap 300 none) fun d e g=>
 ad pg g e (dV 302 #[a,d,(I 0),(I 0),(I 0)] #[(0,a),(1,d)]) fun h=>
 eV pg R g e true (cE 302 h) fun i j k=>
 (fin R k j i))
end
end Go.Proofs.YtfndblbeikocdaaGreat
