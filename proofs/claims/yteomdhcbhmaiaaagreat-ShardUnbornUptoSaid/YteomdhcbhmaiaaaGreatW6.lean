/-
 Part 6 of the proof: what the last text leans on.
-/
import Derived.Test.YteomdhcbhmaiaaaGreatProg
import Derived.KernelRfl
import Derived.Test.YteomdhcbhmaiaaaGreatW5
open Go.Value renaming cells → aa, int → aF, agg → ai, tuple → ay
open Array renaming toList → ab
open Go.IntKind renaming u64 → aZ, u32 → fA, u8 → dE
open List renaming all → aq, length → ao, toArray → aI
open Go.Op renaming unary → aQ
open Go.UnOp renaming not → aT
open Go.Instr renaming extract → aB, lookup → dI, makeFunc → cL
set_option linter.unusedVariables false
set_option linter.unusedSimpArgs false
namespace Go.Proofs.YteomdhcbhmaiaaaGreat
open Go.Proofs.Tryz renaming prog → pg
open Go.aX
set_option maxRecDepth 100000
section
variable (R : Ending → World → Prop) (w0 : World) (X0 : XS)
noncomputable def IG:ba:=⟨52,[(2,(pg.cellsOf 129)),(5,(pg.cellsOf 27)),(7,(pg.cellsOf 131))],[8,13,19,25,32,37,44,49],[0,1,4,23,26,27,28,29,48],[12,14,15,16,18,20,21,22,36,38,39,40,41,43,45,46,47],[5,28]⟩
def yF (aR:ByteArray) (aW:Value) (p1:ByteArray):Prop:=
 (eC pg R X0 w0 true 215 #[(.string aR)] fun a b c=>
 ad pg c b (aQ aT a) fun d=>
 un (aK d false (.string aR)) fun e=>
 un (aK d false (.string p1)) fun g=>
 aG pg c b d false (vS (binOp .leq 9 e g)) fun h=>
 aw pg c b (aM d (B true) h) fun i=>
 un (aK i false aW) fun j=>
 aG pg c b i false (vS (cY 127 3 j)) fun k=>
 aG pg c b i false (vS (aD .eql 3 (.tmp 21) (.const (I 0)) k (I 0))) fun l=>
 aw pg c b (aM i (B true) l) fun m=>
 (au m
 (fin R c b (B false))
 ((ad pg c b (dK 27 #[(I 0),(I 0),(I 0)] #[]) fun n=>
 un (ai (aa n)) fun o=>
 aC (ao (ab (aa n))==3) (aC (aq (ab (aa n)) aX.one) ((ad pg c b (cY 127 3 aW) fun q=>
 (ja c b (I 0) o 28 5 fun r s t v y z=>
 ad pg z y (binOp .lss 3 t q) fun A=>
 (au A
 ((ad pg z y (dy 127 6 aW t) fun C=>
 ad pg z y (ff 131 6 C) fun D=>
 un (ai (aa D)) fun E=>
 aC (ao (ab (aa D))==6) (aC (aq (ab (aa D)) aX.one) ((aC (bP E) (un (bV E 0 3) fun F=>
 eC pg R z y true 144 #[F] fun G H L=>
 ad pg L H (aQ aT G) fun M=>
 un (aK M false F) fun N=>
 aC (bP v) (un (bV v 0 3) fun O=>
 un (aK M false O) fun Q=>
 jn (fun (S:Value) (T:World) (U:XS)=>
 aG pg U T M false (vS (binOp .leq 3 S (I 0))) fun V=>
 aw pg U T (aM M (B true) V) fun Y=>
 un (bV E 3 3) fun Z=>
 un (aK Y false Z) fun a0=>
 jn (fun (b0:Value) (c0:World) (d0:XS)=>
 aG pg d0 c0 Y false (vS (aQ aT b0)) fun e0=>
 aw pg d0 c0 (aM Y (B true) e0) fun g0=>
 (au g0
 (fin R d0 c0 (B false))
 ((aC (bP E) (aC (bP v) (un (ai (aa F)) fun h0=>
 aC (ao (ab (aa F))==3) (aC (aq (ab (aa F)) aX.one) (((ad pg d0 c0 (binOp .add 3 t (I 1)) fun i0=>
 jb r s i0 h0 c0 d0)))))))))) fun j0=>
 (gE Y false (eC pg R U T true 204 #[a0] j0) (j0 undef T U))) fun k0=>
 (gE M false (eC pg R L H true 140 #[N,Q] k0) (k0 undef H L)))))))))
 (fin R z y (B true)))))))))))
def kT (p0:Value):Prop:=
 (ad pg X0 w0 (aD .eql 43 (.tmp 3) (.const (.slice none 0 0)) p0 (.slice none 0 0)) fun a=>
 (au a
 (fin R X0 w0 (.slice none 0 0))
 (eV pg R X0 w0 true (fR 43 9 1 0 #[]) fun b c d=>
 eV pg R d c true (gf 43 9 1 16 43 b p0) fun e g h=>
 (fin R h g e))))
def jz (p0:Value):Prop:=
 (ad pg X0 w0 (aD .eql 45 (.tmp 3) (.const (.slice none 0 0)) p0 (.slice none 0 0)) fun a=>
 (au a
 (fin R X0 w0 (.slice none 0 0))
 (eV pg R X0 w0 true (fR 45 71 4 0 #[]) fun b c d=>
 eV pg R d c true (gf 45 71 4 48 45 b p0) fun e g h=>
 (fin R h g e))))
def x2 (p0 p1:Value):Prop:=
 (ad pg X0 w0 (cY 43 3 p0) fun a=>
 ad pg X0 w0 (cY 43 3 p1) fun b=>
 ad pg X0 w0 (aD .neq 3 (.tmp 7) (.tmp 9) a b) fun c=>
 (au c
 (fin R X0 w0 (B false))
 (((gU X0 w0 (I 0) 5 fun d e g h i=>
 ad pg i h (cY 43 3 p0) fun j=>
 ad pg i h (binOp .lss 3 g j) fun k=>
 (au k
 ((ad pg i h (dy 43 1 p0 g) fun l=>
 ad pg i h (ld1 9 l) fun m=>
 ad pg i h (dy 43 1 p1 g) fun n=>
 ad pg i h (ld1 9 n) fun o=>
 ad pg i h (aD .neq 9 (.tmp 20) (.tmp 24) m o) fun q=>
 (au q
 (fin R i h (B false))
 (((ad pg i h (binOp .add 3 g (I 1)) fun r=>
 gV d e r h i))))))
 (fin R i h (B true))))))))
def wy (p0 p1:Value):Prop:=
 (ad pg X0 w0 (cY 45 3 p0) fun a=>
 ad pg X0 w0 (cY 45 3 p1) fun b=>
 ad pg X0 w0 (aD .neq 3 (.tmp 7) (.tmp 9) a b) fun c=>
 (au c
 (fin R X0 w0 (B false))
 (((gU X0 w0 (I 0) 5 fun d e g h i=>
 ad pg i h (cY 45 3 p0) fun j=>
 ad pg i h (binOp .lss 3 g j) fun k=>
 (au k
 ((ad pg i h (dy 45 4 p0 g) fun l=>
 ad pg i h (aJ 71 0 0 1 l) fun m=>
 ad pg i h (ld1 9 m) fun n=>
 ad pg i h (dy 45 4 p1 g) fun o=>
 ad pg i h (aJ 71 0 0 1 o) fun q=>
 ad pg i h (ld1 9 q) fun r=>
 ad pg i h (aD .neq 9 (.tmp 21) (.tmp 26) n r) fun s=>
 un (aK s false p0) fun t=>
 un (aK s false g) fun v=>
 aG pg i h s false (vS (dy 45 4 t v)) fun y=>
 aG pg i h s false (vS (aJ 71 1 1 3 y)) fun z=>
 aG pg i h s false (vS (ff 69 3 z)) fun A=>
 un (aK s false p1) fun C=>
 aG pg i h s false (vS (dy 45 4 C v)) fun D=>
 aG pg i h s false (vS (aJ 71 1 1 3 D)) fun E=>
 aG pg i h s false (vS (ff 69 3 E)) fun F=>
 jn (fun (G:Value) (H:World) (L:XS)=>
 aG pg L H s false (vS (aQ aT G)) fun M=>
 aw pg L H (aM s (B true) M) fun N=>
 (au N
 (fin R L H (B false))
 (((ad pg L H (binOp .add 3 g (I 1)) fun O=>
 gV d e O H L))))) fun Q=>
 (gE s false (eC pg R i h true 106 #[A,F] Q) (Q undef h i))))
 (fin R i h (B true))))))))
noncomputable def Oe:ba:=⟨36,[],[],[0,2,3,4,5,6,14,21,24,27,32],[17,18,19],[]⟩
def DP (p0:Nat):Prop:=
 (eC pg R X0 w0 true 233 #[(.float .f64 p0)] fun a b c=>
 (ad pg c b (binOp .shr 250 a (aF aZ 52)) fun d=>
 ad pg c b (binOp .and 250 d (aF aZ 2047)) fun e=>
 ad pg c b (binOp .and 250 a (aF aZ 4503599627370495)) fun g=>
 (((jn (fun (h:Value)=>
 (ad pg c b (binOp .and 250 a (aF aZ 9223372036854775808)) fun i=>
 ad pg c b (aD .neq 250 (.tmp 31) (.const (aF aZ 0)) i (aF aZ 0)) fun j=>
 (au j
 (ad pg c b (binOp .sub 3 (I 9) h) fun k=>
 (fin R c b k))
 (fin R c b h)))) fun l=>
 ad pg c b (aD .eql 250 (.tmp 15) (.const (aF aZ 2047)) e (aF aZ 2047)) fun m=>
 un (aK m true g) fun n=>
 aG pg c b m true (vS (aD .neq 250 (.tmp 18) (.const (aF aZ 0)) n (aF aZ 0))) fun o=>
 aw pg c b (aM m o (B false)) fun q=>
 (au q
 (fin R c b (I 0))
 (ad pg c b (aD .eql 250 (.tmp 22) (.const (aF aZ 2047)) e (aF aZ 2047)) fun r=>
 (au r
 (l (I 8))
 (ad pg c b (binOp .gtr 250 e (aF aZ 0)) fun s=>
 (au s
 (l (I 7))
 (ad pg c b (binOp .gtr 250 g (aF aZ 0)) fun t=>
 (au t
 (l (I 6))
 (l (I 5))))))))))))))
noncomputable def IH:ba:=⟨68,[(1,(pg.cellsOf 91)),(2,(pg.cellsOf 91))],[4,10,15,20,21,22,23,24,29,30,31,35,39,40,41,46,47,48,52,58,59,60,61,65,66],[0,3,5,7,11,16,25,32,36,42,49,53,62],[],[]⟩
def yG (aR aW aY bB bQ bR bS bW cN cj:Int) (bJ:Bool) (bG:Int) (cR:Nat) (cH cE cG cI:Value) (cK cm:Int) (ca cn:Nat) (cq ct cD cu cy cz:Int) (cA cB:Value):Prop:=
 (((jn (fun (a:Value)=>
 (aC (bP a) (un (bV a 0 29) fun b=>
 un (ai (aa b)) fun c=>
 aC (ao (ab (aa b))==29) (aC (aq (ab (aa b)) aX.one) ((un (bV c 0 29) fun d=>
 aC (aq [c] bP) (fin R X0 w0 (ay #[d,(B true)])))))))) fun e=>
 ad pg X0 w0 (aD .eql 3 (.tmp 5) (.const (I 1)) (I aR) (I 1)) fun g=>
 (au g
 (ad pg X0 w0 (dK 31 #[(I 0),(I 0),(.float .f64 0),(.float .f64 0),(I 0),(I 0),(I 0),(I 0),(I 0),(I 0),(.slice none 0 0),(.slice none 0 0)] #[]) fun h=>
 un (ai (aI (cP [(I aR),(I aW),(I aY),(I bB),(I bQ),(I bR),(I bS),(I bW),(I cN),(I cj),(B bJ),(I bG),(.float .f64 cR),cH,cE,cG,cI,(I cK),(I cm),(.float .f64 ca),(.float .f64 cn),(I cq),(I ct),(I cD),(I cu),(I cy),(I cz),cA,cB] 17 (ab (aa h))))) fun i=>
 aC (ao (ab (aa h))==12) (aC (aq (ab (aa h)) aX.one) (e i)))
 ((jn (fun (j:Value)=>
 au j
 ((e (.agg #[(I aR),(I aW),(I aY),(I bB),(I bQ),(I bR),(I bS),(I bW),(I cN),(I cj),(B bJ),(I 0),(.float .f64 cR),cH,cE,cG,cI,(I cK),(I cm),(.float .f64 ca),(.float .f64 cn),(I cq),(I ct),(I cD),(I cu),(I cy),(I cz),cA,cB])))
 (ad pg X0 w0 (aD .eql 3 (.tmp 5) (.const (I 3)) (I aR) (I 3)) fun k=>
 (au k
 (ad pg X0 w0 (dK 42 #[(I 0),(I 0),(I 0)] #[]) fun l=>
 ad pg X0 w0 (dK 27 #[(I 0),(I 0),(I 0)] #[]) fun m=>
 un (ai (aI (cP [(I aR),(I aW),(I aY),(I bB),(I bQ),(I bR),(I bS),(I bW),(I cN),(I cj),(B bJ),(I bG),(.float .f64 cR),cH,cE,cG,cI,(I cK),(I cm),(.float .f64 ca),(.float .f64 cn),(I cq),(I ct),(I cD),(I cu),(I cy),(I cz),cA,cB] 1 (ab (aa l))))) fun n=>
 aC (ao (ab (aa l))==3) (aC (aq (ab (aa l)) aX.one) (un (ai (aI (cP (ab (aa n)) 4 (ab (aa m))))) fun o=>
 aC (ao (ab (aa m))==3) (aC (aq (ab (aa m)) aX.one) (un (ai (aI (cP (ab (aa o)) 13 [(.slice none 0 0)]))) fun q=>
 un (ai (aI (cP (ab (aa q)) 14 [(.slice none 0 0)]))) fun r=>
 un (ai (aI (cP (ab (aa r)) 15 [(.slice none 0 0)]))) fun s=>
 (e s))))))
 (ad pg X0 w0 (aD .eql 3 (.tmp 5) (.const (I 4)) (I aR) (I 4)) fun t=>
 (au t
 (ad pg X0 w0 (dK 42 #[(I 0),(I 0),(I 0)] #[]) fun v=>
 ad pg X0 w0 (dK 27 #[(I 0),(I 0),(I 0)] #[]) fun y=>
 un (ai (aI (cP [(I aR),(I aW),(I aY),(I bB),(I bQ),(I bR),(I bS),(I bW),(I cN),(I cj),(B bJ),(I bG),(.float .f64 cR),cH,cE,cG,cI,(I cK),(I cm),(.float .f64 ca),(.float .f64 cn),(I cq),(I ct),(I cD),(I cu),(I cy),(I cz),cA,cB] 1 (ab (aa v))))) fun z=>
 aC (ao (ab (aa v))==3) (aC (aq (ab (aa v)) aX.one) (un (ai (aI (cP (ab (aa z)) 10 [(B false)]))) fun A=>
 un (ai (aI (cP (ab (aa A)) 4 (ab (aa y))))) fun C=>
 aC (ao (ab (aa y))==3) (aC (aq (ab (aa y)) aX.one) (e C)))))
 (ad pg X0 w0 (aD .eql 3 (.tmp 5) (.const (I 5)) (I aR) (I 5)) fun D=>
 (au D
 (ad pg X0 w0 (dK 27 #[(I 0),(I 0),(I 0)] #[]) fun E=>
 un (ai (aI (cP [(I aR),(I aW),(I aY),(I bB),(I bQ),(I bR),(I bS),(I bW),(I cN),(I cj),(B bJ),(I bG),(.float .f64 cR),cH,cE,cG,cI,(I cK),(I cm),(.float .f64 ca),(.float .f64 cn),(I cq),(I ct),(I cD),(I cu),(I cy),(I cz),cA,cB] 4 (ab (aa E))))) fun F=>
 aC (ao (ab (aa E))==3) (aC (aq (ab (aa E)) aX.one) (e F)))
 (ad pg X0 w0 (aD .eql 3 (.tmp 5) (.const (I 6)) (I aR) (I 6)) fun G=>
 (au G
 (ad pg X0 w0 (dK 27 #[(I 0),(I 0),(I 0)] #[]) fun H=>
 un (ai (aI (cP [(I aR),(I aW),(I aY),(I bB),(I bQ),(I bR),(I bS),(I bW),(I cN),(I cj),(B bJ),(I 0),(.float .f64 0),cH,cE,cG,cI,(I cK),(I cm),(.float .f64 ca),(.float .f64 cn),(I cq),(I ct),(I cD),(I cu),(I cy),(I cz),cA,cB] 4 (ab (aa H))))) fun L=>
 aC (ao (ab (aa H))==3) (aC (aq (ab (aa H)) aX.one) (e L)))
 (ad pg X0 w0 (aD .eql 3 (.tmp 5) (.const (I 9)) (I aR) (I 9)) fun M=>
 (au M
 (ad pg X0 w0 (dK 42 #[(I 0),(I 0),(I 0)] #[]) fun N=>
 ad pg X0 w0 (dK 27 #[(I 0),(I 0),(I 0)] #[]) fun O=>
 un (ai (aI (cP [(I aR),(I aW),(I aY),(I bB),(I bQ),(I bR),(I bS),(I bW),(I cN),(I cj),(B bJ),(I bG),(.float .f64 cR),cH,cE,cG,cI,(I cK),(I cm),(.float .f64 ca),(.float .f64 cn),(I cq),(I ct),(I cD),(I cu),(I cy),(I cz),cA,cB] 1 (ab (aa N))))) fun Q=>
 aC (ao (ab (aa N))==3) (aC (aq (ab (aa N)) aX.one) (un (ai (aI (cP (ab (aa Q)) 4 (ab (aa O))))) fun S=>
 aC (ao (ab (aa O))==3) (aC (aq (ab (aa O)) aX.one) (un (ai (aI (cP (ab (aa S)) 15 [(.slice none 0 0)]))) fun T=>
 (e T))))))
 (ad pg X0 w0 (aD .eql 3 (.tmp 5) (.const (I 10)) (I aR) (I 10)) fun U=>
 (au U
 (ad pg X0 w0 (dK 42 #[(I 0),(I 0),(I 0)] #[]) fun V=>
 un (ai (aI (cP [(I aR),(I aW),(I aY),(I bB),(I bQ),(I bR),(I bS),(I bW),(I cN),(I cj),(B bJ),(I bG),(.float .f64 cR),cH,cE,cG,cI,(I cK),(I cm),(.float .f64 ca),(.float .f64 cn),(I cq),(I ct),(I cD),(I cu),(I cy),(I cz),cA,cB] 1 (ab (aa V))))) fun Y=>
 aC (ao (ab (aa V))==3) (aC (aq (ab (aa V)) aX.one) (e Y)))
 (ad pg X0 w0 (aD .eql 3 (.tmp 5) (.const (I 11)) (I aR) (I 11)) fun Z=>
 (au Z
 (ad pg X0 w0 (dK 27 #[(I 0),(I 0),(I 0)] #[]) fun a0=>
 ad pg X0 w0 (dK 27 #[(I 0),(I 0),(I 0)] #[]) fun b0=>
 ad pg X0 w0 (dK 42 #[(I 0),(I 0),(I 0)] #[]) fun c0=>
 un (ai (aI (cP [(I aR),(I aW),(I aY),(I bB),(I bQ),(I bR),(I bS),(I bW),(I cN),(I cj),(B bJ),(I bG),(.float .f64 cR),cH,cE,cG,cI,(I cK),(I cm),(.float .f64 ca),(.float .f64 cn),(I cq),(I ct),(I cD),(I cu),(I cy),(I cz),cA,cB] 7 (ab (aa a0))))) fun d0=>
 aC (ao (ab (aa a0))==3) (aC (aq (ab (aa a0)) aX.one) (un (ai (aI (cP (ab (aa d0)) 4 (ab (aa b0))))) fun e0=>
 aC (ao (ab (aa b0))==3) (aC (aq (ab (aa b0)) aX.one) (un (ai (aI (cP (ab (aa e0)) 1 (ab (aa c0))))) fun g0=>
 aC (ao (ab (aa c0))==3) (aC (aq (ab (aa c0)) aX.one) (un (ai (aI (cP (ab (aa g0)) 14 [(.slice none 0 0)]))) fun h0=>
 (e h0))))))))
 (ad pg X0 w0 (aD .eql 3 (.tmp 5) (.const (I 12)) (I aR) (I 12)) fun i0=>
 (au i0
 (ad pg X0 w0 (dK 27 #[(I 0),(I 0),(I 0)] #[]) fun j0=>
 un (ai (aI (cP [(I aR),(I aW),(I aY),(I bB),(I bQ),(I bR),(I bS),(I bW),(I cN),(I cj),(B bJ),(I bG),(.float .f64 cR),cH,cE,cG,cI,(I cK),(I cm),(.float .f64 ca),(.float .f64 cn),(I cq),(I ct),(I cD),(I cu),(I cy),(I cz),cA,cB] 4 (ab (aa j0))))) fun k0=>
 aC (ao (ab (aa j0))==3) (aC (aq (ab (aa j0)) aX.one) (un (ai (aI (cP (ab (aa k0)) 16 [(.slice none 0 0)]))) fun l0=>
 (e l0))))
 (aC (aq [(I aR),(I aW),(I aY),(I bB),(I bQ),(I bR),(I bS),(I bW),(I cN),(I cj),(B bJ),(I bG),(.float .f64 cR),cH,cE,cG,cI,(I cK),(I cm),(.float .f64 ca),(.float .f64 cn),(I cq),(I ct),(I cD),(I cu),(I cy),(I cz),cA,cB] aX.one) ((fin R X0 w0 (ay #[(.agg #[(I aR),(I aW),(I aY),(I bB),(I bQ),(I bR),(I bS),(I bW),(I cN),(I cj),(B bJ),(I bG),(.float .f64 cR),cH,cE,cG,cI,(I cK),(I cm),(.float .f64 ca),(.float .f64 cn),(I cq),(I ct),(I cD),(I cu),(I cy),(I cz),cA,cB]),(B false)]))))))))))))))))))))) fun m0=>
 ad pg X0 w0 (aD .eql 3 (.tmp 5) (.const (I 2)) (I aR) (I 2)) fun n0=>
 (au n0
 (m0 n0)
 (ad pg X0 w0 (aD .eql 3 (.tmp 5) (.const (I 7)) (I aR) (I 7)) fun o0=>
 (au o0
 (m0 o0)
 (ad pg X0 w0 (aD .eql 3 (.tmp 5) (.const (I 8)) (I aR) (I 8)) fun q0=>
 (m0 q0)))))))))))
noncomputable def Of:ba:=⟨64,[(1,(pg.cellsOf 91))],[3,8,14,20,25,30,36,42,48,54,60],[0,2],[7,9,10,11,13,15,16,17,19,21,22,24,26,27,29,31,32,33,35,37,38,39,41,43,44,45,47,49,50,51,53,55,56,57,59,61,62],[]⟩
def DQ (_p0_0 aW aY bB bQ bR bS bW cN cj:Int) (bJ:Bool) (bG:Int) (cR:Nat) (cH cE cG cI:Value) (cK cm:Int) (ca cn:Nat) (cq ct cD cu cy cz:Int) (cA cB:Value):Prop:=
 (ad pg X0 w0 (dK 42 #[(I 0),(I 0),(I 0)] #[]) fun a=>
 ad pg X0 w0 (aD .eql 42 (.tmp 4) (.tmp 5) (.agg #[(I aW),(I aY),(I bB)]) a) fun b=>
 un (aK b true (.agg #[(I bQ),(I bR),(I bS)])) fun c=>
 aG pg X0 w0 b true (vS (dK 27 #[(I 0),(I 0),(I 0)] #[])) fun d=>
 aG pg X0 w0 b true (vS (aD .eql 27 (.tmp 9) (.tmp 10) c d)) fun e=>
 aw pg X0 w0 (aM b e (B false)) fun g=>
 un (aK g true (.agg #[(I bW),(I cN),(I cj)])) fun h=>
 aG pg X0 w0 g true (vS (dK 27 #[(I 0),(I 0),(I 0)] #[])) fun i=>
 aG pg X0 w0 g true (vS (aD .eql 27 (.tmp 15) (.tmp 16) h i)) fun j=>
 aw pg X0 w0 (aM g j (B false)) fun k=>
 un (aK k true (B bJ)) fun l=>
 aG pg X0 w0 k true (vS (aQ aT l)) fun m=>
 aw pg X0 w0 (aM k m (B false)) fun n=>
 un (aK n true (I bG)) fun o=>
 aG pg X0 w0 n true (vS (aD .eql 3 (.tmp 26) (.const (I 0)) o (I 0))) fun q=>
 aw pg X0 w0 (aM n q (B false)) fun r=>
 un (aK r true (.float .f64 cR)) fun s=>
 jn (fun (t:Value) (v:World) (y:XS)=>
 aG pg y v r true (vS (aD .eql 250 (.tmp 32) (.const (aF aZ 0)) t (aF aZ 0))) fun z=>
 aw pg y v (aM r z (B false)) fun A=>
 un (aK A true cH) fun C=>
 aG pg y v A true (vS (cY 43 3 C)) fun D=>
 aG pg y v A true (vS (aD .eql 3 (.tmp 38) (.const (I 0)) D (I 0))) fun E=>
 aw pg y v (aM A E (B false)) fun F=>
 un (aK F true cE) fun G=>
 aG pg y v F true (vS (cY 45 3 G)) fun H=>
 aG pg y v F true (vS (aD .eql 3 (.tmp 44) (.const (I 0)) H (I 0))) fun L=>
 aw pg y v (aM F L (B false)) fun M=>
 un (aK M true cG) fun N=>
 aG pg y v M true (vS (cY 46 3 N)) fun O=>
 aG pg y v M true (vS (aD .eql 3 (.tmp 50) (.const (I 0)) O (I 0))) fun Q=>
 aw pg y v (aM M Q (B false)) fun S=>
 un (aK S true cI) fun T=>
 aG pg y v S true (vS (cY 89 3 T)) fun U=>
 aG pg y v S true (vS (aD .eql 3 (.tmp 56) (.const (I 0)) U (I 0))) fun V=>
 aw pg y v (aM S V (B false)) fun Y=>
 un (aK Y true (.agg #[(I cK),(I cm),(.float .f64 ca),(.float .f64 cn),(I cq),(I ct),(I cD),(I cu),(I cy),(I cz),cA,cB])) fun Z=>
 jn (fun (a0:Value) (b0:World) (c0:XS)=>
 aw pg c0 b0 (aM Y a0 (B false)) fun d0=>
 (fin R c0 b0 d0)) fun e0=>
 (gE Y true (eC pg R y v true 235 #[Z] e0) (e0 undef v y))) fun g0=>
 (gE r true (eC pg R X0 w0 true 146 #[s] g0) (g0 undef w0 X0)))
noncomputable def JH:ba:=⟨134,[(1,(pg.cellsOf 91))],[5,9,14,18,24,26,28,30,36,42,46,48,54,60,76,81,87,92,97,101,106,112,117,119,121,123,126,130],[0,2,3,4,6,7,12,22,40,52,57,85,90,95,110,115],[17,19,20,35,37,38,45,47,49,50,67,68,69,71,72,73,75,77,78,80,82,83,100,102,103,105,107,108,129,131,132],[]⟩
def zU (aR aW aY bB bQ bR bS bW cN cj:Int) (bJ:Bool) (bG:Int) (cR:Nat) (cH cE cG cI:Value) (cK cm:Int) (ca cn:Nat) (cq ct cD cu cy cz:Int) (cA cB:Value):Prop:=
 ((ad pg X0 w0 (aD .eql 3 (.tmp 6) (.const (I 1)) (I aR) (I 1)) fun a=>
 (au a
 (eC pg R X0 w0 true 96 #[(.agg #[(I cK),(I cm),(.float .f64 ca),(.float .f64 cn),(I cq),(I ct),(I cD),(I cu),(I cy),(I cz),cA,cB])] fun b c d=>
 (fin R d c b))
 (ad pg X0 w0 (aD .eql 3 (.tmp 6) (.const (I 2)) (I aR) (I 2)) fun e=>
 (au e
 (ad pg X0 w0 (binOp .geq 3 (I bG) (I 0)) fun g=>
 un (aK g true (I bG)) fun h=>
 aG pg X0 w0 g true (vS (binOp .leq 3 h (I 281474976710656))) fun i=>
 aw pg X0 w0 (aM g i (B false)) fun j=>
 (fin R X0 w0 j))
 (ad pg X0 w0 (aD .eql 3 (.tmp 6) (.const (I 3)) (I aR) (I 3)) fun k=>
 (au k
 (ad pg X0 w0 (dK 65 #[(I aW),(I aY),(I bB),(I bQ),(I bR),(I bS),cH,cE] #[(0,(.agg #[(I aW),(I aY),(I bB)])),(1,(.agg #[(I bQ),(I bR),(I bS)])),(2,cH),(3,cE)]) fun l=>
 eC pg R X0 w0 true 137 #[l] fun m n o=>
 ad pg o n (aD .eql 36 (.tmp 33) (.const (I 0)) m (I 0)) fun q=>
 un (aK q true cG) fun r=>
 jn (fun (s:Value) (t:World) (v:XS)=>
 aw pg v t (aM q s (B false)) fun y=>
 (fin R v t y)) fun z=>
 (gE q true (eC pg R o n true 213 #[r] z) (z undef n o)))
 (ad pg X0 w0 (aD .eql 3 (.tmp 6) (.const (I 4)) (I aR) (I 4)) fun A=>
 (au A
 (eC pg R X0 w0 true 201 #[(.agg #[(I aW),(I aY),(I bB)])] fun C D E=>
 un (aK C true (B bJ)) fun F=>
 un (aK C true (.agg #[(I bQ),(I bR),(I bS)])) fun G=>
 jn (fun (H:Value) (L:World) (M:XS)=>
 aw pg M L (aM C H (B false)) fun N=>
 (fin R M L N)) fun O=>
 (gE C true (eC pg R E D true 236 #[F,G] O) (O undef D E)))
 (ad pg X0 w0 (aD .eql 3 (.tmp 6) (.const (I 5)) (I aR) (I 5)) fun Q=>
 (au Q
 (eC pg R X0 w0 true 144 #[(.agg #[(I bQ),(I bR),(I bS)])] fun S T U=>
 (fin R U T S))
 (ad pg X0 w0 (aD .eql 3 (.tmp 6) (.const (I 6)) (I aR) (I 6)) fun V=>
 (au V
 (eC pg R X0 w0 true 237 #[(.float .f64 cR)] fun Y Z a0=>
 ad pg a0 Z (aB Y 0) fun b0=>
 ad pg a0 Z (aB Y 1) fun c0=>
 (ad pg a0 Z (aD .eql 36 (.tmp 65) (.const (I 0)) c0 (I 0)) fun d0=>
 un (aK d0 true b0) fun e0=>
 aG pg a0 Z d0 true (vS (binOp .gtr 23 e0 (.float .f64 0))) fun g0=>
 aw pg a0 Z (aM d0 g0 (B false)) fun h0=>
 un (aK h0 true b0) fun i0=>
 aG pg a0 Z h0 true (vS (binOp .lss 23 i0 (.float .f64 4607182418800017408))) fun j0=>
 aw pg a0 Z (aM h0 j0 (B false)) fun k0=>
 un (aK k0 true (I bG)) fun l0=>
 jn (fun (m0:Value) (n0:World) (o0:XS)=>
 aw pg o0 n0 (aM k0 m0 (B false)) fun q0=>
 un (aK q0 true (.agg #[(I bQ),(I bR),(I bS)])) fun r0=>
 jn (fun (s0:Value) (t0:World) (v0:XS)=>
 aw pg v0 t0 (aM q0 s0 (B false)) fun y0=>
 (fin R v0 t0 y0)) fun z0=>
 (gE q0 true (eC pg R o0 n0 true 144 #[r0] z0) (z0 undef n0 o0))) fun A0=>
 (gE k0 true (eC pg R a0 Z true 238 #[l0] A0) (A0 undef Z a0))))
 (ad pg X0 w0 (aD .eql 3 (.tmp 6) (.const (I 7)) (I aR) (I 7)) fun C0=>
 (au C0
 (eC pg R X0 w0 true 238 #[(I bG)] fun D0 E0 F0=>
 (fin R F0 E0 D0))
 (ad pg X0 w0 (aD .eql 3 (.tmp 6) (.const (I 8)) (I aR) (I 8)) fun G0=>
 (au G0
 (ad pg X0 w0 (binOp .geq 3 (I bG) (I 1)) fun H0=>
 (fin R X0 w0 H0))
 (ad pg X0 w0 (aD .eql 3 (.tmp 6) (.const (I 9)) (I aR) (I 9)) fun L0=>
 (au L0
 (eC pg R X0 w0 true 201 #[(.agg #[(I aW),(I aY),(I bB)])] fun M0 N0 O0=>
 un (aK M0 true (.agg #[(I bQ),(I bR),(I bS)])) fun Q0=>
 jn (fun (S0:Value) (T0:World) (U0:XS)=>
 aw pg U0 T0 (aM M0 S0 (B false)) fun V0=>
 un (aK V0 true cG) fun Y0=>
 jn (fun (Z0:Value) (a1:World) (b1:XS)=>
 aw pg b1 a1 (aM V0 Z0 (B false)) fun c1=>
 (fin R b1 a1 c1)) fun d1=>
 (gE V0 true (eC pg R U0 T0 true 213 #[Y0] d1) (d1 undef T0 U0))) fun e1=>
 (gE M0 true (eC pg R O0 N0 true 239 #[Q0] e1) (e1 undef N0 O0)))
 (ad pg X0 w0 (aD .eql 3 (.tmp 6) (.const (I 10)) (I aR) (I 10)) fun g1=>
 (au g1
 (eC pg R X0 w0 true 201 #[(.agg #[(I aW),(I aY),(I bB)])] fun h1 i1 j1=>
 (fin R j1 i1 h1))
 (ad pg X0 w0 (aD .eql 3 (.tmp 6) (.const (I 11)) (I aR) (I 11)) fun k1=>
 (au k1
 (eC pg R X0 w0 true 149 #[(.agg #[(I bW),(I cN),(I cj)]),(.agg #[(I bQ),(I bR),(I bS)]),(.agg #[(I aW),(I aY),(I bB)]),cE] fun l1 m1 n1=>
 (fin R n1 m1 l1))
 (((eC pg R X0 w0 true 144 #[(.agg #[(I bQ),(I bR),(I bS)])] fun o1 q1 r1=>
 un (aK o1 true cI) fun s1=>
 jn (fun (t1:Value) (v1:World) (y1:XS)=>
 aw pg y1 v1 (aM o1 t1 (B false)) fun z1=>
 (fin R y1 v1 z1)) fun A1=>
 (gE o1 true (eC pg R r1 q1 true 240 #[s1] A1) (A1 undef q1 r1))))))))))))))))))))))))))))
def DR (p0:Value):Prop:=
 ((ad pg X0 w0 (cY 86 3 p0) fun a=>
 ad pg X0 w0 (binOp .lss 3 a (I 64)) fun b=>
 (au b
 (ad pg X0 w0 (cY 86 3 p0) fun c=>
 (vT X0 w0 (I 0) undef (aF fA 4294967295) 14 22 3 fun d e g _ h i j=>
 ad pg j i (binOp .lss 3 g c) fun k=>
 (au k
 ((ad pg j i (dy 86 1 p0 g) fun l=>
 ad pg j i (ld1 5 l) fun m=>
 (ad pg j i (nv fA 5 282 m) fun n=>
 ad pg j i (binOp .xor 282 h n) fun o=>
 ((ja j i (I 0) o 22 3 fun q r s t v y=>
 ad pg y v (binOp .lss 3 s (I 8)) fun z=>
 (au z
 ((ad pg y v (binOp .shr 282 t (aF aZ 1)) fun A=>
 ad pg y v (binOp .and 282 t (aF fA 1)) fun C=>
 ad pg y v (aQ UnOp.neg C) fun D=>
 ad pg y v (binOp .and 282 (aF fA 2197175160) D) fun E=>
 ad pg y v (binOp .xor 282 A E) fun F=>
 ((ad pg y v (binOp .add 3 s (I 1)) fun G=>
 jb q r G F v y))))
 ((((ad pg y v (binOp .add 3 g (I 1)) fun H=>
 vU d e H s t v y))))))))))
 (ad pg j i (aQ UnOp.xor h) fun L=>
 (fin R j i L)))))
 ((eC pg R X0 w0 true 241 #[] fun M N O=>
 eV pg R O N true (Instr.alloc 338 true (ay #[])) fun Q S T=>
 eU pg R T S true (st1 338 256 Q M) fun _ U V=>
 (ad pg V U (cY 86 3 p0) fun Y=>
 (ja V U (I 0) (aF fA 4294967295) 38 3 fun Z a0 b0 c0 d0 e0=>
 ad pg e0 d0 (binOp .lss 3 b0 Y) fun g0=>
 (au g0
 ((ad pg e0 d0 (dy 86 1 p0 b0) fun h0=>
 ad pg e0 d0 (ld1 5 h0) fun i0=>
 (ad pg e0 d0 (binOp .shr 282 c0 (aF aZ 8)) fun j0=>
 ad pg e0 d0 (nv dE 282 5 c0) fun k0=>
 ad pg e0 d0 (binOp .xor 5 k0 i0) fun l0=>
 ad pg e0 d0 (Instr.indexAt 338 Q l0) fun m0=>
 ad pg e0 d0 (ld1 282 m0) fun n0=>
 ad pg e0 d0 (binOp .xor 282 j0 n0) fun o0=>
 ((ad pg e0 d0 (binOp .add 3 b0 (I 1)) fun q0=>
 jb Z a0 q0 o0 d0 e0)))))
 (ad pg e0 d0 (aQ UnOp.xor c0) fun r0=>
 (fin R e0 d0 r0))))))))))
noncomputable def Og:ba:=⟨11,[],[],[0,2],[6,7,8,9],[]⟩
def DS (p0:ByteArray):Prop:=
 (ad pg X0 w0 (mm 9 3 (.string p0)) fun a=>
 ad pg X0 w0 (binOp .geq 3 a (I 1)) fun b=>
 un (aK b true (.string p0)) fun c=>
 aG pg X0 w0 b true (vS (mm 9 3 c)) fun d=>
 aG pg X0 w0 b true (vS (binOp .leq 3 d (I 20))) fun e=>
 aw pg X0 w0 (aM b e (B false)) fun g=>
 (fin R X0 w0 g))
noncomputable def DT:ba:=⟨21,[],[],[0,1,2,6,7,12,16],[],[]⟩
def vB (p0:Value) (p1:Int) (p2:Value):Prop:=
 (aw pg X0 w0 (az p0) fun a=>
 ad pg X0 w0 (aJ 97 4 4 1 a) fun b=>
 ad pg X0 w0 (ld1 4 b) fun c=>
 (au c
 (fin R X0 w0 (I 12))
 (ad pg X0 w0 (aD .neq 36 (.tmp 13) (.const (I 0)) (I p1) (I 0)) fun d=>
 (au d
 (fin R X0 w0 (I p1))
 (eC pg R X0 w0 true 218 #[p0] fun e g h=>
 (au e
 (fin R h g (I 12))
 (((eF pg R h g true p2 #[] fun _ i j=>
 (fin R j i (I 0)))))))))))
noncomputable def yY:ba:=⟨9,[],[],[0,1],[],[]⟩
def qx (c0 c1:Value):Prop:=
 ad pg X0 w0 (ld1 39 c0) fun a=>
 aw pg X0 w0 (az a) fun b=>
 ad pg X0 w0 (aJ 97 0 0 1 b) fun c=>
 ad pg X0 w0 (ld1 95 c) fun d=>
 ad pg X0 w0 (ld1 9 c1) fun e=>
 ad pg X0 w0 (dK 281 #[(.slice none 0 0),(I 0)] #[]) fun g=>
 eV pg R X0 w0 false (Instr.box 281 g) fun h i j=>
 eU pg R j i true (Instr.mapUpdate 95 d e h) fun _ k l=>
 fin R l k (ay #[])
noncomputable def Hf:ba:=⟨12,[],[],[0,1,4,11],[],[]⟩
def x3 (p0:Value) (p1:ByteArray):Prop:=
 (aw pg X0 w0 (az p0) fun a=>
 ad pg X0 w0 (aJ 97 0 0 1 a) fun b=>
 ad pg X0 w0 (ld1 95 b) fun c=>
 ad pg X0 w0 (dI 95 c (.string p1) false) fun d=>
 ad pg X0 w0 (aD .eql 210 (.tmp 10) (.const (.pointer none)) d (.pointer none)) fun e=>
 (au e
 (fin R X0 w0 (I 8))
 (fin R X0 w0 (I 0))))
noncomputable def DU:ba:=⟨39,[],[],[0,1,4,9,13],[],[4]⟩
def vC (p0:Value) (p1:Int):Prop:=
 ad pg X0 w0 (nv aZ 3 250 (I p1)) fun a=>
 ad pg X0 w0 (binOp .shl 250 a (aF aZ 1)) fun b=>
 ((jn (fun (c:Value)=>
 gU X0 w0 c 4 fun d e g h i=>
 ad pg i h (binOp .geq 250 g (aF aZ 128)) fun j=>
 (au j
 ((aw pg i h (az p0) fun k=>
 ad pg i h (aJ 279 0 0 1 k) fun l=>
 ad pg i h (ld1 86 l) fun m=>
 ad pg i h (nv dE 250 5 g) fun n=>
 ad pg i h (binOp .or 5 n (aF dE 128)) fun o=>
 eV pg R i h true (fR 86 5 1 1 #[(0,o)]) fun q r s=>
 eV pg R s r true (gf 86 5 1 1 86 m q) fun t v y=>
 aw pg y v (az p0) fun z=>
 ad pg y v (aJ 279 0 0 1 z) fun A=>
 eU pg R y v true (st1 86 1 A t) fun _ C D=>
 (ad pg D C (binOp .shr 250 g (aF aZ 7)) fun E=>
 (gV d e E C D))))
 (((aw pg i h (az p0) fun F=>
 ad pg i h (aJ 279 0 0 1 F) fun G=>
 ad pg i h (ld1 86 G) fun H=>
 ad pg i h (nv dE 250 5 g) fun L=>
 eV pg R i h true (fR 86 5 1 1 #[(0,L)]) fun M N O=>
 eV pg R O N true (gf 86 5 1 1 86 H M) fun Q S T=>
 aw pg T S (az p0) fun U=>
 ad pg T S (aJ 279 0 0 1 U) fun V=>
 eU pg R T S true (st1 86 1 V Q) fun _ Y Z=>
 fin R Z Y (ay #[])))))) fun a0=>
 ad pg X0 w0 (binOp .lss 3 (I p1) (I 0)) fun b0=>
 (au b0
 (ad pg X0 w0 (aQ UnOp.xor b) fun c0=>
 (a0 c0))
 (a0 b))))
def tv (p0 p1:Value):Prop:=
 aw pg X0 w0 (az p1) fun a=>
 ad pg X0 w0 (aJ 25 0 0 1 a) fun b=>
 eC pg R X0 w0 true 123 #[p0,b] fun _ c d=>
 (aw pg d c (az p1) fun e=>
 ad pg d c (aJ 25 1 1 1 e) fun g=>
 eC pg R d c true 123 #[p0,g] fun _ h i=>
 (aw pg i h (az p1) fun j=>
 ad pg i h (aJ 25 2 2 1 j) fun k=>
 eC pg R i h true 130 #[p0,k] fun _ l m=>
 (aw pg m l (az p1) fun n=>
 ad pg m l (aJ 25 3 3 1 n) fun o=>
 eC pg R m l true 130 #[p0,o] fun _ q r=>
 fin R r q (ay #[]))))
def oT (p0 p1 p2:Value):Prop:=
 aw pg X0 w0 (az p1) fun a=>
 ad pg X0 w0 (ld1 28 a) fun b=>
 ad pg X0 w0 (cY 28 3 b) fun c=>
 ((jn (fun (d:Value) (e:World) (g:XS)=>
 (gU g e (I 0) 39 fun h i j k l=>
 ad pg l k (binOp .lss 3 j d) fun m=>
 (au m
 ((((jn (fun (n:World) (o:XS)=>
 aw pg o n (az p1) fun q=>
 ad pg o n (ld1 28 q) fun r=>
 ad pg o n (dy 28 2 r j) fun s=>
 eF pg R o n true p2 #[s] fun _ t v=>
 ((ad pg v t (binOp .add 3 j (I 1)) fun y=>
 gV h i y t v))) fun z=>
 aw pg l k (az p0) fun A=>
 ad pg l k (aJ 156 0 0 1 A) fun C=>
 ad pg l k (ld1 154 C) fun D=>
 ad pg l k (aD .eql 154 (.tmp 45) (.const (.pointer none)) D (.pointer none)) fun E=>
 (au E
 ((aw pg l k (az p1) fun F=>
 ad pg l k (ld1 28 F) fun G=>
 eV pg R l k false (fR 28 129 2 1 #[(0,(.agg #[(.string { data:= #[] }),(.slice none 0 0)]))]) fun H L M=>
 eV pg R M L true (gf 28 129 2 40 28 G H) fun N O Q=>
 aw pg Q O (az p1) fun S=>
 eU pg R Q O true (st1 28 1 S N) fun _ T U=>
 (z T U)))
 (z k l))))))
 (fin R l k (ay #[]))))) fun V=>
 aw pg X0 w0 (az p0) fun Y=>
 ad pg X0 w0 (aJ 156 0 0 1 Y) fun Z=>
 ad pg X0 w0 (ld1 154 Z) fun a0=>
 ad pg X0 w0 (aD .neq 154 (.tmp 16) (.const (.pointer none)) a0 (.pointer none)) fun b0=>
 (au b0
 (aw pg X0 w0 (az p0) fun c0=>
 ad pg X0 w0 (aJ 156 0 0 1 c0) fun d0=>
 ad pg X0 w0 (ld1 154 d0) fun e0=>
 eC pg R X0 w0 true 185 #[e0,c] fun _ g0 h0=>
 (V c g0 h0))
 (aw pg X0 w0 (az p0) fun i0=>
 ad pg X0 w0 (aJ 156 1 1 1 i0) fun j0=>
 ad pg X0 w0 (ld1 150 j0) fun k0=>
 aw pg X0 w0 (az p0) fun l0=>
 ad pg X0 w0 (aJ 156 1 1 1 l0) fun m0=>
 ad pg X0 w0 (ld1 150 m0) fun n0=>
 eC pg R X0 w0 false 195 #[n0] fun o0 q0 r0=>
 eC pg R r0 q0 true 194 #[k0,o0] fun s0 t0 v0=>
 (eC pg R v0 t0 true 187 #[p0] fun _ y0 z0=>
 (aw pg z0 y0 (az p1) fun A0=>
 eU pg R z0 y0 true (st1 28 1 A0 (.slice none 0 0)) fun _ C0 D0=>
 (V s0 C0 D0)))))))
def qy (p0 p1:Value):Prop:=
 aw pg X0 w0 (az p1) fun a=>
 ad pg X0 w0 (aJ 129 0 0 1 a) fun b=>
 eC pg R X0 w0 true 193 #[p0,b] fun _ c d=>
 (aw pg d c (az p1) fun e=>
 ad pg d c (aJ 129 1 1 1 e) fun g=>
 ad pg d c (cL (Fn.func 244) #[p0] #[]) fun h=>
 eC pg R d c true 243 #[p0,g,h] fun _ i j=>
 fin R j i (ay #[]))
def oU (p0 p1 p2:Value):Prop:=
 aw pg X0 w0 (az p1) fun a=>
 ad pg X0 w0 (ld1 29 a) fun b=>
 ad pg X0 w0 (cY 29 3 b) fun c=>
 ((jn (fun (d:Value) (e:World) (g:XS)=>
 (gU g e (I 0) 39 fun h i j k l=>
 ad pg l k (binOp .lss 3 j d) fun m=>
 (au m
 ((((jn (fun (n:World) (o:XS)=>
 aw pg o n (az p1) fun q=>
 ad pg o n (ld1 29 q) fun r=>
 ad pg o n (dy 29 8 r j) fun s=>
 eF pg R o n true p2 #[s] fun _ t v=>
 ((ad pg v t (binOp .add 3 j (I 1)) fun y=>
 gV h i y t v))) fun z=>
 aw pg l k (az p0) fun A=>
 ad pg l k (aJ 156 0 0 1 A) fun C=>
 ad pg l k (ld1 154 C) fun D=>
 ad pg l k (aD .eql 154 (.tmp 45) (.const (.pointer none)) D (.pointer none)) fun E=>
 (au E
 ((aw pg l k (az p1) fun F=>
 ad pg l k (ld1 29 F) fun G=>
 eV pg R l k false (fR 29 65 8 1 #[(0,(.agg #[(I 0),(I 0),(I 0),(I 0),(I 0),(I 0),(.slice none 0 0),(.slice none 0 0)]))]) fun H L M=>
 eV pg R M L true (gf 29 65 8 96 29 G H) fun N O Q=>
 aw pg Q O (az p1) fun S=>
 eU pg R Q O true (st1 29 1 S N) fun _ T U=>
 (z T U)))
 (z k l))))))
 (fin R l k (ay #[]))))) fun V=>
 aw pg X0 w0 (az p0) fun Y=>
 ad pg X0 w0 (aJ 156 0 0 1 Y) fun Z=>
 ad pg X0 w0 (ld1 154 Z) fun a0=>
 ad pg X0 w0 (aD .neq 154 (.tmp 16) (.const (.pointer none)) a0 (.pointer none)) fun b0=>
 (au b0
 (aw pg X0 w0 (az p0) fun c0=>
 ad pg X0 w0 (aJ 156 0 0 1 c0) fun d0=>
 ad pg X0 w0 (ld1 154 d0) fun e0=>
 eC pg R X0 w0 true 185 #[e0,c] fun _ g0 h0=>
 (V c g0 h0))
 (aw pg X0 w0 (az p0) fun i0=>
 ad pg X0 w0 (aJ 156 1 1 1 i0) fun j0=>
 ad pg X0 w0 (ld1 150 j0) fun k0=>
 aw pg X0 w0 (az p0) fun l0=>
 ad pg X0 w0 (aJ 156 1 1 1 l0) fun m0=>
 ad pg X0 w0 (ld1 150 m0) fun n0=>
 eC pg R X0 w0 false 195 #[n0] fun o0 q0 r0=>
 eC pg R r0 q0 true 194 #[k0,o0] fun s0 t0 v0=>
 (eC pg R v0 t0 true 187 #[p0] fun _ y0 z0=>
 (aw pg z0 y0 (az p1) fun A0=>
 eU pg R z0 y0 true (st1 29 1 A0 (.slice none 0 0)) fun _ C0 D0=>
 (V s0 C0 D0)))))))
def tw (p0 p1 p2:Value):Prop:=
 aw pg X0 w0 (az p1) fun a=>
 ad pg X0 w0 (ld1 43 a) fun b=>
 ad pg X0 w0 (cY 43 3 b) fun c=>
 ((jn (fun (d:Value) (e:World) (g:XS)=>
 (gU g e (I 0) 39 fun h i j k l=>
 ad pg l k (binOp .lss 3 j d) fun m=>
 (au m
 ((((jn (fun (n:World) (o:XS)=>
 aw pg o n (az p1) fun q=>
 ad pg o n (ld1 43 q) fun r=>
 ad pg o n (dy 43 1 r j) fun s=>
 eF pg R o n true p2 #[s] fun _ t v=>
 ((ad pg v t (binOp .add 3 j (I 1)) fun y=>
 gV h i y t v))) fun z=>
 aw pg l k (az p0) fun A=>
 ad pg l k (aJ 156 0 0 1 A) fun C=>
 ad pg l k (ld1 154 C) fun D=>
 ad pg l k (aD .eql 154 (.tmp 45) (.const (.pointer none)) D (.pointer none)) fun E=>
 (au E
 ((aw pg l k (az p1) fun F=>
 ad pg l k (ld1 43 F) fun G=>
 eV pg R l k true (fR 43 9 1 1 #[(0,(.string { data:= #[] }))]) fun H L M=>
 eV pg R M L true (gf 43 9 1 16 43 G H) fun N O Q=>
 aw pg Q O (az p1) fun S=>
 eU pg R Q O true (st1 43 1 S N) fun _ T U=>
 (z T U)))
 (z k l))))))
 (fin R l k (ay #[]))))) fun V=>
 aw pg X0 w0 (az p0) fun Y=>
 ad pg X0 w0 (aJ 156 0 0 1 Y) fun Z=>
 ad pg X0 w0 (ld1 154 Z) fun a0=>
 ad pg X0 w0 (aD .neq 154 (.tmp 16) (.const (.pointer none)) a0 (.pointer none)) fun b0=>
 (au b0
 (aw pg X0 w0 (az p0) fun c0=>
 ad pg X0 w0 (aJ 156 0 0 1 c0) fun d0=>
 ad pg X0 w0 (ld1 154 d0) fun e0=>
 eC pg R X0 w0 true 185 #[e0,c] fun _ g0 h0=>
 (V c g0 h0))
 (aw pg X0 w0 (az p0) fun i0=>
 ad pg X0 w0 (aJ 156 1 1 1 i0) fun j0=>
 ad pg X0 w0 (ld1 150 j0) fun k0=>
 aw pg X0 w0 (az p0) fun l0=>
 ad pg X0 w0 (aJ 156 1 1 1 l0) fun m0=>
 ad pg X0 w0 (ld1 150 m0) fun n0=>
 eC pg R X0 w0 false 195 #[n0] fun o0 q0 r0=>
 eC pg R r0 q0 true 194 #[k0,o0] fun s0 t0 v0=>
 (eC pg R v0 t0 true 187 #[p0] fun _ y0 z0=>
 (aw pg z0 y0 (az p1) fun A0=>
 eU pg R z0 y0 true (st1 43 1 A0 (.slice none 0 0)) fun _ C0 D0=>
 (V s0 C0 D0)))))))
def ug (p0 p1:Value):Prop:=
 aw pg X0 w0 (az p0) fun a=>
 ad pg X0 w0 (aJ 156 0 0 1 a) fun b=>
 ad pg X0 w0 (ld1 154 b) fun c=>
 ad pg X0 w0 (aD .neq 154 (.tmp 7) (.const (.pointer none)) c (.pointer none)) fun d=>
 (au d
 (aw pg X0 w0 (az p0) fun e=>
 ad pg X0 w0 (aJ 156 0 0 1 e) fun g=>
 ad pg X0 w0 (ld1 154 g) fun h=>
 aw pg X0 w0 (az p1) fun i=>
 ad pg X0 w0 (ld1 9 i) fun j=>
 eC pg R X0 w0 true 245 #[h,j] fun _ k l=>
 (fin R l k (ay #[])))
 ((aw pg X0 w0 (az p0) fun m=>
 ad pg X0 w0 (aJ 156 1 1 1 m) fun n=>
 ad pg X0 w0 (ld1 150 n) fun o=>
 eC pg R X0 w0 true 246 #[o,(I 262144)] fun q r s=>
 aw pg s r (az p1) fun t=>
 eU pg R s r true (st1 9 1 t q) fun _ v y=>
 (eC pg R y v true 187 #[p0] fun _ z A=>
 fin R A z (ay #[])))))
noncomputable def Cj:ba:=⟨23,[],[],[0,1,4],[],[]⟩
def ui (p0:Value) (p1:Bool):Prop:=
 (au (B p1)
 (aw pg X0 w0 (az p0) fun a=>
 ad pg X0 w0 (aJ 279 0 0 1 a) fun b=>
 ad pg X0 w0 (ld1 86 b) fun c=>
 eV pg R X0 w0 true (fR 86 5 1 1 #[(0,(aF dE 1))]) fun d e g=>
 eV pg R g e true (gf 86 5 1 1 86 c d) fun h i j=>
 aw pg j i (az p0) fun k=>
 ad pg j i (aJ 279 0 0 1 k) fun l=>
 eU pg R j i true (st1 86 1 l h) fun _ m n=>
 (fin R n m (ay #[])))
 ((aw pg X0 w0 (az p0) fun o=>
 ad pg X0 w0 (aJ 279 0 0 1 o) fun q=>
 ad pg X0 w0 (ld1 86 q) fun r=>
 eV pg R X0 w0 true (fR 86 5 1 1 #[(0,(aF dE 0))]) fun s t v=>
 eV pg R v t true (gf 86 5 1 1 86 r s) fun y z A=>
 aw pg A z (az p0) fun C=>
 ad pg A z (aJ 279 0 0 1 C) fun D=>
 eU pg R A z true (st1 86 1 D y) fun _ E F=>
 fin R F E (ay #[]))))
noncomputable def AW:ba:=⟨23,[],[],[0,1,4,7,8],[],[4,7]⟩
def tz (p0:Value) (p1:Nat):Prop:=
 eC pg R X0 w0 true 233 #[(.float .f64 p1)] fun a b c=>
 ((ja c b (I 0) a 7 4 fun d e g h i j=>
 ad pg j i (binOp .lss 3 g (I 8)) fun k=>
 (au k
 ((aw pg j i (az p0) fun l=>
 ad pg j i (aJ 279 0 0 1 l) fun m=>
 ad pg j i (ld1 86 m) fun n=>
 ad pg j i (nv dE 250 5 h) fun o=>
 eV pg R j i true (fR 86 5 1 1 #[(0,o)]) fun q r s=>
 eV pg R s r true (gf 86 5 1 1 86 n q) fun t v y=>
 aw pg y v (az p0) fun z=>
 ad pg y v (aJ 279 0 0 1 z) fun A=>
 eU pg R y v true (st1 86 1 A t) fun _ C D=>
 (ad pg D C (binOp .shr 250 h (aF aZ 8)) fun E=>
 ((ad pg D C (binOp .add 3 g (I 1)) fun F=>
 jb d e F E C D)))))
 (fin R j i (ay #[])))))
def tA (p0 p1:Value):Prop:=
 aw pg X0 w0 (az p0) fun a=>
 ad pg X0 w0 (aJ 156 0 0 1 a) fun b=>
 ad pg X0 w0 (ld1 154 b) fun c=>
 ad pg X0 w0 (aD .neq 154 (.tmp 7) (.const (.pointer none)) c (.pointer none)) fun d=>
 (au d
 (aw pg X0 w0 (az p0) fun e=>
 ad pg X0 w0 (aJ 156 0 0 1 e) fun g=>
 ad pg X0 w0 (ld1 154 g) fun h=>
 aw pg X0 w0 (az p1) fun i=>
 ad pg X0 w0 (ff 69 3 i) fun j=>
 eC pg R X0 w0 true 250 #[h,j] fun _ k l=>
 (fin R l k (ay #[])))
 ((aw pg X0 w0 (az p0) fun m=>
 ad pg X0 w0 (aJ 156 1 1 1 m) fun n=>
 ad pg X0 w0 (ld1 150 n) fun o=>
 eC pg R X0 w0 true 251 #[o] fun q r s=>
 aw pg s r (az p1) fun t=>
 eU pg R s r true (st1 69 3 t q) fun _ v y=>
 (eC pg R y v true 187 #[p0] fun _ z A=>
 fin R A z (ay #[])))))
noncomputable def JI:ba:=⟨21,[(1,(pg.cellsOf 42))],[3,7,12,17],[0,2],[6,8,9,11,13,14,16,18,19],[]⟩
def zV (aR aW aY:Int):Prop:=
 (ad pg X0 w0 (binOp .geq 3 (I aR) (I 1)) fun a=>
 un (aK a true (I aR)) fun b=>
 aG pg X0 w0 a true (vS (binOp .leq 3 b (I 2))) fun c=>
 aw pg X0 w0 (aM a c (B false)) fun d=>
 un (aK d true (I aW)) fun e=>
 aG pg X0 w0 d true (vS (binOp .geq 3 e (I 1))) fun g=>
 aw pg X0 w0 (aM d g (B false)) fun h=>
 un (aK h true (I aY)) fun i=>
 aG pg X0 w0 h true (vS (binOp .geq 3 i (I 1))) fun j=>
 aw pg X0 w0 (aM h j (B false)) fun k=>
 (fin R X0 w0 k))
def DV (p0:Value):Prop:=
 (ad pg X0 w0 (cY 43 3 p0) fun a=>
 (gU X0 w0 (I 0) 7 fun b c d e g=>
 ad pg g e (binOp .lss 3 d a) fun h=>
 (au h
 ((ad pg g e (dy 43 1 p0 d) fun i=>
 ad pg g e (ld1 9 i) fun j=>
 (eC pg R g e true 215 #[j] fun k l m=>
 ad pg m l (aQ aT k) fun n=>
 un (aK n false d) fun o=>
 aG pg m l n false (vS (binOp .gtr 3 o (I 0))) fun q=>
 un (aK n false q) fun r=>
 un (aK r true p0) fun s=>
 un (aK r true d) fun t=>
 aG pg m l r true (vS (binOp .sub 3 t (I 1))) fun v=>
 aG pg m l r true (vS (dy 43 1 s v)) fun y=>
 aG pg m l r true (vS (ld1 9 y)) fun z=>
 un (aK r true j) fun A=>
 aG pg m l r true (vS (binOp .geq 9 z A)) fun C=>
 aG pg m l n false (aM r C (B false)) fun D=>
 aw pg m l (aM n (B true) D) fun E=>
 (au E
 (fin R m l (B false))
 (((ad pg m l (binOp .add 3 d (I 1)) fun F=>
 gV b c F l m)))))))
 (((ad pg g e (cY 43 3 p0) fun G=>
 ad pg g e (binOp .leq 3 G (I 16)) fun H=>
 (fin R g e H)))))))
def wz (p0:Value):Prop:=
 ((ad pg X0 w0 (cY 45 3 p0) fun a=>
 (ja X0 w0 (I 0) (.slice none 0 0) 8 3 fun b c d e g h=>
 ad pg h g (binOp .lss 3 d a) fun i=>
 (au i
 ((ad pg h g (dy 45 4 p0 d) fun j=>
 ad pg h g (ff 71 4 j) fun k=>
 un (ai (aa k)) fun l=>
 aC (ao (ab (aa k))==4) (aC (aq (ab (aa k)) aX.one) ((aC (bP l) (un (cellOf l 0) fun m=>
 eV pg R h g true (fR 43 9 1 1 #[(0,m)]) fun n o q=>
 eV pg R q o true (gf 43 9 1 16 43 e n) fun r s t=>
 ((ad pg t s (binOp .add 3 d (I 1)) fun v=>
 jb b c v r s t))))))))
 (fin R h g e)))))
noncomputable def Oh:ba:=⟨41,[(1,(pg.cellsOf 69))],[4,8,14,20,24,27,36],[0,2,3,9,10,18,32],[13,15,16,23,25,26,28,29,30,35,37,38,39],[]⟩
def DW (aR:Int) (aW:Nat) (aY:ByteArray):Prop:=
 (eC pg R X0 w0 true 146 #[(.float .f64 aW)] fun a b c=>
 ad pg c b (aD .eql 250 (.tmp 6) (.const (aF aZ 0)) a (aF aZ 0)) fun d=>
 ((ad pg c b (aD .eql 3 (.tmp 9) (.const (I 0)) (I aR) (I 0)) fun e=>
 (au e
 (un (aK d true (.string aY)) fun g=>
 aG pg c b d true (vS (aD .eql 9 (.tmp 15) (.const (.string { data:= #[] })) g (.string { data:= #[] }))) fun h=>
 aw pg c b (aM d h (B false)) fun i=>
 (fin R c b i))
 (ad pg c b (aD .eql 3 (.tmp 9) (.const (I 1)) (I aR) (I 1)) fun j=>
 (au j
 (ad pg c b (aD .eql 9 (.tmp 21) (.const (.string { data:= #[] })) (.string aY) (.string { data:= #[] })) fun k=>
 un (aK k true (.float .f64 aW)) fun l=>
 jn (fun (m:Value) (n:World) (o:XS)=>
 jn (fun (q:Value) (r:World) (s:XS)=>
 aG pg s r k true (vS (aD .eql 250 (.tmp 26) (.tmp 29) m q)) fun t=>
 aw pg s r (aM k t (B false)) fun v=>
 (fin R s r v)) fun y=>
 (gE k true (eC pg R o n true 233 #[l] y) (y undef n o))) fun z=>
 (gE k true (eC pg R c b false 146 #[l] z) (z undef b c)))
 (ad pg c b (aD .eql 3 (.tmp 9) (.const (I 2)) (I aR) (I 2)) fun A=>
 (au A
 (un (aK d true (.string aY)) fun C=>
 aG pg c b d true (vS (mm 9 3 C)) fun D=>
 aG pg c b d true (vS (binOp .leq 3 D (I 64))) fun E=>
 aw pg c b (aM d E (B false)) fun F=>
 (fin R c b F))
 (fin R c b (B false))))))))))
noncomputable def JJ:ba:=⟨9,[(2,(pg.cellsOf 65))],[5],[0,1,3,4],[],[]⟩
def zW (_p0_0 _p0_1 _p0_2 _p0_3 _p0_4 _p0_5:Int) (_p0_6 bW:Value) (p1:ByteArray):Prop:=
 eV pg R X0 w0 true (Instr.box 9 (.string p1)) fun a b c=>
 (ad pg c b (cL (Fn.func 253) #[] #[a]) fun d=>
 eC pg R c b true 252 #[bW,d] fun e g h=>
 (fin R h g e))
noncomputable def pN:ba:=⟨9,[],[],[0,1,4],[],[]⟩
def ke (p0:Value) (p1:ByteArray):Prop:=
 (eC pg R X0 w0 true 254 #[p0,(.string p1)] fun a b c=>
 ad pg c b (binOp .geq 3 a (I 0)) fun d=>
 (fin R c b d))
def DX (p0:Value):Prop:=
 (ad pg X0 w0 (cY 43 3 p0) fun a=>
 (gU X0 w0 (I 0) 7 fun b c d e g=>
 ad pg g e (binOp .lss 3 d a) fun h=>
 (au h
 ((ad pg g e (dy 43 1 p0 d) fun i=>
 ad pg g e (ld1 9 i) fun j=>
 (eC pg R g e true 215 #[j] fun k l m=>
 ad pg m l (aQ aT k) fun n=>
 un (aK n false d) fun o=>
 aG pg m l n false (vS (binOp .gtr 3 o (I 0))) fun q=>
 un (aK n false q) fun r=>
 un (aK r true p0) fun s=>
 un (aK r true d) fun t=>
 aG pg m l r true (vS (binOp .sub 3 t (I 1))) fun v=>
 aG pg m l r true (vS (dy 43 1 s v)) fun y=>
 aG pg m l r true (vS (ld1 9 y)) fun z=>
 un (aK r true j) fun A=>
 aG pg m l r true (vS (binOp .geq 9 z A)) fun C=>
 aG pg m l n false (aM r C (B false)) fun D=>
 aw pg m l (aM n (B true) D) fun E=>
 (au E
 (fin R m l (B false))
 (((ad pg m l (binOp .add 3 d (I 1)) fun F=>
 gV b c F l m)))))))
 (((ad pg g e (cY 43 3 p0) fun G=>
 ad pg g e (binOp .leq 3 G (I 16)) fun H=>
 (fin R g e H)))))))
noncomputable def Oi:ba:=⟨25,[],[],[0,1,2,6,8],[10,11,12,13,17,18,19,21,22,23],[]⟩
def DY (p0:Int) (p1:Bool) (p2:Value):Prop:=
 (ad pg X0 w0 (aD .eql 36 (.tmp 7) (.const (I 0)) (I p0) (I 0)) fun a=>
 (au a
 (un (aK (B p1) true p2) fun b=>
 aG pg X0 w0 (B p1) true (vS (cY 47 3 b)) fun c=>
 aG pg X0 w0 (B p1) true (vS (aD .eql 3 (.tmp 12) (.const (I 0)) c (I 0))) fun d=>
 aw pg X0 w0 (aM (B p1) d (B false)) fun e=>
 (fin R X0 w0 e))
 ((ad pg X0 w0 (binOp .gtr 36 (I p0) (I 0)) fun g=>
 un (aK g true (I p0)) fun h=>
 aG pg X0 w0 g true (vS (binOp .leq 36 h (I 25))) fun i=>
 aw pg X0 w0 (aM g i (B false)) fun j=>
 un (aK j true p2) fun k=>
 jn (fun (l:Value) (m:World) (n:XS)=>
 aw pg n m (aM j l (B false)) fun o=>
 (fin R n m o)) fun q=>
 (gE j true (eC pg R X0 w0 true 256 #[k] q) (q undef w0 X0))))))
def DZ (p0:Value):Prop:=
 ((ad pg X0 w0 (cY 44 3 p0) fun a=>
 (ja X0 w0 (I 0) (.slice none 0 0) 8 3 fun b c d e g h=>
 ad pg h g (binOp .lss 3 d a) fun i=>
 (au i
 ((ad pg h g (dy 44 7 p0 d) fun j=>
 ad pg h g (ff 163 7 j) fun k=>
 un (ai (aa k)) fun l=>
 aC (ao (ab (aa k))==7) (aC (aq (ab (aa k)) aX.one) ((aC (bP l) (un (cellOf l 0) fun m=>
 eV pg R h g true (fR 43 9 1 1 #[(0,m)]) fun n o q=>
 eV pg R q o true (gf 43 9 1 16 43 e n) fun r s t=>
 (aC (bP l) (un (bV l 4 3) fun v=>
 eC pg R t s true 144 #[v] fun y z A=>
 ad pg A z (aQ aT y) fun C=>
 un (bV l 1 3) fun D=>
 un (aK C false D) fun E=>
 jn (fun (F:Value) (G:World) (H:XS)=>
 aG pg H G C false (vS (aQ aT F)) fun L=>
 aw pg H G (aM C (B true) L) fun M=>
 un (aK M false v) fun N=>
 aG pg H G M false (vS (dK 27 #[(I 0),(I 0),(I 0)] #[])) fun O=>
 aG pg H G M false (vS (aD .eql 27 (.tmp 29) (.tmp 30) N O)) fun Q=>
 un (aK M false Q) fun S=>
 un (cellOf l 1) fun T=>
 un (aK S true T) fun U=>
 aG pg H G S true (vS (aD .neq 3 (.tmp 35) (.const (I 0)) U (I 0))) fun V=>
 aG pg H G M false (aM S V (B false)) fun Y=>
 aw pg H G (aM M (B true) Y) fun Z=>
 (au Z
 (fin R H G (B false))
 (((ad pg H G (binOp .add 3 d (I 1)) fun a0=>
 jb b c a0 r G H))))) fun b0=>
 (gE C false (eC pg R A z true 204 #[E] b0) (b0 undef z A))))))))))
 (eC pg R h g true 209 #[e] fun c0 d0 e0=>
 (fin R e0 d0 c0))))))
def yH (p0:Value):Prop:=
 ((ad pg X0 w0 (cY 45 3 p0) fun a=>
 (ja X0 w0 (I 0) (.slice none 0 0) 8 3 fun b c d e g h=>
 ad pg h g (binOp .lss 3 d a) fun i=>
 (au i
 ((ad pg h g (dy 45 4 p0 d) fun j=>
 ad pg h g (ff 71 4 j) fun k=>
 un (ai (aa k)) fun l=>
 aC (ao (ab (aa k))==4) (aC (aq (ab (aa k)) aX.one) ((aC (bP l) (un (cellOf l 0) fun m=>
 eV pg R h g true (fR 43 9 1 1 #[(0,m)]) fun n o q=>
 eV pg R q o true (gf 43 9 1 16 43 e n) fun r s t=>
 (aC (bP l) (un (bV l 1 3) fun v=>
 eC pg R t s true 204 #[v] fun y z A=>
 ad pg A z (aQ aT y) fun C=>
 (au C
 (fin R A z (B false))
 (((ad pg A z (binOp .add 3 d (I 1)) fun D=>
 jb b c D r z A))))))))))))
 (eC pg R h g true 209 #[e] fun E F G=>
 (fin R G F E))))))
def BP (p0:Value):Prop:=
 (ad pg X0 w0 (cY 46 3 p0) fun a=>
 (gU X0 w0 (I 0) 7 fun b c d e g=>
 ad pg g e (binOp .lss 3 d a) fun h=>
 (au h
 ((ad pg g e (dy 46 1 p0 d) fun i=>
 ad pg g e (ld1 3 i) fun j=>
 (ad pg g e (binOp .lss 3 j (I 1)) fun k=>
 un (aK k false j) fun l=>
 aG pg g e k false (vS (binOp .gtr 3 l (I 12))) fun m=>
 aw pg g e (aM k (B true) m) fun n=>
 un (aK n false d) fun o=>
 aG pg g e n false (vS (binOp .gtr 3 o (I 0))) fun q=>
 un (aK n false q) fun r=>
 un (aK r true p0) fun s=>
 un (aK r true d) fun t=>
 aG pg g e r true (vS (binOp .sub 3 t (I 1))) fun v=>
 aG pg g e r true (vS (dy 46 1 s v)) fun y=>
 aG pg g e r true (vS (ld1 3 y)) fun z=>
 un (aK r true j) fun A=>
 aG pg g e r true (vS (binOp .geq 3 z A)) fun C=>
 aG pg g e n false (aM r C (B false)) fun D=>
 aw pg g e (aM n (B true) D) fun E=>
 (au E
 (fin R g e (B false))
 (((ad pg g e (binOp .add 3 d (I 1)) fun F=>
 gV b c F e g)))))))
 (((ad pg g e (cY 46 3 p0) fun G=>
 ad pg g e (binOp .gtr 3 G (I 0)) fun H=>
 (fin R g e H)))))))
noncomputable def PZ:ba:=⟨17,[],[],[0,1,4,6,7,8,9,10,15],[],[9]⟩
def Gn (p0:Value) (p1:Int):Prop:=
 (ad pg X0 w0 (cY 46 3 p0) fun a=>
 (gU X0 w0 (I 0) 9 fun b c d e g=>
 ad pg g e (binOp .lss 3 d a) fun h=>
 (au h
 ((ad pg g e (dy 46 1 p0 d) fun i=>
 ad pg g e (ld1 3 i) fun j=>
 (ad pg g e (aD .eql 3 (.tmp 13) (.tmp 14) j (I p1)) fun k=>
 (au k
 (fin R g e (B true))
 (((ad pg g e (binOp .add 3 d (I 1)) fun l=>
 gV b c l e g)))))))
 (fin R g e (B false)))))
noncomputable def Oj:ba:=⟨11,[],[],[0,2],[6,7,8,9],[]⟩
def D9 (p0:ByteArray):Prop:=
 (ad pg X0 w0 (mm 9 3 (.string p0)) fun a=>
 ad pg X0 w0 (binOp .geq 3 a (I 1)) fun b=>
 un (aK b true (.string p0)) fun c=>
 aG pg X0 w0 b true (vS (mm 9 3 c)) fun d=>
 aG pg X0 w0 b true (vS (binOp .leq 3 d (I 24))) fun e=>
 aw pg X0 w0 (aM b e (B false)) fun g=>
 (fin R X0 w0 g))
noncomputable def Ol:ba:=⟨19,[],[],[0,1,4],[],[]⟩
def Ea (p0:Value) (p1:Int):Prop:=
 (ad pg X0 w0 (nv dE 282 5 (aF fA p1)) fun a=>
 ad pg X0 w0 (binOp .shr 282 (aF fA p1) (aF aZ 8)) fun b=>
 ad pg X0 w0 (nv dE 282 5 b) fun c=>
 ad pg X0 w0 (binOp .shr 282 (aF fA p1) (aF aZ 16)) fun d=>
 ad pg X0 w0 (nv dE 282 5 d) fun e=>
 ad pg X0 w0 (binOp .shr 282 (aF fA p1) (aF aZ 24)) fun g=>
 ad pg X0 w0 (nv dE 282 5 g) fun h=>
 eV pg R X0 w0 true (fR 86 5 1 4 #[(0,a),(1,c),(2,e),(3,h)]) fun i j k=>
 eV pg R k j true (gf 86 5 1 1 86 p0 i) fun l m n=>
 (fin R n m l))
def wA (p0:Value):Prop:=
 ((jn (fun (a:World) (b:XS)=>
 (jn (fun (c:World) (d:XS)=>
 aw pg d c (az p0) fun e=>
 ad pg d c (aJ 97 4 4 1 e) fun g=>
 ad pg d c (ld1 4 g) fun h=>
 (fin R d c h)) fun i=>
 aw pg b a (az p0) fun j=>
 ad pg b a (aJ 97 4 4 1 j) fun k=>
 ad pg b a (ld1 4 k) fun l=>
 ad pg b a (aQ aT l) fun m=>
 (au m
 (aw pg b a (az p0) fun n=>
 ad pg b a (aJ 97 2 2 1 n) fun o=>
 ad pg b a (ld1 3 o) fun q=>
 ad pg b a (binOp .add 3 q (I 1)) fun r=>
 aw pg b a (az p0) fun s=>
 ad pg b a (aJ 97 2 2 1 s) fun t=>
 eU pg R b a true (st1 3 1 t r) fun _ v y=>
 (i v y))
 (i a b)))) fun z=>
 aw pg X0 w0 (az p0) fun A=>
 ad pg X0 w0 (aJ 97 3 3 1 A) fun C=>
 ad pg X0 w0 (ld1 3 C) fun D=>
 ad pg X0 w0 (binOp .gtr 3 D (I 0)) fun E=>
 (au E
 (aw pg X0 w0 (az p0) fun F=>
 ad pg X0 w0 (aJ 97 3 3 1 F) fun G=>
 ad pg X0 w0 (ld1 3 G) fun H=>
 ad pg X0 w0 (binOp .sub 3 H (I 1)) fun L=>
 aw pg X0 w0 (az p0) fun M=>
 ad pg X0 w0 (aJ 97 3 3 1 M) fun N=>
 eU pg R X0 w0 true (st1 3 1 N L) fun _ O Q=>
 (aw pg Q O (az p0) fun S=>
 ad pg Q O (aJ 97 3 3 1 S) fun T=>
 ad pg Q O (ld1 3 T) fun U=>
 ad pg Q O (aD .eql 3 (.tmp 19) (.const (I 0)) U (I 0)) fun V=>
 aw pg Q O (az p0) fun Y=>
 ad pg Q O (aJ 97 4 4 1 Y) fun Z=>
 eU pg R Q O true (st1 4 1 Z V) fun _ a0 b0=>
 (z a0 b0)))
 (z w0 X0))))
noncomputable def AX:ba:=⟨20,[],[],[0,1],[],[]⟩
def tB (c0 c1:Value):Prop:=
 ad pg X0 w0 (ld1 39 c0) fun a=>
 aw pg X0 w0 (az a) fun b=>
 ad pg X0 w0 (aJ 97 0 0 1 b) fun c=>
 ad pg X0 w0 (ld1 95 c) fun d=>
 ad pg X0 w0 (ld1 9 c1) fun e=>
 ad pg X0 w0 (dI 95 d e false) fun g=>
 ad pg X0 w0 (ld1 39 c0) fun h=>
 aw pg X0 w0 (az h) fun i=>
 ad pg X0 w0 (aJ 97 0 0 1 i) fun j=>
 ad pg X0 w0 (ld1 95 j) fun k=>
 ad pg X0 w0 (ld1 9 c1) fun l=>
 ad pg X0 w0 (dI 95 k l false) fun m=>
 aw pg X0 w0 (az m) fun n=>
 ad pg X0 w0 (aJ 281 0 0 1 n) fun o=>
 ad pg X0 w0 (ld1 86 o) fun q=>
 ad pg X0 w0 (cY 86 3 q) fun r=>
 aw pg X0 w0 (az g) fun s=>
 ad pg X0 w0 (aJ 281 1 1 1 s) fun t=>
 eU pg R X0 w0 true (st1 3 1 t r) fun _ v y=>
 fin R y v (ay #[])
noncomputable def Ll:ba:=⟨37,[],[],[0,2,3,4,6,8,9,10,21,22,23],[],[3,9,22]⟩
def BQ (p0:ByteArray):Prop:=
 ((ad pg X0 w0 (mm 9 3 (.string p0)) fun a=>
 (ja X0 w0 (I 0) (aF aZ 14695981039346656037) 9 3 fun b c d e g h=>
 ad pg h g (binOp .lss 3 d a) fun i=>
 (au i
 (((ad pg h g (Instr.index 9 (.string p0) d) fun j=>
 ad pg h g (nv aZ 5 250 j) fun k=>
 ad pg h g (binOp .xor 250 e k) fun l=>
 (ad pg h g (binOp .mul 250 l (aF aZ 1099511628211)) fun m=>
 ((ad pg h g (binOp .add 3 d (I 1)) fun n=>
 jb b c n m g h))))))
 (((ad pg h g (dK 357 #[(aF aZ 18397679294719823053),(aF aZ 14181476777654086739)] #[(0,(aF aZ 18397679294719823053)),(1,(aF aZ 14181476777654086739))]) fun o=>
 (ja h g (I 0) e 22 3 fun q r s t v y=>
 ad pg y v (binOp .lss 3 s (I 2)) fun z=>
 (au z
 ((ad pg y v (zn 357 2 250 o s) fun A=>
 (ad pg y v (binOp .shr 250 t (aF aZ 33)) fun C=>
 ad pg y v (binOp .xor 250 t C) fun D=>
 (ad pg y v (binOp .mul 250 D A) fun E=>
 ((ad pg y v (binOp .add 3 s (I 1)) fun F=>
 jb q r F E v y))))))
 (((ad pg y v (binOp .shr 250 t (aF aZ 33)) fun G=>
 ad pg y v (binOp .xor 250 t G) fun H=>
 (fin R y v H)))))))))))))
noncomputable def P0:ba:=⟨6,[],[],[0,2],[],[]⟩
def Gp (p0:Nat):Prop:=
 (eC pg R X0 w0 true 271 #[(.float .f64 p0)] fun a b c=>
 eC pg R c b true 146 #[a] fun d e g=>
 (fin R g e d))
noncomputable def Ff:ba:=⟨51,[(1,(pg.cellsOf 31))],[3,4,8,9,14,15,21,22,28,34,40,46],[0,2],[7,10,11,13,16,17,18,20,23,24,25,27,29,30,31,33,35,36,37,39,41,42,43,45,47,48,49],[]⟩
def wB (aR aW:Int) (aY bB:Nat) (bQ bR bS bW cN cj:Int) (bJ bG:Value):Prop:=
 (ad pg X0 w0 (aD .eql 3 (.tmp 5) (.const (I 0)) (I aR) (I 0)) fun a=>
 un (aK a true (I aW)) fun b=>
 aG pg X0 w0 a true (vS (aD .eql 3 (.tmp 10) (.const (I 0)) b (I 0))) fun c=>
 aw pg X0 w0 (aM a c (B false)) fun d=>
 un (aK d true (.float .f64 aY)) fun e=>
 jn (fun (g:Value) (h:World) (i:XS)=>
 aG pg i h d true (vS (aD .eql 250 (.tmp 17) (.const (aF aZ 0)) g (aF aZ 0))) fun j=>
 aw pg i h (aM d j (B false)) fun k=>
 un (aK k true (.float .f64 bB)) fun l=>
 jn (fun (m:Value) (n:World) (o:XS)=>
 aG pg o n k true (vS (aD .eql 250 (.tmp 24) (.const (aF aZ 0)) m (aF aZ 0))) fun q=>
 aw pg o n (aM k q (B false)) fun r=>
 un (aK r true (.agg #[(I bQ),(I bR),(I bS)])) fun s=>
 aG pg o n r true (vS (dK 27 #[(I 0),(I 0),(I 0)] #[])) fun t=>
 aG pg o n r true (vS (aD .eql 27 (.tmp 29) (.tmp 30) s t)) fun v=>
 aw pg o n (aM r v (B false)) fun y=>
 un (aK y true (.agg #[(I bW),(I cN),(I cj)])) fun z=>
 aG pg o n y true (vS (dK 27 #[(I 0),(I 0),(I 0)] #[])) fun A=>
 aG pg o n y true (vS (aD .eql 27 (.tmp 35) (.tmp 36) z A)) fun C=>
 aw pg o n (aM y C (B false)) fun D=>
 un (aK D true bJ) fun E=>
 aG pg o n D true (vS (cY 28 3 E)) fun F=>
 aG pg o n D true (vS (aD .eql 3 (.tmp 42) (.const (I 0)) F (I 0))) fun G=>
 aw pg o n (aM D G (B false)) fun H=>
 un (aK H true bG) fun L=>
 aG pg o n H true (vS (cY 29 3 L)) fun M=>
 aG pg o n H true (vS (aD .eql 3 (.tmp 48) (.const (I 0)) M (I 0))) fun N=>
 aw pg o n (aM H N (B false)) fun O=>
 (fin R o n O)) fun Q=>
 (gE k true (eC pg R i h true 146 #[l] Q) (Q undef h i))) fun S=>
 (gE d true (eC pg R X0 w0 true 146 #[e] S) (S undef w0 X0)))
noncomputable def II:ba:=⟨11,[(3,(pg.cellsOf 27))],[],[0,1,4,5],[],[]⟩
def yI (p0:Bool) (bo bh bp:Int):Prop:=
 ((au (B p0)
 (eC pg R X0 w0 true 239 #[(.agg #[(I bo),(I bh),(I bp)])] fun a b c=>
 (fin R c b a))
 ((ad pg X0 w0 (dK 27 #[(I 0),(I 0),(I 0)] #[]) fun d=>
 ad pg X0 w0 (aD .eql 27 (.tmp 8) (.tmp 9) (.agg #[(I bo),(I bh),(I bp)]) d) fun e=>
 (fin R X0 w0 e)))))
noncomputable def JK:ba:=⟨13,[],[],[0,2,3,4,8],[],[]⟩
def zX (p0:Nat):Prop:=
 (eC pg R X0 w0 true 172 #[(.float .f64 p0)] fun a b c=>
 ad pg c b (aD .eql 3 (.tmp 6) (.const (I 4)) a (I 4)) fun d=>
 (au d
 ((fin R c b (ay #[(.float .f64 0),(I 0)])))
 (eC pg R c b true 112 #[(.float .f64 p0)] fun e g h=>
 ad pg h g (aQ aT e) fun i=>
 (au i
 ((fin R h g (ay #[(.float .f64 0),(I 1)])))
 ((((fin R h g (ay #[(.float .f64 p0),(I 0)])))))))))
noncomputable def JL:ba:=⟨9,[],[],[0,2],[5,6,7],[]⟩
def zY (p0:Int):Prop:=
 (ad pg X0 w0 (binOp .geq 3 (I p0) (I 1)) fun a=>
 un (aK a true (I p0)) fun b=>
 aG pg X0 w0 a true (vS (binOp .leq 3 b (I 12))) fun c=>
 aw pg X0 w0 (aM a c (B false)) fun d=>
 (fin R X0 w0 d))
noncomputable def JM:ba:=⟨10,[(1,(pg.cellsOf 27))],[],[0,2],[5,6,7,8],[]⟩
def zZ (aR aW aY:Int):Prop:=
 (eC pg R X0 w0 true 144 #[(.agg #[(I aR),(I aW),(I aY)])] fun a b c=>
 un (aK a true (.agg #[(I aR),(I aW),(I aY)])) fun d=>
 aG pg c b a true (vS (dK 27 #[(I 0),(I 0),(I 0)] #[])) fun e=>
 aG pg c b a true (vS (aD .neq 27 (.tmp 6) (.tmp 7) d e)) fun g=>
 aw pg c b (aM a g (B false)) fun h=>
 (fin R c b h))
def BR (p0:Value):Prop:=
 (ad pg X0 w0 (cY 89 3 p0) fun a=>
 (gU X0 w0 (I 0) 7 fun b c d e g=>
 ad pg g e (binOp .lss 3 d a) fun h=>
 (au h
 ((ad pg g e (dy 89 4 p0 d) fun i=>
 ad pg g e (ff 207 4 i) fun j=>
 un (ai (aa j)) fun k=>
 aC (ao (ab (aa j))==4) (aC (aq (ab (aa j)) aX.one) ((aC (bP k) (un (cellOf k 0) fun l=>
 eC pg R g e true 215 #[l] fun m n o=>
 ad pg o n (aQ aT m) fun q=>
 un (aK q false d) fun r=>
 aG pg o n q false (vS (binOp .gtr 3 r (I 0))) fun s=>
 un (aK q false s) fun t=>
 un (aK t true p0) fun v=>
 un (aK t true d) fun y=>
 aG pg o n t true (vS (binOp .sub 3 y (I 1))) fun z=>
 aG pg o n t true (vS (dy 89 4 v z)) fun A=>
 aG pg o n t true (vS (aJ 207 0 0 1 A)) fun C=>
 aG pg o n t true (vS (ld1 9 C)) fun D=>
 un (aK t true l) fun E=>
 aG pg o n t true (vS (binOp .geq 9 D E)) fun F=>
 aG pg o n q false (aM t F (B false)) fun G=>
 aw pg o n (aM q (B true) G) fun H=>
 un (bV k 1 3) fun L=>
 un (aK H false L) fun M=>
 jn (fun (N:Value) (O:World) (Q:XS)=>
 aG pg Q O H false (vS (aQ aT N)) fun S=>
 aw pg Q O (aM H (B true) S) fun T=>
 un (cellOf k 1) fun U=>
 un (aK T false U) fun V=>
 aG pg Q O T false (vS (aD .eql 3 (.tmp 40) (.const (I 0)) V (I 0))) fun Y=>
 aw pg Q O (aM T (B true) Y) fun Z=>
 (au Z
 (fin R Q O (B false))
 (((ad pg Q O (binOp .add 3 d (I 1)) fun a0=>
 gV b c a0 O Q))))) fun b0=>
 (gE H false (eC pg R o n true 204 #[M] b0) (b0 undef n o))))))))
 (fin R g e (B true)))))
def Aa:Prop:=
 (eV pg R X0 w0 true (Instr.alloc 338 true (ay #[])) fun a b c=>
 ((vT c b (I 0) undef undef 4 9 3 fun d e g _ _ h i=>
 ad pg i h (binOp .lss 3 g (I 256)) fun j=>
 (au j
 (((ad pg i h (nv fA 3 282 g) fun k=>
 ((ja i h (I 0) k 9 3 fun l m n o q r=>
 ad pg r q (binOp .lss 3 n (I 8)) fun s=>
 (au s
 ((ad pg r q (binOp .shr 282 o (aF aZ 1)) fun t=>
 ad pg r q (binOp .and 282 o (aF fA 1)) fun v=>
 ad pg r q (aQ UnOp.neg v) fun y=>
 ad pg r q (binOp .and 282 (aF fA 2197175160) y) fun z=>
 ad pg r q (binOp .xor 282 t z) fun A=>
 ((ad pg r q (binOp .add 3 n (I 1)) fun C=>
 jb l m C A q r))))
 (((ad pg r q (Instr.indexAt 338 a g) fun D=>
 eU pg R r q true (st1 282 1 D o) fun _ E F=>
 ((ad pg F E (binOp .add 3 g (I 1)) fun G=>
 vU d e G n o E F)))))))))))
 (((ad pg i h (ff 338 256 a) fun H=>
 un (ai (aa H)) fun L=>
 aC (ao (ab (aa H))==256) (aC (aq (ab (aa H)) aX.one) (un (bV L 0 256) fun M=>
 aC (aq [L] bP) (fin R i h M))))))))))
def oV (p0 p1 p2:Value):Prop:=
 aw pg X0 w0 (az p1) fun a=>
 ad pg X0 w0 (ld1 127 a) fun b=>
 ad pg X0 w0 (cY 127 3 b) fun c=>
 ((jn (fun (d:Value) (e:World) (g:XS)=>
 (gU g e (I 0) 39 fun h i j k l=>
 ad pg l k (binOp .lss 3 j d) fun m=>
 (au m
 ((((jn (fun (n:World) (o:XS)=>
 aw pg o n (az p1) fun q=>
 ad pg o n (ld1 127 q) fun r=>
 ad pg o n (dy 127 6 r j) fun s=>
 eF pg R o n true p2 #[s] fun _ t v=>
 ((ad pg v t (binOp .add 3 j (I 1)) fun y=>
 gV h i y t v))) fun z=>
 aw pg l k (az p0) fun A=>
 ad pg l k (aJ 156 0 0 1 A) fun C=>
 ad pg l k (ld1 154 C) fun D=>
 ad pg l k (aD .eql 154 (.tmp 45) (.const (.pointer none)) D (.pointer none)) fun E=>
 (au E
 ((aw pg l k (az p1) fun F=>
 ad pg l k (ld1 127 F) fun G=>
 eV pg R l k false (fR 127 131 6 1 #[(0,(.agg #[(I 0),(I 0),(I 0),(I 0),(.float .f64 0),(.string { data:= #[] })]))]) fun H L M=>
 eV pg R M L true (gf 127 131 6 56 127 G H) fun N O Q=>
 aw pg Q O (az p1) fun S=>
 eU pg R Q O true (st1 127 1 S N) fun _ T U=>
 (z T U)))
 (z k l))))))
 (fin R l k (ay #[]))))) fun V=>
 aw pg X0 w0 (az p0) fun Y=>
 ad pg X0 w0 (aJ 156 0 0 1 Y) fun Z=>
 ad pg X0 w0 (ld1 154 Z) fun a0=>
 ad pg X0 w0 (aD .neq 154 (.tmp 16) (.const (.pointer none)) a0 (.pointer none)) fun b0=>
 (au b0
 (aw pg X0 w0 (az p0) fun c0=>
 ad pg X0 w0 (aJ 156 0 0 1 c0) fun d0=>
 ad pg X0 w0 (ld1 154 d0) fun e0=>
 eC pg R X0 w0 true 185 #[e0,c] fun _ g0 h0=>
 (V c g0 h0))
 (aw pg X0 w0 (az p0) fun i0=>
 ad pg X0 w0 (aJ 156 1 1 1 i0) fun j0=>
 ad pg X0 w0 (ld1 150 j0) fun k0=>
 aw pg X0 w0 (az p0) fun l0=>
 ad pg X0 w0 (aJ 156 1 1 1 l0) fun m0=>
 ad pg X0 w0 (ld1 150 m0) fun n0=>
 eC pg R X0 w0 false 195 #[n0] fun o0 q0 r0=>
 eC pg R r0 q0 true 194 #[k0,o0] fun s0 t0 v0=>
 (eC pg R v0 t0 true 187 #[p0] fun _ y0 z0=>
 (aw pg z0 y0 (az p1) fun A0=>
 eU pg R z0 y0 true (st1 127 1 A0 (.slice none 0 0)) fun _ C0 D0=>
 (V s0 C0 D0)))))))
def qz (p0 p1:Value):Prop:=
 aw pg X0 w0 (az p1) fun a=>
 ad pg X0 w0 (aJ 131 0 0 3 a) fun b=>
 eC pg R X0 w0 true 129 #[p0,b] fun _ c d=>
 (aw pg d c (az p1) fun e=>
 ad pg d c (aJ 131 1 3 3 e) fun g=>
 eC pg R d c true 200 #[p0,g] fun _ h i=>
 fin R i h (ay #[]))
noncomputable def Ck:ba:=⟨17,[],[],[0,1],[],[]⟩
def uj (p0:Value) (p1:ByteArray):Prop:=
 ad pg X0 w0 (mm 9 3 (.string p1)) fun a=>
 eC pg R X0 w0 true 185 #[p0,a] fun _ b c=>
 (aw pg c b (az p0) fun d=>
 ad pg c b (aJ 279 0 0 1 d) fun e=>
 ad pg c b (ld1 86 e) fun g=>
 eV pg R c b true (Builtin.append_ #[86,9] 86 #[g,(.string p1)]) fun h i j=>
 aw pg j i (az p0) fun k=>
 ad pg j i (aJ 279 0 0 1 k) fun l=>
 eU pg R j i true (st1 86 1 l h) fun _ m n=>
 fin R n m (ay #[]))
noncomputable def Om:ba:=⟨26,[(3,(pg.cellsOf 69))],[9,12,17,23],[0,1,6,13,14,20],[],[]⟩
def Eb (p0:Value) (bo:Int) (bh:Nat) (bp:ByteArray):Prop:=
 ((jn (fun (a:Value) (b:World) (c:XS)=>
 aC (bP a) (un (cellOf a 0) fun d=>
 eC pg R c b true 185 #[p0,d] fun _ e g=>
 (aC (bP a) (((jn (fun (h:World) (i:XS)=>
 fin R i h (ay #[])) fun j=>
 ad pg g e (aD .eql 3 (.tmp 13) (.const (I 1)) d (I 1)) fun k=>
 (au k
 (aC (bP a) (un (cellOf a 1) fun l=>
 eC pg R g e true 198 #[p0,l] fun _ m n=>
 (j m n)))
 (ad pg g e (aD .eql 3 (.tmp 13) (.const (I 2)) d (I 2)) fun o=>
 (au o
 (aC (bP a) (un (cellOf a 2) fun q=>
 eC pg R g e true 245 #[p0,q] fun _ r s=>
 (j r s)))
 (j e g)))))))))) fun t=>
 eC pg R X0 w0 true 204 #[(.agg #[(I bo),(.float .f64 bh),(.string bp)])] fun v y z=>
 ad pg z y (aQ aT v) fun A=>
 (au A
 (ad pg z y (dK 69 #[(I 0),(.float .f64 0),(.string ⟨#[]⟩)] #[]) fun C=>
 un (ai (aa C)) fun D=>
 aC (ao (ab (aa C))==3) (aC (aq (ab (aa C)) aX.one) (t D y z)))
 ((t (.agg #[(I bo),(.float .f64 bh),(.string bp)]) y z)))))
def iw (p0 p1:Value):Prop:=
 (eC pg R X0 w0 true 274 #[p0,p1] fun a b c=>
 ad pg c b (binOp .geq 3 a (I 0)) fun d=>
 (fin R c b d))
noncomputable def Fg:ba:=⟨8,[(2,(pg.cellsOf 71))],[4],[0,1,3],[],[]⟩
def wC (aR:ByteArray) (_p0_1:Int) (_p0_2:Nat) (_p0_3:ByteArray) (c0:Value):Prop:=
 (ad pg X0 w0 (ld1 9 c0) fun a=>
 ad pg X0 w0 (aD .eql 9 (.tmp 5) (.tmp 6) (.string aR) a) fun b=>
 (fin R X0 w0 b))
noncomputable def rK:ba:=⟨19,[],[],[0,1,4,5,7,8,9,16],[],[8]⟩
def kU (p0:Value) (p1:ByteArray):Prop:=
 (ad pg X0 w0 (cY 43 3 p0) fun a=>
 (gU X0 w0 (I 0) 8 fun b c d e g=>
 ad pg g e (binOp .lss 3 d a) fun h=>
 (au h
 (((ad pg g e (dy 43 1 p0 d) fun i=>
 ad pg g e (ld1 9 i) fun j=>
 ad pg g e (aD .eql 9 (.tmp 11) (.tmp 15) (.string p1) j) fun k=>
 (au k
 (fin R g e d)
 (((ad pg g e (binOp .add 3 d (I 1)) fun l=>
 gV b c l e g)))))))
 ((((fin R g e (I (-1)))))))))
def BS (p0:Value):Prop:=
 (ad pg X0 w0 (cY 47 3 p0) fun a=>
 (gU X0 w0 (I 0) 7 fun b c d e g=>
 ad pg g e (binOp .lss 3 d a) fun h=>
 (au h
 ((ad pg g e (dy 47 4 p0 d) fun i=>
 ad pg g e (ff 25 4 i) fun j=>
 un (ai (aa j)) fun k=>
 aC (ao (ab (aa j))==4) (aC (aq (ab (aa j)) aX.one) ((aC (bP k) (un (bV k 0 4) fun l=>
 eC pg R g e true 111 #[l] fun m n o=>
 ad pg o n (aQ aT m) fun q=>
 (au q
 (fin R o n (B false))
 (((ad pg o n (binOp .add 3 d (I 1)) fun r=>
 gV b c r n o))))))))))
 (((ad pg g e (cY 47 3 p0) fun s=>
 ad pg g e (binOp .leq 3 s (I 12)) fun t=>
 (fin R g e t)))))))
noncomputable def On:ba:=⟨8,[],[],[0,2,5],[],[]⟩
def Ec (p0:Nat):Prop:=
 (ad pg X0 w0 (aD .neq 23 (.tmp 3) (.tmp 4) (.float .f64 p0) (.float .f64 p0)) fun a=>
 (au a
 (eC pg R X0 w0 true 272 #[(aF aZ 9221120237041090560)] fun b c d=>
 (fin R d c b))
 (fin R X0 w0 (.float .f64 p0))))
def iU (p0 p1:Value):Prop:=
 (ad pg X0 w0 (cY 45 3 p0) fun a=>
 (gU X0 w0 (I 0) 8 fun b c d e g=>
 ad pg g e (binOp .lss 3 d a) fun h=>
 (au h
 (((ad pg g e (dy 45 4 p0 d) fun i=>
 ad pg g e (ff 71 4 i) fun j=>
 eF pg R g e true p1 #[j] fun k l m=>
 (au k
 (fin R m l d)
 (((ad pg m l (binOp .add 3 d (I 1)) fun n=>
 gV b c n l m)))))))
 ((((fin R g e (I (-1)))))))))
noncomputable def lU:ba:=⟨150,[(3,(pg.cellsOf 35)),(5,(pg.cellsOf 50)),(6,(pg.cellsOf 53)),(7,(pg.cellsOf 36)),(8,(pg.cellsOf 50))],[20,29,37,49,58,60,62,65,104,122,129,134,141],[0,1,2,9,10,15,53,66,67,73,83,92,101,127,132,147],[19,21,22,23,24,25,26,28,30,31,32,33,34,35,36,38,39,40,42,43,44,45,46,47,48,50,51,52,109,110,111,112,113,114,115,116,117,118,120,121,123,124,125,126,139,140,142,143,144],[]⟩
def lI (p0:Value) (p1 im ju jB nf nh ni mi pC rL pD lS lT nQ nR nS:Int) (nT:Bool) (nU nV:Int) (nW kB kd ll nY nZ:Value) (mA mB:Int) (mC mD:Nat) (mE mF mG mH mI mJ:Int) (mK mL:Value):Prop:=
 aC (aX.one p0) ((aw pg X0 w0 (az p0) fun a=>
 ad pg X0 w0 (aJ 85 2 2 1 a) fun b=>
 ad pg X0 w0 (ld1 4 b) fun c=>
 (au c
 ((fin R X0 w0 (ay #[(.slice none 0 0),(I 12)])))
 ((eC pg R X0 w0 true 35 #[(.agg #[(I im),(I ju),(I jB),(I nf),(I nh),(I ni),(I mi),(I pC),(I rL),(I pD),(I lS),(I lT),(I nQ),(I nR),(I nS),(B nT),(I nU),(I nV),nW,kB,kd,ll,nY,nZ,(I mA),(I mB),(.float .f64 mC),(.float .f64 mD),(I mE),(I mF),(I mG),(I mH),(I mI),(I mJ),mK,mL])] fun d e g=>
 ad pg g e (aD .neq 36 (.tmp 17) (.const (I 0)) d (I 0)) fun h=>
 un (aK h false (I jB)) fun i=>
 un (aK h false p0) fun j=>
 aG pg g e h false (az j) fun k=>
 aG pg g e h false (vS (aJ 85 0 0 1 k)) fun l=>
 aG pg g e h false (vS (ld1 3 l)) fun m=>
 aG pg g e h false (vS (aD .neq 3 (.tmp 21) (.tmp 25) i m)) fun n=>
 aw pg g e (aM h (B true) n) fun o=>
 un (aK o false (I mi)) fun q=>
 un (aK o false p0) fun r=>
 aG pg g e o false (az r) fun s=>
 aG pg g e o false (vS (aJ 85 0 0 1 s)) fun t=>
 aG pg g e o false (vS (ld1 3 t)) fun v=>
 aG pg g e o false (vS (aD .neq 3 (.tmp 30) (.tmp 34) q v)) fun y=>
 un (aK o false y) fun z=>
 un (aK z true (I im)) fun A=>
 aG pg g e z true (vS (aD .neq 3 (.tmp 38) (.const (I 11)) A (I 11))) fun C=>
 aG pg g e o false (aM z C (B false)) fun D=>
 aw pg g e (aM o (B true) D) fun E=>
 un (aK E false p0) fun F=>
 aG pg g e E false (az F) fun G=>
 aG pg g e E false (vS (aJ 85 3 3 1 G)) fun H=>
 aG pg g e E false (vS (ld1 4 H)) fun L=>
 aG pg g e E false (vS (aQ aT L)) fun M=>
 un (aK E false M) fun N=>
 un (aK N true (I im)) fun O=>
 aG pg g e N true (vS (aD .neq 3 (.tmp 50) (.const (I 10)) O (I 10))) fun Q=>
 aG pg g e E false (aM N Q (B false)) fun S=>
 aw pg g e (aM E (B true) S) fun T=>
 (au T
 ((fin R g e (ay #[(.slice none 0 0),(I 0)])))
 ((aw pg g e (az p0) fun U=>
 ad pg g e (aJ 85 0 0 1 U) fun V=>
 ad pg g e (ld1 3 V) fun Y=>
 ad pg g e (dK 50 #[(I 0),Y,(I ju),(I nf),(I nh),(I ni),(I mi),(I 0),(I 0),(I 0),(I 0),(I 0),(I 0),(I 0),(I 0),(B false),(I 0),(I 0),(.slice none 0 0),(.slice none 0 0),(.slice none 0 0),(.slice none 0 0),(.slice none 0 0),(.slice none 0 0),(I 0),(I 0),(.float .f64 0),(.float .f64 0),(I 0),(I 0),(I 0),(I 0),(I 0),(I 0),(.slice none 0 0),(.slice none 0 0)] #[(1,Y),(2,(I ju)),(3,(.agg #[(I nf),(I nh),(I ni)])),(4,(I mi))]) fun Z=>
 un (ai (aa Z)) fun a0=>
 aC (ao (ab (aa Z))==36) (aC (aq (ab (aa Z)) aX.one) (((((jn (fun (b0 c0:Value) (d0:World) (e0:XS)=>
 (ad pg e0 d0 (aQ aT c0) fun g0=>
 (au g0
 ((fin R e0 d0 (ay #[(.slice none 0 0),(I 0)])))
 ((aC (bP b0) (un (bV b0 0 36) fun h0=>
 eV pg R e0 d0 true (fR 53 50 36 1 #[(0,h0)]) fun i0 j0 k0=>
 aC (aX.one i0) ((fin R k0 j0 (ay #[i0,(I 0)]))))))))) fun l0=>
 ad pg g e (aD .eql 3 (.tmp 66) (.const (I 1)) (I im) (I 1)) fun m0=>
 (au m0
 (aC (bP a0) (un (bV a0 0 36) fun n0=>
 eC pg R g e true 36 #[p0,n0,(.agg #[(I im),(I ju),(I jB),(I nf),(I nh),(I ni),(I mi),(I pC),(I rL),(I pD),(I lS),(I lT),(I nQ),(I nR),(I nS),(B nT),(I nU),(I nV),nW,kB,kd,ll,nY,nZ,(I mA),(I mB),(.float .f64 mC),(.float .f64 mD),(I mE),(I mF),(I mG),(I mH),(I mI),(I mJ),mK,mL])] fun o0 q0 r0=>
 un (ai (aa o0)) fun s0=>
 aC (ao (ab (aa o0))==36) (aC (aq (ab (aa o0)) aX.one) (l0 s0 (B true) q0 r0))))
 (ad pg g e (aD .eql 3 (.tmp 66) (.const (I 3)) (I im) (I 3)) fun t0=>
 (au t0
 (aC (bP a0) (un (bV a0 0 36) fun v0=>
 eC pg R g e true 37 #[p0,v0,(I p1),(.agg #[(I im),(I ju),(I jB),(I nf),(I nh),(I ni),(I mi),(I pC),(I rL),(I pD),(I lS),(I lT),(I nQ),(I nR),(I nS),(B nT),(I nU),(I nV),nW,kB,kd,ll,nY,nZ,(I mA),(I mB),(.float .f64 mC),(.float .f64 mD),(I mE),(I mF),(I mG),(I mH),(I mI),(I mJ),mK,mL])] fun y0 z0 A0=>
 ad pg A0 z0 (aB y0 0) fun C0=>
 ad pg A0 z0 (aB y0 1) fun D0=>
 un (ai (aa C0)) fun E0=>
 aC (ao (ab (aa C0))==36) (aC (aq (ab (aa C0)) aX.one) (l0 E0 D0 z0 A0))))
 (ad pg g e (aD .eql 3 (.tmp 66) (.const (I 5)) (I im) (I 5)) fun F0=>
 (au F0
 (aC (bP a0) (un (bV a0 0 36) fun G0=>
 eC pg R g e true 38 #[p0,G0,(.agg #[(I im),(I ju),(I jB),(I nf),(I nh),(I ni),(I mi),(I pC),(I rL),(I pD),(I lS),(I lT),(I nQ),(I nR),(I nS),(B nT),(I nU),(I nV),nW,kB,kd,ll,nY,nZ,(I mA),(I mB),(.float .f64 mC),(.float .f64 mD),(I mE),(I mF),(I mG),(I mH),(I mI),(I mJ),mK,mL])] fun H0 L0 M0=>
 ad pg M0 L0 (aB H0 0) fun N0=>
 ad pg M0 L0 (aB H0 1) fun O0=>
 un (ai (aa N0)) fun Q0=>
 aC (ao (ab (aa N0))==36) (aC (aq (ab (aa N0)) aX.one) (l0 Q0 O0 L0 M0))))
 (ad pg g e (aD .eql 3 (.tmp 66) (.const (I 8)) (I im) (I 8)) fun S0=>
 (au S0
 (aC (bP a0) (un (bV a0 0 36) fun T0=>
 eC pg R g e true 39 #[p0,T0,(.agg #[(I im),(I ju),(I jB),(I nf),(I nh),(I ni),(I mi),(I pC),(I rL),(I pD),(I lS),(I lT),(I nQ),(I nR),(I nS),(B nT),(I nU),(I nV),nW,kB,kd,ll,nY,nZ,(I mA),(I mB),(.float .f64 mC),(.float .f64 mD),(I mE),(I mF),(I mG),(I mH),(I mI),(I mJ),mK,mL])] fun U0 V0 Y0=>
 ad pg Y0 V0 (aB U0 0) fun Z0=>
 ad pg Y0 V0 (aB U0 1) fun a1=>
 un (ai (aa Z0)) fun b1=>
 aC (ao (ab (aa Z0))==36) (aC (aq (ab (aa Z0)) aX.one) (l0 b1 a1 V0 Y0))))
 (ad pg g e (aD .eql 3 (.tmp 66) (.const (I 11)) (I im) (I 11)) fun c1=>
 (au c1
 (eC pg R g e true 40 #[p0,(I mi)] fun d1 e1 g1=>
 (ad pg g1 e1 (binOp .geq 3 d1 (I 0)) fun h1=>
 un (aK h1 true p0) fun i1=>
 aG pg g1 e1 h1 true (az i1) fun j1=>
 aG pg g1 e1 h1 true (vS (aJ 85 10 17 1 j1)) fun k1=>
 aG pg g1 e1 h1 true (vS (ld1 82 k1)) fun l1=>
 un (aK h1 true d1) fun m1=>
 aG pg g1 e1 h1 true (vS (dy 82 13 l1 m1)) fun n1=>
 aG pg g1 e1 h1 true (vS (aJ 106 1 12 1 n1)) fun o1=>
 aG pg g1 e1 h1 true (vS (ld1 4 o1)) fun q1=>
 aG pg g1 e1 h1 true (vS (aQ aT q1)) fun r1=>
 aw pg g1 e1 (aM h1 r1 (B false)) fun s1=>
 un (aK s1 true p0) fun t1=>
 un (aK s1 true (I mi)) fun v1=>
 aG pg g1 e1 s1 true (vS (dK 91 #[(I 7),(I 0),(I 0),(I 0),(I 0),(I 0),(I 0),(I 0),(I 0),(I 0),(B false),v1,(.float .f64 0),(.slice none 0 0),(.slice none 0 0),(.slice none 0 0),(.slice none 0 0),(I 0),(I 0),(.float .f64 0),(.float .f64 0),(I 0),(I 0),(I 0),(I 0),(I 0),(I 0),(.slice none 0 0),(.slice none 0 0)] #[(0,(I 7)),(5,v1)])) fun y1=>
 jn (fun (z1:Value) (A1:World) (C1:XS)=>
 aG pg C1 A1 s1 true (vS (aD .eql 36 (.tmp 125) (.const (I 0)) z1 (I 0))) fun D1=>
 aw pg C1 A1 (aM s1 D1 (B false)) fun E1=>
 (au E1
 (eC pg R C1 A1 true 42 #[p0,(I mi)] fun _ F1 G1=>
 (l0 a0 (B false) F1 G1))
 (l0 a0 (B false) A1 C1))) fun H1=>
 (gE s1 true (eC pg R g1 e1 true 41 #[t1,y1] H1) (H1 undef e1 g1))))
 (ad pg g e (aD .eql 3 (.tmp 66) (.const (I 10)) (I im) (I 10)) fun L1=>
 (au L1
 (aC (bP a0) (un (ai (aI (cP (ab (aa a0)) 0 [(I 11)]))) fun M1=>
 (aw pg g e (az p0) fun N1=>
 ad pg g e (aJ 85 3 3 1 N1) fun O1=>
 ad pg g e (ld1 4 O1) fun Q1=>
 un (aK Q1 false p0) fun S1=>
 un (aK Q1 false (.agg #[(I mA),(I mB),(.float .f64 mC),(.float .f64 mD),(I mE),(I mF),(I mG),(I mH),(I mI),(I mJ),mK,mL])) fun T1=>
 jn (fun (U1:Value) (V1:World) (Y1:XS)=>
 aG pg Y1 V1 Q1 false (vS (aD .eql 36 (.tmp 143) (.const (I 0)) U1 (I 0))) fun Z1=>
 aw pg Y1 V1 (aM Q1 (B true) Z1) fun a2=>
 (l0 M1 a2 V1 Y1)) fun b2=>
 (gE Q1 false (eC pg R g e true 43 #[S1,T1] b2) (b2 undef e g)))))
 (l0 a0 (B false) e g))))))))))))))))))))))))))
noncomputable def lV:ba:=⟨104,[(2,(pg.cellsOf 35)),(4,(pg.cellsOf 53)),(5,(pg.cellsOf 36)),(6,(pg.cellsOf 27)),(9,(pg.cellsOf 106)),(12,(pg.cellsOf 65))],[53,56,57,58,67,89,90,93],[0,1,7,10,14,19,39,47,48,49,50,55,78,79,80,81],[33,34,35,36,37,38,60,84],[4,49,80]⟩
def lH (p0:Value) (p1:Int):Prop:=
 aC (aX.one p0) ((aw pg X0 w0 (az p0) fun a=>
 ad pg X0 w0 (aJ 85 2 2 1 a) fun b=>
 ad pg X0 w0 (ld1 4 b) fun c=>
 (au c
 ((fin R X0 w0 (ay #[(.slice none 0 0),(I 12)])))
 (aw pg X0 w0 (az p0) fun d=>
 ad pg X0 w0 (aJ 85 3 3 1 d) fun e=>
 ad pg X0 w0 (ld1 4 e) fun g=>
 ad pg X0 w0 (aQ aT g) fun h=>
 (au h
 ((fin R X0 w0 (ay #[(.slice none 0 0),(I 0)])))
 ((((jn (fun (i:World) (j:XS)=>
 aw pg j i (az p0) fun k=>
 ad pg j i (aJ 85 10 17 1 k) fun l=>
 ad pg j i (ld1 82 l) fun m=>
 ad pg j i (cY 82 3 m) fun n=>
 (ja j i (I 0) (.agg #[(.slice none 0 0)]) 49 4 fun o q r s t v=>
 ad pg v t (binOp .lss 3 r n) fun y=>
 (au y
 (((jn (fun (z:Value) (A:World) (C:XS)=>
 (ad pg C A (binOp .add 3 r (I 1)) fun D=>
 jb o q D z A C)) fun E=>
 ad pg v t (dy 82 13 m r) fun F=>
 ad pg v t (ff 106 13 F) fun G=>
 un (ai (aa G)) fun H=>
 aC (ao (ab (aa G))==13) (aC (aq (ab (aa G)) aX.one) ((aC (bP H) (un (cellOf H 12) fun L=>
 ad pg v t (aQ aT L) fun M=>
 (au M
 (aC (bP H) (un (cellOf H 0) fun N=>
 (aC (bP s) (un (cellOf s 0) fun O=>
 aw pg v t (az p0) fun Q=>
 ad pg v t (aJ 85 0 0 1 Q) fun S=>
 ad pg v t (ld1 3 S) fun T=>
 aC (bP H) (un (bV H 0 12) fun U=>
 eC pg R v t false 46 #[U] fun V Y Z=>
 un (cellOf V 0) fun a0=>
 un (cellOf V 1) fun b0=>
 un (cellOf V 2) fun c0=>
 un (cellOf V 3) fun d0=>
 un (cellOf V 4) fun e0=>
 un (cellOf V 5) fun g0=>
 un (cellOf V 6) fun h0=>
 un (cellOf V 7) fun i0=>
 un (cellOf V 8) fun j0=>
 un (cellOf V 9) fun k0=>
 un (cellOf V 10) fun l0=>
 un (cellOf V 11) fun m0=>
 ad pg Z Y (dK 50 #[(I 10),T,N,(I 0),(I 0),(I 0),N,(I 0),(I 0),(I 0),(I 0),(I 0),(I 0),(I 0),(I 0),(B false),(I 0),(I 0),(.slice none 0 0),(.slice none 0 0),(.slice none 0 0),(.slice none 0 0),(.slice none 0 0),(.slice none 0 0),a0,b0,c0,d0,e0,g0,h0,i0,j0,k0,l0,m0] #[(0,(I 10)),(1,T),(2,N),(4,N),(18,V)]) fun n0=>
 eV pg R Z Y true (fR 53 50 36 1 #[(0,n0)]) fun o0 q0 r0=>
 eV pg R r0 q0 true (gf 53 50 36 416 53 O o0) fun s0 t0 v0=>
 un (ai (aI (cP (ab (aa s)) 0 [s0]))) fun y0=>
 aC (aX.one s0) (E y0 t0 v0))))))
 (E s t v)))))))))
 (((aw pg v t (az p0) fun z0=>
 ad pg v t (aJ 85 5 8 1 z0) fun A0=>
 ad pg v t (ld1 80 A0) fun C0=>
 eC pg R v t true 47 #[C0] fun D0 E0 F0=>
 ad pg F0 E0 (cY 29 3 D0) fun G0=>
 (ja F0 E0 (I 0) s 80 4 fun H0 L0 M0 N0 O0 Q0=>
 ad pg Q0 O0 (binOp .lss 3 M0 G0) fun S0=>
 (au S0
 ((ad pg Q0 O0 (dy 29 8 D0 M0) fun T0=>
 ad pg Q0 O0 (ff 65 8 T0) fun U0=>
 un (ai (aa U0)) fun V0=>
 aC (ao (ab (aa U0))==8) (aC (aq (ab (aa U0)) aX.one) ((aC (bP N0) (un (cellOf N0 0) fun Y0=>
 aw pg Q0 O0 (az p0) fun Z0=>
 ad pg Q0 O0 (aJ 85 0 0 1 Z0) fun a1=>
 ad pg Q0 O0 (ld1 3 a1) fun b1=>
 aC (bP V0) (un (cellOf V0 0) fun c1=>
 ad pg Q0 O0 (binOp .add 3 (I 20) c1) fun d1=>
 aw pg Q0 O0 (az p0) fun e1=>
 ad pg Q0 O0 (aJ 85 0 0 1 e1) fun g1=>
 ad pg Q0 O0 (ld1 3 g1) fun h1=>
 un (bV V0 0 3) fun i1=>
 un (cellOf i1 0) fun j1=>
 un (cellOf i1 1) fun k1=>
 un (cellOf i1 2) fun l1=>
 ad pg Q0 O0 (dK 50 #[(I 7),b1,d1,j1,k1,l1,h1,(I 0),(I 0),(I 0),(I 0),(I 0),(I 0),(I 0),(I 0),(B false),(I 0),(I 0),(.slice none 0 0),(.slice none 0 0),(.slice none 0 0),(.slice none 0 0),(.slice none 0 0),(.slice none 0 0),(I 0),(I 0),(.float .f64 0),(.float .f64 0),(I 0),(I 0),(I 0),(I 0),(I 0),(I 0),(.slice none 0 0),(.slice none 0 0)] #[(0,(I 7)),(1,b1),(2,d1),(3,i1),(4,h1)]) fun m1=>
 eV pg R Q0 O0 true (fR 53 50 36 1 #[(0,m1)]) fun n1 o1 q1=>
 eV pg R q1 o1 true (gf 53 50 36 416 53 Y0 n1) fun r1 s1 t1=>
 un (ai (aI (cP (ab (aa N0)) 0 [r1]))) fun v1=>
 aC (aX.one r1) (((ad pg t1 s1 (binOp .add 3 M0 (I 1)) fun y1=>
 jb H0 L0 y1 v1 s1 t1))))))))))
 (((aC (bP N0) (un (cellOf N0 0) fun z1=>
 un (ai (aI (cP (ab (aa N0)) 0 [z1]))) fun A1=>
 aC (aX.one z1) ((un (cellOf A1 0) fun C1=>
 aC (aq [A1,(.agg #[(I 0)])] bP) (fin R Q0 O0 (ay #[C1,(I 0)])))))))))))))))) fun D1=>
 eC pg R X0 w0 true 45 #[p0,(I p1)] fun E1 F1 G1=>
 ad pg G1 F1 (aB E1 0) fun H1=>
 ad pg G1 F1 (aB E1 1) fun L1=>
 un (ai (aa H1)) fun M1=>
 aC (ao (ab (aa H1))==3) (aC (aq (ab (aa H1)) aX.one) ((ad pg G1 F1 (aD .eql 36 (.tmp 31) (.const (I 0)) L1 (I 0)) fun N1=>
 un (aK N1 true p0) fun O1=>
 aC (bP M1) (un (bV M1 0 3) fun Q1=>
 un (aK N1 true Q1) fun S1=>
 un (cellOf S1 0) fun T1=>
 un (cellOf S1 1) fun U1=>
 un (cellOf S1 2) fun V1=>
 aG pg G1 F1 N1 true (vS (dK 91 #[(I 5),(I 0),(I 0),(I 0),T1,U1,V1,(I 0),(I 0),(I 0),(B false),(I 0),(.float .f64 0),(.slice none 0 0),(.slice none 0 0),(.slice none 0 0),(.slice none 0 0),(I 0),(I 0),(.float .f64 0),(.float .f64 0),(I 0),(I 0),(I 0),(I 0),(I 0),(I 0),(.slice none 0 0),(.slice none 0 0)] #[(0,(I 5)),(2,S1)])) fun Y1=>
 jn (fun (Z1:Value) (a2:World) (b2:XS)=>
 aG pg b2 a2 N1 true (vS (aD .eql 36 (.tmp 37) (.const (I 0)) Z1 (I 0))) fun c2=>
 aw pg b2 a2 (aM N1 c2 (B false)) fun d2=>
 (au d2
 (aC (bP M1) (aw pg b2 a2 (az p0) fun e2=>
 ad pg b2 a2 (aJ 85 9 14 3 e2) fun g2=>
 eU pg R b2 a2 true (st1 27 3 g2 Q1) fun _ h2 i2=>
 (D1 h2 i2)))
 (D1 a2 b2))) fun j2=>
 (gE N1 true (eC pg R G1 F1 true 41 #[O1,Y1] j2) (j2 undef F1 G1)))))))))))))))
noncomputable def ln:ba:=⟨96,[(4,(pg.cellsOf 35)),(8,(pg.cellsOf 36)),(9,(pg.cellsOf 25)),(10,(pg.cellsOf 25)),(12,(pg.cellsOf 27)),(13,(pg.cellsOf 31)),(14,(pg.cellsOf 31))],[],[0,1,2,3,11,16,17,19,24,42,47,55,61,72,81,90],[],[]⟩
def oE (p0:Value) (p1:Int) (p2:Nat) (p3:Int):Prop:=
 aC (aX.one p0) ((aw pg X0 w0 (az p0) fun a=>
 ad pg X0 w0 (aJ 85 2 2 1 a) fun b=>
 ad pg X0 w0 (ld1 4 b) fun c=>
 (au c
 (fin R X0 w0 (I 12))
 (aw pg X0 w0 (az p0) fun d=>
 ad pg X0 w0 (aJ 85 3 3 1 d) fun e=>
 ad pg X0 w0 (ld1 4 e) fun g=>
 ad pg X0 w0 (aQ aT g) fun h=>
 (au h
 (fin R X0 w0 (I 14))
 (((aw pg X0 w0 (az p0) fun i=>
 ad pg X0 w0 (aJ 85 4 4 4 i) fun j=>
 ad pg X0 w0 (ff 25 4 j) fun k=>
 eC pg R X0 w0 true 53 #[k,(.float .f64 p2),(I p3)] fun l m n=>
 ad pg n m (aB l 0) fun o=>
 ad pg n m (aB l 1) fun q=>
 ad pg n m (aB l 2) fun r=>
 un (ai (aa o)) fun _=>
 aC (ao (ab (aa o))==4) (aC (aq (ab (aa o)) aX.one) (un (ai (aa q)) fun _=>
 aC (ao (ab (aa q))==4) (aC (aq (ab (aa q)) aX.one) ((ad pg n m (aD .neq 36 (.tmp 41) (.const (I 0)) r (I 0)) fun s=>
 (au s
 (aC (aX.one r) (fin R n m r))
 ((eC pg R n m true 40 #[p0,(I p3)] fun t v y=>
 ad pg y v (binOp .geq 3 t (I 0)) fun z=>
 (au z
 (fin R y v (I 9))
 ((eC pg R y v true 45 #[p0,(I p1)] fun A C D=>
 ad pg D C (aB A 0) fun E=>
 ad pg D C (aB A 1) fun F=>
 un (ai (aa E)) fun G=>
 aC (ao (ab (aa E))==3) (aC (aq (ab (aa E)) aX.one) (aC (aX.one F) ((ad pg D C (aD .neq 36 (.tmp 54) (.const (I 0)) F (I 0)) fun H=>
 (au H
 (aC (aX.one F) (fin R D C F))
 ((aw pg D C (az p0) fun L=>
 ad pg D C (aJ 85 7 10 1 L) fun M=>
 ad pg D C (ld1 3 M) fun N=>
 ad pg D C (binOp .geq 3 N (I 281474976710656)) fun O=>
 (au O
 (fin R D C (I 15))
 ((aC (bP G) (un (bV G 0 3) fun Q=>
 eC pg R D C true 54 #[p0,(.float .f64 p2),(I p3),Q] fun S T U=>
 ad pg U T (aB S 0) fun V=>
 ad pg U T (aB S 1) fun Y=>
 ad pg U T (aB S 2) fun Z=>
 un (ai (aa V)) fun a0=>
 aC (ao (ab (aa V))==12) (aC (aq (ab (aa V)) aX.one) (un (ai (aa Y)) fun b0=>
 aC (ao (ab (aa Y))==12) (aC (aq (ab (aa Y)) aX.one) (aC (aX.one Z) ((ad pg U T (aD .neq 36 (.tmp 71) (.const (I 0)) Z (I 0)) fun c0=>
 (au c0
 (aC (aX.one Z) (fin R U T Z))
 ((aC (bP b0) (un (bV b0 0 12) fun d0=>
 un (cellOf d0 0) fun e0=>
 un (cellOf d0 1) fun g0=>
 un (cellOf d0 2) fun h0=>
 un (cellOf d0 3) fun i0=>
 un (cellOf d0 4) fun j0=>
 un (cellOf d0 5) fun k0=>
 un (cellOf d0 6) fun l0=>
 un (cellOf d0 7) fun m0=>
 un (cellOf d0 8) fun n0=>
 un (cellOf d0 9) fun o0=>
 un (cellOf d0 10) fun q0=>
 un (cellOf d0 11) fun r0=>
 ad pg U T (dK 91 #[(I 1),(I 0),(I 0),(I 0),(I 0),(I 0),(I 0),(I 0),(I 0),(I 0),(B false),(I 0),(.float .f64 0),(.slice none 0 0),(.slice none 0 0),(.slice none 0 0),(.slice none 0 0),e0,g0,h0,i0,j0,k0,l0,m0,n0,o0,q0,r0] #[(0,(I 1)),(11,d0)]) fun s0=>
 eC pg R U T true 55 #[s0] fun t0 v0 y0=>
 ad pg y0 v0 (aB t0 0) fun _=>
 ad pg y0 v0 (aB t0 1) fun z0=>
 (ad pg y0 v0 (aD .neq 36 (.tmp 80) (.const (I 0)) z0 (I 0)) fun A0=>
 (au A0
 (aC (aX.one z0) (fin R y0 v0 z0))
 ((aC (bP G) (un (cellOf Q 0) fun C0=>
 un (cellOf Q 1) fun D0=>
 un (cellOf Q 2) fun E0=>
 ad pg y0 v0 (dK 91 #[(I 6),(I 0),(I 0),(I 0),C0,D0,E0,(I 0),(I 0),(I 0),(B false),(I p3),(.float .f64 p2),(.slice none 0 0),(.slice none 0 0),(.slice none 0 0),(.slice none 0 0),(I 0),(I 0),(.float .f64 0),(.float .f64 0),(I 0),(I 0),(I 0),(I 0),(I 0),(I 0),(.slice none 0 0),(.slice none 0 0)] #[(0,(I 6)),(6,(.float .f64 p2)),(5,(I p3)),(2,Q)]) fun F0=>
 eC pg R y0 v0 true 41 #[p0,F0] fun G0 H0 L0=>
 (ad pg L0 H0 (aD .neq 36 (.tmp 89) (.const (I 0)) G0 (I 0)) fun M0=>
 (au M0
 (aC (aX.one G0) (fin R L0 H0 G0))
 ((aC (bP a0) (aC (bP b0) (un (bV a0 0 12) fun N0=>
 eC pg R L0 H0 true 56 #[p0,N0,d0] fun _ O0 Q0=>
 (fin R Q0 O0 (I 0)))))))))))))))))))))))))))))))))))))))))))))))))))))
noncomputable def lp:ba:=⟨13,[(2,(pg.cellsOf 35)),(3,(pg.cellsOf 31)),(4,(pg.cellsOf 36))],[],[0,1,9],[],[]⟩
def lf (p0:Value) (bo bh:Int) (bp dp:Nat) (cV cW cS cM dD dC:Int) (eu ei:Value):Prop:=
 aC (aX.one p0) ((aw pg X0 w0 (az p0) fun a=>
 ad pg X0 w0 (aJ 85 2 2 1 a) fun b=>
 ad pg X0 w0 (ld1 4 b) fun c=>
 (au c
 (fin R X0 w0 (I 12))
 ((eC pg R X0 w0 true 43 #[p0,(.agg #[(I bo),(I bh),(.float .f64 bp),(.float .f64 dp),(I cV),(I cW),(I cS),(I cM),(I dD),(I dC),eu,ei])] fun d e g=>
 aC (aX.one d) (fin R g e d))))))
end
theorem cv {f:FuncId} {fn:Func} {args:Array Value} {w:World} {R:Ending→World→Prop} {V:Prop} (pl:ba) (hf:pg.funcs[f]? =some fn) (h:V)
 (hs:(decide (args.size≤pl.n)&&pl.boxes.all fun p=>decide (args.size≤p.1))=true:=by kernel_rfl) (hv:V=GR pg (cF pg pl fn) R args w:=by kernel_rfl):Calls pg f args w R:=aL hf hs hv h
section
variable {R : Ending → World → Prop} {w0 : World} {p0 p1 p2 p3 p4 p5 p6 p7 p8 p9 p10 p11 : Value}
theorem xF {R:Ending→World→Prop} {w0:World} {p0:Value} {bo bh:Int} {bp dp:Nat} {cV cW cS cM dD dC:Int} {eu ei:Value} {p2:Int} (h:px R w0 (aS w0) p0 bo bh bp dp cV cW cS cM dD dC eu ei p2):Calls pg 3 #[p0,(.agg #[(I bo),(I bh),(.float .f64 bp),(.float .f64 dp),(I cV),(I cW),(I cS),(I cM),(I dD),(I dC),eu,ei]),(I p2)] w0 R:=
 aL (pl:=xT) Tryz.func3 (by kernel_rfl) (by kernel_rfl) h
theorem Dm (h:vt R w0 (aS w0)):Calls pg 4 #[] w0 R:=cv ⟨89,[(6,(pg.cellsOf 42)),(7,(pg.cellsOf 50))],[],[0,1,2,3,4,5,8,9,12,29],[20,21,22,24,25,26,27,28,52,53,54,56,57,58,60,61,62,63,65,66,67,68,69,70,72,73,74,75,76,77,78,80,81,82,83,85,86,87],[]⟩ Tryz.func4 h
theorem GH (h:xD R w0 (aS w0) p0):Calls pg 5 #[p0] w0 R:=cv ⟨41,[],[],[0,2,3,4,16],[9,10,11,13,14,15,19,37,38,39],[3,4]⟩ Tryz.func5 h
theorem Ab {R:Ending→World→Prop} {w0:World} {aR aW:Int} {aY bB:Nat} {bQ bR bS bW cN cj:Int} {bJ bG:Value} {p1:Int} (h:se R w0 (aS w0) aR aW aY bB bQ bR bS bW cN cj bJ bG p1):Calls pg 6 #[(.agg #[(I aR),(I aW),(.float .f64 aY),(.float .f64 bB),(I bQ),(I bR),(I bS),(I bW),(I cN),(I cj),bJ,bG]),(I p1)] w0 R:=
 aL (pl:=zI) Tryz.func6 (by kernel_rfl) (by kernel_rfl) h
theorem Ld {R:Ending→World→Prop} {w0:World} {p0:Value} {p1 p2:Int} (h:BG R w0 (aS w0) p0 p1 p2):Calls pg 7 #[p0,(I p1),(I p2)] w0 R:=
 aL (pl:=Lh) Tryz.func7 (by kernel_rfl) (by kernel_rfl) h
theorem P1 (h:Gf R w0 (aS w0)):Calls pg 8 #[] w0 R:=cv ⟨4,[],[],[0],[],[]⟩ Tryz.func8 h
theorem u5 (h:pt R w0 (aS w0) p0):Calls pg 11 #[p0] w0 R:=cv ⟨14,[],[],[0,2],[7,8,9,10,11,12],[]⟩ Tryz.func11 h
theorem C9 (h:u6 R w0 (aS w0) p0):Calls pg 12 #[p0] w0 R:=cv ⟨7,[],[],[0,2],[],[]⟩ Tryz.func12 h
theorem Da (h:u7 R w0 (aS w0) p0):Calls pg 13 #[p0] w0 R:=cv ⟨31,[(5,(pg.cellsOf 106))],[24,25],[0,2,3,8,17,18,19,20],[],[3,19]⟩ Tryz.func13 h
theorem B2 (h:tP R w0 (aS w0) p0):Calls pg 14 #[p0] w0 R:=cv ⟨34,[(5,(pg.cellsOf 106))],[15,26,27,28],[0,2,3,9,10,11,12,24],[18,19,20,21,22,23],[3,11]⟩ Tryz.func14 h
theorem zx (h:rX R w0 (aS w0) p0):Calls pg 15 #[p0] w0 R:=cv ⟨11,[],[],[0,2,6],[],[]⟩ Tryz.func15 h
theorem Hg {R:Ending→World→Prop} {w0:World} {aR aW:Int} {aY bB:Nat} {bQ bR bS bW cN cj:Int} {bJ bG:Value} {bo bh:Int} {bp dp:Nat} {cV cW cS cM dD dC:Int} {eu ei:Value} (h:xU R w0 (aS w0) aR aW aY bB bQ bR bS bW cN cj bJ bG bo bh bp dp cV cW cS cM dD dC eu ei):Calls pg 16 #[(.agg #[(I aR),(I aW),(.float .f64 aY),(.float .f64 bB),(I bQ),(I bR),(I bS),(I bW),(I cN),(I cj),bJ,bG]),(.agg #[(I bo),(I bh),(.float .f64 bp),(.float .f64 dp),(I cV),(I cW),(I cS),(I cM),(I dD),(I dC),eu,ei])] w0 R:=
 aL (pl:=GX) Tryz.func16 (by kernel_rfl) (by kernel_rfl) h
theorem tQ (h:oD R w0 (aS w0) p0):Calls pg 17 #[p0] w0 R:=cv ⟨30,[(2,(pg.cellsOf 31))],[],[0,5],[],[]⟩ Tryz.func17 h
theorem AB {R:Ending→World→Prop} {w0:World} {aR aW aY bo bh bp:Int} (h:sS R w0 (aS w0) aR aW aY bo bh bp):Calls pg 19 #[(.agg #[(I aR),(I aW),(I aY)]),(.agg #[(I bo),(I bh),(I bp)])] w0 R:=
 aL (pl:=AJ) Tryz.func19 (by kernel_rfl) (by kernel_rfl) h
theorem Dl (h:vn R w0 (aS w0)):Calls pg 21 #[] w0 R:=cv ⟨3,[(0,(pg.cellsOf 31))],[],[],[],[]⟩ Tryz.func21 h
theorem B5 {R:Ending→World→Prop} {w0:World} {aR aW aY bB bQ bR bS bW cN cj bJ bG cR cH cE:Int} {cG:Bool} {cI cK:Int} {cm ca cn cq ct cD:Value} {cu cy:Int} {cz cA:Nat} {cB eH eI eJ eK eM:Int} {eO eP:Value} {p1:Int} (h:tT R w0 (aS w0) aR aW aY bB bQ bR bS bW cN cj bJ bG cR cH cE cG cI cK cm ca cn cq ct cD cu cy cz cA cB eH eI eJ eK eM eO eP p1):Calls pg 22 #[(.agg #[(I aR),(I aW),(I aY),(I bB),(I bQ),(I bR),(I bS),(I bW),(I cN),(I cj),(I bJ),(I bG),(I cR),(I cH),(I cE),(B cG),(I cI),(I cK),cm,ca,cn,cq,ct,cD,(I cu),(I cy),(.float .f64 cz),(.float .f64 cA),(I cB),(I eH),(I eI),(I eJ),(I eK),(I eM),eO,eP]),(I p1)] w0 R:=
 aL (pl:=Ca) Tryz.func22 (by kernel_rfl) (by kernel_rfl) h
theorem JN {R:Ending→World→Prop} {w0:World} {p0 p1 p2:Int} (h:zJ R w0 (aS w0) p0 p1 p2):Calls pg 23 #[(I p0),(I p1),(I p2)] w0 R:=
 aL (pl:=JB) Tryz.func23 (by kernel_rfl) (by kernel_rfl) h
theorem wM {R:Ending→World→Prop} {w0:World} {p0:Value} {p1:Int} (h:oS R w0 (aS w0) p0 p1):Calls pg 24 #[p0,(I p1)] w0 R:=
 aL (pl:=wL) Tryz.func24 (by kernel_rfl) (by kernel_rfl) h
theorem x4 {R:Ending→World→Prop} {w0:World} {p0:Value} {p1:Int} (h:pB R w0 (aS w0) p0 p1):Calls pg 25 #[p0,(I p1)] w0 R:=
 aL (pl:=xV) Tryz.func25 (by kernel_rfl) (by kernel_rfl) h
theorem PD {R:Ending→World→Prop} {w0:World} {p0:Value} {p1:ByteArray} {p2:Int} (h:FN R w0 (aS w0) p0 p1 p2):Calls pg 26 #[p0,(.string p1),(I p2)] w0 R:=
 aL (pl:=PR) Tryz.func26 (by kernel_rfl) (by kernel_rfl) h
theorem Hh (h:xW R w0 (aS w0) p0):Calls pg 27 #[p0] w0 R:=cv ⟨12,[],[],[0,2],[],[]⟩ Tryz.func27 h
theorem IJ (h:yz R w0 (aS w0) p0):Calls pg 28 #[p0] w0 R:=cv ⟨15,[],[],[0,2],[],[]⟩ Tryz.func28 h
theorem P2 {R:Ending→World→Prop} {w0:World} {aR aW aY bB bQ bR bS bW cN cj bJ bG cR cH cE:Int} {cG:Bool} {cI cK:Int} {cm ca cn cq ct cD:Value} {cu cy:Int} {cz cA:Nat} {cB eH eI eJ eK eM:Int} {eO eP:Value} (h:Gg R w0 (aS w0) aR aW aY bB bQ bR bS bW cN cj bJ bG cR cH cE cG cI cK cm ca cn cq ct cD cu cy cz cA cB eH eI eJ eK eM eO eP):Calls pg 35 #[(.agg #[(I aR),(I aW),(I aY),(I bB),(I bQ),(I bR),(I bS),(I bW),(I cN),(I cj),(I bJ),(I bG),(I cR),(I cH),(I cE),(B cG),(I cI),(I cK),cm,ca,cn,cq,ct,cD,(I cu),(I cy),(.float .f64 cz),(.float .f64 cA),(I cB),(I eH),(I eI),(I eJ),(I eK),(I eM),eO,eP])] w0 R:=
 aL (pl:=PS) Tryz.func35 (by kernel_rfl) (by kernel_rfl) h
theorem zA {R:Ending→World→Prop} {w0:World} {p0:Value} {bo bh bp dp cV cW cS cM dD dC eu ei qP qQ qS:Int} {qT:Bool} {qU qV:Int} {qW qX qY qZ ra rj:Value} {rm rn:Int} {rq rr:Nat} {ru AK AL AM AN AO:Int} {AP AQ:Value} {p2 R5 R6 R7 GY GZ G9 R8 R9 Sa Sb LX LY LZ L9 Ma:Int} {Mb:Bool} {Mc Md:Int} {Me Mf Mg Mh Mi Mj:Value} {Mk Ml:Int} {Mm Mn:Nat} {Mo Mp Mq Mr Ms Mt:Int} {Mu Mw:Value} (h:rY R w0 (aS w0) p0 bo bh bp dp cV cW cS cM dD dC eu ei qP qQ qS qT qU qV qW qX qY qZ ra rj rm rn rq rr ru AK AL AM AN AO AP AQ p2 R5 R6 R7 GY GZ G9 R8 R9 Sa Sb LX LY LZ L9 Ma Mb Mc Md Me Mf Mg Mh Mi Mj Mk Ml Mm Mn Mo Mp Mq Mr Ms Mt Mu Mw):Calls pg 37 #[p0,(.agg #[(I bo),(I bh),(I bp),(I dp),(I cV),(I cW),(I cS),(I cM),(I dD),(I dC),(I eu),(I ei),(I qP),(I qQ),(I qS),(B qT),(I qU),(I qV),qW,qX,qY,qZ,ra,rj,(I rm),(I rn),(.float .f64 rq),(.float .f64 rr),(I ru),(I AK),(I AL),(I AM),(I AN),(I AO),AP,AQ]),(I p2),(.agg #[(I R5),(I R6),(I R7),(I GY),(I GZ),(I G9),(I R8),(I R9),(I Sa),(I Sb),(I LX),(I LY),(I LZ),(I L9),(I Ma),(B Mb),(I Mc),(I Md),Me,Mf,Mg,Mh,Mi,Mj,(I Mk),(I Ml),(.float .f64 Mm),(.float .f64 Mn),(I Mo),(I Mp),(I Mq),(I Mr),(I Ms),(I Mt),Mu,Mw])] w0 R:=
 aL (pl:=zK) Tryz.func37 (by kernel_rfl) (by kernel_rfl) h
theorem CV {R:Ending→World→Prop} {w0:World} {p0:Value} {bo bh bp dp cV cW cS cM dD dC:Int} {eu:Bool} {ei:Int} {qP:Nat} {qQ qS qT qU:Value} {qV qW:Int} {qX qY:Nat} {qZ ra rj rm rn rq:Int} {rr ru:Value} (h:u4 R w0 (aS w0) p0 bo bh bp dp cV cW cS cM dD dC eu ei qP qQ qS qT qU qV qW qX qY qZ ra rj rm rn rq rr ru):Calls pg 41 #[p0,(.agg #[(I bo),(I bh),(I bp),(I dp),(I cV),(I cW),(I cS),(I cM),(I dD),(I dC),(B eu),(I ei),(.float .f64 qP),qQ,qS,qT,qU,(I qV),(I qW),(.float .f64 qX),(.float .f64 qY),(I qZ),(I ra),(I rj),(I rm),(I rn),(I rq),rr,ru])] w0 R:=
 aL (pl:=DD) Tryz.func41 (by kernel_rfl) (by kernel_rfl) h
theorem tR {R:Ending→World→Prop} {w0:World} {p0:Value} {bo bh:Int} {bp dp:Nat} {cV cW cS cM dD dC:Int} {eu ei:Value} (h:oF R w0 (aS w0) p0 bo bh bp dp cV cW cS cM dD dC eu ei):Calls pg 43 #[p0,(.agg #[(I bo),(I bh),(.float .f64 bp),(.float .f64 dp),(I cV),(I cW),(I cS),(I cM),(I dD),(I dC),eu,ei])] w0 R:=
 aL (pl:=Cb) Tryz.func43 (by kernel_rfl) (by kernel_rfl) h
theorem B0 {R:Ending→World→Prop} {w0:World} {p0:Value} {p1:Int} (h:tN R w0 (aS w0) p0 p1):Calls pg 45 #[p0,(I p1)] w0 R:=
 aL (pl:=Cc) Tryz.func45 (by kernel_rfl) (by kernel_rfl) h
theorem zr (h:rS R w0 (aS w0) p0):Calls pg 47 #[p0] w0 R:=cv ⟨23,[(5,(pg.cellsOf 65))],[],[0,2,3,10,12],[],[3]⟩ Tryz.func47 h
theorem Hi {R:Ending→World→Prop} {w0:World} {aR aW:Int} {aY bB:Nat} {bo bh:Int} {bp dp:Nat} (h:xX R w0 (aS w0) aR aW aY bB bo bh bp dp):Calls pg 48 #[(.agg #[(I aR),(I aW),(.float .f64 aY),(.float .f64 bB)]),(.agg #[(I bo),(I bh),(.float .f64 bp),(.float .f64 dp)])] w0 R:=
 aL (pl:=Ha) Tryz.func48 (by kernel_rfl) (by kernel_rfl) h
theorem AY (h:th R w0 (aS w0) p0 p1):Calls pg 49 #[p0,p1] w0 R:=cv ⟨85,[(7,(pg.cellsOf 131)),(8,(pg.cellsOf 131))],[72,74,78,80],[0,1,4,5,6,13,17,45,53,84],[31,32,33,34,35,36,37,38,39,40,41,42,43,44,77,79,81,82,83],[5,6]⟩ Tryz.func49 h
theorem Cl (h:tZ R w0 (aS w0) p0 p1):Calls pg 50 #[p0,p1] w0 R:=cv ⟨27,[],[],[0,1,4,5,10,14,26],[],[5]⟩ Tryz.func50 h
theorem x8 (h:pU R w0 (aS w0) p0):Calls pg 51 #[p0] w0 R:=cv ⟨31,[],[],[0,2,3,5,11,12,13,14],[],[3,13]⟩ Tryz.func51 h
theorem JO {R:Ending→World→Prop} {w0:World} {aR aW aY bB bQ bR bS bW cN cj:Int} {bJ:Bool} {bG:Int} {cR:Nat} {cH cE cG cI:Value} {cK cm:Int} {ca cn:Nat} {cq ct cD cu cy cz:Int} {cA cB:Value} (h:zL R w0 (aS w0) aR aW aY bB bQ bR bS bW cN cj bJ bG cR cH cE cG cI cK cm ca cn cq ct cD cu cy cz cA cB):Calls pg 55 #[(.agg #[(I aR),(I aW),(I aY),(I bB),(I bQ),(I bR),(I bS),(I bW),(I cN),(I cj),(B bJ),(I bG),(.float .f64 cR),cH,cE,cG,cI,(I cK),(I cm),(.float .f64 ca),(.float .f64 cn),(I cq),(I ct),(I cD),(I cu),(I cy),(I cz),cA,cB])] w0 R:=
 aL (pl:=JC) Tryz.func55 (by kernel_rfl) (by kernel_rfl) h
theorem Ac {R:Ending→World→Prop} {w0:World} {p0:Value} {p1:Int} (h:sf R w0 (aS w0) p0 p1):Calls pg 58 #[p0,(I p1)] w0 R:=
 aL (pl:=zM) Tryz.func58 (by kernel_rfl) (by kernel_rfl) h
theorem Ax {R:Ending→World→Prop} {w0:World} {p0:Value} {p1:Int} (h:sR R w0 (aS w0) p0 p1):Calls pg 59 #[p0,(I p1)] w0 R:=
 aL (pl:=AR) Tryz.func59 (by kernel_rfl) (by kernel_rfl) h
theorem yZ {R:Ending→World→Prop} {w0:World} {p0:Value} {p1:Int} (h:qu R w0 (aS w0) p0 p1):Calls pg 60 #[p0,(I p1)] w0 R:=
 aL (pl:=yX) Tryz.func60 (by kernel_rfl) (by kernel_rfl) h
theorem Cm {R:Ending→World→Prop} {w0:World} {aR aW aY bB bQ bR bS bW cN cj:Int} {bJ:Bool} {bG:Int} {cR:Nat} {cH cE cG cI:Value} {cK cm:Int} {ca cn:Nat} {cq ct cD cu cy cz:Int} {cA cB:Value} {p1:Int} (h:ua R w0 (aS w0) aR aW aY bB bQ bR bS bW cN cj bJ bG cR cH cE cG cI cK cm ca cn cq ct cD cu cy cz cA cB p1):Calls pg 61 #[(.agg #[(I aR),(I aW),(I aY),(I bB),(I bQ),(I bR),(I bS),(I bW),(I cN),(I cj),(B bJ),(I bG),(.float .f64 cR),cH,cE,cG,cI,(I cK),(I cm),(.float .f64 ca),(.float .f64 cn),(I cq),(I ct),(I cD),(I cu),(I cy),(I cz),cA,cB]),(I p1)] w0 R:=
 aL (pl:=Cd) Tryz.func61 (by kernel_rfl) (by kernel_rfl) h
theorem P3 {R:Ending→World→Prop} {w0:World} {p0:ByteArray} {p1:Int} (h:Gh R w0 (aS w0) p0 p1):Calls pg 62 #[(.string p0),(I p1)] w0 R:=
 aL (pl:=PT) Tryz.func62 (by kernel_rfl) (by kernel_rfl) h
theorem Fh (h:wm R w0 (aS w0) p0):Calls pg 63 #[p0] w0 R:=cv ⟨7,[],[],[0,2],[],[]⟩ Tryz.func63 h
theorem EX (h:vV R w0 (aS w0) p0):Calls pg 64 #[p0] w0 R:=cv ⟨9,[],[],[0,2],[],[]⟩ Tryz.func64 h
theorem IK {R:Ending→World→Prop} {w0:World} {p0:Value} {p1:Int} (h:yA R w0 (aS w0) p0 p1):Calls pg 67 #[p0,(I p1)] w0 R:=
 aL (pl:=IC) Tryz.func67 (by kernel_rfl) (by kernel_rfl) h
theorem IL (h:yB R w0 (aS w0) p0):Calls pg 69 #[p0] w0 R:=cv ⟨15,[],[],[0,2],[],[]⟩ Tryz.func69 h
theorem Oo (h:DE R w0 (aS w0) p0 p1):Calls pg 73 #[p0,p1] w0 R:=cv ⟨183,[],[],[0,1,4,13,14,21,30,78,95,102,119,138,145,169],[],[]⟩ Tryz.func73 h
theorem B1 {R:Ending→World→Prop} {w0:World} {p0:Value} {bo bh:Int} {bp dp:Nat} {cV cW cS cM dD dC:Int} {eu ei:Value} (h:tO R w0 (aS w0) p0 bo bh bp dp cV cW cS cM dD dC eu ei):Calls pg 76 #[p0,(.agg #[(I bo),(I bh),(.float .f64 bp),(.float .f64 dp),(I cV),(I cW),(I cS),(I cM),(I dD),(I dC),eu,ei])] w0 R:=
 aL (pl:=Ce) Tryz.func76 (by kernel_rfl) (by kernel_rfl) h
theorem AZ {R:Ending→World→Prop} {w0:World} {p0:Value} {p1:ByteArray} (h:ti R w0 (aS w0) p0 p1):Calls pg 77 #[p0,(.string p1)] w0 R:=
 aL (pl:=AS) Tryz.func77 (by kernel_rfl) (by kernel_rfl) h
theorem zt {R:Ending→World→Prop} {w0:World} {p0:Value} {bo bh bp dp cV cW:Int} {cS cM p2:Value} (h:rU R w0 (aS w0) p0 bo bh bp dp cV cW cS cM p2):Calls pg 78 #[p0,(.agg #[(I bo),(I bh),(I bp),(I dp),(I cV),(I cW),cS,cM]),p2] w0 R:=
 aL (pl:=zN) Tryz.func78 (by kernel_rfl) (by kernel_rfl) h
theorem Oq {R:Ending→World→Prop} {w0:World} {aR aW aY bo bh bp:Int} (h:DF R w0 (aS w0) aR aW aY bo bh bp):Calls pg 80 #[(.agg #[(I aR),(I aW),(I aY)]),(.agg #[(I bo),(I bh),(I bp)])] w0 R:=
 aL (pl:=Oa) Tryz.func80 (by kernel_rfl) (by kernel_rfl) h
theorem Rt {R:Ending→World→Prop} {w0:World} {p0 bo bh bp:Int} (h:HS R w0 (aS w0) p0 bo bh bp):Calls pg 81 #[(I p0),(.agg #[(I bo),(I bh),(I bp)])] w0 R:=
 aL (pl:=Sc) Tryz.func81 (by kernel_rfl) (by kernel_rfl) h
theorem Ar {R:Ending→World→Prop} {w0:World} {p0:Value} {bo bh bp:Int} (h:sH R w0 (aS w0) p0 bo bh bp):Calls pg 82 #[p0,(.agg #[(I bo),(I bh),(I bp)])] w0 R:=
 aL (pl:=AT) Tryz.func82 (by kernel_rfl) (by kernel_rfl) h
theorem IM {R:Ending→World→Prop} {w0:World} {aR aW aY bB bQ bR bS bW cN cj bJ bG cR cH cE:Int} {cG:Bool} {cI cK:Int} {cm ca cn cq ct cD:Value} {cu cy:Int} {cz cA:Nat} {cB eH eI eJ eK eM:Int} {eO eP:Value} (h:yC R w0 (aS w0) aR aW aY bB bQ bR bS bW cN cj bJ bG cR cH cE cG cI cK cm ca cn cq ct cD cu cy cz cA cB eH eI eJ eK eM eO eP):Calls pg 83 #[(.agg #[(I aR),(I aW),(I aY),(I bB),(I bQ),(I bR),(I bS),(I bW),(I cN),(I cj),(I bJ),(I bG),(I cR),(I cH),(I cE),(B cG),(I cI),(I cK),cm,ca,cn,cq,ct,cD,(I cu),(I cy),(.float .f64 cz),(.float .f64 cA),(I cB),(I eH),(I eI),(I eJ),(I eK),(I eM),eO,eP])] w0 R:=
 aL (pl:=ID) Tryz.func83 (by kernel_rfl) (by kernel_rfl) h
theorem Ot {R:Ending→World→Prop} {w0:World} {p0:Int} (h:DG R w0 (aS w0) p0):Calls pg 84 #[(I p0)] w0 R:=
 aL (pl:=Ob) Tryz.func84 (by kernel_rfl) (by kernel_rfl) h
theorem Ou {R:Ending→World→Prop} {w0:World} {aR aW aY bB bQ bR bS bW cN cj bJ bG cR cH cE:Int} {cG:Bool} {cI cK:Int} {cm ca cn cq ct cD:Value} {cu cy:Int} {cz cA:Nat} {cB eH eI eJ eK eM:Int} {eO eP:Value} (h:DH R w0 (aS w0) aR aW aY bB bQ bR bS bW cN cj bJ bG cR cH cE cG cI cK cm ca cn cq ct cD cu cy cz cA cB eH eI eJ eK eM eO eP):Calls pg 85 #[(.agg #[(I aR),(I aW),(I aY),(I bB),(I bQ),(I bR),(I bS),(I bW),(I cN),(I cj),(I bJ),(I bG),(I cR),(I cH),(I cE),(B cG),(I cI),(I cK),cm,ca,cn,cq,ct,cD,(I cu),(I cy),(.float .f64 cz),(.float .f64 cA),(I cB),(I eH),(I eI),(I eJ),(I eK),(I eM),eO,eP])] w0 R:=
 aL (pl:=Oc) Tryz.func85 (by kernel_rfl) (by kernel_rfl) h
theorem JP {R:Ending→World→Prop} {w0:World} {aR aW aY bB bQ bR bS bW cN cj bJ bG cR cH cE:Int} {cG:Bool} {cI cK:Int} {cm ca cn cq ct cD:Value} {cu cy:Int} {cz cA:Nat} {cB eH eI eJ eK eM:Int} {eO eP:Value} (h:zO R w0 (aS w0) aR aW aY bB bQ bR bS bW cN cj bJ bG cR cH cE cG cI cK cm ca cn cq ct cD cu cy cz cA cB eH eI eJ eK eM eO eP):Calls pg 86 #[(.agg #[(I aR),(I aW),(I aY),(I bB),(I bQ),(I bR),(I bS),(I bW),(I cN),(I cj),(I bJ),(I bG),(I cR),(I cH),(I cE),(B cG),(I cI),(I cK),cm,ca,cn,cq,ct,cD,(I cu),(I cy),(.float .f64 cz),(.float .f64 cA),(I cB),(I eH),(I eI),(I eJ),(I eK),(I eM),eO,eP])] w0 R:=
 aL (pl:=JD) Tryz.func86 (by kernel_rfl) (by kernel_rfl) h
theorem EZ {R:Ending→World→Prop} {w0:World} {p0:Value} {bo bh bp:Int} (h:vY R w0 (aS w0) p0 bo bh bp):Calls pg 89 #[p0,(.agg #[(I bo),(I bh),(I bp)])] w0 R:=
 aL (pl:=Fa) Tryz.func89 (by kernel_rfl) (by kernel_rfl) h
theorem De {R:Ending→World→Prop} {w0:World} {p0:Value} {p1 im ju jB nf nh ni mi pC rL pD lS lT nQ nR nS:Int} {nT:Bool} {nU nV:Int} {nW kB kd ll nY nZ:Value} {mA mB:Int} {mC mD:Nat} {mE mF mG mH mI mJ:Int} {mK mL:Value} (h:vi R w0 (aS w0) p0 p1 im ju jB nf nh ni mi pC rL pD lS lT nQ nR nS nT nU nV nW kB kd ll nY nZ mA mB mC mD mE mF mG mH mI mJ mK mL):Calls pg 90 #[p0,(I p1),(.agg #[(I im),(I ju),(I jB),(I nf),(I nh),(I ni),(I mi),(I pC),(I rL),(I pD),(I lS),(I lT),(I nQ),(I nR),(I nS),(B nT),(I nU),(I nV),nW,kB,kd,ll,nY,nZ,(I mA),(I mB),(.float .f64 mC),(.float .f64 mD),(I mE),(I mF),(I mG),(I mH),(I mI),(I mJ),mK,mL])] w0 R:=
 aL (pl:=DI) Tryz.func90 (by kernel_rfl) (by kernel_rfl) h
theorem Dc {R:Ending→World→Prop} {w0:World} {p0:Value} {bo bh bp:Int} (h:vg R w0 (aS w0) p0 bo bh bp):Calls pg 92 #[p0,(.agg #[(I bo),(I bh),(I bp)])] w0 R:=
 aL (pl:=DJ) Tryz.func92 (by kernel_rfl) (by kernel_rfl) h
theorem Fi (h:wo R w0 (aS w0) p0 p1):Calls pg 94 #[p0,p1] w0 R:=cv ⟨90,[],[],[0,1,4,5,6,7,8,9,10,12,15,19,31,35,41,66],[],[]⟩ Tryz.func94 h
theorem IN (h:yD R w0 (aS w0) p0):Calls pg 95 #[p0] w0 R:=cv ⟨28,[],[],[0,2,3,20],[],[]⟩ Tryz.func95 h
theorem Hj {R:Ending→World→Prop} {w0:World} {aR aW:Int} {aY bB:Nat} {bQ bR bS bW cN cj:Int} {bJ bG:Value} (h:xY R w0 (aS w0) aR aW aY bB bQ bR bS bW cN cj bJ bG):Calls pg 96 #[(.agg #[(I aR),(I aW),(.float .f64 aY),(.float .f64 bB),(I bQ),(I bR),(I bS),(I bW),(I cN),(I cj),bJ,bG])] w0 R:=
 aL (pl:=Hb) Tryz.func96 (by kernel_rfl) (by kernel_rfl) h
theorem EY {R:Ending→World→Prop} {w0:World} {p0:Value} {p1:Int} (h:vX R w0 (aS w0) p0 p1):Calls pg 97 #[p0,(I p1)] w0 R:=
 aL (pl:=Fb) Tryz.func97 (by kernel_rfl) (by kernel_rfl) h
theorem BZ {R:Ending→World→Prop} {w0:World} {p0:Value} {p1:Int} (h:tM R w0 (aS w0) p0 p1):Calls pg 98 #[p0,(I p1)] w0 R:=
 aL (pl:=Cf) Tryz.func98 (by kernel_rfl) (by kernel_rfl) h
theorem Gz {R:Ending→World→Prop} {w0:World} {p0:Value} {p1:Int} (h:xy R w0 (aS w0) p0 p1):Calls pg 99 #[p0,(I p1)] w0 R:=
 aL (pl:=Hc) Tryz.func99 (by kernel_rfl) (by kernel_rfl) h
theorem Ov (h:DK R w0 (aS w0) p0 p1):Calls pg 100 #[p0,p1] w0 R:=cv ⟨80,[(9,(pg.cellsOf 129)),(11,(pg.cellsOf 65)),(13,(pg.cellsOf 65))],[30,32,35,51,74],[0,1,4,5,6,7,12,14,16,17,18,19,25,38,39,40,41,56,60,62,66],[],[7,18,40]⟩ Tryz.func100 h
theorem Lm {R:Ending→World→Prop} {w0:World} {aR aW aY bB bQ bR:Int} {bS bW:Value} (h:BL R w0 (aS w0) aR aW aY bB bQ bR bS bW):Calls pg 101 #[(.agg #[(I aR),(I aW),(I aY),(I bB),(I bQ),(I bR),bS,bW])] w0 R:=
 aL (pl:=Li) Tryz.func101 (by kernel_rfl) (by kernel_rfl) h
theorem IP {R:Ending→World→Prop} {w0:World} {p0 p1:Nat} (h:yE R w0 (aS w0) p0 p1):Calls pg 105 #[(.float .f64 p0),(.float .f64 p1)] w0 R:=
 aL (pl:=IE) Tryz.func105 (by kernel_rfl) (by kernel_rfl) h
theorem Hk {R:Ending→World→Prop} {w0:World} {aR:Int} {aW:Nat} {aY:ByteArray} {bo:Int} {bh:Nat} {bp:ByteArray} (h:xZ R w0 (aS w0) aR aW aY bo bh bp):Calls pg 106 #[(.agg #[(I aR),(.float .f64 aW),(.string aY)]),(.agg #[(I bo),(.float .f64 bh),(.string bp)])] w0 R:=
 aL (pl:=Hd) Tryz.func106 (by kernel_rfl) (by kernel_rfl) h
theorem Ed {R:Ending→World→Prop} {w0:World} {aR aW aY bB bQ bR:Int} {bS bW:Value} {bo bh bp dp cV cW:Int} {cS cM:Value} (h:vx R w0 (aS w0) aR aW aY bB bQ bR bS bW bo bh bp dp cV cW cS cM):Calls pg 107 #[(.agg #[(I aR),(I aW),(I aY),(I bB),(I bQ),(I bR),bS,bW]),(.agg #[(I bo),(I bh),(I bp),(I dp),(I cV),(I cW),cS,cM])] w0 R:=
 aL (pl:=DL) Tryz.func107 (by kernel_rfl) (by kernel_rfl) h
theorem ji (h:fK R w0 (aS w0) p0):Calls pg 109 #[p0] w0 R:=cv ⟨4,[],[],[0,1,2],[],[]⟩ Tryz.func109 h
theorem nj (h:iT R w0 (aS w0) p0):Calls pg 110 #[p0] w0 R:=cv ⟨8,[],[],[0,2,4],[],[]⟩ Tryz.func110 h
theorem Ox {R:Ending→World→Prop} {w0:World} {aR aW:Int} {aY bB:Nat} (h:DN R w0 (aS w0) aR aW aY bB):Calls pg 111 #[(.agg #[(I aR),(I aW),(.float .f64 aY),(.float .f64 bB)])] w0 R:=
 aL (pl:=Od) Tryz.func111 (by kernel_rfl) (by kernel_rfl) h
theorem JQ {R:Ending→World→Prop} {w0:World} {p0:Nat} (h:zP R w0 (aS w0) p0):Calls pg 112 #[(.float .f64 p0)] w0 R:=
 aL (pl:=JE) Tryz.func112 (by kernel_rfl) (by kernel_rfl) h
theorem P4 {R:Ending→World→Prop} {w0:World} {aR aW aY bB bQ bR bS bW cN cj:Int} {bJ:Bool} {bG:Int} {cR:Nat} {cH cE cG cI:Value} {cK cm:Int} {ca cn:Nat} {cq ct cD cu cy cz:Int} {cA cB:Value} (h:Gi R w0 (aS w0) aR aW aY bB bQ bR bS bW cN cj bJ bG cR cH cE cG cI cK cm ca cn cq ct cD cu cy cz cA cB):Calls pg 114 #[(.agg #[(I aR),(I aW),(I aY),(I bB),(I bQ),(I bR),(I bS),(I bW),(I cN),(I cj),(B bJ),(I bG),(.float .f64 cR),cH,cE,cG,cI,(I cK),(I cm),(.float .f64 ca),(.float .f64 cn),(I cq),(I ct),(I cD),(I cu),(I cy),(I cz),cA,cB])] w0 R:=
 aL (pl:=PU) Tryz.func114 (by kernel_rfl) (by kernel_rfl) h
theorem Fj (h:wq R w0 (aS w0)):Calls pg 115 #[] w0 R:=cv ⟨3,[],[],[0],[],[]⟩ Tryz.func115 h
theorem A9 (h:tj R w0 (aS w0) p0):Calls pg 116 #[p0] w0 R:=cv ⟨9,[],[],[0,2],[],[]⟩ Tryz.func116 h
theorem P5 {R:Ending→World→Prop} {w0:World} {p0:ByteArray} {p1:Int} (h:Gj R w0 (aS w0) p0 p1):Calls pg 117 #[(.string p0),(I p1)] w0 R:=
 aL (pl:=PW) Tryz.func117 (by kernel_rfl) (by kernel_rfl) h
theorem kq (h:gJ R w0 (aS w0) p0):Calls pg 118 #[p0] w0 R:=cv ⟨4,[],[],[0,1,2],[],[]⟩ Tryz.func118 h
theorem Cn {R:Ending→World→Prop} {w0:World} {p0:Value} {p1:ByteArray} (h:ub R w0 (aS w0) p0 p1):Calls pg 121 #[p0,(.string p1)] w0 R:=
 aL (pl:=Cg) Tryz.func121 (by kernel_rfl) (by kernel_rfl) h
theorem Ee (h:vy R w0 (aS w0) p0 p1):Calls pg 123 #[p0,p1] w0 R:=cv ⟨26,[],[],[0,1,8],[],[]⟩ Tryz.func123 h
theorem Ba (h:tk R w0 (aS w0) p0 p1):Calls pg 124 #[p0,p1] w0 R:=cv ⟨33,[],[],[0,1],[],[]⟩ Tryz.func124 h
theorem y9 (h:qv R w0 (aS w0) p0 p1):Calls pg 125 #[p0,p1] w0 R:=cv ⟨28,[],[],[0,1],[],[]⟩ Tryz.func125 h
theorem Fk (h:wu R w0 (aS w0) p0 p1 p2):Calls pg 126 #[p0,p1,p2] w0 R:=cv ⟨63,[],[],[0,1,2,6,7,8,17,38,39,40,46],[],[39]⟩ Tryz.func126 h
theorem Ef (h:vz R w0 (aS w0) p0 p1):Calls pg 127 #[p0,p1] w0 R:=cv ⟨19,[],[],[0,1],[],[]⟩ Tryz.func127 h
theorem Co (h:uc R w0 (aS w0) p0 p1):Calls pg 128 #[p0,p1] w0 R:=cv ⟨26,[],[],[0,1,8],[],[]⟩ Tryz.func128 h
theorem Bb (h:tp R w0 (aS w0) p0 p1):Calls pg 129 #[p0,p1] w0 R:=cv ⟨19,[],[],[0,1],[],[]⟩ Tryz.func129 h
theorem Bc (h:tq R w0 (aS w0) p0 p1):Calls pg 130 #[p0,p1] w0 R:=cv ⟨26,[],[],[0,1,8],[],[]⟩ Tryz.func130 h
theorem x9 (h:pZ R w0 (aS w0) p0 p1 p2):Calls pg 131 #[p0,p1,p2] w0 R:=cv ⟨63,[(8,(pg.cellsOf 71))],[],[0,1,2,6,7,17,38,39,40,46],[],[39]⟩ Tryz.func131 h
theorem Bd (h:tr R w0 (aS w0) p0 p1):Calls pg 132 #[p0,p1] w0 R:=cv ⟨14,[],[],[0,1],[],[]⟩ Tryz.func132 h
theorem za (h:qw R w0 (aS w0) p0 p1 p2):Calls pg 133 #[p0,p1,p2] w0 R:=cv ⟨63,[(8,(pg.cellsOf 207))],[],[0,1,2,6,7,17,38,39,40,46],[],[39]⟩ Tryz.func133 h
theorem Cp (h:ud R w0 (aS w0) p0 p1):Calls pg 134 #[p0,p1] w0 R:=cv ⟨14,[],[],[0,1],[],[]⟩ Tryz.func134 h
theorem Be {R:Ending→World→Prop} {w0:World} {p0:Value} {p1:ByteArray} {im ju jB:Int} {p3:Bool} (h:tt R w0 (aS w0) p0 p1 im ju jB p3):Calls pg 136 #[p0,(.string p1),(.agg #[(I im),(I ju),(I jB)]),(B p3)] w0 R:=
 aL (pl:=AU) Tryz.func136 (by kernel_rfl) (by kernel_rfl) h
theorem Eg {R:Ending→World→Prop} {w0:World} {aR aW aY bB bQ bR:Int} {bS bW:Value} (h:vA R w0 (aS w0) aR aW aY bB bQ bR bS bW):Calls pg 137 #[(.agg #[(I aR),(I aW),(I aY),(I bB),(I bQ),(I bR),bS,bW])] w0 R:=
 aL (pl:=DO) Tryz.func137 (by kernel_rfl) (by kernel_rfl) h
theorem jx (h:fX R w0 (aS w0) p0 p1 p2):Calls pg 138 #[p0,p1,p2] w0 R:=cv ⟨32,[(9,(pg.cellsOf 163))],[],[0,1,2,6,7,8,14,15,16,17,18,30],[],[17]⟩ Tryz.func138 h
theorem JR {R:Ending→World→Prop} {w0:World} {aR aW aY bo bh bp:Int} (h:zR R w0 (aS w0) aR aW aY bo bh bp):Calls pg 140 #[(.agg #[(I aR),(I aW),(I aY)]),(.agg #[(I bo),(I bh),(I bp)])] w0 R:=
 aL (pl:=JF) Tryz.func140 (by kernel_rfl) (by kernel_rfl) h
theorem Bf {R:Ending→World→Prop} {w0:World} {p0:Value} {bo bh bp dp cV cW:Int} {cS cM:Value} (h:tu R w0 (aS w0) p0 bo bh bp dp cV cW cS cM):Calls pg 141 #[p0,(.agg #[(I bo),(I bh),(I bp),(I dp),(I cV),(I cW),cS,cM])] w0 R:=
 aL (pl:=AV) Tryz.func141 (by kernel_rfl) (by kernel_rfl) h
theorem Fl {R:Ending→World→Prop} {w0:World} {p0:Value} {bo bh bp dp cV cW:Int} {cS cM:Value} (h:wv R w0 (aS w0) p0 bo bh bp dp cV cW cS cM):Calls pg 142 #[p0,(.agg #[(I bo),(I bh),(I bp),(I dp),(I cV),(I cW),cS,cM])] w0 R:=
 aL (pl:=Fc) Tryz.func142 (by kernel_rfl) (by kernel_rfl) h
theorem Se {R:Ending→World→Prop} {w0:World} {aR aW aY:Int} (h:IF R w0 (aS w0) aR aW aY):Calls pg 144 #[(.agg #[(I aR),(I aW),(I aY)])] w0 R:=
 aL (pl:=Sd) Tryz.func144 (by kernel_rfl) (by kernel_rfl) h
theorem JS {R:Ending→World→Prop} {w0:World} {p0:Int} (h:zS R w0 (aS w0) p0):Calls pg 145 #[(I p0)] w0 R:=
 aL (pl:=JG) Tryz.func145 (by kernel_rfl) (by kernel_rfl) h
theorem Ln {R:Ending→World→Prop} {w0:World} {aR aW aY bB bQ bR bS bW cN cj bJ bG cR cH cE:Int} {cG:Bool} {cI cK:Int} {cm ca cn cq ct cD:Value} {cu cy:Int} {cz cA:Nat} {cB eH eI eJ eK eM:Int} {eO eP:Value} (h:BM R w0 (aS w0) aR aW aY bB bQ bR bS bW cN cj bJ bG cR cH cE cG cI cK cm ca cn cq ct cD cu cy cz cA cB eH eI eJ eK eM eO eP):Calls pg 147 #[(.agg #[(I aR),(I aW),(I aY),(I bB),(I bQ),(I bR),(I bS),(I bW),(I cN),(I cj),(I bJ),(I bG),(I cR),(I cH),(I cE),(B cG),(I cI),(I cK),cm,ca,cn,cq,ct,cD,(I cu),(I cy),(.float .f64 cz),(.float .f64 cA),(I cB),(I eH),(I eI),(I eJ),(I eK),(I eM),eO,eP])] w0 R:=
 aL (pl:=Lj) Tryz.func147 (by kernel_rfl) (by kernel_rfl) h
theorem Lo (h:BN R w0 (aS w0) p0):Calls pg 148 #[p0] w0 R:=cv ⟨24,[(4,(pg.cellsOf 91))],[],[0,2,6,7,8,9,10,19],[],[9]⟩ Tryz.func148 h
theorem Lp {R:Ending→World→Prop} {w0:World} {aR aW aY bo bh bp im ju jB:Int} {p3:Value} (h:BO R w0 (aS w0) aR aW aY bo bh bp im ju jB p3):Calls pg 149 #[(.agg #[(I aR),(I aW),(I aY)]),(.agg #[(I bo),(I bh),(I bp)]),(.agg #[(I im),(I ju),(I jB)]),p3] w0 R:=
 aL (pl:=Lk) Tryz.func149 (by kernel_rfl) (by kernel_rfl) h
theorem GA {R:Ending→World→Prop} {w0:World} {p0:Value} {p1:ByteArray} (h:xB R w0 (aS w0) p0 p1):Calls pg 150 #[p0,(.string p1)] w0 R:=
 aL (pl:=He) Tryz.func150 (by kernel_rfl) (by kernel_rfl) h
theorem JU (h:zT R w0 (aS w0) p0):Calls pg 155 #[p0] w0 R:=cv ⟨27,[],[],[0,2,3,4,7],[],[]⟩ Tryz.func155 h
theorem Cq {R:Ending→World→Prop} {w0:World} {p0:Value} {p1:ByteArray} {p2:Value} (h:ue R w0 (aS w0) p0 p1 p2):Calls pg 156 #[p0,(.string p1),p2] w0 R:=
 aL (pl:=Ch) Tryz.func156 (by kernel_rfl) (by kernel_rfl) h
theorem Fm {R:Ending→World→Prop} {w0:World} {p0:Value} {p1:ByteArray} (h:wx R w0 (aS w0) p0 p1):Calls pg 157 #[p0,(.string p1)] w0 R:=
 aL (pl:=Fe) Tryz.func157 (by kernel_rfl) (by kernel_rfl) h
theorem Cr {R:Ending→World→Prop} {w0:World} {p0:ByteArray} {c0:Value} (h:uf R w0 (aS w0) p0 c0):Calls pg 158 #[(.string p0),c0] w0 R:=
 aL (pl:=Ci) Tryz.func158 (by kernel_rfl) (by kernel_rfl) h
theorem P6 {R:Ending→World→Prop} {w0:World} {aR aW:Int} {aY bB p1:Nat} (h:Gk R w0 (aS w0) aR aW aY bB p1):Calls pg 159 #[(.agg #[(I aR),(I aW),(.float .f64 aY),(.float .f64 bB)]),(.float .f64 p1)] w0 R:=
 aL (pl:=PX) Tryz.func159 (by kernel_rfl) (by kernel_rfl) h
theorem P7 {R:Ending→World→Prop} {w0:World} {p0:ByteArray} (h:Gl R w0 (aS w0) p0):Calls pg 160 #[(.string p0)] w0 R:=
 aL (pl:=PY) Tryz.func160 (by kernel_rfl) (by kernel_rfl) h
theorem P8 (h:Gm R w0 (aS w0)):Calls pg 161 #[] w0 R:=cv ⟨5,[],[],[0],[],[]⟩ Tryz.func161 h
theorem IQ {R:Ending→World→Prop} {w0:World} {aR:ByteArray} {aW:Value} {p1:ByteArray} (h:yF R w0 (aS w0) aR aW p1):Calls pg 162 #[(.agg #[(.string aR),aW]),(.string p1)] w0 R:=
 aL (pl:=IG) Tryz.func162 (by kernel_rfl) (by kernel_rfl) h
theorem rM (h:kT R w0 (aS w0) p0):Calls pg 163 #[p0] w0 R:=cv ⟨8,[],[],[0,2,4],[],[]⟩ Tryz.func163 h
theorem oI (h:jz R w0 (aS w0) p0):Calls pg 164 #[p0] w0 R:=cv ⟨8,[],[],[0,2,4],[],[]⟩ Tryz.func164 h
theorem Hl (h:x2 R w0 (aS w0) p0 p1):Calls pg 167 #[p0,p1] w0 R:=cv ⟨26,[],[],[0,1,4,5,10,14,25],[],[5]⟩ Tryz.func167 h
theorem Fo (h:wy R w0 (aS w0) p0 p1):Calls pg 168 #[p0,p1] w0 R:=cv ⟨42,[],[],[0,1,4,5,10,14,41],[28,29,30,31,32,33,34,35,36,37,38,39,40],[5]⟩ Tryz.func168 h
theorem Oy {R:Ending→World→Prop} {w0:World} {p0:Nat} (h:DP R w0 (aS w0) p0):Calls pg 172 #[(.float .f64 p0)] w0 R:=
 aL (pl:=Oe) Tryz.func172 (by kernel_rfl) (by kernel_rfl) h
theorem IS {R:Ending→World→Prop} {w0:World} {aR aW aY bB bQ bR bS bW cN cj:Int} {bJ:Bool} {bG:Int} {cR:Nat} {cH cE cG cI:Value} {cK cm:Int} {ca cn:Nat} {cq ct cD cu cy cz:Int} {cA cB:Value} (h:yG R w0 (aS w0) aR aW aY bB bQ bR bS bW cN cj bJ bG cR cH cE cG cI cK cm ca cn cq ct cD cu cy cz cA cB):Calls pg 174 #[(.agg #[(I aR),(I aW),(I aY),(I bB),(I bQ),(I bR),(I bS),(I bW),(I cN),(I cj),(B bJ),(I bG),(.float .f64 cR),cH,cE,cG,cI,(I cK),(I cm),(.float .f64 ca),(.float .f64 cn),(I cq),(I ct),(I cD),(I cu),(I cy),(I cz),cA,cB])] w0 R:=
 aL (pl:=IH) Tryz.func174 (by kernel_rfl) (by kernel_rfl) h
theorem Oz {R:Ending→World→Prop} {w0:World} {aR aW aY bB bQ bR bS bW cN cj:Int} {bJ:Bool} {bG:Int} {cR:Nat} {cH cE cG cI:Value} {cK cm:Int} {ca cn:Nat} {cq ct cD cu cy cz:Int} {cA cB:Value} (h:DQ R w0 (aS w0) aR aW aY bB bQ bR bS bW cN cj bJ bG cR cH cE cG cI cK cm ca cn cq ct cD cu cy cz cA cB):Calls pg 175 #[(.agg #[(I aR),(I aW),(I aY),(I bB),(I bQ),(I bR),(I bS),(I bW),(I cN),(I cj),(B bJ),(I bG),(.float .f64 cR),cH,cE,cG,cI,(I cK),(I cm),(.float .f64 ca),(.float .f64 cn),(I cq),(I ct),(I cD),(I cu),(I cy),(I cz),cA,cB])] w0 R:=
 aL (pl:=Of) Tryz.func175 (by kernel_rfl) (by kernel_rfl) h
theorem JV {R:Ending→World→Prop} {w0:World} {aR aW aY bB bQ bR bS bW cN cj:Int} {bJ:Bool} {bG:Int} {cR:Nat} {cH cE cG cI:Value} {cK cm:Int} {ca cn:Nat} {cq ct cD cu cy cz:Int} {cA cB:Value} (h:zU R w0 (aS w0) aR aW aY bB bQ bR bS bW cN cj bJ bG cR cH cE cG cI cK cm ca cn cq ct cD cu cy cz cA cB):Calls pg 176 #[(.agg #[(I aR),(I aW),(I aY),(I bB),(I bQ),(I bR),(I bS),(I bW),(I cN),(I cj),(B bJ),(I bG),(.float .f64 cR),cH,cE,cG,cI,(I cK),(I cm),(.float .f64 ca),(.float .f64 cn),(I cq),(I ct),(I cD),(I cu),(I cy),(I cz),cA,cB])] w0 R:=
 aL (pl:=JH) Tryz.func176 (by kernel_rfl) (by kernel_rfl) h
theorem OA (h:DR R w0 (aS w0) p0):Calls pg 179 #[p0] w0 R:=cv ⟨54,[],[],[0,2,3,5,6,8,11,12,13,14,15,22,23,36,37,38,39],[],[3,14,22,38]⟩ Tryz.func179 h
theorem OB {R:Ending→World→Prop} {w0:World} {p0:ByteArray} (h:DS R w0 (aS w0) p0):Calls pg 180 #[(.string p0)] w0 R:=
 aL (pl:=Og) Tryz.func180 (by kernel_rfl) (by kernel_rfl) h
theorem Eh {R:Ending→World→Prop} {w0:World} {p0:Value} {p1:Int} {p2:Value} (h:vB R w0 (aS w0) p0 p1 p2):Calls pg 181 #[p0,(I p1),p2] w0 R:=
 aL (pl:=DT) Tryz.func181 (by kernel_rfl) (by kernel_rfl) h
theorem zc {R:Ending→World→Prop} {w0:World} {c0 c1:Value} (h:qx R w0 (aS w0) c0 c1):Calls pg 182 #[c0,c1] w0 R:=
 aL (pl:=yY) Tryz.func182 (by kernel_rfl) (by kernel_rfl) h
theorem Hm {R:Ending→World→Prop} {w0:World} {p0:Value} {p1:ByteArray} (h:x3 R w0 (aS w0) p0 p1):Calls pg 183 #[p0,(.string p1)] w0 R:=
 aL (pl:=Hf) Tryz.func183 (by kernel_rfl) (by kernel_rfl) h
theorem Ei {R:Ending→World→Prop} {w0:World} {p0:Value} {p1:Int} (h:vC R w0 (aS w0) p0 p1):Calls pg 185 #[p0,(I p1)] w0 R:=
 aL (pl:=DU) Tryz.func185 (by kernel_rfl) (by kernel_rfl) h
theorem Bg (h:tv R w0 (aS w0) p0 p1):Calls pg 188 #[p0,p1] w0 R:=cv ⟨24,[],[],[0,1],[],[]⟩ Tryz.func188 h
theorem wN (h:oT R w0 (aS w0) p0 p1 p2):Calls pg 189 #[p0,p1,p2] w0 R:=cv ⟨63,[(8,(pg.cellsOf 129))],[],[0,1,2,6,7,17,38,39,40,46],[],[39]⟩ Tryz.func189 h
theorem zd (h:qy R w0 (aS w0) p0 p1):Calls pg 190 #[p0,p1] w0 R:=cv ⟨16,[],[],[0,1],[],[]⟩ Tryz.func190 h
theorem wO (h:oU R w0 (aS w0) p0 p1 p2):Calls pg 191 #[p0,p1,p2] w0 R:=cv ⟨63,[(8,(pg.cellsOf 65))],[],[0,1,2,6,7,17,38,39,40,46],[],[39]⟩ Tryz.func191 h
theorem Bh (h:tw R w0 (aS w0) p0 p1 p2):Calls pg 192 #[p0,p1,p2] w0 R:=cv ⟨63,[],[],[0,1,2,6,7,8,17,38,39,40,46],[],[39]⟩ Tryz.func192 h
theorem Cs (h:ug R w0 (aS w0) p0 p1):Calls pg 193 #[p0,p1] w0 R:=cv ⟨26,[],[],[0,1,8],[],[]⟩ Tryz.func193 h
theorem Cu {R:Ending→World→Prop} {w0:World} {p0:Value} {p1:Bool} (h:ui R w0 (aS w0) p0 p1):Calls pg 196 #[p0,(B p1)] w0 R:=
 aL (pl:=Cj) Tryz.func196 (by kernel_rfl) (by kernel_rfl) h
theorem Bi {R:Ending→World→Prop} {w0:World} {p0:Value} {p1:Nat} (h:tz R w0 (aS w0) p0 p1):Calls pg 198 #[p0,(.float .f64 p1)] w0 R:=
 aL (pl:=AW) Tryz.func198 (by kernel_rfl) (by kernel_rfl) h
theorem Bj (h:tA R w0 (aS w0) p0 p1):Calls pg 200 #[p0,p1] w0 R:=cv ⟨26,[],[],[0,1,8],[],[]⟩ Tryz.func200 h
theorem JW {R:Ending→World→Prop} {w0:World} {aR aW aY:Int} (h:zV R w0 (aS w0) aR aW aY):Calls pg 201 #[(.agg #[(I aR),(I aW),(I aY)])] w0 R:=
 aL (pl:=JI) Tryz.func201 (by kernel_rfl) (by kernel_rfl) h
theorem OC (h:DV R w0 (aS w0) p0):Calls pg 202 #[p0] w0 R:=cv ⟨32,[],[],[0,2,3,4,5,6,7,8,27],[15,16,17,18,19,20,21,22,23,24,25,26],[7]⟩ Tryz.func202 h
theorem Fp (h:wz R w0 (aS w0) p0):Calls pg 203 #[p0] w0 R:=cv ⟨19,[(5,(pg.cellsOf 71))],[13],[0,2,3,6,7,8,9],[],[3,8]⟩ Tryz.func203 h
theorem OD {R:Ending→World→Prop} {w0:World} {aR:Int} {aW:Nat} {aY:ByteArray} (h:DW R w0 (aS w0) aR aW aY):Calls pg 204 #[(.agg #[(I aR),(.float .f64 aW),(.string aY)])] w0 R:=
 aL (pl:=Oh) Tryz.func204 (by kernel_rfl) (by kernel_rfl) h
theorem JX {R:Ending→World→Prop} {w0:World} {aR aW aY bB bQ bR:Int} {bS bW:Value} {p1:ByteArray} (h:zW R w0 (aS w0) aR aW aY bB bQ bR bS bW p1):Calls pg 205 #[(.agg #[(I aR),(I aW),(I aY),(I bB),(I bQ),(I bR),bS,bW]),(.string p1)] w0 R:=
 aL (pl:=JJ) Tryz.func205 (by kernel_rfl) (by kernel_rfl) h
theorem pO {R:Ending→World→Prop} {w0:World} {p0:Value} {p1:ByteArray} (h:ke R w0 (aS w0) p0 p1):Calls pg 206 #[p0,(.string p1)] w0 R:=
 aL (pl:=pN) Tryz.func206 (by kernel_rfl) (by kernel_rfl) h
end
end Go.Proofs.YteomdhcbhmaiaaaGreat
