/-
 Part 7 of the proof: what the last text leans on.
-/
import Derived.Test.YtfndblbeikocdaaGreatProg
import Derived.KernelRfl
import Derived.Test.YtfndblbeikocdaaGreatW6
open Go.Value renaming cells → aa, tuple → aJ, agg → ak, int → aZ
open Array renaming toList → ad
open List renaming all → av, length → aq, toArray → aS
open Go.IntKind renaming u64 → bz, u8 → gS
open Go.Op renaming unary → aU
open Go.UnOp renaming not → bh
open Go.Instr renaming sliceAt → cy, makeFunc → cz, extract → aD, box → cL, mapUpdate → dE
open Go.Fn renaming func → eS
open Go.Builtin renaming copy_ → iv, clear_ → eY, append_ → dQ
set_option linter.unusedVariables false
set_option linter.unusedSimpArgs false
namespace Go.Proofs.YtfndblbeikocdaaGreat
open Go.Proofs.Tryz renaming prog → pg
open Go.bB
set_option maxRecDepth 100000
section
variable (R : Ending → World → Prop) (w0 : World) (X0 : XS)
def IL (p0 p1:Value):Prop:=
 (eC pg R X0 w0 true 199 #[] fun a b c=>
 ((ab pg c b (cp 44 3 p0) fun d=>
 (ix c b (I 0) (.string { data:= #[] }) 18 7 fun e g h i j k=>
 ab pg k j (binOp .lss 3 h d) fun l=>
 (au l
 ((ab pg k j (cA 44 2 p0 h) fun m=>
 ab pg k j (ek 225 2 m) fun n=>
 un (ak (aa n)) fun o=>
 aI (aq (ad (aa n))==2) (aI (av (ad (aa n)) bB.one) ((aI (cu o) (un (cj o 0 2) fun q=>
 eC pg R k j true 200 #[q,i] fun r s t=>
 ab pg t s (aU bh r) fun v=>
 (au v
 ((fin R t s (aJ #[(.pointer none),(I 4)])))
 ((ax pg t s (aP a) fun y=>
 ab pg t s (aT 302 0 0 1 y) fun z=>
 ab pg t s (ld1 299 z) fun A=>
 aI (cu o) (un (cellOf o 1) fun C=>
 eC pg R t s false 201 #[C] fun D E F=>
 un (cellOf o 0) fun G=>
 eU pg R F E true (dE 299 A G D) fun _ H L=>
 (aI (cu o) (((ab pg L H (binOp .add 3 h (I 1)) fun M=>
 iy e g M G H L))))))))))))))
 (((ab pg k j (cp 45 3 p1) fun N=>
 (gg k j (I 0) 40 fun O Q S T U=>
 ab pg U T (binOp .lss 3 S N) fun V=>
 (au V
 ((ab pg U T (cA 45 8 p1 S) fun Y=>
 ab pg U T (ek 182 8 Y) fun Z=>
 un (ak (aa Z)) fun a0=>
 aI (aq (ad (aa Z))==8) (aI (av (ad (aa Z)) bB.one) ((aI (cu a0) (un (cj a0 0 8) fun b0=>
 eC pg R U T true 165 #[b0] fun c0 d0 e0=>
 (ax pg e0 d0 (aP a) fun g0=>
 ab pg e0 d0 (aT 302 1 1 1 g0) fun h0=>
 ab pg e0 d0 (ld1 300 h0) fun i0=>
 aI (cu a0) (un (cj a0 0 3) fun j0=>
 ab pg e0 d0 (Instr.lookup 300 i0 j0 true) fun k0=>
 ab pg e0 d0 (aD k0 0) fun l0=>
 ab pg e0 d0 (aD k0 1) fun m0=>
 un (ak (aa l0)) fun _=>
 aI (aq (ad (aa l0))==8) (aI (av (ad (aa l0)) bB.one) ((ab pg e0 d0 (aF .neq 27 (.tmp 57) (.const (I 0)) c0 (I 0)) fun n0=>
 (au n0
 ((fin R e0 d0 (aJ #[(.pointer none),c0])))
 ((au m0
 ((fin R e0 d0 (aJ #[(.pointer none),(I 9)])))
 (aI (cu a0) (eC pg R e0 d0 true 202 #[a,b0] fun o0 q0 r0=>
 (au o0
 ((fin R r0 q0 (aJ #[(.pointer none),(I 18)])))
 (aI (cu a0) (eC pg R r0 q0 true 203 #[a,b0] fun s0 t0 v0=>
 (au s0
 ((fin R v0 t0 (aJ #[(.pointer none),(I 20)])))
 (((ax pg v0 t0 (aP a) fun y0=>
 ab pg v0 t0 (aT 302 1 1 1 y0) fun z0=>
 ab pg v0 t0 (ld1 300 z0) fun A0=>
 aI (cu a0) (eC pg R v0 t0 false 204 #[b0] fun C0 D0 E0=>
 eU pg R E0 D0 true (dE 300 A0 j0 C0) fun _ F0 G0=>
 ((ab pg G0 F0 (binOp .add 3 S (I 1)) fun H0=>
 fY O Q H0 F0 G0))))))))))))))))))))))))))
 ((((fin R U T (aJ #[a,(I 0)])))))))))))))))
noncomputable def Hd:bu:=⟨9,[],[],[0,1,3],[],[]⟩
def xR (p0:ByteArray) (c0:Value):Prop:=
 (ab pg X0 w0 (aT 47 0 0 4 c0) fun a=>
 ab pg X0 w0 (ek 43 4 a) fun b=>
 eC pg R X0 w0 false 164 #[(.string p0)] fun c d e=>
 eC pg R e d true 163 #[b,c] fun g h i=>
 (fin R i h g))
noncomputable def Wc:bu:=⟨15,[(2,(pg.cellsOf 43))],[6,11],[0,1,4],[9,10,12,13],[]⟩
def Lj (_p0_0 _p0_1:Int) (aW bq p1:Nat):Prop:=
 (ab pg X0 w0 (binOp .geq 41 (.float .f64 p1) (.float .f64 aW)) fun a=>
 un (aB a true (.float .f64 p1)) fun b=>
 un (aB a true (.float .f64 bq)) fun c=>
 ay pg X0 w0 a true (vS (binOp .lss 41 b c)) fun d=>
 ax pg X0 w0 (aM a d (B false)) fun e=>
 (fin R X0 w0 e))
noncomputable def Wd:bu:=⟨8,[],[],[0,2],[],[]⟩
def Lk (p0:ByteArray):Prop:=
 (eC pg R X0 w0 true 205 #[(.string p0)] fun a b c=>
 ab pg c b (binOp .shr 208 a (aZ bz 11)) fun d=>
 ab pg c b (wh 208 41 d) fun e=>
 ab pg c b (binOp .quo 41 e (.float .f64 4845873199050653696)) fun g=>
 (fin R c b g))
noncomputable def IM:bu:=⟨45,[(1,(pg.cellsOf 182)),(4,(pg.cellsOf 118))],[6,11,16,22,27,33,40],[0,2,5,10,21,34,35,36,37,43],[15,17,18,19,26,28,29,30,31],[36]⟩
def zG (aQ aV aW bq bG bJ:Int) (bM bV:Value):Prop:=
 (eC pg R X0 w0 true 152 #[(.agg #[(I aQ),(I aV),(I aW)])] fun a b c=>
 ab pg c b (aU bh a) fun d=>
 (au d
 (fin R c b (I 4))
 (eC pg R c b true 57 #[(.agg #[(I bq),(I bG),(I bJ)])] fun e g h=>
 ab pg h g (aU bh e) fun i=>
 un (aB i false (.agg #[(I bq),(I bG),(I bJ)])) fun j=>
 ay pg h g i false (vS (ea 34 #[(I 0),(I 0),(I 0)] #[])) fun k=>
 ay pg h g i false (vS (aF .eql 34 (.tmp 17) (.tmp 18) j k)) fun l=>
 ax pg h g (aM i (B true) l) fun m=>
 (au m
 (fin R h g (I 17))
 (eC pg R h g true 206 #[bM] fun n o q=>
 ab pg q o (aU bh n) fun r=>
 un (aB r false bV) fun s=>
 jn (fun (t:Value) (v:World) (y:XS)=>
 jn (fun (z:Value) (A:World) (C:XS)=>
 ay pg C A r false (vS (aU bh z)) fun D=>
 ax pg C A (aM r (B true) D) fun E=>
 (au E
 (fin R C A (I 4))
 (((ab pg C A (cp 37 3 bV) fun F=>
 (gg C A (I 0) 36 fun G H L M N=>
 ab pg N M (binOp .lss 3 L F) fun O=>
 (au O
 ((ab pg N M (cA 37 4 bV L) fun Q=>
 ab pg N M (ek 118 4 Q) fun S=>
 un (ak (aa S)) fun T=>
 aI (aq (ad (aa S))==4) (aI (av (ad (aa S)) bB.one) ((aI (cu T) (un (cj T 1 3) fun U=>
 eC pg R N M true 196 #[U] fun V Y Z=>
 ab pg Z Y (aU bh V) fun a0=>
 (au a0
 (fin R Z Y (I 4))
 (((ab pg Z Y (binOp .add 3 L (I 1)) fun b0=>
 fY G H b0 Y Z))))))))))
 (fin R N M (I 0))))))))) fun c0=>
 (gE r false (eC pg R y v true 206 #[t] c0) (c0 undef v y))) fun d0=>
 (gE r false (eC pg R q o true 207 #[s] d0) (d0 undef o q)))))))
noncomputable def We:bu:=⟨22,[(1,(pg.cellsOf 73)),(3,(pg.cellsOf 73))],[],[0,2,4,10,13],[17,18,19,20],[]⟩
def Kx (aQ aV aW bq bG bJ bM bV cD cV:Int) (cg:Bool) (bZ:Int) (dm:Nat) (de da dc df:Value) (dh cM:Int) (cK cN:Nat) (cO cP dd cQ cW cX:Int) (cY cZ:Value):Prop:=
 (eC pg R X0 w0 true 208 #[(.agg #[(I aQ),(I aV),(I aW),(I bq),(I bG),(I bJ),(I bM),(I bV),(I cD),(I cV),(B cg),(I bZ),(.float .f64 dm),de,da,dc,df,(I dh),(I cM),(.float .f64 cK),(.float .f64 cN),(I cO),(I cP),(I dd),(I cQ),(I cW),(I cX),cY,cZ])] fun a b c=>
 ab pg c b (aD a 0) fun d=>
 ab pg c b (aD a 1) fun e=>
 un (ak (aa d)) fun g=>
 aI (aq (ad (aa d))==29) (aI (av (ad (aa d)) bB.one) ((ab pg c b (aU bh e) fun h=>
 (au h
 (fin R c b (I 7))
 (aI (cu g) (un (cj g 0 29) fun i=>
 eC pg R c b true 209 #[i] fun j k l=>
 ab pg l k (aU bh j) fun m=>
 un (aB m false (.agg #[(I aQ),(I aV),(I aW),(I bq),(I bG),(I bJ),(I bM),(I bV),(I cD),(I cV),(B cg),(I bZ),(.float .f64 dm),de,da,dc,df,(I dh),(I cM),(.float .f64 cK),(.float .f64 cN),(I cO),(I cP),(I dd),(I cQ),(I cW),(I cX),cY,cZ])) fun n=>
 jn (fun (o:Value) (q:World) (r:XS)=>
 ay pg r q m false (vS (aU bh o)) fun s=>
 ax pg r q (aM m (B true) s) fun t=>
 (au t
 (fin R r q (I 4))
 (fin R r q (I 0)))) fun v=>
 (gE m false (eC pg R l k true 210 #[n] v) (v undef k l)))))))))
def nZ (p0:Value):Prop:=
 (ab pg X0 w0 (aF .eql 35 (.tmp 3) (.const (.slice none 0 0)) p0 (.slice none 0 0)) fun a=>
 (au a
 (fin R X0 w0 (.slice none 0 0))
 (eV pg R X0 w0 true (gG 35 9 1 0 #[]) fun b c d=>
 eV pg R d c true (ga 35 9 1 16 35 b p0) fun e g h=>
 (fin R h g e))))
noncomputable def Ru:bu:=⟨30,[(7,(pg.cellsOf 118))],[14],[0,1,4,5,8,9,10,11,18],[],[4,5,10]⟩
def Gc (p0:Value) (p1:Nat):Prop:=
 (ab pg X0 w0 (cp 37 3 p0) fun a=>
 (rr X0 w0 (I 0) (.slice none 0 0) (.slice none 0 0) 10 5 4 fun b c d e g h i=>
 ab pg i h (binOp .lss 3 d a) fun j=>
 (au j
 (((jn (fun (k l:Value) (m:World) (n:XS)=>
 (ab pg n m (binOp .add 3 d (I 1)) fun o=>
 ru b c o l k m n)) fun q=>
 ab pg i h (cA 37 4 p0 d) fun r=>
 ab pg i h (ek 118 4 r) fun s=>
 un (ak (aa s)) fun t=>
 aI (aq (ad (aa s))==4) (aI (av (ad (aa s)) bB.one) ((aI (cu t) (un (cellOf t 0) fun v=>
 eC pg R i h true 164 #[v] fun y z A=>
 ab pg A z (binOp .lss 41 y (.float .f64 p1)) fun C=>
 (au C
 (aI (cu t) (un (cj t 0 4) fun D=>
 eV pg R A z true (gG 37 118 4 1 #[(0,D)]) fun E F G=>
 eV pg R G F true (ga 37 118 4 48 37 g E) fun H L M=>
 (q H e L M)))
 (aI (cu t) (un (cj t 0 4) fun N=>
 eV pg R A z true (gG 37 118 4 1 #[(0,N)]) fun O Q S=>
 eV pg R S Q true (ga 37 118 4 48 37 e O) fun T U V=>
 (q g T U V)))))))))))
 (fin R i h (aJ #[g,e])))))
def lS (p0 p1:Value):Prop:=
 (eC pg R X0 w0 true 211 #[p0,p1] fun a b c=>
 (ab pg c b (aF .eql 3 (.tmp 11) (.const (I (-1))) a (I (-1))) fun d=>
 (au d
 (fin R c b p0)
 ((ab pg c b (binOp .add 3 a (I 1)) fun e=>
 (ix c b e a 6 5 fun g h i j k l=>
 ab pg l k (cp 35 3 p0) fun m=>
 ab pg l k (binOp .lss 3 i m) fun n=>
 (au n
 (((jn (fun (o:Value) (q:World) (r:XS)=>
 (ab pg r q (binOp .add 3 i (I 1)) fun s=>
 iy g h s o q r)) fun t=>
 ab pg l k (cA 35 1 p0 i) fun v=>
 ab pg l k (ld1 9 v) fun y=>
 (eF pg R l k true p1 #[y] fun z A C=>
 ab pg C A (aU bh z) fun D=>
 (au D
 (ab pg C A (cA 35 1 p0 j) fun E=>
 eU pg R C A true (st1 9 1 E y) fun _ F G=>
 (ab pg G F (binOp .add 3 j (I 1)) fun H=>
 (t H F G)))
 (t j A C))))))
 (((ab pg l k (cy 35 p0 (some j) none none) fun L=>
 eV pg R l k true (eY #[35] 0 #[L]) fun _ M N=>
 (ab pg N M (cy 35 p0 none (some j) none) fun O=>
 (fin R N M O))))))))))))
noncomputable def Et:bu:=⟨9,[],[],[0,1,3],[],[]⟩
def vB (p0:ByteArray) (c0:Value):Prop:=
 (ab pg X0 w0 (aT 73 6 12 1 c0) fun a=>
 ab pg X0 w0 (ld1 41 a) fun b=>
 eC pg R X0 w0 false 164 #[(.string p0)] fun c d e=>
 ab pg e d (binOp .geq 41 c b) fun g=>
 (fin R e d g))
noncomputable def rY:bu:=⟨19,[(3,(pg.cellsOf 102))],[],[0,1,4,5,7,8,9,16],[],[8]⟩
def lF (p0:Value) (bS bY bW dW ey:Int):Prop:=
 (ab pg X0 w0 (cp 91 3 p0) fun a=>
 (gg X0 w0 (I 0) 8 fun b c d e g=>
 ab pg g e (binOp .lss 3 d a) fun h=>
 (au h
 (((ab pg g e (cA 91 5 p0 d) fun i=>
 ab pg g e (ek 102 5 i) fun j=>
 ab pg g e (aF .eql 102 (.tmp 11) (.tmp 15) (.agg #[(I bS),(I bY),(I bW),(I dW),(I ey)]) j) fun k=>
 (au k
 (fin R g e d)
 (((ab pg g e (binOp .add 3 d (I 1)) fun l=>
 fY b c l e g)))))))
 ((((fin R g e (I (-1)))))))))
noncomputable def Wf:bu:=⟨31,[(1,(pg.cellsOf 156))],[3,7,12,17,22,24,26],[0,2,21],[6,8,9,11,13,14,16,18,19,20],[]⟩
def KT (aQ aV aW bq bG bJ bM bV:Int) (cD:Value):Prop:=
 (ab pg X0 w0 (binOp .lss 3 (I aQ) (I 1)) fun a=>
 un (aB a false (I aQ)) fun b=>
 ay pg X0 w0 a false (vS (binOp .gtr 3 b (I 12))) fun c=>
 ax pg X0 w0 (aM a (B true) c) fun d=>
 un (aB d false (I aV)) fun e=>
 ay pg X0 w0 d false (vS (binOp .lss 3 e (I 1))) fun g=>
 ax pg X0 w0 (aM d (B true) g) fun h=>
 un (aB h false cD) fun i=>
 ay pg X0 w0 h false (vS (cp 37 3 i)) fun j=>
 ay pg X0 w0 h false (vS (aF .eql 3 (.tmp 19) (.const (I 0)) j (I 0))) fun k=>
 ax pg X0 w0 (aM h (B true) k) fun l=>
 (au l
 (fin R X0 w0 (B false))
 ((ab pg X0 w0 (ea 182 #[(I aW),(I bq),(I bG),(I bJ),(I bM),(I bV),(.slice none 0 0),cD] #[(0,(.agg #[(I aW),(I bq),(I bG)])),(1,(.agg #[(I bJ),(I bM),(I bV)])),(3,cD)]) fun m=>
 eC pg R X0 w0 true 165 #[m] fun n o q=>
 ab pg q o (aF .eql 27 (.tmp 29) (.const (I 0)) n (I 0)) fun r=>
 (fin R q o r)))))
noncomputable def Ml:bu:=⟨79,[(3,(pg.cellsOf 156)),(7,(pg.cellsOf 156))],[16,18,30,32,35,37,43,45,49,51],[0,1,4,5,8,10,14,24,25,26,27,40,57],[42,44,46,47,48,50,52,53,54],[5,26]⟩
def BF (p0:Value) (bS bY bW dW ey eN eE eG:Int) (gl:Value):Prop:=
 (eC pg R X0 w0 true 172 #[(.agg #[(I bS),(I bY),(I bW),(I dW),(I ey),(I eN),(I eE),(I eG),gl])] fun a b c=>
 ab pg c b (aU bh a) fun d=>
 (au d
 (fin R c b (I 4))
 (eC pg R c b true 212 #[p0,(I bS),(.agg #[(I bW),(I dW),(I ey)])] fun e g h=>
 (au e
 (fin R h g (I 9))
 ((((ax pg h g (aP p0) fun i=>
 ab pg h g (aT 179 0 0 1 i) fun j=>
 ab pg h g (ld1 177 j) fun k=>
 ab pg h g (cp 177 3 k) fun l=>
 (ix h g (I 0) (B false) 26 5 fun m n o q r s=>
 ab pg s r (binOp .lss 3 o l) fun t=>
 (au t
 ((ab pg s r (cA 177 9 k o) fun v=>
 ab pg s r (ek 156 9 v) fun y=>
 un (ak (aa y)) fun z=>
 aI (aq (ad (aa y))==9) (aI (av (ad (aa y)) bB.one) ((aI (cu z) (un (cj z 2 3) fun A=>
 ab pg s r (aF .eql 32 (.tmp 31) (.tmp 33) A (.agg #[(I bW),(I dW),(I ey)])) fun C=>
 un (cj z 5 3) fun D=>
 ab pg s r (aF .eql 34 (.tmp 36) (.tmp 38) D (.agg #[(I eN),(I eE),(I eG)])) fun E=>
 ab pg s r (aF .neq 4 (.tmp 34) (.tmp 39) C E) fun F=>
 (au F
 (fin R s r (I 17))
 ((aI (cu z) (un (aB q false A) fun G=>
 un (aB q false (.agg #[(I bW),(I dW),(I ey)])) fun H=>
 ay pg s r q false (vS (aF .eql 32 (.tmp 44) (.tmp 46) G H)) fun L=>
 un (aB q false L) fun M=>
 un (cellOf z 8) fun N=>
 un (aB M true N) fun O=>
 un (aB M true gl) fun Q=>
 jn (fun (S:Value) (T:World) (U:XS)=>
 ay pg U T q false (aM M S (B false)) fun V=>
 ax pg U T (aM q (B true) V) fun Y=>
 ((ab pg U T (binOp .add 3 o (I 1)) fun Z=>
 iy m n Z Y T U))) fun a0=>
 (gE M true (eC pg R s r true 213 #[O,Q] a0) (a0 undef r s))))))))))))
 ((((au q
 (fin R s r (I 18))
 ((ax pg s r (aP p0) fun b0=>
 ab pg s r (aT 179 0 0 1 b0) fun c0=>
 ab pg s r (ld1 177 c0) fun d0=>
 eC pg R s r true 214 #[d0,(.agg #[(I bS),(I bY),(I bW),(I dW),(I ey),(I eN),(I eE),(I eG),gl]),(Value.func (eS 215) #[] #[])] fun e0 g0 h0=>
 ab pg h0 g0 (aD e0 0) fun i0=>
 ab pg h0 g0 (aD e0 1) fun _=>
 (ax pg h0 g0 (aP p0) fun j0=>
 ab pg h0 g0 (aT 179 0 0 1 j0) fun k0=>
 ab pg h0 g0 (ld1 177 k0) fun l0=>
 eC pg R h0 g0 false 217 #[(.agg #[(I bS),(I bY),(I bW),(I dW),(I ey),(I eN),(I eE),(I eG),gl])] fun m0 n0 o0=>
 eV pg R o0 n0 false (gG 177 156 9 1 #[(0,m0)]) fun q0 r0 s0=>
 eC pg R s0 r0 true 216 #[l0,i0,q0] fun t0 v0 y0=>
 ax pg y0 v0 (aP p0) fun z0=>
 ab pg y0 v0 (aT 179 0 0 1 z0) fun A0=>
 eU pg R y0 v0 true (st1 177 1 A0 t0) fun _ C0 D0=>
 (fin R D0 C0 (I 0)))))))))))))))))))
noncomputable def py:bu:=⟨33,[],[],[0,1,2,6,7,16],[20,23],[]⟩
def jG (p0:Value) (p1 p2:Int):Prop:=
 (ab pg X0 w0 (cp 177 3 p0) fun a=>
 ab pg X0 w0 (cy 177 p0 (some (I p1)) (some (I p2)) (some a)) fun _=>
 (ab pg X0 w0 (aF .eql 3 (.tmp 14) (.tmp 15) (I p1) (I p2)) fun b=>
 (au b
 (fin R X0 w0 p0)
 ((ab pg X0 w0 (cp 177 3 p0) fun c=>
 (ab pg X0 w0 (cy 177 p0 none (some (I p1)) none) fun d=>
 ab pg X0 w0 (cy 177 p0 (some (I p2)) none none) fun e=>
 eV pg R X0 w0 true (ga 177 156 9 88 177 d e) fun g h i=>
 (ab pg i h (cp 177 3 g) fun j=>
 ab pg i h (cy 177 g (some j) (some c) none) fun k=>
 eV pg R i h true (eY #[177] 0 #[k]) fun _ l m=>
 (fin R m l g))))))))
noncomputable def UY:bu:=⟨11,[],[],[0,2],[6,7,8,9],[]⟩
def IN (p0:ByteArray):Prop:=
 (ab pg X0 w0 (mE 9 3 (.string p0)) fun a=>
 ab pg X0 w0 (binOp .geq 3 a (I 1)) fun b=>
 un (aB b true (.string p0)) fun c=>
 ay pg X0 w0 b true (vS (mE 9 3 c)) fun d=>
 ay pg X0 w0 b true (vS (binOp .leq 3 d (I 24))) fun e=>
 ax pg X0 w0 (aM b e (B false)) fun g=>
 (fin R X0 w0 g))
def Gi (p0:Value):Prop:=
 (ab pg X0 w0 (cp 39 3 p0) fun a=>
 (gg X0 w0 (I 0) 7 fun b c d e g=>
 ab pg g e (binOp .lss 3 d a) fun h=>
 (au h
 ((ab pg g e (cA 39 4 p0 d) fun i=>
 ab pg g e (ek 43 4 i) fun j=>
 un (ak (aa j)) fun k=>
 aI (aq (ad (aa j))==4) (aI (av (ad (aa j)) bB.one) ((aI (cu k) (un (cj k 0 4) fun l=>
 eC pg R g e true 160 #[l] fun m n o=>
 ab pg o n (aU bh m) fun q=>
 (au q
 (fin R o n (B false))
 (((ab pg o n (binOp .add 3 d (I 1)) fun r=>
 fY b c r n o))))))))))
 (((ab pg g e (cp 39 3 p0) fun s=>
 ab pg g e (binOp .leq 3 s (I 12)) fun t=>
 (fin R g e t)))))))
noncomputable def UZ:bu:=⟨41,[(1,(pg.cellsOf 116))],[4,8,14,20,24,27,36],[0,2,3,9,10,18,32],[13,15,16,23,25,26,28,29,30,35,37,38,39],[]⟩
def IP (aQ:Int) (aV:Nat) (aW:ByteArray):Prop:=
 (eC pg R X0 w0 true 118 #[(.float .f64 aV)] fun a b c=>
 ab pg c b (aF .eql 208 (.tmp 6) (.const (aZ bz 0)) a (aZ bz 0)) fun d=>
 ((ab pg c b (aF .eql 3 (.tmp 9) (.const (I 0)) (I aQ) (I 0)) fun e=>
 (au e
 (un (aB d true (.string aW)) fun g=>
 ay pg c b d true (vS (aF .eql 9 (.tmp 15) (.const (.string { data:= #[] })) g (.string { data:= #[] }))) fun h=>
 ax pg c b (aM d h (B false)) fun i=>
 (fin R c b i))
 (ab pg c b (aF .eql 3 (.tmp 9) (.const (I 1)) (I aQ) (I 1)) fun j=>
 (au j
 (ab pg c b (aF .eql 9 (.tmp 21) (.const (.string { data:= #[] })) (.string aW) (.string { data:= #[] })) fun k=>
 un (aB k true (.float .f64 aV)) fun l=>
 jn (fun (m:Value) (n:World) (o:XS)=>
 jn (fun (q:Value) (r:World) (s:XS)=>
 ay pg s r k true (vS (aF .eql 208 (.tmp 26) (.tmp 29) m q)) fun t=>
 ax pg s r (aM k t (B false)) fun v=>
 (fin R s r v)) fun y=>
 (gE k true (eC pg R o n true 228 #[l] y) (y undef n o))) fun z=>
 (gE k true (eC pg R c b false 118 #[l] z) (z undef b c)))
 (ab pg c b (aF .eql 3 (.tmp 9) (.const (I 2)) (I aQ) (I 2)) fun A=>
 (au A
 (un (aB d true (.string aW)) fun C=>
 ay pg c b d true (vS (mE 9 3 C)) fun D=>
 ay pg c b d true (vS (binOp .leq 3 D (I 64))) fun E=>
 ax pg c b (aM d E (B false)) fun F=>
 (fin R c b F))
 (fin R c b (B false))))))))))
def HJ (p0 p1:Value):Prop:=
 ax pg X0 w0 (aP p1) fun a=>
 ab pg X0 w0 (aT 73 0 0 1 a) fun b=>
 eC pg R X0 w0 true 229 #[p0,b] fun _ c d=>
 (ax pg d c (aP p1) fun e=>
 ab pg d c (aT 73 0 0 1 e) fun g=>
 ab pg d c (ld1 3 g) fun h=>
 ((jn (fun (i:World) (j:XS)=>
 fin R j i (aJ #[])) fun k=>
 ab pg d c (aF .eql 3 (.tmp 13) (.const (I 1)) h (I 1)) fun l=>
 (au l
 (ax pg d c (aP p1) fun m=>
 ab pg d c (aT 73 11 17 12 m) fun n=>
 eC pg R d c true 230 #[p0,n] fun _ o q=>
 (k o q))
 ((jn (fun (r:Value)=>
 au r
 (ax pg d c (aP p1) fun s=>
 ab pg d c (aT 73 5 11 1 s) fun t=>
 eC pg R d c true 229 #[p0,t] fun _ v y=>
 (k v y))
 (ab pg d c (aF .eql 3 (.tmp 13) (.const (I 3)) h (I 3)) fun z=>
 (au z
 (ax pg d c (aP p1) fun A=>
 ab pg d c (aT 73 1 1 3 A) fun C=>
 ab pg d c (ek 32 3 C) fun D=>
 ax pg d c (aP p1) fun E=>
 ab pg d c (aT 73 2 4 3 E) fun F=>
 ab pg d c (ek 34 3 F) fun G=>
 ax pg d c (aP p1) fun H=>
 ab pg d c (aT 73 7 13 1 H) fun L=>
 ab pg d c (ld1 35 L) fun M=>
 ax pg d c (aP p1) fun N=>
 ab pg d c (aT 73 8 14 1 N) fun O=>
 ab pg d c (ld1 37 O) fun Q=>
 un (cellOf D 0) fun S=>
 un (cellOf D 1) fun T=>
 un (cellOf D 2) fun U=>
 un (cellOf G 0) fun V=>
 un (cellOf G 1) fun Y=>
 un (cellOf G 2) fun Z=>
 ab pg d c (ea 182 #[S,T,U,V,Y,Z,M,Q] #[(0,D),(1,G),(2,M),(3,Q)]) fun a0=>
 eV pg R d c false (Instr.alloc 182 true (aJ #[])) fun b0 c0 d0=>
 eU pg R d0 c0 true (st1 182 8 b0 a0) fun _ e0 g0=>
 (eC pg R g0 e0 true 231 #[p0,b0] fun _ h0 i0=>
 (ab pg i0 h0 (aT 182 0 0 3 b0) fun j0=>
 ab pg i0 h0 (ek 32 3 j0) fun k0=>
 ab pg i0 h0 (aT 182 1 3 3 b0) fun l0=>
 ab pg i0 h0 (ek 34 3 l0) fun m0=>
 ab pg i0 h0 (aT 182 2 6 1 b0) fun n0=>
 ab pg i0 h0 (ld1 35 n0) fun o0=>
 ab pg i0 h0 (aT 182 3 7 1 b0) fun q0=>
 ab pg i0 h0 (ld1 37 q0) fun r0=>
 ax pg i0 h0 (aP p1) fun s0=>
 ab pg i0 h0 (aT 73 1 1 3 s0) fun t0=>
 eU pg R i0 h0 true (st1 32 3 t0 k0) fun _ v0 y0=>
 ax pg y0 v0 (aP p1) fun z0=>
 ab pg y0 v0 (aT 73 2 4 3 z0) fun A0=>
 eU pg R y0 v0 true (st1 34 3 A0 m0) fun _ C0 D0=>
 ax pg D0 C0 (aP p1) fun E0=>
 ab pg D0 C0 (aT 73 7 13 1 E0) fun F0=>
 eU pg R D0 C0 true (st1 35 1 F0 o0) fun _ G0 H0=>
 ax pg H0 G0 (aP p1) fun L0=>
 ab pg H0 G0 (aT 73 8 14 1 L0) fun M0=>
 eU pg R H0 G0 true (st1 37 1 M0 r0) fun _ N0 O0=>
 (ax pg O0 N0 (aP p1) fun Q0=>
 ab pg O0 N0 (aT 73 9 15 1 Q0) fun S0=>
 ab pg O0 N0 (cz (eS 229) #[p0] #[]) fun T0=>
 eC pg R O0 N0 true 232 #[p0,S0,T0] fun _ U0 V0=>
 (k U0 V0)))))
 (ab pg d c (aF .eql 3 (.tmp 13) (.const (I 4)) h (I 4)) fun Y0=>
 (au Y0
 (ax pg d c (aP p1) fun Z0=>
 ab pg d c (aT 73 1 1 3 Z0) fun a1=>
 eC pg R d c true 233 #[p0,a1] fun _ b1 c1=>
 (ax pg c1 b1 (aP p1) fun d1=>
 ab pg c1 b1 (aT 73 4 10 1 d1) fun e1=>
 eC pg R c1 b1 true 234 #[p0,e1] fun _ g1 h1=>
 (ax pg h1 g1 (aP p1) fun i1=>
 ab pg h1 g1 (aT 73 2 4 3 i1) fun j1=>
 eC pg R h1 g1 true 235 #[p0,j1] fun _ k1 l1=>
 (k k1 l1))))
 (ab pg d c (aF .eql 3 (.tmp 13) (.const (I 5)) h (I 5)) fun m1=>
 (au m1
 (ax pg d c (aP p1) fun n1=>
 ab pg d c (aT 73 2 4 3 n1) fun o1=>
 eC pg R d c true 235 #[p0,o1] fun _ q1 r1=>
 (k q1 r1))
 (ab pg d c (aF .eql 3 (.tmp 13) (.const (I 6)) h (I 6)) fun s1=>
 (au s1
 (ax pg d c (aP p1) fun t1=>
 ab pg d c (aT 73 6 12 1 t1) fun v1=>
 eC pg R d c true 236 #[p0,v1] fun _ y1 z1=>
 (ax pg z1 y1 (aP p1) fun A1=>
 ab pg z1 y1 (aT 73 5 11 1 A1) fun C1=>
 eC pg R z1 y1 true 229 #[p0,C1] fun _ D1 E1=>
 (ax pg E1 D1 (aP p1) fun F1=>
 ab pg E1 D1 (aT 73 2 4 3 F1) fun G1=>
 eC pg R E1 D1 true 235 #[p0,G1] fun _ H1 L1=>
 (k H1 L1))))
 (ab pg d c (aF .eql 3 (.tmp 13) (.const (I 9)) h (I 9)) fun M1=>
 (au M1
 (ax pg d c (aP p1) fun N1=>
 ab pg d c (aT 73 1 1 3 N1) fun O1=>
 eC pg R d c true 233 #[p0,O1] fun _ Q1 S1=>
 (ax pg S1 Q1 (aP p1) fun T1=>
 ab pg S1 Q1 (aT 73 2 4 3 T1) fun U1=>
 eC pg R S1 Q1 true 235 #[p0,U1] fun _ V1 Y1=>
 (ax pg Y1 V1 (aP p1) fun Z1=>
 ab pg Y1 V1 (aT 73 9 15 1 Z1) fun a2=>
 ab pg Y1 V1 (cz (eS 229) #[p0] #[]) fun b2=>
 eC pg R Y1 V1 true 232 #[p0,a2,b2] fun _ c2 d2=>
 (k c2 d2))))
 (ab pg d c (aF .eql 3 (.tmp 13) (.const (I 10)) h (I 10)) fun e2=>
 (au e2
 (ax pg d c (aP p1) fun g2=>
 ab pg d c (aT 73 1 1 3 g2) fun h2=>
 eC pg R d c true 233 #[p0,h2] fun _ i2 j2=>
 (k i2 j2))
 (ab pg d c (aF .eql 3 (.tmp 13) (.const (I 11)) h (I 11)) fun k2=>
 (au k2
 (ax pg d c (aP p1) fun l2=>
 ab pg d c (aT 73 3 7 3 l2) fun m2=>
 eC pg R d c true 235 #[p0,m2] fun _ n2 o2=>
 (ax pg o2 n2 (aP p1) fun q2=>
 ab pg o2 n2 (aT 73 2 4 3 q2) fun r2=>
 eC pg R o2 n2 true 235 #[p0,r2] fun _ s2 t2=>
 (ax pg t2 s2 (aP p1) fun v2=>
 ab pg t2 s2 (aT 73 1 1 3 v2) fun y2=>
 eC pg R t2 s2 true 233 #[p0,y2] fun _ z2 A2=>
 (ax pg A2 z2 (aP p1) fun C2=>
 ab pg A2 z2 (aT 73 8 14 1 C2) fun D2=>
 ab pg A2 z2 (cz (eS 238) #[p0] #[]) fun E2=>
 eC pg R A2 z2 true 237 #[p0,D2,E2] fun _ F2 G2=>
 (k F2 G2)))))
 (ab pg d c (aF .eql 3 (.tmp 13) (.const (I 12)) h (I 12)) fun H2=>
 (au H2
 (ax pg d c (aP p1) fun L2=>
 ab pg d c (aT 73 2 4 3 L2) fun M2=>
 eC pg R d c true 235 #[p0,M2] fun _ N2 O2=>
 (ax pg O2 N2 (aP p1) fun Q2=>
 ab pg O2 N2 (aT 73 10 16 1 Q2) fun S2=>
 ab pg O2 N2 (cz (eS 240) #[p0] #[]) fun T2=>
 eC pg R O2 N2 true 239 #[p0,S2,T2] fun _ U2 V2=>
 (k U2 V2)))
 (k c d)))))))))))))))))) fun Y2=>
 ab pg d c (aF .eql 3 (.tmp 13) (.const (I 2)) h (I 2)) fun Z2=>
 (au Z2
 (Y2 Z2)
 (ab pg d c (aF .eql 3 (.tmp 13) (.const (I 7)) h (I 7)) fun a3=>
 (au a3
 (Y2 a3)
 (ab pg d c (aF .eql 3 (.tmp 13) (.const (I 8)) h (I 8)) fun b3=>
 (Y2 b3)))))))))))
noncomputable def Pk:bu:=⟨10,[],[],[0,2],[6,7,8],[]⟩
def Eu (p0:Nat):Prop:=
 (eC pg R X0 w0 true 241 #[(.float .f64 p0)] fun a b c=>
 ab pg c b (binOp .geq 3 a (I 5)) fun d=>
 un (aB d true (.float .f64 p0)) fun e=>
 ay pg c b d true (vS (binOp .leq 41 e (.float .f64 4607182418800017408))) fun g=>
 ax pg c b (aM d g (B false)) fun h=>
 (fin R c b h))
def Ll:Prop:=
 (eV pg R X0 w0 true (Instr.makeMap 299 none) fun a b c=>
 eV pg R c b true (Instr.makeMap 300 none) fun d e g=>
 ab pg g e (ea 302 #[a,d,(I 0),(I 0),(I 0)] #[(0,a),(1,d)]) fun h=>
 eV pg R g e true (cL 302 h) fun i j k=>
 (fin R k j i))
noncomputable def NW:bu:=⟨52,[(2,(pg.cellsOf 225)),(5,(pg.cellsOf 34)),(7,(pg.cellsOf 227))],[8,13,19,25,32,37,44,49],[0,1,4,23,26,27,28,29,48],[12,14,15,16,18,20,21,22,36,38,39,40,41,43,45,46,47],[5,28]⟩
def CY (aQ:ByteArray) (aV:Value) (p1:ByteArray):Prop:=
 (eC pg R X0 w0 true 194 #[(.string aQ)] fun a b c=>
 ab pg c b (aU bh a) fun d=>
 un (aB d false (.string aQ)) fun e=>
 un (aB d false (.string p1)) fun g=>
 ay pg c b d false (vS (binOp .leq 9 e g)) fun h=>
 ax pg c b (aM d (B true) h) fun i=>
 un (aB i false aV) fun j=>
 ay pg c b i false (vS (cp 223 3 j)) fun k=>
 ay pg c b i false (vS (aF .eql 3 (.tmp 21) (.const (I 0)) k (I 0))) fun l=>
 ax pg c b (aM i (B true) l) fun m=>
 (au m
 (fin R c b (B false))
 ((ab pg c b (ea 34 #[(I 0),(I 0),(I 0)] #[]) fun n=>
 un (ak (aa n)) fun o=>
 aI (aq (ad (aa n))==3) (aI (av (ad (aa n)) bB.one) ((ab pg c b (cp 223 3 aV) fun q=>
 (ix c b (I 0) o 28 5 fun r s t v y z=>
 ab pg z y (binOp .lss 3 t q) fun A=>
 (au A
 ((ab pg z y (cA 223 6 aV t) fun C=>
 ab pg z y (ek 227 6 C) fun D=>
 un (ak (aa D)) fun E=>
 aI (aq (ad (aa D))==6) (aI (av (ad (aa D)) bB.one) ((aI (cu E) (un (cj E 0 3) fun F=>
 eC pg R z y true 57 #[F] fun G H L=>
 ab pg L H (aU bh G) fun M=>
 un (aB M false F) fun N=>
 aI (cu v) (un (cj v 0 3) fun O=>
 un (aB M false O) fun Q=>
 jn (fun (S:Value) (T:World) (U:XS)=>
 ay pg U T M false (vS (binOp .leq 3 S (I 0))) fun V=>
 ax pg U T (aM M (B true) V) fun Y=>
 un (cj E 3 3) fun Z=>
 un (aB Y false Z) fun a0=>
 jn (fun (b0:Value) (c0:World) (d0:XS)=>
 ay pg d0 c0 Y false (vS (aU bh b0)) fun e0=>
 ax pg d0 c0 (aM Y (B true) e0) fun g0=>
 (au g0
 (fin R d0 c0 (B false))
 ((aI (cu E) (aI (cu v) (un (ak (aa F)) fun h0=>
 aI (aq (ad (aa F))==3) (aI (av (ad (aa F)) bB.one) (((ab pg d0 c0 (binOp .add 3 t (I 1)) fun i0=>
 iy r s i0 h0 c0 d0)))))))))) fun j0=>
 (gE Y false (eC pg R U T true 196 #[a0] j0) (j0 undef T U))) fun k0=>
 (gE M false (eC pg R L H true 84 #[N,Q] k0) (k0 undef H L)))))))))
 (fin R z y (B true)))))))))))
def ky (p0:Value):Prop:=
 (ab pg X0 w0 (aF .eql 223 (.tmp 3) (.const (.slice none 0 0)) p0 (.slice none 0 0)) fun a=>
 (au a
 (fin R X0 w0 (.slice none 0 0))
 (eV pg R X0 w0 true (gG 223 227 6 0 #[]) fun b c d=>
 eV pg R d c true (ga 223 227 6 56 223 b p0) fun e g h=>
 (fin R h g e))))
noncomputable def FK:bu:=⟨50,[(3,(pg.cellsOf 182)),(6,(pg.cellsOf 182)),(8,(pg.cellsOf 118))],[20,28,32,34,39],[0,1,4,10,15,17,21,22,23,24,37,40,41,42,43,48],[31,33,35,36],[23,42]⟩
def xK (p0:Value) (_p1_0 _p1_1 _p1_2 _p1_3 _p1_4 _p1_5:Int) (eE eG:Value):Prop:=
 (ax pg X0 w0 (aP p0) fun a=>
 ab pg X0 w0 (aT 302 1 1 1 a) fun b=>
 ab pg X0 w0 (ld1 300 b) fun c=>
 eV pg R X0 w0 true (Instr.range 300 c) fun d e g=>
 (ix g e undef undef 42 23 fun h i _ _ j k=>
 eV pg R k j true (Instr.next d false 0) fun l m n=>
 ab pg n m (aD l 0) fun o=>
 (au o
 ((eV pg R n m true (Instr.entry d) fun q r s=>
 ab pg s r (aD q 1) fun t=>
 un (ak (aa t)) fun v=>
 aI (aq (ad (aa t))==8) (aI (av (ad (aa t)) bB.one) ((ab pg s r (cp 37 3 eG) fun y=>
 (gg s r (I 0) 23 fun z A C D E=>
 ab pg E D (binOp .lss 3 C y) fun F=>
 (au F
 ((ab pg E D (cA 37 4 eG C) fun G=>
 ab pg E D (ek 118 4 G) fun H=>
 un (ak (aa H)) fun L=>
 aI (aq (ad (aa H))==4) (aI (av (ad (aa H)) bB.one) ((aI (cu v) (aI (cu L) (un (cj v 0 8) fun M=>
 un (cellOf L 0) fun N=>
 eC pg R E D true 242 #[M,N] fun O Q S=>
 un (cellOf v 6) fun T=>
 un (aB O false T) fun U=>
 un (aB O false N) fun V=>
 jn (fun (Y:Value) (Z:World) (a0:XS)=>
 ax pg a0 Z (aM O (B true) Y) fun b0=>
 (au b0
 (fin R a0 Z (B true))
 (((ab pg a0 Z (binOp .add 3 C (I 1)) fun c0=>
 fY z A c0 Z a0))))) fun d0=>
 (gE O false (eC pg R S Q true 99 #[U,V] d0) (d0 undef Q S)))))))))
 (((ab pg E D (cp 35 3 eE) fun e0=>
 (gg E D (I 0) 42 fun g0 h0 i0 j0 k0=>
 ab pg k0 j0 (binOp .lss 3 i0 e0) fun l0=>
 (au l0
 ((ab pg k0 j0 (cA 35 1 eE i0) fun m0=>
 ab pg k0 j0 (ld1 9 m0) fun n0=>
 (aI (cu v) (un (cj v 0 8) fun o0=>
 eC pg R k0 j0 true 242 #[o0,n0] fun q0 r0 s0=>
 (au q0
 (fin R s0 r0 (B true))
 (((ab pg s0 r0 (binOp .add 3 i0 (I 1)) fun t0=>
 fY g0 h0 t0 r0 s0))))))))
 (iy h i i0 C j0 k0)))))))))))))
 (fin R n m (B false)))))
noncomputable def Kh:bu:=⟨24,[(3,(pg.cellsOf 182)),(6,(pg.cellsOf 118))],[7,15,19],[0,1,4,8,9,10,11,22],[],[10]⟩
def AB (p0:Value) (_p1_0 _p1_1 _p1_2 dW ey eN:Int) (_p1_6 eG:Value):Prop:=
 (ab pg X0 w0 (cp 37 3 eG) fun a=>
 (gg X0 w0 (I 0) 10 fun b c d e g=>
 ab pg g e (binOp .lss 3 d a) fun h=>
 (au h
 ((ab pg g e (cA 37 4 eG d) fun i=>
 ab pg g e (ek 118 4 i) fun j=>
 un (ak (aa j)) fun k=>
 aI (aq (ad (aa j))==4) (aI (av (ad (aa j)) bB.one) ((aI (cu k) (un (cellOf k 0) fun l=>
 eC pg R g e false 243 #[p0,l] fun m n o=>
 ab pg o n (fdV 166 2 4 3 m) fun q=>
 eC pg R o n true 84 #[q,(.agg #[(I dW),(I ey),(I eN)])] fun r s t=>
 ab pg t s (binOp .geq 3 r (I 0)) fun v=>
 (au v
 (fin R t s (B true))
 (((ab pg t s (binOp .add 3 d (I 1)) fun y=>
 fY b c y s t))))))))))
 (fin R g e (B false)))))
noncomputable def Rv:bu:=⟨12,[(1,(pg.cellsOf 182)),(2,(pg.cellsOf 182))],[3,6,7,10],[0],[],[]⟩
def GC (aQ aV aW bq bG bJ:Int) (bM bV:Value):Prop:=
 (eC pg R X0 w0 true 167 #[bM] fun a b c=>
 aI (bB.one a) ((eC pg R c b true 45 #[bV] fun d e g=>
 aI (bB.one d) ((aI (av [(I aQ),(I aV),(I aW),(I bq),(I bG),(I bJ),a,d] bB.one) ((fin R g e (.agg #[(I aQ),(I aV),(I aW),(I bq),(I bG),(I bJ),a,d]))))))))
noncomputable def Rw:bu:=⟨37,[],[],[0,2,3,4,6,8,9,10,21,22,23],[],[3,9,22]⟩
def GD (p0:ByteArray):Prop:=
 ((ab pg X0 w0 (mE 9 3 (.string p0)) fun a=>
 (ix X0 w0 (I 0) (aZ bz 14695981039346656037) 9 3 fun b c d e g h=>
 ab pg h g (binOp .lss 3 d a) fun i=>
 (au i
 (((ab pg h g (Instr.index 9 (.string p0) d) fun j=>
 ab pg h g (mF bz 5 208 j) fun k=>
 ab pg h g (binOp .xor 208 e k) fun l=>
 (ab pg h g (binOp .mul 208 l (aZ bz 1099511628211)) fun m=>
 ((ab pg h g (binOp .add 3 d (I 1)) fun n=>
 iy b c n m g h))))))
 (((ab pg h g (ea 350 #[(aZ bz 18397679294719823053),(aZ bz 14181476777654086739)] #[(0,(aZ bz 18397679294719823053)),(1,(aZ bz 14181476777654086739))]) fun o=>
 (ix h g (I 0) e 22 3 fun q r s t v y=>
 ab pg y v (binOp .lss 3 s (I 2)) fun z=>
 (au z
 ((ab pg y v (vy 350 2 208 o s) fun A=>
 (ab pg y v (binOp .shr 208 t (aZ bz 33)) fun C=>
 ab pg y v (binOp .xor 208 t C) fun D=>
 (ab pg y v (binOp .mul 208 D A) fun E=>
 ((ab pg y v (binOp .add 3 s (I 1)) fun F=>
 iy q r F E v y))))))
 (((ab pg y v (binOp .shr 208 t (aZ bz 33)) fun G=>
 ab pg y v (binOp .xor 208 t G) fun H=>
 (fin R y v H)))))))))))))
def IQ (p0:Value):Prop:=
 (ab pg X0 w0 (cp 35 3 p0) fun a=>
 (gg X0 w0 (I 0) 7 fun b c d e g=>
 ab pg g e (binOp .lss 3 d a) fun h=>
 (au h
 ((ab pg g e (cA 35 1 p0 d) fun i=>
 ab pg g e (ld1 9 i) fun j=>
 (eC pg R g e true 194 #[j] fun k l m=>
 ab pg m l (aU bh k) fun n=>
 un (aB n false d) fun o=>
 ay pg m l n false (vS (binOp .gtr 3 o (I 0))) fun q=>
 un (aB n false q) fun r=>
 un (aB r true p0) fun s=>
 un (aB r true d) fun t=>
 ay pg m l r true (vS (binOp .sub 3 t (I 1))) fun v=>
 ay pg m l r true (vS (cA 35 1 s v)) fun y=>
 ay pg m l r true (vS (ld1 9 y)) fun z=>
 un (aB r true j) fun A=>
 ay pg m l r true (vS (binOp .geq 9 z A)) fun C=>
 ay pg m l n false (aM r C (B false)) fun D=>
 ax pg m l (aM n (B true) D) fun E=>
 (au E
 (fin R m l (B false))
 (((ab pg m l (binOp .add 3 d (I 1)) fun F=>
 fY b c F l m)))))))
 (((ab pg g e (cp 35 3 p0) fun G=>
 ab pg g e (binOp .leq 3 G (I 16)) fun H=>
 (fin R g e H)))))))
def AD (p0:Value):Prop:=
 ((ab pg X0 w0 (cp 37 3 p0) fun a=>
 (ix X0 w0 (I 0) (.slice none 0 0) 8 3 fun b c d e g h=>
 ab pg h g (binOp .lss 3 d a) fun i=>
 (au i
 ((ab pg h g (cA 37 4 p0 d) fun j=>
 ab pg h g (ek 118 4 j) fun k=>
 un (ak (aa k)) fun l=>
 aI (aq (ad (aa k))==4) (aI (av (ad (aa k)) bB.one) ((aI (cu l) (un (cellOf l 0) fun m=>
 eV pg R h g true (gG 35 9 1 1 #[(0,m)]) fun n o q=>
 eV pg R q o true (ga 35 9 1 16 35 e n) fun r s t=>
 ((ab pg t s (binOp .add 3 d (I 1)) fun v=>
 iy b c v r s t))))))))
 (fin R h g e)))))
noncomputable def NX:bu:=⟨68,[(1,(pg.cellsOf 73)),(2,(pg.cellsOf 73))],[4,10,15,20,21,22,23,24,29,30,31,35,39,40,41,46,47,48,52,58,59,60,61,65,66],[0,3,5,7,11,16,25,32,36,42,49,53,62],[],[]⟩
def CZ (aQ aV aW bq bG bJ bM bV cD cV:Int) (cg:Bool) (bZ:Int) (dm:Nat) (de da dc df:Value) (dh cM:Int) (cK cN:Nat) (cO cP dd cQ cW cX:Int) (cY cZ:Value):Prop:=
 (((jn (fun (a:Value)=>
 (aI (cu a) (un (cj a 0 29) fun b=>
 un (ak (aa b)) fun c=>
 aI (aq (ad (aa b))==29) (aI (av (ad (aa b)) bB.one) ((un (cj c 0 29) fun d=>
 aI (av [c] cu) (fin R X0 w0 (aJ #[d,(B true)])))))))) fun e=>
 ab pg X0 w0 (aF .eql 3 (.tmp 5) (.const (I 1)) (I aQ) (I 1)) fun g=>
 (au g
 (ab pg X0 w0 (ea 47 #[(I 0),(I 0),(.float .f64 0),(.float .f64 0),(I 0),(I 0),(I 0),(I 0),(I 0),(I 0),(.slice none 0 0),(.slice none 0 0)] #[]) fun h=>
 un (ak (aS (cH [(I aQ),(I aV),(I aW),(I bq),(I bG),(I bJ),(I bM),(I bV),(I cD),(I cV),(B cg),(I bZ),(.float .f64 dm),de,da,dc,df,(I dh),(I cM),(.float .f64 cK),(.float .f64 cN),(I cO),(I cP),(I dd),(I cQ),(I cW),(I cX),cY,cZ] 17 (ad (aa h))))) fun i=>
 aI (aq (ad (aa h))==12) (aI (av (ad (aa h)) bB.one) (e i)))
 ((jn (fun (j:Value)=>
 au j
 ((e (.agg #[(I aQ),(I aV),(I aW),(I bq),(I bG),(I bJ),(I bM),(I bV),(I cD),(I cV),(B cg),(I 0),(.float .f64 dm),de,da,dc,df,(I dh),(I cM),(.float .f64 cK),(.float .f64 cN),(I cO),(I cP),(I dd),(I cQ),(I cW),(I cX),cY,cZ])))
 (ab pg X0 w0 (aF .eql 3 (.tmp 5) (.const (I 3)) (I aQ) (I 3)) fun k=>
 (au k
 (ab pg X0 w0 (ea 32 #[(I 0),(I 0),(I 0)] #[]) fun l=>
 ab pg X0 w0 (ea 34 #[(I 0),(I 0),(I 0)] #[]) fun m=>
 un (ak (aS (cH [(I aQ),(I aV),(I aW),(I bq),(I bG),(I bJ),(I bM),(I bV),(I cD),(I cV),(B cg),(I bZ),(.float .f64 dm),de,da,dc,df,(I dh),(I cM),(.float .f64 cK),(.float .f64 cN),(I cO),(I cP),(I dd),(I cQ),(I cW),(I cX),cY,cZ] 1 (ad (aa l))))) fun n=>
 aI (aq (ad (aa l))==3) (aI (av (ad (aa l)) bB.one) (un (ak (aS (cH (ad (aa n)) 4 (ad (aa m))))) fun o=>
 aI (aq (ad (aa m))==3) (aI (av (ad (aa m)) bB.one) (un (ak (aS (cH (ad (aa o)) 13 [(.slice none 0 0)]))) fun q=>
 un (ak (aS (cH (ad (aa q)) 14 [(.slice none 0 0)]))) fun r=>
 un (ak (aS (cH (ad (aa r)) 15 [(.slice none 0 0)]))) fun s=>
 (e s))))))
 (ab pg X0 w0 (aF .eql 3 (.tmp 5) (.const (I 4)) (I aQ) (I 4)) fun t=>
 (au t
 (ab pg X0 w0 (ea 32 #[(I 0),(I 0),(I 0)] #[]) fun v=>
 ab pg X0 w0 (ea 34 #[(I 0),(I 0),(I 0)] #[]) fun y=>
 un (ak (aS (cH [(I aQ),(I aV),(I aW),(I bq),(I bG),(I bJ),(I bM),(I bV),(I cD),(I cV),(B cg),(I bZ),(.float .f64 dm),de,da,dc,df,(I dh),(I cM),(.float .f64 cK),(.float .f64 cN),(I cO),(I cP),(I dd),(I cQ),(I cW),(I cX),cY,cZ] 1 (ad (aa v))))) fun z=>
 aI (aq (ad (aa v))==3) (aI (av (ad (aa v)) bB.one) (un (ak (aS (cH (ad (aa z)) 10 [(B false)]))) fun A=>
 un (ak (aS (cH (ad (aa A)) 4 (ad (aa y))))) fun C=>
 aI (aq (ad (aa y))==3) (aI (av (ad (aa y)) bB.one) (e C)))))
 (ab pg X0 w0 (aF .eql 3 (.tmp 5) (.const (I 5)) (I aQ) (I 5)) fun D=>
 (au D
 (ab pg X0 w0 (ea 34 #[(I 0),(I 0),(I 0)] #[]) fun E=>
 un (ak (aS (cH [(I aQ),(I aV),(I aW),(I bq),(I bG),(I bJ),(I bM),(I bV),(I cD),(I cV),(B cg),(I bZ),(.float .f64 dm),de,da,dc,df,(I dh),(I cM),(.float .f64 cK),(.float .f64 cN),(I cO),(I cP),(I dd),(I cQ),(I cW),(I cX),cY,cZ] 4 (ad (aa E))))) fun F=>
 aI (aq (ad (aa E))==3) (aI (av (ad (aa E)) bB.one) (e F)))
 (ab pg X0 w0 (aF .eql 3 (.tmp 5) (.const (I 6)) (I aQ) (I 6)) fun G=>
 (au G
 (ab pg X0 w0 (ea 34 #[(I 0),(I 0),(I 0)] #[]) fun H=>
 un (ak (aS (cH [(I aQ),(I aV),(I aW),(I bq),(I bG),(I bJ),(I bM),(I bV),(I cD),(I cV),(B cg),(I 0),(.float .f64 0),de,da,dc,df,(I dh),(I cM),(.float .f64 cK),(.float .f64 cN),(I cO),(I cP),(I dd),(I cQ),(I cW),(I cX),cY,cZ] 4 (ad (aa H))))) fun L=>
 aI (aq (ad (aa H))==3) (aI (av (ad (aa H)) bB.one) (e L)))
 (ab pg X0 w0 (aF .eql 3 (.tmp 5) (.const (I 9)) (I aQ) (I 9)) fun M=>
 (au M
 (ab pg X0 w0 (ea 32 #[(I 0),(I 0),(I 0)] #[]) fun N=>
 ab pg X0 w0 (ea 34 #[(I 0),(I 0),(I 0)] #[]) fun O=>
 un (ak (aS (cH [(I aQ),(I aV),(I aW),(I bq),(I bG),(I bJ),(I bM),(I bV),(I cD),(I cV),(B cg),(I bZ),(.float .f64 dm),de,da,dc,df,(I dh),(I cM),(.float .f64 cK),(.float .f64 cN),(I cO),(I cP),(I dd),(I cQ),(I cW),(I cX),cY,cZ] 1 (ad (aa N))))) fun Q=>
 aI (aq (ad (aa N))==3) (aI (av (ad (aa N)) bB.one) (un (ak (aS (cH (ad (aa Q)) 4 (ad (aa O))))) fun S=>
 aI (aq (ad (aa O))==3) (aI (av (ad (aa O)) bB.one) (un (ak (aS (cH (ad (aa S)) 15 [(.slice none 0 0)]))) fun T=>
 (e T))))))
 (ab pg X0 w0 (aF .eql 3 (.tmp 5) (.const (I 10)) (I aQ) (I 10)) fun U=>
 (au U
 (ab pg X0 w0 (ea 32 #[(I 0),(I 0),(I 0)] #[]) fun V=>
 un (ak (aS (cH [(I aQ),(I aV),(I aW),(I bq),(I bG),(I bJ),(I bM),(I bV),(I cD),(I cV),(B cg),(I bZ),(.float .f64 dm),de,da,dc,df,(I dh),(I cM),(.float .f64 cK),(.float .f64 cN),(I cO),(I cP),(I dd),(I cQ),(I cW),(I cX),cY,cZ] 1 (ad (aa V))))) fun Y=>
 aI (aq (ad (aa V))==3) (aI (av (ad (aa V)) bB.one) (e Y)))
 (ab pg X0 w0 (aF .eql 3 (.tmp 5) (.const (I 11)) (I aQ) (I 11)) fun Z=>
 (au Z
 (ab pg X0 w0 (ea 34 #[(I 0),(I 0),(I 0)] #[]) fun a0=>
 ab pg X0 w0 (ea 34 #[(I 0),(I 0),(I 0)] #[]) fun b0=>
 ab pg X0 w0 (ea 32 #[(I 0),(I 0),(I 0)] #[]) fun c0=>
 un (ak (aS (cH [(I aQ),(I aV),(I aW),(I bq),(I bG),(I bJ),(I bM),(I bV),(I cD),(I cV),(B cg),(I bZ),(.float .f64 dm),de,da,dc,df,(I dh),(I cM),(.float .f64 cK),(.float .f64 cN),(I cO),(I cP),(I dd),(I cQ),(I cW),(I cX),cY,cZ] 7 (ad (aa a0))))) fun d0=>
 aI (aq (ad (aa a0))==3) (aI (av (ad (aa a0)) bB.one) (un (ak (aS (cH (ad (aa d0)) 4 (ad (aa b0))))) fun e0=>
 aI (aq (ad (aa b0))==3) (aI (av (ad (aa b0)) bB.one) (un (ak (aS (cH (ad (aa e0)) 1 (ad (aa c0))))) fun g0=>
 aI (aq (ad (aa c0))==3) (aI (av (ad (aa c0)) bB.one) (un (ak (aS (cH (ad (aa g0)) 14 [(.slice none 0 0)]))) fun h0=>
 (e h0))))))))
 (ab pg X0 w0 (aF .eql 3 (.tmp 5) (.const (I 12)) (I aQ) (I 12)) fun i0=>
 (au i0
 (ab pg X0 w0 (ea 34 #[(I 0),(I 0),(I 0)] #[]) fun j0=>
 un (ak (aS (cH [(I aQ),(I aV),(I aW),(I bq),(I bG),(I bJ),(I bM),(I bV),(I cD),(I cV),(B cg),(I bZ),(.float .f64 dm),de,da,dc,df,(I dh),(I cM),(.float .f64 cK),(.float .f64 cN),(I cO),(I cP),(I dd),(I cQ),(I cW),(I cX),cY,cZ] 4 (ad (aa j0))))) fun k0=>
 aI (aq (ad (aa j0))==3) (aI (av (ad (aa j0)) bB.one) (un (ak (aS (cH (ad (aa k0)) 16 [(.slice none 0 0)]))) fun l0=>
 (e l0))))
 (aI (av [(I aQ),(I aV),(I aW),(I bq),(I bG),(I bJ),(I bM),(I bV),(I cD),(I cV),(B cg),(I bZ),(.float .f64 dm),de,da,dc,df,(I dh),(I cM),(.float .f64 cK),(.float .f64 cN),(I cO),(I cP),(I dd),(I cQ),(I cW),(I cX),cY,cZ] bB.one) ((fin R X0 w0 (aJ #[(.agg #[(I aQ),(I aV),(I aW),(I bq),(I bG),(I bJ),(I bM),(I bV),(I cD),(I cV),(B cg),(I bZ),(.float .f64 dm),de,da,dc,df,(I dh),(I cM),(.float .f64 cK),(.float .f64 cN),(I cO),(I cP),(I dd),(I cQ),(I cW),(I cX),cY,cZ]),(B false)]))))))))))))))))))))) fun m0=>
 ab pg X0 w0 (aF .eql 3 (.tmp 5) (.const (I 2)) (I aQ) (I 2)) fun n0=>
 (au n0
 (m0 n0)
 (ab pg X0 w0 (aF .eql 3 (.tmp 5) (.const (I 7)) (I aQ) (I 7)) fun o0=>
 (au o0
 (m0 o0)
 (ab pg X0 w0 (aF .eql 3 (.tmp 5) (.const (I 8)) (I aQ) (I 8)) fun q0=>
 (m0 q0)))))))))))
noncomputable def U5:bu:=⟨64,[(1,(pg.cellsOf 73))],[3,8,14,20,25,30,36,42,48,54,60],[0,2],[7,9,10,11,13,15,16,17,19,21,22,24,26,27,29,31,32,33,35,37,38,39,41,43,44,45,47,49,50,51,53,55,56,57,59,61,62],[]⟩
def IS (_p0_0 aV aW bq bG bJ bM bV cD cV:Int) (cg:Bool) (bZ:Int) (dm:Nat) (de da dc df:Value) (dh cM:Int) (cK cN:Nat) (cO cP dd cQ cW cX:Int) (cY cZ:Value):Prop:=
 (ab pg X0 w0 (ea 32 #[(I 0),(I 0),(I 0)] #[]) fun a=>
 ab pg X0 w0 (aF .eql 32 (.tmp 4) (.tmp 5) (.agg #[(I aV),(I aW),(I bq)]) a) fun b=>
 un (aB b true (.agg #[(I bG),(I bJ),(I bM)])) fun c=>
 ay pg X0 w0 b true (vS (ea 34 #[(I 0),(I 0),(I 0)] #[])) fun d=>
 ay pg X0 w0 b true (vS (aF .eql 34 (.tmp 9) (.tmp 10) c d)) fun e=>
 ax pg X0 w0 (aM b e (B false)) fun g=>
 un (aB g true (.agg #[(I bV),(I cD),(I cV)])) fun h=>
 ay pg X0 w0 g true (vS (ea 34 #[(I 0),(I 0),(I 0)] #[])) fun i=>
 ay pg X0 w0 g true (vS (aF .eql 34 (.tmp 15) (.tmp 16) h i)) fun j=>
 ax pg X0 w0 (aM g j (B false)) fun k=>
 un (aB k true (B cg)) fun l=>
 ay pg X0 w0 k true (vS (aU bh l)) fun m=>
 ax pg X0 w0 (aM k m (B false)) fun n=>
 un (aB n true (I bZ)) fun o=>
 ay pg X0 w0 n true (vS (aF .eql 3 (.tmp 26) (.const (I 0)) o (I 0))) fun q=>
 ax pg X0 w0 (aM n q (B false)) fun r=>
 un (aB r true (.float .f64 dm)) fun s=>
 jn (fun (t:Value) (v:World) (y:XS)=>
 ay pg y v r true (vS (aF .eql 208 (.tmp 32) (.const (aZ bz 0)) t (aZ bz 0))) fun z=>
 ax pg y v (aM r z (B false)) fun A=>
 un (aB A true de) fun C=>
 ay pg y v A true (vS (cp 35 3 C)) fun D=>
 ay pg y v A true (vS (aF .eql 3 (.tmp 38) (.const (I 0)) D (I 0))) fun E=>
 ax pg y v (aM A E (B false)) fun F=>
 un (aB F true da) fun G=>
 ay pg y v F true (vS (cp 37 3 G)) fun H=>
 ay pg y v F true (vS (aF .eql 3 (.tmp 44) (.const (I 0)) H (I 0))) fun L=>
 ax pg y v (aM F L (B false)) fun M=>
 un (aB M true dc) fun N=>
 ay pg y v M true (vS (cp 38 3 N)) fun O=>
 ay pg y v M true (vS (aF .eql 3 (.tmp 50) (.const (I 0)) O (I 0))) fun Q=>
 ax pg y v (aM M Q (B false)) fun S=>
 un (aB S true df) fun T=>
 ay pg y v S true (vS (cp 71 3 T)) fun U=>
 ay pg y v S true (vS (aF .eql 3 (.tmp 56) (.const (I 0)) U (I 0))) fun V=>
 ax pg y v (aM S V (B false)) fun Y=>
 un (aB Y true (.agg #[(I dh),(I cM),(.float .f64 cK),(.float .f64 cN),(I cO),(I cP),(I dd),(I cQ),(I cW),(I cX),cY,cZ])) fun Z=>
 jn (fun (a0:Value) (b0:World) (c0:XS)=>
 ax pg c0 b0 (aM Y a0 (B false)) fun d0=>
 (fin R c0 b0 d0)) fun e0=>
 (gE Y true (eC pg R y v true 244 #[Z] e0) (e0 undef v y))) fun g0=>
 (gE r true (eC pg R X0 w0 true 118 #[s] g0) (g0 undef w0 X0)))
noncomputable def Pm:bu:=⟨134,[(1,(pg.cellsOf 73))],[5,9,14,18,24,26,28,30,36,42,46,48,54,60,76,81,87,92,97,101,106,112,117,119,121,123,126,130],[0,2,3,4,6,7,12,22,40,52,57,85,90,95,110,115],[17,19,20,35,37,38,45,47,49,50,67,68,69,71,72,73,75,77,78,80,82,83,100,102,103,105,107,108,129,131,132],[]⟩
def DN (aQ aV aW bq bG bJ bM bV cD cV:Int) (cg:Bool) (bZ:Int) (dm:Nat) (de da dc df:Value) (dh cM:Int) (cK cN:Nat) (cO cP dd cQ cW cX:Int) (cY cZ:Value):Prop:=
 ((ab pg X0 w0 (aF .eql 3 (.tmp 6) (.const (I 1)) (I aQ) (I 1)) fun a=>
 (au a
 (eC pg R X0 w0 true 121 #[(.agg #[(I dh),(I cM),(.float .f64 cK),(.float .f64 cN),(I cO),(I cP),(I dd),(I cQ),(I cW),(I cX),cY,cZ])] fun b c d=>
 (fin R d c b))
 (ab pg X0 w0 (aF .eql 3 (.tmp 6) (.const (I 2)) (I aQ) (I 2)) fun e=>
 (au e
 (ab pg X0 w0 (binOp .geq 3 (I bZ) (I 0)) fun g=>
 un (aB g true (I bZ)) fun h=>
 ay pg X0 w0 g true (vS (binOp .leq 3 h (I 281474976710656))) fun i=>
 ax pg X0 w0 (aM g i (B false)) fun j=>
 (fin R X0 w0 j))
 (ab pg X0 w0 (aF .eql 3 (.tmp 6) (.const (I 3)) (I aQ) (I 3)) fun k=>
 (au k
 (ab pg X0 w0 (ea 182 #[(I aV),(I aW),(I bq),(I bG),(I bJ),(I bM),de,da] #[(0,(.agg #[(I aV),(I aW),(I bq)])),(1,(.agg #[(I bG),(I bJ),(I bM)])),(2,de),(3,da)]) fun l=>
 eC pg R X0 w0 true 165 #[l] fun m n o=>
 ab pg o n (aF .eql 27 (.tmp 33) (.const (I 0)) m (I 0)) fun q=>
 un (aB q true dc) fun r=>
 jn (fun (s:Value) (t:World) (v:XS)=>
 ax pg v t (aM q s (B false)) fun y=>
 (fin R v t y)) fun z=>
 (gE q true (eC pg R o n true 157 #[r] z) (z undef n o)))
 (ab pg X0 w0 (aF .eql 3 (.tmp 6) (.const (I 4)) (I aQ) (I 4)) fun A=>
 (au A
 (eC pg R X0 w0 true 152 #[(.agg #[(I aV),(I aW),(I bq)])] fun C D E=>
 un (aB C true (B cg)) fun F=>
 un (aB C true (.agg #[(I bG),(I bJ),(I bM)])) fun G=>
 jn (fun (H:Value) (L:World) (M:XS)=>
 ax pg M L (aM C H (B false)) fun N=>
 (fin R M L N)) fun O=>
 (gE C true (eC pg R E D true 245 #[F,G] O) (O undef D E)))
 (ab pg X0 w0 (aF .eql 3 (.tmp 6) (.const (I 5)) (I aQ) (I 5)) fun Q=>
 (au Q
 (eC pg R X0 w0 true 57 #[(.agg #[(I bG),(I bJ),(I bM)])] fun S T U=>
 (fin R U T S))
 (ab pg X0 w0 (aF .eql 3 (.tmp 6) (.const (I 6)) (I aQ) (I 6)) fun V=>
 (au V
 (eC pg R X0 w0 true 246 #[(.float .f64 dm)] fun Y Z a0=>
 ab pg a0 Z (aD Y 0) fun b0=>
 ab pg a0 Z (aD Y 1) fun c0=>
 (ab pg a0 Z (aF .eql 27 (.tmp 65) (.const (I 0)) c0 (I 0)) fun d0=>
 un (aB d0 true b0) fun e0=>
 ay pg a0 Z d0 true (vS (binOp .gtr 41 e0 (.float .f64 0))) fun g0=>
 ax pg a0 Z (aM d0 g0 (B false)) fun h0=>
 un (aB h0 true b0) fun i0=>
 ay pg a0 Z h0 true (vS (binOp .lss 41 i0 (.float .f64 4607182418800017408))) fun j0=>
 ax pg a0 Z (aM h0 j0 (B false)) fun k0=>
 un (aB k0 true (I bZ)) fun l0=>
 jn (fun (m0:Value) (n0:World) (o0:XS)=>
 ax pg o0 n0 (aM k0 m0 (B false)) fun q0=>
 un (aB q0 true (.agg #[(I bG),(I bJ),(I bM)])) fun r0=>
 jn (fun (s0:Value) (t0:World) (v0:XS)=>
 ax pg v0 t0 (aM q0 s0 (B false)) fun y0=>
 (fin R v0 t0 y0)) fun z0=>
 (gE q0 true (eC pg R o0 n0 true 57 #[r0] z0) (z0 undef n0 o0))) fun A0=>
 (gE k0 true (eC pg R a0 Z true 247 #[l0] A0) (A0 undef Z a0))))
 (ab pg X0 w0 (aF .eql 3 (.tmp 6) (.const (I 7)) (I aQ) (I 7)) fun C0=>
 (au C0
 (eC pg R X0 w0 true 247 #[(I bZ)] fun D0 E0 F0=>
 (fin R F0 E0 D0))
 (ab pg X0 w0 (aF .eql 3 (.tmp 6) (.const (I 8)) (I aQ) (I 8)) fun G0=>
 (au G0
 (ab pg X0 w0 (binOp .geq 3 (I bZ) (I 1)) fun H0=>
 (fin R X0 w0 H0))
 (ab pg X0 w0 (aF .eql 3 (.tmp 6) (.const (I 9)) (I aQ) (I 9)) fun L0=>
 (au L0
 (eC pg R X0 w0 true 152 #[(.agg #[(I aV),(I aW),(I bq)])] fun M0 N0 O0=>
 un (aB M0 true (.agg #[(I bG),(I bJ),(I bM)])) fun Q0=>
 jn (fun (S0:Value) (T0:World) (U0:XS)=>
 ax pg U0 T0 (aM M0 S0 (B false)) fun V0=>
 un (aB V0 true dc) fun Y0=>
 jn (fun (Z0:Value) (a1:World) (b1:XS)=>
 ax pg b1 a1 (aM V0 Z0 (B false)) fun c1=>
 (fin R b1 a1 c1)) fun d1=>
 (gE V0 true (eC pg R U0 T0 true 157 #[Y0] d1) (d1 undef T0 U0))) fun e1=>
 (gE M0 true (eC pg R O0 N0 true 248 #[Q0] e1) (e1 undef N0 O0)))
 (ab pg X0 w0 (aF .eql 3 (.tmp 6) (.const (I 10)) (I aQ) (I 10)) fun g1=>
 (au g1
 (eC pg R X0 w0 true 152 #[(.agg #[(I aV),(I aW),(I bq)])] fun h1 i1 j1=>
 (fin R j1 i1 h1))
 (ab pg X0 w0 (aF .eql 3 (.tmp 6) (.const (I 11)) (I aQ) (I 11)) fun k1=>
 (au k1
 (eC pg R X0 w0 true 122 #[(.agg #[(I bV),(I cD),(I cV)]),(.agg #[(I bG),(I bJ),(I bM)]),(.agg #[(I aV),(I aW),(I bq)]),da] fun l1 m1 n1=>
 (fin R n1 m1 l1))
 (((eC pg R X0 w0 true 57 #[(.agg #[(I bG),(I bJ),(I bM)])] fun o1 q1 r1=>
 un (aB o1 true df) fun s1=>
 jn (fun (t1:Value) (v1:World) (y1:XS)=>
 ax pg y1 v1 (aM o1 t1 (B false)) fun z1=>
 (fin R y1 v1 z1)) fun A1=>
 (gE o1 true (eC pg R r1 q1 true 249 #[s1] A1) (A1 undef q1 r1))))))))))))))))))))))))))))
def ml (p0 p1:Value):Prop:=
 (ab pg X0 w0 (cp 35 3 p0) fun a=>
 (gg X0 w0 (I 0) 8 fun b c d e g=>
 ab pg g e (binOp .lss 3 d a) fun h=>
 (au h
 (((ab pg g e (cA 35 1 p0 d) fun i=>
 ab pg g e (ld1 9 i) fun j=>
 eF pg R g e true p1 #[j] fun k l m=>
 (au k
 (fin R m l d)
 (((ab pg m l (binOp .add 3 d (I 1)) fun n=>
 fY b c n l m)))))))
 ((((fin R g e (I (-1)))))))))
noncomputable def Mm:bu:=⟨13,[],[],[0,1,2,4,5,6],[],[]⟩
def BE (p0:Value) (p1 gz gL gM:Int):Prop:=
 eV pg R X0 w0 true (cL 3 (I p1)) fun a b c=>
 eV pg R c b true (cL 32 (.agg #[(I gz),(I gL),(I gM)])) fun d e g=>
 (ax pg g e (aP p0) fun h=>
 ab pg g e (aT 179 0 0 1 h) fun i=>
 ab pg g e (ld1 177 i) fun j=>
 ab pg g e (cz (eS 251) #[] #[a,d]) fun k=>
 eC pg R g e true 250 #[j,k] fun l m n=>
 (fin R n m l))
def H4 (p0 p1:Value):Prop:=
 eV pg R X0 w0 true (cL 37 p1) fun a b c=>
 (ab pg c b (cz (eS 253) #[] #[a]) fun d=>
 eC pg R c b true 252 #[p0,d] fun e g h=>
 (fin R h g e))
noncomputable def jD:bu:=⟨49,[(4,(pg.cellsOf 156))],[],[0,1,2,6,7,8,9,10,11,17,31],[39,40,41,42,43,44,45,46,47],[9,10]⟩
def gy (p0:Value) (bS bY bW dW ey eN eE eG:Int) (gl p2:Value):Prop:=
 (ab pg X0 w0 (cp 177 3 p0) fun a=>
 ((ix X0 w0 a (I 0) 10 9 fun b c d e g h=>
 ab pg h g (binOp .lss 3 e d) fun i=>
 (au i
 (((jn (fun (j k:Value) (l:World) (m:XS)=>
 iy b c k j l m) fun n=>
 ab pg h g (binOp .add 3 e d) fun o=>
 ab pg h g (mF bz 3 232 o) fun q=>
 ab pg h g (binOp .shr 232 q (aZ bz 1)) fun r=>
 ab pg h g (mF IntKind.i64 232 3 r) fun s=>
 (ab pg h g (cA 177 9 p0 s) fun t=>
 ab pg h g (ek 156 9 t) fun v=>
 eF pg R h g true p2 #[v,(.agg #[(I bS),(I bY),(I bW),(I dW),(I ey),(I eN),(I eE),(I eG),gl])] fun y z A=>
 ab pg A z (binOp .lss 3 y (I 0)) fun C=>
 (au C
 (ab pg A z (binOp .add 3 s (I 1)) fun D=>
 (n D d z A))
 (n e s z A))))))
 (((ab pg h g (binOp .lss 3 e a) fun E=>
 un (aB E true p2) fun F=>
 un (aB E true p0) fun G=>
 un (aB E true e) fun H=>
 ay pg h g E true (vS (cA 177 9 G H)) fun L=>
 ay pg h g E true (vS (ek 156 9 L)) fun M=>
 un (aB E true (.agg #[(I bS),(I bY),(I bW),(I dW),(I ey),(I eN),(I eE),(I eG),gl])) fun N=>
 jn (fun (O:Value) (Q:World) (S:XS)=>
 ay pg S Q E true (vS (aF .eql 3 (.tmp 46) (.const (I 0)) O (I 0))) fun T=>
 ax pg S Q (aM E T (B false)) fun U=>
 (fin R S Q (aJ #[e,U]))) fun V=>
 (gE E true (eF pg R h g true F #[M,N] V) (V undef g h)))))))))
noncomputable def U6:bu:=⟨19,[(2,(pg.cellsOf 156)),(3,(pg.cellsOf 156))],[6,8,14,16],[0,1,4,5,12],[],[]⟩
def HY (aQ _p0_1 _p0_2 _p0_3 _p0_4 bJ bM bV:Int) (_p0_8:Value) (bS _p1_1 _p1_2 _p1_3 _p1_4 eN eE eG:Int) (_p1_8:Value):Prop:=
 (eC pg R X0 w0 true 84 #[(.agg #[(I bJ),(I bM),(I bV)]),(.agg #[(I eN),(I eE),(I eG)])] fun a b c=>
 (ab pg c b (aF .neq 3 (.tmp 11) (.const (I 0)) a (I 0)) fun d=>
 (au d
 (fin R c b a)
 ((ab pg c b (binOp .sub 3 (I aQ) (I bS)) fun e=>
 (fin R c b e))))))
noncomputable def pz:bu:=⟨95,[],[],[0,1,2,6,7,8,9,16,22,31,68],[],[]⟩
def jF (p0:Value) (p1:Int) (p2:Value):Prop:=
 (ab pg X0 w0 (cy 177 p0 (some (I p1)) none none) fun _=>
 (ab pg X0 w0 (cp 177 3 p2) fun a=>
 (ab pg X0 w0 (aF .eql 3 (.tmp 15) (.const (I 0)) a (I 0)) fun b=>
 (au b
 (fin R X0 w0 p0)
 ((ab pg X0 w0 (cp 177 3 p0) fun c=>
 (ab pg X0 w0 (aF .eql 3 (.tmp 20) (.tmp 21) (I p1) c) fun d=>
 (au d
 (eV pg R X0 w0 true (ga 177 156 9 88 177 p0 p2) fun e g h=>
 (fin R h g e))
 ((ab pg X0 w0 (binOp .add 3 c a) fun i=>
 ab pg X0 w0 (Builtin.cap_ #[177] 3 #[p0]) fun j=>
 ab pg X0 w0 (binOp .gtr 3 i j) fun k=>
 (au k
 (ab pg X0 w0 (cy 177 p0 none (some (I p1)) none) fun l=>
 ab pg X0 w0 (binOp .add 3 c a) fun m=>
 ab pg X0 w0 (binOp .sub 3 m (I p1)) fun n=>
 eV pg R X0 w0 true (dQ #[177,3] 177 #[l,n]) fun o q r=>
 (ab pg r q (cy 177 o (some (I p1)) none none) fun s=>
 eV pg R r q true (iv #[177,177] 3 #[s,p2]) fun _ t v=>
 (ab pg v t (binOp .add 3 (I p1) a) fun y=>
 ab pg v t (cy 177 o (some y) none none) fun z=>
 ab pg v t (cy 177 p0 (some (I p1)) none none) fun A=>
 eV pg R v t true (iv #[177,177] 3 #[z,A]) fun _ C D=>
 (fin R D C o))))
 ((ab pg X0 w0 (binOp .add 3 c a) fun E=>
 ab pg X0 w0 (cy 177 p0 none (some E) none) fun F=>
 (ab pg X0 w0 (binOp .add 3 (I p1) a) fun G=>
 ab pg X0 w0 (cy 177 F (some G) none none) fun H=>
 eC pg R X0 w0 true 255 #[p2,H] fun L M N=>
 ab pg N M (aU bh L) fun O=>
 (au O
 (ab pg N M (binOp .add 3 (I p1) a) fun Q=>
 ab pg N M (cy 177 F (some Q) none none) fun S=>
 ab pg N M (cy 177 F (some (I p1)) none none) fun T=>
 eV pg R N M true (iv #[177,177] 3 #[S,T]) fun _ U V=>
 (ab pg V U (cy 177 F (some (I p1)) none none) fun Y=>
 eV pg R V U true (iv #[177,177] 3 #[Y,p2]) fun _ Z a0=>
 (fin R a0 Z F)))
 ((ab pg N M (cy 177 F (some c) none none) fun b0=>
 eV pg R N M true (iv #[177,177] 3 #[b0,p2]) fun _ c0 d0=>
 (ab pg d0 c0 (cy 177 F (some (I p1)) none none) fun e0=>
 eC pg R d0 c0 true 256 #[e0,a] fun _ g0 h0=>
 (fin R h0 g0 F)))))))))))))))))))
noncomputable def Rx:bu:=⟨8,[(1,(pg.cellsOf 156)),(2,(pg.cellsOf 156))],[3,6],[0],[],[]⟩
def Gq (aQ aV aW bq bG bJ bM bV:Int) (cD:Value):Prop:=
 (eC pg R X0 w0 true 45 #[cD] fun a b c=>
 aI (bB.one a) ((aI (av [(I aQ),(I aV),(I aW),(I bq),(I bG),(I bJ),(I bM),(I bV),a] bB.one) ((fin R c b (.agg #[(I aQ),(I aV),(I aW),(I bq),(I bG),(I bJ),(I bM),(I bV),a]))))))
noncomputable def Wg:bu:=⟨6,[],[],[0,2],[],[]⟩
def Lm (p0:Nat):Prop:=
 (eC pg R X0 w0 true 276 #[(.float .f64 p0)] fun a b c=>
 eC pg R c b true 118 #[a] fun d e g=>
 (fin R g e d))
def zm (p0 p1:Value):Prop:=
 ax pg X0 w0 (aP p0) fun a=>
 ab pg X0 w0 (aT 293 0 0 1 a) fun b=>
 ab pg X0 w0 (ld1 201 b) fun c=>
 ab pg X0 w0 (aF .neq 201 (.tmp 7) (.const (.pointer none)) c (.pointer none)) fun d=>
 (au d
 (ax pg X0 w0 (aP p0) fun e=>
 ab pg X0 w0 (aT 293 0 0 1 e) fun g=>
 ab pg X0 w0 (ld1 201 g) fun h=>
 ax pg X0 w0 (aP p1) fun i=>
 ab pg X0 w0 (ld1 3 i) fun j=>
 eC pg R X0 w0 true 113 #[h,j] fun _ k l=>
 (fin R l k (aJ #[])))
 ((ax pg X0 w0 (aP p0) fun m=>
 ab pg X0 w0 (aT 293 1 1 1 m) fun n=>
 ab pg X0 w0 (ld1 138 n) fun o=>
 eC pg R X0 w0 true 62 #[o] fun q r s=>
 ax pg s r (aP p1) fun t=>
 eU pg R s r true (st1 3 1 t q) fun _ v y=>
 (eC pg R y v true 277 #[p0] fun _ z A=>
 fin R A z (aJ #[])))))
def wN (p0 p1:Value):Prop:=
 ax pg X0 w0 (aP p1) fun a=>
 ab pg X0 w0 (aT 47 0 0 4 a) fun b=>
 eC pg R X0 w0 true 278 #[p0,b] fun _ c d=>
 (ax pg d c (aP p1) fun e=>
 ab pg d c (aT 47 1 4 3 e) fun g=>
 eC pg R d c true 235 #[p0,g] fun _ h i=>
 (ax pg i h (aP p1) fun j=>
 ab pg i h (aT 47 2 7 3 j) fun k=>
 eC pg R i h true 235 #[p0,k] fun _ l m=>
 (ax pg m l (aP p1) fun n=>
 ab pg m l (aT 47 3 10 1 n) fun o=>
 ab pg m l (cz (eS 280) #[p0] #[]) fun q=>
 eC pg R m l true 279 #[p0,o,q] fun _ r s=>
 (ax pg s r (aP p1) fun t=>
 ab pg s r (aT 47 4 11 1 t) fun v=>
 ab pg s r (cz (eS 231) #[p0] #[]) fun y=>
 eC pg R s r true 281 #[p0,v,y] fun _ z A=>
 fin R A z (aJ #[])))))
def uv (p0 p1:Value):Prop:=
 ax pg X0 w0 (aP p1) fun a=>
 ab pg X0 w0 (aT 182 0 0 3 a) fun b=>
 eC pg R X0 w0 true 233 #[p0,b] fun _ c d=>
 (ax pg d c (aP p1) fun e=>
 ab pg d c (aT 182 1 3 3 e) fun g=>
 eC pg R d c true 235 #[p0,g] fun _ h i=>
 (ax pg i h (aP p1) fun j=>
 ab pg i h (aT 182 2 6 1 j) fun k=>
 ab pg i h (cz (eS 283) #[p0] #[]) fun l=>
 eC pg R i h true 282 #[p0,k,l] fun _ m n=>
 (ax pg n m (aP p1) fun o=>
 ab pg n m (aT 182 3 7 1 o) fun q=>
 ab pg n m (cz (eS 238) #[p0] #[]) fun r=>
 eC pg R n m true 237 #[p0,q,r] fun _ s t=>
 fin R t s (aJ #[]))))
def Aa (p0 p1 p2:Value):Prop:=
 ax pg X0 w0 (aP p1) fun a=>
 ab pg X0 w0 (ld1 38 a) fun b=>
 ab pg X0 w0 (cp 38 3 b) fun c=>
 ((jn (fun (d:Value) (e:World) (g:XS)=>
 (gg g e (I 0) 39 fun h i j k l=>
 ab pg l k (binOp .lss 3 j d) fun m=>
 (au m
 ((((jn (fun (n:World) (o:XS)=>
 ax pg o n (aP p1) fun q=>
 ab pg o n (ld1 38 q) fun r=>
 ab pg o n (cA 38 1 r j) fun s=>
 eF pg R o n true p2 #[s] fun _ t v=>
 ((ab pg v t (binOp .add 3 j (I 1)) fun y=>
 fY h i y t v))) fun z=>
 ax pg l k (aP p0) fun A=>
 ab pg l k (aT 293 0 0 1 A) fun C=>
 ab pg l k (ld1 201 C) fun D=>
 ab pg l k (aF .eql 201 (.tmp 45) (.const (.pointer none)) D (.pointer none)) fun E=>
 (au E
 ((ax pg l k (aP p1) fun F=>
 ab pg l k (ld1 38 F) fun G=>
 eV pg R l k true (gG 38 3 1 1 #[(0,(I 0))]) fun H L M=>
 eV pg R M L true (ga 38 3 1 8 38 G H) fun N O Q=>
 ax pg Q O (aP p1) fun S=>
 eU pg R Q O true (st1 38 1 S N) fun _ T U=>
 (z T U)))
 (z k l))))))
 (fin R l k (aJ #[]))))) fun V=>
 ax pg X0 w0 (aP p0) fun Y=>
 ab pg X0 w0 (aT 293 0 0 1 Y) fun Z=>
 ab pg X0 w0 (ld1 201 Z) fun a0=>
 ab pg X0 w0 (aF .neq 201 (.tmp 16) (.const (.pointer none)) a0 (.pointer none)) fun b0=>
 (au b0
 (ax pg X0 w0 (aP p0) fun c0=>
 ab pg X0 w0 (aT 293 0 0 1 c0) fun d0=>
 ab pg X0 w0 (ld1 201 d0) fun e0=>
 eC pg R X0 w0 true 113 #[e0,c] fun _ g0 h0=>
 (V c g0 h0))
 (ax pg X0 w0 (aP p0) fun i0=>
 ab pg X0 w0 (aT 293 1 1 1 i0) fun j0=>
 ab pg X0 w0 (ld1 138 j0) fun k0=>
 ax pg X0 w0 (aP p0) fun l0=>
 ab pg X0 w0 (aT 293 1 1 1 l0) fun m0=>
 ab pg X0 w0 (ld1 138 m0) fun n0=>
 eC pg R X0 w0 false 284 #[n0] fun o0 q0 r0=>
 eC pg R r0 q0 true 63 #[k0,o0] fun s0 t0 v0=>
 (eC pg R v0 t0 true 277 #[p0] fun _ y0 z0=>
 (ax pg z0 y0 (aP p1) fun A0=>
 eU pg R z0 y0 true (st1 38 1 A0 (.slice none 0 0)) fun _ C0 D0=>
 (V s0 C0 D0)))))))
def zn (p0 p1:Value):Prop:=
 ax pg X0 w0 (aP p1) fun a=>
 ab pg X0 w0 (aT 32 0 0 1 a) fun b=>
 eC pg R X0 w0 true 229 #[p0,b] fun _ c d=>
 (ax pg d c (aP p1) fun e=>
 ab pg d c (aT 32 1 1 1 e) fun g=>
 eC pg R d c true 229 #[p0,g] fun _ h i=>
 (ax pg i h (aP p1) fun j=>
 ab pg i h (aT 32 2 2 1 j) fun k=>
 eC pg R i h true 229 #[p0,k] fun _ l m=>
 fin R m l (aJ #[])))
def xX (p0 p1:Value):Prop:=
 ax pg X0 w0 (aP p0) fun a=>
 ab pg X0 w0 (aT 293 0 0 1 a) fun b=>
 ab pg X0 w0 (ld1 201 b) fun c=>
 ab pg X0 w0 (aF .neq 201 (.tmp 7) (.const (.pointer none)) c (.pointer none)) fun d=>
 (au d
 (ax pg X0 w0 (aP p0) fun e=>
 ab pg X0 w0 (aT 293 0 0 1 e) fun g=>
 ab pg X0 w0 (ld1 201 g) fun h=>
 ax pg X0 w0 (aP p1) fun i=>
 ab pg X0 w0 (ld1 4 i) fun j=>
 eC pg R X0 w0 true 285 #[h,j] fun _ k l=>
 (fin R l k (aJ #[])))
 ((ax pg X0 w0 (aP p0) fun m=>
 ab pg X0 w0 (aT 293 1 1 1 m) fun n=>
 ab pg X0 w0 (ld1 138 n) fun o=>
 eC pg R X0 w0 true 286 #[o] fun q r s=>
 ax pg s r (aP p1) fun t=>
 eU pg R s r true (st1 4 1 t q) fun _ v y=>
 (eC pg R y v true 277 #[p0] fun _ z A=>
 fin R A z (aJ #[])))))
def wH (p0 p1:Value):Prop:=
 ax pg X0 w0 (aP p1) fun a=>
 ab pg X0 w0 (aT 34 0 0 1 a) fun b=>
 eC pg R X0 w0 true 229 #[p0,b] fun _ c d=>
 (ax pg d c (aP p1) fun e=>
 ab pg d c (aT 34 1 1 1 e) fun g=>
 eC pg R d c true 229 #[p0,g] fun _ h i=>
 (ax pg i h (aP p1) fun j=>
 ab pg i h (aT 34 2 2 1 j) fun k=>
 eC pg R i h true 229 #[p0,k] fun _ l m=>
 fin R m l (aJ #[])))
def wK (p0 p1:Value):Prop:=
 ax pg X0 w0 (aP p0) fun a=>
 ab pg X0 w0 (aT 293 0 0 1 a) fun b=>
 ab pg X0 w0 (ld1 201 b) fun c=>
 ab pg X0 w0 (aF .neq 201 (.tmp 7) (.const (.pointer none)) c (.pointer none)) fun d=>
 (au d
 (ax pg X0 w0 (aP p0) fun e=>
 ab pg X0 w0 (aT 293 0 0 1 e) fun g=>
 ab pg X0 w0 (ld1 201 g) fun h=>
 ax pg X0 w0 (aP p1) fun i=>
 ab pg X0 w0 (ld1 41 i) fun j=>
 eC pg R X0 w0 true 287 #[h,j] fun _ k l=>
 (fin R l k (aJ #[])))
 ((ax pg X0 w0 (aP p0) fun m=>
 ab pg X0 w0 (aT 293 1 1 1 m) fun n=>
 ab pg X0 w0 (ld1 138 n) fun o=>
 eC pg R X0 w0 true 288 #[o] fun q r s=>
 ax pg s r (aP p1) fun t=>
 eU pg R s r true (st1 41 1 t q) fun _ v y=>
 (eC pg R y v true 277 #[p0] fun _ z A=>
 fin R A z (aJ #[])))))
def tL (p0 p1 p2:Value):Prop:=
 ax pg X0 w0 (aP p1) fun a=>
 ab pg X0 w0 (ld1 37 a) fun b=>
 ab pg X0 w0 (cp 37 3 b) fun c=>
 ((jn (fun (d:Value) (e:World) (g:XS)=>
 (gg g e (I 0) 39 fun h i j k l=>
 ab pg l k (binOp .lss 3 j d) fun m=>
 (au m
 ((((jn (fun (n:World) (o:XS)=>
 ax pg o n (aP p1) fun q=>
 ab pg o n (ld1 37 q) fun r=>
 ab pg o n (cA 37 4 r j) fun s=>
 eF pg R o n true p2 #[s] fun _ t v=>
 ((ab pg v t (binOp .add 3 j (I 1)) fun y=>
 fY h i y t v))) fun z=>
 ax pg l k (aP p0) fun A=>
 ab pg l k (aT 293 0 0 1 A) fun C=>
 ab pg l k (ld1 201 C) fun D=>
 ab pg l k (aF .eql 201 (.tmp 45) (.const (.pointer none)) D (.pointer none)) fun E=>
 (au E
 ((ax pg l k (aP p1) fun F=>
 ab pg l k (ld1 37 F) fun G=>
 eV pg R l k false (gG 37 118 4 1 #[(0,(.agg #[(.string { data:= #[] }),(I 0),(.float .f64 0),(.string { data:= #[] })]))]) fun H L M=>
 eV pg R M L true (ga 37 118 4 48 37 G H) fun N O Q=>
 ax pg Q O (aP p1) fun S=>
 eU pg R Q O true (st1 37 1 S N) fun _ T U=>
 (z T U)))
 (z k l))))))
 (fin R l k (aJ #[]))))) fun V=>
 ax pg X0 w0 (aP p0) fun Y=>
 ab pg X0 w0 (aT 293 0 0 1 Y) fun Z=>
 ab pg X0 w0 (ld1 201 Z) fun a0=>
 ab pg X0 w0 (aF .neq 201 (.tmp 16) (.const (.pointer none)) a0 (.pointer none)) fun b0=>
 (au b0
 (ax pg X0 w0 (aP p0) fun c0=>
 ab pg X0 w0 (aT 293 0 0 1 c0) fun d0=>
 ab pg X0 w0 (ld1 201 d0) fun e0=>
 eC pg R X0 w0 true 113 #[e0,c] fun _ g0 h0=>
 (V c g0 h0))
 (ax pg X0 w0 (aP p0) fun i0=>
 ab pg X0 w0 (aT 293 1 1 1 i0) fun j0=>
 ab pg X0 w0 (ld1 138 j0) fun k0=>
 ax pg X0 w0 (aP p0) fun l0=>
 ab pg X0 w0 (aT 293 1 1 1 l0) fun m0=>
 ab pg X0 w0 (ld1 138 m0) fun n0=>
 eC pg R X0 w0 false 284 #[n0] fun o0 q0 r0=>
 eC pg R r0 q0 true 63 #[k0,o0] fun s0 t0 v0=>
 (eC pg R v0 t0 true 277 #[p0] fun _ y0 z0=>
 (ax pg z0 y0 (aP p1) fun A0=>
 eU pg R z0 y0 true (st1 37 1 A0 (.slice none 0 0)) fun _ C0 D0=>
 (V s0 C0 D0)))))))
def wJ (p0 p1:Value):Prop:=
 ax pg X0 w0 (aP p1) fun a=>
 ab pg X0 w0 (aT 118 0 0 1 a) fun b=>
 eC pg R X0 w0 true 283 #[p0,b] fun _ c d=>
 (ax pg d c (aP p1) fun e=>
 ab pg d c (aT 118 1 1 3 e) fun g=>
 eC pg R d c true 289 #[p0,g] fun _ h i=>
 fin R i h (aJ #[]))
def uq (p0 p1 p2:Value):Prop:=
 ax pg X0 w0 (aP p1) fun a=>
 ab pg X0 w0 (ld1 71 a) fun b=>
 ab pg X0 w0 (cp 71 3 b) fun c=>
 ((jn (fun (d:Value) (e:World) (g:XS)=>
 (gg g e (I 0) 39 fun h i j k l=>
 ab pg l k (binOp .lss 3 j d) fun m=>
 (au m
 ((((jn (fun (n:World) (o:XS)=>
 ax pg o n (aP p1) fun q=>
 ab pg o n (ld1 71 q) fun r=>
 ab pg o n (cA 71 4 r j) fun s=>
 eF pg R o n true p2 #[s] fun _ t v=>
 ((ab pg v t (binOp .add 3 j (I 1)) fun y=>
 fY h i y t v))) fun z=>
 ax pg l k (aP p0) fun A=>
 ab pg l k (aT 293 0 0 1 A) fun C=>
 ab pg l k (ld1 201 C) fun D=>
 ab pg l k (aF .eql 201 (.tmp 45) (.const (.pointer none)) D (.pointer none)) fun E=>
 (au E
 ((ax pg l k (aP p1) fun F=>
 ab pg l k (ld1 71 F) fun G=>
 eV pg R l k false (gG 71 205 4 1 #[(0,(.agg #[(.string { data:= #[] }),(I 0),(.float .f64 0),(.string { data:= #[] })]))]) fun H L M=>
 eV pg R M L true (ga 71 205 4 48 71 G H) fun N O Q=>
 ax pg Q O (aP p1) fun S=>
 eU pg R Q O true (st1 71 1 S N) fun _ T U=>
 (z T U)))
 (z k l))))))
 (fin R l k (aJ #[]))))) fun V=>
 ax pg X0 w0 (aP p0) fun Y=>
 ab pg X0 w0 (aT 293 0 0 1 Y) fun Z=>
 ab pg X0 w0 (ld1 201 Z) fun a0=>
 ab pg X0 w0 (aF .neq 201 (.tmp 16) (.const (.pointer none)) a0 (.pointer none)) fun b0=>
 (au b0
 (ax pg X0 w0 (aP p0) fun c0=>
 ab pg X0 w0 (aT 293 0 0 1 c0) fun d0=>
 ab pg X0 w0 (ld1 201 d0) fun e0=>
 eC pg R X0 w0 true 113 #[e0,c] fun _ g0 h0=>
 (V c g0 h0))
 (ax pg X0 w0 (aP p0) fun i0=>
 ab pg X0 w0 (aT 293 1 1 1 i0) fun j0=>
 ab pg X0 w0 (ld1 138 j0) fun k0=>
 ax pg X0 w0 (aP p0) fun l0=>
 ab pg X0 w0 (aT 293 1 1 1 l0) fun m0=>
 ab pg X0 w0 (ld1 138 m0) fun n0=>
 eC pg R X0 w0 false 284 #[n0] fun o0 q0 r0=>
 eC pg R r0 q0 true 63 #[k0,o0] fun s0 t0 v0=>
 (eC pg R v0 t0 true 277 #[p0] fun _ y0 z0=>
 (ax pg z0 y0 (aP p1) fun A0=>
 eU pg R z0 y0 true (st1 71 1 A0 (.slice none 0 0)) fun _ C0 D0=>
 (V s0 C0 D0)))))))
def xW (p0 p1:Value):Prop:=
 ax pg X0 w0 (aP p1) fun a=>
 ab pg X0 w0 (aT 205 0 0 1 a) fun b=>
 eC pg R X0 w0 true 283 #[p0,b] fun _ c d=>
 (ax pg d c (aP p1) fun e=>
 ab pg d c (aT 205 1 1 3 e) fun g=>
 eC pg R d c true 289 #[p0,g] fun _ h i=>
 fin R i h (aJ #[]))
noncomputable def U7:bu:=⟨36,[],[],[0,2,3,4,5,6,14,21,24,27,32],[17,18,19],[]⟩
def IT (p0:Nat):Prop:=
 (eC pg R X0 w0 true 228 #[(.float .f64 p0)] fun a b c=>
 (ab pg c b (binOp .shr 208 a (aZ bz 52)) fun d=>
 ab pg c b (binOp .and 208 d (aZ bz 2047)) fun e=>
 ab pg c b (binOp .and 208 a (aZ bz 4503599627370495)) fun g=>
 (((jn (fun (h:Value)=>
 (ab pg c b (binOp .and 208 a (aZ bz 9223372036854775808)) fun i=>
 ab pg c b (aF .neq 208 (.tmp 31) (.const (aZ bz 0)) i (aZ bz 0)) fun j=>
 (au j
 (ab pg c b (binOp .sub 3 (I 9) h) fun k=>
 (fin R c b k))
 (fin R c b h)))) fun l=>
 ab pg c b (aF .eql 208 (.tmp 15) (.const (aZ bz 2047)) e (aZ bz 2047)) fun m=>
 un (aB m true g) fun n=>
 ay pg c b m true (vS (aF .neq 208 (.tmp 18) (.const (aZ bz 0)) n (aZ bz 0))) fun o=>
 ax pg c b (aM m o (B false)) fun q=>
 (au q
 (fin R c b (I 0))
 (ab pg c b (aF .eql 208 (.tmp 22) (.const (aZ bz 2047)) e (aZ bz 2047)) fun r=>
 (au r
 (l (I 8))
 (ab pg c b (binOp .gtr 208 e (aZ bz 0)) fun s=>
 (au s
 (l (I 7))
 (ab pg c b (binOp .gtr 208 g (aZ bz 0)) fun t=>
 (au t
 (l (I 6))
 (l (I 5))))))))))))))
noncomputable def Pn:bu:=⟨9,[(2,(pg.cellsOf 182))],[5],[0,1,3,4],[],[]⟩
def Ew (_p0_0 _p0_1 _p0_2 _p0_3 _p0_4 _p0_5:Int) (_p0_6 bV:Value) (p1:ByteArray):Prop:=
 eV pg R X0 w0 true (cL 9 (.string p1)) fun a b c=>
 (ab pg c b (cz (eS 290) #[] #[a]) fun d=>
 eC pg R c b true 252 #[bV,d] fun e g h=>
 (fin R h g e))
noncomputable def FL:bu:=⟨9,[(4,(pg.cellsOf 166))],[],[0,1],[],[]⟩
def xL (p0:Value) (p1:ByteArray):Prop:=
 (ab pg X0 w0 (ea 34 #[(I 0),(I 0),(I 0)] #[]) fun a=>
 eC pg R X0 w0 true 291 #[p0,(.string p1),a,(B true)] fun b c d=>
 un (ak (aa b)) fun e=>
 aI (aq (ad (aa b))==7) (aI (av (ad (aa b)) bB.one) (un (cj e 0 7) fun g=>
 aI (av [e] cu) (fin R d c g))))
noncomputable def Ki:bu:=⟨51,[(1,(pg.cellsOf 47))],[3,4,8,9,14,15,21,22,28,34,40,46],[0,2],[7,10,11,13,16,17,18,20,23,24,25,27,29,30,31,33,35,36,37,39,41,42,43,45,47,48,49],[]⟩
def AE (aQ aV:Int) (aW bq:Nat) (bG bJ bM bV cD cV:Int) (cg bZ:Value):Prop:=
 (ab pg X0 w0 (aF .eql 3 (.tmp 5) (.const (I 0)) (I aQ) (I 0)) fun a=>
 un (aB a true (I aV)) fun b=>
 ay pg X0 w0 a true (vS (aF .eql 3 (.tmp 10) (.const (I 0)) b (I 0))) fun c=>
 ax pg X0 w0 (aM a c (B false)) fun d=>
 un (aB d true (.float .f64 aW)) fun e=>
 jn (fun (g:Value) (h:World) (i:XS)=>
 ay pg i h d true (vS (aF .eql 208 (.tmp 17) (.const (aZ bz 0)) g (aZ bz 0))) fun j=>
 ax pg i h (aM d j (B false)) fun k=>
 un (aB k true (.float .f64 bq)) fun l=>
 jn (fun (m:Value) (n:World) (o:XS)=>
 ay pg o n k true (vS (aF .eql 208 (.tmp 24) (.const (aZ bz 0)) m (aZ bz 0))) fun q=>
 ax pg o n (aM k q (B false)) fun r=>
 un (aB r true (.agg #[(I bG),(I bJ),(I bM)])) fun s=>
 ay pg o n r true (vS (ea 34 #[(I 0),(I 0),(I 0)] #[])) fun t=>
 ay pg o n r true (vS (aF .eql 34 (.tmp 29) (.tmp 30) s t)) fun v=>
 ax pg o n (aM r v (B false)) fun y=>
 un (aB y true (.agg #[(I bV),(I cD),(I cV)])) fun z=>
 ay pg o n y true (vS (ea 34 #[(I 0),(I 0),(I 0)] #[])) fun A=>
 ay pg o n y true (vS (aF .eql 34 (.tmp 35) (.tmp 36) z A)) fun C=>
 ax pg o n (aM y C (B false)) fun D=>
 un (aB D true cg) fun E=>
 ay pg o n D true (vS (cp 44 3 E)) fun F=>
 ay pg o n D true (vS (aF .eql 3 (.tmp 42) (.const (I 0)) F (I 0))) fun G=>
 ax pg o n (aM D G (B false)) fun H=>
 un (aB H true bZ) fun L=>
 ay pg o n H true (vS (cp 45 3 L)) fun M=>
 ay pg o n H true (vS (aF .eql 3 (.tmp 48) (.const (I 0)) M (I 0))) fun N=>
 ax pg o n (aM H N (B false)) fun O=>
 (fin R o n O)) fun Q=>
 (gE k true (eC pg R i h true 118 #[l] Q) (Q undef h i))) fun S=>
 (gE d true (eC pg R X0 w0 true 118 #[e] S) (S undef w0 X0)))
noncomputable def NY:bu:=⟨11,[(3,(pg.cellsOf 34))],[],[0,1,4,5],[],[]⟩
def C4 (p0:Bool) (bS bY bW:Int):Prop:=
 ((au (B p0)
 (eC pg R X0 w0 true 248 #[(.agg #[(I bS),(I bY),(I bW)])] fun a b c=>
 (fin R c b a))
 ((ab pg X0 w0 (ea 34 #[(I 0),(I 0),(I 0)] #[]) fun d=>
 ab pg X0 w0 (aF .eql 34 (.tmp 8) (.tmp 9) (.agg #[(I bS),(I bY),(I bW)]) d) fun e=>
 (fin R X0 w0 e)))))
noncomputable def Po:bu:=⟨13,[],[],[0,2,3,4,8],[],[]⟩
def Ey (p0:Nat):Prop:=
 (eC pg R X0 w0 true 241 #[(.float .f64 p0)] fun a b c=>
 ab pg c b (aF .eql 3 (.tmp 6) (.const (I 4)) a (I 4)) fun d=>
 (au d
 ((fin R c b (aJ #[(.float .f64 0),(I 0)])))
 (eC pg R c b true 198 #[(.float .f64 p0)] fun e g h=>
 ab pg h g (aU bh e) fun i=>
 (au i
 ((fin R h g (aJ #[(.float .f64 0),(I 1)])))
 ((((fin R h g (aJ #[(.float .f64 p0),(I 0)])))))))))
noncomputable def Pp:bu:=⟨9,[],[],[0,2],[5,6,7],[]⟩
def Ez (p0:Int):Prop:=
 (ab pg X0 w0 (binOp .geq 3 (I p0) (I 1)) fun a=>
 un (aB a true (I p0)) fun b=>
 ay pg X0 w0 a true (vS (binOp .leq 3 b (I 12))) fun c=>
 ax pg X0 w0 (aM a c (B false)) fun d=>
 (fin R X0 w0 d))
noncomputable def Pq:bu:=⟨10,[(1,(pg.cellsOf 34))],[],[0,2],[5,6,7,8],[]⟩
def EA (aQ aV aW:Int):Prop:=
 (eC pg R X0 w0 true 57 #[(.agg #[(I aQ),(I aV),(I aW)])] fun a b c=>
 un (aB a true (.agg #[(I aQ),(I aV),(I aW)])) fun d=>
 ay pg c b a true (vS (ea 34 #[(I 0),(I 0),(I 0)] #[])) fun e=>
 ay pg c b a true (vS (aF .neq 34 (.tmp 6) (.tmp 7) d e)) fun g=>
 ax pg c b (aM a g (B false)) fun h=>
 (fin R c b h))
def GF (p0:Value):Prop:=
 (ab pg X0 w0 (cp 71 3 p0) fun a=>
 (gg X0 w0 (I 0) 7 fun b c d e g=>
 ab pg g e (binOp .lss 3 d a) fun h=>
 (au h
 ((ab pg g e (cA 71 4 p0 d) fun i=>
 ab pg g e (ek 205 4 i) fun j=>
 un (ak (aa j)) fun k=>
 aI (aq (ad (aa j))==4) (aI (av (ad (aa j)) bB.one) ((aI (cu k) (un (cellOf k 0) fun l=>
 eC pg R g e true 194 #[l] fun m n o=>
 ab pg o n (aU bh m) fun q=>
 un (aB q false d) fun r=>
 ay pg o n q false (vS (binOp .gtr 3 r (I 0))) fun s=>
 un (aB q false s) fun t=>
 un (aB t true p0) fun v=>
 un (aB t true d) fun y=>
 ay pg o n t true (vS (binOp .sub 3 y (I 1))) fun z=>
 ay pg o n t true (vS (cA 71 4 v z)) fun A=>
 ay pg o n t true (vS (aT 205 0 0 1 A)) fun C=>
 ay pg o n t true (vS (ld1 9 C)) fun D=>
 un (aB t true l) fun E=>
 ay pg o n t true (vS (binOp .geq 9 D E)) fun F=>
 ay pg o n q false (aM t F (B false)) fun G=>
 ax pg o n (aM q (B true) G) fun H=>
 un (cj k 1 3) fun L=>
 un (aB H false L) fun M=>
 jn (fun (N:Value) (O:World) (Q:XS)=>
 ay pg Q O H false (vS (aU bh N)) fun S=>
 ax pg Q O (aM H (B true) S) fun T=>
 un (cellOf k 1) fun U=>
 un (aB T false U) fun V=>
 ay pg Q O T false (vS (aF .eql 3 (.tmp 40) (.const (I 0)) V (I 0))) fun Y=>
 ax pg Q O (aM T (B true) Y) fun Z=>
 (au Z
 (fin R Q O (B false))
 (((ab pg Q O (binOp .add 3 d (I 1)) fun a0=>
 fY b c a0 O Q))))) fun b0=>
 (gE H false (eC pg R o n true 196 #[M] b0) (b0 undef n o))))))))
 (fin R g e (B true)))))
def iR (p0 p1:Value):Prop:=
 (eC pg R X0 w0 true 292 #[p0,p1] fun a b c=>
 ab pg c b (binOp .geq 3 a (I 0)) fun d=>
 (fin R c b d))
noncomputable def He:bu:=⟨15,[(3,(pg.cellsOf 156))],[5,10],[0,1,2,4],[9,11,12,13],[]⟩
def x5 (aQ _p0_1 aW bq bG _p0_5 _p0_6 _p0_7:Int) (_p0_8 c0 c1:Value):Prop:=
 (ab pg X0 w0 (ld1 3 c0) fun a=>
 ab pg X0 w0 (aF .eql 3 (.tmp 6) (.tmp 7) (I aQ) a) fun b=>
 un (aB b true (.agg #[(I aW),(I bq),(I bG)])) fun c=>
 ay pg X0 w0 b true (vS (ek 32 3 c1)) fun d=>
 ay pg X0 w0 b true (vS (aF .eql 32 (.tmp 11) (.tmp 12) c d)) fun e=>
 ax pg X0 w0 (aM b e (B false)) fun g=>
 (fin R X0 w0 g))
def jJ (p0 p1:Value):Prop:=
 (eC pg R X0 w0 true 293 #[p0,p1] fun a b c=>
 ab pg c b (binOp .geq 3 a (I 0)) fun d=>
 (fin R c b d))
noncomputable def NZ:bu:=⟨7,[],[],[0,1,2,3],[],[]⟩
def CG (aQ:ByteArray) (aV:Int) (aW:Nat) (bq:ByteArray) (c0:Value):Prop:=
 eV pg R X0 w0 true (cL 118 (.agg #[(.string aQ),(I aV),(.float .f64 aW),(.string bq)])) fun a b c=>
 (ab pg c b (ld1 37 c0) fun d=>
 ab pg c b (cz (eS 254) #[] #[a]) fun e=>
 eC pg R c b true 252 #[d,e] fun g h i=>
 (fin R i h g))
noncomputable def IU:bu:=⟨9,[(2,(pg.cellsOf 118))],[6],[0,1,3],[],[]⟩
def zt (aQ:ByteArray) (_p0_1:Int) (_p0_2:Nat) (_p0_3:ByteArray) (c0:Value):Prop:=
 (ab pg X0 w0 (aT 118 0 0 1 c0) fun a=>
 ab pg X0 w0 (ld1 9 a) fun b=>
 ab pg X0 w0 (aF .eql 9 (.tmp 5) (.tmp 7) b (.string aQ)) fun c=>
 (fin R X0 w0 c))
noncomputable def U8:bu:=⟨8,[],[],[0,2,5],[],[]⟩
def IV (p0:Nat):Prop:=
 (ab pg X0 w0 (aF .neq 41 (.tmp 3) (.tmp 4) (.float .f64 p0) (.float .f64 p0)) fun a=>
 (au a
 (eC pg R X0 w0 true 302 #[(aZ bz 9221120237041090560)] fun b c d=>
 (fin R d c b))
 (fin R X0 w0 (.float .f64 p0))))
def wL (p0 p1:Value):Prop:=
 ax pg X0 w0 (aP p1) fun a=>
 ab pg X0 w0 (aT 43 0 0 1 a) fun b=>
 eC pg R X0 w0 true 229 #[p0,b] fun _ c d=>
 (ax pg d c (aP p1) fun e=>
 ab pg d c (aT 43 1 1 1 e) fun g=>
 eC pg R d c true 229 #[p0,g] fun _ h i=>
 (ax pg i h (aP p1) fun j=>
 ab pg i h (aT 43 2 2 1 j) fun k=>
 eC pg R i h true 236 #[p0,k] fun _ l m=>
 (ax pg m l (aP p1) fun n=>
 ab pg m l (aT 43 3 3 1 n) fun o=>
 eC pg R m l true 236 #[p0,o] fun _ q r=>
 fin R r q (aJ #[]))))
def sm (p0 p1 p2:Value):Prop:=
 ax pg X0 w0 (aP p1) fun a=>
 ab pg X0 w0 (ld1 44 a) fun b=>
 ab pg X0 w0 (cp 44 3 b) fun c=>
 ((jn (fun (d:Value) (e:World) (g:XS)=>
 (gg g e (I 0) 39 fun h i j k l=>
 ab pg l k (binOp .lss 3 j d) fun m=>
 (au m
 ((((jn (fun (n:World) (o:XS)=>
 ax pg o n (aP p1) fun q=>
 ab pg o n (ld1 44 q) fun r=>
 ab pg o n (cA 44 2 r j) fun s=>
 eF pg R o n true p2 #[s] fun _ t v=>
 ((ab pg v t (binOp .add 3 j (I 1)) fun y=>
 fY h i y t v))) fun z=>
 ax pg l k (aP p0) fun A=>
 ab pg l k (aT 293 0 0 1 A) fun C=>
 ab pg l k (ld1 201 C) fun D=>
 ab pg l k (aF .eql 201 (.tmp 45) (.const (.pointer none)) D (.pointer none)) fun E=>
 (au E
 ((ax pg l k (aP p1) fun F=>
 ab pg l k (ld1 44 F) fun G=>
 eV pg R l k false (gG 44 225 2 1 #[(0,(.agg #[(.string { data:= #[] }),(.slice none 0 0)]))]) fun H L M=>
 eV pg R M L true (ga 44 225 2 40 44 G H) fun N O Q=>
 ax pg Q O (aP p1) fun S=>
 eU pg R Q O true (st1 44 1 S N) fun _ T U=>
 (z T U)))
 (z k l))))))
 (fin R l k (aJ #[]))))) fun V=>
 ax pg X0 w0 (aP p0) fun Y=>
 ab pg X0 w0 (aT 293 0 0 1 Y) fun Z=>
 ab pg X0 w0 (ld1 201 Z) fun a0=>
 ab pg X0 w0 (aF .neq 201 (.tmp 16) (.const (.pointer none)) a0 (.pointer none)) fun b0=>
 (au b0
 (ax pg X0 w0 (aP p0) fun c0=>
 ab pg X0 w0 (aT 293 0 0 1 c0) fun d0=>
 ab pg X0 w0 (ld1 201 d0) fun e0=>
 eC pg R X0 w0 true 113 #[e0,c] fun _ g0 h0=>
 (V c g0 h0))
 (ax pg X0 w0 (aP p0) fun i0=>
 ab pg X0 w0 (aT 293 1 1 1 i0) fun j0=>
 ab pg X0 w0 (ld1 138 j0) fun k0=>
 ax pg X0 w0 (aP p0) fun l0=>
 ab pg X0 w0 (aT 293 1 1 1 l0) fun m0=>
 ab pg X0 w0 (ld1 138 m0) fun n0=>
 eC pg R X0 w0 false 284 #[n0] fun o0 q0 r0=>
 eC pg R r0 q0 true 63 #[k0,o0] fun s0 t0 v0=>
 (eC pg R v0 t0 true 277 #[p0] fun _ y0 z0=>
 (ax pg z0 y0 (aP p1) fun A0=>
 eU pg R z0 y0 true (st1 44 1 A0 (.slice none 0 0)) fun _ C0 D0=>
 (V s0 C0 D0)))))))
def uu (p0 p1:Value):Prop:=
 ax pg X0 w0 (aP p1) fun a=>
 ab pg X0 w0 (aT 225 0 0 1 a) fun b=>
 eC pg R X0 w0 true 283 #[p0,b] fun _ c d=>
 (ax pg d c (aP p1) fun e=>
 ab pg d c (aT 225 1 1 1 e) fun g=>
 ab pg d c (cz (eS 304) #[p0] #[]) fun h=>
 eC pg R d c true 303 #[p0,g,h] fun _ i j=>
 fin R j i (aJ #[]))
def so (p0 p1 p2:Value):Prop:=
 ax pg X0 w0 (aP p1) fun a=>
 ab pg X0 w0 (ld1 45 a) fun b=>
 ab pg X0 w0 (cp 45 3 b) fun c=>
 ((jn (fun (d:Value) (e:World) (g:XS)=>
 (gg g e (I 0) 39 fun h i j k l=>
 ab pg l k (binOp .lss 3 j d) fun m=>
 (au m
 ((((jn (fun (n:World) (o:XS)=>
 ax pg o n (aP p1) fun q=>
 ab pg o n (ld1 45 q) fun r=>
 ab pg o n (cA 45 8 r j) fun s=>
 eF pg R o n true p2 #[s] fun _ t v=>
 ((ab pg v t (binOp .add 3 j (I 1)) fun y=>
 fY h i y t v))) fun z=>
 ax pg l k (aP p0) fun A=>
 ab pg l k (aT 293 0 0 1 A) fun C=>
 ab pg l k (ld1 201 C) fun D=>
 ab pg l k (aF .eql 201 (.tmp 45) (.const (.pointer none)) D (.pointer none)) fun E=>
 (au E
 ((ax pg l k (aP p1) fun F=>
 ab pg l k (ld1 45 F) fun G=>
 eV pg R l k false (gG 45 182 8 1 #[(0,(.agg #[(I 0),(I 0),(I 0),(I 0),(I 0),(I 0),(.slice none 0 0),(.slice none 0 0)]))]) fun H L M=>
 eV pg R M L true (ga 45 182 8 96 45 G H) fun N O Q=>
 ax pg Q O (aP p1) fun S=>
 eU pg R Q O true (st1 45 1 S N) fun _ T U=>
 (z T U)))
 (z k l))))))
 (fin R l k (aJ #[]))))) fun V=>
 ax pg X0 w0 (aP p0) fun Y=>
 ab pg X0 w0 (aT 293 0 0 1 Y) fun Z=>
 ab pg X0 w0 (ld1 201 Z) fun a0=>
 ab pg X0 w0 (aF .neq 201 (.tmp 16) (.const (.pointer none)) a0 (.pointer none)) fun b0=>
 (au b0
 (ax pg X0 w0 (aP p0) fun c0=>
 ab pg X0 w0 (aT 293 0 0 1 c0) fun d0=>
 ab pg X0 w0 (ld1 201 d0) fun e0=>
 eC pg R X0 w0 true 113 #[e0,c] fun _ g0 h0=>
 (V c g0 h0))
 (ax pg X0 w0 (aP p0) fun i0=>
 ab pg X0 w0 (aT 293 1 1 1 i0) fun j0=>
 ab pg X0 w0 (ld1 138 j0) fun k0=>
 ax pg X0 w0 (aP p0) fun l0=>
 ab pg X0 w0 (aT 293 1 1 1 l0) fun m0=>
 ab pg X0 w0 (ld1 138 m0) fun n0=>
 eC pg R X0 w0 false 284 #[n0] fun o0 q0 r0=>
 eC pg R r0 q0 true 63 #[k0,o0] fun s0 t0 v0=>
 (eC pg R v0 t0 true 277 #[p0] fun _ y0 z0=>
 (ax pg z0 y0 (aP p1) fun A0=>
 eU pg R z0 y0 true (st1 45 1 A0 (.slice none 0 0)) fun _ C0 D0=>
 (V s0 C0 D0)))))))
def wM (p0 p1 p2:Value):Prop:=
 ax pg X0 w0 (aP p1) fun a=>
 ab pg X0 w0 (ld1 35 a) fun b=>
 ab pg X0 w0 (cp 35 3 b) fun c=>
 ((jn (fun (d:Value) (e:World) (g:XS)=>
 (gg g e (I 0) 39 fun h i j k l=>
 ab pg l k (binOp .lss 3 j d) fun m=>
 (au m
 ((((jn (fun (n:World) (o:XS)=>
 ax pg o n (aP p1) fun q=>
 ab pg o n (ld1 35 q) fun r=>
 ab pg o n (cA 35 1 r j) fun s=>
 eF pg R o n true p2 #[s] fun _ t v=>
 ((ab pg v t (binOp .add 3 j (I 1)) fun y=>
 fY h i y t v))) fun z=>
 ax pg l k (aP p0) fun A=>
 ab pg l k (aT 293 0 0 1 A) fun C=>
 ab pg l k (ld1 201 C) fun D=>
 ab pg l k (aF .eql 201 (.tmp 45) (.const (.pointer none)) D (.pointer none)) fun E=>
 (au E
 ((ax pg l k (aP p1) fun F=>
 ab pg l k (ld1 35 F) fun G=>
 eV pg R l k true (gG 35 9 1 1 #[(0,(.string { data:= #[] }))]) fun H L M=>
 eV pg R M L true (ga 35 9 1 16 35 G H) fun N O Q=>
 ax pg Q O (aP p1) fun S=>
 eU pg R Q O true (st1 35 1 S N) fun _ T U=>
 (z T U)))
 (z k l))))))
 (fin R l k (aJ #[]))))) fun V=>
 ax pg X0 w0 (aP p0) fun Y=>
 ab pg X0 w0 (aT 293 0 0 1 Y) fun Z=>
 ab pg X0 w0 (ld1 201 Z) fun a0=>
 ab pg X0 w0 (aF .neq 201 (.tmp 16) (.const (.pointer none)) a0 (.pointer none)) fun b0=>
 (au b0
 (ax pg X0 w0 (aP p0) fun c0=>
 ab pg X0 w0 (aT 293 0 0 1 c0) fun d0=>
 ab pg X0 w0 (ld1 201 d0) fun e0=>
 eC pg R X0 w0 true 113 #[e0,c] fun _ g0 h0=>
 (V c g0 h0))
 (ax pg X0 w0 (aP p0) fun i0=>
 ab pg X0 w0 (aT 293 1 1 1 i0) fun j0=>
 ab pg X0 w0 (ld1 138 j0) fun k0=>
 ax pg X0 w0 (aP p0) fun l0=>
 ab pg X0 w0 (aT 293 1 1 1 l0) fun m0=>
 ab pg X0 w0 (ld1 138 m0) fun n0=>
 eC pg R X0 w0 false 284 #[n0] fun o0 q0 r0=>
 eC pg R r0 q0 true 63 #[k0,o0] fun s0 t0 v0=>
 (eC pg R v0 t0 true 277 #[p0] fun _ y0 z0=>
 (ax pg z0 y0 (aP p1) fun A0=>
 eU pg R z0 y0 true (st1 35 1 A0 (.slice none 0 0)) fun _ C0 D0=>
 (V s0 C0 D0)))))))
def xV (p0 p1:Value):Prop:=
 ax pg X0 w0 (aP p0) fun a=>
 ab pg X0 w0 (aT 293 0 0 1 a) fun b=>
 ab pg X0 w0 (ld1 201 b) fun c=>
 ab pg X0 w0 (aF .neq 201 (.tmp 7) (.const (.pointer none)) c (.pointer none)) fun d=>
 (au d
 (ax pg X0 w0 (aP p0) fun e=>
 ab pg X0 w0 (aT 293 0 0 1 e) fun g=>
 ab pg X0 w0 (ld1 201 g) fun h=>
 ax pg X0 w0 (aP p1) fun i=>
 ab pg X0 w0 (ld1 9 i) fun j=>
 eC pg R X0 w0 true 305 #[h,j] fun _ k l=>
 (fin R l k (aJ #[])))
 ((ax pg X0 w0 (aP p0) fun m=>
 ab pg X0 w0 (aT 293 1 1 1 m) fun n=>
 ab pg X0 w0 (ld1 138 n) fun o=>
 eC pg R X0 w0 true 306 #[o,(I 262144)] fun q r s=>
 ax pg s r (aP p1) fun t=>
 eU pg R s r true (st1 9 1 t q) fun _ v y=>
 (eC pg R y v true 277 #[p0] fun _ z A=>
 fin R A z (aJ #[])))))
noncomputable def Hf:bu:=⟨23,[],[],[0,1,4],[],[]⟩
def xU (p0:Value) (p1:Bool):Prop:=
 (au (B p1)
 (ax pg X0 w0 (aP p0) fun a=>
 ab pg X0 w0 (aT 247 0 0 1 a) fun b=>
 ab pg X0 w0 (ld1 132 b) fun c=>
 eV pg R X0 w0 true (gG 132 5 1 1 #[(0,(aZ gS 1))]) fun d e g=>
 eV pg R g e true (ga 132 5 1 1 132 c d) fun h i j=>
 ax pg j i (aP p0) fun k=>
 ab pg j i (aT 247 0 0 1 k) fun l=>
 eU pg R j i true (st1 132 1 l h) fun _ m n=>
 (fin R n m (aJ #[])))
 ((ax pg X0 w0 (aP p0) fun o=>
 ab pg X0 w0 (aT 247 0 0 1 o) fun q=>
 ab pg X0 w0 (ld1 132 q) fun r=>
 eV pg R X0 w0 true (gG 132 5 1 1 #[(0,(aZ gS 0))]) fun s t v=>
 eV pg R v t true (ga 132 5 1 1 132 r s) fun y z A=>
 ax pg A z (aP p0) fun C=>
 ab pg A z (aT 247 0 0 1 C) fun D=>
 eU pg R A z true (st1 132 1 D y) fun _ E F=>
 fin R F E (aJ #[]))))
noncomputable def FN:bu:=⟨23,[],[],[0,1,4,7,8],[],[4,7]⟩
def wE (p0:Value) (p1:Nat):Prop:=
 eC pg R X0 w0 true 228 #[(.float .f64 p1)] fun a b c=>
 ((ix c b (I 0) a 7 4 fun d e g h i j=>
 ab pg j i (binOp .lss 3 g (I 8)) fun k=>
 (au k
 ((ax pg j i (aP p0) fun l=>
 ab pg j i (aT 247 0 0 1 l) fun m=>
 ab pg j i (ld1 132 m) fun n=>
 ab pg j i (mF gS 208 5 h) fun o=>
 eV pg R j i true (gG 132 5 1 1 #[(0,o)]) fun q r s=>
 eV pg R s r true (ga 132 5 1 1 132 n q) fun t v y=>
 ax pg y v (aP p0) fun z=>
 ab pg y v (aT 247 0 0 1 z) fun A=>
 eU pg R y v true (st1 132 1 A t) fun _ C D=>
 (ab pg D C (binOp .shr 208 h (aZ bz 8)) fun E=>
 ((ab pg D C (binOp .add 3 g (I 1)) fun F=>
 iy d e F E C D)))))
 (fin R j i (aJ #[])))))
def wI (p0 p1:Value):Prop:=
 ax pg X0 w0 (aP p0) fun a=>
 ab pg X0 w0 (aT 293 0 0 1 a) fun b=>
 ab pg X0 w0 (ld1 201 b) fun c=>
 ab pg X0 w0 (aF .neq 201 (.tmp 7) (.const (.pointer none)) c (.pointer none)) fun d=>
 (au d
 (ax pg X0 w0 (aP p0) fun e=>
 ab pg X0 w0 (aT 293 0 0 1 e) fun g=>
 ab pg X0 w0 (ld1 201 g) fun h=>
 ax pg X0 w0 (aP p1) fun i=>
 ab pg X0 w0 (ek 116 3 i) fun j=>
 eC pg R X0 w0 true 308 #[h,j] fun _ k l=>
 (fin R l k (aJ #[])))
 ((ax pg X0 w0 (aP p0) fun m=>
 ab pg X0 w0 (aT 293 1 1 1 m) fun n=>
 ab pg X0 w0 (ld1 138 n) fun o=>
 eC pg R X0 w0 true 309 #[o] fun q r s=>
 ax pg s r (aP p1) fun t=>
 eU pg R s r true (st1 116 3 t q) fun _ v y=>
 (eC pg R y v true 277 #[p0] fun _ z A=>
 fin R A z (aJ #[])))))
noncomputable def Kj:bu:=⟨8,[(2,(pg.cellsOf 118))],[4],[0,1,3],[],[]⟩
def AF (aQ:ByteArray) (_p0_1:Int) (_p0_2:Nat) (_p0_3:ByteArray) (c0:Value):Prop:=
 (ab pg X0 w0 (ld1 9 c0) fun a=>
 ab pg X0 w0 (aF .eql 9 (.tmp 5) (.tmp 6) (.string aQ) a) fun b=>
 (fin R X0 w0 b))
noncomputable def FO:bu:=⟨41,[(6,(pg.cellsOf 34)),(8,(pg.cellsOf 166)),(9,(pg.cellsOf 166)),(11,(pg.cellsOf 227))],[27,33,35,37,38],[0,1,2,3,19,20,21,22,32],[26,28,29,30,31],[9,21]⟩
def xM (p0:Value) (p1:ByteArray) (gz gL gM:Int) (p3:Bool):Prop:=
 (ab pg X0 w0 (ea 166 #[(.string p1),(I 0),(.float .f64 0),(.string ⟨#[]⟩),(I 0),(I 0),(I 0)] #[(0,(.string p1))]) fun a=>
 un (ak (aa a)) fun b=>
 aI (aq (ad (aa a))==7) (aI (av (ad (aa a)) bB.one) ((ax pg X0 w0 (aP p0) fun c=>
 ab pg X0 w0 (aT 302 0 0 1 c) fun d=>
 ab pg X0 w0 (ld1 299 d) fun e=>
 ab pg X0 w0 (Instr.lookup 299 e (.string p1) false) fun g=>
 ab pg X0 w0 (cp 223 3 g) fun h=>
 (ix X0 w0 (I 0) b 21 9 fun i j k l m n=>
 ab pg n m (binOp .lss 3 k h) fun o=>
 (au o
 (((jn (fun (q:Value) (r:World) (s:XS)=>
 (ab pg s r (binOp .add 3 k (I 1)) fun t=>
 iy i j t q r s)) fun v=>
 ab pg n m (cA 223 6 g k) fun y=>
 ab pg n m (ek 227 6 y) fun z=>
 un (ak (aa z)) fun A=>
 aI (aq (ad (aa z))==6) (aI (av (ad (aa z)) bB.one) ((aI (cu A) (un (cj A 0 3) fun C=>
 un (aB (B p3) false C) fun D=>
 un (aB (B p3) false (.agg #[(I gz),(I gL),(I gM)])) fun E=>
 jn (fun (F:Value) (G:World) (H:XS)=>
 ay pg H G (B p3) false (vS (binOp .leq 3 F (I 0))) fun L=>
 ax pg H G (aM (B p3) (B true) L) fun M=>
 (au M
 (aI (cu A) (aI (cu l) (un (cj A 3 3) fun N=>
 un (ak (aS (cH (ad (aa l)) 1 (ad (aa N))))) fun O=>
 aI (aq (ad (aa N))==3) (aI (av (ad (aa N)) bB.one) (un (ak (aS (cH (ad (aa O)) 4 (ad (aa C))))) fun Q=>
 aI (aq (ad (aa C))==3) (aI (av (ad (aa C)) bB.one) (v Q G H)))))))
 (v l G H))) fun S=>
 (gE (B p3) false (eC pg R n m true 84 #[D,E] S) (S undef m n)))))))))
 (((aI (cu l) (un (cj l 0 7) fun T=>
 un (ak (aa T)) fun U=>
 aI (aq (ad (aa T))==7) (aI (av (ad (aa T)) bB.one) (un (cj U 0 7) fun V=>
 aI (av [U] cu) (fin R n m V)))))))))))))
def jh (p0 p1:Value):Prop:=
 (ab pg X0 w0 (cp 177 3 p0) fun a=>
 (gg X0 w0 (I 0) 8 fun b c d e g=>
 ab pg g e (binOp .lss 3 d a) fun h=>
 (au h
 (((ab pg g e (cA 177 9 p0 d) fun i=>
 ab pg g e (ek 156 9 i) fun j=>
 eF pg R g e true p1 #[j] fun k l m=>
 (au k
 (fin R m l d)
 (((ab pg m l (binOp .add 3 d (I 1)) fun n=>
 fY b c n l m)))))))
 ((((fin R g e (I (-1)))))))))
def kz (p0 p1:Value):Prop:=
 (ab pg X0 w0 (cp 37 3 p0) fun a=>
 (gg X0 w0 (I 0) 8 fun b c d e g=>
 ab pg g e (binOp .lss 3 d a) fun h=>
 (au h
 (((ab pg g e (cA 37 4 p0 d) fun i=>
 ab pg g e (ek 118 4 i) fun j=>
 eF pg R g e true p1 #[j] fun k l m=>
 (au k
 (fin R m l d)
 (((ab pg m l (binOp .add 3 d (I 1)) fun n=>
 fY b c n l m)))))))
 ((((fin R g e (I (-1)))))))))
def sk (p0 p1 p2:Value):Prop:=
 ax pg X0 w0 (aP p1) fun a=>
 ab pg X0 w0 (ld1 223 a) fun b=>
 ab pg X0 w0 (cp 223 3 b) fun c=>
 ((jn (fun (d:Value) (e:World) (g:XS)=>
 (gg g e (I 0) 39 fun h i j k l=>
 ab pg l k (binOp .lss 3 j d) fun m=>
 (au m
 ((((jn (fun (n:World) (o:XS)=>
 ax pg o n (aP p1) fun q=>
 ab pg o n (ld1 223 q) fun r=>
 ab pg o n (cA 223 6 r j) fun s=>
 eF pg R o n true p2 #[s] fun _ t v=>
 ((ab pg v t (binOp .add 3 j (I 1)) fun y=>
 fY h i y t v))) fun z=>
 ax pg l k (aP p0) fun A=>
 ab pg l k (aT 293 0 0 1 A) fun C=>
 ab pg l k (ld1 201 C) fun D=>
 ab pg l k (aF .eql 201 (.tmp 45) (.const (.pointer none)) D (.pointer none)) fun E=>
 (au E
 ((ax pg l k (aP p1) fun F=>
 ab pg l k (ld1 223 F) fun G=>
 eV pg R l k false (gG 223 227 6 1 #[(0,(.agg #[(I 0),(I 0),(I 0),(I 0),(.float .f64 0),(.string { data:= #[] })]))]) fun H L M=>
 eV pg R M L true (ga 223 227 6 56 223 G H) fun N O Q=>
 ax pg Q O (aP p1) fun S=>
 eU pg R Q O true (st1 223 1 S N) fun _ T U=>
 (z T U)))
 (z k l))))))
 (fin R l k (aJ #[]))))) fun V=>
 ax pg X0 w0 (aP p0) fun Y=>
 ab pg X0 w0 (aT 293 0 0 1 Y) fun Z=>
 ab pg X0 w0 (ld1 201 Z) fun a0=>
 ab pg X0 w0 (aF .neq 201 (.tmp 16) (.const (.pointer none)) a0 (.pointer none)) fun b0=>
 (au b0
 (ax pg X0 w0 (aP p0) fun c0=>
 ab pg X0 w0 (aT 293 0 0 1 c0) fun d0=>
 ab pg X0 w0 (ld1 201 d0) fun e0=>
 eC pg R X0 w0 true 113 #[e0,c] fun _ g0 h0=>
 (V c g0 h0))
 (ax pg X0 w0 (aP p0) fun i0=>
 ab pg X0 w0 (aT 293 1 1 1 i0) fun j0=>
 ab pg X0 w0 (ld1 138 j0) fun k0=>
 ax pg X0 w0 (aP p0) fun l0=>
 ab pg X0 w0 (aT 293 1 1 1 l0) fun m0=>
 ab pg X0 w0 (ld1 138 m0) fun n0=>
 eC pg R X0 w0 false 284 #[n0] fun o0 q0 r0=>
 eC pg R r0 q0 true 63 #[k0,o0] fun s0 t0 v0=>
 (eC pg R v0 t0 true 277 #[p0] fun _ y0 z0=>
 (ax pg z0 y0 (aP p1) fun A0=>
 eU pg R z0 y0 true (st1 223 1 A0 (.slice none 0 0)) fun _ C0 D0=>
 (V s0 C0 D0)))))))
def uo (p0 p1:Value):Prop:=
 ax pg X0 w0 (aP p1) fun a=>
 ab pg X0 w0 (aT 227 0 0 3 a) fun b=>
 eC pg R X0 w0 true 235 #[p0,b] fun _ c d=>
 (ax pg d c (aP p1) fun e=>
 ab pg d c (aT 227 1 3 3 e) fun g=>
 eC pg R d c true 289 #[p0,g] fun _ h i=>
 fin R i h (aJ #[]))
noncomputable def Hg:bu:=⟨17,[],[],[0,1],[],[]⟩
def xT (p0:Value) (p1:ByteArray):Prop:=
 ab pg X0 w0 (mE 9 3 (.string p1)) fun a=>
 eC pg R X0 w0 true 113 #[p0,a] fun _ b c=>
 (ax pg c b (aP p0) fun d=>
 ab pg c b (aT 247 0 0 1 d) fun e=>
 ab pg c b (ld1 132 e) fun g=>
 eV pg R c b true (dQ #[132,9] 132 #[g,(.string p1)]) fun h i j=>
 ax pg j i (aP p0) fun k=>
 ab pg j i (aT 247 0 0 1 k) fun l=>
 eU pg R j i true (st1 132 1 l h) fun _ m n=>
 fin R n m (aJ #[]))
noncomputable def U9:bu:=⟨26,[(3,(pg.cellsOf 116))],[9,12,17,23],[0,1,6,13,14,20],[],[]⟩
def HG (p0:Value) (bS:Int) (bY:Nat) (bW:ByteArray):Prop:=
 ((jn (fun (a:Value) (b:World) (c:XS)=>
 aI (cu a) (un (cellOf a 0) fun d=>
 eC pg R c b true 113 #[p0,d] fun _ e g=>
 (aI (cu a) (((jn (fun (h:World) (i:XS)=>
 fin R i h (aJ #[])) fun j=>
 ab pg g e (aF .eql 3 (.tmp 13) (.const (I 1)) d (I 1)) fun k=>
 (au k
 (aI (cu a) (un (cellOf a 1) fun l=>
 eC pg R g e true 287 #[p0,l] fun _ m n=>
 (j m n)))
 (ab pg g e (aF .eql 3 (.tmp 13) (.const (I 2)) d (I 2)) fun o=>
 (au o
 (aI (cu a) (un (cellOf a 2) fun q=>
 eC pg R g e true 305 #[p0,q] fun _ r s=>
 (j r s)))
 (j e g)))))))))) fun t=>
 eC pg R X0 w0 true 196 #[(.agg #[(I bS),(.float .f64 bY),(.string bW)])] fun v y z=>
 ab pg z y (aU bh v) fun A=>
 (au A
 (ab pg z y (ea 116 #[(I 0),(.float .f64 0),(.string ⟨#[]⟩)] #[]) fun C=>
 un (ak (aa C)) fun D=>
 aI (aq (ad (aa C))==3) (aI (av (ad (aa C)) bB.one) (t D y z)))
 ((t (.agg #[(I bS),(.float .f64 bY),(.string bW)]) y z)))))
end
end Go.Proofs.YtfndblbeikocdaaGreat
