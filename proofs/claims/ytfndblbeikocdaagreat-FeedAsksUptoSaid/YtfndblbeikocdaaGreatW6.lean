/-
 Part 6 of the proof: what the last text leans on.
-/
import Derived.Test.YtfndblbeikocdaaGreatProg
import Derived.KernelRfl
import Derived.Test.YtfndblbeikocdaaGreatW5
open Go.Value renaming cells → aa, agg → ak, tuple → aJ, int → aZ
open Array renaming toList → ad
open List renaming all → av, length → aq, toArray → aS
open Go.Op renaming unary → aU
open Go.Instr renaming extract → aD, box → cL, lookup → cx, makeFunc → cz, mapUpdate → dE, range → kX, next → yG, entry → gV
open Go.UnOp renaming not → bh
open Go.IntKind renaming u64 → bz, u32 → gj, u8 → gS
open Go.Fn renaming func → eS
open Go.Builtin renaming delete_ → iX, min_ → ib, len_ → fg
set_option linter.unusedVariables false
set_option linter.unusedSimpArgs false
namespace Go.Proofs.YtfndblbeikocdaaGreat
open Go.Proofs.Tryz renaming prog → pg
open Go.bB
set_option maxRecDepth 100000
section
variable (R : Ending → World → Prop) (w0 : World) (X0 : XS)
def Cc (p0 p1:Value):Prop:=
 (ab pg X0 w0 (cp 35 3 p0) fun a=>
 ab pg X0 w0 (cp 35 3 p1) fun b=>
 ab pg X0 w0 (aF .neq 3 (.tmp 7) (.tmp 9) a b) fun c=>
 (au c
 (fin R X0 w0 (B false))
 (((gg X0 w0 (I 0) 5 fun d e g h i=>
 ab pg i h (cp 35 3 p0) fun j=>
 ab pg i h (binOp .lss 3 g j) fun k=>
 (au k
 ((ab pg i h (cA 35 1 p0 g) fun l=>
 ab pg i h (ld1 9 l) fun m=>
 ab pg i h (cA 35 1 p1 g) fun n=>
 ab pg i h (ld1 9 n) fun o=>
 ab pg i h (aF .neq 9 (.tmp 20) (.tmp 24) m o) fun q=>
 (au q
 (fin R i h (B false))
 (((ab pg i h (binOp .add 3 g (I 1)) fun r=>
 fY d e r h i))))))
 (fin R i h (B true))))))))
def CN (p0 p1:Value):Prop:=
 (ab pg X0 w0 (cp 36 3 p0) fun a=>
 ab pg X0 w0 (cp 36 3 p1) fun b=>
 ab pg X0 w0 (aF .neq 3 (.tmp 7) (.tmp 9) a b) fun c=>
 (au c
 (fin R X0 w0 (B false))
 (((gg X0 w0 (I 0) 5 fun d e g h i=>
 ab pg i h (cp 36 3 p0) fun j=>
 ab pg i h (binOp .lss 3 g j) fun k=>
 (au k
 ((ab pg i h (cA 36 7 p0 g) fun l=>
 ab pg i h (ek 166 7 l) fun m=>
 ab pg i h (cA 36 7 p1 g) fun n=>
 ab pg i h (ek 166 7 n) fun o=>
 eC pg R i h true 87 #[m,o] fun q r s=>
 ab pg s r (aU bh q) fun t=>
 (au t
 (fin R s r (B false))
 (((ab pg s r (binOp .add 3 g (I 1)) fun v=>
 fY d e v r s))))))
 (fin R i h (B true))))))))
def AA (p0 p1:Value):Prop:=
 (ab pg X0 w0 (cp 37 3 p0) fun a=>
 ab pg X0 w0 (cp 37 3 p1) fun b=>
 ab pg X0 w0 (aF .neq 3 (.tmp 7) (.tmp 9) a b) fun c=>
 (au c
 (fin R X0 w0 (B false))
 (((gg X0 w0 (I 0) 5 fun d e g h i=>
 ab pg i h (cp 37 3 p0) fun j=>
 ab pg i h (binOp .lss 3 g j) fun k=>
 (au k
 ((ab pg i h (cA 37 4 p0 g) fun l=>
 ab pg i h (aT 118 0 0 1 l) fun m=>
 ab pg i h (ld1 9 m) fun n=>
 ab pg i h (cA 37 4 p1 g) fun o=>
 ab pg i h (aT 118 0 0 1 o) fun q=>
 ab pg i h (ld1 9 q) fun r=>
 ab pg i h (aF .neq 9 (.tmp 21) (.tmp 26) n r) fun s=>
 un (aB s false p0) fun t=>
 un (aB s false g) fun v=>
 ay pg i h s false (vS (cA 37 4 t v)) fun y=>
 ay pg i h s false (vS (aT 118 1 1 3 y)) fun z=>
 ay pg i h s false (vS (ek 116 3 z)) fun A=>
 un (aB s false p1) fun C=>
 ay pg i h s false (vS (cA 37 4 C v)) fun D=>
 ay pg i h s false (vS (aT 118 1 1 3 D)) fun E=>
 ay pg i h s false (vS (ek 116 3 E)) fun F=>
 jn (fun (G:Value) (H:World) (L:XS)=>
 ay pg L H s false (vS (aU bh G)) fun M=>
 ax pg L H (aM s (B true) M) fun N=>
 (au N
 (fin R L H (B false))
 (((ab pg L H (binOp .add 3 g (I 1)) fun O=>
 fY d e O H L))))) fun Q=>
 (gE s false (eC pg R i h true 88 #[A,F] Q) (Q undef h i))))
 (fin R i h (B true))))))))
def CW (p0 p1:Value):Prop:=
 (ab pg X0 w0 (cp 38 3 p0) fun a=>
 ab pg X0 w0 (cp 38 3 p1) fun b=>
 ab pg X0 w0 (aF .neq 3 (.tmp 7) (.tmp 9) a b) fun c=>
 (au c
 (fin R X0 w0 (B false))
 (((gg X0 w0 (I 0) 5 fun d e g h i=>
 ab pg i h (cp 38 3 p0) fun j=>
 ab pg i h (binOp .lss 3 g j) fun k=>
 (au k
 ((ab pg i h (cA 38 1 p0 g) fun l=>
 ab pg i h (ld1 3 l) fun m=>
 ab pg i h (cA 38 1 p1 g) fun n=>
 ab pg i h (ld1 3 n) fun o=>
 ab pg i h (aF .neq 3 (.tmp 20) (.tmp 24) m o) fun q=>
 (au q
 (fin R i h (B false))
 (((ab pg i h (binOp .add 3 g (I 1)) fun r=>
 fY d e r h i))))))
 (fin R i h (B true))))))))
def Ax (p0 p1:Value):Prop:=
 (ab pg X0 w0 (cp 39 3 p0) fun a=>
 ab pg X0 w0 (cp 39 3 p1) fun b=>
 ab pg X0 w0 (aF .neq 3 (.tmp 7) (.tmp 9) a b) fun c=>
 (au c
 (fin R X0 w0 (B false))
 (((gg X0 w0 (I 0) 5 fun d e g h i=>
 ab pg i h (cp 39 3 p0) fun j=>
 ab pg i h (binOp .lss 3 g j) fun k=>
 (au k
 ((ab pg i h (cA 39 4 p0 g) fun l=>
 ab pg i h (ek 43 4 l) fun m=>
 ab pg i h (cA 39 4 p1 g) fun n=>
 ab pg i h (ek 43 4 n) fun o=>
 eC pg R i h true 89 #[m,o] fun q r s=>
 ab pg s r (aU bh q) fun t=>
 (au t
 (fin R s r (B false))
 (((ab pg s r (binOp .add 3 g (I 1)) fun v=>
 fY d e v r s))))))
 (fin R i h (B true))))))))
def CO (p0 p1:Value):Prop:=
 (ab pg X0 w0 (cp 40 3 p0) fun a=>
 ab pg X0 w0 (cp 40 3 p1) fun b=>
 ab pg X0 w0 (aF .neq 3 (.tmp 7) (.tmp 9) a b) fun c=>
 (au c
 (fin R X0 w0 (B false))
 (((gg X0 w0 (I 0) 5 fun d e g h i=>
 ab pg i h (cp 40 3 p0) fun j=>
 ab pg i h (binOp .lss 3 g j) fun k=>
 (au k
 ((ab pg i h (cA 40 29 p0 g) fun l=>
 ab pg i h (ek 73 29 l) fun m=>
 ab pg i h (cA 40 29 p1 g) fun n=>
 ab pg i h (ek 73 29 n) fun o=>
 eC pg R i h true 90 #[m,o] fun q r s=>
 ab pg s r (aU bh q) fun t=>
 (au t
 (fin R s r (B false))
 (((ab pg s r (binOp .add 3 g (I 1)) fun v=>
 fY d e v r s))))))
 (fin R i h (B true))))))))
noncomputable def Mf:bu:=⟨38,[(2,(pg.cellsOf 47)),(3,(pg.cellsOf 47))],[5,7,11,13,18,20,25,27,32,34],[0,1,4],[10,12,14,15,17,19,21,22,24,26,28,29,31,33,35,36],[]⟩
def B0 (aQ aV:Int) (aW bq:Nat) (bG bJ bM bV cD cV:Int) (cg bZ:Value) (bS bY:Int) (bW dW:Nat) (ey eN eE eG gl nh:Int) (kB kC:Value):Prop:=
 (eC pg R X0 w0 true 89 #[(.agg #[(I aQ),(I aV),(.float .f64 aW),(.float .f64 bq)]),(.agg #[(I bS),(I bY),(.float .f64 bW),(.float .f64 dW)])] fun a b c=>
 un (aB a true (.agg #[(I bG),(I bJ),(I bM)])) fun d=>
 un (aB a true (.agg #[(I ey),(I eN),(I eE)])) fun e=>
 ay pg c b a true (vS (aF .eql 34 (.tmp 12) (.tmp 14) d e)) fun g=>
 ax pg c b (aM a g (B false)) fun h=>
 un (aB h true (.agg #[(I bV),(I cD),(I cV)])) fun i=>
 un (aB h true (.agg #[(I eG),(I gl),(I nh)])) fun j=>
 ay pg c b h true (vS (aF .eql 34 (.tmp 19) (.tmp 21) i j)) fun k=>
 ax pg c b (aM h k (B false)) fun l=>
 un (aB l true cg) fun m=>
 un (aB l true kB) fun n=>
 jn (fun (o:Value) (q:World) (r:XS)=>
 ax pg r q (aM l o (B false)) fun s=>
 un (aB s true bZ) fun t=>
 un (aB s true kC) fun v=>
 jn (fun (y:Value) (z:World) (A:XS)=>
 ax pg A z (aM s y (B false)) fun C=>
 (fin R A z C)) fun D=>
 (gE s true (eC pg R r q true 92 #[t,v] D) (D undef q r))) fun E=>
 (gE l true (eC pg R c b true 91 #[m,n] E) (E undef b c)))
noncomputable def V9:bu:=⟨25,[],[],[0,1,4,5,19],[8,9,10,12,13,14,16,17,18],[]⟩
def Ky (p0 p1:Int):Prop:=
 (ab pg X0 w0 (binOp .lss 3 (I p0) (I 1)) fun a=>
 un (aB a false (I p0)) fun b=>
 ay pg X0 w0 a false (vS (binOp .gtr 3 b (I 12))) fun c=>
 ax pg X0 w0 (aM a (B true) c) fun d=>
 un (aB d false (I p1)) fun e=>
 ay pg X0 w0 d false (vS (binOp .lss 3 e (I 1))) fun g=>
 ax pg X0 w0 (aM d (B true) g) fun h=>
 un (aB h false (I p1)) fun i=>
 ay pg X0 w0 h false (vS (binOp .gtr 3 i (I 100000000))) fun j=>
 ax pg X0 w0 (aM h (B true) j) fun k=>
 (au k
 ((fin R X0 w0 (aJ #[(.pointer none),(I 1)])))
 ((eV pg R X0 w0 true (Instr.makeMap 172 none) fun l m n=>
 ab pg n m (ea 174 #[(I p0),(I p1),(I 0),(I 0),(I 0),l] #[(0,(I p0)),(1,(I p1)),(3,l)]) fun o=>
 eV pg R n m true (cL 174 o) fun q r s=>
 (fin R s r (aJ #[q,(I 0)]))))))
def lG (p0:Value):Prop:=
 (ab pg X0 w0 (aF .eql 37 (.tmp 3) (.const (.slice none 0 0)) p0 (.slice none 0 0)) fun a=>
 (au a
 (fin R X0 w0 (.slice none 0 0))
 (eV pg R X0 w0 true (gG 37 118 4 0 #[]) fun b c d=>
 eV pg R d c true (ga 37 118 4 48 37 b p0) fun e g h=>
 (fin R h g e))))
def jS (p0:Value):Prop:=
 eV pg R X0 w0 true (cL 90 p0) fun a b c=>
 (ab pg c b (cz (eS 95) #[] #[a]) fun d=>
 (fin R c b d))
def zV (p0:Value):Prop:=
 (ax pg X0 w0 (aP p0) fun a=>
 ab pg X0 w0 (aT 174 1 1 1 a) fun b=>
 ab pg X0 w0 (ld1 3 b) fun c=>
 (fin R X0 w0 c))
noncomputable def Dx:bu:=⟨47,[(7,(pg.cellsOf 34)),(9,(pg.cellsOf 34))],[],[0,1,2,6,8],[26,27,28,29,30,31,32,33,34,35,36,37,38,39,41,42,43,44,45],[]⟩
def uE (p0:Value) (p1 p2:Int):Prop:=
 (ax pg X0 w0 (aP p0) fun a=>
 ab pg X0 w0 (aT 128 3 5 1 a) fun b=>
 ab pg X0 w0 (ld1 126 b) fun c=>
 ab pg X0 w0 (cx 126 c (I p1) true) fun d=>
 ab pg X0 w0 (aD d 0) fun e=>
 ab pg X0 w0 (aD d 1) fun g=>
 un (ak (aa e)) fun h=>
 aI (aq (ad (aa e))==3) (aI (av (ad (aa e)) bB.one) ((eC pg R X0 w0 true 96 #[p0] fun i j k=>
 ab pg k j (aD i 0) fun l=>
 ab pg k j (aD i 1) fun _=>
 un (ak (aa l)) fun m=>
 aI (aq (ad (aa l))==3) (aI (av (ad (aa l)) bB.one) ((un (aB g true (I p2)) fun n=>
 ay pg k j g true (vS (Builtin.max_ #[3,3] 3 #[n,(I 0)])) fun o=>
 un (aB g true p0) fun q=>
 ay pg k j g true (aP q) fun r=>
 ay pg k j g true (vS (aT 128 1 1 1 r)) fun s=>
 ay pg k j g true (vS (ld1 3 s)) fun t=>
 ay pg k j g true (aP q) fun v=>
 ay pg k j g true (vS (aT 128 0 0 1 v)) fun y=>
 ay pg k j g true (vS (ld1 125 y)) fun z=>
 jn (fun (A:Value) (C:World) (D:XS)=>
 ay pg D C g true (vS (binOp .sub 3 t A)) fun E=>
 ay pg D C g true (vS (binOp .geq 3 o E)) fun F=>
 ax pg D C (aM g F (B false)) fun G=>
 aI (cu h) (un (cj h 0 3) fun H=>
 un (aB G true H) fun L=>
 aI (cu m) (un (cj m 0 3) fun M=>
 un (aB G true M) fun N=>
 jn (fun (O:Value) (Q:World) (S:XS)=>
 ay pg S Q G true (vS (binOp .gtr 3 O (I 0))) fun T=>
 ax pg S Q (aM G T (B false)) fun U=>
 (fin R S Q U)) fun V=>
 (gE G true (eC pg R D C true 84 #[L,N] V) (V undef C D))))) fun Y=>
 (gE g true (eC pg R k j false 51 #[z] Y) (Y undef j k)))))))))
def yc (p0:Value):Prop:=
 (ax pg X0 w0 (aP p0) fun a=>
 ab pg X0 w0 (aT 93 2 5 1 a) fun b=>
 ab pg X0 w0 (ld1 80 b) fun c=>
 eC pg R X0 w0 true 97 #[c] fun d e g=>
 (fin R g e d))
def BD (p0:Value):Prop:=
 (ax pg X0 w0 (aP p0) fun a=>
 ab pg X0 w0 (aT 179 0 0 1 a) fun b=>
 ab pg X0 w0 (ld1 177 b) fun c=>
 ab pg X0 w0 (cp 177 3 c) fun d=>
 (fin R X0 w0 d))
noncomputable def G7:bu:=⟨26,[(2,(pg.cellsOf 34)),(3,(pg.cellsOf 34))],[6,8,13,15,20,22],[0,1,4,5,12,19],[],[]⟩
def ye (aQ aV aW bS bY bW:Int):Prop:=
 (eC pg R X0 w0 true 98 #[(I aQ),(I bS)] fun a b c=>
 ((jn (fun (d:Value) (e:World) (g:XS)=>
 (jn (fun (h:Value) (i:World) (j:XS)=>
 (fin R j i h)) fun k=>
 ab pg g e (aF .eql 3 (.tmp 18) (.const (I 0)) d (I 0)) fun l=>
 (au l
 (eC pg R g e true 98 #[(I aW),(I bW)] fun m n o=>
 (k m n o))
 (k d e g)))) fun q=>
 ab pg c b (aF .eql 3 (.tmp 11) (.const (I 0)) a (I 0)) fun r=>
 (au r
 (eC pg R c b true 98 #[(I aV),(I bY)] fun s t v=>
 (q s t v))
 (q a b c)))))
noncomputable def Cd:bu:=⟨19,[(4,(pg.cellsOf 34)),(6,(pg.cellsOf 34))],[],[0,1,5,7],[],[]⟩
def sY (p0:Value) (p1:Int):Prop:=
 (ax pg X0 w0 (aP p0) fun a=>
 ab pg X0 w0 (aT 128 3 5 1 a) fun b=>
 ab pg X0 w0 (ld1 126 b) fun c=>
 ab pg X0 w0 (cx 126 c (I p1) true) fun d=>
 ab pg X0 w0 (aD d 0) fun e=>
 ab pg X0 w0 (aD d 1) fun g=>
 un (ak (aa e)) fun h=>
 aI (aq (ad (aa e))==3) (aI (av (ad (aa e)) bB.one) ((aI (cu h) (un (cj h 0 3) fun i=>
 un (ak (aa i)) fun j=>
 aI (aq (ad (aa i))==3) (aI (av (ad (aa i)) bB.one) ((un (cj j 0 3) fun k=>
 aI (av [j] cu) (fin R X0 w0 (aJ #[k,g]))))))))))
def zW (p0:Value):Prop:=
 (ax pg X0 w0 (aP p0) fun a=>
 ab pg X0 w0 (aT 174 1 1 1 a) fun b=>
 ab pg X0 w0 (ld1 3 b) fun c=>
 (ax pg X0 w0 (aP p0) fun d=>
 ab pg X0 w0 (aT 174 3 5 1 d) fun e=>
 ab pg X0 w0 (ld1 172 e) fun g=>
 eV pg R X0 w0 true (kX 172 g) fun h i j=>
 (gg j i c 3 fun k l m n o=>
 eV pg R o n true (yG h false 0) fun q r s=>
 ab pg s r (aD q 0) fun t=>
 (au t
 ((eV pg R s r true (gV h) fun v y z=>
 ab pg z y (aD v 1) fun A=>
 un (ak (aa A)) fun C=>
 aI (aq (ad (aa A))==9) (aI (av (ad (aa A)) bB.one) ((aI (cu C) (un (cellOf C 8) fun D=>
 ab pg z y (ib #[3,3] 3 #[m,D]) fun E=>
 (fY k l E y z)))))))
 (fin R s r m)))))
noncomputable def UP:bu:=⟨50,[(3,(pg.cellsOf 85))],[],[0,1,4,5,6,7,9,10,11,14,20,24,29,41,46],[],[]⟩
def Io (p0:Value) (bS bY bW:Int) (dW:Value):Prop:=
 (eC pg R X0 w0 true 24 #[p0] fun a b c=>
 (au a
 (fin R c b (I 12))
 (eC pg R c b true 65 #[(.agg #[(I bS),(I bY),(I bW),dW])] fun d e g=>
 ab pg g e (aU bh d) fun h=>
 (au h
 (fin R g e (I 4))
 ((((jn (fun (i:World) (j:XS)=>
 eC pg R j i true 102 #[p0,(.string { data:= #[109,97,114,107,46,110,101,119] })] fun k l m=>
 (ab pg m l (aF .neq 27 (.tmp 28) (.const (I 0)) k (I 0)) fun n=>
 (au n
 (fin R m l k)
 ((eC pg R m l true 67 #[(.agg #[(I bS),(I bY),(I bW),dW])] fun o q r=>
 eC pg R r q true 103 #[o] fun s t v=>
 ab pg v t (aD s 0) fun y=>
 ab pg v t (aD s 1) fun _=>
 (eC pg R v t true 104 #[p0,(.string { data:= #[109,97,114,107,46,110,101,119] }),y] fun z A C=>
 (ab pg C A (aF .neq 27 (.tmp 40) (.const (I 0)) z (I 0)) fun D=>
 (au D
 (fin R C A z)
 ((eC pg R C A true 105 #[p0,(.string { data:= #[109,97,114,107,46,110,101,119] })] fun E F G=>
 (ab pg G F (aF .neq 27 (.tmp 45) (.const (I 0)) E (I 0)) fun H=>
 (au H
 (fin R G F E)
 (eC pg R G F true 106 #[p0,(.string { data:= #[109,97,114,107,46,110,101,119] }),(.string { data:= #[109,97,114,107] })] fun L M N=>
 (fin R N M L)))))))))))))) fun O=>
 eC pg R g e true 100 #[p0] fun Q S T=>
 eC pg R T S true 99 #[Q,(.string { data:= #[109,97,114,107,46,110,101,119] })] fun U V Y=>
 (au U
 (eC pg R Y V true 101 #[p0,(.string { data:= #[109,97,114,107,46,110,101,119] })] fun Z a0 b0=>
 (ab pg b0 a0 (aF .neq 27 (.tmp 23) (.const (I 0)) Z (I 0)) fun c0=>
 (au c0
 (fin R b0 a0 Z)
 (O a0 b0))))
 (O V Y))))))))))
noncomputable def Zz:bu:=⟨31,[(1,(pg.cellsOf 34))],[3,7,12,17,22,27],[0,2],[6,8,9,11,13,14,16,18,19,21,23,24,26,28,29],[]⟩
def NT (aQ aV aW:Int):Prop:=
 (ab pg X0 w0 (binOp .geq 3 (I aQ) (I 0)) fun a=>
 un (aB a true (I aQ)) fun b=>
 ay pg X0 w0 a true (vS (binOp .leq 3 b (I 281474976710656))) fun c=>
 ax pg X0 w0 (aM a c (B false)) fun d=>
 un (aB d true (I aV)) fun e=>
 ay pg X0 w0 d true (vS (binOp .geq 3 e (I 0))) fun g=>
 ax pg X0 w0 (aM d g (B false)) fun h=>
 un (aB h true (I aV)) fun i=>
 ay pg X0 w0 h true (vS (binOp .leq 3 i (I 65535))) fun j=>
 ax pg X0 w0 (aM h j (B false)) fun k=>
 un (aB k true (I aW)) fun l=>
 ay pg X0 w0 k true (vS (binOp .geq 3 l (I 0))) fun m=>
 ax pg X0 w0 (aM k m (B false)) fun n=>
 un (aB n true (I aW)) fun o=>
 ay pg X0 w0 n true (vS (binOp .leq 3 o (I 63))) fun q=>
 ax pg X0 w0 (aM n q (B false)) fun r=>
 (fin R X0 w0 r))
def KW:Prop:=
 (ab pg X0 w0 (ea 179 #[(.slice none 0 0)] #[]) fun a=>
 eV pg R X0 w0 true (cL 179 a) fun b c d=>
 (fin R d c b))
noncomputable def Kb:bu:=⟨21,[],[],[0,1,4,5,6,14],[],[]⟩
def Ap (p0:Value) (p1:ByteArray):Prop:=
 (ax pg X0 w0 (aP p0) fun a=>
 ab pg X0 w0 (aT 79 0 0 1 a) fun b=>
 ab pg X0 w0 (ld1 77 b) fun c=>
 ab pg X0 w0 (cx 77 c (.string p1) false) fun d=>
 (ab pg X0 w0 (aF .eql 191 (.tmp 13) (.const (.pointer none)) d (.pointer none)) fun e=>
 (au e
 ((fin R X0 w0 (aJ #[(.slice none 0 0),(I 8)])))
 ((eV pg R X0 w0 true (gG 132 5 1 0 #[]) fun g h i=>
 ax pg i h (aP d) fun j=>
 ab pg i h (aT 193 0 0 1 j) fun k=>
 ab pg i h (ld1 132 k) fun l=>
 eV pg R i h true (ga 132 5 1 1 132 g l) fun m n o=>
 (fin R o n (aJ #[m,(I 0)])))))))
noncomputable def Wa:bu:=⟨51,[(1,(pg.cellsOf 85)),(4,(pg.cellsOf 89))],[5,13,17,22,27,35,42,48],[0,2,3,6,7,8,9,46],[16,18,19,21,23,24,26,28,29,31,32,33,34,36,37,38,39,40,41,43,44,45],[8]⟩
def La (aQ aV aW:Int) (bq:Value):Prop:=
 (ab pg X0 w0 (cp 83 3 bq) fun a=>
 (gg X0 w0 (I 0) 8 fun b c d e g=>
 ab pg g e (binOp .lss 3 d a) fun h=>
 (au h
 ((ab pg g e (cA 83 2 bq d) fun i=>
 ab pg g e (ek 89 2 i) fun j=>
 un (ak (aa j)) fun k=>
 aI (aq (ad (aa j))==2) (aI (av (ad (aa j)) bB.one) ((aI (cu k) (un (cellOf k 0) fun l=>
 ab pg g e (binOp .lss 3 l (I 1)) fun m=>
 un (aB m false l) fun n=>
 ay pg g e m false (vS (binOp .gtr 3 n (I 12))) fun o=>
 ax pg g e (aM m (B true) o) fun q=>
 un (cellOf k 1) fun r=>
 un (aB q false r) fun s=>
 ay pg g e q false (vS (binOp .lss 3 s (I 1))) fun t=>
 ax pg g e (aM q (B true) t) fun v=>
 un (aB v false r) fun y=>
 ay pg g e v false (vS (binOp .gtr 3 y (I 100000000))) fun z=>
 ax pg g e (aM v (B true) z) fun A=>
 un (aB A false d) fun C=>
 ay pg g e A false (vS (binOp .gtr 3 C (I 0))) fun D=>
 un (aB A false D) fun E=>
 un (aB E true bq) fun F=>
 un (aB E true d) fun G=>
 ay pg g e E true (vS (binOp .sub 3 G (I 1))) fun H=>
 ay pg g e E true (vS (cA 83 2 F H)) fun L=>
 ay pg g e E true (vS (aT 89 0 0 1 L)) fun M=>
 ay pg g e E true (vS (ld1 3 M)) fun N=>
 un (aB E true l) fun O=>
 ay pg g e E true (vS (binOp .geq 3 N O)) fun Q=>
 ay pg g e A false (aM E Q (B false)) fun S=>
 ax pg g e (aM A (B true) S) fun T=>
 (au T
 (fin R g e (B false))
 (((ab pg g e (binOp .add 3 d (I 1)) fun U=>
 fY b c U e g))))))))))
 (((eC pg R g e true 57 #[(.agg #[(I aQ),(I aV),(I aW)])] fun V Y Z=>
 (fin R Z Y V)))))))
noncomputable def Pc:bu:=⟨49,[(1,(pg.cellsOf 85)),(7,(pg.cellsOf 89))],[9,10,12,13,15,16,18,31,39,43],[0,2,3,5,21,22,23,24,32,33,34,35],[],[23,34]⟩
def Ef (aQ aV aW:Int) (bq:Value):Prop:=
 (eC pg R X0 w0 true 112 #[] fun a b c=>
 (ab pg c b (cp 83 3 bq) fun d=>
 eV pg R c b true (gG 38 3 1 4 #[(0,(I aQ)),(1,(I aV)),(2,(I aW)),(3,d)]) fun e g h=>
 ab pg h g (cp 38 3 e) fun i=>
 (gg h g (I 0) 23 fun j k l m n=>
 ab pg n m (binOp .lss 3 l i) fun o=>
 (au o
 ((ab pg n m (cA 38 1 e l) fun q=>
 ab pg n m (ld1 3 q) fun r=>
 (eC pg R n m true 113 #[a,r] fun _ s t=>
 ((ab pg t s (binOp .add 3 l (I 1)) fun v=>
 fY j k v s t)))))
 (((ab pg n m (cp 83 3 bq) fun y=>
 (gg n m (I 0) 34 fun z A C D E=>
 ab pg E D (binOp .lss 3 C y) fun F=>
 (au F
 ((ab pg E D (cA 83 2 bq C) fun G=>
 ab pg E D (ek 89 2 G) fun H=>
 un (ak (aa H)) fun L=>
 aI (aq (ad (aa H))==2) (aI (av (ad (aa H)) bB.one) ((aI (cu L) (un (cellOf L 0) fun M=>
 eC pg R E D true 113 #[a,M] fun _ N O=>
 (aI (cu L) (un (cellOf L 1) fun Q=>
 eC pg R O N true 113 #[a,Q] fun _ S T=>
 ((ab pg T S (binOp .add 3 C (I 1)) fun U=>
 fY z A U S T))))))))))
 (eC pg R E D true 114 #[a] fun V Y Z=>
 (fin R Z Y V)))))))))))
noncomputable def FG:bu:=⟨37,[(5,(pg.cellsOf 34)),(7,(pg.cellsOf 34))],[],[0,1,2,6,8,18,25,29],[21,22,23],[]⟩
def xg (p0:Value) (p1 gz gL gM:Int):Prop:=
 (ax pg X0 w0 (aP p0) fun a=>
 ab pg X0 w0 (aT 128 3 5 1 a) fun b=>
 ab pg X0 w0 (ld1 126 b) fun c=>
 ab pg X0 w0 (cx 126 c (I p1) true) fun d=>
 ab pg X0 w0 (aD d 0) fun e=>
 ab pg X0 w0 (aD d 1) fun g=>
 un (ak (aa e)) fun _=>
 aI (aq (ad (aa e))==3) (aI (av (ad (aa e)) bB.one) ((ab pg X0 w0 (binOp .lss 3 (I p1) (I 1)) fun h=>
 un (aB h false (I p1)) fun i=>
 ay pg X0 w0 h false (vS (binOp .gtr 3 i (I 12))) fun j=>
 ax pg X0 w0 (aM h (B true) j) fun k=>
 (au k
 (fin R X0 w0 (I 1))
 (eC pg R X0 w0 true 57 #[(.agg #[(I gz),(I gL),(I gM)])] fun l m n=>
 ab pg n m (aU bh l) fun o=>
 (au o
 (fin R n m (I 17))
 ((au g
 (fin R n m (I 9))
 (((ax pg n m (aP p0) fun q=>
 ab pg n m (aT 128 3 5 1 q) fun r=>
 ab pg n m (ld1 126 r) fun s=>
 eU pg R n m true (dE 126 s (I p1) (.agg #[(I gz),(I gL),(I gM)])) fun _ t v=>
 (fin R v t (I 0))))))))))))))
noncomputable def Pd:bu:=⟨20,[],[],[0,1,2,6,14],[10,11,12,13],[]⟩
def Em (p0 p1 p2:Int):Prop:=
 (ab pg X0 w0 (binOp .gtr 3 (I p1) (I p2)) fun a=>
 un (aB a false (I p0)) fun b=>
 un (aB a false (I p2)) fun c=>
 ay pg X0 w0 a false (vS (binOp .gtr 3 b c)) fun d=>
 ax pg X0 w0 (aM a (B true) d) fun e=>
 (au e
 (ab pg X0 w0 (binOp .add 3 (I p2) (I 1)) fun g=>
 (fin R X0 w0 g))
 ((ab pg X0 w0 (binOp .add 3 (I p0) (I p1)) fun h=>
 (fin R X0 w0 h)))))
noncomputable def En:bu:=⟨28,[],[],[0,1,4,5,6,15],[11,12,13,14],[5,6]⟩
def vR (p0:Value) (p1:Int):Prop:=
 (((ix X0 w0 (I 0) (I 0) 6 5 fun a b c d e g=>
 ab pg g e (cp 35 3 p0) fun h=>
 ab pg g e (binOp .lss 3 c h) fun i=>
 un (aB i true d) fun j=>
 un (aB i true (I p1)) fun k=>
 ay pg g e i true (vS (binOp .leq 3 j k)) fun l=>
 ax pg g e (aM i l (B false)) fun m=>
 (au m
 ((ab pg g e (cA 35 1 p0 c) fun n=>
 ab pg g e (ld1 9 n) fun o=>
 ab pg g e (mE 9 3 o) fun q=>
 ab pg g e (binOp .add 3 (I 1) q) fun r=>
 eC pg R g e true 69 #[d,r,(I p1)] fun s t v=>
 ((ab pg v t (binOp .add 3 c (I 1)) fun y=>
 iy a b y s t v))))
 (fin R g e d)))))
noncomputable def FI:bu:=⟨38,[],[],[0,1,4,5,6,15],[11,12,13,14,18],[5,6]⟩
def xv (p0:Value) (p1:Int):Prop:=
 (((ix X0 w0 (I 0) (I 0) 6 5 fun a b c d e g=>
 ab pg g e (cp 36 3 p0) fun h=>
 ab pg g e (binOp .lss 3 c h) fun i=>
 un (aB i true d) fun j=>
 un (aB i true (I p1)) fun k=>
 ay pg g e i true (vS (binOp .leq 3 j k)) fun l=>
 ax pg g e (aM i l (B false)) fun m=>
 (au m
 ((ab pg g e (cA 36 7 p0 c) fun n=>
 ab pg g e (aT 166 0 0 1 n) fun o=>
 ab pg g e (ld1 9 o) fun q=>
 ab pg g e (mE 9 3 q) fun r=>
 ab pg g e (binOp .add 3 (I 1) r) fun s=>
 ab pg g e (cA 36 7 p0 c) fun t=>
 ab pg g e (aT 166 1 1 3 t) fun v=>
 ab pg g e (aT 116 2 2 1 v) fun y=>
 ab pg g e (ld1 9 y) fun z=>
 ab pg g e (mE 9 3 z) fun A=>
 eC pg R g e false 69 #[d,s,(I p1)] fun C D E=>
 eC pg R E D true 69 #[C,A,(I p1)] fun F G H=>
 ((ab pg H G (binOp .add 3 c (I 1)) fun L=>
 iy a b L F G H))))
 (fin R g e d)))))
noncomputable def Dy:bu:=⟨38,[],[],[0,1,4,5,6,15],[11,12,13,14,18],[5,6]⟩
def uI (p0:Value) (p1:Int):Prop:=
 (((ix X0 w0 (I 0) (I 0) 6 5 fun a b c d e g=>
 ab pg g e (cp 37 3 p0) fun h=>
 ab pg g e (binOp .lss 3 c h) fun i=>
 un (aB i true d) fun j=>
 un (aB i true (I p1)) fun k=>
 ay pg g e i true (vS (binOp .leq 3 j k)) fun l=>
 ax pg g e (aM i l (B false)) fun m=>
 (au m
 ((ab pg g e (cA 37 4 p0 c) fun n=>
 ab pg g e (aT 118 0 0 1 n) fun o=>
 ab pg g e (ld1 9 o) fun q=>
 ab pg g e (mE 9 3 q) fun r=>
 ab pg g e (binOp .add 3 (I 1) r) fun s=>
 ab pg g e (cA 37 4 p0 c) fun t=>
 ab pg g e (aT 118 1 1 3 t) fun v=>
 ab pg g e (aT 116 2 2 1 v) fun y=>
 ab pg g e (ld1 9 y) fun z=>
 ab pg g e (mE 9 3 z) fun A=>
 eC pg R g e false 69 #[d,s,(I p1)] fun C D E=>
 eC pg R E D true 69 #[C,A,(I p1)] fun F G H=>
 ((ab pg H G (binOp .add 3 c (I 1)) fun L=>
 iy a b L F G H))))
 (fin R g e d)))))
noncomputable def G8:bu:=⟨67,[(2,(pg.cellsOf 73))],[7,11,18,27,39,49,61],[0,1,4,5,6,35],[31,32,33,34,38],[5,6]⟩
def yj (_p0_0 _p0_1 _p0_2 _p0_3 _p0_4 _p0_5 _p0_6 _p0_7 _p0_8 _p0_9:Int) (_p0_10:Bool) (_p0_11:Int) (_p0_12:Nat) (de da dc df:Value) (dh cM:Int) (cK cN:Nat) (cO cP dd cQ cW cX:Int) (cY cZ:Value) (p1:Int):Prop:=
 (eC pg R X0 w0 false 70 #[de,(I p1)] fun a b c=>
 eC pg R c b true 72 #[da,(I p1)] fun d e g=>
 eC pg R g e true 69 #[a,d,(I p1)] fun h i j=>
 (ab pg j i (cp 38 3 dc) fun k=>
 ab pg j i (binOp .add 3 (I p1) (I 1)) fun l=>
 ab pg j i (ib #[3,3] 3 #[k,l]) fun m=>
 eC pg R j i true 69 #[h,m,(I p1)] fun n o q=>
 ((ix q o (I 0) n 6 5 fun r s t v y z=>
 ab pg z y (cp 71 3 df) fun A=>
 ab pg z y (binOp .lss 3 t A) fun C=>
 un (aB C true v) fun D=>
 un (aB C true (I p1)) fun E=>
 ay pg z y C true (vS (binOp .leq 3 D E)) fun F=>
 ax pg z y (aM C F (B false)) fun G=>
 (au G
 ((ab pg z y (cA 71 4 df t) fun H=>
 ab pg z y (aT 205 0 0 1 H) fun L=>
 ab pg z y (ld1 9 L) fun M=>
 ab pg z y (mE 9 3 M) fun N=>
 ab pg z y (binOp .add 3 (I 1) N) fun O=>
 ab pg z y (cA 71 4 df t) fun Q=>
 ab pg z y (aT 205 1 1 3 Q) fun S=>
 ab pg z y (aT 116 2 2 1 S) fun T=>
 ab pg z y (ld1 9 T) fun U=>
 ab pg z y (mE 9 3 U) fun V=>
 eC pg R z y false 69 #[v,O,(I p1)] fun Y Z a0=>
 eC pg R a0 Z true 69 #[Y,V,(I p1)] fun b0 c0 d0=>
 ((ab pg d0 c0 (binOp .add 3 t (I 1)) fun e0=>
 iy r s e0 b0 c0 d0))))
 (((ab pg z y (binOp .add 3 v (I 1)) fun g0=>
 eC pg R z y true 74 #[(.agg #[(I dh),(I cM),(.float .f64 cK),(.float .f64 cN),(I cO),(I cP),(I dd),(I cQ),(I cW),(I cX),cY,cZ]),(I p1)] fun h0 i0 j0=>
 eC pg R j0 i0 true 69 #[g0,h0,(I p1)] fun k0 l0 m0=>
 (fin R m0 l0 k0)))))))))
noncomputable def Eo:bu:=⟨15,[(2,(pg.cellsOf 47))],[5,9],[0,1,4],[],[]⟩
def vT (_p0_0 _p0_1:Int) (_p0_2 _p0_3:Nat) (_p0_4 _p0_5 _p0_6 _p0_7 _p0_8 _p0_9:Int) (cg bZ:Value) (p1:Int):Prop:=
 (eC pg R X0 w0 false 115 #[cg,(I p1)] fun a b c=>
 eC pg R c b true 116 #[bZ,(I p1)] fun d e g=>
 eC pg R g e true 69 #[a,d,(I p1)] fun h i j=>
 (fin R j i h))
noncomputable def NU:bu:=⟨98,[(1,(pg.cellsOf 49)),(2,(pg.cellsOf 49)),(4,(pg.cellsOf 34))],[6,13,14,15,16,17,22,23,24,25,26,27,32,33,34,35,36,37,38,43,44,45,46,47,52,53,54,55,60,61,65,66,67,68,71,72,73,77,78,81,87,88,89,90,96],[0,3,7,9,18,28,39,48,56,62,69,74,79,82,91,93],[],[]⟩
def CE (aQ aV aW bq bG bJ bM bV cD cV cg bZ dm de da:Int) (dc:Bool) (df dh:Int) (cM cK cN cO cP dd:Value) (cQ cW:Int) (cX cY:Nat) (cZ fq fu fv fw fy:Int) (fz fA:Value):Prop:=
 (ab pg X0 w0 (ea 34 #[(I 0),(I 0),(I 0)] #[]) fun a=>
 un (ak (aa a)) fun b=>
 aI (aq (ad (aa a))==3) (aI (av (ad (aa a)) bB.one) ((((jn (fun (c:Value)=>
 (aI (cu c) (un (cj c 0 36) fun d=>
 un (ak (aa d)) fun e=>
 aI (aq (ad (aa d))==36) (aI (av (ad (aa d)) bB.one) ((un (cj e 0 36) fun g=>
 aI (av [e] cu) (fin R X0 w0 (aJ #[g,(B true)])))))))) fun h=>
 ab pg X0 w0 (aF .eql 3 (.tmp 7) (.const (I 1)) (I aQ) (I 1)) fun i=>
 (au i
 (ab pg X0 w0 (ea 32 #[(I 0),(I 0),(I 0)] #[]) fun j=>
 aI (cu b) (un (ak (aS (cH [(I aQ),(I aV),(I aW),(I bq),(I bG),(I bJ),(I bM),(I bV),(I cD),(I cV),(I cg),(I bZ),(I dm),(I de),(I da),(B dc),(I df),(I dh),cM,cK,cN,cO,cP,dd,(I cQ),(I cW),(.float .f64 cX),(.float .f64 cY),(I cZ),(I fq),(I fu),(I fv),(I fw),(I fy),fz,fA] 3 (ad (aa j))))) fun k=>
 aI (aq (ad (aa j))==3) (aI (av (ad (aa j)) bB.one) (un (ak (aS (cH (ad (aa k)) 6 [(I 0)]))) fun l=>
 un (ak (aS (cH (ad (aa l)) 7 [(I 0)]))) fun m=>
 un (cj b 0 3) fun n=>
 un (ak (aS (cH (ad (aa m)) 9 (ad (aa n))))) fun o=>
 aI (aq (ad (aa n))==3) (aI (av (ad (aa n)) bB.one) (un (ak (aS (cH (ad (aa o)) 18 [(.slice none 0 0)]))) fun q=>
 (h q)))))))
 (ab pg X0 w0 (aF .eql 3 (.tmp 7) (.const (I 2)) (I aQ) (I 2)) fun r=>
 (au r
 (ab pg X0 w0 (ea 32 #[(I 0),(I 0),(I 0)] #[]) fun s=>
 aI (cu b) (un (ak (aS (cH [(I aQ),(I aV),(I aW),(I bq),(I bG),(I bJ),(I bM),(I bV),(I cD),(I cV),(I cg),(I bZ),(I dm),(I de),(I da),(B dc),(I df),(I dh),cM,cK,cN,cO,cP,dd,(I cQ),(I cW),(.float .f64 cX),(.float .f64 cY),(I cZ),(I fq),(I fu),(I fv),(I fw),(I fy),fz,fA] 3 (ad (aa s))))) fun t=>
 aI (aq (ad (aa s))==3) (aI (av (ad (aa s)) bB.one) (un (ak (aS (cH (ad (aa t)) 6 [(I 0)]))) fun v=>
 un (ak (aS (cH (ad (aa v)) 8 [(I 0)]))) fun y=>
 un (cj b 0 3) fun z=>
 un (ak (aS (cH (ad (aa y)) 9 (ad (aa z))))) fun A=>
 aI (aq (ad (aa z))==3) (aI (av (ad (aa z)) bB.one) (un (ak (aS (cH (ad (aa A)) 19 [(.slice none 0 0)]))) fun C=>
 un (ak (aS (cH (ad (aa C)) 22 [(.slice none 0 0)]))) fun D=>
 (h D)))))))
 (ab pg X0 w0 (aF .eql 3 (.tmp 7) (.const (I 3)) (I aQ) (I 3)) fun E=>
 (au E
 (ab pg X0 w0 (ea 32 #[(I 0),(I 0),(I 0)] #[]) fun F=>
 aI (cu b) (un (ak (aS (cH [(I aQ),(I aV),(I aW),(I bq),(I bG),(I bJ),(I bM),(I bV),(I cD),(I cV),(I cg),(I bZ),(I dm),(I de),(I da),(B dc),(I df),(I dh),cM,cK,cN,cO,cP,dd,(I cQ),(I cW),(.float .f64 cX),(.float .f64 cY),(I cZ),(I fq),(I fu),(I fv),(I fw),(I fy),fz,fA] 3 (ad (aa F))))) fun G=>
 aI (aq (ad (aa F))==3) (aI (av (ad (aa F)) bB.one) (un (ak (aS (cH (ad (aa G)) 6 [(I 0)]))) fun H=>
 un (ak (aS (cH (ad (aa H)) 7 [(I 0)]))) fun L=>
 un (cj b 0 3) fun M=>
 un (ak (aS (cH (ad (aa L)) 9 (ad (aa M))))) fun N=>
 aI (aq (ad (aa M))==3) (aI (av (ad (aa M)) bB.one) (un (ak (aS (cH (ad (aa N)) 19 [(.slice none 0 0)]))) fun O=>
 un (ak (aS (cH (ad (aa O)) 20 [(.slice none 0 0)]))) fun Q=>
 un (ak (aS (cH (ad (aa Q)) 21 [(.slice none 0 0)]))) fun S=>
 (h S)))))))
 (ab pg X0 w0 (aF .eql 3 (.tmp 7) (.const (I 4)) (I aQ) (I 4)) fun T=>
 (au T
 (ab pg X0 w0 (ea 32 #[(I 0),(I 0),(I 0)] #[]) fun U=>
 aI (cu b) (un (ak (aS (cH [(I aQ),(I aV),(I aW),(I bq),(I bG),(I bJ),(I bM),(I bV),(I cD),(I cV),(I cg),(I bZ),(I dm),(I de),(I da),(B dc),(I df),(I dh),cM,cK,cN,cO,cP,dd,(I cQ),(I cW),(.float .f64 cX),(.float .f64 cY),(I cZ),(I fq),(I fu),(I fv),(I fw),(I fy),fz,fA] 3 (ad (aa U))))) fun V=>
 aI (aq (ad (aa U))==3) (aI (av (ad (aa U)) bB.one) (un (ak (aS (cH (ad (aa V)) 6 [(I 0)]))) fun Y=>
 un (ak (aS (cH (ad (aa Y)) 8 [(I 0)]))) fun Z=>
 un (cj b 0 3) fun a0=>
 un (ak (aS (cH (ad (aa Z)) 9 (ad (aa a0))))) fun b0=>
 aI (aq (ad (aa a0))==3) (aI (av (ad (aa a0)) bB.one) (un (ak (aS (cH (ad (aa b0)) 22 [(.slice none 0 0)]))) fun c0=>
 (h c0)))))))
 (ab pg X0 w0 (aF .eql 3 (.tmp 7) (.const (I 5)) (I aQ) (I 5)) fun d0=>
 (au d0
 (ab pg X0 w0 (ea 32 #[(I 0),(I 0),(I 0)] #[]) fun e0=>
 aI (cu b) (un (ak (aS (cH [(I aQ),(I aV),(I aW),(I bq),(I bG),(I bJ),(I bM),(I bV),(I cD),(I cV),(I cg),(I bZ),(I dm),(I de),(I da),(B dc),(I df),(I dh),cM,cK,cN,cO,cP,dd,(I cQ),(I cW),(.float .f64 cX),(.float .f64 cY),(I cZ),(I fq),(I fu),(I fv),(I fw),(I fy),fz,fA] 3 (ad (aa e0))))) fun g0=>
 aI (aq (ad (aa e0))==3) (aI (av (ad (aa e0)) bB.one) (un (ak (aS (cH (ad (aa g0)) 6 [(I 0)]))) fun h0=>
 un (ak (aS (cH (ad (aa h0)) 15 [(B false)]))) fun i0=>
 un (cj b 0 3) fun j0=>
 un (ak (aS (cH (ad (aa i0)) 9 (ad (aa j0))))) fun k0=>
 aI (aq (ad (aa j0))==3) (aI (av (ad (aa j0)) bB.one) (h k0))))))
 ((jn (fun (l0:Value)=>
 au l0
 (ab pg X0 w0 (ea 32 #[(I 0),(I 0),(I 0)] #[]) fun m0=>
 un (ak (aS (cH [(I aQ),(I aV),(I aW),(I bq),(I bG),(I bJ),(I bM),(I bV),(I cD),(I cV),(I cg),(I bZ),(I dm),(I de),(I da),(B dc),(I df),(I dh),cM,cK,cN,cO,cP,dd,(I cQ),(I cW),(.float .f64 cX),(.float .f64 cY),(I cZ),(I fq),(I fu),(I fv),(I fw),(I fy),fz,fA] 3 (ad (aa m0))))) fun n0=>
 aI (aq (ad (aa m0))==3) (aI (av (ad (aa m0)) bB.one) (un (ak (aS (cH (ad (aa n0)) 6 [(I 0)]))) fun o0=>
 (h o0))))
 (ab pg X0 w0 (aF .eql 3 (.tmp 7) (.const (I 8)) (I aQ) (I 8)) fun q0=>
 (au q0
 (aI (cu b) (un (cj b 0 3) fun r0=>
 un (ak (aS (cH [(I aQ),(I aV),(I aW),(I bq),(I bG),(I bJ),(I 0),(I bV),(I cD),(I cV),(I cg),(I bZ),(I dm),(I de),(I da),(B dc),(I 0),(I 0),cM,cK,cN,cO,cP,dd,(I cQ),(I cW),(.float .f64 cX),(.float .f64 cY),(I cZ),(I fq),(I fu),(I fv),(I fw),(I fy),fz,fA] 9 (ad (aa r0))))) fun s0=>
 aI (aq (ad (aa r0))==3) (aI (av (ad (aa r0)) bB.one) (h s0))))
 (ab pg X0 w0 (aF .eql 3 (.tmp 7) (.const (I 9)) (I aQ) (I 9)) fun t0=>
 (au t0
 ((h (.agg #[(I aQ),(I aV),(I aW),(I bq),(I bG),(I bJ),(I 0),(I bV),(I cD),(I cV),(I cg),(I bZ),(I dm),(I de),(I da),(B dc),(I 0),(I dh),cM,cK,cN,cO,cP,(.slice none 0 0),(I cQ),(I cW),(.float .f64 cX),(.float .f64 cY),(I cZ),(I fq),(I fu),(I fv),(I fw),(I fy),fz,fA])))
 (ab pg X0 w0 (aF .eql 3 (.tmp 7) (.const (I 10)) (I aQ) (I 10)) fun v0=>
 (au v0
 (ab pg X0 w0 (ea 47 #[(I 0),(I 0),(.float .f64 0),(.float .f64 0),(I 0),(I 0),(I 0),(I 0),(I 0),(I 0),(.slice none 0 0),(.slice none 0 0)] #[]) fun y0=>
 un (ak (aS (cH [(I aQ),(I aV),(I aW),(I bq),(I bG),(I bJ),(I 0),(I bV),(I cD),(I cV),(I cg),(I bZ),(I dm),(I de),(I da),(B dc),(I df),(I dh),cM,cK,cN,cO,cP,dd,(I cQ),(I cW),(.float .f64 cX),(.float .f64 cY),(I cZ),(I fq),(I fu),(I fv),(I fw),(I fy),fz,fA] 24 (ad (aa y0))))) fun z0=>
 aI (aq (ad (aa y0))==12) (aI (av (ad (aa y0)) bB.one) (h z0)))
 (ab pg X0 w0 (aF .eql 3 (.tmp 7) (.const (I 11)) (I aQ) (I 11)) fun A0=>
 (au A0
 ((h (.agg #[(I aQ),(I aV),(I aW),(I bq),(I bG),(I bJ),(I 0),(I bV),(I cD),(I cV),(I cg),(I bZ),(I dm),(I de),(I da),(B dc),(I df),(I dh),cM,cK,cN,cO,cP,dd,(I cQ),(I cW),(.float .f64 cX),(.float .f64 cY),(I cZ),(I fq),(I fu),(I fv),(I fw),(I fy),fz,fA])))
 (ab pg X0 w0 (aF .eql 3 (.tmp 7) (.const (I 12)) (I aQ) (I 12)) fun C0=>
 (au C0
 (aI (cu b) (ab pg X0 w0 (ea 32 #[(I 0),(I 0),(I 0)] #[]) fun D0=>
 un (cj b 0 3) fun E0=>
 un (ak (aS (cH [(I aQ),(I aV),(I aW),(I bq),(I bG),(I bJ),(I bM),(I bV),(I cD),(I cV),(I cg),(I bZ),(I dm),(I de),(I da),(B dc),(I df),(I dh),cM,cK,cN,cO,cP,dd,(I cQ),(I cW),(.float .f64 cX),(.float .f64 cY),(I cZ),(I fq),(I fu),(I fv),(I fw),(I fy),fz,fA] 12 (ad (aa E0))))) fun F0=>
 aI (aq (ad (aa E0))==3) (aI (av (ad (aa E0)) bB.one) (un (ak (aS (cH (ad (aa F0)) 9 (ad (aa E0))))) fun G0=>
 aI (aq (ad (aa E0))==3) (aI (av (ad (aa E0)) bB.one) (un (ak (aS (cH (ad (aa G0)) 3 (ad (aa D0))))) fun H0=>
 aI (aq (ad (aa D0))==3) (aI (av (ad (aa D0)) bB.one) (un (ak (aS (cH (ad (aa H0)) 20 [(.slice none 0 0)]))) fun L0=>
 (h L0)))))))))
 (ab pg X0 w0 (aF .eql 3 (.tmp 7) (.const (I 13)) (I aQ) (I 13)) fun M0=>
 (au M0
 ((h (.agg #[(I aQ),(I aV),(I aW),(I bq),(I bG),(I bJ),(I bM),(I bV),(I cD),(I cV),(I cg),(I bZ),(I dm),(I de),(I da),(B dc),(I df),(I dh),cM,cK,cN,cO,cP,dd,(I cQ),(I cW),(.float .f64 cX),(.float .f64 cY),(I cZ),(I fq),(I fu),(I fv),(I fw),(I fy),fz,fA])))
 (ab pg X0 w0 (aF .eql 3 (.tmp 7) (.const (I 14)) (I aQ) (I 14)) fun N0=>
 (au N0
 (aI (cu b) (un (cj b 0 3) fun O0=>
 un (ak (aS (cH [(I aQ),(I aV),(I aW),(I bq),(I bG),(I bJ),(I bM),(I bV),(I cD),(I cV),(I cg),(I bZ),(I dm),(I de),(I da),(B dc),(I df),(I dh),cM,cK,cN,cO,cP,dd,(I cQ),(I cW),(.float .f64 cX),(.float .f64 cY),(I cZ),(I fq),(I fu),(I fv),(I fw),(I fy),fz,fA] 9 (ad (aa O0))))) fun Q0=>
 aI (aq (ad (aa O0))==3) (aI (av (ad (aa O0)) bB.one) (h Q0))))
 (aI (av [(I aQ),(I aV),(I aW),(I bq),(I bG),(I bJ),(I bM),(I bV),(I cD),(I cV),(I cg),(I bZ),(I dm),(I de),(I da),(B dc),(I df),(I dh),cM,cK,cN,cO,cP,dd,(I cQ),(I cW),(.float .f64 cX),(.float .f64 cY),(I cZ),(I fq),(I fu),(I fv),(I fw),(I fy),fz,fA] bB.one) ((fin R X0 w0 (aJ #[(.agg #[(I aQ),(I aV),(I aW),(I bq),(I bG),(I bJ),(I bM),(I bV),(I cD),(I cV),(I cg),(I bZ),(I dm),(I de),(I da),(B dc),(I df),(I dh),cM,cK,cN,cO,cP,dd,(I cQ),(I cW),(.float .f64 cX),(.float .f64 cY),(I cZ),(I fq),(I fu),(I fv),(I fw),(I fy),fz,fA]),(B false)]))))))))))))))))))) fun S0=>
 ab pg X0 w0 (aF .eql 3 (.tmp 7) (.const (I 6)) (I aQ) (I 6)) fun T0=>
 (au T0
 (S0 T0)
 (ab pg X0 w0 (aF .eql 3 (.tmp 7) (.const (I 7)) (I aQ) (I 7)) fun U0=>
 (S0 U0))))))))))))))))))))
noncomputable def UQ:bu:=⟨21,[],[],[0,2],[5,6,7,8,9,10,11,13,14,15,17,18,19],[]⟩
def HK (p0:Int):Prop:=
 (eC pg R X0 w0 true 117 #[(I p0)] fun a b c=>
 un (aB a false (I p0)) fun d=>
 ay pg c b a false (vS (binOp .gtr 3 d (I 20))) fun e=>
 un (aB a false e) fun g=>
 un (aB g true (I p0)) fun h=>
 ay pg c b g true (vS (binOp .leq 3 h (I 22))) fun i=>
 ay pg c b a false (aM g i (B false)) fun j=>
 ax pg c b (aM a (B true) j) fun k=>
 un (aB k false (I p0)) fun l=>
 ay pg c b k false (vS (aF .eql 3 (.tmp 14) (.const (I 31)) l (I 31))) fun m=>
 ax pg c b (aM k (B true) m) fun n=>
 un (aB n false (I p0)) fun o=>
 ay pg c b n false (vS (aF .eql 3 (.tmp 18) (.const (I 32)) o (I 32))) fun q=>
 ax pg c b (aM n (B true) q) fun r=>
 (fin R c b r))
noncomputable def UR:bu:=⟨132,[(1,(pg.cellsOf 49)),(3,(pg.cellsOf 47))],[6,8,13,18,23,28,34,40,45,50,54,55,59,60,65,66,72,73,79,85,91,97,107,110,114,118,122,126],[0,2,4,5],[12,14,15,17,19,20,22,24,25,27,29,30,31,33,35,36,37,39,41,42,44,46,47,49,51,52,58,61,62,64,67,68,69,71,74,75,76,78,80,81,82,84,86,87,88,90,92,93,94,96,98,99,100,103,104,106,108,109,111,112,113,115,116,117,119,120,121,123,124,125,127,128,129,130],[]⟩
def HP (_p0_0 _p0_1 _p0_2 bq bG bJ bM bV cD cV cg bZ dm de da:Int) (dc:Bool) (df dh:Int) (cM cK cN cO cP dd:Value) (cQ cW:Int) (cX cY:Nat) (cZ fq fu fv fw fy:Int) (fz fA:Value):Prop:=
 (aI (av [(I cQ),(I cW),(.float .f64 cX),(.float .f64 cY),(I cZ),(I fq),(I fu),(I fv),(I fw),(I fy),fz,fA] bB.one) ((ab pg X0 w0 (ea 32 #[(I 0),(I 0),(I 0)] #[]) fun a=>
 ab pg X0 w0 (aF .eql 32 (.tmp 9) (.tmp 10) (.agg #[(I bq),(I bG),(I bJ)]) a) fun b=>
 un (aB b true (I bM)) fun c=>
 ay pg X0 w0 b true (vS (aF .eql 3 (.tmp 14) (.const (I 0)) c (I 0))) fun d=>
 ax pg X0 w0 (aM b d (B false)) fun e=>
 un (aB e true (I bV)) fun g=>
 ay pg X0 w0 e true (vS (aF .eql 3 (.tmp 19) (.const (I 0)) g (I 0))) fun h=>
 ax pg X0 w0 (aM e h (B false)) fun i=>
 un (aB i true (I cD)) fun j=>
 ay pg X0 w0 i true (vS (aF .eql 27 (.tmp 24) (.const (I 0)) j (I 0))) fun k=>
 ax pg X0 w0 (aM i k (B false)) fun l=>
 un (aB l true (.agg #[(I cV),(I cg),(I bZ)])) fun m=>
 ay pg X0 w0 l true (vS (ea 34 #[(I 0),(I 0),(I 0)] #[])) fun n=>
 ay pg X0 w0 l true (vS (aF .eql 34 (.tmp 29) (.tmp 30) m n)) fun o=>
 ax pg X0 w0 (aM l o (B false)) fun q=>
 un (aB q true (.agg #[(I dm),(I de),(I da)])) fun r=>
 ay pg X0 w0 q true (vS (ea 34 #[(I 0),(I 0),(I 0)] #[])) fun s=>
 ay pg X0 w0 q true (vS (aF .eql 34 (.tmp 35) (.tmp 36) r s)) fun t=>
 ax pg X0 w0 (aM q t (B false)) fun v=>
 un (aB v true (B dc)) fun y=>
 ay pg X0 w0 v true (vS (aU bh y)) fun z=>
 ax pg X0 w0 (aM v z (B false)) fun A=>
 un (aB A true (I df)) fun C=>
 ay pg X0 w0 A true (vS (aF .eql 3 (.tmp 46) (.const (I 0)) C (I 0))) fun D=>
 ax pg X0 w0 (aM A D (B false)) fun E=>
 un (aB E true (I dh)) fun F=>
 ay pg X0 w0 E true (vS (aF .eql 3 (.tmp 51) (.const (I 0)) F (I 0))) fun G=>
 ax pg X0 w0 (aM E G (B false)) fun H=>
 (ab pg X0 w0 (aF .eql 3 (.tmp 56) (.const (I 0)) (I cQ) (I 0)) fun L=>
 un (aB L true (I cW)) fun M=>
 ay pg X0 w0 L true (vS (aF .eql 3 (.tmp 61) (.const (I 0)) M (I 0))) fun N=>
 ax pg X0 w0 (aM L N (B false)) fun O=>
 un (aB O true (.float .f64 cX)) fun Q=>
 jn (fun (S:Value) (T:World) (U:XS)=>
 ay pg U T O true (vS (aF .eql 208 (.tmp 68) (.const (aZ bz 0)) S (aZ bz 0))) fun V=>
 ax pg U T (aM O V (B false)) fun Y=>
 un (aB Y true (.float .f64 cY)) fun Z=>
 jn (fun (a0:Value) (b0:World) (c0:XS)=>
 ay pg c0 b0 Y true (vS (aF .eql 208 (.tmp 75) (.const (aZ bz 0)) a0 (aZ bz 0))) fun d0=>
 ax pg c0 b0 (aM Y d0 (B false)) fun e0=>
 un (aB e0 true (.agg #[(I cZ),(I fq),(I fu)])) fun g0=>
 ay pg c0 b0 e0 true (vS (ea 34 #[(I 0),(I 0),(I 0)] #[])) fun h0=>
 ay pg c0 b0 e0 true (vS (aF .eql 34 (.tmp 80) (.tmp 81) g0 h0)) fun i0=>
 ax pg c0 b0 (aM e0 i0 (B false)) fun j0=>
 un (aB j0 true (.agg #[(I fv),(I fw),(I fy)])) fun k0=>
 ay pg c0 b0 j0 true (vS (ea 34 #[(I 0),(I 0),(I 0)] #[])) fun l0=>
 ay pg c0 b0 j0 true (vS (aF .eql 34 (.tmp 86) (.tmp 87) k0 l0)) fun m0=>
 ax pg c0 b0 (aM j0 m0 (B false)) fun n0=>
 un (aB n0 true fz) fun o0=>
 ay pg c0 b0 n0 true (vS (cp 44 3 o0)) fun q0=>
 ay pg c0 b0 n0 true (vS (aF .eql 3 (.tmp 93) (.const (I 0)) q0 (I 0))) fun r0=>
 ax pg c0 b0 (aM n0 r0 (B false)) fun s0=>
 un (aB s0 true fA) fun t0=>
 ay pg c0 b0 s0 true (vS (cp 45 3 t0)) fun v0=>
 ay pg c0 b0 s0 true (vS (aF .eql 3 (.tmp 99) (.const (I 0)) v0 (I 0))) fun y0=>
 ax pg c0 b0 (aM s0 y0 (B false)) fun z0=>
 (un (aB H true z0) fun A0=>
 ax pg c0 b0 (aM H A0 (B false)) fun C0=>
 un (aB C0 true cM) fun D0=>
 ay pg c0 b0 C0 true (vS (cp 35 3 D0)) fun E0=>
 un (aB C0 true cK) fun F0=>
 ay pg c0 b0 C0 true (vS (cp 36 3 F0)) fun G0=>
 ay pg c0 b0 C0 true (vS (binOp .add 3 E0 G0)) fun H0=>
 un (aB C0 true cN) fun L0=>
 ay pg c0 b0 C0 true (vS (cp 37 3 L0)) fun M0=>
 ay pg c0 b0 C0 true (vS (binOp .add 3 H0 M0)) fun N0=>
 un (aB C0 true cO) fun O0=>
 ay pg c0 b0 C0 true (vS (cp 38 3 O0)) fun Q0=>
 ay pg c0 b0 C0 true (vS (binOp .add 3 N0 Q0)) fun S0=>
 un (aB C0 true cP) fun T0=>
 ay pg c0 b0 C0 true (vS (cp 39 3 T0)) fun U0=>
 ay pg c0 b0 C0 true (vS (binOp .add 3 S0 U0)) fun V0=>
 un (aB C0 true dd) fun Y0=>
 ay pg c0 b0 C0 true (vS (cp 40 3 Y0)) fun Z0=>
 ay pg c0 b0 C0 true (vS (binOp .add 3 V0 Z0)) fun a1=>
 ay pg c0 b0 C0 true (vS (aF .eql 3 (.tmp 129) (.const (I 0)) a1 (I 0))) fun b1=>
 ax pg c0 b0 (aM C0 b1 (B false)) fun c1=>
 (fin R c0 b0 c1))) fun d1=>
 (gE Y true (eC pg R U T true 118 #[Z] d1) (d1 undef T U))) fun e1=>
 (gE O true (eC pg R X0 w0 true 118 #[Q] e1) (e1 undef w0 X0))))))
noncomputable def Pe:bu:=⟨95,[(1,(pg.cellsOf 49))],[3,17,21,26,31,36,42,46,51,57,61,66,67,68,70,76,81,83,85,87,92],[0,2,4,5,15,40,55,74,79,90],[20,22,23,25,27,28,30,32,33,35,37,38,45,47,48,50,52,53,60,62,63,65,69,71,72],[]⟩
def DW (aQ aV aW bq bG bJ bM bV cD cV cg bZ dm de da:Int) (dc:Bool) (df dh:Int) (cM cK cN cO cP dd:Value) (cQ cW:Int) (cX cY:Nat) (cZ fq fu fv fw fy:Int) (fz fA:Value):Prop:=
 (((jn (fun (a:Value)=>
 au a
 (eC pg R X0 w0 true 119 #[(.agg #[(I aQ),(I aV),(I aW),(I bq),(I bG),(I bJ),(I bM),(I bV),(I cD),(I cV),(I cg),(I bZ),(I dm),(I de),(I da),(B dc),(I df),(I dh),cM,cK,cN,cO,cP,dd,(I cQ),(I cW),(.float .f64 cX),(.float .f64 cY),(I cZ),(I fq),(I fu),(I fv),(I fw),(I fy),fz,fA])] fun b c d=>
 (fin R d c b))
 (ab pg X0 w0 (aF .eql 3 (.tmp 4) (.const (I 8)) (I aQ) (I 8)) fun e=>
 (au e
 (eC pg R X0 w0 true 117 #[(I bM)] fun g h i=>
 un (aB g true (I df)) fun j=>
 ay pg i h g true (vS (binOp .geq 3 j (I 1))) fun k=>
 ax pg i h (aM g k (B false)) fun l=>
 un (aB l true (I dh)) fun m=>
 ay pg i h l true (vS (binOp .geq 3 m (I 0))) fun n=>
 ax pg i h (aM l n (B false)) fun o=>
 un (aB o true (I dh)) fun q=>
 ay pg i h o true (vS (binOp .leq 3 q (I 8))) fun r=>
 ax pg i h (aM o r (B false)) fun s=>
 un (aB s true (.agg #[(I cV),(I cg),(I bZ)])) fun t=>
 jn (fun (v:Value) (y:World) (z:XS)=>
 ax pg z y (aM s v (B false)) fun A=>
 (fin R z y A)) fun C=>
 (gE s true (eC pg R i h true 57 #[t] C) (C undef h i)))
 (ab pg X0 w0 (aF .eql 3 (.tmp 4) (.const (I 9)) (I aQ) (I 9)) fun D=>
 (au D
 (eC pg R X0 w0 true 117 #[(I bM)] fun E F G=>
 un (aB E true (I df)) fun H=>
 ay pg G F E true (vS (binOp .geq 3 H (I 1))) fun L=>
 ax pg G F (aM E L (B false)) fun M=>
 un (aB M true dd) fun N=>
 jn (fun (O:Value) (Q:World) (S:XS)=>
 ax pg S Q (aM M O (B false)) fun T=>
 (fin R S Q T)) fun U=>
 (gE M true (eC pg R G F true 120 #[N] U) (U undef F G)))
 (ab pg X0 w0 (aF .eql 3 (.tmp 4) (.const (I 10)) (I aQ) (I 10)) fun V=>
 (au V
 (eC pg R X0 w0 true 117 #[(I bM)] fun Y Z a0=>
 un (aB Y true (.agg #[(I cQ),(I cW),(.float .f64 cX),(.float .f64 cY),(I cZ),(I fq),(I fu),(I fv),(I fw),(I fy),fz,fA])) fun b0=>
 jn (fun (c0:Value) (d0:World) (e0:XS)=>
 ax pg e0 d0 (aM Y c0 (B false)) fun g0=>
 un (aB g0 true (I cQ)) fun h0=>
 un (aB g0 true (I bM)) fun i0=>
 ay pg e0 d0 g0 true (vS (aF .eql 3 (.tmp 69) (.tmp 71) h0 i0)) fun j0=>
 ax pg e0 d0 (aM g0 j0 (B false)) fun k0=>
 (fin R e0 d0 k0)) fun l0=>
 (gE Y true (eC pg R a0 Z true 121 #[b0] l0) (l0 undef Z a0)))
 (ab pg X0 w0 (aF .eql 3 (.tmp 4) (.const (I 11)) (I aQ) (I 11)) fun m0=>
 (au m0
 (eC pg R X0 w0 true 117 #[(I bM)] fun n0 o0 q0=>
 (fin R q0 o0 n0))
 (ab pg X0 w0 (aF .eql 3 (.tmp 4) (.const (I 12)) (I aQ) (I 12)) fun r0=>
 (au r0
 (eC pg R X0 w0 true 122 #[(.agg #[(I dm),(I de),(I da)]),(.agg #[(I cV),(I cg),(I bZ)]),(.agg #[(I bq),(I bG),(I bJ)]),cN] fun s0 t0 v0=>
 (fin R v0 t0 s0))
 (ab pg X0 w0 (aF .eql 3 (.tmp 4) (.const (I 14)) (I aQ) (I 14)) fun y0=>
 (au y0
 (eC pg R X0 w0 true 57 #[(.agg #[(I cV),(I cg),(I bZ)])] fun z0 A0 C0=>
 (fin R C0 A0 z0))
 (fin R X0 w0 (B true))))))))))))))) fun D0=>
 ab pg X0 w0 (aF .eql 3 (.tmp 4) (.const (I 1)) (I aQ) (I 1)) fun E0=>
 (au E0
 (D0 E0)
 (ab pg X0 w0 (aF .eql 3 (.tmp 4) (.const (I 2)) (I aQ) (I 2)) fun F0=>
 (au F0
 (D0 F0)
 (ab pg X0 w0 (aF .eql 3 (.tmp 4) (.const (I 3)) (I aQ) (I 3)) fun G0=>
 (au G0
 (D0 G0)
 (ab pg X0 w0 (aF .eql 3 (.tmp 4) (.const (I 4)) (I aQ) (I 4)) fun H0=>
 (au H0
 (D0 H0)
 (ab pg X0 w0 (aF .eql 3 (.tmp 4) (.const (I 5)) (I aQ) (I 5)) fun L0=>
 (au L0
 (D0 L0)
 (ab pg X0 w0 (aF .eql 3 (.tmp 4) (.const (I 6)) (I aQ) (I 6)) fun M0=>
 (au M0
 (D0 M0)
 (ab pg X0 w0 (aF .eql 3 (.tmp 4) (.const (I 7)) (I aQ) (I 7)) fun N0=>
 (D0 N0))))))))))))))))
noncomputable def Kc:bu:=⟨145,[(5,(pg.cellsOf 73)),(6,(pg.cellsOf 158)),(10,(pg.cellsOf 182)),(11,(pg.cellsOf 184))],[28,37,38,43,44,55,68,70,72,74,76,89,98,102,106,107,116,118,120,122,123,134],[0,1,2,7,8,12,18,29,30,45,46,47,48,62,82,111,127,139],[101,103,105,108,109,110],[47]⟩
def zY (p0:Value) (p1 gz gL gM rX vf vg vi Dz DA DB:Int) (xF:Bool) (yP:Int) (yQ:Nat) (uP uQ yR yS:Value) (xG yT:Int) (yU yV:Nat) (yW yX yY xH xI xJ:Int) (yZ sG:Value):Prop:=
 (eC pg R X0 w0 true 123 #[p0,(I p1),(.agg #[(I gz),(I gL),(I gM),(I rX),(I vf),(I vg),(I vi),(I Dz),(I DA),(I DB),(B xF),(I yP),(.float .f64 yQ),uP,uQ,yR,yS,(I xG),(I yT),(.float .f64 yU),(.float .f64 yV),(I yW),(I yX),(I yY),(I xH),(I xI),(I xJ),yZ,sG])] fun a b c=>
 (ab pg c b (aF .neq 27 (.tmp 17) (.const (I 0)) a (I 0)) fun d=>
 (au d
 (ab pg c b (ea 158 #[(I 0),(I 0),(I 0),(I 0),(I 0),(I 0),(I 0),(I 0),(I 0),(.slice none 0 0),(I 0),(I 0),(I 0),(I 0)] #[]) fun e=>
 un (ak (aa e)) fun g=>
 aI (aq (ad (aa e))==14) (aI (av (ad (aa e)) bB.one) ((un (cj g 0 14) fun h=>
 aI (av [g] cu) (fin R c b (aJ #[h,a]))))))
 ((ax pg c b (aP p0) fun i=>
 ab pg c b (aT 174 1 1 1 i) fun j=>
 ab pg c b (ld1 3 j) fun k=>
 ab pg c b (binOp .add 3 k (I 1)) fun l=>
 ax pg c b (aP p0) fun m=>
 ab pg c b (aT 174 1 1 1 m) fun n=>
 eU pg R c b true (st1 3 1 n l) fun _ o q=>
 (((jn (fun (r:World) (s:XS)=>
 (ab pg s r (ea 158 #[(I 0),(I 0),(I 0),(I 0),(I 0),(I 0),(I 0),(I 0),(I 0),(.slice none 0 0),(I 0),(I 0),(I 0),(I 0)] #[]) fun t=>
 un (ak (aa t)) fun v=>
 aI (aq (ad (aa t))==14) (aI (av (ad (aa t)) bB.one) ((un (cj v 0 14) fun y=>
 aI (av [v] cu) (fin R s r (aJ #[y,(I 0)]))))))) fun z=>
 ab pg q o (aF .eql 3 (.tmp 29) (.const (I 1)) (I gz) (I 1)) fun A=>
 (au A
 (ax pg q o (aP p0) fun C=>
 ab pg q o (aT 174 2 2 3 C) fun D=>
 ab pg q o (ek 34 3 D) fun E=>
 eC pg R q o true 31 #[E,(.agg #[(I xH),(I xI),(I xJ)])] fun F G H=>
 ax pg H G (aP p0) fun L=>
 ab pg H G (aT 174 2 2 3 L) fun M=>
 eU pg R H G true (st1 34 3 M F) fun _ N O=>
 (ab pg O N (cp 45 3 sG) fun Q=>
 (gg O N (I 0) 47 fun S T U V Y=>
 ab pg Y V (binOp .lss 3 U Q) fun Z=>
 (au Z
 ((ab pg Y V (cA 45 8 sG U) fun a0=>
 ab pg Y V (ek 182 8 a0) fun b0=>
 un (ak (aa b0)) fun c0=>
 aI (aq (ad (aa b0))==8) (aI (av (ad (aa b0)) bB.one) ((ax pg Y V (aP p0) fun d0=>
 ab pg Y V (aT 174 3 5 1 d0) fun e0=>
 ab pg Y V (ld1 172 e0) fun g0=>
 aI (cu c0) (un (cj c0 0 8) fun h0=>
 eC pg R Y V false 124 #[h0] fun i0 j0 k0=>
 un (cellOf i0 0) fun l0=>
 un (cellOf i0 1) fun m0=>
 un (cellOf i0 2) fun n0=>
 un (cellOf i0 3) fun o0=>
 un (cellOf i0 4) fun q0=>
 un (cellOf i0 5) fun r0=>
 un (cellOf i0 6) fun s0=>
 un (cellOf i0 7) fun t0=>
 ab pg k0 j0 (ea 184 #[l0,m0,n0,o0,q0,r0,s0,t0,(I p1)] #[(0,i0),(1,(I p1))]) fun v0=>
 un (cj c0 0 3) fun y0=>
 eU pg R k0 j0 true (dE 172 g0 y0 v0) fun _ z0 A0=>
 ((ab pg A0 z0 (binOp .add 3 U (I 1)) fun C0=>
 fY S T C0 z0 A0))))))))
 (z V Y)))))
 (ab pg q o (aF .eql 3 (.tmp 29) (.const (I 3)) (I gz) (I 3)) fun D0=>
 (au D0
 (ax pg q o (aP p0) fun E0=>
 ab pg q o (aT 174 3 5 1 E0) fun F0=>
 ab pg q o (ld1 172 F0) fun G0=>
 ab pg q o (ea 182 #[(I gL),(I gM),(I rX),(I vf),(I vg),(I vi),uP,uQ] #[(0,(.agg #[(I gL),(I gM),(I rX)])),(1,(.agg #[(I vf),(I vg),(I vi)])),(2,uP),(3,uQ)]) fun H0=>
 eC pg R q o false 124 #[H0] fun L0 M0 N0=>
 un (cellOf L0 0) fun O0=>
 un (cellOf L0 1) fun Q0=>
 un (cellOf L0 2) fun S0=>
 un (cellOf L0 3) fun T0=>
 un (cellOf L0 4) fun U0=>
 un (cellOf L0 5) fun V0=>
 un (cellOf L0 6) fun Y0=>
 un (cellOf L0 7) fun Z0=>
 ab pg N0 M0 (ea 184 #[O0,Q0,S0,T0,U0,V0,Y0,Z0,(I p1)] #[(0,L0),(1,(I p1))]) fun a1=>
 eU pg R N0 M0 true (dE 172 G0 (.agg #[(I gL),(I gM),(I rX)]) a1) fun _ b1 c1=>
 (z b1 c1))
 (ab pg q o (aF .eql 3 (.tmp 29) (.const (I 4)) (I gz) (I 4)) fun d1=>
 (au d1
 (ax pg q o (aP p0) fun e1=>
 ab pg q o (aT 174 3 5 1 e1) fun g1=>
 ab pg q o (ld1 172 g1) fun h1=>
 ab pg q o (cx 172 h1 (.agg #[(I gL),(I gM),(I rX)]) true) fun i1=>
 ab pg q o (aD i1 0) fun j1=>
 ab pg q o (aD i1 1) fun k1=>
 un (ak (aa j1)) fun l1=>
 aI (aq (ad (aa j1))==9) (aI (av (ad (aa j1)) bB.one) ((ax pg q o (aP p0) fun m1=>
 ab pg q o (aT 174 3 5 1 m1) fun n1=>
 ab pg q o (ld1 172 n1) fun o1=>
 eV pg R q o true (iX #[172,32] 0 #[o1,(.agg #[(I gL),(I gM),(I rX)])]) fun _ q1 r1=>
 (un (aB k1 true (B xF)) fun s1=>
 ax pg r1 q1 (aM k1 s1 (B false)) fun t1=>
 aI (cu l1) (un (cellOf l1 7) fun v1=>
 un (aB t1 true v1) fun y1=>
 ay pg r1 q1 t1 true (vS (cp 37 3 y1)) fun z1=>
 ay pg r1 q1 t1 true (vS (binOp .gtr 3 z1 (I 0))) fun A1=>
 ax pg r1 q1 (aM t1 A1 (B false)) fun C1=>
 (au C1
 (ax pg r1 q1 (aP p0) fun D1=>
 ab pg r1 q1 (aT 174 0 0 1 D1) fun E1=>
 ab pg r1 q1 (ld1 3 E1) fun F1=>
 aI (cu l1) (un (cellOf l1 8) fun G1=>
 ab pg r1 q1 (ea 156 #[F1,G1,(I gL),(I gM),(I rX),(I vf),(I vg),(I vi),v1] #[(0,F1),(1,G1),(2,(.agg #[(I gL),(I gM),(I rX)])),(3,(.agg #[(I vf),(I vg),(I vi)])),(4,v1)]) fun H1=>
 un (cellOf H1 0) fun L1=>
 un (cellOf H1 1) fun M1=>
 un (cellOf H1 2) fun N1=>
 un (cellOf H1 3) fun O1=>
 un (cellOf H1 4) fun Q1=>
 un (cellOf H1 5) fun S1=>
 un (cellOf H1 6) fun T1=>
 un (cellOf H1 7) fun U1=>
 un (cellOf H1 8) fun V1=>
 ab pg r1 q1 (ea 158 #[(I 1),L1,M1,N1,O1,Q1,S1,T1,U1,V1,(I 0),(I 0),(I 0),(I 0)] #[(0,(I 1)),(1,H1)]) fun Y1=>
 un (ak (aa Y1)) fun Z1=>
 aI (aq (ad (aa Y1))==14) (aI (av (ad (aa Y1)) bB.one) ((un (cj Z1 0 14) fun a2=>
 aI (av [Z1] cu) (fin R r1 q1 (aJ #[a2,(I 0)])))))))
 (z q1 r1))))))))
 (ab pg q o (aF .eql 3 (.tmp 29) (.const (I 5)) (I gz) (I 5)) fun b2=>
 (au b2
 (ax pg q o (aP p0) fun c2=>
 ab pg q o (aT 174 2 2 3 c2) fun d2=>
 ab pg q o (ek 34 3 d2) fun e2=>
 eC pg R q o true 31 #[e2,(.agg #[(I vf),(I vg),(I vi)])] fun g2 h2 i2=>
 ax pg i2 h2 (aP p0) fun j2=>
 ab pg i2 h2 (aT 174 2 2 3 j2) fun k2=>
 eU pg R i2 h2 true (st1 34 3 k2 g2) fun _ l2 m2=>
 (z l2 m2))
 (ab pg q o (aF .eql 3 (.tmp 29) (.const (I 6)) (I gz) (I 6)) fun n2=>
 (au n2
 (eC pg R q o true 125 #[p0,(.agg #[(I gz),(I gL),(I gM),(I rX),(I vf),(I vg),(I vi),(I Dz),(I DA),(I DB),(B xF),(I yP),(.float .f64 yQ),uP,uQ,yR,yS,(I xG),(I yT),(.float .f64 yU),(.float .f64 yV),(I yW),(I yX),(I yY),(I xH),(I xI),(I xJ),yZ,sG])] fun o2 q2 r2=>
 un (ak (aa o2)) fun s2=>
 aI (aq (ad (aa o2))==14) (aI (av (ad (aa o2)) bB.one) ((un (cj s2 0 14) fun t2=>
 aI (av [s2] cu) (fin R r2 q2 (aJ #[t2,(I 0)]))))))
 (z o q))))))))))))))))))
noncomputable def Ep:bu:=⟨51,[(3,(pg.cellsOf 156)),(4,(pg.cellsOf 102))],[10,15,17,19,23],[0,1,34],[26,27,28,29,30,31,32,33],[]⟩
def vH (p0:Value) (bS bY bW dW ey eN eE eG:Int) (gl:Value):Prop:=
 (ax pg X0 w0 (aP p0) fun a=>
 ab pg X0 w0 (aT 93 8 13 3 a) fun b=>
 ab pg X0 w0 (ek 34 3 b) fun c=>
 eC pg R X0 w0 true 31 #[c,(.agg #[(I eN),(I eE),(I eG)])] fun d e g=>
 ax pg g e (aP p0) fun h=>
 ab pg g e (aT 93 8 13 3 h) fun i=>
 eU pg R g e true (st1 34 3 i d) fun _ j k=>
 (ab pg k j (ea 102 #[(I bS),(I bY),(I eN),(I eE),(I eG)] #[(0,(I bS)),(1,(I bY)),(2,(.agg #[(I eN),(I eE),(I eG)]))]) fun l=>
 un (ak (aa l)) fun m=>
 aI (aq (ad (aa l))==5) (aI (av (ad (aa l)) bB.one) ((eC pg R k j true 34 #[p0,(.agg #[(I eN),(I eE),(I eG)])] fun n o q=>
 un (aB n true p0) fun r=>
 ay pg q o n true (aP r) fun s=>
 ay pg q o n true (vS (aT 93 7 12 1 s)) fun t=>
 ay pg q o n true (vS (ld1 91 t)) fun v=>
 aI (cu m) (un (cj m 0 5) fun y=>
 un (aB n true y) fun z=>
 jn (fun (A:Value) (C:World) (D:XS)=>
 ay pg D C n true (vS (aU bh A)) fun E=>
 ax pg D C (aM n E (B false)) fun F=>
 (au F
 (ax pg D C (aP p0) fun G=>
 ab pg D C (aT 93 7 12 1 G) fun H=>
 ab pg D C (ld1 91 H) fun L=>
 aI (cu m) (eV pg R D C false (gG 91 102 5 1 #[(0,y)]) fun M N O=>
 eV pg R O N true (ga 91 102 5 40 91 L M) fun Q S T=>
 ax pg T S (aP p0) fun U=>
 ab pg T S (aT 93 7 12 1 U) fun V=>
 eU pg R T S true (st1 91 1 V Q) fun _ Y Z=>
 (ax pg Z Y (aP p0) fun a0=>
 ab pg Z Y (aT 93 2 5 1 a0) fun b0=>
 ab pg Z Y (ld1 80 b0) fun c0=>
 eC pg R Z Y true 127 #[c0,(.agg #[(I bS),(I bY),(I bW),(I dW),(I ey),(I eN),(I eE),(I eG),gl])] fun _ d0 e0=>
 fin R e0 d0 (aJ #[]))))
 (fin R D C (aJ #[])))) fun g0=>
 (gE n true (eC pg R q o true 126 #[v,z] g0) (g0 undef o q))))))))
noncomputable def Cm:bu:=⟨33,[(5,(pg.cellsOf 34)),(7,(pg.cellsOf 34))],[],[0,1,2,6,8,18,21],[],[]⟩
def tR (p0:Value) (p1 gz gL gM:Int):Prop:=
 (ax pg X0 w0 (aP p0) fun a=>
 ab pg X0 w0 (aT 128 3 5 1 a) fun b=>
 ab pg X0 w0 (ld1 126 b) fun c=>
 ab pg X0 w0 (cx 126 c (I p1) true) fun d=>
 ab pg X0 w0 (aD d 0) fun e=>
 ab pg X0 w0 (aD d 1) fun g=>
 un (ak (aa e)) fun h=>
 aI (aq (ad (aa e))==3) (aI (av (ad (aa e)) bB.one) ((ab pg X0 w0 (aU bh g) fun i=>
 (au i
 (fin R X0 w0 (I 8))
 (eC pg R X0 w0 true 57 #[(.agg #[(I gz),(I gL),(I gM)])] fun j k l=>
 ab pg l k (aU bh j) fun m=>
 (au m
 (fin R l k (I 17))
 (((ax pg l k (aP p0) fun n=>
 ab pg l k (aT 128 3 5 1 n) fun o=>
 ab pg l k (ld1 126 o) fun q=>
 aI (cu h) (un (cj h 0 3) fun r=>
 eC pg R l k false 31 #[r,(.agg #[(I gz),(I gL),(I gM)])] fun s t v=>
 eU pg R v t true (dE 126 q (I p1) s) fun _ y z=>
 (fin R z y (I 0)))))))))))))
def vA (p0:Value):Prop:=
 (ax pg X0 w0 (aP p0) fun a=>
 ab pg X0 w0 (aT 174 2 2 3 a) fun b=>
 ab pg X0 w0 (ek 34 3 b) fun c=>
 un (ak (aa c)) fun d=>
 aI (aq (ad (aa c))==3) (aI (av (ad (aa c)) bB.one) ((ax pg X0 w0 (aP p0) fun e=>
 ab pg X0 w0 (aT 174 3 5 1 e) fun g=>
 ab pg X0 w0 (ld1 172 g) fun h=>
 eV pg R X0 w0 true (kX 172 h) fun i j k=>
 (gg k j d 3 fun l m n o q=>
 eV pg R q o true (yG i false 0) fun r s t=>
 ab pg t s (aD r 0) fun v=>
 (au v
 (((jn (fun (y:Value) (z:World) (A:XS)=>
 fY l m y z A) fun C=>
 eV pg R t s true (gV i) fun D E F=>
 ab pg F E (aD D 1) fun G=>
 un (ak (aa G)) fun H=>
 aI (aq (ad (aa G))==9) (aI (av (ad (aa G)) bB.one) ((aI (cu H) (un (cj H 3 3) fun L=>
 eC pg R F E true 128 #[L] fun M N O=>
 ab pg O N (aD M 0) fun Q=>
 ab pg O N (aD M 1) fun _=>
 un (ak (aa Q)) fun S=>
 aI (aq (ad (aa Q))==3) (aI (av (ad (aa Q)) bB.one) ((aI (cu S) (aI (cu n) (un (cj S 0 3) fun T=>
 un (cj n 0 3) fun U=>
 eC pg R O N true 84 #[T,U] fun V Y Z=>
 ab pg Z Y (binOp .lss 3 V (I 0)) fun a0=>
 (au a0
 (aI (cu S) (aI (cu n) (un (ak (aa T)) fun b0=>
 aI (aq (ad (aa T))==3) (aI (av (ad (aa T)) bB.one) (C b0 Y Z)))))
 (C n Y Z))))))))))))))
 (((aI (cu n) (un (cj n 0 3) fun c0=>
 un (ak (aa c0)) fun d0=>
 aI (aq (ad (aa c0))==3) (aI (av (ad (aa c0)) bB.one) (un (cj d0 0 3) fun e0=>
 aI (av [d0] cu) (fin R t s e0)))))))))))))
def xi (p0:Value):Prop:=
 (eC pg R X0 w0 true 96 #[p0] fun a b c=>
 ab pg c b (aD a 0) fun d=>
 ab pg c b (aD a 1) fun e=>
 un (ak (aa d)) fun g=>
 aI (aq (ad (aa d))==3) (aI (av (ad (aa d)) bB.one) ((ab pg c b (aU bh e) fun h=>
 (au h
 (fin R c b (.slice none 0 0))
 ((ax pg c b (aP p0) fun i=>
 ab pg c b (aT 128 0 0 1 i) fun j=>
 ab pg c b (ld1 125 j) fun k=>
 aI (cu g) (un (cj g 0 3) fun l=>
 eC pg R c b true 129 #[k,l] fun m n o=>
 ((jn (fun (q:World) (r:XS)=>
 (fin R r q m)) fun s=>
 ab pg o n (cp 63 3 m) fun t=>
 ab pg o n (binOp .gtr 3 t (I 0)) fun v=>
 (au v
 (ab pg o n (cp 63 3 m) fun y=>
 ab pg o n (binOp .sub 3 y (I 1)) fun z=>
 ab pg o n (cA 63 7 m z) fun A=>
 ab pg o n (aT 69 1 3 3 A) fun C=>
 ab pg o n (ek 34 3 C) fun D=>
 ax pg o n (aP p0) fun E=>
 ab pg o n (aT 128 2 2 3 E) fun F=>
 eU pg R o n true (st1 34 3 F D) fun _ G H=>
 (s G H))
 (s n o))))))))))))
noncomputable def Pf:bu:=⟨37,[(2,(pg.cellsOf 34)),(3,(pg.cellsOf 34))],[7,9,11,13,20,22,25,27],[0,1,4,5,6,15,19,29,33],[],[]⟩
def Er (aQ aV aW bS bY bW:Int):Prop:=
 (((jn (fun (a b:Value)=>
 (ab pg X0 w0 (binOp .lss 3 a b) fun c=>
 (au c
 ((fin R X0 w0 (I (-1))))
 (ab pg X0 w0 (binOp .gtr 3 a b) fun d=>
 (au d
 (fin R X0 w0 (I 1))
 (fin R X0 w0 (I 0))))))) fun e=>
 ab pg X0 w0 (aF .neq 3 (.tmp 16) (.tmp 17) (I aQ) (I bS)) fun g=>
 (au g
 (e (I aQ) (I bS))
 (ab pg X0 w0 (aF .neq 3 (.tmp 21) (.tmp 23) (I aV) (I bY)) fun h=>
 (au h
 (e (I aV) (I bY))
 (e (I aW) (I bW))))))))
def kl (p0 p1:Value):Prop:=
 (ab pg X0 w0 (cp 63 3 p0) fun a=>
 (gg X0 w0 (I 0) 8 fun b c d e g=>
 ab pg g e (binOp .lss 3 d a) fun h=>
 (au h
 (((ab pg g e (cA 63 7 p0 d) fun i=>
 ab pg g e (ek 69 7 i) fun j=>
 eF pg R g e true p1 #[j] fun k l m=>
 (au k
 (fin R m l d)
 (((ab pg m l (binOp .add 3 d (I 1)) fun n=>
 fY b c n l m)))))))
 ((((fin R g e (I (-1)))))))))
def km (p0 p1:Value):Prop:=
 (ab pg X0 w0 (cp 91 3 p0) fun a=>
 (gg X0 w0 (I 0) 8 fun b c d e g=>
 ab pg g e (binOp .lss 3 d a) fun h=>
 (au h
 (((ab pg g e (cA 91 5 p0 d) fun i=>
 ab pg g e (ek 102 5 i) fun j=>
 eF pg R g e true p1 #[j] fun k l m=>
 (au k
 (fin R m l d)
 (((ab pg m l (binOp .add 3 d (I 1)) fun n=>
 fY b c n l m)))))))
 ((((fin R g e (I (-1)))))))))
noncomputable def Mg:bu:=⟨24,[(2,(pg.cellsOf 116)),(3,(pg.cellsOf 116))],[5,7,11,13,18,20],[0,1,4],[10,12,14,15,17,19,21,22],[]⟩
def Ce (aQ:Int) (aV:Nat) (aW:ByteArray) (bS:Int) (bY:Nat) (bW:ByteArray):Prop:=
 (ab pg X0 w0 (aF .eql 3 (.tmp 6) (.tmp 8) (I aQ) (I bS)) fun a=>
 un (aB a true (.string aW)) fun b=>
 un (aB a true (.string bW)) fun c=>
 ay pg X0 w0 a true (vS (aF .eql 9 (.tmp 12) (.tmp 14) b c)) fun d=>
 ax pg X0 w0 (aM a d (B false)) fun e=>
 un (aB e true (.float .f64 aV)) fun g=>
 un (aB e true (.float .f64 bY)) fun h=>
 jn (fun (i:Value) (j:World) (k:XS)=>
 ax pg k j (aM e i (B false)) fun l=>
 (fin R k j l)) fun m=>
 (gE e true (eC pg R X0 w0 true 130 #[g,h] m) (m undef w0 X0)))
noncomputable def Mh:bu:=⟨31,[(2,(pg.cellsOf 43)),(3,(pg.cellsOf 43))],[5,7,11,13,18,20,25,27],[0,1,4],[10,12,14,15,17,19,21,22,24,26,28,29],[]⟩
def Cf (aQ aV:Int) (aW bq:Nat) (bS bY:Int) (bW dW:Nat):Prop:=
 (ab pg X0 w0 (aF .eql 3 (.tmp 6) (.tmp 8) (I aQ) (I bS)) fun a=>
 un (aB a true (I aV)) fun b=>
 un (aB a true (I bY)) fun c=>
 ay pg X0 w0 a true (vS (aF .eql 3 (.tmp 12) (.tmp 14) b c)) fun d=>
 ax pg X0 w0 (aM a d (B false)) fun e=>
 un (aB e true (.float .f64 aW)) fun g=>
 un (aB e true (.float .f64 bW)) fun h=>
 jn (fun (i:Value) (j:World) (k:XS)=>
 ax pg k j (aM e i (B false)) fun l=>
 un (aB l true (.float .f64 bq)) fun m=>
 un (aB l true (.float .f64 dW)) fun n=>
 jn (fun (o:Value) (q:World) (r:XS)=>
 ax pg r q (aM l o (B false)) fun s=>
 (fin R r q s)) fun t=>
 (gE l true (eC pg R k j true 130 #[m,n] t) (t undef j k))) fun v=>
 (gE e true (eC pg R X0 w0 true 130 #[g,h] v) (v undef w0 X0)))
def xu (p0 p1:Value):Prop:=
 (ab pg X0 w0 (cp 44 3 p0) fun a=>
 ab pg X0 w0 (cp 44 3 p1) fun b=>
 ab pg X0 w0 (aF .neq 3 (.tmp 10) (.tmp 12) a b) fun c=>
 (au c
 (fin R X0 w0 (B false))
 (((ix X0 w0 (I 0) undef 5 6 fun d e g _ h i=>
 ab pg i h (cp 44 3 p0) fun j=>
 ab pg i h (binOp .lss 3 g j) fun k=>
 (au k
 ((ab pg i h (cA 44 2 p0 g) fun l=>
 ab pg i h (aT 225 0 0 1 l) fun m=>
 ab pg i h (ld1 9 m) fun n=>
 ab pg i h (cA 44 2 p1 g) fun o=>
 ab pg i h (aT 225 0 0 1 o) fun q=>
 ab pg i h (ld1 9 q) fun r=>
 ab pg i h (aF .neq 9 (.tmp 24) (.tmp 29) n r) fun s=>
 un (aB s false p0) fun t=>
 un (aB s false g) fun v=>
 ay pg i h s false (vS (cA 44 2 t v)) fun y=>
 ay pg i h s false (vS (aT 225 1 1 1 y)) fun z=>
 ay pg i h s false (vS (ld1 223 z)) fun A=>
 ay pg i h s false (vS (cp 223 3 A)) fun C=>
 un (aB s false p1) fun D=>
 ay pg i h s false (vS (cA 44 2 D v)) fun E=>
 ay pg i h s false (vS (aT 225 1 1 1 E)) fun F=>
 ay pg i h s false (vS (ld1 223 F)) fun G=>
 ay pg i h s false (vS (cp 223 3 G)) fun H=>
 ay pg i h s false (vS (aF .neq 3 (.tmp 37) (.tmp 43) C H)) fun L=>
 ax pg i h (aM s (B true) L) fun M=>
 (au M
 (fin R i h (B false))
 (((gg i h (I 0) 6 fun N O Q S T=>
 ab pg T S (cA 44 2 p0 g) fun U=>
 ab pg T S (aT 225 1 1 1 U) fun V=>
 ab pg T S (ld1 223 V) fun Y=>
 ab pg T S (cp 223 3 Y) fun Z=>
 ab pg T S (binOp .lss 3 Q Z) fun a0=>
 (au a0
 ((ab pg T S (cA 44 2 p0 g) fun b0=>
 ab pg T S (aT 225 1 1 1 b0) fun c0=>
 ab pg T S (ld1 223 c0) fun d0=>
 ab pg T S (cA 223 6 d0 Q) fun e0=>
 ab pg T S (ek 227 6 e0) fun g0=>
 ab pg T S (cA 44 2 p1 g) fun h0=>
 ab pg T S (aT 225 1 1 1 h0) fun i0=>
 ab pg T S (ld1 223 i0) fun j0=>
 ab pg T S (cA 223 6 j0 Q) fun k0=>
 ab pg T S (ek 227 6 k0) fun l0=>
 un (ak (aa g0)) fun m0=>
 aI (aq (ad (aa g0))==6) (aI (av (ad (aa g0)) bB.one) (un (ak (aa l0)) fun n0=>
 aI (aq (ad (aa l0))==6) (aI (av (ad (aa l0)) bB.one) ((aI (cu m0) (aI (cu n0) (un (cj m0 0 3) fun o0=>
 un (cj n0 0 3) fun q0=>
 ab pg T S (aF .neq 34 (.tmp 73) (.tmp 75) o0 q0) fun r0=>
 un (cj m0 3 3) fun s0=>
 un (aB r0 false s0) fun t0=>
 un (cj n0 3 3) fun v0=>
 un (aB r0 false v0) fun y0=>
 jn (fun (z0:Value) (A0:World) (C0:XS)=>
 ay pg C0 A0 r0 false (vS (aU bh z0)) fun D0=>
 ax pg C0 A0 (aM r0 (B true) D0) fun E0=>
 (au E0
 (fin R C0 A0 (B false))
 (((ab pg C0 A0 (binOp .add 3 Q (I 1)) fun F0=>
 fY N O F0 A0 C0))))) fun G0=>
 (gE r0 false (eC pg R T S true 88 #[t0,y0] G0) (G0 undef S T)))))))))))
 ((((ab pg T S (binOp .add 3 g (I 1)) fun H0=>
 iy d e H0 Q S T)))))))))))
 (fin R i h (B true))))))))
def yk (p0 p1:Value):Prop:=
 (ab pg X0 w0 (cp 45 3 p0) fun a=>
 ab pg X0 w0 (cp 45 3 p1) fun b=>
 ab pg X0 w0 (aF .neq 3 (.tmp 7) (.tmp 9) a b) fun c=>
 (au c
 (fin R X0 w0 (B false))
 (((gg X0 w0 (I 0) 5 fun d e g h i=>
 ab pg i h (cp 45 3 p0) fun j=>
 ab pg i h (binOp .lss 3 g j) fun k=>
 (au k
 ((ab pg i h (cA 45 8 p0 g) fun l=>
 ab pg i h (ek 182 8 l) fun m=>
 ab pg i h (cA 45 8 p1 g) fun n=>
 ab pg i h (ek 182 8 n) fun o=>
 eC pg R i h true 132 #[m,o] fun q r s=>
 ab pg s r (aU bh q) fun t=>
 (au t
 (fin R s r (B false))
 (((ab pg s r (binOp .add 3 g (I 1)) fun v=>
 fY d e v r s))))))
 (fin R i h (B true))))))))
def vG (p0:Value):Prop:=
 ((eC pg R X0 w0 true 97 #[p0] fun a b c=>
 ab pg c b (cp 38 3 a) fun d=>
 (ix c b (I 0) (.agg #[(I 0),(I 0),(I 0)]) 11 4 fun e g h i j k=>
 ab pg k j (binOp .lss 3 h d) fun l=>
 (au l
 (((jn (fun (m:Value) (n:World) (o:XS)=>
 (ab pg o n (binOp .add 3 h (I 1)) fun q=>
 iy e g q m n o)) fun r=>
 ab pg k j (cA 38 1 a h) fun s=>
 ab pg k j (ld1 3 s) fun t=>
 (ax pg k j (aP p0) fun v=>
 ab pg k j (aT 128 3 5 1 v) fun y=>
 ab pg k j (ld1 126 y) fun z=>
 ab pg k j (cx 126 z t false) fun A=>
 un (ak (aa A)) fun C=>
 aI (aq (ad (aa A))==3) (aI (av (ad (aa A)) bB.one) ((ab pg k j (aF .eql 3 (.tmp 22) (.const (I 0)) h (I 0)) fun D=>
 aI (cu C) (un (cj C 0 3) fun E=>
 un (aB D false E) fun F=>
 aI (cu i) (un (cj i 0 3) fun G=>
 un (aB D false G) fun H=>
 jn (fun (L:Value) (M:World) (N:XS)=>
 ay pg N M D false (vS (binOp .lss 3 L (I 0))) fun O=>
 ax pg N M (aM D (B true) O) fun Q=>
 (au Q
 (aI (cu C) (aI (cu i) (un (ak (aa E)) fun S=>
 aI (aq (ad (aa E))==3) (aI (av (ad (aa E)) bB.one) (r S M N)))))
 (r i M N))) fun T=>
 (gE D false (eC pg R k j true 84 #[F,H] T) (T undef j k)))))))))))
 (((aI (cu i) (ax pg k j (aP p0) fun U=>
 ab pg k j (aT 128 3 5 1 U) fun V=>
 ab pg k j (ld1 126 V) fun Y=>
 ab pg k j (fg #[126] 3 #[Y]) fun Z=>
 ab pg k j (binOp .gtr 3 Z (I 0)) fun a0=>
 un (cj i 0 3) fun b0=>
 un (ak (aa b0)) fun c0=>
 aI (aq (ad (aa b0))==3) (aI (av (ad (aa b0)) bB.one) ((un (cj c0 0 3) fun d0=>
 aI (av [c0] cu) (fin R k j (aJ #[d0,a0])))))))))))))
def uC (p0:Value):Prop:=
 (ax pg X0 w0 (aP p0) fun a=>
 ab pg X0 w0 (aT 128 3 5 1 a) fun b=>
 ab pg X0 w0 (ld1 126 b) fun c=>
 eC pg R X0 w0 true 136 #[c] fun d e g=>
 eC pg R g e true 46 #[d] fun h i j=>
 (fin R j i h))
noncomputable def Kd:bu:=⟨11,[],[],[0,1,4,7,10],[],[]⟩
def Au (p0 p1:Int):Prop:=
 (ab pg X0 w0 (binOp .lss 3 (I p0) (I p1)) fun a=>
 (au a
 ((fin R X0 w0 (I (-1))))
 ((ab pg X0 w0 (binOp .gtr 3 (I p0) (I p1)) fun b=>
 (au b
 (fin R X0 w0 (I 1))
 (fin R X0 w0 (I 0)))))))
noncomputable def tE:bu:=⟨9,[],[],[0,1,4],[],[]⟩
def mN (p0:Value) (p1:ByteArray):Prop:=
 (eC pg R X0 w0 true 137 #[p0,(.string p1)] fun a b c=>
 ab pg c b (binOp .geq 3 a (I 0)) fun d=>
 (fin R c b d))
def Ag (p0:Value):Prop:=
 (ax pg X0 w0 (aP p0) fun a=>
 ab pg X0 w0 (aT 79 0 0 1 a) fun b=>
 ab pg X0 w0 (ld1 77 b) fun c=>
 eC pg R X0 w0 true 139 #[c] fun d e g=>
 eC pg R g e true 138 #[d] fun h i j=>
 (fin R j i h))
noncomputable def G9:bu:=⟨29,[],[],[0,1,2,3,4,5,6,10,18],[],[]⟩
def x4 (p0:Value) (p1:ByteArray):Prop:=
 eV pg R X0 w0 true (cL 24 p0) fun a b c=>
 eV pg R c b true (cL 9 (.string p1)) fun d e g=>
 (((jn (fun (h:Value) (i:World) (j:XS)=>
 (ab pg j i (ld1 24 a) fun k=>
 ab pg j i (cz (eS 145) #[] #[a,d]) fun l=>
 eC pg R j i true 140 #[k,h,l] fun m n o=>
 (fin R o n m))) fun q=>
 ab pg g e (ld1 9 d) fun r=>
 eC pg R g e true 144 #[r] fun s t v=>
 ab pg v t (aU bh s) fun y=>
 (au y
 (q (I 10) t v)
 (ab pg v t (ld1 24 a) fun z=>
 ax pg v t (aP z) fun A=>
 ab pg v t (aT 79 0 0 1 A) fun C=>
 ab pg v t (ld1 77 C) fun D=>
 ab pg v t (ld1 9 d) fun E=>
 ab pg v t (cx 77 D E false) fun F=>
 ab pg v t (aF .neq 191 (.tmp 16) (.const (.pointer none)) F (.pointer none)) fun G=>
 (au G
 (q (I 9) t v)
 (ab pg v t (ld1 24 a) fun H=>
 ax pg v t (aP H) fun L=>
 ab pg v t (aT 79 0 0 1 L) fun M=>
 ab pg v t (ld1 77 M) fun N=>
 ab pg v t (fg #[77] 3 #[N]) fun O=>
 ab pg v t (binOp .geq 3 O (I 64)) fun Q=>
 (au Q
 (q (I 3) t v)
 (q (I 0) t v)))))))))
def D4 (p0:Value):Prop:=
 (ab pg X0 w0 (cp 132 3 p0) fun a=>
 ab pg X0 w0 (binOp .gtr 3 a (I 262144)) fun b=>
 (au b
 ((fin R X0 w0 (aJ #[(.slice none 0 0),(I 2)])))
 ((ab pg X0 w0 (cp 132 3 p0) fun c=>
 ab pg X0 w0 (binOp .add 3 c (I 12)) fun d=>
 eV pg R X0 w0 true (Instr.makeSlice 132 (I 0) d) fun e g h=>
 ab pg h g (cp 132 3 p0) fun i=>
 ab pg h g (mF gj 3 194 i) fun j=>
 eC pg R h g true 146 #[e,j] fun k l m=>
 (eC pg R m l true 108 #[k] fun n o q=>
 eC pg R q o true 146 #[k,n] fun r s t=>
 (eV pg R t s true (ga 132 5 1 1 132 r p0) fun v y z=>
 (eC pg R z y true 108 #[p0] fun A C D=>
 eC pg R D C true 146 #[v,A] fun E F G=>
 (fin R G F (aJ #[E,(I 0)])))))))))
noncomputable def Ha:bu:=⟨53,[],[],[0,1,2,6,7,8,15,20,23,52],[],[]⟩
def xZ (p0:Value) (p1:ByteArray) (p2:Value):Prop:=
 (ax pg X0 w0 (aP p0) fun a=>
 ab pg X0 w0 (aT 79 0 0 1 a) fun b=>
 ab pg X0 w0 (ld1 77 b) fun c=>
 ab pg X0 w0 (cx 77 c (.string p1) false) fun d=>
 (ax pg X0 w0 (aP p0) fun e=>
 ab pg X0 w0 (aT 79 4 4 1 e) fun g=>
 ab pg X0 w0 (ld1 4 g) fun h=>
 (au h
 (fin R X0 w0 (I 12))
 (ab pg X0 w0 (aF .eql 191 (.tmp 21) (.const (.pointer none)) d (.pointer none)) fun i=>
 (au i
 (fin R X0 w0 (I 8))
 (ab pg X0 w0 (cp 132 3 p2) fun j=>
 ax pg X0 w0 (aP p0) fun k=>
 ab pg X0 w0 (aT 79 1 1 1 k) fun l=>
 ab pg X0 w0 (ld1 3 l) fun m=>
 ab pg X0 w0 (binOp .sub 3 (I 4194304) m) fun n=>
 ab pg X0 w0 (binOp .gtr 3 j n) fun o=>
 (au o
 (fin R X0 w0 (I 11))
 (((eC pg R X0 w0 true 147 #[p0] fun q r s=>
 (ax pg s r (aP d) fun t=>
 ab pg s r (aT 193 0 0 1 t) fun v=>
 ab pg s r (ld1 132 v) fun y=>
 eV pg R s r true (ga 132 5 1 1 132 y p2) fun z A C=>
 ax pg C A (aP d) fun D=>
 ab pg C A (aT 193 0 0 1 D) fun E=>
 eU pg R C A true (st1 132 1 E z) fun _ F G=>
 (ax pg G F (aP p0) fun H=>
 ab pg G F (aT 79 1 1 1 H) fun L=>
 ab pg G F (ld1 3 L) fun M=>
 ab pg G F (cp 132 3 p2) fun N=>
 ab pg G F (binOp .add 3 M N) fun O=>
 ax pg G F (aP p0) fun Q=>
 ab pg G F (aT 79 1 1 1 Q) fun S=>
 eU pg R G F true (st1 3 1 S O) fun _ T U=>
 ((au q
 (fin R U T (I 12))
 (fin R U T (I 0))))))))))))))))
noncomputable def Ke:bu:=⟨11,[],[],[0,1,2,3,4],[],[]⟩
def Ae (p0:Value) (p1:ByteArray):Prop:=
 eV pg R X0 w0 true (cL 24 p0) fun a b c=>
 eV pg R c b true (cL 9 (.string p1)) fun d e g=>
 (ab pg g e (ld1 24 a) fun h=>
 ab pg g e (ld1 24 a) fun i=>
 ab pg g e (ld1 9 d) fun j=>
 ab pg g e (cz (eS 148) #[] #[a,d]) fun k=>
 eC pg R g e false 141 #[i,j] fun l m n=>
 eC pg R n m true 140 #[h,l,k] fun o q r=>
 (fin R r q o))
noncomputable def Hb:bu:=⟨22,[],[],[0,1,2,3,4,5,6,7,17],[13,14,15,16],[]⟩
def yd (p0:Value) (p1 p2:ByteArray):Prop:=
 eV pg R X0 w0 true (cL 24 p0) fun a b c=>
 eV pg R c b true (cL 9 (.string p1)) fun d e g=>
 eV pg R g e true (cL 9 (.string p2)) fun h i j=>
 (ab pg j i (ld1 24 a) fun k=>
 ab pg j i (ld1 9 d) fun l=>
 eC pg R j i true 141 #[k,l] fun m n o=>
 ((jn (fun (q:Value) (r:World) (s:XS)=>
 ab pg s r (ld1 24 a) fun t=>
 ab pg s r (cz (eS 149) #[] #[d,h,a]) fun v=>
 eC pg R s r true 140 #[t,q,v] fun y z A=>
 (fin R A z y)) fun C=>
 ab pg o n (aF .eql 27 (.tmp 11) (.const (I 0)) m (I 0)) fun D=>
 ay pg o n D true (vS (ld1 9 h)) fun E=>
 jn (fun (F:Value) (G:World) (H:XS)=>
 ay pg H G D true (vS (aU bh F)) fun L=>
 ax pg H G (aM D L (B false)) fun M=>
 (au M
 (C (I 10) G H)
 (C m G H))) fun N=>
 (gE D true (eC pg R o n true 144 #[E] N) (N undef n o)))))
def HV (p0:Value):Prop:=
 ((ab pg X0 w0 (cp 132 3 p0) fun a=>
 ab pg X0 w0 (binOp .lss 3 a (I 64)) fun b=>
 (au b
 (ab pg X0 w0 (cp 132 3 p0) fun c=>
 (rr X0 w0 (I 0) undef (aZ gj 4294967295) 14 22 3 fun d e g _ h i j=>
 ab pg j i (binOp .lss 3 g c) fun k=>
 (au k
 ((ab pg j i (cA 132 1 p0 g) fun l=>
 ab pg j i (ld1 5 l) fun m=>
 (ab pg j i (mF gj 5 194 m) fun n=>
 ab pg j i (binOp .xor 194 h n) fun o=>
 ((ix j i (I 0) o 22 3 fun q r s t v y=>
 ab pg y v (binOp .lss 3 s (I 8)) fun z=>
 (au z
 ((ab pg y v (binOp .shr 194 t (aZ bz 1)) fun A=>
 ab pg y v (binOp .and 194 t (aZ gj 1)) fun C=>
 ab pg y v (aU UnOp.neg C) fun D=>
 ab pg y v (binOp .and 194 (aZ gj 2197175160) D) fun E=>
 ab pg y v (binOp .xor 194 A E) fun F=>
 ((ab pg y v (binOp .add 3 s (I 1)) fun G=>
 iy q r G F v y))))
 ((((ab pg y v (binOp .add 3 g (I 1)) fun H=>
 ru d e H s t v y))))))))))
 (ab pg j i (aU UnOp.xor h) fun L=>
 (fin R j i L)))))
 ((eC pg R X0 w0 true 150 #[] fun M N O=>
 eV pg R O N true (Instr.alloc 243 true (aJ #[])) fun Q S T=>
 eU pg R T S true (st1 243 256 Q M) fun _ U V=>
 (ab pg V U (cp 132 3 p0) fun Y=>
 (ix V U (I 0) (aZ gj 4294967295) 38 3 fun Z a0 b0 c0 d0 e0=>
 ab pg e0 d0 (binOp .lss 3 b0 Y) fun g0=>
 (au g0
 ((ab pg e0 d0 (cA 132 1 p0 b0) fun h0=>
 ab pg e0 d0 (ld1 5 h0) fun i0=>
 (ab pg e0 d0 (binOp .shr 194 c0 (aZ bz 8)) fun j0=>
 ab pg e0 d0 (mF gS 194 5 c0) fun k0=>
 ab pg e0 d0 (binOp .xor 5 k0 i0) fun l0=>
 ab pg e0 d0 (Instr.indexAt 243 Q l0) fun m0=>
 ab pg e0 d0 (ld1 194 m0) fun n0=>
 ab pg e0 d0 (binOp .xor 194 j0 n0) fun o0=>
 ((ab pg e0 d0 (binOp .add 3 b0 (I 1)) fun q0=>
 iy Z a0 q0 o0 d0 e0)))))
 (ab pg e0 d0 (aU UnOp.xor c0) fun r0=>
 (fin R e0 d0 r0))))))))))
def z7:Prop:=
 (ab pg X0 w0 (ea 247 #[(.slice none 0 0)] #[]) fun a=>
 eV pg R X0 w0 true (cL 247 a) fun b c d=>
 (fin R d c b))
noncomputable def IF:bu:=⟨39,[],[],[0,1,4,9,13],[],[4]⟩
def zl (p0:Value) (p1:Int):Prop:=
 ab pg X0 w0 (mF bz 3 208 (I p1)) fun a=>
 ab pg X0 w0 (binOp .shl 208 a (aZ bz 1)) fun b=>
 ((jn (fun (c:Value)=>
 gg X0 w0 c 4 fun d e g h i=>
 ab pg i h (binOp .geq 208 g (aZ bz 128)) fun j=>
 (au j
 ((ax pg i h (aP p0) fun k=>
 ab pg i h (aT 247 0 0 1 k) fun l=>
 ab pg i h (ld1 132 l) fun m=>
 ab pg i h (mF gS 208 5 g) fun n=>
 ab pg i h (binOp .or 5 n (aZ gS 128)) fun o=>
 eV pg R i h true (gG 132 5 1 1 #[(0,o)]) fun q r s=>
 eV pg R s r true (ga 132 5 1 1 132 m q) fun t v y=>
 ax pg y v (aP p0) fun z=>
 ab pg y v (aT 247 0 0 1 z) fun A=>
 eU pg R y v true (st1 132 1 A t) fun _ C D=>
 (ab pg D C (binOp .shr 208 g (aZ bz 7)) fun E=>
 (fY d e E C D))))
 (((ax pg i h (aP p0) fun F=>
 ab pg i h (aT 247 0 0 1 F) fun G=>
 ab pg i h (ld1 132 G) fun H=>
 ab pg i h (mF gS 208 5 g) fun L=>
 eV pg R i h true (gG 132 5 1 1 #[(0,L)]) fun M N O=>
 eV pg R O N true (ga 132 5 1 1 132 H M) fun Q S T=>
 ax pg T S (aP p0) fun U=>
 ab pg T S (aT 247 0 0 1 U) fun V=>
 eU pg R T S true (st1 132 1 V Q) fun _ Y Z=>
 fin R Z Y (aJ #[])))))) fun a0=>
 ab pg X0 w0 (binOp .lss 3 (I p1) (I 0)) fun b0=>
 (au b0
 (ab pg X0 w0 (aU UnOp.xor b) fun c0=>
 (a0 c0))
 (a0 b))))
def wF (p0:Value):Prop:=
 (eV pg R X0 w0 true (gG 132 5 1 0 #[]) fun a b c=>
 ax pg c b (aP p0) fun d=>
 ab pg c b (aT 247 0 0 1 d) fun e=>
 ab pg c b (ld1 132 e) fun g=>
 eV pg R c b true (ga 132 5 1 1 132 a g) fun h i j=>
 (fin R j i h))
noncomputable def AV:bu:=⟨60,[],[],[0,1,4,5,6,7,16,41],[12,13,14,15,37,38,39,40],[5,6,7]⟩
def sH (p0:Value) (p1:Int):Prop:=
 (((rr X0 w0 (I 0) undef (I 0) 6 7 5 fun a b c _ d e g=>
 ab pg g e (cp 44 3 p0) fun h=>
 ab pg g e (binOp .lss 3 c h) fun i=>
 un (aB i true d) fun j=>
 un (aB i true (I p1)) fun k=>
 ay pg g e i true (vS (binOp .leq 3 j k)) fun l=>
 ax pg g e (aM i l (B false)) fun m=>
 (au m
 ((ab pg g e (cA 44 2 p0 c) fun n=>
 ab pg g e (aT 225 0 0 1 n) fun o=>
 ab pg g e (ld1 9 o) fun q=>
 ab pg g e (mE 9 3 q) fun r=>
 ab pg g e (binOp .add 3 (I 1) r) fun s=>
 eC pg R g e true 69 #[d,s,(I p1)] fun t v y=>
 ((ix y v (I 0) t 7 5 fun z A C D E F=>
 ab pg F E (cA 44 2 p0 c) fun G=>
 ab pg F E (aT 225 1 1 1 G) fun H=>
 ab pg F E (ld1 223 H) fun L=>
 ab pg F E (cp 223 3 L) fun M=>
 ab pg F E (binOp .lss 3 C M) fun N=>
 un (aB N true D) fun O=>
 un (aB N true (I p1)) fun Q=>
 ay pg F E N true (vS (binOp .leq 3 O Q)) fun S=>
 ax pg F E (aM N S (B false)) fun T=>
 (au T
 ((ab pg F E (cA 44 2 p0 c) fun U=>
 ab pg F E (aT 225 1 1 1 U) fun V=>
 ab pg F E (ld1 223 V) fun Y=>
 ab pg F E (cA 223 6 Y C) fun Z=>
 ab pg F E (aT 227 1 3 3 Z) fun a0=>
 ab pg F E (aT 116 2 2 1 a0) fun b0=>
 ab pg F E (ld1 9 b0) fun c0=>
 ab pg F E (mE 9 3 c0) fun d0=>
 ab pg F E (binOp .add 3 (I 1) d0) fun e0=>
 eC pg R F E true 69 #[D,e0,(I p1)] fun g0 h0 i0=>
 ((ab pg i0 h0 (binOp .add 3 C (I 1)) fun j0=>
 iy z A j0 g0 h0 i0))))
 ((((ab pg F E (binOp .add 3 c (I 1)) fun k0=>
 ru a b k0 C D E F)))))))))
 (fin R g e d)))))
noncomputable def Cg:bu:=⟨39,[],[],[0,1,4,5,6,15],[11,12,13,14,18],[5,6]⟩
def s9 (p0:Value) (p1:Int):Prop:=
 (((ix X0 w0 (I 0) (I 0) 6 5 fun a b c d e g=>
 ab pg g e (cp 45 3 p0) fun h=>
 ab pg g e (binOp .lss 3 c h) fun i=>
 un (aB i true d) fun j=>
 un (aB i true (I p1)) fun k=>
 ay pg g e i true (vS (binOp .leq 3 j k)) fun l=>
 ax pg g e (aM i l (B false)) fun m=>
 (au m
 ((ab pg g e (cA 45 8 p0 c) fun n=>
 ab pg g e (aT 182 2 6 1 n) fun o=>
 ab pg g e (ld1 35 o) fun q=>
 ab pg g e (cA 45 8 p0 c) fun r=>
 ab pg g e (aT 182 3 7 1 r) fun s=>
 ab pg g e (ld1 37 s) fun t=>
 eC pg R g e false 70 #[q,(I p1)] fun v y z=>
 ab pg z y (binOp .add 3 (I 1) v) fun A=>
 eC pg R z y false 69 #[d,A,(I p1)] fun C D E=>
 eC pg R E D true 72 #[t,(I p1)] fun F G H=>
 eC pg R H G true 69 #[C,F,(I p1)] fun L M N=>
 ((ab pg N M (binOp .add 3 c (I 1)) fun O=>
 iy a b O L M N))))
 (fin R g e d)))))
noncomputable def Pg:bu:=⟨9,[],[],[0,2],[5,6,7],[]⟩
def DU (p0:Int):Prop:=
 (ab pg X0 w0 (binOp .geq 3 (I p0) (I 1)) fun a=>
 un (aB a true (I p0)) fun b=>
 ay pg X0 w0 a true (vS (binOp .leq 3 b (I 12))) fun c=>
 ax pg X0 w0 (aM a c (B false)) fun d=>
 (fin R X0 w0 d))
noncomputable def Rr:bu:=⟨131,[(1,(pg.cellsOf 49))],[4,9,14,18,22,27,32,39,41,45,50,55,60,64,72,76,81,86,91,96,98,104,106,110,116,118,122,127],[0,2,3,13,15,16,37,70,102,114,117],[8,10,11,12,21,23,24,26,28,29,31,33,34,35,44,46,47,48,54,56,57,59,61,62,63,65,66,67,68,75,77,78,80,82,83,85,87,88,90,92,93,95,97,99,100,109,111,112,121,123,124,125],[]⟩
def Gk (aQ _p0_1 _p0_2 bq bG bJ bM bV cD cV cg bZ _p0_12 _p0_13 _p0_14:Int) (dc:Bool) (_p0_16 _p0_17:Int) (cM cK cN cO cP _p0_23:Value) (_p0_24 _p0_25:Int) (_p0_26 _p0_27:Nat) (_p0_28 _p0_29 _p0_30 _p0_31 _p0_32 _p0_33:Int) (_p0_34 _p0_35:Value):Prop:=
 (eC pg R X0 w0 true 152 #[(.agg #[(I bq),(I bG),(I bJ)])] fun a b c=>
 ab pg c b (aU bh a) fun d=>
 un (aB d false (I bM)) fun e=>
 jn (fun (g:Value) (h:World) (i:XS)=>
 ay pg i h d false (vS (aU bh g)) fun j=>
 ax pg i h (aM d (B true) j) fun k=>
 (au k
 (fin R i h (B false))
 (((ab pg i h (aF .eql 3 (.tmp 15) (.const (I 1)) (I aQ) (I 1)) fun l=>
 (au l
 (ab pg i h (binOp .geq 3 (I bV) (I 0)) fun m=>
 un (aB m true (.agg #[(I cV),(I cg),(I bZ)])) fun n=>
 jn (fun (o:Value) (q:World) (r:XS)=>
 ax pg r q (aM m o (B false)) fun s=>
 un (aB s true cM) fun t=>
 jn (fun (v:Value) (y:World) (z:XS)=>
 ax pg z y (aM s v (B false)) fun A=>
 un (aB A true cM) fun C=>
 ay pg z y A true (vS (cp 35 3 C)) fun D=>
 ay pg z y A true (vS (binOp .gtr 3 D (I 0))) fun E=>
 ax pg z y (aM A E (B false)) fun F=>
 (fin R z y F)) fun G=>
 (gE s true (eC pg R r q true 153 #[t] G) (G undef q r))) fun H=>
 (gE m true (eC pg R i h true 57 #[n] H) (H undef h i)))
 (ab pg i h (aF .eql 3 (.tmp 15) (.const (I 2)) (I aQ) (I 2)) fun L=>
 (au L
 (eC pg R i h false 155 #[cK] fun M N O=>
 un (aB M true cK) fun Q=>
 ay pg O N M true (vS (cp 36 3 Q)) fun S=>
 ay pg O N M true (vS (binOp .gtr 3 S (I 0))) fun T=>
 ax pg O N (aM M T (B false)) fun U=>
 eC pg R O N true 154 #[(I cD),U,cP] fun V Y Z=>
 (un (aB V true (.agg #[(I cV),(I cg),(I bZ)])) fun a0=>
 jn (fun (b0:Value) (c0:World) (d0:XS)=>
 ax pg d0 c0 (aM V b0 (B false)) fun e0=>
 un (aB e0 true (I cD)) fun g0=>
 ay pg d0 c0 e0 true (vS (aF .eql 27 (.tmp 61) (.const (I 0)) g0 (I 0))) fun h0=>
 un (aB e0 true h0) fun i0=>
 un (aB i0 false cK) fun j0=>
 ay pg d0 c0 i0 false (vS (cp 36 3 j0)) fun k0=>
 ay pg d0 c0 i0 false (vS (aF .eql 3 (.tmp 66) (.const (I 0)) k0 (I 0))) fun l0=>
 ay pg d0 c0 e0 true (aM i0 (B true) l0) fun m0=>
 ax pg d0 c0 (aM e0 m0 (B false)) fun n0=>
 (fin R d0 c0 n0)) fun o0=>
 (gE V true (eC pg R Z Y true 57 #[a0] o0) (o0 undef Y Z))))
 (ab pg i h (aF .eql 3 (.tmp 15) (.const (I 3)) (I aQ) (I 3)) fun q0=>
 (au q0
 (ab pg i h (binOp .geq 3 (I bV) (I 0)) fun r0=>
 un (aB r0 true (.agg #[(I cV),(I cg),(I bZ)])) fun s0=>
 jn (fun (t0:Value) (v0:World) (y0:XS)=>
 ax pg y0 v0 (aM r0 t0 (B false)) fun z0=>
 un (aB z0 true cK) fun A0=>
 jn (fun (C0:Value) (D0:World) (E0:XS)=>
 ax pg E0 D0 (aM z0 C0 (B false)) fun F0=>
 un (aB F0 true cN) fun G0=>
 jn (fun (H0:Value) (L0:World) (M0:XS)=>
 ax pg M0 L0 (aM F0 H0 (B false)) fun N0=>
 un (aB N0 true cO) fun O0=>
 jn (fun (Q0:Value) (S0:World) (T0:XS)=>
 ax pg T0 S0 (aM N0 Q0 (B false)) fun U0=>
 un (aB U0 true cO) fun V0=>
 un (aB U0 true (I bM)) fun Y0=>
 jn (fun (Z0:Value) (a1:World) (b1:XS)=>
 ax pg b1 a1 (aM U0 Z0 (B false)) fun c1=>
 (fin R b1 a1 c1)) fun d1=>
 (gE U0 true (eC pg R T0 S0 true 158 #[V0,Y0] d1) (d1 undef S0 T0))) fun e1=>
 (gE N0 true (eC pg R M0 L0 true 157 #[O0] e1) (e1 undef L0 M0))) fun g1=>
 (gE F0 true (eC pg R E0 D0 true 156 #[G0] g1) (g1 undef D0 E0))) fun h1=>
 (gE z0 true (eC pg R y0 v0 true 155 #[A0] h1) (h1 undef v0 y0))) fun i1=>
 (gE r0 true (eC pg R i h true 57 #[s0] i1) (i1 undef h i)))
 (ab pg i h (aF .eql 3 (.tmp 15) (.const (I 4)) (I aQ) (I 4)) fun j1=>
 (au j1
 (eC pg R i h true 154 #[(I cD),(B true),cP] fun k1 l1 m1=>
 un (aB k1 true (.agg #[(I cV),(I cg),(I bZ)])) fun n1=>
 jn (fun (o1:Value) (q1:World) (r1:XS)=>
 ax pg r1 q1 (aM k1 o1 (B false)) fun s1=>
 (fin R r1 q1 s1)) fun t1=>
 (gE k1 true (eC pg R m1 l1 true 57 #[n1] t1) (t1 undef l1 m1)))
 (ab pg i h (aF .eql 3 (.tmp 15) (.const (I 5)) (I aQ) (I 5)) fun v1=>
 (au v1
 ((au (B dc)
 (eC pg R i h true 57 #[(.agg #[(I cV),(I cg),(I bZ)])] fun y1 z1 A1=>
 un (aB y1 true (.agg #[(I cV),(I cg),(I bZ)])) fun C1=>
 ay pg A1 z1 y1 true (vS (ea 34 #[(I 0),(I 0),(I 0)] #[])) fun D1=>
 ay pg A1 z1 y1 true (vS (aF .neq 34 (.tmp 123) (.tmp 124) C1 D1)) fun E1=>
 ax pg A1 z1 (aM y1 E1 (B false)) fun F1=>
 (fin R A1 z1 F1))
 ((ab pg i h (ea 34 #[(I 0),(I 0),(I 0)] #[]) fun G1=>
 ab pg i h (aF .eql 34 (.tmp 128) (.tmp 129) (.agg #[(I cV),(I cg),(I bZ)]) G1) fun H1=>
 (fin R i h H1)))))
 (fin R i h (B true)))))))))))))))) fun L1=>
 (gE d false (eC pg R c b true 117 #[e] L1) (L1 undef b c)))
def Gj (p0:Value):Prop:=
 (ab pg X0 w0 (cp 40 3 p0) fun a=>
 (gg X0 w0 (I 0) 9 fun b c d e g=>
 ab pg g e (binOp .lss 3 d a) fun h=>
 (au h
 ((ab pg g e (cA 40 29 p0 d) fun i=>
 ab pg g e (ek 73 29 i) fun j=>
 un (ak (aa j)) fun k=>
 aI (aq (ad (aa j))==29) (aI (av (ad (aa j)) bB.one) ((aI (cu k) (un (cj k 0 29) fun l=>
 eC pg R g e true 159 #[l] fun m n o=>
 ab pg o n (aD m 0) fun _=>
 ab pg o n (aD m 1) fun q=>
 (ab pg o n (aF .neq 27 (.tmp 18) (.const (I 0)) q (I 0)) fun r=>
 (au r
 (fin R o n (B false))
 (((ab pg o n (binOp .add 3 d (I 1)) fun s=>
 fY b c s n o)))))))))))
 (((ab pg g e (cp 40 3 p0) fun t=>
 ab pg g e (binOp .leq 3 t (I 8)) fun v=>
 (fin R g e v)))))))
noncomputable def Mi:bu:=⟨87,[(7,(pg.cellsOf 225)),(9,(pg.cellsOf 182)),(13,(pg.cellsOf 118))],[49,61,73,81],[0,1,2,4,5,11,29,39,42,43,44,45,52,55,56,57,58,62,63,64,65,71,74,75,76,77,84],[18,19,20,21,22,24,25,26,27,28],[44,57,64,76]⟩
def Bf (aQ aV:Int) (aW bq:Nat) (bG bJ bM bV cD cV:Int) (cg bZ:Value):Prop:=
 eV pg R X0 w0 true (cL 47 (.agg #[(I aQ),(I aV),(.float .f64 aW),(.float .f64 bq),(I bG),(I bJ),(I bM),(I bV),(I cD),(I cV),cg,bZ])) fun a b c=>
 (ab pg c b (aT 47 0 0 4 a) fun d=>
 ab pg c b (ek 43 4 d) fun e=>
 eC pg R c b true 160 #[e] fun g h i=>
 ab pg i h (aU bh g) fun j=>
 ay pg i h j false (vS (aT 47 1 4 3 a)) fun k=>
 ay pg i h j false (vS (ek 34 3 k)) fun l=>
 jn (fun (m:Value) (n:World) (o:XS)=>
 ay pg o n j false (vS (aU bh m)) fun q=>
 ax pg o n (aM j (B true) q) fun r=>
 ay pg o n r false (vS (aT 47 2 7 3 a)) fun s=>
 ay pg o n r false (vS (ek 34 3 s)) fun t=>
 jn (fun (v:Value) (y:World) (z:XS)=>
 ay pg z y r false (vS (aU bh v)) fun A=>
 ax pg z y (aM r (B true) A) fun C=>
 (au C
 (fin R z y (B false))
 ((ab pg z y (aT 47 3 10 1 a) fun D=>
 ab pg z y (ld1 44 D) fun E=>
 ab pg z y (aT 47 4 11 1 a) fun F=>
 ab pg z y (ld1 45 F) fun G=>
 eC pg R z y true 161 #[E,G] fun H L M=>
 ab pg M L (aD H 0) fun _=>
 ab pg M L (aD H 1) fun N=>
 (ab pg M L (aF .neq 27 (.tmp 38) (.const (I 0)) N (I 0)) fun O=>
 (au O
 (fin R M L (B false))
 ((ab pg M L (cz (eS 162) #[] #[a]) fun Q=>
 (ab pg M L (aT 47 3 10 1 a) fun S=>
 ab pg M L (ld1 44 S) fun T=>
 ab pg M L (cp 44 3 T) fun U=>
 (gg M L (I 0) 44 fun V Y Z a0 b0=>
 ab pg b0 a0 (binOp .lss 3 Z U) fun c0=>
 (au c0
 ((ab pg b0 a0 (cA 44 2 T Z) fun d0=>
 ab pg b0 a0 (ek 225 2 d0) fun e0=>
 un (ak (aa e0)) fun g0=>
 aI (aq (ad (aa e0))==2) (aI (av (ad (aa e0)) bB.one) ((aI (cu g0) (un (cellOf g0 0) fun h0=>
 eF pg R b0 a0 true Q #[h0] fun i0 j0 k0=>
 ab pg k0 j0 (aU bh i0) fun l0=>
 (au l0
 (fin R k0 j0 (B false))
 (((ab pg k0 j0 (binOp .add 3 Z (I 1)) fun m0=>
 fY V Y m0 j0 k0))))))))))
 (((ab pg b0 a0 (aT 47 4 11 1 a) fun n0=>
 ab pg b0 a0 (ld1 45 n0) fun o0=>
 ab pg b0 a0 (cp 45 3 o0) fun q0=>
 (rr b0 a0 (I 0) undef undef 57 76 64 fun r0 s0 t0 _ _ v0 y0=>
 ab pg y0 v0 (binOp .lss 3 t0 q0) fun z0=>
 (au z0
 ((ab pg y0 v0 (cA 45 8 o0 t0) fun A0=>
 ab pg y0 v0 (ek 182 8 A0) fun C0=>
 un (ak (aa C0)) fun D0=>
 aI (aq (ad (aa C0))==8) (aI (av (ad (aa C0)) bB.one) ((aI (cu D0) (un (cellOf D0 6) fun E0=>
 ab pg y0 v0 (cp 35 3 E0) fun F0=>
 (gg y0 v0 (I 0) 64 fun G0 H0 L0 M0 N0=>
 ab pg N0 M0 (binOp .lss 3 L0 F0) fun O0=>
 (au O0
 ((ab pg N0 M0 (cA 35 1 E0 L0) fun Q0=>
 ab pg N0 M0 (ld1 9 Q0) fun S0=>
 (eF pg R N0 M0 true Q #[S0] fun T0 U0 V0=>
 ab pg V0 U0 (aU bh T0) fun Y0=>
 (au Y0
 (fin R V0 U0 (B false))
 (((ab pg V0 U0 (binOp .add 3 L0 (I 1)) fun Z0=>
 fY G0 H0 Z0 U0 V0)))))))
 (((aI (cu D0) (un (cellOf D0 7) fun a1=>
 ab pg N0 M0 (cp 37 3 a1) fun b1=>
 (gg N0 M0 (I 0) 76 fun c1 d1 e1 g1 h1=>
 ab pg h1 g1 (binOp .lss 3 e1 b1) fun i1=>
 (au i1
 ((ab pg h1 g1 (cA 37 4 a1 e1) fun j1=>
 ab pg h1 g1 (ek 118 4 j1) fun k1=>
 un (ak (aa k1)) fun l1=>
 aI (aq (ad (aa k1))==4) (aI (av (ad (aa k1)) bB.one) ((aI (cu l1) (un (cellOf l1 0) fun m1=>
 eF pg R h1 g1 true Q #[m1] fun n1 o1 q1=>
 ab pg q1 o1 (aU bh n1) fun r1=>
 (au r1
 (fin R q1 o1 (B false))
 (((ab pg q1 o1 (binOp .add 3 e1 (I 1)) fun s1=>
 fY c1 d1 s1 o1 q1))))))))))
 ((((ab pg h1 g1 (binOp .add 3 t0 (I 1)) fun t1=>
 ru r0 s0 t1 e1 L0 g1 h1))))))))))))))))))
 (fin R y0 v0 (B true)))))))))))))))))) fun v1=>
 (gE r false (eC pg R o n true 57 #[t] v1) (v1 undef n o))) fun y1=>
 (gE j false (eC pg R i h true 57 #[l] y1) (y1 undef h i)))
noncomputable def Rs:bu:=⟨29,[(4,(pg.cellsOf 34)),(5,(pg.cellsOf 34)),(6,(pg.cellsOf 32))],[],[0,1,2,3,8,22],[12,13,14,15,16,18,19,20,21],[]⟩
def Ga (aQ aV aW bS bY bW gz gL gM:Int) (p3:Value):Prop:=
 (eC pg R X0 w0 true 57 #[(.agg #[(I aQ),(I aV),(I aW)])] fun a b c=>
 ab pg c b (aU bh a) fun d=>
 un (aB d false (.agg #[(I aQ),(I aV),(I aW)])) fun e=>
 un (aB d false (.agg #[(I bS),(I bY),(I bW)])) fun g=>
 jn (fun (h:Value) (i:World) (j:XS)=>
 ay pg j i d false (vS (binOp .geq 3 h (I 0))) fun k=>
 ax pg j i (aM d (B true) k) fun l=>
 un (aB l false p3) fun m=>
 ay pg j i l false (vS (cp 37 3 m)) fun n=>
 ay pg j i l false (vS (aF .eql 3 (.tmp 20) (.const (I 0)) n (I 0))) fun o=>
 ax pg j i (aM l (B true) o) fun q=>
 (au q
 (fin R j i (B false))
 ((ab pg j i (ea 182 #[(I gz),(I gL),(I gM),(I bS),(I bY),(I bW),(.slice none 0 0),p3] #[(0,(.agg #[(I gz),(I gL),(I gM)])),(1,(.agg #[(I bS),(I bY),(I bW)])),(3,p3)]) fun r=>
 eC pg R j i true 165 #[r] fun s t v=>
 ab pg v t (aF .eql 27 (.tmp 27) (.const (I 0)) s (I 0)) fun y=>
 (fin R v t y))))) fun z=>
 (gE d false (eC pg R c b true 84 #[e,g] z) (z undef b c)))
noncomputable def Mj:bu:=⟨78,[(5,(pg.cellsOf 73)),(8,(pg.cellsOf 182)),(9,(pg.cellsOf 184)),(11,(pg.cellsOf 184))],[26,30,31,32,39,40,52,66],[0,1,2,6,10,12,22,25,27,28,38,41,42,43,44,57,59,71,72],[19,20,21],[43]⟩
def Bi (p0:Value) (p1 gz gL gM rX vf vg vi Dz DA DB:Int) (xF:Bool) (yP:Int) (yQ:Nat) (uP uQ yR yS:Value) (xG yT:Int) (yU yV:Nat) (yW yX yY xH xI xJ:Int) (yZ sG:Value):Prop:=
 (ax pg X0 w0 (aP p0) fun a=>
 ab pg X0 w0 (aT 174 1 1 1 a) fun b=>
 ab pg X0 w0 (ld1 3 b) fun c=>
 ab pg X0 w0 (aF .neq 3 (.tmp 13) (.tmp 17) (I p1) c) fun d=>
 un (aB d false (I p1)) fun e=>
 ay pg X0 w0 d false (vS (binOp .gtr 3 e (I 99999999))) fun g=>
 ax pg X0 w0 (aM d (B true) g) fun h=>
 (au h
 (fin R X0 w0 (I 14))
 ((eC pg R X0 w0 true 166 #[(.agg #[(I gz),(I gL),(I gM),(I rX),(I vf),(I vg),(I vi),(I Dz),(I DA),(I DB),(B xF),(I yP),(.float .f64 yQ),uP,uQ,yR,yS,(I xG),(I yT),(.float .f64 yU),(.float .f64 yV),(I yW),(I yX),(I yY),(I xH),(I xI),(I xJ),yZ,sG])] fun i j k=>
 ab pg k j (aF .neq 27 (.tmp 24) (.const (I 0)) i (I 0)) fun l=>
 (au l
 (fin R k j (I 4))
 ((((jn (fun (m:World) (n:XS)=>
 (fin R n m (I 0))) fun o=>
 ab pg k j (aF .eql 3 (.tmp 27) (.const (I 1)) (I gz) (I 1)) fun q=>
 (au q
 (ax pg k j (aP p0) fun r=>
 ab pg k j (aT 174 0 0 1 r) fun s=>
 ab pg k j (ld1 3 s) fun t=>
 ab pg k j (aF .neq 3 (.tmp 33) (.tmp 37) (I xG) t) fun v=>
 (au v
 (fin R k j (I 4))
 ((ab pg k j (cp 45 3 sG) fun y=>
 (gg k j (I 0) 43 fun z A C D E=>
 ab pg E D (binOp .lss 3 C y) fun F=>
 (au F
 ((ab pg E D (cA 45 8 sG C) fun G=>
 ab pg E D (ek 182 8 G) fun H=>
 un (ak (aa H)) fun L=>
 aI (aq (ad (aa H))==8) (aI (av (ad (aa H)) bB.one) ((ax pg E D (aP p0) fun M=>
 ab pg E D (aT 174 3 5 1 M) fun N=>
 ab pg E D (ld1 172 N) fun O=>
 aI (cu L) (un (cj L 0 3) fun Q=>
 ab pg E D (cx 172 O Q true) fun S=>
 ab pg E D (aD S 0) fun T=>
 ab pg E D (aD S 1) fun U=>
 un (ak (aa T)) fun _=>
 aI (aq (ad (aa T))==9) (aI (av (ad (aa T)) bB.one) (((au U
 (fin R E D (I 9))
 (((ab pg E D (binOp .add 3 C (I 1)) fun V=>
 fY z A V D E)))))))))))))
 (o D E)))))))
 (ab pg k j (aF .eql 3 (.tmp 27) (.const (I 3)) (I gz) (I 3)) fun Y=>
 (au Y
 (ax pg k j (aP p0) fun Z=>
 ab pg k j (aT 174 3 5 1 Z) fun a0=>
 ab pg k j (ld1 172 a0) fun b0=>
 ab pg k j (cx 172 b0 (.agg #[(I gL),(I gM),(I rX)]) true) fun c0=>
 ab pg k j (aD c0 0) fun d0=>
 ab pg k j (aD c0 1) fun e0=>
 un (ak (aa d0)) fun _=>
 aI (aq (ad (aa d0))==9) (aI (av (ad (aa d0)) bB.one) (((au e0
 (fin R k j (I 9))
 (o j k))))))
 ((jn (fun (g0:Value)=>
 au g0
 (o j k)
 (fin R k j (I 4))) fun h0=>
 ab pg k j (aF .eql 3 (.tmp 27) (.const (I 2)) (I gz) (I 2)) fun i0=>
 (au i0
 (h0 i0)
 (ab pg k j (aF .eql 3 (.tmp 27) (.const (I 4)) (I gz) (I 4)) fun j0=>
 (au j0
 (h0 j0)
 (ab pg k j (aF .eql 3 (.tmp 27) (.const (I 5)) (I gz) (I 5)) fun k0=>
 (au k0
 (h0 k0)
 (ab pg k j (aF .eql 3 (.tmp 27) (.const (I 6)) (I gz) (I 6)) fun l0=>
 (au l0
 (h0 l0)
 (ab pg k j (aF .eql 3 (.tmp 27) (.const (I 7)) (I gz) (I 7)) fun m0=>
 (h0 m0)))))))))))))))))))))))
noncomputable def Rt:bu:=⟨12,[(1,(pg.cellsOf 182)),(2,(pg.cellsOf 182))],[3,6,9,10],[0],[4,7],[]⟩
def GA (aQ aV aW bq bG bJ:Int) (bM bV:Value):Prop:=
 (eC pg R X0 w0 false 167 #[bM] fun a b c=>
 eC pg R c b false 45 #[bV] fun d e g=>
 aI (bB.one a) (aI (bB.one d) ((aI (av [(I aQ),(I aV),(I aW),(I bq),(I bG),(I bJ),a,d] bB.one) ((fin R g e (.agg #[(I aQ),(I aV),(I aW),(I bq),(I bG),(I bJ),a,d])))))))
noncomputable def IG:bu:=⟨75,[(4,(pg.cellsOf 158)),(6,(pg.cellsOf 32)),(8,(pg.cellsOf 32)),(9,(pg.cellsOf 184))],[46,47,54,55,56,57,61,62],[0,1,3,5,24,26,33,34,35,36],[],[5,35]⟩
def zi (p0:Value) (bS bY bW dW ey eN eE eG gl nh:Int) (kB:Bool) (kC:Int) (oA:Nat) (oB oC oD mM:Value) (oE oF:Int) (oG oH:Nat) (oI oJ me oK oL oM:Int) (oN oO:Value):Prop:=
 eV pg R X0 w0 true (cL 73 (.agg #[(I bS),(I bY),(I bW),(I dW),(I ey),(I eN),(I eE),(I eG),(I gl),(I nh),(B kB),(I kC),(.float .f64 oA),oB,oC,oD,mM,(I oE),(I oF),(.float .f64 oG),(.float .f64 oH),(I oI),(I oJ),(I me),(I oK),(I oL),(I oM),oN,oO])) fun a b c=>
 (ax pg c b (aP p0) fun d=>
 ab pg c b (aT 174 2 2 3 d) fun e=>
 ab pg c b (ek 34 3 e) fun g=>
 ab pg c b (aT 73 2 4 3 a) fun h=>
 ab pg c b (ek 34 3 h) fun i=>
 eC pg R c b true 31 #[g,i] fun j k l=>
 ax pg l k (aP p0) fun m=>
 ab pg l k (aT 174 2 2 3 m) fun n=>
 eU pg R l k true (st1 34 3 n j) fun _ o q=>
 ((ax pg q o (aP p0) fun r=>
 ab pg q o (aT 174 3 5 1 r) fun s=>
 ab pg q o (ld1 172 s) fun t=>
 eV pg R q o true (kX 172 t) fun v y z=>
 (gg z y (.slice none 0 0) 5 fun A C D E F=>
 eV pg R F E true (yG v false 0) fun G H L=>
 ab pg L H (aD G 0) fun M=>
 (au M
 ((eV pg R L H true (gV v) fun N O Q=>
 ab pg Q O (aD N 0) fun S=>
 un (ak (aa S)) fun T=>
 aI (aq (ad (aa S))==3) (aI (av (ad (aa S)) bB.one) ((aI (cu T) (un (cj T 0 3) fun U=>
 eV pg R Q O true (gG 265 32 3 1 #[(0,U)]) fun V Y Z=>
 eV pg R Z Y true (ga 265 32 3 24 265 D V) fun a0 b0 c0=>
 (fY A C a0 b0 c0)))))))
 (((ab pg L H (cp 265 3 D) fun d0=>
 (gg L H (I 0) 35 fun e0 g0 h0 i0 j0=>
 ab pg j0 i0 (binOp .lss 3 h0 d0) fun k0=>
 (au k0
 ((ab pg j0 i0 (cA 265 3 D h0) fun l0=>
 ab pg j0 i0 (ek 32 3 l0) fun m0=>
 un (ak (aa m0)) fun n0=>
 aI (aq (ad (aa m0))==3) (aI (av (ad (aa m0)) bB.one) ((ax pg j0 i0 (aP p0) fun o0=>
 ab pg j0 i0 (aT 174 3 5 1 o0) fun q0=>
 ab pg j0 i0 (ld1 172 q0) fun r0=>
 aI (cu n0) (un (cj n0 0 3) fun s0=>
 ab pg j0 i0 (cx 172 r0 s0 false) fun t0=>
 un (ak (aa t0)) fun v0=>
 aI (aq (ad (aa t0))==9) (aI (av (ad (aa t0)) bB.one) ((aI (cu v0) (ab pg j0 i0 (aT 73 6 12 1 a) fun y0=>
 ab pg j0 i0 (ld1 41 y0) fun z0=>
 un (cellOf v0 7) fun A0=>
 eC pg R j0 i0 true 168 #[A0,z0] fun C0 D0 E0=>
 ab pg E0 D0 (aD C0 0) fun F0=>
 ab pg E0 D0 (aD C0 1) fun _=>
 un (ak (aS (cH (ad (aa v0)) 7 [F0]))) fun G0=>
 aI (bB.one F0) ((aI (cu G0) (ab pg E0 D0 (cz (eS 170) #[] #[a]) fun H0=>
 un (cellOf G0 6) fun L0=>
 eC pg R E0 D0 true 169 #[L0,H0] fun M0 N0 O0=>
 un (ak (aS (cH (ad (aa G0)) 6 [M0]))) fun Q0=>
 aI (bB.one M0) ((ax pg O0 N0 (aP p0) fun S0=>
 ab pg O0 N0 (aT 174 3 5 1 S0) fun T0=>
 ab pg O0 N0 (ld1 172 T0) fun U0=>
 aI (cu n0) (aI (cu Q0) (un (cj Q0 0 9) fun V0=>
 eU pg R O0 N0 true (dE 172 U0 s0 V0) fun _ Y0 Z0=>
 ((ab pg Z0 Y0 (binOp .add 3 h0 (I 1)) fun a1=>
 fY e0 g0 a1 Y0 Z0)))))))))))))))))))
 (((ab pg j0 i0 (aT 73 5 11 1 a) fun b1=>
 ab pg j0 i0 (ld1 3 b1) fun c1=>
 eC pg R j0 i0 false 82 #[p0] fun d1 e1 g1=>
 un (cellOf d1 0) fun h1=>
 un (cellOf d1 1) fun i1=>
 un (cellOf d1 2) fun j1=>
 ab pg g1 e1 (ea 158 #[(I 2),(I 0),(I 0),(I 0),(I 0),(I 0),(I 0),(I 0),(I 0),(.slice none 0 0),c1,h1,i1,j1] #[(0,(I 2)),(2,c1),(3,d1)]) fun k1=>
 un (ak (aa k1)) fun l1=>
 aI (aq (ad (aa k1))==14) (aI (av (ad (aa k1)) bB.one) (un (cj l1 0 14) fun m1=>
 aI (av [l1] cu) (fin R g1 e1 m1))))))))))))))))
noncomputable def qu:bu:=⟨9,[(3,(pg.cellsOf 102))],[],[0,1,4],[],[]⟩
def kF (p0:Value) (bS bY bW dW ey:Int):Prop:=
 (eC pg R X0 w0 true 171 #[p0,(.agg #[(I bS),(I bY),(I bW),(I dW),(I ey)])] fun a b c=>
 ab pg c b (binOp .geq 3 a (I 0)) fun d=>
 (fin R c b d))
noncomputable def Hc:bu:=⟨39,[(3,(pg.cellsOf 156)),(5,(pg.cellsOf 34))],[12,25],[0,1,4,6,17,21,24],[],[]⟩
def ya (p0:Value) (bS bY bW dW ey eN eE eG:Int) (gl:Value):Prop:=
 (ax pg X0 w0 (aP p0) fun a=>
 ab pg X0 w0 (aT 128 3 5 1 a) fun b=>
 ab pg X0 w0 (ld1 126 b) fun c=>
 ab pg X0 w0 (cx 126 c (I bS) true) fun d=>
 ab pg X0 w0 (aD d 0) fun e=>
 ab pg X0 w0 (aD d 1) fun g=>
 un (ak (aa e)) fun _=>
 aI (aq (ad (aa e))==3) (aI (av (ad (aa e)) bB.one) ((eC pg R X0 w0 true 172 #[(.agg #[(I bS),(I bY),(I bW),(I dW),(I ey),(I eN),(I eE),(I eG),gl])] fun h i j=>
 ab pg j i (aU bh h) fun k=>
 (au k
 (fin R j i (I 4))
 (ab pg j i (aU bh g) fun l=>
 (au l
 (fin R j i (I 8))
 (ax pg j i (aP p0) fun m=>
 ab pg j i (aT 128 2 2 3 m) fun n=>
 ab pg j i (ek 34 3 n) fun o=>
 eC pg R j i true 84 #[(.agg #[(I eN),(I eE),(I eG)]),o] fun q r s=>
 ab pg s r (binOp .leq 3 q (I 0)) fun t=>
 (au t
 (fin R s r (I 20))
 (((ax pg s r (aP p0) fun v=>
 ab pg s r (aT 128 0 0 1 v) fun y=>
 ab pg s r (ld1 125 y) fun z=>
 eC pg R s r true 173 #[z,(.agg #[(I bS),(I bY),(I bW),(I dW),(I ey),(I eN),(I eE),(I eG),gl])] fun A C D=>
 (fin R D C A)))))))))))))
noncomputable def US:bu:=⟨36,[(1,(pg.cellsOf 34)),(2,(pg.cellsOf 34))],[4,19,22,25,27,30,33,34],[0,3,8,18,26],[12,13,14,15],[]⟩
def IH (aQ aV aW:Int):Prop:=
 ((jn (fun (a:Value) (b:World) (c:XS)=>
 (aI (cu a) (un (cj a 0 3) fun d=>
 un (ak (aa d)) fun e=>
 aI (aq (ad (aa d))==3) (aI (av (ad (aa d)) bB.one) ((un (cj e 0 3) fun g=>
 aI (av [e] cu) (fin R c b (aJ #[g,(B true)])))))))) fun h=>
 eC pg R X0 w0 true 57 #[(.agg #[(I aQ),(I aV),(I aW)])] fun i j k=>
 ab pg k j (aU bh i) fun l=>
 un (aB l false (.agg #[(I aQ),(I aV),(I aW)])) fun m=>
 ay pg k j l false (vS (ea 34 #[(I 0),(I 0),(I 0)] #[])) fun n=>
 ay pg k j l false (vS (aF .eql 34 (.tmp 13) (.tmp 14) m n)) fun o=>
 ax pg k j (aM l (B true) o) fun q=>
 (au q
 (ab pg k j (ea 34 #[(I 0),(I 0),(I 0)] #[]) fun r=>
 un (ak (aa r)) fun s=>
 aI (aq (ad (aa r))==3) (aI (av (ad (aa r)) bB.one) ((un (cj s 0 3) fun t=>
 aI (av [s] cu) (fin R k j (aJ #[t,(B false)]))))))
 (ab pg k j (binOp .gtr 3 (I aW) (I 0)) fun v=>
 (au v
 (ab pg k j (binOp .sub 3 (I aW) (I 1)) fun y=>
 aI (bB.one y) ((h (.agg #[(I aQ),(I aV),y]) j k)))
 (ab pg k j (binOp .gtr 3 (I aV) (I 0)) fun z=>
 (au z
 (ab pg k j (binOp .sub 3 (I aV) (I 1)) fun A=>
 aI (bB.one A) (((h (.agg #[(I aQ),A,(I 63)]) j k))))
 (ab pg k j (binOp .sub 3 (I aQ) (I 1)) fun C=>
 ab pg k j (ea 34 #[C,(I 65535),(I 63)] #[(0,C),(1,(I 65535)),(2,(I 63))]) fun D=>
 un (ak (aa D)) fun E=>
 aI (aq (ad (aa D))==3) (aI (av (ad (aa D)) bB.one) (h E j k))))))))))
noncomputable def Kf:bu:=⟨98,[(3,(pg.cellsOf 34)),(7,(pg.cellsOf 156)),(10,(pg.cellsOf 69))],[49,54,56,71,93],[0,1,4,5,6,8,30,52,87,88,89,90],[18,19,20,21,22,23,24,25,26,27,28,29,41,42,43,44,45,46,47,48,50,51],[5,6,89]⟩
def Ah (p0:Value) (bS bY bW:Int):Prop:=
 (((ix X0 w0 (I 0) (.slice none 0 0) 6 5 fun a b c d e g=>
 ax pg g e (aP p0) fun h=>
 ab pg g e (aT 179 0 0 1 h) fun i=>
 ab pg g e (ld1 177 i) fun j=>
 ab pg g e (cp 177 3 j) fun k=>
 ab pg g e (binOp .lss 3 c k) fun l=>
 un (aB l true p0) fun m=>
 ay pg g e l true (aP m) fun n=>
 ay pg g e l true (vS (aT 179 0 0 1 n)) fun o=>
 ay pg g e l true (vS (ld1 177 o)) fun q=>
 un (aB l true c) fun r=>
 ay pg g e l true (vS (cA 177 9 q r)) fun s=>
 ay pg g e l true (vS (aT 156 3 5 3 s)) fun t=>
 ay pg g e l true (vS (ek 34 3 t)) fun v=>
 un (aB l true (.agg #[(I bS),(I bY),(I bW)])) fun y=>
 jn (fun (z:Value) (A:World) (C:XS)=>
 ay pg C A l true (vS (binOp .leq 3 z (I 0))) fun D=>
 ax pg C A (aM l D (B false)) fun E=>
 (au E
 ((ax pg C A (aP p0) fun F=>
 ab pg C A (aT 179 0 0 1 F) fun G=>
 ab pg C A (ld1 177 G) fun H=>
 ab pg C A (cA 177 9 H c) fun L=>
 ab pg C A (ek 156 9 L) fun M=>
 un (ak (aa M)) fun N=>
 aI (aq (ad (aa M))==9) (aI (av (ad (aa M)) bB.one) (((jn (fun (O:Value) (Q:World) (S:XS)=>
 ab pg S Q (cp 63 3 O) fun T=>
 ab pg S Q (binOp .sub 3 T (I 1)) fun U=>
 ab pg S Q (cA 63 7 O U) fun V=>
 (ax pg S Q (aP V) fun Y=>
 ab pg S Q (aT 69 2 6 1 Y) fun Z=>
 ab pg S Q (ld1 37 Z) fun a0=>
 aI (cu N) (un (cellOf N 8) fun b0=>
 eV pg R S Q true (ga 37 118 4 48 37 a0 b0) fun c0 d0 e0=>
 ax pg e0 d0 (aP V) fun g0=>
 ab pg e0 d0 (aT 69 2 6 1 g0) fun h0=>
 eU pg R e0 d0 true (st1 37 1 h0 c0) fun _ i0 j0=>
 (ab pg j0 i0 (binOp .add 3 c (I 1)) fun k0=>
 (iy a b k0 O i0 j0))))) fun l0=>
 ab pg C A (cp 63 3 d) fun m0=>
 ab pg C A (aF .eql 3 (.tmp 39) (.const (I 0)) m0 (I 0)) fun n0=>
 un (aB n0 false d) fun o0=>
 ay pg C A n0 false (vS (cp 63 3 o0)) fun q0=>
 ay pg C A n0 false (vS (binOp .sub 3 q0 (I 1))) fun r0=>
 ay pg C A n0 false (vS (cA 63 7 o0 r0)) fun s0=>
 ay pg C A n0 false (vS (aT 69 0 0 3 s0)) fun t0=>
 ay pg C A n0 false (vS (ek 32 3 t0)) fun v0=>
 aI (cu N) (un (cj N 2 3) fun y0=>
 un (aB n0 false y0) fun z0=>
 ay pg C A n0 false (vS (aF .neq 32 (.tmp 48) (.tmp 50) v0 z0)) fun A0=>
 ax pg C A (aM n0 (B true) A0) fun C0=>
 (au C0
 (aI (cu N) (un (cj N 5 3) fun D0=>
 un (cellOf y0 0) fun E0=>
 un (cellOf y0 1) fun F0=>
 un (cellOf y0 2) fun G0=>
 un (cellOf D0 0) fun H0=>
 un (cellOf D0 1) fun L0=>
 un (cellOf D0 2) fun M0=>
 ab pg C A (ea 69 #[E0,F0,G0,H0,L0,M0,(.slice none 0 0)] #[(0,y0),(1,D0)]) fun N0=>
 eV pg R C A true (gG 63 69 7 1 #[(0,N0)]) fun O0 Q0 S0=>
 eV pg R S0 Q0 true (ga 63 69 7 72 63 d O0) fun T0 U0 V0=>
 (l0 T0 U0 V0)))
 (l0 d A C)))))))))
 (((ax pg C A (aP p0) fun Y0=>
 ab pg C A (aT 179 0 0 1 Y0) fun Z0=>
 ab pg C A (ld1 177 Z0) fun a1=>
 eC pg R C A true 174 #[a1,(I 0),c] fun b1 c1 d1=>
 ax pg d1 c1 (aP p0) fun e1=>
 ab pg d1 c1 (aT 179 0 0 1 e1) fun g1=>
 eU pg R d1 c1 true (st1 177 1 g1 b1) fun _ h1 i1=>
 (ab pg i1 h1 (cp 63 3 d) fun j1=>
 (gg i1 h1 (I 0) 89 fun k1 l1 m1 n1 o1=>
 ab pg o1 n1 (binOp .lss 3 m1 j1) fun q1=>
 (au q1
 ((ab pg o1 n1 (cA 63 7 d m1) fun r1=>
 ab pg o1 n1 (ek 69 7 r1) fun s1=>
 un (ak (aa s1)) fun t1=>
 aI (aq (ad (aa s1))==7) (aI (av (ad (aa s1)) bB.one) ((aI (cu t1) (un (cellOf t1 6) fun v1=>
 eC pg R o1 n1 true 175 #[v1,(Value.func (eS 176) #[] #[])] fun _ y1 z1=>
 ((ab pg z1 y1 (binOp .add 3 m1 (I 1)) fun A1=>
 fY k1 l1 A1 y1 z1))))))))
 (fin R o1 n1 d))))))))) fun C1=>
 (gE l true (eC pg R g e true 84 #[v,y] C1) (C1 undef e g)))))
noncomputable def NV:bu:=⟨10,[],[],[0,1,4],[],[]⟩
def CX (p0 p1:Nat):Prop:=
 (eC pg R X0 w0 true 118 #[(.float .f64 p0)] fun a b c=>
 eC pg R c b true 118 #[(.float .f64 p1)] fun d e g=>
 ab pg g e (aF .eql 208 (.tmp 6) (.tmp 8) a d) fun h=>
 (fin R g e h))
noncomputable def II:bu:=⟨31,[(2,(pg.cellsOf 182)),(3,(pg.cellsOf 182))],[5,7,11,13,18,20,25,27],[0,1,4],[10,12,14,15,17,19,21,22,24,26,28,29],[]⟩
def zF (aQ aV aW bq bG bJ:Int) (bM bV:Value) (bS bY bW dW ey eN:Int) (eE eG:Value):Prop:=
 (ab pg X0 w0 (aF .eql 32 (.tmp 6) (.tmp 8) (.agg #[(I aQ),(I aV),(I aW)]) (.agg #[(I bS),(I bY),(I bW)])) fun a=>
 un (aB a true (.agg #[(I bq),(I bG),(I bJ)])) fun b=>
 un (aB a true (.agg #[(I dW),(I ey),(I eN)])) fun c=>
 ay pg X0 w0 a true (vS (aF .eql 34 (.tmp 12) (.tmp 14) b c)) fun d=>
 ax pg X0 w0 (aM a d (B false)) fun e=>
 un (aB e true bM) fun g=>
 un (aB e true eE) fun h=>
 jn (fun (i:Value) (j:World) (k:XS)=>
 ax pg k j (aM e i (B false)) fun l=>
 un (aB l true bV) fun m=>
 un (aB l true eG) fun n=>
 jn (fun (o:Value) (q:World) (r:XS)=>
 ax pg r q (aM l o (B false)) fun s=>
 (fin R r q s)) fun t=>
 (gE l true (eC pg R k j true 39 #[m,n] t) (t undef j k))) fun v=>
 (gE e true (eC pg R X0 w0 true 37 #[g,h] v) (v undef w0 X0)))
def jR (p0:Value):Prop:=
 eV pg R X0 w0 true (cL 126 p0) fun a b c=>
 (ab pg c b (cz (eS 190) #[] #[a]) fun d=>
 (fin R c b d))
noncomputable def vj:bu:=⟨19,[],[],[0,1,4,5,7,8,9,16],[],[8]⟩
def nY (p0:Value) (p1:ByteArray):Prop:=
 (ab pg X0 w0 (cp 35 3 p0) fun a=>
 (gg X0 w0 (I 0) 8 fun b c d e g=>
 ab pg g e (binOp .lss 3 d a) fun h=>
 (au h
 (((ab pg g e (cA 35 1 p0 d) fun i=>
 ab pg g e (ld1 9 i) fun j=>
 ab pg g e (aF .eql 9 (.tmp 11) (.tmp 15) (.string p1) j) fun k=>
 (au k
 (fin R g e d)
 (((ab pg g e (binOp .add 3 d (I 1)) fun l=>
 fY b c l e g)))))))
 ((((fin R g e (I (-1)))))))))
def iY (p0:Value):Prop:=
 eV pg R X0 w0 true (cL 77 p0) fun a b c=>
 (ab pg c b (cz (eS 193) #[] #[a]) fun d=>
 (fin R c b d))
noncomputable def IJ:bu:=⟨21,[],[],[0,1,2,6,7,12,16],[],[]⟩
def zp (p0:Value) (p1:Int) (p2:Value):Prop:=
 (ax pg X0 w0 (aP p0) fun a=>
 ab pg X0 w0 (aT 79 4 4 1 a) fun b=>
 ab pg X0 w0 (ld1 4 b) fun c=>
 (au c
 (fin R X0 w0 (I 12))
 (ab pg X0 w0 (aF .neq 27 (.tmp 13) (.const (I 0)) (I p1) (I 0)) fun d=>
 (au d
 (fin R X0 w0 (I p1))
 (eC pg R X0 w0 true 147 #[p0] fun e g h=>
 (au e
 (fin R h g (I 12))
 (((eF pg R h g true p2 #[] fun _ i j=>
 (fin R j i (I 0)))))))))))
noncomputable def Mk:bu:=⟨12,[],[],[0,1,4,11],[],[]⟩
def BB (p0:Value) (p1:ByteArray):Prop:=
 (ax pg X0 w0 (aP p0) fun a=>
 ab pg X0 w0 (aT 79 0 0 1 a) fun b=>
 ab pg X0 w0 (ld1 77 b) fun c=>
 ab pg X0 w0 (cx 77 c (.string p1) false) fun d=>
 ab pg X0 w0 (aF .eql 191 (.tmp 10) (.const (.pointer none)) d (.pointer none)) fun e=>
 (au e
 (fin R X0 w0 (I 8))
 (fin R X0 w0 (I 0))))
noncomputable def Kg:bu:=⟨30,[],[],[0,1,4,12],[],[]⟩
def Ar (p0:Value) (p1:ByteArray):Prop:=
 ax pg X0 w0 (aP p0) fun a=>
 ab pg X0 w0 (aT 79 0 0 1 a) fun b=>
 ab pg X0 w0 (ld1 77 b) fun c=>
 ab pg X0 w0 (cx 77 c (.string p1) false) fun d=>
 (ab pg X0 w0 (aF .neq 191 (.tmp 11) (.const (.pointer none)) d (.pointer none)) fun e=>
 (au e
 (ax pg X0 w0 (aP p0) fun g=>
 ab pg X0 w0 (aT 79 1 1 1 g) fun h=>
 ab pg X0 w0 (ld1 3 h) fun i=>
 ax pg X0 w0 (aP d) fun j=>
 ab pg X0 w0 (aT 193 0 0 1 j) fun k=>
 ab pg X0 w0 (ld1 132 k) fun l=>
 ab pg X0 w0 (cp 132 3 l) fun m=>
 ab pg X0 w0 (binOp .sub 3 i m) fun n=>
 ax pg X0 w0 (aP p0) fun o=>
 ab pg X0 w0 (aT 79 1 1 1 o) fun q=>
 eU pg R X0 w0 true (st1 3 1 q n) fun _ r s=>
 (ax pg s r (aP p0) fun t=>
 ab pg s r (aT 79 0 0 1 t) fun v=>
 ab pg s r (ld1 77 v) fun y=>
 eV pg R s r true (iX #[77,9] 0 #[y,(.string p1)]) fun _ z A=>
 fin R A z (aJ #[])))
 (fin R X0 w0 (aJ #[]))))
noncomputable def UT:bu:=⟨11,[],[],[0,2],[6,7,8,9],[]⟩
def HR (p0:ByteArray):Prop:=
 (ab pg X0 w0 (mE 9 3 (.string p0)) fun a=>
 ab pg X0 w0 (binOp .geq 3 a (I 1)) fun b=>
 un (aB b true (.string p0)) fun c=>
 ay pg X0 w0 b true (vS (mE 9 3 c)) fun d=>
 ay pg X0 w0 b true (vS (binOp .leq 3 d (I 20))) fun e=>
 ax pg X0 w0 (aM b e (B false)) fun g=>
 (fin R X0 w0 g))
noncomputable def DC:bu:=⟨9,[],[],[0,1],[],[]⟩
def uy (c0 c1:Value):Prop:=
 ab pg X0 w0 (ld1 24 c0) fun a=>
 ax pg X0 w0 (aP a) fun b=>
 ab pg X0 w0 (aT 79 0 0 1 b) fun c=>
 ab pg X0 w0 (ld1 77 c) fun d=>
 ab pg X0 w0 (ld1 9 c1) fun e=>
 ab pg X0 w0 (ea 193 #[(.slice none 0 0),(I 0)] #[]) fun g=>
 eV pg R X0 w0 false (cL 193 g) fun h i j=>
 eU pg R j i true (dE 77 d e h) fun _ k l=>
 fin R l k (aJ #[])
noncomputable def UU:bu:=⟨19,[],[],[0,1,4],[],[]⟩
def HW (p0:Value) (p1:Int):Prop:=
 (ab pg X0 w0 (mF gS 194 5 (aZ gj p1)) fun a=>
 ab pg X0 w0 (binOp .shr 194 (aZ gj p1) (aZ bz 8)) fun b=>
 ab pg X0 w0 (mF gS 194 5 b) fun c=>
 ab pg X0 w0 (binOp .shr 194 (aZ gj p1) (aZ bz 16)) fun d=>
 ab pg X0 w0 (mF gS 194 5 d) fun e=>
 ab pg X0 w0 (binOp .shr 194 (aZ gj p1) (aZ bz 24)) fun g=>
 ab pg X0 w0 (mF gS 194 5 g) fun h=>
 eV pg R X0 w0 true (gG 132 5 1 4 #[(0,a),(1,c),(2,e),(3,h)]) fun i j k=>
 eV pg R k j true (ga 132 5 1 1 132 p0 i) fun l m n=>
 (fin R n m l))
def Ab (p0:Value):Prop:=
 ((jn (fun (a:World) (b:XS)=>
 (jn (fun (c:World) (d:XS)=>
 ax pg d c (aP p0) fun e=>
 ab pg d c (aT 79 4 4 1 e) fun g=>
 ab pg d c (ld1 4 g) fun h=>
 (fin R d c h)) fun i=>
 ax pg b a (aP p0) fun j=>
 ab pg b a (aT 79 4 4 1 j) fun k=>
 ab pg b a (ld1 4 k) fun l=>
 ab pg b a (aU bh l) fun m=>
 (au m
 (ax pg b a (aP p0) fun n=>
 ab pg b a (aT 79 2 2 1 n) fun o=>
 ab pg b a (ld1 3 o) fun q=>
 ab pg b a (binOp .add 3 q (I 1)) fun r=>
 ax pg b a (aP p0) fun s=>
 ab pg b a (aT 79 2 2 1 s) fun t=>
 eU pg R b a true (st1 3 1 t r) fun _ v y=>
 (i v y))
 (i a b)))) fun z=>
 ax pg X0 w0 (aP p0) fun A=>
 ab pg X0 w0 (aT 79 3 3 1 A) fun C=>
 ab pg X0 w0 (ld1 3 C) fun D=>
 ab pg X0 w0 (binOp .gtr 3 D (I 0)) fun E=>
 (au E
 (ax pg X0 w0 (aP p0) fun F=>
 ab pg X0 w0 (aT 79 3 3 1 F) fun G=>
 ab pg X0 w0 (ld1 3 G) fun H=>
 ab pg X0 w0 (binOp .sub 3 H (I 1)) fun L=>
 ax pg X0 w0 (aP p0) fun M=>
 ab pg X0 w0 (aT 79 3 3 1 M) fun N=>
 eU pg R X0 w0 true (st1 3 1 N L) fun _ O Q=>
 (ax pg Q O (aP p0) fun S=>
 ab pg Q O (aT 79 3 3 1 S) fun T=>
 ab pg Q O (ld1 3 T) fun U=>
 ab pg Q O (aF .eql 3 (.tmp 19) (.const (I 0)) U (I 0)) fun V=>
 ax pg Q O (aP p0) fun Y=>
 ab pg Q O (aT 79 4 4 1 Y) fun Z=>
 eU pg R Q O true (st1 4 1 Z V) fun _ a0 b0=>
 (z a0 b0)))
 (z w0 X0))))
noncomputable def FJ:bu:=⟨20,[],[],[0,1],[],[]⟩
def wU (c0 c1:Value):Prop:=
 ab pg X0 w0 (ld1 24 c0) fun a=>
 ax pg X0 w0 (aP a) fun b=>
 ab pg X0 w0 (aT 79 0 0 1 b) fun c=>
 ab pg X0 w0 (ld1 77 c) fun d=>
 ab pg X0 w0 (ld1 9 c1) fun e=>
 ab pg X0 w0 (cx 77 d e false) fun g=>
 ab pg X0 w0 (ld1 24 c0) fun h=>
 ax pg X0 w0 (aP h) fun i=>
 ab pg X0 w0 (aT 79 0 0 1 i) fun j=>
 ab pg X0 w0 (ld1 77 j) fun k=>
 ab pg X0 w0 (ld1 9 c1) fun l=>
 ab pg X0 w0 (cx 77 k l false) fun m=>
 ax pg X0 w0 (aP m) fun n=>
 ab pg X0 w0 (aT 193 0 0 1 n) fun o=>
 ab pg X0 w0 (ld1 132 o) fun q=>
 ab pg X0 w0 (cp 132 3 q) fun r=>
 ax pg X0 w0 (aP g) fun s=>
 ab pg X0 w0 (aT 193 1 1 1 s) fun t=>
 eU pg R X0 w0 true (st1 3 1 t r) fun _ v y=>
 fin R y v (aJ #[])
noncomputable def DD:bu:=⟨25,[],[],[0,1,2,5],[],[]⟩
def uG (c0 c1 c2:Value):Prop:=
 ab pg X0 w0 (ld1 9 c0) fun a=>
 ab pg X0 w0 (ld1 9 c1) fun b=>
 ab pg X0 w0 (aF .eql 9 (.tmp 3) (.tmp 4) a b) fun c=>
 (au c
 (fin R X0 w0 (aJ #[]))
 ((ab pg X0 w0 (ld1 24 c2) fun d=>
 ab pg X0 w0 (ld1 9 c1) fun e=>
 eC pg R X0 w0 true 143 #[d,e] fun _ g h=>
 (ab pg h g (ld1 24 c2) fun i=>
 ax pg h g (aP i) fun j=>
 ab pg h g (aT 79 0 0 1 j) fun k=>
 ab pg h g (ld1 77 k) fun l=>
 ab pg h g (ld1 9 c1) fun m=>
 ab pg h g (ld1 24 c2) fun n=>
 ax pg h g (aP n) fun o=>
 ab pg h g (aT 79 0 0 1 o) fun q=>
 ab pg h g (ld1 77 q) fun r=>
 ab pg h g (ld1 9 c0) fun s=>
 ab pg h g (cx 77 r s false) fun t=>
 eU pg R h g true (dE 77 l m t) fun _ v y=>
 (ab pg y v (ld1 24 c2) fun z=>
 ax pg y v (aP z) fun A=>
 ab pg y v (aT 79 0 0 1 A) fun C=>
 ab pg y v (ld1 77 C) fun D=>
 ab pg y v (ld1 9 c0) fun E=>
 eV pg R y v true (iX #[77,9] 0 #[D,E]) fun _ F G=>
 fin R G F (aJ #[]))))))
def DY:Prop:=
 (eV pg R X0 w0 true (Instr.alloc 243 true (aJ #[])) fun a b c=>
 ((rr c b (I 0) undef undef 4 9 3 fun d e g _ _ h i=>
 ab pg i h (binOp .lss 3 g (I 256)) fun j=>
 (au j
 (((ab pg i h (mF gj 3 194 g) fun k=>
 ((ix i h (I 0) k 9 3 fun l m n o q r=>
 ab pg r q (binOp .lss 3 n (I 8)) fun s=>
 (au s
 ((ab pg r q (binOp .shr 194 o (aZ bz 1)) fun t=>
 ab pg r q (binOp .and 194 o (aZ gj 1)) fun v=>
 ab pg r q (aU UnOp.neg v) fun y=>
 ab pg r q (binOp .and 194 (aZ gj 2197175160) y) fun z=>
 ab pg r q (binOp .xor 194 t z) fun A=>
 ((ab pg r q (binOp .add 3 n (I 1)) fun C=>
 iy l m C A q r))))
 (((ab pg r q (Instr.indexAt 243 a g) fun D=>
 eU pg R r q true (st1 194 1 D o) fun _ E F=>
 ((ab pg F E (binOp .add 3 g (I 1)) fun G=>
 ru d e G n o E F)))))))))))
 (((ab pg i h (ek 243 256 a) fun H=>
 un (ak (aa H)) fun L=>
 aI (aq (ad (aa H))==256) (aI (av (ad (aa H)) bB.one) (un (cj L 0 256) fun M=>
 aI (av [L] cu) (fin R i h M))))))))))
noncomputable def Ph:bu:=⟨21,[(1,(pg.cellsOf 32))],[3,7,12,17],[0,2],[6,8,9,11,13,14,16,18,19],[]⟩
def Es (aQ aV aW:Int):Prop:=
 (ab pg X0 w0 (binOp .geq 3 (I aQ) (I 1)) fun a=>
 un (aB a true (I aQ)) fun b=>
 ay pg X0 w0 a true (vS (binOp .leq 3 b (I 2))) fun c=>
 ax pg X0 w0 (aM a c (B false)) fun d=>
 un (aB d true (I aV)) fun e=>
 ay pg X0 w0 d true (vS (binOp .geq 3 e (I 1))) fun g=>
 ax pg X0 w0 (aM d g (B false)) fun h=>
 un (aB h true (I aW)) fun i=>
 ay pg X0 w0 h true (vS (binOp .geq 3 i (I 1))) fun j=>
 ax pg X0 w0 (aM h j (B false)) fun k=>
 (fin R X0 w0 k))
def HL (p0:Value):Prop:=
 (ab pg X0 w0 (cp 35 3 p0) fun a=>
 (gg X0 w0 (I 0) 7 fun b c d e g=>
 ab pg g e (binOp .lss 3 d a) fun h=>
 (au h
 ((ab pg g e (cA 35 1 p0 d) fun i=>
 ab pg g e (ld1 9 i) fun j=>
 (eC pg R g e true 194 #[j] fun k l m=>
 ab pg m l (aU bh k) fun n=>
 un (aB n false d) fun o=>
 ay pg m l n false (vS (binOp .gtr 3 o (I 0))) fun q=>
 un (aB n false q) fun r=>
 un (aB r true p0) fun s=>
 un (aB r true d) fun t=>
 ay pg m l r true (vS (binOp .sub 3 t (I 1))) fun v=>
 ay pg m l r true (vS (cA 35 1 s v)) fun y=>
 ay pg m l r true (vS (ld1 9 y)) fun z=>
 un (aB r true j) fun A=>
 ay pg m l r true (vS (binOp .geq 9 z A)) fun C=>
 ay pg m l n false (aM r C (B false)) fun D=>
 ax pg m l (aM n (B true) D) fun E=>
 (au E
 (fin R m l (B false))
 (((ab pg m l (binOp .add 3 d (I 1)) fun F=>
 fY b c F l m)))))))
 (((ab pg g e (cp 35 3 p0) fun G=>
 ab pg g e (binOp .leq 3 G (I 16)) fun H=>
 (fin R g e H)))))))
noncomputable def UW:bu:=⟨25,[],[],[0,1,2,6,8],[10,11,12,13,17,18,19,21,22,23],[]⟩
def HO (p0:Int) (p1:Bool) (p2:Value):Prop:=
 (ab pg X0 w0 (aF .eql 27 (.tmp 7) (.const (I 0)) (I p0) (I 0)) fun a=>
 (au a
 (un (aB (B p1) true p2) fun b=>
 ay pg X0 w0 (B p1) true (vS (cp 39 3 b)) fun c=>
 ay pg X0 w0 (B p1) true (vS (aF .eql 3 (.tmp 12) (.const (I 0)) c (I 0))) fun d=>
 ax pg X0 w0 (aM (B p1) d (B false)) fun e=>
 (fin R X0 w0 e))
 ((ab pg X0 w0 (binOp .gtr 27 (I p0) (I 0)) fun g=>
 un (aB g true (I p0)) fun h=>
 ay pg X0 w0 g true (vS (binOp .leq 27 h (I 25))) fun i=>
 ax pg X0 w0 (aM g i (B false)) fun j=>
 un (aB j true p2) fun k=>
 jn (fun (l:Value) (m:World) (n:XS)=>
 ax pg n m (aM j l (B false)) fun o=>
 (fin R n m o)) fun q=>
 (gE j true (eC pg R X0 w0 true 195 #[k] q) (q undef w0 X0))))))
def HM (p0:Value):Prop:=
 ((ab pg X0 w0 (cp 36 3 p0) fun a=>
 (ix X0 w0 (I 0) (.slice none 0 0) 8 3 fun b c d e g h=>
 ab pg h g (binOp .lss 3 d a) fun i=>
 (au i
 ((ab pg h g (cA 36 7 p0 d) fun j=>
 ab pg h g (ek 166 7 j) fun k=>
 un (ak (aa k)) fun l=>
 aI (aq (ad (aa k))==7) (aI (av (ad (aa k)) bB.one) ((aI (cu l) (un (cellOf l 0) fun m=>
 eV pg R h g true (gG 35 9 1 1 #[(0,m)]) fun n o q=>
 eV pg R q o true (ga 35 9 1 16 35 e n) fun r s t=>
 (aI (cu l) (un (cj l 4 3) fun v=>
 eC pg R t s true 57 #[v] fun y z A=>
 ab pg A z (aU bh y) fun C=>
 un (cj l 1 3) fun D=>
 un (aB C false D) fun E=>
 jn (fun (F:Value) (G:World) (H:XS)=>
 ay pg H G C false (vS (aU bh F)) fun L=>
 ax pg H G (aM C (B true) L) fun M=>
 un (aB M false v) fun N=>
 ay pg H G M false (vS (ea 34 #[(I 0),(I 0),(I 0)] #[])) fun O=>
 ay pg H G M false (vS (aF .eql 34 (.tmp 29) (.tmp 30) N O)) fun Q=>
 un (aB M false Q) fun S=>
 un (cellOf l 1) fun T=>
 un (aB S true T) fun U=>
 ay pg H G S true (vS (aF .neq 3 (.tmp 35) (.const (I 0)) U (I 0))) fun V=>
 ay pg H G M false (aM S V (B false)) fun Y=>
 ax pg H G (aM M (B true) Y) fun Z=>
 (au Z
 (fin R H G (B false))
 (((ab pg H G (binOp .add 3 d (I 1)) fun a0=>
 iy b c a0 r G H))))) fun b0=>
 (gE C false (eC pg R A z true 196 #[E] b0) (b0 undef z A))))))))))
 (eC pg R h g true 153 #[e] fun c0 d0 e0=>
 (fin R e0 d0 c0))))))
def CD (p0:Value):Prop:=
 ((ab pg X0 w0 (cp 37 3 p0) fun a=>
 (ix X0 w0 (I 0) (.slice none 0 0) 8 3 fun b c d e g h=>
 ab pg h g (binOp .lss 3 d a) fun i=>
 (au i
 ((ab pg h g (cA 37 4 p0 d) fun j=>
 ab pg h g (ek 118 4 j) fun k=>
 un (ak (aa k)) fun l=>
 aI (aq (ad (aa k))==4) (aI (av (ad (aa k)) bB.one) ((aI (cu l) (un (cellOf l 0) fun m=>
 eV pg R h g true (gG 35 9 1 1 #[(0,m)]) fun n o q=>
 eV pg R q o true (ga 35 9 1 16 35 e n) fun r s t=>
 (aI (cu l) (un (cj l 1 3) fun v=>
 eC pg R t s true 196 #[v] fun y z A=>
 ab pg A z (aU bh y) fun C=>
 (au C
 (fin R A z (B false))
 (((ab pg A z (binOp .add 3 d (I 1)) fun D=>
 iy b c D r z A))))))))))))
 (eC pg R h g true 153 #[e] fun E F G=>
 (fin R G F E))))))
def GB (p0:Value):Prop:=
 (ab pg X0 w0 (cp 38 3 p0) fun a=>
 (gg X0 w0 (I 0) 7 fun b c d e g=>
 ab pg g e (binOp .lss 3 d a) fun h=>
 (au h
 ((ab pg g e (cA 38 1 p0 d) fun i=>
 ab pg g e (ld1 3 i) fun j=>
 (ab pg g e (binOp .lss 3 j (I 1)) fun k=>
 un (aB k false j) fun l=>
 ay pg g e k false (vS (binOp .gtr 3 l (I 12))) fun m=>
 ax pg g e (aM k (B true) m) fun n=>
 un (aB n false d) fun o=>
 ay pg g e n false (vS (binOp .gtr 3 o (I 0))) fun q=>
 un (aB n false q) fun r=>
 un (aB r true p0) fun s=>
 un (aB r true d) fun t=>
 ay pg g e r true (vS (binOp .sub 3 t (I 1))) fun v=>
 ay pg g e r true (vS (cA 38 1 s v)) fun y=>
 ay pg g e r true (vS (ld1 3 y)) fun z=>
 un (aB r true j) fun A=>
 ay pg g e r true (vS (binOp .geq 3 z A)) fun C=>
 ay pg g e n false (aM r C (B false)) fun D=>
 ax pg g e (aM n (B true) D) fun E=>
 (au E
 (fin R g e (B false))
 (((ab pg g e (binOp .add 3 d (I 1)) fun F=>
 fY b c F e g)))))))
 (((ab pg g e (cp 38 3 p0) fun G=>
 ab pg g e (binOp .gtr 3 G (I 0)) fun H=>
 (fin R g e H)))))))
noncomputable def Wb:bu:=⟨17,[],[],[0,1,4,6,7,8,9,10,15],[],[9]⟩
def KJ (p0:Value) (p1:Int):Prop:=
 (ab pg X0 w0 (cp 38 3 p0) fun a=>
 (gg X0 w0 (I 0) 9 fun b c d e g=>
 ab pg g e (binOp .lss 3 d a) fun h=>
 (au h
 ((ab pg g e (cA 38 1 p0 d) fun i=>
 ab pg g e (ld1 3 i) fun j=>
 (ab pg g e (aF .eql 3 (.tmp 13) (.tmp 14) j (I p1)) fun k=>
 (au k
 (fin R g e (B true))
 (((ab pg g e (binOp .add 3 d (I 1)) fun l=>
 fY b c l e g)))))))
 (fin R g e (B false)))))
noncomputable def Pj:bu:=⟨23,[],[],[0,1,2,3,4,5,6,10,21],[],[]⟩
def DT (aQ aV aW bq bG bJ bM bV cD cV:Int) (cg:Bool) (bZ:Int) (dm:Nat) (de da dc df:Value) (dh cM:Int) (cK cN:Nat) (cO cP dd cQ cW cX:Int) (cY cZ:Value):Prop:=
 eV pg R X0 w0 true (cL 73 (.agg #[(I aQ),(I aV),(I aW),(I bq),(I bG),(I bJ),(I bM),(I bV),(I cD),(I cV),(B cg),(I bZ),(.float .f64 dm),de,da,dc,df,(I dh),(I cM),(.float .f64 cK),(.float .f64 cN),(I cO),(I cP),(I dd),(I cQ),(I cW),(I cX),cY,cZ])) fun a b c=>
 (ab pg c b (ek 73 29 a) fun d=>
 eC pg R c b true 166 #[d] fun e g h=>
 (ab pg h g (aF .neq 27 (.tmp 9) (.const (I 0)) e (I 0)) fun i=>
 (au i
 ((fin R h g (aJ #[(.slice none 0 0),e])))
 ((eC pg R h g true 112 #[] fun j k l=>
 (ab pg l k (ea 293 #[j,(.pointer none)] #[(0,j)]) fun m=>
 eV pg R l k true (cL 293 m) fun n o q=>
 eC pg R q o true 197 #[n,a] fun _ r s=>
 (eC pg R s r true 114 #[j] fun t v y=>
 (ab pg y v (cp 132 3 t) fun z=>
 ab pg y v (binOp .gtr 3 z (I 262144)) fun A=>
 (au A
 ((fin R y v (aJ #[(.slice none 0 0),(I 2)])))
 (((fin R y v (aJ #[t,(I 0)])))))))))))))
noncomputable def UX:bu:=⟨33,[(1,(pg.cellsOf 43))],[3,7,12,17,22,27,29],[0,2],[6,8,9,11,13,14,16,18,19,21,23,24,26,28,30,31],[]⟩
def IK (aQ aV:Int) (aW bq:Nat):Prop:=
 (ab pg X0 w0 (binOp .geq 3 (I aQ) (I 1)) fun a=>
 un (aB a true (I aQ)) fun b=>
 ay pg X0 w0 a true (vS (binOp .leq 3 b (I 12))) fun c=>
 ax pg X0 w0 (aM a c (B false)) fun d=>
 un (aB d true (I aV)) fun e=>
 ay pg X0 w0 d true (vS (binOp .geq 3 e (I 0))) fun g=>
 ax pg X0 w0 (aM d g (B false)) fun h=>
 un (aB h true (.float .f64 aW)) fun i=>
 jn (fun (j:Value) (k:World) (l:XS)=>
 ax pg l k (aM h j (B false)) fun m=>
 un (aB m true (.float .f64 bq)) fun n=>
 jn (fun (o:Value) (q:World) (r:XS)=>
 ax pg r q (aM m o (B false)) fun s=>
 un (aB s true (.float .f64 aW)) fun t=>
 un (aB s true (.float .f64 bq)) fun v=>
 ay pg r q s true (vS (binOp .lss 41 t v)) fun y=>
 ax pg r q (aM s y (B false)) fun z=>
 (fin R r q z)) fun A=>
 (gE m true (eC pg R l k true 198 #[n] A) (A undef k l))) fun C=>
 (gE h true (eC pg R X0 w0 true 198 #[i] C) (C undef w0 X0)))
end
end Go.Proofs.YtfndblbeikocdaaGreat
