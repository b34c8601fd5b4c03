/-
 Part 7 of the proof: what the last text leans on.
-/
import Derived.Test.YtfndblbeikocdaaGreatProg
import Derived.KernelRfl
import Derived.Test.YtfndblbeikocdaaGreatY6
open Nat renaming zero_le → aN, le_trans → af, mul_one → kN, lt_of_lt_of_le → aI
open List renaming take_add_one → bc, mem_of_getElem? → aA, length_take → aW, filter_append → ea, length_map → ay, drop_zero → oN, length_append → ae, length_cons → bP, length_nil → dj, take_of_length_le → aY, any_cons → iK, all_cons → ib, length_filter_le → eH, nil_append → fg, foldl_cons → gV
open Go.Value renaming string → dm
open BitVec renaming ofInt → bY
open List.cons renaming injEq → re
open Ieee.Datum renaming quotient → tq
set_option linter.unusedVariables false
set_option linter.unusedSimpArgs false
namespace Go.Proofs.YtfndblbeikocdaaGreat
open Go.Proofs.Tryz renaming prog → pg
open Go.bu
set_option maxRecDepth 100000
section
variable {R : Ending → World → Prop} {w0 : World} {p0 p1 p2 p3 p4 p5 p6 p7 p8 p9 p10 p11 : Value}
theorem Aq (h:rU R w0 (aS w0) p0 p1 p2):Calls pg 303 #[p0,p1,p2] w0 R:=cv ⟨63,[(8,(pg.cellsOf 227))],[],[0,1,2,6,7,17,38,39,40,46],[],[39]⟩ Tryz.func303 h
theorem CV (h:uc R w0 (aS w0) p0 p1):Calls pg 304 #[p0,p1] w0 R:=cv ⟨14,[],[],[0,1],[],[]⟩ Tryz.func304 h
theorem Gy {R:Ending→World→Prop} {w0:World} {p0:Value} {p1:ByteArray} (h:xZ R w0 (aS w0) p0 p1):Calls pg 305 #[p0,(.string p1)] w0 R:=
 aL (pl:=Gm) Tryz.func305 (by kernel_rfl) (by kernel_rfl) h
theorem Tu {R:Ending→World→Prop} {w0:World} {p0:Value} {cm:Int} {cu:Nat} {cq:ByteArray} (h:HM R w0 (aS w0) p0 cm cu cq):Calls pg 308 #[p0,(.agg #[(I cm),(.float .f64 cu),(.string cq)])] w0 R:=
 aL (pl:=S8) Tryz.func308 (by kernel_rfl) (by kernel_rfl) h
end
end Go.Proofs.YtfndblbeikocdaaGreat
namespace Go.Proofs.YtfndblbeikocdaaGreat
open Go.Proofs.Tryz renaming prog → pg
open Go.bu
set_option maxRecDepth 100000
set_option maxHeartbeats 1000000
set_option linter.unusedVariables false
set_option linter.unusedSimpArgs false
abbrev BA:=ByteArray
@[ext] structure aK where
 wall:Int
 dp:Int
 node:Int
 deriving DecidableEq
abbrev aK.l (s:aK):List Value:=[I s.wall,I s.dp,I s.node]
abbrev aK.v (s:aK):Value:=.agg #[I s.wall,I s.dp,I s.node]
abbrev aK.zero:aK:=⟨0,0,0⟩
@[ext] structure dX where
 iH:Int
 lg:Int
 sq:Int
 deriving DecidableEq
abbrev dX.l (s:dX):List Value:=[I s.iH,I s.lg,I s.sq]
abbrev dX.v (s:dX):Value:=.agg #[I s.iH,I s.lg,I s.sq]
abbrev dX.zero:dX:=⟨0,0,0⟩
@[ext] structure mS where
 kind:Int
 num:Nat
 text:BA
 deriving DecidableEq
abbrev mS.l (x:mS):List Value:=[I x.kind,.float .f64 x.num,.string x.text]
abbrev mS.v (x:mS):Value:=.agg #[I x.kind,.float .f64 x.num,.string x.text]
abbrev mS.zero:mS:=⟨0,0,⟨#[]⟩⟩
@[ext] structure KV where
 key:BA
 val:mS
 deriving DecidableEq
abbrev KV.l (x:KV):List Value:=[.string x.key,I x.val.kind,.float .f64 x.val.num,.string x.val.text]
abbrev KV.v (x:KV):Value:=.agg #[.string x.key,I x.val.kind,.float .f64 x.val.num,.string x.val.text]
abbrev S1 (x:BA):List Value:=[.string x]
abbrev I1 (x:Int):List Value:=[I x]
@[ext] structure kc where
 aw:aK
 val:mS
 deriving DecidableEq
abbrev kc.l (x:kc):List Value:=[I x.aw.wall,I x.aw.dp,I x.aw.node,I x.val.kind,.float .f64 x.val.num,.string x.val.text]
@[ext] structure iP where
 key:BA
 jZ:List kc
 deriving DecidableEq
abbrev iP.l (h:iP) (vv:Value):List Value:=[.string h.key,vv]
def iP.rd (w:World) (X:XS) (l:List Value) (h:iP):Prop:= ∃vv,l=h.l vv∧Sl w X 6 vv (h.jZ.map kc.l)
@[ext] structure dB where
 bU:dX
 aw:aK
 reads:List BA
 writes:List KV
 deriving DecidableEq
abbrev dB.l (p:dB) (vr vw:Value):List Value:=[I p.bU.iH,I p.bU.lg,I p.bU.sq,I p.aw.wall,I p.aw.dp,I p.aw.node,vr,vw]
abbrev dB.v (p:dB) (vr vw:Value):Value:=.agg #[I p.bU.iH,I p.bU.lg,I p.bU.sq,I p.aw.wall,I p.aw.dp,I p.aw.node,vr,vw]
def dB.rd (w:World) (X:XS) (l:List Value) (p:dB):Prop:= ∃vr vw,l=p.l vr vw∧Sl w X 1 vr (p.reads.map S1)∧Sl w X 4 vw (p.writes.map KV.l)
@[ext] structure kX where
 id:Int
 jD:Int
 lo:Nat
 hi:Nat
 deriving DecidableEq
abbrev kX.l (r:kX):List Value:=[I r.id,I r.jD,.float .f64 r.lo,.float .f64 r.hi]
abbrev kX.v (r:kX):Value:=.agg #[I r.id,I r.jD,.float .f64 r.lo,.float .f64 r.hi]
@[ext] structure State where
 range:kX
 floor:aK
 closed:aK
 gG:List iP
 eA:List dB
 deriving DecidableEq
abbrev State.l (s:State) (vh vp:Value):List Value:=[I s.range.id,I s.range.jD,.float .f64 s.range.lo,.float .f64 s.range.hi,
 I s.floor.wall,I s.floor.dp,I s.floor.node,I s.closed.wall,I s.closed.dp,I s.closed.node,vh,vp]
abbrev State.v (s:State) (vh vp:Value):Value:=.agg #[I s.range.id,I s.range.jD,.float .f64 s.range.lo,.float .f64 s.range.hi,
 I s.floor.wall,I s.floor.dp,I s.floor.node,I s.closed.wall,I s.closed.dp,I s.closed.node,vh,vp]
abbrev nL (w:World) (X:XS) (v:Value) (l:List iP):Prop:=gO w X 2 v iP.rd l
abbrev nK (w:World) (X:XS) (v:Value) (l:List dB):Prop:=gO w X 8 v dB.rd l
def State.rd (w:World) (X:XS) (l:List Value) (s:State):Prop:= ∃vh vp,l=s.l vh vp∧nL w X vh s.gG∧nK w X vp s.eA
@[ext] structure Rec where
 kind:Int
 bU:dX
 aw:aK
 prev:aK
 iy:Bool
 n:Int
 jP:Nat
 reads:List BA
 writes:List KV
 parts:List Int
 qm:List KV
 state:State
 deriving DecidableEq
abbrev Rec.l (r:Rec) (vr vw vp vq vh vd:Value):List Value:=[I r.kind,I r.bU.iH,I r.bU.lg,I r.bU.sq,I r.aw.wall,I r.aw.dp,I r.aw.node,
 I r.prev.wall,I r.prev.dp,I r.prev.node,B r.iy,I r.n,.float .f64 r.jP,vr,vw,vp,vq,I r.state.range.id,I r.state.range.jD,.float .f64 r.state.range.lo,.float .f64 r.state.range.hi,
 I r.state.floor.wall,I r.state.floor.dp,I r.state.floor.node,I r.state.closed.wall,I r.state.closed.dp,I r.state.closed.node,vh,vd]
abbrev Rec.v (r:Rec) (vr vw vp vq vh vd:Value):Value:=.agg #[I r.kind,I r.bU.iH,I r.bU.lg,I r.bU.sq,I r.aw.wall,I r.aw.dp,I r.aw.node,
 I r.prev.wall,I r.prev.dp,I r.prev.node,B r.iy,I r.n,.float .f64 r.jP,vr,vw,vp,vq,I r.state.range.id,I r.state.range.jD,.float .f64 r.state.range.lo,.float .f64 r.state.range.hi,
 I r.state.floor.wall,I r.state.floor.dp,I r.state.floor.node,I r.state.closed.wall,I r.state.closed.dp,I r.state.closed.node,vh,vd]
def Rec.at (w:World) (X:XS) (r:Rec) (vr vw vp vq vh vd:Value):Prop:=
 Sl w X 1 vr (r.reads.map S1)∧Sl w X 4 vw (r.writes.map KV.l)∧Sl w X 1 vp (r.parts.map I1)∧Sl w X 4 vq (r.qm.map KV.l)∧nL w X vh r.state.gG∧nK w X vd r.state.eA
def Rec.rd (w:World) (X:XS) (l:List Value) (r:Rec):Prop:= ∃vr vw vp vq vh vd,l=r.l vr vw vp vq vh vd∧r.at w X vr vw vp vq vh vd
theorem iP.mv:Ez iP.rd:=fun ⟨vv,h,h1⟩ m=>⟨vv,h,h1.mv m⟩
theorem dB.mv:Ez dB.rd:=fun ⟨vr,vw,h,h1,h2⟩ m=>⟨vr,vw,h,h1.mv m,h2.mv m⟩
theorem nL.mv {w w':World} {X Y:XS} {v:Value} {l:List iP} (h:nL w X v l) (m:Mv X w Y w'):nL w' Y v l:=gO.mv h iP.mv m
theorem nK.mv {w w':World} {X Y:XS} {v:Value} {l:List dB} (h:nK w X v l) (m:Mv X w Y w'):nK w' Y v l:=gO.mv h dB.mv m
theorem State.mv:Ez State.rd:=fun ⟨vh,vp,h,h1,h2⟩ m=>⟨vh,vp,h,gO.mv h1 iP.mv m,gO.mv h2 dB.mv m⟩
theorem Rec.at.mv {w w':World} {X Y:XS} {r:Rec} {vr vw vp vq vh vd:Value} (h:r.at w X vr vw vp vq vh vd) (m:Mv X w Y w'):r.at w' Y vr vw vp vq vh vd:=
 ⟨h.1.mv m,h.2.1.mv m,h.2.2.1.mv m,h.2.2.2.1.mv m,gO.mv h.2.2.2.2.1 iP.mv m,gO.mv h.2.2.2.2.2 dB.mv m⟩
theorem Rec.mv:Ez Rec.rd:=fun ⟨vr,vw,vp,vq,vh,vd,h,h1⟩ m=>⟨vr,vw,vp,vq,vh,vd,h,h1.mv m⟩
section
variable {P : Program} {X X0 : XS} {w w0 : World} {N : Value → Prop}
theorem IE {t:TypeId} {v:Value} {xs:List dB} {i:Nat} {z:Int} {x:dB} (h:nK w0 X0 v xs) (hr:xs[i]? =some x)
  (hz:z=i) (ht:P.underlying t=some (.slice (P.elem t))) (hs:(P.info? (P.elem t)).map (·.size)=some 8)
  (n: ∀b o vr vw,bu.one vr=true→bu.one vw=true→Cells w0 X0 b o (x.l vr vw)→Sl w0 X0 1 vr (x.reads.map S1)→Sl w0 X0 4 vw (x.writes.map KV.l)→N (ptr b o)):ad P X w (dt t 8 v (.int .i64 z)) N:=
 Qz h hr hz ht hs fun b o _ hc ⟨vr,vw,hl,h1,h2⟩=>n b o vr vw h1.one h2.one (hl▸hc) h1 h2
theorem MG {t:TypeId} {v:Value} {xs:List iP} {i:Nat} {z:Int} {x:iP} (h:nL w0 X0 v xs) (hr:xs[i]? =some x)
  (hz:z=i) (ht:P.underlying t=some (.slice (P.elem t))) (hs:(P.info? (P.elem t)).map (·.size)=some 2)
  (n: ∀b o vv,bu.one vv=true→Cells w0 X0 b o (x.l vv)→Sl w0 X0 6 vv (x.jZ.map kc.l)→N (ptr b o)):ad P X w (dt t 2 v (.int .i64 z)) N:=
 Qz h hr hz ht hs fun b o _ hc ⟨vv,hl,h1⟩=>n b o vv h1.one (hl▸hc) h1
theorem M7 {t:TypeId} {v:Value} {xs:List Rec} {i:Nat} {z:Int} {x:Rec} (h:gO w0 X0 29 v Rec.rd xs) (hr:xs[i]? =some x)
  (hz:z=i) (ht:P.underlying t=some (.slice (P.elem t))) (hs:(P.info? (P.elem t)).map (·.size)=some 29)
  (n: ∀b o vr vw vp vq vh vd,bu.one vr=true→bu.one vw=true→bu.one vp=true→bu.one vq=true→bu.one vh=true→bu.one vd=true→
   Cells w0 X0 b o (x.l vr vw vp vq vh vd)→x.at w0 X0 vr vw vp vq vh vd→N (ptr b o)):ad P X w (dt t 29 v (.int .i64 z)) N:=
 Qz h hr hz ht hs fun b o _ hc ⟨vr,vw,vp,vq,vh,vd,hl,h1⟩=>n b o vr vw vp vq vh vd h1.1.one h1.2.1.one h1.2.2.1.one h1.2.2.2.1.one h1.2.2.2.2.1.one h1.2.2.2.2.2.one (hl▸hc) h1
theorem XJ {t:TypeId} {xo yo:Operand} (a b:aK) (h:gx P t 3=true) (hT:a=b→N (.bool true)) (hF: ¬a=b→N (.bool false)):
  ad P X w (aH .eql t xo yo a.v b.v) N:=ZW h (fun h1 h2 h3=>hT (aK.ext h1 h2 h3)) fun hn=>hF fun e=>hn (by subst e;exact⟨rfl,rfl,rfl⟩)
theorem WY {t:TypeId} {xo yo:Operand} (a b:aK) (h:gx P t 3=true) (hT: ¬a=b→N (.bool true)) (hF:a=b→N (.bool false)):
  ad P X w (aH .neq t xo yo a.v b.v) N:=Ri h (fun hn=>hT fun e=>hn (by subst e;exact⟨rfl,rfl,rfl⟩)) fun h1 h2 h3=>hF (aK.ext h1 h2 h3)
theorem zd {t:TypeId} {xo yo:Operand} (a:aK) (h:gx P t 3=true) (hT:a= .zero→N (.bool true)) (hF: ¬a= .zero→N (.bool false)):
  ad P X w (aH .eql t xo yo a.v (.agg #[I 0,I 0,I 0])) N:=XJ a .zero h hT hF
theorem Z7 {t:TypeId} {xo yo:Operand} (a:aK) (h:gx P t 3=true) (hT: ¬a= .zero→N (.bool true)) (hF:a= .zero→N (.bool false)):
  ad P X w (aH .neq t xo yo a.v (.agg #[I 0,I 0,I 0])) N:=WY a .zero h hT hF
theorem QG {t:TypeId} {xo yo:Operand} (a b:dX) (h:gx P t 3=true) (hT:a=b→N (.bool true)) (hF: ¬a=b→N (.bool false)):
  ad P X w (aH .eql t xo yo a.v b.v) N:=ZW h (fun h1 h2 h3=>hT (dX.ext h1 h2 h3)) fun hn=>hF fun e=>hn (by subst e;exact⟨rfl,rfl,rfl⟩)
theorem Z8 {t:TypeId} {xo yo:Operand} (a:dX) (h:gx P t 3=true) (hT:a= .zero→N (.bool true)) (hF: ¬a= .zero→N (.bool false)):
  ad P X w (aH .eql t xo yo a.v (.agg #[I 0,I 0,I 0])) N:=QG a .zero h hT hF
end
def lim:Nat:=2^20
def dB.small (p:dB):Prop:=p.reads.length≤lim∧p.writes.length≤lim
end Go.Proofs.YtfndblbeikocdaaGreat
namespace Go.Proofs.YtfndblbeikocdaaGreat
open Go.Proofs.Tryz renaming prog → pg
open Go.bu
set_option maxRecDepth 100000
set_option maxHeartbeats 1000000
set_option linter.unusedVariables false
set_option linter.unusedSimpArgs false
attribute [local irreducible] un jn aF aT ld1 ew st1 dt cB lS dV lT uN tG gq fW ad az aJ eW eV eU eC eF gE au fin aQ aM aH vS xt gp il pR uO xu xv xw xx gm im pS uP xy xz xA
def aK.cmp (a b:aK):Int:=
 let p:=if a.wall≠b.wall then(a.wall,b.wall)else if a.dp≠b.dp then(a.dp,b.dp)else(a.node,b.node)
 if p.1<p.2 then-1 else if p.1>p.2 then 1 else 0
def dX.less (a b:dX):Bool:=
 if a.iH≠b.iH then a.iH<b.iH else if a.lg≠b.lg then a.lg<b.lg else a.sq<b.sq
def dX.may (a:dX):Bool:=a.iH≥1&&a.iH≤2&&a.lg≥1&&a.sq≥1
def aK.may (a:aK):Bool:=a.wall≥0&&a.wall≤281474976710656&&a.dp≥0&&a.dp≤65535&&a.node≥0&&a.node≤63
def aK.later (a b:aK):aK:=if a.cmp b<0 then b else a
def aK.MH (a:aK):Bool:=a.may&&!decide (a= .zero)
def aK.qf (s:aK):aK×Bool:=
 if !s.may||decide (s= .zero)then(.zero,false)
 else if s.node>0 then(⟨s.wall,s.dp,s.node-1⟩,true)
 else if s.dp>0 then(⟨s.wall,s.dp-1,63⟩,true)
 else(⟨s.wall-1,65535,63⟩,true)
theorem aK.Dg {a:aK} :a.may=true↔0≤a.wall∧a.wall≤281474976710656∧0≤a.dp∧a.dp≤65535∧0≤a.node∧a.node≤63:=by
 simp [aK.may,and_assoc]
theorem ic (a b:aK):Pure pg 84 #[a.v,b.v] (I (a.cmp b)):=by
 intro w0;apply NJ;unfold DD;have hs:=ak.init w0;repeat' first|refine aD ?_;intros|refine dD ?_ ?_<;>intros|with_reducible apply dG|(with_reducible refine fA hs ?_);simp_all [aK.cmp]<;>omega
theorem zk (a:dX):Pure pg 152 #[a.v] (B a.may):=by
 intro w0;apply NN;unfold DH;have hs:=ak.init w0;repeat' first|refine aD ?_;intros|refine dD ?_ ?_<;>intros|(with_reducible refine fA hs ?_);simp_all [dX.may]<;>omega
theorem jc (a:aK):Pure pg 57 #[a.v] (B a.may):=by
 intro w0;apply Xy;unfold Mr;have hs:=ak.init w0;repeat' first|refine aD ?_;intros|refine dD ?_ ?_<;>intros|(with_reducible refine fA hs ?_);simp_all [aK.may]<;>omega
theorem tM (a b:aK):Pure pg 31 #[a.v,b.v] (a.later b).v:=by
 intro w0;apply S9;unfold Hm;have hs:=ak.init w0;repeat' first|refine aD ?_;intros|refine dD ?_ ?_<;>intros|((with_reducible refine fX (ic _ _) ?_ hs.has ?_);(· kernel_rfl);intro w X aq;replace hs:=hs.trans aq)|(with_reducible refine fA hs ?_);simp_all [aK.later]<;>grind
theorem Qd (n:Int):Pure pg 247 #[I n] (B (decide (n≥1)&&decide (n≤12))):=by
 intro w0;apply NT;unfold DP;have hs:=ak.init w0;repeat' first|refine aD ?_;intros|refine dD ?_ ?_<;>intros|(with_reducible refine fA hs ?_);simp_all<;>omega
theorem FL (a:aK):Pure pg 248 #[a.v] (B a.MH):=by
 intro w0;apply NU;unfold DQ;have hs:=ak.init w0;repeat' first|refine aD ?_;intros|(with_reducible refine Z7 _ ?_ ?_ ?_);(· kernel_rfl);all_goals intros|((with_reducible refine dR (jc _) ?_ hs.has ?_ ?_);(· kernel_rfl);all_goals (intro _ w X aq;replace hs:=hs.trans aq))|(with_reducible refine fA hs ?_);simp_all [aK.MH]
def aK.NV (c:Bool) (a:aK):Bool:=if c then a.MH else decide (a= .zero)
theorem NW (c:Bool) (a:aK):Pure pg 245 #[B c,a.v] (B (a.NV c)):=by
 intro w0;apply ME;unfold Cj;have hs:=ak.init w0;repeat' first|refine aD ?_;intros|refine dD ?_ ?_<;>intros|(with_reducible refine zd _ ?_ ?_ ?_);(· kernel_rfl);all_goals intros|((with_reducible refine dR (FL _) ?_ hs.has ?_ ?_);(· kernel_rfl);all_goals (intro _ w X aq;replace hs:=hs.trans aq))|(with_reducible refine fA hs ?_);simp_all [aK.NV]
theorem UP (s:aK):Pure pg 128 #[s.v] (.tuple #[s.qf.1.v,B s.qf.2]):=by
 intro w0;apply Td;unfold Hs;have hs:=ak.init w0;repeat' first|refine aD ?_;intros|refine dD ?_ ?_<;>intros|(with_reducible refine zd _ ?_ ?_ ?_);(· kernel_rfl);all_goals intros|with_reducible apply dG|((with_reducible refine dR (jc _) ?_ hs.has ?_ ?_);(· kernel_rfl);all_goals (intro _ w X aq;replace hs:=hs.trans aq))|(with_reducible refine fA hs ?_);(simp_all [aK.qf]<;>grind)|(have hb:=aK.Dg.1 ‹_›;(with_reducible refine acs ?_ ?_ ?_);omega;omega)
theorem yi (x:Nat) (wa:World):(callFunc 118 #[.float .f64 x]).run pg wa= .ok (.value (.int .u64 x)) wa:=by kernel_rfl
theorem NX (a b:Nat):Pure pg 130 #[.float .f64 a,.float .f64 b] (B (decide (a=b))):=by
 intro w0;apply MA;unfold Cf;have hs:=ak.init w0;repeat' first|refine aD ?_;intros|refine dD ?_ ?_<;>intros|(with_reducible refine fA hs ?_);simp_all [Int.ofNat_inj]|((with_reducible refine Bl (yi _) hs.has ?_);intro w X aq;replace hs:=hs.trans aq)
theorem MI (a b:mS):Pure pg 88 #[a.v,b.v] (B (decide (a=b))):=by
 intro w0;apply Le;unfold Bv;have hs:=ak.init w0;repeat' first|refine aD ?_;intros|refine dD ?_ ?_<;>intros|with_reducible apply dG|((with_reducible refine dR (NX _ _) ?_ hs.has ?_ ?_);(· kernel_rfl);all_goals (intro _ w X aq;replace hs:=hs.trans aq))|(with_reducible refine fA hs ?_);simp_all [mS.ext_iff]
theorem KT {w:World} {X:XS} {a b:Value} {xs ys:List KV} (ha:Sl w X 4 a (xs.map KV.l)) (hb:Sl w X 4 b (ys.map KV.l)):
  Ct pg 39 #[a,b] w X nX fun v _ _=>v=B (decide (xs=ys)):=by
  intro w0 hk;replace ha:=ha.mv hk.cL;replace hb:=hb.mv hk.cL;have iV:=ha.gz;apply Ji;unfold zP;have hs:=ak.init w0;repeat' first|refine aD ?_;intros|refine dD ?_ ?_<;>intros|((first|(with_reducible refine ai hs ?_)|(with_reducible refine ai (bF.trans hs) ?_));intro wa hk;(simp only [B,Value.bool.injEq];symm;rw [decide_eq_false_iff_not];rintro rfl;omega))
  have hlen:xs.length=ys.length:=by omega
  refine eG (fun n a w X=> ∃i:Nat,a=I (i:Nat)∧n=(xs).length-i∧i≤(xs).length∧ak (aS w0) w0 X w∧(xs=ys↔xs.drop i=ys.drop i)) (xs).length ⟨0,rfl,rfl,aN _,hs,by simp⟩ ?_;rintro n a w X ⟨i,rfl,rfl,hi,hs,hw⟩;rcases eb (xs) i with⟨cK,x,hx,hd⟩|⟨dU,hd⟩
  ·obtain⟨y,hy,hdy⟩:=Is (xs:=ys) (i:=i) zQ;repeat' first|refine bO ?_;intros|refine dD ?_ ?_<;>intros|with_reducible apply dG|((with_reducible refine dR (MI _ _) ?_ hs.has ?_ ?_);(· kernel_rfl);all_goals (intro _ w X aq;replace hs:=hs.trans aq))|((first|(with_reducible refine ai hs ?_)|(with_reducible refine ai (bF.trans hs) ?_));intro wa hk;(simp_all [KV.ext_iff,mS.ext_iff]))|((with_reducible refine ep ((xs).length-(i+1)) ?_ ?_);omega;exact⟨i+1,by simp,rfl,by omega,hs,by simp_all [KV.ext_iff,mS.ext_iff]⟩)
  ·have hdy:=List.drop_of_length_le (l:=ys) (i:=i) zQ;repeat' first|refine bO ?_;intros|((first|(with_reducible refine ai hs ?_)|(with_reducible refine ai (bF.trans hs) ?_));intro wa hk;simp_all)
abbrev Ak:Value→World→World→Prop:=fun v _ _=> ∃n:Int,v=I n
theorem iF (a b c:Int) (w:World) (X:XS):Ct pg 69 #[I a,I b,I c] w X nX Ak:=by
 intro w0 hk;apply NH;unfold Dy;have hs:=ak.init w0;repeat' first|refine aD ?_;intros|refine dD ?_ ?_<;>intros|((first|(with_reducible refine ai hs ?_)|(with_reducible refine ai (bF.trans hs) ?_));intro wa hk;exact⟨_,rfl⟩)|with_reducible apply mn
theorem qn {w:World} {X:XS} {a:Value} {xs:List BA} {most:Int} (ha:Sl w X 1 a (xs.map S1)):
  Ct pg 70 #[a,I most] w X nX Ak:=by
 intro w0 hk;replace ha:=ha.mv hk.cL;have iV:=ha.gz;apply DR;unfold vj;have hs:=ak.init w0;refine gb (fun n a b w X=> ∃(i:Nat) (s:Int),a=I i∧b=I s∧n=(xs).length-i∧i≤(xs).length∧ak (aS w0) w0 X w) (xs).length ⟨0,_,rfl,rfl,rfl,aN _,hs⟩ ?_;rintro n a b w X ⟨i,s,rfl,rfl,rfl,hi,hs⟩;repeat' first|refine aD ?_;intros|refine dD ?_ ?_<;>intros|((first|(with_reducible refine ai hs ?_)|(with_reducible refine ai (bF.trans hs) ?_));intro wa hk;exact⟨_,rfl⟩)|(refine jd (iF  _ _ _ _ _) kQ hs.has ?_;intro n1 w X aq;replace hs:=hs.trans aq)|((with_reducible refine eM ((xs).length-(i+1)) ?_ ?_);omega;exact⟨i+1,_,by simp,rfl,rfl,by omega,hs⟩)|with_reducible apply mn
theorem pI {w:World} {X:XS} {a:Value} {xs:List KV} {most:Int} (ha:Sl w X 4 a (xs.map KV.l)):
  Ct pg 72 #[a,I most] w X nX Ak:=by
 intro w0 hk;replace ha:=ha.mv hk.cL;have iV:=ha.gz;apply CO;unfold tX;have hs:=ak.init w0;refine gb (fun n a b w X=> ∃(i:Nat) (s:Int),a=I i∧b=I s∧n=(xs).length-i∧i≤(xs).length∧ak (aS w0) w0 X w) (xs).length ⟨0,_,rfl,rfl,rfl,aN _,hs⟩ ?_;rintro n a b w X ⟨i,s,rfl,rfl,rfl,hi,hs⟩;repeat' first|refine aD ?_;intros|refine dD ?_ ?_<;>intros|((first|(with_reducible refine ai hs ?_)|(with_reducible refine ai (bF.trans hs) ?_));intro wa hk;exact⟨_,rfl⟩)|(refine jd (iF  _ _ _ _ _) kQ hs.has ?_;intro n1 w X aq;replace hs:=hs.trans aq)|((with_reducible refine eM ((xs).length-(i+1)) ?_ ?_);omega;exact⟨i+1,_,by simp,rfl,rfl,by omega,hs⟩)|with_reducible apply mn
theorem BO {w:World} {X:XS} {a:Value} {xs:List dB} {most:Int} (ha:nK w X a xs):
  Ct pg 116 #[a,I most] w X nX Ak:=by
 intro w0 hk;replace ha:=ha.mv hk.cL;have iV:=ha.len;apply BD;unfold sv;have hs:=ak.init w0;refine gb (fun n a b w X=> ∃(i:Nat) (s:Int),a=I i∧b=I s∧n=(xs).length-i∧i≤(xs).length∧ak (aS w0) w0 X w) (xs).length ⟨0,_,rfl,rfl,rfl,aN _,hs⟩ ?_;rintro n a b w X ⟨i,s,rfl,rfl,rfl,hi,hs⟩;repeat' first|refine aD ?_;intros|refine dD ?_ ?_<;>intros|((with_reducible apply IE);assumption;(try (case hz=>rfl));(case hr=>exact qR);(try (case hz=>omega));(case ht=>kernel_rfl);(case hs=>kernel_rfl);intros)|((first|(with_reducible refine ai hs ?_)|(with_reducible refine ai (bF.trans hs) ?_));intro wa hk;exact⟨_,rfl⟩)|(refine jd (iF  _ _ _ _ _) kQ hs.has ?_;intro n1 w X aq;replace hs:=hs.trans aq)|(refine jd (qn  qA) kQ hs.has ?_;intro n1 w X aq;replace hs:=hs.trans aq)|(refine jd (pI  qA) kQ hs.has ?_;intro n1 w X aq;replace hs:=hs.trans aq)|((with_reducible refine eM ((xs).length-(i+1)) ?_ ?_);omega;exact⟨i+1,_,by simp,rfl,rfl,by omega,hs⟩)|with_reducible apply mn
theorem BE {w:World} {X:XS} {a:Value} {xs:List iP} {most:Int} (ha:nL w X a xs):
  Ct pg 115 #[a,I most] w X nX Ak:=by
 intro w0 hk;replace ha:=ha.mv hk.cL;have iV:=ha.len;apply An;unfold rR;have hs:=ak.init w0;refine A7 (fun n a _ b w X=> ∃(i:Nat) (s:Int),a=I i∧b=I s∧n=xs.length-i∧i≤xs.length∧ak (aS w0) w0 X w) xs.length ⟨0,_,rfl,rfl,rfl,aN _,hs⟩ ?_;rintro n a a2 b w X ⟨i,s,rfl,rfl,rfl,hi,hs⟩;repeat' first|refine aD ?_;intros|refine dD ?_ ?_<;>intros|((with_reducible apply MG);assumption;(try (case hz=>rfl));(case hr=>exact qR);(try (case hz=>omega));(case ht=>kernel_rfl);(case hs=>kernel_rfl);intros)|((first|(with_reducible refine ai hs ?_)|(with_reducible refine ai (bF.trans hs) ?_));intro wa hk;exact⟨_,rfl⟩)|(refine jd (iF  _ _ _ _ _) kQ hs.has ?_;intro n1 w X aq;replace hs:=hs.trans aq)|with_reducible apply mn
 have cK:i<xs.length:=by omega
 obtain⟨x,hx,hd⟩:=Is cK;refine gb (fun n a b w X=> ∃(k:Nat) (s:Int),a=I k∧b=I s∧n=x.jZ.length-k∧k≤x.jZ.length∧ak (aS w0) w0 X w) x.jZ.length ⟨0,_,rfl,rfl,rfl,aN _,hs⟩ ?_;rintro n a b w X ⟨k,s,rfl,rfl,rfl,hk,hs⟩;repeat' first|refine aD ?_;intros|refine dD ?_ ?_<;>intros|((with_reducible apply MG);assumption;(try (case hz=>rfl));(case hr=>exact qR);(try (case hz=>omega));(case ht=>kernel_rfl);(case hs=>kernel_rfl);intros)|(refine jd (iF  _ _ _ _ _) kQ hs.has ?_;intro n1 w X aq;replace hs:=hs.trans aq)|((with_reducible refine yU ((xs).length-(i+1)) ?_ ?_);omega;exact⟨i+1,_,by simp,rfl,rfl,by omega,hs⟩)|((with_reducible refine eM (x.jZ.length-(k+1)) ?_ ?_);omega;exact⟨k+1,_,by simp,rfl,rfl,by omega,hs⟩)|(have hl9:=Sl.gz ‹Sl w0 (aS w0) 6 _ (List.map kc.l x.jZ)›;(with_reducible apply acr);omega;omega)|with_reducible apply mn
theorem wo {w:World} {X:XS} {s:State} {vh vp:Value} {most:Int} (ha:nL w X vh s.gG) (hb:nK w X vp s.eA):
  Ct pg 74 #[s.v vh vp,I most] w X nX Ak:=by
 intro w0 hk;replace ha:=ha.mv hk.cL;replace hb:=hb.mv hk.cL;apply DS;unfold vl;have hs:=ak.init w0;repeat' first|((first|(with_reducible refine ai hs ?_)|(with_reducible refine ai (bF.trans hs) ?_));intro wa hk;exact⟨_,rfl⟩)|(refine jd (iF  _ _ _ _ _) kQ hs.has ?_;intro n1 w X aq;replace hs:=hs.trans aq)|(refine jd (BE  qA) kQ hs.has ?_;intro n1 w X aq;replace hs:=hs.trans aq)|(refine jd (BO  qA) kQ hs.has ?_;intro n1 w X aq;replace hs:=hs.trans aq)
theorem Hd {w:World} {X:XS} {r:Rec} {vr vw vp vq vh vd:Value} {most:Int} (ha:r.at w X vr vw vp vq vh vd):
  Ct pg 73 #[r.v vr vw vp vq vh vd,I most] w X nX Ak:=by
 intro w0 hk;obtain⟨h1,h2,h3,h4,h5,h6⟩:=ha.mv hk.cL;have iV:=h4.gz;apply Gn;unfold xQ;have hs:=ak.init w0;repeat' first|refine aD ?_;intros|(refine jd (iF  _ _ _ _ _) kQ hs.has ?_;intro n1 w X aq;replace hs:=hs.trans aq)|(refine jd (qn  qA) kQ hs.has ?_;intro n1 w X aq;replace hs:=hs.trans aq)|(refine jd (pI  qA) kQ hs.has ?_;intro n1 w X aq;replace hs:=hs.trans aq)|with_reducible apply mn
 refine gb (fun n a b w X=> ∃(i:Nat) (s:Int),a=I i∧b=I s∧n=(r.qm).length-i∧i≤(r.qm).length∧ak (aS w0) w0 X w) (r.qm).length ⟨0,_,rfl,rfl,rfl,aN _,hs⟩ ?_;rintro n a b w X ⟨i,s,rfl,rfl,rfl,hi,hs⟩;repeat' first|refine aD ?_;intros|refine dD ?_ ?_<;>intros|((first|(with_reducible refine ai hs ?_)|(with_reducible refine ai (bF.trans hs) ?_));intro wa hk;exact⟨_,rfl⟩)|(refine jd (iF  _ _ _ _ _) kQ hs.has ?_;intro n1 w X aq;replace hs:=hs.trans aq)|(refine jd (wo  (s:=r.state) qA qA) kQ hs.has ?_;intro n1 w X aq;replace hs:=hs.trans aq)|((with_reducible refine eM ((r.qm).length-(i+1)) ?_ ?_);omega;exact⟨i+1,_,by simp,rfl,rfl,by omega,hs⟩)|with_reducible apply mn
def qI (s:BA):Bool:=decide ((s.size:Int)≥1)&&decide ((s.size:Int)≤24)
theorem oW (s:BA):Pure pg 194 #[.string s] (B (qI s)):=by
 intro w0;apply Tl;unfold HC;have hs:=ak.init w0;repeat' first|refine aD ?_;intros|refine dD ?_ ?_<;>intros|(with_reducible refine fA hs ?_);simp_all [qI]<;>omega
theorem XK (r:kX) (x:Nat):Pure pg 163 #[r.v,.float .f64 x] (B ((Fx x r.lo||zN x r.lo)&&B4 x r.hi)):=by
 intro w0;apply UJ;unfold Kh;have hs:=ak.init w0;repeat' first|refine aD ?_;intros|refine dD ?_ ?_<;>intros|(with_reducible refine fA hs ?_);(simp_all<;>grind)
def canon (x:Nat):Nat:=if zN x x then x else 9221120237041090560
theorem UQ (x:Nat):Pure pg 276 #[.float .f64 x] (.float .f64 (canon x)):=by
 intro w0;apply Tt;unfold HL;have hs:=ak.init w0;repeat' first|refine aD ?_;intros|refine dD ?_ ?_<;>intros|(with_reducible refine fA hs ?_);simp_all [canon]|((with_reducible refine Bl (v:=.float .f64 9221120237041090560) ?_ hs.has ?_);(· intro wa;kernel_rfl);intro w X aq;replace hs:=hs.trans aq)
theorem E3 (x:Nat):Pure pg 228 #[.float .f64 x] (.int .u64 (canon x)):=by
 intro w0;apply UO;unfold Km;have hs:=ak.init w0;repeat' first|((with_reducible refine fX (UQ _) ?_ hs.has ?_);(· kernel_rfl);intro w X aq;replace hs:=hs.trans aq)|(with_reducible refine fA hs ?_);rfl|((with_reducible refine Bl (yi _) hs.has ?_);intro w X aq;replace hs:=hs.trans aq)
def land (a b:Int):Int:=IntKind.u64.wrap (bY IntKind.u64.bits a&&& bY IntKind.u64.bits b).toNat
def NY (a b:Int):Int:=IntKind.u64.wrap (bY IntKind.u64.bits a^^^bY IntKind.u64.bits b).toNat
def E4 (a n:Int):Int:=a.fdiv (2^min n.toNat IntKind.u64.bits)
def Tv (a b:Int):Int:=IntKind.u64.wrap (a*b)
theorem afr {P:Program} {X:XS} {w:World} {N:Value→Prop} {t:TypeId} {a b:Int} (h:N (.int .u64 (land a b))):ad P X w (binOp .and t (.int .u64 a) (.int .u64 b)) N:=VV h
theorem MJ {P:Program} {X:XS} {w:World} {N:Value→Prop} {t:TypeId} {a b:Int} (h:N (.int .u64 (NY a b))):ad P X w (binOp .xor t (.int .u64 a) (.int .u64 b)) N:=Nn h
theorem HU {P:Program} {X:XS} {w:World} {N:Value→Prop} {t:TypeId} {a b:Int} (hb: ¬b<0) (h:N (.int .u64 (E4 a b))):ad P X w (binOp .shr t (.int .u64 a) (.int .u64 b)) N:=Az hb h
theorem Tw {P:Program} {X:XS} {w:World} {N:Value→Prop} {t:TypeId} {a b:Int} (h:N (.int .u64 (Tv a b))):ad P X w (binOp .mul t (.int .u64 a) (.int .u64 b)) N:=adr h
def cls (x:Nat):Int:=
 let b:Int:=canon x
 let e:=land (E4 b 52) 2047
 let f:=land b 4503599627370495
 if e=2047∧f≠0 then 0 else
  let k:=if e=2047 then 8 else if e>0 then 7 else if f>0 then 6 else 5
  if land b 9223372036854775808≠0 then 9-k else k
theorem Kn (x:Nat):Pure pg 241 #[.float .f64 x] (I (cls x)):=by
 intro w0;apply Ts;unfold HJ;have hs:=ak.init w0;repeat' first|refine aD ?_;intros|refine dD ?_ ?_<;>intros|with_reducible apply dG|((with_reducible refine fX (E3 _) ?_ hs.has ?_);(· kernel_rfl);intro w X aq;replace hs:=hs.trans aq)|(with_reducible refine fA hs ?_);(simp only [cls] at*;grind)|with_reducible apply afr|(with_reducible apply HU);omega
def MK:Nat:=4607182418800017408
def DV (x:Nat):Bool:=decide (cls x≥5)&&(B4 x MK||zN x MK)
theorem FN (x:Nat):Pure pg 198 #[.float .f64 x] (B (DV x)):=by
 intro w0;apply NP;unfold DK;have hs:=ak.init w0;repeat' first|refine aD ?_;intros|refine dD ?_ ?_<;>intros|((with_reducible refine fX (Kn _) ?_ hs.has ?_);(· kernel_rfl);intro w X aq;replace hs:=hs.trans aq)|(with_reducible refine fA hs ?_);(simp_all [DV,MK]<;>grind)
def AA (x:Nat):Nat×Int:=if cls x=4 then(0,0)else if DV x then(x,0)else(0,1)
theorem Qe (x:Nat):Pure pg 246 #[.float .f64 x] (.tuple #[.float .f64 (AA x).1,I (AA x).2]):=by
 intro w0;apply NS;unfold DO;have hs:=ak.init w0;repeat' first|refine aD ?_;intros|refine dD ?_ ?_<;>intros|((with_reducible refine dR (FN _) ?_ hs.has ?_ ?_);(· kernel_rfl);all_goals (intro _ w X aq;replace hs:=hs.trans aq))|((with_reducible refine fX (Kn _) ?_ hs.has ?_);(· kernel_rfl);intro w X aq;replace hs:=hs.trans aq)|(with_reducible refine fA hs ?_);(simp_all [AA]<;>grind)
def kX.may (r:kX):Bool:=decide (r.id≥1)&&decide (r.id≤12)&&decide (r.jD≥0)&&DV r.lo&&DV r.hi&&B4 r.lo r.hi
theorem Ko (r:kX):Pure pg 160 #[r.v] (B r.may):=by
 intro w0;apply Tj;unfold Hz;have hs:=ak.init w0;repeat' first|refine aD ?_;intros|refine dD ?_ ?_<;>intros|with_reducible apply dG|((with_reducible refine dR (FN _) ?_ hs.has ?_ ?_);(· kernel_rfl);all_goals (intro _ w X aq;replace hs:=hs.trans aq))|(with_reducible refine fA hs ?_);(simp_all [kX.may]<;>omega)
def mS.may (v:mS):Bool:=
 if v.kind=0 then decide (v.num=0)&&decide (v.text=⟨#[]⟩)
 else if v.kind=1 then decide (v.text=⟨#[]⟩)&&decide (v.num=canon v.num)
 else if v.kind=2 then decide (v.num=0)&&decide ((v.text.size:Int)≤64)
 else false
theorem mV (v:mS):Pure pg 196 #[v.v] (B v.may):=by
 intro w0;apply Tm;unfold HD;have hs:=ak.init w0;repeat' first|refine aD ?_;intros|refine dD ?_ ?_<;>intros|with_reducible apply dG|((with_reducible refine fX (E3 _) ?_ hs.has ?_);(· kernel_rfl);intro w X aq;replace hs:=hs.trans aq)|(with_reducible refine fA hs ?_);(simp_all [mS.may]<;>omega)|((with_reducible refine Bl (yi _) hs.has ?_);intro w X aq;replace hs:=hs.trans aq)
def Cl (h:Int) (b:UInt8):Int:=Tv (NY h (IntKind.u64.wrap b.toNat)) 1099511628211
def afs (h:Int):Nat→Int
 |0=>h
 |1=>Tv (NY h (E4 h 33)) 18397679294719823053
 |_=>let g:=Tv (NY h (E4 h 33)) 18397679294719823053;Tv (NY g (E4 g 33)) 14181476777654086739
def HV (s:BA):Int:=let h:=afs (s.data.toList.foldl Cl 14695981039346656037) 2;NY h (E4 h 33)
theorem Tx (s:BA) (ahW:s.size≤2^62):Pure pg 205 #[.string s] (.int .u64 (HV s)):=by
 intro w0;have fB:=Pt s;apply Qa;unfold FI;have hs:=ak.init w0;repeat' first|refine aD ?_;intros
 refine gb (fun n a b w X=> ∃(i:Nat) (h:Int),a=I i∧b= .int .u64 h∧n=s.data.toList.length-i∧i≤s.data.toList.length∧ak (aS w0) w0 X w∧
  s.data.toList.foldl Cl 14695981039346656037=(s.data.toList.drop i).foldl Cl h) s.data.toList.length ?_ ?_
 ·exact⟨0,14695981039346656037,rfl,rfl,rfl,aN _,hs,by rw [oN]⟩
 rintro n a b w X ⟨i,h,rfl,rfl,rfl,hi,hs,hw⟩;rcases eb s.data.toList i with⟨cK,x,hx,hd⟩|⟨dU,hd⟩
 ·repeat' first|refine bO ?_;intros|with_reducible (first|apply MJ|apply Tw)|((with_reducible refine eM ((s.data.toList).length-(i+1)) ?_ ?_);omega;exact⟨i+1,_,by simp,rfl,rfl,by omega,hs,by rw [hw,hd,gV];rfl⟩)
 ·repeat' first|refine bO ?_;intros
  rw [hd] at hw;refine gb (fun n a b w X=> ∃(i:Nat),a=I i∧b= .int .u64 (afs h i)∧n=2-i∧i≤2∧ak (aS w0) w0 X w) 2 ⟨0,rfl,rfl,rfl,aN _,hs⟩ ?_;rintro n a b w X ⟨i,rfl,rfl,rfl,hi,hs⟩;obtain rfl|rfl|rfl:i=0∨i=1∨i=2:=by omega
  ·repeat' first|refine bO ?_;intros|(with_reducible apply MJ)|(with_reducible apply Tw)|(with_reducible apply HU);omega|(with_reducible refine eM 1 ?_ ?_);omega;exact⟨1,rfl,rfl,rfl,by omega,hs⟩
  ·repeat' first|refine bO ?_;intros|(with_reducible apply MJ)|(with_reducible apply Tw)|(with_reducible apply HU);omega|(with_reducible refine eM 0 ?_ ?_);omega;exact⟨2,rfl,rfl,rfl,by omega,hs⟩
  ·repeat' first|refine bO ?_;intros|(with_reducible refine fA hs ?_);(simp only [HV,hw];rfl)|(with_reducible apply MJ)|(with_reducible apply HU);omega
theorem XL (n:Int): ∃r,floatBits .quo .f64 (floatOfInt .f64 n) 4845873199050653696=some r:=by
 have hn:(Ieee.double.read (floatOfInt .f64 n)).isNaN=false:=SG _ _ _ _;have hd:Ieee.double.read 4845873199050653696= .number false 4503599627370496 1:=by kernel_rfl
 show∃r,((Ieee.double.read (floatOfInt .f64 n)).quotient _ (Ieee.double.read 4845873199050653696)).map _=some r
 rw [hd];cases hr:Ieee.double.read (floatOfInt .f64 n)with
 |number s m p=>simp [tq]
 |infinity s=>simp [tq]
 |nan s f=>rw [hr] at hn;simp [Ieee.Datum.isNaN] at hn
def placeOf (s:BA):Nat:=(floatBits .quo .f64 (floatOfInt .f64 (E4 (HV s) 11)) 4845873199050653696).getD 0
theorem XM (s:BA):floatBits .quo .f64 (floatOfInt .f64 (E4 (HV s) 11)) 4845873199050653696=some (placeOf s):=by
 obtain⟨r,hr⟩:=XL (E4 (HV s) 11);rw [placeOf,hr];rfl
theorem E5 (s:BA) (ahW:s.size≤2^62):Pure pg 164 #[.string s] (.float .f64 (placeOf s)):=by
 intro w0;apply UK;unfold Ki;have hs:=ak.init w0;repeat' first|refine aD ?_;intros|((with_reducible refine fX (Tx _ (by first|assumption|omega)) ?_ hs.has ?_);(· kernel_rfl);intro w X aq;replace hs:=hs.trans aq)|(with_reducible refine fA hs ?_);rfl|(with_reducible apply HU);omega|(with_reducible apply agu);(· exact XM s)
def rising (l:List BA):Bool:=chain qI ou none l
def ql (l:List BA):Bool:=rising l&&decide ((l.length:Int)≤16)
theorem UR {w:World} {X:XS} {a:Value} {xs:List BA} (ha:Sl w X 1 a (xs.map S1)):
  Ct pg 206 #[a] w X nX fun v _ _=>v=B (ql xs):=by
 intro w0 hk;replace ha:=ha.mv hk.cL;have iV:=ha.gz;apply To;unfold HF;have hs:=ak.init w0;repeat' first|refine aD ?_;intros
 refine eG (fun n a w X=> ∃i:Nat,a=I (i:Nat)∧n=(xs).length-i∧i≤(xs).length∧ak (aS w0) w0 X w∧chain qI ou none xs=chain qI ou (oG xs i) (xs.drop i)) (xs).length ⟨0,rfl,rfl,aN _,hs,by simp [oG]⟩ ?_;rintro n a w X ⟨i,rfl,rfl,hi,hs,hw⟩;rcases eb (xs) i with⟨cK,x,hx,hd⟩|⟨dU,hd⟩
 ·rcases Ix cK with⟨h0,hp⟩|⟨h0,y,hy,hp⟩<;>rw [hp,hd,chain] at hw<;>clear hd
  ·repeat' first|refine bO ?_;intros|((with_reducible refine dR (oW _) ?_ hs.has ?_ ?_);(· kernel_rfl);all_goals (intro _ w X aq;replace hs:=hs.trans aq))|((first|(with_reducible refine ai hs ?_)|(with_reducible refine ai (bF.trans hs) ?_));intro wa hk;simp_all [ql,rising,chain])|((with_reducible refine ep ((xs).length-(i+1)) ?_ ?_);omega;exact⟨i+1,by simp,rfl,by omega,hs,by rw [hw,mU hx];simp [*]⟩)
  ·repeat' first|refine bO ?_;intros|refine dD ?_ ?_<;>intros|((with_reducible refine dR (oW _) ?_ hs.has ?_ ?_);(· kernel_rfl);all_goals (intro _ w X aq;replace hs:=hs.trans aq))|((first|(with_reducible refine ai hs ?_)|(with_reducible refine ai (bF.trans hs) ?_));intro wa hk;simp_all [ql,rising,chain])|((with_reducible refine ep ((xs).length-(i+1)) ?_ ?_);omega;exact⟨i+1,by simp,rfl,by omega,hs,by rw [hw,mU hx];simp [*]⟩)
 ·repeat' first|refine bO ?_;intros|refine dD ?_ ?_<;>intros|((first|(with_reducible refine ai hs ?_)|(with_reducible refine ai (bF.trans hs) ?_));intro wa hk;simp_all [ql,rising,chain]<;>omega)
def HW (l:List KV):Bool:=ql (l.map (·.key))&&l.all (·.val.may)
theorem Lk {w:World} {X:XS} {a:Value} {xs:List KV} (ha:Sl w X 4 a (xs.map KV.l)) (hb:xs.length≤2^40):
  Ct pg 207 #[a] w X nX fun v wa w'=>Own w' (made wa w') wa.heap.size 9 1 v ((xs.map (·.key)).map S1):=by
 intro w0 hk;replace ha:=ha.mv hk.cL;have iV:=ha.gz;apply Jq;unfold zY;have hs:=ak.init w0;repeat' first|refine aD ?_;intros
 refine gb (fun n a b w X=> ∃i:Nat,a=I i∧n=xs.length-i∧i≤xs.length∧ak (aS w0) w0 X w∧Own w X w0.heap.size 9 1 b (((xs.take i).map (·.key)).map S1)) xs.length ⟨0,rfl,rfl,aN _,hs,Own.nil _ _ _ _ _⟩ ?_;rintro n a b w X ⟨i,rfl,rfl,hi,hs,ho⟩;rcases eb (xs) i with⟨cK,x,hx,hd⟩|⟨dU,hd⟩
 ·repeat' first|refine bO ?_;intros|((with_reducible apply No);(case own=>first|assumption|exact Own.since (by assumption) (by assumption));(case hs=>assumption);(case h0=>first|exact fun _ h=>h|exact bF.has);(case he=>kernel_rfl);(case hk=>rfl);(case ho=>first|rfl|assumption);(case hb=>(simp only [ay,aW,ae,bP,dj];omega));(case hl=>(simp only [ay,aW,ae,bP,dj];omega));intro acc w X aq ho hc fm;replace hs:=aq)|((with_reducible refine eM ((xs).length-(i+1)) ?_ ?_);omega;exact⟨i+1,by simp,rfl,by omega,hs,by rw [bc,hx];simpa using ho⟩)
 ·repeat' first|refine bO ?_;intros|((first|(with_reducible refine ai hs ?_)|(with_reducible refine ai (bF.trans hs) ?_));intro wa hk;(rw [aY dU] at ho;exact(ho.kp hk).tight))
def dB.err (p:dB):Int:=
 if !p.bU.may then 4 else if !p.aw.may||decide (p.aw= .zero)then 17
 else if !ql p.reads||!ql (p.writes.map (·.key))then 4
 else if p.writes.all (·.val.may)then 0 else 4
theorem pw {w:World} {X:XS} {p:dB} {vr vw:Value} (h1:Sl w X 1 vr (p.reads.map S1)) (h2:Sl w X 4 vw (p.writes.map KV.l)) (hb:p.writes.length≤2^40):
  Ct pg 165 #[p.v vr vw] w X nX fun v _ _=>v=I p.err:=by
 intro w0 hk;replace h1:=h1.mv hk.cL;replace h2:=h2.mv hk.cL;have iV:=h2.gz;apply HQ;unfold y8;have hs:=ak.init w0;repeat' first|refine aD ?_;intros|(with_reducible refine zd _ ?_ ?_ ?_);(· kernel_rfl);all_goals intros|with_reducible apply dG|((with_reducible refine dR (jc _) ?_ hs.has ?_ ?_);(· kernel_rfl);all_goals (intro _ w X aq;replace hs:=hs.trans aq))|((with_reducible refine dR (zk _) ?_ hs.has ?_ ?_);(· kernel_rfl);all_goals (intro _ w X aq;replace hs:=hs.trans aq))|((first|(with_reducible refine ai hs ?_)|(with_reducible refine ai (bF.trans hs) ?_));intro wa hk;simp_all [dB.err])|(refine eR (UR  qA) kQ hs.has ?_ ?_<;>(intro _ w X aq;replace hs:=hs.trans aq))|(refine ek (Lk  qA qA) kQ hs.has ?_;rintro v1 wa w X ll hle eD aq;have eo:=af hs.kp.size hle;replace hs:=hs.trans aq;replace ll:=ll.up eD eo)
 refine eG (fun n a w X=> ∃i:Nat,a=I (i:Nat)∧n=(p.writes).length-i∧i≤(p.writes).length∧ak (aS w0) w0 X w∧p.writes.all (·.val.may)=(p.writes.drop i).all (·.val.may)) (p.writes).length ⟨0,rfl,rfl,aN _,hs,by simp⟩ ?_;rintro n a w X ⟨i,rfl,rfl,hi,hs,hw⟩;rcases eb (p.writes) i with⟨cK,x,hx,hd⟩|⟨dU,hd⟩
 ·repeat' first|refine bO ?_;intros|((with_reducible refine dR (mV _) ?_ hs.has ?_ ?_);(· kernel_rfl);all_goals (intro _ w X aq;replace hs:=hs.trans aq))|((first|(with_reducible refine ai hs ?_)|(with_reducible refine ai (bF.trans hs) ?_));intro wa hk;simp_all [dB.err])|((with_reducible refine ep ((p.writes).length-(i+1)) ?_ ?_);omega;exact⟨i+1,by simp,rfl,by omega,hs,by rw [hw,hd];simp [*]⟩)
 ·repeat' first|refine bO ?_;intros|((first|(with_reducible refine ai hs ?_)|(with_reducible refine ai (bF.trans hs) ?_));intro wa hk;simp_all [dB.err])
def yj (l:List Int):Bool:=chain (fun n=>decide (n≥1)&&decide (n≤12)) (fun a b=>decide (a<b)) none l&&decide (l≠[])
theorem HX {w:World} {X:XS} {a:Value} {xs:List Int} (ha:Sl w X 1 a (xs.map I1)):
  Ct pg 157 #[a] w X nX fun v _ _=>v=B (yj xs):=by
 intro w0 hk;replace ha:=ha.mv hk.cL;have iV:=ha.gz;apply P6;unfold FD;have hs:=ak.init w0;repeat' first|refine aD ?_;intros
 refine eG (fun n a w X=> ∃i:Nat,a=I (i:Nat)∧n=(xs).length-i∧i≤(xs).length∧ak (aS w0) w0 X w∧chain (fun n=>decide (n≥1)&&decide (n≤12)) (fun a b=>decide (a<b)) none xs=chain (fun n=>decide (n≥1)&&decide (n≤12)) (fun a b=>decide (a<b)) (oG xs i) (xs.drop i)) (xs).length ⟨0,rfl,rfl,aN _,hs,by simp [oG]⟩ ?_;rintro n a w X ⟨i,rfl,rfl,hi,hs,hw⟩;rcases eb (xs) i with⟨cK,x,hx,hd⟩|⟨dU,hd⟩
 ·rcases Ix cK with⟨h0,hp⟩|⟨h0,y,hy,hp⟩<;>rw [hp,hd,chain] at hw<;>clear hd
  ·repeat' first|refine bO ?_;intros|refine dD ?_ ?_<;>intros|((first|(with_reducible refine ai hs ?_)|(with_reducible refine ai (bF.trans hs) ?_));intro wa hk;(simp_all [yj,chain]<;>omega))|((with_reducible refine ep ((xs).length-(i+1)) ?_ ?_);omega;exact⟨i+1,by simp,rfl,by omega,hs,by rw [hw,mU hx];simp_all<;>omega⟩)
  ·repeat' first|refine bO ?_;intros|refine dD ?_ ?_<;>intros|((first|(with_reducible refine ai hs ?_)|(with_reducible refine ai (bF.trans hs) ?_));intro wa hk;(simp_all [yj,chain]<;>omega))|((with_reducible refine ep ((xs).length-(i+1)) ?_ ?_);omega;exact⟨i+1,by simp,rfl,by omega,hs,by rw [hw,mU hx];simp_all<;>omega⟩)
 ·repeat' first|refine bO ?_;intros|refine dD ?_ ?_<;>intros|((first|(with_reducible refine ai hs ?_)|(with_reducible refine ai (bF.trans hs) ?_));intro wa hk;(simp_all [yj,chain]<;>grind))
def IF (l:List KV):Bool:=chain (fun x=>qI x.key&&x.val.may&&decide (x.val.kind≠0)) (fun a b=>ou a.key b.key) none l
theorem Ty {w:World} {X:XS} {a:Value} {xs:List KV} (ha:Sl w X 4 a (xs.map KV.l)):
  Ct pg 249 #[a] w X nX fun v _ _=>v=B (IF xs):=by
 intro w0 hk;replace ha:=ha.mv hk.cL;have iV:=ha.gz;apply Qc;unfold FK;have hs:=ak.init w0;repeat' first|refine aD ?_;intros
 refine eG (fun n a w X=> ∃i:Nat,a=I (i:Nat)∧n=(xs).length-i∧i≤(xs).length∧ak (aS w0) w0 X w∧IF xs=chain (fun x=>qI x.key&&x.val.may&&decide (x.val.kind≠0)) (fun a b=>ou a.key b.key) (oG xs i) (xs.drop i)) (xs).length ⟨0,rfl,rfl,aN _,hs,by simp [oG,IF]⟩ ?_;rintro n a w X ⟨i,rfl,rfl,hi,hs,hw⟩;rcases eb (xs) i with⟨cK,x,hx,hd⟩|⟨dU,hd⟩
 ·rcases Ix cK with⟨h0,hp⟩|⟨h0,y,hy,hp⟩<;>rw [hp,hd,chain] at hw<;>clear hd
  ·repeat' first|refine bO ?_;intros|refine dD ?_ ?_<;>intros|with_reducible apply dG|((with_reducible refine dR (oW _) ?_ hs.has ?_ ?_);(· kernel_rfl);all_goals (intro _ w X aq;replace hs:=hs.trans aq))|((with_reducible refine dR (mV _) ?_ hs.has ?_ ?_);(· kernel_rfl);all_goals (intro _ w X aq;replace hs:=hs.trans aq))|((first|(with_reducible refine ai hs ?_)|(with_reducible refine ai (bF.trans hs) ?_));intro wa hk;(simp_all [chain]<;>omega))|((with_reducible refine ep ((xs).length-(i+1)) ?_ ?_);omega;exact⟨i+1,by simp,rfl,by omega,hs,by rw [hw,mU hx];simp_all<;>omega⟩)
  ·repeat' first|refine bO ?_;intros|refine dD ?_ ?_<;>intros|with_reducible apply dG|((with_reducible refine dR (oW _) ?_ hs.has ?_ ?_);(· kernel_rfl);all_goals (intro _ w X aq;replace hs:=hs.trans aq))|((with_reducible refine dR (mV _) ?_ hs.has ?_ ?_);(· kernel_rfl);all_goals (intro _ w X aq;replace hs:=hs.trans aq))|((first|(with_reducible refine ai hs ?_)|(with_reducible refine ai (bF.trans hs) ?_));intro wa hk;(simp_all [chain]<;>omega))|((with_reducible refine ep ((xs).length-(i+1)) ?_ ?_);omega;exact⟨i+1,by simp,rfl,by omega,hs,by rw [hw,mU hx];simp_all<;>omega⟩)
 ·repeat' first|refine bO ?_;intros|((first|(with_reducible refine ai hs ?_)|(with_reducible refine ai (bF.trans hs) ?_));intro wa hk;(simp_all [chain]<;>grind))
abbrev kX.zero:kX:=⟨0,0,0,0⟩
abbrev State.zero:State:=⟨.zero,.zero,.zero,[],[]⟩
def State.isZero (s:State):Bool:=decide (s.range= .zero)&&decide (s.floor= .zero)&&decide (s.closed= .zero)&&decide (s.gG=[])&&decide (s.eA=[])
theorem Ll {w:World} {X:XS} {s:State} {vh vp:Value} (h1:nL w X vh s.gG) (h2:nK w X vp s.eA):
  Ct pg 244 #[s.v vh vp] w X nX fun v _ _=>v=B s.isZero:=by
 intro w0 hk;replace h1:=h1.mv hk.cL;replace h2:=h2.mv hk.cL;apply Js;unfold z7;have hs:=ak.init w0;repeat' first|refine aD ?_;intros|refine dD ?_ ?_<;>intros|(with_reducible refine zd _ ?_ ?_ ?_);(· kernel_rfl);all_goals intros|with_reducible apply dG|((first|(with_reducible refine ai hs ?_)|(with_reducible refine ai (bF.trans hs) ?_));intro wa hk;(simp_all [State.isZero,kX.ext_iff]))|((with_reducible refine Bl (yi _) hs.has ?_);intro w X aq;replace hs:=hs.trans aq)
def Rec.isZero (r:Rec):Bool:=decide (r.bU= .zero)&&decide (r.aw= .zero)&&decide (r.prev= .zero)&&!r.iy&&decide (r.n=0)&&decide (r.jP=0)&&
 decide (r.reads=[])&&decide (r.writes=[])&&decide (r.parts=[])&&decide (r.qm=[])&&r.state.isZero
theorem US {w:World} {X:XS} {r:Rec} {vr vw vp vq vh vd:Value} (h:r.at w X vr vw vp vq vh vd):
  Ct pg 209 #[r.v vr vw vp vq vh vd] w X nX fun v _ _=>v=B r.isZero:=by
 intro w0 hk;obtain⟨h1,h2,h3,h4,h5,h6⟩:=h.mv hk.cL;apply Tp;unfold HG;have hs:=ak.init w0;cases hc:r.iy<;>
 repeat' first|refine aD ?_;intros|refine dD ?_ ?_<;>intros|(with_reducible refine zd _ ?_ ?_ ?_);(· kernel_rfl);all_goals intros|(with_reducible refine Z8 _ ?_ ?_ ?_);(· kernel_rfl);all_goals intros|with_reducible apply dG|((first|(with_reducible refine ai hs ?_)|(with_reducible refine ai (bF.trans hs) ?_));intro wa hk;(simp_all [Rec.isZero]))|((with_reducible refine Bl (yi _) hs.has ?_);intro w X aq;replace hs:=hs.trans aq)|(refine eR (Ll  (s:=r.state) qA qA) kQ hs.has ?_ ?_<;>(intro _ w X aq;replace hs:=hs.trans aq))
def Rec.strip (r:Rec):Rec×Bool:=
 if r.kind=1 then({ r with state:=.zero },true)
 else if r.kind=2∨r.kind=7∨r.kind=8 then({ r with n:=0 },true)
 else if r.kind=3 then({ r with bU:=.zero,aw:=.zero,reads:=[],writes:=[],parts:=[] },true)
 else if r.kind=4 then({ r with bU:=.zero,iy:=false,aw:=.zero },true)
 else if r.kind=5 then({ r with aw:=.zero },true)
 else if r.kind=6 then({ r with jP:=0,n:=0,aw:=.zero },true)
 else if r.kind=9 then({ r with bU:=.zero,aw:=.zero,parts:=[] },true)
 else if r.kind=10 then({ r with bU:=.zero },true)
 else if r.kind=11 then({ r with prev:=.zero,aw:=.zero,bU:=.zero,writes:=[] },true)
 else if r.kind=12 then({ r with aw:=.zero,qm:=[] },true)
 else(r,false)
theorem NZ {w:World} {X:XS} {r:Rec} {vr vw vp vq vh vd:Value} (h:r.at w X vr vw vp vq vh vd):
  Ct pg 208 #[r.v vr vw vp vq vh vd] w X nX fun v _ _=> ∃Tz oE TA vq' TB TC,v= .tuple #[r.strip.1.v Tz oE TA vq' TB TC,B r.strip.2]∧
   r.strip.1.at w X Tz oE TA vq' TB TC:=by
 intro w0 hk;obtain⟨h1,h2,h3,h4,h5,h6⟩:=h;have o1:=h1.one;have o2:=h2.one;have o3:=h3.one;have o4:=h4.one;have o5:=h5.one;have o6:=h6.one;apply MD;unfold Ci;have hs:=ak.init w0;have n1:Sl w X 1 (.slice none 0 0) (([]:List BA).map S1):=Sl.nil _ _ _;have n2:Sl w X 4 (.slice none 0 0) (([]:List KV).map KV.l):=Sl.nil _ _ _;have n3:Sl w X 1 (.slice none 0 0) (([]:List Int).map I1):=Sl.nil _ _ _;have n4:nL w X (.slice none 0 0) []:=gO.nil _ _ _;have n5:nK w X (.slice none 0 0) []:=gO.nil _ _ _;repeat' first|refine aD ?_;intros|refine dD ?_ ?_<;>intros|with_reducible apply dG
 all_goals
  refine ai hs ?_;intro wa bC;unfold Rec.strip;repeat (first|rw [if_pos zQ]|rw [if_neg zQ])
  exact⟨_,_,_,_,_,_,rfl,by assumption,by assumption,by assumption,by assumption,by assumption,by assumption⟩
theorem FO {w:World} {X:XS} {a:Value} {xs:List BA} (ha:Sl w X 1 a (xs.map S1)) (hb:xs.length≤2^40):
  Ct pg 167 #[a] w X nX fun v wa w'=>Own w' (made wa w') wa.heap.size 9 1 v (xs.map S1):=by
  intro w0 hk;replace ha:=ha.mv hk.cL;apply uJ;unfold nF;have hs:=ak.init w0;repeat' first|refine aD ?_;intros|refine dD ?_ ?_<;>intros|(with_reducible apply QC);(case hX=>exact hs.has);(case hu=>kernel_rfl);(case hz=>kernel_rfl);intro acc w X aq ho;replace hs:=hs.trans aq|((first|(with_reducible refine ai hs ?_)|(with_reducible refine ai (bF.trans hs) ?_));intro wa hk;(first|(rename_i h1 h2;(first|(rw [h2])|skip);exact Own.nil _ _ _ _ _)|exact(ho.kp hk).tight))|((with_reducible apply Mn);(case own=>assumption);(case hs=>assumption);(case h0=>exact fun _ h=>h);(case he=>kernel_rfl);(case src=>exact Sl.mv ha (ak.mv hs));(case h1=>simp [bu.one]);(case hb=>simp;omega);(case hl=>simp;omega);intro acc w X aq ho hc fm;replace hs:=aq;rw [fg] at ho)
theorem pH {w:World} {X:XS} {a:Value} {xs:List KV} (ha:Sl w X 4 a (xs.map KV.l)) (hb:xs.length≤2^40):
  Ct pg 45 #[a] w X nX fun v wa w'=>Own w' (made wa w') wa.heap.size 118 4 v (xs.map KV.l):=by
  intro w0 hk;replace ha:=ha.mv hk.cL;apply ra;unfold lu;have hs:=ak.init w0;repeat' first|refine aD ?_;intros|refine dD ?_ ?_<;>intros|(with_reducible apply QC);(case hX=>exact hs.has);(case hu=>kernel_rfl);(case hz=>kernel_rfl);intro acc w X aq ho;replace hs:=hs.trans aq|((first|(with_reducible refine ai hs ?_)|(with_reducible refine ai (bF.trans hs) ?_));intro wa hk;(first|(rename_i h1 h2;(first|(rw [h2])|skip);exact Own.nil _ _ _ _ _)|exact(ho.kp hk).tight))|((with_reducible apply Mn);(case own=>assumption);(case hs=>assumption);(case h0=>exact fun _ h=>h);(case he=>kernel_rfl);(case src=>exact Sl.mv ha (ak.mv hs));(case h1=>simp [bu.one]);(case hb=>simp;omega);(case hl=>simp;omega);intro acc w X aq ho hc fm;replace hs:=aq;rw [fg] at ho)
theorem Lm {w:World} {X:XS} {a:Value} {xs:List kc} (ha:Sl w X 6 a (xs.map kc.l)) (hb:xs.length≤2^40):
  Ct pg 201 #[a] w X nX fun v wa w'=>Own w' (made wa w') wa.heap.size 227 6 v (xs.map kc.l):=by
  intro w0 hk;replace ha:=ha.mv hk.cL;apply pL;unfold kf;have hs:=ak.init w0;repeat' first|refine aD ?_;intros|refine dD ?_ ?_<;>intros|(with_reducible apply QC);(case hX=>exact hs.has);(case hu=>kernel_rfl);(case hz=>kernel_rfl);intro acc w X aq ho;replace hs:=hs.trans aq|((first|(with_reducible refine ai hs ?_)|(with_reducible refine ai (bF.trans hs) ?_));intro wa hk;(first|(rename_i h1 h2;(first|(rw [h2])|skip);exact Own.nil _ _ _ _ _)|exact(ho.kp hk).tight))|((with_reducible apply Mn);(case own=>assumption);(case hs=>assumption);(case h0=>exact fun _ h=>h);(case he=>kernel_rfl);(case src=>exact Sl.mv ha (ak.mv hs));(case h1=>simp [bu.one]);(case hb=>simp;omega);(case hl=>simp;omega);intro acc w X aq ho hc fm;replace hs:=aq;rw [fg] at ho)
theorem Qf {w:World} {X:XS} {a:Value} {xs:List BA} {k:BA} (ha:Sl w X 1 a (xs.map S1)):
  Ct pg 137 #[a,.string k] w X nX fun v _ _=>v=I (idxOf (fun x=>decide (k=x)) xs):=by
 intro w0 hk;replace ha:=ha.mv hk.cL;have iV:=ha.gz;apply uI;unfold nE;have hs:=ak.init w0;repeat' first|refine aD ?_;intros
 refine eG (fun n a w X=> ∃i:Nat,a=I (i:Nat)∧n=(xs).length-i∧i≤(xs).length∧ak (aS w0) w0 X w∧(∀(j:Nat) x,j<i→xs[j]? =some x→decide (k=x)=false)) (xs).length ⟨0,rfl,rfl,aN _,hs,by simp⟩ ?_;rintro n a w X ⟨i,rfl,rfl,hi,hs,hw⟩;rcases eb (xs) i with⟨cK,x,hx,hd⟩|⟨dU,hd⟩
 ·repeat' first|refine bO ?_;intros|refine dD ?_ ?_<;>intros|((first|(with_reducible refine ai hs ?_)|(with_reducible refine ai (bF.trans hs) ?_));intro wa hk;(rw [uy hw hx (by simpa)]))|((with_reducible refine ep ((xs).length-(i+1)) ?_ ?_);omega;exact⟨i+1,by simp,rfl,by omega,hs,fun j y hj hy=>by rcases Nat.lt_succ_iff_lt_or_eq.1 hj with h|h;exact hw j y h hy;subst h;rw [hx] at hy;cases hy;simpa⟩)
 ·repeat' first|refine bO ?_;intros|((first|(with_reducible refine ai hs ?_)|(with_reducible refine ai (bF.trans hs) ?_));intro wa hk;(rw [qg fun j x hj hx=>hw j x zQ hx]))
theorem Bc {w:World} {X:XS} {a:Value} {xs:List BA} {k:BA} (ha:Sl w X 1 a (xs.map S1)):
  Ct pg 99 #[a,.string k] w X nX fun v _ _=>v=B (xs.any fun x=>decide (k=x)):=by
 intro w0 hk;replace ha:=ha.mv hk.cL;apply s6;unfold mr;have hs:=ak.init w0;repeat' first|refine aD ?_;intros|refine dD ?_ ?_<;>intros|((first|(with_reducible refine ai hs ?_)|(with_reducible refine ai (bF.trans hs) ?_));intro wa hk;(rw [←pU];simp [*]))|(refine dC (Qf  qA) kQ hs.has ?_;intro w X aq;replace hs:=hs.trans aq)
theorem HY {w:World} {X:XS} {a:Value} {xs:List KV} {f:FuncId} {cs:List Value} {p:KV→Bool} (ha:Sl w X 4 a (xs.map KV.l)) (hX: ∀k,X k→k<w.heap.size) (hf:enters pg f=true)
  (hp: ∀x,Ct pg f ((.agg x.l.toArray)::cs).toArray w X nX fun v _ _=>v=B (p x)):
  Ct pg 293 #[a,.func (.func f) #[] cs.toArray] w X nX fun v _ _=>v=I (idxOf p xs):=by
 intro w0 hk;replace ha:=ha.mv hk.cL;replace hp:=fun x=>((hp x).kp hk).aS fun k hx=>aI (hX k hx) hk.size;have iV:=ha.gz;apply pM;unfold kg;have hs:=ak.init w0;repeat' first|refine aD ?_;intros
 refine eG (fun n a w X=> ∃i:Nat,a=I (i:Nat)∧n=(xs).length-i∧i≤(xs).length∧ak (aS w0) w0 X w∧(∀(j:Nat) x,j<i→xs[j]? =some x→p x=false)) (xs).length ⟨0,rfl,rfl,aN _,hs,by simp⟩ ?_;rintro n a w X ⟨i,rfl,rfl,hi,hs,hw⟩;rcases eb (xs) i with⟨cK,x,hx,hd⟩|⟨dU,hd⟩
 ·repeat' first|refine bO ?_;intros|((first|(with_reducible refine ai hs ?_)|(with_reducible refine ai (bF.trans hs) ?_));intro wa hk;(rw [uy hw hx ‹_›]))|((with_reducible refine ep ((xs).length-(i+1)) ?_ ?_);omega;exact⟨i+1,by simp,rfl,by omega,hs,fun j y hj hy=>by rcases Nat.lt_succ_iff_lt_or_eq.1 hj with h|h;exact hw j y h hy;subst h;rw [hx] at hy;cases hy;assumption⟩)|(refine eR ((hp x).since hs) hf hs.has ?_ ?_<;>(intro _ w X aq;replace hs:=hs.trans aq))
 ·repeat' first|refine bO ?_;intros|((first|(with_reducible refine ai hs ?_)|(with_reducible refine ai (bF.trans hs) ?_));intro wa hk;(rw [qg fun j x hj hx=>hw j x zQ hx]))
theorem pN {w:World} {X:XS} {a:Value} {xs:List KV} {f:FuncId} {cs:List Value} {p:KV→Bool} (ha:Sl w X 4 a (xs.map KV.l)) (hX: ∀k,X k→k<w.heap.size) (hf:enters pg f=true)
  (hp: ∀x,Ct pg f ((.agg x.l.toArray)::cs).toArray w X nX fun v _ _=>v=B (p x)):
  Ct pg 252 #[a,.func (.func f) #[] cs.toArray] w X nX fun v _ _=>v=B (xs.any p):=by
 intro w0 hk;replace ha:=ha.mv hk.cL;replace hp:=fun x=>((hp x).kp hk).aS fun k hx=>aI (hX k hx) hk.size;apply oM;unfold jF;have hs:=ak.init w0;repeat' first|refine aD ?_;intros|refine dD ?_ ?_<;>intros|((first|(with_reducible refine ai hs ?_)|(with_reducible refine ai (bF.trans hs) ?_));intro wa hk;(rw [←pU];simp [*]))|(refine dC (HY ha hs.has hf hp) kQ hs.has ?_;intro w X aq;replace hs:=hs.trans aq)
def tle (a b:BA):Bool:=ou a b||decide (a=b)
def yk:aK→List kc→Bool
 |_,[]=>true
 |s,v::r=>v.aw.may&&decide (v.aw.cmp s>0)&&v.val.may&&yk v.aw r
def iP.ok (h:iP) (ahead:BA):Bool:=qI h.key&&!tle h.key ahead&&decide (h.jZ≠[])&&yk .zero h.jZ
theorem N3 {w:World} {X:XS} {h:iP} {vv:Value} {ahead:BA} (ha:Sl w X 6 vv (h.jZ.map kc.l)):
  Ct pg 200 #[.agg (h.l vv).toArray,.string ahead] w X nX fun v _ _=>v=B (h.ok ahead):=by
 intro w0 hk;replace ha:=ha.mv hk.cL;have iV:=ha.gz;apply MC;unfold Ch;have hs:=ak.init w0;repeat' first|refine aD ?_;intros|refine dD ?_ ?_<;>intros|((with_reducible refine dR (oW _) ?_ hs.has ?_ ?_);(· kernel_rfl);all_goals (intro _ w X aq;replace hs:=hs.trans aq))|((first|(with_reducible refine ai hs ?_)|(with_reducible refine ai (bF.trans hs) ?_));intro wa hk;(simp_all [iP.ok,tle]<;>grind))
 refine gb (fun n a b w X=> ∃(i:Nat) (s:aK),a=I i∧b=s.v∧n=h.jZ.length-i∧i≤h.jZ.length∧ak (aS w0) w0 X w∧yk .zero h.jZ=yk s (h.jZ.drop i)) h.jZ.length
  ⟨0,.zero,rfl,rfl,rfl,aN _,hs,by simp⟩ ?_
 rintro n a b w X ⟨i,s,rfl,rfl,rfl,hi,hs,hw⟩;have bW:h.jZ≠[]:=by intro e;simp_all
 rcases eb (h.jZ) i with⟨cK,x,hx,hd⟩|⟨dU,hd⟩
 ·rw [hd,yk] at hw;clear hd;repeat' first|refine bO ?_;intros|refine dD ?_ ?_<;>intros|with_reducible apply dG|((with_reducible refine dR (jc _) ?_ hs.has ?_ ?_);(· kernel_rfl);all_goals (intro _ w X aq;replace hs:=hs.trans aq))|((with_reducible refine fX (ic _ _) ?_ hs.has ?_);(· kernel_rfl);intro w X aq;replace hs:=hs.trans aq)|((with_reducible refine dR (mV _) ?_ hs.has ?_ ?_);(· kernel_rfl);all_goals (intro _ w X aq;replace hs:=hs.trans aq))|((first|(with_reducible refine ai hs ?_)|(with_reducible refine ai (bF.trans hs) ?_));intro wa hk;(simp_all [iP.ok,tle]<;>grind))|((with_reducible refine eM ((h.jZ).length-(i+1)) ?_ ?_);omega;exact⟨i+1,x.aw,by simp,rfl,rfl,by omega,hs,by simp_all⟩)
 ·repeat' first|refine bO ?_;intros|((first|(with_reducible refine ai hs ?_)|(with_reducible refine ai (bF.trans hs) ?_));intro wa hk;(simp_all [iP.ok,tle,yk]<;>grind))
def dB.has (p:dB) (k:BA):Bool:=p.writes.any fun w=>decide (w.key=k)
theorem Ln {w:World} {X:XS} {x:KV} {k:BA} {b:Nat} (h:Cells w X b 0 [.string k]):
  Ct pg 290 #[.agg x.l.toArray,ptr b 0] w X nX fun v _ _=>v=B (decide (x.key=k)):=by
 intro w0 hk;replace h:=h.mv hk.cL;apply Jt;unfold Aa;have hs:=ak.init w0;repeat' first|refine aD ?_;intros|refine dD ?_ ?_<;>intros|((first|(with_reducible refine ai hs ?_)|(with_reducible refine ai (bF.trans hs) ?_));intro wa hk;simp_all)
theorem FP {w:World} {X:XS} {p:dB} {vr vw:Value} {k:BA} (hX: ∀k,X k→k<w.heap.size) (h2:Sl w X 4 vw (p.writes.map KV.l)):
  Ct pg 242 #[p.v vr vw,.string k] w X nX fun v _ _=>v=B (p.has k):=by
 intro w0 hk;replace h2:=h2.mv hk.cL;apply NR;unfold DN;have hs:=ak.init w0;repeat' first|refine aD ?_;intros|(with_reducible apply oh);(case ho=>rfl);(case hX=>exact hs.has);intro bx w X eX aq bE;have bF:=hs.trans aq;replace hs:=ak.iS aq.has|((first|(with_reducible refine ai hs ?_)|(with_reducible refine ai (bF.trans hs) ?_));intro wa hk;(simp [dB.has]))|(refine dC (pN (p:=fun x=>decide (x.key=k)) (h2.mv (ak.mv (bF.trans hs))) hs.has kQ fun x=>Ln (x:=x) (by first|exact bE.cells)) kQ hs.has ?_;intro w X aq;replace hs:=hs.trans aq)
theorem s7:rA pg 32 (fun k:dX=>k.v):=
 abE (n:=3) kQ (fun k:dX=>[k.iH,k.lg,k.sq]) (fun _=>rfl) (fun a b h=>by
  simp only [re,and_true] at h;exact dX.ext h.1 h.2.1 h.2.2)
theorem TD:rA pg 9 (fun s:BA=>dm s):=wi kQ
def oO (w:World) (A:XS) (v:Value) (l:List kc):Prop:=Sl w A 6 v (l.map kc.l)
def nH (w:World) (A:XS) (v:Value) (p:dB):Prop:= ∃vr vw,v=p.v vr vw∧Sl w A 1 vr (p.reads.map S1)∧Sl w A 4 vw (p.writes.map KV.l)
theorem oO.mv:oB oO:=fun _ _ _ _ _ _ h m=>Sl.mv h m
theorem nH.mv:oB nH:=fun _ _ _ _ _ _ ⟨vr,vw,h,h1,h2⟩ m=>⟨vr,vw,h,h1.mv m,h2.mv m⟩
structure jl (w:World) (X A:XS) (sb kb pb:Nat) (hm:List (BA×List kc)) (pm:List (dX×dB)) (low:aK):Prop where
 box:bI w X sb [.map (some kb),.map (some pb),I low.wall,I low.dp,I low.node] 302
 keys:fy w X A kb (fun s:BA=>dm s) oO hm
 eA:fy w X A pb (fun k:dX=>k.v) nH pm
 sub: ∀k,A k→X k
 off: ∀k,A k→k≠sb∧k≠kb∧k≠pb
theorem jl.mv {w w':World} {X Y A:XS} {sb kb pb:Nat} {hm:List (BA×List kc)} {pm:List (dX×dB)} {low:aK} (h:jl w X A sb kb pb hm pm low)
  (hX: ∀k,X k→k<w.heap.size) (m:Mv X w Y w'):jl w' Y A sb kb pb hm pm low:=by
 have ma:Mv A w A w':=fun k hk hl=>⟨hk,(m k (h.sub k hk) hl).2⟩;exact⟨h.box.mv m,h.keys.mv oO.mv m ma,h.eA.mv nH.mv m ma,fun k hk=>(m k (h.sub k hk) (hX k (h.sub k hk))).1,h.off⟩
theorem abN {w:World} {X A:XS} {kb:Nat} {hm:List (BA×List kc)} {k:BA} {N:Value→Prop} {w0:World} {X0:XS} (h:fy w0 X0 A kb (fun s:BA=>dm s) oO hm) (hA: ∀k,A k→X0 k) (m:Mv X0 w0 X w)
  (n: ∀v,Sl w0 X0 6 v (((getM k hm).getD []).map kc.l)→N v):ad pg X w (Instr.lookup 299 (.map (some kb)) (.string k) false) N:=by
 have h':fy w X A kb (fun s:BA=>dm s) oO hm:=h.mv oO.mv m fun k hk hl=>⟨hk,(m k (hA k hk) hl).2⟩;obtain⟨es,c,h1,h2⟩:=h;have m':Mv A w0 A w:=fun k hk hl=>⟨hk,(m k (hA k hk) hl).2⟩;refine mP (et:=223) (A:=X) (rd:=fun w X v l=>Sl w0 A 6 v (l.map kc.l)) (l:=hm) (.slice none 0 0) ?_ TD kQ kQ (fun v a hg hr=>?_) fun hg=>?_
 ·exact⟨es,c,h1.mv m,by
   clear h1 h' n
   induction es generalizing hm with
   |nil=>cases hm<;>first|trivial|exact h2.elim
   |cons e es ih=>cases hm with
    |nil=>exact h2.elim
    |cons x l=>exact⟨h2.1,h2.2.1,ih h2.2.2⟩⟩
 ·exact n v (by rw [hg];exact Sl.mv hr (Mv.sub hA))
 ·exact n _ (by rw [hg];exact Sl.nil _ _ _)
def dB.Ar (x q:dB):Bool:=x.writes.any (fun w=>q.has w.key||q.reads.any fun k=>decide (w.key=k))||x.reads.any fun k=>q.has k
def BF (l:List kc) (fY:aK) (all:Bool):mS×aK:=l.foldl (fun s v=>if all||decide (v.aw.cmp fY≤0)then(v.val,v.aw)else s) (.zero,.zero)
def DW (hm:List (BA×List kc)) (k:BA):List kc:=(getM k hm).getD []
abbrev XN (k:BA) (s:mS×aK):Value:=.agg #[.string k,I s.1.kind,.float .f64 s.1.num,.string s.1.text,I s.2.wall,I s.2.dp,I s.2.node]
theorem Qg {w:World} {X A:XS} {sb kb pb:Nat} {hm:List (BA×List kc)} {pm:List (dX×dB)} {low fY:aK} {k:BA} {all:Bool}
  (h:jl w X A sb kb pb hm pm low) (hX: ∀k,X k→k<w.heap.size):
  Ct pg 291 #[ptr sb 0,.string k,fY.v,B all] w X nX fun v _ _=>v=XN k (BF (DW hm k) fY all):=by
 intro w0 hk;replace h:=h.mv hX hk.cL;have eX:=h.box;have hkm:=h.keys;apply EZ;unfold xh;have hs:=ak.init w0;repeat' first|refine aD ?_;intros
 refine abN hkm h.sub (Mv.refl _ _) fun vv Px=>?_
 show ad _ _ _ _ _
 have Zx:DW hm k=(getM k hm).getD []:=rfl;rw [←Zx] at Px;generalize DW hm k=vs at Px;have iV:=Px.gz;repeat' first|refine aD ?_;intros
 refine gb (fun n a b w X=> ∃(i:Nat) (s:mS×aK),a=I i∧b=XN k s∧n=vs.length-i∧i≤vs.length∧ak (aS w0) w0 X w∧
  BF vs fY all=(vs.drop i).foldl (fun s v=>if all||decide (v.aw.cmp fY≤0)then(v.val,v.aw)else s) s) vs.length ⟨0,(.zero,.zero),rfl,rfl,rfl,aN _,hs,by rw [oN];rfl⟩ ?_
 rintro n a b w X ⟨i,s,rfl,rfl,rfl,hi,hs,hw⟩;rcases eb (vs) i with⟨cK,x,hx,hd⟩|⟨dU,hd⟩
 ·rw [hd,gV] at hw;cases all
  ·repeat' first|refine bO ?_;intros|refine dD ?_ ?_<;>intros|with_reducible apply dG|((with_reducible refine fX (ic _ _) ?_ hs.has ?_);(· kernel_rfl);intro w X aq;replace hs:=hs.trans aq)|((with_reducible refine eM ((vs).length-(i+1)) ?_ ?_);omega;exact⟨i+1,(x.val,x.aw),by simp,rfl,rfl,by omega,hs,by rw [hw];simp [*]⟩)|((with_reducible refine eM ((vs).length-(i+1)) ?_ ?_);omega;exact⟨i+1,s,by simp,rfl,rfl,by omega,hs,by rw [hw];simp [*]⟩)
  ·repeat' first|refine bO ?_;intros|with_reducible apply dG|((with_reducible refine eM ((vs).length-(i+1)) ?_ ?_);omega;exact⟨i+1,(x.val,x.aw),by simp,rfl,rfl,by omega,hs,by rw [hw];simp [*]⟩)
 ·repeat' first|refine bO ?_;intros|((first|(with_reducible refine ai hs ?_)|(with_reducible refine ai (bF.trans hs) ?_));intro wa hk;(rw [hw,hd];rfl))
theorem Qh {w:World} {X A:XS} {sb kb pb:Nat} {hm:List (BA×List kc)} {pm:List (dX×dB)} {low:aK} {k:BA}
  (h:jl w X A sb kb pb hm pm low) (hX: ∀k,X k→k<w.heap.size):
  Ct pg 243 #[ptr sb 0,.string k] w X nX fun v _ _=>v=XN k (BF (DW hm k) .zero true):=by
 intro w0 hk;replace h:=h.mv hX hk.cL;apply EU;unfold xa;have hs:=ak.init w0;repeat' first|refine aD ?_;intros|((first|(with_reducible refine ai hs ?_)|(with_reducible refine ai (bF.trans hs) ?_));intro wa hk;rfl)|(refine dC (Qg (fY:=.zero) h hs.has) kQ hs.has ?_;intro w X aq;replace hs:=hs.trans aq)
def HZ (hm:List (BA×List kc)) (x:dB):Bool:=x.writes.any fun w=>decide ((BF (DW hm w.key) .zero true).2.cmp x.aw≥0)
theorem XO {w:World} {X A:XS} {sb kb pb:Nat} {hm:List (BA×List kc)} {pm:List (dX×dB)} {low:aK} {x:dB} {vr vw:Value}
  (h:jl w X A sb kb pb hm pm low) (hX: ∀k,X k→k<w.heap.size) (h2:Sl w X 4 vw (x.writes.map KV.l)):
  Ct pg 203 #[ptr sb 0,x.v vr vw] w X nX fun v _ _=>v=B (HZ hm x):=by
 intro w0 hk;replace h:=h.mv hX hk.cL;replace h2:=h2.mv hk.cL;have iV:=h2.gz;apply Jp;unfold zX;have hs:=ak.init w0;repeat' first|refine aD ?_;intros
 refine eG (fun n a w X=> ∃i:Nat,a=I (i:Nat)∧n=(x.writes).length-i∧i≤(x.writes).length∧ak (aS w0) w0 X w∧HZ hm x=(x.writes.drop i).any (fun w=>decide ((BF (DW hm w.key) .zero true).2.cmp x.aw≥0))) (x.writes).length ⟨0,rfl,rfl,aN _,hs,by simp [HZ]⟩ ?_;rintro n a w X ⟨i,rfl,rfl,hi,hs,hw⟩;rcases eb (x.writes) i with⟨cK,y,hy,hd⟩|⟨dU,hd⟩
 ·rw [hd,iK] at hw;repeat' first|refine bO ?_;intros|refine dD ?_ ?_<;>intros|((with_reducible refine fX (ic _ _) ?_ hs.has ?_);(· kernel_rfl);intro w X aq;replace hs:=hs.trans aq)|((first|(with_reducible refine ai hs ?_)|(with_reducible refine ai (bF.trans hs) ?_));intro wa hk;simp_all)|((with_reducible refine ep ((x.writes).length-(i+1)) ?_ ?_);omega;exact⟨i+1,by simp,rfl,by omega,hs,by rw [hw];simp [*]⟩)|(refine dC (Qh (h.mv (fun _ h=>h) (ak.mv hs)) hs.has) kQ hs.has ?_;intro w X aq;replace hs:=hs.trans aq)
 ·repeat' first|refine bO ?_;intros|((first|(with_reducible refine ai hs ?_)|(with_reducible refine ai (bF.trans hs) ?_));intro wa hk;simp_all)
theorem Qi {w:World} {X A:XS} {sb kb pb:Nat} {hm:List (BA×List kc)} {pm:List (dX×dB)} {low:aK} {x:dB} {vr vw:Value}
  (h:jl w X A sb kb pb hm pm low) (hX: ∀k,X k→k<w.heap.size) (h1:Sl w X 1 vr (x.reads.map S1)) (h2:Sl w X 4 vw (x.writes.map KV.l)):
  Ct pg 202 #[ptr sb 0,x.v vr vw] w X nX fun v _ _=>v=B (pm.any fun q=>x.Ar q.2):=by
 intro w0 hk;replace h:=h.mv hX hk.cL;replace h1:=h1.mv hk.cL;replace h2:=h2.mv hk.cL;have eX:=h.box;have Zl:=h1.gz;have Zi:=h2.gz;apply EO;unfold wV;have hs:=ak.init w0;repeat' first|refine aD ?_;intros
 refine Iz (kt:=32) (et:=182) h.eA nH.mv h.sub kQ hs.has fun r w X hr aq rM=>?_;replace hs:=hs.trans aq;refine gb (fun n _ _ w X=> ∃left,n=left.length∧ak (aS w0) w0 X w∧tj w X A r pb (fun k:dX=>k.v) nH pm left∧(pm.any fun q=>x.Ar q.2)=left.any fun q=>x.Ar q.2)
  pm.length ⟨pm,rfl,hs,rM,rfl⟩ ?_
 rintro n a b w X ⟨left,rfl,hs,rM,hw⟩;refine Mp rM nH.mv (fun k hk=>⟨hs.sub k (h.sub k hk),fun e=>by have:k<w0.heap.size:=h.sub k hk;omega⟩) hs.has (fun e0 w X aq=>?_) fun kx q v gR w1 X1 hc mj CW he=>?_
 ·replace hs:=hs.trans aq;repeat' first|refine aD ?_;intros|((first|(with_reducible refine ai hs ?_)|(with_reducible refine ai (bF.trans hs) ?_));intro wa hk;(rw [hw,e0];rfl))
 ·have bF:=hs.dF hc fun k hk e=>by have:k<w0.heap.size:=hk;omega
  obtain⟨ur,uw,rfl,q1,q2⟩:=mj;have Kq: ∀k,A k→X1 k:=fun k hk=>bF.sub k (h.sub k hk);replace q1:=q1.mv (Mv.sub Kq);replace q2:=q2.mv (Mv.sub Kq);have o1:=q1.one;have o2:=q2.one;rw [ZY _ rM.nodup gR] at hw;replace hs:=ak.iS bF.has;repeat' first|refine aD ?_;intros
  refine IA hs.has he fun w X aq=>?_;replace hs:=hs.trans aq;repeat' first|refine aD ?_;intros
  refine eG (fun n a w X=> ∃i:Nat,a=I (i:Nat)∧n=x.writes.length-i∧i≤x.writes.length∧ak X1 w1 X w∧
   (x.writes.any (fun w=>q.has w.key||q.reads.any fun k=>decide (w.key=k))=(x.writes.drop i).any (fun w=>q.has w.key||q.reads.any fun k=>decide (w.key=k)))) x.writes.length
   ⟨0,rfl,rfl,aN _,hs,by simp⟩ ?_
  rintro n a w X ⟨i,rfl,rfl,hi,hs,u9⟩;rcases eb (x.writes) i with⟨cK,y,hy,hd⟩|⟨dU,hd⟩
  ·rw [hd,iK] at u9;repeat' first|refine bO ?_;intros|with_reducible apply dG|((first|(with_reducible refine ai hs ?_)|(with_reducible refine ai (bF.trans hs) ?_));intro wa hk;(rw [hw];simp [dB.Ar,u9, *]))|((with_reducible refine ep ((x.writes).length-(i+1)) ?_ ?_);omega;exact⟨i+1,by simp,rfl,by omega,hs,by rw [u9];simp [*]⟩)|(refine eR (FP  (p:=q) hs.has qA) kQ hs.has ?_ ?_<;>(intro _ w X aq;replace hs:=hs.trans aq))|(refine eR (Bc  qA) kQ hs.has ?_ ?_<;>(intro _ w X aq;replace hs:=hs.trans aq))
  ·rw [hd] at u9;repeat' first|refine bO ?_;intros
   refine eG (fun n a w X=> ∃i:Nat,a=I (i:Nat)∧n=x.reads.length-i∧i≤x.reads.length∧ak X1 w1 X w∧
    (x.reads.any (fun k=>q.has k)=(x.reads.drop i).any (fun k=>q.has k))) x.reads.length
    ⟨0,rfl,rfl,aN _,hs,by simp⟩ ?_
   rintro n a w X ⟨j,rfl,rfl,hj,hs,FQ⟩;rcases eb x.reads j with⟨cK,y,hy,qw⟩|⟨abg,qw⟩
   ·rw [qw,iK] at FQ;repeat' first|refine bO ?_;intros|((first|(with_reducible refine ai hs ?_)|(with_reducible refine ai (bF.trans hs) ?_));intro wa hk;(rw [hw];simp [dB.Ar,FQ, *]))|((with_reducible refine ep (x.reads.length-(j+1)) ?_ ?_);omega;exact⟨j+1,by simp,rfl,by omega,hs,by rw [FQ];simp [*]⟩)|(refine eR (FP  (p:=q) hs.has qA) kQ hs.has ?_ ?_<;>(intro _ w X aq;replace hs:=hs.trans aq))
   ·rw [qw] at FQ;repeat' first|refine bO ?_;intros
    refine eM _ (Iy gR) ⟨_,rfl,bF.trans hs,CW.mv nH.mv (ak.mv hs) (ak.j6 hs Kq),?_⟩;rw [hw];have:x.Ar q=false:=by unfold dB.Ar;rw [u9,FQ];rfl
    simp [this]
def dB.fresh (wa w':World) (v:Value) (p:dB):Prop:=
 ∃vr vw,v=p.v vr vw∧Own w' (made wa w') wa.heap.size 9 1 vr (p.reads.map S1)∧Own w' (made wa w') wa.heap.size 118 4 vw (p.writes.map KV.l)∧
  ∀g,vr.ownBlock=some g→vw.ownBlock≠some g
theorem TE {w:World} {X:XS} {p:dB} {vr vw:Value} (h1:Sl w X 1 vr (p.reads.map S1)) (h2:Sl w X 4 vw (p.writes.map KV.l)) (zJ:p.reads.length≤2^40) (Fj:p.writes.length≤2^40):
  Ct pg 204 #[p.v vr vw] w X nX fun v wa w'=>p.fresh wa w' v:=by
  intro w0 hk;replace h1:=h1.mv hk.cL;replace h2:=h2.mv hk.cL;apply P9;unfold FG;have hs:=ak.init w0;refine ek (FO h1 zJ) kQ hs.has ?_;rintro v1 wa w X ll N4 H3 aq;replace hs:=hs.trans aq;have q1:=ll.sl.one;repeat' first|refine aD ?_;intros
  refine ek (pH (h2.mv (ak.mv hs)) Fj) kQ hs.has ?_;rintro v2 wb w2 X2 jb nW kZ dI;have hb:w0.heap.size≤wa.heap.size:=N4;have TF:Own w X w0.heap.size 9 1 v1 (p.reads.map S1):=ll.up H3 hb;have abO:=TF.since dI;have abP:w0.heap.size≤wb.heap.size:=af hs.kp.size nW;have abQ:Own w2 X2 w0.heap.size 118 4 v2 (p.writes.map KV.l):=jb.up kZ abP;have q2:=jb.sl.one;replace hs:=hs.trans dI;repeat' first|refine aD ?_;intros|((first|(with_reducible refine ai hs ?_)|(with_reducible refine ai (bF.trans hs) ?_));intro wa hk;(exact⟨v1,v2,rfl,(abO.kp hk).tight,(abQ.kp hk).tight,fun g A3 Pe=>by have:=(TF.ge A3).2;have:=(jb.ge Pe).1;omega⟩))
theorem H4 {w:World} {X:XS} {p:dB} {vr vw:Value} (h1:Sl w X 1 vr (p.reads.map S1)) (h2:Sl w X 4 vw (p.writes.map KV.l)) (zJ:p.reads.length≤2^40) (Fj:p.writes.length≤2^40):
  Ct pg 124 #[p.v vr vw] w X nX fun v wa w'=>p.fresh wa w' v:=by
  intro w0 hk;replace h1:=h1.mv hk.cL;replace h2:=h2.mv hk.cL;apply P5;unfold FC;have hs:=ak.init w0;refine ek (FO h1 zJ) kQ hs.has ?_;rintro v1 wa w X ll N4 H3 aq;replace hs:=hs.trans aq;have q1:=ll.sl.one
  skip
  refine ek (pH (h2.mv (ak.mv hs)) Fj) kQ hs.has ?_;rintro v2 wb w2 X2 jb nW kZ dI;have hb:w0.heap.size≤wa.heap.size:=N4;have TF:Own w X w0.heap.size 9 1 v1 (p.reads.map S1):=ll.up H3 hb;have abO:=TF.since dI;have abP:w0.heap.size≤wb.heap.size:=af hs.kp.size nW;have abQ:Own w2 X2 w0.heap.size 118 4 v2 (p.writes.map KV.l):=jb.up kZ abP;have q2:=jb.sl.one;replace hs:=hs.trans dI;repeat' first|refine aD ?_;intros|((first|(with_reducible refine ai hs ?_)|(with_reducible refine ai (bF.trans hs) ?_));intro wa hk;(exact⟨v1,v2,rfl,(abO.kp hk).tight,(abQ.kp hk).tight,fun g A3 Pe=>by have:=(TF.ge A3).2;have:=(jb.ge Pe).1;omega⟩))
def H5 (X:XS) (a b c:Nat):XS:=fun k=>X k∧k≠a∧k≠b∧k≠c
theorem XP {w:World} {X:XS} :Ct pg 199 #[] w X nX fun v wa w'=>
  ∃sb kb pb,v=ptr sb 0∧jl w' (made wa w') (H5 (made wa w') sb kb pb) sb kb pb [] [] .zero∧sb≠kb∧sb≠pb∧kb≠pb:=by
 intro w0 hk;apply UN;unfold Kl;have hs:=ak.init w0;refine sf (kv:=fun s:BA=>dm s) oO nX hs.has fun kb w1 X1 V3 aq rr=>?_;refine sf (kv:=fun k:dX=>k.v) nH nX aq.has fun pb w2 X2 VY dI oC=>?_;have ahX:=rr.x;have ahY:=oC.x;have ahZ:=rr.mv oO.mv (ak.mv dI) (Y:=X2) (A':=nX) (fun _ h=>h.elim);replace hs:=(hs.trans aq).trans dI;have fB:w0.heap.size≤w1.heap.size:=aq.kp.size;repeat' first|refine aD ?_;intros|(with_reducible apply ns);(case hX=>exact hs.has);intro bx w X eX aq bE;have bF:=hs.trans aq;replace hs:=ak.iS aq.has
 refine ai (bF.trans hs) ?_;intro wa hk;have Ro:=(bE.kp hk).lt;have ad5:=aq.kp.size;have aeo:=hk.size;have aft:=aq.kp.trans (hk.less aq.sub);have ah0:made w0 wa kb:=⟨V3,by omega⟩;have ah1:made w0 wa pb:=⟨by omega,by omega⟩;exact⟨bx,kb,pb,rfl,⟨bE.own.mv (Mv.one hk bE.1 ⟨by omega,Ro⟩),ahZ.own.mv oO.mv (Mv.one aft (dI.sub _ ahX.1) ah0) (fun _ h=>h.elim),
  oC.own.mv nH.mv (Mv.one aft ahY.1 ah1) (fun _ h=>h.elim),fun k hk=>hk.1,fun k hk=>hk.2⟩,by omega,by omega,by omega⟩
def ze:BA→List iP→Bool
 |_,[]=>true
 |a,h::r=>h.ok a&&ze h.key r
def ud (l:List iP):List (BA×List kc):=l.foldl (fun m h=>bM h.key h.jZ m) []
def ML (hm:List (BA×List kc)):List (dX×dB)→List dB→Int
 |_,[]=>0
 |pm,p::r=>if p.err≠0 then p.err else if(getM p.bU pm).isSome then 9 else if pm.any (fun q=>p.Ar q.2)then 18 else if HZ hm p then 20
  else ML hm (bM p.bU p pm) r
def DX (hl:List iP) (pl:List dB):Int:=if ze ⟨#[]⟩ hl then ML (ud hl) [] pl else 4
theorem jl.grow {w:World} {X A A':XS} {sb kb pb:Nat} {hm:List (BA×List kc)} {pm:List (dX×dB)} {low:aK} (h:jl w X A sb kb pb hm pm low)
  (hA: ∀k,A k→A' k) (hs: ∀k,A' k→X k∧k≠sb∧k≠kb∧k≠pb):jl w X A' sb kb pb hm pm low:=
 ⟨h.box,h.keys.mv oO.mv (Mv.refl _ _) (Mv.sub hA),h.eA.mv nH.mv (Mv.refl _ _) (Mv.sub hA),fun k hk=>(hs k hk).1,fun k hk=>(hs k hk).2⟩
theorem jl.to {w w':World} {X Y:XS} {sb kb pb:Nat} {hm:List (BA×List kc)} {pm:List (dX×dB)} {low:aK} (h:jl w X (H5 X sb kb pb) sb kb pb hm pm low)
  (hs:ak X w Y w') (hX: ∀k,X k→k<w.heap.size):jl w' Y (H5 Y sb kb pb) sb kb pb hm pm low:=
 (h.mv hX (ak.mv hs)).grow (fun k hk=>⟨hs.sub k hk.1,hk.2⟩) fun k hk=>hk
def Sp (l:List dB):Prop:= ∀p∈l,p.reads.length≤2^40∧p.writes.length≤2^40
def Sq (l:List iP):Prop:= ∀h∈l,h.jZ.length≤2^40
theorem UT {w:World} {X:XS} {vh vp:Value} {hl:List iP} {pl:List dB} (h1:nL w X vh hl) (h2:nK w X vp pl) (zJ:Sq hl) (Fj:Sp pl):
  Ct pg 161 #[vh,vp] w X nX fun v _ _=> ∃u:Value,v= .tuple #[u,I (DX hl pl)]:=by
 intro w0 hk;replace h1:=h1.mv hk.cL;replace h2:=h2.mv hk.cL;have Zl:=h1.len;have Zi:=h2.len;apply Tk;unfold HA;have hs:=ak.init w0;refine ek XP kQ hs.has ?_;rintro v wa w X ⟨sb,kb,pb,rfl,fV,ne1,ne2,ne3⟩ hle eD aq;have Da:w0.heap.size≤sb:=af hle fV.box.1.1;have V3:w0.heap.size≤kb:=af hle fV.keys.x.1.1;have VY:w0.heap.size≤pb:=af hle fV.eA.x.1.1;replace hs:=hs.trans aq;have ah2:jl w X (H5 X sb kb pb) sb kb pb [] [] .zero:=(fV.mv (fun k hk=>hk.2) (Mv.sub eD)).grow (fun k hk=>⟨eD k hk.1,hk.2⟩) fun k hk=>hk;clear fV;repeat' first|refine aD ?_;intros
 refine gb (fun n a b w X=> ∃(i:Nat) (s:BA),a=I i∧b= .string s∧n=hl.length-i∧i≤hl.length∧ak (aS w0) w0 X w∧
  jl w X (H5 X sb kb pb) sb kb pb (ud (hl.take i)) [] .zero∧ze ⟨#[]⟩ hl=ze s (hl.drop i)) hl.length
  ⟨0,⟨#[]⟩,rfl,rfl,rfl,aN _,hs,ah2,by rw [oN]⟩ ?_
 rintro n a b w X ⟨i,s,rfl,rfl,rfl,hi,bF,fV,hw⟩;have hs:=ak.iS bF.has;rcases eb (hl) i with⟨cK,x,hx,hd⟩|⟨dU,hd⟩
 ·rw [hd,ze] at hw;have wh:=zJ x (aA hx);have eX:=fV.box;repeat' first|refine bO ?_;intros|((with_reducible apply MG);assumption;(try (case hz=>rfl));(case hr=>exact qR);(try (case hz=>omega));(case ht=>kernel_rfl);(case hs=>kernel_rfl);intros)|(refine eR (N3 (h:=x) (ahead:=s) (by first|assumption|exact Sl.mv (by assumption) (ak.mv (bF.trans hs)))) kQ hs.has ?_ ?_<;>(intro _ w X aq;replace hs:=hs.trans aq))|(first|(with_reducible refine ai (bF.trans hs) ?_);intro wa hk;exact⟨_,by rw [DX,hw];simp [*];rfl⟩)
  have Px:= ‹Sl w0 (aS w0) 6 _ (x.jZ.map kc.l)›;have ml:= ‹x.ok s=true›;refine ek (Lm (Px.mv (ak.mv (bF.trans hs))) wh) kQ hs.has ?_;rintro v1 wa w2 X2 ll N4 H3 dI;have Wi:=hs.kp.size;have Lo:=fV.to (hs.trans dI) bF.has;have MM:Sl w2 (H5 X2 sb kb pb) 6 v1 (x.jZ.map kc.l):=ll.sl.mv (Mv.sub fun k hk=>⟨H3 k hk,by
   have q1:=bF.has sb fV.box.1;have q2:=bF.has kb fV.keys.x.1;have q3:=bF.has pb fV.eA.x.1;have:=hk.1;refine⟨?_,?_,?_⟩<;>omega⟩)
  replace hs:=hs.trans dI;repeat' first|refine aD ?_;intros
  refine se (kv:=fun s:BA=>dm s) (k:=x.key) (et:=223) Lo.keys oO.mv MM (fun k hk=>⟨hk.1,hk.2.2.1⟩) TD kQ hs.has fun w3 X3 hc Fl=>?_;have dZ:=(bF.trans hs).dF hc fun k hk e=>by have:k<w0.heap.size:=hk;omega
  have CA:jl w3 X3 (H5 X3 sb kb pb) sb kb pb (ud (hl.take (i+1))) [] .zero:=by
   have eX:=Lo.box;have hpm:=Lo.eA;have e:ud (hl.take (i+1))=bM x.key x.jZ (ud (hl.take i)):=by
    rw [bc,hx];simp [ud]
   rw [e];have mo: ∀b,X2 b→b≠kb→Mv (fun k=>k=b) w2 X3 w3:=fun b hb bW k ah _=>by subst ah;exact⟨hc.sub _ hb,hc.block _ hb bW⟩
   exact⟨eX.own.mv (mo _ eX.1 ne1),Fl.mv oO.mv (Mv.refl _ _) (Mv.sub fun k hk=>⟨hc.sub k hk.1,hk.2⟩),
    hpm.own.mv nH.mv (mo _ hpm.x.1 ne3.symm) (fun k hk _=>⟨⟨hc.sub k hk.1,hk.2⟩,hc.block k hk.1 hk.2.2.1⟩),fun k hk=>hk.1,fun k hk=>hk.2⟩
  replace hs:=dZ;repeat' first|refine aD ?_;intros|((with_reducible refine eM ((hl).length-(i+1)) ?_ ?_);omega;exact⟨i+1,x.key,by simp,rfl,rfl,by omega,hs,CA,by rw [hw,ml];rfl⟩)
 ·have hlen:hl.take i=hl:=aY dU;rw [hd] at hw;rw [hlen] at fV;repeat' first|refine bO ?_;intros
  refine eG (fun n a w X=> ∃(i:Nat) (pm:List (dX×dB)),a=I i∧n=pl.length-i∧i≤pl.length∧ak (aS w0) w0 X w∧
   jl w X (H5 X sb kb pb) sb kb pb (ud hl) pm .zero∧DX hl pl=ML (ud hl) pm (pl.drop i)) pl.length
   ⟨0,[],rfl,rfl,aN _,bF,fV,by rw [oN,DX,hw];rfl⟩ ?_
  rintro n a w X ⟨j,pm,rfl,rfl,hj,bF,fV,u9⟩;have hs:=ak.iS bF.has;rcases eb pl j with⟨abf,x,hx,qw⟩|⟨abg,qw⟩
  ·rw [qw,ML] at u9;have wh:=Fj x (aA hx);have eX:=fV.box;repeat' first|refine bO ?_;intros|((with_reducible apply IE);assumption;(try (case hz=>rfl));(case hr=>exact qR);(try (case hz=>omega));(case ht=>kernel_rfl);(case hs=>kernel_rfl);intros)|(refine dC (pw (p:=x) (by first|assumption|exact Sl.mv (by assumption) (ak.mv (bF.trans hs))) (by first|assumption|exact Sl.mv (by assumption) (ak.mv (bF.trans hs))) wh.2) kQ hs.has ?_;intro w X aq;replace hs:=hs.trans aq)
   refine oS (kv:=fun k:dX=>k.v) (k:=x.bU) (kt:=32) (et:=182) (.agg #[I 0,I 0,I 0,I 0,I 0,I 0,.slice none 0 0,.slice none 0 0]) (fV.mv bF.has (ak.mv hs)).eA s7 kQ kQ (fun v q hg mj=>?_) fun hg=>?_
   ·obtain⟨ur,uw,rfl,q1,q2⟩:=mj;have o1:=q1.one;have o2:=q2.one;repeat' first|refine aD ?_;intros|refine dD ?_ ?_<;>intros|(first|(with_reducible refine ai (bF.trans hs) ?_);intro wa hk;exact⟨_,by rw [u9];simp [*];rfl⟩)
   ·repeat' first|refine aD ?_;intros|refine dD ?_ ?_<;>intros|(first|(with_reducible refine ai (bF.trans hs) ?_);intro wa hk;exact⟨_,by rw [u9];simp [*];rfl⟩)|(refine eR (Qi (x:=x) (fV.mv bF.has (ak.mv hs)) hs.has (by first|assumption|exact Sl.mv (by assumption) (ak.mv (bF.trans hs))) (by first|assumption|exact Sl.mv (by assumption) (ak.mv (bF.trans hs)))) kQ hs.has ?_ ?_<;>(intro _ w X aq;replace hs:=hs.trans aq))|(refine eR (XO (x:=x) (fV.mv bF.has (ak.mv hs)) hs.has (by first|assumption|exact Sl.mv (by assumption) (ak.mv (bF.trans hs)))) kQ hs.has ?_ ?_<;>(intro _ w X aq;replace hs:=hs.trans aq))
    have he:x.err=0:= ‹x.err=0›;have ah3:(pm.any fun q=>x.Ar q.snd)=false:= ‹_›;have ah4:HZ (ud hl) x=false:= ‹_›;refine ek (TE (p:=x) (by first|exact Sl.mv (by assumption) (ak.mv (bF.trans hs))) (by first|exact Sl.mv (by assumption) (ak.mv (bF.trans hs))) wh.1 wh.2) kQ hs.has ?_;rintro v1 wa w2 X2 ⟨ur,uw,rfl,ll,jb,-⟩ N4 H3 dI;have Wi:=hs.kp.size;have Lo:=fV.to (hs.trans dI) bF.has;have YS: ∀k,made wa w2 k→H5 X2 sb kb pb k:=fun k hk=>⟨H3 k hk,by
     have q1:=bF.has sb fV.box.1;have q2:=bF.has kb fV.keys.x.1;have q3:=bF.has pb fV.eA.x.1;have:=hk.1;refine⟨?_,?_,?_⟩<;>omega⟩
    have MM:nH w2 (H5 X2 sb kb pb) (x.v ur uw) x:=⟨ur,uw,rfl,ll.sl.mv (Mv.sub YS),jb.sl.mv (Mv.sub YS)⟩;replace hs:=hs.trans dI;refine se (kv:=fun k:dX=>k.v) (k:=x.bU) (et:=182) Lo.eA nH.mv MM (fun k hk=>⟨hk.1,hk.2.2.2⟩) s7 kQ hs.has fun w3 X3 hc Fl=>?_;have dZ:=(bF.trans hs).dF hc fun k hk e=>by have:k<w0.heap.size:=hk;omega
    have CA:jl w3 X3 (H5 X3 sb kb pb) sb kb pb (ud hl) (bM x.bU x pm) .zero:=by
     have eX:=Lo.box;have hkm:=Lo.keys;have mo: ∀b,X2 b→b≠pb→Mv (fun k=>k=b) w2 X3 w3:=fun b hb bW k ah _=>by subst ah;exact⟨hc.sub _ hb,hc.block _ hb bW⟩
     exact⟨eX.own.mv (mo _ eX.1 ne2),hkm.own.mv oO.mv (mo _ hkm.x.1 ne3) (fun k hk _=>⟨⟨hc.sub k hk.1,hk.2⟩,hc.block k hk.1 hk.2.2.2⟩),
      Fl.mv nH.mv (Mv.refl _ _) (Mv.sub fun k hk=>⟨hc.sub k hk.1,hk.2⟩),fun k hk=>hk.1,fun k hk=>hk.2⟩
    replace hs:=dZ;repeat' first|refine aD ?_;intros|((with_reducible refine ep (pl.length-(j+1)) ?_ ?_);omega;exact⟨j+1,_,by simp,rfl,by omega,hs,CA,by rw [u9];simp [he,hg,ah3,ah4]⟩)
  ·rw [qw] at u9;repeat' first|refine bO ?_;intros|(first|(with_reducible refine ai (bF.trans hs) ?_);intro wa hk;exact⟨_,by rw [u9];rfl⟩)
def acq (l:List iP):Prop:= ∀h∈l,h.key.size≤2^40
def acp (l:List dB):Prop:= ∀p∈l,(∀k∈p.reads,k.size≤2^40)∧ ∀x∈p.writes,x.key.size≤2^40
structure State.small (s:State):Prop where
 h:Sq s.gG
 p:Sp s.eA
 hk:acq s.gG
 pk:acp s.eA
structure Rec.small (r:Rec):Prop where
 reads:r.reads.length≤2^40
 writes:r.writes.length≤2^40
 rk: ∀k∈r.reads,k.size≤2^40
 wk: ∀x∈r.writes,x.key.size≤2^40
 state:r.state.small
def kX.has (r:kX) (x:Nat):Bool:=(Fx x r.lo||zN x r.lo)&&B4 x r.hi
def kX.key (r:kX) (k:BA):Bool:=r.has (placeOf k)
def State.inside (s:State):Bool:=s.gG.all (fun h=>s.range.key h.key)&&s.eA.all fun p=>p.reads.all s.range.key&&p.writes.all fun x=>s.range.key x.key
def State.may (s:State):Bool:=s.range.may&&s.floor.may&&s.closed.may&&decide (DX s.gG s.eA=0)&&s.inside
theorem H6 {w:World} {X:XS} {s:State} {vh vp:Value} {k:BA} {b:Nat} (h:Cells w X b 0 (s.l vh vp)) (ah:k.size≤2^62):
  Ct pg 162 #[.string k,ptr b 0] w X nX fun v _ _=>v=B (s.range.key k):=by
 intro w0 hk;replace h:=h.mv hk.cL;apply Gs;unfold xT;have hs:=ak.init w0;repeat' first|refine aD ?_;intros|((with_reducible refine dR (XK _ _) ?_ hs.has ?_ ?_);(· kernel_rfl);all_goals (intro _ w X aq;replace hs:=hs.trans aq))|((with_reducible refine fX (E5 _ (by first|assumption|omega)) ?_ hs.has ?_);(· kernel_rfl);intro w X aq;replace hs:=hs.trans aq)|((first|(with_reducible refine ai hs ?_)|(with_reducible refine ai (bF.trans hs) ?_));intro wa hk;(simp [kX.key,kX.has, *]))
theorem Cm {w:World} {X:XS} {s:State} {vh vp:Value} (h1:nL w X vh s.gG) (h2:nK w X vp s.eA) (jr:s.small):
  Ct pg 121 #[s.v vh vp] w X nX fun v _ _=>v=B s.may:=by
 intro w0 hk;replace h1:=h1.mv hk.cL;replace h2:=h2.mv hk.cL;have Zl:=h1.len;have Zi:=h2.len;have o1:=h1.one;have o2:=h2.one;apply Lf;unfold Bx;have hs:=ak.init w0;repeat' first|refine aD ?_;intros|refine dD ?_ ?_<;>intros|(with_reducible apply ns);(case hX=>exact hs.has);intro bx w X eX aq bE;have bF:=hs.trans aq;replace hs:=ak.iS aq.has|with_reducible apply dG|((with_reducible refine dR (jc _) ?_ hs.has ?_ ?_);(· kernel_rfl);all_goals (intro _ w X aq;replace hs:=hs.trans aq))|((with_reducible refine dR (Ko _) ?_ hs.has ?_ ?_);(· kernel_rfl);all_goals (intro _ w X aq;replace hs:=hs.trans aq))|((first|(with_reducible refine ai hs ?_)|(with_reducible refine ai (bF.trans hs) ?_));intro wa hk;(simp [State.may, *]))|(refine ek ((UT (hl:=s.gG) (pl:=s.eA))  qA qA jr.h jr.p) kQ hs.has ?_;rintro _ wa w X ⟨u,rfl⟩ hle eD aq;have eo:=af hs.kp.size hle;replace hs:=hs.trans aq)
 have RL: ∀k:BA,k.size≤2^40→ ∀w X,ak _ _ X w→Ct pg 162 #[.string k,ptr bx 0] w X nX fun v _ _=>v=B (s.range.key k):=fun k hk w X hs=>H6 (bE.since hs).cells zQ;have XQ:s.may=s.inside:=by simp [State.may, *]
 refine eG (fun n a w X=> ∃i:Nat,a=I (i:Nat)∧n=s.gG.length-i∧i≤s.gG.length∧ak _ _ X w∧
  (s.gG.all (fun h=>s.range.key h.key))=((s.gG.drop i).all fun h=>s.range.key h.key)) s.gG.length ⟨0,rfl,rfl,aN _,hs,by simp⟩ ?_
 rintro n a w X ⟨i,rfl,rfl,hi,hs,hw⟩;rcases eb (s.gG) i with⟨cK,x,hx,hd⟩|⟨dU,hd⟩
 ·rw [hd,ib] at hw;have hkx:=jr.hk x (aA hx);repeat' first|refine bO ?_;intros|((with_reducible apply MG);assumption;(try (case hz=>rfl));(case hr=>exact qR);(try (case hz=>omega));(case ht=>kernel_rfl);(case hs=>kernel_rfl);intros)|((first|(with_reducible refine ai hs ?_)|(with_reducible refine ai (bF.trans hs) ?_));intro wa hk;(simp [XQ,State.inside,hw, *]))|(refine eR (RL x.key hkx _ _ hs) kQ hs.has ?_ ?_<;>(intro _ w X aq;replace hs:=hs.trans aq))|((with_reducible refine ep ((s.gG).length-(i+1)) ?_ ?_);omega;exact⟨i+1,by simp,rfl,by omega,hs,by rw [hw];simp [*]⟩)
 ·rw [hd] at hw;repeat' first|refine bO ?_;intros
  refine A7 (fun n a _ _ w X=> ∃i:Nat,a=I (i:Nat)∧n=s.eA.length-i∧i≤s.eA.length∧ak _ _ X w∧
   (s.eA.all fun p=>p.reads.all s.range.key&&p.writes.all fun x=>s.range.key x.key)=((s.eA.drop i).all fun p=>p.reads.all s.range.key&&p.writes.all fun x=>s.range.key x.key)) s.eA.length ⟨0,rfl,rfl,aN _,hs,by simp⟩ ?_
  rintro n a a2 a3 w X ⟨j,rfl,rfl,hj,hs,u9⟩;rcases eb s.eA j with⟨cK,p,hp,qw⟩|⟨abg,qw⟩
  ·rw [qw,ib] at u9;obtain⟨vH,tH⟩:=jr.pk p (aA hp);repeat' first|refine bO ?_;intros|((with_reducible apply IE);assumption;(try (case hz=>rfl));(case hr=>exact qR);(try (case hz=>omega));(case ht=>kernel_rfl);(case hs=>kernel_rfl);intros)
   have Vq:=Sl.gz ‹Sl w0 (aS w0) 1 _ (p.reads.map S1)›;have hl4:=Sl.gz ‹Sl w0 (aS w0) 4 _ (p.writes.map KV.l)›;refine eG (fun n a w X=> ∃i:Nat,a=I (i:Nat)∧n=p.reads.length-i∧i≤p.reads.length∧ak _ _ X w∧p.reads.all s.range.key=(p.reads.drop i).all s.range.key) p.reads.length ⟨0,rfl,rfl,aN _,hs,by simp⟩ ?_;rintro n a w X ⟨k,rfl,rfl,VD,hs,FQ⟩;rcases eb p.reads k with⟨W5,y,hy,hd3⟩|⟨aiU,hd3⟩
   ·rw [hd3,ib] at FQ;have hky:=vH y (aA hy);repeat' first|refine bO ?_;intros|((first|(with_reducible refine ai hs ?_)|(with_reducible refine ai (bF.trans hs) ?_));intro wa hk;(simp [XQ,State.inside,u9,FQ, *]))|(refine eR (RL y hky _ _ hs) kQ hs.has ?_ ?_<;>(intro _ w X aq;replace hs:=hs.trans aq))|((with_reducible refine ep (p.reads.length-(k+1)) ?_ ?_);omega;exact⟨k+1,by simp,rfl,by omega,hs,by rw [FQ];simp [*]⟩)
   ·rw [hd3] at FQ;repeat' first|refine bO ?_;intros
    refine eG (fun n a w X=> ∃i:Nat,a=I (i:Nat)∧n=p.writes.length-i∧i≤p.writes.length∧ak _ _ X w∧(p.writes.all fun x=>s.range.key x.key)=(p.writes.drop i).all fun x=>s.range.key x.key) p.writes.length ⟨0,rfl,rfl,aN _,hs,by simp⟩ ?_;rintro n a w X ⟨m,rfl,rfl,hm,hs,Z9⟩;rcases eb p.writes m with⟨aiV,y,hy,hd4⟩|⟨aiW,hd4⟩
    ·rw [hd4,ib] at Z9;have hky:=tH y (aA hy);repeat' first|refine bO ?_;intros|((first|(with_reducible refine ai hs ?_)|(with_reducible refine ai (bF.trans hs) ?_));intro wa hk;(simp [XQ,State.inside,u9,FQ,Z9, *]))|(refine eR (RL y.key hky _ _ hs) kQ hs.has ?_ ?_<;>(intro _ w X aq;replace hs:=hs.trans aq))|((with_reducible refine ep (p.writes.length-(m+1)) ?_ ?_);omega;exact⟨m+1,by simp,rfl,by omega,hs,by rw [Z9];simp [*]⟩)
    ·rw [hd4] at Z9;repeat' first|refine bO ?_;intros|((with_reducible refine yU (s.eA.length-(j+1)) ?_ ?_);omega;exact⟨j+1,by simp,rfl,by omega,hs,by rw [u9,FQ,Z9];simp⟩)
  ·rw [qw] at u9;repeat' first|refine bO ?_;intros|((first|(with_reducible refine ai hs ?_)|(with_reducible refine ai (bF.trans hs) ?_));intro wa hk;(rw [XQ,State.inside,hw,u9];rfl))
def IG (prev st:aK) (t:dX) (l:List KV):Bool:=prev.may&&decide (prev.cmp st<0)&&decide (l≠[])&&decide (dB.err ⟨t,st,[],l⟩=0)
theorem H7 {w:World} {X:XS} {prev st:aK} {t:dX} {l:List KV} {a:Value} (h:Sl w X 4 a (l.map KV.l)) (hb:l.length≤2^40):
  Ct pg 122 #[prev.v,st.v,t.v,a] w X nX fun v _ _=>v=B (IG prev st t l):=by
 intro w0 hk;replace h:=h.mv hk.cL;obtain⟨b1,n1,c1,rfl⟩:=h.form;apply P4;unfold FB;have hs:=ak.init w0;repeat' first|refine aD ?_;intros|refine dD ?_ ?_<;>intros|with_reducible apply dG|((with_reducible refine dR (jc _) ?_ hs.has ?_ ?_);(· kernel_rfl);all_goals (intro _ w X aq;replace hs:=hs.trans aq))|((with_reducible refine fX (ic _ _) ?_ hs.has ?_);(· kernel_rfl);intro w X aq;replace hs:=hs.trans aq)|((first|(with_reducible refine ai hs ?_)|(with_reducible refine ai (bF.trans hs) ?_));intro wa hk;(simp_all [IG]<;>omega))|(refine dC (pw  (p:=⟨t,st,[],l⟩) (Sl.nil _ _ _) qA hb) kQ hs.has ?_;intro w X aq;replace hs:=hs.trans aq)
def V7 (x:Nat):Bool:=decide ((AA x).2=0)&&Fx (AA x).1 0&&B4 (AA x).1 MK
def pG (n:Int):Bool:=decide (n≥1)&&decide (n≤12)
def Rec.nz (r:Rec):Bool:=
 if r.kind=1 then r.state.may
 else if r.kind=2 then decide (r.n≥0)&&decide (r.n≤281474976710656)
 else if r.kind=3 then decide (dB.err ⟨r.bU,r.aw,r.reads,r.writes⟩=0)&&yj r.parts
 else if r.kind=4 then r.bU.may&&r.aw.NV r.iy
 else if r.kind=5 then r.aw.may
 else if r.kind=6 then V7 r.jP&&pG r.n&&r.aw.may
 else if r.kind=7 then pG r.n
 else if r.kind=8 then decide (r.n≥1)
 else if r.kind=9 then r.bU.may&&r.aw.MH&&yj r.parts
 else if r.kind=10 then r.bU.may
 else if r.kind=11 then IG r.prev r.aw r.bU r.writes
 else r.aw.may&&IF r.qm
theorem Qj {w:World} {X:XS} {r:Rec} {vr vw vp vq vh vd:Value} (h:r.at w X vr vw vp vq vh vd) (jr:r.small):
  Ct pg 210 #[r.v vr vw vp vq vh vd] w X nX fun v _ _=>v=B r.nz:=by
 intro w0 hk;obtain⟨h1,h2,h3,h4,h5,h6⟩:=h.mv hk.cL;obtain⟨b1,n1,c1,rfl⟩:=h1.form;obtain⟨b2,n2,c2,rfl⟩:=h2.form;apply NQ;unfold DL;have hs:=ak.init w0;repeat' first|refine aD ?_;intros|refine dD ?_ ?_<;>intros|with_reducible apply dG|((with_reducible refine dR (jc _) ?_ hs.has ?_ ?_);(· kernel_rfl);all_goals (intro _ w X aq;replace hs:=hs.trans aq))|((with_reducible refine dR (zk _) ?_ hs.has ?_ ?_);(· kernel_rfl);all_goals (intro _ w X aq;replace hs:=hs.trans aq))|((with_reducible refine dR (NW _ _) ?_ hs.has ?_ ?_);(· kernel_rfl);all_goals (intro _ w X aq;replace hs:=hs.trans aq))|((with_reducible refine fX (Qe _) ?_ hs.has ?_);(· kernel_rfl);intro w X aq;replace hs:=hs.trans aq)|((with_reducible refine dR (Qd _) ?_ hs.has ?_ ?_);(· kernel_rfl);all_goals (intro _ w X aq;replace hs:=hs.trans aq))|((with_reducible refine dR (FL _) ?_ hs.has ?_ ?_);(· kernel_rfl);all_goals (intro _ w X aq;replace hs:=hs.trans aq))|(refine eR (Cm  (s:=r.state) qA qA jr.state) kQ hs.has ?_ ?_<;>(intro _ w X aq;replace hs:=hs.trans aq))|(refine dC (pw  (p:=⟨r.bU,r.aw,r.reads,r.writes⟩) qA qA jr.writes) kQ hs.has ?_;intro w X aq;replace hs:=hs.trans aq)|(refine eR (HX  qA) kQ hs.has ?_ ?_<;>(intro _ w X aq;replace hs:=hs.trans aq))|(refine eR (Ty  qA) kQ hs.has ?_ ?_<;>(intro _ w X aq;replace hs:=hs.trans aq))|(refine eR ((H7 (l:=r.writes))  qA jr.writes) kQ hs.has ?_ ?_<;>(intro _ w X aq;replace hs:=hs.trans aq))
 all_goals
  (with_reducible refine ai hs ?_)
  intro wa bC;unfold Rec.nz;repeat (first|rw [if_pos zQ]|rw [if_neg zQ])
  simp_all [V7,pG,MK]<;>omega
def Rec.err (r:Rec):Int:=if !r.strip.2 then 7 else if !r.strip.1.isZero||!r.nz then 4 else 0
theorem MN {w:World} {X:XS} {r:Rec} {vr vw vp vq vh vd:Value} (h:r.at w X vr vw vp vq vh vd) (jr:r.small):
  Ct pg 166 #[r.v vr vw vp vq vh vd] w X nX fun v _ _=>v=I r.err:=by
 intro w0 hk;have h:=h.mv hk.cL;apply UL;unfold Kj;have hs:=ak.init w0;refine ek (NZ h) kQ hs.has ?_;rintro v wa w X ⟨Tz,oE,TA,vq',TB,TC,rfl,fm⟩ hle eD aq;replace hs:=hs.trans aq;have q1:=fm.1.one;have q2:=fm.2.1.one;have q3:=fm.2.2.1.one;have q4:=fm.2.2.2.1.one;have q5:=fm.2.2.2.2.1.one;have q6:=fm.2.2.2.2.2.one;cases hb:r.strip.2<;>
 repeat' first|refine aD ?_;intros|with_reducible apply dG|((first|(with_reducible refine ai hs ?_)|(with_reducible refine ai (bF.trans hs) ?_));intro wa hk;(simp [Rec.err, *]))|(refine eR (US  (r:=r.strip.1) qA) kQ hs.has ?_ ?_<;>(intro _ w X aq;replace hs:=hs.trans aq))|(refine eR ((Qj (r:=r))  (h.mv (ak.mv hs)) jr) kQ hs.has ?_ ?_<;>(intro _ w X aq;replace hs:=hs.trans aq))
structure nU where
 p:dB
 fY:Int
 br:Option Nat
 bw:Option Nat
abbrev nU.v (x:nU) (vr vw:Value):Value:=.agg #[I x.p.bU.iH,I x.p.bU.lg,I x.p.bU.sq,I x.p.aw.wall,I x.p.aw.dp,I x.p.aw.node,vr,vw,I x.fY]
def e7 (w:World) (A:XS) (v:Value) (x:nU):Prop:= ∃vr vw,v=x.v vr vw∧Own w A 0 9 1 vr (x.p.reads.map S1)∧Own w A 0 118 4 vw (x.p.writes.map KV.l)∧
 vr.ownBlock=x.br∧vw.ownBlock=x.bw
theorem e7.mv:oB e7:=fun _ _ _ _ _ _ ⟨vr,vw,h,h1,h2,h3⟩ m=>⟨vr,vw,h,h1.mv m,h2.mv m,h3⟩
def CX (a b:Option Nat):Prop:= ∀g,a=some g→b≠some g
def nU.sep (x y:nU):Prop:=CX x.br y.br∧CX x.br y.bw∧CX x.bw y.br∧CX x.bw y.bw
structure iv where
 id:Int
 next:Int
 closed:aK
abbrev eE:=List (dX×nU)
structure df (w:World) (X A:XS) (tb mb:Nat) (s:iv) (m:eE):Prop where
 box:bI w X tb [I s.id,I s.next,I s.closed.wall,I s.closed.dp,I s.closed.node,.map (some mb)] 174
 lX:fy w X A mb (fun k:dX=>k.v) e7 m
 sub: ∀k,A k→X k
 off: ∀k,A k→k≠tb∧k≠mb
 ne:tb≠mb
theorem df.mv {w w':World} {X Y A:XS} {tb mb:Nat} {s:iv} {m:eE} (h:df w X A tb mb s m) (hX: ∀k,X k→k<w.heap.size) (v:Mv X w Y w'):df w' Y A tb mb s m:=by
 have ma:Mv A w A w':=fun k hk hl=>⟨hk,(v k (h.sub k hk) hl).2⟩;exact⟨h.box.mv v,h.lX.mv e7.mv v ma,fun k hk=>(v k (h.sub k hk) (hX k (h.sub k hk))).1,h.off,h.ne⟩
theorem df.grow {w:World} {X A A':XS} {tb mb:Nat} {s:iv} {m:eE} (h:df w X A tb mb s m) (hA: ∀k,A k→A' k) (hs: ∀k,A' k→X k∧k≠tb∧k≠mb):df w X A' tb mb s m:=
 ⟨h.box,h.lX.mv e7.mv (Mv.refl _ _) (Mv.sub hA),fun k hk=>(hs k hk).1,fun k hk=>(hs k hk).2,h.ne⟩
theorem yt {w:World} {X A:XS} {tb mb:Nat} {s:iv} {m:eE} (h:df w X A tb mb s m) (hX: ∀k,X k→k<w.heap.size):
  Ct pg 48 #[ptr tb 0] w X nX fun v _ _=>v=I s.next:=by
 intro w0 hk;replace h:=h.mv hX hk.cL;have eX:=h.box;apply Jj;unfold zR;have hs:=ak.init w0;repeat' first|refine aD ?_;intros|((first|(with_reducible refine ai hs ?_)|(with_reducible refine ai (bF.trans hs) ?_));intro wa hk;rfl)
def BG (n:Int) (m:eE):Int:=m.foldl (fun n x=>min n x.2.fY) n
def vZ (s:aK) (m:eE):aK:=m.foldl (fun s x=>if x.2.p.aw.qf.1.cmp s<0 then x.2.p.aw.qf.1 else s) s
theorem LV {w:World} {X:XS} (id next:Int):
  Ct pg 44 #[I id,I next] w X nX fun v wa w'=>
   if id<1∨id>12∨next<1∨next>100000000 then v= .tuple #[.pointer none,I 1]
   else∃tb mb,v= .tuple #[ptr tb 0,I 0]∧df w' (made wa w') nX tb mb ⟨id,next,.zero⟩ []:=by
 intro w0 hk;apply UG;unfold Ke;have hs:=ak.init w0;repeat' first|refine aD ?_;intros|refine dD ?_ ?_<;>intros|((first|(with_reducible refine ai hs ?_)|(with_reducible refine ai (bF.trans hs) ?_));intro wa hk;(dsimp only;rw [if_pos zQ]))
 refine sf (kv:=fun k:dX=>k.v) e7 nX hs.has fun mb w1 X1 OW aq rr=>?_;have ah5:=rr.x;replace hs:=hs.trans aq;have Wi:=hs.kp.size;repeat' first|refine aD ?_;intros|(with_reducible apply ns);(case hX=>exact hs.has);intro bx w X eX aq bE;have bF:=hs.trans aq;replace hs:=ak.iS aq.has
 refine ai (bF.trans hs) ?_;intro wa hk;dsimp only;rw [if_neg zQ];have Ro:=(bE.kp hk).lt;have l8:= ‹ak X1 w1 _ _›.kp.trans (hk.less ‹ak X1 w1 _ _›.sub);have aeo:=l8.size;exact⟨bx,mb,rfl,bE.own.mv (Mv.one hk bE.1 ⟨by omega,Ro⟩),rr.own.mv e7.mv (Mv.one l8 ah5.1 ⟨OW,by omega⟩) (fun _ h=>h.elim),fun k hk=>hk.elim,fun k hk=>hk.elim,by omega⟩
theorem XR (p q s:aK):(if q.cmp (if p.cmp s<0 then p else s)<0 then q else(if p.cmp s<0 then p else s))=(if p.cmp (if q.cmp s<0 then q else s)<0 then p else(if q.cmp s<0 then q else s)):=by
 have key: ∀a b:aK,a.cmp b<0↔(a.wall<b.wall∨a.wall=b.wall∧(a.dp<b.dp∨a.dp=b.dp∧a.node<b.node)):=by
  intro a b;simp only [aK.cmp];grind
 have ext: ∀a b:aK,a.wall=b.wall→a.dp=b.dp→a.node=b.node→a=b:=fun a b h1 h2 h3=>aK.ext h1 h2 h3;by_cases h1:p.cmp s<0<;>by_cases h2:q.cmp s<0<;>simp only [h1,h2,if_true,if_false]
 ·by_cases h3:q.cmp p<0<;>by_cases h4:p.cmp q<0<;>simp only [h3,h4,if_true,if_false]
  ·rw [key] at h3 h4;omega
  ·rw [key] at h3 h4;exact(ext _ _ zQ zQ zQ).symm
 ·by_cases h3:q.cmp p<0
  ·rw [key] at h1 h2 h3;omega
  ·simp only [h3,if_false]
 ·by_cases h3:p.cmp q<0
  ·rw [key] at h1 h2 h3;omega
  ·simp only [h3,if_false]
theorem TG {l:eE} {k:dX} {a:nU} (u:Int) (hn:(l.map (·.1)).Nodup) (h:(k,a)∈l):BG u l=BG (min u a.fY) (l.filter fun y=>decide (y.1≠k)):=
 Mo (f:=fun n (x:dX×nU)=>min n x.2.fY) (fun s x y=>by omega) u hn h
theorem UU {l:eE} {k:dX} {a:nU} (u:aK) (hn:(l.map (·.1)).Nodup) (h:(k,a)∈l):
  vZ u l=vZ (if a.p.aw.qf.1.cmp u<0 then a.p.aw.qf.1 else u) (l.filter fun y=>decide (y.1≠k)):=
 Mo (f:=fun s (x:dX×nU)=>if x.2.p.aw.qf.1.cmp s<0 then x.2.p.aw.qf.1 else s) (fun s x y=>XR _ _ _) u hn h
theorem Ur {w:World} {X A:XS} {tb mb:Nat} {s:iv} {m:eE} (h:df w X A tb mb s m) (hX: ∀k,X k→k<w.heap.size):
  Ct pg 54 #[ptr tb 0] w X nX fun v _ _=>v=I (BG s.next m):=by
 intro w0 hk;replace h:=h.mv hX hk.cL;have eX:=h.box;apply Jk;unfold zS;have hs:=ak.init w0;repeat' first|refine aD ?_;intros
 refine Iz (kt:=32) (et:=184) h.lX e7.mv h.sub kQ hs.has fun r w X hr aq rM=>?_;replace hs:=hs.trans aq;refine eG (fun n a w X=> ∃(left:eE) (u:Int),a=I u∧n=left.length∧ak (aS w0) w0 X w∧tj w X A r mb (fun k:dX=>k.v) e7 m left∧BG s.next m=BG u left)
  m.length ⟨m,_,rfl,rfl,hs,rM,rfl⟩ ?_
 rintro n a w X ⟨left,u,rfl,rfl,hs,rM,hw⟩;refine Mp rM e7.mv (fun k hk=>⟨hs.sub k (h.sub k hk),fun e=>by have:k<w0.heap.size:=h.sub k hk;omega⟩) hs.has (fun e0 w X aq=>?_) fun kx q v gR w1 X1 hc mj CW he=>?_
 ·replace hs:=hs.trans aq;repeat' first|refine aD ?_;intros|((first|(with_reducible refine ai hs ?_)|(with_reducible refine ai (bF.trans hs) ?_));intro wa hk;(rw [hw,e0];rfl))
 ·have bF:=hs.dF hc fun k hk e=>by have:k<w0.heap.size:=hk;omega
  have Kq: ∀k,A k→X1 k:=fun k hk=>bF.sub k (h.sub k hk);obtain⟨ur,uw,rfl,q1,q2,q3⟩:=mj;have o1:=q1.sl.one;have o2:=q2.sl.one;rw [TG u rM.nodup gR] at hw;replace hs:=ak.iS bF.has;repeat' first|refine aD ?_;intros
  refine IA hs.has he fun w X aq=>?_;replace hs:=hs.trans aq;repeat' first|refine aD ?_;intros
  exact ep _ (Iy gR) ⟨_,_,rfl,rfl,bF.trans hs,CW.mv e7.mv (ak.mv hs) (ak.j6 hs Kq),hw⟩
theorem BX {w:World} {X A:XS} {tb mb:Nat} {s:iv} {m:eE} (h:df w X A tb mb s m) (hX: ∀k,X k→k<w.heap.size):
  Ct pg 82 #[ptr tb 0] w X nX fun v _ _=>v=(vZ s.closed m).v:=by
 intro w0 hk;replace h:=h.mv hX hk.cL;have eX:=h.box;apply DT;unfold vm;have hs:=ak.init w0;repeat' first|refine aD ?_;intros
 refine Iz (kt:=32) (et:=184) h.lX e7.mv h.sub kQ hs.has fun r w X hr aq rM=>?_;replace hs:=hs.trans aq;refine eG (fun n a w X=> ∃(left:eE) (u:aK),a=u.v∧n=left.length∧ak (aS w0) w0 X w∧tj w X A r mb (fun k:dX=>k.v) e7 m left∧vZ s.closed m=vZ u left)
  m.length ⟨m,_,rfl,rfl,hs,rM,rfl⟩ ?_
 rintro n a w X ⟨left,u,rfl,rfl,hs,rM,hw⟩;refine Mp rM e7.mv (fun k hk=>⟨hs.sub k (h.sub k hk),fun e=>by have:k<w0.heap.size:=h.sub k hk;omega⟩) hs.has (fun e0 w X aq=>?_) fun kx q v gR w1 X1 hc mj CW he=>?_
 ·replace hs:=hs.trans aq;repeat' first|refine aD ?_;intros|((first|(with_reducible refine ai hs ?_)|(with_reducible refine ai (bF.trans hs) ?_));intro wa hk;(rw [hw,e0];rfl))
 ·have bF:=hs.dF hc fun k hk e=>by have:k<w0.heap.size:=hk;omega
  have Kq: ∀k,A k→X1 k:=fun k hk=>bF.sub k (h.sub k hk);obtain⟨ur,uw,rfl,q1,q2,q3⟩:=mj;have o1:=q1.sl.one;have o2:=q2.sl.one;rw [UU u rM.nodup gR] at hw;replace hs:=ak.iS bF.has;repeat' first|refine aD ?_;intros|with_reducible apply dG
  refine IA hs.has he fun w X aq=>?_;replace hs:=hs.trans aq;repeat' first|refine aD ?_;intros|refine dD ?_ ?_<;>intros|((with_reducible refine fX (ic _ _) ?_ hs.has ?_);(· kernel_rfl);intro w X aq;replace hs:=hs.trans aq)|((with_reducible refine fX (UP _) ?_ hs.has ?_);(· kernel_rfl);intro w X aq;replace hs:=hs.trans aq)
  all_goals
   refine ep _ (Iy gR) ⟨_,_,?_,rfl,bF.trans hs,CW.mv e7.mv (ak.mv hs) (ak.j6 hs Kq),hw⟩
  all_goals simp [*]
def jL (s:iv) (m:eE) (n:Int) (r:Rec):Int:=
 if n≠s.next∨n>99999999 then 14
 else if r.err≠0 then 4
 else if r.kind=1 then(if r.state.range.id≠s.id then 4 else if r.state.eA.any (fun p=>(getM p.bU m).isSome)then 9 else 0)
 else if r.kind=3 then(if(getM r.bU m).isSome then 9 else 0)
 else if r.kind=2∨r.kind=4∨r.kind=5∨r.kind=6∨r.kind=7 then 0 else 4
theorem XT {w:World} {X A:XS} {tb mb:Nat} {s:iv} {m:eE} {n:Int} {r:Rec} {vr vw vp vq vh vd:Value} (h:df w X A tb mb s m) (hX: ∀k,X k→k<w.heap.size)
  (ha:r.at w X vr vw vp vq vh vd) (jr:r.small):
  Ct pg 123 #[ptr tb 0,I n,r.v vr vw vp vq vh vd] w X nX fun v _ _=>v=I (jL s m n r):=by
 intro w0 hk;replace h:=h.mv hX hk.cL;replace ha:=ha.mv hk.cL;have eX:=h.box;have h6:=ha.2.2.2.2.2;have hl6:=h6.len;apply Lg;unfold By;have hs:=ak.init w0;have zo:Value:=.agg #[I 0,I 0,I 0,I 0,I 0,I 0,.slice none 0 0,.slice none 0 0,I 0];repeat' first|refine aD ?_;intros|refine dD ?_ ?_<;>intros|with_reducible apply dG|((first|(with_reducible refine ai hs ?_)|(with_reducible refine ai (bF.trans hs) ?_));intro wa hk;(simp [jL, *]<;>omega))|(refine dC ((MN (r:=r))  qA jr) kQ hs.has ?_;intro w X aq;replace hs:=hs.trans aq)
 ·refine eG (fun n a w X=> ∃i:Nat,a=I (i:Nat)∧n=r.state.eA.length-i∧i≤r.state.eA.length∧ak (aS w0) w0 X w∧
   r.state.eA.any (fun p=>(getM p.bU m).isSome)=(r.state.eA.drop i).any (fun p=>(getM p.bU m).isSome)) r.state.eA.length ⟨0,rfl,rfl,aN _,hs,by simp⟩ ?_
  rintro n a w X ⟨i,rfl,rfl,hi,hs,hw⟩;rcases eb (r.state.eA) i with⟨cK,x,hx,hd⟩|⟨dU,hd⟩
  ·rw [hd,iK] at hw;repeat' first|refine bO ?_;intros|((with_reducible apply IE);assumption;(try (case hz=>rfl));(case hr=>exact qR);(try (case hz=>omega));(case ht=>kernel_rfl);(case hs=>kernel_rfl);intros)
   refine oS (kv:=fun k:dX=>k.v) (k:=x.bU) (kt:=32) (et:=184) (.agg #[I 0,I 0,I 0,I 0,I 0,I 0,.slice none 0 0,.slice none 0 0,I 0]) (h.mv (fun _ h=>h) (ak.mv hs)).lX s7 kQ kQ (fun v q hg mj=>?_) fun hg=>?_
   ·obtain⟨ur,uw,rfl,q1,q2,q3⟩:=mj;have o1:=q1.sl.one;have o2:=q2.sl.one;repeat' first|refine aD ?_;intros|((first|(with_reducible refine ai hs ?_)|(with_reducible refine ai (bF.trans hs) ?_));intro wa hk;(simp [jL,hw,hg, *]<;>omega))
   ·repeat' first|refine aD ?_;intros|((with_reducible refine ep ((r.state.eA).length-(i+1)) ?_ ?_);omega;exact⟨i+1,by simp,rfl,by omega,hs,by rw [hw,hg];rfl⟩)
  ·rw [hd] at hw;repeat' first|refine bO ?_;intros|((first|(with_reducible refine ai hs ?_)|(with_reducible refine ai (bF.trans hs) ?_));intro wa hk;(simp [jL,hw, *]<;>omega))
 ·refine oS (kv:=fun k:dX=>k.v) (k:=r.bU) (kt:=32) (et:=184) (.agg #[I 0,I 0,I 0,I 0,I 0,I 0,.slice none 0 0,.slice none 0 0,I 0]) (h.mv (fun _ h=>h) (ak.mv hs)).lX s7 kQ kQ (fun v q hg mj=>?_) fun hg=>?_
  ·obtain⟨ur,uw,rfl,q1,q2,q3⟩:=mj;have o1:=q1.sl.one;have o2:=q2.sl.one;repeat' first|refine aD ?_;intros|((first|(with_reducible refine ai hs ?_)|(with_reducible refine ai (bF.trans hs) ?_));intro wa hk;(simp [jL,hg, *]<;>omega))
  ·repeat' first|refine aD ?_;intros|((first|(with_reducible refine ai hs ?_)|(with_reducible refine ai (bF.trans hs) ?_));intro wa hk;(simp [jL,hg, *]<;>omega))
def below (pt:Nat) (k:BA):Bool:=B4 (placeOf k) pt
theorem TH {w:World} {X:XS} {a:Value} {xs:List KV} {pt:Nat} (ha:Sl w X 4 a (xs.map KV.l)) (hb:xs.length≤2^40) (hkz: ∀x∈xs,x.key.size≤2^40):
  Ct pg 168 #[a,.float .f64 pt] w X nX fun v wa w'=> ∃va vb,v= .tuple #[va,vb]∧
   Own w' (made wa w') wa.heap.size 118 4 va ((xs.filter fun x=>below pt x.key).map KV.l)∧Own w' (made wa w') wa.heap.size 118 4 vb ((xs.filter fun x=>!below pt x.key).map KV.l):=by
 intro w0 hk;replace ha:=ha.mv hk.cL;have iV:=ha.gz;apply P7;unfold FE;have hs:=ak.init w0;repeat' first|refine aD ?_;intros
 refine A7 (fun n a b c w X=> ∃i:Nat,a=I (i:Nat)∧n=xs.length-i∧i≤xs.length∧ak (aS w0) w0 X w∧
  Own w X w0.heap.size 118 4 b (((xs.take i).filter fun x=>!below pt x.key).map KV.l)∧Own w X w0.heap.size 118 4 c (((xs.take i).filter fun x=>below pt x.key).map KV.l)∧CX c.ownBlock b.ownBlock)
  xs.length ⟨0,rfl,rfl,aN _,hs,by simpa using Own.nil _ _ _ _ _,by simpa using Own.nil _ _ _ _ _,by intro g hg;cases hg⟩ ?_
 rintro n a b c w X ⟨i,rfl,rfl,hi,hs,DY,RO,ju⟩;rcases eb (xs) i with⟨cK,x,hx,hd⟩|⟨dU,hd⟩
 ·have hkx:=hkz x (aA hx);have zu:((xs.take i).filter fun x=>!below pt x.key).length≤i:=af (eH _ _) (by simp;omega);have hlc:((xs.take i).filter fun x=>below pt x.key).length≤i:=af (eH _ _) (by simp;omega);repeat' first|refine bO ?_;intros|refine dD ?_ ?_<;>intros|((with_reducible apply V4);(case own=>first|assumption|exact Own.since (by assumption) (by assumption));(case hs=>assumption);(case h0=>first|exact fun _ h=>h|exact bF.has);(case he=>kernel_rfl);(case hk=>rfl);(case h1=>exact qE);(case hb=>(simp only [ay,aW,ae,bP,dj];omega));(case hl=>(simp only [ay,aW,ae,bP,dj];omega));intro acc w X aq ho hc fm;replace hs:=aq)|with_reducible apply dG|((with_reducible refine fX (E5 _ (by first|assumption|omega)) ?_ hs.has ?_);(· kernel_rfl);intro w X aq;replace hs:=hs.trans aq)
  ·have Pv:below pt x.key=true:= ‹B4 (placeOf x.key) pt=true›;have N5:=DY.since (by assumption);have ah6:=N5.dF hc (fun g hg Kr=>ju g Kr hg);refine yU (xs.length-(i+1)) zQ ⟨i+1,by simp,rfl,by omega,hs,?_,?_,?_⟩
   ·rw [bc,hx];simpa [ea,Pv] using ah6
   ·rw [bc,hx];simpa [ea,Pv] using ho
   ·rcases fm with e|⟨g,e,dU⟩
    ·rw [e];exact ju
    ·intro g' gl fF;rw [e] at gl;cases gl;have:=(N5.ge fF).2;omega
  ·have Pv:below pt x.key=false:= ‹B4 (placeOf x.key) pt=false›;have Eu:=RO.since (by assumption);have WC:=Eu.dF hc (fun g hg Kr=>ju g hg Kr);refine yU (xs.length-(i+1)) zQ ⟨i+1,by simp,rfl,by omega,hs,?_,?_,?_⟩
   ·rw [bc,hx];simpa [ea,Pv] using ho
   ·rw [bc,hx];simpa [ea,Pv] using WC
   ·rcases fm with e|⟨g,e,dU⟩
    ·rw [e];exact ju
    ·intro g' gl fF;rw [e] at fF;cases fF;have:=(Eu.ge gl).2;omega
 ·rw [aY dU] at DY RO;repeat' first|refine bO ?_;intros|((first|(with_reducible refine ai hs ?_)|(with_reducible refine ai (bF.trans hs) ?_));intro wa hk;(exact⟨_,_,rfl,(RO.kp hk).tight,(DY.kp hk).tight⟩))
theorem Ju {w:World} {X A:XS} {a:Value} {xs:List BA} {f:FuncId} {cs:List Value} {p:BA→Bool} (ha:Sl w X 1 a (xs.map S1)) (hX: ∀k,X k→k<w.heap.size) (hA: ∀k,A k→X k) (hf:enters pg f=true)
  (hp: ∀x∈xs,Ct pg f ((.string x)::cs).toArray w A nX fun v _ _=>v=B (p x)):
  Ct pg 211 #[a,.func (.func f) #[] cs.toArray] w X nX fun v _ _=>v=I (idxOf p xs):=by
 intro w0 hk;replace ha:=ha.mv hk.cL;replace hp:=fun x hx=>(hp x hx).kp (hk.less hA);replace hA:=fun k ah=>aI (hX k (hA k ah)) hk.size;have iV:=ha.gz;apply sw;unfold me;have hs:=ak.init w0;repeat' first|refine aD ?_;intros
 refine eG (fun n a w X=> ∃i:Nat,a=I (i:Nat)∧n=(xs).length-i∧i≤(xs).length∧ak (aS w0) w0 X w∧(∀(j:Nat) x,j<i→xs[j]? =some x→p x=false)) (xs).length ⟨0,rfl,rfl,aN _,hs,by simp⟩ ?_;rintro n a w X ⟨i,rfl,rfl,hi,hs,hw⟩;rcases eb (xs) i with⟨cK,x,hx,hd⟩|⟨dU,hd⟩
 ·have Dh:=hp x (aA hx);repeat' first|refine bO ?_;intros|((first|(with_reducible refine ai hs ?_)|(with_reducible refine ai (bF.trans hs) ?_));intro wa hk;(rw [uy hw hx ‹_›]))|((with_reducible refine ep ((xs).length-(i+1)) ?_ ?_);omega;exact⟨i+1,by simp,rfl,by omega,hs,fun j y hj hy=>by rcases Nat.lt_succ_iff_lt_or_eq.1 hj with h|h;exact hw j y h hy;subst h;rw [hx] at hy;cases hy;assumption⟩)|(refine eR (Dh.since (hs.less hA)) hf hs.has ?_ ?_<;>(intro _ w X aq;replace hs:=hs.trans aq))
 ·repeat' first|refine bO ?_;intros|((first|(with_reducible refine ai hs ?_)|(with_reducible refine ai (bF.trans hs) ?_));intro wa hk;(rw [qg fun j x hj hx=>hw j x zQ hx]))
theorem CY (xs:List BA):(xs.map S1).flatten=xs.map dm:=by
 induction xs with
 |nil=>rfl
 |cons x l ih=>simp [ih]
theorem H8 {w:World} {X A:XS} {lo:Nat} {v:Value} {xs:List BA} {f:FuncId} {cs:List Value} {p:BA→Bool} (own:Own w X lo 9 1 v (xs.map S1)) (hX: ∀k,X k→k<w.heap.size)
  (hA: ∀k,A k→X k∧ ¬dK v k) (hf:enters pg f=true)
  (hp: ∀x∈xs,Ct pg f ((.string x)::cs).toArray w A nX fun v _ _=>v=B (p x)):
  Ct pg 169 #[v,.func (.func f) #[] cs.toArray] w X (dK v) fun v' _ w'=>
   Own w' (dK v) lo 9 1 v' ((xs.filter fun x=>!p x).map S1)∧v'.ownBlock=v.ownBlock:=by
 intro w0 hk;have Vb:=hp;replace own:=own.mv hk.cL;replace hp:=fun x hx=>(hp x hx).kp (hk.less fun k h=>(hA k h).1);replace hA: ∀k,A k→out (dK v) w0 k:=fun k ah=>⟨aI (hX k (hA k ah).1) hk.size,(hA k ah).2⟩;have iV:=own.sl.gz;apply rV;unfold lJ;have hs:=ak.out (dK v) w0;refine dC (Ju own.sl hs.has (fun k h=>(hA k h).1) hf hp) kQ hs.has fun w X aq=>?_;have vV:=own.since aq;replace hs:=hs.trans aq;repeat' first|refine aD ?_;intros|refine dD ?_ ?_<;>intros
 ·have hi:= ‹idxOf p xs= -1›;refine mX hs fun wa hk=>⟨?_,rfl⟩;have pz: ∀x∈xs,p x=false:=by
   have:=pU p xs;rw [hi] at this;intro x hx;have h2:xs.any p=false:=this.symm;simpa using List.any_eq_false.1 h2 x hx
  have:xs.filter (fun x=>!p x)=xs:=List.filter_eq_self.2 fun x hx=>by simp [pz x hx]
  rw [this];exact⟨vV.1,(vV.kp hk).2.1,fun g hg=>hg⟩
 ·obtain⟨i0,x0,YZ,LM,Rq,Rr⟩:=Ag ‹¬idxOf p xs= -1›;have Rs:i0<xs.length:=(List.getElem?_eq_some_iff.1 LM).1;rw [YZ];rcases vV.row with⟨_,he⟩|⟨g,cap,cells,hv,eo,bE,jh,iB,oz,iE⟩
  ·have:xs=[]:=by simpa using he
   subst this;simp at Rs
  rw [ay] at hv jh iE;rw [CY,kN] at iE;rw [kN] at oz;subst hv;have hblk: ∀k,dK (.slice (some ⟨g,0,none⟩) xs.length cap) k↔k=g:=fun k=>⟨fun h=>by simpa [dK,Value.ownBlock] using h.symm,fun h=>by subst h;rfl⟩;clear own vV;repeat' first|refine aD ?_;intros
  refine gb (fun n a b w X=> ∃(j i:Nat) (ys:List BA) (cells:List Value),a=I j∧b=I i∧n=xs.length-j∧i<j∧j≤xs.length∧ys.length=xs.length∧ys.take i=(xs.take j).filter (fun x=>!p x)∧ys.drop j=xs.drop j∧
   ak (out (dK (.slice (some ⟨g,0,none⟩) xs.length cap)) w0) w0 X w∧bI w X g cells 9∧cells.length=cap∧cells.take xs.length=ys.map dm)
   (xs.length-(i0+1)) ⟨i0+1,i0,xs,cells,by simp,rfl,rfl,by omega,by omega,rfl,?_,rfl,hs,bE,oz,iE⟩ ?_
  ·rw [bc,LM];simp only [Option.toList_some,ea,List.filter_cons,Rq,Bool.not_true,Bool.false_eq_true,if_false,List.filter_nil,List.append_nil];exact(List.filter_eq_self.2 fun y hy=>by simp [Rr y hy]).symm
  rintro n a b w X ⟨j,i,ys,cells,rfl,rfl,rfl,yK,hj,zx,rD,BV,hs,bE,oz,iE⟩;have Rt:Own w X lo 9 1 (.slice (some ⟨g,0,none⟩) xs.length cap) (ys.map S1):=
   Own.vM bE eo (by simp) (by simpa using zx) jh iB (by simpa using oz) (by rw [CY,kN];exact iE)
  rcases eb xs j with⟨cK,x,hx,hd⟩|⟨dU,hd⟩
  ·have hy:ys[j]? =some x:=by
    have:(ys.drop j)[0]? =some x:=by rw [BV,hd];rfl
    simpa using this
   have Dh:=hp x (aA hx);have OU:ys.drop (j+1)=xs.drop (j+1):=by
    have:=congrArg List.tail BV;simpa using this
   repeat' first|refine bO ?_;intros|with_reducible apply dG|(refine eR (Dh.since (hs.less hA)) hf hs.has ?_ ?_<;>(intro _ w X aq;replace hs:=hs.trans aq;clear Rt))
   ·refine eM (xs.length-(j+1)) zQ ⟨j+1,i,ys,cells,by simp,rfl,rfl,by omega,by omega,zx,?_,OU,hs,bE.since (by assumption),oz,iE⟩;rw [bc,hx,rD];simp [*]
   ·have Y5:= ‹p x=false›;have kl:=bE.since (by assumption);refine Qr (i:=i) rfl zQ kQ kQ ?_;rw [kN];refine qh kl kQ zQ rfl rfl hs.has fun w3 X3 hc gY=>?_;have dZ:=hs.dF hc fun k hk e=>hk.2 ((hblk k).2 e);rw [show(dm x).cells.toList=[.string x] from rfl,KE zQ] at gY;replace hs:=dZ;repeat' first|refine aD ?_;intros
    have tL:i<ys.length:=by omega
    refine eM (xs.length-(j+1)) zQ ⟨j+1,i+1,ys.set i x,cells.set i (.string x),by simp,by simp,rfl,by omega,by omega,by simpa using zx,?_,?_,hs,gY,by simpa using oz,?_⟩
    ·rw [bc (l:=xs),hx,ea,←rD];have:(ys.set i x).take (i+1)=ys.take i++[x]:=by
      rw [bc,List.take_set_of_le (Nat.le_refl _)];simp [tL]
     rw [this];simp [Y5]
    ·rw [List.drop_set_of_lt zQ];exact OU
    ·rw [List.take_set,iE,List.map_set]
  ·have Vo:i≤xs.length:=by omega
   have tO:ys.take i=xs.filter fun x=>!p x:=by rw [rD,aY dU]
   repeat' first|refine bO ?_;intros
   refine Ru (k:=1) (i:=i) rfl Vo jh kQ kQ ?_;refine adH (e:=9) (z:=.string ⟨#[]⟩) (o:=i) bE kQ kQ rfl zQ hs.has _ (by
    by_cases Q5:cap=i
    ·right;omega
    ·left;rw [if_neg Q5,kN]) fun w3 X3 hc gY=>?_
   have dZ:=hs.dF hc fun k hk e=>hk.2 ((hblk k).2 e);refine yL (i:=i) rfl zQ kQ kQ ?_;refine mX dZ fun wa bC=>⟨?_,rfl⟩;have hlen:(xs.filter fun x=>!p x).length=i:=by rw [←tO,aW];omega
   have:=Own.vM (k:=1) (lo:=lo) (cap:=cap) (n:=i) (rows:=(xs.filter fun x=>!p x).map S1) (gY.kp bC) eo (by intro r hr;obtain⟨y,_,rfl⟩:=List.mem_map.1 hr;rfl) (by simpa using hlen) zQ iB (by
     rw [kN];unfold cz;simp;omega) (by
     rw [CY,kN,←tO];unfold cz;rw [List.append_assoc,List.take_append_of_le_length (by rw [aW];omega),List.take_take,Nat.min_self];have:=congrArg (List.take i) iE;rw [List.take_take,Nat.min_eq_left Vo] at this;rw [this,List.map_take])
   exact⟨this.1,this.2.1,fun g' gl=>gl⟩
theorem Own.loc {w w':World} {X Y:XS} {lo e k:Nat} {v:Value} {rows:List (List Value)} (h:Own w X lo e k v rows) (hm: ∀g,v.ownBlock=some g→Y g∧w'.heap[g]? =w.heap[g]?):Own w' Y lo e k v rows:=
 Own.mv (X:=dK v) ⟨h.1,h.2.1,fun _ hg=>hg⟩ fun g hg _=>hm g hg
theorem e7.loc {w w':World} {A A':XS} {v:Value} {x:nU} (h:e7 w A v x) (hm: ∀g,x.br=some g∨x.bw=some g→A' g∧w'.heap[g]? =w.heap[g]?):e7 w' A' v x:=by
 obtain⟨vr,vw,hv,h1,h2,h3,h4⟩:=h;exact⟨vr,vw,hv,Own.loc h1 fun g hg=>hm g (.inl (h3▸hg)),Own.loc h2 fun g hg=>hm g (.inr (h4▸hg)),h3,h4⟩
theorem e7.dK {w:World} {A:XS} {v:Value} {x:nU} (h:e7 w A v x) {g:Nat} (hg:x.br=some g∨x.bw=some g):A g∧g<w.heap.size:=by
 obtain⟨vr,vw,hv,h1,h2,h3,h4⟩:=h;rcases hg with hg|hg
 ·exact⟨h1.2.2 g (h3.trans hg),(h1.ge (h3.trans hg)).2⟩
 ·exact⟨h2.2.2 g (h4.trans hg),(h2.ge (h4.trans hg)).2⟩
theorem fy.all {κ α:Type} [DecidableEq κ] {w:World} {X A:XS} {b:Nat} {kv:κ→Value} {rd:World→XS→Value→α→Prop} {l:List (κ×α)} (h:fy w X A b kv rd l): ∀x∈l,∃v,rd w A v x.2:=by
 obtain⟨es,c,h1,h2⟩:=h;clear h1 c
 induction es generalizing l with
 |nil=>cases l with
  |nil=>intro x hx;cases hx
  |cons y l=>exact h2.elim
 |cons e es ih=>cases l with
  |nil=>exact h2.elim
  |cons y l=>
   intro x hx;rcases List.mem_cons.1 hx with rfl|hx
   ·exact⟨_,h2.2.1⟩
   ·exact ih h2.2.2 x hx
def fZ (m:eE):XS:=fun k=> ∃x∈m,x.2.br=some k∨x.2.bw=some k
structure qi (m:eE):Prop where
 two: ∀x∈m,CX x.2.br x.2.bw
 all: ∀x∈m,∀y∈m,y.1≠x.1→x.2.sep y.2
theorem CX.symm {a b:Option Nat} (h:CX a b):CX b a:=fun g hb ha=>h g ha hb
theorem nU.sep.symm {x y:nU} (h:x.sep y):y.sep x:=⟨h.1.symm,h.2.2.1.symm,h.2.1.symm,h.2.2.2.symm⟩
structure dB.ok (p:dB):Prop where
 r:p.reads.length≤2^40
 w:p.writes.length≤2^40
 rk: ∀k∈p.reads,k.size≤2^40
 wk: ∀x∈p.writes,x.key.size≤2^40
def Py (m:eE):Prop:= ∀x∈m,x.2.p.ok
abbrev cont (m:eE):List (dX×dB×Int):=m.map fun x=>(x.1,x.2.p,x.2.fY)
def abR (pt:Nat) (k:BA):Bool:=!(Fx (placeOf k) pt||zN (placeOf k) pt)
def dB.cut (pt:Nat) (p:dB):dB:= { p with reads:=p.reads.filter (abR pt),writes:=p.writes.filter fun x=>below pt x.key }
theorem dB.aaa {pt:Nat} {p:dB} (h:p.ok):(p.cut pt).ok:=
 ⟨af (eH _ _) h.r,af (eH _ _) h.w,fun k hk=>h.rk k (List.mem_filter.1 hk).1,fun x hx=>h.wk x (List.mem_filter.1 hx).1⟩
theorem MO {w:World} {X:XS} {r:Rec} {vr vw vp vq vh vd:Value} {k:BA} {b:Nat} (h:Cells w X b 0 (r.l vr vw vp vq vh vd)) (ah:k.size≤2^62):
  Ct pg 170 #[.string k,ptr b 0] w X nX fun v _ _=>v=B (Fx (placeOf k) r.jP||zN (placeOf k) r.jP):=by
 intro w0 hk;replace h:=h.mv hk.cL;apply DU;unfold vn;have hs:=ak.init w0;repeat' first|refine aD ?_;intros|refine dD ?_ ?_<;>intros|((with_reducible refine fX (E5 _ (by first|assumption|omega)) ?_ hs.has ?_);(· kernel_rfl);intro w X aq;replace hs:=hs.trans aq)|((first|(with_reducible refine ai hs ?_)|(with_reducible refine ai (bF.trans hs) ?_));intro wa hk;(simp_all<;>grind))
theorem Pz {k:dX} {a:nU} : ∀{l:eE},(l.map (·.1)).Nodup→(∃q,getM k l=some q)→cont (bM k a l)=(cont l).map fun e=>if e.1=k then(k,a.p,a.fY)else e
 |[],_,⟨q,h⟩=>by cases h
 |x::l,hn,⟨q,h⟩=>by
  have j3:=List.nodup_cons.1 hn;unfold bM;split
  ·rename_i hx;simp only [cont,List.map_cons,hx,if_true,re,true_and,List.map_map];refine(List.map_congr_left fun y hy=>?_);have:y.1≠k:=fun e=>j3.1 (List.mem_map.2 ⟨y,hy,e.trans hx.symm⟩);simp [this]
  ·rename_i hx;have:getM k l=some q:=by simpa [getM,hx] using h
   have ih:=Pz (a:=a) j3.2 ⟨q,this⟩;simp only [cont,List.map_cons,hx,if_false,re,true_and] at ih⊢;exact ih
end Go.Proofs.YtfndblbeikocdaaGreat
