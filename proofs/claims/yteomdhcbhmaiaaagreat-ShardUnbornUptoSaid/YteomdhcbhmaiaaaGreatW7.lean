/-
 Part 7 of the proof: what the last text leans on.
-/
import Derived.Test.YteomdhcbhmaiaaaGreatProg
import Derived.KernelRfl
import Derived.Test.YteomdhcbhmaiaaaGreatW6
open Nat renaming zero_le → aP, le_trans → af, lt_of_lt_of_le → aA
open Go.Value renaming string → dt
open List renaming mem_of_getElem? → cC, drop_of_length_le → dS, drop_zero → gu, length_cons → bO, all_cons → gd, length_nil → bA, take_add_one → gh, take_of_length_le → cd, nil_append → dG, any_cons → iu, foldl_cons → uk, length_map → bm, length_take → dx, length_append → ah
open Go.Value.bool renaming injEq → kC
open BitVec renaming ofInt → bE
open Ieee.Datum renaming quotient → qa
set_option linter.unusedVariables false
set_option linter.unusedSimpArgs false
namespace Go.Proofs.YteomdhcbhmaiaaaGreat
open Go.Proofs.Tryz renaming prog → pg
open Go.aX
set_option maxRecDepth 100000
section
variable {R : Ending → World → Prop} {w0 : World} {p0 p1 p2 p3 p4 p5 p6 p7 p8 p9 p10 p11 : Value}
theorem OE (h:DX R w0 (aS w0) p0):Calls pg 209 #[p0] w0 R:=cv ⟨32,[],[],[0,2,3,4,5,6,7,8,27],[15,16,17,18,19,20,21,22,23,24,25,26],[7]⟩ Tryz.func209 h
theorem OF {R:Ending→World→Prop} {w0:World} {p0:Int} {p1:Bool} {p2:Value} (h:DY R w0 (aS w0) p0 p1 p2):Calls pg 210 #[(I p0),(B p1),p2] w0 R:=
 aL (pl:=Oi) Tryz.func210 (by kernel_rfl) (by kernel_rfl) h
theorem OG (h:DZ R w0 (aS w0) p0):Calls pg 211 #[p0] w0 R:=cv ⟨42,[(5,(pg.cellsOf 163))],[13,17,22,28,33,34],[0,2,3,6,7,8,9,38],[21,23,24,25,27,29,30,31,32,35,36,37],[3,8]⟩ Tryz.func211 h
theorem IT (h:yH R w0 (aS w0) p0):Calls pg 212 #[p0] w0 R:=cv ⟨24,[(5,(pg.cellsOf 71))],[13,17],[0,2,3,6,7,8,9,20],[],[3,8]⟩ Tryz.func212 h
theorem Lq (h:BP R w0 (aS w0) p0):Calls pg 213 #[p0] w0 R:=cv ⟨35,[],[],[0,2,3,4,5,6,7,8,30],[14,15,16,18,19,20,21,22,23,24,25,26,27,28,29],[7]⟩ Tryz.func213 h
theorem P9 {R:Ending→World→Prop} {w0:World} {p0:Value} {p1:Int} (h:Gn R w0 (aS w0) p0 p1):Calls pg 214 #[p0,(I p1)] w0 R:=
 aL (pl:=PZ) Tryz.func214 (by kernel_rfl) (by kernel_rfl) h
theorem OH {R:Ending→World→Prop} {w0:World} {p0:ByteArray} (h:D9 R w0 (aS w0) p0):Calls pg 215 #[(.string p0)] w0 R:=
 aL (pl:=Oj) Tryz.func215 (by kernel_rfl) (by kernel_rfl) h
theorem OI {R:Ending→World→Prop} {w0:World} {p0:Value} {p1:Int} (h:Ea R w0 (aS w0) p0 p1):Calls pg 217 #[p0,(Value.int IntKind.u32 p1)] w0 R:=
 aL (pl:=Ol) Tryz.func217 (by kernel_rfl) (by kernel_rfl) h
theorem Fq (h:wA R w0 (aS w0) p0):Calls pg 218 #[p0] w0 R:=cv ⟨39,[],[],[0,2,7,27],[],[]⟩ Tryz.func218 h
theorem Bl {R:Ending→World→Prop} {w0:World} {c0 c1:Value} (h:tB R w0 (aS w0) c0 c1):Calls pg 219 #[c0,c1] w0 R:=
 aL (pl:=AX) Tryz.func219 (by kernel_rfl) (by kernel_rfl) h
theorem Lr {R:Ending→World→Prop} {w0:World} {p0:ByteArray} (h:BQ R w0 (aS w0) p0):Calls pg 220 #[(.string p0)] w0 R:=
 aL (pl:=Ll) Tryz.func220 (by kernel_rfl) (by kernel_rfl) h
theorem Qa {R:Ending→World→Prop} {w0:World} {p0:Nat} (h:Gp R w0 (aS w0) p0):Calls pg 233 #[(.float .f64 p0)] w0 R:=
 aL (pl:=P0) Tryz.func233 (by kernel_rfl) (by kernel_rfl) h
theorem Fs {R:Ending→World→Prop} {w0:World} {aR aW:Int} {aY bB:Nat} {bQ bR bS bW cN cj:Int} {bJ bG:Value} (h:wB R w0 (aS w0) aR aW aY bB bQ bR bS bW cN cj bJ bG):Calls pg 235 #[(.agg #[(I aR),(I aW),(.float .f64 aY),(.float .f64 bB),(I bQ),(I bR),(I bS),(I bW),(I cN),(I cj),bJ,bG])] w0 R:=
 aL (pl:=Ff) Tryz.func235 (by kernel_rfl) (by kernel_rfl) h
theorem IU {R:Ending→World→Prop} {w0:World} {p0:Bool} {bo bh bp:Int} (h:yI R w0 (aS w0) p0 bo bh bp):Calls pg 236 #[(B p0),(.agg #[(I bo),(I bh),(I bp)])] w0 R:=
 aL (pl:=II) Tryz.func236 (by kernel_rfl) (by kernel_rfl) h
theorem JY {R:Ending→World→Prop} {w0:World} {p0:Nat} (h:zX R w0 (aS w0) p0):Calls pg 237 #[(.float .f64 p0)] w0 R:=
 aL (pl:=JK) Tryz.func237 (by kernel_rfl) (by kernel_rfl) h
theorem JZ {R:Ending→World→Prop} {w0:World} {p0:Int} (h:zY R w0 (aS w0) p0):Calls pg 238 #[(I p0)] w0 R:=
 aL (pl:=JL) Tryz.func238 (by kernel_rfl) (by kernel_rfl) h
theorem J0 {R:Ending→World→Prop} {w0:World} {aR aW aY:Int} (h:zZ R w0 (aS w0) aR aW aY):Calls pg 239 #[(.agg #[(I aR),(I aW),(I aY)])] w0 R:=
 aL (pl:=JM) Tryz.func239 (by kernel_rfl) (by kernel_rfl) h
theorem Ls (h:BR R w0 (aS w0) p0):Calls pg 240 #[p0] w0 R:=cv ⟨44,[(4,(pg.cellsOf 207))],[12,26,32,38,39],[0,2,3,5,6,7,8,42],[16,17,18,19,20,21,22,23,24,25,27,28,29,31,33,34,35,37,40,41],[7]⟩ Tryz.func240 h
theorem J4 (h:Aa R w0 (aS w0)):Calls pg 241 #[] w0 R:=cv ⟨24,[(0,(pg.cellsOf 338))],[],[1,2,3,4,5,9,10],[],[3,4,9]⟩ Tryz.func241 h
theorem wP (h:oV R w0 (aS w0) p0 p1 p2):Calls pg 243 #[p0,p1,p2] w0 R:=cv ⟨63,[(8,(pg.cellsOf 131))],[],[0,1,2,6,7,17,38,39,40,46],[],[39]⟩ Tryz.func243 h
theorem ze (h:qz R w0 (aS w0) p0 p1):Calls pg 244 #[p0,p1] w0 R:=cv ⟨14,[],[],[0,1],[],[]⟩ Tryz.func244 h
theorem Cv {R:Ending→World→Prop} {w0:World} {p0:Value} {p1:ByteArray} (h:uj R w0 (aS w0) p0 p1):Calls pg 245 #[p0,(.string p1)] w0 R:=
 aL (pl:=Ck) Tryz.func245 (by kernel_rfl) (by kernel_rfl) h
theorem OJ {R:Ending→World→Prop} {w0:World} {p0:Value} {bo:Int} {bh:Nat} {bp:ByteArray} (h:Eb R w0 (aS w0) p0 bo bh bp):Calls pg 250 #[p0,(.agg #[(I bo),(.float .f64 bh),(.string bp)])] w0 R:=
 aL (pl:=Om) Tryz.func250 (by kernel_rfl) (by kernel_rfl) h
theorem lW (h:iw R w0 (aS w0) p0 p1):Calls pg 252 #[p0,p1] w0 R:=cv ⟨9,[],[],[0,1,4],[],[]⟩ Tryz.func252 h
theorem Fu {R:Ending→World→Prop} {w0:World} {aR:ByteArray} {aW:Int} {aY:Nat} {bB:ByteArray} {c0:Value} (h:wC R w0 (aS w0) aR aW aY bB c0):Calls pg 253 #[(.agg #[(.string aR),(I aW),(.float .f64 aY),(.string bB)]),c0] w0 R:=
 aL (pl:=Fg) Tryz.func253 (by kernel_rfl) (by kernel_rfl) h
theorem rN {R:Ending→World→Prop} {w0:World} {p0:Value} {p1:ByteArray} (h:kU R w0 (aS w0) p0 p1):Calls pg 254 #[p0,(.string p1)] w0 R:=
 aL (pl:=rK) Tryz.func254 (by kernel_rfl) (by kernel_rfl) h
theorem Lt (h:BS R w0 (aS w0) p0):Calls pg 256 #[p0] w0 R:=cv ⟨18,[(4,(pg.cellsOf 25))],[],[0,2,5,6,7,8,13],[],[7]⟩ Tryz.func256 h
theorem OK {R:Ending→World→Prop} {w0:World} {p0:Nat} (h:Ec R w0 (aS w0) p0):Calls pg 271 #[(.float .f64 p0)] w0 R:=
 aL (pl:=On) Tryz.func271 (by kernel_rfl) (by kernel_rfl) h
theorem nm (h:iU R w0 (aS w0) p0 p1):Calls pg 274 #[p0,p1] w0 R:=cv ⟨19,[],[],[0,1,4,5,7,8,9,16],[],[8]⟩ Tryz.func274 h
theorem vf {R:Ending→World→Prop} {w0:World} {p0:Value} {p1 im ju jB nf nh ni mi pC rL pD lS lT nQ nR nS:Int} {nT:Bool} {nU nV:Int} {nW kB kd ll nY nZ:Value} {mA mB:Int} {mC mD:Nat} {mE mF mG mH mI mJ:Int} {mK mL:Value} (iz: ∀g,mg Tryz.f9=some g→Idle pg g) (hR: ∀ch w,¬R (.panicked ch) w) (h:lI R w0 (aS w0) p0 p1 im ju jB nf nh ni mi pC rL pD lS lT nQ nR nS nT nU nV nW kB kd ll nY nZ mA mB mC mD mE mF mG mH mI mJ mK mL):Calls pg 9 #[p0,(I p1),(.agg #[(I im),(I ju),(I jB),(I nf),(I nh),(I ni),(I mi),(I pC),(I rL),(I pD),(I lS),(I lT),(I nQ),(I nR),(I nS),(B nT),(I nU),(I nV),nW,kB,kd,ll,nY,nZ,(I mA),(I mB),(.float .f64 mC),(.float .f64 mD),(I mE),(I mF),(I mG),(I mH),(I mI),(I mJ),mK,mL])] w0 R:=
 tg (pl:=lU) Tryz.func9 (by kernel_rfl) iz hR (by kernel_rfl) h
theorem SB {R:Ending→World→Prop} {RP:List PanicEntry→World→Prop} {g0:FuncId} {cb:List Nat} {cv:List (Option Value)} {w0:World} {p0:Value} {p1 im ju jB nf nh ni mi pC rL pD lS lT nQ nR nS:Int} {nT:Bool} {nU nV:Int} {nW kB kd ll nY nZ:Value} {mA mB:Int} {mC mD:Nat} {mE mF mG mH mI mJ:Int} {mK mL:Value} (iz: ∀g,mg Tryz.f9=some g→Idle pg g) (lC:Jx pg lU Tryz.f9 #[p0,(I p1),(.agg #[(I im),(I ju),(I jB),(I nf),(I nh),(I ni),(I mi),(I pC),(I rL),(I pD),(I lS),(I lT),(I nQ),(I nR),(I nS),(B nT),(I nU),(I nV),nW,kB,kd,ll,nY,nZ,(I mA),(I mB),(.float .f64 mC),(.float .f64 mD),(I mE),(I mF),(I mG),(I mH),(I mI),(I mJ),mK,mL])]=some (g0,cb,cv)) (tY:IA pg lU Tryz.f9 R g0 cb cv RP) (h:lI (EO R RP) w0 (aS w0) p0 p1 im ju jB nf nh ni mi pC rL pD lS lT nQ nR nS nT nU nV nW kB kd ll nY nZ mA mB mC mD mE mF mG mH mI mJ mK mL):Calls pg 9 #[p0,(I p1),(.agg #[(I im),(I ju),(I jB),(I nf),(I nh),(I ni),(I mi),(I pC),(I rL),(I pD),(I lS),(I lT),(I nQ),(I nR),(I nS),(B nT),(I nU),(I nV),nW,kB,kd,ll,nY,nZ,(I mA),(I mB),(.float .f64 mC),(.float .f64 mD),(I mE),(I mF),(I mG),(I mH),(I mI),(I mJ),mK,mL])] w0 R:=
 tf (pl:=lU) Tryz.func9 (by kernel_rfl) iz lC tY (by kernel_rfl) h
theorem u9 {R:Ending→World→Prop} {w0:World} {p0:Value} {p1:Int} (iz: ∀g,mg Tryz.f10=some g→Idle pg g) (hR: ∀ch w,¬R (.panicked ch) w) (h:lH R w0 (aS w0) p0 p1):Calls pg 10 #[p0,(I p1)] w0 R:=
 tg (pl:=lV) Tryz.func10 (by kernel_rfl) iz hR (by kernel_rfl) h
theorem SC {R:Ending→World→Prop} {RP:List PanicEntry→World→Prop} {g0:FuncId} {cb:List Nat} {cv:List (Option Value)} {w0:World} {p0:Value} {p1:Int} (iz: ∀g,mg Tryz.f10=some g→Idle pg g) (lC:Jx pg lV Tryz.f10 #[p0,(I p1)]=some (g0,cb,cv)) (tY:IA pg lV Tryz.f10 R g0 cb cv RP) (h:lH (EO R RP) w0 (aS w0) p0 p1):Calls pg 10 #[p0,(I p1)] w0 R:=
 tf (pl:=lV) Tryz.func10 (by kernel_rfl) iz lC tY (by kernel_rfl) h
theorem B3 {R:Ending→World→Prop} {w0:World} {p0:Value} {p1:Int} {p2:Nat} {p3:Int} (iz: ∀g,mg Tryz.f18=some g→Idle pg g) (hR: ∀ch w,¬R (.panicked ch) w) (h:oE R w0 (aS w0) p0 p1 p2 p3):Calls pg 18 #[p0,(I p1),(.float .f64 p2),(I p3)] w0 R:=
 tg (pl:=ln) Tryz.func18 (by kernel_rfl) iz hR (by kernel_rfl) h
theorem Sf {R:Ending→World→Prop} {RP:List PanicEntry→World→Prop} {g0:FuncId} {cb:List Nat} {cv:List (Option Value)} {w0:World} {p0:Value} {p1:Int} {p2:Nat} {p3:Int} (iz: ∀g,mg Tryz.f18=some g→Idle pg g) (lC:Jx pg ln Tryz.f18 #[p0,(I p1),(.float .f64 p2),(I p3)]=some (g0,cb,cv)) (tY:IA pg ln Tryz.f18 R g0 cb cv RP) (h:oE (EO R RP) w0 (aS w0) p0 p1 p2 p3):Calls pg 18 #[p0,(I p1),(.float .f64 p2),(I p3)] w0 R:=
 tf (pl:=ln) Tryz.func18 (by kernel_rfl) iz lC tY (by kernel_rfl) h
theorem tS {R:Ending→World→Prop} {w0:World} {p0:Value} {bo bh:Int} {bp dp:Nat} {cV cW cS cM dD dC:Int} {eu ei:Value} (iz: ∀g,mg Tryz.f20=some g→Idle pg g) (hR: ∀ch w,¬R (.panicked ch) w) (h:lf R w0 (aS w0) p0 bo bh bp dp cV cW cS cM dD dC eu ei):Calls pg 20 #[p0,(.agg #[(I bo),(I bh),(.float .f64 bp),(.float .f64 dp),(I cV),(I cW),(I cS),(I cM),(I dD),(I dC),eu,ei])] w0 R:=
 tg (pl:=lp) Tryz.func20 (by kernel_rfl) iz hR (by kernel_rfl) h
theorem Sg {R:Ending→World→Prop} {RP:List PanicEntry→World→Prop} {g0:FuncId} {cb:List Nat} {cv:List (Option Value)} {w0:World} {p0:Value} {bo bh:Int} {bp dp:Nat} {cV cW cS cM dD dC:Int} {eu ei:Value} (iz: ∀g,mg Tryz.f20=some g→Idle pg g) (lC:Jx pg lp Tryz.f20 #[p0,(.agg #[(I bo),(I bh),(.float .f64 bp),(.float .f64 dp),(I cV),(I cW),(I cS),(I cM),(I dD),(I dC),eu,ei])]=some (g0,cb,cv)) (tY:IA pg lp Tryz.f20 R g0 cb cv RP) (h:lf (EO R RP) w0 (aS w0) p0 bo bh bp dp cV cW cS cM dD dC eu ei):Calls pg 20 #[p0,(.agg #[(I bo),(I bh),(.float .f64 bp),(.float .f64 dp),(I cV),(I cW),(I cS),(I cM),(I dD),(I dC),eu,ei])] w0 R:=
 tf (pl:=lp) Tryz.func20 (by kernel_rfl) iz lC tY (by kernel_rfl) h
end
end Go.Proofs.YteomdhcbhmaiaaaGreat
namespace Go.Proofs.YteomdhcbhmaiaaaGreat
open Go.Proofs.Tryz renaming prog → pg
open Go.aX
set_option maxRecDepth 100000
set_option maxHeartbeats 1000000
set_option linter.unusedVariables false
set_option linter.unusedSimpArgs false
abbrev BA:=ByteArray
@[ext] structure bH where
 wall:Int
 cZ:Int
 node:Int
 deriving DecidableEq
abbrev bH.l (s:bH):List Value:=[I s.wall,I s.cZ,I s.node]
abbrev bH.v (s:bH):Value:=.agg #[I s.wall,I s.cZ,I s.node]
abbrev bH.zero:bH:=⟨0,0,0⟩
@[ext] structure dB where
 gO:Int
 jO:Int
 sq:Int
 deriving DecidableEq
abbrev dB.l (s:dB):List Value:=[I s.gO,I s.jO,I s.sq]
abbrev dB.v (s:dB):Value:=.agg #[I s.gO,I s.jO,I s.sq]
abbrev dB.zero:dB:=⟨0,0,0⟩
@[ext] structure kF where
 kind:Int
 num:Nat
 text:BA
 deriving DecidableEq
abbrev kF.l (x:kF):List Value:=[I x.kind,.float .f64 x.num,.string x.text]
abbrev kF.v (x:kF):Value:=.agg #[I x.kind,.float .f64 x.num,.string x.text]
abbrev kF.zero:kF:=⟨0,0,⟨#[]⟩⟩
@[ext] structure KV where
 key:BA
 val:kF
 deriving DecidableEq
abbrev KV.l (x:KV):List Value:=[.string x.key,I x.val.kind,.float .f64 x.val.num,.string x.val.text]
abbrev KV.v (x:KV):Value:=.agg #[.string x.key,I x.val.kind,.float .f64 x.val.num,.string x.val.text]
abbrev S1 (x:BA):List Value:=[.string x]
abbrev I1 (x:Int):List Value:=[I x]
@[ext] structure fJ where
 bb:bH
 val:kF
 deriving DecidableEq
abbrev fJ.l (x:fJ):List Value:=[I x.bb.wall,I x.bb.cZ,I x.bb.node,I x.val.kind,.float .f64 x.val.num,.string x.val.text]
@[ext] structure fk where
 key:BA
 eZ:List fJ
 deriving DecidableEq
abbrev fk.l (h:fk) (vv:Value):List Value:=[.string h.key,vv]
def fk.rd (w:World) (X:XS) (l:List Value) (h:fk):Prop:= ∃vv,l=h.l vv∧Sl w X 6 vv (h.eZ.map fJ.l)
@[ext] structure cx where
 dq:dB
 bb:bH
 reads:List BA
 writes:List KV
 deriving DecidableEq
abbrev cx.l (p:cx) (vr vw:Value):List Value:=[I p.dq.gO,I p.dq.jO,I p.dq.sq,I p.bb.wall,I p.bb.cZ,I p.bb.node,vr,vw]
abbrev cx.v (p:cx) (vr vw:Value):Value:=.agg #[I p.dq.gO,I p.dq.jO,I p.dq.sq,I p.bb.wall,I p.bb.cZ,I p.bb.node,vr,vw]
def cx.rd (w:World) (X:XS) (l:List Value) (p:cx):Prop:= ∃vr vw,l=p.l vr vw∧Sl w X 1 vr (p.reads.map S1)∧Sl w X 4 vw (p.writes.map KV.l)
@[ext] structure ic where
 id:Int
 gw:Int
 lo:Nat
 hi:Nat
 deriving DecidableEq
abbrev ic.l (r:ic):List Value:=[I r.id,I r.gw,.float .f64 r.lo,.float .f64 r.hi]
abbrev ic.v (r:ic):Value:=.agg #[I r.id,I r.gw,.float .f64 r.lo,.float .f64 r.hi]
@[ext] structure State where
 range:ic
 floor:bH
 closed:bH
 dM:List fk
 dh:List cx
 deriving DecidableEq
abbrev State.l (s:State) (vh vp:Value):List Value:=[I s.range.id,I s.range.gw,.float .f64 s.range.lo,.float .f64 s.range.hi,
 I s.floor.wall,I s.floor.cZ,I s.floor.node,I s.closed.wall,I s.closed.cZ,I s.closed.node,vh,vp]
abbrev State.v (s:State) (vh vp:Value):Value:=.agg #[I s.range.id,I s.range.gw,.float .f64 s.range.lo,.float .f64 s.range.hi,
 I s.floor.wall,I s.floor.cZ,I s.floor.node,I s.closed.wall,I s.closed.cZ,I s.closed.node,vh,vp]
abbrev gb (w:World) (X:XS) (v:Value) (l:List fk):Prop:=eE w X 2 v fk.rd l
abbrev ga (w:World) (X:XS) (v:Value) (l:List cx):Prop:=eE w X 8 v cx.rd l
def State.rd (w:World) (X:XS) (l:List Value) (s:State):Prop:= ∃vh vp,l=s.l vh vp∧gb w X vh s.dM∧ga w X vp s.dh
@[ext] structure Rec where
 kind:Int
 dq:dB
 bb:bH
 prev:bH
 iq:Bool
 n:Int
 jI:Nat
 reads:List BA
 writes:List KV
 parts:List Int
 oM:List KV
 state:State
 deriving DecidableEq
abbrev Rec.l (r:Rec) (vr vw vp vq vh vd:Value):List Value:=[I r.kind,I r.dq.gO,I r.dq.jO,I r.dq.sq,I r.bb.wall,I r.bb.cZ,I r.bb.node,
 I r.prev.wall,I r.prev.cZ,I r.prev.node,B r.iq,I r.n,.float .f64 r.jI,vr,vw,vp,vq,I r.state.range.id,I r.state.range.gw,.float .f64 r.state.range.lo,.float .f64 r.state.range.hi,
 I r.state.floor.wall,I r.state.floor.cZ,I r.state.floor.node,I r.state.closed.wall,I r.state.closed.cZ,I r.state.closed.node,vh,vd]
abbrev Rec.v (r:Rec) (vr vw vp vq vh vd:Value):Value:=.agg #[I r.kind,I r.dq.gO,I r.dq.jO,I r.dq.sq,I r.bb.wall,I r.bb.cZ,I r.bb.node,
 I r.prev.wall,I r.prev.cZ,I r.prev.node,B r.iq,I r.n,.float .f64 r.jI,vr,vw,vp,vq,I r.state.range.id,I r.state.range.gw,.float .f64 r.state.range.lo,.float .f64 r.state.range.hi,
 I r.state.floor.wall,I r.state.floor.cZ,I r.state.floor.node,I r.state.closed.wall,I r.state.closed.cZ,I r.state.closed.node,vh,vd]
def Rec.at (w:World) (X:XS) (r:Rec) (vr vw vp vq vh vd:Value):Prop:=
 Sl w X 1 vr (r.reads.map S1)∧Sl w X 4 vw (r.writes.map KV.l)∧Sl w X 1 vp (r.parts.map I1)∧Sl w X 4 vq (r.oM.map KV.l)∧gb w X vh r.state.dM∧ga w X vd r.state.dh
def Rec.rd (w:World) (X:XS) (l:List Value) (r:Rec):Prop:= ∃vr vw vp vq vh vd,l=r.l vr vw vp vq vh vd∧r.at w X vr vw vp vq vh vd
theorem fk.mv:Ay fk.rd:=fun ⟨vv,h,h1⟩ m=>⟨vv,h,h1.mv m⟩
theorem cx.mv:Ay cx.rd:=fun ⟨vr,vw,h,h1,h2⟩ m=>⟨vr,vw,h,h1.mv m,h2.mv m⟩
theorem gb.mv {w w':World} {X Y:XS} {v:Value} {l:List fk} (h:gb w X v l) (m:Mv X w Y w'):gb w' Y v l:=eE.mv h fk.mv m
theorem ga.mv {w w':World} {X Y:XS} {v:Value} {l:List cx} (h:ga w X v l) (m:Mv X w Y w'):ga w' Y v l:=eE.mv h cx.mv m
theorem State.mv:Ay State.rd:=fun ⟨vh,vp,h,h1,h2⟩ m=>⟨vh,vp,h,eE.mv h1 fk.mv m,eE.mv h2 cx.mv m⟩
theorem Rec.at.mv {w w':World} {X Y:XS} {r:Rec} {vr vw vp vq vh vd:Value} (h:r.at w X vr vw vp vq vh vd) (m:Mv X w Y w'):r.at w' Y vr vw vp vq vh vd:=
 ⟨h.1.mv m,h.2.1.mv m,h.2.2.1.mv m,h.2.2.2.1.mv m,eE.mv h.2.2.2.2.1 fk.mv m,eE.mv h.2.2.2.2.2 cx.mv m⟩
theorem Rec.mv:Ay Rec.rd:=fun ⟨vr,vw,vp,vq,vh,vd,h,h1⟩ m=>⟨vr,vw,vp,vq,vh,vd,h,h1.mv m⟩
section
variable {P : Program} {X X0 : XS} {w w0 : World} {N : Value → Prop}
theorem AD {t:TypeId} {v:Value} {xs:List cx} {i:Nat} {z:Int} {x:cx} (h:ga w0 X0 v xs) (hr:xs[i]? =some x)
  (hz:z=i) (ht:P.underlying t=some (.slice (P.elem t))) (hs:(P.info? (P.elem t)).map (·.size)=some 8)
  (n: ∀b o vr vw,aX.one vr=true→aX.one vw=true→Cells w0 X0 b o (x.l vr vw)→Sl w0 X0 1 vr (x.reads.map S1)→Sl w0 X0 4 vw (x.writes.map KV.l)→N (ptr b o)):ad P X w (dy t 8 v (.int .i64 z)) N:=
 LP h hr hz ht hs fun b o _ hc ⟨vr,vw,hl,h1,h2⟩=>n b o vr vw h1.one h2.one (hl▸hc) h1 h2
theorem yJ {t:TypeId} {v:Value} {xs:List fk} {i:Nat} {z:Int} {x:fk} (h:gb w0 X0 v xs) (hr:xs[i]? =some x)
  (hz:z=i) (ht:P.underlying t=some (.slice (P.elem t))) (hs:(P.info? (P.elem t)).map (·.size)=some 2)
  (n: ∀b o vv,aX.one vv=true→Cells w0 X0 b o (x.l vv)→Sl w0 X0 6 vv (x.eZ.map fJ.l)→N (ptr b o)):ad P X w (dy t 2 v (.int .i64 z)) N:=
 LP h hr hz ht hs fun b o _ hc ⟨vv,hl,h1⟩=>n b o vv h1.one (hl▸hc) h1
theorem QF {t:TypeId} {v:Value} {xs:List Rec} {i:Nat} {z:Int} {x:Rec} (h:eE w0 X0 29 v Rec.rd xs) (hr:xs[i]? =some x)
  (hz:z=i) (ht:P.underlying t=some (.slice (P.elem t))) (hs:(P.info? (P.elem t)).map (·.size)=some 29)
  (n: ∀b o vr vw vp vq vh vd,aX.one vr=true→aX.one vw=true→aX.one vp=true→aX.one vq=true→aX.one vh=true→aX.one vd=true→
   Cells w0 X0 b o (x.l vr vw vp vq vh vd)→x.at w0 X0 vr vw vp vq vh vd→N (ptr b o)):ad P X w (dy t 29 v (.int .i64 z)) N:=
 LP h hr hz ht hs fun b o _ hc ⟨vr,vw,vp,vq,vh,vd,hl,h1⟩=>n b o vr vw vp vq vh vd h1.1.one h1.2.1.one h1.2.2.1.one h1.2.2.2.1.one h1.2.2.2.2.1.one h1.2.2.2.2.2.one (hl▸hc) h1
theorem Sh {t:TypeId} {xo yo:Operand} (a b:bH) (h:gr P t 3=true) (hT:a=b→N (.bool true)) (hF: ¬a=b→N (.bool false)):
  ad P X w (aD .eql t xo yo a.v b.v) N:=No h (fun h1 h2 h3=>hT (bH.ext h1 h2 h3)) fun hn=>hF fun e=>hn (by subst e;exact⟨rfl,rfl,rfl⟩)
theorem Xl {t:TypeId} {xo yo:Operand} (a b:bH) (h:gr P t 3=true) (hT: ¬a=b→N (.bool true)) (hF:a=b→N (.bool false)):
  ad P X w (aD .neq t xo yo a.v b.v) N:=aaT h (fun hn=>hT fun e=>hn (by subst e;exact⟨rfl,rfl,rfl⟩)) fun h1 h2 h3=>hF (bH.ext h1 h2 h3)
theorem x5 {t:TypeId} {xo yo:Operand} (a:bH) (h:gr P t 3=true) (hT:a= .zero→N (.bool true)) (hF: ¬a= .zero→N (.bool false)):
  ad P X w (aD .eql t xo yo a.v (.agg #[I 0,I 0,I 0])) N:=Sh a .zero h hT hF
theorem Ub {t:TypeId} {xo yo:Operand} (a:bH) (h:gr P t 3=true) (hT: ¬a= .zero→N (.bool true)) (hF:a= .zero→N (.bool false)):
  ad P X w (aD .neq t xo yo a.v (.agg #[I 0,I 0,I 0])) N:=Xl a .zero h hT hF
theorem Xm {t:TypeId} {xo yo:Operand} (a b:dB) (h:gr P t 3=true) (hT:a=b→N (.bool true)) (hF: ¬a=b→N (.bool false)):
  ad P X w (aD .eql t xo yo a.v b.v) N:=No h (fun h1 h2 h3=>hT (dB.ext h1 h2 h3)) fun hn=>hF fun e=>hn (by subst e;exact⟨rfl,rfl,rfl⟩)
theorem Uc {t:TypeId} {xo yo:Operand} (a:dB) (h:gr P t 3=true) (hT:a= .zero→N (.bool true)) (hF: ¬a= .zero→N (.bool false)):
  ad P X w (aD .eql t xo yo a.v (.agg #[I 0,I 0,I 0])) N:=Xm a .zero h hT hF
end
def lim:Nat:=2^20
def cx.small (p:cx):Prop:=p.reads.length≤lim∧p.writes.length≤lim
end Go.Proofs.YteomdhcbhmaiaaaGreat
namespace Go.Proofs.YteomdhcbhmaiaaaGreat
open Go.Proofs.Tryz renaming prog → pg
open Go.aX
set_option maxRecDepth 100000
set_option maxHeartbeats 1000000
set_option linter.unusedVariables false
set_option linter.unusedSimpArgs false
attribute [local irreducible] un jn aC aJ ld1 ff st1 dy cY mm dK nv Bw zn fR gf ad aw aG eW eV eU eC eF gE au fin aM az aD vS FB gU ja vT FC FE FF FG FH gV jb vU FI FJ FK FM
def bH.cmp (a b:bH):Int:=
 let p:=if a.wall≠b.wall then(a.wall,b.wall)else if a.cZ≠b.cZ then(a.cZ,b.cZ)else(a.node,b.node)
 if p.1<p.2 then-1 else if p.1>p.2 then 1 else 0
def dB.less (a b:dB):Bool:=
 if a.gO≠b.gO then a.gO<b.gO else if a.jO≠b.jO then a.jO<b.jO else a.sq<b.sq
def dB.may (a:dB):Bool:=a.gO≥1&&a.gO≤2&&a.jO≥1&&a.sq≥1
def bH.may (a:bH):Bool:=a.wall≥0&&a.wall≤281474976710656&&a.cZ≥0&&a.cZ≤65535&&a.node≥0&&a.node≤63
def bH.later (a b:bH):bH:=if a.cmp b<0 then b else a
def bH.IV (a:bH):Bool:=a.may&&!decide (a= .zero)
theorem bH.zw {a:bH} :a.may=true↔0≤a.wall∧a.wall≤281474976710656∧0≤a.cZ∧a.cZ≤65535∧0≤a.node∧a.node≤63:=by
 simp [bH.may,and_assoc]
theorem lD (a b:bH):Pure pg 140 #[a.v,b.v] (I (a.cmp b)):=by
 intro w0;apply JR;unfold zR;have hs:=ak.init w0;repeat' first|refine aN ?_;intros|refine du ?_ ?_<;>intros|with_reducible apply dg|(with_reducible refine fm hs ?_);simp_all [bH.cmp]<;>omega
theorem vJ (a:dB):Pure pg 201 #[a.v] (B a.may):=by
 intro w0;apply JW;unfold zV;have hs:=ak.init w0;repeat' first|refine aN ?_;intros|refine du ?_ ?_<;>intros|(with_reducible refine fm hs ?_);simp_all [dB.may]<;>omega
theorem jT (a:bH):Pure pg 144 #[a.v] (B a.may):=by
 intro w0;apply Se;unfold IF;have hs:=ak.init w0;repeat' first|refine aN ?_;intros|refine du ?_ ?_<;>intros|(with_reducible refine fm hs ?_);simp_all [bH.may]<;>omega
theorem PH (a b:bH):Pure pg 80 #[a.v,b.v] (a.later b).v:=by
 intro w0;apply Oq;unfold DF;have hs:=ak.init w0;repeat' first|refine aN ?_;intros|refine du ?_ ?_<;>intros|((with_reducible refine jj (lD _ _) ?_ hs.has ?_);(· kernel_rfl);intro w X ax;replace hs:=hs.trans ax)|(with_reducible refine fm hs ?_);simp_all [bH.later]<;>grind
theorem Lu (n:Int):Pure pg 238 #[I n] (B (decide (n≥1)&&decide (n≤12))):=by
 intro w0;apply JZ;unfold zY;have hs:=ak.init w0;repeat' first|refine aN ?_;intros|refine du ?_ ?_<;>intros|(with_reducible refine fm hs ?_);simp_all<;>omega
theorem BT (a:bH):Pure pg 239 #[a.v] (B a.IV):=by
 intro w0;apply J0;unfold zZ;have hs:=ak.init w0;repeat' first|refine aN ?_;intros|(with_reducible refine Ub _ ?_ ?_ ?_);(· kernel_rfl);all_goals intros|((with_reducible refine dw (jT _) ?_ hs.has ?_ ?_);(· kernel_rfl);all_goals (intro _ w X ax;replace hs:=hs.trans ax))|(with_reducible refine fm hs ?_);simp_all [bH.IV]
def bH.J5 (c:Bool) (a:bH):Bool:=if c then a.IV else decide (a= .zero)
theorem J6 (c:Bool) (a:bH):Pure pg 236 #[B c,a.v] (B (a.J5 c)):=by
 intro w0;apply IU;unfold yI;have hs:=ak.init w0;repeat' first|refine aN ?_;intros|refine du ?_ ?_<;>intros|(with_reducible refine x5 _ ?_ ?_ ?_);(· kernel_rfl);all_goals intros|((with_reducible refine dw (BT _) ?_ hs.has ?_ ?_);(· kernel_rfl);all_goals (intro _ w X ax;replace hs:=hs.trans ax))|(with_reducible refine fm hs ?_);simp_all [bH.J5]
theorem uJ (x:Nat) (wa:World):(callFunc 146 #[.float .f64 x]).run pg wa= .ok (.value (.int .u64 x)) wa:=by kernel_rfl
theorem Ad (a b:Nat):Pure pg 105 #[.float .f64 a,.float .f64 b] (B (decide (a=b))):=by
 intro w0;apply IP;unfold yE;have hs:=ak.init w0;repeat' first|refine aN ?_;intros|refine du ?_ ?_<;>intros|(with_reducible refine fm hs ?_);simp_all [Int.ofNat_inj]|((with_reducible refine xN (uJ _) hs.has ?_);intro w X ax;replace hs:=hs.trans ax)
theorem yK (a b:kF):Pure pg 106 #[a.v,b.v] (B (decide (a=b))):=by
 intro w0;apply Hk;unfold xZ;have hs:=ak.init w0;repeat' first|refine aN ?_;intros|refine du ?_ ?_<;>intros|with_reducible apply dg|((with_reducible refine dw (Ad _ _) ?_ hs.has ?_ ?_);(· kernel_rfl);all_goals (intro _ w X ax;replace hs:=hs.trans ax))|(with_reducible refine fm hs ?_);simp_all [kF.ext_iff]
theorem IW (a b:ic):Pure pg 48 #[a.v,b.v] (B (decide (a=b))):=by
 intro w0;apply Hi;unfold xX;have hs:=ak.init w0;repeat' first|refine aN ?_;intros|refine du ?_ ?_<;>intros|with_reducible apply dg|((with_reducible refine dw (Ad _ _) ?_ hs.has ?_ ?_);(· kernel_rfl);all_goals (intro _ w X ax;replace hs:=hs.trans ax))|(with_reducible refine fm hs ?_);simp_all [ic.ext_iff]
theorem IX {w:World} {X:XS} {a b:Value} {xs ys:List BA} (ha:Sl w X 1 a (xs.map S1)) (hb:Sl w X 1 b (ys.map S1)):
  Ct pg 167 #[a,b] w X nX fun v _ _=>v=B (decide (xs=ys)):=by
  intro w0 hk;replace ha:=ha.mv hk.cO;replace hb:=hb.mv hk.cO;have jG:=ha.gH;apply Hl;unfold x2;have hs:=ak.init w0;repeat' first|refine aN ?_;intros|refine du ?_ ?_<;>intros|((first|(with_reducible refine aj hs ?_)|(with_reducible refine aj (bL.trans hs) ?_));intro wa hk;(simp only [B,kC];symm;rw [decide_eq_false_iff_not];rintro rfl;omega))
  have hlen:xs.length=ys.length:=by omega
  refine eQ (fun n a w X=> ∃i:Nat,a=I (i:Nat)∧n=(xs).length-i∧i≤(xs).length∧ak (aS w0) w0 X w∧(xs=ys↔xs.drop i=ys.drop i)) (xs).length ⟨0,rfl,rfl,aP _,hs,by simp⟩ ?_;rintro n a w X ⟨i,rfl,rfl,hi,hs,hw⟩;rcases eG (xs) i with⟨dA,x,hx,hd⟩|⟨ec,hd⟩
  ·obtain⟨y,hy,KR⟩:=uH (xs:=ys) (i:=i) zQ;repeat' first|refine bY ?_;intros|refine du ?_ ?_<;>intros|((first|(with_reducible refine aj hs ?_)|(with_reducible refine aj (bL.trans hs) ?_));intro wa hk;(simp_all [decide_true]))|((with_reducible refine eT ((xs).length-(i+1)) ?_ ?_);omega;exact⟨i+1,by simp,rfl,by omega,hs,by simp_all [decide_true]⟩)
  ·have KR:=dS (l:=ys) (i:=i) zQ;repeat' first|refine bY ?_;intros|((first|(with_reducible refine aj hs ?_)|(with_reducible refine aj (bL.trans hs) ?_));intro wa hk;simp_all)
theorem Hn {w:World} {X:XS} {a b:Value} {xs ys:List KV} (ha:Sl w X 4 a (xs.map KV.l)) (hb:Sl w X 4 b (ys.map KV.l)):
  Ct pg 168 #[a,b] w X nX fun v _ _=>v=B (decide (xs=ys)):=by
  intro w0 hk;replace ha:=ha.mv hk.cO;replace hb:=hb.mv hk.cO;have jG:=ha.gH;apply Fo;unfold wy;have hs:=ak.init w0;repeat' first|refine aN ?_;intros|refine du ?_ ?_<;>intros|((first|(with_reducible refine aj hs ?_)|(with_reducible refine aj (bL.trans hs) ?_));intro wa hk;(simp only [B,kC];symm;rw [decide_eq_false_iff_not];rintro rfl;omega))
  have hlen:xs.length=ys.length:=by omega
  refine eQ (fun n a w X=> ∃i:Nat,a=I (i:Nat)∧n=(xs).length-i∧i≤(xs).length∧ak (aS w0) w0 X w∧(xs=ys↔xs.drop i=ys.drop i)) (xs).length ⟨0,rfl,rfl,aP _,hs,by simp⟩ ?_;rintro n a w X ⟨i,rfl,rfl,hi,hs,hw⟩;rcases eG (xs) i with⟨dA,x,hx,hd⟩|⟨ec,hd⟩
  ·obtain⟨y,hy,KR⟩:=uH (xs:=ys) (i:=i) zQ;repeat' first|refine bY ?_;intros|refine du ?_ ?_<;>intros|with_reducible apply dg|((with_reducible refine dw (yK _ _) ?_ hs.has ?_ ?_);(· kernel_rfl);all_goals (intro _ w X ax;replace hs:=hs.trans ax))|((first|(with_reducible refine aj hs ?_)|(with_reducible refine aj (bL.trans hs) ?_));intro wa hk;(simp_all [KV.ext_iff,kF.ext_iff]))|((with_reducible refine eT ((xs).length-(i+1)) ?_ ?_);omega;exact⟨i+1,by simp,rfl,by omega,hs,by simp_all [KV.ext_iff,kF.ext_iff]⟩)
  ·have KR:=dS (l:=ys) (i:=i) zQ;repeat' first|refine bY ?_;intros|((first|(with_reducible refine aj hs ?_)|(with_reducible refine aj (bL.trans hs) ?_));intro wa hk;simp_all)
theorem Fv {w:World} {X:XS} {p q:cx} {vr vw ur uw:Value} (h1:Sl w X 1 vr (p.reads.map S1)) (h2:Sl w X 4 vw (p.writes.map KV.l))
  (h3:Sl w X 1 ur (q.reads.map S1)) (h4:Sl w X 4 uw (q.writes.map KV.l)):
  Ct pg 107 #[p.v vr vw,q.v ur uw] w X nX fun v _ _=>v=B (decide (p=q)):=by
 intro w0 hk;replace h1:=h1.mv hk.cO;replace h2:=h2.mv hk.cO;replace h3:=h3.mv hk.cO;replace h4:=h4.mv hk.cO;apply Ed;unfold vx;have hs:=ak.init w0;repeat' first|refine aN ?_;intros|(with_reducible refine Sh _ _ ?_ ?_ ?_);(· kernel_rfl);all_goals intros|(with_reducible refine Xm _ _ ?_ ?_ ?_);(· kernel_rfl);all_goals intros|with_reducible apply dg|((first|(with_reducible refine aj hs ?_)|(with_reducible refine aj (bL.trans hs) ?_));intro wa hk;simp_all [cx.ext_iff])|(refine ew (IX  qA qA) kQ hs.has ?_ ?_<;>(intro _ w X ax;replace hs:=hs.trans ax))|(refine ew (Hn  qA qA) kQ hs.has ?_ ?_<;>(intro _ w X ax;replace hs:=hs.trans ax))
theorem Ej {w:World} {X:XS} {a b:Value} {xs ys:List cx} (ha:ga w X a xs) (hb:ga w X b ys):
  Ct pg 50 #[a,b] w X nX fun v _ _=>v=B (decide (xs=ys)):=by
  intro w0 hk;replace ha:=ha.mv hk.cO;replace hb:=hb.mv hk.cO;have jG:=ha.len;apply Cl;unfold tZ;have hs:=ak.init w0;repeat' first|refine aN ?_;intros|refine du ?_ ?_<;>intros|((first|(with_reducible refine aj hs ?_)|(with_reducible refine aj (bL.trans hs) ?_));intro wa hk;(simp only [B,kC];symm;rw [decide_eq_false_iff_not];rintro rfl;omega))
  have hlen:xs.length=ys.length:=by omega
  refine eQ (fun n a w X=> ∃i:Nat,a=I (i:Nat)∧n=(xs).length-i∧i≤(xs).length∧ak (aS w0) w0 X w∧(xs=ys↔xs.drop i=ys.drop i)) (xs).length ⟨0,rfl,rfl,aP _,hs,by simp⟩ ?_;rintro n a w X ⟨i,rfl,rfl,hi,hs,hw⟩;rcases eG (xs) i with⟨dA,x,hx,hd⟩|⟨ec,hd⟩
  ·obtain⟨y,hy,KR⟩:=uH (xs:=ys) (i:=i) zQ;repeat' first|refine bY ?_;intros|((with_reducible apply AD);assumption;(try (case hz=>rfl));(case hr=>exact qR);(try (case hz=>omega));(case ht=>kernel_rfl);(case hs=>kernel_rfl);intros)|((first|(with_reducible refine aj hs ?_)|(with_reducible refine aj (bL.trans hs) ?_));intro wa hk;(simp_all [decide_true]))|((with_reducible refine eT ((xs).length-(i+1)) ?_ ?_);omega;exact⟨i+1,by simp,rfl,by omega,hs,by simp_all [decide_true]⟩)|(refine ew (Fv  qA qA qA qA) kQ hs.has ?_ ?_<;>(intro _ w X ax;replace hs:=hs.trans ax))
  ·have KR:=dS (l:=ys) (i:=i) zQ;repeat' first|refine bY ?_;intros|((first|(with_reducible refine aj hs ?_)|(with_reducible refine aj (bL.trans hs) ?_));intro wa hk;simp_all)
theorem Cw {w:World} {X:XS} {a b:Value} {xs ys:List fk} (ha:gb w X a xs) (hb:gb w X b ys):
  Ct pg 49 #[a,b] w X nX fun v _ _=>v=B (decide (xs=ys)):=by
 intro w0 hk;replace ha:=ha.mv hk.cO;replace hb:=hb.mv hk.cO;have jG:=ha.len;have uZ:=hb.len;apply AY;unfold th;have hs:=ak.init w0;repeat' first|refine aN ?_;intros|refine du ?_ ?_<;>intros|((first|(with_reducible refine aj hs ?_)|(with_reducible refine aj (bL.trans hs) ?_));intro wa hk;(simp only [B,kC];symm;rw [decide_eq_false_iff_not];rintro rfl;omega))
 have hlen:xs.length=ys.length:=by omega
 refine fS (fun n a b w X=> ∃i:Nat,a=I i∧n=xs.length-i∧i≤xs.length∧ak (aS w0) w0 X w∧(xs=ys↔xs.drop i=ys.drop i)) xs.length ⟨0,rfl,rfl,aP _,hs,by simp⟩ ?_;rintro n a b w X ⟨i,rfl,rfl,hi,hs,hw⟩;rcases eG (xs) i with⟨dA,x,hx,hd⟩|⟨ec,hd⟩
 ·obtain⟨y,hy,KR⟩:=uH (xs:=ys) (i:=i) zQ;rw [hd,KR] at hw;repeat' first|refine bY ?_;intros|refine du ?_ ?_<;>intros|((with_reducible apply yJ);assumption;(try (case hz=>rfl));(case hr=>exact qR);(try (case hz=>omega));(case ht=>kernel_rfl);(case hs=>kernel_rfl);intros)|((first|(with_reducible refine aj hs ?_)|(with_reducible refine aj (bL.trans hs) ?_));intro wa hk;(simp_all [fk.ext_iff]<;>(intro e;exact absurd (congrArg List.length e) zQ)))
  have UH:x.key=y.key:=by simp_all
  have WI:x.eZ.length=y.eZ.length:=by omega
  have hvb:x.eZ.length≤2^63-1:=Sl.gH ‹Sl w0 (aS w0) 6 _ (x.eZ.map fJ.l)›;have WW:(xs=ys↔(x.eZ=y.eZ∧xs.drop (i+1)=ys.drop (i+1))):=by rw [hw];simp [fk.ext_iff,UH]
  refine eQ (fun n a w X=> ∃k:Nat,a=I k∧n=x.eZ.length-k∧k≤x.eZ.length∧ak (aS w0) w0 X w∧(x.eZ=y.eZ↔x.eZ.drop k=y.eZ.drop k)) x.eZ.length ⟨0,rfl,rfl,aP _,hs,by simp⟩ ?_;clear hs;rintro n a w X ⟨k,rfl,rfl,xG,hs,Xn⟩;rcases eG x.eZ k with⟨adY,u,hu,hdu⟩|⟨adZ,hdu⟩
  ·obtain⟨z,hz,hdz⟩:=uH (xs:=y.eZ) (i:=k) zQ;rw [hdu,hdz] at Xn;repeat' first|refine bY ?_;intros|((with_reducible apply yJ);assumption;(try (case hz=>rfl));(case hr=>exact qR);(try (case hz=>omega));(case ht=>kernel_rfl);(case hs=>kernel_rfl);intros)|(with_reducible refine Xl _ _ ?_ ?_ ?_);(· kernel_rfl);all_goals intros|with_reducible apply dg|((with_reducible refine dw (yK _ _) ?_ hs.has ?_ ?_);(· kernel_rfl);all_goals (intro _ w X ax;replace hs:=hs.trans ax))|((first|(with_reducible refine aj hs ?_)|(with_reducible refine aj (bL.trans hs) ?_));intro wa hk;(simp_all [fJ.ext_iff]))|((with_reducible refine eT (x.eZ.length-(k+1)) ?_ ?_);omega;exact⟨k+1,by simp,rfl,by omega,hs,by rw [Xn];simp_all [fJ.ext_iff]⟩)
  ·have hdz:=dS (l:=y.eZ) (i:=k) zQ;rw [hdu,hdz] at Xn;repeat' first|refine bY ?_;intros|((with_reducible apply yJ);assumption;(try (case hz=>rfl));(case hr=>exact qR);(try (case hz=>omega));(case ht=>kernel_rfl);(case hs=>kernel_rfl);intros)|((with_reducible refine fT ((xs).length-(i+1)) ?_ ?_);omega;exact⟨i+1,by simp,rfl,by omega,hs,by rw [WW];simp [Xn]⟩)
 ·have KR:=dS (l:=ys) (i:=i) zQ;repeat' first|refine bY ?_;intros|((first|(with_reducible refine aj hs ?_)|(with_reducible refine aj (bL.trans hs) ?_));intro wa hk;simp_all)
theorem yp {w:World} {X:XS} {s t:State} {vh vp uh up:Value} (h1:gb w X vh s.dM) (h2:ga w X vp s.dh) (h3:gb w X uh t.dM) (h4:ga w X up t.dh):
  Ct pg 16 #[s.v vh vp,t.v uh up] w X nX fun v _ _=>v=B (decide (s=t)):=by
 intro w0 hk;replace h1:=h1.mv hk.cO;replace h2:=h2.mv hk.cO;replace h3:=h3.mv hk.cO;replace h4:=h4.mv hk.cO;apply Hg;unfold xU;have hs:=ak.init w0;repeat' first|refine aN ?_;intros|(with_reducible refine Sh _ _ ?_ ?_ ?_);(· kernel_rfl);all_goals intros|with_reducible apply dg|((with_reducible refine dw (IW _ _) ?_ hs.has ?_ ?_);(· kernel_rfl);all_goals (intro _ w X ax;replace hs:=hs.trans ax))|((first|(with_reducible refine aj hs ?_)|(with_reducible refine aj (bL.trans hs) ?_));intro wa hk;simp_all [State.ext_iff])|(refine ew (Cw  qA qA) kQ hs.has ?_ ?_<;>(intro _ w X ax;replace hs:=hs.trans ax))|(refine ew (Ej  qA qA) kQ hs.has ?_ ?_<;>(intro _ w X ax;replace hs:=hs.trans ax))
abbrev wH:Value→World→World→Prop:=fun v _ _=> ∃n:Int,v=I n
theorem gC (a b c:Int) (w:World) (X:XS):Ct pg 23 #[I a,I b,I c] w X nX wH:=by
 intro w0 hk;apply JN;unfold zJ;have hs:=ak.init w0;repeat' first|refine aN ?_;intros|refine du ?_ ?_<;>intros|((first|(with_reducible refine aj hs ?_)|(with_reducible refine aj (bL.trans hs) ?_));intro wa hk;exact⟨_,rfl⟩)|with_reducible apply jo
theorem nH {w:World} {X:XS} {a:Value} {xs:List BA} {most:Int} (ha:Sl w X 1 a (xs.map S1)):
  Ct pg 58 #[a,I most] w X nX wH:=by
 intro w0 hk;replace ha:=ha.mv hk.cO;have jG:=ha.gH;apply Ac;unfold sf;have hs:=ak.init w0;refine fS (fun n a b w X=> ∃(i:Nat) (s:Int),a=I i∧b=I s∧n=(xs).length-i∧i≤(xs).length∧ak (aS w0) w0 X w) (xs).length ⟨0,_,rfl,rfl,rfl,aP _,hs⟩ ?_;rintro n a b w X ⟨i,s,rfl,rfl,rfl,hi,hs⟩;repeat' first|refine aN ?_;intros|refine du ?_ ?_<;>intros|((first|(with_reducible refine aj hs ?_)|(with_reducible refine aj (bL.trans hs) ?_));intro wa hk;exact⟨_,rfl⟩)|(refine gY (gC  _ _ _ _ _) kQ hs.has ?_;intro n1 w X ax;replace hs:=hs.trans ax)|((with_reducible refine fT ((xs).length-(i+1)) ?_ ?_);omega;exact⟨i+1,_,by simp,rfl,rfl,by omega,hs⟩)|with_reducible apply jo
theorem mW {w:World} {X:XS} {a:Value} {xs:List KV} {most:Int} (ha:Sl w X 4 a (xs.map KV.l)):
  Ct pg 60 #[a,I most] w X nX wH:=by
 intro w0 hk;replace ha:=ha.mv hk.cO;have jG:=ha.gH;apply yZ;unfold qu;have hs:=ak.init w0;refine fS (fun n a b w X=> ∃(i:Nat) (s:Int),a=I i∧b=I s∧n=(xs).length-i∧i≤(xs).length∧ak (aS w0) w0 X w) (xs).length ⟨0,_,rfl,rfl,rfl,aP _,hs⟩ ?_;rintro n a b w X ⟨i,s,rfl,rfl,rfl,hi,hs⟩;repeat' first|refine aN ?_;intros|refine du ?_ ?_<;>intros|((first|(with_reducible refine aj hs ?_)|(with_reducible refine aj (bL.trans hs) ?_));intro wa hk;exact⟨_,rfl⟩)|(refine gY (gC  _ _ _ _ _) kQ hs.has ?_;intro n1 w X ax;replace hs:=hs.trans ax)|((with_reducible refine fT ((xs).length-(i+1)) ?_ ?_);omega;exact⟨i+1,_,by simp,rfl,rfl,by omega,hs⟩)|with_reducible apply jo
theorem ya {w:World} {X:XS} {a:Value} {xs:List cx} {most:Int} (ha:ga w X a xs):
  Ct pg 25 #[a,I most] w X nX wH:=by
 intro w0 hk;replace ha:=ha.mv hk.cO;have jG:=ha.len;apply x4;unfold pB;have hs:=ak.init w0;refine fS (fun n a b w X=> ∃(i:Nat) (s:Int),a=I i∧b=I s∧n=(xs).length-i∧i≤(xs).length∧ak (aS w0) w0 X w) (xs).length ⟨0,_,rfl,rfl,rfl,aP _,hs⟩ ?_;rintro n a b w X ⟨i,s,rfl,rfl,rfl,hi,hs⟩;repeat' first|refine aN ?_;intros|refine du ?_ ?_<;>intros|((with_reducible apply AD);assumption;(try (case hz=>rfl));(case hr=>exact qR);(try (case hz=>omega));(case ht=>kernel_rfl);(case hs=>kernel_rfl);intros)|((first|(with_reducible refine aj hs ?_)|(with_reducible refine aj (bL.trans hs) ?_));intro wa hk;exact⟨_,rfl⟩)|(refine gY (gC  _ _ _ _ _) kQ hs.has ?_;intro n1 w X ax;replace hs:=hs.trans ax)|(refine gY (nH  qA) kQ hs.has ?_;intro n1 w X ax;replace hs:=hs.trans ax)|(refine gY (mW  qA) kQ hs.has ?_;intro n1 w X ax;replace hs:=hs.trans ax)|((with_reducible refine fT ((xs).length-(i+1)) ?_ ?_);omega;exact⟨i+1,_,by simp,rfl,rfl,by omega,hs⟩)|with_reducible apply jo
theorem x6 {w:World} {X:XS} {a:Value} {xs:List fk} {most:Int} (ha:gb w X a xs):
  Ct pg 24 #[a,I most] w X nX wH:=by
 intro w0 hk;replace ha:=ha.mv hk.cO;have jG:=ha.len;apply wM;unfold oS;have hs:=ak.init w0;refine Df (fun n a _ b w X=> ∃(i:Nat) (s:Int),a=I i∧b=I s∧n=xs.length-i∧i≤xs.length∧ak (aS w0) w0 X w) xs.length ⟨0,_,rfl,rfl,rfl,aP _,hs⟩ ?_;rintro n a a2 b w X ⟨i,s,rfl,rfl,rfl,hi,hs⟩;repeat' first|refine aN ?_;intros|refine du ?_ ?_<;>intros|((with_reducible apply yJ);assumption;(try (case hz=>rfl));(case hr=>exact qR);(try (case hz=>omega));(case ht=>kernel_rfl);(case hs=>kernel_rfl);intros)|((first|(with_reducible refine aj hs ?_)|(with_reducible refine aj (bL.trans hs) ?_));intro wa hk;exact⟨_,rfl⟩)|(refine gY (gC  _ _ _ _ _) kQ hs.has ?_;intro n1 w X ax;replace hs:=hs.trans ax)|with_reducible apply jo
 have dA:i<xs.length:=by omega
 obtain⟨x,hx,hd⟩:=uH dA;refine fS (fun n a b w X=> ∃(k:Nat) (s:Int),a=I k∧b=I s∧n=x.eZ.length-k∧k≤x.eZ.length∧ak (aS w0) w0 X w) x.eZ.length ⟨0,_,rfl,rfl,rfl,aP _,hs⟩ ?_;rintro n a b w X ⟨k,s,rfl,rfl,rfl,hk,hs⟩;repeat' first|refine aN ?_;intros|refine du ?_ ?_<;>intros|((with_reducible apply yJ);assumption;(try (case hz=>rfl));(case hr=>exact qR);(try (case hz=>omega));(case ht=>kernel_rfl);(case hs=>kernel_rfl);intros)|(refine gY (gC  _ _ _ _ _) kQ hs.has ?_;intro n1 w X ax;replace hs:=hs.trans ax)|((with_reducible refine Iq ((xs).length-(i+1)) ?_ ?_);omega;exact⟨i+1,_,by simp,rfl,rfl,by omega,hs⟩)|((with_reducible refine fT (x.eZ.length-(k+1)) ?_ ?_);omega;exact⟨k+1,_,by simp,rfl,rfl,by omega,hs⟩)|(have hl9:=Sl.gH ‹Sl w0 (aS w0) 6 _ (List.map fJ.l x.eZ)›;(with_reducible apply W7);omega;omega)|with_reducible apply jo
theorem kr {w:World} {X:XS} {s:State} {vh vp:Value} {most:Int} (ha:gb w X vh s.dM) (hb:ga w X vp s.dh):
  Ct pg 6 #[s.v vh vp,I most] w X nX wH:=by
 intro w0 hk;replace ha:=ha.mv hk.cO;replace hb:=hb.mv hk.cO;apply Ab;unfold se;have hs:=ak.init w0;repeat' first|((first|(with_reducible refine aj hs ?_)|(with_reducible refine aj (bL.trans hs) ?_));intro wa hk;exact⟨_,rfl⟩)|(refine gY (gC  _ _ _ _ _) kQ hs.has ?_;intro n1 w X ax;replace hs:=hs.trans ax)|(refine gY (x6  qA) kQ hs.has ?_;intro n1 w X ax;replace hs:=hs.trans ax)|(refine gY (ya  qA) kQ hs.has ?_;intro n1 w X ax;replace hs:=hs.trans ax)
theorem Dp {w:World} {X:XS} {r:Rec} {vr vw vp vq vh vd:Value} {most:Int} (ha:r.at w X vr vw vp vq vh vd):
  Ct pg 61 #[r.v vr vw vp vq vh vd,I most] w X nX wH:=by
 intro w0 hk;obtain⟨h1,h2,h3,h4,h5,h6⟩:=ha.mv hk.cO;have jG:=h4.gH;apply Cm;unfold ua;have hs:=ak.init w0;repeat' first|refine aN ?_;intros|(refine gY (gC  _ _ _ _ _) kQ hs.has ?_;intro n1 w X ax;replace hs:=hs.trans ax)|(refine gY (nH  qA) kQ hs.has ?_;intro n1 w X ax;replace hs:=hs.trans ax)|(refine gY (mW  qA) kQ hs.has ?_;intro n1 w X ax;replace hs:=hs.trans ax)|with_reducible apply jo
 refine fS (fun n a b w X=> ∃(i:Nat) (s:Int),a=I i∧b=I s∧n=(r.oM).length-i∧i≤(r.oM).length∧ak (aS w0) w0 X w) (r.oM).length ⟨0,_,rfl,rfl,rfl,aP _,hs⟩ ?_;rintro n a b w X ⟨i,s,rfl,rfl,rfl,hi,hs⟩;repeat' first|refine aN ?_;intros|refine du ?_ ?_<;>intros|((first|(with_reducible refine aj hs ?_)|(with_reducible refine aj (bL.trans hs) ?_));intro wa hk;exact⟨_,rfl⟩)|(refine gY (gC  _ _ _ _ _) kQ hs.has ?_;intro n1 w X ax;replace hs:=hs.trans ax)|(refine gY (kr  (s:=r.state) qA qA) kQ hs.has ?_;intro n1 w X ax;replace hs:=hs.trans ax)|((with_reducible refine fT ((r.oM).length-(i+1)) ?_ ?_);omega;exact⟨i+1,_,by simp,rfl,rfl,by omega,hs⟩)|with_reducible apply jo
def ou (s:BA):Bool:=decide ((s.size:Int)≥1)&&decide ((s.size:Int)≤24)
theorem mj (s:BA):Pure pg 215 #[.string s] (B (ou s)):=by
 intro w0;apply OH;unfold D9;have hs:=ak.init w0;repeat' first|refine aN ?_;intros|refine du ?_ ?_<;>intros|(with_reducible refine fm hs ?_);simp_all [ou]<;>omega
theorem HZ (r:ic) (x:Nat):Pure pg 159 #[r.v,.float .f64 x] (B ((Ir x r.lo||zH x r.lo)&&Dy x r.hi)):=by
 intro w0;apply P6;unfold Gk;have hs:=ak.init w0;repeat' first|refine aN ?_;intros|refine du ?_ ?_<;>intros|(with_reducible refine fm hs ?_);(simp_all<;>grind)
def canon (x:Nat):Nat:=if zH x x then x else 9221120237041090560
theorem Qb (x:Nat):Pure pg 271 #[.float .f64 x] (.float .f64 (canon x)):=by
 intro w0;apply OK;unfold Ec;have hs:=ak.init w0;repeat' first|refine aN ?_;intros|refine du ?_ ?_<;>intros|(with_reducible refine fm hs ?_);simp_all [canon]|((with_reducible refine xN (v:=.float .f64 9221120237041090560) ?_ hs.has ?_);(· intro wa;kernel_rfl);intro w X ax;replace hs:=hs.trans ax)
theorem Bm (x:Nat):Pure pg 233 #[.float .f64 x] (.int .u64 (canon x)):=by
 intro w0;apply Qa;unfold Gp;have hs:=ak.init w0;repeat' first|((with_reducible refine jj (Qb _) ?_ hs.has ?_);(· kernel_rfl);intro w X ax;replace hs:=hs.trans ax)|(with_reducible refine fm hs ?_);rfl|((with_reducible refine xN (uJ _) hs.has ?_);intro w X ax;replace hs:=hs.trans ax)
def land (a b:Int):Int:=IntKind.u64.wrap (bE IntKind.u64.bits a&&& bE IntKind.u64.bits b).toNat
def J7 (a b:Int):Int:=IntKind.u64.wrap (bE IntKind.u64.bits a^^^bE IntKind.u64.bits b).toNat
def Bn (a n:Int):Int:=a.fdiv (2^min n.toNat IntKind.u64.bits)
def OL (a b:Int):Int:=IntKind.u64.wrap (a*b)
theorem aa7 {P:Program} {X:XS} {w:World} {N:Value→Prop} {t:TypeId} {a b:Int} (h:N (.int .u64 (land a b))):ad P X w (binOp .and t (.int .u64 a) (.int .u64 b)) N:=QO h
theorem IY {P:Program} {X:XS} {w:World} {N:Value→Prop} {t:TypeId} {a b:Int} (h:N (.int .u64 (J7 a b))):ad P X w (binOp .xor t (.int .u64 a) (.int .u64 b)) N:=Jr h
theorem Ek {P:Program} {X:XS} {w:World} {N:Value→Prop} {t:TypeId} {a b:Int} (hb: ¬b<0) (h:N (.int .u64 (Bn a b))):ad P X w (binOp .shr t (.int .u64 a) (.int .u64 b)) N:=zG hb h
theorem OM {P:Program} {X:XS} {w:World} {N:Value→Prop} {t:TypeId} {a b:Int} (h:N (.int .u64 (OL a b))):ad P X w (binOp .mul t (.int .u64 a) (.int .u64 b)) N:=Yq h
def cls (x:Nat):Int:=
 let b:Int:=canon x
 let e:=land (Bn b 52) 2047
 let f:=land b 4503599627370495
 if e=2047∧f≠0 then 0 else
  let k:=if e=2047 then 8 else if e>0 then 7 else if f>0 then 6 else 5
  if land b 9223372036854775808≠0 then 9-k else k
theorem Gq (x:Nat):Pure pg 172 #[.float .f64 x] (I (cls x)):=by
 intro w0;apply Oy;unfold DP;have hs:=ak.init w0;repeat' first|refine aN ?_;intros|refine du ?_ ?_<;>intros|with_reducible apply dg|((with_reducible refine jj (Bm _) ?_ hs.has ?_);(· kernel_rfl);intro w X ax;replace hs:=hs.trans ax)|(with_reducible refine fm hs ?_);(simp only [cls] at*;grind)|with_reducible apply aa7|(with_reducible apply Ek);omega
def Aw:Nat:=4607182418800017408
def Ae (x:Nat):Bool:=decide (cls x≥5)&&(Dy x Aw||zH x Aw)
theorem BU (x:Nat):Pure pg 112 #[.float .f64 x] (B (Ae x)):=by
 intro w0;apply JQ;unfold zP;have hs:=ak.init w0;repeat' first|refine aN ?_;intros|refine du ?_ ?_<;>intros|((with_reducible refine jj (Gq _) ?_ hs.has ?_);(· kernel_rfl);intro w X ax;replace hs:=hs.trans ax)|(with_reducible refine fm hs ?_);(simp_all [Ae,Aw]<;>grind)
def wW (x:Nat):Nat×Int:=if cls x=4 then(0,0)else if Ae x then(x,0)else(0,1)
theorem Lv (x:Nat):Pure pg 237 #[.float .f64 x] (.tuple #[.float .f64 (wW x).1,I (wW x).2]):=by
 intro w0;apply JY;unfold zX;have hs:=ak.init w0;repeat' first|refine aN ?_;intros|refine du ?_ ?_<;>intros|((with_reducible refine dw (BU _) ?_ hs.has ?_ ?_);(· kernel_rfl);all_goals (intro _ w X ax;replace hs:=hs.trans ax))|((with_reducible refine jj (Gq _) ?_ hs.has ?_);(· kernel_rfl);intro w X ax;replace hs:=hs.trans ax)|(with_reducible refine fm hs ?_);(simp_all [wW]<;>grind)
def ic.may (r:ic):Bool:=decide (r.id≥1)&&decide (r.id≤12)&&decide (r.gw≥0)&&Ae r.lo&&Ae r.hi&&Dy r.lo r.hi
theorem Gr (r:ic):Pure pg 111 #[r.v] (B r.may):=by
 intro w0;apply Ox;unfold DN;have hs:=ak.init w0;repeat' first|refine aN ?_;intros|refine du ?_ ?_<;>intros|with_reducible apply dg|((with_reducible refine dw (BU _) ?_ hs.has ?_ ?_);(· kernel_rfl);all_goals (intro _ w X ax;replace hs:=hs.trans ax))|(with_reducible refine fm hs ?_);(simp_all [ic.may]<;>omega)
def kF.may (v:kF):Bool:=
 if v.kind=0 then decide (v.num=0)&&decide (v.text=⟨#[]⟩)
 else if v.kind=1 then decide (v.text=⟨#[]⟩)&&decide (v.num=canon v.num)
 else if v.kind=2 then decide (v.num=0)&&decide ((v.text.size:Int)≤64)
 else false
theorem kH (v:kF):Pure pg 204 #[v.v] (B v.may):=by
 intro w0;apply OD;unfold DW;have hs:=ak.init w0;repeat' first|refine aN ?_;intros|refine du ?_ ?_<;>intros|with_reducible apply dg|((with_reducible refine jj (Bm _) ?_ hs.has ?_);(· kernel_rfl);intro w X ax;replace hs:=hs.trans ax)|(with_reducible refine fm hs ?_);(simp_all [kF.may]<;>omega)|((with_reducible refine xN (uJ _) hs.has ?_);intro w X ax;replace hs:=hs.trans ax)
def Si (h:Int) (b:UInt8):Int:=OL (J7 h (IntKind.u64.wrap b.toNat)) 1099511628211
def aa8 (h:Int):Nat→Int
 |0=>h
 |1=>OL (J7 h (Bn h 33)) 18397679294719823053
 |_=>let g:=OL (J7 h (Bn h 33)) 18397679294719823053;OL (J7 g (Bn g 33)) 14181476777654086739
def El (s:BA):Int:=let h:=aa8 (s.data.toList.foldl Si 14695981039346656037) 2;J7 h (Bn h 33)
theorem ON (s:BA) (adf:s.size≤2^62):Pure pg 220 #[.string s] (.int .u64 (El s)):=by
 intro w0;have gy:=KO s;apply Lr;unfold BQ;have hs:=ak.init w0;repeat' first|refine aN ?_;intros
 refine fS (fun n a b w X=> ∃(i:Nat) (h:Int),a=I i∧b= .int .u64 h∧n=s.data.toList.length-i∧i≤s.data.toList.length∧ak (aS w0) w0 X w∧
  s.data.toList.foldl Si 14695981039346656037=(s.data.toList.drop i).foldl Si h) s.data.toList.length ?_ ?_
 ·exact⟨0,14695981039346656037,rfl,rfl,rfl,aP _,hs,by rw [gu]⟩
 rintro n a b w X ⟨i,h,rfl,rfl,rfl,hi,hs,hw⟩;rcases eG s.data.toList i with⟨dA,x,hx,hd⟩|⟨ec,hd⟩
 ·repeat' first|refine bY ?_;intros|with_reducible (first|apply IY|apply OM)|((with_reducible refine fT ((s.data.toList).length-(i+1)) ?_ ?_);omega;exact⟨i+1,_,by simp,rfl,rfl,by omega,hs,by rw [hw,hd,uk];rfl⟩)
 ·repeat' first|refine bY ?_;intros
  rw [hd] at hw;refine fS (fun n a b w X=> ∃(i:Nat),a=I i∧b= .int .u64 (aa8 h i)∧n=2-i∧i≤2∧ak (aS w0) w0 X w) 2 ⟨0,rfl,rfl,rfl,aP _,hs⟩ ?_;rintro n a b w X ⟨i,rfl,rfl,rfl,hi,hs⟩;obtain rfl|rfl|rfl:i=0∨i=1∨i=2:=by omega
  ·repeat' first|refine bY ?_;intros|(with_reducible apply IY)|(with_reducible apply OM)|(with_reducible apply Ek);omega|(with_reducible refine fT 1 ?_ ?_);omega;exact⟨1,rfl,rfl,rfl,by omega,hs⟩
  ·repeat' first|refine bY ?_;intros|(with_reducible apply IY)|(with_reducible apply OM)|(with_reducible apply Ek);omega|(with_reducible refine fT 0 ?_ ?_);omega;exact⟨2,rfl,rfl,rfl,by omega,hs⟩
  ·repeat' first|refine bY ?_;intros|(with_reducible refine fm hs ?_);(simp only [El,hw];rfl)|(with_reducible apply IY)|(with_reducible apply Ek);omega
theorem Sj (n:Int): ∃r,floatBits .quo .f64 (floatOfInt .f64 n) 4845873199050653696=some r:=by
 have hn:(Ieee.double.read (floatOfInt .f64 n)).isNaN=false:=NU _ _ _ _;have hd:Ieee.double.read 4845873199050653696= .number false 4503599627370496 1:=by kernel_rfl
 show∃r,((Ieee.double.read (floatOfInt .f64 n)).quotient _ (Ieee.double.read 4845873199050653696)).map _=some r
 rw [hd];cases hr:Ieee.double.read (floatOfInt .f64 n)with
 |number s m p=>simp [qa]
 |infinity s=>simp [qa]
 |nan s f=>rw [hr] at hn;simp [Ieee.Datum.isNaN] at hn
def placeOf (s:BA):Nat:=(floatBits .quo .f64 (floatOfInt .f64 (Bn (El s) 11)) 4845873199050653696).getD 0
theorem Sk (s:BA):floatBits .quo .f64 (floatOfInt .f64 (Bn (El s) 11)) 4845873199050653696=some (placeOf s):=by
 obtain⟨r,hr⟩:=Sj (Bn (El s) 11);rw [placeOf,hr];rfl
theorem H9 (s:BA) (adf:s.size≤2^62):Pure pg 160 #[.string s] (.float .f64 (placeOf s)):=by
 intro w0;apply P7;unfold Gl;have hs:=ak.init w0;repeat' first|refine aN ?_;intros|((with_reducible refine jj (ON _ (by first|assumption|omega)) ?_ hs.has ?_);(· kernel_rfl);intro w X ax;replace hs:=hs.trans ax)|(with_reducible refine fm hs ?_);rfl|(with_reducible apply Ek);omega|(with_reducible apply ab3);(· exact Sk s)
def rising (l:List BA):Bool:=chain ou xE none l
def pP (l:List BA):Bool:=rising l&&decide ((l.length:Int)≤16)
theorem Qc {w:World} {X:XS} {a:Value} {xs:List BA} (ha:Sl w X 1 a (xs.map S1)):
  Ct pg 202 #[a] w X nX fun v _ _=>v=B (pP xs):=by
 intro w0 hk;replace ha:=ha.mv hk.cO;have jG:=ha.gH;apply OC;unfold DV;have hs:=ak.init w0;repeat' first|refine aN ?_;intros
 refine eQ (fun n a w X=> ∃i:Nat,a=I (i:Nat)∧n=(xs).length-i∧i≤(xs).length∧ak (aS w0) w0 X w∧chain ou xE none xs=chain ou xE (lN xs i) (xs.drop i)) (xs).length ⟨0,rfl,rfl,aP _,hs,by simp [lN]⟩ ?_;rintro n a w X ⟨i,rfl,rfl,hi,hs,hw⟩;rcases eG (xs) i with⟨dA,x,hx,hd⟩|⟨ec,hd⟩
 ·rcases EJ dA with⟨h0,hp⟩|⟨h0,y,hy,hp⟩<;>rw [hp,hd,chain] at hw<;>clear hd
  ·repeat' first|refine bY ?_;intros|((with_reducible refine dw (mj _) ?_ hs.has ?_ ?_);(· kernel_rfl);all_goals (intro _ w X ax;replace hs:=hs.trans ax))|((first|(with_reducible refine aj hs ?_)|(with_reducible refine aj (bL.trans hs) ?_));intro wa hk;simp_all [pP,rising,chain])|((with_reducible refine eT ((xs).length-(i+1)) ?_ ?_);omega;exact⟨i+1,by simp,rfl,by omega,hs,by rw [hw,kG hx];simp [*]⟩)
  ·repeat' first|refine bY ?_;intros|refine du ?_ ?_<;>intros|((with_reducible refine dw (mj _) ?_ hs.has ?_ ?_);(· kernel_rfl);all_goals (intro _ w X ax;replace hs:=hs.trans ax))|((first|(with_reducible refine aj hs ?_)|(with_reducible refine aj (bL.trans hs) ?_));intro wa hk;simp_all [pP,rising,chain])|((with_reducible refine eT ((xs).length-(i+1)) ?_ ?_);omega;exact⟨i+1,by simp,rfl,by omega,hs,by rw [hw,kG hx];simp [*]⟩)
 ·repeat' first|refine bY ?_;intros|refine du ?_ ?_<;>intros|((first|(with_reducible refine aj hs ?_)|(with_reducible refine aj (bL.trans hs) ?_));intro wa hk;simp_all [pP,rising,chain]<;>omega)
def Em (l:List KV):Bool:=pP (l.map (·.key))&&l.all (·.val.may)
theorem Ho {w:World} {X:XS} {a:Value} {xs:List KV} (ha:Sl w X 4 a (xs.map KV.l)) (hb:xs.length≤2^40):
  Ct pg 203 #[a] w X nX fun v wa w'=>Own w' (made wa w') wa.heap.size 9 1 v ((xs.map (·.key)).map S1):=by
 intro w0 hk;replace ha:=ha.mv hk.cO;have jG:=ha.gH;apply Fp;unfold wz;have hs:=ak.init w0;repeat' first|refine aN ?_;intros
 refine fS (fun n a b w X=> ∃i:Nat,a=I i∧n=xs.length-i∧i≤xs.length∧ak (aS w0) w0 X w∧Own w X w0.heap.size 9 1 b (((xs.take i).map (·.key)).map S1)) xs.length ⟨0,rfl,rfl,aP _,hs,Own.nil _ _ _ _ _⟩ ?_;rintro n a b w X ⟨i,rfl,rfl,hi,hs,ho⟩;rcases eG (xs) i with⟨dA,x,hx,hd⟩|⟨ec,hd⟩
 ·repeat' first|refine bY ?_;intros|((with_reducible apply Js);(case own=>first|assumption|exact Own.since (by assumption) (by assumption));(case hs=>assumption);(case h0=>first|exact fun _ h=>h|exact bL.has);(case he=>kernel_rfl);(case hk=>rfl);(case ho=>first|rfl|assumption);(case hb=>(simp only [bm,dx,ah,bO,bA];omega));(case hl=>(simp only [bm,dx,ah,bO,bA];omega));intro acc w X ax ho hc fe;replace hs:=ax)|((with_reducible refine fT ((xs).length-(i+1)) ?_ ?_);omega;exact⟨i+1,by simp,rfl,by omega,hs,by rw [gh,hx];simpa using ho⟩)
 ·repeat' first|refine bY ?_;intros|((first|(with_reducible refine aj hs ?_)|(with_reducible refine aj (bL.trans hs) ?_));intro wa hk;(rw [cd ec] at ho;exact(ho.kp hk).tight))
def cx.err (p:cx):Int:=
 if !p.dq.may then 4 else if !p.bb.may||decide (p.bb= .zero)then 17
 else if !pP p.reads||!pP (p.writes.map (·.key))then 4
 else if p.writes.all (·.val.may)then 0 else 4
theorem mw {w:World} {X:XS} {p:cx} {vr vw:Value} (h1:Sl w X 1 vr (p.reads.map S1)) (h2:Sl w X 4 vw (p.writes.map KV.l)) (hb:p.writes.length≤2^40):
  Ct pg 137 #[p.v vr vw] w X nX fun v _ _=>v=I p.err:=by
 intro w0 hk;replace h1:=h1.mv hk.cO;replace h2:=h2.mv hk.cO;have jG:=h2.gH;apply Eg;unfold vA;have hs:=ak.init w0;repeat' first|refine aN ?_;intros|(with_reducible refine x5 _ ?_ ?_ ?_);(· kernel_rfl);all_goals intros|with_reducible apply dg|((with_reducible refine dw (jT _) ?_ hs.has ?_ ?_);(· kernel_rfl);all_goals (intro _ w X ax;replace hs:=hs.trans ax))|((with_reducible refine dw (vJ _) ?_ hs.has ?_ ?_);(· kernel_rfl);all_goals (intro _ w X ax;replace hs:=hs.trans ax))|((first|(with_reducible refine aj hs ?_)|(with_reducible refine aj (bL.trans hs) ?_));intro wa hk;simp_all [cx.err])|(refine ew (Qc  qA) kQ hs.has ?_ ?_<;>(intro _ w X ax;replace hs:=hs.trans ax))|(refine dW (Ho  qA qA) kQ hs.has ?_;rintro v1 wa w X po hle gF ax;have eo:=af hs.kp.size hle;replace hs:=hs.trans ax;replace po:=po.up gF eo)
 refine eQ (fun n a w X=> ∃i:Nat,a=I (i:Nat)∧n=(p.writes).length-i∧i≤(p.writes).length∧ak (aS w0) w0 X w∧p.writes.all (·.val.may)=(p.writes.drop i).all (·.val.may)) (p.writes).length ⟨0,rfl,rfl,aP _,hs,by simp⟩ ?_;rintro n a w X ⟨i,rfl,rfl,hi,hs,hw⟩;rcases eG (p.writes) i with⟨dA,x,hx,hd⟩|⟨ec,hd⟩
 ·repeat' first|refine bY ?_;intros|((with_reducible refine dw (kH _) ?_ hs.has ?_ ?_);(· kernel_rfl);all_goals (intro _ w X ax;replace hs:=hs.trans ax))|((first|(with_reducible refine aj hs ?_)|(with_reducible refine aj (bL.trans hs) ?_));intro wa hk;simp_all [cx.err])|((with_reducible refine eT ((p.writes).length-(i+1)) ?_ ?_);omega;exact⟨i+1,by simp,rfl,by omega,hs,by rw [hw,hd];simp [*]⟩)
 ·repeat' first|refine bY ?_;intros|((first|(with_reducible refine aj hs ?_)|(with_reducible refine aj (bL.trans hs) ?_));intro wa hk;simp_all [cx.err])
def uK (l:List Int):Bool:=chain (fun n=>decide (n≥1)&&decide (n≤12)) (fun a b=>decide (a<b)) none l&&decide (l≠[])
theorem En {w:World} {X:XS} {a:Value} {xs:List Int} (ha:Sl w X 1 a (xs.map I1)):
  Ct pg 213 #[a] w X nX fun v _ _=>v=B (uK xs):=by
 intro w0 hk;replace ha:=ha.mv hk.cO;have jG:=ha.gH;apply Lq;unfold BP;have hs:=ak.init w0;repeat' first|refine aN ?_;intros
 refine eQ (fun n a w X=> ∃i:Nat,a=I (i:Nat)∧n=(xs).length-i∧i≤(xs).length∧ak (aS w0) w0 X w∧chain (fun n=>decide (n≥1)&&decide (n≤12)) (fun a b=>decide (a<b)) none xs=chain (fun n=>decide (n≥1)&&decide (n≤12)) (fun a b=>decide (a<b)) (lN xs i) (xs.drop i)) (xs).length ⟨0,rfl,rfl,aP _,hs,by simp [lN]⟩ ?_;rintro n a w X ⟨i,rfl,rfl,hi,hs,hw⟩;rcases eG (xs) i with⟨dA,x,hx,hd⟩|⟨ec,hd⟩
 ·rcases EJ dA with⟨h0,hp⟩|⟨h0,y,hy,hp⟩<;>rw [hp,hd,chain] at hw<;>clear hd
  ·repeat' first|refine bY ?_;intros|refine du ?_ ?_<;>intros|((first|(with_reducible refine aj hs ?_)|(with_reducible refine aj (bL.trans hs) ?_));intro wa hk;(simp_all [uK,chain]<;>omega))|((with_reducible refine eT ((xs).length-(i+1)) ?_ ?_);omega;exact⟨i+1,by simp,rfl,by omega,hs,by rw [hw,kG hx];simp_all<;>omega⟩)
  ·repeat' first|refine bY ?_;intros|refine du ?_ ?_<;>intros|((first|(with_reducible refine aj hs ?_)|(with_reducible refine aj (bL.trans hs) ?_));intro wa hk;(simp_all [uK,chain]<;>omega))|((with_reducible refine eT ((xs).length-(i+1)) ?_ ?_);omega;exact⟨i+1,by simp,rfl,by omega,hs,by rw [hw,kG hx];simp_all<;>omega⟩)
 ·repeat' first|refine bY ?_;intros|refine du ?_ ?_<;>intros|((first|(with_reducible refine aj hs ?_)|(with_reducible refine aj (bL.trans hs) ?_));intro wa hk;(simp_all [uK,chain]<;>grind))
def EP (l:List KV):Bool:=chain (fun x=>ou x.key&&x.val.may&&decide (x.val.kind≠0)) (fun a b=>xE a.key b.key) none l
theorem OO {w:World} {X:XS} {a:Value} {xs:List KV} (ha:Sl w X 4 a (xs.map KV.l)):
  Ct pg 240 #[a] w X nX fun v _ _=>v=B (EP xs):=by
 intro w0 hk;replace ha:=ha.mv hk.cO;have jG:=ha.gH;apply Ls;unfold BR;have hs:=ak.init w0;repeat' first|refine aN ?_;intros
 refine eQ (fun n a w X=> ∃i:Nat,a=I (i:Nat)∧n=(xs).length-i∧i≤(xs).length∧ak (aS w0) w0 X w∧EP xs=chain (fun x=>ou x.key&&x.val.may&&decide (x.val.kind≠0)) (fun a b=>xE a.key b.key) (lN xs i) (xs.drop i)) (xs).length ⟨0,rfl,rfl,aP _,hs,by simp [lN,EP]⟩ ?_;rintro n a w X ⟨i,rfl,rfl,hi,hs,hw⟩;rcases eG (xs) i with⟨dA,x,hx,hd⟩|⟨ec,hd⟩
 ·rcases EJ dA with⟨h0,hp⟩|⟨h0,y,hy,hp⟩<;>rw [hp,hd,chain] at hw<;>clear hd
  ·repeat' first|refine bY ?_;intros|refine du ?_ ?_<;>intros|with_reducible apply dg|((with_reducible refine dw (kH _) ?_ hs.has ?_ ?_);(· kernel_rfl);all_goals (intro _ w X ax;replace hs:=hs.trans ax))|((with_reducible refine dw (mj _) ?_ hs.has ?_ ?_);(· kernel_rfl);all_goals (intro _ w X ax;replace hs:=hs.trans ax))|((first|(with_reducible refine aj hs ?_)|(with_reducible refine aj (bL.trans hs) ?_));intro wa hk;(simp_all [chain]<;>omega))|((with_reducible refine eT ((xs).length-(i+1)) ?_ ?_);omega;exact⟨i+1,by simp,rfl,by omega,hs,by rw [hw,kG hx];simp_all<;>omega⟩)
  ·repeat' first|refine bY ?_;intros|refine du ?_ ?_<;>intros|with_reducible apply dg|((with_reducible refine dw (kH _) ?_ hs.has ?_ ?_);(· kernel_rfl);all_goals (intro _ w X ax;replace hs:=hs.trans ax))|((with_reducible refine dw (mj _) ?_ hs.has ?_ ?_);(· kernel_rfl);all_goals (intro _ w X ax;replace hs:=hs.trans ax))|((first|(with_reducible refine aj hs ?_)|(with_reducible refine aj (bL.trans hs) ?_));intro wa hk;(simp_all [chain]<;>omega))|((with_reducible refine eT ((xs).length-(i+1)) ?_ ?_);omega;exact⟨i+1,by simp,rfl,by omega,hs,by rw [hw,kG hx];simp_all<;>omega⟩)
 ·repeat' first|refine bY ?_;intros|((first|(with_reducible refine aj hs ?_)|(with_reducible refine aj (bL.trans hs) ?_));intro wa hk;(simp_all [chain]<;>grind))
abbrev ic.zero:ic:=⟨0,0,0,0⟩
abbrev State.zero:State:=⟨.zero,.zero,.zero,[],[]⟩
def State.isZero (s:State):Bool:=decide (s.range= .zero)&&decide (s.floor= .zero)&&decide (s.closed= .zero)&&decide (s.dM=[])&&decide (s.dh=[])
theorem Hp {w:World} {X:XS} {s:State} {vh vp:Value} (h1:gb w X vh s.dM) (h2:ga w X vp s.dh):
  Ct pg 235 #[s.v vh vp] w X nX fun v _ _=>v=B s.isZero:=by
 intro w0 hk;replace h1:=h1.mv hk.cO;replace h2:=h2.mv hk.cO;apply Fs;unfold wB;have hs:=ak.init w0;repeat' first|refine aN ?_;intros|refine du ?_ ?_<;>intros|(with_reducible refine x5 _ ?_ ?_ ?_);(· kernel_rfl);all_goals intros|with_reducible apply dg|((first|(with_reducible refine aj hs ?_)|(with_reducible refine aj (bL.trans hs) ?_));intro wa hk;(simp_all [State.isZero,ic.ext_iff]))|((with_reducible refine xN (uJ _) hs.has ?_);intro w X ax;replace hs:=hs.trans ax)
def Rec.isZero (r:Rec):Bool:=decide (r.dq= .zero)&&decide (r.bb= .zero)&&decide (r.prev= .zero)&&!r.iq&&decide (r.n=0)&&decide (r.jI=0)&&
 decide (r.reads=[])&&decide (r.writes=[])&&decide (r.parts=[])&&decide (r.oM=[])&&r.state.isZero
theorem Qd {w:World} {X:XS} {r:Rec} {vr vw vp vq vh vd:Value} (h:r.at w X vr vw vp vq vh vd):
  Ct pg 175 #[r.v vr vw vp vq vh vd] w X nX fun v _ _=>v=B r.isZero:=by
 intro w0 hk;obtain⟨h1,h2,h3,h4,h5,h6⟩:=h.mv hk.cO;apply Oz;unfold DQ;have hs:=ak.init w0;cases hc:r.iq<;>
 repeat' first|refine aN ?_;intros|refine du ?_ ?_<;>intros|(with_reducible refine x5 _ ?_ ?_ ?_);(· kernel_rfl);all_goals intros|(with_reducible refine Uc _ ?_ ?_ ?_);(· kernel_rfl);all_goals intros|with_reducible apply dg|((first|(with_reducible refine aj hs ?_)|(with_reducible refine aj (bL.trans hs) ?_));intro wa hk;(simp_all [Rec.isZero]))|((with_reducible refine xN (uJ _) hs.has ?_);intro w X ax;replace hs:=hs.trans ax)|(refine ew (Hp  (s:=r.state) qA qA) kQ hs.has ?_ ?_<;>(intro _ w X ax;replace hs:=hs.trans ax))
def Rec.strip (r:Rec):Rec×Bool:=
 if r.kind=1 then({ r with state:=.zero },true)
 else if r.kind=2∨r.kind=7∨r.kind=8 then({ r with n:=0 },true)
 else if r.kind=3 then({ r with dq:=.zero,bb:=.zero,reads:=[],writes:=[],parts:=[] },true)
 else if r.kind=4 then({ r with dq:=.zero,iq:=false,bb:=.zero },true)
 else if r.kind=5 then({ r with bb:=.zero },true)
 else if r.kind=6 then({ r with jI:=0,n:=0,bb:=.zero },true)
 else if r.kind=9 then({ r with dq:=.zero,bb:=.zero,parts:=[] },true)
 else if r.kind=10 then({ r with dq:=.zero },true)
 else if r.kind=11 then({ r with prev:=.zero,bb:=.zero,dq:=.zero,writes:=[] },true)
 else if r.kind=12 then({ r with bb:=.zero,oM:=[] },true)
 else(r,false)
theorem J8 {w:World} {X:XS} {r:Rec} {vr vw vp vq vh vd:Value} (h:r.at w X vr vw vp vq vh vd):
  Ct pg 174 #[r.v vr vw vp vq vh vd] w X nX fun v _ _=> ∃OP OQ OR vq' OS OT,v= .tuple #[r.strip.1.v OP OQ OR vq' OS OT,B r.strip.2]∧
   r.strip.1.at w X OP OQ OR vq' OS OT:=by
 intro w0 hk;obtain⟨h1,h2,h3,h4,h5,h6⟩:=h;have o1:=h1.one;have o2:=h2.one;have o3:=h3.one;have o4:=h4.one;have o5:=h5.one;have o6:=h6.one;apply IS;unfold yG;have hs:=ak.init w0;have n1:Sl w X 1 (.slice none 0 0) (([]:List BA).map S1):=Sl.nil _ _ _;have n2:Sl w X 4 (.slice none 0 0) (([]:List KV).map KV.l):=Sl.nil _ _ _;have n3:Sl w X 1 (.slice none 0 0) (([]:List Int).map I1):=Sl.nil _ _ _;have n4:gb w X (.slice none 0 0) []:=eE.nil _ _ _;have n5:ga w X (.slice none 0 0) []:=eE.nil _ _ _;repeat' first|refine aN ?_;intros|refine du ?_ ?_<;>intros|with_reducible apply dg
 all_goals
  refine aj hs ?_;intro wa bt;unfold Rec.strip;repeat (first|rw [if_pos zQ]|rw [if_neg zQ])
  exact⟨_,_,_,_,_,_,rfl,by assumption,by assumption,by assumption,by assumption,by assumption,by assumption⟩
theorem Lw {w:World} {X:XS} {a:Value} {xs:List BA} (ha:Sl w X 1 a (xs.map S1)) (hb:xs.length≤2^40):
  Ct pg 163 #[a] w X nX fun v wa w'=>Own w' (made wa w') wa.heap.size 9 1 v (xs.map S1):=by
  intro w0 hk;replace ha:=ha.mv hk.cO;apply rM;unfold kT;have hs:=ak.init w0;repeat' first|refine aN ?_;intros|refine du ?_ ?_<;>intros|(with_reducible apply LS);(case hX=>exact hs.has);(case hu=>kernel_rfl);(case hz=>kernel_rfl);intro acc w X ax ho;replace hs:=hs.trans ax|((first|(with_reducible refine aj hs ?_)|(with_reducible refine aj (bL.trans hs) ?_));intro wa hk;(first|(rename_i h1 h2;(first|(rw [h2])|skip);exact Own.nil _ _ _ _ _)|exact(ho.kp hk).tight))|((with_reducible apply Iv);(case own=>assumption);(case hs=>assumption);(case h0=>exact fun _ h=>h);(case he=>kernel_rfl);(case src=>exact Sl.mv ha (ak.mv hs));(case h1=>simp [aX.one]);(case hb=>simp;omega);(case hl=>simp;omega);intro acc w X ax ho hc fe;replace hs:=ax;rw [dG] at ho)
theorem J9 {w:World} {X:XS} {a:Value} {xs:List KV} (ha:Sl w X 4 a (xs.map KV.l)) (hb:xs.length≤2^40):
  Ct pg 164 #[a] w X nX fun v wa w'=>Own w' (made wa w') wa.heap.size 71 4 v (xs.map KV.l):=by
  intro w0 hk;replace ha:=ha.mv hk.cO;apply oI;unfold jz;have hs:=ak.init w0;repeat' first|refine aN ?_;intros|refine du ?_ ?_<;>intros|(with_reducible apply LS);(case hX=>exact hs.has);(case hu=>kernel_rfl);(case hz=>kernel_rfl);intro acc w X ax ho;replace hs:=hs.trans ax|((first|(with_reducible refine aj hs ?_)|(with_reducible refine aj (bL.trans hs) ?_));intro wa hk;(first|(rename_i h1 h2;(first|(rw [h2])|skip);exact Own.nil _ _ _ _ _)|exact(ho.kp hk).tight))|((with_reducible apply Iv);(case own=>assumption);(case hs=>assumption);(case h0=>exact fun _ h=>h);(case he=>kernel_rfl);(case src=>exact Sl.mv ha (ak.mv hs));(case h1=>simp [aX.one]);(case hb=>simp;omega);(case hl=>simp;omega);intro acc w X ax ho hc fe;replace hs:=ax;rw [dG] at ho)
theorem xx {w:World} {X:XS} {a:Value} {xs:List fJ} (ha:Sl w X 6 a (xs.map fJ.l)) (hb:xs.length≤2^40):
  Ct pg 110 #[a] w X nX fun v wa w'=>Own w' (made wa w') wa.heap.size 131 6 v (xs.map fJ.l):=by
  intro w0 hk;replace ha:=ha.mv hk.cO;apply nj;unfold iT;have hs:=ak.init w0;repeat' first|refine aN ?_;intros|refine du ?_ ?_<;>intros|(with_reducible apply LS);(case hX=>exact hs.has);(case hu=>kernel_rfl);(case hz=>kernel_rfl);intro acc w X ax ho;replace hs:=hs.trans ax|((first|(with_reducible refine aj hs ?_)|(with_reducible refine aj (bL.trans hs) ?_));intro wa hk;(first|(rename_i h1 h2;(first|(rw [h2])|skip);exact Own.nil _ _ _ _ _)|exact(ho.kp hk).tight))|((with_reducible apply Iv);(case own=>assumption);(case hs=>assumption);(case h0=>exact fun _ h=>h);(case he=>kernel_rfl);(case src=>exact Sl.mv ha (ak.mv hs));(case h1=>simp [aX.one]);(case hb=>simp;omega);(case hl=>simp;omega);intro acc w X ax ho hc fe;replace hs:=ax;rw [dG] at ho)
theorem Lx {w:World} {X:XS} {a:Value} {xs:List BA} {k:BA} (ha:Sl w X 1 a (xs.map S1)):
  Ct pg 254 #[a,.string k] w X nX fun v _ _=>v=I (idxOf (fun x=>decide (k=x)) xs):=by
 intro w0 hk;replace ha:=ha.mv hk.cO;have jG:=ha.gH;apply rN;unfold kU;have hs:=ak.init w0;repeat' first|refine aN ?_;intros
 refine eQ (fun n a w X=> ∃i:Nat,a=I (i:Nat)∧n=(xs).length-i∧i≤(xs).length∧ak (aS w0) w0 X w∧(∀(j:Nat) x,j<i→xs[j]? =some x→decide (k=x)=false)) (xs).length ⟨0,rfl,rfl,aP _,hs,by simp⟩ ?_;rintro n a w X ⟨i,rfl,rfl,hi,hs,hw⟩;rcases eG (xs) i with⟨dA,x,hx,hd⟩|⟨ec,hd⟩
 ·repeat' first|refine bY ?_;intros|refine du ?_ ?_<;>intros|((first|(with_reducible refine aj hs ?_)|(with_reducible refine aj (bL.trans hs) ?_));intro wa hk;(rw [NW hw hx (by simpa)]))|((with_reducible refine eT ((xs).length-(i+1)) ?_ ?_);omega;exact⟨i+1,by simp,rfl,by omega,hs,fun j y hj hy=>by rcases Nat.lt_succ_iff_lt_or_eq.1 hj with h|h;exact hw j y h hy;subst h;rw [hx] at hy;cases hy;simpa⟩)
 ·repeat' first|refine bY ?_;intros|((first|(with_reducible refine aj hs ?_)|(with_reducible refine aj (bL.trans hs) ?_));intro wa hk;(rw [Iw fun j x hj hx=>hw j x zQ hx]))
theorem Hq {w:World} {X:XS} {a:Value} {xs:List BA} {k:BA} (ha:Sl w X 1 a (xs.map S1)):
  Ct pg 206 #[a,.string k] w X nX fun v _ _=>v=B (xs.any fun x=>decide (k=x)):=by
 intro w0 hk;replace ha:=ha.mv hk.cO;apply pO;unfold ke;have hs:=ak.init w0;repeat' first|refine aN ?_;intros|refine du ?_ ?_<;>intros|((first|(with_reducible refine aj hs ?_)|(with_reducible refine aj (bL.trans hs) ?_));intro wa hk;(rw [←DA];simp [*]))|(refine dZ (Lx  qA) kQ hs.has ?_;intro w X ax;replace hs:=hs.trans ax)
theorem Eo {w:World} {X:XS} {a:Value} {xs:List KV} {f:FuncId} {cs:List Value} {p:KV→Bool} (ha:Sl w X 4 a (xs.map KV.l)) (hX: ∀k,X k→k<w.heap.size) (hf:enters pg f=true)
  (hp: ∀x,Ct pg f ((.agg x.l.toArray)::cs).toArray w X nX fun v _ _=>v=B (p x)):
  Ct pg 274 #[a,.func (.func f) #[] cs.toArray] w X nX fun v _ _=>v=I (idxOf p xs):=by
 intro w0 hk;replace ha:=ha.mv hk.cO;replace hp:=fun x=>((hp x).kp hk).aS fun k hx=>aA (hX k hx) hk.size;have jG:=ha.gH;apply nm;unfold iU;have hs:=ak.init w0;repeat' first|refine aN ?_;intros
 refine eQ (fun n a w X=> ∃i:Nat,a=I (i:Nat)∧n=(xs).length-i∧i≤(xs).length∧ak (aS w0) w0 X w∧(∀(j:Nat) x,j<i→xs[j]? =some x→p x=false)) (xs).length ⟨0,rfl,rfl,aP _,hs,by simp⟩ ?_;rintro n a w X ⟨i,rfl,rfl,hi,hs,hw⟩;rcases eG (xs) i with⟨dA,x,hx,hd⟩|⟨ec,hd⟩
 ·repeat' first|refine bY ?_;intros|((first|(with_reducible refine aj hs ?_)|(with_reducible refine aj (bL.trans hs) ?_));intro wa hk;(rw [NW hw hx ‹_›]))|((with_reducible refine eT ((xs).length-(i+1)) ?_ ?_);omega;exact⟨i+1,by simp,rfl,by omega,hs,fun j y hj hy=>by rcases Nat.lt_succ_iff_lt_or_eq.1 hj with h|h;exact hw j y h hy;subst h;rw [hx] at hy;cases hy;assumption⟩)|(refine ew ((hp x).since hs) hf hs.has ?_ ?_<;>(intro _ w X ax;replace hs:=hs.trans ax))
 ·repeat' first|refine bY ?_;intros|((first|(with_reducible refine aj hs ?_)|(with_reducible refine aj (bL.trans hs) ?_));intro wa hk;(rw [Iw fun j x hj hx=>hw j x zQ hx]))
theorem Af {w:World} {X:XS} {a:Value} {xs:List KV} {f:FuncId} {cs:List Value} {p:KV→Bool} (ha:Sl w X 4 a (xs.map KV.l)) (hX: ∀k,X k→k<w.heap.size) (hf:enters pg f=true)
  (hp: ∀x,Ct pg f ((.agg x.l.toArray)::cs).toArray w X nX fun v _ _=>v=B (p x)):
  Ct pg 252 #[a,.func (.func f) #[] cs.toArray] w X nX fun v _ _=>v=B (xs.any p):=by
 intro w0 hk;replace ha:=ha.mv hk.cO;replace hp:=fun x=>((hp x).kp hk).aS fun k hx=>aA (hX k hx) hk.size;apply lW;unfold iw;have hs:=ak.init w0;repeat' first|refine aN ?_;intros|refine du ?_ ?_<;>intros|((first|(with_reducible refine aj hs ?_)|(with_reducible refine aj (bL.trans hs) ?_));intro wa hk;(rw [←DA];simp [*]))|(refine dZ (Eo ha hs.has hf hp) kQ hs.has ?_;intro w X ax;replace hs:=hs.trans ax)
def QG (a b:BA):Bool:=xE a b||decide (a=b)
def uL:bH→List fJ→Bool
 |_,[]=>true
 |s,v::r=>v.bb.may&&decide (v.bb.cmp s>0)&&v.val.may&&uL v.bb r
def fk.ok (h:fk) (ahead:BA):Bool:=ou h.key&&!QG h.key ahead&&decide (h.eZ≠[])&&uL .zero h.eZ
theorem Ka {w:World} {X:XS} {h:fk} {vv:Value} {ahead:BA} (ha:Sl w X 6 vv (h.eZ.map fJ.l)):
  Ct pg 162 #[.agg (h.l vv).toArray,.string ahead] w X nX fun v _ _=>v=B (h.ok ahead):=by
 intro w0 hk;replace ha:=ha.mv hk.cO;have jG:=ha.gH;apply IQ;unfold yF;have hs:=ak.init w0;repeat' first|refine aN ?_;intros|refine du ?_ ?_<;>intros|((with_reducible refine dw (mj _) ?_ hs.has ?_ ?_);(· kernel_rfl);all_goals (intro _ w X ax;replace hs:=hs.trans ax))|((first|(with_reducible refine aj hs ?_)|(with_reducible refine aj (bL.trans hs) ?_));intro wa hk;(simp_all [fk.ok,QG]<;>grind))
 refine fS (fun n a b w X=> ∃(i:Nat) (s:bH),a=I i∧b=s.v∧n=h.eZ.length-i∧i≤h.eZ.length∧ak (aS w0) w0 X w∧uL .zero h.eZ=uL s (h.eZ.drop i)) h.eZ.length
  ⟨0,.zero,rfl,rfl,rfl,aP _,hs,by simp⟩ ?_
 rintro n a b w X ⟨i,s,rfl,rfl,rfl,hi,hs,hw⟩;have dO:h.eZ≠[]:=by intro e;simp_all
 rcases eG (h.eZ) i with⟨dA,x,hx,hd⟩|⟨ec,hd⟩
 ·rw [hd,uL] at hw;clear hd;repeat' first|refine bY ?_;intros|refine du ?_ ?_<;>intros|with_reducible apply dg|((with_reducible refine jj (lD _ _) ?_ hs.has ?_);(· kernel_rfl);intro w X ax;replace hs:=hs.trans ax)|((with_reducible refine dw (jT _) ?_ hs.has ?_ ?_);(· kernel_rfl);all_goals (intro _ w X ax;replace hs:=hs.trans ax))|((with_reducible refine dw (kH _) ?_ hs.has ?_ ?_);(· kernel_rfl);all_goals (intro _ w X ax;replace hs:=hs.trans ax))|((first|(with_reducible refine aj hs ?_)|(with_reducible refine aj (bL.trans hs) ?_));intro wa hk;(simp_all [fk.ok,QG]<;>grind))|((with_reducible refine fT ((h.eZ).length-(i+1)) ?_ ?_);omega;exact⟨i+1,x.bb,by simp,rfl,rfl,by omega,hs,by simp_all⟩)
 ·repeat' first|refine bY ?_;intros|((first|(with_reducible refine aj hs ?_)|(with_reducible refine aj (bL.trans hs) ?_));intro wa hk;(simp_all [fk.ok,QG,uL]<;>grind))
def cx.has (p:cx) (k:BA):Bool:=p.writes.any fun w=>decide (w.key=k)
theorem Hr {w:World} {X:XS} {x:KV} {k:BA} {b:Nat} (h:Cells w X b 0 [.string k]):
  Ct pg 253 #[.agg x.l.toArray,ptr b 0] w X nX fun v _ _=>v=B (decide (x.key=k)):=by
 intro w0 hk;replace h:=h.mv hk.cO;apply Fu;unfold wC;have hs:=ak.init w0;repeat' first|refine aN ?_;intros|refine du ?_ ?_<;>intros|((first|(with_reducible refine aj hs ?_)|(with_reducible refine aj (bL.trans hs) ?_));intro wa hk;simp_all)
theorem BV {w:World} {X:XS} {p:cx} {vr vw:Value} {k:BA} (hX: ∀k,X k→k<w.heap.size) (h2:Sl w X 4 vw (p.writes.map KV.l)):
  Ct pg 205 #[p.v vr vw,.string k] w X nX fun v _ _=>v=B (p.has k):=by
 intro w0 hk;replace h2:=h2.mv hk.cO;apply JX;unfold zW;have hs:=ak.init w0;repeat' first|refine aN ?_;intros|(with_reducible apply xu);(case ho=>rfl);(case hX=>exact hs.has);intro bx w X fB ax bK;have bL:=hs.trans ax;replace hs:=ak.fC ax.has|((first|(with_reducible refine aj hs ?_)|(with_reducible refine aj (bL.trans hs) ?_));intro wa hk;(simp [cx.has]))|(refine dZ (Af (p:=fun x=>decide (x.key=k)) (h2.mv (ak.mv (bL.trans hs))) hs.has kQ fun x=>Hr (x:=x) (by first|exact bK.cells)) kQ hs.has ?_;intro w X ax;replace hs:=hs.trans ax)
theorem wV:wI pg 42 (fun k:dB=>k.v):=
 VE (n:=3) kQ (fun k:dB=>[k.gO,k.jO,k.sq]) (fun _=>rfl) (fun a b h=>by
  simp only [List.cons.injEq,and_true] at h;exact dB.ext h.1 h.2.1 h.2.2)
theorem OU:wI pg 9 (fun s:BA=>dt s):=AG kQ
def kV (w:World) (A:XS) (v:Value) (l:List fJ):Prop:=Sl w A 6 v (l.map fJ.l)
def gA (w:World) (A:XS) (v:Value) (p:cx):Prop:= ∃vr vw,v=p.v vr vw∧Sl w A 1 vr (p.reads.map S1)∧Sl w A 4 vw (p.writes.map KV.l)
theorem kV.mv:qk kV:=fun _ _ _ _ _ _ h m=>Sl.mv h m
theorem gA.mv:qk gA:=fun _ _ _ _ _ _ ⟨vr,vw,h,h1,h2⟩ m=>⟨vr,vw,h,h1.mv m,h2.mv m⟩
structure ek (w:World) (X A:XS) (sb kb pb:Nat) (hm:List (BA×List fJ)) (pm:List (dB×cx)) (low:bH):Prop where
 box:bq w X sb [.map (some kb),.map (some pb),I low.wall,I low.cZ,I low.node] 190
 keys:ik w X A kb (fun s:BA=>dt s) kV hm
 dh:ik w X A pb (fun k:dB=>k.v) gA pm
 sub: ∀k,A k→X k
 off: ∀k,A k→k≠sb∧k≠kb∧k≠pb
theorem ek.mv {w w':World} {X Y A:XS} {sb kb pb:Nat} {hm:List (BA×List fJ)} {pm:List (dB×cx)} {low:bH} (h:ek w X A sb kb pb hm pm low)
  (hX: ∀k,X k→k<w.heap.size) (m:Mv X w Y w'):ek w' Y A sb kb pb hm pm low:=by
 have ma:Mv A w A w':=fun k hk hl=>⟨hk,(m k (h.sub k hk) hl).2⟩;exact⟨h.box.mv m,h.keys.mv kV.mv m ma,h.dh.mv gA.mv m ma,fun k hk=>(m k (h.sub k hk) (hX k (h.sub k hk))).1,h.off⟩
theorem MY {w:World} {X A:XS} {kb:Nat} {hm:List (BA×List fJ)} {k:BA} {N:Value→Prop} {w0:World} {X0:XS} (h:ik w0 X0 A kb (fun s:BA=>dt s) kV hm) (hA: ∀k,A k→X0 k) (m:Mv X0 w0 X w)
  (n: ∀v,Sl w0 X0 6 v (((getM k hm).getD []).map fJ.l)→N v):ad pg X w (Instr.lookup 187 (.map (some kb)) (.string k) false) N:=by
 have h':ik w X A kb (fun s:BA=>dt s) kV hm:=h.mv kV.mv m fun k hk hl=>⟨hk,(m k (hA k hk) hl).2⟩;obtain⟨es,c,h1,h2⟩:=h;have m':Mv A w0 A w:=fun k hk hl=>⟨hk,(m k (hA k hk) hl).2⟩;refine Dg (et:=127) (A:=X) (rd:=fun w X v l=>Sl w0 A 6 v (l.map fJ.l)) (l:=hm) (.slice none 0 0) ?_ OU kQ kQ (fun v a hg hr=>?_) fun hg=>?_
 ·exact⟨es,c,h1.mv m,by
   clear h1 h' n
   induction es generalizing hm with
   |nil=>cases hm<;>first|trivial|exact h2.elim
   |cons e es ih=>cases hm with
    |nil=>exact h2.elim
    |cons x l=>exact⟨h2.1,h2.2.1,ih h2.2.2⟩⟩
 ·exact n v (by rw [hg];exact Sl.mv hr (Mv.sub hA))
 ·exact n _ (by rw [hg];exact Sl.nil _ _ _)
def cx.wQ (x q:cx):Bool:=x.writes.any (fun w=>q.has w.key||q.reads.any fun k=>decide (w.key=k))||x.reads.any fun k=>q.has k
def uA (l:List fJ) (OV:bH) (all:Bool):kF×bH:=l.foldl (fun s v=>if all||decide (v.bb.cmp OV≤0)then(v.val,v.bb)else s) (.zero,.zero)
def jS (hm:List (BA×List fJ)) (k:BA):List fJ:=(getM k hm).getD []
abbrev Sm (k:BA) (s:kF×bH):Value:=.agg #[.string k,I s.1.kind,.float .f64 s.1.num,.string s.1.text,I s.2.wall,I s.2.cZ,I s.2.node]
theorem Ly {w:World} {X A:XS} {sb kb pb:Nat} {hm:List (BA×List fJ)} {pm:List (dB×cx)} {low OV:bH} {k:BA} {all:Bool}
  (h:ek w X A sb kb pb hm pm low) (hX: ∀k,X k→k<w.heap.size):
  Ct pg 136 #[ptr sb 0,.string k,OV.v,B all] w X nX fun v _ _=>v=Sm k (uA (jS hm k) OV all):=by
 intro w0 hk;replace h:=h.mv hX hk.cO;have fB:=h.box;have Qy:=h.keys;apply Be;unfold tt;have hs:=ak.init w0;repeat' first|refine aN ?_;intros
 refine MY Qy h.sub (Mv.refl _ _) fun vv Kz=>?_
 show ad _ _ _ _ _
 have Te:jS hm k=(getM k hm).getD []:=rfl;rw [←Te] at Kz;generalize jS hm k=vs at Kz;have jG:=Kz.gH;repeat' first|refine aN ?_;intros
 refine fS (fun n a b w X=> ∃(i:Nat) (s:kF×bH),a=I i∧b=Sm k s∧n=vs.length-i∧i≤vs.length∧ak (aS w0) w0 X w∧
  uA vs OV all=(vs.drop i).foldl (fun s v=>if all||decide (v.bb.cmp OV≤0)then(v.val,v.bb)else s) s) vs.length ⟨0,(.zero,.zero),rfl,rfl,rfl,aP _,hs,by rw [gu];rfl⟩ ?_
 rintro n a b w X ⟨i,s,rfl,rfl,rfl,hi,hs,hw⟩;rcases eG (vs) i with⟨dA,x,hx,hd⟩|⟨ec,hd⟩
 ·rw [hd,uk] at hw;cases all
  ·repeat' first|refine bY ?_;intros|refine du ?_ ?_<;>intros|with_reducible apply dg|((with_reducible refine jj (lD _ _) ?_ hs.has ?_);(· kernel_rfl);intro w X ax;replace hs:=hs.trans ax)|((with_reducible refine fT ((vs).length-(i+1)) ?_ ?_);omega;exact⟨i+1,(x.val,x.bb),by simp,rfl,rfl,by omega,hs,by rw [hw];simp [*]⟩)|((with_reducible refine fT ((vs).length-(i+1)) ?_ ?_);omega;exact⟨i+1,s,by simp,rfl,rfl,by omega,hs,by rw [hw];simp [*]⟩)
  ·repeat' first|refine bY ?_;intros|with_reducible apply dg|((with_reducible refine fT ((vs).length-(i+1)) ?_ ?_);omega;exact⟨i+1,(x.val,x.bb),by simp,rfl,rfl,by omega,hs,by rw [hw];simp [*]⟩)
 ·repeat' first|refine bY ?_;intros|((first|(with_reducible refine aj hs ?_)|(with_reducible refine aj (bL.trans hs) ?_));intro wa hk;(rw [hw,hd];rfl))
theorem Lz {w:World} {X A:XS} {sb kb pb:Nat} {hm:List (BA×List fJ)} {pm:List (dB×cx)} {low:bH} {k:BA}
  (h:ek w X A sb kb pb hm pm low) (hX: ∀k,X k→k<w.heap.size):
  Ct pg 77 #[ptr sb 0,.string k] w X nX fun v _ _=>v=Sm k (uA (jS hm k) .zero true):=by
 intro w0 hk;replace h:=h.mv hX hk.cO;apply AZ;unfold ti;have hs:=ak.init w0;repeat' first|refine aN ?_;intros|((first|(with_reducible refine aj hs ?_)|(with_reducible refine aj (bL.trans hs) ?_));intro wa hk;rfl)|(refine dZ (Ly (OV:=.zero) h hs.has) kQ hs.has ?_;intro w X ax;replace hs:=hs.trans ax)
def xA (hm:List (BA×List fJ)) (x:cx):Bool:=x.writes.any fun w=>decide ((uA (jS hm w.key) .zero true).2.cmp x.bb≥0)
theorem HW {w:World} {X A:XS} {sb kb pb:Nat} {hm:List (BA×List fJ)} {pm:List (dB×cx)} {low:bH} {x:cx} {vr vw:Value}
  (h:ek w X A sb kb pb hm pm low) (hX: ∀k,X k→k<w.heap.size) (h2:Sl w X 4 vw (x.writes.map KV.l)):
  Ct pg 142 #[ptr sb 0,x.v vr vw] w X nX fun v _ _=>v=B (xA hm x):=by
 intro w0 hk;replace h:=h.mv hX hk.cO;replace h2:=h2.mv hk.cO;have jG:=h2.gH;apply Fl;unfold wv;have hs:=ak.init w0;repeat' first|refine aN ?_;intros
 refine eQ (fun n a w X=> ∃i:Nat,a=I (i:Nat)∧n=(x.writes).length-i∧i≤(x.writes).length∧ak (aS w0) w0 X w∧xA hm x=(x.writes.drop i).any (fun w=>decide ((uA (jS hm w.key) .zero true).2.cmp x.bb≥0))) (x.writes).length ⟨0,rfl,rfl,aP _,hs,by simp [xA]⟩ ?_;rintro n a w X ⟨i,rfl,rfl,hi,hs,hw⟩;rcases eG (x.writes) i with⟨dA,y,hy,hd⟩|⟨ec,hd⟩
 ·rw [hd,iu] at hw;repeat' first|refine bY ?_;intros|refine du ?_ ?_<;>intros|((with_reducible refine jj (lD _ _) ?_ hs.has ?_);(· kernel_rfl);intro w X ax;replace hs:=hs.trans ax)|((first|(with_reducible refine aj hs ?_)|(with_reducible refine aj (bL.trans hs) ?_));intro wa hk;simp_all)|((with_reducible refine eT ((x.writes).length-(i+1)) ?_ ?_);omega;exact⟨i+1,by simp,rfl,by omega,hs,by rw [hw];simp [*]⟩)|(refine dZ (Lz (h.mv (fun _ h=>h) (ak.mv hs)) hs.has) kQ hs.has ?_;intro w X ax;replace hs:=hs.trans ax)
 ·repeat' first|refine bY ?_;intros|((first|(with_reducible refine aj hs ?_)|(with_reducible refine aj (bL.trans hs) ?_));intro wa hk;simp_all)
theorem By {w:World} {X A:XS} {sb kb pb:Nat} {hm:List (BA×List fJ)} {pm:List (dB×cx)} {low:bH} {x:cx} {vr vw:Value}
  (h:ek w X A sb kb pb hm pm low) (hX: ∀k,X k→k<w.heap.size) (h1:Sl w X 1 vr (x.reads.map S1)) (h2:Sl w X 4 vw (x.writes.map KV.l)):
  Ct pg 141 #[ptr sb 0,x.v vr vw] w X nX fun v _ _=>v=B (pm.any fun q=>x.wQ q.2):=by
 intro w0 hk;replace h:=h.mv hX hk.cO;replace h1:=h1.mv hk.cO;replace h2:=h2.mv hk.cO;have fB:=h.box;have Ib:=h1.gH;have zy:=h2.gH;apply Bf;unfold tu;have hs:=ak.init w0;repeat' first|refine aN ?_;intros
 refine Qu (kt:=42) (et:=65) h.dh gA.mv h.sub kQ hs.has fun r w X hr ax tL=>?_;replace hs:=hs.trans ax;refine fS (fun n _ _ w X=> ∃left,n=left.length∧ak (aS w0) w0 X w∧pT w X A r pb (fun k:dB=>k.v) gA pm left∧(pm.any fun q=>x.wQ q.2)=left.any fun q=>x.wQ q.2)
  pm.length ⟨pm,rfl,hs,tL,rfl⟩ ?_
 rintro n a b w X ⟨left,rfl,hs,tL,hw⟩;refine Tc tL gA.mv (fun k hk=>⟨hs.sub k (h.sub k hk),fun e=>by have:k<w0.heap.size:=h.sub k hk;omega⟩) hs.has (fun e0 w X ax=>?_) fun kx q v mf w1 X1 hc xt Ro he=>?_
 ·replace hs:=hs.trans ax;repeat' first|refine aN ?_;intros|((first|(with_reducible refine aj hs ?_)|(with_reducible refine aj (bL.trans hs) ?_));intro wa hk;(rw [hw,e0];rfl))
 ·have bL:=hs.fF hc fun k hk e=>by have:k<w0.heap.size:=hk;omega
  obtain⟨ur,uw,rfl,q1,q2⟩:=xt;have MW: ∀k,A k→X1 k:=fun k hk=>bL.sub k (h.sub k hk);replace q1:=q1.mv (Mv.sub MW);replace q2:=q2.mv (Mv.sub MW);have o1:=q1.one;have o2:=q2.one;rw [TU _ tL.nodup mf] at hw;replace hs:=ak.fC bL.has;repeat' first|refine aN ?_;intros
  refine Qv hs.has he fun w X ax=>?_;replace hs:=hs.trans ax;repeat' first|refine aN ?_;intros
  refine eQ (fun n a w X=> ∃i:Nat,a=I (i:Nat)∧n=x.writes.length-i∧i≤x.writes.length∧ak X1 w1 X w∧
   (x.writes.any (fun w=>q.has w.key||q.reads.any fun k=>decide (w.key=k))=(x.writes.drop i).any (fun w=>q.has w.key||q.reads.any fun k=>decide (w.key=k)))) x.writes.length
   ⟨0,rfl,rfl,aP _,hs,by simp⟩ ?_
  rintro n a w X ⟨i,rfl,rfl,hi,hs,tC⟩;rcases eG (x.writes) i with⟨dA,y,hy,hd⟩|⟨ec,hd⟩
  ·rw [hd,iu] at tC;repeat' first|refine bY ?_;intros|with_reducible apply dg|((first|(with_reducible refine aj hs ?_)|(with_reducible refine aj (bL.trans hs) ?_));intro wa hk;(rw [hw];simp [cx.wQ,tC, *]))|((with_reducible refine eT ((x.writes).length-(i+1)) ?_ ?_);omega;exact⟨i+1,by simp,rfl,by omega,hs,by rw [tC];simp [*]⟩)|(refine ew (BV  (p:=q) hs.has qA) kQ hs.has ?_ ?_<;>(intro _ w X ax;replace hs:=hs.trans ax))|(refine ew (Hq  qA) kQ hs.has ?_ ?_<;>(intro _ w X ax;replace hs:=hs.trans ax))
  ·rw [hd] at tC;repeat' first|refine bY ?_;intros
   refine eQ (fun n a w X=> ∃i:Nat,a=I (i:Nat)∧n=x.reads.length-i∧i≤x.reads.length∧ak X1 w1 X w∧
    (x.reads.any (fun k=>q.has k)=(x.reads.drop i).any (fun k=>q.has k))) x.reads.length
    ⟨0,rfl,rfl,aP _,hs,by simp⟩ ?_
   rintro n a w X ⟨j,rfl,rfl,hj,hs,BW⟩;rcases eG x.reads j with⟨dA,y,hy,rQ⟩|⟨VT,rQ⟩
   ·rw [rQ,iu] at BW;repeat' first|refine bY ?_;intros|((first|(with_reducible refine aj hs ?_)|(with_reducible refine aj (bL.trans hs) ?_));intro wa hk;(rw [hw];simp [cx.wQ,BW, *]))|((with_reducible refine eT (x.reads.length-(j+1)) ?_ ?_);omega;exact⟨j+1,by simp,rfl,by omega,hs,by rw [BW];simp [*]⟩)|(refine ew (BV  (p:=q) hs.has qA) kQ hs.has ?_ ?_<;>(intro _ w X ax;replace hs:=hs.trans ax))
   ·rw [rQ] at BW;repeat' first|refine bY ?_;intros
    refine fT _ (Qx mf) ⟨_,rfl,bL.trans hs,Ro.mv gA.mv (ak.mv hs) (ak.fW hs MW),?_⟩;rw [hw];have:x.wQ q=false:=by unfold cx.wQ;rw [tC,BW];rfl
    simp [this]
def cx.fresh (wa w':World) (v:Value) (p:cx):Prop:=
 ∃vr vw,v=p.v vr vw∧Own w' (made wa w') wa.heap.size 9 1 vr (p.reads.map S1)∧Own w' (made wa w') wa.heap.size 71 4 vw (p.writes.map KV.l)∧
  ∀g,vr.ownBlock=some g→vw.ownBlock≠some g
theorem sE {w:World} {X:XS} {p:cx} {vr vw:Value} (h1:Sl w X 1 vr (p.reads.map S1)) (h2:Sl w X 4 vw (p.writes.map KV.l)) (u3:p.reads.length≤2^40) (CT:p.writes.length≤2^40):
  Ct pg 101 #[p.v vr vw] w X nX fun v wa w'=>p.fresh wa w' v:=by
  intro w0 hk;replace h1:=h1.mv hk.cO;replace h2:=h2.mv hk.cO;apply Lm;unfold BL;have hs:=ak.init w0;refine dW (Lw h1 u3) kQ hs.has ?_;rintro v1 wa w X po lz jg ax;replace hs:=hs.trans ax;have q1:=po.sl.one;repeat' first|refine aN ?_;intros
  refine dW (J9 (h2.mv (ak.mv hs)) CT) kQ hs.has ?_;rintro v2 wb w2 X2 sA mc mS dJ;have hb:w0.heap.size≤wa.heap.size:=lz;have aa9:Own w X w0.heap.size 9 1 v1 (p.reads.map S1):=po.up jg hb;have adg:=aa9.since dJ;have adh:w0.heap.size≤wb.heap.size:=af hs.kp.size mc;have adi:Own w2 X2 w0.heap.size 71 4 v2 (p.writes.map KV.l):=sA.up mS adh;have q2:=sA.sl.one;replace hs:=hs.trans dJ;repeat' first|refine aN ?_;intros|((first|(with_reducible refine aj hs ?_)|(with_reducible refine aj (bL.trans hs) ?_));intro wa hk;(exact⟨v1,v2,rfl,(adg.kp hk).tight,(adi.kp hk).tight,fun g CW Tj=>by have:=(aa9.ge CW).2;have:=(sA.ge Tj).1;omega⟩))
def sM (X:XS) (a b c:Nat):XS:=fun k=>X k∧k≠a∧k≠b∧k≠c
theorem Sn {w:World} {X:XS} :Ct pg 161 #[] w X nX fun v wa w'=>
  ∃sb kb pb,v=ptr sb 0∧ek w' (made wa w') (sM (made wa w') sb kb pb) sb kb pb [] [] .zero∧sb≠kb∧sb≠pb∧kb≠pb:=by
 intro w0 hk;apply P8;unfold Gm;have hs:=ak.init w0;refine yn (kv:=fun s:BA=>dt s) kV nX hs.has fun kb w1 X1 sd ax Bx=>?_;refine yn (kv:=fun k:dB=>k.v) gA nX ax.has fun pb w2 X2 Dw dJ wh=>?_;have adj:=Bx.x;have adk:=wh.x;have adl:=Bx.mv kV.mv (ak.mv dJ) (Y:=X2) (A':=nX) (fun _ h=>h.elim);replace hs:=(hs.trans ax).trans dJ;have gy:w0.heap.size≤w1.heap.size:=ax.kp.size;repeat' first|refine aN ?_;intros|(with_reducible apply ph);(case hX=>exact hs.has);intro bx w X fB ax bK;have bL:=hs.trans ax;replace hs:=ak.fC ax.has
 refine aj (bL.trans hs) ?_;intro wa hk;have QB:=(bK.kp hk).lt;have ad0:=ax.kp.size;have ad1:=hk.size;have aba:=ax.kp.trans (hk.less ax.sub);have adm:made w0 wa kb:=⟨sd,by omega⟩;have adn:made w0 wa pb:=⟨by omega,by omega⟩;exact⟨bx,kb,pb,rfl,⟨bK.own.mv (Mv.one hk bK.1 ⟨by omega,QB⟩),adl.own.mv kV.mv (Mv.one aba (dJ.sub _ adj.1) adm) (fun _ h=>h.elim),
  wh.own.mv gA.mv (Mv.one aba adk.1 adn) (fun _ h=>h.elim),fun k hk=>hk.1,fun k hk=>hk.2⟩,by omega,by omega,by omega⟩
def lL:BA→List fk→Bool
 |_,[]=>true
 |a,h::r=>h.ok a&&lL h.key r
def iA (l:List fk):List (BA×List fJ):=l.foldl (fun m h=>fQ h.key h.eZ m) []
def IZ (hm:List (BA×List fJ)):List (dB×cx)→List cx→Int
 |_,[]=>0
 |pm,p::r=>if p.err≠0 then p.err else if(getM p.dq pm).isSome then 9 else if pm.any (fun q=>p.wQ q.2)then 18 else if xA hm p then 20
  else IZ hm (fQ p.dq p pm) r
def ot (hl:List fk) (pl:List cx):Int:=if lL ⟨#[]⟩ hl then IZ (iA hl) [] pl else 4
theorem ek.grow {w:World} {X A A':XS} {sb kb pb:Nat} {hm:List (BA×List fJ)} {pm:List (dB×cx)} {low:bH} (h:ek w X A sb kb pb hm pm low)
  (hA: ∀k,A k→A' k) (hs: ∀k,A' k→X k∧k≠sb∧k≠kb∧k≠pb):ek w X A' sb kb pb hm pm low:=
 ⟨h.box,h.keys.mv kV.mv (Mv.refl _ _) (Mv.sub hA),h.dh.mv gA.mv (Mv.refl _ _) (Mv.sub hA),fun k hk=>(hs k hk).1,fun k hk=>(hs k hk).2⟩
theorem ek.to {w w':World} {X Y:XS} {sb kb pb:Nat} {hm:List (BA×List fJ)} {pm:List (dB×cx)} {low:bH} (h:ek w X (sM X sb kb pb) sb kb pb hm pm low)
  (hs:ak X w Y w') (hX: ∀k,X k→k<w.heap.size):ek w' Y (sM Y sb kb pb) sb kb pb hm pm low:=
 (h.mv hX (ak.mv hs)).grow (fun k hk=>⟨hs.sub k hk.1,hk.2⟩) fun k hk=>hk
def XL (lo:Nat) (X:XS):XS:=fun k=>X k∧lo≤k
theorem ek.toL {w w':World} {X Y:XS} {lo sb kb pb:Nat} {hm:List (BA×List fJ)} {pm:List (dB×cx)} {low:bH} (h:ek w X (sM (XL lo X) sb kb pb) sb kb pb hm pm low)
  (hs:ak X w Y w') (hX: ∀k,X k→k<w.heap.size):ek w' Y (sM (XL lo Y) sb kb pb) sb kb pb hm pm low:=
 (h.mv hX (ak.mv hs)).grow (fun k hk=>⟨⟨hs.sub k hk.1.1,hk.1.2⟩,hk.2⟩) fun k hk=>⟨hk.1.1,hk.2⟩
theorem ek.fin {w w0 wa:World} {X:XS} {sb kb pb:Nat} {hm:List (BA×List fJ)} {pm:List (dB×cx)} {low:bH} (h:ek w X (sM (XL w0.heap.size X) sb kb pb) sb kb pb hm pm low)
  (hk:Kp X w wa) (h1:w0.heap.size≤sb) (h2:w0.heap.size≤kb) (h3:w0.heap.size≤pb):ek wa (made w0 wa) (sM (made w0 wa) sb kb pb) sb kb pb hm pm low:=by
 have hz:=hk.size;have ma:Mv (sM (XL w0.heap.size X) sb kb pb) w (sM (made w0 wa) sb kb pb) wa:=fun k ae hl=>⟨⟨⟨ae.1.2,by omega⟩,ae.2⟩,hk.block k ae.1.1⟩;have l1:=h.box.lt;have l2:=h.keys.x.2;have l3:=h.dh.x.2;exact⟨h.box.own.mv (Mv.one hk h.box.1 ⟨h1,by omega⟩),h.keys.own.mv kV.mv (Mv.one hk h.keys.x.1 ⟨h2,by omega⟩) ma,h.dh.own.mv gA.mv (Mv.one hk h.dh.x.1 ⟨h3,by omega⟩) ma,fun k hk=>hk.1,fun k hk=>hk.2⟩
def kI (l:List cx):List (dB×cx):=l.foldl (fun m p=>fQ p.dq p m) []
def zv (l:List cx):Prop:= ∀p∈l,p.reads.length≤2^40∧p.writes.length≤2^40
def zu (l:List fk):Prop:= ∀h∈l,h.eZ.length≤2^40
theorem CY {w:World} {X:XS} {vh vp:Value} {hl:List fk} {pl:List cx} (h1:gb w X vh hl) (h2:ga w X vp pl) (u3:zu hl) (CT:zv pl):
  Ct pg 100 #[vh,vp] w X nX fun v wa w'=> ∃(u:Value) (n:Int),v= .tuple #[u,I n]∧n=ot hl pl∧
   (n=0→ ∃sb kb pb,u=ptr sb 0∧sb≠kb∧sb≠pb∧kb≠pb∧ek w' (made wa w') (sM (made wa w') sb kb pb) sb kb pb (iA hl) (kI pl) .zero):=by
 intro w0 hk;replace h1:=h1.mv hk.cO;replace h2:=h2.mv hk.cO;have Ib:=h1.len;have zy:=h2.len;apply Ov;unfold DK;have hs:=ak.init w0;refine dW Sn kQ hs.has ?_;rintro v wa w X ⟨sb,kb,pb,rfl,fv,ZD,ZE,WM⟩ hle gF ax;have Kt:w0.heap.size≤sb:=af hle fv.box.1.1;have sd:w0.heap.size≤kb:=af hle fv.keys.x.1.1;have Dw:w0.heap.size≤pb:=af hle fv.dh.x.1.1;replace hs:=hs.trans ax;have ado:ek w X (sM (XL w0.heap.size X) sb kb pb) sb kb pb [] [] .zero:=(fv.mv (fun k hk=>hk.2) (Mv.sub gF)).grow (fun k hk=>⟨⟨gF k hk.1,af hle hk.1.1⟩,hk.2⟩) fun k hk=>⟨hk.1.1,hk.2⟩;clear fv;repeat' first|refine aN ?_;intros
 refine fS (fun n a b w X=> ∃(i:Nat) (s:BA),a=I i∧b= .string s∧n=hl.length-i∧i≤hl.length∧ak (aS w0) w0 X w∧
  ek w X (sM (XL w0.heap.size X) sb kb pb) sb kb pb (iA (hl.take i)) [] .zero∧lL ⟨#[]⟩ hl=lL s (hl.drop i)) hl.length
  ⟨0,⟨#[]⟩,rfl,rfl,rfl,aP _,hs,ado,by rw [gu]⟩ ?_
 rintro n a b w X ⟨i,s,rfl,rfl,rfl,hi,bL,fv,hw⟩;have hs:=ak.fC bL.has;rcases eG (hl) i with⟨dA,x,hx,hd⟩|⟨ec,hd⟩
 ·rw [hd,lL] at hw;have qj:=u3 x (cC hx);have fB:=fv.box;repeat' first|refine bY ?_;intros|((with_reducible apply yJ);assumption;(try (case hz=>rfl));(case hr=>exact qR);(try (case hz=>omega));(case ht=>kernel_rfl);(case hs=>kernel_rfl);intros)|(refine ew (Ka (h:=x) (ahead:=s) (by first|assumption|exact Sl.mv (by assumption) (ak.mv (bL.trans hs)))) kQ hs.has ?_ ?_<;>(intro _ w X ax;replace hs:=hs.trans ax))|(first|(with_reducible refine aj (bL.trans hs) ?_);intro wa hk;exact⟨_,_,rfl,by rw [ot,hw];simp [*],fun e=>absurd e (by decide)⟩)
  have Kz:= ‹Sl w0 (aS w0) 6 _ (x.eZ.map fJ.l)›;have xv:= ‹x.ok s=true›;refine dW (xx (Kz.mv (ak.mv (bL.trans hs))) qj) kQ hs.has ?_;rintro v1 wa w2 X2 po lz jg dJ;have MU:=hs.kp.size;have Hs:=fv.toL (hs.trans dJ) bL.has;have OW:Sl w2 (sM (XL w0.heap.size X2) sb kb pb) 6 v1 (x.eZ.map fJ.l):=po.sl.mv (Mv.sub fun k hk=>⟨⟨jg k hk,by have:w0.heap.size≤_:=af bL.kp.size hs.kp.size;have:=hk.1;omega⟩,by
   have q1:=bL.has sb fv.box.1;have q2:=bL.has kb fv.keys.x.1;have q3:=bL.has pb fv.dh.x.1;have:=hk.1;refine⟨?_,?_,?_⟩<;>omega⟩)
  replace hs:=hs.trans dJ;repeat' first|refine aN ?_;intros
  refine Au (kv:=fun s:BA=>dt s) (k:=x.key) (et:=127) Hs.keys kV.mv OW (fun k hk=>⟨hk.1.1,hk.2.2.1⟩) OU kQ hs.has fun w3 X3 hc Ie=>?_;have dT:=(bL.trans hs).fF hc fun k hk e=>by have:k<w0.heap.size:=hk;omega
  have VU:ek w3 X3 (sM (XL w0.heap.size X3) sb kb pb) sb kb pb (iA (hl.take (i+1))) [] .zero:=by
   have fB:=Hs.box;have KS:=Hs.dh;have e:iA (hl.take (i+1))=fQ x.key x.eZ (iA (hl.take i)):=by
    rw [gh,hx];simp [iA]
   rw [e];have mo: ∀b,X2 b→b≠kb→Mv (fun k=>k=b) w2 X3 w3:=fun b hb dO k ae _=>by subst ae;exact⟨hc.sub _ hb,hc.block _ hb dO⟩
   exact⟨fB.own.mv (mo _ fB.1 ZD),Ie.mv kV.mv (Mv.refl _ _) (Mv.sub fun k hk=>⟨⟨hc.sub k hk.1.1,hk.1.2⟩,hk.2⟩),
    KS.own.mv gA.mv (mo _ KS.x.1 WM.symm) (fun k hk _=>⟨⟨⟨hc.sub k hk.1.1,hk.1.2⟩,hk.2⟩,hc.block k hk.1.1 hk.2.2.1⟩),fun k hk=>hk.1.1,fun k hk=>hk.2⟩
  replace hs:=dT;repeat' first|refine aN ?_;intros|((with_reducible refine fT ((hl).length-(i+1)) ?_ ?_);omega;exact⟨i+1,x.key,by simp,rfl,rfl,by omega,hs,VU,by rw [hw,xv];rfl⟩)
 ·have hlen:hl.take i=hl:=cd ec;rw [hd] at hw;rw [hlen] at fv;repeat' first|refine bY ?_;intros
  refine eQ (fun n a w X=> ∃(i:Nat) (pm:List (dB×cx)),a=I i∧n=pl.length-i∧i≤pl.length∧ak (aS w0) w0 X w∧
   ek w X (sM (XL w0.heap.size X) sb kb pb) sb kb pb (iA hl) pm .zero∧pm=kI (pl.take i)∧ot hl pl=IZ (iA hl) pm (pl.drop i)) pl.length
   ⟨0,[],rfl,rfl,aP _,bL,fv,rfl,by rw [gu,ot,hw];rfl⟩ ?_
  rintro n a w X ⟨j,pm,rfl,rfl,hj,bL,fv,KS,tC⟩;have hs:=ak.fC bL.has;rcases eG pl j with⟨ad2,x,hx,rQ⟩|⟨VT,rQ⟩
  ·rw [rQ,IZ] at tC;have qj:=CT x (cC hx);have fB:=fv.box;repeat' first|refine bY ?_;intros|((with_reducible apply AD);assumption;(try (case hz=>rfl));(case hr=>exact qR);(try (case hz=>omega));(case ht=>kernel_rfl);(case hs=>kernel_rfl);intros)|(refine dZ (mw (p:=x) (by first|assumption|exact Sl.mv (by assumption) (ak.mv (bL.trans hs))) (by first|assumption|exact Sl.mv (by assumption) (ak.mv (bL.trans hs))) qj.2) kQ hs.has ?_;intro w X ax;replace hs:=hs.trans ax)
   refine As (kv:=fun k:dB=>k.v) (k:=x.dq) (kt:=42) (et:=65) (.agg #[I 0,I 0,I 0,I 0,I 0,I 0,.slice none 0 0,.slice none 0 0]) (fv.mv bL.has (ak.mv hs)).dh wV kQ kQ (fun v q hg xt=>?_) fun hg=>?_
   ·obtain⟨ur,uw,rfl,q1,q2⟩:=xt;have o1:=q1.one;have o2:=q2.one;repeat' first|refine aN ?_;intros|refine du ?_ ?_<;>intros|(first|(with_reducible refine aj (bL.trans hs) ?_);intro wa hk;exact⟨_,_,rfl,by clear KS;rw [tC];simp [*],fun e=>absurd e (by first|decide|assumption)⟩)
   ·repeat' first|refine aN ?_;intros|refine du ?_ ?_<;>intros|(first|(with_reducible refine aj (bL.trans hs) ?_);intro wa hk;exact⟨_,_,rfl,by clear KS;rw [tC];simp [*],fun e=>absurd e (by first|decide|assumption)⟩)|(refine ew (By (x:=x) (fv.mv bL.has (ak.mv hs)) hs.has (by first|assumption|exact Sl.mv (by assumption) (ak.mv (bL.trans hs))) (by first|assumption|exact Sl.mv (by assumption) (ak.mv (bL.trans hs)))) kQ hs.has ?_ ?_<;>(intro _ w X ax;replace hs:=hs.trans ax))|(refine ew (HW (x:=x) (fv.mv bL.has (ak.mv hs)) hs.has (by first|assumption|exact Sl.mv (by assumption) (ak.mv (bL.trans hs)))) kQ hs.has ?_ ?_<;>(intro _ w X ax;replace hs:=hs.trans ax))
    have he:x.err=0:= ‹x.err=0›;have adp:(pm.any fun q=>x.wQ q.snd)=false:= ‹_›;have adq:xA (iA hl) x=false:= ‹_›;refine dW (sE (p:=x) (by first|exact Sl.mv (by assumption) (ak.mv (bL.trans hs))) (by first|exact Sl.mv (by assumption) (ak.mv (bL.trans hs))) qj.1 qj.2) kQ hs.has ?_;rintro v1 wa w2 X2 ⟨ur,uw,rfl,po,sA,-⟩ lz jg dJ;have MU:=hs.kp.size;have Hs:=fv.toL (hs.trans dJ) bL.has;have hup: ∀k,made wa w2 k→sM (XL w0.heap.size X2) sb kb pb k:=fun k hk=>⟨⟨jg k hk,by have:w0.heap.size≤_:=af bL.kp.size hs.kp.size;have:=hk.1;omega⟩,by
     have q1:=bL.has sb fv.box.1;have q2:=bL.has kb fv.keys.x.1;have q3:=bL.has pb fv.dh.x.1;have:=hk.1;refine⟨?_,?_,?_⟩<;>omega⟩
    have OW:gA w2 (sM (XL w0.heap.size X2) sb kb pb) (x.v ur uw) x:=⟨ur,uw,rfl,po.sl.mv (Mv.sub hup),sA.sl.mv (Mv.sub hup)⟩;replace hs:=hs.trans dJ;refine Au (kv:=fun k:dB=>k.v) (k:=x.dq) (et:=65) Hs.dh gA.mv OW (fun k hk=>⟨hk.1.1,hk.2.2.2⟩) wV kQ hs.has fun w3 X3 hc Ie=>?_;have dT:=(bL.trans hs).fF hc fun k hk e=>by have:k<w0.heap.size:=hk;omega
    have VU:ek w3 X3 (sM (XL w0.heap.size X3) sb kb pb) sb kb pb (iA hl) (fQ x.dq x pm) .zero:=by
     have fB:=Hs.box;have Qy:=Hs.keys;have mo: ∀b,X2 b→b≠pb→Mv (fun k=>k=b) w2 X3 w3:=fun b hb dO k ae _=>by subst ae;exact⟨hc.sub _ hb,hc.block _ hb dO⟩
     exact⟨fB.own.mv (mo _ fB.1 ZE),Qy.own.mv kV.mv (mo _ Qy.x.1 WM) (fun k hk _=>⟨⟨⟨hc.sub k hk.1.1,hk.1.2⟩,hk.2⟩,hc.block k hk.1.1 hk.2.2.2⟩),
      Ie.mv gA.mv (Mv.refl _ _) (Mv.sub fun k hk=>⟨⟨hc.sub k hk.1.1,hk.1.2⟩,hk.2⟩),fun k hk=>hk.1.1,fun k hk=>hk.2⟩
    replace hs:=dT;repeat' first|refine aN ?_;intros|((with_reducible refine eT (pl.length-(j+1)) ?_ ?_);omega;exact⟨j+1,_,by simp,rfl,by omega,hs,VU,by rw [gh,hx,KS];simp [kI],by rw [tC];simp [he,hg,adp,adq]⟩)
  ·rw [rQ] at tC;repeat' first|refine bY ?_;intros|(first|(with_reducible refine aj (bL.trans hs) ?_);intro wa hk;exact⟨_,_,rfl,by rw [tC];rfl,fun _=>⟨sb,kb,pb,rfl,ZD,ZE,WM,by rw [cd VT] at KS;rw [←KS];exact fv.fin hk Kt sd Dw⟩⟩)
theorem Qe {w:World} {X:XS} {vh vp:Value} {hl:List fk} {pl:List cx} (h1:gb w X vh hl) (h2:ga w X vp pl) (u3:zu hl) (CT:zv pl):
  Ct pg 100 #[vh,vp] w X nX fun v _ _=> ∃u:Value,v= .tuple #[u,I (ot hl pl)]:=
 (CY h1 h2 u3 CT).mono fun _ _ _ _ ⟨u,_,h,e,_⟩=>⟨u,e▸h⟩
def LN (l:List fk):Prop:= ∀h∈l,h.key.size≤2^40
def LO (l:List cx):Prop:= ∀p∈l,(∀k∈p.reads,k.size≤2^40)∧ ∀x∈p.writes,x.key.size≤2^40
structure State.small (s:State):Prop where
 h:zu s.dM
 p:zv s.dh
 hk:LN s.dM
 pk:LO s.dh
structure Rec.small (r:Rec):Prop where
 reads:r.reads.length≤2^40
 writes:r.writes.length≤2^40
 rk: ∀k∈r.reads,k.size≤2^40
 wk: ∀x∈r.writes,x.key.size≤2^40
 state:r.state.small
def ic.has (r:ic) (x:Nat):Bool:=(Ir x r.lo||zH x r.lo)&&Dy x r.hi
def ic.key (r:ic) (k:BA):Bool:=r.has (placeOf k)
def State.inside (s:State):Bool:=s.dM.all (fun h=>s.range.key h.key)&&s.dh.all fun p=>p.reads.all s.range.key&&p.writes.all fun x=>s.range.key x.key
def State.may (s:State):Bool:=s.range.may&&s.floor.may&&s.closed.may&&decide (ot s.dM s.dh=0)&&s.inside
theorem Ep {w:World} {X:XS} {s:State} {vh vp:Value} {k:BA} {b:Nat} (h:Cells w X b 0 (s.l vh vp)) (ae:k.size≤2^62):
  Ct pg 158 #[.string k,ptr b 0] w X nX fun v _ _=>v=B (s.range.key k):=by
 intro w0 hk;replace h:=h.mv hk.cO;apply Cr;unfold uf;have hs:=ak.init w0;repeat' first|refine aN ?_;intros|((with_reducible refine dw (HZ _ _) ?_ hs.has ?_ ?_);(· kernel_rfl);all_goals (intro _ w X ax;replace hs:=hs.trans ax))|((with_reducible refine jj (H9 _ (by first|assumption|omega)) ?_ hs.has ?_);(· kernel_rfl);intro w X ax;replace hs:=hs.trans ax)|((first|(with_reducible refine aj hs ?_)|(with_reducible refine aj (bL.trans hs) ?_));intro wa hk;(simp [ic.key,ic.has, *]))
theorem sO {w:World} {X:XS} {s:State} {vh vp:Value} (h1:gb w X vh s.dM) (h2:ga w X vp s.dh) (gp:s.small):
  Ct pg 96 #[s.v vh vp] w X nX fun v _ _=>v=B s.may:=by
 intro w0 hk;replace h1:=h1.mv hk.cO;replace h2:=h2.mv hk.cO;have Ib:=h1.len;have zy:=h2.len;have o1:=h1.one;have o2:=h2.one;apply Hj;unfold xY;have hs:=ak.init w0;repeat' first|refine aN ?_;intros|refine du ?_ ?_<;>intros|(with_reducible apply ph);(case hX=>exact hs.has);intro bx w X fB ax bK;have bL:=hs.trans ax;replace hs:=ak.fC ax.has|with_reducible apply dg|((with_reducible refine dw (Gr _) ?_ hs.has ?_ ?_);(· kernel_rfl);all_goals (intro _ w X ax;replace hs:=hs.trans ax))|((with_reducible refine dw (jT _) ?_ hs.has ?_ ?_);(· kernel_rfl);all_goals (intro _ w X ax;replace hs:=hs.trans ax))|((first|(with_reducible refine aj hs ?_)|(with_reducible refine aj (bL.trans hs) ?_));intro wa hk;(simp [State.may, *]))|(refine dW ((Qe (hl:=s.dM) (pl:=s.dh))  qA qA gp.h gp.p) kQ hs.has ?_;rintro _ wa w X ⟨u,rfl⟩ hle gF ax;have eo:=af hs.kp.size hle;replace hs:=hs.trans ax)
 have HR: ∀k:BA,k.size≤2^40→ ∀w X,ak _ _ X w→Ct pg 158 #[.string k,ptr bx 0] w X nX fun v _ _=>v=B (s.range.key k):=fun k hk w X hs=>Ep (bK.since hs).cells zQ;have Sp:s.may=s.inside:=by simp [State.may, *]
 refine eQ (fun n a w X=> ∃i:Nat,a=I (i:Nat)∧n=s.dM.length-i∧i≤s.dM.length∧ak _ _ X w∧
  (s.dM.all (fun h=>s.range.key h.key))=((s.dM.drop i).all fun h=>s.range.key h.key)) s.dM.length ⟨0,rfl,rfl,aP _,hs,by simp⟩ ?_
 rintro n a w X ⟨i,rfl,rfl,hi,hs,hw⟩;rcases eG (s.dM) i with⟨dA,x,hx,hd⟩|⟨ec,hd⟩
 ·rw [hd,gd] at hw;have hkx:=gp.hk x (cC hx);repeat' first|refine bY ?_;intros|((with_reducible apply yJ);assumption;(try (case hz=>rfl));(case hr=>exact qR);(try (case hz=>omega));(case ht=>kernel_rfl);(case hs=>kernel_rfl);intros)|((first|(with_reducible refine aj hs ?_)|(with_reducible refine aj (bL.trans hs) ?_));intro wa hk;(simp [Sp,State.inside,hw, *]))|(refine ew (HR x.key hkx _ _ hs) kQ hs.has ?_ ?_<;>(intro _ w X ax;replace hs:=hs.trans ax))|((with_reducible refine eT ((s.dM).length-(i+1)) ?_ ?_);omega;exact⟨i+1,by simp,rfl,by omega,hs,by rw [hw];simp [*]⟩)
 ·rw [hd] at hw;repeat' first|refine bY ?_;intros
  refine Df (fun n a _ _ w X=> ∃i:Nat,a=I (i:Nat)∧n=s.dh.length-i∧i≤s.dh.length∧ak _ _ X w∧
   (s.dh.all fun p=>p.reads.all s.range.key&&p.writes.all fun x=>s.range.key x.key)=((s.dh.drop i).all fun p=>p.reads.all s.range.key&&p.writes.all fun x=>s.range.key x.key)) s.dh.length ⟨0,rfl,rfl,aP _,hs,by simp⟩ ?_
  rintro n a a2 a3 w X ⟨j,rfl,rfl,hj,hs,tC⟩;rcases eG s.dh j with⟨dA,p,hp,rQ⟩|⟨VT,rQ⟩
  ·rw [rQ,gd] at tC;obtain⟨Iy,pV⟩:=gp.pk p (cC hp);repeat' first|refine bY ?_;intros|((with_reducible apply AD);assumption;(try (case hz=>rfl));(case hr=>exact qR);(try (case hz=>omega));(case ht=>kernel_rfl);(case hs=>kernel_rfl);intros)
   have hl3:=Sl.gH ‹Sl w0 (aS w0) 1 _ (p.reads.map S1)›;have hl4:=Sl.gH ‹Sl w0 (aS w0) 4 _ (p.writes.map KV.l)›;refine eQ (fun n a w X=> ∃i:Nat,a=I (i:Nat)∧n=p.reads.length-i∧i≤p.reads.length∧ak _ _ X w∧p.reads.all s.range.key=(p.reads.drop i).all s.range.key) p.reads.length ⟨0,rfl,rfl,aP _,hs,by simp⟩ ?_;rintro n a w X ⟨k,rfl,rfl,hk3,hs,BW⟩;rcases eG p.reads k with⟨ad3,y,hy,hd3⟩|⟨ad4,hd3⟩
   ·rw [hd3,gd] at BW;have hky:=Iy y (cC hy);repeat' first|refine bY ?_;intros|((first|(with_reducible refine aj hs ?_)|(with_reducible refine aj (bL.trans hs) ?_));intro wa hk;(simp [Sp,State.inside,tC,BW, *]))|(refine ew (HR y hky _ _ hs) kQ hs.has ?_ ?_<;>(intro _ w X ax;replace hs:=hs.trans ax))|((with_reducible refine eT (p.reads.length-(k+1)) ?_ ?_);omega;exact⟨k+1,by simp,rfl,by omega,hs,by rw [BW];simp [*]⟩)
   ·rw [hd3] at BW;repeat' first|refine bY ?_;intros
    refine eQ (fun n a w X=> ∃i:Nat,a=I (i:Nat)∧n=p.writes.length-i∧i≤p.writes.length∧ak _ _ X w∧(p.writes.all fun x=>s.range.key x.key)=(p.writes.drop i).all fun x=>s.range.key x.key) p.writes.length ⟨0,rfl,rfl,aP _,hs,by simp⟩ ?_;rintro n a w X ⟨m,rfl,rfl,hm,hs,Ud⟩;rcases eG p.writes m with⟨ad5,y,hy,hd4⟩|⟨ad6,hd4⟩
    ·rw [hd4,gd] at Ud;have hky:=pV y (cC hy);repeat' first|refine bY ?_;intros|((first|(with_reducible refine aj hs ?_)|(with_reducible refine aj (bL.trans hs) ?_));intro wa hk;(simp [Sp,State.inside,tC,BW,Ud, *]))|(refine ew (HR y.key hky _ _ hs) kQ hs.has ?_ ?_<;>(intro _ w X ax;replace hs:=hs.trans ax))|((with_reducible refine eT (p.writes.length-(m+1)) ?_ ?_);omega;exact⟨m+1,by simp,rfl,by omega,hs,by rw [Ud];simp [*]⟩)
    ·rw [hd4] at Ud;repeat' first|refine bY ?_;intros|((with_reducible refine Iq (s.dh.length-(j+1)) ?_ ?_);omega;exact⟨j+1,by simp,rfl,by omega,hs,by rw [tC,BW,Ud];simp⟩)
  ·rw [rQ] at tC;repeat' first|refine bY ?_;intros|((first|(with_reducible refine aj hs ?_)|(with_reducible refine aj (bL.trans hs) ?_));intro wa hk;(rw [Sp,State.inside,hw,tC];rfl))
def ER (prev st:bH) (t:dB) (l:List KV):Bool:=prev.may&&decide (prev.cmp st<0)&&decide (l≠[])&&decide (cx.err ⟨t,st,[],l⟩=0)
theorem Er {w:World} {X:XS} {prev st:bH} {t:dB} {l:List KV} {a:Value} (h:Sl w X 4 a (l.map KV.l)) (hb:l.length≤2^40):
  Ct pg 149 #[prev.v,st.v,t.v,a] w X nX fun v _ _=>v=B (ER prev st t l):=by
 intro w0 hk;replace h:=h.mv hk.cO;obtain⟨b1,n1,c1,rfl⟩:=h.form;apply Lp;unfold BO;have hs:=ak.init w0;repeat' first|refine aN ?_;intros|refine du ?_ ?_<;>intros|with_reducible apply dg|((with_reducible refine jj (lD _ _) ?_ hs.has ?_);(· kernel_rfl);intro w X ax;replace hs:=hs.trans ax)|((with_reducible refine dw (jT _) ?_ hs.has ?_ ?_);(· kernel_rfl);all_goals (intro _ w X ax;replace hs:=hs.trans ax))|((first|(with_reducible refine aj hs ?_)|(with_reducible refine aj (bL.trans hs) ?_));intro wa hk;(simp_all [ER]<;>omega))|(refine dZ (mw  (p:=⟨t,st,[],l⟩) (Sl.nil _ _ _) qA hb) kQ hs.has ?_;intro w X ax;replace hs:=hs.trans ax)
def QW (x:Nat):Bool:=decide ((wW x).2=0)&&Ir (wW x).1 0&&Dy (wW x).1 Aw
def oy (n:Int):Bool:=decide (n≥1)&&decide (n≤12)
def Rec.nG (r:Rec):Bool:=
 if r.kind=1 then r.state.may
 else if r.kind=2 then decide (r.n≥0)&&decide (r.n≤281474976710656)
 else if r.kind=3 then decide (cx.err ⟨r.dq,r.bb,r.reads,r.writes⟩=0)&&uK r.parts
 else if r.kind=4 then r.dq.may&&r.bb.J5 r.iq
 else if r.kind=5 then r.bb.may
 else if r.kind=6 then QW r.jI&&oy r.n&&r.bb.may
 else if r.kind=7 then oy r.n
 else if r.kind=8 then decide (r.n≥1)
 else if r.kind=9 then r.dq.may&&r.bb.IV&&uK r.parts
 else if r.kind=10 then r.dq.may
 else if r.kind=11 then ER r.prev r.bb r.dq r.writes
 else r.bb.may&&EP r.oM
theorem LA {w:World} {X:XS} {r:Rec} {vr vw vp vq vh vd:Value} (h:r.at w X vr vw vp vq vh vd) (gp:r.small):
  Ct pg 176 #[r.v vr vw vp vq vh vd] w X nX fun v _ _=>v=B r.nG:=by
 intro w0 hk;obtain⟨h1,h2,h3,h4,h5,h6⟩:=h.mv hk.cO;obtain⟨b1,n1,c1,rfl⟩:=h1.form;obtain⟨b2,n2,c2,rfl⟩:=h2.form;apply JV;unfold zU;have hs:=ak.init w0;repeat' first|refine aN ?_;intros|refine du ?_ ?_<;>intros|with_reducible apply dg|((with_reducible refine dw (jT _) ?_ hs.has ?_ ?_);(· kernel_rfl);all_goals (intro _ w X ax;replace hs:=hs.trans ax))|((with_reducible refine dw (vJ _) ?_ hs.has ?_ ?_);(· kernel_rfl);all_goals (intro _ w X ax;replace hs:=hs.trans ax))|((with_reducible refine dw (J6 _ _) ?_ hs.has ?_ ?_);(· kernel_rfl);all_goals (intro _ w X ax;replace hs:=hs.trans ax))|((with_reducible refine jj (Lv _) ?_ hs.has ?_);(· kernel_rfl);intro w X ax;replace hs:=hs.trans ax)|((with_reducible refine dw (Lu _) ?_ hs.has ?_ ?_);(· kernel_rfl);all_goals (intro _ w X ax;replace hs:=hs.trans ax))|((with_reducible refine dw (BT _) ?_ hs.has ?_ ?_);(· kernel_rfl);all_goals (intro _ w X ax;replace hs:=hs.trans ax))|(refine ew (sO  (s:=r.state) qA qA gp.state) kQ hs.has ?_ ?_<;>(intro _ w X ax;replace hs:=hs.trans ax))|(refine dZ (mw  (p:=⟨r.dq,r.bb,r.reads,r.writes⟩) qA qA gp.writes) kQ hs.has ?_;intro w X ax;replace hs:=hs.trans ax)|(refine ew (En  qA) kQ hs.has ?_ ?_<;>(intro _ w X ax;replace hs:=hs.trans ax))|(refine ew (OO  qA) kQ hs.has ?_ ?_<;>(intro _ w X ax;replace hs:=hs.trans ax))|(refine ew ((Er (l:=r.writes))  qA gp.writes) kQ hs.has ?_ ?_<;>(intro _ w X ax;replace hs:=hs.trans ax))
 all_goals
  (with_reducible refine aj hs ?_)
  intro wa bt;unfold Rec.nG;repeat (first|rw [if_pos zQ]|rw [if_neg zQ])
  simp_all [QW,oy,Aw]<;>omega
def Rec.err (r:Rec):Int:=if !r.strip.2 then 7 else if !r.strip.1.isZero||!r.nG then 4 else 0
theorem Sq {w:World} {X:XS} {r:Rec} {vr vw vp vq vh vd:Value} (h:r.at w X vr vw vp vq vh vd) (gp:r.small):
  Ct pg 114 #[r.v vr vw vp vq vh vd] w X nX fun v _ _=>v=I r.err:=by
 intro w0 hk;have h:=h.mv hk.cO;apply P4;unfold Gi;have hs:=ak.init w0;refine dW (J8 h) kQ hs.has ?_;rintro v wa w X ⟨OP,OQ,OR,vq',OS,OT,rfl,fe⟩ hle gF ax;replace hs:=hs.trans ax;have q1:=fe.1.one;have q2:=fe.2.1.one;have q3:=fe.2.2.1.one;have q4:=fe.2.2.2.1.one;have q5:=fe.2.2.2.2.1.one;have q6:=fe.2.2.2.2.2.one;cases hb:r.strip.2<;>
 repeat' first|refine aN ?_;intros|with_reducible apply dg|((first|(with_reducible refine aj hs ?_)|(with_reducible refine aj (bL.trans hs) ?_));intro wa hk;(simp [Rec.err, *]))|(refine ew (Qd  (r:=r.strip.1) qA) kQ hs.has ?_ ?_<;>(intro _ w X ax;replace hs:=hs.trans ax))|(refine ew ((LA (r:=r))  (h.mv (ak.mv hs)) gp) kQ hs.has ?_ ?_<;>(intro _ w X ax;replace hs:=hs.trans ax))
abbrev U1 (b:Nat):List Value:=[.int .u8 b]
def x7 (u:Nat):List Nat:=if u<128 then [u] else(u % 128+128)::x7 (u/128)
termination_by u
decreasing_by omega
def Es (n:Int):Nat:=if n<0 then 18446744073709551615-((n % 18446744073709551616).toNat*2 % 18446744073709551616)else(n % 18446744073709551616).toNat*2 % 18446744073709551616
def encI (n:Int):List Nat:=x7 (Es n)
theorem OX: ∀(k u:Nat),u<128^k→(x7 u).length≤max k 1
 |0,u,h=>by
  have:u=0:=by simpa using h
  subst this;unfold x7;simp
 |k+1,u,h=>by
  unfold x7;split
  ·simp only [bO,bA];omega
  ·have hk:1≤k:=by
    rcases k with _|k
    ·simp at h;omega
    ·exact Nat.le_add_left _ _
   have h1:u/128<128^k:=by
    rw [Nat.div_lt_iff_lt_mul (by decide),←Nat.pow_succ];exact h
   have:=OX k (u/128) h1;simp only [bO];omega
theorem abb (n:Int):Es n<18446744073709551616:=by
 unfold Es;split<;>omega
theorem ef (n:Int):(encI n).length≤10:=by
 have:=OX 10 (Es n) (aA (abb n) (by decide));unfold encI;omega
def oG (s:BA):List Nat:=encI s.size++s.data.toList.map UInt8.toNat
def Ue (u k:Nat):Nat:=u/256^k % 256
def zf (x:Nat):List Nat:=(List.range 8).map (Ue (canon x))
def Bo (v:kF):List Nat:=
 let v:=if v.may then v else kF.zero
 encI v.kind++(if v.kind=1 then zf v.num else if v.kind=2 then oG v.text else [])
def RG (b:Bool):List Nat:=[if b then 1 else 0]
def lh (s:bH):List Nat:=encI s.wall++encI s.cZ++encI s.node
def wR (t:dB):List Nat:=encI t.gO++encI t.jO++encI t.sq
def lj (x:KV):List Nat:=oG x.key++Bo x.val
def ir {α:Type} (f:α→List Nat) (l:List α):List Nat:=encI l.length++(l.map f).flatten
end Go.Proofs.YteomdhcbhmaiaaaGreat
