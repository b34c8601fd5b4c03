/-
 Part 9 of the proof: what the last text leans on.
-/
import Derived.Test.YtbpnemeooenpmaaGreatH8
open List renaming map_cons → cf, map_append → bC, mem_singleton → bw, range → dI, replicate → fz, length_append → av, find?_cons → eb, length_map → aI, length_nil → bL, sum_cons → nc, all_cons → gW, length_take → bU, length_cons → ba, append_assoc → aK, take_add_one → cn, take_of_length_le → bq, length_eq_zero_iff → mJ, getLast?_eq_some_getLast → jO, pairwise_cons → vF, length_singleton → bz, take_length → yv, dropLast_concat_getLast → oF, pairwise_singleton → rF
open Nat renaming zero_le → aG, lt_of_lt_of_le → aH, le_trans → ah, zero_add → eZ, le_refl → bg
open Bool renaming false_eq_true → a8
open Go.Value renaming cells → aa, string → bB, int → aA
open Option.some renaming inj → iH
open BitVec renaming ofInt → bS
open Go.Op renaming unary → aY
open Go.IntKind renaming bits → me, signed → jd, wrap → oC
open ByteArray renaming size_append → ny
open Option renaming toList_some → fj
open List.cons renaming injEq → yY
open Go.Builtin renaming len_ → j7
open Int renaming toNat_of_nonneg → uy
set_option linter.unusedVariables false
set_option linter.unusedSimpArgs false
namespace Go.Proofs.YtbpnemeooenpmaaGreat
open Go.Proofs.Tryz renaming prog → pg
open Go.aR
set_option maxRecDepth 100000
set_option maxHeartbeats 1000000
set_option linter.unusedVariables false
set_option linter.unusedSimpArgs false
attribute [local irreducible] un jn aB aS ld1 dY st1 dr cB kN dw lR uK sP fC e6 ae aC aJ eW eV eU eC eF gE ay fin aQ aF aE vS xh gG gS qK uL sQ xi xj xk gz gP qL uM sR xl xm
@[ext] structure jA where
 key:BA
 val:fR
 bF:cx
 deriving DecidableEq
abbrev jA.l (x:jA):List Value:=[.string x.key,I x.val.kind,.float .f64 x.val.num,.string x.val.text,I x.bF.wall,I x.bF.ep,I x.bF.node]
@[ext] structure dF where
 kind:Int
 fr:Int
 to:Int
 dK:de
 range:Int
 gx:Int
 code:Int
 bF:cx
 prev:cx
 kP:Bool
 n:Int
 mx:Int
 keys:List BA
 seen:List jA
 writes:List KV
 parts:List Int
 ranges:List dq
 fY:List Rec
 state:State
 deriving DecidableEq
abbrev dF.l (m:dF) (vk vs vw vp vr vc vh vd:Value):List Value:=[I m.kind,I m.fr,I m.to,I m.dK.gN,I m.dK.ga,I m.dK.sq,I m.range,I m.gx,I m.code,
 I m.bF.wall,I m.bF.ep,I m.bF.node,I m.prev.wall,I m.prev.ep,I m.prev.node,B m.kP,I m.n,I m.mx,vk,vs,vw,vp,vr,vc,
 I m.state.range.id,I m.state.range.gx,.float .f64 m.state.range.lo,.float .f64 m.state.range.hi,
 I m.state.floor.wall,I m.state.floor.ep,I m.state.floor.node,I m.state.closed.wall,I m.state.closed.ep,I m.state.closed.node,vh,vd]
abbrev dF.v (m:dF) (vk vs vw vp vr vc vh vd:Value):Value:=.agg #[I m.kind,I m.fr,I m.to,I m.dK.gN,I m.dK.ga,I m.dK.sq,I m.range,I m.gx,I m.code,
 I m.bF.wall,I m.bF.ep,I m.bF.node,I m.prev.wall,I m.prev.ep,I m.prev.node,B m.kP,I m.n,I m.mx,vk,vs,vw,vp,vr,vc,
 I m.state.range.id,I m.state.range.gx,.float .f64 m.state.range.lo,.float .f64 m.state.range.hi,
 I m.state.floor.wall,I m.state.floor.ep,I m.state.floor.node,I m.state.closed.wall,I m.state.closed.ep,I m.state.closed.node,vh,vd]
structure dF.at (w:World) (X:XS) (m:dF) (vk vs vw vp vr vc vh vd:Value):Prop where
 keys:Sl w X 1 vk (m.keys.map S1)
 seen:Sl w X 7 vs (m.seen.map jA.l)
 writes:Sl w X 4 vw (m.writes.map KV.l)
 parts:Sl w X 1 vp (m.parts.map I1)
 ranges:Sl w X 4 vr (m.ranges.map dq.l)
 fY:en w X 29 vc Rec.rd m.fY
 fU:ni w X vh m.state.fU
 fB:nh w X vd m.state.fB
theorem dF.at.mv {w w':World} {X Y:XS} {m:dF} {vk vs vw vp vr vc vh vd:Value} (h:m.at w X vk vs vw vp vr vc vh vd) (v:Mv X w Y w'):m.at w' Y vk vs vw vp vr vc vh vd:=
 ⟨h.keys.mv v,h.seen.mv v,h.writes.mv v,h.parts.mv v,h.ranges.mv v,en.mv h.fY Rec.mv v,en.mv h.fU jq.mv v,en.mv h.fB ey.mv v⟩
def dF.rd (w:World) (X:XS) (l:List Value) (m:dF):Prop:= ∃vk vs vw vp vr vc vh vd,l=m.l vk vs vw vp vr vc vh vd∧m.at w X vk vs vw vp vr vc vh vd
theorem dF.mv:Dd dF.rd:=fun ⟨vk,vs,vw,vp,vr,vc,vh,vd,h,h1⟩ m=>⟨vk,vs,vw,vp,vr,vc,vh,vd,h,h1.mv m⟩
theorem Ev {w:World} {X:XS} {a:Value} {xs:List BA} (ha:Sl w X 1 a (xs.map S1)):
  Ct pg 245 #[a] w X nX fun v _ _=>v=B (ue xs):=by
 intro w0 hk;replace ha:=ha.mv hk.dD;have jV:=ha.gy;apply Wp;unfold Kl;have hs:=ak.init w0;repeat' first|refine aL ?_;intros
 refine fQ (fun n a w X=> ∃i:Nat,a=I (i:Nat)∧n=(xs).length-i∧i≤(xs).length∧ak (aV w0) w0 X w∧chain gn uQ none xs=chain gn uQ (px xs i) (xs.drop i)) (xs).length ⟨0,rfl,rfl,aG _,hs,by simp [px]⟩ ?_;rintro n a w X ⟨i,rfl,rfl,hi,hs,hw⟩;rcases ew (xs) i with⟨dz,x,hx,hd⟩|⟨dV,hd⟩
 ·rcases K0 dz with⟨h0,hp⟩|⟨h0,y,hy,hp⟩<;>rw [hp,hd,chain] at hw<;>clear hd
  ·repeat' first|refine bD ?_;intros|((with_reducible refine dJ (jf _) ?_ hs.has ?_ ?_);(· kernel_rfl);all_goals (intro _ w X au;replace hs:=hs.trans au))|((first|(with_reducible refine aw hs ?_)|(with_reducible refine aw (bR.trans hs) ?_));intro wa hk;simp_all [ue,rising,chain])|((with_reducible refine fh ((xs).length-(i+1)) ?_ ?_);omega;exact⟨i+1,by simp,rfl,by omega,hs,by rw [hw,nJ hx];simp [*]⟩)
  ·repeat' first|refine bD ?_;intros|refine dM ?_ ?_<;>intros|((with_reducible refine dJ (jf _) ?_ hs.has ?_ ?_);(· kernel_rfl);all_goals (intro _ w X au;replace hs:=hs.trans au))|((first|(with_reducible refine aw hs ?_)|(with_reducible refine aw (bR.trans hs) ?_));intro wa hk;simp_all [ue,rising,chain])|((with_reducible refine fh ((xs).length-(i+1)) ?_ ?_);omega;exact⟨i+1,by simp,rfl,by omega,hs,by rw [hw,nJ hx];simp [*]⟩)
 ·repeat' first|refine bD ?_;intros|refine dM ?_ ?_<;>intros|((first|(with_reducible refine aw hs ?_)|(with_reducible refine aw (bR.trans hs) ?_));intro wa hk;simp_all [ue,rising,chain]<;>omega)
def jA.may (x:jA):Bool:=x.bF.may&&x.val.may&&!(decide (x.bF= .zero)&&decide (x.val.kind≠0))
def FB (l:List jA):Bool:=l.all jA.may&&ue (l.map (·.key))
theorem Yi {w:World} {X:XS} {a:Value} {xs:List jA} (ha:Sl w X 7 a (xs.map jA.l)) (hb:xs.length≤2^40):
  Ct pg 247 #[a] w X nX fun v _ _=>v=B (FB xs):=by
 intro w0 hk;replace ha:=ha.mv hk.dD;have jV:=ha.gy;apply Ws;unfold Kn;have hs:=ak.init w0;repeat' first|refine aL ?_;intros
 refine fM (fun n a b w X=> ∃i:Nat,a=I i∧n=xs.length-i∧i≤xs.length∧ak (aV w0) w0 X w∧Own w X w0.heap.size 9 1 b (((xs.take i).map (·.key)).map S1)∧xs.all jA.may=(xs.drop i).all jA.may) xs.length ⟨0,rfl,rfl,aG _,hs,Own.nil _ _ _ _ _,by simp⟩ ?_;rintro n a b w X ⟨i,rfl,rfl,hi,hs,ho,hw⟩;rcases ew (xs) i with⟨dz,x,hx,hd⟩|⟨dV,hd⟩
 ·rw [hd,gW] at hw;have DA: ∀q:Bool,q=false→x.may=q→FB xs=false:=fun q hq h=>by simp [FB,hw,h,hq]
  repeat' first|refine bD ?_;intros|refine dM ?_ ?_<;>intros|(with_reducible refine CH _ ?_ ?_ ?_);(· kernel_rfl);all_goals intros|((with_reducible apply Qt);(case own=>first|assumption|exact Own.since (by assumption) (by assumption));(case hs=>assumption);(case h0=>first|exact fun _ h=>h|exact bR.has);(case he=>kernel_rfl);(case hk=>rfl);(case ho=>first|rfl|assumption);(case hb=>(simp only [aI,bU,av,ba,bL];omega));(case hl=>(simp only [aI,bU,av,ba,bL];omega));intro acc w X au ho hc ef;replace hs:=au)|with_reducible apply dy|((with_reducible refine dJ (my _) ?_ hs.has ?_ ?_);(· kernel_rfl);all_goals (intro _ w X au;replace hs:=hs.trans au))|((with_reducible refine dJ (kH _) ?_ hs.has ?_ ?_);(· kernel_rfl);all_goals (intro _ w X au;replace hs:=hs.trans au))|((first|(with_reducible refine aw hs ?_)|(with_reducible refine aw (bR.trans hs) ?_));intro wa hk;(exact(congrArg B (DA false rfl (by clear DA;grind [jA.may]))).symm))|((with_reducible refine fI ((xs).length-(i+1)) ?_ ?_);omega;exact⟨i+1,by simp,rfl,by omega,hs,by rw [cn,hx];simp only [fj,bC,cf,List.map_nil];(first|exact Own.since ho (by assumption)|exact Own.since (Own.since ho (by assumption)) (by assumption)),by rw [hw];clear DA;grind [jA.may]⟩)
 ·rw [hd] at hw;rw [bq dV] at ho;repeat' first|refine bD ?_;intros|((first|(with_reducible refine aw hs ?_)|(with_reducible refine aw (bR.trans hs) ?_));intro wa hk;(rename_i h;simp [FB,hw,h]))|(refine fS (Ev  (Own.sl ho)) kQ hs.has ?_ ?_<;>(intro _ w X au;replace hs:=hs.trans au))
theorem Re {w:World} {X:XS} {a:Value} {xs:List KV} (ha:Sl w X 4 a (xs.map KV.l)) (hb:xs.length≤2^40):
  Ct pg 248 #[a] w X nX fun v _ _=>v=B (KB xs):=by
 intro w0 hk;replace ha:=ha.mv hk.dD;have jV:=ha.gy;apply PC;unfold DR;have hs:=ak.init w0;repeat' first|refine aL ?_;intros
 refine fM (fun n a b w X=> ∃i:Nat,a=I i∧n=xs.length-i∧i≤xs.length∧ak (aV w0) w0 X w∧Own w X w0.heap.size 9 1 b (((xs.take i).map (·.key)).map S1)∧xs.all (·.val.may)=(xs.drop i).all (·.val.may)) xs.length ⟨0,rfl,rfl,aG _,hs,Own.nil _ _ _ _ _,by simp⟩ ?_;rintro n a b w X ⟨i,rfl,rfl,hi,hs,ho,hw⟩;rcases ew (xs) i with⟨dz,x,hx,hd⟩|⟨dV,hd⟩
 ·rw [hd,gW] at hw;have DA:x.val.may=false→KB xs=false:=fun h=>by simp [KB,hw,h]
  repeat' first|refine bD ?_;intros|((with_reducible apply Qt);(case own=>first|assumption|exact Own.since (by assumption) (by assumption));(case hs=>assumption);(case h0=>first|exact fun _ h=>h|exact bR.has);(case he=>kernel_rfl);(case hk=>rfl);(case ho=>first|rfl|assumption);(case hb=>(simp only [aI,bU,av,ba,bL];omega));(case hl=>(simp only [aI,bU,av,ba,bL];omega));intro acc w X au ho hc ef;replace hs:=au)|((with_reducible refine dJ (kH _) ?_ hs.has ?_ ?_);(· kernel_rfl);all_goals (intro _ w X au;replace hs:=hs.trans au))|((first|(with_reducible refine aw hs ?_)|(with_reducible refine aw (bR.trans hs) ?_));intro wa hk;(exact(congrArg B (DA (by assumption))).symm))|((with_reducible refine fI ((xs).length-(i+1)) ?_ ?_);omega;exact⟨i+1,by simp,rfl,by omega,hs,by rw [cn,hx];simp only [fj,bC,cf,List.map_nil];exact Own.since ho (by assumption),by rw [hw];clear DA;simp [*]⟩)
 ·rw [hd] at hw;rw [bq dV] at ho;repeat' first|refine bD ?_;intros|((first|(with_reducible refine aw hs ?_)|(with_reducible refine aw (bR.trans hs) ?_));intro wa hk;(rename_i h;simp [KB,hw,h]))|(refine fS (Ev  (Own.sl ho)) kQ hs.has ?_ ?_<;>(intro _ w X au;replace hs:=hs.trans au))
def Le (l:List dq):Bool:=l.all dq.may&&decide ((l.length:Int)≤12)
theorem WQ {w:World} {X:XS} {a:Value} {xs:List dq} (ha:Sl w X 4 a (xs.map dq.l)):
  Ct pg 294 #[a] w X nX fun v _ _=>v=B (Le xs):=by
 intro w0 hk;replace ha:=ha.mv hk.dD;have jV:=ha.gy;apply Td;unfold HO;have hs:=ak.init w0;repeat' first|refine aL ?_;intros
 refine fQ (fun n a w X=> ∃i:Nat,a=I (i:Nat)∧n=(xs).length-i∧i≤(xs).length∧ak (aV w0) w0 X w∧xs.all dq.may=(xs.drop i).all dq.may) (xs).length ⟨0,rfl,rfl,aG _,hs,by simp⟩ ?_;rintro n a w X ⟨i,rfl,rfl,hi,hs,hw⟩;rcases ew (xs) i with⟨dz,x,hx,hd⟩|⟨dV,hd⟩
 ·rw [hd,gW] at hw;repeat' first|refine bD ?_;intros|((with_reducible refine dJ (sd _) ?_ hs.has ?_ ?_);(· kernel_rfl);all_goals (intro _ w X au;replace hs:=hs.trans au))|((first|(with_reducible refine aw hs ?_)|(with_reducible refine aw (bR.trans hs) ?_));intro wa hk;(simp [Le,hw, *]))|((with_reducible refine fh ((xs).length-(i+1)) ?_ ?_);omega;exact⟨i+1,by simp,rfl,by omega,hs,by rw [hw];simp [*]⟩)
 ·rw [hd] at hw;repeat' first|refine bD ?_;intros|refine dM ?_ ?_<;>intros|((first|(with_reducible refine aw hs ?_)|(with_reducible refine aw (bR.trans hs) ?_));intro wa hk;(simp_all [Le]))
def codeOk (c:Int) (WR:Bool) (l:List dq):Bool:=if c=0 then WR&&decide (l=[])else decide (c>0)&&decide (c≤25)&&Le l
theorem Yj {w:World} {X:XS} {c:Int} {WR:Bool} {a:Value} {xs:List dq} (ha:Sl w X 4 a (xs.map dq.l)):
  Ct pg 246 #[I c,B WR,a] w X nX fun v _ _=>v=B (codeOk c WR xs):=by
 intro w0 hk;replace ha:=ha.mv hk.dD;have jV:=ha.gy;have agY:xs.length=0↔xs=[]:=mJ;apply Wq;unfold Km;have hs:=ak.init w0;cases WR<;>
 repeat' first|refine aL ?_;intros|refine dM ?_ ?_<;>intros|with_reducible apply dy|((first|(with_reducible refine aw hs ?_)|(with_reducible refine aw (bR.trans hs) ?_));intro wa hk;(simp_all [codeOk]<;>omega))|(refine fS (WQ  qA) kQ hs.has ?_ ?_<;>(intro _ w X au;replace hs:=hs.trans au))
def Lf (l:List Int) (n:Int):Bool:=l.any fun x=>decide (x=n)
theorem aa0 {w:World} {X:XS} {z:Int} {a:Value} {xs:List Int} (ha:Sl w X 1 a (xs.map I1)):
  Ct pg 250 #[a,I z] w X nX fun v _ _=>v=B (Lf xs z):=by
 intro w0 hk;replace ha:=ha.mv hk.dD;have jV:=ha.gy;apply XZ;unfold Mz;have hs:=ak.init w0;repeat' first|refine aL ?_;intros
 refine fQ (fun n a w X=> ∃i:Nat,a=I (i:Nat)∧n=(xs).length-i∧i≤(xs).length∧ak (aV w0) w0 X w∧Lf xs z=Lf (xs.drop i) z) (xs).length ⟨0,rfl,rfl,aG _,hs,by simp⟩ ?_;rintro n a w X ⟨i,rfl,rfl,hi,hs,hw⟩;rcases ew (xs) i with⟨dz,x,hx,hd⟩|⟨dV,hd⟩
 ·rw [hd] at hw;repeat' first|refine bD ?_;intros|refine dM ?_ ?_<;>intros|((first|(with_reducible refine aw hs ?_)|(with_reducible refine aw (bR.trans hs) ?_));intro wa hk;(rw [hw];simp [Lf, *]))|((with_reducible refine fh ((xs).length-(i+1)) ?_ ?_);omega;exact⟨i+1,by simp,rfl,by omega,hs,by rw [hw];simp [Lf, *]⟩)
 ·rw [hd] at hw;repeat' first|refine bD ?_;intros|((first|(with_reducible refine aw hs ?_)|(with_reducible refine aw (bR.trans hs) ?_));intro wa hk;(rw [hw];rfl))
def Lh (l:List Rec):Bool:=l.all (fun r=>decide (r.gD=0))&&decide ((l.length:Int)≤8)
theorem WT {w:World} {X:XS} {a:Value} {xs:List Rec} (ha:en w X 29 a Rec.rd xs) (mY: ∀r∈xs,r.small) (mh: ∀r∈xs,r.err=0→(kD r).length≤2^33):
  Ct pg 175 #[a] w X nX fun v _ _=>v=B (Lh xs):=by
 intro w0 hk;replace ha:=en.mv ha Rec.mv hk.dD;have jV:=ha.len;apply S9;unfold HK;have hs:=ak.init w0;repeat' first|refine aL ?_;intros
 refine fQ (fun n a w X=> ∃i:Nat,a=I (i:Nat)∧n=(xs).length-i∧i≤(xs).length∧ak (aV w0) w0 X w∧xs.all (fun r=>decide (r.gD=0))=(xs.drop i).all (fun r=>decide (r.gD=0))) (xs).length ⟨0,rfl,rfl,aG _,hs,by simp⟩ ?_;rintro n a w X ⟨i,rfl,rfl,hi,hs,hw⟩;rcases ew (xs) i with⟨dz,x,hx,hd⟩|⟨dV,hd⟩
 ·rw [hd,gW] at hw;have hxm:=List.mem_of_getElem? hx;repeat' first|refine bD ?_;intros|((with_reducible apply YP);assumption;(try (case hz=>rfl));(case hr=>exact qR);(try (case hz=>omega));(case ht=>kernel_rfl);(case hs=>kernel_rfl);intros)
  refine dp (HB (r:=x) (Rec.at.mv (by assumption) hs.mv) (mY x hxm) (mh x hxm)) kQ hs.has ?_;rintro v wa w2 X2 hq hle fO bT;replace hs:=hs.trans bT;by_cases he:x.gD=0
  ·rw [if_neg zQ] at hq;obtain⟨vb,rfl,_⟩:=hq;repeat' first|refine bD ?_;intros|((with_reducible refine fh ((xs).length-(i+1)) ?_ ?_);omega;exact⟨i+1,by simp,rfl,by omega,hs,by rw [hw];simp [he]⟩)
  ·rw [if_pos he] at hq;subst hq;repeat' first|refine bD ?_;intros|((first|(with_reducible refine aw hs ?_)|(with_reducible refine aw (bR.trans hs) ?_));intro wa hk;(simp [Lh,hw,he]))
 ·rw [hd] at hw;repeat' first|refine bD ?_;intros|refine dM ?_ ?_<;>intros|((first|(with_reducible refine aw hs ?_)|(with_reducible refine aw (bR.trans hs) ?_));intro wa hk;(simp_all [Lh]))
structure dF.small (m:dF):Prop where
 seen:m.seen.length≤2^40
 writes:m.writes.length≤2^40
 fY: ∀r∈m.fY,r.small
 enc: ∀r∈m.fY,r.err=0→(kD r).length≤2^33
 state:m.state.small
def dF.Rf (m:dF):Bool:=m.dK.may&&sf m.range&&(
 if m.kind=1 then decide (m.gx≥0)&&m.bF.may&&ue m.keys&&decide ((m.keys.length:Int)>0)
 else if m.kind=2 then codeOk m.code (FB m.seen&&decide ((m.seen.length:Int)>0)) m.ranges&&m.bF.may&&(decide (m.code=0)||decide ((m.seen.length:Int)=0))
 else if m.kind=3 then decide (m.gx≥0)&&m.bF.may&&FB m.seen&&KB m.writes&&zm m.parts&&Lf m.parts m.range
 else if m.kind=4 then codeOk m.code true m.ranges&&m.bF.may
 else if m.kind=5 then(if m.kP then m.bF.may&&decide (m.bF≠ .zero)else decide (m.bF= .zero))
 else true)
theorem WU {w:World} {X:XS} {m:dF} {vk vs vw vp vr vc vh vd:Value} (h:m.at w X vk vs vw vp vr vc vh vd) (mY:m.small):
  Ct pg 174 #[m.v vk vs vw vp vr vc vh vd] w X nX fun v _ _=>v=B m.Rf:=by
 intro w0 hk;replace h:=h.mv hk.dD;obtain⟨h1,h2,h3,h4,h5,h6,h7,h8⟩:=h;obtain⟨b1,n1,c1,rfl⟩:=h1.form;obtain⟨b2,n2,c2,rfl⟩:=h2.form;obtain⟨b3,n3,c3,rfl⟩:=h3.form;obtain⟨b4,n4,c4,rfl⟩:=h4.form;obtain⟨b5,n5,c5,rfl⟩:=h5.form;apply S8;unfold HJ;have hs:=ak.init w0;repeat' first|refine aL ?_;intros|refine dM ?_ ?_<;>intros|(with_reducible refine CH _ ?_ ?_ ?_);(· kernel_rfl);all_goals intros|(with_reducible refine acC _ ?_ ?_ ?_);(· kernel_rfl);all_goals intros|with_reducible apply dy|((with_reducible refine dJ (my _) ?_ hs.has ?_ ?_);(· kernel_rfl);all_goals (intro _ w X au;replace hs:=hs.trans au))|((with_reducible refine dJ (AD _) ?_ hs.has ?_ ?_);(· kernel_rfl);all_goals (intro _ w X au;replace hs:=hs.trans au))|((with_reducible refine dJ (Az _) ?_ hs.has ?_ ?_);(· kernel_rfl);all_goals (intro _ w X au;replace hs:=hs.trans au))|(refine fS (Ev  qA) kQ hs.has ?_ ?_<;>(intro _ w X au;replace hs:=hs.trans au))|(refine fS (Yi  qA mY.seen) kQ hs.has ?_ ?_<;>(intro _ w X au;replace hs:=hs.trans au))|(refine fS (Re  qA mY.writes) kQ hs.has ?_ ?_<;>(intro _ w X au;replace hs:=hs.trans au))|(refine fS (KC  qA) kQ hs.has ?_ ?_<;>(intro _ w X au;replace hs:=hs.trans au))|(refine fS (aa0  qA) kQ hs.has ?_ ?_<;>(intro _ w X au;replace hs:=hs.trans au))|(refine fS ((Yj (xs:=m.ranges))  qA) kQ hs.has ?_ ?_<;>(intro _ w X au;replace hs:=hs.trans au))
 all_goals
  (with_reducible refine aw hs ?_)
  intro wa bk;unfold dF.Rf;repeat (first|rw [if_pos zQ]|rw [if_neg zQ])
  simp_all [sf]<;>first|omega|(rename_i z9;intro e9;simp [e9] at z9;done)|(intro e9;simp_all;done)|grind
def dF.tE (m:dF):Bool:=
 if 1≤m.kind∧m.kind≤7 then m.Rf
 else if m.kind=8 then sf m.range&&decide (m.n≥1)&&decide (m.mx≥0)&&decide (m.mx≤8)&&m.bF.may
 else if m.kind=9 then sf m.range&&decide (m.n≥1)&&Lh m.fY
 else if m.kind=10 then sf m.range&&m.state.may&&decide (m.state.range.id=m.range)
 else if m.kind=11 then sf m.range
 else if m.kind=12 then Lc m.prev m.bF m.dK m.writes
 else if m.kind=14 then m.bF.may
 else true
theorem Rg {w:World} {X:XS} {m:dF} {vk vs vw vp vr vc vh vd:Value} (h:m.at w X vk vs vw vp vr vc vh vd) (mY:m.small):
  Ct pg 114 #[m.v vk vs vw vp vr vc vh vd] w X nX fun v _ _=>v=B m.tE:=by
 intro w0 hk;replace h:=h.mv hk.dD;obtain⟨h1,h2,h3,h4,h5,h6,h7,h8⟩:=id h;obtain⟨b3,n3,c3,rfl⟩:=h3.form;apply QR;unfold Fh;have hs:=ak.init w0;repeat' first|refine aL ?_;intros|refine dM ?_ ?_<;>intros|with_reducible apply dy|((with_reducible refine dJ (my _) ?_ hs.has ?_ ?_);(· kernel_rfl);all_goals (intro _ w X au;replace hs:=hs.trans au))|((with_reducible refine dJ (AD _) ?_ hs.has ?_ ?_);(· kernel_rfl);all_goals (intro _ w X au;replace hs:=hs.trans au))|(refine fS ((WU (m:=m))  (h.mv (ak.mv hs)) mY) kQ hs.has ?_ ?_<;>(intro _ w X au;replace hs:=hs.trans au))|(refine fS ((WT (xs:=m.fY))  (en.mv h6 Rec.mv (ak.mv hs)) mY.fY mY.enc) kQ hs.has ?_ ?_<;>(intro _ w X au;replace hs:=hs.trans au))|(refine fS (DU  (s:=m.state) qA qA mY.state) kQ hs.has ?_ ?_<;>(intro _ w X au;replace hs:=hs.trans au))|(refine fS ((KG (l:=m.writes))  qA mY.writes) kQ hs.has ?_ ?_<;>(intro _ w X au;replace hs:=hs.trans au))
 all_goals
  (with_reducible refine aw hs ?_)
  intro wa bk;unfold dF.tE;repeat (first|rw [if_pos zQ]|rw [if_neg zQ])
  try (simp_all [sf]<;>first|omega|grind)
def dF.isZero (m:dF):Bool:=decide (m.dK= .zero)&&decide (m.range=0)&&decide (m.gx=0)&&decide (m.code=0)&&decide (m.bF= .zero)&&decide (m.prev= .zero)&&!m.kP&&decide (m.n=0)&&decide (m.mx=0)&&
 m.state.isZero&&decide ((m.keys.length:Int)+m.seen.length+m.writes.length+m.parts.length+m.ranges.length+m.fY.length=0)
theorem WV {w:World} {X:XS} {m:dF} {vk vs vw vp vr vc vh vd:Value} (h:m.at w X vk vs vw vp vr vc vh vd) (hln:m.keys.length+m.seen.length+m.writes.length+m.parts.length+m.ranges.length+m.fY.length≤2^62):
  Ct pg 113 #[m.v vk vs vw vp vr vc vh vd] w X nX fun v _ _=>v=B m.isZero:=by
 intro w0 hk;replace h:=h.mv hk.dD;obtain⟨h1,h2,h3,h4,h5,h6,h7,h8⟩:=h;have o7:=h7.one;have o8:=h8.one;have q1:m.state.fU.length=0↔m.state.fU=[]:=mJ;have q2:m.state.fB.length=0↔m.state.fB=[]:=mJ;apply Wg;unfold Ka;have hs:=ak.init w0;cases hc:m.kP<;>
 repeat' first|refine aL ?_;intros|refine dM ?_ ?_<;>intros|(with_reducible refine CH _ ?_ ?_ ?_);(· kernel_rfl);all_goals intros|(with_reducible refine acD _ ?_ ?_ ?_);(· kernel_rfl);all_goals intros|with_reducible apply dy|((first|(with_reducible refine aw hs ?_)|(with_reducible refine aw (bR.trans hs) ?_));intro wa hk;(simp_all [dF.isZero,State.isZero,dq.ext_iff]<;>omega))|((with_reducible refine Ca (ze _) hs.has ?_);intro w X au;replace hs:=hs.trans au)
def dF.strip (m:dF):dF×Bool:=
 if m.kind=1 then({ m with dK:=.zero,range:=0,gx:=0,bF:=.zero,keys:=[] },true)
 else if m.kind=2 then({ m with dK:=.zero,range:=0,code:=0,bF:=.zero,seen:=[],ranges:=[] },true)
 else if m.kind=3 then({ m with dK:=.zero,range:=0,gx:=0,bF:=.zero,seen:=[],writes:=[],parts:=[] },true)
 else if m.kind=4 then({ m with dK:=.zero,range:=0,code:=0,bF:=.zero,ranges:=[] },true)
 else if m.kind=5 then({ m with dK:=.zero,range:=0,kP:=false,bF:=.zero },true)
 else if m.kind=6∨m.kind=7 then({ m with dK:=.zero,range:=0 },true)
 else if m.kind=8 then({ m with range:=0,n:=0,mx:=0,bF:=.zero },true)
 else if m.kind=9 then({ m with range:=0,n:=0,fY:=[] },true)
 else if m.kind=10 then({ m with range:=0,state:=.zero },true)
 else if m.kind=11 then({ m with range:=0 },true)
 else if m.kind=12 then({ m with prev:=.zero,bF:=.zero,dK:=.zero,writes:=[] },true)
 else if m.kind=13 then(m,true)
 else if m.kind=14 then({ m with bF:=.zero },true)
 else(m,false)
theorem PQ {w:World} {X:XS} {m:dF} {vk vs vw vp vr vc vh vd:Value} (h:m.at w X vk vs vw vp vr vc vh vd):
  Ct pg 111 #[m.v vk vs vw vp vr vc vh vd] w X nX fun v wa w'=> ∃EU RX fy Hw WC vc' WD WE,v= .tuple #[m.strip.1.v EU RX fy Hw WC vc' WD WE,B m.strip.2]∧
   m.strip.1.at w X EU RX fy Hw WC vc' WD WE:=by
 intro w0 hk;obtain⟨h1,h2,h3,h4,h5,h6,h7,h8⟩:=h;have o1:=h1.one;have o2:=h2.one;have o3:=h3.one;have o4:=h4.one;have o5:=h5.one;have o6:=h6.one;have o7:=h7.one;have o8:=h8.one;apply PA;unfold DP;have hs:=ak.init w0;have n1:Sl w X 1 (.slice none 0 0) (([]:List BA).map S1):=Sl.nil _ _ _;have n2:Sl w X 7 (.slice none 0 0) (([]:List jA).map jA.l):=Sl.nil _ _ _;have n3:Sl w X 4 (.slice none 0 0) (([]:List KV).map KV.l):=Sl.nil _ _ _;have n4:Sl w X 1 (.slice none 0 0) (([]:List Int).map I1):=Sl.nil _ _ _;have n5:Sl w X 4 (.slice none 0 0) (([]:List dq).map dq.l):=Sl.nil _ _ _;have n6:en w X 29 (.slice none 0 0) Rec.rd []:=en.nil _ _ _;have n7:ni w X (.slice none 0 0) []:=en.nil _ _ _;have n8:nh w X (.slice none 0 0) []:=en.nil _ _ _;repeat' first|refine aL ?_;intros|refine dM ?_ ?_<;>intros|with_reducible apply dy
 all_goals
  refine aw hs ?_;intro wa bk;unfold dF.strip;repeat (first|rw [if_pos zQ]|rw [if_neg zQ])
  exact⟨_,_,_,_,_,_,_,_,rfl,by assumption,by assumption,by assumption,by assumption,by assumption,by assumption,by assumption,by assumption⟩
def dF.err (m:dF):Int:=if !m.strip.2 then 7 else if !PO m.fr||!PO m.to||!m.strip.1.isZero||!m.tE then 4 else 0
def dF.lens (m:dF):Nat:=m.keys.length+m.seen.length+m.writes.length+m.parts.length+m.ranges.length+m.fY.length
theorem ae0 {c:Prop} [Decidable c] {a b:dF×Bool} {n:Nat} (ha:a.1.lens≤n) (hb:b.1.lens≤n):(if c then a else b).1.lens≤n:=by split<;>assumption
theorem dF.aa1 (m:dF):m.strip.1.lens≤m.lens:=by
 unfold dF.strip;repeat' with_reducible apply ae0
 all_goals (unfold dF.lens;(try simp only [bL]);omega)
theorem Xx {w:World} {X:XS} {m:dF} {vk vs vw vp vr vc vh vd:Value} (h:m.at w X vk vs vw vp vr vc vh vd) (mY:m.small) (hln:m.lens≤2^62):
  Ct pg 54 #[m.v vk vs vw vp vr vc vh vd] w X nX fun v _ _=>v=I m.err:=by
 intro w0 hk;have h:=h.mv hk.dD;have aml:=ah m.aa1 hln;apply XU;unfold Mt;have hs:=ak.init w0;refine dp (PQ h) kQ hs.has ?_;rintro v wa w X ⟨EU,RX,fy,Hw,WC,vc',WD,WE,rfl,ef⟩ hle fO au;replace hs:=hs.trans au;have q1:=ef.1.one;have q2:=ef.2.one;have q3:=ef.3.one;have q4:=ef.4.one;have q5:=ef.5.one;have q6:=ef.6.one;have q7:=ef.7.one;have q8:=ef.8.one;cases hb:m.strip.2<;>
 repeat' first|refine aL ?_;intros|with_reducible apply dy|((with_reducible refine dJ (Yh _) ?_ hs.has ?_ ?_);(· kernel_rfl);all_goals (intro _ w X au;replace hs:=hs.trans au))|((first|(with_reducible refine aw hs ?_)|(with_reducible refine aw (bR.trans hs) ?_));intro wa hk;(simp [dF.err, *]))|(refine fS ((WV (m:=m.strip.1))  (ef.mv (ak.mv (by first|assumption|exact ak.trans (by assumption) (by assumption)))) aml) kQ hs.has ?_ ?_<;>(intro _ w X au;replace hs:=hs.trans au))|(refine fS ((Rg (m:=m))  (h.mv (ak.mv hs)) mY) kQ hs.has ?_ ?_<;>(intro _ w X au;replace hs:=hs.trans au))
section
variable {κ : Type} [DecidableEq κ] {α β : Type}
theorem Ur (f:α→β) (k:κ) (l:List (κ×α)):getM k (l.map fun x=>(x.1,f x.2))=(getM k l).map f:=by
 induction l with
 |nil=>rfl
 |cons x l ih=>
  simp only [getM,cf,eb] at ih⊢;by_cases hx:x.1=k
  ·simp [hx]
  ·simp only [hx,decide_false] at ih⊢;exact ih
theorem MS (f:α→β) (k:κ) (a:α) (l:List (κ×α)):(dR k a l).map (fun x=>(x.1,f x.2))=dR k (f a) (l.map fun x=>(x.1,f x.2)):=by
 induction l with
 |nil=>rfl
 |cons x l ih=>
  simp only [dR,cf] at ih⊢;by_cases hx:x.1=k
  ·simp [hx]
  ·simp only [hx,if_false,cf,ih]
theorem ae1 (f:α→β) (k:κ) (l:List (κ×α)):(xC k l).map (fun x=>(x.1,f x.2))=xC k (l.map fun x=>(x.1,f x.2)):=by
 unfold xC;rw [List.filter_map];rfl
theorem ae2 (f:α→β) (k:κ) (a:α) {l:List (κ×α)} (h: ∀x∈l,x.1=k→f x.2=f a) (hk:(getM k l).isSome=true):(dR k a l).map (fun x=>(x.1,f x.2))=l.map fun x=>(x.1,f x.2):=by
 induction l with
 |nil=>cases hk
 |cons x l ih=>
  simp only [dR];by_cases hx:x.1=k
  ·simp [hx,h x (by simp) hx]
  ·simp only [hx,if_false,cf];rw [ih (fun y hy=>h y (by simp [hy])) (by simpa [getM,eb,hx] using hk)]
theorem zF (k:κ) (a:α) (l:List (κ×α)):(dR k a l).map (·.1)=if(getM k l).isSome then l.map (·.1)else l.map (·.1)++[k]:=by
 induction l with
 |nil=>rfl
 |cons x l ih=>
  simp only [dR];by_cases hx:x.1=k
  ·simp [hx,getM]
  ·have e:getM k (x::l)=getM k l:=by simp [getM,eb,hx]
   rw [if_neg hx,e,cf,ih];split<;>simp
theorem getM_none {k:κ} {l:List (κ×α)} :getM k l=none↔k ∉ l.map (·.1):=by
 induction l with
 |nil=>simp [getM]
 |cons x l ih=>
  by_cases hx:x.1=k
  ·simp [getM,hx]
  ·have e:getM k (x::l)=getM k l:=by simp [getM,eb,hx]
   rw [e,ih];simp [Ne.symm (hx:x.1≠k),eq_comm,hx]
theorem Ga {k:κ} {a:α} {l:List (κ×α)} (h:(l.map (·.1)).Nodup):((dR k a l).map (·.1)).Nodup:=by
 rw [zF];split
 ·exact h
 ·rename_i hn;have jh:getM k l=none:=by cases hg:getM k l with|none=>rfl|some a=>simp [hg] at hn
  rw [List.nodup_append];refine⟨h,by simp,fun a ha b hb e=>?_⟩;simp only [bw] at hb;subst hb;subst e;exact getM_none.1 jh ha
theorem zd {k:κ} {a:α} {l:List (κ×α)} :getM k (dR k a l)=some a:=by
 induction l with
 |nil=>simp [dR,getM]
 |cons x l ih=>
  simp only [dR];by_cases hx:x.1=k
  ·simp [hx,getM]
  ·rw [if_neg hx];simpa [getM,eb,hx] using ih
theorem Cn {k j:κ} {a:α} {l:List (κ×α)} (hj:j≠k):getM j (dR k a l)=getM j l:=by
 induction l with
 |nil=>simp [dR,getM,Ne.symm hj]
 |cons x l ih=>
  simp only [dR];by_cases hx:x.1=k
  ·rw [if_pos hx];simp [getM,eb,Ne.symm hj,hx]
  ·rw [if_neg hx];by_cases hxj:x.1=j
   ·simp [getM,hxj]
   ·simpa [getM,eb,hxj] using ih
theorem Sy {R:κ×α→κ×α→Prop} {k:κ} {a:α} {l:List (κ×α)} (hn:(l.map (·.1)).Nodup) (hp:l.Pairwise R) (h: ∀y∈l,y.1≠k→R (k,a) y∧R y (k,a)):(dR k a l).Pairwise R:=by
 induction l with
 |nil=>simp [dR]
 |cons x l ih=>
  have jh:=List.nodup_cons.1 hn;have UT:=List.pairwise_cons.1 hp;simp only [dR];by_cases hx:x.1=k
  ·rw [if_pos hx,vF];refine⟨fun y hy=>(h y (by simp [hy]) fun e=>jh.1 (List.mem_map.2 ⟨y,hy,e.trans hx.symm⟩)).1,UT.2⟩
  ·rw [if_neg hx,vF];refine⟨fun y hy=>?_,ih jh.2 UT.2 fun y hy=>h y (by simp [hy])⟩;rcases jv jh.2 hy with rfl|⟨hy,_⟩
   ·exact(h x (by simp) hx).2
   ·exact UT.1 y hy
def sA (f:α→Nat) (l:List (κ×α)):Nat:=(l.map fun x=>f x.2).sum
theorem UX {f:α→Nat} {k:κ} {a b:α} {l:List (κ×α)} (h:getM k l=some b):sA f (dR k a l)+f b=sA f l+f a:=by
 induction l with
 |nil=>cases h
 |cons x l ih=>
  simp only [dR];by_cases hx:x.1=k
  ·have:x.2=b:=by simpa [getM,hx] using h
   rw [if_pos hx];simp only [sA,cf,nc,this];omega
  ·rw [if_neg hx];have:=ih (by simpa [getM,eb,hx] using h);simp only [sA,cf,nc] at this⊢;omega
theorem UW {f:α→Nat} {k:κ} {a:α} {l:List (κ×α)} (h:getM k l=none):sA f (dR k a l)=sA f l+f a:=by
 induction l with
 |nil=>simp [dR,sA]
 |cons x l ih=>
  simp only [dR];by_cases hx:x.1=k
  ·simp [getM,hx] at h
  ·rw [if_neg hx];have:=ih (by simpa [getM,eb,hx] using h);simp only [sA,cf,nc] at this⊢;omega
theorem ae3 {f:α→Nat} {k:κ} {b:α} {l:List (κ×α)} (h:getM k l=some b):f b≤sA f l:=by
 induction l with
 |nil=>cases h
 |cons x l ih=>
  by_cases hx:x.1=k
  ·have:x.2=b:=by simpa [getM,hx] using h
   simp only [sA,cf,nc,this];omega
  ·have:=ih (by simpa [getM,eb,hx] using h);simp only [sA,cf,nc] at this⊢;omega
end
structure DM where
 fs:List (ByteArray×(List Nat×Nat))
 wr:Int
 ar:Nat
 dn:Bool
def DM.sz (m:DM):Nat:=sA (fun x=>x.1.length) m.fs
def DM.get (m:DM) (n:ByteArray):Option (List Nat×Nat):=getM n m.fs
def DM.put (m:DM) (n:ByteArray) (bs:List Nat) (s:Nat):DM:= { m with fs:=dR n (bs,s) m.fs }
def DM.del (m:DM) (n:ByteArray):DM:= { m with fs:=xC n m.fs }
def DM.tick (m:DM):DM:=if m.ar=1 then { m with ar:=0,dn:=true } else { m with ar:=m.ar-1,wr:=IntKind.i64.wrap (m.wr+1) }
def DM.write (m:DM) (e:Nat) (f:DM→DM):DM×Nat:=if m.dn then(m,12)else if e≠0 then(m,e)else if m.tick.dn then(m.tick,12)else(f m.tick,0)
def xf (n:ByteArray):Bool:=decide (1≤n.size∧n.size≤20)
def DM.create (m:DM) (n:ByteArray):DM×Nat:=m.write (if¬xf n then 10 else if(m.get n).isSome then 9 else if 64≤m.fs.length then 3 else 0) fun m=>m.put n [] 0
def DM.append (m:DM) (n:ByteArray) (b:List Nat):DM×Nat:=
 if m.dn then(m,12)else match m.get n with
 |none=>(m,8)
 |some (bs,s)=>if 4194304-m.sz<b.length then(m,11)else(m.tick.put n (bs++b) s,if m.tick.dn then 12 else 0)
def DM.zw (n:ByteArray) (m:DM):DM:=match m.get n with
 |none=>m
 |some x=>m.put n x.1 x.1.length
def DM.sync (m:DM) (n:ByteArray):DM×Nat:=m.write (if(m.get n).isSome then 0 else 8) (DM.zw n)
theorem DM.BH (m:DM):m.tick.fs=m.fs:=by unfold DM.tick;split<;>rfl
theorem DM.zc (m:DM) (n:ByteArray):m.tick.get n=m.get n:=by unfold DM.get;rw [m.BH]
theorem DM.KP (m:DM):m.tick.sz=m.sz:=by unfold DM.sz;rw [m.BH]
theorem DM.T8 {m:DM} {n:ByteArray} {b bs:List Nat} {s s':Nat} (h:m.get n=some (b,s)):(m.put n bs s').sz+b.length=m.sz+bs.length:=UX (f:=fun x:List Nat×Nat=>x.1.length) h
theorem DM.Yp {m:DM} {n:ByteArray} {bs:List Nat} {s':Nat} (h:m.get n=none):(m.put n bs s').sz=m.sz+bs.length:=UW (f:=fun x:List Nat×Nat=>x.1.length) h
theorem DM.T9 (m:DM) (n:ByteArray):(m.zw n).sz=m.sz:=by
 unfold DM.zw;split
 ·rfl
 ·rename_i x hx;have:=DM.T8 (bs:=x.1) (s':=x.1.length) hx;omega
theorem DM.agN {m:DM} {n:ByteArray} {b:List Nat} {s:Nat} (h:m.get n=some (b,s)):b.length≤m.sz:=ae3 (f:=fun x:List Nat×Nat=>x.1.length) h
structure mr where
 b:Nat
 v:Value
 bs:List Nat
 safe:Nat
def mr.er (f:mr):List Nat×Nat:=(f.bs,f.safe)
def MC:World→XS→Value→mr→Prop:=fun _ _ v f=>v=ptr f.b 0
theorem mu:mV MC:=fun _ _ _ _ _ _ h _=>h
def apart (x y:ByteArray×mr):Prop:=x.2.b≠y.2.b∧ ∀g,x.2.v.ownBlock=some g→y.2.v.ownBlock≠some g
structure nf (w:World) (F:XS) (db mb:Nat) (l:List (ByteArray×mr)) (m:DM) (z:Nat):Prop where
 fs:m.fs=l.map fun x=>(x.1,x.2.er)
 box:a7 w F db [.map (some mb),I z,I m.wr,I m.ar,B m.dn] 109
 map:dS w F nX mb bB MC l
 row: ∀x∈l,a7 w F x.2.b [x.2.v,I x.2.safe] 325
 ow: ∀x∈l,Ow w F 5 1 x.2.v (x.2.bs.map U1)
 ap:l.Pairwise apart
 ar:m.ar<2^63
 safe: ∀x∈l,x.2.safe≤x.2.bs.length
def Dk (w:World) (F:XS) (db:Nat) (m:DM):Prop:= ∃mb l,nf w F db mb l m m.sz∧m.sz≤4194304
section
variable {w w' : World} {F F' X X' G A : XS} {db mb z z' : Nat} {l : List (ByteArray × mr)} {m m' : DM} {n : ByteArray} {f : mr}
theorem nf.mv (h:nf w F db mb l m z) (v:Mv F w F' w'):nf w' F' db mb l m z:=
 ⟨h.fs,h.box.mv v,h.map.mv mu v (fun _ h=>h.elim),fun x hx=>(h.row x hx).mv v,fun x hx=>(h.ow x hx).mv v,h.ap,h.ar,h.safe⟩
theorem Dk.mv (h:Dk w F db m) (v:Mv F w F' w'):Dk w' F' db m:=let⟨mb,l,h,hz⟩:=h;⟨mb,l,h.mv v,hz⟩
theorem Dk.mono (h:Dk w F db m) (hs: ∀k,F k→F' k):Dk w F' db m:=h.mv (Mv.sub hs)
theorem nf.get (h:nf w F db mb l m z) (n:ByteArray):m.get n=(getM n l).map mr.er:=by
 unfold DM.get;rw [h.fs];exact Ur mr.er n l
theorem nf.nodup (h:nf w F db mb l m z):(l.map (·.1)).Nodup:=h.map.nodup
theorem nf.len (h:nf w F db mb l m z):m.fs.length=l.length:=by rw [h.fs,aI]
theorem nf.ai0 (h:nf w F db mb l m z) (hX: ∀k,F k→X k) (c:ez (· =db) X w X' w') (hr:a7 w' X' db [.map (some mb),I z',I m'.wr,I m'.ar,B m'.dn] 109) (EG:m'.fs=m.fs) (har:m'.ar<2^63):nf w' F db mb l m' z':=by
 have mv: ∀{A:XS},(∀k,A k→F k∧k≠db)→Mv A w F w':=fun hA k hk _=>⟨(hA k hk).1,c.block k (hX k (hA k hk).1) (hA k hk).2⟩;refine⟨EG.trans h.fs,⟨h.box.1,hr.2⟩,?_,fun x hx=>?_,fun x hx=>?_,h.ap,har,h.safe⟩
 ·exact h.map.own.mv mu (mv fun k hk=>by subst hk;exact⟨h.map.x.1,h.map.eA h.box⟩) fun _ h=>h.elim
 ·exact(h.row x hx).own.mv (mv fun k hk=>by subst hk;exact⟨(h.row x hx).1,(h.row x hx).eA h.box kQ⟩)
 ·exact(h.ow x hx).tight.mv (mv fun k hk=>⟨((h.ow x hx).bK hk).1,fun e=>(h.ow x hx).eA h.box kQ (e▸hk)⟩)
theorem akm {α:Type} {R:α→α→Prop} (hs: ∀a b,R a b→R b a) {l:List α} (h:l.Pairwise R) {x y:α} (hx:x∈l) (hy:y∈l) (du:x≠y):R x y:=by
 induction l with
 |nil=>cases hx
 |cons a l ih=>
  have h':=List.pairwise_cons.1 h;rcases List.mem_cons.1 hx with e1|h1
  ·rcases List.mem_cons.1 hy with e2|h2
   ·exact absurd (e1.trans e2.symm) du
   ·rw [e1];exact h'.1 y h2
  ·rcases List.mem_cons.1 hy with e2|h2
   ·rw [e2];exact hs _ _ (h'.1 x h1)
   ·exact ih h'.2 h1 h2
theorem Hg: ∀a b:ByteArray×mr,apart a b→apart b a:=fun a b h=>⟨Ne.symm h.1,fun g hg ji=>h.2 g ji hg⟩
theorem nf.WW (h:nf w F db mb l m z) (hn:getM n l=some f) {y:ByteArray×mr} (hy:y∈l) (du:y.1≠n):apart (n,f) y:=
 akm Hg h.ap (kh hn) hy fun e=>du (by rw [←e])
theorem k7.ids {A:XS} : ∀{es:List (gB ByteArray)} {l l':List (ByteArray×mr)},k7 w A MC es l→l'.map (fun x=>(x.1,x.2.b))=l.map (fun x=>(x.1,x.2.b))→k7 w A MC es l'
 |[],[],[],_,_=>trivial
 |[],[],_::_,_,h=>by cases h
 |e::es,x::l,[],_,h=>by cases h
 |e::es,x::l,y::l',⟨h1,h2,h3⟩,h=>by
  simp only [cf,yY,Prod.mk.injEq] at h;exact⟨h1.trans h.1.1.symm,by unfold MC at h2⊢;rw [h2,h.1.2],k7.ids h3 h.2⟩
 |[],_::_,_,h,_=>h.elim
 |_::_,[],_,h,_=>h.elim
theorem nf.kI (h:nf w F db mb l m z) (hX: ∀k,F k→X k∧k<w.heap.size) (c:ez G X w X' w') (hn:getM n l=some f) (hG: ∀k,G k→k=f.b∨f.v.ownBlock=some k) (WX: ∀k,F k→F' k)
  {v':Value} {WY:List Nat} {s':Nat} (hr:a7 w' F' f.b [v',I s'] 325) (ho:Ow w' F' 5 1 v' (WY.map U1)) (ef:v'.ownBlock=f.v.ownBlock∨ ∃g,v'.ownBlock=some g∧w.heap.size≤g) (hs:s'≤WY.length):
  nf w' F' db mb (dR n ⟨f.b,v',WY,s'⟩ l) (m.put n WY s') z:=by
 have hf:=kh hn;have rf:=h.row _ hf;have of:=h.ow _ hf;have mv: ∀{A:XS},(∀k,A k→F k∧k≠f.b∧f.v.ownBlock≠some k)→Mv A w F' w':=fun hA k hk _=>by
  obtain⟨a1,a2,a3⟩:=hA k hk;exact⟨WX k a1,c.block k (hX k a1).1 fun hg=>(hG k hg).elim a2 a3⟩
 refine⟨?_,?_,?_,fun x hx=>?_,fun x hx=>?_,?_,h.ar,fun x hx=>?_⟩
 ·show dR n (WY,s') m.fs=_
  rw [h.fs,MS mr.er];rfl
 ·exact h.box.own.mv (mv fun k hk=>by subst hk;exact⟨h.box.1,(rf.eA h.box kQ).symm,of.eA h.box kQ⟩)
 ·obtain⟨es,c',h1,h2⟩:=h.map.own.mv mu (mv fun k hk=>by subst hk;exact⟨h.map.x.1,h.map.eA rf,h.map.aeR of⟩) (A':=nX) fun _ h=>h.elim;refine⟨es,c',h1,k7.ids h2 (ae2 mr.b n ⟨f.b,v',WY,s'⟩ (fun x hx e=>?_) (by rw [hn];rfl))⟩;have:getM n l=some x.2:=zB h.nodup (by rw [←e];exact hx);rw [hn] at this;rw [←iH this]
 ·rcases jv h.nodup hx with rfl|⟨hx,du⟩
  ·exact hr
  ·have ha:=h.WW hn hx du;exact(h.row x hx).own.mv (mv fun k hk=>by subst hk;exact⟨(h.row x hx).1,ha.1.symm,of.eA (h.row x hx) kQ⟩)
 ·rcases jv h.nodup hx with rfl|⟨hx,du⟩
  ·exact ho
  ·have ha:=h.WW hn hx du;exact(h.ow x hx).tight.mv (mv fun k hk=>⟨((h.ow x hx).bK hk).1,fun e=>(h.ow x hx).eA rf kQ (e▸hk),fun e=>ha.2 k e hk⟩)
 ·refine Sy h.nodup h.ap fun y hy du=>?_;have ha:=h.WW hn hy du;have key:apart (n,⟨f.b,v',WY,s'⟩) y:=⟨ha.1,fun g hg ji=>by
   rcases ef with e|⟨g',e,dV⟩
   ·exact ha.2 g (e▸hg) ji
   ·have:=(hX g ((h.ow y hy).bK ji).1).2;have:g'=g:=by
     have e2:v'.ownBlock=some g:=hg;rw [e] at e2;exact iH e2
    omega⟩
  exact⟨key,Hg _ _ key⟩
 ·rcases jv h.nodup hx with rfl|⟨hx,du⟩
  ·exact hs
  ·exact h.safe x hx
theorem nf.new (h:nf w F db mb l m z) (hX: ∀k,F k→X k∧k<w.heap.size) (c:ez G X w X' w') (hn:getM n l=none) (hG: ∀k,G k→k=mb) (WX: ∀k,F k→F' k) {b:Nat} (hb:w.heap.size≤b)
  (hm:dS w' F' nX mb bB MC (dR n ⟨b,.slice none 0 0,[],0⟩ l)) (hr:a7 w' F' b [.slice none 0 0,I (0:Nat)] 325):
  nf w' F' db mb (dR n ⟨b,.slice none 0 0,[],0⟩ l) (m.put n [] 0) z:=by
 have mv: ∀{A:XS},(∀k,A k→F k∧k≠mb)→Mv A w F' w':=fun hA k hk _=>by
  obtain⟨a1,a2⟩:=hA k hk;exact⟨WX k a1,c.block k (hX k a1).1 fun hg=>a2 (hG k hg)⟩
 refine⟨?_,?_,hm,fun x hx=>?_,fun x hx=>?_,?_,h.ar,fun x hx=>?_⟩
 ·show dR n ([],0) m.fs=_
  rw [h.fs,MS mr.er];rfl
 ·exact h.box.own.mv (mv fun k hk=>by subst hk;exact⟨h.box.1,(h.map.eA h.box).symm⟩)
 ·rcases jv h.nodup hx with rfl|⟨hx,du⟩
  ·exact hr
  ·exact(h.row x hx).own.mv (mv fun k hk=>by subst hk;exact⟨(h.row x hx).1,(h.map.eA (h.row x hx)).symm⟩)
 ·rcases jv h.nodup hx with rfl|⟨hx,du⟩
  ·exact Ow.nil _ _ _ _
  ·exact(h.ow x hx).tight.mv (mv fun k hk=>⟨((h.ow x hx).bK hk).1,fun e=>h.map.aeR (h.ow x hx) (e▸hk)⟩)
 ·refine Sy h.nodup h.ap fun y hy du=>?_;have key:apart (n,⟨b,.slice none 0 0,[],0⟩) y:=⟨fun e=>by
   have:=(hX _ (h.row y hy).1).2;have e':b=y.2.b:=e;omega,fun g hg=>by cases hg⟩
  exact⟨key,Hg _ _ key⟩
 ·rcases jv h.nodup hx with rfl|⟨hx,du⟩
  ·exact bg _
  ·exact h.safe x hx
theorem nf.less (h:nf w F db mb l m z) (hX: ∀k,F k→X k) (c:ez (· =mb) X w X' w') (hm:dS w' X' nX mb bB MC (xC n l)):nf w' F db mb (xC n l) (m.del n) z:=by
 have mv: ∀{A:XS},(∀k,A k→F k∧k≠mb)→Mv A w F w':=fun hA k hk _=>⟨(hA k hk).1,c.block k (hX k (hA k hk).1) (hA k hk).2⟩;have nR: ∀x∈xC n l,x∈l:=fun x hx=>(List.mem_filter.1 hx).1;refine⟨?_,?_,?_,fun x hx=>?_,fun x hx=>?_,h.ap.filter _,h.ar,fun x hx=>h.safe x (nR x hx)⟩
 ·show xC n m.fs=_
  rw [h.fs,ae1 mr.er]
 ·exact h.box.own.mv (mv fun k hk=>by subst hk;exact⟨h.box.1,(h.map.eA h.box).symm⟩)
 ·obtain⟨es,c',h1,h2⟩:=hm;exact⟨es,c',⟨h.map.x.1,h1.2⟩,h2⟩
 ·exact(h.row x (nR x hx)).own.mv (mv fun k hk=>by subst hk;exact⟨(h.row x (nR x hx)).1,(h.map.eA (h.row x (nR x hx))).symm⟩)
 ·exact(h.ow x (nR x hx)).tight.mv (mv fun k hk=>⟨((h.ow x (nR x hx)).bK hk).1,fun e=>h.map.aeR (h.ow x (nR x hx)) (e▸hk)⟩)
end
def FX (F X:XS) (w:World):Prop:= ∀k,F k→X k∧k<w.heap.size
theorem FX.kp {F X:XS} {w wa:World} (h:FX F X w) (hk:Kp X w wa):FX F (aV wa) wa:=fun k af=>⟨aH (h k af).2 hk.size,aH (h k af).2 hk.size⟩
theorem FX.mv {F X:XS} {w wa:World} (h:FX F X w) (hk:Kp X w wa):Mv F w F wa:=fun k af _=>⟨af,hk.block k (h k af).1⟩
theorem FX.ft {F X:XS} {w wa:World} (h:FX F X w) (hk:Kp X w wa):Ft wa F wa (aV wa) F:=Ft.init fun k af=>(h.kp hk k af).1
theorem _root_.Go.aR.Ft.fx {w0 w:World} {F0 F G X:XS} (h:Ft w0 F0 w X F) (hG: ∀k,G k→F k):FX G X w:=fun k hk=>⟨h.bK k (hG k hk),h.s.has k (h.bK k (hG k hk))⟩
section
variable {P : Program} {R : Ending → World → Prop} {w w0 : World} {X F F0 G : XS} {db mb z : Nat} {l : List (ByteArray × mr)} {m : DM}
theorem ai1 {κ α:Type} [DecidableEq κ] {A:XS} {t ty kt et b:Nat} {kv:κ→Value} {rd:World→XS→Value→α→Prop} {l:List (κ×α)} {N:Value→Prop} (h:dS w X A b kv rd l) (ht:P.underlying t=some (.map kt et))
  (n:N (I l.length)):ae P X w (j7 #[t] ty #[.map (some b)]) N:=by
 obtain⟨es,c,h1,h2⟩:=h;refine Fa (I l.length) (fun wa hk=>?_) n;have hb:=(h1.kp hk).2.1;have hl:es.length=l.length:=by have:=congrArg List.length h2.keys;simpa using this
 simp [j7,run_underlying ht,getObj,Sem.run,hb,goInt,hl]
theorem acG {t:TypeId} {a b:Int} {N:Value→Prop} (h:N (.int .i64 (IntKind.i64.wrap (a+b)))):ae P X w (binOp .add t (.int .i64 a) (.int .i64 b)) N:=lC h
theorem FC {N:Value→World→XS→Prop} {t o o':Nat} {v:Value} (hT:Ft w0 F0 w X F) (h:nf w G db mb l m z) (hG: ∀k,G k→F k) (m':DM) (z':Nat) (VJ:o'=o) (ht:((P.info? t).map (·.size))=some 1) (ho:o+1≤5) (h1:aR.one v=true)
  (hc:cV [.map (some mb),I z,I m.wr,I m.ar,B m.dn] o [v]=[.map (some mb),I z',I m'.wr,I m'.ar,B m'.dn]) (EG:m'.fs=m.fs) (har:m'.ar<2^63)
  (n: ∀w' X',Ft w0 F0 w' X' F→nf w' G db mb l m' z'→ez (· =db) X w X' w'→N undef w' X'):eU P R X w true (st1 t 1 (ptr db o') v) N:=by
 subst VJ;have hX: ∀k,G k→X k:=fun k hk=>hT.bK k (hG k hk);have hv:v.cells= #[v]:=rz h1;refine By (h.box.mv (Mv.sub hX)) ht ho (by rw [hv];rfl) (by rw [hv];simp [h1]) hT.s.has fun w' X' c hr=>?_;rw [hv] at hr;rw [hc] at hr;exact n w' X' (hT.fL c (fun k hk=>by subst hk;exact hG _ h.box.1) fun k hk=>.inl hk) (h.ai0 hX c hr EG har) c
end
theorem Aj {w:World} {X:XS} {mb:Nat} {l:List (ByteArray×mr)} {n:ByteArray} {N:Value→Prop} (hm:dS w X nX mb bB MC l) (n1: ∀f,getM n l=some f→N (ptr f.b 0)) (n0:getM n l=none→N (.pointer none)):
  ae pg X w (Instr.lookup 107 (.map (some mb)) (.string n) false) N:=
 ti (kt:=9) (et:=253) (.pointer none) hm (Gz kQ) kQ kQ (fun v f h1 h2=>by
  have h2:v=ptr f.b 0:=h2;subst h2;exact n1 f h1) n0
theorem MD {w:World} {X F:XS} {db mb z:Nat} {l:List (ByteArray×mr)} {m:DM} (h:nf w F db mb l m z) (hF:FX F X w) (iy:m.dn=false):
  Ct pg 210 #[ptr db 0] w X F fun v wa w'=>v=B m.tick.dn∧nf w' F db mb l m.tick z:=by
 intro w0 hk;have h0:=h.mv (hF.mv hk);have hT:=hF.ft hk;clear h;have har:=h0.ar;apply LC;unfold Bb;have hb:=h0.box.mv (Mv.sub hT.bK);rw [iy] at hb;have EK: ∀k,F k→F k:=fun _ h=>h;refine dy ?_;repeat' first|refine aL ?_;intros|refine dM ?_ ?_<;>intros|with_reducible apply dy
 ·refine FC hT h0 EK { m with ar:=m.ar-1 } z (o:=3) zQ kQ zQ rfl (by rw [show((m.ar-1:Nat):Int)=(m.ar:Int)-1 by omega];rfl) rfl (by show m.ar-1<_;omega) fun w1 X1 hT h1 c1=>?_;clear hb h0;have hb:=h1.box.mv (Mv.sub hT.bK);repeat' first|refine aL ?_;intros|refine dM ?_ ?_<;>intros
  ·refine FC hT h1 EK { m with ar:=m.ar-1,dn:=true } z (o:=4) zQ kQ zQ rfl rfl rfl h1.ar fun w1 X1 hT h2 c1=>?_;clear hb h1;have hb:=h2.box.mv (Mv.sub hT.bK);have q':((m.ar-1:Nat):Int)=0:=by assumption
   have nE:m.ar=1:=by omega
   repeat' first|refine aL ?_;intros|with_reducible apply dy
   refine hT.fin fun wa bk=>⟨by rw [DM.tick,if_pos nE],?_⟩;rw [DM.tick,if_pos nE];rw [show m.ar-1=0 by omega] at h2;exact h2.mv (bk.fi hT.bK)
  ·refine FC hT h1 EK { m with ar:=m.ar-1,dn:=false } z (o:=4) zQ kQ zQ rfl rfl rfl h1.ar fun w1 X1 hT h2 c1=>?_;clear hb h1;have hb:=h2.box.mv (Mv.sub hT.bK);have q': ¬((m.ar-1:Nat):Int)=0:=by assumption
   have nE: ¬m.ar=1:=by omega
   repeat' first|refine aL ?_;intros|with_reducible apply dy|(with_reducible apply acG)
   refine FC hT h2 EK { m with ar:=m.ar-1,dn:=false,wr:=IntKind.i64.wrap (m.wr+1) } z (o:=2) zQ kQ zQ rfl rfl rfl h2.ar fun w1 X1 hT h3 c1=>?_;clear hb h2;have hb:=h3.box.mv (Mv.sub hT.bK);repeat' first|refine aL ?_;intros
   refine hT.fin fun wa bk=>⟨by rw [DM.tick,if_neg nE,iy],?_⟩;rw [DM.tick,if_neg nE];have h4:=h3.mv (bk.fi hT.bK);rw [←iy] at h4;exact h4
 ·have nE: ¬m.ar=1:=by omega
  have ha0:m.ar-1=m.ar:=by omega
  repeat' first|refine aL ?_;intros|(with_reducible apply acG)
  refine FC hT h0 EK { m with wr:=IntKind.i64.wrap (m.wr+1) } z (o:=2) zQ kQ zQ rfl rfl rfl h0.ar fun w1 X1 hT h3 c1=>?_;clear hb h0;have hb:=h3.box.mv (Mv.sub hT.bK);rw [iy] at hb;repeat' first|refine aL ?_;intros
  refine hT.fin fun wa bk=>⟨by rw [DM.tick,if_neg nE,iy],?_⟩;rw [DM.tick,if_neg nE,ha0];exact h3.mv (bk.fi hT.bK)
theorem Yk (n:ByteArray):Pure pg 185 #[.string n] (B (xf n)):=by
 intro w0;apply Wl;unfold Kf;have hs:=ak.init w0;repeat' first|refine aL ?_;intros|refine dM ?_ ?_<;>intros|(with_reducible refine eD hs ?_);(simp_all [xf]<;>omega)
theorem O9 {w:World} {X:XS} :Ct pg 7 #[] w X nX fun v wa w'=> ∃db,v=ptr db 0∧Dk w' (made wa w') db ⟨[],0,0,false⟩:=by
 intro w0 hk;apply XQ;unfold Mq;have hs:=ak.init w0;refine nD (kv:=bB) MC nX hs.has fun mb w1 X1 hmb au oM=>?_;replace hs:=hs.trans au;refine aaF kQ ?_;refine nZ hs.has fun bx w2 X2 gh bT bJ=>?_;have iv:=oM.mv mu bT.mv (fun _ h=>h.elim) (A':=nX);have hz:=hs.kp.size;refine aw (hs.trans bT) fun wa bk=>⟨bx,rfl,mb,[],⟨rfl,⟨⟨by omega,(bJ.kp bk).lt⟩,(bJ.kp bk).2⟩,?_,by simp,by simp,List.Pairwise.nil,by decide,by simp⟩,by decide⟩;exact iv.own.mv mu (Mv.one bk iv.x.1 ⟨hmb,aH iv.x.2 bk.size⟩) fun _ h=>h.elim
theorem Xe {w:World} {X F:XS} {db:Nat} {m:DM} (h:Dk w F db m) (hF:FX F X w):Ct pg 68 #[ptr db 0] w X nX fun v wa w'=>v=B m.dn:=by
 intro w0 hk;obtain⟨mb,l,h0,hz⟩:=h.mv (hF.mv hk);have hb:=h0.box.mv (Mv.sub fun k af=>(hF.kp hk k af).1);apply Lx;unfold A6;have hs:=ak.init w0;repeat' first|refine aL ?_;intros|((first|(with_reducible refine aw hs ?_)|(with_reducible refine aw (bR.trans hs) ?_));intro wa hk;rfl)
theorem aa2 {w:World} {X F:XS} {db:Nat} {m:DM} {n:ByteArray} (h:Dk w F db m) (hF:FX F X w):Ct pg 188 #[ptr db 0,.string n] w X nX fun v wa w'=>v=I (if(m.get n).isSome then 0 else 8):=by
 intro w0 hk;obtain⟨mb,l,h0,hz⟩:=h.mv (hF.mv hk);have hX:=fun k af=>(hF.kp hk k af).1;have hb:=h0.box.mv (Mv.sub hX);have hg:=h0.get n;have hm:=h0.map.mv mu (Mv.sub hX) (A':=nX) fun _ h=>h.elim;apply NJ;unfold CF;have hs:=ak.init w0;repeat' first|refine aL ?_;intros
 refine Aj hm (fun f h1=>?_) fun h1=>?_
 ·repeat' first|refine aL ?_;intros|((first|(with_reducible refine aw hs ?_)|(with_reducible refine aw (bR.trans hs) ?_));intro wa hk;(rw [hg,h1];rfl))
 ·repeat' first|refine aL ?_;intros|((first|(with_reducible refine aw hs ?_)|(with_reducible refine aw (bR.trans hs) ?_));intro wa hk;(rw [hg,h1];rfl))
theorem KL {w:World} {X F A:XS} {db f:Nat} {c:List Value} {m:DM} {e:Nat} {g:DM→DM} (h:Dk w F db m) (hF:FX F X w) (hA: ∀k,A k→X k∧k<w.heap.size∧ ¬F k) (hf:enters pg f=true)
  (hdo:e=0→ ∀w1 X1,Mv A w A w1→(∀k,A k→X1 k)→FX F X1 w1→Dk w1 F db m.tick→Ct pg f c.toArray w1 X1 F fun v wa w'=>v= .tuple #[]∧ ∃F',(∀k,F' k→F k∨made wa w' k)∧Dk w' F' db (g m.tick)):
  Ct pg 186 #[ptr db 0,I e,.func (.func f) #[] c.toArray] w X F fun v wa w'=>v=I (m.write e g).2∧ ∃F',(∀k,F' k→F k∨made wa w' k)∧Dk w' F' db (m.write e g).1:=by
 intro w0 hk;obtain⟨mb,l,h0,hz⟩:=h.mv (hF.mv hk);have hT:=hF.ft hk;have mL:FX F (aV w0) w0:=hF.kp hk;have hAm:Mv A w A w0:=fun k af _=>⟨af,hk.block k (hA k af).1⟩;have hb:=h0.box.mv (Mv.sub hT.bK);have hs:=ak.init w0;have stay: ∀{w1 X1} (m':DM),Ft w0 F w1 X1 F→nf w1 F db mb l m' m'.sz→m'.sz≤4194304→ ∀wa,Kp X1 w1 wa→ ∃F',(∀k,F' k→F k∨made w0 wa k)∧Dk wa F' db m':=fun m' hT h1 hz wa bk=>⟨F,hT.gX bk fun _ h=>h,mb,l,h1.mv (bk.fi hT.bK),hz⟩;have htz:m.tick.sz=m.sz:=by unfold DM.tick DM.sz;split<;>rfl
 apply Kv;unfold Ae;cases iy:m.dn
 ·rw [iy] at hb;repeat' first|refine aL ?_;intros|refine dM ?_ ?_<;>intros
  ·have he:e≠0:=by omega
   refine hT.fin fun wa bk=>⟨?_,?_⟩
   ·simp [DM.write,iy,he]
   ·simp only [DM.write,iy,he,a8,if_false,ne_eq,not_false_eq_true,if_true];exact stay m hT h0 hz wa bk
  ·have he:e=0:=by omega
   refine hT.call (MD h0 mL iy) kQ (fun _ h=>h) fun v wa w2 X2 hq hle fO cX hc=>?_;obtain⟨rfl,h2⟩:=hq;replace cX:Ft w0 F w2 X2 F:=cX.less fun k hk=>.inl hk;rw [←htz] at h2;cases ht:m.tick.dn
   ·repeat' first|refine aL ?_;intros
    refine cX.call (hdo he w2 X2 (hAm.trans (hc.fi fun k af=>⟨aH (hA k af).2.1 hk.size,(hA k af).2.2⟩)) (fun k af=>hc.sub k (aH (hA k af).2.1 hk.size)) (cX.fx fun _ h=>h) ⟨mb,l,h2,htz▸hz⟩) hf (fun _ h=>h) fun v uR w3 X3 EY ob mA dE rh=>?_;obtain⟨rfl,F',DX,hD⟩:=EY;refine dE.fin fun C8 bk=>⟨?_,F',dE.gX bk DX,?_⟩
    ·simp [DM.write,iy,he,ht]
    ·simp only [DM.write,iy,he,ht,a8,if_false,ne_eq,not_true_eq_false];exact hD.mv (bk.fi fun k af=>dE.bK k (DX k af))
   ·repeat' first|refine aL ?_;intros
    refine cX.fin fun wa bk=>⟨?_,?_⟩
    ·simp [DM.write,iy,he,ht]
    ·simp only [DM.write,iy,he,ht,a8,if_false,ne_eq,not_true_eq_false,if_true];exact stay _ cX h2 (htz▸hz) wa bk
 ·rw [iy] at hb;repeat' first|refine aL ?_;intros
  refine hT.fin fun wa bk=>⟨?_,?_⟩
  ·simp [DM.write,iy]
  ·simp only [DM.write,iy,if_true];exact stay m hT h0 hz wa bk
section
variable {R : Ending → World → Prop} {w w0 : World} {X F F0 G : XS} {db mb z : Nat} {l : List (ByteArray × mr)} {m : DM} {n : ByteArray} {f : mr} {N : Value → World → XS → Prop}
theorem aa3 {o':Nat} {x:Int} {s':Nat} (hT:Ft w0 F0 w X F) (h:nf w G db mb l m z) (hG: ∀k,G k→F k) (hn:getM n l=some f) (ho:o'=1) (hx:x=s') (hs:s'≤f.bs.length)
  (k: ∀w' X',Ft w0 F0 w' X' F→nf w' G db mb (dR n ⟨f.b,f.v,f.bs,s'⟩ l) (m.put n f.bs s') z→N undef w' X'):eU pg R X w true (st1 3 1 (ptr f.b o') (I x)) N:=by
 subst ho;subst hx;have hX: ∀k,G k→X k:=fun k hk=>hT.bK k (hG k hk);have hr:=h.row _ (kh hn);have ho:=h.ow _ (kh hn);refine By (hr.mv (Mv.sub hX)) kQ (by simp) rfl rfl hT.s.has fun w' X' c qq=>?_;have hT':Ft w0 F0 w' X' F:=hT.fL c (fun k hk=>by subst hk;exact hG _ hr.1) fun k hk=>.inl hk;refine k w' X' hT' (h.kI (F':=G) (hT.fx hG) c hn (fun k hk=>.inl hk) (fun _ h=>h) ⟨hr.1,qq.2⟩ ?_ (.inl rfl) hs);exact ho.tight.mv fun k hk hl=>⟨(ho.bK hk).1,c.block k (hX k (ho.bK hk).1) fun e=>ho.eA hr kQ (by rw [←(show k=f.b from e)];exact hk)⟩
theorem acH {vs:Value} {b:List Nat} (hT:Ft w0 F0 w X F) (h:nf w G db mb l m z) (hG: ∀k,G k→F k) (hn:getM n l=some f) (src:Sl w X 1 vs (b.map U1)) (hl:f.bs.length+b.length≤2^40)
  (k: ∀w' X',Ft w0 F0 w' X' (fun k=>F k∨(X' k∧w.heap.size≤k))→(∃v',nf w' (fun k=>G k∨(X' k∧w.heap.size≤k)) db mb (dR n ⟨f.b,v',f.bs++b,f.safe⟩ l) (m.put n (f.bs++b) f.safe) z)→N undef w' X'):
  eV pg R X w true (e6 94 5 1 1 94 f.v vs) fun x w1 X1=>aC pg X1 w1 (aF (ptr f.b 0)) fun p=>ae pg X1 w1 (aS 325 0 0 1 p) fun q=>eU pg R X1 w1 true (st1 94 1 q x) N:=by
 have hX: ∀k,G k→X k:=fun k hk=>hT.bK k (hG k hk);have hr:=h.row _ (kh hn);have ho:=h.ow _ (kh hn);have hsf:=h.safe _ (kh hn);have du:f.v.ownBlock≠some f.b:=ho.eA hr kQ;refine Ph kQ hT.s.has (ho.mono hX) src (by intro r hr u hu;obtain⟨x,_,rfl⟩:=List.mem_map.1 hr;simp only [U1,bw] at hu;subst hu;rfl) (by simp;omega) (by simp;omega) fun v' w1 X1 c uh ef=>?_;have uZ:a7 w1 X1 f.b [f.v,I f.safe] 325:=⟨c.sub _ (hX _ hr.1),by rw [c.block _ (hX _ hr.1) fun e=>du e];exact hr.2⟩
 with_reducible apply TE
 have Ry:fieldInfo pg 325 0=some (0,1):=by kernel_rfl
 refine Pe uZ.cells Ry rfl fun o' uJ _=>?_;subst uJ;have zK:=rz uh.one;refine By uZ kQ (by simp) (by rw [zK];rfl) (by rw [zK];simp [uh.one]) c.has fun w' X' c' qq=>?_;rw [zK] at qq;have cc:ez (fun k=>k=f.b∨f.v.ownBlock=some k) X w X' w':=(c.mono fun k _ hk=>.inr hk).trans (c'.mono fun k _ hk=>.inl hk);have UF:v'.ownBlock≠some f.b:=uh.eA uZ kQ;have fO: ∀g,v'.ownBlock=some g→G g∨(X' g∧w.heap.size≤g):=fun g hg=>by
  rcases ef with e|⟨g',e,dV⟩
  ·exact .inl (ho.bK (e▸hg)).1
  ·rw [hg] at e;have:g=g':=iH e;subst this;exact .inr ⟨c'.sub _ (uh.bK hg).1,dV⟩
 have nY:Ow w' (fun k=>G k∨(X' k∧w.heap.size≤k)) 5 1 v' ((f.bs++b).map U1):=by
  rw [bC];exact uh.tight.mv fun k hk hl=>⟨fO k hk,c'.block k (uh.bK hk).1 fun e=>UF (by rw [←(show k=f.b from e)];exact hk)⟩
 refine k w' X' (hT.fL cc (fun k hk=>?_) fun k hk=>hk) ⟨v',h.kI (F':=fun k=>G k∨(X' k∧w.heap.size≤k)) (hT.fx hG) cc hn (fun k hk=>hk) (fun k hk=>.inl hk) ⟨.inl hr.1,?_⟩ nY ef (by rw [av];have:f.safe≤f.bs.length:=hsf;omega)⟩
 ·rcases hk with rfl|hk
  ·exact hG _ hr.1
  ·exact hG _ (ho.bK hk).1
 ·exact qq.2
end
theorem Tq {w:World} {X F S:XS} {db:Nat} {m:DM} {n:ByteArray} {vb:Value} {b:List Nat} (h:Dk w F db m) (hF:FX F X w) (hb:Sl w S 1 vb (b.map U1)) (hS: ∀k,S k→X k∧ ¬F k) (C9:b.length≤2^30):
  Ct pg 150 #[ptr db 0,.string n,vb] w X F fun v wa w'=>v=I (m.append n b).2∧ ∃F',(∀k,F' k→F k∨made wa w' k)∧Dk w' F' db (m.append n b).1:=by
 intro w0 hk;obtain⟨mb,l,h0,hz⟩:=h.mv (hF.mv hk);have hT:=hF.ft hk;have mL:FX F (aV w0) w0:=hF.kp hk;replace hb:Sl w0 (fun k=>S k∧k<w0.heap.size) 1 vb (b.map U1):=hb.mv fun k af hl=>⟨⟨af,aH hl hk.size⟩,hk.block k (hS k af).1⟩;have gh:=h0.box.mv (Mv.sub hT.bK);have hs:=ak.init w0;have hg:=h0.get n;have hm:=h0.map.mv mu (Mv.sub hT.bK) (A':=nX) fun _ h=>h.elim;apply Ip;unfold yS;repeat' first|refine aL ?_;intros
 refine Aj hm (fun f hn=>?_) fun hn=>?_
 ·have oL:m.get n=some (f.bs,f.safe):=by rw [hg,hn];rfl
  have anh:=DM.agN oL;cases iy:m.dn
  ·rw [iy] at gh;repeat' first|refine aL ?_;intros|refine dM ?_ ?_<;>intros
   ·refine hT.fin fun wa bk=>⟨?_,F,hT.gX bk fun _ h=>h,?_⟩
    ·simp only [DM.append,iy,oL,a8,if_false];rw [if_pos zQ];rfl
    ·simp only [DM.append,iy,oL,a8,if_false];rw [if_pos zQ];exact⟨mb,l,h0.mv (bk.fi hT.bK),hz⟩
   ·have Ax: ¬4194304-m.sz<b.length:=by omega
    refine hT.call (MD h0 mL iy) kQ (fun _ h=>h) fun v wa w2 X2 hq hle fO cX hc=>?_;obtain⟨rfl,h2⟩:=hq;replace cX:Ft w0 F w2 X2 F:=cX.less fun k hk=>.inl hk;have qY:=(h2.row _ (kh hn)).mv (Mv.sub cX.bK);repeat' first|refine aL ?_;intros
    refine acH cX h2 (fun _ h=>h) hn ((hb.mv (hc.fi fun k af=>⟨af.2,(hS k af.1).2⟩)).mono fun k af=>hc.sub k af.2) (show f.bs.length+b.length≤2^40 by omega) fun w3 X3 dE ⟨v',h3⟩=>?_;have Mh:=h3.box.mv (Mv.sub dE.bK);have htz:=m.KP;repeat' first|refine aL ?_;intros
    have IE:=DM.T8 (bs:=f.bs++b) (s':=f.safe) ((m.zc n).trans oL);have hlen:(f.bs++b).length=f.bs.length+b.length:=av;refine FC dE h3 (fun _ h=>h) (m.tick.put n (f.bs++b) f.safe) (m.tick.put n (f.bs++b) f.safe).sz (o:=1) zQ kQ zQ rfl (by rw [show(((m.tick.put n (f.bs++b) f.safe).sz:Nat):Int)=(m.sz:Int)+(b.length:Int)by omega];rfl) rfl h3.ar fun w4 X4 fm h4 c4=>?_;have Cp:=h4.box.mv (Mv.sub fm.bK);have fin: ∀wa,Kp X4 w4 wa→ ∃F',(∀k,F' k→F k∨made w0 wa k)∧Dk wa F' db (m.append n b).1:=fun wa bk=>⟨_,fm.gX bk fun _ h=>h,by
     simp only [DM.append,iy,oL,a8,if_false];rw [if_neg Ax];exact⟨mb,_,h4.mv (bk.fi fm.bK),by show(m.tick.put n (f.bs++b) f.safe).sz≤_;omega⟩⟩
    cases ht:m.tick.dn
    ·repeat' first|refine aL ?_;intros
     refine fm.fin fun wa bk=>⟨?_,fin wa bk⟩;simp only [DM.append,iy,oL,a8,if_false];rw [if_neg Ax];simp [ht]
    ·repeat' first|refine aL ?_;intros
     refine fm.fin fun wa bk=>⟨?_,fin wa bk⟩;simp only [DM.append,iy,oL,a8,if_false];rw [if_neg Ax];simp [ht]
  ·rw [iy] at gh;repeat' first|refine aL ?_;intros
   refine hT.fin fun wa bk=>⟨?_,F,hT.gX bk fun _ h=>h,?_⟩
   ·simp [DM.append,iy]
   ·simp only [DM.append,iy,if_true];exact⟨mb,l,h0.mv (bk.fi hT.bK),hz⟩
 ·have oL:m.get n=none:=by rw [hg,hn];rfl
  cases iy:m.dn
  ·rw [iy] at gh;repeat' first|refine aL ?_;intros
   refine hT.fin fun wa bk=>⟨?_,F,hT.gX bk fun _ h=>h,?_⟩
   ·simp [DM.append,iy,oL]
   ·simp only [DM.append,iy,oL,a8,if_false];exact⟨mb,l,h0.mv (bk.fi hT.bK),hz⟩
  ·rw [iy] at gh;repeat' first|refine aL ?_;intros
   refine hT.fin fun wa bk=>⟨?_,F,hT.gX bk fun _ h=>h,?_⟩
   ·simp [DM.append,iy]
   ·simp only [DM.append,iy,if_true];exact⟨mb,l,h0.mv (bk.fi hT.bK),hz⟩
theorem WZ {w:World} {X F:XS} {db bd bn:Nat} {m:DM} {n:ByteArray} (h:Dk w F db m) (hF:FX F X w) (hd:a7 w X bd [ptr db 0] 51) (hn:a7 w X bn [.string n] 9) (hg:(m.get n).isSome=true):
  Ct pg 211 #[ptr bd 0,ptr bn 0] w X F fun v wa w'=>v= .tuple #[]∧ ∃F',(∀k,F' k→F k∨made wa w' k)∧Dk w' F' db (DM.zw n m):=by
 intro w0 hk;obtain⟨mb,l,h0,hz⟩:=h.mv (hF.mv hk);have hT:=hF.ft hk;replace hd:=hd.mv hk.dD;replace hn:=hn.mv hk.dD;have gh:=h0.box.mv (Mv.sub hT.bK);have hs:=ak.init w0;have oL:=h0.get n;have hm:=h0.map.mv mu (Mv.sub hT.bK) (A':=nX) fun _ h=>h.elim;apply G7;unfold yp;repeat' first|refine aL ?_;intros
 refine Aj hm (fun f h1=>?_) fun h1=>?_
 ·repeat' first|refine aL ?_;intros
  refine Aj hm (fun f' h2=>?_) fun h2=>?_
  ·rw [h1] at h2;cases h2;have hr:=(h0.row _ (kh h1)).mv (Mv.sub hT.bK);have ho:=(h0.ow _ (kh h1)).sl;have amm:m.get n=some (f.bs,f.safe):=by rw [oL,h1];rfl
   repeat' first|refine aL ?_;intros
   refine aa3 hT h0 (fun _ h=>h) h1 (s':=f.bs.length) zQ rfl (bg _) fun w1 X1 dU h3=>?_;refine dU.fin fun wa bk=>⟨rfl,F,dU.gX bk fun _ h=>h,?_⟩;have e:DM.zw n m=m.put n f.bs f.bs.length:=by unfold DM.zw;rw [amm]
   have fK:=m.T9 n;rw [e] at fK⊢;exact⟨mb,_,by rw [fK];exact h3.mv (bk.fi dU.bK),by omega⟩
  ·rw [h1] at h2;cases h2
 ·rw [oL,h1] at hg;cases hg
theorem Yl {w:World} {X F:XS} {db:Nat} {m:DM} {n:ByteArray} (h:Dk w F db m) (hF:FX F X w):
  Ct pg 151 #[ptr db 0,.string n] w X F fun v wa w'=>v=I (m.sync n).2∧ ∃F',(∀k,F' k→F k∨made wa w' k)∧Dk w' F' db (m.sync n).1:=by
 intro w0 hk;replace h:=h.mv (hF.mv hk);have hT:=hF.ft hk;have mL:FX F (aV w0) w0:=hF.kp hk;clear hF;apply LB;unfold Ba;refine td rfl hT.s.has fun bd w1 X1 nA au qs=>?_;refine td rfl au.has fun bn w2 X2 hbn bT hrn=>?_;have zh:=au.trans bT;have cX:=hT.since zh;have Rh:=qs.since bT;have h2:Dk w2 F db m:=h.mv (zh.fZ fun k af=>(mL k af).1);have hs:=ak.ct bT.has;repeat' first|refine aL ?_;intros
 refine dp (aa2 h2 (cX.fx fun _ h=>h)) kQ hs.has ?_;rintro v wa w3 X3 rfl hle fO ea;have dE:=cX.since ea;have h3:Dk w3 F db m:=h2.mv (ea.fZ cX.bK);have ani:=qs.lt;have amn:=ea.sub _ Rh.1;have amo:=ea.sub _ hrn.1;have Ew:=Rh.since ea;have Hh:=hrn.since ea;have e8:I (if(m.get n).isSome then 0 else 8)=I (((if(m.get n).isSome then 0 else 8:Nat)):Nat):=by split<;>rfl
 rw [e8];refine dE.call (KL (A:=fun k=>k=bd∨k=bn) (g:=DM.zw n) h3 (dE.fx fun _ h=>h) (fun k af=>?_) kQ ?_) kQ (fun _ h=>h) fun v mw w4 X4 hq qh lL fm EM=>?_
 ·rcases af with rfl|rfl
  ·exact⟨amn,Ew.lt,fun hf=>by have:=(mL _ hf).2;omega⟩
  ·exact⟨amo,Hh.lt,fun hf=>by have:=(mL _ hf).2;have:=au.kp.size;omega⟩
 ·intro he w5 X5 B8 Jb hF5 h5;refine WZ h5 hF5 ⟨Jb _ (.inl rfl),?_⟩ ⟨Jb _ (.inr rfl),?_⟩ ?_
  ·rw [(B8 bd (.inl rfl) (Ew.lt)).2];exact Ew.2
  ·rw [(B8 bn (.inr rfl) (Hh.lt)).2];exact Hh.2
  ·rw [m.zc];cases EE:(m.get n).isSome
   ·rw [EE] at he;cases he
   ·rfl
 ·obtain⟨rfl,F',DX,hD⟩:=hq
  skip
  refine fm.fin fun C8 bk=>⟨rfl,F',fm.gX bk DX,hD.mv (bk.fi fun k af=>fm.bK k (DX k af))⟩
theorem Ri {w:World} {X F:XS} {db bd bn:Nat} {m:DM} {n:ByteArray} (h:Dk w F db m) (hF:FX F X w) (hd:a7 w X bd [ptr db 0] 51) (hn:a7 w X bn [.string n] 9) (hg:m.get n=none):
  Ct pg 187 #[ptr bd 0,ptr bn 0] w X F fun v wa w'=>v= .tuple #[]∧ ∃F',(∀k,F' k→F k∨made wa w' k)∧Dk w' F' db (m.put n [] 0):=by
 intro w0 hk;obtain⟨mb,l,h0,hz⟩:=h.mv (hF.mv hk);have hT:=hF.ft hk;have mL:FX F (aV w0) w0:=hF.kp hk;replace hd:=hd.mv hk.dD;replace hn:=hn.mv hk.dD;have gh:=h0.box.mv (Mv.sub hT.bK);have hs:=ak.init w0;have oL:=h0.get n;have hm:=h0.map.mv mu (Mv.sub hT.bK) (A':=nX) fun _ h=>h.elim;have hgn:getM n l=none:=by
  rw [hg] at oL;cases hq:getM n l with
  |none=>rfl
  |some f=>rw [hq] at oL;cases oL
 apply Es;unfold vA;repeat' first|refine aL ?_;intros|(with_reducible apply nZ);(case hX=>exact hs.has);intro bx w X gh au bJ;have bR:=hs.trans au;replace hs:=ak.ct au.has
 have oM:=hm.mv mu bR.mv (A':=nX) fun _ h=>h.elim;refine tf (kt:=9) (et:=253) (a:=⟨bx,.slice none 0 0,[],0⟩) oM mu (show MC _ _ (ptr bx 0) ⟨bx,.slice none 0 0,[],0⟩from rfl) (fun _ h=>h.elim) (Gz kQ) kQ bR.has fun w2 X2 c iv=>?_;have dU:=hT.since bR;have Sb:bx≠mb:=(oM.eA bJ).symm;have cX:Ft w0 F w2 X2 (fun k=>F k∨k=bx):=(dU.more (F':=fun k=>F k∨k=bx) fun k af=>af.imp id fun e=>by subst e;exact⟨bJ.1,gh⟩).fL c (fun k af=>by subst af;exact .inl h0.map.x.1) fun k af=>.inl af;have AM:ez (· =mb) (aV w0) w0 X2 w2:=(ez.rM bR _).trans c;refine cX.fin fun wa bk=>⟨rfl,_,cX.gX bk fun _ h=>h,?_⟩;have fK:=DM.Yp (bs:=[]) (s':=0) hg;have hL:=h0.new (F':=fun k=>F k∨k=bx) mL AM hgn (fun k af=>af) (fun k af=>.inl af) gh (iv.own.mv mu (fun k af hl=>⟨.inl (by subst af;exact h0.map.x.1),rfl⟩) fun _ h=>h.elim) ⟨.inr rfl,by rw [c.block _ bJ.1 Sb];exact bJ.2⟩;have amp:(m.put n [] 0).sz=m.sz:=by simpa using fK
 rw [←amp] at hL;exact⟨mb,_,hL.mv (bk.fi cX.bK),by omega⟩
def DM.zq (m:DM) (n:ByteArray):Nat:=if¬xf n then 10 else if(m.get n).isSome then 9 else if 64≤m.fs.length then 3 else 0
theorem Tr {w:World} {X F:XS} {db:Nat} {m:DM} {n:ByteArray} (h:Dk w F db m) (hF:FX F X w):
  Ct pg 130 #[ptr db 0,.string n] w X F fun v wa w'=>v=I (m.create n).2∧ ∃F',(∀k,F' k→F k∨made wa w' k)∧Dk w' F' db (m.create n).1:=by
 intro w0 hk;replace h:=h.mv (hF.mv hk);have hT:=hF.ft hk;have mL:FX F (aV w0) w0:=hF.kp hk;clear hF;obtain⟨mb,l,h0,hz⟩:=id h;apply Il;unfold yP;refine td rfl hT.s.has fun bd w1 X1 nA au qs=>?_;refine td rfl au.has fun bn w2 X2 hbn bT hrn=>?_;have zh:=au.trans bT;have hs:=ak.ct bT.has;have Rh:=qs.since bT;have hX:=fun k af=>zh.sub k (hT.bK k af);have gh:=(h0.box.mv (Mv.sub hT.bK)).since zh;have hm:=(h0.map.mv mu (Mv.sub hT.bK) (A':=nX) fun _ h=>h.elim).mv mu zh.mv (A':=nX) fun _ h=>h.elim;have oL:=h0.get n;have hlen:=h0.len;have key: ∀(w3:World) (X3:XS) (e:Nat),ak X2 w2 X3 w3→m.zq n=e→eC pg (xv F w0 fun v w'=>v=I (m.create n).2∧ ∃F',(∀k,F' k→F k∨made w0 w' k)∧Dk w' F' db (m.create n).1) X3 w3 true 186 #[ptr db 0,I e,.func (.func 187) #[] #[ptr bd 0,ptr bn 0]] fun x w4 X4=>
   fin (xv F w0 fun v w'=>v=I (m.create n).2∧ ∃F',(∀k,F' k→F k∨made w0 w' k)∧Dk w' F' db (m.create n).1) X4 w4 x:=by
  intro w3 X3 e ea he;have ai2:=zh.trans ea;have dE:=hT.since ai2;have h3:Dk w3 F db m:=h.mv (ai2.fZ fun k af=>(mL k af).1);have Ew:=Rh.since ea;have Hh:=hrn.since ea;have em:m.create n=m.write e fun m=>m.put n [] 0:=by rw [←he];rfl
  rw [em];refine dE.call (KL (A:=fun k=>k=bd∨k=bn) (g:=fun m=>m.put n [] 0) h3 (dE.fx fun _ h=>h) (fun k af=>?_) kQ ?_) kQ (fun _ h=>h) fun v mw w4 X4 hq qh lL fm EM=>?_
  ·rcases af with rfl|rfl
   ·exact⟨Ew.1,Ew.lt,fun hf=>by have:=(mL _ hf).2;omega⟩
   ·exact⟨Hh.1,Hh.lt,fun hf=>by have:=(mL _ hf).2;have:=au.kp.size;omega⟩
  ·intro yI w5 X5 B8 Jb hF5 h5;refine Ri h5 hF5 ⟨Jb _ (.inl rfl),?_⟩ ⟨Jb _ (.inr rfl),?_⟩ ?_
   ·rw [(B8 bd (.inl rfl) (Ew.lt)).2];exact Ew.2
   ·rw [(B8 bn (.inr rfl) (Hh.lt)).2];exact Hh.2
   ·rw [m.zc];rw [yI] at he;unfold DM.zq at he;cases EE:m.get n with
    |none=>rfl
    |some x=>
     rw [EE] at he;simp at he;exfalso;split at he<;>omega
  ·obtain⟨rfl,F',DX,hD⟩:=hq;exact fm.fin fun C8 bk=>⟨rfl,F',fm.gX bk DX,hD.mv (bk.fi fun k af=>fm.bK k (DX k af))⟩
 refine mn (fun k=> ∀(e:Nat) (w3:World) (X3:XS),ak X2 w2 X3 w3→m.zq n=e→k (I e) w3 X3) ?_ ?_
 ·intro e w3 X3 ea he;have Ew:=Rh.since ea;repeat' first|refine aL ?_;intros
  exact key w3 X3 e ea he
 ·intro K hK;repeat' first|refine aL ?_;intros|((with_reducible refine dJ (Yk _) ?_ hs.has ?_ ?_);(· kernel_rfl);all_goals (intro _ w X au;replace hs:=hs.trans au))
  ·have Hh:=hrn.since hs;have Ew:=Rh.since hs;have anj:=gh.since hs;have kR:=hm.mv mu hs.mv (A':=nX) fun _ h=>h.elim
   skip
   refine Aj kR (fun f hn=>?_) fun hn=>?_
   ·repeat' first|refine aL ?_;intros
    exact hK 9 _ _ hs (by simp_all [DM.zq])
   ·repeat' first|refine aL ?_;intros|refine dM ?_ ?_<;>intros|(refine ai1 kR (kt:=9) (et:=253) kQ ?_)
    ·exact hK 3 _ _ hs (by simp only [DM.zq,oL,hn];simp_all<;>omega)
    ·exact hK 0 _ _ hs (by simp only [DM.zq,oL,hn];simp_all<;>omega)
  ·exact hK 10 _ _ hs (by simp_all [DM.zq])
def xr (a b:Int):Int:=IntKind.u32.wrap (bS IntKind.u32.bits a^^^bS IntKind.u32.bits b).toNat
def Zb (a b:Int):Int:=IntKind.u8.wrap (bS IntKind.u8.bits a^^^bS IntKind.u8.bits b).toNat
def an (a b:Int):Int:=IntKind.u32.wrap (bS IntKind.u32.bits a&&& bS IntKind.u32.bits b).toNat
def sr (a n:Int):Int:=a.fdiv (2^min n.toNat IntKind.u32.bits)
def ng (a:Int):Int:=IntKind.u32.wrap (-a)
def nt (a:Int):Int:=xr IntKind.u32.max a
def stp (c:Int):Int:=xr (sr c 1) (an 2197175160 (ng (an c 1)))
def it:Nat→Int→Int
 |0,c=>c
 |n+1,c=>stp (it n c)
def Bh (i:Int):Int:=it 8 (IntKind.u32.wrap i)
def aa4 (l:List Nat) (c:Int):Int:=l.foldl (fun (c:Int) (x:Nat)=>it 8 (xr c (IntKind.u32.wrap x))) c
def W4 (l:List Nat) (c:Int):Int:=l.foldl (fun (c:Int) (x:Nat)=>xr (sr c 8) (Bh (Zb (IntKind.u8.wrap c) x))) c
def NU (l:List Nat):Int:=nt (if l.length<64 then aa4 l 4294967295 else W4 l 4294967295)
def crc (l:List Nat):Nat:=(NU l).toNat
def yB (n:Nat):List Nat:=[n % 256,n/256 % 256,n/65536 % 256,n/16777216 % 256]
def ke (p:List Nat):List Nat:=yB p.length++yB (crc (yB p.length))++p++yB (crc p)
theorem wrap32 (n:Int):IntKind.u32.wrap n=n % 4294967296:=by simp [oC,me,jd]
theorem ae4 (a b:Int):0≤xr a b∧xr a b<4294967296:=by unfold xr;rw [wrap32];omega
theorem acI (a b:Int):0≤Zb a b∧Zb a b<256:=by unfold Zb;rw [Ld];omega
theorem aa5 (l:List Nat):0≤NU l∧NU l<4294967296:=ae4 _ _
theorem acJ (l:List Nat):((crc l:Nat):Int)=NU l:=uy (aa5 l).1
theorem agO (n:Nat):(yB n).length=4:=rfl
theorem Ob (p:List Nat):(ke p).length=p.length+12:=by simp only [ke,av,agO];omega
section
variable {P : Program} {R : Ending → World → Prop} {X : XS} {w : World} {m : Bool} {N : Value → Prop} {t : TypeId} {a b : Int}
theorem aa6 (h:N (.int .u32 (xr a b))):ae P X w (binOp .xor t (.int .u32 a) (.int .u32 b)) N:=Qs h
theorem akn (h:N (.int .u8 (Zb a b))):ae P X w (binOp .xor t (.int .u8 a) (.int .u8 b)) N:=Qs h
theorem ai3 (h:N (.int .u32 (an a b))):ae P X w (binOp .and t (.int .u32 a) (.int .u32 b)) N:=YX h
theorem ae5 (hb: ¬b<0) (h:N (.int .u32 (sr a b))):ae P X w (binOp .shr t (.int .u32 a) (.int .u64 b)) N:=Fb hb h
theorem ai4 (h:N (.int .u32 (ng a))):ae P X w (aY .neg (.int .u32 a)) N:=cd (fun wa=>by simp [aY,ng,Op.intArith]) h
theorem ai5 (h:N (.int .u32 (nt a))):ae P X w (aY .xor (.int .u32 a)) N:=cd (fun wa=>by simp [aY,nt,xr,Op.intBits,jd]) h
theorem Zc {k:IntKind} {g o i:Nat} {z:Int} (hz:z=i) (hi:i<P.arrayLen t) (ht:P.underlying t=some (.array (P.arrayLen t) (P.elem t))) (hs:(P.info? (P.elem t)).map (·.size)=some 1) (h:N (ptr g (o+i))):
  ae P X w (Instr.indexAt t (ptr g o) (.int k z)) N:=by
 subst hz;refine cd (v:=ptr g (o+i)) (fun wa=>?_) h
 show(Instr.indexAt t (.pointer (some ⟨g,o,none⟩)) _).run P wa=_
 rw [run_indexAt_array (h:=ht),if_pos zQ];cases hq:P.info? (P.elem t)with
 |none=>simp [hq] at hs
 |some inf=>
  have:inf.size=1:=by simpa [hq] using hs
  simp [sizeOf,typeInfo,hq,this,y9]
end
abbrev U4 (x:Int):Value:=.int .u32 x
theorem Ts {w:World} {X:XS} :Ct pg 256 #[] w X nX fun v wa w'=>v= .agg ((dI 256).map fun i:Nat=>U4 (Bh (i:Int))).toArray:=by
 intro w0 hk;apply QY;unfold Fp;have hs:=ak.init w0;have hT:Ft w0 nX w0 (aV w0) nX:=Ft.init fun _ h=>h.elim;refine Qw (l:=fz 256 (U4 0)) hs.has kQ fun b w1 X1 hb au hr=>?_;have dU:Ft w0 nX w1 X1 (fun k=>k=b):=(hT.since au).more fun k af=>by subst af;exact .inr ⟨hr.1,hb⟩
 refine B2 (fun n a _ _ w X=> ∃i:Nat,a=I (i:Nat)∧n=256-i∧i≤256∧Ft w0 nX w X (fun k=>k=b)∧a7 w X b (((dI i).map fun i:Nat=>U4 (Bh (i:Int)))++fz (256-i) (U4 0)) 385) 256 ⟨0,rfl,rfl,aG _,dU,by simpa using hr⟩ ?_;rintro n a _ _ w X ⟨i,rfl,rfl,hi,cX,qY⟩;repeat' first|refine aL ?_;intros|refine dM ?_ ?_<;>intros
 ·refine fM (fun n a c w' X'=> ∃j:Nat,a=I (j:Nat)∧c=U4 (it j (IntKind.u32.wrap i))∧n=8-j∧j≤8∧w'=w∧X'=X) 8 ⟨0,rfl,rfl,rfl,aG _,rfl,rfl⟩ ?_;rintro n a c _ _ ⟨j,rfl,rfl,rfl,hj,rfl,rfl⟩;repeat' first|refine aL ?_;intros|refine dM ?_ ?_<;>intros|(with_reducible apply ae5);omega|(with_reducible apply ai3)|(with_reducible apply ai4)|(with_reducible apply aa6)
  ·exact fI (8-(j+1)) zQ ⟨j+1,by simp,rfl,rfl,by omega,rfl,rfl⟩
  ·have hj8:j=8:=by omega
   subst hj8;have Pa:pg.arrayLen 385=256:=by kernel_rfl
   refine Zc rfl (by rw [Pa];omega) kQ kQ ?_;rw [eZ];refine By qY kQ (by simp;omega) rfl rfl cX.s.has fun w3 X3 c sU=>?_;have dE:Ft w0 nX w3 X3 (fun k=>k=b):=cX.fL c (fun k af=>af) fun k af=>.inl af;repeat' first|refine aL ?_;intros
   refine B3 (256-(i+1)) zQ ⟨i+1,by simp,rfl,by omega,dE,?_⟩;have e:cV (((dI i).map fun i:Nat=>U4 (Bh (i:Int)))++fz (256-i) (U4 0)) i (aa (U4 (it 8 (IntKind.u32.wrap (i:Int))))).toList=((dI (i+1)).map fun i:Nat=>U4 (Bh (i:Int)))++fz (256-(i+1)) (U4 0):=by
    have hl:((dI i).map fun i:Nat=>U4 (Bh (i:Int))).length=i:=by simp
    rw [show 256-i=(256-(i+1))+1 by omega,List.replicate_succ];unfold cV;rw [List.take_left' hl,List.range_succ,bC,List.map_singleton,aK,aK];have hd: ∀r:List Value,(((dI i).map fun i:Nat=>U4 (Bh (i:Int)))++U4 0::r).drop (i+1)=r:=fun r=>by
     rw [←List.drop_drop,List.drop_left' hl];rfl
    have h1:(aa (U4 (it 8 (IntKind.u32.wrap (i:Int))))).toList=[U4 (Bh (i:Int))]:=rfl;rw [h1,bz,hd]
   rw [←e];exact sU
 ·have hi6:i=256:=by omega
  subst hi6;have sU:a7 w X b ((dI 256).map fun i:Nat=>U4 (Bh (i:Int))) 385:=by simpa using qY
  have hl:((dI 256).map fun i:Nat=>U4 (Bh (i:Int))).length=256:=by simp
  generalize hL:((dI 256).map fun i:Nat=>U4 (Bh (i:Int)))=L at sU hl⊢;have tG:L.all aR.one=true:=by rw [←hL];simp;intros;rfl
  refine ZR sU.cells (Mv.refl _ _) kQ hl ?_;refine acv ?_;refine dk.2 ⟨by simpa [aa] using hl,dk.2 ⟨by simpa [aa] using tG,?_⟩⟩;refine acu ?_;refine dk.2 ⟨rfl,?_⟩;rw [List.drop_zero,bq zQ];exact cX.fin fun wa bk=>rfl
theorem Sz {β:Type} (f:β→Nat→β) (l:List Nat) {i x:Nat} (c:β) (h:l[i]? =some x):(l.take (i+1)).foldl f c=f ((l.take i).foldl f c) x:=by
 rw [cn,h];simp
theorem ME {w:World} {X:XS} {vb:Value} {l:List Nat} (h:Sl w X 1 vb (l.map U1)):Ct pg 184 #[vb] w X nX fun v wa w'=>v=U4 (NU l):=by
 intro w0 hk;replace h:=h.mv hk.dD;have hlen:=h.gy;apply Wk;unfold Ke;have hs:=ak.init w0;repeat' first|refine aL ?_;intros|refine dM ?_ ?_<;>intros
 ·have h64:l.length<64:=by omega
  refine B2 (fun n a _ c w X=> ∃i:Nat,a=I (i:Nat)∧c=U4 (aa4 (l.take i) 4294967295)∧n=l.length-i∧i≤l.length∧ak (aV w0) w0 X w) l.length ⟨0,rfl,rfl,rfl,aG _,hs⟩ ?_;clear hs;rintro n a _ _ w X ⟨i,rfl,rfl,rfl,hi,hs⟩;rcases ew l i with⟨dz,x,hx,hd⟩|⟨dV,hd⟩
  ·repeat' first|refine bD ?_;intros|(with_reducible apply aa6)
   refine fM (fun n a c w' X'=> ∃j:Nat,a=I (j:Nat)∧c=U4 (it j (xr (aa4 (l.take i) 4294967295) (IntKind.u32.wrap x)))∧n=8-j∧j≤8∧w'=w∧X'=X) 8 ⟨0,rfl,rfl,rfl,aG _,rfl,rfl⟩ ?_;rintro n a c _ _ ⟨j,rfl,rfl,rfl,hj,rfl,rfl⟩;repeat' first|refine aL ?_;intros|refine dM ?_ ?_<;>intros|(with_reducible apply ae5);omega|(with_reducible apply ai3)|(with_reducible apply ai4)|(with_reducible apply aa6)
   ·exact fI (8-(j+1)) zQ ⟨j+1,by simp,rfl,rfl,by omega,rfl,rfl⟩
   ·have hj8:j=8:=by omega
    subst hj8;refine B3 (l.length-(i+1)) zQ ⟨i+1,by simp,?_,rfl,by omega,hs⟩;unfold aa4;rw [Sz _ l _ hx]
  ·have AZ:i=l.length:=by omega
   subst AZ;repeat' first|refine bD ?_;intros|(with_reducible apply ai5)|((first|(with_reducible refine aw hs ?_)|(with_reducible refine aw (bR.trans hs) ?_));intro wa hk;(rw [NU,if_pos h64,yv]))
 ·have h64: ¬l.length<64:=by omega
  refine dp Ts kQ hs.has ?_;rintro _ wa w1 X1 rfl hle fO au;replace hs:=hs.trans au;refine Qw (l:=fz 256 (U4 0)) hs.has kQ fun b w2 X2 hb bT hr=>?_;have zh:=hs.trans bT;have hT:Ft w0 nX w2 X2 (fun k=>k=b):=((Ft.init (w:=w0) (F0:=nX) fun _ h=>h.elim).since zh).more fun k af=>by subst af;exact .inr ⟨hr.1,by have:=hs.kp.size;omega⟩
  have hl:((dI 256).map fun i:Nat=>U4 (Bh (i:Int))).length=256:=by simp
  have Nv: ∀i:Nat,i<256→((dI 256).map fun i:Nat=>U4 (Bh (i:Int)))[i]? =some (U4 (Bh (i:Int))):=fun i hi=>by simp [hi]
  have tG:((dI 256).map fun i:Nat=>U4 (Bh (i:Int))).all aR.one=true:=by simp;intros;rfl
  generalize ((dI 256).map fun i:Nat=>U4 (Bh (i:Int)))=L at hl Nv tG⊢;refine By hr kQ (by simp) (by simpa [aa] using hl) (by simpa [aa] using tG) hT.s.has fun w3 X3 c sU=>?_;have dE:Ft w0 nX w3 X3 (fun k=>k=b):=hT.fL c (fun k af=>af) fun k af=>.inl af;have e:cV (fz 256 (U4 0)) 0 (aa (.agg L.toArray)).toList=L:=by
   unfold cV;simp [aa,hl]
  rw [e] at sU;have ea:ak (aV w0) w0 X3 w3:=⟨⟨dE.s.kp.os,dE.s.kp.tape,dE.s.kp.output,dE.s.kp.size,fun k af=>dE.s.kp.block k ⟨af,fun h=>h.elim⟩⟩,fun k af=>dE.s.sub k ⟨af,fun h=>h.elim⟩,dE.s.has⟩;clear hs zh;have hs:=ea;repeat' first|refine aL ?_;intros
  refine fM (fun n a c w X=> ∃i:Nat,a=I (i:Nat)∧c=U4 (W4 (l.take i) 4294967295)∧n=l.length-i∧i≤l.length∧w=w3∧X=X3) l.length ⟨0,rfl,rfl,rfl,aG _,rfl,rfl⟩ ?_;rintro n a _ _ _ ⟨i,rfl,rfl,rfl,hi,rfl,rfl⟩;rcases ew l i with⟨dz,x,hx,hd⟩|⟨dV,hd⟩
  ·repeat' first|refine bD ?_;intros|(with_reducible apply ae5);omega|(with_reducible apply akn)
   have hrg:=acI (IntKind.u8.wrap (W4 (l.take i) 4294967295)) x;obtain⟨q,hq⟩: ∃q:Nat,Zb (IntKind.u8.wrap (W4 (l.take i) 4294967295)) x=(q:Int):=⟨_,(uy hrg.1).symm⟩;have Pa:pg.arrayLen 385=256:=by kernel_rfl
   refine Zc hq (by rw [Pa];omega) kQ kQ ?_;rw [eZ];have hcq:=sU.cells.Ty (Nv q zQ);rw [eZ] at hcq;repeat' first|refine aL ?_;intros|(with_reducible apply aa6)
   refine fI (l.length-(i+1)) zQ ⟨i+1,by simp,?_,rfl,by omega,rfl,rfl⟩;unfold W4;rw [Sz _ l _ hx,←hq];rfl
  ·have AZ:i=l.length:=by omega
   subst AZ;repeat' first|refine bD ?_;intros|(with_reducible apply ai5)|((first|(with_reducible refine aw hs ?_)|(with_reducible refine aw (bR.trans hs) ?_));intro wa hk;(rw [NU,if_neg h64,yv]))
theorem aa7 {P:Program} {X:XS} {w:World} {N:Value→Prop} {t:TypeId} {u:Nat} (k:Nat) (hk:k≤32) (h:N (.int .u32 ((u/2^k:Nat):Int))):ae P X w (binOp .shr t (.int .u32 (u:Int)) (.int .u64 (k:Int))) N:=by
 refine Fb zQ ?_;have e:((u:Int)).fdiv (2^min ((k:Int)).toNat IntKind.u32.bits)=((u/2^k:Nat):Int):=by
  rw [show min ((k:Int)).toNat IntKind.u32.bits=k by simp [me];omega];rw [Int.fdiv_eq_ediv_of_nonneg _ (by exact_mod_cast aG _)]
  norm_cast
 rw [e];exact h
theorem ako (a b c d:Int):Instr.fill (fun i=>some (i*1,1)) ((Array.range (4*1)).map ((aA .u8 0).cells[· % (aA .u8 0).cells.size]!)) [(0,.int .u8 a),(1,.int .u8 b),(2,.int .u8 c),(3,.int .u8 d)]=some #[.int .u8 a,.int .u8 b,.int .u8 c,.int .u8 d]:=by kernel_rfl
theorem Ey {w:World} {X F:XS} {v:Value} {bs:List Nat} {n:Nat} (h:Ow w F 5 1 v (bs.map U1)) (hF:FX F X w) (hl:bs.length≤2^40):
  Ct pg 209 #[v,U4 n] w X F fun r wa w'=> ∃F',(∀k,F' k→F k∨made wa w' k)∧Ow w' F' 5 1 r ((bs++yB n).map U1):=by
 intro w0 hk;replace h:=h.mv (hF.mv hk);have hT:=hF.ft hk;apply Wn;unfold Kj;have hs:=ak.init w0;refine PJ kQ kQ ?_;refine aa7 8 zQ ?_;refine PJ kQ kQ ?_;refine aa7 16 zQ ?_;refine PJ kQ kQ ?_;refine aa7 24 zQ ?_;refine PJ kQ kQ ?_;refine TD (bytes:=1) (rows:=(yB n).map U1) #[.int .u8 (n % 256:Nat),.int .u8 (n/256 % 256:Nat),.int .u8 (n/65536 % 256:Nat),.int .u8 (n/16777216 % 256:Nat)] (.int .u8 0) hT.s.has kQ kQ (by decide) (by decide) (ako _ _ _ _) (by simp) rfl rfl fun s w1 X1 au ho=>?_;have dU:=hT.since au;refine Ph kQ au.has ((h.mv (au.fZ hT.bK)).mono dU.bK) ho.sl (by intro r hr u hu;obtain⟨x,_,rfl⟩:=List.mem_map.1 hr;simp only [U1,bw] at hu;subst hu;rfl) (by simp [yB];omega) (by simp [yB];omega) fun v' w2 X2 c nY ef=>?_;have YJ: ∀g,v'.ownBlock=some g→F g∨(X2 g∧w1.heap.size≤g):=fun g hg=>by
  rcases ef with e|⟨g',e,dV⟩
  ·exact .inl (h.bK (e▸hg)).1
  ·rw [hg] at e;have:g=g':=iH e;subst this;exact .inr ⟨(nY.bK hg).1,dV⟩
 have cX:Ft w0 F w2 X2 (fun k=>F k∨(X2 k∧w1.heap.size≤k)):=dU.fL c (fun k af=>(h.bK af).1) fun k af=>af;refine cX.fin fun wa bk=>⟨_,cX.gX bk fun _ h=>h,?_⟩;rw [bC];exact nY.tight.mv fun k af IF=>⟨YJ k af,bk.block k (nY.bK af).1⟩
theorem Ft.ae6 {w0 w' wa:World} {X' F F':XS} {e k:Nat} {v:Value} {rows:List (List Value)} (h:Ft w0 nX w' X' (fun k=>F k∨made wa w' k)) (ho:Ow w' F' e k v rows) (DX: ∀k,F' k→F k∨made wa w' k):Ow w' (DI w0 X') e k v rows:=
 ho.mono fun k hk=>⟨h.bK k (DX k hk),(h.v k (DX k hk)).elim (fun h=>h.elim) id⟩
theorem Tt {w:World} {X:XS} {vp:Value} {p:List Nat} (h:Sl w X 1 vp (p.map U1)):Ct pg 149 #[vp] w X nX fun v wa w'=>
  if 262144<p.length then v= .tuple #[.slice none 0 0,I 2] else∃vb,v= .tuple #[vb,I 0]∧Ow w' (made wa w') 5 1 vb ((ke p).map U1):=by
 intro w0 hk;replace h:=h.mv hk.dD;have hlen:=h.gy;apply QS;unfold Fi;have hs:=ak.init w0;repeat' first|refine aL ?_;intros|refine dM ?_ ?_<;>intros|((first|(with_reducible refine aw hs ?_)|(with_reducible refine aw (bR.trans hs) ?_));intro wa hk;(dsimp only;rw [if_pos zQ]))
 have hn: ¬262144<p.length:=by omega
 refine acA (e:=5) (k:=1) (c:=p.length+12) (bytes:=1) hs.has kQ (by simp) zQ zQ zQ fun v0 w1 X1 au ho=>?_;have hT:Ft w0 nX w1 X1 (DI w0 X1):=((Ft.init (w:=w0) (F0:=nX) fun _ h=>h.elim).since au).Qx;have hO:Ow w1 (DI w0 X1) 5 1 v0 (([]:List Nat).map U1):=(ho.ow.tight).mono fun k af=>⟨(ho.ow.bK af).1,(ho.ge af).1⟩;have Jd:IntKind.u32.wrap (p.length:Int)=(p.length:Nat):=by rw [wrap32];omega
 repeat' first|refine aL ?_;intros
 rw [Jd];refine hT.call (Ey hO (hT.fx fun _ h=>h) (by simp)) kQ (fun _ h=>h) fun v1 zI w2 X2 hq hle fO cX hc=>?_;obtain⟨F2,YJ,hO2⟩:=hq;have hO2:=Ft.ae6 cX hO2 YJ;replace cX:=cX.Qx;rw [List.nil_append] at hO2;refine dp (ME (hO2.sl.mono cX.bK)) kQ cX.s.has ?_;rintro _ uR w3 X3 rfl ob mA ea;have hO3:Ow w3 (DI w0 X3) 5 1 v1 ((yB p.length).map U1):=(hO2.mv (ea.fZ cX.bK)).mono fun k af=>⟨ea.sub k af.1,af.2⟩;replace cX:=(cX.since ea).Qx;rw [←acJ];refine cX.call (Ey hO3 (cX.fx fun _ h=>h) (by simp [yB])) kQ (fun _ h=>h) fun v4 mw w4 X4 hq hle fO fm hc=>?_;obtain⟨F4,hF4,hO4⟩:=hq;have hO4:=Ft.ae6 fm hO4 hF4;replace fm:=fm.Qx;have hp4:Sl w4 X4 1 vp (p.map U1):=h.mv fm.kZ.mv;refine akb fm hO4 kQ hp4 (by intro r hr u hu;obtain⟨x,_,rfl⟩:=List.mem_map.1 hr;simp only [U1,bw] at hu;subst hu;rfl) (by simp [yB];omega) (by simp [yB];omega) fun v5 w5 X5 ff hO5 rV _=>?_;refine dp (ME (h.mv ff.kZ.mv)) kQ ff.s.has ?_;rintro _ Yr w6 X6 rfl PW FN zN;have hO6:Ow w6 (DI w0 X6) 5 1 v5 ((yB p.length++yB (crc (yB p.length))++p).map U1):=by
  rw [bC];exact(hO5.mv (zN.fZ ff.bK)).mono fun k af=>⟨zN.sub k af.1,af.2⟩
 replace ff:=(ff.since zN).Qx;rw [←acJ];refine ff.call (Ey hO6 (ff.fx fun _ h=>h) (by simp [yB];omega)) kQ (fun _ h=>h) fun v7 ET w7 X7 hq hle fO kF hc=>?_;obtain⟨F7,hF7,hO7⟩:=hq;have hO7:=Ft.ae6 kF hO7 hF7;have ov:=hO7.one
 skip
 refine kF.kZ|>fun xB=>aw xB fun wa bk=>?_;dsimp only;rw [if_neg hn];refine⟨v7,rfl,?_⟩;exact hO7.mv fun k af hl=>⟨⟨af.2,aH hl bk.size⟩,bk.block k af.1⟩
def uA:Nat→Nat→List Nat
 |0,_=>[]
 |k+1,n=>uA k (n/10)++[48+n % 10]
theorem zr: ∀k n,(uA k n).length=k
 |0,_=>rfl
 |k+1,n=>by rw [uA,av,zr];rfl
def iS (dir:ByteArray) (n:Nat):ByteArray:=dir++⟨#[46]⟩++D6 (uA 8 n)
theorem Oa (dir:ByteArray) (n:Nat):(iS dir n).size=dir.size+9:=by
 unfold iS;rw [ny,ny,Sr,zr];rfl
section
variable {P : Program} {X : XS} {w : World} {N : Value → Prop} {t : TypeId}
theorem ai6 {a b:Nat} (hb:b≠0) (h:N (I ((a % b:Nat):Int))):ae P X w (binOp .rem t (I (a:Int)) (I (b:Int))) N:=by
 refine cd (fun wa=>?_) h;simp [binOp,Op.intDiv,hb];exact(Int.ofNat_tmod a b).symm
theorem ai7 {a b:Nat} (hb:b≠0) (ha:a<2^63) (h:N (I ((a/b:Nat):Int))):ae P X w (binOp .quo t (I (a:Int)) (I (b:Int))) N:=by
 refine cd (fun wa=>?_) h;have h1:(a:Int).tdiv b=((a/b:Nat):Int):=(Int.ofNat_tdiv a b).symm;have h2:a/b≤a:=Nat.div_le_self a b;have h3:IntKind.i64.wrap ((a/b:Nat):Int)=((a/b:Nat):Int):=by
  generalize a/b=q at h2;simp [oC,me,jd];omega
 have eY: ¬(b:Int)=0:=by omega
 simp only [binOp,Op.intDiv,eY,if_false,h1,h3];simp
end
theorem akp (a:Int):Instr.fill (fun i=>some (i*1,1)) ((Array.range (8*1)).map ((aA .u8 0).cells[· % (aA .u8 0).cells.size]!)) [(0,.int .u8 a),(1,.int .u8 a),(2,.int .u8 a),(3,.int .u8 a),(4,.int .u8 a),(5,.int .u8 a),(6,.int .u8 a),(7,.int .u8 a)]=some #[.int .u8 a,.int .u8 a,.int .u8 a,.int .u8 a,.int .u8 a,.int .u8 a,.int .u8 a,.int .u8 a]:=by kernel_rfl
abbrev U8 (x:Nat):Value:=.int .u8 x
theorem BG {w:World} {X:XS} {dir:ByteArray} {n:Nat} (hd:dir.size≤2^40) (hn:n<2^63):Ct pg 126 #[.string dir,I n] w X nX fun v wa w'=>v= .string (iS dir n):=by
 intro w0 hk;apply XW;unfold Mw;have hs:=ak.init w0;have hT:Ft w0 nX w0 (aV w0) nX:=Ft.init fun _ h=>h.elim;refine TD (e:=5) (k:=1) (bytes:=1) (rows:=(fz 8 48).map U1) #[.int .u8 48,.int .u8 48,.int .u8 48,.int .u8 48,.int .u8 48,.int .u8 48,.int .u8 48,.int .u8 48] (.int .u8 0) hT.s.has kQ kQ (by decide) (by decide) (akp 48) (by simp) rfl rfl fun s w1 X1 au ho=>?_;rcases ho.row with⟨_,he⟩|⟨g,cap,cs,rfl,fp,bJ,xx,lG,AO,tt⟩
 ·cases he
 have h8:cs.take 8=(fz 8 48).map U8:=tt;have YB:8≤cs.length:=by have:((fz 8 48).map U1).length≤cap:=xx;simp at this;omega
 refine agK bJ kQ kQ au.has fun w2 X2 hc hF=>?_;have dU:Ft w0 nX w1 X1 (fun k=>k=g):=(hT.since au).more fun k af=>by subst af;exact .inr ⟨bJ.1,fp⟩
 have cX:Ft w0 nX w2 X2 (fun k=>k=g):=dU.fL hc (fun k af=>af) fun k af=>.inl af;refine fM (fun n' a b w X=> ∃(k m:Nat) (tail:List Nat) (cs:List Value),a=I ((k:Int)-1)∧b=I (m:Int)∧n'=k∧k≤8∧m<2^63∧uA 8 n=uA k m++tail∧GB w X g cs 5∧cs.take 8=(fz k 48++tail).map U8∧8≤cs.length∧Ft w0 nX w X (fun k=>k=g)) 8 ⟨8,n,[],cs,rfl,rfl,rfl,bg _,hn,by simp,hF,by simpa using h8,YB,cX⟩ ?_;clear h8 YB hF cX hc;rintro k a b w X ⟨_,m,tail,cs,rfl,rfl,rfl,hk8,hm,Pj,hF,La,YB,cX⟩;have dz:(uA k m).length+tail.length=8:=by have:=congrArg List.length Pj;rw [zr,av] at this;exact this.symm
 rw [zr] at dz;cases k with
 |succ k=>
  have yJ:cs[k]? =some (U8 48):=by
   have h1:(cs.take 8)[k]? =cs[k]? :=by rw [List.getElem?_take,if_pos zQ]
   rw [←h1,La,bC,List.getElem?_append_left (by simp)];simp
  have AM:=hF.cells.Ty yJ;rw [eZ] at AM;have hz:((k+1:Nat):Int)-1=(k:Nat):=by omega
  have h49:IntKind.u8.wrap (((48:Nat):Int)+IntKind.u8.wrap ((m % 10:Nat):Int))=((48+m % 10:Nat):Int):=by rw [Ld,Ld];omega
  rw [hz];repeat' first|refine bD ?_;intros
  refine afC rfl (by simp;omega) kQ kQ ?_;rw [Nat.mul_one];refine ZA AM (Mv.refl _ _) kQ rfl ?_;refine ai6 (a:=m) (b:=10) zQ ?_;refine aaH kQ kQ ?_;refine lC ?_;rw [h49];refine afC rfl (by simp;omega) kQ kQ ?_;rw [Nat.mul_one];refine akc hF kQ zQ rfl cX.s.has fun w3 X3 c Vn=>?_;have dE:Ft w0 nX w3 X3 (fun k=>k=g):=cX.fL c (fun k af=>af) fun k af=>.inl af;refine ai7 (a:=m) (b:=10) zQ hm ?_;repeat' first|refine aL ?_;intros
  refine fI k zQ ⟨k,m/10,(48+m % 10)::tail,_,rfl,rfl,rfl,by omega,by omega,?_,Vn,?_,by rw [List.length_set];exact YB,dE⟩
  ·rw [Pj,uA,aK];rfl
  ·rw [List.take_set,La];have e:(fz (k+1) 48++tail)=fz k 48++48::tail:=by rw [List.replicate_succ',aK];rfl
   rw [e,bC,bC,List.set_append_right _ _ (by simp),aI,List.length_replicate,Nat.sub_self];rfl
 |zero=>
  have htl:tail=uA 8 n:=by rw [Pj];rfl
  have amq:cs.take 8=(uA 8 n).map U8:=by rw [La,←htl];rfl
  have AM:Cells w X g 0 ((uA 8 n).map fun x:Nat=>aA .u8 x):=by
   have h1:=hF.cells.part 0 8;rw [List.drop_zero,amq] at h1;exact h1
  have h2:ak (aV w0) w0 X w:=cX.kZ;repeat' first|refine bD ?_;intros
  refine VI (by show dir.size+1≤_;omega) ?_;refine agL (e:=5) (by simp [zr]) AM kQ kQ kQ cX.s.has fun w4 X4 fq=>?_;replace h2:=h2.trans fq;refine VI (by rw [ny,Sr,zr];show dir.size+1+8≤_;omega) ?_;exact aw h2 fun wa bk=>rfl
theorem Zl {w:World} {X:XS} {dir:ByteArray} {n:Nat} (h1:1≤dir.size) (h2:dir.size≤11) (h3:1≤n) (h4:n≤99999999):Ct pg 67 #[.string dir,I n] w X nX fun v wa w'=>v= .tuple #[.string (iS dir n),I 0]:=by
 intro w0 hk;apply XV;unfold Mu;have hs:=ak.init w0;repeat' first|refine bD ?_;intros|refine dM ?_ ?_<;>intros|(refine dp (BG zQ zQ) kQ hs.has ?_;rintro _ wa w X rfl hle fO au;replace hs:=hs.trans au)|((first|(with_reducible refine aw hs ?_)|(with_reducible refine aw (bR.trans hs) ?_));intro wa hk;rfl)
 rename_i he;subst he;exact absurd h1 (by decide)
structure Jr where
 first:Nat
 fY:List (List Nat)
 size:Nat
structure LM where
 dir:ByteArray
 room:Nat
 eo:List Jr
 safe:Int
def LM.last (L:LM):Jr:=L.eo.getLast?.getD ⟨0,[],0⟩
def LM.next (L:LM):Nat:=L.last.first+L.last.fY.length
def LM.gJ (L:LM):ByteArray:=iS L.dir L.last.first
structure LD where
 L:LM
 m:DM
def LD.sync (x:LD):LD×Nat:=let r:=x.m.sync x.L.gJ;(⟨if r.2=0 then { x.L with safe:=(x.L.next:Int)-1 } else x.L,r.1⟩,r.2)
def LD.ix (x:LD) (n:Nat):LD×Nat:=let r:=x.m.create (iS x.L.dir n);(⟨if r.2=0 then { x.L with eo:=x.L.eo++[⟨n,[],0⟩] } else x.L,r.1⟩,r.2)
def LD.room (x:LD):LD×Nat:=if x.L.room≤x.L.last.size then(let r:=x.sync;if r.2≠0 then r else r.1.ix x.L.next)else(x,0)
def LM.add (L:LM) (p:List Nat):LM:= { L with eo:=L.eo.dropLast++[⟨L.last.first,L.last.fY++[p],L.last.size+(ke p).length⟩] }
def LD.lay (x:LD) (p:List Nat):LD×Nat:=let r:=x.m.append x.L.gJ (ke p);(⟨if r.2=0 then x.L.add p else x.L,r.1⟩,r.2)
def LD.append (x:LD) (p:List Nat):LD×Nat×Nat:=
 if 262144<p.length then(x,0,2)else if 99999999<x.L.next then(x,0,1)else
  let r:=x.room
  if r.2≠0 then(r.1,0,r.2)else
   let q:=r.1.lay p
   if q.2≠0 then(q.1,0,q.2)else(q.1,x.L.next,0)
structure mf where
 b:Nat
 first:Nat
 rv:Value
 rs:List (Value×List Nat)
 size:Nat
def mf.er (s:mf):Jr:=⟨s.first,s.rs.map (·.2),s.size⟩
def W5 (x y:mf):Prop:=x.b≠y.b∧ ∀g,x.rv.ownBlock=some g→y.rv.ownBlock≠some g
structure yw (w:World) (F:XS) (lb db:Nat) (sv:Value) (bl:List mf) (L:LM):Prop where
 eo:L.eo=bl.map mf.er
 box:a7 w F lb [ptr db 0,.string L.dir,I L.room,sv,I L.safe] 170
 so:Ow w F 179 1 sv (bl.map fun s=>[ptr s.b 0])
 row: ∀s∈bl,a7 w F s.b [I s.first,s.rv,I s.size] 178
 DY: ∀s∈bl,Ow w F 94 1 s.rv (s.rs.map fun r=>[r.1])
 HV: ∀s∈bl,∀r∈s.rs,Ow w F 5 1 r.1 (r.2.map U1)
 ap:bl.Pairwise W5
theorem yw.mv {w w':World} {F F':XS} {lb db:Nat} {sv:Value} {bl:List mf} {L:LM} (h:yw w F lb db sv bl L) (v:Mv F w F' w'):yw w' F' lb db sv bl L:=
 ⟨h.eo,h.box.mv v,h.so.mv v,fun s hs=>(h.row s hs).mv v,fun s hs=>(h.DY s hs).mv v,fun s hs r hr=>(h.HV s hs r hr).mv v,h.ap⟩
def Lg (w:World) (F:XS) (lb db:Nat) (L:LM) (m:DM):Prop:=
 ∃FL FD sv bl,Dj FL FD∧(∀k,FL k→F k)∧(∀k,FD k→F k)∧yw w FL lb db sv bl L∧Dk w FD db m
theorem Lg.mv {w w':World} {F:XS} {lb db:Nat} {L:LM} {m:DM} (h:Lg w F lb db L m) (v:Mv F w F w'):Lg w' F lb db L m:=by
 obtain⟨FL,FD,sv,bl,hd,h1,h2,h3,h4⟩:=h;exact⟨FL,FD,sv,bl,hd,h1,h2,h3.mv fun k hk hl=>⟨hk,(v k (h1 k hk) hl).2⟩,h4.mv fun k hk hl=>⟨hk,(v k (h2 k hk) hl).2⟩⟩
theorem Lg.mono {w:World} {F F':XS} {lb db:Nat} {L:LM} {m:DM} (h:Lg w F lb db L m) (hs: ∀k,F k→F' k):Lg w F' lb db L m:=by
 obtain⟨FL,FD,sv,bl,hd,h1,h2,h3,h4⟩:=h;exact⟨FL,FD,sv,bl,hd,fun k hk=>hs k (h1 k hk),fun k hk=>hs k (h2 k hk),h3,h4⟩
structure qJ (L:LM):Prop where
 ne:L.eo≠[]
 d1:1≤L.dir.size
 d2:L.dir.size≤11
 zG: ∀s∈L.eo,s.first+s.fY.length≤2^40∧s.size≤2^40
 room:L.room≤2^40
theorem LM.vZ {L:LM} (h:L.eo≠[]):L.last∈L.eo:=by
 unfold LM.last;rw [jO h];exact List.getLast_mem h
theorem LM.PV {L:LM} (h:L.eo≠[]):L.eo=L.eo.dropLast++[L.last]:=by
 unfold LM.last;rw [jO h];exact(oF h).symm
theorem qJ.next {L:LM} (h:qJ L):L.next≤2^40:=(h.zG _ (LM.vZ h.ne)).1
theorem qJ.first {L:LM} (h:qJ L):L.last.first≤2^40:=by have:=h.next;unfold LM.next at this;omega
theorem yw.last {w:World} {F:XS} {lb db:Nat} {sv:Value} {bl:List mf} {L:LM} (h:yw w F lb db sv bl L) (hL:qJ L): ∃s6 s,bl=s6++[s]∧s.er=L.last∧L.eo.dropLast=s6.map mf.er:=by
 have du:bl≠[]:=fun e=>hL.ne (by rw [h.eo,e];rfl);refine⟨bl.dropLast,bl.getLast du,(oF du).symm,?_,?_⟩
 ·unfold LM.last;rw [h.eo,List.getLast?_map,jO du];rfl
 ·rw [h.eo,List.map_dropLast]
section
variable {w : World} {X F : XS} {lb db : Nat} {sv : Value} {bl : List mf} {L : LM}
theorem yy {s6:List mf} {s:mf} (h:yw w F lb db sv (s6++[s]) L) (hF:FX F X w):Ct pg 74 #[ptr lb 0] w X nX fun v wa w'=>v=ptr s.b 0:=by
 intro w0 hk;replace h:=h.mv (hF.mv hk);have hX:=fun k af=>(hF.kp hk k af).1;have hb:=h.box.mv (Mv.sub hX);have Pg:=h.so.sl.mono hX;have hlen:=Pg.gy;have LZ:(s6++[s]).length=s6.length+1:=by simp
 have Nv:(s6++[s])[s6.length]? =some s:=by simp
 apply Py;unfold DN;have hs:=ak.init w0;repeat' first|refine aL ?_;intros|((first|(with_reducible refine aw hs ?_)|(with_reducible refine aw (bR.trans hs) ?_));intro wa hk;rfl)
theorem Gr (h:yw w F lb db sv bl L) (hL:qJ L) (hF:FX F X w):Ct pg 22 #[ptr lb 0] w X nX fun v wa w'=>v=I L.next:=by
 intro w0 hk;obtain⟨s6,s,rfl,he,_⟩:=h.last hL;replace h:=h.mv (hF.mv hk);have hX:=fun k af=>(hF.kp hk k af).1;have nu:s∈s6++[s]:=by simp
 have hb:=(h.row s nu).mv (Mv.sub hX);have hr:=(h.DY s nu).sl.mono hX;have hn:=hL.next
 have nB:L.next=s.first+s.rs.length:=by unfold LM.next;rw [←he];simp [mf.er]
 have mL:FX F (aV w0) w0:=hF.kp hk;apply Pw;unfold DK;have hs:=ak.init w0;refine dp (yy h mL) kQ hs.has ?_;rintro _ wa w1 X1 rfl hle fO au;replace hs:=hs.trans au;have rT:=hb.since hs;repeat' first|refine aL ?_;intros
 refine dp (yy (h.mv (hs.fZ hX)) fun k af=>⟨hs.sub k (hX k af),hs.has k (hs.sub k (hX k af))⟩) kQ hs.has ?_;rintro _ zI w2 X2 rfl qP nW bT;replace hs:=hs.trans bT;have wH:=hb.since hs;have qY:=hr.since hs;clear rT;repeat' first|refine aL ?_;intros|((first|(with_reducible refine aw hs ?_)|(with_reducible refine aw (bR.trans hs) ?_));intro wa hk;(rw [nB];simp))
theorem Xu (h:yw w F lb db sv bl L) {s:Jr} {r:List Jr} (hL:L.eo=s::r) (hF:FX F X w):Ct pg 21 #[ptr lb 0] w X nX fun v wa w'=>v=I s.first:=by
 intro w0 hk;have hsg:=h.eo;rw [hL] at hsg;cases bl with
 |nil=>cases hsg
 |cons s' s6=>
  simp only [cf,yY] at hsg;replace h:=h.mv (hF.mv hk);have hX:=fun k af=>(hF.kp hk k af).1;have hb:=h.box.mv (Mv.sub hX);have wH:=(h.row s' (by simp)).mv (Mv.sub hX);have Pg:=h.so.sl.mono hX;apply NH;unfold CC;have hs:=ak.init w0;repeat' first|refine aL ?_;intros
  refine afB (i:=0) Pg rfl rfl kQ kQ fun b o hc=>?_;repeat' first|refine aL ?_;intros|((first|(with_reducible refine aw hs ?_)|(with_reducible refine aw (bR.trans hs) ?_));intro wa hk;(rw [hsg.1];rfl))
end
structure LW (w:World) (F:XS) (lb db:Nat) (L:LM) (m:DM) (FL FD:XS) (sv:Value) (bl:List mf):Prop where
 dj:Dj FL FD
 hL: ∀k,FL k→F k
 hD: ∀k,FD k→F k
 l:yw w FL lb db sv bl L
 d:Dk w FD db m
theorem Lg.lw {w:World} {F:XS} {lb db:Nat} {L:LM} {m:DM} (h:Lg w F lb db L m): ∃FL FD sv bl,LW w F lb db L m FL FD sv bl:=let⟨FL,FD,sv,bl,a,b,c,d,e⟩:=h;⟨FL,FD,sv,bl,a,b,c,d,e⟩
theorem LW.lg {w:World} {F FL FD:XS} {lb db:Nat} {L:LM} {m:DM} {sv:Value} {bl:List mf} (h:LW w F lb db L m FL FD sv bl):Lg w F lb db L m:=⟨FL,FD,sv,bl,h.dj,h.hL,h.hD,h.l,h.d⟩
section
variable {w w' wa : World} {X X' F F' FL FD MF : XS} {lb db : Nat} {L : LM} {m m' : DM} {sv : Value} {bl : List mf}
theorem LW.mv (h:LW w F lb db L m FL FD sv bl) (v:Mv F w F w'):LW w' F lb db L m FL FD sv bl:=
 ⟨h.dj,h.hL,h.hD,h.l.mv fun k hk hl=>⟨hk,(v k (h.hL k hk) hl).2⟩,h.d.mv fun k hk hl=>⟨hk,(v k (h.hD k hk) hl).2⟩⟩
theorem LW.mono (h:LW w F lb db L m FL FD sv bl) (hs: ∀k,F k→F' k):LW w F' lb db L m FL FD sv bl:=⟨h.dj,fun k hk=>hs k (h.hL k hk),fun k hk=>hs k (h.hD k hk),h.l,h.d⟩
theorem LW.ae7 (h:LW w F lb db L m FL FD sv bl) (hF:FX F X w) (hle:w.heap.size≤wa.heap.size) (c:ez FD X w X' w') (DX: ∀k,MF k→FD k∨made wa w' k) (hd:Dk w' MF db m'):LW w' (fun k=>F k∨made wa w' k) lb db L m' FL MF sv bl:=
 ⟨fun k a b=>(DX k b).elim (h.dj k a) fun hm=>by have:=(hF k (h.hL k a)).2;have:=hm.1;omega,fun k hk=>.inl (h.hL k hk),fun k hk=>(DX k hk).imp (h.hD k) id,
  h.l.mv (c.fi fun k hk=>⟨(hF k (h.hL k hk)).1,fun hf=>h.dj k hk hf⟩),hd⟩
theorem yw.agP {z:Int} (h:yw w FL lb db sv bl L) (hX: ∀k,FL k→X k) (c:ez (· =lb) X w X' w') (hr:a7 w' X' lb [ptr db 0,.string L.dir,I L.room,sv,I z] 170):yw w' FL lb db sv bl { L with safe:=z } :=by
 have mv: ∀{A:XS},(∀k,A k→FL k∧k≠lb)→Mv A w FL w':=fun hA k hk _=>⟨(hA k hk).1,c.block k (hX k (hA k hk).1) (hA k hk).2⟩;refine⟨h.eo,⟨h.box.1,hr.2⟩,?_,fun s hs=>?_,fun s hs=>?_,fun s hs r hr=>?_,h.ap⟩
 ·exact h.so.tight.mv (mv fun k hk=>⟨(h.so.bK hk).1,fun e=>h.so.eA h.box kQ (e▸hk)⟩)
 ·exact(h.row s hs).own.mv (mv fun k hk=>by subst hk;exact⟨(h.row s hs).1,(h.row s hs).eA h.box kQ⟩)
 ·exact(h.DY s hs).tight.mv (mv fun k hk=>⟨((h.DY s hs).bK hk).1,fun e=>(h.DY s hs).eA h.box kQ (e▸hk)⟩)
 ·exact(h.HV s hs r hr).tight.mv (mv fun k hk=>⟨((h.HV s hs r hr).bK hk).1,fun e=>(h.HV s hs r hr).eA h.box kQ (e▸hk)⟩)
end
theorem OV {w:World} {X F:XS} {lb db:Nat} {L:LM} {m:DM} (h:Lg w F lb db L m) (hL:qJ L) (hF:FX F X w):
  Ct pg 84 #[ptr lb 0] w X F fun v wa w'=>v=I (LD.sync ⟨L,m⟩).2∧ ∃F',(∀k,F' k→F k∨made wa w' k)∧Lg w' F' lb db (LD.sync ⟨L,m⟩).1.L (LD.sync ⟨L,m⟩).1.m:=by
 intro w0 hk;obtain⟨FL,FD,sv,bl,h⟩:=(h.mv (hF.mv hk)).lw;have hT:=hF.ft hk;have mL:FX F (aV w0) w0:=hF.kp hk;obtain⟨s6,s,C9,he,_⟩:=h.l.last hL;have hFL:FX FL (aV w0) w0:=fun k af=>mL k (h.hL k af);have hX:=fun k af=>(hFL k af).1;have hb:=h.l.box.mv (Mv.sub hX);have nu:s∈bl:=by rw [C9];simp
 have VF:=(h.l.row s nu).mv (Mv.sub hX);have tJ:s.first=L.last.first:=by rw [←he];rfl
 have hfb:=hL.first
 apply Pz;unfold DO;have hs:=ak.init w0;repeat' first|refine aL ?_;intros
 refine dp (yy (C9▸h.l) hFL) kQ hs.has ?_;rintro _ wa w1 X1 rfl hle fO au;replace hs:=hs.trans au;have ai8:=VF.since hs;repeat' first|refine aL ?_;intros
 rw [tJ];refine dp (BG (by have:=hL.d2;omega) zQ) kQ hs.has ?_;rintro _ zI w2 X2 rfl qP nW bT;replace hs:=hs.trans bT;have cX:=hT.since hs;have h2:=h.mv (hs.fZ hT.bK);refine cX.call (Yl h2.d (cX.fx h2.hD)) kQ h2.hD fun v uR w3 X3 hq ob mA dE rh=>?_;obtain⟨rfl,MF,W6,hD⟩:=hq;have h3:=h2.ae7 (cX.fx fun _ h=>h) ob rh W6 hD;have eS:LD.sync ⟨L,m⟩=(⟨if(m.sync L.gJ).2=0 then { L with safe:=(L.next:Int)-1 } else L,(m.sync L.gJ).1⟩,(m.sync L.gJ).2):=rfl;have eN:L.gJ=iS L.dir L.last.first:=rfl
 rw [eS];dsimp only;rw [eN];generalize YT:m.sync (iS L.dir L.last.first)=ms at h3⊢;have nB:=hL.next
 repeat' first|refine aL ?_;intros|refine dM ?_ ?_<;>intros|with_reducible apply dy
 ·rename_i hz;have hz:ms.2=0:=by have:(ms.2:Int)=0:=(by assumption);omega
  have ea:=ak.ct dE.s.has;refine dp (Gr h3.l hL (dE.fx h3.hL)) kQ dE.s.has ?_;rintro _ mw w4 X4 rfl qh lL fq;have fm:=dE.since fq;have h4:=h3.mv (fq.fZ dE.bK);have hX4: ∀k,FL k→X4 k:=fun k af=>fm.bK k (h4.hL k af);have Cp:=h4.l.box.mv (Mv.sub hX4);repeat' first|refine aL ?_;intros
  refine qv (o:=4) Cp zQ kQ (by simp) rfl fm.s.has fun w5 X5 c5 Ho=>?_;have ff:=fm.fL (F':=fun k=>F k∨made uR w3 k) c5 (fun k af=>by subst af;exact h4.hL _ h4.l.box.1) fun k af=>.inl af;have h5:=h4.l.agP hX4 c5 Ho;refine ff.fin fun wa bk=>⟨rfl,_,ff.gX bk fun _ h=>h,?_⟩;rw [if_pos hz];refine Lg.mv ⟨FL,MF,sv,bl,h4.dj,h4.hL,h4.hD,h5,h4.d.mv (c5.fi fun k af=>⟨fm.bK k (h4.hD k af),fun e=>h4.dj k (by rw [e];exact h4.l.box.1) af⟩)⟩ (bk.fi ff.bK)
 ·have hz: ¬ms.2=0:=by have: ¬(ms.2:Int)=0:=(by assumption);omega
  refine dE.fin fun wa bk=>⟨rfl,_,dE.gX bk fun _ h=>h,?_⟩;rw [if_neg hz];exact(h3.mv (bk.fi dE.bK)).lg
section
variable {w w' wa : World} {X X' F F' FL Ak FD MF G : XS} {lb db : Nat} {L : LM} {m m' : DM} {sv PR : Value} {bl s6 : List mf}
theorem yw.agQ (h:yw w FL lb db sv bl L) (hX:FX FL X w) (c:ez G X w X' w') (hG: ∀k,G k→k=lb∨sv.ownBlock=some k) (WX: ∀k,FL k→Ak k)
  (hr:a7 w' Ak lb [ptr db 0,.string L.dir,I L.room,PR,I L.safe] 170) (ho:Ow w' Ak 179 1 PR (s6.map fun s=>[ptr s.b 0]))
  (hn: ∀s∈s6,s∈bl∨(a7 w' Ak s.b [I s.first,s.rv,I s.size] 178∧Ow w' Ak 94 1 s.rv (s.rs.map fun r=>[r.1])∧ ∀r∈s.rs,Ow w' Ak 5 1 r.1 (r.2.map U1)))
  (Hj:s6.Pairwise W5):yw w' Ak lb db PR s6 { L with eo:=s6.map mf.er } :=by
 have mv: ∀{A:XS},(∀k,A k→FL k∧k≠lb∧sv.ownBlock≠some k)→Mv A w Ak w':=fun hA k hk _=>by
  obtain⟨a1,a2,a3⟩:=hA k hk;exact⟨WX k a1,c.block k (hX k a1).1 fun hg=>(hG k hg).elim a2 a3⟩
 refine⟨rfl,hr,ho,fun s hs=>?_,fun s hs=>?_,fun s hs r hr=>?_,Hj⟩
 ·rcases hn s hs with hs|hs
  ·exact(h.row s hs).own.mv (mv fun k hk=>by subst hk;exact⟨(h.row s hs).1,(h.row s hs).eA h.box kQ,h.so.eA (h.row s hs) kQ⟩)
  ·exact hs.1
 ·rcases hn s hs with hs|hs
  ·refine(h.DY s hs).tight.mv (mv fun k hk=>⟨((h.DY s hs).bK hk).1,fun e=>(h.DY s hs).eA h.box kQ (e▸hk),fun e=>?_⟩);obtain⟨c1,h1⟩:=(h.DY s hs).tag hk;obtain⟨c2,h2⟩:=h.so.tag e;rw [h1] at h2;simp at h2
  ·exact hs.2.1
 ·rcases hn s hs with hs|hs
  ·refine(h.HV s hs r hr).tight.mv (mv fun k hk=>⟨((h.HV s hs r hr).bK hk).1,fun e=>(h.HV s hs r hr).eA h.box kQ (e▸hk),fun e=>?_⟩);obtain⟨c1,h1⟩:=(h.HV s hs r hr).tag hk;obtain⟨c2,h2⟩:=h.so.tag e;rw [h1] at h2;simp at h2
  ·exact hs.2.2 r hr
abbrev mf.more (s:mf) (yZ pv:Value) (p:List Nat) (z:Nat):mf:=⟨s.b,s.first,yZ,s.rs++[(pv,p)],z⟩
theorem yw.agR {s:mf} {yZ pv:Value} {p:List Nat} {z:Nat} (h:yw w FL lb db sv (bl++[s]) L) (hX:FX FL X w) (c:ez G X w X' w') (hG: ∀k,G k→k=s.b∨s.rv.ownBlock=some k) (WX: ∀k,FL k→Ak k)
  (hr:a7 w' Ak s.b [I s.first,yZ,I z] 178) (ho:Ow w' Ak 94 1 yZ ((s.rs++[(pv,p)]).map fun r=>[r.1])) (hp:Ow w' Ak 5 1 pv (p.map U1))
  (ef:yZ.ownBlock=s.rv.ownBlock∨ ∃g,yZ.ownBlock=some g∧w.heap.size≤g):
  yw w' Ak lb db sv (bl++[s.more yZ pv p z]) { L with eo:=(bl++[s.more yZ pv p z]).map mf.er } :=by
 have mY:s∈bl++[s]:=by simp
 have mv: ∀{A:XS},(∀k,A k→FL k∧k≠s.b∧s.rv.ownBlock≠some k)→Mv A w Ak w':=fun hA k hk _=>by
  obtain⟨a1,a2,a3⟩:=hA k hk;exact⟨WX k a1,c.block k (hX k a1).1 fun hg=>(hG k hg).elim a2 a3⟩
 have rs:=h.row s mY;have os:=h.DY s mY;have hold: ∀x∈bl,x∈bl++[s]:=fun x hx=>List.mem_append_left _ hx;have VD:=List.pairwise_append.1 h.ap;have WW: ∀x∈bl,W5 x s:=fun x hx=>VD.2.2 x hx s (by simp);have ai9: ∀x∈bl++[s],∀r∈x.rs,Ow w' Ak 5 1 r.1 (r.2.map U1):=fun x hx r hr=>by
  refine(h.HV x hx r hr).tight.mv (mv fun k hk=>⟨((h.HV x hx r hr).bK hk).1,fun e=>(h.HV x hx r hr).eA rs kQ (e▸hk),fun e=>?_⟩);obtain⟨c1,h1⟩:=(h.HV x hx r hr).tag hk;obtain⟨c2,h2⟩:=os.tag e;rw [h1] at h2;simp at h2
 refine⟨rfl,?_,?_,fun x hx=>?_,fun x hx=>?_,fun x hx r hr=>?_,?_⟩
 ·exact h.box.own.mv (mv fun k hk=>by subst hk;exact⟨h.box.1,(rs.eA h.box kQ).symm,os.eA h.box kQ⟩)
 ·have:(bl++[s.more yZ pv p z]).map (fun s=>[ptr s.b 0])=(bl++[s]).map (fun s=>[ptr s.b 0]):=by simp
  rw [this];refine h.so.tight.mv (mv fun k hk=>⟨(h.so.bK hk).1,fun e=>h.so.eA rs kQ (e▸hk),fun e=>?_⟩);obtain⟨c1,h1⟩:=h.so.tag hk;obtain⟨c2,h2⟩:=os.tag e;rw [h1] at h2;simp at h2
 ·rcases List.mem_append.1 hx with hx|hx
  ·have ha:=WW x hx;have rx:=h.row x (hold x hx);exact rx.own.mv (mv fun k hk=>by subst hk;exact⟨rx.1,ha.1,os.eA rx kQ⟩)
  ·simp only [bw] at hx;subst hx;exact hr
 ·rcases List.mem_append.1 hx with hx|hx
  ·have ha:=WW x hx;have ox:=h.DY x (hold x hx);exact ox.tight.mv (mv fun k hk=>⟨(ox.bK hk).1,fun e=>ox.eA rs kQ (e▸hk),fun e=>ha.2 k hk e⟩)
  ·simp only [bw] at hx;subst hx;exact ho
 ·rcases List.mem_append.1 hx with hx|hx
  ·exact ai9 x (hold x hx) r hr
  ·simp only [bw] at hx;subst hx;rcases List.mem_append.1 hr with hr|hr
   ·exact ai9 s mY r hr
   ·simp only [bw] at hr;subst hr;exact hp
 ·refine List.pairwise_append.2 ⟨VD.1,rF _ _,fun x hx y hy=>?_⟩;simp only [bw] at hy;subst hy;have ha:=WW x hx;refine⟨ha.1,fun g hg ji=>?_⟩;rcases ef with e|⟨g',e,dV⟩
  ·exact ha.2 g hg (e▸ji)
  ·have:=(hX g ((h.DY x (hold x hx)).bK hg).1).2;have e2:yZ.ownBlock=some g:=ji;rw [e] at e2;have:g'=g:=iH e2;omega
end
theorem Od {w:World} {X F:XS} {lb db n:Nat} {L:LM} {m:DM} (h:Lg w F lb db L m) (nS:L.dir.size≤11) (hn:n≤2^40) (wE:L.eo.length≤2^30) (hF:FX F X w):
  Ct pg 72 #[ptr lb 0,I n] w X F fun v wa w'=>v=I (LD.ix ⟨L,m⟩ n).2∧ ∃F',(∀k,F' k→F k∨made wa w' k)∧Lg w' F' lb db (LD.ix ⟨L,m⟩ n).1.L (LD.ix ⟨L,m⟩ n).1.m:=by
 intro w0 hk;obtain⟨FL,FD,sv,bl,h⟩:=(h.mv (hF.mv hk)).lw;have hT:=hF.ft hk;have mL:FX F (aV w0) w0:=hF.kp hk;have hX:=fun k af=>(mL k (h.hL k af)).1;have hb:=h.l.box.mv (Mv.sub hX);apply Px;unfold DL;have hs:=ak.init w0;repeat' first|refine aL ?_;intros
 refine dp (BG zQ zQ) kQ hs.has ?_;rintro _ zI w2 X2 rfl qP nW bT;replace hs:=hs.trans bT;have cX:=hT.since hs;have h2:=h.mv (hs.fZ hT.bK);refine cX.call (Tr h2.d (cX.fx h2.hD)) kQ h2.hD fun v uR w3 X3 hq ob mA dE rh=>?_;obtain⟨rfl,MF,W6,hD⟩:=hq;have h3:=h2.ae7 (cX.fx fun _ h=>h) ob rh W6 hD;have eS:LD.ix ⟨L,m⟩ n=(⟨if(m.create (iS L.dir n)).2=0 then { L with eo:=L.eo++[⟨n,[],0⟩] } else L,(m.create (iS L.dir n)).1⟩,(m.create (iS L.dir n)).2):=rfl;rw [eS];dsimp only;generalize YT:m.create (iS L.dir n)=ms at h3⊢;have hX3: ∀k,FL k→X3 k:=fun k af=>dE.bK k (h3.hL k af);have Mh:=h3.l.box.mv (Mv.sub hX3);have amr:=h3.l.so.mono hX3;have C9:bl.length=L.eo.length:=by rw [h3.l.eo,aI]
 have o3:=h3.l.so.one;clear hs;repeat' first|refine aL ?_;intros|refine dM ?_ ?_<;>intros|with_reducible apply dy
 ·have hz:ms.2=0:=by have:(ms.2:Int)=0:=(by assumption);omega
  refine nZ dE.s.has fun bx w4 X4 gh fq bJ=>?_;have ae8:=amr.mv fq.mv;refine acz (bytes:=8) (row:=[ptr bx 0]) ae8 fq.has kQ rfl rfl rfl (by simp;omega) (by simp;omega) fun PR w5 X5 c5 jW uD=>?_;have Cp:=Mh.since fq;have du: ∀q,cZ sv q→q≠lb:=fun q hq e=>ae8.eA Cp kQ (by rw [←e];exact hq);have hb5:a7 w5 X5 lb [ptr db 0,.string L.dir,I L.room,sv,I L.safe] 170:=⟨c5.sub _ Cp.1,by rw [c5.block _ Cp.1 fun hq=>du _ hq rfl];exact Cp.2⟩;repeat' first|refine aL ?_;intros
  refine qv (o:=3) hb5 zQ kQ (by simp) jW.one c5.has fun w6 X6 c6 IU=>?_;have ae9: ∀q,cZ sv q→FL q:=fun q hq=>(h3.l.so.bK hq).1;have cc:ez (fun k=>k=lb∨sv.ownBlock=some k) X3 w3 X6 w6:=((ez.rM fq _).trans (c5.mono fun k _ af=>.inr af)).trans (c6.mono fun k _ af=>.inl af);have eX:Ft w0 F w6 X6 (fun k=>(F k∨made uR w3 k)∨(X6 k∧w3.heap.size≤k)):=dE.fL cc (fun k af=>by
   rcases af with rfl|af
   ·exact h3.hL _ h3.l.box.1
   ·exact h3.hL _ (ae9 _ af)) fun k af=>af
  have FN: ∀g,PR.ownBlock=some g→FL g∨(X6 g∧w3.heap.size≤g):=fun g hg=>by
   rcases uD with e|⟨g',e,dV⟩
   ·exact .inl (ae9 _ (e.symm.trans hg))
   ·rw [hg] at e;have:g=g':=iH e;subst this;exact .inr ⟨c6.sub _ (jW.bK hg).1,ah fq.kp.size dV⟩
  have ams:PR.ownBlock≠some lb:=jW.eA hb5 kQ;have akq:bx≠lb:=bJ.eA Cp kQ;have akr: ¬cZ sv bx:=fun hq=>ae8.eA bJ kQ hq;have hL6:=h3.l.agQ (Ak:=fun k=>FL k∨(X6 k∧w3.heap.size≤k)) (PR:=PR) (s6:=bl++[⟨bx,n,.slice none 0 0,[],0⟩]) (dE.fx h3.hL) cc (fun k af=>af) (fun k af=>.inl af) ⟨.inl h3.l.box.1,IU.2⟩ ?_ ?_ ?_
  ·refine eX.fin fun wa bk=>⟨rfl,_,eX.gX bk fun _ h=>h,?_⟩;rw [if_pos hz];have e:({ L with eo:=(bl++[(⟨bx,n,.slice none 0 0,[],0⟩:mf)]).map mf.er } :LM)= { L with eo:=L.eo++[⟨n,[],0⟩] } :=by
    rw [bC,←h3.l.eo];rfl
   rw [←e];refine Lg.mv ⟨_,MF,PR,_,?_,?_,?_,hL6,h3.d.mv (cc.fi fun k af=>⟨dE.bK k (h3.hD k af),fun hg=>?_⟩)⟩ (bk.fi eX.bK)
   ·intro k ha eY;rcases ha with ha|ha
    ·exact h3.dj k ha eY
    ·have:=(dE.fx h3.hD k eY).2;omega
   ·exact fun k af=>af.imp (h3.hL k) id
   ·exact fun k af=>.inl (h3.hD k af)
   ·rcases hg with rfl|hg
    ·exact h3.dj _ h3.l.box.1 af
    ·exact h3.dj _ (ae9 _ hg) af
  ·rw [bC];refine jW.tight.mv fun k af hl=>⟨FN k af,c6.block k (jW.bK af).1 fun e=>ams (by rw [←(show k=lb from e)];exact af)⟩
  ·intro s wN;rcases List.mem_append.1 wN with wN|wN
   ·exact .inl wN
   ·simp only [bw] at wN;subst wN;have hb6:w6.heap[bx]? =w4.heap[bx]? :=by
     rw [c6.block bx (c5.sub _ bJ.1) akq,c5.block bx bJ.1 akr]
    exact .inr ⟨⟨.inr ⟨c6.sub _ (c5.sub _ bJ.1),gh⟩,by rw [hb6];exact bJ.2⟩,Ow.nil _ _ _ _,fun r hr=>by cases hr⟩
  ·refine List.pairwise_append.2 ⟨h3.l.ap,rF _ _,fun x hx y hy=>?_⟩;simp only [bw] at hy;subst hy;refine⟨fun e=>?_,fun g hg ji=>by cases ji⟩;have:=(dE.fx h3.hL _ (h3.l.row x hx).1).2;have e':x.b=bx:=e;omega
 ·have hz: ¬ms.2=0:=by have: ¬(ms.2:Int)=0:=(by assumption);omega
  refine dE.fin fun wa bk=>⟨rfl,_,dE.gX bk fun _ h=>h,?_⟩;rw [if_neg hz];exact(h3.mv (bk.fi dE.bK)).lg
theorem qJ.safe {L:LM} (h:qJ L) (z:Int):qJ { L with safe:=z } :=⟨h.ne,h.d1,h.d2,h.zG,h.room⟩
theorem qJ.sync {L:LM} {m:DM} (h:qJ L):qJ (LD.sync ⟨L,m⟩).1.L:=by
 unfold LD.sync;dsimp only;split
 ·exact h.safe _
 ·exact h
theorem qJ.ix {L:LM} {m:DM} {n:Nat} (h:qJ L) (hn:n≤2^40):qJ (LD.ix ⟨L,m⟩ n).1.L:=by
 unfold LD.ix;dsimp only;split
 ·refine⟨by simp,h.d1,h.d2,fun s hs=>?_,h.room⟩;rcases List.mem_append.1 hs with hs|hs
  ·exact h.zG s hs
  ·simp only [bw] at hs;subst hs;exact⟨by simpa using hn,by simp⟩
 ·exact h
theorem LD.Rz (x:LD):x.sync.1.L.eo=x.L.eo:=by unfold LD.sync;dsimp only;split<;>rfl
theorem LD.afa (x:LD):x.sync.1.L.dir=x.L.dir:=by unfold LD.sync;dsimp only;split<;>rfl
theorem Vb {w:World} {X F S:XS} {lb db:Nat} {L:LM} {m:DM} {vp:Value} {p:List Nat} (h:Lg w F lb db L m) (hL:qJ L) (wE:L.eo.length≤2^30) (hF:FX F X w) (hp:Sl w S 1 vp (p.map U1)) (hS: ∀k,S k→X k∧ ¬F k):
  Ct pg 83 #[ptr lb 0,vp] w X F fun v wa w'=>v= .tuple #[I (LD.append ⟨L,m⟩ p).2.1,I (LD.append ⟨L,m⟩ p).2.2]∧
   ∃F',(∀k,F' k→F k∨made wa w' k)∧Lg w' F' lb db (LD.append ⟨L,m⟩ p).1.L (LD.append ⟨L,m⟩ p).1.m:=by
 intro w0 hk;obtain⟨FL,FD,sv,bl,h⟩:=(h.mv (hF.mv hk)).lw;have hT:=hF.ft hk;have mL:FX F (aV w0) w0:=hF.kp hk;have TX:Sl w0 (out F w0) 1 vp (p.map U1):=hp.mv fun k af hl=>⟨⟨aH hl hk.size,(hS k af).2⟩,hk.block k (hS k af).1⟩;have Jd:=TX.gy;have ov:=TX.one;have nB:=hL.next
 generalize hr:LD.append ⟨L,m⟩ p=r;unfold LD.append at hr;dsimp only at hr;apply Ly;unfold A7;refine dp (Gr h.l hL (hT.fx h.hL)) kQ hT.s.has ?_;rintro _ wa w1 X1 rfl hle fO au;have dU:=hT.since au;have h1:=h.mv (au.fZ hT.bK);have YV: ∀{w X F'},Ft w0 F w X F'→Sl w X 1 vp (p.map U1):=fun hT=>TX.mv hT.s.mv;have hp1:=YV dU;have stay:r.1=⟨L,m⟩→ ∀wa,Kp X1 w1 wa→ ∃F',(∀k,F' k→F k∨made w0 wa k)∧Lg wa F' lb db r.1.L r.1.m:=fun e wa bk=>⟨F,dU.gX bk fun _ h=>h,by rw [e];exact(h1.mv (bk.fi dU.bK)).lg⟩;repeat' first|refine aL ?_;intros|refine dM ?_ ?_<;>intros
 ·rw [if_pos zQ] at hr;subst hr;exact dU.fin fun wa bk=>⟨rfl,stay rfl wa bk⟩
 ·rw [if_neg zQ,if_pos zQ] at hr;subst hr;exact dU.fin fun wa bk=>⟨rfl,stay rfl wa bk⟩
 ·rw [if_neg zQ,if_neg zQ] at hr;have ank:p.length≤262144:=by omega
  clear stay;refine mn (fun k=> ∀(w:World) (X F1 FL FD:XS) (sv:Value) (bl:List mf) (x:LD),LD.room ⟨L,m⟩=(x,0)→qJ x.L→x.L.eo.length≤2^30+1→Ft w0 F w X F1→LW w F1 lb db x.L x.m FL FD sv bl→k w X) ?_ ?_
  ·intro w X F1 FL FD sv bl x hrm Zd HH cX h2;rw [hrm] at hr;dsimp only at hr;rw [if_neg (by simp)] at hr;obtain⟨s6,s,rfl,he,hdl⟩:=h2.l.last Zd;refine dp (yy h2.l (cX.fx h2.hL)) kQ cX.s.has ?_;rintro _ uR w3 X3 rfl ob mA ea;have dE:=cX.since ea;have h3:=h2.mv (ea.fZ cX.bK);refine dp (Tt (YV dE)) kQ dE.s.has ?_;rintro vq mw w4 X4 hq qh lL fq;rw [if_neg zQ] at hq;obtain⟨vb,rfl,tp⟩:=hq;have fm:=dE.since fq;have h4:=h3.mv (fq.fZ dE.bK);have hX4: ∀k,FL k→X4 k:=fun k af=>fm.bK k (h4.hL k af);have Cp:=h4.l.box.mv (Mv.sub hX4);have nu:s∈s6++[s]:=by simp
   have anl:=(h4.l.row s nu).mv (Mv.sub hX4);have tJ:s.first=x.L.last.first:=by rw [←he];rfl
   have fK:s.size=x.L.last.size:=by rw [←he];rfl
   have hrs:x.L.last.fY=s.rs.map (·.2):=by rw [←he];rfl
   have hfb:=Zd.first
   have nB:=Zd.next
   have hls:=Zd.zG _ (LM.vZ Zd.ne);have B9:s.rs.length=x.L.last.fY.length:=by rw [hrs,aI]
   have iP:=Ob p;have ovb:=tp.one;repeat' first|refine aL ?_;intros
   rw [tJ];refine dp (BG (by have:=Zd.d2;omega) zQ) kQ fm.s.has ?_;rintro _ YC w5 X5 rfl Qf Jg tj;have ff:=fm.since tj;have h5:=h4.mv (tj.fZ fm.bK);have hz4:=fq.kp.size;have amt:Sl w5 (made mw w4) 1 vb ((ke p).map U1):=tp.sl.mv fun k af hl=>⟨af,tj.kp.block k (lL k af)⟩;refine ff.call (Tq h5.d (ff.fx h5.hD) amt (fun k af=>⟨tj.sub k (lL k af),fun hf=>?_⟩) zQ) kQ h5.hD fun v Yr w6 X6 hq PW FN eX hc6=>?_
   ·have:=(dE.fx h3.hD k hf).2;have:=af.1;omega
   obtain⟨rfl,MF,W6,hD⟩:=hq;have h6:=h5.ae7 (ff.fx fun _ h=>h) PW hc6 W6 hD;have eL:x.lay p=(⟨if(x.m.append x.L.gJ (ke p)).2=0 then x.L.add p else x.L,(x.m.append x.L.gJ (ke p)).1⟩,(x.m.append x.L.gJ (ke p)).2):=rfl;rw [eL] at hr;dsimp only at hr;have eN:x.L.gJ=iS x.L.dir x.L.last.first:=rfl
   rw [eN] at hr;generalize YT:x.m.append (iS x.L.dir x.L.last.first) (ke p)=ms at hr h6⊢;have Jv: ∀k,FL k→X6 k:=fun k af=>eX.bK k (h6.hL k af);have amu:=(h6.l.row s nu).mv (Mv.sub Jv);have amv:=(h6.l.DY s nu).mono Jv;repeat' first|refine aL ?_;intros|refine dM ?_ ?_<;>intros
   ·have hz: ¬ms.2=0:=by have: ¬(ms.2:Int)=0:=(by assumption);omega
    rw [if_pos hz,if_neg hz] at hr;subst hr;exact eX.fin fun wa bk=>⟨rfl,_,eX.gX bk fun _ h=>h,(h6.mv (bk.fi eX.bK)).lg⟩
   ·have hz:ms.2=0:=by have:(ms.2:Int)=0:=(by assumption);omega
    rw [if_neg (by simpa using hz),if_pos hz] at hr;subst hr;refine akd eX.s.has kQ (YV eX) (by intro r hr u hu;obtain⟨x,_,rfl⟩:=List.mem_map.1 hr;simp only [U1,bw] at hu;subst hu;rfl) (by simp;omega) (by simp;omega) fun pv w7 X7 gH sO=>?_;have afb:=amv.mv gH.mv;have W7:=amu.since gH;refine acz (bytes:=24) (row:=[pv]) afb gH.has kQ (by have:=rz sO.one;rw [this]) rfl (by simp [sO.one]) (by simp;omega) (by simp;omega) fun yZ w8 X8 c8 AP ZH=>?_;have adD: ∀q,cZ s.rv q→q≠s.b:=fun q hq e=>afb.eA W7 kQ (by rw [←e];exact hq);have aja:a7 w8 X8 s.b [I s.first,s.rv,I s.size] 178:=⟨c8.sub _ W7.1,by rw [c8.block _ W7.1 fun hq=>adD _ hq rfl];exact W7.2⟩;repeat' first|refine aL ?_;intros
    refine qv (o:=1) aja zQ kQ (by simp) AP.one c8.has fun w9 X9 c9 afc=>?_;replace afc:a7 w9 X9 s.b [I s.first,yZ,I s.size] 178:=afc;repeat' first|refine aL ?_;intros
    refine qv (o:=2) afc zQ kQ (by simp) rfl c9.has fun Mj Jt zW aa8=>?_;have lX:(s.size:Int)+((ke p).length:Int)=((s.size+(ke p).length:Nat):Int):=by omega
    replace aa8:a7 Mj Jt s.b [I s.first,yZ,I ((s.size+(ke p).length:Nat):Int)] 178:=by rw [←lX];exact aa8
    have cc:ez (fun k=>k=s.b∨s.rv.ownBlock=some k) X6 w6 Jt Mj:=(((ez.rM gH _).trans (c8.mono fun k _ af=>.inr af)).trans (c9.mono fun k _ af=>.inl af)).trans (zW.mono fun k _ af=>.inl af);have afd: ∀q,cZ s.rv q→FL q:=fun q hq=>((h6.l.DY s nu).bK hq).1;have xG:=eX.fL (F':=fun k=>(F1 k∨made Yr w6 k)∨(Jt k∧w6.heap.size≤k)) cc (fun k af=>by
     rcases af with rfl|af
     ·exact h6.hL _ (h6.l.row s nu).1
     ·exact h6.hL _ (afd _ af)) fun k af=>af
    have afy: ∀g,yZ.ownBlock=some g→FL g∨(Jt g∧w6.heap.size≤g):=fun g hg=>by
     rcases ZH with e|⟨g',e,dV⟩
     ·exact .inl (afd _ (e.symm.trans hg))
     ·rw [hg] at e;have:g=g':=iH e;subst this;exact .inr ⟨zW.sub _ (c9.sub _ (AP.bK hg).1),ah gH.kp.size dV⟩
    have ajb: ∀q,cZ yZ q→q≠s.b:=fun q hq e=>AP.eA aja kQ (by rw [←e];exact hq);have JJ: ∀q,cZ pv q→X7 q∧w6.heap.size≤q∧Mj.heap[q]? =w7.heap[q]? :=fun q hq=>by
     have h1:=(sO.bK hq).1;have hns:q≠s.b:=fun e=>sO.eA W7 kQ (by rw [←e];exact hq);have hnr: ¬cZ s.rv q:=fun DE=>by
      obtain⟨c1,e1⟩:=sO.tag hq;obtain⟨c2,e2⟩:=afb.tag DE;rw [e1] at e2;simp at e2
     exact⟨h1.1,h1.2,by rw [zW.block q (c9.sub _ (c8.sub _ h1.1)) hns,c9.block q (c8.sub _ h1.1) hns,c8.block q h1.1 hnr]⟩
    have amw:=h6.l.agR (Ak:=fun k=>FL k∨(Jt k∧w6.heap.size≤k)) (yZ:=yZ) (pv:=pv) (p:=p) (z:=s.size+(ke p).length) (eX.fx h6.hL) cc (fun k af=>af) (fun k af=>.inl af) ⟨.inl (h6.l.row s nu).1,aa8.2⟩ ?_ ?_ ?_
    ·refine xG.fin fun wa bk=>⟨rfl,_,xG.gX bk fun _ h=>h,?_⟩;have e:({ x.L with eo:=(s6++[s.more yZ pv p (s.size+(ke p).length)]).map mf.er } :LM)=x.L.add p:=by
      unfold LM.add;rw [hdl,bC,←he];simp [mf.er]
     rw [←e];refine Lg.mv ⟨_,MF,sv,_,?_,?_,?_,amw,h6.d.mv (cc.fi fun k af=>⟨eX.bK k (h6.hD k af),fun hg=>?_⟩)⟩ (bk.fi xG.bK)
     ·intro k ha eY;rcases ha with ha|ha
      ·exact h6.dj k ha eY
      ·have:=(eX.fx h6.hD k eY).2;omega
     ·exact fun k af=>af.imp (h6.hL k) id
     ·exact fun k af=>.inl (h6.hD k af)
     ·rcases hg with rfl|hg
      ·exact h6.dj _ (h6.l.row s nu).1 af
      ·exact h6.dj _ (afd _ hg) af
    ·rw [bC];exact AP.tight.mv fun k af hl=>⟨afy k af,by rw [zW.block k (c9.sub _ (AP.bK af).1) (ajb k af),c9.block k (AP.bK af).1 (ajb k af)]⟩
    ·exact sO.tight.mv fun k af hl=>⟨.inr ⟨zW.sub _ (c9.sub _ (c8.sub _ (JJ k af).1)),(JJ k af).2.1⟩,(JJ k af).2.2⟩
    ·rcases ZH with e|⟨g,e,dV⟩
     ·exact .inl e
     ·exact .inr ⟨g,e,ah gH.kp.size dV⟩
  ·intro K hK;obtain⟨s6,s,rfl,he,hdl⟩:=h1.l.last hL;have JF: ∀k,FL k→X1 k:=fun k af=>dU.bK k (h1.hL k af);have rT:=h1.l.box.mv (Mv.sub JF);have nu:s∈s6++[s]:=by simp
   have ai8:=(h1.l.row s nu).mv (Mv.sub JF);have fK:s.size=L.last.size:=by rw [←he];rfl
   have hls:=hL.zG _ (LM.vZ hL.ne);have hrm:=hL.room;have eR:LD.room ⟨L,m⟩=if L.room≤L.last.size then(if(LD.sync ⟨L,m⟩).2≠0 then LD.sync ⟨L,m⟩else(LD.sync ⟨L,m⟩).1.ix L.next)else(⟨L,m⟩,0):=rfl
   repeat' first|refine aL ?_;intros
   refine dp (yy h1.l (dU.fx h1.hL)) kQ dU.s.has ?_;rintro _ zI w2 X2 rfl qP nW bT;have cX:=dU.since bT;have h2:=h1.mv (bT.fZ dU.bK);have anm:=ai8.since bT;repeat' first|refine aL ?_;intros|refine dM ?_ ?_<;>intros
   ·have dV:L.room≤L.last.size:=by omega
    rw [if_pos dV] at eR;refine cX.call (OV h2.lg hL (cX.fx fun _ h=>h)) kQ (fun _ h=>h) fun v uR w3 X3 hq ob mA dE rh=>?_;obtain⟨rfl,F3,Vn,h3⟩:=hq;have hL3:qJ (LD.sync ⟨L,m⟩).1.L:=hL.sync;have aa9:=LD.Rz ⟨L,m⟩;have ajc:=LD.afa ⟨L,m⟩;generalize OW:LD.sync ⟨L,m⟩=y at eR h3 hL3 aa9 ajc⊢;have np:=dE.less Vn;repeat' first|refine aL ?_;intros|refine dM ?_ ?_<;>intros
    ·have hz:y.2≠0:=by have: ¬(y.2:Int)=0:=(by assumption);omega
     rw [if_pos hz] at eR;rw [eR,if_pos hz] at hr;subst hr;exact np.fin fun wa bk=>⟨rfl,F3,np.gX bk fun _ h=>h,h3.mv (bk.fi np.bK)⟩
    ·have hz: ¬y.2≠0:=by have:(y.2:Int)=0:=(by assumption);omega
     rw [if_neg hz] at eR;have hy:y.1=⟨y.1.L,y.1.m⟩:=rfl;refine np.call (Od (n:=L.next) h3 (by rw [ajc];exact hL.d2) nB (by rw [aa9];exact wE) (np.fx fun _ h=>h)) kQ (fun _ h=>h) fun v mw w4 X4 hq qh lL fm EM=>?_;obtain⟨rfl,F4,hF4,h4⟩:=hq;have Vo:(LD.ix ⟨y.1.L,y.1.m⟩ L.next).2=0→qJ (LD.ix ⟨y.1.L,y.1.m⟩ L.next).1.L:=fun _=>hL3.ix nB;have hl4:(LD.ix ⟨y.1.L,y.1.m⟩ L.next).1.L.eo.length≤2^30+1:=by
      unfold LD.ix;dsimp only;split
      ·simp only [av,bz,aa9];show L.eo.length+1≤_;omega
      ·rw [aa9];show L.eo.length≤_;omega
     rw [hy] at eR;generalize hro:LD.ix ⟨y.1.L,y.1.m⟩ L.next=q at eR h4 Vo hl4⊢
     have nq:=fm.less hF4;repeat' first|refine aL ?_;intros|refine dM ?_ ?_<;>intros
     ·have hz:q.2≠0:=by have: ¬(q.2:Int)=0:=(by assumption);omega
      rw [eR,if_pos hz] at hr;subst hr;exact nq.fin fun wa bk=>⟨rfl,F4,nq.gX bk fun _ h=>h,h4.mv (bk.fi nq.bK)⟩
     ·have hz:q.2=0:=by have:(q.2:Int)=0:=(by assumption);omega
      obtain⟨FL4,FD4,sv4,bl4,h4⟩:=h4.lw;exact hK _ _ _ _ _ _ _ q.1 (by rw [eR,←hz]) (Vo hz) hl4 nq h4
   ·have dV: ¬L.room≤L.last.size:=by omega
    rw [if_neg dV] at eR;exact hK _ _ _ _ _ _ _ ⟨L,m⟩ eR hL (by show L.eo.length≤_;omega) cX h2
theorem qJ.tail {L:LM} {s t:Jr} {r:List Jr} (h:qJ L) (hs:L.eo=s::t::r):qJ { L with eo:=t::r } :=
 ⟨by simp,h.d1,h.d2,fun x hx=>h.zG x (by rw [hs];exact List.mem_cons_of_mem _ hx),h.room⟩
end Go.Proofs.YtbpnemeooenpmaaGreat
namespace Go.Proofs.YtbpnemeooenpmaaGreat
open Go.Proofs.Tryz renaming prog → pg
open Go.aR
def LD.jJ (x:LD) (e:Nat) (bs:List Nat):LD×Nat×Nat:=
 if e≠0 then(x,0,e)else
  let r:=x.append bs
  if r.2.2≠0 then r else(r.1.sync.1,r.2.1,r.1.sync.2)
end Go.Proofs.YtbpnemeooenpmaaGreat
