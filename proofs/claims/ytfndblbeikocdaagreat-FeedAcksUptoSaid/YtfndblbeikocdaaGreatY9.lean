/-
 Part 9 of the proof: what the last text leans on.
-/
import Derived.Test.YtfndblbeikocdaaGreatY8
open List renaming length_append → ae, map_cons → bB, range → cN, length_map → ay, find?_cons → bS, length_take → aW, length_nil → dj, append_assoc → aB, take_append_drop → cD, length_cons → bP, map_append → bo, sum_cons → fS, mem_singleton → en, replicate → eZ, mem_of_getElem? → aA, all_cons → ib, any_map → qt, length_drop → dM, take_add_one → bc, map_nil → uK, take_of_length_le → aY, length_eq_zero_iff → mf, pairwise_cons → jJ, take_left' → xj, drop_left' → xk, length_singleton → bD, take_length → xl, not_mem_nil → gn, mem_of_mem_drop → eh
open Nat renaming zero_le → aN, lt_of_lt_of_le → aI, le_trans → af, mul_le_mul_right → eN, zero_add → ee, min_eq_left → iN
open Bool renaming false_eq_true → bh
open Go.Value renaming cells → aa, string → dm
open BitVec renaming ofInt → bY
open Option.some renaming inj → nR
open Go.Op renaming unary → aX
open Option renaming toList_some → iI
open Go.Builtin renaming len_ → eT, max_ → BJ, max2 → BK
open Go.IntKind renaming bits → nI, signed → kh
open Int renaming toNat_of_nonneg → tr, fdiv_eq_ediv_of_nonneg → gN
set_option linter.unusedVariables false
set_option linter.unusedSimpArgs false
namespace Go.Proofs.YtfndblbeikocdaaGreat
open Go.Proofs.Tryz renaming prog → pg
open Go.bu
set_option maxRecDepth 100000
set_option maxHeartbeats 1000000
set_option linter.unusedVariables false
set_option linter.unusedSimpArgs false
attribute [local irreducible] un jn aF aT ld1 ew st1 dt cB lS dV lT uN tG gq fW ad az aJ eW eV eU eC eF gE au fin aQ aM aH vS xt gp il pR uO xu xv xw xx gm im pS uP xy xz xA
@[ext] structure lO where
 key:BA
 val:mS
 aw:aK
 deriving DecidableEq
abbrev lO.l (x:lO):List Value:=[.string x.key,I x.val.kind,.float .f64 x.val.num,.string x.val.text,I x.aw.wall,I x.aw.dp,I x.aw.node]
@[ext] structure gW where
 kind:Int
 fr:Int
 to:Int
 bU:dX
 range:Int
 jD:Int
 code:Int
 aw:aK
 prev:aK
 iy:Bool
 n:Int
 mx:Int
 keys:List BA
 seen:List lO
 writes:List KV
 parts:List Int
 ranges:List kX
 ed:List Rec
 state:State
 deriving DecidableEq
abbrev gW.l (m:gW) (vk vs vw vp vr vc vh vd:Value):List Value:=[I m.kind,I m.fr,I m.to,I m.bU.iH,I m.bU.lg,I m.bU.sq,I m.range,I m.jD,I m.code,
 I m.aw.wall,I m.aw.dp,I m.aw.node,I m.prev.wall,I m.prev.dp,I m.prev.node,B m.iy,I m.n,I m.mx,vk,vs,vw,vp,vr,vc,
 I m.state.range.id,I m.state.range.jD,.float .f64 m.state.range.lo,.float .f64 m.state.range.hi,
 I m.state.floor.wall,I m.state.floor.dp,I m.state.floor.node,I m.state.closed.wall,I m.state.closed.dp,I m.state.closed.node,vh,vd]
abbrev gW.v (m:gW) (vk vs vw vp vr vc vh vd:Value):Value:=.agg #[I m.kind,I m.fr,I m.to,I m.bU.iH,I m.bU.lg,I m.bU.sq,I m.range,I m.jD,I m.code,
 I m.aw.wall,I m.aw.dp,I m.aw.node,I m.prev.wall,I m.prev.dp,I m.prev.node,B m.iy,I m.n,I m.mx,vk,vs,vw,vp,vr,vc,
 I m.state.range.id,I m.state.range.jD,.float .f64 m.state.range.lo,.float .f64 m.state.range.hi,
 I m.state.floor.wall,I m.state.floor.dp,I m.state.floor.node,I m.state.closed.wall,I m.state.closed.dp,I m.state.closed.node,vh,vd]
structure gW.at (w:World) (X:XS) (m:gW) (vk vs vw vp vr vc vh vd:Value):Prop where
 keys:Sl w X 1 vk (m.keys.map S1)
 seen:Sl w X 7 vs (m.seen.map lO.l)
 writes:Sl w X 4 vw (m.writes.map KV.l)
 parts:Sl w X 1 vp (m.parts.map I1)
 ranges:Sl w X 4 vr (m.ranges.map kX.l)
 ed:gO w X 29 vc Rec.rd m.ed
 gG:nL w X vh m.state.gG
 eA:nK w X vd m.state.eA
theorem gW.at.mv {w w':World} {X Y:XS} {m:gW} {vk vs vw vp vr vc vh vd:Value} (h:m.at w X vk vs vw vp vr vc vh vd) (v:Mv X w Y w'):m.at w' Y vk vs vw vp vr vc vh vd:=
 ⟨h.keys.mv v,h.seen.mv v,h.writes.mv v,h.parts.mv v,h.ranges.mv v,gO.mv h.ed Rec.mv v,gO.mv h.gG iP.mv v,gO.mv h.eA dB.mv v⟩
def gW.rd (w:World) (X:XS) (l:List Value) (m:gW):Prop:= ∃vk vs vw vp vr vc vh vd,l=m.l vk vs vw vp vr vc vh vd∧m.at w X vk vs vw vp vr vc vh vd
theorem gW.mv:Ez gW.rd:=fun ⟨vk,vs,vw,vp,vr,vc,vh,vd,h,h1⟩ m=>⟨vk,vs,vw,vp,vr,vc,vh,vd,h,h1.mv m⟩
theorem C4 {w:World} {X:XS} {a:Value} {xs:List BA} (ha:Sl w X 1 a (xs.map S1)):
  Ct pg 153 #[a] w X nX fun v _ _=>v=B (ql xs):=by
 intro w0 hk;replace ha:=ha.mv hk.cL;have iV:=ha.gz;apply Tg;unfold Hw;have hs:=ak.init w0;repeat' first|refine aD ?_;intros
 refine eG (fun n a w X=> ∃i:Nat,a=I (i:Nat)∧n=(xs).length-i∧i≤(xs).length∧ak (aS w0) w0 X w∧chain qI ou none xs=chain qI ou (oG xs i) (xs.drop i)) (xs).length ⟨0,rfl,rfl,aN _,hs,by simp [oG]⟩ ?_;rintro n a w X ⟨i,rfl,rfl,hi,hs,hw⟩;rcases eb (xs) i with⟨cK,x,hx,hd⟩|⟨dU,hd⟩
 ·rcases Ix cK with⟨h0,hp⟩|⟨h0,y,hy,hp⟩<;>rw [hp,hd,chain] at hw<;>clear hd
  ·repeat' first|refine bO ?_;intros|((with_reducible refine dR (oW _) ?_ hs.has ?_ ?_);(· kernel_rfl);all_goals (intro _ w X aq;replace hs:=hs.trans aq))|((first|(with_reducible refine ai hs ?_)|(with_reducible refine ai (bF.trans hs) ?_));intro wa hk;simp_all [ql,rising,chain])|((with_reducible refine ep ((xs).length-(i+1)) ?_ ?_);omega;exact⟨i+1,by simp,rfl,by omega,hs,by rw [hw,mU hx];simp [*]⟩)
  ·repeat' first|refine bO ?_;intros|refine dD ?_ ?_<;>intros|((with_reducible refine dR (oW _) ?_ hs.has ?_ ?_);(· kernel_rfl);all_goals (intro _ w X aq;replace hs:=hs.trans aq))|((first|(with_reducible refine ai hs ?_)|(with_reducible refine ai (bF.trans hs) ?_));intro wa hk;simp_all [ql,rising,chain])|((with_reducible refine ep ((xs).length-(i+1)) ?_ ?_);omega;exact⟨i+1,by simp,rfl,by omega,hs,by rw [hw,mU hx];simp [*]⟩)
 ·repeat' first|refine bO ?_;intros|refine dD ?_ ?_<;>intros|((first|(with_reducible refine ai hs ?_)|(with_reducible refine ai (bF.trans hs) ?_));intro wa hk;simp_all [ql,rising,chain]<;>omega)
def lO.may (x:lO):Bool:=x.aw.may&&x.val.may&&!(decide (x.aw= .zero)&&decide (x.val.kind≠0))
def DZ (l:List lO):Bool:=l.all lO.may&&ql (l.map (·.key))
theorem U3 {w:World} {X:XS} {a:Value} {xs:List lO} (ha:Sl w X 7 a (xs.map lO.l)) (hb:xs.length≤2^40):
  Ct pg 155 #[a] w X nX fun v _ _=>v=B (DZ xs):=by
 intro w0 hk;replace ha:=ha.mv hk.cL;have iV:=ha.gz;apply Ti;unfold Hy;have hs:=ak.init w0;repeat' first|refine aD ?_;intros
 refine gb (fun n a b w X=> ∃i:Nat,a=I i∧n=xs.length-i∧i≤xs.length∧ak (aS w0) w0 X w∧Own w X w0.heap.size 9 1 b (((xs.take i).map (·.key)).map S1)∧xs.all lO.may=(xs.drop i).all lO.may) xs.length ⟨0,rfl,rfl,aN _,hs,Own.nil _ _ _ _ _,by simp⟩ ?_;rintro n a b w X ⟨i,rfl,rfl,hi,hs,ho,hw⟩;rcases eb (xs) i with⟨cK,x,hx,hd⟩|⟨dU,hd⟩
 ·rw [hd,ib] at hw;have PE: ∀q:Bool,q=false→x.may=q→DZ xs=false:=fun q hq h=>by simp [DZ,hw,h,hq]
  repeat' first|refine bO ?_;intros|refine dD ?_ ?_<;>intros|(with_reducible refine zd _ ?_ ?_ ?_);(· kernel_rfl);all_goals intros|((with_reducible apply No);(case own=>first|assumption|exact Own.since (by assumption) (by assumption));(case hs=>assumption);(case h0=>first|exact fun _ h=>h|exact bF.has);(case he=>kernel_rfl);(case hk=>rfl);(case ho=>first|rfl|assumption);(case hb=>(simp only [ay,aW,ae,bP,dj];omega));(case hl=>(simp only [ay,aW,ae,bP,dj];omega));intro acc w X aq ho hc fm;replace hs:=aq)|with_reducible apply dG|((with_reducible refine dR (jc _) ?_ hs.has ?_ ?_);(· kernel_rfl);all_goals (intro _ w X aq;replace hs:=hs.trans aq))|((with_reducible refine dR (mV _) ?_ hs.has ?_ ?_);(· kernel_rfl);all_goals (intro _ w X aq;replace hs:=hs.trans aq))|((first|(with_reducible refine ai hs ?_)|(with_reducible refine ai (bF.trans hs) ?_));intro wa hk;(exact(congrArg B (PE false rfl (by clear PE;grind [lO.may]))).symm))|((with_reducible refine eM ((xs).length-(i+1)) ?_ ?_);omega;exact⟨i+1,by simp,rfl,by omega,hs,by rw [bc,hx];simp only [iI,bo,bB,uK];(first|exact Own.since ho (by assumption)|exact Own.since (Own.since ho (by assumption)) (by assumption)),by rw [hw];clear PE;grind [lO.may]⟩)
 ·rw [hd] at hw;rw [aY dU] at ho;repeat' first|refine bO ?_;intros|((first|(with_reducible refine ai hs ?_)|(with_reducible refine ai (bF.trans hs) ?_));intro wa hk;(rename_i h;simp [DZ,hw,h]))|(refine eR (C4  (Own.sl ho)) kQ hs.has ?_ ?_<;>(intro _ w X aq;replace hs:=hs.trans aq))
theorem N7 {w:World} {X:XS} {a:Value} {xs:List KV} (ha:Sl w X 4 a (xs.map KV.l)) (hb:xs.length≤2^40):
  Ct pg 156 #[a] w X nX fun v _ _=>v=B (HW xs):=by
 intro w0 hk;replace ha:=ha.mv hk.cL;have iV:=ha.gz;apply MB;unfold Cg;have hs:=ak.init w0;repeat' first|refine aD ?_;intros
 refine gb (fun n a b w X=> ∃i:Nat,a=I i∧n=xs.length-i∧i≤xs.length∧ak (aS w0) w0 X w∧Own w X w0.heap.size 9 1 b (((xs.take i).map (·.key)).map S1)∧xs.all (·.val.may)=(xs.drop i).all (·.val.may)) xs.length ⟨0,rfl,rfl,aN _,hs,Own.nil _ _ _ _ _,by simp⟩ ?_;rintro n a b w X ⟨i,rfl,rfl,hi,hs,ho,hw⟩;rcases eb (xs) i with⟨cK,x,hx,hd⟩|⟨dU,hd⟩
 ·rw [hd,ib] at hw;have PE:x.val.may=false→HW xs=false:=fun h=>by simp [HW,hw,h]
  repeat' first|refine bO ?_;intros|((with_reducible apply No);(case own=>first|assumption|exact Own.since (by assumption) (by assumption));(case hs=>assumption);(case h0=>first|exact fun _ h=>h|exact bF.has);(case he=>kernel_rfl);(case hk=>rfl);(case ho=>first|rfl|assumption);(case hb=>(simp only [ay,aW,ae,bP,dj];omega));(case hl=>(simp only [ay,aW,ae,bP,dj];omega));intro acc w X aq ho hc fm;replace hs:=aq)|((with_reducible refine dR (mV _) ?_ hs.has ?_ ?_);(· kernel_rfl);all_goals (intro _ w X aq;replace hs:=hs.trans aq))|((first|(with_reducible refine ai hs ?_)|(with_reducible refine ai (bF.trans hs) ?_));intro wa hk;(exact(congrArg B (PE (by assumption))).symm))|((with_reducible refine eM ((xs).length-(i+1)) ?_ ?_);omega;exact⟨i+1,by simp,rfl,by omega,hs,by rw [bc,hx];simp only [iI,bo,bB,uK];exact Own.since ho (by assumption),by rw [hw];clear PE;simp [*]⟩)
 ·rw [hd] at hw;rw [aY dU] at ho;repeat' first|refine bO ?_;intros|((first|(with_reducible refine ai hs ?_)|(with_reducible refine ai (bF.trans hs) ?_));intro wa hk;(rename_i h;simp [HW,hw,h]))|(refine eR (C4  (Own.sl ho)) kQ hs.has ?_ ?_<;>(intro _ w X aq;replace hs:=hs.trans aq))
def II (l:List kX):Bool:=l.all kX.may&&decide ((l.length:Int)≤12)
theorem TU {w:World} {X:XS} {a:Value} {xs:List kX} (ha:Sl w X 4 a (xs.map kX.l)):
  Ct pg 195 #[a] w X nX fun v _ _=>v=B (II xs):=by
 intro w0 hk;replace ha:=ha.mv hk.cL;have iV:=ha.gz;apply P8;unfold FF;have hs:=ak.init w0;repeat' first|refine aD ?_;intros
 refine eG (fun n a w X=> ∃i:Nat,a=I (i:Nat)∧n=(xs).length-i∧i≤(xs).length∧ak (aS w0) w0 X w∧xs.all kX.may=(xs.drop i).all kX.may) (xs).length ⟨0,rfl,rfl,aN _,hs,by simp⟩ ?_;rintro n a w X ⟨i,rfl,rfl,hi,hs,hw⟩;rcases eb (xs) i with⟨cK,x,hx,hd⟩|⟨dU,hd⟩
 ·rw [hd,ib] at hw;repeat' first|refine bO ?_;intros|((with_reducible refine dR (Ko _) ?_ hs.has ?_ ?_);(· kernel_rfl);all_goals (intro _ w X aq;replace hs:=hs.trans aq))|((first|(with_reducible refine ai hs ?_)|(with_reducible refine ai (bF.trans hs) ?_));intro wa hk;(simp [II,hw, *]))|((with_reducible refine ep ((xs).length-(i+1)) ?_ ?_);omega;exact⟨i+1,by simp,rfl,by omega,hs,by rw [hw];simp [*]⟩)
 ·rw [hd] at hw;repeat' first|refine bO ?_;intros|refine dD ?_ ?_<;>intros|((first|(with_reducible refine ai hs ?_)|(with_reducible refine ai (bF.trans hs) ?_));intro wa hk;(simp_all [II]))
def codeOk (c:Int) (TV:Bool) (l:List kX):Bool:=if c=0 then TV&&decide (l=[])else decide (c>0)&&decide (c≤25)&&II l
theorem U5 {w:World} {X:XS} {c:Int} {TV:Bool} {a:Value} {xs:List kX} (ha:Sl w X 4 a (xs.map kX.l)):
  Ct pg 154 #[I c,B TV,a] w X nX fun v _ _=>v=B (codeOk c TV xs):=by
 intro w0 hk;replace ha:=ha.mv hk.cL;have iV:=ha.gz;have Wh:xs.length=0↔xs=[]:=mf;apply Th;unfold Hx;have hs:=ak.init w0;cases TV<;>
 repeat' first|refine aD ?_;intros|refine dD ?_ ?_<;>intros|with_reducible apply dG|((first|(with_reducible refine ai hs ?_)|(with_reducible refine ai (bF.trans hs) ?_));intro wa hk;(simp_all [codeOk]<;>omega))|(refine eR (TU  qA) kQ hs.has ?_ ?_<;>(intro _ w X aq;replace hs:=hs.trans aq))
def IJ (l:List Int) (n:Int):Bool:=l.any fun x=>decide (x=n)
theorem XY {w:World} {X:XS} {z:Int} {a:Value} {xs:List Int} (ha:Sl w X 1 a (xs.map I1)):
  Ct pg 158 #[a,I z] w X nX fun v _ _=>v=B (IJ xs z):=by
 intro w0 hk;replace ha:=ha.mv hk.cL;have iV:=ha.gz;apply UI;unfold Kg;have hs:=ak.init w0;repeat' first|refine aD ?_;intros
 refine eG (fun n a w X=> ∃i:Nat,a=I (i:Nat)∧n=(xs).length-i∧i≤(xs).length∧ak (aS w0) w0 X w∧IJ xs z=IJ (xs.drop i) z) (xs).length ⟨0,rfl,rfl,aN _,hs,by simp⟩ ?_;rintro n a w X ⟨i,rfl,rfl,hi,hs,hw⟩;rcases eb (xs) i with⟨cK,x,hx,hd⟩|⟨dU,hd⟩
 ·rw [hd] at hw;repeat' first|refine bO ?_;intros|refine dD ?_ ?_<;>intros|((first|(with_reducible refine ai hs ?_)|(with_reducible refine ai (bF.trans hs) ?_));intro wa hk;(rw [hw];simp [IJ, *]))|((with_reducible refine ep ((xs).length-(i+1)) ?_ ?_);omega;exact⟨i+1,by simp,rfl,by omega,hs,by rw [hw];simp [IJ, *]⟩)
 ·rw [hd] at hw;repeat' first|refine bO ?_;intros|((first|(with_reducible refine ai hs ?_)|(with_reducible refine ai (bF.trans hs) ?_));intro wa hk;(rw [hw];rfl))
def IK (l:List Rec):Bool:=l.all (fun r=>decide (r.sy=0))&&decide ((l.length:Int)≤8)
theorem TW {w:World} {X:XS} {a:Value} {xs:List Rec} (ha:gO w X 29 a Rec.rd xs) (jr: ∀r∈xs,r.small) (ml: ∀r∈xs,r.err=0→(uB r).length≤2^33):
  Ct pg 120 #[a] w X nX fun v _ _=>v=B (IK xs):=by
 intro w0 hk;replace ha:=gO.mv ha Rec.mv hk.cL;have iV:=ha.len;apply P3;unfold FA;have hs:=ak.init w0;repeat' first|refine aD ?_;intros
 refine eG (fun n a w X=> ∃i:Nat,a=I (i:Nat)∧n=(xs).length-i∧i≤(xs).length∧ak (aS w0) w0 X w∧xs.all (fun r=>decide (r.sy=0))=(xs.drop i).all (fun r=>decide (r.sy=0))) (xs).length ⟨0,rfl,rfl,aN _,hs,by simp⟩ ?_;rintro n a w X ⟨i,rfl,rfl,hi,hs,hw⟩;rcases eb (xs) i with⟨cK,x,hx,hd⟩|⟨dU,hd⟩
 ·rw [hd,ib] at hw;have JP:=aA hx;repeat' first|refine bO ?_;intros|((with_reducible apply M7);assumption;(try (case hz=>rfl));(case hr=>exact qR);(try (case hz=>omega));(case ht=>kernel_rfl);(case hs=>kernel_rfl);intros)
  refine ek (Qo (r:=x) (Rec.at.mv (by assumption) hs.mv) (jr x JP) (ml x JP)) kQ hs.has ?_;rintro v wa w2 X2 hq hle eD dI;replace hs:=hs.trans dI;by_cases he:x.sy=0
  ·rw [if_neg zQ] at hq;obtain⟨vb,rfl,_⟩:=hq;repeat' first|refine bO ?_;intros|((with_reducible refine ep ((xs).length-(i+1)) ?_ ?_);omega;exact⟨i+1,by simp,rfl,by omega,hs,by rw [hw];simp [he]⟩)
  ·rw [if_pos he] at hq;subst hq;repeat' first|refine bO ?_;intros|((first|(with_reducible refine ai hs ?_)|(with_reducible refine ai (bF.trans hs) ?_));intro wa hk;(simp [IK,hw,he]))
 ·rw [hd] at hw;repeat' first|refine bO ?_;intros|refine dD ?_ ?_<;>intros|((first|(with_reducible refine ai hs ?_)|(with_reducible refine ai (bF.trans hs) ?_));intro wa hk;(simp_all [IK]))
structure gW.small (m:gW):Prop where
 seen:m.seen.length≤2^40
 writes:m.writes.length≤2^40
 ed: ∀r∈m.ed,r.small
 enc: ∀r∈m.ed,r.err=0→(uB r).length≤2^33
 state:m.state.small
def gW.N8 (m:gW):Bool:=m.bU.may&&pG m.range&&(
 if m.kind=1 then decide (m.jD≥0)&&m.aw.may&&ql m.keys&&decide ((m.keys.length:Int)>0)
 else if m.kind=2 then codeOk m.code (DZ m.seen&&decide ((m.seen.length:Int)>0)) m.ranges&&m.aw.may&&(decide (m.code=0)||decide ((m.seen.length:Int)=0))
 else if m.kind=3 then decide (m.jD≥0)&&m.aw.may&&DZ m.seen&&HW m.writes&&yj m.parts&&IJ m.parts m.range
 else if m.kind=4 then codeOk m.code true m.ranges&&m.aw.may
 else if m.kind=5 then(if m.iy then m.aw.may&&decide (m.aw≠ .zero)else decide (m.aw= .zero))
 else true)
theorem TX {w:World} {X:XS} {m:gW} {vk vs vw vp vr vc vh vd:Value} (h:m.at w X vk vs vw vp vr vc vh vd) (jr:m.small):
  Ct pg 119 #[m.v vk vs vw vp vr vc vh vd] w X nX fun v _ _=>v=B m.N8:=by
 intro w0 hk;replace h:=h.mv hk.cL;obtain⟨h1,h2,h3,h4,h5,h6,h7,h8⟩:=h;obtain⟨b1,n1,c1,rfl⟩:=h1.form;obtain⟨b2,n2,c2,rfl⟩:=h2.form;obtain⟨b3,n3,c3,rfl⟩:=h3.form;obtain⟨b4,n4,c4,rfl⟩:=h4.form;obtain⟨b5,n5,c5,rfl⟩:=h5.form;apply P2;unfold Fy;have hs:=ak.init w0;repeat' first|refine aD ?_;intros|refine dD ?_ ?_<;>intros|(with_reducible refine zd _ ?_ ?_ ?_);(· kernel_rfl);all_goals intros|(with_reducible refine Z7 _ ?_ ?_ ?_);(· kernel_rfl);all_goals intros|with_reducible apply dG|((with_reducible refine dR (jc _) ?_ hs.has ?_ ?_);(· kernel_rfl);all_goals (intro _ w X aq;replace hs:=hs.trans aq))|((with_reducible refine dR (zn _) ?_ hs.has ?_ ?_);(· kernel_rfl);all_goals (intro _ w X aq;replace hs:=hs.trans aq))|((with_reducible refine dR (zk _) ?_ hs.has ?_ ?_);(· kernel_rfl);all_goals (intro _ w X aq;replace hs:=hs.trans aq))|(refine eR (C4  qA) kQ hs.has ?_ ?_<;>(intro _ w X aq;replace hs:=hs.trans aq))|(refine eR (U3  qA jr.seen) kQ hs.has ?_ ?_<;>(intro _ w X aq;replace hs:=hs.trans aq))|(refine eR (N7  qA jr.writes) kQ hs.has ?_ ?_<;>(intro _ w X aq;replace hs:=hs.trans aq))|(refine eR (HX  qA) kQ hs.has ?_ ?_<;>(intro _ w X aq;replace hs:=hs.trans aq))|(refine eR (XY  qA) kQ hs.has ?_ ?_<;>(intro _ w X aq;replace hs:=hs.trans aq))|(refine eR ((U5 (xs:=m.ranges))  qA) kQ hs.has ?_ ?_<;>(intro _ w X aq;replace hs:=hs.trans aq))
 all_goals
  (with_reducible refine ai hs ?_)
  intro wa bC;unfold gW.N8;repeat (first|rw [if_pos zQ]|rw [if_neg zQ])
  simp_all [pG]<;>first|omega|(rename_i z9;intro e9;simp [e9] at z9;done)|(intro e9;simp_all;done)|grind
def gW.nz (m:gW):Bool:=
 if 1≤m.kind∧m.kind≤7 then m.N8
 else if m.kind=8 then pG m.range&&decide (m.n≥1)&&decide (m.mx≥0)&&decide (m.mx≤8)&&m.aw.may
 else if m.kind=9 then pG m.range&&decide (m.n≥1)&&IK m.ed
 else if m.kind=10 then pG m.range&&m.state.may&&decide (m.state.range.id=m.range)
 else if m.kind=11 then pG m.range
 else if m.kind=12 then IG m.prev m.aw m.bU m.writes
 else if m.kind=14 then m.aw.may
 else true
theorem N9 {w:World} {X:XS} {m:gW} {vk vs vw vp vr vc vh vd:Value} (h:m.at w X vk vs vw vp vr vc vh vd) (jr:m.small):
  Ct pg 78 #[m.v vk vs vw vp vr vc vh vd] w X nX fun v _ _=>v=B m.nz:=by
 intro w0 hk;replace h:=h.mv hk.cL;obtain⟨h1,h2,h3,h4,h5,h6,h7,h8⟩:=id h;obtain⟨b3,n3,c3,rfl⟩:=h3.form;apply NI;unfold DB;have hs:=ak.init w0;repeat' first|refine aD ?_;intros|refine dD ?_ ?_<;>intros|with_reducible apply dG|((with_reducible refine dR (jc _) ?_ hs.has ?_ ?_);(· kernel_rfl);all_goals (intro _ w X aq;replace hs:=hs.trans aq))|((with_reducible refine dR (zn _) ?_ hs.has ?_ ?_);(· kernel_rfl);all_goals (intro _ w X aq;replace hs:=hs.trans aq))|(refine eR ((TX (m:=m))  (h.mv (ak.mv hs)) jr) kQ hs.has ?_ ?_<;>(intro _ w X aq;replace hs:=hs.trans aq))|(refine eR ((TW (xs:=m.ed))  (gO.mv h6 Rec.mv (ak.mv hs)) jr.ed jr.enc) kQ hs.has ?_ ?_<;>(intro _ w X aq;replace hs:=hs.trans aq))|(refine eR (Cm  (s:=m.state) qA qA jr.state) kQ hs.has ?_ ?_<;>(intro _ w X aq;replace hs:=hs.trans aq))|(refine eR ((H7 (l:=m.writes))  qA jr.writes) kQ hs.has ?_ ?_<;>(intro _ w X aq;replace hs:=hs.trans aq))
 all_goals
  (with_reducible refine ai hs ?_)
  intro wa bC;unfold gW.nz;repeat (first|rw [if_pos zQ]|rw [if_neg zQ])
  try (simp_all [pG]<;>first|omega|grind)
def gW.isZero (m:gW):Bool:=decide (m.bU= .zero)&&decide (m.range=0)&&decide (m.jD=0)&&decide (m.code=0)&&decide (m.aw= .zero)&&decide (m.prev= .zero)&&!m.iy&&decide (m.n=0)&&decide (m.mx=0)&&
 m.state.isZero&&decide ((m.keys.length:Int)+m.seen.length+m.writes.length+m.parts.length+m.ranges.length+m.ed.length=0)
theorem TY {w:World} {X:XS} {m:gW} {vk vs vw vp vr vc vh vd:Value} (h:m.at w X vk vs vw vp vr vc vh vd) (O5:m.keys.length+m.seen.length+m.writes.length+m.parts.length+m.ranges.length+m.ed.length≤2^62):
  Ct pg 77 #[m.v vk vs vw vp vr vc vh vd] w X nX fun v _ _=>v=B m.isZero:=by
 intro w0 hk;replace h:=h.mv hk.cL;obtain⟨h1,h2,h3,h4,h5,h6,h7,h8⟩:=h;have o7:=h7.one;have o8:=h8.one;have q1:m.state.gG.length=0↔m.state.gG=[]:=mf;have q2:m.state.eA.length=0↔m.state.eA=[]:=mf;apply Tb;unfold Ho;have hs:=ak.init w0;cases hc:m.iy<;>
 repeat' first|refine aD ?_;intros|refine dD ?_ ?_<;>intros|(with_reducible refine zd _ ?_ ?_ ?_);(· kernel_rfl);all_goals intros|(with_reducible refine Z8 _ ?_ ?_ ?_);(· kernel_rfl);all_goals intros|with_reducible apply dG|((first|(with_reducible refine ai hs ?_)|(with_reducible refine ai (bF.trans hs) ?_));intro wa hk;(simp_all [gW.isZero,State.isZero,kX.ext_iff]<;>omega))|((with_reducible refine Bl (yi _) hs.has ?_);intro w X aq;replace hs:=hs.trans aq)
def gW.strip (m:gW):gW×Bool:=
 if m.kind=1 then({ m with bU:=.zero,range:=0,jD:=0,aw:=.zero,keys:=[] },true)
 else if m.kind=2 then({ m with bU:=.zero,range:=0,code:=0,aw:=.zero,seen:=[],ranges:=[] },true)
 else if m.kind=3 then({ m with bU:=.zero,range:=0,jD:=0,aw:=.zero,seen:=[],writes:=[],parts:=[] },true)
 else if m.kind=4 then({ m with bU:=.zero,range:=0,code:=0,aw:=.zero,ranges:=[] },true)
 else if m.kind=5 then({ m with bU:=.zero,range:=0,iy:=false,aw:=.zero },true)
 else if m.kind=6∨m.kind=7 then({ m with bU:=.zero,range:=0 },true)
 else if m.kind=8 then({ m with range:=0,n:=0,mx:=0,aw:=.zero },true)
 else if m.kind=9 then({ m with range:=0,n:=0,ed:=[] },true)
 else if m.kind=10 then({ m with range:=0,state:=.zero },true)
 else if m.kind=11 then({ m with range:=0 },true)
 else if m.kind=12 then({ m with prev:=.zero,aw:=.zero,bU:=.zero,writes:=[] },true)
 else if m.kind=13 then(m,true)
 else if m.kind=14 then({ m with aw:=.zero },true)
 else(m,false)
theorem MV {w:World} {X:XS} {m:gW} {vk vs vw vp vr vc vh vd:Value} (h:m.at w X vk vs vw vp vr vc vh vd):
  Ct pg 75 #[m.v vk vs vw vp vr vc vh vd] w X nX fun v wa w'=> ∃vk' vs' oE TA Tz vc' TB TC,v= .tuple #[m.strip.1.v vk' vs' oE TA Tz vc' TB TC,B m.strip.2]∧
   m.strip.1.at w X vk' vs' oE TA Tz vc' TB TC:=by
 intro w0 hk;obtain⟨h1,h2,h3,h4,h5,h6,h7,h8⟩:=h;have o1:=h1.one;have o2:=h2.one;have o3:=h3.one;have o4:=h4.one;have o5:=h5.one;have o6:=h6.one;have o7:=h7.one;have o8:=h8.one;apply Mz;unfold Ce;have hs:=ak.init w0;have n1:Sl w X 1 (.slice none 0 0) (([]:List BA).map S1):=Sl.nil _ _ _;have n2:Sl w X 7 (.slice none 0 0) (([]:List lO).map lO.l):=Sl.nil _ _ _;have n3:Sl w X 4 (.slice none 0 0) (([]:List KV).map KV.l):=Sl.nil _ _ _;have n4:Sl w X 1 (.slice none 0 0) (([]:List Int).map I1):=Sl.nil _ _ _;have n5:Sl w X 4 (.slice none 0 0) (([]:List kX).map kX.l):=Sl.nil _ _ _;have n6:gO w X 29 (.slice none 0 0) Rec.rd []:=gO.nil _ _ _;have n7:nL w X (.slice none 0 0) []:=gO.nil _ _ _;have n8:nK w X (.slice none 0 0) []:=gO.nil _ _ _;repeat' first|refine aD ?_;intros|refine dD ?_ ?_<;>intros|with_reducible apply dG
 all_goals
  refine ai hs ?_;intro wa bC;unfold gW.strip;repeat (first|rw [if_pos zQ]|rw [if_neg zQ])
  exact⟨_,_,_,_,_,_,_,_,rfl,by assumption,by assumption,by assumption,by assumption,by assumption,by assumption,by assumption,by assumption⟩
def gW.err (m:gW):Int:=if !m.strip.2 then 7 else if !MU m.fr||!MU m.to||!m.strip.1.isZero||!m.nz then 4 else 0
def gW.lens (m:gW):Nat:=m.keys.length+m.seen.length+m.writes.length+m.parts.length+m.ranges.length+m.ed.length
theorem abX {c:Prop} [Decidable c] {a b:gW×Bool} {n:Nat} (ha:a.1.lens≤n) (hb:b.1.lens≤n):(if c then a else b).1.lens≤n:=by split<;>assumption
theorem gW.XZ (m:gW):m.strip.1.lens≤m.lens:=by
 unfold gW.strip;repeat' with_reducible apply abX
 all_goals (unfold gW.lens;(try simp only [dj]);omega)
theorem Ul {w:World} {X:XS} {m:gW} {vk vs vw vp vr vc vh vd:Value} (h:m.at w X vk vs vw vp vr vc vh vd) (jr:m.small) (O5:m.lens≤2^62):
  Ct pg 29 #[m.v vk vs vw vp vr vc vh vd] w X nX fun v _ _=>v=I m.err:=by
 intro w0 hk;have h:=h.mv hk.cL;have aie:=af m.XZ O5;apply UF;unfold Kd;have hs:=ak.init w0;refine ek (MV h) kQ hs.has ?_;rintro v wa w X ⟨vk',vs',oE,TA,Tz,vc',TB,TC,rfl,fm⟩ hle eD aq;replace hs:=hs.trans aq;have q1:=fm.1.one;have q2:=fm.2.one;have q3:=fm.3.one;have q4:=fm.4.one;have q5:=fm.5.one;have q6:=fm.6.one;have q7:=fm.7.one;have q8:=fm.8.one;cases hb:m.strip.2<;>
 repeat' first|refine aD ?_;intros|with_reducible apply dG|((with_reducible refine dR (UZ _) ?_ hs.has ?_ ?_);(· kernel_rfl);all_goals (intro _ w X aq;replace hs:=hs.trans aq))|((first|(with_reducible refine ai hs ?_)|(with_reducible refine ai (bF.trans hs) ?_));intro wa hk;(simp [gW.err, *]))|(refine eR ((TY (m:=m.strip.1))  (fm.mv (ak.mv (by first|assumption|exact ak.trans (by assumption) (by assumption)))) aie) kQ hs.has ?_ ?_<;>(intro _ w X aq;replace hs:=hs.trans aq))|(refine eR ((N9 (m:=m))  (h.mv (ak.mv hs)) jr) kQ hs.has ?_ ?_<;>(intro _ w X aq;replace hs:=hs.trans aq))
section
variable {κ : Type} [DecidableEq κ] {α β : Type}
theorem RI (f:α→β) (k:κ) (l:List (κ×α)):getM k (l.map fun x=>(x.1,f x.2))=(getM k l).map f:=by
 induction l with
 |nil=>rfl
 |cons x l ih=>
  simp only [getM,bB,bS] at ih⊢;by_cases hx:x.1=k
  ·simp [hx]
  ·simp only [hx,decide_false] at ih⊢;exact ih
theorem Em (f:α→β) (k:κ) (a:α) (l:List (κ×α)):(bM k a l).map (fun x=>(x.1,f x.2))=bM k (f a) (l.map fun x=>(x.1,f x.2)):=by
 induction l with
 |nil=>rfl
 |cons x l ih=>
  simp only [bM,bB] at ih⊢;by_cases hx:x.1=k
  ·simp [hx]
  ·simp only [hx,if_false,bB,ih]
theorem RZ (f:α→β) (k:κ) (l:List (κ×α)):(jk k l).map (fun x=>(x.1,f x.2))=jk k (l.map fun x=>(x.1,f x.2)):=by
 unfold jk;rw [List.filter_map];rfl
theorem abY (f:α→β) (k:κ) (a:α) {l:List (κ×α)} (h: ∀x∈l,x.1=k→f x.2=f a) (hk:(getM k l).isSome=true):(bM k a l).map (fun x=>(x.1,f x.2))=l.map fun x=>(x.1,f x.2):=by
 induction l with
 |nil=>cases hk
 |cons x l ih=>
  simp only [bM];by_cases hx:x.1=k
  ·simp [hx,h x (by simp) hx]
  ·simp only [hx,if_false,bB];rw [ih (fun y hy=>h y (by simp [hy])) (by simpa [getM,bS,hx] using hk)]
theorem O3 (k:κ) (a:α) (l:List (κ×α)):(bM k a l).map (·.1)=if(getM k l).isSome then l.map (·.1)else l.map (·.1)++[k]:=by
 induction l with
 |nil=>rfl
 |cons x l ih=>
  simp only [bM];by_cases hx:x.1=k
  ·simp [hx,getM]
  ·have e:getM k (x::l)=getM k l:=by simp [getM,bS,hx]
   rw [if_neg hx,e,bB,ih];split<;>simp
theorem getM_none {k:κ} {l:List (κ×α)} :getM k l=none↔k ∉ l.map (·.1):=by
 induction l with
 |nil=>simp [getM]
 |cons x l ih=>
  by_cases hx:x.1=k
  ·simp [getM,hx]
  ·have e:getM k (x::l)=getM k l:=by simp [getM,bS,hx]
   rw [e,ih];simp [Ne.symm (hx:x.1≠k),eq_comm,hx]
theorem WJ {k:κ} {a:α} {l:List (κ×α)} (h:(l.map (·.1)).Nodup):((bM k a l).map (·.1)).Nodup:=by
 rw [O3];split
 ·exact h
 ·rename_i hn;have j3:getM k l=none:=by cases hg:getM k l with|none=>rfl|some a=>simp [hg] at hn
  rw [List.nodup_append];refine⟨h,by simp,fun a ha b hb e=>?_⟩;simp only [en] at hb;subst hb;subst e;exact getM_none.1 j3 ha
theorem lC {k:κ} {a:α} {l:List (κ×α)} :getM k (bM k a l)=some a:=by
 induction l with
 |nil=>simp [bM,getM]
 |cons x l ih=>
  simp only [bM];by_cases hx:x.1=k
  ·simp [hx,getM]
  ·rw [if_neg hx];simpa [getM,bS,hx] using ih
theorem lY {k j:κ} {a:α} {l:List (κ×α)} (hj:j≠k):getM j (bM k a l)=getM j l:=by
 induction l with
 |nil=>simp [bM,getM,Ne.symm hj]
 |cons x l ih=>
  simp only [bM];by_cases hx:x.1=k
  ·rw [if_pos hx];simp [getM,bS,Ne.symm hj,hx]
  ·rw [if_neg hx];by_cases hxj:x.1=j
   ·simp [getM,hxj]
   ·simpa [getM,bS,hxj] using ih
theorem PF {R:κ×α→κ×α→Prop} {k:κ} {a:α} {l:List (κ×α)} (hn:(l.map (·.1)).Nodup) (hp:l.Pairwise R) (h: ∀y∈l,y.1≠k→R (k,a) y∧R y (k,a)):(bM k a l).Pairwise R:=by
 induction l with
 |nil=>simp [bM]
 |cons x l ih=>
  have j3:=List.nodup_cons.1 hn;have hp':=List.pairwise_cons.1 hp;simp only [bM];by_cases hx:x.1=k
  ·rw [if_pos hx,jJ];refine⟨fun y hy=>(h y (by simp [hy]) fun e=>j3.1 (List.mem_map.2 ⟨y,hy,e.trans hx.symm⟩)).1,hp'.2⟩
  ·rw [if_neg hx,jJ];refine⟨fun y hy=>?_,ih j3.2 hp'.2 fun y hy=>h y (by simp [hy])⟩;rcases fc j3.2 hy with rfl|⟨hy,_⟩
   ·exact(h x (by simp) hx).2
   ·exact hp'.1 y hy
def qU (f:α→Nat) (l:List (κ×α)):Nat:=(l.map fun x=>f x.2).sum
theorem abZ {f:α→Nat} {k:κ} {a b:α} {l:List (κ×α)} (h:getM k l=some b):qU f (bM k a l)+f b=qU f l+f a:=by
 induction l with
 |nil=>cases h
 |cons x l ih=>
  simp only [bM];by_cases hx:x.1=k
  ·have:x.2=b:=by simpa [getM,hx] using h
   rw [if_pos hx];simp only [qU,bB,fS,this];omega
  ·rw [if_neg hx];have:=ih (by simpa [getM,bS,hx] using h);simp only [qU,bB,fS] at this⊢;omega
theorem R2 {f:α→Nat} {k:κ} {a:α} {l:List (κ×α)} (h:getM k l=none):qU f (bM k a l)=qU f l+f a:=by
 induction l with
 |nil=>simp [bM,qU]
 |cons x l ih=>
  simp only [bM];by_cases hx:x.1=k
  ·simp [getM,hx] at h
  ·rw [if_neg hx];have:=ih (by simpa [getM,bS,hx] using h);simp only [qU,bB,fS] at this⊢;omega
theorem ab0 {f:α→Nat} {k:κ} {b:α} {l:List (κ×α)} (h:getM k l=some b):f b≤qU f l:=by
 induction l with
 |nil=>cases h
 |cons x l ih=>
  by_cases hx:x.1=k
  ·have:x.2=b:=by simpa [getM,hx] using h
   simp only [qU,bB,fS,this];omega
  ·have:=ih (by simpa [getM,bS,hx] using h);simp only [qU,bB,fS] at this⊢;omega
theorem aa0 {f:α→Nat} {k:κ} {b:α} {l:List (κ×α)} (hn:(l.map (·.1)).Nodup) (h:getM k l=some b):qU f (jk k l)+f b=qU f l:=by
 induction l with
 |nil=>cases h
 |cons x l ih=>
  have j3:=List.nodup_cons.1 hn;unfold jk at ih⊢;by_cases hx:x.1=k
  ·have:x.2=b:=by simpa [getM,hx] using h
   have e:l.filter (fun y=>decide (y.1≠k))=l:=List.filter_eq_self.2 fun y hy=>by
    have:y.1≠k:=fun e=>j3.1 (List.mem_map.2 ⟨y,hy,e.trans hx.symm⟩);simpa using this
   rw [List.filter_cons_of_neg (by simp [hx]),e];simp only [qU,bB,fS,this];omega
  ·rw [List.filter_cons_of_pos (by simpa using hx)];have:=ih j3.2 (by simpa [getM,bS,hx] using h);simp only [qU,bB,fS] at this⊢;omega
end
structure DM where
 fs:List (ByteArray×(List Nat×Nat))
 wr:Int
 ar:Nat
 dn:Bool
def DM.sz (m:DM):Nat:=qU (fun x=>x.1.length) m.fs
def DM.get (m:DM) (n:ByteArray):Option (List Nat×Nat):=getM n m.fs
def DM.put (m:DM) (n:ByteArray) (bs:List Nat) (s:Nat):DM:= { m with fs:=bM n (bs,s) m.fs }
def DM.del (m:DM) (n:ByteArray):DM:= { m with fs:=jk n m.fs }
def DM.tick (m:DM):DM:=if m.ar=1 then { m with ar:=0,dn:=true } else { m with ar:=m.ar-1,wr:=IntKind.i64.wrap (m.wr+1) }
def DM.write (m:DM) (e:Nat) (f:DM→DM):DM×Nat:=if m.dn then(m,12)else if e≠0 then(m,e)else if m.tick.dn then(m.tick,12)else(f m.tick,0)
def Ba (n:ByteArray):Bool:=decide (1≤n.size∧n.size≤20)
def DM.create (m:DM) (n:ByteArray):DM×Nat:=m.write (if¬Ba n then 10 else if(m.get n).isSome then 9 else if 64≤m.fs.length then 3 else 0) fun m=>m.put n [] 0
def DM.append (m:DM) (n:ByteArray) (b:List Nat):DM×Nat:=
 if m.dn then(m,12)else match m.get n with
 |none=>(m,8)
 |some (bs,s)=>if 4194304-m.sz<b.length then(m,11)else(m.tick.put n (bs++b) s,if m.tick.dn then 12 else 0)
def DM.B0 (n:ByteArray) (m:DM):DM:=match m.get n with
 |none=>m
 |some x=>m.put n x.1 x.1.length
def DM.sync (m:DM) (n:ByteArray):DM×Nat:=m.write (if(m.get n).isSome then 0 else 8) (DM.B0 n)
theorem DM.Ay (m:DM):m.tick.fs=m.fs:=by unfold DM.tick;split<;>rfl
theorem DM.yc (m:DM) (n:ByteArray):m.tick.get n=m.get n:=by unfold DM.get;rw [m.Ay]
theorem DM.VH (m:DM):m.tick.sz=m.sz:=by unfold DM.sz;rw [m.Ay]
theorem DM.aae {m:DM} {n:ByteArray} {b bs:List Nat} {s s':Nat} (h:m.get n=some (b,s)):(m.put n bs s').sz+b.length=m.sz+bs.length:=abZ (f:=fun x:List Nat×Nat=>x.1.length) h
theorem DM.VG {m:DM} {n:ByteArray} {bs:List Nat} {s':Nat} (h:m.get n=none):(m.put n bs s').sz=m.sz+bs.length:=R2 (f:=fun x:List Nat×Nat=>x.1.length) h
theorem DM.ab1 (m:DM) (n:ByteArray):(m.B0 n).sz=m.sz:=by
 unfold DM.B0;split
 ·rfl
 ·rename_i x hx;have:=DM.aae (bs:=x.1) (s':=x.1.length) hx;omega
theorem DM.adN {m:DM} {n:ByteArray} {b:List Nat} {s:Nat} (h:m.get n=some (b,s)):b.length≤m.sz:=ab0 (f:=fun x:List Nat×Nat=>x.1.length) h
structure jS where
 b:Nat
 v:Value
 bs:List Nat
 safe:Nat
def jS.er (f:jS):List Nat×Nat:=(f.bs,f.safe)
def G4:World→XS→Value→jS→Prop:=fun _ _ v f=>v=ptr f.b 0
theorem jo:oB G4:=fun _ _ _ _ _ _ h _=>h
def apart (x y:ByteArray×jS):Prop:=x.2.b≠y.2.b∧ ∀g,x.2.v.ownBlock=some g→y.2.v.ownBlock≠some g
structure lI (w:World) (F:XS) (db mb:Nat) (l:List (ByteArray×jS)) (m:DM) (z:Nat):Prop where
 fs:m.fs=l.map fun x=>(x.1,x.2.er)
 box:bI w F db [.map (some mb),I z,I m.wr,I m.ar,B m.dn] 79
 map:fy w F nX mb dm G4 l
 row: ∀x∈l,bI w F x.2.b [x.2.v,I x.2.safe] 193
 ow: ∀x∈l,Ow w F 5 1 x.2.v (x.2.bs.map U1)
 ap:l.Pairwise apart
 ar:m.ar<2^63
 safe: ∀x∈l,x.2.safe≤x.2.bs.length
def Dk (w:World) (F:XS) (db:Nat) (m:DM):Prop:= ∃mb l,lI w F db mb l m m.sz∧m.sz≤4194304
section
variable {w w' : World} {F F' X X' G A : XS} {db mb z z' : Nat} {l : List (ByteArray × jS)} {m m' : DM} {n : ByteArray} {f : jS}
theorem lI.mv (h:lI w F db mb l m z) (v:Mv F w F' w'):lI w' F' db mb l m z:=
 ⟨h.fs,h.box.mv v,h.map.mv jo v (fun _ h=>h.elim),fun x hx=>(h.row x hx).mv v,fun x hx=>(h.ow x hx).mv v,h.ap,h.ar,h.safe⟩
theorem Dk.mv (h:Dk w F db m) (v:Mv F w F' w'):Dk w' F' db m:=let⟨mb,l,h,hz⟩:=h;⟨mb,l,h.mv v,hz⟩
theorem Dk.mono (h:Dk w F db m) (hs: ∀k,F k→F' k):Dk w F' db m:=h.mv (Mv.sub hs)
theorem lI.get (h:lI w F db mb l m z) (n:ByteArray):m.get n=(getM n l).map jS.er:=by
 unfold DM.get;rw [h.fs];exact RI jS.er n l
theorem lI.nodup (h:lI w F db mb l m z):(l.map (·.1)).Nodup:=h.map.nodup
theorem lI.len (h:lI w F db mb l m z):m.fs.length=l.length:=by rw [h.fs,ay]
theorem lI.afF (h:lI w F db mb l m z) (hX: ∀k,F k→X k) (c:ef (· =db) X w X' w') (hr:bI w' X' db [.map (some mb),I z',I m'.wr,I m'.ar,B m'.dn] 79) (LC:m'.fs=m.fs) (har:m'.ar<2^63):lI w' F db mb l m' z':=by
 have mv: ∀{A:XS},(∀k,A k→F k∧k≠db)→Mv A w F w':=fun hA k hk _=>⟨(hA k hk).1,c.block k (hX k (hA k hk).1) (hA k hk).2⟩;refine⟨LC.trans h.fs,⟨h.box.1,hr.2⟩,?_,fun x hx=>?_,fun x hx=>?_,h.ap,har,h.safe⟩
 ·exact h.map.own.mv jo (mv fun k hk=>by subst hk;exact⟨h.map.x.1,h.map.gd h.box⟩) fun _ h=>h.elim
 ·exact(h.row x hx).own.mv (mv fun k hk=>by subst hk;exact⟨(h.row x hx).1,(h.row x hx).gd h.box kQ⟩)
 ·exact(h.ow x hx).tight.mv (mv fun k hk=>⟨((h.ow x hx).bg hk).1,fun e=>(h.ow x hx).gd h.box kQ (e▸hk)⟩)
theorem aco {α:Type} {R:α→α→Prop} (hs: ∀a b,R a b→R b a) {l:List α} (h:l.Pairwise R) {x y:α} (hx:x∈l) (hy:y∈l) (bW:x≠y):R x y:=by
 induction l with
 |nil=>cases hx
 |cons a l ih=>
  have h':=List.pairwise_cons.1 h;rcases List.mem_cons.1 hx with e1|h1
  ·rcases List.mem_cons.1 hy with e2|h2
   ·exact absurd (e1.trans e2.symm) bW
   ·rw [e1];exact h'.1 y h2
  ·rcases List.mem_cons.1 hy with e2|h2
   ·rw [e2];exact hs _ _ (h'.1 x h1)
   ·exact ih h'.2 h1 h2
theorem Aj: ∀a b:ByteArray×jS,apart a b→apart b a:=fun a b h=>⟨Ne.symm h.1,fun g hg gl=>h.2 g gl hg⟩
theorem lI.far (h:lI w F db mb l m z) (hn:getM n l=some f) {y:ByteArray×jS} (hy:y∈l) (bW:y.1≠n):apart (n,f) y:=
 aco Aj h.ap (kR hn) hy fun e=>bW (by rw [←e])
theorem jq.ids {A:XS} : ∀{es:List (iq ByteArray)} {l l':List (ByteArray×jS)},jq w A G4 es l→l'.map (fun x=>(x.1,x.2.b))=l.map (fun x=>(x.1,x.2.b))→jq w A G4 es l'
 |[],[],[],_,_=>trivial
 |[],[],_::_,_,h=>by cases h
 |e::es,x::l,[],_,h=>by cases h
 |e::es,x::l,y::l',⟨h1,h2,h3⟩,h=>by
  simp only [bB,List.cons.injEq,Prod.mk.injEq] at h;exact⟨h1.trans h.1.1.symm,by unfold G4 at h2⊢;rw [h2,h.1.2],jq.ids h3 h.2⟩
 |[],_::_,_,h,_=>h.elim
 |_::_,[],_,h,_=>h.elim
theorem lI.lE (h:lI w F db mb l m z) (hX: ∀k,F k→X k∧k<w.heap.size) (c:ef G X w X' w') (hn:getM n l=some f) (hG: ∀k,G k→k=f.b∨f.v.ownBlock=some k) (hFF: ∀k,F k→F' k)
  {v':Value} {TZ:List Nat} {s':Nat} (hr:bI w' F' f.b [v',I s'] 193) (ho:Ow w' F' 5 1 v' (TZ.map U1)) (fm:v'.ownBlock=f.v.ownBlock∨ ∃g,v'.ownBlock=some g∧w.heap.size≤g) (hs:s'≤TZ.length):
  lI w' F' db mb (bM n ⟨f.b,v',TZ,s'⟩ l) (m.put n TZ s') z:=by
 have hf:=kR hn;have rf:=h.row _ hf;have of:=h.ow _ hf;have mv: ∀{A:XS},(∀k,A k→F k∧k≠f.b∧f.v.ownBlock≠some k)→Mv A w F' w':=fun hA k hk _=>by
  obtain⟨a1,a2,a3⟩:=hA k hk;exact⟨hFF k a1,c.block k (hX k a1).1 fun hg=>(hG k hg).elim a2 a3⟩
 refine⟨?_,?_,?_,fun x hx=>?_,fun x hx=>?_,?_,h.ar,fun x hx=>?_⟩
 ·show bM n (TZ,s') m.fs=_
  rw [h.fs,Em jS.er];rfl
 ·exact h.box.own.mv (mv fun k hk=>by subst hk;exact⟨h.box.1,(rf.gd h.box kQ).symm,of.gd h.box kQ⟩)
 ·obtain⟨es,c',h1,h2⟩:=h.map.own.mv jo (mv fun k hk=>by subst hk;exact⟨h.map.x.1,h.map.gd rf,h.map.M4 of⟩) (A':=nX) fun _ h=>h.elim;refine⟨es,c',h1,jq.ids h2 (abY jS.b n ⟨f.b,v',TZ,s'⟩ (fun x hx e=>?_) (by rw [hn];rfl))⟩;have:getM n l=some x.2:=mR h.nodup (by rw [←e];exact hx);rw [hn] at this;rw [←nR this]
 ·rcases fc h.nodup hx with rfl|⟨hx,bW⟩
  ·exact hr
  ·have ha:=h.far hn hx bW;exact(h.row x hx).own.mv (mv fun k hk=>by subst hk;exact⟨(h.row x hx).1,ha.1.symm,of.gd (h.row x hx) kQ⟩)
 ·rcases fc h.nodup hx with rfl|⟨hx,bW⟩
  ·exact ho
  ·have ha:=h.far hn hx bW;exact(h.ow x hx).tight.mv (mv fun k hk=>⟨((h.ow x hx).bg hk).1,fun e=>(h.ow x hx).gd rf kQ (e▸hk),fun e=>ha.2 k e hk⟩)
 ·refine PF h.nodup h.ap fun y hy bW=>?_;have ha:=h.far hn hy bW;have key:apart (n,⟨f.b,v',TZ,s'⟩) y:=⟨ha.1,fun g hg gl=>by
   rcases fm with e|⟨g',e,dU⟩
   ·exact ha.2 g (e▸hg) gl
   ·have:=(hX g ((h.ow y hy).bg gl).1).2;have:g'=g:=by
     have e2:v'.ownBlock=some g:=hg;rw [e] at e2;exact nR e2
    omega⟩
  exact⟨key,Aj _ _ key⟩
 ·rcases fc h.nodup hx with rfl|⟨hx,bW⟩
  ·exact hs
  ·exact h.safe x hx
theorem lI.new (h:lI w F db mb l m z) (hX: ∀k,F k→X k∧k<w.heap.size) (c:ef G X w X' w') (hn:getM n l=none) (hG: ∀k,G k→k=mb) (hFF: ∀k,F k→F' k) {b:Nat} (hb:w.heap.size≤b)
  (hm:fy w' F' nX mb dm G4 (bM n ⟨b,.slice none 0 0,[],0⟩ l)) (hr:bI w' F' b [.slice none 0 0,I (0:Nat)] 193):
  lI w' F' db mb (bM n ⟨b,.slice none 0 0,[],0⟩ l) (m.put n [] 0) z:=by
 have mv: ∀{A:XS},(∀k,A k→F k∧k≠mb)→Mv A w F' w':=fun hA k hk _=>by
  obtain⟨a1,a2⟩:=hA k hk;exact⟨hFF k a1,c.block k (hX k a1).1 fun hg=>a2 (hG k hg)⟩
 refine⟨?_,?_,hm,fun x hx=>?_,fun x hx=>?_,?_,h.ar,fun x hx=>?_⟩
 ·show bM n ([],0) m.fs=_
  rw [h.fs,Em jS.er];rfl
 ·exact h.box.own.mv (mv fun k hk=>by subst hk;exact⟨h.box.1,(h.map.gd h.box).symm⟩)
 ·rcases fc h.nodup hx with rfl|⟨hx,bW⟩
  ·exact hr
  ·exact(h.row x hx).own.mv (mv fun k hk=>by subst hk;exact⟨(h.row x hx).1,(h.map.gd (h.row x hx)).symm⟩)
 ·rcases fc h.nodup hx with rfl|⟨hx,bW⟩
  ·exact Ow.nil _ _ _ _
  ·exact(h.ow x hx).tight.mv (mv fun k hk=>⟨((h.ow x hx).bg hk).1,fun e=>h.map.M4 (h.ow x hx) (e▸hk)⟩)
 ·refine PF h.nodup h.ap fun y hy bW=>?_;have key:apart (n,⟨b,.slice none 0 0,[],0⟩) y:=⟨fun e=>by
   have:=(hX _ (h.row y hy).1).2;have e':b=y.2.b:=e;omega,fun g hg=>by cases hg⟩
  exact⟨key,Aj _ _ key⟩
 ·rcases fc h.nodup hx with rfl|⟨hx,bW⟩
  ·exact Nat.le_refl _
  ·exact h.safe x hx
theorem lI.less (h:lI w F db mb l m z) (hX: ∀k,F k→X k) (c:ef (· =mb) X w X' w') (hm:fy w' X' nX mb dm G4 (jk n l)):lI w' F db mb (jk n l) (m.del n) z:=by
 have mv: ∀{A:XS},(∀k,A k→F k∧k≠mb)→Mv A w F w':=fun hA k hk _=>⟨(hA k hk).1,c.block k (hX k (hA k hk).1) (hA k hk).2⟩;have lx: ∀x∈jk n l,x∈l:=fun x hx=>(List.mem_filter.1 hx).1;refine⟨?_,?_,?_,fun x hx=>?_,fun x hx=>?_,h.ap.filter _,h.ar,fun x hx=>h.safe x (lx x hx)⟩
 ·show jk n m.fs=_
  rw [h.fs,RZ jS.er]
 ·exact h.box.own.mv (mv fun k hk=>by subst hk;exact⟨h.box.1,(h.map.gd h.box).symm⟩)
 ·obtain⟨es,c',h1,h2⟩:=hm;exact⟨es,c',⟨h.map.x.1,h1.2⟩,h2⟩
 ·exact(h.row x (lx x hx)).own.mv (mv fun k hk=>by subst hk;exact⟨(h.row x (lx x hx)).1,(h.map.gd (h.row x (lx x hx))).symm⟩)
 ·exact(h.ow x (lx x hx)).tight.mv (mv fun k hk=>⟨((h.ow x (lx x hx)).bg hk).1,fun e=>h.map.M4 (h.ow x (lx x hx)) (e▸hk)⟩)
end
def FX (F X:XS) (w:World):Prop:= ∀k,F k→X k∧k<w.heap.size
theorem FX.kp {F X:XS} {w wa:World} (h:FX F X w) (hk:Kp X w wa):FX F (aS wa) wa:=fun k ah=>⟨aI (h k ah).2 hk.size,aI (h k ah).2 hk.size⟩
theorem FX.mv {F X:XS} {w wa:World} (h:FX F X w) (hk:Kp X w wa):Mv F w F wa:=fun k ah _=>⟨ah,hk.block k (h k ah).1⟩
theorem FX.ft {F X:XS} {w wa:World} (h:FX F X w) (hk:Kp X w wa):Ft wa F wa (aS wa) F:=Ft.init fun k ah=>(h.kp hk k ah).1
theorem _root_.Go.bu.Ft.fx {w0 w:World} {F0 F G X:XS} (h:Ft w0 F0 w X F) (hG: ∀k,G k→F k):FX G X w:=fun k hk=>⟨h.bg k (hG k hk),h.s.has k (h.bg k (hG k hk))⟩
section
variable {P : Program} {R : Ending → World → Prop} {w w0 : World} {X F F0 G : XS} {db mb z : Nat} {l : List (ByteArray × jS)} {m : DM}
theorem afG {κ α:Type} [DecidableEq κ] {A:XS} {t ty kt et b:Nat} {kv:κ→Value} {rd:World→XS→Value→α→Prop} {l:List (κ×α)} {N:Value→Prop} (h:fy w X A b kv rd l) (ht:P.underlying t=some (.map kt et))
  (n:N (I l.length)):ad P X w (eT #[t] ty #[.map (some b)]) N:=by
 obtain⟨es,c,h1,h2⟩:=h;refine AT (I l.length) (fun wa hk=>?_) n;have hb:=(h1.kp hk).2.1;have hl:es.length=l.length:=by have:=congrArg List.length h2.keys;simpa using this
 simp [eT,run_underlying ht,getObj,Sem.run,hb,goInt,hl]
theorem af0 {t ty:TypeId} {a b:Int} {N:Value→Prop} (h:N (I (max a b))):ad P X w (BJ #[t,t] ty #[I a,I b]) N:=
 cx (fun wa=>by
  simp only [BJ,List.foldlM];by_cases hc:a<b
  ·have:max a b=b:=by omega
   simp [BK,hc,this]
  ·have:max a b=a:=by omega
   simp [BK,hc,this]) h
theorem aaf {t:TypeId} {a b:Int} {N:Value→Prop} (h:N (.int .i64 (IntKind.i64.wrap (a+b)))):ad P X w (binOp .add t (.int .i64 a) (.int .i64 b)) N:=mn h
theorem D3 {N:Value→World→XS→Prop} {t o o':Nat} {v:Value} (hT:Ft w0 F0 w X F) (h:lI w G db mb l m z) (hG: ∀k,G k→F k) (m':DM) (z':Nat) (SK:o'=o) (ht:((P.info? t).map (·.size))=some 1) (ho:o+1≤5) (h1:bu.one v=true)
  (hc:cz [.map (some mb),I z,I m.wr,I m.ar,B m.dn] o [v]=[.map (some mb),I z',I m'.wr,I m'.ar,B m'.dn]) (LC:m'.fs=m.fs) (har:m'.ar<2^63)
  (n: ∀w' X',Ft w0 F0 w' X' F→lI w' G db mb l m' z'→ef (· =db) X w X' w'→N undef w' X'):eU P R X w true (st1 t 1 (ptr db o') v) N:=by
 subst SK;have hX: ∀k,G k→X k:=fun k hk=>hT.bg k (hG k hk);have hv:v.cells= #[v]:=uM h1;refine qh (h.box.mv (Mv.sub hX)) ht ho (by rw [hv];rfl) (by rw [hv];simp [h1]) hT.s.has fun w' X' c hr=>?_;rw [hv] at hr;rw [hc] at hr;exact n w' X' (hT.dF c (fun k hk=>by subst hk;exact hG _ h.box.1) fun k hk=>.inl hk) (h.afF hX c hr LC har) c
end
theorem pX {w:World} {X:XS} {mb:Nat} {l:List (ByteArray×jS)} {n:ByteArray} {N:Value→Prop} (hm:fy w X nX mb dm G4 l) (n1: ∀f,getM n l=some f→N (ptr f.b 0)) (n0:getM n l=none→N (.pointer none)):
  ad pg X w (Instr.lookup 77 (.map (some mb)) (.string n) false) N:=
 mP (kt:=9) (et:=191) (.pointer none) hm (wi kQ) kQ kQ (fun v f h1 h2=>by
  have h2:v=ptr f.b 0:=h2;subst h2;exact n1 f h1) n0
theorem Kv {w:World} {X F:XS} {db mb z:Nat} {l:List (ByteArray×jS)} {m:DM} (h:lI w F db mb l m z) (hF:FX F X w) (jI:m.dn=false):
  Ct pg 147 #[ptr db 0] w X F fun v wa w'=>v=B m.tick.dn∧lI w' F db mb l m.tick z:=by
 intro w0 hk;have h0:=h.mv (hF.mv hk);have hT:=hF.ft hk;clear h;have har:=h0.ar;apply Jo;unfold zW;have hb:=h0.box.mv (Mv.sub hT.bg);rw [jI] at hb;have LU: ∀k,F k→F k:=fun _ h=>h;refine dG ?_;repeat' first|refine aD ?_;intros|refine dD ?_ ?_<;>intros|with_reducible apply dG
 ·refine D3 hT h0 LU { m with ar:=m.ar-1 } z (o:=3) zQ kQ zQ rfl (by rw [show((m.ar-1:Nat):Int)=(m.ar:Int)-1 by omega];rfl) rfl (by show m.ar-1<_;omega) fun w1 X1 hT h1 c1=>?_;clear hb h0;have hb:=h1.box.mv (Mv.sub hT.bg);repeat' first|refine aD ?_;intros|refine dD ?_ ?_<;>intros
  ·refine D3 hT h1 LU { m with ar:=m.ar-1,dn:=true } z (o:=4) zQ kQ zQ rfl rfl rfl h1.ar fun w1 X1 hT h2 c1=>?_;clear hb h1;have hb:=h2.box.mv (Mv.sub hT.bg);have q':((m.ar-1:Nat):Int)=0:=by assumption
   have J0:m.ar=1:=by omega
   repeat' first|refine aD ?_;intros|with_reducible apply dG
   refine hT.fin fun wa bC=>⟨by rw [DM.tick,if_pos J0],?_⟩;rw [DM.tick,if_pos J0];rw [show m.ar-1=0 by omega] at h2;exact h2.mv (bC.j6 hT.bg)
  ·refine D3 hT h1 LU { m with ar:=m.ar-1,dn:=false } z (o:=4) zQ kQ zQ rfl rfl rfl h1.ar fun w1 X1 hT h2 c1=>?_;clear hb h1;have hb:=h2.box.mv (Mv.sub hT.bg);have q': ¬((m.ar-1:Nat):Int)=0:=by assumption
   have J0: ¬m.ar=1:=by omega
   repeat' first|refine aD ?_;intros|with_reducible apply dG|(with_reducible apply aaf)
   refine D3 hT h2 LU { m with ar:=m.ar-1,dn:=false,wr:=IntKind.i64.wrap (m.wr+1) } z (o:=2) zQ kQ zQ rfl rfl rfl h2.ar fun w1 X1 hT h3 c1=>?_;clear hb h2;have hb:=h3.box.mv (Mv.sub hT.bg);repeat' first|refine aD ?_;intros
   refine hT.fin fun wa bC=>⟨by rw [DM.tick,if_neg J0,jI],?_⟩;rw [DM.tick,if_neg J0];have h4:=h3.mv (bC.j6 hT.bg);rw [←jI] at h4;exact h4
 ·have J0: ¬m.ar=1:=by omega
  have ha0:m.ar-1=m.ar:=by omega
  repeat' first|refine aD ?_;intros|(with_reducible apply aaf)
  refine D3 hT h0 LU { m with wr:=IntKind.i64.wrap (m.wr+1) } z (o:=2) zQ kQ zQ rfl rfl rfl h0.ar fun w1 X1 hT h3 c1=>?_;clear hb h0;have hb:=h3.box.mv (Mv.sub hT.bg);rw [jI] at hb;repeat' first|refine aD ?_;intros
  refine hT.fin fun wa bC=>⟨by rw [DM.tick,if_neg J0,jI],?_⟩;rw [DM.tick,if_neg J0,ha0];exact h3.mv (bC.j6 hT.bg)
theorem JQ (n:ByteArray):Pure pg 144 #[.string n] (B (Ba n)):=by
 intro w0;apply Te;unfold Hu;have hs:=ak.init w0;repeat' first|refine aD ?_;intros|refine dD ?_ ?_<;>intros|(with_reducible refine fA hs ?_);(simp_all [Ba]<;>omega)
theorem Md {w:World} {X:XS} :Ct pg 6 #[] w X nX fun v wa w'=> ∃db,v=ptr db 0∧Dk w' (made wa w') db ⟨[],0,0,false⟩:=by
 intro w0 hk;apply UE;unfold Kc;have hs:=ak.init w0;refine sf (kv:=dm) G4 nX hs.has fun mb w1 X1 OW aq rr=>?_;replace hs:=hs.trans aq;refine Xl kQ ?_;refine ns hs.has fun bx w2 X2 eX dI bE=>?_;have oC:=rr.mv jo dI.mv (fun _ h=>h.elim) (A':=nX);have hz:=hs.kp.size;refine ai (hs.trans dI) fun wa bC=>⟨bx,rfl,mb,[],⟨rfl,⟨⟨by omega,(bE.kp bC).lt⟩,(bE.kp bC).2⟩,?_,by simp,by simp,List.Pairwise.nil,by decide,by simp⟩,by decide⟩;exact oC.own.mv jo (Mv.one bC oC.x.1 ⟨OW,aI oC.x.2 bC.size⟩) fun _ h=>h.elim
theorem JR {w:World} {X F:XS} {db:Nat} {m:DM} (h:Dk w F db m) (hF:FX F X w):Ct pg 24 #[ptr db 0] w X nX fun v wa w'=>v=B m.dn:=by
 intro w0 hk;obtain⟨mb,l,h0,hz⟩:=h.mv (hF.mv hk);have hb:=h0.box.mv (Mv.sub fun k ah=>(hF.kp hk k ah).1);apply Jh;unfold zO;have hs:=ak.init w0;repeat' first|refine aD ?_;intros|((first|(with_reducible refine ai hs ?_)|(with_reducible refine ai (bF.trans hs) ?_));intro wa hk;rfl)
theorem Ma {w:World} {X F:XS} {db:Nat} {m:DM} {n:ByteArray} (h:Dk w F db m) (hF:FX F X w):Ct pg 141 #[ptr db 0,.string n] w X nX fun v wa w'=>v=I (if(m.get n).isSome then 0 else 8):=by
 intro w0 hk;obtain⟨mb,l,h0,hz⟩:=h.mv (hF.mv hk);have hX:=fun k ah=>(hF.kp hk k ah).1;have hb:=h0.box.mv (Mv.sub hX);have hg:=h0.get n;have hm:=h0.map.mv jo (Mv.sub hX) (A':=nX) fun _ h=>h.elim;apply Lh;unfold Bz;have hs:=ak.init w0;repeat' first|refine aD ?_;intros
 refine pX hm (fun f h1=>?_) fun h1=>?_
 ·repeat' first|refine aD ?_;intros|((first|(with_reducible refine ai hs ?_)|(with_reducible refine ai (bF.trans hs) ?_));intro wa hk;(rw [hg,h1];rfl))
 ·repeat' first|refine aD ?_;intros|((first|(with_reducible refine ai hs ?_)|(with_reducible refine ai (bF.trans hs) ?_));intro wa hk;(rw [hg,h1];rfl))
theorem Bb {w:World} {X F A:XS} {db f:Nat} {c:List Value} {m:DM} {e:Nat} {g:DM→DM} (h:Dk w F db m) (hF:FX F X w) (hA: ∀k,A k→X k∧k<w.heap.size∧ ¬F k) (hf:enters pg f=true)
  (hdo:e=0→ ∀w1 X1,Mv A w A w1→(∀k,A k→X1 k)→FX F X1 w1→Dk w1 F db m.tick→Ct pg f c.toArray w1 X1 F fun v wa w'=>v= .tuple #[]∧ ∃F',(∀k,F' k→F k∨made wa w' k)∧Dk w' F' db (g m.tick)):
  Ct pg 140 #[ptr db 0,I e,.func (.func f) #[] c.toArray] w X F fun v wa w'=>v=I (m.write e g).2∧ ∃F',(∀k,F' k→F k∨made wa w' k)∧Dk w' F' db (m.write e g).1:=by
 intro w0 hk;obtain⟨mb,l,h0,hz⟩:=h.mv (hF.mv hk);have hT:=hF.ft hk;have lF:FX F (aS w0) w0:=hF.kp hk;have hAm:Mv A w A w0:=fun k ah _=>⟨ah,hk.block k (hA k ah).1⟩;have hb:=h0.box.mv (Mv.sub hT.bg);have hs:=ak.init w0;have stay: ∀{w1 X1} (m':DM),Ft w0 F w1 X1 F→lI w1 F db mb l m' m'.sz→m'.sz≤4194304→ ∀wa,Kp X1 w1 wa→ ∃F',(∀k,F' k→F k∨made w0 wa k)∧Dk wa F' db m':=fun m' hT h1 hz wa bC=>⟨F,hT.nV bC fun _ h=>h,mb,l,h1.mv (bC.j6 hT.bg),hz⟩;have htz:m.tick.sz=m.sz:=by unfold DM.tick DM.sz;split<;>rfl
 apply HP;unfold y7;cases jI:m.dn
 ·rw [jI] at hb;repeat' first|refine aD ?_;intros|refine dD ?_ ?_<;>intros
  ·have he:e≠0:=by omega
   refine hT.fin fun wa bC=>⟨?_,?_⟩
   ·simp [DM.write,jI,he]
   ·simp only [DM.write,jI,he,bh,if_false,ne_eq,not_false_eq_true,if_true];exact stay m hT h0 hz wa bC
  ·have he:e=0:=by omega
   refine hT.call (Kv h0 lF jI) kQ (fun _ h=>h) fun v wa w2 X2 hq hle eD b8 hc=>?_;obtain⟨rfl,h2⟩:=hq;replace b8:Ft w0 F w2 X2 F:=b8.less fun k hk=>.inl hk;rw [←htz] at h2;cases ht:m.tick.dn
   ·repeat' first|refine aD ?_;intros
    refine b8.call (hdo he w2 X2 (hAm.trans (hc.j6 fun k ah=>⟨aI (hA k ah).2.1 hk.size,(hA k ah).2.2⟩)) (fun k ah=>hc.sub k (aI (hA k ah).2.1 hk.size)) (b8.fx fun _ h=>h) ⟨mb,l,h2,htz▸hz⟩) hf (fun _ h=>h) fun v AU w3 X3 Vv x6 tv dz lK=>?_;obtain⟨rfl,F',tP,hD⟩:=Vv;refine dz.fin fun Q8 bC=>⟨?_,F',dz.nV bC tP,?_⟩
    ·simp [DM.write,jI,he,ht]
    ·simp only [DM.write,jI,he,ht,bh,if_false,ne_eq,not_true_eq_false];exact hD.mv (bC.j6 fun k ah=>dz.bg k (tP k ah))
   ·repeat' first|refine aD ?_;intros
    refine b8.fin fun wa bC=>⟨?_,?_⟩
    ·simp [DM.write,jI,he,ht]
    ·simp only [DM.write,jI,he,ht,bh,if_false,ne_eq,not_true_eq_false,if_true];exact stay _ b8 h2 (htz▸hz) wa bC
 ·rw [jI] at hb;repeat' first|refine aD ?_;intros
  refine hT.fin fun wa bC=>⟨?_,?_⟩
  ·simp [DM.write,jI]
  ·simp only [DM.write,jI,if_true];exact stay m hT h0 hz wa bC
section
variable {R : Ending → World → Prop} {w w0 : World} {X F F0 G : XS} {db mb z : Nat} {l : List (ByteArray × jS)} {m : DM} {n : ByteArray} {f : jS} {N : Value → World → XS → Prop}
theorem Ya {o':Nat} {x:Int} {s':Nat} (hT:Ft w0 F0 w X F) (h:lI w G db mb l m z) (hG: ∀k,G k→F k) (hn:getM n l=some f) (ho:o'=1) (hx:x=s') (hs:s'≤f.bs.length)
  (k: ∀w' X',Ft w0 F0 w' X' F→lI w' G db mb (bM n ⟨f.b,f.v,f.bs,s'⟩ l) (m.put n f.bs s') z→N undef w' X'):eU pg R X w true (st1 3 1 (ptr f.b o') (I x)) N:=by
 subst ho;subst hx;have hX: ∀k,G k→X k:=fun k hk=>hT.bg k (hG k hk);have hr:=h.row _ (kR hn);have ho:=h.ow _ (kR hn);refine qh (hr.mv (Mv.sub hX)) kQ (by simp) rfl rfl hT.s.has fun w' X' c jm=>?_;have Vz:Ft w0 F0 w' X' F:=hT.dF c (fun k hk=>by subst hk;exact hG _ hr.1) fun k hk=>.inl hk;refine k w' X' Vz (h.lE (F':=G) (hT.fx hG) c hn (fun k hk=>.inl hk) (fun _ h=>h) ⟨hr.1,jm.2⟩ ?_ (.inl rfl) hs);exact ho.tight.mv fun k hk hl=>⟨(ho.bg hk).1,c.block k (hX k (ho.bg hk).1) fun e=>ho.gd hr kQ (by rw [←(show k=f.b from e)];exact hk)⟩
theorem aag {vs:Value} {b:List Nat} (hT:Ft w0 F0 w X F) (h:lI w G db mb l m z) (hG: ∀k,G k→F k) (hn:getM n l=some f) (src:Sl w X 1 vs (b.map U1)) (hl:f.bs.length+b.length≤2^40)
  (k: ∀w' X',Ft w0 F0 w' X' (fun k=>F k∨(X' k∧w.heap.size≤k))→(∃v',lI w' (fun k=>G k∨(X' k∧w.heap.size≤k)) db mb (bM n ⟨f.b,v',f.bs++b,f.safe⟩ l) (m.put n (f.bs++b) f.safe) z)→N undef w' X'):
  eV pg R X w true (fW 132 5 1 1 132 f.v vs) fun x w1 X1=>az pg X1 w1 (aM (ptr f.b 0)) fun p=>ad pg X1 w1 (aT 193 0 0 1 p) fun q=>eU pg R X1 w1 true (st1 132 1 q x) N:=by
 have hX: ∀k,G k→X k:=fun k hk=>hT.bg k (hG k hk);have hr:=h.row _ (kR hn);have ho:=h.ow _ (kR hn);have hsf:=h.safe _ (kR hn);have bW:f.v.ownBlock≠some f.b:=ho.gd hr kQ;refine Mq kQ hT.s.has (ho.mono hX) src (by intro r hr u hu;obtain⟨x,_,rfl⟩:=List.mem_map.1 hr;simp only [U1,en] at hu;subst hu;rfl) (by simp;omega) (by simp;omega) fun v' w1 X1 c ll fm=>?_;have vH:bI w1 X1 f.b [f.v,I f.safe] 193:=⟨c.sub _ (hX _ hr.1),by rw [c.block _ (hX _ hr.1) fun e=>bW e];exact hr.2⟩
 with_reducible apply QB
 have hfi:fieldInfo pg 193 0=some (0,1):=by kernel_rfl
 refine Ml vH.cells hfi rfl fun o' tF _=>?_;subst tF;have MM:=uM ll.one;refine qh vH kQ (by simp) (by rw [MM];rfl) (by rw [MM];simp [ll.one]) c.has fun w' X' c' jm=>?_;rw [MM] at jm;have cc:ef (fun k=>k=f.b∨f.v.ownBlock=some k) X w X' w':=(c.mono fun k _ hk=>.inr hk).trans (c'.mono fun k _ hk=>.inl hk);have aif:v'.ownBlock≠some f.b:=ll.gd vH kQ;have eD: ∀g,v'.ownBlock=some g→G g∨(X' g∧w.heap.size≤g):=fun g hg=>by
  rcases fm with e|⟨g',e,dU⟩
  ·exact .inl (ho.bg (e▸hg)).1
  ·rw [hg] at e;have:g=g':=nR e;subst this;exact .inr ⟨c'.sub _ (ll.bg hg).1,dU⟩
 have jb:Ow w' (fun k=>G k∨(X' k∧w.heap.size≤k)) 5 1 v' ((f.bs++b).map U1):=by
  rw [bo];exact ll.tight.mv fun k hk hl=>⟨eD k hk,c'.block k (ll.bg hk).1 fun e=>aif (by rw [←(show k=f.b from e)];exact hk)⟩
 refine k w' X' (hT.dF cc (fun k hk=>?_) fun k hk=>hk) ⟨v',h.lE (F':=fun k=>G k∨(X' k∧w.heap.size≤k)) (hT.fx hG) cc hn (fun k hk=>hk) (fun k hk=>.inl hk) ⟨.inl hr.1,?_⟩ jb fm (by rw [ae];have:f.safe≤f.bs.length:=hsf;omega)⟩
 ·rcases hk with rfl|hk
  ·exact hG _ hr.1
  ·exact hG _ (ho.bg hk).1
 ·exact jm.2
end
theorem PR {w:World} {X F S:XS} {db:Nat} {m:DM} {n:ByteArray} {vb:Value} {b:List Nat} (h:Dk w F db m) (hF:FX F X w) (hb:Sl w S 1 vb (b.map U1)) (hS: ∀k,S k→X k∧ ¬F k) (Pv:b.length≤2^30):
  Ct pg 104 #[ptr db 0,.string n,vb] w X F fun v wa w'=>v=I (m.append n b).2∧ ∃F',(∀k,F' k→F k∨made wa w' k)∧Dk w' F' db (m.append n b).1:=by
 intro w0 hk;obtain⟨mb,l,h0,hz⟩:=h.mv (hF.mv hk);have hT:=hF.ft hk;have lF:FX F (aS w0) w0:=hF.kp hk;replace hb:Sl w0 (fun k=>S k∧k<w0.heap.size) 1 vb (b.map U1):=hb.mv fun k ah hl=>⟨⟨ah,aI hl hk.size⟩,hk.block k (hS k ah).1⟩;have eX:=h0.box.mv (Mv.sub hT.bg);have hs:=ak.init w0;have hg:=h0.get n;have hm:=h0.map.mv jo (Mv.sub hT.bg) (A':=nX) fun _ h=>h.elim;apply Gq;unfold xS;repeat' first|refine aD ?_;intros
 refine pX hm (fun f hn=>?_) fun hn=>?_
 ·have rZ:m.get n=some (f.bs,f.safe):=by rw [hg,hn];rfl
  have ai5:=DM.adN rZ;cases jI:m.dn
  ·rw [jI] at eX;repeat' first|refine aD ?_;intros|refine dD ?_ ?_<;>intros
   ·refine hT.fin fun wa bC=>⟨?_,F,hT.nV bC fun _ h=>h,?_⟩
    ·simp only [DM.append,jI,rZ,bh,if_false];rw [if_pos zQ];rfl
    ·simp only [DM.append,jI,rZ,bh,if_false];rw [if_pos zQ];exact⟨mb,l,h0.mv (bC.j6 hT.bg),hz⟩
   ·have qX: ¬4194304-m.sz<b.length:=by omega
    refine hT.call (Kv h0 lF jI) kQ (fun _ h=>h) fun v wa w2 X2 hq hle eD b8 hc=>?_;obtain⟨rfl,h2⟩:=hq;replace b8:Ft w0 F w2 X2 F:=b8.less fun k hk=>.inl hk;have tH:=(h2.row _ (kR hn)).mv (Mv.sub b8.bg);repeat' first|refine aD ?_;intros
    refine aag b8 h2 (fun _ h=>h) hn ((hb.mv (hc.j6 fun k ah=>⟨ah.2,(hS k ah.1).2⟩)).mono fun k ah=>hc.sub k ah.2) (show f.bs.length+b.length≤2^40 by omega) fun w3 X3 dz ⟨v',h3⟩=>?_;have O7:=h3.box.mv (Mv.sub dz.bg);have htz:=m.VH;repeat' first|refine aD ?_;intros
    have np:=DM.aae (bs:=f.bs++b) (s':=f.safe) ((m.yc n).trans rZ);have hlen:(f.bs++b).length=f.bs.length+b.length:=ae;refine D3 dz h3 (fun _ h=>h) (m.tick.put n (f.bs++b) f.safe) (m.tick.put n (f.bs++b) f.safe).sz (o:=1) zQ kQ zQ rfl (by rw [show(((m.tick.put n (f.bs++b) f.safe).sz:Nat):Int)=(m.sz:Int)+(b.length:Int)by omega];rfl) rfl h3.ar fun w4 X4 eY h4 c4=>?_;have JL:=h4.box.mv (Mv.sub eY.bg);have fin: ∀wa,Kp X4 w4 wa→ ∃F',(∀k,F' k→F k∨made w0 wa k)∧Dk wa F' db (m.append n b).1:=fun wa bC=>⟨_,eY.nV bC fun _ h=>h,by
     simp only [DM.append,jI,rZ,bh,if_false];rw [if_neg qX];exact⟨mb,_,h4.mv (bC.j6 eY.bg),by show(m.tick.put n (f.bs++b) f.safe).sz≤_;omega⟩⟩
    cases ht:m.tick.dn
    ·repeat' first|refine aD ?_;intros
     refine eY.fin fun wa bC=>⟨?_,fin wa bC⟩;simp only [DM.append,jI,rZ,bh,if_false];rw [if_neg qX];simp [ht]
    ·repeat' first|refine aD ?_;intros
     refine eY.fin fun wa bC=>⟨?_,fin wa bC⟩;simp only [DM.append,jI,rZ,bh,if_false];rw [if_neg qX];simp [ht]
  ·rw [jI] at eX;repeat' first|refine aD ?_;intros
   refine hT.fin fun wa bC=>⟨?_,F,hT.nV bC fun _ h=>h,?_⟩
   ·simp [DM.append,jI]
   ·simp only [DM.append,jI,if_true];exact⟨mb,l,h0.mv (bC.j6 hT.bg),hz⟩
 ·have rZ:m.get n=none:=by rw [hg,hn];rfl
  cases jI:m.dn
  ·rw [jI] at eX;repeat' first|refine aD ?_;intros
   refine hT.fin fun wa bC=>⟨?_,F,hT.nV bC fun _ h=>h,?_⟩
   ·simp [DM.append,jI,rZ]
   ·simp only [DM.append,jI,rZ,bh,if_false];exact⟨mb,l,h0.mv (bC.j6 hT.bg),hz⟩
  ·rw [jI] at eX;repeat' first|refine aD ?_;intros
   refine hT.fin fun wa bC=>⟨?_,F,hT.nV bC fun _ h=>h,?_⟩
   ·simp [DM.append,jI]
   ·simp only [DM.append,jI,if_true];exact⟨mb,l,h0.mv (bC.j6 hT.bg),hz⟩
theorem T4 {w:World} {X F:XS} {db bd bn:Nat} {m:DM} {n:ByteArray} (h:Dk w F db m) (hF:FX F X w) (hd:bI w X bd [ptr db 0] 24) (hn:bI w X bn [.string n] 9) (hg:(m.get n).isSome=true):
  Ct pg 148 #[ptr bd 0,ptr bn 0] w X F fun v wa w'=>v= .tuple #[]∧ ∃F',(∀k,F' k→F k∨made wa w' k)∧Dk w' F' db (DM.B0 n m):=by
 intro w0 hk;obtain⟨mb,l,h0,hz⟩:=h.mv (hF.mv hk);have hT:=hF.ft hk;replace hd:=hd.mv hk.cL;replace hn:=hn.mv hk.cL;have eX:=h0.box.mv (Mv.sub hT.bg);have hs:=ak.init w0;have rZ:=h0.get n;have hm:=h0.map.mv jo (Mv.sub hT.bg) (A':=nX) fun _ h=>h.elim;apply EN;unfold wU;repeat' first|refine aD ?_;intros
 refine pX hm (fun f h1=>?_) fun h1=>?_
 ·repeat' first|refine aD ?_;intros
  refine pX hm (fun f' h2=>?_) fun h2=>?_
  ·rw [h1] at h2;cases h2;have hr:=(h0.row _ (kR h1)).mv (Mv.sub hT.bg);have ho:=(h0.ow _ (kR h1)).sl;have aih:m.get n=some (f.bs,f.safe):=by rw [rZ,h1];rfl
   repeat' first|refine aD ?_;intros
   refine Ya hT h0 (fun _ h=>h) h1 (s':=f.bs.length) zQ rfl (Nat.le_refl _) fun w1 X1 de h3=>?_;refine de.fin fun wa bC=>⟨rfl,F,de.nV bC fun _ h=>h,?_⟩;have e:DM.B0 n m=m.put n f.bs f.bs.length:=by unfold DM.B0;rw [aih]
   have fB:=m.ab1 n;rw [e] at fB⊢;exact⟨mb,_,by rw [fB];exact h3.mv (bC.j6 de.bg),by omega⟩
  ·rw [h1] at h2;cases h2
 ·rw [rZ,h1] at hg;cases hg
theorem Up {w:World} {X F:XS} {db:Nat} {m:DM} {n:ByteArray} (h:Dk w F db m) (hF:FX F X w):
  Ct pg 105 #[ptr db 0,.string n] w X F fun v wa w'=>v=I (m.sync n).2∧ ∃F',(∀k,F' k→F k∨made wa w' k)∧Dk w' F' db (m.sync n).1:=by
 intro w0 hk;replace h:=h.mv (hF.mv hk);have hT:=hF.ft hk;have lF:FX F (aS w0) w0:=hF.kp hk;clear hF;apply Jm;unfold zU;refine oh rfl hT.s.has fun bd w1 X1 mA aq mj=>?_;refine oh rfl aq.has fun bn w2 X2 Ou dI Pg=>?_;have ya:=aq.trans dI;have b8:=hT.since ya;have G5:=mj.since dI;have h2:Dk w2 F db m:=h.mv (ya.jB fun k ah=>(lF k ah).1);have hs:=ak.iS dI.has;repeat' first|refine aD ?_;intros
 refine ek (Ma h2 (b8.fx fun _ h=>h)) kQ hs.has ?_;rintro v wa w3 X3 rfl hle eD dZ;have dz:=b8.since dZ;have h3:Dk w3 F db m:=h2.mv (dZ.jB b8.bg);have ai6:=mj.lt;have aii:=dZ.sub _ G5.1;have aij:=dZ.sub _ Pg.1;have yb:=G5.since dZ;have E8:=Pg.since dZ;have e8:I (if(m.get n).isSome then 0 else 8)=I (((if(m.get n).isSome then 0 else 8:Nat)):Nat):=by split<;>rfl
 rw [e8];refine dz.call (Bb (A:=fun k=>k=bd∨k=bn) (g:=DM.B0 n) h3 (dz.fx fun _ h=>h) (fun k ah=>?_) kQ ?_) kQ (fun _ h=>h) fun v JI w4 X4 hq En CC eY rI=>?_
 ·rcases ah with rfl|rfl
  ·exact⟨aii,yb.lt,fun hf=>by have:=(lF _ hf).2;omega⟩
  ·exact⟨aij,E8.lt,fun hf=>by have:=(lF _ hf).2;have:=aq.kp.size;omega⟩
 ·intro he w5 X5 Fq Fm G6 h5;refine T4 h5 G6 ⟨Fm _ (.inl rfl),?_⟩ ⟨Fm _ (.inr rfl),?_⟩ ?_
  ·rw [(Fq bd (.inl rfl) (yb.lt)).2];exact yb.2
  ·rw [(Fq bn (.inr rfl) (E8.lt)).2];exact E8.2
  ·rw [m.yc];cases zt:(m.get n).isSome
   ·rw [zt] at he;cases he
   ·rfl
 ·obtain⟨rfl,F',tP,hD⟩:=hq
  skip
  refine eY.fin fun Q8 bC=>⟨rfl,F',eY.nV bC tP,hD.mv (bC.j6 fun k ah=>eY.bg k (tP k ah))⟩
theorem Oa {w:World} {X F:XS} {db bd bn:Nat} {m:DM} {n:ByteArray} (h:Dk w F db m) (hF:FX F X w) (hd:bI w X bd [ptr db 0] 24) (hn:bI w X bn [.string n] 9) (hg:m.get n=none):
  Ct pg 145 #[ptr bd 0,ptr bn 0] w X F fun v wa w'=>v= .tuple #[]∧ ∃F',(∀k,F' k→F k∨made wa w' k)∧Dk w' F' db (m.put n [] 0):=by
 intro w0 hk;obtain⟨mb,l,h0,hz⟩:=h.mv (hF.mv hk);have hT:=hF.ft hk;have lF:FX F (aS w0) w0:=hF.kp hk;replace hd:=hd.mv hk.cL;replace hn:=hn.mv hk.cL;have eX:=h0.box.mv (Mv.sub hT.bg);have hs:=ak.init w0;have rZ:=h0.get n;have hm:=h0.map.mv jo (Mv.sub hT.bg) (A':=nX) fun _ h=>h.elim;have hgn:getM n l=none:=by
  rw [hg] at rZ;cases hq:getM n l with
  |none=>rfl
  |some f=>rw [hq] at rZ;cases rZ
 apply CP;unfold tY;repeat' first|refine aD ?_;intros|(with_reducible apply ns);(case hX=>exact hs.has);intro bx w X eX aq bE;have bF:=hs.trans aq;replace hs:=ak.iS aq.has
 have rr:=hm.mv jo bF.mv (A':=nX) fun _ h=>h.elim;refine se (kt:=9) (et:=191) (a:=⟨bx,.slice none 0 0,[],0⟩) rr jo (show G4 _ _ (ptr bx 0) ⟨bx,.slice none 0 0,[],0⟩from rfl) (fun _ h=>h.elim) (wi kQ) kQ bF.has fun w2 X2 c oC=>?_;have de:=hT.since bF;have hbm:bx≠mb:=(rr.gd bE).symm;have b8:Ft w0 F w2 X2 (fun k=>F k∨k=bx):=(de.more (F':=fun k=>F k∨k=bx) fun k ah=>ah.imp id fun e=>by subst e;exact⟨bE.1,eX⟩).dF c (fun k ah=>by subst ah;exact .inl h0.map.x.1) fun k ah=>.inl ah;have hcc:ef (· =mb) (aS w0) w0 X2 w2:=(ef.qk bF _).trans c;refine b8.fin fun wa bC=>⟨rfl,_,b8.nV bC fun _ h=>h,?_⟩;have fB:=DM.VG (bs:=[]) (s':=0) hg;have hL:=h0.new (F':=fun k=>F k∨k=bx) lF hcc hgn (fun k ah=>ah) (fun k ah=>.inl ah) eX (oC.own.mv jo (fun k ah hl=>⟨.inl (by subst ah;exact h0.map.x.1),rfl⟩) fun _ h=>h.elim) ⟨.inr rfl,by rw [c.block _ bE.1 hbm];exact bE.2⟩;have aik:(m.put n [] 0).sz=m.sz:=by simpa using fB
 rw [←aik] at hL;exact⟨mb,_,hL.mv (bC.j6 b8.bg),by omega⟩
def DM.ym (m:DM) (n:ByteArray):Nat:=if¬Ba n then 10 else if(m.get n).isSome then 9 else if 64≤m.fs.length then 3 else 0
theorem PO {w:World} {X F:XS} {db:Nat} {m:DM} {n:ByteArray} (h:Dk w F db m) (hF:FX F X w):
  Ct pg 102 #[ptr db 0,.string n] w X F fun v wa w'=>v=I (m.create n).2∧ ∃F',(∀k,F' k→F k∨made wa w' k)∧Dk w' F' db (m.create n).1:=by
 intro w0 hk;replace h:=h.mv (hF.mv hk);have hT:=hF.ft hk;have lF:FX F (aS w0) w0:=hF.kp hk;clear hF;obtain⟨mb,l,h0,hz⟩:=id h;apply Gp;unfold xR;refine oh rfl hT.s.has fun bd w1 X1 mA aq mj=>?_;refine oh rfl aq.has fun bn w2 X2 Ou dI Pg=>?_;have ya:=aq.trans dI;have hs:=ak.iS dI.has;have G5:=mj.since dI;have hX:=fun k ah=>ya.sub k (hT.bg k ah);have eX:=(h0.box.mv (Mv.sub hT.bg)).since ya;have hm:=(h0.map.mv jo (Mv.sub hT.bg) (A':=nX) fun _ h=>h.elim).mv jo ya.mv (A':=nX) fun _ h=>h.elim;have rZ:=h0.get n;have hlen:=h0.len;have key: ∀(w3:World) (X3:XS) (e:Nat),ak X2 w2 X3 w3→m.ym n=e→eC pg (AP F w0 fun v w'=>v=I (m.create n).2∧ ∃F',(∀k,F' k→F k∨made w0 w' k)∧Dk w' F' db (m.create n).1) X3 w3 true 140 #[ptr db 0,I e,.func (.func 145) #[] #[ptr bd 0,ptr bn 0]] fun x w4 X4=>
   fin (AP F w0 fun v w'=>v=I (m.create n).2∧ ∃F',(∀k,F' k→F k∨made w0 w' k)∧Dk w' F' db (m.create n).1) X4 w4 x:=by
  intro w3 X3 e dZ he;have afH:=ya.trans dZ;have dz:=hT.since afH;have h3:Dk w3 F db m:=h.mv (afH.jB fun k ah=>(lF k ah).1);have yb:=G5.since dZ;have E8:=Pg.since dZ;have em:m.create n=m.write e fun m=>m.put n [] 0:=by rw [←he];rfl
  rw [em];refine dz.call (Bb (A:=fun k=>k=bd∨k=bn) (g:=fun m=>m.put n [] 0) h3 (dz.fx fun _ h=>h) (fun k ah=>?_) kQ ?_) kQ (fun _ h=>h) fun v JI w4 X4 hq En CC eY rI=>?_
  ·rcases ah with rfl|rfl
   ·exact⟨yb.1,yb.lt,fun hf=>by have:=(lF _ hf).2;omega⟩
   ·exact⟨E8.1,E8.lt,fun hf=>by have:=(lF _ hf).2;have:=aq.kp.size;omega⟩
  ·intro he0 w5 X5 Fq Fm G6 h5;refine Oa h5 G6 ⟨Fm _ (.inl rfl),?_⟩ ⟨Fm _ (.inr rfl),?_⟩ ?_
   ·rw [(Fq bd (.inl rfl) (yb.lt)).2];exact yb.2
   ·rw [(Fq bn (.inr rfl) (E8.lt)).2];exact E8.2
   ·rw [m.yc];rw [he0] at he;unfold DM.ym at he;cases zt:m.get n with
    |none=>rfl
    |some x=>
     rw [zt] at he;simp at he;exfalso;split at he<;>omega
  ·obtain⟨rfl,F',tP,hD⟩:=hq;exact eY.fin fun Q8 bC=>⟨rfl,F',eY.nV bC tP,hD.mv (bC.j6 fun k ah=>eY.bg k (tP k ah))⟩
 refine iu (fun k=> ∀(e:Nat) (w3:World) (X3:XS),ak X2 w2 X3 w3→m.ym n=e→k (I e) w3 X3) ?_ ?_
 ·intro e w3 X3 dZ he;have yb:=G5.since dZ;repeat' first|refine aD ?_;intros
  exact key w3 X3 e dZ he
 ·intro K hK;repeat' first|refine aD ?_;intros|((with_reducible refine dR (JQ _) ?_ hs.has ?_ ?_);(· kernel_rfl);all_goals (intro _ w X aq;replace hs:=hs.trans aq))
  ·have E8:=Pg.since hs;have yb:=G5.since hs;have ai7:=eX.since hs;have Fl:=hm.mv jo hs.mv (A':=nX) fun _ h=>h.elim
   skip
   refine pX Fl (fun f hn=>?_) fun hn=>?_
   ·repeat' first|refine aD ?_;intros
    exact hK 9 _ _ hs (by simp_all [DM.ym])
   ·repeat' first|refine aD ?_;intros|refine dD ?_ ?_<;>intros|(refine afG Fl (kt:=9) (et:=191) kQ ?_)
    ·exact hK 3 _ _ hs (by simp only [DM.ym,rZ,hn];simp_all<;>omega)
    ·exact hK 0 _ _ hs (by simp only [DM.ym,rZ,hn];simp_all<;>omega)
  ·exact hK 10 _ _ hs (by simp_all [DM.ym])
def xr (a b:Int):Int:=IntKind.u32.wrap (bY IntKind.u32.bits a^^^bY IntKind.u32.bits b).toNat
def V8 (a b:Int):Int:=IntKind.u8.wrap (bY IntKind.u8.bits a^^^bY IntKind.u8.bits b).toNat
def an (a b:Int):Int:=IntKind.u32.wrap (bY IntKind.u32.bits a&&& bY IntKind.u32.bits b).toNat
def sr (a n:Int):Int:=a.fdiv (2^min n.toNat IntKind.u32.bits)
def ng (a:Int):Int:=IntKind.u32.wrap (-a)
def nt (a:Int):Int:=xr IntKind.u32.max a
def stp (c:Int):Int:=xr (sr c 1) (an 2197175160 (ng (an c 1)))
def it:Nat→Int→Int
 |0,c=>c
 |n+1,c=>stp (it n c)
def Ab (i:Int):Int:=it 8 (IntKind.u32.wrap i)
def Yb (l:List Nat) (c:Int):Int:=l.foldl (fun (c:Int) (x:Nat)=>it 8 (xr c (IntKind.u32.wrap x))) c
def T5 (l:List Nat) (c:Int):Int:=l.foldl (fun (c:Int) (x:Nat)=>xr (sr c 8) (Ab (V8 (IntKind.u8.wrap c) x))) c
def Ls (l:List Nat):Int:=nt (if l.length<64 then Yb l 4294967295 else T5 l 4294967295)
def crc (l:List Nat):Nat:=(Ls l).toNat
def zf (n:Nat):List Nat:=[n % 256,n/256 % 256,n/65536 % 256,n/16777216 % 256]
def qB (p:List Nat):List Nat:=zf p.length++zf (crc (zf p.length))++p++zf (crc p)
theorem wrap32 (n:Int):IntKind.u32.wrap n=n % 4294967296:=by simp [IntKind.wrap,nI,kh]
theorem ab2 (a b:Int):0≤xr a b∧xr a b<4294967296:=by unfold xr;rw [wrap32];omega
theorem aah (a b:Int):0≤V8 a b∧V8 a b<256:=by unfold V8;rw [QH];omega
theorem Yc (l:List Nat):0≤Ls l∧Ls l<4294967296:=ab2 _ _
theorem aai (l:List Nat):((crc l:Nat):Int)=Ls l:=tr (Yc l).1
theorem adO (n:Nat):(zf n).length=4:=rfl
theorem WO (p:List Nat):(qB p).length=p.length+12:=by simp only [qB,ae,adO];omega
section
variable {P : Program} {R : Ending → World → Prop} {X : XS} {w : World} {m : Bool} {N : Value → Prop} {t : TypeId} {a b : Int}
theorem Yd (h:N (.int .u32 (xr a b))):ad P X w (binOp .xor t (.int .u32 a) (.int .u32 b)) N:=Nn h
theorem agE (h:N (.int .u8 (V8 a b))):ad P X w (binOp .xor t (.int .u8 a) (.int .u8 b)) N:=Nn h
theorem afI (h:N (.int .u32 (an a b))):ad P X w (binOp .and t (.int .u32 a) (.int .u32 b)) N:=VV h
theorem ab3 (hb: ¬b<0) (h:N (.int .u32 (sr a b))):ad P X w (binOp .shr t (.int .u32 a) (.int .u64 b)) N:=Az hb h
theorem afJ (h:N (.int .u32 (ng a))):ad P X w (aX .neg (.int .u32 a)) N:=cx (fun wa=>by simp [aX,ng,Op.intArith]) h
theorem afK (h:N (.int .u32 (nt a))):ad P X w (aX .xor (.int .u32 a)) N:=cx (fun wa=>by simp [aX,nt,xr,Op.intBits,kh]) h
theorem V9 {k:IntKind} {g o i:Nat} {z:Int} (hz:z=i) (hi:i<P.arrayLen t) (ht:P.underlying t=some (.array (P.arrayLen t) (P.elem t))) (hs:(P.info? (P.elem t)).map (·.size)=some 1) (h:N (ptr g (o+i))):
  ad P X w (Instr.indexAt t (ptr g o) (.int k z)) N:=by
 subst hz;refine cx (v:=ptr g (o+i)) (fun wa=>?_) h
 show(Instr.indexAt t (.pointer (some ⟨g,o,none⟩)) _).run P wa=_
 rw [run_indexAt_array (h:=ht),if_pos zQ];cases hq:P.info? (P.elem t)with
 |none=>simp [hq] at hs
 |some inf=>
  have:inf.size=1:=by simpa [hq] using hs
  simp [sizeOf,typeInfo,hq,this,uv]
end
abbrev U4 (x:Int):Value:=.int .u32 x
theorem Qp {w:World} {X:XS} :Ct pg 150 #[] w X nX fun v wa w'=>v= .agg ((cN 256).map fun i:Nat=>U4 (Ab (i:Int))).toArray:=by
 intro w0 hk;apply NM;unfold DG;have hs:=ak.init w0;have hT:Ft w0 nX w0 (aS w0) nX:=Ft.init fun _ h=>h.elim;refine Nr (l:=eZ 256 (U4 0)) hs.has kQ fun b w1 X1 hb aq hr=>?_;have de:Ft w0 nX w1 X1 (fun k=>k=b):=(hT.since aq).more fun k ah=>by subst ah;exact .inr ⟨hr.1,hb⟩
 refine A7 (fun n a _ _ w X=> ∃i:Nat,a=I (i:Nat)∧n=256-i∧i≤256∧Ft w0 nX w X (fun k=>k=b)∧bI w X b (((cN i).map fun i:Nat=>U4 (Ab (i:Int)))++eZ (256-i) (U4 0)) 243) 256 ⟨0,rfl,rfl,aN _,de,by simpa using hr⟩ ?_;rintro n a _ _ w X ⟨i,rfl,rfl,hi,b8,tH⟩;repeat' first|refine aD ?_;intros|refine dD ?_ ?_<;>intros
 ·refine gb (fun n a c w' X'=> ∃j:Nat,a=I (j:Nat)∧c=U4 (it j (IntKind.u32.wrap i))∧n=8-j∧j≤8∧w'=w∧X'=X) 8 ⟨0,rfl,rfl,rfl,aN _,rfl,rfl⟩ ?_;rintro n a c _ _ ⟨j,rfl,rfl,rfl,hj,rfl,rfl⟩;repeat' first|refine aD ?_;intros|refine dD ?_ ?_<;>intros|(with_reducible apply ab3);omega|(with_reducible apply afI)|(with_reducible apply afJ)|(with_reducible apply Yd)
  ·exact eM (8-(j+1)) zQ ⟨j+1,by simp,rfl,rfl,by omega,rfl,rfl⟩
  ·have hj8:j=8:=by omega
   subst hj8;have hal:pg.arrayLen 243=256:=by kernel_rfl
   refine V9 rfl (by rw [hal];omega) kQ kQ ?_;rw [ee];refine qh tH kQ (by simp;omega) rfl rfl b8.s.has fun w3 X3 c oY=>?_;have dz:Ft w0 nX w3 X3 (fun k=>k=b):=b8.dF c (fun k ah=>ah) fun k ah=>.inl ah;repeat' first|refine aD ?_;intros
   refine yU (256-(i+1)) zQ ⟨i+1,by simp,rfl,by omega,dz,?_⟩;have e:cz (((cN i).map fun i:Nat=>U4 (Ab (i:Int)))++eZ (256-i) (U4 0)) i (aa (U4 (it 8 (IntKind.u32.wrap (i:Int))))).toList=((cN (i+1)).map fun i:Nat=>U4 (Ab (i:Int)))++eZ (256-(i+1)) (U4 0):=by
    have hl:((cN i).map fun i:Nat=>U4 (Ab (i:Int))).length=i:=by simp
    rw [show 256-i=(256-(i+1))+1 by omega,List.replicate_succ];unfold cz;rw [xj hl,List.range_succ,bo,List.map_singleton,aB,aB];have hd: ∀r:List Value,(((cN i).map fun i:Nat=>U4 (Ab (i:Int)))++U4 0::r).drop (i+1)=r:=fun r=>by
     rw [←List.drop_drop,xk hl];rfl
    have h1:(aa (U4 (it 8 (IntKind.u32.wrap (i:Int))))).toList=[U4 (Ab (i:Int))]:=rfl;rw [h1,bD,hd]
   rw [←e];exact oY
 ·have hi6:i=256:=by omega
  subst hi6;have oY:bI w X b ((cN 256).map fun i:Nat=>U4 (Ab (i:Int))) 243:=by simpa using tH
  have hl:((cN 256).map fun i:Nat=>U4 (Ab (i:Int))).length=256:=by simp
  generalize hL:((cN 256).map fun i:Nat=>U4 (Ab (i:Int)))=L at oY hl⊢;have tt:L.all bu.one=true:=by rw [←hL];simp;intros;rfl
  refine acv oY.cells (Mv.refl _ _) kQ hl ?_;refine ZV ?_;refine eQ.2 ⟨by simpa [aa] using hl,eQ.2 ⟨by simpa [aa] using tt,?_⟩⟩;refine ZU ?_;refine eQ.2 ⟨rfl,?_⟩;rw [List.drop_zero,aY zQ];exact b8.fin fun wa bC=>rfl
theorem PG {β:Type} (f:β→Nat→β) (l:List Nat) {i x:Nat} (c:β) (h:l[i]? =some x):(l.take (i+1)).foldl f c=f ((l.take i).foldl f c) x:=by
 rw [bc,h];simp
theorem Kw {w:World} {X:XS} {vb:Value} {l:List Nat} (h:Sl w X 1 vb (l.map U1)):Ct pg 108 #[vb] w X nX fun v wa w'=>v=U4 (Ls l):=by
 intro w0 hk;replace h:=h.mv hk.cL;have hlen:=h.gz;apply Tc;unfold Hp;have hs:=ak.init w0;repeat' first|refine aD ?_;intros|refine dD ?_ ?_<;>intros
 ·have h64:l.length<64:=by omega
  refine A7 (fun n a _ c w X=> ∃i:Nat,a=I (i:Nat)∧c=U4 (Yb (l.take i) 4294967295)∧n=l.length-i∧i≤l.length∧ak (aS w0) w0 X w) l.length ⟨0,rfl,rfl,rfl,aN _,hs⟩ ?_;clear hs;rintro n a _ _ w X ⟨i,rfl,rfl,rfl,hi,hs⟩;rcases eb l i with⟨cK,x,hx,hd⟩|⟨dU,hd⟩
  ·repeat' first|refine bO ?_;intros|(with_reducible apply Yd)
   refine gb (fun n a c w' X'=> ∃j:Nat,a=I (j:Nat)∧c=U4 (it j (xr (Yb (l.take i) 4294967295) (IntKind.u32.wrap x)))∧n=8-j∧j≤8∧w'=w∧X'=X) 8 ⟨0,rfl,rfl,rfl,aN _,rfl,rfl⟩ ?_;rintro n a c _ _ ⟨j,rfl,rfl,rfl,hj,rfl,rfl⟩;repeat' first|refine aD ?_;intros|refine dD ?_ ?_<;>intros|(with_reducible apply ab3);omega|(with_reducible apply afI)|(with_reducible apply afJ)|(with_reducible apply Yd)
   ·exact eM (8-(j+1)) zQ ⟨j+1,by simp,rfl,rfl,by omega,rfl,rfl⟩
   ·have hj8:j=8:=by omega
    subst hj8;refine yU (l.length-(i+1)) zQ ⟨i+1,by simp,?_,rfl,by omega,hs⟩;unfold Yb;rw [PG _ l _ hx]
  ·have tL:i=l.length:=by omega
   subst tL;repeat' first|refine bO ?_;intros|(with_reducible apply afK)|((first|(with_reducible refine ai hs ?_)|(with_reducible refine ai (bF.trans hs) ?_));intro wa hk;(rw [Ls,if_pos h64,xl]))
 ·have h64: ¬l.length<64:=by omega
  refine ek Qp kQ hs.has ?_;rintro _ wa w1 X1 rfl hle eD aq;replace hs:=hs.trans aq;refine Nr (l:=eZ 256 (U4 0)) hs.has kQ fun b w2 X2 hb dI hr=>?_;have ya:=hs.trans dI;have hT:Ft w0 nX w2 X2 (fun k=>k=b):=((Ft.init (w:=w0) (F0:=nX) fun _ h=>h.elim).since ya).more fun k ah=>by subst ah;exact .inr ⟨hr.1,by have:=hs.kp.size;omega⟩
  have hl:((cN 256).map fun i:Nat=>U4 (Ab (i:Int))).length=256:=by simp
  have W8: ∀i:Nat,i<256→((cN 256).map fun i:Nat=>U4 (Ab (i:Int)))[i]? =some (U4 (Ab (i:Int))):=fun i hi=>by simp [hi]
  have tt:((cN 256).map fun i:Nat=>U4 (Ab (i:Int))).all bu.one=true:=by simp;intros;rfl
  generalize ((cN 256).map fun i:Nat=>U4 (Ab (i:Int)))=L at hl W8 tt⊢;refine qh hr kQ (by simp) (by simpa [aa] using hl) (by simpa [aa] using tt) hT.s.has fun w3 X3 c oY=>?_;have dz:Ft w0 nX w3 X3 (fun k=>k=b):=hT.dF c (fun k ah=>ah) fun k ah=>.inl ah;have e:cz (eZ 256 (U4 0)) 0 (aa (.agg L.toArray)).toList=L:=by
   unfold cz;simp [aa,hl]
  rw [e] at oY;have dZ:ak (aS w0) w0 X3 w3:=⟨⟨dz.s.kp.os,dz.s.kp.tape,dz.s.kp.output,dz.s.kp.size,fun k ah=>dz.s.kp.block k ⟨ah,fun h=>h.elim⟩⟩,fun k ah=>dz.s.sub k ⟨ah,fun h=>h.elim⟩,dz.s.has⟩;clear hs ya;have hs:=dZ;repeat' first|refine aD ?_;intros
  refine gb (fun n a c w X=> ∃i:Nat,a=I (i:Nat)∧c=U4 (T5 (l.take i) 4294967295)∧n=l.length-i∧i≤l.length∧w=w3∧X=X3) l.length ⟨0,rfl,rfl,rfl,aN _,rfl,rfl⟩ ?_;rintro n a _ _ _ ⟨i,rfl,rfl,rfl,hi,rfl,rfl⟩;rcases eb l i with⟨cK,x,hx,hd⟩|⟨dU,hd⟩
  ·repeat' first|refine bO ?_;intros|(with_reducible apply ab3);omega|(with_reducible apply agE)
   have hrg:=aah (IntKind.u8.wrap (T5 (l.take i) 4294967295)) x;obtain⟨q,hq⟩: ∃q:Nat,V8 (IntKind.u8.wrap (T5 (l.take i) 4294967295)) x=(q:Int):=⟨_,(tr hrg.1).symm⟩;have hal:pg.arrayLen 243=256:=by kernel_rfl
   refine V9 hq (by rw [hal];omega) kQ kQ ?_;rw [ee];have hcq:=oY.cells.acu (W8 q zQ);rw [ee] at hcq;repeat' first|refine aD ?_;intros|(with_reducible apply Yd)
   refine eM (l.length-(i+1)) zQ ⟨i+1,by simp,?_,rfl,by omega,rfl,rfl⟩;unfold T5;rw [PG _ l _ hx,←hq];rfl
  ·have tL:i=l.length:=by omega
   subst tL;repeat' first|refine bO ?_;intros|(with_reducible apply afK)|((first|(with_reducible refine ai hs ?_)|(with_reducible refine ai (bF.trans hs) ?_));intro wa hk;(rw [Ls,if_neg h64,xl]))
theorem Ye {P:Program} {X:XS} {w:World} {N:Value→Prop} {t:TypeId} {u:Nat} (k:Nat) (hk:k≤32) (h:N (.int .u32 ((u/2^k:Nat):Int))):ad P X w (binOp .shr t (.int .u32 (u:Int)) (.int .u64 (k:Int))) N:=by
 refine Az zQ ?_;have e:((u:Int)).fdiv (2^min ((k:Int)).toNat IntKind.u32.bits)=((u/2^k:Nat):Int):=by
  rw [show min ((k:Int)).toNat IntKind.u32.bits=k by simp [nI];omega];rw [gN _ (by exact_mod_cast aN _)]
  norm_cast
 rw [e];exact h
theorem agF (a b c d:Int):Instr.fill (fun i=>some (i*1,1)) ((Array.range (4*1)).map ((Value.int .u8 0).cells[· % (Value.int .u8 0).cells.size]!)) [(0,.int .u8 a),(1,.int .u8 b),(2,.int .u8 c),(3,.int .u8 d)]=some #[.int .u8 a,.int .u8 b,.int .u8 c,.int .u8 d]:=by kernel_rfl
theorem C5 {w:World} {X F:XS} {v:Value} {bs:List Nat} {n:Nat} (h:Ow w F 5 1 v (bs.map U1)) (hF:FX F X w) (hl:bs.length≤2^40):
  Ct pg 146 #[v,U4 n] w X F fun r wa w'=> ∃F',(∀k,F' k→F k∨made wa w' k)∧Ow w' F' 5 1 r ((bs++zf n).map U1):=by
 intro w0 hk;replace h:=h.mv (hF.mv hk);have hT:=hF.ft hk;apply Tf;unfold Hv;have hs:=ak.init w0;refine MP kQ kQ ?_;refine Ye 8 zQ ?_;refine MP kQ kQ ?_;refine Ye 16 zQ ?_;refine MP kQ kQ ?_;refine Ye 24 zQ ?_;refine MP kQ kQ ?_;refine WH (bytes:=1) (rows:=(zf n).map U1) #[.int .u8 (n % 256:Nat),.int .u8 (n/256 % 256:Nat),.int .u8 (n/65536 % 256:Nat),.int .u8 (n/16777216 % 256:Nat)] (.int .u8 0) hT.s.has kQ kQ (by decide) (by decide) (agF _ _ _ _) (by simp) rfl rfl fun s w1 X1 aq ho=>?_;have de:=hT.since aq;refine Mq kQ aq.has ((h.mv (aq.jB hT.bg)).mono de.bg) ho.sl (by intro r hr u hu;obtain⟨x,_,rfl⟩:=List.mem_map.1 hr;simp only [U1,en] at hu;subst hu;rfl) (by simp [zf];omega) (by simp [zf];omega) fun v' w2 X2 c jb fm=>?_;have rz: ∀g,v'.ownBlock=some g→F g∨(X2 g∧w1.heap.size≤g):=fun g hg=>by
  rcases fm with e|⟨g',e,dU⟩
  ·exact .inl (h.bg (e▸hg)).1
  ·rw [hg] at e;have:g=g':=nR e;subst this;exact .inr ⟨(jb.bg hg).1,dU⟩
 have b8:Ft w0 F w2 X2 (fun k=>F k∨(X2 k∧w1.heap.size≤k)):=de.dF c (fun k ah=>(h.bg ah).1) fun k ah=>ah;refine b8.fin fun wa bC=>⟨_,b8.nV bC fun _ h=>h,?_⟩;rw [bo];exact jb.tight.mv fun k ah jC=>⟨rz k ah,bC.block k (jb.bg ah).1⟩
theorem Ft.ab4 {w0 w' wa:World} {X' F F':XS} {e k:Nat} {v:Value} {rows:List (List Value)} (h:Ft w0 nX w' X' (fun k=>F k∨made wa w' k)) (ho:Ow w' F' e k v rows) (tP: ∀k,F' k→F k∨made wa w' k):Ow w' (Dv w0 X') e k v rows:=
 ho.mono fun k hk=>⟨h.bg k (tP k hk),(h.v k (tP k hk)).elim (fun h=>h.elim) id⟩
theorem PQ {w:World} {X:XS} {vp:Value} {p:List Nat} (h:Sl w X 1 vp (p.map U1)):Ct pg 103 #[vp] w X nX fun v wa w'=>
  if 262144<p.length then v= .tuple #[.slice none 0 0,I 2] else∃vb,v= .tuple #[vb,I 0]∧Ow w' (made wa w') 5 1 vb ((qB p).map U1):=by
 intro w0 hk;replace h:=h.mv hk.cL;have hlen:=h.gz;apply NK;unfold DE;have hs:=ak.init w0;repeat' first|refine aD ?_;intros|refine dD ?_ ?_<;>intros|((first|(with_reducible refine ai hs ?_)|(with_reducible refine ai (bF.trans hs) ?_));intro wa hk;(dsimp only;rw [if_pos zQ]))
 have hn: ¬262144<p.length:=by omega
 refine Z6 (e:=5) (k:=1) (c:=p.length+12) (bytes:=1) hs.has kQ (by simp) zQ zQ zQ fun v0 w1 X1 aq ho=>?_;have hT:Ft w0 nX w1 X1 (Dv w0 X1):=((Ft.init (w:=w0) (F0:=nX) fun _ h=>h.elim).since aq).Ns;have hO:Ow w1 (Dv w0 X1) 5 1 v0 (([]:List Nat).map U1):=(ho.ow.tight).mono fun k ah=>⟨(ho.ow.bg ah).1,(ho.ge ah).1⟩;have B6:IntKind.u32.wrap (p.length:Int)=(p.length:Nat):=by rw [wrap32];omega
 repeat' first|refine aD ?_;intros
 rw [B6];refine hT.call (C5 hO (hT.fx fun _ h=>h) (by simp)) kQ (fun _ h=>h) fun v1 yM w2 X2 hq hle eD b8 hc=>?_;obtain⟨F2,rz,Fp⟩:=hq;have Fp:=Ft.ab4 b8 Fp rz;replace b8:=b8.Ns;rw [List.nil_append] at Fp;refine ek (Kw (Fp.sl.mono b8.bg)) kQ b8.s.has ?_;rintro _ AU w3 X3 rfl x6 tv dZ;have L9:Ow w3 (Dv w0 X3) 5 1 v1 ((zf p.length).map U1):=(Fp.mv (dZ.jB b8.bg)).mono fun k ah=>⟨dZ.sub k ah.1,ah.2⟩;replace b8:=(b8.since dZ).Ns;rw [←aai];refine b8.call (C5 L9 (b8.fx fun _ h=>h) (by simp [zf])) kQ (fun _ h=>h) fun v4 JI w4 X4 hq hle eD eY hc=>?_;obtain⟨F4,JS,Zj⟩:=hq;have Zj:=Ft.ab4 eY Zj JS;replace eY:=eY.Ns;have hp4:Sl w4 X4 1 vp (p.map U1):=h.mv eY.SI.mv;refine agA eY Zj kQ hp4 (by intro r hr u hu;obtain⟨x,_,rfl⟩:=List.mem_map.1 hr;simp only [U1,en] at hu;subst hu;rfl) (by simp [zf];omega) (by simp [zf];omega) fun v5 w5 X5 fQ VE hc5 _=>?_;refine ek (Kw (h.mv fQ.SI.mv)) kQ fQ.s.has ?_;rintro _ VB w6 X6 rfl Nb RN sj;have Zk:Ow w6 (Dv w0 X6) 5 1 v5 ((zf p.length++zf (crc (zf p.length))++p).map U1):=by
  rw [bo];exact(VE.mv (sj.jB fQ.bg)).mono fun k ah=>⟨sj.sub k ah.1,ah.2⟩
 replace fQ:=(fQ.since sj).Ns;rw [←aai];refine fQ.call (C5 Zk (fQ.fx fun _ h=>h) (by simp [zf];omega)) kQ (fun _ h=>h) fun v7 VI w7 X7 hq hle eD ny hc=>?_;obtain⟨F7,JU,hO7⟩:=hq;have hO7:=Ft.ab4 ny hO7 JU;have ov:=hO7.one
 skip
 refine ny.SI|>fun J6=>ai J6 fun wa bC=>?_;dsimp only;rw [if_neg hn];refine⟨v7,rfl,?_⟩;exact hO7.mv fun k ah hl=>⟨⟨ah.2,aI hl bC.size⟩,bC.block k ah.1⟩
@[ext] structure eB where
 gF:Int
 fY:Int
 bU:dX
 aw:aK
 writes:List KV
 deriving DecidableEq
abbrev eB.l (f:eB) (vw:Value):List Value:=[I f.gF,I f.fY,I f.bU.iH,I f.bU.lg,I f.bU.sq,I f.aw.wall,I f.aw.dp,I f.aw.node,vw]
abbrev eB.v (f:eB) (vw:Value):Value:=.agg #[I f.gF,I f.fY,I f.bU.iH,I f.bU.lg,I f.bU.sq,I f.aw.wall,I f.aw.dp,I f.aw.node,vw]
abbrev FV:=Value×eB
abbrev FV.l (x:FV):List Value:=x.2.l x.1
def eB.may (f:eB):Bool:=decide (1≤f.gF∧f.gF≤12∧1≤f.fY∧f.writes≠[])&&decide ((⟨f.bU,f.aw,[],f.writes⟩:dB).err=0)
def eB.cmp (f g:eB):Int:=if f.aw.cmp g.aw≠0 then f.aw.cmp g.aw else f.gF-g.gF
theorem Ei {w:World} {X:XS} {f:eB} {vw:Value} (h:Sl w X 4 vw (f.writes.map KV.l)) (hb:f.writes.length≤2^40):
  Ct pg 172 #[f.v vw] w X nX fun v _ _=>v=B f.may:=by
 intro w0 hk;replace h:=h.mv hk.cL;have hl:=h.len;obtain⟨b1,n1,c1,rfl⟩:=h.form;apply UM;unfold Kk;have hs:=ak.init w0;repeat' first|refine aD ?_;intros|refine dD ?_ ?_<;>intros|((first|(with_reducible refine ai hs ?_)|(with_reducible refine ai (bF.trans hs) ?_));intro wa hk;(simp_all [eB.may,←List.length_pos_iff]<;>omega))|(refine dC (pw  (p:=⟨f.bU,f.aw,[],f.writes⟩) (Sl.nil _ _ _) qA hb) kQ hs.has ?_;intro w X aq;replace hs:=hs.trans aq)
theorem Kx {f g:eB} {v1 v2:Value} (h1:1≤f.gF∧f.gF≤12) (h2:1≤g.gF∧g.gF≤12):Pure pg 215 #[f.v v1,g.v v2] (I (f.cmp g)):=by
 intro w0;apply Tr;unfold HI;have hs:=ak.init w0;repeat' first|refine aD ?_;intros|refine dD ?_ ?_<;>intros|((with_reducible refine fX (ic _ _) ?_ hs.has ?_);(· kernel_rfl);intro w X aq;replace hs:=hs.trans aq)|(with_reducible refine fA hs ?_);(simp [eB.cmp, *])
theorem T6 {w:World} {X:XS} {f:eB} {vw:Value} (h:Sl w X 4 vw (f.writes.map KV.l)) (hb:f.writes.length≤2^40):
  Ct pg 217 #[f.v vw] w X nX fun v wa w'=> ∃oE,v=f.v oE∧Own w' (made wa w') wa.heap.size 118 4 oE (f.writes.map KV.l):=by
 intro w0 hk;replace h:=h.mv hk.cL;apply Qb;unfold FJ;have hs:=ak.init w0;refine ek (pH (h.mv (Mv.refl _ _)) hb) kQ hs.has ?_;rintro v wa w X ho hle eD aq;have ll:Own w X w0.heap.size 118 4 v (f.writes.map KV.l):=ho.up eD hle;replace hs:=hs.trans aq;have o1:=ho.sl.one;repeat' first|refine aD ?_;intros|((first|(with_reducible refine ai hs ?_)|(with_reducible refine ai (bF.trans hs) ?_));intro wa hk;(exact⟨v,rfl,(ll.kp hk).tight⟩))
theorem LQ {w:World} {X:XS} :Ct pg 58 #[] w X nX fun v wa w'=> ∃sb,v=ptr sb 0∧bI w' (made wa w') sb [.slice none 0 0] 179:=by
 intro w0 hk;apply UH;unfold Kf;have hs:=ak.init w0;repeat' first|refine aD ?_;intros|(with_reducible apply ns);(case hX=>exact hs.has);intro bx w X eX aq bE;have bF:=hs.trans aq;replace hs:=ak.iS aq.has|((first|(with_reducible refine ai hs ?_)|(with_reducible refine ai (bF.trans hs) ?_));intro wa hk;(exact⟨bx,rfl,bE.own.mv (Mv.one hk bE.1 ⟨eX,(bE.kp hk).lt⟩)⟩))
structure gD (w:World) (F:XS) (sb:Nat) (hv:Value) (hs:List FV):Prop where
 box:bI w F sb [hv] 179
 ow:Ow w F 156 9 hv (hs.map FV.l)
 ws: ∀x∈hs,Ow w F 118 4 x.1 (x.2.writes.map KV.l)
theorem gD.mv {w w':World} {F F':XS} {sb:Nat} {hv:Value} {hs:List FV} (h:gD w F sb hv hs) (v:Mv F w F' w'):gD w' F' sb hv hs:=⟨h.box.mv v,h.ow.mv v,fun x hx=>(h.ws x hx).mv v⟩
theorem LP {w:World} {X F:XS} {sb:Nat} {hv:Value} {hs:List FV} (h:gD w F sb hv hs) (hF: ∀k,F k→X k):
  Ct pg 51 #[ptr sb 0] w X nX fun v _ _=>v=I hs.length:=by
 intro w0 hk;replace h:=h.mv ((Mv.sub hF).trans hk.cL);have hb:=h.box;have hh:=h.ow.sl;apply Ld;unfold Bt;have hs:=ak.init w0;repeat' first|refine aD ?_;intros|((first|(with_reducible refine ai hs ?_)|(with_reducible refine ai (bF.trans hs) ?_));intro wa hk;simp)
theorem Jv {w:World} {X:XS} {a:Value} {xs:List FV} {f:FuncId} {cs:List Value} {p:FV→Bool} (ha:Sl w X 9 a (xs.map FV.l)) (hX: ∀k,X k→k<w.heap.size) (hf:enters pg f=true)
  (hp: ∀x,x∈xs→Ct pg f ((.agg x.l.toArray)::cs).toArray w X nX fun v _ _=>v=B (p x)):
  Ct pg 292 #[a,.func (.func f) #[] cs.toArray] w X nX fun v _ _=>v=I (idxOf p xs):=by
 intro w0 hk;replace ha:=ha.mv hk.cL;replace hp:=fun x hx=>((hp x hx).kp hk).aS fun k hx=>aI (hX k hx) hk.size;have iV:=ha.gz;apply nG;unfold jf;have hs:=ak.init w0;repeat' first|refine aD ?_;intros
 refine eG (fun n a w X=> ∃i:Nat,a=I (i:Nat)∧n=(xs).length-i∧i≤(xs).length∧ak (aS w0) w0 X w∧(∀(j:Nat) x,j<i→xs[j]? =some x→p x=false)) (xs).length ⟨0,rfl,rfl,aN _,hs,by simp⟩ ?_;rintro n a w X ⟨i,rfl,rfl,hi,hs,hw⟩;rcases eb (xs) i with⟨cK,x,hx,hd⟩|⟨dU,hd⟩
 ·have Dh:=hp x (aA hx);repeat' first|refine bO ?_;intros|((first|(with_reducible refine ai hs ?_)|(with_reducible refine ai (bF.trans hs) ?_));intro wa hk;(rw [uy hw hx ‹_›]))|((with_reducible refine ep ((xs).length-(i+1)) ?_ ?_);omega;exact⟨i+1,by simp,rfl,by omega,hs,fun j y hj hy=>by rcases Nat.lt_succ_iff_lt_or_eq.1 hj with h|h;exact hw j y h hy;subst h;rw [hx] at hy;cases hy;assumption⟩)|(refine eR (Dh.since hs) hf hs.has ?_ ?_<;>(intro _ w X aq;replace hs:=hs.trans aq))
 ·repeat' first|refine bO ?_;intros|((first|(with_reducible refine ai hs ?_)|(with_reducible refine ai (bF.trans hs) ?_));intro wa hk;(rw [qg fun j x hj hx=>hw j x zQ hx]))
theorem E9 {w:World} {X:XS} {a:Value} {xs:List FV} {f:FuncId} {cs:List Value} {p:FV→Bool} (ha:Sl w X 9 a (xs.map FV.l)) (hX: ∀k,X k→k<w.heap.size) (hf:enters pg f=true)
  (hp: ∀x,x∈xs→Ct pg f ((.agg x.l.toArray)::cs).toArray w X nX fun v _ _=>v=B (p x)):
  Ct pg 250 #[a,.func (.func f) #[] cs.toArray] w X nX fun v _ _=>v=B (xs.any p):=by
 intro w0 hk;replace ha:=ha.mv hk.cL;replace hp:=fun x hx=>((hp x hx).kp hk).aS fun k hx=>aI (hX k hx) hk.size;apply mF;unfold iL;have hs:=ak.init w0;repeat' first|refine aD ?_;intros|refine dD ?_ ?_<;>intros|((first|(with_reducible refine ai hs ?_)|(with_reducible refine ai (bF.trans hs) ?_));intro wa hk;(rw [←pU];simp [*]))|(refine dC (Jv ha hs.has hf hp) kQ hs.has ?_;intro w X aq;replace hs:=hs.trans aq)
theorem Qq {w:World} {X:XS} {x:FV} {id:Int} {t:dX} {b1 b2:Nat} (h1:Cells w X b1 0 [I id]) (h2:Cells w X b2 0 [I t.iH,I t.lg,I t.sq]):
  Ct pg 251 #[.agg x.l.toArray,ptr b1 0,ptr b2 0] w X nX fun v _ _=>v=B (decide (x.2.gF=id∧x.2.bU=t)):=by
 intro w0 hk;replace h1:=h1.mv hk.cL;replace h2:=h2.mv hk.cL;apply Gv;unfold xW;have hs:=ak.init w0;repeat' first|refine aD ?_;intros|refine dD ?_ ?_<;>intros|(with_reducible refine QG _ _ ?_ ?_ ?_);(· kernel_rfl);all_goals intros|((first|(with_reducible refine ai hs ?_)|(with_reducible refine ai (bF.trans hs) ?_));intro wa hk;(simp_all [dX.ext_iff]))
def IL (hs:List eB) (id:Int) (t:dX):Bool:=hs.any fun f=>decide (f.gF=id∧f.bU=t)
theorem Yf {w:World} {X F:XS} {sb:Nat} {hv:Value} {hl:List FV} {id:Int} {t:dX} (h:gD w F sb hv hl) (hF: ∀k,F k→X k):
  Ct pg 212 #[ptr sb 0,I id,t.v] w X nX fun v _ _=>v=B (IL (hl.map (·.2)) id t):=by
 intro w0 hk;replace h:=h.mv ((Mv.sub hF).trans hk.cL);apply Lj;unfold BC;have hs:=ak.init w0;refine oh rfl hs.has fun b1 w1 X1 zJ aq vH=>?_;refine ns aq.has fun b2 w2 X2 Fj dI tH=>?_;have h2:=h.mv (aq.trans dI).mv;have hb:=h2.box;have ha:=h2.ow.sl;have RL:=(vH.cells).mv dI.mv;have j9:=tH.cells;replace hs:=aq.trans dI;clear aq dI vH tH;repeat' first|refine aD ?_;intros|((first|(with_reducible refine ai hs ?_)|(with_reducible refine ai (bF.trans hs) ?_));intro wa hk;(simp only [IL,qt];rfl))|(refine dC (E9 (p:=fun x=>decide (x.2.gF=id∧x.2.bU=t)) (ha.mv (Mv.refl _ _)) hs.has kQ fun x _=>Qq (RL.mv (Mv.refl _ _)) (j9.mv (Mv.refl _ _))) kQ hs.has ?_;intro w X aq;replace hs:=hs.trans aq)
theorem Jw {w:World} {X:XS} {x y:KV} {b:Nat} (h:Cells w X b 0 x.l):
  Ct pg 254 #[.agg y.l.toArray,ptr b 0] w X nX fun v _ _=>v=B (decide (x.key=y.key)):=by
 intro w0 hk;replace h:=h.mv hk.cL;apply HT;unfold zc;have hs:=ak.init w0;repeat' first|refine aD ?_;intros|refine dD ?_ ?_<;>intros|((first|(with_reducible refine ai hs ?_)|(with_reducible refine ai (bF.trans hs) ?_));intro wa hk;simp_all)
theorem Ob {w:World} {X:XS} {x:KV} {vb:Value} {ys:List KV} {b:Nat} (hX: ∀k,X k→k<w.heap.size) (h:Cells w X b 0 [vb]) (h2:Sl w X 4 vb (ys.map KV.l)):
  Ct pg 253 #[.agg x.l.toArray,ptr b 0] w X nX fun v _ _=>v=B (ys.any fun y=>decide (x.key=y.key)):=by
 intro w0 hk;replace h:=h.mv hk.cL;replace h2:=h2.mv hk.cL;apply MF;unfold Ck;have hs:=ak.init w0;repeat' first|refine aD ?_;intros|(with_reducible apply ns);(case hX=>exact hs.has);intro bx w X eX aq bE;have bF:=hs.trans aq;replace hs:=ak.iS aq.has|((first|(with_reducible refine ai hs ?_)|(with_reducible refine ai (bF.trans hs) ?_));intro wa hk;rfl)|(refine dC (pN (p:=fun y=>decide (x.key=y.key)) (h2.mv (ak.mv (bF.trans hs))) hs.has kQ fun y=>Jw (x:=x) (y:=y) (bE.cells.mv (ak.mv hs))) kQ hs.has ?_;intro w X aq;replace hs:=hs.trans aq)
theorem U6 {w:World} {X:XS} {va vb:Value} {xs ys:List KV} (hX: ∀k,X k→k<w.heap.size) (h1:Sl w X 4 va (xs.map KV.l)) (h2:Sl w X 4 vb (ys.map KV.l)):
  Ct pg 213 #[va,vb] w X nX fun v _ _=>v=B (xs.any fun x=>ys.any fun y=>decide (x.key=y.key)):=by
 intro w0 hk;replace h1:=h1.mv hk.cL;replace h2:=h2.mv hk.cL;have o2:=h2.one;obtain⟨q1,q2,q3,rfl⟩:=h2.form;apply Tq;unfold HH;have hs:=ak.init w0;repeat' first|refine aD ?_;intros|(with_reducible apply oh);(case ho=>rfl);(case hX=>exact hs.has);intro bx w X eX aq bE;have bF:=hs.trans aq;replace hs:=ak.iS aq.has|((first|(with_reducible refine ai hs ?_)|(with_reducible refine ai (bF.trans hs) ?_));intro wa hk;rfl)|(refine dC (pN (p:=fun x=>ys.any fun y=>decide (x.key=y.key)) (h1.mv (ak.mv (bF.trans hs))) hs.has kQ fun x=>Ob (x:=x) hs.has (bE.cells.mv (ak.mv hs)) (h2.mv (ak.mv (bF.trans hs)))) kQ hs.has ?_;intro w X aq;replace hs:=hs.trans aq)
section
variable {P : Program} {X : XS} {w : World} {N : Value → Prop} {t : TypeId}
theorem afL {i j:Nat} (hb:i+j<9223372036854775808) (h:N (.int .u64 (((i+j)/2:Nat):Int))):ad P X w (binOp .shr t (.int .u64 (IntKind.u64.wrap ((i:Int)+(j:Int)))) (.int .u64 1)) N:=
 Az zQ (by
  have e:(IntKind.u64.wrap ((i:Int)+(j:Int))).fdiv (2^min (1:Int).toNat IntKind.u64.bits)=(((i+j)/2:Nat):Int):=by
   show(IntKind.u64.wrap ((i:Int)+(j:Int))).fdiv 2=_
   rw [wrap64,gN _ (by decide)];omega
  rw [e];exact h)
end
structure Oc (xs:List FV) (t:eB) (i:Nat):Prop where
 le:i≤xs.length
 lo: ∀(j:Nat) x,j<i→xs[j]? =some x→x.2.cmp t<0
 hi: ∀(j:Nat) x,i≤j→xs[j]? =some x→ ¬x.2.cmp t<0
theorem Od {w:World} {X:XS} {a vt:Value} {xs:List FV} {t:eB} (ha:Sl w X 9 a (xs.map FV.l)) (hr: ∀x∈xs,1≤x.2.gF∧x.2.gF≤12) (ht:1≤t.gF∧t.gF≤12) (hl:xs.length≤2^40)
  (hm: ∀(i j:Nat) x y,i<j→xs[i]? =some x→xs[j]? =some y→y.2.cmp t<0→x.2.cmp t<0):
  Ct pg 214 #[a,t.v vt,.func (.func 215) #[] #[]] w X nX
   fun v _ _=> ∃(i:Nat) (b:Bool),v= .tuple #[I i,B b]∧Oc xs t i:=by
 intro w0 hk;replace ha:=ha.mv hk.cL;apply jx;unfold gk;have hs:=ak.init w0;repeat' first|refine aD ?_;intros
 refine gb (fun n a b w X=> ∃i j:Nat,a=I j∧b=I i∧n=j-i∧i≤j∧j≤xs.length∧ak (aS w0) w0 X w∧(∀(k:Nat) x,k<i→xs[k]? =some x→x.2.cmp t<0)∧(∀(k:Nat) x,j≤k→xs[k]? =some x→ ¬x.2.cmp t<0))
  xs.length ⟨0,xs.length,by simp,rfl,by simp,by omega,by simp,hs,fun k x h=>by omega,fun k x h hx=>by have:=(List.getElem?_eq_some_iff.1 hx).1;omega⟩ ?_
 clear hs;rintro n a b w X ⟨i,j,rfl,rfl,rfl,yK,hj,hs,eo,hhi⟩;by_cases cK:i<j
 ·obtain⟨x,hx⟩: ∃x,xs[(i+j)/2]? =some x:=⟨_,List.getElem?_eq_getElem zQ⟩;have RU:=hr x (aA hx);repeat' first|refine bO ?_;intros|with_reducible apply dG
  refine afL zQ ?_;refine Xm kQ kQ ?_;rw [show IntKind.i64.wrap ((((i+j)/2:Nat)):Int)=(((i+j)/2:Nat):Int)by rw [IntKind.wrap_i64];omega];repeat' first|refine aD ?_;intros
  refine fX (Kx (f:=x.2) (g:=t) RU ht) kQ hs.has ?_;intro w X aq;replace hs:=hs.trans aq;repeat' first|refine aD ?_;intros|refine dD ?_ ?_<;>intros
  ·refine eM (j-((i+j)/2+1)) zQ ⟨(i+j)/2+1,j,rfl,by simp,rfl,by omega,hj,hs,fun k y hk hy=>?_,hhi⟩;rcases Nat.lt_succ_iff_lt_or_eq.1 hk with h|rfl
   ·exact hm k _ y x h hy hx (by assumption)
   ·rw [hx] at hy;cases hy;assumption
  ·refine eM ((i+j)/2-i) zQ ⟨i,(i+j)/2,rfl,rfl,rfl,by omega,by omega,hs,eo,fun k y hk hy=>?_⟩;rcases Nat.eq_or_lt_of_le hk with rfl|h
   ·rw [hx] at hy;cases hy;assumption
   ·intro abf;exact absurd (hm _ k x y h hx hy abf) (by assumption)
 ·have:i=j:=by omega
  subst this;have hP:Oc xs t i:=⟨hj,eo,hhi⟩;repeat' first|refine bO ?_;intros|refine dD ?_ ?_<;>intros|with_reducible apply dG|((first|(with_reducible refine ai hs ?_)|(with_reducible refine ai (bF.trans hs) ?_));intro wa hk;(exact⟨i,_,rfl,hP⟩))
  refine fX (Kx (hr _ (List.getElem_mem _)) ht) kQ hs.has ?_;intro w X aq;replace hs:=hs.trans aq;repeat' first|refine aD ?_;intros|refine dD ?_ ?_<;>intros|((first|(with_reducible refine ai hs ?_)|(with_reducible refine ai (bF.trans hs) ?_));intro wa hk;(exact⟨i,_,rfl,hP⟩))
section
variable {P : Program} {X : XS} {w : World}
theorem qb {A B C vs:List Value} {o:Nat} (ho:A.length=o) (h:B.length=vs.length):cz (A++B++C) o vs=A++vs++C:=by
 subst ho;unfold cz;have e1:(A++B++C).take A.length=A:=by rw [aB,List.take_left]
 rw [e1,xk (by simp [h])]
theorem Ik {e k:Nat} {v:Value} {rows:List (List Value)} (h:Ow w X e k v rows):(v= .slice none 0 0∧rows=[])∨ ∃g off cap A Z,v= .slice (some ⟨g,off,none⟩) rows.length cap∧bI w X g (A++rows.flatten++Z) e∧
  A.length=off∧rows.length≤cap∧cap≤maxLen∧cap*k≤rows.length*k+Z.length:=by
 obtain⟨h1,h|⟨g,off,cap,cur,rfl,hx,hg,jh,iB,lR,iE⟩⟩:=h
 ·exact .inl h
 ·right;have fC:=gQ h1;have hmul:=eN k jh;have oz:cur.toList.length=cur.size:=Array.length_toList;have e1:cur.toList=cur.toList.take off++rows.flatten++cur.toList.drop (off+rows.length*k):=by
   rw [←iE,aB,←List.drop_drop,cD,cD]
  refine⟨g,off,cap,cur.toList.take off,cur.toList.drop (off+rows.length*k),rfl,⟨hx,?_⟩,by rw [aW,oz];omega,jh,iB,by rw [dM,oz];omega⟩;rw [←e1];simpa using hg
theorem LA {e k g off n cap:Nat} {A Z:List Value} {rows:List (List Value)} (hr: ∀r∈rows,r.length=k) (h:bI w X g (A++rows.flatten++Z) e) (ho:A.length=off) (hn:rows.length=n) (hc:n≤cap) (hm:cap≤maxLen)
  (hz:cap*k≤rows.length*k+Z.length):Ow w X e k (.slice (some ⟨g,off,none⟩) n cap) rows:=by
 subst hn;subst ho;have fC:=gQ hr;refine⟨hr,.inr ⟨g,A.length,cap,_,rfl,h.1,h.2,hc,hm,by rw [List.size_toArray,ae,ae,fC];omega,?_⟩⟩;rw [aB,List.drop_left,xj fC]
end
theorem Oe {w:World} {g:Nat} {A B C:List Value} {e o:Nat} {X:XS} (h:bI w X g (A++B++C) e) (ho:A.length=o): ∀wa,Kp X w wa→ ∀(j:Nat) v,B[j]? =some v→wa.cell? ((⟨g,o,none⟩:Addr).add j)=some v:=fun wa hk j v hj=>by
 subst ho;have:=(h.kp hk).2;rw [Addr.add_lit];simp only [World.cell?,this];have rv:=(List.getElem?_eq_some_iff.1 hj).1;rw [aB,List.getElem?_toArray,List.getElem?_append_right zQ,Nat.add_sub_cancel_left,List.getElem?_append_left rv];exact hj
theorem Dc {w0 w1 wa:World} {X1:XS} {e k:Nat} {hv v':Value} {rows:List (List Value)} (ho:Ow w1 X1 e k v' rows) (bC:Kp X1 w1 wa) (fm: ∀g,v'.ownBlock=some g→dK hv g∨w0.heap.size≤g):
  ∃F',Ow wa F' e k v' rows∧ ∀k,F' k→dK hv k∨made w0 wa k:=
 ⟨dK v',(ho.kp bC).tight,fun k hk=>(fm k hk).imp id fun h=>⟨h,((ho.kp bC).bg hk).2⟩⟩
theorem ail {l T:List Value} {a b:Nat} (h:l.take T.length=T) (hl:T.length+a+b≤l.length): ∃Q1 Q2 Q3,l=T++Q1++Q2++Q3∧Q1.length=a∧Q2.length=b:=by
 refine⟨(l.drop T.length).take a,((l.drop T.length).drop a).take b,((l.drop T.length).drop a).drop b,?_,by rw [aW,dM];omega,by rw [aW,dM,dM];omega⟩;rw [aB,cD,aB,cD];conv=>lhs;rw [←cD T.length l,h]
theorem mW {w w':World} {X X' G:XS} {g:Nat} {cs:List Value} {ty:TypeId} (h:bI w X g cs ty) (c:ef G X w X' w') (hg: ¬G g):bI w' X' g cs ty:=⟨c.sub _ h.1,by rw [c.block _ h.1 hg];exact h.2⟩
theorem ab5 {w:World} {X F S:XS} {hv vv:Value} {xs:List FV} {x:FV} {i:Nat} (own:Ow w F 156 9 hv (xs.map FV.l)) (hF: ∀k,F k→X k) (src:Ow w S 156 9 vv [x.l]) (hS: ∀k,S k→X k∧ ¬dK hv k)
  (h1:bu.one x.1=true) (hr: ∀y∈xs,bu.one y.1=true) (hi:i≤xs.length) (hl:xs.length≤2^40):
  Ct pg 216 #[hv,I i,vv] w X (dK hv) fun v wa w'=> ∃F',Ow w' F' 156 9 v ((xs.take i++[x]++xs.drop i).map FV.l)∧ ∀k,F' k→dK hv k∨made wa w' k:=by
 intro w0 hk;have aim:Ow w0 (dK hv) 156 9 hv (xs.map FV.l):=(own.mv ((Mv.sub hF).trans hk.cL)).tight;have hT:Ft w0 (dK hv) w0 (aS w0) (dK hv):=Ft.init fun k ah=>((own.mv ((Mv.sub hF).trans hk.cL)).bg ah).2;have afM:Ow w0 (out (dK hv) w0) 156 9 vv [x.l]:=src.mv fun k ah jC=>⟨⟨aI jC hk.size,(hS k ah).2⟩,hk.block k (hS k ah).1⟩;have afN:Ow w0 (aS w0) 156 9 vv ([x].map FV.l):=afM.mono fun k h=>h.1;have tt: ∀r∈xs.map FV.l,∀u∈r,bu.one u=true:=fun r jm u hu=>by
  obtain⟨y,hy,rfl⟩:=List.mem_map.1 jm;have:=hr y hy;simp only [FV.l,eB.l,List.mem_cons,gn,or_false] at hu;rcases hu with rfl|rfl|rfl|rfl|rfl|rfl|rfl|rfl|rfl<;>first|rfl|exact this
 have Yg: ∀u∈x.l,bu.one u=true:=fun u hu=>by
  simp only [FV.l,eB.l,List.mem_cons,gn,or_false] at hu;rcases hu with rfl|rfl|rfl|rfl|rfl|rfl|rfl|rfl|rfl<;>first|rfl|exact h1
 have owo:=aim.mono (Y:=aS w0) fun k ah=>(own.mv ((Mv.sub hF).trans hk.cL)).bg ah|>.2
 have mg:=owo.sl;have Zx:=afN.sl;apply oL;unfold jE;have hs:=ak.init w0;refine Vf mg (i:=i) rfl (by simpa using hi) kQ kQ fun _ _=>?_;have eD: ∀r∈(xs.take i++[x]++xs.drop i).map FV.l,r.length=9:=fun r jm=>by obtain⟨y,_,rfl⟩:=List.mem_map.1 jm;rfl
 have QI:((xs.take i++[x]++xs.drop i).map FV.l).length=xs.length+1:=by simp;omega
 repeat' first|refine aD ?_;intros|refine dD ?_ ?_<;>intros
 ·rename_i h;simp at h
 ·have hie:i=xs.length:=by omega
  subst hie;refine Mq kQ hs.has owo Zx (fun r jm=>by simp only [bB,uK,en] at jm;subst jm;exact Yg) (by simp;omega) (by simp;omega) fun v' w1 X1 c ho fm=>?_;have de:=hT.dF c (fun k hk=>hk) (F':=nX) fun k hk=>hk.elim;refine de.fin fun wa bC=>Dc (rows:=(xs.take xs.length++[x]++xs.drop xs.length).map FV.l) (by simpa using ho) bC fun g hg=>?_;rcases fm with e|⟨g',e,dU⟩
  ·exact .inl (e.symm.trans hg)
  ·rw [hg] at e;cases e;exact .inr dU
 ·have ain:i<xs.length:=by omega
  rcases Ik owo with⟨_,h⟩|⟨g,off,cap,A,Z,rfl,bE,hA,jh,iB,hZ⟩
  ·simp at h;subst h;simp at ain
  rcases Ik afN with⟨_,h⟩|⟨gv,aio,ai8,Av,Zv,rfl,Yh,hAv,_,_,_⟩
  ·simp at h
  rw [ay] at jh hZ;have hgv:=(afM.bg (g:=gv) rfl).1;have bW:gv≠g:=fun e=>hgv.2 (by rw [e];rfl);have ai9:=bE.lt;obtain⟨T,hTd⟩: ∃T,T=((xs.take i).map FV.l).flatten:=⟨_,rfl⟩;obtain⟨D,hDd⟩: ∃D,D=((xs.drop i).map FV.l).flatten:=⟨_,rfl⟩;have oZ:T.length=i*9:=by
   rw [hTd,gQ (k:=9) fun r jm=>by obtain⟨y,_,rfl⟩:=List.mem_map.1 jm;rfl];simp;omega
  have T7:D.length=(xs.length-i)*9:=by
   rw [hDd,gQ (k:=9) fun r jm=>by obtain⟨y,_,rfl⟩:=List.mem_map.1 jm;rfl];simp
  have ZD:(xs.map FV.l).flatten=T++D:=by rw [hTd,hDd,←List.flatten_append,←bo,cD]
  have Wj:((xs.take i++[x]++xs.drop i).map FV.l).flatten=T++x.l++D:=by rw [hTd,hDd];simp
  have acC: ∀u∈D,bu.one u=true:=fun u hu=>by
   rw [hDd] at hu;obtain⟨r,jm,SD⟩:=List.mem_flatten.1 hu;obtain⟨y,hy,rfl⟩:=List.mem_map.1 jm;exact tt _ (List.mem_map.2 ⟨y,eh hy,rfl⟩) u SD
  rw [ZD] at bE;have hvc: ∀{w':World} {X':XS},bI w' X' gv (Av++([x].map FV.l).flatten++Zv) 156→ ∀wa,Kp X' w' wa→ ∀(j:Nat) v,x.l[j]? =some v→wa.cell? ((⟨gv,aio,none⟩:Addr).add j)=some v:=fun {w' X'} h=>by
   have h':bI w' X' gv (Av++x.l++Zv) 156:=by simpa using h
   exact Oe h' hAv
  simp only [ay,bD] at*;by_cases kC:cap<xs.length+1
  ·repeat' first|refine aD ?_;intros
   refine acx (e:=156) kQ ?_;repeat' first|refine bO ?_;intros
   refine yL (i:=i) rfl zQ kQ kQ ?_;repeat' first|refine aD ?_;intros
   have aip:Sl w0 (aS w0) 9 (.slice (some ⟨g,off,none⟩) i cap) ((xs.take i).map FV.l):=
    (LA (k:=9) (rows:=(xs.take i).map FV.l) (Z:=D++Z) (fun r jm=>by obtain⟨y,_,rfl⟩:=List.mem_map.1 jm;rfl) (by rw [←hTd];simpa using bE) hA (by simp;omega) zQ iB (by
     have:=eN 9 jh;simp only [ay,aW,ae,T7,iN hi];omega)).sl
   refine agB (k:=9) (e:=156) (bytes:=88) (kn:=.i64) (c:=xs.length+1-i) kQ kQ hs.has aip zQ zQ ⟨_,_,cap,rfl,by simp;omega⟩ (by simp;omega) (by simp;omega) fun g2 aja aiq w1 X1 Pe aq tH j9 oC Zi ab6=>?_;have hlT:((xs.take i).map FV.l).length=i:=by simp;omega
   rw [hlT] at j9 ab6⊢;rw [←hTd] at ab6;have hmul:=eN 9 j9;obtain⟨Q1,Q2,Q3,rfl,hQ1,hQ2⟩:=ail (l:=aiq) (T:=T) (a:=9) (b:=(xs.length-i)*9) (by rw [oZ];exact ab6) (by rw [oZ];omega);have air:g≠g2:=by omega
   have jj:=bE.since aq;have T8:=Yh.since aq;replace hs:=hs.trans aq;refine yh (k:=9) (i:=i) rfl zQ j9 kQ kQ ?_;rw [if_neg zQ];refine ID (k:=9) (e:=156) (cs:=x.l) tH kQ kQ (by rw [iN zQ];rfl) (hvc T8) (by
    simp only [ae,oZ,hQ1,hQ2,FV.l,eB.l,bP,dj];omega) Yg hs.has fun w2 X2 c2 oY=>?_
   rw [show T++Q1++Q2++Q3=T++Q1++(Q2++Q3)by simp,qb (by rw [oZ];omega) (by rw [hQ1];rfl)] at oY;have kl:=mW jj c2 (fun e=>air e);have dI:=hs.dF c2 fun k ah e=>by subst e;have:k<w0.heap.size:=ah;omega
   replace hs:=dI;repeat' first|refine aD ?_;intros
   refine yh (k:=9) (i:=i+1) zQ zQ j9 kQ kQ ?_;rw [if_neg zQ];refine yh (k:=9) (i:=i) rfl zQ jh kQ kQ ?_;rw [if_neg zQ];have ab7:min (xs.length-i) (i+(xs.length+1-i)-(i+1))=xs.length-i:=by omega
   have hD2:bI w2 X2 g ((A++T)++D++Z) 156:=by simpa using kl
   refine ID (k:=9) (e:=156) (cs:=D) oY kQ kQ (by rw [ab7,T7]) (Oe hD2 (by rw [ae,hA,oZ])) (by
    simp only [ae,oZ,hQ2,T7,FV.l,eB.l,bP,dj];omega) acC hs.has fun w3 X3 c3 Pf=>?_
   rw [show T++x.l++(Q2++Q3)=(T++x.l)++Q2++Q3 by simp,qb (by rw [ae,oZ];show i*9+9=_;omega) (by rw [hQ2,T7])] at Pf;have dZ:=hs.dF c3 fun k ah e=>by subst e;have:k<w0.heap.size:=ah;omega
   have dz:Ft w0 (dK (.slice (some ⟨g,off,none⟩) xs.length cap)) w3 X3 nX:=⟨⟨dZ.kp.less fun k ah=>ah.1,fun k ah=>dZ.sub k ah.1,dZ.has⟩,fun k ah=>ah.elim,fun k ah=>ah.elim⟩;rw [show i+(xs.length+1-i)=xs.length+1 by omega];refine dz.fin fun wa bC=>Dc (LA (k:=9) (A:=[]) (Z:=Q3) eD (by rw [Wj];simpa using Pf) rfl (by rw [ay];exact QI) zQ oC (by
    have h2:=Zi;simp only [ae,oZ,hQ1,hQ2] at h2;rw [ay,QI];omega)) bC fun g' gl=>.inr (by cases gl;exact Pe)
  ·repeat' first|refine aD ?_;intros
   refine acx (e:=156) kQ ?_;repeat' first|refine bO ?_;intros
   refine yL (i:=xs.length+1) zQ zQ kQ kQ ?_;repeat' first|refine aD ?_;intros
   refine yh (k:=9) (i:=i+1) zQ zQ zQ kQ kQ ?_;rw [if_neg zQ];refine Xs (k:=9) (t:=177) (bt:=4) (e:=156) Tryz.func255 kQ kQ kQ kQ kQ kQ Yh bE bW (by simp only [ae];omega) hs.has fun w1 X1 aq=>?_;have jj:=bE.since aq;have T8:=Yh.since aq;replace hs:=hs.trans aq;obtain⟨Z1,Z2,rfl,hZ1⟩: ∃Z1 Z2,Z=Z1++Z2∧Z1.length=9:=by
    have:=eN 9 (Nat.le_of_not_lt kC);exact⟨Z.take 9,Z.drop 9,(cD _ _).symm,by rw [aW];omega⟩
   have hD1:bI w1 X1 g ((A++T)++D++(Z1++Z2)) 156:=by simpa using jj
   repeat' first|refine aD ?_;intros
   refine yh (k:=9) (i:=i+1) zQ zQ zQ kQ kQ ?_;rw [if_neg zQ];refine yh (k:=9) (i:=i) rfl zQ zQ kQ kQ ?_;rw [if_neg zQ];have ab7:min (xs.length+1-i) (xs.length+1-(i+1))=xs.length-i:=by omega
   refine ID (k:=9) (e:=156) (cs:=D) jj kQ kQ (by rw [ab7,T7]) (Oe hD1 (by rw [ae,hA,oZ])) (by
    simp only [ae,oZ,T7,hA,hZ1];omega) acC hs.has fun w2 X2 c2 oY=>?_
   obtain⟨E,hE,hEl⟩: ∃E,A++(T++D)++(Z1++Z2)=(A++T)++E++Z2∧E.length=D.length+9:=⟨D++Z1,by simp,by rw [ae,hZ1]⟩;obtain⟨E1,E2,hEE,AH⟩: ∃E1 E2,E=E1++E2∧E1.length=9:=⟨E.take 9,E.drop 9,(cD _ _).symm,by rw [aW];omega⟩;have uQ:E2.length=D.length:=by have:=hEl;rw [hEE,ae,AH] at this;omega
   rw [hE,hEE,show A++T++(E1++E2)++Z2=(A++T++E1)++E2++Z2 by simp,qb (by simp only [ae,hA,oZ,AH];omega) uQ] at oY;have afO:=mW T8 c2 bW;have b8:Ft w0 (dK (.slice (some ⟨g,off,none⟩) xs.length cap)) w2 X2 (dK (.slice (some ⟨g,off,none⟩) xs.length cap)):=(hT.since (aq)).dF c2 (fun k ah=>by subst ah;rfl) fun k ah=>.inl ah
   skip
   refine yh (k:=9) (i:=i) rfl zQ zQ kQ kQ ?_;rw [if_neg zQ];refine ID (k:=9) (e:=156) (cs:=x.l) oY kQ kQ (by rw [iN zQ];rfl) (hvc afO) (by
    simp only [ae,oZ,hA,AH,T7,FV.l,eB.l,bP,dj];omega) Yg b8.s.has fun w3 X3 c3 Pf=>?_
   rw [show A++T++E1++D++Z2=(A++T)++E1++(D++Z2)by simp,qb (by simp only [ae,hA,oZ]) (by rw [AH];rfl)] at Pf;have dz:=b8.dF c3 (fun k ah=>by subst ah;rfl) (F':=nX) fun k ah=>ah.elim;refine dz.fin fun wa bC=>Dc (LA (k:=9) (A:=A) (Z:=Z2) eD (by rw [Wj];simpa using Pf) hA (by rw [ay];exact QI) zQ iB (by
    simp only [ae,hZ1] at hZ;rw [ay,QI];omega)) bC fun g' gl=>.inl (by cases gl;rfl)
section
variable {P : Program} {X : XS} {w : World} {N : Value → Prop} {t : TypeId} {xo yo : Operand}
theorem aaj {a:Bool} (ht:P.underlying t=some .bool) (k:N (.bool false)):ad P X w (aH .neq t xo yo (.bool a) (.bool a)) N:=by
 refine cx (v:=.bool false) (fun wa=>?_) k;have:=run_neq_bool (P:=P) (w:=wa) t a a ht;simp [aH,eqGuard,this]
theorem aak {a b:Bool} (h:a≠b) (ht:P.underlying t=some .bool) (k:N (.bool true)):ad P X w (aH .neq t xo yo (.bool a) (.bool b)) N:=by
 refine cx (v:=.bool true) (fun wa=>?_) k;have:=run_neq_bool (P:=P) (w:=wa) t a b ht;simp [aH,eqGuard,this,h]
end
def meets (a b:List KV):Bool:=a.any fun x=>b.any fun y=>decide (x.key=y.key)
def eB.yR (f h:eB):Bool:=decide (h.bU=f.bU) !=decide (h.aw=f.aw)
def eB.Ig (f h:eB):Bool:=decide (h.bU=f.bU)&&meets h.writes f.writes
def lp (hs:List eB) (f:eB):Int:=if f.may=false then 4 else if IL hs f.gF f.bU=true then 9 else if hs.any f.yR=true then 17 else if hs.any f.Ig=true then 18 else 0
def LO (hl jC:List FV) (f:eB):Prop:= ∃i vw,Oc hl f i∧jC=hl.take i++[(vw,f)]++hl.drop i
theorem Wq {w:World} {X F S:XS} {sb:Nat} {hv vw:Value} {hl:List FV} {f:eB} (h:gD w F sb hv hl) (hF:FX F X w) (hw:Sl w S 4 vw (f.writes.map KV.l)) (hS: ∀k,S k→X k∧ ¬F k)
  (hr: ∀x∈hl,1≤x.2.gF∧x.2.gF≤12) (hb:f.writes.length≤2^40) (hn:hl.length≤2^39)
  (hm:f.may=true→ ∀(i j:Nat) x y,i<j→hl[i]? =some x→hl[j]? =some y→y.2.cmp f<0→x.2.cmp f<0):
  Ct pg 173 #[ptr sb 0,f.v vw] w X F fun v wa w'=>v=I (lp (hl.map (·.2)) f)∧ ∃F' j5 jC,(∀k,F' k→F k∨made wa w' k)∧gD w' F' sb j5 jC∧
   (if lp (hl.map (·.2)) f=0 then LO hl jC f else jC=hl):=by
 intro w0 hk;replace h:=h.mv (hF.mv hk);have hT:=hF.ft hk;have BW:Sl w0 (out F w0) 4 vw (f.writes.map KV.l):=hw.mv fun k ah jC=>⟨⟨aI jC hk.size,(hS k ah).2⟩,hk.block k (hS k ah).1⟩;obtain⟨b1,n1,c1,rfl⟩:=hw.form;have nq: ∀{wz:World} {Xz:XS},Ft w0 F wz Xz F→gD wz F sb hv hl→lp (hl.map (·.2)) f≠0→ ∀wa,Kp Xz wz wa→ ∃F' j5 jC,(∀k,F' k→F k∨made w0 wa k)∧gD wa F' sb j5 jC∧(if lp (hl.map (·.2)) f=0 then LO hl jC f else jC=hl):=
  fun hT h bW wa bC=>⟨F,hv,hl,fun k hk=>.inl hk,h.mv (bC.j6 hT.bg),by rw [if_neg bW]⟩
 apply Li;unfold BB;refine dC (Ei (f:=f) (BW.mv hT.s.mv) hb) kQ hT.s.has fun w1 X1 aq=>?_;replace hT:=hT.since aq;replace h:=h.mv (aq.jB (hF.ft hk).bg);have o1:=BW.one;cases lB:f.may
 ·repeat' first|refine aD ?_;intros
  exact hT.fin fun wa bC=>by
   have e:lp (hl.map (·.2)) f=4:=by simp [lp,lB]
   exact⟨by rw [e],nq hT h (by rw [e];decide) wa bC⟩
 repeat' first|refine aD ?_;intros
 refine dC (Yf h hT.bg) kQ hT.s.has fun w2 X2 dI=>?_;have b8:=hT.since dI;replace h:=h.mv (dI.jB hT.bg);clear hT;cases Yi:IL (hl.map (·.2)) f.gF f.bU
 rotate_left
 ·repeat' first|refine aD ?_;intros
  exact b8.fin fun wa bC=>by
   have e:lp (hl.map (·.2)) f=9:=by simp [lp,lB,Yi]
   exact⟨by rw [e],nq b8 h (by rw [e];decide) wa bC⟩
 have eX:=h.box.mv (Mv.sub b8.bg);have mg:=(h.ow.mono b8.bg).sl;have ln:=mg.len;repeat' first|refine aD ?_;intros
 refine gb (fun n a b w X=> ∃(i:Nat) (q:Bool),a=I i∧b=B q∧n=hl.length-i∧i≤hl.length∧Ft w0 F w X F∧gD w F sb hv hl∧hl.any (fun x=>f.yR x.2)=(hl.drop i).any (fun x=>f.yR x.2)∧
  hl.any (fun x=>f.Ig x.2)=(q||(hl.drop i).any fun x=>f.Ig x.2)) hl.length ⟨0,false,rfl,rfl,rfl,aN _,b8,h,by simp,by simp⟩ ?_
 clear b8 h eX mg aq dI;rintro n a b w X ⟨i,q,rfl,rfl,rfl,hi,hT,h,Cx,Yj⟩;have hs:=hT.s;have eX:=h.box.mv (Mv.sub hT.bg);have mg:=(h.ow.mono hT.bg).sl;rcases eb hl i with⟨cK,x,hx,hd⟩|⟨dU,hd⟩
 ·have ox:=(h.ws x (aA hx)).one;have LF:=((h.ws x (aA hx)).mono hT.bg).sl;have hwf:=BW.mv hs.mv;rw [hd,List.any_cons] at Cx Yj;have Cl:f.yR x.2=false→ ∀q',q'=(q||f.Ig x.2)→ ∀{w':World} {X':XS},ak X w X' w'→ ∃(j:Nat) (q2:Bool),I ((i:Int)+1)=I j∧B q'=B q2∧hl.length-(i+1)=hl.length-j∧j≤hl.length∧Ft w0 F w' X' F∧gD w' F sb hv hl∧hl.any (fun x=>f.yR x.2)=(hl.drop j).any (fun x=>f.yR x.2)∧
    hl.any (fun x=>f.Ig x.2)=(q2||(hl.drop j).any fun x=>f.Ig x.2):=fun ho q' hq' _ _ rE=>
   ⟨i+1,q',by simp,rfl,rfl,by omega,hT.since rE,h.mv (rE.jB hT.bg),by rw [Cx,ho,Bool.false_or],by rw [Yj,hq',Bool.or_assoc]⟩
  have h17:f.yR x.2=true→ ∀wa,Kp X w wa→I 17=I (lp (hl.map (·.2)) f)∧_:=fun ho wa bC=>by
   have e:lp (hl.map (·.2)) f=17:=by
    unfold lp;rw [if_neg (by simp [lB]),if_neg (by simp [Yi]),if_pos (by rw [qt,show(f.yR∘fun x:FV=>x.2)=fun x=>f.yR x.2 from rfl,Cx,ho,Bool.true_or])]
   exact⟨by rw [e],nq hT h (by rw [e];decide) wa bC⟩
  cases q
  ·repeat' first|refine bO ?_;intros|(with_reducible refine XJ _ _ ?_ ?_ ?_);(· kernel_rfl);all_goals intros|(with_reducible refine QG _ _ ?_ ?_ ?_);(· kernel_rfl);all_goals intros|with_reducible apply dG|contradiction|(refine aaj kQ ?_)|(refine aak (by decide) kQ ?_)|(refine eR (U6 hs.has LF hwf) kQ hs.has ?_ ?_<;>(intro hmt w X aq))|(exact eM (hl.length-(i+1)) zQ (Cl (by simp [eB.yR, *]) _ (by simp [eB.Ig,meets, *]) (by first|exact aq|exact ak.iS hs.has)))|(exact hT.fin fun wa bC=>h17 (by simp [eB.yR, *]) wa bC)
  ·repeat' first|refine bO ?_;intros|(with_reducible refine XJ _ _ ?_ ?_ ?_);(· kernel_rfl);all_goals intros|(with_reducible refine QG _ _ ?_ ?_ ?_);(· kernel_rfl);all_goals intros|with_reducible apply dG|(refine aaj kQ ?_)|(refine aak (by decide) kQ ?_)|(exact eM (hl.length-(i+1)) zQ (Cl (by simp [eB.yR, *]) _ (by simp) (ak.iS hs.has)))|(exact hT.fin fun wa bC=>h17 (by simp [eB.yR, *]) wa bC)
 ·rw [hd] at Cx Yj;have acD:(hl.map (·.2)).any f.yR=false:=by rw [qt];exact Cx
  have acE:(hl.map (·.2)).any f.Ig=q:=by rw [qt];exact Yj.trans (Bool.or_false q)
  cases q
  ·have e:lp (hl.map (·.2)) f=0:=by unfold lp;rw [if_neg (by simp [lB]),if_neg (by simp [Yi]),if_neg (by simp [acD]),if_neg (by simp [acE])]
   rw [e];simp only [if_true];have agG:=hm lB;have ry:1≤f.gF∧f.gF≤12:=by
    have:=lB;simp only [eB.may,Bool.and_eq_true,decide_eq_true_eq] at this;exact⟨this.1.1,this.1.2.1⟩
   repeat' first|refine bO ?_;intros
   refine ek (Od mg hr ry zQ agG) kQ hs.has ?_;rintro _ wa1 w1 X1 ⟨i1,bb,rfl,hP⟩ N4 H3 aq;have de:=hT.since aq;have h1:=h.mv (aq.jB hT.bg);have zJ:=h1.box.mv (Mv.sub de.bg);repeat' first|refine aD ?_;intros
   refine ek (T6 (f:=f) (BW.mv de.s.mv) hb) kQ de.s.has ?_;rintro _ yM w2 X2 ⟨oE,rfl,ho⟩ nW kZ dI;have b8:=de.since dI;have h2:=h1.mv (dI.jB de.bg);have jb:Own w2 X2 w1.heap.size 118 4 oE (f.writes.map KV.l):=ho.up kZ nW;have oo:=jb.sl.one;obtain⟨xb,xn,xc,rfl⟩:=jb.sl.form;refine vO b8.s.has kQ rfl fun vv w3 X3 dZ Px=>?_;have dz:=b8.since dZ;have h3:=h2.mv (dZ.jB b8.bg);have hvo:=Px.ow;have rz: ∀q,F q→q<w1.heap.size:=fun q hq=>de.s.has q (de.bg q hq);have fB:w1.heap.size≤w2.heap.size:=dI.kp.size;have ad5:w2.heap.size≤w3.heap.size:=dZ.kp.size;have Pa:Own w3 X3 w1.heap.size 118 4 (.slice xb xn xc) (f.writes.map KV.l):=jb.since dZ;refine dz.call (ab5 (x:=(.slice xb xn xc,f)) h3.ow dz.bg (S:=dK vv) hvo.tight (fun k ah=>⟨(hvo.bg ah).1,fun A4=>by have:=(Px.ge ah).1;have:=rz k (h3.ow.bg A4).1;omega⟩) oo (fun y hy=>(h3.ws y hy).one) hP.le zQ) kQ (fun k ah=>(h3.ow.bg ah).1) ?_;rintro v AU w4 X4 ⟨F1,ho4,Fi⟩ En CC eY c4;have jU: ¬dK hv sb:=fun ah=>h3.ow.gd h3.box kQ ah;have JL:=mW (h3.box.mv (Mv.sub dz.bg)) c4 jU;repeat' first|refine aD ?_;intros
   have MM:=ho4.one;refine Af (o:=0) JL zQ kQ (by simp) MM eY.s.has fun w5 X5 c5 hr5=>?_;have aaI: ∀q,F1 q→X4 q∧(F q∨w0.heap.size≤q):=fun q hq=>by
    rcases Fi q hq with hb|hm
    ·exact⟨c4.sub q (dz.bg q (h3.ow.bg hb).1),.inl (h3.ow.bg hb).1⟩
    ·exact⟨CC q hm,.inr (af dz.s.kp.size (af En hm.1))⟩
   have LI: ∀q,X3 q→q≠sb→ ¬dK hv q→w5.heap[q]? =w3.heap[q]? ∧X5 q:=fun q hq h1 h2=>⟨(c5.block q (c4.sub q hq) h1).trans (c4.block q hq h2),c5.sub q (c4.sub q hq)⟩;have fQ:Ft w0 F w5 X5 (fun k=>F k∨(X5 k∧w0.heap.size≤k)):=((eY.less fun k ah=>.inl ah).dF (F':=F) c5 (fun k ah=>by subst ah;exact h.box.1) fun k ah=>.inl ah).more fun k ah=>ah;have bW: ∀{g:Nat} {v':Value} {rows:List (List Value)} {Y:XS},Ow w3 Y 118 4 v' rows→v'.ownBlock=some g→g≠sb∧ ¬dK hv g:=fun {g v' rows Y} tF hg=>
    ⟨fun e=>tF.gd h3.box kQ (by rw [←e];exact hg),fun e=>by
     obtain⟨q1,e1⟩:=tF.tag hg;obtain⟨q2,e2⟩:=h3.ow.tag e;rw [e1] at e2;simp at e2⟩
   refine fQ.fin fun wa bC=>⟨rfl,_,v,hl.take i1++[(.slice xb xn xc,f)]++hl.drop i1,fQ.nV bC fun _ h=>h,gD.mv (w:=w5) (F:=fun k=>F k∨(X5 k∧w0.heap.size≤k)) ⟨⟨.inl h.box.1,hr5.2⟩,?_,fun x hx=>?_⟩ (bC.j6 fQ.bg),i1,_,hP,rfl⟩
   ·refine ho4.tight.mv fun q hq _=>?_;obtain⟨q1,q2⟩:=aaI q (ho4.bg hq).1;have hqs:q≠sb:=fun e=>ho4.gd JL kQ (by rw [←e];exact hq);exact⟨q2.imp id fun h=>⟨c5.sub q q1,h⟩,c5.block q q1 hqs⟩
   ·rcases List.mem_append.1 hx with hx|hx
    ·rcases List.mem_append.1 hx with hx|hx
     ·have te:=h3.ws x (List.mem_of_mem_take hx);exact te.tight.mv fun q hq _=>⟨.inl (te.bg hq).1,(LI q (dz.bg q (te.bg hq).1) (bW te hq).1 (bW te hq).2).1⟩
     ·simp only [en] at hx;subst hx;have te:=Pa.ow;refine te.tight.mv fun q hq _=>?_;have A4:=LI q (te.bg hq).1 (bW te hq).1 (bW te hq).2;exact⟨.inr ⟨A4.2,af de.s.kp.size (Pa.ge hq).1⟩,A4.1⟩
    ·have te:=h3.ws x (eh hx);exact te.tight.mv fun q hq _=>⟨.inl (te.bg hq).1,(LI q (dz.bg q (te.bg hq).1) (bW te hq).1 (bW te hq).2).1⟩
  ·have e:lp (hl.map (·.2)) f=18:=by unfold lp;rw [if_neg (by simp [lB]),if_neg (by simp [Yi]),if_neg (by simp [acD]),if_pos (by simp [acE])]
   repeat' first|refine bO ?_;intros
   exact hT.fin fun wa bC=>⟨by rw [e],nq hT h (by rw [e];decide) wa bC⟩
end Go.Proofs.YtfndblbeikocdaaGreat
