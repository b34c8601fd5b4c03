/-
 Part 5 of the proof: what the last text leans on.
-/
import Derived.Test.YtpdkoaklobnegaaGreatH4
open List renaming map_cons → bh, map_append → bq, find?_cons → dN, mem_singleton → bo, range → dO, replicate → gz, length_append → ae, length_map → aS, sum_cons → eZ, length_nil → cA, all_cons → jt, length_take → bQ, length_cons → bC, append_assoc → ax, take_add_one → dI, take_of_length_le → cl, length_eq_zero_iff → nE, getLast?_eq_some_getLast → lx, filter_cons_of_neg → rI, filter_cons_of_pos → rJ, pairwise_cons → vP, length_singleton → jj, take_length → dV, dropLast_concat_getLast → pa, pairwise_singleton → rK, mem_cons_of_mem → bm
open Nat renaming zero_le → aV, lt_of_lt_of_le → aU, le_trans → ah, zero_add → fH, le_refl → bp
open Bool renaming false_eq_true → bA
open Go.Value renaming cells → ad, string → cz, int → aA
open Option.some renaming inj → bK
open BitVec renaming ofInt → aP
open Ne renaming symm → vQ
open Go.Op renaming unary → aY
open Go.IntKind renaming bits → jh, signed → gT, wrap → kr
open ByteArray renaming size_append → oF
open Option renaming toList_some → vR
open List.cons renaming injEq → yY
open Go.Builtin renaming len_ → kg
open Int renaming toNat_of_nonneg → uR
set_option linter.unusedVariables false
set_option linter.unusedSimpArgs false
namespace Go.Proofs.YtpdkoaklobnegaaGreat
open Go.Proofs.Tryz renaming prog → pg
open Go.fR
set_option maxRecDepth 100000
set_option maxHeartbeats 1000000
set_option linter.unusedVariables false
set_option linter.unusedSimpArgs false
attribute [local irreducible] un jn bz aQ aX gL eo dx cr nu fF mO BK AB jc iS aa ay aF eW eV eU eC eF gE ao fin aN aH aI vS BL jB lq wK D9 Ea Eb Ec BM jC lr wL Ed Ee Ef Eg
abbrev gf:Value:=.slice none 0 0
abbrev MA (kd fr to:Int) (prev st:bZ) (t:gM) (a:Value):Value:=.agg #[I kd,I fr,I to,I t.jR,I t.nj,I t.sq,I 0,I 0,I 0,I st.wall,I st.fA,I st.node,I prev.wall,I prev.fA,I prev.node,
 B false,I 0,I 0,gf,gf,a,gf,gf,gf,I 0,I 0,.float .f64 0,.float .f64 0,I 0,I 0,I 0,I 0,I 0,I 0,gf,gf]
def ub (n:Int):Bool:=(decide (n≥1)&&decide (n≤12))||(decide (n>20)&&decide (n≤22))||decide (n=31)||decide (n=32)
theorem wg (n:Int):Pure pg 163 #[I n] (B (decide (n≥1)&&decide (n≤12))):=by
 intro w
 apply PN;unfold EA
 have hs:=aj.init w
 repeat' first|with_reducible (first|apply dz|apply cL|apply cM|apply cu|apply bE|apply bt)|(with_reducible apply jK<;>intro _)|(with_reducible apply mG<;>intro _)|(with_reducible refine fI hs ?_);simp_all<;>omega
theorem LS (n:Int):Pure pg 100 #[I n] (B (ub n)):=by
 intro w
 apply TL;unfold II
 have hs:=aj.init w
 repeat' first|with_reducible (first|apply dz|apply dG|apply fb|apply cL|apply oR|apply cM|apply cD|apply iB|apply cu|apply dW|apply pS|apply bE|apply bt)|(with_reducible apply gF<;>intro _)|(with_reducible apply jK<;>intro _)|(with_reducible apply kF<;>intro _)|((with_reducible refine dU (wg _) ?_ hs.has ?_ ?_);(· kernel_rfl);all_goals (intro _ w X au;replace hs:=hs.trans au))|(with_reducible refine fI hs ?_);simp_all [ub]<;>omega
theorem P7 {fr to:Int} {prev st:bZ} {t:gM} {a:Value} (ha:fR.one a=true):Pure pg 99 #[MA 12 fr to prev st t a] (.tuple #[MA 12 fr to bZ.zero bZ.zero gM.zero gf,B true]):=by
 intro w
 apply C5;unfold xJ
 have hs:=aj.init w
 repeat' first|with_reducible (first|apply aD|apply ak)|(with_reducible apply ji);exact qN|(with_reducible apply CF);exact qN|with_reducible apply ff|(with_reducible apply gF<;>intro _)|(with_reducible apply gg);(· kernel_rfl)|(with_reducible apply fj);(case h=>exact qE)|(with_reducible apply Ek);(case h=>exact qE)|(with_reducible apply eh);exact qC|with_reducible apply dY|((with_reducible refine fI hs ?_);(first|rfl|(exfalso;omega)))
theorem WB {kd fr to:Int} :Pure pg 101 #[MA kd fr to bZ.zero bZ.zero gM.zero gf] (B true):=by
 intro w
 apply Jc;unfold BY
 have hs:=aj.init w
 have hn0:Sl w (aW w) 1 gf (([]:List KV).map KV.l):=Sl.nil _ _ _
 repeat' first|with_reducible (first|apply dz|apply cL|apply cM|apply cu|apply bE|apply bt|apply pD|apply oA|apply gv)|(with_reducible apply gF<;>intro _)|(with_reducible apply bS);exact qO;(· kernel_rfl)|(with_reducible apply gg);(· kernel_rfl)|(with_reducible refine zZ _ ?_ ?_ ?_);(· kernel_rfl);all_goals intros|(with_reducible refine T5 _ ?_ ?_ ?_);(· kernel_rfl);all_goals intros|(with_reducible apply Is);(· kernel_rfl);all_goals intros|(with_reducible apply Ek);(case h=>exact qE)|(with_reducible apply cx);omega;omega|with_reducible apply dY|((with_reducible refine fI hs ?_);(first|rfl|(exfalso;simp_all;done)|(exfalso;omega)))|((with_reducible refine xm (wA _) hs.has ?_);intro w X au;replace hs:=hs.trans au;replace hn0:Sl w X 1 gf (([]:List KV).map KV.l):=Sl.nil _ _ _)
theorem Sd {w:World} {X:XS} {fr to:Int} {prev st:bZ} {t:gM} {a:Value} {l:List KV} (h:Sl w X 4 a (l.map KV.l)) (hb:l.length≤2^40):
  Ct pg 102 #[MA 12 fr to prev st t a] w X nX fun v _ _=>v=B (iJ prev st t l):=by
 intro w0 hk
 replace h:=h.mv hk.dA
 have o1:=h.one
 apply EO;unfold zd
 have hs:=aj.init w0
 repeat' first|with_reducible (first|apply aD|apply ak|apply dz|apply cL|apply cM|apply cu|apply bE|apply bt|apply pD|apply oA)|(with_reducible apply gF<;>intro _)|(with_reducible apply jK<;>intro _)|(with_reducible apply mG<;>intro _)|with_reducible apply dY|((with_reducible refine dU (wg _) ?_ hs.has ?_ ?_);(· kernel_rfl);all_goals (intro _ w X au;replace hs:=hs.trans au))|((with_reducible refine dU (oM _) ?_ hs.has ?_ ?_);(· kernel_rfl);all_goals (intro _ w X au;replace hs:=hs.trans au))|(exfalso;omega)|((first|(with_reducible refine aq hs ?_)|(with_reducible refine aq (cg.trans hs) ?_));intro wa hk;(rfl))|(refine dt (Ca  qA hb) (by kernel_rfl) hs.has ?_;intro w X au;replace hs:=hs.trans au)
theorem YU {w:World} {X:XS} {fr to:Int} {prev st:bZ} {t:gM} {a:Value} {l:List KV} (h:Sl w X 4 a (l.map KV.l)) (hb:l.length≤2^40):
  Ct pg 52 #[MA 12 fr to prev st t a] w X nX fun v _ _=>v=I (if ub fr&&ub to&&iJ prev st t l then 0 else 4):=by
 intro w0 hk
 replace h:=h.mv hk.dA
 have o1:=h.one
 apply LH;unfold Dx
 have hs:=aj.init w0
 repeat' first|with_reducible (first|apply aD|apply ak)|(with_reducible apply ji);exact qN|with_reducible (first|apply ff|apply dG|apply fb|apply cD|apply dW|apply bE|apply bt|apply oz|apply pP|apply eY|apply gv)|(with_reducible apply fp);rfl|(with_reducible apply fj);(case h=>exact qE)|(with_reducible apply eh);exact qC|with_reducible apply dY|((with_reducible refine dU (LS _) ?_ hs.has ?_ ?_);(· kernel_rfl);all_goals (intro _ w X au;replace hs:=hs.trans au))|((first|(with_reducible refine aq hs ?_)|(with_reducible refine aq (cg.trans hs) ?_));intro wa hk;(simp_all))|(refine iO (P7 o1) (by kernel_rfl) hs.has ?_;intro w X au;replace hs:=hs.trans au)|(refine iO WB (by kernel_rfl) hs.has ?_;intro w X au;replace hs:=hs.trans au)|(refine gZ (Sd  qA hb) (by kernel_rfl) hs.has ?_ ?_<;>(intro _ w X au;replace hs:=hs.trans au))
@[ext] structure nz where
 key:BA
 val:fq
 br:bZ
 deriving DecidableEq
abbrev nz.l (x:nz):List Value:=[.string x.key,I x.val.kind,.float .f64 x.val.num,.string x.val.text,I x.br.wall,I x.br.fA,I x.br.node]
@[ext] structure gR where
 kind:Int
 fr:Int
 to:Int
 dH:gM
 range:Int
 lf:Int
 code:Int
 br:bZ
 prev:bZ
 ko:Bool
 n:Int
 mx:Int
 keys:List BA
 seen:List nz
 writes:List KV
 parts:List Int
 ranges:List mn
 bY:List Rec
 state:State
 deriving DecidableEq
abbrev gR.l (m:gR) (vk vs vw vp vr vc vh vd:Value):List Value:=[I m.kind,I m.fr,I m.to,I m.dH.jR,I m.dH.nj,I m.dH.sq,I m.range,I m.lf,I m.code,
 I m.br.wall,I m.br.fA,I m.br.node,I m.prev.wall,I m.prev.fA,I m.prev.node,B m.ko,I m.n,I m.mx,vk,vs,vw,vp,vr,vc,
 I m.state.range.id,I m.state.range.lf,.float .f64 m.state.range.lo,.float .f64 m.state.range.hi,
 I m.state.floor.wall,I m.state.floor.fA,I m.state.floor.node,I m.state.closed.wall,I m.state.closed.fA,I m.state.closed.node,vh,vd]
abbrev gR.v (m:gR) (vk vs vw vp vr vc vh vd:Value):Value:=.agg #[I m.kind,I m.fr,I m.to,I m.dH.jR,I m.dH.nj,I m.dH.sq,I m.range,I m.lf,I m.code,
 I m.br.wall,I m.br.fA,I m.br.node,I m.prev.wall,I m.prev.fA,I m.prev.node,B m.ko,I m.n,I m.mx,vk,vs,vw,vp,vr,vc,
 I m.state.range.id,I m.state.range.lf,.float .f64 m.state.range.lo,.float .f64 m.state.range.hi,
 I m.state.floor.wall,I m.state.floor.fA,I m.state.floor.node,I m.state.closed.wall,I m.state.closed.fA,I m.state.closed.node,vh,vd]
structure gR.at (w:World) (X:XS) (m:gR) (vk vs vw vp vr vc vh vd:Value):Prop where
 keys:Sl w X 1 vk (m.keys.map S1)
 seen:Sl w X 7 vs (m.seen.map nz.l)
 writes:Sl w X 4 vw (m.writes.map KV.l)
 parts:Sl w X 1 vp (m.parts.map I1)
 ranges:Sl w X 4 vr (m.ranges.map mn.l)
 bY:iw w X 29 vc Rec.rd m.bY
 iF:mW w X vh m.state.iF
 iD:mC w X vd m.state.iD
theorem gR.at.mv {w w':World} {X Y:XS} {m:gR} {vk vs vw vp vr vc vh vd:Value} (h:m.at w X vk vs vw vp vr vc vh vd) (v:Mv X w Y w'):m.at w' Y vk vs vw vp vr vc vh vd:=
 ⟨h.keys.mv v,h.seen.mv v,h.writes.mv v,h.parts.mv v,h.ranges.mv v,iw.mv h.bY Rec.mv v,iw.mv h.iF jO.mv v,iw.mv h.iD fk.mv v⟩
def gR.rd (w:World) (X:XS) (l:List Value) (m:gR):Prop:= ∃vk vs vw vp vr vc vh vd,l=m.l vk vs vw vp vr vc vh vd∧m.at w X vk vs vw vp vr vc vh vd
theorem gR.mv:Fo gR.rd:=fun ⟨vk,vs,vw,vp,vr,vc,vh,vd,h,h1⟩ m=>⟨vk,vs,vw,vp,vr,vc,vh,vd,h,h1.mv m⟩
theorem DI {w:World} {X:XS} {a:Value} {xs:List BA} (ha:Sl w X 1 a (xs.map S1)):
  Ct pg 239 #[a] w X nX fun v _ _=>v=B (sa xs):=by
 intro w0 hk
 replace ha:=ha.mv hk.dA
 have nw:=ha.gW
 apply TQ;unfold IQ
 have hs:=aj.init w0
 repeat' first|(with_reducible apply bS);exact qO;(· kernel_rfl)
 refine fK (fun n a w X=> ∃i:Nat,a=I (i:Nat)∧n=(xs).length-i∧i≤(xs).length∧aj (aW w0) w0 X w∧chain g8 kO none xs=chain g8 kO (pT xs i) (xs.drop i)) (xs).length ⟨0,rfl,rfl,aV _,hs,by simp [pT]⟩ ?_
 rintro n a w X ⟨i,rfl,rfl,hi,hs,hw⟩
 rcases fh (xs) i with⟨dh,x,hx,hd⟩|⟨eI,hd⟩
 ·rcases Kj dh with⟨h0,hp⟩|⟨h0,y,hy,hp⟩<;>rw [hp,hd,chain] at hw<;>clear hd
  ·repeat' first|(with_reducible refine dC ?_ ?_);omega|(with_reducible refine lN ?_ ?_);omega|with_reducible (first|apply aD|apply ak|apply dG|apply fb|apply cL|apply oR|apply cD|apply iB|apply cu|apply dW|apply pS|apply bE|apply bt|apply eY|apply gv)|(with_reducible apply aZ);exact qF;exact qM;(· kernel_rfl);rfl|((with_reducible apply e7);exact qO;(try (case hz=>rfl));(case hr=>exact qR);(try (case hz=>omega));(case ht=>kernel_rfl);(case hs=>kernel_rfl);intro _ _ _)|(with_reducible apply cx);omega;omega|((with_reducible refine dU (qi _) ?_ hs.has ?_ ?_);(· kernel_rfl);all_goals (intro _ w X au;replace hs:=hs.trans au))|((first|(with_reducible refine aq hs ?_)|(with_reducible refine aq (cg.trans hs) ?_));intro wa hk;simp_all [sa,rising,chain])|((with_reducible refine ga ((xs).length-(i+1)) ?_ ?_);omega;exact⟨i+1,by simp,rfl,by omega,hs,by rw [hw,oL hx];simp [*]⟩)
  ·repeat' first|(with_reducible refine dC ?_ ?_);omega|(with_reducible refine BO ?_ ?_);omega|with_reducible (first|apply aD|apply ak|apply dz|apply dG|apply fb|apply oR|apply cM|apply cD|apply iB|apply dW|apply pS|apply bE|apply bt|apply eY|apply gv)|(with_reducible apply Tf<;>intro _)|(with_reducible apply aZ);exact qF;exact qM;(· kernel_rfl);rfl|((with_reducible apply e7);exact qO;(try (case hz=>rfl));(case hr=>exact qR);(try (case hz=>omega));(case ht=>kernel_rfl);(case hs=>kernel_rfl);intro _ _ _)|(with_reducible apply cx);omega;omega|(with_reducible apply kY);omega;omega|((with_reducible refine dU (qi _) ?_ hs.has ?_ ?_);(· kernel_rfl);all_goals (intro _ w X au;replace hs:=hs.trans au))|((first|(with_reducible refine aq hs ?_)|(with_reducible refine aq (cg.trans hs) ?_));intro wa hk;simp_all [sa,rising,chain])|((with_reducible refine ga ((xs).length-(i+1)) ?_ ?_);omega;exact⟨i+1,by simp,rfl,by omega,hs,by rw [hw,oL hx];simp [*]⟩)
 ·repeat' first|(with_reducible refine dm ?_ ?_);omega|with_reducible apply ak|(with_reducible apply jK<;>intro _)|(with_reducible apply bS);exact qO;(· kernel_rfl)|((first|(with_reducible refine aq hs ?_)|(with_reducible refine aq (cg.trans hs) ?_));intro wa hk;simp_all [sa,rising,chain]<;>omega)
def nz.may (x:nz):Bool:=x.br.may&&x.val.may&&!(decide (x.br= .zero)&&decide (x.val.kind≠0))
def E5 (l:List nz):Bool:=l.all nz.may&&sa (l.map (·.key))
theorem WC {w:World} {X:XS} {a:Value} {xs:List nz} (ha:Sl w X 7 a (xs.map nz.l)) (hb:xs.length≤2^40):
  Ct pg 241 #[a] w X nX fun v _ _=>v=B (E5 xs):=by
 intro w0 hk
 replace ha:=ha.mv hk.dA
 have nw:=ha.gW
 apply TS;unfold IT
 have hs:=aj.init w0
 repeat' first|(with_reducible apply bS);exact qO;(· kernel_rfl)
 refine iN (fun n a b w X=> ∃i:Nat,a=I i∧n=xs.length-i∧i≤xs.length∧aj (aW w0) w0 X w∧Own w X w0.heap.size 9 1 b (((xs.take i).map (·.key)).map S1)∧xs.all nz.may=(xs.drop i).all nz.may) xs.length ⟨0,rfl,rfl,aV _,hs,Own.nil _ _ _ _ _,by simp⟩ ?_
 rintro n a b w X ⟨i,rfl,rfl,hi,hs,ho,hw⟩
 rcases fh (xs) i with⟨dh,x,hx,hd⟩|⟨eI,hd⟩
 ·rw [hd,jt] at hw
  have Da: ∀q:Bool,q=false→x.may=q→E5 xs=false:=fun q hq h=>by simp [E5,hw,h,hq]
  repeat' first|(with_reducible refine dC ?_ ?_);omega|with_reducible (first|apply aD|apply ak)|(with_reducible apply gP);rfl|(with_reducible apply ji);exact qN|with_reducible (first|apply ff|apply dz|apply dG|apply fb|apply cL|apply oR|apply cM|apply cD|apply iB|apply cu|apply dW|apply pS|apply bE|apply bt|apply oz|apply pP|apply eY|apply gv)|(with_reducible apply kG<;>intro _)|(with_reducible apply fP);exact qF;exact qM;(· kernel_rfl);rfl|((with_reducible apply e7);exact qO;(try (case hz=>rfl));(case hr=>exact qR);(try (case hz=>omega));(case ht=>kernel_rfl);(case hs=>kernel_rfl);intro _ _ _)|(with_reducible apply gg);(· kernel_rfl)|(with_reducible refine zZ _ ?_ ?_ ?_);(· kernel_rfl);all_goals intros|(with_reducible apply fj);(case h=>exact qE)|(with_reducible apply eh);exact qC|(with_reducible apply cx);omega;omega|((with_reducible apply Kk);(case own=>first|assumption|exact Own.since (by assumption) (by assumption));(case hs=>assumption);(case h0=>first|exact fun _ h=>h|exact cg.has);(case he=>kernel_rfl);(case hk=>rfl);(case ho=>first|rfl|assumption);(case hb=>(simp only [aS,bQ,ae,bC,cA];omega));(case hl=>(simp only [aS,bQ,ae,bC,cA];omega));intro acc w X au ho hc gQ;replace hs:=au)|with_reducible apply dY|((with_reducible refine dU (mz _) ?_ hs.has ?_ ?_);(· kernel_rfl);all_goals (intro _ w X au;replace hs:=hs.trans au))|((with_reducible refine dU (oM _) ?_ hs.has ?_ ?_);(· kernel_rfl);all_goals (intro _ w X au;replace hs:=hs.trans au))|((first|(with_reducible refine aq hs ?_)|(with_reducible refine aq (cg.trans hs) ?_));intro wa hk;(exact(congrArg B (Da false rfl (by clear Da;grind [nz.may]))).symm))|((with_reducible refine iC ((xs).length-(i+1)) ?_ ?_);omega;exact⟨i+1,by simp,rfl,by omega,hs,by rw [dI,hx];simp only [vR,bq,bh,List.map_nil];(first|exact Own.since ho (by assumption)|exact Own.since (Own.since ho (by assumption)) (by assumption)),by rw [hw];clear Da;grind [nz.may]⟩)
 ·rw [hd] at hw
  rw [cl eI] at ho
  repeat' first|(with_reducible refine dm ?_ ?_);omega|with_reducible apply ak|((first|(with_reducible refine aq hs ?_)|(with_reducible refine aq (cg.trans hs) ?_));intro wa hk;(rename_i h;simp [E5,hw,h]))|(refine gZ (DI  (Own.sl ho)) (by kernel_rfl) hs.has ?_ ?_<;>(intro _ w X au;replace hs:=hs.trans au))
theorem P8 {w:World} {X:XS} {a:Value} {xs:List KV} (ha:Sl w X 4 a (xs.map KV.l)) (hb:xs.length≤2^40):
  Ct pg 242 #[a] w X nX fun v _ _=>v=B (Jj xs):=by
 intro w0 hk
 replace ha:=ha.mv hk.dA
 have nw:=ha.gW
 apply Ob;unfold CZ
 have hs:=aj.init w0
 repeat' first|(with_reducible apply bS);exact qO;(· kernel_rfl)
 refine iN (fun n a b w X=> ∃i:Nat,a=I i∧n=xs.length-i∧i≤xs.length∧aj (aW w0) w0 X w∧Own w X w0.heap.size 9 1 b (((xs.take i).map (·.key)).map S1)∧xs.all (·.val.may)=(xs.drop i).all (·.val.may)) xs.length ⟨0,rfl,rfl,aV _,hs,Own.nil _ _ _ _ _,by simp⟩ ?_
 rintro n a b w X ⟨i,rfl,rfl,hi,hs,ho,hw⟩
 rcases fh (xs) i with⟨dh,x,hx,hd⟩|⟨eI,hd⟩
 ·rw [hd,jt] at hw
  have Da:x.val.may=false→Jj xs=false:=fun h=>by simp [Jj,hw,h]
  repeat' first|(with_reducible refine dC ?_ ?_);omega|with_reducible (first|apply aD|apply ak)|(with_reducible apply gP);rfl|(with_reducible apply ji);exact qN|with_reducible (first|apply ff|apply eY|apply gv)|(with_reducible apply fP);exact qF;exact qM;(· kernel_rfl);rfl|((with_reducible apply e7);exact qO;(try (case hz=>rfl));(case hr=>exact qR);(try (case hz=>omega));(case ht=>kernel_rfl);(case hs=>kernel_rfl);intro _ _ _)|(with_reducible apply fj);(case h=>exact qE)|(with_reducible apply eh);exact qC|(with_reducible apply cx);omega;omega|((with_reducible apply Kk);(case own=>first|assumption|exact Own.since (by assumption) (by assumption));(case hs=>assumption);(case h0=>first|exact fun _ h=>h|exact cg.has);(case he=>kernel_rfl);(case hk=>rfl);(case ho=>first|rfl|assumption);(case hb=>(simp only [aS,bQ,ae,bC,cA];omega));(case hl=>(simp only [aS,bQ,ae,bC,cA];omega));intro acc w X au ho hc gQ;replace hs:=au)|((with_reducible refine dU (mz _) ?_ hs.has ?_ ?_);(· kernel_rfl);all_goals (intro _ w X au;replace hs:=hs.trans au))|((first|(with_reducible refine aq hs ?_)|(with_reducible refine aq (cg.trans hs) ?_));intro wa hk;(exact(congrArg B (Da (by assumption))).symm))|((with_reducible refine iC ((xs).length-(i+1)) ?_ ?_);omega;exact⟨i+1,by simp,rfl,by omega,hs,by rw [dI,hx];simp only [vR,bq,bh,List.map_nil];exact Own.since ho (by assumption),by rw [hw];clear Da;simp [*]⟩)
 ·rw [hd] at hw
  rw [cl eI] at ho
  repeat' first|(with_reducible refine dm ?_ ?_);omega|with_reducible apply ak|((first|(with_reducible refine aq hs ?_)|(with_reducible refine aq (cg.trans hs) ?_));intro wa hk;(rename_i h;simp [Jj,hw,h]))|(refine gZ (DI  (Own.sl ho)) (by kernel_rfl) hs.has ?_ ?_<;>(intro _ w X au;replace hs:=hs.trans au))
def Kt (l:List mn):Bool:=l.all mn.may&&decide ((l.length:Int)≤12)
theorem Uv {w:World} {X:XS} {a:Value} {xs:List mn} (ha:Sl w X 4 a (xs.map mn.l)):
  Ct pg 313 #[a] w X nX fun v _ _=>v=B (Kt xs):=by
 intro w0 hk
 replace ha:=ha.mv hk.dA
 have nw:=ha.gW
 apply RY;unfold Hg
 have hs:=aj.init w0
 repeat' first|(with_reducible apply bS);exact qO;(· kernel_rfl)
 refine fK (fun n a w X=> ∃i:Nat,a=I (i:Nat)∧n=(xs).length-i∧i≤(xs).length∧aj (aW w0) w0 X w∧xs.all mn.may=(xs.drop i).all mn.may) (xs).length ⟨0,rfl,rfl,aV _,hs,by simp⟩ ?_
 rintro n a w X ⟨i,rfl,rfl,hi,hs,hw⟩
 rcases fh (xs) i with⟨dh,x,hx,hd⟩|⟨eI,hd⟩
 ·rw [hd,jt] at hw
  repeat' first|(with_reducible refine dC ?_ ?_);omega|with_reducible (first|apply aD|apply ak)|(with_reducible apply ji);exact qN|with_reducible (first|apply ff|apply eY|apply gv)|(with_reducible apply fP);exact qF;exact qM;(· kernel_rfl);rfl|((with_reducible apply e7);exact qO;(try (case hz=>rfl));(case hr=>exact qR);(try (case hz=>omega));(case ht=>kernel_rfl);(case hs=>kernel_rfl);intro _ _ _)|(with_reducible apply fj);(case h=>exact qE)|(with_reducible apply eh);exact qC|(with_reducible apply cx);omega;omega|((with_reducible refine dU (LK _) ?_ hs.has ?_ ?_);(· kernel_rfl);all_goals (intro _ w X au;replace hs:=hs.trans au))|((first|(with_reducible refine aq hs ?_)|(with_reducible refine aq (cg.trans hs) ?_));intro wa hk;(simp [Kt,hw, *]))|((with_reducible refine ga ((xs).length-(i+1)) ?_ ?_);omega;exact⟨i+1,by simp,rfl,by omega,hs,by rw [hw];simp [*]⟩)
 ·rw [hd] at hw
  repeat' first|(with_reducible refine dm ?_ ?_);omega|with_reducible apply ak|(with_reducible apply jK<;>intro _)|(with_reducible apply bS);exact qO;(· kernel_rfl)|((first|(with_reducible refine aq hs ?_)|(with_reducible refine aq (cg.trans hs) ?_));intro wa hk;(simp_all [Kt]))
def codeOk (c:Int) (Uw:Bool) (l:List mn):Bool:=if c=0 then Uw&&decide (l=[])else decide (c>0)&&decide (c≤25)&&Kt l
theorem WD {w:World} {X:XS} {c:Int} {Uw:Bool} {a:Value} {xs:List mn} (ha:Sl w X 4 a (xs.map mn.l)):
  Ct pg 240 #[I c,B Uw,a] w X nX fun v _ _=>v=B (codeOk c Uw xs):=by
 intro w0 hk
 replace ha:=ha.mv hk.dA
 have nw:=ha.gW
 have aca:xs.length=0↔xs=[]:=nE
 apply TR;unfold IS
 have hs:=aj.init w0
 cases Uw<;>
 repeat' first|with_reducible (first|apply aD|apply ak|apply dz|apply cL|apply cM|apply cu|apply bE|apply bt|apply pD|apply oA)|(with_reducible apply gF<;>intro _)|(with_reducible apply jK<;>intro _)|(with_reducible apply kF<;>intro _)|(with_reducible apply bS);exact qO;(· kernel_rfl)|with_reducible apply dY|((first|(with_reducible refine aq hs ?_)|(with_reducible refine aq (cg.trans hs) ?_));intro wa hk;(simp_all [codeOk]<;>omega))|(refine gZ (Uv  qA) (by kernel_rfl) hs.has ?_ ?_<;>(intro _ w X au;replace hs:=hs.trans au))
def Ku (l:List Int) (n:Int):Bool:=l.any fun x=>decide (x=n)
theorem YV {w:World} {X:XS} {z:Int} {a:Value} {xs:List Int} (ha:Sl w X 1 a (xs.map I1)):
  Ct pg 244 #[a,I z] w X nX fun v _ _=>v=B (Ku xs z):=by
 intro w0 hk
 replace ha:=ha.mv hk.dA
 have nw:=ha.gW
 apply Wl;unfold Lz
 have hs:=aj.init w0
 repeat' first|(with_reducible apply bS);exact qO;(· kernel_rfl)
 refine fK (fun n a w X=> ∃i:Nat,a=I (i:Nat)∧n=(xs).length-i∧i≤(xs).length∧aj (aW w0) w0 X w∧Ku xs z=Ku (xs.drop i) z) (xs).length ⟨0,rfl,rfl,aV _,hs,by simp⟩ ?_
 rintro n a w X ⟨i,rfl,rfl,hi,hs,hw⟩
 rcases fh (xs) i with⟨dh,x,hx,hd⟩|⟨eI,hd⟩
 ·rw [hd] at hw
  repeat' first|(with_reducible refine dC ?_ ?_);omega|with_reducible (first|apply aD|apply ak)|(with_reducible apply gF<;>intro _)|(with_reducible apply aZ);exact qF;exact qM;(· kernel_rfl);rfl|((with_reducible apply e7);exact qO;(try (case hz=>rfl));(case hr=>exact qR);(try (case hz=>omega));(case ht=>kernel_rfl);(case hs=>kernel_rfl);intro _ _ _)|(with_reducible apply cx);omega;omega|((first|(with_reducible refine aq hs ?_)|(with_reducible refine aq (cg.trans hs) ?_));intro wa hk;(rw [hw];simp [Ku, *]))|((with_reducible refine ga ((xs).length-(i+1)) ?_ ?_);omega;exact⟨i+1,by simp,rfl,by omega,hs,by rw [hw];simp [Ku, *]⟩)
 ·rw [hd] at hw
  repeat' first|(with_reducible refine dm ?_ ?_);omega|with_reducible apply ak|((first|(with_reducible refine aq hs ?_)|(with_reducible refine aq (cg.trans hs) ?_));intro wa hk;(rw [hw];rfl))
def Kv (l:List Rec):Bool:=l.all (fun r=>decide (r.tZ=0))&&decide ((l.length:Int)≤8)
theorem Ux {w:World} {X:XS} {a:Value} {xs:List Rec} (ha:iw w X 29 a Rec.rd xs) (ku: ∀r∈xs,r.small) (mQ: ∀r∈xs,r.err=0→(wD r).length≤2^33):
  Ct pg 166 #[a] w X nX fun v _ _=>v=B (Kv xs):=by
 intro w0 hk
 replace ha:=iw.mv ha Rec.mv hk.dA
 have nw:=ha.len
 apply RU;unfold Hc
 have hs:=aj.init w0
 repeat' first|(with_reducible apply nL);assumption;(· kernel_rfl)
 refine fK (fun n a w X=> ∃i:Nat,a=I (i:Nat)∧n=(xs).length-i∧i≤(xs).length∧aj (aW w0) w0 X w∧xs.all (fun r=>decide (r.tZ=0))=(xs.drop i).all (fun r=>decide (r.tZ=0))) (xs).length ⟨0,rfl,rfl,aV _,hs,by simp⟩ ?_
 rintro n a w X ⟨i,rfl,rfl,hi,hs,hw⟩
 rcases fh (xs) i with⟨dh,x,hx,hd⟩|⟨eI,hd⟩
 ·rw [hd,jt] at hw
  have XB:=List.mem_of_getElem? hx
  repeat' first|(with_reducible refine dC ?_ ?_);omega|with_reducible apply aD|(with_reducible apply ji);exact qN|with_reducible apply ff|(with_reducible apply fP);exact qF;exact qM;(· kernel_rfl);rfl|((with_reducible apply Xr);assumption;(try (case hz=>rfl));(case hr=>exact qR);(try (case hz=>omega));(case ht=>kernel_rfl);(case hs=>kernel_rfl);intros)|(with_reducible apply fj);(case h=>exact qE)|(with_reducible apply eh);exact qC
  refine dk (Sc (r:=x) (Rec.at.mv (by assumption) hs.mv) (ku x XB) (mQ x XB)) (by kernel_rfl) hs.has ?_
  rintro v wa w2 X2 hq hle hU b6
  replace hs:=hs.trans b6
  by_cases he:x.tZ=0
  ·rw [if_neg (by omega)] at hq
   obtain⟨vb,rfl,_⟩:=hq
   repeat' first|(with_reducible refine fL ?_ ?_);omega|with_reducible apply ak|(with_reducible apply fp);rfl|(with_reducible apply cx);omega;omega|((with_reducible refine ga ((xs).length-(i+1)) ?_ ?_);omega;exact⟨i+1,by simp,rfl,by omega,hs,by rw [hw];simp [he]⟩)
  ·rw [if_pos he] at hq
   subst hq
   repeat' first|(with_reducible refine xv ?_ ?_);omega|with_reducible apply aD|(with_reducible apply fp);rfl|((first|(with_reducible refine aq hs ?_)|(with_reducible refine aq (cg.trans hs) ?_));intro wa hk;(simp [Kv,hw,he]))
 ·rw [hd] at hw
  repeat' first|(with_reducible refine dm ?_ ?_);omega|with_reducible apply ak|(with_reducible apply jK<;>intro _)|(with_reducible apply nL);assumption;(· kernel_rfl)|((first|(with_reducible refine aq hs ?_)|(with_reducible refine aq (cg.trans hs) ?_));intro wa hk;(simp_all [Kv]))
structure gR.small (m:gR):Prop where
 seen:m.seen.length≤2^40
 writes:m.writes.length≤2^40
 bY: ∀r∈m.bY,r.small
 enc: ∀r∈m.bY,r.err=0→(wD r).length≤2^33
 state:m.state.small
def gR.P9 (m:gR):Bool:=m.dH.may&&sR m.range&&(
 if m.kind=1 then decide (m.lf≥0)&&m.br.may&&sa m.keys&&decide ((m.keys.length:Int)>0)
 else if m.kind=2 then codeOk m.code (E5 m.seen&&decide ((m.seen.length:Int)>0)) m.ranges&&m.br.may&&(decide (m.code=0)||decide ((m.seen.length:Int)=0))
 else if m.kind=3 then decide (m.lf≥0)&&m.br.may&&E5 m.seen&&Jj m.writes&&zg m.parts&&Ku m.parts m.range
 else if m.kind=4 then codeOk m.code true m.ranges&&m.br.may
 else if m.kind=5 then(if m.ko then m.br.may&&decide (m.br≠ .zero)else decide (m.br= .zero))
 else true)
theorem Uy {w:World} {X:XS} {m:gR} {vk vs vw vp vr vc vh vd:Value} (h:m.at w X vk vs vw vp vr vc vh vd) (ku:m.small):
  Ct pg 164 #[m.v vk vs vw vp vr vc vh vd] w X nX fun v _ _=>v=B m.P9:=by
 intro w0 hk
 replace h:=h.mv hk.dA
 obtain⟨h1,h2,h3,h4,h5,h6,h7,h8⟩:=h
 obtain⟨b1,n1,c1,rfl⟩:=h1.form
 obtain⟨b2,n2,c2,rfl⟩:=h2.form
 obtain⟨b3,n3,c3,rfl⟩:=h3.form
 obtain⟨b4,n4,c4,rfl⟩:=h4.form
 obtain⟨b5,n5,c5,rfl⟩:=h5.form
 apply RR;unfold Hb
 have hs:=aj.init w0
 repeat' first|with_reducible (first|apply aD|apply ak|apply dz|apply dG|apply fb|apply cL|apply oR|apply cM|apply cD|apply rR|apply cu|apply dW|apply pS|apply bE|apply bt|apply pD|apply oz|apply pP|apply oA|apply eY|apply gv)|(with_reducible apply gF<;>intro _)|(with_reducible apply kF<;>intro _)|(with_reducible apply mG<;>intro _)|(with_reducible apply bS);exact qO;(· kernel_rfl)|(with_reducible apply gg);(· kernel_rfl)|(with_reducible refine zZ _ ?_ ?_ ?_);(· kernel_rfl);all_goals intros|(with_reducible refine aaz _ ?_ ?_ ?_);(· kernel_rfl);all_goals intros|with_reducible apply dY|(with_reducible apply Xe<;>intro _)|((with_reducible refine dU (wg _) ?_ hs.has ?_ ?_);(· kernel_rfl);all_goals (intro _ w X au;replace hs:=hs.trans au))|((with_reducible refine dU (oM _) ?_ hs.has ?_ ?_);(· kernel_rfl);all_goals (intro _ w X au;replace hs:=hs.trans au))|((with_reducible refine dU (Ak _) ?_ hs.has ?_ ?_);(· kernel_rfl);all_goals (intro _ w X au;replace hs:=hs.trans au))|(refine gZ (DI  qA) (by kernel_rfl) hs.has ?_ ?_<;>(intro _ w X au;replace hs:=hs.trans au))|(refine gZ (WC  qA ku.seen) (by kernel_rfl) hs.has ?_ ?_<;>(intro _ w X au;replace hs:=hs.trans au))|(refine gZ (P8  qA ku.writes) (by kernel_rfl) hs.has ?_ ?_<;>(intro _ w X au;replace hs:=hs.trans au))|(refine gZ (Jk  qA) (by kernel_rfl) hs.has ?_ ?_<;>(intro _ w X au;replace hs:=hs.trans au))|(refine gZ (YV  qA) (by kernel_rfl) hs.has ?_ ?_<;>(intro _ w X au;replace hs:=hs.trans au))|(refine gZ ((WD (xs:=m.ranges))  qA) (by kernel_rfl) hs.has ?_ ?_<;>(intro _ w X au;replace hs:=hs.trans au))
 all_goals
  (with_reducible refine aq hs ?_)
  intro wa aR
  unfold gR.P9
  repeat (first|rw [if_pos (by omega)]|rw [if_neg (by omega)])
  simp_all [sR]<;>first|omega|(rename_i z9;intro e9;simp [e9] at z9;done)|(intro e9;simp_all;done)|grind
def gR.qk (m:gR):Bool:=
 if 1≤m.kind∧m.kind≤7 then m.P9
 else if m.kind=8 then sR m.range&&decide (m.n≥1)&&decide (m.mx≥0)&&decide (m.mx≤8)&&m.br.may
 else if m.kind=9 then sR m.range&&decide (m.n≥1)&&Kv m.bY
 else if m.kind=10 then sR m.range&&m.state.may&&decide (m.state.range.id=m.range)
 else if m.kind=11 then sR m.range
 else if m.kind=12 then iJ m.prev m.br m.dH m.writes
 else if m.kind=14 then m.br.may
 else true
theorem Qa {w:World} {X:XS} {m:gR} {vk vs vw vp vr vc vh vd:Value} (h:m.at w X vk vs vw vp vr vc vh vd) (ku:m.small):
  Ct pg 102 #[m.v vk vs vw vp vr vc vh vd] w X nX fun v _ _=>v=B m.qk:=by
 intro w0 hk
 replace h:=h.mv hk.dA
 obtain⟨h1,h2,h3,h4,h5,h6,h7,h8⟩:=id h
 obtain⟨b3,n3,c3,rfl⟩:=h3.form
 apply EO;unfold zd
 have hs:=aj.init w0
 repeat' first|with_reducible (first|apply aD|apply ak|apply dz|apply cL|apply cM|apply cu|apply bE|apply bt|apply pD|apply oA)|(with_reducible apply gF<;>intro _)|(with_reducible apply jK<;>intro _)|(with_reducible apply mG<;>intro _)|with_reducible apply dY|((with_reducible refine dU (wg _) ?_ hs.has ?_ ?_);(· kernel_rfl);all_goals (intro _ w X au;replace hs:=hs.trans au))|((with_reducible refine dU (oM _) ?_ hs.has ?_ ?_);(· kernel_rfl);all_goals (intro _ w X au;replace hs:=hs.trans au))|(refine gZ ((Uy (m:=m))  (h.mv (aj.mv hs)) ku) (by kernel_rfl) hs.has ?_ ?_<;>(intro _ w X au;replace hs:=hs.trans au))|(refine gZ ((Ux (xs:=m.bY))  (iw.mv h6 Rec.mv (aj.mv hs)) ku.bY ku.enc) (by kernel_rfl) hs.has ?_ ?_<;>(intro _ w X au;replace hs:=hs.trans au))|(refine gZ (C7  (s:=m.state) qA qA ku.state) (by kernel_rfl) hs.has ?_ ?_<;>(intro _ w X au;replace hs:=hs.trans au))|(refine gZ ((Ca (l:=m.writes))  qA ku.writes) (by kernel_rfl) hs.has ?_ ?_<;>(intro _ w X au;replace hs:=hs.trans au))
 all_goals
  (with_reducible refine aq hs ?_)
  intro wa aR
  unfold gR.qk
  repeat (first|rw [if_pos (by omega)]|rw [if_neg (by omega)])
  try (simp_all [sR]<;>first|omega|grind)
def gR.isZero (m:gR):Bool:=decide (m.dH= .zero)&&decide (m.range=0)&&decide (m.lf=0)&&decide (m.code=0)&&decide (m.br= .zero)&&decide (m.prev= .zero)&&!m.ko&&decide (m.n=0)&&decide (m.mx=0)&&
 m.state.isZero&&decide ((m.keys.length:Int)+m.seen.length+m.writes.length+m.parts.length+m.ranges.length+m.bY.length=0)
theorem Uz {w:World} {X:XS} {m:gR} {vk vs vw vp vr vc vh vd:Value} (h:m.at w X vk vs vw vp vr vc vh vd) (QV:m.keys.length+m.seen.length+m.writes.length+m.parts.length+m.ranges.length+m.bY.length≤2^62):
  Ct pg 101 #[m.v vk vs vw vp vr vc vh vd] w X nX fun v _ _=>v=B m.isZero:=by
 intro w0 hk
 replace h:=h.mv hk.dA
 obtain⟨h1,h2,h3,h4,h5,h6,h7,h8⟩:=h
 have o7:=h7.one
 have o8:=h8.one
 have q1:m.state.iF.length=0↔m.state.iF=[]:=nE
 have q2:m.state.iD.length=0↔m.state.iD=[]:=nE
 apply Jc;unfold BY
 have hs:=aj.init w0
 cases hc:m.ko<;>
 repeat' first|with_reducible (first|apply dz|apply cL|apply cM|apply cu|apply bE|apply bt|apply pD|apply oA|apply eY|apply gv)|(with_reducible apply gF<;>intro _)|(with_reducible apply bS);exact qO;(· kernel_rfl)|(with_reducible apply nL);assumption;(· kernel_rfl)|(with_reducible apply gg);(· kernel_rfl)|(with_reducible refine zZ _ ?_ ?_ ?_);(· kernel_rfl);all_goals intros|(with_reducible refine T5 _ ?_ ?_ ?_);(· kernel_rfl);all_goals intros|(with_reducible apply Ek);(case h=>exact qE)|(with_reducible apply cx);omega;omega|with_reducible apply dY|((first|(with_reducible refine aq hs ?_)|(with_reducible refine aq (cg.trans hs) ?_));intro wa hk;(simp_all [gR.isZero,State.isZero,mn.ext_iff]<;>omega))|((with_reducible refine xm (wA _) hs.has ?_);intro w X au;replace hs:=hs.trans au)
def gR.strip (m:gR):gR×Bool:=
 if m.kind=1 then({ m with dH:=.zero,range:=0,lf:=0,br:=.zero,keys:=[] },true)
 else if m.kind=2 then({ m with dH:=.zero,range:=0,code:=0,br:=.zero,seen:=[],ranges:=[] },true)
 else if m.kind=3 then({ m with dH:=.zero,range:=0,lf:=0,br:=.zero,seen:=[],writes:=[],parts:=[] },true)
 else if m.kind=4 then({ m with dH:=.zero,range:=0,code:=0,br:=.zero,ranges:=[] },true)
 else if m.kind=5 then({ m with dH:=.zero,range:=0,ko:=false,br:=.zero },true)
 else if m.kind=6∨m.kind=7 then({ m with dH:=.zero,range:=0 },true)
 else if m.kind=8 then({ m with range:=0,n:=0,mx:=0,br:=.zero },true)
 else if m.kind=9 then({ m with range:=0,n:=0,bY:=[] },true)
 else if m.kind=10 then({ m with range:=0,state:=.zero },true)
 else if m.kind=11 then({ m with range:=0 },true)
 else if m.kind=12 then({ m with prev:=.zero,br:=.zero,dH:=.zero,writes:=[] },true)
 else if m.kind=13 then(m,true)
 else if m.kind=14 then({ m with br:=.zero },true)
 else(m,false)
theorem OE {w:World} {X:XS} {m:gR} {vk vs vw vp vr vc vh vd:Value} (h:m.at w X vk vs vw vp vr vc vh vd):
  Ct pg 99 #[m.v vk vs vw vp vr vc vh vd] w X nX fun v wa w'=> ∃vk' vs' Uc Ud Ub vc' Ue Uf,v= .tuple #[m.strip.1.v vk' vs' Uc Ud Ub vc' Ue Uf,B m.strip.2]∧
   m.strip.1.at w X vk' vs' Uc Ud Ub vc' Ue Uf:=by
 intro w0 hk
 obtain⟨h1,h2,h3,h4,h5,h6,h7,h8⟩:=h
 have o1:=h1.one
 have o2:=h2.one
 have o3:=h3.one
 have o4:=h4.one
 have o5:=h5.one
 have o6:=h6.one
 have o7:=h7.one
 have o8:=h8.one
 apply C5;unfold xJ
 have hs:=aj.init w0
 have n1:Sl w X 1 (.slice none 0 0) (([]:List BA).map S1):=Sl.nil _ _ _
 have n2:Sl w X 7 (.slice none 0 0) (([]:List nz).map nz.l):=Sl.nil _ _ _
 have n3:Sl w X 4 (.slice none 0 0) (([]:List KV).map KV.l):=Sl.nil _ _ _
 have n4:Sl w X 1 (.slice none 0 0) (([]:List Int).map I1):=Sl.nil _ _ _
 have n5:Sl w X 4 (.slice none 0 0) (([]:List mn).map mn.l):=Sl.nil _ _ _
 have n6:iw w X 29 (.slice none 0 0) Rec.rd []:=iw.nil _ _ _
 have n7:mW w X (.slice none 0 0) []:=iw.nil _ _ _
 have n8:mC w X (.slice none 0 0) []:=iw.nil _ _ _
 repeat' first|with_reducible (first|apply aD|apply ak)|(with_reducible apply ji);exact qN|(with_reducible apply CF);exact qN|with_reducible apply ff|(with_reducible apply gF<;>intro _)|(with_reducible apply gg);(· kernel_rfl)|(with_reducible apply fj);(case h=>exact qE)|(with_reducible apply Ek);(case h=>exact qE)|(with_reducible apply eh);exact qC|with_reducible apply dY
 all_goals
  refine aq hs ?_
  intro wa aR
  unfold gR.strip
  repeat (first|rw [if_pos (by omega)]|rw [if_neg (by omega)])
  exact⟨_,_,_,_,_,_,_,_,rfl,by assumption,by assumption,by assumption,by assumption,by assumption,by assumption,by assumption,by assumption⟩
def gR.err (m:gR):Int:=if !m.strip.2 then 7 else if !ub m.fr||!ub m.to||!m.strip.1.isZero||!m.qk then 4 else 0
def gR.lens (m:gR):Nat:=m.keys.length+m.seen.length+m.writes.length+m.parts.length+m.ranges.length+m.bY.length
theorem acb {c:Prop} [Decidable c] {a b:gR×Bool} {n:Nat} (ha:a.1.lens≤n) (hb:b.1.lens≤n):(if c then a else b).1.lens≤n:=by split<;>assumption
theorem gR.YW (m:gR):m.strip.1.lens≤m.lens:=by
 unfold gR.strip
 repeat' with_reducible apply acb
 all_goals (unfold gR.lens;(try simp only [cA]);omega)
theorem WE {w:World} {X:XS} {m:gR} {vk vs vw vp vr vc vh vd:Value} (h:m.at w X vk vs vw vp vr vc vh vd) (ku:m.small) (QV:m.lens≤2^62):
  Ct pg 52 #[m.v vk vs vw vp vr vc vh vd] w X nX fun v _ _=>v=I m.err:=by
 intro w0 hk
 have h:=h.mv hk.dA
 have ah7:=ah m.YW QV
 apply LH;unfold Dx
 have hs:=aj.init w0
 refine dk (OE h) (by kernel_rfl) hs.has ?_
 rintro v wa w X ⟨vk',vs',Uc,Ud,Ub,vc',Ue,Uf,rfl,gQ⟩ hle hU au
 replace hs:=hs.trans au
 have q1:=gQ.1.one
 have q2:=gQ.2.one
 have q3:=gQ.3.one
 have q4:=gQ.4.one
 have q5:=gQ.5.one
 have q6:=gQ.6.one
 have q7:=gQ.7.one
 have q8:=gQ.8.one
 cases hb:m.strip.2<;>
 repeat' first|with_reducible (first|apply aD|apply ak)|(with_reducible apply ji);exact qN|with_reducible (first|apply ff|apply dG|apply fb|apply cD|apply dW|apply bE|apply bt|apply oz|apply pP|apply eY|apply gv)|(with_reducible apply fp);rfl|(with_reducible apply fj);(case h=>exact qE)|(with_reducible apply eh);exact qC|with_reducible apply dY|((with_reducible refine dU (LS _) ?_ hs.has ?_ ?_);(· kernel_rfl);all_goals (intro _ w X au;replace hs:=hs.trans au))|((first|(with_reducible refine aq hs ?_)|(with_reducible refine aq (cg.trans hs) ?_));intro wa hk;(simp [gR.err, *]))|(refine gZ ((Uz (m:=m.strip.1))  (gQ.mv (aj.mv (by first|assumption|exact aj.trans (by assumption) (by assumption)))) ah7) (by kernel_rfl) hs.has ?_ ?_<;>(intro _ w X au;replace hs:=hs.trans au))|(refine gZ ((Qa (m:=m))  (h.mv (aj.mv hs)) ku) (by kernel_rfl) hs.has ?_ ?_<;>(intro _ w X au;replace hs:=hs.trans au))
section
variable {κ : Type} [DecidableEq κ] {α β : Type}
theorem acd (f:α→β) (k:κ) (l:List (κ×α)):getM k (l.map fun x=>(x.1,f x.2))=(getM k l).map f:=by
 induction l with
 |nil=>rfl
 |cons x l ih=>
  simp only [getM,bh,dN] at ih⊢
  by_cases hx:x.1=k
  ·simp [hx]
  ·simp only [hx,decide_false] at ih⊢;exact ih
theorem UA (f:α→β) (k:κ) (a:α) (l:List (κ×α)):(fW k a l).map (fun x=>(x.1,f x.2))=fW k (f a) (l.map fun x=>(x.1,f x.2)):=by
 induction l with
 |nil=>rfl
 |cons x l ih=>
  simp only [fW,bh] at ih⊢
  by_cases hx:x.1=k
  ·simp [hx]
  ·simp only [hx,if_false,bh,ih]
theorem ace (f:α→β) (k:κ) (l:List (κ×α)):(ni k l).map (fun x=>(x.1,f x.2))=ni k (l.map fun x=>(x.1,f x.2)):=by
 unfold ni
 rw [List.filter_map];rfl
theorem acf (f:α→β) (k:κ) (a:α) {l:List (κ×α)} (h: ∀x∈l,x.1=k→f x.2=f a) (hk:(getM k l).isSome=true):(fW k a l).map (fun x=>(x.1,f x.2))=l.map fun x=>(x.1,f x.2):=by
 induction l with
 |nil=>cases hk
 |cons x l ih=>
  simp only [fW]
  by_cases hx:x.1=k
  ·simp [hx,h x (by simp) hx]
  ·simp only [hx,if_false,bh]
   rw [ih (fun y hy=>h y (by simp [hy])) (by simpa [getM,dN,hx] using hk)]
theorem uc (k:κ) (a:α) (l:List (κ×α)):(fW k a l).map (·.1)=if(getM k l).isSome then l.map (·.1)else l.map (·.1)++[k]:=by
 induction l with
 |nil=>rfl
 |cons x l ih=>
  simp only [fW]
  by_cases hx:x.1=k
  ·simp [hx,getM]
  ·have e:getM k (x::l)=getM k l:=by simp [getM,dN,hx]
   rw [if_neg hx,e,bh,ih]
   split<;>simp
theorem getM_none {k:κ} {l:List (κ×α)} :getM k l=none↔k ∉ l.map (·.1):=by
 induction l with
 |nil=>simp [getM]
 |cons x l ih=>
  by_cases hx:x.1=k
  ·simp [getM,hx]
  ·have e:getM k (x::l)=getM k l:=by simp [getM,dN,hx]
   rw [e,ih]
   simp [vQ (hx:x.1≠k),eq_comm,hx]
theorem OF {k:κ} {a:α} {l:List (κ×α)} (h:(l.map (·.1)).Nodup):((fW k a l).map (·.1)).Nodup:=by
 rw [uc]
 split
 ·exact h
 ·rename_i hn
  have kN:getM k l=none:=by cases hg:getM k l with|none=>rfl|some a=>simp [hg] at hn
  rw [List.nodup_append]
  refine⟨h,by simp,fun a ha b hb e=>?_⟩
  simp only [bo] at hb
  subst hb;subst e
  exact getM_none.1 kN ha
theorem zn {k:κ} {a:α} {l:List (κ×α)} :getM k (fW k a l)=some a:=by
 induction l with
 |nil=>simp [fW,getM]
 |cons x l ih=>
  simp only [fW]
  by_cases hx:x.1=k
  ·simp [hx,getM]
  ·rw [if_neg hx];simpa [getM,dN,hx] using ih
theorem Cf {k j:κ} {a:α} {l:List (κ×α)} (hj:j≠k):getM j (fW k a l)=getM j l:=by
 induction l with
 |nil=>simp [fW,getM,vQ hj]
 |cons x l ih=>
  simp only [fW]
  by_cases hx:x.1=k
  ·rw [if_pos hx];simp [getM,dN,vQ hj,hx]
  ·rw [if_neg hx]
   by_cases QW:x.1=j
   ·simp [getM,QW]
   ·simpa [getM,dN,QW] using ih
theorem Qb {k:κ} {l:List (κ×α)} :getM k (ni k l)=none:=by
 rw [getM_none];intro h
 obtain⟨x,hx,e⟩:=List.mem_map.1 h
 have:=(List.mem_filter.1 hx).2
 simp [e] at this
theorem Jw {k j:κ} {l:List (κ×α)} (hj:j≠k):getM j (ni k l)=getM j l:=by
 induction l with
 |nil=>rfl
 |cons x l ih=>
  unfold ni at ih⊢
  by_cases hx:x.1=k
  ·rw [rI (by simp [hx]),ih]
   simp [getM,dN,hx,vQ hj]
  ·rw [rJ (by simpa using hx)]
   by_cases QW:x.1=j
   ·simp [getM,QW]
   ·simpa [getM,dN,QW] using ih
theorem QX {R:κ×α→κ×α→Prop} {k:κ} {a:α} {l:List (κ×α)} (hn:(l.map (·.1)).Nodup) (hp:l.Pairwise R) (h: ∀y∈l,y.1≠k→R (k,a) y∧R y (k,a)):(fW k a l).Pairwise R:=by
 induction l with
 |nil=>simp [fW]
 |cons x l ih=>
  have kN:=List.nodup_cons.1 hn
  have XC:=List.pairwise_cons.1 hp
  simp only [fW]
  by_cases hx:x.1=k
  ·rw [if_pos hx,vP]
   refine⟨fun y hy=>(h y (by simp [hy]) fun e=>kN.1 (List.mem_map.2 ⟨y,hy,e.trans hx.symm⟩)).1,XC.2⟩
  ·rw [if_neg hx,vP]
   refine⟨fun y hy=>?_,ih kN.2 XC.2 fun y hy=>h y (by simp [hy])⟩
   rcases tK kN.2 hy with rfl|⟨hy,_⟩
   ·exact(h x (by simp) hx).2
   ·exact XC.1 y hy
def pH (f:α→Nat) (l:List (κ×α)):Nat:=(l.map fun x=>f x.2).sum
theorem acg {f:α→Nat} {k:κ} {a b:α} {l:List (κ×α)} (h:getM k l=some b):pH f (fW k a l)+f b=pH f l+f a:=by
 induction l with
 |nil=>cases h
 |cons x l ih=>
  simp only [fW]
  by_cases hx:x.1=k
  ·have:x.2=b:=by simpa [getM,hx] using h
   rw [if_pos hx];simp only [pH,bh,eZ,this];omega
  ·rw [if_neg hx]
   have:=ih (by simpa [getM,dN,hx] using h)
   simp only [pH,bh,eZ] at this⊢;omega
theorem ach {f:α→Nat} {k:κ} {a:α} {l:List (κ×α)} (h:getM k l=none):pH f (fW k a l)=pH f l+f a:=by
 induction l with
 |nil=>simp [fW,pH]
 |cons x l ih=>
  simp only [fW]
  by_cases hx:x.1=k
  ·simp [getM,hx] at h
  ·rw [if_neg hx]
   have:=ih (by simpa [getM,dN,hx] using h)
   simp only [pH,bh,eZ] at this⊢;omega
theorem aci {f:α→Nat} {k:κ} {b:α} {l:List (κ×α)} (h:getM k l=some b):f b≤pH f l:=by
 induction l with
 |nil=>cases h
 |cons x l ih=>
  by_cases hx:x.1=k
  ·have:x.2=b:=by simpa [getM,hx] using h
   simp only [pH,bh,eZ,this];omega
  ·have:=ih (by simpa [getM,dN,hx] using h)
   simp only [pH,bh,eZ] at this⊢;omega
theorem acj {f:α→Nat} {k:κ} {b:α} {l:List (κ×α)} (hn:(l.map (·.1)).Nodup) (h:getM k l=some b):pH f (ni k l)+f b=pH f l:=by
 induction l with
 |nil=>cases h
 |cons x l ih=>
  have kN:=List.nodup_cons.1 hn
  unfold ni at ih⊢
  by_cases hx:x.1=k
  ·have:x.2=b:=by simpa [getM,hx] using h
   have e:l.filter (fun y=>decide (y.1≠k))=l:=List.filter_eq_self.2 fun y hy=>by
    have:y.1≠k:=fun e=>kN.1 (List.mem_map.2 ⟨y,hy,e.trans hx.symm⟩)
    simpa using this
   rw [rI (by simp [hx]),e]
   simp only [pH,bh,eZ,this];omega
  ·rw [rJ (by simpa using hx)]
   have:=ih kN.2 (by simpa [getM,dN,hx] using h)
   simp only [pH,bh,eZ] at this⊢;omega
end
structure DM where
 fs:List (ByteArray×(List Nat×Nat))
 wr:Int
 ar:Nat
 dn:Bool
def DM.sz (m:DM):Nat:=pH (fun x=>x.1.length) m.fs
def DM.get (m:DM) (n:ByteArray):Option (List Nat×Nat):=getM n m.fs
def DM.put (m:DM) (n:ByteArray) (bs:List Nat) (s:Nat):DM:= { m with fs:=fW n (bs,s) m.fs }
def DM.del (m:DM) (n:ByteArray):DM:= { m with fs:=ni n m.fs }
def DM.tick (m:DM):DM:=if m.ar=1 then { m with ar:=0,dn:=true } else { m with ar:=m.ar-1,wr:=IntKind.i64.wrap (m.wr+1) }
def DM.write (m:DM) (e:Nat) (f:DM→DM):DM×Nat:=if m.dn then(m,12)else if e≠0 then(m,e)else if m.tick.dn then(m.tick,12)else(f m.tick,0)
def rq (n:ByteArray):Bool:=decide (1≤n.size∧n.size≤20)
def DM.create (m:DM) (n:ByteArray):DM×Nat:=m.write (if¬rq n then 10 else if(m.get n).isSome then 9 else if 64≤m.fs.length then 3 else 0) fun m=>m.put n [] 0
def DM.append (m:DM) (n:ByteArray) (b:List Nat):DM×Nat:=
 if m.dn then(m,12)else match m.get n with
 |none=>(m,8)
 |some (bs,s)=>if 4194304-m.sz<b.length then(m,11)else(m.tick.put n (bs++b) s,if m.tick.dn then 12 else 0)
def DM.jS (n:ByteArray) (m:DM):DM:=match m.get n with
 |none=>m
 |some x=>m.put n x.1 x.1.length
def DM.sync (m:DM) (n:ByteArray):DM×Nat:=m.write (if(m.get n).isSome then 0 else 8) (DM.jS n)
def DM.remove (m:DM) (n:ByteArray):DM×Nat:=m.write (if(m.get n).isSome then 0 else 8) fun m=>m.del n
theorem DM.nk (m:DM):m.tick.fs=m.fs:=by unfold DM.tick;split<;>rfl
theorem DM.mJ (m:DM) (n:ByteArray):m.tick.get n=m.get n:=by unfold DM.get;rw [m.nk]
theorem DM.uG (m:DM):m.tick.sz=m.sz:=by unfold DM.sz;rw [m.nk]
theorem DM.Jx {m:DM} {n:ByteArray} {b bs:List Nat} {s s':Nat} (h:m.get n=some (b,s)):(m.put n bs s').sz+b.length=m.sz+bs.length:=acg (f:=fun x:List Nat×Nat=>x.1.length) h
theorem DM.Qc {m:DM} {n:ByteArray} {bs:List Nat} {s':Nat} (h:m.get n=none):(m.put n bs s').sz=m.sz+bs.length:=ach (f:=fun x:List Nat×Nat=>x.1.length) h
theorem DM.Cg (m:DM) (n:ByteArray):(m.jS n).sz=m.sz:=by
 unfold DM.jS
 split
 ·rfl
 ·rename_i x hx
  have:=DM.Jx (bs:=x.1) (s':=x.1.length) hx
  omega
theorem DM.wS {m:DM} {n:ByteArray} {b:List Nat} {s:Nat} (h:m.get n=some (b,s)):b.length≤m.sz:=aci (f:=fun x:List Nat×Nat=>x.1.length) h
structure mj where
 b:Nat
 v:Value
 bs:List Nat
 safe:Nat
def mj.er (f:mj):List Nat×Nat:=(f.bs,f.safe)
def LU:World→XS→Value→mj→Prop:=fun _ _ v f=>v=ptr f.b 0
theorem j8:tJ LU:=fun _ _ _ _ _ _ h _=>h
def apart (x y:ByteArray×mj):Prop:=x.2.b≠y.2.b∧ ∀g,x.2.v.ownBlock=some g→y.2.v.ownBlock≠some g
structure mR (w:World) (F:XS) (db mb:Nat) (l:List (ByteArray×mj)) (m:DM) (z:Nat):Prop where
 fs:m.fs=l.map fun x=>(x.1,x.2.er)
 box:bJ w F db [.map (some mb),I z,I m.wr,I m.ar,B m.dn] 106
 map:jm w F nX mb cz LU l
 row: ∀x∈l,bJ w F x.2.b [x.2.v,I x.2.safe] 141
 ow: ∀x∈l,Ow w F 5 1 x.2.v (x.2.bs.map U1)
 ap:l.Pairwise apart
 ar:m.ar<2^63
 safe: ∀x∈l,x.2.safe≤x.2.bs.length
def Dk (w:World) (F:XS) (db:Nat) (m:DM):Prop:= ∃mb l,mR w F db mb l m m.sz∧m.sz≤4194304
section
variable {w w' : World} {F F' X X' G A : XS} {db mb z z' : Nat} {l : List (ByteArray × mj)} {m m' : DM} {n : ByteArray} {f : mj}
theorem mR.mv (h:mR w F db mb l m z) (v:Mv F w F' w'):mR w' F' db mb l m z:=
 ⟨h.fs,h.box.mv v,h.map.mv j8 v (fun _ h=>h.elim),fun x hx=>(h.row x hx).mv v,fun x hx=>(h.ow x hx).mv v,h.ap,h.ar,h.safe⟩
theorem Dk.mv (h:Dk w F db m) (v:Mv F w F' w'):Dk w' F' db m:=let⟨mb,l,h,hz⟩:=h;⟨mb,l,h.mv v,hz⟩
theorem Dk.mono (h:Dk w F db m) (hs: ∀k,F k→F' k):Dk w F' db m:=h.mv (Mv.sub hs)
theorem mR.get (h:mR w F db mb l m z) (n:ByteArray):m.get n=(getM n l).map mj.er:=by
 unfold DM.get;rw [h.fs];exact acd mj.er n l
theorem mR.nodup (h:mR w F db mb l m z):(l.map (·.1)).Nodup:=h.map.nodup
theorem mR.len (h:mR w F db mb l m z):m.fs.length=l.length:=by rw [h.fs,aS]
theorem mR.Jy (h:mR w F db mb l m z) (hX: ∀k,F k→X k) (c:fO (· =db) X w X' w') (hr:bJ w' X' db [.map (some mb),I z',I m'.wr,I m'.ar,B m'.dn] 106) (A5:m'.fs=m.fs) (har:m'.ar<2^63):mR w' F db mb l m' z':=by
 have mv: ∀{A:XS},(∀k,A k→F k∧k≠db)→Mv A w F w':=fun hA k hk _=>⟨(hA k hk).1,c.block k (hX k (hA k hk).1) (hA k hk).2⟩
 refine⟨A5.trans h.fs,⟨h.box.1,hr.2⟩,?_,fun x hx=>?_,fun x hx=>?_,h.ap,har,h.safe⟩
 ·exact h.map.own.mv j8 (mv fun k hk=>by subst hk;exact⟨h.map.x.1,h.map.dS h.box⟩) fun _ h=>h.elim
 ·exact(h.row x hx).own.mv (mv fun k hk=>by subst hk;exact⟨(h.row x hx).1,(h.row x hx).dS h.box (by kernel_rfl)⟩)
 ·exact(h.ow x hx).tight.mv (mv fun k hk=>⟨((h.ow x hx).ba hk).1,fun e=>(h.ow x hx).dS h.box (by kernel_rfl) (e▸hk)⟩)
theorem ahd {α:Type} {R:α→α→Prop} (hs: ∀a b,R a b→R b a) {l:List α} (h:l.Pairwise R) {x y:α} (hx:x∈l) (hy:y∈l) (dr:x≠y):R x y:=by
 induction l with
 |nil=>cases hx
 |cons a l ih=>
  have h':=List.pairwise_cons.1 h
  rcases List.mem_cons.1 hx with e1|h1
  ·rcases List.mem_cons.1 hy with e2|h2
   ·exact absurd (e1.trans e2.symm) dr
   ·rw [e1];exact h'.1 y h2
  ·rcases List.mem_cons.1 hy with e2|h2
   ·rw [e2];exact hs _ _ (h'.1 x h1)
   ·exact ih h'.2 h1 h2
theorem Gs: ∀a b:ByteArray×mj,apart a b→apart b a:=fun a b h=>⟨vQ h.1,fun g hg vt=>h.2 g vt hg⟩
theorem mR.LV (h:mR w F db mb l m z) (hn:getM n l=some f) {y:ByteArray×mj} (hy:y∈l) (dr:y.1≠n):apart (n,f) y:=
 ahd Gs h.ap (ic hn) hy fun e=>dr (by rw [←e])
theorem nv.ids {A:XS} : ∀{es:List (ke ByteArray)} {l l':List (ByteArray×mj)},nv w A LU es l→l'.map (fun x=>(x.1,x.2.b))=l.map (fun x=>(x.1,x.2.b))→nv w A LU es l'
 |[],[],[],_,_=>trivial
 |[],[],_::_,_,h=>by cases h
 |e::es,x::l,[],_,h=>by cases h
 |e::es,x::l,y::l',⟨h1,h2,h3⟩,h=>by
  simp only [bh,yY,Prod.mk.injEq] at h
  exact⟨h1.trans h.1.1.symm,by unfold LU at h2⊢;rw [h2,h.1.2],nv.ids h3 h.2⟩
 |[],_::_,_,h,_=>h.elim
 |_::_,[],_,h,_=>h.elim
theorem mR.lM (h:mR w F db mb l m z) (hX: ∀k,F k→X k∧k<w.heap.size) (c:fO G X w X' w') (hn:getM n l=some f) (hG: ∀k,G k→k=f.b∨f.v.ownBlock=some k) (OG: ∀k,F k→F' k)
  {v':Value} {UB:List Nat} {s':Nat} (hr:bJ w' F' f.b [v',I s'] 141) (ho:Ow w' F' 5 1 v' (UB.map U1)) (gQ:v'.ownBlock=f.v.ownBlock∨ ∃g,v'.ownBlock=some g∧w.heap.size≤g) (hs:s'≤UB.length):
  mR w' F' db mb (fW n ⟨f.b,v',UB,s'⟩ l) (m.put n UB s') z:=by
 have hf:=ic hn
 have rf:=h.row _ hf
 have of:=h.ow _ hf
 have mv: ∀{A:XS},(∀k,A k→F k∧k≠f.b∧f.v.ownBlock≠some k)→Mv A w F' w':=fun hA k hk _=>by
  obtain⟨a1,a2,a3⟩:=hA k hk
  exact⟨OG k a1,c.block k (hX k a1).1 fun hg=>(hG k hg).elim a2 a3⟩
 refine⟨?_,?_,?_,fun x hx=>?_,fun x hx=>?_,?_,h.ar,fun x hx=>?_⟩
 ·show fW n (UB,s') m.fs=_
  rw [h.fs,UA mj.er];rfl
 ·exact h.box.own.mv (mv fun k hk=>by subst hk;exact⟨h.box.1,(rf.dS h.box (by kernel_rfl)).symm,of.dS h.box (by kernel_rfl)⟩)
 ·obtain⟨es,c',h1,h2⟩:=h.map.own.mv j8 (mv fun k hk=>by subst hk;exact⟨h.map.x.1,h.map.dS rf,h.map.Pr of⟩) (A':=nX) fun _ h=>h.elim
  refine⟨es,c',h1,nv.ids h2 (acf mj.b n ⟨f.b,v',UB,s'⟩ (fun x hx e=>?_) (by rw [hn];rfl))⟩
  have:getM n l=some x.2:=qg h.nodup (by rw [←e];exact hx)
  rw [hn] at this
  rw [←bK this]
 ·rcases tK h.nodup hx with rfl|⟨hx,dr⟩
  ·exact hr
  ·have ha:=h.LV hn hx dr
   exact(h.row x hx).own.mv (mv fun k hk=>by subst hk;exact⟨(h.row x hx).1,ha.1.symm,of.dS (h.row x hx) (by kernel_rfl)⟩)
 ·rcases tK h.nodup hx with rfl|⟨hx,dr⟩
  ·exact ho
  ·have ha:=h.LV hn hx dr
   exact(h.ow x hx).tight.mv (mv fun k hk=>⟨((h.ow x hx).ba hk).1,fun e=>(h.ow x hx).dS rf (by kernel_rfl) (e▸hk),fun e=>ha.2 k e hk⟩)
 ·refine QX h.nodup h.ap fun y hy dr=>?_
  have ha:=h.LV hn hy dr
  have key:apart (n,⟨f.b,v',UB,s'⟩) y:=⟨ha.1,fun g hg vt=>by
   rcases gQ with e|⟨g',e,eI⟩
   ·exact ha.2 g (e▸hg) vt
   ·have:=(hX g ((h.ow y hy).ba vt).1).2
    have:g'=g:=by
     have e2:v'.ownBlock=some g:=hg
     rw [e] at e2;exact bK e2
    omega⟩
  exact⟨key,Gs _ _ key⟩
 ·rcases tK h.nodup hx with rfl|⟨hx,dr⟩
  ·exact hs
  ·exact h.safe x hx
theorem mR.new (h:mR w F db mb l m z) (hX: ∀k,F k→X k∧k<w.heap.size) (c:fO G X w X' w') (hn:getM n l=none) (hG: ∀k,G k→k=mb) (OG: ∀k,F k→F' k) {b:Nat} (hb:w.heap.size≤b)
  (hm:jm w' F' nX mb cz LU (fW n ⟨b,.slice none 0 0,[],0⟩ l)) (hr:bJ w' F' b [.slice none 0 0,I (0:Nat)] 141):
  mR w' F' db mb (fW n ⟨b,.slice none 0 0,[],0⟩ l) (m.put n [] 0) z:=by
 have mv: ∀{A:XS},(∀k,A k→F k∧k≠mb)→Mv A w F' w':=fun hA k hk _=>by
  obtain⟨a1,a2⟩:=hA k hk
  exact⟨OG k a1,c.block k (hX k a1).1 fun hg=>a2 (hG k hg)⟩
 refine⟨?_,?_,hm,fun x hx=>?_,fun x hx=>?_,?_,h.ar,fun x hx=>?_⟩
 ·show fW n ([],0) m.fs=_
  rw [h.fs,UA mj.er];rfl
 ·exact h.box.own.mv (mv fun k hk=>by subst hk;exact⟨h.box.1,(h.map.dS h.box).symm⟩)
 ·rcases tK h.nodup hx with rfl|⟨hx,dr⟩
  ·exact hr
  ·exact(h.row x hx).own.mv (mv fun k hk=>by subst hk;exact⟨(h.row x hx).1,(h.map.dS (h.row x hx)).symm⟩)
 ·rcases tK h.nodup hx with rfl|⟨hx,dr⟩
  ·exact Ow.nil _ _ _ _
  ·exact(h.ow x hx).tight.mv (mv fun k hk=>⟨((h.ow x hx).ba hk).1,fun e=>h.map.Pr (h.ow x hx) (e▸hk)⟩)
 ·refine QX h.nodup h.ap fun y hy dr=>?_
  have key:apart (n,⟨b,.slice none 0 0,[],0⟩) y:=⟨fun e=>by
   have:=(hX _ (h.row y hy).1).2
   have e':b=y.2.b:=e
   omega,fun g hg=>by cases hg⟩
  exact⟨key,Gs _ _ key⟩
 ·rcases tK h.nodup hx with rfl|⟨hx,dr⟩
  ·exact bp _
  ·exact h.safe x hx
theorem mR.less (h:mR w F db mb l m z) (hX: ∀k,F k→X k) (c:fO (· =mb) X w X' w') (hm:jm w' X' nX mb cz LU (ni n l)):mR w' F db mb (ni n l) (m.del n) z:=by
 have mv: ∀{A:XS},(∀k,A k→F k∧k≠mb)→Mv A w F w':=fun hA k hk _=>⟨(hA k hk).1,c.block k (hX k (hA k hk).1) (hA k hk).2⟩
 have pC: ∀x∈ni n l,x∈l:=fun x hx=>(List.mem_filter.1 hx).1
 refine⟨?_,?_,?_,fun x hx=>?_,fun x hx=>?_,h.ap.filter _,h.ar,fun x hx=>h.safe x (pC x hx)⟩
 ·show ni n m.fs=_
  rw [h.fs,ace mj.er]
 ·exact h.box.own.mv (mv fun k hk=>by subst hk;exact⟨h.box.1,(h.map.dS h.box).symm⟩)
 ·obtain⟨es,c',h1,h2⟩:=hm
  exact⟨es,c',⟨h.map.x.1,h1.2⟩,h2⟩
 ·exact(h.row x (pC x hx)).own.mv (mv fun k hk=>by subst hk;exact⟨(h.row x (pC x hx)).1,(h.map.dS (h.row x (pC x hx))).symm⟩)
 ·exact(h.ow x (pC x hx)).tight.mv (mv fun k hk=>⟨((h.ow x (pC x hx)).ba hk).1,fun e=>h.map.Pr (h.ow x (pC x hx)) (e▸hk)⟩)
end
def FX (F X:XS) (w:World):Prop:= ∀k,F k→X k∧k<w.heap.size
theorem FX.kp {F X:XS} {w wa:World} (h:FX F X w) (hk:Kp X w wa):FX F (aW wa) wa:=fun k ai=>⟨aU (h k ai).2 hk.size,aU (h k ai).2 hk.size⟩
theorem FX.mv {F X:XS} {w wa:World} (h:FX F X w) (hk:Kp X w wa):Mv F w F wa:=fun k ai _=>⟨ai,hk.block k (h k ai).1⟩
theorem FX.ft {F X:XS} {w wa:World} (h:FX F X w) (hk:Kp X w wa):Ft wa F wa (aW wa) F:=Ft.init fun k ai=>(h.kp hk k ai).1
theorem _root_.Go.fR.Ft.fx {w0 w:World} {F0 F G X:XS} (h:Ft w0 F0 w X F) (hG: ∀k,G k→F k):FX G X w:=fun k hk=>⟨h.ba k (hG k hk),h.s.has k (h.ba k (hG k hk))⟩
section
variable {P : Program} {R : Ending → World → Prop} {w w0 : World} {X F F0 G : XS} {db mb z : Nat} {l : List (ByteArray × mj)} {m : DM}
theorem afR {κ α:Type} [DecidableEq κ] {A:XS} {t ty kt et b:Nat} {kv:κ→Value} {rd:World→XS→Value→α→Prop} {l:List (κ×α)} {N:Value→Prop} (h:jm w X A b kv rd l) (ht:P.underlying t=some (.map kt et))
  (n:N (I l.length)):aa P X w (kg #[t] ty #[.map (some b)]) N:=by
 obtain⟨es,c,h1,h2⟩:=h
 refine D7 (I l.length) (fun wa hk=>?_) n
 have hb:=(h1.kp hk).2.1
 have hl:es.length=l.length:=by have:=congrArg List.length h2.keys;simpa using this
 simp [kg,run_underlying ht,getObj,Sem.run,hb,goInt,hl]
theorem aaG {t:TypeId} {a b:Int} {N:Value→Prop} (h:N (.int .i64 (IntKind.i64.wrap (a+b)))):aa P X w (binOp .add t (.int .i64 a) (.int .i64 b)) N:=Pm h
theorem ud {N:Value→World→XS→Prop} {t o o':Nat} {v:Value} (hT:Ft w0 F0 w X F) (h:mR w G db mb l m z) (hG: ∀k,G k→F k) (m':DM) (z':Nat) (Tq:o'=o) (ht:((P.info? t).map (·.size))=some 1) (ho:o+1≤5) (h1:one v=true)
  (hc:cd [.map (some mb),I z,I m.wr,I m.ar,B m.dn] o [v]=[.map (some mb),I z',I m'.wr,I m'.ar,B m'.dn]) (A5:m'.fs=m.fs) (har:m'.ar<2^63)
  (n: ∀w' X',Ft w0 F0 w' X' F→mR w' G db mb l m' z'→fO (· =db) X w X' w'→N undef w' X'):eU P R X w true (eo t 1 (ptr db o') v) N:=by
 subst Tq
 have hX: ∀k,G k→X k:=fun k hk=>hT.ba k (hG k hk)
 have hv:v.cells= #[v]:=tD h1
 refine Bd (h.box.mv (Mv.sub hX)) ht ho (by rw [hv];rfl) (by rw [hv];simp [h1]) hT.s.has fun w' X' c hr=>?_
 rw [hv] at hr
 rw [hc] at hr
 exact n w' X' (hT.ej c (fun k hk=>by subst hk;exact hG _ h.box.1) fun k hk=>.inl hk) (h.Jy hX c hr A5 har) c
end
theorem oO {w:World} {X:XS} {mb:Nat} {l:List (ByteArray×mj)} {n:ByteArray} {N:Value→Prop} (hm:jm w X nX mb cz LU l) (n1: ∀f,getM n l=some f→N (ptr f.b 0)) (n0:getM n l=none→N (.pointer none)):
  aa pg X w (Instr.lookup 104 (.map (some mb)) (.string n) false) N:=
 Iu (kt:=9) (et:=135) (.pointer none) hm (rU (by kernel_rfl)) (by kernel_rfl) (by kernel_rfl) (fun v f h1 h2=>by
  have h2:v=ptr f.b 0:=h2
  subst h2;exact n1 f h1) n0
theorem LX {w:World} {X F:XS} {db mb z:Nat} {l:List (ByteArray×mj)} {m:DM} (h:mR w F db mb l m z) (hF:FX F X w) (iI:m.dn=false):
  Ct pg 252 #[ptr db 0] w X F fun v wa w'=>v=B m.tick.dn∧mR w' F db mb l m.tick z:=by
 intro w0 hk
 have h0:=h.mv (hF.mv hk)
 have hT:=hF.ft hk
 clear h
 have har:=h0.ar
 apply K8;unfold AV
 have hb:=h0.box.mv (Mv.sub hT.ba)
 rw [iI] at hb
 have hid: ∀k,F k→F k:=fun _ h=>h
 refine dY ?_
 repeat' first|with_reducible (first|apply aD|apply ak|apply gv|apply aK)|(with_reducible apply kF<;>intro _)|(with_reducible apply aM);exact qF;(· kernel_rfl);rfl;intro _ _ _|(with_reducible apply aZ);exact qF;exact qM;(· kernel_rfl);rfl|(with_reducible apply kY);omega;omega|with_reducible apply dY
 ·refine ud hT h0 hid { m with ar:=m.ar-1 } z (o:=3) (by omega) (by kernel_rfl) (by omega) rfl (by rw [show((m.ar-1:Nat):Int)=(m.ar:Int)-1 by omega];rfl) rfl (by show m.ar-1<_;omega) fun w1 X1 hT h1 c1=>?_
  clear hb h0
  have hb:=h1.box.mv (Mv.sub hT.ba)
  repeat' first|with_reducible apply aK|(with_reducible apply gF<;>intro _)|(with_reducible apply aM);exact qF;(· kernel_rfl);rfl;intro _ _ _|(with_reducible apply aZ);exact qF;exact qM;(· kernel_rfl);rfl
  ·refine ud hT h1 hid { m with ar:=m.ar-1,dn:=true } z (o:=4) (by omega) (by kernel_rfl) (by omega) rfl rfl rfl h1.ar fun w1 X1 hT h2 c1=>?_
   clear hb h1
   have hb:=h2.box.mv (Mv.sub hT.ba)
   have q':((m.ar-1:Nat):Int)=0:=by assumption
   have QY:m.ar=1:=by omega
   repeat' first|with_reducible (first|apply ak|apply eY|apply aK)|(with_reducible apply aM);exact qF;(· kernel_rfl);rfl;intro _ _ _|(with_reducible apply aZ);exact qF;exact qM;(· kernel_rfl);rfl|with_reducible apply dY
   refine hT.fin fun wa aR=>⟨by rw [DM.tick,if_pos QY],?_⟩
   rw [DM.tick,if_pos QY]
   rw [show m.ar-1=0 by omega] at h2
   exact h2.mv (aR.fC hT.ba)
  ·refine ud hT h1 hid { m with ar:=m.ar-1,dn:=false } z (o:=4) (by omega) (by kernel_rfl) (by omega) rfl rfl rfl h1.ar fun w1 X1 hT h2 c1=>?_
   clear hb h1
   have hb:=h2.box.mv (Mv.sub hT.ba)
   have q': ¬((m.ar-1:Nat):Int)=0:=by assumption
   have QY: ¬m.ar=1:=by omega
   repeat' first|with_reducible (first|apply aD|apply gv|apply aK)|(with_reducible apply aM);exact qF;(· kernel_rfl);rfl;intro _ _ _|(with_reducible apply aZ);exact qF;exact qM;(· kernel_rfl);rfl|with_reducible apply dY|(with_reducible apply aaG)
   refine ud hT h2 hid { m with ar:=m.ar-1,dn:=false,wr:=IntKind.i64.wrap (m.wr+1) } z (o:=2) (by omega) (by kernel_rfl) (by omega) rfl rfl rfl h2.ar fun w1 X1 hT h3 c1=>?_
   clear hb h2
   have hb:=h3.box.mv (Mv.sub hT.ba)
   repeat' first|with_reducible apply aK|(with_reducible apply aM);exact qF;(· kernel_rfl);rfl;intro _ _ _|(with_reducible apply aZ);exact qF;exact qM;(· kernel_rfl);rfl
   refine hT.fin fun wa aR=>⟨by rw [DM.tick,if_neg QY,iI],?_⟩
   rw [DM.tick,if_neg QY]
   have h4:=h3.mv (aR.fC hT.ba)
   rw [←iI] at h4
   exact h4
 ·have QY: ¬m.ar=1:=by omega
  have XD:m.ar-1=m.ar:=by omega
  repeat' first|with_reducible apply aK|(with_reducible apply aM);exact qF;(· kernel_rfl);rfl;intro _ _ _|(with_reducible apply aaG)
  refine ud hT h0 hid { m with wr:=IntKind.i64.wrap (m.wr+1) } z (o:=2) (by omega) (by kernel_rfl) (by omega) rfl rfl rfl h0.ar fun w1 X1 hT h3 c1=>?_
  clear hb h0
  have hb:=h3.box.mv (Mv.sub hT.ba)
  rw [iI] at hb
  repeat' first|with_reducible apply aK|(with_reducible apply aM);exact qF;(· kernel_rfl);rfl;intro _ _ _|(with_reducible apply aZ);exact qF;exact qM;(· kernel_rfl);rfl
  refine hT.fin fun wa aR=>⟨by rw [DM.tick,if_neg QY,iI],?_⟩
  rw [DM.tick,if_neg QY,XD]
  exact h3.mv (aR.fC hT.ba)
theorem WG (n:ByteArray):Pure pg 73 #[.string n] (B (rq n)):=by
 intro w0
 apply TK;unfold IH
 have hs:=aj.init w0
 repeat' first|with_reducible (first|apply dz|apply cL|apply cM|apply cu|apply bE|apply bt)|(with_reducible apply jK<;>intro _)|(with_reducible apply mG<;>intro _)|(with_reducible apply rV);(· kernel_rfl)|(with_reducible refine fI hs ?_);(simp_all [rq]<;>omega)
theorem Gt {w:World} {X:XS} :Ct pg 11 #[] w X nX fun v wa w'=> ∃db,v=ptr db 0∧Dk w' (made wa w') db ⟨[],0,0,false⟩:=by
 intro w0 hk
 apply Wg;unfold Lu
 have hs:=aj.init w0
 refine zL (kv:=cz) LU nX hs.has fun mb w1 X1 hmb au uP=>?_
 replace hs:=hs.trans au
 refine gg (by kernel_rfl) ?_
 refine lQ hs.has fun bx w2 X2 iH b6 dK=>?_
 have sJ:=uP.mv j8 b6.mv (fun _ h=>h.elim) (A':=nX)
 have hz:=hs.kp.size
 refine aq (hs.trans b6) fun wa aR=>⟨bx,rfl,mb,[],⟨rfl,⟨⟨by omega,(dK.kp aR).lt⟩,(dK.kp aR).2⟩,?_,by simp,by simp,List.Pairwise.nil,by decide,by simp⟩,by decide⟩
 exact sJ.own.mv j8 (Mv.one aR sJ.x.1 ⟨hmb,aU sJ.x.2 aR.size⟩) fun _ h=>h.elim
theorem LY {w:World} {X F:XS} {db:Nat} {m:DM} (h:Dk w F db m) (hF:FX F X w):Ct pg 80 #[ptr db 0] w X nX fun v wa w'=>v=B m.dn:=by
 intro w0 hk
 obtain⟨mb,l,h0,hz⟩:=h.mv (hF.mv hk)
 have hb:=h0.box.mv (Mv.sub fun k ai=>(hF.kp hk k ai).1)
 apply KW;unfold AK
 have hs:=aj.init w0
 repeat' first|with_reducible apply aK|(with_reducible apply aM);exact qF;(· kernel_rfl);rfl;intro _ _ _|(with_reducible apply aZ);exact qF;exact qM;(· kernel_rfl);rfl|((first|(with_reducible refine aq hs ?_)|(with_reducible refine aq (cg.trans hs) ?_));intro wa hk;rfl)
theorem Gu {w:World} {X F:XS} {db:Nat} {m:DM} {n:ByteArray} (h:Dk w F db m) (hF:FX F X w):Ct pg 173 #[ptr db 0,.string n] w X nX fun v wa w'=>v=I (if(m.get n).isSome then 0 else 8):=by
 intro w0 hk
 obtain⟨mb,l,h0,hz⟩:=h.mv (hF.mv hk)
 have hX:=fun k ai=>(hF.kp hk k ai).1
 have hb:=h0.box.mv (Mv.sub hX)
 have hg:=h0.get n
 have hm:=h0.map.mv j8 (Mv.sub hX) (A':=nX) fun _ h=>h.elim
 apply MD;unfold B4
 have hs:=aj.init w0
 repeat' first|with_reducible apply aK|(with_reducible apply aM);exact qF;(· kernel_rfl);rfl;intro _ _ _|(with_reducible apply aZ);exact qF;exact qM;(· kernel_rfl);rfl
 refine oO hm (fun f h1=>?_) fun h1=>?_
 ·repeat' first|with_reducible apply ak|(with_reducible apply lR);(· kernel_rfl)|((first|(with_reducible refine aq hs ?_)|(with_reducible refine aq (cg.trans hs) ?_));intro wa hk;(rw [hg,h1];rfl))
 ·repeat' first|with_reducible apply aD|(with_reducible apply El);(· kernel_rfl)|((first|(with_reducible refine aq hs ?_)|(with_reducible refine aq (cg.trans hs) ?_));intro wa hk;(rw [hg,h1];rfl))
theorem yc {w:World} {X F A:XS} {db f:Nat} {c:List Value} {m:DM} {e:Nat} {g:DM→DM} (h:Dk w F db m) (hF:FX F X w) (hA: ∀k,A k→X k∧k<w.heap.size∧ ¬F k) (hf:enters pg f=true)
  (hdo:e=0→ ∀w1 X1,Mv A w A w1→(∀k,A k→X1 k)→FX F X1 w1→Dk w1 F db m.tick→Ct pg f c.toArray w1 X1 F fun v wa w'=>v= .tuple #[]∧ ∃F',(∀k,F' k→F k∨made wa w' k)∧Dk w' F' db (g m.tick)):
  Ct pg 172 #[ptr db 0,I e,.func (.func f) #[] c.toArray] w X F fun v wa w'=>v=I (m.write e g).2∧ ∃F',(∀k,F' k→F k∨made wa w' k)∧Dk w' F' db (m.write e g).1:=by
 intro w0 hk
 obtain⟨mb,l,h0,hz⟩:=h.mv (hF.mv hk)
 have hT:=hF.ft hk
 have jl:FX F (aW w0) w0:=hF.kp hk
 have hAm:Mv A w A w0:=fun k ai _=>⟨ai,hk.block k (hA k ai).1⟩
 have hb:=h0.box.mv (Mv.sub hT.ba)
 have hs:=aj.init w0
 have stay: ∀{w1 X1} (m':DM),Ft w0 F w1 X1 F→mR w1 F db mb l m' m'.sz→m'.sz≤4194304→ ∀wa,Kp X1 w1 wa→ ∃F',(∀k,F' k→F k∨made w0 wa k)∧Dk wa F' db m':=fun m' hT h1 hz wa aR=>⟨F,hT.gK aR fun _ h=>h,mb,l,h1.mv (aR.fC hT.ba),hz⟩
 have htz:m.tick.sz=m.sz:=by unfold DM.tick DM.sz;split<;>rfl
 apply Jd;unfold zT
 cases iI:m.dn
 ·rw [iI] at hb
  repeat' first|with_reducible (first|apply aD|apply ak|apply aK)|(with_reducible apply kG<;>intro _)|(with_reducible apply aM);exact qF;(· kernel_rfl);rfl;intro _ _ _|(with_reducible apply aZ);exact qF;exact qM;(· kernel_rfl);rfl
  ·have he:e≠0:=by omega
   refine hT.fin fun wa aR=>⟨?_,?_⟩
   ·simp [DM.write,iI,he]
   ·simp only [DM.write,iI,he,bA,if_false,ne_eq,not_false_eq_true,if_true]
    exact stay m hT h0 hz wa aR
  ·have he:e=0:=by omega
   refine hT.call (LX h0 jl iI) (by kernel_rfl) (fun _ h=>h) fun v wa w2 X2 hq hle hU bM hc=>?_
   obtain⟨rfl,h2⟩:=hq
   replace bM:Ft w0 F w2 X2 F:=bM.less fun k hk=>.inl hk
   rw [←htz] at h2
   cases ht:m.tick.dn
   ·repeat' first|with_reducible apply ak|(with_reducible apply Kl);rfl
    refine bM.call (hdo he w2 X2 (hAm.trans (hc.fC fun k ai=>⟨aU (hA k ai).2.1 hk.size,(hA k ai).2.2⟩)) (fun k ai=>hc.sub k (aU (hA k ai).2.1 hk.size)) (bM.fx fun _ h=>h) ⟨mb,l,h2,htz▸hz⟩) hf (fun _ h=>h) fun v qw w3 X3 Hq rr oG cP oe=>?_
    obtain⟨rfl,F',pB,hD⟩:=Hq
    refine cP.fin fun E6 aR=>⟨?_,F',cP.gK aR pB,?_⟩
    ·simp [DM.write,iI,he,ht]
    ·simp only [DM.write,iI,he,ht,bA,if_false,ne_eq,not_true_eq_false]
     exact hD.mv (aR.fC fun k ai=>cP.ba k (pB k ai))
   ·repeat' first|with_reducible apply aD
    refine bM.fin fun wa aR=>⟨?_,?_⟩
    ·simp [DM.write,iI,he,ht]
    ·simp only [DM.write,iI,he,ht,bA,if_false,ne_eq,not_true_eq_false,if_true]
     exact stay _ bM h2 (htz▸hz) wa aR
 ·rw [iI] at hb
  repeat' first|with_reducible (first|apply aD|apply aK)|(with_reducible apply aM);exact qF;(· kernel_rfl);rfl;intro _ _ _|(with_reducible apply aZ);exact qF;exact qM;(· kernel_rfl);rfl
  refine hT.fin fun wa aR=>⟨?_,?_⟩
  ·simp [DM.write,iI]
  ·simp only [DM.write,iI,if_true]
   exact stay m hT h0 hz wa aR
section
variable {R : Ending → World → Prop} {w w0 : World} {X F F0 G : XS} {db mb z : Nat} {l : List (ByteArray × mj)} {m : DM} {n : ByteArray} {f : mj} {N : Value → World → XS → Prop}
theorem YX {o':Nat} {x:Int} {s':Nat} (hT:Ft w0 F0 w X F) (h:mR w G db mb l m z) (hG: ∀k,G k→F k) (hn:getM n l=some f) (ho:o'=1) (hx:x=s') (hs:s'≤f.bs.length)
  (k: ∀w' X',Ft w0 F0 w' X' F→mR w' G db mb (fW n ⟨f.b,f.v,f.bs,s'⟩ l) (m.put n f.bs s') z→N undef w' X'):eU pg R X w true (eo 3 1 (ptr f.b o') (I x)) N:=by
 subst ho;subst hx
 have hX: ∀k,G k→X k:=fun k hk=>hT.ba k (hG k hk)
 have hr:=h.row _ (ic hn)
 have ho:=h.ow _ (ic hn)
 refine Bd (hr.mv (Mv.sub hX)) (by kernel_rfl) (by simp) rfl rfl hT.s.has fun w' X' c Aw=>?_
 have hT':Ft w0 F0 w' X' F:=hT.ej c (fun k hk=>by subst hk;exact hG _ hr.1) fun k hk=>.inl hk
 refine k w' X' hT' (h.lM (F':=G) (hT.fx hG) c hn (fun k hk=>.inl hk) (fun _ h=>h) ⟨hr.1,Aw.2⟩ ?_ (.inl rfl) hs)
 exact ho.tight.mv fun k hk hl=>⟨(ho.ba hk).1,c.block k (hX k (ho.ba hk).1) fun e=>ho.dS hr (by kernel_rfl) (by rw [←(show k=f.b from e)];exact hk)⟩
theorem aaH {vs:Value} {b:List Nat} (hT:Ft w0 F0 w X F) (h:mR w G db mb l m z) (hG: ∀k,G k→F k) (hn:getM n l=some f) (src:Sl w X 1 vs (b.map U1)) (hl:f.bs.length+b.length≤2^40)
  (k: ∀w' X',Ft w0 F0 w' X' (fun k=>F k∨(X' k∧w.heap.size≤k))→(∃v',mR w' (fun k=>G k∨(X' k∧w.heap.size≤k)) db mb (fW n ⟨f.b,v',f.bs++b,f.safe⟩ l) (m.put n (f.bs++b) f.safe) z)→N undef w' X'):
  eV pg R X w true (iS 95 5 1 1 95 f.v vs) fun x w1 X1=>ay pg X1 w1 (aH (ptr f.b 0)) fun p=>aa pg X1 w1 (aQ 141 0 0 1 p) fun q=>eU pg R X1 w1 true (eo 95 1 q x) N:=by
 have hX: ∀k,G k→X k:=fun k hk=>hT.ba k (hG k hk)
 have hr:=h.row _ (ic hn)
 have ho:=h.ow _ (ic hn)
 have hsf:=h.safe _ (ic hn)
 have dr:f.v.ownBlock≠some f.b:=ho.dS hr (by kernel_rfl)
 refine NC (by kernel_rfl) hT.s.has (ho.mono hX) src (by intro r hr u hu;obtain⟨x,_,rfl⟩:=List.mem_map.1 hr;simp only [U1,bo] at hu;subst hu;rfl) (by simp;omega) (by simp;omega) fun v' w1 X1 c tj gQ=>?_
 have vC:bJ w1 X1 f.b [f.v,I f.safe] 141:=⟨c.sub _ (hX _ hr.1),by rw [c.block _ (hX _ hr.1) fun e=>dr e];exact hr.2⟩
 with_reducible apply aK
 have QN:fieldInfo pg 141 0=some (0,1):=by kernel_rfl
 refine aM vC.cells QN rfl fun o' Ig _=>?_
 subst Ig
 have CI:=tD tj.one
 refine Bd vC (by kernel_rfl) (by simp) (by rw [CI];rfl) (by rw [CI];simp [tj.one]) c.has fun w' X' c' Aw=>?_
 rw [CI] at Aw
 have cc:fO (fun k=>k=f.b∨f.v.ownBlock=some k) X w X' w':=(c.mono fun k _ hk=>.inr hk).trans (c'.mono fun k _ hk=>.inl hk)
 have ah8:v'.ownBlock≠some f.b:=tj.dS vC (by kernel_rfl)
 have hU: ∀g,v'.ownBlock=some g→G g∨(X' g∧w.heap.size≤g):=fun g hg=>by
  rcases gQ with e|⟨g',e,eI⟩
  ·exact .inl (ho.ba (e▸hg)).1
  ·rw [hg] at e
   have:g=g':=bK e
   subst this
   exact .inr ⟨c'.sub _ (tj.ba hg).1,eI⟩
 have rE:Ow w' (fun k=>G k∨(X' k∧w.heap.size≤k)) 5 1 v' ((f.bs++b).map U1):=by
  rw [bq]
  exact tj.tight.mv fun k hk hl=>⟨hU k hk,c'.block k (tj.ba hk).1 fun e=>ah8 (by rw [←(show k=f.b from e)];exact hk)⟩
 refine k w' X' (hT.ej cc (fun k hk=>?_) fun k hk=>hk) ⟨v',h.lM (F':=fun k=>G k∨(X' k∧w.heap.size≤k)) (hT.fx hG) cc hn (fun k hk=>hk) (fun k hk=>.inl hk) ⟨.inl hr.1,?_⟩ rE gQ (by rw [ae];have:f.safe≤f.bs.length:=hsf;omega)⟩
 ·rcases hk with rfl|hk
  ·exact hG _ hr.1
  ·exact hG _ (ho.ba hk).1
 ·exact Aw.2
end
theorem Se {w:World} {X F S:XS} {db:Nat} {m:DM} {n:ByteArray} {vb:Value} {b:List Nat} (h:Dk w F db m) (hF:FX F X w) (hb:Sl w S 1 vb (b.map U1)) (hS: ∀k,S k→X k∧ ¬F k) (Ae:b.length≤2^30):
  Ct pg 170 #[ptr db 0,.string n,vb] w X F fun v wa w'=>v=I (m.append n b).2∧ ∃F',(∀k,F' k→F k∨made wa w' k)∧Dk w' F' db (m.append n b).1:=by
 intro w0 hk
 obtain⟨mb,l,h0,hz⟩:=h.mv (hF.mv hk)
 have hT:=hF.ft hk
 have jl:FX F (aW w0) w0:=hF.kp hk
 replace hb:Sl w0 (fun k=>S k∧k<w0.heap.size) 1 vb (b.map U1):=hb.mv fun k ai hl=>⟨⟨ai,aU hl hk.size⟩,hk.block k (hS k ai).1⟩
 have iH:=h0.box.mv (Mv.sub hT.ba)
 have hs:=aj.init w0
 have hg:=h0.get n
 have hm:=h0.map.mv j8 (Mv.sub hT.ba) (A':=nX) fun _ h=>h.elim
 apply HR;unfold yL
 repeat' first|with_reducible apply aK|(with_reducible apply aM);exact qF;(· kernel_rfl);rfl;intro _ _ _|(with_reducible apply aZ);exact qF;exact qM;(· kernel_rfl);rfl
 refine oO hm (fun f hn=>?_) fun hn=>?_
 ·have m5:m.get n=some (f.bs,f.safe):=by rw [hg,hn];rfl
  have afS:=DM.wS m5
  cases iI:m.dn
  ·rw [iI] at iH
   repeat' first|with_reducible (first|apply aD|apply ak|apply aK)|(with_reducible apply kF<;>intro _)|(with_reducible apply aM);exact qF;(· kernel_rfl);rfl;intro _ _ _|(with_reducible apply aZ);exact qF;exact qM;(· kernel_rfl);rfl|(with_reducible apply bS);exact qO;(· kernel_rfl)|(with_reducible apply lR);(· kernel_rfl)|(with_reducible apply kY);omega;omega
   ·refine hT.fin fun wa aR=>⟨?_,F,hT.gK aR fun _ h=>h,?_⟩
    ·simp only [DM.append,iI,m5,bA,if_false];rw [if_pos (by omega)];rfl
    ·simp only [DM.append,iI,m5,bA,if_false];rw [if_pos (by omega)];exact⟨mb,l,h0.mv (aR.fC hT.ba),hz⟩
   ·have xA: ¬4194304-m.sz<b.length:=by omega
    refine hT.call (LX h0 jl iI) (by kernel_rfl) (fun _ h=>h) fun v wa w2 X2 hq hle hU bM hc=>?_
    obtain⟨rfl,h2⟩:=hq
    replace bM:Ft w0 F w2 X2 F:=bM.less fun k hk=>.inl hk
    have lE:=(h2.row _ (ic hn)).mv (Mv.sub bM.ba)
    repeat' first|with_reducible apply aK|(with_reducible apply aM);exact qF;(· kernel_rfl);rfl;intro _ _ _|(with_reducible apply aZ);exact qF;exact qM;(· kernel_rfl);rfl
    refine aaH bM h2 (fun _ h=>h) hn ((hb.mv (hc.fC fun k ai=>⟨ai.2,(hS k ai.1).2⟩)).mono fun k ai=>hc.sub k ai.2) (show f.bs.length+b.length≤2^40 by omega) fun w3 X3 cP ⟨v',h3⟩=>?_
    have Ch:=h3.box.mv (Mv.sub cP.ba)
    have htz:=m.uG
    repeat' first|with_reducible apply aK|(with_reducible apply aM);exact qF;(· kernel_rfl);rfl;intro _ _ _|(with_reducible apply aZ);exact qF;exact qM;(· kernel_rfl);rfl|(with_reducible apply bS);exact qO;(· kernel_rfl)|(with_reducible apply cx);omega;omega
    have Dt:=DM.Jx (bs:=f.bs++b) (s':=f.safe) ((m.mJ n).trans m5)
    have hlen:(f.bs++b).length=f.bs.length+b.length:=ae
    refine ud cP h3 (fun _ h=>h) (m.tick.put n (f.bs++b) f.safe) (m.tick.put n (f.bs++b) f.safe).sz (o:=1) (by omega) (by kernel_rfl) (by omega) rfl (by rw [show(((m.tick.put n (f.bs++b) f.safe).sz:Nat):Int)=(m.sz:Int)+(b.length:Int)by omega];rfl) rfl h3.ar fun w4 X4 ed h4 c4=>?_
    have uT:=h4.box.mv (Mv.sub ed.ba)
    have fin: ∀wa,Kp X4 w4 wa→ ∃F',(∀k,F' k→F k∨made w0 wa k)∧Dk wa F' db (m.append n b).1:=fun wa aR=>⟨_,ed.gK aR fun _ h=>h,by
     simp only [DM.append,iI,m5,bA,if_false];rw [if_neg xA]
     exact⟨mb,_,h4.mv (aR.fC ed.ba),by show(m.tick.put n (f.bs++b) f.safe).sz≤_;omega⟩⟩
    cases ht:m.tick.dn
    ·repeat' first|with_reducible apply ak
     refine ed.fin fun wa aR=>⟨?_,fin wa aR⟩
     simp only [DM.append,iI,m5,bA,if_false];rw [if_neg xA];simp [ht]
    ·repeat' first|with_reducible apply aD
     refine ed.fin fun wa aR=>⟨?_,fin wa aR⟩
     simp only [DM.append,iI,m5,bA,if_false];rw [if_neg xA];simp [ht]
  ·rw [iI] at iH
   repeat' first|with_reducible (first|apply aD|apply aK)|(with_reducible apply aM);exact qF;(· kernel_rfl);rfl;intro _ _ _|(with_reducible apply aZ);exact qF;exact qM;(· kernel_rfl);rfl
   refine hT.fin fun wa aR=>⟨?_,F,hT.gK aR fun _ h=>h,?_⟩
   ·simp [DM.append,iI]
   ·simp only [DM.append,iI,if_true];exact⟨mb,l,h0.mv (aR.fC hT.ba),hz⟩
 ·have m5:m.get n=none:=by rw [hg,hn];rfl
  cases iI:m.dn
  ·rw [iI] at iH
   repeat' first|with_reducible (first|apply aD|apply ak|apply aK)|(with_reducible apply aM);exact qF;(· kernel_rfl);rfl;intro _ _ _|(with_reducible apply aZ);exact qF;exact qM;(· kernel_rfl);rfl|(with_reducible apply El);(· kernel_rfl)
   refine hT.fin fun wa aR=>⟨?_,F,hT.gK aR fun _ h=>h,?_⟩
   ·simp [DM.append,iI,m5]
   ·simp only [DM.append,iI,m5,bA,if_false];exact⟨mb,l,h0.mv (aR.fC hT.ba),hz⟩
  ·rw [iI] at iH
   repeat' first|with_reducible (first|apply aD|apply aK)|(with_reducible apply aM);exact qF;(· kernel_rfl);rfl;intro _ _ _|(with_reducible apply aZ);exact qF;exact qM;(· kernel_rfl);rfl
   refine hT.fin fun wa aR=>⟨?_,F,hT.gK aR fun _ h=>h,?_⟩
   ·simp [DM.append,iI]
   ·simp only [DM.append,iI,if_true];exact⟨mb,l,h0.mv (aR.fC hT.ba),hz⟩
theorem UC {w:World} {X F:XS} {db bd bn:Nat} {m:DM} {n:ByteArray} (h:Dk w F db m) (hF:FX F X w) (hd:bJ w X bd [ptr db 0] 26) (hn:bJ w X bn [.string n] 9) (hg:(m.get n).isSome=true):
  Ct pg 253 #[ptr bd 0,ptr bn 0] w X F fun v wa w'=>v= .tuple #[]∧ ∃F',(∀k,F' k→F k∨made wa w' k)∧Dk w' F' db (DM.jS n m):=by
 intro w0 hk
 obtain⟨mb,l,h0,hz⟩:=h.mv (hF.mv hk)
 have hT:=hF.ft hk
 replace hd:=hd.mv hk.dA
 replace hn:=hn.mv hk.dA
 have iH:=h0.box.mv (Mv.sub hT.ba)
 have hs:=aj.init w0
 have m5:=h0.get n
 have hm:=h0.map.mv j8 (Mv.sub hT.ba) (A':=nX) fun _ h=>h.elim
 apply Ga;unfold xV
 repeat' first|with_reducible apply aK|(with_reducible apply aM);exact qF;(· kernel_rfl);rfl;intro _ _ _|(with_reducible apply aZ);exact qF;exact qM;(· kernel_rfl);rfl
 refine oO hm (fun f h1=>?_) fun h1=>?_
 ·repeat' first|with_reducible apply aK|(with_reducible apply aM);exact qF;(· kernel_rfl);rfl;intro _ _ _|(with_reducible apply aZ);exact qF;exact qM;(· kernel_rfl);rfl
  refine oO hm (fun f' h2=>?_) fun h2=>?_
  ·rw [h1] at h2;cases h2
   have hr:=(h0.row _ (ic h1)).mv (Mv.sub hT.ba)
   have ho:=(h0.ow _ (ic h1)).sl
   have Jz:m.get n=some (f.bs,f.safe):=by rw [m5,h1];rfl
   repeat' first|with_reducible apply aK|(with_reducible apply aM);exact qF;(· kernel_rfl);rfl;intro _ _ _|(with_reducible apply aZ);exact qF;exact qM;(· kernel_rfl);rfl|(with_reducible apply bS);exact qO;(· kernel_rfl)
   refine YX hT h0 (fun _ h=>h) h1 (s':=f.bs.length) (by omega) rfl (bp _) fun w1 X1 cO h3=>?_
   refine cO.fin fun wa aR=>⟨rfl,F,cO.gK aR fun _ h=>h,?_⟩
   have e:DM.jS n m=m.put n f.bs f.bs.length:=by unfold DM.jS;rw [Jz]
   have eu:=m.Cg n
   rw [e] at eu⊢
   exact⟨mb,_,by rw [eu];exact h3.mv (aR.fC cO.ba),by omega⟩
  ·rw [h1] at h2;cases h2
 ·rw [m5,h1] at hg;cases hg
theorem WH {w:World} {X F:XS} {db:Nat} {m:DM} {n:ByteArray} (h:Dk w F db m) (hF:FX F X w):
  Ct pg 171 #[ptr db 0,.string n] w X F fun v wa w'=>v=I (m.sync n).2∧ ∃F',(∀k,F' k→F k∨made wa w' k)∧Dk w' F' db (m.sync n).1:=by
 intro w0 hk
 replace h:=h.mv (hF.mv hk)
 have hT:=hF.ft hk
 have jl:FX F (aW w0) w0:=hF.kp hk
 clear hF
 apply K6;unfold AT
 refine sI rfl hT.s.has fun bd w1 X1 nr au sK=>?_
 refine sI rfl au.has fun bn w2 X2 DY b6 JA=>?_
 have mU:=au.trans b6
 have bM:=hT.since mU
 have Gv:=sK.since b6
 have h2:Dk w2 F db m:=h.mv (mU.fg fun k ai=>(jl k ai).1)
 have hs:=aj.eP b6.has
 repeat' first|(with_reducible apply aZ);exact qF;exact qM;(· kernel_rfl);rfl|(with_reducible apply jx)
 refine dk (Gu h2 (bM.fx fun _ h=>h)) (by kernel_rfl) hs.has ?_
 rintro v wa w3 X3 rfl hle hU cw
 have cP:=bM.since cw
 have h3:Dk w3 F db m:=h2.mv (cw.fg bM.ba)
 have ah9:=sK.lt
 have ack:=cw.sub _ Gv.1
 have acm:=cw.sub _ JA.1
 have ql:=Gv.since cw
 have u7:=JA.since cw
 have e8:I (if(m.get n).isSome then 0 else 8)=I (((if(m.get n).isSome then 0 else 8:Nat)):Nat):=by split<;>rfl
 rw [e8]
 refine cP.call (yc (A:=fun k=>k=bd∨k=bn) (g:=DM.jS n) h3 (cP.fx fun _ h=>h) (fun k ai=>?_) (by kernel_rfl) ?_) (by kernel_rfl) (fun _ h=>h) fun v tY w4 X4 hq sY ml ed tW=>?_
 ·rcases ai with rfl|rfl
  ·exact⟨ack,ql.lt,fun hf=>by have:=(jl _ hf).2;omega⟩
  ·exact⟨acm,u7.lt,fun hf=>by have:=(jl _ hf).2;have:=au.kp.size;omega⟩
 ·intro he w5 X5 QZ A6 UD h5
  refine UC h5 UD ⟨A6 _ (.inl rfl),?_⟩ ⟨A6 _ (.inr rfl),?_⟩ ?_
  ·rw [(QZ bd (.inl rfl) (ql.lt)).2];exact ql.2
  ·rw [(QZ bn (.inr rfl) (u7.lt)).2];exact u7.2
  ·rw [m.mJ]
   cases mm:(m.get n).isSome
   ·rw [mm] at he;cases he
   ·rfl
 ·obtain⟨rfl,F',pB,hD⟩:=hq
  skip
  refine ed.fin fun E6 aR=>⟨rfl,F',ed.gK aR pB,hD.mv (aR.fC fun k ai=>ed.ba k (pB k ai))⟩
theorem Qd {w:World} {X F:XS} {db bd bn:Nat} {m:DM} {n:ByteArray} (h:Dk w F db m) (hF:FX F X w) (hd:bJ w X bd [ptr db 0] 26) (hn:bJ w X bn [.string n] 9) (hg:m.get n=none):
  Ct pg 204 #[ptr bd 0,ptr bn 0] w X F fun v wa w'=>v= .tuple #[]∧ ∃F',(∀k,F' k→F k∨made wa w' k)∧Dk w' F' db (m.put n [] 0):=by
 intro w0 hk
 obtain⟨mb,l,h0,hz⟩:=h.mv (hF.mv hk)
 have hT:=hF.ft hk
 have jl:FX F (aW w0) w0:=hF.kp hk
 replace hd:=hd.mv hk.dA
 replace hn:=hn.mv hk.dA
 have iH:=h0.box.mv (Mv.sub hT.ba)
 have hs:=aj.init w0
 have m5:=h0.get n
 have hm:=h0.map.mv j8 (Mv.sub hT.ba) (A':=nX) fun _ h=>h.elim
 have hgn:getM n l=none:=by
  rw [hg] at m5
  cases hq:getM n l with
  |none=>rfl
  |some f=>rw [hq] at m5;cases m5
 apply DE;unfold vJ
 repeat' first|with_reducible apply aK|(with_reducible apply aM);exact qF;(· kernel_rfl);rfl;intro _ _ _|(with_reducible apply aZ);exact qF;exact qM;(· kernel_rfl);rfl|(with_reducible apply gg);(· kernel_rfl)|(with_reducible apply lQ);(case hX=>exact hs.has);intro bx w X iH au dK;have cg:=hs.trans au;replace hs:=aj.eP au.has
 have uP:=hm.mv j8 cg.mv (A':=nX) fun _ h=>h.elim
 refine Fs (kt:=9) (et:=135) (a:=⟨bx,.slice none 0 0,[],0⟩) uP j8 (show LU _ _ (ptr bx 0) ⟨bx,.slice none 0 0,[],0⟩from rfl) (fun _ h=>h.elim) (rU (by kernel_rfl)) (by kernel_rfl) cg.has fun w2 X2 c sJ=>?_
 have cO:=hT.since cg
 have hbm:bx≠mb:=(uP.dS dK).symm
 have bM:Ft w0 F w2 X2 (fun k=>F k∨k=bx):=(cO.more (F':=fun k=>F k∨k=bx) fun k ai=>ai.imp id fun e=>by subst e;exact⟨dK.1,iH⟩).ej c (fun k ai=>by subst ai;exact .inl h0.map.x.1) fun k ai=>.inl ai
 have Ep:fO (· =mb) (aW w0) w0 X2 w2:=(fO.tH cg _).trans c
 refine bM.fin fun wa aR=>⟨rfl,_,bM.gK aR fun _ h=>h,?_⟩
 have eu:=DM.Qc (bs:=[]) (s':=0) hg
 have hL:=h0.new (F':=fun k=>F k∨k=bx) jl Ep hgn (fun k ai=>ai) (fun k ai=>.inl ai) iH (sJ.own.mv j8 (fun k ai hl=>⟨.inl (by subst ai;exact h0.map.x.1),rfl⟩) fun _ h=>h.elim) ⟨.inr rfl,by rw [c.block _ dK.1 hbm];exact dK.2⟩
 have acn:(m.put n [] 0).sz=m.sz:=by simpa using eu
 rw [←acn] at hL
 exact⟨mb,_,hL.mv (aR.fC bM.ba),by omega⟩
def DM.zo (m:DM) (n:ByteArray):Nat:=if¬rq n then 10 else if(m.get n).isSome then 9 else if 64≤m.fs.length then 3 else 0
theorem Sf {w:World} {X F:XS} {db:Nat} {m:DM} {n:ByteArray} (h:Dk w F db m) (hF:FX F X w):
  Ct pg 140 #[ptr db 0,.string n] w X F fun v wa w'=>v=I (m.create n).2∧ ∃F',(∀k,F' k→F k∨made wa w' k)∧Dk w' F' db (m.create n).1:=by
 intro w0 hk
 replace h:=h.mv (hF.mv hk)
 have hT:=hF.ft hk
 have jl:FX F (aW w0) w0:=hF.kp hk
 clear hF
 obtain⟨mb,l,h0,hz⟩:=id h
 apply HP;unfold yJ
 refine sI rfl hT.s.has fun bd w1 X1 nr au sK=>?_
 refine sI rfl au.has fun bn w2 X2 DY b6 JA=>?_
 have mU:=au.trans b6
 have hs:=aj.eP b6.has
 have Gv:=sK.since b6
 have hX:=fun k ai=>mU.sub k (hT.ba k ai)
 have iH:=(h0.box.mv (Mv.sub hT.ba)).since mU
 have hm:=(h0.map.mv j8 (Mv.sub hT.ba) (A':=nX) fun _ h=>h.elim).mv j8 mU.mv (A':=nX) fun _ h=>h.elim
 have m5:=h0.get n
 have hlen:=h0.len
 have key: ∀(w3:World) (X3:XS) (e:Nat),aj X2 w2 X3 w3→m.zo n=e→eC pg (Ny F w0 fun v w'=>v=I (m.create n).2∧ ∃F',(∀k,F' k→F k∨made w0 w' k)∧Dk w' F' db (m.create n).1) X3 w3 true 172 #[ptr db 0,I e,.func (.func 204) #[] #[ptr bd 0,ptr bn 0]] fun x w4 X4=>
   fin (Ny F w0 fun v w'=>v=I (m.create n).2∧ ∃F',(∀k,F' k→F k∨made w0 w' k)∧Dk w' F' db (m.create n).1) X4 w4 x:=by
  intro w3 X3 e cw he
  have YY:=mU.trans cw
  have cP:=hT.since YY
  have h3:Dk w3 F db m:=h.mv (YY.fg fun k ai=>(jl k ai).1)
  have ql:=Gv.since cw
  have u7:=JA.since cw
  have em:m.create n=m.write e fun m=>m.put n [] 0:=by rw [←he];rfl
  rw [em]
  refine cP.call (yc (A:=fun k=>k=bd∨k=bn) (g:=fun m=>m.put n [] 0) h3 (cP.fx fun _ h=>h) (fun k ai=>?_) (by kernel_rfl) ?_) (by kernel_rfl) (fun _ h=>h) fun v tY w4 X4 hq sY ml ed tW=>?_
  ·rcases ai with rfl|rfl
   ·exact⟨ql.1,ql.lt,fun hf=>by have:=(jl _ hf).2;omega⟩
   ·exact⟨u7.1,u7.lt,fun hf=>by have:=(jl _ hf).2;have:=au.kp.size;omega⟩
  ·intro he0 w5 X5 QZ A6 UD h5
   refine Qd h5 UD ⟨A6 _ (.inl rfl),?_⟩ ⟨A6 _ (.inr rfl),?_⟩ ?_
   ·rw [(QZ bd (.inl rfl) (ql.lt)).2];exact ql.2
   ·rw [(QZ bn (.inr rfl) (u7.lt)).2];exact u7.2
   ·rw [m.mJ]
    rw [he0] at he
    unfold DM.zo at he
    cases mm:m.get n with
    |none=>rfl
    |some x=>
     rw [mm] at he;simp at he
     exfalso;split at he<;>omega
  ·obtain⟨rfl,F',pB,hD⟩:=hq
   exact ed.fin fun E6 aR=>⟨rfl,F',ed.gK aR pB,hD.mv (aR.fC fun k ai=>ed.ba k (pB k ai))⟩
 refine fV (fun k=> ∀(e:Nat) (w3:World) (X3:XS),aj X2 w2 X3 w3→m.zo n=e→k (I e) w3 X3) ?_ ?_
 ·intro e w3 X3 cw he
  have ql:=Gv.since cw
  repeat' first|(with_reducible apply aZ);exact qF;exact qM;(· kernel_rfl);rfl|(with_reducible apply jx)
  exact key w3 X3 e cw he
 ·intro K hK
  repeat' first|with_reducible (first|apply aD|apply ak|apply eY|apply gv|apply aK)|(with_reducible apply aM);exact qF;(· kernel_rfl);rfl;intro _ _ _|(with_reducible apply aZ);exact qF;exact qM;(· kernel_rfl);rfl|((with_reducible refine dU (WG _) ?_ hs.has ?_ ?_);(· kernel_rfl);all_goals (intro _ w X au;replace hs:=hs.trans au))
  ·have u7:=JA.since hs
   have ql:=Gv.since hs
   have ajo:=iH.since hs
   have C6:=hm.mv j8 hs.mv (A':=nX) fun _ h=>h.elim
   skip
   refine oO C6 (fun f hn=>?_) fun hn=>?_
   ·repeat' first|with_reducible apply aD|(with_reducible apply od);(· kernel_rfl)
    exact hK 9 _ _ hs (by simp_all [DM.zo])
   ·repeat' first|with_reducible (first|apply aD|apply ak|apply aK)|(with_reducible apply mG<;>intro _)|(with_reducible apply aM);exact qF;(· kernel_rfl);rfl;intro _ _ _|(with_reducible apply aZ);exact qF;exact qM;(· kernel_rfl);rfl|(with_reducible apply Em);(· kernel_rfl)|(refine afR C6 (kt:=9) (et:=135) (by kernel_rfl) ?_)
    ·exact hK 3 _ _ hs (by simp only [DM.zo,m5,hn];simp_all<;>omega)
    ·exact hK 0 _ _ hs (by simp only [DM.zo,m5,hn];simp_all<;>omega)
  ·exact hK 10 _ _ hs (by simp_all [DM.zo])
theorem WI {w:World} {X F:XS} {db:Nat} {m:DM} {n:ByteArray} (h:Dk w F db m) (hF:FX F X w) (hg:(m.get n).isSome=true):
  Ct pg 175 #[ptr db 0,.string n] w X F fun v wa w'=>v= .tuple #[]∧Dk w' F db (m.del n):=by
 intro w0 hk
 obtain⟨mb,l,h0,hz⟩:=h.mv (hF.mv hk)
 have hT:=hF.ft hk
 have iH:=h0.box.mv (Mv.sub hT.ba)
 have hs:=aj.init w0
 have m5:=h0.get n
 have hm:=h0.map.mv j8 (Mv.sub hT.ba) (A':=nX) fun _ h=>h.elim
 apply K7;unfold AU
 repeat' first|with_reducible apply aK|(with_reducible apply aM);exact qF;(· kernel_rfl);rfl;intro _ _ _|(with_reducible apply aZ);exact qF;exact qM;(· kernel_rfl);rfl
 refine oO hm (fun f hn=>?_) fun hn=>?_
 ·have Jz:m.get n=some (f.bs,f.safe):=by rw [m5,hn];rfl
  have hle:=DM.wS Jz
  have hr:=(h0.row _ (ic hn)).mv (Mv.sub hT.ba)
  have ho:Sl w0 F 1 f.v (f.bs.map U1):=(h0.ow _ (ic hn)).sl
  have eu:(m.del n).sz+f.bs.length=m.sz:=by
   have py:(m.fs.map (·.1)).Nodup:=by rw [h0.fs,List.map_map];exact h0.nodup
   exact acj (f:=fun x:List Nat×Nat=>x.1.length) py Jz
  repeat' first|with_reducible (first|apply aD|apply aK)|(with_reducible apply aM);exact qF;(· kernel_rfl);rfl;intro _ _ _|(with_reducible apply aZ);exact qF;exact qM;(· kernel_rfl);rfl|(with_reducible apply bS);exact qO;(· kernel_rfl)|(with_reducible apply od);(· kernel_rfl)|(with_reducible apply kY);omega;omega
  refine ud hT h0 (fun _ h=>h) m (m.del n).sz (o:=1) (by omega) (by kernel_rfl) (by omega) rfl (by rw [show(((m.del n).sz:Nat):Int)=(m.sz:Int)-(f.bs.length:Int)by omega];rfl) rfl h0.ar fun w1 X1 cO h1 c1=>?_
  have ajp:=h1.box.mv (Mv.sub cO.ba)
  have uP:=h1.map.mv j8 (Mv.sub cO.ba) (A':=nX) fun _ h=>h.elim
  repeat' first|with_reducible apply aK|(with_reducible apply aM);exact qF;(· kernel_rfl);rfl;intro _ _ _|(with_reducible apply aZ);exact qF;exact qM;(· kernel_rfl);rfl
  refine Tl (kt:=9) (et:=135) uP j8 (fun _ h=>h.elim) (rU (by kernel_rfl)) (by kernel_rfl) cO.s.has fun w2 X2 c sJ=>?_
  have hL:=h1.less cO.ba c sJ
  have bM:Ft w0 F w2 X2 F:=cO.ej c (fun k ai=>by subst ai;exact h1.map.x.1) fun k ai=>.inl ai
  exact bM.fin fun wa aR=>⟨rfl,mb,_,hL.mv (aR.fC bM.ba),by omega⟩
 ·rw [m5,hn] at hg;cases hg
theorem Qe {w:World} {X F:XS} {db bd bn:Nat} {m:DM} {n:ByteArray} (h:Dk w F db m) (hF:FX F X w) (hd:bJ w X bd [ptr db 0] 26) (hn:bJ w X bn [.string n] 9) (hg:(m.get n).isSome=true):
  Ct pg 174 #[ptr bd 0,ptr bn 0] w X F fun v wa w'=>v= .tuple #[]∧ ∃F',(∀k,F' k→F k∨made wa w' k)∧Dk w' F' db (m.del n):=by
 intro w0 hk
 replace h:=h.mv (hF.mv hk)
 have hT:=hF.ft hk
 replace hd:=hd.mv hk.dA
 replace hn:=hn.mv hk.dA
 have hs:=aj.init w0
 apply DD;unfold vI
 repeat' first|(with_reducible apply aZ);exact qF;exact qM;(· kernel_rfl);rfl
 refine hT.call (WI h (hT.fx fun _ h=>h) hg) (by kernel_rfl) (fun _ h=>h) fun v wa w2 X2 hq hle hU bM hc=>?_
 exact bM.fin fun wa aR=>⟨rfl,F,bM.gK aR fun _ h=>.inl h,hq.2.mv (aR.fC fun k ai=>bM.ba k (.inl ai))⟩
theorem Sg {w:World} {X F:XS} {db:Nat} {m:DM} {n:ByteArray} (h:Dk w F db m) (hF:FX F X w):
  Ct pg 105 #[ptr db 0,.string n] w X F fun v wa w'=>v=I (m.remove n).2∧ ∃F',(∀k,F' k→F k∨made wa w' k)∧Dk w' F' db (m.remove n).1:=by
 intro w0 hk
 replace h:=h.mv (hF.mv hk)
 have hT:=hF.ft hk
 have jl:FX F (aW w0) w0:=hF.kp hk
 clear hF
 apply HN;unfold yH
 refine sI rfl hT.s.has fun bd w1 X1 nr au sK=>?_
 refine sI rfl au.has fun bn w2 X2 DY b6 JA=>?_
 have mU:=au.trans b6
 have bM:=hT.since mU
 have Gv:=sK.since b6
 have h2:Dk w2 F db m:=h.mv (mU.fg fun k ai=>(jl k ai).1)
 have hs:=aj.eP b6.has
 repeat' first|(with_reducible apply aZ);exact qF;exact qM;(· kernel_rfl);rfl|(with_reducible apply jx)
 refine dk (Gu h2 (bM.fx fun _ h=>h)) (by kernel_rfl) hs.has ?_
 rintro v wa w3 X3 rfl hle hU cw
 have cP:=bM.since cw
 have h3:Dk w3 F db m:=h2.mv (cw.fg bM.ba)
 have ah9:=sK.lt
 have ack:=cw.sub _ Gv.1
 have acm:=cw.sub _ JA.1
 have ql:=Gv.since cw
 have u7:=JA.since cw
 have e8:I (if(m.get n).isSome then 0 else 8)=I (((if(m.get n).isSome then 0 else 8:Nat)):Nat):=by split<;>rfl
 rw [e8]
 refine cP.call (yc (A:=fun k=>k=bd∨k=bn) (g:=fun m=>m.del n) h3 (cP.fx fun _ h=>h) (fun k ai=>?_) (by kernel_rfl) ?_) (by kernel_rfl) (fun _ h=>h) fun v tY w4 X4 hq sY ml ed tW=>?_
 ·rcases ai with rfl|rfl
  ·exact⟨ack,ql.lt,fun hf=>by have:=(jl _ hf).2;omega⟩
  ·exact⟨acm,u7.lt,fun hf=>by have:=(jl _ hf).2;have:=au.kp.size;omega⟩
 ·intro he w5 X5 QZ A6 UD h5
  refine Qe h5 UD ⟨A6 _ (.inl rfl),?_⟩ ⟨A6 _ (.inr rfl),?_⟩ ?_
  ·rw [(QZ bd (.inl rfl) (ql.lt)).2];exact ql.2
  ·rw [(QZ bn (.inr rfl) (u7.lt)).2];exact u7.2
  ·rw [m.mJ]
   cases mm:(m.get n).isSome
   ·rw [mm] at he;cases he
   ·rfl
 ·obtain⟨rfl,F',pB,hD⟩:=hq
  skip
  refine ed.fin fun E6 aR=>⟨rfl,F',ed.gK aR pB,hD.mv (aR.fC fun k ai=>ed.ba k (pB k ai))⟩
def xr (a b:Int):Int:=IntKind.u32.wrap (aP IntKind.u32.bits a^^^aP IntKind.u32.bits b).toNat
def XE (a b:Int):Int:=IntKind.u8.wrap (aP IntKind.u8.bits a^^^aP IntKind.u8.bits b).toNat
def an (a b:Int):Int:=IntKind.u32.wrap (aP IntKind.u32.bits a&&& aP IntKind.u32.bits b).toNat
def sr (a n:Int):Int:=a.fdiv (2^min n.toNat IntKind.u32.bits)
def ng (a:Int):Int:=IntKind.u32.wrap (-a)
def nt (a:Int):Int:=xr IntKind.u32.max a
def stp (c:Int):Int:=xr (sr c 1) (an 2197175160 (ng (an c 1)))
def it:Nat→Int→Int
 |0,c=>c
 |n+1,c=>stp (it n c)
def A7 (i:Int):Int:=it 8 (IntKind.u32.wrap i)
def YZ (l:List Nat) (c:Int):Int:=l.foldl (fun (c:Int) (x:Nat)=>it 8 (xr c (IntKind.u32.wrap x))) c
def UE (l:List Nat) (c:Int):Int:=l.foldl (fun (c:Int) (x:Nat)=>xr (sr c 8) (A7 (XE (IntKind.u8.wrap c) x))) c
def JB (l:List Nat):Int:=nt (if l.length<64 then YZ l 4294967295 else UE l 4294967295)
def Af (l:List Nat):Nat:=(JB l).toNat
def ru (n:Nat):List Nat:=[n % 256,n/256 % 256,n/65536 % 256,n/16777216 % 256]
def du (p:List Nat):List Nat:=ru p.length++ru (Af (ru p.length))++p++ru (Af p)
theorem wrap32 (n:Int):IntKind.u32.wrap n=n % 4294967296:=by simp [kr,jh,gT]
theorem aco (a b:Int):0≤xr a b∧xr a b<4294967296:=by unfold xr;rw [wrap32];omega
theorem aaI (a b:Int):0≤XE a b∧XE a b<256:=by unfold XE;rw [C8];omega
theorem OH (l:List Nat):0≤JB l∧JB l<4294967296:=aco _ _
theorem OI (l:List Nat):((Af l:Nat):Int)=JB l:=uR (OH l).1
theorem aaJ (l:List Nat):Af l<4294967296:=by have:=OI l;have:=OH l;omega
theorem Kw (n:Nat):(ru n).length=4:=rfl
theorem nA (p:List Nat):(du p).length=p.length+12:=by simp only [du,ae,Kw];omega
section
variable {P : Program} {R : Ending → World → Prop} {X : XS} {w : World} {m : Bool} {N : Value → Prop} {t : TypeId} {a b : Int}
theorem Y3 (h:N (.int .u32 (xr a b))):aa P X w (binOp .xor t (.int .u32 a) (.int .u32 b)) N:=Po h
theorem ahe (h:N (.int .u8 (XE a b))):aa P X w (binOp .xor t (.int .u8 a) (.int .u8 b)) N:=Po h
theorem afT (h:N (.int .u32 (an a b))):aa P X w (binOp .and t (.int .u32 a) (.int .u32 b)) N:=Kg h
theorem acp (hb: ¬b<0) (h:N (.int .u32 (sr a b))):aa P X w (binOp .shr t (.int .u32 a) (.int .u64 b)) N:=Bs hb h
theorem afU (h:N (.int .u32 (ng a))):aa P X w (aY .neg (.int .u32 a)) N:=b9 (fun wa=>by simp [aY,ng,Op.intArith]) h
theorem afV (h:N (.int .u32 (nt a))):aa P X w (aY .xor (.int .u32 a)) N:=b9 (fun wa=>by simp [aY,nt,xr,Op.intBits,gT]) h
theorem XF {k:IntKind} {g o i:Nat} {z:Int} (hz:z=i) (hi:i<P.arrayLen t) (ht:P.underlying t=some (.array (P.arrayLen t) (P.elem t))) (hs:(P.info? (P.elem t)).map (·.size)=some 1) (h:N (ptr g (o+i))):
  aa P X w (Instr.indexAt t (ptr g o) (.int k z)) N:=by
 subst hz
 refine b9 (v:=ptr g (o+i)) (fun wa=>?_) h
 show(Instr.indexAt t (.pointer (some ⟨g,o,none⟩)) _).run P wa=_
 rw [run_indexAt_array (h:=ht),if_pos (by omega)]
 cases hq:P.info? (P.elem t)with
 |none=>simp [hq] at hs
 |some inf=>
  have:inf.size=1:=by simpa [hq] using hs
  simp [sizeOf,typeInfo,hq,this,wm]
end
abbrev U4 (x:Int):Value:=.int .u32 x
theorem Sh {w:World} {X:XS} :Ct pg 287 #[] w X nX fun v wa w'=>v= .agg ((dO 256).map fun i:Nat=>U4 (A7 (i:Int))).toArray:=by
 intro w0 hk
 apply PT;unfold EF
 have hs:=aj.init w0
 have hT:Ft w0 nX w0 (aW w0) nX:=Ft.init fun _ h=>h.elim
 refine Eo (l:=gz 256 (U4 0)) hs.has (by kernel_rfl) fun b w1 X1 hb au hr=>?_
 have cO:Ft w0 nX w1 X1 (fun k=>k=b):=(hT.since au).more fun k ai=>by subst ai;exact .inr ⟨hr.1,hb⟩
 refine Eh (fun n a _ _ w X=> ∃i:Nat,a=I (i:Nat)∧n=256-i∧i≤256∧Ft w0 nX w X (fun k=>k=b)∧bJ w X b (((dO i).map fun i:Nat=>U4 (A7 (i:Int)))++gz (256-i) (U4 0)) 353) 256 ⟨0,rfl,rfl,aV _,cO,by simpa using hr⟩ ?_
 rintro n a _ _ w X ⟨i,rfl,rfl,hi,bM,lE⟩
 repeat' first|with_reducible (first|apply aD|apply ak)|(with_reducible apply kE<;>intro _)|(with_reducible apply pq);(· kernel_rfl);(· kernel_rfl)
 ·refine iN (fun n a c w' X'=> ∃j:Nat,a=I (j:Nat)∧c=U4 (it j (IntKind.u32.wrap i))∧n=8-j∧j≤8∧w'=w∧X'=X) 8 ⟨0,rfl,rfl,rfl,aV _,rfl,rfl⟩ ?_
  rintro n a c _ _ ⟨j,rfl,rfl,rfl,hj,rfl,rfl⟩
  repeat' first|with_reducible (first|apply aD|apply ak)|(with_reducible apply kE<;>intro _)|(with_reducible apply cx);omega;omega|(with_reducible apply acp);omega|(with_reducible apply afT)|(with_reducible apply afU)|(with_reducible apply Y3)
  ·exact iC (8-(j+1)) (by omega) ⟨j+1,by simp,rfl,rfl,by omega,rfl,rfl⟩
  ·have JC:j=8:=by omega
   subst JC
   have hal:pg.arrayLen 353=256:=by kernel_rfl
   refine XF rfl (by rw [hal];omega) (by kernel_rfl) (by kernel_rfl) ?_
   rw [fH]
   refine Bd lE (by kernel_rfl) (by simp;omega) rfl rfl bM.s.has fun w3 X3 c yE=>?_
   have cP:Ft w0 nX w3 X3 (fun k=>k=b):=bM.ej c (fun k ai=>ai) fun k ai=>.inl ai
   repeat' first|(with_reducible apply cx);omega;omega
   refine BN (256-(i+1)) (by omega) ⟨i+1,by simp,rfl,by omega,cP,?_⟩
   have e:cd (((dO i).map fun i:Nat=>U4 (A7 (i:Int)))++gz (256-i) (U4 0)) i (ad (U4 (it 8 (IntKind.u32.wrap (i:Int))))).toList=((dO (i+1)).map fun i:Nat=>U4 (A7 (i:Int)))++gz (256-(i+1)) (U4 0):=by
    have hl:((dO i).map fun i:Nat=>U4 (A7 (i:Int))).length=i:=by simp
    rw [show 256-i=(256-(i+1))+1 by omega,List.replicate_succ]
    unfold cd
    rw [List.take_left' hl,List.range_succ,bq,List.map_singleton,ax,ax]
    have hd: ∀r:List Value,(((dO i).map fun i:Nat=>U4 (A7 (i:Int)))++U4 0::r).drop (i+1)=r:=fun r=>by
     rw [←List.drop_drop,List.drop_left' hl];rfl
    have h1:(ad (U4 (it 8 (IntKind.u32.wrap (i:Int))))).toList=[U4 (A7 (i:Int))]:=rfl
    rw [h1,jj,hd]
   rw [←e];exact yE
 ·have hi6:i=256:=by omega
  subst hi6
  have yE:bJ w X b ((dO 256).map fun i:Nat=>U4 (A7 (i:Int))) 353:=by simpa using lE
  have hl:((dO 256).map fun i:Nat=>U4 (A7 (i:Int))).length=256:=by simp
  generalize hL:((dO 256).map fun i:Nat=>U4 (A7 (i:Int)))=L at yE hl⊢
  have Mj:L.all one=true:=by rw [←hL];simp;intros;rfl
  refine fP yE.cells (Mv.refl _ _) (by kernel_rfl) hl ?_
  refine ff ?_
  refine dF.2 ⟨by simpa [ad] using hl,dF.2 ⟨by simpa [ad] using Mj,?_⟩⟩
  refine aaj ?_
  refine dF.2 ⟨rfl,?_⟩
  rw [List.drop_zero,cl (by omega)]
  exact bM.fin fun wa aR=>rfl
theorem Q3 {β:Type} (f:β→Nat→β) (l:List Nat) {i x:Nat} (c:β) (h:l[i]? =some x):(l.take (i+1)).foldl f c=f ((l.take i).foldl f c) x:=by
 rw [dI,h];simp
theorem zw {w:World} {X:XS} {vb:Value} {l:List Nat} (h:Sl w X 1 vb (l.map U1)):Ct pg 203 #[vb] w X nX fun v wa w'=>v=U4 (JB l):=by
 intro w0 hk
 replace h:=h.mv hk.dA
 have hlen:=h.gW
 apply TO;unfold IM
 have hs:=aj.init w0
 repeat' first|with_reducible (first|apply aD|apply ak)|(with_reducible apply kE<;>intro _)|(with_reducible apply bS);exact qO;(· kernel_rfl)
 ·have h64:l.length<64:=by omega
  refine Eh (fun n a _ c w X=> ∃i:Nat,a=I (i:Nat)∧c=U4 (YZ (l.take i) 4294967295)∧n=l.length-i∧i≤l.length∧aj (aW w0) w0 X w) l.length ⟨0,rfl,rfl,rfl,aV _,hs⟩ ?_
  clear hs
  rintro n a _ _ w X ⟨i,rfl,rfl,rfl,hi,hs⟩
  rcases fh l i with⟨dh,x,hx,hd⟩|⟨eI,hd⟩
  ·repeat' first|(with_reducible refine dC ?_ ?_);omega|with_reducible apply aD|(with_reducible apply aZ);exact qF;exact qM;(· kernel_rfl);rfl|((with_reducible apply e7);exact qO;(try (case hz=>rfl));(case hr=>exact qR);(try (case hz=>omega));(case ht=>kernel_rfl);(case hs=>kernel_rfl);intro _ _ _)|(with_reducible apply pq);(· kernel_rfl);(· kernel_rfl)|(with_reducible apply Y3)
   refine iN (fun n a c w' X'=> ∃j:Nat,a=I (j:Nat)∧c=U4 (it j (xr (YZ (l.take i) 4294967295) (IntKind.u32.wrap x)))∧n=8-j∧j≤8∧w'=w∧X'=X) 8 ⟨0,rfl,rfl,rfl,aV _,rfl,rfl⟩ ?_
   rintro n a c _ _ ⟨j,rfl,rfl,rfl,hj,rfl,rfl⟩
   repeat' first|with_reducible (first|apply aD|apply ak)|(with_reducible apply kE<;>intro _)|(with_reducible apply cx);omega;omega|(with_reducible apply acp);omega|(with_reducible apply afT)|(with_reducible apply afU)|(with_reducible apply Y3)
   ·exact iC (8-(j+1)) (by omega) ⟨j+1,by simp,rfl,rfl,by omega,rfl,rfl⟩
   ·have JC:j=8:=by omega
    subst JC
    refine BN (l.length-(i+1)) (by omega) ⟨i+1,by simp,?_,rfl,by omega,hs⟩
    unfold YZ
    rw [Q3 _ l _ hx]
  ·have mP:i=l.length:=by omega
   subst mP
   repeat' first|(with_reducible refine dm ?_ ?_);omega|with_reducible apply ak|(with_reducible apply afV)|((first|(with_reducible refine aq hs ?_)|(with_reducible refine aq (cg.trans hs) ?_));intro wa hk;(rw [JB,if_pos h64,dV]))
 ·have h64: ¬l.length<64:=by omega
  refine dk Sh (by kernel_rfl) hs.has ?_
  rintro _ wa w1 X1 rfl hle hU au
  replace hs:=hs.trans au
  refine Eo (l:=gz 256 (U4 0)) hs.has (by kernel_rfl) fun b w2 X2 hb b6 hr=>?_
  have mU:=hs.trans b6
  have hT:Ft w0 nX w2 X2 (fun k=>k=b):=((Ft.init (w:=w0) (F0:=nX) fun _ h=>h.elim).since mU).more fun k ai=>by subst ai;exact .inr ⟨hr.1,by have:=hs.kp.size;omega⟩
  have hl:((dO 256).map fun i:Nat=>U4 (A7 (i:Int))).length=256:=by simp
  have wu: ∀i:Nat,i<256→((dO 256).map fun i:Nat=>U4 (A7 (i:Int)))[i]? =some (U4 (A7 (i:Int))):=fun i hi=>by simp [hi]
  have Mj:((dO 256).map fun i:Nat=>U4 (A7 (i:Int))).all one=true:=by simp;intros;rfl
  generalize ((dO 256).map fun i:Nat=>U4 (A7 (i:Int)))=L at hl wu Mj⊢
  refine Bd hr (by kernel_rfl) (by simp) (by simpa [ad] using hl) (by simpa [ad] using Mj) hT.s.has fun w3 X3 c yE=>?_
  have cP:Ft w0 nX w3 X3 (fun k=>k=b):=hT.ej c (fun k ai=>ai) fun k ai=>.inl ai
  have e:cd (gz 256 (U4 0)) 0 (ad (.agg L.toArray)).toList=L:=by
   unfold cd
   simp [ad,hl]
  rw [e] at yE
  have cw:aj (aW w0) w0 X3 w3:=⟨⟨cP.s.kp.os,cP.s.kp.tape,cP.s.kp.output,cP.s.kp.size,fun k ai=>cP.s.kp.block k ⟨ai,fun h=>h.elim⟩⟩,fun k ai=>cP.s.sub k ⟨ai,fun h=>h.elim⟩,cP.s.has⟩
  clear hs mU
  have hs:=cw
  repeat' first|(with_reducible apply bS);exact qO;(· kernel_rfl)
  refine iN (fun n a c w X=> ∃i:Nat,a=I (i:Nat)∧c=U4 (UE (l.take i) 4294967295)∧n=l.length-i∧i≤l.length∧w=w3∧X=X3) l.length ⟨0,rfl,rfl,rfl,aV _,rfl,rfl⟩ ?_
  rintro n a _ _ _ ⟨i,rfl,rfl,rfl,hi,rfl,rfl⟩
  rcases fh l i with⟨dh,x,hx,hd⟩|⟨eI,hd⟩
  ·repeat' first|(with_reducible refine dC ?_ ?_);omega|with_reducible apply aD|(with_reducible apply aZ);exact qF;exact qM;(· kernel_rfl);rfl|((with_reducible apply e7);exact qO;(try (case hz=>rfl));(case hr=>exact qR);(try (case hz=>omega));(case ht=>kernel_rfl);(case hs=>kernel_rfl);intro _ _ _)|(with_reducible apply pq);(· kernel_rfl);(· kernel_rfl)|(with_reducible apply acp);omega|(with_reducible apply ahe)
   have hrg:=aaI (IntKind.u8.wrap (UE (l.take i) 4294967295)) x
   obtain⟨q,hq⟩: ∃q:Nat,XE (IntKind.u8.wrap (UE (l.take i) 4294967295)) x=(q:Int):=⟨_,(uR hrg.1).symm⟩
   have hal:pg.arrayLen 353=256:=by kernel_rfl
   refine XF hq (by rw [hal];omega) (by kernel_rfl) (by kernel_rfl) ?_
   rw [fH]
   have QQ:=yE.cells.Ys (wu q (by omega))
   rw [fH] at QQ
   repeat' first|(with_reducible apply aZ);exact qF;exact qM;(· kernel_rfl);rfl|(with_reducible apply cx);omega;omega|(with_reducible apply Y3)
   refine iC (l.length-(i+1)) (by omega) ⟨i+1,by simp,?_,rfl,by omega,rfl,rfl⟩
   unfold UE
   rw [Q3 _ l _ hx,←hq]
   rfl
  ·have mP:i=l.length:=by omega
   subst mP
   repeat' first|(with_reducible refine dm ?_ ?_);omega|with_reducible apply ak|(with_reducible apply afV)|((first|(with_reducible refine aq hs ?_)|(with_reducible refine aq (cg.trans hs) ?_));intro wa hk;(rw [JB,if_neg h64,dV]))
theorem Y4 {P:Program} {X:XS} {w:World} {N:Value→Prop} {t:TypeId} {u:Nat} (k:Nat) (hk:k≤32) (h:N (.int .u32 ((u/2^k:Nat):Int))):aa P X w (binOp .shr t (.int .u32 (u:Int)) (.int .u64 (k:Int))) N:=by
 refine Bs (by omega) ?_
 have e:((u:Int)).fdiv (2^min ((k:Int)).toNat IntKind.u32.bits)=((u/2^k:Nat):Int):=by
  rw [show min ((k:Int)).toNat IntKind.u32.bits=k by simp [jh];omega]
  rw [Int.fdiv_eq_ediv_of_nonneg _ (by exact_mod_cast aV _)]
  norm_cast
 rw [e];exact h
theorem ahf (a b c d:Int):Instr.fill (fun i=>some (i*1,1)) ((Array.range (4*1)).map ((aA .u8 0).cells[· % (aA .u8 0).cells.size]!)) [(0,.int .u8 a),(1,.int .u8 b),(2,.int .u8 c),(3,.int .u8 d)]=some #[.int .u8 a,.int .u8 b,.int .u8 c,.int .u8 d]:=by kernel_rfl
theorem DJ {w:World} {X F:XS} {v:Value} {bs:List Nat} {n:Nat} (h:Ow w F 5 1 v (bs.map U1)) (hF:FX F X w) (hl:bs.length≤2^40):
  Ct pg 251 #[v,U4 n] w X F fun r wa w'=> ∃F',(∀k,F' k→F k∨made wa w' k)∧Ow w' F' 5 1 r ((bs++ru n).map U1):=by
 intro w0 hk
 replace h:=h.mv (hF.mv hk)
 have hT:=hF.ft hk
 apply TV;unfold IX
 have hs:=aj.init w0
 refine Oo (by kernel_rfl) (by kernel_rfl) ?_
 refine Y4 8 (by omega) ?_
 refine Oo (by kernel_rfl) (by kernel_rfl) ?_
 refine Y4 16 (by omega) ?_
 refine Oo (by kernel_rfl) (by kernel_rfl) ?_
 refine Y4 24 (by omega) ?_
 refine Oo (by kernel_rfl) (by kernel_rfl) ?_
 refine adw (bytes:=1) (rows:=(ru n).map U1) #[.int .u8 (n % 256:Nat),.int .u8 (n/256 % 256:Nat),.int .u8 (n/65536 % 256:Nat),.int .u8 (n/16777216 % 256:Nat)] (.int .u8 0) hT.s.has (by kernel_rfl) (by kernel_rfl) (by decide) (by decide) (ahf _ _ _ _) (by simp) rfl rfl fun s w1 X1 au ho=>?_
 have cO:=hT.since au
 refine NC (by kernel_rfl) au.has ((h.mv (au.fg hT.ba)).mono cO.ba) ho.sl (by intro r hr u hu;obtain⟨x,_,rfl⟩:=List.mem_map.1 hr;simp only [U1,bo] at hu;subst hu;rfl) (by simp [ru];omega) (by simp [ru];omega) fun v' w2 X2 c rE gQ=>?_
 have OJ: ∀g,v'.ownBlock=some g→F g∨(X2 g∧w1.heap.size≤g):=fun g hg=>by
  rcases gQ with e|⟨g',e,eI⟩
  ·exact .inl (h.ba (e▸hg)).1
  ·rw [hg] at e
   have:g=g':=bK e
   subst this
   exact .inr ⟨(rE.ba hg).1,eI⟩
 have bM:Ft w0 F w2 X2 (fun k=>F k∨(X2 k∧w1.heap.size≤k)):=cO.ej c (fun k ai=>(h.ba ai).1) fun k ai=>ai
 refine bM.fin fun wa aR=>⟨_,bM.gK aR fun _ h=>h,?_⟩
 rw [bq]
 exact rE.tight.mv fun k ai yy=>⟨OJ k ai,aR.block k (rE.ba ai).1⟩
theorem Ft.acq {w0 w' wa:World} {X' F F':XS} {e k:Nat} {v:Value} {rows:List (List Value)} (h:Ft w0 nX w' X' (fun k=>F k∨made wa w' k)) (ho:Ow w' F' e k v rows) (pB: ∀k,F' k→F k∨made wa w' k):Ow w' (yD w0 X') e k v rows:=
 ho.mono fun k hk=>⟨h.ba k (pB k hk),(h.v k (pB k hk)).elim (fun h=>h.elim) id⟩
theorem Si {w:World} {X:XS} {vp:Value} {p:List Nat} (h:Sl w X 1 vp (p.map U1)):Ct pg 169 #[vp] w X nX fun v wa w'=>
  if 262144<p.length then v= .tuple #[.slice none 0 0,I 2] else∃vb,v= .tuple #[vb,I 0]∧Ow w' (made wa w') 5 1 vb ((du p).map U1):=by
 intro w0 hk
 replace h:=h.mv hk.dA
 have hlen:=h.gW
 apply PO;unfold EB
 have hs:=aj.init w0
 repeat' first|with_reducible (first|apply aD|apply ak)|(with_reducible apply kF<;>intro _)|(with_reducible apply bS);exact qO;(· kernel_rfl)|(with_reducible apply cx);omega;omega|((first|(with_reducible refine aq hs ?_)|(with_reducible refine aq (cg.trans hs) ?_));intro wa hk;(dsimp only;rw [if_pos (by omega)]))
 have hn: ¬262144<p.length:=by omega
 refine aaq (e:=5) (k:=1) (c:=p.length+12) (bytes:=1) hs.has (by kernel_rfl) (by simp) (by omega) (by omega) (by omega) fun v0 w1 X1 au ho=>?_
 have hT:Ft w0 nX w1 X1 (yD w0 X1):=((Ft.init (w:=w0) (F0:=nX) fun _ h=>h.elim).since au).Iz
 have hO:Ow w1 (yD w0 X1) 5 1 v0 (([]:List Nat).map U1):=(ho.ow.tight).mono fun k ai=>⟨(ho.ow.ba ai).1,(ho.ge ai).1⟩
 have Dh:IntKind.u32.wrap (p.length:Int)=(p.length:Nat):=by rw [wrap32];omega
 repeat' first|(with_reducible apply bS);exact qO;(· kernel_rfl)|(with_reducible apply pq);(· kernel_rfl);(· kernel_rfl)
 rw [Dh]
 refine hT.call (DJ hO (hT.fx fun _ h=>h) (by simp)) (by kernel_rfl) (fun _ h=>h) fun v1 wQ w2 X2 hq hle hU bM hc=>?_
 obtain⟨F2,OJ,hO2⟩:=hq
 have hO2:=Ft.acq bM hO2 OJ
 replace bM:=bM.Iz
 rw [List.nil_append] at hO2
 refine dk (zw (hO2.sl.mono bM.ba)) (by kernel_rfl) bM.s.has ?_
 rintro _ qw w3 X3 rfl rr oG cw
 have hO3:Ow w3 (yD w0 X3) 5 1 v1 ((ru p.length).map U1):=(hO2.mv (cw.fg bM.ba)).mono fun k ai=>⟨cw.sub k ai.1,ai.2⟩
 replace bM:=(bM.since cw).Iz
 rw [←OI]
 refine bM.call (DJ hO3 (bM.fx fun _ h=>h) (by simp [ru])) (by kernel_rfl) (fun _ h=>h) fun v4 tY w4 X4 hq hle hU ed hc=>?_
 obtain⟨F4,JD,hO4⟩:=hq
 have hO4:=Ft.acq ed hO4 JD
 replace ed:=ed.Iz
 have hp4:Sl w4 X4 1 vp (p.map U1):=h.mv ed.NG.mv
 refine ag1 ed hO4 (by kernel_rfl) hp4 (by intro r hr u hu;obtain⟨x,_,rfl⟩:=List.mem_map.1 hr;simp only [U1,bo] at hu;subst hu;rfl) (by simp [ru];omega) (by simp [ru];omega) fun v5 w5 X5 gU hO5 hc5 _=>?_
 refine dk (zw (h.mv gU.NG.mv)) (by kernel_rfl) gU.s.has ?_
 rintro _ JE w6 X6 rfl Gw Ao tp
 have hO6:Ow w6 (yD w0 X6) 5 1 v5 ((ru p.length++ru (Af (ru p.length))++p).map U1):=by
  rw [bq]
  exact(hO5.mv (tp.fg gU.ba)).mono fun k ai=>⟨tp.sub k ai.1,ai.2⟩
 replace gU:=(gU.since tp).Iz
 rw [←OI]
 refine gU.call (DJ hO6 (gU.fx fun _ h=>h) (by simp [ru];omega)) (by kernel_rfl) (fun _ h=>h) fun v7 wa7 w7 X7 hq hle hU jF hc=>?_
 obtain⟨F7,hF7,hO7⟩:=hq
 have hO7:=Ft.acq jF hO7 hF7
 have ov:=hO7.one
 skip
 refine jF.NG|>fun yX=>aq yX fun wa aR=>?_
 dsimp only
 rw [if_neg hn]
 refine⟨v7,rfl,?_⟩
 exact hO7.mv fun k ai hl=>⟨⟨ai.2,aU hl aR.size⟩,aR.block k ai.1⟩
def nW:Nat→Nat→List Nat
 |0,_=>[]
 |k+1,n=>nW k (n/10)++[48+n % 10]
theorem se: ∀k n,(nW k n).length=k
 |0,_=>rfl
 |k+1,n=>by rw [nW,ae,se];rfl
def bG (dir:ByteArray) (n:Nat):ByteArray:=dir++⟨#[46]⟩++uW (nW 8 n)
theorem sh (dir:ByteArray) (n:Nat):(bG dir n).size=dir.size+9:=by
 unfold bG
 rw [oF,oF,QK,se]
 rfl
section
variable {P : Program} {X : XS} {w : World} {N : Value → Prop} {t : TypeId}
theorem aaK {a b:Nat} (hb:b≠0) (h:N (I ((a % b:Nat):Int))):aa P X w (binOp .rem t (I (a:Int)) (I (b:Int))) N:=by
 refine b9 (fun wa=>?_) h
 simp [binOp,Op.intDiv,hb]
 exact(Int.ofNat_tmod a b).symm
theorem afW {a b:Nat} (hb:b≠0) (ha:a<2^63) (h:N (I ((a/b:Nat):Int))):aa P X w (binOp .quo t (I (a:Int)) (I (b:Int))) N:=by
 refine b9 (fun wa=>?_) h
 have h1:(a:Int).tdiv b=((a/b:Nat):Int):=(Int.ofNat_tdiv a b).symm
 have h2:a/b≤a:=Nat.div_le_self a b
 have h3:IntKind.i64.wrap ((a/b:Nat):Int)=((a/b:Nat):Int):=by
  generalize a/b=q at h2
  simp [kr,jh,gT]
  omega
 have gC: ¬(b:Int)=0:=by omega
 simp only [binOp,Op.intDiv,gC,if_false,h1,h3]
 simp
end
theorem ahg (a:Int):Instr.fill (fun i=>some (i*1,1)) ((Array.range (8*1)).map ((aA .u8 0).cells[· % (aA .u8 0).cells.size]!)) [(0,.int .u8 a),(1,.int .u8 a),(2,.int .u8 a),(3,.int .u8 a),(4,.int .u8 a),(5,.int .u8 a),(6,.int .u8 a),(7,.int .u8 a)]=some #[.int .u8 a,.int .u8 a,.int .u8 a,.int .u8 a,.int .u8 a,.int .u8 a,.int .u8 a,.int .u8 a]:=by kernel_rfl
abbrev U8 (x:Nat):Value:=.int .u8 x
theorem sj {w:World} {X:XS} {dir:ByteArray} {n:Nat} (hd:dir.size≤2^40) (hn:n<2^63):Ct pg 106 #[.string dir,I n] w X nX fun v wa w'=>v= .string (bG dir n):=by
 intro w0 hk
 apply Wi;unfold Lw
 have hs:=aj.init w0
 have hT:Ft w0 nX w0 (aW w0) nX:=Ft.init fun _ h=>h.elim
 refine adw (e:=5) (k:=1) (bytes:=1) (rows:=(gz 8 48).map U1) #[.int .u8 48,.int .u8 48,.int .u8 48,.int .u8 48,.int .u8 48,.int .u8 48,.int .u8 48,.int .u8 48] (.int .u8 0) hT.s.has (by kernel_rfl) (by kernel_rfl) (by decide) (by decide) (ahg 48) (by simp) rfl rfl fun s w1 X1 au ho=>?_
 rcases ho.row with⟨_,he⟩|⟨g,cap,cs,rfl,fT,dK,tE,m6,D6,uN⟩
 ·cases he
 have h8:cs.take 8=(gz 8 48).map U8:=uN
 have hl8:8≤cs.length:=by have:((gz 8 48).map U1).length≤cap:=tE;simp at this;omega
 refine aec dK (by kernel_rfl) (by kernel_rfl) au.has fun w2 X2 hc hF=>?_
 have cO:Ft w0 nX w1 X1 (fun k=>k=g):=(hT.since au).more fun k ai=>by subst ai;exact .inr ⟨dK.1,fT⟩
 have bM:Ft w0 nX w2 X2 (fun k=>k=g):=cO.ej hc (fun k ai=>ai) fun k ai=>.inl ai
 refine iN (fun n' a b w X=> ∃(k m:Nat) (tail:List Nat) (cs:List Value),a=I ((k:Int)-1)∧b=I (m:Int)∧n'=k∧k≤8∧m<2^63∧nW 8 n=nW k m++tail∧Fv w X g cs 5∧cs.take 8=(gz k 48++tail).map U8∧8≤cs.length∧Ft w0 nX w X (fun k=>k=g)) 8 ⟨8,n,[],cs,rfl,rfl,rfl,bp _,hn,by simp,hF,by simpa using h8,hl8,bM⟩ ?_
 clear h8 hl8 hF bM hc
 rintro k a b w X ⟨_,m,tail,cs,rfl,rfl,rfl,hk8,hm,NI,hF,Kq,hl8,bM⟩
 have dh:(nW k m).length+tail.length=8:=by have:=congrArg List.length NI;rw [se,ae] at this;exact this.symm
 rw [se] at dh
 cases k with
 |succ k=>
  have hck:cs[k]? =some (U8 48):=by
   have h1:(cs.take 8)[k]? =cs[k]? :=by rw [List.getElem?_take,if_pos (by omega)]
   rw [←h1,Kq,bq,List.getElem?_append_left (by simp)]
   simp
  have Ep:=hF.cells.Ys hck
  rw [fH] at Ep
  have hz:((k+1:Nat):Int)-1=(k:Nat):=by omega
  have h49:IntKind.u8.wrap (((48:Nat):Int)+IntKind.u8.wrap ((m % 10:Nat):Int))=((48+m % 10:Nat):Int):=by rw [C8,C8];omega
  rw [hz]
  repeat' first|(with_reducible refine Nw ?_ ?_);omega|with_reducible apply aD
  refine adx rfl (by simp;omega) (by kernel_rfl) (by kernel_rfl) ?_
  rw [Nat.mul_one]
  refine aZ Ep (Mv.refl _ _) (by kernel_rfl) rfl ?_
  refine aaK (a:=m) (b:=10) (by omega) ?_
  refine pq (by kernel_rfl) (by kernel_rfl) ?_
  refine Pm ?_
  rw [h49]
  refine adx rfl (by simp;omega) (by kernel_rfl) (by kernel_rfl) ?_
  rw [Nat.mul_one]
  refine ag2 hF (by kernel_rfl) (by omega) rfl bM.s.has fun w3 X3 c JF=>?_
  have cP:Ft w0 nX w3 X3 (fun k=>k=g):=bM.ej c (fun k ai=>ai) fun k ai=>.inl ai
  refine afW (a:=m) (b:=10) (by omega) hm ?_
  repeat' first|(with_reducible apply kY);omega;omega
  refine iC k (by omega) ⟨k,m/10,(48+m % 10)::tail,_,rfl,rfl,rfl,by omega,by omega,?_,JF,?_,by rw [List.length_set];exact hl8,cP⟩
  ·rw [NI,nW,ax];rfl
  ·rw [List.take_set,Kq]
   have e:(gz (k+1) 48++tail)=gz k 48++48::tail:=by rw [List.replicate_succ',ax];rfl
   rw [e,bq,bq,List.set_append_right _ _ (by simp),aS,List.length_replicate,Nat.sub_self]
   rfl
 |zero=>
  have htl:tail=nW 8 n:=by rw [NI];rfl
  have aia:cs.take 8=(nW 8 n).map U8:=by rw [Kq,←htl];rfl
  have Ep:Cells w X g 0 ((nW 8 n).map fun x:Nat=>aA .u8 x):=by
   have h1:=hF.cells.part 0 8
   rw [List.drop_zero,aia] at h1
   exact h1
  have h2:aj (aW w0) w0 X w:=bM.NG
  repeat' first|(with_reducible refine Ei ?_ ?_);omega|with_reducible apply ak
  refine Tp (by show dir.size+1≤_;omega) ?_
  refine Kr (e:=5) (by simp [se]) Ep (by kernel_rfl) (by kernel_rfl) (by kernel_rfl) bM.s.has fun w4 X4 fw=>?_
  replace h2:=h2.trans fw
  refine Tp (by rw [oF,QK,se];show dir.size+1+8≤_;omega) ?_
  exact aq h2 fun wa aR=>rfl
theorem OK {w:World} {X:XS} {dir:ByteArray} {n:Nat} (h1:1≤dir.size) (h2:dir.size≤11) (h3:1≤n) (h4:n≤99999999):Ct pg 79 #[.string dir,I n] w X nX fun v wa w'=>v= .tuple #[.string (bG dir n),I 0]:=by
 intro w0 hk
 apply Wh;unfold Lv
 have hs:=aj.init w0
 repeat' first|(with_reducible refine dm ?_ ?_);omega|(with_reducible refine lN ?_ ?_);omega|with_reducible (first|apply aD|apply ak|apply dG|apply fb|apply cD|apply dW|apply bE|apply bt)|(with_reducible apply zJ<;>intro _)|(with_reducible apply rV);(· kernel_rfl)|(refine dk (sj (by omega) (by omega)) (by kernel_rfl) hs.has ?_;rintro _ wa w X rfl hle hU au;replace hs:=hs.trans au)|((first|(with_reducible refine aq hs ?_)|(with_reducible refine aq (cg.trans hs) ?_));intro wa hk;rfl)
 rename_i he
 subst he
 exact absurd h1 (by decide)
structure cj where
 first:Nat
 bY:List (List Nat)
 size:Nat
structure LM where
 dir:ByteArray
 room:Nat
 bR:List cj
 safe:Int
def LM.last (L:LM):cj:=L.bR.getLast?.getD ⟨0,[],0⟩
def LM.next (L:LM):Nat:=L.last.first+L.last.bY.length
def LM.ep (L:LM):ByteArray:=bG L.dir L.last.first
structure LD where
 L:LM
 m:DM
def LD.sync (x:LD):LD×Nat:=let r:=x.m.sync x.L.ep;(⟨if r.2=0 then { x.L with safe:=(x.L.next:Int)-1 } else x.L,r.1⟩,r.2)
def LD.gB (x:LD) (n:Nat):LD×Nat:=let r:=x.m.create (bG x.L.dir n);(⟨if r.2=0 then { x.L with bR:=x.L.bR++[⟨n,[],0⟩] } else x.L,r.1⟩,r.2)
def LD.room (x:LD):LD×Nat:=if x.L.room≤x.L.last.size then(let r:=x.sync;if r.2≠0 then r else r.1.gB x.L.next)else(x,0)
def LM.add (L:LM) (p:List Nat):LM:= { L with bR:=L.bR.dropLast++[⟨L.last.first,L.last.bY++[p],L.last.size+(du p).length⟩] }
def LD.lay (x:LD) (p:List Nat):LD×Nat:=let r:=x.m.append x.L.ep (du p);(⟨if r.2=0 then x.L.add p else x.L,r.1⟩,r.2)
def LD.append (x:LD) (p:List Nat):LD×Nat×Nat:=
 if 262144<p.length then(x,0,2)else if 99999999<x.L.next then(x,0,1)else
  let r:=x.room
  if r.2≠0 then(r.1,0,r.2)else
   let q:=r.1.lay p
   if q.2≠0 then(q.1,0,q.2)else(q.1,x.L.next,0)
def LD.trim (x:LD) (below:Nat):Nat→LD×Nat
 |0=>(x,0)
 |k+1=>match x.L.bR with
  |s::t::r=>if t.first≤below then(let q:=x.m.remove (bG x.L.dir s.first);if q.2≠0 then(⟨x.L,q.1⟩,q.2)else LD.trim ⟨{ x.L with bR:=t::r },q.1⟩ below k)else(x,0)
  |_=>(x,0)
structure jP where
 b:Nat
 first:Nat
 rv:Value
 rs:List (Value×List Nat)
 size:Nat
def jP.er (s:jP):cj:=⟨s.first,s.rs.map (·.2),s.size⟩
def UF (x y:jP):Prop:=x.b≠y.b∧ ∀g,x.rv.ownBlock=some g→y.rv.ownBlock≠some g
def lW (l:List Nat):Prop:= ∀x∈l,x<256
structure vT (w:World) (F:XS) (lb db:Nat) (sv:Value) (bl:List jP) (L:LM):Prop where
 bR:L.bR=bl.map jP.er
 box:bJ w F lb [ptr db 0,.string L.dir,I L.room,sv,I L.safe] 158
 so:Ow w F 164 1 sv (bl.map fun s=>[ptr s.b 0])
 row: ∀s∈bl,bJ w F s.b [I s.first,s.rv,I s.size] 163
 Ag: ∀s∈bl,Ow w F 95 1 s.rv (s.rs.map fun r=>[r.1])
 A8: ∀s∈bl,∀r∈s.rs,Ow w F 5 1 r.1 (r.2.map U1)
 ap:bl.Pairwise UF
theorem vT.mv {w w':World} {F F':XS} {lb db:Nat} {sv:Value} {bl:List jP} {L:LM} (h:vT w F lb db sv bl L) (v:Mv F w F' w'):vT w' F' lb db sv bl L:=
 ⟨h.bR,h.box.mv v,h.so.mv v,fun s hs=>(h.row s hs).mv v,fun s hs=>(h.Ag s hs).mv v,fun s hs r hr=>(h.A8 s hs r hr).mv v,h.ap⟩
def Lg (w:World) (F:XS) (lb db:Nat) (L:LM) (m:DM):Prop:=
 ∃FL FD sv bl,Dj FL FD∧(∀k,FL k→F k)∧(∀k,FD k→F k)∧vT w FL lb db sv bl L∧Dk w FD db m
theorem Lg.mv {w w':World} {F:XS} {lb db:Nat} {L:LM} {m:DM} (h:Lg w F lb db L m) (v:Mv F w F w'):Lg w' F lb db L m:=by
 obtain⟨FL,FD,sv,bl,hd,h1,h2,h3,h4⟩:=h
 exact⟨FL,FD,sv,bl,hd,h1,h2,h3.mv fun k hk hl=>⟨hk,(v k (h1 k hk) hl).2⟩,h4.mv fun k hk hl=>⟨hk,(v k (h2 k hk) hl).2⟩⟩
theorem Lg.mono {w:World} {F F':XS} {lb db:Nat} {L:LM} {m:DM} (h:Lg w F lb db L m) (hs: ∀k,F k→F' k):Lg w F' lb db L m:=by
 obtain⟨FL,FD,sv,bl,hd,h1,h2,h3,h4⟩:=h
 exact⟨FL,FD,sv,bl,hd,fun k hk=>hs k (h1 k hk),fun k hk=>hs k (h2 k hk),h3,h4⟩
structure j9 (L:LM):Prop where
 ne:L.bR≠[]
 d1:1≤L.dir.size
 d2:L.dir.size≤11
 qx: ∀s∈L.bR,s.first+s.bY.length≤2^40∧s.size≤2^40
 room:L.room≤2^40
theorem LM.qm {L:LM} (h:L.bR≠[]):L.last∈L.bR:=by
 unfold LM.last
 rw [lx h]
 exact List.getLast_mem h
theorem LM.Qf {L:LM} (h:L.bR≠[]):L.bR=L.bR.dropLast++[L.last]:=by
 unfold LM.last
 rw [lx h]
 exact(pa h).symm
theorem j9.next {L:LM} (h:j9 L):L.next≤2^40:=(h.qx _ (LM.qm h.ne)).1
theorem j9.first {L:LM} (h:j9 L):L.last.first≤2^40:=by have:=h.next;unfold LM.next at this;omega
theorem vT.last {w:World} {F:XS} {lb db:Nat} {sv:Value} {bl:List jP} {L:LM} (h:vT w F lb db sv bl L) (hL:j9 L): ∃nQ s,bl=nQ++[s]∧s.er=L.last∧L.bR.dropLast=nQ.map jP.er:=by
 have dr:bl≠[]:=fun e=>hL.ne (by rw [h.bR,e];rfl)
 refine⟨bl.dropLast,bl.getLast dr,(pa dr).symm,?_,?_⟩
 ·unfold LM.last
  rw [h.bR,List.getLast?_map,lx dr]
  rfl
 ·rw [h.bR,List.map_dropLast]
section
variable {w : World} {X F : XS} {lb db : Nat} {sv : Value} {bl : List jP} {L : LM}
theorem uH {nQ:List jP} {s:jP} (h:vT w F lb db sv (nQ++[s]) L) (hF:FX F X w):Ct pg 85 #[ptr lb 0] w X nX fun v wa w'=>v=ptr s.b 0:=by
 intro w0 hk
 replace h:=h.mv (hF.mv hk)
 have hX:=fun k ai=>(hF.kp hk k ai).1
 have hb:=h.box.mv (Mv.sub hX)
 have vy:=h.so.sl.mono hX
 have hlen:=vy.gW
 have LL:(nQ++[s]).length=nQ.length+1:=by simp
 have wu:(nQ++[s])[nQ.length]? =some s:=by simp
 apply N5;unfold CT
 have hs:=aj.init w0
 repeat' first|with_reducible apply aK|(with_reducible apply aM);exact qF;(· kernel_rfl);rfl;intro _ _ _|(with_reducible apply aZ);exact qF;exact qM;(· kernel_rfl);rfl|(with_reducible apply bS);exact qO;(· kernel_rfl)|((with_reducible apply e7);exact qO;(try (case hz=>rfl));(case hr=>exact qR);(try (case hz=>omega));(case ht=>kernel_rfl);(case hs=>kernel_rfl);intro _ _ _)|(with_reducible apply kY);omega;omega|((first|(with_reducible refine aq hs ?_)|(with_reducible refine aq (cg.trans hs) ?_));intro wa hk;rfl)
theorem yd (h:vT w F lb db sv bl L) (hL:j9 L) (hF:FX F X w):Ct pg 43 #[ptr lb 0] w X nX fun v wa w'=>v=I L.next:=by
 intro w0 hk
 obtain⟨nQ,s,rfl,he,_⟩:=h.last hL
 replace h:=h.mv (hF.mv hk)
 have hX:=fun k ai=>(hF.kp hk k ai).1
 have mT:s∈nQ++[s]:=by simp
 have hb:=(h.row s mT).mv (Mv.sub hX)
 have hr:=(h.Ag s mT).sl.mono hX
 have hn:=hL.next
 have pz:L.next=s.first+s.rs.length:=by unfold LM.next;rw [←he];simp [jP.er]
 have jl:FX F (aW w0) w0:=hF.kp hk
 apply NV;unfold CK
 have hs:=aj.init w0
 refine dk (uH h jl) (by kernel_rfl) hs.has ?_
 rintro _ wa w1 X1 rfl hle hU au
 replace hs:=hs.trans au
 have mF:=hb.since hs
 repeat' first|with_reducible apply aK|(with_reducible apply aM);exact qF;(· kernel_rfl);rfl;intro _ _ _|(with_reducible apply aZ);exact qF;exact qM;(· kernel_rfl);rfl
 refine dk (uH (h.mv (hs.fg hX)) fun k ai=>⟨hs.sub k (hX k ai),hs.has k (hs.sub k (hX k ai))⟩) (by kernel_rfl) hs.has ?_
 rintro _ wQ w2 X2 rfl u5 rj b6
 replace hs:=hs.trans b6
 have qt:=hb.since hs
 have lE:=hr.since hs
 clear mF
 repeat' first|with_reducible apply aK|(with_reducible apply aM);exact qF;(· kernel_rfl);rfl;intro _ _ _|(with_reducible apply aZ);exact qF;exact qM;(· kernel_rfl);rfl|(with_reducible apply bS);exact qO;(· kernel_rfl)|(with_reducible apply cx);omega;omega|((first|(with_reducible refine aq hs ?_)|(with_reducible refine aq (cg.trans hs) ?_));intro wa hk;(rw [pz];simp))
theorem vU (h:vT w F lb db sv bl L) {s:cj} {r:List cj} (hL:L.bR=s::r) (hF:FX F X w):Ct pg 42 #[ptr lb 0] w X nX fun v wa w'=>v=I s.first:=by
 intro w0 hk
 have vV:=h.bR
 rw [hL] at vV
 cases bl with
 |nil=>cases vV
 |cons s' nQ=>
  simp only [bh,yY] at vV
  replace h:=h.mv (hF.mv hk)
  have hX:=fun k ai=>(hF.kp hk k ai).1
  have hb:=h.box.mv (Mv.sub hX)
  have qt:=(h.row s' (by simp)).mv (Mv.sub hX)
  have vy:=h.so.sl.mono hX
  apply Mw;unfold BX
  have hs:=aj.init w0
  repeat' first|with_reducible apply aK|(with_reducible apply aM);exact qF;(· kernel_rfl);rfl;intro _ _ _|(with_reducible apply aZ);exact qF;exact qM;(· kernel_rfl);rfl
  refine e7 (i:=0) vy rfl rfl (by kernel_rfl) (by kernel_rfl) fun b o hc=>?_
  repeat' first|with_reducible apply aK|(with_reducible apply aM);exact qF;(· kernel_rfl);rfl;intro _ _ _|(with_reducible apply aZ);exact qF;exact qM;(· kernel_rfl);rfl|((first|(with_reducible refine aq hs ?_)|(with_reducible refine aq (cg.trans hs) ?_));intro wa hk;(rw [vV.1];rfl))
end
structure LW (w:World) (F:XS) (lb db:Nat) (L:LM) (m:DM) (FL FD:XS) (sv:Value) (bl:List jP):Prop where
 dj:Dj FL FD
 hL: ∀k,FL k→F k
 hD: ∀k,FD k→F k
 l:vT w FL lb db sv bl L
 d:Dk w FD db m
theorem Lg.lw {w:World} {F:XS} {lb db:Nat} {L:LM} {m:DM} (h:Lg w F lb db L m): ∃FL FD sv bl,LW w F lb db L m FL FD sv bl:=let⟨FL,FD,sv,bl,a,b,c,d,e⟩:=h;⟨FL,FD,sv,bl,a,b,c,d,e⟩
theorem LW.lg {w:World} {F FL FD:XS} {lb db:Nat} {L:LM} {m:DM} {sv:Value} {bl:List jP} (h:LW w F lb db L m FL FD sv bl):Lg w F lb db L m:=⟨FL,FD,sv,bl,h.dj,h.hL,h.hD,h.l,h.d⟩
section
variable {w w' wa : World} {X X' F F' FL FD E7 : XS} {lb db : Nat} {L : LM} {m m' : DM} {sv : Value} {bl : List jP}
theorem LW.mv (h:LW w F lb db L m FL FD sv bl) (v:Mv F w F w'):LW w' F lb db L m FL FD sv bl:=
 ⟨h.dj,h.hL,h.hD,h.l.mv fun k hk hl=>⟨hk,(v k (h.hL k hk) hl).2⟩,h.d.mv fun k hk hl=>⟨hk,(v k (h.hD k hk) hl).2⟩⟩
theorem LW.mono (h:LW w F lb db L m FL FD sv bl) (hs: ∀k,F k→F' k):LW w F' lb db L m FL FD sv bl:=⟨h.dj,fun k hk=>hs k (h.hL k hk),fun k hk=>hs k (h.hD k hk),h.l,h.d⟩
theorem LW.JG (h:LW w F lb db L m FL FD sv bl) (hF:FX F X w) (hle:w.heap.size≤wa.heap.size) (c:fO FD X w X' w') (pB: ∀k,E7 k→FD k∨made wa w' k) (hd:Dk w' E7 db m'):LW w' (fun k=>F k∨made wa w' k) lb db L m' FL E7 sv bl:=
 ⟨fun k a b=>(pB k b).elim (h.dj k a) fun hm=>by have:=(hF k (h.hL k a)).2;have:=hm.1;omega,fun k hk=>.inl (h.hL k hk),fun k hk=>(pB k hk).imp (h.hD k) id,
  h.l.mv (c.fC fun k hk=>⟨(hF k (h.hL k hk)).1,fun hf=>h.dj k hk hf⟩),hd⟩
theorem vT.aei {z:Int} (h:vT w FL lb db sv bl L) (hX: ∀k,FL k→X k) (c:fO (· =lb) X w X' w') (hr:bJ w' X' lb [ptr db 0,.string L.dir,I L.room,sv,I z] 158):vT w' FL lb db sv bl { L with safe:=z } :=by
 have mv: ∀{A:XS},(∀k,A k→FL k∧k≠lb)→Mv A w FL w':=fun hA k hk _=>⟨(hA k hk).1,c.block k (hX k (hA k hk).1) (hA k hk).2⟩
 refine⟨h.bR,⟨h.box.1,hr.2⟩,?_,fun s hs=>?_,fun s hs=>?_,fun s hs r hr=>?_,h.ap⟩
 ·exact h.so.tight.mv (mv fun k hk=>⟨(h.so.ba hk).1,fun e=>h.so.dS h.box (by kernel_rfl) (e▸hk)⟩)
 ·exact(h.row s hs).own.mv (mv fun k hk=>by subst hk;exact⟨(h.row s hs).1,(h.row s hs).dS h.box (by kernel_rfl)⟩)
 ·exact(h.Ag s hs).tight.mv (mv fun k hk=>⟨((h.Ag s hs).ba hk).1,fun e=>(h.Ag s hs).dS h.box (by kernel_rfl) (e▸hk)⟩)
 ·exact(h.A8 s hs r hr).tight.mv (mv fun k hk=>⟨((h.A8 s hs r hr).ba hk).1,fun e=>(h.A8 s hs r hr).dS h.box (by kernel_rfl) (e▸hk)⟩)
end
theorem Gx {w:World} {X F:XS} {lb db:Nat} {L:LM} {m:DM} (h:Lg w F lb db L m) (hL:j9 L) (hF:FX F X w):
  Ct pg 104 #[ptr lb 0] w X F fun v wa w'=>v=I (LD.sync ⟨L,m⟩).2∧ ∃F',(∀k,F' k→F k∨made wa w' k)∧Lg w' F' lb db (LD.sync ⟨L,m⟩).1.L (LD.sync ⟨L,m⟩).1.m:=by
 intro w0 hk
 obtain⟨FL,FD,sv,bl,h⟩:=(h.mv (hF.mv hk)).lw
 have hT:=hF.ft hk
 have jl:FX F (aW w0) w0:=hF.kp hk
 obtain⟨nQ,s,Ae,he,_⟩:=h.l.last hL
 have hFL:FX FL (aW w0) w0:=fun k ai=>jl k (h.hL k ai)
 have hX:=fun k ai=>(hFL k ai).1
 have hb:=h.l.box.mv (Mv.sub hX)
 have mT:s∈bl:=by rw [Ae];simp
 have pR:=(h.l.row s mT).mv (Mv.sub hX)
 have Ci:s.first=L.last.first:=by rw [←he];rfl
 have hfb:=hL.first
 apply N6;unfold CU
 have hs:=aj.init w0
 repeat' first|with_reducible apply aK|(with_reducible apply aM);exact qF;(· kernel_rfl);rfl;intro _ _ _|(with_reducible apply aZ);exact qF;exact qM;(· kernel_rfl);rfl
 refine dk (uH (Ae▸h.l) hFL) (by kernel_rfl) hs.has ?_
 rintro _ wa w1 X1 rfl hle hU au
 replace hs:=hs.trans au
 have UG:=pR.since hs
 repeat' first|with_reducible apply aK|(with_reducible apply aM);exact qF;(· kernel_rfl);rfl;intro _ _ _|(with_reducible apply aZ);exact qF;exact qM;(· kernel_rfl);rfl
 rw [Ci]
 refine dk (sj (by have:=hL.d2;omega) (by omega)) (by kernel_rfl) hs.has ?_
 rintro _ wQ w2 X2 rfl u5 rj b6
 replace hs:=hs.trans b6
 have bM:=hT.since hs
 have h2:=h.mv (hs.fg hT.ba)
 refine bM.call (WH h2.d (bM.fx h2.hD)) (by kernel_rfl) h2.hD fun v qw w3 X3 hq rr oG cP oe=>?_
 obtain⟨rfl,E7,Gy,hD⟩:=hq
 have h3:=h2.JG (bM.fx fun _ h=>h) rr oe Gy hD
 have eS:LD.sync ⟨L,m⟩=(⟨if(m.sync L.ep).2=0 then { L with safe:=(L.next:Int)-1 } else L,(m.sync L.ep).1⟩,(m.sync L.ep).2):=rfl
 have eN:L.ep=bG L.dir L.last.first:=rfl
 rw [eS]
 dsimp only
 rw [eN]
 generalize hms:m.sync (bG L.dir L.last.first)=ms at h3⊢
 have pz:=hL.next
 repeat' first|with_reducible (first|apply aD|apply ak)|(with_reducible apply gF<;>intro _)|with_reducible apply dY
 ·rename_i hz
  have hz:ms.2=0:=by have:(ms.2:Int)=0:=(by assumption);omega
  have cw:=aj.eP cP.s.has
  refine dk (yd h3.l hL (cP.fx h3.hL)) (by kernel_rfl) cP.s.has ?_
  rintro _ tY w4 X4 rfl sY ml fw
  have ed:=cP.since fw
  have h4:=h3.mv (fw.fg cP.ba)
  have hX4: ∀k,FL k→X4 k:=fun k ai=>ed.ba k (h4.hL k ai)
  have uT:=h4.l.box.mv (Mv.sub hX4)
  repeat' first|with_reducible apply aK|(with_reducible apply aM);exact qF;(· kernel_rfl);rfl;intro _ _ _|(with_reducible apply kY);omega;omega
  refine lB (o:=4) uT (by omega) (by kernel_rfl) (by simp) rfl ed.s.has fun w5 X5 c5 sM=>?_
  have gU:=ed.ej (F':=fun k=>F k∨made qw w3 k) c5 (fun k ai=>by subst ai;exact h4.hL _ h4.l.box.1) fun k ai=>.inl ai
  have h5:=h4.l.aei hX4 c5 sM
  refine gU.fin fun wa aR=>⟨rfl,_,gU.gK aR fun _ h=>h,?_⟩
  rw [if_pos hz]
  refine Lg.mv ⟨FL,E7,sv,bl,h4.dj,h4.hL,h4.hD,h5,h4.d.mv (c5.fC fun k ai=>⟨ed.ba k (h4.hD k ai),fun e=>h4.dj k (by rw [e];exact h4.l.box.1) ai⟩)⟩ (aR.fC gU.ba)
 ·have hz: ¬ms.2=0:=by have: ¬(ms.2:Int)=0:=(by assumption);omega
  refine cP.fin fun wa aR=>⟨rfl,_,cP.gK aR fun _ h=>h,?_⟩
  rw [if_neg hz]
  exact(h3.mv (aR.fC cP.ba)).lg
section
variable {w w' wa : World} {X X' F F' FL ye FD E7 G : XS} {lb db : Nat} {L : LM} {m m' : DM} {sv wT : Value} {bl nQ : List jP}
theorem vT.Qg (h:vT w FL lb db sv bl L) (hX:FX FL X w) (c:fO G X w X' w') (hG: ∀k,G k→k=lb∨sv.ownBlock=some k) (OG: ∀k,FL k→ye k)
  (hr:bJ w' ye lb [ptr db 0,.string L.dir,I L.room,wT,I L.safe] 158) (ho:Ow w' ye 164 1 wT (nQ.map fun s=>[ptr s.b 0]))
  (hn: ∀s∈nQ,s∈bl∨(bJ w' ye s.b [I s.first,s.rv,I s.size] 163∧Ow w' ye 95 1 s.rv (s.rs.map fun r=>[r.1])∧ ∀r∈s.rs,Ow w' ye 5 1 r.1 (r.2.map U1)))
  (vj:nQ.Pairwise UF):vT w' ye lb db wT nQ { L with bR:=nQ.map jP.er } :=by
 have mv: ∀{A:XS},(∀k,A k→FL k∧k≠lb∧sv.ownBlock≠some k)→Mv A w ye w':=fun hA k hk _=>by
  obtain⟨a1,a2,a3⟩:=hA k hk
  exact⟨OG k a1,c.block k (hX k a1).1 fun hg=>(hG k hg).elim a2 a3⟩
 refine⟨rfl,hr,ho,fun s hs=>?_,fun s hs=>?_,fun s hs r hr=>?_,vj⟩
 ·rcases hn s hs with hs|hs
  ·exact(h.row s hs).own.mv (mv fun k hk=>by subst hk;exact⟨(h.row s hs).1,(h.row s hs).dS h.box (by kernel_rfl),h.so.dS (h.row s hs) (by kernel_rfl)⟩)
  ·exact hs.1
 ·rcases hn s hs with hs|hs
  ·refine(h.Ag s hs).tight.mv (mv fun k hk=>⟨((h.Ag s hs).ba hk).1,fun e=>(h.Ag s hs).dS h.box (by kernel_rfl) (e▸hk),fun e=>?_⟩)
   obtain⟨c1,h1⟩:=(h.Ag s hs).tag hk
   obtain⟨c2,h2⟩:=h.so.tag e
   rw [h1] at h2;simp at h2
  ·exact hs.2.1
 ·rcases hn s hs with hs|hs
  ·refine(h.A8 s hs r hr).tight.mv (mv fun k hk=>⟨((h.A8 s hs r hr).ba hk).1,fun e=>(h.A8 s hs r hr).dS h.box (by kernel_rfl) (e▸hk),fun e=>?_⟩)
   obtain⟨c1,h1⟩:=(h.A8 s hs r hr).tag hk
   obtain⟨c2,h2⟩:=h.so.tag e
   rw [h1] at h2;simp at h2
  ·exact hs.2.2 r hr
abbrev jP.more (s:jP) (yZ pv:Value) (p:List Nat) (z:Nat):jP:=⟨s.b,s.first,yZ,s.rs++[(pv,p)],z⟩
theorem vT.aej {s:jP} {yZ pv:Value} {p:List Nat} {z:Nat} (h:vT w FL lb db sv (bl++[s]) L) (hX:FX FL X w) (c:fO G X w X' w') (hG: ∀k,G k→k=s.b∨s.rv.ownBlock=some k) (OG: ∀k,FL k→ye k)
  (hr:bJ w' ye s.b [I s.first,yZ,I z] 163) (ho:Ow w' ye 95 1 yZ ((s.rs++[(pv,p)]).map fun r=>[r.1])) (hp:Ow w' ye 5 1 pv (p.map U1))
  (gQ:yZ.ownBlock=s.rv.ownBlock∨ ∃g,yZ.ownBlock=some g∧w.heap.size≤g):
  vT w' ye lb db sv (bl++[s.more yZ pv p z]) { L with bR:=(bl++[s.more yZ pv p z]).map jP.er } :=by
 have ku:s∈bl++[s]:=by simp
 have mv: ∀{A:XS},(∀k,A k→FL k∧k≠s.b∧s.rv.ownBlock≠some k)→Mv A w ye w':=fun hA k hk _=>by
  obtain⟨a1,a2,a3⟩:=hA k hk
  exact⟨OG k a1,c.block k (hX k a1).1 fun hg=>(hG k hg).elim a2 a3⟩
 have rs:=h.row s ku
 have os:=h.Ag s ku
 have hold: ∀x∈bl,x∈bl++[s]:=fun x hx=>List.mem_append_left _ hx
 have Tc:=List.pairwise_append.1 h.ap
 have LV: ∀x∈bl,UF x s:=fun x hx=>Tc.2.2 x hx s (by simp)
 have afX: ∀x∈bl++[s],∀r∈x.rs,Ow w' ye 5 1 r.1 (r.2.map U1):=fun x hx r hr=>by
  refine(h.A8 x hx r hr).tight.mv (mv fun k hk=>⟨((h.A8 x hx r hr).ba hk).1,fun e=>(h.A8 x hx r hr).dS rs (by kernel_rfl) (e▸hk),fun e=>?_⟩)
  obtain⟨c1,h1⟩:=(h.A8 x hx r hr).tag hk
  obtain⟨c2,h2⟩:=os.tag e
  rw [h1] at h2;simp at h2
 refine⟨rfl,?_,?_,fun x hx=>?_,fun x hx=>?_,fun x hx r hr=>?_,?_⟩
 ·exact h.box.own.mv (mv fun k hk=>by subst hk;exact⟨h.box.1,(rs.dS h.box (by kernel_rfl)).symm,os.dS h.box (by kernel_rfl)⟩)
 ·have:(bl++[s.more yZ pv p z]).map (fun s=>[ptr s.b 0])=(bl++[s]).map (fun s=>[ptr s.b 0]):=by simp
  rw [this]
  refine h.so.tight.mv (mv fun k hk=>⟨(h.so.ba hk).1,fun e=>h.so.dS rs (by kernel_rfl) (e▸hk),fun e=>?_⟩)
  obtain⟨c1,h1⟩:=h.so.tag hk
  obtain⟨c2,h2⟩:=os.tag e
  rw [h1] at h2;simp at h2
 ·rcases List.mem_append.1 hx with hx|hx
  ·have ha:=LV x hx
   have rx:=h.row x (hold x hx)
   exact rx.own.mv (mv fun k hk=>by subst hk;exact⟨rx.1,ha.1,os.dS rx (by kernel_rfl)⟩)
  ·simp only [bo] at hx;subst hx;exact hr
 ·rcases List.mem_append.1 hx with hx|hx
  ·have ha:=LV x hx
   have ox:=h.Ag x (hold x hx)
   exact ox.tight.mv (mv fun k hk=>⟨(ox.ba hk).1,fun e=>ox.dS rs (by kernel_rfl) (e▸hk),fun e=>ha.2 k hk e⟩)
  ·simp only [bo] at hx;subst hx;exact ho
 ·rcases List.mem_append.1 hx with hx|hx
  ·exact afX x (hold x hx) r hr
  ·simp only [bo] at hx;subst hx
   rcases List.mem_append.1 hr with hr|hr
   ·exact afX s ku r hr
   ·simp only [bo] at hr;subst hr;exact hp
 ·refine List.pairwise_append.2 ⟨Tc.1,rK _ _,fun x hx y hy=>?_⟩
  simp only [bo] at hy;subst hy
  have ha:=LV x hx
  refine⟨ha.1,fun g hg vt=>?_⟩
  rcases gQ with e|⟨g',e,eI⟩
  ·exact ha.2 g hg (e▸vt)
  ·have:=(hX g ((h.Ag x (hold x hx)).ba hg).1).2
   have e2:yZ.ownBlock=some g:=vt
   rw [e] at e2
   have:g'=g:=bK e2
   omega
end
theorem Gz {w:World} {X F:XS} {lb db n:Nat} {L:LM} {m:DM} (h:Lg w F lb db L m) (pO:L.dir.size≤11) (hn:n≤2^40) (mr:L.bR.length≤2^30) (hF:FX F X w):
  Ct pg 83 #[ptr lb 0,I n] w X F fun v wa w'=>v=I (LD.gB ⟨L,m⟩ n).2∧ ∃F',(∀k,F' k→F k∨made wa w' k)∧Lg w' F' lb db (LD.gB ⟨L,m⟩ n).1.L (LD.gB ⟨L,m⟩ n).1.m:=by
 intro w0 hk
 obtain⟨FL,FD,sv,bl,h⟩:=(h.mv (hF.mv hk)).lw
 have hT:=hF.ft hk
 have jl:FX F (aW w0) w0:=hF.kp hk
 have hX:=fun k ai=>(jl k (h.hL k ai)).1
 have hb:=h.l.box.mv (Mv.sub hX)
 apply N3;unfold CP
 have hs:=aj.init w0
 repeat' first|with_reducible apply aK|(with_reducible apply aM);exact qF;(· kernel_rfl);rfl;intro _ _ _|(with_reducible apply aZ);exact qF;exact qM;(· kernel_rfl);rfl
 refine dk (sj (by omega) (by omega)) (by kernel_rfl) hs.has ?_
 rintro _ wQ w2 X2 rfl u5 rj b6
 replace hs:=hs.trans b6
 have bM:=hT.since hs
 have h2:=h.mv (hs.fg hT.ba)
 refine bM.call (Sf h2.d (bM.fx h2.hD)) (by kernel_rfl) h2.hD fun v qw w3 X3 hq rr oG cP oe=>?_
 obtain⟨rfl,E7,Gy,hD⟩:=hq
 have h3:=h2.JG (bM.fx fun _ h=>h) rr oe Gy hD
 have eS:LD.gB ⟨L,m⟩ n=(⟨if(m.create (bG L.dir n)).2=0 then { L with bR:=L.bR++[⟨n,[],0⟩] } else L,(m.create (bG L.dir n)).1⟩,(m.create (bG L.dir n)).2):=rfl
 rw [eS]
 dsimp only
 generalize hms:m.create (bG L.dir n)=ms at h3⊢
 have Q4: ∀k,FL k→X3 k:=fun k ai=>cP.ba k (h3.hL k ai)
 have Ch:=h3.l.box.mv (Mv.sub Q4)
 have Qh:=h3.l.so.mono Q4
 have Ae:bl.length=L.bR.length:=by rw [h3.l.bR,aS]
 have o3:=h3.l.so.one
 clear hs
 repeat' first|with_reducible (first|apply aD|apply ak|apply aK)|(with_reducible apply gF<;>intro _)|(with_reducible apply aM);exact qF;(· kernel_rfl);rfl;intro _ _ _|(with_reducible apply aZ);exact qF;exact qM;(· kernel_rfl);rfl|(with_reducible apply gg);(· kernel_rfl)|with_reducible apply dY
 ·have hz:ms.2=0:=by have:(ms.2:Int)=0:=(by assumption);omega
  refine lQ cP.s.has fun bx w4 X4 iH fw dK=>?_
  have MW:=Qh.mv fw.mv
  refine NF (bytes:=8) (row:=[ptr bx 0]) MW fw.has (by kernel_rfl) rfl rfl rfl (by simp;omega) (by simp;omega) fun wT w5 X5 c5 rn acr=>?_
  have uT:=Ch.since fw
  have dr: ∀q,jw sv q→q≠lb:=fun q hq e=>MW.dS uT (by kernel_rfl) (by rw [←e];exact hq)
  have Q5:bJ w5 X5 lb [ptr db 0,.string L.dir,I L.room,sv,I L.safe] 158:=⟨c5.sub _ uT.1,by rw [c5.block _ uT.1 fun hq=>dr _ hq rfl];exact uT.2⟩
  repeat' first|with_reducible apply aK|(with_reducible apply aM);exact qF;(· kernel_rfl);rfl;intro _ _ _
  refine lB (o:=3) Q5 (by omega) (by kernel_rfl) (by simp) rn.one c5.has fun w6 X6 c6 E8=>?_
  have MX: ∀q,jw sv q→FL q:=fun q hq=>(h3.l.so.ba hq).1
  have cc:fO (fun k=>k=lb∨sv.ownBlock=some k) X3 w3 X6 w6:=((fO.tH fw _).trans (c5.mono fun k _ ai=>.inr ai)).trans (c6.mono fun k _ ai=>.inl ai)
  have ir:Ft w0 F w6 X6 (fun k=>(F k∨made qw w3 k)∨(X6 k∧w3.heap.size≤k)):=cP.ej cc (fun k ai=>by
   rcases ai with rfl|ai
   ·exact h3.hL _ h3.l.box.1
   ·exact h3.hL _ (MX _ ai)) fun k ai=>ai
  have Ao: ∀g,wT.ownBlock=some g→FL g∨(X6 g∧w3.heap.size≤g):=fun g hg=>by
   rcases acr with e|⟨g',e,eI⟩
   ·exact .inl (MX _ (e.symm.trans hg))
   ·rw [hg] at e
    have:g=g':=bK e
    subst this
    exact .inr ⟨c6.sub _ (rn.ba hg).1,ah fw.kp.size eI⟩
  have acs:wT.ownBlock≠some lb:=rn.dS Q5 (by kernel_rfl)
  have Y5:bx≠lb:=dK.dS uT (by kernel_rfl)
  have Y6: ¬jw sv bx:=fun hq=>MW.dS dK (by kernel_rfl) hq
  have hL6:=h3.l.Qg (ye:=fun k=>FL k∨(X6 k∧w3.heap.size≤k)) (wT:=wT) (nQ:=bl++[⟨bx,n,.slice none 0 0,[],0⟩]) (cP.fx h3.hL) cc (fun k ai=>ai) (fun k ai=>.inl ai) ⟨.inl h3.l.box.1,E8.2⟩ ?_ ?_ ?_
  ·refine ir.fin fun wa aR=>⟨rfl,_,ir.gK aR fun _ h=>h,?_⟩
   rw [if_pos hz]
   have e:({ L with bR:=(bl++[(⟨bx,n,.slice none 0 0,[],0⟩:jP)]).map jP.er } :LM)= { L with bR:=L.bR++[⟨n,[],0⟩] } :=by
    rw [bq,←h3.l.bR];rfl
   rw [←e]
   refine Lg.mv ⟨_,E7,wT,_,?_,?_,?_,hL6,h3.d.mv (cc.fC fun k ai=>⟨cP.ba k (h3.hD k ai),fun hg=>?_⟩)⟩ (aR.fC ir.ba)
   ·intro k ha gC
    rcases ha with ha|ha
    ·exact h3.dj k ha gC
    ·have:=(cP.fx h3.hD k gC).2
     omega
   ·exact fun k ai=>ai.imp (h3.hL k) id
   ·exact fun k ai=>.inl (h3.hD k ai)
   ·rcases hg with rfl|hg
    ·exact h3.dj _ h3.l.box.1 ai
    ·exact h3.dj _ (MX _ hg) ai
  ·rw [bq]
   refine rn.tight.mv fun k ai hl=>⟨Ao k ai,c6.block k (rn.ba ai).1 fun e=>acs (by rw [←(show k=lb from e)];exact ai)⟩
  ·intro s qX
   rcases List.mem_append.1 qX with qX|qX
   ·exact .inl qX
   ·simp only [bo] at qX;subst qX
    have hb6:w6.heap[bx]? =w4.heap[bx]? :=by
     rw [c6.block bx (c5.sub _ dK.1) Y5,c5.block bx dK.1 Y6]
    exact .inr ⟨⟨.inr ⟨c6.sub _ (c5.sub _ dK.1),iH⟩,by rw [hb6];exact dK.2⟩,Ow.nil _ _ _ _,fun r hr=>by cases hr⟩
  ·refine List.pairwise_append.2 ⟨h3.l.ap,rK _ _,fun x hx y hy=>?_⟩
   simp only [bo] at hy;subst hy
   refine⟨fun e=>?_,fun g hg vt=>by cases vt⟩
   have:=(cP.fx h3.hL _ (h3.l.row x hx).1).2
   have e':x.b=bx:=e
   omega
 ·have hz: ¬ms.2=0:=by have: ¬(ms.2:Int)=0:=(by assumption);omega
  refine cP.fin fun wa aR=>⟨rfl,_,cP.gK aR fun _ h=>h,?_⟩
  rw [if_neg hz]
  exact(h3.mv (aR.fC cP.ba)).lg
theorem j9.safe {L:LM} (h:j9 L) (z:Int):j9 { L with safe:=z } :=⟨h.ne,h.d1,h.d2,h.qx,h.room⟩
theorem j9.sync {L:LM} {m:DM} (h:j9 L):j9 (LD.sync ⟨L,m⟩).1.L:=by
 unfold LD.sync
 dsimp only
 split
 ·exact h.safe _
 ·exact h
theorem j9.gB {L:LM} {m:DM} {n:Nat} (h:j9 L) (hn:n≤2^40):j9 (LD.gB ⟨L,m⟩ n).1.L:=by
 unfold LD.gB
 dsimp only
 split
 ·refine⟨by simp,h.d1,h.d2,fun s hs=>?_,h.room⟩
  rcases List.mem_append.1 hs with hs|hs
  ·exact h.qx s hs
  ·simp only [bo] at hs;subst hs;exact⟨by simpa using hn,by simp⟩
 ·exact h
theorem LD.Q6 (x:LD):x.sync.1.L.bR=x.L.bR:=by unfold LD.sync;dsimp only;split<;>rfl
theorem LD.acu (x:LD):x.sync.1.L.dir=x.L.dir:=by unfold LD.sync;dsimp only;split<;>rfl
theorem UH {w:World} {X F S:XS} {lb db:Nat} {L:LM} {m:DM} {vp:Value} {p:List Nat} (h:Lg w F lb db L m) (hL:j9 L) (mr:L.bR.length≤2^30) (hF:FX F X w) (hp:Sl w S 1 vp (p.map U1)) (hS: ∀k,S k→X k∧ ¬F k):
  Ct pg 103 #[ptr lb 0,vp] w X F fun v wa w'=>v= .tuple #[I (LD.append ⟨L,m⟩ p).2.1,I (LD.append ⟨L,m⟩ p).2.2]∧
   ∃F',(∀k,F' k→F k∨made wa w' k)∧Lg w' F' lb db (LD.append ⟨L,m⟩ p).1.L (LD.append ⟨L,m⟩ p).1.m:=by
 intro w0 hk
 obtain⟨FL,FD,sv,bl,h⟩:=(h.mv (hF.mv hk)).lw
 have hT:=hF.ft hk
 have jl:FX F (aW w0) w0:=hF.kp hk
 have Lh:Sl w0 (out F w0) 1 vp (p.map U1):=hp.mv fun k ai hl=>⟨⟨aU hl hk.size,(hS k ai).2⟩,hk.block k (hS k ai).1⟩
 have Dh:=Lh.gW
 have ov:=Lh.one
 have pz:=hL.next
 generalize hr:LD.append ⟨L,m⟩ p=r
 unfold LD.append at hr
 dsimp only at hr
 apply KY;unfold AM
 refine dk (yd h.l hL (hT.fx h.hL)) (by kernel_rfl) hT.s.has ?_
 rintro _ wa w1 X1 rfl hle hU au
 have cO:=hT.since au
 have h1:=h.mv (au.fg hT.ba)
 have hpA: ∀{w X F'},Ft w0 F w X F'→Sl w X 1 vp (p.map U1):=fun hT=>Lh.mv hT.s.mv
 have hp1:=hpA cO
 have stay:r.1=⟨L,m⟩→ ∀wa,Kp X1 w1 wa→ ∃F',(∀k,F' k→F k∨made w0 wa k)∧Lg wa F' lb db r.1.L r.1.m:=fun e wa aR=>⟨F,cO.gK aR fun _ h=>h,by rw [e];exact(h1.mv (aR.fC cO.ba)).lg⟩
 repeat' first|with_reducible (first|apply aD|apply ak)|(with_reducible apply kF<;>intro _)|(with_reducible apply bS);exact qO;(· kernel_rfl)
 ·rw [if_pos (by omega)] at hr
  subst hr
  exact cO.fin fun wa aR=>⟨rfl,stay rfl wa aR⟩
 ·rw [if_neg (by omega),if_pos (by omega)] at hr
  subst hr
  exact cO.fin fun wa aR=>⟨rfl,stay rfl wa aR⟩
 ·rw [if_neg (by omega),if_neg (by omega)] at hr
  have ajq:p.length≤262144:=by omega
  clear stay
  refine fV (fun k=> ∀(w:World) (X F1 FL FD:XS) (sv:Value) (bl:List jP) (x:LD),LD.room ⟨L,m⟩=(x,0)→j9 x.L→x.L.bR.length≤2^30+1→Ft w0 F w X F1→LW w F1 lb db x.L x.m FL FD sv bl→k w X) ?_ ?_
  ·intro w X F1 FL FD sv bl x Q7 XG G3 bM h2
   rw [Q7] at hr
   dsimp only at hr
   rw [if_neg (by simp)] at hr
   obtain⟨nQ,s,rfl,he,tq⟩:=h2.l.last XG
   refine dk (uH h2.l (bM.fx h2.hL)) (by kernel_rfl) bM.s.has ?_
   rintro _ qw w3 X3 rfl rr oG cw
   have cP:=bM.since cw
   have h3:=h2.mv (cw.fg bM.ba)
   refine dk (Si (hpA cP)) (by kernel_rfl) cP.s.has ?_
   rintro vq tY w4 X4 hq sY ml fw
   rw [if_neg (by omega)] at hq
   obtain⟨vb,rfl,E9⟩:=hq
   have ed:=cP.since fw
   have h4:=h3.mv (fw.fg cP.ba)
   have hX4: ∀k,FL k→X4 k:=fun k ai=>ed.ba k (h4.hL k ai)
   have uT:=h4.l.box.mv (Mv.sub hX4)
   have mT:s∈nQ++[s]:=by simp
   have ajr:=(h4.l.row s mT).mv (Mv.sub hX4)
   have Ci:s.first=x.L.last.first:=by rw [←he];rfl
   have eu:s.size=x.L.last.size:=by rw [←he];rfl
   have hrs:x.L.last.bY=s.rs.map (·.2):=by rw [←he];rfl
   have hfb:=XG.first
   have pz:=XG.next
   have hls:=XG.qx _ (LM.qm XG.ne)
   have BJ:s.rs.length=x.L.last.bY.length:=by rw [hrs,aS]
   have iq:=nA p
   have ovb:=E9.one
   repeat' first|with_reducible apply aK|(with_reducible apply aM);exact qF;(· kernel_rfl);rfl;intro _ _ _|(with_reducible apply aZ);exact qF;exact qM;(· kernel_rfl);rfl|(with_reducible apply fp);rfl
   rw [Ci]
   refine dk (sj (by have:=XG.d2;omega) (by omega)) (by kernel_rfl) ed.s.has ?_
   rintro _ E3 w5 X5 rfl zk sZ o9
   have gU:=ed.since o9
   have h5:=h4.mv (o9.fg ed.ba)
   have hz4:=fw.kp.size
   have aib:Sl w5 (made tY w4) 1 vb ((du p).map U1):=E9.sl.mv fun k ai hl=>⟨ai,o9.kp.block k (ml k ai)⟩
   refine gU.call (Se h5.d (gU.fx h5.hD) aib (fun k ai=>⟨o9.sub k (ml k ai),fun hf=>?_⟩) (by omega)) (by kernel_rfl) h5.hD fun v JE w6 X6 hq Gw Ao ir Hr=>?_
   ·have:=(cP.fx h3.hD k hf).2
    have:=ai.1
    omega
   obtain⟨rfl,E7,Gy,hD⟩:=hq
   have h6:=h5.JG (gU.fx fun _ h=>h) Gw Hr Gy hD
   have eL:x.lay p=(⟨if(x.m.append x.L.ep (du p)).2=0 then x.L.add p else x.L,(x.m.append x.L.ep (du p)).1⟩,(x.m.append x.L.ep (du p)).2):=rfl
   rw [eL] at hr
   dsimp only at hr
   have eN:x.L.ep=bG x.L.dir x.L.last.first:=rfl
   rw [eN] at hr
   generalize hms:x.m.append (bG x.L.dir x.L.last.first) (du p)=ms at hr h6⊢
   have hX6: ∀k,FL k→X6 k:=fun k ai=>ir.ba k (h6.hL k ai)
   have aic:=(h6.l.row s mT).mv (Mv.sub hX6)
   have aid:=(h6.l.Ag s mT).mono hX6
   repeat' first|with_reducible (first|apply aD|apply ak|apply aK)|(with_reducible apply kG<;>intro _)|(with_reducible apply aM);exact qF;(· kernel_rfl);rfl;intro _ _ _|(with_reducible apply aZ);exact qF;exact qM;(· kernel_rfl);rfl
   ·have hz: ¬ms.2=0:=by have: ¬(ms.2:Int)=0:=(by assumption);omega
    rw [if_pos hz,if_neg hz] at hr
    subst hr
    exact ir.fin fun wa aR=>⟨rfl,_,ir.gK aR fun _ h=>h,(h6.mv (aR.fC ir.ba)).lg⟩
   ·have hz:ms.2=0:=by have:(ms.2:Int)=0:=(by assumption);omega
    rw [if_neg (by simpa using hz),if_pos hz] at hr
    subst hr
    refine ag3 ir.s.has (by kernel_rfl) (hpA ir) (by intro r hr u hu;obtain⟨x,_,rfl⟩:=List.mem_map.1 hr;simp only [U1,bo] at hu;subst hu;rfl) (by simp;omega) (by simp;omega) fun pv w7 X7 m9 yw=>?_
    have acv:=aid.mv m9.mv
    have UI:=aic.since m9
    refine NF (bytes:=24) (row:=[pv]) acv m9.has (by kernel_rfl) (by have:=tD yw.one;rw [this]) rfl (by simp [yw.one]) (by simp;omega) (by simp;omega) fun yZ w8 X8 c8 yf UJ=>?_
    have aie: ∀q,jw s.rv q→q≠s.b:=fun q hq e=>acv.dS UI (by kernel_rfl) (by rw [←e];exact hq)
    have afY:bJ w8 X8 s.b [I s.first,s.rv,I s.size] 163:=⟨c8.sub _ UI.1,by rw [c8.block _ UI.1 fun hq=>aie _ hq rfl];exact UI.2⟩
    repeat' first|with_reducible apply aK|(with_reducible apply aM);exact qF;(· kernel_rfl);rfl;intro _ _ _
    refine lB (o:=1) afY (by omega) (by kernel_rfl) (by simp) yf.one c8.has fun w9 X9 c9 acw=>?_
    replace acw:bJ w9 X9 s.b [I s.first,yZ,I s.size] 163:=acw
    repeat' first|with_reducible apply aK|(with_reducible apply aM);exact qF;(· kernel_rfl);rfl;intro _ _ _|(with_reducible apply aZ);exact qF;exact qM;(· kernel_rfl);rfl|(with_reducible apply bS);exact qO;(· kernel_rfl)|(with_reducible apply cx);omega;omega
    refine lB (o:=2) acw (by omega) (by kernel_rfl) (by simp) rfl c9.has fun vW vX Fa Y7=>?_
    have qq:(s.size:Int)+((du p).length:Int)=((s.size+(du p).length:Nat):Int):=by omega
    replace Y7:bJ vW vX s.b [I s.first,yZ,I ((s.size+(du p).length:Nat):Int)] 163:=by rw [←qq];exact Y7
    have cc:fO (fun k=>k=s.b∨s.rv.ownBlock=some k) X6 w6 vX vW:=(((fO.tH m9 _).trans (c8.mono fun k _ ai=>.inr ai)).trans (c9.mono fun k _ ai=>.inl ai)).trans (Fa.mono fun k _ ai=>.inl ai)
    have acx: ∀q,jw s.rv q→FL q:=fun q hq=>((h6.l.Ag s mT).ba hq).1
    have ik:=ir.ej (F':=fun k=>(F1 k∨made JE w6 k)∨(vX k∧w6.heap.size≤k)) cc (fun k ai=>by
     rcases ai with rfl|ai
     ·exact h6.hL _ (h6.l.row s mT).1
     ·exact h6.hL _ (acx _ ai)) fun k ai=>ai
    have Kx: ∀g,yZ.ownBlock=some g→FL g∨(vX g∧w6.heap.size≤g):=fun g hg=>by
     rcases UJ with e|⟨g',e,eI⟩
     ·exact .inl (acx _ (e.symm.trans hg))
     ·rw [hg] at e
      have:g=g':=bK e
      subst this
      exact .inr ⟨Fa.sub _ (c9.sub _ (yf.ba hg).1),ah m9.kp.size eI⟩
    have afZ: ∀q,jw yZ q→q≠s.b:=fun q hq e=>yf.dS afY (by kernel_rfl) (by rw [←e];exact hq)
    have Lp: ∀q,jw pv q→X7 q∧w6.heap.size≤q∧vW.heap[q]? =w7.heap[q]? :=fun q hq=>by
     have h1:=(yw.ba hq).1
     have UK:q≠s.b:=fun e=>yw.dS UI (by kernel_rfl) (by rw [←e];exact hq)
     have hnr: ¬jw s.rv q:=fun Ns=>by
      obtain⟨c1,e1⟩:=yw.tag hq
      obtain⟨c2,e2⟩:=acv.tag Ns
      rw [e1] at e2;simp at e2
     exact⟨h1.1,h1.2,by rw [Fa.block q (c9.sub _ (c8.sub _ h1.1)) UK,c9.block q (c8.sub _ h1.1) UK,c8.block q h1.1 hnr]⟩
    have aif:=h6.l.aej (ye:=fun k=>FL k∨(vX k∧w6.heap.size≤k)) (yZ:=yZ) (pv:=pv) (p:=p) (z:=s.size+(du p).length) (ir.fx h6.hL) cc (fun k ai=>ai) (fun k ai=>.inl ai) ⟨.inl (h6.l.row s mT).1,Y7.2⟩ ?_ ?_ ?_
    ·refine ik.fin fun wa aR=>⟨rfl,_,ik.gK aR fun _ h=>h,?_⟩
     have e:({ x.L with bR:=(nQ++[s.more yZ pv p (s.size+(du p).length)]).map jP.er } :LM)=x.L.add p:=by
      unfold LM.add
      rw [tq,bq,←he]
      simp [jP.er]
     rw [←e]
     refine Lg.mv ⟨_,E7,sv,_,?_,?_,?_,aif,h6.d.mv (cc.fC fun k ai=>⟨ir.ba k (h6.hD k ai),fun hg=>?_⟩)⟩ (aR.fC ik.ba)
     ·intro k ha gC
      rcases ha with ha|ha
      ·exact h6.dj k ha gC
      ·have:=(ir.fx h6.hD k gC).2
       omega
     ·exact fun k ai=>ai.imp (h6.hL k) id
     ·exact fun k ai=>.inl (h6.hD k ai)
     ·rcases hg with rfl|hg
      ·exact h6.dj _ (h6.l.row s mT).1 ai
      ·exact h6.dj _ (acx _ hg) ai
    ·rw [bq]
     exact yf.tight.mv fun k ai hl=>⟨Kx k ai,by rw [Fa.block k (c9.sub _ (yf.ba ai).1) (afZ k ai),c9.block k (yf.ba ai).1 (afZ k ai)]⟩
    ·exact yw.tight.mv fun k ai hl=>⟨.inr ⟨Fa.sub _ (c9.sub _ (c8.sub _ (Lp k ai).1)),(Lp k ai).2.1⟩,(Lp k ai).2.2⟩
    ·rcases UJ with e|⟨g,e,eI⟩
     ·exact .inl e
     ·exact .inr ⟨g,e,ah m9.kp.size eI⟩
  ·intro K hK
   obtain⟨nQ,s,rfl,he,tq⟩:=h1.l.last hL
   have Ih: ∀k,FL k→X1 k:=fun k ai=>cO.ba k (h1.hL k ai)
   have mF:=h1.l.box.mv (Mv.sub Ih)
   have mT:s∈nQ++[s]:=by simp
   have UG:=(h1.l.row s mT).mv (Mv.sub Ih)
   have eu:s.size=L.last.size:=by rw [←he];rfl
   have hls:=hL.qx _ (LM.qm hL.ne)
   have Q7:=hL.room
   have eR:LD.room ⟨L,m⟩=if L.room≤L.last.size then(if(LD.sync ⟨L,m⟩).2≠0 then LD.sync ⟨L,m⟩else(LD.sync ⟨L,m⟩).1.gB L.next)else(⟨L,m⟩,0):=rfl
   repeat' first|with_reducible apply aK|(with_reducible apply aM);exact qF;(· kernel_rfl);rfl;intro _ _ _|(with_reducible apply aZ);exact qF;exact qM;(· kernel_rfl);rfl
   refine dk (uH h1.l (cO.fx h1.hL)) (by kernel_rfl) cO.s.has ?_
   rintro _ wQ w2 X2 rfl u5 rj b6
   have bM:=cO.since b6
   have h2:=h1.mv (b6.fg cO.ba)
   have Y8:=UG.since b6
   repeat' first|with_reducible (first|apply aD|apply ak|apply aK)|(with_reducible apply mG<;>intro _)|(with_reducible apply aM);exact qF;(· kernel_rfl);rfl;intro _ _ _|(with_reducible apply aZ);exact qF;exact qM;(· kernel_rfl);rfl
   ·have eI:L.room≤L.last.size:=by omega
    rw [if_pos eI] at eR
    refine bM.call (Gx h2.lg hL (bM.fx fun _ h=>h)) (by kernel_rfl) (fun _ h=>h) fun v qw w3 X3 hq rr oG cP oe=>?_
    obtain⟨rfl,F3,JF,h3⟩:=hq
    have hL3:j9 (LD.sync ⟨L,m⟩).1.L:=hL.sync
    have Y9:=LD.Q6 ⟨L,m⟩
    have af0:=LD.acu ⟨L,m⟩
    generalize hsy:LD.sync ⟨L,m⟩=y at eR h3 hL3 Y9 af0⊢
    have il:=cP.less JF
    repeat' first|with_reducible (first|apply aD|apply ak)|(with_reducible apply kG<;>intro _)
    ·have hz:y.2≠0:=by have: ¬(y.2:Int)=0:=(by assumption);omega
     rw [if_pos hz] at eR
     rw [eR,if_pos hz] at hr
     subst hr
     exact il.fin fun wa aR=>⟨rfl,F3,il.gK aR fun _ h=>h,h3.mv (aR.fC il.ba)⟩
    ·have hz: ¬y.2≠0:=by have:(y.2:Int)=0:=(by assumption);omega
     rw [if_neg hz] at eR
     have hy:y.1=⟨y.1.L,y.1.m⟩:=rfl
     refine il.call (Gz (n:=L.next) h3 (by rw [af0];exact hL.d2) pz (by rw [Y9];exact mr) (il.fx fun _ h=>h)) (by kernel_rfl) (fun _ h=>h) fun v tY w4 X4 hq sY ml ed tW=>?_
     obtain⟨rfl,F4,JD,h4⟩:=hq
     have XH:(LD.gB ⟨y.1.L,y.1.m⟩ L.next).2=0→j9 (LD.gB ⟨y.1.L,y.1.m⟩ L.next).1.L:=fun _=>hL3.gB pz
     have hl4:(LD.gB ⟨y.1.L,y.1.m⟩ L.next).1.L.bR.length≤2^30+1:=by
      unfold LD.gB
      dsimp only
      split
      ·simp only [ae,jj,Y9];show L.bR.length+1≤_;omega
      ·rw [Y9];show L.bR.length≤_;omega
     rw [hy] at eR
     generalize hro:LD.gB ⟨y.1.L,y.1.m⟩ L.next=q at eR h4 XH hl4⊢
     have pI:=ed.less JD
     repeat' first|with_reducible (first|apply aD|apply ak)|(with_reducible apply kG<;>intro _)
     ·have hz:q.2≠0:=by have: ¬(q.2:Int)=0:=(by assumption);omega
      rw [eR,if_pos hz] at hr
      subst hr
      exact pI.fin fun wa aR=>⟨rfl,F4,pI.gK aR fun _ h=>h,h4.mv (aR.fC pI.ba)⟩
     ·have hz:q.2=0:=by have:(q.2:Int)=0:=(by assumption);omega
      obtain⟨FL4,FD4,sv4,bl4,h4⟩:=h4.lw
      exact hK _ _ _ _ _ _ _ q.1 (by rw [eR,←hz]) (XH hz) hl4 pI h4
   ·have eI: ¬L.room≤L.last.size:=by omega
    rw [if_neg eI] at eR
    exact hK _ _ _ _ _ _ _ ⟨L,m⟩ eR hL (by show L.bR.length≤_;omega) bM h2
theorem j9.tail {L:LM} {s t:cj} {r:List cj} (h:j9 L) (hs:L.bR=s::t::r):j9 { L with bR:=t::r } :=
 ⟨by simp,h.d1,h.d2,fun x hx=>h.qx x (by rw [hs];exact bm _ hx),h.room⟩
theorem Za {w:World} {X F:XS} {lb db below K:Nat} {L:LM} {m:DM} (h:Lg w F lb db L m) (hL:j9 L) (hK:L.bR.length≤K) (mr:L.bR.length≤2^40) (hF:FX F X w):
  Ct pg 58 #[ptr lb 0,I below] w X F fun v wa w'=>v=I (LD.trim ⟨L,m⟩ below K).2∧ ∃F',(∀k,F' k→F k∨made wa w' k)∧Lg w' F' lb db (LD.trim ⟨L,m⟩ below K).1.L (LD.trim ⟨L,m⟩ below K).1.m:=by
 intro w0 hk
 replace h:=h.mv (hF.mv hk)
 have hT:=hF.ft hk
 have jl:FX F (aW w0) w0:=hF.kp hk
 generalize hr:LD.trim ⟨L,m⟩ below K=r
 apply NX;unfold CM
 refine ae0 (fun n w X=> ∃(k:Nat) (x:LD) (F1:XS),n=x.L.bR.length∧x.L.bR.length≤k∧x.L.bR.length≤2^40∧LD.trim x below k=r∧j9 x.L∧Ft w0 F w X F1∧Lg w F1 lb db x.L x.m) L.bR.length ⟨K,⟨L,m⟩,F,rfl,hK,mr,hr,hL,hT,h⟩ ?_
 clear hT h hr mr hK hL
 rintro n w X ⟨k,x,F1,rfl,hk,mr,hr,hL,hT,h⟩
 obtain⟨FL,FD,sv,bl,h⟩:=h.lw
 have hX: ∀k,FL k→X k:=fun k ai=>hT.ba k (h.hL k ai)
 have hb:=h.l.box.mv (Mv.sub hX)
 have vy:=h.l.so.sl.mono hX
 have Ae:bl.length=x.L.bR.length:=by rw [h.l.bR,aS]
 have vV:=h.l.bR
 have done:r=(x,0)→ ∀wa,Kp X w wa→I 0=I r.2∧ ∃F',(∀k,F' k→F k∨made w0 wa k)∧Lg wa F' lb db r.1.L r.1.m:=fun e wa aR=>⟨by rw [e];rfl,F1,hT.gK aR fun _ h=>h,by rw [e];exact(h.mv (aR.fC hT.ba)).lg⟩
 match bl,Ae,vV with
 |[],Ae,vV=>exact absurd vV hL.ne
 |[s],Ae,vV=>
  have UL:x.L.bR=[s.er]:=vV
  have vC:r=(x,0):=by
   rw [←hr]
   cases k with
   |zero=>rfl
   |succ k=>unfold LD.trim;rw [UL]
  have En:([s]:List jP).length=1:=rfl
  repeat' first|(with_reducible refine lN ?_ ?_);omega|with_reducible (first|apply ak|apply cL|apply cu|apply bt|apply aK)|(with_reducible apply aM);exact qF;(· kernel_rfl);rfl;intro _ _ _|(with_reducible apply aZ);exact qF;exact qM;(· kernel_rfl);rfl|(with_reducible apply bS);exact qO;(· kernel_rfl)
  exact hT.fin fun wa aR=>done vC wa aR
 |s::t::bl,Ae,vV=>
  have UL:x.L.bR=s.er::t.er::bl.map jP.er:=vV
  have td:(s::t::bl).length=bl.length+2:=rfl
  have hrs:=(h.l.row s (by simp)).mv (Mv.sub hX)
  have hrt:=(h.l.row t (by simp)).mv (Mv.sub hX)
  have au:=hL.qx s.er (by rw [UL];simp)
  have wE:s.first+s.er.bY.length≤2^40:=au.1
  obtain⟨k,rfl⟩: ∃k',k=k'+1:=⟨k-1,by omega⟩
  have eT:LD.trim x below (k+1)=if t.first≤below then(if(x.m.remove (bG x.L.dir s.first)).2≠0 then(⟨x.L,(x.m.remove (bG x.L.dir s.first)).1⟩,(x.m.remove (bG x.L.dir s.first)).2)else LD.trim ⟨{ x.L with bR:=t.er::bl.map jP.er },(x.m.remove (bG x.L.dir s.first)).1⟩ below k)else(x,0):=by
   rw [LD.trim,UL];rfl
  have h0:(s::t::bl)[0]? =some s:=rfl
  have h1:(s::t::bl)[1]? =some t:=rfl
  repeat' first|(with_reducible refine BO ?_ ?_);omega|with_reducible (first|apply aD|apply ak|apply dz|apply cM|apply rR|apply bE|apply aK)|(with_reducible apply jK<;>intro _)|(with_reducible apply aM);exact qF;(· kernel_rfl);rfl;intro _ _ _|(with_reducible apply aZ);exact qF;exact qM;(· kernel_rfl);rfl|(with_reducible apply bS);exact qO;(· kernel_rfl)|((with_reducible apply e7);exact qO;(try (case hz=>rfl));(case hr=>exact qR);(try (case hz=>omega));(case ht=>kernel_rfl);(case hs=>kernel_rfl);intro _ _ _)
  ·have hle:t.first≤below:=by omega
   rw [if_pos hle] at eT
   have hs:=aj.eP hT.s.has
   refine dk (sj (by have:=hL.d2;omega) (by omega)) (by kernel_rfl) hT.s.has ?_
   rintro _ wQ w2 X2 rfl u5 rj b6
   have bM:=hT.since b6
   have h2:=h.mv (b6.fg hT.ba)
   refine bM.call (Sg h2.d (bM.fx h2.hD)) (by kernel_rfl) h2.hD fun v qw w3 X3 hq rr oG cP oe=>?_
   obtain⟨rfl,E7,Gy,hD⟩:=hq
   have h3:=h2.JG (bM.fx fun _ h=>h) rr oe Gy hD
   generalize hms:x.m.remove (bG x.L.dir s.first)=ms at h3 eT⊢
   have Q4: ∀k,FL k→X3 k:=fun k ai=>cP.ba k (h3.hL k ai)
   have Ch:=h3.l.box.mv (Mv.sub Q4)
   clear hs
   repeat' first|with_reducible (first|apply aD|apply ak|apply aK)|(with_reducible apply kG<;>intro _)|(with_reducible apply aM);exact qF;(· kernel_rfl);rfl;intro _ _ _|(with_reducible apply aZ);exact qF;exact qM;(· kernel_rfl);rfl
   ·have hz:ms.2≠0:=by have: ¬(ms.2:Int)=0:=(by assumption);omega
    rw [if_pos hz,hr] at eT
    exact cP.fin fun wa aR=>⟨by rw [eT],_,cP.gK aR fun _ h=>h,by rw [eT];exact(h3.mv (aR.fC cP.ba)).lg⟩
   ·have hz: ¬ms.2≠0:=by have:(ms.2:Int)=0:=(by assumption);omega
    rw [if_neg hz,hr] at eT
    have Qh:=h3.l.so.mono Q4
    refine aeb (k:=1) (i:=1) Qh rfl (by simp) (by kernel_rfl) (by kernel_rfl) fun wT Zb BP=>?_
    repeat' first|with_reducible apply aK|(with_reducible apply aM);exact qF;(· kernel_rfl);rfl;intro _ _ _
    refine lB (o:=3) Ch (by omega) (by kernel_rfl) (by simp) Zb.one cP.s.has fun w4 X4 c4 ua=>?_
    have ed:=cP.ej (F':=fun k=>F1 k∨made qw w3 k) c4 (fun k ai=>by subst ai;exact h3.hL _ h3.l.box.1) fun k ai=>.inl ai
    have dr:wT.ownBlock≠some lb:=Zb.dS Ch (by kernel_rfl)
    have XH:=h3.l.Qg (ye:=FL) (wT:=wT) (nQ:=t::bl) (cP.fx h3.hL) (c4.mono fun k _ ai=>.inl ai) (fun k ai=>ai) (fun k ai=>ai) ⟨h3.l.box.1,ua.2⟩ ?_ (fun y hy=>.inl (bm _ hy)) (List.pairwise_cons.1 h3.l.ap).2
    ·refine ae1 (bl.length+1) (by omega) ⟨k,⟨{ x.L with bR:=t.er::bl.map jP.er },ms.1⟩,_,by simp,?_,?_,eT.symm,hL.tail UL,ed,FL,E7,wT,t::bl,h3.dj,h3.hL,h3.hD,XH,h3.d.mv (c4.fC fun k ai=>⟨cP.ba k (h3.hD k ai),fun e=>h3.dj k (by rw [e];exact h3.l.box.1) ai⟩)⟩
     ·show(t.er::bl.map jP.er).length≤k
      simp;omega
     ·show(t.er::bl.map jP.er).length≤_
      simp;omega
    ·refine Zb.tight.mv fun k ai hl=>⟨(h3.l.so.ba (BP.symm.trans ai)).1,c4.block k (Zb.ba ai).1 fun e=>dr (by rw [←(show k=lb from e)];exact ai)⟩
  ·have hle: ¬t.first≤below:=by omega
   rw [if_neg hle,hr] at eT
   exact hT.fin fun wa aR=>done eT wa aR
end Go.Proofs.YtpdkoaklobnegaaGreat
