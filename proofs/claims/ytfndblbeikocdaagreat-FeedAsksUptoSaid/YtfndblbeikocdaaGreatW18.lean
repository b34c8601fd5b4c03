/-
 racelaw23.FeedAsks returns true, whatever it is called with, where what it reads is of bulk at most 1048576; the input reads as it did.
-/
import Derived.Test.YtfndblbeikocdaaGreatChecked
import Derived.OpenShut
import Derived.JoinedCond
import Derived.Test.YtfndblbeikocdaaGreatW17
open List renaming length_append → ae, map_cons → bC, sum_cons → fV, append_nil → fE
open Nat renaming le_trans → af
open Go.DataW renaming TrodAll → pX
open Bool renaming and_eq_true → aY
set_option linter.unusedVariables false
set_option linter.unusedSimpArgs false
namespace Go.Proofs.YtfndblbeikocdaaGreat
open Go.Proofs.Tryz renaming prog → pg
open Go.bB Go.ChangeShapes Go.WideShapes Go.ChangeAt Go.RowKit
set_option maxRecDepth 100000
set_option maxHeartbeats 1000000
section
variable {P : Program}
def O8 (P:Program) (ts:List TypeId):Bool:=ts.all fun t=>P.readableRec t&&decide (t<P.types.size)
theorem QL (hl:laidOutB P=true) {H:Type} {enc:TypeId×Value→H} {W W':World} (hb:Below W.heap.size W W'): ∀{ts:List TypeId} {vs:List Value} {ds:List (DataW H)} {ps:List MemPlace},O8 P ts=true→(∀x∈ps,x.block<W.heap.size)→
  pX enc P W 0 (fun _=>true) true ts vs ds ps→pX enc P W' 0 (fun b=>decide (b<W.heap.size)) true ts vs ds ps
 |[],[],[],_,_,_,h=>h
 |t::ts,v::vs,d::ds,ps,hr,cI,⟨p,q,h1,h2,Lg⟩=>by
  unfold O8 at hr;simp only [List.all_cons,aY,decide_eq_true_eq] at hr;subst Lg;exact⟨p,q,Below.trod hl hr.1.1 hr.1.2 h1 hb fun x hx=>cI x (List.mem_append_left _ hx),QL hl hb hr.2 (fun x hx=>cI x (List.mem_append_right _ hx)) h2,rfl⟩
 |[],[],_::_,_,_,_,h=>h.elim
 |[],_::_,_,_,_,_,h=>h.elim
 |_::_,[],_,_,_,_,h=>h.elim
 |_::_,_::_,[],_,_,_,h=>h.elim
theorem acg (hl:laidOutB P=true) {tb:TypeId} (hub:P.underlying tb=some .bool) {H:Type} {enc:TypeId×Value→H} {f:Func} {s:ChangeSpec} {W W':World} {args:Array Value} {ds:List (DataW H)} {before:List MemPlace} (hv:s.vars=[]) (hrt:f.resultTypes= #[tb]) (hc:O8 P f.params.toList=true)
  (hs:(s.fn H (ds++[])).results=[.lit (.bool true)]∧(s.fn H (ds++[])).args=ds∧(s.fn H (ds++[])).vars=[])
  (hW:DataW.Whole enc P f.params.toList s.vars false W args.toList ds [] before) (hA:pX enc P W 0 (fun _=>true) true f.params.toList args.toList ds before) (hx:Ext W W'):
  s.post enc P f false true false false W args (.bool true) W':=by
 have hb:=hx.below;refine⟨ds,[],before,[],before,[],hW,?_,?_,?_,Below.frame hb _,fun h=>by cases h⟩
 ·rw [hrt,hs.1];exact trodAll_cons_mk (shut_bool hub _) trodAll_mk0
 ·rw [hs.2.1];exact QL hl hb hc (fun x hx=>hW.lt x hx) hA
 ·rw [hs.2.2,hv];rfl
end
theorem ach:ownKnob pg.godebug=none:=by kernel_rfl
theorem Us:laidOutB pg=true:=by kernel_rfl
theorem bound {H:Type} {l:List (DataW H)} (hk:Rows.uptoSmall H l=true):Rows.uptoBulkAll l≤1048576:=of_decide_eq_true hk
theorem adT:lq 40 (Gz 29 Rec.rd):=nU kQ kQ (by decide) afP
theorem adU:lq 39 (Gz 4 (fun _ _ cs (x:ju)=>cs=x.l)):=nU kQ kQ (by decide) aaO
theorem aci:lq 27 rdI:=aaM kQ
instance:Wt jX:=⟨fun x=>Wt.wt x.key+Wt.wt x.val+Wt.wt x.aw+1,fun _=>by omega⟩
theorem adV:lq 166 (fun _ _ cs (x:jX)=>cs=x.l):=fun H enc W fuel cs x h=>by
 obtain⟨n,ds,hx,hf⟩:=iG [9,116,34] kQ h;obtain⟨_,_,_,_,a0,rfl,rfl,rfl,w0,hf⟩:=ct Ej hf;obtain⟨_,_,_,_,a1,rfl,rfl,rfl,w1,hf⟩:=ct NM hf;obtain⟨_,_,_,_,a2,rfl,rfl,rfl,w2,rfl,rfl⟩:=ct rl hf;refine⟨⟨a0,a1,a2⟩,rfl,?_⟩;rw [hx];simp only [Rows.uptoBulk,Rows.uptoBulkAll,Wt.wt] at*;omega
theorem acj:lq 36 (Gz 7 (fun _ _ cs (x:jX)=>cs=x.l)):=nU kQ kQ (by decide) adV
instance:Wt gx:=⟨fun x=>Wt.wt x.kind+Wt.wt x.fr+Wt.wt x.to+Wt.wt x.b6+Wt.wt x.range+Wt.wt x.jo+Wt.wt x.code+Wt.wt x.aw+Wt.wt x.prev+Wt.wt x.ij+Wt.wt x.n+Wt.wt x.mx+Wt.wt x.keys+Wt.wt x.seen+Wt.wt x.writes+Wt.wt x.parts+Wt.wt x.ranges+Wt.wt x.eb+Wt.wt x.state+1,fun _=>by omega⟩
theorem afQ:lq 49 gx.rd:=fun H enc W fuel cs x h=>by
 obtain⟨n,ds,hx,hf⟩:=iG [3,3,3,32,3,3,27,34,34,4,3,3,35,36,37,38,39,40,47] kQ h;obtain⟨_,_,_,_,a0,rfl,rfl,rfl,w0,hf⟩:=ct mC hf;obtain⟨_,_,_,_,a1,rfl,rfl,rfl,w1,hf⟩:=ct mC hf;obtain⟨_,_,_,_,a2,rfl,rfl,rfl,w2,hf⟩:=ct mC hf;obtain⟨_,_,_,_,a3,rfl,rfl,rfl,w3,hf⟩:=ct Up hf;obtain⟨_,_,_,_,a4,rfl,rfl,rfl,w4,hf⟩:=ct mC hf;obtain⟨_,_,_,_,a5,rfl,rfl,rfl,w5,hf⟩:=ct mC hf;obtain⟨_,_,_,_,a6,rfl,rfl,rfl,w6,hf⟩:=ct aci hf;obtain⟨_,_,_,_,a7,rfl,rfl,rfl,w7,hf⟩:=ct rl hf;obtain⟨_,_,_,_,a8,rfl,rfl,rfl,w8,hf⟩:=ct rl hf;obtain⟨_,_,_,_,a9,rfl,rfl,rfl,w9,hf⟩:=ct Xn hf;obtain⟨_,_,_,_,a10,rfl,rfl,rfl,w10,hf⟩:=ct mC hf;obtain⟨_,_,_,_,a11,rfl,rfl,rfl,w11,hf⟩:=ct mC hf;obtain⟨_,_,_,_,a12,rfl,rfl,⟨v12,rfl,r12⟩,w12,hf⟩:=ct Za hf;obtain⟨_,_,_,_,a13,rfl,rfl,⟨v13,rfl,r13⟩,w13,hf⟩:=ct acj hf;obtain⟨_,_,_,_,a14,rfl,rfl,⟨v14,rfl,r14⟩,w14,hf⟩:=ct Uq hf;obtain⟨_,_,_,_,a15,rfl,rfl,⟨v15,rfl,r15⟩,w15,hf⟩:=ct Zb hf;obtain⟨_,_,_,_,a16,rfl,rfl,⟨v16,rfl,r16⟩,w16,hf⟩:=ct adU hf;obtain⟨_,_,_,_,a17,rfl,rfl,⟨v17,rfl,r17⟩,w17,hf⟩:=ct adT hf;obtain⟨_,_,_,_,a18,rfl,rfl,⟨vh,vp,rfl,rh,rp⟩,w18,rfl,rfl⟩:=ct Ur hf;refine⟨⟨a0,a1,a2,a3,a4,a5,a6,a7,a8,a9,a10,a11,a12,a13,a14,a15,a16,a17,a18⟩,⟨v12,v13,v14,v15,v16,v17,vh,vp,rfl,⟨r12.tt,r13.tt,r14.tt,r15.tt,r16.tt,r17,rh,rp⟩⟩,?_⟩;rw [hx];simp only [Rows.uptoBulk,Rows.uptoBulkAll,Wt.wt] at*;omega
instance:Wt lY:=⟨fun x=>Wt.wt x.kind+Wt.wt x.n+Wt.wt x.m+Wt.wt x.RV+1,fun _=>by omega⟩
theorem afR:lq 51 lY.rd:=fun H enc W fuel cs x h=>by
 obtain⟨n,ds,hx,hf⟩:=iG [3,3,49,38] kQ h;obtain⟨_,_,_,_,a0,rfl,rfl,rfl,w0,hf⟩:=ct mC hf;obtain⟨_,_,_,_,a1,rfl,rfl,⟨rfl,hb⟩,w1,hf⟩:=ct Jr hf;obtain⟨_,_,_,_,a2,rfl,rfl,⟨vk,vs,vw,vp,vr,vc,vh,vd,rfl,r2⟩,w2,hf⟩:=ct afQ hf;obtain⟨_,_,_,_,a3,rfl,rfl,⟨v3,rfl,r3⟩,w3,rfl,rfl⟩:=ct Zb hf;refine⟨⟨a0,a1,a2,a3⟩,⟨vk,vs,vw,vp,vr,vc,vh,vd,v3,rfl,⟨r2,r3.tt,by show a1<2^63;have:=hb.2;omega⟩⟩,?_⟩;rw [hx];simp only [Rows.uptoBulk,Rows.uptoBulkAll,Wt.wt] at*;omega
theorem adW:lq 22 (Gz 39 lY.rd):=nU kQ kQ (by decide) afR
theorem s8 {α:Type} [Wt α] {l:List α} {B:Nat} (h:Wt.wt l≤B):l.length≤B:=by
 have h':(l.map Wt.wt).sum+1≤B:=h;have:=Uj l;omega
theorem Xo {s:BA} {B:Nat} (h:Wt.wt s≤B):s.size≤B:=by
 have:s.size+1≤B:=h;omega
theorem Xp: ∀l:List KV,6*l.length≤(l.map Wt.wt).sum
 |[]=>by simp
 |x::l=>by
  have h1:=Xp l;have h2:Wt.wt x=(x.key.size+1)+(1+O6 x.val.num+(x.val.text.size+1)+1)+1:=rfl;have h3:=Ui x.val.num;simp only [List.length_cons,bC,fV];omega
theorem Xq {l:List KV} (h:Wt.wt l≤1048576):l.length≤2^18:=by
 have h':(l.map Wt.wt).sum+1≤1048576:=h;have:=Xp l;omega
theorem afS {x:KV} {B:Nat} (h:Wt.wt x≤B):x.key.size≤B:=by
 have:(x.key.size+1)+(Wt.wt x.val.kind+Wt.wt x.val.num+(x.val.text.size+1)+1)+1≤B:=h;omega
theorem Ut {l:List KV} {B:Nat} (h:Wt.wt l≤B) (hB:B≤2^40): ∀x∈l,x.key.size≤2^40:=fun x hx=>by
 have h':(l.map Wt.wt).sum+1≤B:=h;have:=afS (B:=B) (af (B3 hx) zQ);omega
theorem Uu {l:List BA} {B:Nat} (h:Wt.wt l≤B) (hB:B≤2^40): ∀k∈l,k.size≤2^40:=fun x hx=>by
 have h':(l.map Wt.wt).sum+1≤B:=h;have:=Xo (B:=B) (af (B3 hx) zQ);omega
theorem adX {l:List dB} {B:Nat} (h:Wt.wt l≤B) (hB:B≤1048576):Sm l∧acX l∧ ∀p∈l,p.writes.length≤2^18:=by
 have h':(l.map Wt.wt).sum+1≤B:=h;have key: ∀p∈l,Wt.wt p.reads≤B∧Wt.wt p.writes≤B:=fun p hp=>by
  have h1:Wt.wt p.b6+Wt.wt p.aw+Wt.wt p.reads+Wt.wt p.writes+1≤(l.map Wt.wt).sum:=B3 hp;omega
 refine⟨fun p hp=>?_,fun p hp=>⟨Uu (key p hp).1 zQ,Ut (key p hp).2 zQ⟩,fun p hp=>Xq (af (key p hp).2 hB)⟩;have h1:=s8 (key p hp).1;have h2:=s8 (key p hp).2;omega
theorem adY {l:List iM} {B:Nat} (h:Wt.wt l≤B) (hB:B≤2^40):Sk l∧acW l:=by
 have h':(l.map Wt.wt).sum+1≤B:=h;have key: ∀p∈l,Wt.wt p.key≤B∧Wt.wt p.kc≤B:=fun p hp=>by
  have h1:Wt.wt p.key+Wt.wt p.kc+1≤(l.map Wt.wt).sum:=B3 hp;omega
 exact⟨fun p hp=>af (s8 (key p hp).2) hB,fun p hp=>af (Xo (key p hp).1) hB⟩
theorem Uv {s:State} {B:Nat} (h:Wt.wt s≤B) (hB:B≤1048576):s.small∧ ∀p∈s.eK,p.writes.length≤2^18:=by
 have h':Wt.wt s.range+Wt.wt s.floor+Wt.wt s.closed+Wt.wt s.gF+Wt.wt s.eK+1≤B:=h;obtain⟨a2,a3⟩:=adY (l:=s.gF) (B:=B) zQ zQ;obtain⟨b2,b3,b4⟩:=adX (l:=s.eK) (B:=B) zQ hB;exact⟨⟨a2,b2,a3,b3⟩,b4⟩
theorem aaP {r:Rec} {B:Nat} (h:Wt.wt r≤B) (hB:B≤1048576):r.small∧r.sz:=by
 have h':Wt.wt r.kind+Wt.wt r.b6+Wt.wt r.aw+Wt.wt r.prev+Wt.wt r.ij+Wt.wt r.n+Wt.wt r.jV+Wt.wt r.reads+Wt.wt r.writes+Wt.wt r.parts+Wt.wt r.qL+Wt.wt r.state+1≤B:=h;obtain⟨a1,a2⟩:=Uv (s:=r.state) (B:=B) zQ hB;have h1:=s8 (l:=r.reads) (B:=B) zQ;have h2:=s8 (l:=r.writes) (B:=B) zQ;have h3:=Ut (l:=r.writes) (B:=B) zQ zQ;have h4:=Uu (l:=r.reads) (B:=B) zQ zQ;exact⟨⟨by omega,by omega,h4,h3,a1⟩,⟨Xq zQ,a2⟩⟩
theorem adZ (r:Rec):OP r≤Wt.wt r:=by
 have h':Wt.wt r=Wt.wt r.kind+Wt.wt r.b6+Wt.wt r.aw+Wt.wt r.prev+Wt.wt r.ij+Wt.wt r.n+Wt.wt r.jV+Wt.wt r.reads+Wt.wt r.writes+Wt.wt r.parts+Wt.wt r.qL+(Wt.wt r.state.range+4+4+Wt.wt r.state.gF+((r.state.eK.map Wt.wt).sum+1)+1)+1:=rfl;have:=Uj r.state.eK;unfold OP;omega
theorem Uw: ∀l:List Rec,iZ l≤(l.map Wt.wt).sum
 |[]=>by simp [iZ]
 |r::l=>by
  have h1:=Uw l;have h2:=adZ r;have h3:iZ (r::l)=OP r+iZ l:=by simp [iZ]
  rw [h3,bC,fV];omega
theorem Js (s:BA):(rM s).length≤120*Wt.wt s:=by
 have h1:=uY s;have h2:=fC s.size
 show _≤120*(s.size+1)
 omega
theorem L6 (x:KV):(oh x).length≤120*Wt.wt x:=by
 have h1:=Js x.key;have h2:=SL (v:=x.val);have h3:Wt.wt x=Wt.wt x.key+Wt.wt x.val+1:=rfl;unfold oh;rw [ae];omega
theorem tu {α:Type} [Wt α] {f:α→List Nat} (l:List α) (h: ∀x,(f x).length≤120*Wt.wt x):(jA f l).length≤120*Wt.wt l:=by
 have h1:(l.map f).flatten.length≤120*(l.map Wt.wt).sum:=by
  induction l with
  |nil=>simp
  |cons x l ih=>have:=h x;simp only [bC,List.flatten_cons,ae,fV];omega
 have h2:=fC (l.length:Int);have h3:Wt.wt l=(l.map Wt.wt).sum+1:=rfl;unfold jA;rw [ae];omega
theorem ad0 (n:Int):(encI n).length≤120*Wt.wt n:=by
 have:=fC n
 show _≤120*1
 omega
theorem aaQ (v:ki):(um v).length≤120*Wt.wt v:=by
 have h1:=sR v.aw;have h2:=SL (v:=v.val);have h3:Wt.wt v=4+Wt.wt v.val+1:=rfl;unfold um;rw [ae];omega
theorem ad1 (h:iM):(yp h).length≤120*Wt.wt h:=by
 have h1:=Js h.key;have h2:=tu h.kc aaQ;have h3:Wt.wt h=Wt.wt h.key+Wt.wt h.kc+1:=rfl;unfold yp;rw [ae];omega
theorem ad2 (p:dB):(tV p).length≤120*Wt.wt p:=by
 have h1:=P0 p.b6;have h2:=sR p.aw;have h3:=tu p.reads Js;have h4:=tu p.writes L6;have h5:Wt.wt p=Uo p.b6+4+Wt.wt p.reads+Wt.wt p.writes+1:=rfl;have h6:=O7 p.b6;unfold tV;simp only [ae];omega
theorem ad3 (s:State):(encS s).length≤120*Wt.wt s:=by
 have h1:=fC s.range.id;have h2:=fC s.range.jo;have h3:=sR s.floor;have h4:=sR s.closed;have h5:=tu s.gF ad1;have h6:=tu s.eK ad2;have h7:Wt.wt s=Wt.wt s.range+4+4+Wt.wt s.gF+Wt.wt s.eK+1:=rfl;unfold encS MS;simp only [ae,Lu];omega
theorem ad4 (r:Rec):(uZ r).length≤120*Wt.wt r:=by
 have h':Wt.wt r=Wt.wt r.kind+Uo r.b6+4+4+Wt.wt r.ij+Wt.wt r.n+Wt.wt r.jV+Wt.wt r.reads+Wt.wt r.writes+Wt.wt r.parts+Wt.wt r.qL+Wt.wt r.state+1:=rfl;have k0:=O7 r.b6;have k1:=fC r.kind;have k2:=ad3 r.state;have k3:=fC r.n;have k4:=P0 r.b6;have k5:=sR r.aw;have k6:=sR r.prev;have k7:=tu r.reads Js;have k8:=tu r.writes L6;have k9:=tu r.qL L6;have k10:=tu r.parts ad0;have k11:=Lu r.jV;have k12:(XQ r.ij).length=1:=rfl;unfold uZ;rw [ae];repeat' split
 all_goals (try unfold tV);(try simp only [ae,List.length_nil]);omega
theorem afT {m:gx} {B:Nat} (h:Wt.wt m≤B) (hB:B≤1048576):m.small∧m.lens≤2^62∧ ∀r∈m.eb,r.sz:=by
 have h':Wt.wt m.kind+Wt.wt m.fr+Wt.wt m.to+Wt.wt m.b6+Wt.wt m.range+Wt.wt m.jo+Wt.wt m.code+Wt.wt m.aw+Wt.wt m.prev+Wt.wt m.ij+Wt.wt m.n+Wt.wt m.mx+Wt.wt m.keys+Wt.wt m.seen+Wt.wt m.writes+Wt.wt m.parts+Wt.wt m.ranges+Wt.wt m.eb+Wt.wt m.state+1≤B:=h;obtain⟨a1,_⟩:=Uv (s:=m.state) (B:=B) zQ hB;have l1:=s8 (l:=m.keys) (B:=B) zQ;have l2:=s8 (l:=m.seen) (B:=B) zQ;have l3:=s8 (l:=m.writes) (B:=B) zQ;have l4:=s8 (l:=m.parts) (B:=B) zQ;have l5:=s8 (l:=m.ranges) (B:=B) zQ;have l6:=s8 (l:=m.eb) (B:=B) zQ;have hr: ∀r∈m.eb,Wt.wt r≤B:=fun r hr=>by
  have h1:Wt.wt m.eb=(m.eb.map Wt.wt).sum+1:=rfl;have:=B3 hr;omega
 refine⟨⟨by omega,by omega,fun r h=>(aaP (hr r h) hB).1,fun r h _=>?_,a1⟩,?_,fun r h=>(aaP (hr r h) hB).2⟩
 ·have:=ad4 r;have:=hr r h;omega
 ·unfold gx.lens;omega
theorem ad5 (o:lY):iZ o.m.eb≤Wt.wt o:=by
 have h1:=Uw o.m.eb;have h2:Wt.wt o=Wt.wt o.kind+Wt.wt o.n+(Wt.wt o.m.kind+Wt.wt o.m.fr+Wt.wt o.m.to+Wt.wt o.m.b6+Wt.wt o.m.range+Wt.wt o.m.jo+Wt.wt o.m.code+Wt.wt o.m.aw+Wt.wt o.m.prev+Wt.wt o.m.ij+Wt.wt o.m.n+Wt.wt o.m.mx+Wt.wt o.m.keys+Wt.wt o.m.seen+Wt.wt o.m.writes+Wt.wt o.m.parts+Wt.wt o.m.ranges+((o.m.eb.map Wt.wt).sum+1)+Wt.wt o.m.state+1)+Wt.wt o.RV+1:=rfl;omega
theorem Ux: ∀l:List lY,(l.map fun o=>iZ o.m.eb).sum≤(l.map Wt.wt).sum
 |[]=>by simp
 |o::l=>by
  have h1:=Ux l;have h2:=ad5 o;simp only [bC,fV];omega
namespace feedAsks
theorem acm (H:Type) (enc:TypeId×Value→H) (W:World) (base:Nat) (args:Array Value) (ds gs:List (DataW H)) (before:List MemPlace)
  (O9: ∀(j:Nat) t v,Tryz.f3.params[j]? =some t→args[j]? =some v→Value.okWide pg W .any base t v)
  (hW:DataW.Whole enc pg Tryz.f3.params.toList Rows.feedAsksSpec.vars false W args.toList ds gs before) (hk:Rows.uptoSmall H (ds++gs)=true):
  Calls pg 3 args W fun e W'=> ∃v,e= .returned v∧Rows.feedAsksSpec.post enc pg Tryz.f3 false true false false W args v W':=by
 have Gt:=hW;obtain⟨p,q,hA0,hV,rfl,hfz,mf⟩:=hW;have hA:pX enc pg W 0 (fun _=>true) true Tryz.f3.params.toList args.toList ds p:=hA0;rw [Tryz.params3] at hA O9;obtain⟨v0,vs0,d0,ds0,p0,q0,agZ,rfl,rfl,h0,r0⟩:=trodAll_cons hA;obtain⟨v1,vs1,d1,ds1,p1,q1,rfl,rfl,rfl,h1,r1⟩:=trodAll_cons r0;obtain⟨v2,vs2,d2,ds2,p2,q2,rfl,rfl,rfl,h2,r2⟩:=trodAll_cons r1;obtain⟨rfl,rfl,rfl⟩:=trodAll_nil r2;obtain rfl:args= #[v0,v1,v2]:=by cases args;simp_all
 obtain⟨rfl,rfl⟩:=trodVars_none hV;obtain⟨z1,rfl⟩:=okWide_int Tryz.underlying3 (O9 0 3 v0 rfl rfl);obtain⟨z2,rfl⟩:=okWide_int Tryz.underlying3 (O9 1 3 v1 rfl rfl);obtain⟨b2,n2,c2,rfl⟩:=okWide_slice Tryz.underlying22 (O9 2 22 v2 rfl rfl);obtain⟨f2,hf2⟩:=h2;obtain⟨x2,⟨u2,hu2,r2'⟩,wt2⟩:=adW H enc W f2 _ _ hf2;obtain rfl:u2= .slice b2 n2 c2:=by simpa [Value.cells] using hu2.symm
 have hb:=bound hk;simp only [fE,Rows.uptoBulkAll] at hb Gt;have vz:(x2.map Wt.wt).sum+1≤Rows.uptoBulk d2:=wt2;refine(O5 (X:=aR W) (R:=z1) (M:=z2) r2' (fun o ho=>?_) (af (Ux x2) zQ) W (Kp.refl _ _)).mono fun e W' ⟨v,he,sh,hq⟩=>?_
 ·have h3:=B3 ho;have h4:Wt.wt o.kind+Wt.wt o.n+Wt.wt o.m+Wt.wt o.RV+1≤(x2.map Wt.wt).sum:=h3;exact afT (B:=1048576) zQ (by decide)
 subst he;subst hq;exact⟨_,rfl,acg Us Tryz.underlying4 rfl rfl kQ ⟨rfl,rfl,rfl⟩ Gt (by rw [fE] at*;exact hA0) sh⟩
theorem lifted (os:Os) (started:os.Started) (H:Type) (enc:TypeId×Value→H) (F:Stop.Interp):
  ReturnsInHanded {} Tryz.checked os 3 .any ((Rows.OpenSpec.upto Rows.feedAsksSpec).pre6 enc pg Tryz.f3 Rows.feedAsksUptoRow.domain false) (((Rows.OpenSpec.upto Rows.feedAsksSpec).at F).post enc pg Tryz.f3 false true false false):=by
 refine returnsInHanded_of_cond (C:=Tryz.checked) (s:=Rows.OpenSpec.upto Rows.feedAsksSpec) (k:=Rows.uptoSmall) rfl ach started kQ Tryz.func3
  (OpenSpec.witness (enc:=enc) (C:=Tryz.checked) (s:=Rows.OpenSpec.upto Rows.feedAsksSpec) (k:=Rows.uptoSmall) rfl false ⟨#[],#[I 0,I 0,.slice none 0 0],[]⟩ 8 kQ kQ kQ
   (x:=([.lit (.int .i64 0),.lit (.int .i64 0),.nil],[],[])) kQ rfl kQ) ?_
 intro W base args ds gs before O9 hW _ hk _;exact acm H enc W base args ds gs before O9 hW hk
theorem ag0:((Rows.feedAsksUptoRow).unfollowed==pg.unfollowed 3)=true:=by kernel_rfl
theorem ag1:((Rows.feedAsksUptoRow).recurses==pg.recurses 3)=true:=by kernel_rfl
theorem aaR:((Rows.feedAsksUptoRow).inPlace==pg.inPlace 3)=true:=by kernel_rfl
theorem ad6:((Rows.feedAsksUptoRow).named==pg.varsNamed 3)=true:=by kernel_rfl
theorem V6:mapsRowed pg=true:=by kernel_rfl
theorem ad7:(pg.stops==[])=true:=by kernel_rfl
theorem ad8:(pg.stopKnobs==[])=true:=by kernel_rfl
theorem ad9:pg.stopsHeard=true:=by kernel_rfl
theorem ag2:pg.mayEnter=true:=by kernel_rfl
theorem afU:((Rows.feedAsksUptoRow).plainKeys==pg.plainKeys)=true:=by kernel_rfl
theorem acn:((Rows.feedAsksUptoRow).lifted==pg.liftsFinal)=true:=by kernel_rfl
theorem afV:(pg.make==some (Rows.feedAsksUptoRow).make)=true:=by kernel_rfl
theorem afW:joinedFacts pg 3 Tryz.f3 (Rows.OpenSpec.upto Rows.feedAsksSpec).bare Rows.feedAsksUptoRow=true:=by
 unfold joinedFacts;simp only [aY]
 and_intros<;>first|with_reducible exact Us|with_reducible exact ag0|with_reducible exact ag1|with_reducible exact aaR|with_reducible exact ad6|with_reducible exact V6|with_reducible exact ad7|with_reducible exact ad8|with_reducible exact ad9|with_reducible exact ag2|with_reducible exact afU|with_reducible exact acn|with_reducible exact afV|kernel_rfl
theorem proved:Rows.FeedAsksUptoSaid:=
 OpenClaim.holds_of_cond 3 Tryz.f3 rfl rfl rfl rfl rfl rfl rfl ⟨rfl,rfl,rfl,rfl,rfl⟩ rfl rfl rfl rfl rfl kQ Tryz.func3 afW
  (of_decide_eq_true kQ) (by unfold Func.isWrapper;first|(rw [if_pos (by decide+kernel)];kernel_rfl)|(rw [if_neg (by decide+kernel)];exact⟨rfl,rfl⟩))
  (fun os started H enc _ F=>lifted os started H enc F)
end feedAsks
end Go.Proofs.YtfndblbeikocdaaGreat
