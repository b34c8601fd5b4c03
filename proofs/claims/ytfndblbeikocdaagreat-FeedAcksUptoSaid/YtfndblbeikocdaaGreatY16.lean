/-
 racelaw23.FeedAcks returns true, whatever it is called with, where what it reads is of bulk at most 1048576; the input reads as it did.
-/
import Derived.Test.YtfndblbeikocdaaGreatChecked
import Derived.OpenShut
import Derived.JoinedCond
import Derived.Test.YtfndblbeikocdaaGreatY15
open List renaming length_append → ae, mem_of_getElem? → aA, map_cons → bB, sum_cons → fS, take_add_one → bc, getElem?_map → dQ, append_nil → fh
open Nat renaming le_trans → af, eq_zero_or_pos → dA
open Go.DataW renaming TrodAll → po
open Bool renaming and_eq_true → aV
set_option linter.unusedVariables false
set_option linter.unusedSimpArgs false
namespace Go.Proofs.YtfndblbeikocdaaGreat
open Go.Proofs.Tryz renaming prog → pg
open Go.bu Go.ChangeShapes Go.WideShapes Go.ChangeAt Go.RowKit
set_option maxRecDepth 100000
set_option maxHeartbeats 1000000
section
variable {P : Program}
def Nj (P:Program) (ts:List TypeId):Bool:=ts.all fun t=>P.readableRec t&&decide (t<P.types.size)
theorem Pk (hl:laidOutB P=true) {H:Type} {enc:TypeId×Value→H} {W W':World} (hb:Below W.heap.size W W'): ∀{ts:List TypeId} {vs:List Value} {ds:List (DataW H)} {ps:List MemPlace},Nj P ts=true→(∀x∈ps,x.block<W.heap.size)→
  po enc P W 0 (fun _=>true) true ts vs ds ps→po enc P W' 0 (fun b=>decide (b<W.heap.size)) true ts vs ds ps
 |[],[],[],_,_,_,h=>h
 |t::ts,v::vs,d::ds,ps,hr,cK,⟨p,q,h1,h2,J5⟩=>by
  unfold Nj at hr;simp only [List.all_cons,aV,decide_eq_true_eq] at hr;subst J5;exact⟨p,q,Below.trod hl hr.1.1 hr.1.2 h1 hb fun x hx=>cK x (List.mem_append_left _ hx),Pk hl hb hr.2 (fun x hx=>cK x (List.mem_append_right _ hx)) h2,rfl⟩
 |[],[],_::_,_,_,_,h=>h.elim
 |[],_::_,_,_,_,_,h=>h.elim
 |_::_,[],_,_,_,_,h=>h.elim
 |_::_,_::_,[],_,_,_,h=>h.elim
theorem aba (hl:laidOutB P=true) {tb:TypeId} (hub:P.underlying tb=some .bool) {H:Type} {enc:TypeId×Value→H} {f:Func} {s:ChangeSpec} {W W':World} {args:Array Value} {ds:List (DataW H)} {before:List MemPlace} (hv:s.vars=[]) (Zn:f.resultTypes= #[tb]) (hc:Nj P f.params.toList=true)
  (hs:(s.fn H (ds++[])).results=[.lit (.bool true)]∧(s.fn H (ds++[])).args=ds∧(s.fn H (ds++[])).vars=[])
  (hW:DataW.Whole enc P f.params.toList s.vars false W args.toList ds [] before) (hA:po enc P W 0 (fun _=>true) true f.params.toList args.toList ds before) (hx:Ext W W'):
  s.post enc P f false true false false W args (.bool true) W':=by
 have hb:=hx.below;refine⟨ds,[],before,[],before,[],hW,?_,?_,?_,Below.frame hb _,fun h=>by cases h⟩
 ·rw [Zn,hs.1];exact trodAll_cons_mk (shut_bool hub _) trodAll_mk0
 ·rw [hs.2.1];exact Pk hl hb hc (fun x hx=>hW.lt x hx) hA
 ·rw [hs.2.2,hv];rfl
end
theorem abb:ownKnob pg.godebug=none:=by kernel_rfl
theorem Sk:laidOutB pg=true:=by kernel_rfl
theorem bound {H:Type} {l:List (DataW H)} (hk:Rows.uptoSmall H l=true):Rows.uptoBulkAll l≤1048576:=of_decide_eq_true hk
theorem ac1:kW 40 (Fv 29 Rec.rd):=nB kQ kQ (by decide) aeJ
theorem ac2:kW 39 (Fv 4 (fun _ _ cs (x:kX)=>cs=x.l)):=nB kQ kQ (by decide) Zz
theorem abc:kW 27 rdI:=Zu kQ
instance:Wt lO:=⟨fun x=>Wt.wt x.key+Wt.wt x.val+Wt.wt x.aw+1,fun _=>by omega⟩
theorem ac3:kW 166 (fun _ _ cs (x:lO)=>cs=x.l):=fun H enc W fuel cs x h=>by
 obtain⟨n,ds,hx,hf⟩:=iw [9,116,34] kQ h;obtain⟨_,_,_,_,a0,rfl,rfl,rfl,w0,hf⟩:=cg Ds hf;obtain⟨_,_,_,_,a1,rfl,rfl,rfl,w1,hf⟩:=cg Me hf;obtain⟨_,_,_,_,a2,rfl,rfl,rfl,w2,rfl,rfl⟩:=cg qo hf;refine⟨⟨a0,a1,a2⟩,rfl,?_⟩;rw [hx];simp only [Rows.uptoBulk,Rows.uptoBulkAll,Wt.wt] at*;omega
theorem abd:kW 36 (Fv 7 (fun _ _ cs (x:lO)=>cs=x.l)):=nB kQ kQ (by decide) ac3
instance:Wt gW:=⟨fun x=>Wt.wt x.kind+Wt.wt x.fr+Wt.wt x.to+Wt.wt x.bU+Wt.wt x.range+Wt.wt x.jD+Wt.wt x.code+Wt.wt x.aw+Wt.wt x.prev+Wt.wt x.iy+Wt.wt x.n+Wt.wt x.mx+Wt.wt x.keys+Wt.wt x.seen+Wt.wt x.writes+Wt.wt x.parts+Wt.wt x.ranges+Wt.wt x.ed+Wt.wt x.state+1,fun _=>by omega⟩
theorem aeK:kW 49 gW.rd:=fun H enc W fuel cs x h=>by
 obtain⟨n,ds,hx,hf⟩:=iw [3,3,3,32,3,3,27,34,34,4,3,3,35,36,37,38,39,40,47] kQ h;obtain⟨_,_,_,_,a0,rfl,rfl,rfl,w0,hf⟩:=cg l9 hf;obtain⟨_,_,_,_,a1,rfl,rfl,rfl,w1,hf⟩:=cg l9 hf;obtain⟨_,_,_,_,a2,rfl,rfl,rfl,w2,hf⟩:=cg l9 hf;obtain⟨_,_,_,_,a3,rfl,rfl,rfl,w3,hf⟩:=cg Sh hf;obtain⟨_,_,_,_,a4,rfl,rfl,rfl,w4,hf⟩:=cg l9 hf;obtain⟨_,_,_,_,a5,rfl,rfl,rfl,w5,hf⟩:=cg l9 hf;obtain⟨_,_,_,_,a6,rfl,rfl,rfl,w6,hf⟩:=cg abc hf;obtain⟨_,_,_,_,a7,rfl,rfl,rfl,w7,hf⟩:=cg qo hf;obtain⟨_,_,_,_,a8,rfl,rfl,rfl,w8,hf⟩:=cg qo hf;obtain⟨_,_,_,_,a9,rfl,rfl,rfl,w9,hf⟩:=cg VM hf;obtain⟨_,_,_,_,a10,rfl,rfl,rfl,w10,hf⟩:=cg l9 hf;obtain⟨_,_,_,_,a11,rfl,rfl,rfl,w11,hf⟩:=cg l9 hf;obtain⟨_,_,_,_,a12,rfl,rfl,⟨v12,rfl,r12⟩,w12,hf⟩:=cg W0 hf;obtain⟨_,_,_,_,a13,rfl,rfl,⟨v13,rfl,r13⟩,w13,hf⟩:=cg abd hf;obtain⟨_,_,_,_,a14,rfl,rfl,⟨v14,rfl,r14⟩,w14,hf⟩:=cg Si hf;obtain⟨_,_,_,_,a15,rfl,rfl,⟨v15,rfl,r15⟩,w15,hf⟩:=cg W1 hf;obtain⟨_,_,_,_,a16,rfl,rfl,⟨v16,rfl,r16⟩,w16,hf⟩:=cg ac2 hf;obtain⟨_,_,_,_,a17,rfl,rfl,⟨v17,rfl,r17⟩,w17,hf⟩:=cg ac1 hf;obtain⟨_,_,_,_,a18,rfl,rfl,⟨vh,vp,rfl,rh,rp⟩,w18,rfl,rfl⟩:=cg Sj hf;refine⟨⟨a0,a1,a2,a3,a4,a5,a6,a7,a8,a9,a10,a11,a12,a13,a14,a15,a16,a17,a18⟩,⟨v12,v13,v14,v15,v16,v17,vh,vp,rfl,⟨r12.sJ,r13.sJ,r14.sJ,r15.sJ,r16.sJ,r17,rh,rp⟩⟩,?_⟩;rw [hx];simp only [Rows.uptoBulk,Rows.uptoBulkAll,Wt.wt] at*;omega
instance:Wt mD:=⟨fun x=>Wt.wt x.kind+Wt.wt x.n+Wt.wt x.m+Wt.wt x.Qy+1,fun _=>by omega⟩
theorem aeL:kW 51 mD.rd:=fun H enc W fuel cs x h=>by
 obtain⟨n,ds,hx,hf⟩:=iw [3,3,49,38] kQ h;obtain⟨_,_,_,_,a0,rfl,rfl,rfl,w0,hf⟩:=cg l9 hf;obtain⟨_,_,_,_,a1,rfl,rfl,⟨rfl,hb⟩,w1,hf⟩:=cg It hf;obtain⟨_,_,_,_,a2,rfl,rfl,⟨vk,vs,vw,vp,vr,vc,vh,vd,rfl,r2⟩,w2,hf⟩:=cg aeK hf;obtain⟨_,_,_,_,a3,rfl,rfl,⟨v3,rfl,r3⟩,w3,rfl,rfl⟩:=cg W1 hf;refine⟨⟨a0,a1,a2,a3⟩,⟨vk,vs,vw,vp,vr,vc,vh,vd,v3,rfl,⟨r2,r3.sJ,by show a1<2^63;have:=hb.2;omega⟩⟩,?_⟩;rw [hx];simp only [Rows.uptoBulk,Rows.uptoBulkAll,Wt.wt] at*;omega
theorem ac4:kW 22 (Fv 39 mD.rd):=nB kQ kQ (by decide) aeL
theorem so {α:Type} [Wt α] {l:List α} {B:Nat} (h:Wt.wt l≤B):l.length≤B:=by
 have h':(l.map Wt.wt).sum+1≤B:=h;have:=Sb l;omega
theorem VN {s:BA} {B:Nat} (h:Wt.wt s≤B):s.size≤B:=by
 have:s.size+1≤B:=h;omega
theorem VO: ∀l:List KV,6*l.length≤(l.map Wt.wt).sum
 |[]=>by simp
 |x::l=>by
  have h1:=VO l;have h2:Wt.wt x=(x.key.size+1)+(1+Nh x.val.num+(x.val.text.size+1)+1)+1:=rfl;have h3:=Sa x.val.num;simp only [List.length_cons,bB,fS];omega
theorem VP {l:List KV} (h:Wt.wt l≤1048576):l.length≤2^18:=by
 have h':(l.map Wt.wt).sum+1≤1048576:=h;have:=VO l;omega
theorem aeM {x:KV} {B:Nat} (h:Wt.wt x≤B):x.key.size≤B:=by
 have:(x.key.size+1)+(Wt.wt x.val.kind+Wt.wt x.val.num+(x.val.text.size+1)+1)+1≤B:=h;omega
theorem Sm {l:List KV} {B:Nat} (h:Wt.wt l≤B) (hB:B≤2^40): ∀x∈l,x.key.size≤2^40:=fun x hx=>by
 have h':(l.map Wt.wt).sum+1≤B:=h;have:=aeM (B:=B) (af (Bh hx) zQ);omega
theorem Sn {l:List BA} {B:Nat} (h:Wt.wt l≤B) (hB:B≤2^40): ∀k∈l,k.size≤2^40:=fun x hx=>by
 have h':(l.map Wt.wt).sum+1≤B:=h;have:=VN (B:=B) (af (Bh hx) zQ);omega
theorem ac5 {l:List dB} {B:Nat} (h:Wt.wt l≤B) (hB:B≤1048576):Sp l∧acp l∧ ∀p∈l,p.writes.length≤2^18:=by
 have h':(l.map Wt.wt).sum+1≤B:=h;have key: ∀p∈l,Wt.wt p.reads≤B∧Wt.wt p.writes≤B:=fun p hp=>by
  have h1:Wt.wt p.bU+Wt.wt p.aw+Wt.wt p.reads+Wt.wt p.writes+1≤(l.map Wt.wt).sum:=Bh hp;omega
 refine⟨fun p hp=>?_,fun p hp=>⟨Sn (key p hp).1 zQ,Sm (key p hp).2 zQ⟩,fun p hp=>VP (af (key p hp).2 hB)⟩;have h1:=so (key p hp).1;have h2:=so (key p hp).2;omega
theorem ac6 {l:List iP} {B:Nat} (h:Wt.wt l≤B) (hB:B≤2^40):Sq l∧acq l:=by
 have h':(l.map Wt.wt).sum+1≤B:=h;have key: ∀p∈l,Wt.wt p.key≤B∧Wt.wt p.jZ≤B:=fun p hp=>by
  have h1:Wt.wt p.key+Wt.wt p.jZ+1≤(l.map Wt.wt).sum:=Bh hp;omega
 exact⟨fun p hp=>af (so (key p hp).2) hB,fun p hp=>af (VN (key p hp).1) hB⟩
theorem Sr {s:State} {B:Nat} (h:Wt.wt s≤B) (hB:B≤1048576):s.small∧ ∀p∈s.eA,p.writes.length≤2^18:=by
 have h':Wt.wt s.range+Wt.wt s.floor+Wt.wt s.closed+Wt.wt s.gG+Wt.wt s.eA+1≤B:=h;obtain⟨a2,a3⟩:=ac6 (l:=s.gG) (B:=B) zQ zQ;obtain⟨b2,b3,b4⟩:=ac5 (l:=s.eA) (B:=B) zQ hB;exact⟨⟨a2,b2,a3,b3⟩,b4⟩
theorem ZA {r:Rec} {B:Nat} (h:Wt.wt r≤B) (hB:B≤1048576):r.small∧r.sz:=by
 have h':Wt.wt r.kind+Wt.wt r.bU+Wt.wt r.aw+Wt.wt r.prev+Wt.wt r.iy+Wt.wt r.n+Wt.wt r.jP+Wt.wt r.reads+Wt.wt r.writes+Wt.wt r.parts+Wt.wt r.qm+Wt.wt r.state+1≤B:=h;obtain⟨a1,a2⟩:=Sr (s:=r.state) (B:=B) zQ hB;have h1:=so (l:=r.reads) (B:=B) zQ;have h2:=so (l:=r.writes) (B:=B) zQ;have h3:=Sm (l:=r.writes) (B:=B) zQ zQ;have h4:=Sn (l:=r.reads) (B:=B) zQ zQ;exact⟨⟨by omega,by omega,h4,h3,a1⟩,⟨VP zQ,a2⟩⟩
theorem ac7 (r:Rec):M6 r≤Wt.wt r:=by
 have h':Wt.wt r=Wt.wt r.kind+Wt.wt r.bU+Wt.wt r.aw+Wt.wt r.prev+Wt.wt r.iy+Wt.wt r.n+Wt.wt r.jP+Wt.wt r.reads+Wt.wt r.writes+Wt.wt r.parts+Wt.wt r.qm+(Wt.wt r.state.range+4+4+Wt.wt r.state.gG+((r.state.eA.map Wt.wt).sum+1)+1)+1:=rfl;have:=Sb r.state.eA;unfold M6;omega
theorem Ss: ∀l:List Rec,iT l≤(l.map Wt.wt).sum
 |[]=>by simp [iT]
 |r::l=>by
  have h1:=Ss l;have h2:=ac7 r;have h3:iT (r::l)=M6 r+iT l:=by simp [iT]
  rw [h3,bB,fS];omega
theorem Iu (s:BA):(qV s).length≤120*Wt.wt s:=by
 have h1:=uA s;have h2:=fe s.size
 show _≤120*(s.size+1)
 omega
theorem KW (x:KV):(nP x).length≤120*Wt.wt x:=by
 have h1:=Iu x.key;have h2:=St (v:=x.val);have h3:Wt.wt x=Wt.wt x.key+Wt.wt x.val+1:=rfl;unfold nP;rw [ae];omega
theorem sK {α:Type} [Wt α] {f:α→List Nat} (l:List α) (h: ∀x,(f x).length≤120*Wt.wt x):(jv f l).length≤120*Wt.wt l:=by
 have h1:(l.map f).flatten.length≤120*(l.map Wt.wt).sum:=by
  induction l with
  |nil=>simp
  |cons x l ih=>have:=h x;simp only [bB,List.flatten_cons,ae,fS];omega
 have h2:=fe (l.length:Int);have h3:Wt.wt l=(l.map Wt.wt).sum+1:=rfl;unfold jv;rw [ae];omega
theorem ac8 (n:Int):(encI n).length≤120*Wt.wt n:=by
 have:=fe n
 show _≤120*1
 omega
theorem ZC (v:kc):(tV v).length≤120*Wt.wt v:=by
 have h1:=su v.aw;have h2:=St (v:=v.val);have h3:Wt.wt v=4+Wt.wt v.val+1:=rfl;unfold tV;rw [ae];omega
theorem ac9 (h:iP):(ye h).length≤120*Wt.wt h:=by
 have h1:=Iu h.key;have h2:=sK h.jZ ZC;have h3:Wt.wt h=Wt.wt h.key+Wt.wt h.jZ+1:=rfl;unfold ye;rw [ae];omega
theorem ada (p:dB):(tz p).length≤120*Wt.wt p:=by
 have h1:=Pm p.bU;have h2:=su p.aw;have h3:=sK p.reads Iu;have h4:=sK p.writes KW;have h5:Wt.wt p=Sg p.bU+4+Wt.wt p.reads+Wt.wt p.writes+1:=rfl;have h6:=Ni p.bU;unfold tz;simp only [ae];omega
theorem adb (s:State):(encS s).length≤120*Wt.wt s:=by
 have h1:=fe s.range.id;have h2:=fe s.range.jD;have h3:=su s.floor;have h4:=su s.closed;have h5:=sK s.gG ac9;have h6:=sK s.eA ada;have h7:Wt.wt s=Wt.wt s.range+4+4+Wt.wt s.gG+Wt.wt s.eA+1:=rfl;unfold encS Mf;simp only [ae,KX];omega
theorem ade (r:Rec):(uB r).length≤120*Wt.wt r:=by
 have h':Wt.wt r=Wt.wt r.kind+Sg r.bU+4+4+Wt.wt r.iy+Wt.wt r.n+Wt.wt r.jP+Wt.wt r.reads+Wt.wt r.writes+Wt.wt r.parts+Wt.wt r.qm+Wt.wt r.state+1:=rfl;have k0:=Ni r.bU;have k1:=fe r.kind;have k2:=adb r.state;have k3:=fe r.n;have k4:=Pm r.bU;have k5:=su r.aw;have k6:=su r.prev;have k7:=sK r.reads Iu;have k8:=sK r.writes KW;have k9:=sK r.qm KW;have k10:=sK r.parts ac8;have k11:=KX r.jP;have k12:(W2 r.iy).length=1:=rfl;unfold uB;rw [ae];repeat' split
 all_goals (try unfold tz);(try simp only [ae,List.length_nil]);omega
theorem aeN {m:gW} {B:Nat} (h:Wt.wt m≤B) (hB:B≤1048576):m.small∧m.lens≤2^62∧ ∀r∈m.ed,r.sz:=by
 have h':Wt.wt m.kind+Wt.wt m.fr+Wt.wt m.to+Wt.wt m.bU+Wt.wt m.range+Wt.wt m.jD+Wt.wt m.code+Wt.wt m.aw+Wt.wt m.prev+Wt.wt m.iy+Wt.wt m.n+Wt.wt m.mx+Wt.wt m.keys+Wt.wt m.seen+Wt.wt m.writes+Wt.wt m.parts+Wt.wt m.ranges+Wt.wt m.ed+Wt.wt m.state+1≤B:=h;obtain⟨a1,_⟩:=Sr (s:=m.state) (B:=B) zQ hB;have l1:=so (l:=m.keys) (B:=B) zQ;have l2:=so (l:=m.seen) (B:=B) zQ;have l3:=so (l:=m.writes) (B:=B) zQ;have l4:=so (l:=m.parts) (B:=B) zQ;have l5:=so (l:=m.ranges) (B:=B) zQ;have l6:=so (l:=m.ed) (B:=B) zQ;have hr: ∀r∈m.ed,Wt.wt r≤B:=fun r hr=>by
  have h1:Wt.wt m.ed=(m.ed.map Wt.wt).sum+1:=rfl;have:=Bh hr;omega
 refine⟨⟨by omega,by omega,fun r h=>(ZA (hr r h) hB).1,fun r h _=>?_,a1⟩,?_,fun r h=>(ZA (hr r h) hB).2⟩
 ·have:=ade r;have:=hr r h;omega
 ·unfold gW.lens;omega
theorem adf (o:mD):iT o.m.ed≤Wt.wt o:=by
 have h1:=Ss o.m.ed;have h2:Wt.wt o=Wt.wt o.kind+Wt.wt o.n+(Wt.wt o.m.kind+Wt.wt o.m.fr+Wt.wt o.m.to+Wt.wt o.m.bU+Wt.wt o.m.range+Wt.wt o.m.jD+Wt.wt o.m.code+Wt.wt o.m.aw+Wt.wt o.m.prev+Wt.wt o.m.iy+Wt.wt o.m.n+Wt.wt o.m.mx+Wt.wt o.m.keys+Wt.wt o.m.seen+Wt.wt o.m.writes+Wt.wt o.m.parts+Wt.wt o.m.ranges+((o.m.ed.map Wt.wt).sum+1)+Wt.wt o.m.state+1)+Wt.wt o.Qy+1:=rfl;omega
theorem Su: ∀l:List mD,(l.map fun o=>iT o.m.ed).sum≤(l.map Wt.wt).sum
 |[]=>by simp
 |o::l=>by
  have h1:=Su l;have h2:=adf o;simp only [bB,fS];omega
end Go.Proofs.YtfndblbeikocdaaGreat
namespace Go.Proofs.YtfndblbeikocdaaGreat
open Go.Proofs.Tryz renaming prog → pg
open Go.bu
set_option maxRecDepth 100000
set_option maxHeartbeats 1000000
set_option linter.unusedVariables false
set_option linter.unusedSimpArgs false
attribute [local irreducible] un jn aF aT ld1 ew st1 dt cB lS dV lT uN tG gq fW ad az aJ eW eV eU eC eF gE au fin aQ aM aH vS xt gp il pR uO xu xv xw xx gm im pS uP xy xz xA
theorem aeO {q:List qy} {bp high:aK} (h:vU q bp high) {j:Nat} {e:qy} (he:q[j]? =some e):(kB bp (q.take j)).cmp e.aw<0:=by
 obtain⟨hj,hej⟩:=List.getElem?_eq_some_iff.1 he;rcases dA j with rfl|h0
 ·exact(h.lo e (aA he)).1
 ·obtain⟨k,rfl⟩: ∃k,j=k+1:=⟨j-1,by omega⟩;have hk:k<q.length:=by omega
  rw [bc,List.getElem?_eq_getElem hk,Option.toList_some,vT,←hej];exact List.pairwise_iff_getElem.1 h.up k (k+1) hk hj zQ
theorem Nk {w:World} {X:XS} {vo:Value} {R M:Int} {ops:List mD} (h1:gO w X 39 vo mD.rd ops) (fB: ∀o∈ops,o.m.small∧o.m.lens≤2^62∧ ∀r∈o.m.ed,r.sz) (hbk:uz ops≤2^20):
  Ct pg 4 #[I R,I M,vo] w X nX fun v _ _=>v=B true:=by
 intro w0 hk;replace h1:=gO.mv h1 mD.mv hk.cL;have Zl:=h1.len;have Dq:Ft w0 nX w0 (aS w0) nX:=Ft.init fun _ h=>h.elim;have fR:gO w0 (out nX w0) 39 vo mD.rd ops:=gO.mv h1 mD.mv fun k ah _=>⟨⟨ah,fun h=>h.elim⟩,rfl⟩;apply Dt;unfold u7;refine dC yu kQ Dq.s.has fun w1 X1 aq=>?_;have de:=Dq.since aq;clear Dq aq;have hs:=de.s;repeat' first|refine aD ?_;intros
 refine ek Md kQ de.s.has ?_;rintro _ yM w2 X2 ⟨db,rfl,hD0⟩ nW kZ dI;have b8:=de.since dI;clear hs;have hs:=b8.s;repeat' first|refine aD ?_;intros
 refine ek (JX (ranges:=R) (room:=M) hD0 (fun k ah=>⟨kZ k ah,ah.2⟩) rfl rfl) kQ b8.s.has ?_;rintro v AU w3 X3 hq x6 tv dZ;have dz:=b8.since dZ;clear hs;have hs:=dz.s;have ahE: ∀(w X F),Ft w0 nX w X F→eC pg (AP nX w0 fun v w'=>(fun v x x_1=>v=B true) v w0 w') X w true 5 #[] fun x w X=>bu.fin (AP nX w0 fun v w'=>(fun v x x_1=>v=B true) v w0 w') X w x:=fun w X F hT=>by
  refine dC yu kQ hT.s.has fun w X hs=>?_;exact(hT.since hs).fin fun wa bC=>rfl
 rcases hq with⟨rfl,s9⟩|⟨nb,own,st,_,_,rfl,lA,hN,hI,Fu⟩
 ·repeat' first|refine bO ?_;intros|with_reducible apply dG
  refine dC yu kQ dz.s.has fun w4 X4 jX=>?_;have eY:=dz.since jX;clear hs;have hs:=eY.s;repeat' first|refine bO ?_;intros|((with_reducible refine R9 kQ ?_))
  exact eY.fin fun wa bC=>rfl
 have JN:=b8.s.kp.size;replace dz:Ft w0 nX w3 X3 (all own):=dz.more fun k ah=>.inr ⟨tv k (lA k ah),by have:=(lA k ah).1;omega⟩;clear b8 de hD0 lA Fu dI dZ kZ tv;repeat' first|refine bO ?_;intros
 refine iu (Q:=fun K=> ∀(b:Bool) w X,(b=true→ops.length≤200)→Ft w0 nX w X (all own)→cy w own nb st→K (B b) w X) ?_ fun K hK=>?_
 ·intro few w4 X4 abe eY hN4;clear hs dz hN;have hs:=eY.s;cases few
  ·repeat' first|refine aD ?_;intros
   refine dC yu kQ eY.s.has fun w5 X5 Fs=>?_;have fQ:=eY.since Fs;clear hs;have hs:=fQ.s;repeat' first|refine bO ?_;intros|((with_reducible refine R9 kQ ?_))
   exact fQ.fin fun wa bC=>rfl
  have hn:=abe rfl;repeat' first|refine aD ?_;intros
  refine A7 (fun n a _ _ w X=> ∃(i:Nat) (own:Nat→Nat) (st:dY),a=I i∧n=ops.length-i∧i≤ops.length∧Ft w0 nX w X (all own)∧cy w own nb st∧fq (12+uz (ops.take i)) st) ops.length
   ⟨0,own,st,rfl,rfl,Nat.zero_le _,eY,hN4,by simpa [uz] using hI⟩ ?_
  clear eY hN4 hI hs own st;rintro m a _ _ w5 X5 ⟨i,own,st,rfl,rfl,hi,fQ,hN5,Zq⟩;have hoi:=VK ops i;have h15:=gO.mv fR mD.mv fQ.s.mv;have hs:=fQ.s;rcases eb ops i with⟨cK,o,hx,hd⟩|⟨dU,hd⟩
  ·have h16:gO w5 (out nX w0) 39 vo mD.rd ops:=gO.mv fR mD.mv fun k ah _=>⟨ah,fQ.s.kp.block k ah⟩;have ahF:Mv (out nX w0) w5 X5 w5:=fun k ah _=>⟨fQ.s.sub k ah,rfl⟩;have Zn:=Zt hx;have YH:=VK ops (i+1);obtain⟨z1,z2,z3⟩:=fB o (aA hx);repeat' first|refine bO ?_;intros
   refine iu (Q:=fun K=> ∀(y z:Value) w X own st,Ft w0 nX w X (all own)→cy w own nb st→fq (12+uz (ops.take (i+1))) st→K y z w X) ?_ fun K2 GV=>?_
   ·rintro y z w6 X6 zj tU iC hN6 hI6;clear hs;have hs:=iC.s;repeat' first|refine aD ?_;intros
    exact yU (ops.length-(i+1)) zQ ⟨i+1,zj,tU,by simp,rfl,by omega,iC,hN6,hI6⟩
   ·have kG: ∀k,out nX w0 k→own k=0:=fun k ah=>by
     rcases dA (own k)with h9|h9
     ·exact h9
     ·exact absurd ah (fQ.no (by show own k≠0;omega))
    repeat' first|refine aD ?_;intros|refine dD ?_ ?_<;>intros|(with_reducible apply Zr);(case h=>exact h16);(case hr=>exact hx);(case hz=>rfl);(case ht=>kernel_rfl);(case hs=>kernel_rfl);intro b1 o1 vk vs vw vp vr vc vh vd vq _ _ _ _ _ _ _ _ _ hcS ahG;replace hcS:=hcS.mv ahF
    ·exact GV _ _ w5 X5 own st fQ hN5 (Zq.up zQ)
    refine dC (A5 hN5 fun k ah=>fQ.bg k ah) kQ fQ.s.has fun w6 X6 sj=>?_;have iC:=fQ.since sj;have hN6:=hN5.since sj fun k ah=>fQ.bg k ah;clear hs;have hs:=iC.s;repeat' first|refine aD ?_;intros
    refine ek (Dn hN6 Zq zQ fun k ah=>iC.bg k ah) kQ iC.s.has ?_;rintro wv VI w7 X7 ⟨es,L6,hee⟩ aen KP u6;have ny:=iC.since u6;have hN7:=hN6.since u6 fun k ah=>iC.bg k ah;have ahH: ∀k,made VI w7 k→own k=0:=fun k ah=>by
     rcases dA (own k)with h9|h9
     ·exact h9
     ·have:=iC.s.has k (iC.bg k (by show own k≠0;omega));have:=ah.1;omega
    refine dC (JM hN7 fun k ah=>ny.bg k ah) kQ ny.s.has fun w8 X8 GY=>?_;have pW:=ny.since GY;have VJ:=hN7.since GY fun k ah=>ny.bg k ah;clear hs;have hs:=pW.s;repeat' first|refine aD ?_;intros
    refine dC (CE (r:=o.m.range) VJ fun k ah=>pW.bg k ah) kQ pW.s.has fun w9 X9 J6=>?_;have th:=pW.since J6;have Zo:=VJ.since J6 fun k ah=>pW.bg k ah;have W3:=GY.trans J6;have Ze:dN w9 (made VI w7) VI.heap.size wv es:=L6.mv (W3.jB KP);have ahI:o.m.at w9 (out nX w0) vk vs vw vp vr vc vh vd:=ahG.m.mv fun k ah _=>⟨ah,((sj.trans u6).trans W3).kp.block k (fQ.s.sub k ah)⟩;clear hs;have hs:=th.s;repeat' first|refine aD ?_;intros
    refine th.call (CD (m:=o.m) Zo Zq (th.fx fun k ah=>ah) ahI (fun k ah=>⟨th.s.sub k ah,kG k ah⟩) z1 z2 z3 zQ) kQ (fun k ah=>ah) ?_;rintro _ waA wA XA ⟨rfl,W4,J7,hgA,hNA,Mg,hqA⟩ aiN aiO JY cA;replace JY:Ft w0 nX wA XA (all W4):=JY.less hgA;replace Mg:fq (12+uz (ops.take (i+1))) J7:=by rw [Zn,←Nat.add_assoc];exact Mg
    have hEA:dN wA XA VI.heap.size wv es:=Ze.mv fun k ah _=>⟨cA.sub k (W3.sub k (KP k ah)),cA.block k (W3.sub k (KP k ah)) fun hf=>hf (ahH k ah)⟩;clear hs;have hs:=JY.s
    skip
    refine ek (Dn hNA Mg zQ fun k ah=>JY.bg k ah) kQ JY.s.has ?_;rintro nv waB wB XB ⟨fs,hFB,hff⟩ aiP ahJ xH;have Pn:=JY.since xH;have hNB:=hNA.since xH fun k ah=>JY.bg k ah;have hEB:=hEA.mv xH.mv;replace hFB:=hFB.mv (Mv.sub ahJ);clear hs;have hs:=Pn.s
    skip
    refine dC (A5 hNB fun k ah=>Pn.bg k ah) kQ Pn.s.has fun wC XC VQ=>?_;have hTC:=Pn.since VQ;have hNC:=hNB.since VQ fun k ah=>Pn.bg k ah;have hEC:=hEB.mv VQ.mv;have hFC:=hFB.mv VQ.mv;clear hs;have hs:=hTC.s;repeat' first|refine aD ?_;intros
    refine fX (JZ J7.bp st.bp) kQ hTC.s.has fun wD XD hsD=>?_;rw [decide_eq_false hqA.bp];have ZD:=hTC.since hsD;have hND:=hNC.since hsD fun k ah=>hTC.bg k ah;have hED:=hEC.mv hsD.mv;have VR:=hFC.mv hsD.mv;have fC:fs.length=J7.q.length:=by have:=congrArg List.length hff;simpa using this
    have hlA:=Mg.len;clear hs;have hs:=ak.iS ZD.s.has;have Po:=VR.own.sl;repeat' first|refine aD ?_;intros
    refine gb (fun n a b w X=> ∃j:Nat,a=I j∧b=(kB J7.bp ((fs.map Ev.e).take j)).v∧n=fs.length-j∧j≤fs.length∧ak XD wD X w) fs.length ⟨0,rfl,rfl,rfl,Nat.zero_le _,hs⟩ ?_;clear hs Po;rintro n a b w X ⟨j,rfl,rfl,rfl,hj,hs⟩;have Po:=(VR.own.sl).mv hs.mv;rcases eb fs j with⟨abf,x,vP,qw⟩|⟨abg,qw⟩
    ·have hq1:(J7.q.map Ev.e)[j]? =some x.e:=by rw [←hff,dQ,vP];rfl
     have W5:(kB J7.bp ((J7.q.map Ev.e).take j)).cmp x.aw<0:=aeO Mg.nu hq1;rw [←hff] at W5;have bW:x.writes≠[]:=(Mg.nu.lo x.e (aA hq1)).2;have hwl:x.writes.length≠0:=fun h=>bW (List.eq_nil_of_length_eq_zero h);have hws:=((VR.ws x (aA vP)).sl).mv hs.mv;have hwn:=hws.gz;have owx:=hws.one;generalize hls:kB J7.bp ((fs.map Ev.e).take j)=ls at W5;repeat' first|refine bO ?_;intros
     refine fX (JZ ls x.aw) kQ hs.has fun wE XE hsE=>?_;rw [decide_eq_true W5];have dZ:=hs.trans hsE;have aiQ:=(VR.own.sl).mv dZ.mv;have aiR:=((VR.ws x (aA vP)).sl).mv dZ.mv;clear hs;have hs:=dZ;repeat' first|refine bO ?_;intros
     refine eM (fs.length-(j+1)) zQ ⟨j+1,by simp,?_,rfl,by omega,hs⟩;rw [bc,dQ,vP];simp [vT,Ev.e]
    ·clear Po;have VS:=ZD.since hs;have hNE:=hND.since hs fun k ah=>ZD.bg k ah;have hEE:=hED.mv hs.mv;have hFE:=VR.mv hs.mv;have Po:=hFE.own.sl;clear hs;have hs:=VS.s;by_cases h9:o.m.kind=9∧o.m.n≠lr st o.m.range
     ·have fV:=hqA.same h9.1 h9.2;subst fV;obtain⟨h91,h92⟩:=h9;repeat' first|refine bO ?_;intros|with_reducible apply dG
      refine ek (I3 (Y:=nX) hEE hFE) kQ VS.s.has ?_;rintro _ waF wF XF ⟨bb,rfl,Yz⟩ aiS aiT hsF;rw [Yz.2 (hee.trans hff.symm)];have ZE:=VS.since hsF;have hNF:=hNE.since hsF fun k ah=>VS.bg k ah;clear hs;have hs:=ZE.s;repeat' first|refine aD ?_;intros|with_reducible apply dG
      refine dC (JM hNF fun k ah=>ZE.bg k ah) kQ ZE.s.has fun wG XG hsG=>?_;have ZF:=ZE.since hsG;have hNG:=hNF.since hsG fun k ah=>ZE.bg k ah;clear hs;have hs:=ZF.s;repeat' first|refine bO ?_;intros|with_reducible apply dG
      refine dC (CE (r:=o.m.range) hNG fun k ah=>ZF.bg k ah) kQ ZF.s.has fun wH XH hsH=>?_;have ZG:=ZF.since hsH;have hNH:=hNG.since hsH fun k ah=>ZF.bg k ah;clear hs;have hs:=ZG.s;repeat' first|refine bO ?_;intros|with_reducible apply dG
      refine dC (A5 hNH fun k ah=>ZG.bg k ah) kQ ZG.s.has fun wI XI hsI=>?_;have hTI:=ZG.since hsI;have hNI:=hNH.since hsI fun k ah=>ZG.bg k ah;clear hs;have hs:=hTI.s;repeat' first|refine aD ?_;intros|(with_reducible refine WY _ _ ?_ ?_ ?_);(· kernel_rfl);all_goals intros|contradiction
      exact GV _ _ wI XI W4 _ hTI hNI Mg
     ·rcases Decidable.em (o.m.kind=9)with bC|bC
      ·have hn9:o.m.n=lr st o.m.range:=Decidable.not_not.1 fun h=>h9 ⟨bC,h⟩;repeat' first|refine bO ?_;intros|with_reducible apply dG
       exact GV _ _ w X W4 J7 VS hNE Mg
      ·repeat' first|refine bO ?_;intros|with_reducible apply dG
       exact GV _ _ w X W4 J7 VS hNE Mg
  ·have hs:=fQ.s;repeat' first|refine bO ?_;intros
   exact ahE _ _ _ fQ
 ·repeat' first|refine aD ?_;intros
  refine ek (Zs (gO.mv fR mD.mv dz.s.mv)) kQ dz.s.has ?_;rintro _ JI w4 X4 ⟨few,rfl,abe⟩ En CC jX;exact hK few w4 X4 abe (dz.since jX) (hN.since jX fun k ah=>dz.bg k ah)
end Go.Proofs.YtfndblbeikocdaaGreat
namespace Go.Proofs.YtfndblbeikocdaaGreat
open Go.Proofs.Tryz renaming prog → pg
open Go.bu Go.ChangeShapes Go.WideShapes Go.ChangeAt Go.RowKit
set_option maxRecDepth 100000
set_option maxHeartbeats 1000000
namespace feedAcks
theorem abh (H:Type) (enc:TypeId×Value→H) (W:World) (base:Nat) (args:Array Value) (ds gs:List (DataW H)) (before:List MemPlace)
  (Nl: ∀(j:Nat) t v,Tryz.f4.params[j]? =some t→args[j]? =some v→Value.okWide pg W .any base t v)
  (hW:DataW.Whole enc pg Tryz.f4.params.toList Rows.feedAcksSpec.vars false W args.toList ds gs before) (hk:Rows.uptoSmall H (ds++gs)=true):
  Calls pg 4 args W fun e W'=> ∃v,e= .returned v∧Rows.feedAcksSpec.post enc pg Tryz.f4 false true false false W args v W':=by
 have Ff:=hW;obtain⟨p,q,hA0,hV,rfl,hfz,lQ⟩:=hW;have hA:po enc pg W 0 (fun _=>true) true Tryz.f4.params.toList args.toList ds p:=hA0;rw [Tryz.params4] at hA Nl;obtain⟨v0,vs0,d0,ds0,p0,q0,af5,rfl,rfl,h0,r0⟩:=trodAll_cons hA;obtain⟨v1,vs1,d1,ds1,p1,q1,rfl,rfl,rfl,h1,r1⟩:=trodAll_cons r0;obtain⟨v2,vs2,d2,ds2,p2,q2,rfl,rfl,rfl,h2,r2⟩:=trodAll_cons r1;obtain⟨rfl,rfl,rfl⟩:=trodAll_nil r2;obtain rfl:args= #[v0,v1,v2]:=by cases args;simp_all
 obtain⟨rfl,rfl⟩:=trodVars_none hV;obtain⟨z1,rfl⟩:=okWide_int Tryz.underlying3 (Nl 0 3 v0 rfl rfl);obtain⟨z2,rfl⟩:=okWide_int Tryz.underlying3 (Nl 1 3 v1 rfl rfl);obtain⟨b2,n2,c2,rfl⟩:=okWide_slice Tryz.underlying22 (Nl 2 22 v2 rfl rfl);obtain⟨f2,hf2⟩:=h2;obtain⟨x2,⟨u2,hu2,r2'⟩,wt2⟩:=ac4 H enc W f2 _ _ hf2;obtain rfl:u2= .slice b2 n2 c2:=by simpa [Value.cells] using hu2.symm
 have hb:=bound hk;simp only [fh,Rows.uptoBulkAll] at hb Ff;have u9:(x2.map Wt.wt).sum+1≤Rows.uptoBulk d2:=wt2;refine(Nk (X:=aS W) (R:=z1) (M:=z2) r2' (fun o ho=>?_) (af (Su x2) zQ) W (Kp.refl _ _)).mono fun e W' ⟨v,he,ry,hq⟩=>?_
 ·have h3:=Bh ho;have h4:Wt.wt o.kind+Wt.wt o.n+Wt.wt o.m+Wt.wt o.Qy+1≤(x2.map Wt.wt).sum:=h3;exact aeN (B:=1048576) zQ (by decide)
 subst he;subst hq;exact⟨_,rfl,aba Sk Tryz.underlying4 rfl rfl kQ ⟨rfl,rfl,rfl⟩ Ff (by rw [fh] at*;exact hA0) ry⟩
theorem lifted (os:Os) (started:os.Started) (H:Type) (enc:TypeId×Value→H) (F:Stop.Interp):
  ReturnsInHanded {} Tryz.checked os 4 .any ((Rows.OpenSpec.upto Rows.feedAcksSpec).pre6 enc pg Tryz.f4 Rows.feedAcksUptoRow.domain false) (((Rows.OpenSpec.upto Rows.feedAcksSpec).at F).post enc pg Tryz.f4 false true false false):=by
 refine returnsInHanded_of_cond (C:=Tryz.checked) (s:=Rows.OpenSpec.upto Rows.feedAcksSpec) (k:=Rows.uptoSmall) rfl abb started kQ Tryz.func4
  (OpenSpec.witness (enc:=enc) (C:=Tryz.checked) (s:=Rows.OpenSpec.upto Rows.feedAcksSpec) (k:=Rows.uptoSmall) rfl false ⟨#[],#[I 0,I 0,.slice none 0 0],[]⟩ 8 kQ kQ kQ
   (x:=([.lit (.int .i64 0),.lit (.int .i64 0),.nil],[],[])) kQ rfl kQ) ?_
 intro W base args ds gs before Nl hW _ hk _;exact abh H enc W base args ds gs before Nl hW hk
theorem af6:((Rows.feedAcksUptoRow).unfollowed==pg.unfollowed 4)=true:=by kernel_rfl
theorem af7:((Rows.feedAcksUptoRow).recurses==pg.recurses 4)=true:=by kernel_rfl
theorem ZH:((Rows.feedAcksUptoRow).inPlace==pg.inPlace 4)=true:=by kernel_rfl
theorem adg:((Rows.feedAcksUptoRow).named==pg.varsNamed 4)=true:=by kernel_rfl
theorem Ut:mapsRowed pg=true:=by kernel_rfl
theorem adh:(pg.stops==[])=true:=by kernel_rfl
theorem adi:(pg.stopKnobs==[])=true:=by kernel_rfl
theorem adj:pg.stopsHeard=true:=by kernel_rfl
theorem af8:pg.mayEnter=true:=by kernel_rfl
theorem aeP:((Rows.feedAcksUptoRow).plainKeys==pg.plainKeys)=true:=by kernel_rfl
theorem abi:((Rows.feedAcksUptoRow).lifted==pg.liftsFinal)=true:=by kernel_rfl
theorem aeQ:(pg.make==some (Rows.feedAcksUptoRow).make)=true:=by kernel_rfl
theorem aeR:joinedFacts pg 4 Tryz.f4 (Rows.OpenSpec.upto Rows.feedAcksSpec).bare Rows.feedAcksUptoRow=true:=by
 unfold joinedFacts;simp only [aV]
 and_intros<;>first|with_reducible exact Sk|with_reducible exact af6|with_reducible exact af7|with_reducible exact ZH|with_reducible exact adg|with_reducible exact Ut|with_reducible exact adh|with_reducible exact adi|with_reducible exact adj|with_reducible exact af8|with_reducible exact aeP|with_reducible exact abi|with_reducible exact aeQ|kernel_rfl
theorem proved:Rows.FeedAcksUptoSaid:=
 OpenClaim.holds_of_cond 4 Tryz.f4 rfl rfl rfl rfl rfl rfl rfl ⟨rfl,rfl,rfl,rfl,rfl⟩ rfl rfl rfl rfl rfl kQ Tryz.func4 aeR
  (of_decide_eq_true kQ) (by unfold Func.isWrapper;first|(rw [if_pos (by decide+kernel)];kernel_rfl)|(rw [if_neg (by decide+kernel)];exact⟨rfl,rfl⟩))
  (fun os started H enc _ F=>lifted os started H enc F)
end feedAcks
end Go.Proofs.YtfndblbeikocdaaGreat
