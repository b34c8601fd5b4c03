/-
 racelaw16.ShardUnborn returns true, whatever it is called with, where what it reads is of bulk at most 1048576; the input reads as it did.
-/
import Derived.Test.YteomdhcbhmaiaaaGreatChecked
import Derived.OpenShut
import Derived.JoinedCond
import Derived.Test.YteomdhcbhmaiaaaGreatW13
open List renaming length_append → ah, append_nil → fY
open Go.DataW renaming TrodAll → my
open Nat renaming le_trans → af
open Bool renaming and_eq_true → aO
set_option linter.unusedVariables false
set_option linter.unusedSimpArgs false
namespace Go.Proofs.YteomdhcbhmaiaaaGreat
open Go.Proofs.Tryz renaming prog → pg
open Go.aX Go.ChangeShapes Go.WideShapes Go.ChangeAt Go.RowKit
set_option maxRecDepth 100000
set_option maxHeartbeats 1000000
section
variable {P : Program}
def Jo (P:Program) (ts:List TypeId):Bool:=ts.all fun t=>P.readableRec t&&decide (t<P.types.size)
theorem KI (hl:laidOutB P=true) {H:Type} {enc:TypeId×Value→H} {W W':World} (hb:Below W.heap.size W W'): ∀{ts:List TypeId} {vs:List Value} {ds:List (DataW H)} {ps:List MemPlace},Jo P ts=true→(∀x∈ps,x.block<W.heap.size)→
  my enc P W 0 (fun _=>true) true ts vs ds ps→my enc P W' 0 (fun b=>decide (b<W.heap.size)) true ts vs ds ps
 |[],[],[],_,_,_,h=>h
 |t::ts,v::vs,d::ds,ps,hr,dA,⟨p,q,h1,h2,F9⟩=>by
  unfold Jo at hr;simp only [List.all_cons,aO,decide_eq_true_eq] at hr;subst F9;exact⟨p,q,Below.trod hl hr.1.1 hr.1.2 h1 hb fun x hx=>dA x (List.mem_append_left _ hx),KI hl hb hr.2 (fun x hx=>dA x (List.mem_append_right _ hx)) h2,rfl⟩
 |[],[],_::_,_,_,_,h=>h.elim
 |[],_::_,_,_,_,_,h=>h.elim
 |_::_,[],_,_,_,_,h=>h.elim
 |_::_,_::_,[],_,_,_,h=>h.elim
theorem Ve (hl:laidOutB P=true) {tb:TypeId} (hub:P.underlying tb=some .bool) {H:Type} {enc:TypeId×Value→H} {f:Func} {s:ChangeSpec} {W W':World} {args:Array Value} {ds:List (DataW H)} {before:List MemPlace} (hv:s.vars=[]) (hrt:f.resultTypes= #[tb]) (hc:Jo P f.params.toList=true)
  (hs:(s.fn H (ds++[])).results=[.lit (.bool true)]∧(s.fn H (ds++[])).args=ds∧(s.fn H (ds++[])).vars=[])
  (hW:DataW.Whole enc P f.params.toList s.vars false W args.toList ds [] before) (hA:my enc P W 0 (fun _=>true) true f.params.toList args.toList ds before) (hx:Ext W W'):
  s.post enc P f false true false false W args (.bool true) W':=by
 have hb:=hx.below;refine⟨ds,[],before,[],before,[],hW,?_,?_,?_,Below.frame hb _,fun h=>by cases h⟩
 ·rw [hrt,hs.1];exact trodAll_cons_mk (shut_bool hub _) trodAll_mk0
 ·rw [hs.2.1];exact KI hl hb hc (fun x hx=>hW.lt x hx) hA
 ·rw [hs.2.2,hv];rfl
end
theorem Vf:ownKnob pg.godebug=none:=by kernel_rfl
theorem NC:laidOutB pg=true:=by kernel_rfl
theorem bound {H:Type} {l:List (DataW H)} (hk:Rows.uptoSmall H l=true):Rows.uptoBulkAll l≤1048576:=of_decide_eq_true hk
theorem XW:jt 48 (BI 29 Rec.rd):=kS kQ kQ (by decide) aal
theorem XX:jt 47 (BI 4 (fun _ _ cs (x:ic)=>cs=x.l)):=kS kQ kQ (by decide) TD
theorem Vg:jt 36 W0:=TB kQ
instance:Wt jL:=⟨fun x=>Wt.wt x.key+Wt.wt x.val+Wt.wt x.bb+1,fun _=>by omega⟩
theorem XY:jt 163 (fun _ _ cs (x:jL)=>cs=x.l):=fun H enc W fuel cs x h=>by
 obtain⟨n,ds,hx,hf⟩:=gk [9,69,27] kQ h;obtain⟨_,_,_,_,a0,rfl,rfl,rfl,w0,hf⟩:=bD zB hf;obtain⟨_,_,_,_,a1,rfl,rfl,rfl,w1,hf⟩:=bD Ik hf;obtain⟨_,_,_,_,a2,rfl,rfl,rfl,w2,rfl,rfl⟩:=bD nJ hf;refine⟨⟨a0,a1,a2⟩,rfl,?_⟩;rw [hx];simp only [Rows.uptoBulk,Rows.uptoBulkAll,Wt.wt] at*;omega
theorem Vh:jt 44 (BI 7 (fun _ _ cs (x:jL)=>cs=x.l)):=kS kQ kQ (by decide) XY
instance:Wt fq:=⟨fun x=>Wt.wt x.kind+Wt.wt x.fr+Wt.wt x.to+Wt.wt x.dq+Wt.wt x.range+Wt.wt x.gw+Wt.wt x.code+Wt.wt x.bb+Wt.wt x.prev+Wt.wt x.iq+Wt.wt x.n+Wt.wt x.mx+Wt.wt x.keys+Wt.wt x.seen+Wt.wt x.writes+Wt.wt x.parts+Wt.wt x.ranges+Wt.wt x.fE+Wt.wt x.state+1,fun _=>by omega⟩
theorem aam:jt 50 fq.rd:=fun H enc W fuel cs x h=>by
 obtain⟨n,ds,hx,hf⟩:=gk [3,3,3,42,3,3,36,27,27,4,3,3,43,44,45,46,47,48,31] kQ h;obtain⟨_,_,_,_,a0,rfl,rfl,rfl,w0,hf⟩:=bD jk hf;obtain⟨_,_,_,_,a1,rfl,rfl,rfl,w1,hf⟩:=bD jk hf;obtain⟨_,_,_,_,a2,rfl,rfl,rfl,w2,hf⟩:=bD jk hf;obtain⟨_,_,_,_,a3,rfl,rfl,rfl,w3,hf⟩:=bD NA hf;obtain⟨_,_,_,_,a4,rfl,rfl,rfl,w4,hf⟩:=bD jk hf;obtain⟨_,_,_,_,a5,rfl,rfl,rfl,w5,hf⟩:=bD jk hf;obtain⟨_,_,_,_,a6,rfl,rfl,rfl,w6,hf⟩:=bD Vg hf;obtain⟨_,_,_,_,a7,rfl,rfl,rfl,w7,hf⟩:=bD nJ hf;obtain⟨_,_,_,_,a8,rfl,rfl,rfl,w8,hf⟩:=bD nJ hf;obtain⟨_,_,_,_,a9,rfl,rfl,rfl,w9,hf⟩:=bD QK hf;obtain⟨_,_,_,_,a10,rfl,rfl,rfl,Np,hf⟩:=bD jk hf;obtain⟨_,_,_,_,a11,rfl,rfl,rfl,w11,hf⟩:=bD jk hf;obtain⟨_,_,_,_,a12,rfl,rfl,⟨v12,rfl,r12⟩,w12,hf⟩:=bD RE hf;obtain⟨_,_,_,_,a13,rfl,rfl,⟨v13,rfl,r13⟩,w13,hf⟩:=bD Vh hf;obtain⟨_,_,_,_,a14,rfl,rfl,⟨v14,rfl,r14⟩,w14,hf⟩:=bD NB hf;obtain⟨_,_,_,_,a15,rfl,rfl,⟨v15,rfl,r15⟩,w15,hf⟩:=bD RF hf;obtain⟨_,_,_,_,a16,rfl,rfl,⟨v16,rfl,r16⟩,w16,hf⟩:=bD XX hf;obtain⟨_,_,_,_,a17,rfl,rfl,⟨v17,rfl,r17⟩,w17,hf⟩:=bD XW hf;obtain⟨_,_,_,_,a18,rfl,rfl,⟨vh,vp,rfl,rh,rp⟩,w18,rfl,rfl⟩:=bD AE hf;refine⟨⟨a0,a1,a2,a3,a4,a5,a6,a7,a8,a9,a10,a11,a12,a13,a14,a15,a16,a17,a18⟩,⟨v12,v13,v14,v15,v16,v17,vh,vp,rfl,⟨r12.pK,r13.pK,r14.pK,r15.pK,r16.pK,r17,rh,rp⟩⟩,?_⟩;rw [hx];simp only [Rows.uptoBulk,Rows.uptoBulkAll,Wt.wt] at*;omega
instance:Wt jA:=⟨fun x=>Wt.wt x.kind+Wt.wt x.fP+Wt.wt x.n+Wt.wt x.m+Wt.wt x.s+Wt.wt x.jI+Wt.wt x.Ry+1,fun _=>by omega⟩
theorem XZ:jt 52 jA.rd:=fun H enc W fuel cs x h=>by
 obtain⟨n,ds,hx,hf⟩:=gk [3,3,3,50,31,23,46] kQ h;obtain⟨_,_,_,_,a0,rfl,rfl,rfl,w0,hf⟩:=bD jk hf;obtain⟨_,_,_,_,a1,rfl,rfl,rfl,w1,hf⟩:=bD jk hf;obtain⟨_,_,_,_,a2,rfl,rfl,rfl,w2,hf⟩:=bD jk hf;obtain⟨_,_,_,_,a3,rfl,rfl,⟨vk,vs,vw,vp,vr,vc,vh,vd,rfl,r3⟩,w3,hf⟩:=bD aam hf;obtain⟨_,_,_,_,a4,rfl,rfl,⟨uh,up,rfl,rh,rp⟩,w4,hf⟩:=bD AE hf;obtain⟨_,_,_,_,a5,rfl,rfl,rfl,w5,hf⟩:=bD xI hf;obtain⟨_,_,_,_,a6,rfl,rfl,⟨v6,rfl,r6⟩,w6,rfl,rfl⟩:=bD RF hf;refine⟨⟨a0,a1,a2,a3,a4,a5,a6⟩,⟨vk,vs,vw,vp,vr,vc,vh,vd,uh,up,v6,rfl,⟨r3,rh,rp,r6.pK⟩⟩,?_⟩;rw [hx];simp only [Rows.uptoBulk,Rows.uptoBulkAll,Wt.wt] at*;omega
theorem Vi:jt 22 (BI 53 jA.rd):=kS kQ kQ (by decide) XZ
theorem mX {α:Type} [Wt α] {l:List α} {B:Nat} (h:Wt.wt l≤B):l.length≤B:=by
 have h':(l.map Wt.wt).sum+1≤B:=h;have:=TA l;omega
theorem QL {s:BA} {B:Nat} (h:Wt.wt s≤B):s.size≤B:=by
 have:s.size+1≤B:=h;omega
theorem aan {x:KV} {B:Nat} (h:Wt.wt x≤B):x.key.size≤B:=by
 have:(x.key.size+1)+(Wt.wt x.val.kind+Wt.wt x.val.num+(x.val.text.size+1)+1)+1≤B:=h;omega
theorem ND {l:List KV} {B:Nat} (h:Wt.wt l≤B) (hB:B≤2^40): ∀x∈l,x.key.size≤2^40:=fun x hx=>by
 have h':(l.map Wt.wt).sum+1≤B:=h;have:=aan (B:=B) (af (xH hx) zQ);omega
theorem NF {l:List BA} {B:Nat} (h:Wt.wt l≤B) (hB:B≤2^40): ∀k∈l,k.size≤2^40:=fun x hx=>by
 have h':(l.map Wt.wt).sum+1≤B:=h;have:=QL (B:=B) (af (xH hx) zQ);omega
theorem Ya {l:List cx} {B:Nat} (h:Wt.wt l≤B) (hB:B≤2^40):zv l∧LO l:=by
 have h':(l.map Wt.wt).sum+1≤B:=h;have key: ∀p∈l,Wt.wt p.reads≤B∧Wt.wt p.writes≤B:=fun p hp=>by
  have h1:Wt.wt p.dq+Wt.wt p.bb+Wt.wt p.reads+Wt.wt p.writes+1≤(l.map Wt.wt).sum:=xH hp;omega
 refine⟨fun p hp=>?_,fun p hp=>⟨NF (key p hp).1 hB,ND (key p hp).2 hB⟩⟩;have h1:=mX (key p hp).1;have h2:=mX (key p hp).2;omega
theorem Yb {l:List fk} {B:Nat} (h:Wt.wt l≤B) (hB:B≤2^40):zu l∧LN l:=by
 have h':(l.map Wt.wt).sum+1≤B:=h;have key: ∀p∈l,Wt.wt p.key≤B∧Wt.wt p.eZ≤B:=fun p hp=>by
  have h1:Wt.wt p.key+Wt.wt p.eZ+1≤(l.map Wt.wt).sum:=xH hp;omega
 exact⟨fun p hp=>af (mX (key p hp).2) hB,fun p hp=>af (QL (key p hp).1) hB⟩
theorem GM {s:State} {B:Nat} (h:Wt.wt s≤B) (hB:B≤2^40):s.small:=by
 have h':Wt.wt s.range+Wt.wt s.floor+Wt.wt s.closed+Wt.wt s.dM+Wt.wt s.dh+1≤B:=h;obtain⟨a2,a3⟩:=Yb (l:=s.dM) (B:=B) zQ hB;obtain⟨b2,b3⟩:=Ya (l:=s.dh) (B:=B) zQ hB;exact⟨a2,b2,a3,b3⟩
theorem aao {r:Rec} {B:Nat} (h:Wt.wt r≤B) (hB:B≤2^40):r.small:=by
 have h':Wt.wt r.kind+Wt.wt r.dq+Wt.wt r.bb+Wt.wt r.prev+Wt.wt r.iq+Wt.wt r.n+Wt.wt r.jI+Wt.wt r.reads+Wt.wt r.writes+Wt.wt r.parts+Wt.wt r.oM+Wt.wt r.state+1≤B:=h;have h1:=mX (l:=r.reads) (B:=B) zQ;have h2:=mX (l:=r.writes) (B:=B) zQ;exact⟨by omega,by omega,NF (l:=r.reads) (B:=B) zQ hB,ND (l:=r.writes) (B:=B) zQ hB,GM (s:=r.state) (B:=B) zQ hB⟩
theorem EF (s:BA):(oG s).length≤120*Wt.wt s:=by
 have h1:=rG s;have h2:=ef s.size
 show _≤120*(s.size+1)
 omega
theorem GN (x:KV):(lj x).length≤120*Wt.wt x:=by
 have h1:=EF x.key;have h2:=NG (v:=x.val);have h3:Wt.wt x=Wt.wt x.key+Wt.wt x.val+1:=rfl;unfold lj;rw [ah];omega
theorem pL {α:Type} [Wt α] {f:α→List Nat} (l:List α) (h: ∀x,(f x).length≤120*Wt.wt x):(ir f l).length≤120*Wt.wt l:=by
 have h1:(l.map f).flatten.length≤120*(l.map Wt.wt).sum:=by
  induction l with
  |nil=>simp
  |cons x l ih=>have:=h x;simp only [List.map_cons,List.flatten_cons,ah,List.sum_cons];omega
 have h2:=ef (l.length:Int);have h3:Wt.wt l=(l.map Wt.wt).sum+1:=rfl;unfold ir;rw [ah];omega
theorem Yc (n:Int):(encI n).length≤120*Wt.wt n:=by
 have:=ef n
 show _≤120*1
 omega
theorem TE (v:fJ):(qn v).length≤120*Wt.wt v:=by
 have h1:=ny v.bb;have h2:=NG (v:=v.val);have h3:Wt.wt v=4+Wt.wt v.val+1:=rfl;unfold qn;rw [ah];omega
theorem Yd (h:fk):(uD h).length≤120*Wt.wt h:=by
 have h1:=EF h.key;have h2:=pL h.eZ TE;have h3:Wt.wt h=Wt.wt h.key+Wt.wt h.eZ+1:=rfl;unfold uD;rw [ah];omega
theorem Ye (p:cx):(qd p).length≤120*Wt.wt p:=by
 have h1:=KJ p.dq;have h2:=ny p.bb;have h3:=pL p.reads EF;have h4:=pL p.writes GN;have h5:Wt.wt p=Nz p.dq+4+Wt.wt p.reads+Wt.wt p.writes+1:=rfl;have h6:=Jm p.dq;unfold qd;simp only [ah];omega
theorem QM (s:State):(encS s).length≤120*Wt.wt s:=by
 have h1:=ef s.range.id;have h2:=ef s.range.gw;have h3:=ny s.floor;have h4:=ny s.closed;have h5:=pL s.dM Yd;have h6:=pL s.dh Ye;have h7:Wt.wt s=Wt.wt s.range+4+4+Wt.wt s.dM+Wt.wt s.dh+1:=rfl;unfold encS Il;simp only [ah,GO];omega
theorem Yf (r:Rec):(fw r).length≤120*Wt.wt r:=by
 have h':Wt.wt r=Wt.wt r.kind+Nz r.dq+4+4+Wt.wt r.iq+Wt.wt r.n+Wt.wt r.jI+Wt.wt r.reads+Wt.wt r.writes+Wt.wt r.parts+Wt.wt r.oM+Wt.wt r.state+1:=rfl;have k0:=Jm r.dq;have k1:=ef r.kind;have k2:=QM r.state;have k3:=ef r.n;have k4:=KJ r.dq;have k5:=ny r.bb;have k6:=ny r.prev;have k7:=pL r.reads EF;have k8:=pL r.writes GN;have k9:=pL r.oM GN;have k10:=pL r.parts Yc;have k11:=GO r.jI;have k12:(RG r.iq).length=1:=rfl;unfold fw;rw [ah];repeat' split
 all_goals (try unfold qd);(try simp only [ah,List.length_nil]);omega
theorem aap {m:fq} {B:Nat} (h:Wt.wt m≤B) (hB:B≤1048576):m.small∧m.lens≤2^62:=by
 have h':Wt.wt m.kind+Wt.wt m.fr+Wt.wt m.to+Wt.wt m.dq+Wt.wt m.range+Wt.wt m.gw+Wt.wt m.code+Wt.wt m.bb+Wt.wt m.prev+Wt.wt m.iq+Wt.wt m.n+Wt.wt m.mx+Wt.wt m.keys+Wt.wt m.seen+Wt.wt m.writes+Wt.wt m.parts+Wt.wt m.ranges+Wt.wt m.fE+Wt.wt m.state+1≤B:=h;have a1:=GM (s:=m.state) (B:=B) zQ zQ;have l1:=mX (l:=m.keys) (B:=B) zQ;have l2:=mX (l:=m.seen) (B:=B) zQ;have l3:=mX (l:=m.writes) (B:=B) zQ;have l4:=mX (l:=m.parts) (B:=B) zQ;have l5:=mX (l:=m.ranges) (B:=B) zQ;have l6:=mX (l:=m.fE) (B:=B) zQ;have hr: ∀r∈m.fE,Wt.wt r≤B:=fun r hr=>by
  have h1:Wt.wt m.fE=(m.fE.map Wt.wt).sum+1:=rfl;have:=xH hr;omega
 refine⟨⟨by omega,by omega,fun r h=>aao (hr r h) zQ,fun r h _=>?_,a1⟩,?_⟩
 ·have:=Yf r;have:=hr r h;omega
 ·unfold fq.lens;omega
namespace shardUnborn
theorem Vj (H:Type) (enc:TypeId×Value→H) (W:World) (base:Nat) (args:Array Value) (ds gs:List (DataW H)) (before:List MemPlace)
  (GP: ∀(j:Nat) t v,Tryz.f3.params[j]? =some t→args[j]? =some v→Value.okWide pg W .any base t v)
  (hW:DataW.Whole enc pg Tryz.f3.params.toList Rows.shardUnbornSpec.vars false W args.toList ds gs before) (hk:Rows.uptoSmall H (ds++gs)=true):
  Calls pg 3 args W fun e W'=> ∃v,e= .returned v∧Rows.shardUnbornSpec.post enc pg Tryz.f3 false true false false W args v W':=by
 have hW':=hW;obtain⟨p,q,HP,hV,rfl,hfz,su⟩:=hW;have hA:my enc pg W 0 (fun _=>true) true Tryz.f3.params.toList args.toList ds p:=HP;rw [Tryz.params3] at hA GP;obtain⟨v0,vs0,d0,ds0,p0,q0,W1,rfl,rfl,h0,r0⟩:=trodAll_cons hA;obtain⟨v1,vs1,d1,ds1,p1,q1,rfl,rfl,rfl,h1,r1⟩:=trodAll_cons r0;obtain⟨v2,vs2,d2,ds2,p2,q2,rfl,rfl,rfl,h2,r2⟩:=trodAll_cons r1;obtain⟨rfl,rfl,rfl⟩:=trodAll_nil r2;obtain rfl:args= #[v0,v1,v2]:=by cases args;simp_all
 obtain⟨rfl,rfl⟩:=trodVars_none hV;obtain⟨b0,n0,c0,rfl⟩:=okWide_slice Tryz.underlying22 (GP 0 22 v0 rfl rfl);obtain⟨CI,rfl,adW⟩:=okWide_struct Tryz.underlying31 (GP 1 31 v1 rfl rfl);obtain⟨z2,rfl⟩:=okWide_int Tryz.underlying3 (GP 2 3 v2 rfl rfl);obtain⟨f0,hf0⟩:=h0;obtain⟨x0,⟨u0,hu0,r0'⟩,wt0⟩:=Vi H enc W f0 _ _ hf0;obtain rfl:u0= .slice b0 n0 c0:=by simpa [Value.cells] using hu0.symm
 obtain⟨f1,KD⟩:=h1;obtain⟨x1,⟨vh,vp,hu1,rh,rp⟩,wt1⟩:=AE H enc W f1 _ _ KD;obtain rfl:CI=(x1.l vh vp).toArray:=by
  have acY:CI.toList=x1.l vh vp:=hu1;rw [←acY]
 have hb:=bound hk;simp only [fY,Rows.uptoBulkAll] at hb hW';have hw0:(x0.map Wt.wt).sum+1≤Rows.uptoBulk d0:=wt0;have Ga:Wt.wt (iL x1)≤Rows.uptoBulk d1:=wt1;have fv:Wt.wt (iL x1)≤1048576:=by omega
 have hse:Wt.wt x1.range+Wt.wt x1.floor+Wt.wt x1.closed+Wt.wt x1.dM+Wt.wt x1.dh+1≤1048576:=fv;have lz:=mX (l:=x1.dM) (B:=1048576) zQ;have mc:=mX (l:=x1.dh) (B:=1048576) zQ;have FR:(fw (jK (iL x1))).length≤2^33:=by
  have e:fw (jK (iL x1))=encI 1++encS (iL x1):=by simp [fw,jK]
  have e1:=ef 1;have e2:=QM (iL x1);rw [e,ah];omega
 refine(E9 (X:=aS W) (st:=x1) (vh:=vh) (vp:=vp) (fP:=z2) r0' (fun o ho=>?_) rh rp (GM fv (by decide)) FR zQ zQ W (Kp.refl _ _)).mono fun e W' ⟨v,he,W2,hq⟩=>?_
 ·have h3:=xH ho;have h4:Wt.wt o.kind+Wt.wt o.fP+Wt.wt o.n+Wt.wt (Ty o.m)+Wt.wt o.s+Wt.wt o.jI+Wt.wt o.Ry+1≤(x0.map Wt.wt).sum:=h3;exact aap (B:=1048576) zQ (by decide)
 subst he;subst hq;exact⟨_,rfl,Ve NC Tryz.underlying4 rfl rfl kQ ⟨rfl,rfl,rfl⟩ hW' (by rw [fY] at*;exact HP) W2⟩
theorem lifted (os:Os) (started:os.Started) (H:Type) (enc:TypeId×Value→H) (F:Stop.Interp):
  ReturnsInHanded {} Tryz.checked os 3 .any ((Rows.OpenSpec.upto Rows.shardUnbornSpec).pre6 enc pg Tryz.f3 Rows.shardUnbornUptoRow.domain false) (((Rows.OpenSpec.upto Rows.shardUnbornSpec).at F).post enc pg Tryz.f3 false true false false):=by
 refine returnsInHanded_of_cond (C:=Tryz.checked) (s:=Rows.OpenSpec.upto Rows.shardUnbornSpec) (k:=Rows.uptoSmall) rfl Vf started kQ Tryz.func3
  (OpenSpec.witness (enc:=enc) (C:=Tryz.checked) (s:=Rows.OpenSpec.upto Rows.shardUnbornSpec) (k:=Rows.uptoSmall) rfl false ⟨#[],#[.slice none 0 0,.agg #[I 0,I 0,.float .f64 0,.float .f64 0,I 0,I 0,I 0,I 0,I 0,I 0,.slice none 0 0,.slice none 0 0],I 0],[]⟩ 8 kQ kQ kQ
   (x:=([.nil,.agg [.agg [.lit (.int .i64 0),.lit (.int .i64 0),.lit (.float .f64 0),.lit (.float .f64 0)],.agg [.lit (.int .i64 0),.lit (.int .i64 0),.lit (.int .i64 0)],.agg [.lit (.int .i64 0),.lit (.int .i64 0),.lit (.int .i64 0)],.nil,.nil],.lit (.int .i64 0)],[],[])) kQ rfl kQ) ?_
 intro W base args ds gs before GP hW _ hk _;exact Vj H enc W base args ds gs before GP hW hk
theorem abJ:((Rows.shardUnbornUptoRow).unfollowed==pg.unfollowed 3)=true:=by kernel_rfl
theorem abK:((Rows.shardUnbornUptoRow).recurses==pg.recurses 3)=true:=by kernel_rfl
theorem TF:((Rows.shardUnbornUptoRow).inPlace==pg.inPlace 3)=true:=by kernel_rfl
theorem Yg:((Rows.shardUnbornUptoRow).named==pg.varsNamed 3)=true:=by kernel_rfl
theorem PN:mapsRowed pg=true:=by kernel_rfl
theorem Yh:(pg.stops==[])=true:=by kernel_rfl
theorem Yi:(pg.stopKnobs==[])=true:=by kernel_rfl
theorem Yj:pg.stopsHeard=true:=by kernel_rfl
theorem abL:pg.mayEnter=true:=by kernel_rfl
theorem aaq:((Rows.shardUnbornUptoRow).plainKeys==pg.plainKeys)=true:=by kernel_rfl
theorem Vk:((Rows.shardUnbornUptoRow).lifted==pg.liftsFinal)=true:=by kernel_rfl
theorem aar:(pg.make==some (Rows.shardUnbornUptoRow).make)=true:=by kernel_rfl
theorem aas:joinedFacts pg 3 Tryz.f3 (Rows.OpenSpec.upto Rows.shardUnbornSpec).bare Rows.shardUnbornUptoRow=true:=by
 unfold joinedFacts;simp only [aO]
 and_intros<;>first|with_reducible exact NC|with_reducible exact abJ|with_reducible exact abK|with_reducible exact TF|with_reducible exact Yg|with_reducible exact PN|with_reducible exact Yh|with_reducible exact Yi|with_reducible exact Yj|with_reducible exact abL|with_reducible exact aaq|with_reducible exact Vk|with_reducible exact aar|kernel_rfl
theorem proved:Rows.ShardUnbornUptoSaid:=
 OpenClaim.holds_of_cond 3 Tryz.f3 rfl rfl rfl rfl rfl rfl rfl ⟨rfl,rfl,rfl,rfl,rfl⟩ rfl rfl rfl rfl rfl kQ Tryz.func3 aas
  (of_decide_eq_true kQ) (by unfold Func.isWrapper;first|(rw [if_pos (by decide+kernel)];kernel_rfl)|(rw [if_neg (by decide+kernel)];exact⟨rfl,rfl⟩))
  (fun os started H enc _ F=>lifted os started H enc F)
end shardUnborn
end Go.Proofs.YteomdhcbhmaiaaaGreat
