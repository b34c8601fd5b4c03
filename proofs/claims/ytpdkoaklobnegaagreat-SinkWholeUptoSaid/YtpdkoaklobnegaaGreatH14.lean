/-
 Part 14 of the proof: what the last text leans on.
-/
import Derived.Test.YtpdkoaklobnegaaGreatChecked
import Derived.OpenShut
import Derived.JoinedCond
import Derived.Test.YtpdkoaklobnegaaGreatH13
open List renaming length_map → aG, length_append → ae, length_drop → bU, mem_of_getElem? → aX, length_take → bp, mem_of_mem_drop → iP, map_append → aT, mem_singleton → aV, map_cons → bc, map_drop → nB, length_cons → aY, mem_cons_of_mem → aZ, map_take → qj, drop_drop → fu, getElem?_eq_getElem → bB, append_nil → bZ, take_length → dE, getElem?_map → cr, foldl_cons → ib, cons_append → dX, map_map → eP, append_assoc → au, nil_append → cT, mem_append_left → bR, mem_append_right → dH, getElem?_drop → gV, drop_of_length_le → gL, take_add_one → ca, cons_lt_cons_iff → s8, append_left_lt → ux, map_congr_left → ga, pairwise_map → ij, extract_eq_take_drop → qe, take_of_length_le → bN
open Option.some renaming inj → bC, injEq → aB
open Nat renaming zero_le → aN, le_refl → bf, le_trans → ah, lt_of_lt_of_le → aK, pow_succ → jg, mul_one → xz, min_eq_left → sI, lt_of_not_le → xA, min_le_right → xB
open Go.Instr renaming sliceAt → cp
open Bool renaming false_ne_true → fe, true_and → iM, false_and → tK
open UInt8 renaming ofNat → kr, toNat_ofNat' → pr
open Go.DataW renaming TrodAll → uI
open Option renaming isSome_some → pS, map_some → bM
open ByteArray renaming size_extract → nu, data_append → s9, ext → nA, data_extract → se
open Array renaming toList_append → jb, toList_extract → tL
set_option linter.unusedVariables false
set_option linter.unusedSimpArgs false
namespace Go.Proofs.YtpdkoaklobnegaaGreat
open Go.Proofs.Tryz renaming prog → pg
open Go.dL Go.ChangeShapes Go.WideShapes Go.ChangeAt Go.RowKit
set_option maxRecDepth 100000
set_option maxHeartbeats 1000000
section
variable {P : Program}
def QW (P:Program) (ts:List TypeId):Bool:=ts.all fun t=>P.readableRec t&&decide (t<P.types.size)
theorem SD (hl:laidOutB P=true) {H:Type} {enc:TypeId×Value→H} {W W':World} (hb:Below W.heap.size W W'): ∀{ts:List TypeId} {vs:List Value} {ds:List (DataW H)} {ps:List MemPlace},QW P ts=true→(∀x∈ps,x.block<W.heap.size)→
  uI enc P W 0 (fun _=>true) true ts vs ds ps→uI enc P W' 0 (fun b=>decide (b<W.heap.size)) true ts vs ds ps
 |[],[],[],_,_,_,h=>h
 |t::ts,v::vs,d::ds,ps,hr,cH,⟨p,q,h1,h2,hps⟩=>by
  unfold QW at hr;simp only [List.all_cons,Bool.and_eq_true,decide_eq_true_eq] at hr;subst hps;exact⟨p,q,Below.trod hl hr.1.1 hr.1.2 h1 hb fun x hx=>cH x (bR _ hx),SD hl hb hr.2 (fun x hx=>cH x (dH _ hx)) h2,rfl⟩
 |[],[],_::_,_,_,_,h=>h.elim
 |[],_::_,_,_,_,_,h=>h.elim
 |_::_,[],_,_,_,_,h=>h.elim
 |_::_,_::_,[],_,_,_,h=>h.elim
theorem aee (hl:laidOutB P=true) {tb:TypeId} (hub:P.underlying tb=some .bool) {H:Type} {enc:TypeId×Value→H} {f:Func} {s:ChangeSpec} {W W':World} {args:Array Value} {ds:List (DataW H)} {before:List MemPlace} (hv:s.vars=[]) (hrt:f.resultTypes= #[tb]) (hc:QW P f.params.toList=true)
  (hs:(s.fn H (ds++[])).results=[.lit (.bool true)]∧(s.fn H (ds++[])).args=ds∧(s.fn H (ds++[])).vars=[])
  (hW:DataW.Whole enc P f.params.toList s.vars false W args.toList ds [] before) (hA:uI enc P W 0 (fun _=>true) true f.params.toList args.toList ds before) (hx:Ext W W'):
  s.post enc P f false true false false W args (.bool true) W':=by
 have hb:=hx.below;refine⟨ds,[],before,[],before,[],hW,?_,?_,?_,Below.frame hb _,fun h=>by cases h⟩
 ·rw [hrt,hs.1];exact trodAll_cons_mk (shut_bool hub _) trodAll_mk0
 ·rw [hs.2.1];exact SD hl hb hc (fun x hx=>hW.lt x hx) hA
 ·rw [hs.2.2,hv];rfl
end
theorem aef:ownKnob pg.godebug=none:=by kernel_rfl
theorem VB:laidOutB pg=true:=by kernel_rfl
theorem bound {H:Type} {l:List (DataW H)} (hk:Rows.uptoSmall H l=true):Rows.uptoBulkAll l≤1048576:=of_decide_eq_true hk
theorem agt:l8 39 (HX 29 Rec.rd):=oL kQ kQ (by decide) ahA
theorem agu:l8 38 (HX 4 (fun _ _ cs (x:l9)=>cs=x.l)):=oL kQ kQ (by decide) acN
theorem aeg:l8 29 rdI:=acL kQ
instance:Wt mM:=⟨fun x=>Wt.wt x.key+Wt.wt x.val+Wt.wt x.aP+1,fun _=>by omega⟩
theorem agv:l8 266 (fun _ _ cs (x:mM)=>cs=x.l):=fun H enc W fuel cs x h=>by
 obtain⟨n,ds,hx,hf⟩:=iU [9,51,35] kQ h;obtain⟨_,_,_,_,a0,rfl,rfl,rfl,w0,hf⟩:=b7 FA hf;obtain⟨_,_,_,_,a1,rfl,rfl,rfl,w1,hf⟩:=b7 Pm hf;obtain⟨_,_,_,_,a2,rfl,rfl,rfl,w2,rfl,rfl⟩:=b7 rH hf;refine⟨⟨a0,a1,a2⟩,rfl,?_⟩;rw [hx];simp only [Rows.uptoBulk,Rows.uptoBulkAll,Wt.wt] at*;omega
theorem aeh:l8 37 (HX 7 (fun _ _ cs (x:mM)=>cs=x.l)):=oL kQ kQ (by decide) agv
instance:Wt fJ:=⟨fun x=>Wt.wt x.kind+Wt.wt x.fr+Wt.wt x.to+Wt.wt x.cB+Wt.wt x.range+Wt.wt x.ku+Wt.wt x.code+Wt.wt x.aP+Wt.wt x.prev+Wt.wt x.jW+Wt.wt x.n+Wt.wt x.mx+Wt.wt x.keys+Wt.wt x.seen+Wt.wt x.writes+Wt.wt x.parts+Wt.wt x.ranges+Wt.wt x.bS+Wt.wt x.state+1,fun _=>by omega⟩
theorem ahB:l8 48 fJ.rd:=fun H enc W fuel cs x h=>by
 obtain⟨n,ds,hx,hf⟩:=iU [3,3,3,33,3,3,29,35,35,4,3,3,36,37,23,22,38,39,46] kQ h;obtain⟨_,_,_,_,a0,rfl,rfl,rfl,w0,hf⟩:=b7 mS hf;obtain⟨_,_,_,_,a1,rfl,rfl,rfl,w1,hf⟩:=b7 mS hf;obtain⟨_,_,_,_,a2,rfl,rfl,rfl,w2,hf⟩:=b7 mS hf;obtain⟨_,_,_,_,a3,rfl,rfl,rfl,w3,hf⟩:=b7 Vy hf;obtain⟨_,_,_,_,a4,rfl,rfl,rfl,w4,hf⟩:=b7 mS hf;obtain⟨_,_,_,_,a5,rfl,rfl,rfl,w5,hf⟩:=b7 mS hf;obtain⟨_,_,_,_,a6,rfl,rfl,rfl,w6,hf⟩:=b7 aeg hf;obtain⟨_,_,_,_,a7,rfl,rfl,rfl,w7,hf⟩:=b7 rH hf;obtain⟨_,_,_,_,a8,rfl,rfl,rfl,w8,hf⟩:=b7 rH hf;obtain⟨_,_,_,_,a9,rfl,rfl,rfl,w9,hf⟩:=b7 ZK hf;obtain⟨_,_,_,_,a10,rfl,rfl,rfl,qz,hf⟩:=b7 mS hf;obtain⟨_,_,_,_,a11,rfl,rfl,rfl,HY,hf⟩:=b7 mS hf;obtain⟨_,_,_,_,a12,rfl,rfl,⟨v12,rfl,r12⟩,CE,hf⟩:=b7 aaG hf;obtain⟨_,_,_,_,a13,rfl,rfl,⟨v13,rfl,r13⟩,VC,hf⟩:=b7 aeh hf;obtain⟨_,_,_,_,a14,rfl,rfl,⟨v14,rfl,r14⟩,ML,hf⟩:=b7 Vz hf;obtain⟨_,_,_,_,a15,rfl,rfl,⟨v15,rfl,r15⟩,w15,hf⟩:=b7 aaH hf;obtain⟨_,_,_,_,a16,rfl,rfl,⟨v16,rfl,r16⟩,w16,hf⟩:=b7 agu hf;obtain⟨_,_,_,_,a17,rfl,rfl,⟨v17,rfl,r17⟩,w17,hf⟩:=b7 agt hf;obtain⟨_,_,_,_,a18,rfl,rfl,⟨vh,vp,rfl,rh,rp⟩,w18,rfl,rfl⟩:=b7 VA hf;refine⟨⟨a0,a1,a2,a3,a4,a5,a6,a7,a8,a9,a10,a11,a12,a13,a14,a15,a16,a17,a18⟩,⟨v12,v13,v14,v15,v16,v17,vh,vp,rfl,⟨r12.ue,r13.ue,r14.ue,r15.ue,r16.ue,r17,rh,rp⟩⟩,?_⟩;rw [hx];simp only [Rows.uptoBulk,Rows.uptoBulkAll,Wt.wt] at*;omega
instance:Wt oK:=⟨fun x=>Wt.wt x.kind+Wt.wt x.n+Wt.wt x.m+Wt.wt x.ct+1,fun _=>by omega⟩
theorem ahC:l8 70 oK.rd:=fun H enc W fuel cs x h=>by
 obtain⟨n,ds,hx,hf⟩:=iU [3,3,48,22] kQ h;obtain⟨_,_,_,_,a0,rfl,rfl,rfl,w0,hf⟩:=b7 mS hf;obtain⟨_,_,_,_,a1,rfl,rfl,⟨rfl,hb⟩,w1,hf⟩:=b7 Lt hf;obtain⟨_,_,_,_,a2,rfl,rfl,⟨vk,vs,vw,vp,vr,vc,vh,vd,rfl,r2⟩,w2,hf⟩:=b7 ahB hf;obtain⟨_,_,_,_,a3,rfl,rfl,⟨v3,rfl,r3⟩,w3,rfl,rfl⟩:=b7 aaH hf;refine⟨⟨a0,a1,a2,a3⟩,⟨vk,vs,vw,vp,vr,vc,vh,vd,v3,rfl,⟨r2,r3.ue,by show a1<2^63;have:=hb.2;omega⟩⟩,?_⟩;rw [hx];simp only [Rows.uptoBulk,Rows.uptoBulkAll,Wt.wt] at*;omega
theorem agw:l8 66 (HX 39 oK.rd):=oL kQ kQ (by decide) ahC
theorem QX {s:BA} {B:Nat} (h:Wt.wt s≤B):s.size≤B:=by
 have:s.size+1≤B:=h;omega
theorem ajN {x:KV} {B:Nat} (h:Wt.wt x≤B):x.key.size≤B∧x.val.text.size≤B:=by
 have:(x.key.size+1)+(Wt.wt x.val.kind+Wt.wt x.val.num+(x.val.text.size+1)+1)+1≤B:=h;omega
theorem CF {l:List KV} {B:Nat} (h:Wt.wt l≤B) (hB:B≤2^40):Pf l:=fun x hx=>by
 have h':(l.map Wt.wt).sum+1≤B:=h;have:=ajN (B:=B) (ah (u4 hx) zQ);omega
theorem GO {l:List BA} {B:Nat} (h:Wt.wt l≤B) (hB:B≤2^40): ∀k∈l,k.size≤2^40:=fun x hx=>by
 have h':(l.map Wt.wt).sum+1≤B:=h;have:=QX (B:=B) (ah (u4 hx) zQ);omega
theorem tM {α:Type} [Wt α] {l:List α} {B:Nat} (h:Wt.wt l≤B):l.length≤B:=by
 have h':(l.map Wt.wt).sum+1≤B:=h;have:=acK l;omega
theorem agx {l:List eG} {B:Nat} (h:Wt.wt l≤B) (hB:B≤2^40):Lq l∧Ab l∧Gv l:=by
 have h':(l.map Wt.wt).sum+1≤B:=h;have key: ∀p∈l,Wt.wt p.reads≤B∧Wt.wt p.writes≤B:=fun p hp=>by
  have h1:Wt.wt p.cB+Wt.wt p.aP+Wt.wt p.reads+Wt.wt p.writes+1≤(l.map Wt.wt).sum:=u4 hp;omega
 refine⟨fun p hp=>⟨GO (key p hp).1 hB,CF (key p hp).2 hB⟩,fun p hp=>?_,fun p hp=>⟨GO (key p hp).1 hB,fun x hx=>(CF (key p hp).2 hB x hx).1⟩⟩;have h1:=tM (key p hp).1;have h2:=tM (key p hp).2;omega
theorem agy {l:List jl} {B:Nat} (h:Wt.wt l≤B) (hB:B≤2^40):Lp l∧Aa l∧Gu l:=by
 have h':(l.map Wt.wt).sum+1≤B:=h;have key: ∀p∈l,Wt.wt p.key≤B∧Wt.wt p.jV≤B:=fun p hp=>by
  have h1:Wt.wt p.key+Wt.wt p.jV+1≤(l.map Wt.wt).sum:=u4 hp;omega
 refine⟨fun p hp=>⟨ah (QX (key p hp).1) hB,fun v hv=>?_⟩,fun p hp=>ah (tM (key p hp).2) hB,fun p hp=>ah (QX (key p hp).1) hB⟩;have h1:(p.jV.map Wt.wt).sum+1≤B:=(key p hp).2;have h2:Wt.wt v.aP+(Wt.wt v.val.kind+Wt.wt v.val.num+(v.val.text.size+1)+1)+1≤(p.jV.map Wt.wt).sum:=u4 hv;omega
theorem VD {s:State} {B:Nat} (h:Wt.wt s≤B) (hB:B≤2^40):s.small∧Lp s.ia∧Lq s.g8:=by
 have h':Wt.wt s.range+Wt.wt s.floor+Wt.wt s.closed+Wt.wt s.ia+Wt.wt s.g8+1≤B:=h;obtain⟨a1,a2,a3⟩:=agy (l:=s.ia) (B:=B) zQ hB;obtain⟨b1,b2,b3⟩:=agx (l:=s.g8) (B:=B) zQ hB;exact⟨⟨a2,b2,a3,b3⟩,a1,b1⟩
theorem acO {r:Rec} {B:Nat} (h:Wt.wt r≤B) (hB:B≤2^40):r.small∧r.text:=by
 have h':Wt.wt r.kind+Wt.wt r.cB+Wt.wt r.aP+Wt.wt r.prev+Wt.wt r.jW+Wt.wt r.n+Wt.wt r.rq+Wt.wt r.reads+Wt.wt r.writes+Wt.wt r.parts+Wt.wt r.bF+Wt.wt r.state+1≤B:=h;obtain⟨a1,a2,a3⟩:=VD (s:=r.state) (B:=B) zQ hB;have h1:=tM (l:=r.reads) (B:=B) zQ;have h2:=tM (l:=r.writes) (B:=B) zQ;have h3:=CF (l:=r.writes) (B:=B) zQ hB;have h4:=GO (l:=r.reads) (B:=B) zQ hB;exact⟨⟨by omega,by omega,h4,fun x hx=>(h3 x hx).1,a1⟩,⟨h4,h3,CF (l:=r.bF) (B:=B) zQ hB,a2,a3⟩⟩
theorem Lu (s:BA):(ki s).length≤120*Wt.wt s:=by
 have h1:=nq s;have h2:=dW s.size
 show _≤120*(s.size+1)
 omega
theorem NB (x:KV):(cM x).length≤120*Wt.wt x:=by
 have h1:=Lu x.key;have h2:=NC (v:=x.val);have h3:Wt.wt x=Wt.wt x.key+Wt.wt x.val+1:=rfl;unfold cM;rw [ae];omega
theorem uf {α:Type} [Wt α] {f:α→List Nat} (l:List α) (h: ∀x,(f x).length≤120*Wt.wt x):(fY f l).length≤120*Wt.wt l:=by
 have h1:(l.map f).flatten.length≤120*(l.map Wt.wt).sum:=by
  induction l with
  |nil=>simp
  |cons x l ih=>have:=h x;simp only [bc,List.flatten_cons,ae,List.sum_cons];omega
 have h2:=dW (l.length:Int);have h3:Wt.wt l=(l.map Wt.wt).sum+1:=rfl;unfold fY;rw [ae];omega
theorem agz (n:Int):(encI n).length≤120*Wt.wt n:=by
 have:=dW n
 show _≤120*1
 omega
theorem acP (v:kZ):(u5 v).length≤120*Wt.wt v:=by
 have h1:=iB v.aP;have h2:=NC (v:=v.val);have h3:Wt.wt v=4+Wt.wt v.val+1:=rfl;unfold u5;rw [ae];omega
theorem agA (h:jl):(zs h).length≤120*Wt.wt h:=by
 have h1:=Lu h.key;have h2:=uf h.jV acP;have h3:Wt.wt h=Wt.wt h.key+Wt.wt h.jV+1:=rfl;unfold zs;rw [ae];omega
theorem agB (p:eG):(uJ p).length≤120*Wt.wt p:=by
 have h1:=tF p.cB;have h2:=iB p.aP;have h3:=uf p.reads Lu;have h4:=uf p.writes NB;have h5:Wt.wt p=GM p.cB+4+Wt.wt p.reads+Wt.wt p.writes+1:=rfl;have h6:=QV p.cB;unfold uJ;simp only [ae];omega
theorem agC (s:State):(encS s).length≤120*Wt.wt s:=by
 have h1:=dW s.range.id;have h2:=dW s.range.ku;have h3:=iB s.floor;have h4:=iB s.closed;have h5:=uf s.ia agA;have h6:=uf s.g8 agB;have h7:Wt.wt s=Wt.wt s.range+4+4+Wt.wt s.ia+Wt.wt s.g8+1:=rfl;unfold encS Pn;simp only [ae,GP];omega
theorem agD (r:Rec):(vZ r).length≤120*Wt.wt r:=by
 have h':Wt.wt r=Wt.wt r.kind+GM r.cB+4+4+Wt.wt r.jW+Wt.wt r.n+Wt.wt r.rq+Wt.wt r.reads+Wt.wt r.writes+Wt.wt r.parts+Wt.wt r.bF+Wt.wt r.state+1:=rfl;have k0:=QV r.cB;have k1:=dW r.kind;have k2:=agC r.state;have k3:=dW r.n;have k4:=tF r.cB;have k5:=iB r.aP;have k6:=iB r.prev;have k7:=uf r.reads Lu;have k8:=uf r.writes NB;have k9:=uf r.bF NB;have k10:=uf r.parts agz;have k11:=GP r.rq;have k12:(aaI r.jW).length=1:=rfl;unfold vZ;rw [ae];repeat' split
 all_goals (try unfold uJ);(try simp only [ae,List.length_nil]);omega
theorem ahD {m:fJ} {B:Nat} (h:Wt.wt m≤B) (hB:B≤2^25):m.text∧m.small∧m.lens≤2^40:=by
 have h':Wt.wt m.kind+Wt.wt m.fr+Wt.wt m.to+Wt.wt m.cB+Wt.wt m.range+Wt.wt m.ku+Wt.wt m.code+Wt.wt m.aP+Wt.wt m.prev+Wt.wt m.jW+Wt.wt m.n+Wt.wt m.mx+Wt.wt m.keys+Wt.wt m.seen+Wt.wt m.writes+Wt.wt m.parts+Wt.wt m.ranges+Wt.wt m.bS+Wt.wt m.state+1≤B:=h;have hB':B≤2^40:=by omega
 obtain⟨a1,a2,a3⟩:=VD (s:=m.state) (B:=B) zQ hB';have l1:=tM (l:=m.keys) (B:=B) zQ;have l2:=tM (l:=m.seen) (B:=B) zQ;have l3:=tM (l:=m.writes) (B:=B) zQ;have l4:=tM (l:=m.parts) (B:=B) zQ;have l5:=tM (l:=m.ranges) (B:=B) zQ;have l6:=tM (l:=m.bS) (B:=B) zQ;have hr: ∀r∈m.bS,Wt.wt r≤B:=fun r hr=>by
  have h1:Wt.wt m.bS=(m.bS.map Wt.wt).sum+1:=rfl;have:=u4 hr;omega
 refine⟨⟨GO (l:=m.keys) (B:=B) zQ hB',fun x hx=>?_,CF (l:=m.writes) (B:=B) zQ hB',fun r h=>(acO (hr r h) hB').2,a2,a3⟩,⟨by omega,by omega,fun r h=>(acO (hr r h) hB').1,fun r h _=>?_,a1⟩,?_⟩
 ·have h1:Wt.wt m.seen=(m.seen.map Wt.wt).sum+1:=rfl;have h2:(x.key.size+1)+(Wt.wt x.val.kind+Wt.wt x.val.num+(x.val.text.size+1)+1)+4+1≤(m.seen.map Wt.wt).sum:=u4 hx;omega
 ·have:=agD r;have:=hr r h;omega
 ·unfold fJ.lens;omega
theorem ahE {m:fJ} (h:Wt.wt m≤1048576):Cn m.cB∧ ∀y∈m.writes,y.val.num<18446744073709551616:=by
 have h':Wt.wt m.kind+Wt.wt m.fr+Wt.wt m.to+Wt.wt m.cB+Wt.wt m.range+Wt.wt m.ku+Wt.wt m.code+Wt.wt m.aP+Wt.wt m.prev+Wt.wt m.jW+Wt.wt m.n+Wt.wt m.mx+Wt.wt m.keys+Wt.wt m.seen+Wt.wt m.writes≤1048576:=by
  simp only [Wt.wt] at h⊢;omega
 refine⟨?_,fun y hy=>?_⟩
 ·have h1:GM m.cB≤1048576:=by
   have:Wt.wt m.cB=GM m.cB:=rfl;omega
  exact agn h1
 ·have h1:Wt.wt m.writes=(m.writes.map Wt.wt).sum+1:=rfl;have h2:(y.key.size+1)+(Wt.wt y.val.kind+JL y.val.num+(y.val.text.size+1)+1)+1≤(m.writes.map Wt.wt).sum:=u4 hy;exact agl zQ
end Go.Proofs.YtpdkoaklobnegaaGreat
namespace Go.Proofs.YtpdkoaklobnegaaGreat
open Go.Proofs.Tryz renaming prog → pg
open Go.dL
set_option maxRecDepth 100000
set_option maxHeartbeats 1000000
set_option linter.unusedVariables false
set_option linter.unusedSimpArgs false
attribute [local irreducible] un jn bq aS bb gy dV dD cK lJ ez kV yC xf gU gH aa ay aD eW eV eU eC eF gE ao fin aR aE aJ vS yD jw jA tq A6 A7 yE A8 yF jx jB tt A9 Ba yG Bb
theorem SE {P:Program} {X:XS} {w:World} {t:TypeId} {v:Value} {z z':Int} {i j:Nat} {rows:List (List Value)} {N:Value→Prop} (h:Sl w X 1 v rows) (hz:z=i) (zS:z'=j) (ZL:i≤j) (hj:j≤rows.length) (ht:P.underlying t=some (.slice (P.elem t))) (hs:(P.info? (P.elem t)).map (·.size)=some 1)
  (n: ∀v',Sl w X 1 v' ((rows.drop i).take (j-i))→N v'):aa P X w (cp t v (some (.int .i64 z)) (some (.int .i64 z')) none) N:=by
 subst hz;subst zS;obtain⟨h1,h2,base,cap,rfl,hc,hb,Vn,lA⟩:=h;have hq: ∃inf,P.info? (P.elem t)=some inf∧inf.size=1:=by
  cases hq:P.info? (P.elem t)with
  |none=>simp [hq] at hs
  |some inf=>exact⟨inf,rfl,by simpa [hq] using hs⟩
 obtain⟨inf,hq,dU⟩:=hq;have DC:((rows.drop i).take (j-i)).length=j-i:=by rw [bp,bU];omega
 have mR: ∀wa:World,(cp t (.slice base rows.length cap) (some (.int .i64 (i:Int))) (some (.int .i64 (j:Int))) none).run P wa= .ok (sliced base i j cap 1) wa:=fun wa=>by
  rw [run_sliceAt_slice wa t _ _ _ _ ht,run_slice_lh wa t _ _ cap ht .i64 .i64 i j zQ zQ zQ];simp [sizeOf,typeInfo,hq,dU]
 refine bX mR (n _ ?_);refine⟨fun r hr=>h1 r (iP (List.mem_of_mem_take hr)),by omega,_,cap-i,by unfold sliced;rw [DC],fun cU=>?_,fun JG=>?_,by omega,by omega⟩
 ·have jM:i<j:=by
   refine xA fun hle=>cU ?_;have:j-i=0:=by omega
   rw [this];simp
  obtain⟨b,o,rfl,jj⟩:=hc (by intro e;rw [e] at hj;simp at hj;omega);refine⟨b,o+i,?_,?_⟩
  ·rw [if_neg zQ];simp only [bM,aB,xz];unfold Addr.add;split
   ·rename_i h0;rw [h0];rfl
   ·rfl
  ·have hr: ∀r∈rows.drop i,r.length=1:=fun r hr=>h1 r (iP hr);rw [dL.iY (j-i) hr,dL.Ap i h1,xz,xz];obtain⟨hx,c,ty,fr,fR,Cz⟩:=jj;refine⟨hx,c,ty,fr,fR,fun q u hu=>?_⟩;have hq:=(List.getElem?_eq_some_iff.1 hu).1;rw [bp] at hq;rw [List.getElem?_take_of_lt zQ,gV] at hu;have:=Cz _ _ hu
   rwa [←Nat.add_assoc] at this
 ·split at JG
  ·have:=hb JG;omega
  ·have:base=none:=by simpa using JG
   have:=hb this;omega
theorem ND {P:Program} {X:XS} {w:World} {t:TypeId} {k:Nat} {v:Value} {z:Int} {i:Nat} {rows:List (List Value)} {N:Value→Prop} (h:Sl w X k v rows) (hz:z=i) (hi:i≤rows.length) (ht:P.underlying t=some (.slice (P.elem t))) (hs:(P.info? (P.elem t)).map (·.size)=some k)
  (n: ∀v',Sl w X k v' (rows.drop i)→N v'):aa P X w (cp t v (some (.int .i64 z)) none none) N:=by
 subst hz;obtain⟨h1,h2,base,cap,rfl,hc,hb,Vn,lA⟩:=h;have hq: ∃inf,P.info? (P.elem t)=some inf∧inf.size=k:=by
  cases hq:P.info? (P.elem t)with
  |none=>simp [hq] at hs
  |some inf=>exact⟨inf,rfl,by simpa [hq] using hs⟩
 obtain⟨inf,hq,dU⟩:=hq;have mR: ∀wa:World,(cp t (.slice base rows.length cap) (some (.int .i64 (i:Int))) none none).run P wa= .ok (sliced base i rows.length cap k) wa:=fun wa=>by
  rw [run_sliceAt_slice wa t _ _ _ _ ht,run_slice_l wa t _ _ cap ht .i64 i zQ zQ];simp [sizeOf,typeInfo,hq,dU]
 refine bX mR (n _ ?_);refine⟨fun r hr=>h1 r (iP hr),by rw [bU];omega,_,cap-i,by unfold sliced;rw [bU],fun cU=>?_,fun JG=>?_,by rw [bU];omega,by omega⟩
 ·have jM:i<rows.length:=by
   refine xA fun hle=>cU (gL hle)
  obtain⟨b,o,rfl,jj⟩:=hc (by intro e;rw [e] at jM;simp at jM);refine⟨b,o+i*k,?_,?_⟩
  ·rw [if_neg zQ];simp only [bM,aB];unfold Addr.add;split
   ·rename_i h0;rw [h0];rfl
   ·rfl
  ·rw [dL.Ap i h1];obtain⟨hx,c,ty,fr,fR,Cz⟩:=jj;exact⟨hx,c,ty,fr,fR,fun j v hj=>by rw [gV] at hj;have:=Cz _ _ hj;rwa [←Nat.add_assoc] at this⟩
 ·split at JG
  ·have:=hb JG;omega
  ·have:base=none:=by simpa using JG
   have:=hb this;omega
theorem agE {l:List Nat} (h: ∀b∈l,b<256):im l<4294967296:=by
 have g: ∀i:Nat,l[i]?.getD 0<256:=fun i=>by
  cases hq:l[i]? with
  |none=>simp
  |some x=>simpa using h x (aX hq)
 have:=g 0;have:=g 1;have:=g 2;have:=g 3;rw [Fp];omega
theorem ahF (l:List Nat):U4 (JN l)= .int .u32 ((Ae l:Nat):Int):=by rw [Po]
theorem Pp {b q:List Nat} (h:kf b=some q):iA b=(q::(iA (b.drop (q.length+12))).1,q.length+12+(iA (b.drop (q.length+12))).2):=by
 rw [iA];split
 ·rename_i h2;rw [h] at h2;cases h2
 ·rename_i q' h2;rw [h] at h2;cases h2;rfl
theorem VE {w:World} {X:XS} {v0:Value} {bs:List Nat} (h:Sl w X 1 v0 (bs.map U1)) (hb:bs.length≤2^30) (cH: ∀b∈bs,b<256):
  Ct pg 139 #[v0] w X nX fun v wa w'=> ∃va,∃rs:List (Value×List Nat),v= .tuple #[va,I ((iA bs).2:Nat)]∧rs.map Prod.snd=(iA bs).1∧Own w' (made wa w') wa.heap.size 95 1 va (rs.map fun r=>[r.1])∧
   ∀r∈rs,Own w' (made wa w') wa.heap.size 5 1 r.1 (r.2.map U1):=by
 intro w0 hk;replace h:=h.mv hk.dm;obtain⟨lb,ln,lc,rfl⟩:=h.form;apply Tm;unfold HZ;have hs:=aj.init w0;refine fk (Q:=fun K=> ∀va w X,∀rs:List (Value×List Nat),aj (ba w0) w0 X w→rs.map Prod.snd=(iA bs).1→Own w X w0.heap.size 95 1 va (rs.map fun r=>[r.1])→(∀r∈rs,Own w X w0.heap.size 5 1 r.1 (r.2.map U1))→K va (I ((iA bs).2:Nat)) w X) ?_ fun K hK=>?_
 ·intro va w1 X1 rs aq he ho hr;exact ak aq fun wa aM=>⟨va,rs,rfl,he,(ho.kp aM).tight,fun r h=>((hr r h).kp aM).tight⟩
 ·refine gN (fun m a b w X=> ∃(p:Nat) (rs:List (Value×List Nat)),a=I p∧m=bs.length-p∧p≤bs.length∧aj (ba w0) w0 X w∧iA bs=(rs.map Prod.snd++(iA (bs.drop p)).1,p+(iA (bs.drop p)).2)∧Own w X w0.heap.size 95 1 b (rs.map fun r=>[r.1])∧(∀r∈rs,Own w X w0.heap.size 5 1 r.1 (r.2.map U1))∧rs.length≤p) bs.length ⟨0,[],rfl,rfl,aN _,hs,by simp,Own.nil _ _ _ _ _,by simp,bf _⟩ ?_;clear hs;rintro m a acc w1 X1 ⟨p,rs,rfl,rfl,hp,hs,hsc,ho,hr,tN⟩;have j7:=h.mv hs.mv;have Pq:kf (bs.drop p)=none→ ∀w X,aj X1 w1 X w→K acc (I p) w X:=fun hn w X wN=>by
   rw [BO hn] at hsc;have:=hK acc w X rs (hs.trans wN) (by rw [hsc];simp) (ho.since wN) fun r h=>(hr r h).since wN;rw [hsc] at this;exact this
  by_cases ZM:bs.length-p<12
  ·repeat' first|refine bL ?_;intros
   exact Pq (tD (.inl (by rw [bU];exact ZM))) _ _ (aj.dY hs.has)
  ·repeat' first|refine bL ?_;intros
   refine ND j7 rfl (by rw [aG];exact hp) kQ kQ fun v1 DG=>?_;rw [←nB] at DG;have zV: ∀b∈bs.drop p,b<256:=fun b hb=>cH b (iP hb);have MM:(bs.drop p).length=bs.length-p:=bU;refine dy (Ev DG zQ zV) kQ hs.has fun w2 X2 bQ=>?_;replace hs:=hs.trans bQ;have m7:=ho.since bQ;have jG: ∀r∈rs,Own w2 X2 w0.heap.size 5 1 r.1 (r.2.map U1):=fun r h=>(hr r h).since bQ;have hg4:im (bs.drop p)<4294967296:=agE zV;have hwn:IntKind.i64.wrap ((im (bs.drop p):Nat):Int)=(im (bs.drop p):Nat):=Ua zQ;repeat' first|refine aI ?_;intros|refine de ?_ ?_<;>intros
   ·repeat' first|refine aI ?_;intros|with_reducible apply cG
    exact Pq (tD (.inr (.inl zQ))) _ _ bQ
   ·have QS:=h.mv hs.mv;refine ND QS (i:=p+4) zQ (by rw [aG];omega) kQ kQ fun v2 VF=>?_;rw [←nB] at VF;repeat' first|refine aI ?_;intros
    refine SE QS (i:=p) (j:=p+4) rfl zQ zQ (by rw [aG];omega) kQ kQ fun v3 hv3=>?_;rw [←nB,←qj] at hv3;refine fk (Q:=fun K=> ∀w X,aj X2 w2 X w→K (.int .u32 ((im (bs.drop (p+4)):Nat):Int)) w X) ?_ fun K1 Js=>?_
    ·intro w3 X3 cl;refine fk (Q:=fun K=> ∀w X,aj X2 w2 X w→K (.int .u32 ((Ae ((bs.drop p).take (p+4-p)):Nat):Int)) w X) ?_ fun K2 SF=>?_
     ·intro w4 X4 ff;have ahG:=QS.mv ff.mv;have e4:(bs.drop p).drop 4=bs.drop (p+4):=fu;have e5:p+4-p=4:=by omega
      rw [e5];repeat' first|refine aI ?_;intros|refine de ?_ ?_<;>intros
      ·rename_i cU;exact Pq (tD (.inr (.inr (.inl (by rw [e4];omega))))) _ _ (bQ.trans ff)
      ·rename_i heq hgt;exact Pq (tD (.inr (.inr (.inr (by rw [MM];omega))))) _ _ (bQ.trans ff)
      ·rename_i Jc heq hgt;rw [hwn] at hgt Jc⊢;have afN:((bs.drop (p+8)).take (im (bs.drop p))).length=im (bs.drop p):=by
        have h8:im (bs.drop p)≤bs.length-(p+8):=by omega
        rw [bp,bU];exact sI h8
       refine SE ahG (i:=p+8) (j:=p+8+im (bs.drop p)) zQ zQ zQ (by rw [aG];omega) kQ kQ fun v5 hv5=>?_;rw [←nB,←qj,show p+8+im (bs.drop p)-(p+8)=im (bs.drop p)by omega] at hv5;repeat' first|refine aI ?_;intros
       refine ND ahG (i:=p+8+im (bs.drop p)) zQ (by rw [aG];omega) kQ kQ fun v6 hv6=>?_;rw [←nB] at hv6;refine dy (Ev hv6 (by rw [bU];omega) fun b hb=>cH b (iP hb)) kQ ff.has fun w5 X5 oI=>?_;refine dy (zJ (hv5.mv oI.mv)) kQ oI.has fun w6 X6 pG=>?_;rw [ahF];have e8:(bs.drop p).drop 8=bs.drop (p+8):=fu;have e9:(bs.drop p).drop (8+im (bs.drop p))=bs.drop (p+8+im (bs.drop p)):=by rw [fu];congr 1;omega
       have VG:=(ff.trans oI).trans pG;have fU: ¬((bs.drop p).length<12∨262144<im (bs.drop p)∨im ((bs.drop p).drop 4)≠Ae ((bs.drop p).take 4)∨(bs.drop p).length-12<im (bs.drop p)):=by
        rw [e4,MM];omega
       have kY:=hs.trans VG;have Fl:=m7.since VG;have FB: ∀r∈rs,Own w6 X6 w0.heap.size 5 1 r.1 (r.2.map U1):=fun r h=>(jG r h).since VG;have aaJ:=hv5.mv (oI.trans pG).mv;clear hs;have hs:=kY;clear m7 jG ho hr;repeat' first|refine aI ?_;intros|refine de ?_ ?_<;>intros|(with_reducible apply DH);(case hX=>exact hs.has);(case hu=>kernel_rfl);(case hz=>kernel_rfl);intro acc w X aq ho;replace hs:=hs.trans aq
       ·rename_i cU;exact Pq (aay (by rw [e9,e8];omega)) _ _ (bQ.trans VG)
       ·rename_i ak5;have CG:=Yk fU (by rw [e9,e8];omega);rw [e8] at CG;clear ak5 fU heq;have ahH:=afN;obtain⟨pl,wM⟩: ∃pl,(bs.drop (p+8)).take (im (bs.drop p))=pl:=⟨_,rfl⟩;rw [wM] at CG aaJ ahH;clear wM afN;refine xv ho aq VG.has kQ (aaJ.mv aq.mv) (fun r hr u hu=>?_) (by simp;omega) (by simp;omega) fun v8 w8 X8 qa xp hc8 VH=>?_
        ·obtain⟨x,_,rfl⟩:=List.mem_map.1 hr;simp at hu;subst hu;rfl
        have wN:=kY.trans qa;have Pe:=Fl.since qa;refine Lv Pe wN (fun _ h=>h) kQ rfl xp.sl.one (by simp;omega) (by simp;omega) fun va9 w9 X9 ahI OZ hc9 aaB=>?_;have MN: ∀{v:Value} {rows:List (List Value)},Own w8 X8 w0.heap.size 5 1 v rows→Own w9 X9 w0.heap.size 5 1 v rows:=fun hv=>hv.dM hc9 fun g hg fR=>by
         obtain⟨c1,e1⟩:=hv.ow.tag hg;obtain⟨c2,e2⟩:=Pe.ow.tag fR;rw [e1] at e2;simp at e2
        clear hs;have hs:=ahI;repeat' first|refine aI ?_;intros
        refine gA (bs.length-(p+(im (bs.drop p)+12))) zQ ⟨p+(im (bs.drop p)+12),rs++[(v8,pl)],by simp,rfl,by omega,ahI,?_,?_,fun r hr=>?_,?_⟩
        ·rw [Pp CG,ahH,fu] at hsc;rw [hsc];simp;omega
        ·rw [aT];exact OZ
        ·rcases List.mem_append.1 hr with hr|hr
         ·exact MN ((FB r hr).since qa)
         ·simp only [aV] at hr;subst hr;exact MN (xp.low (by have:=kY.kp.size;omega))
        ·simp;omega
     ·repeat' first|refine aI ?_;intros
      refine dy (zJ (hv3.mv cl.mv)) kQ cl.has fun w4 X4 ff=>?_;rw [ahF];exact SF _ _ (cl.trans ff)
    ·repeat' first|refine aI ?_;intros
     refine dy (Ev VF (by rw [bU];omega) fun b hb=>cH b (iP hb)) kQ hs.has fun w3 X3 cl=>?_;exact Js _ _ cl
def DM.bytes (m:DM) (n:ByteArray):List Nat:=((m.get n).map (·.1)).getD []
theorem EF {w:World} {X F:XS} {db:Nat} {m:DM} {n:ByteArray} (h:Dk w F db m) (hF:FX F X w):
  Ct pg 138 #[ptr db 0,.string n] w X nX fun v wa w'=> ∃vb,v= .tuple #[vb,I (if(m.get n).isSome then 0 else 8)]∧Own w' (made wa w') wa.heap.size 5 1 vb ((m.bytes n).map U1):=by
 intro w0 hk;obtain⟨mb,l,h0,hz⟩:=h.mv (hF.mv hk);have hX:=fun k ai=>(hF.kp hk k ai).1;have hb:=h0.box.mv (Mv.sub hX);have hg:=h0.get n;have hm:=h0.map.mv jE (Mv.sub hX) (A':=nX) fun _ h=>h.elim;apply LQ;unfold Bp;have hs:=aj.init w0;repeat' first|refine aI ?_;intros
 refine ot hm (fun f h1=>?_) fun h1=>?_
 ·have hr:=(h0.row _ (gQ h1)).mv (Mv.sub hX);have aaJ:=((h0.ow _ (gQ h1)).mono hX).sl;have lx:m.get n=some (f.bs,f.safe):=by rw [hg,h1];rfl
  have hle:=DM.sx lx;have pF:m.bytes n=f.bs:=by unfold DM.bytes;rw [lx];rfl
  rw [pF,lx];repeat' first|refine aI ?_;intros|(with_reducible apply DH);(case hX=>exact hs.has);(case hu=>kernel_rfl);(case hz=>kernel_rfl);intro acc w X aq ho;replace hs:=hs.trans aq
  refine xv ho hs (fun _ h=>h) kQ (aaJ.mv hs.mv) (fun r hr u hu=>?_) (by simp;omega) (by simp;omega) fun v8 w8 X8 qa xp hc8 VH=>?_
  ·obtain⟨x,_,rfl⟩:=List.mem_map.1 hr;simp at hu;subst hu;rfl
  exact ak qa fun wa aM=>⟨v8,rfl,(xp.kp aM).tight⟩
 ·have lx:m.get n=none:=by rw [hg,h1];rfl
  have pF:m.bytes n=[]:=by unfold DM.bytes;rw [lx];rfl
  rw [pF,lx];repeat' first|refine aI ?_;intros
  exact ak hs fun wa aM=>⟨_,rfl,Own.nil _ _ _ _ _⟩
def DM.AO (n:ByteArray) (k:Nat) (m:DM):DM:=match m.get n with
 |none=>m
 |some x=>m.put n (x.1.take k) (min x.2 k)
def DM.NF (m:DM) (n:ByteArray) (k:Int):Nat:=if(m.get n).isSome then(if k<0∨(m.bytes n).length<k then 1 else 0)else 8
def DM.cut (m:DM) (n:ByteArray) (k:Int):DM×Nat:=m.write (m.NF n k) (DM.AO n k.toNat)
theorem DM.ZN {m:DM} {n:ByteArray} {b:List Nat} {s s' k:Nat} (h:m.get n=some (b,s)) (hk:k≤b.length):(m.put n (b.take k) s').sz+(b.length-k)=m.sz:=by
 have:=DM.JD (bs:=b.take k) (s':=s') h;rw [bp] at this;omega
theorem mc.cut {w w':World} {F X X':XS} {db mb z i s':Nat} {l:List (ByteArray×lr)} {m:DM} {n:ByteArray} {f:lr} {v':Value} (h:mc w F db mb l m z) (hX:FX F X w) (hn:getM n l=some f) (c:eD (· =f.b) X w X' w')
  (hv:Ow w F 5 1 v' ((f.bs.take i).map U1)) (hb:v'.ownBlock=f.v.ownBlock) (hr:bH w' X' f.b [v',I s'] 141) (hs:s'≤(f.bs.take i).length):
  mc w' F db mb (fC n ⟨f.b,v',f.bs.take i,s'⟩ l) (m.put n (f.bs.take i) s') z:=by
 have dA:=h.row _ (gQ hn);refine h.kT hX c hn (fun k hk=>.inl hk) (fun _ h=>h) ⟨dA.1,hr.2⟩ ?_ (.inl hb) hs;refine hv.tight.mv fun k hk hl=>⟨(hv.aU hk).1,c.block k (hX k (hv.aU hk).1).1 fun e=>?_⟩;have e:k=f.b:=e;subst e;exact hv.dJ dA kQ hk
theorem Yp {w:World} {X F:XS} {db bd bn bk k:Nat} {m:DM} {n:ByteArray} (h:Dk w F db m) (hF:FX F X w) (hd:bH w X bd [ptr db 0] 26) (hn:bH w X bn [.string n] 9) (mQ:bH w X bk [I k] 3)
  {b:List Nat} {s:Nat} (hg:m.get n=some (b,s)) (me:k≤b.length):
  Ct pg 205 #[ptr bd 0,ptr bn 0,ptr bk 0] w X F fun v wa w'=>v= .tuple #[]∧ ∃F',(∀k,F' k→F k∨made wa w' k)∧Dk w' F' db (DM.AO n k m):=by
 intro w0 hk;obtain⟨mb,l,h0,hz⟩:=h.mv (hF.mv hk);have hT:=hF.ft hk;replace hd:=hd.mv hk.dm;replace hn:=hn.mv hk.dm;replace mQ:=mQ.mv hk.dm;have gT:=h0.box.mv (Mv.sub hT.aU);have hs:=aj.init w0;have mr:=h0.get n;have hm:=h0.map.mv jE (Mv.sub hT.aU) (A':=nX) fun _ h=>h.elim;apply IE;unfold yO;repeat' first|refine aI ?_;intros
 refine ot hm (fun f h1=>?_) fun h1=>?_
 ·have hgf:(b,s)=(f.bs,f.safe):=by rw [h1,hg] at mr;exact bC mr
  obtain⟨rfl,rfl⟩:=Prod.mk.inj hgf;have hr:bH w0 (ba w0) f.b [f.v,I f.safe] 141:=(h0.row _ (gQ h1)).mv (Mv.sub hT.aU);have ho:Ow w0 F 5 1 f.v (f.bs.map U1):=h0.ow _ (gQ h1);have ZO:=ho.sl.mono hT.aU;have dU:=DM.ZN (s':=min f.safe k) hg me;have hle:=DM.sx hg;repeat' first|refine aI ?_;intros
  refine sh hT h0 (fun _ h=>h) m (m.put n (f.bs.take k) (min f.safe k)).sz (o:=1) zQ kQ zQ rfl (by rw [show(((m.put n (f.bs.take k) (min f.safe k)).sz:Nat):Int)=(m.sz:Int)-((f.bs.length:Int)-(k:Int))by omega];rfl) rfl h0.ar fun w4 X4 dS h4 c4=>?_;have o9:bH w4 X4 f.b [f.v,I f.safe] 141:=(h4.row _ (gQ h1)).mv (Mv.sub dS.aU);have yI:Ow w4 F 5 1 f.v (f.bs.map U1):=h4.ow _ (gQ h1);have hk4:=mQ.dM c4 fun e=>bH.dJ mQ gT kQ e;clear hr ho ZO gT hs mQ;repeat' first|refine aI ?_;intros
  refine VI (i:=k) (yI.mono dS.aU) zQ zQ (by rw [aG];exact me) kQ kQ fun v' hv hvb=>?_;rw [←qj] at hv;have hvF:Ow w4 F 5 1 v' ((f.bs.take k).map U1):=hv.tight.mono fun q hq=>(yI.aU (by rw [←hvb];exact hq)).1;have ov:=hv.one;repeat' first|refine aI ?_;intros
  refine kK (o:=0) o9 zQ kQ (by simp) ov dS.s.has fun w5 X5 c5 sd=>?_;replace sd:bH w5 X5 f.b [v',I f.safe] 141:=sd;have hk5:=hk4.dM c5 fun e=>bH.dJ hk4 o9 kQ e;have DC:(f.bs.take k).length=k:=by rw [bp];exact sI me
  clear hk4;repeat' first|refine aI ?_;intros
  rw [show min (f.safe:Int) (k:Int)=((min f.safe k:Nat):Int)by omega];refine kK (o:=1) sd zQ kQ (by simp) rfl c5.has fun w6 X6 c6 FB=>?_;replace FB:bH w6 X6 f.b [v',I ((min f.safe k:Nat):Int)] 141:=FB;have cc:=c5.trans c6;have hFf:F f.b:=(h4.row _ (gQ h1)).1;have h6:=h4.cut (s':=min f.safe k) (dS.fx fun _ h=>h) h1 cc hvF hvb FB (by rw [DC];exact xB _ _);have gB:=dS.dM (F':=F) cc (fun q e=>by rw [show q=f.b from e];exact hFf) fun q hq=>.inl hq;refine gB.fin fun wa aM=>⟨rfl,F,gB.fL aM fun _ h=>h,?_⟩;have e:DM.AO n k m=m.put n (f.bs.take k) (min f.safe k):=by unfold DM.AO;rw [hg]
  rw [e];exact⟨mb,_,h6.mv (aM.ew gB.aU),by omega⟩
 ·rw [h1,hg] at mr;cases mr
theorem aaK {w:World} {X F:XS} {db k:Nat} {m:DM} {n:ByteArray} (h:Dk w F db m) (hF:FX F X w) (Zw:k<2^62):
  Ct pg 141 #[ptr db 0,.string n,I k] w X F fun v wa w'=>v=I (m.cut n k).2∧ ∃F',(∀k,F' k→F k∨made wa w' k)∧Dk w' F' db (m.cut n k).1:=by
 intro w0 hk;replace h:=h.mv (hF.mv hk);have hT:=hF.ft hk;have iz:FX F (ba w0) w0:=hF.kp hk;clear hF;apply NG;unfold CH;refine rY rfl hT.s.has fun bd w1 X1 mH aq rX=>?_;refine rY rfl aq.has fun bn w2 X2 E7 bQ JO=>?_;refine rY rfl bQ.has fun bk w3 X3 hbk cl hrk=>?_;have oM:=(aq.trans bQ).trans cl;have cn:=hT.since oM;have pQ:=(rX.since bQ).since cl;have uK:=JO.since cl;have h3:Dk w3 F db m:=h.mv (oM.dZ fun k ai=>(iz k ai).1);have hs:=aj.dY cl.has;repeat' first|refine aI ?_;intros
 refine dy (GQ h3 (cn.fx fun _ h=>h)) kQ hs.has fun w4 X4 ff=>?_;have dS:=cn.since ff;have h4:Dk w4 F db m:=h3.mv (ff.dZ cn.aU);have AN:=pQ.since ff;have aaL:=uK.since ff;have aaM:=hrk.since ff;have q1:=aq.kp.size;have q2:=bQ.kp.size;have q3:=cl.kp.size;clear hs pQ uK hrk rX JO h3 cn;have hs:=aj.dY dS.s.has;refine fk (Q:=fun K=> ∀e:Nat,m.NF n k=e→K (I e)) ?_ fun K hK=>?_
 ·intro e he;have em:m.cut n k=m.write e (DM.AO n k):=by rw [←he];rfl
  repeat' first|refine aI ?_;intros
  rw [em];refine dS.call (xC (A:=fun k=>k=bd∨k=bn∨k=bk) (g:=DM.AO n k) h4 (dS.fx fun _ h=>h) (fun k ai=>?_) kQ ?_) kQ (fun _ h=>h) fun v Fk w5 X5 hq AM sG gR hc5=>?_
  ·rcases ai with rfl|rfl|rfl
   ·exact⟨AN.1,AN.lt,fun hf=>by have:=(iz _ hf).2;omega⟩
   ·exact⟨aaL.1,aaL.lt,fun hf=>by have:=(iz _ hf).2;omega⟩
   ·exact⟨aaM.1,aaM.lt,fun hf=>by have:=(iz _ hf).2;omega⟩
  ·intro he0 w6 X6 hm6 Va Pa h6;subst he0;unfold DM.NF at he;cases lx:m.get n with
   |none=>rw [lx] at he;simp at he
   |some x=>
    obtain⟨b,s⟩:=x;have UA:m.bytes n=b:=by unfold DM.bytes;rw [lx];rfl
    rw [lx,UA] at he;simp only [pS,if_true] at he;have me:k≤b.length:=by
     refine Nat.le_of_not_lt fun hn=>?_;rw [if_pos (.inr zQ)] at he;cases he
    refine Yp h6 Pa ⟨Va _ (.inl rfl),?_⟩ ⟨Va _ (.inr (.inl rfl)),?_⟩ ⟨Va _ (.inr (.inr rfl)),?_⟩ (by rw [m.lR];exact lx) me
    ·rw [(hm6 bd (.inl rfl) (AN.lt)).2];exact AN.2
    ·rw [(hm6 bn (.inr (.inl rfl)) (aaL.lt)).2];exact aaL.2
    ·rw [(hm6 bk (.inr (.inr rfl)) (aaM.lt)).2];exact aaM.2
  ·obtain⟨rfl,F',lN,hD⟩:=hq
   skip
   exact gR.fin fun Mz aM=>⟨rfl,F',gR.fL aM lN,hD.mv (aM.ew fun k ai=>gR.aU k (lN k ai))⟩
 ·obtain⟨mb,l,h0,hz⟩:=id h4;have gT:=h0.box.mv (Mv.sub dS.aU);have hm:=h0.map.mv jE (Mv.sub dS.aU) (A':=nX) fun _ h=>h.elim;have mr:=h0.get n;repeat' first|refine aI ?_;intros|refine de ?_ ?_<;>intros
  ·exfalso;omega
  ·refine ot hm (fun f h1=>?_) fun h1=>?_
   ·have lx:m.get n=some (f.bs,f.safe):=by rw [mr,h1];rfl
    have UA:m.bytes n=f.bs:=by unfold DM.bytes;rw [lx];rfl
    have hr:bH w4 X4 f.b [f.v,I f.safe] 141:=(h0.row _ (gQ h1)).mv (Mv.sub dS.aU);have ho:Sl w4 X4 1 f.v (f.bs.map U1):=(h0.ow _ (gQ h1)).sl.mono dS.aU;repeat' first|refine aI ?_;intros|refine de ?_ ?_<;>intros
    ·exact hK 1 (by unfold DM.NF;rw [lx,UA];simp only [pS,if_true];rw [if_pos (.inr zQ)])
    ·rw [lx];exact hK 0 (by unfold DM.NF;rw [lx,UA];simp only [pS,if_true];rw [if_neg zQ])
   ·have lx:m.get n=none:=by rw [mr,h1];rfl
    simp [lx] at*
  ·have lx:(m.get n).isSome=false:=by
    cases hq:(m.get n).isSome with
    |false=>rfl
    |true=>simp_all
   rw [lx];exact hK 8 (by unfold DM.NF;rw [lx];rfl)
def DM.qG (ct:List Int) (x:DM×Nat) (n:ByteArray):DM×Nat:=match x.1.get n with
 |none=>x
 |some (bs,s)=>if bs.length=s then x else
  let k:=match ct[x.2]? with
   |some p=>if 0≤p then p.toNat % (bs.length-s+1)else 0
   |none=>0
  (x.1.put n (bs.take (s+k)) (s+k),x.2+1)
def DM.jH (m:DM) (ct:List Int):DM:= { ((fB (m.fs.map (·.1))).foldl (DM.qG ct) (m,0)).1 with ar:=0,dn:=false }
theorem DM.agF {m:DM} {n k:ByteArray} {b:List Nat} {s:Nat} (h:(m.get k).isSome=true):((m.put n b s).get k).isSome=true:=by
 unfold DM.get DM.put at*;dsimp only;by_cases e:k=n
 ·subst e;rw [zp];rfl
 ·rw [CB e];exact h
theorem DM.aei {ct:List Int} {x:DM×Nat} {n k:ByteArray} (h:(x.1.get k).isSome=true):((DM.qG ct x n).1.get k).isSome=true:=by
 unfold DM.qG;split
 ·exact h
 ·split
  ·exact h
  ·exact DM.agF h
theorem VJ {w:World} {X F S:XS} {db:Nat} {m:DM} {vq:Value} {ct:List Int} (h:Dk w F db m) (hF:FX F X w) (hq:Sl w S 1 vq (ct.map I1)) (hS: ∀k,S k→X k∧ ¬F k) (hn: ∀x∈m.fs,x.1.size≤2^40) (hl:m.fs.length≤2^40):
  Ct pg 28 #[ptr db 0,vq] w X F fun v wa w'=>v= .tuple #[]∧Dk w' F db (m.jH ct):=by
 intro w0 hk;obtain⟨mb,l,h0,hz⟩:=h.mv (hF.mv hk);have hT:=hF.ft hk;have iz:FX F (ba w0) w0:=hF.kp hk;have ZP:Sl w0 (out F w0) 1 vq (ct.map I1):=hq.mv fun k ai yH=>⟨⟨aK yH hk.size,(hS k ai).2⟩,hk.block k (hS k ai).1⟩;have hql:=ZP.fQ;obtain⟨qb,qn,qc,rfl⟩:=ZP.form;apply JP;unfold Aq;refine cJ (Es ⟨mb,l,h0,hz⟩ (hT.fx fun _ h=>h) hn hl) kQ hT.s.has ?_;rintro vl HQ w1 X1 Sp tv oF aq;have cm:=hT.since aq;have h1:=h0.mv (aq.dZ hT.aU);have Dy:Sl w1 (fun k=>X1 k∧ ¬F k) 1 vl ((fB (m.fs.map (·.1))).map S1):=Sp.sl.mono fun k ai=>⟨oF k ai,fun hf=>by have:=(iz k hf).2;have:=ai.1;omega⟩;have DE: ∀n∈fB (m.fs.map (·.1)),(m.get n).isSome=true:=fun n hn=>by
  have:=(mK (m.fs.map (·.1))).mem_iff.1 hn;cases hg:m.get n with
  |some x=>rfl
  |none=>exact absurd this (getM_none.1 hg)
 have hB:aj (fun k=>X1 k∧ ¬F k) w1 X1 w1:=⟨Kp.refl _ _,fun k h=>h.1,cm.s.has⟩;have ZQ:m.jH ct= { ((fB (m.fs.map (·.1))).foldl (DM.qG ct) (m,0)).1 with ar:=0,dn:=false } :=rfl;generalize UN:fB (m.fs.map (·.1))=ns at Dy DE ZQ;have hnl:=Dy.fQ;obtain⟨lb,ln,lc,rfl⟩:=Dy.form;repeat' first|refine aI ?_;intros
 refine gN (fun m' a b w X=> ∃(j:Nat) (l:List (ByteArray×lr)) (x:DM×Nat),a=I j∧b=I x.2∧m'=ns.length-j∧j≤ns.length∧x.2≤j∧x=(ns.take j).foldl (DM.qG ct) (m,0)∧Ft w0 F w X F∧mc w F db mb l x.1 x.1.sz∧x.1.sz≤4194304∧(∀n∈ns,(x.1.get n).isSome=true)∧aj (fun k=>X1 k∧ ¬F k) w1 X w) ns.length
  ⟨0,l,(m,0),rfl,rfl,rfl,aN _,bf _,rfl,cm,h1,hz,DE,hB⟩ ?_
 clear cm h1 hB hT h0 hz;rintro m' a b w X ⟨j,l,x,rfl,rfl,rfl,hj,SG,hx,hT,h0,hz,DE,hB⟩;have hb:=h0.box.mv (Mv.sub hT.aU);have amH:=Dy.mv hB.mv;have hq':=ZP.mv hT.s.mv;have hm:=h0.map.mv jE (Mv.sub hT.aU) (A':=nX) fun _ h=>h.elim;rcases ej ns j with⟨cH,n,ke,hd⟩|⟨eh,hd⟩
 ·have lx:=DE n (aX ke);have mr:=h0.get n;have Pr:(ns.take (j+1)).foldl (DM.qG ct) (m,0)=DM.qG ct x n:=by rw [ca,ke,List.foldl_append,←hx];rfl
  repeat' first|refine bL ?_;intros
  refine fk (Q:=fun K=> ∀(x':DM×Nat) w X l,x'=DM.qG ct x n→Ft w0 F w X F→mc w F db mb l x'.1 x'.1.sz→x'.1.sz≤4194304→x'.2≤j+1→aj (fun k=>X1 k∧ ¬F k) w1 X w→K (I x'.2) w X) ?_ fun K hK=>?_
  ·intro x' w X l MO hT h0 hz SG hB;repeat' first|refine aI ?_;intros
   exact gA (ns.length-(j+1)) zQ ⟨j+1,l,x',by simp,rfl,rfl,by omega,SG,by rw [Pr];exact MO,hT,h0,hz,fun k ai=>by rw [MO];exact DM.aei (DE k ai),hB⟩
  ·repeat' first|refine aI ?_;intros
   refine ot hm (fun f hf=>?_) fun hf=>?_
   ·have JQ:x.1.get n=some (f.bs,f.safe):=by rw [mr,hf];rfl
    have hr:bH w X f.b [f.v,I f.safe] 141:=(h0.row _ (gQ hf)).mv (Mv.sub hT.aU);have ho:Ow w F 5 1 f.v (f.bs.map U1):=h0.ow _ (gQ hf);have ZO:=ho.sl.mono hT.aU;have hsf:f.safe≤f.bs.length:=h0.safe _ (gQ hf);have hle:=DM.sx JQ;have MP:DM.qG ct x n=if f.bs.length=f.safe then x else(x.1.put n (f.bs.take (f.safe+(match ct[x.2]? with|some p=>if 0≤p then p.toNat % (f.bs.length-f.safe+1)else 0|none=>0))) (f.safe+(match ct[x.2]? with|some p=>if 0≤p then p.toNat % (f.bs.length-f.safe+1)else 0|none=>0)),x.2+1):=by
     unfold DM.qG;rw [JQ]
    repeat' first|refine aI ?_;intros|refine de ?_ ?_<;>intros
    ·exact hK x _ _ l (by rw [MP,if_pos zQ]) hT h0 hz zQ hB
    ·rename_i fv;have ak6: ¬f.bs.length=f.safe:=by omega
     rw [if_neg ak6] at MP;generalize u6:(match ct[x.2]? with|some p=>if 0≤p then p.toNat % (f.bs.length-f.safe+1)else 0|none=>0)=k at MP;have lO:f.safe+k≤f.bs.length:=by
      rw [←u6];split
      ·split
       ·rename_i q _ _;have:=Nat.mod_lt q.toNat (show 0<f.bs.length-f.safe+1 by omega);generalize q.toNat % (f.bs.length-f.safe+1)=u at this;omega
       ·omega
      ·omega
     have dU:=DM.ZN (s':=f.safe+k) JQ lO;refine fk (Q:=fun K1=>K1 (I (k:Nat))) ?_ fun K1 Js=>?_
     ·repeat' first|refine aI ?_;intros
      have ak7:F db:=h0.box.1;refine sh hT h0 (fun _ h=>h) x.1 (x.1.put n (f.bs.take (f.safe+k)) (f.safe+k)).sz (o:=1) zQ kQ zQ rfl (by rw [show(((x.1.put n (f.bs.take (f.safe+k)) (f.safe+k)).sz:Nat):Int)=(x.1.sz:Int)-((f.bs.length:Int)-(f.safe:Int)-(k:Int))by omega];rfl) rfl h0.ar fun w4 X4 dS h4 c4=>?_;have hB4:=hB.dM c4 fun q hq e=>hq.2 (by rw [show q=db from e];exact ak7);have o9:bH w4 X4 f.b [f.v,I f.safe] 141:=(h4.row _ (gQ hf)).mv (Mv.sub dS.aU);have yI:Ow w4 F 5 1 f.v (f.bs.map U1):=h4.ow _ (gQ hf);clear hr ho ZO hb;repeat' first|refine aI ?_;intros
      refine VI (i:=f.safe+k) (yI.mono dS.aU) zQ zQ (by rw [aG];exact lO) kQ kQ fun v' hv hvb=>?_;rw [←qj] at hv;have hvF:Ow w4 F 5 1 v' ((f.bs.take (f.safe+k)).map U1):=hv.tight.mono fun q hq=>(yI.aU (by rw [←hvb];exact hq)).1;have ov:=hv.one;repeat' first|refine aI ?_;intros
      refine kK (o:=0) o9 zQ kQ (by simp) ov dS.s.has fun w5 X5 c5 sd=>?_;replace sd:bH w5 X5 f.b [v',I f.safe] 141:=sd;have hv5:=(hv.dM c5 fun q hq e=>hv.dJ o9 kQ (by rw [←(show q=f.b from e)];exact hq)).sl;have DC:(f.bs.take (f.safe+k)).length=f.safe+k:=by rw [bp];exact sI lO
      repeat' first|refine aI ?_;intros
      rw [DC];refine kK (o:=1) sd zQ kQ (by simp) rfl c5.has fun w6 X6 c6 FB=>?_;replace FB:bH w6 X6 f.b [v',I ((f.safe+k:Nat):Int)] 141:=FB;have cc:=c5.trans c6;have hFf:F f.b:=(h4.row _ (gQ hf)).1;have h6:=h4.cut (s':=f.safe+k) (dS.fx fun _ h=>h) hf cc hvF hvb FB (by rw [DC];exact bf _);refine hK (x.1.put n (f.bs.take (f.safe+k)) (f.safe+k),x.2+1) _ _ _ MP.symm (dS.dM cc (fun q e=>by rw [show q=f.b from e];exact hFf) fun q hq=>.inl hq) h6 (by show(x.1.put n _ _).sz≤_;omega) (by show x.2+1≤_;omega) (hB4.dM cc fun q hq e=>hq.2 (by rw [show q=f.b from e];exact hFf))
     ·repeat' first|refine aI ?_;intros|refine de ?_ ?_<;>intros
      ·rename_i Nw GJ;have VK:ct[x.2]? =some ct[x.2]:=bB zQ;rw [VK] at u6;dsimp only at u6;rw [if_pos zQ] at u6;have e1:ct[x.2]=((ct[x.2].toNat:Nat):Int):=by omega
       rw [e1,show(f.bs.length:Int)-(f.safe:Int)+1=((f.bs.length-f.safe+1:Nat):Int)by omega];refine acQ zQ ?_;rw [u6];exact Js
      ·rename_i Nw GJ;have VK:ct[x.2]? =some ct[x.2]:=bB zQ;rw [VK] at u6;dsimp only at u6;rw [if_neg zQ] at u6;subst u6;exact Js
      ·rename_i GJ;have VK:ct[x.2]? =none:=List.getElem?_eq_none zQ;rw [VK] at u6;subst u6;exact Js
   ·rw [mr,hf] at lx;cases lx
 ·have jM:j=ns.length:=by omega
  subst jM;rw [dE] at hx;rw [←hx] at ZQ;repeat' first|refine bL ?_;intros
  refine sh hT h0 (fun _ h=>h) { x.1 with dn:=false } x.1.sz (o:=4) zQ kQ zQ rfl rfl rfl h0.ar fun w4 X4 dS h4 c4=>?_;have uu:=h4.box.mv (Mv.sub dS.aU);clear hb;repeat' first|refine aI ?_;intros
  refine sh dS h4 (fun _ h=>h) { x.1 with ar:=0,dn:=false } x.1.sz (o:=3) zQ kQ zQ rfl rfl rfl (by show 0<2^63;decide) fun w5 X5 gR h5 c5=>?_;refine gR.fin fun wa aM=>⟨rfl,mb,l,?_,?_⟩
  ·rw [ZQ];exact h5.mv (aM.ew gR.aU)
  ·rw [ZQ];exact hz
def AP:List Nat→Nat→Option Nat
 |[],n=>some n
 |c::l,n=>if c<48∨57<c then none else AP l (n*10+(c-48))
def oN (dir name:ByteArray):Nat:=
 if name.size=dir.size+9∧name.extract 0 dir.size=dir∧name.data.toList[dir.size]? =some 46 then(AP (rI (name.extract (dir.size+1) name.size)) 0).getD 0 else 0
theorem ZR: ∀(l:List Nat) (n k:Nat),n<10^k→(AP l n).getD 0<10^(k+l.length)
 |[],n,k,h=>by simpa [AP] using h
 |c::l,n,k,h=>by
  unfold AP;split
  ·simp;exact Nat.pow_pos (by decide)
  ·have:=ZR l (n*10+(c-48)) (k+1) (by rw [jg];omega);rw [aY,show k+(l.length+1)=k+1+l.length by omega];exact this
theorem agG (dir name:ByteArray):oN dir name<100000000:=by
 unfold oN;split
 ·rename_i h;have h1:=ZR (rI (name.extract (dir.size+1) name.size)) 0 0 (by decide);have h2:(rI (name.extract (dir.size+1) name.size)).length=8:=by rw [GR,nu];omega
  rw [h2] at h1;exact h1
 ·decide
theorem SH (c:Nat) (l:List Nat) (n:Nat):AP (c::l) n=if c<48∨57<c then none else AP l (n*10+(c-48)):=rfl
theorem VL {w:World} {X:XS} {dir name:ByteArray} (hd:dir.size≤2^40) (hn:name.size≤2^41):Ct pg 81 #[.string dir,.string name] w X nX fun v wa w'=>v=I (oN dir name):=by
 intro w0 hk;apply Tn;unfold H6;have hs:=aj.init w0;have no: ¬(name.size=dir.size+9∧name.extract 0 dir.size=dir∧name.data.toList[dir.size]? =some 46)→oN dir name=0:=fun h=>by unfold oN;rw [if_neg h]
 by_cases h1:name.size=dir.size+9
 ·have hnl:name.data.toList.length=name.size:=(JR name).symm;obtain⟨c,hc⟩: ∃c,name.data.toList[dir.size]? =some c:=⟨_,bB zQ⟩;repeat' first|refine bL ?_;intros
  refine ahJ (i:=dir.size) rfl zQ kQ ?_;repeat' first|refine aI ?_;intros|refine de ?_ ?_<;>intros
  ·exact ak hs fun wa aM=>by rw [no (by simp_all)];rfl
  ·exact ak hs fun wa aM=>by rw [no (by rintro⟨_,_,h⟩;rw [hc] at h;simp_all)];rfl
  ·refine ahK (i:=dir.size+1) zQ zQ kQ ?_;refine acR (e:=5) hs.has (by rw [nu];omega) kQ kQ kQ fun vb w1 X1 aq j7=>?_;have Af:(rI (name.extract (dir.size+1) name.size)).length=8:=by rw [GR,nu];omega
   have ak8:c=46:=UInt8.toNat_inj.1 (by have:c.toNat=46:=(by omega);rw [this];rfl);have e1:oN dir name=(AP (rI (name.extract (dir.size+1) name.size)) 0).getD 0:=by
    unfold oN;rw [if_pos ⟨h1,by assumption,by rw [hc,ak8]⟩]
   rw [e1];have cH: ∀x∈rI (name.extract (dir.size+1) name.size),x<256:=fun x hx=>agH hx;generalize rI (name.extract (dir.size+1) name.size)=bs at j7 Af cH⊢;replace hs:=hs.trans aq;obtain⟨lb,ln,lc,rfl⟩:=j7.form;repeat' first|refine aI ?_;intros
   refine gN (fun m a b w X=> ∃(i n:Nat),a=I i∧b=I n∧m=bs.length-i∧i≤bs.length∧n<10^i∧AP bs 0=AP (bs.drop i) n∧aj X1 w1 X w∧aj (ba w0) w0 X w) bs.length ⟨0,0,rfl,rfl,rfl,aN _,by decide,rfl,aj.dY hs.has,hs⟩ ?_;clear hs;rintro m a b w X ⟨i,n,rfl,rfl,rfl,hi,hn,hf,bQ,hs⟩;have QS:=j7.mv bQ.mv;rcases ej bs i with⟨Nw,x,hx,Jl⟩|⟨eh,Jl⟩
   ·have amq:=cH x (aX hx);have hn8:n<10^8:=aK hn (Nat.pow_le_pow_right (by decide) zQ);have amI:n<100000000:=hn8;rw [Jl,SH] at hf;repeat' first|refine bL ?_;intros|refine de ?_ ?_<;>intros
    ·rw [if_pos (.inl zQ)] at hf;exact ak hs fun wa aM=>by rw [hf];rfl
    ·rw [if_pos (.inr zQ)] at hf;exact ak hs fun wa aM=>by rw [hf];rfl
    ·rw [if_neg zQ] at hf;refine ajO zQ zQ ?_;refine ZS ?_;rw [show IntKind.u8.wrap ((x:Int)-48)=((x-48:Nat):Int)by rw [DI];omega];repeat' first|refine aI ?_;intros
     rw [Ua zQ];repeat' first|refine aI ?_;intros
     refine gA (bs.length-(i+1)) zQ ⟨i+1,n*10+(x-48),by simp,by simp,rfl,by omega,by rw [jg];omega,hf,bQ,hs⟩
   ·have jM:i=bs.length:=by omega
    subst jM;rw [List.drop_length] at hf;repeat' first|refine bL ?_;intros
    exact ak hs fun wa aM=>by rw [hf];rfl
 ·repeat' first|refine bL ?_;intros
  exact ak hs fun wa aM=>by rw [no fun h=>h1 h.1];rfl
theorem SI: ∀(k:Nat) (b:List Nat),b.length≤k→(iA b).2≤b.length∧(iA b).1.length≤(iA b).2
 |0,b,h=>by rw [Yl zQ];simp
 |k+1,b,h=>by
  cases hf:kf b with
  |none=>rw [BO hf];simp
  |some q=>
   have h1:=O6 hf;rw [Pp hf];have h2:=SI k (b.drop (q.length+12)) (by rw [bU];omega);rw [bU] at h2;simp only [aY];omega
def LD.DJ (x:LD) (n:Nat):Bool:=decide (x.L.bI≠[]∧((x.m.bytes x.L.ee).length≠x.L.last.size∨n≠x.L.next))
noncomputable def LD.join (x:LD) (n:Nat) (nm:ByteArray):LD×Nat:=
 if x.DJ n then(x,13)else(⟨{ x.L with bI:=x.L.bI++[⟨n,(iA (x.m.bytes nm)).1,(iA (x.m.bytes nm)).2⟩] },x.m⟩,0)
noncomputable def LD.nN:LD→List ByteArray→LD×Nat
 |x,[]=>(x,0)
 |x,nm::r=>if oN x.L.dir nm=0 then x.nN r else if(x.join (oN x.L.dir nm) nm).2≠0 then x.join (oN x.L.dir nm) nm else(x.join (oN x.L.dir nm) nm).1.nN r
def LD.EG (x:LD):LD×Nat:=
 if x.L.last.size<(x.m.bytes x.L.ee).length then
  if(x.m.cut x.L.ee x.L.last.size).2≠0 then(⟨x.L,(x.m.cut x.L.ee x.L.last.size).1⟩,(x.m.cut x.L.ee x.L.last.size).2)else LD.sync ⟨x.L,(x.m.cut x.L.ee x.L.last.size).1⟩
 else x.sync
noncomputable def LD.uy (dir:ByteArray) (room:Nat) (m:DM):LD×Nat:=
 if m.dn then(⟨L0 dir room,m⟩,12)else
  let q:=LD.nN ⟨L0 dir room,m⟩ (fB (m.fs.map (·.1)))
  if q.2≠0 then q else if q.1.L.bI=[] then q.1.fI 1 else q.1.EG
theorem DM.JS {w:World} {F:XS} {db:Nat} {m:DM} (h:Dk w F db m) (n:ByteArray):(m.bytes n).length≤4194304:=by
 obtain⟨mb,l,h,hz⟩:=h;unfold DM.bytes;cases hg:m.get n with
 |none=>simp
 |some x=>have:=DM.sx (b:=x.1) (s:=x.2) hg;simp;omega
theorem aaN {w:World} {X F:XS} {lb db n:Nat} {L:LM} {m:DM} {nm:ByteArray} (h:Lg w F lb db L m) (lz:L.bI≠[]→iT L) (pY:L.dir.size≤11) (hn:n≤2^40) (j7:L.bI.length≤2^30) (H7: ∀b∈m.bytes nm,b<256) (hF:FX F X w):
  Ct pg 82 #[ptr lb 0,I n,.string nm] w X F fun v wa w'=>v=I (LD.join ⟨L,m⟩ n nm).2∧ ∃F',(∀k,F' k→F k∨made wa w' k)∧Lg w' F' lb db (LD.join ⟨L,m⟩ n nm).1.L (LD.join ⟨L,m⟩ n nm).1.m:=by
 intro w0 hk;obtain⟨FL,FD,sv,bl,h⟩:=(h.mv (hF.mv hk)).lw;have hT:=hF.ft hk;have iz:FX F (ba w0) w0:=hF.kp hk;have hX:=fun k ai=>(iz k (h.hL k ai)).1;have hb:=h.l.box.mv (Mv.sub hX);have uZ:=h.l.so.sl.mono hX;have Af:bl.length=L.bI.length:=by rw [h.l.bI,aG]
 have amJ:=DM.JS h.d nm;have eJ:LD.join ⟨L,m⟩ n nm=if LD.DJ ⟨L,m⟩ n then(⟨L,m⟩,13)else(⟨{ L with bI:=L.bI++[⟨n,(iA (m.bytes nm)).1,(iA (m.bytes nm)).2⟩] },m⟩,0):=rfl
 apply Ps;unfold DK;have hs:=aj.init w0;refine fk (Q:=fun K=> ∀w1 X1,LD.DJ ⟨L,m⟩ n=false→aj (ba w0) w0 X1 w1→K w1 X1) ?_ fun K hK=>?_
 ·intro w1 X1 hj aq;rw [eJ,hj];have cm:=hT.since aq;have h1:=h.mv (aq.dZ hT.aU);have kW:=hb.since aq;clear hs hb uZ;repeat' first|refine aI ?_;intros
  refine cJ (EF (n:=nm) h1.d (cm.fx h1.hD)) kQ cm.s.has ?_;rintro _ rZ w2 X2 ⟨vb,rfl,Bi⟩ sD ph bQ;have bK:=cm.since bQ;have h2:=h1.mv (bQ.dZ cm.aU);repeat' first|refine aI ?_;intros
  refine cJ (VE (Bi.sl.mono ph) zQ H7) kQ bK.s.has ?_;rintro _ oG w3 X3 ⟨va,rs,rfl,hrs,Pe,VM⟩ nJ mg cl;have cn:=bK.since cl;have h3:=h2.mv (cl.dZ bK.aU);have SJ: ∀k,FL k→X3 k:=fun k ai=>cn.aU k (h3.hL k ai);have zY:=(kW.since bQ).since cl;have QY:=h3.l.so.mono SJ;have o3:=h3.l.so.one;have oa:=Pe.sl.one;obtain⟨ab,an,ac,rfl⟩:=Pe.sl.form;generalize dU:(iA (m.bytes nm)).2=sz;have ME:=aq.kp.size;have MD:=bQ.kp.size;have hz3:=cl.kp.size;repeat' first|refine aI ?_;intros
  refine kX cn.s.has fun bx w4 X4 gT ff dA=>?_;have NH:=QY.mv ff.mv;refine Jm (bytes:=8) (row:=[ptr bx 0]) NH ff.has kQ rfl rfl rfl (by simp;omega) (by simp;omega) fun wO w5 X5 c5 qx aej=>?_;have uu:=zY.since ff;have cU: ∀q,iu sv q→q≠lb:=fun q hq e=>NH.dJ uu kQ (by rw [←e];exact hq);have Sq:bH w5 X5 lb [ptr db 0,.string L.dir,I L.room,sv,I L.safe] 158:=⟨c5.sub _ uu.1,by rw [c5.block _ uu.1 fun hq=>cU _ hq rfl];exact uu.2⟩;clear kW zY;repeat' first|refine aI ?_;intros
  refine kK (o:=3) Sq zQ kQ (by simp) qx.one c5.has fun w6 X6 c6 FB=>?_;have NI: ∀q,iu sv q→FL q:=fun q hq=>(h3.l.so.aU hq).1;have cc:eD (fun k=>k=lb∨sv.ownBlock=some k) X3 w3 X6 w6:=((eD.tO ff _).trans (c5.mono fun k _ ai=>.inr ai)).trans (c6.mono fun k _ ai=>.inl ai);have gB:Ft w0 F w6 X6 (fun k=>F k∨(X6 k∧w0.heap.size≤k)):=(cn.dM (F':=F) cc (fun k ai=>by
   rcases ai with rfl|ai
   ·exact h3.hL _ h3.l.box.1
   ·exact h3.hL _ (NI _ ai)) fun k ai=>.inl ai).more fun k ai=>ai
  have Cq: ∀g,wO.ownBlock=some g→FL g∨(X6 g∧w0.heap.size≤g):=fun g hg=>by
   rcases aej with e|⟨g',e,eh⟩
   ·exact .inl (NI _ (e.symm.trans hg))
   ·rw [hg] at e;have:g=g':=bC e;subst this;exact .inr ⟨c6.sub _ (qx.aU hg).1,by have:=ff.kp.size;omega⟩
  have aek:wO.ownBlock≠some lb:=qx.dJ Sq kQ;have aaO:bx≠lb:=dA.dJ uu kQ;have aaP: ¬iu sv bx:=fun hq=>NH.dJ dA kQ hq;have fresh: ∀{e:TypeId} {v:Value} {rows:List (List Value)},decide (e≠158)=true→decide (e≠164)=true→Own w3 (made oG w3) oG.heap.size e 1 v rows→Ow w6 (fun k=>FL k∨(X6 k∧w0.heap.size≤k)) e 1 v rows:=fun {e v rows} HV HW ho=>by
   have Bj:Ow w3 X3 e 1 v rows:=ho.ow.mono mg;refine ho.ow.tight.mv fun k ai hl=>⟨.inr ⟨cc.sub k (Bj.aU ai).1,by have:=(ho.ow.aU ai).1.1;omega⟩,cc.block k (Bj.aU ai).1 fun hg=>?_⟩;rcases hg with rfl|hg
   ·exact Bj.dJ (h3.l.box.mv (Mv.sub SJ)) HV ai
   ·obtain⟨c1,e1⟩:=Bj.tag ai;obtain⟨c2,e2⟩:=QY.tag hg;rw [e1] at e2;simp only [aB,Obj.cells.injEq] at e2;exact of_decide_eq_true HW e2.2.1
  have hL6:=h3.l.QZ (xD:=fun k=>FL k∨(X6 k∧w0.heap.size≤k)) (wO:=wO) (m8:=bl++[⟨bx,n,.slice ab an ac,rs,sz⟩]) (cn.fx h3.hL) cc (fun k ai=>ai) (fun k ai=>.inl ai) ⟨.inl h3.l.box.1,FB.2⟩ ?_ ?_ ?_
  ·refine gB.fin fun wa aM=>⟨rfl,_,gB.fL aM fun _ h=>h,?_⟩;have e:({ L with bI:=(bl++[(⟨bx,n,.slice ab an ac,rs,sz⟩:jm)]).map jm.er } :LM)= { L with bI:=L.bI++[⟨n,(iA (m.bytes nm)).1,sz⟩] } :=by
    rw [aT,←h3.l.bI,←hrs];rfl
   rw [if_neg fe,←e];refine Lg.mv ⟨_,FD,wO,_,?_,?_,?_,hL6,h3.d.mv (cc.ew fun k ai=>⟨cn.aU k (h3.hD k ai),fun hg=>?_⟩)⟩ (aM.ew gB.aU)
   ·intro k ha fR;rcases ha with ha|ha
    ·exact h3.dj k ha fR
    ·have:=(iz k (h3.hD k fR)).2;omega
   ·exact fun k ai=>ai.imp (h3.hL k) id
   ·exact fun k ai=>.inl (h3.hD k ai)
   ·rcases hg with rfl|hg
    ·exact h3.dj _ h3.l.box.1 ai
    ·exact h3.dj _ (NI _ hg) ai
  ·rw [aT];refine qx.tight.mv fun k ai hl=>⟨Cq k ai,c6.block k (qx.aU ai).1 fun e=>aek (by rw [←(show k=lb from e)];exact ai)⟩
  ·intro s qv;rcases List.mem_append.1 qv with qv|qv
   ·exact .inl qv
   ·simp only [aV] at qv;subst qv;have hb6:w6.heap[bx]? =w4.heap[bx]? :=by
     rw [c6.block bx (c5.sub _ dA.1) aaO,c5.block bx dA.1 aaP]
    exact .inr ⟨⟨.inr ⟨c6.sub _ (c5.sub _ dA.1),by show w0.heap.size≤bx;omega⟩,by rw [hb6];exact dA.2⟩,fresh kQ kQ Pe,fun r hr=>fresh kQ kQ (VM r hr)⟩
  ·refine List.pairwise_append.2 ⟨h3.l.ap,List.pairwise_singleton _ _,fun x hx y hy=>?_⟩;simp only [aV] at hy;subst hy;refine⟨fun e=>?_,fun g hg uW=>?_⟩
   ·have:=(cn.fx h3.hL _ (h3.l.row x hx).1).2;have e':x.b=bx:=e;omega
   ·have a1:=(iz g (h3.hL g ((h3.l.Ar x hx).aU hg).1)).2;have a2:=(Pe.ow.aU (g:=g) uW).1.1;omega
 ·by_cases cU:L.bI=[]
  ·have amK:bl.length=0:=by rw [Af,cU];rfl
   have hj:LD.DJ ⟨L,m⟩ n=false:=by simp [LD.DJ,cU]
   repeat' first|refine bL ?_;intros
   exact hK _ _ hj hs
  ·obtain⟨m8,s,rfl,he,qX⟩:=h.l.last (lz cU);have hL:=lz cU;have hlen:=uZ.fQ;have xw:(m8++[s]).length=m8.length+1:=by simp
   have we:(m8++[s])[m8.length]? =some s:=by simp
   have mh:s∈m8++[s]:=by simp
   have pF:=(h.l.row s mh).mv (Mv.sub hX);have hrc:=(h.l.Ar s mh).sl.mono hX;have CI:s.first=L.last.first:=by rw [←he];rfl
   have dU:s.size=L.last.size:=by rw [←he];rfl
   have tN:s.rs.length=L.last.bS.length:=by rw [←he];simp [jm.er]
   have hls:=hL.qd _ (LM.oJ hL.ne);have oH:L.next=L.last.first+L.last.bS.length:=rfl
   repeat' first|refine bL ?_;intros
   rw [CI];refine cJ (rJ zQ zQ) kQ hs.has ?_;rintro _ HQ w1 X1 rfl tv oF aq;have cm:=hT.since aq;have h1:=h.mv (aq.dZ hT.aU);refine cJ (EF (n:=bw L.dir L.last.first) h1.d (cm.fx h1.hD)) kQ cm.s.has ?_;rintro _ rZ w2 X2 ⟨vb,rfl,Bi⟩ sD ph bQ;have ak9:=Bi.sl.mono ph;have ala:=ak9.fQ;have gX:=aq.trans bQ;have aaQ:=pF.since gX;have amL:=hrc.mv gX.mv;have eN:L.ee=bw L.dir L.last.first:=rfl
   have eE:LD.DJ ⟨L,m⟩ n=decide (L.bI≠[]∧((m.bytes (bw L.dir L.last.first)).length≠L.last.size∨n≠L.next)):=rfl;rw [eE] at hK eJ;have bK:=hT.since gX;have h2:=h.mv (gX.dZ hT.aU);clear hs pF hrc;have hs:=aj.dY gX.has;repeat' first|refine aI ?_;intros|refine de ?_ ?_<;>intros
   ·rw [eJ,if_pos (by simp only [decide_eq_true_eq];exact⟨cU,.inl zQ⟩)];exact bK.fin fun wa aM=>⟨rfl,F,bK.fL aM fun _ h=>h,(h2.mv (aM.ew bK.aU)).lg⟩
   ·rw [eJ,if_pos (by simp only [decide_eq_true_eq];exact⟨cU,.inr zQ⟩)];exact bK.fin fun wa aM=>⟨rfl,F,bK.fL aM fun _ h=>h,(h2.mv (aM.ew bK.aU)).lg⟩
   ·exact hK _ _ (by simp only [decide_eq_false_iff_not];rintro⟨_,h|h⟩<;>omega) gX
theorem aaR {w:World} {X F:XS} {lb db:Nat} {L:LM} {m:DM} (h:Lg w F lb db L m) (hL:iT L) (hF:FX F X w):
  Ct pg 84 #[ptr lb 0] w X F fun v wa w'=>v=I (LD.EG ⟨L,m⟩).2∧ ∃F',(∀k,F' k→F k∨made wa w' k)∧Lg w' F' lb db (LD.EG ⟨L,m⟩).1.L (LD.EG ⟨L,m⟩).1.m:=by
 intro w0 hk;obtain⟨FL,FD,sv,bl,h⟩:=(h.mv (hF.mv hk)).lw;have hT:=hF.ft hk;have iz:FX F (ba w0) w0:=hF.kp hk;obtain⟨m8,s,rfl,he,qX⟩:=h.l.last hL;have hX:=fun k ai=>(iz k (h.hL k ai)).1;have mh:s∈m8++[s]:=by simp
 have hb:=h.l.box.mv (Mv.sub hX);have pF:=(h.l.row s mh).mv (Mv.sub hX);have CI:s.first=L.last.first:=by rw [←he];rfl
 have dU:s.size=L.last.size:=by rw [←he];rfl
 have hls:=hL.qd _ (LM.oJ hL.ne);have pY:=hL.d2;have eN:L.ee=bw L.dir L.last.first:=rfl
 have eM:LD.EG ⟨L,m⟩=if L.last.size<(m.bytes (bw L.dir L.last.first)).length then
   if(m.cut (bw L.dir L.last.first) L.last.size).2≠0 then(⟨L,(m.cut (bw L.dir L.last.first) L.last.size).1⟩,(m.cut (bw L.dir L.last.first) L.last.size).2)else LD.sync ⟨L,(m.cut (bw L.dir L.last.first) L.last.size).1⟩
  else LD.sync ⟨L,m⟩:=rfl
 apply Pt;unfold DL;have hs:=aj.init w0;refine cJ (ug h.l fun k ai=>iz k (h.hL k ai)) kQ hs.has ?_;rintro _ HQ w1 X1 rfl tv oF aq;have kW:=hb.since aq;have VN:=pF.since aq;clear hs hb pF;have hs:=aj.dY aq.has;repeat' first|refine aI ?_;intros
 rw [CI];refine cJ (rJ zQ zQ) kQ aq.has ?_;rintro _ rZ w2 X2 rfl sD ph bQ;have ny:=kW.since bQ;have aaQ:=VN.since bQ;have gX:=aq.trans bQ;have bK:=hT.since gX;have h2:=h.mv (gX.dZ hT.aU);clear hs kW VN;refine fk (Q:=fun K=> ∀w1 X1 F1 m1,LD.EG ⟨L,m⟩=LD.sync ⟨L,m1⟩→Ft w0 F w1 X1 F1→Lg w1 F1 lb db L m1→K w1 X1) ?_ fun K hK=>?_
 ·intro w3 X3 F3 m3 e3 cn h3
  skip
  refine cn.call (BN h3 hL (cn.fx fun _ h=>h)) kQ (fun _ h=>h) fun v yJ w4 X4 hq sF lK dS sc=>?_;obtain⟨rfl,F4,Jt,h4⟩:=hq;rw [e3];have po:=dS.less Jt
  skip
  exact po.fin fun wa aM=>⟨rfl,F4,po.fL aM fun _ h=>h,h4.mv (aM.ew po.aU)⟩
 ·have hs:=aj.dY bK.s.has;repeat' first|refine aI ?_;intros
  refine cJ (EF (n:=bw L.dir L.last.first) h2.d (bK.fx h2.hD)) kQ bK.s.has ?_;rintro _ oG w3 X3 ⟨vb,rfl,Bi⟩ nJ mg cl;have alb:=Bi.sl.mono mg;have ala:=alb.fQ;have Af:=DM.JS h.d (bw L.dir L.last.first);have cn:=bK.since cl;have h3:=h2.mv (cl.dZ bK.aU);have zY:=ny.since cl;have amM:=aaQ.since cl;clear hs ny aaQ;have hs:=aj.dY cn.s.has;repeat' first|refine aI ?_;intros|refine de ?_ ?_<;>intros
  ·rw [if_pos zQ] at eM;rw [dU];refine cn.call (aaK (k:=L.last.size) (n:=bw L.dir L.last.first) h3.d (cn.fx h3.hD) zQ) kQ h3.hD fun v yJ w4 X4 hq sF lK dS sc=>?_;obtain⟨rfl,FC,GS,hD⟩:=hq;have h4:=h3.CJ (cn.fx fun _ h=>h) sF sc GS hD;generalize hms:m.cut (bw L.dir L.last.first) L.last.size=ms at h4 eM⊢;repeat' first|refine aI ?_;intros|refine de ?_ ?_<;>intros
   ·have hz:ms.2≠0:=by have: ¬(ms.2:Int)=0:=(by assumption);omega
    rw [if_pos hz] at eM;rw [eM];exact dS.fin fun wa aM=>⟨rfl,_,dS.fL aM fun _ h=>h,(h4.mv (aM.ew dS.aU)).lg⟩
   ·have hz:ms.2=0:=by have:(ms.2:Int)=0:=(by assumption);omega
    rw [if_neg zQ] at eM;exact hK _ _ _ ms.1 eM dS h4.lg
  ·rw [if_neg zQ] at eM;exact hK _ _ F m eM cn h3.lg
structure VO (L:LM):Prop where
 d1:1≤L.dir.size
 d2:L.dir.size≤11
 qd: ∀s∈L.bI,s.first+s.bS.length≤2^40∧s.size≤2^40
 room:L.room≤2^40
theorem VO.Fs {L:LM} (h:VO L) (cU:L.bI≠[]):iT L:=⟨cU,h.d1,h.d2,h.qd,h.room⟩
theorem VO.join {x:LD} {n:Nat} {nm:ByteArray} (h:VO x.L) (hn:n≤100000000) (hb:(x.m.bytes nm).length≤4194304):VO (x.join n nm).1.L∧(x.join n nm).1.m=x.m∧(x.join n nm).1.L.dir=x.L.dir∧(x.join n nm).1.L.bI.length≤x.L.bI.length+1:=by
 unfold LD.join;split
 ·exact⟨h,rfl,rfl,by simp⟩
 ·refine⟨⟨h.d1,h.d2,fun s hs=>?_,h.room⟩,rfl,rfl,by simp⟩;rcases List.mem_append.1 hs with hs|hs
  ·exact h.qd s hs
  ·simp only [aV] at hs;subst hs;have:=SI _ (x.m.bytes nm) (bf _)
   show n+(iA (x.m.bytes nm)).1.length≤2^40∧(iA (x.m.bytes nm)).2≤2^40
   omega
theorem aaS {w:World} {X F:XS} {db sz:Nat} {dir:ByteArray} {m:DM} (h:Dk w F db m) (hF:FX F X w) (DE: ∀x∈m.fs,x.1.size≤2^40) (eI:m.fs.length≤2^29) (H7: ∀n,∀b∈m.bytes n,b<256)
  (h1:1≤dir.size) (h2:dir.size≤11) (aq:64≤sz) (bQ:sz≤262144):
  Ct pg 41 #[ptr db 0,.string dir,I sz] w X F fun v wa w'=> ∃lb F',v= .tuple #[if(LD.uy dir sz m).2=0 then ptr lb 0 else .pointer none,I (LD.uy dir sz m).2]∧(∀k,F' k→F k∨made wa w' k)∧
   Dk w' F' db (LD.uy dir sz m).1.m∧((LD.uy dir sz m).2=0→Lg w' F' lb db (LD.uy dir sz m).1.L (LD.uy dir sz m).1.m):=by
 intro w0 hk;replace h:=h.mv (hF.mv hk);have hT:=hF.ft hk;have iz:FX F (ba w0) w0:=hF.kp hk;have eO:LD.uy dir sz m=if m.dn then(⟨L0 dir sz,m⟩,12)else
   if(LD.nN ⟨L0 dir sz,m⟩ (fB (m.fs.map (·.1)))).2≠0 then LD.nN ⟨L0 dir sz,m⟩ (fB (m.fs.map (·.1)))else
    if(LD.nN ⟨L0 dir sz,m⟩ (fB (m.fs.map (·.1)))).1.L.bI=[] then(LD.nN ⟨L0 dir sz,m⟩ (fB (m.fs.map (·.1)))).1.fI 1 else(LD.nN ⟨L0 dir sz,m⟩ (fB (m.fs.map (·.1)))).1.EG:=rfl
 generalize hr:LD.uy dir sz m=r at eO⊢;apply MF;unfold Ew;refine cJ (O7 (n:=1) h1 h2 zQ zQ) kQ hT.s.has ?_;rintro _ HQ w1 X1 rfl tv oF vW;replace hT:=hT.since vW;replace h:=h.mv (vW.dZ fun k ai=>(iz k ai).1);repeat' first|refine bL ?_;intros
 refine dy (MG h (hT.fx fun _ h=>h)) kQ hT.s.has fun w2 X2 nK=>?_;replace h:=h.mv (nK.dZ hT.aU);replace hT:=hT.since nK;cases gg:m.dn with
 |true=>
  rw [gg,if_pos rfl] at eO;subst eO;repeat' first|refine aI ?_;intros
  exact hT.fin fun wa aM=>⟨0,F,rfl,hT.fL aM fun _ h=>h,h.mv (aM.ew hT.aU),fun e=>by cases e⟩
 |false=>
  rw [gg,if_neg fe] at eO;repeat' first|refine aI ?_;intros
  refine kX hT.s.has fun lb w3 X3 zV cl dA=>?_;have h3:=h.mv (cl.dZ hT.aU);have cn:=hT.since cl;have Sn: ∀k,F k→k<w2.heap.size:=fun k ai=>hT.s.has k (hT.aU k ai);have fX:Ft w0 F w3 X3 (fun k=>F k∨k=lb):=cn.more fun k ai=>ai.imp id fun e=>by
   subst e;have:=hT.s.kp.size;exact⟨dA.1,by omega⟩
  have g3:Lg w3 (fun k=>F k∨k=lb) lb db (L0 dir sz) m:=
   ⟨(· =lb),F,.slice none 0 0,[],fun k a b=>by have:=Sn k b;omega,fun _ h=>.inr h,fun _ h=>.inl h,
    ⟨rfl,⟨rfl,dA.2⟩,⟨by simp,.inl ⟨rfl,rfl⟩⟩,by simp,by simp,by simp,List.Pairwise.nil⟩,h3⟩
  refine cJ (Es h3 (cn.fx fun _ h=>h) DE zQ) kQ cn.s.has ?_;rintro vl yJ w4 X4 Sp sF lK ff;have dS:=fX.since ff;have g4:=g3.mv (ff.dZ fX.aU);have alc:=dA.lt;have hGl: ∀k,(F k∨k=lb)→k<w3.heap.size:=fun k ai=>ai.elim (fun ai=>by have:=Sn k ai;have:=cl.kp.size;omega) fun e=>by subst e;exact alc
  have Dy:Sl w4 (fun k=>X4 k∧ ¬(F k∨k=lb)) 1 vl ((fB (m.fs.map (·.1))).map S1):=Sp.sl.mono fun k ai=>⟨lK k ai,fun hf=>by have:=hGl k hf;have:=ai.1;omega⟩;have hB:aj (fun k=>X4 k∧ ¬(F k∨k=lb)) w4 X4 w4:=⟨Kp.refl _ _,fun k h=>h.1,dS.s.has⟩;have ald:=dS.s.has;have ahL: ∀n∈fB (m.fs.map (·.1)),n.size≤2^40:=fun n hn=>by
   have:=(mK (m.fs.map (·.1))).mem_iff.1 hn;obtain⟨x,hx,rfl⟩:=List.mem_map.1 this;exact DE x hx
  have hnl:(fB (m.fs.map (·.1))).length=m.fs.length:=by rw [(mK _).length_eq,aG]
  generalize fB (m.fs.map (·.1))=ns at Dy eO ahL hnl;have amN:=Dy.fQ;obtain⟨nb,nn,nc,rfl⟩:=Dy.form;clear hT cn fX g3 h3 h dA Sp;repeat' first|refine aI ?_;intros
  refine fV (fun n' a w X=> ∃(i:Nat) (F1:XS) (x:LD),a=I i∧n'=ns.length-i∧i≤ns.length∧LD.nN ⟨L0 dir sz,m⟩ ns=x.nN (ns.drop i)∧VO x.L∧x.m=m∧x.L.dir=dir∧x.L.bI.length≤i∧Ft w0 F w X F1∧Lg w F1 lb db x.L x.m∧
   (∀k,F1 k→(F k∨k=lb)∨w4.heap.size≤k)∧aj (fun k=>X4 k∧ ¬(F k∨k=lb)) w4 X w) ns.length
   ⟨0,_,⟨L0 dir sz,m⟩,rfl,rfl,aN _,rfl,⟨h1,h2,by simp [L0],by show sz≤_;omega⟩,rfl,rfl,bf _,dS,g4,fun k ai=>.inl ai,hB⟩ ?_
  clear dS g4 hB;rintro n' a w5 X5 ⟨i,F1,x,rfl,rfl,hi,DN,E6,Ss,hxd,U6,gR,h5,ael,hB⟩;obtain⟨FL,FD,sv,bl,hW⟩:=h5.lw;have Sq:=hW.l.box.mv (Mv.sub fun k ai=>gR.aU k (hW.hL k ai));have hsv:=hW.l.so.sl.mono fun k ai=>gR.aU k (hW.hL k ai);have Af:bl.length=x.L.bI.length:=by rw [hW.l.bI,aG]
  have amO:=Dy.mv hB.mv;rcases ej ns i with⟨cH,nm,ke,hd⟩|⟨eh,hd⟩
  ·have amP:=ahL nm (aX ke);rw [hd] at DN;have eJ:x.nN (nm::ns.drop (i+1))=if oN x.L.dir nm=0 then x.nN (ns.drop (i+1))else if(x.join (oN x.L.dir nm) nm).2≠0 then x.join (oN x.L.dir nm) nm else(x.join (oN x.L.dir nm) nm).1.nN (ns.drop (i+1)):=rfl
   rw [eJ,hxd] at DN;have hnN:=agG dir nm;repeat' first|refine bL ?_;intros
   refine fk (Q:=fun K=> ∀w X F1 x,LD.nN ⟨L0 dir sz,m⟩ ns=LD.nN x (ns.drop (i+1))→VO x.L→x.m=m→x.L.dir=dir→x.L.bI.length≤i+1→Ft w0 F w X F1→Lg w F1 lb db x.L x.m→(∀k,F1 k→(F k∨k=lb)∨w4.heap.size≤k)→
    aj (fun k=>X4 k∧ ¬(F k∨k=lb)) w4 X w→K w X) ?_ fun K hK=>?_
   ·intro w X F1 x q1 q2 q3 q4 q5 q6 q7 q8 q9;repeat' first|refine aI ?_;intros
    exact fF (ns.length-(i+1)) zQ ⟨i+1,F1,x,by simp,rfl,by omega,q1,q2,q3,q4,q5,q6,q7,q8,q9⟩
   ·repeat' first|refine aI ?_;intros
    refine dy (VL (dir:=dir) (name:=nm) zQ zQ) kQ gR.s.has fun w6 X6 pG=>?_;have gB:=gR.since pG;have h6:=h5.mv (pG.dZ gR.aU);have hB6:=hB.trans pG;repeat' first|refine aI ?_;intros|refine de ?_ ?_<;>intros
    ·rw [if_pos zQ] at DN;exact hK _ _ F1 x DN E6 Ss hxd zQ gB h6 ael hB6
    ·rw [if_neg zQ] at DN;have ahM:=DM.JS hW.d nm;obtain⟨j1,j2,j3,j4⟩:=E6.join (n:=oN dir nm) (nm:=nm) zQ ahM;refine gB.call (aaN (n:=oN dir nm) (nm:=nm) h6 (fun cU=>E6.Fs cU) E6.d2 zQ zQ (by rw [Ss];exact H7 nm) (gB.fx fun _ h=>h)) kQ (fun _ h=>h) fun v wa7 w7 X7 hq aaw Nu lP hc7=>?_;obtain⟨rfl,F7,hF7,h7⟩:=hq;have ex:x.join (oN dir nm) nm=LD.join ⟨x.L,x.m⟩ (oN dir nm) nm:=rfl;rw [ex] at DN j1 j2 j3 j4;generalize hq:LD.join ⟨x.L,x.m⟩ (oN dir nm) nm=q at DN h7 j1 j2 j3 j4⊢;have aaT:=lP.less hF7;have hB7:aj (fun k=>X4 k∧ ¬(F k∨k=lb)) w4 X7 w7:=hB6.dM hc7 fun k ai hf=>by
      rcases ael k hf with hf|hf
      ·exact ai.2 hf
      ·have:=ald k ai.1;omega
     have ale: ∀k,F7 k→(F k∨k=lb)∨w4.heap.size≤k:=fun k ai=>(hF7 k ai).elim (fun h=>ael k h) fun h=>.inr (by have:=h.1;have:=hB6.kp.size;omega);repeat' first|refine aI ?_;intros|refine de ?_ ?_<;>intros
     ·have hz:q.2≠0:=by have: ¬(q.2:Int)=0:=(by assumption);omega
      rw [if_pos hz] at DN;rw [DN,if_pos hz] at eO;subst eO;obtain⟨FL7,FD7,sv7,bl7,hW7⟩:=h7.lw;exact aaT.fin fun wa aM=>⟨lb,F7,by rw [if_neg hz],aaT.fL aM fun _ h=>h,(hW7.d.mono hW7.hD).mv (aM.ew aaT.aU),fun e=>absurd e hz⟩
     ·have hz:q.2=0:=by have:(q.2:Int)=0:=(by assumption);omega
      rw [if_neg zQ] at DN;refine hK _ _ F7 q.1 DN j1 (by rw [j2];exact Ss) (by rw [j3];exact hxd) zQ aaT h7 ale hB7
  ·have jM:i=ns.length:=by omega
   subst jM;rw [hd] at DN;have ejn:x.nN []=(x,0):=rfl;rw [ejn] at DN;rw [DN,if_neg (by simp)] at eO;dsimp only at eO;repeat' first|refine bL ?_;intros|refine de ?_ ?_<;>intros
   ·have adP:x.L.bI=[]:=List.eq_nil_of_length_eq_zero zQ;rw [if_pos adP] at eO;refine gR.call (GD (n:=1) h5 E6.d2 zQ zQ (gR.fx fun _ h=>h)) kQ (fun _ h=>h) fun v MH w6 X6 O8 Nv Cq gB O9=>?_;obtain⟨rfl,F6,Pa,h6⟩:=O8;have rB:Ft w0 F w6 X6 F6:=gB.less Pa;have ex:LD.fI ⟨x.L,x.m⟩ 1=r:=eO.symm;rw [ex] at h6⊢;obtain⟨FL6,FD6,sv6,bl6,Pu⟩:=h6.lw;repeat' first|refine aI ?_;intros|refine de ?_ ?_<;>intros
    ·have hz:r.2≠0:=by have: ¬(r.2:Int)=0:=(by assumption);omega
     exact rB.fin fun wa aM=>⟨lb,F6,by rw [if_neg hz],rB.fL aM fun _ h=>h,(Pu.d.mono Pu.hD).mv (aM.ew rB.aU),fun e=>absurd e hz⟩
    ·have hz:r.2=0:=by have:(r.2:Int)=0:=(by assumption);omega
     exact rB.fin fun wa aM=>⟨lb,F6,by rw [if_pos hz,hz];rfl,rB.fL aM fun _ h=>h,(Pu.d.mono Pu.hD).mv (aM.ew rB.aU),fun _=>h6.mv (aM.ew rB.aU)⟩
   ·have cU:x.L.bI≠[]:=fun e=>by
     have:x.L.bI.length=0:=by rw [e];rfl
     omega
    rw [if_neg cU] at eO;refine gR.call (aaR h5 (E6.Fs cU) (gR.fx fun _ h=>h)) kQ (fun _ h=>h) fun v MH w6 X6 O8 Nv Cq gB O9=>?_;obtain⟨rfl,F6,Pa,h6⟩:=O8;have rB:Ft w0 F w6 X6 F6:=gB.less Pa;have ex:LD.EG ⟨x.L,x.m⟩=r:=eO.symm;rw [ex] at h6⊢;obtain⟨FL6,FD6,sv6,bl6,Pu⟩:=h6.lw;repeat' first|refine aI ?_;intros|refine de ?_ ?_<;>intros
    ·have hz:r.2≠0:=by have: ¬(r.2:Int)=0:=(by assumption);omega
     exact rB.fin fun wa aM=>⟨lb,F6,by rw [if_neg hz],rB.fL aM fun _ h=>h,(Pu.d.mono Pu.hD).mv (aM.ew rB.aU),fun e=>absurd e hz⟩
    ·have hz:r.2=0:=by have:(r.2:Int)=0:=(by assumption);omega
     exact rB.fin fun wa aM=>⟨lb,F6,by rw [if_pos hz,hz];rfl,rB.fL aM fun _ h=>h,(Pu.d.mono Pu.hD).mv (aM.ew rB.aU),fun _=>h6.mv (aM.ew rB.aU)⟩
def LM.has (L:LM) (n:Nat) (p:List Nat):Prop:= ∃(j:Nat) (s:bW),L.bI[j]? =some s∧s.first≤n∧(∀(i:Nat) (t:bW),j<i→L.bI[i]? =some t→n<t.first)∧s.bS[n-s.first]? =some p
theorem aem {w:World} {X F:XS} {lb db n:Nat} {sv:Value} {bl:List jm} {L:LM} {p:List Nat} (h:u7 w F lb db sv bl L) (hL:iT L) (hp:L.has n p) (wM:p.length≤2^40) (hF:FX F X w):
  Ct pg 86 #[ptr lb 0,I n] w X nX fun v wa w'=>Own w' (made wa w') wa.heap.size 5 1 v (p.map U1):=by
 intro w0 hk;replace h:=h.mv (hF.mv hk);have hX:=fun k ai=>(hF.kp hk k ai).1;have hb:=h.box.mv (Mv.sub hX);have uZ:=h.so.sl.mono hX;have u9:=h.bI;obtain⟨j,sm,hj,eI,hgt,ahN⟩:=hp;have jo:=hL.qd sm (aX hj);have tN:=(List.getElem?_eq_some_iff.1 ahN).1;rw [u9,cr] at hj;obtain⟨s,hbj,rfl⟩: ∃s,bl[j]? =some s∧s.er=sm:=by
  cases hq:bl[j]? with
  |none=>rw [hq] at hj;cases hj
  |some s=>exact⟨s,rfl,by rw [hq] at hj;exact bC hj⟩
 have Fz:=(List.getElem?_eq_some_iff.1 hbj).1;have aaU:s.first≤n:=eI
 have alf:s.first+(s.rs.map (·.2)).length≤2^40:=jo.1
 have alg:n-s.first<(s.rs.map (·.2)).length:=tN
 rw [aG] at alf alg;obtain⟨r,hr,hrp⟩: ∃r,s.rs[n-s.first]? =some r∧r.2=p:=by
  have h9:(s.rs.map (·.2))[n-s.first]? =some p:=ahN;rw [cr] at h9;cases hq:s.rs[n-s.first]? with
  |none=>rw [hq] at h9;cases h9
  |some r=>exact⟨r,rfl,by rw [hq] at h9;exact bC h9⟩
 have hlen:=uZ.fQ;apply To;unfold H8;have hs:=aj.init w0;repeat' first|refine aI ?_;intros
 refine fV (fun m a w X=> ∃i:Nat,a=I i∧m=i-j∧j≤i∧i<bl.length∧aj (ba w0) w0 X w) (bl.length-1-j) ⟨bl.length-1,congrArg I zQ,rfl,by omega,by omega,hs⟩ ?_;clear hs;rintro m a w1 X1 ⟨i,rfl,rfl,HN,jM,hs⟩;obtain⟨t,UG⟩: ∃t,bl[i]? =some t:=⟨_,bB jM⟩;have hbt:bH w0 (ba w0) t.b [I t.first,t.rv,I t.size] 163:=(h.row t (aX UG)).mv (Mv.sub hX);by_cases ZL:i=j
 ·subst ZL;rw [UG] at hbj;obtain rfl:=bC hbj;have hrc:=(h.Ar t (aX UG)).sl.mono hX;have H7:=(h.As t (aX UG) r (aX hr)).sl.mono hX;rw [hrp] at H7;have ME:=hs.kp.size;repeat' first|refine bL ?_;intros|(with_reducible apply DH);(case hX=>exact hs.has);(case hu=>kernel_rfl);(case hz=>kernel_rfl);intro acc w X aq ho;replace hs:=hs.trans aq
  refine xv (ho.low ME) hs (fun _ h=>h) kQ (H7.mv hs.mv) (by intro r hr u hu;obtain⟨x,_,rfl⟩:=List.mem_map.1 hr;simp only [U1,aV] at hu;subst hu;rfl) (by simp;omega) (by simp;omega) fun v8 w8 X8 qa xp hc8 VH=>?_;exact ak qa fun wa aM=>(xp.kp aM).tight
 ·have amQ:n<t.first:=hgt i t.er zQ (by rw [u9,cr,UG];rfl)
  repeat' first|refine bL ?_;intros
  exact fF (i-1-j) zQ ⟨i-1,congrArg I zQ,rfl,by omega,by omega,hs⟩
theorem aaV {w:World} {X F:XS} {lb db n:Nat} {sv:Value} {bl:List jm} {L:LM} {p:List Nat} {s:bW} {r:List bW} (h:u7 w F lb db sv bl L) (hL:iT L) (hp:L.has n p) (wM:p.length≤2^40) (hs:L.bI=s::r) (h1:s.first≤n) (h2:n<L.next) (hF:FX F X w):
  Ct pg 44 #[ptr lb 0,I n] w X nX fun v wa w'=> ∃vb,v= .tuple #[vb,I 0]∧Own w' (made wa w') wa.heap.size 5 1 vb (p.map U1):=by
 intro w0 hk;replace h:=h.mv (hF.mv hk);have iz:FX F (ba w0) w0:=hF.kp hk;have hT:Ft w0 nX w0 (ba w0) nX:=Ft.init fun _ h=>h.elim;have hX:=fun k ai=>(iz k ai).1;have fx: ∀{w X},aj (ba w0) w0 X w→FX F X w:=fun hs k ai=>⟨hs.sub k (hX k ai),hs.has k (hs.sub k (hX k ai))⟩;apply Pv;unfold DO;have bT:=aj.init w0;refine dy (uX h hs iz) kQ bT.has fun w1 X1 aq=>?_;repeat' first|refine bL ?_;intros
 refine fk (Q:=fun K=> ∀w X,aj (ba w0) w0 X w→K (I L.next) w X) ?_ fun K hK=>?_
 ·intro w2 X2 bQ;repeat' first|refine bL ?_;intros
  refine cJ (aem (h.mv (bQ.dZ hX)) hL hp wM (fx bQ)) kQ bQ.has ?_;rintro vb oG w3 X3 ho nJ mg cl;exact ak (bQ.trans cl) fun wa aM=>⟨vb,rfl,((ho.up mg (by have:=bQ.kp.size;omega)).kp aM).tight⟩
 ·repeat' first|refine aI ?_;intros
  refine dy (xq (h.mv (aq.dZ hX)) hL (fx aq)) kQ aq.has fun w2 X2 bQ=>?_;exact hK _ _ (aq.trans bQ)
def ior (a b:Int):Int:=IntKind.u64.wrap (BitVec.ofInt IntKind.u64.bits a|||BitVec.ofInt IntKind.u64.bits b).toNat
theorem ajP {P:Program} {X:XS} {w:World} {N:Value→Prop} {t:TypeId} {a b:Int} (h:N (.int .u64 (ior a b))):aa P X w (binOp .or t (.int .u64 a) (.int .u64 b)) N:=Jx h
theorem ahO {P:Program} {X:XS} {w:World} {N:Value→Prop} {a:Int} (h:N (.int .u64 (GU IntKind.u64.max a))):aa P X w (Op.unary .xor (.int .u64 a)) N:=
 bX (fun wa=>by simp [Op.unary,Op.intBits,GU,IntKind.signed]) h
def Q6 (x:Nat):Int:=if land (canon x) 9223372036854775808≠0 then GU IntKind.u64.max (canon x)else ior (canon x) 9223372036854775808
theorem aaW (x:Nat):Pure pg 305 #[.float .f64 x] (.int .u64 (Q6 x)):=by
 intro w0;apply Yq;unfold MQ;have hs:=aj.init w0;repeat' first|refine aI ?_;intros|refine de ?_ ?_<;>intros|((with_reducible refine gh (xE _) ?_ hs.has ?_);(· kernel_rfl);intro w X aq;replace hs:=hs.trans aq)|(with_reducible refine eY hs ?_);(simp_all [Q6])|with_reducible (first|apply acS|apply ajP|apply ahO)
def aaX (x y:Nat):Int:=if Q6 x<Q6 y then-1 else if Q6 x>Q6 y then 1 else 0
theorem Tp (x y:Nat):Pure pg 226 #[.float .f64 x,.float .f64 y] (I (aaX x y)):=by
 intro w0;apply Q7;unfold FE;have hs:=aj.init w0;repeat' first|refine aI ?_;intros|refine de ?_ ?_<;>intros|((with_reducible refine gh (aaW _) ?_ hs.has ?_);(· kernel_rfl);intro w X aq;replace hs:=hs.trans aq)|(with_reducible refine eY hs ?_);(simp_all [aaX]<;>omega)
def aaY (a b:eQ):Int:=
 if !a.may||!b.may then 0 else if a.kind<b.kind then-1 else if a.kind>b.kind then 1 else if a.kind=1 then aaX a.num b.num else if jk a.text b.text then-1 else if a.text=b.text then 0 else 1
theorem Pw (a b:eQ):Pure pg 159 #[a.v,b.v] (I (aaY a b)):=by
 intro w0;apply NJ;unfold CK;have hs:=aj.init w0;repeat' first|refine aI ?_;intros|refine de ?_ ?_<;>intros|with_reducible apply cG|((with_reducible refine dI (lD _) ?_ hs.has ?_ ?_);(· kernel_rfl);all_goals (intro _ w X aq;replace hs:=hs.trans aq))|((with_reducible refine gh (Tp _ _) ?_ hs.has ?_);(· kernel_rfl);intro w X aq;replace hs:=hs.trans aq)|(with_reducible refine eY hs ?_);(simp_all [aaY]<;>omega)
def Px (a b:eQ):Bool:=a.may&&b.may&&decide (aaY a b=0)
theorem VP (a b:eQ):Pure pg 95 #[a.v,b.v] (B (Px a b)):=by
 intro w0;apply Tq;unfold H9;have hs:=aj.init w0;repeat' first|refine aI ?_;intros|refine de ?_ ?_<;>intros|with_reducible apply cG|((with_reducible refine dI (lD _) ?_ hs.has ?_ ?_);(· kernel_rfl);all_goals (intro _ w X aq;replace hs:=hs.trans aq))|((with_reducible refine gh (Pw _ _) ?_ hs.has ?_);(· kernel_rfl);intro w X aq;replace hs:=hs.trans aq)|(with_reducible refine eY hs ?_);(simp_all [Px])
theorem aaZ {a:eQ} (h:a.may=true):Px a a=true:=by
 have h1:jk a.text a.text=false:=by
  unfold jk;generalize a.text.toList=l
  induction l with
  |nil=>rfl
  |cons x l ih=>simp [Op.bytesLess,ih,UInt8.lt_irrefl]
 simp [Px,aaY,aaX,h,h1]
def CL (a b:KV):Bool:=decide (a.key=b.key)&&Px a.val b.val
theorem VQ (a b:KV):Pure pg 94 #[.agg #[.string a.key,I a.val.kind,.float .f64 a.val.num,.string a.val.text],.agg #[.string b.key,I b.val.kind,.float .f64 b.val.num,.string b.val.text]] (B (CL a b)):=by
 intro w0;apply GV;unfold xF;have hs:=aj.init w0;repeat' first|refine aI ?_;intros|refine de ?_ ?_<;>intros|with_reducible apply cG|((with_reducible refine dI (VP _ _) ?_ hs.has ?_ ?_);(· kernel_rfl);all_goals (intro _ w X aq;replace hs:=hs.trans aq))|(with_reducible refine eY hs ?_);(simp_all [CL])
def zK (xs ys:List KV):Bool:=decide (xs.length=ys.length)&&(xs.zip ys).all fun z=>CL z.1 z.2
theorem aa0 {l:List KV} (h: ∀x∈l,x.val.may=true):zK l l=true:=by
 unfold zK;simp only [decide_true,iM,List.all_eq_true];intro z hz;obtain⟨i,hi,e⟩:=List.mem_iff_getElem.1 hz;rw [List.getElem_zip] at e;subst e;simp [CL,aaZ (h _ (List.getElem_mem _))]
theorem VR {w:World} {X:XS} {a b:Value} {xs ys:List KV} (ha:Sl w X 4 a (xs.map KV.l)) (hb:Sl w X 4 b (ys.map KV.l)):
  Ct pg 93 #[a,b,.func (.func 94) #[] #[]] w X nX fun v _ _=>v=B (zK xs ys):=by
 intro w0 hk;replace ha:=ha.mv hk.dm;replace hb:=hb.mv hk.dm;have lS:=ha.fQ;have zV:=hb.fQ;apply lB;unfold iw;have hs:=aj.init w0;by_cases hlen:xs.length=ys.length
 ·have eS:zK xs ys=(xs.zip ys).all fun z=>CL z.1 z.2:=by unfold zK;rw [decide_eq_true hlen,iM]
  rw [eS];repeat' first|refine bL ?_;intros
  refine fV (fun n a w X=> ∃i:Nat,a=I i∧n=xs.length-i∧i≤xs.length∧aj (ba w0) w0 X w∧((xs.zip ys).all fun z=>CL z.1 z.2)=((xs.drop i).zip (ys.drop i)).all fun z=>CL z.1 z.2) xs.length ⟨0,rfl,rfl,aN _,hs,rfl⟩ ?_;clear hs;rintro n a w X ⟨i,rfl,rfl,hi,hs,hw⟩;rcases ej xs i with⟨cH,x,hx,hd⟩|⟨eh,hd⟩
  ·obtain⟨y,hy,hdy⟩:=Q8 (xs:=ys) (i:=i) zQ;rw [hd,hdy,List.zip_cons_cons,List.all_cons] at hw;repeat' first|refine bL ?_;intros
   refine dI (VQ x y) kQ hs.has (fun hT w X aq=>?_) fun hF w X aq=>?_
   ·rw [hT,iM] at hw;replace hs:=hs.trans aq;repeat' first|refine aI ?_;intros
    exact fF (xs.length-(i+1)) zQ ⟨i+1,by simp,rfl,by omega,hs,hw⟩
   ·rw [hF,tK] at hw;replace hs:=hs.trans aq;repeat' first|refine aI ?_;intros
    exact ak hs fun wa aM=>by rw [hw]
  ·have hdy:=gL (l:=ys) (i:=i) zQ;rw [hd,hdy] at hw;repeat' first|refine bL ?_;intros
   exact ak hs fun wa aM=>by rw [hw];rfl
 ·have eS:zK xs ys=false:=by unfold zK;rw [decide_eq_false hlen,tK]
  repeat' first|refine bL ?_;intros
  exact ak hs fun wa aM=>by rw [eS]
def rK (p:List (ByteArray×eQ)) (x:KV):List (ByteArray×eQ):=fC x.key x.val p
def SM.base (s:SM) (st:bE) (l:List KV):SM:= { s with high:=st,bF:=l.foldl rK s.bF }
theorem Yr {w:World} {X F S:XS} {nb lb mb:Nat} {av:Value} {es:List (Value×fN)} {s:SM} {r:Rec} {vr vw vp vq vh vd:Value} {b:Bool} (h:mI w F nb lb mb av es s) (hF:FX F X w) (hw:Sl w S 4 vq (r.bF.map KV.l)) (hS: ∀k,S k→X k∧ ¬F k):
  Ct pg 46 #[ptr nb 0,r.v vr vw vp vq vh vd,B b] w X F fun v wa w'=>v= .tuple #[]∧mI w' F nb lb mb av es (if b then s.base r.aP r.bF else s):=by
 intro w0 hk;replace h:=h.mv (hF.mv hk);have hT:=hF.ft hk;have iz:FX F (ba w0) w0:=hF.kp hk;have wG:Sl w0 (out F w0) 4 vq (r.bF.map KV.l):=hw.mv fun k ai yH=>⟨⟨aK yH hk.size,(hS k ai).2⟩,hk.block k (hS k ai).1⟩;have ov:=wG.one;have hb:=h.box.mv (Mv.sub hT.aU);have hs:=aj.init w0;apply LR;unfold Bq;cases b with
 |false=>
  repeat' first|refine aI ?_;intros
  exact hT.fin fun wa aM=>⟨rfl,h.mv (aM.ew hT.aU)⟩
 |true=>
  repeat' first|refine aI ?_;intros
  refine zH (o:=5) hb zQ kQ (by simp) rfl rfl hT.s.has fun w1 X1 c1 qs=>?_;have cm:Ft w0 F w1 X1 F:=hT.dM c1 (fun k ai=>by subst ai;exact h.box.1) fun k ai=>.inl ai;have h1:=h.Ji hT.aU c1 { s with high:=r.aP } rfl rfl qs;have Zt:Sl w1 X1 4 vq (r.bF.map KV.l):=wG.mv cm.s.mv;clear hs hb;have hs:=aj.dY cm.s.has;have hql:=Zt.fQ;repeat' first|refine aI ?_;intros
  refine fV (fun n a w X=> ∃i:Nat,a=I (i:Nat)∧n=r.bF.length-i∧i≤r.bF.length∧Ft w0 F w X F∧mI w F nb lb mb av es { s with high:=r.aP,bF:=(r.bF.take i).foldl rK s.bF }) r.bF.length ⟨0,rfl,rfl,aN _,cm,h1⟩ ?_;clear hT h cm h1 hs;rintro n a w X ⟨i,rfl,rfl,hi,hT,h⟩;have hb:=h.box.mv (Mv.sub hT.aU);have hm:=h.map.mv mB (Mv.sub hT.aU) (A':=nX) fun _ h=>h.elim;have hwc:Sl w X 4 vq (r.bF.map KV.l):=wG.mv hT.s.mv;rcases ej r.bF i with⟨cH,x,hx,Jl⟩|⟨eh,Jl⟩
  ·have T6:(r.bF.take (i+1)).foldl rK s.bF=rK ((r.bF.take i).foldl rK s.bF) x:=by rw [ca,hx];simp
   repeat' first|refine bL ?_;intros
   refine Si hm (x:=x.val) rfl hT.s.has fun w1 X1 c uq=>?_;have h1:=h.UK hT.aU c uq;have cm:Ft w0 F w1 X1 F:=hT.dM c (fun k ai=>by subst ai;exact h.map.x.1) fun k ai=>.inl ai;have zU:mI w1 F nb lb mb av es { s with high:=r.aP,bF:=rK ((r.bF.take i).foldl rK s.bF) x } :=h1;rw [←T6] at zU;repeat' first|refine aI ?_;intros
   exact fF (r.bF.length-(i+1)) zQ ⟨i+1,by simp,rfl,by omega,cm,zU⟩
  ·have jM:i=r.bF.length:=by omega
   subst jM;rw [dE] at h;repeat' first|refine bL ?_;intros
   exact hT.fin fun wa aM=>⟨rfl,h.mv (aM.ew hT.aU)⟩
def SM.wg (s:SM) (r:Rec):SM×Bool:=
 if r.kind=11 then(if r.prev=s.high then(s.apply r.cB r.aP r.writes,true)else(s,false))else(s,decide (r.aP=s.high)&&zK r.bF s.list)
theorem Ys {w:World} {X F S:XS} {nb lb mb:Nat} {av:Value} {es:List (Value×fN)} {s:SM} {r:Rec} {vr vw vp vq vh vd:Value} (h:mI w F nb lb mb av es s) (hF:FX F X w) (hw:Sl w S 4 vw (r.writes.map KV.l)) (hq:Sl w S 4 vq (r.bF.map KV.l)) (hS: ∀k,S k→X k∧ ¬F k)
  (hl:r.writes.length≤2^30) (hd:s.done.length≤2^30) (dU: ∀x∈s.bF,x.1.size≤2^40) (hlen:s.bF.length≤2^30):
  Ct pg 47 #[ptr nb 0,r.v vr vw vp vq vh vd] w X F fun v wa w'=>v=B (s.wg r).2∧ ∃F' xh zW,(∀k,F' k→F k∨made wa w' k)∧mI w' F' nb lb mb xh zW (s.wg r).1:=by
 intro w0 hk;replace h:=h.mv (hF.mv hk);have hT:=hF.ft hk;have iz:FX F (ba w0) w0:=hF.kp hk;have hSm:Mv S w (out F w0) w0:=fun k ai yH=>⟨⟨aK yH hk.size,(hS k ai).2⟩,hk.block k (hS k ai).1⟩;have wG:Sl w0 (out F w0) 4 vw (r.writes.map KV.l):=hw.mv hSm;have ZP:Sl w0 (out F w0) 4 vq (r.bF.map KV.l):=hq.mv hSm;have ow:=wG.one;have oq:=ZP.one;have hb:=h.box.mv (Mv.sub hT.aU);have hs:=aj.init w0;generalize hr:s.wg r=q;unfold SM.wg at hr;apply LS;unfold Br;by_cases h11:r.kind=11
 ·rw [if_pos h11] at hr;repeat' first|refine bL ?_;intros|(with_reducible refine aa1 _ _ ?_ ?_ ?_);(· kernel_rfl);all_goals intros
  ·rw [if_neg (by assumption)] at hr;subst hr;exact hT.fin fun wa aM=>⟨rfl,F,av,es,hT.fL aM fun _ h=>h,h.mv (aM.ew hT.aU)⟩
  ·rw [if_pos (by assumption)] at hr;subst hr;refine hT.call (Jj h (hT.fx fun _ h=>h) (S:=out F w0) wG (fun k ai=>⟨hT.s.sub k ai,fun hf=>hT.no hf ai⟩) hl hd) kQ (fun _ h=>h) fun v yJ w4 X4 UR sF lK dS sc=>?_;obtain⟨rfl,F',xh,zW,lN,h4⟩:=UR;have po:=dS.less lN
   skip
   exact po.fin fun wa aM=>⟨rfl,F',xh,zW,po.fL aM fun _ h=>h,h4.mv (aM.ew po.aU)⟩
 ·rw [if_neg h11] at hr;repeat' first|refine bL ?_;intros|(with_reducible refine DB _ _ ?_ ?_ ?_);(· kernel_rfl);all_goals intros|with_reducible apply cG
  ·rename_i gD;rw [decide_eq_true gD,iM] at hr;refine cJ (xi h (hT.fx fun _ h=>h) dU hlen) kQ hT.s.has ?_;rintro vp HQ w1 X1 s7 tv oF aq;have cm:=hT.since aq;have op:=s7.sl.one;repeat' first|refine aI ?_;intros|with_reducible apply cG
   refine dy (VR (ZP.mv cm.s.mv) (s7.sl.mono oF)) kQ cm.s.has fun w2 X2 bQ=>?_;have bK:=cm.since bQ;repeat' first|refine aI ?_;intros
   subst hr;exact bK.fin fun wa aM=>⟨rfl,F,av,es,bK.fL aM fun _ h=>h,((h.mv (aq.dZ hT.aU)).mv (bQ.dZ cm.aU)).mv (aM.ew bK.aU)⟩
  ·rename_i gD;rw [decide_eq_false gD,tK] at hr;subst hr
   skip
   exact hT.fin fun wa aM=>⟨rfl,F,av,es,hT.fL aM fun _ h=>h,h.mv (aM.ew hT.aU)⟩
inductive fj where
 |A (prev st:bE) (t:gf) (l:List KV)
 |B (st:bE) (l:List KV)
def fj.kj:fj→Rec
 | .A p s t l=>en p s t l
 | .B s l=>fg s l
def fj.enc:fj→List Nat
 | .A p s t l=>gS (en p s t l)
 | .B s l=>fT (fg s l)
def fj.ky:fj→Bool
 | .A .. =>false
 | .B .. =>true
def fj.kvs:fj→List KV
 | .A _ _ _ l=>l
 | .B _ l=>l
structure fj.ok (r:fj):Prop where
 may:match r with
  | .A p s t l=>ik p s t l=true∧AL p∧AL s∧Cn t
  | .B s l=>s.may=true∧sw l=true∧AL s
 kv: ∀x∈r.kvs,Gw x
 len:r.kvs.length≤2^16
 key: ∀x∈r.kvs,x.key.size≤2^16
 GW:r.enc.length≤262144
 As: ∀b∈r.enc,b<256
theorem Q9 {w:World} {X:XS} {v0:Value} {r:fj} (h:Sl w X 1 v0 (r.enc.map U1)) (ok:r.ok):
  Ct pg 45 #[v0] w X nX fun v wa w'=> ∃vw vq,v= .tuple #[r.kj.v fH vw fH vq fH fH,I 0]∧Sl w' (made wa w') 4 vw (r.kj.writes.map KV.l)∧Sl w' (made wa w') 4 vq (r.kj.bF.map KV.l):=by
 obtain⟨hm,h1,h2,h3,h4,h5⟩:=ok;cases r with
 |A p s t l=>
  obtain⟨a1,a2,a3,a4⟩:=hm;refine(QL h a1 a2 a3 a4 h1 h2 h3 h4 h5).mono fun v wa w' _ ⟨va,hv,ho⟩=>⟨va,fH,hv,ho.sl,Sl.nil _ _ _⟩
 |B s l=>
  obtain⟨a1,a2,a3⟩:=hm;refine(QM h a1 a2 a3 h1 h2 h3 h4 h5).mono fun v wa w' _ ⟨va,hv,ho⟩=>⟨fH,va,hv,Sl.nil _ _ _,ho.sl⟩
def xG (x:Bool×SM) (r:fj):Option (Bool×SM):=
 if x.1 then(if(x.2.wg r.kj).2 then some (true,(x.2.wg r.kj).1)else none)else some (r.ky,if r.ky then x.2.base r.kj.aP r.kj.bF else x.2)
def AQ:Bool×SM→List fj→Option (Bool×SM)
 |x,[]=>some x
 |x,r::l=>(xG x r).bind fun y=>AQ y l
structure Py (k:Nat) (s:SM):Prop where
 key: ∀x∈s.bF,x.1.size≤2^16
 len:s.bF.length≤k*2^16
 done:s.done.length≤k
theorem Py.up {k:Nat} {s:SM} (h:Py k s):Py (k+1) s:=⟨h.key,ah h.len (Nat.mul_le_mul_right _ (Nat.le_succ k)),Nat.le_succ_of_le h.done⟩
theorem NK {p:List (ByteArray×eQ)} {k:ByteArray} {v:eQ} :(fC k v p).length≤p.length+1∧ ∀x∈fC k v p,x∈p∨x=(k,v):=by
 induction p with
 |nil=>simp [fC]
 |cons y p ih=>
  simp only [fC];split
  ·refine⟨by simp,fun x hx=>?_⟩;rcases List.mem_cons.1 hx with rfl|hx
   ·exact .inr rfl
   ·exact .inl (aZ _ hx)
  ·refine⟨by simp only [aY];omega,fun x hx=>?_⟩;rcases List.mem_cons.1 hx with rfl|hx
   ·exact .inl (by simp)
   ·exact(ih.2 x hx).imp (aZ _) id
theorem SK: ∀(l:List KV) (p:List (ByteArray×eQ)),(∀x∈p,x.1.size≤2^16)→(∀x∈l,x.key.size≤2^16)→(l.foldl rK p).length≤p.length+l.length∧ ∀x∈l.foldl rK p,x.1.size≤2^16
 |[],p,h,_=>⟨by simp,h⟩
 |y::l,p,h,hl=>by
  obtain⟨a,b⟩:=NK (p:=p) (k:=y.key) (v:=y.val);obtain⟨c,d⟩:=SK l (rK p y) (fun x hx=>(b x hx).elim (h x) fun e=>by rw [e];exact hl y (by simp)) fun x hx=>hl x (aZ _ hx);refine⟨?_,d⟩;have:(rK p y).length≤p.length+1:=a;rw [ib,aY];omega
theorem Pz: ∀(l:List KV) (p:List (ByteArray×eQ)),(∀x∈p,x.1.size≤2^16)→(∀x∈l,x.key.size≤2^16)→(l.foldl fq p).length≤p.length+l.length∧ ∀x∈l.foldl fq p,x.1.size≤2^16
 |[],p,h,_=>⟨by simp,h⟩
 |y::l,p,h,hl=>by
  have key:(fq p y).length≤p.length+1∧ ∀x∈fq p y,x.1.size≤2^16:=by
   unfold fq;split
   ·have hs:(mz y.key p).Sublist p:=List.filter_sublist;exact⟨by have:=hs.length_le;omega,fun x hx=>h x (hs.subset hx)⟩
   ·obtain⟨a,b⟩:=NK (p:=p) (k:=y.key) (v:=y.val);exact⟨a,fun x hx=>(b x hx).elim (h x) fun e=>by rw [e];exact hl y (by simp)⟩
  obtain⟨c,d⟩:=Pz l (fq p y) key.2 fun x hx=>hl x (aZ _ hx);refine⟨?_,d⟩;have:=key.1;rw [ib,aY];omega
theorem Py.rep {k:Nat} {x y:Bool×SM} {r:fj} (h:Py k x.2) (ok:r.ok) (hr:xG x r=some y):Py (k+1) y.2:=by
 have hl:=ok.len;unfold xG at hr;split at hr
 ·split at hr
  ·obtain rfl:=bC hr;unfold SM.wg;split
   ·split
    ·cases r with
     |A p s t l=>
      obtain⟨a,b⟩:=Pz l x.2.bF h.key ok.key;refine⟨b,?_,?_⟩
      ·show(l.foldl fq x.2.bF).length≤_
       have:=h.len;have:l.length≤2^16:=hl;omega
      ·show(x.2.done++[_]).length≤_
       have:=h.done;simp;omega
     |B s l=>rename_i h1 _;simp [fj.kj,fg] at h1
    ·exact h.up
   ·exact h.up
  ·cases hr
 ·obtain rfl:=bC hr;dsimp only;split
  ·cases r with
   |A p s t l=>rename_i h1;cases h1
   |B s l=>
    obtain⟨a,b⟩:=SK l x.2.bF h.key ok.key;refine⟨b,?_,?_⟩
    ·show(l.foldl rK x.2.bF).length≤_
     have:=h.len;have:l.length≤2^16:=hl;omega
    ·have:=h.done
     show x.2.done.length≤_
     omega
  ·exact h.up
structure Holds (L:LM) (f:Nat) (rs:List fj):Prop where
 ok:iT L
 fst: ∃s r,L.bI=s::r∧s.first=f
 Aj:L.next=f+rs.length
 kj: ∀k r,rs[k]? =some r→L.has (f+k) r.enc
theorem JU {w:World} {X F S:XS} {nb lb db:Nat} {s:SM} {L:LM} {m:DM} {r:Rec} {vr vw vp vq vh vd:Value} {b:Bool} (h:ig w F nb lb db s L m) (hF:FX F X w) (hw:Sl w S 4 vq (r.bF.map KV.l)) (hS: ∀k,S k→X k∧ ¬F k):
  Ct pg 46 #[ptr nb 0,r.v vr vw vp vq vh vd,B b] w X F fun v wa w'=>v= .tuple #[]∧ig w' F nb lb db (if b then s.base r.aP r.bF else s) L m:=by
 obtain⟨FN,FG,mb,av,es,iW,hN,hG,bT,hg⟩:=h;intro wa hk;refine((Yr bT (fun k ai=>hF k (hN k ai)) hw (fun k ai=>⟨(hS k ai).1,fun h=>(hS k ai).2 (hN k h)⟩)) wa hk).mono ?_;rintro e w' ⟨v,he,ly,hv,qv⟩;refine⟨v,he,ly.mono hN,hv,FN,FG,mb,av,es,iW,hN,hG,qv,hg.mv fun k ai _=>⟨ai,?_⟩⟩;have DA:=hF k (hG k ai);exact(ly.block k (aK DA.2 hk.size) fun h=>iW k h ai).trans (hk.block k DA.1)
theorem JV {w:World} {X F S:XS} {nb lb db:Nat} {s:SM} {L:LM} {m:DM} {r:Rec} {vr vw vp vq vh vd:Value} (h:ig w F nb lb db s L m) (hF:FX F X w) (hw:Sl w S 4 vw (r.writes.map KV.l)) (hq:Sl w S 4 vq (r.bF.map KV.l)) (hS: ∀k,S k→X k∧ ¬F k)
  (hl:r.writes.length≤2^30) (hd:s.done.length≤2^30) (dU: ∀x∈s.bF,x.1.size≤2^40) (hlen:s.bF.length≤2^30):
  Ct pg 47 #[ptr nb 0,r.v vr vw vp vq vh vd] w X F fun v wa w'=>v=B (s.wg r).2∧ ∃F',(∀k,F' k→F k∨made wa w' k)∧ig w' F' nb lb db (s.wg r).1 L m:=by
 obtain⟨FN,FG,mb,av,es,iW,hN,hG,bT,hg⟩:=h;intro wa hk;refine((Ys bT (fun k ai=>hF k (hN k ai)) hw hq (fun k ai=>⟨(hS k ai).1,fun h=>(hS k ai).2 (hN k h)⟩) hl hd dU hlen) wa hk).mono ?_;rintro e w' ⟨v,he,ly,hv,F',xh,zW,lN,qv⟩;refine⟨v,he,ly.mono hN,hv,fun k=>F' k∨FG k,fun k ai=>ai.elim (fun h=>(lN k h).imp (hN k) id) fun h=>.inl (hG k h),F',FG,mb,xh,zW,fun k a b=>(lN k a).elim (fun h=>iW k h b) fun hm=>?_,fun _ h=>.inl h,fun _ h=>.inr h,qv,hg.mv fun k ai _=>⟨ai,?_⟩⟩
 ·have:=(hF k (hG k b)).2;have:=hk.size;have:=hm.1;omega
 ·have DA:=hF k (hG k ai);exact(ly.block k (aK DA.2 hk.size) fun h=>iW k h ai).trans (hk.block k DA.1)
abbrev jq:ByteArray:=⟨#[115,105,110,107]⟩
theorem fj.acT {r:fj} (h:r.ky=false):r.kj.kind=11:=by cases r with|A=>rfl|B=>cases h
theorem fj.acU {r:fj} (h:r.ky=true):r.kj.kind=12:=by cases r with|A=>cases h|B=>rfl
theorem fj.alh {r:fj} (h:r.ok):r.kj.writes.length≤2^16:=by
 have:=h.len;cases r with
 |A=>exact this
 |B=>simp [fj.kj,fg]
theorem Yt {w:World} {X F:XS} {db sz f:Nat} {every:Int} {m:DM} {rs:List fj} {s':SM} (h:Dk w F db m) (hF:FX F X w) (DE: ∀x∈m.fs,x.1.size≤2^40) (eI:m.fs.length≤2^29) (H7: ∀n,∀b∈m.bytes n,b<256)
  (aq:64≤sz) (bQ:sz≤262144) (HV:0≤every) (HW:every≤1000)
  (hO:(LD.uy jq sz m).2=0→Holds (LD.uy jq sz m).1.L f rs∧(∀r∈rs,r.ok)∧rs.length≤2^12∧AQ (decide ((f:Int)=1),fO every) rs=some (true,s')):
  Ct pg 12 #[ptr db 0,I sz,I every] w X F fun v wa w'=> ∃nb lb F',v= .tuple #[if(LD.uy jq sz m).2=0 then ptr nb 0 else .pointer none,I (LD.uy jq sz m).2]∧(∀k,F' k→F k∨made wa w' k)∧
   Dk w' F' db (LD.uy jq sz m).1.m∧((LD.uy jq sz m).2=0→ig w' F' nb lb db s' (LD.uy jq sz m).1.L (LD.uy jq sz m).1.m):=by
 intro w0 hk;replace h:=h.mv (hF.mv hk);have hT:=hF.ft hk;have iz:FX F (ba w0) w0:=hF.kp hk;apply JB;unfold Cr;repeat' first|refine bL ?_;intros
 refine hT.call (aaS (dir:=jq) h (hT.fx fun _ h=>h) DE eI H7 (by decide) (by decide) aq bQ) kQ (fun _ h=>h) fun v HQ w1 X1 Zt tv oF cm Cp=>?_;generalize hro:LD.uy jq sz m=ro at hO Zt⊢;obtain⟨lb,F1,rfl,Zu,hD1,Ch⟩:=Zt;replace cm:Ft w0 F w1 X1 F1:=cm.less Zu;by_cases hz:ro.2=0
 ·obtain⟨VS,lz,tN,JW⟩:=hO hz;have g1:=Ch hz;rw [if_pos hz,hz];have Ve:=VS.ok;obtain⟨s0,sr,u9,hsf⟩:=VS.fst;have oH:=VS.Aj;have amR:=Ve.next
  repeat' first|refine bL ?_;intros
  refine Ag (kv:=Value.string) xg nX cm.s.has fun mb w2 X2 hmb nK sa=>?_;have bK:=cm.since nK;have g2:=g1.mv (nK.dZ cm.aU);repeat' first|refine aI ?_;intros
  refine kX bK.s.has fun nb w3 X3 pX cl dA=>?_;have cn:=bK.since cl;have g3:=g2.mv (cl.dZ bK.aU);have Sn: ∀k,F1 k→k<w1.heap.size:=fun k ai=>cm.s.has k (cm.aU k ai);have Dx:=sa.mv mB cl.mv (fun _ h=>h.elim) (A':=nX);have ME:=cm.s.kp.size;have MD:=nK.kp.size;have hz3:=cl.kp.size;have hmX:X3 mb∧mb<w2.heap.size:=⟨cl.sub mb sa.x.1,sa.x.2⟩;have fX:Ft w0 F w3 X3 (fun k=>F1 k∨k=nb∨k=mb):=cn.more fun k ai=>ai.imp id fun e=>by
   rcases e with e|e<;>subst e
   ·exact⟨dA.1,by omega⟩
   ·exact⟨hmX.1,by omega⟩
  have h3:ig w3 (fun k=>F1 k∨k=nb∨k=mb) nb lb db (fO every) ro.1.L ro.1.m:=by
   refine⟨fun k=>k=nb∨k=mb,F1,mb,.slice none 0 0,[],fun k a b=>?_,fun _ h=>.inr h,fun _ h=>.inl h,⟨rfl,⟨.inl rfl,dA.2⟩,?_,⟨by simp,.inl ⟨rfl,rfl⟩⟩,by simp⟩,g3⟩
   ·have:=Sn k b;rcases a with a|a<;>omega
   ·obtain⟨e,c',q1,q2⟩:=Dx;exact⟨e,c',⟨.inr rfl,q1.2⟩,q2⟩
  clear Dx sa dA g3 g2 g1 cn bK cm hT h hD1 Ch Cp hO;obtain⟨FL,FD,sv,bl,hW⟩:=(show Lg w3 (fun k=>F1 k∨k=nb∨k=mb) lb db _ _ from let⟨_,_,_,_,_,_,_,hG,_,g⟩:=h3;g.mono hG).lw;refine dy (uX hW.l u9 (fX.fx hW.hL)) kQ fX.s.has fun w4 X4 ff=>?_;have dS:=fX.since ff;have h4:=h3.mv (ff.dZ fX.aU);replace hW:=hW.mv (ff.dZ fX.aU);rw [hsf];refine ZT ?_;refine dy (uX hW.l u9 (dS.fx hW.hL)) kQ dS.s.has fun w5 X5 oI=>?_;have gR:=dS.since oI;have h5:=h4.mv (oI.dZ dS.aU);rw [hsf];refine gN (fun n a b w X=> ∃(k:Nat) (bs:Bool) (s:SM) (F2:XS),a=I ((f+k:Nat):Int)∧b=B bs∧n=rs.length-k∧k≤rs.length∧AQ (bs,s) (rs.drop k)=some (true,s')∧Py k s∧Ft w0 F w X F2∧ig w F2 nb lb db s ro.1.L ro.1.m) rs.length
   ⟨0,_,fO every,_,rfl,rfl,rfl,aN _,JW,⟨by simp [fO],by simp [fO],by simp [fO]⟩,gR,h5⟩ ?_
  clear gR h5 hW dS h4 fX h3 JW;rintro n a b w6 X6 ⟨k,bs,s,F6,rfl,rfl,rfl,lO,JW,jo,gB,h6⟩;obtain⟨FL,FD,sv,bl,hW⟩:=(show Lg w6 F6 lb db _ _ from let⟨_,_,_,_,_,_,_,hG,_,g⟩:=h6;g.mono hG).lw;refine dy (xq hW.l Ve (gB.fx hW.hL)) kQ gB.s.has fun w7 X7 kY=>?_;have lP:=gB.since kY;have h7:=h6.mv (kY.dZ gB.aU);replace hW:=hW.mv (kY.dZ gB.aU);rw [oH];rcases ej rs k with⟨cH,r,hr,hd⟩|⟨eh,hd⟩
  ·have SL:=aX hr;have aa2:=lz r SL;rw [hd] at JW;have eR:AQ (bs,s) (r::rs.drop (k+1))=(xG (bs,s) r).bind fun y=>AQ y (rs.drop (k+1)):=rfl;rw [eR] at JW;obtain⟨y,hy,ajQ⟩:=Option.bind_eq_some_iff.1 JW;have ali:=jo.rep aa2 hy;have hHk:=VS.kj k r hr;have hlm:=jo.len;have hdm:=jo.done;repeat' first|refine bL ?_;intros
   refine fk (Q:=fun K=> ∀w X F2,Ft w0 F w X F2→ig w F2 nb lb db y.2 ro.1.L ro.1.m→K (B y.1) w X) ?_ fun K hK=>?_
   ·intro w8 X8 F8 Ad h8;repeat' first|refine aI ?_;intros
    exact gA (rs.length-(k+1)) zQ ⟨k+1,y.1,y.2,F8,congrArg I zQ,rfl,rfl,by omega,ajQ,ali,Ad,h8⟩
   ·refine cJ (aaV hW.l Ve hHk (by have:=aa2.GW;omega) u9 zQ (by rw [oH];omega) (lP.fx hW.hL)) kQ lP.s.has ?_;rintro _ wa8 w8 X8 ⟨vb,rfl,Bi⟩ amS alj qa;have Ad:=lP.since qa;have h8:=h7.mv (qa.dZ lP.aU);repeat' first|refine aI ?_;intros
    refine cJ (Q9 (Bi.sl.mono alj) aa2) kQ Ad.s.has ?_;rintro _ Mz w9 X9 ⟨vw,vq,rfl,hvw,hvq⟩ amT alk wN;have mu:=Ad.since wN;have h9:=h8.mv (wN.dZ Ad.aU);have ow:=hvw.one;have oq:=hvq.one;have hmS: ∀k,made Mz w9 k→X9 k∧ ¬F6 k:=fun q hq=>⟨alk q hq,fun hf=>by have:=(Ad.s.has q (Ad.aU q hf));have:=hq.1;omega⟩;unfold xG at hy;cases bs with
    |false=>
     rw [if_neg (by simp)] at hy;have hy:=bC hy;cases hB:r.ky with
     |false=>
      have Sm:=fj.acT hB;rw [hB] at hy;repeat' first|refine bL ?_;intros
      refine mu.call (JU (b:=false) (r:=r.kj) h9 (mu.fx fun _ h=>h) hvq hmS) kQ (fun _ h=>h) fun v NL qz pa wh BS zL fE AR=>?_;obtain⟨rfl,JX⟩:=wh;replace fE:Ft w0 F qz pa F6:=fE.less fun k hk=>.inl hk
      skip
      subst hy;exact hK _ _ F6 fE JX
     |true=>
      have Sm:=fj.acU hB;rw [hB] at hy;repeat' first|refine bL ?_;intros
      refine mu.call (JU (b:=true) (r:=r.kj) h9 (mu.fx fun _ h=>h) hvq hmS) kQ (fun _ h=>h) fun v NL qz pa wh BS zL fE AR=>?_;obtain⟨rfl,JX⟩:=wh;replace fE:Ft w0 F qz pa F6:=fE.less fun k hk=>.inl hk
      skip
      subst hy;exact hK _ _ F6 fE JX
    |true=>
     rw [if_pos rfl] at hy;have aen:(s.wg r.kj).2=true:=by
      cases hq:(s.wg r.kj).2 with
      |true=>rfl
      |false=>rw [hq] at hy;cases hy
     rw [if_pos aen] at hy;have hy:=bC hy;have hwl:=fj.alh aa2;cases hB:r.ky with
     |false=>
      have Sm:=fj.acT hB;repeat' first|refine bL ?_;intros
      refine mu.call (JV (r:=r.kj) h9 (mu.fx fun _ h=>h) hvw hvq hmS zQ zQ (fun x hx=>by have:=jo.key x hx;omega) zQ) kQ (fun _ h=>h) fun v NL qz pa wh BS zL fE AR=>?_;obtain⟨rfl,F10,aeo,JX⟩:=wh;replace fE:Ft w0 F qz pa F10:=fE.less aeo;rw [aen];repeat' first|refine aI ?_;intros
      subst hy;exact hK _ _ F10 fE JX
     |true=>
      have Sm:=fj.acU hB;repeat' first|refine bL ?_;intros
      refine mu.call (JV (r:=r.kj) h9 (mu.fx fun _ h=>h) hvw hvq hmS zQ zQ (fun x hx=>by have:=jo.key x hx;omega) zQ) kQ (fun _ h=>h) fun v NL qz pa wh BS zL fE AR=>?_;obtain⟨rfl,F10,aeo,JX⟩:=wh;replace fE:Ft w0 F qz pa F10:=fE.less aeo;rw [aen];repeat' first|refine aI ?_;intros
      subst hy;exact hK _ _ F10 fE JX
  ·have jM:k=rs.length:=by omega
   subst jM;rw [hd] at JW;obtain⟨rfl,rfl⟩:=Prod.mk.inj (bC JW);repeat' first|refine bL ?_;intros
   refine lP.fin fun wa aM=>⟨nb,lb,F6,by rw [if_pos rfl];rfl,lP.fL aM fun _ h=>h,?_,fun _=>h7.mv (aM.ew lP.aU)⟩;exact(hW.d.mono hW.hD).mv (aM.ew lP.aU)
 ·rw [if_neg hz];repeat' first|refine bL ?_;intros
  exact cm.fin fun wa aM=>⟨0,0,F1,by rw [if_neg hz],cm.fL aM fun _ h=>h,hD1.mv (aM.ew cm.aU),fun e=>absurd e hz⟩
end Go.Proofs.YtpdkoaklobnegaaGreat
namespace Go.Proofs.YtpdkoaklobnegaaGreat
open Go.Proofs.Tryz renaming prog → pg
open Go.dL
theorem ZU {α:Type} [LT α] [DecidableEq α]: ∀{a b:List α} {u v:List α},a<b→a.length=b.length→a++u<b++v
 |[],[],_,_,h,_=>absurd h (List.not_lt_nil _)
 |[],_::_,_,_,_,hl=>by simp at hl
 |_::_,[],_,_,_,hl=>by simp at hl
 |x::a,y::b,u,v,h,hl=>by
  rw [dX,dX,s8];rcases List.cons_lt_cons_iff.1 h with h1|⟨h1,h2⟩
  ·exact .inl h1
  ·exact .inr ⟨h1,ZU h2 (by simpa using hl)⟩
theorem acV: ∀{k a b:Nat},a<b→b<10^k→(np k a).map kr<(np k b).map kr
 |0,a,b,h,hb=>by omega
 |k+1,a,b,h,hb=>by
  unfold np;rw [aT,aT];have ny:b/10<10^k:=by rw [jg] at hb;omega
  by_cases hq:a/10=b/10
  ·rw [hq];refine ux ?_;rw [bc,bc,s8];refine .inl ?_;rw [UInt8.lt_iff_toNat_lt,pr,pr];omega
  ·exact ZU (acV zQ ny) (by rw [aG,aG,rL,rL])
theorem NM (dir:ByteArray) (n:Nat):bl (bw dir n)=(dir.data.toList++[46])++(np 8 n).map kr:=by
 unfold bl bw uH;rw [s9,s9,jb,jb]
theorem Yu {dir:ByteArray} {a b:Nat} (h:a<b) (hb:b<100000000):bl (bw dir a)<bl (bw dir b):=by
 rw [NM,NM];exact ux (acV h hb)
theorem ahP (x:ByteArray):(⟨(bl x).toArray⟩:ByteArray)=x:=afL x
theorem Yv {dir:ByteArray} {ns:List Nat} {ks:List ByteArray} (hp:ks.Perm (ns.map (bw dir))) (hs:ns.Pairwise (· < ·)) (hb: ∀n∈ns,n<100000000):fB ks=ns.map (bw dir):=by
 rw [adN hp];unfold fB;rw [List.mergeSort_of_pairwise]
 ·rw [eP];refine(ga fun x _=>?_).trans (List.map_id _);exact ahP x
 ·rw [ij,ij];refine hs.imp_of_mem fun {a b} _ hbm qS=>?_;unfold leB;exact decide_eq_true (List.le_of_lt (Yu qS (hb b hbm)))
theorem acW {l:List Nat} (h: ∀x∈l,x<256):rI (uH l)=l:=by
 unfold rI uH;rw [List.toList_toArray,eP];refine(ga fun x hx=>?_).trans (List.map_id l);have:=h x hx;simp [pr];omega
theorem VT: ∀(k n:Nat) (l:List Nat) (a:Nat),AP (np k n++l) a=AP l (a*10^k+n % 10^k)
 |0,n,l,a=>by simp [np,Nat.mod_one]
 |k+1,n,l,a=>by
  unfold np;rw [au,VT k (n/10)];rw [dX,cT,SH,if_neg zQ]
  congr 1
  have h1:n % 10^(k+1)=n/10 % 10^k*10+n % 10:=by
   rw [jg,Nat.mul_comm (10^k) 10,Nat.mod_mul];omega
  rw [h1,jg,Nat.add_mul,Nat.mul_assoc];omega
theorem aa3 {dir:ByteArray} {n:Nat} (hn:n<100000000):oN dir (bw dir n)=n:=by
 have dU:=rC dir n;have hd:dir.data.toList.length=dir.size:=by rw [Array.length_toList];rfl
 have e:(bw dir n).data.toList=(dir.data.toList++[46])++(np 8 n).map kr:=NM dir n;have h1:(bw dir n).extract 0 dir.size=dir:=by
  apply nA;apply Array.toList_inj.1;rw [se,tL,e,au];rw [qe];simp only [List.drop_zero,Nat.sub_zero];exact List.take_left' hd
 have h2:(bw dir n).data.toList[dir.size]? =some 46:=by
  rw [e,au,List.getElem?_append_right zQ,hd,Nat.sub_self];rfl
 have h3:(bw dir n).extract (dir.size+1) (bw dir n).size=uH (np 8 n):=by
  apply nA;apply Array.toList_inj.1;rw [se,tL,e,qe,dU];rw [List.drop_left' (by rw [ae,hd];rfl)];rw [bN (by rw [aG,rL];omega)];rfl
 unfold oN;rw [if_pos ⟨dU,h1,h2⟩,h3,acW (Lo 8 n)];have h4:=VT 8 n [] 0;rw [bZ] at h4;rw [h4]
 show 0*10^8+n % 10^8=n
 rw [Nat.zero_mul,Nat.zero_add];exact Nat.mod_eq_of_lt hn
theorem JY {m:DM} {n:ByteArray} {b:List Nat} {s:Nat} (h:(m.get n).isSome=true):(m.put n b s).ks=m.ks:=by
 show(fC n (b,s) m.fs).map (·.1)=_
 rw [tE,if_pos (show(getM n m.fs).isSome=true from h)];rfl
theorem mX {m:DM} {n:ByteArray} {b:List Nat} {s:Nat} :(m.put n b s).get n=some (b,s):=zp
theorem JZ {m:DM} {n k:ByteArray} {b:List Nat} {s:Nat} (h:k≠n):(m.put n b s).get k=m.get k:=CB h
theorem agI {ct:List Int} {x:DM×Nat} {n:ByteArray} :(DM.qG ct x n).1.ks=x.1.ks:=by
 unfold DM.qG;split
 ·rfl
 ·rename_i b s hg;split
  ·rfl
  ·exact JY (by rw [hg];rfl)
theorem PA {ct:List Int} {x:DM×Nat} {n k:ByteArray} (h:k≠n):(DM.qG ct x n).1.get k=x.1.get k:=by
 unfold DM.qG;split
 ·rfl
 ·split
  ·rfl
  ·exact JZ h
theorem acX {ct:List Int} {x:DM×Nat} {n:ByteArray} {b:List Nat} {s:Nat} (h:x.1.get n=some (b,s)) (hs:s≤b.length):
  ∃k,k≤b.length-s∧(DM.qG ct x n).1.get n=some (b.take (s+k),s+k)∧(ct=[]→k=0):=by
 unfold DM.qG;rw [h];dsimp only;split
 ·rename_i he;refine⟨0,aN _,?_,fun _=>rfl⟩;rw [h,Nat.add_zero,bN zQ]
 ·rename_i he;refine⟨_,?_,mX,?_⟩
  ·split
   ·split
    ·rename_i p _ _;have:=Nat.mod_lt p.toNat (show 0<b.length-s+1 by omega);generalize p.toNat % (b.length-s+1)=u at this;omega
    ·omega
   ·omega
  ·rintro rfl;simp
theorem aa4 {ct:List Int} {n:ByteArray} : ∀(ns:List ByteArray) (x:DM×Nat),(ns.foldl (DM.qG ct) x).1.ks=x.1.ks∧(n ∉ ns→(ns.foldl (DM.qG ct) x).1.get n=x.1.get n)∧
  (ns.Nodup→n∈ns→ ∀b s,x.1.get n=some (b,s)→s≤b.length→ ∃k,k≤b.length-s∧(ns.foldl (DM.qG ct) x).1.get n=some (b.take (s+k),s+k)∧(ct=[]→k=0))
 |[],x=>⟨rfl,fun _=>rfl,fun _ h=>absurd h (by simp)⟩
 |a::ns,x=>by
  obtain⟨h1,h2,h3⟩:=aa4 (ct:=ct) (n:=n) ns (DM.qG ct x a);rw [ib];refine⟨h1.trans agI,fun hn=>?_,fun hd hn b s hg hs=>?_⟩
  ·simp only [List.mem_cons,not_or] at hn;rw [h2 hn.2,PA hn.1]
  ·have Bs:=List.nodup_cons.1 hd;by_cases e:n=a
   ·subst e;obtain⟨k,hk,qu,hz⟩:=acX (ct:=ct) hg hs;exact⟨k,hk,by rw [h2 Bs.1];exact qu,hz⟩
   ·refine h3 Bs.2 ((List.mem_cons.1 hn).resolve_left e) b s ?_ hs;rw [PA e];exact hg
theorem CM (m:DM) (ct:List Int):(m.jH ct).ks=m.ks:=(aa4 (ct:=ct) (n:=⟨#[]⟩) (fB m.ks) (m,0)).1
theorem SN {m:DM} {ct:List Int} {n:ByteArray} {b:List Nat} {s:Nat} (hd:m.ks.Nodup) (h:m.get n=some (b,s)) (hs:s≤b.length): ∃k,k≤b.length-s∧(m.jH ct).get n=some (b.take (s+k),s+k)∧(ct=[]→k=0):=by
 have hn:n∈m.ks:=DM.get_some.1 (by rw [h];rfl);have hp:=mK m.ks;obtain⟨_,_,h3⟩:=aa4 (ct:=ct) (n:=n) (fB m.ks) (m,0);exact h3 (hp.nodup_iff.2 hd) (hp.mem_iff.2 hn) b s h hs
theorem aa5 {m:DM} {ct:List Int} {n:ByteArray} {b:List Nat} (hd:m.ks.Nodup) (h:m.get n=some (b,b.length)):(m.jH ct).get n=some (b,b.length):=by
 obtain⟨k,hk,hg,_⟩:=SN (ct:=ct) hd h (bf _);have:k=0:=by omega
 subst this;rw [hg,Nat.add_zero,dE]
def flat (l:List (List Nat)):List Nat:=(l.map cC).flatten
theorem zM (a b:List (List Nat)):flat (a++b)=flat a++flat b:=by simp [flat]
theorem GX (p:List Nat):flat [p]=cC p:=by simp [flat]
def fw:List bW→Prop
 |s::t::r=>t.first=s.first+s.bS.length∧s.bS≠[]∧fw (t::r)
 |_=>True
theorem fw.tail {s:bW} {r:List bW} (h:fw (s::r)):fw r:=by
 cases r with
 |nil=>trivial
 |cons t r=>exact h.2.2
theorem fw.lt: ∀{r:List bW} {s:bW},fw (s::r)→ ∀t∈r,s.first<t.first
 |[],_,_,_,h=>absurd h (by simp)
 |u::r,s,h,t,ht=>by
  have h1:=List.length_pos_iff.2 h.2.1;have h2:=h.1;rcases List.mem_cons.1 ht with rfl|ht
  ·omega
  ·have:=fw.lt h.2.2 t ht;omega
theorem fw.J4: ∀{l:List bW},fw l→(l.map (·.first)).Pairwise (· < ·)
 |[],_=>by simp
 |s::r,h=>by
  rw [bc,List.pairwise_cons];refine⟨fun n hn=>?_,fw.J4 h.tail⟩;obtain⟨t,ht,rfl⟩:=List.mem_map.1 hn;exact h.lt t ht
theorem fw.suffix: ∀{a b:List bW},fw (a++b)→fw b
 |[],_,h=>h
 |_::a,_,h=>fw.suffix (a:=a) h.tail
theorem fw.snoc {s:bW} {n:bW} : ∀{a:List bW},fw (a++[s])→n.first=s.first+s.bS.length→s.bS≠[]→fw (a++[s]++[n])
 |[],_,h1,h2=>⟨h1,h2,trivial⟩
 |[t],h,h1,h2=>⟨h.1,h.2.1,h1,h2,trivial⟩
 |t::u::a,h,h1,h2=>⟨h.1,h.2.1,fw.snoc (a:=u::a) h.2.2 h1 h2⟩
theorem fw.last {s s':bW} (hf:s'.first=s.first): ∀{a:List bW},fw (a++[s])→fw (a++[s'])
 |[],_=>trivial
 |[t],h=>⟨hf.trans h.1,h.2.1,trivial⟩
 |t::u::a,h=>⟨h.1,h.2.1,fw.last hf (a:=u::a) h.2.2⟩
structure Ub (s:bW):Prop where
 one:1≤s.first
 top:s.first≤99999999∧s.first+s.bS.length≤100000000
 sz:s.size=(flat s.bS).length
 pl: ∀p∈s.bS,p.length≤262144∧ky p
structure Good (l:List bW):Prop where
 lk:fw l
 ok: ∀s∈l,Ub s
theorem Good.suffix {a b:List bW} (h:Good (a++b)):Good b:=⟨h.lk.suffix,fun s hs=>h.ok s (dH _ hs)⟩
structure mf (dir:ByteArray) (pre:List bW) (s:bW) (iL:List Nat) (sf:Nat) (m:DM):Prop where
 nd:m.ks.Nodup
 ks:m.ks.Perm ((pre++[s]).map fun s=>bw dir s.first)
 body: ∀t∈pre,m.get (bw dir t.first)=some (flat t.bS,(flat t.bS).length)
 last:m.get (bw dir s.first)=some (flat s.bS++iL,sf)
 sf:sf≤(flat s.bS++iL).length
theorem mf.ne {dir:ByteArray} {pre:List bW} {s:bW} (hg:Good (pre++[s])) {t:bW} (ht:t∈pre):bw dir t.first≠bw dir s.first:=fun e=>by
 have h1:=hg.lk.J4;rw [aT] at h1;have h2:=(List.pairwise_append.1 h1).2.2 t.first (List.mem_map.2 ⟨t,ht,rfl⟩) s.first (by simp)
 have h3:=(hg.ok t (by simp [ht])).top;have h4:=(hg.ok s (by simp)).top;have:=Ai zQ zQ e;omega
theorem mf.jH {dir:ByteArray} {pre:List bW} {s:bW} {iL:List Nat} {sf:Nat} {m:DM} {ct:List Int} (h:mf dir pre s iL sf m) (hg:Good (pre++[s])):
  ∃k,k≤(flat s.bS++iL).length-sf∧(ct=[]→k=0)∧(m.jH ct).ks=m.ks∧(∀t∈pre,(m.jH ct).get (bw dir t.first)=some (flat t.bS,(flat t.bS).length))∧
   (m.jH ct).get (bw dir s.first)=some ((flat s.bS++iL).take (sf+k),sf+k):=by
 obtain⟨k,hk,we,hz⟩:=SN (ct:=ct) h.nd h.last h.sf;exact⟨k,hk,hz,CM m ct,fun t ht=>aa5 h.nd (h.body t ht),we⟩
theorem SO {l:List (List Nat)} {iL:List Nat} (hl: ∀p∈l,p.length≤262144) (ht:kf iL=none):iA (flat l++iL)=(l,(flat l).length):=by
 unfold flat;rw [Jz l iL hl,BO ht];simp
theorem BT:kf []=none:=tD (.inl (by simp))
theorem rM {m:DM} {n:ByteArray} {b:List Nat} {s:Nat} (h:m.get n=some (b,s)):m.bytes n=b:=by unfold DM.bytes;rw [h];rfl
theorem zt {d:ByteArray} {r:Nat} {z:Int} {pre:List bW} {s:bW} :(⟨d,r,pre++[s],z⟩:LM).last=s:=by simp [LM.last]
theorem VU {dir:ByteArray} {room:Nat} {m:DM} : ∀(SP pre:List bW),fw (pre++SP)→(∀t∈SP,1≤t.first∧t.first<100000000∧iA (m.bytes (bw dir t.first))=(t.bS,t.size))→
  (∀t∈(pre++SP).dropLast,(m.bytes (bw dir t.first)).length=t.size)→LD.nN ⟨⟨dir,room,pre,0⟩,m⟩ (SP.map fun s=>bw dir s.first)=(⟨⟨dir,room,pre++SP,0⟩,m⟩,0)
 |[],pre,_,_,_=>by simp [LD.nN]
 |t::SP,pre,hk,hs,hb=>by
  obtain⟨h1,h2,h3⟩:=hs t (by simp);have hn:oN dir (bw dir t.first)=t.first:=aa3 h2
  have hj:LD.DJ ⟨⟨dir,room,pre,0⟩,m⟩ t.first=false:=by
   unfold LD.DJ;simp only [decide_eq_false_iff_not];rintro⟨cU,VM⟩;obtain⟨p,u,rfl⟩: ∃p u,pre=p++[u]:=⟨_,_,(List.dropLast_concat_getLast cU).symm⟩;have ajR:fw (u::t::SP):=fw.suffix (a:=p) (by simpa using hk);have hu:(m.bytes (bw dir u.first)).length=u.size:=hb u (by
    rw [List.dropLast_append_of_ne_nil (by simp)];exact bR _ (by simp))
   rw [zt] at VM;have e1:(⟨dir,room,p++[u],0⟩:LM).ee=bw dir u.first:=by unfold LM.ee;rw [zt]
   have e2:(⟨dir,room,p++[u],0⟩:LM).next=u.first+u.bS.length:=by unfold LM.next;rw [zt]
   rw [e1,e2] at VM;rcases VM with h|h
   ·exact h hu
   ·exact h ajR.1
  have eJ:LD.join ⟨⟨dir,room,pre,0⟩,m⟩ t.first (bw dir t.first)=(⟨⟨dir,room,pre++[t],0⟩,m⟩,0):=by
   unfold LD.join;rw [hj,if_neg fe];dsimp only;rw [h3]
  rw [bc];unfold LD.nN;dsimp only;rw [hn,if_neg zQ,eJ,if_neg (by simp)];have:=VU (dir:=dir) (room:=room) (m:=m) SP (pre++[t]) (by simpa using hk) (fun x hx=>hs x (aZ _ hx)) (by simpa using hb);rw [this];simp
theorem GY {m:DM} (h0:m.ar=0) (hd:m.dn=false):m.tick.ar=0∧m.tick.dn=false:=by
 unfold DM.tick;rw [if_neg (by rw [h0];decide)];exact⟨by simp [h0],hd⟩
theorem VV {m:DM} (h0:m.ar=0) (hd:m.dn=false) (f:DM→DM):m.write 0 f=(f m.tick,0):=by
 unfold DM.write;rw [if_neg (by rw [hd];simp),if_neg (by simp),if_neg (by rw [(GY h0 hd).2];simp)]
theorem mf.tick {dir:ByteArray} {pre:List bW} {s:bW} {iL:List Nat} {sf:Nat} {m:DM} (h:mf dir pre s iL sf m):mf dir pre s iL sf m.tick:=by
 have e:m.tick.ks=m.ks:=by unfold DM.ks;rw [m.mC]
 exact⟨by rw [e];exact h.nd,by rw [e];exact h.ks,fun t ht=>by rw [m.lR];exact h.body t ht,by rw [m.lR];exact h.last,h.sf⟩
theorem mf.put {dir:ByteArray} {pre:List bW} {s s':bW} {iL GZ b:List Nat} {sf VW:Nat} {m:DM} (h:mf dir pre s iL sf m) (hg:Good (pre++[s])) (hf:s'.first=s.first) (hb:flat s'.bS++GZ=b) (hs:VW≤b.length):
  mf dir pre s' GZ VW (m.put (bw dir s.first) b VW):=by
 have afO:(m.get (bw dir s.first)).isSome=true:=by rw [h.last];rfl
 refine⟨by rw [JY afO];exact h.nd,?_,fun t ht=>?_,?_,by rw [hb];exact hs⟩
 ·rw [JY afO];have e:(pre++[s']).map (fun s=>bw dir s.first)=(pre++[s]).map (fun s=>bw dir s.first):=by simp [hf]
  rw [e];exact h.ks
 ·rw [JZ (mf.ne hg ht)];exact h.body t ht
 ·rw [hf,hb];exact mX
theorem mf.js {dir:ByteArray} {pre:List bW} {s:bW} {iL:List Nat} {sf:Nat} {m:DM} (h:mf dir pre s iL sf m) (hg:Good (pre++[s])):mf dir pre s iL (flat s.bS++iL).length (m.js (bw dir s.first)):=by
 unfold DM.js;rw [h.last];exact h.put hg rfl rfl (bf _)
theorem ahQ {dir:ByteArray} {room:Nat} {pre:List bW} {s:bW} {iL:List Nat} {sf:Nat} {m:DM} (h:mf dir pre s iL sf m) (hg:Good (pre++[s])) (ht:kf iL=none) (h0:m.ar=0) (hd:m.dn=false):
  ∃m',LD.uy dir room m=(⟨⟨dir,room,pre++[s],(s.first+s.bS.length:Nat)-1⟩,m'⟩,0)∧mf dir pre s [] (flat s.bS).length m'∧m'.ar=0∧m'.dn=false:=by
 have uZ:=hg.ok s (by simp);have UN:fB (m.fs.map (·.1))=(pre++[s]).map fun s=>bw dir s.first:=by
  have e:(pre++[s]).map (fun s=>bw dir s.first)=((pre++[s]).map (·.first)).map (bw dir):=by rw [eP];rfl
  rw [e];refine Yv (by rw [←e];exact h.ks) hg.lk.J4 fun n hn=>?_;obtain⟨t,ht,rfl⟩:=List.mem_map.1 hn;have:=(hg.ok t ht).top;omega
 have hj:=VU (dir:=dir) (room:=room) (m:=m) (pre++[s]) [] (by simpa using hg.lk) (fun t pH=>?_) (fun t pH=>?_)
 ·rw [cT] at hj;have hL0:L0 dir room=⟨dir,room,[],0⟩:=rfl;have ajS: ∃m',LD.EG ⟨⟨dir,room,pre++[s],0⟩,m⟩=(⟨⟨dir,room,pre++[s],(s.first+s.bS.length:Nat)-1⟩,m'⟩,0)∧mf dir pre s [] (flat s.bS).length m'∧m'.ar=0∧m'.dn=false:=by
   have eN:(⟨dir,room,pre++[s],0⟩:LM).ee=bw dir s.first:=by unfold LM.ee;rw [zt]
   have eX:(⟨dir,room,pre++[s],0⟩:LM).next=s.first+s.bS.length:=by unfold LM.next;rw [zt]
   have sync: ∀{m1:DM} {sf1:Nat},mf dir pre s [] sf1 m1→m1.ar=0→m1.dn=false→ ∃m',LD.sync ⟨⟨dir,room,pre++[s],0⟩,m1⟩=(⟨⟨dir,room,pre++[s],(s.first+s.bS.length:Nat)-1⟩,m'⟩,0)∧mf dir pre s [] (flat s.bS).length m'∧m'.ar=0∧m'.dn=false:=by
    intro m1 sf1 h1 a1 d1;have e:m1.sync (bw dir s.first)=(DM.js (bw dir s.first) m1.tick,0):=by
     unfold DM.sync;rw [if_pos (by rw [h1.last];rfl),VV a1 d1]
    refine⟨DM.js (bw dir s.first) m1.tick,?_,?_,?_,?_⟩
    ·unfold LD.sync;dsimp only;rw [eN,e,eX];rfl
    ·have:=h1.tick.js hg
     rwa [bZ] at this
    ·unfold DM.js;split
     ·exact(GY a1 d1).1
     ·exact(GY a1 d1).1
    ·unfold DM.js;split
     ·exact(GY a1 d1).2
     ·exact(GY a1 d1).2
   unfold LD.EG;dsimp only;rw [zt,eN,rM h.last,uZ.sz,ae];by_cases htn:iL=[]
   ·subst htn;rw [if_neg (by simp)];exact sync h h0 hd
   ·have:=List.length_pos_iff.2 htn;rw [if_pos zQ];have hc:m.cut (bw dir s.first) (flat s.bS).length=(DM.AO (bw dir s.first) (flat s.bS).length m.tick,0):=by
     unfold DM.cut DM.NF;rw [rM h.last,if_pos (by rw [h.last];rfl),ae,if_neg zQ,VV h0 hd];rfl
    rw [hc,if_neg (by simp)];have hcd:mf dir pre s [] (min sf (flat s.bS).length) (DM.AO (bw dir s.first) (flat s.bS).length m.tick):=by
     unfold DM.AO;rw [h.tick.last];dsimp only;rw [List.take_left];exact h.tick.put hg rfl (bZ _) (xB _ _)
    have ahR:(DM.AO (bw dir s.first) (flat s.bS).length m.tick).ar=0∧(DM.AO (bw dir s.first) (flat s.bS).length m.tick).dn=false:=by
     unfold DM.AO;split
     ·exact GY h0 hd
     ·exact GY h0 hd
    exact sync hcd ahR.1 ahR.2
  obtain⟨m',e1,e2⟩:=ajS;refine⟨m',?_,e2⟩;unfold LD.uy;dsimp only;rw [hd,if_neg fe,hL0,UN,hj,if_neg (by simp),if_neg (by simp)];exact e1
 ·have ZV:=hg.ok t pH;refine⟨ZV.one,by have:=ZV.top;omega,?_⟩;rw [ZV.sz];rcases List.mem_append.1 pH with pH|pH
  ·rw [rM (h.body t pH)];have:=SO (l:=t.bS) (iL:=[]) (fun p hp=>(ZV.pl p hp).1) BT
   rwa [bZ] at this
  ·simp only [aV] at pH;subst pH;rw [rM h.last];exact SO (fun p hp=>(ZV.pl p hp).1) ht
 ·rw [cT,List.dropLast_concat] at pH;rw [rM (h.body t pH),(hg.ok t (by simp [pH])).sz]
end Go.Proofs.YtpdkoaklobnegaaGreat
