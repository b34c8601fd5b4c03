/-
 Part 9 of the proof: what the last text leans on.
-/
import Derived.Test.YtpdkoaklobnegaaGreatChecked
import Derived.OpenShut
import Derived.JoinedCond
import Derived.Test.YtpdkoaklobnegaaGreatH8
open List renaming length_append → ae, length_map → aS, mem_singleton → bo, append_nil → cp, map_append → bq, mem_cons_of_mem → bm, mem_of_getElem? → bg, length_drop → b8, cons_append → ef, map_cons → bh, length_take → bQ, length_cons → bC, length → aB, mem_of_mem_drop → iE, map_map → en, mem_append_left → bU, getElem?_take_of_lt → gb, map_drop → ou, take_length → dV, map_congr_left → fG, nil_append → cV, map_take → qK, drop_drop → gy, getElem?_eq_getElem → bL, getElem?_map → dQ, foldl_cons → g9, append_assoc → ax, take_of_length_le → cl, tail_cons → pZ, sum_append → pt, sum_cons → eZ, take_add_one → dI, pairwise_map → iK, take_append_drop → ij, getElem?_cons_succ → nF, length_singleton → jj, mem_append_right → dX, getElem?_drop → fu, drop_of_length_le → hP, filter_sublist → kP, cons_lt_cons_iff → tv, append_left_lt → uU, extract_eq_take_drop → qz, getElem?_append_right → qa, dropLast_concat → ui, nodup_append → lI
open Option.some renaming inj → bK, injEq → aC
open Nat renaming le_refl → bp, le_trans → ah, zero_le → aV, lt_of_lt_of_le → aU, pow_succ → jg, add_zero → sB, mul_one → yk, min_eq_left → s6, lt_of_not_le → yl, min_le_right → ym, add_sub_cancel_left → rM
open Bool renaming and_eq_true → aG, false_ne_true → iu, true_and → ju, false_and → uj
open Prod renaming snd → rC
open Go.Instr renaming sliceAt → dR
open UInt8 renaming ofNat → lh, toNat_ofNat' → pK
open Go.DataW renaming TrodAll → vf
open Option renaming isSome_some → qo, map_some → bN
open ByteArray renaming size_extract → nY, data_append → tw, ext → mM, data_extract → sN, size → kA
open Array renaming toList_append → jH, toList_extract → uk
open List.Perm renaming refl → kz
set_option linter.unusedVariables false
set_option linter.unusedSimpArgs false
namespace Go.Proofs.YtpdkoaklobnegaaGreat
open Go.Proofs.Tryz renaming prog → pg
open Go.fR Go.ChangeShapes Go.WideShapes Go.ChangeAt Go.RowKit
set_option maxRecDepth 100000
set_option maxHeartbeats 1000000
section
variable {P : Program}
def Qq (P:Program) (ts:List TypeId):Bool:=ts.all fun t=>P.readableRec t&&decide (t<P.types.size)
theorem Ro (hl:laidOutB P=true) {H:Type} {enc:TypeId×Value→H} {W W':World} (hb:Below W.heap.size W W'): ∀{ts:List TypeId} {vs:List Value} {ds:List (DataW H)} {ps:List MemPlace},Qq P ts=true→(∀x∈ps,x.block<W.heap.size)→
  vf enc P W 0 (fun _=>true) true ts vs ds ps→vf enc P W' 0 (fun b=>decide (b<W.heap.size)) true ts vs ds ps
 |[],[],[],_,_,_,h=>h
 |t::ts,v::vs,d::ds,ps,hr,dh,⟨p,q,h1,h2,hps⟩=>by
  unfold Qq at hr
  simp only [List.all_cons,aG,decide_eq_true_eq] at hr
  subst hps
  exact⟨p,q,Below.trod hl hr.1.1 hr.1.2 h1 hb fun x hx=>dh x (bU _ hx),Ro hl hb hr.2 (fun x hx=>dh x (dX _ hx)) h2,rfl⟩
 |[],[],_::_,_,_,_,h=>h.elim
 |[],_::_,_,_,_,_,h=>h.elim
 |_::_,[],_,_,_,_,h=>h.elim
 |_::_,_::_,[],_,_,_,h=>h.elim
theorem abU (hl:laidOutB P=true) {tb:TypeId} (hub:P.underlying tb=some .bool) {H:Type} {enc:TypeId×Value→H} {f:Func} {s:ChangeSpec} {W W':World} {args:Array Value} {ds:List (DataW H)} {before:List MemPlace} (hv:s.vars=[]) (hrt:f.resultTypes= #[tb]) (hc:Qq P f.params.toList=true)
  (hs:(s.fn H (ds++[])).results=[.lit (.bool true)]∧(s.fn H (ds++[])).args=ds∧(s.fn H (ds++[])).vars=[])
  (hW:DataW.Whole enc P f.params.toList s.vars false W args.toList ds [] before) (hA:vf enc P W 0 (fun _=>true) true f.params.toList args.toList ds before) (hx:Ext W W'):
  s.post enc P f false true false false W args (.bool true) W':=by
 have hb:=hx.below
 refine⟨ds,[],before,[],before,[],hW,?_,?_,?_,Below.frame hb _,fun h=>by cases h⟩
 ·rw [hrt,hs.1]
  exact trodAll_cons_mk (shut_bool hub _) trodAll_mk0
 ·rw [hs.2.1]
  exact Ro hl hb hc (fun x hx=>hW.lt x hx) hA
 ·rw [hs.2.2,hv];rfl
end
theorem abV:ownKnob pg.godebug=none:=by kernel_rfl
theorem Tj:laidOutB pg=true:=by kernel_rfl
theorem bound {H:Type} {l:List (DataW H)} (hk:Rows.uptoSmall H l=true):Rows.uptoBulkAll l≤1048576:=of_decide_eq_true hk
theorem aeB:mS 39 (Hw 29 Rec.rd):=pe (by kernel_rfl) (by kernel_rfl) (by decide) agh
theorem aeC:mS 38 (Hw 4 (fun _ _ cs (x:mn)=>cs=x.l)):=pe (by kernel_rfl) (by kernel_rfl) (by decide) aa4
theorem ac1:mS 29 rdI:=aa2 (by kernel_rfl)
instance:Wt nz:=⟨fun x=>Wt.wt x.key+Wt.wt x.val+Wt.wt x.br+1,fun _=>by omega⟩
theorem aeD:mS 266 (fun _ _ cs (x:nz)=>cs=x.l):=fun H enc W fuel cs x h=>by
 obtain⟨n,ds,hx,hf⟩:=jD [9,51,35] (by kernel_rfl) h
 obtain⟨_,_,_,_,a0,rfl,rfl,rfl,w0,hf⟩:=ca Fe hf
 obtain⟨_,_,_,_,a1,rfl,rfl,rfl,w1,hf⟩:=ca OW hf
 obtain⟨_,_,_,_,a2,rfl,rfl,rfl,w2,rfl,rfl⟩:=ca sA hf
 refine⟨⟨a0,a1,a2⟩,rfl,?_⟩
 rw [hx];simp only [Rows.uptoBulk,Rows.uptoBulkAll,Wt.wt] at*;omega
theorem ac2:mS 37 (Hw 7 (fun _ _ cs (x:nz)=>cs=x.l)):=pe (by kernel_rfl) (by kernel_rfl) (by decide) aeD
instance:Wt gR:=⟨fun x=>Wt.wt x.kind+Wt.wt x.fr+Wt.wt x.to+Wt.wt x.dH+Wt.wt x.range+Wt.wt x.lf+Wt.wt x.code+Wt.wt x.br+Wt.wt x.prev+Wt.wt x.ko+Wt.wt x.n+Wt.wt x.mx+Wt.wt x.keys+Wt.wt x.seen+Wt.wt x.writes+Wt.wt x.parts+Wt.wt x.ranges+Wt.wt x.bY+Wt.wt x.state+1,fun _=>by omega⟩
theorem agi:mS 48 gR.rd:=fun H enc W fuel cs x h=>by
 obtain⟨n,ds,hx,hf⟩:=jD [3,3,3,33,3,3,29,35,35,4,3,3,36,37,23,22,38,39,46] (by kernel_rfl) h
 obtain⟨_,_,_,_,a0,rfl,rfl,rfl,w0,hf⟩:=ca nf hf
 obtain⟨_,_,_,_,a1,rfl,rfl,rfl,w1,hf⟩:=ca nf hf
 obtain⟨_,_,_,_,a2,rfl,rfl,rfl,w2,hf⟩:=ca nf hf
 obtain⟨_,_,_,_,a3,rfl,rfl,rfl,w3,hf⟩:=ca Vm hf
 obtain⟨_,_,_,_,a4,rfl,rfl,rfl,w4,hf⟩:=ca nf hf
 obtain⟨_,_,_,_,a5,rfl,rfl,rfl,w5,hf⟩:=ca nf hf
 obtain⟨_,_,_,_,a6,rfl,rfl,rfl,w6,hf⟩:=ca ac1 hf
 obtain⟨_,_,_,_,a7,rfl,rfl,rfl,w7,hf⟩:=ca sA hf
 obtain⟨_,_,_,_,a8,rfl,rfl,rfl,w8,hf⟩:=ca sA hf
 obtain⟨_,_,_,_,a9,rfl,rfl,rfl,w9,hf⟩:=ca XT hf
 obtain⟨_,_,_,_,a10,rfl,rfl,rfl,vW,hf⟩:=ca nf hf
 obtain⟨_,_,_,_,a11,rfl,rfl,rfl,w11,hf⟩:=ca nf hf
 obtain⟨_,_,_,_,a12,rfl,rfl,⟨v12,rfl,r12⟩,w12,hf⟩:=ca Zm hf
 obtain⟨_,_,_,_,a13,rfl,rfl,⟨v13,rfl,r13⟩,w13,hf⟩:=ca ac2 hf
 obtain⟨_,_,_,_,a14,rfl,rfl,⟨v14,rfl,r14⟩,w14,hf⟩:=ca Vn hf
 obtain⟨_,_,_,_,a15,rfl,rfl,⟨v15,rfl,r15⟩,w15,hf⟩:=ca Zn hf
 obtain⟨_,_,_,_,a16,rfl,rfl,⟨v16,rfl,r16⟩,w16,hf⟩:=ca aeC hf
 obtain⟨_,_,_,_,a17,rfl,rfl,⟨v17,rfl,r17⟩,w17,hf⟩:=ca aeB hf
 obtain⟨_,_,_,_,a18,rfl,rfl,⟨vh,vp,rfl,rh,rp⟩,w18,rfl,rfl⟩:=ca Vo hf
 refine⟨⟨a0,a1,a2,a3,a4,a5,a6,a7,a8,a9,a10,a11,a12,a13,a14,a15,a16,a17,a18⟩,⟨v12,v13,v14,v15,v16,v17,vh,vp,rfl,⟨r12.uJ,r13.uJ,r14.uJ,r15.uJ,r16.uJ,r17,rh,rp⟩⟩,?_⟩
 rw [hx];simp only [Rows.uptoBulk,Rows.uptoBulkAll,Wt.wt] at*;omega
instance:Wt ot:=⟨fun x=>Wt.wt x.kind+Wt.wt x.n+Wt.wt x.m+Wt.wt x.dD+1,fun _=>by omega⟩
theorem agj:mS 70 ot.rd:=fun H enc W fuel cs x h=>by
 obtain⟨n,ds,hx,hf⟩:=jD [3,3,48,22] (by kernel_rfl) h
 obtain⟨_,_,_,_,a0,rfl,rfl,rfl,w0,hf⟩:=ca nf hf
 obtain⟨_,_,_,_,a1,rfl,rfl,rfl,w1,hf⟩:=ca nf hf
 obtain⟨_,_,_,_,a2,rfl,rfl,⟨vk,vs,vw,vp,vr,vc,vh,vd,rfl,r2⟩,w2,hf⟩:=ca agi hf
 obtain⟨_,_,_,_,a3,rfl,rfl,⟨v3,rfl,r3⟩,w3,rfl,rfl⟩:=ca Zn hf
 refine⟨⟨a0,a1,a2,a3⟩,⟨vk,vs,vw,vp,vr,vc,vh,vd,v3,rfl,⟨r2,r3.uJ⟩⟩,?_⟩
 rw [hx];simp only [Rows.uptoBulk,Rows.uptoBulkAll,Wt.wt] at*;omega
theorem ad1:mS 66 (Hw 39 ot.rd):=pe (by kernel_rfl) (by kernel_rfl) (by decide) agj
theorem Qr {s:BA} {B:Nat} (h:Wt.wt s≤B):s.size≤B:=by
 have:s.size+1≤B:=h
 omega
theorem ahp {x:KV} {B:Nat} (h:Wt.wt x≤B):x.key.size≤B∧x.val.text.size≤B:=by
 have:(x.key.size+1)+(Wt.wt x.val.kind+Wt.wt x.val.num+(x.val.text.size+1)+1)+1≤B:=h
 omega
theorem Cu {l:List KV} {B:Nat} (h:Wt.wt l≤B) (hB:B≤2^40):OR l:=fun x hx=>by
 have h':(l.map Wt.wt).sum+1≤B:=h
 have:=ahp (B:=B) (ah (vA hx) (by omega))
 omega
theorem GN {l:List BA} {B:Nat} (h:Wt.wt l≤B) (hB:B≤2^40): ∀k∈l,k.size≤2^40:=fun x hx=>by
 have h':(l.map Wt.wt).sum+1≤B:=h
 have:=Qr (B:=B) (ah (vA hx) (by omega))
 omega
theorem um {α:Type} [Wt α] {l:List α} {B:Nat} (h:Wt.wt l≤B):l.length≤B:=by
 have h':(l.map Wt.wt).sum+1≤B:=h
 have:=aa1 l
 omega
theorem aeE {l:List fk} {B:Nat} (h:Wt.wt l≤B) (hB:B≤2^40):KB l∧z8 l∧Gg l:=by
 have h':(l.map Wt.wt).sum+1≤B:=h
 have key: ∀p∈l,Wt.wt p.reads≤B∧Wt.wt p.writes≤B:=fun p hp=>by
  have h1:Wt.wt p.dH+Wt.wt p.br+Wt.wt p.reads+Wt.wt p.writes+1≤(l.map Wt.wt).sum:=vA hp
  omega
 refine⟨fun p hp=>⟨GN (key p hp).1 hB,Cu (key p hp).2 hB⟩,fun p hp=>?_,fun p hp=>⟨GN (key p hp).1 hB,fun x hx=>(Cu (key p hp).2 hB x hx).1⟩⟩
 have h1:=um (key p hp).1
 have h2:=um (key p hp).2
 omega
theorem aeF {l:List jO} {B:Nat} (h:Wt.wt l≤B) (hB:B≤2^40):KA l∧Aa l∧Gf l:=by
 have h':(l.map Wt.wt).sum+1≤B:=h
 have key: ∀p∈l,Wt.wt p.key≤B∧Wt.wt p.kn≤B:=fun p hp=>by
  have h1:Wt.wt p.key+Wt.wt p.kn+1≤(l.map Wt.wt).sum:=vA hp
  omega
 refine⟨fun p hp=>⟨ah (Qr (key p hp).1) hB,fun v hv=>?_⟩,fun p hp=>ah (um (key p hp).2) hB,fun p hp=>ah (Qr (key p hp).1) hB⟩
 have h1:(p.kn.map Wt.wt).sum+1≤B:=(key p hp).2
 have h2:Wt.wt v.br+(Wt.wt v.val.kind+Wt.wt v.val.num+(v.val.text.size+1)+1)+1≤(p.kn.map Wt.wt).sum:=vA hv
 omega
theorem Vp {s:State} {B:Nat} (h:Wt.wt s≤B) (hB:B≤2^40):s.small∧KA s.iF∧KB s.iD:=by
 have h':Wt.wt s.range+Wt.wt s.floor+Wt.wt s.closed+Wt.wt s.iF+Wt.wt s.iD+1≤B:=h
 obtain⟨a1,a2,a3⟩:=aeF (l:=s.iF) (B:=B) (by omega) hB
 obtain⟨b1,b2,b3⟩:=aeE (l:=s.iD) (B:=B) (by omega) hB
 exact⟨⟨a2,b2,a3,b3⟩,a1,b1⟩
theorem aa5 {r:Rec} {B:Nat} (h:Wt.wt r≤B) (hB:B≤2^40):r.small∧r.text:=by
 have h':Wt.wt r.kind+Wt.wt r.dH+Wt.wt r.br+Wt.wt r.prev+Wt.wt r.ko+Wt.wt r.n+Wt.wt r.rP+Wt.wt r.reads+Wt.wt r.writes+Wt.wt r.parts+Wt.wt r.bH+Wt.wt r.state+1≤B:=h
 obtain⟨a1,a2,a3⟩:=Vp (s:=r.state) (B:=B) (by omega) hB
 have h1:=um (l:=r.reads) (B:=B) (by omega)
 have h2:=um (l:=r.writes) (B:=B) (by omega)
 have h3:=Cu (l:=r.writes) (B:=B) (by omega) hB
 have h4:=GN (l:=r.reads) (B:=B) (by omega) hB
 exact⟨⟨by omega,by omega,h4,fun x hx=>(h3 x hx).1,a1⟩,⟨h4,h3,Cu (l:=r.bH) (B:=B) (by omega) hB,a2,a3⟩⟩
theorem KD (s:BA):(kU s).length≤120*Wt.wt s:=by
 have h1:=nV s
 have h2:=ee s.size
 show _≤120*(s.size+1)
 omega
theorem M5 (x:KV):(dd x).length≤120*Wt.wt x:=by
 have h1:=KD x.key
 have h2:=MM (v:=x.val)
 have h3:Wt.wt x=Wt.wt x.key+Wt.wt x.val+1:=rfl
 unfold dd
 rw [ae];omega
theorem uK {α:Type} [Wt α] {f:α→List Nat} (l:List α) (h: ∀x,(f x).length≤120*Wt.wt x):(gA f l).length≤120*Wt.wt l:=by
 have h1:(l.map f).flatten.length≤120*(l.map Wt.wt).sum:=by
  induction l with
  |nil=>simp
  |cons x l ih=>have:=h x;simp only [bh,List.flatten_cons,ae,eZ];omega
 have h2:=ee (l.length:Int)
 have h3:Wt.wt l=(l.map Wt.wt).sum+1:=rfl
 unfold gA
 rw [ae];omega
theorem aeG (n:Int):(encI n).length≤120*Wt.wt n:=by
 have:=ee n
 show _≤120*1
 omega
theorem aa6 (v:lV):(vO v).length≤120*Wt.wt v:=by
 have h1:=ja v.br
 have h2:=MM (v:=v.val)
 have h3:Wt.wt v=4+Wt.wt v.val+1:=rfl
 unfold vO
 rw [ae];omega
theorem aeH (h:jO):(zl h).length≤120*Wt.wt h:=by
 have h1:=KD h.key
 have h2:=uK h.kn aa6
 have h3:Wt.wt h=Wt.wt h.key+Wt.wt h.kn+1:=rfl
 unfold zl
 rw [ae];omega
theorem aeI (p:fk):(u6 p).length≤120*Wt.wt p:=by
 have h1:=tX p.dH
 have h2:=ja p.br
 have h3:=uK p.reads KD
 have h4:=uK p.writes M5
 have h5:Wt.wt p=GK p.dH+4+Wt.wt p.reads+Wt.wt p.writes+1:=rfl
 have h6:=Qo p.dH
 unfold u6
 simp only [ae];omega
theorem aeJ (s:State):(encS s).length≤120*Wt.wt s:=by
 have h1:=ee s.range.id
 have h2:=ee s.range.lf
 have h3:=ja s.floor
 have h4:=ja s.closed
 have h5:=uK s.iF aeH
 have h6:=uK s.iD aeI
 have h7:Wt.wt s=Wt.wt s.range+4+4+Wt.wt s.iF+Wt.wt s.iD+1:=rfl
 unfold encS Ou
 simp only [ae,Gj];omega
theorem aeK (r:Rec):(wD r).length≤120*Wt.wt r:=by
 have h':Wt.wt r=Wt.wt r.kind+GK r.dH+4+4+Wt.wt r.ko+Wt.wt r.n+Wt.wt r.rP+Wt.wt r.reads+Wt.wt r.writes+Wt.wt r.parts+Wt.wt r.bH+Wt.wt r.state+1:=rfl
 have k0:=Qo r.dH
 have k1:=ee r.kind
 have k2:=aeJ r.state
 have k3:=ee r.n
 have k4:=tX r.dH
 have k5:=ja r.br
 have k6:=ja r.prev
 have k7:=uK r.reads KD
 have k8:=uK r.writes M5
 have k9:=uK r.bH M5
 have k10:=uK r.parts aeG
 have k11:=Gj r.rP
 have k12:(YP r.ko).length=1:=rfl
 unfold wD
 rw [ae]
 repeat' split
 all_goals (try unfold u6);(try simp only [ae,List.length_nil]);omega
theorem afb {m:gR} {B:Nat} (h:Wt.wt m≤B) (hB:B≤2^25):m.text∧m.small∧m.lens≤2^40:=by
 have h':Wt.wt m.kind+Wt.wt m.fr+Wt.wt m.to+Wt.wt m.dH+Wt.wt m.range+Wt.wt m.lf+Wt.wt m.code+Wt.wt m.br+Wt.wt m.prev+Wt.wt m.ko+Wt.wt m.n+Wt.wt m.mx+Wt.wt m.keys+Wt.wt m.seen+Wt.wt m.writes+Wt.wt m.parts+Wt.wt m.ranges+Wt.wt m.bY+Wt.wt m.state+1≤B:=h
 have OX:B≤2^40:=by omega
 obtain⟨a1,a2,a3⟩:=Vp (s:=m.state) (B:=B) (by omega) OX
 have l1:=um (l:=m.keys) (B:=B) (by omega)
 have l2:=um (l:=m.seen) (B:=B) (by omega)
 have l3:=um (l:=m.writes) (B:=B) (by omega)
 have l4:=um (l:=m.parts) (B:=B) (by omega)
 have l5:=um (l:=m.ranges) (B:=B) (by omega)
 have l6:=um (l:=m.bY) (B:=B) (by omega)
 have hr: ∀r∈m.bY,Wt.wt r≤B:=fun r hr=>by
  have h1:Wt.wt m.bY=(m.bY.map Wt.wt).sum+1:=rfl
  have:=vA hr
  omega
 refine⟨⟨GN (l:=m.keys) (B:=B) (by omega) OX,fun x hx=>?_,Cu (l:=m.writes) (B:=B) (by omega) OX,fun r h=>(aa5 (hr r h) OX).2,a2,a3⟩,⟨by omega,by omega,fun r h=>(aa5 (hr r h) OX).1,fun r h _=>?_,a1⟩,?_⟩
 ·have h1:Wt.wt m.seen=(m.seen.map Wt.wt).sum+1:=rfl
  have h2:(x.key.size+1)+(Wt.wt x.val.kind+Wt.wt x.val.num+(x.val.text.size+1)+1)+4+1≤(m.seen.map Wt.wt).sum:=vA hx
  omega
 ·have:=aeK r
  have:=hr r h
  omega
 ·unfold gR.lens;omega
theorem afc {m:gR} (h:Wt.wt m≤1048576):Gq m.dH∧ ∀y∈m.writes,y.val.num<18446744073709551616:=by
 have h':Wt.wt m.kind+Wt.wt m.fr+Wt.wt m.to+Wt.wt m.dH+Wt.wt m.range+Wt.wt m.lf+Wt.wt m.code+Wt.wt m.br+Wt.wt m.prev+Wt.wt m.ko+Wt.wt m.n+Wt.wt m.mx+Wt.wt m.keys+Wt.wt m.seen+Wt.wt m.writes≤1048576:=by
  simp only [Wt.wt] at h⊢
  omega
 refine⟨?_,fun y hy=>?_⟩
 ·have h1:GK m.dH≤1048576:=by
   have:Wt.wt m.dH=GK m.dH:=rfl
   omega
  exact aev h1
 ·have h1:Wt.wt m.writes=(m.writes.map Wt.wt).sum+1:=rfl
  have h2:(y.key.size+1)+(Wt.wt y.val.kind+JS y.val.num+(y.val.text.size+1)+1)+1≤(m.writes.map Wt.wt).sum:=vA hy
  exact aet (by omega)
end Go.Proofs.YtpdkoaklobnegaaGreat
namespace Go.Proofs.YtpdkoaklobnegaaGreat
open Go.Proofs.Tryz renaming prog → pg
open Go.fR
set_option maxRecDepth 100000
set_option maxHeartbeats 1000000
set_option linter.unusedVariables false
set_option linter.unusedSimpArgs false
attribute [local irreducible] un jn bz aQ aX gL eo dx cr nu fF mO BK AB jc iS aa ay aF eW eV eU eC eF gE ao fin aN aH aI vS BL jB lq wK D9 Ea Eb Ec BM jC lr wL Ed Ee Ef Eg
theorem Rp {P:Program} {X:XS} {w:World} {t:TypeId} {v:Value} {z z':Int} {i j:Nat} {rows:List (List Value)} {N:Value→Prop} (h:Sl w X 1 v rows) (hz:z=i) (zE:z'=j) (hij:i≤j) (hj:j≤rows.length) (ht:P.underlying t=some (.slice (P.elem t))) (hs:(P.info? (P.elem t)).map (·.size)=some 1)
  (n: ∀v',Sl w X 1 v' ((rows.drop i).take (j-i))→N v'):aa P X w (dR t v (some (.int .i64 z)) (some (.int .i64 z')) none) N:=by
 subst hz;subst zE
 obtain⟨h1,h2,base,cap,rfl,hc,hb,hlc,m6⟩:=h
 have hq: ∃inf,P.info? (P.elem t)=some inf∧inf.size=1:=by
  cases hq:P.info? (P.elem t)with
  |none=>simp [hq] at hs
  |some inf=>exact⟨inf,rfl,by simpa [hq] using hs⟩
 obtain⟨inf,hq,eu⟩:=hq
 have Hv:((rows.drop i).take (j-i)).length=j-i:=by rw [bQ,b8];omega
 have oy: ∀wa:World,(dR t (.slice base rows.length cap) (some (.int .i64 (i:Int))) (some (.int .i64 (j:Int))) none).run P wa= .ok (sliced base i j cap 1) wa:=fun wa=>by
  rw [run_sliceAt_slice wa t _ _ _ _ ht,run_slice_lh wa t _ _ cap ht .i64 .i64 i j (by omega) (by omega) (by omega)]
  simp [sizeOf,typeInfo,hq,eu]
 refine b9 oy (n _ ?_)
 refine⟨fun r hr=>h1 r (iE (List.mem_of_mem_take hr)),by omega,_,cap-i,by unfold sliced;rw [Hv],fun dr=>?_,fun Vq=>?_,by omega,by omega⟩
 ·have mP:i<j:=by
   refine yl fun hle=>dr ?_
   have:j-i=0:=by omega
   rw [this];simp
  obtain⟨b,o,rfl,kj⟩:=hc (by intro e;rw [e] at hj;simp at hj;omega)
  refine⟨b,o+i,?_,?_⟩
  ·rw [if_neg (by omega)]
   simp only [bN,aC,yk]
   unfold Addr.add
   split
   ·rename_i h0;rw [h0];rfl
   ·rfl
  ·have hr: ∀r∈rows.drop i,r.length=1:=fun r hr=>h1 r (iE hr)
   rw [fR.jU (j-i) hr,fR.zM i h1,yk,yk]
   obtain⟨hx,c,ty,fr,gC,Ep⟩:=kj
   refine⟨hx,c,ty,fr,gC,fun q u hu=>?_⟩
   have hq:=(List.getElem?_eq_some_iff.1 hu).1
   rw [bQ] at hq
   rw [gb (by omega),fu] at hu
   have:=Ep _ _ hu
   rwa [←Nat.add_assoc] at this
 ·split at Vq
  ·have:=hb Vq;omega
  ·have:base=none:=by simpa using Vq
   have:=hb this;omega
theorem M6 {P:Program} {X:XS} {w:World} {t:TypeId} {k:Nat} {v:Value} {z:Int} {i:Nat} {rows:List (List Value)} {N:Value→Prop} (h:Sl w X k v rows) (hz:z=i) (hi:i≤rows.length) (ht:P.underlying t=some (.slice (P.elem t))) (hs:(P.info? (P.elem t)).map (·.size)=some k)
  (n: ∀v',Sl w X k v' (rows.drop i)→N v'):aa P X w (dR t v (some (.int .i64 z)) none none) N:=by
 subst hz
 obtain⟨h1,h2,base,cap,rfl,hc,hb,hlc,m6⟩:=h
 have hq: ∃inf,P.info? (P.elem t)=some inf∧inf.size=k:=by
  cases hq:P.info? (P.elem t)with
  |none=>simp [hq] at hs
  |some inf=>exact⟨inf,rfl,by simpa [hq] using hs⟩
 obtain⟨inf,hq,eu⟩:=hq
 have oy: ∀wa:World,(dR t (.slice base rows.length cap) (some (.int .i64 (i:Int))) none none).run P wa= .ok (sliced base i rows.length cap k) wa:=fun wa=>by
  rw [run_sliceAt_slice wa t _ _ _ _ ht,run_slice_l wa t _ _ cap ht .i64 i (by omega) (by omega)]
  simp [sizeOf,typeInfo,hq,eu]
 refine b9 oy (n _ ?_)
 refine⟨fun r hr=>h1 r (iE hr),by rw [b8];omega,_,cap-i,by unfold sliced;rw [b8],fun dr=>?_,fun Vq=>?_,by rw [b8];omega,by omega⟩
 ·have mP:i<rows.length:=by
   refine yl fun hle=>dr (hP hle)
  obtain⟨b,o,rfl,kj⟩:=hc (by intro e;rw [e] at mP;simp at mP)
  refine⟨b,o+i*k,?_,?_⟩
  ·rw [if_neg (by omega)]
   simp only [bN,aC]
   unfold Addr.add
   split
   ·rename_i h0;rw [h0];rfl
   ·rfl
  ·rw [fR.zM i h1]
   obtain⟨hx,c,ty,fr,gC,Ep⟩:=kj
   exact⟨hx,c,ty,fr,gC,fun j v hj=>by rw [fu] at hj;have:=Ep _ _ hj;rwa [←Nat.add_assoc] at this⟩
 ·split at Vq
  ·have:=hb Vq;omega
  ·have:base=none:=by simpa using Vq
   have:=hb this;omega
theorem aeL {l:List Nat} (h: ∀b∈l,b<256):iL l<4294967296:=by
 have g: ∀i:Nat,l[i]?.getD 0<256:=fun i=>by
  cases hq:l[i]? with
  |none=>simp
  |some x=>simpa using h x (bg hq)
 have:=g 0
 have:=g 1
 have:=g 2
 have:=g 3
 rw [Fc]
 omega
theorem agk (l:List Nat):U4 (JB l)= .int .u32 ((Af l:Nat):Int):=by rw [OI]
theorem OY {b q:List Nat} (h:kQ b=some q):jb b=(q::(jb (b.drop (q.length+12))).1,q.length+12+(jb (b.drop (q.length+12))).2):=by
 rw [jb]
 split
 ·rename_i h2;rw [h] at h2;cases h2
 ·rename_i q' h2
  rw [h] at h2
  cases h2
  rfl
theorem Vr {w:World} {X:XS} {v0:Value} {bs:List Nat} (h:Sl w X 1 v0 (bs.map U1)) (hb:bs.length≤2^30) (dh: ∀b∈bs,b<256):
  Ct pg 139 #[v0] w X nX fun v wa w'=> ∃va,∃rs:List (Value×List Nat),v= .tuple #[va,I ((jb bs).2:Nat)]∧rs.map rC=(jb bs).1∧Own w' (made wa w') wa.heap.size 95 1 va (rs.map fun r=>[r.1])∧
   ∀r∈rs,Own w' (made wa w') wa.heap.size 5 1 r.1 (r.2.map U1):=by
 intro w0 hk
 replace h:=h.mv hk.dA
 obtain⟨lb,ln,lc,rfl⟩:=h.form
 apply RQ;unfold Ha
 have hs:=aj.init w0
 refine fV (Q:=fun K=> ∀va w X,∀rs:List (Value×List Nat),aj (aW w0) w0 X w→rs.map rC=(jb bs).1→Own w X w0.heap.size 95 1 va (rs.map fun r=>[r.1])→(∀r∈rs,Own w X w0.heap.size 5 1 r.1 (r.2.map U1))→K va (I ((jb bs).2:Nat)) w X) ?_ fun K hK=>?_
 ·intro va w1 X1 rs au he ho hr
  exact aq au fun wa aR=>⟨va,rs,rfl,he,(ho.kp aR).tight,fun r h=>((hr r h).kp aR).tight⟩
 ·refine iN (fun m a b w X=> ∃(p:Nat) (rs:List (Value×List Nat)),a=I p∧m=bs.length-p∧p≤bs.length∧aj (aW w0) w0 X w∧jb bs=(rs.map rC++(jb (bs.drop p)).1,p+(jb (bs.drop p)).2)∧Own w X w0.heap.size 95 1 b (rs.map fun r=>[r.1])∧(∀r∈rs,Own w X w0.heap.size 5 1 r.1 (r.2.map U1))∧rs.length≤p) bs.length ⟨0,[],rfl,rfl,aV _,hs,by simp,Own.nil _ _ _ _ _,by simp,bp _⟩ ?_
  clear hs
  rintro m a acc w1 X1 ⟨p,rs,rfl,rfl,hp,hs,hsc,ho,hr,BJ⟩
  have mr:=h.mv hs.mv
  have OZ:kQ (bs.drop p)=none→ ∀w X,aj X1 w1 X w→K acc (I p) w X:=fun hn w X yX=>by
   rw [Bm hn] at hsc
   have:=hK acc w X rs (hs.trans yX) (by rw [hsc];simp) (ho.since yX) fun r h=>(hr r h).since yX
   rw [hsc] at this
   exact this
  by_cases h12:bs.length-p<12
  ·repeat' first|(with_reducible refine Ei ?_ ?_);omega|with_reducible apply ak|(with_reducible apply bS);exact qO;(· kernel_rfl)|(with_reducible apply kY);omega;omega
   exact OZ (uh (.inl (by rw [b8];exact h12))) _ _ (aj.eP hs.has)
  ·repeat' first|(with_reducible refine Nw ?_ ?_);omega|with_reducible apply aD|(with_reducible apply bS);exact qO;(· kernel_rfl)|(with_reducible apply kY);omega;omega
   refine M6 mr rfl (by rw [aS];exact hp) (by kernel_rfl) (by kernel_rfl) fun v1 CI=>?_
   rw [←ou] at CI
   have BE: ∀b∈bs.drop p,b<256:=fun b hb=>dh b (iE hb)
   have QV:(bs.drop p).length=bs.length-p:=b8
   refine dt (DO CI (by omega) BE) (by kernel_rfl) hs.has fun w2 X2 b6=>?_
   replace hs:=hs.trans b6
   have rE:=ho.since b6
   have lE: ∀r∈rs,Own w2 X2 w0.heap.size 5 1 r.1 (r.2.map U1):=fun r h=>(hr r h).since b6
   have hg4:iL (bs.drop p)<4294967296:=aeL BE
   have hwn:IntKind.i64.wrap ((iL (bs.drop p):Nat):Int)=(iL (bs.drop p):Nat):=Su (by omega)
   repeat' first|with_reducible (first|apply dG|apply fb|apply cD|apply dW)|(with_reducible apply kF<;>intro _)|(with_reducible apply cx);omega;omega|(with_reducible apply pq);(· kernel_rfl);(· kernel_rfl)
   ·repeat' first|with_reducible (first|apply aD|apply fb|apply dW|apply bE|apply pP|apply dY)
    exact OZ (uh (.inr (.inl (by omega)))) _ _ b6
   ·have Qs:=h.mv hs.mv
    refine M6 Qs (i:=p+4) (by omega) (by rw [aS];omega) (by kernel_rfl) (by kernel_rfl) fun v2 Tv=>?_
    rw [←ou] at Tv
    repeat' first|with_reducible apply cD|(with_reducible apply cx);omega;omega
    refine Rp Qs (i:=p) (j:=p+4) rfl (by omega) (by omega) (by rw [aS];omega) (by kernel_rfl) (by kernel_rfl) fun v3 hv3=>?_
    rw [←ou,←qK] at hv3
    refine fV (Q:=fun K=> ∀w X,aj X2 w2 X w→K (.int .u32 ((iL (bs.drop (p+4)):Nat):Int)) w X) ?_ fun K1 JJ=>?_
    ·intro w3 X3 cw
     refine fV (Q:=fun K=> ∀w X,aj X2 w2 X w→K (.int .u32 ((Af ((bs.drop p).take (p+4-p)):Nat):Int)) w X) ?_ fun K2 hK2=>?_
     ·intro w4 X4 fw
      have agl:=Qs.mv fw.mv
      have e4:(bs.drop p).drop 4=bs.drop (p+4):=gy
      have e5:p+4-p=4:=by omega
      rw [e5]
      repeat' first|with_reducible (first|apply aD|apply ak|apply dG|apply fb|apply cD|apply dW|apply bE|apply bt)|(with_reducible apply kG<;>intro _)|(with_reducible apply kF<;>intro _)|(with_reducible apply bS);exact qO;(· kernel_rfl)|(with_reducible apply cx);omega;omega|(with_reducible apply kY);omega;omega
      ·rename_i dr
       exact OZ (uh (.inr (.inr (.inl (by rw [e4];omega))))) _ _ (b6.trans fw)
      ·rename_i heq hgt
       exact OZ (uh (.inr (.inr (.inr (by rw [QV];omega))))) _ _ (b6.trans fw)
      ·rename_i H8 heq hgt
       rw [hwn] at hgt H8⊢
       have adJ:((bs.drop (p+8)).take (iL (bs.drop p))).length=iL (bs.drop p):=by
        have h8:iL (bs.drop p)≤bs.length-(p+8):=by omega
        rw [bQ,b8]
        exact s6 h8
       refine Rp agl (i:=p+8) (j:=p+8+iL (bs.drop p)) (by omega) (by omega) (by omega) (by rw [aS];omega) (by kernel_rfl) (by kernel_rfl) fun v5 hv5=>?_
       rw [←ou,←qK,show p+8+iL (bs.drop p)-(p+8)=iL (bs.drop p)by omega] at hv5
       repeat' first|(with_reducible apply cx);omega;omega
       refine M6 agl (i:=p+8+iL (bs.drop p)) (by omega) (by rw [aS];omega) (by kernel_rfl) (by kernel_rfl) fun v6 hv6=>?_
       rw [←ou] at hv6
       refine dt (DO hv6 (by rw [b8];omega) fun b hb=>dh b (iE hb)) (by kernel_rfl) fw.has fun w5 X5 o9=>?_
       refine dt (zw (hv5.mv o9.mv)) (by kernel_rfl) o9.has fun w6 X6 tp=>?_
       rw [agk]
       have e8:(bs.drop p).drop 8=bs.drop (p+8):=gy
       have e9:(bs.drop p).drop (8+iL (bs.drop p))=bs.drop (p+8+iL (bs.drop p)):=by rw [gy];congr 1;omega
       have Vs:=(fw.trans o9).trans tp
       have hU: ¬((bs.drop p).length<12∨262144<iL (bs.drop p)∨iL ((bs.drop p).drop 4)≠Af ((bs.drop p).take 4)∨(bs.drop p).length-12<iL (bs.drop p)):=by
        rw [e4,QV]
        omega
       have m9:=hs.trans Vs
       have Fb:=rE.since Vs
       have E8: ∀r∈rs,Own w6 X6 w0.heap.size 5 1 r.1 (r.2.map U1):=fun r h=>(lE r h).since Vs
       have Zo:=hv5.mv (o9.trans tp).mv
       clear hs
       have hs:=m9
       clear rE lE ho hr
       repeat' first|with_reducible (first|apply aD|apply ak)|(with_reducible apply kG<;>intro _)|(with_reducible apply CG);(case hX=>exact hs.has);(case hu=>kernel_rfl);(case hz=>kernel_rfl);intro acc w X au ho;replace hs:=hs.trans au
       ·rename_i dr
        exact OZ (Zg (by rw [e9,e8];omega)) _ _ (b6.trans Vs)
       ·rename_i aiB
        have Ff:=WO hU (by rw [e9,e8];omega)
        rw [e8] at Ff
        clear aiB hU heq
        have agm:=adJ
        obtain⟨pl,Dh⟩: ∃pl,(bs.drop (p+8)).take (iL (bs.drop p))=pl:=⟨_,rfl⟩
        rw [Dh] at Ff Zo agm
        clear Dh adJ
        refine zK ho au Vs.has (by kernel_rfl) (Zo.mv au.mv) (fun r hr u hu=>?_) (by simp;omega) (by simp;omega) fun v8 w8 X8 qu yf Rq UJ=>?_
        ·obtain⟨x,_,rfl⟩:=List.mem_map.1 hr
         simp at hu;subst hu;rfl
        have yX:=m9.trans qu
        have OQ:=Fb.since qu
        refine Kk OQ yX (fun _ h=>h) (by kernel_rfl) rfl yf.sl.one (by simp;omega) (by simp;omega) fun va9 w9 X9 Aq UY LP ajz=>?_
        have LV: ∀{v:Value} {rows:List (List Value)},Own w8 X8 w0.heap.size 5 1 v rows→Own w9 X9 w0.heap.size 5 1 v rows:=fun hv=>hv.ej LP fun g hg gC=>by
         obtain⟨c1,e1⟩:=hv.ow.tag hg
         obtain⟨c2,e2⟩:=OQ.ow.tag gC
         rw [e1] at e2;simp at e2
        clear hs
        have hs:=Aq
        repeat' first|(with_reducible apply cx);omega;omega
        refine iC (bs.length-(p+(iL (bs.drop p)+12))) (by omega) ⟨p+(iL (bs.drop p)+12),rs++[(v8,pl)],by simp,rfl,by omega,Aq,?_,?_,fun r hr=>?_,?_⟩
        ·rw [OY Ff,agm,gy] at hsc
         rw [hsc];simp;omega
        ·rw [bq];exact UY
        ·rcases List.mem_append.1 hr with hr|hr
         ·exact LV ((E8 r hr).since qu)
         ·simp only [bo] at hr
          subst hr
          exact LV (yf.low (by have:=m9.kp.size;omega))
        ·simp;omega
     ·repeat' first|with_reducible apply oz
      refine dt (zw (hv3.mv cw.mv)) (by kernel_rfl) cw.has fun w4 X4 fw=>?_
      rw [agk]
      exact hK2 _ _ (cw.trans fw)
    ·repeat' first|with_reducible apply oz
     refine dt (DO Tv (by rw [b8];omega) fun b hb=>dh b (iE hb)) (by kernel_rfl) hs.has fun w3 X3 cw=>?_
     exact JJ _ _ cw
def DM.bytes (m:DM) (n:ByteArray):List Nat:=((m.get n).map (·.1)).getD []
theorem DU {w:World} {X F:XS} {db:Nat} {m:DM} {n:ByteArray} (h:Dk w F db m) (hF:FX F X w):
  Ct pg 138 #[ptr db 0,.string n] w X nX fun v wa w'=> ∃vb,v= .tuple #[vb,I (if(m.get n).isSome then 0 else 8)]∧Own w' (made wa w') wa.heap.size 5 1 vb ((m.bytes n).map U1):=by
 intro w0 hk
 obtain⟨mb,l,h0,hz⟩:=h.mv (hF.mv hk)
 have hX:=fun k ai=>(hF.kp hk k ai).1
 have hb:=h0.box.mv (Mv.sub hX)
 have hg:=h0.get n
 have hm:=h0.map.mv j8 (Mv.sub hX) (A':=nX) fun _ h=>h.elim
 apply K3;unfold AP
 have hs:=aj.init w0
 repeat' first|with_reducible apply aK|(with_reducible apply aM);exact qF;(· kernel_rfl);rfl;intro _ _ _|(with_reducible apply aZ);exact qF;exact qM;(· kernel_rfl);rfl
 refine oO hm (fun f h1=>?_) fun h1=>?_
 ·have hr:=(h0.row _ (ic h1)).mv (Mv.sub hX)
  have Zo:=((h0.ow _ (ic h1)).mono hX).sl
  have mm:m.get n=some (f.bs,f.safe):=by rw [hg,h1];rfl
  have hle:=DM.wS mm
  have pR:m.bytes n=f.bs:=by unfold DM.bytes;rw [mm];rfl
  rw [pR,mm]
  repeat' first|with_reducible (first|apply ak|apply aK)|(with_reducible apply aM);exact qF;(· kernel_rfl);rfl;intro _ _ _|(with_reducible apply aZ);exact qF;exact qM;(· kernel_rfl);rfl|(with_reducible apply lR);(· kernel_rfl)|(with_reducible apply CG);(case hX=>exact hs.has);(case hu=>kernel_rfl);(case hz=>kernel_rfl);intro acc w X au ho;replace hs:=hs.trans au
  refine zK ho hs (fun _ h=>h) (by kernel_rfl) (Zo.mv hs.mv) (fun r hr u hu=>?_) (by simp;omega) (by simp;omega) fun v8 w8 X8 qu yf Rq UJ=>?_
  ·obtain⟨x,_,rfl⟩:=List.mem_map.1 hr
   simp at hu;subst hu;rfl
  exact aq qu fun wa aR=>⟨v8,rfl,(yf.kp aR).tight⟩
 ·have mm:m.get n=none:=by rw [hg,h1];rfl
  have pR:m.bytes n=[]:=by unfold DM.bytes;rw [mm];rfl
  rw [pR,mm]
  repeat' first|with_reducible apply aD|(with_reducible apply El);(· kernel_rfl)
  exact aq hs fun wa aR=>⟨_,rfl,Own.nil _ _ _ _ _⟩
def DM.Ar (n:ByteArray) (k:Nat) (m:DM):DM:=match m.get n with
 |none=>m
 |some x=>m.put n (x.1.take k) (min x.2 k)
def DM.M7 (m:DM) (n:ByteArray) (k:Int):Nat:=if(m.get n).isSome then(if k<0∨(m.bytes n).length<k then 1 else 0)else 8
def DM.cut (m:DM) (n:ByteArray) (k:Int):DM×Nat:=m.write (m.M7 n k) (DM.Ar n k.toNat)
theorem DM.XU {m:DM} {n:ByteArray} {b:List Nat} {s s' k:Nat} (h:m.get n=some (b,s)) (hk:k≤b.length):(m.put n (b.take k) s').sz+(b.length-k)=m.sz:=by
 have:=DM.Jx (bs:=b.take k) (s':=s') h
 rw [bQ] at this
 omega
theorem mR.cut {w w':World} {F X X':XS} {db mb z i s':Nat} {l:List (ByteArray×mj)} {m:DM} {n:ByteArray} {f:mj} {v':Value} (h:mR w F db mb l m z) (hX:FX F X w) (hn:getM n l=some f) (c:fO (· =f.b) X w X' w')
  (hv:Ow w F 5 1 v' ((f.bs.take i).map U1)) (hb:v'.ownBlock=f.v.ownBlock) (hr:bJ w' X' f.b [v',I s'] 141) (hs:s'≤(f.bs.take i).length):
  mR w' F db mb (fW n ⟨f.b,v',f.bs.take i,s'⟩ l) (m.put n (f.bs.take i) s') z:=by
 have dK:=h.row _ (ic hn)
 refine h.lM hX c hn (fun k hk=>.inl hk) (fun _ h=>h) ⟨dK.1,hr.2⟩ ?_ (.inl hb) hs
 refine hv.tight.mv fun k hk hl=>⟨(hv.ba hk).1,c.block k (hX k (hv.ba hk).1).1 fun e=>?_⟩
 have e:k=f.b:=e
 subst e
 exact hv.dS dK (by kernel_rfl) hk
theorem WV {w:World} {X F:XS} {db bd bn bk k:Nat} {m:DM} {n:ByteArray} (h:Dk w F db m) (hF:FX F X w) (hd:bJ w X bd [ptr db 0] 26) (hn:bJ w X bn [.string n] 9) (nC:bJ w X bk [I k] 3)
  {b:List Nat} {s:Nat} (hg:m.get n=some (b,s)) (sH:k≤b.length):
  Ct pg 205 #[ptr bd 0,ptr bn 0,ptr bk 0] w X F fun v wa w'=>v= .tuple #[]∧ ∃F',(∀k,F' k→F k∨made wa w' k)∧Dk w' F' db (DM.Ar n k m):=by
 intro w0 hk
 obtain⟨mb,l,h0,hz⟩:=h.mv (hF.mv hk)
 have hT:=hF.ft hk
 replace hd:=hd.mv hk.dA
 replace hn:=hn.mv hk.dA
 replace nC:=nC.mv hk.dA
 have iH:=h0.box.mv (Mv.sub hT.ba)
 have hs:=aj.init w0
 have m5:=h0.get n
 have hm:=h0.map.mv j8 (Mv.sub hT.ba) (A':=nX) fun _ h=>h.elim
 apply HT;unfold yN
 repeat' first|with_reducible apply aK|(with_reducible apply aM);exact qF;(· kernel_rfl);rfl;intro _ _ _|(with_reducible apply aZ);exact qF;exact qM;(· kernel_rfl);rfl
 refine oO hm (fun f h1=>?_) fun h1=>?_
 ·have hgf:(b,s)=(f.bs,f.safe):=by rw [h1,hg] at m5;exact bK m5
  obtain⟨rfl,rfl⟩:=Prod.mk.inj hgf
  have hr:bJ w0 (aW w0) f.b [f.v,I f.safe] 141:=(h0.row _ (ic h1)).mv (Mv.sub hT.ba)
  have ho:Ow w0 F 5 1 f.v (f.bs.map U1):=h0.ow _ (ic h1)
  have Xm:=ho.sl.mono hT.ba
  have eu:=DM.XU (s':=min f.safe k) hg sH
  have hle:=DM.wS hg
  repeat' first|with_reducible apply aK|(with_reducible apply aM);exact qF;(· kernel_rfl);rfl;intro _ _ _|(with_reducible apply aZ);exact qF;exact qM;(· kernel_rfl);rfl|(with_reducible apply bS);exact qO;(· kernel_rfl)|(with_reducible apply kY);omega;omega
  refine ud hT h0 (fun _ h=>h) m (m.put n (f.bs.take k) (min f.safe k)).sz (o:=1) (by omega) (by kernel_rfl) (by omega) rfl (by rw [show(((m.put n (f.bs.take k) (min f.safe k)).sz:Nat):Int)=(m.sz:Int)-((f.bs.length:Int)-(k:Int))by omega];rfl) rfl h0.ar fun w4 X4 ed h4 c4=>?_
  have ua:bJ w4 X4 f.b [f.v,I f.safe] 141:=(h4.row _ (ic h1)).mv (Mv.sub ed.ba)
  have Ad:Ow w4 F 5 1 f.v (f.bs.map U1):=h4.ow _ (ic h1)
  have hk4:=nC.ej c4 fun e=>bJ.dS nC iH (by kernel_rfl) e
  clear hr ho Xm iH hs nC
  repeat' first|with_reducible apply aK|(with_reducible apply aM);exact qF;(· kernel_rfl);rfl;intro _ _ _|(with_reducible apply aZ);exact qF;exact qM;(· kernel_rfl);rfl
  refine To (i:=k) (Ad.mono ed.ba) (by omega) (by omega) (by rw [aS];exact sH) (by kernel_rfl) (by kernel_rfl) fun v' hv hvb=>?_
  rw [←qK] at hv
  have hvF:Ow w4 F 5 1 v' ((f.bs.take k).map U1):=hv.tight.mono fun q hq=>(Ad.ba (by rw [←hvb];exact hq)).1
  have ov:=hv.one
  repeat' first|with_reducible apply aK|(with_reducible apply aM);exact qF;(· kernel_rfl);rfl;intro _ _ _
  refine lB (o:=0) ua (by omega) (by kernel_rfl) (by simp) ov ed.s.has fun w5 X5 c5 sM=>?_
  replace sM:bJ w5 X5 f.b [v',I f.safe] 141:=sM
  have hk5:=hk4.ej c5 fun e=>bJ.dS hk4 ua (by kernel_rfl) e
  have Hv:(f.bs.take k).length=k:=by rw [bQ];exact s6 sH
  clear hk4
  repeat' first|with_reducible apply aK|(with_reducible apply aM);exact qF;(· kernel_rfl);rfl;intro _ _ _|(with_reducible apply aZ);exact qF;exact qM;(· kernel_rfl);rfl|(with_reducible apply Yt)
  rw [show min (f.safe:Int) (k:Int)=((min f.safe k:Nat):Int)by omega]
  refine lB (o:=1) sM (by omega) (by kernel_rfl) (by simp) rfl c5.has fun w6 X6 c6 E8=>?_
  replace E8:bJ w6 X6 f.b [v',I ((min f.safe k:Nat):Int)] 141:=E8
  have cc:=c5.trans c6
  have hFf:F f.b:=(h4.row _ (ic h1)).1
  have h6:=h4.cut (s':=min f.safe k) (ed.fx fun _ h=>h) h1 cc hvF hvb E8 (by rw [Hv];exact ym _ _)
  have ir:=ed.ej (F':=F) cc (fun q e=>by rw [show q=f.b from e];exact hFf) fun q hq=>.inl hq
  refine ir.fin fun wa aR=>⟨rfl,F,ir.gK aR fun _ h=>h,?_⟩
  have e:DM.Ar n k m=m.put n (f.bs.take k) (min f.safe k):=by unfold DM.Ar;rw [hg]
  rw [e]
  exact⟨mb,_,h6.mv (aR.fC ir.ba),by omega⟩
 ·rw [h1,hg] at m5;cases m5
theorem Zp {w:World} {X F:XS} {db k:Nat} {m:DM} {n:ByteArray} (h:Dk w F db m) (hF:FX F X w) (hk2:k<2^62):
  Ct pg 141 #[ptr db 0,.string n,I k] w X F fun v wa w'=>v=I (m.cut n k).2∧ ∃F',(∀k,F' k→F k∨made wa w' k)∧Dk w' F' db (m.cut n k).1:=by
 intro w0 hk
 replace h:=h.mv (hF.mv hk)
 have hT:=hF.ft hk
 have jl:FX F (aW w0) w0:=hF.kp hk
 clear hF
 apply Mz;unfold B1
 refine sI rfl hT.s.has fun bd w1 X1 nr au sK=>?_
 refine sI rfl au.has fun bn w2 X2 DY b6 JA=>?_
 refine sI rfl b6.has fun bk w3 X3 hbk cw hrk=>?_
 have Qt:=(au.trans b6).trans cw
 have cP:=hT.since Qt
 have ql:=(sK.since b6).since cw
 have u7:=JA.since cw
 have h3:Dk w3 F db m:=h.mv (Qt.fg fun k ai=>(jl k ai).1)
 have hs:=aj.eP cw.has
 repeat' first|(with_reducible apply aZ);exact qF;exact qM;(· kernel_rfl);rfl
 refine dt (Gu h3 (cP.fx fun _ h=>h)) (by kernel_rfl) hs.has fun w4 X4 fw=>?_
 have ed:=cP.since fw
 have h4:Dk w4 F db m:=h3.mv (fw.fg cP.ba)
 have Ap:=ql.since fw
 have Zq:=u7.since fw
 have Zr:=hrk.since fw
 have q1:=au.kp.size
 have q2:=b6.kp.size
 have q3:=cw.kp.size
 clear hs ql u7 hrk sK JA h3 cP
 have hs:=aj.eP ed.s.has
 refine fV (Q:=fun K=> ∀e:Nat,m.M7 n k=e→K (I e)) ?_ fun K hK=>?_
 ·intro e he
  have em:m.cut n k=m.write e (DM.Ar n k):=by rw [←he];rfl
  repeat' first|(with_reducible apply aZ);exact qF;exact qM;(· kernel_rfl);rfl|(with_reducible apply jx)
  rw [em]
  refine ed.call (yc (A:=fun k=>k=bd∨k=bn∨k=bk) (g:=DM.Ar n k) h4 (ed.fx fun _ h=>h) (fun k ai=>?_) (by kernel_rfl) ?_) (by kernel_rfl) (fun _ h=>h) fun v E3 w5 X5 hq zk sZ gU hc5=>?_
  ·rcases ai with rfl|rfl|rfl
   ·exact⟨Ap.1,Ap.lt,fun hf=>by have:=(jl _ hf).2;omega⟩
   ·exact⟨Zq.1,Zq.lt,fun hf=>by have:=(jl _ hf).2;omega⟩
   ·exact⟨Zr.1,Zr.lt,fun hf=>by have:=(jl _ hf).2;omega⟩
  ·intro he0 w6 X6 hm6 UW ON h6
   subst he0
   unfold DM.M7 at he
   cases mm:m.get n with
   |none=>rw [mm] at he;simp at he
   |some x=>
    obtain⟨b,s⟩:=x
    have SO:m.bytes n=b:=by unfold DM.bytes;rw [mm];rfl
    rw [mm,SO] at he
    simp only [qo,if_true] at he
    have sH:k≤b.length:=by
     refine Nat.le_of_not_lt fun hn=>?_
     rw [if_pos (.inr (by omega))] at he
     cases he
    refine WV h6 ON ⟨UW _ (.inl rfl),?_⟩ ⟨UW _ (.inr (.inl rfl)),?_⟩ ⟨UW _ (.inr (.inr rfl)),?_⟩ (by rw [m.mJ];exact mm) sH
    ·rw [(hm6 bd (.inl rfl) (Ap.lt)).2];exact Ap.2
    ·rw [(hm6 bn (.inr (.inl rfl)) (Zq.lt)).2];exact Zq.2
    ·rw [(hm6 bk (.inr (.inr rfl)) (Zr.lt)).2];exact Zr.2
  ·obtain⟨rfl,F',pB,hD⟩:=hq
   skip
   exact gU.fin fun E6 aR=>⟨rfl,F',gU.gK aR pB,hD.mv (aR.fC fun k ai=>gU.ba k (pB k ai))⟩
 ·obtain⟨mb,l,h0,hz⟩:=id h4
  have iH:=h0.box.mv (Mv.sub ed.ba)
  have hm:=h0.map.mv j8 (Mv.sub ed.ba) (A':=nX) fun _ h=>h.elim
  have m5:=h0.get n
  repeat' first|with_reducible (first|apply aD|apply ak|apply dz|apply cL|apply cM|apply cD|apply rR|apply iB|apply cu|apply dW|apply pS|apply bE|apply bt|apply aK)|(with_reducible apply kE<;>intro _)|(with_reducible apply gF<;>intro _)|(with_reducible apply aM);exact qF;(· kernel_rfl);rfl;intro _ _ _|(with_reducible apply aZ);exact qF;exact qM;(· kernel_rfl);rfl
  ·exfalso;omega
  ·refine oO hm (fun f h1=>?_) fun h1=>?_
   ·have mm:m.get n=some (f.bs,f.safe):=by rw [m5,h1];rfl
    have SO:m.bytes n=f.bs:=by unfold DM.bytes;rw [mm];rfl
    have hr:bJ w4 X4 f.b [f.v,I f.safe] 141:=(h0.row _ (ic h1)).mv (Mv.sub ed.ba)
    have ho:Sl w4 X4 1 f.v (f.bs.map U1):=(h0.ow _ (ic h1)).sl.mono ed.ba
    repeat' first|with_reducible (first|apply aD|apply ak|apply cD|apply rR|apply iB|apply bE|apply bt|apply aK)|(with_reducible apply kF<;>intro _)|(with_reducible apply aM);exact qF;(· kernel_rfl);rfl;intro _ _ _|(with_reducible apply aZ);exact qF;exact qM;(· kernel_rfl);rfl|(with_reducible apply bS);exact qO;(· kernel_rfl)
    ·exact hK 1 (by unfold DM.M7;rw [mm,SO];simp only [qo,if_true];rw [if_pos (.inr (by omega))])
    ·rw [mm]
     exact hK 0 (by unfold DM.M7;rw [mm,SO];simp only [qo,if_true];rw [if_neg (by omega)])
   ·have mm:m.get n=none:=by rw [m5,h1];rfl
    simp [mm] at*
  ·have mm:(m.get n).isSome=false:=by
    cases hq:(m.get n).isSome with
    |false=>rfl
    |true=>simp_all
   rw [mm]
   exact hK 8 (by unfold DM.M7;rw [mm];rfl)
def DM.rD (dD:List Int) (x:DM×Nat) (n:ByteArray):DM×Nat:=match x.1.get n with
 |none=>x
 |some (bs,s)=>if bs.length=s then x else
  let k:=match dD[x.2]? with
   |some p=>if 0≤p then p.toNat % (bs.length-s+1)else 0
   |none=>0
  (x.1.put n (bs.take (s+k)) (s+k),x.2+1)
def DM.mL (m:DM) (dD:List Int):DM:= { ((gu (m.fs.map (·.1))).foldl (DM.rD dD) (m,0)).1 with ar:=0,dn:=false }
theorem DM.aeM {m:DM} {n k:ByteArray} {b:List Nat} {s:Nat} (h:(m.get k).isSome=true):((m.put n b s).get k).isSome=true:=by
 unfold DM.get DM.put at*
 dsimp only
 by_cases e:k=n
 ·subst e;rw [zn];rfl
 ·rw [Cf e];exact h
theorem DM.ac3 {dD:List Int} {x:DM×Nat} {n k:ByteArray} (h:(x.1.get k).isSome=true):((DM.rD dD x n).1.get k).isSome=true:=by
 unfold DM.rD
 split
 ·exact h
 ·split
  ·exact h
  ·exact DM.aeM h
theorem Vt {w:World} {X F S:XS} {db:Nat} {m:DM} {vq:Value} {dD:List Int} (h:Dk w F db m) (hF:FX F X w) (hq:Sl w S 1 vq (dD.map I1)) (hS: ∀k,S k→X k∧ ¬F k) (hn: ∀x∈m.fs,x.1.size≤2^40) (hl:m.fs.length≤2^40):
  Ct pg 28 #[ptr db 0,vq] w X F fun v wa w'=>v= .tuple #[]∧Dk w' F db (m.mL dD):=by
 intro w0 hk
 obtain⟨mb,l,h0,hz⟩:=h.mv (hF.mv hk)
 have hT:=hF.ft hk
 have jl:FX F (aW w0) w0:=hF.kp hk
 have O3:Sl w0 (out F w0) 1 vq (dD.map I1):=hq.mv fun k ai yy=>⟨⟨aU yy hk.size,(hS k ai).2⟩,hk.block k (hS k ai).1⟩
 have hql:=O3.gW
 obtain⟨qb,qn,qc,rfl⟩:=O3.form
 apply I9;unfold zQ
 refine dk (DK ⟨mb,l,h0,hz⟩ (hT.fx fun _ h=>h) hn hl) (by kernel_rfl) hT.s.has ?_
 rintro vl JI w1 X1 U3 u4 qj au
 have cO:=hT.since au
 have h1:=h0.mv (au.fg hT.ba)
 have L3:Sl w1 (fun k=>X1 k∧ ¬F k) 1 vl ((gu (m.fs.map (·.1))).map S1):=U3.sl.mono fun k ai=>⟨qj k ai,fun hf=>by have:=(jl k hf).2;have:=ai.1;omega⟩
 have Dm: ∀n∈gu (m.fs.map (·.1)),(m.get n).isSome=true:=fun n hn=>by
  have:=(nB (m.fs.map (·.1))).mem_iff.1 hn
  cases hg:m.get n with
  |some x=>rfl
  |none=>exact absurd this (getM_none.1 hg)
 have hB:aj (fun k=>X1 k∧ ¬F k) w1 X1 w1:=⟨Kp.refl _ _,fun k h=>h.1,cO.s.has⟩
 have Xz:m.mL dD= { ((gu (m.fs.map (·.1))).foldl (DM.rD dD) (m,0)).1 with ar:=0,dn:=false } :=rfl
 generalize UK:gu (m.fs.map (·.1))=ns at L3 Dm Xz
 have hnl:=L3.gW
 obtain⟨lb,ln,lc,rfl⟩:=L3.form
 repeat' first|(with_reducible apply bS);exact qO;(· kernel_rfl)
 refine iN (fun m' a b w X=> ∃(j:Nat) (l:List (ByteArray×mj)) (x:DM×Nat),a=I j∧b=I x.2∧m'=ns.length-j∧j≤ns.length∧x.2≤j∧x=(ns.take j).foldl (DM.rD dD) (m,0)∧Ft w0 F w X F∧mR w F db mb l x.1 x.1.sz∧x.1.sz≤4194304∧(∀n∈ns,(x.1.get n).isSome=true)∧aj (fun k=>X1 k∧ ¬F k) w1 X w) ns.length
  ⟨0,l,(m,0),rfl,rfl,rfl,aV _,bp _,rfl,cO,h1,hz,Dm,hB⟩ ?_
 clear cO h1 hB hT h0 hz
 rintro m' a b w X ⟨j,l,x,rfl,rfl,rfl,hj,QW,hx,hT,h0,hz,Dm,hB⟩
 have hb:=h0.box.mv (Mv.sub hT.ba)
 have ajA:=L3.mv hB.mv
 have hq':=O3.mv hT.s.mv
 have hm:=h0.map.mv j8 (Mv.sub hT.ba) (A':=nX) fun _ h=>h.elim
 rcases fh ns j with⟨dh,n,kN,hd⟩|⟨eI,hd⟩
 ·have mm:=Dm n (bg kN)
  have m5:=h0.get n
  have Om:(ns.take (j+1)).foldl (DM.rD dD) (m,0)=DM.rD dD x n:=by rw [dI,kN,List.foldl_append,←hx];rfl
  repeat' first|(with_reducible refine dC ?_ ?_);omega|with_reducible apply aD
  refine fV (Q:=fun K=> ∀(x':DM×Nat) w X l,x'=DM.rD dD x n→Ft w0 F w X F→mR w F db mb l x'.1 x'.1.sz→x'.1.sz≤4194304→x'.2≤j+1→aj (fun k=>X1 k∧ ¬F k) w1 X w→K (I x'.2) w X) ?_ fun K hK=>?_
  ·intro x' w X l Lr hT h0 hz QW hB
   repeat' first|(with_reducible apply cx);omega;omega
   exact iC (ns.length-(j+1)) (by omega) ⟨j+1,l,x',by simp,rfl,rfl,by omega,QW,by rw [Om];exact Lr,hT,h0,hz,fun k ai=>by rw [Lr];exact DM.ac3 (Dm k ai),hB⟩
  ·repeat' first|with_reducible apply aK|(with_reducible apply aM);exact qF;(· kernel_rfl);rfl;intro _ _ _|(with_reducible apply aZ);exact qF;exact qM;(· kernel_rfl);rfl|((with_reducible apply e7);exact qO;(try (case hz=>rfl));(case hr=>exact qR);(try (case hz=>omega));(case ht=>kernel_rfl);(case hs=>kernel_rfl);intro _ _ _)
   refine oO hm (fun f hf=>?_) fun hf=>?_
   ·have Jz:x.1.get n=some (f.bs,f.safe):=by rw [m5,hf];rfl
    have hr:bJ w X f.b [f.v,I f.safe] 141:=(h0.row _ (ic hf)).mv (Mv.sub hT.ba)
    have ho:Ow w F 5 1 f.v (f.bs.map U1):=h0.ow _ (ic hf)
    have Xm:=ho.sl.mono hT.ba
    have hsf:f.safe≤f.bs.length:=h0.safe _ (ic hf)
    have hle:=DM.wS Jz
    have A9:DM.rD dD x n=if f.bs.length=f.safe then x else(x.1.put n (f.bs.take (f.safe+(match dD[x.2]? with|some p=>if 0≤p then p.toNat % (f.bs.length-f.safe+1)else 0|none=>0))) (f.safe+(match dD[x.2]? with|some p=>if 0≤p then p.toNat % (f.bs.length-f.safe+1)else 0|none=>0)),x.2+1):=by
     unfold DM.rD;rw [Jz]
    repeat' first|with_reducible (first|apply aD|apply ak|apply aK)|(with_reducible apply gF<;>intro _)|(with_reducible apply aM);exact qF;(· kernel_rfl);rfl;intro _ _ _|(with_reducible apply aZ);exact qF;exact qM;(· kernel_rfl);rfl|(with_reducible apply bS);exact qO;(· kernel_rfl)|(with_reducible apply kY);omega;omega
    ·exact hK x _ _ l (by rw [A9,if_pos (by omega)]) hT h0 hz (by omega) hB
    ·rename_i fT
     have aiC: ¬f.bs.length=f.safe:=by omega
     rw [if_neg aiC] at A9
     generalize xE:(match dD[x.2]? with|some p=>if 0≤p then p.toNat % (f.bs.length-f.safe+1)else 0|none=>0)=k at A9
     have tG:f.safe+k≤f.bs.length:=by
      rw [←xE]
      split
      ·split
       ·rename_i q _ _
        have:=Nat.mod_lt q.toNat (show 0<f.bs.length-f.safe+1 by omega)
        generalize q.toNat % (f.bs.length-f.safe+1)=u at this
        omega
       ·omega
      ·omega
     have eu:=DM.XU (s':=f.safe+k) Jz tG
     refine fV (Q:=fun K1=>K1 (I (k:Nat))) ?_ fun K1 JJ=>?_
     ·repeat' first|with_reducible apply aK|(with_reducible apply aM);exact qF;(· kernel_rfl);rfl;intro _ _ _|(with_reducible apply aZ);exact qF;exact qM;(· kernel_rfl);rfl|(with_reducible apply cx);omega;omega|(with_reducible apply kY);omega;omega
      have aiD:F db:=h0.box.1
      refine ud hT h0 (fun _ h=>h) x.1 (x.1.put n (f.bs.take (f.safe+k)) (f.safe+k)).sz (o:=1) (by omega) (by kernel_rfl) (by omega) rfl (by rw [show(((x.1.put n (f.bs.take (f.safe+k)) (f.safe+k)).sz:Nat):Int)=(x.1.sz:Int)-((f.bs.length:Int)-(f.safe:Int)-(k:Int))by omega];rfl) rfl h0.ar fun w4 X4 ed h4 c4=>?_
      have hB4:=hB.ej c4 fun q hq e=>hq.2 (by rw [show q=db from e];exact aiD)
      have ua:bJ w4 X4 f.b [f.v,I f.safe] 141:=(h4.row _ (ic hf)).mv (Mv.sub ed.ba)
      have Ad:Ow w4 F 5 1 f.v (f.bs.map U1):=h4.ow _ (ic hf)
      clear hr ho Xm hb
      repeat' first|with_reducible apply aK|(with_reducible apply aM);exact qF;(· kernel_rfl);rfl;intro _ _ _|(with_reducible apply aZ);exact qF;exact qM;(· kernel_rfl);rfl|(with_reducible apply cx);omega;omega
      refine To (i:=f.safe+k) (Ad.mono ed.ba) (by omega) (by omega) (by rw [aS];exact tG) (by kernel_rfl) (by kernel_rfl) fun v' hv hvb=>?_
      rw [←qK] at hv
      have hvF:Ow w4 F 5 1 v' ((f.bs.take (f.safe+k)).map U1):=hv.tight.mono fun q hq=>(Ad.ba (by rw [←hvb];exact hq)).1
      have ov:=hv.one
      repeat' first|with_reducible apply aK|(with_reducible apply aM);exact qF;(· kernel_rfl);rfl;intro _ _ _
      refine lB (o:=0) ua (by omega) (by kernel_rfl) (by simp) ov ed.s.has fun w5 X5 c5 sM=>?_
      replace sM:bJ w5 X5 f.b [v',I f.safe] 141:=sM
      have hv5:=(hv.ej c5 fun q hq e=>hv.dS ua (by kernel_rfl) (by rw [←(show q=f.b from e)];exact hq)).sl
      have Hv:(f.bs.take (f.safe+k)).length=f.safe+k:=by rw [bQ];exact s6 tG
      repeat' first|with_reducible apply aK|(with_reducible apply aM);exact qF;(· kernel_rfl);rfl;intro _ _ _|(with_reducible apply aZ);exact qF;exact qM;(· kernel_rfl);rfl|(with_reducible apply bS);exact qO;(· kernel_rfl)
      rw [Hv]
      refine lB (o:=1) sM (by omega) (by kernel_rfl) (by simp) rfl c5.has fun w6 X6 c6 E8=>?_
      replace E8:bJ w6 X6 f.b [v',I ((f.safe+k:Nat):Int)] 141:=E8
      have cc:=c5.trans c6
      have hFf:F f.b:=(h4.row _ (ic hf)).1
      have h6:=h4.cut (s':=f.safe+k) (ed.fx fun _ h=>h) hf cc hvF hvb E8 (by rw [Hv];exact bp _)
      refine hK (x.1.put n (f.bs.take (f.safe+k)) (f.safe+k),x.2+1) _ _ _ A9.symm (ed.ej cc (fun q e=>by rw [show q=f.b from e];exact hFf) fun q hq=>.inl hq) h6 (by show(x.1.put n _ _).sz≤_;omega) (by show x.2+1≤_;omega) (hB4.ej cc fun q hq e=>hq.2 (by rw [show q=f.b from e];exact hFf))
     ·repeat' first|with_reducible (first|apply aD|apply ak|apply dz|apply cL|apply cM|apply cu|apply bE|apply bt)|(with_reducible apply kE<;>intro _)|(with_reducible apply mG<;>intro _)|(with_reducible apply aZ);exact qF;exact qM;(· kernel_rfl);rfl|(with_reducible apply bS);exact qO;(· kernel_rfl)|((with_reducible apply e7);exact qO;(try (case hz=>rfl));(case hr=>exact qR);(try (case hz=>omega));(case ht=>kernel_rfl);(case hs=>kernel_rfl);intro _ _ _)|(with_reducible apply cx);omega;omega
      ·rename_i YN P3
       have Vu:dD[x.2]? =some dD[x.2]:=bL (by omega)
       rw [Vu] at xE
       dsimp only at xE
       rw [if_pos (by omega)] at xE
       have e1:dD[x.2]=((dD[x.2].toNat:Nat):Int):=by omega
       rw [e1,show(f.bs.length:Int)-(f.safe:Int)+1=((f.bs.length-f.safe+1:Nat):Int)by omega]
       refine aaK (by omega) ?_
       rw [xE]
       exact JJ
      ·rename_i YN P3
       have Vu:dD[x.2]? =some dD[x.2]:=bL (by omega)
       rw [Vu] at xE
       dsimp only at xE
       rw [if_neg (by omega)] at xE
       subst xE
       exact JJ
      ·rename_i P3
       have Vu:dD[x.2]? =none:=List.getElem?_eq_none (by omega)
       rw [Vu] at xE
       subst xE
       exact JJ
   ·rw [m5,hf] at mm;cases mm
 ·have mP:j=ns.length:=by omega
  subst mP
  rw [dV] at hx
  rw [←hx] at Xz
  repeat' first|(with_reducible refine dm ?_ ?_);omega|with_reducible (first|apply ak|apply aK)|(with_reducible apply aM);exact qF;(· kernel_rfl);rfl;intro _ _ _
  refine ud hT h0 (fun _ h=>h) { x.1 with dn:=false } x.1.sz (o:=4) (by omega) (by kernel_rfl) (by omega) rfl rfl rfl h0.ar fun w4 X4 ed h4 c4=>?_
  have uT:=h4.box.mv (Mv.sub ed.ba)
  clear hb
  repeat' first|with_reducible apply aK|(with_reducible apply aM);exact qF;(· kernel_rfl);rfl;intro _ _ _
  refine ud ed h4 (fun _ h=>h) { x.1 with ar:=0,dn:=false } x.1.sz (o:=3) (by omega) (by kernel_rfl) (by omega) rfl rfl rfl (by show 0<2^63;decide) fun w5 X5 gU h5 c5=>?_
  refine gU.fin fun wa aR=>⟨rfl,mb,l,?_,?_⟩
  ·rw [Xz]
   exact h5.mv (aR.fC gU.ba)
  ·rw [Xz]
   exact hz
def As:List Nat→Nat→Option Nat
 |[],n=>some n
 |c::l,n=>if c<48∨57<c then none else As l (n*10+(c-48))
def pf (dir name:ByteArray):Nat:=
 if name.size=dir.size+9∧name.extract 0 dir.size=dir∧name.data.toList[dir.size]? =some 46 then(As (rY (name.extract (dir.size+1) name.size)) 0).getD 0 else 0
theorem XV: ∀(l:List Nat) (n k:Nat),n<10^k→(As l n).getD 0<10^(k+l.length)
 |[],n,k,h=>by simpa [As] using h
 |c::l,n,k,h=>by
  unfold As
  split
  ·simp;exact Nat.pow_pos (by decide)
  ·have:=XV l (n*10+(c-48)) (k+1) (by rw [jg];omega)
   rw [bC,show k+(l.length+1)=k+1+l.length by omega]
   exact this
theorem aeN (dir name:ByteArray):pf dir name<100000000:=by
 unfold pf
 split
 ·rename_i h
  have h1:=XV (rY (name.extract (dir.size+1) name.size)) 0 0 (by decide)
  have h2:(rY (name.extract (dir.size+1) name.size)).length=8:=by rw [Fx,nY];omega
  rw [h2] at h1
  exact h1
 ·decide
theorem Rr (c:Nat) (l:List Nat) (n:Nat):As (c::l) n=if c<48∨57<c then none else As l (n*10+(c-48)):=rfl
theorem Vv {w:World} {X:XS} {dir name:ByteArray} (hd:dir.size≤2^40) (hn:name.size≤2^41):Ct pg 81 #[.string dir,.string name] w X nX fun v wa w'=>v=I (pf dir name):=by
 intro w0 hk
 apply RM;unfold G7
 have hs:=aj.init w0
 have no: ¬(name.size=dir.size+9∧name.extract 0 dir.size=dir∧name.data.toList[dir.size]? =some 46)→pf dir name=0:=fun h=>by unfold pf;rw [if_neg h]
 by_cases h1:name.size=dir.size+9
 ·have hnl:name.data.toList.length=name.size:=(It name).symm
  obtain⟨c,hc⟩: ∃c,name.data.toList[dir.size]? =some c:=⟨_,bL (by omega)⟩
  repeat' first|(with_reducible refine fL ?_ ?_);omega|with_reducible (first|apply dG|apply cD)|(with_reducible apply rV);(· kernel_rfl)|(with_reducible apply cx);omega;omega
  refine afp (i:=dir.size) rfl (by omega) (by kernel_rfl) ?_
  repeat' first|with_reducible (first|apply aD|apply ak|apply dG|apply fb|apply cD|apply dW|apply bE|apply bt)|(with_reducible apply kG<;>intro _)|(with_reducible apply aak<;>intro _)|(with_reducible apply rV);(· kernel_rfl)|(with_reducible apply cx);omega;omega|((with_reducible apply adv);(try (case hz=>rfl));(case hb=>assumption);(try (case hz=>omega));(case ht=>kernel_rfl))
  ·exact aq hs fun wa aR=>by rw [no (by simp_all)];rfl
  ·exact aq hs fun wa aR=>by rw [no (by rintro⟨_,_,h⟩;rw [hc] at h;simp_all)];rfl
  ·refine afq (i:=dir.size+1) (by omega) (by omega) (by kernel_rfl) ?_
   refine aau (e:=5) hs.has (by rw [nY];omega) (by kernel_rfl) (by kernel_rfl) (by kernel_rfl) fun vb w1 X1 au mr=>?_
   have Ae:(rY (name.extract (dir.size+1) name.size)).length=8:=by rw [Fx,nY];omega
   have aiE:c=46:=UInt8.toNat_inj.1 (by have:c.toNat=46:=(by omega);rw [this];rfl)
   have e1:pf dir name=(As (rY (name.extract (dir.size+1) name.size)) 0).getD 0:=by
    unfold pf
    rw [if_pos ⟨h1,by assumption,by rw [hc,aiE]⟩]
   rw [e1]
   have dh: ∀x∈rY (name.extract (dir.size+1) name.size),x<256:=fun x hx=>aed hx
   generalize rY (name.extract (dir.size+1) name.size)=bs at mr Ae dh⊢
   replace hs:=hs.trans au
   obtain⟨lb,ln,lc,rfl⟩:=mr.form
   repeat' first|(with_reducible apply bS);exact qO;(· kernel_rfl)
   refine iN (fun m a b w X=> ∃(i n:Nat),a=I i∧b=I n∧m=bs.length-i∧i≤bs.length∧n<10^i∧As bs 0=As (bs.drop i) n∧aj X1 w1 X w∧aj (aW w0) w0 X w) bs.length ⟨0,0,rfl,rfl,rfl,aV _,by decide,rfl,aj.eP hs.has,hs⟩ ?_
   clear hs
   rintro m a b w X ⟨i,n,rfl,rfl,rfl,hi,hn,hf,b6,hs⟩
   have Qs:=mr.mv b6.mv
   rcases fh bs i with⟨YN,x,hx,Ij⟩|⟨eI,Ij⟩
   ·have ajb:=dh x (bg hx)
    have hn8:n<10^8:=aU hn (Nat.pow_le_pow_right (by decide) (by omega))
    have ajB:n<100000000:=hn8
    rw [Ij,Rr] at hf
    repeat' first|(with_reducible refine dC ?_ ?_);omega|with_reducible (first|apply aD|apply ak|apply dG|apply fb|apply cD|apply dW|apply bE|apply bt)|(with_reducible apply kE<;>intro _)|(with_reducible apply kF<;>intro _)|(with_reducible apply aZ);exact qF;exact qM;(· kernel_rfl);rfl|((with_reducible apply e7);exact qO;(try (case hz=>rfl));(case hr=>exact qR);(try (case hz=>omega));(case ht=>kernel_rfl);(case hs=>kernel_rfl);intro _ _ _)
    ·rw [if_pos (.inl (by omega))] at hf
     exact aq hs fun wa aR=>by rw [hf];rfl
    ·rw [if_pos (.inr (by omega))] at hf
     exact aq hs fun wa aR=>by rw [hf];rfl
    ·rw [if_neg (by omega)] at hf
     refine agR (by omega) (by omega) ?_
     refine Xb ?_
     rw [show IntKind.u8.wrap ((x:Int)-48)=((x-48:Nat):Int)by rw [C8];omega]
     repeat' first|(with_reducible apply pq);(· kernel_rfl);(· kernel_rfl)
     rw [Su (by omega)]
     repeat' first|(with_reducible apply cx);omega;omega
     refine iC (bs.length-(i+1)) (by omega) ⟨i+1,n*10+(x-48),by simp,by simp,rfl,by omega,by rw [jg];omega,hf,b6,hs⟩
   ·have mP:i=bs.length:=by omega
    subst mP
    rw [List.drop_length] at hf
    repeat' first|(with_reducible refine dm ?_ ?_);omega|with_reducible apply ak
    exact aq hs fun wa aR=>by rw [hf];rfl
 ·repeat' first|(with_reducible refine xv ?_ ?_);omega|with_reducible (first|apply aD|apply fb|apply dW|apply bE)|(with_reducible apply rV);(· kernel_rfl)|(with_reducible apply cx);omega;omega
  exact aq hs fun wa aR=>by rw [no fun h=>h1 h.1];rfl
theorem Rs: ∀(k:Nat) (b:List Nat),b.length≤k→(jb b).2≤b.length∧(jb b).1.length≤(jb b).2
 |0,b,h=>by rw [WQ (by omega)];simp
 |k+1,b,h=>by
  cases hf:kQ b with
  |none=>rw [Bm hf];simp
  |some q=>
   have h1:=OM hf
   rw [OY hf]
   have h2:=Rs k (b.drop (q.length+12)) (by rw [b8];omega)
   rw [b8] at h2
   simp only [bC]
   omega
def LD.Dn (x:LD) (n:Nat):Bool:=decide (x.L.bR≠[]∧((x.m.bytes x.L.ep).length≠x.L.last.size∨n≠x.L.next))
noncomputable def LD.join (x:LD) (n:Nat) (nm:ByteArray):LD×Nat:=
 if x.Dn n then(x,13)else(⟨{ x.L with bR:=x.L.bR++[⟨n,(jb (x.m.bytes nm)).1,(jb (x.m.bytes nm)).2⟩] },x.m⟩,0)
noncomputable def LD.oI:LD→List ByteArray→LD×Nat
 |x,[]=>(x,0)
 |x,nm::r=>if pf x.L.dir nm=0 then x.oI r else if(x.join (pf x.L.dir nm) nm).2≠0 then x.join (pf x.L.dir nm) nm else(x.join (pf x.L.dir nm) nm).1.oI r
def LD.DV (x:LD):LD×Nat:=
 if x.L.last.size<(x.m.bytes x.L.ep).length then
  if(x.m.cut x.L.ep x.L.last.size).2≠0 then(⟨x.L,(x.m.cut x.L.ep x.L.last.size).1⟩,(x.m.cut x.L.ep x.L.last.size).2)else LD.sync ⟨x.L,(x.m.cut x.L.ep x.L.last.size).1⟩
 else x.sync
noncomputable def LD.wc (dir:ByteArray) (room:Nat) (m:DM):LD×Nat:=
 if m.dn then(⟨L0 dir room,m⟩,12)else
  let q:=LD.oI ⟨L0 dir room,m⟩ (gu (m.fs.map (·.1)))
  if q.2≠0 then q else if q.1.L.bR=[] then q.1.gB 1 else q.1.DV
theorem DM.JU {w:World} {F:XS} {db:Nat} {m:DM} (h:Dk w F db m) (n:ByteArray):(m.bytes n).length≤4194304:=by
 obtain⟨mb,l,h,hz⟩:=h
 unfold DM.bytes
 cases hg:m.get n with
 |none=>simp
 |some x=>have:=DM.wS (b:=x.1) (s:=x.2) hg;simp;omega
theorem Zs {w:World} {X F:XS} {lb db n:Nat} {L:LM} {m:DM} {nm:ByteArray} (h:Lg w F lb db L m) (mQ:L.bR≠[]→j9 L) (pO:L.dir.size≤11) (hn:n≤2^40) (mr:L.bR.length≤2^30) (G4: ∀b∈m.bytes nm,b<256) (hF:FX F X w):
  Ct pg 82 #[ptr lb 0,I n,.string nm] w X F fun v wa w'=>v=I (LD.join ⟨L,m⟩ n nm).2∧ ∃F',(∀k,F' k→F k∨made wa w' k)∧Lg w' F' lb db (LD.join ⟨L,m⟩ n nm).1.L (LD.join ⟨L,m⟩ n nm).1.m:=by
 intro w0 hk
 obtain⟨FL,FD,sv,bl,h⟩:=(h.mv (hF.mv hk)).lw
 have hT:=hF.ft hk
 have jl:FX F (aW w0) w0:=hF.kp hk
 have hX:=fun k ai=>(jl k (h.hL k ai)).1
 have hb:=h.l.box.mv (Mv.sub hX)
 have vy:=h.l.so.sl.mono hX
 have Ae:bl.length=L.bR.length:=by rw [h.l.bR,aS]
 have ajC:=DM.JU h.d nm
 have eJ:LD.join ⟨L,m⟩ n nm=if LD.Dn ⟨L,m⟩ n then(⟨L,m⟩,13)else(⟨{ L with bR:=L.bR++[⟨n,(jb (m.bytes nm)).1,(jb (m.bytes nm)).2⟩] },m⟩,0):=rfl
 apply NZ;unfold CO
 have hs:=aj.init w0
 refine fV (Q:=fun K=> ∀w1 X1,LD.Dn ⟨L,m⟩ n=false→aj (aW w0) w0 X1 w1→K w1 X1) ?_ fun K hK=>?_
 ·intro w1 X1 hj au
  rw [eJ,hj]
  have cO:=hT.since au
  have h1:=h.mv (au.fg hT.ba)
  have mF:=hb.since au
  clear hs hb vy
  repeat' first|with_reducible apply aK|(with_reducible apply aM);exact qF;(· kernel_rfl);rfl;intro _ _ _|(with_reducible apply aZ);exact qF;exact qM;(· kernel_rfl);rfl
  refine dk (DU (n:=nm) h1.d (cO.fx h1.hD)) (by kernel_rfl) cO.s.has ?_
  rintro _ wQ w2 X2 ⟨vb,rfl,E9⟩ u5 rj b6
  have bM:=cO.since b6
  have h2:=h1.mv (b6.fg cO.ba)
  repeat' first|(with_reducible apply fp);rfl
  refine dk (Vr (E9.sl.mono rj) (by omega) G4) (by kernel_rfl) bM.s.has ?_
  rintro _ qw w3 X3 ⟨va,rs,rfl,hrs,OQ,hor⟩ rr oG cw
  have cP:=bM.since cw
  have h3:=h2.mv (cw.fg bM.ba)
  have Q4: ∀k,FL k→X3 k:=fun k ai=>cP.ba k (h3.hL k ai)
  have Ch:=(mF.since b6).since cw
  have Qh:=h3.l.so.mono Q4
  have o3:=h3.l.so.one
  have oa:=OQ.sl.one
  obtain⟨ab,an,ac,rfl⟩:=OQ.sl.form
  generalize eu:(jb (m.bytes nm)).2=sz
  have Ot:=au.kp.size
  have ND:=b6.kp.size
  have hz3:=cw.kp.size
  repeat' first|with_reducible apply aK|(with_reducible apply aM);exact qF;(· kernel_rfl);rfl;intro _ _ _|(with_reducible apply aZ);exact qF;exact qM;(· kernel_rfl);rfl|(with_reducible apply gg);(· kernel_rfl)|(with_reducible apply fp);rfl
  refine lQ cP.s.has fun bx w4 X4 iH fw dK=>?_
  have MW:=Qh.mv fw.mv
  refine NF (bytes:=8) (row:=[ptr bx 0]) MW fw.has (by kernel_rfl) rfl rfl rfl (by simp;omega) (by simp;omega) fun wT w5 X5 c5 rn acr=>?_
  have uT:=Ch.since fw
  have dr: ∀q,jw sv q→q≠lb:=fun q hq e=>MW.dS uT (by kernel_rfl) (by rw [←e];exact hq)
  have Q5:bJ w5 X5 lb [ptr db 0,.string L.dir,I L.room,sv,I L.safe] 158:=⟨c5.sub _ uT.1,by rw [c5.block _ uT.1 fun hq=>dr _ hq rfl];exact uT.2⟩
  clear mF Ch
  repeat' first|with_reducible apply aK|(with_reducible apply aM);exact qF;(· kernel_rfl);rfl;intro _ _ _
  refine lB (o:=3) Q5 (by omega) (by kernel_rfl) (by simp) rn.one c5.has fun w6 X6 c6 E8=>?_
  have MX: ∀q,jw sv q→FL q:=fun q hq=>(h3.l.so.ba hq).1
  have cc:fO (fun k=>k=lb∨sv.ownBlock=some k) X3 w3 X6 w6:=((fO.tH fw _).trans (c5.mono fun k _ ai=>.inr ai)).trans (c6.mono fun k _ ai=>.inl ai)
  have ir:Ft w0 F w6 X6 (fun k=>F k∨(X6 k∧w0.heap.size≤k)):=(cP.ej (F':=F) cc (fun k ai=>by
   rcases ai with rfl|ai
   ·exact h3.hL _ h3.l.box.1
   ·exact h3.hL _ (MX _ ai)) fun k ai=>.inl ai).more fun k ai=>ai
  have Ao: ∀g,wT.ownBlock=some g→FL g∨(X6 g∧w0.heap.size≤g):=fun g hg=>by
   rcases acr with e|⟨g',e,eI⟩
   ·exact .inl (MX _ (e.symm.trans hg))
   ·rw [hg] at e
    have:g=g':=bK e
    subst this
    exact .inr ⟨c6.sub _ (rn.ba hg).1,by have:=fw.kp.size;omega⟩
  have acs:wT.ownBlock≠some lb:=rn.dS Q5 (by kernel_rfl)
  have Y5:bx≠lb:=dK.dS uT (by kernel_rfl)
  have Y6: ¬jw sv bx:=fun hq=>MW.dS dK (by kernel_rfl) hq
  have fresh: ∀{e:TypeId} {v:Value} {rows:List (List Value)},decide (e≠158)=true→decide (e≠164)=true→Own w3 (made qw w3) qw.heap.size e 1 v rows→Ow w6 (fun k=>FL k∨(X6 k∧w0.heap.size≤k)) e 1 v rows:=fun {e v rows} Nq Nr ho=>by
   have Hq:Ow w3 X3 e 1 v rows:=ho.ow.mono oG
   refine ho.ow.tight.mv fun k ai hl=>⟨.inr ⟨cc.sub k (Hq.ba ai).1,by have:=(ho.ow.ba ai).1.1;omega⟩,cc.block k (Hq.ba ai).1 fun hg=>?_⟩
   rcases hg with rfl|hg
   ·exact Hq.dS (h3.l.box.mv (Mv.sub Q4)) Nq ai
   ·obtain⟨c1,e1⟩:=Hq.tag ai
    obtain⟨c2,e2⟩:=Qh.tag hg
    rw [e1] at e2
    simp only [aC,Obj.cells.injEq] at e2
    exact of_decide_eq_true Nr e2.2.1
  have hL6:=h3.l.Qg (ye:=fun k=>FL k∨(X6 k∧w0.heap.size≤k)) (wT:=wT) (nQ:=bl++[⟨bx,n,.slice ab an ac,rs,sz⟩]) (cP.fx h3.hL) cc (fun k ai=>ai) (fun k ai=>.inl ai) ⟨.inl h3.l.box.1,E8.2⟩ ?_ ?_ ?_
  ·refine ir.fin fun wa aR=>⟨rfl,_,ir.gK aR fun _ h=>h,?_⟩
   have e:({ L with bR:=(bl++[(⟨bx,n,.slice ab an ac,rs,sz⟩:jP)]).map jP.er } :LM)= { L with bR:=L.bR++[⟨n,(jb (m.bytes nm)).1,sz⟩] } :=by
    rw [bq,←h3.l.bR,←hrs];rfl
   rw [if_neg iu,←e]
   refine Lg.mv ⟨_,FD,wT,_,?_,?_,?_,hL6,h3.d.mv (cc.fC fun k ai=>⟨cP.ba k (h3.hD k ai),fun hg=>?_⟩)⟩ (aR.fC ir.ba)
   ·intro k ha gC
    rcases ha with ha|ha
    ·exact h3.dj k ha gC
    ·have:=(jl k (h3.hD k gC)).2
     omega
   ·exact fun k ai=>ai.imp (h3.hL k) id
   ·exact fun k ai=>.inl (h3.hD k ai)
   ·rcases hg with rfl|hg
    ·exact h3.dj _ h3.l.box.1 ai
    ·exact h3.dj _ (MX _ hg) ai
  ·rw [bq]
   refine rn.tight.mv fun k ai hl=>⟨Ao k ai,c6.block k (rn.ba ai).1 fun e=>acs (by rw [←(show k=lb from e)];exact ai)⟩
  ·intro s qX
   rcases List.mem_append.1 qX with qX|qX
   ·exact .inl qX
   ·simp only [bo] at qX;subst qX
    have hb6:w6.heap[bx]? =w4.heap[bx]? :=by
     rw [c6.block bx (c5.sub _ dK.1) Y5,c5.block bx dK.1 Y6]
    exact .inr ⟨⟨.inr ⟨c6.sub _ (c5.sub _ dK.1),by show w0.heap.size≤bx;omega⟩,by rw [hb6];exact dK.2⟩,fresh (by kernel_rfl) (by kernel_rfl) OQ,fun r hr=>fresh (by kernel_rfl) (by kernel_rfl) (hor r hr)⟩
  ·refine List.pairwise_append.2 ⟨h3.l.ap,List.pairwise_singleton _ _,fun x hx y hy=>?_⟩
   simp only [bo] at hy;subst hy
   refine⟨fun e=>?_,fun g hg vt=>?_⟩
   ·have:=(cP.fx h3.hL _ (h3.l.row x hx).1).2
    have e':x.b=bx:=e
    omega
   ·have a1:=(jl g (h3.hL g ((h3.l.Ag x hx).ba hg).1)).2
    have a2:=(OQ.ow.ba (g:=g) vt).1.1
    omega
 ·by_cases dr:L.bR=[]
  ·have ajD:bl.length=0:=by rw [Ae,dr];rfl
   have hj:LD.Dn ⟨L,m⟩ n=false:=by simp [LD.Dn,dr]
   repeat' first|(with_reducible refine lN ?_ ?_);omega|with_reducible (first|apply ak|apply aK)|(with_reducible apply aM);exact qF;(· kernel_rfl);rfl;intro _ _ _|(with_reducible apply aZ);exact qF;exact qM;(· kernel_rfl);rfl|(with_reducible apply bS);exact qO;(· kernel_rfl)
   exact hK _ _ hj hs
  ·obtain⟨nQ,s,rfl,he,tq⟩:=h.l.last (mQ dr)
   have hL:=mQ dr
   have hlen:=vy.gW
   have LL:(nQ++[s]).length=nQ.length+1:=by simp
   have wu:(nQ++[s])[nQ.length]? =some s:=by simp
   have mT:s∈nQ++[s]:=by simp
   have pR:=(h.l.row s mT).mv (Mv.sub hX)
   have hrc:=(h.l.Ag s mT).sl.mono hX
   have Ci:s.first=L.last.first:=by rw [←he];rfl
   have eu:s.size=L.last.size:=by rw [←he];rfl
   have BJ:s.rs.length=L.last.bY.length:=by rw [←he];simp [jP.er]
   have hls:=hL.qx _ (LM.qm hL.ne)
   have pz:L.next=L.last.first+L.last.bY.length:=rfl
   repeat' first|(with_reducible refine BO ?_ ?_);omega|with_reducible (first|apply aD|apply aK)|(with_reducible apply aM);exact qF;(· kernel_rfl);rfl;intro _ _ _|(with_reducible apply aZ);exact qF;exact qM;(· kernel_rfl);rfl|(with_reducible apply bS);exact qO;(· kernel_rfl)|((with_reducible apply e7);exact qO;(try (case hz=>rfl));(case hr=>exact qR);(try (case hz=>omega));(case ht=>kernel_rfl);(case hs=>kernel_rfl);intro _ _ _)|(with_reducible apply kY);omega;omega
   rw [Ci]
   refine dk (sj (by omega) (by omega)) (by kernel_rfl) hs.has ?_
   rintro _ JI w1 X1 rfl u4 qj au
   have cO:=hT.since au
   have h1:=h.mv (au.fg hT.ba)
   refine dk (DU (n:=bG L.dir L.last.first) h1.d (cO.fx h1.hD)) (by kernel_rfl) cO.s.has ?_
   rintro _ wQ w2 X2 ⟨vb,rfl,E9⟩ u5 rj b6
   have aiF:=E9.sl.mono rj
   have aiG:=aiF.gW
   have mU:=au.trans b6
   have Y8:=pR.since mU
   have ajE:=hrc.mv mU.mv
   have eN:L.ep=bG L.dir L.last.first:=rfl
   have eE:LD.Dn ⟨L,m⟩ n=decide (L.bR≠[]∧((m.bytes (bG L.dir L.last.first)).length≠L.last.size∨n≠L.next)):=rfl
   rw [eE] at hK eJ
   have bM:=hT.since mU
   have h2:=h.mv (mU.fg hT.ba)
   clear hs pR hrc
   have hs:=aj.eP mU.has
   repeat' first|with_reducible (first|apply aD|apply ak|apply dG|apply fb|apply cD|apply iB|apply dW|apply bE|apply bt|apply aK)|(with_reducible apply kG<;>intro _)|(with_reducible apply aM);exact qF;(· kernel_rfl);rfl;intro _ _ _|(with_reducible apply aZ);exact qF;exact qM;(· kernel_rfl);rfl|(with_reducible apply bS);exact qO;(· kernel_rfl)|(with_reducible apply fp);rfl|(with_reducible apply cx);omega;omega
   ·rw [eJ,if_pos (by simp only [decide_eq_true_eq];exact⟨dr,.inl (by omega)⟩)]
    exact bM.fin fun wa aR=>⟨rfl,F,bM.gK aR fun _ h=>h,(h2.mv (aR.fC bM.ba)).lg⟩
   ·rw [eJ,if_pos (by simp only [decide_eq_true_eq];exact⟨dr,.inr (by omega)⟩)]
    exact bM.fin fun wa aR=>⟨rfl,F,bM.gK aR fun _ h=>h,(h2.mv (aR.fC bM.ba)).lg⟩
   ·exact hK _ _ (by simp only [decide_eq_false_iff_not];rintro⟨_,h|h⟩<;>omega) mU
theorem Zt {w:World} {X F:XS} {lb db:Nat} {L:LM} {m:DM} (h:Lg w F lb db L m) (hL:j9 L) (hF:FX F X w):
  Ct pg 84 #[ptr lb 0] w X F fun v wa w'=>v=I (LD.DV ⟨L,m⟩).2∧ ∃F',(∀k,F' k→F k∨made wa w' k)∧Lg w' F' lb db (LD.DV ⟨L,m⟩).1.L (LD.DV ⟨L,m⟩).1.m:=by
 intro w0 hk
 obtain⟨FL,FD,sv,bl,h⟩:=(h.mv (hF.mv hk)).lw
 have hT:=hF.ft hk
 have jl:FX F (aW w0) w0:=hF.kp hk
 obtain⟨nQ,s,rfl,he,tq⟩:=h.l.last hL
 have hX:=fun k ai=>(jl k (h.hL k ai)).1
 have mT:s∈nQ++[s]:=by simp
 have hb:=h.l.box.mv (Mv.sub hX)
 have pR:=(h.l.row s mT).mv (Mv.sub hX)
 have Ci:s.first=L.last.first:=by rw [←he];rfl
 have eu:s.size=L.last.size:=by rw [←he];rfl
 have hls:=hL.qx _ (LM.qm hL.ne)
 have pO:=hL.d2
 have eN:L.ep=bG L.dir L.last.first:=rfl
 have eM:LD.DV ⟨L,m⟩=if L.last.size<(m.bytes (bG L.dir L.last.first)).length then
   if(m.cut (bG L.dir L.last.first) L.last.size).2≠0 then(⟨L,(m.cut (bG L.dir L.last.first) L.last.size).1⟩,(m.cut (bG L.dir L.last.first) L.last.size).2)else LD.sync ⟨L,(m.cut (bG L.dir L.last.first) L.last.size).1⟩
  else LD.sync ⟨L,m⟩:=rfl
 apply N4;unfold CQ
 have hs:=aj.init w0
 refine dk (uH h.l fun k ai=>jl k (h.hL k ai)) (by kernel_rfl) hs.has ?_
 rintro _ JI w1 X1 rfl u4 qj au
 have mF:=hb.since au
 have UG:=pR.since au
 clear hs hb pR
 have hs:=aj.eP au.has
 repeat' first|with_reducible apply aK|(with_reducible apply aM);exact qF;(· kernel_rfl);rfl;intro _ _ _|(with_reducible apply aZ);exact qF;exact qM;(· kernel_rfl);rfl
 rw [Ci]
 refine dk (sj (by omega) (by omega)) (by kernel_rfl) au.has ?_
 rintro _ wQ w2 X2 rfl u5 rj b6
 have qt:=mF.since b6
 have Y8:=UG.since b6
 have mU:=au.trans b6
 have bM:=hT.since mU
 have h2:=h.mv (mU.fg hT.ba)
 clear hs mF UG
 refine fV (Q:=fun K=> ∀w1 X1 F1 m1,LD.DV ⟨L,m⟩=LD.sync ⟨L,m1⟩→Ft w0 F w1 X1 F1→Lg w1 F1 lb db L m1→K w1 X1) ?_ fun K hK=>?_
 ·intro w3 X3 F3 m3 e3 cP h3
  skip
  refine cP.call (Gx h3 hL (cP.fx fun _ h=>h)) (by kernel_rfl) (fun _ h=>h) fun v tY w4 X4 hq sY ml ed tW=>?_
  obtain⟨rfl,F4,JD,h4⟩:=hq
  rw [e3]
  have pI:=ed.less JD
  skip
  exact pI.fin fun wa aR=>⟨rfl,F4,pI.gK aR fun _ h=>h,h4.mv (aR.fC pI.ba)⟩
 ·have hs:=aj.eP bM.s.has
  repeat' first|with_reducible apply aK|(with_reducible apply aM);exact qF;(· kernel_rfl);rfl;intro _ _ _|(with_reducible apply aZ);exact qF;exact qM;(· kernel_rfl);rfl
  refine dk (DU (n:=bG L.dir L.last.first) h2.d (bM.fx h2.hD)) (by kernel_rfl) bM.s.has ?_
  rintro _ qw w3 X3 ⟨vb,rfl,E9⟩ rr oG cw
  have aiH:=E9.sl.mono oG
  have aiG:=aiH.gW
  have Ae:=DM.JU h.d (bG L.dir L.last.first)
  have cP:=bM.since cw
  have h3:=h2.mv (cw.fg bM.ba)
  have Ch:=qt.since cw
  have ajF:=Y8.since cw
  clear hs qt Y8
  have hs:=aj.eP cP.s.has
  repeat' first|with_reducible (first|apply aD|apply ak|apply aK)|(with_reducible apply kF<;>intro _)|(with_reducible apply aM);exact qF;(· kernel_rfl);rfl;intro _ _ _|(with_reducible apply aZ);exact qF;exact qM;(· kernel_rfl);rfl|(with_reducible apply bS);exact qO;(· kernel_rfl)|(with_reducible apply fp);rfl
  ·rw [if_pos (by omega)] at eM
   rw [eu]
   refine cP.call (Zp (k:=L.last.size) (n:=bG L.dir L.last.first) h3.d (cP.fx h3.hD) (by omega)) (by kernel_rfl) h3.hD fun v tY w4 X4 hq sY ml ed tW=>?_
   obtain⟨rfl,E7,Gy,hD⟩:=hq
   have h4:=h3.JG (cP.fx fun _ h=>h) sY tW Gy hD
   generalize hms:m.cut (bG L.dir L.last.first) L.last.size=ms at h4 eM⊢
   repeat' first|with_reducible (first|apply aD|apply ak)|(with_reducible apply kG<;>intro _)
   ·have hz:ms.2≠0:=by have: ¬(ms.2:Int)=0:=(by assumption);omega
    rw [if_pos hz] at eM
    rw [eM]
    exact ed.fin fun wa aR=>⟨rfl,_,ed.gK aR fun _ h=>h,(h4.mv (aR.fC ed.ba)).lg⟩
   ·have hz:ms.2=0:=by have:(ms.2:Int)=0:=(by assumption);omega
    rw [if_neg (by omega)] at eM
    exact hK _ _ _ ms.1 eM ed h4.lg
  ·rw [if_neg (by omega)] at eM
   exact hK _ _ F m eM cP h3.lg
structure Vw (L:LM):Prop where
 d1:1≤L.dir.size
 d2:L.dir.size≤11
 qx: ∀s∈L.bR,s.first+s.bY.length≤2^40∧s.size≤2^40
 room:L.room≤2^40
theorem Vw.L7 {L:LM} (h:Vw L) (dr:L.bR≠[]):j9 L:=⟨dr,h.d1,h.d2,h.qx,h.room⟩
theorem Vw.join {x:LD} {n:Nat} {nm:ByteArray} (h:Vw x.L) (hn:n≤100000000) (hb:(x.m.bytes nm).length≤4194304):Vw (x.join n nm).1.L∧(x.join n nm).1.m=x.m∧(x.join n nm).1.L.dir=x.L.dir∧(x.join n nm).1.L.bR.length≤x.L.bR.length+1:=by
 unfold LD.join
 split
 ·exact⟨h,rfl,rfl,by simp⟩
 ·refine⟨⟨h.d1,h.d2,fun s hs=>?_,h.room⟩,rfl,rfl,by simp⟩
  rcases List.mem_append.1 hs with hs|hs
  ·exact h.qx s hs
  ·simp only [bo] at hs
   subst hs
   have:=Rs _ (x.m.bytes nm) (bp _)
   show n+(jb (x.m.bytes nm)).1.length≤2^40∧(jb (x.m.bytes nm)).2≤2^40
   omega
theorem Zu {w:World} {X F:XS} {db sz:Nat} {dir:ByteArray} {m:DM} (h:Dk w F db m) (hF:FX F X w) (Dm: ∀x∈m.fs,x.1.size≤2^40) (iq:m.fs.length≤2^29) (G4: ∀n,∀b∈m.bytes n,b<256)
  (h1:1≤dir.size) (h2:dir.size≤11) (au:64≤sz) (b6:sz≤262144):
  Ct pg 41 #[ptr db 0,.string dir,I sz] w X F fun v wa w'=> ∃lb F',v= .tuple #[if(LD.wc dir sz m).2=0 then ptr lb 0 else .pointer none,I (LD.wc dir sz m).2]∧(∀k,F' k→F k∨made wa w' k)∧
   Dk w' F' db (LD.wc dir sz m).1.m∧((LD.wc dir sz m).2=0→Lg w' F' lb db (LD.wc dir sz m).1.L (LD.wc dir sz m).1.m):=by
 intro w0 hk
 replace h:=h.mv (hF.mv hk)
 have hT:=hF.ft hk
 have jl:FX F (aW w0) w0:=hF.kp hk
 have eO:LD.wc dir sz m=if m.dn then(⟨L0 dir sz,m⟩,12)else
   if(LD.oI ⟨L0 dir sz,m⟩ (gu (m.fs.map (·.1)))).2≠0 then LD.oI ⟨L0 dir sz,m⟩ (gu (m.fs.map (·.1)))else
    if(LD.oI ⟨L0 dir sz,m⟩ (gu (m.fs.map (·.1)))).1.L.bR=[] then(LD.oI ⟨L0 dir sz,m⟩ (gu (m.fs.map (·.1)))).1.gB 1 else(LD.oI ⟨L0 dir sz,m⟩ (gu (m.fs.map (·.1)))).1.DV:=rfl
 generalize hr:LD.wc dir sz m=r at eO⊢
 apply LG;unfold Dw
 refine dk (OK (n:=1) h1 h2 (by omega) (by omega)) (by kernel_rfl) hT.s.has ?_
 rintro _ JI w1 X1 rfl u4 qj wE
 replace hT:=hT.since wE
 replace h:=h.mv (wE.fg fun k ai=>(jl k ai).1)
 repeat' first|(with_reducible refine dm ?_ ?_);omega|(with_reducible refine fL ?_ ?_);omega|(with_reducible refine lN ?_ ?_);omega|with_reducible (first|apply ak|apply dG|apply cD|apply bt)|(with_reducible apply fp);rfl
 refine dt (LY h (hT.fx fun _ h=>h)) (by kernel_rfl) hT.s.has fun w2 X2 oC=>?_
 replace h:=h.mv (oC.fg hT.ba)
 replace hT:=hT.since oC
 cases iI:m.dn with
 |true=>
  rw [iI,if_pos rfl] at eO
  subst eO
  repeat' first|with_reducible apply aD
  exact hT.fin fun wa aR=>⟨0,F,rfl,hT.gK aR fun _ h=>h,h.mv (aR.fC hT.ba),fun e=>by cases e⟩
 |false=>
  rw [iI,if_neg iu] at eO
  repeat' first|with_reducible apply ak|(with_reducible apply gg);(· kernel_rfl)
  refine lQ hT.s.has fun lb w3 X3 BE cw dK=>?_
  have h3:=h.mv (cw.fg hT.ba)
  have cP:=hT.since cw
  have Rg: ∀k,F k→k<w2.heap.size:=fun k ai=>hT.s.has k (hT.ba k ai)
  have il:Ft w0 F w3 X3 (fun k=>F k∨k=lb):=cP.more fun k ai=>ai.imp id fun e=>by
   subst e
   have:=hT.s.kp.size
   exact⟨dK.1,by omega⟩
  have g3:Lg w3 (fun k=>F k∨k=lb) lb db (L0 dir sz) m:=
   ⟨(· =lb),F,.slice none 0 0,[],fun k a b=>by have:=Rg k b;omega,fun _ h=>.inr h,fun _ h=>.inl h,
    ⟨rfl,⟨rfl,dK.2⟩,⟨by simp,.inl ⟨rfl,rfl⟩⟩,by simp,by simp,by simp,List.Pairwise.nil⟩,h3⟩
  refine dk (DK h3 (cP.fx fun _ h=>h) Dm (by omega)) (by kernel_rfl) cP.s.has ?_
  rintro vl tY w4 X4 U3 sY ml fw
  have ed:=il.since fw
  have g4:=g3.mv (fw.fg il.ba)
  have aiI:=dK.lt
  have hGl: ∀k,(F k∨k=lb)→k<w3.heap.size:=fun k ai=>ai.elim (fun ai=>by have:=Rg k ai;have:=cw.kp.size;omega) fun e=>by subst e;exact aiI
  have L3:Sl w4 (fun k=>X4 k∧ ¬(F k∨k=lb)) 1 vl ((gu (m.fs.map (·.1))).map S1):=U3.sl.mono fun k ai=>⟨ml k ai,fun hf=>by have:=hGl k hf;have:=ai.1;omega⟩
  have hB:aj (fun k=>X4 k∧ ¬(F k∨k=lb)) w4 X4 w4:=⟨Kp.refl _ _,fun k h=>h.1,ed.s.has⟩
  have aiJ:=ed.s.has
  have agn: ∀n∈gu (m.fs.map (·.1)),n.size≤2^40:=fun n hn=>by
   have:=(nB (m.fs.map (·.1))).mem_iff.1 hn
   obtain⟨x,hx,rfl⟩:=List.mem_map.1 this
   exact Dm x hx
  have hnl:(gu (m.fs.map (·.1))).length=m.fs.length:=by rw [(nB _).length_eq,aS]
  generalize gu (m.fs.map (·.1))=ns at L3 eO agn hnl
  have ajG:=L3.gW
  obtain⟨nb,nn,nc,rfl⟩:=L3.form
  clear hT cP il g3 h3 h dK U3
  repeat' first|(with_reducible apply bS);exact qO;(· kernel_rfl)
  refine fK (fun n' a w X=> ∃(i:Nat) (F1:XS) (x:LD),a=I i∧n'=ns.length-i∧i≤ns.length∧LD.oI ⟨L0 dir sz,m⟩ ns=x.oI (ns.drop i)∧Vw x.L∧x.m=m∧x.L.dir=dir∧x.L.bR.length≤i∧Ft w0 F w X F1∧Lg w F1 lb db x.L x.m∧
   (∀k,F1 k→(F k∨k=lb)∨w4.heap.size≤k)∧aj (fun k=>X4 k∧ ¬(F k∨k=lb)) w4 X w) ns.length
   ⟨0,_,⟨L0 dir sz,m⟩,rfl,rfl,aV _,rfl,⟨h1,h2,by simp [L0],by show sz≤_;omega⟩,rfl,rfl,bp _,ed,g4,fun k ai=>.inl ai,hB⟩ ?_
  clear ed g4 hB
  rintro n' a w5 X5 ⟨i,F1,x,rfl,rfl,hi,Dp,H6,XB,hxd,Tn,gU,h5,ac4,hB⟩
  obtain⟨FL,FD,sv,bl,hW⟩:=h5.lw
  have Q5:=hW.l.box.mv (Mv.sub fun k ai=>gU.ba k (hW.hL k ai))
  have hsv:=hW.l.so.sl.mono fun k ai=>gU.ba k (hW.hL k ai)
  have Ae:bl.length=x.L.bR.length:=by rw [hW.l.bR,aS]
  have ajH:=L3.mv hB.mv
  rcases fh ns i with⟨dh,nm,kN,hd⟩|⟨eI,hd⟩
  ·have ajI:=agn nm (bg kN)
   rw [hd] at Dp
   have eJ:x.oI (nm::ns.drop (i+1))=if pf x.L.dir nm=0 then x.oI (ns.drop (i+1))else if(x.join (pf x.L.dir nm) nm).2≠0 then x.join (pf x.L.dir nm) nm else(x.join (pf x.L.dir nm) nm).1.oI (ns.drop (i+1)):=rfl
   rw [eJ,hxd] at Dp
   have hnN:=aeN dir nm
   repeat' first|(with_reducible refine dC ?_ ?_);omega|with_reducible apply aD
   refine fV (Q:=fun K=> ∀w X F1 x,LD.oI ⟨L0 dir sz,m⟩ ns=LD.oI x (ns.drop (i+1))→Vw x.L→x.m=m→x.L.dir=dir→x.L.bR.length≤i+1→Ft w0 F w X F1→Lg w F1 lb db x.L x.m→(∀k,F1 k→(F k∨k=lb)∨w4.heap.size≤k)→
    aj (fun k=>X4 k∧ ¬(F k∨k=lb)) w4 X w→K w X) ?_ fun K hK=>?_
   ·intro w X F1 x q1 q2 q3 q4 q5 q6 q7 q8 q9
    repeat' first|(with_reducible apply cx);omega;omega
    exact ga (ns.length-(i+1)) (by omega) ⟨i+1,F1,x,by simp,rfl,by omega,q1,q2,q3,q4,q5,q6,q7,q8,q9⟩
   ·repeat' first|(with_reducible apply aZ);exact qF;exact qM;(· kernel_rfl);rfl|((with_reducible apply e7);exact qO;(try (case hz=>rfl));(case hr=>exact qR);(try (case hz=>omega));(case ht=>kernel_rfl);(case hs=>kernel_rfl);intro _ _ _)
    refine dt (Vv (dir:=dir) (name:=nm) (by omega) (by omega)) (by kernel_rfl) gU.s.has fun w6 X6 tp=>?_
    have ir:=gU.since tp
    have h6:=h5.mv (tp.fg gU.ba)
    have hB6:=hB.trans tp
    repeat' first|with_reducible (first|apply aD|apply ak)|(with_reducible apply gF<;>intro _)
    ·rw [if_pos (by omega)] at Dp
     exact hK _ _ F1 x Dp H6 XB hxd (by omega) ir h6 ac4 hB6
    ·rw [if_neg (by omega)] at Dp
     have afS:=DM.JU hW.d nm
     obtain⟨j1,j2,j3,j4⟩:=H6.join (n:=pf dir nm) (nm:=nm) (by omega) afS
     refine ir.call (Zs (n:=pf dir nm) (nm:=nm) h6 (fun dr=>H6.L7 dr) H6.d2 (by omega) (by omega) (by rw [XB];exact G4 nm) (ir.fx fun _ h=>h)) (by kernel_rfl) (fun _ h=>h) fun v wa7 w7 X7 hq acI Qk jF hc7=>?_
     obtain⟨rfl,F7,hF7,h7⟩:=hq
     have ex:x.join (pf dir nm) nm=LD.join ⟨x.L,x.m⟩ (pf dir nm) nm:=rfl
     rw [ex] at Dp j1 j2 j3 j4
     generalize hq:LD.join ⟨x.L,x.m⟩ (pf dir nm) nm=q at Dp h7 j1 j2 j3 j4⊢
     have Zv:=jF.less hF7
     have Vx:aj (fun k=>X4 k∧ ¬(F k∨k=lb)) w4 X7 w7:=hB6.ej hc7 fun k ai hf=>by
      rcases ac4 k hf with hf|hf
      ·exact ai.2 hf
      ·have:=aiJ k ai.1;omega
     have aiK: ∀k,F7 k→(F k∨k=lb)∨w4.heap.size≤k:=fun k ai=>(hF7 k ai).elim (fun h=>ac4 k h) fun h=>.inr (by have:=h.1;have:=hB6.kp.size;omega)
     repeat' first|with_reducible (first|apply aD|apply ak)|(with_reducible apply kG<;>intro _)
     ·have hz:q.2≠0:=by have: ¬(q.2:Int)=0:=(by assumption);omega
      rw [if_pos hz] at Dp
      rw [Dp,if_pos hz] at eO
      subst eO
      obtain⟨FL7,FD7,sv7,bl7,hW7⟩:=h7.lw
      exact Zv.fin fun wa aR=>⟨lb,F7,by rw [if_neg hz],Zv.gK aR fun _ h=>h,(hW7.d.mono hW7.hD).mv (aR.fC Zv.ba),fun e=>absurd e hz⟩
     ·have hz:q.2=0:=by have:(q.2:Int)=0:=(by assumption);omega
      rw [if_neg (by omega)] at Dp
      refine hK _ _ F7 q.1 Dp j1 (by rw [j2];exact XB) (by rw [j3];exact hxd) (by omega) Zv h7 aiK Vx
  ·have mP:i=ns.length:=by omega
   subst mP
   rw [hd] at Dp
   have ejn:x.oI []=(x,0):=rfl
   rw [ejn] at Dp
   rw [Dp,if_neg (by simp)] at eO
   dsimp only at eO
   repeat' first|(with_reducible refine dm ?_ ?_);omega|with_reducible (first|apply aD|apply ak|apply aK)|(with_reducible apply gF<;>intro _)|(with_reducible apply aM);exact qF;(· kernel_rfl);rfl;intro _ _ _|(with_reducible apply aZ);exact qF;exact qM;(· kernel_rfl);rfl|(with_reducible apply bS);exact qO;(· kernel_rfl)
   ·have aca:x.L.bR=[]:=List.eq_nil_of_length_eq_zero (by omega)
    rw [if_pos aca] at eO
    refine gU.call (Gz (n:=1) h5 H6.d2 (by omega) (by omega) (gU.fx fun _ h=>h)) (by kernel_rfl) (fun _ h=>h) fun v JE w6 X6 JK Gw Ao ir Hr=>?_
    obtain⟨rfl,F6,ON,h6⟩:=JK
    have sw:Ft w0 F w6 X6 F6:=ir.less ON
    have ex:LD.gB ⟨x.L,x.m⟩ 1=r:=eO.symm
    rw [ex] at h6⊢
    obtain⟨FL6,FD6,sv6,bl6,O4⟩:=h6.lw
    repeat' first|with_reducible (first|apply aD|apply ak)|(with_reducible apply kG<;>intro _)
    ·have hz:r.2≠0:=by have: ¬(r.2:Int)=0:=(by assumption);omega
     exact sw.fin fun wa aR=>⟨lb,F6,by rw [if_neg hz],sw.gK aR fun _ h=>h,(O4.d.mono O4.hD).mv (aR.fC sw.ba),fun e=>absurd e hz⟩
    ·have hz:r.2=0:=by have:(r.2:Int)=0:=(by assumption);omega
     exact sw.fin fun wa aR=>⟨lb,F6,by rw [if_pos hz,hz];rfl,sw.gK aR fun _ h=>h,(O4.d.mono O4.hD).mv (aR.fC sw.ba),fun _=>h6.mv (aR.fC sw.ba)⟩
   ·have dr:x.L.bR≠[]:=fun e=>by
     have:x.L.bR.length=0:=by rw [e];rfl
     omega
    rw [if_neg dr] at eO
    refine gU.call (Zt h5 (H6.L7 dr) (gU.fx fun _ h=>h)) (by kernel_rfl) (fun _ h=>h) fun v JE w6 X6 JK Gw Ao ir Hr=>?_
    obtain⟨rfl,F6,ON,h6⟩:=JK
    have sw:Ft w0 F w6 X6 F6:=ir.less ON
    have ex:LD.DV ⟨x.L,x.m⟩=r:=eO.symm
    rw [ex] at h6⊢
    obtain⟨FL6,FD6,sv6,bl6,O4⟩:=h6.lw
    repeat' first|with_reducible (first|apply aD|apply ak)|(with_reducible apply kG<;>intro _)
    ·have hz:r.2≠0:=by have: ¬(r.2:Int)=0:=(by assumption);omega
     exact sw.fin fun wa aR=>⟨lb,F6,by rw [if_neg hz],sw.gK aR fun _ h=>h,(O4.d.mono O4.hD).mv (aR.fC sw.ba),fun e=>absurd e hz⟩
    ·have hz:r.2=0:=by have:(r.2:Int)=0:=(by assumption);omega
     exact sw.fin fun wa aR=>⟨lb,F6,by rw [if_pos hz,hz];rfl,sw.gK aR fun _ h=>h,(O4.d.mono O4.hD).mv (aR.fC sw.ba),fun _=>h6.mv (aR.fC sw.ba)⟩
def LM.has (L:LM) (n:Nat) (p:List Nat):Prop:= ∃(j:Nat) (s:cj),L.bR[j]? =some s∧s.first≤n∧(∀(i:Nat) (t:cj),j<i→L.bR[i]? =some t→n<t.first)∧s.bY[n-s.first]? =some p
theorem ac5 {w:World} {X F:XS} {lb db n:Nat} {sv:Value} {bl:List jP} {L:LM} {p:List Nat} (h:vT w F lb db sv bl L) (hL:j9 L) (hp:L.has n p) (Dh:p.length≤2^40) (hF:FX F X w):
  Ct pg 86 #[ptr lb 0,I n] w X nX fun v wa w'=>Own w' (made wa w') wa.heap.size 5 1 v (p.map U1):=by
 intro w0 hk
 replace h:=h.mv (hF.mv hk)
 have hX:=fun k ai=>(hF.kp hk k ai).1
 have hb:=h.box.mv (Mv.sub hX)
 have vy:=h.so.sl.mono hX
 have vV:=h.bR
 obtain⟨j,sm,hj,iq,hgt,ago⟩:=hp
 have ku:=hL.qx sm (bg hj)
 have BJ:=(List.getElem?_eq_some_iff.1 ago).1
 rw [vV,dQ] at hj
 obtain⟨s,hbj,rfl⟩: ∃s,bl[j]? =some s∧s.er=sm:=by
  cases hq:bl[j]? with
  |none=>rw [hq] at hj;cases hj
  |some s=>exact⟨s,rfl,by rw [hq] at hj;exact bK hj⟩
 have D8:=(List.getElem?_eq_some_iff.1 hbj).1
 have agp:s.first≤n:=iq
 have aiL:s.first+(s.rs.map (·.2)).length≤2^40:=ku.1
 have aiM:n-s.first<(s.rs.map (·.2)).length:=BJ
 rw [aS] at aiL aiM
 obtain⟨r,hr,hrp⟩: ∃r,s.rs[n-s.first]? =some r∧r.2=p:=by
  have h9:(s.rs.map (·.2))[n-s.first]? =some p:=ago
  rw [dQ] at h9
  cases hq:s.rs[n-s.first]? with
  |none=>rw [hq] at h9;cases h9
  |some r=>exact⟨r,rfl,by rw [hq] at h9;exact bK h9⟩
 have hlen:=vy.gW
 apply RN;unfold G8
 have hs:=aj.init w0
 repeat' first|with_reducible apply aK|(with_reducible apply aM);exact qF;(· kernel_rfl);rfl;intro _ _ _|(with_reducible apply aZ);exact qF;exact qM;(· kernel_rfl);rfl|(with_reducible apply bS);exact qO;(· kernel_rfl)|(with_reducible apply kY);omega;omega
 refine fK (fun m a w X=> ∃i:Nat,a=I i∧m=i-j∧j≤i∧i<bl.length∧aj (aW w0) w0 X w) (bl.length-1-j) ⟨bl.length-1,congrArg I (by omega),rfl,by omega,by omega,hs⟩ ?_
 clear hs
 rintro m a w1 X1 ⟨i,rfl,rfl,GV,mP,hs⟩
 obtain⟨t,SV⟩: ∃t,bl[i]? =some t:=⟨_,bL mP⟩
 have hbt:bJ w0 (aW w0) t.b [I t.first,t.rv,I t.size] 163:=(h.row t (bg SV)).mv (Mv.sub hX)
 by_cases hij:i=j
 ·subst hij
  rw [SV] at hbj
  obtain rfl:=bK hbj
  have hrc:=(h.Ag t (bg SV)).sl.mono hX
  have G4:=(h.A8 t (bg SV) r (bg hr)).sl.mono hX
  rw [hrp] at G4
  have Ot:=hs.kp.size
  repeat' first|(with_reducible refine lN ?_ ?_);omega|with_reducible (first|apply ak|apply aK)|(with_reducible apply aM);exact qF;(· kernel_rfl);rfl;intro _ _ _|(with_reducible apply aZ);exact qF;exact qM;(· kernel_rfl);rfl|((with_reducible apply e7);exact qO;(try (case hz=>rfl));(case hr=>exact qR);(try (case hz=>omega));(case ht=>kernel_rfl);(case hs=>kernel_rfl);intro _ _ _)|(with_reducible apply kY);omega;omega|(with_reducible apply CG);(case hX=>exact hs.has);(case hu=>kernel_rfl);(case hz=>kernel_rfl);intro acc w X au ho;replace hs:=hs.trans au
  refine zK (ho.low Ot) hs (fun _ h=>h) (by kernel_rfl) (G4.mv hs.mv) (by intro r hr u hu;obtain⟨x,_,rfl⟩:=List.mem_map.1 hr;simp only [U1,bo] at hu;subst hu;rfl) (by simp;omega) (by simp;omega) fun v8 w8 X8 qu yf Rq UJ=>?_
  exact aq qu fun wa aR=>(yf.kp aR).tight
 ·have ajJ:n<t.first:=hgt i t.er (by omega) (by rw [vV,dQ,SV];rfl)
  repeat' first|(with_reducible refine BO ?_ ?_);omega|with_reducible (first|apply aD|apply aK)|(with_reducible apply aM);exact qF;(· kernel_rfl);rfl;intro _ _ _|(with_reducible apply aZ);exact qF;exact qM;(· kernel_rfl);rfl|((with_reducible apply e7);exact qO;(try (case hz=>rfl));(case hr=>exact qR);(try (case hz=>omega));(case ht=>kernel_rfl);(case hs=>kernel_rfl);intro _ _ _)|(with_reducible apply kY);omega;omega
  exact ga (i-1-j) (by omega) ⟨i-1,congrArg I (by omega),rfl,by omega,by omega,hs⟩
theorem Zw {w:World} {X F:XS} {lb db n:Nat} {sv:Value} {bl:List jP} {L:LM} {p:List Nat} {s:cj} {r:List cj} (h:vT w F lb db sv bl L) (hL:j9 L) (hp:L.has n p) (Dh:p.length≤2^40) (hs:L.bR=s::r) (h1:s.first≤n) (h2:n<L.next) (hF:FX F X w):
  Ct pg 44 #[ptr lb 0,I n] w X nX fun v wa w'=> ∃vb,v= .tuple #[vb,I 0]∧Own w' (made wa w') wa.heap.size 5 1 vb (p.map U1):=by
 intro w0 hk
 replace h:=h.mv (hF.mv hk)
 have jl:FX F (aW w0) w0:=hF.kp hk
 have hT:Ft w0 nX w0 (aW w0) nX:=Ft.init fun _ h=>h.elim
 have hX:=fun k ai=>(jl k ai).1
 have fx: ∀{w X},aj (aW w0) w0 X w→FX F X w:=fun hs k ai=>⟨hs.sub k (hX k ai),hs.has k (hs.sub k (hX k ai))⟩
 apply NW;unfold CL
 have cg:=aj.init w0
 refine dt (vU h hs jl) (by kernel_rfl) cg.has fun w1 X1 au=>?_
 repeat' first|(with_reducible refine dm ?_ ?_);omega|with_reducible apply dG
 refine fV (Q:=fun K=> ∀w X,aj (aW w0) w0 X w→K (I L.next) w X) ?_ fun K hK=>?_
 ·intro w2 X2 b6
  repeat' first|(with_reducible refine Ei ?_ ?_);omega|with_reducible (first|apply ak|apply cD|apply bt)
  refine dk (ac5 (h.mv (b6.fg hX)) hL hp Dh (fx b6)) (by kernel_rfl) b6.has ?_
  rintro vb qw w3 X3 ho rr oG cw
  exact aq (b6.trans cw) fun wa aR=>⟨vb,rfl,((ho.up oG (by have:=b6.kp.size;omega)).kp aR).tight⟩
 ·repeat' first|with_reducible apply oz
  refine dt (yd (h.mv (au.fg hX)) hL (fx au)) (by kernel_rfl) au.has fun w2 X2 b6=>?_
  exact hK _ _ (au.trans b6)
def ior (a b:Int):Int:=IntKind.u64.wrap (BitVec.ofInt IntKind.u64.bits a|||BitVec.ofInt IntKind.u64.bits b).toNat
theorem ahq {P:Program} {X:XS} {w:World} {N:Value→Prop} {t:TypeId} {a b:Int} (h:N (.int .u64 (ior a b))):aa P X w (binOp .or t (.int .u64 a) (.int .u64 b)) N:=Jp h
theorem agq {P:Program} {X:XS} {w:World} {N:Value→Prop} {a:Int} (h:N (.int .u64 (Gd IntKind.u64.max a))):aa P X w (Op.unary .xor (.int .u64 a)) N:=
 b9 (fun wa=>by simp [Op.unary,Op.intBits,Gd,IntKind.signed]) h
def Qu (x:Nat):Int:=if land (canon x) 9223372036854775808≠0 then Gd IntKind.u64.max (canon x)else ior (canon x) 9223372036854775808
theorem Zx (x:Nat):Pure pg 305 #[.float .f64 x] (.int .u64 (Qu x)):=by
 intro w0
 apply Wo;unfold LC
 have hs:=aj.init w0
 repeat' first|with_reducible (first|apply aD|apply ak)|(with_reducible apply kG<;>intro _)|((with_reducible refine iO (x6 _) ?_ hs.has ?_);(· kernel_rfl);intro w X au;replace hs:=hs.trans au)|(with_reducible refine fI hs ?_);(simp_all [Qu])|with_reducible (first|apply aaA|apply ahq|apply agq)
def Zy (x y:Nat):Int:=if Qu x<Qu y then-1 else if Qu x>Qu y then 1 else 0
theorem Sm (x y:Nat):Pure pg 226 #[.float .f64 x,.float .f64 y] (I (Zy x y)):=by
 intro w0
 apply PR;unfold ED
 have hs:=aj.init w0
 repeat' first|with_reducible (first|apply aD|apply ak)|(with_reducible apply kE<;>intro _)|(with_reducible apply kF<;>intro _)|((with_reducible refine iO (Zx _) ?_ hs.has ?_);(· kernel_rfl);intro w X au;replace hs:=hs.trans au)|(with_reducible refine fI hs ?_);(simp_all [Zy]<;>omega)
def Zz (a b:fq):Int:=
 if !a.may||!b.may then 0 else if a.kind<b.kind then-1 else if a.kind>b.kind then 1 else if a.kind=1 then Zy a.num b.num else if kO a.text b.text then-1 else if a.text=b.text then 0 else 1
theorem O5 (a b:fq):Pure pg 159 #[a.v,b.v] (I (Zz a b)):=by
 intro w0
 apply MB;unfold B2
 have hs:=aj.init w0
 repeat' first|with_reducible (first|apply aD|apply ak|apply dG|apply fb|apply cD|apply dW|apply bE|apply bt|apply oz|apply pP|apply eY|apply gv)|(with_reducible apply kE<;>intro _)|(with_reducible apply gF<;>intro _)|(with_reducible apply kF<;>intro _)|(with_reducible apply ae3<;>intro _)|(with_reducible apply ae5<;>intros)|with_reducible apply dY|((with_reducible refine dU (mz _) ?_ hs.has ?_ ?_);(· kernel_rfl);all_goals (intro _ w X au;replace hs:=hs.trans au))|((with_reducible refine iO (Sm _ _) ?_ hs.has ?_);(· kernel_rfl);intro w X au;replace hs:=hs.trans au)|(with_reducible refine fI hs ?_);(simp_all [Zz]<;>omega)
def O6 (a b:fq):Bool:=a.may&&b.may&&decide (Zz a b=0)
theorem Vy (a b:fq):Pure pg 95 #[a.v,b.v] (B (O6 a b)):=by
 intro w0
 apply RO;unfold G9
 have hs:=aj.init w0
 repeat' first|with_reducible (first|apply dz|apply cL|apply cM|apply cu|apply bE|apply bt|apply pD|apply oA)|(with_reducible apply gF<;>intro _)|with_reducible apply dY|((with_reducible refine dU (mz _) ?_ hs.has ?_ ?_);(· kernel_rfl);all_goals (intro _ w X au;replace hs:=hs.trans au))|((with_reducible refine iO (O5 _ _) ?_ hs.has ?_);(· kernel_rfl);intro w X au;replace hs:=hs.trans au)|(with_reducible refine fI hs ?_);(simp_all [O6])
theorem ZA {a:fq} (h:a.may=true):O6 a a=true:=by
 have h1:kO a.text a.text=false:=by
  unfold kO
  generalize a.text.toList=l
  induction l with
  |nil=>rfl
  |cons x l ih=>simp [Op.bytesLess,ih,UInt8.lt_irrefl]
 simp [O6,Zz,Zy,h,h1]
def Cv (a b:KV):Bool:=decide (a.key=b.key)&&O6 a.val b.val
theorem Vz (a b:KV):Pure pg 94 #[.agg #[.string a.key,I a.val.kind,.float .f64 a.val.num,.string a.val.text],.agg #[.string b.key,I b.val.kind,.float .f64 b.val.num,.string b.val.text]] (B (Cv a b)):=by
 intro w0
 apply FM;unfold xI
 have hs:=aj.init w0
 repeat' first|with_reducible (first|apply dz|apply cL|apply bE|apply bt|apply pD|apply oA)|(with_reducible apply zJ<;>intro _)|with_reducible apply dY|((with_reducible refine dU (Vy _ _) ?_ hs.has ?_ ?_);(· kernel_rfl);all_goals (intro _ w X au;replace hs:=hs.trans au))|(with_reducible refine fI hs ?_);(simp_all [Cv])
def zA (xs ys:List KV):Bool:=decide (xs.length=ys.length)&&(xs.zip ys).all fun z=>Cv z.1 z.2
theorem ZC {l:List KV} (h: ∀x∈l,x.val.may=true):zA l l=true:=by
 unfold zA
 simp only [decide_true,ju,List.all_eq_true]
 intro z hz
 obtain⟨i,hi,e⟩:=List.mem_iff_getElem.1 hz
 rw [List.getElem_zip] at e
 subst e
 simp [Cv,ZA (h _ (List.getElem_mem _))]
theorem VA {w:World} {X:XS} {a b:Value} {xs ys:List KV} (ha:Sl w X 4 a (xs.map KV.l)) (hb:Sl w X 4 b (ys.map KV.l)):
  Ct pg 93 #[a,b,.func (.func 94) #[] #[]] w X nX fun v _ _=>v=B (zA xs ys):=by
 intro w0 hk
 replace ha:=ha.mv hk.dA
 replace hb:=hb.mv hk.dA
 have nw:=ha.gW
 have BE:=hb.gW
 apply mw;unfold iT
 have hs:=aj.init w0
 by_cases hlen:xs.length=ys.length
 ·have eS:zA xs ys=(xs.zip ys).all fun z=>Cv z.1 z.2:=by unfold zA;rw [decide_eq_true hlen,ju]
  rw [eS]
  repeat' first|(with_reducible refine fL ?_ ?_);omega|with_reducible apply ak|(with_reducible apply bS);exact qO;(· kernel_rfl)
  refine fK (fun n a w X=> ∃i:Nat,a=I i∧n=xs.length-i∧i≤xs.length∧aj (aW w0) w0 X w∧((xs.zip ys).all fun z=>Cv z.1 z.2)=((xs.drop i).zip (ys.drop i)).all fun z=>Cv z.1 z.2) xs.length ⟨0,rfl,rfl,aV _,hs,rfl⟩ ?_
  clear hs
  rintro n a w X ⟨i,rfl,rfl,hi,hs,hw⟩
  rcases fh xs i with⟨dh,x,hx,hd⟩|⟨eI,hd⟩
  ·obtain⟨y,hy,hdy⟩:=Pp (xs:=ys) (i:=i) (by omega)
   rw [hd,hdy,List.zip_cons_cons,List.all_cons] at hw
   repeat' first|(with_reducible refine dC ?_ ?_);omega|with_reducible apply aD|(with_reducible apply ji);exact qN|with_reducible apply ff|(with_reducible apply fP);exact qF;exact qM;(· kernel_rfl);rfl|((with_reducible apply e7);exact qO;(try (case hz=>rfl));(case hr=>exact qR);(try (case hz=>omega));(case ht=>kernel_rfl);(case hs=>kernel_rfl);intro _ _ _)|(with_reducible apply fj);(case h=>exact qE)|(with_reducible apply eh);exact qC|(with_reducible apply Kl);rfl
   refine dU (Vz x y) (by kernel_rfl) hs.has (fun hT w X au=>?_) fun hF w X au=>?_
   ·rw [hT,ju] at hw
    replace hs:=hs.trans au
    repeat' first|with_reducible (first|apply ak|apply eY)|(with_reducible apply cx);omega;omega
    exact ga (xs.length-(i+1)) (by omega) ⟨i+1,by simp,rfl,by omega,hs,hw⟩
   ·rw [hF,uj] at hw
    replace hs:=hs.trans au
    repeat' first|with_reducible (first|apply aD|apply gv)
    exact aq hs fun wa aR=>by rw [hw]
  ·have hdy:=hP (l:=ys) (i:=i) (by omega)
   rw [hd,hdy] at hw
   repeat' first|(with_reducible refine dm ?_ ?_);omega|with_reducible apply ak
   exact aq hs fun wa aR=>by rw [hw];rfl
 ·have eS:zA xs ys=false:=by unfold zA;rw [decide_eq_false hlen,uj]
  repeat' first|(with_reducible refine xv ?_ ?_);omega|with_reducible apply aD|(with_reducible apply bS);exact qO;(· kernel_rfl)
  exact aq hs fun wa aR=>by rw [eS]
def sC (p:List (ByteArray×fq)) (x:KV):List (ByteArray×fq):=fW x.key x.val p
def SM.base (s:SM) (st:bZ) (l:List KV):SM:= { s with high:=st,bH:=l.foldl sC s.bH }
theorem WW {w:World} {X F S:XS} {nb lb mb:Nat} {av:Value} {es:List (Value×u9)} {s:SM} {r:Rec} {vr vw vp vq vh vd:Value} {b:Bool} (h:na w F nb lb mb av es s) (hF:FX F X w) (hw:Sl w S 4 vq (r.bH.map KV.l)) (hS: ∀k,S k→X k∧ ¬F k):
  Ct pg 46 #[ptr nb 0,r.v vr vw vp vq vh vd,B b] w X F fun v wa w'=>v= .tuple #[]∧na w' F nb lb mb av es (if b then s.base r.br r.bH else s):=by
 intro w0 hk
 replace h:=h.mv (hF.mv hk)
 have hT:=hF.ft hk
 have jl:FX F (aW w0) w0:=hF.kp hk
 have vz:Sl w0 (out F w0) 4 vq (r.bH.map KV.l):=hw.mv fun k ai yy=>⟨⟨aU yy hk.size,(hS k ai).2⟩,hk.block k (hS k ai).1⟩
 have ov:=vz.one
 have hb:=h.box.mv (Mv.sub hT.ba)
 have hs:=aj.init w0
 apply KQ;unfold AF
 cases b with
 |false=>
  repeat' first|with_reducible (first|apply aD|apply gv)
  exact hT.fin fun wa aR=>⟨rfl,h.mv (aR.fC hT.ba)⟩
 |true=>
  repeat' first|with_reducible (first|apply ak|apply eY|apply aK)|(with_reducible apply gx);exact qF;(· kernel_rfl);rfl;exact qN;intro _ _ _
  refine Be (o:=5) hb (by omega) (by kernel_rfl) (by simp) rfl rfl hT.s.has fun w1 X1 c1 vC=>?_
  have cO:Ft w0 F w1 X1 F:=hT.ej c1 (fun k ai=>by subst ai;exact h.box.1) fun k ai=>.inl ai
  have h1:=h.Jy hT.ba c1 { s with high:=r.br } rfl rfl vC
  have OO:Sl w1 X1 4 vq (r.bH.map KV.l):=vz.mv cO.s.mv
  clear hs hb
  have hs:=aj.eP cO.s.has
  have hql:=OO.gW
  repeat' first|(with_reducible apply bS);exact qO;(· kernel_rfl)
  refine fK (fun n a w X=> ∃i:Nat,a=I (i:Nat)∧n=r.bH.length-i∧i≤r.bH.length∧Ft w0 F w X F∧na w F nb lb mb av es { s with high:=r.br,bH:=(r.bH.take i).foldl sC s.bH }) r.bH.length ⟨0,rfl,rfl,aV _,cO,h1⟩ ?_
  clear hT h cO h1 hs
  rintro n a w X ⟨i,rfl,rfl,hi,hT,h⟩
  have hb:=h.box.mv (Mv.sub hT.ba)
  have hm:=h.map.mv np (Mv.sub hT.ba) (A':=nX) fun _ h=>h.elim
  have hwc:Sl w X 4 vq (r.bH.map KV.l):=vz.mv hT.s.mv
  rcases fh r.bH i with⟨dh,x,hx,Ij⟩|⟨eI,Ij⟩
  ·have Sv:(r.bH.take (i+1)).foldl sC s.bH=sC ((r.bH.take i).foldl sC s.bH) x:=by rw [dI,hx];simp
   repeat' first|(with_reducible refine dC ?_ ?_);omega|with_reducible apply aD|(with_reducible apply gP);rfl|(with_reducible apply ji);exact qN|with_reducible (first|apply ff|apply aK)|(with_reducible apply aM);exact qF;(· kernel_rfl);rfl;intro _ _ _|(with_reducible apply aZ);exact qF;exact qM;(· kernel_rfl);rfl|(with_reducible apply fP);exact qF;exact qM;(· kernel_rfl);rfl|((with_reducible apply e7);exact qO;(try (case hz=>rfl));(case hr=>exact qR);(try (case hz=>omega));(case ht=>kernel_rfl);(case hs=>kernel_rfl);intro _ _ _)|(with_reducible apply fj);(case h=>exact qE)|(with_reducible apply eh);exact qC
   refine Rc hm (x:=x.val) rfl hT.s.has fun w1 X1 c uP=>?_
   have h1:=h.UN hT.ba c uP
   have cO:Ft w0 F w1 X1 F:=hT.ej c (fun k ai=>by subst ai;exact h.map.x.1) fun k ai=>.inl ai
   have zG:na w1 F nb lb mb av es { s with high:=r.br,bH:=sC ((r.bH.take i).foldl sC s.bH) x } :=h1
   rw [←Sv] at zG
   repeat' first|(with_reducible apply cx);omega;omega
   exact ga (r.bH.length-(i+1)) (by omega) ⟨i+1,by simp,rfl,by omega,cO,zG⟩
  ·have mP:i=r.bH.length:=by omega
   subst mP
   rw [dV] at h
   repeat' first|(with_reducible refine dm ?_ ?_);omega|with_reducible apply ak
   exact hT.fin fun wa aR=>⟨rfl,h.mv (aR.fC hT.ba)⟩
def SM.wH (s:SM) (r:Rec):SM×Bool:=
 if r.kind=11 then(if r.prev=s.high then(s.apply r.dH r.br r.writes,true)else(s,false))else(s,decide (r.br=s.high)&&zA r.bH s.list)
theorem WX {w:World} {X F S:XS} {nb lb mb:Nat} {av:Value} {es:List (Value×u9)} {s:SM} {r:Rec} {vr vw vp vq vh vd:Value} (h:na w F nb lb mb av es s) (hF:FX F X w) (hw:Sl w S 4 vw (r.writes.map KV.l)) (hq:Sl w S 4 vq (r.bH.map KV.l)) (hS: ∀k,S k→X k∧ ¬F k)
  (hl:r.writes.length≤2^30) (hd:s.done.length≤2^30) (eu: ∀x∈s.bH,x.1.size≤2^40) (hlen:s.bH.length≤2^30):
  Ct pg 47 #[ptr nb 0,r.v vr vw vp vq vh vd] w X F fun v wa w'=>v=B (s.wH r).2∧ ∃F' yh Ay,(∀k,F' k→F k∨made wa w' k)∧na w' F' nb lb mb yh Ay (s.wH r).1:=by
 intro w0 hk
 replace h:=h.mv (hF.mv hk)
 have hT:=hF.ft hk
 have jl:FX F (aW w0) w0:=hF.kp hk
 have hSm:Mv S w (out F w0) w0:=fun k ai yy=>⟨⟨aU yy hk.size,(hS k ai).2⟩,hk.block k (hS k ai).1⟩
 have vz:Sl w0 (out F w0) 4 vw (r.writes.map KV.l):=hw.mv hSm
 have O3:Sl w0 (out F w0) 4 vq (r.bH.map KV.l):=hq.mv hSm
 have ow:=vz.one
 have oq:=O3.one
 have hb:=h.box.mv (Mv.sub hT.ba)
 have hs:=aj.init w0
 generalize hr:s.wH r=q
 unfold SM.wH at hr
 apply KR;unfold AG
 by_cases h11:r.kind=11
 ·rw [if_pos h11] at hr
  repeat' first|(with_reducible refine m7 ?_ ?_);omega|with_reducible (first|apply aD|apply ak|apply aK)|(with_reducible apply gx);exact qF;(· kernel_rfl);rfl;exact qN;intro _ _ _|(with_reducible apply fP);exact qF;exact qM;(· kernel_rfl);rfl|(with_reducible refine YC _ _ ?_ ?_ ?_);(· kernel_rfl);all_goals intros
  ·rw [if_neg (by assumption)] at hr
   subst hr
   exact hT.fin fun wa aR=>⟨rfl,F,av,es,hT.gK aR fun _ h=>h,h.mv (aR.fC hT.ba)⟩
  ·rw [if_pos (by assumption)] at hr
   subst hr
   refine hT.call (JH h (hT.fx fun _ h=>h) (S:=out F w0) vz (fun k ai=>⟨hT.s.sub k ai,fun hf=>hT.no hf ai⟩) hl hd) (by kernel_rfl) (fun _ h=>h) fun v tY w4 X4 UO sY ml ed tW=>?_
   obtain⟨rfl,F',yh,Ay,pB,h4⟩:=UO
   have pI:=ed.less pB
   skip
   exact pI.fin fun wa aR=>⟨rfl,F',yh,Ay,pI.gK aR fun _ h=>h,h4.mv (aR.fC pI.ba)⟩
 ·rw [if_neg h11] at hr
  repeat' first|(with_reducible refine qU ?_ ?_);omega|with_reducible (first|apply ak|apply dz|apply cL|apply bt|apply pD|apply oA|apply aK)|(with_reducible apply gx);exact qF;(· kernel_rfl);rfl;exact qN;intro _ _ _|(with_reducible apply fP);exact qF;exact qM;(· kernel_rfl);rfl|(with_reducible refine Oe _ _ ?_ ?_ ?_);(· kernel_rfl);all_goals intros|with_reducible apply dY
  ·rename_i ix
   rw [decide_eq_true ix,ju] at hr
   refine dk (uf h (hT.fx fun _ h=>h) eu hlen) (by kernel_rfl) hT.s.has ?_
   rintro vp JI w1 X1 tj u4 qj au
   have cO:=hT.since au
   have op:=tj.sl.one
   repeat' first|with_reducible (first|apply pD|apply dY)
   refine dt (VA (O3.mv cO.s.mv) (tj.sl.mono qj)) (by kernel_rfl) cO.s.has fun w2 X2 b6=>?_
   have bM:=cO.since b6
   repeat' first|with_reducible apply bE
   subst hr
   exact bM.fin fun wa aR=>⟨rfl,F,av,es,bM.gK aR fun _ h=>h,((h.mv (au.fg hT.ba)).mv (b6.fg cO.ba)).mv (aR.fC bM.ba)⟩
  ·rename_i ix
   rw [decide_eq_false ix,uj] at hr
   subst hr
   skip
   exact hT.fin fun wa aR=>⟨rfl,F,av,es,hT.gK aR fun _ h=>h,h.mv (aR.fC hT.ba)⟩
inductive fJ where
 |A (prev st:bZ) (t:gM) (l:List KV)
 |B (st:bZ) (l:List KV)
def fJ.kV:fJ→Rec
 | .A p s t l=>eH p s t l
 | .B s l=>fB s l
def fJ.enc:fJ→List Nat
 | .A p s t l=>iv (eH p s t l)
 | .B s l=>gG (fB s l)
def fJ.lW:fJ→Bool
 | .A .. =>false
 | .B .. =>true
def fJ.kvs:fJ→List KV
 | .A _ _ _ l=>l
 | .B _ l=>l
structure fJ.ok (r:fJ):Prop where
 may:match r with
  | .A p s t l=>iJ p s t l=true∧An p∧An s∧Gq t
  | .B s l=>s.may=true∧sQ l=true∧An s
 kv: ∀x∈r.kvs,Gr x
 len:r.kvs.length≤2^16
 key: ∀x∈r.kvs,x.key.size≤2^16
 M8:r.enc.length≤262144
 A8: ∀b∈r.enc,b<256
theorem Qv {w:World} {X:XS} {v0:Value} {r:fJ} (h:Sl w X 1 v0 (r.enc.map U1)) (ok:r.ok):
  Ct pg 45 #[v0] w X nX fun v wa w'=> ∃vw vq,v= .tuple #[r.kV.v gd vw gd vq gd gd,I 0]∧Sl w' (made wa w') 4 vw (r.kV.writes.map KV.l)∧Sl w' (made wa w') 4 vq (r.kV.bH.map KV.l):=by
 obtain⟨hm,h1,h2,h3,h4,h5⟩:=ok
 cases r with
 |A p s t l=>
  obtain⟨a1,a2,a3,a4⟩:=hm
  refine(Qj h a1 a2 a3 a4 h1 h2 h3 h4 h5).mono fun v wa w' _ ⟨va,hv,ho⟩=>⟨va,gd,hv,ho.sl,Sl.nil _ _ _⟩
 |B s l=>
  obtain⟨a1,a2,a3⟩:=hm
  refine(Ql h a1 a2 a3 h1 h2 h3 h4 h5).mono fun v wa w' _ ⟨va,hv,ho⟩=>⟨gd,va,hv,Sl.nil _ _ _,ho.sl⟩
def yn (x:Bool×SM) (r:fJ):Option (Bool×SM):=
 if x.1 then(if(x.2.wH r.kV).2 then some (true,(x.2.wH r.kV).1)else none)else some (r.lW,if r.lW then x.2.base r.kV.br r.kV.bH else x.2)
def Cw:Bool×SM→List fJ→Option (Bool×SM)
 |x,[]=>some x
 |x,r::l=>(yn x r).bind fun y=>Cw y l
structure O7 (k:Nat) (s:SM):Prop where
 key: ∀x∈s.bH,x.1.size≤2^16
 len:s.bH.length≤k*2^16
 done:s.done.length≤k
theorem O7.up {k:Nat} {s:SM} (h:O7 k s):O7 (k+1) s:=⟨h.key,ah h.len (Nat.mul_le_mul_right _ (Nat.le_succ k)),Nat.le_succ_of_le h.done⟩
theorem M9 {p:List (ByteArray×fq)} {k:ByteArray} {v:fq} :(fW k v p).length≤p.length+1∧ ∀x∈fW k v p,x∈p∨x=(k,v):=by
 induction p with
 |nil=>simp [fW]
 |cons y p ih=>
  simp only [fW]
  split
  ·refine⟨by simp,fun x hx=>?_⟩
   rcases List.mem_cons.1 hx with rfl|hx
   ·exact .inr rfl
   ·exact .inl (bm _ hx)
  ·refine⟨by simp only [bC];omega,fun x hx=>?_⟩
   rcases List.mem_cons.1 hx with rfl|hx
   ·exact .inl (by simp)
   ·exact(ih.2 x hx).imp (bm _) id
theorem Rt: ∀(l:List KV) (p:List (ByteArray×fq)),(∀x∈p,x.1.size≤2^16)→(∀x∈l,x.key.size≤2^16)→(l.foldl sC p).length≤p.length+l.length∧ ∀x∈l.foldl sC p,x.1.size≤2^16
 |[],p,h,_=>⟨by simp,h⟩
 |y::l,p,h,hl=>by
  obtain⟨a,b⟩:=M9 (p:=p) (k:=y.key) (v:=y.val)
  obtain⟨c,d⟩:=Rt l (sC p y) (fun x hx=>(b x hx).elim (h x) fun e=>by rw [e];exact hl y (by simp)) fun x hx=>hl x (bm _ hx)
  refine⟨?_,d⟩
  have:(sC p y).length≤p.length+1:=a
  rw [g9,bC]
  omega
theorem O8: ∀(l:List KV) (p:List (ByteArray×fq)),(∀x∈p,x.1.size≤2^16)→(∀x∈l,x.key.size≤2^16)→(l.foldl fM p).length≤p.length+l.length∧ ∀x∈l.foldl fM p,x.1.size≤2^16
 |[],p,h,_=>⟨by simp,h⟩
 |y::l,p,h,hl=>by
  have key:(fM p y).length≤p.length+1∧ ∀x∈fM p y,x.1.size≤2^16:=by
   unfold fM
   split
   ·have hs:(ni y.key p).Sublist p:=kP
    exact⟨by have:=hs.length_le;omega,fun x hx=>h x (hs.subset hx)⟩
   ·obtain⟨a,b⟩:=M9 (p:=p) (k:=y.key) (v:=y.val)
    exact⟨a,fun x hx=>(b x hx).elim (h x) fun e=>by rw [e];exact hl y (by simp)⟩
  obtain⟨c,d⟩:=O8 l (fM p y) key.2 fun x hx=>hl x (bm _ hx)
  refine⟨?_,d⟩
  have:=key.1
  rw [g9,bC]
  omega
theorem O7.rep {k:Nat} {x y:Bool×SM} {r:fJ} (h:O7 k x.2) (ok:r.ok) (hr:yn x r=some y):O7 (k+1) y.2:=by
 have hl:=ok.len
 unfold yn at hr
 split at hr
 ·split at hr
  ·obtain rfl:=bK hr
   unfold SM.wH
   split
   ·split
    ·cases r with
     |A p s t l=>
      obtain⟨a,b⟩:=O8 l x.2.bH h.key ok.key
      refine⟨b,?_,?_⟩
      ·show(l.foldl fM x.2.bH).length≤_
       have:=h.len
       have:l.length≤2^16:=hl
       omega
      ·show(x.2.done++[_]).length≤_
       have:=h.done
       simp;omega
     |B s l=>rename_i h1 _;simp [fJ.kV,fB] at h1
    ·exact h.up
   ·exact h.up
  ·cases hr
 ·obtain rfl:=bK hr
  dsimp only
  split
  ·cases r with
   |A p s t l=>rename_i h1;cases h1
   |B s l=>
    obtain⟨a,b⟩:=Rt l x.2.bH h.key ok.key
    refine⟨b,?_,?_⟩
    ·show(l.foldl sC x.2.bH).length≤_
     have:=h.len
     have:l.length≤2^16:=hl
     omega
    ·have:=h.done
     show x.2.done.length≤_
     omega
  ·exact h.up
structure Holds (L:LM) (f:Nat) (rs:List fJ):Prop where
 ok:j9 L
 fst: ∃s r,L.bR=s::r∧s.first=f
 zH:L.next=f+rs.length
 kV: ∀k r,rs[k]? =some r→L.has (f+k) r.enc
theorem JV {w:World} {X F S:XS} {nb lb db:Nat} {s:SM} {L:LM} {m:DM} {r:Rec} {vr vw vp vq vh vd:Value} {b:Bool} (h:jo w F nb lb db s L m) (hF:FX F X w) (hw:Sl w S 4 vq (r.bH.map KV.l)) (hS: ∀k,S k→X k∧ ¬F k):
  Ct pg 46 #[ptr nb 0,r.v vr vw vp vq vh vd,B b] w X F fun v wa w'=>v= .tuple #[]∧jo w' F nb lb db (if b then s.base r.br r.bH else s) L m:=by
 obtain⟨FN,FG,mb,av,es,qy,hN,hG,cg,hg⟩:=h
 intro wa hk
 refine((WW cg (fun k ai=>hF k (hN k ai)) hw (fun k ai=>⟨(hS k ai).1,fun h=>(hS k ai).2 (hN k h)⟩)) wa hk).mono ?_
 rintro e w' ⟨v,he,Ej,hv,qX⟩
 refine⟨v,he,Ej.mono hN,hv,FN,FG,mb,av,es,qy,hN,hG,qX,hg.mv fun k ai _=>⟨ai,?_⟩⟩
 have Rf:=hF k (hG k ai)
 exact(Ej.block k (aU Rf.2 hk.size) fun h=>qy k h ai).trans (hk.block k Rf.1)
theorem JW {w:World} {X F S:XS} {nb lb db:Nat} {s:SM} {L:LM} {m:DM} {r:Rec} {vr vw vp vq vh vd:Value} (h:jo w F nb lb db s L m) (hF:FX F X w) (hw:Sl w S 4 vw (r.writes.map KV.l)) (hq:Sl w S 4 vq (r.bH.map KV.l)) (hS: ∀k,S k→X k∧ ¬F k)
  (hl:r.writes.length≤2^30) (hd:s.done.length≤2^30) (eu: ∀x∈s.bH,x.1.size≤2^40) (hlen:s.bH.length≤2^30):
  Ct pg 47 #[ptr nb 0,r.v vr vw vp vq vh vd] w X F fun v wa w'=>v=B (s.wH r).2∧ ∃F',(∀k,F' k→F k∨made wa w' k)∧jo w' F' nb lb db (s.wH r).1 L m:=by
 obtain⟨FN,FG,mb,av,es,qy,hN,hG,cg,hg⟩:=h
 intro wa hk
 refine((WX cg (fun k ai=>hF k (hN k ai)) hw hq (fun k ai=>⟨(hS k ai).1,fun h=>(hS k ai).2 (hN k h)⟩) hl hd eu hlen) wa hk).mono ?_
 rintro e w' ⟨v,he,Ej,hv,F',yh,Ay,pB,qX⟩
 refine⟨v,he,Ej.mono hN,hv,fun k=>F' k∨FG k,fun k ai=>ai.elim (fun h=>(pB k h).imp (hN k) id) fun h=>.inl (hG k h),F',FG,mb,yh,Ay,fun k a b=>(pB k a).elim (fun h=>qy k h b) fun hm=>?_,fun _ h=>.inl h,fun _ h=>.inr h,qX,hg.mv fun k ai _=>⟨ai,?_⟩⟩
 ·have:=(hF k (hG k b)).2;have:=hk.size;have:=hm.1;omega
 ·have Rf:=hF k (hG k ai)
  exact(Ej.block k (aU Rf.2 hk.size) fun h=>qy k h ai).trans (hk.block k Rf.1)
abbrev mV:ByteArray:=⟨#[115,105,110,107]⟩
theorem fJ.aa7 {r:fJ} (h:r.lW=false):r.kV.kind=11:=by cases r with|A=>rfl|B=>cases h
theorem fJ.aa8 {r:fJ} (h:r.lW=true):r.kV.kind=12:=by cases r with|A=>cases h|B=>rfl
theorem fJ.aiN {r:fJ} (h:r.ok):r.kV.writes.length≤2^16:=by
 have:=h.len
 cases r with
 |A=>exact this
 |B=>simp [fJ.kV,fB]
theorem WY {w:World} {X F:XS} {db sz f:Nat} {every:Int} {m:DM} {rs:List fJ} {s':SM} (h:Dk w F db m) (hF:FX F X w) (Dm: ∀x∈m.fs,x.1.size≤2^40) (iq:m.fs.length≤2^29) (G4: ∀n,∀b∈m.bytes n,b<256)
  (au:64≤sz) (b6:sz≤262144) (Nq:0≤every) (Nr:every≤1000)
  (hO:(LD.wc mV sz m).2=0→Holds (LD.wc mV sz m).1.L f rs∧(∀r∈rs,r.ok)∧rs.length≤2^12∧Cw (decide ((f:Int)=1),iA every) rs=some (true,s')):
  Ct pg 12 #[ptr db 0,I sz,I every] w X F fun v wa w'=> ∃nb lb F',v= .tuple #[if(LD.wc mV sz m).2=0 then ptr nb 0 else .pointer none,I (LD.wc mV sz m).2]∧(∀k,F' k→F k∨made wa w' k)∧
   Dk w' F' db (LD.wc mV sz m).1.m∧((LD.wc mV sz m).2=0→jo w' F' nb lb db s' (LD.wc mV sz m).1.L (LD.wc mV sz m).1.m):=by
 intro w0 hk
 replace h:=h.mv (hF.mv hk)
 have hT:=hF.ft hk
 have jl:FX F (aW w0) w0:=hF.kp hk
 apply I6;unfold BT
 repeat' first|(with_reducible refine dm ?_ ?_);omega|(with_reducible refine lN ?_ ?_);omega|with_reducible (first|apply ak|apply dG|apply cD|apply bt)
 refine hT.call (Zu (dir:=mV) h (hT.fx fun _ h=>h) Dm iq G4 (by decide) (by decide) au b6) (by kernel_rfl) (fun _ h=>h) fun v JI w1 X1 OO u4 qj cO Es=>?_
 generalize hro:LD.wc mV sz m=ro at hO OO⊢
 obtain⟨lb,F1,rfl,U5,hD1,IE⟩:=OO
 replace cO:Ft w0 F w1 X1 F1:=cO.less U5
 by_cases hz:ro.2=0
 ·obtain⟨VB,mQ,BJ,JX⟩:=hO hz
  have g1:=IE hz
  rw [if_pos hz,hz]
  have U6:=VB.ok
  obtain⟨s0,sr,vV,hsf⟩:=VB.fst
  have pz:=VB.zH
  have ajK:=U6.next
  repeat' first|(with_reducible refine fL ?_ ?_);omega|with_reducible apply ak|(with_reducible apply fp);rfl
  refine zL (kv:=Value.string) yg nX cO.s.has fun mb w2 X2 hmb oC sJ=>?_
  have bM:=cO.since oC
  have g2:=g1.mv (oC.fg cO.ba)
  repeat' first|(with_reducible apply gg);(· kernel_rfl)
  refine lQ bM.s.has fun nb w3 X3 qp cw dK=>?_
  have cP:=bM.since cw
  have g3:=g2.mv (cw.fg bM.ba)
  have Rg: ∀k,F1 k→k<w1.heap.size:=fun k ai=>cO.s.has k (cO.ba k ai)
  have C6:=sJ.mv np cw.mv (fun _ h=>h.elim) (A':=nX)
  have Ot:=cO.s.kp.size
  have ND:=oC.kp.size
  have hz3:=cw.kp.size
  have hmX:X3 mb∧mb<w2.heap.size:=⟨cw.sub mb sJ.x.1,sJ.x.2⟩
  have il:Ft w0 F w3 X3 (fun k=>F1 k∨k=nb∨k=mb):=cP.more fun k ai=>ai.imp id fun e=>by
   rcases e with e|e<;>subst e
   ·exact⟨dK.1,by omega⟩
   ·exact⟨hmX.1,by omega⟩
  have h3:jo w3 (fun k=>F1 k∨k=nb∨k=mb) nb lb db (iA every) ro.1.L ro.1.m:=by
   refine⟨fun k=>k=nb∨k=mb,F1,mb,.slice none 0 0,[],fun k a b=>?_,fun _ h=>.inr h,fun _ h=>.inl h,⟨rfl,⟨.inl rfl,dK.2⟩,?_,⟨by simp,.inl ⟨rfl,rfl⟩⟩,by simp⟩,g3⟩
   ·have:=Rg k b
    rcases a with a|a<;>omega
   ·obtain⟨e,c',q1,q2⟩:=C6
    exact⟨e,c',⟨.inr rfl,q1.2⟩,q2⟩
  clear C6 sJ dK g3 g2 g1 cP bM cO hT h hD1 IE Es hO
  obtain⟨FL,FD,sv,bl,hW⟩:=(show Lg w3 (fun k=>F1 k∨k=nb∨k=mb) lb db _ _ from let⟨_,_,_,_,_,_,_,hG,_,g⟩:=h3;g.mono hG).lw
  refine dt (vU hW.l vV (il.fx hW.hL)) (by kernel_rfl) il.s.has fun w4 X4 fw=>?_
  have ed:=il.since fw
  have h4:=h3.mv (fw.fg il.ba)
  replace hW:=hW.mv (fw.fg il.ba)
  rw [hsf]
  refine Xc ?_
  refine dt (vU hW.l vV (ed.fx hW.hL)) (by kernel_rfl) ed.s.has fun w5 X5 o9=>?_
  have gU:=ed.since o9
  have h5:=h4.mv (o9.fg ed.ba)
  rw [hsf]
  refine iN (fun n a b w X=> ∃(k:Nat) (bs:Bool) (s:SM) (F2:XS),a=I ((f+k:Nat):Int)∧b=B bs∧n=rs.length-k∧k≤rs.length∧Cw (bs,s) (rs.drop k)=some (true,s')∧O7 k s∧Ft w0 F w X F2∧jo w F2 nb lb db s ro.1.L ro.1.m) rs.length
   ⟨0,_,iA every,_,rfl,rfl,rfl,aV _,JX,⟨by simp [iA],by simp [iA],by simp [iA]⟩,gU,h5⟩ ?_
  clear gU h5 hW ed h4 il h3 JX
  rintro n a b w6 X6 ⟨k,bs,s,F6,rfl,rfl,rfl,tG,JX,ku,ir,h6⟩
  obtain⟨FL,FD,sv,bl,hW⟩:=(show Lg w6 F6 lb db _ _ from let⟨_,_,_,_,_,_,_,hG,_,g⟩:=h6;g.mono hG).lw
  refine dt (yd hW.l U6 (ir.fx hW.hL)) (by kernel_rfl) ir.s.has fun w7 X7 m9=>?_
  have jF:=ir.since m9
  have h7:=h6.mv (m9.fg ir.ba)
  replace hW:=hW.mv (m9.fg ir.ba)
  rw [pz]
  rcases fh rs k with⟨dh,r,hr,hd⟩|⟨eI,hd⟩
  ·have Q7:=bg hr
   have ZD:=mQ r Q7
   rw [hd] at JX
   have eR:Cw (bs,s) (r::rs.drop (k+1))=(yn (bs,s) r).bind fun y=>Cw y (rs.drop (k+1)):=rfl
   rw [eR] at JX
   obtain⟨y,hy,ahr⟩:=Option.bind_eq_some_iff.1 JX
   have aiO:=ku.rep ZD hy
   have hHk:=VB.kV k r hr
   have hlm:=ku.len
   have hdm:=ku.done
   repeat' first|(with_reducible refine dC ?_ ?_);omega|with_reducible apply aD
   refine fV (Q:=fun K=> ∀w X F2,Ft w0 F w X F2→jo w F2 nb lb db y.2 ro.1.L ro.1.m→K (B y.1) w X) ?_ fun K hK=>?_
   ·intro w8 X8 F8 ka h8
    repeat' first|(with_reducible apply cx);omega;omega
    exact iC (rs.length-(k+1)) (by omega) ⟨k+1,y.1,y.2,F8,congrArg I (by omega),rfl,rfl,by omega,ahr,aiO,ka,h8⟩
   ·refine dk (Zw hW.l U6 hHk (by have:=ZD.M8;omega) vV (by omega) (by rw [pz];omega) (jF.fx hW.hL)) (by kernel_rfl) jF.s.has ?_
    rintro _ wa8 w8 X8 ⟨vb,rfl,E9⟩ VC VD qu
    have ka:=jF.since qu
    have h8:=h7.mv (qu.fg jF.ba)
    repeat' first|(with_reducible apply fp);rfl
    refine dk (Qv (E9.sl.mono VD) ZD) (by kernel_rfl) ka.s.has ?_
    rintro _ E6 w9 X9 ⟨vw,vq,rfl,hvw,hvq⟩ VE VF yX
    have mu:=ka.since yX
    have h9:=h8.mv (yX.fg ka.ba)
    have ow:=hvw.one
    have oq:=hvq.one
    have hmS: ∀k,made E6 w9 k→X9 k∧ ¬F6 k:=fun q hq=>⟨VF q hq,fun hf=>by have:=(ka.s.has q (ka.ba q hf));have:=hq.1;omega⟩
    unfold yn at hy
    cases bs with
    |false=>
     rw [if_neg (by simp)] at hy
     have hy:=bK hy
     cases hB:r.lW with
     |false=>
      have Dg:=fJ.aa7 hB
      rw [hB] at hy
      repeat' first|(with_reducible refine qU ?_ ?_);omega|(with_reducible refine fL ?_ ?_);omega|with_reducible (first|apply aD|apply ak)|(with_reducible apply gP);rfl|(with_reducible apply ji);exact qN|with_reducible (first|apply ff|apply dG|apply cL|apply cD|apply iB|apply cu|apply bt|apply gv)|(with_reducible apply fp);rfl|(with_reducible apply fj);(case h=>exact qE)|(with_reducible apply eh);exact qC
      refine mu.call (JV (b:=false) (r:=r.kV) h9 (mu.fx fun _ h=>h) hvq hmS) (by kernel_rfl) (fun _ h=>h) fun v ZE vW vX GO O9 Kx ik VG=>?_
      obtain⟨rfl,Hx⟩:=GO
      replace ik:Ft w0 F vW vX F6:=ik.less fun k hk=>.inl hk
      skip
      subst hy
      exact hK _ _ F6 ik Hx
     |true=>
      have Dg:=fJ.aa8 hB
      rw [hB] at hy
      repeat' first|(with_reducible refine m7 ?_ ?_);omega|(with_reducible refine xv ?_ ?_);omega|(with_reducible refine fL ?_ ?_);omega|with_reducible (first|apply aD|apply ak)|(with_reducible apply gP);rfl|(with_reducible apply ji);exact qN|with_reducible (first|apply ff|apply dz|apply dG|apply cM|apply cD|apply iB|apply bE|apply bt|apply gv)|(with_reducible apply fp);rfl|(with_reducible apply fj);(case h=>exact qE)|(with_reducible apply eh);exact qC
      refine mu.call (JV (b:=true) (r:=r.kV) h9 (mu.fx fun _ h=>h) hvq hmS) (by kernel_rfl) (fun _ h=>h) fun v ZE vW vX GO O9 Kx ik VG=>?_
      obtain⟨rfl,Hx⟩:=GO
      replace ik:Ft w0 F vW vX F6:=ik.less fun k hk=>.inl hk
      skip
      subst hy
      exact hK _ _ F6 ik Hx
    |true=>
     rw [if_pos rfl] at hy
     have ac6:(s.wH r.kV).2=true:=by
      cases hq:(s.wH r.kV).2 with
      |true=>rfl
      |false=>rw [hq] at hy;cases hy
     rw [if_pos ac6] at hy
     have hy:=bK hy
     have hwl:=fJ.aiN ZD
     cases hB:r.lW with
     |false=>
      have Dg:=fJ.aa7 hB
      repeat' first|(with_reducible refine fL ?_ ?_);omega|with_reducible apply ak|(with_reducible apply gP);rfl|(with_reducible apply ji);exact qN|with_reducible (first|apply ff|apply dG|apply cL|apply cD|apply iB|apply cu|apply bt|apply eY)|(with_reducible apply fp);rfl|(with_reducible apply fj);(case h=>exact qE)|(with_reducible apply eh);exact qC
      refine mu.call (JW (r:=r.kV) h9 (mu.fx fun _ h=>h) hvw hvq hmS (by omega) (by omega) (fun x hx=>by have:=ku.key x hx;omega) (by omega)) (by kernel_rfl) (fun _ h=>h) fun v ZE vW vX GO O9 Kx ik VG=>?_
      obtain⟨rfl,F10,ac7,Hx⟩:=GO
      replace ik:Ft w0 F vW vX F10:=ik.less ac7
      rw [ac6]
      repeat' first|with_reducible (first|apply ak|apply eY)
      subst hy
      exact hK _ _ F10 ik Hx
     |true=>
      have Dg:=fJ.aa8 hB
      repeat' first|(with_reducible refine xv ?_ ?_);omega|(with_reducible refine fL ?_ ?_);omega|with_reducible apply ak|(with_reducible apply gP);rfl|(with_reducible apply ji);exact qN|with_reducible (first|apply ff|apply dz|apply dG|apply cM|apply cD|apply iB|apply bE|apply bt|apply eY)|(with_reducible apply fp);rfl|(with_reducible apply fj);(case h=>exact qE)|(with_reducible apply eh);exact qC
      refine mu.call (JW (r:=r.kV) h9 (mu.fx fun _ h=>h) hvw hvq hmS (by omega) (by omega) (fun x hx=>by have:=ku.key x hx;omega) (by omega)) (by kernel_rfl) (fun _ h=>h) fun v ZE vW vX GO O9 Kx ik VG=>?_
      obtain⟨rfl,F10,ac7,Hx⟩:=GO
      replace ik:Ft w0 F vW vX F10:=ik.less ac7
      rw [ac6]
      repeat' first|with_reducible (first|apply ak|apply eY)
      subst hy
      exact hK _ _ F10 ik Hx
  ·have mP:k=rs.length:=by omega
   subst mP
   rw [hd] at JX
   obtain⟨rfl,rfl⟩:=Prod.mk.inj (bK JX)
   repeat' first|(with_reducible refine dm ?_ ?_);omega|with_reducible (first|apply ak|apply eY)
   refine jF.fin fun wa aR=>⟨nb,lb,F6,by rw [if_pos rfl];rfl,jF.gK aR fun _ h=>h,?_,fun _=>h7.mv (aR.fC jF.ba)⟩
   exact(hW.d.mono hW.hD).mv (aR.fC jF.ba)
 ·rw [if_neg hz]
  repeat' first|(with_reducible refine xv ?_ ?_);omega|with_reducible apply aD|(with_reducible apply fp);rfl
  exact cO.fin fun wa aR=>⟨0,0,F1,by rw [if_neg hz],cO.gK aR fun _ h=>h,hD1.mv (aR.fC cO.ba),fun e=>absurd e hz⟩
end Go.Proofs.YtpdkoaklobnegaaGreat
namespace Go.Proofs.YtpdkoaklobnegaaGreat
open Go.Proofs.Tryz renaming prog → pg
open Go.fR
theorem XW {α:Type} [LT α] [DecidableEq α]: ∀{a b:List α} {u v:List α},a<b→a.length=b.length→a++u<b++v
 |[],[],_,_,h,_=>absurd h (List.not_lt_nil _)
 |[],_::_,_,_,_,hl=>by simp at hl
 |_::_,[],_,_,_,hl=>by simp at hl
 |x::a,y::b,u,v,h,hl=>by
  rw [ef,ef,tv]
  rcases List.cons_lt_cons_iff.1 h with h1|⟨h1,h2⟩
  ·exact .inl h1
  ·exact .inr ⟨h1,XW h2 (by simpa using hl)⟩
theorem aa9: ∀{k a b:Nat},a<b→b<10^k→(nW k a).map lh<(nW k b).map lh
 |0,a,b,h,hb=>by omega
 |k+1,a,b,h,hb=>by
  unfold nW
  rw [bq,bq]
  have qt:b/10<10^k:=by rw [jg] at hb;omega
  by_cases hq:a/10=b/10
  ·rw [hq]
   refine uU ?_
   rw [bh,bh,tv]
   refine .inl ?_
   rw [UInt8.lt_iff_toNat_lt,pK,pK]
   omega
  ·exact XW (aa9 (by omega) qt) (by rw [aS,aS,se,se])
theorem Na (dir:ByteArray) (n:Nat):bl (bG dir n)=(dir.data.toList++[46])++(nW 8 n).map lh:=by
 unfold bl bG uW
 rw [tw,tw,jH,jH]
theorem WZ {dir:ByteArray} {a b:Nat} (h:a<b) (hb:b<100000000):bl (bG dir a)<bl (bG dir b):=by
 rw [Na,Na]
 exact uU (aa9 h hb)
theorem agr (x:ByteArray):(⟨(bl x).toArray⟩:ByteArray)=x:=adH x
theorem W0 {dir:ByteArray} {ns:List Nat} {ks:List ByteArray} (hp:ks.Perm (ns.map (bG dir))) (hs:ns.Pairwise (· < ·)) (hb: ∀n∈ns,n<100000000):gu ks=ns.map (bG dir):=by
 rw [acz hp]
 unfold gu
 rw [List.mergeSort_of_pairwise]
 ·rw [en]
  refine(fG fun x _=>?_).trans (List.map_id _)
  exact agr x
 ·rw [iK,iK]
  refine hs.imp_of_mem fun {a b} _ hbm rL=>?_
  unfold leB
  exact decide_eq_true (List.le_of_lt (WZ rL (hb b hbm)))
theorem aba {l:List Nat} (h: ∀x∈l,x<256):rY (uW l)=l:=by
 unfold rY uW
 rw [List.toList_toArray,en]
 refine(fG fun x hx=>?_).trans (List.map_id l)
 have:=h x hx
 simp [pK];omega
theorem VH: ∀(k n:Nat) (l:List Nat) (a:Nat),As (nW k n++l) a=As l (a*10^k+n % 10^k)
 |0,n,l,a=>by simp [nW,Nat.mod_one]
 |k+1,n,l,a=>by
  unfold nW
  rw [ax,VH k (n/10)]
  rw [ef,cV,Rr,if_neg (by omega)]
  congr 1
  have h1:n % 10^(k+1)=n/10 % 10^k*10+n % 10:=by
   rw [jg,Nat.mul_comm (10^k) 10,Nat.mod_mul]
   omega
  rw [h1,jg,Nat.add_mul,Nat.mul_assoc]
  omega
theorem ZF {dir:ByteArray} {n:Nat} (hn:n<100000000):pf dir (bG dir n)=n:=by
 have eu:=sh dir n
 have hd:dir.data.toList.length=dir.size:=by rw [Array.length_toList];rfl
 have e:(bG dir n).data.toList=(dir.data.toList++[46])++(nW 8 n).map lh:=Na dir n
 have h1:(bG dir n).extract 0 dir.size=dir:=by
  apply mM
  apply Array.toList_inj.1
  rw [sN,uk,e,ax]
  rw [qz]
  simp only [List.drop_zero,Nat.sub_zero]
  exact List.take_left' hd
 have h2:(bG dir n).data.toList[dir.size]? =some 46:=by
  rw [e,ax,qa (by omega),hd,Nat.sub_self]
  rfl
 have h3:(bG dir n).extract (dir.size+1) (bG dir n).size=uW (nW 8 n):=by
  apply mM
  apply Array.toList_inj.1
  rw [sN,uk,e,qz,eu]
  rw [List.drop_left' (by rw [ae,hd];rfl)]
  rw [cl (by rw [aS,se];omega)]
  rfl
 unfold pf
 rw [if_pos ⟨eu,h1,h2⟩,h3,aba (Kz 8 n)]
 have h4:=VH 8 n [] 0
 rw [cp] at h4
 rw [h4]
 show 0*10^8+n % 10^8=n
 rw [Nat.zero_mul,Nat.zero_add]
 exact Nat.mod_eq_of_lt hn
theorem JY {m:DM} {n:ByteArray} {b:List Nat} {s:Nat} (h:(m.get n).isSome=true):(m.put n b s).ks=m.ks:=by
 show(fW n (b,s) m.fs).map (·.1)=_
 rw [uc,if_pos (show(getM n m.fs).isSome=true from h)];rfl
theorem nI {m:DM} {n:ByteArray} {b:List Nat} {s:Nat} :(m.put n b s).get n=some (b,s):=zn
theorem JZ {m:DM} {n k:ByteArray} {b:List Nat} {s:Nat} (h:k≠n):(m.put n b s).get k=m.get k:=Cf h
theorem aeO {dD:List Int} {x:DM×Nat} {n:ByteArray} :(DM.rD dD x n).1.ks=x.1.ks:=by
 unfold DM.rD
 split
 ·rfl
 ·rename_i b s hg
  split
  ·rfl
  ·exact JY (by rw [hg];rfl)
theorem Pa {dD:List Int} {x:DM×Nat} {n k:ByteArray} (h:k≠n):(DM.rD dD x n).1.get k=x.1.get k:=by
 unfold DM.rD
 split
 ·rfl
 ·split
  ·rfl
  ·exact JZ h
theorem abb {dD:List Int} {x:DM×Nat} {n:ByteArray} {b:List Nat} {s:Nat} (h:x.1.get n=some (b,s)) (hs:s≤b.length):
  ∃k,k≤b.length-s∧(DM.rD dD x n).1.get n=some (b.take (s+k),s+k)∧(dD=[]→k=0):=by
 unfold DM.rD
 rw [h]
 dsimp only
 split
 ·rename_i he
  refine⟨0,aV _,?_,fun _=>rfl⟩
  rw [h,sB,cl (by omega)]
 ·rename_i he
  refine⟨_,?_,nI,?_⟩
  ·split
   ·split
    ·rename_i p _ _
     have:=Nat.mod_lt p.toNat (show 0<b.length-s+1 by omega)
     generalize p.toNat % (b.length-s+1)=u at this
     omega
    ·omega
   ·omega
  ·rintro rfl
   simp
theorem ZG {dD:List Int} {n:ByteArray} : ∀(ns:List ByteArray) (x:DM×Nat),(ns.foldl (DM.rD dD) x).1.ks=x.1.ks∧(n ∉ ns→(ns.foldl (DM.rD dD) x).1.get n=x.1.get n)∧
  (ns.Nodup→n∈ns→ ∀b s,x.1.get n=some (b,s)→s≤b.length→ ∃k,k≤b.length-s∧(ns.foldl (DM.rD dD) x).1.get n=some (b.take (s+k),s+k)∧(dD=[]→k=0))
 |[],x=>⟨rfl,fun _=>rfl,fun _ h=>absurd h (by simp)⟩
 |a::ns,x=>by
  obtain⟨h1,h2,h3⟩:=ZG (dD:=dD) (n:=n) ns (DM.rD dD x a)
  rw [g9]
  refine⟨h1.trans aeO,fun hn=>?_,fun hd hn b s hg hs=>?_⟩
  ·simp only [List.mem_cons,not_or] at hn
   rw [h2 hn.2,Pa hn.1]
  ·have Lm:=List.nodup_cons.1 hd
   by_cases e:n=a
   ·subst e
    obtain⟨k,hk,xF,hz⟩:=abb (dD:=dD) hg hs
    exact⟨k,hk,by rw [h2 Lm.1];exact xF,hz⟩
   ·refine h3 Lm.2 ((List.mem_cons.1 hn).resolve_left e) b s ?_ hs
    rw [Pa e];exact hg
theorem ac8 (m:DM) (dD:List Int):(m.mL dD).ks=m.ks:=(ZG (dD:=dD) (n:=⟨#[]⟩) (gu m.ks) (m,0)).1
theorem Ru {m:DM} {dD:List Int} {n:ByteArray} {b:List Nat} {s:Nat} (hd:m.ks.Nodup) (h:m.get n=some (b,s)) (hs:s≤b.length): ∃k,k≤b.length-s∧(m.mL dD).get n=some (b.take (s+k),s+k)∧(dD=[]→k=0):=by
 have hn:n∈m.ks:=DM.get_some.1 (by rw [h];rfl)
 have hp:=nB m.ks
 obtain⟨_,_,h3⟩:=ZG (dD:=dD) (n:=n) (gu m.ks) (m,0)
 exact h3 (hp.nodup_iff.2 hd) (hp.mem_iff.2 hn) b s h hs
theorem ZH {m:DM} {dD:List Int} {n:ByteArray} {b:List Nat} (hd:m.ks.Nodup) (h:m.get n=some (b,b.length)):(m.mL dD).get n=some (b,b.length):=by
 obtain⟨k,hk,hg,_⟩:=Ru (dD:=dD) hd h (bp _)
 have:k=0:=by omega
 subst this
 rw [hg,sB,dV]
def flat (l:List (List Nat)):List Nat:=(l.map du).flatten
theorem zB (a b:List (List Nat)):flat (a++b)=flat a++flat b:=by simp [flat]
theorem GP (p:List Nat):flat [p]=du p:=by simp [flat]
def fN:List cj→Prop
 |s::t::r=>t.first=s.first+s.bY.length∧s.bY≠[]∧fN (t::r)
 |_=>True
theorem fN.tail {s:cj} {r:List cj} (h:fN (s::r)):fN r:=by
 cases r with
 |nil=>trivial
 |cons t r=>exact h.2.2
theorem fN.lt: ∀{r:List cj} {s:cj},fN (s::r)→ ∀t∈r,s.first<t.first
 |[],_,_,_,h=>absurd h (by simp)
 |u::r,s,h,t,ht=>by
  have h1:=List.length_pos_iff.2 h.2.1
  have h2:=h.1
  rcases List.mem_cons.1 ht with rfl|ht
  ·omega
  ·have:=fN.lt h.2.2 t ht
   omega
theorem fN.ZI: ∀{l:List cj},fN l→(l.map (·.first)).Pairwise (· < ·)
 |[],_=>by simp
 |s::r,h=>by
  rw [bh,List.pairwise_cons]
  refine⟨fun n hn=>?_,fN.ZI h.tail⟩
  obtain⟨t,ht,rfl⟩:=List.mem_map.1 hn
  exact h.lt t ht
theorem fN.suffix: ∀{a b:List cj},fN (a++b)→fN b
 |[],_,h=>h
 |_::a,_,h=>fN.suffix (a:=a) h.tail
theorem fN.snoc {s:cj} {n:cj} : ∀{a:List cj},fN (a++[s])→n.first=s.first+s.bY.length→s.bY≠[]→fN (a++[s]++[n])
 |[],_,h1,h2=>⟨h1,h2,trivial⟩
 |[t],h,h1,h2=>⟨h.1,h.2.1,h1,h2,trivial⟩
 |t::u::a,h,h1,h2=>⟨h.1,h.2.1,fN.snoc (a:=u::a) h.2.2 h1 h2⟩
theorem fN.last {s s':cj} (hf:s'.first=s.first): ∀{a:List cj},fN (a++[s])→fN (a++[s'])
 |[],_=>trivial
 |[t],h=>⟨hf.trans h.1,h.2.1,trivial⟩
 |t::u::a,h=>⟨h.1,h.2.1,fN.last hf (a:=u::a) h.2.2⟩
structure Sx (s:cj):Prop where
 one:1≤s.first
 top:s.first≤99999999∧s.first+s.bY.length≤100000000
 sz:s.size=(flat s.bY).length
 pl: ∀p∈s.bY,p.length≤262144∧lW p
structure Good (l:List cj):Prop where
 lk:fN l
 ok: ∀s∈l,Sx s
theorem Good.suffix {a b:List cj} (h:Good (a++b)):Good b:=⟨h.lk.suffix,fun s hs=>h.ok s (dX _ hs)⟩
structure nG (dir:ByteArray) (pre:List cj) (s:cj) (kB:List Nat) (sf:Nat) (m:DM):Prop where
 nd:m.ks.Nodup
 ks:m.ks.Perm ((pre++[s]).map fun s=>bG dir s.first)
 body: ∀t∈pre,m.get (bG dir t.first)=some (flat t.bY,(flat t.bY).length)
 last:m.get (bG dir s.first)=some (flat s.bY++kB,sf)
 sf:sf≤(flat s.bY++kB).length
theorem nG.ne {dir:ByteArray} {pre:List cj} {s:cj} (hg:Good (pre++[s])) {t:cj} (ht:t∈pre):bG dir t.first≠bG dir s.first:=fun e=>by
 have h1:=hg.lk.ZI
 rw [bq] at h1
 have h2:=(List.pairwise_append.1 h1).2.2 t.first (List.mem_map.2 ⟨t,ht,rfl⟩) s.first (by simp)
 have h3:=(hg.ok t (by simp [ht])).top
 have h4:=(hg.ok s (by simp)).top
 have:=Ah (by omega) (by omega) e
 omega
theorem nG.mL {dir:ByteArray} {pre:List cj} {s:cj} {kB:List Nat} {sf:Nat} {m:DM} {dD:List Int} (h:nG dir pre s kB sf m) (hg:Good (pre++[s])):
  ∃k,k≤(flat s.bY++kB).length-sf∧(dD=[]→k=0)∧(m.mL dD).ks=m.ks∧(∀t∈pre,(m.mL dD).get (bG dir t.first)=some (flat t.bY,(flat t.bY).length))∧
   (m.mL dD).get (bG dir s.first)=some ((flat s.bY++kB).take (sf+k),sf+k):=by
 obtain⟨k,hk,wu,hz⟩:=Ru (dD:=dD) h.nd h.last h.sf
 exact⟨k,hk,hz,ac8 m dD,fun t ht=>ZH h.nd (h.body t ht),wu⟩
theorem Rv {l:List (List Nat)} {kB:List Nat} (hl: ∀p∈l,p.length≤262144) (ht:kQ kB=none):jb (flat l++kB)=(l,(flat l).length):=by
 unfold flat
 rw [JO l kB hl,Bm ht]
 simp
theorem Bo:kQ []=none:=uh (.inl (by simp))
theorem sD {m:DM} {n:ByteArray} {b:List Nat} {s:Nat} (h:m.get n=some (b,s)):m.bytes n=b:=by unfold DM.bytes;rw [h];rfl
theorem zt {d:ByteArray} {r:Nat} {z:Int} {pre:List cj} {s:cj} :(⟨d,r,pre++[s],z⟩:LM).last=s:=by simp [LM.last]
theorem VI {dir:ByteArray} {room:Nat} {m:DM} : ∀(Rw pre:List cj),fN (pre++Rw)→(∀t∈Rw,1≤t.first∧t.first<100000000∧jb (m.bytes (bG dir t.first))=(t.bY,t.size))→
  (∀t∈(pre++Rw).dropLast,(m.bytes (bG dir t.first)).length=t.size)→LD.oI ⟨⟨dir,room,pre,0⟩,m⟩ (Rw.map fun s=>bG dir s.first)=(⟨⟨dir,room,pre++Rw,0⟩,m⟩,0)
 |[],pre,_,_,_=>by simp [LD.oI]
 |t::Rw,pre,hk,hs,hb=>by
  obtain⟨h1,h2,h3⟩:=hs t (by simp)
  have hn:pf dir (bG dir t.first)=t.first:=ZF h2
  have hj:LD.Dn ⟨⟨dir,room,pre,0⟩,m⟩ t.first=false:=by
   unfold LD.Dn
   simp only [decide_eq_false_iff_not]
   rintro⟨dr,hor⟩
   obtain⟨p,u,rfl⟩: ∃p u,pre=p++[u]:=⟨_,_,(List.dropLast_concat_getLast dr).symm⟩
   have ahs:fN (u::t::Rw):=fN.suffix (a:=p) (by simpa using hk)
   have hu:(m.bytes (bG dir u.first)).length=u.size:=hb u (by
    rw [List.dropLast_append_of_ne_nil (by simp)]
    exact bU _ (by simp))
   rw [zt] at hor
   have e1:(⟨dir,room,p++[u],0⟩:LM).ep=bG dir u.first:=by unfold LM.ep;rw [zt]
   have e2:(⟨dir,room,p++[u],0⟩:LM).next=u.first+u.bY.length:=by unfold LM.next;rw [zt]
   rw [e1,e2] at hor
   rcases hor with h|h
   ·exact h hu
   ·exact h ahs.1
  have eJ:LD.join ⟨⟨dir,room,pre,0⟩,m⟩ t.first (bG dir t.first)=(⟨⟨dir,room,pre++[t],0⟩,m⟩,0):=by
   unfold LD.join
   rw [hj,if_neg iu]
   dsimp only
   rw [h3]
  rw [bh]
  unfold LD.oI
  dsimp only
  rw [hn,if_neg (by omega),eJ,if_neg (by simp)]
  have:=VI (dir:=dir) (room:=room) (m:=m) Rw (pre++[t]) (by simpa using hk) (fun x hx=>hs x (bm _ hx)) (by simpa using hb)
  rw [this]
  simp
theorem GQ {m:DM} (h0:m.ar=0) (hd:m.dn=false):m.tick.ar=0∧m.tick.dn=false:=by
 unfold DM.tick
 rw [if_neg (by rw [h0];decide)]
 exact⟨by simp [h0],hd⟩
theorem VJ {m:DM} (h0:m.ar=0) (hd:m.dn=false) (f:DM→DM):m.write 0 f=(f m.tick,0):=by
 unfold DM.write
 rw [if_neg (by rw [hd];simp),if_neg (by simp),if_neg (by rw [(GQ h0 hd).2];simp)]
theorem nG.tick {dir:ByteArray} {pre:List cj} {s:cj} {kB:List Nat} {sf:Nat} {m:DM} (h:nG dir pre s kB sf m):nG dir pre s kB sf m.tick:=by
 have e:m.tick.ks=m.ks:=by unfold DM.ks;rw [m.nk]
 exact⟨by rw [e];exact h.nd,by rw [e];exact h.ks,fun t ht=>by rw [m.mJ];exact h.body t ht,by rw [m.mJ];exact h.last,h.sf⟩
theorem nG.put {dir:ByteArray} {pre:List cj} {s s':cj} {kB GR b:List Nat} {sf VK:Nat} {m:DM} (h:nG dir pre s kB sf m) (hg:Good (pre++[s])) (hf:s'.first=s.first) (hb:flat s'.bY++GR=b) (hs:VK≤b.length):
  nG dir pre s' GR VK (m.put (bG dir s.first) b VK):=by
 have adK:(m.get (bG dir s.first)).isSome=true:=by rw [h.last];rfl
 refine⟨by rw [JY adK];exact h.nd,?_,fun t ht=>?_,?_,by rw [hb];exact hs⟩
 ·rw [JY adK]
  have e:(pre++[s']).map (fun s=>bG dir s.first)=(pre++[s]).map (fun s=>bG dir s.first):=by simp [hf]
  rw [e];exact h.ks
 ·rw [JZ (nG.ne hg ht)];exact h.body t ht
 ·rw [hf,hb];exact nI
theorem nG.jS {dir:ByteArray} {pre:List cj} {s:cj} {kB:List Nat} {sf:Nat} {m:DM} (h:nG dir pre s kB sf m) (hg:Good (pre++[s])):nG dir pre s kB (flat s.bY++kB).length (m.jS (bG dir s.first)):=by
 unfold DM.jS
 rw [h.last]
 exact h.put hg rfl rfl (bp _)
theorem ags {dir:ByteArray} {room:Nat} {pre:List cj} {s:cj} {kB:List Nat} {sf:Nat} {m:DM} (h:nG dir pre s kB sf m) (hg:Good (pre++[s])) (ht:kQ kB=none) (h0:m.ar=0) (hd:m.dn=false):
  ∃m',LD.wc dir room m=(⟨⟨dir,room,pre++[s],(s.first+s.bY.length:Nat)-1⟩,m'⟩,0)∧nG dir pre s [] (flat s.bY).length m'∧m'.ar=0∧m'.dn=false:=by
 have vy:=hg.ok s (by simp)
 have UK:gu (m.fs.map (·.1))=(pre++[s]).map fun s=>bG dir s.first:=by
  have e:(pre++[s]).map (fun s=>bG dir s.first)=((pre++[s]).map (·.first)).map (bG dir):=by rw [en];rfl
  rw [e]
  refine W0 (by rw [←e];exact h.ks) hg.lk.ZI fun n hn=>?_
  obtain⟨t,ht,rfl⟩:=List.mem_map.1 hn
  have:=(hg.ok t ht).top
  omega
 have hj:=VI (dir:=dir) (room:=room) (m:=m) (pre++[s]) [] (by simpa using hg.lk) (fun t qd=>?_) (fun t qd=>?_)
 ·rw [cV] at hj
  have hL0:L0 dir room=⟨dir,room,[],0⟩:=rfl
  have aht: ∃m',LD.DV ⟨⟨dir,room,pre++[s],0⟩,m⟩=(⟨⟨dir,room,pre++[s],(s.first+s.bY.length:Nat)-1⟩,m'⟩,0)∧nG dir pre s [] (flat s.bY).length m'∧m'.ar=0∧m'.dn=false:=by
   have eN:(⟨dir,room,pre++[s],0⟩:LM).ep=bG dir s.first:=by unfold LM.ep;rw [zt]
   have eX:(⟨dir,room,pre++[s],0⟩:LM).next=s.first+s.bY.length:=by unfold LM.next;rw [zt]
   have sync: ∀{m1:DM} {sf1:Nat},nG dir pre s [] sf1 m1→m1.ar=0→m1.dn=false→ ∃m',LD.sync ⟨⟨dir,room,pre++[s],0⟩,m1⟩=(⟨⟨dir,room,pre++[s],(s.first+s.bY.length:Nat)-1⟩,m'⟩,0)∧nG dir pre s [] (flat s.bY).length m'∧m'.ar=0∧m'.dn=false:=by
    intro m1 sf1 h1 a1 d1
    have e:m1.sync (bG dir s.first)=(DM.jS (bG dir s.first) m1.tick,0):=by
     unfold DM.sync
     rw [if_pos (by rw [h1.last];rfl),VJ a1 d1]
    refine⟨DM.jS (bG dir s.first) m1.tick,?_,?_,?_,?_⟩
    ·unfold LD.sync
     dsimp only
     rw [eN,e,eX]
     rfl
    ·have:=h1.tick.jS hg
     rwa [cp] at this
    ·unfold DM.jS;split
     ·exact(GQ a1 d1).1
     ·exact(GQ a1 d1).1
    ·unfold DM.jS;split
     ·exact(GQ a1 d1).2
     ·exact(GQ a1 d1).2
   unfold LD.DV
   dsimp only
   rw [zt,eN,sD h.last,vy.sz,ae]
   by_cases htn:kB=[]
   ·subst htn
    rw [if_neg (by simp)]
    exact sync h h0 hd
   ·have:=List.length_pos_iff.2 htn
    rw [if_pos (by omega)]
    have hc:m.cut (bG dir s.first) (flat s.bY).length=(DM.Ar (bG dir s.first) (flat s.bY).length m.tick,0):=by
     unfold DM.cut DM.M7
     rw [sD h.last,if_pos (by rw [h.last];rfl),ae,if_neg (by omega),VJ h0 hd]
     rfl
    rw [hc,if_neg (by simp)]
    have hcd:nG dir pre s [] (min sf (flat s.bY).length) (DM.Ar (bG dir s.first) (flat s.bY).length m.tick):=by
     unfold DM.Ar
     rw [h.tick.last]
     dsimp only
     rw [List.take_left]
     exact h.tick.put hg rfl (cp _) (ym _ _)
    have agt:(DM.Ar (bG dir s.first) (flat s.bY).length m.tick).ar=0∧(DM.Ar (bG dir s.first) (flat s.bY).length m.tick).dn=false:=by
     unfold DM.Ar
     split
     ·exact GQ h0 hd
     ·exact GQ h0 hd
    exact sync hcd agt.1 agt.2
  obtain⟨m',e1,e2⟩:=aht
  refine⟨m',?_,e2⟩
  unfold LD.wc
  dsimp only
  rw [hd,if_neg iu,hL0,UK,hj,if_neg (by simp),if_neg (by simp)]
  exact e1
 ·have XX:=hg.ok t qd
  refine⟨XX.one,by have:=XX.top;omega,?_⟩
  rw [XX.sz]
  rcases List.mem_append.1 qd with qd|qd
  ·rw [sD (h.body t qd)]
   have:=Rv (l:=t.bY) (kB:=[]) (fun p hp=>(XX.pl p hp).1) Bo
   rwa [cp] at this
  ·simp only [bo] at qd
   subst qd
   rw [sD h.last]
   exact Rv (fun p hp=>(XX.pl p hp).1) ht
 ·rw [cV,ui] at qd
  rw [sD (h.body t qd),(hg.ok t (by simp [qd])).sz]
def yp (dir:ByteArray) (P:List cj→Prop) (m:DM):Prop:=
 m.dn=true∧ ∀dD,∃pre s kB sf,P (pre++[s])∧Good (pre++[s])∧kQ kB=none∧nG dir pre s kB sf (m.mL dD)
theorem yp.imp {dir:ByteArray} {P Q:List cj→Prop} {m:DM} (h:yp dir P m) (k: ∀l,P l→Q l):yp dir Q m:=
 ⟨h.1,fun dD=>let⟨a,b,c,d,e,f⟩:=h.2 dD;⟨a,b,c,d,k _ e,f⟩⟩
theorem ZJ {p:List Nat} {k:Nat} (hk:k<(du p).length) (hp:p.length≤262144):kQ ((du p).take k)=none:=by
 have hl:=nA p
 by_cases h:k<12
 ·exact uh (.inl (by rw [bQ];omega))
 ·have e1:iL (du p)=p.length:=by
   unfold du
   simp only [ax]
   exact GD _ (by omega) _
  have e2:iL ((du p).take k)=p.length:=by
   rw [←e1,Fc,Fc]
   rw [gb (by omega),gb (by omega),gb (by omega),gb (by omega)]
  refine uh (.inr (.inr (.inr ?_)))
  rw [e2,bQ]
  omega
section
variable {dir : ByteArray} {pre : List cj} {s : cj} {kB : List Nat} {sf : Nat} {m : DM}
theorem nG.re {s':cj} {GR:List Nat} {VK:Nat} {m':DM} (h:nG dir pre s kB sf m) (hk:m'.ks=m.ks) (hb: ∀t∈pre,m'.get (bG dir t.first)=m.get (bG dir t.first)) (hf:s'.first=s.first)
  (hl:m'.get (bG dir s.first)=some (flat s'.bY++GR,VK)) (hs:VK≤(flat s'.bY++GR).length):nG dir pre s' GR VK m':=by
 refine⟨by rw [hk];exact h.nd,?_,fun t ht=>by rw [hb t ht];exact h.body t ht,by rw [hf];exact hl,hs⟩
 rw [hk]
 have e:(pre++[s']).map (fun s=>bG dir s.first)=(pre++[s]).map (fun s=>bG dir s.first):=by simp [hf]
 rw [e];exact h.ks
theorem J4 (h:nG dir pre s [] (flat s.bY).length m) (hg:Good (pre++[s])) (hd:m.dn=true):yp dir (fun l=>l=pre++[s]) m:=by
 refine⟨hd,fun dD=>?_⟩
 obtain⟨k,hk,_,h1,h2,h3⟩:=h.mL (dD:=dD) hg
 rw [cp] at hk h3
 have kX:k=0:=by omega
 subst kX
 refine⟨pre,s,[],(flat s.bY).length,rfl,hg,Bo,h.re h1 (fun t ht=>by rw [h2 t ht,h.body t ht]) rfl ?_ (by simp)⟩
 rw [h3,cp,sB,dV]
abbrev cj.plus (s:cj) (p:List Nat):cj:=⟨s.first,s.bY++[p],s.size+(du p).length⟩
theorem Rx {p:List Nat} (h:nG dir pre s (du p) (flat s.bY).length m) (hg:Good (pre++[s])) (xF:Good (pre++[s.plus p])) (hp:p.length≤262144) (hd:m.dn=true):yp dir (fun l=>l=pre++[s]∨l=pre++[s.plus p]) m:=by
 refine⟨hd,fun dD=>?_⟩
 obtain⟨k,hk,_,h1,h2,h3⟩:=h.mL (dD:=dD) hg
 rw [ae] at hk
 rw [List.take_append,cl (Nat.le_add_right _ _),rM] at h3
 by_cases nC:k<(du p).length
 ·refine⟨pre,s,(du p).take k,(flat s.bY).length+k,.inl rfl,hg,ZJ nC hp,h.re h1 (fun t ht=>by rw [h2 t ht,h.body t ht]) rfl h3 (by rw [ae,bQ];omega)⟩
 ·refine⟨pre,s.plus p,[],(flat s.bY).length+k,.inr rfl,xF,Bo,h.re h1 (fun t ht=>by rw [h2 t ht,h.body t ht]) rfl ?_ ?_⟩
  ·rw [h3,cl (by omega),zB,GP,cp]
  ·rw [zB,GP,cp,ae];omega
end
theorem zC {m:DM} (hd:m.dn=false) (f:DM→DM):(m.tick.dn=true∧m.write 0 f=(m.tick,12))∨(m.tick.dn=false∧m.write 0 f=(f m.tick,0)):=by
 cases h:m.tick.dn with
 |true=>left;exact⟨rfl,by unfold DM.write;rw [if_neg (by rw [hd];simp),if_neg (by simp),if_pos h]⟩
 |false=>right;exact⟨rfl,by unfold DM.write;rw [if_neg (by rw [hd];simp),if_neg (by simp),if_neg (by rw [h];simp)]⟩
structure oP (x:LD) (pre:List cj) (s:cj):Prop where
 bR:x.L.bR=pre++[s]
 g:Good (pre++[s])
 d:nG x.L.dir pre s [] (flat s.bY).length x.m
 dn:x.m.dn=false
 sz:x.m.sz≤4194304
 fl:x.m.fs.length≤64
 d1:1≤x.L.dir.size
 d2:x.L.dir.size≤11
 r1:64≤x.L.room
 r2:x.L.room≤262144
section
variable {x : LD} {pre : List cj} {s : cj}
theorem oP.last (h:oP x pre s):x.L.last=s:=by unfold LM.last;rw [h.bR];simp
theorem oP.name (h:oP x pre s):x.L.ep=bG x.L.dir s.first:=by unfold LM.ep;rw [h.last]
theorem oP.next (h:oP x pre s):x.L.next=s.first+s.bY.length:=by unfold LM.next;rw [h.last]
theorem VL (m:DM) (n:ByteArray):(m.jS n).dn=m.dn:=by unfold DM.jS;split<;>rfl
theorem Ry (m:DM) (n:ByteArray):(m.jS n).fs.length=m.fs.length:=by
 have:(m.jS n).ks=m.ks:=by
  unfold DM.jS;split
  ·rfl
  ·rename_i y hy;exact JY (by rw [hy];rfl)
 have:=congrArg aB this
 rwa [DM.oo,DM.oo] at this
theorem Nb (m:DM):m.tick.fs.length=m.fs.length:=by rw [m.nk]
theorem oP.sync (h:oP x pre s):(x.sync.2=12∧yp x.L.dir (fun l=>l=pre++[s]) x.sync.1.m)∨(x.sync.2=0∧oP x.sync.1 pre s∧x.sync.1.L= { x.L with safe:=(x.L.next:Int)-1 } ∧x.sync.1.m.sz=x.m.sz):=by
 have e:x.m.sync x.L.ep=x.m.write 0 (DM.jS (bG x.L.dir s.first)):=by
  unfold DM.sync;rw [h.name,if_pos (by rw [h.d.last];rfl)]
 unfold LD.sync
 dsimp only
 rw [e]
 rcases zC h.dn (DM.jS (bG x.L.dir s.first))with⟨ht,hw⟩|⟨ht,hw⟩
 ·rw [hw]
  exact .inl ⟨rfl,J4 h.d.tick h.g ht⟩
 ·rw [hw]
  have hd:=h.d.tick.jS h.g
  rw [cp] at hd
  exact .inr ⟨rfl,⟨h.bR,h.g,hd,by rw [VL];exact ht,by dsimp only;rw [DM.Cg,x.m.uG];exact h.sz,by dsimp only;rw [Ry,Nb];exact h.fl,h.d1,h.d2,h.r1,h.r2⟩,rfl,by dsimp only;rw [DM.Cg,x.m.uG]⟩
end
def fy (l:List cj):List (List Nat):=(l.map (·.bY)).flatten
def lD (l:List cj):Option Nat:=l.head?.map (·.first)
theorem W1 (l:List cj) (s:cj):fy (l++[s])=fy l++s.bY:=by simp [fy]
theorem Ma (l:List cj) (s:cj) (p:List Nat):fy (l++[s.plus p])=fy (l++[s])++[p]:=by simp [fy]
theorem Pb (l:List cj) (s s':cj) (h:s'.first=s.first):lD (l++[s'])=lD (l++[s]):=by
 cases l with
 |nil=>simp [lD,h]
 |cons a l=>rfl
theorem ZK (l:List cj) (s n:cj):lD (l++[s]++[n])=lD (l++[s]):=by
 cases l with
 |nil=>rfl
 |cons a l=>rfl
theorem Sx.plus {s:cj} {p:List Nat} (h:Sx s) (hp:p.length≤262144) (hb:lW p) (hn:s.first+s.bY.length≤99999999):Sx (s.plus p):=by
 refine⟨h.one,⟨h.top.1,by simp;omega⟩,?_,fun q hq=>?_⟩
 ·show s.size+(du p).length=_
  rw [h.sz,zB,GP,ae]
 ·rcases List.mem_append.1 hq with hq|hq
  ·exact h.pl q hq
  ·simp only [bo] at hq;subst hq;exact⟨hp,hb⟩
theorem Good.plus {pre:List cj} {s:cj} {p:List Nat} (h:Good (pre++[s])) (hp:p.length≤262144) (hb:lW p) (hn:s.first+s.bY.length≤99999999):Good (pre++[s.plus p]):=by
 refine⟨fN.last (s:=s) (s':=s.plus p) rfl h.lk,fun t ht=>?_⟩
 rcases List.mem_append.1 ht with ht|ht
 ·exact h.ok t (bU _ ht)
 ·simp only [bo] at ht;subst ht
  exact(h.ok s (by simp)).plus hp hb hn
theorem Good.more {pre:List cj} {s:cj} (h:Good (pre++[s])) (hr:s.bY≠[]) (hn:s.first+s.bY.length≤99999999):Good (pre++[s]++[⟨s.first+s.bY.length,[],0⟩]):=by
 refine⟨h.lk.snoc rfl hr,fun t ht=>?_⟩
 rcases List.mem_append.1 ht with ht|ht
 ·exact h.ok t ht
 ·simp only [bo] at ht;subst ht
  have:=(h.ok s (by simp)).one
  exact⟨by simp;omega,⟨by simpa using hn,by simp;omega⟩,by simp [flat],fun p hp=>by cases hp⟩
section
variable {x : LD} {pre : List cj} {s : cj}
theorem oP.gB (h:oP x pre s) (hr:s.bY≠[]) (hn:x.L.next≤99999999):
  ((x.gB x.L.next).2=12∧yp x.L.dir (fun l=>l=pre++[s]) (x.gB x.L.next).1.m∧(x.gB x.L.next).1.L=x.L)∨((x.gB x.L.next).2=3∧(x.gB x.L.next).1=x∧64≤x.m.fs.length)∨
  ((x.gB x.L.next).2=0∧oP (x.gB x.L.next).1 (pre++[s]) ⟨x.L.next,[],0⟩∧(x.gB x.L.next).1.L= { x.L with bR:=x.L.bR++[⟨x.L.next,[],0⟩] } ∧(x.gB x.L.next).1.m.sz=x.m.sz):=by
 have pz:=h.next
 have BJ:=List.length_pos_iff.2 hr
 have hnk: ¬(x.m.get (bG x.L.dir x.L.next)).isSome=true:=fun e=>by
  have:=h.d.ks.mem_iff.1 (DM.get_some.1 e)
  obtain⟨t,ht,e2⟩:=List.mem_map.1 this
  have XX:=(h.g.ok t ht).top
  have:=Ah (by omega) (by omega) e2
  rcases List.mem_append.1 ht with ht|ht
  ·have h1:=h.g.lk.ZI
   rw [bq] at h1
   have:=(List.pairwise_append.1 h1).2.2 t.first (List.mem_map.2 ⟨t,ht,rfl⟩) s.first (by simp)
   omega
  ·simp only [bo] at ht;subst ht;omega
 have Dm:rq (bG x.L.dir x.L.next)=true:=by
  have:=h.d1;have:=h.d2
  simp only [rq,sh,decide_eq_true_eq];omega
 unfold LD.gB
 dsimp only
 unfold DM.create
 rw [if_neg (by simp [Dm]),if_neg hnk]
 by_cases hl:64≤x.m.fs.length
 ·right;left
  rw [if_pos hl]
  have e:x.m.write 3 (fun m=>m.put (bG x.L.dir x.L.next) [] 0)=(x.m,3):=by unfold DM.write;rw [if_neg (by rw [h.dn];simp),if_pos (by simp)]
  rw [e]
  exact⟨rfl,rfl,hl⟩
 ·rw [if_neg hl]
  rcases zC h.dn (fun m=>m.put (bG x.L.dir x.L.next) [] 0)with⟨ht,hw⟩|⟨ht,hw⟩
  ·left
   rw [hw]
   exact⟨rfl,J4 h.d.tick h.g ht,rfl⟩
  ·right;right
   rw [hw,if_pos rfl]
   have m4:x.m.tick.get (bG x.L.dir x.L.next)=none:=by
    rw [x.m.mJ]
    cases hq:x.m.get (bG x.L.dir x.L.next)with
    |none=>rfl
    |some y=>rw [hq] at hnk;exact absurd rfl hnk
   have yF:(x.m.tick.put (bG x.L.dir x.L.next) [] 0).ks=x.m.ks++[bG x.L.dir x.L.next]:=by
    show(fW (bG x.L.dir x.L.next) ([],0) x.m.tick.fs).map (·.1)=_
    rw [uc,x.m.nk,if_neg (show¬(getM (bG x.L.dir x.L.next) x.m.fs).isSome=true from hnk)];rfl
   have hU:bG x.L.dir x.L.next ∉ x.m.ks:=fun hm=>hnk (DM.get_some.2 hm)
   have xF:=h.g.more hr (by omega)
   rw [←pz] at xF
   have ahu: ∀t∈pre++[s],(x.m.tick.put (bG x.L.dir x.L.next) [] 0).get (bG x.L.dir t.first)=some (flat t.bY,(flat t.bY).length):=fun t ht=>by
    rw [JZ,x.m.mJ]
    ·rcases List.mem_append.1 ht with ht|ht
     ·exact h.d.body t ht
     ·simp only [bo] at ht;subst ht
      have:=h.d.last
      rwa [cp] at this
    ·intro e
     refine hU (e▸h.d.ks.mem_iff.2 (List.mem_map.2 ⟨t,ht,rfl⟩))
   have iq:(x.m.tick.put (bG x.L.dir x.L.next) [] 0).fs.length=x.m.fs.length+1:=by
    have:=congrArg aB yF
    rw [ae,DM.oo,DM.oo] at this
    exact this
   have agu:(x.m.tick.put (bG x.L.dir x.L.next) [] 0).sz=x.m.sz:=by
    rw [DM.Qc m4,x.m.uG];simp
   refine⟨rfl,⟨by dsimp only;rw [h.bR],xF,⟨?_,?_,ahu,?_,by simp⟩,ht,by dsimp only;rw [agu];exact h.sz,?_,h.d1,h.d2,h.r1,h.r2⟩,rfl,agu⟩
   ·dsimp only;rw [yF,lI]
    exact⟨h.d.nd,by simp,fun a ha b hb e=>hU (by simp at hb;subst hb;exact e▸ha)⟩
   ·dsimp only;rw [yF,bq]
    exact h.d.ks.append (kz _)
   ·exact nI
   ·dsimp only;rw [iq];omega
theorem oP.Zi (h:oP x pre s) (hn:x.L.next≤99999999):
  (x.room.2=12∧yp x.L.dir (fun l=>l=pre++[s]) x.room.1.m∧x.room.1.L.bR=x.L.bR∧x.room.1.L.dir=x.L.dir∧x.room.1.L.room=x.L.room)∨(x.room.2=3∧oP x.room.1 pre s∧x.room.1.L.dir=x.L.dir∧x.room.1.L.room=x.L.room∧64≤x.m.fs.length∧x.L.room≤s.size)∨
  (x.room.2=0∧ ∃gN s',oP x.room.1 gN s'∧x.room.1.L.next=x.L.next∧x.room.1.L.dir=x.L.dir∧x.room.1.L.room=x.L.room∧x.room.1.m.sz=x.m.sz∧((gN=pre∧s'=s∧ ¬x.L.room≤s.size)∨(gN=pre++[s]∧s'=⟨x.L.next,[],0⟩∧x.L.room≤s.size))):=by
 unfold LD.room
 rw [h.last]
 by_cases hr:x.L.room≤s.size
 ·rw [if_pos hr]
  have dr:s.bY≠[]:=fun e=>by
   have h1:=(h.g.ok s (by simp)).sz
   have h2:=h.r1
   rw [e] at h1
   simp [flat] at h1
   omega
  dsimp only
  rcases h.sync with⟨e,hf⟩|⟨e,hu,eL,eS⟩
  ·left
   have vV:x.sync.1.L.bR=x.L.bR∧x.sync.1.L.dir=x.L.dir∧x.sync.1.L.room=x.L.room:=by
    unfold LD.sync;dsimp only;split<;>exact⟨rfl,rfl,rfl⟩
   rw [if_pos (by rw [e];simp)]
   exact⟨e,hf,vV⟩
  ·rw [if_neg (by rw [e];simp)]
   have pz:x.sync.1.L.next=x.L.next:=by rw [hu.next,h.next]
   have ZL:x.sync.1.L.dir=x.L.dir:=by rw [eL]
   have Q7:x.sync.1.L.room=x.L.room:=by rw [eL]
   have A5:x.sync.1.m.fs.length=x.m.fs.length:=by
    have h1:=h.d.ks.length_eq
    have h2:=hu.d.ks.length_eq
    rw [DM.oo] at h1 h2
    rw [h1,h2];simp
   rw [←pz]
   rcases hu.gB dr (by omega)with⟨a,b,c⟩|⟨a,b,c⟩|⟨a,b,c,d⟩
   ·left
    rw [ZL] at b
    exact⟨a,b,by rw [c,eL],by rw [c,ZL],by rw [c,Q7]⟩
   ·right;left
    rw [b]
    exact⟨a,hu,ZL,Q7,by omega,hr⟩
   ·right;right
    refine⟨a,_,_,b,?_,by rw [c];exact ZL,by rw [c];exact Q7,d.trans eS,.inr ⟨rfl,rfl,hr⟩⟩
    rw [b.next];simp
 ·rw [if_neg hr]
  right;right
  exact⟨rfl,pre,s,h,rfl,rfl,rfl,rfl,.inl ⟨rfl,rfl,hr⟩⟩
end
section
variable {x : LD} {pre : List cj} {s : cj} {p : List Nat}
structure Lay (x:LD) (pre:List cj) (s:cj) (p:List Nat):Prop where
 bR:x.L.bR=pre++[s.plus p]
 g0:Good (pre++[s])
 g:Good (pre++[s.plus p])
 d:nG x.L.dir pre s (du p) (flat s.bY).length x.m
 pl:p.length≤262144
 dn:x.m.dn=false
 sz:x.m.sz≤4194304
 fl:x.m.fs.length≤64
 d1:1≤x.L.dir.size
 d2:x.L.dir.size≤11
 r1:64≤x.L.room
 r2:x.L.room≤262144
theorem Lay.last (h:Lay x pre s p):x.L.last=s.plus p:=by unfold LM.last;rw [h.bR];simp
theorem Lay.sync (h:Lay x pre s p):(x.sync.2=12∧yp x.L.dir (fun l=>l=pre++[s]∨l=pre++[s.plus p]) x.sync.1.m)∨(x.sync.2=0∧oP x.sync.1 pre (s.plus p)∧x.sync.1.L.dir=x.L.dir∧x.sync.1.L.room=x.L.room):=by
 have hn:x.L.ep=bG x.L.dir s.first:=by unfold LM.ep;rw [h.last]
 have e:x.m.sync x.L.ep=x.m.write 0 (DM.jS (bG x.L.dir s.first)):=by
  unfold DM.sync;rw [hn,if_pos (by rw [h.d.last];rfl)]
 unfold LD.sync
 dsimp only
 rw [e]
 rcases zC h.dn (DM.jS (bG x.L.dir s.first))with⟨ht,hw⟩|⟨ht,hw⟩
 ·rw [hw]
  exact .inl ⟨rfl,Rx h.d.tick h.g0 h.g h.pl ht⟩
 ·rw [hw]
  have hd:=h.d.tick.jS h.g0
  have iq:flat s.bY++du p=flat (s.plus p).bY:=by show _=flat (s.bY++[p]);rw [zB,GP]
  have pO:nG x.L.dir pre (s.plus p) [] (flat (s.plus p).bY).length (x.m.tick.jS (bG x.L.dir s.first)):=by
   refine hd.re rfl (fun _ _=>rfl) rfl ?_ (by simp)
   rw [hd.last,iq,cp]
  exact .inr ⟨rfl,⟨h.bR,h.g,pO,by rw [VL];exact ht,by dsimp only;rw [DM.Cg,x.m.uG];exact h.sz,by dsimp only;rw [Ry,Nb];exact h.fl,h.d1,h.d2,h.r1,h.r2⟩,rfl,rfl⟩
theorem oP.lay (h:oP x pre s) (hp:p.length≤262144) (hb:lW p) (hn:x.L.next≤99999999):
  ((x.lay p).2=12∧yp x.L.dir (fun l=>l=pre++[s]∨l=pre++[s.plus p]) (x.lay p).1.m∧(x.lay p).1.L=x.L)∨((x.lay p).2=11∧(x.lay p).1=x∧4194304<x.m.sz+(du p).length)∨
  ((x.lay p).2=0∧Lay (x.lay p).1 pre s p∧(x.lay p).1.L=x.L.add p):=by
 have pz:=h.next
 have xF:=h.g.plus hp hb (by omega)
 have hl:=h.d.last
 rw [cp] at hl
 have eA:x.m.append (bG x.L.dir s.first) (du p)=if 4194304-x.m.sz<(du p).length then(x.m,11)else(x.m.tick.put (bG x.L.dir s.first) (flat s.bY++du p) (flat s.bY).length,if x.m.tick.dn then 12 else 0):=by
  unfold DM.append
  rw [hl,if_neg (by rw [h.dn];simp)]
 unfold LD.lay
 dsimp only
 rw [h.name]
 by_cases eu:4194304-x.m.sz<(du p).length
 ·right;left
  rw [if_pos eu] at eA
  rw [eA]
  exact⟨rfl,rfl,by have:=h.sz;omega⟩
 ·rw [if_neg eu] at eA
  have dh:x.m.tick.get (bG x.L.dir s.first)=some (flat s.bY,(flat s.bY).length):=by rw [x.m.mJ];exact hl
  have hd:nG x.L.dir pre s (du p) (flat s.bY).length (x.m.tick.put (bG x.L.dir s.first) (flat s.bY++du p) (flat s.bY).length):=
   h.d.tick.put h.g rfl rfl (by rw [ae];omega)
  have iI:(x.m.tick.put (bG x.L.dir s.first) (flat s.bY++du p) (flat s.bY).length).dn=x.m.tick.dn:=rfl
  cases ht:x.m.tick.dn with
  |true=>
   left
   rw [ht,if_pos rfl] at eA
   rw [eA]
   exact⟨rfl,Rx hd h.g xF hp (iI.trans ht),rfl⟩
  |false=>
   right;right
   rw [ht,if_neg iu] at eA
   rw [eA,if_pos rfl]
   refine⟨rfl,⟨?_,h.g,xF,hd,hp,iI.trans ht,?_,?_,h.d1,h.d2,h.r1,h.r2⟩,rfl⟩
   ·show x.L.bR.dropLast++[⟨x.L.last.first,x.L.last.bY++[p],x.L.last.size+(du p).length⟩]=_
    rw [h.last,h.bR,ui]
   ·have:=DM.Jx (bs:=flat s.bY++du p) (s':=(flat s.bY).length) dh
    rw [ae,x.m.uG] at this
    have:=h.sz
    dsimp only
    omega
   ·have hk:(x.m.tick.put (bG x.L.dir s.first) (flat s.bY++du p) (flat s.bY).length).ks=x.m.tick.ks:=JY (by rw [dh];rfl)
    have:=congrArg aB hk
    rw [DM.oo,DM.oo,Nb] at this
    dsimp only
    rw [this];exact h.fl
structure Kept (x:LD) (pre:List cj) (s:cj) (p:List Nat) (y:LD) (gN:List cj) (s':cj):Prop where
 up:oP y gN s'
 fst:lD (gN++[s'])=lD (pre++[s])
 dir:y.L.dir=x.L.dir
 room:y.L.room=x.L.room
theorem oP.fc (h:oP x pre s) (hp:p.length≤262144) (hb:lW p):
  ((x.fc 0 p).2.2=12∧yp x.L.dir (fun l=>lD l=lD (pre++[s])∧(fy l=fy (pre++[s])∨fy l=fy (pre++[s])++[p])) (x.fc 0 p).1.m)∨
  ((x.fc 0 p).2.2=0∧(x.fc 0 p).2.1=x.L.next∧ ∃gN s',Kept x pre s p (x.fc 0 p).1 gN s'∧fy (gN++[s'])=fy (pre++[s])++[p]∧
   ((gN=pre∧s'=s.plus p∧ ¬x.L.room≤s.size)∨(gN=pre++[s]∧s'=⟨x.L.next,[p],(du p).length⟩∧x.L.room≤s.size)))∨
  ((x.fc 0 p).2.2≠0∧(x.fc 0 p).2.2≠12∧(∃gN s',Kept x pre s p (x.fc 0 p).1 gN s'∧fy (gN++[s'])=fy (pre++[s]))∧(99999999<x.L.next∨(64≤x.m.fs.length∧x.L.room≤s.size)∨4194304<x.m.sz+(du p).length)):=by
 have pz:=h.next
 have eK:x.fc 0 p=if(x.append p).2.2≠0 then x.append p else((x.append p).1.sync.1,(x.append p).2.1,(x.append p).1.sync.2):=by
  unfold LD.fc;rw [if_neg (by simp)]
 have eA:x.append p=if 99999999<x.L.next then(x,0,1)else if x.room.2≠0 then(x.room.1,0,x.room.2)else if(x.room.1.lay p).2≠0 then((x.room.1.lay p).1,0,(x.room.1.lay p).2)else((x.room.1.lay p).1,x.L.next,0):=by
  unfold LD.append;rw [if_neg (by omega)]
 by_cases hn:99999999<x.L.next
 ·right;right
  rw [if_pos hn] at eA
  rw [eA,if_pos (by simp)] at eK
  rw [eK]
  exact⟨by simp,by simp,⟨pre,s,⟨h,rfl,rfl,rfl⟩,rfl⟩,.inl hn⟩
 ·rw [if_neg hn] at eA
  rcases h.Zi (by omega)with⟨a,b,c,d,e⟩|⟨a,b,c,d,e,f⟩|⟨a,gN,s',b,c,d,e,Mk,f⟩
  ·left
   rw [if_pos (by rw [a];simp)] at eA
   rw [eA,if_pos (by rw [a];simp)] at eK
   rw [eK]
   exact⟨a,b.imp fun l hl=>by subst hl;exact⟨rfl,.inl rfl⟩⟩
  ·right;right
   rw [if_pos (by rw [a];simp)] at eA
   rw [eA,if_pos (by rw [a];simp)] at eK
   rw [eK]
   exact⟨by rw [a];simp,by rw [a];simp,⟨pre,s,⟨b,rfl,c,d⟩,rfl⟩,.inr (.inl ⟨e,f⟩)⟩
  ·rw [if_neg (by rw [a];simp)] at eA
   have Ff:lD (gN++[s'])=lD (pre++[s]):=by
    rcases f with⟨rfl,rfl,_⟩|⟨rfl,rfl,_⟩
    ·rfl
    ·exact ZK _ _ _
   have vC:fy (gN++[s'])=fy (pre++[s]):=by
    rcases f with⟨rfl,rfl,_⟩|⟨rfl,rfl,_⟩
    ·rfl
    ·rw [W1];simp
   rcases b.lay hp hb (by rw [c];omega)with⟨a1,b1,c1⟩|⟨a1,b1,c1⟩|⟨a1,b1,c1⟩
   ·left
    rw [if_pos (by rw [a1];simp)] at eA
    rw [eA,if_pos (by rw [a1];simp)] at eK
    rw [eK]
    rw [d] at b1
    refine⟨a1,b1.imp fun l hl=>?_⟩
    rcases hl with rfl|rfl
    ·exact⟨Ff,.inl vC⟩
    ·exact⟨(Pb gN s' (s'.plus p) rfl).trans Ff,.inr (by rw [Ma,vC])⟩
   ·right;right
    rw [if_pos (by rw [a1];simp)] at eA
    rw [eA,if_pos (by rw [a1];simp)] at eK
    rw [eK,b1]
    exact⟨by rw [a1];simp,by rw [a1];simp,⟨gN,s',⟨b,Ff,d,e⟩,vC⟩,.inr (.inr (by rw [←Mk];exact c1))⟩
   ·rw [if_neg (by rw [a1];simp)] at eA
    rw [eA,if_neg (by simp)] at eK
    rw [eK]
    have tq:(x.room.1.lay p).1.L.dir=x.L.dir:=by rw [c1];exact d
    have BJ:(x.room.1.lay p).1.L.room=x.L.room:=by rw [c1];exact e
    have hf2:lD (gN++[s'.plus p])=lD (pre++[s]):=(Pb gN s' (s'.plus p) rfl).trans Ff
    have lE:fy (gN++[s'.plus p])=fy (pre++[s])++[p]:=by rw [Ma,vC]
    rcases b1.sync with⟨a2,b2⟩|⟨a2,b2,c2,d2⟩
    ·left
     rw [tq] at b2
     refine⟨a2,b2.imp fun l hl=>?_⟩
     rcases hl with rfl|rfl
     ·exact⟨Ff,.inl vC⟩
     ·exact⟨hf2,.inr lE⟩
    ·right;left
     refine⟨a2,rfl,gN,s'.plus p,⟨b2,hf2,c2.trans tq,d2.trans BJ⟩,lE,?_⟩
     rcases f with⟨rfl,rfl,f⟩|⟨rfl,rfl,f⟩
     ·exact .inl ⟨rfl,rfl,f⟩
     ·exact .inr ⟨rfl,by simp [cj.plus],f⟩
end
section
variable {x : LD} {pre : List cj} {s a : cj}
theorem oP.ahv (h:oP x (a::pre) s):(x.m.remove (bG x.L.dir a.first)=(x.m.tick,12)∧yp x.L.dir (fun l=>l=a::pre++[s]) x.m.tick)∨
  ((x.m.remove (bG x.L.dir a.first)).2=0∧oP ⟨{ x.L with bR:=pre++[s] },(x.m.remove (bG x.L.dir a.first)).1⟩ pre s):=by
 have hg:Good (pre++[s]):=Good.suffix (a:=[a]) h.g
 have dr: ∀t∈pre++[s],bG x.L.dir t.first≠bG x.L.dir a.first:=fun t ht e=>by
  have h1:=fN.lt h.g.lk t ht
  have h2:=(h.g.ok t (bm _ ht)).top
  have h3:=(h.g.ok a (by simp)).top
  have:=Ah (by omega) (by omega) e
  omega
 have e:x.m.remove (bG x.L.dir a.first)=x.m.write 0 (fun m=>m.del (bG x.L.dir a.first)):=by
  unfold DM.remove;rw [if_pos (by rw [h.d.body a (by simp)];rfl)]
 rw [e]
 rcases zC h.dn (fun m=>m.del (bG x.L.dir a.first))with⟨ht,hw⟩|⟨ht,hw⟩
 ·rw [hw]
  exact .inl ⟨rfl,J4 h.d.tick h.g ht⟩
 ·rw [hw]
  have yF:(x.m.tick.del (bG x.L.dir a.first)).ks=x.m.ks.filter fun k=>decide (k≠bG x.L.dir a.first):=by
   show(ni (bG x.L.dir a.first) x.m.tick.fs).map (·.1)=_
   rw [x.m.nk];unfold ni DM.ks;rw [List.filter_map];rfl
  have wu: ∀t∈pre++[s],(x.m.tick.del (bG x.L.dir a.first)).get (bG x.L.dir t.first)=x.m.get (bG x.L.dir t.first):=fun t ht=>by
   rw [←x.m.mJ];exact Jw (dr t ht)
  refine .inr ⟨rfl,⟨rfl,hg,⟨?_,?_,fun t ht=>?_,?_,by simp⟩,ht,?_,?_,h.d1,h.d2,h.r1,h.r2⟩⟩
  ·dsimp only;rw [yF];exact h.d.nd.filter _
  ·dsimp only;rw [yF]
   have hp:=(h.d.ks.filter fun k=>decide (k≠bG x.L.dir a.first))
   rw [ef,bh,List.filter_cons_of_neg (by simp)] at hp
   have hf:((pre++[s]).map fun s=>bG x.L.dir s.first).filter (fun k=>decide (k≠bG x.L.dir a.first))=(pre++[s]).map fun s=>bG x.L.dir s.first:=List.filter_eq_self.2 fun k hk=>by
    obtain⟨t,ht,rfl⟩:=List.mem_map.1 hk
    simpa using dr t ht
   rw [hf] at hp
   exact hp
  ·dsimp only;rw [wu t (bU _ ht)];exact h.d.body t (bm _ ht)
  ·dsimp only;rw [wu s (by simp)];exact h.d.last
  ·have:=DP (fun x:List Nat×Nat=>x.1.length) (bG x.L.dir a.first) x.m.tick.fs
   rw [x.m.nk] at this
   show pH _ (ni _ x.m.tick.fs)≤_
   rw [x.m.nk]
   exact ah this h.sz
  ·have:=congrArg aB yF
   rw [DM.oo] at this
   dsimp only
   rw [this]
   exact ah (List.length_filter_le _ _) (by rw [DM.oo];exact h.fl)
theorem oP.trim {below:Nat} : ∀{K:Nat} {pre:List cj} {x:LD},oP x pre s→
  ((x.trim below K).2=12∧yp x.L.dir (fun l=> ∃a,pre++[s]=a++l∧(a≠[]→ ∀f,lD l=some f→f≤below)) (x.trim below K).1.m)∨
  ((x.trim below K).2=0∧ ∃a gN,pre++[s]=a++(gN++[s])∧(a≠[]→ ∀f,lD (gN++[s])=some f→f≤below)∧oP (x.trim below K).1 gN s∧(x.trim below K).1.L.dir=x.L.dir∧(x.trim below K).1.L.room=x.L.room∧(pre.length<K→s.first≤below→gN=[]))
 |0,pre,x,h=>.inr ⟨rfl,[],pre,rfl,fun e=>absurd rfl e,h,rfl,rfl,fun e=>absurd e (Nat.not_lt_zero _)⟩
 |K+1,pre,x,h=>by
  cases pre with
  |nil=>
   have e:x.trim below (K+1)=(x,0):=by
    unfold LD.trim
    rw [h.bR]
    rfl
   rw [e]
   exact .inr ⟨rfl,[],[],rfl,fun e=>absurd rfl e,h,rfl,rfl,fun _ _=>rfl⟩
  |cons a pre=>
   obtain⟨t,r,A9⟩: ∃t r,pre++[s]=t::r:=by
    cases pre with
    |nil=>exact⟨s,[],rfl⟩
    |cons u v=>exact⟨u,v++[s],rfl⟩
   have e:x.trim below (K+1)=if t.first≤below then(if(x.m.remove (bG x.L.dir a.first)).2≠0 then(⟨x.L,(x.m.remove (bG x.L.dir a.first)).1⟩,(x.m.remove (bG x.L.dir a.first)).2)else LD.trim ⟨{ x.L with bR:=t::r },(x.m.remove (bG x.L.dir a.first)).1⟩ below K)else(x,0):=by
    conv=>lhs;unfold LD.trim
    rw [h.bR,ef,A9]
   have hft:lD (pre++[s])=some t.first:=by rw [A9];rfl
   by_cases hb:t.first≤below
   ·rw [if_pos hb] at e
    rcases h.ahv with⟨e1,h1⟩|⟨e1,h1⟩
    ·rw [e1,if_pos (by simp)] at e
     rw [e]
     exact .inl ⟨rfl,h1.imp fun l hl=>⟨[],by rw [hl];rfl,fun e=>absurd rfl e⟩⟩
    ·rw [if_neg (by rw [e1];simp),←A9] at e
     rw [e]
     rcases oP.trim (below:=below) (K:=K) h1 with⟨e2,h2⟩|⟨e2,b,gN,h3,h4,h5,h6,h7,h8⟩
     ·refine .inl ⟨e2,h2.imp fun l ⟨b,mF,qt⟩=>⟨a::b,by rw [ef,mF];rfl,fun _ f hf=>?_⟩⟩
      by_cases DY:b=[]
      ·subst DY
       rw [cV] at mF
       rw [←mF,hft] at hf
       obtain rfl:=bK hf
       exact hb
      ·exact qt DY f hf
     ·refine .inr ⟨e2,a::b,gN,by rw [ef,h3];rfl,fun _ f hf=>?_,h5,h6,h7,fun hk hs=>h8 (by simp at hk;omega) hs⟩
      by_cases DY:b=[]
      ·subst DY
       rw [cV] at h3
       rw [←h3,hft] at hf
       obtain rfl:=bK hf
       exact hb
      ·exact h4 DY f hf
   ·rw [if_neg hb] at e
    rw [e]
    refine .inr ⟨rfl,[],a::pre,rfl,fun e=>absurd rfl e,h,rfl,rfl,fun _ hs=>?_⟩
    exfalso
    have:t.first≤s.first:=by
     have ix:s∈t::r:=by rw [←A9];simp
     rcases List.mem_cons.1 ix with e|hm
     ·rw [e];exact bp _
     ·have hl:fN (t::r):=by rw [←A9];exact fN.suffix (a:=[a]) h.g.lk
      exact Nat.le_of_lt (hl.lt s hm)
    omega
end
theorem lj {a b:List Nat} (ha:lW a) (hb:lW b):lW (a++b):=fun x hx=>(List.mem_append.1 hx).elim (ha x) (hb x)
theorem VM: ∀(k u:Nat),u≤k→lW (nU u)
 |0,u,h=>by
  have:u=0:=by omega
  subst this
  intro x hx
  unfold nU at hx
  simp at hx;omega
 |k+1,u,h=>by
  intro x hx
  unfold nU at hx
  split at hx
  ·simp at hx;omega
  ·rcases List.mem_cons.1 hx with rfl|hx
   ·omega
   ·exact VM k (u/128) (by omega) x hx
theorem ph (n:Int):lW (encI n):=VM _ _ (bp _)
theorem VN (s:BA):lW (kU s):=lj (ph _) fun x hx=>by
 obtain⟨b,_,rfl⟩:=List.mem_map.1 hx
 exact UInt8.toNat_lt b
theorem ac9 (n:Nat):lW (sc n):=fun x hx=>by
 obtain⟨b,_,rfl⟩:=List.mem_map.1 hx
 unfold Cb
 omega
theorem ada (v:fq):lW (lu v):=by
 unfold lu
 generalize (if v.may=true then v else fq.zero)=u
 refine lj (ph _) ?_
 split
 ·exact ac9 _
 ·split
  ·exact VN _
  ·intro x hx;cases hx
theorem J5 (s:bZ):lW (jL s):=lj (lj (ph _) (ph _)) (ph _)
theorem abc (s:gM):lW (pX s):=lj (lj (ph _) (ph _)) (ph _)
theorem Rz (x:KV):lW (dd x):=lj (VN _) (ada _)
theorem VO {α:Type} {f:α→List Nat} {l:List α} (h: ∀x∈l,lW (f x)):lW (gA f l):=lj (ph _) fun x hx=>by
 obtain⟨y,hy,hx⟩:=List.mem_flatten.1 hx
 obtain⟨z,hz,rfl⟩:=List.mem_map.1 hy
 exact h z hz x hx
theorem Qw (r:fJ):lW r.enc:=by
 cases r with
 |A p s t l=>
  show lW (iv _)
  unfold iv
  exact lj (ph _) (lj (J5 _) (lj (J5 _) (lj (abc _) (VO fun x _=>Rz x))))
 |B s l=>
  show lW (gG _)
  unfold gG
  exact lj (ph _) (lj (J5 _) (VO fun x _=>Rz x))
theorem Qx (n:Nat):lW (ru n):=by
 intro x hx
 unfold ru at hx
 simp at hx
 omega
theorem abd {p:List Nat} (h:lW p):lW (du p):=lj (lj (lj (Qx _) (Qx _)) h) (Qx _)
theorem adb {l:List (List Nat)} (h: ∀p∈l,lW p):lW (flat l):=fun x hx=>by
 obtain⟨y,hy,hx⟩:=List.mem_flatten.1 hx
 obtain⟨z,hz,rfl⟩:=List.mem_map.1 hy
 exact abd (h z hz) x hx
theorem nG.A8 {dir:ByteArray} {pre:List cj} {s:cj} {kB:List Nat} {sf:Nat} {m:DM} (h:nG dir pre s kB sf m) (hg:Good (pre++[s])) (ht:lW kB): ∀n,lW (m.bytes n):=fun n=>by
 cases hq:m.get n with
 |none=>unfold DM.bytes;rw [hq];intro x hx;cases hx
 |some y=>
  have hm:=h.ks.mem_iff.1 (DM.get_some.1 (by rw [hq];rfl))
  obtain⟨t,qd,rfl⟩:=List.mem_map.1 hm
  have hb:lW (flat t.bY):=adb fun p hp=>((hg.ok t qd).pl p hp).2
  rcases List.mem_append.1 qd with qd|qd
  ·rw [sD (h.body t qd)];exact hb
  ·simp only [bo] at qd;subst qd
   rw [sD h.last]
   exact lj hb ht
theorem Nc {α:Type} {p:α→Bool} {r:α→α→Bool} (ht: ∀a b c,r a b=true→r b c=true→r a c=true): ∀{l:List α} {o:Option α},chain p r o l=true→(∀x∈l,p x=true∧ ∀y,o=some y→r y x=true)∧l.Pairwise fun a b=>r a b=true
 |[],_,_=>by simp
 |x::l,none,h=>by
  simp only [chain,aG] at h
  obtain⟨h1,h2⟩:=Nc ht h.2
  refine⟨fun z hz=>⟨?_,fun y e=>by cases e⟩,List.pairwise_cons.2 ⟨fun z hz=>(h1 z hz).2 x rfl,h2⟩⟩
  rcases List.mem_cons.1 hz with rfl|hz
  ·exact h.1
  ·exact(h1 z hz).1
 |x::l,some w,h=>by
  simp only [chain,aG] at h
  obtain⟨h1,h2⟩:=Nc ht h.2
  refine⟨fun z hz=>⟨?_,fun y e=>?_⟩,List.pairwise_cons.2 ⟨fun z hz=>(h1 z hz).2 x rfl,h2⟩⟩
  ·rcases List.mem_cons.1 hz with rfl|hz
   ·exact h.1.1
   ·exact(h1 z hz).1
  ·obtain rfl:=bK e
   rcases List.mem_cons.1 hz with rfl|hz
   ·exact h.1.2
   ·exact ht _ _ _ h.1.2 ((h1 z hz).2 x rfl)
theorem Pc {l:List KV} (h:sQ l=true):Up l∧ ∀x∈l,g8 x.key=true∧x.val.may=true∧x.val.kind≠0:=by
 obtain⟨h1,h2⟩:=Nc (p:=fun x:KV=>g8 x.key&&x.val.may&&decide (x.val.kind≠0)) (r:=fun a b:KV=>kO a.key b.key) (fun a b c h1 h2=>Vg h1 h2) h
 refine⟨h2,fun x hx=>?_⟩
 have:=(h1 x hx).1
 simpa [and_assoc] using this
abbrev AS:=List KV×bZ
def sE (a:AS):fJ→Option AS
 | .A p st _ l=>if p=a.2 then some (l.foldl s4 a.1,st)else none
 | .B st l=>if st=a.2∧l=a.1 then some a else none
def yq:AS→List fJ→Option AS
 |a,[]=>some a
 |a,r::l=>(sE a r).bind fun b=>yq b l
theorem Cx: ∀(a:AS) (l k:List fJ),yq a (l++k)=(yq a l).bind fun b=>yq b k
 |a,[],k=>rfl
 |a,r::l,k=>by
  show(sE a r).bind _=((sE a r).bind _).bind _
  rw [Option.bind_assoc]
  congr 1
  funext b
  exact Cx b l k
def SM.as (s:SM):AS:=(s.list,s.high)
def SM.nd (s:SM):Prop:=(s.bH.map (·.1)).Nodup
theorem SM.VP {s:SM} (h:s.nd) (t:gM) (st:bZ) (l:List KV):(s.apply t st l).as=(l.foldl s4 s.list,st)∧(s.apply t st l).nd:=by
 refine⟨?_,?_⟩
 ·show((s.apply t st l).list,st)=_
  rw [←JQ l h]
  congr 1
 ·show((l.foldl fM s.bH).map (·.1)).Nodup
  have: ∀(l:List KV) (p:List (ByteArray×fq)),(p.map (·.1)).Nodup→((l.foldl fM p).map (·.1)).Nodup:=by
   intro l
   induction l with
   |nil=>intro p h;exact h
   |cons x l ih=>intro p h;exact ih _ (yj h x)
  exact this l _ h
theorem RA: ∀(l:List KV) (p:List (ByteArray×fq)),(p.map (·.1)++l.map (·.key)).Nodup→l.foldl sC p=p++l.map fun x=>(x.key,x.val)
 |[],p,_=>by simp
 |x::l,p,h=>by
  have hx:x.key ∉ p.map (·.1):=fun hm=>by
   rw [lI] at h
   exact h.2.2 _ hm x.key (by simp) rfl
  have aiP: ∀q:List (ByteArray×fq),x.key ∉ q.map (·.1)→fW x.key x.val q=q++[(x.key,x.val)]:=by
   intro q
   induction q with
   |nil=>intro _;rfl
   |cons y q ih=>
    intro hq
    simp only [bh,List.mem_cons,not_or] at hq
    simp only [fW]
    rw [if_neg (fun e=>hq.1 e.symm),ih hq.2]
    rfl
  rw [g9]
  show l.foldl sC (fW x.key x.val p)=_
  rw [aiP p hx,RA l _ (by simpa using h)]
  simp
theorem SM.aeP {s:SM} (hp:s.bH=[]) {st:bZ} {l:List KV} (h:Up l):(s.base st l).as=(l,st)∧(s.base st l).nd:=by
 have hk:(l.map (·.key)).Nodup:=by
  rw [List.Nodup,iK]
  exact h.imp fun rL=>KC rL
 have e:(s.base st l).bH=l.map fun x=>(x.key,x.val):=by
  show l.foldl sC s.bH=_
  rw [hp,RA l [] (by simpa using hk)];rfl
 have py:(s.base st l).nd:=by
  unfold SM.nd
  rw [e,en];exact hk
 refine⟨?_,py⟩
 show((s.base st l).list,st)=_
 obtain⟨u1,u2⟩:=zr py
 rw [Vh u1 h fun x=>by rw [u2,e];exact⟨fun hm=>by
  obtain⟨y,hy,he⟩:=List.mem_map.1 hm
  have h1:=congrArg (·.1) he
  have h2:=congrArg (·.2) he
  simp only at h1 h2
  rw [show x=y from KV.ext h1.symm h2.symm];exact hy,fun hm=>List.mem_map.2 ⟨x,hm,rfl⟩⟩]
structure ade (s s':SM):Prop where
 every:s'.every=s.every
 since:s'.since=s.since
 down:s'.down=s.down
theorem Bp: ∀(rs:List fJ) {s:SM} {a:AS},s.nd→(∀r∈rs,r.ok)→yq s.as rs=some a→ ∃s',Cw (true,s) rs=some (true,s')∧s'.as=a∧s'.nd∧ade s s'
 |[],s,a,hn,_,h=>⟨s,rfl,bK h,hn,⟨rfl,rfl,rfl⟩⟩
 |r::rs,s,a,hn,mQ,h=>by
  obtain⟨b,hb,h2⟩:=Option.bind_eq_some_iff.1 (show(sE s.as r).bind (fun b=>yq b rs)=some a from h)
  have hr:=mQ r (by simp)
  have Pd:=fun q hq=>mQ q (bm _ hq)
  cases r with
  |A p st t l=>
   simp only [sE] at hb
   split at hb
   ·rename_i hp
    obtain rfl:=bK hb
    obtain⟨e1,e2⟩:=SM.VP hn t st l
    have hre:s.wH (fJ.A p st t l).kV=(s.apply t st l,true):=by
     unfold SM.wH
     rw [if_pos (show(fJ.A p st t l).kV.kind=11 from rfl),if_pos (show(fJ.A p st t l).kV.prev=s.high from hp)];rfl
    obtain⟨s',g1,g2,g3,g4⟩:=Bp rs (s:=s.apply t st l) e2 Pd (by rw [e1];exact h2)
    refine⟨s',?_,g2,g3,⟨g4.every,g4.since,g4.down⟩⟩
    show(yn (true,s) _).bind _=_
    unfold yn
    rw [if_pos rfl]
    dsimp only
    rw [hre,if_pos rfl]
    exact g1
   ·cases hb
  |B st l=>
   simp only [sE] at hb
   split at hb
   ·rename_i hp
    obtain rfl:=bK hb
    have hl:l=s.list:=hp.2
    have ix:st=s.high:=hp.1
    have hre:s.wH (fJ.B st l).kV=(s,true):=by
     unfold SM.wH
     rw [if_neg (by simp [fJ.kV,fB])]
     have:zA l s.list=true:=by rw [←hl];exact ZC fun x hx=>((Pc hr.may.2.1).2 x hx).2.1
     show(s,decide (st=s.high)&&zA l s.list)=_
     rw [this,decide_eq_true ix];rfl
    obtain⟨s',g1,g2,g3,g4⟩:=Bp rs hn Pd h2
    refine⟨s',?_,g2,g3,g4⟩
    show(yn (true,s) _).bind _=_
    unfold yn
    rw [if_pos rfl]
    dsimp only
    rw [hre,if_pos rfl]
    exact g1
   ·cases hb
theorem XY: ∀(rs:List fJ) {s:SM} {a0 a:AS},s.bH=[]→(∀r∈rs,r.ok)→(∃r∈rs,r.lW=true)→yq a0 rs=some a→ ∃s',Cw (false,s) rs=some (true,s')∧s'.as=a∧s'.nd∧ade s s'
 |[],_,_,_,_,_,⟨_,h,_⟩,_=>absurd h (by simp)
 |r::rs,s,a0,a,hp,mQ,hB,h=>by
  obtain⟨b,hb,h2⟩:=Option.bind_eq_some_iff.1 (show(sE a0 r).bind (fun b=>yq b rs)=some a from h)
  have hr:=mQ r (by simp)
  have Pd:=fun q hq=>mQ q (bm _ hq)
  cases r with
  |A p st t l=>
   have hB2: ∃r∈rs,r.lW=true:=by
    obtain⟨q,hq,hqb⟩:=hB
    rcases List.mem_cons.1 hq with rfl|hq
    ·cases hqb
    ·exact⟨q,hq,hqb⟩
   obtain⟨s',g1,g2,g3,g4⟩:=XY rs (s:=s) hp Pd hB2 h2
   refine⟨s',?_,g2,g3,g4⟩
   show(yn (false,s) _).bind _=_
   unfold yn
   rw [if_neg (by simp)]
   exact g1
  |B st l=>
   simp only [sE] at hb
   split at hb
   ·rename_i hq
    obtain rfl:=bK hb
    obtain⟨e1,e2⟩:=SM.aeP hp (st:=st) (Pc hr.may.2.1).1
    have ea:(s.base st l).as=a0:=by rw [e1,hq.1,hq.2]
    obtain⟨s',g1,g2,g3,g4⟩:=Bp rs (s:=s.base st l) e2 Pd (by rw [ea];exact h2)
    refine⟨s',?_,g2,g3,⟨g4.every,g4.since,g4.down⟩⟩
    show(yn (false,s) _).bind _=_
    unfold yn
    rw [if_neg (by simp)]
    exact g1
   ·cases hb
structure yr (l:List cj) (f:Nat) (rs:List fJ) (a:AS):Prop where
 fst:lD l=some f
 kV:fy l=rs.map fJ.enc
 ok: ∀r∈rs,r.ok
 ZM: ∃a0,yq a0 rs=some a∧(f=1→a0=([],.zero))
 base:f≠1→ ∃r∈rs,r.lW=true
theorem yr.plus {l l':List cj} {f:Nat} {rs:List fJ} {a b:AS} {r:fJ} (h:yr l f rs a) (hf:lD l'=lD l) (hr:fy l'=fy l++[r.enc]) (ok:r.ok) (hs:sE a r=some b):yr l' f (rs++[r]) b:=by
 obtain⟨a0,h1,h2⟩:=h.ZM
 refine⟨hf.trans h.fst,by rw [hr,h.kV,bq];rfl,fun q hq=>?_,⟨a0,?_,h2⟩,fun e=>?_⟩
 ·rcases List.mem_append.1 hq with hq|hq
  ·exact h.ok q hq
  ·simp only [bo] at hq;subst hq;exact ok
 ·rw [Cx,h1]
  show((sE a r).bind fun b=>yq b [])=_
  rw [hs];rfl
 ·obtain⟨q,hq,hb⟩:=h.base e
  exact⟨q,bU _ hq,hb⟩
theorem yr.same {l l':List cj} {f:Nat} {rs:List fJ} {a:AS} (h:yr l f rs a) (hf:lD l'=lD l) (hr:fy l'=fy l):yr l' f rs a:=
 ⟨hf.trans h.fst,hr.trans h.kV,h.ok,h.ZM,h.base⟩
theorem Hy (a b:List cj):fy (a++b)=fy a++fy b:=by simp [fy]
theorem fN.count: ∀{pre:List cj} {s:cj} {f:Nat},fN (pre++[s])→lD (pre++[s])=some f→s.first+s.bY.length=f+(fy (pre++[s])).length
 |[],s,f,_,h=>by
  have:s.first=f:=bK h
  simp [fy,this]
 |t::pre,s,f,hl,h=>by
  have hf:t.first=f:=bK h
  obtain⟨u,r,hu⟩: ∃u r,pre++[s]=u::r:=by
   cases pre with
   |nil=>exact⟨s,[],rfl⟩
   |cons u v=>exact⟨u,v++[s],rfl⟩
  have LL:fN (t::(pre++[s])):=hl
  have h1:u.first=t.first+t.bY.length:=by rw [hu] at LL;exact LL.1
  have:=fN.count (pre:=pre) (s:=s) (f:=u.first) LL.tail (by rw [hu];rfl)
  rw [ef,show fy (t::(pre++[s]))=t.bY++fy (pre++[s])by simp [fy],ae]
  omega
theorem yr.trim {a pre:List cj} {s:cj} {f n:Nat} {rs:List fJ} {B:fJ} {b:AS} (h:yr (a++(pre++[s])) f (rs++[B]) b) (hg:Good (a++(pre++[s]))) (hB:B.lW=true) (hn:n=f+rs.length) (ha:a≠[]→ ∀f',lD (pre++[s])=some f'→f'≤n):
  ∃f' wU,yr (pre++[s]) f' wU b∧wU.length≤rs.length+1:=by
 by_cases XD:a=[]
 ·subst XD
  exact⟨f,_,h,by simp⟩
 ·have ha:=ha XD
  obtain⟨u,r,hu⟩: ∃u r,pre++[s]=u::r:=by
   cases pre with
   |nil=>exact⟨s,[],rfl⟩
   |cons u v=>exact⟨u,v++[s],rfl⟩
  have hfu:lD (pre++[s])=some u.first:=by rw [hu];rfl
  have h1:=h.kV
  rw [Hy] at h1
  have Es:=fN.count (pre:=a++pre) (s:=s) (f:=f) (by simpa using hg.lk) (by simpa using h.fst)
  have lS:=fN.count (pre:=pre) (s:=s) (f:=u.first) hg.lk.suffix hfu
  have hlen:=congrArg aB h1
  rw [ae,aS,ae] at hlen
  rw [show a++pre++[s]=a++(pre++[s])by simp,Hy,ae] at Es
  have Lf:=ha _ hfu
  have Xa:(rs++[B]).map fJ.enc=((rs++[B]).take (fy a).length).map fJ.enc++((rs++[B]).drop (fy a).length).map fJ.enc:=by rw [←bq,ij]
  have lE:fy (pre++[s])=((rs++[B]).drop (fy a).length).map fJ.enc:=by
   rw [←h1] at Xa
   exact(List.append_inj Xa (by simp at hlen⊢;omega)).2
  have dr:(rs++[B]).drop (fy a).length≠[]:=fun e=>by
   have:=congrArg aB e
   simp at this hlen
   omega
  have hBm:B∈(rs++[B]).drop (fy a).length:=by
   have h9:=List.getLast_mem dr
   rw [List.getLast_drop] at h9
   simpa using h9
  have Mj:f<u.first:=by
   cases a with
   |nil=>exact absurd rfl XD
   |cons t a=>
    have hf:t.first=f:=bK h.fst
    have:=fN.lt hg.lk u (by rw [hu];simp)
    omega
  have Ff:1≤f:=by
   cases a with
   |nil=>exact absurd rfl XD
   |cons t a=>
    have hf:t.first=f:=bK h.fst
    have:=(hg.ok t (by simp)).one
    omega
  obtain⟨a0,h2,h3⟩:=h.ZM
  have hh: ∃a1,yq a1 ((rs++[B]).drop (fy a).length)=some b:=by
   rw [←ij (fy a).length (rs++[B]),Cx] at h2
   obtain⟨a1,_,h4⟩:=Option.bind_eq_some_iff.1 h2
   exact⟨a1,h4⟩
  obtain⟨a1,h4⟩:=hh
  refine⟨u.first,_,⟨hfu,lE,fun q hq=>h.ok q (iE hq),⟨a1,h4,fun e=>by omega⟩,fun _=>⟨B,hBm,hB⟩⟩,by simp⟩
structure Au (wt:Nat) (s:SM):Prop where
 pi:Co wt s.bH
 pw:vY s.bH≤wt
 num: ∀y∈s.bH,y.2.num<18446744073709551616
 may:s.high.may=true
theorem Au.up {wt OU:Nat} {s:SM} (h:Au wt s) (hw:wt≤OU):Au OU s:=⟨⟨h.pi.nd,h.pi.zq,ah h.pi.len hw⟩,ah h.pw hw,h.num,h.may⟩
theorem Au.re {wt:Nat} {s s':SM} (h:Au wt s) (ha:s'.as=s.as) (hn:s'.nd):Au wt s':=by
 have hl:s'.list=s.list:=congrArg Prod.fst ha
 have hh:s'.high=s.high:=congrArg rC ha
 have hm: ∀y∈s'.bH,y∈s.bH:=fun y hy=>by
  have:=((zr hn).2 ⟨y.1,y.2⟩).2 hy
  rw [hl] at this
  exact((zr h.pi.nd).2 _).1 this
 have hpw:vY s'.bH≤wt:=by rw [←Ai hn,hl,Ai h.pi.nd];exact h.pw
 have hlen:s'.bH.length=s'.list.length:=by
  unfold SM.list
  rw [aS,(nB _).length_eq,aS]
 refine⟨⟨hn,fun y hy=>h.pi.zq y (hm y hy),?_⟩,hpw,fun y hy=>h.num y (hm y hy),by rw [hh];exact h.may⟩
 rw [hlen,hl]
 have:=Cs s.list
 rw [Ai h.pi.nd] at this
 exact ah this h.pw
structure Nd (wt:Nat) (s:SM) (x:LD) (pre:List cj) (sg:cj) (f:Nat) (rs:List fJ):Prop where
 up:oP x pre sg
 dir:x.L.dir=mV
 held:yr (pre++[sg]) f rs s.as
 sm:Au wt s
 dn:s.down=false
theorem Nd.as {wt:Nat} {s s':SM} {x:LD} {pre:List cj} {sg:cj} {f:Nat} {rs:List fJ} (h:Nd wt s x pre sg f rs) (hp:s'.bH=s.bH) (hh:s'.high=s.high) (hd:s'.down=false):Nd wt s' x pre sg f rs:=by
 have ha:s'.as=s.as:=by unfold SM.as;rw [XP hp,hh]
 exact⟨h.up,h.dir,by rw [ha];exact h.held,h.sm.re ha (by unfold SM.nd;rw [hp];exact h.sm.pi.nd),hd⟩
theorem Nd.fc {wt:Nat} {s:SM} {x:LD} {pre:List cj} {sg:cj} {f:Nat} {rs:List fJ} {r:fJ} {b:AS} (h:Nd wt s x pre sg f rs) (ok:r.ok) (hs:sE s.as r=some b):
  ((x.fc 0 r.enc).2.2=12∧yp mV (fun l=> ∃wU,wU.length≤rs.length+1∧(yr l f wU s.as∨yr l f wU b)) (x.fc 0 r.enc).1.m)∨
  ((x.fc 0 r.enc).2.2=0∧(x.fc 0 r.enc).2.1=f+rs.length∧ ∃gN tz,oP (x.fc 0 r.enc).1 gN tz∧(x.fc 0 r.enc).1.L.dir=mV∧(x.fc 0 r.enc).1.L.room=x.L.room∧yr (gN++[tz]) f (rs++[r]) b∧
   ((gN=pre∧tz=sg.plus r.enc∧ ¬x.L.room≤sg.size)∨(gN=pre++[sg]∧tz=⟨x.L.next,[r.enc],(du r.enc).length⟩∧x.L.room≤sg.size)))∨
  ((x.fc 0 r.enc).2.2≠0∧(x.fc 0 r.enc).2.2≠12∧(∃gN tz,Nd wt s (x.fc 0 r.enc).1 gN tz f rs∧(x.fc 0 r.enc).1.L.room=x.L.room)∧(99999999<x.L.next∨(64≤x.m.fs.length∧x.L.room≤sg.size)∨4194304<x.m.sz+(du r.enc).length)):=by
 have Nf:=fN.count h.up.g.lk h.held.fst
 rw [h.held.kV,aS] at Nf
 rcases h.up.fc ok.M8 (Qw r)with⟨e,hf⟩|⟨e,gQ,gN,s',hk,hr,G5⟩|⟨e1,e2,⟨gN,s',hk,hr⟩,hw⟩
 ·left
  rw [h.dir] at hf
  refine⟨e,hf.imp fun l hl=>?_⟩
  rcases hl.2 with h2|h2
  ·exact⟨rs,Nat.le_succ _,.inl (h.held.same hl.1 h2)⟩
  ·exact⟨rs++[r],by simp,.inr (h.held.plus hl.1 h2 ok hs)⟩
 ·right;left
  exact⟨e,by rw [gQ,h.up.next];exact Nf,gN,s',hk.up,hk.dir.trans h.dir,hk.room,h.held.plus hk.fst hr ok hs,G5⟩
 ·right;right
  exact⟨e1,e2,⟨gN,s',⟨hk.up,hk.dir.trans h.dir,h.held.same hk.fst hr,h.sm,h.dn⟩,hk.room⟩,hw⟩
theorem fN.has: ∀{l:List cj} {f k:Nat} {p:List Nat},fN l→lD l=some f→(fy l)[k]? =some p→ ∃(j:Nat) (s:cj),l[j]? =some s∧s.first≤f+k∧(∀(i:Nat) (t:cj),j<i→l[i]? =some t→f+k<t.first)∧s.bY[f+k-s.first]? =some p
 |[],_,_,_,_,h,_=>by cases h
 |s::l,f,k,p,hl,h,hk=>by
  have hf:s.first=f:=bK h
  have hr:fy (s::l)=s.bY++fy l:=by simp [fy]
  rw [hr] at hk
  by_cases dh:k<s.bY.length
  ·rw [List.getElem?_append_left dh] at hk
   refine⟨0,s,rfl,by omega,fun i t hi ht=>?_,by rw [hf,rM];exact hk⟩
   cases i with
   |zero=>omega
   |succ i=>
    rw [nF] at ht
    cases l with
    |nil=>cases ht
    |cons u r=>
     have h1:=hl.1
     have hm:=bg ht
     rcases List.mem_cons.1 hm with rfl|hm
     ·omega
     ·have:=hl.tail.lt t hm
      omega
  ·rw [qa (by omega)] at hk
   cases l with
   |nil=>simp [fy] at hk
   |cons u r=>
    have h1:=hl.1
    obtain⟨j,q,h2,h3,h4,h5⟩:=fN.has (l:=u::r) (f:=u.first) hl.tail rfl hk
    have e:u.first+(k-s.bY.length)=f+k:=by omega
    rw [e] at h3 h4 h5
    exact⟨j+1,q,by rw [nF];exact h2,h3,fun i t hi ht=>by
     cases i with
     |zero=>omega
     |succ i=>rw [nF] at ht;exact h4 i t (by omega) ht,h5⟩
theorem adf {pre:List cj} {s:cj} {kB:List Nat} {sf f sz:Nat} {m:DM} {rs:List fJ} {a:AS} {every:Int} (h:nG mV pre s kB sf m) (hg:Good (pre++[s])) (ht:kQ kB=none) (h0:m.ar=0) (hd:m.dn=false) (eu:m.sz≤4194304) (hr:sz≤262144)
  (hh:yr (pre++[s]) f rs a):
  ∃m' s',LD.wc mV sz m=(⟨⟨mV,sz,pre++[s],(s.first+s.bY.length:Nat)-1⟩,m'⟩,0)∧nG mV pre s [] (flat s.bY).length m'∧m'.ar=0∧m'.dn=false∧Holds ⟨mV,sz,pre++[s],(s.first+s.bY.length:Nat)-1⟩ f rs∧
   Cw (decide ((f:Int)=1),iA every) rs=some (true,s')∧s'.as=a∧s'.nd∧ade (iA every) s':=by
 obtain⟨m',e,h1,h2,h3⟩:=ags (room:=sz) h hg ht h0 hd
 have Nf:=fN.count hg.lk hh.fst
 rw [hh.kV,aS] at Nf
 have iq: ∀t∈pre++[s],(flat t.bY).length≤4194304:=fun t qd=>by
  rcases List.mem_append.1 qd with qd|qd
  ·exact ah (DM.wS (h.body t qd)) eu
  ·simp only [bo] at qd;subst qd
   have:=DM.wS h.last
   rw [ae] at this
   omega
 have U6:j9 ⟨mV,sz,pre++[s],(s.first+s.bY.length:Nat)-1⟩:=by
  refine⟨by simp,(show 1≤mV.size from by decide),(show mV.size≤11 from by decide),fun t qd=>?_,by show sz≤_;omega⟩
  have h4:=(hg.ok t qd)
  have h5:=iq t qd
  have h6:=h4.top
  rw [h4.sz]
  omega
 have VB:Holds ⟨mV,sz,pre++[s],(s.first+s.bY.length:Nat)-1⟩ f rs:=by
  refine⟨U6,?_,?_,fun k r hr=>?_⟩
  ·obtain⟨u,r,hu⟩: ∃u r,pre++[s]=u::r:=by
    cases pre with
    |nil=>exact⟨s,[],rfl⟩
    |cons u v=>exact⟨u,v++[s],rfl⟩
   have hf:=hh.fst
   rw [hu] at hf
   exact⟨u,r,hu,bK hf⟩
  ·show(⟨mV,sz,pre++[s],_⟩:LM).next=_
   unfold LM.next
   rw [zt]
   exact Nf
  ·exact fN.has hg.lk hh.fst (by rw [hh.kV,dQ,hr];rfl)
 obtain⟨a0,g1,g2⟩:=hh.ZM
 by_cases Ff:f=1
 ·have ea:(iA every).as=a0:=by
   rw [g2 Ff]
   unfold SM.as iA SM.list
   simp [gu]
  obtain⟨s',k1,k2,k3,k4⟩:=Bp rs (s:=iA every) (a:=a) (by simp [SM.nd,iA]) hh.ok (by rw [ea];exact g1)
  refine⟨m',s',e,h1,h2,h3,VB,?_,k2,k3,k4⟩
  rw [decide_eq_true (by omega)];exact k1
 ·obtain⟨s',k1,k2,k3,k4⟩:=XY rs (s:=iA every) (a0:=a0) (a:=a) rfl hh.ok (hh.base Ff) g1
  refine⟨m',s',e,h1,h2,h3,VB,?_,k2,k3,k4⟩
  rw [decide_eq_false (by omega)];exact k1
end Go.Proofs.YtpdkoaklobnegaaGreat
namespace Go.Proofs.YtpdkoaklobnegaaGreat
open Go.Proofs.Tryz renaming prog → pg
open Go.fR
set_option maxRecDepth 100000
theorem nG.sz' {dir:ByteArray} {pre:List cj} {s:cj} {sf:Nat} {m:DM} (h:nG dir pre s [] sf m):m.sz=((pre++[s]).map fun t=>(flat t.bY).length).sum:=by
 have e1:m.fs.map (fun x=>x.2.1.length)=m.ks.map fun k=>(m.bytes k).length:=by
  unfold DM.ks
  rw [en]
  refine fG fun x hx=>?_
  have:=qg h.nd (k:=x.1) (a:=x.2) hx
  show x.2.1.length=(m.bytes x.1).length
  unfold DM.bytes DM.get
  rw [this];rfl
 have e2:=(h.ks.map fun k=>(m.bytes k).length).sum_nat
 rw [←e1,en] at e2
 refine e2.trans (congrArg List.sum (fG fun t ht=>?_))
 show(m.bytes (bG dir t.first)).length=_
 rcases List.mem_append.1 ht with ht|ht
 ·rw [sD (h.body t ht)]
 ·simp only [bo] at ht;subst ht
  rw [sD h.last,cp]
structure yt (T:Nat) (pre:List cj) (sg:cj):Prop where
 full: ∀t∈pre,4096≤t.size
 head: ∀t,(pre++[sg]).head? =some t→t.size≤266251
 tail:((pre++[sg]).tail.map (·.size)).sum≤T
theorem agv {l:List cj} (h: ∀t∈l,4096≤t.size):l.length*4096≤(l.map (·.size)).sum:=by
 induction l with
 |nil=>simp
 |cons t l ih=>
  have h1:=h t (by simp)
  have h2:=ih fun u hu=>h u (bm _ hu)
  simp only [bC,bh,eZ]
  omega
theorem yt.len {T:Nat} {pre:List cj} {sg:cj} (h:yt T pre sg):pre.length*4096≤T+4096:=by
 cases pre with
 |nil=>simp
 |cons t pre=>
  have h1:=agv (l:=pre) fun u hu=>h.full u (bm _ hu)
  have h2:=h.tail
  rw [ef,pZ,bq,pt] at h2
  rw [bC]
  omega
theorem yt.sum {T:Nat} {pre:List cj} {sg:cj} (h:yt T pre sg):((pre++[sg]).map (·.size)).sum≤T+266251:=by
 cases hp:pre++[sg] with
 |nil=>simp
 |cons t r=>
  have h1:=h.head t (by rw [hp];rfl)
  have h2:=h.tail
  rw [hp,pZ] at h2
  rw [bh,eZ]
  omega
theorem yt.plus {T:Nat} {pre:List cj} {sg:cj} {p:List Nat} (h:yt T pre sg) (hp:p.length≤262144) (hs: ¬4096≤sg.size):yt (T+(du p).length) pre (sg.plus p):=by
 have hl:=nA p
 refine⟨h.full,fun t ht=>?_,?_⟩
 ·cases pre with
  |nil=>
   obtain rfl:=bK ht
   show sg.size+(du p).length≤_
   omega
  |cons u r=>exact h.head t ht
 ·have h2:=h.tail
  cases pre with
  |nil=>simp
  |cons u r=>
   rw [ef,pZ,bq,pt] at h2⊢
   simp at h2⊢
   omega
theorem yt.more {T n:Nat} {pre:List cj} {sg:cj} {p:List Nat} (h:yt T pre sg) (hs:4096≤sg.size):yt (T+(du p).length) (pre++[sg]) ⟨n,[p],(du p).length⟩:=by
 refine⟨fun t ht=>?_,fun t ht=>?_,?_⟩
 ·rcases List.mem_append.1 ht with ht|ht
  ·exact h.full t ht
  ·simp only [bo] at ht;subst ht;exact hs
 ·refine h.head t ?_
  cases pre with
  |nil=>exact ht
  |cons u r=>exact ht
 ·have h2:=h.tail
  cases pre with
  |nil=>simp
  |cons u r=>
   simp only [ef,pZ,bq,pt] at h2⊢
   simp at h2⊢
   omega
theorem yt.up {T T':Nat} {pre:List cj} {sg:cj} (h:yt T pre sg) (hT:T≤T'):yt T' pre sg:=⟨h.full,h.head,ah h.tail hT⟩
theorem abe {prev st:bZ} {t:gM} {l:List KV} (h: ∀x∈l,g8 x.key=true∧x.val.may=true):(iv (eH prev st t l)).length≤7*ia l+110:=by
 have h1:=ee (eH prev st t l).kind
 have h2:=ja prev
 have h3:=ja st
 have h4:=tX t
 have h5:=ee ((l.length:Nat):Int)
 have h6:=Sw l h
 unfold iv eH gA at*
 simp only [ae] at*
 omega
theorem Ng {s:bZ} (h:s.may=true):An s:=by
 unfold bZ.may at h
 simp only [aG,decide_eq_true_eq] at h
 unfold An Ab
 omega
theorem aeQ {g:gR} (ha:iJ g.prev g.br g.dH g.writes=true) (ht:Gq g.dH) (hn: ∀y∈g.writes,y.val.num<18446744073709551616) (hw:ia g.writes≤20000):(fJ.A g.prev g.br g.dH g.writes).ok:=by
 obtain⟨m1,m2,m3⟩:=vZ ha
 have hp:g.prev.may=true:=by
  unfold iJ at ha
  simp only [aG] at ha
  exact ha.1.1.1
 refine⟨⟨ha,Ng hp,Ng m1,ht⟩,fun x hx=>⟨?_,(m3 x hx).2,hn x hx⟩,by show g.writes.length≤_;omega,fun x hx=>?_,Rl m3 hw,Qw (.A g.prev g.br g.dH g.writes)⟩
 ·have:=(m3 x hx).1
  unfold g8 at this
  simp only [aG,decide_eq_true_eq] at this
  omega
 ·have:=(m3 x hx).1
  unfold g8 at this
  simp only [aG,decide_eq_true_eq] at this
  omega
theorem XZ {wt:Nat} {s:SM} (h:Au wt s) (hw:wt≤20000):(fJ.B s.high s.list).ok:=by
 obtain⟨p1,p2,p3,p4⟩:=h.pi.list
 have hm: ∀x∈s.list,(x.key,x.val)∈s.bH:=fun x hx=>((zr h.pi.nd).2 x).1 hx
 have hwl:ia s.list≤20000:=by rw [Ai h.pi.nd];exact ah h.pw hw
 refine⟨⟨h.may,p1,Ng h.may⟩,fun x hx=>⟨by have:=p2 x hx;omega,(h.pi.zq _ (hm x hx)).2.1,h.num _ (hm x hx)⟩,by show s.list.length≤_;omega,fun x hx=>by have:=p2 x hx;omega,aaZ (fun x hx=>⟨(h.pi.zq _ (hm x hx)).1,(h.pi.zq _ (hm x hx)).2.1⟩) hwl,Qw (.B s.high s.list)⟩
structure oJ (n wt:Nat) (every:Int) (s:SM) (x:LD) (pre:List cj) (sg:cj) (f:Nat) (rs:List fJ):Prop where
 inv:Nd wt s x pre sg f rs
 gl:GL (1+2*n) x
 ev:s.every=every
 si:0≤s.since∧s.since≤n
 dl:s.done.length≤2*n
 rl:rs.length≤2*n
 rm:x.L.room=4096
 wd:yt (7*wt+122*n) pre sg
section
variable {n wt : Nat} {every : Int} {s : SM} {x : LD} {pre : List cj} {sg : cj} {f : Nat} {rs : List fJ}
theorem oJ.up {n' OU:Nat} (h:oJ n wt every s x pre sg f rs) (hn:n≤n') (hw:wt≤OU):oJ n' OU every s x pre sg f rs:=
 ⟨⟨h.inv.up,h.inv.dir,h.inv.held,h.inv.sm.up hw,h.inv.dn⟩,h.gl.up (by omega),h.ev,by have:=h.si;omega,by have:=h.dl;omega,by have:=h.rl;omega,h.rm,h.wd.up (by omega)⟩
theorem oJ.fits (h:oJ n wt every s x pre sg f rs) (hn:n≤200) (hw:wt≤20000) {p:List Nat} (hp:p.length≤262144): ¬(99999999<x.L.next∨(64≤x.m.fs.length∧x.L.room≤sg.size)∨4194304<x.m.sz+(du p).length):=by
 have h1:=h.wd.len
 have h2:=h.wd.sum
 have h3:=nA p
 have h4:=h.inv.up.d.ks.length_eq
 rw [DM.oo,aS,ae,jj] at h4
 have h5:=h.inv.up.d.sz'
 have h6:(pre++[sg]).map (fun t=>(flat t.bY).length)=(pre++[sg]).map (·.size):=fG fun t ht=>((h.inv.up.g.ok t ht).sz).symm
 rw [h6] at h5
 have h7:=(h.gl.qx sg (by rw [h.inv.up.bR];simp)).1
 have h8:=h.inv.up.next
 omega
end
theorem Pe {Q:fq→Prop} : ∀(l:List KV) (p:List (ByteArray×fq)),(∀y∈p,Q y.2)→(∀x∈l,Q x.val)→ ∀y∈l.foldl fM p,Q y.2
 |[],p,h,_=>h
 |x::l,p,h,hl=>by
  refine Pe l (fM p x) (fun y hy=>?_) fun z hz=>hl z (bm _ hz)
  unfold fM at hy
  split at hy
  ·exact h y ((kP).subset hy)
  ·rcases(M9 (p:=p) (k:=x.key) (v:=x.val)).2 y hy with hy|rfl
   ·exact h y hy
   ·exact hl x (by simp)
def ZN (a:AS) (g:gR):AS:=if g.asks&&(decide (g.kind=12)&&decide (g.br.cmp a.2>0)&&decide (g.prev=a.2))then(g.writes.foldl s4 a.1,g.br)else a
section
variable {n wt : Nat} {every : Int} {s : SM} {x : LD} {pre : List cj} {sg : cj} {f : Nat} {rs : List fJ}
theorem Au.apply (h:Au wt s) {g:gR} (ha:iJ g.prev g.br g.dH g.writes=true) (hn: ∀y∈g.writes,y.val.num<18446744073709551616) (z:Int):
  Au (wt+ia g.writes) { s.apply g.dH g.br g.writes with since:=z } :=by
 obtain⟨m1,m2,m3⟩:=vZ ha
 have h1:=JR g.writes h.pi m3
 have h2:=M4 g.writes s.bH
 have h3:=Cs g.writes
 have h4:=h.pw
 refine⟨⟨h1.nd,h1.zq,ah h1.len (by omega)⟩,?_,Pe (Q:=fun v=>v.num<18446744073709551616) g.writes s.bH h.num hn,m1⟩
 show vY (g.writes.foldl fM s.bH)≤_
 omega
theorem oJ.step (h:oJ n wt every s x pre sg f rs) (hn:n<200) {g:gR} (hw:wt+ia g.writes≤20000) (ht:Gq g.dH) (P4: ∀y∈g.writes,y.val.num<18446744073709551616):
  ∃gN tz f' wU,oJ (n+1) (wt+ia g.writes) every (uI s x g).1 (uI s x g).2 gN tz f' wU∧(uI s x g).1.as=ZN s.as g:=by
 have eF:s.zz g=(decide (g.kind=12)&&decide (g.br.cmp s.as.2>0)&&decide (g.prev=s.as.2)):=rfl
 unfold uI ZN
 rw [←eF]
 cases hc:g.asks&&s.zz g with
 |false=>
  rw [if_neg iu,if_neg iu]
  exact⟨pre,sg,f,rs,h.up (by omega) (by omega),rfl⟩
 |true=>
  rw [if_pos rfl,if_pos rfl]
  simp only [aG] at hc
  obtain⟨ha,hf⟩:=hc
  simp only [SM.zz,aG,decide_eq_true_eq] at hf
  have vj:=gR.GH ha hf.1.1
  have ok:=aeQ vj ht P4 (by omega)
  have ix:sE s.as (.A g.prev g.br g.dH g.writes)=some (g.writes.foldl s4 s.as.1,g.br):=by
   simp only [sE]
   rw [if_pos (show g.prev=s.as.2 from hf.2)]
  obtain⟨k1,k2⟩:=h.gl.fc (fJ.A g.prev g.br g.dH g.writes).enc
  rcases h.inv.fc ok ix with⟨e,_⟩|⟨e,gQ,gN,tz,hu,hd,hr,hh,G5⟩|⟨_,_,_,adg⟩
  ·exact absurd e k1
  ·have eK:(fJ.A g.prev g.br g.dH g.writes).enc=iv (eH g.prev g.br g.dH g.writes):=rfl
   rw [eK] at e hu hd hr k2 G5
   dsimp only
   rw [if_pos e]
   obtain⟨e1,e2⟩:=SM.VP h.inv.sm.pi.nd g.dH g.br g.writes
   have e3:({ s.apply g.dH g.br g.writes with since:=s.since+1 } :SM).as=(g.writes.foldl s4 s.list,g.br):=e1
   have QB:=h.si
   have tq:=h.dl
   have BJ:=h.rl
   have sL:=abe (prev:=g.prev) (st:=g.br) (t:=g.dH) (vZ vj).2.2
   have iq:=nA (iv (eH g.prev g.br g.dH g.writes))
   have Dh:=ok.M8
   rw [eK] at Dh
   refine⟨gN,tz,f,_,⟨⟨hu,hd,by rw [e3];exact hh,h.inv.sm.apply vj P4 _,h.inv.dn⟩,k2,h.ev,by show 0≤s.since+1∧s.since+1≤_;omega,?_,by simp;omega,hr.trans h.rm,?_⟩,e3⟩
   ·show(s.done++[_]).length≤_
    simp;omega
   ·rw [h.rm] at G5
    rcases G5 with⟨rfl,rfl,hs⟩|⟨rfl,rfl,hs⟩
    ·exact(h.wd.plus Dh hs).up (by omega)
    ·exact(h.wd.more hs).up (by omega)
  ·exact absurd adg (h.fits (by omega) (by omega) ok.M8)
theorem oJ.tick {K:Nat} (h:oJ n wt every s x pre sg f rs) (hn:n<200) (hw:wt≤20000) (hK:1000≤K): ∃gN tz f' wU,oJ (n+1) wt every (pr s x K).1 (pr s x K).2 gN tz f' wU∧(pr s x K).1.as=s.as:=by
 unfold pr
 cases hi:s.idle with
 |true=>
  rw [if_pos rfl]
  exact⟨pre,sg,f,rs,h.up (by omega) (bp _),rfl⟩
 |false=>
  rw [if_neg iu]
  have ok:=XZ h.inv.sm hw
  have ix:sE s.as (.B s.high s.list)=some s.as:=by
   simp only [sE]
   rw [if_pos ⟨rfl,rfl⟩]
  obtain⟨k1,k2⟩:=h.gl.fc (fJ.B s.high s.list).enc
  rcases h.inv.fc ok ix with⟨e,_⟩|⟨e,gQ,gN,tz,hu,hd,hr,hh,G5⟩|⟨_,_,_,adg⟩
  ·exact absurd e k1
  ·have eK:(fJ.B s.high s.list).enc=gG (fB s.high s.list):=rfl
   have Dh:=ok.M8
   rw [eK] at e hu hd hr k2 G5 gQ Dh
   dsimp only
   rw [if_pos e]
   have iq:=nA (gG (fB s.high s.list))
   have gV:=k2.trim (below:=(x.fc 0 (gG (fB s.high s.list))).2.1) (K:=K)
   have hlen:=k2.len
   rw [hu.bR,ae,jj] at hlen
   have Nf:=fN.count hu.g.lk hh.fst
   rw [hh.kV,aS,ae,jj] at Nf
   rcases hu.trim (below:=(x.fc 0 (gG (fB s.high s.list))).2.1) (K:=K)with⟨e2,_⟩|⟨e2,a,J6,g1,g2,g3,g4,g5,g6⟩
   ·exact absurd e2 gV.1
   ·rw [g1] at hh
    have hg:Good (a++(J6++[tz])):=by rw [←g1];exact hu.g
    obtain⟨f',wU,hh2,ajL⟩:=hh.trim hg rfl gQ g2
    have dr:1≤tz.bY.length:=by
     rcases G5 with⟨rfl,rfl,_⟩|⟨rfl,rfl,_⟩
     ·simp [cj.plus]
     ·simp
    have hp2:J6=[]:=g6 (by omega) (by omega)
    subst hp2
    have QB:=h.si
    have tq:=h.dl
    have BJ:=h.rl
    have ku:Au wt { s with since:=0 } :=⟨h.inv.sm.pi,h.inv.sm.pw,h.inv.sm.num,h.inv.sm.may⟩
    refine⟨[],tz,f',wU,⟨⟨g3,g4.trans hd,hh2,ku,h.inv.dn⟩,gV.2,h.ev,by show(0:Int)≤0∧(0:Int)≤_;omega,by show s.done.length≤_;omega,by omega,(g5.trans hr).trans h.rm,⟨by simp,fun t ht=>?_,by simp⟩⟩,rfl⟩
    obtain rfl:=bK ht
    rw [h.rm] at G5
    rcases G5 with⟨rfl,rfl,hs⟩|⟨rfl,rfl,hs⟩
    ·show sg.size+(du _).length≤_
     omega
    ·show(du _).length≤_
     omega
  ·exact absurd adg (h.fits (by omega) (by omega) ok.M8)
theorem VQ: ∀(rs:List fJ) {k:Nat} {x y:Bool×SM},O7 k x.2→(∀r∈rs,r.ok)→Cw x rs=some y→O7 (k+rs.length) y.2
 |[],k,x,y,h,_,hr=>by obtain rfl:=bK hr;exact h
 |r::rs,k,x,y,h,ok,hr=>by
  obtain⟨z,hz,h2⟩:=Option.bind_eq_some_iff.1 (show(yn x r).bind (fun y=>Cw y rs)=some y from hr)
  have:=VQ rs (h.rep (ok r (by simp)) hz) (fun q hq=>ok q (bm _ hq)) h2
  rw [bC,show k+(rs.length+1)=k+1+rs.length by omega]
  exact this
theorem oJ.open (h:oJ n wt every s x pre sg f rs) (hn:n<200) (hw:wt≤20000): ∃m' s' L',LD.wc mV 4096 (x.m.mL [])=(⟨L',m'⟩,0)∧Holds L' f rs∧(∀r∈rs,r.ok)∧rs.length≤2^12∧Cw (decide ((f:Int)=1),iA every) rs=some (true,s')∧
  oJ (n+1) wt every s' ⟨L',m'⟩ pre sg f rs∧s'.as=s.as∧(∀n,lW ((x.m.mL []).bytes n))∧(x.m.mL []).fs.length≤64∧(∀y∈(x.m.mL []).fs,y.1.size≤2^40):=by
 have B9:=h.inv.up
 obtain⟨k,hk,_,c1,c2,c3⟩:=B9.d.mL (dD:=[]) B9.g
 rw [cp] at hk c3
 have kX:k=0:=by omega
 subst kX
 rw [sB,dV] at c3
 have VR:=B9.d.re (m':=x.m.mL []) c1 (fun t ht=>by rw [c2 t ht,B9.d.body t ht]) rfl (GR:=[]) (by rw [c3,cp]) (by simp)
 rw [h.inv.dir] at VR
 have agw:(x.m.mL []).sz≤4194304:=by rw [VR.sz',←B9.d.sz'];exact B9.sz
 obtain⟨m',s',e,h1,h2,h3,h4,h5,h6,h7,h8⟩:=adf (sz:=4096) (every:=every) VR B9.g Bo rfl rfl agw (by decide) h.inv.held
 have iq:(x.m.mL []).fs.length≤64:=by
  have:=congrArg aB c1
  rw [DM.oo,DM.oo] at this
  rw [this];exact B9.fl
 have BJ:=h.rl
 have agp:m'.fs.length≤64:=by
  have q1:=h1.ks.length_eq
  have q2:=VR.ks.length_eq
  rw [DM.oo] at q1 q2
  omega
 have acn:m'.sz≤4194304:=by rw [h1.sz',←VR.sz'];exact agw
 refine⟨m',s',_,e,h4,h.inv.held.ok,by omega,h5,⟨⟨⟨rfl,B9.g,h1,h3,acn,agp,(show 1≤mV.size from by decide),(show mV.size≤11 from by decide),(by decide:64≤4096),(by decide:4096≤262144)⟩,rfl,by rw [h6];exact h.inv.held,h.inv.sm.re h6 h7,h8.down.trans rfl⟩,?_,h8.every.trans rfl,?_,?_,by omega,rfl,h.wd.up (by omega)⟩,h6,VR.A8 B9.g (fun b hb=>by cases hb),iq,?_⟩
 ·have hg:=h.gl.up (n':=1+2*(n+1)) (by omega)
  refine⟨⟨h2,h3⟩,by simp,(show 1≤mV.size from by decide),(show mV.size≤11 from by decide),fun t ht=>hg.qx t (by rw [B9.bR];exact ht),(by decide:4096≤2^40),by have:=hg.len;rw [B9.bR] at this;exact this⟩
 ·rw [h8.since];show(0:Int)≤0∧(0:Int)≤_;omega
 ·have:=(VQ rs (k:=0) (x:=(_,iA every)) ⟨by simp [iA],by simp [iA],by simp [iA]⟩ h.inv.held.ok h5).done
  show s'.done.length≤_
  have e:(true,s').2.done.length≤0+rs.length:=this
  dsimp only at e
  omega
 ·intro y hy
  have hm:y.1∈(x.m.mL []).ks:=List.mem_map.2 ⟨y,hy,rfl⟩
  obtain⟨t,_,e9⟩:=List.mem_map.1 (VR.ks.mem_iff.1 hm)
  rw [←e9,sh]
  decide
end
end Go.Proofs.YtpdkoaklobnegaaGreat
namespace Go.Proofs.YtpdkoaklobnegaaGreat
open Go.Proofs.Tryz renaming prog → pg
open Go.fR
set_option maxRecDepth 100000
set_option maxHeartbeats 1000000
set_option linter.unusedVariables false
set_option linter.unusedSimpArgs false
attribute [local irreducible] un jn bz aQ aX gL eo dx cr nu fF mO BK AB jc iS aa ay aF eW eV eU eC eF gE ao fin aN aH aI vS BL jB lq wK D9 Ea Eb Ec BM jC lr wL Ed Ee Ef Eg
theorem aeR {P:Program} {X:XS} {w:World} {N:Value→Prop} {t:TypeId} {xo yo:Operand} {a:Bool} (ht:P.underlying t=some .bool) (k:N (.bool true)):aa P X w (aI .eql t xo yo (.bool a) (.bool a)) N:=by
 refine b9 (v:=.bool true) (fun wa=>?_) k
 have:=run_eql_bool (P:=P) (w:=wa) t a a ht
 simp [aI,eqGuard,this]
theorem abf {w:World} {X:XS} :Ct pg 113 #[gf,gf] w X nX fun v _ _=>v=B true:=by
  intro w0 hk
  have h0:Sl w0 (aW w0) 1 gf (([]:List BA).map S1):=Sl.nil _ _ _
  apply N7;unfold CV
  have hs:=aj.init w0
  repeat' first|(with_reducible refine fL ?_ ?_);omega|with_reducible apply ak|(with_reducible apply bS);exact qO;(· kernel_rfl)
  refine fK (fun n a w X=>a=I 0∧aj (aW w0) w0 X w) 0 ⟨rfl,hs⟩ ?_
  clear hs
  rintro n a w X ⟨rfl,hs⟩
  repeat' first|with_reducible (first|apply aD|apply ak)|(with_reducible apply kE<;>intro _)|(with_reducible apply bS);exact qO;(· kernel_rfl)|(exfalso;rename_i h;simp at h;done)
  exact aq hs fun wa aR=>rfl
theorem W2 {w:World} {X:XS} :Ct pg 116 #[gf,gf] w X nX fun v _ _=>v=B true:=by
  intro w0 hk
  have h0:Sl w0 (aW w0) 1 gf (([]:List BA).map S1):=Sl.nil _ _ _
  apply K0;unfold AO
  have hs:=aj.init w0
  repeat' first|(with_reducible refine fL ?_ ?_);omega|with_reducible apply ak|(with_reducible apply bS);exact qO;(· kernel_rfl)
  refine fK (fun n a w X=>a=I 0∧aj (aW w0) w0 X w) 0 ⟨rfl,hs⟩ ?_
  clear hs
  rintro n a w X ⟨rfl,hs⟩
  repeat' first|with_reducible (first|apply aD|apply ak)|(with_reducible apply kE<;>intro _)|(with_reducible apply bS);exact qO;(· kernel_rfl)|(exfalso;rename_i h;simp at h;done)
  exact aq hs fun wa aR=>rfl
theorem abg {w:World} {X:XS} :Ct pg 117 #[gf,gf] w X nX fun v _ _=>v=B true:=by
  intro w0 hk
  have h0:Sl w0 (aW w0) 1 gf (([]:List BA).map S1):=Sl.nil _ _ _
  apply N9;unfold CX
  have hs:=aj.init w0
  repeat' first|(with_reducible refine fL ?_ ?_);omega|with_reducible apply ak|(with_reducible apply bS);exact qO;(· kernel_rfl)
  refine fK (fun n a w X=>a=I 0∧aj (aW w0) w0 X w) 0 ⟨rfl,hs⟩ ?_
  clear hs
  rintro n a w X ⟨rfl,hs⟩
  repeat' first|with_reducible (first|apply aD|apply ak)|(with_reducible apply kE<;>intro _)|(with_reducible apply bS);exact qO;(· kernel_rfl)|(exfalso;rename_i h;simp at h;done)
  exact aq hs fun wa aR=>rfl
theorem ZO {w:World} {X:XS} :Ct pg 112 #[gf,gf] w X nX fun v _ _=>v=B true:=by
  intro w0 hk
  have h0:Sl w0 (aW w0) 1 gf (([]:List BA).map S1):=Sl.nil _ _ _
  apply Mx;unfold BZ
  have hs:=aj.init w0
  repeat' first|(with_reducible refine fL ?_ ?_);omega|with_reducible apply ak|(with_reducible apply bS);exact qO;(· kernel_rfl)
  refine fK (fun n a w X=>a=I 0∧aj (aW w0) w0 X w) 0 ⟨rfl,hs⟩ ?_
  clear hs
  rintro n a w X ⟨rfl,hs⟩
  repeat' first|with_reducible (first|apply aD|apply ak)|(with_reducible apply kE<;>intro _)|(with_reducible apply bS);exact qO;(· kernel_rfl)|(exfalso;rename_i h;simp at h;done)
  exact aq hs fun wa aR=>rfl
theorem W3 {w:World} {X:XS} :Ct pg 114 #[gf,gf] w X nX fun v _ _=>v=B true:=by
  intro w0 hk
  have h0:Sl w0 (aW w0) 1 gf (([]:List BA).map S1):=Sl.nil _ _ _
  apply KZ;unfold AN
  have hs:=aj.init w0
  repeat' first|(with_reducible refine fL ?_ ?_);omega|with_reducible apply ak|(with_reducible apply bS);exact qO;(· kernel_rfl)
  refine fK (fun n a w X=>a=I 0∧aj (aW w0) w0 X w) 0 ⟨rfl,hs⟩ ?_
  clear hs
  rintro n a w X ⟨rfl,hs⟩
  repeat' first|with_reducible (first|apply aD|apply ak)|(with_reducible apply kE<;>intro _)|(with_reducible apply bS);exact qO;(· kernel_rfl)|(exfalso;rename_i h;simp at h;done)
  exact aq hs fun wa aR=>rfl
theorem abh {w:World} {X:XS} :Ct pg 115 #[gf,gf] w X nX fun v _ _=>v=B true:=by
  intro w0 hk
  have h0:Sl w0 (aW w0) 1 gf (([]:List BA).map S1):=Sl.nil _ _ _
  apply N8;unfold CW
  have hs:=aj.init w0
  repeat' first|(with_reducible refine fL ?_ ?_);omega|with_reducible apply ak|(with_reducible apply bS);exact qO;(· kernel_rfl)
  refine fK (fun n a w X=>a=I 0∧aj (aW w0) w0 X w) 0 ⟨rfl,hs⟩ ?_
  clear hs
  rintro n a w X ⟨rfl,hs⟩
  repeat' first|with_reducible (first|apply aD|apply ak)|(with_reducible apply kE<;>intro _)|(with_reducible apply bS);exact qO;(· kernel_rfl)|(exfalso;rename_i h;simp at h;done)
  exact aq hs fun wa aR=>rfl
theorem Sn {w:World} {X:XS} :Ct pg 182 #[gf,gf] w X nX fun v _ _=>v=B true:=by
  intro w0 hk
  have h0:Sl w0 (aW w0) 1 gf (([]:List BA).map S1):=Sl.nil _ _ _
  apply HS;unfold yM
  have hs:=aj.init w0
  repeat' first|(with_reducible refine fL ?_ ?_);omega|with_reducible apply ak|(with_reducible apply bS);exact qO;(· kernel_rfl)
  refine fK (fun n a w X=>a=I 0∧aj (aW w0) w0 X w) 0 ⟨rfl,hs⟩ ?_
  clear hs
  rintro n a w X ⟨rfl,hs⟩
  repeat' first|with_reducible (first|apply aD|apply ak)|(with_reducible apply kE<;>intro _)|(with_reducible apply bS);exact qO;(· kernel_rfl)|(exfalso;rename_i h;simp at h;done)
  exact aq hs fun wa aR=>rfl
theorem Qy {w:World} {X:XS} :Ct pg 181 #[gf,gf] w X nX fun v _ _=>v=B true:=by
 intro w0 hk
 have h0:Sl w0 (aW w0) 1 gf (([]:List BA).map S1):=Sl.nil _ _ _
 apply FV;unfold xP
 have hs:=aj.init w0
 repeat' first|(with_reducible refine fL ?_ ?_);omega|with_reducible apply ak|(with_reducible apply bS);exact qO;(· kernel_rfl)
 refine iN (fun n a _ w X=>a=I 0∧aj (aW w0) w0 X w) 0 ⟨rfl,hs⟩ ?_
 clear hs
 rintro n a _ w X ⟨rfl,hs⟩
 repeat' first|with_reducible (first|apply aD|apply ak)|(with_reducible apply kE<;>intro _)|(with_reducible apply bS);exact qO;(· kernel_rfl)|(exfalso;rename_i h;simp at h;done)
 exact aq hs fun wa aR=>rfl
abbrev stZ:Value:=.agg #[I 0,I 0,.float .f64 0,.float .f64 0,I 0,I 0,I 0,I 0,I 0,I 0,gf,gf]
theorem ZP {w:World} {X:XS} :Ct pg 118 #[stZ,stZ] w X nX fun v _ _=>v=B true:=by
 intro w0 hk
 apply My;unfold B0
 have hs:=aj.init w0
 refine iO (Oh ⟨0,0,0,0⟩ ⟨0,0,0,0⟩) (by kernel_rfl) hs.has fun w1 X1 au=>?_
 rw [decide_eq_true rfl]
 replace hs:=hs.trans au
 repeat' first|with_reducible (first|apply dz|apply cL|apply cM|apply cu|apply bE|apply bt|apply pD|apply oA)|(with_reducible apply Is);(· kernel_rfl);all_goals intros|with_reducible apply dY|((first|(with_reducible refine aq hs ?_)|(with_reducible refine aq (cg.trans hs) ?_));intro wa hk;rfl)|(exfalso;first|exact ‹¬((0:Int)=0∧(0:Int)=0∧(0:Int)=0)› ⟨rfl,rfl,rfl⟩|contradiction)|((with_reducible refine dt Qy (by kernel_rfl) hs.has fun w X au=>?_);replace hs:=hs.trans au)|((with_reducible refine dt Sn (by kernel_rfl) hs.has fun w X au=>?_);replace hs:=hs.trans au)
theorem Qz {w:World} {X:XS} {to:Int} {st:bZ} :Ct pg 64 #[.agg (su to st).toArray,.agg (su to st).toArray] w X nX fun v _ _=>v=B true:=by
 intro w0 hk
 apply PL;unfold Ew
 have hs:=aj.init w0
 repeat' first|(with_reducible refine m7 ?_ ?_);omega|with_reducible (first|apply dz|apply cL|apply cM|apply cu|apply bE|apply bt|apply pD)|(with_reducible refine Oe _ _ ?_ ?_ ?_);(· kernel_rfl);all_goals intros|(with_reducible apply Is);(· kernel_rfl);all_goals intros|with_reducible apply dY|((first|(with_reducible refine aq hs ?_)|(with_reducible refine aq (cg.trans hs) ?_));intro wa hk;rfl)|(with_reducible refine aeR (by kernel_rfl) ?_)|(exfalso;first|exact ‹¬((0:Int)=0∧(0:Int)=0∧(0:Int)=0)› ⟨rfl,rfl,rfl⟩|contradiction)|((with_reducible refine dt ZO (by kernel_rfl) hs.has fun w X au=>?_);replace hs:=hs.trans au)|((with_reducible refine dt abf (by kernel_rfl) hs.has fun w X au=>?_);replace hs:=hs.trans au)|((with_reducible refine dt W3 (by kernel_rfl) hs.has fun w X au=>?_);replace hs:=hs.trans au)|((with_reducible refine dt abh (by kernel_rfl) hs.has fun w X au=>?_);replace hs:=hs.trans au)|((with_reducible refine dt W2 (by kernel_rfl) hs.has fun w X au=>?_);replace hs:=hs.trans au)|((with_reducible refine dt abg (by kernel_rfl) hs.has fun w X au=>?_);replace hs:=hs.trans au)|((with_reducible refine dt ZP (by kernel_rfl) hs.has fun w X au=>?_);replace hs:=hs.trans au)
theorem Pf {w:World} {X:XS} {a b:Value} {c:Bool} {to:Int} {st:bZ} (ha:Sl w X 36 a (if c then [su to st] else [])) (hb:Sl w X 36 b (if c then [su to st] else [])):
  Ct pg 27 #[a,b] w X nX fun v _ _=>v=B true:=by
 intro w0 hk
 replace ha:=ha.mv hk.dA
 replace hb:=hb.mv hk.dA
 apply NU;unfold CJ
 have hs:=aj.init w0
 obtain⟨l,hl⟩: ∃l:List Unit,(if c then [su to st] else [])=l.map fun _=>su to st:=by
  cases c
  ·exact⟨[],rfl⟩
  ·exact⟨[()],rfl⟩
 rw [hl] at ha hb
 have nw:=ha.gW
 repeat' first|(with_reducible refine fL ?_ ?_);omega|with_reducible apply ak|(with_reducible apply bS);exact qO;(· kernel_rfl)
 refine fK (fun n a w X=> ∃i:Nat,a=I i∧n=l.length-i∧i≤l.length∧aj (aW w0) w0 X w) l.length ⟨0,rfl,rfl,aV _,hs⟩ ?_
 clear hs
 rintro n a w X ⟨i,rfl,rfl,hi,hs⟩
 rcases fh l i with⟨dh,x,hx,hd⟩|⟨eI,hd⟩
 ·repeat' first|(with_reducible refine dC ?_ ?_);omega|with_reducible apply aD|(with_reducible apply fP);exact qF;exact qM;(· kernel_rfl);rfl|(with_reducible apply bS);exact qO;(· kernel_rfl)|((with_reducible apply e7);exact qO;(try (case hz=>rfl));(case hr=>exact qR);(try (case hz=>omega));(case ht=>kernel_rfl);(case hs=>kernel_rfl);intro _ _ _)
  refine dt Qz (by kernel_rfl) hs.has fun w1 X1 au=>?_
  replace hs:=hs.trans au
  repeat' first|with_reducible (first|apply ak|apply eY)|(with_reducible apply cx);omega;omega
  exact ga (l.length-(i+1)) (by omega) ⟨i+1,by simp,rfl,by omega,hs⟩
 ·repeat' first|(with_reducible refine dm ?_ ?_);omega|with_reducible apply ak|(with_reducible apply bS);exact qO;(· kernel_rfl)
  exact aq hs fun wa aR=>rfl
section
variable {w : World} {X F S : XS} {nb lb db n wt : Nat} {every : Int} {s : SM} {x : LD} {pre : List cj} {sg : cj} {f : Nat} {rs : List fJ}
theorem Ya {g:gR} {vk vs vw vp vr vc vh vd:Value} (h:jo w F nb lb db s x.L x.m) (hB:oJ n wt every s x pre sg f rs) (hn:n<200) (hw:wt+ia g.writes≤20000) (hF:FX F X w)
  (gQ:g.at w S vk vs vw vp vr vc vh vd) (hS: ∀k,S k→X k∧ ¬F k) (ku:g.small) (QV:g.lens≤2^40) (ht:Gq g.dH) (P4: ∀y∈g.writes,y.val.num<18446744073709551616):
  Ct pg 15 #[ptr nb 0,g.v vk vs vw vp vr vc vh vd] w X F fun v wa w'=> ∃vo F' S' s' x' gN tz f' wU,v= .tuple #[vo,I 0]∧(∀k,F' k→F k∨made wa w' k)∧(∀k,S' k→made wa w' k∧ ¬F' k)∧
   jo w' F' nb lb db s' x'.L x'.m∧Sl w' S' 36 vo (if g.asks then [su g.fr s'.high] else [])∧oJ (n+1) (wt+ia g.writes) every s' x' gN tz f' wU∧s'.as=ZN s.as g:=by
 have q1:=hB.gl.fc (iv (eH g.prev g.br g.dH g.writes))
 have q2:=hB.gl.append (iv (eH g.prev g.br g.dH g.writes))
 have hwl:=Cs g.writes
 have tq:=hB.dl
 have QB:=hB.si
 have mr:=hB.gl.len
 obtain⟨gN,tz,f',wU,OX,has⟩:=hB.step hn hw ht P4
 exact(Ve h (hB.gl.L7 (by omega)) (by omega) hF hB.inv.dn gQ hS ku QV (by omega) (fun y hy=>by have:=Vd hy;omega) (fun vj=>Rl (vZ vj).2.2 (by omega)) (by omega) (by omega) (q2.2.L7 (by omega)) q1.1).mono
  fun v wa w' _ ⟨vo,F',S',h1,h2,h3,h4,h5⟩=>⟨vo,F',S',_,_,gN,tz,f',wU,h1,h2,h3,h4,h5,OX,has⟩
theorem Yb (h:jo w F nb lb db s x.L x.m) (hB:oJ n wt every s x pre sg f rs) (hn:n<200) (hw:wt≤20000) (hF:FX F X w):
  Ct pg 16 #[ptr nb 0] w X F fun v wa w'=> ∃F' s' x' gN tz f' wU,v=I 0∧(∀k,F' k→F k∨made wa w' k)∧
   jo w' F' nb lb db s' x'.L x'.m∧oJ (n+1) wt every s' x' gN tz f' wU∧s'.as=s.as:=by
 have q1:=hB.gl.fc (gG (fB s.high s.list))
 have q2:=hB.gl.append (gG (fB s.high s.list))
 have q3:=q1.2.trim (below:=(x.fc 0 (gG (fB s.high s.list))).2.1) (K:=1000)
 have mr:=hB.gl.len
 have Qs:=q1.2.len
 obtain⟨pl1,pl2,pl3,pl4⟩:=hB.inv.sm.pi.list
 have Dh:=hB.inv.sm.pi.len
 have hbo:=XZ hB.inv.sm hw
 obtain⟨gN,tz,f',wU,OX,has⟩:=hB.tick (K:=1000) hn hw (bp _)
 exact(WK (K:=1000) h (hB.gl.L7 (by omega)) (by omega) hF hB.inv.dn (fun y hy=>by have:=pl4 y hy;omega) (by omega) (by omega) (fun y hy=>by have:=pl2 y hy;omega) hB.inv.sm.may pl1
  hbo.M8 (fun _=>q2.2.L7 (by omega)) (fun _=>q1.1) (fun _=>q1.2.L7 (by omega)) (fun _=>ah Qs (by omega)) (by decide) (fun _=>q3.1)).mono
  fun v wa w' _ ⟨F',h1,h2,h3⟩=>⟨F',_,_,gN,tz,f',wU,h1,h2,h3,OX,has⟩
theorem jo.JG (h:jo w F nb lb db s x.L x.m):Dk w F db x.m:=by
 obtain⟨FN,FG,mb,av,es,hd,h1,h2,h3,FL,FD,sv,bl,g1,g2,g3,g4,g5⟩:=h
 exact g5.mono fun k hk=>h2 k (g3 k hk)
theorem VS (h:Dk w F db x.m) (hB:oJ n wt every s x pre sg f rs) (hF:FX F X w):
  Ct pg 28 #[ptr db 0,.slice none 0 0] w X F fun v wa w'=>v= .tuple #[]∧Dk w' F db (x.m.mL []):=by
 refine Vt (S:=nX) (dD:=[]) h hF (Sl.nil _ _ _) (fun k hk=>hk.elim) (fun y hy=>?_) (by have:=hB.inv.up.fl;omega)
 have hm:y.1∈x.m.ks:=List.mem_map.2 ⟨y,hy,rfl⟩
 obtain⟨t,_,e⟩:=List.mem_map.1 (hB.inv.up.d.ks.mem_iff.1 hm)
 rw [←e,sh]
 have:=hB.inv.up.d2
 omega
theorem Yc (h:Dk w F db (x.m.mL [])) (hB:oJ n wt every s x pre sg f rs) (hn:n<200) (hw:wt≤20000) (Nq:0≤every) (Nr:every≤1000) (hF:FX F X w):
  Ct pg 12 #[ptr db 0,I 4096,I every] w X F fun v wa w'=> ∃nb lb F' s' x',v= .tuple #[ptr nb 0,I 0]∧(∀k,F' k→F k∨made wa w' k)∧
   jo w' F' nb lb db s' x'.L x'.m∧oJ (n+1) wt every s' x' pre sg f rs∧s'.as=s.as:=by
 obtain⟨m',s',L',e,h1,h2,h3,h4,h5,h6,h7,h8,h9⟩:=hB.open hn hw
 refine(WY (sz:=4096) (f:=f) (rs:=rs) (s':=s') h hF h9 (by omega) h7 (by decide) (by decide) Nq Nr (fun _=>?_)).mono fun v wa w' _ ⟨nb,lb,F',g1,g2,g3,g4⟩=>?_
 ·rw [e];exact⟨h1,h2,h3,h4⟩
 ·rw [e] at g1 g3 g4
  exact⟨nb,lb,F',s',⟨L',m'⟩,by rw [g1,if_pos rfl];rfl,g2,g4 rfl,h5,h6⟩
end
def BB (n wt:Nat) (p q:Int) (w0 w:World) (X:XS) (d1 d2:Nat) (v1 v2:Value):Prop:=
 ∃F1 F2 n1 l1 n2 l2 s1 x1 s2 x2 VT sg1 f1 rs1 J6 sg2 f2 rs2,v1=ptr n1 0∧v2=ptr n2 0∧Dj F1 F2∧Ft w0 nX w X (fun k=>F1 k∨F2 k)∧jo w F1 n1 l1 d1 s1 x1.L x1.m∧jo w F2 n2 l2 d2 s2 x2.L x2.m∧
  oJ n wt p s1 x1 VT sg1 f1 rs1∧oJ n wt q s2 x2 J6 sg2 f2 rs2∧s1.as=s2.as
theorem wV {F1 F2 F' X:XS} {w wa w':World} (h:Dj F1 F2) (hF:FX F2 X w) (hle:w.heap.size≤wa.heap.size) (pB: ∀k,F' k→F1 k∨made wa w' k):Dj F' F2:=fun k a b=>(pB k a).elim (fun a=>h k a b) fun m=>by
 have:=(hF k b).2;have:=m.1;omega
theorem abi {l:List ot} {i:Nat} {x:ot} (hx:l[i]? =some x):rB (l.take (i+1))=rB (l.take i)+(ia x.m.writes+1):=by rw [dI,hx];simp [rB]
theorem Yd (l:List ot) (i:Nat):rB (l.take i)≤rB l:=by
 have h:=congrArg rB (ij i l)
 have e:rB (l.take i++l.drop i)=rB (l.take i)+rB (l.drop i):=by unfold rB;rw [bq,pt]
 rw [e] at h;omega
theorem ahw:oP (x0 4096) [] ⟨1,[],0⟩:=by
 obtain⟨_,g2,g3,g4,g5⟩:=Bu 4096
 have hL:=acQ 4096
 have hm:(x0 4096).m=(Cq.create (bG oH 1)).1:=rfl
 have wu:(x0 4096).m.get (bG oH 1)=some ([],0):=by
  rw [hm]
  have hn:rq (bG oH 1)=true:=by simp only [rq,sh,decide_eq_true_eq];decide
  have e:Cq.create (bG oH 1)=(Cq.tick.put (bG oH 1) [] 0,0):=by
   unfold DM.create
   rw [if_neg (by simp [hn]),if_neg (by simp [DM.get,getM,Cq]),if_neg (by simp [Cq]),VJ rfl rfl]
  rw [e]
  exact nI
 refine⟨by rw [hL];rfl,⟨trivial,fun t ht=>?_⟩,⟨by rw [hm,g4];simp,by rw [hm,g4,hL];exact kz _,fun t ht=>by simp at ht,by rw [hL];exact wu,by simp [flat]⟩,by rw [hm];exact g3.dn,by rw [hm,g5];decide,?_,by rw [hL];exact(show 1≤kA oH from by decide),by rw [hL];exact(show kA oH≤11 from by decide),by rw [hL];exact(by decide:64≤4096),by rw [hL];exact(by decide:4096≤262144)⟩
 ·simp at ht;subst ht
  exact⟨bp _,⟨by decide,by simp⟩,by simp [flat],fun p hp=>by cases hp⟩
 ·have:=congrArg aB g4
  rw [DM.oo] at this
  rw [hm,this];decide
theorem b0 (every:Int):oJ 0 0 every (iA every) (x0 4096) [] ⟨1,[],0⟩ 1 []:=by
 have hL:=acQ 4096
 refine⟨⟨ahw,by rw [hL],⟨rfl,by simp [fy],by simp,⟨_,rfl,fun _=>?_⟩,fun e=>absurd rfl e⟩,⟨⟨by simp [iA],by simp [iA],by simp [iA]⟩,by simp [iA,vY],by simp [iA],by simp [iA];try decide⟩,rfl⟩,g0.lg,rfl,by simp [iA],by simp [iA],by simp,by rw [hL],⟨by simp,fun t ht=>?_,by simp⟩⟩
 ·simp [SM.as,iA,SM.list,gu]
 ·obtain rfl:=bK ht
  decide
theorem NA {w:World} {X:XS} {vo:Value} {ops:List ot} {p q:Int} (h1:iw w X 39 vo ot.rd ops) (eu: ∀o∈ops,o.m.text∧o.m.small∧o.m.lens≤2^40∧Gq o.m.dH∧ ∀y∈o.m.writes,y.val.num<18446744073709551616):
  Ct pg 5 #[vo,I p,I q] w X nX fun v _ _=>v=B true:=by
 intro w0 hk
 replace h1:=iw.mv h1 ot.mv hk.dA
 have En:=h1.len
 have JN:Ft w0 nX w0 (aW w0) nX:=Ft.init fun _ h=>h.elim
 have Hx:iw w0 (out nX w0) 39 vo ot.rd ops:=iw.mv h1 ot.mv fun k ai _=>⟨⟨ai,fun h=>h.elim⟩,rfl⟩
 apply DA;unfold vF
 refine dt L8 (by kernel_rfl) JN.s.has fun w1 X1 au=>?_
 have cO:=JN.since au
 have adh: ∀(w X F),Ft w0 nX w X F→eC pg (Ny nX w0 fun v w'=>(fun v x x_1=>v=B true) v w0 w') X w true 9 #[] fun x w X=>fR.fin (Ny nX w0 fun v w'=>(fun v x x_1=>v=B true) v w0 w') X w x:=fun w X F hT=>by
  refine dt L8 (by kernel_rfl) hT.s.has fun w X hs=>?_
  exact(hT.since hs).fin fun wa aR=>rfl
 repeat' first|with_reducible (first|apply ak|apply eY)
 refine dk (aa0 (iw.mv Hx ot.mv cO.s.mv) fun o ho=>(eu o ho).1) (by kernel_rfl) cO.s.has ?_
 rintro _ wQ w2 X2 ⟨few,rfl,aiQ⟩ u5 rj b6
 have bM:=cO.since b6
 by_cases hpq:few=true∧0≤p∧p≤1000∧0≤q∧q≤1000
 ·obtain⟨rfl,Lh,hp1,O3,OO⟩:=hpq
  obtain⟨hn,hw⟩:=aiQ rfl
  repeat' first|(with_reducible refine dm ?_ ?_);omega|(with_reducible refine lN ?_ ?_);omega|with_reducible (first|apply ak|apply dG|apply cD|apply bt|apply eY)
  refine dk Gt (by kernel_rfl) bM.s.has ?_
  rintro _ qw w3 X3 ⟨d1,rfl,Ln⟩ rr oG cw
  have cP:Ft w0 nX w3 X3 (made qw w3):=(bM.since cw).more fun k ai=>.inr ⟨oG k ai,by have:=ai.1;have:=bM.s.kp.size;omega⟩
  refine dk Gt (by kernel_rfl) cP.s.has ?_
  rintro _ tY w4 X4 ⟨d2,rfl,pO⟩ sY ml fw
  have agx:=Ln.mv (fw.fg cP.ba)
  have hj4:Dj (made qw w3) (made tY w4):=fun k a b=>by have:=a.2;have:=b.1;omega
  have ed:Ft w0 nX w4 X4 (fun k=>made qw w3 k∨made tY w4 k):=(cP.since fw).more fun k ai=>ai.elim .inl fun ai=>.inr ⟨ml k ai,by have:=ai.1;have:=cP.s.kp.size;omega⟩
  clear cO bM cP au b6 cw fw Ln
  repeat' first|with_reducible (first|apply ak|apply dG|apply cD|apply bt)|(with_reducible apply lR);(· kernel_rfl)
  refine ed.call (Cn (sz:=4096) (every:=p) agx (ed.fx fun _ h=>.inl h) rfl rfl (by decide) (by decide) Lh hp1 (Bu 4096).1) (by kernel_rfl) (fun _ h=>.inl h) fun v E3 w5 X5 hq5 zk sZ gU hc5=>?_
  obtain⟨n1,l1,F1,rfl,U5,h5⟩:=hq5
  replace h5:jo w5 F1 n1 l1 d1 (iA p) (x0 4096).L (x0 4096).m:=h5
  have agy:=pO.mv (hc5.fC fun k ai=>⟨ed.ba k (.inr ai),fun hf=>hj4 k hf ai⟩)
  have hj5:Dj F1 (made tY w4):=wV hj4 (ed.fx fun _ h=>.inr h) zk U5
  replace gU:Ft w0 nX w5 X5 (fun k=>F1 k∨made tY w4 k):=gU.less fun k ai=>ai.elim (fun h=>(U5 k h).imp .inl id) fun h=>.inl (.inr h)
  repeat' first|(with_reducible apply fp);rfl
  refine gU.call (Cn (sz:=4096) (every:=q) agy (gU.fx fun _ h=>.inr h) rfl rfl (by decide) (by decide) O3 OO (Bu 4096).1) (by kernel_rfl) (fun _ h=>.inr h) fun v JE w6 X6 JK Gw Ao ir Hr=>?_
  obtain⟨n2,l2,F2,rfl,OJ,h6⟩:=JK
  replace h6:jo w6 F2 n2 l2 d2 (iA q) (x0 4096).L (x0 4096).m:=h6
  have h5':=h5.mv (Hr.fC fun k ai=>⟨gU.ba k (.inl ai),fun hf=>hj5 k ai hf⟩)
  have hj6:Dj F1 F2:=(wV hj5.symm (gU.fx fun _ h=>.inl h) Gw OJ).symm
  replace ir:Ft w0 nX w6 X6 (fun k=>F1 k∨F2 k):=ir.less fun k ai=>ai.elim (fun h=>.inl (.inl h)) fun h=>(OJ k h).imp .inr id
  have hBB:BB 0 0 p q w0 w6 X6 d1 d2 (ptr n1 0) (ptr n2 0):=⟨F1,F2,n1,l1,n2,l2,_,_,_,_,_,_,_,_,_,_,_,_,rfl,rfl,hj6,ir,h5',h6,b0 p,b0 q,rfl⟩
  clear ed gU ir hc5 Hr h5 h5' h6 agx pO agy hj4 hj5 hj6 U5 OJ
  repeat' first|(with_reducible refine fL ?_ ?_);omega|with_reducible (first|apply ak|apply dG|apply cD|apply bt)|(with_reducible apply fp);rfl|(with_reducible apply lR);(· kernel_rfl)
  refine Eh (fun m a b c w X=> ∃i:Nat,a=I i∧m=ops.length-i∧i≤ops.length∧BB i (rB (ops.take i)) p q w0 w X d1 d2 c b) ops.length ⟨0,rfl,rfl,aV _,by simpa [rB] using hBB⟩ ?_
  clear hBB
  rintro m a b c w7 X7 ⟨i,rfl,rfl,hi,F1,F2,n1,l1,n2,l2,s1,x1,s2,x2,VT,sg1,f1,rs1,J6,sg2,f2,rs2,rfl,rfl,Pg,jF,ha7,hb7,hA7,Vx,ZQ⟩
  have hoi:=Yd ops i
  have h16:iw w7 (out nX w0) 39 vo ot.rd ops:=iw.mv Hx ot.mv fun k ai _=>⟨ai,jF.s.kp.block k ai⟩
  have ajM:=iw.mv Hx ot.mv jF.s.mv
  have agz:Mv (out nX w0) w7 X7 w7:=fun k ai _=>⟨jF.s.sub k ai,rfl⟩
  rcases fh ops i with⟨dh,o,hx,hd⟩|⟨eI,hd⟩
  ·have hot:=abi hx
   have CA:=Yd ops (i+1)
   obtain⟨z1,z2,z3,z4,z5⟩:=eu o (bg hx)
   repeat' first|(with_reducible refine dC ?_ ?_);omega|with_reducible apply aD|(with_reducible apply aM);exact qF;(· kernel_rfl);rfl;intro _ _ _|(with_reducible apply aZ);exact qF;exact qM;(· kernel_rfl);rfl|(with_reducible apply nL);assumption;(· kernel_rfl)|(with_reducible apply OV);(case h=>exact h16);(case hr=>exact hx);(case hz=>rfl);(case ht=>kernel_rfl);(case hs=>kernel_rfl);intro b1 o1 vk vs vw vp vr vc vh vd vq _ _ _ _ _ _ _ _ _ RC ZR;replace RC:=RC.mv agz
   refine fV (Q:=fun K=> ∀w X v1 v2,BB (i+1) (rB (ops.take (i+1))) p q w0 w X d1 d2 v1 v2→K v1 v2 w X) ?_ fun K hK=>?_
   ·rintro w8 X8 v1 v2 hBB
    have ajN:=hBB
    obtain⟨F1,F2,n1,l1,n2,l2,s1,x1,s2,x2,VT,sg1,f1,rs1,J6,sg2,f2,rs2,rfl,rfl,JC,ka,Ye,QS,Yf,hB8,adi⟩:=hBB
    have hh:s1.high=s2.high:=congrArg rC adi
    have Hv:s1.list=s2.list:=congrArg Prod.fst adi
    obtain⟨FN1,FG1,mb1,av1,es1,ajO,hN1,hG1,agA,ajP⟩:=id Ye
    obtain⟨FN2,FG2,mb2,av2,es2,Zd,Hs,XI,aiR,ajQ⟩:=id QS
    have agB:=Yf.inv.sm.pi
    have YM:=hB8.inv.sm.pi
    obtain⟨_,_,_,pa4⟩:=agB.list
    obtain⟨_,_,_,pb4⟩:=YM.list
    have pal:=agB.len
    have pbl:=YM.len
    skip
    refine dt (DL agA (ka.fx fun k ai=>.inl (hN1 k ai))) (by kernel_rfl) ka.s.has fun w9 X9 yX=>?_
    have mu:=ka.since yX
    have ahx:na w9 FN1 n1 l1 mb1 av1 es1 s1:=agA.mv (yX.fg fun k ai=>ka.ba k (.inl (hN1 k ai)))
    have adL:na w9 FN2 n2 l2 mb2 av2 es2 s2:=aiR.mv (yX.fg fun k ai=>ka.ba k (.inr (Hs k ai)))
    have ha9:=Ye.mv (yX.fg fun k ai=>ka.ba k (.inl ai))
    have hb9:=QS.mv (yX.fg fun k ai=>ka.ba k (.inr ai))
    refine dt (DL adL (mu.fx fun k ai=>.inr (Hs k ai))) (by kernel_rfl) mu.s.has fun vW vX Aq=>?_
    have ik:=mu.since Aq
    have agC:na vW FN1 n1 l1 mb1 av1 es1 s1:=ahx.mv (Aq.fg fun k ai=>mu.ba k (.inl (hN1 k ai)))
    have agD:na vW FN2 n2 l2 mb2 av2 es2 s2:=adL.mv (Aq.fg fun k ai=>mu.ba k (.inr (Hs k ai)))
    have VU:=ha9.mv (Aq.fg fun k ai=>mu.ba k (.inl ai))
    have adj:=hb9.mv (Aq.fg fun k ai=>mu.ba k (.inr ai))
    rw [hh]
    repeat' first|with_reducible (first|apply aD|apply dG|apply fb|apply dW|apply bE|apply oz|apply pP)|(with_reducible refine YC _ _ ?_ ?_ ?_);(· kernel_rfl);all_goals intros|with_reducible apply dY|(exfalso;contradiction)
    refine dk (uf agC (ik.fx fun k ai=>.inl (hN1 k ai)) (fun y hy=>by have:=pa4 y hy;omega) (by omega)) (by kernel_rfl) ik.s.has ?_
    rintro vp1 aiS w11 X11 hp1 adM adN ZS
    have GS:=ik.since ZS
    have agE:na w11 FN2 n2 l2 mb2 av2 es2 s2:=agD.mv (ZS.fg fun k ai=>ik.ba k (.inr (Hs k ai)))
    repeat' first|with_reducible (first|apply dG|apply oz|apply dY)
    refine dk (uf agE (GS.fx fun k ai=>.inr (Hs k ai)) (fun y hy=>by have:=pb4 y hy;omega) (by omega)) (by kernel_rfl) GS.s.has ?_
    rintro vp2 ajR w12 X12 hp2 ajc ahy mU
    have ZT:=GS.since mU
    have aiT:=(hp1.sl.mono adN).mv mU.mv
    have aiU:=hp2.sl.mono ahy
    repeat' first|with_reducible (first|apply oz|apply dY)
    refine dt (u:=B true) ((Oi aiT aiU).mono fun v wa w' _ hv=>by rw [hv,Hv];simp) (by kernel_rfl) ZT.s.has fun w13 X13 Qt=>?_
    have aiV:=ZT.since Qt
    have aiW:=((VU.mv (ZS.fg fun k ai=>ik.ba k (.inl ai))).mv (mU.fg fun k ai=>GS.ba k (.inl ai))).mv (Qt.fg fun k ai=>ZT.ba k (.inl ai))
    have aiX:=((adj.mv (ZS.fg fun k ai=>ik.ba k (.inr ai))).mv (mU.fg fun k ai=>GS.ba k (.inr ai))).mv (Qt.fg fun k ai=>ZT.ba k (.inr ai))
    repeat' first|with_reducible (first|apply ak|apply cD|apply bt|apply eY)|(with_reducible apply cx);omega;omega
    exact BN (ops.length-(i+1)) (by omega) ⟨i+1,congrArg I (by omega),rfl,by omega,F1,F2,n1,l1,n2,l2,s1,x1,s2,x2,VT,sg1,f1,rs1,J6,sg2,f2,rs2,rfl,rfl,JC,aiV,aiW,aiX,Yf,hB8,adi⟩
   ·repeat' first|with_reducible (first|apply aD|apply ak)|(with_reducible apply gF<;>intro _)|(with_reducible apply gx);exact qF;(· kernel_rfl);rfl;exact qN;intro _ _ _|(with_reducible apply fP);exact qF;exact qM;(· kernel_rfl);rfl|(with_reducible apply OV);(case h=>exact h16);(case hr=>exact hx);(case hz=>rfl);(case ht=>kernel_rfl);(case hs=>kernel_rfl);intro b1 o1 vk vs vw vp vr vc vh vd vq _ _ _ _ _ _ _ _ _ RC ZR;replace RC:=RC.mv agz
    ·have GZ:rB (ops.take i)+ia o.m.writes≤20000:=by omega
     refine jF.call (Ya (S:=out nX w0) (g:=o.m) ha7 hA7 (by omega) GZ (jF.fx fun _ h=>.inl h) ZR.m (fun k ai=>⟨jF.s.sub k ai,fun hf=>jF.no (.inl hf) ai⟩) z2 z3 z4 z5) (by kernel_rfl) (fun _ h=>.inl h) fun v wa8 w8 X8 hq8 VC VD ka Rq=>?_
     obtain⟨vo1,y5,S1,VV,x1',ZU,adk,f1',adl,rfl,J7,iy,Ye,adO,Yf,VW⟩:=hq8
     have QS:=hb7.mv (Rq.fC fun k ai=>⟨jF.ba k (.inr ai),fun hf=>Pg k hf ai⟩)
     have JC:Dj y5 F2:=wV Pg (jF.fx fun _ h=>.inr h) VC J7
     have agF: ∀k,S1 k→X8 k:=fun k ai=>VD k (iy k ai).1
     have aiY: ∀k,S1 k→ ¬(y5 k∨F2 k):=fun k ai hf=>hf.elim (iy k ai).2 fun hf=>by have:=(jF.fx (fun _ h=>.inr h) k hf).2;have:=(iy k ai).1.1;omega
     replace ka:Ft w0 nX w8 X8 (fun k=>y5 k∨F2 k):=ka.less fun k ai=>ai.elim (fun h=>(J7 k h).imp .inl id) fun h=>.inl (.inr h)
     have h18:iw w8 (out nX w0) 39 vo ot.rd ops:=iw.mv Hx ot.mv fun k ai _=>⟨ai,ka.s.kp.block k ai⟩
     have ahz:Mv (out nX w0) w8 X8 w8:=fun k ai _=>⟨ka.s.sub k ai,rfl⟩
     have ov1:=adO.one
     repeat' first|(with_reducible apply gx);exact qF;(· kernel_rfl);rfl;exact qN;intro _ _ _|(with_reducible apply fP);exact qF;exact qM;(· kernel_rfl);rfl|(with_reducible apply fp);rfl|(with_reducible apply OV);(case h=>exact h18);(case hr=>exact hx);(case hz=>rfl);(case ht=>kernel_rfl);(case hs=>kernel_rfl);intro b1 o1 vk vs vw vp vr vc vh vd vq _ _ _ _ _ _ _ _ _ RC ZR;replace RC:=RC.mv ahz
     refine ka.call (Ya (S:=out nX w0) (g:=o.m) QS Vx (by omega) GZ (ka.fx fun _ h=>.inr h) ZR.m (fun k ai=>⟨ka.s.sub k ai,fun hf=>ka.no (.inr hf) ai⟩) z2 z3 z4 z5) (by kernel_rfl) (fun _ h=>.inr h) fun v E6 w9 X9 hq9 VE VF mu LP=>?_
     obtain⟨vo2,J8,S2,RD,x2',ZV,adm,f2',adn,rfl,J9,bu,hb9,adP,hB9,VX⟩:=hq9
     have ha9:=Ye.mv (LP.fC fun k ai=>⟨ka.ba k (.inl ai),fun hf=>JC k ai hf⟩)
     have hj9:Dj y5 J8:=(wV JC.symm (ka.fx fun _ h=>.inl h) VE J9).symm
     have agG:VV.as=RD.as:=by rw [VW,VX,ZQ]
     have hh9:VV.high=RD.high:=congrArg rC agG
     have abj:=(adO.mv (LP.fC (A:=S1) fun k ai=>⟨agF k ai,fun hf=>aiY k ai (.inr hf)⟩)).mono fun k ai=>LP.sub k (agF k ai)
     have agH:=adP.mono fun k ai=>VF k (bu k ai).1
     rw [hh9] at abj
     have ov2:=adP.one
     replace mu:Ft w0 nX w9 X9 (fun k=>y5 k∨J8 k):=mu.less fun k ai=>ai.elim (fun h=>.inl (.inl h)) fun h=>(J9 k h).imp .inr id
     repeat' first|(with_reducible refine fL ?_ ?_);omega|with_reducible (first|apply dG|apply oz)|(with_reducible apply fp);rfl|with_reducible apply dY
     refine dt (Pf (c:=o.m.asks) (to:=o.m.fr) (st:=RD.high) abj agH) (by kernel_rfl) mu.s.has fun vW vX Aq=>?_
     have ik:=mu.since Aq
     have VU:=ha9.mv (Aq.fg fun k ai=>mu.ba k (.inl ai))
     have adj:=hb9.mv (Aq.fg fun k ai=>mu.ba k (.inr ai))
     repeat' first|with_reducible (first|apply ak|apply cD|apply bt|apply eY)
     exact hK _ _ _ _ ⟨y5,J8,n1,l1,n2,l2,VV,x1',RD,x2',ZU,adk,f1',adl,ZV,adm,f2',adn,rfl,rfl,hj9,ik,VU,adj,Yf.up (bp _) (by omega),hB9.up (bp _) (by omega),agG⟩
    ·refine jF.call (Yb ha7 hA7 (by omega) (by omega) (jF.fx fun _ h=>.inl h)) (by kernel_rfl) (fun _ h=>.inl h) fun v wa8 w8 X8 hq8 VC VD ka Rq=>?_
     obtain⟨y5,VV,x1',ZU,adk,f1',adl,rfl,J7,Ye,Yf,VW⟩:=hq8
     have QS:=hb7.mv (Rq.fC fun k ai=>⟨jF.ba k (.inr ai),fun hf=>Pg k hf ai⟩)
     have JC:Dj y5 F2:=wV Pg (jF.fx fun _ h=>.inr h) VC J7
     replace ka:Ft w0 nX w8 X8 (fun k=>y5 k∨F2 k):=ka.less fun k ai=>ai.elim (fun h=>(J7 k h).imp .inl id) fun h=>.inl (.inr h)
     skip
     refine ka.call (Yb QS Vx (by omega) (by omega) (ka.fx fun _ h=>.inr h)) (by kernel_rfl) (fun _ h=>.inr h) fun v E6 w9 X9 hq9 VE VF mu LP=>?_
     obtain⟨J8,RD,x2',ZV,adm,f2',adn,rfl,J9,hb9,hB9,VX⟩:=hq9
     have ha9:=Ye.mv (LP.fC fun k ai=>⟨ka.ba k (.inl ai),fun hf=>JC k ai hf⟩)
     have hj9:Dj y5 J8:=(wV JC.symm (ka.fx fun _ h=>.inl h) VE J9).symm
     replace mu:Ft w0 nX w9 X9 (fun k=>y5 k∨J8 k):=mu.less fun k ai=>ai.elim (fun h=>.inl (.inl h)) fun h=>(J9 k h).imp .inr id
     repeat' first|(with_reducible refine fL ?_ ?_);omega|with_reducible apply ak
     exact hK _ _ _ _ ⟨y5,J8,n1,l1,n2,l2,VV,x1',RD,x2',ZU,adk,f1',adl,ZV,adm,f2',adn,rfl,rfl,hj9,mu,ha9,hb9,Yf.up (bp _) (by omega),hB9.up (bp _) (by omega),by rw [VW,VX,ZQ]⟩
    ·have hda:=ha7.JG
     have Xp:=hb7.JG
     refine jF.call (VS hda hA7 (jF.fx fun _ h=>.inl h)) (by kernel_rfl) (fun _ h=>.inl h) fun v wa8 w8 X8 hq8 VC VD ka Rq=>?_
     obtain⟨rfl,aiZ⟩:=hq8
     have ai0:=Xp.mv (Rq.fC fun k ai=>⟨jF.ba k (.inr ai),fun hf=>Pg k hf ai⟩)
     replace ka:Ft w0 nX w8 X8 (fun k=>F1 k∨F2 k):=ka.less fun k ai=>.inl ai
     skip
     refine ka.call (VS ai0 Vx (ka.fx fun _ h=>.inr h)) (by kernel_rfl) (fun _ h=>.inr h) fun v E6 w9 X9 hq9 VE VF mu LP=>?_
     obtain⟨rfl,ai1⟩:=hq9
     have ai2:=aiZ.mv (LP.fC fun k ai=>⟨ka.ba k (.inl ai),fun hf=>Pg k ai hf⟩)
     replace mu:Ft w0 nX w9 X9 (fun k=>F1 k∨F2 k):=mu.less fun k ai=>.inl ai
     skip
     refine mu.call (Yc ai2 hA7 (by omega) (by omega) Lh hp1 (mu.fx fun _ h=>.inl h)) (by kernel_rfl) (fun _ h=>.inl h) fun v ZE vW vX GO O9 Kx ik VG=>?_
     obtain⟨n1',l1',y5,VV,x1',rfl,J7,VU,ai3,VW⟩:=GO
     have ahA:=ai1.mv (VG.fC fun k ai=>⟨mu.ba k (.inr ai),fun hf=>Pg k hf ai⟩)
     have agI:Dj y5 F2:=wV Pg (mu.fx fun _ h=>.inr h) O9 J7
     replace ik:Ft w0 nX vW vX (fun k=>y5 k∨F2 k):=ik.less fun k ai=>ai.elim (fun h=>(J7 k h).imp .inl id) fun h=>.inl (.inr h)
     repeat' first|(with_reducible apply fp);rfl
     refine ik.call (Yc ahA Vx (by omega) (by omega) O3 OO (ik.fx fun _ h=>.inr h)) (by kernel_rfl) (fun _ h=>.inr h) fun v aiS w11 X11 ai4 adM adN GS ai5=>?_
     obtain⟨n2',l2',J8,RD,x2',rfl,J9,ai6,ai7,VX⟩:=ai4
     have ai8:=VU.mv (ai5.fC fun k ai=>⟨ik.ba k (.inl ai),fun hf=>agI k ai hf⟩)
     have ai9:Dj y5 J8:=(wV agI.symm (ik.fx fun _ h=>.inl h) adM J9).symm
     replace GS:Ft w0 nX w11 X11 (fun k=>y5 k∨J8 k):=GS.less fun k ai=>ai.elim (fun h=>.inl (.inl h)) fun h=>(J9 k h).imp .inr id
     repeat' first|(with_reducible refine fL ?_ ?_);omega|with_reducible (first|apply ak|apply dG|apply cD|apply bt)|(with_reducible apply fp);rfl|(with_reducible apply lR);(· kernel_rfl)
     exact hK _ _ _ _ ⟨y5,J8,n1',l1',n2',l2',VV,x1',RD,x2',_,_,_,_,_,_,_,_,rfl,rfl,ai9,GS,ai8,ai6,ai3.up (bp _) (by omega),ai7.up (bp _) (by omega),by rw [VW,VX,ZQ]⟩
    ·exact hK _ _ _ _ ⟨F1,F2,n1,l1,n2,l2,s1,x1,s2,x2,VT,sg1,f1,rs1,J6,sg2,f2,rs2,rfl,rfl,Pg,jF,ha7,hb7,hA7.up (by omega) (by omega),Vx.up (by omega) (by omega),ZQ⟩
  ·have mP:i=ops.length:=by omega
   subst mP
   repeat' first|(with_reducible refine dm ?_ ?_);omega|with_reducible apply ak|(with_reducible apply nL);assumption;(· kernel_rfl)
   exact adh _ _ _ jF
 ·cases few with
  |false=>
   repeat' first|with_reducible (first|apply aD|apply fb|apply dW|apply bE|apply gv)
   exact adh _ _ _ bM
  |true=>
   repeat' first|with_reducible (first|apply aD|apply ak|apply dG|apply fb|apply cD|apply dW|apply bE|apply bt|apply eY)|(with_reducible apply kE<;>intro _)|(with_reducible apply kF<;>intro _)
   all_goals first
    |exact adh _ _ _ bM
    |(exfalso;exact hpq ⟨rfl,by omega,by omega,by omega,by omega⟩)
end Go.Proofs.YtpdkoaklobnegaaGreat
