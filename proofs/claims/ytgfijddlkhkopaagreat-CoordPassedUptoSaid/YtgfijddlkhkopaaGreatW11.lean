/- Part 11 of the proof. -/
import Derived.Test.YtgfijddlkhkopaaGreatProg
import Derived.Recover
import Derived.KernelRfl
import Derived.Tactics
import Derived.Test.YtgfijddlkhkopaaGreatW10
set_option linter.all false
open Go.Value renaming cells → bf, agg → ej, tuple → dr
open BitVec renaming ofInt → aF, ofNat → rG, toNat_ofNat → iL
open List renaming length_append → aa, length_take → aD, length → ba, all → aX, length_map → af, length_drop → bV, take_of_length_le → aA, mem_of_mem_drop → di, flatten_append → dW, take_append_of_le_length → gV, append_assoc → ao, mem_of_mem_take → dN, take → zG, drop_drop → im, take_left' → ig, length_nil → br, nil_append → cI, map_map → bU, take_take → xA, getElem?_take_of_lt → fP, getElem?_append_right → cZ, getElem?_drop → gr, length_cons → aL, mem_of_getElem? → ay, take_append_drop → gY, getElem?_append_left → dT, flatten_cons → dd, drop_left' → jU, mem_append_left → bP
open Array renaming toList → dm, replicate → dg
open Nat renaming mul_le_mul_right → cW, zero_le → aq, le_trans → ad, add_mul → je, mod_eq_of_lt → fy, min_eq_left → kr, mul_comm → zP, le_of_ble_eq_true → eo
open Go.Exit renaming thenS → rr
open Bool renaming and_eq_true → aB, false_eq_true → aU
open Go.IntKind renaming bits → mF, signed → jQ, wrap → zR
namespace Go.Proofs.YtgfijddlkhkopaaGreat
open Go.Proofs.Tryz renaming prog → pg
open Go.aK
set_option maxRecDepth 100000
set_option maxHeartbeats 4000000
theorem NS:Idle pg 59:=by
 refine⟨by kernel_rfl,λgH w=>?_⟩;refine callsD_of_wpS Tryz.func59 rfl λc₀ cs hu=>?_;rw[Tryz.ntmps59];have gh:8<=(gH++dg (15-gH.size) undef).size:=by simp;omega
 generalize gH++dg (15-gH.size) undef=tm at gh;have h2:2<tm.size:=by omega
 have h3:3<tm.size:=by omega
 have h4:4<tm.size:=by omega
 have h5:5<tm.size:=by omega
 have h6:6<tm.size:=by omega
 have h7:7<tm.size:=by omega
 apply wpS_seq;apply wpS_region;simp[wpOpsS,go_sem,recoverD,hu,rr];apply wpS_seq;apply wpS_region;simp[wpOpsS,go_sem,rr,h2,h3,h4,h5,h6,h7];refine wpS_cond (t:=false) (by simp[Act.eval,h2,h3,h4,h5,h6,h7]) ?_;simp only[aU,if_false];refine wpS_of_wp (wp_skip ?_);cases c₀;simp_all [bodyPostS,results,Tryz.results59]
theorem NT:Idle pg 51:=by
 refine⟨by kernel_rfl,λgH w=>?_⟩;refine callsD_of_wpS Tryz.func51 rfl λc₀ cs hu=>?_;rw[Tryz.ntmps51];have gh:8<=(gH++dg (13-gH.size) undef).size:=by simp;omega
 generalize gH++dg (13-gH.size) undef=tm at gh;have h2:2<tm.size:=by omega
 have h3:3<tm.size:=by omega
 have h4:4<tm.size:=by omega
 have h5:5<tm.size:=by omega
 have h6:6<tm.size:=by omega
 have h7:7<tm.size:=by omega
 apply wpS_seq;apply wpS_region;simp[wpOpsS,go_sem,recoverD,hu,rr];apply wpS_seq;apply wpS_region;simp[wpOpsS,go_sem,rr,h2,h3,h4,h5,h6,h7];refine wpS_cond (t:=false) (by simp[Act.eval,h2,h3,h4,h5,h6,h7]) ?_;simp only[aU,if_false];refine wpS_of_wp (wp_skip ?_);cases c₀;simp_all [bodyPostS,results,Tryz.results51]
theorem aaz:Idle pg 81:=by
 refine⟨by kernel_rfl,λgH w=>?_⟩;refine callsD_of_wpS Tryz.func81 rfl λc₀ cs hu=>?_;rw[Tryz.ntmps81];have gh:8<=(gH++dg (12-gH.size) undef).size:=by simp;omega
 generalize gH++dg (12-gH.size) undef=tm at gh;have h2:2<tm.size:=by omega
 have h3:3<tm.size:=by omega
 have h4:4<tm.size:=by omega
 have h5:5<tm.size:=by omega
 have h6:6<tm.size:=by omega
 have h7:7<tm.size:=by omega
 apply wpS_seq;apply wpS_region;simp[wpOpsS,go_sem,recoverD,hu,rr];apply wpS_seq;apply wpS_region;simp[wpOpsS,go_sem,rr,h2,h3,h4,h5,h6,h7];refine wpS_cond (t:=false) (by simp[Act.eval,h2,h3,h4,h5,h6,h7]) ?_;simp only[aU,if_false];refine wpS_of_wp (wp_skip ?_);cases c₀;simp_all [bodyPostS,results,Tryz.results81]
open Go.Sort
attribute [local irreducible] un jn jc iE ld1 iw st1 kY kZ oP rF o9 Hg Dz gO ga aV lK lB eW eV eU eC eF gE me fin iu bu eB vS Kz Hh Hi Hj Hk Hl KA KB KC KD Et Eu Hm Hn Ho KE KF KG
theorem Qf: ∀{l:List Nat} {x:Nat},x∈l->x<=l.sum
 |y::l,x,h=>by
  rw[List.sum_cons];rcases List.mem_cons.1 h with e|h
  ·omega
  ·have:=Qf h;omega
theorem aaA (a b:Int) (p:List jD):(fq a b p).Nodup:=(jx _).nodup_iff.2 (Ew a b p [] 0 List.nodup_nil (λx hx=>by cases hx) (Nat.le_refl _)).1
def AO (g:oA):cO:= { BR with kind:=1,range:=g.oR.id,iD:=g.oR.iD,keys:=g.keys }
def kH (ds:pc) (p:List jD):List oA:=mD ds (iV ds [] (fq 1 1 p)).1
def tW (ds:pc) (p:List jD):List cO:=(kH ds p).map AO
variable {gN : Int} {cb : Nat} {X : XS} {w : World}
theorem acH {c:cx} (h:aG w X cb (Gv c) Il) (hl:c.dC<2^60) (AP: -(2^60)<c.dC):
  Ct pg 110 #[ptr cb 0,I gN] w X (· =cb) λv _ w'=>v= .tuple #[(c.tt gN).1.v,I (c.tt gN).2]/\aG w' (· =cb) cb (Gv (if(c.tt gN).2=0 then(c.tt gN).1 else c)) Il:=by
 intro w0 hk;have hF:FX (· =cb) X w:=λk ah=>by subst ah;exact⟨h.1,h.lt⟩
 have hT:=hF.ft hk;replace h:=h.mv hk.bY;refine OL.1 λ_=>?_;refine dL (acI h hl AP) kQ (λ_ h=>h) λw1 X1 ax=>?_;generalize c.tt gN=q;obtain⟨s,e⟩:=q;replace h:=h.since ax;have ea:Ft w0 (· =cb) w1 X1 (· =cb):=⟨hT.s.trans ax,λk ah=>by subst ah;exact h.1,λk ah=>.inl ah⟩;by_cases he:e=0
 ·repeat' first|refine aJ ?_;intros|with_reducible apply cB
  refine FI (o:=0) h zQ kQ sQ rfl rfl ea.s.has λw2 X2 c2 jC=>?_;have dh:=ea.dY (F':=(· =cb)) c2 (λk ah=>ah) λk ah=>.inl ah;repeat' refine ak ?_;intros
  exact dh.fin λwa aH=>⟨rfl,by rw[if_pos he];exact(jC.kp aH).own⟩
 ·repeat' first|refine aJ ?_;intros|with_reducible apply cB
  exact ea.fin λwa aH=>⟨rfl,by rw[if_neg he];exact(h.kp aH).own⟩
theorem ahk {c:cx} (h:c.may=true) (h0:(c.tt gN).2=0):(c.tt gN).1.may=true:=by
 simp only[cx.may,aB,decide_eq_true_eq] at h⊢;revert h0;unfold cx.tt;split
 ·intro e;cases e
 ·split
  ·intro _;(try simp only);omega
  ·split
   ·intro e;cases e
   ·intro _;(try simp only);omega
def tu (p:List jD) (ck:cx) (gN:Int) (ds:pc):Int:=if na p≠0 then na p else if(ck.tt gN).2≠0 then(ck.tt gN).2 else(iV ds [] (fq 1 1 p)).2
structure rX (N:Nat) (d:pe):Prop where
 q:d.x.pre=false->d.x.vq=aP/\d.ids=[]
 p:na d.p=0
 sn:d.sn.length<=N
 ws:d.ws.length<=80
 ids:d.ids.length<=80
 Cx: ∀y∈d.ws,y.Cx
 wO:0<=d.x.wO/\d.x.wO<6
 pq:d.pq=false
structure sT (N M:Nat) (n:bE):Prop where
 id:n.c.id=1
 act: ∀t b,getM t n.al=some b->rX N (n.A b)
 ds: ∀(i:Int) (r:dR),getM i n.ds=some r->r.id=i
 ms:n.ms=[]
 vm:n.vm=aP
 va:n.va=aP
 rm:n.rm=[]
 ra:n.ra=[]
 cl:n.cl.length<=M
 W5:n.al.length<=M
 mM:M<=1000
 pre:n.pre=false
 cw: ∀b∈n.cl,(n.C b).waits.length<=80
 byT: ∀t b,getM t n.bl=some b->b∈n.cl/\(n.C b).r.aO=t
theorem TG (n:bE) (b:Nat):eI n b (n.A b)=n:=by
 unfold eI
 congr 1
 funext b'
 by_cases h:b'=b
 ·rw[if_pos h,h]
 ·rw[if_neg h]
variable {w' w0 wa : World} {X' : XS} {own aI bZ : Nat -> Nat} {n' : bE} {b : Nat}
section
variable {n : bE}
theorem U2 (h:jd w own n) (hX:qW own X) (hb:n.dI b) (hp:n.pre=false) (hW: ∀(i:Int) (r:dR),getM i n.ds=some r->r.id=i):
  Ct pg 61 #[ptr n.nb 0,I gN,ptr b 0] w X (gy own) λv wa w'=>NQ dX own wa w' λaI n'=> ∃vg iq st,v= .tuple #[vg,I (tu (n.A b).p n.ck gN n.ds)]/\aK.one vg=true/\n'= { eI n b { n.A b with x:= { (n.A b).x with st:=st } } with ck:=iq } /\
   (tu (n.A b).p n.ck gN n.ds=0->fp w' (bN aI 4) 5 vg oA.rd (kH n.ds (n.A b).p)):=by
 intro w0 hk;have s:=St.init h hX hk;have ha:=(s.va hb).1;have Hr:=(s.h.act hb).2.2.2.2.1;have hs:=s.rf;have self:({ eI n b { n.A b with x:= { (n.A b).x with st:=(n.A b).x.st } } with ck:=n.ck } :bE)=n:=TG n b;refine JG.1 λ_=>?_;repeat' refine ak ?_;intros
 refine dL (KN (Hr.mono (s.sub 4))) kQ hs.has λw1 X1 ax=>?_;replace Hr:=Hr.mv (ax.gU (s.sub 4));replace s:=s.since ax;clear hs ha;have hs:=s.rf;have hr:=s.v.1;rw[Qg hp] at hr;by_cases Ez:na (n.A b).p≠0
 ·have Qh:tu (n.A b).p n.ck gN n.ds=na (n.A b).p:=by unfold tu;rw[if_pos Ez]
  repeat' refine aJ ?_;intros
  exact s.fin λwa aH=>⟨aP,n.ck,(n.A b).x.st,by rw[Qh],rfl,self.symm,λe=>absurd (Qh.symm.trans e) Ez⟩
 have apW:na (n.A b).p=0:=by omega
 have vO:=(Am apW).1;repeat' refine aJ ?_;intros
 have AQ:=(show n.pre=false->aG w1 (bN own 7) n.c.cb (Gv n.ck) Il/\n.ck.may=true from s.get 7) hp;have Qi: ∀k,k=n.c.cb->own k=7:=λk e=>by rw[e];exact AQ.1.1
 obtain⟨hl,AP⟩:n.ck.dC<2^60/\ -(2^60)<n.ck.dC:=by
  have:=AQ.2;simp only[cx.may,aB,decide_eq_true_eq] at this;omega
 refine yR (acH (gN:=gN) (AQ.1.mono (s.sub 7)) hl AP) kQ s.has (λk e=>s.x k (by have:=Qi k e;omega)) λv vM w2 X2 q2 kF jt _ c2=>?_;obtain⟨rfl,VT⟩:=q2;obtain⟨lC,s2,m2⟩:=s.De (F':=dX { n with ck:=if(n.ck.tt gN).2=0 then(n.ck.tt gN).1 else n.ck }) 7 c2 Qi (· =n.c.cb) (λk e=>.inl (Qi k e)) (λK _ _=>⟨VT,by
  show cx.may (if(n.ck.tt gN).2=0 then(n.ck.tt gN).1 else n.ck)=true
  split
  ·exact ahk AQ.2 aQ
  ·exact AQ.2⟩) nz
 replace Hr:=Hr.mv m2;clear hs hr VT s;have hs:=s2.rf;by_cases pf:(n.ck.tt gN).2≠0
 ·have Qh:tu (n.A b).p n.ck gN n.ds=(n.ck.tt gN).2:=by unfold tu;rw[if_neg Ez,if_pos pf]
  rw[if_neg pf] at s2;repeat' refine aJ ?_;intros
  exact s2.fin λwa aH=>⟨aP,n.ck,(n.A b).x.st,by rw[Qh],rfl,self.symm,λe=>absurd (Qh.symm.trans e) pf⟩
 have apX:(n.ck.tt gN).2=0:=by omega
 have Qh:tu (n.A b).p n.ck gN n.ds=(iV n.ds [] (fq 1 1 (n.A b).p)).2:=by unfold tu;rw[if_neg Ez,if_neg pf]
 rw[if_pos apX] at s2;generalize (n.ck.tt gN).1=st at s2⊢;have ha:=(s2.va (b:=b) hb).1;have ny:=(s2.h.act (b:=b) hb).1;repeat' refine aJ ?_;intros
 refine s2.stN (o:=4) (tx b 0) ny (dX { eI n b { n.A b with x:= { (n.A b).x with st:=st } } with ck:=st }) zQ kQ (eo rfl) rfl rfl (λ_ _ _ h=>qD (n:= { n with ck:=st }) dQ h) (Ik (n:= { n with ck:=st })) (λw3 X3 nf s3 m3=>?_) iy.1 iy.2;replace Hr:=Hr.mv m3;clear hs ha ny s2;have hs:=s3.rf;have ha:=(s3.vs (n:= { n with ck:=st }) hb).1;have hr:=s3.v.1;repeat' refine ak ?_;intros
 refine cd (AM (Hr.mono (s3.sub 4)) zQ) kQ hs.has ?_;rintro vk zk w4 X4 q4 tr oH fV;have s4:=s3.since fV;refine cd (NO (show kJ w4 X4 n.c.R9 n.mb n.ds from s4.zO 2) hW (q4.mono oH).sl (by have:=FG (a:=1) (b:=1) (p:=(n.A b).p);omega) λk ah=>by have:=P8 (a:=1) (b:=1) vO k ah;omega) kQ fV.has ?_;rintro v5 NU w5 X5 q5 Im EC sU;obtain⟨mE,s5,m5,-,n5⟩:=(s4.since sU).uW (N:=made NU w5) λk hk=>⟨EC k hk,s4.nw (ad Im hk.1)⟩;clear hs;have hs:=s5.rf;by_cases he:(iV n.ds [] (fq 1 1 (n.A b).p)).2≠0
 ·rw[if_pos he] at q5;subst q5;repeat' refine ak ?_;intros
  exact s5.fin λwa aH=>⟨aP,st,st,by rw[Qh],rfl,rfl,λe=>absurd (Qh.symm.trans e) he⟩
 rw[if_neg he] at q5;obtain⟨vg,rfl,lM⟩:=q5;have ovg:=fp.one lM;have AN:(iV n.ds [] (fq 1 1 (n.A b).p)).2=0:=by omega
 repeat' refine ak ?_;intros
 exact s5.fin λwa aH=>⟨vg,st,st,by rw[Qh,AN],ovg,rfl,λ_=>fp.mv (fp.mv lM oA.mv (Mv.sub n5)) oA.mv (yG s5.x aH)⟩
end
def Sa (R:Ending->World->Prop) (nb xb:Nat) (w:World) (X:XS):Prop:=(jn (λ(y1:Value) (y2:Value) (w1:World) (X1:XS)=>
un (yg y1 0 3) λu1=>
un (yg y2 0 2) λu2=>
jc (aX [y1,y2,(.agg #[(I 0)])] dI) (fin R X1 w1 (dr #[u1,u2,(I 0)]))) λk1=>
((And
(lK pg X w (bu (ptr xb 0)) λx1=>
(And
(aV pg X w (iE aT 0 0 3 x1) λx2=>
(And
(aV pg X w (iw 34 3 x2) λx3=>
(eC pg R X w true 47 #[ptr nb 0] λx4 w2 X2=>
(un (ej (bf x3)) λu3=>
jc (ba (dm (bf x3))==3) (jc (aX (dm (bf x3)) aK.one) ((un (ej (bf x4)) λu4=>
jc (ba (dm (bf x4))==2) (jc (aX (dm (bf x4)) aK.one) (k1 u3 u4 w2 X2))))))))
(eC pg R X w true 47 #[ptr nb 0] λx5 w3 X3=>
(aV pg X3 w3 (iw 34 3 x2) λx6=>
(un (ej (bf x6)) λu5=>
jc (ba (dm (bf x6))==3) (jc (aX (dm (bf x6)) aK.one) ((un (ej (bf x5)) λu6=>
jc (ba (dm (bf x5))==2) (jc (aX (dm (bf x5)) aK.one) (k1 u5 u6 w3 X3))))))))))
(eC pg R X w true 47 #[ptr nb 0] λx7 w4 X4=>
(aV pg X4 w4 (iE aT 0 0 3 x1) λx8=>
(aV pg X4 w4 (iw 34 3 x8) λx9=>
(un (ej (bf x9)) λu7=>
jc (ba (dm (bf x9))==3) (jc (aX (dm (bf x9)) aK.one) ((un (ej (bf x7)) λu8=>
jc (ba (dm (bf x7))==2) (jc (aX (dm (bf x7)) aK.one) (k1 u7 u8 w4 X4)))))))))))
(eC pg R X w true 47 #[ptr nb 0] λx10 w5 X5=>
(lK pg X5 w5 (bu (ptr xb 0)) λx11=>
(aV pg X5 w5 (iE aT 0 0 3 x11) λx12=>
(aV pg X5 w5 (iw 34 3 x12) λx13=>
(un (ej (bf x13)) λu9=>
jc (ba (dm (bf x13))==3) (jc (aX (dm (bf x13)) aK.one) ((un (ej (bf x10)) λu10=>
jc (ba (dm (bf x10))==2) (jc (aX (dm (bf x10)) aK.one) (k1 u9 u10 w5 X5)))))))))))))
def jk (n:bE):bL:=⟨n.c.id,n.c.aW,n.c.gG+1⟩
theorem TH {κ α:Type} [DecidableEq κ] {k:κ} {a:α} : ∀l:List (κ×α),j9 k (cL k a l)=j9 k l
 |[]=>by simp[cL,j9]
 |x::l=>by
  have ih:=TH (k:=k) (a:=a) l;unfold cL;by_cases h:x.1=k
  ·rw[if_pos h];simp[j9,h]
  ·rw[if_neg h]
   grind [j9]
theorem TJ {κ α:Type} [DecidableEq κ] {k t:κ} {l:List (κ×α)} {a v:α} (h:getM t (cL k a l)=some v):(t=k/\v=a)\/(t≠k/\getM t l=some v):=by grind [kj,pd]
def ME (n:bE) (p:List jD) (n1:bE):Prop:= ∃(xb:Nat) (iq:cx) (KO:List (bL×Nat)) (vm va:Value) (rm ra:List (List Value)) (ms:List cO) (d:pe),
  n1= { n with c:= { n.c with gG:=n.c.gG+1 },ck:=iq,al:=KO,vm:=vm,va:=va,rm:=rm,ra:=ra,ms:=ms,A:=λb=>if b=xb then d else n.A b } /\(∀t,getM t n.al≠some xb)/\
  ((∃a,ra=[a]/\ms=[]/\KO=j9 (jk n) n.al/\((∃e,e≠0/\a=Ey e (jk n) .zero false aP)\/ ∃st vs,aK.one vs=true/\a=Ey 0 (jk n) st true vs))\/
   (ra=[]/\KO=cL (jk n) xb n.al/\d.p=p/\na p=0/\d.x.aO=jk n/\d.x.wO=0/\d.x.mw= .zero/\(d.sn=[]/\d.pq=false)/\ms=d.ws.map (λm=>m.pU (20+n.c.id))/\d.ws≠[]/\d.ws.length<=80/\(∀m∈d.ws,m.aO=jk n/\m.Cx)/\
    ((d.x.pre=false/\d.x.vq=aP/\d.ids=[]/\(∀m∈d.ws,m.kind=1)/\fq 1 1 p≠[])\/(d.x.pre=true/\d.ws.map (·.range)=d.ids/\ ∀m∈d.ws,m.kind=3/\m.parts=d.ids))))
def Qj (E:Prop) (J:List Int->Prop) (n n1:bE):Prop:=(n1.ra≠[]->E)/\ ∀b,getM (jk n) n1.al=some b->n1.ra=[]->(n1.A b).x.pre=true->J (n1.A b).ids
variable {R : Ending -> World -> Prop} {M : Nat} {a : Value}
section
variable {n : bE}
theorem _root_.Go.aK.St.apY {d:pe} (s:Sn w0 bZ w X own n) (hb:own b=0/\w0.heap.size<=b) (hr:aG w X b (Jq d.x d.vw) aT) (hd:d.vw=aP/\d.rw=[]/\d.ws=[]/\d.x.vs=aP/\d.sn=[]/\d.pq=false) (hp:Sl w (bN own 4) 5 d.x.vp (d.p.map jD.l)) (hq:d.x.vq=aP/\d.ids=[]):
  ¬n.dI b/\ ∃aI,Sn w0 bZ w X aI { n with A:=λb'=>if b'=b then d else n.A b',ex:=b::n.ex } /\Mv (bN own 4) w (bN aI 4) w:=by
 have no: ¬n.dI b:=λh=>by have:own b=tx b 0:=(s.h.act h).1.1;exact iy.1 (this.symm.trans hb.1)
 obtain⟨d1,d2,d3,d4,d5,d6⟩:=hd;have eA:({ n with A:=λb'=>if b'=b then d else n.A b',ex:=b::n.ex } :bE).A b=d:=if_pos rfl;have key: ∀c,c≠tx b 0-> ∀K A,Mv (bN own 4) w K w->(dX n c).p w K A->(dX { n with A:=λb'=>if b'=b then d else n.A b',ex:=b::n.ex } c).p w K A:=λc hc K A mv h=>by
  have q: ∀{b'},b'≠b->({ n with A:=λb'=>if b'=b then d else n.A b',ex:=b::n.ex } :bE).dI b'->n.dI b':=λdZ h=>h.imp id λe=>(List.mem_cons.1 e).resolve_left dZ;refine W6 (λhi p=>?_) (λb' i hi e p=>?_) h
  ·by_cases e:c=12
   ·subst e;intro t b' e
    show(if b'=b then d else n.A b').x.aO=t
    rw[if_neg λ(e':b'=b)=>no (.inl ⟨t,e'▸e⟩)];exact p t b' e
   ·rcases c with _|_|_|_|_|_|_|_|_|_|_|_|_|c<;>first|exact p|exact absurd rfl e
  ·by_cases dZ:b'=b
   ·subst dZ;rcases i with _|_|_|_|_|_|_|_|i<;>first|exact absurd e hc|exact p|skip
    all_goals (simp only[zl,if_true];intro _)
    ·show Own w A 0 mT 36 d.vw d.rw
     rw[d1,d2];exact Own.nil _ _ _ _ _
    ·show Own w A 0 snT 7 d.x.vs (d.sn.map fe.l)
     rw[d4,d5];exact Own.nil _ _ _ _ _
    ·refine⟨?_,hp.mv mv,λ_=>?_⟩
     ·show fQ w K d.rw d.ws
      rw[d2,d3];exact fQ.nil _ _
     ·show Sl w K 1 d.x.vq (d.ids.map I1)
      rw[hq.1,hq.2];exact Sl.nil _ _ _
    ·exact λe=>by rw[d6] at e;cases e
   ·rcases i with _|_|_|_|_|_|_|_|i<;>first|exact p|(simp only[zl,if_neg dZ] at p⊢;exact λh=>p (q dZ h))
 obtain⟨aI,s',m,-⟩:=s.jO (F':=dX { n with A:=λb'=>if b'=b then d else n.A b',ex:=b::n.ex }) (j:=tx b 0) (N:=(· =b)) (ee.nA s.rf nX) (· =tx b 0) (λ_ h=>h.elim) iy.1.symm iy.2.symm (λk e=>by subst e;exact⟨hr.1,hb⟩) iy.1
  (λaI e1 e2 m c hc=>by subst hc;rw[vN _ _ _ dQ];exact λ_=>by rw[eA];exact⟨e2 b rfl,hr.2⟩) key
 exact⟨no,aI,s',m⟩
theorem ahl (s:Sn w0 bZ w X own n) (hb:n.dI b) (k: ∀w9 X9 lU,Sn w0 bZ w9 X9 lU (fb n)->AR w9 lU n->fin R X9 w9 (.tuple #[(n.A b).x.aO.v,.agg #[n.vm,n.va],I 0])):Sa R n.nb b w X:=by
 unfold Sa;have ha:=(s.va hb).1;have ovm:=s.v.2.1;have ova:=s.v.2.2.1;have hs:=s.rf;have told: ∀{w8:World} {X8:XS} {N:Value->World->XS->Prop},ai X w X8 w8->(∀w9 X9 lU,Sn w0 bZ w9 X9 lU (fb n)->AR w9 lU n->N (.agg #[n.vm,n.va]) w9 X9)->eC pg R X8 w8 true 47 #[ptr n.nb 0] N:=λ{w8 X8 N} jZ k=>
  (s.since jZ).call (ED (s.since jZ).h (s.since jZ).x) kQ λv w' X' aI n' s' ⟨e1,e2,q⟩ _=>by subst e1 e2;exact k _ _ _ s' q
 refine ij (Q:=λKx=> ∀w9 X9 lU,Sn w0 bZ w9 X9 lU (fb n)->AR w9 lU n->Kx (.agg #[I (n.A b).x.aO.eh,I (n.A b).x.aO.aW,I (n.A b).x.aO.sq]) (.agg #[n.vm,n.va]) w9 X9) ?_ λKx hKx=>?_
 ·intro w9 X9 lU s9 q9;have hq:=k w9 X9 lU s9 q9;clear hs k;repeat' refine ak ?_;intros
  exact hq
 have ahm: ∀{w9:World} {X9:XS} {lU:Nat->Nat},Sn w0 bZ w9 X9 lU (fb n)->aG w9 X9 b (Jq (n.A b).x (n.A b).vw) aT:=λs9=>(s9.va (b:=b) hb).1;refine⟨?_,?_⟩
 ·repeat' refine ak ?_;intros
  refine⟨?_,?_⟩
  ·repeat' refine ak ?_;intros
   refine⟨?_,?_⟩
   ·repeat' refine ak ?_;intros
    refine told hs λw9 X9 lU s9 q9=>?_;clear hs;have hs:=s9.rf;repeat' refine ak ?_;intros
    exact hKx _ _ _ s9 q9
   ·rename_i o ho hc;subst ho;refine told hs λw9 X9 lU s9 q9=>acJ ((ahm s9).cells.part 0 3) (Mv.refl _ _) kQ rfl ?_;clear hs;have hs:=s9.rf;repeat' refine ak ?_;intros
    exact hKx _ _ _ s9 q9
  ·refine told hs λw9 X9 lU s9 q9=>?_;clear hs;have aok:=ahm s9;repeat' refine ak ?_;intros
   exact hKx _ _ _ s9 q9
 ·refine told hs λw9 X9 lU s9 q9=>?_;clear hs;have aok:=ahm s9;repeat' refine ak ?_;intros
  exact hKx _ _ _ s9 q9
theorem aj4 {t:bL} (hb:b∈n.ex) (ht:(n.A b).x.aO=t): ∀c,c≠5-> ∀w K A,(dX n c).p w K A->(dX { n with al:=cL t b n.al } c).p w K A:=
 nz (λb' i hi _ w K A h=>by
  have e:({ n with al:=cL t b n.al } :bE).dI b'->n.dI b':=λh=>h.elim (λ⟨t',e⟩=>(TJ e).elim (λe=>e.2▸ .inr hb) λe=>.inl ⟨t',e.2⟩) .inr;rcases i with _|_|_|_|_|_|_|_|i<;>first|exact λha=>h (e ha)|exact h) λi hi hq w K A h=>by
   rcases i with _|_|_|_|_|_|_|_|_|_|_|_|_|i<;>first|exact absurd rfl hq|exact λt' b' e=>(TJ e).elim (λe=>by rw[e.2,e.1];exact ht) λe=>h t' b' e.2|exact h
theorem KP {p:List jD} {N:Nat} (h:jd w own n) (hX:qW own X) (hk:sT N M n) (ha:Sl w (bN own 4) 5 a (p.map jD.l)) (vO:p.length<=2^30) (hc:0<=n.c.gG/\n.c.gG<=2^40):
  Ct pg 29 #[ptr n.nb 0,I gN,a] w X (gy own) λv wa w'=>Sb own wa w' (λn1=>ME n p n1/\Qj (tu p n.ck gN n.ds≠0\/OH p n.ds) (Ij p n.ds) n n1) λn1=>v= .tuple #[(jk n).v,.agg #[n1.vm,n1.va],I 0]:=by
 intro w0 DB;have s:=St.init h hX DB;replace ha:=ha.mv (yG hX DB);have hi:1<=n.c.id/\n.c.id<=2:=by rw[hk.id];decide
 refine Bt.g (RP:=λ_ _=>False) (g0:=59) (cb:=[3,7,8,6]) (cv:=[]) kQ (.inl rfl) NS DP ?_;rw[OM Hu,W7 Hu];refine cz ?_;have hs:=s.rf;have hr:=s.v.1;repeat' refine ak ?_;intros
 refine s.st (o:=2) 1 (s.get 1) (dX { n with c:= { n.c with gG:=n.c.gG+1 } }) zQ kQ (eo rfl) rfl (λ_ _ _ h=>h) nz λw1 X1 il s1 m1=>?_;replace ha:=ha.mv m1;obtain⟨d,Jl⟩: ∃d:CoV,d= { n.c with gG:=n.c.gG+1 } :=⟨_,rfl⟩;obtain⟨d1,d2,d3⟩:d.id=n.c.id/\d.aW=n.c.aW/\d.gG=n.c.gG+1:=by rw[Jl];exact⟨rfl,rfl,rfl⟩
 obtain⟨n1,wI⟩: ∃n1:bE,n1= { n with c:=d } :=⟨_,rfl⟩;have s1:Sn w0 own w1 X1 il n1:=by rw[wI,Jl];exact s1
 have e1:n1.nb=n.nb/\n1.c=d:=by rw[wI];exact⟨rfl,rfl⟩
 clear hs hr s;have hs:=s1.rf;have hr:=s1.v.1;rw[e1.1,e1.2] at hr;repeat' refine ak ?_;intros
 refine cd (aaB (ha.mono (s1.sub 4)) zQ) kQ hs.has ?_;rintro vp vM w2 X2 q2 kF jt bp;obtain⟨lC,s2,m2,-,n2⟩:=(s1.since bp).uW (N:=made vM w2) λk hk=>⟨jt k hk,s1.nw (ad kF hk.1)⟩;have hvp:=q2.sl.mono n2;obtain⟨t1,t2,t3,rfl⟩:=q2.sl.form;clear hs hr;have hs:=s2.rf;have hr:=s2.v.1;rw[e1.1,e1.2] at hr;repeat' first|refine ak ?_;intros|(refine NV hs ?_;intro bx w X fY ax fv hs bo)
 obtain⟨lR,nf,s3,m3⟩:=(s2.since fv).apY (b:=bx) (d:=⟨⟨⟨d.id,d.aW,d.gG⟩,.slice t1 t2 t3,.zero,0,aP,false,aP,.zero⟩,aP,[],[],[],p,[],false⟩) (s2.nw zQ) bo ⟨rfl,rfl,rfl,rfl,rfl,rfl⟩ (hvp.mv (fv.gU (s2.sub 4))) ⟨rfl,rfl⟩;rw[wI] at s3 lR;obtain⟨D,hD⟩: ∃D:pe,D=⟨⟨⟨d.id,d.aW,d.gG⟩,.slice t1 t2 t3,.zero,0,aP,false,aP,.zero⟩,aP,[],[],[],p,[],false⟩:=⟨_,rfl⟩;replace s3:Sn w0 own w X nf { eI n bx D with c:=d,ex:=bx::n.ex } :=by rw[hD];exact s3
 have TL: ∀t,getM t n.al≠some bx:=λt e=>lR (.inl ⟨t,e⟩);have fY: ∀{n':bE},n'.ex=bx::n.ex->n'.dI bx:=λe=>.inr (by rw[e];simp);clear hs fv bo hr s2 hvp m3 m2 s1 wI e1 n1 bp m1;refine s3.call (U2 (n:= { eI n bx D with c:=d,ex:=bx::n.ex }) (b:=bx) (gN:=gN) s3.h s3.x (fY rfl) hk.pre hk.ds) kQ λv w4 X4 lD n4 s4 q4 m4=>?_;obtain⟨vg,iq,st,hv,ovg,rfl,lM⟩:=q4;have eD:({ eI n bx D with c:=d,ex:=bx::n.ex } :bE).A bx=D:=jq;have hDp:D.p=p:=by rw[hD]
 rw[eD,hDp] at lM hv;replace hv:v= .tuple #[vg,I (tu p n.ck gN n.ds)]:=hv;replace lM:tu p n.ck gN n.ds=0->fp w4 (bN lD 4) 5 vg oA.rd (kH n.ds p):=lM;subst hv;obtain⟨E,hE⟩: ∃E:pe,E= { D with x:= { D.x with st:=st } } :=⟨_,rfl⟩;obtain⟨NF,TM⟩: ∃NF:pe->List (bL×Nat)->bE,NF=λd' KO=> { eI n bx d' with c:=d,ck:=iq,al:=KO,ex:=bx::n.ex } :=⟨_,rfl⟩;replace s4:Sn w0 own w4 X4 lD (NF E n.al):=by
  have e:NF E n.al= { eI { eI n bx D with c:=d,ex:=bx::n.ex } bx { ({ eI n bx D with c:=d,ex:=bx::n.ex } :bE).A bx with x:= { (({ eI n bx D with c:=d,ex:=bx::n.ex } :bE).A bx).x with st:=st } } with ck:=iq } :=by
   rw[eD,<-hE,TM]
   show _=({ eI (eI n bx D) bx E with c:=d,ex:=bx::n.ex,ck:=iq } :bE)
   rw[An];rfl
  rw[e];exact s4
 have eE:E.x=⟨⟨d.id,d.aW,d.gG⟩,.slice t1 t2 t3,st,0,aP,false,aP,.zero⟩/\E.vw=aP/\E.rw=[]/\E.ws=[]/\E.sn=[]/\E.p=p/\E.ids=[]/\E.pq=false:=by rw[hE,hD];exact⟨rfl,rfl,rfl,rfl,rfl,rfl,rfl,rfl⟩
 have W8:(⟨d.id,d.aW,d.gG⟩:bL)=jk n:=by rw[d1,d2,d3];rfl
 have xB: ∀{w5:World} {X5:XS} {mE:Nat->Nat} {n5:bE},Sn w0 own w5 X5 mE n5->n5.dI bx->n5.nb=n.nb->(n5.A bx).x.aO=jk n->(ME n p { n5 with ex:=n.ex } /\Qj (tu p n.ck gN n.ds≠0\/OH p n.ds) (Ij p n.ds) n { n5 with ex:=n.ex })->(∀b∈n.ex,b∈n5.ex)->
   Sa (uF (gy own) w0 λv w'=>Sb own w0 w' (λn1=>ME n p n1/\Qj (tu p n.ck gN n.ds≠0\/OH p n.ds) (Ij p n.ds) n n1) λn1=>v= .tuple #[(jk n).v,.agg #[n1.vm,n1.va],I 0]) n.nb bx w5 X5:=λ{w5 X5 mE n5} s5 Bu enb etx EE hex=>by
  rw[<-enb];exact ahl s5 Bu λw9 X9 lU s9 q9=>St.alC (n1:= { n5 with ex:=n.ex }) (s9.to (Hv (e':=n.ex) hex)) ⟨q9.om,q9.hm,q9.oa⟩ EE (by rw[etx])
 clear s3 lR;have hs:=s4.rf;by_cases he:tu p n.ck gN n.ds≠0
 ·repeat' refine aJ ?_;intros
  have eA:(NF E n.al).A bx=E/\(NF E n.al).al=n.al/\(NF E n.al).nb=n.nb/\(NF E n.al).ra=n.ra/\(NF E n.al).ex=bx::n.ex:=by rw[TM];exact⟨jq,rfl,rfl,rfl,rfl⟩
  rw[<-eA.2.2.1];refine s4.call (Cg (n:=NF E n.al) (b:=bx) (code:=tu p n.ck gN n.ds) (t:=.zero) (st:=.zero) (on:=false) (vs:=aP) s4.h s4.x (fY eA.2.2.2.2) rfl (by rw[eA.2.2.2.1,hk.ra];simp)) kQ λv w5 X5 mE n5 s5 q5 m5=>?_;obtain⟨oB,rfl⟩:=q5;rw[eA.1,eE.1,W8,eA.2.1,eA.2.2.2.1,hk.ra] at s5;rw[eA.2.2.1];refine xB s5 (.inr sQ) eA.2.2.1 (by show((NF E n.al).A bx).x.aO=jk n;rw[eA.1,eE.1];exact W8) ⟨⟨bx,iq,_,_,_,_,_,_,E,by subst TM Jl;rfl,TL,.inl ⟨_,rfl,show(NF E n.al).ms=[] by rw[TM];exact hk.ms,rfl,.inl ⟨_,he,rfl⟩⟩⟩,λ_=>.inl he,λb _ DC=>by cases DC⟩ λb hb=>by rw[eA.2.2.2.2];simp[hb]
 have AN:tu p n.ck gN n.ds=0:=by omega
 have lM:=lM AN;change fp w4 (bN lD 4) 5 vg oA.rd (kH n.ds p)at lM;have Ez:na p=0:=by
  unfold tu at AN;split at AN<;>omega
 have alD:(iV n.ds [] (fq 1 1 p)).2=0:=by
  unfold tu at AN;split at AN
  ·rename_i h9;exact absurd AN h9
  ·split at AN
   ·rename_i h9;exact absurd AN h9
   omega
 have gW:(kH n.ds p).length<=40:=by
  have h1:=OG (ds:=n.ds) (keys:=fq 1 1 p) (m:=[]);have h2:=FG (a:=1) (b:=1) (p:=p);have h3:=(Am Ez).1;unfold kH mD;rw[af,(mg _).length_eq,af];simp only[br] at h1;omega
 have hfg: ∀g∈kH n.ds p,g.keys.length<=40:=λg hg=>by
  have h1:=acC (aaA 1 1 p) alD;have h2:=Qf (List.mem_map.2 ⟨g,hg,rfl⟩:g.keys.length∈(kH n.ds p).map λg=>g.keys.length);have h3:=FG (a:=1) (b:=1) (p:=p);have h4:=(Am Ez).1;change ((kH n.ds p).map λg=>g.keys.length).sum=_ at h1;omega
 have eA:(NF E n.al).A bx=E/\(NF E n.al).al=n.al/\(NF E n.al).nb=n.nb/\(NF E n.al).c=d/\(NF E n.al).ex=bx::n.ex:=by rw[TM];exact⟨jq,rfl,rfl,rfl,rfl⟩
 have hr:=s4.v.1;have ha:=(s4.va (fY eA.2.2.2.2)).1;rw[eA.2.2.1,eA.2.2.2.1] at hr;rw[eA.1] at ha;have Ao:dM w4 (bN lD 5) nX (NF E n.al).c.ab (λk:bL=>k.v) xz (NF E n.al).al:=s4.get 5;rw[eA.2.1,eA.2.2.2.1] at Ao;repeat' refine aJ ?_;intros
 refine uY (kv:=λk:bL=>k.v) (k:=E.x.aO) (a:=bx) (et:=116) (lp Ao (s4.x _ (by rw[show lD d.ab=5 from Ao.x.1];decide))) Ev (show xz w4 nX (ptr bx 0) bx from rfl) (λ_ h=>h.elim) sJ kQ s4.has λw5 X5 c5 xC=>?_;obtain⟨mE,s5,m5⟩:=s4.De (F':=dX { NF E n.al with al:=cL E.x.aO bx (NF E n.al).al }) 5 c5 (λk e=>by rw[show k=d.ab from e];exact Ao.x.1) (· =d.ab) (λk e=>.inl (by rw[show k=d.ab from e];exact Ao.x.1))
  (λK m=>by
   show dM w5 (· =d.ab) nX (NF E n.al).c.ab (λk:bL=>k.v) xz (cL E.x.aO bx (NF E n.al).al)
   rw[eA.2.1,eA.2.2.2.1];exact lp xC rfl) (aj4 (by rw[eA.2.2.2.2];simp) (by rw[eA.1]))
 replace lM:=fp.mv lM oA.mv m5;obtain⟨N2,Qk⟩: ∃N2:bE,N2=NF E (cL (jk n) bx n.al):=⟨_,rfl⟩;replace s5:Sn w0 own w5 X5 mE N2:=by
  have:({ NF E n.al with al:=cL E.x.aO bx (NF E n.al).al } :bE)=N2:=by rw[eA.2.1,Qk,TM,eE.1,W8]
  rw[<-this];exact s5
 have e2:N2.A bx=E/\N2.nb=n.nb/\N2.c=d/\N2.ex=bx::n.ex/\N2.ds=n.ds/\N2.rm=n.rm/\N2.ra=n.ra/\N2.ms=n.ms/\N2.al=cL (jk n) bx n.al:=by rw[Qk,TM];exact⟨jq,rfl,rfl,rfl,rfl,rfl,rfl,rfl,rfl⟩
 clear hr ha Ao s4 hs eA xC c5;obtain⟨Gd,hG⟩: ∃Gd:Value->List (List Value)->List cO->pe,Gd=λvw rw l=> { E with vw:=vw,rw:=rw,ws:=l.map λm=>m.asked E.x } :=⟨_,rfl⟩;have hG0:Gd aP [] []=E:=by rw[hG];dsimp only;rw[List.map_nil,<-eE.2.2.2.1,<-eE.2.2.1,<-eE.2.1]
 have hs:=s5.rf;have EA:=fp.mv lM oA.mv (Mv.sub (s5.sub 4));have qV:(tW n.ds p).length=(kH n.ds p).length:=by simp[tW]
 repeat' refine ak ?_;intros
 refine eY (λn' a w X=> ∃(i:Nat) (lz:Value) (pJ:List (List Value)) (aI:Nat->Nat) (n1:bE),a=I (i:Nat)/\n'=(kH n.ds p).length-i/\i<=(kH n.ds p).length/\Sn w0 own w X aI n1/\Told (eI N2 bx (Gd lz pJ ((tW n.ds p).take i))) (((tW n.ds p).take i).map λm=>(m.asked E.x).pU (20+d.id)) n1/\pJ.length=i/\fp w (bN aI 4) 5 vg oA.rd (kH n.ds p))
  (kH n.ds p).length ⟨0,aP,[],mE,N2,rfl,rfl,aq _,s5,by rw[List.take_zero,hG0,<-e2.1,TG];exact Told.nil _,rfl,lM⟩ ?_
 clear hs s5 lM EA;rintro n' _ w6 X6 ⟨i,KK,KL,sy,n1,rfl,rfl,hi6,s6,ht,hrw,lM⟩;have hs:=s6.rf;obtain⟨WZ,Qb,wI,KM⟩:=id ht;have e1:n1.nb=n.nb/\n1.c=d/\n1.A bx=Gd KK KL ((tW n.ds p).take i)/\n1.rm.length<=40:=by
  rw[wI];exact⟨e2.2.1,e2.2.2.1,jq,by show Qb.length<=40;rw[KM,show(eI N2 bx _).rm=n.rm from e2.2.2.2.2.2.1,hk.rm,af,aD];simp;omega⟩
 have lL:n1.dI bx:=by rw[wI];exact fY e2.2.2.2.1
 have EA:=fp.mv lM oA.mv (Mv.sub (s6.sub 4));rcases dE (kH n.ds p) i with⟨cD,g,hx,hd⟩|⟨dD,hd⟩
 ·repeat' refine aJ ?_;intros
  refine FH lM hx rfl kQ kQ λbb oo ll qi jv=>?_;obtain⟨Hq,rfl,KI⟩:=jv;obtain⟨s1,s2,s3,rfl⟩:=KI.form;have ovk:aK.one (.slice s1 s2 s3)=true:=KI.one;replace qi:Cells w6 X6 bb oo [I g.oR.id,I g.oR.iD,.float .f64 g.oR.lo,.float .f64 g.oR.hi,.slice s1 s2 s3]:=Cells.mv qi (Mv.sub (s6.sub 4));repeat' refine ak ?_;intros
  have hm8:(AO g).at w6 (bN sy 4) (.slice s1 s2 s3) aP aP aP aP aP aP aP:=⟨KI,Sl.nil _ _ _,Sl.nil _ _ _,Sl.nil _ _ _,Sl.nil _ _ _,fp.nil _ _ _,fp.nil _ _ _,fp.nil _ _ _⟩;have hpx:(tW n.ds p)[i]? =some (AO g):=by unfold tW;rw[List.getElem?_map,hx];rfl
  have hf8:(AO g).Cx:=⟨ad (hfg g (ay hx)) dQ,by simp[AO,BR],by simp[AO,BR],by simp[AO,BR]⟩;rw[<-e1.1];refine s6.call (NR (n:=n1) (b:=bx) (m:=AO g) s6.h s6.x lL hm8 hf8 (by rw[e1.2.1,d1];exact hi) zQ (by rw[e1.2.2.1,hG];dsimp only;omega)) kQ λv w9 X9 lU n9 s9 q9 m9=>?_;obtain⟨vw9,rw9,Qe,W4⟩:=q9;rw[e1.2.2.1,e1.2.1] at W4;clear hs;repeat' refine ak ?_;intros
  refine ep ((kH n.ds p).length-(i+1)) zQ ⟨i+1,vw9,rw9,lU,n9,by simp,rfl,by omega,s9,?_,by rw[Qe,e1.2.2.1,hG];dsimp only;omega,fp.mv lM oA.mv m9⟩;have fN:=ht.set (b:=bx) (e:=Gd vw9 rw9 ((tW n.ds p).take (i+1)));rw[An] at fN;rw[Cy hpx];refine fN.add ?_;rw[hG] at W4⊢;dsimp only;rw[Cy hpx];exact W4
 rw[aA zQ] at ht e1 wI;have e3: ∀d',eI N2 bx d'= { eI n bx d' with c:=d,ck:=iq,al:=cL (jk n) bx n.al,ex:=bx::n.ex } :=λd'=>by
  rw[Qk,TM]
  show({ eI (eI n bx E) bx d' with c:=d,ck:=iq,al:=cL (jk n) bx n.al,ex:=bx::n.ex } :bE)=_
  rw[An]
 have TA: ∀{b},getM (jk n) (cL (jk n) bx n.al)=some b->b=bx:=λh=>by rw[kj] at h;exact(Option.some.inj h).symm
 have ajm:(fq 1 1 p=[])↔(kH n.ds p).length=0:=by
  constructor
  ·intro e;unfold kH mD;rw[af,(mg _).length_eq,af,e];rfl
  ·intro e;cases xD:fq 1 1 p with
   |nil=>rfl
   |cons k r=>
    obtain⟨g,hg,_⟩:=(TE hk.ds alD).rt k (by rw[xD];simp);have:=List.length_pos_of_mem hg;change 0<(kH n.ds p).length at this;omega
 repeat' refine aJ ?_;intros
 refine cB ?_;have hex: ∀{n':bE},n'.ex=bx::n.ex-> ∀b∈n.ex,b∈n'.ex:=λe b hb=>by rw[e];simp[hb]
 have NW:E.x.aO=jk n:=by rw[eE.1];exact W8
 have EF:n1.ex=bx::n.ex/\n1.ra=[]/\n1.al=cL (jk n) bx n.al/\n1.ds=n.ds/\n1.ms=(tW n.ds p).map λm=>(m.asked E.x).pU (20+d.id):=by
  rw[wI];refine⟨e2.2.2.2.1,e2.2.2.2.2.2.2.1.trans hk.ra,e2.2.2.2.2.2.2.2.2,e2.2.2.2.2.1,?_⟩
  show(eI N2 bx _).ms++_=_
  rw[show(eI N2 bx _).ms=n.ms from e2.2.2.2.2.2.2.2.1,hk.ms,cI]
 have eG: ∀vw rw l,(Gd vw rw l).x=E.x/\(Gd vw rw l).ws=(l.map λm=>m.asked E.x)/\(Gd vw rw l).p=p/\(Gd vw rw l).sn=[]/\(Gd vw rw l).ids=[]/\(Gd vw rw l).pq=false:=λvw rw l=>by rw[hG];exact⟨rfl,rfl,eE.2.2.2.2.2.1,eE.2.2.2.2.1,eE.2.2.2.2.2.2.1,eE.2.2.2.2.2.2.2⟩
 by_cases hg0:(kH n.ds p).length=0
 ·have FC:=ajm.2 hg0;have apZ:tW n.ds p=[]:=List.length_eq_zero_iff.1 zQ;rw[apZ] at ht e1 EF wI;have sj:=eG KK KL [];repeat' refine aJ ?_;intros
  rw[<-e1.1];refine s6.call (NN (n:=n1) (b:=bx) s6.h s6.x lL (by rw[e1.2.2.1,sj.1,eE.1]) (by rw[e1.2.2.1,sj.1,sj.2.2.2.2.1,sj.2.2.2.2.2,eE.1];exact⟨rfl,rfl,rfl⟩) (by rw[e1.2.2.1,sj.2.1];rfl) (by rw[e1.2.2.1,sj.2.2.2.1];simp) (by rw[EF.2.2.2.1];exact hk.ds) (by rw[e1.2.1,d1];exact hi) zQ (by rw[EF.2.1];simp) (by rw[e1.2.2.1,sj.2.2.1];exact Ez)) kQ λv w7 X7 Dd n7 s7 q7 m7=>?_;unfold OJ at q7;rw[e1.2.2.1,sj.1,sj.2.2.1,EF.2.2.2.1,e1.2.1] at q7;rw[e1.1];rcases q7 with⟨oB,a,h9,haw,vm7,rm7,rfl,_⟩|⟨ids,pm,vq,vw7,rw7,cA,acK,wP,pf,hio,vm7,rm7,rfl,_⟩
  ·refine xB s7 (.inr sQ) e1.1 (by show(n1.A bx).x.aO=_;rw[e1.2.2.1,sj.1,NW]) ⟨⟨bx,iq,j9 E.x.aO n1.al,vm7,oB,rm7,n1.ra++[a],n1.ms++[],Gd KK KL [],by rw[e3] at wI;subst Jl wI;rfl,TL,.inl ⟨a,by show n1.ra++[a]=_;rw[EF.2.1];rfl,by show n1.ms++[]=_;rw[EF.2.2.2.2];rfl,by show j9 E.x.aO n1.al=_;rw[EF.2.2.1,NW,TH],?_⟩⟩,λ_=>.inr haw,λb _ DC=>by have DC:n1.ra++[a]=[]:=DC;simp at DC⟩ λb hb=>by show b∈bx::n1.ex;rw[EF.1];simp[hb]
   ·rcases h9 with⟨e,he9,rfl⟩|⟨vs,ov9,rfl⟩
    ·exact .inl ⟨e,he9,by rw[NW]⟩
    ·exact .inr ⟨_,vs,ov9,by rw[NW]⟩
  ·have e7: ∀d':pe,eI n1 bx d'= { eI n bx d' with c:=d,ck:=iq,al:=cL (jk n) bx n.al,ex:=bx::n.ex,vm:=WZ,rm:=Qb,ms:=n1.ms } :=λd'=>by
    obtain⟨q,hq⟩: ∃q,q=n1.ms:=⟨_,rfl⟩;have e:n1= { eI N2 bx (Gd KK KL [])with vm:=WZ,rm:=Qb,ms:=q } :=by rw[hq];subst wI;rfl
    rw[<-hq,e]
    show({ eI (eI N2 bx (Gd KK KL [])) bx d' with vm:=WZ,rm:=Qb,ms:=q } :bE)=_
    rw[An,e3]
   rw[e7] at s7;refine xB s7 (.inr sQ) rfl (by show((eI n bx _).A bx).x.aO=_;rw[jq];exact NW) ⟨⟨bx,iq,_,_,_,_,_,_,{ Gd KK KL [] with x:= { E.x with pre:=true,vq:=vq },vw:=vw7,rw:=rw7,ws:=pm.map λm=>m.asked E.x,ids:=ids },by subst Jl;rfl,TL,.inr ⟨hk.ra,rfl,sj.2.2.1,Ez,NW,by show E.x.wO=0;rw[eE.1],by show E.x.mw= .zero;rw[eE.1],⟨sj.2.2.2.1,sj.2.2.2.2.2⟩,?_,?_,?_,λm hm=>?_,.inr ⟨rfl,?_,λm hm=>?_⟩⟩⟩,λDC=>absurd hk.ra DC,λb hb _ _=>?_⟩ λb hb=>by simp[hb]
   ·show n1.ms++_=_
    rw[EF.2.2.2.2,List.map_nil,cI,bU];rfl
   ·intro e;have:pm=[]:=List.map_eq_nil_iff.1 e;rw[this] at wP;exact cA wP.symm
   ·show(pm.map _).length<=80
    rw[af,<-af (f:=λm:cO=>m.range),wP];exact acK
   ·obtain⟨m0,KQ,rfl⟩:=List.mem_map.1 hm;have hq:=(pf m0 KQ).2.2;exact⟨NW,hq.keys,hq.seen,hq.writes,hq.parts⟩
   ·show(pm.map _).map _=ids
    rw[<-wP,bU];rfl
   ·obtain⟨m0,KQ,rfl⟩:=List.mem_map.1 hm;exact⟨(pf m0 KQ).1,(pf m0 KQ).2.1⟩
   ·have e:=TA hb;subst e
    show Ij p n.ds ((eI n _ _).A _).ids
    rw[jq];exact hio
 ·repeat' refine aJ ?_;intros
  have sj:=eG KK KL (tW n.ds p);rw[e3] at wI;refine xB s6 lL e1.1 (by rw[e1.2.2.1,sj.1,NW]) ⟨⟨bx,iq,n1.al,n1.vm,n1.va,n1.rm,n1.ra,n1.ms,Gd KK KL (tW n.ds p),by subst Jl wI;rfl,TL,.inr ⟨EF.2.1,EF.2.2.1,sj.2.2.1,Ez,by rw[sj.1,NW],by rw[sj.1,eE.1],by rw[sj.1,eE.1],⟨sj.2.2.2.1,sj.2.2.2.2.2⟩,?_,?_,?_,λm hm=>?_,.inl ⟨by rw[sj.1,eE.1],by rw[sj.1,eE.1],sj.2.2.2.2.1,λm hm=>?_,λe=>hg0 (ajm.1 e)⟩⟩⟩,λDC=>absurd EF.2.1 DC,λb hb DC hp=>?_⟩ (hex EF.1)
  ·show n1.ms=_
   rw[EF.2.2.2.2,sj.2.1,bU,d1];rfl
  ·rw[sj.2.1];intro e;have:(tW n.ds p).length=0:=by have:=congrArg ba e;simpa using this
   omega
  ·rw[sj.2.1,af];omega
  ·rw[sj.2.1] at hm;obtain⟨m0,KQ,rfl⟩:=List.mem_map.1 hm;obtain⟨g,hg,rfl⟩:=List.mem_map.1 KQ;exact⟨NW,ad (hfg g hg) dQ,by simp[AO,BR,cO.asked],by simp[AO,BR,cO.asked],by simp[AO,BR,cO.asked]⟩
  ·rw[sj.2.1] at hm;obtain⟨m0,KQ,rfl⟩:=List.mem_map.1 hm;obtain⟨g,_,rfl⟩:=List.mem_map.1 KQ;rfl
  ·have hb:getM (jk n) n1.al=some b:=hb;rw[EF.2.2.1] at hb;have e:=TA hb;subst e;have hp:(n1.A _).x.pre=true:=hp;rw[e1.2.2.1,sj.1,eE.1] at hp;cases hp
end
variable {i : Nat} {rs : List (List Value)} {hv : Value} {F : XS}
theorem NY (own:Own w F 0 54 36 hv rs) (hF: ∀k,F k->X k) (hi:i<rs.length) (hr: ∀r∈rs,∀u∈r,aK.one u=true):
  Ct pg 103 #[hv,I (i:Nat),I ((i+1:Nat):Int)] w X (fc hv) λv wa w'=>Own w' (fc hv) 0 54 36 v (rs.take i++rs.drop (i+1))/\v.ownBlock=hv.ownBlock:=by
 intro w0 hk;have bZ:=own.mv ((Mv.sub hF).trans hk.bY);have hT:Ft w0 (fc hv) w0 (bI w0) (fc hv):=Ft.init λk ah=>(bZ.ge ah).2;have oC:=bZ.sl;have qV: ∀r∈rs,r.length=36:=bZ.1;have Ql:(i:Int)+1=((i+1:Nat):Int):=by simp
 refine yk.1 λhs=>?_;rcases bZ.row with⟨_,h⟩|⟨g,cap,cs,rfl,gw,bo,pL,iF,jm,uG⟩
 ·rw[h] at hi;simp at hi
 have ap0:Sl w0 (bI w0) 36 (.slice (some ⟨g,0,none⟩) rs.length cap) (rs.map id):=by simpa using oC
 repeat' refine ak ?_;intros
 refine abw (i:=i) (j:=i+1) (q:=rs.length) rfl sQ rfl zQ zQ pL kQ kQ λ_=>?_;repeat' refine aJ ?_;intros
 refine KR (i:=i) rfl zQ kQ kQ ?_;refine abx oC (i:=i+1) sQ zQ kQ kQ λv2 bp=>?_;have EG:(rs.drop (i+1)).length=rs.length-(i+1):=bV;have hD:((rs.drop (i+1)).flatten).length=(rs.length-(i+1))*36:=by rw[lE λr jP=>qV r (di jP),EG]
 have hA:((rs.take i).flatten).length=i*36:=by rw[lE λr jP=>qV r (dN jP),aD];congr 1;omega
 refine W9 (k:=36) (n:=i) kQ bo bp (λq hq u hu=>hr q (di hq) u hu) zQ zQ hs.has λw1 X1 c1 oO=>?_;have ea:=hT.dY c1 (λk ah=>ah.symm▸rfl) (F':=fc (.slice (some ⟨g,0,none⟩) rs.length cap)) λk ah=>.inl ah;rw[show i+(rs.drop (i+1)).length=rs.length-1 by omega];rw[show 0+i*36=i*36 by omega] at oO;have ahn:cs.take (i*36)=(rs.take i).flatten:=by
  have h1:=congrArg (zG (i*36)) uG;rw[xA,kr (cW _ zQ)] at h1;rw[h1];have KS:rs.flatten=(rs.take i).flatten++(rs.drop i).flatten:=by rw[<-dW,gY]
  rw[KS,gV zQ,aA zQ]
 have qi:i*36+(rs.length-(i+1))*36=(rs.length-1)*36:=by rw[<-je];congr 1;omega
 have Io:(bO cs (i*36) (rs.drop (i+1)).flatten).take ((rs.length-1)*36)=(rs.take i++rs.drop (i+1)).flatten:=by
  unfold bO;rw[ahn,dW,gV (by rw[aa,hA,hD];omega),aA (by rw[aa,hA,hD];omega)]
 have BS:(bO cs (i*36) (rs.drop (i+1)).flatten).length=cap*36:=by
  unfold bO;have hb:(rs.length-1)*36<=cap*36:=cW _ zQ;simp only[aa,aD,bV,hD,jm];omega
 have KT: ∀r∈rs.take i++rs.drop (i+1),r.length=36:=λr jP=>(List.mem_append.1 jP).elim (λe=>qV r (dN e)) λe=>qV r (di e);have zm:(rs.take i++rs.drop (i+1)).length=rs.length-1:=by rw[aa,aD,EG];omega
 have uH:Own w1 X1 0 54 36 (.slice (some ⟨g,0,none⟩) (rs.length-1) cap) (rs.take i++rs.drop (i+1)):=Own.Hw oO (aq _) KT zm zQ iF BS Io;have ax:Sl w1 X1 36 (.slice (some ⟨g,0,none⟩) (rs.length-1) cap) ((rs.take i++rs.drop (i+1)).map id):=by simpa using uH.sl
 clear hs;have hs:=ai.eQ ea.s.has;repeat' refine ak ?_;intros
 rw[zm];refine Xa (k:=36) (i:=rs.length-1) (j:=rs.length) rfl rfl zQ pL zQ kQ kQ ?_;rw[show rs.length-(rs.length-1)=1 by omega,show 0+(rs.length-1)*36=(rs.length-1)*36 by omega];have acM:(rs.length-1)*36+1*36<=cap*36:=by rw[<-je];exact cW _ zQ
 refine Xb (k:=36) (bytes:=416) (e:=54) (o:=(rs.length-1)*36) (n:=1) oO kQ kQ zQ (by rw[BS];exact acM) ea.s.has λw2 X2 zs hzl c2 jC=>?_;have dh:=ea.dY c2 (λk ah=>ah.symm▸rfl) (F':=nX) λk ah=>ah.elim;have xx:(bO (bO cs (i*36) (rs.drop (i+1)).flatten) ((rs.length-1)*36) zs).length=cap*36:=by
  rw[<-BS];generalize bO cs (i*36) (rs.drop (i+1)).flatten=q at BS⊢;unfold bO;simp only[aa,aD,bV,hzl];omega
 have xE:(bO (bO cs (i*36) (rs.drop (i+1)).flatten) ((rs.length-1)*36) zs).take ((rs.length-1)*36)=(rs.take i++rs.drop (i+1)).flatten:=by
  rw[<-Io];generalize bO cs (i*36) (rs.drop (i+1)).flatten=q at BS⊢;unfold bO;rw[ao,gV (by rw[aD];omega),aA (by rw[aD];omega)]
 have ju:Own w2 X2 0 54 36 (.slice (some ⟨g,0,none⟩) (rs.length-1) cap) (rs.take i++rs.drop (i+1)):=Own.Hw jC (aq _) KT zm zQ iF xx xE;exact dh.fin λwa aH=>⟨xy (ju.kp aH) λg' rA=>rA,rfl⟩
theorem aaC (own:Own w F 0 3 1 hv rs) (hF: ∀k,F k->X k) (hi:i<rs.length) (hr: ∀r∈rs,∀u∈r,aK.one u=true):
  Ct pg 108 #[hv,I (i:Nat),I ((i+1:Nat):Int)] w X (fc hv) λv wa w'=>Own w' (fc hv) 0 3 1 v (rs.take i++rs.drop (i+1))/\v.ownBlock=hv.ownBlock:=by
 intro w0 hk;have bZ:=own.mv ((Mv.sub hF).trans hk.bY);have hT:Ft w0 (fc hv) w0 (bI w0) (fc hv):=Ft.init λk ah=>(bZ.ge ah).2;have oC:=bZ.sl;have qV: ∀r∈rs,r.length=1:=bZ.1;have Ql:(i:Int)+1=((i+1:Nat):Int):=by simp
 refine Cz.1 λhs=>?_;rcases bZ.row with⟨_,h⟩|⟨g,cap,cs,rfl,gw,bo,pL,iF,jm,uG⟩
 ·rw[h] at hi;simp at hi
 have ap0:Sl w0 (bI w0) 1 (.slice (some ⟨g,0,none⟩) rs.length cap) (rs.map id):=by simpa using oC
 repeat' refine ak ?_;intros
 refine abw (i:=i) (j:=i+1) (q:=rs.length) rfl sQ rfl zQ zQ pL kQ kQ λ_=>?_;repeat' refine aJ ?_;intros
 refine KR (i:=i) rfl zQ kQ kQ ?_;refine abx oC (i:=i+1) sQ zQ kQ kQ λv2 bp=>?_;have EG:(rs.drop (i+1)).length=rs.length-(i+1):=bV;have hD:((rs.drop (i+1)).flatten).length=(rs.length-(i+1))*1:=by rw[lE λr jP=>qV r (di jP),EG]
 have hA:((rs.take i).flatten).length=i*1:=by rw[lE λr jP=>qV r (dN jP),aD];congr 1;omega
 refine W9 (k:=1) (n:=i) kQ bo bp (λq hq u hu=>hr q (di hq) u hu) zQ zQ hs.has λw1 X1 c1 oO=>?_;have ea:=hT.dY c1 (λk ah=>ah.symm▸rfl) (F':=fc (.slice (some ⟨g,0,none⟩) rs.length cap)) λk ah=>.inl ah;rw[show i+(rs.drop (i+1)).length=rs.length-1 by omega];rw[show 0+i*1=i*1 by omega] at oO;have ahn:cs.take (i*1)=(rs.take i).flatten:=by
  have h1:=congrArg (zG (i*1)) uG;rw[xA,kr (cW _ zQ)] at h1;rw[h1];have KS:rs.flatten=(rs.take i).flatten++(rs.drop i).flatten:=by rw[<-dW,gY]
  rw[KS,gV zQ,aA zQ]
 have qi:i*1+(rs.length-(i+1))*1=(rs.length-1)*1:=by rw[<-je];congr 1;omega
 have Io:(bO cs (i*1) (rs.drop (i+1)).flatten).take ((rs.length-1)*1)=(rs.take i++rs.drop (i+1)).flatten:=by
  unfold bO;rw[ahn,dW,gV (by rw[aa,hA,hD];omega),aA (by rw[aa,hA,hD];omega)]
 have BS:(bO cs (i*1) (rs.drop (i+1)).flatten).length=cap*1:=by
  unfold bO;have hb:(rs.length-1)*1<=cap*1:=cW _ zQ;simp only[aa,aD,bV,hD,jm];omega
 have KT: ∀r∈rs.take i++rs.drop (i+1),r.length=1:=λr jP=>(List.mem_append.1 jP).elim (λe=>qV r (dN e)) λe=>qV r (di e);have zm:(rs.take i++rs.drop (i+1)).length=rs.length-1:=by rw[aa,aD,EG];omega
 have uH:Own w1 X1 0 3 1 (.slice (some ⟨g,0,none⟩) (rs.length-1) cap) (rs.take i++rs.drop (i+1)):=Own.Hw oO (aq _) KT zm zQ iF BS Io;have ax:Sl w1 X1 1 (.slice (some ⟨g,0,none⟩) (rs.length-1) cap) ((rs.take i++rs.drop (i+1)).map id):=by simpa using uH.sl
 clear hs;have hs:=ai.eQ ea.s.has;repeat' refine ak ?_;intros
 rw[zm];refine Xa (k:=1) (i:=rs.length-1) (j:=rs.length) rfl rfl zQ pL zQ kQ kQ ?_;rw[show rs.length-(rs.length-1)=1 by omega,show 0+(rs.length-1)*1=(rs.length-1)*1 by omega];have acM:(rs.length-1)*1+1*1<=cap*1:=by rw[<-je];exact cW _ zQ
 refine Xb (k:=1) (bytes:=8) (e:=3) (o:=(rs.length-1)*1) (n:=1) oO kQ kQ zQ (by rw[BS];exact acM) ea.s.has λw2 X2 zs hzl c2 jC=>?_;have dh:=ea.dY c2 (λk ah=>ah.symm▸rfl) (F':=nX) λk ah=>ah.elim;have xx:(bO (bO cs (i*1) (rs.drop (i+1)).flatten) ((rs.length-1)*1) zs).length=cap*1:=by
  rw[<-BS];generalize bO cs (i*1) (rs.drop (i+1)).flatten=q at BS⊢;unfold bO;simp only[aa,aD,bV,hzl];omega
 have xE:(bO (bO cs (i*1) (rs.drop (i+1)).flatten) ((rs.length-1)*1) zs).take ((rs.length-1)*1)=(rs.take i++rs.drop (i+1)).flatten:=by
  rw[<-Io];generalize bO cs (i*1) (rs.drop (i+1)).flatten=q at BS⊢;unfold bO;rw[ao,gV (by rw[aD];omega),aA (by rw[aD];omega)]
 have ju:Own w2 X2 0 3 1 (.slice (some ⟨g,0,none⟩) (rs.length-1) cap) (rs.take i++rs.drop (i+1)):=Own.Hw jC (aq _) KT zm zQ iF xx xE;exact dh.fin λwa aH=>⟨xy (ju.kp aH) λg' rA=>rA,rfl⟩
theorem aaD {b:Value} {ks:List BA} {sn:List fe} (ha:Sl w X 1 a (ks.map S1)) (hb:Sl w X 7 b (sn.map fe.l)):
  Ct pg 101 #[a,b,.func (.func 102) #[] #[]] w X nX λv _ _=> ∃e,v=B e:=by
 intro w0 hk;replace ha:=ha.mv hk.bY;replace hb:=hb.mv hk.bY;have kn:=ha.gR;have Jr: ∀{k:BA} {x:fe} {w1:World} {X1:XS},Ct pg 102 #[.string k,.agg x.l.toArray] w1 X1 nX λv _ _=>v=B (decide (k=x.key)):=by
  intro k x w1 X1 w0 hk;have hs:=ai.init w0;refine Hx.1 λ_=>?_;repeat' first|refine ak ?_;intros|refine cM ?_ ?_<;>intros|(refine qr ?_;intro wa hk;(congr 1;simp_all))
 refine oD.1 λhs=>?_;repeat' first|refine ak ?_;intros|refine cM ?_ ?_<;>intros|(refine qr ?_;intro wa hk;exact⟨_,rfl⟩)
 refine eY (λn a w X=> ∃i:Nat,a=I (i:Nat)/\n=(ks).length-i/\i<=(ks).length/\ai (bI w0) w0 X w/\True) (ks).length ⟨0,rfl,rfl,aq _,hs,by trivial⟩ ?_;rintro n a w X ⟨i,rfl,rfl,hi,hs,hw⟩;rcases dE (ks) i with⟨cD,k,hx,hd⟩|⟨dD,hd⟩
 ·obtain⟨x,WM,_⟩: ∃x,sn[i]? =some x/\sn.drop i=x::sn.drop (i+1):=(dE sn i).elim (λh=>h.2) λh=>by omega
  repeat' first|refine aJ ?_;intros|(refine qr ?_;intro wa hk;exact⟨_,rfl⟩)|((with_reducible refine ep ((ks).length-(i+1)) ?_ ?_);omega;exact⟨i+1,by simp,rfl,by omega,hs,trivial⟩)|(refine qk (Jr (k:=k) (x:=x)) hs ?_ ?_<;>intro _ w X hs)
 ·repeat' first|refine aJ ?_;intros|(refine qr ?_;intro wa hk;exact⟨_,rfl⟩)
variable {rows : List (List Value)}
theorem fQ.cut {K:XS} {ms:List cO} (h:fQ w K rows ms) (i:Nat):fQ w K (rows.take i++rows.drop (i+1)) (ms.take i++ms.drop (i+1)):=by
 refine⟨by simp[h.1],λj l x hl hx=>?_⟩;by_cases hj:j<min i rows.length
 ·rw[dT (by simpa using hj)] at hl;rw[dT (by rw[aD,<-h.1];exact hj)] at hx;rw[fP zQ] at hl hx;exact h.2 j l x hl hx
 ·rw[cZ (by simpa using Nat.le_of_not_lt hj)] at hl;rw[cZ (by rw[aD,<-h.1];omega)] at hx;rw[aD,gr] at hl hx;rw[<-h.1] at hx;exact h.2 _ l x hl hx
def AS (d:pe) (i:Nat) (m:cO) (CA lz:Value) (pJ:List (List Value)):pe:= { d with x:= { d.x with vs:=CA },vw:=lz,rw:=pJ,ws:=d.ws.take i++d.ws.drop (i+1),sn:=d.sn++m.seen }
def acN (n:bE) (m:cO) (n':bE):Prop:=
 (∃iq,n'= { n with ck:=iq })\/DR n m false n'\/ ∃(b i:Nat) (y:cO) (iq:cx) (CA lz:Value) (pJ:List (List Value)) (n1:bE),DS n m false b i y/\n1= { eI n b (AS (n.A b) i m CA lz pJ)with ck:=iq } /\
  (((n.A b).ws.length≠1/\n'=n1)\/((n.A b).ws.length=1/\ ∃n2,OJ n1 b n2/\n'= { n2 with ex:=n.ex }))
variable {m : cO}
section
variable {n : bE}
theorem sT.get {N:Nat} (h:sT N M n) (hN:N<=2^20):n.ra.length<=2^20/\ ∀b,getM m.aO n.al=some b->n.rm.length+(n.A b).ids.length<=2^20:=by
 rw[h.ra,h.rm];exact⟨by simp,λb hg=>by have:=(h.act _ b hg).ids;simp;omega⟩
theorem Xd {vk vs vw vp vr vc vh vd:Value} {N:Nat} (h:jd w own n) (hX:qW own X) (hm:m.at w (bN own 4) vk vs vw vp vr vc vh vd) (fN:m.aS.may=true) (hk:sT N M n) (hN:N+m.seen.length<=2^20):
  Ct pg 55 #[ptr n.nb 0,m.v vk vs vw vp vr vc vh vd] w X (gy own) λ_ wa w'=>NQ dX own wa w' λ_ n'=>acN n m n':=by
 intro w0 ix;have s0:=St.init h hX ix;replace hm:=hm.mv (yG hX ix);have hi:1<=n.c.id/\n.c.id<=2:=by rw[hk.id];decide
 clear h hX ix;refine KU.1 λ_=>?_;refine s0.call (Hy s0.h s0.x hk.pre fN hm.ranges hi (hk.get (m:=m) zQ).1 (λb hb=>(hk.act _ b hb).pq) (hk.get zQ).2) kQ λv w1 X1 il n1 s1 q1 m1=>?_;rcases q1 with⟨rfl,q1⟩|⟨b,i,y,iq,hw,rfl,rfl⟩
 ·have hs:=s1.rf;repeat' first|refine ak ?_;intros|with_reducible apply cB
  exact s1.fin λ_ _=>q1.elim (λ⟨c,e,_⟩=>.inl ⟨c,e⟩) λe=>.inr (.inl e)
 replace hm:=hm.mv m1;have hb:n.dI b:=.inl ⟨_,hw.g⟩;have CB:=hk.act _ b hw.g;have ap3:=CB.ws;have asx:=CB.sn;have ny:=s1.h.act (b:=b) hb;have Hp:(n.A b).rw.length=(n.A b).ws.length:=ny.2.2.2.1.1;have pK:i<(n.A b).ws.length:=(List.getElem?_eq_some_iff.1 hw.gK).1;obtain⟨l,hl⟩: ∃l,(n.A b).rw[i]? =some l:=⟨_,List.getElem?_eq_getElem zQ⟩;obtain⟨uk,us,uw,up,ur,uc,uh,ud,rfl,dF⟩:=ny.2.2.2.1.2 i l y hl hw.gK;have ap4:Sl w1 X1 36 (n.A b).vw ((n.A b).rw.map id):=by rw[List.map_id];exact ny.2.1.sl.mono (s1.sub _ iy.1)
 obtain⟨ha,oa⟩:=s1.va (b:=b) hb;clear ny;have hs:=s1.rf;repeat' first|refine ak ?_;intros|with_reducible apply cB
 refine cd (aaD (dF.keys.mono (s1.sub 4)) (hm.seen.mono (s1.sub 4))) kQ hs.has ?_;rintro v vM w2 X2 ⟨e,rfl⟩ kF jt bp;have s2:=s1.since (hs.trans bp);replace hm:=hm.mv ((hs.trans bp).gU (s1.sub 4));clear hs bp ap4 ha s1;have hs:=s2.rf;cases e
 ·repeat' refine ak ?_;intros
  exact s2.fin λ_ _=>.inl ⟨iq,rfl⟩
 obtain⟨ha,oa⟩:=s2.va (b:=b) hb;repeat' refine ak ?_;intros
 refine s2.ap1 (tx b 0) (tx b 2) 0 (s2.h.act (b:=b) hb).1 (s2.h.act (b:=b) hb).2.2.1 (hm.seen.mono (s2.sub 4)) (λr hr u hu=>?_) (by simp only[af];omega) (λv=>dX (eI { n with ck:=iq } b { n.A b with x:= { (n.A b).x with vs:=v },sn:=(n.A b).sn++m.seen })) (λ_ _ _ _ h=>qD dQ h) (λ_ _ _ _ h=>qD dQ (by show Own _ _ 0 snT 7 _ (((n.A b).sn++m.seen).map fe.l);rw[List.map_append];exact h)) (λ_ _ _ _ _ h=>h) (λv'=>Ik) (λv5 w5 X5 mE s5 m5=>?_) (yE:=by unfold tx;omega)
 ·obtain⟨x,_,rfl⟩:=List.mem_map.1 hr;simp only[List.mem_cons,List.not_mem_nil,or_false] at hu;rcases hu with rfl|rfl|rfl|rfl|rfl|rfl|rfl<;>rfl
 clear hs s2 ha;have hs:=s5.rf;obtain⟨ha,oa⟩:=s5.vs (n:= { n with ck:=iq }) hb;have hh:fQ w5 (bN mE 4) (n.A b).rw (n.A b).ws:=by have:=(s5.h.act (b:=b) hb).2.2.2.1;rw[jq] at this;exact this
 repeat' refine ak ?_;intros
 have ny:=s5.h.act (b:=b) hb;rw[jq] at ny;refine s5.aho (tx b 0) (tx b 1) (tx b 3) ny.1 ny.2.1 (NY (F:=X5) (ny.2.1.mono (s5.sub _ iy.1)) (λ_ h=>h) (by show i<(n.A b).rw.length;omega) hh.Xe) (λv=>dX (eI { n with ck:=iq } b (AS (n.A b) i m v5 v ((n.A b).rw.take i++(n.A b).rw.drop (i+1))))) (λ_ _ _ _ h=>qD dQ h) (λ_ _ _ _ h=>qD dQ h)
  (λv' w' K A mv p=>qD dQ (by rw[vN _ _ _ dQ] at p;have p:=p hb;rw[jq] at p;exact⟨(hh.cut i).mv mv,p.2⟩)) (λv'=>Qa) (λv8 w8 X8 OK s8 m8=>?_) (yE:=by unfold tx;omega)
 clear hs ha ny hh s5;have hs:=s8.rf;obtain⟨n3,sk⟩: ∃n3:bE,n3= { eI n b (AS (n.A b) i m v5 v8 ((n.A b).rw.take i++(n.A b).rw.drop (i+1)))with ck:=iq } :=⟨_,rfl⟩;replace s8:Sn w0 own w8 X8 OK n3:=by rw[sk];exact s8
 have e3:n3.A b=AS (n.A b) i m v5 v8 ((n.A b).rw.take i++(n.A b).rw.drop (i+1))/\n3.nb=n.nb/\n3.ex=n.ex:=by rw[sk];exact⟨jq,rfl,rfl⟩
 have rD:n3.dI b:=by rw[sk];exact hb
 obtain⟨ha,oa⟩:=s8.va rD;have hl7:((n.A b).rw.take i++(n.A b).rw.drop (i+1)).length=(n.A b).ws.length-1:=by simp;omega
 have asy:Sl w8 X8 36 v8 (((n.A b).rw.take i++(n.A b).rw.drop (i+1)).map id):=by have:=(s8.h.act rD).2.1.sl.mono (s8.sub _ iy.1);rw[e3.1] at this;rw[List.map_id];exact this
 rw[e3.1] at ha;by_cases h1:(n.A b).ws.length=1
 ·have hq:=CB.q hw.pre;repeat' refine aJ ?_;intros
  rw[<-e3.2.1];refine s8.call (NN (n:=n3) (b:=b) s8.h s8.x rD (by rw[e3.1];exact hw.pre) (by rw[e3.1];exact⟨hq.1,hq.2,CB.pq⟩) (by rw[e3.1];exact List.length_eq_zero_iff.1 (by simp[AS];omega)) (by rw[e3.1];simp[AS];omega) (by rw[sk];exact hk.ds) (by rw[sk];exact hi) (by rw[sk];show n.rm.length<=_;rw[hk.rm];simp) (by rw[sk];show n.ra.length<=_;rw[hk.ra];simp) (by rw[e3.1];exact CB.p)) kQ λv w4 X4 lD n4 s4 q4 _=>?_;have s5:=s4.to (Hv (e':=n.ex) λb' dZ=>by
   rcases q4 with⟨_,_,_,_,_,_,rfl,_⟩|⟨_,_,_,_,_,_,_,_,_,_,_,_,rfl,_⟩
   ·show b'∈b::n3.ex;rw[e3.2.2];simp[dZ]
   ·show b'∈n3.ex;rw[e3.2.2];exact dZ)
  exact s5.fin λ_ _=>.inr (.inr ⟨b,i,y,iq,_,_,_,n3,hw,sk,.inr ⟨h1,n4,q4,rfl⟩⟩)
 ·repeat' refine aJ ?_;intros
  exact s8.fin λ_ _=>.inr (.inr ⟨b,i,y,iq,_,_,_,n3,hw,sk,.inl ⟨h1,rfl⟩⟩)
end
def uI (n:Int):Prop:= -9223372036854775808<=n/\n<9223372036854775808
variable {n : Int}
theorem aby (h:uI n) (h0:0<=n):(xF n:Int)=2*n:=by
 unfold uI at h;unfold xF;rw[if_neg zQ];omega
theorem abz (h:uI n) (h0:n<0):(xF n:Int)= -1-2*n:=by
 unfold uI at h;unfold xF;rw[if_pos h0];omega
variable {u : Nat}
theorem abA (h:u<128):pW u=[u]:=by rw[pW,if_pos h]
theorem abB (h: ¬u<128):pW u=(u % 128+128)::pW (u/128):=by rw[pW,if_neg h]
variable {P : Program} {N : Value -> Prop} {t : TypeId} {z : Int} {c k : Nat}
theorem alE: ∀b:Nat,b<256->(aF 8 (b:Int)&&& aF 8 127).toNat=b % 128:=by decide+kernel
theorem ahp (hb:b<256) (h:N (.int .u8 ((b % 128:Nat):Int))):aV P X w (binOp .and t (.int .u8 (b:Int)) (.int .u8 127)) N:=
 MB (by
  have e:IntKind.u8.wrap (aF IntKind.u8.bits (b:Int)&&& aF IntKind.u8.bits 127).toNat=((b % 128:Nat):Int):=by
   rw[MF];have:=alE b hb
   show((aF 8 (b:Int)&&& aF 8 127).toNat:Int) % 256=_
   rw[this];omega
  grind)
theorem alF (hu:u<18446744073709551616) (h:N (.int .u64 ((u % 2:Nat):Int))):aV P X w (binOp .and t (.int .u64 (u:Int)) (.int .u64 1)) N:=
 MB (by
  have e:IntKind.u64.wrap (aF IntKind.u64.bits (u:Int)&&& aF IntKind.u64.bits 1).toNat=((u % 2:Nat):Int):=by
   rw[wrap64];have h1:(aF 64 (u:Int))=rG 64 u:=by simp
   have h2:(aF 64 1)=rG 64 1:=by decide
   show((aF 64 (u:Int)&&& aF 64 1).toNat:Int) % 18446744073709551616=_
   rw[h1,h2,BitVec.toNat_and,iL,iL,fy (by omega:u<2^64)];have:u&&& 1 % 2^64=u % 2:=Nat.and_one_is_mod u;rw[this];omega
  grind)
theorem alG {a b:Int} (h1: -9223372036854775808<=a*b) (h2:a*b<9223372036854775808) (h:N (I (a*b))):aV P X w (binOp .mul t (I a) (I b)) N:=
 RW (by
  have e:IntKind.i64.wrap (a*b)=a*b:=by
   simp only[zR,mF,jQ];simp;omega
  grind)
theorem alH (k:Nat):2^(7*k)=128^k:=by rw[Nat.pow_mul]
theorem alI (hz:z=7*(k:Int)) (hk:k<=9) (hc:c*128^k<18446744073709551616) (h:N (.int .u64 ((c*128^k:Nat):Int))):aV P X w (binOp .shl t (.int .u64 (c:Int)) (I z)) N:=
 RY zQ (by
  rw[wrap64];have e:((c:Int)*2^min z.toNat IntKind.u64.bits) % 18446744073709551616=((c*128^k:Nat):Int):=by
   have h1:min z.toNat IntKind.u64.bits=7*k:=by
    show min z.toNat 64=7*k
    omega
   rw[h1];have h2:(2:Int)^(7*k)=((128^k:Nat):Int):=by rw[<-alH];simp
   rw[h2,<-Int.natCast_mul];omega
  grind)
theorem aj5 (hz:z=7*(k:Int)) (hk:k<=9) (ni:c<256) (hc:c*128^k<18446744073709551616) (h:N (.int .u64 ((c*128^k:Nat):Int))):aV P X w (binOp .shl t (.int .u64 (IntKind.u64.wrap (c:Int))) (I z)) N:=by
 have e:IntKind.u64.wrap (c:Int)=c:=by rw[wrap64];omega
 rw[e];exact alI hz hk hc h
theorem ae9 {a:Nat} (ha:a<2^k):a|||c*2^k=a+c*2^k:=by
 have:=Nat.two_pow_add_eq_or_of_lt ha c;rw[Nat.or_comm,Nat.add_comm,zP];omega
theorem aj6 {a:Nat} (ha:a<128^k) (cD:a+c*128^k<18446744073709551616) (h:N (.int .u64 ((a+c*128^k:Nat):Int))):aV P X w (binOp .or t (.int .u64 (a:Int)) (.int .u64 ((c*128^k:Nat):Int))) N:=
 Qm (by
  have e:IntKind.u64.wrap (aF IntKind.u64.bits (a:Int)|||aF IntKind.u64.bits ((c*128^k:Nat):Int)).toNat=((a+c*128^k:Nat):Int):=by
   rw[wrap64];have h1:(aF 64 (a:Int))=rG 64 a:=by simp
   have h2:(aF 64 ((c*128^k:Nat):Int))=rG 64 (c*128^k):=by rw[BitVec.ofInt_natCast]
   show((aF 64 (a:Int)|||aF 64 ((c*128^k:Nat):Int)).toNat:Int) % 18446744073709551616=_
   rw[h1,h2,BitVec.toNat_or,iL,iL,fy (by omega:a<2^64),fy (by omega:c*128^k<2^64)];have:a|||c*128^k=a+c*128^k:=by rw[<-alH] at ha⊢;exact ae9 ha
   rw[this];omega
  grind)
theorem alJ (h:N (.int .u64 ((u/2:Nat):Int))):aV P X w (binOp .shr t (.int .u64 (u:Int)) (.int .u64 1)) N:=
 Ea zQ (by
  have e:((u:Int)).fdiv (2^min (1:Int).toNat IntKind.u64.bits)=((u/2:Nat):Int):=by
   show((u:Int)).fdiv 2=_
   rw[Int.fdiv_eq_ediv_of_nonneg _ dQ];omega
  grind)
theorem VU (hu:u<9223372036854775808):IntKind.i64.wrap (u:Int)=u:=by
 simp only[zR,mF,jQ];simp;omega
theorem alK (hu:u<9223372036854775808) (h:N (I (-1-(u:Int)))):aV P X w (Op.unary .xor (I (IntKind.i64.wrap (u:Int)))) N:=by
 rw[VU hu];refine bF (v:=I (-1-(u:Int))) (λwa=>?_) h;have key:(aF 64 (-1)^^^aF 64 (u:Int)).toNat=18446744073709551615-u:=by
  have h1:aF 64 (-1)=BitVec.allOnes 64:=by decide
  have h2:(aF 64 (u:Int))=rG 64 u:=by simp
  rw[h1,h2,BitVec.allOnes_xor,BitVec.toNat_not,iL,fy zQ]
 have hk:(Op.unary .xor (I (u:Int))).run P wa= .ok (I (IntKind.i64.wrap (aF 64 (-1)^^^aF 64 (u:Int)).toNat)) wa:=by
  simp only[Op.unary,Op.intBits,jQ,mF];rfl
 rw[hk,key];have:IntKind.i64.wrap ((18446744073709551615-u:Nat):Int)= -1-(u:Int):=by
  simp only[zR,mF,jQ];simp;omega
 rw[this]
structure Bv (w:World) (X:XS) (rb:Nat) (vb:Value) (at_:Nat) (pl:Int) (bs:List Nat):Prop where
 box:aG w X rb [vb,I at_,I 0,I pl] 315
 ow:Ow w X 5 1 vb (bs.map U1)
 le:at_<=bs.length
 sz:bs.length<=2^40
 lt: ∀b∈bs,b<256
variable {bs : List Nat} {pl : Int} {vb : Value} {at_ rb : Nat}
def Bv.mv {Y:XS} (h:Bv w X rb vb at_ pl bs) (m:Mv X w Y w'):Bv w' Y rb vb at_ pl bs:=⟨h.box.mv m,h.ow.mv m,h.le,h.sz,h.lt⟩
variable {gK : Nat}
theorem Bv.next {pl':Int} (h:Bv w X rb vb at_ pl bs) (c:ee (λk=>k=rb) X w X' w') (hr:aG w' X' rb [vb,I gK,I 0,I pl'] 315) (hl:gK<=bs.length):
  Bv w' X' rb vb gK pl' bs:=⟨hr,h.ow.dY c λg hg e=>h.ow.eT h.box (by rfl) (e▸hg),hl,h.sz,h.lt⟩
variable {tl : List Nat}
theorem Js (h:Bv w X rb vb at_ pl bs) (he:bs.drop at_=encI n++tl) (hn:uI n):
  Ct pg 325 #[ptr rb 0,I at_] w X nX λv _ _=>v= .tuple #[I n,I ((at_+(encI n).length:Nat):Int),B true]:=by
 intro w0 hk;replace h:=h.mv hk.bY;have hb:=h.box;have oC:=h.ow.sl;have gh:=h.sz;have hz:=afa n;refine Hz.1 λhs=>?_;refine CC (λm a b c w X=> ∃(k acc:Nat),a=I ((at_+k:Nat):Int)/\b= .int .u64 (acc:Int)/\c=B false/\m=10-k/\k<=9/\acc=xF n % 128^k/\(k=0\/128^k<=xF n)/\bs.drop (at_+k)=pW (xF n/128^k)++tl/\
  (encI n).length=k+(pW (xF n/128^k)).length/\ai (bI w0) w0 X w) 10 ⟨0,0,by simp,rfl,rfl,rfl,by omega,by omega,.inl rfl,by simpa [encI] using he,by simp[encI],hs⟩ ?_
 clear hs;rintro m a b c w X ⟨k,acc,rfl,rfl,rfl,rfl,aH,ahq,ix,hd,hlen,hs⟩;have hp:0<128^k:=Nat.pow_pos dQ;have TN:acc<128^k:=by rw[ahq];exact Nat.mod_lt _ hp
 generalize hq:xF n/128^k=q at hd hlen;have hzq:xF n=acc+q*128^k:=by rw[ahq,<-hq,zP];exact(Nat.mod_add_div _ _).symm
 obtain⟨c,r,CD,TO⟩: ∃c r,pW q++tl=c::r/\((q<128/\c=q)\/(¬q<128/\c=q % 128+128/\r=pW (q/128)++tl)):=by
  by_cases h1:q<128
  ·exact⟨q,tl,by rw[abA h1];rfl,.inl ⟨h1,rfl⟩⟩
  ·exact⟨_,_,by rw[abB h1];rfl,.inr ⟨h1,rfl,rfl⟩⟩
 rw[CD] at hd;have hx:bs[at_+k]? =some c:=by
  have:=congrArg (λl:List Nat=>l[0]?) hd;simpa using this
 have cD:at_+k<bs.length:=(List.getElem?_eq_some_iff.1 hx).1;have aol:=h.lt c (ay hx);have alL:k=9->q<=1:=λe=>by
  subst e;have:q*128^9<18446744073709551616:=by omega
  omega
 have iF:c % 128=q % 128:=by rcases TO with⟨h1,rfl⟩|⟨h1,rfl,_⟩<;>omega
 have lL:c % 128*128^k<=q*128^k:=cW _ (by rw[iF];exact Nat.mod_le _ _);have he1:k=9->c % 128<=1:=λe=>by have:=alL e;omega
 have tS:q<128->(encI n).length=k+1/\c=q:=λh1=>⟨by rw[hlen,abA h1];rfl,by rcases TO with⟨_,e⟩|⟨h2,_⟩;exact e;exact absurd h1 h2⟩
 have wJ:c=0->k=0:=λe=>by
  rcases ix with h1|h1
  ·exact h1
  ·have:1<=q:=by rw[<-hq];exact Nat.div_pos h1 hp
   rcases TO with⟨_,e2⟩|⟨_,e2,_⟩<;>omega
 have hc9:k=9->c<128:=λe=>by
  have:=alL e;rcases TO with⟨_,e2⟩|⟨h2,_,_⟩<;>omega
 have hS:c<128->acc+c % 128*128^k=xF n/\(encI n).length=k+1:=λh1=>by
  have h2:q<128:=by rcases TO with⟨h2,_⟩|⟨_,h2,_⟩<;>omega
  rw[iF,fy h2];exact⟨hzq.symm,(tS h2).1⟩
 have kO:c<128->(acc+c % 128*128^k) % 2=1->(-1-(((acc+c % 128*128^k)/2:Nat):Int))=n:=λh1 h2=>by
  rw[(hS h1).1] at h2⊢;by_cases h3:n<0
  ·have:=abz hn h3;omega
  ·have:=aby hn zQ;omega
 have rE:c<128-> ¬(acc+c % 128*128^k) % 2=1->IntKind.i64.wrap (((acc+c % 128*128^k)/2:Nat):Int)=n:=λh1 h2=>by
  rw[(hS h1).1] at h2⊢;rw[VU zQ];by_cases h3:n<0
  ·have:=abz hn h3;omega
  ·have:=aby hn zQ;omega
 have Hf:c<128->((at_+k:Nat):Int)+1=((at_+(encI n).length:Nat):Int):=λh1=>by rw[(hS h1).2];omega
 repeat' first|refine aJ ?_;intros|refine cM ?_ ?_<;>intros|with_reducible apply cB|(with_reducible refine ahp aol ?_)|(with_reducible refine alG zQ zQ ?_)|((with_reducible refine aj5 (k:=k) zQ aH zQ zQ ?_))|((with_reducible refine aj6 TN zQ ?_))|(with_reducible apply alJ)|((with_reducible refine alF zQ ?_))|((with_reducible refine alK zQ ?_))|(refine qr ?_;intro wa hk;(rw[kO zQ zQ,Hf zQ]))|(refine qr ?_;intro wa hk;(rw[rE zQ zQ,Hf zQ]))
 have dD: ¬q<128:=λh1=>by have:=(tS h1).2;omega
 obtain⟨Cq,jP⟩:c=q % 128+128/\r=pW (q/128)++tl:=by
  rcases TO with⟨h1,_⟩|⟨_,h2,h3⟩
  ·exact absurd h1 dD
  ·exact⟨h2,h3⟩
 have pf:128^(k+1)=128^k*128:=Nat.pow_succ ..;have hqd:xF n/128^(k+1)=q/128:=by rw[pf,<-Nat.div_div_eq_div_mul,hq]
 refine AT (10-(k+1)) zQ ⟨k+1,acc+c % 128*128^k,by rfl,rfl,rfl,rfl,by omega,?_,.inr ?_,?_,?_,hs⟩
 ·rw[pf,Nat.mod_mul,hq,iF,ahq,zP (128^k)]
 ·rw[pf,hzq];have:128*128^k<=q*128^k:=cW _ zQ;omega
 ·rw[hqd,<-jP,<-Nat.add_assoc,<-im,hd];rfl
 ·rw[hqd,hlen,abB dD,aL];omega
variable {v : Value} {e : Nat}
theorem Xa {t:Nat} {z':Int} {j:Nat} (h:Ow w X e k v rows) (cA:rows≠[]) (hz:z=i) (sK:z'=j) (yE:i<=j) (hj:j<=rows.length)
  (ht:P.underlying t=some (.slice (P.elem t))) (hs:(P.info? (P.elem t)).map (·.size)=some k)
  (n: ∀b o cap,Cells w X b o ((rows.drop i).take (j-i)).flatten->j-i<=cap->cap<=2^63-1->N (.slice (some ⟨b,o,none⟩) (j-i) cap)):aV P X w (Instr.sliceAt t v (some (.int .i64 z)) (some (.int .i64 z')) none) N:=by
 subst hz;subst sK;obtain⟨h1,⟨rfl,rfl⟩|⟨g,off,cap,cur,rfl,hx,hg,pL,iF,jm,uG⟩⟩:=h
 ·exact absurd rfl cA
 have hq: ∃inf,P.info? (P.elem t)=some inf/\inf.size=k:=by
  cases hq:P.info? (P.elem t)with
  |none=>simp[hq] at hs
  |some inf=>exact⟨inf,rfl,by simpa [hq] using hs⟩
 obtain⟨inf,hq,gh⟩:=hq;have Df:cap<=2^63-1:=ad iF dQ;have nU: ∀wa:World,(Instr.sliceAt t (.slice (some ⟨g,off,none⟩) rows.length cap) (some (.int .i64 (i:Int))) (some (.int .i64 (j:Int))) none).run P wa= .ok (.slice (some ⟨g,if cap=i then off else off+i*k,none⟩) (j-i) (cap-i)) wa:=λwa=>by
  rw[run_sliceAt_slice wa t _ _ _ _ ht,run_slice_lh wa t _ _ cap ht .i64 .i64 i j zQ zQ zQ];by_cases hc:cap=i
  ·simp[sizeOf,typeInfo,hq,gh,sliced,hc]
  ·simp[sizeOf,typeInfo,hq,gh,sliced,Addr.add_lit,hc]
 refine bF nU (n _ _ _ ⟨hx,cur,e,(0,0),hg,λq u hu=>?_⟩ zQ zQ);have hr: ∀r∈rows.drop i,r.length=k:=λr hr=>h1 r (di hr);rw[aK.lN (j-i) hr,aK.CE i h1,<-uG] at hu;have hql:q<(j-i)*k:=by
  have:=(List.getElem?_eq_some_iff.1 hu).1;simp only[aD] at this;omega
 rw[fP hql,gr] at hu;have pK:i*k+q<rows.length*k:=by
  have h3:i*k+(j-i)*k=j*k:=by rw[<-je];congr 1;omega
  have h4:=cW k hj;omega
 rw[fP pK,gr] at hu;rw[Array.getElem?_toList] at hu;by_cases hc:cap=i
 ·exfalso;have:j-i=0:=by omega
  rw[this] at hql;simp at hql
 ·rw[if_neg hc];rw[<-Nat.add_assoc] at hu;exact hu
def ahr (f:FuncId) (args:Array Value) (w:World) (X:XS) (rb:Nat) (vb:Value) (gK:Nat) (pl:Int) (res:Value):Prop:=
 Ct pg f args w X (λk=>k=rb) λv _ w'=>v=res/\aG w' (λk=>k=rb) rb [vb,I gK,I 0,I pl] 315
theorem Bv.ft (h:Bv w X rb vb at_ pl bs) (hk:Kp X w w0):Ft w0 (λk=>k=rb) w0 (bI w0) (λk=>k=rb):=
 Ft.init λk e=>by subst e;exact(h.mv hk.bY).box.1
theorem ahs (h:Bv w X rb vb at_ pl bs) (he:bs.drop at_=encI n++tl) (hn:uI n):
  ahr 261 #[ptr rb 0] w X rb vb (at_+(encI n).length) pl (I n):=by
 intro w0 hk;have hT:=h.ft hk;replace h:=h.mv hk.bY;have hb:=h.box;refine KW.1 λ_=>?_;repeat' refine aJ ?_;intros
 refine dL (Js h he hn) kQ hT.s.has λw1 X1 ax=>?_;have ea:=hT.since ax;have lL:=hb.since ax;repeat' first|refine ak ?_;intros|with_reducible apply cB
 refine pM (o:=1) lL zQ kQ sQ rfl ea.s.has λw2 X2 c2 jC=>?_;have dh:Ft w0 (λk=>k=rb) w2 X2 (λk=>k=rb):=ea.dY c2 (λk ah=>ah) λk ah=>.inl ah
 skip
 exact dh.fin λwa aH=>⟨rfl,rfl,by rw[aH.block _ jC.1];exact jC.2⟩
variable {most : Int}
theorem acO {e:Int} {n:Nat} (h:Bv w X rb vb at_ pl bs) (he:bs.drop at_=encI n++tl) (hn:(n:Int)<=most) (hm:most<2^62):
  Ct pg 330 #[ptr rb 0,I most,I e] w X nX λv _ _=>v= .tuple #[I n,I ((at_+(encI n).length:Nat):Int),B true]:=by
 intro w0 hk;replace h:=h.mv hk.bY;have hb:=h.box;refine Ip.1 λhs=>?_;repeat' refine ak ?_;intros
 refine dL (Js h he (by unfold uI;omega)) kQ hs.has λw1 X1 ax=>?_;have hs:=hs.trans ax;repeat' refine aJ ?_;intros
 exact bM hs λwa aH=>rfl
theorem acP {n:Nat} (h:Bv w X rb vb at_ pl bs) (he:bs.drop at_=encI n++tl) (hn:(n:Int)<=most) (hm:most<2^62):
  ahr 269 #[ptr rb 0,I most] w X rb vb (at_+(encI n).length) pl (I n):=by
 intro w0 hk;have hT:=h.ft hk;replace h:=h.mv hk.bY;have hb:=h.box;refine Iq.1 λ_=>?_;repeat' refine aJ ?_;intros
 refine dL (acO h he hn hm) kQ hT.s.has λw1 X1 ax=>?_;have ea:=hT.since ax;have lL:=hb.since ax;repeat' first|refine ak ?_;intros|with_reducible apply cB
 refine pM (o:=1) lL zQ kQ sQ rfl ea.s.has λw2 X2 c2 jC=>?_;have dh:Ft w0 (λk=>k=rb) w2 X2 (λk=>k=rb):=ea.dY c2 (λk ah=>ah) λk ah=>.inl ah
 skip
 exact dh.fin λwa aH=>⟨rfl,rfl,by rw[aH.block _ jC.1];exact jC.2⟩
theorem Xf: ∀l:List Nat,(l.map U1).flatten=l.map λx:Nat=>Value.int .u8 x
 |[]=>rfl
 |x::l=>by rw[List.map_cons,dd,Xf l];rfl
theorem afb (h:Bv w X rb vb at_ pl bs):
  Ct pg 270 #[ptr rb 0] w X nX λv _ _=>v=I ((bs.length:Int)-at_):=by
 intro w0 hk;replace h:=h.mv hk.bY;have hb:=h.box;have oC:=h.ow.sl;have gh:=h.sz;have hle:=h.le;refine JH.1 λhs=>?_;repeat' refine aJ ?_;intros
 exact bM hs λwa aH=>rfl
theorem Qn (h:Bv w X rb vb at_ pl bs):
  Ct pg 195 #[ptr rb 0] w X nX λv _ _=>v= .tuple #[I 0,I pl]:=by
 intro w0 hk;replace h:=h.mv hk.bY;have hb:=h.box;refine Ir.1 λhs=>?_;repeat' refine ak ?_;intros
 exact bM hs λwa aH=>rfl
theorem aht (h:Bv w X rb vb at_ pl bs) (he:at_=bs.length):
  Ct pg 135 #[ptr rb 0] w X nX λv _ _=>v= .tuple #[I 0,I pl]:=by
 intro w0 hk;replace h:=h.mv hk.bY;have hb:=h.box;have oC:=h.ow.sl;have gh:=h.sz;refine KX.1 λhs=>?_;repeat' refine aJ ?_;intros
 refine dL (Qn (h.mv hs.mv)) kQ hs.has λw1 X1 ax=>?_;have hs:=hs.trans ax;repeat' refine ak ?_;intros
 exact bM hs λwa aH=>rfl
theorem ahu {v0:Value} (h:Sl w X 1 v0 (bs.map U1)) (gh:bs.length<=2^40) (cD: ∀b∈bs,b<256):
  Ct pg 133 #[v0] w X nX λv wa w'=> ∃rb vb,v=ptr rb 0/\Bv w' (made wa w') rb vb 0 0 bs:=by
 intro w0 hk;replace h:=h.mv hk.bY;refine Nc.1 λhs=>?_;repeat' first|(with_reducible apply acQ);(case hX=>exact hs.has);(case hu=>kernel_rfl);(case hz=>kernel_rfl);intro acc w X ax ho;replace hs:=hs.trans ax
 refine qj ho hs (λ_ h=>h) kQ (h.mv hs.mv) (λr hr u hu=>?_) oQ oQ λv1 w1 X1 Xg uH Ap asz=>?_
 ·obtain⟨x,_,rfl⟩:=List.mem_map.1 hr;simp at hu;subst hu;rfl
 clear hs ax;have hs:=Xg;obtain⟨b1,n1,c1,rfl⟩:=uH.sl.form;repeat' first|refine ak ?_;intros|(refine NV hs ?_;intro bx w X fY ax fv hs bo)
 have hz:=Xg.kp.size;refine bM fv λwa aH=>⟨bx,.slice b1 n1 c1,rfl,⟨⟨⟨by omega,?_⟩,?_⟩,?_,aq _,gh,cD⟩⟩
 ·have:=ax.has bx bo.1;have:=aH.size;omega
 ·rw[aH.block _ bo.1];exact bo.2
 ·exact((uH.since ax).kp aH).tight.ow
theorem BT (cs:List Value) (o:Nat) (l:List Value) (h:o+l.length<=cs.length):(bO cs o l).length=cs.length:=by
 unfold bO;simp only[aa,aD,bV];omega
theorem TP (cs:List Value) (o:Nat) (a b:List Value) (h:o+a.length+b.length<=cs.length):bO (bO cs o a) (o+a.length) b=bO cs o (a++b):=by
 unfold bO;have h1:(cs.take o).length=o:=by rw[aD];omega
 have e1:(cs.take o++a++cs.drop (o+a.length)).take (o+a.length)=cs.take o++a:=by
  rw[ig (by rw[aa,h1])]
 have e2:(cs.take o++a++cs.drop (o+a.length)).drop (o+a.length+b.length)=cs.drop (o+(a++b).length):=by
  rw[<-im,jU (by rw[aa,h1]),im,aa]
  congr 1;omega
 rw[e1,e2];simp only[ao]
abbrev alM (rb:Nat):List Value:=[.pointer none,ptr rb 0]
structure RB (w:World) (X:XS) (rb:Nat) (vb:Value) (at_:Nat) (pl:Int) (bs:List Nat) (cb xb:Nat) (cs:List Value) (ty:TypeId):Prop where
 r:Bv w X rb vb at_ pl bs
 x:aG w X xb cs ty
 c:Cells w X cb 0 (alM rb)
 c1:cb≠rb
 c2:cb≠xb
 rx:rb≠xb
 vx: ¬fc vb xb
structure RS (w0 w:World) (X:XS) (rb:Nat) (vb:Value) (at_:Nat) (pl:Int) (bs:List Nat) (cb xb:Nat) (cs:List Value) (ty:TypeId):Prop extends RB w X rb vb at_ pl bs cb xb cs ty where
 t:Ft w0 (λk=>k=rb\/k=xb) w X (λk=>k=rb\/k=xb)
def RdC (f:FuncId) (args:Array Value) (w:World) (X:XS) (rb:Nat) (vb:Value) (gK:Nat) (pl:Int) (xb:Nat) (pH:List Value) (ty:TypeId):Prop:=
 Ct pg f args w X (λk=>k=rb\/k=xb) λv _ w'=>v= .tuple #[]/\aG w' (λk=>k=rb) rb [vb,I gK,I 0,I pl] 315/\aG w' (λk=>k=xb) xb pH ty
variable {o xb xo : Nat} {cs pH : List Value} {ty : TypeId}
section
theorem RB.start (h:RB w X rb vb at_ pl bs cb xb cs ty) (hk:Kp X w wa):RS wa wa (bI wa) rb vb at_ pl bs cb xb cs ty:=
 ⟨⟨h.r.mv hk.bY,h.x.mv hk.bY,h.c.mv hk.bY,h.c1,h.c2,h.rx,h.vx⟩,Ft.init λk e=>by rcases e with rfl|rfl;exact(h.r.mv hk.bY).box.1;exact(h.x.mv hk.bY).1⟩
def RS.since (h:RS w0 w X rb vb at_ pl bs cb xb cs ty) (hs:ai X w X' w'):RS w0 w' X' rb vb at_ pl bs cb xb cs ty:=
 ⟨⟨h.r.mv hs.mv,h.x.since hs,h.c.mv hs.mv,h.c1,h.c2,h.rx,h.vx⟩,h.t.since hs⟩
theorem _root_.Go.aK.Cells.dY {l:List Value} (h:Cells w X b o l) (c:ee F X w X' w') (hn: ¬F b):Cells w' X' b o l:=by
 obtain⟨hx,cs,t,fr,hb,hc⟩:=h;exact⟨c.sub b hx,cs,t,fr,by rw[c.block b hx hn];exact hb,hc⟩
def RS.ap5 (h:RS w0 w X rb vb at_ pl bs cb xb cs ty) (c:ee (λk=>k=rb) X w X' w') (hr:aG w' X' rb [vb,I gK,I 0,I pl] 315) (hl:gK<=bs.length):RS w0 w' X' rb vb gK pl bs cb xb cs ty:=
 ⟨⟨h.r.next c hr hl,h.x.dY c (λe=>h.rx e.symm),h.c.dY c h.c1,h.c1,h.c2,h.rx,h.vx⟩,h.t.dY c (λ_ e=>.inl e) λk e=>.inl e⟩
def RS.ahv (h:RS w0 w X rb vb at_ pl bs cb xb cs ty) (c:ee (λk=>k=xb) X w X' w') (hr:aG w' X' xb pH ty):RS w0 w' X' rb vb at_ pl bs cb xb pH ty:=
 ⟨⟨⟨h.r.box.dY c h.rx,h.r.ow.dY c λg hg e=>h.vx (e▸hg),h.r.le,h.r.sz,h.r.lt⟩,hr,h.c.dY c h.c2,h.c1,h.c2,h.rx,h.vx⟩,h.t.dY c (λ_ e=>.inr e) λk e=>.inl e⟩
def RB.ON (h:RB w X rb vb at_ pl bs cb xb cs ty) (c:ee (λk=>k=rb\/k=xb) X w X' w') (hr:aG w' X' rb [vb,I gK,I 0,I pl] 315) (hl:gK<=bs.length) (hx:aG w' X' xb pH ty):RB w' X' rb vb gK pl bs cb xb pH ty:=
 ⟨⟨hr,h.r.ow.dY c λg hg e=>e.elim (λe=>h.r.ow.eT h.r.box kQ (e▸hg)) λe=>h.vx (e▸hg),hl,h.r.sz,h.r.lt⟩,hx,h.c.dY c λe=>e.elim h.c1 h.c2,h.c1,h.c2,h.rx,h.vx⟩
def RS.ON (h:RS w0 w X rb vb at_ pl bs cb xb cs ty) (c:ee (λk=>k=rb\/k=xb) X w X' w') (hr:aG w' X' rb [vb,I gK,I 0,I pl] 315) (hl:gK<=bs.length) (hx:aG w' X' xb pH ty):RS w0 w' X' rb vb gK pl bs cb xb pH ty:=
 ⟨h.toRB.ON c hr hl hx,h.t.dY c (λ_ e=>e) λk e=>.inl e⟩
variable {f : FuncId} {args : Array Value} {N : Value -> World -> XS -> Prop}
theorem RS.read {res:Value} (h:RS w0 w X rb vb at_ pl bs cb xb cs ty) (hc:ahr f args w X rb vb gK pl res) (hf:enters pg f=true) (hl:gK<=bs.length)
  (k: ∀w' X',RS w0 w' X' rb vb gK pl bs cb xb cs ty->N res w' X'):eC pg R X w true f args N:=
 yR hc hf h.t.s.has (λk e=>e▸h.r.box.1) λv wa w' X' ⟨hv,hr⟩ _ _ _ c=>by subst hv;exact k w' X' (h.ap5 c ⟨c.sub _ h.r.box.1,hr.2⟩ hl)
theorem RS.call (h:RS w0 w X rb vb at_ pl bs cb xb cs ty) (hc:RdC f args w X rb vb gK pl xb pH ty) (hf:enters pg f=true) (hl:gK<=bs.length)
  (k: ∀w' X',RS w0 w' X' rb vb gK pl bs cb xb pH ty->N (.tuple #[]) w' X'):eC pg R X w true f args N:=
 yR hc hf h.t.s.has (λk e=>e.elim (λe=>e▸h.r.box.1) λe=>e▸h.x.1) λv wa w' X' ⟨hv,hr,hx⟩ _ _ _ c=>by
  subst hv;exact k w' X' (h.ON c ⟨c.sub _ h.r.box.1,hr.2⟩ hl ⟨c.sub _ h.x.1,hx.2⟩)
theorem RS.out (h:RS w0 w X rb vb at_ pl bs cb xb cs ty) (hk:Kp X w wa):dr #[]=dr #[]/\aG wa (λk=>k=rb) rb [vb,I at_,I 0,I pl] 315/\aG wa (λk=>k=xb) xb cs ty:=
 ⟨rfl,⟨rfl,by rw[hk.block _ h.r.box.1];exact h.r.box.2⟩,⟨rfl,by rw[hk.block _ h.x.1];exact h.x.2⟩⟩
theorem TQ (h:RB w X rb vb at_ pl bs cb xb cs ty):Ct pg 262 #[ptr cb 0] w X nX λv _ _=>v= .tuple #[]:=by
 intro wi hk;have hS:=h.start hk;have hc:=hS.c;refine JI.1 λ_=>?_;have hs:=ai.init wi;repeat' refine ak ?_;intros
 refine dL (Qn (hS.r.mv hs.mv)) kQ hs.has λw1 X1 ax=>?_;have hs:=hs.trans ax;repeat' refine aJ ?_;intros
 exact bM hs λwa aH=>rfl
theorem RB.mP {a b:List Nat} (h:RB w X rb vb at_ pl bs cb xb cs ty) (he:bs.drop at_=a++b):at_+a.length<=bs.length:=by
 have h1:=congrArg ba he;rw[bV,aa] at h1;have h2:=h.r.le;omega
theorem qX {a b:List Nat} (he:bs.drop at_=a++b):bs.drop (at_+a.length)=b:=by
 rw[<-im,he,List.drop_left]
theorem ph (h:RB w X rb vb at_ pl bs cb xb cs ty) (he:bs.drop at_=encI n++tl) (hn:uI n) (ho:xo+1<=cs.length):
  RdC 183 #[ptr cb 0,ptr xb xo] w X rb vb (at_+(encI n).length) pl xb (bO cs xo [I n]) ty:=by
 intro wi hk;have hS:=h.start hk;have hc:=hS.c;have EG:=hS.mP he;refine CF.1 λ_=>?_;have hs:=ai.eQ hS.t.s.has;repeat' refine ak ?_;intros
 refine hS.read (ahs hS.r he hn) kQ EG λw1 X1 lV=>?_;clear hs;have hs:=ai.eQ lV.t.s.has;repeat' refine ak ?_;intros
 refine FI (o:=xo) lV.x rfl kQ ho rfl rfl lV.t.s.has λw2 X2 c2 jC=>?_;have bh:=lV.ahv c2 jC;refine dL (TQ bh.toRB) kQ bh.t.s.has λw3 X3 cY=>?_;have cr:=bh.since cY;clear hs;have hs:=ai.eQ cr.t.s.has
 skip
 exact cr.t.fin λwa aH=>cr.out aH
theorem afc (cs:List Value) (o:Nat) (a b c:Value) (h:o+3<=cs.length):bO (bO (bO cs o [a]) (o+1) [b]) (o+2) [c]=bO cs o [a,b,c]:=by
 have h1:=TP cs o [a] [b] oQ;have h2:=TP cs o ([a]++[b]) [c] oQ;simp only[aL,br,List.cons_append,cI] at h1 h2;rw[<-h2,<-h1]
theorem ajn {a b c:Int} (he:bs.drop at_=(encI a++encI b++encI c)++tl):bs.drop at_=encI a++(encI b++(encI c++tl)):=by rw[he];simp only[ao]
def acS (s:cx):Prop:=uI s.wall/\uI s.dC/\uI s.node
def Dg (t:bL):Prop:=uI t.eh/\uI t.aW/\uI t.sq
theorem aaE {s:cx} (h:RB w X rb vb at_ pl bs cb xb cs ty) (he:bs.drop at_=lq s++tl) (hn:acS s) (ho:xo+3<=cs.length):
  RdC 189 #[ptr cb 0,ptr xb xo] w X rb vb (at_+(lq s).length) pl xb (bO cs xo [I s.wall,I s.dC,I s.node]) ty:=by
 intro wi hk;have hS:=h.start hk;have e1:bs.drop at_=encI s.wall++(encI s.dC++(encI s.node++tl)):=ajn he;have e2:=qX e1;have e3:=qX e2;have CG:(bO cs xo [I s.wall]).length=cs.length:=BT _ _ _ oQ;have xx:(bO (bO cs xo [I s.wall]) (xo+1) [I s.dC]).length=cs.length:=(BT _ _ _ (by simp[CG];omega)).trans CG;refine AU.1 λ_=>?_;repeat' first|refine ak ?_;intros|(with_reducible refine sV kQ kQ ?_)
 refine hS.call (ph (xo:=xo) hS.toRB e1 hn.1 zQ) kQ (hS.mP e1) λw1 X1 lV=>?_;repeat' first|refine ak ?_;intros|(with_reducible refine sV kQ kQ ?_)
 refine lV.call (ph lV.toRB e2 hn.2.1 zQ) kQ (lV.mP e2) λw2 X2 bh=>?_;repeat' first|refine ak ?_;intros|(with_reducible refine sV kQ kQ ?_)
 refine bh.call (ph bh.toRB e3 hn.2.2 zQ) kQ (bh.mP e3) λw3 X3 cr=>?_
 skip
 rw[afc _ _ _ _ _ ho] at cr;have e:at_+(encI s.wall).length+(encI s.dC).length+(encI s.node).length=at_+(lq s).length:=by unfold lq;simp only[aa];omega
 rw[e] at cr;exact cr.t.fin λwa aH=>cr.out aH
theorem TR {s:bL} (h:RB w X rb vb at_ pl bs cb xb cs ty) (he:bs.drop at_=nB s++tl) (hn:Dg s) (ho:xo+3<=cs.length):
  RdC 187 #[ptr cb 0,ptr xb xo] w X rb vb (at_+(nB s).length) pl xb (bO cs xo [I s.eh,I s.aW,I s.sq]) ty:=by
 intro wi hk;have hS:=h.start hk;have e1:bs.drop at_=encI s.eh++(encI s.aW++(encI s.sq++tl)):=ajn he;have e2:=qX e1;have e3:=qX e2;have CG:(bO cs xo [I s.eh]).length=cs.length:=BT _ _ _ oQ;have xx:(bO (bO cs xo [I s.eh]) (xo+1) [I s.aW]).length=cs.length:=(BT _ _ _ (by simp[CG];omega)).trans CG;refine CH.1 λ_=>?_;repeat' first|refine ak ?_;intros|(with_reducible refine sV kQ kQ ?_)
 refine hS.call (ph (xo:=xo) hS.toRB e1 hn.1 zQ) kQ (hS.mP e1) λw1 X1 lV=>?_;repeat' first|refine ak ?_;intros|(with_reducible refine sV kQ kQ ?_)
 refine lV.call (ph lV.toRB e2 hn.2.1 zQ) kQ (lV.mP e2) λw2 X2 bh=>?_;repeat' first|refine ak ?_;intros|(with_reducible refine sV kQ kQ ?_)
 refine bh.call (ph bh.toRB e3 hn.2.2 zQ) kQ (bh.mP e3) λw3 X3 cr=>?_
 skip
 rw[afc _ _ _ _ _ ho] at cr;have e:at_+(encI s.eh).length+(encI s.aW).length+(encI s.sq).length=at_+(nB s).length:=by unfold nB;simp only[aa];omega
 rw[e] at cr;exact cr.t.fin λwa aH=>cr.out aH
end
def inV (v:gL):Prop:=v.may=true/\v.num<18446744073709551616
theorem inV.kind {v:gL} (h:inV v):v=gL.zero\/(v.kind=1/\v.text=⟨#[]⟩/\v.num=canon v.num)\/(v.kind=2/\v.num=0/\v.text.size<=64):=by
 obtain⟨h,_⟩:=h;unfold gL.may at h;split at h
 ·rename_i h0;simp only[aB,decide_eq_true_eq] at h;exact .inl (gL.ext h0 h.1 h.2)
 ·split at h
  ·rename_i h1;simp only[aB,decide_eq_true_eq] at h;exact .inr (.inl ⟨h1,h.1,h.2⟩)
  ·split at h
   ·rename_i h2;simp only[aB,decide_eq_true_eq] at h;exact .inr (.inr ⟨h2,h.1,by omega⟩)
   ·cases h
theorem ahw {t lo:Nat} {r:List Value} (h:Own w X lo e k v (rows++[r])) (hz:z=rows.length)
  (ht:P.underlying t=some (.slice (P.elem t))) (hs:(P.info? (P.elem t)).map (·.size)=some k)
  (n: ∀g cs,aG w X g cs e->lo<=g->v.ownBlock=some g->rows.length*k+k<=cs.length->cs.take (rows.length*k)=rows.flatten->
   (∀w' X' r',r'.length=k->aG w' X' g (bO cs (rows.length*k) r') e->Own w' X' lo e k v (rows++[r']))->N (ptr g (rows.length*k))):aV P X w (kY t k v (.int .i64 z)) N:=by
 subst hz;have oC:=h.sl;obtain⟨h1,h2,h3⟩:=h;have hlr:(rows++[r]).length=rows.length+1:=by simp
 rcases h2.2 with⟨rfl,hn⟩|⟨g,cap,cur,rfl,hb,hg,pL,iF,jm,uG⟩
 ·rw[hlr] at hn;cases hn
 rw[hlr] at pL uG;have si:(rows.length+1)*k=rows.length*k+k:=Nat.succ_mul _ _;have AQ:(rows.length+1)*k<=cap*k:=cW k pL;have iQ:rows.flatten.length=rows.length*k:=by
  have h4: ∀x∈rows,x.length=k:=λx hx=>h1 x (bP _ hx);exact lE h4
 have alN:cur.toList.take (rows.length*k)=rows.flatten:=by
  have:=congrArg (zG (rows.length*k)) uG;rw[xA,kr zQ,dW,ig iQ] at this;exact this
 have qi:cur.toList.length=cur.size:=Array.length_toList;have hA:rows.length*k+k<=cur.toList.length:=by rw[qi,jm,<-si];exact AQ
 unfold kY;refine bF (λwa=>?_) (n g cur.toList ⟨h3 g rfl,by simpa using hg⟩ hb rfl hA alN ?_)
 ·rw[run_indexAt_slice (h:=ht),if_pos (by rw[hlr];omega)];cases hq:P.info? (P.elem t)with
  |none=>simp[hq] at hs
  |some inf=>
   have:inf.size=k:=by simpa [hq] using hs
   simp[sizeOf,typeInfo,hq,this,zM]
 ·intro w' X' r' jP bo;refine⟨λx hx=>?_,⟨?_,.inr ⟨g,cap,(bO cur.toList (rows.length*k) r').toArray,?_,hb,bo.2,by rw[aa];exact pL,iF,?_,?_⟩⟩,λq hq=>?_⟩
  ·rcases List.mem_append.1 hx with hx|hx
   ·exact h1 x (bP _ hx)
   ·simp only[List.mem_singleton] at hx;subst hx;exact jP
  ·rw[dW,aa,iQ];simp[jP,si]
  ·rw[aa,aa];rfl
  ·rw[List.size_toArray,BT _ _ _ (by rw[jP];exact hA),qi];exact jm
  ·show zG _ (bO _ _ _)=_
   unfold bO;rw[aa,List.length_singleton,si,dW,alN];simp only[dd,List.flatten_nil,List.append_nil];rw[ig (by rw[aa,iQ,jP])]
  ·cases hq;exact bo.1
abbrev ka:Value:=.slice none 0 0
structure acT (w0:World) (rb:Nat) (vb:Value) (cb xb:Nat):Prop where
 r:rb<w0.heap.size
 x:xb<w0.heap.size
 c:cb<w0.heap.size
 v: ∀g,fc vb g->g<w0.heap.size
def RS.aom (h:RS w0 w0 (bI w0) rb vb at_ pl bs cb xb cs ty):acT w0 rb vb cb xb:=⟨h.r.box.1,h.x.1,h.c.1,λg hg=>(h.r.ow.bw hg).1⟩
theorem RS.ap6 {G:XS} (h:RS w0 w X rb vb at_ pl bs cb xb cs ty) (e:acT w0 rb vb cb xb) (c:ee G X w X' w') (hG: ∀k,G k->X k/\w0.heap.size<=k):RS w0 w' X' rb vb at_ pl bs cb xb cs ty:=by
 have no: ∀{k},k<w0.heap.size-> ¬G k:=λhk hg=>by have:=(hG _ hg).2;omega
 refine⟨⟨⟨h.r.box.dY c (no e.r),h.r.ow.dY c λg hg xv=>no (e.v g hg) xv,h.r.le,h.r.sz,h.r.lt⟩,h.x.dY c (no e.x),h.c.dY c (no e.c),h.c1,h.c2,h.rx,h.vx⟩,?_⟩;exact(h.t.more (F':=λk=>(k=rb\/k=xb)\/G k) λk hk=>hk.imp id λhg=>hG k hg).dY c (λk hg=>.inr hg) λk hk=>.inl (.inl hk)
theorem RS.aon {g:Nat} (h:RS w0 w X rb vb at_ pl bs cb xb cs ty) (e:acT w0 rb vb cb xb) (c:ee (λk=>k=rb\/k=g) X w X' w') (hg:X g/\w0.heap.size<=g) (hr:aG w' X' rb [vb,I gK,I 0,I pl] 315) (hl:gK<=bs.length):RS w0 w' X' rb vb gK pl bs cb xb cs ty:=by
 have ex:=e.x;have ec:=e.c;have er:=e.r;refine⟨⟨⟨hr,h.r.ow.dY c λq hq zh=>zh.elim (λe2=>h.r.ow.eT h.r.box kQ (e2▸hq)) λe2=>by have:=e.v q hq;omega,hl,h.r.sz,h.r.lt⟩,h.x.dY c (λe2=>e2.elim (λe2=>h.rx e2.symm) λe2=>by omega),h.c.dY c (λe2=>e2.elim h.c1 λe2=>by omega),h.c1,h.c2,h.rx,h.vx⟩,?_⟩;exact(h.t.more (F':=λk=>(k=rb\/k=xb)\/k=g) λk hk=>hk.imp id λ(e2:k=g)=>by subst e2;exact hg).dY c (λk hk=>hk.elim (λe2=>.inl (.inl e2)) .inr) λk hk=>.inl (.inl hk)
theorem acU (cs:List Value) (o:Nat) (a b:Value) (h:o+1<=cs.length):bO (bO cs o [a]) o [b]=bO cs o [b]:=by
 have h1:(cs.take o).length=o:=by rw[aD];omega
 unfold bO;simp only[aL,br];have e1:(cs.take o++[a]++cs.drop (o+1)).take o=cs.take o:=by rw[ao,ig h1]
 have e2:(cs.take o++[a]++cs.drop (o+1)).drop (o+1)=cs.drop (o+1):=by rw[jU (by simp[h1])]
 simp only[Nat.zero_add] at*;rw[e1,e2]
theorem CI {u:Value} (h:aG w X xb (bO cs o [u]) ty) (ho:o+1<=cs.length):Cells w X xb o [u]:=by
 have h1:(cs.take o).length=o:=by rw[aD];omega
 refine⟨h.1,_,ty,(0,0),h.2,λj x hj=>?_⟩;cases j with
 |zero=>
  simp at hj;subst hj;rw[List.getElem?_toArray,Nat.add_zero];unfold bO;rw[ao,cZ zQ,h1];simp
 |succ j=>simp at hj
end Go.Proofs.YtgfijddlkhkopaaGreat