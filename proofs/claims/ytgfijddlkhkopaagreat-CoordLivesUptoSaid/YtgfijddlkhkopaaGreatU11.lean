/- Part 11 of the proof. -/
import Derived.Test.YtgfijddlkhkopaaGreatProg
import Derived.Recover
import Derived.KernelRfl
import Derived.Tactics
import Derived.Test.YtgfijddlkhkopaaGreatU10
set_option linter.all false
open Go.Value renaming cells → bf, agg → dZ, tuple → di
open BitVec renaming ofInt → aC, ofNat → rF, toNat_ofNat → iI
open List renaming length_append → aa, length_take → aB, length → ba, all → fH, length_map → ah, length_drop → bR, take_of_length_le → az, mem_of_mem_drop → da, flatten_append → dO, take_append_of_le_length → gW, append_assoc → ao, mem_of_mem_take → dI, take → zG, drop_drop → il, take_left' → ig, length_nil → br, nil_append → cC, map_map → bz, take_take → xy, getElem?_take_of_lt → fS, getElem?_append_right → cT, getElem?_drop → gq, length_cons → aK, mem_of_getElem? → aA, take_append_drop → fq, getElem?_append_left → dM, flatten_cons → cW, drop_left' → jX, mem_append_left → bM
open Array renaming toList → dc, replicate → cZ
open Nat renaming mul_le_mul_right → cR, zero_le → aq, le_trans → ad, add_mul → jf, mod_eq_of_lt → fu, min_eq_left → ky, mul_comm → zS, le_of_ble_eq_true → ea
open Go.Exit renaming thenS → rn
open Bool renaming and_eq_true → aF, false_eq_true → aW
open Go.IntKind renaming bits → mB, signed → jT, wrap → zT
namespace Go.Proofs.YtgfijddlkhkopaaGreat
open Go.Proofs.Tryz renaming prog → pg
open Go.aL
set_option maxRecDepth 100000
set_option maxHeartbeats 4000000
theorem Oa:Idle pg 59:=by
 refine⟨by kernel_rfl,λgJ w=>?_⟩;refine callsD_of_wpS Tryz.func59 rfl λc₀ cs hu=>?_;rw[Tryz.ntmps59];have gd:8<=(gJ++cZ (15-gJ.size) undef).size:=by simp;omega
 generalize gJ++cZ (15-gJ.size) undef=tm at gd;have h2:2<tm.size:=by omega
 have h3:3<tm.size:=by omega
 have h4:4<tm.size:=by omega
 have h5:5<tm.size:=by omega
 have h6:6<tm.size:=by omega
 have h7:7<tm.size:=by omega
 apply wpS_seq;apply wpS_region;simp[wpOpsS,go_sem,recoverD,hu,rn];apply wpS_seq;apply wpS_region;simp[wpOpsS,go_sem,rn,h2,h3,h4,h5,h6,h7];refine wpS_cond (t:=false) (by simp[Act.eval,h2,h3,h4,h5,h6,h7]) ?_;simp only[aW,if_false];refine wpS_of_wp (wp_skip ?_);cases c₀;simp_all [bodyPostS,results,Tryz.results59]
theorem Ob:Idle pg 51:=by
 refine⟨by kernel_rfl,λgJ w=>?_⟩;refine callsD_of_wpS Tryz.func51 rfl λc₀ cs hu=>?_;rw[Tryz.ntmps51];have gd:8<=(gJ++cZ (13-gJ.size) undef).size:=by simp;omega
 generalize gJ++cZ (13-gJ.size) undef=tm at gd;have h2:2<tm.size:=by omega
 have h3:3<tm.size:=by omega
 have h4:4<tm.size:=by omega
 have h5:5<tm.size:=by omega
 have h6:6<tm.size:=by omega
 have h7:7<tm.size:=by omega
 apply wpS_seq;apply wpS_region;simp[wpOpsS,go_sem,recoverD,hu,rn];apply wpS_seq;apply wpS_region;simp[wpOpsS,go_sem,rn,h2,h3,h4,h5,h6,h7];refine wpS_cond (t:=false) (by simp[Act.eval,h2,h3,h4,h5,h6,h7]) ?_;simp only[aW,if_false];refine wpS_of_wp (wp_skip ?_);cases c₀;simp_all [bodyPostS,results,Tryz.results51]
theorem aaO:Idle pg 81:=by
 refine⟨by kernel_rfl,λgJ w=>?_⟩;refine callsD_of_wpS Tryz.func81 rfl λc₀ cs hu=>?_;rw[Tryz.ntmps81];have gd:8<=(gJ++cZ (12-gJ.size) undef).size:=by simp;omega
 generalize gJ++cZ (12-gJ.size) undef=tm at gd;have h2:2<tm.size:=by omega
 have h3:3<tm.size:=by omega
 have h4:4<tm.size:=by omega
 have h5:5<tm.size:=by omega
 have h6:6<tm.size:=by omega
 have h7:7<tm.size:=by omega
 apply wpS_seq;apply wpS_region;simp[wpOpsS,go_sem,recoverD,hu,rn];apply wpS_seq;apply wpS_region;simp[wpOpsS,go_sem,rn,h2,h3,h4,h5,h6,h7];refine wpS_cond (t:=false) (by simp[Act.eval,h2,h3,h4,h5,h6,h7]) ?_;simp only[aW,if_false];refine wpS_of_wp (wp_skip ?_);cases c₀;simp_all [bodyPostS,results,Tryz.results81]
open Go.Sort
attribute [local irreducible] un jn jk iA ld1 su st1 kT kU oY rE pH Jp Ew gR gu aX lR lS eW eV eU eC eF gE mR fin iE bu dG vS NO Jq Jr Js Jt Ju NP NR NS NT FN FO Jv Jw Jx NU NV NW
theorem Qs: ∀{l:List Nat} {x:Nat},x∈l->x<=l.sum
 |y::l,x,h=>by
  rw[List.sum_cons];rcases List.mem_cons.1 h with e|h
  ·omega
  ·have:=Qs h;omega
theorem aaP (a b:Int) (p:List jE):(fh a b p).Nodup:=(kF _).nodup_iff.2 (Ez a b p [] 0 List.nodup_nil (λx hx=>by cases hx) (Nat.le_refl _)).1
def AR (g:ot):cJ:= { BZ with kind:=1,range:=g.oN.id,iB:=g.oN.iB,keys:=g.keys }
def kL (ds:tr) (p:List jE):List ot:=my ds (iZ ds [] (fh 1 1 p)).1
def tV (ds:tr) (p:List jE):List cJ:=(kL ds p).map AR
variable {gM : Int} {cb : Nat} {X : XS} {w : World}
theorem ac1 {c:cn} (h:aH w X cb (GI c) Ik) (hl:c.dy<2^60) (AS: -(2^60)<c.dy):
  Ct pg 110 #[ptr cb 0,I gM] w X (· =cb) λv _ w'=>v= .tuple #[(c.tt gM).1.v,I (c.tt gM).2]/\aH w' (· =cb) cb (GI (if(c.tt gM).2=0 then(c.tt gM).1 else c)) Ik:=by
 intro w0 hk;have hF:FX (· =cb) X w:=λk af=>by subst af;exact⟨h.1,h.lt⟩
 have hT:=hF.ft hk;replace h:=h.mv hk.cr;refine OW.1 λ_=>?_;refine dS (ac2 h hl AS) kQ (λ_ h=>h) λw1 X1 ax=>?_;generalize c.tt gM=q;obtain⟨s,e⟩:=q;replace h:=h.since ax;have dW:Ft w0 (· =cb) w1 X1 (· =cb):=⟨hT.s.trans ax,λk af=>by subst af;exact h.1,λk af=>.inl af⟩;by_cases he:e=0
 ·repeat' first|refine aJ ?_;intros|with_reducible apply cD
  refine FU (o:=0) h zQ kQ sQ rfl rfl dW.s.has λw2 X2 c2 jD=>?_;have cY:=dW.dX (F':=(· =cb)) c2 (λk af=>af) λk af=>.inl af;repeat' refine ak ?_;intros
  exact cY.fin λwa aI=>⟨rfl,by rw[if_pos he];exact(jD.kp aI).own⟩
 ·repeat' first|refine aJ ?_;intros|with_reducible apply cD
  exact dW.fin λwa aI=>⟨rfl,by rw[if_neg he];exact(h.kp aI).own⟩
theorem ahx {c:cn} (h:c.may=true) (h0:(c.tt gM).2=0):(c.tt gM).1.may=true:=by
 simp only[cn.may,aF,decide_eq_true_eq] at h⊢;revert h0;unfold cn.tt;split
 ·intro e;cases e
 ·split
  ·intro _;(try simp only);omega
  ·split
   ·intro e;cases e
   ·intro _;(try simp only);omega
def tu (p:List jE) (ck:cn) (gM:Int) (ds:tr):Int:=if mX p≠0 then mX p else if(ck.tt gM).2≠0 then(ck.tt gM).2 else(iZ ds [] (fh 1 1 p)).2
structure rY (N:Nat) (d:pa):Prop where
 q:d.x.pre=false->d.x.vq=aP/\d.ids=[]
 p:mX d.p=0
 sn:d.sn.length<=N
 ws:d.ws.length<=80
 ids:d.ids.length<=80
 CC: ∀y∈d.ws,y.CC
 wK:0<=d.x.wK/\d.x.wK<6
 pq:d.pq=false
structure sR (N M:Nat) (n:bo):Prop where
 id:n.c.id=1
 act: ∀t b,getM t n.al=some b->rY N (n.A b)
 ds: ∀(i:Int) (r:eI),getM i n.ds=some r->r.id=i
 ms:n.ms=[]
 vm:n.vm=aP
 va:n.va=aP
 rm:n.rm=[]
 ra:n.ra=[]
 cl:n.cl.length<=M
 aln:n.al.length<=M
 mM:M<=1000
 pre:n.pre=false
 cw: ∀b∈n.cl,(n.C b).waits.length<=80
 byT: ∀t b,getM t n.bl=some b->b∈n.cl/\(n.C b).r.aM=t
theorem T4 (n:bo) (b:Nat):ey n b (n.A b)=n:=by
 unfold ey
 congr 1
 funext b'
 by_cases h:b'=b
 ·rw[if_pos h,h]
 ·rw[if_neg h]
variable {w' w0 wa : World} {X' : XS} {own aG bN : Nat -> Nat} {n' : bo} {b : Nat}
section
variable {n : bo}
theorem Vo (h:jy w own n) (hX:qV own X) (hb:n.gy b) (hp:n.pre=false) (hW: ∀(i:Int) (r:eI),getM i n.ds=some r->r.id=i):
  Ct pg 61 #[ptr n.nb 0,I gM,ptr b 0] w X (gF own) λv wa w'=>NQ dR own wa w' λaG n'=> ∃vg iW st,v= .tuple #[vg,I (tu (n.A b).p n.ck gM n.ds)]/\aL.one vg=true/\n'= { ey n b { n.A b with x:= { (n.A b).x with st:=st } } with ck:=iW } /\
   (tu (n.A b).p n.ck gM n.ds=0->fg w' (bQ aG 4) 5 vg ot.rd (kL n.ds (n.A b).p)):=by
 intro w0 hk;have s:=St.init h hX hk;have ha:=(s.va hb).1;have CD:=(s.h.act hb).2.2.2.2.1;have hs:=s.rf;have self:({ ey n b { n.A b with x:= { (n.A b).x with st:=(n.A b).x.st } } with ck:=n.ck } :bo)=n:=T4 n b;refine JU.1 λ_=>?_;repeat' refine ak ?_;intros
 refine dS (KR (CD.mono (s.sub 4))) kQ hs.has λw1 X1 ax=>?_;replace CD:=CD.mv (ax.gV (s.sub 4));replace s:=s.since ax;clear hs ha;have hs:=s.rf;have hr:=s.v.1;rw[Qt hp] at hr;by_cases uE:mX (n.A b).p≠0
 ·have Qu:tu (n.A b).p n.ck gM n.ds=mX (n.A b).p:=by unfold tu;rw[if_pos uE]
  repeat' refine aJ ?_;intros
  exact s.fin λwa aI=>⟨aP,n.ck,(n.A b).x.st,by rw[Qu],rfl,self.symm,λe=>absurd (Qu.symm.trans e) uE⟩
 have aqd:mX (n.A b).p=0:=by omega
 have vJ:=(Am aqd).1;repeat' refine aJ ?_;intros
 have AT:=(show n.pre=false->aH w1 (bQ own 7) n.c.cb (GI n.ck) Ik/\n.ck.may=true from s.get 7) hp;have Qv: ∀k,k=n.c.cb->own k=7:=λk e=>by rw[e];exact AT.1.1
 obtain⟨hl,AS⟩:n.ck.dy<2^60/\ -(2^60)<n.ck.dy:=by
  have:=AT.2;simp only[cn.may,aF,decide_eq_true_eq] at this;omega
 refine yP (ac1 (gM:=gM) (AT.1.mono (s.sub 7)) hl AS) kQ s.has (λk e=>s.x k (by have:=Qv k e;omega)) λv xu w2 X2 q2 lu ka _ c2=>?_;obtain⟨rfl,Wc⟩:=q2;obtain⟨lE,s2,m2⟩:=s.Dh (F':=dR { n with ck:=if(n.ck.tt gM).2=0 then(n.ck.tt gM).1 else n.ck }) 7 c2 Qv (· =n.c.cb) (λk e=>.inl (Qv k e)) (λK _ _=>⟨Wc,by
  show cn.may (if(n.ck.tt gM).2=0 then(n.ck.tt gM).1 else n.ck)=true
  split
  ·exact ahx AT.2 aQ
  ·exact AT.2⟩) ny
 replace CD:=CD.mv m2;clear hs hr Wc s;have hs:=s2.rf;by_cases pc:(n.ck.tt gM).2≠0
 ·have Qu:tu (n.A b).p n.ck gM n.ds=(n.ck.tt gM).2:=by unfold tu;rw[if_neg uE,if_pos pc]
  rw[if_neg pc] at s2;repeat' refine aJ ?_;intros
  exact s2.fin λwa aI=>⟨aP,n.ck,(n.A b).x.st,by rw[Qu],rfl,self.symm,λe=>absurd (Qu.symm.trans e) pc⟩
 have aqe:(n.ck.tt gM).2=0:=by omega
 have Qu:tu (n.A b).p n.ck gM n.ds=(iZ n.ds [] (fh 1 1 (n.A b).p)).2:=by unfold tu;rw[if_neg uE,if_neg pc]
 rw[if_pos aqe] at s2;generalize (n.ck.tt gM).1=st at s2⊢;have ha:=(s2.va (b:=b) hb).1;have nu:=(s2.h.act (b:=b) hb).1;repeat' refine aJ ?_;intros
 refine s2.stN (o:=4) (tx b 0) nu (dR { ey n b { n.A b with x:= { (n.A b).x with st:=st } } with ck:=st }) zQ kQ (ea rfl) rfl rfl (λ_ _ _ h=>qD (n:= { n with ck:=st }) dQ h) (Ij (n:= { n with ck:=st })) (λw3 X3 mY s3 m3=>?_) ir.1 ir.2;replace CD:=CD.mv m3;clear hs ha nu s2;have hs:=s3.rf;have ha:=(s3.vs (n:= { n with ck:=st }) hb).1;have hr:=s3.v.1;repeat' refine ak ?_;intros
 refine cu (AP (CD.mono (s3.sub 4)) zQ) kQ hs.has ?_;rintro vk zf w4 X4 q4 tq oF fX;have s4:=s3.since fX;refine cu (N1 (show mc w4 X4 n.c.ac3 n.mb n.ds from s4.zP 2) hW (q4.mono oF).sl (by have:=FQ (a:=1) (b:=1) (p:=(n.A b).p);omega) λk af=>by have:=Ql (a:=1) (b:=1) vJ k af;omega) kQ fX.has ?_;rintro v5 Oc w5 X5 q5 Il ED sS;obtain⟨mA,s5,m5,-,n5⟩:=(s4.since sS).uR (N:=made Oc w5) λk hk=>⟨ED k hk,s4.nw (ad Il hk.1)⟩;clear hs;have hs:=s5.rf;by_cases he:(iZ n.ds [] (fh 1 1 (n.A b).p)).2≠0
 ·rw[if_pos he] at q5;subst q5;repeat' refine ak ?_;intros
  exact s5.fin λwa aI=>⟨aP,st,st,by rw[Qu],rfl,rfl,λe=>absurd (Qu.symm.trans e) he⟩
 rw[if_neg he] at q5;obtain⟨vg,rfl,lL⟩:=q5;have ovg:=fg.one lL;have AQ:(iZ n.ds [] (fh 1 1 (n.A b).p)).2=0:=by omega
 repeat' refine ak ?_;intros
 exact s5.fin λwa aI=>⟨vg,st,st,by rw[Qu,AQ],ovg,rfl,λ_=>fg.mv (fg.mv lL ot.mv (Mv.sub n5)) ot.mv (yF s5.x aI)⟩
end
def Sv (R:Ending->World->Prop) (nb xb:Nat) (w:World) (X:XS):Prop:=(jn (λ(y1:Value) (y2:Value) (w1:World) (X1:XS)=>
un (yh y1 0 3) λu1=>
un (yh y2 0 2) λu2=>
jk (fH [y1,y2,(.agg #[(I 0)])] gy) (fin R X1 w1 (di #[u1,u2,(I 0)]))) λk1=>
((And
(lR pg X w (bu (ptr xb 0)) λx1=>
(And
(aX pg X w (iA aT 0 0 3 x1) λx2=>
(And
(aX pg X w (su 34 3 x2) λx3=>
(eC pg R X w true 47 #[ptr nb 0] λx4 w2 X2=>
(un (dZ (bf x3)) λu3=>
jk (ba (dc (bf x3))==3) (jk (fH (dc (bf x3)) aL.one) ((un (dZ (bf x4)) λu4=>
jk (ba (dc (bf x4))==2) (jk (fH (dc (bf x4)) aL.one) (k1 u3 u4 w2 X2))))))))
(eC pg R X w true 47 #[ptr nb 0] λx5 w3 X3=>
(aX pg X3 w3 (su 34 3 x2) λx6=>
(un (dZ (bf x6)) λu5=>
jk (ba (dc (bf x6))==3) (jk (fH (dc (bf x6)) aL.one) ((un (dZ (bf x5)) λu6=>
jk (ba (dc (bf x5))==2) (jk (fH (dc (bf x5)) aL.one) (k1 u5 u6 w3 X3))))))))))
(eC pg R X w true 47 #[ptr nb 0] λx7 w4 X4=>
(aX pg X4 w4 (iA aT 0 0 3 x1) λx8=>
(aX pg X4 w4 (su 34 3 x8) λx9=>
(un (dZ (bf x9)) λu7=>
jk (ba (dc (bf x9))==3) (jk (fH (dc (bf x9)) aL.one) ((un (dZ (bf x7)) λu8=>
jk (ba (dc (bf x7))==2) (jk (fH (dc (bf x7)) aL.one) (k1 u7 u8 w4 X4)))))))))))
(eC pg R X w true 47 #[ptr nb 0] λx10 w5 X5=>
(lR pg X5 w5 (bu (ptr xb 0)) λx11=>
(aX pg X5 w5 (iA aT 0 0 3 x11) λx12=>
(aX pg X5 w5 (su 34 3 x12) λx13=>
(un (dZ (bf x13)) λu9=>
jk (ba (dc (bf x13))==3) (jk (fH (dc (bf x13)) aL.one) ((un (dZ (bf x10)) λu10=>
jk (ba (dc (bf x10))==2) (jk (fH (dc (bf x10)) aL.one) (k1 u9 u10 w5 X5)))))))))))))
def iY (n:bo):bE:=⟨n.c.id,n.c.aR,n.c.gg+1⟩
theorem T5 {κ α:Type} [DecidableEq κ] {k:κ} {a:α} : ∀l:List (κ×α),kc k (cK k a l)=kc k l
 |[]=>by simp[cK,kc]
 |x::l=>by
  have ih:=T5 (k:=k) (a:=a) l;unfold cK;by_cases h:x.1=k
  ·rw[if_pos h];simp[kc,h]
  ·rw[if_neg h]
   grind [kc]
theorem T6 {κ α:Type} [DecidableEq κ] {k t:κ} {l:List (κ×α)} {a v:α} (h:getM t (cK k a l)=some v):(t=k/\v=a)\/(t≠k/\getM t l=some v):=by grind [kn,oZ]
def MK (n:bo) (p:List jE) (n1:bo):Prop:= ∃(xb:Nat) (iW:cn) (KS:List (bE×Nat)) (vm va:Value) (rm ra:List (List Value)) (ms:List cJ) (d:pa),
  n1= { n with c:= { n.c with gg:=n.c.gg+1 },ck:=iW,al:=KS,vm:=vm,va:=va,rm:=rm,ra:=ra,ms:=ms,A:=λb=>if b=xb then d else n.A b } /\(∀t,getM t n.al≠some xb)/\
  ((∃a,ra=[a]/\ms=[]/\KS=kc (iY n) n.al/\((∃e,e≠0/\a=EA e (iY n) .zero false aP)\/ ∃st vs,aL.one vs=true/\a=EA 0 (iY n) st true vs))\/
   (ra=[]/\KS=cK (iY n) xb n.al/\d.p=p/\mX p=0/\d.x.aM=iY n/\d.x.wK=0/\d.x.mn= .zero/\(d.sn=[]/\d.pq=false)/\ms=d.ws.map (λm=>m.o9 (20+n.c.id))/\d.ws≠[]/\d.ws.length<=80/\(∀m∈d.ws,m.aM=iY n/\m.CC)/\
    ((d.x.pre=false/\d.x.vq=aP/\d.ids=[]/\(∀m∈d.ws,m.kind=1)/\fh 1 1 p≠[])\/(d.x.pre=true/\d.ws.map (·.range)=d.ids/\ ∀m∈d.ws,m.kind=3/\m.parts=d.ids))))
def Qw (E:Prop) (J:List Int->Prop) (n n1:bo):Prop:=(n1.ra≠[]->E)/\ ∀b,getM (iY n) n1.al=some b->n1.ra=[]->(n1.A b).x.pre=true->J (n1.A b).ids
variable {R : Ending -> World -> Prop} {M : Nat} {a : Value}
section
variable {n : bo}
theorem _root_.Go.aL.St.aqf {d:pa} (s:Sn w0 bN w X own n) (hb:own b=0/\w0.heap.size<=b) (hr:aH w X b (Jy d.x d.vw) aT) (hd:d.vw=aP/\d.rw=[]/\d.ws=[]/\d.x.vs=aP/\d.sn=[]/\d.pq=false) (hp:Sl w (bQ own 4) 5 d.x.vp (d.p.map jE.l)) (hq:d.x.vq=aP/\d.ids=[]):
  ¬n.gy b/\ ∃aG,Sn w0 bN w X aG { n with A:=λb'=>if b'=b then d else n.A b',ex:=b::n.ex } /\Mv (bQ own 4) w (bQ aG 4) w:=by
 have no: ¬n.gy b:=λh=>by have:own b=tx b 0:=(s.h.act h).1.1;exact ir.1 (this.symm.trans hb.1)
 obtain⟨d1,d2,d3,d4,d5,d6⟩:=hd;have eA:({ n with A:=λb'=>if b'=b then d else n.A b',ex:=b::n.ex } :bo).A b=d:=if_pos rfl;have key: ∀c,c≠tx b 0-> ∀K A,Mv (bQ own 4) w K w->(dR n c).p w K A->(dR { n with A:=λb'=>if b'=b then d else n.A b',ex:=b::n.ex } c).p w K A:=λc hc K A mv h=>by
  have q: ∀{b'},b'≠b->({ n with A:=λb'=>if b'=b then d else n.A b',ex:=b::n.ex } :bo).gy b'->n.gy b':=λdT h=>h.imp id λe=>(List.mem_cons.1 e).resolve_left dT;refine Xp (λhi p=>?_) (λb' i hi e p=>?_) h
  ·by_cases e:c=12
   ·subst e;intro t b' e
    show(if b'=b then d else n.A b').x.aM=t
    rw[if_neg λ(e':b'=b)=>no (.inl ⟨t,e'▸e⟩)];exact p t b' e
   ·rcases c with _|_|_|_|_|_|_|_|_|_|_|_|_|c<;>first|exact p|exact absurd rfl e
  ·by_cases dT:b'=b
   ·subst dT;rcases i with _|_|_|_|_|_|_|_|i<;>first|exact absurd e hc|exact p|skip
    all_goals (simp only[zg,if_true];intro _)
    ·show Own w A 0 mT 36 d.vw d.rw
     rw[d1,d2];exact Own.nil _ _ _ _ _
    ·show Own w A 0 snT 7 d.x.vs (d.sn.map fb.l)
     rw[d4,d5];exact Own.nil _ _ _ _ _
    ·refine⟨?_,hp.mv mv,λ_=>?_⟩
     ·show fT w K d.rw d.ws
      rw[d2,d3];exact fT.nil _ _
     ·show Sl w K 1 d.x.vq (d.ids.map I1)
      rw[hq.1,hq.2];exact Sl.nil _ _ _
    ·exact λe=>by rw[d6] at e;cases e
   ·rcases i with _|_|_|_|_|_|_|_|i<;>first|exact p|(simp only[zg,if_neg dT] at p⊢;exact λh=>p (q dT h))
 obtain⟨aG,s',m,-⟩:=s.jR (F':=dR { n with A:=λb'=>if b'=b then d else n.A b',ex:=b::n.ex }) (j:=tx b 0) (N:=(· =b)) (dY.nz s.rf nX) (· =tx b 0) (λ_ h=>h.elim) ir.1.symm ir.2.symm (λk e=>by subst e;exact⟨hr.1,hb⟩) ir.1
  (λaG e1 e2 m c hc=>by subst hc;rw[vI _ _ _ dQ];exact λ_=>by rw[eA];exact⟨e2 b rfl,hr.2⟩) key
 exact⟨no,aG,s',m⟩
theorem ahy (s:Sn w0 bN w X own n) (hb:n.gy b) (k: ∀w9 X9 nv,Sn w0 bN w9 X9 nv (dV n)->zU w9 nv n->fin R X9 w9 (.tuple #[(n.A b).x.aM.v,.agg #[n.vm,n.va],I 0])):Sv R n.nb b w X:=by
 unfold Sv;have ha:=(s.va hb).1;have ovm:=s.v.2.1;have ova:=s.v.2.2.1;have hs:=s.rf;have told: ∀{w8:World} {X8:XS} {N:Value->World->XS->Prop},ai X w X8 w8->(∀w9 X9 nv,Sn w0 bN w9 X9 nv (dV n)->zU w9 nv n->N (.agg #[n.vm,n.va]) w9 X9)->eC pg R X8 w8 true 47 #[ptr n.nb 0] N:=λ{w8 X8 N} kV k=>
  (s.since kV).call (EE (s.since kV).h (s.since kV).x) kQ λv w' X' aG n' s' ⟨e1,e2,q⟩ _=>by subst e1 e2;exact k _ _ _ s' q
 refine ij (Q:=λKx=> ∀w9 X9 nv,Sn w0 bN w9 X9 nv (dV n)->zU w9 nv n->Kx (.agg #[I (n.A b).x.aM.ep,I (n.A b).x.aM.aR,I (n.A b).x.aM.sq]) (.agg #[n.vm,n.va]) w9 X9) ?_ λKx hKx=>?_
 ·intro w9 X9 nv s9 q9;have hq:=k w9 X9 nv s9 q9;clear hs k;repeat' refine ak ?_;intros
  exact hq
 have ahz: ∀{w9:World} {X9:XS} {nv:Nat->Nat},Sn w0 bN w9 X9 nv (dV n)->aH w9 X9 b (Jy (n.A b).x (n.A b).vw) aT:=λs9=>(s9.va (b:=b) hb).1;refine⟨?_,?_⟩
 ·repeat' refine ak ?_;intros
  refine⟨?_,?_⟩
  ·repeat' refine ak ?_;intros
   refine⟨?_,?_⟩
   ·repeat' refine ak ?_;intros
    refine told hs λw9 X9 nv s9 q9=>?_;clear hs;have hs:=s9.rf;repeat' refine ak ?_;intros
    exact hKx _ _ _ s9 q9
   ·rename_i o ho hc;subst ho;refine told hs λw9 X9 nv s9 q9=>ac4 ((ahz s9).cells.part 0 3) (Mv.refl _ _) kQ rfl ?_;clear hs;have hs:=s9.rf;repeat' refine ak ?_;intros
    exact hKx _ _ _ s9 q9
  ·refine told hs λw9 X9 nv s9 q9=>?_;clear hs;have aoA:=ahz s9;repeat' refine ak ?_;intros
   exact hKx _ _ _ s9 q9
 ·refine told hs λw9 X9 nv s9 q9=>?_;clear hs;have aoA:=ahz s9;repeat' refine ak ?_;intros
  exact hKx _ _ _ s9 q9
theorem akm {t:bE} (hb:b∈n.ex) (ht:(n.A b).x.aM=t): ∀c,c≠5-> ∀w K A,(dR n c).p w K A->(dR { n with al:=cK t b n.al } c).p w K A:=
 ny (λb' i hi _ w K A h=>by
  have e:({ n with al:=cK t b n.al } :bo).gy b'->n.gy b':=λh=>h.elim (λ⟨t',e⟩=>(T6 e).elim (λe=>e.2▸ .inr hb) λe=>.inl ⟨t',e.2⟩) .inr;rcases i with _|_|_|_|_|_|_|_|i<;>first|exact λha=>h (e ha)|exact h) λi hi hq w K A h=>by
   rcases i with _|_|_|_|_|_|_|_|_|_|_|_|_|i<;>first|exact absurd rfl hq|exact λt' b' e=>(T6 e).elim (λe=>by rw[e.2,e.1];exact ht) λe=>h t' b' e.2|exact h
theorem EF {p:List jE} {N:Nat} (h:jy w own n) (hX:qV own X) (hk:sR N M n) (ha:Sl w (bQ own 4) 5 a (p.map jE.l)) (vJ:p.length<=2^30) (hc:0<=n.c.gg/\n.c.gg<=2^40):
  Ct pg 29 #[ptr n.nb 0,I gM,a] w X (gF own) λv wa w'=>Sw own wa w' (λn1=>MK n p n1/\Qw (tu p n.ck gM n.ds≠0\/OU p n.ds) (Ii p n.ds) n n1) λn1=>v= .tuple #[(iY n).v,.agg #[n1.vm,n1.va],I 0]:=by
 intro w0 DG;have s:=St.init h hX DG;replace ha:=ha.mv (yF hX DG);have hi:1<=n.c.id/\n.c.id<=2:=by rw[hk.id];decide
 refine Bz.g (RP:=λ_ _=>False) (g0:=59) (cb:=[3,7,8,6]) (cv:=[]) kQ (.inl rfl) Oa DV ?_;rw[OX Hw,Xq Hw];refine cz ?_;have hs:=s.rf;have hr:=s.v.1;repeat' refine ak ?_;intros
 refine s.st (o:=2) 1 (s.get 1) (dR { n with c:= { n.c with gg:=n.c.gg+1 } }) zQ kQ (ea rfl) rfl (λ_ _ _ h=>h) ny λw1 X1 ia s1 m1=>?_;replace ha:=ha.mv m1;obtain⟨d,Jk⟩: ∃d:CoV,d= { n.c with gg:=n.c.gg+1 } :=⟨_,rfl⟩;obtain⟨d1,d2,d3⟩:d.id=n.c.id/\d.aR=n.c.aR/\d.gg=n.c.gg+1:=by rw[Jk];exact⟨rfl,rfl,rfl⟩
 obtain⟨n1,wE⟩: ∃n1:bo,n1= { n with c:=d } :=⟨_,rfl⟩;have s1:Sn w0 own w1 X1 ia n1:=by rw[wE,Jk];exact s1
 have e1:n1.nb=n.nb/\n1.c=d:=by rw[wE];exact⟨rfl,rfl⟩
 clear hs hr s;have hs:=s1.rf;have hr:=s1.v.1;rw[e1.1,e1.2] at hr;repeat' refine ak ?_;intros
 refine cu (aaQ (ha.mono (s1.sub 4)) zQ) kQ hs.has ?_;rintro vp xu w2 X2 q2 lu ka bB;obtain⟨lE,s2,m2,-,n2⟩:=(s1.since bB).uR (N:=made xu w2) λk hk=>⟨ka k hk,s1.nw (ad lu hk.1)⟩;have hvp:=q2.sl.mono n2;obtain⟨t1,t2,t3,rfl⟩:=q2.sl.form;clear hs hr;have hs:=s2.rf;have hr:=s2.v.1;rw[e1.1,e1.2] at hr;repeat' first|refine ak ?_;intros|(refine Od hs ?_;intro bx w X gr ax gf hs bw)
 obtain⟨qg,mY,s3,m3⟩:=(s2.since gf).aqf (b:=bx) (d:=⟨⟨⟨d.id,d.aR,d.gg⟩,.slice t1 t2 t3,.zero,0,aP,false,aP,.zero⟩,aP,[],[],[],p,[],false⟩) (s2.nw zQ) bw ⟨rfl,rfl,rfl,rfl,rfl,rfl⟩ (hvp.mv (gf.gV (s2.sub 4))) ⟨rfl,rfl⟩;rw[wE] at s3 qg;obtain⟨D,hD⟩: ∃D:pa,D=⟨⟨⟨d.id,d.aR,d.gg⟩,.slice t1 t2 t3,.zero,0,aP,false,aP,.zero⟩,aP,[],[],[],p,[],false⟩:=⟨_,rfl⟩;replace s3:Sn w0 own w X mY { ey n bx D with c:=d,ex:=bx::n.ex } :=by rw[hD];exact s3
 have T7: ∀t,getM t n.al≠some bx:=λt e=>qg (.inl ⟨t,e⟩);have gr: ∀{n':bo},n'.ex=bx::n.ex->n'.gy bx:=λe=>.inr (by rw[e];simp);clear hs gf bw hr s2 hvp m3 m2 s1 wE e1 n1 bB m1;refine s3.call (Vo (n:= { ey n bx D with c:=d,ex:=bx::n.ex }) (b:=bx) (gM:=gM) s3.h s3.x (gr rfl) hk.pre hk.ds) kQ λv w4 X4 lF n4 s4 q4 m4=>?_;obtain⟨vg,iW,st,hv,ovg,rfl,lL⟩:=q4;have eD:({ ey n bx D with c:=d,ex:=bx::n.ex } :bo).A bx=D:=js;have hDp:D.p=p:=by rw[hD]
 rw[eD,hDp] at lL hv;replace hv:v= .tuple #[vg,I (tu p n.ck gM n.ds)]:=hv;replace lL:tu p n.ck gM n.ds=0->fg w4 (bQ lF 4) 5 vg ot.rd (kL n.ds p):=lL;subst hv;obtain⟨E,hE⟩: ∃E:pa,E= { D with x:= { D.x with st:=st } } :=⟨_,rfl⟩;obtain⟨NF,T8⟩: ∃NF:pa->List (bE×Nat)->bo,NF=λd' KS=> { ey n bx d' with c:=d,ck:=iW,al:=KS,ex:=bx::n.ex } :=⟨_,rfl⟩;replace s4:Sn w0 own w4 X4 lF (NF E n.al):=by
  have e:NF E n.al= { ey { ey n bx D with c:=d,ex:=bx::n.ex } bx { ({ ey n bx D with c:=d,ex:=bx::n.ex } :bo).A bx with x:= { (({ ey n bx D with c:=d,ex:=bx::n.ex } :bo).A bx).x with st:=st } } with ck:=iW } :=by
   rw[eD,<-hE,T8]
   show _=({ ey (ey n bx D) bx E with c:=d,ex:=bx::n.ex,ck:=iW } :bo)
   rw[An];rfl
  rw[e];exact s4
 have eE:E.x=⟨⟨d.id,d.aR,d.gg⟩,.slice t1 t2 t3,st,0,aP,false,aP,.zero⟩/\E.vw=aP/\E.rw=[]/\E.ws=[]/\E.sn=[]/\E.p=p/\E.ids=[]/\E.pq=false:=by rw[hE,hD];exact⟨rfl,rfl,rfl,rfl,rfl,rfl,rfl,rfl⟩
 have Xr:(⟨d.id,d.aR,d.gg⟩:bE)=iY n:=by rw[d1,d2,d3];rfl
 have xz: ∀{w5:World} {X5:XS} {mA:Nat->Nat} {n5:bo},Sn w0 own w5 X5 mA n5->n5.gy bx->n5.nb=n.nb->(n5.A bx).x.aM=iY n->(MK n p { n5 with ex:=n.ex } /\Qw (tu p n.ck gM n.ds≠0\/OU p n.ds) (Ii p n.ds) n { n5 with ex:=n.ex })->(∀b∈n.ex,b∈n5.ex)->
   Sv (uF (gF own) w0 λv w'=>Sw own w0 w' (λn1=>MK n p n1/\Qw (tu p n.ck gM n.ds≠0\/OU p n.ds) (Ii p n.ds) n n1) λn1=>v= .tuple #[(iY n).v,.agg #[n1.vm,n1.va],I 0]) n.nb bx w5 X5:=λ{w5 X5 mA n5} s5 BB enb etx EG hex=>by
  rw[<-enb];exact ahy s5 BB λw9 X9 nv s9 q9=>St.alT (n1:= { n5 with ex:=n.ex }) (s9.to (Hx (e':=n.ex) hex)) ⟨q9.om,q9.hm,q9.oa⟩ EG (by rw[etx])
 clear s3 qg;have hs:=s4.rf;by_cases he:tu p n.ck gM n.ds≠0
 ·repeat' refine aJ ?_;intros
  have eA:(NF E n.al).A bx=E/\(NF E n.al).al=n.al/\(NF E n.al).nb=n.nb/\(NF E n.al).ra=n.ra/\(NF E n.al).ex=bx::n.ex:=by rw[T8];exact⟨js,rfl,rfl,rfl,rfl⟩
  rw[<-eA.2.2.1];refine s4.call (Co (n:=NF E n.al) (b:=bx) (code:=tu p n.ck gM n.ds) (t:=.zero) (st:=.zero) (on:=false) (vs:=aP) s4.h s4.x (gr eA.2.2.2.2) rfl (by rw[eA.2.2.2.1,hk.ra];simp)) kQ λv w5 X5 mA n5 s5 q5 m5=>?_;obtain⟨ou,rfl⟩:=q5;rw[eA.1,eE.1,Xr,eA.2.1,eA.2.2.2.1,hk.ra] at s5;rw[eA.2.2.1];refine xz s5 (.inr sQ) eA.2.2.1 (by show((NF E n.al).A bx).x.aM=iY n;rw[eA.1,eE.1];exact Xr) ⟨⟨bx,iW,_,_,_,_,_,_,E,by subst T8 Jk;rfl,T7,.inl ⟨_,rfl,show(NF E n.al).ms=[] by rw[T8];exact hk.ms,rfl,.inl ⟨_,he,rfl⟩⟩⟩,λ_=>.inl he,λb _ BC=>by cases BC⟩ λb hb=>by rw[eA.2.2.2.2];simp[hb]
 have AQ:tu p n.ck gM n.ds=0:=by omega
 have lL:=lL AQ;change fg w4 (bQ lF 4) 5 vg ot.rd (kL n.ds p)at lL;have uE:mX p=0:=by
  unfold tu at AQ;split at AQ<;>omega
 have alU:(iZ n.ds [] (fh 1 1 p)).2=0:=by
  unfold tu at AQ;split at AQ
  ·rename_i h9;exact absurd AQ h9
  ·split at AQ
   ·rename_i h9;exact absurd AQ h9
   omega
 have gX:(kL n.ds p).length<=40:=by
  have h1:=OT (ds:=n.ds) (keys:=fh 1 1 p) (m:=[]);have h2:=FQ (a:=1) (b:=1) (p:=p);have h3:=(Am uE).1;unfold kL my;rw[ah,(oS _).length_eq,ah];simp only[br] at h1;omega
 have hfg: ∀g∈kL n.ds p,g.keys.length<=40:=λg hg=>by
  have h1:=acW (aaP 1 1 p) alU;have h2:=Qs (List.mem_map.2 ⟨g,hg,rfl⟩:g.keys.length∈(kL n.ds p).map λg=>g.keys.length);have h3:=FQ (a:=1) (b:=1) (p:=p);have h4:=(Am uE).1;change ((kL n.ds p).map λg=>g.keys.length).sum=_ at h1;omega
 have eA:(NF E n.al).A bx=E/\(NF E n.al).al=n.al/\(NF E n.al).nb=n.nb/\(NF E n.al).c=d/\(NF E n.al).ex=bx::n.ex:=by rw[T8];exact⟨js,rfl,rfl,rfl,rfl⟩
 have hr:=s4.v.1;have ha:=(s4.va (gr eA.2.2.2.2)).1;rw[eA.2.2.1,eA.2.2.2.1] at hr;rw[eA.1] at ha;have Ao:dK w4 (bQ lF 5) nX (NF E n.al).c.ab (λk:bE=>k.v) xw (NF E n.al).al:=s4.get 5;rw[eA.2.1,eA.2.2.2.1] at Ao;repeat' refine aJ ?_;intros
 refine uU (kv:=λk:bE=>k.v) (k:=E.x.aM) (a:=bx) (et:=116) (lv Ao (s4.x _ (by rw[show lF d.ab=5 from Ao.x.1];decide))) Ey (show xw w4 nX (ptr bx 0) bx from rfl) (λ_ h=>h.elim) sK kQ s4.has λw5 X5 c5 xA=>?_;obtain⟨mA,s5,m5⟩:=s4.Dh (F':=dR { NF E n.al with al:=cK E.x.aM bx (NF E n.al).al }) 5 c5 (λk e=>by rw[show k=d.ab from e];exact Ao.x.1) (· =d.ab) (λk e=>.inl (by rw[show k=d.ab from e];exact Ao.x.1))
  (λK m=>by
   show dK w5 (· =d.ab) nX (NF E n.al).c.ab (λk:bE=>k.v) xw (cK E.x.aM bx (NF E n.al).al)
   rw[eA.2.1,eA.2.2.2.1];exact lv xA rfl) (akm (by rw[eA.2.2.2.2];simp) (by rw[eA.1]))
 replace lL:=fg.mv lL ot.mv m5;obtain⟨N2,Qx⟩: ∃N2:bo,N2=NF E (cK (iY n) bx n.al):=⟨_,rfl⟩;replace s5:Sn w0 own w5 X5 mA N2:=by
  have:({ NF E n.al with al:=cK E.x.aM bx (NF E n.al).al } :bo)=N2:=by rw[eA.2.1,Qx,T8,eE.1,Xr]
  rw[<-this];exact s5
 have e2:N2.A bx=E/\N2.nb=n.nb/\N2.c=d/\N2.ex=bx::n.ex/\N2.ds=n.ds/\N2.rm=n.rm/\N2.ra=n.ra/\N2.ms=n.ms/\N2.al=cK (iY n) bx n.al:=by rw[Qx,T8];exact⟨js,rfl,rfl,rfl,rfl,rfl,rfl,rfl,rfl⟩
 clear hr ha Ao s4 hs eA xA c5;obtain⟨Gd,hG⟩: ∃Gd:Value->List (List Value)->List cJ->pa,Gd=λvw rw l=> { E with vw:=vw,rw:=rw,ws:=l.map λm=>m.asked E.x } :=⟨_,rfl⟩;have hG0:Gd aP [] []=E:=by rw[hG];dsimp only;rw[List.map_nil,<-eE.2.2.2.1,<-eE.2.2.1,<-eE.2.1]
 have hs:=s5.rf;have EB:=fg.mv lL ot.mv (Mv.sub (s5.sub 4));have qh:(tV n.ds p).length=(kL n.ds p).length:=by simp[tV]
 repeat' refine ak ?_;intros
 refine fp (λn' a w X=> ∃(i:Nat) (lC:Value) (pJ:List (List Value)) (aG:Nat->Nat) (n1:bo),a=I (i:Nat)/\n'=(kL n.ds p).length-i/\i<=(kL n.ds p).length/\Sn w0 own w X aG n1/\Told (ey N2 bx (Gd lC pJ ((tV n.ds p).take i))) (((tV n.ds p).take i).map λm=>(m.asked E.x).o9 (20+d.id)) n1/\pJ.length=i/\fg w (bQ aG 4) 5 vg ot.rd (kL n.ds p))
  (kL n.ds p).length ⟨0,aP,[],mA,N2,rfl,rfl,aq _,s5,by rw[List.take_zero,hG0,<-e2.1,T4];exact Told.nil _,rfl,lL⟩ ?_
 clear hs s5 lL EB;rintro n' _ w6 X6 ⟨i,KO,KP,zR,n1,rfl,rfl,hi6,s6,ht,hrw,lL⟩;have hs:=s6.rf;obtain⟨Xn,Qo,wE,KQ⟩:=id ht;have e1:n1.nb=n.nb/\n1.c=d/\n1.A bx=Gd KO KP ((tV n.ds p).take i)/\n1.rm.length<=40:=by
  rw[wE];exact⟨e2.2.1,e2.2.2.1,js,by show Qo.length<=40;rw[KQ,show(ey N2 bx _).rm=n.rm from e2.2.2.2.2.2.1,hk.rm,ah,aB];simp;omega⟩
 have lK:n1.gy bx:=by rw[wE];exact gr e2.2.2.2.1
 have EB:=fg.mv lL ot.mv (Mv.sub (s6.sub 4));rcases dA (kL n.ds p) i with⟨cB,g,hx,hd⟩|⟨dB,hd⟩
 ·repeat' refine aJ ?_;intros
  refine FR lL hx rfl kQ kQ λbb oo ll pG jw=>?_;obtain⟨Hu,rfl,KN⟩:=jw;obtain⟨s1,s2,s3,rfl⟩:=KN.form;have ovk:aL.one (.slice s1 s2 s3)=true:=KN.one;replace pG:Cells w6 X6 bb oo [I g.oN.id,I g.oN.iB,.float .f64 g.oN.lo,.float .f64 g.oN.hi,.slice s1 s2 s3]:=Cells.mv pG (Mv.sub (s6.sub 4));repeat' refine ak ?_;intros
  have hm8:(AR g).at w6 (bQ zR 4) (.slice s1 s2 s3) aP aP aP aP aP aP aP:=⟨KN,Sl.nil _ _ _,Sl.nil _ _ _,Sl.nil _ _ _,Sl.nil _ _ _,fg.nil _ _ _,fg.nil _ _ _,fg.nil _ _ _⟩;have hpx:(tV n.ds p)[i]? =some (AR g):=by unfold tV;rw[List.getElem?_map,hx];rfl
  have hf8:(AR g).CC:=⟨ad (hfg g (aA hx)) dQ,by simp[AR,BZ],by simp[AR,BZ],by simp[AR,BZ]⟩;rw[<-e1.1];refine s6.call (N9 (n:=n1) (b:=bx) (m:=AR g) s6.h s6.x lK hm8 hf8 (by rw[e1.2.1,d1];exact hi) zQ (by rw[e1.2.2.1,hG];dsimp only;omega)) kQ λv w9 X9 nv n9 s9 q9 m9=>?_;obtain⟨vw9,rw9,Qr,Xo⟩:=q9;rw[e1.2.2.1,e1.2.1] at Xo;clear hs;repeat' refine ak ?_;intros
  refine eP ((kL n.ds p).length-(i+1)) zQ ⟨i+1,vw9,rw9,nv,n9,by simp,rfl,by omega,s9,?_,by rw[Qr,e1.2.2.1,hG];dsimp only;omega,fg.mv lL ot.mv m9⟩;have fP:=ht.set (b:=bx) (e:=Gd vw9 rw9 ((tV n.ds p).take (i+1)));rw[An] at fP;rw[CE hpx];refine fP.add ?_;rw[hG] at Xo⊢;dsimp only;rw[CE hpx];exact Xo
 rw[az zQ] at ht e1 wE;have e3: ∀d',ey N2 bx d'= { ey n bx d' with c:=d,ck:=iW,al:=cK (iY n) bx n.al,ex:=bx::n.ex } :=λd'=>by
  rw[Qx,T8]
  show({ ey (ey n bx E) bx d' with c:=d,ck:=iW,al:=cK (iY n) bx n.al,ex:=bx::n.ex } :bo)=_
  rw[An]
 have TW: ∀{b},getM (iY n) (cK (iY n) bx n.al)=some b->b=bx:=λh=>by rw[kn] at h;exact(Option.some.inj h).symm
 have ajB:(fh 1 1 p=[])↔(kL n.ds p).length=0:=by
  constructor
  ·intro e;unfold kL my;rw[ah,(oS _).length_eq,ah,e];rfl
  ·intro e;cases zh:fh 1 1 p with
   |nil=>rfl
   |cons k r=>
    obtain⟨g,hg,_⟩:=(T2 hk.ds alU).rt k (by rw[zh];simp);have:=List.length_pos_of_mem hg;change 0<(kL n.ds p).length at this;omega
 repeat' refine aJ ?_;intros
 refine cD ?_;have hex: ∀{n':bo},n'.ex=bx::n.ex-> ∀b∈n.ex,b∈n'.ex:=λe b hb=>by rw[e];simp[hb]
 have Oe:E.x.aM=iY n:=by rw[eE.1];exact Xr
 have EH:n1.ex=bx::n.ex/\n1.ra=[]/\n1.al=cK (iY n) bx n.al/\n1.ds=n.ds/\n1.ms=(tV n.ds p).map λm=>(m.asked E.x).o9 (20+d.id):=by
  rw[wE];refine⟨e2.2.2.2.1,e2.2.2.2.2.2.2.1.trans hk.ra,e2.2.2.2.2.2.2.2.2,e2.2.2.2.2.1,?_⟩
  show(ey N2 bx _).ms++_=_
  rw[show(ey N2 bx _).ms=n.ms from e2.2.2.2.2.2.2.2.1,hk.ms,cC]
 have eG: ∀vw rw l,(Gd vw rw l).x=E.x/\(Gd vw rw l).ws=(l.map λm=>m.asked E.x)/\(Gd vw rw l).p=p/\(Gd vw rw l).sn=[]/\(Gd vw rw l).ids=[]/\(Gd vw rw l).pq=false:=λvw rw l=>by rw[hG];exact⟨rfl,rfl,eE.2.2.2.2.2.1,eE.2.2.2.2.1,eE.2.2.2.2.2.2.1,eE.2.2.2.2.2.2.2⟩
 by_cases hg0:(kL n.ds p).length=0
 ·have FK:=ajB.2 hg0;have aqg:tV n.ds p=[]:=List.length_eq_zero_iff.1 zQ;rw[aqg] at ht e1 EH wE;have sw:=eG KO KP [];repeat' refine aJ ?_;intros
  rw[<-e1.1];refine s6.call (NZ (n:=n1) (b:=bx) s6.h s6.x lK (by rw[e1.2.2.1,sw.1,eE.1]) (by rw[e1.2.2.1,sw.1,sw.2.2.2.2.1,sw.2.2.2.2.2,eE.1];exact⟨rfl,rfl,rfl⟩) (by rw[e1.2.2.1,sw.2.1];rfl) (by rw[e1.2.2.1,sw.2.2.2.1];simp) (by rw[EH.2.2.2.1];exact hk.ds) (by rw[e1.2.1,d1];exact hi) zQ (by rw[EH.2.1];simp) (by rw[e1.2.2.1,sw.2.2.1];exact uE)) kQ λv w7 X7 B0 n7 s7 q7 m7=>?_;unfold OV at q7;rw[e1.2.2.1,sw.1,sw.2.2.1,EH.2.2.2.1,e1.2.1] at q7;rw[e1.1];rcases q7 with⟨ou,a,h9,haw,vm7,rm7,rfl,_⟩|⟨ids,pm,vq,vw7,rw7,ct,ac5,xB,pc,hio,vm7,rm7,rfl,_⟩
  ·refine xz s7 (.inr sQ) e1.1 (by show(n1.A bx).x.aM=_;rw[e1.2.2.1,sw.1,Oe]) ⟨⟨bx,iW,kc E.x.aM n1.al,vm7,ou,rm7,n1.ra++[a],n1.ms++[],Gd KO KP [],by rw[e3] at wE;subst Jk wE;rfl,T7,.inl ⟨a,by show n1.ra++[a]=_;rw[EH.2.1];rfl,by show n1.ms++[]=_;rw[EH.2.2.2.2];rfl,by show kc E.x.aM n1.al=_;rw[EH.2.2.1,Oe,T5],?_⟩⟩,λ_=>.inr haw,λb _ BC=>by have BC:n1.ra++[a]=[]:=BC;simp at BC⟩ λb hb=>by show b∈bx::n1.ex;rw[EH.1];simp[hb]
   ·rcases h9 with⟨e,he9,rfl⟩|⟨vs,ov9,rfl⟩
    ·exact .inl ⟨e,he9,by rw[Oe]⟩
    ·exact .inr ⟨_,vs,ov9,by rw[Oe]⟩
  ·have e7: ∀d':pa,ey n1 bx d'= { ey n bx d' with c:=d,ck:=iW,al:=cK (iY n) bx n.al,ex:=bx::n.ex,vm:=Xn,rm:=Qo,ms:=n1.ms } :=λd'=>by
    obtain⟨q,hq⟩: ∃q,q=n1.ms:=⟨_,rfl⟩;have e:n1= { ey N2 bx (Gd KO KP [])with vm:=Xn,rm:=Qo,ms:=q } :=by rw[hq];subst wE;rfl
    rw[<-hq,e]
    show({ ey (ey N2 bx (Gd KO KP [])) bx d' with vm:=Xn,rm:=Qo,ms:=q } :bo)=_
    rw[An,e3]
   rw[e7] at s7;refine xz s7 (.inr sQ) rfl (by show((ey n bx _).A bx).x.aM=_;rw[js];exact Oe) ⟨⟨bx,iW,_,_,_,_,_,_,{ Gd KO KP [] with x:= { E.x with pre:=true,vq:=vq },vw:=vw7,rw:=rw7,ws:=pm.map λm=>m.asked E.x,ids:=ids },by subst Jk;rfl,T7,.inr ⟨hk.ra,rfl,sw.2.2.1,uE,Oe,by show E.x.wK=0;rw[eE.1],by show E.x.mn= .zero;rw[eE.1],⟨sw.2.2.2.1,sw.2.2.2.2.2⟩,?_,?_,?_,λm hm=>?_,.inr ⟨rfl,?_,λm hm=>?_⟩⟩⟩,λBC=>absurd hk.ra BC,λb hb _ _=>?_⟩ λb hb=>by simp[hb]
   ·show n1.ms++_=_
    rw[EH.2.2.2.2,List.map_nil,cC,bz];rfl
   ·intro e;have:pm=[]:=List.map_eq_nil_iff.1 e;rw[this] at xB;exact ct xB.symm
   ·show(pm.map _).length<=80
    rw[ah,<-ah (f:=λm:cJ=>m.range),xB];exact ac5
   ·obtain⟨m0,KT,rfl⟩:=List.mem_map.1 hm;have hq:=(pc m0 KT).2.2;exact⟨Oe,hq.keys,hq.seen,hq.writes,hq.parts⟩
   ·show(pm.map _).map _=ids
    rw[<-xB,bz];rfl
   ·obtain⟨m0,KT,rfl⟩:=List.mem_map.1 hm;exact⟨(pc m0 KT).1,(pc m0 KT).2.1⟩
   ·have e:=TW hb;subst e
    show Ii p n.ds ((ey n _ _).A _).ids
    rw[js];exact hio
 ·repeat' refine aJ ?_;intros
  have sw:=eG KO KP (tV n.ds p);rw[e3] at wE;refine xz s6 lK e1.1 (by rw[e1.2.2.1,sw.1,Oe]) ⟨⟨bx,iW,n1.al,n1.vm,n1.va,n1.rm,n1.ra,n1.ms,Gd KO KP (tV n.ds p),by subst Jk wE;rfl,T7,.inr ⟨EH.2.1,EH.2.2.1,sw.2.2.1,uE,by rw[sw.1,Oe],by rw[sw.1,eE.1],by rw[sw.1,eE.1],⟨sw.2.2.2.1,sw.2.2.2.2.2⟩,?_,?_,?_,λm hm=>?_,.inl ⟨by rw[sw.1,eE.1],by rw[sw.1,eE.1],sw.2.2.2.2.1,λm hm=>?_,λe=>hg0 (ajB.1 e)⟩⟩⟩,λBC=>absurd EH.2.1 BC,λb hb BC hp=>?_⟩ (hex EH.1)
  ·show n1.ms=_
   rw[EH.2.2.2.2,sw.2.1,bz,d1];rfl
  ·rw[sw.2.1];intro e;have:(tV n.ds p).length=0:=by have:=congrArg ba e;simpa using this
   omega
  ·rw[sw.2.1,ah];omega
  ·rw[sw.2.1] at hm;obtain⟨m0,KT,rfl⟩:=List.mem_map.1 hm;obtain⟨g,hg,rfl⟩:=List.mem_map.1 KT;exact⟨Oe,ad (hfg g hg) dQ,by simp[AR,BZ,cJ.asked],by simp[AR,BZ,cJ.asked],by simp[AR,BZ,cJ.asked]⟩
  ·rw[sw.2.1] at hm;obtain⟨m0,KT,rfl⟩:=List.mem_map.1 hm;obtain⟨g,_,rfl⟩:=List.mem_map.1 KT;rfl
  ·have hb:getM (iY n) n1.al=some b:=hb;rw[EH.2.2.1] at hb;have e:=TW hb;subst e;have hp:(n1.A _).x.pre=true:=hp;rw[e1.2.2.1,sw.1,eE.1] at hp;cases hp
end
variable {i : Nat} {rs : List (List Value)} {hv : Value} {F : XS}
theorem Of (own:Own w F 0 54 36 hv rs) (hF: ∀k,F k->X k) (hi:i<rs.length) (hr: ∀r∈rs,∀u∈r,aL.one u=true):
  Ct pg 103 #[hv,I (i:Nat),I ((i+1:Nat):Int)] w X (eT hv) λv wa w'=>Own w' (eT hv) 0 54 36 v (rs.take i++rs.drop (i+1))/\v.ownBlock=hv.ownBlock:=by
 intro w0 hk;have bN:=own.mv ((Mv.sub hF).trans hk.cr);have hT:Ft w0 (eT hv) w0 (bK w0) (eT hv):=Ft.init λk af=>(bN.ge af).2;have oA:=bN.sl;have qh: ∀r∈rs,r.length=36:=bN.1;have Qy:(i:Int)+1=((i+1:Nat):Int):=by simp
 refine yl.1 λhs=>?_;rcases bN.row with⟨_,h⟩|⟨g,cap,cs,rfl,gA,bw,pL,iC,iN,uG⟩
 ·rw[h] at hi;simp at hi
 have aqh:Sl w0 (bK w0) 36 (.slice (some ⟨g,0,none⟩) rs.length cap) (rs.map id):=by simpa using oA
 repeat' refine ak ?_;intros
 refine abM (i:=i) (j:=i+1) (q:=rs.length) rfl sQ rfl zQ zQ pL kQ kQ λ_=>?_;repeat' refine aJ ?_;intros
 refine KU (i:=i) rfl zQ kQ kQ ?_;refine abN oA (i:=i+1) sQ zQ kQ kQ λv2 bB=>?_;have EI:(rs.drop (i+1)).length=rs.length-(i+1):=bR;have hD:((rs.drop (i+1)).flatten).length=(rs.length-(i+1))*36:=by rw[lG λr jS=>qh r (da jS),EI]
 have hA:((rs.take i).flatten).length=i*36:=by rw[lG λr jS=>qh r (dI jS),aB];congr 1;omega
 refine Xs (k:=36) (n:=i) kQ bw bB (λq hq u hu=>hr q (da hq) u hu) zQ zQ hs.has λw1 X1 c1 qU=>?_;have dW:=hT.dX c1 (λk af=>af.symm▸rfl) (F':=eT (.slice (some ⟨g,0,none⟩) rs.length cap)) λk af=>.inl af;rw[show i+(rs.drop (i+1)).length=rs.length-1 by omega];rw[show 0+i*36=i*36 by omega] at qU;have ahA:cs.take (i*36)=(rs.take i).flatten:=by
  have h1:=congrArg (zG (i*36)) uG;rw[xy,ky (cR _ zQ)] at h1;rw[h1];have KW:rs.flatten=(rs.take i).flatten++(rs.drop i).flatten:=by rw[<-dO,fq]
  rw[KW,gW zQ,az zQ]
 have pG:i*36+(rs.length-(i+1))*36=(rs.length-1)*36:=by rw[<-jf];congr 1;omega
 have Im:(dr cs (i*36) (rs.drop (i+1)).flatten).take ((rs.length-1)*36)=(rs.take i++rs.drop (i+1)).flatten:=by
  unfold dr;rw[ahA,dO,gW (by rw[aa,hA,hD];omega),az (by rw[aa,hA,hD];omega)]
 have B1:(dr cs (i*36) (rs.drop (i+1)).flatten).length=cap*36:=by
  unfold dr;have hb:(rs.length-1)*36<=cap*36:=cR _ zQ;simp only[aa,aB,bR,hD,iN];omega
 have KX: ∀r∈rs.take i++rs.drop (i+1),r.length=36:=λr jS=>(List.mem_append.1 jS).elim (λe=>qh r (dI e)) λe=>qh r (da e);have AU:(rs.take i++rs.drop (i+1)).length=rs.length-1:=by rw[aa,aB,EI];omega
 have uH:Own w1 X1 0 54 36 (.slice (some ⟨g,0,none⟩) (rs.length-1) cap) (rs.take i++rs.drop (i+1)):=Own.Hy qU (aq _) KX AU zQ iC B1 Im;have ax:Sl w1 X1 36 (.slice (some ⟨g,0,none⟩) (rs.length-1) cap) ((rs.take i++rs.drop (i+1)).map id):=by simpa using uH.sl
 clear hs;have hs:=ai.fG dW.s.has;repeat' refine ak ?_;intros
 rw[AU];refine Xt (k:=36) (i:=rs.length-1) (j:=rs.length) rfl rfl zQ pL zQ kQ kQ ?_;rw[show rs.length-(rs.length-1)=1 by omega,show 0+(rs.length-1)*36=(rs.length-1)*36 by omega];have ac7:(rs.length-1)*36+1*36<=cap*36:=by rw[<-jf];exact cR _ zQ
 refine Xu (k:=36) (bytes:=416) (e:=54) (o:=(rs.length-1)*36) (n:=1) qU kQ kQ zQ (by rw[B1];exact ac7) dW.s.has λw2 X2 zs Xv c2 jD=>?_;have cY:=dW.dX c2 (λk af=>af.symm▸rfl) (F':=nX) λk af=>af.elim;have xt:(dr (dr cs (i*36) (rs.drop (i+1)).flatten) ((rs.length-1)*36) zs).length=cap*36:=by
  rw[<-B1];generalize dr cs (i*36) (rs.drop (i+1)).flatten=q at B1⊢;unfold dr;simp only[aa,aB,bR,Xv];omega
 have xC:(dr (dr cs (i*36) (rs.drop (i+1)).flatten) ((rs.length-1)*36) zs).take ((rs.length-1)*36)=(rs.take i++rs.drop (i+1)).flatten:=by
  rw[<-Im];generalize dr cs (i*36) (rs.drop (i+1)).flatten=q at B1⊢;unfold dr;rw[ao,gW (by rw[aB];omega),az (by rw[aB];omega)]
 have kq:Own w2 X2 0 54 36 (.slice (some ⟨g,0,none⟩) (rs.length-1) cap) (rs.take i++rs.drop (i+1)):=Own.Hy jD (aq _) KX AU zQ iC xt xC;exact cY.fin λwa aI=>⟨xv (kq.kp aI) λg' rz=>rz,rfl⟩
theorem aaR (own:Own w F 0 3 1 hv rs) (hF: ∀k,F k->X k) (hi:i<rs.length) (hr: ∀r∈rs,∀u∈r,aL.one u=true):
  Ct pg 108 #[hv,I (i:Nat),I ((i+1:Nat):Int)] w X (eT hv) λv wa w'=>Own w' (eT hv) 0 3 1 v (rs.take i++rs.drop (i+1))/\v.ownBlock=hv.ownBlock:=by
 intro w0 hk;have bN:=own.mv ((Mv.sub hF).trans hk.cr);have hT:Ft w0 (eT hv) w0 (bK w0) (eT hv):=Ft.init λk af=>(bN.ge af).2;have oA:=bN.sl;have qh: ∀r∈rs,r.length=1:=bN.1;have Qy:(i:Int)+1=((i+1:Nat):Int):=by simp
 refine CF.1 λhs=>?_;rcases bN.row with⟨_,h⟩|⟨g,cap,cs,rfl,gA,bw,pL,iC,iN,uG⟩
 ·rw[h] at hi;simp at hi
 have aqh:Sl w0 (bK w0) 1 (.slice (some ⟨g,0,none⟩) rs.length cap) (rs.map id):=by simpa using oA
 repeat' refine ak ?_;intros
 refine abM (i:=i) (j:=i+1) (q:=rs.length) rfl sQ rfl zQ zQ pL kQ kQ λ_=>?_;repeat' refine aJ ?_;intros
 refine KU (i:=i) rfl zQ kQ kQ ?_;refine abN oA (i:=i+1) sQ zQ kQ kQ λv2 bB=>?_;have EI:(rs.drop (i+1)).length=rs.length-(i+1):=bR;have hD:((rs.drop (i+1)).flatten).length=(rs.length-(i+1))*1:=by rw[lG λr jS=>qh r (da jS),EI]
 have hA:((rs.take i).flatten).length=i*1:=by rw[lG λr jS=>qh r (dI jS),aB];congr 1;omega
 refine Xs (k:=1) (n:=i) kQ bw bB (λq hq u hu=>hr q (da hq) u hu) zQ zQ hs.has λw1 X1 c1 qU=>?_;have dW:=hT.dX c1 (λk af=>af.symm▸rfl) (F':=eT (.slice (some ⟨g,0,none⟩) rs.length cap)) λk af=>.inl af;rw[show i+(rs.drop (i+1)).length=rs.length-1 by omega];rw[show 0+i*1=i*1 by omega] at qU;have ahA:cs.take (i*1)=(rs.take i).flatten:=by
  have h1:=congrArg (zG (i*1)) uG;rw[xy,ky (cR _ zQ)] at h1;rw[h1];have KW:rs.flatten=(rs.take i).flatten++(rs.drop i).flatten:=by rw[<-dO,fq]
  rw[KW,gW zQ,az zQ]
 have pG:i*1+(rs.length-(i+1))*1=(rs.length-1)*1:=by rw[<-jf];congr 1;omega
 have Im:(dr cs (i*1) (rs.drop (i+1)).flatten).take ((rs.length-1)*1)=(rs.take i++rs.drop (i+1)).flatten:=by
  unfold dr;rw[ahA,dO,gW (by rw[aa,hA,hD];omega),az (by rw[aa,hA,hD];omega)]
 have B1:(dr cs (i*1) (rs.drop (i+1)).flatten).length=cap*1:=by
  unfold dr;have hb:(rs.length-1)*1<=cap*1:=cR _ zQ;simp only[aa,aB,bR,hD,iN];omega
 have KX: ∀r∈rs.take i++rs.drop (i+1),r.length=1:=λr jS=>(List.mem_append.1 jS).elim (λe=>qh r (dI e)) λe=>qh r (da e);have AU:(rs.take i++rs.drop (i+1)).length=rs.length-1:=by rw[aa,aB,EI];omega
 have uH:Own w1 X1 0 3 1 (.slice (some ⟨g,0,none⟩) (rs.length-1) cap) (rs.take i++rs.drop (i+1)):=Own.Hy qU (aq _) KX AU zQ iC B1 Im;have ax:Sl w1 X1 1 (.slice (some ⟨g,0,none⟩) (rs.length-1) cap) ((rs.take i++rs.drop (i+1)).map id):=by simpa using uH.sl
 clear hs;have hs:=ai.fG dW.s.has;repeat' refine ak ?_;intros
 rw[AU];refine Xt (k:=1) (i:=rs.length-1) (j:=rs.length) rfl rfl zQ pL zQ kQ kQ ?_;rw[show rs.length-(rs.length-1)=1 by omega,show 0+(rs.length-1)*1=(rs.length-1)*1 by omega];have ac7:(rs.length-1)*1+1*1<=cap*1:=by rw[<-jf];exact cR _ zQ
 refine Xu (k:=1) (bytes:=8) (e:=3) (o:=(rs.length-1)*1) (n:=1) qU kQ kQ zQ (by rw[B1];exact ac7) dW.s.has λw2 X2 zs Xv c2 jD=>?_;have cY:=dW.dX c2 (λk af=>af.symm▸rfl) (F':=nX) λk af=>af.elim;have xt:(dr (dr cs (i*1) (rs.drop (i+1)).flatten) ((rs.length-1)*1) zs).length=cap*1:=by
  rw[<-B1];generalize dr cs (i*1) (rs.drop (i+1)).flatten=q at B1⊢;unfold dr;simp only[aa,aB,bR,Xv];omega
 have xC:(dr (dr cs (i*1) (rs.drop (i+1)).flatten) ((rs.length-1)*1) zs).take ((rs.length-1)*1)=(rs.take i++rs.drop (i+1)).flatten:=by
  rw[<-Im];generalize dr cs (i*1) (rs.drop (i+1)).flatten=q at B1⊢;unfold dr;rw[ao,gW (by rw[aB];omega),az (by rw[aB];omega)]
 have kq:Own w2 X2 0 3 1 (.slice (some ⟨g,0,none⟩) (rs.length-1) cap) (rs.take i++rs.drop (i+1)):=Own.Hy jD (aq _) KX AU zQ iC xt xC;exact cY.fin λwa aI=>⟨xv (kq.kp aI) λg' rz=>rz,rfl⟩
theorem aaS {b:Value} {ks:List BA} {sn:List fb} (ha:Sl w X 1 a (ks.map S1)) (hb:Sl w X 7 b (sn.map fb.l)):
  Ct pg 101 #[a,b,.func (.func 102) #[] #[]] w X nX λv _ _=> ∃e,v=B e:=by
 intro w0 hk;replace ha:=ha.mv hk.cr;replace hb:=hb.mv hk.cr;have kG:=ha.gO;have JA: ∀{k:BA} {x:fb} {w1:World} {X1:XS},Ct pg 102 #[.string k,.agg x.l.toArray] w1 X1 nX λv _ _=>v=B (decide (k=x.key)):=by
  intro k x w1 X1 w0 hk;have hs:=ai.init w0;refine Hz.1 λ_=>?_;repeat' first|refine ak ?_;intros|refine cQ ?_ ?_<;>intros|(refine qr ?_;intro wa hk;(congr 1;simp_all))
 refine oB.1 λhs=>?_;repeat' first|refine ak ?_;intros|refine cQ ?_ ?_<;>intros|(refine qr ?_;intro wa hk;exact⟨_,rfl⟩)
 refine fp (λn a w X=> ∃i:Nat,a=I (i:Nat)/\n=(ks).length-i/\i<=(ks).length/\ai (bK w0) w0 X w/\True) (ks).length ⟨0,rfl,rfl,aq _,hs,by trivial⟩ ?_;rintro n a w X ⟨i,rfl,rfl,hi,hs,hw⟩;rcases dA (ks) i with⟨cB,k,hx,hd⟩|⟨dB,hd⟩
 ·obtain⟨x,W9,_⟩: ∃x,sn[i]? =some x/\sn.drop i=x::sn.drop (i+1):=(dA sn i).elim (λh=>h.2) λh=>by omega
  repeat' first|refine aJ ?_;intros|(refine qr ?_;intro wa hk;exact⟨_,rfl⟩)|((with_reducible refine eP ((ks).length-(i+1)) ?_ ?_);omega;exact⟨i+1,by simp,rfl,by omega,hs,trivial⟩)|(refine qk (JA (k:=k) (x:=x)) hs ?_ ?_<;>intro _ w X hs)
 ·repeat' first|refine aJ ?_;intros|(refine qr ?_;intro wa hk;exact⟨_,rfl⟩)
variable {rows : List (List Value)}
theorem fT.cut {K:XS} {ms:List cJ} (h:fT w K rows ms) (i:Nat):fT w K (rows.take i++rows.drop (i+1)) (ms.take i++ms.drop (i+1)):=by
 refine⟨by simp[h.1],λj l x hl hx=>?_⟩;by_cases hj:j<min i rows.length
 ·rw[dM (by simpa using hj)] at hl;rw[dM (by rw[aB,<-h.1];exact hj)] at hx;rw[fS zQ] at hl hx;exact h.2 j l x hl hx
 ·rw[cT (by simpa using Nat.le_of_not_lt hj)] at hl;rw[cT (by rw[aB,<-h.1];omega)] at hx;rw[aB,gq] at hl hx;rw[<-h.1] at hx;exact h.2 _ l x hl hx
def AV (d:pa) (i:Nat) (m:cJ) (CG lC:Value) (pJ:List (List Value)):pa:= { d with x:= { d.x with vs:=CG },vw:=lC,rw:=pJ,ws:=d.ws.take i++d.ws.drop (i+1),sn:=d.sn++m.seen }
def ac8 (n:bo) (m:cJ) (n':bo):Prop:=
 (∃iW,n'= { n with ck:=iW })\/ML n m false n'\/ ∃(b i:Nat) (y:cJ) (iW:cn) (CG lC:Value) (pJ:List (List Value)) (n1:bo),FV n m false b i y/\n1= { ey n b (AV (n.A b) i m CG lC pJ)with ck:=iW } /\
  (((n.A b).ws.length≠1/\n'=n1)\/((n.A b).ws.length=1/\ ∃n2,OV n1 b n2/\n'= { n2 with ex:=n.ex }))
variable {m : cJ}
section
variable {n : bo}
theorem sR.get {N:Nat} (h:sR N M n) (hN:N<=2^20):n.ra.length<=2^20/\ ∀b,getM m.aM n.al=some b->n.rm.length+(n.A b).ids.length<=2^20:=by
 rw[h.ra,h.rm];exact⟨by simp,λb hg=>by have:=(h.act _ b hg).ids;simp;omega⟩
theorem Xw {vk vs vw vp vr vc vh vd:Value} {N:Nat} (h:jy w own n) (hX:qV own X) (hm:m.at w (bQ own 4) vk vs vw vp vr vc vh vd) (fP:m.aV.may=true) (hk:sR N M n) (hN:N+m.seen.length<=2^20):
  Ct pg 55 #[ptr n.nb 0,m.v vk vs vw vp vr vc vh vd] w X (gF own) λ_ wa w'=>NQ dR own wa w' λ_ n'=>ac8 n m n':=by
 intro w0 ik;have s0:=St.init h hX ik;replace hm:=hm.mv (yF hX ik);have hi:1<=n.c.id/\n.c.id<=2:=by rw[hk.id];decide
 clear h hX ik;refine KY.1 λ_=>?_;refine s0.call (HA s0.h s0.x hk.pre fP hm.ranges hi (hk.get (m:=m) zQ).1 (λb hb=>(hk.act _ b hb).pq) (hk.get zQ).2) kQ λv w1 X1 ia n1 s1 q1 m1=>?_;rcases q1 with⟨rfl,q1⟩|⟨b,i,y,iW,hw,rfl,rfl⟩
 ·have hs:=s1.rf;repeat' first|refine ak ?_;intros|with_reducible apply cD
  exact s1.fin λ_ _=>q1.elim (λ⟨c,e,_⟩=>.inl ⟨c,e⟩) λe=>.inr (.inl e)
 replace hm:=hm.mv m1;have hb:n.gy b:=.inl ⟨_,hw.g⟩;have CH:=hk.act _ b hw.g;have aqi:=CH.ws;have asG:=CH.sn;have nu:=s1.h.act (b:=b) hb;have Ht:(n.A b).rw.length=(n.A b).ws.length:=nu.2.2.2.1.1;have pK:i<(n.A b).ws.length:=(List.getElem?_eq_some_iff.1 hw.gI).1;obtain⟨l,hl⟩: ∃l,(n.A b).rw[i]? =some l:=⟨_,List.getElem?_eq_getElem zQ⟩;obtain⟨uk,us,uw,up,ur,uc,uh,ud,rfl,dh⟩:=nu.2.2.2.1.2 i l y hl hw.gI;have aqj:Sl w1 X1 36 (n.A b).vw ((n.A b).rw.map id):=by rw[List.map_id];exact nu.2.1.sl.mono (s1.sub _ ir.1)
 obtain⟨ha,oa⟩:=s1.va (b:=b) hb;clear nu;have hs:=s1.rf;repeat' first|refine ak ?_;intros|with_reducible apply cD
 refine cu (aaS (dh.keys.mono (s1.sub 4)) (hm.seen.mono (s1.sub 4))) kQ hs.has ?_;rintro v xu w2 X2 ⟨e,rfl⟩ lu ka bB;have s2:=s1.since (hs.trans bB);replace hm:=hm.mv ((hs.trans bB).gV (s1.sub 4));clear hs bB aqj ha s1;have hs:=s2.rf;cases e
 ·repeat' refine ak ?_;intros
  exact s2.fin λ_ _=>.inl ⟨iW,rfl⟩
 obtain⟨ha,oa⟩:=s2.va (b:=b) hb;repeat' refine ak ?_;intros
 refine s2.ap1 (tx b 0) (tx b 2) 0 (s2.h.act (b:=b) hb).1 (s2.h.act (b:=b) hb).2.2.1 (hm.seen.mono (s2.sub 4)) (λr hr u hu=>?_) (by simp only[ah];omega) (λv=>dR (ey { n with ck:=iW } b { n.A b with x:= { (n.A b).x with vs:=v },sn:=(n.A b).sn++m.seen })) (λ_ _ _ _ h=>qD dQ h) (λ_ _ _ _ h=>qD dQ (by show Own _ _ 0 snT 7 _ (((n.A b).sn++m.seen).map fb.l);rw[List.map_append];exact h)) (λ_ _ _ _ _ h=>h) (λv'=>Ij) (λv5 w5 X5 mA s5 m5=>?_) (yD:=by unfold tx;omega)
 ·obtain⟨x,_,rfl⟩:=List.mem_map.1 hr;simp only[List.mem_cons,List.not_mem_nil,or_false] at hu;rcases hu with rfl|rfl|rfl|rfl|rfl|rfl|rfl<;>rfl
 clear hs s2 ha;have hs:=s5.rf;obtain⟨ha,oa⟩:=s5.vs (n:= { n with ck:=iW }) hb;have hh:fT w5 (bQ mA 4) (n.A b).rw (n.A b).ws:=by have:=(s5.h.act (b:=b) hb).2.2.2.1;rw[js] at this;exact this
 repeat' refine ak ?_;intros
 have nu:=s5.h.act (b:=b) hb;rw[js] at nu;refine s5.ahB (tx b 0) (tx b 1) (tx b 3) nu.1 nu.2.1 (Of (F:=X5) (nu.2.1.mono (s5.sub _ ir.1)) (λ_ h=>h) (by show i<(n.A b).rw.length;omega) hh.Xx) (λv=>dR (ey { n with ck:=iW } b (AV (n.A b) i m v5 v ((n.A b).rw.take i++(n.A b).rw.drop (i+1))))) (λ_ _ _ _ h=>qD dQ h) (λ_ _ _ _ h=>qD dQ h)
  (λv' w' K A mv p=>qD dQ (by rw[vI _ _ _ dQ] at p;have p:=p hb;rw[js] at p;exact⟨(hh.cut i).mv mv,p.2⟩)) (λv'=>Qn) (λv8 w8 X8 Su s8 m8=>?_) (yD:=by unfold tx;omega)
 clear hs ha nu hh s5;have hs:=s8.rf;obtain⟨n3,sx⟩: ∃n3:bo,n3= { ey n b (AV (n.A b) i m v5 v8 ((n.A b).rw.take i++(n.A b).rw.drop (i+1)))with ck:=iW } :=⟨_,rfl⟩;replace s8:Sn w0 own w8 X8 Su n3:=by rw[sx];exact s8
 have e3:n3.A b=AV (n.A b) i m v5 v8 ((n.A b).rw.take i++(n.A b).rw.drop (i+1))/\n3.nb=n.nb/\n3.ex=n.ex:=by rw[sx];exact⟨js,rfl,rfl⟩
 have rC:n3.gy b:=by rw[sx];exact hb
 obtain⟨ha,oa⟩:=s8.va rC;have hl7:((n.A b).rw.take i++(n.A b).rw.drop (i+1)).length=(n.A b).ws.length-1:=by simp;omega
 have asH:Sl w8 X8 36 v8 (((n.A b).rw.take i++(n.A b).rw.drop (i+1)).map id):=by have:=(s8.h.act rC).2.1.sl.mono (s8.sub _ ir.1);rw[e3.1] at this;rw[List.map_id];exact this
 rw[e3.1] at ha;by_cases h1:(n.A b).ws.length=1
 ·have hq:=CH.q hw.pre;repeat' refine aJ ?_;intros
  rw[<-e3.2.1];refine s8.call (NZ (n:=n3) (b:=b) s8.h s8.x rC (by rw[e3.1];exact hw.pre) (by rw[e3.1];exact⟨hq.1,hq.2,CH.pq⟩) (by rw[e3.1];exact List.length_eq_zero_iff.1 (by simp[AV];omega)) (by rw[e3.1];simp[AV];omega) (by rw[sx];exact hk.ds) (by rw[sx];exact hi) (by rw[sx];show n.rm.length<=_;rw[hk.rm];simp) (by rw[sx];show n.ra.length<=_;rw[hk.ra];simp) (by rw[e3.1];exact CH.p)) kQ λv w4 X4 lF n4 s4 q4 _=>?_;have s5:=s4.to (Hx (e':=n.ex) λb' dT=>by
   rcases q4 with⟨_,_,_,_,_,_,rfl,_⟩|⟨_,_,_,_,_,_,_,_,_,_,_,_,rfl,_⟩
   ·show b'∈b::n3.ex;rw[e3.2.2];simp[dT]
   ·show b'∈n3.ex;rw[e3.2.2];exact dT)
  exact s5.fin λ_ _=>.inr (.inr ⟨b,i,y,iW,_,_,_,n3,hw,sx,.inr ⟨h1,n4,q4,rfl⟩⟩)
 ·repeat' refine aJ ?_;intros
  exact s8.fin λ_ _=>.inr (.inr ⟨b,i,y,iW,_,_,_,n3,hw,sx,.inl ⟨h1,rfl⟩⟩)
end
def uI (n:Int):Prop:= -9223372036854775808<=n/\n<9223372036854775808
variable {n : Int}
theorem abO (h:uI n) (h0:0<=n):(xD n:Int)=2*n:=by
 unfold uI at h;unfold xD;rw[if_neg zQ];omega
theorem abP (h:uI n) (h0:n<0):(xD n:Int)= -1-2*n:=by
 unfold uI at h;unfold xD;rw[if_pos h0];omega
variable {u : Nat}
theorem abQ (h:u<128):pV u=[u]:=by rw[pV,if_pos h]
theorem abR (h: ¬u<128):pV u=(u % 128+128)::pV (u/128):=by rw[pV,if_neg h]
variable {P : Program} {N : Value -> Prop} {t : TypeId} {z : Int} {c k : Nat}
theorem alV: ∀b:Nat,b<256->(aC 8 (b:Int)&&& aC 8 127).toNat=b % 128:=by decide+kernel
theorem ahC (hb:b<256) (h:N (.int .u8 ((b % 128:Nat):Int))):aX P X w (binOp .and t (.int .u8 (b:Int)) (.int .u8 127)) N:=
 MH (by
  have e:IntKind.u8.wrap (aC IntKind.u8.bits (b:Int)&&& aC IntKind.u8.bits 127).toNat=((b % 128:Nat):Int):=by
   rw[MM];have:=alV b hb
   show((aC 8 (b:Int)&&& aC 8 127).toNat:Int) % 256=_
   rw[this];omega
  grind)
theorem alW (hu:u<18446744073709551616) (h:N (.int .u64 ((u % 2:Nat):Int))):aX P X w (binOp .and t (.int .u64 (u:Int)) (.int .u64 1)) N:=
 MH (by
  have e:IntKind.u64.wrap (aC IntKind.u64.bits (u:Int)&&& aC IntKind.u64.bits 1).toNat=((u % 2:Nat):Int):=by
   rw[wrap64];have h1:(aC 64 (u:Int))=rF 64 u:=by simp
   have h2:(aC 64 1)=rF 64 1:=by decide
   show((aC 64 (u:Int)&&& aC 64 1).toNat:Int) % 18446744073709551616=_
   rw[h1,h2,BitVec.toNat_and,iI,iI,fu (by omega:u<2^64)];have:u&&& 1 % 2^64=u % 2:=Nat.and_one_is_mod u;rw[this];omega
  grind)
theorem alX {a b:Int} (h1: -9223372036854775808<=a*b) (h2:a*b<9223372036854775808) (h:N (I (a*b))):aX P X w (binOp .mul t (I a) (I b)) N:=
 Sf (by
  have e:IntKind.i64.wrap (a*b)=a*b:=by
   simp only[zT,mB,jT];simp;omega
  grind)
theorem alY (k:Nat):2^(7*k)=128^k:=by rw[Nat.pow_mul]
theorem alZ (hz:z=7*(k:Int)) (hk:k<=9) (hc:c*128^k<18446744073709551616) (h:N (.int .u64 ((c*128^k:Nat):Int))):aX P X w (binOp .shl t (.int .u64 (c:Int)) (I z)) N:=
 Sh zQ (by
  rw[wrap64];have e:((c:Int)*2^min z.toNat IntKind.u64.bits) % 18446744073709551616=((c*128^k:Nat):Int):=by
   have h1:min z.toNat IntKind.u64.bits=7*k:=by
    show min z.toNat 64=7*k
    omega
   rw[h1];have h2:(2:Int)^(7*k)=((128^k:Nat):Int):=by rw[<-alY];simp
   rw[h2,<-Int.natCast_mul];omega
  grind)
theorem akn (hz:z=7*(k:Int)) (hk:k<=9) (qi:c<256) (hc:c*128^k<18446744073709551616) (h:N (.int .u64 ((c*128^k:Nat):Int))):aX P X w (binOp .shl t (.int .u64 (IntKind.u64.wrap (c:Int))) (I z)) N:=by
 have e:IntKind.u64.wrap (c:Int)=c:=by rw[wrap64];omega
 rw[e];exact alZ hz hk hc h
theorem afp {a:Nat} (ha:a<2^k):a|||c*2^k=a+c*2^k:=by
 have:=Nat.two_pow_add_eq_or_of_lt ha c;rw[Nat.or_comm,Nat.add_comm,zS];omega
theorem ako {a:Nat} (ha:a<128^k) (cB:a+c*128^k<18446744073709551616) (h:N (.int .u64 ((a+c*128^k:Nat):Int))):aX P X w (binOp .or t (.int .u64 (a:Int)) (.int .u64 ((c*128^k:Nat):Int))) N:=
 Qz (by
  have e:IntKind.u64.wrap (aC IntKind.u64.bits (a:Int)|||aC IntKind.u64.bits ((c*128^k:Nat):Int)).toNat=((a+c*128^k:Nat):Int):=by
   rw[wrap64];have h1:(aC 64 (a:Int))=rF 64 a:=by simp
   have h2:(aC 64 ((c*128^k:Nat):Int))=rF 64 (c*128^k):=by rw[BitVec.ofInt_natCast]
   show((aC 64 (a:Int)|||aC 64 ((c*128^k:Nat):Int)).toNat:Int) % 18446744073709551616=_
   rw[h1,h2,BitVec.toNat_or,iI,iI,fu (by omega:a<2^64),fu (by omega:c*128^k<2^64)];have:a|||c*128^k=a+c*128^k:=by rw[<-alY] at ha⊢;exact afp ha
   rw[this];omega
  grind)
theorem al0 (h:N (.int .u64 ((u/2:Nat):Int))):aX P X w (binOp .shr t (.int .u64 (u:Int)) (.int .u64 1)) N:=
 Ef zQ (by
  have e:((u:Int)).fdiv (2^min (1:Int).toNat IntKind.u64.bits)=((u/2:Nat):Int):=by
   show((u:Int)).fdiv 2=_
   rw[Int.fdiv_eq_ediv_of_nonneg _ dQ];omega
  grind)
theorem Wd (hu:u<9223372036854775808):IntKind.i64.wrap (u:Int)=u:=by
 simp only[zT,mB,jT];simp;omega
theorem al1 (hu:u<9223372036854775808) (h:N (I (-1-(u:Int)))):aX P X w (Op.unary .xor (I (IntKind.i64.wrap (u:Int)))) N:=by
 rw[Wd hu];refine bF (v:=I (-1-(u:Int))) (λwa=>?_) h;have key:(aC 64 (-1)^^^aC 64 (u:Int)).toNat=18446744073709551615-u:=by
  have h1:aC 64 (-1)=BitVec.allOnes 64:=by decide
  have h2:(aC 64 (u:Int))=rF 64 u:=by simp
  rw[h1,h2,BitVec.allOnes_xor,BitVec.toNat_not,iI,fu zQ]
 have hk:(Op.unary .xor (I (u:Int))).run P wa= .ok (I (IntKind.i64.wrap (aC 64 (-1)^^^aC 64 (u:Int)).toNat)) wa:=by
  simp only[Op.unary,Op.intBits,jT,mB];rfl
 rw[hk,key];have:IntKind.i64.wrap ((18446744073709551615-u:Nat):Int)= -1-(u:Int):=by
  simp only[zT,mB,jT];simp;omega
 rw[this]
structure BD (w:World) (X:XS) (rb:Nat) (vb:Value) (at_:Nat) (pl:Int) (bs:List Nat):Prop where
 box:aH w X rb [vb,I at_,I 0,I pl] 315
 ow:Ow w X 5 1 vb (bs.map U1)
 le:at_<=bs.length
 sz:bs.length<=2^40
 lt: ∀b∈bs,b<256
variable {bs : List Nat} {pl : Int} {vb : Value} {at_ rb : Nat}
def BD.mv {Y:XS} (h:BD w X rb vb at_ pl bs) (m:Mv X w Y w'):BD w' Y rb vb at_ pl bs:=⟨h.box.mv m,h.ow.mv m,h.le,h.sz,h.lt⟩
variable {gI : Nat}
theorem BD.next {pl':Int} (h:BD w X rb vb at_ pl bs) (c:dY (λk=>k=rb) X w X' w') (hr:aH w' X' rb [vb,I gI,I 0,I pl'] 315) (hl:gI<=bs.length):
  BD w' X' rb vb gI pl' bs:=⟨hr,h.ow.dX c λg hg e=>h.ow.eH h.box (by rfl) (e▸hg),hl,h.sz,h.lt⟩
variable {tl : List Nat}
theorem JB (h:BD w X rb vb at_ pl bs) (he:bs.drop at_=encI n++tl) (hn:uI n):
  Ct pg 325 #[ptr rb 0,I at_] w X nX λv _ _=>v= .tuple #[I n,I ((at_+(encI n).length:Nat):Int),B true]:=by
 intro w0 hk;replace h:=h.mv hk.cr;have hb:=h.box;have oA:=h.ow.sl;have gd:=h.sz;have hz:=afq n;refine HB.1 λhs=>?_;refine AW (λm a b c w X=> ∃(k acc:Nat),a=I ((at_+k:Nat):Int)/\b= .int .u64 (acc:Int)/\c=B false/\m=10-k/\k<=9/\acc=xD n % 128^k/\(k=0\/128^k<=xD n)/\bs.drop (at_+k)=pV (xD n/128^k)++tl/\
  (encI n).length=k+(pV (xD n/128^k)).length/\ai (bK w0) w0 X w) 10 ⟨0,0,by simp,rfl,rfl,rfl,by omega,by omega,.inl rfl,by simpa [encI] using he,by simp[encI],hs⟩ ?_
 clear hs;rintro m a b c w X ⟨k,acc,rfl,rfl,rfl,rfl,aI,ahD,ik,hd,hlen,hs⟩;have hp:0<128^k:=Nat.pow_pos dQ;have T9:acc<128^k:=by rw[ahD];exact Nat.mod_lt _ hp
 generalize hq:xD n/128^k=q at hd hlen;have hzq:xD n=acc+q*128^k:=by rw[ahD,<-hq,zS];exact(Nat.mod_add_div _ _).symm
 obtain⟨c,r,EJ,Ua⟩: ∃c r,pV q++tl=c::r/\((q<128/\c=q)\/(¬q<128/\c=q % 128+128/\r=pV (q/128)++tl)):=by
  by_cases h1:q<128
  ·exact⟨q,tl,by rw[abQ h1];rfl,.inl ⟨h1,rfl⟩⟩
  ·exact⟨_,_,by rw[abR h1];rfl,.inr ⟨h1,rfl,rfl⟩⟩
 rw[EJ] at hd;have hx:bs[at_+k]? =some c:=by
  have:=congrArg (λl:List Nat=>l[0]?) hd;simpa using this
 have cB:at_+k<bs.length:=(List.getElem?_eq_some_iff.1 hx).1;have aoB:=h.lt c (aA hx);have al2:k=9->q<=1:=λe=>by
  subst e;have:q*128^9<18446744073709551616:=by omega
  omega
 have iC:c % 128=q % 128:=by rcases Ua with⟨h1,rfl⟩|⟨h1,rfl,_⟩<;>omega
 have lK:c % 128*128^k<=q*128^k:=cR _ (by rw[iC];exact Nat.mod_le _ _);have he1:k=9->c % 128<=1:=λe=>by have:=al2 e;omega
 have tQ:q<128->(encI n).length=k+1/\c=q:=λh1=>⟨by rw[hlen,abQ h1];rfl,by rcases Ua with⟨_,e⟩|⟨h2,_⟩;exact e;exact absurd h1 h2⟩
 have wF:c=0->k=0:=λe=>by
  rcases ik with h1|h1
  ·exact h1
  ·have:1<=q:=by rw[<-hq];exact Nat.div_pos h1 hp
   rcases Ua with⟨_,e2⟩|⟨_,e2,_⟩<;>omega
 have hc9:k=9->c<128:=λe=>by
  have:=al2 e;rcases Ua with⟨_,e2⟩|⟨h2,_,_⟩<;>omega
 have hS:c<128->acc+c % 128*128^k=xD n/\(encI n).length=k+1:=λh1=>by
  have h2:q<128:=by rcases Ua with⟨h2,_⟩|⟨_,h2,_⟩<;>omega
  rw[iC,fu h2];exact⟨hzq.symm,(tQ h2).1⟩
 have kW:c<128->(acc+c % 128*128^k) % 2=1->(-1-(((acc+c % 128*128^k)/2:Nat):Int))=n:=λh1 h2=>by
  rw[(hS h1).1] at h2⊢;by_cases h3:n<0
  ·have:=abP hn h3;omega
  ·have:=abO hn zQ;omega
 have rD:c<128-> ¬(acc+c % 128*128^k) % 2=1->IntKind.i64.wrap (((acc+c % 128*128^k)/2:Nat):Int)=n:=λh1 h2=>by
  rw[(hS h1).1] at h2⊢;rw[Wd zQ];by_cases h3:n<0
  ·have:=abP hn h3;omega
  ·have:=abO hn zQ;omega
 have Hr:c<128->((at_+k:Nat):Int)+1=((at_+(encI n).length:Nat):Int):=λh1=>by rw[(hS h1).2];omega
 repeat' first|refine aJ ?_;intros|refine cQ ?_ ?_<;>intros|with_reducible apply cD|(with_reducible refine ahC aoB ?_)|(with_reducible refine alX zQ zQ ?_)|((with_reducible refine akn (k:=k) zQ aI zQ zQ ?_))|((with_reducible refine ako T9 zQ ?_))|(with_reducible apply al0)|((with_reducible refine alW zQ ?_))|((with_reducible refine al1 zQ ?_))|(refine qr ?_;intro wa hk;(rw[kW zQ zQ,Hr zQ]))|(refine qr ?_;intro wa hk;(rw[rD zQ zQ,Hr zQ]))
 have dB: ¬q<128:=λh1=>by have:=(tQ h1).2;omega
 obtain⟨Cy,jS⟩:c=q % 128+128/\r=pV (q/128)++tl:=by
  rcases Ua with⟨h1,_⟩|⟨_,h2,h3⟩
  ·exact absurd h1 dB
  ·exact⟨h2,h3⟩
 have pc:128^(k+1)=128^k*128:=Nat.pow_succ ..;have hqd:xD n/128^(k+1)=q/128:=by rw[pc,<-Nat.div_div_eq_div_mul,hq]
 refine zi (10-(k+1)) zQ ⟨k+1,acc+c % 128*128^k,by rfl,rfl,rfl,rfl,by omega,?_,.inr ?_,?_,?_,hs⟩
 ·rw[pc,Nat.mod_mul,hq,iC,ahD,zS (128^k)]
 ·rw[pc,hzq];have:128*128^k<=q*128^k:=cR _ zQ;omega
 ·rw[hqd,<-jS,<-Nat.add_assoc,<-il,hd];rfl
 ·rw[hqd,hlen,abR dB,aK];omega
variable {v : Value} {e : Nat}
theorem Xt {t:Nat} {z':Int} {j:Nat} (h:Ow w X e k v rows) (ct:rows≠[]) (hz:z=i) (uC:z'=j) (yD:i<=j) (hj:j<=rows.length)
  (ht:P.underlying t=some (.slice (P.elem t))) (hs:(P.info? (P.elem t)).map (·.size)=some k)
  (n: ∀b o cap,Cells w X b o ((rows.drop i).take (j-i)).flatten->j-i<=cap->cap<=2^63-1->N (.slice (some ⟨b,o,none⟩) (j-i) cap)):aX P X w (Instr.sliceAt t v (some (.int .i64 z)) (some (.int .i64 z')) none) N:=by
 subst hz;subst uC;obtain⟨h1,⟨rfl,rfl⟩|⟨g,off,cap,cur,rfl,hx,hg,pL,iC,iN,uG⟩⟩:=h
 ·exact absurd rfl ct
 have hq: ∃inf,P.info? (P.elem t)=some inf/\inf.size=k:=by
  cases hq:P.info? (P.elem t)with
  |none=>simp[hq] at hs
  |some inf=>exact⟨inf,rfl,by simpa [hq] using hs⟩
 obtain⟨inf,hq,gd⟩:=hq;have Di:cap<=2^63-1:=ad iC dQ;have nQ: ∀wa:World,(Instr.sliceAt t (.slice (some ⟨g,off,none⟩) rows.length cap) (some (.int .i64 (i:Int))) (some (.int .i64 (j:Int))) none).run P wa= .ok (.slice (some ⟨g,if cap=i then off else off+i*k,none⟩) (j-i) (cap-i)) wa:=λwa=>by
  rw[run_sliceAt_slice wa t _ _ _ _ ht,run_slice_lh wa t _ _ cap ht .i64 .i64 i j zQ zQ zQ];by_cases hc:cap=i
  ·simp[sizeOf,typeInfo,hq,gd,sliced,hc]
  ·simp[sizeOf,typeInfo,hq,gd,sliced,Addr.add_lit,hc]
 refine bF nQ (n _ _ _ ⟨hx,cur,e,(0,0),hg,λq u hu=>?_⟩ zQ zQ);have hr: ∀r∈rows.drop i,r.length=k:=λr hr=>h1 r (da hr);rw[aL.lM (j-i) hr,aL.CI i h1,<-uG] at hu;have hql:q<(j-i)*k:=by
  have:=(List.getElem?_eq_some_iff.1 hu).1;simp only[aB] at this;omega
 rw[fS hql,gq] at hu;have pK:i*k+q<rows.length*k:=by
  have h3:i*k+(j-i)*k=j*k:=by rw[<-jf];congr 1;omega
  have h4:=cR k hj;omega
 rw[fS pK,gq] at hu;rw[Array.getElem?_toList] at hu;by_cases hc:cap=i
 ·exfalso;have:j-i=0:=by omega
  rw[this] at hql;simp at hql
 ·rw[if_neg hc];rw[<-Nat.add_assoc] at hu;exact hu
def ahE (f:FuncId) (args:Array Value) (w:World) (X:XS) (rb:Nat) (vb:Value) (gI:Nat) (pl:Int) (res:Value):Prop:=
 Ct pg f args w X (λk=>k=rb) λv _ w'=>v=res/\aH w' (λk=>k=rb) rb [vb,I gI,I 0,I pl] 315
theorem BD.ft (h:BD w X rb vb at_ pl bs) (hk:Kp X w w0):Ft w0 (λk=>k=rb) w0 (bK w0) (λk=>k=rb):=
 Ft.init λk e=>by subst e;exact(h.mv hk.cr).box.1
theorem ahF (h:BD w X rb vb at_ pl bs) (he:bs.drop at_=encI n++tl) (hn:uI n):
  ahE 261 #[ptr rb 0] w X rb vb (at_+(encI n).length) pl (I n):=by
 intro w0 hk;have hT:=h.ft hk;replace h:=h.mv hk.cr;have hb:=h.box;refine KZ.1 λ_=>?_;repeat' refine aJ ?_;intros
 refine dS (JB h he hn) kQ hT.s.has λw1 X1 ax=>?_;have dW:=hT.since ax;have lK:=hb.since ax;repeat' first|refine ak ?_;intros|with_reducible apply cD
 refine pM (o:=1) lK zQ kQ sQ rfl dW.s.has λw2 X2 c2 jD=>?_;have cY:Ft w0 (λk=>k=rb) w2 X2 (λk=>k=rb):=dW.dX c2 (λk af=>af) λk af=>.inl af
 skip
 exact cY.fin λwa aI=>⟨rfl,rfl,by rw[aI.block _ jD.1];exact jD.2⟩
variable {most : Int}
theorem ac9 {e:Int} {n:Nat} (h:BD w X rb vb at_ pl bs) (he:bs.drop at_=encI n++tl) (hn:(n:Int)<=most) (hm:most<2^62):
  Ct pg 330 #[ptr rb 0,I most,I e] w X nX λv _ _=>v= .tuple #[I n,I ((at_+(encI n).length:Nat):Int),B true]:=by
 intro w0 hk;replace h:=h.mv hk.cr;have hb:=h.box;refine Io.1 λhs=>?_;repeat' refine ak ?_;intros
 refine dS (JB h he (by unfold uI;omega)) kQ hs.has λw1 X1 ax=>?_;have hs:=hs.trans ax;repeat' refine aJ ?_;intros
 exact bS hs λwa aI=>rfl
theorem ada {n:Nat} (h:BD w X rb vb at_ pl bs) (he:bs.drop at_=encI n++tl) (hn:(n:Int)<=most) (hm:most<2^62):
  ahE 269 #[ptr rb 0,I most] w X rb vb (at_+(encI n).length) pl (I n):=by
 intro w0 hk;have hT:=h.ft hk;replace h:=h.mv hk.cr;have hb:=h.box;refine Ip.1 λ_=>?_;repeat' refine aJ ?_;intros
 refine dS (ac9 h he hn hm) kQ hT.s.has λw1 X1 ax=>?_;have dW:=hT.since ax;have lK:=hb.since ax;repeat' first|refine ak ?_;intros|with_reducible apply cD
 refine pM (o:=1) lK zQ kQ sQ rfl dW.s.has λw2 X2 c2 jD=>?_;have cY:Ft w0 (λk=>k=rb) w2 X2 (λk=>k=rb):=dW.dX c2 (λk af=>af) λk af=>.inl af
 skip
 exact cY.fin λwa aI=>⟨rfl,rfl,by rw[aI.block _ jD.1];exact jD.2⟩
theorem afr: ∀l:List Nat,(l.map U1).flatten=l.map λx:Nat=>Value.int .u8 x
 |[]=>rfl
 |x::l=>by rw[List.map_cons,cW,afr l];rfl
theorem afs (h:BD w X rb vb at_ pl bs):
  Ct pg 270 #[ptr rb 0] w X nX λv _ _=>v=I ((bs.length:Int)-at_):=by
 intro w0 hk;replace h:=h.mv hk.cr;have hb:=h.box;have oA:=h.ow.sl;have gd:=h.sz;have hle:=h.le;refine JV.1 λhs=>?_;repeat' refine aJ ?_;intros
 exact bS hs λwa aI=>rfl
theorem QA (h:BD w X rb vb at_ pl bs):
  Ct pg 195 #[ptr rb 0] w X nX λv _ _=>v= .tuple #[I 0,I pl]:=by
 intro w0 hk;replace h:=h.mv hk.cr;have hb:=h.box;refine Iq.1 λhs=>?_;repeat' refine ak ?_;intros
 exact bS hs λwa aI=>rfl
theorem ahG (h:BD w X rb vb at_ pl bs) (he:at_=bs.length):
  Ct pg 135 #[ptr rb 0] w X nX λv _ _=>v= .tuple #[I 0,I pl]:=by
 intro w0 hk;replace h:=h.mv hk.cr;have hb:=h.box;have oA:=h.ow.sl;have gd:=h.sz;refine K0.1 λhs=>?_;repeat' refine aJ ?_;intros
 refine dS (QA (h.mv hs.mv)) kQ hs.has λw1 X1 ax=>?_;have hs:=hs.trans ax;repeat' refine ak ?_;intros
 exact bS hs λwa aI=>rfl
theorem ahH {v0:Value} (h:Sl w X 1 v0 (bs.map U1)) (gd:bs.length<=2^40) (cB: ∀b∈bs,b<256):
  Ct pg 133 #[v0] w X nX λv wa w'=> ∃rb vb,v=ptr rb 0/\BD w' (made wa w') rb vb 0 0 bs:=by
 intro w0 hk;replace h:=h.mv hk.cr;refine Ni.1 λhs=>?_;repeat' first|(with_reducible apply adb);(case hX=>exact hs.has);(case hu=>kernel_rfl);(case hz=>kernel_rfl);intro acc w X ax ho;replace hs:=hs.trans ax
 refine qj ho hs (λ_ h=>h) kQ (h.mv hs.mv) (λr hr u hu=>?_) oQ oQ λv1 w1 X1 Xy uH BE asI=>?_
 ·obtain⟨x,_,rfl⟩:=List.mem_map.1 hr;simp at hu;subst hu;rfl
 clear hs ax;have hs:=Xy;obtain⟨b1,n1,c1,rfl⟩:=uH.sl.form;repeat' first|refine ak ?_;intros|(refine Od hs ?_;intro bx w X gr ax gf hs bw)
 have hz:=Xy.kp.size;refine bS gf λwa aI=>⟨bx,.slice b1 n1 c1,rfl,⟨⟨⟨by omega,?_⟩,?_⟩,?_,aq _,gd,cB⟩⟩
 ·have:=ax.has bx bw.1;have:=aI.size;omega
 ·rw[aI.block _ bw.1];exact bw.2
 ·exact((uH.since ax).kp aI).tight.ow
theorem B2 (cs:List Value) (o:Nat) (l:List Value) (h:o+l.length<=cs.length):(dr cs o l).length=cs.length:=by
 unfold dr;simp only[aa,aB,bR];omega
theorem Ub (cs:List Value) (o:Nat) (a b:List Value) (h:o+a.length+b.length<=cs.length):dr (dr cs o a) (o+a.length) b=dr cs o (a++b):=by
 unfold dr;have h1:(cs.take o).length=o:=by rw[aB];omega
 have e1:(cs.take o++a++cs.drop (o+a.length)).take (o+a.length)=cs.take o++a:=by
  rw[ig (by rw[aa,h1])]
 have e2:(cs.take o++a++cs.drop (o+a.length)).drop (o+a.length+b.length)=cs.drop (o+(a++b).length):=by
  rw[<-il,jX (by rw[aa,h1]),il,aa]
  congr 1;omega
 rw[e1,e2];simp only[ao]
abbrev al3 (rb:Nat):List Value:=[.pointer none,ptr rb 0]
structure RB (w:World) (X:XS) (rb:Nat) (vb:Value) (at_:Nat) (pl:Int) (bs:List Nat) (cb xb:Nat) (cs:List Value) (ty:TypeId):Prop where
 r:BD w X rb vb at_ pl bs
 x:aH w X xb cs ty
 c:Cells w X cb 0 (al3 rb)
 c1:cb≠rb
 c2:cb≠xb
 rx:rb≠xb
 vx: ¬eT vb xb
structure RS (w0 w:World) (X:XS) (rb:Nat) (vb:Value) (at_:Nat) (pl:Int) (bs:List Nat) (cb xb:Nat) (cs:List Value) (ty:TypeId):Prop extends RB w X rb vb at_ pl bs cb xb cs ty where
 t:Ft w0 (λk=>k=rb\/k=xb) w X (λk=>k=rb\/k=xb)
def RdC (f:FuncId) (args:Array Value) (w:World) (X:XS) (rb:Nat) (vb:Value) (gI:Nat) (pl:Int) (xb:Nat) (pE:List Value) (ty:TypeId):Prop:=
 Ct pg f args w X (λk=>k=rb\/k=xb) λv _ w'=>v= .tuple #[]/\aH w' (λk=>k=rb) rb [vb,I gI,I 0,I pl] 315/\aH w' (λk=>k=xb) xb pE ty
variable {o xb xo : Nat} {cs pE : List Value} {ty : TypeId}
section
theorem RB.start (h:RB w X rb vb at_ pl bs cb xb cs ty) (hk:Kp X w wa):RS wa wa (bK wa) rb vb at_ pl bs cb xb cs ty:=
 ⟨⟨h.r.mv hk.cr,h.x.mv hk.cr,h.c.mv hk.cr,h.c1,h.c2,h.rx,h.vx⟩,Ft.init λk e=>by rcases e with rfl|rfl;exact(h.r.mv hk.cr).box.1;exact(h.x.mv hk.cr).1⟩
def RS.since (h:RS w0 w X rb vb at_ pl bs cb xb cs ty) (hs:ai X w X' w'):RS w0 w' X' rb vb at_ pl bs cb xb cs ty:=
 ⟨⟨h.r.mv hs.mv,h.x.since hs,h.c.mv hs.mv,h.c1,h.c2,h.rx,h.vx⟩,h.t.since hs⟩
theorem _root_.Go.aL.Cells.dX {l:List Value} (h:Cells w X b o l) (c:dY F X w X' w') (hn: ¬F b):Cells w' X' b o l:=by
 obtain⟨hx,cs,t,fr,hb,hc⟩:=h;exact⟨c.sub b hx,cs,t,fr,by rw[c.block b hx hn];exact hb,hc⟩
def RS.aqk (h:RS w0 w X rb vb at_ pl bs cb xb cs ty) (c:dY (λk=>k=rb) X w X' w') (hr:aH w' X' rb [vb,I gI,I 0,I pl] 315) (hl:gI<=bs.length):RS w0 w' X' rb vb gI pl bs cb xb cs ty:=
 ⟨⟨h.r.next c hr hl,h.x.dX c (λe=>h.rx e.symm),h.c.dX c h.c1,h.c1,h.c2,h.rx,h.vx⟩,h.t.dX c (λ_ e=>.inl e) λk e=>.inl e⟩
def RS.ahI (h:RS w0 w X rb vb at_ pl bs cb xb cs ty) (c:dY (λk=>k=xb) X w X' w') (hr:aH w' X' xb pE ty):RS w0 w' X' rb vb at_ pl bs cb xb pE ty:=
 ⟨⟨⟨h.r.box.dX c h.rx,h.r.ow.dX c λg hg e=>h.vx (e▸hg),h.r.le,h.r.sz,h.r.lt⟩,hr,h.c.dX c h.c2,h.c1,h.c2,h.rx,h.vx⟩,h.t.dX c (λ_ e=>.inr e) λk e=>.inl e⟩
def RB.OY (h:RB w X rb vb at_ pl bs cb xb cs ty) (c:dY (λk=>k=rb\/k=xb) X w X' w') (hr:aH w' X' rb [vb,I gI,I 0,I pl] 315) (hl:gI<=bs.length) (hx:aH w' X' xb pE ty):RB w' X' rb vb gI pl bs cb xb pE ty:=
 ⟨⟨hr,h.r.ow.dX c λg hg e=>e.elim (λe=>h.r.ow.eH h.r.box kQ (e▸hg)) λe=>h.vx (e▸hg),hl,h.r.sz,h.r.lt⟩,hx,h.c.dX c λe=>e.elim h.c1 h.c2,h.c1,h.c2,h.rx,h.vx⟩
def RS.OY (h:RS w0 w X rb vb at_ pl bs cb xb cs ty) (c:dY (λk=>k=rb\/k=xb) X w X' w') (hr:aH w' X' rb [vb,I gI,I 0,I pl] 315) (hl:gI<=bs.length) (hx:aH w' X' xb pE ty):RS w0 w' X' rb vb gI pl bs cb xb pE ty:=
 ⟨h.toRB.OY c hr hl hx,h.t.dX c (λ_ e=>e) λk e=>.inl e⟩
variable {f : FuncId} {args : Array Value} {N : Value -> World -> XS -> Prop}
theorem RS.read {res:Value} (h:RS w0 w X rb vb at_ pl bs cb xb cs ty) (hc:ahE f args w X rb vb gI pl res) (hf:enters pg f=true) (hl:gI<=bs.length)
  (k: ∀w' X',RS w0 w' X' rb vb gI pl bs cb xb cs ty->N res w' X'):eC pg R X w true f args N:=
 yP hc hf h.t.s.has (λk e=>e▸h.r.box.1) λv wa w' X' ⟨hv,hr⟩ _ _ _ c=>by subst hv;exact k w' X' (h.aqk c ⟨c.sub _ h.r.box.1,hr.2⟩ hl)
theorem RS.call (h:RS w0 w X rb vb at_ pl bs cb xb cs ty) (hc:RdC f args w X rb vb gI pl xb pE ty) (hf:enters pg f=true) (hl:gI<=bs.length)
  (k: ∀w' X',RS w0 w' X' rb vb gI pl bs cb xb pE ty->N (.tuple #[]) w' X'):eC pg R X w true f args N:=
 yP hc hf h.t.s.has (λk e=>e.elim (λe=>e▸h.r.box.1) λe=>e▸h.x.1) λv wa w' X' ⟨hv,hr,hx⟩ _ _ _ c=>by
  subst hv;exact k w' X' (h.OY c ⟨c.sub _ h.r.box.1,hr.2⟩ hl ⟨c.sub _ h.x.1,hx.2⟩)
theorem RS.out (h:RS w0 w X rb vb at_ pl bs cb xb cs ty) (hk:Kp X w wa):di #[]=di #[]/\aH wa (λk=>k=rb) rb [vb,I at_,I 0,I pl] 315/\aH wa (λk=>k=xb) xb cs ty:=
 ⟨rfl,⟨rfl,by rw[hk.block _ h.r.box.1];exact h.r.box.2⟩,⟨rfl,by rw[hk.block _ h.x.1];exact h.x.2⟩⟩
theorem Uc (h:RB w X rb vb at_ pl bs cb xb cs ty):Ct pg 262 #[ptr cb 0] w X nX λv _ _=>v= .tuple #[]:=by
 intro wi hk;have hS:=h.start hk;have hc:=hS.c;refine JW.1 λ_=>?_;have hs:=ai.init wi;repeat' refine ak ?_;intros
 refine dS (QA (hS.r.mv hs.mv)) kQ hs.has λw1 X1 ax=>?_;have hs:=hs.trans ax;repeat' refine aJ ?_;intros
 exact bS hs λwa aI=>rfl
theorem RB.mJ {a b:List Nat} (h:RB w X rb vb at_ pl bs cb xb cs ty) (he:bs.drop at_=a++b):at_+a.length<=bs.length:=by
 have h1:=congrArg ba he;rw[bR,aa] at h1;have h2:=h.r.le;omega
theorem qW {a b:List Nat} (he:bs.drop at_=a++b):bs.drop (at_+a.length)=b:=by
 rw[<-il,he,List.drop_left]
theorem pd (h:RB w X rb vb at_ pl bs cb xb cs ty) (he:bs.drop at_=encI n++tl) (hn:uI n) (ho:xo+1<=cs.length):
  RdC 183 #[ptr cb 0,ptr xb xo] w X rb vb (at_+(encI n).length) pl xb (dr cs xo [I n]) ty:=by
 intro wi hk;have hS:=h.start hk;have hc:=hS.c;have EI:=hS.mJ he;refine CJ.1 λ_=>?_;have hs:=ai.fG hS.t.s.has;repeat' refine ak ?_;intros
 refine hS.read (ahF hS.r he hn) kQ EI λw1 X1 lU=>?_;clear hs;have hs:=ai.fG lU.t.s.has;repeat' refine ak ?_;intros
 refine FU (o:=xo) lU.x rfl kQ ho rfl rfl lU.t.s.has λw2 X2 c2 jD=>?_;have bg:=lU.ahI c2 jD;refine dS (Uc bg.toRB) kQ bg.t.s.has λw3 X3 dp=>?_;have bV:=bg.since dp;clear hs;have hs:=ai.fG bV.t.s.has
 skip
 exact bV.t.fin λwa aI=>bV.out aI
theorem afu (cs:List Value) (o:Nat) (a b c:Value) (h:o+3<=cs.length):dr (dr (dr cs o [a]) (o+1) [b]) (o+2) [c]=dr cs o [a,b,c]:=by
 have h1:=Ub cs o [a] [b] oQ;have h2:=Ub cs o ([a]++[b]) [c] oQ;simp only[aK,br,List.cons_append,cC] at h1 h2;rw[<-h2,<-h1]
theorem ajC {a b c:Int} (he:bs.drop at_=(encI a++encI b++encI c)++tl):bs.drop at_=encI a++(encI b++(encI c++tl)):=by rw[he];simp only[ao]
def ade (s:cn):Prop:=uI s.wall/\uI s.dy/\uI s.node
def Dl (t:bE):Prop:=uI t.ep/\uI t.aR/\uI t.sq
theorem aaT {s:cn} (h:RB w X rb vb at_ pl bs cb xb cs ty) (he:bs.drop at_=lx s++tl) (hn:ade s) (ho:xo+3<=cs.length):
  RdC 189 #[ptr cb 0,ptr xb xo] w X rb vb (at_+(lx s).length) pl xb (dr cs xo [I s.wall,I s.dy,I s.node]) ty:=by
 intro wi hk;have hS:=h.start hk;have e1:bs.drop at_=encI s.wall++(encI s.dy++(encI s.node++tl)):=ajC he;have e2:=qW e1;have e3:=qW e2;have CK:(dr cs xo [I s.wall]).length=cs.length:=B2 _ _ _ oQ;have xt:(dr (dr cs xo [I s.wall]) (xo+1) [I s.dy]).length=cs.length:=(B2 _ _ _ (by simp[CK];omega)).trans CK;refine AX.1 λ_=>?_;repeat' first|refine ak ?_;intros|(with_reducible refine sT kQ kQ ?_)
 refine hS.call (pd (xo:=xo) hS.toRB e1 hn.1 zQ) kQ (hS.mJ e1) λw1 X1 lU=>?_;repeat' first|refine ak ?_;intros|(with_reducible refine sT kQ kQ ?_)
 refine lU.call (pd lU.toRB e2 hn.2.1 zQ) kQ (lU.mJ e2) λw2 X2 bg=>?_;repeat' first|refine ak ?_;intros|(with_reducible refine sT kQ kQ ?_)
 refine bg.call (pd bg.toRB e3 hn.2.2 zQ) kQ (bg.mJ e3) λw3 X3 bV=>?_
 skip
 rw[afu _ _ _ _ _ ho] at bV;have e:at_+(encI s.wall).length+(encI s.dy).length+(encI s.node).length=at_+(lx s).length:=by unfold lx;simp only[aa];omega
 rw[e] at bV;exact bV.t.fin λwa aI=>bV.out aI
theorem Ud {s:bE} (h:RB w X rb vb at_ pl bs cb xb cs ty) (he:bs.drop at_=nA s++tl) (hn:Dl s) (ho:xo+3<=cs.length):
  RdC 187 #[ptr cb 0,ptr xb xo] w X rb vb (at_+(nA s).length) pl xb (dr cs xo [I s.ep,I s.aR,I s.sq]) ty:=by
 intro wi hk;have hS:=h.start hk;have e1:bs.drop at_=encI s.ep++(encI s.aR++(encI s.sq++tl)):=ajC he;have e2:=qW e1;have e3:=qW e2;have CK:(dr cs xo [I s.ep]).length=cs.length:=B2 _ _ _ oQ;have xt:(dr (dr cs xo [I s.ep]) (xo+1) [I s.aR]).length=cs.length:=(B2 _ _ _ (by simp[CK];omega)).trans CK;refine CM.1 λ_=>?_;repeat' first|refine ak ?_;intros|(with_reducible refine sT kQ kQ ?_)
 refine hS.call (pd (xo:=xo) hS.toRB e1 hn.1 zQ) kQ (hS.mJ e1) λw1 X1 lU=>?_;repeat' first|refine ak ?_;intros|(with_reducible refine sT kQ kQ ?_)
 refine lU.call (pd lU.toRB e2 hn.2.1 zQ) kQ (lU.mJ e2) λw2 X2 bg=>?_;repeat' first|refine ak ?_;intros|(with_reducible refine sT kQ kQ ?_)
 refine bg.call (pd bg.toRB e3 hn.2.2 zQ) kQ (bg.mJ e3) λw3 X3 bV=>?_
 skip
 rw[afu _ _ _ _ _ ho] at bV;have e:at_+(encI s.ep).length+(encI s.aR).length+(encI s.sq).length=at_+(nA s).length:=by unfold nA;simp only[aa];omega
 rw[e] at bV;exact bV.t.fin λwa aI=>bV.out aI
end
def inV (v:gL):Prop:=v.may=true/\v.num<18446744073709551616
theorem inV.kind {v:gL} (h:inV v):v=gL.zero\/(v.kind=1/\v.text=⟨#[]⟩/\v.num=canon v.num)\/(v.kind=2/\v.num=0/\v.text.size<=64):=by
 obtain⟨h,_⟩:=h;unfold gL.may at h;split at h
 ·rename_i h0;simp only[aF,decide_eq_true_eq] at h;exact .inl (gL.ext h0 h.1 h.2)
 ·split at h
  ·rename_i h1;simp only[aF,decide_eq_true_eq] at h;exact .inr (.inl ⟨h1,h.1,h.2⟩)
  ·split at h
   ·rename_i h2;simp only[aF,decide_eq_true_eq] at h;exact .inr (.inr ⟨h2,h.1,by omega⟩)
   ·cases h
theorem ahJ {t lo:Nat} {r:List Value} (h:Own w X lo e k v (rows++[r])) (hz:z=rows.length)
  (ht:P.underlying t=some (.slice (P.elem t))) (hs:(P.info? (P.elem t)).map (·.size)=some k)
  (n: ∀g cs,aH w X g cs e->lo<=g->v.ownBlock=some g->rows.length*k+k<=cs.length->cs.take (rows.length*k)=rows.flatten->
   (∀w' X' r',r'.length=k->aH w' X' g (dr cs (rows.length*k) r') e->Own w' X' lo e k v (rows++[r']))->N (ptr g (rows.length*k))):aX P X w (kT t k v (.int .i64 z)) N:=by
 subst hz;have oA:=h.sl;obtain⟨h1,h2,h3⟩:=h;have hlr:(rows++[r]).length=rows.length+1:=by simp
 rcases h2.2 with⟨rfl,hn⟩|⟨g,cap,cur,rfl,hb,hg,pL,iC,iN,uG⟩
 ·rw[hlr] at hn;cases hn
 rw[hlr] at pL uG;have sj:(rows.length+1)*k=rows.length*k+k:=Nat.succ_mul _ _;have AT:(rows.length+1)*k<=cap*k:=cR k pL;have iP:rows.flatten.length=rows.length*k:=by
  have h4: ∀x∈rows,x.length=k:=λx hx=>h1 x (bM _ hx);exact lG h4
 have al4:cur.toList.take (rows.length*k)=rows.flatten:=by
  have:=congrArg (zG (rows.length*k)) uG;rw[xy,ky zQ,dO,ig iP] at this;exact this
 have pG:cur.toList.length=cur.size:=Array.length_toList;have hA:rows.length*k+k<=cur.toList.length:=by rw[pG,iN,<-sj];exact AT
 unfold kT;refine bF (λwa=>?_) (n g cur.toList ⟨h3 g rfl,by simpa using hg⟩ hb rfl hA al4 ?_)
 ·rw[run_indexAt_slice (h:=ht),if_pos (by rw[hlr];omega)];cases hq:P.info? (P.elem t)with
  |none=>simp[hq] at hs
  |some inf=>
   have:inf.size=k:=by simpa [hq] using hs
   simp[sizeOf,typeInfo,hq,this,zN]
 ·intro w' X' r' jS bw;refine⟨λx hx=>?_,⟨?_,.inr ⟨g,cap,(dr cur.toList (rows.length*k) r').toArray,?_,hb,bw.2,by rw[aa];exact pL,iC,?_,?_⟩⟩,λq hq=>?_⟩
  ·rcases List.mem_append.1 hx with hx|hx
   ·exact h1 x (bM _ hx)
   ·simp only[List.mem_singleton] at hx;subst hx;exact jS
  ·rw[dO,aa,iP];simp[jS,sj]
  ·rw[aa,aa];rfl
  ·rw[List.size_toArray,B2 _ _ _ (by rw[jS];exact hA),pG];exact iN
  ·show zG _ (dr _ _ _)=_
   unfold dr;rw[aa,List.length_singleton,sj,dO,al4];simp only[cW,List.flatten_nil,List.append_nil];rw[ig (by rw[aa,iP,jS])]
  ·cases hq;exact bw.1
abbrev ke:Value:=.slice none 0 0
structure adf (w0:World) (rb:Nat) (vb:Value) (cb xb:Nat):Prop where
 r:rb<w0.heap.size
 x:xb<w0.heap.size
 c:cb<w0.heap.size
 v: ∀g,eT vb g->g<w0.heap.size
def RS.aoC (h:RS w0 w0 (bK w0) rb vb at_ pl bs cb xb cs ty):adf w0 rb vb cb xb:=⟨h.r.box.1,h.x.1,h.c.1,λg hg=>(h.r.ow.bA hg).1⟩
theorem RS.aql {G:XS} (h:RS w0 w X rb vb at_ pl bs cb xb cs ty) (e:adf w0 rb vb cb xb) (c:dY G X w X' w') (hG: ∀k,G k->X k/\w0.heap.size<=k):RS w0 w' X' rb vb at_ pl bs cb xb cs ty:=by
 have no: ∀{k},k<w0.heap.size-> ¬G k:=λhk hg=>by have:=(hG _ hg).2;omega
 refine⟨⟨⟨h.r.box.dX c (no e.r),h.r.ow.dX c λg hg xp=>no (e.v g hg) xp,h.r.le,h.r.sz,h.r.lt⟩,h.x.dX c (no e.x),h.c.dX c (no e.c),h.c1,h.c2,h.rx,h.vx⟩,?_⟩;exact(h.t.more (F':=λk=>(k=rb\/k=xb)\/G k) λk hk=>hk.imp id λhg=>hG k hg).dX c (λk hg=>.inr hg) λk hk=>.inl (.inl hk)
theorem RS.aoD {g:Nat} (h:RS w0 w X rb vb at_ pl bs cb xb cs ty) (e:adf w0 rb vb cb xb) (c:dY (λk=>k=rb\/k=g) X w X' w') (hg:X g/\w0.heap.size<=g) (hr:aH w' X' rb [vb,I gI,I 0,I pl] 315) (hl:gI<=bs.length):RS w0 w' X' rb vb gI pl bs cb xb cs ty:=by
 have ex:=e.x;have ec:=e.c;have er:=e.r;refine⟨⟨⟨hr,h.r.ow.dX c λq hq zc=>zc.elim (λe2=>h.r.ow.eH h.r.box kQ (e2▸hq)) λe2=>by have:=e.v q hq;omega,hl,h.r.sz,h.r.lt⟩,h.x.dX c (λe2=>e2.elim (λe2=>h.rx e2.symm) λe2=>by omega),h.c.dX c (λe2=>e2.elim h.c1 λe2=>by omega),h.c1,h.c2,h.rx,h.vx⟩,?_⟩;exact(h.t.more (F':=λk=>(k=rb\/k=xb)\/k=g) λk hk=>hk.imp id λ(e2:k=g)=>by subst e2;exact hg).dX c (λk hk=>hk.elim (λe2=>.inl (.inl e2)) .inr) λk hk=>.inl (.inl hk)
theorem adg (cs:List Value) (o:Nat) (a b:Value) (h:o+1<=cs.length):dr (dr cs o [a]) o [b]=dr cs o [b]:=by
 have h1:(cs.take o).length=o:=by rw[aB];omega
 unfold dr;simp only[aK,br];have e1:(cs.take o++[a]++cs.drop (o+1)).take o=cs.take o:=by rw[ao,ig h1]
 have e2:(cs.take o++[a]++cs.drop (o+1)).drop (o+1)=cs.drop (o+1):=by rw[jX (by simp[h1])]
 simp only[Nat.zero_add] at*;rw[e1,e2]
theorem CN {u:Value} (h:aH w X xb (dr cs o [u]) ty) (ho:o+1<=cs.length):Cells w X xb o [u]:=by
 have h1:(cs.take o).length=o:=by rw[aB];omega
 refine⟨h.1,_,ty,(0,0),h.2,λj x hj=>?_⟩;cases j with
 |zero=>
  simp at hj;subst hj;rw[List.getElem?_toArray,Nat.add_zero];unfold dr;rw[ao,cT zQ,h1];simp
 |succ j=>simp at hj
end Go.Proofs.YtgfijddlkhkopaaGreat