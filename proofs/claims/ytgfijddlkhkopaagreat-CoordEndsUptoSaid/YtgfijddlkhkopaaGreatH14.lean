/-
 Part 14 of the proof: what the last text leans on.
-/
import Derived.Test.YtgfijddlkhkopaaGreatProg
import Derived.Recover
import Derived.KernelRfl
import Derived.Tactics
import Derived.Test.YtgfijddlkhkopaaGreatH13
open Go.Value renaming cells → aW, agg → ep, tuple → dA
open BitVec renaming ofInt → aF, ofNat → rX, toNat_ofNat → iK
open List renaming length_append → aa, length_take → aI, length → az, all → aA, length_map → ai, length_drop → bO, take_of_length_le → ax, mem_of_mem_drop → dd, flatten_append → dV, take_append_of_le_length → gV, append_assoc → ak, mem_of_mem_take → dL, take → zG, drop_drop → ik, take_left' → ic, length_nil → bz, nil_append → cx, map_map → bB, take_take → xE, getElem?_take_of_lt → fM, getElem?_append_right → cP, getElem?_drop → gp, length_cons → aM, mem_of_getElem? → aB, take_append_drop → gX, getElem?_append_left → dT, flatten_cons → cW, drop_left' → kc, mem_append_left → bJ
open Array renaming toList → cd, replicate → cZ
open Nat renaming mul_le_mul_right → cM, zero_le → au, le_trans → ad, add_mul → jk, mod_eq_of_lt → gN, min_eq_left → kI, mul_comm → zR, le_of_ble_eq_true → eu
open Go.Exit renaming thenS → rM
open Bool renaming and_eq_true → aD, false_eq_true → aY
open Go.IntKind renaming bits → mX, signed → j5, wrap → zS
namespace Go.Proofs.YtgfijddlkhkopaaGreat
open Go.Proofs.Tryz renaming prog → pg
open Go.aG
set_option maxRecDepth 100000
set_option maxHeartbeats 4000000
set_option linter.unusedVariables false
set_option linter.unusedSimpArgs false
theorem Ou:Idle pg 59:=by
 refine⟨by kernel_rfl,λez w=>?_⟩;refine callsD_of_wpS Tryz.func59 rfl λc₀ cs hu=>?_;rw[Tryz.ntmps59];have gd:8<=(ez++cZ (15-ez.size) undef).size:=by simp;omega
 generalize ez++cZ (15-ez.size) undef=tm at gd;have h2:2<tm.size:=by omega
 have h3:3<tm.size:=by omega
 have h4:4<tm.size:=by omega
 have h5:5<tm.size:=by omega
 have h6:6<tm.size:=by omega
 have h7:7<tm.size:=by omega
 apply wpS_seq;apply wpS_region;simp[wpOpsS,go_sem,recoverD,hu,rM];apply wpS_seq;apply wpS_region;simp[wpOpsS,go_sem,rM,h2,h3,h4,h5,h6,h7];refine wpS_cond (t:=false) (by simp[Act.eval,h2,h3,h4,h5,h6,h7]) ?_;simp only[aY,if_false];refine wpS_of_wp (wp_skip ?_);cases c₀;simp_all [bodyPostS,results,Tryz.results59]
theorem Ov:Idle pg 51:=by
 refine⟨by kernel_rfl,λez w=>?_⟩;refine callsD_of_wpS Tryz.func51 rfl λc₀ cs hu=>?_;rw[Tryz.ntmps51];have gd:8<=(ez++cZ (13-ez.size) undef).size:=by simp;omega
 generalize ez++cZ (13-ez.size) undef=tm at gd;have h2:2<tm.size:=by omega
 have h3:3<tm.size:=by omega
 have h4:4<tm.size:=by omega
 have h5:5<tm.size:=by omega
 have h6:6<tm.size:=by omega
 have h7:7<tm.size:=by omega
 apply wpS_seq;apply wpS_region;simp[wpOpsS,go_sem,recoverD,hu,rM];apply wpS_seq;apply wpS_region;simp[wpOpsS,go_sem,rM,h2,h3,h4,h5,h6,h7];refine wpS_cond (t:=false) (by simp[Act.eval,h2,h3,h4,h5,h6,h7]) ?_;simp only[aY,if_false];refine wpS_of_wp (wp_skip ?_);cases c₀;simp_all [bodyPostS,results,Tryz.results51]
theorem aaI:Idle pg 81:=by
 refine⟨by kernel_rfl,λez w=>?_⟩;refine callsD_of_wpS Tryz.func81 rfl λc₀ cs hu=>?_;rw[Tryz.ntmps81];have gd:8<=(ez++cZ (12-ez.size) undef).size:=by simp;omega
 generalize ez++cZ (12-ez.size) undef=tm at gd;have h2:2<tm.size:=by omega
 have h3:3<tm.size:=by omega
 have h4:4<tm.size:=by omega
 have h5:5<tm.size:=by omega
 have h6:6<tm.size:=by omega
 have h7:7<tm.size:=by omega
 apply wpS_seq;apply wpS_region;simp[wpOpsS,go_sem,recoverD,hu,rM];apply wpS_seq;apply wpS_region;simp[wpOpsS,go_sem,rM,h2,h3,h4,h5,h6,h7];refine wpS_cond (t:=false) (by simp[Act.eval,h2,h3,h4,h5,h6,h7]) ?_;simp only[aY,if_false];refine wpS_of_wp (wp_skip ?_);cases c₀;simp_all [bodyPostS,results,Tryz.results81]
open Go.Sort
attribute [local irreducible] un jn jq ji ld1 je st1 oS mO pj me pH HR D4 gT pI aZ nO nQ eW eV eU eC eF gE mE fin iM bq de vS KZ HS HT HU HV HW K0 K3 K4 K5 EW EX HX HY HZ K6 K7 K8
theorem QI: ∀{l:List Nat} {x:Nat},x∈l->x<=l.sum
 |y::l,x,h=>by
  rw[List.sum_cons];rcases List.mem_cons.1 h with e|h
  ·omega
  ·have:=QI h;omega
theorem aaJ (a b:Int) (p:List jr):(fj a b p).Nodup:=(kP _).nodup_iff.2 (E9 a b p [] 0 List.nodup_nil (λx hx=>by cases hx) (Nat.le_refl _)).1
def AT (g:oW):bZ:= { Ck with kind:=1,range:=g.pt.id,iC:=g.pt.iC,keys:=g.keys }
def kY (ds:tM) (p:List jr):List oW:=mV ds (jc ds [] (fj 1 1 p)).1
def uy (ds:tM) (p:List jr):List bZ:=(kY ds p).map AT
variable {gL : Int} {cb : Nat} {X : XS} {w : World}
theorem acQ {c:bN} (h:aK w X cb (G9 c) IQ) (hl:c.du<2^60) (AU: -(2^60)<c.du):
  Ct pg 110 #[ptr cb 0,I gL] w X (· =cb) λv _ w'=>v= .tuple #[(c.tN gL).1.v,I (c.tN gL).2]/\aK w' (· =cb) cb (G9 (if(c.tN gL).2=0 then(c.tN gL).1 else c)) IQ:=by
 intro w0 hk;have hF:FX (· =cb) X w:=λk af=>by subst af;exact⟨h.1,h.lt⟩
 have hT:=hF.ft hk;replace h:=h.mv hk.cu;refine Pe.1 λ_=>?_;refine eT (acS h hl AU) kQ (λ_ h=>h) λw1 X1 aC=>?_;generalize c.tN gL=q;obtain⟨s,e⟩:=q;replace h:=h.since aC;have ej:Ft w0 (· =cb) w1 X1 (· =cb):=⟨hT.s.trans aC,λk af=>by subst af;exact h.1,λk af=>.inl af⟩;by_cases he:e=0
 ·repeat' first|refine aN ?_;intros|with_reducible apply cK
  refine Gy (o:=0) h zQ kQ sQ rfl rfl ej.s.has λw2 X2 c2 jI=>?_;have da:=ej.eo (F':=(· =cb)) c2 (λk af=>af) λk af=>.inl af;repeat' refine ao ?_;intros
  exact da.fin λwa aL=>⟨rfl,by rw[if_pos he];exact(jI.kp aL).own⟩
 ·repeat' first|refine aN ?_;intros|with_reducible apply cK
  exact ej.fin λwa aL=>⟨rfl,by rw[if_neg he];exact(h.kp aL).own⟩
theorem ahk {c:bN} (h:c.may=true) (h0:(c.tN gL).2=0):(c.tN gL).1.may=true:=by
 simp only[bN.may,aD,decide_eq_true_eq] at h⊢;revert h0;unfold bN.tN;split
 ·intro e;cases e
 ·split
  ·intro _;(try simp only);omega
  ·split
   ·intro e;cases e
   ·intro _;(try simp only);omega
def tO (p:List jr) (ck:bN) (gL:Int) (ds:tM):Int:=if nF p≠0 then nF p else if(ck.tN gL).2≠0 then(ck.tN gL).2 else(jc ds [] (fj 1 1 p)).2
structure sB (N:Nat) (d:rl):Prop where
 q:d.x.pre=false->d.x.vq=bf/\d.ids=[]
 p:nF d.p=0
 sn:d.sn.length<=N
 ws:d.ws.length<=80
 ids:d.ids.length<=80
 C3: ∀y∈d.ws,y.C3
 kn:0<=d.x.kn/\d.x.kn<6
 pq:d.pq=false
structure tn (N M:Nat) (n:bt):Prop where
 id:n.c.id=1
 act: ∀t b,getM t n.al=some b->sB N (n.A b)
 ds: ∀(i:Int) (r:eI),getM i n.ds=some r->r.id=i
 ms:n.ms=[]
 vm:n.vm=bf
 va:n.va=bf
 rm:n.rm=[]
 ra:n.ra=[]
 cl:n.cl.length<=M
 QJ:n.al.length<=M
 mM:M<=1000
 pre:n.pre=false
 cw: ∀b∈n.cl,(n.C b).waits.length<=80
 byT: ∀t b,getM t n.bl=some b->b∈n.cl/\(n.C b).r.aR=t
theorem TW (n:bt) (b:Nat):dN n b (n.A b)=n:=by
 unfold dN
 congr 1
 funext b'
 by_cases h:b'=b
 ·rw[if_pos h,h]
 ·rw[if_neg h]
variable {w' w0 wa : World} {X' : XS} {aH bM : Nat -> Nat} {n' : bt} {b : Nat}
section
variable {own : Nat -> Nat} {n : bt}
theorem Vh (h:jb w own n) (hX:sK own X) (hb:n.cU b) (hp:n.pre=false) (hW: ∀(i:Int) (r:eI),getM i n.ds=some r->r.id=i):
  Ct pg 61 #[ptr n.nb 0,I gL,ptr b 0] w X (gB own) λv wa w'=>NQ ea own wa w' λaH n'=> ∃vg gn st,v= .tuple #[vg,I (tO (n.A b).p n.ck gL n.ds)]/\aG.one vg=true/\n'= { dN n b { n.A b with x:= { (n.A b).x with st:=st } } with ck:=gn } /\
   (tO (n.A b).p n.ck gL n.ds=0->eQ w' (bR aH 4) 5 vg oW.rd (kY n.ds (n.A b).p)):=by
 intro w0 hk;have s:=St.init h hX hk;have ha:=(s.va hb).1;have Ib:=(s.h.act hb).2.2.2.2.1;have hs:=s.rf;have self:({ dN n b { n.A b with x:= { (n.A b).x with st:=(n.A b).x.st } } with ck:=n.ck } :bt)=n:=TW n b;refine Kf.1 λ_=>?_;repeat' refine ao ?_;intros
 refine eT (Le (Ib.mono (s.sub 4))) kQ hs.has λw1 X1 aC=>?_;replace Ib:=Ib.mv (aC.gU (s.sub 4));replace s:=s.since aC;clear hs ha;have hs:=s.rf;have hr:=s.v.1;rw[Qp hp] at hr;by_cases Fa:nF (n.A b).p≠0
 ·have QK:tO (n.A b).p n.ck gL n.ds=nF (n.A b).p:=by unfold tO;rw[if_pos Fa]
  repeat' refine aN ?_;intros
  exact s.fin λwa aL=>⟨bf,n.ck,(n.A b).x.st,by rw[QK],rfl,self.symm,λe=>absurd (QK.symm.trans e) Fa⟩
 have apF:nF (n.A b).p=0:=by omega
 have xD:=(Am apF).1;repeat' refine aN ?_;intros
 have AH:=(show n.pre=false->aK w1 (bR own 7) n.c.cb (G9 n.ck) IQ/\n.ck.may=true from s.get 7) hp;have Qq: ∀k,k=n.c.cb->own k=7:=λk e=>by rw[e];exact AH.1.1
 obtain⟨hl,AU⟩:n.ck.du<2^60/\ -(2^60)<n.ck.du:=by
  have:=AH.2;simp only[bN.may,aD,decide_eq_true_eq] at this;omega
 refine yV (acQ (gL:=gL) (AH.1.mono (s.sub 7)) hl AU) kQ s.has (λk e=>s.x k (by have:=Qq k e;omega)) λv yE w2 X2 q2 mq kW _ c2=>?_;obtain⟨rfl,V1⟩:=q2;obtain⟨lS,s2,m2⟩:=s.DI (F':=ea { n with ck:=if(n.ck.tN gL).2=0 then(n.ck.tN gL).1 else n.ck }) 7 c2 Qq (· =n.c.cb) (λk e=>.inl (Qq k e)) (λK _ _=>⟨V1,by
  show bN.may (if(n.ck.tN gL).2=0 then(n.ck.tN gL).1 else n.ck)=true
  split
  ·exact ahk AH.2 aQ
  ·exact AH.2⟩) nU
 replace Ib:=Ib.mv m2;clear hs hr V1 s;have hs:=s2.rf;by_cases mh:(n.ck.tN gL).2≠0
 ·have QK:tO (n.A b).p n.ck gL n.ds=(n.ck.tN gL).2:=by unfold tO;rw[if_neg Fa,if_pos mh]
  rw[if_neg mh] at s2;repeat' refine aN ?_;intros
  exact s2.fin λwa aL=>⟨bf,n.ck,(n.A b).x.st,by rw[QK],rfl,self.symm,λe=>absurd (QK.symm.trans e) mh⟩
 have apG:(n.ck.tN gL).2=0:=by omega
 have QK:tO (n.A b).p n.ck gL n.ds=(jc n.ds [] (fj 1 1 (n.A b).p)).2:=by unfold tO;rw[if_neg Fa,if_neg mh]
 rw[if_pos apG] at s2;generalize (n.ck.tN gL).1=st at s2⊢;have ha:=(s2.va (b:=b) hb).1;have oe:=(s2.h.act (b:=b) hb).1;repeat' refine aN ?_;intros
 refine s2.stN (o:=4) (tx b 0) oe (ea { dN n b { n.A b with x:= { (n.A b).x with st:=st } } with ck:=st }) zQ kQ (eu rfl) rfl rfl (λ_ _ _ h=>rj (n:= { n with ck:=st }) dQ h) (IW (n:= { n with ck:=st })) (λw3 X3 nE s3 m3=>?_) ix.1 ix.2;replace Ib:=Ib.mv m3;clear hs ha oe s2;have hs:=s3.rf;have ha:=(s3.vs (n:= { n with ck:=st }) hb).1;have hr:=s3.v.1;repeat' refine ao ?_;intros
 refine cA (AI (Ib.mono (s3.sub 4)) zQ) kQ hs.has ?_;rintro vk zj w4 X4 q4 tL pa fR;have s4:=s3.since fR;refine cA (Oo (show mH w4 X4 n.c.acp n.mb n.ds from s4.zO 2) hW (q4.mono pa).sl (by have:=Gx (a:=1) (b:=1) (p:=(n.A b).p);omega) λk af=>by have:=QC (a:=1) (b:=1) xD k af;omega) kQ fR.has ?_;rintro v5 Ox w5 X5 q5 IX Fe tg;obtain⟨mW,s5,m5,-,n5⟩:=(s4.since tg).vB (N:=made Ox w5) λk hk=>⟨Fe k hk,s4.nw (ad IX hk.1)⟩;clear hs;have hs:=s5.rf;by_cases he:(jc n.ds [] (fj 1 1 (n.A b).p)).2≠0
 ·rw[if_pos he] at q5;subst q5;repeat' refine ao ?_;intros
  exact s5.fin λwa aL=>⟨bf,st,st,by rw[QK],rfl,rfl,λe=>absurd (QK.symm.trans e) he⟩
 rw[if_neg he] at q5;obtain⟨vg,rfl,mg⟩:=q5;have ovg:=eQ.one mg;have AS:(jc n.ds [] (fj 1 1 (n.A b).p)).2=0:=by omega
 repeat' refine ao ?_;intros
 exact s5.fin λwa aL=>⟨vg,st,st,by rw[QK,AS],ovg,rfl,λ_=>eQ.mv (eQ.mv mg oW.mv (Mv.sub n5)) oW.mv (yD s5.x aL)⟩
end
def Sx (R:Ending->World->Prop) (nb xb:Nat) (w:World) (X:XS):Prop:=(jn (λ(y1:Value) (y2:Value) (w1:World) (X1:XS)=>
un (fD y1 0 3) λu1=>
un (fD y2 0 2) λu2=>
jq (aA [y1,y2,(.agg #[(I 0)])] cU) (fin R X1 w1 (dA #[u1,u2,(I 0)]))) λk1=>
((And
(nO pg X w (bq (ptr xb 0)) λx1=>
(And
(aZ pg X w (ji aT 0 0 3 x1) λx2=>
(And
(aZ pg X w (je 34 3 x2) λx3=>
(eC pg R X w true 47 #[ptr nb 0] λx4 w2 X2=>
(un (ep (aW x3)) λu3=>
jq (az (cd (aW x3))==3) (jq (aA (cd (aW x3)) aG.one) ((un (ep (aW x4)) λu4=>
jq (az (cd (aW x4))==2) (jq (aA (cd (aW x4)) aG.one) (k1 u3 u4 w2 X2))))))))
(eC pg R X w true 47 #[ptr nb 0] λx5 w3 X3=>
(aZ pg X3 w3 (je 34 3 x2) λx6=>
(un (ep (aW x6)) λu5=>
jq (az (cd (aW x6))==3) (jq (aA (cd (aW x6)) aG.one) ((un (ep (aW x5)) λu6=>
jq (az (cd (aW x5))==2) (jq (aA (cd (aW x5)) aG.one) (k1 u5 u6 w3 X3))))))))))
(eC pg R X w true 47 #[ptr nb 0] λx7 w4 X4=>
(aZ pg X4 w4 (ji aT 0 0 3 x1) λx8=>
(aZ pg X4 w4 (je 34 3 x8) λx9=>
(un (ep (aW x9)) λu7=>
jq (az (cd (aW x9))==3) (jq (aA (cd (aW x9)) aG.one) ((un (ep (aW x7)) λu8=>
jq (az (cd (aW x7))==2) (jq (aA (cd (aW x7)) aG.one) (k1 u7 u8 w4 X4)))))))))))
(eC pg R X w true 47 #[ptr nb 0] λx10 w5 X5=>
(nO pg X5 w5 (bq (ptr xb 0)) λx11=>
(aZ pg X5 w5 (ji aT 0 0 3 x11) λx12=>
(aZ pg X5 w5 (je 34 3 x12) λx13=>
(un (ep (aW x13)) λu9=>
jq (az (cd (aW x13))==3) (jq (aA (cd (aW x13)) aG.one) ((un (ep (aW x10)) λu10=>
jq (az (cd (aW x10))==2) (jq (aA (cd (aW x10)) aG.one) (k1 u9 u10 w5 X5)))))))))))))
def iu (n:bt):bH:=⟨n.c.id,n.c.ba,n.c.fF+1⟩
theorem TX {κ α:Type} [DecidableEq κ] {k:κ} {a:α} : ∀l:List (κ×α),jL k (cI k a l)=jL k l
 |[]=>by simp[cI,jL]
 |x::l=>by
  have ih:=TX (k:=k) (a:=a) l;unfold cI;by_cases h:x.1=k
  ·rw[if_pos h];simp[jL,h]
  ·rw[if_neg h]
   grind [jL]
theorem TY {κ α:Type} [DecidableEq κ] {k t:κ} {l:List (κ×α)} {a v:α} (h:getM t (cI k a l)=some v):(t=k/\v=a)\/(t≠k/\getM t l=some v):=by grind [kD,od]
def zH (n:bt) (p:List jr) (n1:bt):Prop:= ∃(xb:Nat) (gn:bN) (D9:List (bH×Nat)) (vm va:Value) (rm ra:List (List Value)) (ms:List bZ) (d:rl),
  n1= { n with c:= { n.c with fF:=n.c.fF+1 },ck:=gn,al:=D9,vm:=vm,va:=va,rm:=rm,ra:=ra,ms:=ms,A:=λb=>if b=xb then d else n.A b } /\(∀t,getM t n.al≠some xb)/\
  ((∃a,ra=[a]/\ms=[]/\D9=jL (iu n) n.al/\((∃e,e≠0/\a=D6 e (iu n) .zero false bf)\/ ∃st vs,aG.one vs=true/\a=D6 0 (iu n) st true vs))\/
   (ra=[]/\D9=cI (iu n) xb n.al/\d.p=p/\nF p=0/\d.x.aR=iu n/\d.x.kn=0/\d.x.mR= .zero/\(d.sn=[]/\d.pq=false)/\ms=d.ws.map (λm=>m.qx (20+n.c.id))/\d.ws≠[]/\d.ws.length<=80/\(∀m∈d.ws,m.aR=iu n/\m.C3)/\
    ((d.x.pre=false/\d.x.vq=bf/\d.ids=[]/\(∀m∈d.ws,m.kind=1)/\fj 1 1 p≠[])\/(d.x.pre=true/\d.ws.map (·.range)=d.ids/\ ∀m∈d.ws,m.kind=3/\m.parts=d.ids))))
def QL (E:Prop) (J:List Int->Prop) (n n1:bt):Prop:=(n1.ra≠[]->E)/\ ∀b,getM (iu n) n1.al=some b->n1.ra=[]->(n1.A b).x.pre=true->J (n1.A b).ids
variable {R : Ending -> World -> Prop} {M : Nat} {a : Value}
section
variable {own : Nat -> Nat} {n : bt}
theorem _root_.Go.aG.St.apH {d:rl} (s:Sn w0 bM w X own n) (hb:own b=0/\w0.heap.size<=b) (hr:aK w X b (JQ d.x d.vw) aT) (hd:d.vw=bf/\d.rw=[]/\d.ws=[]/\d.x.vs=bf/\d.sn=[]/\d.pq=false) (hp:Sl w (bR own 4) 5 d.x.vp (d.p.map jr.l)) (hq:d.x.vq=bf/\d.ids=[]):
  ¬n.cU b/\ ∃aH,Sn w0 bM w X aH { n with A:=λb'=>if b'=b then d else n.A b',ex:=b::n.ex } /\Mv (bR own 4) w (bR aH 4) w:=by
 have no: ¬n.cU b:=λh=>by have:own b=tx b 0:=(s.h.act h).1.1;exact ix.1 (this.symm.trans hb.1)
 obtain⟨d1,d2,d3,d4,d5,d6⟩:=hd;have eA:({ n with A:=λb'=>if b'=b then d else n.A b',ex:=b::n.ex } :bt).A b=d:=if_pos rfl;have key: ∀c,c≠tx b 0-> ∀K A,Mv (bR own 4) w K w->(ea n c).p w K A->(ea { n with A:=λb'=>if b'=b then d else n.A b',ex:=b::n.ex } c).p w K A:=λc hc K A mv h=>by
  have q: ∀{b'},b'≠b->({ n with A:=λb'=>if b'=b then d else n.A b',ex:=b::n.ex } :bt).cU b'->n.cU b':=λdU h=>h.imp id λe=>(List.mem_cons.1 e).resolve_left dU;refine XA (λhi p=>?_) (λb' i hi e p=>?_) h
  ·by_cases e:c=12
   ·subst e;intro t b' e
    show(if b'=b then d else n.A b').x.aR=t
    rw[if_neg λ(e':b'=b)=>no (.inl ⟨t,e'▸e⟩)];exact p t b' e
   ·rcases c with _|_|_|_|_|_|_|_|_|_|_|_|_|c<;>first|exact p|exact absurd rfl e
  ·by_cases dU:b'=b
   ·subst dU;rcases i with _|_|_|_|_|_|_|_|i<;>first|exact absurd e hc|exact p|skip
    all_goals (simp only[zm,if_true];intro _)
    ·show Own w A 0 mT 36 d.vw d.rw
     rw[d1,d2];exact Own.nil _ _ _ _ _
    ·show Own w A 0 snT 7 d.x.vs (d.sn.map fe.l)
     rw[d4,d5];exact Own.nil _ _ _ _ _
    ·refine⟨?_,hp.mv mv,λ_=>?_⟩
     ·show fN w K d.rw d.ws
      rw[d2,d3];exact fN.nil _ _
     ·show Sl w K 1 d.x.vq (d.ids.map I1)
      rw[hq.1,hq.2];exact Sl.nil _ _ _
    ·exact λe=>by rw[d6] at e;cases e
   ·rcases i with _|_|_|_|_|_|_|_|i<;>first|exact p|(simp only[zm,if_neg dU] at p⊢;exact λh=>p (q dU h))
 obtain⟨aH,s',m,-⟩:=s.jY (F':=ea { n with A:=λb'=>if b'=b then d else n.A b',ex:=b::n.ex }) (j:=tx b 0) (N:=(· =b)) (eh.oh s.rf nX) (· =tx b 0) (λ_ h=>h.elim) ix.1.symm ix.2.symm (λk e=>by subst e;exact⟨hr.1,hb⟩) ix.1
  (λaH e1 e2 m c hc=>by subst hc;rw[vU _ _ _ dQ];exact λ_=>by rw[eA];exact⟨e2 b rfl,hr.2⟩) key
 exact⟨no,aH,s',m⟩
theorem ahl (s:Sn w0 bM w X own n) (hb:n.cU b) (k: ∀w9 X9 pK,Sn w0 bM w9 X9 pK (dM n)->yW w9 pK n->fin R X9 w9 (.tuple #[(n.A b).x.aR.v,.agg #[n.vm,n.va],I 0])):Sx R n.nb b w X:=by
 unfold Sx;have ha:=(s.va hb).1;have ovm:=s.v.2.1;have ova:=s.v.2.2.1;have hs:=s.rf;have told: ∀{w8:World} {X8:XS} {N:Value->World->XS->Prop},aj X w X8 w8->(∀w9 X9 pK,Sn w0 bM w9 X9 pK (dM n)->yW w9 pK n->N (.agg #[n.vm,n.va]) w9 X9)->eC pg R X8 w8 true 47 #[ptr n.nb 0] N:=λ{w8 X8 N} lr k=>
  (s.since lr).call (Ff (s.since lr).h (s.since lr).x) kQ λv w' X' aH n' s' ⟨e1,e2,q⟩ _=>by subst e1 e2;exact k _ _ _ s' q
 refine gY (Q:=λKx=> ∀w9 X9 pK,Sn w0 bM w9 X9 pK (dM n)->yW w9 pK n->Kx (.agg #[I (n.A b).x.aR.dX,I (n.A b).x.aR.ba,I (n.A b).x.aR.sq]) (.agg #[n.vm,n.va]) w9 X9) ?_ λKx hKx=>?_
 ·intro w9 X9 pK s9 q9;have hq:=k w9 X9 pK s9 q9;clear hs k;repeat' refine ao ?_;intros
  exact hq
 have ahm: ∀{w9:World} {X9:XS} {pK:Nat->Nat},Sn w0 bM w9 X9 pK (dM n)->aK w9 X9 b (JQ (n.A b).x (n.A b).vw) aT:=λs9=>(s9.va (b:=b) hb).1;refine⟨?_,?_⟩
 ·repeat' refine ao ?_;intros
  refine⟨?_,?_⟩
  ·repeat' refine ao ?_;intros
   refine⟨?_,?_⟩
   ·repeat' refine ao ?_;intros
    refine told hs λw9 X9 pK s9 q9=>?_;clear hs;have hs:=s9.rf;repeat' refine ao ?_;intros
    exact hKx _ _ _ s9 q9
   ·rename_i o ho hc;subst ho;refine told hs λw9 X9 pK s9 q9=>acT ((ahm s9).cells.part 0 3) (Mv.refl _ _) kQ rfl ?_;clear hs;have hs:=s9.rf;repeat' refine ao ?_;intros
    exact hKx _ _ _ s9 q9
  ·refine told hs λw9 X9 pK s9 q9=>?_;clear hs;have an3:=ahm s9;repeat' refine ao ?_;intros
   exact hKx _ _ _ s9 q9
 ·refine told hs λw9 X9 pK s9 q9=>?_;clear hs;have an3:=ahm s9;repeat' refine ao ?_;intros
  exact hKx _ _ _ s9 q9
theorem ajW {t:bH} (hb:b∈n.ex) (ht:(n.A b).x.aR=t): ∀c,c≠5-> ∀w K A,(ea n c).p w K A->(ea { n with al:=cI t b n.al } c).p w K A:=
 nU (λb' i hi _ w K A h=>by
  have e:({ n with al:=cI t b n.al } :bt).cU b'->n.cU b':=λh=>h.elim (λ⟨t',e⟩=>(TY e).elim (λe=>e.2▸ .inr hb) λe=>.inl ⟨t',e.2⟩) .inr;rcases i with _|_|_|_|_|_|_|_|i<;>first|exact λha=>h (e ha)|exact h) λi hi hq w K A h=>by
   rcases i with _|_|_|_|_|_|_|_|_|_|_|_|_|i<;>first|exact absurd rfl hq|exact λt' b' e=>(TY e).elim (λe=>by rw[e.2,e.1];exact ht) λe=>h t' b' e.2|exact h
theorem Lr {p:List jr} {N:Nat} (h:jb w own n) (hX:sK own X) (hk:tn N M n) (ha:Sl w (bR own 4) 5 a (p.map jr.l)) (xD:p.length<=2^30) (hc:0<=n.c.fF/\n.c.fF<=2^40):
  Ct pg 29 #[ptr n.nb 0,I gL,a] w X (gB own) λv wa w'=>Sy own wa w' (λn1=>zH n p n1/\QL (tO p n.ck gL n.ds≠0\/Pc p n.ds) (IV p n.ds) n n1) λn1=>v= .tuple #[(iu n).v,.agg #[n1.vm,n1.va],I 0]:=by
 intro w0 Ea;have s:=St.init h hX Ea;replace ha:=ha.mv (yD hX Ea);have hi:1<=n.c.id/\n.c.id<=2:=by rw[hk.id];decide
 refine C4 (λg hg=>?_) (λch w hh=>by obtain⟨v,he,_⟩:=hh;cases he) ?_
 ·have e:DL Tryz.f29=some 59:=by kernel_rfl
  rw[e] at hg;cases hg;exact Ou
 unfold tp;refine cz ?_;have hs:=s.rf;have hr:=s.v.1;repeat' refine ao ?_;intros
 refine s.st (o:=2) 1 (s.get 1) (ea { n with c:= { n.c with fF:=n.c.fF+1 } }) zQ kQ (eu rfl) rfl (λ_ _ _ h=>h) nU λw1 X1 ij s1 m1=>?_;replace ha:=ha.mv m1;obtain⟨d,Gl⟩: ∃d:CoV,d= { n.c with fF:=n.c.fF+1 } :=⟨_,rfl⟩;obtain⟨d1,d2,d3⟩:d.id=n.c.id/\d.ba=n.c.ba/\d.fF=n.c.fF+1:=by rw[Gl];exact⟨rfl,rfl,rfl⟩
 obtain⟨n1,wP⟩: ∃n1:bt,n1= { n with c:=d } :=⟨_,rfl⟩;have s1:Sn w0 own w1 X1 ij n1:=by rw[wP,Gl];exact s1
 have e1:n1.nb=n.nb/\n1.c=d:=by rw[wP];exact⟨rfl,rfl⟩
 clear hs hr s;have hs:=s1.rf;have hr:=s1.v.1;rw[e1.1,e1.2] at hr;repeat' refine ao ?_;intros
 refine cA (aaK (ha.mono (s1.sub 4)) zQ) kQ hs.has ?_;rintro vp yE w2 X2 q2 mq kW bm;obtain⟨lS,s2,m2,-,n2⟩:=(s1.since bm).vB (N:=made yE w2) λk hk=>⟨kW k hk,s1.nw (ad mq hk.1)⟩;have hvp:=q2.sl.mono n2;obtain⟨t1,t2,t3,rfl⟩:=q2.sl.form;clear hs hr;have hs:=s2.rf;have hr:=s2.v.1;rw[e1.1,e1.2] at hr;repeat' first|refine ao ?_;intros|(refine Oy hs ?_;intro bx w X gq aC gg hs bo)
 obtain⟨kO,nE,s3,m3⟩:=(s2.since gg).apH (b:=bx) (d:=⟨⟨⟨d.id,d.ba,d.fF⟩,.slice t1 t2 t3,.zero,0,bf,false,bf,.zero⟩,bf,[],[],[],p,[],false⟩) (s2.nw zQ) bo ⟨rfl,rfl,rfl,rfl,rfl,rfl⟩ (hvp.mv (gg.gU (s2.sub 4))) ⟨rfl,rfl⟩;rw[wP] at s3 kO;obtain⟨D,hD⟩: ∃D:rl,D=⟨⟨⟨d.id,d.ba,d.fF⟩,.slice t1 t2 t3,.zero,0,bf,false,bf,.zero⟩,bf,[],[],[],p,[],false⟩:=⟨_,rfl⟩;replace s3:Sn w0 own w X nE { dN n bx D with c:=d,ex:=bx::n.ex } :=by rw[hD];exact s3
 have Oz: ∀t,getM t n.al≠some bx:=λt e=>kO (.inl ⟨t,e⟩);have gq: ∀{n':bt},n'.ex=bx::n.ex->n'.cU bx:=λe=>.inr (by rw[e];simp);clear hs gg bo hr s2 hvp m3 m2 s1 wP e1 n1 bm m1;refine s3.call (Vh (n:= { dN n bx D with c:=d,ex:=bx::n.ex }) (b:=bx) (gL:=gL) s3.h s3.x (gq rfl) hk.pre hk.ds) kQ λv w4 X4 lT n4 s4 q4 m4=>?_;obtain⟨vg,gn,st,hv,ovg,rfl,mg⟩:=q4;have eD:({ dN n bx D with c:=d,ex:=bx::n.ex } :bt).A bx=D:=jj;have hDp:D.p=p:=by rw[hD]
 rw[eD,hDp] at mg hv;replace hv:v= .tuple #[vg,I (tO p n.ck gL n.ds)]:=hv;replace mg:tO p n.ck gL n.ds=0->eQ w4 (bR lT 4) 5 vg oW.rd (kY n.ds p):=mg;subst hv;obtain⟨E,hE⟩: ∃E:rl,E= { D with x:= { D.x with st:=st } } :=⟨_,rfl⟩;obtain⟨NF,TZ⟩: ∃NF:rl->List (bH×Nat)->bt,NF=λd' D9=> { dN n bx d' with c:=d,ck:=gn,al:=D9,ex:=bx::n.ex } :=⟨_,rfl⟩;replace s4:Sn w0 own w4 X4 lT (NF E n.al):=by
  have e:NF E n.al= { dN { dN n bx D with c:=d,ex:=bx::n.ex } bx { ({ dN n bx D with c:=d,ex:=bx::n.ex } :bt).A bx with x:= { (({ dN n bx D with c:=d,ex:=bx::n.ex } :bt).A bx).x with st:=st } } with ck:=gn } :=by
   rw[eD,<-hE,TZ]
   show _=({ dN (dN n bx D) bx E with c:=d,ex:=bx::n.ex,ck:=gn } :bt)
   rw[An];rfl
  rw[e];exact s4
 have eE:E.x=⟨⟨d.id,d.ba,d.fF⟩,.slice t1 t2 t3,st,0,bf,false,bf,.zero⟩/\E.vw=bf/\E.rw=[]/\E.ws=[]/\E.sn=[]/\E.p=p/\E.ids=[]/\E.pq=false:=by rw[hE,hD];exact⟨rfl,rfl,rfl,rfl,rfl,rfl,rfl,rfl⟩
 have XB:(⟨d.id,d.ba,d.fF⟩:bH)=iu n:=by rw[d1,d2,d3];rfl
 have sS: ∀{w5:World} {X5:XS} {mW:Nat->Nat} {n5:bt},Sn w0 own w5 X5 mW n5->n5.cU bx->n5.nb=n.nb->(n5.A bx).x.aR=iu n->(zH n p { n5 with ex:=n.ex } /\QL (tO p n.ck gL n.ds≠0\/Pc p n.ds) (IV p n.ds) n { n5 with ex:=n.ex })->(∀b∈n.ex,b∈n5.ex)->
   Sx (vR (gB own) w0 λv w'=>Sy own w0 w' (λn1=>zH n p n1/\QL (tO p n.ck gL n.ds≠0\/Pc p n.ds) (IV p n.ds) n n1) λn1=>v= .tuple #[(iu n).v,.agg #[n1.vm,n1.va],I 0]) n.nb bx w5 X5:=λ{w5 X5 mW n5} s5 BY enb etx Fg hex=>by
  rw[<-enb];exact ahl s5 BY λw9 X9 pK s9 q9=>St.alm (n1:= { n5 with ex:=n.ex }) (s9.to (H5 (e':=n.ex) hex)) ⟨q9.om,q9.hm,q9.oa⟩ Fg (by rw[etx])
 clear s3 kO;have hs:=s4.rf;by_cases he:tO p n.ck gL n.ds≠0
 ·repeat' refine aN ?_;intros
  have eA:(NF E n.al).A bx=E/\(NF E n.al).al=n.al/\(NF E n.al).nb=n.nb/\(NF E n.al).ra=n.ra/\(NF E n.al).ex=bx::n.ex:=by rw[TZ];exact⟨jj,rfl,rfl,rfl,rfl⟩
  rw[<-eA.2.2.1];refine s4.call (CI (n:=NF E n.al) (b:=bx) (code:=tO p n.ck gL n.ds) (t:=.zero) (st:=.zero) (on:=false) (vs:=bf) s4.h s4.x (gq eA.2.2.2.2) rfl (by rw[eA.2.2.2.1,hk.ra];simp)) kQ λv w5 X5 mW n5 s5 q5 m5=>?_;obtain⟨ki,rfl⟩:=q5;rw[eA.1,eE.1,XB,eA.2.1,eA.2.2.2.1,hk.ra] at s5;rw[eA.2.2.1];refine sS s5 (.inr sQ) eA.2.2.1 (by show((NF E n.al).A bx).x.aR=iu n;rw[eA.1,eE.1];exact XB) ⟨⟨bx,gn,_,_,_,_,_,_,E,by subst TZ Gl;rfl,Oz,.inl ⟨_,rfl,show(NF E n.al).ms=[] by rw[TZ];exact hk.ms,rfl,.inl ⟨_,he,rfl⟩⟩⟩,λ_=>.inl he,λb _ uR=>by cases uR⟩ λb hb=>by rw[eA.2.2.2.2];simp[hb]
 have AS:tO p n.ck gL n.ds=0:=by omega
 have mg:=mg AS;change eQ w4 (bR lT 4) 5 vg oW.rd (kY n.ds p)at mg;have Fa:nF p=0:=by
  unfold tO at AS;split at AS<;>omega
 have alo:(jc n.ds [] (fj 1 1 p)).2=0:=by
  unfold tO at AS;split at AS
  ·rename_i h9;exact absurd AS h9
  ·split at AS
   ·rename_i h9;exact absurd AS h9
   omega
 have gW:(kY n.ds p).length<=40:=by
  have h1:=Pb (ds:=n.ds) (keys:=fj 1 1 p) (m:=[]);have h2:=Gx (a:=1) (b:=1) (p:=p);have h3:=(Am Fa).1;unfold kY mV;rw[ai,(pB _).length_eq,ai];simp only[bz] at h1;omega
 have hfg: ∀g∈kY n.ds p,g.keys.length<=40:=λg hg=>by
  have h1:=acK (aaJ 1 1 p) alo;have h2:=QI (List.mem_map.2 ⟨g,hg,rfl⟩:g.keys.length∈(kY n.ds p).map λg=>g.keys.length);have h3:=Gx (a:=1) (b:=1) (p:=p);have h4:=(Am Fa).1;change ((kY n.ds p).map λg=>g.keys.length).sum=_ at h1;omega
 have eA:(NF E n.al).A bx=E/\(NF E n.al).al=n.al/\(NF E n.al).nb=n.nb/\(NF E n.al).c=d/\(NF E n.al).ex=bx::n.ex:=by rw[TZ];exact⟨jj,rfl,rfl,rfl,rfl⟩
 have hr:=s4.v.1;have ha:=(s4.va (gq eA.2.2.2.2)).1;rw[eA.2.2.1,eA.2.2.2.1] at hr;rw[eA.1] at ha;have Aj:dK w4 (bR lT 5) nX (NF E n.al).c.ab (λk:bH=>k.v) wT (NF E n.al).al:=s4.get 5;rw[eA.2.1,eA.2.2.2.1] at Aj;repeat' refine aN ?_;intros
 refine vA (kv:=λk:bH=>k.v) (k:=E.x.aR) (a:=bx) (et:=116) (lH Aj (s4.x _ (by rw[show lT d.ab=5 from Aj.x.1];decide))) E7 (show wT w4 nX (ptr bx 0) bx from rfl) (λ_ h=>h.elim) ta kQ s4.has λw5 X5 c5 xx=>?_;obtain⟨mW,s5,m5⟩:=s4.DI (F':=ea { NF E n.al with al:=cI E.x.aR bx (NF E n.al).al }) 5 c5 (λk e=>by rw[show k=d.ab from e];exact Aj.x.1) (· =d.ab) (λk e=>.inl (by rw[show k=d.ab from e];exact Aj.x.1))
  (λK m=>by
   show dK w5 (· =d.ab) nX (NF E n.al).c.ab (λk:bH=>k.v) wT (cI E.x.aR bx (NF E n.al).al)
   rw[eA.2.1,eA.2.2.2.1];exact lH xx rfl) (ajW (by rw[eA.2.2.2.2];simp) (by rw[eA.1]))
 replace mg:=eQ.mv mg oW.mv m5;obtain⟨N2,QM⟩: ∃N2:bt,N2=NF E (cI (iu n) bx n.al):=⟨_,rfl⟩;replace s5:Sn w0 own w5 X5 mW N2:=by
  have:({ NF E n.al with al:=cI E.x.aR bx (NF E n.al).al } :bt)=N2:=by rw[eA.2.1,QM,TZ,eE.1,XB]
  rw[<-this];exact s5
 have e2:N2.A bx=E/\N2.nb=n.nb/\N2.c=d/\N2.ex=bx::n.ex/\N2.ds=n.ds/\N2.rm=n.rm/\N2.ra=n.ra/\N2.ms=n.ms/\N2.al=cI (iu n) bx n.al:=by rw[QM,TZ];exact⟨jj,rfl,rfl,rfl,rfl,rfl,rfl,rfl,rfl⟩
 clear hr ha Aj s4 hs eA xx c5;obtain⟨Gd,hG⟩: ∃Gd:Value->List (List Value)->List bZ->rl,Gd=λvw rw l=> { E with vw:=vw,rw:=rw,ws:=l.map λm=>m.asked E.x } :=⟨_,rfl⟩;have hG0:Gd bf [] []=E:=by rw[hG];dsimp only;rw[List.map_nil,<-eE.2.2.2.1,<-eE.2.2.1,<-eE.2.1]
 have hs:=s5.rf;have Fb:=eQ.mv mg oW.mv (Mv.sub (s5.sub 4));have rG:(uy n.ds p).length=(kY n.ds p).length:=by simp[uy]
 repeat' refine ao ?_;intros
 refine gh (λn' a w X=> ∃(i:Nat) (jK:Value) (mf:List (List Value)) (aH:Nat->Nat) (n1:bt),a=I (i:Nat)/\n'=(kY n.ds p).length-i/\i<=(kY n.ds p).length/\Sn w0 own w X aH n1/\Told (dN N2 bx (Gd jK mf ((uy n.ds p).take i))) (((uy n.ds p).take i).map λm=>(m.asked E.x).qx (20+d.id)) n1/\mf.length=i/\eQ w (bR aH 4) 5 vg oW.rd (kY n.ds p))
  (kY n.ds p).length ⟨0,bf,[],mW,N2,rfl,rfl,au _,s5,by rw[List.take_zero,hG0,<-e2.1,TW];exact Told.nil _,rfl,mg⟩ ?_
 clear hs s5 mg Fb;rintro n' _ w6 X6 ⟨i,Lo,Lp,wC,n1,rfl,rfl,hi6,s6,ht,hrw,mg⟩;have hs:=s6.rf;obtain⟨Xy,QF,wP,Lh⟩:=id ht;have e1:n1.nb=n.nb/\n1.c=d/\n1.A bx=Gd Lo Lp ((uy n.ds p).take i)/\n1.rm.length<=40:=by
  rw[wP];exact⟨e2.2.1,e2.2.2.1,jj,by show QF.length<=40;rw[Lh,show(dN N2 bx _).rm=n.rm from e2.2.2.2.2.2.1,hk.rm,ai,aI];simp;omega⟩
 have lD:n1.cU bx:=by rw[wP];exact gq e2.2.2.2.1
 have Fb:=eQ.mv mg oW.mv (Mv.sub (s6.sub 4));rcases dG (kY n.ds p) i with⟨cC,g,hx,hd⟩|⟨dH,hd⟩
 ·repeat' refine aN ?_;intros
  refine Gq mg hx rfl kQ kQ λbb oo ll qi jE=>?_;obtain⟨H4,rfl,Ln⟩:=jE;obtain⟨s1,s2,s3,rfl⟩:=Ln.form;have ovk:aG.one (.slice s1 s2 s3)=true:=Ln.one;replace qi:Cells w6 X6 bb oo [I g.pt.id,I g.pt.iC,.float .f64 g.pt.lo,.float .f64 g.pt.hi,.slice s1 s2 s3]:=Cells.mv qi (Mv.sub (s6.sub 4));repeat' refine ao ?_;intros
  have hm8:(AT g).at w6 (bR wC 4) (.slice s1 s2 s3) bf bf bf bf bf bf bf:=⟨Ln,Sl.nil _ _ _,Sl.nil _ _ _,Sl.nil _ _ _,Sl.nil _ _ _,eQ.nil _ _ _,eQ.nil _ _ _,eQ.nil _ _ _⟩;have hpx:(uy n.ds p)[i]? =some (AT g):=by unfold uy;rw[List.getElem?_map,hx];rfl
  have hf8:(AT g).C3:=⟨ad (hfg g (aB hx)) dQ,by simp[AT,Ck],by simp[AT,Ck],by simp[AT,Ck]⟩;rw[<-e1.1];refine s6.call (Ot (n:=n1) (b:=bx) (m:=AT g) s6.h s6.x lD hm8 hf8 (by rw[e1.2.1,d1];exact hi) zQ (by rw[e1.2.2.1,hG];dsimp only;omega)) kQ λv w9 X9 pK n9 s9 q9 m9=>?_;obtain⟨vw9,rw9,QH,Xz⟩:=q9;rw[e1.2.2.1,e1.2.1] at Xz;clear hs;repeat' refine ao ?_;intros
  refine fp ((kY n.ds p).length-(i+1)) zQ ⟨i+1,vw9,rw9,pK,n9,by simp,rfl,by omega,s9,?_,by rw[QH,e1.2.2.1,hG];dsimp only;omega,eQ.mv mg oW.mv m9⟩;have fE:=ht.set (b:=bx) (e:=Gd vw9 rw9 ((uy n.ds p).take (i+1)));rw[An] at fE;rw[C5 hpx];refine fE.add ?_;rw[hG] at Xz⊢;dsimp only;rw[C5 hpx];exact Xz
 rw[ax zQ] at ht e1 wP;have e3: ∀d',dN N2 bx d'= { dN n bx d' with c:=d,ck:=gn,al:=cI (iu n) bx n.al,ex:=bx::n.ex } :=λd'=>by
  rw[QM,TZ]
  show({ dN (dN n bx E) bx d' with c:=d,ck:=gn,al:=cI (iu n) bx n.al,ex:=bx::n.ex } :bt)=_
  rw[An]
 have TR: ∀{b},getM (iu n) (cI (iu n) bx n.al)=some b->b=bx:=λh=>by rw[kD] at h;exact(Option.some.inj h).symm
 have ajd:(fj 1 1 p=[])↔(kY n.ds p).length=0:=by
  constructor
  ·intro e;unfold kY mV;rw[ai,(pB _).length_eq,ai,e];rfl
  ·intro e;cases zn:fj 1 1 p with
   |nil=>rfl
   |cons k r=>
    obtain⟨g,hg,_⟩:=(TV hk.ds alo).rt k (by rw[zn];simp);have:=List.length_pos_of_mem hg;change 0<(kY n.ds p).length at this;omega
 repeat' refine aN ?_;intros
 refine cK ?_;have hex: ∀{n':bt},n'.ex=bx::n.ex-> ∀b∈n.ex,b∈n'.ex:=λe b hb=>by rw[e];simp[hb]
 have OA:E.x.aR=iu n:=by rw[eE.1];exact XB
 have Fh:n1.ex=bx::n.ex/\n1.ra=[]/\n1.al=cI (iu n) bx n.al/\n1.ds=n.ds/\n1.ms=(uy n.ds p).map λm=>(m.asked E.x).qx (20+d.id):=by
  rw[wP];refine⟨e2.2.2.2.1,e2.2.2.2.2.2.2.1.trans hk.ra,e2.2.2.2.2.2.2.2.2,e2.2.2.2.2.1,?_⟩
  show(dN N2 bx _).ms++_=_
  rw[show(dN N2 bx _).ms=n.ms from e2.2.2.2.2.2.2.2.1,hk.ms,cx]
 have eG: ∀vw rw l,(Gd vw rw l).x=E.x/\(Gd vw rw l).ws=(l.map λm=>m.asked E.x)/\(Gd vw rw l).p=p/\(Gd vw rw l).sn=[]/\(Gd vw rw l).ids=[]/\(Gd vw rw l).pq=false:=λvw rw l=>by rw[hG];exact⟨rfl,rfl,eE.2.2.2.2.2.1,eE.2.2.2.2.1,eE.2.2.2.2.2.2.1,eE.2.2.2.2.2.2.2⟩
 by_cases hg0:(kY n.ds p).length=0
 ·have Gu:=ajd.2 hg0;have apI:uy n.ds p=[]:=List.length_eq_zero_iff.1 zQ;rw[apI] at ht e1 Fh wP;have sL:=eG Lo Lp [];repeat' refine aN ?_;intros
  rw[<-e1.1];refine s6.call (On (n:=n1) (b:=bx) s6.h s6.x lD (by rw[e1.2.2.1,sL.1,eE.1]) (by rw[e1.2.2.1,sL.1,sL.2.2.2.2.1,sL.2.2.2.2.2,eE.1];exact⟨rfl,rfl,rfl⟩) (by rw[e1.2.2.1,sL.2.1];rfl) (by rw[e1.2.2.1,sL.2.2.2.1];simp) (by rw[Fh.2.2.2.1];exact hk.ds) (by rw[e1.2.1,d1];exact hi) zQ (by rw[Fh.2.1];simp) (by rw[e1.2.2.1,sL.2.2.1];exact Fa)) kQ λv w7 X7 DK n7 s7 q7 m7=>?_;unfold Pd at q7;rw[e1.2.2.1,sL.1,sL.2.2.1,Fh.2.2.2.1,e1.2.1] at q7;rw[e1.1];rcases q7 with⟨ki,a,h9,haw,vm7,rm7,rfl,_⟩|⟨ids,pm,vq,vw7,rw7,cj,acU,uz,mh,hio,vm7,rm7,rfl,_⟩
  ·refine sS s7 (.inr sQ) e1.1 (by show(n1.A bx).x.aR=_;rw[e1.2.2.1,sL.1,OA]) ⟨⟨bx,gn,jL E.x.aR n1.al,vm7,ki,rm7,n1.ra++[a],n1.ms++[],Gd Lo Lp [],by rw[e3] at wP;subst Gl wP;rfl,Oz,.inl ⟨a,by show n1.ra++[a]=_;rw[Fh.2.1];rfl,by show n1.ms++[]=_;rw[Fh.2.2.2.2];rfl,by show jL E.x.aR n1.al=_;rw[Fh.2.2.1,OA,TX],?_⟩⟩,λ_=>.inr haw,λb _ uR=>by have uR:n1.ra++[a]=[]:=uR;simp at uR⟩ λb hb=>by show b∈bx::n1.ex;rw[Fh.1];simp[hb]
   ·rcases h9 with⟨e,he9,rfl⟩|⟨vs,ov9,rfl⟩
    ·exact .inl ⟨e,he9,by rw[OA]⟩
    ·exact .inr ⟨_,vs,ov9,by rw[OA]⟩
  ·have e7: ∀d':rl,dN n1 bx d'= { dN n bx d' with c:=d,ck:=gn,al:=cI (iu n) bx n.al,ex:=bx::n.ex,vm:=Xy,rm:=QF,ms:=n1.ms } :=λd'=>by
    obtain⟨q,hq⟩: ∃q,q=n1.ms:=⟨_,rfl⟩;have e:n1= { dN N2 bx (Gd Lo Lp [])with vm:=Xy,rm:=QF,ms:=q } :=by rw[hq];subst wP;rfl
    rw[<-hq,e]
    show({ dN (dN N2 bx (Gd Lo Lp [])) bx d' with vm:=Xy,rm:=QF,ms:=q } :bt)=_
    rw[An,e3]
   rw[e7] at s7;refine sS s7 (.inr sQ) rfl (by show((dN n bx _).A bx).x.aR=_;rw[jj];exact OA) ⟨⟨bx,gn,_,_,_,_,_,_,{ Gd Lo Lp [] with x:= { E.x with pre:=true,vq:=vq },vw:=vw7,rw:=rw7,ws:=pm.map λm=>m.asked E.x,ids:=ids },by subst Gl;rfl,Oz,.inr ⟨hk.ra,rfl,sL.2.2.1,Fa,OA,by show E.x.kn=0;rw[eE.1],by show E.x.mR= .zero;rw[eE.1],⟨sL.2.2.2.1,sL.2.2.2.2.2⟩,?_,?_,?_,λm hm=>?_,.inr ⟨rfl,?_,λm hm=>?_⟩⟩⟩,λuR=>absurd hk.ra uR,λb hb _ _=>?_⟩ λb hb=>by simp[hb]
   ·show n1.ms++_=_
    rw[Fh.2.2.2.2,List.map_nil,cx,bB];rfl
   ·intro e;have:pm=[]:=List.map_eq_nil_iff.1 e;rw[this] at uz;exact cj uz.symm
   ·show(pm.map _).length<=80
    rw[ai,<-ai (f:=λm:bZ=>m.range),uz];exact acU
   ·obtain⟨m0,Ls,rfl⟩:=List.mem_map.1 hm;have hq:=(mh m0 Ls).2.2;exact⟨OA,hq.keys,hq.seen,hq.writes,hq.parts⟩
   ·show(pm.map _).map _=ids
    rw[<-uz,bB];rfl
   ·obtain⟨m0,Ls,rfl⟩:=List.mem_map.1 hm;exact⟨(mh m0 Ls).1,(mh m0 Ls).2.1⟩
   ·have e:=TR hb;subst e
    show IV p n.ds ((dN n _ _).A _).ids
    rw[jj];exact hio
 ·repeat' refine aN ?_;intros
  have sL:=eG Lo Lp (uy n.ds p);rw[e3] at wP;refine sS s6 lD e1.1 (by rw[e1.2.2.1,sL.1,OA]) ⟨⟨bx,gn,n1.al,n1.vm,n1.va,n1.rm,n1.ra,n1.ms,Gd Lo Lp (uy n.ds p),by subst Gl wP;rfl,Oz,.inr ⟨Fh.2.1,Fh.2.2.1,sL.2.2.1,Fa,by rw[sL.1,OA],by rw[sL.1,eE.1],by rw[sL.1,eE.1],⟨sL.2.2.2.1,sL.2.2.2.2.2⟩,?_,?_,?_,λm hm=>?_,.inl ⟨by rw[sL.1,eE.1],by rw[sL.1,eE.1],sL.2.2.2.2.1,λm hm=>?_,λe=>hg0 (ajd.1 e)⟩⟩⟩,λuR=>absurd Fh.2.1 uR,λb hb uR hp=>?_⟩ (hex Fh.1)
  ·show n1.ms=_
   rw[Fh.2.2.2.2,sL.2.1,bB,d1];rfl
  ·rw[sL.2.1];intro e;have:(uy n.ds p).length=0:=by have:=congrArg az e;simpa using this
   omega
  ·rw[sL.2.1,ai];omega
  ·rw[sL.2.1] at hm;obtain⟨m0,Ls,rfl⟩:=List.mem_map.1 hm;obtain⟨g,hg,rfl⟩:=List.mem_map.1 Ls;exact⟨OA,ad (hfg g hg) dQ,by simp[AT,Ck,bZ.asked],by simp[AT,Ck,bZ.asked],by simp[AT,Ck,bZ.asked]⟩
  ·rw[sL.2.1] at hm;obtain⟨m0,Ls,rfl⟩:=List.mem_map.1 hm;obtain⟨g,_,rfl⟩:=List.mem_map.1 Ls;rfl
  ·have hb:getM (iu n) n1.al=some b:=hb;rw[Fh.2.2.1] at hb;have e:=TR hb;subst e;have hp:(n1.A _).x.pre=true:=hp;rw[e1.2.2.1,sL.1,eE.1] at hp;cases hp
end
variable {i : Nat} {rs : List (List Value)} {hv : Value} {F : XS}
theorem OB (own:Own w F 0 54 36 hv rs) (hF: ∀k,F k->X k) (hi:i<rs.length) (hr: ∀r∈rs,∀u∈r,aG.one u=true):
  Ct pg 103 #[hv,I (i:Nat),I ((i+1:Nat):Int)] w X (ga hv) λv wa w'=>Own w' (ga hv) 0 54 36 v (rs.take i++rs.drop (i+1))/\v.ownBlock=hv.ownBlock:=by
 intro w0 hk;have bM:=own.mv ((Mv.sub hF).trans hk.cu);have hT:Ft w0 (ga hv) w0 (bV w0) (ga hv):=Ft.init λk af=>(bM.ge af).2;have nV:=bM.sl;have rG: ∀r∈rs,r.length=36:=bM.1;have Ql:(i:Int)+1=((i+1:Nat):Int):=by simp
 refine yq.1 λhs=>?_;rcases bM.row with⟨_,h⟩|⟨g,cap,cs,rfl,gv,bo,ql,iF,jD,px⟩
 ·rw[h] at hi;simp at hi
 have apJ:Sl w0 (bV w0) 36 (.slice (some ⟨g,0,none⟩) rs.length cap) (rs.map id):=by simpa using nV
 repeat' refine ao ?_;intros
 refine aby (i:=i) (j:=i+1) (q:=rs.length) rfl sQ rfl zQ zQ ql kQ kQ λ_=>?_;repeat' refine aN ?_;intros
 refine Lt (i:=i) rfl zQ kQ kQ ?_;refine abz nV (i:=i+1) sQ zQ kQ kQ λv2 bm=>?_;have Fi:(rs.drop (i+1)).length=rs.length-(i+1):=bO;have hD:((rs.drop (i+1)).flatten).length=(rs.length-(i+1))*36:=by rw[lU λr jZ=>rG r (dd jZ),Fi]
 have hA:((rs.take i).flatten).length=i*36:=by rw[lU λr jZ=>rG r (dL jZ),aI];congr 1;omega
 refine XC (k:=36) (n:=i) kQ bo bm (λq hq u hu=>hr q (dd hq) u hu) zQ zQ hs.has λw1 X1 c1 pz=>?_;have ej:=hT.eo c1 (λk af=>af.symm▸rfl) (F':=ga (.slice (some ⟨g,0,none⟩) rs.length cap)) λk af=>.inl af;rw[show i+(rs.drop (i+1)).length=rs.length-1 by omega];rw[show 0+i*36=i*36 by omega] at pz;have ahn:cs.take (i*36)=(rs.take i).flatten:=by
  have h1:=congrArg (zG (i*36)) px;rw[xE,kI (cM _ zQ)] at h1;rw[h1];have Lu:rs.flatten=(rs.take i).flatten++(rs.drop i).flatten:=by rw[<-dV,gX]
  rw[Lu,gV zQ,ax zQ]
 have qi:i*36+(rs.length-(i+1))*36=(rs.length-1)*36:=by rw[<-jk];congr 1;omega
 have Fj:(cY cs (i*36) (rs.drop (i+1)).flatten).take ((rs.length-1)*36)=(rs.take i++rs.drop (i+1)).flatten:=by
  unfold cY;rw[ahn,dV,gV (by rw[aa,hA,hD];omega),ax (by rw[aa,hA,hD];omega)]
 have Cl:(cY cs (i*36) (rs.drop (i+1)).flatten).length=cap*36:=by
  unfold cY;have hb:(rs.length-1)*36<=cap*36:=cM _ zQ;simp only[aa,aI,bO,hD,jD];omega
 have Lv: ∀r∈rs.take i++rs.drop (i+1),r.length=36:=λr jZ=>(List.mem_append.1 jZ).elim (λe=>rG r (dL e)) λe=>rG r (dd e);have AG:(rs.take i++rs.drop (i+1)).length=rs.length-1:=by rw[aa,aI,Fi];omega
 have uT:Own w1 X1 0 54 36 (.slice (some ⟨g,0,none⟩) (rs.length-1) cap) (rs.take i++rs.drop (i+1)):=Own.Ic pz (au _) Lv AG zQ iF Cl Fj;have aC:Sl w1 X1 36 (.slice (some ⟨g,0,none⟩) (rs.length-1) cap) ((rs.take i++rs.drop (i+1)).map id):=by simpa using uT.sl
 clear hs;have hs:=aj.fT ej.s.has;repeat' refine ao ?_;intros
 rw[AG];refine XD (k:=36) (i:=rs.length-1) (j:=rs.length) rfl rfl zQ ql zQ kQ kQ ?_;rw[show rs.length-(rs.length-1)=1 by omega,show 0+(rs.length-1)*36=(rs.length-1)*36 by omega];have acV:(rs.length-1)*36+1*36<=cap*36:=by rw[<-jk];exact cM _ zQ
 refine XE (k:=36) (bytes:=416) (e:=54) (o:=(rs.length-1)*36) (n:=1) pz kQ kQ zQ (by rw[Cl];exact acV) ej.s.has λw2 X2 zs hzl c2 jI=>?_;have da:=ej.eo c2 (λk af=>af.symm▸rfl) (F':=nX) λk af=>af.elim;have wS:(cY (cY cs (i*36) (rs.drop (i+1)).flatten) ((rs.length-1)*36) zs).length=cap*36:=by
  rw[<-Cl];generalize cY cs (i*36) (rs.drop (i+1)).flatten=q at Cl⊢;unfold cY;simp only[aa,aI,bO,hzl];omega
 have vV:(cY (cY cs (i*36) (rs.drop (i+1)).flatten) ((rs.length-1)*36) zs).take ((rs.length-1)*36)=(rs.take i++rs.drop (i+1)).flatten:=by
  rw[<-Fj];generalize cY cs (i*36) (rs.drop (i+1)).flatten=q at Cl⊢;unfold cY;rw[ak,gV (by rw[aI];omega),ax (by rw[aI];omega)]
 have lv:Own w2 X2 0 54 36 (.slice (some ⟨g,0,none⟩) (rs.length-1) cap) (rs.take i++rs.drop (i+1)):=Own.Ic jI (au _) Lv AG zQ iF wS vV;exact da.fin λwa aL=>⟨zl (lv.kp aL) λg' rQ=>rQ,rfl⟩
theorem aaL (own:Own w F 0 3 1 hv rs) (hF: ∀k,F k->X k) (hi:i<rs.length) (hr: ∀r∈rs,∀u∈r,aG.one u=true):
  Ct pg 108 #[hv,I (i:Nat),I ((i+1:Nat):Int)] w X (ga hv) λv wa w'=>Own w' (ga hv) 0 3 1 v (rs.take i++rs.drop (i+1))/\v.ownBlock=hv.ownBlock:=by
 intro w0 hk;have bM:=own.mv ((Mv.sub hF).trans hk.cu);have hT:Ft w0 (ga hv) w0 (bV w0) (ga hv):=Ft.init λk af=>(bM.ge af).2;have nV:=bM.sl;have rG: ∀r∈rs,r.length=1:=bM.1;have Ql:(i:Int)+1=((i+1:Nat):Int):=by simp
 refine C6.1 λhs=>?_;rcases bM.row with⟨_,h⟩|⟨g,cap,cs,rfl,gv,bo,ql,iF,jD,px⟩
 ·rw[h] at hi;simp at hi
 have apJ:Sl w0 (bV w0) 1 (.slice (some ⟨g,0,none⟩) rs.length cap) (rs.map id):=by simpa using nV
 repeat' refine ao ?_;intros
 refine aby (i:=i) (j:=i+1) (q:=rs.length) rfl sQ rfl zQ zQ ql kQ kQ λ_=>?_;repeat' refine aN ?_;intros
 refine Lt (i:=i) rfl zQ kQ kQ ?_;refine abz nV (i:=i+1) sQ zQ kQ kQ λv2 bm=>?_;have Fi:(rs.drop (i+1)).length=rs.length-(i+1):=bO;have hD:((rs.drop (i+1)).flatten).length=(rs.length-(i+1))*1:=by rw[lU λr jZ=>rG r (dd jZ),Fi]
 have hA:((rs.take i).flatten).length=i*1:=by rw[lU λr jZ=>rG r (dL jZ),aI];congr 1;omega
 refine XC (k:=1) (n:=i) kQ bo bm (λq hq u hu=>hr q (dd hq) u hu) zQ zQ hs.has λw1 X1 c1 pz=>?_;have ej:=hT.eo c1 (λk af=>af.symm▸rfl) (F':=ga (.slice (some ⟨g,0,none⟩) rs.length cap)) λk af=>.inl af;rw[show i+(rs.drop (i+1)).length=rs.length-1 by omega];rw[show 0+i*1=i*1 by omega] at pz;have ahn:cs.take (i*1)=(rs.take i).flatten:=by
  have h1:=congrArg (zG (i*1)) px;rw[xE,kI (cM _ zQ)] at h1;rw[h1];have Lu:rs.flatten=(rs.take i).flatten++(rs.drop i).flatten:=by rw[<-dV,gX]
  rw[Lu,gV zQ,ax zQ]
 have qi:i*1+(rs.length-(i+1))*1=(rs.length-1)*1:=by rw[<-jk];congr 1;omega
 have Fj:(cY cs (i*1) (rs.drop (i+1)).flatten).take ((rs.length-1)*1)=(rs.take i++rs.drop (i+1)).flatten:=by
  unfold cY;rw[ahn,dV,gV (by rw[aa,hA,hD];omega),ax (by rw[aa,hA,hD];omega)]
 have Cl:(cY cs (i*1) (rs.drop (i+1)).flatten).length=cap*1:=by
  unfold cY;have hb:(rs.length-1)*1<=cap*1:=cM _ zQ;simp only[aa,aI,bO,hD,jD];omega
 have Lv: ∀r∈rs.take i++rs.drop (i+1),r.length=1:=λr jZ=>(List.mem_append.1 jZ).elim (λe=>rG r (dL e)) λe=>rG r (dd e);have AG:(rs.take i++rs.drop (i+1)).length=rs.length-1:=by rw[aa,aI,Fi];omega
 have uT:Own w1 X1 0 3 1 (.slice (some ⟨g,0,none⟩) (rs.length-1) cap) (rs.take i++rs.drop (i+1)):=Own.Ic pz (au _) Lv AG zQ iF Cl Fj;have aC:Sl w1 X1 1 (.slice (some ⟨g,0,none⟩) (rs.length-1) cap) ((rs.take i++rs.drop (i+1)).map id):=by simpa using uT.sl
 clear hs;have hs:=aj.fT ej.s.has;repeat' refine ao ?_;intros
 rw[AG];refine XD (k:=1) (i:=rs.length-1) (j:=rs.length) rfl rfl zQ ql zQ kQ kQ ?_;rw[show rs.length-(rs.length-1)=1 by omega,show 0+(rs.length-1)*1=(rs.length-1)*1 by omega];have acV:(rs.length-1)*1+1*1<=cap*1:=by rw[<-jk];exact cM _ zQ
 refine XE (k:=1) (bytes:=8) (e:=3) (o:=(rs.length-1)*1) (n:=1) pz kQ kQ zQ (by rw[Cl];exact acV) ej.s.has λw2 X2 zs hzl c2 jI=>?_;have da:=ej.eo c2 (λk af=>af.symm▸rfl) (F':=nX) λk af=>af.elim;have wS:(cY (cY cs (i*1) (rs.drop (i+1)).flatten) ((rs.length-1)*1) zs).length=cap*1:=by
  rw[<-Cl];generalize cY cs (i*1) (rs.drop (i+1)).flatten=q at Cl⊢;unfold cY;simp only[aa,aI,bO,hzl];omega
 have vV:(cY (cY cs (i*1) (rs.drop (i+1)).flatten) ((rs.length-1)*1) zs).take ((rs.length-1)*1)=(rs.take i++rs.drop (i+1)).flatten:=by
  rw[<-Fj];generalize cY cs (i*1) (rs.drop (i+1)).flatten=q at Cl⊢;unfold cY;rw[ak,gV (by rw[aI];omega),ax (by rw[aI];omega)]
 have lv:Own w2 X2 0 3 1 (.slice (some ⟨g,0,none⟩) (rs.length-1) cap) (rs.take i++rs.drop (i+1)):=Own.Ic jI (au _) Lv AG zQ iF wS vV;exact da.fin λwa aL=>⟨zl (lv.kp aL) λg' rQ=>rQ,rfl⟩
theorem aaM {b:Value} {ks:List BA} {sn:List fe} (ha:Sl w X 1 a (ks.map S1)) (hb:Sl w X 7 b (sn.map fe.l)):
  Ct pg 101 #[a,b,.func (.func 102) #[] #[]] w X nX λv _ _=> ∃e,v=B e:=by
 intro w0 hk;replace ha:=ha.mv hk.cu;replace hb:=hb.mv hk.cu;have lN:=ha.ib;have JV: ∀{k:BA} {x:fe} {w1:World} {X1:XS},Ct pg 102 #[.string k,.agg x.l.toArray] w1 X1 nX λv _ _=>v=B (decide (k=x.key)):=by
  intro k x w1 X1 w0 hk;have hs:=aj.init w0;refine Ie.1 λ_=>?_;repeat' first|refine ao ?_;intros|refine dq ?_ ?_<;>intros|(refine qr ?_;intro wa hk;(congr 1;simp_all))
 refine oX.1 λhs=>?_;repeat' first|refine ao ?_;intros|refine dq ?_ ?_<;>intros|(refine qr ?_;intro wa hk;exact⟨_,rfl⟩)
 refine gh (λn a w X=> ∃i:Nat,a=I (i:Nat)/\n=(ks).length-i/\i<=(ks).length/\aj (bV w0) w0 X w/\True) (ks).length ⟨0,rfl,rfl,au _,hs,by trivial⟩ ?_;rintro n a w X ⟨i,rfl,rfl,hi,hs,hw⟩;rcases dG (ks) i with⟨cC,k,hx,hd⟩|⟨dH,hd⟩
 ·obtain⟨x,Xo,_⟩: ∃x,sn[i]? =some x/\sn.drop i=x::sn.drop (i+1):=(dG sn i).elim (λh=>h.2) λh=>by omega
  repeat' first|refine aN ?_;intros|(refine qr ?_;intro wa hk;exact⟨_,rfl⟩)|((with_reducible refine fp ((ks).length-(i+1)) ?_ ?_);omega;exact⟨i+1,by simp,rfl,by omega,hs,trivial⟩)|(refine qL (JV (k:=k) (x:=x)) hs ?_ ?_<;>intro _ w X hs)
 ·repeat' first|refine aN ?_;intros|(refine qr ?_;intro wa hk;exact⟨_,rfl⟩)
variable {rows : List (List Value)}
theorem fN.cut {K:XS} {ms:List bZ} (h:fN w K rows ms) (i:Nat):fN w K (rows.take i++rows.drop (i+1)) (ms.take i++ms.drop (i+1)):=by
 refine⟨by simp[h.1],λj l x hl hx=>?_⟩;by_cases hj:j<min i rows.length
 ·rw[dT (by simpa using hj)] at hl;rw[dT (by rw[aI,<-h.1];exact hj)] at hx;rw[fM zQ] at hl hx;exact h.2 j l x hl hx
 ·rw[cP (by simpa using Nat.le_of_not_lt hj)] at hl;rw[cP (by rw[aI,<-h.1];omega)] at hx;rw[aI,gp] at hl hx;rw[<-h.1] at hx;exact h.2 _ l x hl hx
def wY (d:rl) (i:Nat) (m:bZ) (yC jK:Value) (mf:List (List Value)):rl:= { d with x:= { d.x with vs:=yC },vw:=jK,rw:=mf,ws:=d.ws.take i++d.ws.drop (i+1),sn:=d.sn++m.seen }
def QN (n:bt) (m:bZ) (n':bt):Prop:=
 (∃gn,n'= { n with ck:=gn })\/Gr n m false n'\/ ∃(b i:Nat) (y:bZ) (gn:bN) (yC jK:Value) (mf:List (List Value)) (n1:bt),Gs n m false b i y/\n1= { dN n b (wY (n.A b) i m yC jK mf)with ck:=gn } /\
  (((n.A b).ws.length≠1/\n'=n1)\/((n.A b).ws.length=1/\ ∃n2,Pd n1 b n2/\n'= { n2 with ex:=n.ex }))
section
variable {own : Nat -> Nat} {n : bt}
theorem tn.get {N:Nat} (h:tn N M n) {m:bZ} (hN:N<=2^20):n.ra.length<=2^20/\ ∀b,getM m.aR n.al=some b->n.rm.length+(n.A b).ids.length<=2^20:=by
 rw[h.ra,h.rm];exact⟨by simp,λb hg=>by have:=(h.act _ b hg).ids;simp;omega⟩
theorem XF {m:bZ} {vk vs vw vp vr vc vh vd:Value} {N:Nat} (h:jb w own n) (hX:sK own X) (hm:m.at w (bR own 4) vk vs vw vp vr vc vh vd) (fE:m.aV.may=true) (hk:tn N M n) (hN:N+m.seen.length<=2^20):
  Ct pg 55 #[ptr n.nb 0,m.v vk vs vw vp vr vc vh vd] w X (gB own) λ_ wa w'=>NQ ea own wa w' λ_ n'=>QN n m n':=by
 intro w0 iw;have s0:=St.init h hX iw;replace hm:=hm.mv (yD hX iw);have hi:1<=n.c.id/\n.c.id<=2:=by rw[hk.id];decide
 clear h hX iw;refine Lw.1 λ_=>?_;refine s0.call (H6 s0.h s0.x hk.pre fE hm.ranges hi (hk.get (m:=m) zQ).1 (λb hb=>(hk.act _ b hb).pq) (hk.get zQ).2) kQ λv w1 X1 ij n1 s1 q1 m1=>?_;rcases q1 with⟨rfl,q1⟩|⟨b,i,y,gn,hw,rfl,rfl⟩
 ·have hs:=s1.rf;repeat' first|refine ao ?_;intros|with_reducible apply cK
  exact s1.fin λ_ _=>q1.elim (λ⟨c,e,_⟩=>.inl ⟨c,e⟩) λe=>.inr (.inl e)
 replace hm:=hm.mv m1;have hb:n.cU b:=.inl ⟨_,hw.g⟩;have C7:=hk.act _ b hw.g;have apK:=C7.ws;have arT:=C7.sn;have oe:=s1.h.act (b:=b) hb;have H8:(n.A b).rw.length=(n.A b).ws.length:=oe.2.2.2.1.1;have mQ:i<(n.A b).ws.length:=(List.getElem?_eq_some_iff.1 hw.gA).1;obtain⟨l,hl⟩: ∃l,(n.A b).rw[i]? =some l:=⟨_,List.getElem?_eq_getElem zQ⟩;obtain⟨uk,us,uw,up,ur,uc,uh,ud,rfl,dB⟩:=oe.2.2.2.1.2 i l y hl hw.gA;have apL:Sl w1 X1 36 (n.A b).vw ((n.A b).rw.map id):=by rw[List.map_id];exact oe.2.1.sl.mono (s1.sub _ ix.1)
 obtain⟨ha,oa⟩:=s1.va (b:=b) hb;clear oe;have hs:=s1.rf;repeat' first|refine ao ?_;intros|with_reducible apply cK
 refine cA (aaM (dB.keys.mono (s1.sub 4)) (hm.seen.mono (s1.sub 4))) kQ hs.has ?_;rintro v yE w2 X2 ⟨e,rfl⟩ mq kW bm;have s2:=s1.since (hs.trans bm);replace hm:=hm.mv ((hs.trans bm).gU (s1.sub 4));clear hs bm apL ha s1;have hs:=s2.rf;cases e
 ·repeat' refine ao ?_;intros
  exact s2.fin λ_ _=>.inl ⟨gn,rfl⟩
 obtain⟨ha,oa⟩:=s2.va (b:=b) hb;repeat' refine ao ?_;intros
 refine s2.ap1 (tx b 0) (tx b 2) 0 (s2.h.act (b:=b) hb).1 (s2.h.act (b:=b) hb).2.2.1 (hm.seen.mono (s2.sub 4)) (λr hr u hu=>?_) (by simp only[ai];omega) (λv=>ea (dN { n with ck:=gn } b { n.A b with x:= { (n.A b).x with vs:=v },sn:=(n.A b).sn++m.seen })) (λ_ _ _ _ h=>rj dQ h) (λ_ _ _ _ h=>rj dQ (by show Own _ _ 0 snT 7 _ (((n.A b).sn++m.seen).map fe.l);rw[List.map_append];exact h)) (λ_ _ _ _ _ h=>h) (λv'=>IW) (λv5 w5 X5 mW s5 m5=>?_) (yI:=by unfold tx;omega)
 ·obtain⟨x,_,rfl⟩:=List.mem_map.1 hr;simp only[List.mem_cons,List.not_mem_nil,or_false] at hu;rcases hu with rfl|rfl|rfl|rfl|rfl|rfl|rfl<;>rfl
 clear hs s2 ha;have hs:=s5.rf;obtain⟨ha,oa⟩:=s5.vs (n:= { n with ck:=gn }) hb;have hh:fN w5 (bR mW 4) (n.A b).rw (n.A b).ws:=by have:=(s5.h.act (b:=b) hb).2.2.2.1;rw[jj] at this;exact this
 repeat' refine ao ?_;intros
 have oe:=s5.h.act (b:=b) hb;rw[jj] at oe;refine s5.aho (tx b 0) (tx b 1) (tx b 3) oe.1 oe.2.1 (OB (F:=X5) (oe.2.1.mono (s5.sub _ ix.1)) (λ_ h=>h) (by show i<(n.A b).rw.length;omega) hh.Pf) (λv=>ea (dN { n with ck:=gn } b (wY (n.A b) i m v5 v ((n.A b).rw.take i++(n.A b).rw.drop (i+1))))) (λ_ _ _ _ h=>rj dQ h) (λ_ _ _ _ h=>rj dQ h)
  (λv' w' K A mv p=>rj dQ (by rw[vU _ _ _ dQ] at p;have p:=p hb;rw[jj] at p;exact⟨(hh.cut i).mv mv,p.2⟩)) (λv'=>QE) (λv8 w8 X8 Lq s8 m8=>?_) (yI:=by unfold tx;omega)
 clear hs ha oe hh s5;have hs:=s8.rf;obtain⟨n3,sM⟩: ∃n3:bt,n3= { dN n b (wY (n.A b) i m v5 v8 ((n.A b).rw.take i++(n.A b).rw.drop (i+1)))with ck:=gn } :=⟨_,rfl⟩;replace s8:Sn w0 own w8 X8 Lq n3:=by rw[sM];exact s8
 have e3:n3.A b=wY (n.A b) i m v5 v8 ((n.A b).rw.take i++(n.A b).rw.drop (i+1))/\n3.nb=n.nb/\n3.ex=n.ex:=by rw[sM];exact⟨jj,rfl,rfl⟩
 have rV:n3.cU b:=by rw[sM];exact hb
 obtain⟨ha,oa⟩:=s8.va rV;have hl7:((n.A b).rw.take i++(n.A b).rw.drop (i+1)).length=(n.A b).ws.length-1:=by simp;omega
 have arU:Sl w8 X8 36 v8 (((n.A b).rw.take i++(n.A b).rw.drop (i+1)).map id):=by have:=(s8.h.act rV).2.1.sl.mono (s8.sub _ ix.1);rw[e3.1] at this;rw[List.map_id];exact this
 rw[e3.1] at ha;by_cases h1:(n.A b).ws.length=1
 ·have hq:=C7.q hw.pre;repeat' refine aN ?_;intros
  rw[<-e3.2.1];refine s8.call (On (n:=n3) (b:=b) s8.h s8.x rV (by rw[e3.1];exact hw.pre) (by rw[e3.1];exact⟨hq.1,hq.2,C7.pq⟩) (by rw[e3.1];exact List.length_eq_zero_iff.1 (by simp[wY];omega)) (by rw[e3.1];simp[wY];omega) (by rw[sM];exact hk.ds) (by rw[sM];exact hi) (by rw[sM];show n.rm.length<=_;rw[hk.rm];simp) (by rw[sM];show n.ra.length<=_;rw[hk.ra];simp) (by rw[e3.1];exact C7.p)) kQ λv w4 X4 lT n4 s4 q4 _=>?_;have s5:=s4.to (H5 (e':=n.ex) λb' dU=>by
   rcases q4 with⟨_,_,_,_,_,_,rfl,_⟩|⟨_,_,_,_,_,_,_,_,_,_,_,_,rfl,_⟩
   ·show b'∈b::n3.ex;rw[e3.2.2];simp[dU]
   ·show b'∈n3.ex;rw[e3.2.2];exact dU)
  exact s5.fin λ_ _=>.inr (.inr ⟨b,i,y,gn,_,_,_,n3,hw,sM,.inr ⟨h1,n4,q4,rfl⟩⟩)
 ·repeat' refine aN ?_;intros
  exact s8.fin λ_ _=>.inr (.inr ⟨b,i,y,gn,_,_,_,n3,hw,sM,.inl ⟨h1,rfl⟩⟩)
end
def uU (n:Int):Prop:= -9223372036854775808<=n/\n<9223372036854775808
variable {n : Int}
theorem abA (h:uU n) (h0:0<=n):(xF n:Int)=2*n:=by
 unfold uU at h;unfold xF;rw[if_neg zQ];omega
theorem abB (h:uU n) (h0:n<0):(xF n:Int)= -1-2*n:=by
 unfold uU at h;unfold xF;rw[if_pos h0];omega
variable {u : Nat}
theorem abC (h:u<128):qB u=[u]:=by rw[qB,if_pos h]
theorem abD (h: ¬u<128):qB u=(u % 128+128)::qB (u/128):=by rw[qB,if_neg h]
variable {P : Program} {N : Value -> Prop} {t : TypeId} {c k : Nat}
theorem alp: ∀b:Nat,b<256->(aF 8 (b:Int)&&& aF 8 127).toNat=b % 128:=by decide+kernel
theorem ahp (hb:b<256) (h:N (.int .u8 ((b % 128:Nat):Int))):aZ P X w (binOp .and t (.int .u8 (b:Int)) (.int .u8 127)) N:=
 Nb (by
  have e:IntKind.u8.wrap (aF IntKind.u8.bits (b:Int)&&& aF IntKind.u8.bits 127).toNat=((b % 128:Nat):Int):=by
   rw[Nj];have:=alp b hb
   show((aF 8 (b:Int)&&& aF 8 127).toNat:Int) % 256=_
   rw[this];omega
  grind)
theorem alq (hu:u<18446744073709551616) (h:N (.int .u64 ((u % 2:Nat):Int))):aZ P X w (binOp .and t (.int .u64 (u:Int)) (.int .u64 1)) N:=
 Nb (by
  have e:IntKind.u64.wrap (aF IntKind.u64.bits (u:Int)&&& aF IntKind.u64.bits 1).toNat=((u % 2:Nat):Int):=by
   rw[wrap64];have h1:(aF 64 (u:Int))=rX 64 u:=by simp
   have h2:(aF 64 1)=rX 64 1:=by decide
   show((aF 64 (u:Int)&&& aF 64 1).toNat:Int) % 18446744073709551616=_
   rw[h1,h2,BitVec.toNat_and,iK,iK,gN (by omega:u<2^64)];have:u&&& 1 % 2^64=u % 2:=Nat.and_one_is_mod u;rw[this];omega
  grind)
theorem alr {a b:Int} (h1: -9223372036854775808<=a*b) (h2:a*b<9223372036854775808) (h:N (I (a*b))):aZ P X w (binOp .mul t (I a) (I b)) N:=
 Sf (by
  have e:IntKind.i64.wrap (a*b)=a*b:=by
   simp only[zS,mX,j5];simp;omega
  grind)
theorem als (k:Nat):2^(7*k)=128^k:=by rw[Nat.pow_mul]
theorem alu {z:Int} (hz:z=7*(k:Int)) (hk:k<=9) (hc:c*128^k<18446744073709551616) (h:N (.int .u64 ((c*128^k:Nat):Int))):aZ P X w (binOp .shl t (.int .u64 (c:Int)) (I z)) N:=
 Sg zQ (by
  rw[wrap64];have e:((c:Int)*2^min z.toNat IntKind.u64.bits) % 18446744073709551616=((c*128^k:Nat):Int):=by
   have h1:min z.toNat IntKind.u64.bits=7*k:=by
    show min z.toNat 64=7*k
    omega
   rw[h1];have h2:(2:Int)^(7*k)=((128^k:Nat):Int):=by rw[<-als];simp
   rw[h2,<-Int.natCast_mul];omega
  grind)
theorem ajX {z:Int} (hz:z=7*(k:Int)) (hk:k<=9) (nW:c<256) (hc:c*128^k<18446744073709551616) (h:N (.int .u64 ((c*128^k:Nat):Int))):aZ P X w (binOp .shl t (.int .u64 (IntKind.u64.wrap (c:Int))) (I z)) N:=by
 have e:IntKind.u64.wrap (c:Int)=c:=by rw[wrap64];omega
 rw[e];exact alu hz hk hc h
theorem afm {a:Nat} (ha:a<2^k):a|||c*2^k=a+c*2^k:=by
 have:=Nat.two_pow_add_eq_or_of_lt ha c;rw[Nat.or_comm,Nat.add_comm,zR];omega
theorem ajY {a:Nat} (ha:a<128^k) (cC:a+c*128^k<18446744073709551616) (h:N (.int .u64 ((a+c*128^k:Nat):Int))):aZ P X w (binOp .or t (.int .u64 (a:Int)) (.int .u64 ((c*128^k:Nat):Int))) N:=
 QO (by
  have e:IntKind.u64.wrap (aF IntKind.u64.bits (a:Int)|||aF IntKind.u64.bits ((c*128^k:Nat):Int)).toNat=((a+c*128^k:Nat):Int):=by
   rw[wrap64];have h1:(aF 64 (a:Int))=rX 64 a:=by simp
   have h2:(aF 64 ((c*128^k:Nat):Int))=rX 64 (c*128^k):=by rw[BitVec.ofInt_natCast]
   show((aF 64 (a:Int)|||aF 64 ((c*128^k:Nat):Int)).toNat:Int) % 18446744073709551616=_
   rw[h1,h2,BitVec.toNat_or,iK,iK,gN (by omega:a<2^64),gN (by omega:c*128^k<2^64)];have:a|||c*128^k=a+c*128^k:=by rw[<-als] at ha⊢;exact afm ha
   rw[this];omega
  grind)
theorem alv (h:N (.int .u64 ((u/2:Nat):Int))):aZ P X w (binOp .shr t (.int .u64 (u:Int)) (.int .u64 1)) N:=
 EI zQ (by
  have e:((u:Int)).fdiv (2^min (1:Int).toNat IntKind.u64.bits)=((u/2:Nat):Int):=by
   show((u:Int)).fdiv 2=_
   rw[Int.fdiv_eq_ediv_of_nonneg _ dQ];omega
  grind)
theorem V4 (hu:u<9223372036854775808):IntKind.i64.wrap (u:Int)=u:=by
 simp only[zS,mX,j5];simp;omega
theorem alw (hu:u<9223372036854775808) (h:N (I (-1-(u:Int)))):aZ P X w (Op.unary .xor (I (IntKind.i64.wrap (u:Int)))) N:=by
 rw[V4 hu];refine bA (v:=I (-1-(u:Int))) (λwa=>?_) h;have key:(aF 64 (-1)^^^aF 64 (u:Int)).toNat=18446744073709551615-u:=by
  have h1:aF 64 (-1)=BitVec.allOnes 64:=by decide
  have h2:(aF 64 (u:Int))=rX 64 u:=by simp
  rw[h1,h2,BitVec.allOnes_xor,BitVec.toNat_not,iK,gN zQ]
 have hk:(Op.unary .xor (I (u:Int))).run P wa= .ok (I (IntKind.i64.wrap (aF 64 (-1)^^^aF 64 (u:Int)).toNat)) wa:=by
  simp only[Op.unary,Op.intBits,j5,mX];rfl
 rw[hk,key];have:IntKind.i64.wrap ((18446744073709551615-u:Nat):Int)= -1-(u:Int):=by
  simp only[zS,mX,j5];simp;omega
 rw[this]
structure BZ (w:World) (X:XS) (rb:Nat) (vb:Value) (at_:Nat) (pl:Int) (bs:List Nat):Prop where
 box:aK w X rb [vb,I at_,I 0,I pl] 315
 ow:Ow w X 5 1 vb (bs.map U1)
 le:at_<=bs.length
 sz:bs.length<=2^40
 lt: ∀b∈bs,b<256
variable {bs : List Nat} {pl : Int} {vb : Value} {at_ rb : Nat}
theorem BZ.mv {Y:XS} (h:BZ w X rb vb at_ pl bs) (m:Mv X w Y w'):BZ w' Y rb vb at_ pl bs:=⟨h.box.mv m,h.ow.mv m,h.le,h.sz,h.lt⟩
variable {gA : Nat}
theorem BZ.next {pl':Int} (h:BZ w X rb vb at_ pl bs) (c:eh (λk=>k=rb) X w X' w') (hr:aK w' X' rb [vb,I gA,I 0,I pl'] 315) (hl:gA<=bs.length):
  BZ w' X' rb vb gA pl' bs:=⟨hr,h.ow.eo c λg hg e=>h.ow.eP h.box (by rfl) (e▸hg),hl,h.sz,h.lt⟩
variable {tl : List Nat}
theorem JW (h:BZ w X rb vb at_ pl bs) (he:bs.drop at_=encI n++tl) (hn:uU n):
  Ct pg 325 #[ptr rb 0,I at_] w X nX λv _ _=>v= .tuple #[I n,I ((at_+(encI n).length:Nat):Int),B true]:=by
 intro w0 hk;replace h:=h.mv hk.cu;have hb:=h.box;have nV:=h.ow.sl;have gd:=h.sz;have hz:=afn n;refine Ig.1 λhs=>?_;refine C8 (λm a b c w X=> ∃(k acc:Nat),a=I ((at_+k:Nat):Int)/\b= .int .u64 (acc:Int)/\c=B false/\m=10-k/\k<=9/\acc=xF n % 128^k/\(k=0\/128^k<=xF n)/\bs.drop (at_+k)=qB (xF n/128^k)++tl/\
  (encI n).length=k+(qB (xF n/128^k)).length/\aj (bV w0) w0 X w) 10 ⟨0,0,by simp,rfl,rfl,rfl,by omega,by omega,.inl rfl,by simpa [encI] using he,by simp[encI],hs⟩ ?_
 clear hs;rintro m a b c w X ⟨k,acc,rfl,rfl,rfl,rfl,aL,XG,iw,hd,hlen,hs⟩;have hp:0<128^k:=Nat.pow_pos dQ;have T1:acc<128^k:=by rw[XG];exact Nat.mod_lt _ hp
 generalize hq:xF n/128^k=q at hd hlen;have hzq:xF n=acc+q*128^k:=by rw[XG,<-hq,zR];exact(Nat.mod_add_div _ _).symm
 obtain⟨c,r,OC,T5⟩: ∃c r,qB q++tl=c::r/\((q<128/\c=q)\/(¬q<128/\c=q % 128+128/\r=qB (q/128)++tl)):=by
  by_cases h1:q<128
  ·exact⟨q,tl,by rw[abC h1];rfl,.inl ⟨h1,rfl⟩⟩
  ·exact⟨_,_,by rw[abD h1];rfl,.inr ⟨h1,rfl,rfl⟩⟩
 rw[OC] at hd;have hx:bs[at_+k]? =some c:=by
  have:=congrArg (λl:List Nat=>l[0]?) hd;simpa using this
 have cC:at_+k<bs.length:=(List.getElem?_eq_some_iff.1 hx).1;have an4:=h.lt c (aB hx);have alx:k=9->q<=1:=λe=>by
  subst e;have:q*128^9<18446744073709551616:=by omega
  omega
 have iF:c % 128=q % 128:=by rcases T5 with⟨h1,rfl⟩|⟨h1,rfl,_⟩<;>omega
 have lD:c % 128*128^k<=q*128^k:=cM _ (by rw[iF];exact Nat.mod_le _ _);have he1:k=9->c % 128<=1:=λe=>by have:=alx e;omega
 have rW:q<128->(encI n).length=k+1/\c=q:=λh1=>⟨by rw[hlen,abC h1];rfl,by rcases T5 with⟨_,e⟩|⟨h2,_⟩;exact e;exact absurd h1 h2⟩
 have uo:c=0->k=0:=λe=>by
  rcases iw with h1|h1
  ·exact h1
  ·have:1<=q:=by rw[<-hq];exact Nat.div_pos h1 hp
   rcases T5 with⟨_,e2⟩|⟨_,e2,_⟩<;>omega
 have hc9:k=9->c<128:=λe=>by
  have:=alx e;rcases T5 with⟨_,e2⟩|⟨h2,_,_⟩<;>omega
 have hS:c<128->acc+c % 128*128^k=xF n/\(encI n).length=k+1:=λh1=>by
  have h2:q<128:=by rcases T5 with⟨h2,_⟩|⟨_,h2,_⟩<;>omega
  rw[iF,gN h2];exact⟨hzq.symm,(rW h2).1⟩
 have lq:c<128->(acc+c % 128*128^k) % 2=1->(-1-(((acc+c % 128*128^k)/2:Nat):Int))=n:=λh1 h2=>by
  rw[(hS h1).1] at h2⊢;by_cases h3:n<0
  ·have:=abB hn h3;omega
  ·have:=abA hn zQ;omega
 have rT:c<128-> ¬(acc+c % 128*128^k) % 2=1->IntKind.i64.wrap (((acc+c % 128*128^k)/2:Nat):Int)=n:=λh1 h2=>by
  rw[(hS h1).1] at h2⊢;rw[V4 zQ];by_cases h3:n<0
  ·have:=abB hn h3;omega
  ·have:=abA hn zQ;omega
 have Ia:c<128->((at_+k:Nat):Int)+1=((at_+(encI n).length:Nat):Int):=λh1=>by rw[(hS h1).2];omega
 repeat' first|refine aN ?_;intros|refine dq ?_ ?_<;>intros|with_reducible apply cK|(with_reducible refine ahp an4 ?_)|(with_reducible refine alr zQ zQ ?_)|((with_reducible refine ajX (k:=k) zQ aL zQ zQ ?_))|((with_reducible refine ajY T1 zQ ?_))|(with_reducible apply alv)|((with_reducible refine alq zQ ?_))|((with_reducible refine alw zQ ?_))|(refine qr ?_;intro wa hk;(rw[lq zQ zQ,Ia zQ]))|(refine qr ?_;intro wa hk;(rw[rT zQ zQ,Ia zQ]))
 have dH: ¬q<128:=λh1=>by have:=(rW h1).2;omega
 obtain⟨CT,jZ⟩:c=q % 128+128/\r=qB (q/128)++tl:=by
  rcases T5 with⟨h1,_⟩|⟨_,h2,h3⟩
  ·exact absurd h1 dH
  ·exact⟨h2,h3⟩
 have mh:128^(k+1)=128^k*128:=Nat.pow_succ ..;have hqd:xF n/128^(k+1)=q/128:=by rw[mh,<-Nat.div_div_eq_div_mul,hq]
 refine AV (10-(k+1)) zQ ⟨k+1,acc+c % 128*128^k,by rfl,rfl,rfl,rfl,by omega,?_,.inr ?_,?_,?_,hs⟩
 ·rw[mh,Nat.mod_mul,hq,iF,XG,zR (128^k)]
 ·rw[mh,hzq];have:128*128^k<=q*128^k:=cM _ zQ;omega
 ·rw[hqd,<-jZ,<-Nat.add_assoc,<-ik,hd];rfl
 ·rw[hqd,hlen,abD dH,aM];omega
variable {e : Nat}
theorem XD {t:Nat} {v:Value} {z z':Int} {j:Nat} (h:Ow w X e k v rows) (cj:rows≠[]) (hz:z=i) (xt:z'=j) (yI:i<=j) (hj:j<=rows.length)
  (ht:P.underlying t=some (.slice (P.elem t))) (hs:(P.info? (P.elem t)).map (·.size)=some k)
  (n: ∀b o cap,Cells w X b o ((rows.drop i).take (j-i)).flatten->j-i<=cap->cap<=2^63-1->N (.slice (some ⟨b,o,none⟩) (j-i) cap)):aZ P X w (Instr.sliceAt t v (some (.int .i64 z)) (some (.int .i64 z')) none) N:=by
 subst hz;subst xt;obtain⟨h1,⟨rfl,rfl⟩|⟨g,off,cap,cur,rfl,hx,hg,ql,iF,jD,px⟩⟩:=h
 ·exact absurd rfl cj
 have hq: ∃inf,P.info? (P.elem t)=some inf/\inf.size=k:=by
  cases hq:P.info? (P.elem t)with
  |none=>simp[hq] at hs
  |some inf=>exact⟨inf,rfl,by simpa [hq] using hs⟩
 obtain⟨inf,hq,gd⟩:=hq;have kX:cap<=2^63-1:=ad iF dQ;have nD: ∀wa:World,(Instr.sliceAt t (.slice (some ⟨g,off,none⟩) rows.length cap) (some (.int .i64 (i:Int))) (some (.int .i64 (j:Int))) none).run P wa= .ok (.slice (some ⟨g,if cap=i then off else off+i*k,none⟩) (j-i) (cap-i)) wa:=λwa=>by
  rw[run_sliceAt_slice wa t _ _ _ _ ht,run_slice_lh wa t _ _ cap ht .i64 .i64 i j zQ zQ zQ];by_cases hc:cap=i
  ·simp[sizeOf,typeInfo,hq,gd,sliced,hc]
  ·simp[sizeOf,typeInfo,hq,gd,sliced,Addr.add_lit,hc]
 refine bA nD (n _ _ _ ⟨hx,cur,e,(0,0),hg,λq u hu=>?_⟩ zQ zQ);have hr: ∀r∈rows.drop i,r.length=k:=λr hr=>h1 r (dd hr);rw[aG.mi (j-i) hr,aG.C9 i h1,<-px] at hu;have hql:q<(j-i)*k:=by
  have:=(List.getElem?_eq_some_iff.1 hu).1;simp only[aI] at this;omega
 rw[fM hql,gp] at hu;have mQ:i*k+q<rows.length*k:=by
  have h3:i*k+(j-i)*k=j*k:=by rw[<-jk];congr 1;omega
  have h4:=cM k hj;omega
 rw[fM mQ,gp] at hu;rw[Array.getElem?_toList] at hu;by_cases hc:cap=i
 ·exfalso;have:j-i=0:=by omega
  rw[this] at hql;simp at hql
 ·rw[if_neg hc];rw[<-Nat.add_assoc] at hu;exact hu
def ahq (f:FuncId) (args:Array Value) (w:World) (X:XS) (rb:Nat) (vb:Value) (gA:Nat) (pl:Int) (res:Value):Prop:=
 Ct pg f args w X (λk=>k=rb) λv _ w'=>v=res/\aK w' (λk=>k=rb) rb [vb,I gA,I 0,I pl] 315
theorem BZ.ft (h:BZ w X rb vb at_ pl bs) (hk:Kp X w w0):Ft w0 (λk=>k=rb) w0 (bV w0) (λk=>k=rb):=
 Ft.init λk e=>by subst e;exact(h.mv hk.cu).box.1
theorem ahr (h:BZ w X rb vb at_ pl bs) (he:bs.drop at_=encI n++tl) (hn:uU n):
  ahq 261 #[ptr rb 0] w X rb vb (at_+(encI n).length) pl (I n):=by
 intro w0 hk;have hT:=h.ft hk;replace h:=h.mv hk.cu;have hb:=h.box;refine Lx.1 λ_=>?_;repeat' refine aN ?_;intros
 refine eT (JW h he hn) kQ hT.s.has λw1 X1 aC=>?_;have ej:=hT.since aC;have lD:=hb.since aC;repeat' first|refine ao ?_;intros|with_reducible apply cK
 refine qj (o:=1) lD zQ kQ sQ rfl ej.s.has λw2 X2 c2 jI=>?_;have da:Ft w0 (λk=>k=rb) w2 X2 (λk=>k=rb):=ej.eo c2 (λk af=>af) λk af=>.inl af
 skip
 exact da.fin λwa aL=>⟨rfl,rfl,by rw[aL.block _ jI.1];exact jI.2⟩
variable {most : Int}
theorem acW {e:Int} {n:Nat} (h:BZ w X rb vb at_ pl bs) (he:bs.drop at_=encI n++tl) (hn:(n:Int)<=most) (hm:most<2^62):
  Ct pg 330 #[ptr rb 0,I most,I e] w X nX λv _ _=>v= .tuple #[I n,I ((at_+(encI n).length:Nat):Int),B true]:=by
 intro w0 hk;replace h:=h.mv hk.cu;have hb:=h.box;refine IY.1 λhs=>?_;repeat' refine ao ?_;intros
 refine eT (JW h he (by unfold uU;omega)) kQ hs.has λw1 X1 aC=>?_;have hs:=hs.trans aC;repeat' refine aN ?_;intros
 exact cG hs λwa aL=>rfl
theorem acX {n:Nat} (h:BZ w X rb vb at_ pl bs) (he:bs.drop at_=encI n++tl) (hn:(n:Int)<=most) (hm:most<2^62):
  ahq 269 #[ptr rb 0,I most] w X rb vb (at_+(encI n).length) pl (I n):=by
 intro w0 hk;have hT:=h.ft hk;replace h:=h.mv hk.cu;have hb:=h.box;refine IZ.1 λ_=>?_;repeat' refine aN ?_;intros
 refine eT (acW h he hn hm) kQ hT.s.has λw1 X1 aC=>?_;have ej:=hT.since aC;have lD:=hb.since aC;repeat' first|refine ao ?_;intros|with_reducible apply cK
 refine qj (o:=1) lD zQ kQ sQ rfl ej.s.has λw2 X2 c2 jI=>?_;have da:Ft w0 (λk=>k=rb) w2 X2 (λk=>k=rb):=ej.eo c2 (λk af=>af) λk af=>.inl af
 skip
 exact da.fin λwa aL=>⟨rfl,rfl,by rw[aL.block _ jI.1];exact jI.2⟩
theorem afo: ∀l:List Nat,(l.map U1).flatten=l.map λx:Nat=>Value.int .u8 x
 |[]=>rfl
 |x::l=>by rw[List.map_cons,cW,afo l];rfl
theorem afp (h:BZ w X rb vb at_ pl bs):
  Ct pg 270 #[ptr rb 0] w X nX λv _ _=>v=I ((bs.length:Int)-at_):=by
 intro w0 hk;replace h:=h.mv hk.cu;have hb:=h.box;have nV:=h.ow.sl;have gd:=h.sz;have hle:=h.le;refine Kg.1 λhs=>?_;repeat' refine aN ?_;intros
 exact cG hs λwa aL=>rfl
theorem QQ (h:BZ w X rb vb at_ pl bs):
  Ct pg 195 #[ptr rb 0] w X nX λv _ _=>v= .tuple #[I 0,I pl]:=by
 intro w0 hk;replace h:=h.mv hk.cu;have hb:=h.box;refine I0.1 λhs=>?_;repeat' refine ao ?_;intros
 exact cG hs λwa aL=>rfl
theorem ahs (h:BZ w X rb vb at_ pl bs) (he:at_=bs.length):
  Ct pg 135 #[ptr rb 0] w X nX λv _ _=>v= .tuple #[I 0,I pl]:=by
 intro w0 hk;replace h:=h.mv hk.cu;have hb:=h.box;have nV:=h.ow.sl;have gd:=h.sz;refine Ly.1 λhs=>?_;repeat' refine aN ?_;intros
 refine eT (QQ (h.mv hs.mv)) kQ hs.has λw1 X1 aC=>?_;have hs:=hs.trans aC;repeat' refine ao ?_;intros
 exact cG hs λwa aL=>rfl
theorem aht {v0:Value} (h:Sl w X 1 v0 (bs.map U1)) (gd:bs.length<=2^40) (cC: ∀b∈bs,b<256):
  Ct pg 133 #[v0] w X nX λv wa w'=> ∃rb vb,v=ptr rb 0/\BZ w' (made wa w') rb vb 0 0 bs:=by
 intro w0 hk;replace h:=h.mv hk.cu;refine NJ.1 λhs=>?_;repeat' first|(with_reducible apply acY);(case hX=>exact hs.has);(case hu=>kernel_rfl);(case hz=>kernel_rfl);intro acc w X aC ho;replace hs:=hs.trans aC
 refine qQ ho hs (λ_ h=>h) kQ (h.mv hs.mv) (λr hr u hu=>?_) oQ oQ λv1 w1 X1 XH uT Da arX=>?_
 ·obtain⟨x,_,rfl⟩:=List.mem_map.1 hr;simp at hu;subst hu;rfl
 clear hs aC;have hs:=XH;obtain⟨b1,n1,c1,rfl⟩:=uT.sl.form;repeat' first|refine ao ?_;intros|(refine Oy hs ?_;intro bx w X gq aC gg hs bo)
 have hz:=XH.kp.size;refine cG gg λwa aL=>⟨bx,.slice b1 n1 c1,rfl,⟨⟨⟨by omega,?_⟩,?_⟩,?_,au _,gd,cC⟩⟩
 ·have:=aC.has bx bo.1;have:=aL.size;omega
 ·rw[aL.block _ bo.1];exact bo.2
 ·exact((uT.since aC).kp aL).tight.ow
theorem Cm (cs:List Value) (o:Nat) (l:List Value) (h:o+l.length<=cs.length):(cY cs o l).length=cs.length:=by
 unfold cY;simp only[aa,aI,bO];omega
theorem T6 (cs:List Value) (o:Nat) (a b:List Value) (h:o+a.length+b.length<=cs.length):cY (cY cs o a) (o+a.length) b=cY cs o (a++b):=by
 unfold cY;have h1:(cs.take o).length=o:=by rw[aI];omega
 have e1:(cs.take o++a++cs.drop (o+a.length)).take (o+a.length)=cs.take o++a:=by
  rw[ic (by rw[aa,h1])]
 have e2:(cs.take o++a++cs.drop (o+a.length)).drop (o+a.length+b.length)=cs.drop (o+(a++b).length):=by
  rw[<-ik,kc (by rw[aa,h1]),ik,aa]
  congr 1;omega
 rw[e1,e2];simp only[ak]
abbrev aly (rb:Nat):List Value:=[.pointer none,ptr rb 0]
structure RB (w:World) (X:XS) (rb:Nat) (vb:Value) (at_:Nat) (pl:Int) (bs:List Nat) (cb xb:Nat) (cs:List Value) (ty:TypeId):Prop where
 r:BZ w X rb vb at_ pl bs
 x:aK w X xb cs ty
 c:Cells w X cb 0 (aly rb)
 c1:cb≠rb
 c2:cb≠xb
 rx:rb≠xb
 vx: ¬ga vb xb
structure RS (w0 w:World) (X:XS) (rb:Nat) (vb:Value) (at_:Nat) (pl:Int) (bs:List Nat) (cb xb:Nat) (cs:List Value) (ty:TypeId):Prop extends RB w X rb vb at_ pl bs cb xb cs ty where
 t:Ft w0 (λk=>k=rb\/k=xb) w X (λk=>k=rb\/k=xb)
def RdC (f:FuncId) (args:Array Value) (w:World) (X:XS) (rb:Nat) (vb:Value) (gA:Nat) (pl:Int) (xb:Nat) (qe:List Value) (ty:TypeId):Prop:=
 Ct pg f args w X (λk=>k=rb\/k=xb) λv _ w'=>v= .tuple #[]/\aK w' (λk=>k=rb) rb [vb,I gA,I 0,I pl] 315/\aK w' (λk=>k=xb) xb qe ty
variable {o xb xo : Nat} {cs qe : List Value} {ty : TypeId}
section
theorem RB.start (h:RB w X rb vb at_ pl bs cb xb cs ty) (hk:Kp X w wa):RS wa wa (bV wa) rb vb at_ pl bs cb xb cs ty:=
 ⟨⟨h.r.mv hk.cu,h.x.mv hk.cu,h.c.mv hk.cu,h.c1,h.c2,h.rx,h.vx⟩,Ft.init λk e=>by rcases e with rfl|rfl;exact(h.r.mv hk.cu).box.1;exact(h.x.mv hk.cu).1⟩
theorem RS.since (h:RS w0 w X rb vb at_ pl bs cb xb cs ty) (hs:aj X w X' w'):RS w0 w' X' rb vb at_ pl bs cb xb cs ty:=
 ⟨⟨h.r.mv hs.mv,h.x.since hs,h.c.mv hs.mv,h.c1,h.c2,h.rx,h.vx⟩,h.t.since hs⟩
theorem _root_.Go.aG.Cells.eo {l:List Value} (h:Cells w X b o l) (c:eh F X w X' w') (hn: ¬F b):Cells w' X' b o l:=by
 obtain⟨hx,cs,t,fr,hb,hc⟩:=h;exact⟨c.sub b hx,cs,t,fr,by rw[c.block b hx hn];exact hb,hc⟩
theorem RS.apM (h:RS w0 w X rb vb at_ pl bs cb xb cs ty) (c:eh (λk=>k=rb) X w X' w') (hr:aK w' X' rb [vb,I gA,I 0,I pl] 315) (hl:gA<=bs.length):RS w0 w' X' rb vb gA pl bs cb xb cs ty:=
 ⟨⟨h.r.next c hr hl,h.x.eo c (λe=>h.rx e.symm),h.c.eo c h.c1,h.c1,h.c2,h.rx,h.vx⟩,h.t.eo c (λ_ e=>.inl e) λk e=>.inl e⟩
theorem RS.ahu (h:RS w0 w X rb vb at_ pl bs cb xb cs ty) (c:eh (λk=>k=xb) X w X' w') (hr:aK w' X' xb qe ty):RS w0 w' X' rb vb at_ pl bs cb xb qe ty:=
 ⟨⟨⟨h.r.box.eo c h.rx,h.r.ow.eo c λg hg e=>h.vx (e▸hg),h.r.le,h.r.sz,h.r.lt⟩,hr,h.c.eo c h.c2,h.c1,h.c2,h.rx,h.vx⟩,h.t.eo c (λ_ e=>.inr e) λk e=>.inl e⟩
theorem RB.Pg (h:RB w X rb vb at_ pl bs cb xb cs ty) (c:eh (λk=>k=rb\/k=xb) X w X' w') (hr:aK w' X' rb [vb,I gA,I 0,I pl] 315) (hl:gA<=bs.length) (hx:aK w' X' xb qe ty):RB w' X' rb vb gA pl bs cb xb qe ty:=
 ⟨⟨hr,h.r.ow.eo c λg hg e=>e.elim (λe=>h.r.ow.eP h.r.box kQ (e▸hg)) λe=>h.vx (e▸hg),hl,h.r.sz,h.r.lt⟩,hx,h.c.eo c λe=>e.elim h.c1 h.c2,h.c1,h.c2,h.rx,h.vx⟩
theorem RS.Pg (h:RS w0 w X rb vb at_ pl bs cb xb cs ty) (c:eh (λk=>k=rb\/k=xb) X w X' w') (hr:aK w' X' rb [vb,I gA,I 0,I pl] 315) (hl:gA<=bs.length) (hx:aK w' X' xb qe ty):RS w0 w' X' rb vb gA pl bs cb xb qe ty:=
 ⟨h.toRB.Pg c hr hl hx,h.t.eo c (λ_ e=>e) λk e=>.inl e⟩
variable {f : FuncId} {args : Array Value} {N : Value -> World -> XS -> Prop}
theorem RS.read {res:Value} (h:RS w0 w X rb vb at_ pl bs cb xb cs ty) (hc:ahq f args w X rb vb gA pl res) (hf:enters pg f=true) (hl:gA<=bs.length)
  (k: ∀w' X',RS w0 w' X' rb vb gA pl bs cb xb cs ty->N res w' X'):eC pg R X w true f args N:=
 yV hc hf h.t.s.has (λk e=>e▸h.r.box.1) λv wa w' X' ⟨hv,hr⟩ _ _ _ c=>by subst hv;exact k w' X' (h.apM c ⟨c.sub _ h.r.box.1,hr.2⟩ hl)
theorem RS.call (h:RS w0 w X rb vb at_ pl bs cb xb cs ty) (hc:RdC f args w X rb vb gA pl xb qe ty) (hf:enters pg f=true) (hl:gA<=bs.length)
  (k: ∀w' X',RS w0 w' X' rb vb gA pl bs cb xb qe ty->N (.tuple #[]) w' X'):eC pg R X w true f args N:=
 yV hc hf h.t.s.has (λk e=>e.elim (λe=>e▸h.r.box.1) λe=>e▸h.x.1) λv wa w' X' ⟨hv,hr,hx⟩ _ _ _ c=>by
  subst hv;exact k w' X' (h.Pg c ⟨c.sub _ h.r.box.1,hr.2⟩ hl ⟨c.sub _ h.x.1,hx.2⟩)
theorem RS.out (h:RS w0 w X rb vb at_ pl bs cb xb cs ty) (hk:Kp X w wa):dA #[]=dA #[]/\aK wa (λk=>k=rb) rb [vb,I at_,I 0,I pl] 315/\aK wa (λk=>k=xb) xb cs ty:=
 ⟨rfl,⟨rfl,by rw[hk.block _ h.r.box.1];exact h.r.box.2⟩,⟨rfl,by rw[hk.block _ h.x.1];exact h.x.2⟩⟩
theorem T7 (h:RB w X rb vb at_ pl bs cb xb cs ty):Ct pg 262 #[ptr cb 0] w X nX λv _ _=>v= .tuple #[]:=by
 intro wi hk;have hS:=h.start hk;have hc:=hS.c;refine Kh.1 λ_=>?_;have hs:=aj.init wi;repeat' refine ao ?_;intros
 refine eT (QQ (hS.r.mv hs.mv)) kQ hs.has λw1 X1 aC=>?_;have hs:=hs.trans aC;repeat' refine aN ?_;intros
 exact cG hs λwa aL=>rfl
theorem RB.np {a b:List Nat} (h:RB w X rb vb at_ pl bs cb xb cs ty) (he:bs.drop at_=a++b):at_+a.length<=bs.length:=by
 have h1:=congrArg az he;rw[bO,aa] at h1;have h2:=h.r.le;omega
theorem rH {a b:List Nat} (he:bs.drop at_=a++b):bs.drop (at_+a.length)=b:=by
 rw[<-ik,he,List.drop_left]
theorem pL (h:RB w X rb vb at_ pl bs cb xb cs ty) (he:bs.drop at_=encI n++tl) (hn:uU n) (ho:xo+1<=cs.length):
  RdC 183 #[ptr cb 0,ptr xb xo] w X rb vb (at_+(encI n).length) pl xb (cY cs xo [I n]) ty:=by
 intro wi hk;have hS:=h.start hk;have hc:=hS.c;have Fi:=hS.np he;refine Db.1 λ_=>?_;have hs:=aj.fT hS.t.s.has;repeat' refine ao ?_;intros
 refine hS.read (ahr hS.r he hn) kQ Fi λw1 X1 nq=>?_;clear hs;have hs:=aj.fT nq.t.s.has;repeat' refine ao ?_;intros
 refine Gy (o:=xo) nq.x rfl kQ ho rfl rfl nq.t.s.has λw2 X2 c2 jI=>?_;have bg:=nq.ahu c2 jI;refine eT (T7 bg.toRB) kQ bg.t.s.has λw3 X3 cV=>?_;have bX:=bg.since cV;clear hs;have hs:=aj.fT bX.t.s.has
 skip
 exact bX.t.fin λwa aL=>bX.out aL
theorem afq (cs:List Value) (o:Nat) (a b c:Value) (h:o+3<=cs.length):cY (cY (cY cs o [a]) (o+1) [b]) (o+2) [c]=cY cs o [a,b,c]:=by
 have h1:=T6 cs o [a] [b] oQ;have h2:=T6 cs o ([a]++[b]) [c] oQ;simp only[aM,bz,List.cons_append,cx] at h1 h2;rw[<-h2,<-h1]
theorem aje {a b c:Int} (he:bs.drop at_=(encI a++encI b++encI c)++tl):bs.drop at_=encI a++(encI b++(encI c++tl)):=by rw[he];simp only[ak]
def acZ (s:bN):Prop:=uU s.wall/\uU s.du/\uU s.node
def DN (t:bH):Prop:=uU t.dX/\uU t.ba/\uU t.sq
theorem aaN {s:bN} (h:RB w X rb vb at_ pl bs cb xb cs ty) (he:bs.drop at_=lI s++tl) (hn:acZ s) (ho:xo+3<=cs.length):
  RdC 189 #[ptr cb 0,ptr xb xo] w X rb vb (at_+(lI s).length) pl xb (cY cs xo [I s.wall,I s.du,I s.node]) ty:=by
 intro wi hk;have hS:=h.start hk;have e1:bs.drop at_=encI s.wall++(encI s.du++(encI s.node++tl)):=aje he;have e2:=rH e1;have e3:=rH e2;have B0:(cY cs xo [I s.wall]).length=cs.length:=Cm _ _ _ oQ;have wS:(cY (cY cs xo [I s.wall]) (xo+1) [I s.du]).length=cs.length:=(Cm _ _ _ (by simp[B0];omega)).trans B0;refine AW.1 λ_=>?_;repeat' first|refine ao ?_;intros|(with_reducible refine tq kQ kQ ?_)
 refine hS.call (pL (xo:=xo) hS.toRB e1 hn.1 zQ) kQ (hS.np e1) λw1 X1 nq=>?_;repeat' first|refine ao ?_;intros|(with_reducible refine tq kQ kQ ?_)
 refine nq.call (pL nq.toRB e2 hn.2.1 zQ) kQ (nq.np e2) λw2 X2 bg=>?_;repeat' first|refine ao ?_;intros|(with_reducible refine tq kQ kQ ?_)
 refine bg.call (pL bg.toRB e3 hn.2.2 zQ) kQ (bg.np e3) λw3 X3 bX=>?_
 skip
 rw[afq _ _ _ _ _ ho] at bX;have e:at_+(encI s.wall).length+(encI s.du).length+(encI s.node).length=at_+(lI s).length:=by unfold lI;simp only[aa];omega
 rw[e] at bX;exact bX.t.fin λwa aL=>bX.out aL
theorem T8 {s:bH} (h:RB w X rb vb at_ pl bs cb xb cs ty) (he:bs.drop at_=oq s++tl) (hn:DN s) (ho:xo+3<=cs.length):
  RdC 187 #[ptr cb 0,ptr xb xo] w X rb vb (at_+(oq s).length) pl xb (cY cs xo [I s.dX,I s.ba,I s.sq]) ty:=by
 intro wi hk;have hS:=h.start hk;have e1:bs.drop at_=encI s.dX++(encI s.ba++(encI s.sq++tl)):=aje he;have e2:=rH e1;have e3:=rH e2;have B0:(cY cs xo [I s.dX]).length=cs.length:=Cm _ _ _ oQ;have wS:(cY (cY cs xo [I s.dX]) (xo+1) [I s.ba]).length=cs.length:=(Cm _ _ _ (by simp[B0];omega)).trans B0;refine Dc.1 λ_=>?_;repeat' first|refine ao ?_;intros|(with_reducible refine tq kQ kQ ?_)
 refine hS.call (pL (xo:=xo) hS.toRB e1 hn.1 zQ) kQ (hS.np e1) λw1 X1 nq=>?_;repeat' first|refine ao ?_;intros|(with_reducible refine tq kQ kQ ?_)
 refine nq.call (pL nq.toRB e2 hn.2.1 zQ) kQ (nq.np e2) λw2 X2 bg=>?_;repeat' first|refine ao ?_;intros|(with_reducible refine tq kQ kQ ?_)
 refine bg.call (pL bg.toRB e3 hn.2.2 zQ) kQ (bg.np e3) λw3 X3 bX=>?_
 skip
 rw[afq _ _ _ _ _ ho] at bX;have e:at_+(encI s.dX).length+(encI s.ba).length+(encI s.sq).length=at_+(oq s).length:=by unfold oq;simp only[aa];omega
 rw[e] at bX;exact bX.t.fin λwa aL=>bX.out aL
end
def inV (v:gJ):Prop:=v.may=true/\v.num<18446744073709551616
theorem inV.kind {v:gJ} (h:inV v):v=gJ.zero\/(v.kind=1/\v.text=⟨#[]⟩/\v.num=canon v.num)\/(v.kind=2/\v.num=0/\v.text.size<=64):=by
 obtain⟨h,_⟩:=h;unfold gJ.may at h;split at h
 ·rename_i h0;simp only[aD,decide_eq_true_eq] at h;exact .inl (gJ.ext h0 h.1 h.2)
 ·split at h
  ·rename_i h1;simp only[aD,decide_eq_true_eq] at h;exact .inr (.inl ⟨h1,h.1,h.2⟩)
  ·split at h
   ·rename_i h2;simp only[aD,decide_eq_true_eq] at h;exact .inr (.inr ⟨h2,h.1,by omega⟩)
   ·cases h
theorem ahv {t lo:Nat} {v:Value} {z:Int} {r:List Value} (h:Own w X lo e k v (rows++[r])) (hz:z=rows.length)
  (ht:P.underlying t=some (.slice (P.elem t))) (hs:(P.info? (P.elem t)).map (·.size)=some k)
  (n: ∀g cs,aK w X g cs e->lo<=g->v.ownBlock=some g->rows.length*k+k<=cs.length->cs.take (rows.length*k)=rows.flatten->
   (∀w' X' r',r'.length=k->aK w' X' g (cY cs (rows.length*k) r') e->Own w' X' lo e k v (rows++[r']))->N (ptr g (rows.length*k))):aZ P X w (oS t k v (.int .i64 z)) N:=by
 subst hz;have nV:=h.sl;obtain⟨h1,h2,h3⟩:=h;have hlr:(rows++[r]).length=rows.length+1:=by simp
 rcases h2.2 with⟨rfl,hn⟩|⟨g,cap,cur,rfl,hb,hg,ql,iF,jD,px⟩
 ·rw[hlr] at hn;cases hn
 rw[hlr] at ql px;have sI:(rows.length+1)*k=rows.length*k+k:=Nat.succ_mul _ _;have AH:(rows.length+1)*k<=cap*k:=cM k ql;have iR:rows.flatten.length=rows.length*k:=by
  have h4: ∀x∈rows,x.length=k:=λx hx=>h1 x (bJ _ hx);exact lU h4
 have alz:cur.toList.take (rows.length*k)=rows.flatten:=by
  have:=congrArg (zG (rows.length*k)) px;rw[xE,kI zQ,dV,ic iR] at this;exact this
 have qi:cur.toList.length=cur.size:=Array.length_toList;have hA:rows.length*k+k<=cur.toList.length:=by rw[qi,jD,<-sI];exact AH
 unfold oS;refine bA (λwa=>?_) (n g cur.toList ⟨h3 g rfl,by simpa using hg⟩ hb rfl hA alz ?_)
 ·rw[run_indexAt_slice (h:=ht),if_pos (by rw[hlr];omega)];cases hq:P.info? (P.elem t)with
  |none=>simp[hq] at hs
  |some inf=>
   have:inf.size=k:=by simpa [hq] using hs
   simp[sizeOf,typeInfo,hq,this,zN]
 ·intro w' X' r' jZ bo;refine⟨λx hx=>?_,⟨?_,.inr ⟨g,cap,(cY cur.toList (rows.length*k) r').toArray,?_,hb,bo.2,by rw[aa];exact ql,iF,?_,?_⟩⟩,λq hq=>?_⟩
  ·rcases List.mem_append.1 hx with hx|hx
   ·exact h1 x (bJ _ hx)
   ·simp only[List.mem_singleton] at hx;subst hx;exact jZ
  ·rw[dV,aa,iR];simp[jZ,sI]
  ·rw[aa,aa];rfl
  ·rw[List.size_toArray,Cm _ _ _ (by rw[jZ];exact hA),qi];exact jD
  ·show zG _ (cY _ _ _)=_
   unfold cY;rw[aa,List.length_singleton,sI,dV,alz];simp only[cW,List.flatten_nil,List.append_nil];rw[ic (by rw[aa,iR,jZ])]
  ·cases hq;exact bo.1
abbrev ko:Value:=.slice none 0 0
structure ac0 (w0:World) (rb:Nat) (vb:Value) (cb xb:Nat):Prop where
 r:rb<w0.heap.size
 x:xb<w0.heap.size
 c:cb<w0.heap.size
 v: ∀g,ga vb g->g<w0.heap.size
theorem RS.an5 (h:RS w0 w0 (bV w0) rb vb at_ pl bs cb xb cs ty):ac0 w0 rb vb cb xb:=⟨h.r.box.1,h.x.1,h.c.1,λg hg=>(h.r.ow.br hg).1⟩
theorem RS.apN {G:XS} (h:RS w0 w X rb vb at_ pl bs cb xb cs ty) (e:ac0 w0 rb vb cb xb) (c:eh G X w X' w') (hG: ∀k,G k->X k/\w0.heap.size<=k):RS w0 w' X' rb vb at_ pl bs cb xb cs ty:=by
 have no: ∀{k},k<w0.heap.size-> ¬G k:=λhk hg=>by have:=(hG _ hg).2;omega
 refine⟨⟨⟨h.r.box.eo c (no e.r),h.r.ow.eo c λg hg xA=>no (e.v g hg) xA,h.r.le,h.r.sz,h.r.lt⟩,h.x.eo c (no e.x),h.c.eo c (no e.c),h.c1,h.c2,h.rx,h.vx⟩,?_⟩;exact(h.t.more (F':=λk=>(k=rb\/k=xb)\/G k) λk hk=>hk.imp id λhg=>hG k hg).eo c (λk hg=>.inr hg) λk hk=>.inl (.inl hk)
theorem RS.an7 {g:Nat} (h:RS w0 w X rb vb at_ pl bs cb xb cs ty) (e:ac0 w0 rb vb cb xb) (c:eh (λk=>k=rb\/k=g) X w X' w') (hg:X g/\w0.heap.size<=g) (hr:aK w' X' rb [vb,I gA,I 0,I pl] 315) (hl:gA<=bs.length):RS w0 w' X' rb vb gA pl bs cb xb cs ty:=by
 have ex:=e.x;have ec:=e.c;have er:=e.r;refine⟨⟨⟨hr,h.r.ow.eo c λq hq CV=>CV.elim (λe2=>h.r.ow.eP h.r.box kQ (e2▸hq)) λe2=>by have:=e.v q hq;omega,hl,h.r.sz,h.r.lt⟩,h.x.eo c (λe2=>e2.elim (λe2=>h.rx e2.symm) λe2=>by omega),h.c.eo c (λe2=>e2.elim h.c1 λe2=>by omega),h.c1,h.c2,h.rx,h.vx⟩,?_⟩;exact(h.t.more (F':=λk=>(k=rb\/k=xb)\/k=g) λk hk=>hk.imp id λ(e2:k=g)=>by subst e2;exact hg).eo c (λk hk=>hk.elim (λe2=>.inl (.inl e2)) .inr) λk hk=>.inl (.inl hk)
theorem ac1 (cs:List Value) (o:Nat) (a b:Value) (h:o+1<=cs.length):cY (cY cs o [a]) o [b]=cY cs o [b]:=by
 have h1:(cs.take o).length=o:=by rw[aI];omega
 unfold cY;simp only[aM,bz];have e1:(cs.take o++[a]++cs.drop (o+1)).take o=cs.take o:=by rw[ak,ic h1]
 have e2:(cs.take o++[a]++cs.drop (o+1)).drop (o+1)=cs.drop (o+1):=by rw[kc (by simp[h1])]
 simp only[Nat.zero_add] at*;rw[e1,e2]
theorem Dd {u:Value} (h:aK w X xb (cY cs o [u]) ty) (ho:o+1<=cs.length):Cells w X xb o [u]:=by
 have h1:(cs.take o).length=o:=by rw[aI];omega
 refine⟨h.1,_,ty,(0,0),h.2,λj x hj=>?_⟩;cases j with
 |zero=>
  simp at hj;subst hj;rw[List.getElem?_toArray,Nat.add_zero];unfold cY;rw[ak,cP zQ,h1];simp
 |succ j=>simp at hj
end Go.Proofs.YtgfijddlkhkopaaGreat