/- Part 11 of the proof. -/
import Derived.Test.YtgfijddlkhkopaaGreatProg
import Derived.Recover
import Derived.KernelRfl
import Derived.Tactics
import Derived.Test.YtgfijddlkhkopaaGreatH10
set_option linter.all false
open Go.Value renaming cells → ba, agg → ep, tuple → dq
open BitVec renaming ofInt → aF, ofNat → r6, toNat_ofNat → iL
open List renaming length_append → aa, length_take → aD, length → bB, all → aV, length_map → af, length_drop → cj, take_of_length_le → az, mem_of_mem_drop → di, flatten_append → dX, take_append_of_le_length → gZ, append_assoc → ao, mem_of_mem_take → dK, take → zV, drop_drop → iu, take_left' → im, length_nil → bL, nil_append → bp, map_map → cd, take_take → xR, getElem?_take_of_lt → fU, getElem?_append_right → bQ, getElem?_drop → ee, length_cons → aJ, mem_of_getElem? → av, take_append_drop → fy, getElem?_append_left → cV, flatten_cons → dd, drop_left' → ka, mem_append_left → bq
open Array renaming toList → dm, replicate → dh
open Nat renaming mul_le_mul_right → bR, zero_le → ak, le_trans → ad, add_mul → jm, mod_eq_of_lt → fz, min_eq_left → kJ, mul_comm → mZ, le_of_ble_eq_true → eu
open Go.Exit renaming thenS → rR
open Bool renaming and_eq_true → aA, false_eq_true → aW
open Go.IntKind renaming bits → na, signed → jZ, wrap → Ab
namespace Go.Proofs.YtgfijddlkhkopaaGreat
open Go.Proofs.Tryz renaming prog → pg
open Go.aK
set_option maxRecDepth 100000
set_option maxHeartbeats 4000000
theorem Om:Idle pg 59:=by
 refine⟨by kernel_rfl,λgI w=>?_⟩;refine callsD_of_wpS Tryz.func59 rfl λc₀ cs hu=>?_;rw[Tryz.ntmps59];have gh:8<=(gI++dh (15-gI.size) undef).size:=by simp;omega
 generalize gI++dh (15-gI.size) undef=tm at gh;have h2:2<tm.size:=by omega
 have h3:3<tm.size:=by omega
 have h4:4<tm.size:=by omega
 have h5:5<tm.size:=by omega
 have h6:6<tm.size:=by omega
 have h7:7<tm.size:=by omega
 apply wpS_seq;apply wpS_region;simp[wpOpsS,go_sem,recoverD,hu,rR];apply wpS_seq;apply wpS_region;simp[wpOpsS,go_sem,rR,h2,h3,h4,h5,h6,h7];refine wpS_cond (t:=false) (by simp[Act.eval,h2,h3,h4,h5,h6,h7]) ?_;simp only[aW,if_false];refine wpS_of_wp (wp_skip ?_);cases c₀;simp_all [bodyPostS,results,Tryz.results59]
theorem On:Idle pg 51:=by
 refine⟨by kernel_rfl,λgI w=>?_⟩;refine callsD_of_wpS Tryz.func51 rfl λc₀ cs hu=>?_;rw[Tryz.ntmps51];have gh:8<=(gI++dh (13-gI.size) undef).size:=by simp;omega
 generalize gI++dh (13-gI.size) undef=tm at gh;have h2:2<tm.size:=by omega
 have h3:3<tm.size:=by omega
 have h4:4<tm.size:=by omega
 have h5:5<tm.size:=by omega
 have h6:6<tm.size:=by omega
 have h7:7<tm.size:=by omega
 apply wpS_seq;apply wpS_region;simp[wpOpsS,go_sem,recoverD,hu,rR];apply wpS_seq;apply wpS_region;simp[wpOpsS,go_sem,rR,h2,h3,h4,h5,h6,h7];refine wpS_cond (t:=false) (by simp[Act.eval,h2,h3,h4,h5,h6,h7]) ?_;simp only[aW,if_false];refine wpS_of_wp (wp_skip ?_);cases c₀;simp_all [bodyPostS,results,Tryz.results51]
theorem aaQ:Idle pg 81:=by
 refine⟨by kernel_rfl,λgI w=>?_⟩;refine callsD_of_wpS Tryz.func81 rfl λc₀ cs hu=>?_;rw[Tryz.ntmps81];have gh:8<=(gI++dh (12-gI.size) undef).size:=by simp;omega
 generalize gI++dh (12-gI.size) undef=tm at gh;have h2:2<tm.size:=by omega
 have h3:3<tm.size:=by omega
 have h4:4<tm.size:=by omega
 have h5:5<tm.size:=by omega
 have h6:6<tm.size:=by omega
 have h7:7<tm.size:=by omega
 apply wpS_seq;apply wpS_region;simp[wpOpsS,go_sem,recoverD,hu,rR];apply wpS_seq;apply wpS_region;simp[wpOpsS,go_sem,rR,h2,h3,h4,h5,h6,h7];refine wpS_cond (t:=false) (by simp[Act.eval,h2,h3,h4,h5,h6,h7]) ?_;simp only[aW,if_false];refine wpS_of_wp (wp_skip ?_);cases c₀;simp_all [bodyPostS,results,Tryz.results81]
open Go.Sort
attribute [local irreducible] un jn jh ji ld1 jt st1 nW mP pN sR qj JG ET gT rY aY nU nV eW eV eU eC eF gE nB fin jl bC dF vS N9 JH JI HP JJ JK Oa Ob JL Oc Gi Gj JM JN JO Od Oe JP
theorem QD: ∀{l:List Nat} {x:Nat},x∈l->x<=l.sum
 |y::l,x,h=>by
  rw[List.sum_cons];rcases List.mem_cons.1 h with e|h
  ·omega
  ·have:=QD h;omega
theorem aaR (a b:Int) (p:List jz):(fq a b p).Nodup:=(kU _).nodup_iff.2 (EV a b p [] 0 List.nodup_nil (λx hx=>by cases hx) (Nat.le_refl _)).1
def A7 (g:pd):cJ:= { Cg with kind:=1,range:=g.pe.id,iE:=g.pe.iE,keys:=g.keys }
def lf (ds:tK) (p:List jz):List pd:=mW ds (jc ds [] (fq 1 1 p)).1
def uB (ds:tK) (p:List jz):List cJ:=(lf ds p).map A7
variable {gP : Int} {cb : Nat} {X : XS} {w : World}
theorem ac5 {c:cn} (h:aH w X cb (Hb c) IF) (hl:c.dA<2^60) (A8: -(2^60)<c.dA):
  Ct pg 110 #[ptr cb 0,I gP] w X (· =cb) λv _ w'=>v= .tuple #[(c.tL gP).1.v,I (c.tL gP).2]/\aH w' (· =cb) cb (Hb (if(c.tL gP).2=0 then(c.tL gP).1 else c)) IF:=by
 intro w0 hk;have hF:FX (· =cb) X w:=λk ah=>by subst ah;exact⟨h.1,h.lt⟩
 have hT:=hF.ft hk;replace h:=h.mv hk.cE;refine O9.1 λ_=>?_;refine ff (ac7 h hl A8) kQ (λ_ h=>h) λw1 X1 aB=>?_;generalize c.tL gP=q;obtain⟨s,e⟩:=q;replace h:=h.since aB;have eo:Ft w0 (· =cb) w1 X1 (· =cb):=⟨hT.s.trans aB,λk ah=>by subst ah;exact h.1,λk ah=>.inl ah⟩;by_cases he:e=0
 ·repeat' first|refine aI ?_;intros|with_reducible apply cK
  refine Gn (o:=0) h zQ kQ sQ rfl rfl eo.s.has λw2 X2 c2 jJ=>?_;have da:=eo.dT (F':=(· =cb)) c2 (λk ah=>ah) λk ah=>.inl ah;repeat' refine aq ?_;intros
  exact da.fin λwa aL=>⟨rfl,by rw[if_pos he];exact(jJ.kp aL).own⟩
 ·repeat' first|refine aI ?_;intros|with_reducible apply cK
  exact eo.fin λwa aL=>⟨rfl,by rw[if_neg he];exact(h.kp aL).own⟩
theorem ahB {c:cn} (h:c.may=true) (h0:(c.tL gP).2=0):(c.tL gP).1.may=true:=by
 simp only[cn.may,aA,decide_eq_true_eq] at h⊢;revert h0;unfold cn.tL;split
 ·intro e;cases e
 ·split
  ·intro _;(try simp only);omega
  ·split
   ·intro e;cases e
   ·intro _;(try simp only);omega
def tM (p:List jz) (ck:cn) (gP:Int) (ds:tK):Int:=if nG p≠0 then nG p else if(ck.tL gP).2≠0 then(ck.tL gP).2 else(jc ds [] (fq 1 1 p)).2
structure sI (N:Nat) (d:oP):Prop where
 q:d.x.pre=false->d.x.vq=aX/\d.ids=[]
 p:nG d.p=0
 sn:d.sn.length<=N
 ws:d.ws.length<=80
 ids:d.ids.length<=80
 C5: ∀y∈d.ws,y.C5
 xi:0<=d.x.xi/\d.x.xi<6
 pq:d.pq=false
structure tq (N M:Nat) (n:br):Prop where
 id:n.c.id=1
 act: ∀t b,getM t n.al=some b->sI N (n.A b)
 ds: ∀(i:Int) (r:fe),getM i n.ds=some r->r.id=i
 ms:n.ms=[]
 vm:n.vm=aX
 va:n.va=aX
 rm:n.rm=[]
 ra:n.ra=[]
 cl:n.cl.length<=M
 Xq:n.al.length<=M
 mM:M<=1000
 pre:n.pre=false
 cw: ∀b∈n.cl,(n.C b).waits.length<=80
 byT: ∀t b,getM t n.bl=some b->b∈n.cl/\(n.C b).r.aG=t
theorem T4 (n:br) (b:Nat):dN n b (n.A b)=n:=by
 unfold dN
 congr 1
 funext b'
 by_cases h:b'=b
 ·rw[if_pos h,h]
 ·rw[if_neg h]
variable {w' w0 wa : World} {X' : XS} {own aM bY : Nat -> Nat} {n' : br} {b : Nat}
section
variable {n : br}
theorem Vk (h:j9 w own n) (hX:tn own X) (hb:n.dE b) (hp:n.pre=false) (hW: ∀(i:Int) (r:fe),getM i n.ds=some r->r.id=i):
  Ct pg 61 #[ptr n.nb 0,I gP,ptr b 0] w X (gH own) λv wa w'=>NQ ea own wa w' λaM n'=> ∃vg gN st,v= .tuple #[vg,I (tM (n.A b).p n.ck gP n.ds)]/\aK.one vg=true/\n'= { dN n b { n.A b with x:= { (n.A b).x with st:=st } } with ck:=gN } /\
   (tM (n.A b).p n.ck gP n.ds=0->eY w' (bZ aM 4) 5 vg pd.rd (lf n.ds (n.A b).p)):=by
 intro w0 hk;have s:=St.init h hX hk;have ha:=(s.va hb).1;have A6:=(s.h.act hb).2.2.2.2.1;have hs:=s.rf;have self:({ dN n b { n.A b with x:= { (n.A b).x with st:=(n.A b).x.st } } with ck:=n.ck } :br)=n:=T4 n b;refine Kg.1 λ_=>?_;repeat' refine aq ?_;intros
 refine ff (K9 (A6.mono (s.sub 4))) kQ hs.has λw1 X1 aB=>?_;replace A6:=A6.mv (aB.gY (s.sub 4));replace s:=s.since aB;clear hs ha;have hs:=s.rf;have hr:=s.v.1;rw[QE hp] at hr;by_cases EX:nG (n.A b).p≠0
 ·have QF:tM (n.A b).p n.ck gP n.ds=nG (n.A b).p:=by unfold tM;rw[if_pos EX]
  repeat' refine aI ?_;intros
  exact s.fin λwa aL=>⟨aX,n.ck,(n.A b).x.st,by rw[QF],rfl,self.symm,λe=>absurd (QF.symm.trans e) EX⟩
 have apW:nG (n.A b).p=0:=by omega
 have wy:=(Aw apW).1;repeat' refine aI ?_;intros
 have A9:=(show n.pre=false->aH w1 (bZ own 7) n.c.cb (Hb n.ck) IF/\n.ck.may=true from s.get 7) hp;have QG: ∀k,k=n.c.cb->own k=7:=λk e=>by rw[e];exact A9.1.1
 obtain⟨hl,A8⟩:n.ck.dA<2^60/\ -(2^60)<n.ck.dA:=by
  have:=A9.2;simp only[cn.may,aA,decide_eq_true_eq] at this;omega
 refine xQ (ac5 (gP:=gP) (A9.1.mono (s.sub 7)) hl A8) kQ s.has (λk e=>s.x k (by have:=QG k e;omega)) λv xN w2 X2 q2 lK ko _ c2=>?_;obtain⟨rfl,Wb⟩:=q2;obtain⟨lZ,s2,m2⟩:=s.DD (F':=ea { n with ck:=if(n.ck.tL gP).2=0 then(n.ck.tL gP).1 else n.ck }) 7 c2 QG (· =n.c.cb) (λk e=>.inl (QG k e)) (λK _ _=>⟨Wb,by
  show cn.may (if(n.ck.tL gP).2=0 then(n.ck.tL gP).1 else n.ck)=true
  split
  ·exact ahB A9.2 aQ
  ·exact A9.2⟩) oe
 replace A6:=A6.mv m2;clear hs hr Wb s;have hs:=s2.rf;by_cases nK:(n.ck.tL gP).2≠0
 ·have QF:tM (n.A b).p n.ck gP n.ds=(n.ck.tL gP).2:=by unfold tM;rw[if_neg EX,if_pos nK]
  rw[if_neg nK] at s2;repeat' refine aI ?_;intros
  exact s2.fin λwa aL=>⟨aX,n.ck,(n.A b).x.st,by rw[QF],rfl,self.symm,λe=>absurd (QF.symm.trans e) nK⟩
 have apX:(n.ck.tL gP).2=0:=by omega
 have QF:tM (n.A b).p n.ck gP n.ds=(jc n.ds [] (fq 1 1 (n.A b).p)).2:=by unfold tM;rw[if_neg EX,if_neg nK]
 rw[if_pos apX] at s2;generalize (n.ck.tL gP).1=st at s2⊢;have ha:=(s2.va (b:=b) hb).1;have od:=(s2.h.act (b:=b) hb).1;repeat' refine aI ?_;intros
 refine s2.stN (o:=4) (tx b 0) od (ea { dN n b { n.A b with x:= { (n.A b).x with st:=st } } with ck:=st }) zQ kQ (eu rfl) rfl rfl (λ_ _ _ h=>rq (n:= { n with ck:=st }) dQ h) (IE (n:= { n with ck:=st })) (λw3 X3 nH s3 m3=>?_) iz.1 iz.2;replace A6:=A6.mv m3;clear hs ha od s2;have hs:=s3.rf;have ha:=(s3.vs (n:= { n with ck:=st }) hb).1;have hr:=s3.v.1;repeat' refine aq ?_;intros
 refine cM (A3 (A6.mono (s3.sub 4)) zQ) kQ hs.has ?_;rintro vk zB w4 X4 q4 tJ py gd;have s4:=s3.since gd;refine cM (Oh (show mD w4 X4 n.c.ac8 n.mb n.ds from s4.Aa 2) hW (q4.mono py).sl (by have:=Gk (a:=1) (b:=1) (p:=(n.A b).p);omega) λk ah=>by have:=Qu (a:=1) (b:=1) wy k ah;omega) kQ gd.has ?_;rintro v5 Oo w5 X5 q5 IG E4 tr;obtain⟨mY,s5,m5,-,n5⟩:=(s4.since tr).yD (N:=made Oo w5) λk hk=>⟨E4 k hk,s4.nw (ad IG hk.1)⟩;clear hs;have hs:=s5.rf;by_cases he:(jc n.ds [] (fq 1 1 (n.A b).p)).2≠0
 ·rw[if_pos he] at q5;subst q5;repeat' refine aq ?_;intros
  exact s5.fin λwa aL=>⟨aX,st,st,by rw[QF],rfl,rfl,λe=>absurd (QF.symm.trans e) he⟩
 rw[if_neg he] at q5;obtain⟨vg,rfl,me⟩:=q5;have ovg:=eY.one me;have A4:(jc n.ds [] (fq 1 1 (n.A b).p)).2=0:=by omega
 repeat' refine aq ?_;intros
 exact s5.fin λwa aL=>⟨vg,st,st,by rw[QF,A4],ovg,rfl,λ_=>eY.mv (eY.mv me pd.mv (Mv.sub n5)) pd.mv (yU s5.x aL)⟩
end
def Sv (R:Ending->World->Prop) (nb xb:Nat) (w:World) (X:XS):Prop:=(jn (λ(y1:Value) (y2:Value) (w1:World) (X1:XS)=>
un (yz y1 0 3) λu1=>
un (yz y2 0 2) λu2=>
jh (aV [y1,y2,(.agg #[(I 0)])] dE) (fin R X1 w1 (dq #[u1,u2,(I 0)]))) λk1=>
((And
(nU pg X w (bC (ptr xb 0)) λx1=>
(And
(aY pg X w (ji aT 0 0 3 x1) λx2=>
(And
(aY pg X w (jt 34 3 x2) λx3=>
(eC pg R X w true 47 #[ptr nb 0] λx4 w2 X2=>
(un (ep (ba x3)) λu3=>
jh (bB (dm (ba x3))==3) (jh (aV (dm (ba x3)) aK.one) ((un (ep (ba x4)) λu4=>
jh (bB (dm (ba x4))==2) (jh (aV (dm (ba x4)) aK.one) (k1 u3 u4 w2 X2))))))))
(eC pg R X w true 47 #[ptr nb 0] λx5 w3 X3=>
(aY pg X3 w3 (jt 34 3 x2) λx6=>
(un (ep (ba x6)) λu5=>
jh (bB (dm (ba x6))==3) (jh (aV (dm (ba x6)) aK.one) ((un (ep (ba x5)) λu6=>
jh (bB (dm (ba x5))==2) (jh (aV (dm (ba x5)) aK.one) (k1 u5 u6 w3 X3))))))))))
(eC pg R X w true 47 #[ptr nb 0] λx7 w4 X4=>
(aY pg X4 w4 (ji aT 0 0 3 x1) λx8=>
(aY pg X4 w4 (jt 34 3 x8) λx9=>
(un (ep (ba x9)) λu7=>
jh (bB (dm (ba x9))==3) (jh (aV (dm (ba x9)) aK.one) ((un (ep (ba x7)) λu8=>
jh (bB (dm (ba x7))==2) (jh (aV (dm (ba x7)) aK.one) (k1 u7 u8 w4 X4)))))))))))
(eC pg R X w true 47 #[ptr nb 0] λx10 w5 X5=>
(nU pg X5 w5 (bC (ptr xb 0)) λx11=>
(aY pg X5 w5 (ji aT 0 0 3 x11) λx12=>
(aY pg X5 w5 (jt 34 3 x12) λx13=>
(un (ep (ba x13)) λu9=>
jh (bB (dm (ba x13))==3) (jh (aV (dm (ba x13)) aK.one) ((un (ep (ba x10)) λu10=>
jh (bB (dm (ba x10))==2) (jh (aV (dm (ba x10)) aK.one) (k1 u9 u10 w5 X5)))))))))))))
def iU (n:br):bX:=⟨n.c.id,n.c.aR,n.c.fZ+1⟩
theorem T5 {κ α:Type} [DecidableEq κ] {k:κ} {a:α} : ∀l:List (κ×α),kq k (cU k a l)=kq k l
 |[]=>by simp[cU,kq]
 |x::l=>by
  have ih:=T5 (k:=k) (a:=a) l;unfold cU;by_cases h:x.1=k
  ·rw[if_pos h];simp[kq,h]
  ·rw[if_neg h]
   grind [kq]
theorem La {κ α:Type} [DecidableEq κ] {k t:κ} {l:List (κ×α)} {a v:α} (h:getM t (cU k a l)=some v):(t=k/\v=a)\/(t≠k/\getM t l=some v):=by grind [jK,pO]
def Ef (n:br) (p:List jz) (n1:br):Prop:= ∃(xb:Nat) (gN:cn) (Gp:List (bX×Nat)) (vm va:Value) (rm ra:List (List Value)) (ms:List cJ) (d:oP),
  n1= { n with c:= { n.c with fZ:=n.c.fZ+1 },ck:=gN,al:=Gp,vm:=vm,va:=va,rm:=rm,ra:=ra,ms:=ms,A:=λb=>if b=xb then d else n.A b } /\(∀t,getM t n.al≠some xb)/\
  ((∃a,ra=[a]/\ms=[]/\Gp=kq (iU n) n.al/\((∃e,e≠0/\a=EW e (iU n) .zero false aX)\/ ∃st vs,aK.one vs=true/\a=EW 0 (iU n) st true vs))\/
   (ra=[]/\Gp=cU (iU n) xb n.al/\d.p=p/\nG p=0/\d.x.aG=iU n/\d.x.xi=0/\d.x.ml= .zero/\(d.sn=[]/\d.pq=false)/\ms=d.ws.map (λm=>m.pP (20+n.c.id))/\d.ws≠[]/\d.ws.length<=80/\(∀m∈d.ws,m.aG=iU n/\m.C5)/\
    ((d.x.pre=false/\d.x.vq=aX/\d.ids=[]/\(∀m∈d.ws,m.kind=1)/\fq 1 1 p≠[])\/(d.x.pre=true/\d.ws.map (·.range)=d.ids/\ ∀m∈d.ws,m.kind=3/\m.parts=d.ids))))
def QH (E:Prop) (J:List Int->Prop) (n n1:br):Prop:=(n1.ra≠[]->E)/\ ∀b,getM (iU n) n1.al=some b->n1.ra=[]->(n1.A b).x.pre=true->J (n1.A b).ids
variable {R : Ending -> World -> Prop} {M : Nat} {a : Value}
section
variable {n : br}
theorem _root_.Go.aK.St.apY {d:oP} (s:Sn w0 bY w X own n) (hb:own b=0/\w0.heap.size<=b) (hr:aH w X b (JQ d.x d.vw) aT) (hd:d.vw=aX/\d.rw=[]/\d.ws=[]/\d.x.vs=aX/\d.sn=[]/\d.pq=false) (hp:Sl w (bZ own 4) 5 d.x.vp (d.p.map jz.l)) (hq:d.x.vq=aX/\d.ids=[]):
  ¬n.dE b/\ ∃aM,Sn w0 bY w X aM { n with A:=λb'=>if b'=b then d else n.A b',ex:=b::n.ex } /\Mv (bZ own 4) w (bZ aM 4) w:=by
 have no: ¬n.dE b:=λh=>by have:own b=tx b 0:=(s.h.act h).1.1;exact iz.1 (this.symm.trans hb.1)
 obtain⟨d1,d2,d3,d4,d5,d6⟩:=hd;have eA:({ n with A:=λb'=>if b'=b then d else n.A b',ex:=b::n.ex } :br).A b=d:=if_pos rfl;have key: ∀c,c≠tx b 0-> ∀K A,Mv (bZ own 4) w K w->(ea n c).p w K A->(ea { n with A:=λb'=>if b'=b then d else n.A b',ex:=b::n.ex } c).p w K A:=λc hc K A mv h=>by
  have q: ∀{b'},b'≠b->({ n with A:=λb'=>if b'=b then d else n.A b',ex:=b::n.ex } :br).dE b'->n.dE b':=λdO h=>h.imp id λe=>(List.mem_cons.1 e).resolve_left dO;refine Xr (λhi p=>?_) (λb' i hi e p=>?_) h
  ·by_cases e:c=12
   ·subst e;intro t b' e
    show(if b'=b then d else n.A b').x.aG=t
    rw[if_neg λ(e':b'=b)=>no (.inl ⟨t,e'▸e⟩)];exact p t b' e
   ·rcases c with _|_|_|_|_|_|_|_|_|_|_|_|_|c<;>first|exact p|exact absurd rfl e
  ·by_cases dO:b'=b
   ·subst dO;rcases i with _|_|_|_|_|_|_|_|i<;>first|exact absurd e hc|exact p|skip
    all_goals (simp only[zC,if_true];intro _)
    ·show Own w A 0 mT 36 d.vw d.rw
     rw[d1,d2];exact Own.nil _ _ _ _ _
    ·show Own w A 0 snT 7 d.x.vs (d.sn.map fg.l)
     rw[d4,d5];exact Own.nil _ _ _ _ _
    ·refine⟨?_,hp.mv mv,λ_=>?_⟩
     ·show fu w K d.rw d.ws
      rw[d2,d3];exact fu.nil _ _
     ·show Sl w K 1 d.x.vq (d.ids.map I1)
      rw[hq.1,hq.2];exact Sl.nil _ _ _
    ·exact λe=>by rw[d6] at e;cases e
   ·rcases i with _|_|_|_|_|_|_|_|i<;>first|exact p|(simp only[zC,if_neg dO] at p⊢;exact λh=>p (q dO h))
 obtain⟨aM,s',m,-⟩:=s.jX (F':=ea { n with A:=λb'=>if b'=b then d else n.A b',ex:=b::n.ex }) (j:=tx b 0) (N:=(· =b)) (dY.oh s.rf nX) (· =tx b 0) (λ_ h=>h.elim) iz.1.symm iz.2.symm (λk e=>by subst e;exact⟨hr.1,hb⟩) iz.1
  (λaM e1 e2 m c hc=>by subst hc;rw[wu _ _ _ dQ];exact λ_=>by rw[eA];exact⟨e2 b rfl,hr.2⟩) key
 exact⟨no,aM,s',m⟩
theorem ahC (s:Sn w0 bY w X own n) (hb:n.dE b) (k: ∀w9 X9 pQ,Sn w0 bY w9 X9 pQ (eQ n)->Ba w9 pQ n->fin R X9 w9 (.tuple #[(n.A b).x.aG.v,.agg #[n.vm,n.va],I 0])):Sv R n.nb b w X:=by
 unfold Sv;have ha:=(s.va hb).1;have ovm:=s.v.2.1;have ova:=s.v.2.2.1;have hs:=s.rf;have told: ∀{w8:World} {X8:XS} {N:Value->World->XS->Prop},ai X w X8 w8->(∀w9 X9 pQ,Sn w0 bY w9 X9 pQ (eQ n)->Ba w9 pQ n->N (.agg #[n.vm,n.va]) w9 X9)->eC pg R X8 w8 true 47 #[ptr n.nb 0] N:=λ{w8 X8 N} lV k=>
  (s.since lV).call (E5 (s.since lV).h (s.since lV).x) kQ λv w' X' aM n' s' ⟨e1,e2,q⟩ _=>by subst e1 e2;exact k _ _ _ s' q
 refine ib (Q:=λKx=> ∀w9 X9 pQ,Sn w0 bY w9 X9 pQ (eQ n)->Ba w9 pQ n->Kx (.agg #[I (n.A b).x.aG.dW,I (n.A b).x.aG.aR,I (n.A b).x.aG.sq]) (.agg #[n.vm,n.va]) w9 X9) ?_ λKx hKx=>?_
 ·intro w9 X9 pQ s9 q9;have hq:=k w9 X9 pQ s9 q9;clear hs k;repeat' refine aq ?_;intros
  exact hq
 have ahD: ∀{w9:World} {X9:XS} {pQ:Nat->Nat},Sn w0 bY w9 X9 pQ (eQ n)->aH w9 X9 b (JQ (n.A b).x (n.A b).vw) aT:=λs9=>(s9.va (b:=b) hb).1;refine⟨?_,?_⟩
 ·repeat' refine aq ?_;intros
  refine⟨?_,?_⟩
  ·repeat' refine aq ?_;intros
   refine⟨?_,?_⟩
   ·repeat' refine aq ?_;intros
    refine told hs λw9 X9 pQ s9 q9=>?_;clear hs;have hs:=s9.rf;repeat' refine aq ?_;intros
    exact hKx _ _ _ s9 q9
   ·rename_i o ho hc;subst ho;refine told hs λw9 X9 pQ s9 q9=>ac9 ((ahD s9).cells.part 0 3) (Mv.refl _ _) kQ rfl ?_;clear hs;have hs:=s9.rf;repeat' refine aq ?_;intros
    exact hKx _ _ _ s9 q9
  ·refine told hs λw9 X9 pQ s9 q9=>?_;clear hs;have aoq:=ahD s9;repeat' refine aq ?_;intros
   exact hKx _ _ _ s9 q9
 ·refine told hs λw9 X9 pQ s9 q9=>?_;clear hs;have aoq:=ahD s9;repeat' refine aq ?_;intros
  exact hKx _ _ _ s9 q9
theorem akf {t:bX} (hb:b∈n.ex) (ht:(n.A b).x.aG=t): ∀c,c≠5-> ∀w K A,(ea n c).p w K A->(ea { n with al:=cU t b n.al } c).p w K A:=
 oe (λb' i hi _ w K A h=>by
  have e:({ n with al:=cU t b n.al } :br).dE b'->n.dE b':=λh=>h.elim (λ⟨t',e⟩=>(La e).elim (λe=>e.2▸ .inr hb) λe=>.inl ⟨t',e.2⟩) .inr;rcases i with _|_|_|_|_|_|_|_|i<;>first|exact λha=>h (e ha)|exact h) λi hi hq w K A h=>by
   rcases i with _|_|_|_|_|_|_|_|_|_|_|_|_|i<;>first|exact absurd rfl hq|exact λt' b' e=>(La e).elim (λe=>by rw[e.2,e.1];exact ht) λe=>h t' b' e.2|exact h
theorem Lb {p:List jz} {N:Nat} (h:j9 w own n) (hX:tn own X) (hk:tq N M n) (ha:Sl w (bZ own 4) 5 a (p.map jz.l)) (wy:p.length<=2^30) (hc:0<=n.c.fZ/\n.c.fZ<=2^40):
  Ct pg 29 #[ptr n.nb 0,I gP,a] w X (gH own) λv wa w'=>Sw own wa w' (λn1=>Ef n p n1/\QH (tM p n.ck gP n.ds≠0\/O7 p n.ds) (ID p n.ds) n n1) λn1=>v= .tuple #[(iU n).v,.agg #[n1.vm,n1.va],I 0]:=by
 intro w0 DZ;have s:=St.init h hX DZ;replace ha:=ha.mv (yU hX DZ);have hi:1<=n.c.id/\n.c.id<=2:=by rw[hk.id];decide
 refine BR.g (RP:=λ_ _=>False) (g0:=59) (cb:=[3,7,8,6]) (cv:=[]) kQ (.inl rfl) Om Eg ?_;rw[Pa HT,Xs HT];refine cz ?_;have hs:=s.rf;have hr:=s.v.1;repeat' refine aq ?_;intros
 refine s.st (o:=2) 1 (s.get 1) (ea { n with c:= { n.c with fZ:=n.c.fZ+1 } }) zQ kQ (eu rfl) rfl (λ_ _ _ h=>h) oe λw1 X1 ir s1 m1=>?_;replace ha:=ha.mv m1;obtain⟨d,JD⟩: ∃d:CoV,d= { n.c with fZ:=n.c.fZ+1 } :=⟨_,rfl⟩;obtain⟨d1,d2,d3⟩:d.id=n.c.id/\d.aR=n.c.aR/\d.fZ=n.c.fZ+1:=by rw[JD];exact⟨rfl,rfl,rfl⟩
 obtain⟨n1,xc⟩: ∃n1:br,n1= { n with c:=d } :=⟨_,rfl⟩;have s1:Sn w0 own w1 X1 ir n1:=by rw[xc,JD];exact s1
 have e1:n1.nb=n.nb/\n1.c=d:=by rw[xc];exact⟨rfl,rfl⟩
 clear hs hr s;have hs:=s1.rf;have hr:=s1.v.1;rw[e1.1,e1.2] at hr;repeat' refine aq ?_;intros
 refine cM (aaS (ha.mono (s1.sub 4)) zQ) kQ hs.has ?_;rintro vp xN w2 X2 q2 lK ko bH;obtain⟨lZ,s2,m2,-,n2⟩:=(s1.since bH).yD (N:=made xN w2) λk hk=>⟨ko k hk,s1.nw (ad lK hk.1)⟩;have hvp:=q2.sl.mono n2;obtain⟨t1,t2,t3,rfl⟩:=q2.sl.form;clear hs hr;have hs:=s2.rf;have hr:=s2.v.1;rw[e1.1,e1.2] at hr;repeat' first|refine aq ?_;intros|(refine Oq hs ?_;intro bx w X gn aB gw hs bt)
 obtain⟨pc,nH,s3,m3⟩:=(s2.since gw).apY (b:=bx) (d:=⟨⟨⟨d.id,d.aR,d.fZ⟩,.slice t1 t2 t3,.zero,0,aX,false,aX,.zero⟩,aX,[],[],[],p,[],false⟩) (s2.nw zQ) bt ⟨rfl,rfl,rfl,rfl,rfl,rfl⟩ (hvp.mv (gw.gY (s2.sub 4))) ⟨rfl,rfl⟩;rw[xc] at s3 pc;obtain⟨D,hD⟩: ∃D:oP,D=⟨⟨⟨d.id,d.aR,d.fZ⟩,.slice t1 t2 t3,.zero,0,aX,false,aX,.zero⟩,aX,[],[],[],p,[],false⟩:=⟨_,rfl⟩;replace s3:Sn w0 own w X nH { dN n bx D with c:=d,ex:=bx::n.ex } :=by rw[hD];exact s3
 have JU: ∀t,getM t n.al≠some bx:=λt e=>pc (.inl ⟨t,e⟩);have gn: ∀{n':br},n'.ex=bx::n.ex->n'.dE bx:=λe=>.inr (by rw[e];simp);clear hs gw bt hr s2 hvp m3 m2 s1 xc e1 n1 bH m1;refine s3.call (Vk (n:= { dN n bx D with c:=d,ex:=bx::n.ex }) (b:=bx) (gP:=gP) s3.h s3.x (gn rfl) hk.pre hk.ds) kQ λv w4 X4 l7 n4 s4 q4 m4=>?_;obtain⟨vg,gN,st,hv,ovg,rfl,me⟩:=q4;have eD:({ dN n bx D with c:=d,ex:=bx::n.ex } :br).A bx=D:=jA;have hDp:D.p=p:=by rw[hD]
 rw[eD,hDp] at me hv;replace hv:v= .tuple #[vg,I (tM p n.ck gP n.ds)]:=hv;replace me:tM p n.ck gP n.ds=0->eY w4 (bZ l7 4) 5 vg pd.rd (lf n.ds p):=me;subst hv;obtain⟨E,hE⟩: ∃E:oP,E= { D with x:= { D.x with st:=st } } :=⟨_,rfl⟩;obtain⟨NF,T6⟩: ∃NF:oP->List (bX×Nat)->br,NF=λd' Gp=> { dN n bx d' with c:=d,ck:=gN,al:=Gp,ex:=bx::n.ex } :=⟨_,rfl⟩;replace s4:Sn w0 own w4 X4 l7 (NF E n.al):=by
  have e:NF E n.al= { dN { dN n bx D with c:=d,ex:=bx::n.ex } bx { ({ dN n bx D with c:=d,ex:=bx::n.ex } :br).A bx with x:= { (({ dN n bx D with c:=d,ex:=bx::n.ex } :br).A bx).x with st:=st } } with ck:=gN } :=by
   rw[eD,<-hE,T6]
   show _=({ dN (dN n bx D) bx E with c:=d,ex:=bx::n.ex,ck:=gN } :br)
   rw[Ax];rfl
  rw[e];exact s4
 have eE:E.x=⟨⟨d.id,d.aR,d.fZ⟩,.slice t1 t2 t3,st,0,aX,false,aX,.zero⟩/\E.vw=aX/\E.rw=[]/\E.ws=[]/\E.sn=[]/\E.p=p/\E.ids=[]/\E.pq=false:=by rw[hE,hD];exact⟨rfl,rfl,rfl,rfl,rfl,rfl,rfl,rfl⟩
 have Xt:(⟨d.id,d.aR,d.fZ⟩:bX)=iU n:=by rw[d1,d2,d3];rfl
 have uC: ∀{w5:World} {X5:XS} {mY:Nat->Nat} {n5:br},Sn w0 own w5 X5 mY n5->n5.dE bx->n5.nb=n.nb->(n5.A bx).x.aG=iU n->(Ef n p { n5 with ex:=n.ex } /\QH (tM p n.ck gP n.ds≠0\/O7 p n.ds) (ID p n.ds) n { n5 with ex:=n.ex })->(∀b∈n.ex,b∈n5.ex)->
   Sv (vy (gH own) w0 λv w'=>Sw own w0 w' (λn1=>Ef n p n1/\QH (tM p n.ck gP n.ds≠0\/O7 p n.ds) (ID p n.ds) n n1) λn1=>v= .tuple #[(iU n).v,.agg #[n1.vm,n1.va],I 0]) n.nb bx w5 X5:=λ{w5 X5 mY n5} s5 BS enb etx E6 hex=>by
  rw[<-enb];exact ahC s5 BS λw9 X9 pQ s9 q9=>St.alJ (n1:= { n5 with ex:=n.ex }) (s9.to (HU (e':=n.ex) hex)) ⟨q9.om,q9.hm,q9.oa⟩ E6 (by rw[etx])
 clear s3 pc;have hs:=s4.rf;by_cases he:tM p n.ck gP n.ds≠0
 ·repeat' refine aI ?_;intros
  have eA:(NF E n.al).A bx=E/\(NF E n.al).al=n.al/\(NF E n.al).nb=n.nb/\(NF E n.al).ra=n.ra/\(NF E n.al).ex=bx::n.ex:=by rw[T6];exact⟨jA,rfl,rfl,rfl,rfl⟩
  rw[<-eA.2.2.1];refine s4.call (CJ (n:=NF E n.al) (b:=bx) (code:=tM p n.ck gP n.ds) (t:=.zero) (st:=.zero) (on:=false) (vs:=aX) s4.h s4.x (gn eA.2.2.2.2) rfl (by rw[eA.2.2.2.1,hk.ra];simp)) kQ λv w5 X5 mY n5 s5 q5 m5=>?_;obtain⟨ki,rfl⟩:=q5;rw[eA.1,eE.1,Xt,eA.2.1,eA.2.2.2.1,hk.ra] at s5;rw[eA.2.2.1];refine uC s5 (.inr sQ) eA.2.2.1 (by show((NF E n.al).A bx).x.aG=iU n;rw[eA.1,eE.1];exact Xt) ⟨⟨bx,gN,_,_,_,_,_,_,E,by subst T6 JD;rfl,JU,.inl ⟨_,rfl,show(NF E n.al).ms=[] by rw[T6];exact hk.ms,rfl,.inl ⟨_,he,rfl⟩⟩⟩,λ_=>.inl he,λb _ Ay=>by cases Ay⟩ λb hb=>by rw[eA.2.2.2.2];simp[hb]
 have A4:tM p n.ck gP n.ds=0:=by omega
 have me:=me A4;change eY w4 (bZ l7 4) 5 vg pd.rd (lf n.ds p)at me;have EX:nG p=0:=by
  unfold tM at A4;split at A4<;>omega
 have alK:(jc n.ds [] (fq 1 1 p)).2=0:=by
  unfold tM at A4;split at A4
  ·rename_i h9;exact absurd A4 h9
  ·split at A4
   ·rename_i h9;exact absurd A4 h9
   omega
 have hU:(lf n.ds p).length<=40:=by
  have h1:=O6 (ds:=n.ds) (keys:=fq 1 1 p) (m:=[]);have h2:=Gk (a:=1) (b:=1) (p:=p);have h3:=(Aw EX).1;unfold lf mW;rw[af,(pH _).length_eq,af];simp only[bL] at h1;omega
 have hfg: ∀g∈lf n.ds p,g.keys.length<=40:=λg hg=>by
  have h1:=acZ (aaR 1 1 p) alK;have h2:=QD (List.mem_map.2 ⟨g,hg,rfl⟩:g.keys.length∈(lf n.ds p).map λg=>g.keys.length);have h3:=Gk (a:=1) (b:=1) (p:=p);have h4:=(Aw EX).1;change ((lf n.ds p).map λg=>g.keys.length).sum=_ at h1;omega
 have eA:(NF E n.al).A bx=E/\(NF E n.al).al=n.al/\(NF E n.al).nb=n.nb/\(NF E n.al).c=d/\(NF E n.al).ex=bx::n.ex:=by rw[T6];exact⟨jA,rfl,rfl,rfl,rfl⟩
 have hr:=s4.v.1;have ha:=(s4.va (gn eA.2.2.2.2)).1;rw[eA.2.2.1,eA.2.2.2.1] at hr;rw[eA.1] at ha;have Az:dS w4 (bZ l7 5) nX (NF E n.al).c.ab (λk:bX=>k.v) zz (NF E n.al).al:=s4.get 5;rw[eA.2.1,eA.2.2.2.1] at Az;repeat' refine aI ?_;intros
 refine vJ (kv:=λk:bX=>k.v) (k:=E.x.aG) (a:=bx) (et:=116) (mi Az (s4.x _ (by rw[show l7 d.ab=5 from Az.x.1];decide))) EU (show zz w4 nX (ptr bx 0) bx from rfl) (λ_ h=>h.elim) tf kQ s4.has λw5 X5 c5 xS=>?_;obtain⟨mY,s5,m5⟩:=s4.DD (F':=ea { NF E n.al with al:=cU E.x.aG bx (NF E n.al).al }) 5 c5 (λk e=>by rw[show k=d.ab from e];exact Az.x.1) (· =d.ab) (λk e=>.inl (by rw[show k=d.ab from e];exact Az.x.1))
  (λK m=>by
   show dS w5 (· =d.ab) nX (NF E n.al).c.ab (λk:bX=>k.v) zz (cU E.x.aG bx (NF E n.al).al)
   rw[eA.2.1,eA.2.2.2.1];exact mi xS rfl) (akf (by rw[eA.2.2.2.2];simp) (by rw[eA.1]))
 replace me:=eY.mv me pd.mv m5;obtain⟨N2,QI⟩: ∃N2:br,N2=NF E (cU (iU n) bx n.al):=⟨_,rfl⟩;replace s5:Sn w0 own w5 X5 mY N2:=by
  have:({ NF E n.al with al:=cU E.x.aG bx (NF E n.al).al } :br)=N2:=by rw[eA.2.1,QI,T6,eE.1,Xt]
  rw[<-this];exact s5
 have e2:N2.A bx=E/\N2.nb=n.nb/\N2.c=d/\N2.ex=bx::n.ex/\N2.ds=n.ds/\N2.rm=n.rm/\N2.ra=n.ra/\N2.ms=n.ms/\N2.al=cU (iU n) bx n.al:=by rw[QI,T6];exact⟨jA,rfl,rfl,rfl,rfl,rfl,rfl,rfl,rfl⟩
 clear hr ha Az s4 hs eA xS c5;obtain⟨Gd,hG⟩: ∃Gd:Value->List (List Value)->List cJ->oP,Gd=λvw rw l=> { E with vw:=vw,rw:=rw,ws:=l.map λm=>m.asked E.x } :=⟨_,rfl⟩;have hG0:Gd aX [] []=E:=by rw[hG];dsimp only;rw[List.map_nil,<-eE.2.2.2.1,<-eE.2.2.1,<-eE.2.1]
 have hs:=s5.rf;have EY:=eY.mv me pd.mv (Mv.sub (s5.sub 4));have pM:(uB n.ds p).length=(lf n.ds p).length:=by simp[uB]
 repeat' refine aq ?_;intros
 refine fY (λn' a w X=> ∃(i:Nat) (gX:Value) (iK:List (List Value)) (aM:Nat->Nat) (n1:br),a=I (i:Nat)/\n'=(lf n.ds p).length-i/\i<=(lf n.ds p).length/\Sn w0 own w X aM n1/\Told (dN N2 bx (Gd gX iK ((uB n.ds p).take i))) (((uB n.ds p).take i).map λm=>(m.asked E.x).pP (20+d.id)) n1/\iK.length=i/\eY w (bZ aM 4) 5 vg pd.rd (lf n.ds p))
  (lf n.ds p).length ⟨0,aX,[],mY,N2,rfl,rfl,ak _,s5,by rw[List.take_zero,hG0,<-e2.1,T4];exact Told.nil _,rfl,me⟩ ?_
 clear hs s5 me EY;rintro n' _ w6 X6 ⟨i,K7,K8,rr,n1,rfl,rfl,hi6,s6,ht,Oj,me⟩;have hs:=s6.rf;obtain⟨Xo,Qz,xc,Gm⟩:=id ht;have e1:n1.nb=n.nb/\n1.c=d/\n1.A bx=Gd K7 K8 ((uB n.ds p).take i)/\n1.rm.length<=40:=by
  rw[xc];exact⟨e2.2.1,e2.2.2.1,jA,by show Qz.length<=40;rw[Gm,show(dN N2 bx _).rm=n.rm from e2.2.2.2.2.2.1,hk.rm,af,aD];simp;omega⟩
 have mc:n1.dE bx:=by rw[xc];exact gn e2.2.2.2.1
 have EY:=eY.mv me pd.mv (Mv.sub (s6.sub 4));rcases dB (lf n.ds p) i with⟨cI,g,hx,hd⟩|⟨dC,hd⟩
 ·repeat' refine aI ?_;intros
  refine Gl me hx rfl kQ kQ λbb oo ll qI jE=>?_;obtain⟨HR,rfl,K6⟩:=jE;obtain⟨s1,s2,s3,rfl⟩:=K6.form;have ovk:aK.one (.slice s1 s2 s3)=true:=K6.one;replace qI:Cells w6 X6 bb oo [I g.pe.id,I g.pe.iE,.float .f64 g.pe.lo,.float .f64 g.pe.hi,.slice s1 s2 s3]:=Cells.mv qI (Mv.sub (s6.sub 4));repeat' refine aq ?_;intros
  have hm8:(A7 g).at w6 (bZ rr 4) (.slice s1 s2 s3) aX aX aX aX aX aX aX:=⟨K6,Sl.nil _ _ _,Sl.nil _ _ _,Sl.nil _ _ _,Sl.nil _ _ _,eY.nil _ _ _,eY.nil _ _ _,eY.nil _ _ _⟩;have hpx:(uB n.ds p)[i]? =some (A7 g):=by unfold uB;rw[List.getElem?_map,hx];rfl
  have hf8:(A7 g).C5:=⟨ad (hfg g (av hx)) dQ,by simp[A7,Cg],by simp[A7,Cg],by simp[A7,Cg]⟩;rw[<-e1.1];refine s6.call (Ol (n:=n1) (b:=bx) (m:=A7 g) s6.h s6.x mc hm8 hf8 (by rw[e1.2.1,d1];exact hi) zQ (by rw[e1.2.2.1,hG];dsimp only;omega)) kQ λv w9 X9 pQ n9 s9 q9 m9=>?_;obtain⟨vw9,rw9,QC,Xp⟩:=q9;rw[e1.2.2.1,e1.2.1] at Xp;clear hs;repeat' refine aq ?_;intros
  refine ey ((lf n.ds p).length-(i+1)) zQ ⟨i+1,vw9,rw9,pQ,n9,by simp,rfl,by omega,s9,?_,by rw[QC,e1.2.2.1,hG];dsimp only;omega,eY.mv me pd.mv m9⟩;have fQ:=ht.set (b:=bx) (e:=Gd vw9 rw9 ((uB n.ds p).take (i+1)));rw[Ax] at fQ;rw[C6 hpx];refine fQ.add ?_;rw[hG] at Xp⊢;dsimp only;rw[C6 hpx];exact Xp
 rw[az zQ] at ht e1 xc;have e3: ∀d',dN N2 bx d'= { dN n bx d' with c:=d,ck:=gN,al:=cU (iU n) bx n.al,ex:=bx::n.ex } :=λd'=>by
  rw[QI,T6]
  show({ dN (dN n bx E) bx d' with c:=d,ck:=gN,al:=cU (iU n) bx n.al,ex:=bx::n.ex } :br)=_
  rw[Ax]
 have TU: ∀{b},getM (iU n) (cU (iU n) bx n.al)=some b->b=bx:=λh=>by rw[jK] at h;exact(Option.some.inj h).symm
 have ajE:(fq 1 1 p=[])↔(lf n.ds p).length=0:=by
  constructor
  ·intro e;unfold lf mW;rw[af,(pH _).length_eq,af,e];rfl
  ·intro e;cases zD:fq 1 1 p with
   |nil=>rfl
   |cons k r=>
    obtain⟨g,hg,_⟩:=(TY hk.ds alK).rt k (by rw[zD];simp);have:=List.length_pos_of_mem hg;change 0<(lf n.ds p).length at this;omega
 repeat' refine aI ?_;intros
 refine cK ?_;have hex: ∀{n':br},n'.ex=bx::n.ex-> ∀b∈n.ex,b∈n'.ex:=λe b hb=>by rw[e];simp[hb]
 have Ot:E.x.aG=iU n:=by rw[eE.1];exact Xt
 have E7:n1.ex=bx::n.ex/\n1.ra=[]/\n1.al=cU (iU n) bx n.al/\n1.ds=n.ds/\n1.ms=(uB n.ds p).map λm=>(m.asked E.x).pP (20+d.id):=by
  rw[xc];refine⟨e2.2.2.2.1,e2.2.2.2.2.2.2.1.trans hk.ra,e2.2.2.2.2.2.2.2.2,e2.2.2.2.2.1,?_⟩
  show(dN N2 bx _).ms++_=_
  rw[show(dN N2 bx _).ms=n.ms from e2.2.2.2.2.2.2.2.1,hk.ms,bp]
 have eG: ∀vw rw l,(Gd vw rw l).x=E.x/\(Gd vw rw l).ws=(l.map λm=>m.asked E.x)/\(Gd vw rw l).p=p/\(Gd vw rw l).sn=[]/\(Gd vw rw l).ids=[]/\(Gd vw rw l).pq=false:=λvw rw l=>by rw[hG];exact⟨rfl,rfl,eE.2.2.2.2.2.1,eE.2.2.2.2.1,eE.2.2.2.2.2.2.1,eE.2.2.2.2.2.2.2⟩
 by_cases hg0:(lf n.ds p).length=0
 ·have Gg:=ajE.2 hg0;have apZ:uB n.ds p=[]:=List.length_eq_zero_iff.1 zQ;rw[apZ] at ht e1 E7 xc;have sS:=eG K7 K8 [];repeat' refine aI ?_;intros
  rw[<-e1.1];refine s6.call (Og (n:=n1) (b:=bx) s6.h s6.x mc (by rw[e1.2.2.1,sS.1,eE.1]) (by rw[e1.2.2.1,sS.1,sS.2.2.2.2.1,sS.2.2.2.2.2,eE.1];exact⟨rfl,rfl,rfl⟩) (by rw[e1.2.2.1,sS.2.1];rfl) (by rw[e1.2.2.1,sS.2.2.2.1];simp) (by rw[E7.2.2.2.1];exact hk.ds) (by rw[e1.2.1,d1];exact hi) zQ (by rw[E7.2.1];simp) (by rw[e1.2.2.1,sS.2.2.1];exact EX)) kQ λv w7 X7 rZ n7 s7 q7 m7=>?_;unfold O8 at q7;rw[e1.2.2.1,sS.1,sS.2.2.1,E7.2.2.2.1,e1.2.1] at q7;rw[e1.1];rcases q7 with⟨ki,a,h9,haw,vm7,rm7,rfl,_⟩|⟨ids,pm,vq,vw7,rw7,cu,ada,AA,nK,hio,vm7,rm7,rfl,_⟩
  ·refine uC s7 (.inr sQ) e1.1 (by show(n1.A bx).x.aG=_;rw[e1.2.2.1,sS.1,Ot]) ⟨⟨bx,gN,kq E.x.aG n1.al,vm7,ki,rm7,n1.ra++[a],n1.ms++[],Gd K7 K8 [],by rw[e3] at xc;subst JD xc;rfl,JU,.inl ⟨a,by show n1.ra++[a]=_;rw[E7.2.1];rfl,by show n1.ms++[]=_;rw[E7.2.2.2.2];rfl,by show kq E.x.aG n1.al=_;rw[E7.2.2.1,Ot,T5],?_⟩⟩,λ_=>.inr haw,λb _ Ay=>by have Ay:n1.ra++[a]=[]:=Ay;simp at Ay⟩ λb hb=>by show b∈bx::n1.ex;rw[E7.1];simp[hb]
   ·rcases h9 with⟨e,he9,rfl⟩|⟨vs,ov9,rfl⟩
    ·exact .inl ⟨e,he9,by rw[Ot]⟩
    ·exact .inr ⟨_,vs,ov9,by rw[Ot]⟩
  ·have e7: ∀d':oP,dN n1 bx d'= { dN n bx d' with c:=d,ck:=gN,al:=cU (iU n) bx n.al,ex:=bx::n.ex,vm:=Xo,rm:=Qz,ms:=n1.ms } :=λd'=>by
    obtain⟨q,hq⟩: ∃q,q=n1.ms:=⟨_,rfl⟩;have e:n1= { dN N2 bx (Gd K7 K8 [])with vm:=Xo,rm:=Qz,ms:=q } :=by rw[hq];subst xc;rfl
    rw[<-hq,e]
    show({ dN (dN N2 bx (Gd K7 K8 [])) bx d' with vm:=Xo,rm:=Qz,ms:=q } :br)=_
    rw[Ax,e3]
   rw[e7] at s7;refine uC s7 (.inr sQ) rfl (by show((dN n bx _).A bx).x.aG=_;rw[jA];exact Ot) ⟨⟨bx,gN,_,_,_,_,_,_,{ Gd K7 K8 [] with x:= { E.x with pre:=true,vq:=vq },vw:=vw7,rw:=rw7,ws:=pm.map λm=>m.asked E.x,ids:=ids },by subst JD;rfl,JU,.inr ⟨hk.ra,rfl,sS.2.2.1,EX,Ot,by show E.x.xi=0;rw[eE.1],by show E.x.ml= .zero;rw[eE.1],⟨sS.2.2.2.1,sS.2.2.2.2.2⟩,?_,?_,?_,λm hm=>?_,.inr ⟨rfl,?_,λm hm=>?_⟩⟩⟩,λAy=>absurd hk.ra Ay,λb hb _ _=>?_⟩ λb hb=>by simp[hb]
   ·show n1.ms++_=_
    rw[E7.2.2.2.2,List.map_nil,bp,cd];rfl
   ·intro e;have:pm=[]:=List.map_eq_nil_iff.1 e;rw[this] at AA;exact cu AA.symm
   ·show(pm.map _).length<=80
    rw[af,<-af (f:=λm:cJ=>m.range),AA];exact ada
   ·obtain⟨m0,Lc,rfl⟩:=List.mem_map.1 hm;have hq:=(nK m0 Lc).2.2;exact⟨Ot,hq.keys,hq.seen,hq.writes,hq.parts⟩
   ·show(pm.map _).map _=ids
    rw[<-AA,cd];rfl
   ·obtain⟨m0,Lc,rfl⟩:=List.mem_map.1 hm;exact⟨(nK m0 Lc).1,(nK m0 Lc).2.1⟩
   ·have e:=TU hb;subst e
    show ID p n.ds ((dN n _ _).A _).ids
    rw[jA];exact hio
 ·repeat' refine aI ?_;intros
  have sS:=eG K7 K8 (uB n.ds p);rw[e3] at xc;refine uC s6 mc e1.1 (by rw[e1.2.2.1,sS.1,Ot]) ⟨⟨bx,gN,n1.al,n1.vm,n1.va,n1.rm,n1.ra,n1.ms,Gd K7 K8 (uB n.ds p),by subst JD xc;rfl,JU,.inr ⟨E7.2.1,E7.2.2.1,sS.2.2.1,EX,by rw[sS.1,Ot],by rw[sS.1,eE.1],by rw[sS.1,eE.1],⟨sS.2.2.2.1,sS.2.2.2.2.2⟩,?_,?_,?_,λm hm=>?_,.inl ⟨by rw[sS.1,eE.1],by rw[sS.1,eE.1],sS.2.2.2.2.1,λm hm=>?_,λe=>hg0 (ajE.1 e)⟩⟩⟩,λAy=>absurd E7.2.1 Ay,λb hb Ay hp=>?_⟩ (hex E7.1)
  ·show n1.ms=_
   rw[E7.2.2.2.2,sS.2.1,cd,d1];rfl
  ·rw[sS.2.1];intro e;have:(uB n.ds p).length=0:=by have:=congrArg bB e;simpa using this
   omega
  ·rw[sS.2.1,af];omega
  ·rw[sS.2.1] at hm;obtain⟨m0,Lc,rfl⟩:=List.mem_map.1 hm;obtain⟨g,hg,rfl⟩:=List.mem_map.1 Lc;exact⟨Ot,ad (hfg g hg) dQ,by simp[A7,Cg,cJ.asked],by simp[A7,Cg,cJ.asked],by simp[A7,Cg,cJ.asked]⟩
  ·rw[sS.2.1] at hm;obtain⟨m0,Lc,rfl⟩:=List.mem_map.1 hm;obtain⟨g,_,rfl⟩:=List.mem_map.1 Lc;rfl
  ·have hb:getM (iU n) n1.al=some b:=hb;rw[E7.2.2.1] at hb;have e:=TU hb;subst e;have hp:(n1.A _).x.pre=true:=hp;rw[e1.2.2.1,sS.1,eE.1] at hp;cases hp
end
variable {i : Nat} {rs : List (List Value)} {hv : Value} {F : XS}
theorem Ou (own:Own w F 0 54 36 hv rs) (hF: ∀k,F k->X k) (hi:i<rs.length) (hr: ∀r∈rs,∀u∈r,aK.one u=true):
  Ct pg 103 #[hv,I (i:Nat),I ((i+1:Nat):Int)] w X (fv hv) λv wa w'=>Own w' (fv hv) 0 54 36 v (rs.take i++rs.drop (i+1))/\v.ownBlock=hv.ownBlock:=by
 intro w0 hk;have bY:=own.mv ((Mv.sub hF).trans hk.cE);have hT:Ft w0 (fv hv) w0 (bP w0) (fv hv):=Ft.init λk ah=>(bY.ge ah).2;have pf:=bY.sl;have pM: ∀r∈rs,r.length=36:=bY.1;have QJ:(i:Int)+1=((i+1:Nat):Int):=by simp
 refine yE.1 λhs=>?_;rcases bY.row with⟨_,h⟩|⟨g,cap,cs,rfl,gr,bt,ql,iq,jS,tW⟩
 ·rw[h] at hi;simp at hi
 have ap0:Sl w0 (bP w0) 36 (.slice (some ⟨g,0,none⟩) rs.length cap) (rs.map id):=by simpa using pf
 repeat' refine aq ?_;intros
 refine abR (i:=i) (j:=i+1) (q:=rs.length) rfl sQ rfl zQ zQ ql kQ kQ λ_=>?_;repeat' refine aI ?_;intros
 refine Ld (i:=i) rfl zQ kQ kQ ?_;refine abS pf (i:=i+1) sQ zQ kQ kQ λv2 bH=>?_;have E8:(rs.drop (i+1)).length=rs.length-(i+1):=cj;have hD:((rs.drop (i+1)).flatten).length=(rs.length-(i+1))*36:=by rw[kK λr jY=>pM r (di jY),E8]
 have hA:((rs.take i).flatten).length=i*36:=by rw[kK λr jY=>pM r (dK jY),aD];congr 1;omega
 refine Xu (k:=36) (n:=i) kQ bt bH (λq hq u hu=>hr q (di hq) u hu) zQ zQ hs.has λw1 X1 c1 rI=>?_;have eo:=hT.dT c1 (λk ah=>ah.symm▸rfl) (F':=fv (.slice (some ⟨g,0,none⟩) rs.length cap)) λk ah=>.inl ah;rw[show i+(rs.drop (i+1)).length=rs.length-1 by omega];rw[show 0+i*36=i*36 by omega] at rI;have ahE:cs.take (i*36)=(rs.take i).flatten:=by
  have h1:=congrArg (zV (i*36)) tW;rw[xR,kJ (bR _ zQ)] at h1;rw[h1];have Le:rs.flatten=(rs.take i).flatten++(rs.drop i).flatten:=by rw[<-dX,fy]
  rw[Le,gZ zQ,az zQ]
 have qI:i*36+(rs.length-(i+1))*36=(rs.length-1)*36:=by rw[<-jm];congr 1;omega
 have IH:(bM cs (i*36) (rs.drop (i+1)).flatten).take ((rs.length-1)*36)=(rs.take i++rs.drop (i+1)).flatten:=by
  unfold bM;rw[ahE,dX,gZ (by rw[aa,hA,hD];omega),az (by rw[aa,hA,hD];omega)]
 have Ch:(bM cs (i*36) (rs.drop (i+1)).flatten).length=cap*36:=by
  unfold bM;have hb:(rs.length-1)*36<=cap*36:=bR _ zQ;simp only[aa,aD,cj,hD,jS];omega
 have Lf: ∀r∈rs.take i++rs.drop (i+1),r.length=36:=λr jY=>(List.mem_append.1 jY).elim (λe=>pM r (dK e)) λe=>pM r (di e);have Bb:(rs.take i++rs.drop (i+1)).length=rs.length-1:=by rw[aa,aD,E8];omega
 have vz:Own w1 X1 0 54 36 (.slice (some ⟨g,0,none⟩) (rs.length-1) cap) (rs.take i++rs.drop (i+1)):=Own.E9 rI (ak _) Lf Bb zQ iq Ch IH;have aB:Sl w1 X1 36 (.slice (some ⟨g,0,none⟩) (rs.length-1) cap) ((rs.take i++rs.drop (i+1)).map id):=by simpa using vz.sl
 clear hs;have hs:=ai.fL eo.s.has;repeat' refine aq ?_;intros
 rw[Bb];refine Xv (k:=36) (i:=rs.length-1) (j:=rs.length) rfl rfl zQ ql zQ kQ kQ ?_;rw[show rs.length-(rs.length-1)=1 by omega,show 0+(rs.length-1)*36=(rs.length-1)*36 by omega];have adb:(rs.length-1)*36+1*36<=cap*36:=by rw[<-jm];exact bR _ zQ
 refine Xw (k:=36) (bytes:=416) (e:=54) (o:=(rs.length-1)*36) (n:=1) rI kQ kQ zQ (by rw[Ch];exact adb) eo.s.has λw2 X2 zs Xx c2 jJ=>?_;have da:=eo.dT c2 (λk ah=>ah.symm▸rfl) (F':=nX) λk ah=>ah.elim;have wo:(bM (bM cs (i*36) (rs.drop (i+1)).flatten) ((rs.length-1)*36) zs).length=cap*36:=by
  rw[<-Ch];generalize bM cs (i*36) (rs.drop (i+1)).flatten=q at Ch⊢;unfold bM;simp only[aa,aD,cj,Xx];omega
 have xT:(bM (bM cs (i*36) (rs.drop (i+1)).flatten) ((rs.length-1)*36) zs).take ((rs.length-1)*36)=(rs.take i++rs.drop (i+1)).flatten:=by
  rw[<-IH];generalize bM cs (i*36) (rs.drop (i+1)).flatten=q at Ch⊢;unfold bM;rw[ao,gZ (by rw[aD];omega),az (by rw[aD];omega)]
 have kF:Own w2 X2 0 54 36 (.slice (some ⟨g,0,none⟩) (rs.length-1) cap) (rs.take i++rs.drop (i+1)):=Own.E9 jJ (ak _) Lf Bb zQ iq wo xT;exact da.fin λwa aL=>⟨xO (kF.kp aL) λg' mN=>mN,rfl⟩
theorem aaT (own:Own w F 0 3 1 hv rs) (hF: ∀k,F k->X k) (hi:i<rs.length) (hr: ∀r∈rs,∀u∈r,aK.one u=true):
  Ct pg 108 #[hv,I (i:Nat),I ((i+1:Nat):Int)] w X (fv hv) λv wa w'=>Own w' (fv hv) 0 3 1 v (rs.take i++rs.drop (i+1))/\v.ownBlock=hv.ownBlock:=by
 intro w0 hk;have bY:=own.mv ((Mv.sub hF).trans hk.cE);have hT:Ft w0 (fv hv) w0 (bP w0) (fv hv):=Ft.init λk ah=>(bY.ge ah).2;have pf:=bY.sl;have pM: ∀r∈rs,r.length=1:=bY.1;have QJ:(i:Int)+1=((i+1:Nat):Int):=by simp
 refine C7.1 λhs=>?_;rcases bY.row with⟨_,h⟩|⟨g,cap,cs,rfl,gr,bt,ql,iq,jS,tW⟩
 ·rw[h] at hi;simp at hi
 have ap0:Sl w0 (bP w0) 1 (.slice (some ⟨g,0,none⟩) rs.length cap) (rs.map id):=by simpa using pf
 repeat' refine aq ?_;intros
 refine abR (i:=i) (j:=i+1) (q:=rs.length) rfl sQ rfl zQ zQ ql kQ kQ λ_=>?_;repeat' refine aI ?_;intros
 refine Ld (i:=i) rfl zQ kQ kQ ?_;refine abS pf (i:=i+1) sQ zQ kQ kQ λv2 bH=>?_;have E8:(rs.drop (i+1)).length=rs.length-(i+1):=cj;have hD:((rs.drop (i+1)).flatten).length=(rs.length-(i+1))*1:=by rw[kK λr jY=>pM r (di jY),E8]
 have hA:((rs.take i).flatten).length=i*1:=by rw[kK λr jY=>pM r (dK jY),aD];congr 1;omega
 refine Xu (k:=1) (n:=i) kQ bt bH (λq hq u hu=>hr q (di hq) u hu) zQ zQ hs.has λw1 X1 c1 rI=>?_;have eo:=hT.dT c1 (λk ah=>ah.symm▸rfl) (F':=fv (.slice (some ⟨g,0,none⟩) rs.length cap)) λk ah=>.inl ah;rw[show i+(rs.drop (i+1)).length=rs.length-1 by omega];rw[show 0+i*1=i*1 by omega] at rI;have ahE:cs.take (i*1)=(rs.take i).flatten:=by
  have h1:=congrArg (zV (i*1)) tW;rw[xR,kJ (bR _ zQ)] at h1;rw[h1];have Le:rs.flatten=(rs.take i).flatten++(rs.drop i).flatten:=by rw[<-dX,fy]
  rw[Le,gZ zQ,az zQ]
 have qI:i*1+(rs.length-(i+1))*1=(rs.length-1)*1:=by rw[<-jm];congr 1;omega
 have IH:(bM cs (i*1) (rs.drop (i+1)).flatten).take ((rs.length-1)*1)=(rs.take i++rs.drop (i+1)).flatten:=by
  unfold bM;rw[ahE,dX,gZ (by rw[aa,hA,hD];omega),az (by rw[aa,hA,hD];omega)]
 have Ch:(bM cs (i*1) (rs.drop (i+1)).flatten).length=cap*1:=by
  unfold bM;have hb:(rs.length-1)*1<=cap*1:=bR _ zQ;simp only[aa,aD,cj,hD,jS];omega
 have Lf: ∀r∈rs.take i++rs.drop (i+1),r.length=1:=λr jY=>(List.mem_append.1 jY).elim (λe=>pM r (dK e)) λe=>pM r (di e);have Bb:(rs.take i++rs.drop (i+1)).length=rs.length-1:=by rw[aa,aD,E8];omega
 have vz:Own w1 X1 0 3 1 (.slice (some ⟨g,0,none⟩) (rs.length-1) cap) (rs.take i++rs.drop (i+1)):=Own.E9 rI (ak _) Lf Bb zQ iq Ch IH;have aB:Sl w1 X1 1 (.slice (some ⟨g,0,none⟩) (rs.length-1) cap) ((rs.take i++rs.drop (i+1)).map id):=by simpa using vz.sl
 clear hs;have hs:=ai.fL eo.s.has;repeat' refine aq ?_;intros
 rw[Bb];refine Xv (k:=1) (i:=rs.length-1) (j:=rs.length) rfl rfl zQ ql zQ kQ kQ ?_;rw[show rs.length-(rs.length-1)=1 by omega,show 0+(rs.length-1)*1=(rs.length-1)*1 by omega];have adb:(rs.length-1)*1+1*1<=cap*1:=by rw[<-jm];exact bR _ zQ
 refine Xw (k:=1) (bytes:=8) (e:=3) (o:=(rs.length-1)*1) (n:=1) rI kQ kQ zQ (by rw[Ch];exact adb) eo.s.has λw2 X2 zs Xx c2 jJ=>?_;have da:=eo.dT c2 (λk ah=>ah.symm▸rfl) (F':=nX) λk ah=>ah.elim;have wo:(bM (bM cs (i*1) (rs.drop (i+1)).flatten) ((rs.length-1)*1) zs).length=cap*1:=by
  rw[<-Ch];generalize bM cs (i*1) (rs.drop (i+1)).flatten=q at Ch⊢;unfold bM;simp only[aa,aD,cj,Xx];omega
 have xT:(bM (bM cs (i*1) (rs.drop (i+1)).flatten) ((rs.length-1)*1) zs).take ((rs.length-1)*1)=(rs.take i++rs.drop (i+1)).flatten:=by
  rw[<-IH];generalize bM cs (i*1) (rs.drop (i+1)).flatten=q at Ch⊢;unfold bM;rw[ao,gZ (by rw[aD];omega),az (by rw[aD];omega)]
 have kF:Own w2 X2 0 3 1 (.slice (some ⟨g,0,none⟩) (rs.length-1) cap) (rs.take i++rs.drop (i+1)):=Own.E9 jJ (ak _) Lf Bb zQ iq wo xT;exact da.fin λwa aL=>⟨xO (kF.kp aL) λg' mN=>mN,rfl⟩
theorem aaU {b:Value} {ks:List BA} {sn:List fg} (ha:Sl w X 1 a (ks.map S1)) (hb:Sl w X 7 b (sn.map fg.l)):
  Ct pg 101 #[a,b,.func (.func 102) #[] #[]] w X nX λv _ _=> ∃e,v=B e:=by
 intro w0 hk;replace ha:=ha.mv hk.cE;replace hb:=hb.mv hk.cE;have lh:=ha.gV;have JS: ∀{k:BA} {x:fg} {w1:World} {X1:XS},Ct pg 102 #[.string k,.agg x.l.toArray] w1 X1 nX λv _ _=>v=B (decide (k=x.key)):=by
  intro k x w1 X1 w0 hk;have hs:=ai.init w0;refine HV.1 λ_=>?_;repeat' first|refine aq ?_;intros|refine dg ?_ ?_<;>intros|(refine qr ?_;intro wa hk;(congr 1;simp_all))
 refine ph.1 λhs=>?_;repeat' first|refine aq ?_;intros|refine dg ?_ ?_<;>intros|(refine qr ?_;intro wa hk;exact⟨_,rfl⟩)
 refine fY (λn a w X=> ∃i:Nat,a=I (i:Nat)/\n=(ks).length-i/\i<=(ks).length/\ai (bP w0) w0 X w/\True) (ks).length ⟨0,rfl,rfl,ak _,hs,by trivial⟩ ?_;rintro n a w X ⟨i,rfl,rfl,hi,hs,hw⟩;rcases dB (ks) i with⟨cI,k,hx,hd⟩|⟨dC,hd⟩
 ·obtain⟨x,Xb,_⟩: ∃x,sn[i]? =some x/\sn.drop i=x::sn.drop (i+1):=(dB sn i).elim (λh=>h.2) λh=>by omega
  repeat' first|refine aI ?_;intros|(refine qr ?_;intro wa hk;exact⟨_,rfl⟩)|((with_reducible refine ey ((ks).length-(i+1)) ?_ ?_);omega;exact⟨i+1,by simp,rfl,by omega,hs,trivial⟩)|(refine qL (JS (k:=k) (x:=x)) hs ?_ ?_<;>intro _ w X hs)
 ·repeat' first|refine aI ?_;intros|(refine qr ?_;intro wa hk;exact⟨_,rfl⟩)
variable {rows : List (List Value)}
theorem fu.cut {K:XS} {ms:List cJ} (h:fu w K rows ms) (i:Nat):fu w K (rows.take i++rows.drop (i+1)) (ms.take i++ms.drop (i+1)):=by
 refine⟨by simp[h.1],λj l x hl hx=>?_⟩;by_cases hj:j<min i rows.length
 ·rw[cV (by simpa using hj)] at hl;rw[cV (by rw[aD,<-h.1];exact hj)] at hx;rw[fU zQ] at hl hx;exact h.2 j l x hl hx
 ·rw[bQ (by simpa using Nat.le_of_not_lt hj)] at hl;rw[bQ (by rw[aD,<-h.1];omega)] at hx;rw[aD,ee] at hl hx;rw[<-h.1] at hx;exact h.2 _ l x hl hx
def qm (d:oP) (i:Nat) (m:cJ) (qP gX:Value) (iK:List (List Value)):oP:= { d with x:= { d.x with vs:=qP },vw:=gX,rw:=iK,ws:=d.ws.take i++d.ws.drop (i+1),sn:=d.sn++m.seen }
def M3 (n:br) (m:cJ) (n':br):Prop:=
 (∃gN,n'= { n with ck:=gN })\/CM n m false n'\/ ∃(b i:Nat) (y:cJ) (gN:cn) (qP gX:Value) (iK:List (List Value)) (n1:br),CN n m false b i y/\n1= { dN n b (qm (n.A b) i m qP gX iK)with ck:=gN } /\
  (((n.A b).ws.length≠1/\n'=n1)\/((n.A b).ws.length=1/\ ∃n2,O8 n1 b n2/\n'= { n2 with ex:=n.ex }))
variable {m : cJ}
section
variable {n : br}
theorem tq.get {N:Nat} (h:tq N M n) (hN:N<=2^20):n.ra.length<=2^20/\ ∀b,getM m.aG n.al=some b->n.rm.length+(n.A b).ids.length<=2^20:=by
 rw[h.ra,h.rm];exact⟨by simp,λb hg=>by have:=(h.act _ b hg).ids;simp;omega⟩
theorem Xy {vk vs vw vp vr vc vh vd:Value} {N:Nat} (h:j9 w own n) (hX:tn own X) (hm:m.at w (bZ own 4) vk vs vw vp vr vc vh vd) (fQ:m.aU.may=true) (hk:tq N M n) (hN:N+m.seen.length<=2^20):
  Ct pg 55 #[ptr n.nb 0,m.v vk vs vw vp vr vc vh vd] w X (gH own) λ_ wa w'=>NQ ea own wa w' λ_ n'=>M3 n m n':=by
 intro w0 iy;have s0:=St.init h hX iy;replace hm:=hm.mv (yU hX iy);have hi:1<=n.c.id/\n.c.id<=2:=by rw[hk.id];decide
 clear h hX iy;refine Lh.1 λ_=>?_;refine s0.call (HW s0.h s0.x hk.pre fQ hm.ranges hi (hk.get (m:=m) zQ).1 (λb hb=>(hk.act _ b hb).pq) (hk.get zQ).2) kQ λv w1 X1 ir n1 s1 q1 m1=>?_;rcases q1 with⟨rfl,q1⟩|⟨b,i,y,gN,hw,rfl,rfl⟩
 ·have hs:=s1.rf;repeat' first|refine aq ?_;intros|with_reducible apply cK
  exact s1.fin λ_ _=>q1.elim (λ⟨c,e,_⟩=>.inl ⟨c,e⟩) λe=>.inr (.inl e)
 replace hm:=hm.mv m1;have hb:n.dE b:=.inl ⟨_,hw.g⟩;have C8:=hk.act _ b hw.g;have ap3:=C8.ws;have asq:=C8.sn;have od:=s1.h.act (b:=b) hb;have HQ:(n.A b).rw.length=(n.A b).ws.length:=od.2.2.2.1.1;have lU:i<(n.A b).ws.length:=(List.getElem?_eq_some_iff.1 hw.gL).1;obtain⟨l,hl⟩: ∃l,(n.A b).rw[i]? =some l:=⟨_,List.getElem?_eq_getElem zQ⟩;obtain⟨uk,us,uw,up,ur,uc,uh,ud,rfl,dc⟩:=od.2.2.2.1.2 i l y hl hw.gL;have ap4:Sl w1 X1 36 (n.A b).vw ((n.A b).rw.map id):=by rw[List.map_id];exact od.2.1.sl.mono (s1.sub _ iz.1)
 obtain⟨ha,oa⟩:=s1.va (b:=b) hb;clear od;have hs:=s1.rf;repeat' first|refine aq ?_;intros|with_reducible apply cK
 refine cM (aaU (dc.keys.mono (s1.sub 4)) (hm.seen.mono (s1.sub 4))) kQ hs.has ?_;rintro v xN w2 X2 ⟨e,rfl⟩ lK ko bH;have s2:=s1.since (hs.trans bH);replace hm:=hm.mv ((hs.trans bH).gY (s1.sub 4));clear hs bH ap4 ha s1;have hs:=s2.rf;cases e
 ·repeat' refine aq ?_;intros
  exact s2.fin λ_ _=>.inl ⟨gN,rfl⟩
 obtain⟨ha,oa⟩:=s2.va (b:=b) hb;repeat' refine aq ?_;intros
 refine s2.ap1 (tx b 0) (tx b 2) 0 (s2.h.act (b:=b) hb).1 (s2.h.act (b:=b) hb).2.2.1 (hm.seen.mono (s2.sub 4)) (λr hr u hu=>?_) (by simp only[af];omega) (λv=>ea (dN { n with ck:=gN } b { n.A b with x:= { (n.A b).x with vs:=v },sn:=(n.A b).sn++m.seen })) (λ_ _ _ _ h=>rq dQ h) (λ_ _ _ _ h=>rq dQ (by show Own _ _ 0 snT 7 _ (((n.A b).sn++m.seen).map fg.l);rw[List.map_append];exact h)) (λ_ _ _ _ _ h=>h) (λv'=>IE) (λv5 w5 X5 mY s5 m5=>?_) (wq:=by unfold tx;omega)
 ·obtain⟨x,_,rfl⟩:=List.mem_map.1 hr;simp only[List.mem_cons,List.not_mem_nil,or_false] at hu;rcases hu with rfl|rfl|rfl|rfl|rfl|rfl|rfl<;>rfl
 clear hs s2 ha;have hs:=s5.rf;obtain⟨ha,oa⟩:=s5.vs (n:= { n with ck:=gN }) hb;have hh:fu w5 (bZ mY 4) (n.A b).rw (n.A b).ws:=by have:=(s5.h.act (b:=b) hb).2.2.2.1;rw[jA] at this;exact this
 repeat' refine aq ?_;intros
 have od:=s5.h.act (b:=b) hb;rw[jA] at od;refine s5.ahF (tx b 0) (tx b 1) (tx b 3) od.1 od.2.1 (Ou (F:=X5) (od.2.1.mono (s5.sub _ iz.1)) (λ_ h=>h) (by show i<(n.A b).rw.length;omega) hh.Xz) (λv=>ea (dN { n with ck:=gN } b (qm (n.A b) i m v5 v ((n.A b).rw.take i++(n.A b).rw.drop (i+1))))) (λ_ _ _ _ h=>rq dQ h) (λ_ _ _ _ h=>rq dQ h)
  (λv' w' K A mv p=>rq dQ (by rw[wu _ _ _ dQ] at p;have p:=p hb;rw[jA] at p;exact⟨(hh.cut i).mv mv,p.2⟩)) (λv'=>Qy) (λv8 w8 X8 Su s8 m8=>?_) (wq:=by unfold tx;omega)
 clear hs ha od hh s5;have hs:=s8.rf;obtain⟨n3,sT⟩: ∃n3:br,n3= { dN n b (qm (n.A b) i m v5 v8 ((n.A b).rw.take i++(n.A b).rw.drop (i+1)))with ck:=gN } :=⟨_,rfl⟩;replace s8:Sn w0 own w8 X8 Su n3:=by rw[sT];exact s8
 have e3:n3.A b=qm (n.A b) i m v5 v8 ((n.A b).rw.take i++(n.A b).rw.drop (i+1))/\n3.nb=n.nb/\n3.ex=n.ex:=by rw[sT];exact⟨jA,rfl,rfl⟩
 have rW:n3.dE b:=by rw[sT];exact hb
 obtain⟨ha,oa⟩:=s8.va rW;have hl7:((n.A b).rw.take i++(n.A b).rw.drop (i+1)).length=(n.A b).ws.length-1:=by simp;omega
 have asr:Sl w8 X8 36 v8 (((n.A b).rw.take i++(n.A b).rw.drop (i+1)).map id):=by have:=(s8.h.act rW).2.1.sl.mono (s8.sub _ iz.1);rw[e3.1] at this;rw[List.map_id];exact this
 rw[e3.1] at ha;by_cases h1:(n.A b).ws.length=1
 ·have hq:=C8.q hw.pre;repeat' refine aI ?_;intros
  rw[<-e3.2.1];refine s8.call (Og (n:=n3) (b:=b) s8.h s8.x rW (by rw[e3.1];exact hw.pre) (by rw[e3.1];exact⟨hq.1,hq.2,C8.pq⟩) (by rw[e3.1];exact List.length_eq_zero_iff.1 (by simp[qm];omega)) (by rw[e3.1];simp[qm];omega) (by rw[sT];exact hk.ds) (by rw[sT];exact hi) (by rw[sT];show n.rm.length<=_;rw[hk.rm];simp) (by rw[sT];show n.ra.length<=_;rw[hk.ra];simp) (by rw[e3.1];exact C8.p)) kQ λv w4 X4 l7 n4 s4 q4 _=>?_;have s5:=s4.to (HU (e':=n.ex) λb' dO=>by
   rcases q4 with⟨_,_,_,_,_,_,rfl,_⟩|⟨_,_,_,_,_,_,_,_,_,_,_,_,rfl,_⟩
   ·show b'∈b::n3.ex;rw[e3.2.2];simp[dO]
   ·show b'∈n3.ex;rw[e3.2.2];exact dO)
  exact s5.fin λ_ _=>.inr (.inr ⟨b,i,y,gN,_,_,_,n3,hw,sT,.inr ⟨h1,n4,q4,rfl⟩⟩)
 ·repeat' refine aI ?_;intros
  exact s8.fin λ_ _=>.inr (.inr ⟨b,i,y,gN,_,_,_,n3,hw,sT,.inl ⟨h1,rfl⟩⟩)
end
def vA (n:Int):Prop:= -9223372036854775808<=n/\n<9223372036854775808
variable {n : Int}
theorem abT (h:vA n) (h0:0<=n):(xU n:Int)=2*n:=by
 unfold vA at h;unfold xU;rw[if_neg zQ];omega
theorem abU (h:vA n) (h0:n<0):(xU n:Int)= -1-2*n:=by
 unfold vA at h;unfold xU;rw[if_pos h0];omega
variable {u : Nat}
theorem abV (h:u<128):qx u=[u]:=by rw[qx,if_pos h]
theorem abW (h: ¬u<128):qx u=(u % 128+128)::qx (u/128):=by rw[qx,if_neg h]
variable {P : Program} {N : Value -> Prop} {t : TypeId} {z : Int} {c k : Nat}
theorem alL: ∀b:Nat,b<256->(aF 8 (b:Int)&&& aF 8 127).toNat=b % 128:=by decide+kernel
theorem ahG (hb:b<256) (h:N (.int .u8 ((b % 128:Nat):Int))):aY P X w (binOp .and t (.int .u8 (b:Int)) (.int .u8 127)) N:=
 MX (by
  have e:IntKind.u8.wrap (aF IntKind.u8.bits (b:Int)&&& aF IntKind.u8.bits 127).toNat=((b % 128:Nat):Int):=by
   rw[M4];have:=alL b hb
   show((aF 8 (b:Int)&&& aF 8 127).toNat:Int) % 256=_
   rw[this];omega
  grind)
theorem alM (hu:u<18446744073709551616) (h:N (.int .u64 ((u % 2:Nat):Int))):aY P X w (binOp .and t (.int .u64 (u:Int)) (.int .u64 1)) N:=
 MX (by
  have e:IntKind.u64.wrap (aF IntKind.u64.bits (u:Int)&&& aF IntKind.u64.bits 1).toNat=((u % 2:Nat):Int):=by
   rw[wrap64];have h1:(aF 64 (u:Int))=r6 64 u:=by simp
   have h2:(aF 64 1)=r6 64 1:=by decide
   show((aF 64 (u:Int)&&& aF 64 1).toNat:Int) % 18446744073709551616=_
   rw[h1,h2,BitVec.toNat_and,iL,iL,fz (by omega:u<2^64)];have:u&&& 1 % 2^64=u % 2:=Nat.and_one_is_mod u;rw[this];omega
  grind)
theorem alN {a b:Int} (h1: -9223372036854775808<=a*b) (h2:a*b<9223372036854775808) (h:N (I (a*b))):aY P X w (binOp .mul t (I a) (I b)) N:=
 Sg (by
  have e:IntKind.i64.wrap (a*b)=a*b:=by
   simp only[Ab,na,jZ];simp;omega
  grind)
theorem alO (k:Nat):2^(7*k)=128^k:=by rw[Nat.pow_mul]
theorem alP (hz:z=7*(k:Int)) (hk:k<=9) (hc:c*128^k<18446744073709551616) (h:N (.int .u64 ((c*128^k:Nat):Int))):aY P X w (binOp .shl t (.int .u64 (c:Int)) (I z)) N:=
 Sh zQ (by
  rw[wrap64];have e:((c:Int)*2^min z.toNat IntKind.u64.bits) % 18446744073709551616=((c*128^k:Nat):Int):=by
   have h1:min z.toNat IntKind.u64.bits=7*k:=by
    show min z.toNat 64=7*k
    omega
   rw[h1];have h2:(2:Int)^(7*k)=((128^k:Nat):Int):=by rw[<-alO];simp
   rw[h2,<-Int.natCast_mul];omega
  grind)
theorem akg (hz:z=7*(k:Int)) (hk:k<=9) (qJ:c<256) (hc:c*128^k<18446744073709551616) (h:N (.int .u64 ((c*128^k:Nat):Int))):aY P X w (binOp .shl t (.int .u64 (IntKind.u64.wrap (c:Int))) (I z)) N:=by
 have e:IntKind.u64.wrap (c:Int)=c:=by rw[wrap64];omega
 rw[e];exact alP hz hk hc h
theorem afs {a:Nat} (ha:a<2^k):a|||c*2^k=a+c*2^k:=by
 have:=Nat.two_pow_add_eq_or_of_lt ha c;rw[Nat.or_comm,Nat.add_comm,mZ];omega
theorem akh {a:Nat} (ha:a<128^k) (cI:a+c*128^k<18446744073709551616) (h:N (.int .u64 ((a+c*128^k:Nat):Int))):aY P X w (binOp .or t (.int .u64 (a:Int)) (.int .u64 ((c*128^k:Nat):Int))) N:=
 QK (by
  have e:IntKind.u64.wrap (aF IntKind.u64.bits (a:Int)|||aF IntKind.u64.bits ((c*128^k:Nat):Int)).toNat=((a+c*128^k:Nat):Int):=by
   rw[wrap64];have h1:(aF 64 (a:Int))=r6 64 a:=by simp
   have h2:(aF 64 ((c*128^k:Nat):Int))=r6 64 (c*128^k):=by rw[BitVec.ofInt_natCast]
   show((aF 64 (a:Int)|||aF 64 ((c*128^k:Nat):Int)).toNat:Int) % 18446744073709551616=_
   rw[h1,h2,BitVec.toNat_or,iL,iL,fz (by omega:a<2^64),fz (by omega:c*128^k<2^64)];have:a|||c*128^k=a+c*128^k:=by rw[<-alO] at ha⊢;exact afs ha
   rw[this];omega
  grind)
theorem alQ (h:N (.int .u64 ((u/2:Nat):Int))):aY P X w (binOp .shr t (.int .u64 (u:Int)) (.int .u64 1)) N:=
 Ez zQ (by
  have e:((u:Int)).fdiv (2^min (1:Int).toNat IntKind.u64.bits)=((u/2:Nat):Int):=by
   show((u:Int)).fdiv 2=_
   rw[Int.fdiv_eq_ediv_of_nonneg _ dQ];omega
  grind)
theorem Wc (hu:u<9223372036854775808):IntKind.i64.wrap (u:Int)=u:=by
 simp only[Ab,na,jZ];simp;omega
theorem alR (hu:u<9223372036854775808) (h:N (I (-1-(u:Int)))):aY P X w (Op.unary .xor (I (IntKind.i64.wrap (u:Int)))) N:=by
 rw[Wc hu];refine bK (v:=I (-1-(u:Int))) (λwa=>?_) h;have key:(aF 64 (-1)^^^aF 64 (u:Int)).toNat=18446744073709551615-u:=by
  have h1:aF 64 (-1)=BitVec.allOnes 64:=by decide
  have h2:(aF 64 (u:Int))=r6 64 u:=by simp
  rw[h1,h2,BitVec.allOnes_xor,BitVec.toNat_not,iL,fz zQ]
 have hk:(Op.unary .xor (I (u:Int))).run P wa= .ok (I (IntKind.i64.wrap (aF 64 (-1)^^^aF 64 (u:Int)).toNat)) wa:=by
  simp only[Op.unary,Op.intBits,jZ,na];rfl
 rw[hk,key];have:IntKind.i64.wrap ((18446744073709551615-u:Nat):Int)= -1-(u:Int):=by
  simp only[Ab,na,jZ];simp;omega
 rw[this]
structure BT (w:World) (X:XS) (rb:Nat) (vb:Value) (at_:Nat) (pl:Int) (bs:List Nat):Prop where
 box:aH w X rb [vb,I at_,I 0,I pl] 315
 ow:Ow w X 5 1 vb (bs.map U1)
 le:at_<=bs.length
 sz:bs.length<=2^40
 lt: ∀b∈bs,b<256
variable {bs : List Nat} {pl : Int} {vb : Value} {at_ rb : Nat}
def BT.mv {Y:XS} (h:BT w X rb vb at_ pl bs) (m:Mv X w Y w'):BT w' Y rb vb at_ pl bs:=⟨h.box.mv m,h.ow.mv m,h.le,h.sz,h.lt⟩
variable {gL : Nat}
theorem BT.next {pl':Int} (h:BT w X rb vb at_ pl bs) (c:dY (λk=>k=rb) X w X' w') (hr:aH w' X' rb [vb,I gL,I 0,I pl'] 315) (hl:gL<=bs.length):
  BT w' X' rb vb gL pl' bs:=⟨hr,h.ow.dT c λg hg e=>h.ow.eT h.box (by rfl) (e▸hg),hl,h.sz,h.lt⟩
variable {tl : List Nat}
theorem JV (h:BT w X rb vb at_ pl bs) (he:bs.drop at_=encI n++tl) (hn:vA n):
  Ct pg 325 #[ptr rb 0,I at_] w X nX λv _ _=>v= .tuple #[I n,I ((at_+(encI n).length:Nat):Int),B true]:=by
 intro w0 hk;replace h:=h.mv hk.cE;have hb:=h.box;have pf:=h.ow.sl;have gh:=h.sz;have hz:=afu n;refine HX.1 λhs=>?_;refine Bc (λm a b c w X=> ∃(k acc:Nat),a=I ((at_+k:Nat):Int)/\b= .int .u64 (acc:Int)/\c=B false/\m=10-k/\k<=9/\acc=xU n % 128^k/\(k=0\/128^k<=xU n)/\bs.drop (at_+k)=qx (xU n/128^k)++tl/\
  (encI n).length=k+(qx (xU n/128^k)).length/\ai (bP w0) w0 X w) 10 ⟨0,0,by simp,rfl,rfl,rfl,by omega,by omega,.inl rfl,by simpa [encI] using he,by simp[encI],hs⟩ ?_
 clear hs;rintro m a b c w X ⟨k,acc,rfl,rfl,rfl,rfl,aL,ahH,iy,hd,hlen,hs⟩;have hp:0<128^k:=Nat.pow_pos dQ;have T7:acc<128^k:=by rw[ahH];exact Nat.mod_lt _ hp
 generalize hq:xU n/128^k=q at hd hlen;have hzq:xU n=acc+q*128^k:=by rw[ahH,<-hq,mZ];exact(Nat.mod_add_div _ _).symm
 obtain⟨c,r,JW,T8⟩: ∃c r,qx q++tl=c::r/\((q<128/\c=q)\/(¬q<128/\c=q % 128+128/\r=qx (q/128)++tl)):=by
  by_cases h1:q<128
  ·exact⟨q,tl,by rw[abV h1];rfl,.inl ⟨h1,rfl⟩⟩
  ·exact⟨_,_,by rw[abW h1];rfl,.inr ⟨h1,rfl,rfl⟩⟩
 rw[JW] at hd;have hx:bs[at_+k]? =some c:=by
  have:=congrArg (λl:List Nat=>l[0]?) hd;simpa using this
 have cI:at_+k<bs.length:=(List.getElem?_eq_some_iff.1 hx).1;have aor:=h.lt c (av hx);have alS:k=9->q<=1:=λe=>by
  subst e;have:q*128^9<18446744073709551616:=by omega
  omega
 have iq:c % 128=q % 128:=by rcases T8 with⟨h1,rfl⟩|⟨h1,rfl,_⟩<;>omega
 have mc:c % 128*128^k<=q*128^k:=bR _ (by rw[iq];exact Nat.mod_le _ _);have he1:k=9->c % 128<=1:=λe=>by have:=alS e;omega
 have ux:q<128->(encI n).length=k+1/\c=q:=λh1=>⟨by rw[hlen,abV h1];rfl,by rcases T8 with⟨_,e⟩|⟨h2,_⟩;exact e;exact absurd h1 h2⟩
 have xd:c=0->k=0:=λe=>by
  rcases iy with h1|h1
  ·exact h1
  ·have:1<=q:=by rw[<-hq];exact Nat.div_pos h1 hp
   rcases T8 with⟨_,e2⟩|⟨_,e2,_⟩<;>omega
 have hc9:k=9->c<128:=λe=>by
  have:=alS e;rcases T8 with⟨_,e2⟩|⟨h2,_,_⟩<;>omega
 have hS:c<128->acc+c % 128*128^k=xU n/\(encI n).length=k+1:=λh1=>by
  have h2:q<128:=by rcases T8 with⟨h2,_⟩|⟨_,h2,_⟩<;>omega
  rw[iq,fz h2];exact⟨hzq.symm,(ux h2).1⟩
 have kV:c<128->(acc+c % 128*128^k) % 2=1->(-1-(((acc+c % 128*128^k)/2:Nat):Int))=n:=λh1 h2=>by
  rw[(hS h1).1] at h2⊢;by_cases h3:n<0
  ·have:=abU hn h3;omega
  ·have:=abT hn zQ;omega
 have rX:c<128-> ¬(acc+c % 128*128^k) % 2=1->IntKind.i64.wrap (((acc+c % 128*128^k)/2:Nat):Int)=n:=λh1 h2=>by
  rw[(hS h1).1] at h2⊢;rw[Wc zQ];by_cases h3:n<0
  ·have:=abU hn h3;omega
  ·have:=abT hn zQ;omega
 have HO:c<128->((at_+k:Nat):Int)+1=((at_+(encI n).length:Nat):Int):=λh1=>by rw[(hS h1).2];omega
 repeat' first|refine aI ?_;intros|refine dg ?_ ?_<;>intros|with_reducible apply cK|(with_reducible refine ahG aor ?_)|(with_reducible refine alN zQ zQ ?_)|((with_reducible refine akg (k:=k) zQ aL zQ zQ ?_))|((with_reducible refine akh T7 zQ ?_))|(with_reducible apply alQ)|((with_reducible refine alM zQ ?_))|((with_reducible refine alR zQ ?_))|(refine qr ?_;intro wa hk;(rw[kV zQ zQ,HO zQ]))|(refine qr ?_;intro wa hk;(rw[rX zQ zQ,HO zQ]))
 have dC: ¬q<128:=λh1=>by have:=(ux h1).2;omega
 obtain⟨AR,jY⟩:c=q % 128+128/\r=qx (q/128)++tl:=by
  rcases T8 with⟨h1,_⟩|⟨_,h2,h3⟩
  ·exact absurd h1 dC
  ·exact⟨h2,h3⟩
 have nK:128^(k+1)=128^k*128:=Nat.pow_succ ..;have hqd:xU n/128^(k+1)=q/128:=by rw[nK,<-Nat.div_div_eq_div_mul,hq]
 refine xV (10-(k+1)) zQ ⟨k+1,acc+c % 128*128^k,by rfl,rfl,rfl,rfl,by omega,?_,.inr ?_,?_,?_,hs⟩
 ·rw[nK,Nat.mod_mul,hq,iq,ahH,mZ (128^k)]
 ·rw[nK,hzq];have:128*128^k<=q*128^k:=bR _ zQ;omega
 ·rw[hqd,<-jY,<-Nat.add_assoc,<-iu,hd];rfl
 ·rw[hqd,hlen,abW dC,aJ];omega
variable {v : Value} {e : Nat}
theorem Xv {t:Nat} {z':Int} {j:Nat} (h:Ow w X e k v rows) (cu:rows≠[]) (hz:z=i) (tg:z'=j) (wq:i<=j) (hj:j<=rows.length)
  (ht:P.underlying t=some (.slice (P.elem t))) (hs:(P.info? (P.elem t)).map (·.size)=some k)
  (n: ∀b o cap,Cells w X b o ((rows.drop i).take (j-i)).flatten->j-i<=cap->cap<=2^63-1->N (.slice (some ⟨b,o,none⟩) (j-i) cap)):aY P X w (Instr.sliceAt t v (some (.int .i64 z)) (some (.int .i64 z')) none) N:=by
 subst hz;subst tg;obtain⟨h1,⟨rfl,rfl⟩|⟨g,off,cap,cur,rfl,hx,hg,ql,iq,jS,tW⟩⟩:=h
 ·exact absurd rfl cu
 have hq: ∃inf,P.info? (P.elem t)=some inf/\inf.size=k:=by
  cases hq:P.info? (P.elem t)with
  |none=>simp[hq] at hs
  |some inf=>exact⟨inf,rfl,by simpa [hq] using hs⟩
 obtain⟨inf,hq,gh⟩:=hq;have Ci:cap<=2^63-1:=ad iq dQ;have oN: ∀wa:World,(Instr.sliceAt t (.slice (some ⟨g,off,none⟩) rows.length cap) (some (.int .i64 (i:Int))) (some (.int .i64 (j:Int))) none).run P wa= .ok (.slice (some ⟨g,if cap=i then off else off+i*k,none⟩) (j-i) (cap-i)) wa:=λwa=>by
  rw[run_sliceAt_slice wa t _ _ _ _ ht,run_slice_lh wa t _ _ cap ht .i64 .i64 i j zQ zQ zQ];by_cases hc:cap=i
  ·simp[sizeOf,typeInfo,hq,gh,sliced,hc]
  ·simp[sizeOf,typeInfo,hq,gh,sliced,Addr.add_lit,hc]
 refine bK oN (n _ _ _ ⟨hx,cur,e,(0,0),hg,λq u hu=>?_⟩ zQ zQ);have hr: ∀r∈rows.drop i,r.length=k:=λr hr=>h1 r (di hr);rw[aK.mf (j-i) hr,aK.C9 i h1,<-tW] at hu;have hql:q<(j-i)*k:=by
  have:=(List.getElem?_eq_some_iff.1 hu).1;simp only[aD] at this;omega
 rw[fU hql,ee] at hu;have lU:i*k+q<rows.length*k:=by
  have h3:i*k+(j-i)*k=j*k:=by rw[<-jm];congr 1;omega
  have h4:=bR k hj;omega
 rw[fU lU,ee] at hu;rw[Array.getElem?_toList] at hu;by_cases hc:cap=i
 ·exfalso;have:j-i=0:=by omega
  rw[this] at hql;simp at hql
 ·rw[if_neg hc];rw[<-Nat.add_assoc] at hu;exact hu
def ahI (f:FuncId) (args:Array Value) (w:World) (X:XS) (rb:Nat) (vb:Value) (gL:Nat) (pl:Int) (res:Value):Prop:=
 Ct pg f args w X (λk=>k=rb) λv _ w'=>v=res/\aH w' (λk=>k=rb) rb [vb,I gL,I 0,I pl] 315
theorem BT.ft (h:BT w X rb vb at_ pl bs) (hk:Kp X w w0):Ft w0 (λk=>k=rb) w0 (bP w0) (λk=>k=rb):=
 Ft.init λk e=>by subst e;exact(h.mv hk.cE).box.1
theorem ahJ (h:BT w X rb vb at_ pl bs) (he:bs.drop at_=encI n++tl) (hn:vA n):
  ahI 261 #[ptr rb 0] w X rb vb (at_+(encI n).length) pl (I n):=by
 intro w0 hk;have hT:=h.ft hk;replace h:=h.mv hk.cE;have hb:=h.box;refine Li.1 λ_=>?_;repeat' refine aI ?_;intros
 refine ff (JV h he hn) kQ hT.s.has λw1 X1 aB=>?_;have eo:=hT.since aB;have mc:=hb.since aB;repeat' first|refine aq ?_;intros|with_reducible apply cK
 refine qo (o:=1) mc zQ kQ sQ rfl eo.s.has λw2 X2 c2 jJ=>?_;have da:Ft w0 (λk=>k=rb) w2 X2 (λk=>k=rb):=eo.dT c2 (λk ah=>ah) λk ah=>.inl ah
 skip
 exact da.fin λwa aL=>⟨rfl,rfl,by rw[aL.block _ jJ.1];exact jJ.2⟩
variable {most : Int}
theorem ade {e:Int} {n:Nat} (h:BT w X rb vb at_ pl bs) (he:bs.drop at_=encI n++tl) (hn:(n:Int)<=most) (hm:most<2^62):
  Ct pg 330 #[ptr rb 0,I most,I e] w X nX λv _ _=>v= .tuple #[I n,I ((at_+(encI n).length:Nat):Int),B true]:=by
 intro w0 hk;replace h:=h.mv hk.cE;have hb:=h.box;refine II.1 λhs=>?_;repeat' refine aq ?_;intros
 refine ff (JV h he (by unfold vA;omega)) kQ hs.has λw1 X1 aB=>?_;have hs:=hs.trans aB;repeat' refine aI ?_;intros
 exact cH hs λwa aL=>rfl
theorem adf {n:Nat} (h:BT w X rb vb at_ pl bs) (he:bs.drop at_=encI n++tl) (hn:(n:Int)<=most) (hm:most<2^62):
  ahI 269 #[ptr rb 0,I most] w X rb vb (at_+(encI n).length) pl (I n):=by
 intro w0 hk;have hT:=h.ft hk;replace h:=h.mv hk.cE;have hb:=h.box;refine IJ.1 λ_=>?_;repeat' refine aI ?_;intros
 refine ff (ade h he hn hm) kQ hT.s.has λw1 X1 aB=>?_;have eo:=hT.since aB;have mc:=hb.since aB;repeat' first|refine aq ?_;intros|with_reducible apply cK
 refine qo (o:=1) mc zQ kQ sQ rfl eo.s.has λw2 X2 c2 jJ=>?_;have da:Ft w0 (λk=>k=rb) w2 X2 (λk=>k=rb):=eo.dT c2 (λk ah=>ah) λk ah=>.inl ah
 skip
 exact da.fin λwa aL=>⟨rfl,rfl,by rw[aL.block _ jJ.1];exact jJ.2⟩
theorem afv: ∀l:List Nat,(l.map U1).flatten=l.map λx:Nat=>Value.int .u8 x
 |[]=>rfl
 |x::l=>by rw[List.map_cons,dd,afv l];rfl
theorem afw (h:BT w X rb vb at_ pl bs):
  Ct pg 270 #[ptr rb 0] w X nX λv _ _=>v=I ((bs.length:Int)-at_):=by
 intro w0 hk;replace h:=h.mv hk.cE;have hb:=h.box;have pf:=h.ow.sl;have gh:=h.sz;have hle:=h.le;refine Kh.1 λhs=>?_;repeat' refine aI ?_;intros
 exact cH hs λwa aL=>rfl
theorem QL (h:BT w X rb vb at_ pl bs):
  Ct pg 195 #[ptr rb 0] w X nX λv _ _=>v= .tuple #[I 0,I pl]:=by
 intro w0 hk;replace h:=h.mv hk.cE;have hb:=h.box;refine IK.1 λhs=>?_;repeat' refine aq ?_;intros
 exact cH hs λwa aL=>rfl
theorem ahK (h:BT w X rb vb at_ pl bs) (he:at_=bs.length):
  Ct pg 135 #[ptr rb 0] w X nX λv _ _=>v= .tuple #[I 0,I pl]:=by
 intro w0 hk;replace h:=h.mv hk.cE;have hb:=h.box;have pf:=h.ow.sl;have gh:=h.sz;refine Lj.1 λhs=>?_;repeat' refine aI ?_;intros
 refine ff (QL (h.mv hs.mv)) kQ hs.has λw1 X1 aB=>?_;have hs:=hs.trans aB;repeat' refine aq ?_;intros
 exact cH hs λwa aL=>rfl
theorem ahL {v0:Value} (h:Sl w X 1 v0 (bs.map U1)) (gh:bs.length<=2^40) (cI: ∀b∈bs,b<256):
  Ct pg 133 #[v0] w X nX λv wa w'=> ∃rb vb,v=ptr rb 0/\BT w' (made wa w') rb vb 0 0 bs:=by
 intro w0 hk;replace h:=h.mv hk.cE;refine Ny.1 λhs=>?_;repeat' first|(with_reducible apply adg);(case hX=>exact hs.has);(case hu=>kernel_rfl);(case hz=>kernel_rfl);intro acc w X aB ho;replace hs:=hs.trans aB
 refine qK ho hs (λ_ h=>h) kQ (h.mv hs.mv) (λr hr u hu=>?_) oQ oQ λv1 w1 X1 XA vz Gq ass=>?_
 ·obtain⟨x,_,rfl⟩:=List.mem_map.1 hr;simp at hu;subst hu;rfl
 clear hs aB;have hs:=XA;obtain⟨b1,n1,c1,rfl⟩:=vz.sl.form;repeat' first|refine aq ?_;intros|(refine Oq hs ?_;intro bx w X gn aB gw hs bt)
 have hz:=XA.kp.size;refine cH gw λwa aL=>⟨bx,.slice b1 n1 c1,rfl,⟨⟨⟨by omega,?_⟩,?_⟩,?_,ak _,gh,cI⟩⟩
 ·have:=aB.has bx bt.1;have:=aL.size;omega
 ·rw[aL.block _ bt.1];exact bt.2
 ·exact((vz.since aB).kp aL).tight.ow
theorem Cj (cs:List Value) (o:Nat) (l:List Value) (h:o+l.length<=cs.length):(bM cs o l).length=cs.length:=by
 unfold bM;simp only[aa,aD,cj];omega
theorem T9 (cs:List Value) (o:Nat) (a b:List Value) (h:o+a.length+b.length<=cs.length):bM (bM cs o a) (o+a.length) b=bM cs o (a++b):=by
 unfold bM;have h1:(cs.take o).length=o:=by rw[aD];omega
 have e1:(cs.take o++a++cs.drop (o+a.length)).take (o+a.length)=cs.take o++a:=by
  rw[im (by rw[aa,h1])]
 have e2:(cs.take o++a++cs.drop (o+a.length)).drop (o+a.length+b.length)=cs.drop (o+(a++b).length):=by
  rw[<-iu,ka (by rw[aa,h1]),iu,aa]
  congr 1;omega
 rw[e1,e2];simp only[ao]
abbrev alT (rb:Nat):List Value:=[.pointer none,ptr rb 0]
structure RB (w:World) (X:XS) (rb:Nat) (vb:Value) (at_:Nat) (pl:Int) (bs:List Nat) (cb xb:Nat) (cs:List Value) (ty:TypeId):Prop where
 r:BT w X rb vb at_ pl bs
 x:aH w X xb cs ty
 c:Cells w X cb 0 (alT rb)
 c1:cb≠rb
 c2:cb≠xb
 rx:rb≠xb
 vx: ¬fv vb xb
structure RS (w0 w:World) (X:XS) (rb:Nat) (vb:Value) (at_:Nat) (pl:Int) (bs:List Nat) (cb xb:Nat) (cs:List Value) (ty:TypeId):Prop extends RB w X rb vb at_ pl bs cb xb cs ty where
 t:Ft w0 (λk=>k=rb\/k=xb) w X (λk=>k=rb\/k=xb)
def RdC (f:FuncId) (args:Array Value) (w:World) (X:XS) (rb:Nat) (vb:Value) (gL:Nat) (pl:Int) (xb:Nat) (qh:List Value) (ty:TypeId):Prop:=
 Ct pg f args w X (λk=>k=rb\/k=xb) λv _ w'=>v= .tuple #[]/\aH w' (λk=>k=rb) rb [vb,I gL,I 0,I pl] 315/\aH w' (λk=>k=xb) xb qh ty
variable {o xb xo : Nat} {cs qh : List Value} {ty : TypeId}
section
theorem RB.start (h:RB w X rb vb at_ pl bs cb xb cs ty) (hk:Kp X w wa):RS wa wa (bP wa) rb vb at_ pl bs cb xb cs ty:=
 ⟨⟨h.r.mv hk.cE,h.x.mv hk.cE,h.c.mv hk.cE,h.c1,h.c2,h.rx,h.vx⟩,Ft.init λk e=>by rcases e with rfl|rfl;exact(h.r.mv hk.cE).box.1;exact(h.x.mv hk.cE).1⟩
def RS.since (h:RS w0 w X rb vb at_ pl bs cb xb cs ty) (hs:ai X w X' w'):RS w0 w' X' rb vb at_ pl bs cb xb cs ty:=
 ⟨⟨h.r.mv hs.mv,h.x.since hs,h.c.mv hs.mv,h.c1,h.c2,h.rx,h.vx⟩,h.t.since hs⟩
theorem _root_.Go.aK.Cells.dT {l:List Value} (h:Cells w X b o l) (c:dY F X w X' w') (hn: ¬F b):Cells w' X' b o l:=by
 obtain⟨hx,cs,t,fr,hb,hc⟩:=h;exact⟨c.sub b hx,cs,t,fr,by rw[c.block b hx hn];exact hb,hc⟩
def RS.ap5 (h:RS w0 w X rb vb at_ pl bs cb xb cs ty) (c:dY (λk=>k=rb) X w X' w') (hr:aH w' X' rb [vb,I gL,I 0,I pl] 315) (hl:gL<=bs.length):RS w0 w' X' rb vb gL pl bs cb xb cs ty:=
 ⟨⟨h.r.next c hr hl,h.x.dT c (λe=>h.rx e.symm),h.c.dT c h.c1,h.c1,h.c2,h.rx,h.vx⟩,h.t.dT c (λ_ e=>.inl e) λk e=>.inl e⟩
def RS.ahM (h:RS w0 w X rb vb at_ pl bs cb xb cs ty) (c:dY (λk=>k=xb) X w X' w') (hr:aH w' X' xb qh ty):RS w0 w' X' rb vb at_ pl bs cb xb qh ty:=
 ⟨⟨⟨h.r.box.dT c h.rx,h.r.ow.dT c λg hg e=>h.vx (e▸hg),h.r.le,h.r.sz,h.r.lt⟩,hr,h.c.dT c h.c2,h.c1,h.c2,h.rx,h.vx⟩,h.t.dT c (λ_ e=>.inr e) λk e=>.inl e⟩
def RB.Pb (h:RB w X rb vb at_ pl bs cb xb cs ty) (c:dY (λk=>k=rb\/k=xb) X w X' w') (hr:aH w' X' rb [vb,I gL,I 0,I pl] 315) (hl:gL<=bs.length) (hx:aH w' X' xb qh ty):RB w' X' rb vb gL pl bs cb xb qh ty:=
 ⟨⟨hr,h.r.ow.dT c λg hg e=>e.elim (λe=>h.r.ow.eT h.r.box kQ (e▸hg)) λe=>h.vx (e▸hg),hl,h.r.sz,h.r.lt⟩,hx,h.c.dT c λe=>e.elim h.c1 h.c2,h.c1,h.c2,h.rx,h.vx⟩
def RS.Pb (h:RS w0 w X rb vb at_ pl bs cb xb cs ty) (c:dY (λk=>k=rb\/k=xb) X w X' w') (hr:aH w' X' rb [vb,I gL,I 0,I pl] 315) (hl:gL<=bs.length) (hx:aH w' X' xb qh ty):RS w0 w' X' rb vb gL pl bs cb xb qh ty:=
 ⟨h.toRB.Pb c hr hl hx,h.t.dT c (λ_ e=>e) λk e=>.inl e⟩
variable {f : FuncId} {args : Array Value} {N : Value -> World -> XS -> Prop}
theorem RS.read {res:Value} (h:RS w0 w X rb vb at_ pl bs cb xb cs ty) (hc:ahI f args w X rb vb gL pl res) (hf:enters pg f=true) (hl:gL<=bs.length)
  (k: ∀w' X',RS w0 w' X' rb vb gL pl bs cb xb cs ty->N res w' X'):eC pg R X w true f args N:=
 xQ hc hf h.t.s.has (λk e=>e▸h.r.box.1) λv wa w' X' ⟨hv,hr⟩ _ _ _ c=>by subst hv;exact k w' X' (h.ap5 c ⟨c.sub _ h.r.box.1,hr.2⟩ hl)
theorem RS.call (h:RS w0 w X rb vb at_ pl bs cb xb cs ty) (hc:RdC f args w X rb vb gL pl xb qh ty) (hf:enters pg f=true) (hl:gL<=bs.length)
  (k: ∀w' X',RS w0 w' X' rb vb gL pl bs cb xb qh ty->N (.tuple #[]) w' X'):eC pg R X w true f args N:=
 xQ hc hf h.t.s.has (λk e=>e.elim (λe=>e▸h.r.box.1) λe=>e▸h.x.1) λv wa w' X' ⟨hv,hr,hx⟩ _ _ _ c=>by
  subst hv;exact k w' X' (h.Pb c ⟨c.sub _ h.r.box.1,hr.2⟩ hl ⟨c.sub _ h.x.1,hx.2⟩)
theorem RS.out (h:RS w0 w X rb vb at_ pl bs cb xb cs ty) (hk:Kp X w wa):dq #[]=dq #[]/\aH wa (λk=>k=rb) rb [vb,I at_,I 0,I pl] 315/\aH wa (λk=>k=xb) xb cs ty:=
 ⟨rfl,⟨rfl,by rw[hk.block _ h.r.box.1];exact h.r.box.2⟩,⟨rfl,by rw[hk.block _ h.x.1];exact h.x.2⟩⟩
theorem Ua (h:RB w X rb vb at_ pl bs cb xb cs ty):Ct pg 262 #[ptr cb 0] w X nX λv _ _=>v= .tuple #[]:=by
 intro wi hk;have hS:=h.start hk;have hc:=hS.c;refine Ki.1 λ_=>?_;have hs:=ai.init wi;repeat' refine aq ?_;intros
 refine ff (QL (hS.r.mv hs.mv)) kQ hs.has λw1 X1 aB=>?_;have hs:=hs.trans aB;repeat' refine aI ?_;intros
 exact cH hs λwa aL=>rfl
theorem RB.nq {a b:List Nat} (h:RB w X rb vb at_ pl bs cb xb cs ty) (he:bs.drop at_=a++b):at_+a.length<=bs.length:=by
 have h1:=congrArg bB he;rw[cj,aa] at h1;have h2:=h.r.le;omega
theorem rJ {a b:List Nat} (he:bs.drop at_=a++b):bs.drop (at_+a.length)=b:=by
 rw[<-iu,he,List.drop_left]
theorem pR (h:RB w X rb vb at_ pl bs cb xb cs ty) (he:bs.drop at_=encI n++tl) (hn:vA n) (ho:xo+1<=cs.length):
  RdC 183 #[ptr cb 0,ptr xb xo] w X rb vb (at_+(encI n).length) pl xb (bM cs xo [I n]) ty:=by
 intro wi hk;have hS:=h.start hk;have hc:=hS.c;have E8:=hS.nq he;refine Da.1 λ_=>?_;have hs:=ai.fL hS.t.s.has;repeat' refine aq ?_;intros
 refine hS.read (ahJ hS.r he hn) kQ E8 λw1 X1 mn=>?_;clear hs;have hs:=ai.fL mn.t.s.has;repeat' refine aq ?_;intros
 refine Gn (o:=xo) mn.x rfl kQ ho rfl rfl mn.t.s.has λw2 X2 c2 jJ=>?_;have bf:=mn.ahM c2 jJ;refine ff (Ua bf.toRB) kQ bf.t.s.has λw3 X3 dt=>?_;have cx:=bf.since dt;clear hs;have hs:=ai.fL cx.t.s.has
 skip
 exact cx.t.fin λwa aL=>cx.out aL
theorem afx (cs:List Value) (o:Nat) (a b c:Value) (h:o+3<=cs.length):bM (bM (bM cs o [a]) (o+1) [b]) (o+2) [c]=bM cs o [a,b,c]:=by
 have h1:=T9 cs o [a] [b] oQ;have h2:=T9 cs o ([a]++[b]) [c] oQ;simp only[aJ,bL,List.cons_append,bp] at h1 h2;rw[<-h2,<-h1]
theorem ajF {a b c:Int} (he:bs.drop at_=(encI a++encI b++encI c)++tl):bs.drop at_=encI a++(encI b++(encI c++tl)):=by rw[he];simp only[ao]
def adh (s:cn):Prop:=vA s.wall/\vA s.dA/\vA s.node
def DE (t:bX):Prop:=vA t.dW/\vA t.aR/\vA t.sq
theorem aaV {s:cn} (h:RB w X rb vb at_ pl bs cb xb cs ty) (he:bs.drop at_=lL s++tl) (hn:adh s) (ho:xo+3<=cs.length):
  RdC 189 #[ptr cb 0,ptr xb xo] w X rb vb (at_+(lL s).length) pl xb (bM cs xo [I s.wall,I s.dA,I s.node]) ty:=by
 intro wi hk;have hS:=h.start hk;have e1:bs.drop at_=encI s.wall++(encI s.dA++(encI s.node++tl)):=ajF he;have e2:=rJ e1;have e3:=rJ e2;have yV:(bM cs xo [I s.wall]).length=cs.length:=Cj _ _ _ oQ;have wo:(bM (bM cs xo [I s.wall]) (xo+1) [I s.dA]).length=cs.length:=(Cj _ _ _ (by simp[yV];omega)).trans yV;refine Bd.1 λ_=>?_;repeat' first|refine aq ?_;intros|(with_reducible refine sc kQ kQ ?_)
 refine hS.call (pR (xo:=xo) hS.toRB e1 hn.1 zQ) kQ (hS.nq e1) λw1 X1 mn=>?_;repeat' first|refine aq ?_;intros|(with_reducible refine sc kQ kQ ?_)
 refine mn.call (pR mn.toRB e2 hn.2.1 zQ) kQ (mn.nq e2) λw2 X2 bf=>?_;repeat' first|refine aq ?_;intros|(with_reducible refine sc kQ kQ ?_)
 refine bf.call (pR bf.toRB e3 hn.2.2 zQ) kQ (bf.nq e3) λw3 X3 cx=>?_
 skip
 rw[afx _ _ _ _ _ ho] at cx;have e:at_+(encI s.wall).length+(encI s.dA).length+(encI s.node).length=at_+(lL s).length:=by unfold lL;simp only[aa];omega
 rw[e] at cx;exact cx.t.fin λwa aL=>cx.out aL
theorem Ub {s:bX} (h:RB w X rb vb at_ pl bs cb xb cs ty) (he:bs.drop at_=oq s++tl) (hn:DE s) (ho:xo+3<=cs.length):
  RdC 187 #[ptr cb 0,ptr xb xo] w X rb vb (at_+(oq s).length) pl xb (bM cs xo [I s.dW,I s.aR,I s.sq]) ty:=by
 intro wi hk;have hS:=h.start hk;have e1:bs.drop at_=encI s.dW++(encI s.aR++(encI s.sq++tl)):=ajF he;have e2:=rJ e1;have e3:=rJ e2;have yV:(bM cs xo [I s.dW]).length=cs.length:=Cj _ _ _ oQ;have wo:(bM (bM cs xo [I s.dW]) (xo+1) [I s.aR]).length=cs.length:=(Cj _ _ _ (by simp[yV];omega)).trans yV;refine Db.1 λ_=>?_;repeat' first|refine aq ?_;intros|(with_reducible refine sc kQ kQ ?_)
 refine hS.call (pR (xo:=xo) hS.toRB e1 hn.1 zQ) kQ (hS.nq e1) λw1 X1 mn=>?_;repeat' first|refine aq ?_;intros|(with_reducible refine sc kQ kQ ?_)
 refine mn.call (pR mn.toRB e2 hn.2.1 zQ) kQ (mn.nq e2) λw2 X2 bf=>?_;repeat' first|refine aq ?_;intros|(with_reducible refine sc kQ kQ ?_)
 refine bf.call (pR bf.toRB e3 hn.2.2 zQ) kQ (bf.nq e3) λw3 X3 cx=>?_
 skip
 rw[afx _ _ _ _ _ ho] at cx;have e:at_+(encI s.dW).length+(encI s.aR).length+(encI s.sq).length=at_+(oq s).length:=by unfold oq;simp only[aa];omega
 rw[e] at cx;exact cx.t.fin λwa aL=>cx.out aL
end
def inV (v:gO):Prop:=v.may=true/\v.num<18446744073709551616
theorem inV.kind {v:gO} (h:inV v):v=gO.zero\/(v.kind=1/\v.text=⟨#[]⟩/\v.num=canon v.num)\/(v.kind=2/\v.num=0/\v.text.size<=64):=by
 obtain⟨h,_⟩:=h;unfold gO.may at h;split at h
 ·rename_i h0;simp only[aA,decide_eq_true_eq] at h;exact .inl (gO.ext h0 h.1 h.2)
 ·split at h
  ·rename_i h1;simp only[aA,decide_eq_true_eq] at h;exact .inr (.inl ⟨h1,h.1,h.2⟩)
  ·split at h
   ·rename_i h2;simp only[aA,decide_eq_true_eq] at h;exact .inr (.inr ⟨h2,h.1,by omega⟩)
   ·cases h
theorem ahN {t lo:Nat} {r:List Value} (h:Own w X lo e k v (rows++[r])) (hz:z=rows.length)
  (ht:P.underlying t=some (.slice (P.elem t))) (hs:(P.info? (P.elem t)).map (·.size)=some k)
  (n: ∀g cs,aH w X g cs e->lo<=g->v.ownBlock=some g->rows.length*k+k<=cs.length->cs.take (rows.length*k)=rows.flatten->
   (∀w' X' r',r'.length=k->aH w' X' g (bM cs (rows.length*k) r') e->Own w' X' lo e k v (rows++[r']))->N (ptr g (rows.length*k))):aY P X w (nW t k v (.int .i64 z)) N:=by
 subst hz;have pf:=h.sl;obtain⟨h1,h2,h3⟩:=h;have hlr:(rows++[r]).length=rows.length+1:=by simp
 rcases h2.2 with⟨rfl,hn⟩|⟨g,cap,cur,rfl,hb,hg,ql,iq,jS,tW⟩
 ·rw[hlr] at hn;cases hn
 rw[hlr] at ql tW;have sP:(rows.length+1)*k=rows.length*k+k:=Nat.succ_mul _ _;have A9:(rows.length+1)*k<=cap*k:=bR k ql;have iP:rows.flatten.length=rows.length*k:=by
  have h4: ∀x∈rows,x.length=k:=λx hx=>h1 x (bq _ hx);exact kK h4
 have alU:cur.toList.take (rows.length*k)=rows.flatten:=by
  have:=congrArg (zV (rows.length*k)) tW;rw[xR,kJ zQ,dX,im iP] at this;exact this
 have qI:cur.toList.length=cur.size:=Array.length_toList;have hA:rows.length*k+k<=cur.toList.length:=by rw[qI,jS,<-sP];exact A9
 unfold nW;refine bK (λwa=>?_) (n g cur.toList ⟨h3 g rfl,by simpa using hg⟩ hb rfl hA alU ?_)
 ·rw[run_indexAt_slice (h:=ht),if_pos (by rw[hlr];omega)];cases hq:P.info? (P.elem t)with
  |none=>simp[hq] at hs
  |some inf=>
   have:inf.size=k:=by simpa [hq] using hs
   simp[sizeOf,typeInfo,hq,this,z8]
 ·intro w' X' r' jY bt;refine⟨λx hx=>?_,⟨?_,.inr ⟨g,cap,(bM cur.toList (rows.length*k) r').toArray,?_,hb,bt.2,by rw[aa];exact ql,iq,?_,?_⟩⟩,λq hq=>?_⟩
  ·rcases List.mem_append.1 hx with hx|hx
   ·exact h1 x (bq _ hx)
   ·simp only[List.mem_singleton] at hx;subst hx;exact jY
  ·rw[dX,aa,iP];simp[jY,sP]
  ·rw[aa,aa];rfl
  ·rw[List.size_toArray,Cj _ _ _ (by rw[jY];exact hA),qI];exact jS
  ·show zV _ (bM _ _ _)=_
   unfold bM;rw[aa,List.length_singleton,sP,dX,alU];simp only[dd,List.flatten_nil,List.append_nil];rw[im (by rw[aa,iP,jY])]
  ·cases hq;exact bt.1
abbrev kr:Value:=.slice none 0 0
structure adi (w0:World) (rb:Nat) (vb:Value) (cb xb:Nat):Prop where
 r:rb<w0.heap.size
 x:xb<w0.heap.size
 c:cb<w0.heap.size
 v: ∀g,fv vb g->g<w0.heap.size
def RS.aos (h:RS w0 w0 (bP w0) rb vb at_ pl bs cb xb cs ty):adi w0 rb vb cb xb:=⟨h.r.box.1,h.x.1,h.c.1,λg hg=>(h.r.ow.bg hg).1⟩
theorem RS.ap6 {G:XS} (h:RS w0 w X rb vb at_ pl bs cb xb cs ty) (e:adi w0 rb vb cb xb) (c:dY G X w X' w') (hG: ∀k,G k->X k/\w0.heap.size<=k):RS w0 w' X' rb vb at_ pl bs cb xb cs ty:=by
 have no: ∀{k},k<w0.heap.size-> ¬G k:=λhk hg=>by have:=(hG _ hg).2;omega
 refine⟨⟨⟨h.r.box.dT c (no e.r),h.r.ow.dT c λg hg vj=>no (e.v g hg) vj,h.r.le,h.r.sz,h.r.lt⟩,h.x.dT c (no e.x),h.c.dT c (no e.c),h.c1,h.c2,h.rx,h.vx⟩,?_⟩;exact(h.t.more (F':=λk=>(k=rb\/k=xb)\/G k) λk hk=>hk.imp id λhg=>hG k hg).dT c (λk hg=>.inr hg) λk hk=>.inl (.inl hk)
theorem RS.aot {g:Nat} (h:RS w0 w X rb vb at_ pl bs cb xb cs ty) (e:adi w0 rb vb cb xb) (c:dY (λk=>k=rb\/k=g) X w X' w') (hg:X g/\w0.heap.size<=g) (hr:aH w' X' rb [vb,I gL,I 0,I pl] 315) (hl:gL<=bs.length):RS w0 w' X' rb vb gL pl bs cb xb cs ty:=by
 have ex:=e.x;have ec:=e.c;have er:=e.r;refine⟨⟨⟨hr,h.r.ow.dT c λq hq zx=>zx.elim (λe2=>h.r.ow.eT h.r.box kQ (e2▸hq)) λe2=>by have:=e.v q hq;omega,hl,h.r.sz,h.r.lt⟩,h.x.dT c (λe2=>e2.elim (λe2=>h.rx e2.symm) λe2=>by omega),h.c.dT c (λe2=>e2.elim h.c1 λe2=>by omega),h.c1,h.c2,h.rx,h.vx⟩,?_⟩;exact(h.t.more (F':=λk=>(k=rb\/k=xb)\/k=g) λk hk=>hk.imp id λ(e2:k=g)=>by subst e2;exact hg).dT c (λk hk=>hk.elim (λe2=>.inl (.inl e2)) .inr) λk hk=>.inl (.inl hk)
theorem adj (cs:List Value) (o:Nat) (a b:Value) (h:o+1<=cs.length):bM (bM cs o [a]) o [b]=bM cs o [b]:=by
 have h1:(cs.take o).length=o:=by rw[aD];omega
 unfold bM;simp only[aJ,bL];have e1:(cs.take o++[a]++cs.drop (o+1)).take o=cs.take o:=by rw[ao,im h1]
 have e2:(cs.take o++[a]++cs.drop (o+1)).drop (o+1)=cs.drop (o+1):=by rw[ka (by simp[h1])]
 simp only[Nat.zero_add] at*;rw[e1,e2]
theorem Dc {u:Value} (h:aH w X xb (bM cs o [u]) ty) (ho:o+1<=cs.length):Cells w X xb o [u]:=by
 have h1:(cs.take o).length=o:=by rw[aD];omega
 refine⟨h.1,_,ty,(0,0),h.2,λj x hj=>?_⟩;cases j with
 |zero=>
  simp at hj;subst hj;rw[List.getElem?_toArray,Nat.add_zero];unfold bM;rw[ao,bQ zQ,h1];simp
 |succ j=>simp at hj
end Go.Proofs.YtgfijddlkhkopaaGreat