/- Part 11 of the proof. -/
import Derived.Test.YtgfijddlkhkopaaGreatProg
import Derived.Recover
import Derived.KernelRfl
import Derived.Tactics
import Derived.Test.YtgfijddlkhkopaaGreatG10
set_option linter.all false
open Go.Value renaming cells → bg, agg → ej, tuple → dh
open BitVec renaming ofInt → aF, ofNat → rP, toNat_ofNat → iL
open List renaming length_append → aa, length_take → aD, length → bf, all → fC, length_map → af, length_drop → bR, take_of_length_le → aB, mem_of_mem_drop → da, flatten_append → dR, take_append_of_le_length → gX, append_assoc → ak, mem_of_mem_take → dc, take → Al, drop_drop → iu, take_left' → ik, length_nil → bF, nil_append → cB, map_map → bw, take_take → xT, getElem?_take_of_lt → fR, getElem?_append_right → cQ, getElem?_drop → gp, length_cons → aM, mem_of_getElem? → ax, take_append_drop → eo, getElem?_append_left → dM, flatten_cons → cV, drop_left' → j6, mem_append_left → bz
open Array renaming toList → dd, replicate → cY
open Nat renaming mul_le_mul_right → cO, zero_le → aq, le_trans → ad, add_mul → jk, mod_eq_of_lt → fq, min_eq_left → kD, mul_comm → Az, le_of_ble_eq_true → ep
open Go.Exit renaming thenS → rF
open Bool renaming and_eq_true → aC, false_eq_true → aW
open Go.IntKind renaming bits → mP, signed → jW, wrap → AA
namespace Go.Proofs.YtgfijddlkhkopaaGreat
open Go.Proofs.Tryz renaming prog → pg
open Go.aJ
set_option maxRecDepth 100000
set_option maxHeartbeats 4000000
theorem ON:Idle pg 59:=by
 refine⟨by kernel_rfl,λgG w=>?_⟩;refine callsD_of_wpS Tryz.func59 rfl λc₀ cs hu=>?_;rw[Tryz.ntmps59];have gf:8<=(gG++cY (15-gG.size) undef).size:=by simp;omega
 generalize gG++cY (15-gG.size) undef=tm at gf;have h2:2<tm.size:=by omega
 have h3:3<tm.size:=by omega
 have h4:4<tm.size:=by omega
 have h5:5<tm.size:=by omega
 have h6:6<tm.size:=by omega
 have h7:7<tm.size:=by omega
 apply wpS_seq;apply wpS_region;simp[wpOpsS,go_sem,recoverD,hu,rF];apply wpS_seq;apply wpS_region;simp[wpOpsS,go_sem,rF,h2,h3,h4,h5,h6,h7];refine wpS_cond (t:=false) (by simp[Act.eval,h2,h3,h4,h5,h6,h7]) ?_;simp only[aW,if_false];refine wpS_of_wp (wp_skip ?_);cases c₀;simp_all [bodyPostS,results,Tryz.results59]
theorem OO:Idle pg 51:=by
 refine⟨by kernel_rfl,λgG w=>?_⟩;refine callsD_of_wpS Tryz.func51 rfl λc₀ cs hu=>?_;rw[Tryz.ntmps51];have gf:8<=(gG++cY (13-gG.size) undef).size:=by simp;omega
 generalize gG++cY (13-gG.size) undef=tm at gf;have h2:2<tm.size:=by omega
 have h3:3<tm.size:=by omega
 have h4:4<tm.size:=by omega
 have h5:5<tm.size:=by omega
 have h6:6<tm.size:=by omega
 have h7:7<tm.size:=by omega
 apply wpS_seq;apply wpS_region;simp[wpOpsS,go_sem,recoverD,hu,rF];apply wpS_seq;apply wpS_region;simp[wpOpsS,go_sem,rF,h2,h3,h4,h5,h6,h7];refine wpS_cond (t:=false) (by simp[Act.eval,h2,h3,h4,h5,h6,h7]) ?_;simp only[aW,if_false];refine wpS_of_wp (wp_skip ?_);cases c₀;simp_all [bodyPostS,results,Tryz.results51]
theorem abq:Idle pg 81:=by
 refine⟨by kernel_rfl,λgG w=>?_⟩;refine callsD_of_wpS Tryz.func81 rfl λc₀ cs hu=>?_;rw[Tryz.ntmps81];have gf:8<=(gG++cY (12-gG.size) undef).size:=by simp;omega
 generalize gG++cY (12-gG.size) undef=tm at gf;have h2:2<tm.size:=by omega
 have h3:3<tm.size:=by omega
 have h4:4<tm.size:=by omega
 have h5:5<tm.size:=by omega
 have h6:6<tm.size:=by omega
 have h7:7<tm.size:=by omega
 apply wpS_seq;apply wpS_region;simp[wpOpsS,go_sem,recoverD,hu,rF];apply wpS_seq;apply wpS_region;simp[wpOpsS,go_sem,rF,h2,h3,h4,h5,h6,h7];refine wpS_cond (t:=false) (by simp[Act.eval,h2,h3,h4,h5,h6,h7]) ?_;simp only[aW,if_false];refine wpS_of_wp (wp_skip ?_);cases c₀;simp_all [bodyPostS,results,Tryz.results81]
open Go.Sort
attribute [local irreducible] un jn jg iN ld1 tW st1 mG lN pB sH pT J6 Fc gR ru aX lW lP eW eV eU eC eF gE np fin ix cj eP vS OA J7 J9 Ka Kb Kc OB OC Kd OD Gz GA Ke Kf Kg OE OF Kh
theorem Q9: ∀{l:List Nat} {x:Nat},x∈l->x<=l.sum
 |y::l,x,h=>by
  rw[List.sum_cons];rcases List.mem_cons.1 h with e|h
  ·omega
  ·have:=Q9 h;omega
theorem abr (a b:Int) (p:List ju):(fj a b p).Nodup:=(kL _).nodup_iff.2 (Ff a b p [] 0 List.nodup_nil (λx hx=>by cases hx) (Nat.le_refl _)).1
def By (g:oN):cD:= { CA with kind:=1,range:=g.pa.id,iF:=g.pa.iF,keys:=g.keys }
def kU (ds:tL) (p:List ju):List oN:=mL ds (ja ds [] (fj 1 1 p)).1
def uz (ds:tL) (p:List ju):List cD:=(kU ds p).map By
variable {gM : Int} {cb : Nat} {X : XS} {w : World}
theorem adI {c:bX} (h:aI w X cb (Ho c) IY) (hl:c.dx<2^60) (Bz: -(2^60)<c.dx):
  Ct pg 110 #[ptr cb 0,I gM] w X (· =cb) λv _ w'=>v= .tuple #[(c.tM gM).1.v,I (c.tM gM).2]/\aI w' (· =cb) cb (Ho (if(c.tM gM).2=0 then(c.tM gM).1 else c)) IY:=by
 intro w0 hk;have hF:FX (· =cb) X w:=λk ah=>by subst ah;exact⟨h.1,h.lt⟩
 have hT:=hF.ft hk;replace h:=h.mv hk.cd;refine Py.1 λ_=>?_;refine dZ (adJ h hl Bz) kQ (λ_ h=>h) λw1 X1 ay=>?_;generalize c.tM gM=q;obtain⟨s,e⟩:=q;replace h:=h.since ay;have eh:Ft w0 (· =cb) w1 X1 (· =cb):=⟨hT.s.trans ay,λk ah=>by subst ah;exact h.1,λk ah=>.inl ah⟩;by_cases he:e=0
 ·repeat' first|refine aL ?_;intros|with_reducible apply cJ
  refine GD (o:=0) h zQ kQ sQ rfl rfl eh.s.has λw2 X2 c2 jI=>?_;have cX:=eh.ea (F':=(· =cb)) c2 (λk ah=>ah) λk ah=>.inl ah;repeat' refine ao ?_;intros
  exact cX.fin λwa aK=>⟨rfl,by rw[if_pos he];exact(jI.kp aK).own⟩
 ·repeat' first|refine aL ?_;intros|with_reducible apply cJ
  exact eh.fin λwa aK=>⟨rfl,by rw[if_neg he];exact(h.kp aK).own⟩
theorem aic {c:bX} (h:c.may=true) (h0:(c.tM gM).2=0):(c.tM gM).1.may=true:=by
 simp only[bX.may,aC,decide_eq_true_eq] at h⊢;revert h0;unfold bX.tM;split
 ·intro e;cases e
 ·split
  ·intro _;(try simp only);omega
  ·split
   ·intro e;cases e
   ·intro _;(try simp only);omega
def tN (p:List ju) (ck:bX) (gM:Int) (ds:tL):Int:=if ny p≠0 then ny p else if(ck.tM gM).2≠0 then(ck.tM gM).2 else(ja ds [] (fj 1 1 p)).2
structure sx (N:Nat) (d:pD):Prop where
 q:d.x.pre=false->d.x.vq=aR/\d.ids=[]
 p:ny d.p=0
 sn:d.sn.length<=N
 ws:d.ws.length<=80
 ids:d.ids.length<=80
 Dp: ∀y∈d.ws,y.Dp
 lp:0<=d.x.lp/\d.x.lp<6
 pq:d.pq=false
structure tp (N M:Nat) (n:bh):Prop where
 id:n.c.id=1
 act: ∀t b,getM t n.al=some b->sx N (n.A b)
 ds: ∀(i:Int) (r:eY),getM i n.ds=some r->r.id=i
 ms:n.ms=[]
 vm:n.vm=aR
 va:n.va=aR
 rm:n.rm=[]
 ra:n.ra=[]
 cl:n.cl.length<=M
 Yi:n.al.length<=M
 mM:M<=1000
 pre:n.pre=false
 cw: ∀b∈n.cl,(n.C b).waits.length<=80
 byT: ∀t b,getM t n.bl=some b->b∈n.cl/\(n.C b).r.aH=t
theorem Uz (n:bh) (b:Nat):dH n b (n.A b)=n:=by
 unfold dH
 congr 1
 funext b'
 by_cases h:b'=b
 ·rw[if_pos h,h]
 ·rw[if_neg h]
variable {w' w0 wa : World} {X' : XS} {own aG bK : Nat -> Nat} {n' : bh} {b : Nat}
section
variable {n : bh}
theorem VY (h:jD w own n) (hX:rO own X) (hb:n.gx b) (hp:n.pre=false) (hW: ∀(i:Int) (r:eY),getM i n.ds=some r->r.id=i):
  Ct pg 61 #[ptr n.nb 0,I gM,ptr b 0] w X (gC own) λv wa w'=>NQ dV own wa w' λaG n'=> ∃vg fD st,v= .tuple #[vg,I (tN (n.A b).p n.ck gM n.ds)]/\aJ.one vg=true/\n'= { dH n b { n.A b with x:= { (n.A b).x with st:=st } } with ck:=fD } /\
   (tN (n.A b).p n.ck gM n.ds=0->fh w' (bI aG 4) 5 vg oN.rd (kU n.ds (n.A b).p)):=by
 intro w0 hk;have s:=St.init h hX hk;have ha:=(s.va hb).1;have Bx:=(s.h.act hb).2.2.2.2.1;have hs:=s.rf;have self:({ dH n b { n.A b with x:= { (n.A b).x with st:=(n.A b).x.st } } with ck:=n.ck } :bh)=n:=Uz n b;refine KF.1 λ_=>?_;repeat' refine ao ?_;intros
 refine dZ (Lx (Bx.mono (s.sub 4))) kQ hs.has λw1 X1 ay=>?_;replace Bx:=Bx.mv (ay.gW (s.sub 4));replace s:=s.since ay;clear hs ha;have hs:=s.rf;have hr:=s.v.1;rw[Ra hp] at hr;by_cases Fg:ny (n.A b).p≠0
 ·have Rb:tN (n.A b).p n.ck gM n.ds=ny (n.A b).p:=by unfold tN;rw[if_pos Fg]
  repeat' refine aL ?_;intros
  exact s.fin λwa aK=>⟨aR,n.ck,(n.A b).x.st,by rw[Rb],rfl,self.symm,λe=>absurd (Rb.symm.trans e) Fg⟩
 have aqS:ny (n.A b).p=0:=by omega
 have wu:=(A3 aqS).1;repeat' refine aL ?_;intros
 have BB:=(show n.pre=false->aI w1 (bI own 7) n.c.cb (Ho n.ck) IY/\n.ck.may=true from s.get 7) hp;have Rc: ∀k,k=n.c.cb->own k=7:=λk e=>by rw[e];exact BB.1.1
 obtain⟨hl,Bz⟩:n.ck.dx<2^60/\ -(2^60)<n.ck.dx:=by
  have:=BB.2;simp only[bX.may,aC,decide_eq_true_eq] at this;omega
 refine zq (adI (gM:=gM) (BB.1.mono (s.sub 7)) hl Bz) kQ s.has (λk e=>s.x k (by have:=Rc k e;omega)) λv xQ w2 X2 q2 lD kh _ c2=>?_;obtain⟨rfl,WV⟩:=q2;obtain⟨lQ,s2,m2⟩:=s.DY (F':=dV { n with ck:=if(n.ck.tM gM).2=0 then(n.ck.tM gM).1 else n.ck }) 7 c2 Rc (· =n.c.cb) (λk e=>.inl (Rc k e)) (λK _ _=>⟨WV,by
  show bX.may (if(n.ck.tM gM).2=0 then(n.ck.tM gM).1 else n.ck)=true
  split
  ·exact aic BB.2 aQ
  ·exact BB.2⟩) nO
 replace Bx:=Bx.mv m2;clear hs hr WV s;have hs:=s2.rf;by_cases nC:(n.ck.tM gM).2≠0
 ·have Rb:tN (n.A b).p n.ck gM n.ds=(n.ck.tM gM).2:=by unfold tN;rw[if_neg Fg,if_pos nC]
  rw[if_neg nC] at s2;repeat' refine aL ?_;intros
  exact s2.fin λwa aK=>⟨aR,n.ck,(n.A b).x.st,by rw[Rb],rfl,self.symm,λe=>absurd (Rb.symm.trans e) nC⟩
 have aqT:(n.ck.tM gM).2=0:=by omega
 have Rb:tN (n.A b).p n.ck gM n.ds=(ja n.ds [] (fj 1 1 (n.A b).p)).2:=by unfold tN;rw[if_neg Fg,if_neg nC]
 rw[if_pos aqT] at s2;generalize (n.ck.tM gM).1=st at s2⊢;have ha:=(s2.va (b:=b) hb).1;have nM:=(s2.h.act (b:=b) hb).1;repeat' refine aL ?_;intros
 refine s2.stN (o:=4) (tx b 0) nM (dV { dH n b { n.A b with x:= { (n.A b).x with st:=st } } with ck:=st }) zQ kQ (ep rfl) rfl rfl (λ_ _ _ h=>qT (n:= { n with ck:=st }) dQ h) (IX (n:= { n with ck:=st })) (λw3 X3 nz s3 m3=>?_) iy.1 iy.2;replace Bx:=Bx.mv m3;clear hs ha nM s2;have hs:=s3.rf;have ha:=(s3.vs (n:= { n with ck:=st }) hb).1;have hr:=s3.v.1;repeat' refine ao ?_;intros
 refine cA (Bv (Bx.mono (s3.sub 4)) zQ) kQ hs.has ?_;rintro vk zS w4 X4 q4 tK oV fV;have s4:=s3.since fV;refine cA (OJ (show mz w4 X4 n.c.adK n.mb n.ds from s4.Ay 2) hW (q4.mono oV).sl (by have:=GB (a:=1) (b:=1) (p:=(n.A b).p);omega) λk ah=>by have:=Q2 (a:=1) (b:=1) wu k ah;omega) kQ fV.has ?_;rintro v5 OP w5 X5 q5 IZ Fj tq;obtain⟨mO,s5,m5,-,n5⟩:=(s4.since tq).vI (N:=made OP w5) λk hk=>⟨Fj k hk,s4.nw (ad IZ hk.1)⟩;clear hs;have hs:=s5.rf;by_cases he:(ja n.ds [] (fj 1 1 (n.A b).p)).2≠0
 ·rw[if_pos he] at q5;subst q5;repeat' refine ao ?_;intros
  exact s5.fin λwa aK=>⟨aR,st,st,by rw[Rb],rfl,rfl,λe=>absurd (Rb.symm.trans e) he⟩
 rw[if_neg he] at q5;obtain⟨vg,rfl,lX⟩:=q5;have ovg:=fh.one lX;have Bw:(ja n.ds [] (fj 1 1 (n.A b).p)).2=0:=by omega
 repeat' refine ao ?_;intros
 exact s5.fin λwa aK=>⟨vg,st,st,by rw[Rb,Bw],ovg,rfl,λ_=>fh.mv (fh.mv lX oN.mv (Mv.sub n5)) oN.mv (zf s5.x aK)⟩
end
def Ta (R:Ending->World->Prop) (nb xb:Nat) (w:World) (X:XS):Prop:=(jn (λ(y1:Value) (y2:Value) (w1:World) (X1:XS)=>
un (yK y1 0 3) λu1=>
un (yK y2 0 2) λu2=>
jg (fC [y1,y2,(.agg #[(I 0)])] gx) (fin R X1 w1 (dh #[u1,u2,(I 0)]))) λk1=>
((And
(lW pg X w (cj (ptr xb 0)) λx1=>
(And
(aX pg X w (iN aT 0 0 3 x1) λx2=>
(And
(aX pg X w (tW 34 3 x2) λx3=>
(eC pg R X w true 47 #[ptr nb 0] λx4 w2 X2=>
(un (ej (bg x3)) λu3=>
jg (bf (dd (bg x3))==3) (jg (fC (dd (bg x3)) aJ.one) ((un (ej (bg x4)) λu4=>
jg (bf (dd (bg x4))==2) (jg (fC (dd (bg x4)) aJ.one) (k1 u3 u4 w2 X2))))))))
(eC pg R X w true 47 #[ptr nb 0] λx5 w3 X3=>
(aX pg X3 w3 (tW 34 3 x2) λx6=>
(un (ej (bg x6)) λu5=>
jg (bf (dd (bg x6))==3) (jg (fC (dd (bg x6)) aJ.one) ((un (ej (bg x5)) λu6=>
jg (bf (dd (bg x5))==2) (jg (fC (dd (bg x5)) aJ.one) (k1 u5 u6 w3 X3))))))))))
(eC pg R X w true 47 #[ptr nb 0] λx7 w4 X4=>
(aX pg X4 w4 (iN aT 0 0 3 x1) λx8=>
(aX pg X4 w4 (tW 34 3 x8) λx9=>
(un (ej (bg x9)) λu7=>
jg (bf (dd (bg x9))==3) (jg (fC (dd (bg x9)) aJ.one) ((un (ej (bg x7)) λu8=>
jg (bf (dd (bg x7))==2) (jg (fC (dd (bg x7)) aJ.one) (k1 u7 u8 w4 X4)))))))))))
(eC pg R X w true 47 #[ptr nb 0] λx10 w5 X5=>
(lW pg X5 w5 (cj (ptr xb 0)) λx11=>
(aX pg X5 w5 (iN aT 0 0 3 x11) λx12=>
(aX pg X5 w5 (tW 34 3 x12) λx13=>
(un (ej (bg x13)) λu9=>
jg (bf (dd (bg x13))==3) (jg (fC (dd (bg x13)) aJ.one) ((un (ej (bg x10)) λu10=>
jg (bf (dd (bg x10))==2) (jg (fC (dd (bg x10)) aJ.one) (k1 u9 u10 w5 X5)))))))))))))
def il (n:bh):bu:=⟨n.c.id,n.c.aN,n.c.ey+1⟩
theorem UA {κ α:Type} [DecidableEq κ] {k:κ} {a:α} : ∀l:List (κ×α),ji k (cI k a l)=ji k l
 |[]=>by simp[cI,ji]
 |x::l=>by
  have ih:=UA (k:=k) (a:=a) l;unfold cI;by_cases h:x.1=k
  ·rw[if_pos h];simp[ji,h]
  ·rw[if_neg h]
   grind [ji]
theorem UB {κ α:Type} [DecidableEq κ] {k t:κ} {l:List (κ×α)} {a v:α} (h:getM t (cI k a l)=some v):(t=k/\v=a)\/(t≠k/\getM t l=some v):=by grind [ku,nL]
def Am (n:bh) (p:List ju) (n1:bh):Prop:= ∃(xb:Nat) (fD:bX) (Fk:List (bu×Nat)) (vm va:Value) (rm ra:List (List Value)) (ms:List cD) (d:pD),
  n1= { n with c:= { n.c with ey:=n.c.ey+1 },ck:=fD,al:=Fk,vm:=vm,va:=va,rm:=rm,ra:=ra,ms:=ms,A:=λb=>if b=xb then d else n.A b } /\(∀t,getM t n.al≠some xb)/\
  ((∃a,ra=[a]/\ms=[]/\Fk=ji (il n) n.al/\((∃e,e≠0/\a=El e (il n) .zero false aR)\/ ∃st vs,aJ.one vs=true/\a=El 0 (il n) st true vs))\/
   (ra=[]/\Fk=cI (il n) xb n.al/\d.p=p/\ny p=0/\d.x.aH=il n/\d.x.lp=0/\d.x.mg= .zero/\(d.sn=[]/\d.pq=false)/\ms=d.ws.map (λm=>m.qg (20+n.c.id))/\d.ws≠[]/\d.ws.length<=80/\(∀m∈d.ws,m.aH=il n/\m.Dp)/\
    ((d.x.pre=false/\d.x.vq=aR/\d.ids=[]/\(∀m∈d.ws,m.kind=1)/\fj 1 1 p≠[])\/(d.x.pre=true/\d.ws.map (·.range)=d.ids/\ ∀m∈d.ws,m.kind=3/\m.parts=d.ids))))
def Re (E:Prop) (J:List Int->Prop) (n n1:bh):Prop:=(n1.ra≠[]->E)/\ ∀b,getM (il n) n1.al=some b->n1.ra=[]->(n1.A b).x.pre=true->J (n1.A b).ids
variable {R : Ending -> World -> Prop} {M : Nat} {a : Value}
section
variable {n : bh}
theorem _root_.Go.aJ.St.aqU {d:pD} (s:Sn w0 bK w X own n) (hb:own b=0/\w0.heap.size<=b) (hr:aI w X b (Ki d.x d.vw) aT) (hd:d.vw=aR/\d.rw=[]/\d.ws=[]/\d.x.vs=aR/\d.sn=[]/\d.pq=false) (hp:Sl w (bI own 4) 5 d.x.vp (d.p.map ju.l)) (hq:d.x.vq=aR/\d.ids=[]):
  ¬n.gx b/\ ∃aG,Sn w0 bK w X aG { n with A:=λb'=>if b'=b then d else n.A b',ex:=b::n.ex } /\Mv (bI own 4) w (bI aG 4) w:=by
 have no: ¬n.gx b:=λh=>by have:own b=tx b 0:=(s.h.act h).1.1;exact iy.1 (this.symm.trans hb.1)
 obtain⟨d1,d2,d3,d4,d5,d6⟩:=hd;have eA:({ n with A:=λb'=>if b'=b then d else n.A b',ex:=b::n.ex } :bh).A b=d:=if_pos rfl;have key: ∀c,c≠tx b 0-> ∀K A,Mv (bI own 4) w K w->(dV n c).p w K A->(dV { n with A:=λb'=>if b'=b then d else n.A b',ex:=b::n.ex } c).p w K A:=λc hc K A mv h=>by
  have q: ∀{b'},b'≠b->({ n with A:=λb'=>if b'=b then d else n.A b',ex:=b::n.ex } :bh).gx b'->n.gx b':=λdW h=>h.imp id λe=>(List.mem_cons.1 e).resolve_left dW;refine Yj (λhi p=>?_) (λb' i hi e p=>?_) h
  ·by_cases e:c=12
   ·subst e;intro t b' e
    show(if b'=b then d else n.A b').x.aH=t
    rw[if_neg λ(e':b'=b)=>no (.inl ⟨t,e'▸e⟩)];exact p t b' e
   ·rcases c with _|_|_|_|_|_|_|_|_|_|_|_|_|c<;>first|exact p|exact absurd rfl e
  ·by_cases dW:b'=b
   ·subst dW;rcases i with _|_|_|_|_|_|_|_|i<;>first|exact absurd e hc|exact p|skip
    all_goals (simp only[zT,if_true];intro _)
    ·show Own w A 0 mT 36 d.vw d.rw
     rw[d1,d2];exact Own.nil _ _ _ _ _
    ·show Own w A 0 snT 7 d.x.vs (d.sn.map fc.l)
     rw[d4,d5];exact Own.nil _ _ _ _ _
    ·refine⟨?_,hp.mv mv,λ_=>?_⟩
     ·show fA w K d.rw d.ws
      rw[d2,d3];exact fA.nil _ _
     ·show Sl w K 1 d.x.vq (d.ids.map I1)
      rw[hq.1,hq.2];exact Sl.nil _ _ _
    ·exact λe=>by rw[d6] at e;cases e
   ·rcases i with _|_|_|_|_|_|_|_|i<;>first|exact p|(simp only[zT,if_neg dW] at p⊢;exact λh=>p (q dW h))
 obtain⟨aG,s',m,-⟩:=s.jT (F':=dV { n with A:=λb'=>if b'=b then d else n.A b',ex:=b::n.ex }) (j:=tx b 0) (N:=(· =b)) (ee.nQ s.rf nX) (· =tx b 0) (λ_ h=>h.elim) iy.1.symm iy.2.symm (λk e=>by subst e;exact⟨hr.1,hb⟩) iy.1
  (λaG e1 e2 m c hc=>by subst hc;rw[wq _ _ _ dQ];exact λ_=>by rw[eA];exact⟨e2 b rfl,hr.2⟩) key
 exact⟨no,aG,s',m⟩
theorem aid (s:Sn w0 bK w X own n) (hb:n.gx b) (k: ∀w9 X9 pC,Sn w0 bK w9 X9 pC (eQ n)->BC w9 pC n->fin R X9 w9 (.tuple #[(n.A b).x.aH.v,.agg #[n.vm,n.va],I 0])):Ta R n.nb b w X:=by
 unfold Ta;have ha:=(s.va hb).1;have ovm:=s.v.2.1;have ova:=s.v.2.2.1;have hs:=s.rf;have told: ∀{w8:World} {X8:XS} {N:Value->World->XS->Prop},ai X w X8 w8->(∀w9 X9 pC,Sn w0 bK w9 X9 pC (eQ n)->BC w9 pC n->N (.agg #[n.vm,n.va]) w9 X9)->eC pg R X8 w8 true 47 #[ptr n.nb 0] N:=λ{w8 X8 N} kT k=>
  (s.since kT).call (Fl (s.since kT).h (s.since kT).x) kQ λv w' X' aG n' s' ⟨e1,e2,q⟩ _=>by subst e1 e2;exact k _ _ _ s' q
 refine gZ (Q:=λKx=> ∀w9 X9 pC,Sn w0 bK w9 X9 pC (eQ n)->BC w9 pC n->Kx (.agg #[I (n.A b).x.aH.dU,I (n.A b).x.aH.aN,I (n.A b).x.aH.sq]) (.agg #[n.vm,n.va]) w9 X9) ?_ λKx hKx=>?_
 ·intro w9 X9 pC s9 q9;have hq:=k w9 X9 pC s9 q9;clear hs k;repeat' refine ao ?_;intros
  exact hq
 have aie: ∀{w9:World} {X9:XS} {pC:Nat->Nat},Sn w0 bK w9 X9 pC (eQ n)->aI w9 X9 b (Ki (n.A b).x (n.A b).vw) aT:=λs9=>(s9.va (b:=b) hb).1;refine⟨?_,?_⟩
 ·repeat' refine ao ?_;intros
  refine⟨?_,?_⟩
  ·repeat' refine ao ?_;intros
   refine⟨?_,?_⟩
   ·repeat' refine ao ?_;intros
    refine told hs λw9 X9 pC s9 q9=>?_;clear hs;have hs:=s9.rf;repeat' refine ao ?_;intros
    exact hKx _ _ _ s9 q9
   ·rename_i o ho hc;subst ho;refine told hs λw9 X9 pC s9 q9=>adL ((aie s9).cells.part 0 3) (Mv.refl _ _) kQ rfl ?_;clear hs;have hs:=s9.rf;repeat' refine ao ?_;intros
    exact hKx _ _ _ s9 q9
  ·refine told hs λw9 X9 pC s9 q9=>?_;clear hs;have apk:=aie s9;repeat' refine ao ?_;intros
   exact hKx _ _ _ s9 q9
 ·refine told hs λw9 X9 pC s9 q9=>?_;clear hs;have apk:=aie s9;repeat' refine ao ?_;intros
  exact hKx _ _ _ s9 q9
theorem ak3 {t:bu} (hb:b∈n.ex) (ht:(n.A b).x.aH=t): ∀c,c≠5-> ∀w K A,(dV n c).p w K A->(dV { n with al:=cI t b n.al } c).p w K A:=
 nO (λb' i hi _ w K A h=>by
  have e:({ n with al:=cI t b n.al } :bh).gx b'->n.gx b':=λh=>h.elim (λ⟨t',e⟩=>(UB e).elim (λe=>e.2▸ .inr hb) λe=>.inl ⟨t',e.2⟩) .inr;rcases i with _|_|_|_|_|_|_|_|i<;>first|exact λha=>h (e ha)|exact h) λi hi hq w K A h=>by
   rcases i with _|_|_|_|_|_|_|_|_|_|_|_|_|i<;>first|exact absurd rfl hq|exact λt' b' e=>(UB e).elim (λe=>by rw[e.2,e.1];exact ht) λe=>h t' b' e.2|exact h
theorem Ly {p:List ju} {N:Nat} (h:jD w own n) (hX:rO own X) (hk:tp N M n) (ha:Sl w (bI own 4) 5 a (p.map ju.l)) (wu:p.length<=2^30) (hc:0<=n.c.ey/\n.c.ey<=2^40):
  Ct pg 29 #[ptr n.nb 0,I gM,a] w X (gC own) λv wa w'=>Tb own wa w' (λn1=>Am n p n1/\Re (tN p n.ck gM n.ds≠0\/Pw p n.ds) (IW p n.ds) n n1) λn1=>v= .tuple #[(il n).v,.agg #[n1.vm,n1.va],I 0]:=by
 intro w0 Em;have s:=St.init h hX Em;replace ha:=ha.mv (zf hX Em);have hi:1<=n.c.id/\n.c.id<=2:=by rw[hk.id];decide
 refine Cc.g (RP:=λ_ _=>False) (g0:=59) (cb:=[3,7,8,6]) (cv:=[]) kQ (.inl rfl) ON EA ?_;rw[Pz H7,Yk H7];refine cz ?_;have hs:=s.rf;have hr:=s.v.1;repeat' refine ao ?_;intros
 refine s.st (o:=2) 1 (s.get 1) (dV { n with c:= { n.c with ey:=n.c.ey+1 } }) zQ kQ (ep rfl) rfl (λ_ _ _ h=>h) nO λw1 X1 ic s1 m1=>?_;replace ha:=ha.mv m1;obtain⟨d,JV⟩: ∃d:CoV,d= { n.c with ey:=n.c.ey+1 } :=⟨_,rfl⟩;obtain⟨d1,d2,d3⟩:d.id=n.c.id/\d.aN=n.c.aN/\d.ey=n.c.ey+1:=by rw[JV];exact⟨rfl,rfl,rfl⟩
 obtain⟨n1,xd⟩: ∃n1:bh,n1= { n with c:=d } :=⟨_,rfl⟩;have s1:Sn w0 own w1 X1 ic n1:=by rw[xd,JV];exact s1
 have e1:n1.nb=n.nb/\n1.c=d:=by rw[xd];exact⟨rfl,rfl⟩
 clear hs hr s;have hs:=s1.rf;have hr:=s1.v.1;rw[e1.1,e1.2] at hr;repeat' refine ao ?_;intros
 refine cA (abt (ha.mono (s1.sub 4)) zQ) kQ hs.has ?_;rintro vp xQ w2 X2 q2 lD kh bA;obtain⟨lQ,s2,m2,-,n2⟩:=(s1.since bA).vI (N:=made xQ w2) λk hk=>⟨kh k hk,s1.nw (ad lD hk.1)⟩;have hvp:=q2.sl.mono n2;obtain⟨t1,t2,t3,rfl⟩:=q2.sl.form;clear hs hr;have hs:=s2.rf;have hr:=s2.v.1;rw[e1.1,e1.2] at hr;repeat' first|refine ao ?_;intros|(refine OQ hs ?_;intro bx w X fY ay gn hs br)
 obtain⟨qs,nz,s3,m3⟩:=(s2.since gn).aqU (b:=bx) (d:=⟨⟨⟨d.id,d.aN,d.ey⟩,.slice t1 t2 t3,.zero,0,aR,false,aR,.zero⟩,aR,[],[],[],p,[],false⟩) (s2.nw zQ) br ⟨rfl,rfl,rfl,rfl,rfl,rfl⟩ (hvp.mv (gn.gW (s2.sub 4))) ⟨rfl,rfl⟩;rw[xd] at s3 qs;obtain⟨D,hD⟩: ∃D:pD,D=⟨⟨⟨d.id,d.aN,d.ey⟩,.slice t1 t2 t3,.zero,0,aR,false,aR,.zero⟩,aR,[],[],[],p,[],false⟩:=⟨_,rfl⟩;replace s3:Sn w0 own w X nz { dH n bx D with c:=d,ex:=bx::n.ex } :=by rw[hD];exact s3
 have Km: ∀t,getM t n.al≠some bx:=λt e=>qs (.inl ⟨t,e⟩);have fY: ∀{n':bh},n'.ex=bx::n.ex->n'.gx bx:=λe=>.inr (by rw[e];simp);clear hs gn br hr s2 hvp m3 m2 s1 xd e1 n1 bA m1;refine s3.call (VY (n:= { dH n bx D with c:=d,ex:=bx::n.ex }) (b:=bx) (gM:=gM) s3.h s3.x (fY rfl) hk.pre hk.ds) kQ λv w4 X4 lR n4 s4 q4 m4=>?_;obtain⟨vg,fD,st,hv,ovg,rfl,lX⟩:=q4;have eD:({ dH n bx D with c:=d,ex:=bx::n.ex } :bh).A bx=D:=jj;have hDp:D.p=p:=by rw[hD]
 rw[eD,hDp] at lX hv;replace hv:v= .tuple #[vg,I (tN p n.ck gM n.ds)]:=hv;replace lX:tN p n.ck gM n.ds=0->fh w4 (bI lR 4) 5 vg oN.rd (kU n.ds p):=lX;subst hv;obtain⟨E,hE⟩: ∃E:pD,E= { D with x:= { D.x with st:=st } } :=⟨_,rfl⟩;obtain⟨NF,UC⟩: ∃NF:pD->List (bu×Nat)->bh,NF=λd' Fk=> { dH n bx d' with c:=d,ck:=fD,al:=Fk,ex:=bx::n.ex } :=⟨_,rfl⟩;replace s4:Sn w0 own w4 X4 lR (NF E n.al):=by
  have e:NF E n.al= { dH { dH n bx D with c:=d,ex:=bx::n.ex } bx { ({ dH n bx D with c:=d,ex:=bx::n.ex } :bh).A bx with x:= { (({ dH n bx D with c:=d,ex:=bx::n.ex } :bh).A bx).x with st:=st } } with ck:=fD } :=by
   rw[eD,<-hE,UC]
   show _=({ dH (dH n bx D) bx E with c:=d,ex:=bx::n.ex,ck:=fD } :bh)
   rw[A4];rfl
  rw[e];exact s4
 have eE:E.x=⟨⟨d.id,d.aN,d.ey⟩,.slice t1 t2 t3,st,0,aR,false,aR,.zero⟩/\E.vw=aR/\E.rw=[]/\E.ws=[]/\E.sn=[]/\E.p=p/\E.ids=[]/\E.pq=false:=by rw[hE,hD];exact⟨rfl,rfl,rfl,rfl,rfl,rfl,rfl,rfl⟩
 have Yl:(⟨d.id,d.aN,d.ey⟩:bu)=il n:=by rw[d1,d2,d3];rfl
 have xU: ∀{w5:World} {X5:XS} {mO:Nat->Nat} {n5:bh},Sn w0 own w5 X5 mO n5->n5.gx bx->n5.nb=n.nb->(n5.A bx).x.aH=il n->(Am n p { n5 with ex:=n.ex } /\Re (tN p n.ck gM n.ds≠0\/Pw p n.ds) (IW p n.ds) n { n5 with ex:=n.ex })->(∀b∈n.ex,b∈n5.ex)->
   Ta (vi (gC own) w0 λv w'=>Tb own w0 w' (λn1=>Am n p n1/\Re (tN p n.ck gM n.ds≠0\/Pw p n.ds) (IW p n.ds) n n1) λn1=>v= .tuple #[(il n).v,.agg #[n1.vm,n1.va],I 0]) n.nb bx w5 X5:=λ{w5 X5 mO n5} s5 Cd enb etx Fm hex=>by
  rw[<-enb];exact aid s5 Cd λw9 X9 pC s9 q9=>St.amA (n1:= { n5 with ex:=n.ex }) (s9.to (H8 (e':=n.ex) hex)) ⟨q9.om,q9.hm,q9.oa⟩ Fm (by rw[etx])
 clear s3 qs;have hs:=s4.rf;by_cases he:tN p n.ck gM n.ds≠0
 ·repeat' refine aL ?_;intros
  have eA:(NF E n.al).A bx=E/\(NF E n.al).al=n.al/\(NF E n.al).nb=n.nb/\(NF E n.al).ra=n.ra/\(NF E n.al).ex=bx::n.ex:=by rw[UC];exact⟨jj,rfl,rfl,rfl,rfl⟩
  rw[<-eA.2.2.1];refine s4.call (C7 (n:=NF E n.al) (b:=bx) (code:=tN p n.ck gM n.ds) (t:=.zero) (st:=.zero) (on:=false) (vs:=aR) s4.h s4.x (fY eA.2.2.2.2) rfl (by rw[eA.2.2.2.1,hk.ra];simp)) kQ λv w5 X5 mO n5 s5 q5 m5=>?_;obtain⟨jh,rfl⟩:=q5;rw[eA.1,eE.1,Yl,eA.2.1,eA.2.2.2.1,hk.ra] at s5;rw[eA.2.2.1];refine xU s5 (.inr sQ) eA.2.2.1 (by show((NF E n.al).A bx).x.aH=il n;rw[eA.1,eE.1];exact Yl) ⟨⟨bx,fD,_,_,_,_,_,_,E,by subst UC JV;rfl,Km,.inl ⟨_,rfl,show(NF E n.al).ms=[] by rw[UC];exact hk.ms,rfl,.inl ⟨_,he,rfl⟩⟩⟩,λ_=>.inl he,λb _ A5=>by cases A5⟩ λb hb=>by rw[eA.2.2.2.2];simp[hb]
 have Bw:tN p n.ck gM n.ds=0:=by omega
 have lX:=lX Bw;change fh w4 (bI lR 4) 5 vg oN.rd (kU n.ds p)at lX;have Fg:ny p=0:=by
  unfold tN at Bw;split at Bw<;>omega
 have amB:(ja n.ds [] (fj 1 1 p)).2=0:=by
  unfold tN at Bw;split at Bw
  ·rename_i h9;exact absurd Bw h9
  ·split at Bw
   ·rename_i h9;exact absurd Bw h9
   omega
 have gY:(kU n.ds p).length<=40:=by
  have h1:=Pv (ds:=n.ds) (keys:=fj 1 1 p) (m:=[]);have h2:=GB (a:=1) (b:=1) (p:=p);have h3:=(A3 Fg).1;unfold kU mL;rw[af,(pf _).length_eq,af];simp only[bF] at h1;omega
 have hfg: ∀g∈kU n.ds p,g.keys.length<=40:=λg hg=>by
  have h1:=adD (abr 1 1 p) amB;have h2:=Q9 (List.mem_map.2 ⟨g,hg,rfl⟩:g.keys.length∈(kU n.ds p).map λg=>g.keys.length);have h3:=GB (a:=1) (b:=1) (p:=p);have h4:=(A3 Fg).1;change ((kU n.ds p).map λg=>g.keys.length).sum=_ at h1;omega
 have eA:(NF E n.al).A bx=E/\(NF E n.al).al=n.al/\(NF E n.al).nb=n.nb/\(NF E n.al).c=d/\(NF E n.al).ex=bx::n.ex:=by rw[UC];exact⟨jj,rfl,rfl,rfl,rfl⟩
 have hr:=s4.v.1;have ha:=(s4.va (fY eA.2.2.2.2)).1;rw[eA.2.2.1,eA.2.2.2.1] at hr;rw[eA.1] at ha;have A6:dL w4 (bI lR 5) nX (NF E n.al).c.ab (λk:bu=>k.v) zP (NF E n.al).al:=s4.get 5;rw[eA.2.1,eA.2.2.2.1] at A6;repeat' refine aL ?_;intros
 refine vK (kv:=λk:bu=>k.v) (k:=E.x.aH) (a:=bx) (et:=116) (me A6 (s4.x _ (by rw[show lR d.ab=5 from A6.x.1];decide))) Fe (show zP w4 nX (ptr bx 0) bx from rfl) (λ_ h=>h.elim) td kQ s4.has λw5 X5 c5 xV=>?_;obtain⟨mO,s5,m5⟩:=s4.DY (F':=dV { NF E n.al with al:=cI E.x.aH bx (NF E n.al).al }) 5 c5 (λk e=>by rw[show k=d.ab from e];exact A6.x.1) (· =d.ab) (λk e=>.inl (by rw[show k=d.ab from e];exact A6.x.1))
  (λK m=>by
   show dL w5 (· =d.ab) nX (NF E n.al).c.ab (λk:bu=>k.v) zP (cI E.x.aH bx (NF E n.al).al)
   rw[eA.2.1,eA.2.2.2.1];exact me xV rfl) (ak3 (by rw[eA.2.2.2.2];simp) (by rw[eA.1]))
 replace lX:=fh.mv lX oN.mv m5;obtain⟨N2,Rf⟩: ∃N2:bh,N2=NF E (cI (il n) bx n.al):=⟨_,rfl⟩;replace s5:Sn w0 own w5 X5 mO N2:=by
  have:({ NF E n.al with al:=cI E.x.aH bx (NF E n.al).al } :bh)=N2:=by rw[eA.2.1,Rf,UC,eE.1,Yl]
  rw[<-this];exact s5
 have e2:N2.A bx=E/\N2.nb=n.nb/\N2.c=d/\N2.ex=bx::n.ex/\N2.ds=n.ds/\N2.rm=n.rm/\N2.ra=n.ra/\N2.ms=n.ms/\N2.al=cI (il n) bx n.al:=by rw[Rf,UC];exact⟨jj,rfl,rfl,rfl,rfl,rfl,rfl,rfl,rfl⟩
 clear hr ha A6 s4 hs eA xV c5;obtain⟨Gd,hG⟩: ∃Gd:Value->List (List Value)->List cD->pD,Gd=λvw rw l=> { E with vw:=vw,rw:=rw,ws:=l.map λm=>m.asked E.x } :=⟨_,rfl⟩;have hG0:Gd aR [] []=E:=by rw[hG];dsimp only;rw[List.map_nil,<-eE.2.2.2.1,<-eE.2.2.1,<-eE.2.1]
 have hs:=s5.rf;have Fh:=fh.mv lX oN.mv (Mv.sub (s5.sub 4));have rq:(uz n.ds p).length=(kU n.ds p).length:=by simp[uz]
 repeat' refine ao ?_;intros
 refine eI (λn' a w X=> ∃(i:Nat) (iR:Value) (kM:List (List Value)) (aG:Nat->Nat) (n1:bh),a=I (i:Nat)/\n'=(kU n.ds p).length-i/\i<=(kU n.ds p).length/\Sn w0 own w X aG n1/\Told (dH N2 bx (Gd iR kM ((uz n.ds p).take i))) (((uz n.ds p).take i).map λm=>(m.asked E.x).qg (20+d.id)) n1/\kM.length=i/\fh w (bI aG 4) 5 vg oN.rd (kU n.ds p))
  (kU n.ds p).length ⟨0,aR,[],mO,N2,rfl,rfl,aq _,s5,by rw[List.take_zero,hG0,<-e2.1,Uz];exact Told.nil _,rfl,lX⟩ ?_
 clear hs s5 lX Fh;rintro n' _ w6 X6 ⟨i,Lv,Lw,zr,n1,rfl,rfl,hi6,s6,ht,hrw,lX⟩;have hs:=s6.rf;obtain⟨Yg,Q5,xd,Kl⟩:=id ht;have e1:n1.nb=n.nb/\n1.c=d/\n1.A bx=Gd Lv Lw ((uz n.ds p).take i)/\n1.rm.length<=40:=by
  rw[xd];exact⟨e2.2.1,e2.2.2.1,jj,by show Q5.length<=40;rw[Kl,show(dH N2 bx _).rm=n.rm from e2.2.2.2.2.2.1,hk.rm,af,aD];simp;omega⟩
 have lM:n1.gx bx:=by rw[xd];exact fY e2.2.2.2.1
 have Fh:=fh.mv lX oN.mv (Mv.sub (s6.sub 4));rcases dD (kU n.ds p) i with⟨cx,g,hx,hd⟩|⟨dA,hd⟩
 ·repeat' refine aL ?_;intros
  refine GC lX hx rfl kQ kQ λbb oo ll pz jB=>?_;obtain⟨H5,rfl,Lu⟩:=jB;obtain⟨s1,s2,s3,rfl⟩:=Lu.form;have ovk:aJ.one (.slice s1 s2 s3)=true:=Lu.one;replace pz:Cells w6 X6 bb oo [I g.pa.id,I g.pa.iF,.float .f64 g.pa.lo,.float .f64 g.pa.hi,.slice s1 s2 s3]:=Cells.mv pz (Mv.sub (s6.sub 4));repeat' refine ao ?_;intros
  have hm8:(By g).at w6 (bI zr 4) (.slice s1 s2 s3) aR aR aR aR aR aR aR:=⟨Lu,Sl.nil _ _ _,Sl.nil _ _ _,Sl.nil _ _ _,Sl.nil _ _ _,fh.nil _ _ _,fh.nil _ _ _,fh.nil _ _ _⟩;have hpx:(uz n.ds p)[i]? =some (By g):=by unfold uz;rw[List.getElem?_map,hx];rfl
  have hf8:(By g).Dp:=⟨ad (hfg g (ax hx)) dQ,by simp[By,CA],by simp[By,CA],by simp[By,CA]⟩;rw[<-e1.1];refine s6.call (OM (n:=n1) (b:=bx) (m:=By g) s6.h s6.x lM hm8 hf8 (by rw[e1.2.1,d1];exact hi) zQ (by rw[e1.2.2.1,hG];dsimp only;omega)) kQ λv w9 X9 pC n9 s9 q9 m9=>?_;obtain⟨vw9,rw9,Q8,Yh⟩:=q9;rw[e1.2.2.1,e1.2.1] at Yh;clear hs;repeat' refine ao ?_;intros
  refine dS ((kU n.ds p).length-(i+1)) zQ ⟨i+1,vw9,rw9,pC,n9,by simp,rfl,by omega,s9,?_,by rw[Q8,e1.2.2.1,hG];dsimp only;omega,fh.mv lX oN.mv m9⟩;have fO:=ht.set (b:=bx) (e:=Gd vw9 rw9 ((uz n.ds p).take (i+1)));rw[A4] at fO;rw[Dq hpx];refine fO.add ?_;rw[hG] at Yh⊢;dsimp only;rw[Dq hpx];exact Yh
 rw[aB zQ] at ht e1 xd;have e3: ∀d',dH N2 bx d'= { dH n bx d' with c:=d,ck:=fD,al:=cI (il n) bx n.al,ex:=bx::n.ex } :=λd'=>by
  rw[Rf,UC]
  show({ dH (dH n bx E) bx d' with c:=d,ck:=fD,al:=cI (il n) bx n.al,ex:=bx::n.ex } :bh)=_
  rw[A4]
 have Ut: ∀{b},getM (il n) (cI (il n) bx n.al)=some b->b=bx:=λh=>by rw[ku] at h;exact(Option.some.inj h).symm
 have ako:(fj 1 1 p=[])↔(kU n.ds p).length=0:=by
  constructor
  ·intro e;unfold kU mL;rw[af,(pf _).length_eq,af,e];rfl
  ·intro e;cases xi:fj 1 1 p with
   |nil=>rfl
   |cons k r=>
    obtain⟨g,hg,_⟩:=(Ux hk.ds amB).rt k (by rw[xi];simp);have:=List.length_pos_of_mem hg;change 0<(kU n.ds p).length at this;omega
 repeat' refine aL ?_;intros
 refine cJ ?_;have hex: ∀{n':bh},n'.ex=bx::n.ex-> ∀b∈n.ex,b∈n'.ex:=λe b hb=>by rw[e];simp[hb]
 have OR:E.x.aH=il n:=by rw[eE.1];exact Yl
 have Fo:n1.ex=bx::n.ex/\n1.ra=[]/\n1.al=cI (il n) bx n.al/\n1.ds=n.ds/\n1.ms=(uz n.ds p).map λm=>(m.asked E.x).qg (20+d.id):=by
  rw[xd];refine⟨e2.2.2.2.1,e2.2.2.2.2.2.2.1.trans hk.ra,e2.2.2.2.2.2.2.2.2,e2.2.2.2.2.1,?_⟩
  show(dH N2 bx _).ms++_=_
  rw[show(dH N2 bx _).ms=n.ms from e2.2.2.2.2.2.2.2.1,hk.ms,cB]
 have eG: ∀vw rw l,(Gd vw rw l).x=E.x/\(Gd vw rw l).ws=(l.map λm=>m.asked E.x)/\(Gd vw rw l).p=p/\(Gd vw rw l).sn=[]/\(Gd vw rw l).ids=[]/\(Gd vw rw l).pq=false:=λvw rw l=>by rw[hG];exact⟨rfl,rfl,eE.2.2.2.2.2.1,eE.2.2.2.2.1,eE.2.2.2.2.2.2.1,eE.2.2.2.2.2.2.2⟩
 by_cases hg0:(kU n.ds p).length=0
 ·have Gx:=ako.2 hg0;have aqV:uz n.ds p=[]:=List.length_eq_zero_iff.1 zQ;rw[aqV] at ht e1 Fo xd;have sI:=eG Lv Lw [];repeat' refine aL ?_;intros
  rw[<-e1.1];refine s6.call (OH (n:=n1) (b:=bx) s6.h s6.x lM (by rw[e1.2.2.1,sI.1,eE.1]) (by rw[e1.2.2.1,sI.1,sI.2.2.2.2.1,sI.2.2.2.2.2,eE.1];exact⟨rfl,rfl,rfl⟩) (by rw[e1.2.2.1,sI.2.1];rfl) (by rw[e1.2.2.1,sI.2.2.2.1];simp) (by rw[Fo.2.2.2.1];exact hk.ds) (by rw[e1.2.1,d1];exact hi) zQ (by rw[Fo.2.1];simp) (by rw[e1.2.2.1,sI.2.2.1];exact Fg)) kQ λv w7 X7 lj n7 s7 q7 m7=>?_;unfold Px at q7;rw[e1.2.2.1,sI.1,sI.2.2.1,Fo.2.2.2.1,e1.2.1] at q7;rw[e1.1];rcases q7 with⟨jh,a,h9,haw,vm7,rm7,rfl,_⟩|⟨ids,pm,vq,vw7,rw7,bU,adM,zg,nC,hio,vm7,rm7,rfl,_⟩
  ·refine xU s7 (.inr sQ) e1.1 (by show(n1.A bx).x.aH=_;rw[e1.2.2.1,sI.1,OR]) ⟨⟨bx,fD,ji E.x.aH n1.al,vm7,jh,rm7,n1.ra++[a],n1.ms++[],Gd Lv Lw [],by rw[e3] at xd;subst JV xd;rfl,Km,.inl ⟨a,by show n1.ra++[a]=_;rw[Fo.2.1];rfl,by show n1.ms++[]=_;rw[Fo.2.2.2.2];rfl,by show ji E.x.aH n1.al=_;rw[Fo.2.2.1,OR,UA],?_⟩⟩,λ_=>.inr haw,λb _ A5=>by have A5:n1.ra++[a]=[]:=A5;simp at A5⟩ λb hb=>by show b∈bx::n1.ex;rw[Fo.1];simp[hb]
   ·rcases h9 with⟨e,he9,rfl⟩|⟨vs,ov9,rfl⟩
    ·exact .inl ⟨e,he9,by rw[OR]⟩
    ·exact .inr ⟨_,vs,ov9,by rw[OR]⟩
  ·have e7: ∀d':pD,dH n1 bx d'= { dH n bx d' with c:=d,ck:=fD,al:=cI (il n) bx n.al,ex:=bx::n.ex,vm:=Yg,rm:=Q5,ms:=n1.ms } :=λd'=>by
    obtain⟨q,hq⟩: ∃q,q=n1.ms:=⟨_,rfl⟩;have e:n1= { dH N2 bx (Gd Lv Lw [])with vm:=Yg,rm:=Q5,ms:=q } :=by rw[hq];subst xd;rfl
    rw[<-hq,e]
    show({ dH (dH N2 bx (Gd Lv Lw [])) bx d' with vm:=Yg,rm:=Q5,ms:=q } :bh)=_
    rw[A4,e3]
   rw[e7] at s7;refine xU s7 (.inr sQ) rfl (by show((dH n bx _).A bx).x.aH=_;rw[jj];exact OR) ⟨⟨bx,fD,_,_,_,_,_,_,{ Gd Lv Lw [] with x:= { E.x with pre:=true,vq:=vq },vw:=vw7,rw:=rw7,ws:=pm.map λm=>m.asked E.x,ids:=ids },by subst JV;rfl,Km,.inr ⟨hk.ra,rfl,sI.2.2.1,Fg,OR,by show E.x.lp=0;rw[eE.1],by show E.x.mg= .zero;rw[eE.1],⟨sI.2.2.2.1,sI.2.2.2.2.2⟩,?_,?_,?_,λm hm=>?_,.inr ⟨rfl,?_,λm hm=>?_⟩⟩⟩,λA5=>absurd hk.ra A5,λb hb _ _=>?_⟩ λb hb=>by simp[hb]
   ·show n1.ms++_=_
    rw[Fo.2.2.2.2,List.map_nil,cB,bw];rfl
   ·intro e;have:pm=[]:=List.map_eq_nil_iff.1 e;rw[this] at zg;exact bU zg.symm
   ·show(pm.map _).length<=80
    rw[af,<-af (f:=λm:cD=>m.range),zg];exact adM
   ·obtain⟨m0,Lz,rfl⟩:=List.mem_map.1 hm;have hq:=(nC m0 Lz).2.2;exact⟨OR,hq.keys,hq.seen,hq.writes,hq.parts⟩
   ·show(pm.map _).map _=ids
    rw[<-zg,bw];rfl
   ·obtain⟨m0,Lz,rfl⟩:=List.mem_map.1 hm;exact⟨(nC m0 Lz).1,(nC m0 Lz).2.1⟩
   ·have e:=Ut hb;subst e
    show IW p n.ds ((dH n _ _).A _).ids
    rw[jj];exact hio
 ·repeat' refine aL ?_;intros
  have sI:=eG Lv Lw (uz n.ds p);rw[e3] at xd;refine xU s6 lM e1.1 (by rw[e1.2.2.1,sI.1,OR]) ⟨⟨bx,fD,n1.al,n1.vm,n1.va,n1.rm,n1.ra,n1.ms,Gd Lv Lw (uz n.ds p),by subst JV xd;rfl,Km,.inr ⟨Fo.2.1,Fo.2.2.1,sI.2.2.1,Fg,by rw[sI.1,OR],by rw[sI.1,eE.1],by rw[sI.1,eE.1],⟨sI.2.2.2.1,sI.2.2.2.2.2⟩,?_,?_,?_,λm hm=>?_,.inl ⟨by rw[sI.1,eE.1],by rw[sI.1,eE.1],sI.2.2.2.2.1,λm hm=>?_,λe=>hg0 (ako.1 e)⟩⟩⟩,λA5=>absurd Fo.2.1 A5,λb hb A5 hp=>?_⟩ (hex Fo.1)
  ·show n1.ms=_
   rw[Fo.2.2.2.2,sI.2.1,bw,d1];rfl
  ·rw[sI.2.1];intro e;have:(uz n.ds p).length=0:=by have:=congrArg bf e;simpa using this
   omega
  ·rw[sI.2.1,af];omega
  ·rw[sI.2.1] at hm;obtain⟨m0,Lz,rfl⟩:=List.mem_map.1 hm;obtain⟨g,hg,rfl⟩:=List.mem_map.1 Lz;exact⟨OR,ad (hfg g hg) dQ,by simp[By,CA,cD.asked],by simp[By,CA,cD.asked],by simp[By,CA,cD.asked]⟩
  ·rw[sI.2.1] at hm;obtain⟨m0,Lz,rfl⟩:=List.mem_map.1 hm;obtain⟨g,_,rfl⟩:=List.mem_map.1 Lz;rfl
  ·have hb:getM (il n) n1.al=some b:=hb;rw[Fo.2.2.1] at hb;have e:=Ut hb;subst e;have hp:(n1.A _).x.pre=true:=hp;rw[e1.2.2.1,sI.1,eE.1] at hp;cases hp
end
variable {i : Nat} {rs : List (List Value)} {hv : Value} {F : XS}
theorem OS (own:Own w F 0 54 36 hv rs) (hF: ∀k,F k->X k) (hi:i<rs.length) (hr: ∀r∈rs,∀u∈r,aJ.one u=true):
  Ct pg 103 #[hv,I (i:Nat),I ((i+1:Nat):Int)] w X (cU hv) λv wa w'=>Own w' (cU hv) 0 54 36 v (rs.take i++rs.drop (i+1))/\v.ownBlock=hv.ownBlock:=by
 intro w0 hk;have bK:=own.mv ((Mv.sub hF).trans hk.cd);have hT:Ft w0 (cU hv) w0 (bN w0) (cU hv):=Ft.init λk ah=>(bK.ge ah).2;have mX:=bK.sl;have rq: ∀r∈rs,r.length=36:=bK.1;have Rg:(i:Int)+1=((i+1:Nat):Int):=by simp
 refine yO.1 λhs=>?_;rcases bK.row with⟨_,h⟩|⟨g,cap,cs,rfl,gy,br,pV,iH,jG,vj⟩
 ·rw[h] at hi;simp at hi
 have aqW:Sl w0 (bN w0) 36 (.slice (some ⟨g,0,none⟩) rs.length cap) (rs.map id):=by simpa using mX
 repeat' refine ao ?_;intros
 refine acs (i:=i) (j:=i+1) (q:=rs.length) rfl sQ rfl zQ zQ pV kQ kQ λ_=>?_;repeat' refine aL ?_;intros
 refine LA (i:=i) rfl zQ kQ kQ ?_;refine acu mX (i:=i+1) sQ zQ kQ kQ λv2 bA=>?_;have Fp:(rs.drop (i+1)).length=rs.length-(i+1):=bR;have hD:((rs.drop (i+1)).flatten).length=(rs.length-(i+1))*36:=by rw[lS λr jU=>rq r (da jU),Fp]
 have hA:((rs.take i).flatten).length=i*36:=by rw[lS λr jU=>rq r (dc jU),aD];congr 1;omega
 refine Ym (k:=36) (n:=i) kQ br bA (λq hq u hu=>hr q (da hq) u hu) zQ zQ hs.has λw1 X1 c1 rr=>?_;have eh:=hT.ea c1 (λk ah=>ah.symm▸rfl) (F':=cU (.slice (some ⟨g,0,none⟩) rs.length cap)) λk ah=>.inl ah;rw[show i+(rs.drop (i+1)).length=rs.length-1 by omega];rw[show 0+i*36=i*36 by omega] at rr;have aif:cs.take (i*36)=(rs.take i).flatten:=by
  have h1:=congrArg (Al (i*36)) vj;rw[xT,kD (cO _ zQ)] at h1;rw[h1];have LB:rs.flatten=(rs.take i).flatten++(rs.drop i).flatten:=by rw[<-dR,eo]
  rw[LB,gX zQ,aB zQ]
 have pz:i*36+(rs.length-(i+1))*36=(rs.length-1)*36:=by rw[<-jk];congr 1;omega
 have I0:(dr cs (i*36) (rs.drop (i+1)).flatten).take ((rs.length-1)*36)=(rs.take i++rs.drop (i+1)).flatten:=by
  unfold dr;rw[aif,dR,gX (by rw[aa,hA,hD];omega),aB (by rw[aa,hA,hD];omega)]
 have CB:(dr cs (i*36) (rs.drop (i+1)).flatten).length=cap*36:=by
  unfold dr;have hb:(rs.length-1)*36<=cap*36:=cO _ zQ;simp only[aa,aD,bR,hD,jG];omega
 have LC: ∀r∈rs.take i++rs.drop (i+1),r.length=36:=λr jU=>(List.mem_append.1 jU).elim (λe=>rq r (dc e)) λe=>rq r (da e);have BD:(rs.take i++rs.drop (i+1)).length=rs.length-1:=by rw[aa,aD,Fp];omega
 have vu:Own w1 X1 0 54 36 (.slice (some ⟨g,0,none⟩) (rs.length-1) cap) (rs.take i++rs.drop (i+1)):=Own.H9 rr (aq _) LC BD zQ iH CB I0;have ay:Sl w1 X1 36 (.slice (some ⟨g,0,none⟩) (rs.length-1) cap) ((rs.take i++rs.drop (i+1)).map id):=by simpa using vu.sl
 clear hs;have hs:=ai.fK eh.s.has;repeat' refine ao ?_;intros
 rw[BD];refine Yn (k:=36) (i:=rs.length-1) (j:=rs.length) rfl rfl zQ pV zQ kQ kQ ?_;rw[show rs.length-(rs.length-1)=1 by omega,show 0+(rs.length-1)*36=(rs.length-1)*36 by omega];have adN:(rs.length-1)*36+1*36<=cap*36:=by rw[<-jk];exact cO _ zQ
 refine Yo (k:=36) (bytes:=416) (e:=54) (o:=(rs.length-1)*36) (n:=1) rr kQ kQ zQ (by rw[CB];exact adN) eh.s.has λw2 X2 zs UD c2 jI=>?_;have cX:=eh.ea c2 (λk ah=>ah.symm▸rfl) (F':=nX) λk ah=>ah.elim;have xP:(dr (dr cs (i*36) (rs.drop (i+1)).flatten) ((rs.length-1)*36) zs).length=cap*36:=by
  rw[<-CB];generalize dr cs (i*36) (rs.drop (i+1)).flatten=q at CB⊢;unfold dr;simp only[aa,aD,bR,UD];omega
 have xW:(dr (dr cs (i*36) (rs.drop (i+1)).flatten) ((rs.length-1)*36) zs).take ((rs.length-1)*36)=(rs.take i++rs.drop (i+1)).flatten:=by
  rw[<-I0];generalize dr cs (i*36) (rs.drop (i+1)).flatten=q at CB⊢;unfold dr;rw[ak,gX (by rw[aD];omega),aB (by rw[aD];omega)]
 have jV:Own w2 X2 0 54 36 (.slice (some ⟨g,0,none⟩) (rs.length-1) cap) (rs.take i++rs.drop (i+1)):=Own.H9 jI (aq _) LC BD zQ iH xP xW;exact cX.fin λwa aK=>⟨xR (jV.kp aK) λg' rJ=>rJ,rfl⟩
theorem abu (own:Own w F 0 3 1 hv rs) (hF: ∀k,F k->X k) (hi:i<rs.length) (hr: ∀r∈rs,∀u∈r,aJ.one u=true):
  Ct pg 108 #[hv,I (i:Nat),I ((i+1:Nat):Int)] w X (cU hv) λv wa w'=>Own w' (cU hv) 0 3 1 v (rs.take i++rs.drop (i+1))/\v.ownBlock=hv.ownBlock:=by
 intro w0 hk;have bK:=own.mv ((Mv.sub hF).trans hk.cd);have hT:Ft w0 (cU hv) w0 (bN w0) (cU hv):=Ft.init λk ah=>(bK.ge ah).2;have mX:=bK.sl;have rq: ∀r∈rs,r.length=1:=bK.1;have Rg:(i:Int)+1=((i+1:Nat):Int):=by simp
 refine Dr.1 λhs=>?_;rcases bK.row with⟨_,h⟩|⟨g,cap,cs,rfl,gy,br,pV,iH,jG,vj⟩
 ·rw[h] at hi;simp at hi
 have aqW:Sl w0 (bN w0) 1 (.slice (some ⟨g,0,none⟩) rs.length cap) (rs.map id):=by simpa using mX
 repeat' refine ao ?_;intros
 refine acs (i:=i) (j:=i+1) (q:=rs.length) rfl sQ rfl zQ zQ pV kQ kQ λ_=>?_;repeat' refine aL ?_;intros
 refine LA (i:=i) rfl zQ kQ kQ ?_;refine acu mX (i:=i+1) sQ zQ kQ kQ λv2 bA=>?_;have Fp:(rs.drop (i+1)).length=rs.length-(i+1):=bR;have hD:((rs.drop (i+1)).flatten).length=(rs.length-(i+1))*1:=by rw[lS λr jU=>rq r (da jU),Fp]
 have hA:((rs.take i).flatten).length=i*1:=by rw[lS λr jU=>rq r (dc jU),aD];congr 1;omega
 refine Ym (k:=1) (n:=i) kQ br bA (λq hq u hu=>hr q (da hq) u hu) zQ zQ hs.has λw1 X1 c1 rr=>?_;have eh:=hT.ea c1 (λk ah=>ah.symm▸rfl) (F':=cU (.slice (some ⟨g,0,none⟩) rs.length cap)) λk ah=>.inl ah;rw[show i+(rs.drop (i+1)).length=rs.length-1 by omega];rw[show 0+i*1=i*1 by omega] at rr;have aif:cs.take (i*1)=(rs.take i).flatten:=by
  have h1:=congrArg (Al (i*1)) vj;rw[xT,kD (cO _ zQ)] at h1;rw[h1];have LB:rs.flatten=(rs.take i).flatten++(rs.drop i).flatten:=by rw[<-dR,eo]
  rw[LB,gX zQ,aB zQ]
 have pz:i*1+(rs.length-(i+1))*1=(rs.length-1)*1:=by rw[<-jk];congr 1;omega
 have I0:(dr cs (i*1) (rs.drop (i+1)).flatten).take ((rs.length-1)*1)=(rs.take i++rs.drop (i+1)).flatten:=by
  unfold dr;rw[aif,dR,gX (by rw[aa,hA,hD];omega),aB (by rw[aa,hA,hD];omega)]
 have CB:(dr cs (i*1) (rs.drop (i+1)).flatten).length=cap*1:=by
  unfold dr;have hb:(rs.length-1)*1<=cap*1:=cO _ zQ;simp only[aa,aD,bR,hD,jG];omega
 have LC: ∀r∈rs.take i++rs.drop (i+1),r.length=1:=λr jU=>(List.mem_append.1 jU).elim (λe=>rq r (dc e)) λe=>rq r (da e);have BD:(rs.take i++rs.drop (i+1)).length=rs.length-1:=by rw[aa,aD,Fp];omega
 have vu:Own w1 X1 0 3 1 (.slice (some ⟨g,0,none⟩) (rs.length-1) cap) (rs.take i++rs.drop (i+1)):=Own.H9 rr (aq _) LC BD zQ iH CB I0;have ay:Sl w1 X1 1 (.slice (some ⟨g,0,none⟩) (rs.length-1) cap) ((rs.take i++rs.drop (i+1)).map id):=by simpa using vu.sl
 clear hs;have hs:=ai.fK eh.s.has;repeat' refine ao ?_;intros
 rw[BD];refine Yn (k:=1) (i:=rs.length-1) (j:=rs.length) rfl rfl zQ pV zQ kQ kQ ?_;rw[show rs.length-(rs.length-1)=1 by omega,show 0+(rs.length-1)*1=(rs.length-1)*1 by omega];have adN:(rs.length-1)*1+1*1<=cap*1:=by rw[<-jk];exact cO _ zQ
 refine Yo (k:=1) (bytes:=8) (e:=3) (o:=(rs.length-1)*1) (n:=1) rr kQ kQ zQ (by rw[CB];exact adN) eh.s.has λw2 X2 zs UD c2 jI=>?_;have cX:=eh.ea c2 (λk ah=>ah.symm▸rfl) (F':=nX) λk ah=>ah.elim;have xP:(dr (dr cs (i*1) (rs.drop (i+1)).flatten) ((rs.length-1)*1) zs).length=cap*1:=by
  rw[<-CB];generalize dr cs (i*1) (rs.drop (i+1)).flatten=q at CB⊢;unfold dr;simp only[aa,aD,bR,UD];omega
 have xW:(dr (dr cs (i*1) (rs.drop (i+1)).flatten) ((rs.length-1)*1) zs).take ((rs.length-1)*1)=(rs.take i++rs.drop (i+1)).flatten:=by
  rw[<-I0];generalize dr cs (i*1) (rs.drop (i+1)).flatten=q at CB⊢;unfold dr;rw[ak,gX (by rw[aD];omega),aB (by rw[aD];omega)]
 have jV:Own w2 X2 0 3 1 (.slice (some ⟨g,0,none⟩) (rs.length-1) cap) (rs.take i++rs.drop (i+1)):=Own.H9 jI (aq _) LC BD zQ iH xP xW;exact cX.fin λwa aK=>⟨xR (jV.kp aK) λg' rJ=>rJ,rfl⟩
theorem abv {b:Value} {ks:List BA} {sn:List fc} (ha:Sl w X 1 a (ks.map S1)) (hb:Sl w X 7 b (sn.map fc.l)):
  Ct pg 101 #[a,b,.func (.func 102) #[] #[]] w X nX λv _ _=> ∃e,v=B e:=by
 intro w0 hk;replace ha:=ha.mv hk.cd;replace hb:=hb.mv hk.cd;have kV:=ha.gN;have Kk: ∀{k:BA} {x:fc} {w1:World} {X1:XS},Ct pg 102 #[.string k,.agg x.l.toArray] w1 X1 nX λv _ _=>v=B (decide (k=x.key)):=by
  intro k x w1 X1 w0 hk;have hs:=ai.init w0;refine Ia.1 λ_=>?_;repeat' first|refine ao ?_;intros|refine cP ?_ ?_<;>intros|(refine qr ?_;intro wa hk;(congr 1;simp_all))
 refine oO.1 λhs=>?_;repeat' first|refine ao ?_;intros|refine cP ?_ ?_<;>intros|(refine qr ?_;intro wa hk;exact⟨_,rfl⟩)
 refine eI (λn a w X=> ∃i:Nat,a=I (i:Nat)/\n=(ks).length-i/\i<=(ks).length/\ai (bN w0) w0 X w/\True) (ks).length ⟨0,rfl,rfl,aq _,hs,by trivial⟩ ?_;rintro n a w X ⟨i,rfl,rfl,hi,hs,hw⟩;rcases dD (ks) i with⟨cx,k,hx,hd⟩|⟨dA,hd⟩
 ·obtain⟨x,XR,_⟩: ∃x,sn[i]? =some x/\sn.drop i=x::sn.drop (i+1):=(dD sn i).elim (λh=>h.2) λh=>by omega
  repeat' first|refine aL ?_;intros|(refine qr ?_;intro wa hk;exact⟨_,rfl⟩)|((with_reducible refine dS ((ks).length-(i+1)) ?_ ?_);omega;exact⟨i+1,by simp,rfl,by omega,hs,trivial⟩)|(refine qv (Kk (k:=k) (x:=x)) hs ?_ ?_<;>intro _ w X hs)
 ·repeat' first|refine aL ?_;intros|(refine qr ?_;intro wa hk;exact⟨_,rfl⟩)
variable {rows : List (List Value)}
theorem fA.cut {K:XS} {ms:List cD} (h:fA w K rows ms) (i:Nat):fA w K (rows.take i++rows.drop (i+1)) (ms.take i++ms.drop (i+1)):=by
 refine⟨by simp[h.1],λj l x hl hx=>?_⟩;by_cases hj:j<min i rows.length
 ·rw[dM (by simpa using hj)] at hl;rw[dM (by rw[aD,<-h.1];exact hj)] at hx;rw[fR zQ] at hl hx;exact h.2 j l x hl hx
 ·rw[cQ (by simpa using Nat.le_of_not_lt hj)] at hl;rw[cQ (by rw[aD,<-h.1];omega)] at hx;rw[aD,gp] at hl hx;rw[<-h.1] at hx;exact h.2 _ l x hl hx
def xj (d:pD) (i:Nat) (m:cD) (xk iR:Value) (kM:List (List Value)):pD:= { d with x:= { d.x with vs:=xk },vw:=iR,rw:=kM,ws:=d.ws.take i++d.ws.drop (i+1),sn:=d.sn++m.seen }
def I2 (n:bh) (m:cD) (n':bh):Prop:=
 (∃fD,n'= { n with ck:=fD })\/An n m false n'\/ ∃(b i:Nat) (y:cD) (fD:bX) (xk iR:Value) (kM:List (List Value)) (n1:bh),GF n m false b i y/\n1= { dH n b (xj (n.A b) i m xk iR kM)with ck:=fD } /\
  (((n.A b).ws.length≠1/\n'=n1)\/((n.A b).ws.length=1/\ ∃n2,Px n1 b n2/\n'= { n2 with ex:=n.ex }))
variable {m : cD}
section
variable {n : bh}
theorem tp.get {N:Nat} (h:tp N M n) (hN:N<=2^20):n.ra.length<=2^20/\ ∀b,getM m.aH n.al=some b->n.rm.length+(n.A b).ids.length<=2^20:=by
 rw[h.ra,h.rm];exact⟨by simp,λb hg=>by have:=(h.act _ b hg).ids;simp;omega⟩
theorem Yp {vk vs vw vp vr vc vh vd:Value} {N:Nat} (h:jD w own n) (hX:rO own X) (hm:m.at w (bI own 4) vk vs vw vp vr vc vh vd) (fO:m.aV.may=true) (hk:tp N M n) (hN:N+m.seen.length<=2^20):
  Ct pg 55 #[ptr n.nb 0,m.v vk vs vw vp vr vc vh vd] w X (gC own) λ_ wa w'=>NQ dV own wa w' λ_ n'=>I2 n m n':=by
 intro w0 iq;have s0:=St.init h hX iq;replace hm:=hm.mv (zf hX iq);have hi:1<=n.c.id/\n.c.id<=2:=by rw[hk.id];decide
 clear h hX iq;refine LF.1 λ_=>?_;refine s0.call (Ib s0.h s0.x hk.pre fO hm.ranges hi (hk.get (m:=m) zQ).1 (λb hb=>(hk.act _ b hb).pq) (hk.get zQ).2) kQ λv w1 X1 ic n1 s1 q1 m1=>?_;rcases q1 with⟨rfl,q1⟩|⟨b,i,y,fD,hw,rfl,rfl⟩
 ·have hs:=s1.rf;repeat' first|refine ao ?_;intros|with_reducible apply cJ
  exact s1.fin λ_ _=>q1.elim (λ⟨c,e,_⟩=>.inl ⟨c,e⟩) λe=>.inr (.inl e)
 replace hm:=hm.mv m1;have hb:n.gx b:=.inl ⟨_,hw.g⟩;have Ds:=hk.act _ b hw.g;have aqX:=Ds.ws;have ats:=Ds.sn;have nM:=s1.h.act (b:=b) hb;have H4:(n.A b).rw.length=(n.A b).ws.length:=nM.2.2.2.1.1;have nN:i<(n.A b).ws.length:=(List.getElem?_eq_some_iff.1 hw.gJ).1;obtain⟨l,hl⟩: ∃l,(n.A b).rw[i]? =some l:=⟨_,List.getElem?_eq_getElem zQ⟩;obtain⟨uk,us,uw,up,ur,uc,uh,ud,rfl,dg⟩:=nM.2.2.2.1.2 i l y hl hw.gJ;have aqY:Sl w1 X1 36 (n.A b).vw ((n.A b).rw.map id):=by rw[List.map_id];exact nM.2.1.sl.mono (s1.sub _ iy.1)
 obtain⟨ha,oa⟩:=s1.va (b:=b) hb;clear nM;have hs:=s1.rf;repeat' first|refine ao ?_;intros|with_reducible apply cJ
 refine cA (abv (dg.keys.mono (s1.sub 4)) (hm.seen.mono (s1.sub 4))) kQ hs.has ?_;rintro v xQ w2 X2 ⟨e,rfl⟩ lD kh bA;have s2:=s1.since (hs.trans bA);replace hm:=hm.mv ((hs.trans bA).gW (s1.sub 4));clear hs bA aqY ha s1;have hs:=s2.rf;cases e
 ·repeat' refine ao ?_;intros
  exact s2.fin λ_ _=>.inl ⟨fD,rfl⟩
 obtain⟨ha,oa⟩:=s2.va (b:=b) hb;repeat' refine ao ?_;intros
 refine s2.ap1 (tx b 0) (tx b 2) 0 (s2.h.act (b:=b) hb).1 (s2.h.act (b:=b) hb).2.2.1 (hm.seen.mono (s2.sub 4)) (λr hr u hu=>?_) (by simp only[af];omega) (λv=>dV (dH { n with ck:=fD } b { n.A b with x:= { (n.A b).x with vs:=v },sn:=(n.A b).sn++m.seen })) (λ_ _ _ _ h=>qT dQ h) (λ_ _ _ _ h=>qT dQ (by show Own _ _ 0 snT 7 _ (((n.A b).sn++m.seen).map fc.l);rw[List.map_append];exact h)) (λ_ _ _ _ _ h=>h) (λv'=>IX) (λv5 w5 X5 mO s5 m5=>?_) (zd:=by unfold tx;omega)
 ·obtain⟨x,_,rfl⟩:=List.mem_map.1 hr;simp only[List.mem_cons,List.not_mem_nil,or_false] at hu;rcases hu with rfl|rfl|rfl|rfl|rfl|rfl|rfl<;>rfl
 clear hs s2 ha;have hs:=s5.rf;obtain⟨ha,oa⟩:=s5.vs (n:= { n with ck:=fD }) hb;have hh:fA w5 (bI mO 4) (n.A b).rw (n.A b).ws:=by have:=(s5.h.act (b:=b) hb).2.2.2.1;rw[jj] at this;exact this
 repeat' refine ao ?_;intros
 have nM:=s5.h.act (b:=b) hb;rw[jj] at nM;refine s5.aih (tx b 0) (tx b 1) (tx b 3) nM.1 nM.2.1 (OS (F:=X5) (nM.2.1.mono (s5.sub _ iy.1)) (λ_ h=>h) (by show i<(n.A b).rw.length;omega) hh.Yq) (λv=>dV (dH { n with ck:=fD } b (xj (n.A b) i m v5 v ((n.A b).rw.take i++(n.A b).rw.drop (i+1))))) (λ_ _ _ _ h=>qT dQ h) (λ_ _ _ _ h=>qT dQ h)
  (λv' w' K A mv p=>qT dQ (by rw[wq _ _ _ dQ] at p;have p:=p hb;rw[jj] at p;exact⟨(hh.cut i).mv mv,p.2⟩)) (λv'=>Q4) (λv8 w8 X8 S9 s8 m8=>?_) (zd:=by unfold tx;omega)
 clear hs ha nM hh s5;have hs:=s8.rf;obtain⟨n3,sJ⟩: ∃n3:bh,n3= { dH n b (xj (n.A b) i m v5 v8 ((n.A b).rw.take i++(n.A b).rw.drop (i+1)))with ck:=fD } :=⟨_,rfl⟩;replace s8:Sn w0 own w8 X8 S9 n3:=by rw[sJ];exact s8
 have e3:n3.A b=xj (n.A b) i m v5 v8 ((n.A b).rw.take i++(n.A b).rw.drop (i+1))/\n3.nb=n.nb/\n3.ex=n.ex:=by rw[sJ];exact⟨jj,rfl,rfl⟩
 have rM:n3.gx b:=by rw[sJ];exact hb
 obtain⟨ha,oa⟩:=s8.va rM;have hl7:((n.A b).rw.take i++(n.A b).rw.drop (i+1)).length=(n.A b).ws.length-1:=by simp;omega
 have att:Sl w8 X8 36 v8 (((n.A b).rw.take i++(n.A b).rw.drop (i+1)).map id):=by have:=(s8.h.act rM).2.1.sl.mono (s8.sub _ iy.1);rw[e3.1] at this;rw[List.map_id];exact this
 rw[e3.1] at ha;by_cases h1:(n.A b).ws.length=1
 ·have hq:=Ds.q hw.pre;repeat' refine aL ?_;intros
  rw[<-e3.2.1];refine s8.call (OH (n:=n3) (b:=b) s8.h s8.x rM (by rw[e3.1];exact hw.pre) (by rw[e3.1];exact⟨hq.1,hq.2,Ds.pq⟩) (by rw[e3.1];exact List.length_eq_zero_iff.1 (by simp[xj];omega)) (by rw[e3.1];simp[xj];omega) (by rw[sJ];exact hk.ds) (by rw[sJ];exact hi) (by rw[sJ];show n.rm.length<=_;rw[hk.rm];simp) (by rw[sJ];show n.ra.length<=_;rw[hk.ra];simp) (by rw[e3.1];exact Ds.p)) kQ λv w4 X4 lR n4 s4 q4 _=>?_;have s5:=s4.to (H8 (e':=n.ex) λb' dW=>by
   rcases q4 with⟨_,_,_,_,_,_,rfl,_⟩|⟨_,_,_,_,_,_,_,_,_,_,_,_,rfl,_⟩
   ·show b'∈b::n3.ex;rw[e3.2.2];simp[dW]
   ·show b'∈n3.ex;rw[e3.2.2];exact dW)
  exact s5.fin λ_ _=>.inr (.inr ⟨b,i,y,fD,_,_,_,n3,hw,sJ,.inr ⟨h1,n4,q4,rfl⟩⟩)
 ·repeat' refine aL ?_;intros
  exact s8.fin λ_ _=>.inr (.inr ⟨b,i,y,fD,_,_,_,n3,hw,sJ,.inl ⟨h1,rfl⟩⟩)
end
def vy (n:Int):Prop:= -9223372036854775808<=n/\n<9223372036854775808
variable {n : Int}
theorem acv (h:vy n) (h0:0<=n):(xX n:Int)=2*n:=by
 unfold vy at h;unfold xX;rw[if_neg zQ];omega
theorem acw (h:vy n) (h0:n<0):(xX n:Int)= -1-2*n:=by
 unfold vy at h;unfold xX;rw[if_pos h0];omega
variable {u : Nat}
theorem acx (h:u<128):qh u=[u]:=by rw[qh,if_pos h]
theorem acy (h: ¬u<128):qh u=(u % 128+128)::qh (u/128):=by rw[qh,if_neg h]
variable {P : Program} {N : Value -> Prop} {t : TypeId} {z : Int} {c k : Nat}
theorem amC: ∀b:Nat,b<256->(aF 8 (b:Int)&&& aF 8 127).toNat=b % 128:=by decide+kernel
theorem aii (hb:b<256) (h:N (.int .u8 ((b % 128:Nat):Int))):aX P X w (binOp .and t (.int .u8 (b:Int)) (.int .u8 127)) N:=
 Nk (by
  have e:IntKind.u8.wrap (aF IntKind.u8.bits (b:Int)&&& aF IntKind.u8.bits 127).toNat=((b % 128:Nat):Int):=by
   rw[No];have:=amC b hb
   show((aF 8 (b:Int)&&& aF 8 127).toNat:Int) % 256=_
   rw[this];omega
  grind)
theorem amD (hu:u<18446744073709551616) (h:N (.int .u64 ((u % 2:Nat):Int))):aX P X w (binOp .and t (.int .u64 (u:Int)) (.int .u64 1)) N:=
 Nk (by
  have e:IntKind.u64.wrap (aF IntKind.u64.bits (u:Int)&&& aF IntKind.u64.bits 1).toNat=((u % 2:Nat):Int):=by
   rw[wrap64];have h1:(aF 64 (u:Int))=rP 64 u:=by simp
   have h2:(aF 64 1)=rP 64 1:=by decide
   show((aF 64 (u:Int)&&& aF 64 1).toNat:Int) % 18446744073709551616=_
   rw[h1,h2,BitVec.toNat_and,iL,iL,fq (by omega:u<2^64)];have:u&&& 1 % 2^64=u % 2:=Nat.and_one_is_mod u;rw[this];omega
  grind)
theorem amE {a b:Int} (h1: -9223372036854775808<=a*b) (h2:a*b<9223372036854775808) (h:N (I (a*b))):aX P X w (binOp .mul t (I a) (I b)) N:=
 SU (by
  have e:IntKind.i64.wrap (a*b)=a*b:=by
   simp only[AA,mP,jW];simp;omega
  grind)
theorem amF (k:Nat):2^(7*k)=128^k:=by rw[Nat.pow_mul]
theorem amG (hz:z=7*(k:Int)) (hk:k<=9) (hc:c*128^k<18446744073709551616) (h:N (.int .u64 ((c*128^k:Nat):Int))):aX P X w (binOp .shl t (.int .u64 (c:Int)) (I z)) N:=
 SX zQ (by
  rw[wrap64];have e:((c:Int)*2^min z.toNat IntKind.u64.bits) % 18446744073709551616=((c*128^k:Nat):Int):=by
   have h1:min z.toNat IntKind.u64.bits=7*k:=by
    show min z.toNat 64=7*k
    omega
   rw[h1];have h2:(2:Int)^(7*k)=((128^k:Nat):Int):=by rw[<-amF];simp
   rw[h2,<-Int.natCast_mul];omega
  grind)
theorem ak4 (hz:z=7*(k:Int)) (hk:k<=9) (qt:c<256) (hc:c*128^k<18446744073709551616) (h:N (.int .u64 ((c*128^k:Nat):Int))):aX P X w (binOp .shl t (.int .u64 (IntKind.u64.wrap (c:Int))) (I z)) N:=by
 have e:IntKind.u64.wrap (c:Int)=c:=by rw[wrap64];omega
 rw[e];exact amG hz hk hc h
theorem af2 {a:Nat} (ha:a<2^k):a|||c*2^k=a+c*2^k:=by
 have:=Nat.two_pow_add_eq_or_of_lt ha c;rw[Nat.or_comm,Nat.add_comm,Az];omega
theorem ak5 {a:Nat} (ha:a<128^k) (cx:a+c*128^k<18446744073709551616) (h:N (.int .u64 ((a+c*128^k:Nat):Int))):aX P X w (binOp .or t (.int .u64 (a:Int)) (.int .u64 ((c*128^k:Nat):Int))) N:=
 Rh (by
  have e:IntKind.u64.wrap (aF IntKind.u64.bits (a:Int)|||aF IntKind.u64.bits ((c*128^k:Nat):Int)).toNat=((a+c*128^k:Nat):Int):=by
   rw[wrap64];have h1:(aF 64 (a:Int))=rP 64 a:=by simp
   have h2:(aF 64 ((c*128^k:Nat):Int))=rP 64 (c*128^k):=by rw[BitVec.ofInt_natCast]
   show((aF 64 (a:Int)|||aF 64 ((c*128^k:Nat):Int)).toNat:Int) % 18446744073709551616=_
   rw[h1,h2,BitVec.toNat_or,iL,iL,fq (by omega:a<2^64),fq (by omega:c*128^k<2^64)];have:a|||c*128^k=a+c*128^k:=by rw[<-amF] at ha⊢;exact af2 ha
   rw[this];omega
  grind)
theorem amH (h:N (.int .u64 ((u/2:Nat):Int))):aX P X w (binOp .shr t (.int .u64 (u:Int)) (.int .u64 1)) N:=
 ET zQ (by
  have e:((u:Int)).fdiv (2^min (1:Int).toNat IntKind.u64.bits)=((u/2:Nat):Int):=by
   show((u:Int)).fdiv 2=_
   rw[Int.fdiv_eq_ediv_of_nonneg _ dQ];omega
  grind)
theorem WW (hu:u<9223372036854775808):IntKind.i64.wrap (u:Int)=u:=by
 simp only[AA,mP,jW];simp;omega
theorem amI (hu:u<9223372036854775808) (h:N (I (-1-(u:Int)))):aX P X w (Op.unary .xor (I (IntKind.i64.wrap (u:Int)))) N:=by
 rw[WW hu];refine bB (v:=I (-1-(u:Int))) (λwa=>?_) h;have key:(aF 64 (-1)^^^aF 64 (u:Int)).toNat=18446744073709551615-u:=by
  have h1:aF 64 (-1)=BitVec.allOnes 64:=by decide
  have h2:(aF 64 (u:Int))=rP 64 u:=by simp
  rw[h1,h2,BitVec.allOnes_xor,BitVec.toNat_not,iL,fq zQ]
 have hk:(Op.unary .xor (I (u:Int))).run P wa= .ok (I (IntKind.i64.wrap (aF 64 (-1)^^^aF 64 (u:Int)).toNat)) wa:=by
  simp only[Op.unary,Op.intBits,jW,mP];rfl
 rw[hk,key];have:IntKind.i64.wrap ((18446744073709551615-u:Nat):Int)= -1-(u:Int):=by
  simp only[AA,mP,jW];simp;omega
 rw[this]
structure Ce (w:World) (X:XS) (rb:Nat) (vb:Value) (at_:Nat) (pl:Int) (bs:List Nat):Prop where
 box:aI w X rb [vb,I at_,I 0,I pl] 315
 ow:Ow w X 5 1 vb (bs.map U1)
 le:at_<=bs.length
 sz:bs.length<=2^40
 lt: ∀b∈bs,b<256
variable {bs : List Nat} {pl : Int} {vb : Value} {at_ rb : Nat}
def Ce.mv {Y:XS} (h:Ce w X rb vb at_ pl bs) (m:Mv X w Y w'):Ce w' Y rb vb at_ pl bs:=⟨h.box.mv m,h.ow.mv m,h.le,h.sz,h.lt⟩
variable {gJ : Nat}
theorem Ce.next {pl':Int} (h:Ce w X rb vb at_ pl bs) (c:ee (λk=>k=rb) X w X' w') (hr:aI w' X' rb [vb,I gJ,I 0,I pl'] 315) (hl:gJ<=bs.length):
  Ce w' X' rb vb gJ pl' bs:=⟨hr,h.ow.ea c λg hg e=>h.ow.eT h.box (by rfl) (e▸hg),hl,h.sz,h.lt⟩
variable {tl : List Nat}
theorem Kn (h:Ce w X rb vb at_ pl bs) (he:bs.drop at_=encI n++tl) (hn:vy n):
  Ct pg 325 #[ptr rb 0,I at_] w X nX λv _ _=>v= .tuple #[I n,I ((at_+(encI n).length:Nat):Int),B true]:=by
 intro w0 hk;replace h:=h.mv hk.cd;have hb:=h.box;have mX:=h.ow.sl;have gf:=h.sz;have hz:=af3 n;refine Ic.1 λhs=>?_;refine BE (λm a b c w X=> ∃(k acc:Nat),a=I ((at_+k:Nat):Int)/\b= .int .u64 (acc:Int)/\c=B false/\m=10-k/\k<=9/\acc=xX n % 128^k/\(k=0\/128^k<=xX n)/\bs.drop (at_+k)=qh (xX n/128^k)++tl/\
  (encI n).length=k+(qh (xX n/128^k)).length/\ai (bN w0) w0 X w) 10 ⟨0,0,by simp,rfl,rfl,rfl,by omega,by omega,.inl rfl,by simpa [encI] using he,by simp[encI],hs⟩ ?_
 clear hs;rintro m a b c w X ⟨k,acc,rfl,rfl,rfl,rfl,aK,aij,iq,hd,hlen,hs⟩;have hp:0<128^k:=Nat.pow_pos dQ;have UE:acc<128^k:=by rw[aij];exact Nat.mod_lt _ hp
 generalize hq:xX n/128^k=q at hd hlen;have hzq:xX n=acc+q*128^k:=by rw[aij,<-hq,Az];exact(Nat.mod_add_div _ _).symm
 obtain⟨c,r,Ko,UF⟩: ∃c r,qh q++tl=c::r/\((q<128/\c=q)\/(¬q<128/\c=q % 128+128/\r=qh (q/128)++tl)):=by
  by_cases h1:q<128
  ·exact⟨q,tl,by rw[acx h1];rfl,.inl ⟨h1,rfl⟩⟩
  ·exact⟨_,_,by rw[acy h1];rfl,.inr ⟨h1,rfl,rfl⟩⟩
 rw[Ko] at hd;have hx:bs[at_+k]? =some c:=by
  have:=congrArg (λl:List Nat=>l[0]?) hd;simpa using this
 have cx:at_+k<bs.length:=(List.getElem?_eq_some_iff.1 hx).1;have apl:=h.lt c (ax hx);have amJ:k=9->q<=1:=λe=>by
  subst e;have:q*128^9<18446744073709551616:=by omega
  omega
 have iH:c % 128=q % 128:=by rcases UF with⟨h1,rfl⟩|⟨h1,rfl,_⟩<;>omega
 have lM:c % 128*128^k<=q*128^k:=cO _ (by rw[iH];exact Nat.mod_le _ _);have he1:k=9->c % 128<=1:=λe=>by have:=amJ e;omega
 have uu:q<128->(encI n).length=k+1/\c=q:=λh1=>⟨by rw[hlen,acx h1];rfl,by rcases UF with⟨_,e⟩|⟨h2,_⟩;exact e;exact absurd h1 h2⟩
 have xe:c=0->k=0:=λe=>by
  rcases iq with h1|h1
  ·exact h1
  ·have:1<=q:=by rw[<-hq];exact Nat.div_pos h1 hp
   rcases UF with⟨_,e2⟩|⟨_,e2,_⟩<;>omega
 have hc9:k=9->c<128:=λe=>by
  have:=amJ e;rcases UF with⟨_,e2⟩|⟨h2,_,_⟩<;>omega
 have hS:c<128->acc+c % 128*128^k=xX n/\(encI n).length=k+1:=λh1=>by
  have h2:q<128:=by rcases UF with⟨h2,_⟩|⟨_,h2,_⟩<;>omega
  rw[iH,fq h2];exact⟨hzq.symm,(uu h2).1⟩
 have lq:c<128->(acc+c % 128*128^k) % 2=1->(-1-(((acc+c % 128*128^k)/2:Nat):Int))=n:=λh1 h2=>by
  rw[(hS h1).1] at h2⊢;by_cases h3:n<0
  ·have:=acw hn h3;omega
  ·have:=acv hn zQ;omega
 have rN:c<128-> ¬(acc+c % 128*128^k) % 2=1->IntKind.i64.wrap (((acc+c % 128*128^k)/2:Nat):Int)=n:=λh1 h2=>by
  rw[(hS h1).1] at h2⊢;rw[WW zQ];by_cases h3:n<0
  ·have:=acw hn h3;omega
  ·have:=acv hn zQ;omega
 have H3:c<128->((at_+k:Nat):Int)+1=((at_+(encI n).length:Nat):Int):=λh1=>by rw[(hS h1).2];omega
 repeat' first|refine aL ?_;intros|refine cP ?_ ?_<;>intros|with_reducible apply cJ|(with_reducible refine aii apl ?_)|(with_reducible refine amE zQ zQ ?_)|((with_reducible refine ak4 (k:=k) zQ aK zQ zQ ?_))|((with_reducible refine ak5 UE zQ ?_))|(with_reducible apply amH)|((with_reducible refine amD zQ ?_))|((with_reducible refine amI zQ ?_))|(refine qr ?_;intro wa hk;(rw[lq zQ zQ,H3 zQ]))|(refine qr ?_;intro wa hk;(rw[rN zQ zQ,H3 zQ]))
 have dA: ¬q<128:=λh1=>by have:=(uu h1).2;omega
 obtain⟨AX,jU⟩:c=q % 128+128/\r=qh (q/128)++tl:=by
  rcases UF with⟨h1,_⟩|⟨_,h2,h3⟩
  ·exact absurd h1 dA
  ·exact⟨h2,h3⟩
 have nC:128^(k+1)=128^k*128:=Nat.pow_succ ..;have hqd:xX n/128^(k+1)=q/128:=by rw[nC,<-Nat.div_div_eq_div_mul,hq]
 refine zU (10-(k+1)) zQ ⟨k+1,acc+c % 128*128^k,by rfl,rfl,rfl,rfl,by omega,?_,.inr ?_,?_,?_,hs⟩
 ·rw[nC,Nat.mod_mul,hq,iH,aij,Az (128^k)]
 ·rw[nC,hzq];have:128*128^k<=q*128^k:=cO _ zQ;omega
 ·rw[hqd,<-jU,<-Nat.add_assoc,<-iu,hd];rfl
 ·rw[hqd,hlen,acy dA,aM];omega
variable {v : Value} {e : Nat}
theorem Yn {t:Nat} {z':Int} {j:Nat} (h:Ow w X e k v rows) (bU:rows≠[]) (hz:z=i) (uX:z'=j) (zd:i<=j) (hj:j<=rows.length)
  (ht:P.underlying t=some (.slice (P.elem t))) (hs:(P.info? (P.elem t)).map (·.size)=some k)
  (n: ∀b o cap,Cells w X b o ((rows.drop i).take (j-i)).flatten->j-i<=cap->cap<=2^63-1->N (.slice (some ⟨b,o,none⟩) (j-i) cap)):aX P X w (Instr.sliceAt t v (some (.int .i64 z)) (some (.int .i64 z')) none) N:=by
 subst hz;subst uX;obtain⟨h1,⟨rfl,rfl⟩|⟨g,off,cap,cur,rfl,hx,hg,pV,iH,jG,vj⟩⟩:=h
 ·exact absurd rfl bU
 have hq: ∃inf,P.info? (P.elem t)=some inf/\inf.size=k:=by
  cases hq:P.info? (P.elem t)with
  |none=>simp[hq] at hs
  |some inf=>exact⟨inf,rfl,by simpa [hq] using hs⟩
 obtain⟨inf,hq,gf⟩:=hq;have DZ:cap<=2^63-1:=ad iH dQ;have oB: ∀wa:World,(Instr.sliceAt t (.slice (some ⟨g,off,none⟩) rows.length cap) (some (.int .i64 (i:Int))) (some (.int .i64 (j:Int))) none).run P wa= .ok (.slice (some ⟨g,if cap=i then off else off+i*k,none⟩) (j-i) (cap-i)) wa:=λwa=>by
  rw[run_sliceAt_slice wa t _ _ _ _ ht,run_slice_lh wa t _ _ cap ht .i64 .i64 i j zQ zQ zQ];by_cases hc:cap=i
  ·simp[sizeOf,typeInfo,hq,gf,sliced,hc]
  ·simp[sizeOf,typeInfo,hq,gf,sliced,Addr.add_lit,hc]
 refine bB oB (n _ _ _ ⟨hx,cur,e,(0,0),hg,λq u hu=>?_⟩ zQ zQ);have hr: ∀r∈rows.drop i,r.length=k:=λr hr=>h1 r (da hr);rw[aJ.lY (j-i) hr,aJ.Dt i h1,<-vj] at hu;have hql:q<(j-i)*k:=by
  have:=(List.getElem?_eq_some_iff.1 hu).1;simp only[aD] at this;omega
 rw[fR hql,gp] at hu;have nN:i*k+q<rows.length*k:=by
  have h3:i*k+(j-i)*k=j*k:=by rw[<-jk];congr 1;omega
  have h4:=cO k hj;omega
 rw[fR nN,gp] at hu;rw[Array.getElem?_toList] at hu;by_cases hc:cap=i
 ·exfalso;have:j-i=0:=by omega
  rw[this] at hql;simp at hql
 ·rw[if_neg hc];rw[<-Nat.add_assoc] at hu;exact hu
def aik (f:FuncId) (args:Array Value) (w:World) (X:XS) (rb:Nat) (vb:Value) (gJ:Nat) (pl:Int) (res:Value):Prop:=
 Ct pg f args w X (λk=>k=rb) λv _ w'=>v=res/\aI w' (λk=>k=rb) rb [vb,I gJ,I 0,I pl] 315
theorem Ce.ft (h:Ce w X rb vb at_ pl bs) (hk:Kp X w w0):Ft w0 (λk=>k=rb) w0 (bN w0) (λk=>k=rb):=
 Ft.init λk e=>by subst e;exact(h.mv hk.cd).box.1
theorem ail (h:Ce w X rb vb at_ pl bs) (he:bs.drop at_=encI n++tl) (hn:vy n):
  aik 261 #[ptr rb 0] w X rb vb (at_+(encI n).length) pl (I n):=by
 intro w0 hk;have hT:=h.ft hk;replace h:=h.mv hk.cd;have hb:=h.box;refine LG.1 λ_=>?_;repeat' refine aL ?_;intros
 refine dZ (Kn h he hn) kQ hT.s.has λw1 X1 ay=>?_;have eh:=hT.since ay;have lM:=hb.since ay;repeat' first|refine ao ?_;intros|with_reducible apply cJ
 refine pW (o:=1) lM zQ kQ sQ rfl eh.s.has λw2 X2 c2 jI=>?_;have cX:Ft w0 (λk=>k=rb) w2 X2 (λk=>k=rb):=eh.ea c2 (λk ah=>ah) λk ah=>.inl ah
 skip
 exact cX.fin λwa aK=>⟨rfl,rfl,by rw[aK.block _ jI.1];exact jI.2⟩
variable {most : Int}
theorem adO {e:Int} {n:Nat} (h:Ce w X rb vb at_ pl bs) (he:bs.drop at_=encI n++tl) (hn:(n:Int)<=most) (hm:most<2^62):
  Ct pg 330 #[ptr rb 0,I most,I e] w X nX λv _ _=>v= .tuple #[I n,I ((at_+(encI n).length:Nat):Int),B true]:=by
 intro w0 hk;replace h:=h.mv hk.cd;have hb:=h.box;refine I3.1 λhs=>?_;repeat' refine ao ?_;intros
 refine dZ (Kn h he (by unfold vy;omega)) kQ hs.has λw1 X1 ay=>?_;have hs:=hs.trans ay;repeat' refine aL ?_;intros
 exact bQ hs λwa aK=>rfl
theorem adP {n:Nat} (h:Ce w X rb vb at_ pl bs) (he:bs.drop at_=encI n++tl) (hn:(n:Int)<=most) (hm:most<2^62):
  aik 269 #[ptr rb 0,I most] w X rb vb (at_+(encI n).length) pl (I n):=by
 intro w0 hk;have hT:=h.ft hk;replace h:=h.mv hk.cd;have hb:=h.box;refine I4.1 λ_=>?_;repeat' refine aL ?_;intros
 refine dZ (adO h he hn hm) kQ hT.s.has λw1 X1 ay=>?_;have eh:=hT.since ay;have lM:=hb.since ay;repeat' first|refine ao ?_;intros|with_reducible apply cJ
 refine pW (o:=1) lM zQ kQ sQ rfl eh.s.has λw2 X2 c2 jI=>?_;have cX:Ft w0 (λk=>k=rb) w2 X2 (λk=>k=rb):=eh.ea c2 (λk ah=>ah) λk ah=>.inl ah
 skip
 exact cX.fin λwa aK=>⟨rfl,rfl,by rw[aK.block _ jI.1];exact jI.2⟩
theorem af4: ∀l:List Nat,(l.map U1).flatten=l.map λx:Nat=>Value.int .u8 x
 |[]=>rfl
 |x::l=>by rw[List.map_cons,cV,af4 l];rfl
theorem af5 (h:Ce w X rb vb at_ pl bs):
  Ct pg 270 #[ptr rb 0] w X nX λv _ _=>v=I ((bs.length:Int)-at_):=by
 intro w0 hk;replace h:=h.mv hk.cd;have hb:=h.box;have mX:=h.ow.sl;have gf:=h.sz;have hle:=h.le;refine KG.1 λhs=>?_;repeat' refine aL ?_;intros
 exact bQ hs λwa aK=>rfl
theorem Ri (h:Ce w X rb vb at_ pl bs):
  Ct pg 195 #[ptr rb 0] w X nX λv _ _=>v= .tuple #[I 0,I pl]:=by
 intro w0 hk;replace h:=h.mv hk.cd;have hb:=h.box;refine I5.1 λhs=>?_;repeat' refine ao ?_;intros
 exact bQ hs λwa aK=>rfl
theorem aim (h:Ce w X rb vb at_ pl bs) (he:at_=bs.length):
  Ct pg 135 #[ptr rb 0] w X nX λv _ _=>v= .tuple #[I 0,I pl]:=by
 intro w0 hk;replace h:=h.mv hk.cd;have hb:=h.box;have mX:=h.ow.sl;have gf:=h.sz;refine LH.1 λhs=>?_;repeat' refine aL ?_;intros
 refine dZ (Ri (h.mv hs.mv)) kQ hs.has λw1 X1 ay=>?_;have hs:=hs.trans ay;repeat' refine ao ?_;intros
 exact bQ hs λwa aK=>rfl
theorem ain {v0:Value} (h:Sl w X 1 v0 (bs.map U1)) (gf:bs.length<=2^40) (cx: ∀b∈bs,b<256):
  Ct pg 133 #[v0] w X nX λv wa w'=> ∃rb vb,v=ptr rb 0/\Ce w' (made wa w') rb vb 0 0 bs:=by
 intro w0 hk;replace h:=h.mv hk.cd;refine NW.1 λhs=>?_;repeat' first|(with_reducible apply adQ);(case hX=>exact hs.has);(case hu=>kernel_rfl);(case hz=>kernel_rfl);intro acc w X ay ho;replace hs:=hs.trans ay
 refine qu ho hs (λ_ h=>h) kQ (h.mv hs.mv) (λr hr u hu=>?_) oQ oQ λv1 w1 X1 Yr vu GG atu=>?_
 ·obtain⟨x,_,rfl⟩:=List.mem_map.1 hr;simp at hu;subst hu;rfl
 clear hs ay;have hs:=Yr;obtain⟨b1,n1,c1,rfl⟩:=vu.sl.form;repeat' first|refine ao ?_;intros|(refine OQ hs ?_;intro bx w X fY ay gn hs br)
 have hz:=Yr.kp.size;refine bQ gn λwa aK=>⟨bx,.slice b1 n1 c1,rfl,⟨⟨⟨by omega,?_⟩,?_⟩,?_,aq _,gf,cx⟩⟩
 ·have:=ay.has bx br.1;have:=aK.size;omega
 ·rw[aK.block _ br.1];exact br.2
 ·exact((vu.since ay).kp aK).tight.ow
theorem CC (cs:List Value) (o:Nat) (l:List Value) (h:o+l.length<=cs.length):(dr cs o l).length=cs.length:=by
 unfold dr;simp only[aa,aD,bR];omega
theorem UG (cs:List Value) (o:Nat) (a b:List Value) (h:o+a.length+b.length<=cs.length):dr (dr cs o a) (o+a.length) b=dr cs o (a++b):=by
 unfold dr;have h1:(cs.take o).length=o:=by rw[aD];omega
 have e1:(cs.take o++a++cs.drop (o+a.length)).take (o+a.length)=cs.take o++a:=by
  rw[ik (by rw[aa,h1])]
 have e2:(cs.take o++a++cs.drop (o+a.length)).drop (o+a.length+b.length)=cs.drop (o+(a++b).length):=by
  rw[<-iu,j6 (by rw[aa,h1]),iu,aa]
  congr 1;omega
 rw[e1,e2];simp only[ak]
abbrev amK (rb:Nat):List Value:=[.pointer none,ptr rb 0]
structure RB (w:World) (X:XS) (rb:Nat) (vb:Value) (at_:Nat) (pl:Int) (bs:List Nat) (cb xb:Nat) (cs:List Value) (ty:TypeId):Prop where
 r:Ce w X rb vb at_ pl bs
 x:aI w X xb cs ty
 c:Cells w X cb 0 (amK rb)
 c1:cb≠rb
 c2:cb≠xb
 rx:rb≠xb
 vx: ¬cU vb xb
structure RS (w0 w:World) (X:XS) (rb:Nat) (vb:Value) (at_:Nat) (pl:Int) (bs:List Nat) (cb xb:Nat) (cs:List Value) (ty:TypeId):Prop extends RB w X rb vb at_ pl bs cb xb cs ty where
 t:Ft w0 (λk=>k=rb\/k=xb) w X (λk=>k=rb\/k=xb)
def RdC (f:FuncId) (args:Array Value) (w:World) (X:XS) (rb:Nat) (vb:Value) (gJ:Nat) (pl:Int) (xb:Nat) (oh:List Value) (ty:TypeId):Prop:=
 Ct pg f args w X (λk=>k=rb\/k=xb) λv _ w'=>v= .tuple #[]/\aI w' (λk=>k=rb) rb [vb,I gJ,I 0,I pl] 315/\aI w' (λk=>k=xb) xb oh ty
variable {o xb xo : Nat} {cs oh : List Value} {ty : TypeId}
section
theorem RB.start (h:RB w X rb vb at_ pl bs cb xb cs ty) (hk:Kp X w wa):RS wa wa (bN wa) rb vb at_ pl bs cb xb cs ty:=
 ⟨⟨h.r.mv hk.cd,h.x.mv hk.cd,h.c.mv hk.cd,h.c1,h.c2,h.rx,h.vx⟩,Ft.init λk e=>by rcases e with rfl|rfl;exact(h.r.mv hk.cd).box.1;exact(h.x.mv hk.cd).1⟩
def RS.since (h:RS w0 w X rb vb at_ pl bs cb xb cs ty) (hs:ai X w X' w'):RS w0 w' X' rb vb at_ pl bs cb xb cs ty:=
 ⟨⟨h.r.mv hs.mv,h.x.since hs,h.c.mv hs.mv,h.c1,h.c2,h.rx,h.vx⟩,h.t.since hs⟩
theorem _root_.Go.aJ.Cells.ea {l:List Value} (h:Cells w X b o l) (c:ee F X w X' w') (hn: ¬F b):Cells w' X' b o l:=by
 obtain⟨hx,cs,t,fr,hb,hc⟩:=h;exact⟨c.sub b hx,cs,t,fr,by rw[c.block b hx hn];exact hb,hc⟩
def RS.aqZ (h:RS w0 w X rb vb at_ pl bs cb xb cs ty) (c:ee (λk=>k=rb) X w X' w') (hr:aI w' X' rb [vb,I gJ,I 0,I pl] 315) (hl:gJ<=bs.length):RS w0 w' X' rb vb gJ pl bs cb xb cs ty:=
 ⟨⟨h.r.next c hr hl,h.x.ea c (λe=>h.rx e.symm),h.c.ea c h.c1,h.c1,h.c2,h.rx,h.vx⟩,h.t.ea c (λ_ e=>.inl e) λk e=>.inl e⟩
def RS.aio (h:RS w0 w X rb vb at_ pl bs cb xb cs ty) (c:ee (λk=>k=xb) X w X' w') (hr:aI w' X' xb oh ty):RS w0 w' X' rb vb at_ pl bs cb xb oh ty:=
 ⟨⟨⟨h.r.box.ea c h.rx,h.r.ow.ea c λg hg e=>h.vx (e▸hg),h.r.le,h.r.sz,h.r.lt⟩,hr,h.c.ea c h.c2,h.c1,h.c2,h.rx,h.vx⟩,h.t.ea c (λ_ e=>.inr e) λk e=>.inl e⟩
def RB.PA (h:RB w X rb vb at_ pl bs cb xb cs ty) (c:ee (λk=>k=rb\/k=xb) X w X' w') (hr:aI w' X' rb [vb,I gJ,I 0,I pl] 315) (hl:gJ<=bs.length) (hx:aI w' X' xb oh ty):RB w' X' rb vb gJ pl bs cb xb oh ty:=
 ⟨⟨hr,h.r.ow.ea c λg hg e=>e.elim (λe=>h.r.ow.eT h.r.box kQ (e▸hg)) λe=>h.vx (e▸hg),hl,h.r.sz,h.r.lt⟩,hx,h.c.ea c λe=>e.elim h.c1 h.c2,h.c1,h.c2,h.rx,h.vx⟩
def RS.PA (h:RS w0 w X rb vb at_ pl bs cb xb cs ty) (c:ee (λk=>k=rb\/k=xb) X w X' w') (hr:aI w' X' rb [vb,I gJ,I 0,I pl] 315) (hl:gJ<=bs.length) (hx:aI w' X' xb oh ty):RS w0 w' X' rb vb gJ pl bs cb xb oh ty:=
 ⟨h.toRB.PA c hr hl hx,h.t.ea c (λ_ e=>e) λk e=>.inl e⟩
variable {f : FuncId} {args : Array Value} {N : Value -> World -> XS -> Prop}
theorem RS.read {res:Value} (h:RS w0 w X rb vb at_ pl bs cb xb cs ty) (hc:aik f args w X rb vb gJ pl res) (hf:enters pg f=true) (hl:gJ<=bs.length)
  (k: ∀w' X',RS w0 w' X' rb vb gJ pl bs cb xb cs ty->N res w' X'):eC pg R X w true f args N:=
 zq hc hf h.t.s.has (λk e=>e▸h.r.box.1) λv wa w' X' ⟨hv,hr⟩ _ _ _ c=>by subst hv;exact k w' X' (h.aqZ c ⟨c.sub _ h.r.box.1,hr.2⟩ hl)
theorem RS.call (h:RS w0 w X rb vb at_ pl bs cb xb cs ty) (hc:RdC f args w X rb vb gJ pl xb oh ty) (hf:enters pg f=true) (hl:gJ<=bs.length)
  (k: ∀w' X',RS w0 w' X' rb vb gJ pl bs cb xb oh ty->N (.tuple #[]) w' X'):eC pg R X w true f args N:=
 zq hc hf h.t.s.has (λk e=>e.elim (λe=>e▸h.r.box.1) λe=>e▸h.x.1) λv wa w' X' ⟨hv,hr,hx⟩ _ _ _ c=>by
  subst hv;exact k w' X' (h.PA c ⟨c.sub _ h.r.box.1,hr.2⟩ hl ⟨c.sub _ h.x.1,hx.2⟩)
theorem RS.out (h:RS w0 w X rb vb at_ pl bs cb xb cs ty) (hk:Kp X w wa):dh #[]=dh #[]/\aI wa (λk=>k=rb) rb [vb,I at_,I 0,I pl] 315/\aI wa (λk=>k=xb) xb cs ty:=
 ⟨rfl,⟨rfl,by rw[hk.block _ h.r.box.1];exact h.r.box.2⟩,⟨rfl,by rw[hk.block _ h.x.1];exact h.x.2⟩⟩
theorem UH (h:RB w X rb vb at_ pl bs cb xb cs ty):Ct pg 262 #[ptr cb 0] w X nX λv _ _=>v= .tuple #[]:=by
 intro wi hk;have hS:=h.start hk;have hc:=hS.c;refine KH.1 λ_=>?_;have hs:=ai.init wi;repeat' refine ao ?_;intros
 refine dZ (Ri (hS.r.mv hs.mv)) kQ hs.has λw1 X1 ay=>?_;have hs:=hs.trans ay;repeat' refine aL ?_;intros
 exact bQ hs λwa aK=>rfl
theorem RB.mY {a b:List Nat} (h:RB w X rb vb at_ pl bs cb xb cs ty) (he:bs.drop at_=a++b):at_+a.length<=bs.length:=by
 have h1:=congrArg bf he;rw[bR,aa] at h1;have h2:=h.r.le;omega
theorem ry {a b:List Nat} (he:bs.drop at_=a++b):bs.drop (at_+a.length)=b:=by
 rw[<-iu,he,List.drop_left]
theorem pE (h:RB w X rb vb at_ pl bs cb xb cs ty) (he:bs.drop at_=encI n++tl) (hn:vy n) (ho:xo+1<=cs.length):
  RdC 183 #[ptr cb 0,ptr xb xo] w X rb vb (at_+(encI n).length) pl xb (dr cs xo [I n]) ty:=by
 intro wi hk;have hS:=h.start hk;have hc:=hS.c;have Fp:=hS.mY he;refine Du.1 λ_=>?_;have hs:=ai.fK hS.t.s.has;repeat' refine ao ?_;intros
 refine hS.read (ail hS.r he hn) kQ Fp λw1 X1 mh=>?_;clear hs;have hs:=ai.fK mh.t.s.has;repeat' refine ao ?_;intros
 refine GD (o:=xo) mh.x rfl kQ ho rfl rfl mh.t.s.has λw2 X2 c2 jI=>?_;have bm:=mh.aio c2 jI;refine dZ (UH bm.toRB) kQ bm.t.s.has λw3 X3 dm=>?_;have bW:=bm.since dm;clear hs;have hs:=ai.fK bW.t.s.has
 skip
 exact bW.t.fin λwa aK=>bW.out aK
theorem af6 (cs:List Value) (o:Nat) (a b c:Value) (h:o+3<=cs.length):dr (dr (dr cs o [a]) (o+1) [b]) (o+2) [c]=dr cs o [a,b,c]:=by
 have h1:=UG cs o [a] [b] oQ;have h2:=UG cs o ([a]++[b]) [c] oQ;simp only[aM,bF,List.cons_append,cB] at h1 h2;rw[<-h2,<-h1]
theorem akp {a b c:Int} (he:bs.drop at_=(encI a++encI b++encI c)++tl):bs.drop at_=encI a++(encI b++(encI c++tl)):=by rw[he];simp only[ak]
def adR (s:bX):Prop:=vy s.wall/\vy s.dx/\vy s.node
def D1 (t:bu):Prop:=vy t.dU/\vy t.aN/\vy t.sq
theorem abw {s:bX} (h:RB w X rb vb at_ pl bs cb xb cs ty) (he:bs.drop at_=lE s++tl) (hn:adR s) (ho:xo+3<=cs.length):
  RdC 189 #[ptr cb 0,ptr xb xo] w X rb vb (at_+(lE s).length) pl xb (dr cs xo [I s.wall,I s.dx,I s.node]) ty:=by
 intro wi hk;have hS:=h.start hk;have e1:bs.drop at_=encI s.wall++(encI s.dx++(encI s.node++tl)):=akp he;have e2:=ry e1;have e3:=ry e2;have Dv:(dr cs xo [I s.wall]).length=cs.length:=CC _ _ _ oQ;have xP:(dr (dr cs xo [I s.wall]) (xo+1) [I s.dx]).length=cs.length:=(CC _ _ _ (by simp[Dv];omega)).trans Dv;refine BF.1 λ_=>?_;repeat' first|refine ao ?_;intros|(with_reducible refine tr kQ kQ ?_)
 refine hS.call (pE (xo:=xo) hS.toRB e1 hn.1 zQ) kQ (hS.mY e1) λw1 X1 mh=>?_;repeat' first|refine ao ?_;intros|(with_reducible refine tr kQ kQ ?_)
 refine mh.call (pE mh.toRB e2 hn.2.1 zQ) kQ (mh.mY e2) λw2 X2 bm=>?_;repeat' first|refine ao ?_;intros|(with_reducible refine tr kQ kQ ?_)
 refine bm.call (pE bm.toRB e3 hn.2.2 zQ) kQ (bm.mY e3) λw3 X3 bW=>?_
 skip
 rw[af6 _ _ _ _ _ ho] at bW;have e:at_+(encI s.wall).length+(encI s.dx).length+(encI s.node).length=at_+(lE s).length:=by unfold lE;simp only[aa];omega
 rw[e] at bW;exact bW.t.fin λwa aK=>bW.out aK
theorem UI {s:bu} (h:RB w X rb vb at_ pl bs cb xb cs ty) (he:bs.drop at_=nR s++tl) (hn:D1 s) (ho:xo+3<=cs.length):
  RdC 187 #[ptr cb 0,ptr xb xo] w X rb vb (at_+(nR s).length) pl xb (dr cs xo [I s.dU,I s.aN,I s.sq]) ty:=by
 intro wi hk;have hS:=h.start hk;have e1:bs.drop at_=encI s.dU++(encI s.aN++(encI s.sq++tl)):=akp he;have e2:=ry e1;have e3:=ry e2;have Dv:(dr cs xo [I s.dU]).length=cs.length:=CC _ _ _ oQ;have xP:(dr (dr cs xo [I s.dU]) (xo+1) [I s.aN]).length=cs.length:=(CC _ _ _ (by simp[Dv];omega)).trans Dv;refine Dw.1 λ_=>?_;repeat' first|refine ao ?_;intros|(with_reducible refine tr kQ kQ ?_)
 refine hS.call (pE (xo:=xo) hS.toRB e1 hn.1 zQ) kQ (hS.mY e1) λw1 X1 mh=>?_;repeat' first|refine ao ?_;intros|(with_reducible refine tr kQ kQ ?_)
 refine mh.call (pE mh.toRB e2 hn.2.1 zQ) kQ (mh.mY e2) λw2 X2 bm=>?_;repeat' first|refine ao ?_;intros|(with_reducible refine tr kQ kQ ?_)
 refine bm.call (pE bm.toRB e3 hn.2.2 zQ) kQ (bm.mY e3) λw3 X3 bW=>?_
 skip
 rw[af6 _ _ _ _ _ ho] at bW;have e:at_+(encI s.dU).length+(encI s.aN).length+(encI s.sq).length=at_+(nR s).length:=by unfold nR;simp only[aa];omega
 rw[e] at bW;exact bW.t.fin λwa aK=>bW.out aK
end
def inV (v:gK):Prop:=v.may=true/\v.num<18446744073709551616
theorem inV.kind {v:gK} (h:inV v):v=gK.zero\/(v.kind=1/\v.text=⟨#[]⟩/\v.num=canon v.num)\/(v.kind=2/\v.num=0/\v.text.size<=64):=by
 obtain⟨h,_⟩:=h;unfold gK.may at h;split at h
 ·rename_i h0;simp only[aC,decide_eq_true_eq] at h;exact .inl (gK.ext h0 h.1 h.2)
 ·split at h
  ·rename_i h1;simp only[aC,decide_eq_true_eq] at h;exact .inr (.inl ⟨h1,h.1,h.2⟩)
  ·split at h
   ·rename_i h2;simp only[aC,decide_eq_true_eq] at h;exact .inr (.inr ⟨h2,h.1,by omega⟩)
   ·cases h
theorem aip {t lo:Nat} {r:List Value} (h:Own w X lo e k v (rows++[r])) (hz:z=rows.length)
  (ht:P.underlying t=some (.slice (P.elem t))) (hs:(P.info? (P.elem t)).map (·.size)=some k)
  (n: ∀g cs,aI w X g cs e->lo<=g->v.ownBlock=some g->rows.length*k+k<=cs.length->cs.take (rows.length*k)=rows.flatten->
   (∀w' X' r',r'.length=k->aI w' X' g (dr cs (rows.length*k) r') e->Own w' X' lo e k v (rows++[r']))->N (ptr g (rows.length*k))):aX P X w (mG t k v (.int .i64 z)) N:=by
 subst hz;have mX:=h.sl;obtain⟨h1,h2,h3⟩:=h;have hlr:(rows++[r]).length=rows.length+1:=by simp
 rcases h2.2 with⟨rfl,hn⟩|⟨g,cap,cur,rfl,hb,hg,pV,iH,jG,vj⟩
 ·rw[hlr] at hn;cases hn
 rw[hlr] at pV vj;have sF:(rows.length+1)*k=rows.length*k+k:=Nat.succ_mul _ _;have BB:(rows.length+1)*k<=cap*k:=cO k pV;have iT:rows.flatten.length=rows.length*k:=by
  have h4: ∀x∈rows,x.length=k:=λx hx=>h1 x (bz _ hx);exact lS h4
 have amL:cur.toList.take (rows.length*k)=rows.flatten:=by
  have:=congrArg (Al (rows.length*k)) vj;rw[xT,kD zQ,dR,ik iT] at this;exact this
 have pz:cur.toList.length=cur.size:=Array.length_toList;have hA:rows.length*k+k<=cur.toList.length:=by rw[pz,jG,<-sF];exact BB
 unfold mG;refine bB (λwa=>?_) (n g cur.toList ⟨h3 g rfl,by simpa using hg⟩ hb rfl hA amL ?_)
 ·rw[run_indexAt_slice (h:=ht),if_pos (by rw[hlr];omega)];cases hq:P.info? (P.elem t)with
  |none=>simp[hq] at hs
  |some inf=>
   have:inf.size=k:=by simpa [hq] using hs
   simp[sizeOf,typeInfo,hq,this,Aw]
 ·intro w' X' r' jU br;refine⟨λx hx=>?_,⟨?_,.inr ⟨g,cap,(dr cur.toList (rows.length*k) r').toArray,?_,hb,br.2,by rw[aa];exact pV,iH,?_,?_⟩⟩,λq hq=>?_⟩
  ·rcases List.mem_append.1 hx with hx|hx
   ·exact h1 x (bz _ hx)
   ·simp only[List.mem_singleton] at hx;subst hx;exact jU
  ·rw[dR,aa,iT];simp[jU,sF]
  ·rw[aa,aa];rfl
  ·rw[List.size_toArray,CC _ _ _ (by rw[jU];exact hA),pz];exact jG
  ·show Al _ (dr _ _ _)=_
   unfold dr;rw[aa,List.length_singleton,sF,dR,amL];simp only[cV,List.flatten_nil,List.append_nil];rw[ik (by rw[aa,iT,jU])]
  ·cases hq;exact br.1
abbrev ki:Value:=.slice none 0 0
structure adS (w0:World) (rb:Nat) (vb:Value) (cb xb:Nat):Prop where
 r:rb<w0.heap.size
 x:xb<w0.heap.size
 c:cb<w0.heap.size
 v: ∀g,cU vb g->g<w0.heap.size
def RS.apm (h:RS w0 w0 (bN w0) rb vb at_ pl bs cb xb cs ty):adS w0 rb vb cb xb:=⟨h.r.box.1,h.x.1,h.c.1,λg hg=>(h.r.ow.bo hg).1⟩
theorem RS.aq0 {G:XS} (h:RS w0 w X rb vb at_ pl bs cb xb cs ty) (e:adS w0 rb vb cb xb) (c:ee G X w X' w') (hG: ∀k,G k->X k/\w0.heap.size<=k):RS w0 w' X' rb vb at_ pl bs cb xb cs ty:=by
 have no: ∀{k},k<w0.heap.size-> ¬G k:=λhk hg=>by have:=(hG _ hg).2;omega
 refine⟨⟨⟨h.r.box.ea c (no e.r),h.r.ow.ea c λg hg xN=>no (e.v g hg) xN,h.r.le,h.r.sz,h.r.lt⟩,h.x.ea c (no e.x),h.c.ea c (no e.c),h.c1,h.c2,h.rx,h.vx⟩,?_⟩;exact(h.t.more (F':=λk=>(k=rb\/k=xb)\/G k) λk hk=>hk.imp id λhg=>hG k hg).ea c (λk hg=>.inr hg) λk hk=>.inl (.inl hk)
theorem RS.apn {g:Nat} (h:RS w0 w X rb vb at_ pl bs cb xb cs ty) (e:adS w0 rb vb cb xb) (c:ee (λk=>k=rb\/k=g) X w X' w') (hg:X g/\w0.heap.size<=g) (hr:aI w' X' rb [vb,I gJ,I 0,I pl] 315) (hl:gJ<=bs.length):RS w0 w' X' rb vb gJ pl bs cb xb cs ty:=by
 have ex:=e.x;have ec:=e.c;have er:=e.r;refine⟨⟨⟨hr,h.r.ow.ea c λq hq zN=>zN.elim (λe2=>h.r.ow.eT h.r.box kQ (e2▸hq)) λe2=>by have:=e.v q hq;omega,hl,h.r.sz,h.r.lt⟩,h.x.ea c (λe2=>e2.elim (λe2=>h.rx e2.symm) λe2=>by omega),h.c.ea c (λe2=>e2.elim h.c1 λe2=>by omega),h.c1,h.c2,h.rx,h.vx⟩,?_⟩;exact(h.t.more (F':=λk=>(k=rb\/k=xb)\/k=g) λk hk=>hk.imp id λ(e2:k=g)=>by subst e2;exact hg).ea c (λk hk=>hk.elim (λe2=>.inl (.inl e2)) .inr) λk hk=>.inl (.inl hk)
theorem adT (cs:List Value) (o:Nat) (a b:Value) (h:o+1<=cs.length):dr (dr cs o [a]) o [b]=dr cs o [b]:=by
 have h1:(cs.take o).length=o:=by rw[aD];omega
 unfold dr;simp only[aM,bF];have e1:(cs.take o++[a]++cs.drop (o+1)).take o=cs.take o:=by rw[ak,ik h1]
 have e2:(cs.take o++[a]++cs.drop (o+1)).drop (o+1)=cs.drop (o+1):=by rw[j6 (by simp[h1])]
 simp only[Nat.zero_add] at*;rw[e1,e2]
theorem Dx {u:Value} (h:aI w X xb (dr cs o [u]) ty) (ho:o+1<=cs.length):Cells w X xb o [u]:=by
 have h1:(cs.take o).length=o:=by rw[aD];omega
 refine⟨h.1,_,ty,(0,0),h.2,λj x hj=>?_⟩;cases j with
 |zero=>
  simp at hj;subst hj;rw[List.getElem?_toArray,Nat.add_zero];unfold dr;rw[ak,cQ zQ,h1];simp
 |succ j=>simp at hj
end Go.Proofs.YtgfijddlkhkopaaGreat