/-
 racelaw17.CoordVotes returns true, whatever it is called with, where what it reads is of bulk at most 1048576; the input reads as it did.
-/
import Derived.Test.YtgfijddlkhkopaaGreatH13
set_option linter.all false
open Nat renaming zero_le → ak, le_trans → ad, le_refl → au, lt_of_lt_of_le → aw, mul_le_mul_right → bR, le_add_right → kc, le_succ → dD, succ_mul → ly, mul_comm → mZ, le_of_not_lt → Bx, lt_or_gt_of_ne → zH, succ_le_of_lt → AF
open List renaming length_map → af, mem_of_getElem? → av, nil_append → bp, length_append → aa, map_append → aC, length_singleton → bF, mem_singleton → ax, take_add_one → bW, getElem?_map → cN, mem_append_right → cC, mem_or_eq_of_mem_set → jB, length_take → aD, take_length → ke, mem_append_left → bq, append_nil → fM, getElem?_append_right → bQ, length_cons → aJ, length_nil → bL, map_cons → bh, mem_cons_of_mem → bG, foldl_cons → fN, getElem?_append_left → cV, getElem?_cons_succ → iV, take_append_drop → fy, mem_cons_self → mj, exists_mem_of_ne_nil → tZ, append_assoc → ao, getElem?_drop → ee, ext_getElem? → lj, getElem?_take → iM, pairwise_cons → mu, getElem?_eq_getElem → aS, any_eq_false → AG, foldl_append → nu
open Classical renaming byContradiction → dz
open Go.Value renaming tuple → dq
open Option renaming toList_some → mw
open Bool renaming and_eq_true → aA
namespace Go.Proofs.YtgfijddlkhkopaaGreat
open Go.Proofs.Tryz renaming prog → pg
open Go.aK
set_option maxRecDepth 100000
set_option maxHeartbeats 4000000
attribute [local irreducible] un jn jh ji ld1 jt st1 nW mP pN sR qj JG ET gT rY aY nU nV eW eV eU eC eF gE nB fin jl bC dF vS N9 JH JI HP JJ JK Oa Ob JL Oc Gi Gj JM JN JO Od Oe JP
theorem afX {l:List (List Nat)} (h: ∀p∈l,xm p):xm (flat l):=λx hx=>by
 obtain⟨y,hy,hx⟩:=List.mem_flatten.1 hx;obtain⟨z,hz,rfl⟩:=List.mem_map.1 hy;exact Um (h z hz) x hx
theorem pF.aqF {dir:ByteArray} {pre:List dV} {s:dV} {lM:List Nat} {sf:Nat} {m:DM} (h:pF dir pre s lM sf m) (hg:Good (pre++[s])) (ht:xm lM): ∀n,xm (m.bytes n):=λn=>by
 cases hq:m.get n with
 |none=>unfold DM.bytes;rw[hq];intro x hx;cases hx
 |some y=>
  have hm:=h.ks.mem_iff.1 (DM.get_some.1 (by rw[hq];rfl));obtain⟨t,xT,rfl⟩:=List.mem_map.1 hm;have hb:xm (flat t.bw):=afX λp hp=>((hg.ok t xT).pl p hp).2;rcases List.mem_append.1 xT with xT|xT
  ·rw[vM (h.body t xT)];exact hb
  ·simp only[ax] at xT;subst xT;rw[vM h.last];exact uI hb ht
theorem yJ.Pm {k:Nat} {P:kL->Prop} {m:DM} (h:yJ k P m) (cT:List Int):(∀x∈(m.mE cT).fs,x.1.size<=2^40)/\(m.mE cT).fs.length<=64/\ ∀n,xm ((m.mE cT).bytes n):=by
 obtain⟨pre,s,lM,sf,_,hg,ht,Ui,hd⟩:=h.2 cT;refine⟨λx hx=>?_,?_,hd.aqF hg Ui⟩
 ·have hm:x.1∈(m.mE cT).ks:=List.mem_map.2 ⟨x,hx,rfl⟩;obtain⟨t,_,e⟩:=List.mem_map.1 (hd.ks.mem_iff.1 hm);rw[<-e,Bl]
  decide
 ·have h1:=congrArg List.length (Po m cT);rw[DM.wB,DM.wB] at h1;rw[h1];exact h.1
theorem yJ.names {k:Nat} {P:kL->Prop} {m:DM} (h:yJ k P m): ∀x∈m.fs,x.1.size<=2^40:=λx hx=>by
 have hm:x.1∈(m.mE []).ks:=by rw[Po];exact List.mem_map.2 ⟨x,hx,rfl⟩
 obtain⟨y,hy,e⟩:=List.mem_map.1 hm;rw[<-e];exact(h.Pm []).1 y hy
inductive CS where
 |up (n:br)
 |dn (nb:Nat) (m:DM) (P:kL->Prop)
def CS.nb:CS->Nat
 | .up n=>n.nb
 | .dn nb _ _=>nb
def CS.out:CS->Value
 | .up n=>.agg #[n.vm,n.va]
 | .dn _ _ _=>.agg #[aX,aX]
def CS.Hi:CS->CS
 | .up n=>.up (eQ n)
 | .dn nb m P=>.dn nb m P
def CS.ra:CS->List (List Value)
 | .up n=>n.ra
 | .dn _ _ _=>[]
def CS.ms:CS->List cJ
 | .up n=>n.ms
 | .dn _ _ _=>[]
def CS.Is (w:World) (own:Nat->Nat) (db:Nat):CS->Prop
 | .up n=>j9 w own n/\n.db=db
 | .dn nb m _=>adN w own nb db m
def CS.ad4 (w:World) (own:Nat->Nat):CS->Prop
 | .up n=>Ba w own n
 | .dn _ _ _=>True
def CS.Ok (k N:Nat):CS->Prop
 | .up n=>gz k N n
 | .dn _ m P=>DnS k P m
structure Nf (a:kL) (n:br):Prop where
 abs:n.abs=(a.1+1,a.2)
 fZ:n.c.fZ=0
 al:n.al=[]
 ds:n.ds=L5
 ms:n.ms=[]
 ra:n.ra=[]
theorem DM.aia (m:DM) (z:Int):(m.oX z).fs=m.fs/\(m.oX z).dn=m.dn:=by
 unfold DM.oX;split<;>exact⟨rfl,rfl⟩
theorem wQ.oX {L:LM} {m:DM} {k:Nat} {a:kL} (h:wQ ⟨L,m⟩ k a) (z:Int):wQ ⟨L,m.oX z⟩ k a:=by
 obtain⟨pre,sg,h1,h2,h3,h4⟩:=h;obtain⟨e1,e2⟩:=m.aia z;have eg: ∀n,(m.oX z).get n=m.get n:=λn=>by unfold DM.get;rw[e1]
 have ek:(m.oX z).ks=m.ks:=by unfold DM.ks;rw[e1]
 have es:(m.oX z).sz=m.sz:=by unfold DM.sz;rw[e1]
 refine⟨pre,sg,⟨h1.bJ,h1.g,⟨?_,?_,λt ht=>?_,?_,h1.d.sf⟩,?_,?_,?_,h1.d1,h1.d2,h1.r1,h1.r2⟩,h2,h3,h4⟩
 ·show(m.oX z).ks.Nodup;rw[ek];exact h1.d.nd
 ·show(m.oX z).ks.Perm _;rw[ek];exact h1.d.ks
 ·show(m.oX z).get _=_;rw[eg];exact h1.d.body t ht
 ·show(m.oX z).get _=_;rw[eg];exact h1.d.last
 ·show(m.oX z).dn=false;rw[e2];exact h1.dn
 ·show(m.oX z).sz<=_;rw[es];exact h1.sz
 ·show(m.oX z).fs.length<=_;rw[e1];exact h1.fl
def gz.oX {k N:Nat} {n:br} (h:gz k N n) (z:Int):gz k N { n with m:=n.m.oX z } :=
 ⟨⟨h.ok.id,h.ok.act,h.ok.ds,h.ok.ms,h.ok.vm,h.ok.va,h.ok.rm,h.ok.ra,h.ok.cl,h.ok.Xq,h.ok.mM,h.ok.pre,h.ok.cw,h.ok.byT⟩,h.bl,h.log.oX z,h.fZ,h.aR,λt b hg=>let q:=h.act t b hg;⟨q.co,q.aR,q.sq,q.bl⟩,h.abs,h.BZ⟩
def SQ:CS->jd->bX->CS->Prop
 | .up n,o,t,s1=>(o.kind=1/\t=iU n/\ ∃n1,s1= .up n1/\Ef n o.prog n1)\/(o.kind=2/\t= .zero/\((∃n1,s1= .up n1/\CT n o.m n1)\/ ∃m',s1= .dn n.nb m' (ad3 n o.m)/\IV n o.m m'))\/(o.kind=3/\t= .zero/\ ∃n1,s1= .up n1/\Gz n n1)\/
   (o.kind=4/\t= .zero/\s1= .up { n with m:=n.m.oX o.n })\/(o.kind=5/\t= .zero/\ ∃n1,s1= .up n1/\Nf n.abs n1)\/((o.kind<1\/5<o.kind)/\t= .zero/\s1= .up n)
 | .dn nb m P,o,t,s1=>(o.kind=5/\t= .zero/\ ∃n1 a,s1= .up n1/\P a/\Bv a/\Nf a n1)\/(o.kind≠5/\t= .zero/\s1= .dn nb m P)
section
variable {w w' wa w0 : World} {X X' : XS} {own aM bY : Nat -> Nat} {n n' : br} {db : Nat} {m : DM}
theorem ad5: ∀(i:Int) (r:fe),getM i (L4.foldl ja [])=some r->r.id=i:=λi r h=>by
 rw[Rl] at h;exact amt h
theorem _root_.Go.aK.St.Br {vq:Value} {cT:List Int} {k N:Nat} {P:kL->Prop} {R:Ending->World->Prop} {NX:Value->World->XS->Prop} (s:St w0 bY w X own (Uq db m)) (hq:Sl w (bZ own 4) 1 vq (cT.map I1)) (hc:yJ k (λs=>P s/\Bv s) m) (hk:k<=190)
  (kk: ∀a w' X' aM n',Sn w0 bY w' X' aM n'->n'.db=db->P a->Bv a->Nf a n'->gz (k+1) N n'->NX (.tuple #[ptr n'.nb 0,I 0]) w' X'):
  eC pg R X w true 38 #[ptr db 0,vq] λ_ w X=>eC pg R X w true 37 #[] λv w X=>eC pg R X w true 36 #[ptr db 0,I 1,I 4096,v] NX:=by
 refine s.mE hq hc.names (by have:=hc.1;omega) λw1 X1 ir s1=>?_;refine cM L7 kQ s1.has ?_;rintro vl wb w2 X2 kF lK ko bH;obtain⟨nH,s3,-,-,p4⟩:=(s1.since bH).yD (N:=made wb w2) λq hq=>⟨ko q hq,s1.nw (ad lK hq.1)⟩;obtain⟨mb,l,_,hz⟩:=id (s3.get 3:Dk w2 (bZ nH 3) db _);obtain⟨a,x,pre,sg,rs,⟨hP,hA⟩,hB⟩:=Go.Proofs.YtgfijddlkhkopaaGreat.Br hc zQ cT hz;obtain⟨d1,d2,d3⟩:=hc.Pm cT;refine s3.call (Fu (l:=L4) s3.h s3.x (kF.mono p4).sl SO d1 zQ d3 hB.BW hB.log hB.tY hB.kp hB.err) kQ λv w' X' aM n' s' ⟨hv,hO⟩ _=>?_;subst hv;exact kk a w' X' aM n' s' hO.db hP hA ⟨hO.abs,hO.fZ,hO.al,hO.ds.trans Rl,hO.ms,hO.ra⟩ (gz.Br hB hA hO ad5 zQ)
theorem lN.nb: ∀{ts:List bX} {n n1:br},lN ts n n1->n1.nb=n.nb/\n1.db=n.db
 |[],n,n1,h=>by
  have:n1=n:=h;subst this;exact⟨rfl,rfl⟩
 |t::ts,n,n1,⟨n2,h1,h2⟩=>⟨(lN.nb h2).1.trans h1.tk.nb,(lN.nb h2).2.trans h1.tk.db⟩
theorem tO.nb: ∀{ts:List Nat} {n n1:br},tO ts n n1->n1.nb=n.nb/\n1.db=n.db
 |[],n,n1,h=>by
  have:n1=n:=h;subst this;exact⟨rfl,rfl⟩
 |t::ts,n,n1,⟨n2,h1,h2⟩=>⟨(tO.nb h2).1.trans h1.tk.nb,(tO.nb h2).2.trans h1.tk.db⟩
theorem Gz.nb {n n1:br} (h:Gz n n1):n1.nb=n.nb/\n1.db=n.db:=by
 obtain⟨ts,n2,_,h1,h2⟩:=h;exact⟨h2.nb.1.trans h1.nb.1,h2.nb.2.trans h1.nb.2⟩
def ad6 (own:Nat->Nat) (wa w':World) (db:Nat) (s:CS) (o:jd) (k N:Nat) (v:Value):Prop:=
 ∃aM s1 t,Cp own aM wa.heap.size/\CS.Is w' aM db s1.Hi/\CS.ad4 w' aM s1/\CS.Ok k N s1.Hi/\v= .tuple #[ptr s1.nb 0,s1.out,t.v]/\SQ s o t s1
theorem CS.aku (s:CS):s.Hi.nb=s.nb:=by cases s<;>rfl
theorem tq.out {N k:Nat} (hk:tq N k n):Ba w own n:=⟨by rw[hk.vm,hk.rm];exact Sl.nil _ _ _,by rw[hk.rm,hk.ms];exact fu.nil _ _,by rw[hk.va,hk.ra];exact Sl.nil _ _ _⟩
theorem ad7 {o:jd} {vk vs vw vp vr vc vh vd vo vq:Value} {k N:Nat} (h:j9 w own n) (hX:tn own X) (ic:gz k N n) (ho:o.at w (bZ own 4) vk vs vw vp vr vc vh vd vo vq) (lW:o.m.small) (Bb:o.m.lens<=2^62) (wy:o.prog.length<=2^30) (hn:o.n<2^63) (hk:k<=180) (hN:N+o.m.seen.length<=2^20):
  Ct pg 12 #[ptr n.db 0,ptr n.nb 0,.agg (o.l vk vs vw vp vr vc vh vd vo vq).toArray] w X (gH own) λv wa w'=>ad6 own wa w' n.db (.up n) o (k+1) (N+o.m.seen.length) v:=by
 intro w0 iy;have s0:=St.init h hX iy;have YK:o.at w0 (bZ own 4) vk vs vw vp vr vc vh vd vo vq:=by
  have m:=yU hX iy;exact⟨ho.m.mv m,ho.po.mv m,ho.p.mv m⟩
 clear h hX iy ho;have hcn:=ic.fZ;have iO:uj n:=s0.get 12;have hs:=ai.init w0;refine Fz.1 λ_=>?_;refine ib (Q:=λK=> ∀w X aM n',Sn w0 own w X aM n'->n'.nb=n.nb->n'.db=n.db->gz (k+1) (N+o.m.seen.length) n'->SQ (.up n) o .zero (.up n')->K w X) ?_ λK hK=>?_
 ·intro w1 X1 ir n1 s1 e1 e2 h1 h2;clear hs;have hs:=s1.rf;repeat' refine aq ?_;intros
  exact s1.t.fin λwa ou=>⟨ir,.up n1,.zero,s1.e,⟨s1.h.kp s1.x ou|>λh=>by rw[h1.ok.eQ];exact h,by rw[h1.ok.eQ];exact e2⟩,h1.ok.out,by show gz _ _ (eQ n1);rw[h1.ok.eQ];exact h1,by show _=dq #[ptr n1.nb 0,.agg #[n1.vm,n1.va],_];rw[e1,h1.ok.vm,h1.ok.va],h2⟩
 ·by_cases k1:o.kind=1
  ·repeat' refine aI ?_;intros
   refine s0.call (Lb s0.h s0.x ic.ok YK.po wy ⟨hcn.1,by omega⟩) kQ λv w1 X1 ir n' s1 q _=>?_;obtain⟨n1,⟨hC,_⟩,rfl,rfl,hO⟩:=q;have q1:=hO.om.one;have q2:=hO.oa.one;have kZ:n1.nb=n.nb/\n1.db=n.db:=by obtain⟨_,_,_,_,_,_,_,_,_,rfl,_⟩:=hC;exact⟨rfl,rfl⟩
   clear hs;have hs:=s1.rf;repeat' refine aq ?_;intros
   exact s1.t.fin λwa ou=>⟨ir,.up n1,iU n,s1.e,⟨s1.h.kp s1.x ou,kZ.2⟩,hO.mv (yU s1.x ou),(ic.call hC zQ).up (au _) zQ (kc _ _),by show _=dq #[ptr n1.nb 0,.agg #[n1.vm,n1.va],_];rw[kZ.1],.inl ⟨k1,rfl,n1,rfl,hC⟩⟩
  by_cases k2:o.kind=2
  ·obtain⟨pre,sg,Pr,_⟩:=ic.log;repeat' refine aI ?_;intros
   refine s0.ajN (LN s0.h s0.x Pr YK.m ic.ok hN lW Bb) kQ (λv w1 X1 ir n' s1 q _=>?_) λw1 X1 ir m' s1 hF=>?_
   ·obtain⟨n1,hC,rfl,rfl,hO⟩:=q;have q1:=hO.om.one;have q2:=hO.oa.one;have kZ:=hC.nb;clear hs;repeat' refine aq ?_;intros
    exact s1.t.fin λwa ou=>⟨ir,.up n1,.zero,s1.e,⟨s1.h.kp s1.x ou,kZ.db⟩,hO.mv (yU s1.x ou),ic.step iO hC zQ,by show _=dq #[ptr n1.nb 0,.agg #[n1.vm,n1.va],_];rw[kZ.nb],.inr (.inl ⟨k2,rfl,.inl ⟨n1,rfl,hC⟩⟩)⟩
   ·clear hs;repeat' refine aq ?_;intros
    exact s1.t.fin λwa ou=>⟨ir,.dn n.nb m' (ad3 n o.m),.zero,s1.e,s1.h.kp s1.x ou,trivial,ic.aoD hF zQ,rfl,.inr (.inl ⟨k2,rfl,.inr ⟨m',rfl,hF⟩⟩)⟩
  by_cases k3:o.kind=3
  ·repeat' refine aI ?_;intros
   refine s0.call (Yp s0.h s0.x ic.ok) kQ λv w1 X1 ir n' s1 q _=>?_;obtain⟨n1,hC,rfl,rfl,hO⟩:=q;have q1:=hO.om.one;have q2:=hO.oa.one;have kZ:=hC.nb;clear hs;have hs:=s1.rf;repeat' refine aq ?_;intros
   exact s1.t.fin λwa ou=>⟨ir,.up n1,.zero,s1.e,⟨s1.h.kp s1.x ou,kZ.2⟩,hO.mv (yU s1.x ou),(ic.tick iO hC zQ).up (au _) zQ (kc _ _),by show _=dq #[ptr n1.nb 0,.agg #[n1.vm,n1.va],_];rw[kZ.1],.inr (.inr (.inl ⟨k3,rfl,n1,rfl,hC⟩))⟩
  by_cases k4:o.kind=4
  ·repeat' refine aI ?_;intros
   refine s0.call (aa8 (z:=o.n) s0.h s0.x hn) kQ λv w1 X1 ir n' s1 ⟨_,q⟩ _=>?_;subst q;exact hK _ _ ir _ s1 rfl rfl ((ic.oX o.n).up (dD _) zQ (kc _ _)) (.inr (.inr (.inr (.inl ⟨k4,rfl,rfl⟩))))
  by_cases k5:o.kind=5
  ·repeat' refine aI ?_;intros
   refine s0.kst.Br (N:=N+o.m.seen.length) YK.p ic.crs zQ λa w1 X1 ir n' s1 e1 ha haa hB uL=>?_;subst ha;clear hs;have hs:=s1.rf;repeat' refine aI ?_;intros
   exact s1.t.fin λwa ou=>⟨ir,.up n',.zero,s1.e,⟨s1.h.kp s1.x ou|>λh=>by rw[uL.ok.eQ];exact h,by rw[uL.ok.eQ];exact e1⟩,uL.ok.out,by show gz _ _ (eQ n');rw[uL.ok.eQ];exact uL.up (au _) zQ (au _),by show _=dq #[ptr n'.nb 0,.agg #[n'.vm,n'.va],_];rw[uL.ok.vm,uL.ok.va],.inr (.inr (.inr (.inr (.inl ⟨k5,rfl,n',rfl,hB⟩))))⟩
  ·repeat' refine aI ?_;intros
   all_goals exact hK _ _ own n s0 rfl rfl (ic.up (dD _) zQ (kc _ _)) (.inr (.inr (.inr (.inr (.inr ⟨by omega,rfl,rfl⟩)))))
theorem ad8 {o:jd} {nb:Nat} {P:kL->Prop} {vk vs vw vp vr vc vh vd vo vq:Value} {k N:Nat} (h:adN w own nb db m) (hX:tn own X) (jT:DnS k P m) (ho:o.at w (bZ own 4) vk vs vw vp vr vc vh vd vo vq) (hn:o.n<2^63) (hk:k<=180):
  Ct pg 12 #[ptr db 0,ptr nb 0,.agg (o.l vk vs vw vp vr vc vh vd vo vq).toArray] w X (gH own) λv wa w'=>ad6 own wa w' db (.dn nb m P) o (k+1) (N+o.m.seen.length) v:=by
 intro w0 iy;have s0:=St.init h hX iy;have YK:o.at w0 (bZ own 4) vk vs vw vp vr vc vh vd vo vq:=by
  have m:=yU hX iy;exact⟨ho.m.mv m,ho.po.mv m,ho.p.mv m⟩
 clear h hX iy ho;have KS:LB w0 (bP w0) nb:=s0.Aa 1;have hs:=ai.init w0;have uC: ∀{w1 X1 ir},St w0 own w1 X1 ir (Ur nb db m)->o.kind≠5->aK.fin (vy (gH own) w0 λv w'=>ad6 own w0 w' db (.dn nb m P) o (k+1) (N+o.m.seen.length) v) X1 w1 (.tuple #[ptr nb 0,.agg #[aX,aX],.agg #[I 0,I 0,I 0]]):=λs1 Df=>
  s1.t.fin λwa ou=>⟨_,.dn nb m P,.zero,s1.e,s1.h.kp s1.x ou,trivial,jT.up (dD _),rfl,.inr ⟨Df,rfl,rfl⟩⟩
 refine Fz.1 λ_=>?_;refine ib (Q:=λK=> ∀w X ir,St w0 own w X ir (Ur nb db m)->o.kind≠5->K w X) ?_ λK hK=>?_
 ·intro w1 X1 ir s1 Df;clear hs;have hs:=s1.rf;repeat' refine aq ?_;intros
  exact uC s1 Df
 ·by_cases k1:o.kind=1
  ·repeat' refine aI ?_;intros
   refine ff (Vr KS YK.po.one) kQ hs.has λw1 X1 aB=>?_;have s1:=s0.since aB;clear hs aB;have hs:=s1.rf;repeat' refine aq ?_;intros
   exact uC s1 zQ
  by_cases k2:o.kind=2
  ·repeat' refine aI ?_;intros
   refine ff (Vs KS YK.m) kQ hs.has λw1 X1 aB=>?_;have s1:=s0.since aB;clear hs aB;have hs:=s1.rf;repeat' refine aq ?_;intros
   exact uC s1 zQ
  by_cases k3:o.kind=3
  ·repeat' refine aI ?_;intros
   refine ff (Vt KS) kQ hs.has λw1 X1 aB=>?_;have s1:=s0.since aB;clear hs aB;have hs:=s1.rf;repeat' refine aq ?_;intros
   exact uC s1 zQ
  by_cases k4:o.kind=4
  ·repeat' refine aI ?_;intros
   refine s0.call (aa9 (z:=o.n) s0.h s0.x hn jT.1) kQ λv w1 X1 ir m' s1 ⟨_,q⟩ _=>?_;subst q;exact hK _ _ _ s1 zQ
  by_cases k5:o.kind=5
  ·repeat' refine aI ?_;intros
   refine s0.aqE.Br (N:=N+o.m.seen.length) YK.p jT.2 zQ λa w1 X1 ir n' s1 e1 ha haa hB uL=>?_;clear hs;have hs:=s1.rf;repeat' refine aI ?_;intros
   exact s1.t.fin λwa ou=>⟨ir,.up n',.zero,s1.e,⟨s1.h.kp s1.x ou|>λh=>by rw[uL.ok.eQ];exact h,by rw[uL.ok.eQ];exact e1⟩,uL.ok.out,by show gz _ _ (eQ n');rw[uL.ok.eQ];exact uL.up (au _) zQ (au _),by show _=dq #[ptr n'.nb 0,.agg #[n'.vm,n'.va],_];rw[uL.ok.vm,uL.ok.va],.inl ⟨k5,rfl,n',a,rfl,ha,haa,hB⟩⟩
  ·repeat' refine aI ?_;intros
   all_goals exact hK _ _ _ s0 k5
theorem afY {s:CS} {o:jd} {vk vs vw vp vr vc vh vd vo vq:Value} {k N:Nat} (h:CS.Is w own db s) (hX:tn own X) (ic:CS.Ok k N s) (ho:o.at w (bZ own 4) vk vs vw vp vr vc vh vd vo vq) (lW:o.m.small) (Bb:o.m.lens<=2^62) (wy:o.prog.length<=2^30) (hn:o.n<2^63) (hk:k<=180) (hN:N+o.m.seen.length<=2^20):
  Ct pg 12 #[ptr db 0,ptr s.nb 0,.agg (o.l vk vs vw vp vr vc vh vd vo vq).toArray] w X (gH own) λv wa w'=>ad6 own wa w' db s o (k+1) (N+o.m.seen.length) v:=by
 cases s with
 |up n=>
  obtain⟨h1,rfl⟩:=h;exact ad7 h1 hX ic ho lW Bb wy hn hk hN
 |dn nb m P=>exact ad8 h hX ic ho hn hk
end
structure xq where
 e:Int
 t:bX
 st:cn
 on:Bool
 vs:Value
abbrev xq.l (a:xq):List Value:=EW a.e a.t a.st a.on a.vs
def aib (t:bX) (sa:List xq):Nat:=(sa.filter λa=>decide (a.t=t)).length
def Acc (d:Int) (n n1:br) (sa:List xq) (t:bX):Prop:=
 (∃b,getM t n.al=some b/\((getM t n1.al=some b/\(n.A b).x.xi+d<=(n1.A b).x.xi/\aib t sa=0)\/(getM t n1.al=none/\aib t sa=1)))\/(getM t n.al=none/\getM t n1.al=none/\aib t sa=0)
section
variable {n n1 n2 n' : br} {k k' N N' : Nat}
theorem LD.akv {n:Nat} {x:LD} (h:GL n x) (r:Rec):(x.iF r.fJ.toNat (gq r)).2.2≠12/\GL (n+2) (x.iF r.fJ.toNat (gq r)).1:=by
 rcases r.ye with e|e|e|e<;>rw[e]
 ·exact h.iF _
 all_goals exact⟨by simp[LD.iF],h.up zQ⟩
theorem gz.gl (h:gz k N n) (hm:mQ n.m) (hk:k<=250):GL 300 ⟨n.L,n.m⟩:=by
 obtain⟨pre,sg,h1,h2,h3,h4⟩:=h.log;have hB:=h1.adJ;have hN:=h1.adK;have hs:n.L.bJ=pre++[sg]:=h1.bJ;refine⟨hm,by grind,h1.d1,h1.d2,λt ht=>⟨?_,?_⟩,?_,by omega⟩
 ·have ht:t∈pre++[sg]:=hs▸ht;have:=gD.top h1.g.lk h2.fst t ht;have:=h2.lens.2;omega
 ·grind
 omega
def gz.afZ (h:gz k N n) (hm:mQ n.m) (hk:k<=250) (r:Rec):(jG n r).2.2≠12/\mQ (jG n r).1.m:=
 let q:=LD.akv (h.gl hm hk) r
 ⟨q.1,q.2.ok⟩
theorem gz.stays {m:cJ} {m':DM} (h:gz k N n) (hm:mQ n.m) (hk:k<=250) (hs:IV n m m'):False:=by
 obtain⟨_,_,⟨_,b,i,y,hw,hl,xZ,_⟩|⟨_,b,i,hD,hl,xZ,_⟩⟩:=hs
 ·exact(h.afZ hm hk _).1 xZ
 ·exact(h.afZ hm hk _).1 xZ
end
section
variable {w w' wa w0 : World} {X X' G K K' F T T' : XS} {own aM bY : Nat -> Nat} {n n' : br} {b : Nat} {t0 : bX} {db : Nat} {m : DM} {s s' : CS}
def _root_.Go.aK.Hs.Wo {F:Nat->qp} (h:Hs F w own) (e: ∀k,own k≠0->aM k=own k) (hl: ∀k,aM k≠0->k<w.heap.size):Hs F w aM:=
 ⟨λc h0 h4=>(F c).mv (h.gL c h0 h4) (Mv.sub λk (hk:own k=4)=>(e k zQ).trans hk) (Mv.sub λk (hk:own k=c)=>(e k zQ).trans hk),hl⟩
theorem CS.Is.mv (h:CS.Is w own db s) (hb: ∀k,own k≠0->w'.heap[k]? =w.heap[k]?) (hz:w.heap.size<=w'.heap.size):CS.Is w' own db s:=by
 cases s with
 |up n=>exact⟨h.1.mv hb hz,h.2⟩
 |dn nb m P=>exact Hs.mv h hb hz
theorem CS.Is.lt (h:CS.Is w own db s): ∀k,own k≠0->k<w.heap.size:=by
 cases s with
 |up n=>exact h.1.lt
 |dn nb m P=>exact Hs.lt h
theorem CS.Is.Wo (h:CS.Is w own db s) (e: ∀k,own k≠0->aM k=own k) (hl: ∀k,aM k≠0->k<w.heap.size):CS.Is w aM db s:=by
 cases s with
 |up n=>exact⟨h.1.Wo e hl,h.2⟩
 |dn nb m P=>exact Hs.Wo h e hl
structure LS (w0:World) (bY:Nat->Nat) (T:XS) (w:World) (X:XS) (own:Nat->Nat) (db:Nat) (s:CS):Prop where
 t:Ft w0 (gH bY) w X (λk=>gH own k\/T k)
 h:CS.Is w own db s
 x: ∀k,own k≠0->X k
 e:Cp bY own w0.heap.size
 tz: ∀k,T k->own k=0
theorem LS.has (s':LS w0 bY T w X own db s): ∀k,X k->k<w.heap.size:=s'.t.s.has
def LS.rf (s':LS w0 bY T w X own db s):ai X w X w:=ai.fL s'.has
def LS.since (q:LS w0 bY T w X own db s) (hs:ai X w X' w'):LS w0 bY T w' X' own db s:=
 ⟨q.t.since hs,q.h.mv (λk hk=>hs.kp.block k (q.x k hk)) hs.kp.size,λk hk=>hs.sub k (q.x k hk),q.e,q.tz⟩
theorem LS.call {P:Program} {f:FuncId} {args:Array Value} {R:Ending->World->Prop} {N:Value->World->XS->Prop} {Q:Value->World->(Nat->Nat)->CS->Prop} (q:LS w0 bY T w X own db s) (h:Ct P f args w X (gH own) λv wa w'=> ∃aM s1,Cp own aM wa.heap.size/\CS.Is w' aM db s1/\Q v w' aM s1) (hf:enters P f=true)
  (k: ∀v w' X' aM s1,LS w0 bY T w' X' aM db s1->Q v w' aM s1->Mv T w T w'->Mv (bZ own 4) w (bZ aM 4) w'->N v w' X'):eC P R X w true f args N:=
 q.t.call h hf (λ_ h=>.inl h) λv wa w' X' hq hle gC hT c=>by
  obtain⟨aM,s1,e,h',hQ⟩:=hq;have hz:=q.t.s.kp.size;have hx: ∀k,aM k≠0->X' k:=λk hk=>by
   by_cases A8:k<wa.heap.size
   ·exact c.sub k (q.x k λe0=>hk ((e k A8).1 e0))
   ·exact gC k ⟨by omega,h'.lt k hk⟩
  have hTX: ∀k,T k->X k:=λk hk=>q.t.bg k (.inr hk);have LL: ∀k,T k->aM k=0:=λk hk=>(e k (aw (q.has k (hTX k hk)) hle)).1 (q.tz k hk);refine k v w' X' aM s1 ⟨hT.more λk hk=>?_,h',hx,λk hk=>?_,LL⟩ hQ (λk hk _=>⟨hk,c.block k (hTX k hk) λh=>h.1 (q.tz k hk)⟩) λk (hk:own k=4) _=>⟨(e k (aw (q.has k (q.x k zQ)) hle)).2 hk,c.block k (q.x k zQ) λh=>h.2 hk⟩
  ·rcases hk with hk|hk
   ·by_cases A8:k<wa.heap.size
    ·exact .inl (.inl (.inl ⟨λe0=>hk.1 ((e k A8).1 e0),λe0=>hk.2 ((e k A8).2 e0)⟩))
    ·exact .inr ⟨hx k hk.1,by omega⟩
   ·exact .inl (.inl (.inr hk))
  ·have h1:=q.e k hk;have h2:=e k zQ;exact⟨λe0=>h2.1 (h1.1 e0),λe0=>h2.2 (h1.2 e0)⟩
theorem LS.YM (q:LS w0 bY T w X own db s) (c:dY T X w X' w') (hT: ∀k,T' k->T k\/(X' k/\w.heap.size<=k)):LS w0 bY T' w' X' own db s:=by
 refine⟨q.t.dT c (λk hk=>.inr hk) λk hk=>?_,q.h.mv (λk hk=>c.block k (q.x k hk) λe=>hk (q.tz k e)) c.size,λk hk=>c.sub k (q.x k hk),q.e,λk hk=>?_⟩
 ·rcases hk with hk|hk
  ·exact .inl (.inl hk)
  ·exact(hT k hk).imp .inr id
 ·rcases hT k hk with e|e
  ·exact q.tz k e
  ·exact dz λe'=>by have:=q.h.lt k e';omega
def amw {P:Program} {f:FuncId} {args:Array Value} {F F':XS} {Q:Value->World->World->Prop} (h:Ct P f args w X F Q) (hF: ∀k,F k->F' k):Ct P f args w X F' Q:=λwa hk=>(h wa hk).mono λ_ _ ⟨v,he,hf,hq⟩=>⟨v,he,hf.mono hF,hq⟩
theorem acb {R:Ending->World->Prop} {N:Value->World->XS->Prop} (hk:Kp X w w0) (k: ∀db w1 X1 ir,St w0 (λ_=>0) w1 X1 ir (Uq db ⟨[],0,0,false⟩)->N (ptr db 0) w1 X1):eC pg R (bP w0) w0 true 35 #[] N:=by
 have s:St w0 (λ_=>0) w0 (bP w0) (λ_=>0) (λ_=>Q5):=St.init (w:=w) (X:=X) ⟨λ_ _ _=>trivial,λk h=>absurd rfl h⟩ (λk h=>absurd rfl h) hk;refine cM ad9 kQ s.has ?_;rintro _ wa w1 X1 ⟨db,rfl,hD⟩ hle gC aB;obtain⟨ir,s1,-,-⟩:=(s.since aB).Iz (N:=made wa w1) 3 (dkR db ⟨[],0,0,false⟩) (λk hk=>⟨gC k hk,s.nw (ad hle hk.1)⟩) λ_=>hD;exact k db w1 X1 ir (s1.to λc h0 h4 w K A h=>by rcases c with _|_|_|_|c<;>first|exact h|trivial)
theorem aba:Ct pg 11 #[] w X nX λv wa w'=> ∃aM n,(∀k,aM k≠0->made wa w' k)/\j9 w' aM n/\v= .tuple #[ptr n.db 0,ptr n.nb 0]/\gz 1 0 n/\Nf (0,[]) n:=by
 have key:Ct pg 11 #[] w X (gH λ_=>0) λv wa w'=> ∃aM n,(∀k,aM k≠0->made wa w' k)/\j9 w' aM n/\v= .tuple #[ptr n.db 0,ptr n.nb 0]/\gz 1 0 n/\Nf (0,[]) n:=by
  intro w0 hk;refine L8.1 λ_=>?_;refine acb hk λdb w1 X1 ir s1=>?_;have hs:=s1.rf;repeat' refine aq ?_;intros
  refine cM L7 kQ s1.has ?_;rintro vl wb w2 X2 kF lK ko bH;obtain⟨nH,s3,-,-,p4⟩:=(s1.since bH).yD (N:=made wb w2) λq hq=>⟨ko q hq,s1.nw (ad lK hq.1)⟩;obtain⟨x,hB,_⟩:=ajO;refine s3.call (Fu (l:=L4) s3.h s3.x (kF.mono p4).sl SO (λx hx=>absurd hx sQ) sQ (λn b hb=>absurd hb (by simp[DM.bytes,DM.get,getM])) hB.BW hB.log hB.tY hB.kp hB.err) kQ λv w' X' aM n' s' ⟨hv,hO⟩ _=>?_;subst hv;have hds:=hO.db;subst hds;clear hs;repeat' refine aI ?_;intros
  exact s'.t.fin λwa ou=>⟨aM,n',λk hk=>⟨Bx λhl=>hk ((s'.e k hl).1 rfl),aw (s'.h.lt k hk) ou.size⟩,s'.h.kp s'.x ou,rfl,gz.Br hB (λx hx=>absurd hx sQ) hO ad5 zQ,⟨hO.abs,hO.fZ,hO.al,hO.ds.trans Rl,hO.ms,hO.ra⟩⟩
 exact amw key λk hk=>absurd rfl hk.1
theorem aea {a:Value} {xs:List jd} (ha:eY w X 41 a jd.rd xs):
  Ct pg 10 #[a] w X nX λv _ _=> ∃b:Bool,v=B b/\(b=true->xs.length<=120):=by
 intro w0 hk;replace ha:=eY.mv ha jd.mv hk.cE;have lh:=ha.len;refine Pt.1 λhs=>?_
 skip
 refine Bc (λn a b c w X=> ∃(i:Nat) (s:Int),a=I i/\c=I s/\n=xs.length-i/\i<=xs.length/\ai (bP w0) w0 X w) xs.length ⟨0,_,rfl,rfl,rfl,ak _,hs⟩ ?_;rintro n a b c w X ⟨i,s,rfl,rfl,rfl,hi,hs⟩;rcases dB (xs) i with⟨cI,x,hx,hd⟩|⟨dC,hd⟩
 ·repeat' first|refine aI ?_;intros|refine dg ?_ ?_<;>intros|(with_reducible apply Fw);(case h=>assumption);(case hr=>exact hx);(case hz=>rfl);(case ht=>kernel_rfl);(case hs=>kernel_rfl);intros
  refine cM (LZ (m:=x.m) (cJ.at.mv (jd.at.m aQ) hs.mv)) kQ hs.has ?_;rintro _ wa w X ⟨n1,rfl⟩ hle gC aB;replace hs:=hs.trans aB;repeat' first|refine aq ?_;intros|refine dg ?_ ?_<;>intros|(refine qr ?_;intro wa hk;exact⟨_,rfl,by simp⟩)|(with_reducible apply Fw);(case h=>assumption);(case hr=>exact hx);(case hz=>rfl);(case ht=>kernel_rfl);(case hs=>kernel_rfl);intros|with_reducible apply oG
  refine gM (λn a b w X=> ∃(k:Nat) (s:Int),a=I k/\b=I s/\n=x.prog.length-k/\k<=x.prog.length/\ai (bP w0) w0 X w) x.prog.length ⟨0,_,rfl,rfl,rfl,ak _,hs⟩ ?_;rintro n a b w X ⟨k,s,rfl,rfl,rfl,HN,hs⟩;rcases dB x.prog k with⟨Pf,y,hy,rH⟩|⟨DH,rH⟩
  ·repeat' first|refine aI ?_;intros|(with_reducible apply Fw);(case h=>assumption);(case hr=>exact hx);(case hz=>rfl);(case ht=>kernel_rfl);(case hs=>kernel_rfl);intros|with_reducible apply oG
   exact fG (x.prog.length-(k+1)) zQ ⟨k+1,_,by simp,rfl,rfl,by omega,hs⟩
  ·repeat' first|refine aI ?_;intros|(with_reducible apply Fw);(case h=>assumption);(case hr=>exact hx);(case hz=>rfl);(case ht=>kernel_rfl);(case hs=>kernel_rfl);intros
   exact xV (xs.length-(i+1)) zQ ⟨i+1,_,by simp,rfl,rfl,by omega,hs⟩
 ·repeat' first|refine aI ?_;intros|refine dg ?_ ?_<;>intros
  all_goals exact cH hs λwa aL=>⟨_,rfl,λe=>by first|(simp at e;done)|(simp at e;omega)⟩
end
theorem YN {gk:List BA} (h: ∀k∈gk,k∈fq 1 1 B3\/ ∃o∈B3,k=o.key/\(o.code=2\/o.code=3)): ∀k∈gk,k=kEx:=λk hk=>by
 rcases h k hk with e|⟨o,ho,rfl,hc⟩
 ·rw[Fx] at e;cases e
 ·rcases List.mem_cons.1 ho with rfl|ho
  ·exact absurd hc dQ
  ·rw[ax] at ho;rw[ho]
theorem acd: ∀gk:List BA,(∀k∈gk,k=kEx)->jc L5 [(1,[kEx])] gk=([(1,[kEx])],0)
 |[],_=>rfl
 |k::r,h=>by
  have hg:iN kEx=true:=by kernel_rfl
  have e:=h k sQ;subst e;unfold jc;rw[if_pos hg,YI];exact acd r λk hk=>h k (by simp[hk])
theorem ace {gk:List BA} (hn:gk≠[]) (h: ∀k∈gk,k=kEx):jc L5 [] gk=([(1,[kEx])],0):=by
 cases gk with
 |nil=>exact absurd rfl hn
 |cons k r=>
  have hg:iN kEx=true:=by kernel_rfl
  have e:=h k sQ;subst e;unfold jc;rw[if_pos hg,YI];exact acd r λk hk=>h k (by simp[hk])
theorem akw {ids:List Int} (h:ID B3 L5 ids):ids=[1]:=by
 obtain⟨gk,hn,hk,_,rfl⟩:=h;rw[ace hn (YN hk)];unfold mW;rw[show([((1:Int),[kEx])].map (·.1))=[1] from rfl,afS];rfl
theorem aic: ¬O7 B3 L5:=by
 rintro(⟨e,wl,h,h2⟩|⟨gk,hn,hk,h⟩)
 ·have:=h Fx aca;rw[amu] at this;rcases h2 with h2|h2
  ·exact h2 this.1
  ·rw[this.2,afU] at h2;cases h2
 ·rw[ace hn (YN hk)] at h;exact h rfl
structure ExN (n:br):Prop where
 id:n.c.id=1
 aR:n.c.aR=1
 fZ:n.c.fZ=0
 ck:n.ck=⟨0,0,21⟩
 ds:n.ds=L5
 al:n.al=[]
structure ExC (n1:br) (xb:Nat) (y:cJ):Prop where
 g:getM L6 n1.al=some xb
 pre:(n1.A xb).x.pre=true
 ml:(n1.A xb).x.ml= .zero
 ids:(n1.A xb).ids=[1]
 ws:(n1.A xb).ws=[y]
 pe:y.range=1
theorem akx {n n1:br} (h:ExN n) (hC:Ef n B3 n1) (hE:QH (tM B3 n.ck 5 n.ds≠0\/O7 B3 n.ds) (ID B3 n.ds) n n1):iU n=L6/\n1.ra=[]/\ ∃xb y,ExC n1 xb y/\y.kind=3/\n1.ms=[y.pP (20+n.c.id)]:=by
 have ht:iU n=L6:=by unfold iU;rw[h.id,h.aR,h.fZ];rfl
 refine⟨ht,?_⟩;unfold QH at hE;rw[ht,h.ck,h.ds] at hE;obtain⟨xb,gN,Gp,vm,va,rm,ra,ms,d,rfl,_,hc⟩:=hC;rcases hc with⟨a,rfl,_⟩|⟨rfl,rfl,hp,_,_,_,hl,_,rfl,cu,_,hw,hq⟩
 ·exact((hE.1 sQ).elim (λe=>e aks) aic).elim
 ·have hg:getM L6 (cU (iU n) xb n.al)=some xb:=by rw[ht];exact jK
  rcases hq with⟨_,_,_,_,q⟩|⟨amx,hr,hk⟩
  ·exact absurd Fx q
  ·have hi:d.ids=[1]:=by simpa using akw (hE.2 xb hg rfl (by simp[amx]))
   rw[hi] at hr;obtain⟨y,hy⟩:=List.length_eq_one_iff.1 ((by rw[<-af (f:=(·.range)),hr];rfl:d.ws.length=1));rw[hy] at hr;exact⟨rfl,xb,y,⟨hg,by simp[amx],by simp[hl],by simp[hi],by simp[hy],by simpa using hr⟩,(hk y (by rw[hy];simp)).1,by simp[hy]⟩
theorem aky {n n1:br} {xb:Nat} {y:cJ} {k N:Nat} (h:ExC n xb y) (D3:n.ms=[]) (Ay:n.ra=[]) (oc:n.c.id=1) (ic:gz k N n) (hk:k<=100) (hs:CT n Ib n1):
  ∃vs m6,aK.one vs=true/\n1.ra=[EW 0 L6 YJ false vs]/\n1.ms=[m6]/\m6.jM=true/\n1.c.aR=n.c.aR:=by
 have no: ∀{q:Int},Ib.kind=q->q=4:=λe=>e.symm;rcases hs with⟨q,rfl⟩|⟨_,_,⟨q,_⟩|⟨_,hs⟩|⟨q,_⟩|⟨q,_⟩|⟨_,q,_⟩⟩
 ·exact absurd ⟨akt,by rw[oc];rfl⟩ q
 ·exact absurd (no q) dQ
 ·rcases hs with⟨_,_,q⟩|⟨_,_,_,_,_,_,_,q,_⟩|⟨b,i,y',gN,gX,iK,n2,hw,rfl,hc⟩
  ·exact(q xb 0 y ⟨h.g,h.pre,rfl,by rw[h.ws];rfl,h.pe⟩).elim
  ·exact absurd rfl q
  ·have hb:b=xb:=by have:=hw.g;rw[show Ib.aG=L6 from rfl,h.g] at this;exact(Option.some.inj this).symm
   subst hb;rcases hc with⟨q,_⟩|⟨_,hc⟩
   ·rw[h.ws] at q;exact absurd rfl q
   ·have e1:((dN n b (mF (n.A b) i Ib gX iK)).A b).x.ml=YJ:=by rw[jA];show(n.A b).x.ml.later Ib.aU=_;rw[h.ml];exact ah9
    have e2:((dN n b (mF (n.A b) i Ib gX iK)).A b).ids=[1]:=by rw[jA];exact h.ids
    have ht:=ic.act L6 b h.g;unfold Q6 Wg at hc;dsimp only at hc;rw[e1,e2,show Ib.aG=L6 from rfl] at hc;rcases hc with⟨xZ,h0,_⟩|⟨_,bx,BY,vp,v2,ki,vs,hv,_,mR,lX,rfl,_⟩
    ·rw[yh afV] at xZ h0;rcases ic.log.iF (Rk afV dQ (ic.DE zQ ht)) (ic.Wm ht _ _) zQ with q|q
     ·exact absurd q.1 xZ
     ·exact absurd q.1 h0
    ·exact⟨vs,_,hv,by show n.ra++_=_;rw[Ay];rfl,by show n.ms++_=_;rw[D3];rfl,rfl,rfl⟩
 ·exact absurd (no q) dQ
 ·exact absurd (no q) dQ
 ·exact absurd rfl q
theorem FA {w:World} {X:XS} :Ct pg 9 #[] w X nX λv w1 w2=>v=B true:=by
 have key:Ct pg 9 #[] w X (gH λ_=>0) λv wa w'=>v=B true:=by
  intro w0 hk;refine L9.1 λ_=>?_;refine acb hk λdb w1 X1 ir s1=>?_;have hs:=s1.rf;repeat' refine aq ?_;intros
  refine cM L7 kQ s1.has ?_;rintro vl wb w2 X2 kF lK ko bH;obtain⟨nH,s3,-,-,p4⟩:=(s1.since bH).yD (N:=made wb w2) λq hq=>⟨ko q hq,s1.nw (ad lK hq.1)⟩;obtain⟨x,hB,hmo⟩:=ajO;refine s3.call (Fu (l:=L4) s3.h s3.x (kF.mono p4).sl SO (λx hx=>absurd hx sQ) sQ (λn b hb=>absurd hb (by simp[DM.bytes,DM.get,getM])) hB.BW hB.log hB.tY hB.kp hB.err) kQ λv w' X' aM n' s' ⟨hv,hO⟩ _=>?_;subst hv;have ic:gz 1 0 n':=gz.Br hB (λx hx=>absurd hx sQ) hO ad5 zQ;have hx:ExN n':=⟨hO.id,by have:=congrArg Prod.fst hO.abs;exact this,hO.fZ,hO.ck,hO.ds.trans Rl,hO.al⟩;have rF:mQ n'.m:=by have:=congrArg LD.m hO.ld;rw[show n'.m=_ from this];exact hmo
  clear hs;have hs:=s'.rf;repeat' refine aI ?_;intros
  refine Wn (rows:=B3.map jz.l) (B3.map jz.l).flatten.toArray (.agg #[I 0,.string ⟨#[]⟩,I 0,.float .f64 0,.string ⟨#[]⟩]) hs.has (bytes:=56) kQ kQ zQ zQ kQ sQ rfl rfl λa w4 X4 gd Gs=>?_;have s4:=s'.since gd;obtain⟨l7,s5,-,-,p5⟩:=s4.yD (N:=fv a) λq hq=>⟨Gs.2.2 q hq,s'.nw (Gs.ge hq).1⟩;refine s5.call (Lb (p:=B3) (gP:=5) s5.h s5.x ic.ok (xO Gs (Y:=bZ l7 4) p5).sl dQ ⟨ic.fZ.1,by rw[hx.fZ];decide⟩) kQ λv w5 X5 mY n5 s6 q _=>?_;obtain⟨n1,⟨hC,hE⟩,rfl,rfl,hO5⟩:=q;obtain⟨ht,Ay,xb,y,YO,hy,D3⟩:=akx hx hC hE;have uL:gz 2 0 (eQ n1):=ic.call hC zQ;have pV:mQ (eQ n1).m/\(eQ n1).c.id=1/\(eQ n1).c.aR=1:=by
   obtain⟨_,_,_,_,_,_,_,_,_,rfl,_⟩:=hC;exact⟨rF,hx.id,hx.aR⟩
  obtain⟨pre,sg,Pr,_⟩:=uL.log;have H2:=hO5.oa;rw[Ay] at H2;obtain⟨vab,van,vac,ha⟩:=H2.form;have UK:=hO5.om;have Ic:=hO5.hm;rw[D3] at Ic;obtain⟨l0,hl0⟩:=List.length_eq_one_iff.1 Ic.1;rw[hl0] at Ic UK;obtain⟨u1,u2,u3,u4,u5,u6,u7,u8,rfl,dc⟩:=Ic.2 0 l0 _ rfl rfl;obtain⟨vmb,vmn,vmc,hvm⟩:=UK.form;rw[ht,ha,hvm];rw[ha] at H2;rw[hvm] at UK;have kZ:n'.nb=(eQ n1).nb:=by obtain⟨_,_,_,_,_,_,_,_,_,rfl,_⟩:=hC;rfl
  clear hs s' s4 s5;have hs:=s6.rf;repeat' refine aq ?_;intros
  rw[kZ];refine s6.ajN (LN (m:=Ib) (vk:=UI) (vs:=UI) (vw:=UI) (vp:=UI) (vr:=UI) (vc:=UI) (vh:=UI) (vd:=UI) (gP:=5) s6.h s6.x Pr ⟨Sl.nil _ _ _,Sl.nil _ _ _,Sl.nil _ _ _,Sl.nil _ _ _,Sl.nil _ _ _,eY.nil _ _ _,eY.nil _ _ _,eY.nil _ _ _⟩ uL.ok dQ afW ah8) kQ (λv w7 X7 rZ n7 s7 q m7=>?_) λw7 X7 rZ d7 s7 hF=>(uL.stays pV.1 zQ hF).elim;obtain⟨n2,hS,rfl,rfl,hO7⟩:=q;obtain⟨vs,m6,UG,amf,aqG,iq,GD⟩:=aky (n:=eQ n1) ⟨YO.g,YO.pre,YO.ml,YO.ids,YO.ws,YO.pe⟩ rfl rfl pV.2.1 uL zQ hS;have x4: ∀k,bZ rZ 4 k->X7 k:=s7.sub 4;have a1:Sl w7 X7 36 (.slice vmb vmn vmc) ([()].map λ_:Unit=>(y.pP (20+n'.c.id)).l u1 u2 u3 u4 u5 u6 u7 u8):=(UK.mv m7).mono x4;have a2:Sl w7 X7 9 (.slice vab van vac) (([]:List (List Value)).map id):=(H2.mv m7).mono x4;have YP:=hO7.oa;rw[amf] at YP;obtain⟨ab6,an6,ac6,ha6⟩:=YP.form;have YQ:=hO7.om;have YR:=hO7.hm;rw[aqG] at YR;obtain⟨l6,hl6⟩:=List.length_eq_one_iff.1 YR.1;rw[hl6] at YR YQ;obtain⟨q1,q2,q3,q4,q5,q6,q7,q8,rfl,aqH⟩:=YR.2 0 l6 _ rfl rfl;obtain⟨mb6,mn6,mc6,amy⟩:=YQ.form;rw[ha6] at YP;rw[amy] at YQ;rw[ha6,amy];have a3:Sl w7 X7 36 (.slice mb6 mn6 mc6) ([()].map λ_:Unit=>m6.l q1 q2 q3 q4 q5 q6 q7 q8):=YQ.mono x4;have a4:Sl w7 X7 9 (.slice ab6 an6 ac6) ([()].map λ_:Unit=>EW 0 L6 YJ false vs):=YP.mono x4;have b1:=dc.keys.one;have b2:=dc.seen.one;have b3:=dc.writes.one;have b4:=dc.parts.one;have b5:=dc.ranges.one;have b6:=dc.bw.one;have b7:=dc.iA.one;have b8:=dc.ia.one;have By:(y.pP (20+n'.c.id)).kind=3:=hy;have ht1:(y.pP (20+n'.c.id)).to=1:=YO.pe;generalize y.pP (20+n'.c.id)=mm at a1 By ht1 b1 b2 b3 b4 b5 b6 b7 b8;have hx0:[()][0]? =some ():=rfl;have aqI:(eQ n1).nb=n2.nb:=hS.nb.nb.symm;rw[aqI];have aqJ:n2.c.aR=1:=GD.trans pV.2.2;clear hs UK H2 YQ YP Ic YR dc aqH;have hs:=s7.rf;repeat' first|refine aI ?_;intros|refine dg ?_ ?_<;>intros|(with_reducible apply YS);(· kernel_rfl);all_goals intros|with_reducible apply cK|(exfalso;omega)|(exfalso;simp only[aJ,bL] at*;omega)
  rw[iq];repeat' first|refine aq ?_;intros|with_reducible apply cK
  refine ff (YA (n:=eQ n2) s7.h s7.x) kQ hs.has λw8 X8 lV=>?_;rw[show(eQ n2).c.aR=1 from aqJ];repeat' refine aI ?_;intros
  exact(s7.t.since lV).fin λ_ _=>rfl
 exact amw key λk hk=>absurd rfl hk.1
structure aeb (o:jd):Prop where
 sm:o.m.small
 ln:o.m.lens<=2^62
 pl:o.prog.length<=2^30
 n:o.n<2^63
def Af (l:List jd):Nat:=(l.map λo=>o.m.seen.length).sum
theorem UL {l:List jd} {i:Nat} {o:jd} (h:l[i]? =some o):Af (l.take (i+1))=Af (l.take i)+o.m.seen.length:=by
 unfold Af;rw[bW,h];simp
theorem akz {l:List jd} {i:Nat} {o:jd} (h:l[i]? =some o):Af (l.take i)+o.m.seen.length<=Af l:=by
 rw[<-UL h];have e:Af l=Af (l.take (i+1))+Af (l.drop (i+1)):=by
  unfold Af;rw[<-List.sum_append,<-aC,fy]
 omega
def amz (s:CS) (o:jd) (k N:Nat) (v:Value) (w':World) (aM:Nat->Nat) (s2:CS):Prop:=
 ∃s1 t,s2=s1.Hi/\CS.ad4 w' aM s1/\CS.Ok k N s1.Hi/\v= .tuple #[ptr s1.nb 0,s1.out,t.v]/\SQ s o t s1
section
variable {w w' wa w0 : World} {X X' G K K' F T T' : XS} {own aM bY : Nat -> Nat} {n n' : br} {b : Nat} {t0 : bX} {db : Nat} {m : DM} {s s' : CS}
theorem LS.act {o:jd} {vk vs vw vp vr vc vh vd vo vq:Value} {k N:Nat} {R:Ending->World->Prop} {NX:Value->World->XS->Prop} (q:LS w0 bY T w X own db s) (ic:CS.Ok k N s) (ho:o.at w (bZ own 4) vk vs vw vp vr vc vh vd vo vq) (lT:aeb o) (hk:k<=180) (hN:N+o.m.seen.length<=2^20)
  (kk: ∀v w' X' aM s2,LS w0 bY T w' X' aM db s2->amz s o (k+1) (N+o.m.seen.length) v w' aM s2->Mv T w T w'->Mv (bZ own 4) w (bZ aM 4) w'->NX v w' X'):
  eC pg R X w true 12 #[ptr db 0,ptr s.nb 0,.agg (o.l vk vs vw vp vr vc vh vd vo vq).toArray] NX:=by
 refine q.call (Q:=λv w' aM s2=>amz s o (k+1) (N+o.m.seen.length) v w' aM s2) ((afY q.h q.x ic ho lT.sm lT.ln lT.pl lT.n hk hN).mono λv wa w' _ hq=>?_) kQ kk;obtain⟨aM,s1,t,e,h1,h2,h3,h4,h5⟩:=hq;exact⟨aM,s1.Hi,e,h1,s1,t,rfl,h2,h3,h4,h5⟩
theorem LS.op {o:jd} {vk vs vw vp vr vc vh vd vo vq:Value} (q:LS w0 (λk=>if k<w0.heap.size then 4 else 0) T w X own db s) (h:o.at w0 (out (gH λk=>if k<w0.heap.size then 4 else 0) w0) vk vs vw vp vr vc vh vd vo vq):o.at w (bZ own 4) vk vs vw vp vr vc vh vd vo vq:=by
 have m:Mv (out (gH λk=>if k<w0.heap.size then 4 else 0) w0) w0 (bZ own 4) w:=λk hk _=>⟨(q.e k hk.1).2 (if_pos hk.1),q.t.s.kp.block k hk⟩;exact⟨h.m.mv m,h.po.mv m,h.p.mv m⟩
theorem LS.init (hT:Ft w0 (gH λk=>if k<w0.heap.size then 4 else 0) w X nX) (hm: ∀k,own k≠0->made wa w k/\X k) (hle:w0.heap.size<=wa.heap.size) (h:CS.Is w own db s): ∃ir,LS w0 (λk=>if k<w0.heap.size then 4 else 0) nX w X ir db s:=by
 have hz: ∀k,k<w0.heap.size->own k=0:=λk hl=>dz λe=>by have:=(hm k e).1.1;omega
 have e0: ∀k,own k≠0->(if own k=0 then(if k<w0.heap.size then 4 else 0)else own k)=own k:=λk hk=>if_neg hk;have hx: ∀k,(if own k=0 then(if k<w0.heap.size then 4 else 0)else own k)≠0->X k:=λk hk=>by
  by_cases e:own k=0
  ·rw[if_pos e] at hk;by_cases hl:k<w0.heap.size
   ·exact hT.s.sub k ⟨hl,λh=>h.2 (if_pos hl)⟩
   ·rw[if_neg hl] at hk;exact absurd rfl hk
  ·exact(hm k e).2
 refine⟨λk=>if own k=0 then(if k<w0.heap.size then 4 else 0)else own k,hT.more λk hk=>?_,h.Wo e0 λk hk=>hT.s.has k (hx k hk),hx,λk hl=>?_,λk hk=>hk.elim⟩
 ·rcases hk with hk|hk
  ·refine .inr ⟨hx k hk.1,Bx λhl=>hk.2 ?_⟩
   show(if own k=0 then(if k<w0.heap.size then 4 else 0)else own k)=4
   rw[if_pos (hz k hl),if_pos hl]
  ·exact hk.elim
 ·have e:(if own k=0 then(if k<w0.heap.size then 4 else 0)else own k)=(if k<w0.heap.size then 4 else 0):=if_pos (hz k hl);exact⟨λh=>e.trans h,λh=>e.trans h⟩
structure asQ (w0:World) (bY:Nat->Nat) (T:XS) (w:World) (X:XS) (own:Nat->Nat) (db nb:Nat) (nS:br) (vw:Value) (ts:List bX) (K N:Nat) (i:Int) (n:br) (vt:Value) (sa:List xq):Prop where
 ls:LS w0 bY T w X own db (.up n)
 up:gz K N n
 nb:n.nb=nb
 mo:mQ n.m
 told:Own w T 0 anT 9 vt (sa.map xq.l)
 one: ∀a∈sa,aK.one a.vs=true
 acc: ∀t∈ts,Acc i nS n sa t
 sq: ∀t∈ts,t.sq<=n.c.fZ
 was:Sl w (bZ own 4) 3 vw (ts.map bX.l)
 len:sa.length<=300*K
end
open Go.ChangeShapes Go.WideShapes Go.ChangeAt Go.RowKit
def akA:nN 45 (Ie 29 Rec.rd):=qG kQ kQ dQ amA
def akB:nN 44 (Ie 4 (λ_ _ cs (x:fe)=>cs=x.l)):=qG kQ kQ dQ af0
def aid:nN 37 rdI:=af1 kQ
instance:Wt fg:=⟨λx=>Wt.wt x.key+Wt.wt x.val+Wt.wt x.aU+1,λ_=>by omega⟩
theorem akC:nN 175 (λ_ _ cs (x:fg)=>cs=x.l):=λH enc W fuel cs x h=>by
 obtain⟨n,ds,hx,hf⟩:=jw [9,97,39] kQ h;obtain⟨_,_,_,_,a0,rfl,rfl,rfl,w0,hf⟩:=bT FB hf;obtain⟨_,_,_,_,a1,rfl,rfl,rfl,w1,hf⟩:=bT Ma hf;obtain⟨_,_,_,_,a2,rfl,rfl,rfl,w2,rfl,rfl⟩:=bT vP hf;refine⟨⟨a0,a1,a2⟩,rfl,?_⟩;rw[hx];simp only[Rows.uptoBulk,Rows.uptoBulkAll,Wt.wt] at*;omega
def aie:nN 41 (Ie 7 (λ_ _ cs (x:fg)=>cs=x.l)):=qG kQ kQ dQ akC
instance:Wt cJ:=⟨λx=>Wt.wt x.kind+Wt.wt x.fr+Wt.wt x.to+Wt.wt x.aG+Wt.wt x.range+Wt.wt x.iE+Wt.wt x.code+Wt.wt x.aU+Wt.wt x.prev+Wt.wt x.jM+Wt.wt x.n+Wt.wt x.mx+Wt.wt x.keys+Wt.wt x.seen+Wt.wt x.writes+Wt.wt x.parts+Wt.wt x.ranges+Wt.wt x.bw+Wt.wt x.state+1,λ_=>by omega⟩
theorem amB:nN 54 cJ.rd:=λH enc W fuel cs x h=>by
 obtain⟨n,ds,hx,hf⟩:=jw [3,3,3,34,3,3,37,39,39,4,3,3,40,41,42,43,44,45,52] kQ h;obtain⟨_,_,_,_,a0,rfl,rfl,rfl,w0,hf⟩:=bT oA hf;obtain⟨_,_,_,_,a1,rfl,rfl,rfl,w1,hf⟩:=bT oA hf;obtain⟨_,_,_,_,a2,rfl,rfl,rfl,w2,hf⟩:=bT oA hf;obtain⟨_,_,_,_,a3,rfl,rfl,rfl,w3,hf⟩:=bT YT hf;obtain⟨_,_,_,_,a4,rfl,rfl,rfl,w4,hf⟩:=bT oA hf;obtain⟨_,_,_,_,a5,rfl,rfl,rfl,w5,hf⟩:=bT oA hf;obtain⟨_,_,_,_,a6,rfl,rfl,rfl,w6,hf⟩:=bT aid hf;obtain⟨_,_,_,_,a7,rfl,rfl,rfl,w7,hf⟩:=bT vP hf;obtain⟨_,_,_,_,a8,rfl,rfl,rfl,w8,hf⟩:=bT vP hf;obtain⟨_,_,_,_,a9,rfl,rfl,rfl,w9,hf⟩:=bT acf hf;obtain⟨_,_,_,_,a10,rfl,rfl,rfl,GA,hf⟩:=bT oA hf;obtain⟨_,_,_,_,a11,rfl,rfl,rfl,Ri,hf⟩:=bT oA hf;obtain⟨_,_,_,_,a12,rfl,rfl,⟨v12,rfl,r12⟩,w12,hf⟩:=bT aec hf;obtain⟨_,_,_,_,a13,rfl,rfl,⟨v13,rfl,r13⟩,w13,hf⟩:=bT aie hf;obtain⟨_,_,_,_,a14,rfl,rfl,⟨v14,rfl,r14⟩,w14,hf⟩:=bT YU hf;obtain⟨_,_,_,_,a15,rfl,rfl,⟨v15,rfl,r15⟩,w15,hf⟩:=bT aed hf;obtain⟨_,_,_,_,a16,rfl,rfl,⟨v16,rfl,r16⟩,w16,hf⟩:=bT akB hf;obtain⟨_,_,_,_,a17,rfl,rfl,⟨v17,rfl,r17⟩,w17,hf⟩:=bT akA hf;obtain⟨_,_,_,_,a18,rfl,rfl,⟨vh,vp,rfl,rh,rp⟩,w18,rfl,rfl⟩:=bT YV hf;refine⟨⟨a0,a1,a2,a3,a4,a5,a6,a7,a8,a9,a10,a11,a12,a13,a14,a15,a16,a17,a18⟩,⟨v12,v13,v14,v15,v16,v17,vh,vp,rfl,⟨r12.xt,r13.xt,r14.xt,r15.xt,r16.xt,r17,rh,rp⟩⟩,?_⟩;rw[hx];simp only[Rows.uptoBulk,Rows.uptoBulkAll,Wt.wt] at*;omega
instance:Wt jz:=⟨λx=>Wt.wt x.code+Wt.wt x.key+Wt.wt x.val+1,λ_=>by omega⟩
theorem amC:nN 99 (λ_ _ cs (x:jz)=>cs=x.l):=λH enc W fuel cs x h=>by
 obtain⟨n,ds,hx,hf⟩:=jw [3,9,97] kQ h;obtain⟨_,_,_,_,a0,rfl,rfl,rfl,w0,hf⟩:=bT oA hf;obtain⟨_,_,_,_,a1,rfl,rfl,rfl,w1,hf⟩:=bT FB hf;obtain⟨_,_,_,_,a2,rfl,rfl,rfl,w2,rfl,rfl⟩:=bT Ma hf;refine⟨⟨a0,a1,a2⟩,rfl,?_⟩;rw[hx];simp only[Rows.uptoBulk,Rows.uptoBulkAll,Wt.wt] at*;omega
def akD:nN 55 (Ie 5 (λ_ _ cs (x:jz)=>cs=x.l)):=qG kQ kQ dQ amC
def wtN (n:Int):Nat:=if n<2^63 then 1 else 1073741824
instance:Wt jd:=⟨λx=>Wt.wt x.kind+Wt.wt x.gP+wtN x.n+Wt.wt x.m+Wt.wt x.prog+Wt.wt x.cT+1,λ_=>by omega⟩
theorem akE:nN 57 jd.rd:=λH enc W fuel cs x h=>by
 obtain⟨n,ds,hx,hf⟩:=jw [3,3,3,54,55,43] kQ h;obtain⟨_,_,_,_,a0,rfl,rfl,rfl,w0,hf⟩:=bT oA hf;obtain⟨_,_,_,_,a1,rfl,rfl,rfl,w1,hf⟩:=bT oA hf;obtain⟨_,_,_,_,a2,rfl,rfl,⟨rfl,hb⟩,w2,hf⟩:=bT Ng hf;obtain⟨_,_,_,_,a3,rfl,rfl,⟨vk,vs,vw,vp,vr,vc,vh,vd,rfl,r3⟩,w3,hf⟩:=bT amB hf;obtain⟨_,_,_,_,a4,rfl,rfl,⟨v4,rfl,r4⟩,w4,hf⟩:=bT akD hf;obtain⟨_,_,_,_,a5,rfl,rfl,⟨v5,rfl,r5⟩,w5,rfl,rfl⟩:=bT aed hf;have hn:wtN a2=1:=if_pos (by have:=hb.2;omega);refine⟨⟨a0,a1,a2,a3,a4,a5⟩,⟨vk,vs,vw,vp,vr,vc,vh,vd,v4,v5,rfl,⟨r3,r4.xt,r5.xt⟩⟩,?_⟩;rw[hx];simp only[Rows.uptoBulk,Rows.uptoBulkAll,Wt.wt] at*;omega
def aif:nN 22 (Ie 41 jd.rd):=qG kQ kQ dQ akE
theorem uM {α:Type} [Wt α] {l:List α} {B:Nat} (h:Wt.wt l<=B):l.length<=B:=by
 have h':(l.map Wt.wt).sum+1<=B:=h;have:=af2 l;omega
theorem acg {s:BA} {B:Nat} (h:Wt.wt s<=B):s.size<=B:=by
 have:s.size+1<=B:=h;omega
theorem amD {x:KV} {B:Nat} (h:Wt.wt x<=B):x.key.size<=B:=by
 have:(x.key.size+1)+(Wt.wt x.val.kind+Wt.wt x.val.num+(x.val.text.size+1)+1)+1<=B:=h;omega
theorem YW {l:List KV} {B:Nat} (h:Wt.wt l<=B) (hB:B<=2^40): ∀x∈l,x.key.size<=2^40:=λx hx=>by
 have h':(l.map Wt.wt).sum+1<=B:=h;have:=amD (B:=B) (ad (FC hx) zQ);omega
theorem YX {l:List BA} {B:Nat} (h:Wt.wt l<=B) (hB:B<=2^40): ∀k∈l,k.size<=2^40:=λx hx=>by
 have h':(l.map Wt.wt).sum+1<=B:=h;have:=acg (B:=B) (ad (FC hx) zQ);omega
theorem akF {l:List gy} {B:Nat} (h:Wt.wt l<=B) (hB:B<=2^40):LA l/\adM l:=by
 have h':(l.map Wt.wt).sum+1<=B:=h;have key: ∀p∈l,Wt.wt p.reads<=B/\Wt.wt p.writes<=B:=λp hp=>by
  have h1:Wt.wt p.aG+Wt.wt p.aU+Wt.wt p.reads+Wt.wt p.writes+1<=(l.map Wt.wt).sum:=FC hp;omega
 refine⟨λp hp=>?_,λp hp=>⟨YX (key p hp).1 hB,YW (key p hp).2 hB⟩⟩;have h1:=uM (key p hp).1;have h2:=uM (key p hp).2;omega
theorem akG {l:List kM} {B:Nat} (h:Wt.wt l<=B) (hB:B<=2^40):Lz l/\adL l:=by
 have h':(l.map Wt.wt).sum+1<=B:=h;have key: ∀p∈l,Wt.wt p.key<=B/\Wt.wt p.nh<=B:=λp hp=>by
  have h1:Wt.wt p.key+Wt.wt p.nh+1<=(l.map Wt.wt).sum:=FC hp;omega
 exact⟨λp hp=>ad (uM (key p hp).2) hB,λp hp=>ad (acg (key p hp).1) hB⟩
theorem YY {s:State} {B:Nat} (h:Wt.wt s<=B) (hB:B<=2^40):s.small:=by
 have h':Wt.wt s.range+Wt.wt s.floor+Wt.wt s.closed+Wt.wt s.iA+Wt.wt s.ia+1<=B:=h;obtain⟨a2,a3⟩:=akG (l:=s.iA) (B:=B) zQ hB;obtain⟨b2,b3⟩:=akF (l:=s.ia) (B:=B) zQ hB;exact⟨a2,b2,a3,b3⟩
theorem amE {r:Rec} {B:Nat} (h:Wt.wt r<=B) (hB:B<=2^40):r.small:=by
 have h':Wt.wt r.kind+Wt.wt r.aG+Wt.wt r.aU+Wt.wt r.prev+Wt.wt r.jM+Wt.wt r.n+Wt.wt r.uf+Wt.wt r.reads+Wt.wt r.writes+Wt.wt r.parts+Wt.wt r.xp+Wt.wt r.state+1<=B:=h;have h1:=uM (l:=r.reads) (B:=B) zQ;have h2:=uM (l:=r.writes) (B:=B) zQ;exact⟨by omega,by omega,YX (l:=r.reads) (B:=B) zQ hB,YW (l:=r.writes) (B:=B) zQ hB,YY (s:=r.state) (B:=B) zQ hB⟩
theorem Nh (s:BA):(wR s).length<=120*Wt.wt s:=by
 have h1:=Ag s;have h2:=fD s.size
 show _<=120*(s.size+1)
 omega
theorem Pu (x:KV):(sL x).length<=120*Wt.wt x:=by
 have h1:=Nh x.key;have h2:=YZ (v:=x.val);have h3:Wt.wt x=Wt.wt x.key+Wt.wt x.val+1:=rfl
 grind [sL]
theorem yL {α:Type} [Wt α] {f:α->List Nat} (l:List α) (h: ∀x,(f x).length<=120*Wt.wt x):(iY f l).length<=120*Wt.wt l:=by
 have h1:(l.map f).flatten.length<=120*(l.map Wt.wt).sum:=by
  induction l with
  |nil=>simp
  |cons x l ih=>grind
 have h2:=fD (l.length:Int);have h3:Wt.wt l=(l.map Wt.wt).sum+1:=rfl;unfold iY
 grind
theorem akH (n:Int):(encI n).length<=120*Wt.wt n:=by
 have:=fD n
 show _<=120*1
 omega
theorem af3 (v:pW):(zI v).length<=120*Wt.wt v:=by
 have h1:=vB v.aU;have h2:=YZ (v:=v.val);have h3:Wt.wt v=4+Wt.wt v.val+1:=rfl
 grind [zI]
theorem akI (h:kM):(Cq h).length<=120*Wt.wt h:=by
 have h1:=Nh h.key;have h2:=yL h.nh af3;have h3:Wt.wt h=Wt.wt h.key+Wt.wt h.nh+1:=rfl
 grind [Cq]
theorem akJ (p:gy):(zk p).length<=120*Wt.wt p:=by
 have h1:=Dl p.aG;have h2:=vB p.aU;have h3:=yL p.reads Nh;have h4:=yL p.writes Pu;have h5:Wt.wt p=Y3 p.aG+4+Wt.wt p.reads+Wt.wt p.writes+1:=rfl;have h6:=SR p.aG;unfold zk;simp only[aa];omega
theorem akK (s:State):(encS s).length<=120*Wt.wt s:=by
 have h1:=fD s.range.id;have h2:=fD s.range.iE;have h3:=vB s.floor;have h4:=vB s.closed;have h5:=yL s.iA akI;have h6:=yL s.ia akJ;have h7:Wt.wt s=Wt.wt s.range+4+4+Wt.wt s.iA+Wt.wt s.ia+1:=rfl;unfold encS Rm;simp only[aa,Pv];omega
theorem akL (r:Rec):(gq r).length<=120*Wt.wt r:=by
 have h':Wt.wt r=Wt.wt r.kind+Y3 r.aG+4+4+Wt.wt r.jM+Wt.wt r.n+Wt.wt r.uf+Wt.wt r.reads+Wt.wt r.writes+Wt.wt r.parts+Wt.wt r.xp+Wt.wt r.state+1:=rfl;have k0:=SR r.aG;have k1:=fD r.kind;have k2:=akK r.state;have k3:=fD r.n;have k4:=Dl r.aG;have k5:=vB r.aU;have k6:=vB r.prev;have k7:=yL r.reads Nh;have k8:=yL r.writes Pu;have k9:=yL r.xp Pu;have k10:=yL r.parts akH;have k11:=Pv r.uf;have k12:(aee r.jM).length=1:=rfl;unfold gq;rw[aa];repeat' split
 all_goals (try unfold zk);(try simp only[aa,bL]);omega
theorem amF {m:cJ} {B:Nat} (h:Wt.wt m<=B) (hB:B<=1048576):m.small/\m.lens<=2^62:=by
 have h':Wt.wt m.kind+Wt.wt m.fr+Wt.wt m.to+Wt.wt m.aG+Wt.wt m.range+Wt.wt m.iE+Wt.wt m.code+Wt.wt m.aU+Wt.wt m.prev+Wt.wt m.jM+Wt.wt m.n+Wt.wt m.mx+Wt.wt m.keys+Wt.wt m.seen+Wt.wt m.writes+Wt.wt m.parts+Wt.wt m.ranges+Wt.wt m.bw+Wt.wt m.state+1<=B:=h;have a1:=YY (s:=m.state) (B:=B) zQ zQ;have l1:=uM (l:=m.keys) (B:=B) zQ;have l2:=uM (l:=m.seen) (B:=B) zQ;have l3:=uM (l:=m.writes) (B:=B) zQ;have l4:=uM (l:=m.parts) (B:=B) zQ;have l5:=uM (l:=m.ranges) (B:=B) zQ;have l6:=uM (l:=m.bw) (B:=B) zQ;have hr: ∀r∈m.bw,Wt.wt r<=B:=λr hr=>by
  have h1:Wt.wt m.bw=(m.bw.map Wt.wt).sum+1:=rfl;have:=FC hr;omega
 refine⟨⟨by omega,by omega,λr h=>amE (hr r h) zQ,λr h _=>?_,a1⟩,?_⟩
 ·have:=akL r;have:=hr r h;omega
 ·unfold cJ.lens;omega
theorem aoE {o:jd} {B:Nat} (h:Wt.wt o<=B) (hB:B<=1048576):aeb o:=by
 have h':Wt.wt o.kind+Wt.wt o.gP+wtN o.n+Wt.wt o.m+Wt.wt o.prog+Wt.wt o.cT+1<=B:=h;obtain⟨a,b⟩:=amF (m:=o.m) (B:=B) zQ hB;have c:=uM (l:=o.prog) (B:=B) zQ;refine⟨a,b,by omega,?_⟩;apply dz;intro e;have:wtN o.n=1073741824:=if_neg e;omega
theorem amG {l:List jd} {B:Nat} (h:Wt.wt l<=B) (hB:B<=1048576):(∀o∈l,aeb o)/\Af l<=B:=by
 have h':(l.map Wt.wt).sum+1<=B:=h;refine⟨λo ho=>aoE (B:=B) (ad (FC ho) zQ) hB,?_⟩;have:Af l<=(l.map Wt.wt).sum:=by
  clear h h';unfold Af
  induction l with
  |nil=>simp
  |cons o l ih=>
   have h1:Wt.wt o.kind+Wt.wt o.gP+wtN o.n+Wt.wt o.m+Wt.wt o.prog+Wt.wt o.cT+1=Wt.wt o:=rfl;have h2:o.m.seen.length<=Wt.wt o.m:=by
    have:=uM (l:=o.m.seen) (B:=Wt.wt o.m) (by simp only[Wt.wt];omega);exact this
   simp only[bh,List.sum_cons];omega
 omega
abbrev rcT:Nat:=73
abbrev yj (z:Rec×Value):List Value:=z.1.l aX aX z.2 aX aX aX
def Hj (w:World) (K:XS) (zs:List (Rec×Value)) (rs:List Rec):Prop:=zs.map (·.1)=rs/\ ∀z∈zs,Sl w K 1 z.2 (z.1.parts.map I1)
section
variable {w w' wa w0 : World} {X X' G K K' F T T' : XS} {own aM bY : Nat -> Nat} {n n' : br} {b : Nat} {t0 : bX} {db : Nat} {m : DM} {s s' : CS}
def Hj.mv {zs:List (Rec×Value)} {rs:List Rec} (h:Hj w K zs rs) (m:Mv K w K' w'):Hj w' K' zs rs:=⟨h.1,λz hz=>(h.2 z hz).mv m⟩
theorem Hj.snoc {zs:List (Rec×Value)} {rs:List Rec} {r:Rec} {vp:Value} (h:Hj w K zs rs) (hp:Sl w K 1 vp (r.parts.map I1)):Hj w K (zs++[(r,vp)]) (rs++[r]):=by
 refine⟨by rw[aC,h.1];rfl,λz hz=>?_⟩;rcases List.mem_append.1 hz with hz|hz
 ·exact h.2 z hz
 ·rw[ax] at hz;subst hz;exact hp
theorem af4 {s s':kL} {r:Rec} (h:tY s r=some s') (hr:r.parts.length<=80) (hs: ∀x∈s.2,x.1.parts.length<=80): ∀x∈s'.2,x.1.parts.length<=80:=by
 unfold tY at h;split at h
 ·split at h<;>cases h
  exact hs
 split at h
 ·split at h<;>cases h
  intro x hx;rcases List.mem_append.1 hx with hx|hx
  ·exact hs x hx
  ·rw[List.mem_singleton.1 hx];exact hr
 split at h
 ·split at h<;>cases h
  intro x hx;obtain⟨y,hy,rfl⟩:=List.mem_map.1 hx;split<;>exact hs y hy
 ·cases h
theorem Rn: ∀{rs:List Rec} {s s':kL},zj s rs=some s'->(∀r∈rs,r.parts.length<=80)->(∀x∈s.2,x.1.parts.length<=80)-> ∀x∈s'.2,x.1.parts.length<=80
 |[],s,s',h,_,hs=>by cases h;exact hs
 |r::rs,s,s',h,hr,hs=>by
  obtain⟨s1,h1,h2⟩:=Option.bind_eq_some_iff.1 h;exact Rn h2 (λr hm=>hr r (bG _ hm)) (af4 h1 (hr r mj) hs)
theorem gz.parts {k N:Nat} (h:gz k N n): ∀b∈n.cl,(n.C b).r.parts.length<=80:=λb hb=>by
 obtain⟨pre,sg,_,hR,_⟩:=h.log;obtain⟨rs,_,hg,_,hr⟩:=hR.rs;exact Rn hr (λr hm=>(hg r hm).ps) sQ _ (List.mem_map.2 ⟨b,hb,rfl⟩)
theorem Pw (h:j9 w own n) (hX:tn own X) (qI:n.cl.length<=1000) (GC: ∀b∈n.cl,(n.C b).r.parts.length<=2^40):
  Ct pg 20 #[ptr n.nb 0] w X nX λv wa w'=> ∃zs,Own w' (made wa w') wa.heap.size rcT 29 v (zs.map yj)/\Hj w' (made wa w') zs (n.cl.map λb=>(n.C b).r):=by
 intro w0 hk;have s0:=St.init h hX hk;clear h hX hk;have bt:=s0.v.1;have TZ:Sl w0 (bP w0) 1 n.c.cm (n.cl.map λb=>[ptr b 0]):=(show Own w0 (bZ own 10) 0 pcT 1 n.c.cm _ from s0.get 10).sl.mono (s0.sub 10);have hlc:=TZ.gV;refine Ig.1 λhs=>?_;repeat' refine aq ?_;intros
 refine gM (λk a v w X=> ∃(i:Nat) (zs:List (Rec×Value)) (K:XS),a=I i/\k=n.cl.length-i/\i<=n.cl.length/\ai (bP w0) w0 X w/\Own w X w0.heap.size rcT 29 v (zs.map yj)/\(∀k,K k->w0.heap.size<=k/\X k/\ ¬fv v k)/\Hj w K zs ((n.cl.take i).map λb=>(n.C b).r)) n.cl.length
  ⟨0,[],nX,rfl,rfl,ak _,hs,Own.nil _ _ _ _ _,λk hk=>hk.elim,rfl,λz hz=>absurd hz sQ⟩ ?_
 rintro k _ v w1 X1 ⟨i,zs,K,rfl,rfl,hi,hs,ho,hK,hR⟩;rcases dB n.cl i with⟨cI,b,hb,hd⟩|⟨dC,hd⟩
 ·have OA:=av hb;obtain⟨JW,o2,op,_⟩:=s0.vc OA;have hp:Sl w0 (bP w0) 1 (n.C b).vp ((n.C b).r.parts.map I1):=(s0.h.BZ OA).2.2.mono λk (e:own k=4)=>s0.x k zQ;have wy:=GC b OA;obtain⟨e1,e2,e3,hvp⟩:=hp.form;rw[hvp] at hp JW op;repeat' refine aI ?_;intros
  refine cM (Fm (hp.mv hs.mv) wy) kQ hs.has ?_;rintro v2 xN w2 X2 q2 lK ko bH;have zx:Own w2 X2 w0.heap.size Qx 1 v2 _:=q2.up ko (ad hs.kp.size lK);have ov2:=zx.sl.one;have amH:=hs.trans bH;have kF:=ho.since bH;have hR2:=hR.mv λk hk _=>⟨hk,bH.kp.block k (hK k hk).2.1⟩;have kZ: ∀k,fv v2 k-> ¬fv v k:=λk e e'=>by have:=(q2.ge e).1;have:=(ho.ge e').2;omega
  obtain⟨g1,g2,g3,rfl⟩:=zx.sl.form;clear hs;have hs:=ai.fL bH.has;repeat' first|refine aq ?_;intros|(refine q1e hs ?_;intro _ _ _ w X hs ho)
  have aef:=amH.trans hs;have hlen:=congrArg List.length hR.1;rw[af,af,aD] at hlen;refine Co (bytes:=328) (kF.since hs) hs.has (ad amH.kp.size hs.kp.size) kQ ho.sl (λr hr u hu=>?_) (by simp only[bF,af];omega) (by simp only[bF,af];omega) λv5 w5 X5 c5 uG wP=>?_
  ·rw[ax] at hr;subst hr;simp only[List.mem_cons,List.not_mem_nil,or_false] at hu;repeat' rcases hu with rfl|hu
   all_goals first|rfl|(subst hu;rfl)
  have hKw: ∀k,K k->X k/\k<w.heap.size:=λk hk=>⟨hs.sub k (bH.sub k (hK k hk).2.1),hs.has k (hs.sub k (bH.sub k (hK k hk).2.1))⟩;have hqw:=zx.since hs;have SS: ∀k,(K k\/fv (.slice g1 g2 g3) k)->X k/\k<w.heap.size/\w0.heap.size<=k/\ ¬fv v k:=λk hk=>hk.elim (λhk=>⟨(hKw k hk).1,(hKw k hk).2,(hK k hk).1,(hK k hk).2.2⟩) λhk=>⟨hqw.2.2 k hk,(hqw.ge hk).2,(hqw.ge hk).1,kZ k hk⟩;have hv5: ∀k,(K k\/fv (.slice g1 g2 g3) k)-> ¬fv v5 k:=λk hk h5=>by
   have KT:=SS k hk;have h5:v5.ownBlock=some k:=h5;rcases wP with e|⟨g,e,dC⟩
   ·exact KT.2.2.2 (by rw[e] at h5;exact h5)
   ·rw[e] at h5;cases h5;omega
  have hR5:Hj w5 (λk=>K k\/fv (.slice g1 g2 g3) k) (zs++[((n.C b).r,.slice g1 g2 g3)]) ((n.cl.take (i+1)).map λb=>(n.C b).r):=by
   have e:(n.cl.take (i+1)).map (λb=>(n.C b).r)=(n.cl.take i).map (λb=>(n.C b).r)++[(n.C b).r]:=by rw[bW,hb];simp
   rw[e];refine Hj.snoc (vp:=.slice g1 g2 g3) (hR2.mv λk hk _=>⟨.inl hk,?_⟩) ((xO hqw (Y:=fv (.slice g1 g2 g3)) λg hg=>hg).sl.mv λk hk _=>⟨.inr hk,?_⟩)
   ·exact(c5.block k (hKw k hk).1 (SS k (.inl hk)).2.2.2).trans (hs.kp.block k (bH.sub k (hK k hk).2.1))
   ·exact c5.block k (SS k (.inr hk)).1 (SS k (.inr hk)).2.2.2
  have aqK:ai (bP w0) w0 X5 w5:=aef.dT c5 λk hk e=>by have:=(kF.ge e).1;have:k<w0.heap.size:=hk;omega
  clear hs;have hs:=ai.fL c5.has;repeat' refine aq ?_;intros
  exact fG (n.cl.length-(i+1)) zQ ⟨i+1,zs++[((n.C b).r,.slice g1 g2 g3)],_,congrArg I zQ,rfl,by omega,aqK,by rw[aC];exact uG,λk hk=>⟨(SS k hk).2.2.1,c5.sub k (SS k hk).1,hv5 k hk⟩,hR5⟩
 ·obtain rfl:i=n.cl.length:=by omega
  rw[ke] at hR;repeat' refine aI ?_;intros
  exact cH hs λwa aL=>⟨zs,(ho.kp aL).tight,hR.mv λk hk _=>⟨⟨(hK k hk).1,aw (hs.has k (hK k hk).2.1) aL.size⟩,aL.block k (hK k hk).2.1⟩⟩
theorem Mb {a:Value} {xs:List Int} {z:Int} (ha:Sl w X 1 a (xs.map I1)):Ct pg 17 #[a,I z] w X nX λv _ _=>v=B (xs.any λx=>decide (x=z)):=by
 intro w0 hk;replace ha:=ha.mv hk.cE;have lh:=ha.gV;refine Kn.1 λhs=>?_
 skip
 refine fY (λn a w X=> ∃i:Nat,a=I i/\n=xs.length-i/\i<=xs.length/\ai (bP w0) w0 X w/\(xs.any λx=>decide (x=z))=((xs.drop i).any λx=>decide (x=z))) xs.length ⟨0,rfl,rfl,ak _,hs,rfl⟩ ?_;rintro n' _ w1 X1 ⟨i,rfl,rfl,hi,hs,hw⟩;rcases dB xs i with⟨cI,y,hy,hd⟩|⟨dC,hd⟩
 ·rw[hd,List.any_cons] at hw;by_cases e:y=z
  ·repeat' refine aI ?_;intros
   exact cH hs λwa aL=>by rw[hw];simp[e]
  ·rw[decide_eq_false e,Bool.false_or] at hw;repeat' refine aI ?_;intros
   exact ey (xs.length-(i+1)) zQ ⟨i+1,congrArg I zQ,rfl,by omega,hs,hw⟩
 ·rw[hd] at hw;repeat' refine aI ?_;intros
  exact cH hs λwa aL=>by rw[hw];rfl
theorem Ro {a:Value} {zs:List (Rec×Value)} {t:bX} (ha:Sl w X 29 a (zs.map yj)) (ho: ∀z∈zs,aK.one z.2=true):Ct pg 19 #[a,t.v] w X nX λv _ _=>
  match zs.find? λz=>decide (z.1.aG=t)with
  |some z=>v= .tuple #[.agg (yj z).toArray,B true]
  |none=>v= .tuple #[.agg Ys.toArray,B false]:=by
 intro w0 hk;replace ha:=ha.mv hk.cE;have lh:=ha.gV;refine Hk.1 λhs=>?_
 skip
 refine gM (λn a b w X=> ∃i:Nat,a=I i/\b= .agg Ys.toArray/\n=zs.length-i/\i<=zs.length/\ai (bP w0) w0 X w/\(zs.find? λz=>decide (z.1.aG=t))=((zs.drop i).find? λz=>decide (z.1.aG=t))) zs.length ⟨0,rfl,rfl,rfl,ak _,hs,rfl⟩ ?_;rintro n' _ _ w1 X1 ⟨i,rfl,rfl,rfl,hi,hs,hw⟩;rcases dB zs i with⟨cI,y,hy,hd⟩|⟨dC,hd⟩
 ·have oy:=ho y (av hy);rw[hd] at hw;by_cases e:y.1.aG=t
  ·rw[List.find?_cons_of_pos (by simp[e])] at hw;repeat' first|refine aI ?_;intros|(with_reducible refine Em _ _ ?_ ?_ ?_);(· kernel_rfl);all_goals intros|(exfalso;simp_all;done)
   exact cH hs λwa aL=>by show(match List.find? _ zs with|some z=>_|none=>_:Prop);rw[hw]
  ·rw[List.find?_cons_of_neg (by simp[e])] at hw;repeat' first|refine aI ?_;intros|(with_reducible refine Em _ _ ?_ ?_ ?_);(· kernel_rfl);all_goals intros|(exfalso;simp_all;done)
   exact fG (zs.length-(i+1)) zQ ⟨i+1,congrArg I zQ,rfl,rfl,by omega,hs,hw⟩
 ·rw[hd] at hw;repeat' refine aI ?_;intros
  exact cH hs λwa aL=>by show(match List.find? _ zs with|some z=>_|none=>_:Prop);rw[hw];rfl
end
structure oB where
 t:bX
 ps:List Int
 vs:List Int
def zW (m:cJ) (e:oB):oB:=if e.t=m.aG/\m.range ∉ e.vs then { e with vs:=e.vs++[m.range] } else e
def vQ (l:List oB) (m:cJ):List oB:=if m.kind=3/\ ∀e∈l,e.t≠m.aG then l++[⟨m.aG,m.parts,[]⟩] else l
structure Hl (l:List oB) (t:bX) (d:oP):Prop where
 ws: ∀y∈d.ws,y.aG=t/\(y.kind=3->d.x.pre=true)
 pr:d.x.pre=true-> ∃e∈l,e.t=t/\e.ps=d.ids/\ ∀id∈d.ids,id∈e.vs\/ ∃y∈d.ws,y.range=id
 no:d.x.pre=false-> ∀e∈l,e.t≠t
structure pX (n:br) (l:List oB):Prop where
 nd:(l.map (·.t)).Nodup
 bP: ∀e∈l,e.t.aR<=n.c.aR/\(e.t.aR=n.c.aR->e.t.sq<=n.c.fZ)
 act: ∀t b,getM t n.al=some b->Hl l t (n.A b)
structure Y4 (l:List oB) (ms:List cJ) (t:bX) (d:oP):Prop where
 ws: ∀y∈d.ws,y.aG=t/\(y.kind=3->d.x.pre=true)
 pr:d.x.pre=true->(∃e∈l,e.t=t/\e.ps=d.ids/\ ∀id∈d.ids,id∈e.vs\/ ∃y∈d.ws,y.range=id)\/((∀e∈l,e.t≠t)/\(∃m∈ms,m.kind=3/\m.aG=t)/\ ∀id∈d.ids,∃y∈d.ws,y.range=id)
 no:d.x.pre=false-> ∀e∈l,e.t≠t
structure Bz (n:br) (l:List oB):Prop where
 nd:(l.map (·.t)).Nodup
 bP: ∀e∈l,e.t.aR<=n.c.aR/\(e.t.aR=n.c.aR->e.t.sq<=n.c.fZ)
 ms: ∀m∈n.ms,m.kind=3->(∃e∈l,e.t=m.aG)\/ ∃b,getM m.aG n.al=some b/\(n.A b).x.pre=true/\m.parts=(n.A b).ids
 act: ∀t b,getM t n.al=some b->Y4 l n.ms t (n.A b)
def Hl.toW {l:List oB} {t:bX} {d:oP} (h:Hl l t d) (ms:List cJ):Y4 l ms t d:=⟨h.ws,λe=>.inl (h.pr e),h.no⟩
theorem BB: ∀(ms:List cJ) (l:List oB),∃new,ms.foldl vQ l=l++new/\(∀e∈new,(∀e'∈l,e'.t≠e.t)/\e.vs=[]/\ ∃m∈ms,m.kind=3/\m.aG=e.t/\m.parts=e.ps)/\
  ((l.map (·.t)).Nodup->((l++new).map (·.t)).Nodup)/\ ∀m∈ms,m.kind=3-> ∃e∈l++new,e.t=m.aG
 |[],l=>⟨[],by simp,by simp,λh=>by simpa using h,by simp⟩
 |m::ms,l=>by
  rw[fN];by_cases hc:m.kind=3/\ ∀e∈l,e.t≠m.aG
  ·obtain⟨new,h1,h2,h3,h4⟩:=BB ms (vQ l m);have e:vQ l m=l++[⟨m.aG,m.parts,[]⟩]:=if_pos hc;rw[e] at h1 h2 h3 h4;refine⟨⟨m.aG,m.parts,[]⟩::new,by rw[e,h1];simp,λx hx=>?_,λhn=>?_,λy hy hk=>?_⟩
   ·rcases List.mem_cons.1 hx with rfl|hx
    ·exact⟨hc.2,rfl,m,by simp,hc.1,rfl,rfl⟩
    ·obtain⟨g1,g2,y,hy,g3⟩:=h2 x hx;exact⟨λe' yQ=>g1 e' (by simp[yQ]),g2,y,by simp[hy],g3⟩
   ·have:=h3 (by
     rw[aC,List.nodup_append];refine⟨hn,by simp,λa ha b hb=>?_⟩;obtain⟨z,hz,rfl⟩:=List.mem_map.1 ha;simp only[bh,List.map_nil,ax] at hb;rw[hb];exact hc.2 z hz)
    simpa using this
   ·rcases List.mem_cons.1 hy with rfl|hy
    ·exact⟨⟨y.aG,y.parts,[]⟩,by simp,rfl⟩
    ·obtain⟨z,hz,e'⟩:=h4 y hy hk;exact⟨z,by simpa using hz,e'⟩
  ·have e:vQ l m=l:=if_neg hc;rw[e];obtain⟨new,h1,h2,h3,h4⟩:=BB ms l;refine⟨new,h1,λx hx=>?_,h3,λy hy hk=>?_⟩
   ·obtain⟨g1,g2,y,hy,g3⟩:=h2 x hx;exact⟨g1,g2,y,by simp[hy],g3⟩
   ·rcases List.mem_cons.1 hy with rfl|hy
    ·have: ∃e∈l,e.t=y.aG:=dz λpc=>hc ⟨hk,λe he e'=>pc ⟨e,he,e'⟩⟩;obtain⟨z,hz,e'⟩:=this;exact⟨z,by simp[hz],e'⟩
    ·exact h4 y hy hk
section
variable {n n1 : br} {l : List oB} {m : cJ} {t : bX} {b : Nat}
theorem Bz.ajR (h:Bz n l) (hx: ∀t b,getM t n.al=some b->t.aR=n.c.aR/\t.sq<=n.c.fZ):pX (eQ n) (n.ms.foldl vQ l):=by
 obtain⟨new,h1,h2,h3,h4⟩:=BB n.ms l;rw[h1];have Bu: ∀e∈new,∃b,getM e.t n.al=some b/\(n.A b).x.pre=true/\e.ps=(n.A b).ids:=λe he=>by
  obtain⟨g1,_,y,hy,hk,e1,e2⟩:=h2 e he;rcases h.ms y hy hk with⟨z,hz,e3⟩|⟨b,q1,q2,q3⟩
  ·exact absurd (e3.trans e1) (g1 z hz)
  ·exact⟨b,e1▸q1,q2,e2▸q3⟩
 refine⟨h3 h.nd,λe he=>?_,λt b hg=>?_⟩
 ·rcases List.mem_append.1 he with he|he
  ·exact h.bP e he
  ·obtain⟨b,q1,_⟩:=Bu e he;have:=hx _ _ q1;exact⟨by show _<=n.c.aR;omega,λ_=>this.2⟩
 ·have q:=h.act t b hg;refine⟨q.ws,λhp=>?_,λhp e he=>?_⟩
  ·rcases q.pr hp with⟨e,he,g⟩|⟨pc,⟨y,hy,hk,e1⟩,aqL⟩
   ·exact⟨e,bq _ he,g⟩
   ·obtain⟨e,he,e2⟩:=h4 y hy hk;rcases List.mem_append.1 he with he|he
    ·exact absurd (e2.trans e1) (pc e he)
    ·obtain⟨b',q1,_,q3⟩:=Bu e he;rw[e2,e1] at q1;have hg:getM t n.al=some b:=hg;rw[hg] at q1;cases q1;exact⟨e,cC _ he,e2.trans e1,q3,λid oc=>.inr (aqL id oc)⟩
  ·rcases List.mem_append.1 he with he|he
   ·exact q.no hp e he
   ·obtain⟨b',q1,q2,_⟩:=Bu e he;rintro rfl;have hg:getM e.t n.al=some b:=hg;rw[hg] at q1;cases q1;have hp:(n.A b).x.pre=false:=hp;rw[hp] at q2;cases q2
theorem pX.to (h:pX n l) (hl:n1.c.aR=n.c.aR) (hc:n1.c.fZ=n.c.fZ) (D3: ∀m∈n1.ms,m.kind≠3) (ha: ∀t b,getM t n1.al=some b->Hl l t (n1.A b)):Bz n1 l:=
 ⟨h.nd,by rw[hl,hc];exact h.bP,λm hm hk=>absurd hk (D3 m hm),λt b hg=>(ha t b hg).toW _⟩
theorem pX.mid (h:pX n l) (hm:n.ms=[]):Bz n l:=h.to rfl rfl (by rw[hm];simp) h.act
theorem pX.call {p:List jz} (h:pX n l) (hC:Ef n p n1):Bz n1 l:=by
 obtain⟨xb,gN,Gp,vm,va,rm,ra,ms,d,rfl,JU,hc⟩:=hC;have hold: ∀e∈l,e.t.aR<=n.c.aR/\(e.t.aR=n.c.aR->e.t.sq<=n.c.fZ+1):=λe he=>by
  have:=h.bP e he;exact⟨this.1,λe=>by have:=this.2 e;omega⟩
 have cu: ∀e∈l,e.t≠iU n:=λe he e'=>by
  have:=(h.bP e he).2 (by rw[e'];rfl);rw[e'] at this;have:n.c.fZ+1<=n.c.fZ:=this;omega
 have hA: ∀t b,getM t n.al=some b->Y4 l ms t (if b=xb then d else n.A b):=λt b hg=>by
  rw[if_neg λe=>JU t (by rw[hg,e])];exact(h.act t b hg).toW _
 rcases hc with⟨a,rfl,rfl,rfl,hc⟩|⟨rfl,rfl,_,_,hdt,_,_,_,rfl,Qv,_,hwt,hc⟩
 ·exact⟨h.nd,hold,λm hm=>absurd hm sQ,λt b hg=>hA t b (jF hg).1⟩
 ·refine⟨h.nd,hold,λm hm hk=>?_,λt b hg=>?_⟩
  ·obtain⟨y,hy,rfl⟩:=List.mem_map.1 hm;rcases hc with⟨_,_,_,By,_⟩|⟨hp,A5,Y5⟩
   ·have:=By y hy;have hk:y.kind=3:=hk;omega
   ·exact .inr ⟨xb,by show getM y.aG (cU _ _ _)=_;rw[(hwt y hy).1];exact jK,by show(if xb=xb then d else n.A xb).x.pre=true;rw[if_pos rfl];exact hp,by show y.parts=(if xb=xb then d else n.A xb).ids;rw[if_pos rfl];exact(Y5 y hy).2⟩
  ·rcases La hg with⟨rfl,rfl⟩|⟨_,hg⟩
   ·show Y4 l _ _ (if b=b then d else n.A b)
    rw[if_pos rfl];rcases hc with⟨hp,_,_,By,_⟩|⟨hp,A5,Y5⟩
    ·exact⟨λy hy=>⟨(hwt y hy).1,λhk=>by have:=By y hy;omega⟩,λe=>absurd (hp.symm.trans e) dQ,λ_=>cu⟩
    ·refine⟨λy hy=>⟨(hwt y hy).1,λ_=>hp⟩,λ_=>.inr ⟨cu,?_,λid oc=>?_⟩,λe=>absurd (hp.symm.trans e) dQ⟩
     ·obtain⟨y,hy⟩:=tZ _ Qv;exact⟨_,List.mem_map.2 ⟨y,hy,rfl⟩,(Y5 y hy).1,(hwt y hy).1⟩
     ·rw[<-A5] at oc;exact List.mem_map.1 oc
   ·exact hA t b hg
theorem akM {α:Type} {l:List α} {i:Nat} {y z:α} (hy:l[i]? =some y) (h:z∈l):z∈l.take i++l.drop (i+1)\/z=y:=by
 obtain⟨hi,rfl⟩:=List.getElem?_eq_some_iff.1 hy;have e:l=l.take i++l[i]::l.drop (i+1):=by rw[List.getElem_cons_drop,fy]
 rw[e] at h;rcases List.mem_append.1 h with h|h
 ·exact .inl (bq _ h)
 ·rcases List.mem_cons.1 h with h|h
  ·exact .inr h
  ·exact .inl (cC _ h)
theorem ach {α:Type} {l:List α} {i:Nat} {z:α} (h:z∈l.take i++l.drop (i+1)):z∈l:=by
 rcases List.mem_append.1 h with h|h
 ·exact List.mem_of_mem_take h
 ·exact List.mem_of_mem_drop h
theorem pX.set {d:oP} (h:pX n l) (iO:uj n) (hb:getM t n.al=some b) (hl:n1.c.aR=n.c.aR) (hc:n1.c.fZ=n.c.fZ) (ha:n1.al=n.al) (hA:n1.A=λb'=>if b'=b then d else n.A b') (hd:Y4 l n1.ms t d)
  (D3: ∀m∈n1.ms,m.kind=3->(∃e∈l,e.t=m.aG)\/(m.aG=t/\d.x.pre=true/\m.parts=d.ids)):Bz n1 l:=by
 refine⟨h.nd,by rw[hl,hc];exact h.bP,λm hm hk=>?_,λt' b' hg=>?_⟩
 ·rcases D3 m hm hk with q|⟨rfl,q⟩
  ·exact .inl q
  ·exact .inr ⟨b,by rw[ha];exact hb,by rw[hA];dsimp only;rw[if_pos rfl];exact q⟩
 ·rw[ha] at hg;rw[hA];by_cases e:b'=b
  ·subst e;obtain rfl:t'=t:=(iO _ _ hg).symm.trans (iO _ _ hb);dsimp only;rw[if_pos rfl];exact hd
  ·dsimp only;rw[if_neg e];exact(h.act _ _ hg).toW _
theorem pX.EZ {pp:Bool} (h:pX n l) (hm:n.ms=[]) (hG:CM n m pp n1):Bz n1 l:=by
 obtain⟨b,gN,mR,ki,lX,hb,hp,hc,rfl⟩:=hG;refine h.to rfl rfl (λy hy=>?_) λt b hg=>h.act t b (jF hg).1;dsimp only at hy;rw[hm,bp] at hy;split at hy
 ·obtain⟨id,_,rfl⟩:=List.mem_map.1 hy
  show(5:Int)≠3
  decide
 ·exact absurd hy sQ
theorem pX.seen (h:pX n l) (hm:n.ms=[]) (iO:uj n) (hS:M3 n m n1):Bz n1 l:=by
 rcases hS with⟨gN,rfl⟩|hG|⟨b,i,y,gN,qP,gX,iK,n2,hw,rfl,hc⟩
 ·exact h.to rfl rfl (by dsimp only;rw[hm];simp) h.act
 ·exact h.EZ hm hG
 ·have q:=h.act _ _ hw.g;have hp:=hw.pre;have hd:Hl l m.aG (qm (n.A b) i m qP gX iK):=⟨λz hz=>q.ws z (ach hz),λe=>absurd (hp.symm.trans e) dQ,λ_=>q.no hp⟩;have h2:Bz { dN n b (qm (n.A b) i m qP gX iK)with ck:=gN } l:=h.set iO hw.g rfl rfl rfl rfl (hd.toW _) λy hy=>by
   have hy:y∈n.ms:=hy;rw[hm] at hy;exact absurd hy sQ
  rcases hc with⟨_,rfl⟩|⟨_,n3,hr,rfl⟩
  ·exact h2
  ·have hA:({ dN n b (qm (n.A b) i m qP gX iK)with ck:=gN } :br).A b=qm (n.A b) i m qP gX iK:=if_pos rfl;rcases hr with⟨ki,a,_,_,mR,lX,rfl,_⟩|⟨ids,pm,vq,vw2,rw2,cu,lU,A6,nK,_,mR,lX,rfl,_⟩
   ·refine h.to rfl rfl (by dsimp only;rw[fM];show∀m∈n.ms,_;rw[hm];simp) λt' b' hg=>?_;have vj:getM t' n.al=some b':=(jF hg).1
    show Hl l t' (if b'=b then _ else _)
    by_cases e:b'=b
    ·subst e;obtain rfl:t'=m.aG:=(iO _ _ vj).symm.trans (iO _ _ hw.g);rw[if_pos rfl];exact hd
    ·rw[if_neg e];exact h.act _ _ vj
   ·rw[hA];have ht:(qm (n.A b) i m qP gX iK).x.aG=m.aG:=iO _ _ hw.g;refine h.set (d:= { qm (n.A b) i m qP gX iK with x:= { (qm (n.A b) i m qP gX iK).x with pre:=true,vq:=vq },vw:=vw2,rw:=rw2,ws:=pm.map λm'=>m'.asked (qm (n.A b) i m qP gX iK).x,ids:=ids }) iO hw.g rfl rfl rfl ?_ ?_ ?_
    ·funext b'
     show(if b'=b then _ else if b'=b then _ else n.A b')=_
     by_cases e:b'=b
     ·rw[if_pos e,if_pos e]
     ·rw[if_neg e,if_neg e,if_neg e]
    ·refine⟨λz hz=>?_,λ_=>.inr ⟨q.no hp,?_,λid oc=>?_⟩,λe=>Bool.noConfusion e⟩
     ·obtain⟨z',_,rfl⟩:=List.mem_map.1 hz;exact⟨ht,λ_=>rfl⟩
     ·obtain⟨z,hz⟩:=tZ pm (λe=>cu (by rw[<-A6,e];rfl));exact⟨(z.asked (qm (n.A b) i m qP gX iK).x).pP (20+n.c.id),cC _ (List.mem_map.2 ⟨z,hz,rfl⟩),(nK z hz).1,ht⟩
     ·have oc:id∈ids:=oc;rw[<-A6] at oc;obtain⟨z,hz,rfl⟩:=List.mem_map.1 oc;exact⟨_,List.mem_map.2 ⟨z,hz,rfl⟩,rfl⟩
    ·intro z hz hk;have hz:z∈n.ms++_:=hz;rw[hm,bp] at hz;obtain⟨z',tg,rfl⟩:=List.mem_map.1 hz;exact .inr ⟨ht,rfl,(nK z' tg).2.1⟩
theorem CN.cut {pp:Bool} {i:Nat} {y:cJ} {gX:Value} {iK:List (List Value)} (hw:CN n m pp b i y) (q:Hl l m.aG (n.A b)) (hv: ∀e∈l,e.t=m.aG->m.range∈e.vs):Hl l m.aG (mF (n.A b) i m gX iK):=
 ⟨λz hz=>q.ws z (ach hz),λe=>by
  obtain⟨e,he,e1,e2,e3⟩:=q.pr e;refine⟨e,he,e1,e2,λid oc=>?_⟩;rcases e3 id oc with h|⟨z,hz,rfl⟩
  ·exact .inl h
  ·rcases akM hw.gL hz with hz|rfl
   ·exact .inr ⟨z,hz,rfl⟩
   ·rw[hw.pe];exact .inl (hv e he e1),q.no⟩
theorem pX.YH (h:pX n l) (hm:n.ms=[]) (iO:uj n) (hv:m.code=0-> ∀e∈l,e.t=m.aG->m.range∈e.vs) (hS:Q7 n m n1):Bz n1 l:=by
 rcases hS with⟨gN,rfl,_⟩|hG|⟨b,i,y,gN,gX,iK,n2,hw,rfl,hc⟩
 ·exact h.to rfl rfl (by dsimp only;rw[hm];simp) h.act
 ·exact h.EZ hm hG
 ·have hd:=hw.cut (gX:=gX) (iK:=iK) (h.act _ _ hw.g) (hv hw.code);have wO: ∀t' b',getM t' n.al=some b'->Hl l t' (if b'=b then mF (n.A b) i m gX iK else n.A b'):=λt' b' hg=>by
   by_cases e:b'=b
   ·subst e;obtain rfl:t'=m.aG:=(iO _ _ hg).symm.trans (iO _ _ hw.g);rw[if_pos rfl];exact hd
   ·rw[if_neg e];exact h.act _ _ hg
  have h5: ∀{L:List Int} {f:Int->cJ},(∀id,(f id).kind=5)-> ∀z∈n.ms++L.map f,z.kind≠3:=λhf z hz=>by
   rw[hm,bp] at hz;obtain⟨id,_,rfl⟩:=List.mem_map.1 hz;rw[hf];decide
  rcases hc with⟨_,rfl⟩|⟨_,⟨_,_,ki,mR,lX,rfl,_⟩|⟨_,bx,BY,vp,v2,ki,vs,AH,_,mR,lX,rfl,_⟩⟩
  ·exact h.to rfl rfl (by show∀m∈n.ms,_;rw[hm];simp) wO
  ·exact h.to rfl rfl (h5 λ_=>rfl) λt' b' hg=>wO t' b' (jF hg).1
  ·exact h.to rfl rfl (h5 λ_=>rfl) λt' b' hg=>wO t' b' (jF hg).1
theorem pX.step (h:pX n l) (hm:n.ms=[]) (iO:uj n) (hv:m.kind=4->m.code=0->m.to=20+n.c.id-> ∀e∈l,e.t=m.aG->m.range∈e.vs) (hS:CT n m n1):Bz n1 l:=by
 rcases hS with⟨_,rfl⟩|⟨_,xn,⟨_,h1⟩|⟨hk,h1⟩|⟨_,h1⟩|⟨_,h1⟩|⟨_,_,_,_,rfl⟩⟩
 ·exact h.mid hm
 ·exact h.seen hm iO h1
 ·exact h.YH hm iO (λhc=>hv hk hc xn) h1
 ·rcases h1 with rfl|⟨_,_,_,_,⟨_,rfl⟩|⟨_,_,rfl⟩⟩
  ·exact h.mid hm
  all_goals exact h.to rfl rfl (by show∀m∈n.ms,_;rw[hm];simp) h.act
 ·rcases h1 with⟨_,rfl⟩|⟨_,_,_,rfl,_⟩
  ·exact h.mid hm
  ·refine h.to rfl rfl (λz hz=>?_) h.act;have hz:z∈n.ms++[_]:=hz;rw[hm,bp,ax] at hz;rw[hz];show(5:Int)≠3;decide
 ·exact h.mid hm
def VT (n:br) (l:List oB):Prop:=pX n l/\ ∀m∈n.ms,m.kind=3-> ∃e∈l,e.t=m.aG
theorem ry.vt (h:VT n l) (hT:ry n t n1):VT n1 l:=by
 obtain⟨b0,xM,_,hc⟩:=hT;have wO: ∀t' b',getM t' n.al=some b'->Hl l t' (if b'=b0 then vN (n.A b0)else n.A b'):=λt' b' hg=>by
  have q:=h.1.act t' b' hg;by_cases e:b'=b0
  ·subst e;rw[if_pos rfl];exact⟨q.ws,q.pr,q.no⟩
  ·rw[if_neg e];exact q
 rcases hc with⟨_,ki,mR,lX,rfl,_⟩|⟨_,mR,lX,rfl,_⟩
 ·refine⟨⟨h.1.nd,h.1.bP,λt' b' hg=>wO t' b' (jF hg).1⟩,λz hz hk=>?_⟩;rcases List.mem_append.1 hz with hz|hz
  ·exact h.2 z hz hk
  ·split at hz
   ·obtain⟨id,_,rfl⟩:=List.mem_map.1 hz;exact absurd hk (by show¬(5:Int)=3;decide)
   ·exact absurd hz sQ
 ·refine⟨⟨h.1.nd,h.1.bP,wO⟩,λz hz hk=>?_⟩;rcases List.mem_append.1 hz with hz|hz
  ·exact h.2 z hz hk
  ·obtain⟨y,hy,rfl⟩:=List.mem_map.1 hz;have q:=h.1.act _ _ xM;have g:=q.ws y hy;obtain⟨e,he,e1,_⟩:=q.pr (g.2 hk);exact⟨e,he,e1.trans g.1.symm⟩
theorem lN.vt: ∀{ts:List bX} {n n1:br},VT n l->lN ts n n1->VT n1 l
 |[],n,n1,h,e=>by
  have e:n1=n:=e;rw[e];exact h
 |t::ts,n,n1,h,⟨n2,h1,h2⟩=>lN.vt (h1.vt h) h2
theorem tO.vt: ∀{bs:List Nat} {n n1:br},VT n l->tO bs n n1->VT n1 l
 |[],n,n1,h,e=>by
  have e:n1=n:=e;rw[e];exact h
 |b::bs,n,n1,h,⟨n2,h1,h2⟩=>by
  refine tO.vt ?_ h2;rcases h1 with⟨_,rfl⟩|⟨_,mR,lX,rfl,_⟩
  ·exact h
  ·refine⟨⟨h.1.nd,h.1.bP,h.1.act⟩,λz hz hk=>?_⟩;rcases List.mem_append.1 hz with hz|hz
   ·exact h.2 z hz hk
   ·obtain⟨id,_,rfl⟩:=List.mem_map.1 hz;exact absurd hk (by show¬(5:Int)=3;decide)
theorem pX.tick (h:pX n l) (hm:n.ms=[]) (hT:Gz n n1):Bz n1 l:=by
 obtain⟨ts,n2,_,h1,h2⟩:=hT;obtain⟨g1,g2⟩:=tO.vt (lN.vt ⟨h,by rw[hm];simp⟩ h1) h2;exact⟨g1.nd,g1.bP,λm hm hk=>.inl (g2 m hm hk),λt b hg=>(g1.act t b hg).toW _⟩
end
def VI:CS->List oB->Prop
 | .up n,l=>pX n l
 | .dn _ _ P,l=>(l.map (·.t)).Nodup/\ ∀e∈l,∀a,P a->e.t.aR<=a.1
def Px (o:jd) (n1:br) (l:List oB) (a:xq):Prop:=a.e≠0\/a.on=true\/(o.kind=2/\o.m.kind=4/\ ∃b∈n1.cl,(n1.C b).r.aG=a.t/\(∀b'∈n1.cl,(n1.C b').r.aG=a.t->b'=b)/\(n1.C b).r.aU=a.st/\ ¬a.st.cmp o.m.aU<0/\
 ∃e∈l,e.t=a.t/\e.ps=(n1.C b).r.parts/\ ∀id∈e.ps,id∈e.vs)
def vR (Q:xq->Prop) (n n1:br):Prop:= ∃sa:List xq,n1.ra=n.ra++sa.map xq.l/\ ∀a∈sa,aK.one a.vs=true/\Q a
section
variable {n n1 : br} {l : List oB} {m : cJ} {t : bX} {b k N : Nat} {Q : xq -> Prop}
theorem vR.no (h:n1.ra=n.ra):vR Q n n1:=⟨[],by rw[h];simp,by simp⟩
theorem vR.one {a:xq} (h:n1.ra=n.ra++[a.l]) (ho:aK.one a.vs=true) (hq:Q a):vR Q n n1:=⟨[a],by rw[h];rfl,λb hb=>by rw[List.mem_singleton.1 hb];exact⟨ho,hq⟩⟩
theorem vR.trans {n2:br} (h:vR Q n n1) (q:vR Q n1 n2):vR Q n n2:=by
 obtain⟨a,a1,a2⟩:=h;obtain⟨b,b1,b2⟩:=q;exact⟨a++b,by rw[b1,a1,aC,ao],λx hx=>(List.mem_append.1 hx).elim (a2 x) (b2 x)⟩
theorem aeg (a b:cn): ¬(a.later b).cmp b<0:=by
 unfold cn.later;split
 ·unfold cn.cmp;simp
 ·assumption
theorem Ef.Cr {p:List jz} (hC:Ef n p n1) (Ay:n.ra=[]):vR (λa=>a.e≠0\/a.on=true) n n1:=by
 obtain⟨xb,gN,Gp,vm,va,rm,ra,ms,d,rfl,JU,hc⟩:=hC;rcases hc with⟨a,rfl,_,_,⟨e,he,rfl⟩|⟨st,vs,hv,rfl⟩⟩|⟨rfl,_⟩
 ·exact .one (a:=⟨e,iU n,.zero,false,aX⟩) (by rw[Ay];rfl) rfl (.inl he)
 ·exact .one (a:=⟨0,iU n,st,true,vs⟩) (by rw[Ay];rfl) hv (.inr rfl)
 ·exact .no Ay.symm
theorem CM.Cr {pp:Bool} (hG:CM n m pp n1):vR (λa=>a.e≠0\/a.on=true) n n1:=by
 obtain⟨b,gN,mR,ki,lX,hb,hp,hc,rfl⟩:=hG;exact .one (a:=⟨m.code,m.aG,.zero,false,aX⟩) rfl rfl (.inl hc)
theorem M3.Cr (hS:M3 n m n1):vR (λa=>a.e≠0\/a.on=true) n n1:=by
 rcases hS with⟨gN,rfl⟩|hG|⟨b,i,y,gN,qP,gX,iK,n2,hw,rfl,⟨_,rfl⟩|⟨_,n3,⟨ki,a,ha,_,mR,lX,rfl,_⟩|⟨ids,pm,vq,vw2,rw2,cu,lU,A6,nK,_,mR,lX,rfl,_⟩,rfl⟩⟩
 ·exact .no rfl
 ·exact hG.Cr
 ·exact .no rfl
 ·rcases ha with⟨e,he,rfl⟩|⟨vs,hv,rfl⟩
  ·exact .one (a:=⟨e,_,.zero,false,aX⟩) rfl rfl (.inl he)
  ·exact .one (a:=⟨0,_,_,true,vs⟩) rfl hv (.inr rfl)
 ·exact .no rfl
theorem ry.Cr (hT:ry n t n1):vR (λa=>a.e≠0\/a.on=true) n n1:=by
 obtain⟨b0,xM,_,⟨_,ki,mR,lX,rfl,_⟩|⟨_,mR,lX,rfl,_⟩⟩:=hT
 ·exact .one (a:=⟨25,t,.zero,false,aX⟩) rfl rfl (.inl (show(25:Int)≠0 by decide))
 ·exact .no rfl
theorem lN.Cr: ∀{ts:List bX} {n n1:br},lN ts n n1->vR (λa=>a.e≠0\/a.on=true) n n1
 |[],n,n1,h=>.no (by rw[show n1=n from h])
 |t::ts,n,n1,⟨n2,h1,h2⟩=>h1.Cr.trans (lN.Cr h2)
theorem Gz.Cr (hT:Gz n n1):vR (λa=>a.e≠0\/a.on=true) n n1:=by
 obtain⟨ts,n2,_,h1,h2⟩:=hT;obtain⟨_,_,_,_,e⟩:=h2.calm;obtain⟨sa,a1,a2⟩:=h1.Cr;exact⟨sa,e.trans a1,a2⟩
def vR.imp {Q':xq->Prop} (h:vR Q n n1) (hq: ∀a,Q a->Q' a):vR Q' n n1:=
 let⟨sa,a1,a2⟩:=h
 ⟨sa,a1,λa ha=>⟨(a2 a ha).1,hq a (a2 a ha).2⟩⟩
theorem pX.ans {o:jd} {l2:List oB} (h:pX n l) (ic:gz k N n) (hk:o.kind=2) (hv:o.m.kind=4->o.m.code=0->o.m.to=20+n.c.id-> ∀e∈l,e.t=o.m.aG->o.m.range∈e.vs) (hl: ∀e∈l,e∈l2) (hS:CT n o.m n1):vR (Px o n1 l2) n n1:=by
 have w: ∀a:xq,a.e≠0\/a.on=true->Px o n1 l2 a:=λa ha=>ha.elim .inl λh=>.inr (.inl h);rcases hS with⟨_,rfl⟩|⟨_,xn,⟨_,h1⟩|⟨ES,h1⟩|⟨_,h1⟩|⟨_,h1⟩|⟨_,_,_,_,rfl⟩⟩
 ·exact .no rfl
 ·exact h1.Cr.imp w
 ·rcases h1 with⟨gN,rfl,_⟩|hG|⟨b,i,y,gN,gX,iK,n2,hw,rfl,hc⟩
  ·exact .no rfl
  ·exact hG.Cr.imp w
  ·rcases hc with⟨_,rfl⟩|⟨h1,⟨_,h0,ki,mR,lX,rfl,_⟩|⟨_,bx,BY,vp,v2,ki,vs,AH,gn,mR,lX,rfl,_⟩⟩
   ·exact .no rfl
   ·exact .one (a:=⟨_,o.m.aG,.zero,false,aX⟩) rfl rfl (.inl (λe=>h0 (Int.natCast_eq_zero.1 e)))
   ·have hd:=hw.cut (gX:=gX) (iK:=iK) (h.act _ _ hw.g) (hv ES hw.code xn);obtain⟨e,he,e1,e2,e3⟩:=hd.pr hw.pre;have Qv:(mF (n.A b) i o.m gX iK).ws=[]:=by
     have hi:=(List.getElem?_eq_some_iff.1 hw.gL).1;refine List.eq_nil_of_length_eq_zero ?_
     show((n.A b).ws.take i++(n.A b).ws.drop (i+1)).length=0
     rw[aa,aD,List.length_drop];omega
    have hA:(dN n b (mF (n.A b) i o.m gX iK)).A b=mF (n.A b) i o.m gX iK:=if_pos rfl;have TJ:getM o.m.aG n.bl=none:=(ic.act _ _ hw.g).bl;refine .one (a:=⟨0,o.m.aG,_,false,vs⟩) rfl AH (.inr (.inr ⟨hk,ES,bx,cC _ (List.mem_singleton.2 rfl),?_,λb' dO e'=>?_,?_,?_,e,hl e he,e1,?_,λid oc=>?_⟩))
    ·show(if bx=bx then _ else _:zh).r.aG=_
     rw[if_pos rfl];rfl
    ·rcases List.mem_append.1 dO with dO|dO
     ·have cu:b'≠bx:=λe=>gn (e▸dO);have e':(if b'=bx then _ else n.C b':zh).r.aG=o.m.aG:=e';rw[if_neg cu] at e';have:=(ic.bl _ _).2 ⟨dO,e'⟩;rw[TJ] at this;cases this
     ·exact List.mem_singleton.1 dO
    ·show(if bx=bx then _ else _:zh).r.aU=_
     rw[if_pos rfl];rfl
    ·show¬(cn.cmp ((dN n b (mF (n.A b) i o.m gX iK)).A b).x.ml _)<0
     rw[hA];exact aeg _ _
    ·show _=(if bx=bx then _ else _:zh).r.parts
     rw[if_pos rfl]
     show e.ps=((dN n b (mF (n.A b) i o.m gX iK)).A b).ids
     rw[hA];exact e2
    ·rw[e2] at oc;rcases e3 id oc with q|⟨z,hz,_⟩
     ·exact q
     ·rw[Qv] at hz;exact absurd hz sQ
 ·rcases h1 with rfl|⟨_,_,_,_,⟨_,rfl⟩|⟨_,_,rfl⟩⟩<;>exact .no rfl
 ·rcases h1 with⟨_,rfl⟩|⟨_,_,_,rfl,_⟩<;>exact .no rfl
 ·exact .no rfl
end
theorem VI.act {s s1:CS} {o:jd} {t:bX} {l:List oB} {k N k' N':Nat} (h:VI s l) (lT:CS.Ok k N s) (Py:CS.Ok k' N' s1.Hi) (iO: ∀n,s= .up n->uj n) (hR:SQ s o t s1)
  (hv:o.kind=2->o.m.kind=4->o.m.code=0->o.m.to=21-> ∀e∈l,e.t=o.m.aG->o.m.range∈e.vs):
  VI s1.Hi (s1.ms.foldl vQ l)/\ ∀n1,s1= .up n1-> ∃sa:List xq,n1.ra=sa.map xq.l/\ ∀a∈sa,aK.one a.vs=true/\Px o n1 (n1.ms.foldl vQ l) a:=by
 have qv: ∀ms:List cJ,∀e∈l,e∈ms.foldl vQ l:=λms e he=>by
  obtain⟨new,h1,_⟩:=BB ms l;rw[h1];exact bq _ he
 have tx: ∀{n1:br},gz k' N' (eQ n1)-> ∀t b,getM t n1.al=some b->t.aR=n1.c.aR/\t.sq<=n1.c.fZ:=λhu t b hg=>let q:=hu.act t b hg;⟨q.aR,q.sq.2⟩
 have Br: ∀{n1:br} {a:kL},Nf a n1->(l.map (·.t)).Nodup->(∀e∈l,e.t.aR<=a.1)->Bz n1 l:=λ{n1 a} hB qf GD=>by
  have e1:n1.c.aR=a.1+1:=congrArg Prod.fst hB.abs;refine⟨qf,λe he=>?_,by rw[hB.ms];simp,λt b hg=>by rw[hB.al] at hg;cases hg⟩;have:=GD e he;omega
 cases s with
 |up n=>
  have h:pX n l:=h;have ic:gz k N n:=lT;have iO:=iO n rfl;have fin: ∀{n1:br} {Q:xq->Prop},Bz n1 l->gz k' N' (eQ n1)->vR Q n n1->(∀a,Q a->Px o n1 (n1.ms.foldl vQ l) a)->VI (CS.up n1).Hi ((CS.up n1).ms.foldl vQ l)/\ ∀n2,CS.up n1= .up n2-> ∃sa:List xq,n2.ra=sa.map xq.l/\ ∀a∈sa,aK.one a.vs=true/\Px o n2 (n2.ms.foldl vQ l) a:=by
   rintro n1 Q hm hu ⟨sa,a1,a2⟩ hq;refine⟨hm.ajR (tx hu),λn2 e=>?_⟩;cases e;exact⟨sa,by rw[a1,ic.ok.ra];rfl,λa ha=>⟨(a2 a ha).1,hq a (a2 a ha).2⟩⟩
  have w: ∀{n1:br} (a:xq),a.e≠0\/a.on=true->Px o n1 (n1.ms.foldl vQ l) a:=λa ha=>ha.elim .inl λh=>.inr (.inl h);rcases hR with⟨_,_,n1,rfl,hC⟩|⟨hk,_,⟨n1,rfl,hC⟩|⟨m',rfl,hF⟩⟩|⟨_,_,n1,rfl,hC⟩|⟨_,_,rfl⟩|⟨_,_,n1,rfl,hB⟩|⟨_,_,rfl⟩
  ·exact fin (h.call hC) Py (hC.Cr ic.ok.ra) w
  ·have AH:o.m.kind=4->o.m.code=0->o.m.to=20+n.c.id-> ∀e∈l,e.t=o.m.aG->o.m.range∈e.vs:=λa b c=>hv hk a b (by rw[c,ic.ok.id];rfl);exact fin (h.step ic.ok.ms iO AH hC) Py (h.ans ic hk AH (qv n1.ms) hC) λ_ q=>q
  ·refine⟨⟨h.nd,λe he a ha=>?_⟩,λn1 e=>by cases e⟩;have:=(h.bP e he).1;rcases ha with rfl|⟨_,_,_,_,_,_,rfl⟩|⟨_,rfl⟩<;>exact this
  ·exact fin (h.tick ic.ok.ms hC) Py hC.Cr w
  ·exact fin (Q:=λ_=>False) ⟨h.nd,h.bP,λm hm=>by have hm:m∈n.ms:=hm;rw[ic.ok.ms] at hm;exact absurd hm sQ,λt b hg=>(h.act t b hg).toW _⟩ Py (.no rfl) λ_ q=>q.elim
  ·exact fin (Q:=λ_=>False) (Br hB h.nd λe he=>(h.bP e he).1) Py (.no (by rw[hB.ra,ic.ok.ra])) λ_ q=>q.elim
  ·exact fin (Q:=λ_=>False) (h.mid ic.ok.ms) Py (.no rfl) λ_ q=>q.elim
 |dn nb m P=>
  obtain⟨qf,GD⟩:(l.map λx:oB=>x.t).Nodup/\ ∀e∈l,∀a,P a->e.t.aR<=a.1:=h;rcases hR with⟨_,_,n1,a,rfl,hP,_,hB⟩|⟨_,_,rfl⟩
  ·refine⟨(Br hB qf λe he=>GD e he a hP).ajR (tx Py),λn2 e=>?_⟩;cases e;exact⟨[],hB.ra,by simp⟩
  ·exact⟨⟨qf,GD⟩,λn2 e=>by cases e⟩
theorem IZ {l cs:List Value} {o j:Nat} (h:o+cs.length<=l.length):(bM l o cs)[j]? =if j<o then l[j]? else if j<o+cs.length then cs[j-o]? else l[j]? :=by
 have hl:(l.take o).length=o:=by rw[aD];omega
 have wo:(l.take o++cs).length=o+cs.length:=by rw[aa,hl]
 unfold bM;by_cases h1:j<o
 ·rw[if_pos h1,ao,cV zQ,List.getElem?_take_of_lt h1]
 ·rw[if_neg h1];by_cases h2:j<o+cs.length
  ·rw[if_pos h2,cV zQ,bQ zQ,hl]
  ·rw[if_neg h2,bQ zQ,wo,ee]
   congr 1;omega
theorem EJ {l cs:List Value} {o:Nat} (h:o+cs.length<=l.length):(bM l o cs).length=l.length:=by
 unfold bM;simp;omega
theorem flat_get {k:Nat} (hk:0<k): ∀{rows:List (List Value)},(∀r∈rows,r.length=k)-> ∀j,rows.flatten[j]? =(rows[j/k]?).bind λr=>r[j % k]?
 |[],_,j=>by simp
 |r::rows,h,j=>by
  have hr:=h r sQ;rw[List.flatten_cons];by_cases hj:j<k
  ·rw[cV zQ,Nat.div_eq_of_lt hj,Nat.mod_eq_of_lt hj];rfl
  ·rw[bQ zQ,hr,flat_get hk (λx hx=>h x (bG _ hx))];have e1:j/k=(j-k)/k+1:=by rw[Nat.div_eq_sub_div hk zQ]
   have e2:j % k=(j-k) % k:=Nat.mod_eq_sub_mod zQ;rw[e1,e2];rfl
theorem aih {k i o:Nat} {rows:List (List Value)} {row l:List Value} (hk:0<k) (h: ∀r∈rows,r.length=k) (hr:rows[i]? =some row) (ho:o+l.length<=k):
  (rows.set i (bM row o l)).flatten=bM rows.flatten (i*k+o) l:=by
 have bt:row.length=k:=h row (av hr);have lU:i<rows.length:=(List.getElem?_eq_some_iff.1 hr).1;have iP:=kK h;have hmul:i*k+k<=rows.length*k:=by rw[<-ly];exact bR k lU
 apply lj;intro j;rw[flat_get hk (λr hx=>by
  rcases jB hx with hx|rfl
  ·exact h r hx
  ·rw[EJ zQ];exact bt),IZ zQ,flat_get hk h,List.getElem?_set]
 have hd:k*(j/k)+j % k=j:=Nat.div_add_mod j k;have hm:j % k<k:=Nat.mod_lt j hk;by_cases hq:i=j/k
 ·subst hq;rw[if_pos rfl,if_pos lU,hr];simp only[Option.bind_some];rw[IZ zQ];have e:j/k*k=k*(j/k):=mZ _ _;have b1:(j % k<o)↔(j<j/k*k+o):=by omega
  have b2:(j % k<o+l.length)↔(j<j/k*k+o+l.length):=by omega
  have b3:j % k-o=j-(j/k*k+o):=by omega
  simp only[b1,b2,b3]
 ·rw[if_neg hq];have aii:j<i*k\/i*k+k<=j:=by
   rcases zH hq with c|c
   ·right;have:=bR k (AF c);rw[ly,mZ (j/k) k] at this;omega
   ·left;have:=bR k (AF c);rw[ly,mZ (j/k) k] at this;omega
  rcases aii with c|c
  ·rw[if_pos zQ]
  ·rw[if_neg zQ,if_neg zQ]
theorem aoF {P:Program} {R:Ending->World->Prop} {X:XS} {w:World} {t sz e k lo g n cap i o p:Nat} {rows:List (List Value)} {row:List Value} {v:Value} {N:Value->World->XS->Prop}
  (h:Own w X lo e k (.slice (some ⟨g,0,none⟩) n cap) rows) (hr:rows[i]? =some row) (hp:p=i*k+o) (ht:(P.info? t).map (·.size)=some sz)
  (hl:o+sz<=k) (gh:0<sz) (hv:v.cells.size=sz) (h1:v.cells.toList.all aK.one=true) (hX: ∀k,X k->k<w.heap.size)
  (n: ∀w' X',dY (λk=>k=g) X w X' w'->Own w' X' lo e k (.slice (some ⟨g,0,none⟩) n cap) (rows.set i (bM row o v.cells.toList))->N undef w' X'):eU P R X w true (st1 t sz (ptr g p) v) N:=by
 subst hp;have Oj:=h.1;rcases h.row with⟨hn,_⟩|⟨g',K4,cs,AH,gr,xJ,hc,iq,hlen,tW⟩
 ·cases hn
 ·cases AH;have lU:i<rows.length:=(List.getElem?_eq_some_iff.1 hr).1;have iP:=kK Oj;have hmul:i*k+k<=rows.length*k:=by rw[<-ly];exact bR k lU
  have Ci:rows.length*k<=cap*k:=bR k hc;have bt:row.length=k:=Oj row (av hr);have lE:v.cells.toList.length=sz:=by simpa using hv
  refine CV xJ ht zQ hv h1 hX λw' X' AR dO=>n w' X' AR ?_;refine Own.E9 dO gr (λr hx=>?_) sQ hc iq (by rw[EJ zQ];exact hlen) ?_
  ·rcases jB hx with hx|rfl
   ·exact Oj r hx
   ·rw[EJ zQ];exact bt
  ·rw[aih zQ Oj hr zQ,<-tW];apply lj;intro j;rw[iM,IZ zQ,IZ (by rw[aD];omega),iM];split
   ·rfl
   ·rename_i hj;rw[if_neg zQ,if_neg zQ]
structure oY where
 a:oB
 vq:Value
 vv:Value
abbrev oY.l (x:oY):List Value:=[I x.a.t.dW,I x.a.t.aR,I x.a.t.sq,x.vq,x.vv,I 0,I 0,I 0]
abbrev stT:Nat:=68
def mh (v:Value) (es:List oY):XS:=λb=>v.ownBlock=some b\/ ∃x∈es,x.vv.ownBlock=some b
structure jb (w:World) (K X:XS) (v:Value) (es:List oY):Prop where
 own:Own w X 0 stT 8 v (es.map oY.l)
 vs: ∀x∈es,Own w X 0 Qx 1 x.vv (x.a.vs.map I1)
 ap:es.Pairwise λx y=> ∀g,x.vv.ownBlock=some g->y.vv.ownBlock≠some g
 ps: ∀x∈es,Sl w K 1 x.vq (x.a.ps.map I1)
section
variable {w w' w1 w2 wa w0 : World} {X X' X1 X2 G K K' K1 K2 F T T' : XS} {v v' u : Value} {es : List oY} {x : oY} {i : Nat}
theorem jb.nil:jb w K X aX []:=⟨Own.nil _ _ _ _ _,by simp,by simp,by simp⟩
theorem jb.bg (h:jb w K X v es): ∀k,mh v es k->X k:=λk hk=>hk.elim (h.own.2.2 k) λ⟨x,hx,e⟩=>(h.vs x hx).2.2 k e
theorem jb.lt (h:jb w K X v es): ∀k,mh v es k->k<w.heap.size:=λk hk=>hk.elim (λe=>(h.own.ge e).2) λ⟨x,hx,e⟩=>((h.vs x hx).ge e).2
def jb.to (h:jb w K X v es) (hs: ∀k,mh v es k->X' k/\w'.heap[k]? =w.heap[k]?) (m:Mv K w K' w'):jb w' K' X' v es:=
 ⟨EC h.own λg hg=>hs g (.inl hg),λx hx=>EC (h.vs x hx) λg hg=>hs g (.inr ⟨x,hx,hg⟩),h.ap,λx hx=>(h.ps x hx).mv m⟩
def jb.vne (h:jb w K X v es) (hx:x∈es) {g:Nat} (hg:x.vv.ownBlock=some g):v.ownBlock≠some g:=af5 (h.vs x hx) h.own dQ hg
theorem jb.add (h:jb w K X v es) (c:dY (fv v) X w X' w') (ho:Own w' X' 0 stT 8 v' (es.map oY.l++[x.l])) (hx:x.vv=aX/\x.a.vs=[]) (hq:Sl w' K' 1 x.vq (x.a.ps.map I1)) (hK:Mv K w K' w'):jb w' K' X' v' (es++[x]):=by
 refine⟨by rw[aC];exact ho,λy hy=>?_,?_,λy hy=>?_⟩
 ·rcases List.mem_append.1 hy with hy|hy
  ·exact(h.vs y hy).dT c λg hg hb=>h.vne hy hg hb
  ·rw[List.mem_singleton.1 hy,hx.1,hx.2];exact Own.nil _ _ _ _ _
 ·rw[List.pairwise_append];refine⟨h.ap,by simp,λy _ z hz=>?_⟩;rw[List.mem_singleton.1 hz,hx.1];intro g _ hg;cases hg
 ·rcases List.mem_append.1 hy with hy|hy
  ·exact(h.ps y hy).mv hK
  ·rw[List.mem_singleton.1 hy];exact hq
theorem af6 {P:Nat->Prop} (hx:x.vv=aX) (dc:v'.ownBlock=v.ownBlock\/ ∃g,v'.ownBlock=some g/\P g): ∀k,mh v' (es++[x]) k->mh v es k\/P k:=by
 rintro k (hk|⟨y,hy,hk⟩)
 ·rcases dc with e|⟨g,e,hg⟩
  ·exact .inl (.inl (e▸hk))
  ·rw[e] at hk;cases hk;exact .inr hg
 ·rcases List.mem_append.1 hy with hy|hy
  ·exact .inl (.inr ⟨y,hy,hk⟩)
  ·rw[List.mem_singleton.1 hy,hx] at hk;cases hk
theorem Mc {α:Type} {R:α->α->Prop} {y:α} : ∀{l:List α} {i:Nat},l.Pairwise R->(∀j z,j<i->l[j]? =some z->R z y)->(∀j z,i<j->l[j]? =some z->R y z)->(l.set i y).Pairwise R
 |[],i,_,_,_=>by simp
 |a::l,0,h,_,h2=>by
  rw[List.set_cons_zero,mu];refine⟨λz hz=>?_,(List.pairwise_cons.1 h).2⟩;obtain⟨j,hj⟩:=List.mem_iff_getElem?.1 hz;exact h2 (j+1) z zQ (by rwa [iV])
 |a::l,i+1,h,h1,h2=>by
  rw[List.set_cons_succ,mu];refine⟨λz hz=>?_,Mc (List.pairwise_cons.1 h).2 (λj z hj hz=>h1 (j+1) z zQ (by rwa [iV])) (λj z hj hz=>h2 (j+1) z zQ (by rwa [iV]))⟩;rcases jB hz with hz|rfl
  ·exact(List.pairwise_cons.1 h).1 z hz
  ·exact h1 0 a zQ rfl
theorem jb.grow {qP:List Int} (h:jb w K X v es) (hx:es[i]? =some x) (c:dY (fv x.vv) X w X1 w1) (hu:Own w1 X1 0 Qx 1 u (qP.map I1)) (dc:u.ownBlock=x.vv.ownBlock\/ ∃g,u.ownBlock=some g/\w.heap.size<=g):
  Own w1 X1 0 stT 8 v (es.map oY.l)/\ ∀w2 X2 K2,dY (fv v) X1 w1 X2 w2->Own w2 X2 0 stT 8 v ((es.map oY.l).set i (bM x.l 4 [u]))->Mv K w K2 w2->jb w2 K2 X2 v (es.set i ⟨{ x.a with vs:=qP },x.vq,u⟩):=by
 have hm:=av hx;have wq: ∀(j:Nat) (y:oY),j≠i->es[j]? =some y-> ∀g,y.vv.ownBlock=some g->x.vv.ownBlock≠some g:=λj y hj hy g hg mN=>by
  obtain⟨D4,rfl⟩:=List.getElem?_eq_some_iff.1 hy;obtain⟨lU,rfl⟩:=List.getElem?_eq_some_iff.1 hx;rcases zH hj with cI|Ln
  ·exact List.pairwise_iff_getElem.1 h.ap j i D4 lU cI g hg mN
  ·exact List.pairwise_iff_getElem.1 h.ap i j lU D4 Ln g mN hg
 have hnu: ∀(j:Nat) (y:oY),j≠i->es[j]? =some y-> ∀g,y.vv.ownBlock=some g->u.ownBlock≠some g:=λj y hj hy g hg mN=>by
  rcases dc with e|⟨b,e,hb⟩
  ·exact wq j y hj hy g hg (e▸mN)
  ·rw[e] at mN;cases mN;have:=((h.vs y (av hy)).ge hg).2;omega
 have hov:Own w1 X1 0 stT 8 v (es.map oY.l):=h.own.dT c λg hg hb=>h.vne hm hb hg;have EI: ∀g,u.ownBlock=some g->v.ownBlock≠some g:=λg hg=>af5 hu hov dQ hg;refine⟨hov,λw2 X2 K2 c2 ho mv=>⟨?_,λy hy=>?_,?_,λy hy=>?_⟩⟩
 ·rw[List.map_set];exact ho
 ·obtain⟨j,hj⟩:=List.mem_iff_getElem?.1 hy;by_cases EG:i=j
  ·subst EG;rw[List.getElem?_set_self (List.getElem?_eq_some_iff.1 hx).1] at hj;cases hj;exact hu.dT c2 λg hg hb=>EI g hg hb
  ·rw[List.getElem?_set_ne EG] at hj;have hym:=av hj;exact((h.vs y hym).dT c λg hg=>wq j y (Ne.symm EG) hj g hg).dT c2 λg hg hb=>h.vne hym hg hb
 ·exact Mc h.ap (λj z hj hz g hg=>hnu j z zQ hz g hg) λj z hj hz g hg mN=>hnu j z zQ hz g mN hg
 ·rcases jB hy with hy|rfl
  ·exact(h.ps y hy).mv mv
  ·exact(h.ps x hm).mv mv
theorem af7 {P:Nat->Prop} {a:oB} {vq:Value} (hx:es[i]? =some x) (dc:u.ownBlock=x.vv.ownBlock\/ ∃g,u.ownBlock=some g/\P g): ∀k,mh v (es.set i ⟨a,vq,u⟩) k->mh v es k\/P k:=by
 rintro k (hk|⟨y,hy,hk⟩)
 ·exact .inl (.inl hk)
 ·rcases jB hy with hy|rfl
  ·exact .inl (.inr ⟨y,hy,hk⟩)
  ·rcases dc with e|⟨g,e,hg⟩
   ·exact .inl (.inr ⟨x,av hx,e▸hk⟩)
   ·rw[show(oY.mk a vq u).vv=u from rfl,e] at hk;cases hk;exact .inr hg
theorem abb {vm va:Value} {rm:List (List Value)} {ms:List cJ} (h:jb w K X v es) (hm:Sl w K 36 vm rm) (hr:fu w K rm ms) (hK: ∀k,K k->X k/\ ¬mh v es k) (hl:es.length+ms.length<=2^40) (hva:aK.one va=true):
  Ct pg 18 #[v,.agg #[vm,va]] w X (mh v es) λv' wa w'=> ∃oI,oI.map (·.a)=ms.foldl vQ (es.map (·.a))/\oI.length<=es.length+ms.length/\(∀k,mh v' oI k->mh v es k\/made wa w' k)/\jb w' K (mh v' oI) v' oI:=by
 intro w0 hk;have m0:Mv K w (λk=>K k/\k<w0.heap.size) w0:=λk ah hl=>⟨⟨ah,aw hl hk.size⟩,hk.block k (hK k ah).1⟩;replace h:jb w0 (λk=>K k/\k<w0.heap.size) (bP w0) v es:=h.to (λk ah=>⟨aw (h.lt k ah) hk.size,hk.block k (h.bg k ah)⟩) m0;replace hr:=hr.mv m0;have Md: ∀k,(K k/\k<w0.heap.size)->out (mh v es) w0 k:=λk ah=>⟨ah.2,(hK k ah.1).2⟩;have hT:Ft w0 (mh v es) w0 (bP w0) (mh v es):=Ft.init h.lt;have hR:eY w0 (λk=>K k/\k<w0.heap.size) 36 vm cJ.rd ms:=⟨rm,hm.mv m0,hr.1,hr.2⟩;have hlm:=hR.len;clear hm hr;clear hk m0;have hs:=hT.s;refine Me.1 λ_=>?_
 skip
 refine Xn (λn a b _ _ w X=> ∃(i:Nat) (oI:List oY),a=I i/\n=ms.length-i/\i<=ms.length/\oI.map (·.a)=(ms.take i).foldl vQ (es.map (·.a))/\oI.length<=es.length+i/\jb w (λk=>K k/\k<w0.heap.size) X b oI/\Ft w0 (mh v es) w X (mh b oI)) ms.length
  ⟨0,es,rfl,rfl,ak _,rfl,au _,h,hT⟩ ?_
 clear hs hT h;rintro n _ b _ _ w1 X1 ⟨i,oI,rfl,rfl,hi,he,hle,hS,hT⟩;have hs:=hT.s;have mK:Mv (λk=>K k/\k<w0.heap.size) w0 (λk=>K k/\k<w0.heap.size) w1:=λk hk _=>⟨hk,hs.kp.block k (Md k hk)⟩;have hR1:eY w1 X1 36 vm cJ.rd ms:=eY.mv hR cJ.mv λk hk _=>⟨hs.sub k (Md k hk),hs.kp.block k (Md k hk)⟩;have zF:=hS.own;have gr:=zF.sl.len
 show(aY _ _ _ _ _:Prop)
 rcases dB ms i with⟨cI,m,hmi,hd⟩|⟨dC,hd⟩
 ·repeat' first|refine aI ?_;intros|with_reducible apply cK
  obtain⟨rows,g1,g2,g3⟩:=id hR;obtain⟨l,pM⟩: ∃l,rows[i]? =some l:=⟨_,aS zQ⟩;obtain⟨vk,vs,vw,vp,vr,vc,vh,vd,rfl,dc⟩:=g3 i l m pM hmi;have pV:Sl w1 X1 36 vm (rows.map λl=>l):=by
   rw[List.map_id'];exact g1.mv λk hk _=>⟨hs.sub k (Md k hk),hs.kp.block k (Md k hk)⟩
  refine aeh pV pM rfl kQ kQ λbm om iq=>?_;replace iq:Cells w1 X1 bm om (m.l vk vs vw vp vr vc vh vd):=iq;obtain⟨p1,p2,p3,rfl⟩:=dc.parts.form;have o1:=dc.keys.one;have o2:=dc.seen.one;have o3:=dc.writes.one;have o4:=dc.parts.one;have o5:=dc.ranges.one;have o6:=dc.bw.one;have o7:=dc.iA.one;have o8:=dc.ia.one;repeat' refine aq ?_;intros
  refine gM (λn a c w X=> ∃k:Nat,a=I k/\c=B ((oI.take k).any λe=>decide (e.a.t=m.aG))/\n=oI.length-k/\k<=oI.length/\ai X1 w1 X w) oI.length ⟨0,rfl,rfl,rfl,ak _,ai.fL hs.has⟩ ?_;clear hs;rintro n _ _ w2 X2 ⟨k,rfl,rfl,rfl,hk,hs⟩
  show(aY _ _ _ _ _:Prop)
  rcases dB oI k with⟨Pf,y,hy,rH⟩|⟨DH,rH⟩
  ·have Y6:(oI.map oY.l)[k]? =some y.l:=by rw[cN,hy];rfl
   have e2:((oI.take (k+1)).any λe=>decide (e.a.t=m.aG))=(((oI.take k).any λe=>decide (e.a.t=m.aG))||decide (y.a.t=m.aG)):=by rw[bW,hy];simp
   cases hb:(oI.take k).any λe=>decide (e.a.t=m.aG)with
   |true=>
    repeat' refine aI ?_;intros
    exact fG (oI.length-(k+1)) zQ ⟨k+1,congrArg I zQ,by rw[e2,hb];rfl,rfl,by omega,hs⟩
   |false=>
    by_cases e:y.a.t=m.aG
    ·repeat' first|refine aI ?_;intros|(with_reducible refine Em _ _ ?_ ?_ ?_);(· kernel_rfl);all_goals intros|(exfalso;simp_all;done)
     exact fG (oI.length-(k+1)) zQ ⟨k+1,congrArg I zQ,by rw[e2,decide_eq_true e];simp,rfl,by omega,hs⟩
    ·repeat' first|refine aI ?_;intros|(with_reducible refine Em _ _ ?_ ?_ ?_);(· kernel_rfl);all_goals intros|(exfalso;simp_all;done)
     exact fG (oI.length-(k+1)) zQ ⟨k+1,congrArg I zQ,by rw[e2,decide_eq_false e,hb];rfl,rfl,by omega,hs⟩
  ·obtain rfl:k=oI.length:=by omega
   rw[ke];by_cases hc:m.kind=3/\ ∀e∈oI.map (·.a),e.t≠m.aG
   ·have hb:(oI.any λe=>decide (e.a.t=m.aG))=false:=by
     rw[AG];intro z hz e;exact hc.2 _ (List.mem_map.2 ⟨z,hz,rfl⟩) (of_decide_eq_true e)
    rw[hb];have Y5:=hc.1;repeat' first|refine aI ?_;intros|(refine q1e hs ?_;intro _ _ _ w X hs ho)
    have kX: ∀k,(K k/\k<w0.heap.size)->X1 k:=λk hk=>hT.s.sub k (Md k hk);have bf:=hS.to (X':=X) (λk hk=>⟨hs.sub k (hS.bg k hk),hs.kp.block k (hS.bg k hk)⟩) λk (hk:K k/\k<w0.heap.size) _=>⟨hk,hs.kp.block k (kX k hk)⟩;have da:=hT.since hs;refine Co (bytes:=96) bf.own hs.has (ak _) kQ ho.sl (by simp[aK.one]) (by simp only[bF,af];omega) (by simp only[bF,af];omega) λv3 w3 X3 c3 OF amk=>?_;have dU:=da.dT (F':=mh v3 (oI++[⟨⟨m.aG,m.parts,[]⟩,.slice p1 p2 p3,aX⟩])) c3 (λk hk=>.inl hk) (af6 rfl (amk.imp id λ⟨g,e,dC⟩=>⟨g,e,OF.2.2 g e,dC⟩));have mK3:Mv (λk=>K k/\k<w0.heap.size) w0 (λk=>K k/\k<w0.heap.size) w3:=λk hk _=>⟨hk,dU.s.kp.block k (Md k hk)⟩;have cx:jb w3 (λk=>K k/\k<w0.heap.size) X3 v3 (oI++[⟨⟨m.aG,m.parts,[]⟩,.slice p1 p2 p3,aX⟩]):=bf.add c3 OF ⟨rfl,rfl⟩ (dc.parts.mv mK3) λk hk _=>⟨hk,(dU.s.kp.block k (Md k hk)).trans (da.s.kp.block k (Md k hk)).symm⟩;clear hs;have hs:=dU.s;repeat' refine aq ?_;intros
    exact E3 (ms.length-(i+1)) zQ ⟨i+1,_,congrArg I zQ,rfl,by omega,by rw[bW,hmi,aC,he];simp only[mw,nu,fN,List.foldl_nil];rw[<-he];exact(if_pos hc).symm,by rw[aa];simp only[bF];omega,cx,dU⟩
   ·have uC: ∀{w X},ai X1 w1 X w-> ∃(i':Nat) (es2:List oY),I (i+1:Int)=I i'/\ms.length-(i+1)=ms.length-i'/\i'<=ms.length/\es2.map (·.a)=(ms.take i').foldl vQ (es.map (·.a))/\es2.length<=es.length+i'/\jb w (λk=>K k/\k<w0.heap.size) X b es2/\Ft w0 (mh v es) w X (mh b es2):=λ{w X} hs=>
     ⟨i+1,oI,congrArg I zQ,rfl,by omega,by rw[bW,hmi];simp only[mw,nu,fN,List.foldl_nil];rw[<-he];exact(if_neg hc).symm,by omega,hS.to (λk hk=>⟨hs.sub k (hS.bg k hk),hs.kp.block k (hS.bg k hk)⟩) λk (hk:K k/\k<w0.heap.size) _=>⟨hk,hs.kp.block k (hT.s.sub k (Md k hk))⟩,hT.since hs⟩
    by_cases Y5:m.kind=3
    ·have hb:(oI.any λe=>decide (e.a.t=m.aG))=true:=by
      refine dz λhb=>hc ⟨Y5,λz hz e=>hb ?_⟩;obtain⟨y,hy,rfl⟩:=List.mem_map.1 hz;exact List.any_eq_true.2 ⟨y,hy,decide_eq_true e⟩
     rw[hb];repeat' refine aI ?_;intros
     exact E3 (ms.length-(i+1)) zQ (uC hs)
    ·repeat' refine aI ?_;intros
     exact E3 (ms.length-(i+1)) zQ (uC hs)
 ·obtain rfl:i=ms.length:=by omega
  rw[ke] at he;repeat' refine aI ?_;intros
  exact hT.fin λwa ou=>⟨oI,he,hle,hT.jv ou λ_ h=>h,hS.to (λk hk=>⟨hk,ou.block k (hS.bg k hk)⟩) λk (hk:K k/\k<w0.heap.size) _=>⟨hk.1,ou.block k (hT.s.sub k (Md k hk))⟩⟩
end
section
variable {n n1 : br} {t : bX} {k N : Nat}
theorem ry.Rp (h:ry n t n1):n1.ms.length<=n.ms.length+80:=by
 obtain⟨b,_,h1,⟨_,ki,mR,lX,rfl,h2⟩|⟨_,mR,lX,rfl,h2⟩⟩:=h;all_goals
  dsimp only [dN] at h1 h2⊢;rw[aa];omega
theorem lN.Rp: ∀{ts:List bX} {n n1:br},lN ts n n1->n1.ms.length<=n.ms.length+80*ts.length
 |[],n,n1,h=>by rw[show n1=n from h];omega
 |t::ts,n,n1,⟨n2,h1,h2⟩=>by
  have:=lN.Rp h2;have:=h1.Rp;rw[aJ];omega
theorem tO.Rp: ∀{bs:List Nat} {n n1:br},(∀b∈bs,(n.C b).waits.length<=80)->tO bs n n1->n1.ms.length<=n.ms.length+80*bs.length
 |[],n,n1,_,h=>by rw[show n1=n from h];omega
 |b::bs,n,n1,hw,⟨n2,h1,h2⟩=>by
  have:=tO.Rp (λb hb=>by rw[h1.tk.C];exact hw b (bG _ hb)) h2;have:n2.ms.length<=n.ms.length+80:=by
   rcases h1 with⟨_,rfl⟩|⟨_,mR,lX,rfl,_⟩
   ·omega
   ·have:=hw b (mj);dsimp only;rw[aa,af];omega
  rw[aJ];omega
theorem SQ.Rp {s s1:CS} {o:jd} (lT:CS.Ok k N s) (hR:SQ s o t s1):s1.ms.length<=200*(k+1):=by
 cases s with
 |dn nb m P=>rcases hR with⟨_,_,n1,a,rfl,_,_,hB⟩|⟨_,_,rfl⟩<;>(first|(show n1.ms.length<=_;rw[hB.ms];exact ak _)|exact ak _)
 |up n=>
  have ic:gz k N n:=lT;have hm:=ic.ok.ms;have zero: ∀{x:br},x.ms=[]->x.ms.length<=200*(k+1):=λh=>by rw[h];exact ak _
  rcases hR with⟨_,_,n1,rfl,hC⟩|⟨hk,_,⟨n1,rfl,hC⟩|⟨m',rfl,hF⟩⟩|⟨_,_,n1,rfl,hC⟩|⟨_,_,rfl⟩|⟨_,_,n1,rfl,hB⟩|⟨_,_,rfl⟩
  ·obtain⟨xb,gN,Gp,vm,va,rm,ra,ms,d,rfl,JU,hc⟩:=hC
   show ms.length<=_
   rcases hc with⟨a,_,rfl,_⟩|⟨_,_,_,_,_,_,_,_,rfl,_,hl,_⟩
   ·exact ak _
   ·rw[af];omega
  ·have EZ: ∀{m:cJ} {pp:Bool} {n1:br},CM n m pp n1->n1.ms.length<=200*(k+1):=λ{m pp n1} hG=>by
    obtain⟨b,gN,mR,ki,lX,hb,hp,hc,rfl⟩:=hG;have:=(ic.ok.act _ _ hb).ids;dsimp only;rw[hm,bp];split
    ·rw[af];omega
    ·exact ak _
   rcases hC with⟨_,rfl⟩|⟨_,xn,⟨_,h1⟩|⟨ES,h1⟩|⟨_,h1⟩|⟨_,h1⟩|⟨_,_,_,_,rfl⟩⟩
   ·exact zero hm
   ·rcases h1 with⟨gN,rfl⟩|hG|⟨b,i,y,gN,qP,gX,iK,n2,hw,rfl,⟨_,rfl⟩|⟨_,n3,⟨ki,a,ha,_,mR,lX,rfl,_⟩|⟨ids,pm,vq,vw2,rw2,cu,lU,A6,nK,_,mR,lX,rfl,_⟩,rfl⟩⟩
    ·exact zero hm
    ·exact EZ hG
    ·exact zero hm
    ·show(n.ms++[]).length<=_;rw[hm];exact ak _
    ·show(n.ms++pm.map _).length<=_
     rw[hm,bp,af];have:pm.length=ids.length:=by rw[<-A6,af]
     omega
   ·rcases h1 with⟨gN,rfl,_⟩|hG|⟨b,i,y,gN,gX,iK,n2,hw,rfl,hc⟩
    ·exact zero hm
    ·exact EZ hG
    ·have hi:=(ic.ok.act _ _ hw.g).ids;have hA:(dN n b (mF (n.A b) i o.m gX iK)).A b=mF (n.A b) i o.m gX iK:=if_pos rfl;rcases hc with⟨_,rfl⟩|⟨_,⟨_,h0,ki,mR,lX,rfl,_⟩|⟨_,bx,BY,vp,v2,ki,vs,AH,gn,mR,lX,rfl,_⟩⟩
     ·exact zero hm
     ·show(n.ms++List.map _ ((dN n b (mF (n.A b) i o.m gX iK)).A b).ids).length<=_
      rw[hm,bp,af,hA]
      show(n.A b).ids.length<=_;omega
     ·show(n.ms++List.map _ ((dN n b (mF (n.A b) i o.m gX iK)).A b).ids).length<=_
      rw[hm,bp,af,hA]
      show(n.A b).ids.length<=_;omega
   ·rcases h1 with rfl|⟨_,_,_,_,⟨_,rfl⟩|⟨_,_,rfl⟩⟩<;>exact zero hm
   ·rcases h1 with⟨_,rfl⟩|⟨_,_,_,rfl,_⟩
    ·exact zero hm
    ·show(n.ms++[_]).length<=_;rw[hm];simp only[bp,bF];omega
   ·exact zero hm
  ·exact ak _
  ·obtain⟨ts,n2,hp,h1,h2⟩:=hC;have q1:=h1.Rp;have q2:=h1.calm.1;have q3:=tO.Rp (λb hb=>by rw[q2.C];exact ic.ok.cw b hb) h2;have:=ic.ok.cl;have:=ic.ok.Xq;rw[hp.length_eq,af,hm] at q1;simp only[bL] at q1
   show n1.ms.length<=_
   omega
  ·exact zero hm
  ·show n1.ms.length<=_;rw[hB.ms];exact ak _
  ·exact zero hm
end
def aij (a b:Int):Int:=if a<b then-1 else if a>b then 1 else 0
theorem Y7 (a b:Int):Pure pg 90 #[I a,I b] (I (aij a b)):=by
 intro w0;refine NB.1 λhs=>?_;repeat' first|refine aq ?_;intros|refine dg ?_ ?_<;>intros|(with_reducible refine fE hs ?_);simp_all [aij]<;>omega
theorem SU (a b:cn):Pure pg 49 #[a.v,b.v] (I (a.cmp b)):=by
 intro w0;refine Ko.1 λhs=>?_;repeat' first|refine aq ?_;intros|refine dg ?_ ?_<;>intros|with_reducible apply cK|(refine pt (Y7 _ _) hs ?_;intro w X hs)|(with_reducible refine fE hs ?_);(simp only[aij,cn.cmp] at*;grind)
theorem abc (a b:cn):Pure pg 22 #[a.v,b.v] (B (decide (a.cmp b<0))):=by
 intro w0;refine Pz.1 λhs=>?_;repeat' first|refine aq ?_;intros|refine dg ?_ ?_<;>intros|(refine pt (SU _ _) hs ?_;intro w X hs)|(with_reducible refine fE hs ?_);simp_all<;>omega
section
variable {w w' wa w0 : World} {X X' G K K' F T T' : XS} {own aM bY : Nat -> Nat} {n n' : br} {b : Nat} {t0 : bX} {db : Nat} {m : DM} {s s' : CS}
theorem LS.less (q:LS w0 bY T w X own db s) (hT: ∀k,T' k->T k):LS w0 bY T' w X own db s:=⟨q.t.less λk hk=>hk.imp id (hT k),q.h,q.x,q.e,λk hk=>q.tz k (hT k hk)⟩
theorem aei {P:Program} {N:Value->Prop} {t:TypeId} {xo:Operand} {q:IntKind} {i j:Int} {c:Bool} (k:N (.bool (c&&decide (i=j)))):un (zf (.bool c) true (.int q i)) λa=>nV P X w (.bool c) true (vS (dF .eql t xo (.const (.int q j)) a (.int q j))) λx=>nU P X w (jl (.bool c) x (.bool false)) N:=by
 cases c
 ·exact Y8 (TS (TR k))
 ·exact aci (Y9 (abN (TQ (by simpa using k))))
theorem Za {α:Type} {f:α->α} {y:α} : ∀{l:List α} {k:Nat},((l.take k).map f++l.drop k)[k]? =some y->(l.take (k+1)).map f++l.drop (k+1)=((l.take k).map f++l.drop k).set k (f y)
 |[],k,h=>by simp at h
 |a::l,0,h=>by
  have h:some a=some y:=h;cases h;rfl
 |a::l,k+1,h=>by
  have h:((l.take k).map f++l.drop k)[k]? =some y:=h
  show f a::((l.take (k+1)).map f++l.drop (k+1))=f a::(((l.take k).map f++l.drop k).set k (f y))
  rw[Za h]
theorem Zb {α:Type} {y:α} : ∀{l:List α} {k:Nat},l[k]? =some y->l.set k y=l
 |[],k,h=>by simp at h
 |a::l,0,h=>by simp at h⊢;exact h.symm
 |a::l,k+1,h=>by simp at h⊢;exact Zb h
theorem AI (m:cJ) (e:oB):(zW m e).t=e.t/\(zW m e).ps=e.ps/\(∀z∈e.vs,z∈(zW m e).vs)/\(e.t=m.aG->m.range∈(zW m e).vs)/\(zW m e).vs.length<=e.vs.length+1:=by
 unfold zW;split
 ·exact⟨rfl,rfl,λz hz=>bq _ hz,λ_=>cC _ (List.mem_singleton.2 rfl),by simp⟩
 ·rename_i h;exact⟨rfl,rfl,λz hz=>hz,λe'=>dz λh'=>h ⟨e',h'⟩,dD _⟩
theorem VI.YH {l:List oB} (m:cJ) (h:VI s l):VI s (l.map (zW m)):=by
 have et:(l.map (zW m)).map (·.t)=l.map (·.t):=by rw[List.map_map];exact List.map_congr_left λe _=>(AI m e).1
 cases s with
 |up n=>
  have h:pX n l:=h;refine⟨by rw[et];exact h.nd,λe he=>?_,λt b hg=>?_⟩
  ·obtain⟨z,hz,rfl⟩:=List.mem_map.1 he;rw[(AI m z).1];exact h.bP z hz
  ·have q:=h.act t b hg;refine⟨q.ws,λhp=>?_,λhp e he=>?_⟩
   ·obtain⟨e,he,e1,e2,e3⟩:=q.pr hp;obtain⟨v1,v2,v3,_⟩:=AI m e;exact⟨_,List.mem_map.2 ⟨e,he,rfl⟩,v1.trans e1,v2.trans e2,λid oc=>(e3 id oc).imp (v3 id) λh=>h⟩
   ·obtain⟨z,hz,rfl⟩:=List.mem_map.1 he;rw[(AI m z).1];exact q.no hp z hz
 |dn nb m' P=>
  obtain⟨h1,h2⟩:(l.map λx:oB=>x.t).Nodup/\ ∀e∈l,∀a,P a->e.t.aR<=a.1:=h;refine⟨by rw[et];exact h1,λe he a ha=>?_⟩;obtain⟨z,hz,rfl⟩:=List.mem_map.1 he;rw[(AI m z).1];exact h2 z hz a ha
theorem CS.ad4.msg (h:CS.ad4 w own s): ∃vm va rm,s.out= .agg #[vm,va]/\Sl w (bZ own 4) 36 vm rm/\fu w (bZ own 4) rm s.ms/\Sl w (bZ own 4) 9 va s.ra:=by
 cases s with
 |up n=>exact⟨n.vm,n.va,n.rm,rfl,h.om,h.hm,h.oa⟩
 |dn nb m P=>exact⟨aX,aX,[],rfl,Sl.nil _ _ _,fu.nil _ _,Sl.nil _ _ _⟩
theorem UM {α β:Type} {f:α->β} : ∀{l:List α},(l.map f).Nodup-> ∀{a b:α},a∈l->b∈l->f a=f b->a=b
 |x::l,h,a,b,ha,hb,e=>by
  rw[bh,List.nodup_cons] at h;have hx: ∀c∈l,f c≠f x:=λc hc e=>h.1 (e▸List.mem_map.2 ⟨c,hc,rfl⟩);rcases List.mem_cons.1 ha with ha|ha<;>rcases List.mem_cons.1 hb with hb|hb
  ·rw[ha,hb]
  ·exact absurd (by rw[<-e,ha]) (hx b hb)
  ·exact absurd (by rw[e,hb]) (hx a ha)
  ·exact UM h.2 ha hb e
def isV (o:jd):Prop:=o.kind=2/\o.m.kind=4/\o.m.code=0/\o.m.to=21
structure aqM (w0:World) (bY:Nat->Nat) (w:World) (X:XS) (own:Nat->Nat) (db k N:Nat) (s:CS) (v:Value) (es:List oY) (B i:Nat):Prop where
 ls:LS w0 bY (mh v es) w X own db s
 ok:CS.Ok k N s
 gL:jb w (bZ own 4) X v es
 vi:VI s (es.map (·.a))
 len:es.length<=B
 vl: ∀e∈es.map (·.a),e.vs.length<=i
theorem PA {a:Value} {ops:List jd} (ha:eY w X 41 a jd.rd ops) (hm: ∀o∈ops,aeb o) (asR:Af ops<=2^20):
  Ct pg 4 #[a] w X nX λv _ _=>v=B true:=by
 have key: ∀w0,Kp X w w0->Calls pg 4 #[a] w0 (vy (gH λk=>if k<w0.heap.size then 4 else 0) w0 λv _=>v=B true):=by
  intro w0 hk;replace ha:=eY.mv ha jd.mv hk.cE;have lh:=ha.len;clear hk;obtain⟨bY,aej⟩: ∃bY:Nat->Nat,bY=λk=>if k<w0.heap.size then 4 else 0:=⟨_,rfl⟩
  rw[<-aej];have LL:Ft w0 (gH bY) w0 (bP w0) nX:=(Ft.init λk hk=>by rw[aej] at hk;exact dz λhl=>hk.1 (if_neg hl)).less λk hk=>hk.elim;have gw:=LL.s;refine FZ.1 λhs=>?_;refine ff FA kQ hs.has λw1 X1 aB=>?_;have eo:=LL.since aB;clear hs;have hs:=ai.fL aB.has;repeat' refine aq ?_;intros
  refine cM (aea (ha.mv jd.mv aB.mv)) kQ aB.has ?_;rintro _ xN w2 X2 ⟨b1,rfl,mc⟩ lK ko bH;have da:=eo.since bH;clear hs;have hs:=ai.fL bH.has;cases b1 with
  |false=>
   repeat' refine aq ?_;intros
   refine ff FA kQ bH.has λw3 X3 dt=>?_;exact(da.since dt).fin λwa ou=>rfl
  |true=>
   have xc:=mc rfl;repeat' refine aq ?_;intros
   refine cM aba kQ bH.has ?_;rintro _ zB w4 X4 ⟨l7,n4,hmd,UN,rfl,aqN,hB4⟩ tJ py gd;have fR:=da.since gd;have hle:w0.heap.size<=zB.heap.size:=ad da.s.kp.size tJ;subst aej;obtain⟨mY,q5⟩:=LS.init (s:=.up n4) (db:=n4.db) fR (λk hk=>⟨hmd k hk,py k (hmd k hk)⟩) hle ⟨UN,rfl⟩;generalize n4.db=db at q5;clear hs LL eo da fR hmd UN;have hs:=q5.rf;repeat' refine aq ?_;intros
   refine amI (λn a _ _ _ _ v b _ w X=> ∃(i:Nat) (aM:Nat->Nat) (s:CS) (es:List oY),a=I i/\b=ptr s.nb 0/\n=ops.length-i/\i<=ops.length/\aqM w0 (λk=>if k<w0.heap.size then 4 else 0) w X aM db (i+1) (Af (ops.take i)) s v es (36400*i) i) ops.length
    ⟨0,mY,.up n4,[],rfl,rfl,rfl,ak _,⟨q5.less λk hk=>hk.elim (λe=>by cases e) λ⟨x,hx,_⟩=>absurd hx sQ,aqN,jb.nil,⟨by simp,by simp,λt b hg=>by rw[hB4.al] at hg;cases hg⟩,au _,by simp⟩⟩ ?_
   clear q5 hs;rintro n _ _ _ _ _ v _ _ w5 X5 ⟨i,rr,s6,es,rfl,rfl,rfl,hi,⟨q6,aik,yZ,hV6,hlen,lE⟩⟩;have hs:=q6.t.s;have haO:eY w0 (out (gH λk=>if k<w0.heap.size then 4 else 0) w0) 41 a jd.rd ops:=ha.mv jd.mv λk hk _=>⟨⟨hk,λh=>h.2 (if_pos hk)⟩,rfl⟩;rcases dB (ops) i with⟨cI,x,hx,hd⟩|⟨dC,hd⟩
   ·have hxo:=hm x (av hx);have pf:=akz hx;repeat' first|refine aI ?_;intros|(with_reducible apply Fw);(case h=>exact haO);(case hr=>exact hx);(case hz=>rfl);(case ht=>kernel_rfl);(case hs=>kernel_rfl);intros
    refine fY (λn a w X=> ∃(k:Nat) (ek:List oY),a=I k/\n=es.length-k/\k<=es.length/\(isV x\/k=0)/\ek.map (·.a)=((es.map (·.a)).take k).map (zW x.m)++(es.map (·.a)).drop k/\ek.length=es.length/\jb w (bZ rr 4) X v ek/\LS w0 (λk=>if k<w0.heap.size then 4 else 0) (mh v ek) w X rr db s6) es.length
     ⟨0,es,rfl,rfl,ak _,.inr rfl,rfl,rfl,yZ,q6⟩ ?_
    clear hs yZ q6;rintro n _ w6 X6 ⟨k,ek,rfl,rfl,hk,hkV,hek,Fs,yZ,q6⟩;have hs:=q6.t.s
    show(aY _ _ _ _ _:Prop)
    refine amJ yZ.own.sl kQ ?_;refine abL ?_;refine I0 rfl ?_;refine Ih rfl (aei ?_);refine Ih rfl (aei ?_);refine Ih rfl (aei ?_);refine Ih rfl (aei ?_);refine abP (λhb=>?_) λhb=>?_
    ·simp only[aA,decide_eq_true_eq] at hb;obtain⟨⟨⟨⟨b1,b2⟩,b3⟩,b4⟩,b5⟩:=hb;obtain⟨y,hy⟩: ∃y,ek[k]? =some y:=⟨_,aS zQ⟩;have Y6:(ek.map oY.l)[k]? =some y.l:=by rw[cN,hy];rfl
     have zF:=yZ.own;have hyv:=yZ.vs y (av hy);have hya:(ek.map (·.a))[k]? =some y.a:=by rw[cN,hy];rfl
     have aqO:(es.map (·.a))[k]? =some y.a:=by
      rw[hek,bQ oQ] at hya;rw[<-hya,ee]
      congr 1
      simp;omega
     have hyl:=lE _ (av aqO);have D3:=Za (f:=zW x.m) (by rw[<-hek];exact hya);rw[<-hek] at D3;have same:zW x.m y.a=y.a->ek.map (·.a)=((es.map (·.a)).take (k+1)).map (zW x.m)++(es.map (·.a)).drop (k+1):=λe=>by rw[D3,e,Zb hya]
     by_cases e:y.a.t=x.m.aG
     ·have e1:y.a.t.dW=x.m.aG.dW:=by rw[e]
      have e2:y.a.t.aR=x.m.aG.aR:=by rw[e]
      have e3:y.a.t.sq=x.m.aG.sq:=by rw[e]
      obtain⟨g,cap,rfl⟩: ∃g cap,v= .slice (some ⟨g,0,none⟩) ek.length cap:=by
       rcases zF.row with⟨_,h0⟩|⟨g,cap,cs,h0,_⟩
       ·rw[List.map_eq_nil_iff] at h0;rw[h0] at hy;simp at hy
       ·exact⟨g,cap,by rw[h0,af]⟩
      repeat' first|refine aq ?_;intros|(with_reducible refine Em _ _ ?_ ?_ ?_);(· kernel_rfl);all_goals intros|with_reducible apply cK|(exfalso;simp_all;done)
      refine ff (Mb hyv.sl) kQ q6.has λw7 X7 np=>?_;have q7:=q6.since np;have GH:jb w7 (bZ rr 4) X7 _ ek:=yZ.to (λk hk=>⟨np.sub k (yZ.bg k hk),np.kp.block k (yZ.bg k hk)⟩) λk hk _=>⟨hk,np.kp.block k (q6.x k (by have:rr k=4:=hk;omega))⟩;cases kZ:y.a.vs.any λz=>decide (z=x.m.range)with
      |true=>
       clear hs;have hs:=q7.rf;repeat' refine aq ?_;intros
       refine ey (es.length-(k+1)) zQ ⟨k+1,ek,congrArg I zQ,rfl,by omega,.inl ⟨b2,b3,b4,b5⟩,same (if_neg λh=>h.2 ?_),Fs,GH,q7⟩;obtain⟨z,hz,ez⟩:=List.any_eq_true.1 kZ;rw[<-of_decide_eq_true ez];exact hz
      |false=>
       have hnr:x.m.range ∉ y.a.vs:=λh=>by
        rw[AG] at kZ;exact kZ _ h (decide_eq_true rfl)
       clear hs zF hyv;have hs:=q7.rf;have zF:=GH.own;have hyv:=GH.vs y (av hy);repeat' first|refine aq ?_;intros|(refine q1s hs ?_;intro _ _ _ w X hs ho)
       refine Co (bytes:=8) (hyv.since hs) hs.has (ak _) kQ ho.sl (by simp[aK.one]) (by simp only[bF,af];omega) (by simp only[bF,af];omega) λu w9 X9 c9 JX ahP=>?_;have GI:jb _ (bZ rr 4) _ _ ek:=GH.to (λk hk=>⟨hs.sub k (GH.bg k hk),hs.kp.block k (GH.bg k hk)⟩) λk hk _=>⟨hk,hs.kp.block k (q7.x k (by have:rr k=4:=hk;omega))⟩;have q8:=q7.since hs;obtain⟨aqP,aek⟩:=GI.grow hy c9 (qP:=y.a.vs++[x.m.range]) (by rw[aC];exact JX) ahP;have q9:=q8.YM (T':=λj=>mh (.slice (some ⟨g,0,none⟩) ek.length cap) ek j\/mh (.slice (some ⟨g,0,none⟩) ek.length cap) (ek.set k ⟨{ y.a with vs:=y.a.vs++[x.m.range] },y.vq,u⟩) j) (c9.mono λj _ hj=>.inr ⟨y,av hy,hj⟩) λj hj=>hj.elim .inl λhj=>af7 (P:=λj=>X9 j/\_<=j) hy (ahP.imp id λ⟨g,e,dC⟩=>⟨g,e,JX.2.2 g e,dC⟩) j hj;refine ael (i:=k) rfl zQ kQ kQ (sc kQ rfl ?_);have hu1:=JX.sl.one;have hu:=rG hu1;refine aoF aqP Y6 rfl kQ dQ dQ (by rw[hu];rfl) (by rw[hu];simp[hu1]) c9.has λGA GB H9 ad0=>?_;rw[hu] at ad0;have q10:=q9.YM (T':=mh (.slice (some ⟨g,0,none⟩) ek.length cap) (ek.set k ⟨{ y.a with vs:=y.a.vs++[x.m.range] },y.vq,u⟩)) (H9.mono λj _ (hj:j=g)=>.inl (.inl (by rw[hj];rfl))) λj hj=>.inl (.inr hj);have ail:=aek GA GB (bZ rr 4) (H9.mono λj _ (hj:j=g)=>by rw[hj];rfl) ad0 λj (hj:rr j=4) _=>⟨hj,by
        rw[H9.block j (q9.x j zQ) λe=>by have:=q9.tz j (.inl (.inl (by rw[e];rfl)));omega];exact c9.block j (q8.x j zQ) λe=>by have:=q8.tz j (.inr ⟨y,av hy,e⟩);omega⟩
       clear hs;have hs:=q10.rf;repeat' refine aq ?_;intros
       exact ey (es.length-(k+1)) zQ ⟨k+1,_,congrArg I zQ,rfl,by omega,.inl ⟨b2,b3,b4,b5⟩,by rw[D3,List.map_set];exact congrArg _ (if_pos ⟨e,hnr⟩).symm,by rw[List.length_set];exact Fs,ail,q10⟩
     ·repeat' first|refine aq ?_;intros|(with_reducible refine Em _ _ ?_ ?_ ?_);(· kernel_rfl);all_goals intros|with_reducible apply cK|(exfalso;simp_all;done)
      exact ey (es.length-(k+1)) zQ ⟨k+1,ek,congrArg I zQ,rfl,by omega,.inl ⟨b2,b3,b4,b5⟩,same (if_neg λh=>e h.1),Fs,yZ,q6⟩
    ·have uF:isV x->k=es.length:=λ⟨v1,v2,v3,v4⟩=>by
      simp only[v1,v2,v3,v4,decide_true,Bool.and_true,decide_eq_false_iff_not] at hb;omega
     obtain⟨l1,yV,hV1,kV,ac2⟩: ∃l1,ek.map (·.a)=l1/\VI s6 l1/\(isV x-> ∀e∈l1,e.t=x.m.aG->x.m.range∈e.vs)/\ ∀e∈l1,e.vs.length<=i+1:=by
      by_cases hv:isV x
      ·have e:=uF hv;refine⟨_,hek,?_⟩;rw[List.take_of_length_le oQ,List.drop_of_length_le oQ,fM];refine⟨hV6.YH x.m,λ_ e he et=>?_,λe he=>?_⟩
       ·obtain⟨z,hz,rfl⟩:=List.mem_map.1 he;exact(AI x.m z).2.2.2.1 ((AI x.m z).1.symm.trans et)
       ·obtain⟨z,hz,rfl⟩:=List.mem_map.1 he;have:=(AI x.m z).2.2.2.2;have:=lE z hz;omega
      ·have e:k=0:=hkV.resolve_left hv;subst e;refine⟨_,hek,?_⟩;rw[List.take_zero,List.drop_zero,List.map_nil,bp];exact⟨hV6,λh=>absurd h hv,λe he=>Nat.le_succ_of_le (lE e he)⟩
     clear hb uF hek hkV hV6 lE;repeat' refine aq ?_;intros
     refine q6.act (o:=x) aik (q6.op aQ) hxo zQ zQ λv7 w7 X7 rZ s7 q7 hP mT m4=>?_;obtain⟨s8,t8,rfl,hO,aim,rfl,hR⟩:=hP;have iO: ∀n,s6= .up n->uj n:=λn e=>by
      have h:=q6.h;rw[e] at h;exact(show j9 w6 rr n from h.1).gL 12 dQ dQ
     obtain⟨hV8,amK⟩:=hV1.act aik aim iO hR λa b c d=>kV ⟨a,b,c,d⟩;have hml:=hR.Rp aik;obtain⟨vm,va,rm,hyz,lW,Gm,hsa⟩:=hO.msg;rw[hyz];have oy:=lW.one;have oz:=hsa.one;have GH:jb w7 (bZ rZ 4) X7 v ek:=yZ.to (λj hj=>⟨q7.t.bg j (.inr hj),(mT j hj (yZ.lt j hj)).2⟩) m4;clear hs;have hs:=q7.rf;repeat' refine aq ?_;intros
     refine xQ (abb GH lW Gm (λj (hj:rZ j=4)=>⟨q7.x j zQ,λh=>by have:=q7.tz j h;omega⟩) zQ oz) kQ q7.has GH.bg λv8 wa8 w8 X8 hq8 aqQ ain _ c8=>?_;obtain⟨B4,he8,hn8,hf8,GI⟩:=hq8;have q8:=q7.YM (T':=mh v8 B4) c8 λj hj=>(hf8 j hj).imp id λh=>⟨ain j h,by have:=h.1;omega⟩;have m8:Mv (bZ rZ 4) w7 (bZ rZ 4) w8:=λj (hj:rZ j=4) _=>⟨hj,c8.block j (q7.x j zQ) λh=>by have:=q7.tz j h;omega⟩;replace GI:jb w8 (bZ rZ 4) X8 v8 B4:=GI.to (λj hj=>⟨q8.t.bg j (.inr hj),rfl⟩) (Mv.refl _ _);obtain⟨sa,amL,amM⟩: ∃sa:List xq,s8.ra=sa.map xq.l/\ ∀a∈sa,aK.one a.vs=true/\ ∃n1,s8= .up n1/\Px x n1 (B4.map (·.a)) a:=by
      rw[yV] at he8;rw[he8];cases s8 with
      |up n1=>
       obtain⟨sa,h1,h2⟩:=amK n1 rfl;exact⟨sa,h1,λa ha=>⟨(h2 a ha).1,n1,rfl,(h2 a ha).2⟩⟩
      |dn nb m P=>exact⟨[],rfl,by simp⟩
     have aqR:Sl w8 X8 9 va (sa.map xq.l):=by
      rw[<-amL];exact(hsa.mv m8).mono λj (hj:rZ j=4)=>q8.x j zQ
     have asS:=aqR.gV;clear hs yZ GH q6 q7 hsa lW Gm amK amL;have hs:=q8.rf;refine Xn (λn a _ _ _ w X=> ∃k:Nat,a=I k/\n=sa.length-k/\k<=sa.length/\ai X8 w8 X w) sa.length ⟨0,rfl,rfl,ak _,hs⟩ ?_;clear hs;rintro n _ _ _ _ w9 X9 ⟨j,rfl,rfl,hj,hs⟩
     show(jh _ _:Prop)
     rcases dB sa j with⟨asT,y,hy,hd9⟩|⟨amN,hd9⟩
     ·obtain⟨oyv,n1,rfl,hA⟩:=amM y (av hy);have Y6:(sa.map xq.l)[j]? =some y.l:=by rw[cN,hy];rfl
      by_cases hy0:y.e=0
      ·cases hyo:y.on with
       |true=>
        have hy2:sa[j]? =some ⟨y.e,y.t,y.st,true,y.vs⟩:=by rw[hy,<-hyo]
        clear Y6 hy;repeat' first|refine aI ?_;intros|with_reducible apply cK
        exact E3 (sa.length-(j+1)) zQ ⟨j+1,congrArg I zQ,rfl,by omega,hs⟩
       |false=>
        rcases hA with h|h|⟨HN,ES,b,hb,Ui,hbu,wA,Gf,e,he,e1,e2,e3⟩
        ·exact absurd hy0 h
        ·rw[hyo] at h;cases h
        ·have hzf: ∀{zs:List (Rec×Value)},zs.map (·.1)=n1.cl.map (λb=>(n1.C b).r)-> ∃z∈zs,(zs.find? λz=>decide (z.1.aG=y.t))=some z/\z.1=(n1.C b).r:=λ{zs} hz=>by
          have lJ: ∃z∈zs,z.1.aG=y.t:=by
           obtain⟨z,tg,e'⟩:=List.mem_map.1 (show(n1.C b).r∈zs.map (·.1)by rw[hz];exact List.mem_map.2 ⟨b,hb,rfl⟩);exact⟨z,tg,by rw[e'];exact Ui⟩
          cases hf:zs.find? λz=>decide (z.1.aG=y.t)with
          |none=>
           obtain⟨z,tg,e'⟩:=lJ;exact absurd (decide_eq_true e') (by simpa using List.find?_eq_none.1 hf z tg)
          |some z=>
           have KZ:=List.mem_of_find?_eq_some hf;have ht:z.1.aG=y.t:=by simpa using List.find?_some hf
           obtain⟨b',dO,e'⟩:=List.mem_map.1 (show z.1∈n1.cl.map (λb=>(n1.C b).r)by rw[<-hz];exact List.mem_map.2 ⟨z,KZ,rfl⟩);exact⟨z,KZ,rfl,by rw[<-e',hbu b' dO (by rw[e'];exact ht)]⟩
         have hue: ∀z∈B4,z.a.t=y.t->z.a=e:=λz hz ez=>by
          have qf:((B4.map (·.a)).map (·.t)).Nodup:=by
           have h:=hV8;rw[<-yV,<-he8] at h;exact(show pX _ _ from h).nd
          exact UM qf (List.mem_map.2 ⟨z,hz,rfl⟩) he (ez.trans e1.symm)
         have hy2:sa[j]? =some ⟨y.e,y.t,y.st,false,y.vs⟩:=by rw[hy,<-hyo]
         clear amM Y6 hy;have aio:gz (i+1+1) (Af (ops.take i)+x.m.seen.length) (eQ n1):=aim;have cm1: ∀{R:Ending->World->Prop} {M:Value->World->XS->Prop} {w9 X9},ai X8 w8 X9 w9->(∀(vc:Value) (zs:List (Rec×Value)) w X,ai X8 w8 X w->zs.map (·.1)=n1.cl.map (λb=>(n1.C b).r)->Sl w X 29 vc (zs.map yj)->(∀z∈zs,Sl w X 1 z.2 (z.1.parts.map I1))->M vc w X)->eC pg R X9 w9 false 20 #[ptr n1.nb 0] M:=λ{R M w9 X9} hs kk=>by
          have q9:=q8.since hs;refine cM (Pw (n:=eQ n1) q9.h.1 q9.x (ad aio.ok.cl aio.ok.mM) λb hb=>ad (aio.parts b hb) dQ) kQ q9.has ?_;rintro vc amo GA GB ⟨zs,hzo,hzr⟩ ajM Nc Sz;exact kk vc zs GA GB (hs.trans Sz) hzr.1 (hzo.sl.mono Nc) λz hz=>(hzr.2 z hz).mono Nc
         have cm2: ∀{R:Ending->World->Prop} {M:Value->World->XS->Prop} {vc:Value} {zs:List (Rec×Value)} {w9 X9},ai X8 w8 X9 w9->zs.map (·.1)=n1.cl.map (λb=>(n1.C b).r)->Sl w9 X9 29 vc (zs.map yj)->(∀z∈zs,Sl w9 X9 1 z.2 (z.1.parts.map I1))->(∀(z:Rec×Value) w X,ai X8 w8 X w->z.1=(n1.C b).r->Sl w X 1 z.2 (z.1.parts.map I1)->M (.tuple #[.agg (yj z).toArray,B true]) w X)->eC pg R X9 w9 true 19 #[vc,y.t.v] M:=λ{R M vc zs w9 X9} hs HM vC UO kk=>by
          obtain⟨z,hzm,hzf,HM⟩:=hzf HM;refine cM (Ro (t:=y.t) vC λz hz=>(UO z hz).one) kQ hs.has ?_;rintro vf asU Ri UA hvf asb asc Fv;rw[hzf] at hvf;obtain rfl:vf= .tuple #[.agg (yj z).toArray,B true]:=hvf;exact kk z Ri UA (hs.trans Fv) HM ((UO z hzm).mv Fv.mv)
         repeat' refine aI ?_;intros
         with_reducible apply cK
         repeat' refine aI ?_;intros
         refine ib (Q:=λK=> ∀(z:Rec×Value) w X,ai X8 w8 X w->z.1=(n1.C b).r->Sl w X 1 z.2 (z.1.parts.map I1)->K (.agg (yj z).toArray) (B true) w X) ?_ λK hK=>?_
         ·intro z Ri UA Fv HM UO;have q11:=q8.since Fv;have aip:=GI.to (X':=UA) (K':=bZ rZ 4) (λj hj=>⟨Fv.sub j (GI.bg j hj),Fv.kp.block j (GI.bg j hj)⟩) λj (hj:rZ j=4) _=>⟨hj,Fv.kp.block j (q8.x j zQ)⟩;have zF:=aip.own;have ozp:=UO.one;obtain⟨zr,zv⟩:=z;obtain rfl:zr=(n1.C b).r:=HM;replace UO:Sl Ri UA 1 zv ((n1.C b).r.parts.map I1):=UO;have Xx:=UO.gV;clear hs;have hs:=q11.rf
          show(HP _ _ _ _ _ _ _ _ _:Prop)
          refine Bc (λn a _ g w X=> ∃k:Nat,a=I k/\g=B ((B4.take k).any λf=>decide (f.a.t=y.t))/\n=B4.length-k/\k<=B4.length/\ai UA Ri X w) B4.length ⟨0,rfl,rfl,rfl,ak _,hs⟩ ?_;clear hs;rintro n _ _ _ w12 X12 ⟨k,rfl,rfl,rfl,hk,hs⟩
          show(aY _ _ _ _ _:Prop)
          rcases dB B4 k with⟨Pf,f,hf,rH⟩|⟨DH,rH⟩
          ·have wD:(B4.map oY.l)[k]? =some f.l:=by rw[cN,hf];rfl
           have hfm:=av hf;have e9:((B4.take (k+1)).any λe=>decide (e.a.t=y.t))=(((B4.take k).any λe=>decide (e.a.t=y.t))||decide (f.a.t=y.t)):=by rw[bW,hf];simp
           have FE:Sl Ri UA 1 f.vq (f.a.ps.map I1):=(aip.ps f hfm).mono λj (hj:rZ j=4)=>q11.x j zQ;have hfv:=(aip.vs f hfm).sl;by_cases ef:f.a.t=y.t
           ·have efa:=hue f hfm ef;have f1:f.a.t.dW=y.t.dW:=by rw[ef]
            have f2:f.a.t.aR=y.t.aR:=by rw[ef]
            have f3:f.a.t.sq=y.t.sq:=by rw[ef]
            repeat' first|refine aI ?_;intros|(with_reducible refine Em _ _ ?_ ?_ ?_);(· kernel_rfl);all_goals intros|with_reducible apply cK|contradiction
            refine ff (SV (FE.mv hs.mv) (UO.mv hs.mv)) kQ hs.has λw13 X13 adr=>?_;rw[decide_eq_true (show f.a.ps=(n1.C b).r.parts by rw[efa];exact e2)];replace hs:=hs.trans adr;have ofv:=hfv.one;repeat' refine aq ?_;intros
            refine gM (λn a g w X=> ∃p:Nat,a=I p/\g=B true/\n=(n1.C b).r.parts.length-p/\p<=(n1.C b).r.parts.length/\ai UA Ri X w) (n1.C b).r.parts.length ⟨0,rfl,rfl,rfl,ak _,hs⟩ ?_;clear hs;rintro n _ _ w14 X14 ⟨p,rfl,rfl,rfl,hp,hs⟩
            show(jh _ _:Prop)
            rcases dB (n1.C b).r.parts p with⟨aqS,id,oc,hd3⟩|⟨aqT,hd3⟩
            ·have asV:((n1.C b).r.parts.map I1)[p]? =some [I id]:=by rw[cN,oc];rfl
             repeat' first|refine aI ?_;intros|with_reducible apply cK
             refine ff (Mb (hfv.mv hs.mv)) kQ hs.has λw15 X15 aqU=>?_;rw[show(f.a.vs.any λz=>decide (z=id))=true from List.any_eq_true.2 ⟨id,by rw[efa];exact e3 id (by rw[e2];exact av oc),decide_eq_true rfl⟩];replace hs:=hs.trans aqU;repeat' refine aq ?_;intros
             exact fG ((n1.C b).r.parts.length-(p+1)) zQ ⟨p+1,congrArg I zQ,rfl,rfl,by omega,hs⟩
            ·repeat' refine aI ?_;intros
             exact xV (B4.length-(k+1)) zQ ⟨k+1,congrArg I zQ,by rw[e9,decide_eq_true ef,Bool.or_true],rfl,by omega,hs⟩
           ·repeat' first|refine aI ?_;intros|(with_reducible refine Em _ _ ?_ ?_ ?_);(· kernel_rfl);all_goals intros|with_reducible apply cK|contradiction
            exact xV (B4.length-(k+1)) zQ ⟨k+1,congrArg I zQ,by rw[e9,decide_eq_false ef,Bool.or_false],rfl,by omega,hs⟩
          ·obtain rfl:k=B4.length:=by omega
           rw[ke];have hg:(B4.any λf=>decide (f.a.t=y.t))=true:=by
            obtain⟨f,hf,ef⟩:=List.mem_map.1 he;exact List.any_eq_true.2 ⟨f,hf,decide_eq_true (by rw[ef];exact e1)⟩
           rw[hg];have asW:decide (y.st.cmp x.m.aU<0)=false:=decide_eq_false Gf;repeat' first|refine aI ?_;intros|(with_reducible refine ajS _ _ ?_ ?_ ?_);(· kernel_rfl);all_goals intros|with_reducible apply cK|(refine kG (abc _ _) hs ?_ ?_<;>intro _ w X hs)|contradiction|(exfalso;simp_all;done)
           exact E3 (sa.length-(j+1)) zQ ⟨j+1,congrArg I zQ,rfl,by omega,Fv.trans hs⟩
         ·refine I0 rfl ⟨cm1 hs λvc zs w X h1 h2 h3 h4=>⟨?_,?_⟩,cm1 hs λvc zs w X h1 h2 h3 h4=>?_⟩;all_goals
           clear hs;have hs:=h1;refine adV y.t.v rfl ?_;refine cm2 h1 h2 h3 h4 λz w X g1 g2 g3=>?_;have og:=g3.one;obtain⟨o1,o2,o3,og1⟩:=g3.form;clear hs;have hs:=g1;refine Wi rfl (Wi rfl (adV (.agg (yj z).toArray) rfl (I0 rfl (I0 (by simp[yj,Rec.l,Value.cells,aK.one];exact og) ?_))));exact hK z w X g1 g2 g3
      ·repeat' first|refine aI ?_;intros|with_reducible apply cK
       exact E3 (sa.length-(j+1)) zQ ⟨j+1,congrArg I zQ,rfl,by omega,hs⟩
     ·obtain rfl:j=sa.length:=by omega
      repeat' refine aI ?_;intros
      refine amO (ops.length-(i+1)) zQ ⟨i+1,rZ,s8.Hi,B4,congrArg I zQ,by rw[CS.aku],rfl,by omega,⟨q8.since hs,by rw[UL hx];exact aim,GI.to (λj hj=>⟨hs.sub j (GI.bg j hj),hs.kp.block j (GI.bg j hj)⟩) λj (hj:rZ j=4) _=>⟨hj,hs.kp.block j (q8.x j zQ)⟩,by rw[he8,yV];exact hV8,by omega,λe he=>?_⟩⟩;rw[he8,yV] at he;obtain⟨new,h1,h2,_⟩:=BB s8.ms l1;rw[h1] at he;rcases List.mem_append.1 he with he|he
      ·exact ac2 e he
      ·rw[(h2 e he).2.1];exact ak _
   ·obtain rfl:i=ops.length:=by omega
    repeat' refine aI ?_;intros
    refine ff FA kQ q6.has λw6 X6 sU=>?_;exact(q6.since sU).t.fin λwa ou=>rfl
 intro w0 hk;refine(key w0 hk).mono λe w' ⟨v,he,hf,hv⟩=>⟨v,he,hf.mono λk hk=>?_,hv⟩;by_cases hl:k<w0.heap.size
 ·exact(hk.2 (if_pos hl)).elim
 ·exact(hk.1 (if_neg hl)).elim
end
namespace coordVotes
theorem aiq (H:Type) (enc:TypeId×Value->H) (W:World) (base:Nat) (args:Array Value) (ds gs:List (DataW H)) (before:List MemPlace)
  (Zc: ∀(j:Nat) t v,Tryz.f4.params[j]? =some t->args[j]? =some v->Value.okWide pg W .any base t v)
  (hW:DataW.Whole enc pg Tryz.f4.params.toList Rows.coordVotesSpec.vars false W args.toList ds gs before) (hk:Rows.uptoSmall H (ds++gs)=true):
  Calls pg 4 args W λe W'=> ∃v,e= .returned v/\Rows.coordVotesSpec.post enc pg Tryz.f4 false true false false W args v W':=by
 have hW':=hW;obtain⟨p,q,hA0,hV,rfl,hfz,qf⟩:=hW;have hA:DataW.TrodAll enc pg W 0 (λ_=>true) true Tryz.f4.params.toList args.toList ds p:=hA0;rw[Tryz.params4] at hA Zc;obtain⟨v0,vs0,d0,ds0,p0,q0,ajB,rfl,rfl,h0,r0⟩:=trodAll_cons hA;obtain⟨rfl,rfl,rfl⟩:=trodAll_nil r0;obtain rfl:args= #[v0]:=by cases args;simp_all
 obtain⟨rfl,rfl⟩:=trodVars_none hV;obtain⟨b0,n0,c0,rfl⟩:=okWide_slice Tryz.underlying22 (Zc 0 22 v0 rfl rfl);obtain⟨f0,hf0⟩:=h0;obtain⟨x0,⟨u0,hu0,r0'⟩,wt0⟩:=aif H enc W f0 _ _ hf0;obtain rfl:u0= .slice b0 n0 c0:=by grind [Value.cells]
 have hbk:=bound hk;have ht0:Wt.wt x0<=Rows.uptoBulk d0:=wt0;have hw:Wt.wt x0<=1048576:=by
  simp only[fM,Rows.uptoBulkAll] at hbk ht0;omega
 obtain⟨k1,k2⟩:=amG (l:=x0) (B:=1048576) zQ (au _);refine(PA (X:=bP W) r0' k1 zQ W (Kp.refl _ _)).mono λe W' ⟨v,he,wD,hq⟩=>?_;subst he;subst hq;exact⟨_,rfl,air Zd Tryz.underlying4 rfl rfl kQ ⟨rfl,rfl,rfl⟩ hW' (by have h9:=hA0;simp only[fM] at h9⊢;exact h9) wD⟩
theorem lifted (os:Os) (started:os.Started) (H:Type) (enc:TypeId×Value->H) (F:Stop.Interp):
  ReturnsInHanded {} Tryz.checked os 4 .any ((Rows.OpenSpec.upto Rows.coordVotesSpec).pre6 enc pg Tryz.f4 Rows.coordVotesUptoRow.domain false) (((Rows.OpenSpec.upto Rows.coordVotesSpec).at F).post enc pg Tryz.f4 false true false false):=by
 refine returnsInHanded_of_cond (C:=Tryz.checked) (s:=Rows.OpenSpec.upto Rows.coordVotesSpec) (k:=Rows.uptoSmall) rfl ais started kQ Tryz.func4
  (OpenSpec.witness (enc:=enc) (C:=Tryz.checked) (s:=Rows.OpenSpec.upto Rows.coordVotesSpec) (k:=Rows.uptoSmall) rfl false ⟨#[],#[.slice none 0 0],[]⟩ 8 kQ (by rfl) kQ
   (x:=([.nil],[],[])) kQ rfl (by rfl)) ?_
 intro W base args ds gs before Zc hW _ hk _;exact aiq H enc W base args ds gs before Zc hW hk
theorem aoG:((Rows.coordVotesUptoRow).unfollowed==pg.unfollowed 4)=true:=by kernel_rfl
theorem aoH:((Rows.coordVotesUptoRow).recurses==pg.recurses 4)=true:=by kernel_rfl
theorem af8:((Rows.coordVotesUptoRow).inPlace==pg.inPlace 4)=true:=by kernel_rfl
theorem akN:((Rows.coordVotesUptoRow).named==pg.varsNamed 4)=true:=by kernel_rfl
theorem abd:mapsRowed pg=true:=by kernel_rfl
theorem akO:(pg.stops==[])=true:=by kernel_rfl
theorem akP:(pg.stopKnobs==[])=true:=by kernel_rfl
theorem akQ:pg.stopsHeard=true:=by kernel_rfl
theorem aoI:pg.mayEnter=true:=by kernel_rfl
theorem amP:((Rows.coordVotesUptoRow).plainKeys==pg.plainKeys)=true:=by kernel_rfl
theorem ait:((Rows.coordVotesUptoRow).lifted==pg.liftsFinal)=true:=by kernel_rfl
theorem amQ:(pg.make==some (Rows.coordVotesUptoRow).make)=true:=by kernel_rfl
theorem amR:joinedFacts pg 4 Tryz.f4 (Rows.OpenSpec.upto Rows.coordVotesSpec).bare Rows.coordVotesUptoRow=true:=by
 unfold joinedFacts;simp only[aA]
 and_intros<;>first|with_reducible exact Zd|with_reducible exact aoG|with_reducible exact aoH|with_reducible exact af8|with_reducible exact akN|with_reducible exact abd|with_reducible exact akO|with_reducible exact akP|with_reducible exact akQ|with_reducible exact aoI|with_reducible exact amP|with_reducible exact ait|with_reducible exact amQ|kernel_rfl
theorem proved:Rows.CoordVotesUptoSaid:=
 OpenClaim.holds_of_cond 4 Tryz.f4 rfl rfl rfl rfl rfl rfl rfl ⟨rfl,rfl,rfl,rfl,rfl⟩ rfl rfl rfl rfl rfl kQ Tryz.func4 amR
  (of_decide_eq_true kQ) (by unfold Func.isWrapper;first|(rw[if_pos (by decide+kernel)];kernel_rfl)|(rw[if_neg (by decide+kernel)];exact⟨rfl,rfl⟩))
  (λos started H enc _ F=>lifted os started H enc F)
#print axioms proved
end coordVotes
end Go.Proofs.YtgfijddlkhkopaaGreat