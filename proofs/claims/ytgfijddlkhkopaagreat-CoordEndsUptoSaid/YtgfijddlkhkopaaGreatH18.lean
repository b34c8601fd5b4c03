/-
 racelaw17.CoordEnds returns true, whatever it is called with, where what it reads is of bulk at most 1048576; the input reads as it did.
-/
import Derived.Test.YtgfijddlkhkopaaGreatH17
open Nat renaming le_refl → aq, le_trans → ad, zero_le → au, le_succ → dc, le_add_right → ke, lt_of_lt_of_le → av, le_of_not_lt → A9
open List renaming length_map → ai, length_append → aa, mem_of_getElem? → aB, map_append → aJ, length_nil → bz, mem_singleton → aw, length_cons → aM, take_of_length_le → ax, append_nil → gI
open Go.Value renaming tuple → dA
open Classical renaming byContradiction → eH
namespace Go.Proofs.YtgfijddlkhkopaaGreat
open Go.Proofs.Tryz renaming prog → pg
open Go.aG
set_option maxRecDepth 100000
set_option maxHeartbeats 4000000
set_option linter.unusedVariables false
set_option linter.unusedSimpArgs false
attribute [local irreducible] un jn jq ji ld1 je st1 oS mO pj me pH HR D4 gT pI aZ nO nQ eW eV eU eC eF gE mE fin iM bq de vS KZ HS HT HU HV HW K0 K3 K4 K5 EW EX HX HY HZ K6 K7 K8
theorem afR {l:List (List Nat)} (h: ∀p∈l,xc p):xc (flat l):=λx hx=>by
 obtain⟨y,hy,hx⟩:=List.mem_flatten.1 hx;obtain⟨z,hz,rfl⟩:=List.mem_map.1 hy;exact Uj (h z hz) x hx
theorem pA.aqp {dir:ByteArray} {pre:List dO} {s:dO} {lJ:List Nat} {sf:Nat} {m:DM} (h:pA dir pre s lJ sf m) (hg:Good (pre++[s])) (ht:xc lJ): ∀n,xc (m.bytes n):=λn=>by
 cases hq:m.get n with
 |none=>unfold DM.bytes;rw[hq];intro x hx;cases hx
 |some y=>
  have hm:=h.ks.mem_iff.1 (DM.get_some.1 (by rw[hq];rfl));obtain⟨t,vV,rfl⟩:=List.mem_map.1 hm;have hb:xc (flat t.bp):=afR λp hp=>((hg.ok t vV).pl p hp).2;rcases List.mem_append.1 vV with vV|vV
  ·rw[vF (h.body t vV)];exact hb
  ·simp only[aw] at vV;subst vV;rw[vF h.last];exact uC hb ht
theorem yw.Pp {k:Nat} {P:lK->Prop} {m:DM} (h:yw k P m) (cH:List Int):(∀x∈(m.mI cH).fs,x.1.size<=2^40)/\(m.mI cH).fs.length<=64/\ ∀n,xc ((m.mI cH).bytes n):=by
 obtain⟨pre,s,lJ,sf,_,hg,ht,hbt,hd⟩:=h.2 cH;refine⟨λx hx=>?_,?_,hd.aqp hg hbt⟩
 ·have hm:x.1∈(m.mI cH).ks:=List.mem_map.2 ⟨x,hx,rfl⟩;obtain⟨t,_,e⟩:=List.mem_map.1 (hd.ks.mem_iff.1 hm);rw[<-e,A2]
  decide
 ·have h1:=congrArg List.length (Pr m cH);rw[DM.vY,DM.vY] at h1;rw[h1];exact h.1
theorem yw.names {k:Nat} {P:lK->Prop} {m:DM} (h:yw k P m): ∀x∈m.fs,x.1.size<=2^40:=λx hx=>by
 have hm:x.1∈(m.mI []).ks:=by rw[Pr];exact List.mem_map.2 ⟨x,hx,rfl⟩
 obtain⟨y,hy,e⟩:=List.mem_map.1 hm;rw[<-e];exact(h.Pp []).1 y hy
inductive CS where
 |up (n:bt)
 |dn (nb:Nat) (m:DM) (P:lK->Prop)
def CS.nb:CS->Nat
 | .up n=>n.nb
 | .dn nb _ _=>nb
def CS.out:CS->Value
 | .up n=>.agg #[n.vm,n.va]
 | .dn _ _ _=>.agg #[bf,bf]
def CS.Pw:CS->CS
 | .up n=>.up (dM n)
 | .dn nb m P=>.dn nb m P
def CS.ra:CS->List (List Value)
 | .up n=>n.ra
 | .dn _ _ _=>[]
def CS.ms:CS->List bZ
 | .up n=>n.ms
 | .dn _ _ _=>[]
def CS.Is (w:World) (own:Nat->Nat) (db:Nat):CS->Prop
 | .up n=>jb w own n/\n.db=db
 | .dn nb m _=>V6 w own nb db m
def CS.adO (w:World) (own:Nat->Nat):CS->Prop
 | .up n=>yW w own n
 | .dn _ _ _=>True
def CS.Ok (k N:Nat):CS->Prop
 | .up n=>gD k N n
 | .dn _ m P=>DnS k P m
structure Ro (a:lK) (n:bt):Prop where
 abs:n.abs=(a.1+1,a.2)
 fF:n.c.fF=0
 al:n.al=[]
 ds:n.ds=Mm
theorem DM.ahV (m:DM) (z:Int):(m.lL z).fs=m.fs/\(m.lL z).dn=m.dn:=by
 unfold DM.lL;split<;>exact⟨rfl,rfl⟩
theorem wD.lL {L:LM} {m:DM} {k:Nat} {a:lK} (h:wD ⟨L,m⟩ k a) (z:Int):wD ⟨L,m.lL z⟩ k a:=by
 obtain⟨pre,sg,h1,h2,h3,h4⟩:=h;obtain⟨e1,e2⟩:=m.ahV z;have eg: ∀n,(m.lL z).get n=m.get n:=λn=>by unfold DM.get;rw[e1]
 have ek:(m.lL z).ks=m.ks:=by unfold DM.ks;rw[e1]
 have es:(m.lL z).sz=m.sz:=by unfold DM.sz;rw[e1]
 refine⟨pre,sg,⟨h1.bu,h1.g,⟨?_,?_,λt ht=>?_,?_,h1.d.sf⟩,?_,?_,?_,h1.d1,h1.d2,h1.r1,h1.r2⟩,h2,h3,h4⟩
 ·show(m.lL z).ks.Nodup;rw[ek];exact h1.d.nd
 ·show(m.lL z).ks.Perm _;rw[ek];exact h1.d.ks
 ·show(m.lL z).get _=_;rw[eg];exact h1.d.body t ht
 ·show(m.lL z).get _=_;rw[eg];exact h1.d.last
 ·show(m.lL z).dn=false;rw[e2];exact h1.dn
 ·show(m.lL z).sz<=_;rw[es];exact h1.sz
 ·show(m.lL z).fs.length<=_;rw[e1];exact h1.fl
theorem gD.lL {k N:Nat} {n:bt} (h:gD k N n) (z:Int):gD k N { n with m:=n.m.lL z } :=
 ⟨⟨h.ok.id,h.ok.act,h.ok.ds,h.ok.ms,h.ok.vm,h.ok.va,h.ok.rm,h.ok.ra,h.ok.cl,h.ok.QJ,h.ok.mM,h.ok.pre,h.ok.cw,h.ok.byT⟩,h.bl,h.log.lL z,h.fF,h.ba,λt b hg=>let q:=h.act t b hg;⟨q.co,q.ba,q.sq,q.bl⟩,h.abs,h.Dl⟩
def ahW:CS->iV->bH->CS->Prop
 | .up n,o,t,s1=>(o.kind=1/\t=iu n/\ ∃n1,s1= .up n1/\zH n o.prog n1)\/(o.kind=2/\t= .zero/\((∃n1,s1= .up n1/\yv n o.m n1)\/ ∃m',s1= .dn n.nb m' (adN n o.m)/\Ja n o.m m'))\/(o.kind=3/\t= .zero/\ ∃n1,s1= .up n1/\zI n n1)\/
   (o.kind=4/\t= .zero/\s1= .up { n with m:=n.m.lL o.n })\/(o.kind=5/\t= .zero/\ ∃n1,s1= .up n1/\Ro n.abs n1)\/((o.kind<1\/5<o.kind)/\t= .zero/\s1= .up n)
 | .dn nb m P,o,t,s1=>(o.kind=5/\t= .zero/\ ∃n1 a,s1= .up n1/\P a/\A7 a/\Ro a n1)\/(o.kind≠5/\t= .zero/\s1= .dn nb m P)
section
variable {w w' wa w0 : World} {X X' : XS} {own aH bM : Nat -> Nat} {n n' : bt} {db : Nat} {m : DM}
theorem adP: ∀(i:Int) (r:eI),getM i (Ml.foldl iY [])=some r->r.id=i:=λi r h=>by
 rw[Rn] at h;exact ama h
theorem _root_.Go.aG.St.FB {vq:Value} {cH:List Int} {k N:Nat} {P:lK->Prop} {R:Ending->World->Prop} {NX:Value->World->XS->Prop} (s:St w0 bM w X own (Un db m)) (hq:Sl w (bR own 4) 1 vq (cH.map I1)) (hc:yw k (λs=>P s/\A7 s) m) (hk:k<=190)
  (kk: ∀a w' X' aH n',Sn w0 bM w' X' aH n'->n'.db=db->P a->A7 a->Ro a n'->gD (k+1) N n'->NX (.tuple #[ptr n'.nb 0,I 0]) w' X'):
  eC pg R X w true 38 #[ptr db 0,vq] λ_ w X=>eC pg R X w true 37 #[] λv w X=>eC pg R X w true 36 #[ptr db 0,I 1,I 4096,v] NX:=by
 refine s.mI hq hc.names (by have:=hc.1;omega) λw1 X1 ij s1=>?_;refine cA Mo kQ s1.has ?_;rintro vl wb w2 X2 lv mq kW bm;obtain⟨nE,s3,-,-,p4⟩:=(s1.since bm).vB (N:=made wb w2) λq hq=>⟨kW q hq,s1.nw (ad mq hq.1)⟩;obtain⟨mb,l,_,hz⟩:=id (s3.get 3:Dk w2 (bR nE 3) db _);obtain⟨a,x,pre,sg,rs,⟨hP,hA⟩,hB⟩:=Go.Proofs.YtgfijddlkhkopaaGreat.FB hc zQ cH hz;obtain⟨d1,d2,d3⟩:=hc.Pp cH;refine s3.call (FC (l:=Ml) s3.h s3.x (lv.mono p4).sl SO d1 zQ d3 hB.B1 hB.log hB.uX hB.kp hB.err) kQ λv w' X' aH n' s' ⟨hv,hO⟩ _=>?_;subst hv;exact kk a w' X' aH n' s' hO.db hP hA ⟨hO.abs,hO.fF,hO.al,hO.ds.trans Rn⟩ (gD.FB hB hA hO adP zQ)
theorem ou.nb: ∀{ts:List bH} {n n1:bt},ou ts n n1->n1.nb=n.nb/\n1.db=n.db
 |[],n,n1,h=>by
  have:n1=n:=h;subst this;exact⟨rfl,rfl⟩
 |t::ts,n,n1,⟨n2,h1,h2⟩=>⟨(ou.nb h2).1.trans h1.tk.nb,(ou.nb h2).2.trans h1.tk.db⟩
theorem Cq.nb: ∀{ts:List Nat} {n n1:bt},Cq ts n n1->n1.nb=n.nb/\n1.db=n.db
 |[],n,n1,h=>by
  have:n1=n:=h;subst this;exact⟨rfl,rfl⟩
 |t::ts,n,n1,⟨n2,h1,h2⟩=>⟨(Cq.nb h2).1.trans h1.tk.nb,(Cq.nb h2).2.trans h1.tk.db⟩
theorem zI.nb {n n1:bt} (h:zI n n1):n1.nb=n.nb/\n1.db=n.db:=by
 obtain⟨ts,n2,_,h1,h2⟩:=h;exact⟨h2.nb.1.trans h1.nb.1,h2.nb.2.trans h1.nb.2⟩
def adQ (own:Nat->Nat) (wa w':World) (db:Nat) (s:CS) (o:iV) (k N:Nat) (v:Value):Prop:=
 ∃aH s1 t,Cr own aH wa.heap.size/\CS.Is w' aH db s1.Pw/\CS.adO w' aH s1/\CS.Ok k N s1.Pw/\v= .tuple #[ptr s1.nb 0,s1.out,t.v]/\ahW s o t s1
theorem CS.akb (s:CS):s.Pw.nb=s.nb:=by cases s<;>rfl
theorem tn.out {N k:Nat} (hk:tn N k n):yW w own n:=⟨by rw[hk.vm,hk.rm];exact Sl.nil _ _ _,by rw[hk.rm,hk.ms];exact fN.nil _ _,by rw[hk.va,hk.ra];exact Sl.nil _ _ _⟩
theorem adR {o:iV} {vk vs vw vp vr vc vh vd vo vq:Value} {k N:Nat} (h:jb w own n) (hX:sK own X) (jF:gD k N n) (ho:o.at w (bR own 4) vk vs vw vp vr vc vh vd vo vq) (ni:o.m.small) (AG:o.m.lens<=2^62) (xD:o.prog.length<=2^30) (hn:o.n<2^63) (hk:k<=180) (hN:N+o.m.seen.length<=2^20):
  Ct pg 12 #[ptr n.db 0,ptr n.nb 0,.agg (o.l vk vs vw vp vr vc vh vd vo vq).toArray] w X (gB own) λv wa w'=>adQ own wa w' n.db (.up n) o (k+1) (N+o.m.seen.length) v:=by
 intro w0 iw;have s0:=St.init h hX iw;have YO:o.at w0 (bR own 4) vk vs vw vp vr vc vh vd vo vq:=by
  have m:=yD hX iw;exact⟨ho.m.mv m,ho.po.mv m,ho.p.mv m⟩
 clear h hX iw ho;have Uz:=jF.fF;have lV:xf n:=s0.get 12;have hs:=aj.init w0;refine FF.1 λ_=>?_;refine gY (Q:=λK=> ∀w X aH n',Sn w0 own w X aH n'->n'.nb=n.nb->n'.db=n.db->gD (k+1) (N+o.m.seen.length) n'->ahW (.up n) o .zero (.up n')->K w X) ?_ λK hK=>?_
 ·intro w1 X1 ij n1 s1 e1 e2 h1 h2;clear hs;have hs:=s1.rf;repeat' refine ao ?_;intros
  exact s1.t.fin λwa oZ=>⟨ij,.up n1,.zero,s1.e,⟨s1.h.kp s1.x oZ|>λh=>by rw[h1.ok.dM];exact h,by rw[h1.ok.dM];exact e2⟩,h1.ok.out,by show gD _ _ (dM n1);rw[h1.ok.dM];exact h1,by show _=dA #[ptr n1.nb 0,.agg #[n1.vm,n1.va],_];rw[e1,h1.ok.vm,h1.ok.va],h2⟩
 ·by_cases k1:o.kind=1
  ·repeat' refine aN ?_;intros
   refine s0.call (Lr s0.h s0.x jF.ok YO.po xD ⟨Uz.1,by omega⟩) kQ λv w1 X1 ij n' s1 q _=>?_;obtain⟨n1,⟨hC,_⟩,rfl,rfl,hO⟩:=q;have q1:=hO.om.one;have q2:=hO.oa.one;have l8:n1.nb=n.nb/\n1.db=n.db:=by obtain⟨_,_,_,_,_,_,_,_,_,rfl,_⟩:=hC;exact⟨rfl,rfl⟩
   clear hs;have hs:=s1.rf;repeat' refine ao ?_;intros
   exact s1.t.fin λwa oZ=>⟨ij,.up n1,iu n,s1.e,⟨s1.h.kp s1.x oZ,l8.2⟩,hO.mv (yD s1.x oZ),(jF.call hC zQ).up (aq _) zQ (ke _ _),by show _=dA #[ptr n1.nb 0,.agg #[n1.vm,n1.va],_];rw[l8.1],.inl ⟨k1,rfl,n1,rfl,hC⟩⟩
  by_cases k2:o.kind=2
  ·obtain⟨pre,sg,Pu,_⟩:=jF.log;repeat' refine aN ?_;intros
   refine s0.ajn (L5 s0.h s0.x Pu YO.m jF.ok hN ni AG) kQ (λv w1 X1 ij n' s1 q _=>?_) λw1 X1 ij m' s1 hF=>?_
   ·obtain⟨n1,hC,rfl,rfl,hO⟩:=q;have q1:=hO.om.one;have q2:=hO.oa.one;have l8:=hC.nb;clear hs;repeat' refine ao ?_;intros
    exact s1.t.fin λwa oZ=>⟨ij,.up n1,.zero,s1.e,⟨s1.h.kp s1.x oZ,l8.db⟩,hO.mv (yD s1.x oZ),jF.step lV hC zQ,by show _=dA #[ptr n1.nb 0,.agg #[n1.vm,n1.va],_];rw[l8.nb],.inr (.inl ⟨k2,rfl,.inl ⟨n1,rfl,hC⟩⟩)⟩
   ·clear hs;repeat' refine ao ?_;intros
    exact s1.t.fin λwa oZ=>⟨ij,.dn n.nb m' (adN n o.m),.zero,s1.e,s1.h.kp s1.x oZ,trivial,jF.aog hF zQ,rfl,.inr (.inl ⟨k2,rfl,.inr ⟨m',rfl,hF⟩⟩)⟩
  by_cases k3:o.kind=3
  ·repeat' refine aN ?_;intros
   refine s0.call (L7 s0.h s0.x jF.ok) kQ λv w1 X1 ij n' s1 q _=>?_;obtain⟨n1,hC,rfl,rfl,hO⟩:=q;have q1:=hO.om.one;have q2:=hO.oa.one;have l8:=hC.nb;clear hs;have hs:=s1.rf;repeat' refine ao ?_;intros
   exact s1.t.fin λwa oZ=>⟨ij,.up n1,.zero,s1.e,⟨s1.h.kp s1.x oZ,l8.2⟩,hO.mv (yD s1.x oZ),(jF.tick lV hC zQ).up (aq _) zQ (ke _ _),by show _=dA #[ptr n1.nb 0,.agg #[n1.vm,n1.va],_];rw[l8.1],.inr (.inr (.inl ⟨k3,rfl,n1,rfl,hC⟩))⟩
  by_cases k4:o.kind=4
  ·repeat' refine aN ?_;intros
   refine s0.call (OP (z:=o.n) s0.h s0.x hn) kQ λv w1 X1 ij n' s1 ⟨_,q⟩ _=>?_;subst q;exact hK _ _ ij _ s1 rfl rfl ((jF.lL o.n).up (dc _) zQ (ke _ _)) (.inr (.inr (.inr (.inl ⟨k4,rfl,rfl⟩))))
  by_cases k5:o.kind=5
  ·repeat' refine aN ?_;intros
   refine s0.kst.FB (N:=N+o.m.seen.length) YO.p jF.crs zQ λa w1 X1 ij n' s1 e1 ha haa hB sT=>?_;subst ha;clear hs;have hs:=s1.rf;repeat' refine aN ?_;intros
   exact s1.t.fin λwa oZ=>⟨ij,.up n',.zero,s1.e,⟨s1.h.kp s1.x oZ|>λh=>by rw[sT.ok.dM];exact h,by rw[sT.ok.dM];exact e1⟩,sT.ok.out,by show gD _ _ (dM n');rw[sT.ok.dM];exact sT.up (aq _) zQ (aq _),by show _=dA #[ptr n'.nb 0,.agg #[n'.vm,n'.va],_];rw[sT.ok.vm,sT.ok.va],.inr (.inr (.inr (.inr (.inl ⟨k5,rfl,n',rfl,hB⟩))))⟩
  ·repeat' refine aN ?_;intros
   all_goals exact hK _ _ own n s0 rfl rfl (jF.up (dc _) zQ (ke _ _)) (.inr (.inr (.inr (.inr (.inr ⟨by omega,rfl,rfl⟩)))))
theorem adS {o:iV} {nb:Nat} {P:lK->Prop} {vk vs vw vp vr vc vh vd vo vq:Value} {k N:Nat} (h:V6 w own nb db m) (hX:sK own X) (jz:DnS k P m) (ho:o.at w (bR own 4) vk vs vw vp vr vc vh vd vo vq) (hn:o.n<2^63) (hk:k<=180):
  Ct pg 12 #[ptr db 0,ptr nb 0,.agg (o.l vk vs vw vp vr vc vh vd vo vq).toArray] w X (gB own) λv wa w'=>adQ own wa w' db (.dn nb m P) o (k+1) (N+o.m.seen.length) v:=by
 intro w0 iw;have s0:=St.init h hX iw;have YO:o.at w0 (bR own 4) vk vs vw vp vr vc vh vd vo vq:=by
  have m:=yD hX iw;exact⟨ho.m.mv m,ho.po.mv m,ho.p.mv m⟩
 clear h hX iw ho;have KU:Hk w0 (bV w0) nb:=s0.zO 1;have hs:=aj.init w0;have sS: ∀{w1 X1 ij},St w0 own w1 X1 ij (Uo nb db m)->o.kind≠5->aG.fin (vR (gB own) w0 λv w'=>adQ own w0 w' db (.dn nb m P) o (k+1) (N+o.m.seen.length) v) X1 w1 (.tuple #[ptr nb 0,.agg #[bf,bf],.agg #[I 0,I 0,I 0]]):=λs1 Dh=>
  s1.t.fin λwa oZ=>⟨_,.dn nb m P,.zero,s1.e,s1.h.kp s1.x oZ,trivial,jz.up (dc _),rfl,.inr ⟨Dh,rfl,rfl⟩⟩
 refine FF.1 λ_=>?_;refine gY (Q:=λK=> ∀w X ij,St w0 own w X ij (Uo nb db m)->o.kind≠5->K w X) ?_ λK hK=>?_
 ·intro w1 X1 ij s1 Dh;clear hs;have hs:=s1.rf;repeat' refine ao ?_;intros
  exact sS s1 Dh
 ·by_cases k1:o.kind=1
  ·repeat' refine aN ?_;intros
   refine eT (Vo KU YO.po.one) kQ hs.has λw1 X1 aC=>?_;have s1:=s0.since aC;clear hs aC;have hs:=s1.rf;repeat' refine ao ?_;intros
   exact sS s1 zQ
  by_cases k2:o.kind=2
  ·repeat' refine aN ?_;intros
   refine eT (Vp KU YO.m) kQ hs.has λw1 X1 aC=>?_;have s1:=s0.since aC;clear hs aC;have hs:=s1.rf;repeat' refine ao ?_;intros
   exact sS s1 zQ
  by_cases k3:o.kind=3
  ·repeat' refine aN ?_;intros
   refine eT (Vq KU) kQ hs.has λw1 X1 aC=>?_;have s1:=s0.since aC;clear hs aC;have hs:=s1.rf;repeat' refine ao ?_;intros
   exact sS s1 zQ
  by_cases k4:o.kind=4
  ·repeat' refine aN ?_;intros
   refine s0.call (aaZ (z:=o.n) s0.h s0.x hn jz.1) kQ λv w1 X1 ij m' s1 ⟨_,q⟩ _=>?_;subst q;exact hK _ _ _ s1 zQ
  by_cases k5:o.kind=5
  ·repeat' refine aN ?_;intros
   refine s0.aqn.FB (N:=N+o.m.seen.length) YO.p jz.2 zQ λa w1 X1 ij n' s1 e1 ha haa hB sT=>?_;clear hs;have hs:=s1.rf;repeat' refine aN ?_;intros
   exact s1.t.fin λwa oZ=>⟨ij,.up n',.zero,s1.e,⟨s1.h.kp s1.x oZ|>λh=>by rw[sT.ok.dM];exact h,by rw[sT.ok.dM];exact e1⟩,sT.ok.out,by show gD _ _ (dM n');rw[sT.ok.dM];exact sT.up (aq _) zQ (aq _),by show _=dA #[ptr n'.nb 0,.agg #[n'.vm,n'.va],_];rw[sT.ok.vm,sT.ok.va],.inl ⟨k5,rfl,n',a,rfl,ha,haa,hB⟩⟩
  ·repeat' refine aN ?_;intros
   all_goals exact hK _ _ _ s0 k5
theorem afS {s:CS} {o:iV} {vk vs vw vp vr vc vh vd vo vq:Value} {k N:Nat} (h:CS.Is w own db s) (hX:sK own X) (jF:CS.Ok k N s) (ho:o.at w (bR own 4) vk vs vw vp vr vc vh vd vo vq) (ni:o.m.small) (AG:o.m.lens<=2^62) (xD:o.prog.length<=2^30) (hn:o.n<2^63) (hk:k<=180) (hN:N+o.m.seen.length<=2^20):
  Ct pg 12 #[ptr db 0,ptr s.nb 0,.agg (o.l vk vs vw vp vr vc vh vd vo vq).toArray] w X (gB own) λv wa w'=>adQ own wa w' db s o (k+1) (N+o.m.seen.length) v:=by
 cases s with
 |up n=>
  obtain⟨h1,rfl⟩:=h;exact adR h1 hX jF ho ni AG xD hn hk hN
 |dn nb m P=>exact adS h hX jF ho hn hk
end
structure sN where
 e:Int
 t:bH
 st:bN
 on:Bool
 vs:Value
abbrev sN.l (a:sN):List Value:=D6 a.e a.t a.st a.on a.vs
def yZ (t:bH) (sa:List sN):Nat:=(sa.filter λa=>decide (a.t=t)).length
theorem YP (t:bH):yZ t []=0:=rfl
theorem YQ (t:bH) (a b:List sN):yZ t (a++b)=yZ t a+yZ t b:=by grind [yZ]
theorem Je (t:bH) (a:sN):yZ t [a]=if a.t=t then 1 else 0:=by grind [yZ]
def jm (n n1:bt) (sa:List sN):Prop:=n1.ra=n.ra++sa.map sN.l/\ ∀a∈sa,aG.one a.vs=true
def Acc (d:Int) (n n1:bt) (sa:List sN) (t:bH):Prop:=
 (∃b,getM t n.al=some b/\((getM t n1.al=some b/\(n.A b).x.kn+d<=(n1.A b).x.kn/\yZ t sa=0)\/(getM t n1.al=none/\yZ t sa=1)))\/(getM t n.al=none/\getM t n1.al=none/\yZ t sa=0)
section
variable {n n1 n2 n' : bt} {k k' N N' : Nat}
theorem Acc.del {d:Int} {a:sN} {t0:bH} {b0:Nat} (ha:a.t=t0) (hb:getM t0 n.al=some b0) (h1:n1.al=jL t0 n.al) (h2: ∀t b,getM t n.al=some b->t≠t0->(n.A b).x.kn+d<=(n1.A b).x.kn) (t:bH):Acc d n n1 [a] t:=by
 unfold Acc;rw[Je,ha,h1];by_cases e:t=t0
 ·subst e;exact .inl ⟨b0,hb,.inr ⟨Cs,if_pos rfl⟩⟩
 ·rw[xP e,if_neg (λe'=>e e'.symm)];cases hg:getM t n.al with
  |none=>grind
  |some b=>exact .inl ⟨b,rfl,.inl ⟨rfl,h2 t b hg e,rfl⟩⟩
theorem Acc.none {d:Int} (h1:n1.al=n.al) (h2: ∀t b,getM t n.al=some b->(n.A b).x.kn+d<=(n1.A b).x.kn) (t:bH):Acc d n n1 [] t:=by
 unfold Acc;rw[h1,YP];cases hg:getM t n.al with
 |none=>grind
 |some b=>exact .inl ⟨b,rfl,.inl ⟨rfl,h2 t b hg,rfl⟩⟩
theorem Acc.trans {d e:Int} {sa bs:List sN} {t:bH} (h:Acc d n n1 sa t) (q:Acc e n1 n2 bs t):Acc (d+e) n n2 (sa++bs) t:=by
 unfold Acc at*;rw[YQ];rcases h with⟨b,hb,⟨h1,h2,h3⟩|⟨h1,h3⟩⟩|⟨hb,h1,h3⟩
 ·refine .inl ⟨b,hb,?_⟩
  grind
 ·simp_all
 simp_all
theorem jm.trans {sa bs:List sN} (h:jm n n1 sa) (q:jm n1 n2 bs):jm n n2 (sa++bs):=
 ⟨by rw[q.1,h.1,aJ,List.append_assoc],λa ha=>(List.mem_append.1 ha).elim (h.2 a) (q.2 a)⟩
theorem jm.no (h:n1.ra=n.ra):jm n n1 []:=⟨by rw[h];simp,λa ha=>absurd ha sQ⟩
theorem jm.one {a:sN} (h:n1.ra=n.ra++[a.l]) (ho:aG.one a.vs=true):jm n n1 [a]:=⟨by rw[h];rfl,λb hb=>by grind⟩
theorem zH.acc {p:List jr} (h:zH n p n1) (uR:n.ra=[]): ∃sa,jm n n1 sa/\ ∀t,t≠iu n->Acc 0 n n1 sa t:=by
 obtain⟨xb,gn,D9,vm,va,rm,ra,ms,d,rfl,Oz,hc⟩:=h;have hA: ∀t b,getM t n.al=some b->(n.A b).x.kn+0<=(if b=xb then d else n.A b).x.kn:=λt b hg=>by grind
 have none: ∀{sa:List sN},(∀t,t≠iu n->getM t D9=getM t n.al)->(∀t,t≠iu n->yZ t sa=0)-> ∀t,t≠iu n->Acc 0 n { n with c:= { n.c with fF:=n.c.fF+1 },ck:=gn,al:=D9,vm:=vm,va:=va,rm:=rm,ra:=ra,ms:=ms,A:=λb=>if b=xb then d else n.A b } sa t:=λhe hn t ht=>by
  unfold Acc;rw[hn t ht];dsimp only;rw[he t ht];cases hg:getM t n.al with
  |none=>exact .inr ⟨rfl,rfl,rfl⟩
  |some b=>exact .inl ⟨b,rfl,.inl ⟨rfl,hA t b hg,rfl⟩⟩
 rcases hc with⟨a,rfl,_,rfl,hc⟩|⟨rfl,rfl,_⟩
 ·have aG.one: ∀a:sN,a.t=iu n-> ∀t,t≠iu n->yZ t [a]=0:=λa ha t ht=>by rw[Je,ha,if_neg λe=>ht e.symm]
  rcases hc with⟨e,_,rfl⟩|⟨st,vs,hv,rfl⟩
  ·exact⟨[⟨e,iu n,.zero,false,bf⟩],jm.one (by rw[uR];rfl) rfl,none (λt ht=>xP ht) (aG.one _ rfl)⟩
  ·exact⟨[⟨0,iu n,st,true,vs⟩],jm.one (by rw[uR];rfl) hv,none (λt ht=>xP ht) (aG.one _ rfl)⟩
 ·exact⟨[],jm.no uR.symm,none (λt ht=>od ht) λ_ _=>rfl⟩
theorem Gr.acc {m:bZ} {pp:Bool} (h:Gr n m pp n1): ∃sa,jm n n1 sa/\ ∀t,Acc 0 n n1 sa t:=by
 obtain⟨b,gn,sJ,ki,qP,hb,hp,hc,rfl⟩:=h;exact⟨[⟨m.code,m.aR,.zero,false,bf⟩],jm.one rfl rfl,Acc.del rfl hb rfl λt b _ _=>by grind⟩
theorem Px {gn:bN} : ∃sa,jm n { n with ck:=gn } sa/\ ∀t,Acc 0 n { n with ck:=gn } sa t:=
 ⟨[],jm.no rfl,Acc.none rfl λt b _=>by grind⟩
theorem QN.acc {m:bZ} (lV:xf n) (h:QN n m n1): ∃sa,jm n n1 sa/\ ∀t,Acc 0 n n1 sa t:=by
 rcases h with⟨gn,rfl⟩|hg|⟨b,i,y,gn,yC,jK,mf,n2,hw,rfl,hc⟩
 ·exact Px
 ·exact hg.acc
 ·obtain⟨N1,hN1⟩: ∃N1:bt,N1= { dN n b (wY (n.A b) i m yC jK mf)with ck:=gn } :=⟨_,rfl⟩;rw[<-hN1] at hc;have hA: ∀b',(N1.A b').x.kn=(n.A b').x.kn:=λb'=>by
   rw[hN1]
   show(if b'=b then wY (n.A b) i m yC jK mf else n.A b').x.kn=_
   grind [wY]
  have hxt:(N1.A b).x.aR=m.aR:=by rw[hN1];show((dN n b _).A b).x.aR=_;rw[jj];exact lV _ _ hw.g
  have e1:N1.al=n.al/\N1.ra=n.ra:=by rw[hN1];exact⟨rfl,rfl⟩
  rcases hc with⟨_,rfl⟩|⟨_,n3,hr,rfl⟩
  ·exact⟨[],jm.no e1.2,Acc.none e1.1 λt b' _=>by rw[hA];omega⟩
  ·rcases hr with⟨ki,a,ha,_,_,_,rfl,_⟩|⟨ids,pm,vq,vw2,rw2,cj,mQ,uz,mh,_,_,_,rfl,_⟩
   ·rcases ha with⟨e,_,rfl⟩|⟨vs,hv,rfl⟩
    ·exact⟨[⟨e,(N1.A b).x.aR,.zero,false,bf⟩],jm.one (by rw[<-e1.2]) rfl,Acc.del hxt hw.g (by show jL _ N1.al=_;rw[hxt,e1.1]) λt b' _ _=>by show _<=(N1.A b').x.kn;rw[hA];omega⟩
    ·exact⟨[⟨0,(N1.A b).x.aR,(N1.A b).x.st,true,vs⟩],jm.one (by rw[<-e1.2]) hv,Acc.del hxt hw.g (by show jL _ N1.al=_;rw[hxt,e1.1]) λt b' _ _=>by show _<=(N1.A b').x.kn;rw[hA];omega⟩
   ·refine⟨[],jm.no e1.2,Acc.none e1.1 λt b' _=>?_⟩
    show(n.A b').x.kn+0<=(if b'=b then _ else N1.A b').x.kn
    have:=hA b'
    grind
theorem Np.acc {m:bZ} (h:Np n m n1): ∃sa,jm n n1 sa/\ ∀t,Acc 0 n n1 sa t:=by
 rcases h with⟨gn,rfl,_⟩|hg|⟨b,i,y,gn,jK,mf,n2,hw,rfl,hc⟩
 ·exact Px
 ·exact hg.acc
 ·have L8: ∀b',(n.A b').x.kn+0<=((dN n b (tt (n.A b) i m jK mf)).A b').x.kn:=λb'=>by
   show _<=(if b'=b then tt (n.A b) i m jK mf else n.A b').x.kn
   grind [tt]
  rcases hc with⟨_,rfl⟩|⟨_,⟨_,_,ki,sJ,qP,rfl,_⟩|⟨_,bx,B3,vp,v2,ki,vs,hv,_,sJ,qP,rfl,_⟩⟩
  ·exact⟨[],jm.no rfl,Acc.none rfl λt b' _=>L8 b'⟩
  ·exact⟨[⟨_,m.aR,.zero,false,bf⟩],jm.one rfl rfl,Acc.del rfl hw.g rfl λt b' _ _=>L8 b'⟩
  ·exact⟨[⟨0,m.aR,_,false,vs⟩],jm.one rfl hv,Acc.del rfl hw.g rfl λt b' _ _=>L8 b'⟩
theorem yv.acc {m:bZ} (lV:xf n) (h:yv n m n1): ∃sa,jm n n1 sa/\ ∀t,Acc 0 n n1 sa t:=by
 have same: ∃sa,jm n n sa/\ ∀t,Acc 0 n n sa t:=Px (gn:=n.ck);rcases h with⟨_,rfl⟩|⟨_,_,⟨_,h⟩|⟨_,h⟩|⟨_,h⟩|⟨_,h⟩|⟨_,_,_,_,rfl⟩⟩
 ·omega
 ·exact h.acc lV
 ·exact h.acc
 ·rcases h with rfl|⟨_,_,_,_,⟨_,rfl⟩|⟨_,_,rfl⟩⟩
  ·omega
  all_goals exact⟨[],jm.no rfl,Acc.none rfl λt b _=>by show(n.A b).x.kn+0<=(n.A b).x.kn;omega⟩
 ·rcases h with⟨_,rfl⟩|⟨_,_,_,rfl,_⟩
  ·omega
  assumption
 omega
theorem vG.acc {t0:bH} (h:vG n t0 n1): ∃sa,jm n n1 sa/\ ∀t,Acc (if t=t0 then 1 else 0) n n1 sa t:=by
 obtain⟨b0,vT,_,hc⟩:=h;have L8: ∀b',(n.A b').x.kn+(if b'=b0 then 1 else 0)=((dN n b0 (qo (n.A b0))).A b').x.kn:=λb'=>by
  show _=(if b'=b0 then qo (n.A b0)else n.A b').x.kn
  grind [qo]
 have hz: ∀b',(n.A b').x.kn<=((dN n b0 (qo (n.A b0))).A b').x.kn:=λb'=>by rw[<-L8];split<;>omega
 rcases hc with⟨_,_,_,_,rfl,_⟩|⟨_,_,_,rfl,_⟩
 ·refine⟨[⟨25,t0,.zero,false,bf⟩],jm.one rfl rfl,λt=>?_⟩;by_cases e:t=t0
  ·subst e;exact .inl ⟨b0,vT,.inr ⟨Cs,by rw[Je,if_pos rfl]⟩⟩
  ·rw[if_neg e];exact Acc.del rfl vT rfl (λt b _ _=>by have:=hz b;show _<=((dN n b0 (qo (n.A b0))).A b).x.kn;omega) t
 ·refine⟨[],jm.no rfl,λt=>?_⟩;by_cases e:t=t0
  ·subst e;exact .inl ⟨b0,vT,.inl ⟨vT,by rw[if_pos rfl,<-L8,if_pos rfl];omega,rfl⟩⟩
  ·rw[if_neg e];exact Acc.none (by rfl) (λt b _=>by have:=hz b;show _<=((dN n b0 (qo (n.A b0))).A b).x.kn;omega) t
theorem Acc.less {d e:Int} {sa:List sN} {t:bH} (h:Acc d n n1 sa t) (hd:e<=d):Acc e n n1 sa t:=by
 rcases h with⟨b,hb,⟨h1,h2,h3⟩|h⟩|h
 ·exact .inl ⟨b,hb,.inl ⟨h1,by omega,h3⟩⟩
 ·exact .inl ⟨b,hb,.inr h⟩
 ·exact .inr h
theorem ou.acc: ∀{ts:List bH} {n n1:bt},ou ts n n1-> ∃sa,jm n n1 sa/\ ∀t,Acc (if t∈ts then 1 else 0) n n1 sa t
 |[],n,n1,h=>by
  have:n1=n:=h;subst this;exact⟨[],jm.no rfl,λt=>by rw[if_neg sQ];grind [Acc.none]⟩
 |t0::ts,n,n1,⟨n2,h1,h2⟩=>by
  obtain⟨a,a1,a2⟩:=h1.acc;obtain⟨b,b1,b2⟩:=ou.acc h2;refine⟨a++b,a1.trans b1,λt=>((a2 t).trans (b2 t)).less ?_⟩
  grind
theorem zI.acc (h:zI n n1): ∃sa,jm n n1 sa/\ ∀t,Acc 1 n n1 sa t:=by
 obtain⟨ts,n2,hp,h1,h2⟩:=h;obtain⟨sa,a1,a2⟩:=h1.acc;obtain⟨_,_,b3,b4,b5⟩:=h2.calm;refine⟨sa,⟨b5.trans a1.1,a1.2⟩,λt=>?_⟩;have q:=a2 t;unfold Acc at q⊢;rw[b3,b4];rcases q with⟨b,hb,q⟩|q
 ·have:t∈ts:=hp.mem_iff.2 (List.mem_map.2 ⟨(t,b),gK hb,rfl⟩);simp_all
 grind
theorem LD.akc {n:Nat} {x:LD} (h:GL n x) (r:Rec):(x.iG r.fB.toNat (fZ r)).2.2≠12/\GL (n+2) (x.iG r.fB.toNat (fZ r)).1:=by
 rcases r.xO with e|e|e|e<;>rw[e]
 ·exact h.iG _
 all_goals exact⟨by simp[LD.iG],h.up zQ⟩
theorem gD.gl (h:gD k N n) (hm:lx n.m) (hk:k<=250):GL 300 ⟨n.L,n.m⟩:=by
 obtain⟨pre,sg,h1,h2,h3,h4⟩:=h.log;have hB:=h1.adu;have hN:=h1.adv;have hs:n.L.bu=pre++[sg]:=h1.bu;refine⟨hm,by grind,h1.d1,h1.d2,λt ht=>⟨?_,?_⟩,?_,by omega⟩
 ·have ht:t∈pre++[sg]:=hs▸ht;have:=gC.top h1.g.lk h2.fst t ht;have:=h2.lens.2;omega
 ·grind
 omega
theorem gD.Rp (h:gD k N n) (hm:lx n.m) (hk:k<=250) (r:Rec):(jG n r).2.2≠12/\lx (jG n r).1.m:=
 let q:=LD.akc (h.gl hm hk) r
 ⟨q.1,q.2.ok⟩
theorem gD.stays {m:bZ} {m':DM} (h:gD k N n) (hm:lx n.m) (hk:k<=250) (hs:Ja n m m'):False:=by
 obtain⟨_,_,⟨_,b,i,y,hw,hl,xJ,_⟩|⟨_,b,i,hD,hl,xJ,_⟩⟩:=hs
 ·exact(h.Rp hm hk _).1 xJ
 ·exact(h.Rp hm hk _).1 xJ
theorem gD.aoh {m:bZ} (h:gD k N n) (hm:lx n.m) (hk:k<=250) (hs:yv n m n1):lx n1.m:=by
 rcases hs with⟨_,rfl⟩|⟨_,_,⟨_,h1⟩|⟨_,h1⟩|⟨_,h1⟩|⟨_,h1⟩|⟨_,_,_,_,rfl⟩⟩
 ·exact hm
 ·rcases h1 with⟨gn,rfl⟩|⟨b,gn,sJ,ki,qP,hb,hp,hc,rfl⟩|⟨b,i,y,gn,yC,jK,mf,n2,hw,rfl,⟨_,rfl⟩|⟨_,n3,⟨ki,a,_,_,_,_,rfl,_⟩|⟨ids,pm,vq,vw2,rw2,cj,mQ,uz,mh,_,_,_,rfl,_⟩,rfl⟩⟩;all_goals exact hm
 ·rcases h1 with⟨gn,rfl,_⟩|⟨b,gn,sJ,ki,qP,hb,hp,hc,rfl⟩|⟨b,i,y,gn,jK,mf,n2,hw,rfl,⟨_,rfl⟩|⟨_,⟨_,_,ki,sJ,qP,rfl,_⟩|⟨_,bx,B3,vp,v2,ki,vs,hv,_,sJ,qP,rfl,_⟩⟩⟩
  ·exact hm
  ·exact hm
  ·exact hm
  all_goals exact(h.Rp hm hk _).2
 ·rcases h1 with rfl|⟨_,_,_,_,⟨_,rfl⟩|⟨_,_,rfl⟩⟩
  ·exact hm
  ·exact hm
  ·exact(h.Rp hm hk _).2
 ·rcases h1 with⟨_,rfl⟩|⟨_,_,_,rfl,_⟩<;>exact hm
 omega
end
section
variable {w w' wa w0 : World} {X X' G K K' F T T' : XS} {own aH bM : Nat -> Nat} {n n' : bt} {b : Nat} {t0 : bH} {db : Nat} {m : DM} {s s' : CS}
theorem _root_.Go.aG.Hs.Rq {F:Nat->qm} (h:Hs F w own) (e: ∀k,own k≠0->aH k=own k) (hl: ∀k,aH k≠0->k<w.heap.size):Hs F w aH:=
 ⟨λc h0 h4=>(F c).mv (h.gA c h0 h4) (Mv.sub λk (hk:own k=4)=>(e k zQ).trans hk) (Mv.sub λk (hk:own k=c)=>(e k zQ).trans hk),hl⟩
theorem CS.Is.mv (h:CS.Is w own db s) (hb: ∀k,own k≠0->w'.heap[k]? =w.heap[k]?) (hz:w.heap.size<=w'.heap.size):CS.Is w' own db s:=by
 cases s with
 |up n=>exact⟨h.1.mv hb hz,h.2⟩
 |dn nb m P=>exact Hs.mv h hb hz
theorem CS.Is.lt (h:CS.Is w own db s): ∀k,own k≠0->k<w.heap.size:=by
 cases s with
 |up n=>exact h.1.lt
 |dn nb m P=>exact Hs.lt h
theorem CS.Is.Rq (h:CS.Is w own db s) (e: ∀k,own k≠0->aH k=own k) (hl: ∀k,aH k≠0->k<w.heap.size):CS.Is w aH db s:=by
 cases s with
 |up n=>exact⟨h.1.Rq e hl,h.2⟩
 |dn nb m P=>exact Hs.Rq h e hl
structure LS (w0:World) (bM:Nat->Nat) (T:XS) (w:World) (X:XS) (own:Nat->Nat) (db:Nat) (s:CS):Prop where
 t:Ft w0 (gB bM) w X (λk=>gB own k\/T k)
 h:CS.Is w own db s
 x: ∀k,own k≠0->X k
 e:Cr bM own w0.heap.size
 tz: ∀k,T k->own k=0
theorem LS.has (s':LS w0 bM T w X own db s): ∀k,X k->k<w.heap.size:=s'.t.s.has
theorem LS.rf (s':LS w0 bM T w X own db s):aj X w X w:=aj.fT s'.has
theorem LS.since (q:LS w0 bM T w X own db s) (hs:aj X w X' w'):LS w0 bM T w' X' own db s:=
 ⟨q.t.since hs,q.h.mv (λk hk=>hs.kp.block k (q.x k hk)) hs.kp.size,λk hk=>hs.sub k (q.x k hk),q.e,q.tz⟩
theorem LS.call {P:Program} {f:FuncId} {args:Array Value} {R:Ending->World->Prop} {N:Value->World->XS->Prop} {Q:Value->World->(Nat->Nat)->CS->Prop} (q:LS w0 bM T w X own db s) (h:Ct P f args w X (gB own) λv wa w'=> ∃aH s1,Cr own aH wa.heap.size/\CS.Is w' aH db s1/\Q v w' aH s1) (hf:enters P f=true)
  (k: ∀v w' X' aH s1,LS w0 bM T w' X' aH db s1->Q v w' aH s1->Mv T w T w'->Mv (bR own 4) w (bR aH 4) w'->N v w' X'):eC P R X w true f args N:=
 q.t.call h hf (λ_ h=>.inl h) λv wa w' X' hq hle gy hT c=>by
  obtain⟨aH,s1,e,h',hQ⟩:=hq;have hz:=q.t.s.kp.size;have hx: ∀k,aH k≠0->X' k:=λk hk=>by
   by_cases AU:k<wa.heap.size
   ·exact c.sub k (q.x k λe0=>hk ((e k AU).1 e0))
   ·exact gy k ⟨by omega,h'.lt k hk⟩
  have hTX: ∀k,T k->X k:=λk hk=>q.t.br k (.inr hk);have L4: ∀k,T k->aH k=0:=λk hk=>(e k (av (q.has k (hTX k hk)) hle)).1 (q.tz k hk);refine k v w' X' aH s1 ⟨hT.more λk hk=>?_,h',hx,λk hk=>?_,L4⟩ hQ (λk hk _=>⟨hk,c.block k (hTX k hk) λh=>h.1 (q.tz k hk)⟩) λk (hk:own k=4) _=>⟨(e k (av (q.has k (q.x k zQ)) hle)).2 hk,c.block k (q.x k zQ) λh=>h.2 hk⟩
  ·rcases hk with hk|hk
   ·by_cases AU:k<wa.heap.size
    ·exact .inl (.inl (.inl ⟨λe0=>hk.1 ((e k AU).1 e0),λe0=>hk.2 ((e k AU).2 e0)⟩))
    ·exact .inr ⟨hx k hk.1,by omega⟩
   ·exact .inl (.inl (.inr hk))
  ·have h1:=q.e k hk;have h2:=e k zQ;exact⟨λe0=>h2.1 (h1.1 e0),λe0=>h2.2 (h1.2 e0)⟩
theorem LS.vB (q:LS w0 bM T w X own db s) (hK: ∀k,K k->X k/\w0.heap.size<=k/\own k=0/\ ¬T k): ∃aH,LS w0 bM T w X aH db s/\(∀k,K k->aH k=4)/\ ∀k,own k=4->aH k=4:=by
 classical
 have c0: ∀k,own k≠0->(if K k then 4 else own k)=own k:=λk hk=>if_neg λe=>hk (hK k e).2.2.1;have hx: ∀k,(if K k then 4 else own k)≠0->X k:=λk hk=>by
  by_cases e:K k
  ·exact(hK k e).1
  ·rw[if_neg e] at hk;exact q.x k hk
 refine⟨λk=>if K k then 4 else own k,⟨q.t.more λk hk=>.inl ?_,q.h.Rq c0 λk hk=>q.has k (hx k hk),hx,λk hk=>?_,λk hk=>?_⟩,λk hk=>if_pos hk,λk hk=>(c0 k zQ).trans hk⟩
 ·rcases hk with hk|hk
  ·have hk:(if K k then 4 else own k)≠0/\(if K k then 4 else own k)≠4:=hk;by_cases e:K k
   ·rw[if_pos e] at hk;exact absurd rfl hk.2
   ·rw[if_neg e] at hk;exact .inl hk
  ·exact .inr hk
 ·have h1:=q.e k hk;have: ¬K k:=λe=>by have:=(hK k e).2.1;omega
  exact⟨λe=>(if_neg this).trans (h1.1 e),λe=>(if_neg this).trans (h1.2 e)⟩
 ·exact(if_neg λe=>(hK k e).2.2.2 hk).trans (q.tz k hk)
theorem LS.amd (q:LS w0 bM T w X own db s) (c:eh T X w X' w') (hT: ∀k,T' k->T k\/(X' k/\w.heap.size<=k)):LS w0 bM T' w' X' own db s:=by
 refine⟨q.t.eo c (λk hk=>.inr hk) λk hk=>?_,q.h.mv (λk hk=>c.block k (q.x k hk) λe=>hk (q.tz k e)) c.size,λk hk=>c.sub k (q.x k hk),q.e,λk hk=>?_⟩
 ·rcases hk with hk|hk
  ·exact .inl (.inl hk)
  ·exact(hT k hk).imp .inr id
 ·rcases hT k hk with e|e
  ·exact q.tz k e
  ·exact eH λe'=>by have:=q.h.lt k e';omega
theorem ame {P:Program} {f:FuncId} {args:Array Value} {F F':XS} {Q:Value->World->World->Prop} (h:Ct P f args w X F Q) (hF: ∀k,F k->F' k):Ct P f args w X F' Q:=λwa hk=>(h wa hk).mono λ_ _ ⟨v,he,hf,hq⟩=>⟨v,he,hf.mono hF,hq⟩
theorem abR {R:Ending->World->Prop} {N:Value->World->XS->Prop} (hk:Kp X w w0) (k: ∀db w1 X1 ij,St w0 (λ_=>0) w1 X1 ij (Un db ⟨[],0,0,false⟩)->N (ptr db 0) w1 X1):eC pg R (bV w0) w0 true 35 #[] N:=by
 have s:St w0 (λ_=>0) w0 (bV w0) (λ_=>0) (λ_=>Q8):=St.init (w:=w) (X:=X) ⟨λ_ _ _=>trivial,λk h=>absurd rfl h⟩ (λk h=>absurd rfl h) hk;refine cA adT kQ s.has ?_;rintro _ wa w1 X1 ⟨db,rfl,hD⟩ hle gy aC;obtain⟨ij,s1,-,-⟩:=(s.since aC).IL (N:=made wa w1) 3 (dkR db ⟨[],0,0,false⟩) (λk hk=>⟨gy k hk,s.nw (ad hle hk.1)⟩) λ_=>hD;exact k db w1 X1 ij (s1.to λc h0 h4 w K A h=>by rcases c with _|_|_|_|c<;>first|exact h|trivial)
theorem aa0:Ct pg 11 #[] w X nX λv wa w'=> ∃aH n,(∀k,aH k≠0->made wa w' k)/\jb w' aH n/\v= .tuple #[ptr n.db 0,ptr n.nb 0]/\gD 1 0 n/\Ro (0,[]) n:=by
 have key:Ct pg 11 #[] w X (gB λ_=>0) λv wa w'=> ∃aH n,(∀k,aH k≠0->made wa w' k)/\jb w' aH n/\v= .tuple #[ptr n.db 0,ptr n.nb 0]/\gD 1 0 n/\Ro (0,[]) n:=by
  intro w0 hk;refine Mp.1 λ_=>?_;refine abR hk λdb w1 X1 ij s1=>?_;have hs:=s1.rf;repeat' refine ao ?_;intros
  refine cA Mo kQ s1.has ?_;rintro vl wb w2 X2 lv mq kW bm;obtain⟨nE,s3,-,-,p4⟩:=(s1.since bm).vB (N:=made wb w2) λq hq=>⟨kW q hq,s1.nw (ad mq hq.1)⟩;obtain⟨x,hB,_⟩:=ajo;refine s3.call (FC (l:=Ml) s3.h s3.x (lv.mono p4).sl SO (λx hx=>absurd hx sQ) sQ (λn b hb=>absurd hb (by simp[DM.bytes,DM.get,getM])) hB.B1 hB.log hB.uX hB.kp hB.err) kQ λv w' X' aH n' s' ⟨hv,hO⟩ _=>?_;subst hv;have hds:=hO.db;subst hds;clear hs;repeat' refine aN ?_;intros
  exact s'.t.fin λwa oZ=>⟨aH,n',λk hk=>⟨A9 λhl=>hk ((s'.e k hl).1 rfl),av (s'.h.lt k hk) oZ.size⟩,s'.h.kp s'.x oZ,rfl,gD.FB hB (λx hx=>absurd hx sQ) hO adP zQ,⟨hO.abs,hO.fF,hO.al,hO.ds.trans Rn⟩⟩
 exact ame key λk hk=>absurd rfl hk.1
theorem Rr {a:Value} {xs:List iV} (ha:eQ w X 41 a iV.rd xs):
  Ct pg 10 #[a] w X nX λv _ _=> ∃b:Bool,v=B b/\(b=true->xs.length<=120):=by
 intro w0 hk;replace ha:=eQ.mv ha iV.mv hk.cu;have lN:=ha.len;refine Py.1 λhs=>?_
 skip
 refine C8 (λn a b c w X=> ∃(i:Nat) (s:Int),a=I i/\c=I s/\n=xs.length-i/\i<=xs.length/\aj (bV w0) w0 X w) xs.length ⟨0,_,rfl,rfl,rfl,au _,hs⟩ ?_;rintro n a b c w X ⟨i,s,rfl,rfl,rfl,hi,hs⟩;rcases dG (xs) i with⟨cC,x,hx,hd⟩|⟨dH,hd⟩
 ·repeat' first|refine aN ?_;intros|refine dq ?_ ?_<;>intros|(with_reducible apply xT);(case h=>assumption);(case hr=>exact hx);(case hz=>rfl);(case ht=>kernel_rfl);(case hs=>kernel_rfl);intros
  refine cA (Mj (m:=x.m) (bZ.at.mv (iV.at.m aQ) hs.mv)) kQ hs.has ?_;rintro _ wa w X ⟨n1,rfl⟩ hle gy aC;replace hs:=hs.trans aC;repeat' first|refine ao ?_;intros|refine dq ?_ ?_<;>intros|(refine qr ?_;intro wa hk;exact⟨_,rfl,by simp⟩)|(with_reducible apply xT);(case h=>assumption);(case hr=>exact hx);(case hz=>rfl);(case ht=>kernel_rfl);(case hs=>kernel_rfl);intros|with_reducible apply oD
  refine gM (λn a b w X=> ∃(k:Nat) (s:Int),a=I k/\b=I s/\n=x.prog.length-k/\k<=x.prog.length/\aj (bV w0) w0 X w) x.prog.length ⟨0,_,rfl,rfl,rfl,au _,hs⟩ ?_;rintro n a b w X ⟨k,s,rfl,rfl,rfl,JU,hs⟩;rcases dG x.prog k with⟨SB,y,hy,qh⟩|⟨Fm,qh⟩
  ·repeat' first|refine aN ?_;intros|(with_reducible apply xT);(case h=>assumption);(case hr=>exact hx);(case hz=>rfl);(case ht=>kernel_rfl);(case hs=>kernel_rfl);intros|with_reducible apply oD
   exact fK (x.prog.length-(k+1)) zQ ⟨k+1,_,by simp,rfl,rfl,by omega,hs⟩
  ·repeat' first|refine aN ?_;intros|(with_reducible apply xT);(case h=>assumption);(case hr=>exact hx);(case hz=>rfl);(case ht=>kernel_rfl);(case hs=>kernel_rfl);intros
   exact AV (xs.length-(i+1)) zQ ⟨i+1,_,by simp,rfl,rfl,by omega,hs⟩
 ·repeat' first|refine aN ?_;intros|refine dq ?_ ?_<;>intros
  all_goals exact cG hs λwa aL=>⟨_,rfl,λe=>by first|(simp at e;done)|(simp at e;omega)⟩
end
theorem YR {gk:List BA} (h: ∀k∈gk,k∈fj 1 1 B6\/ ∃o∈B6,k=o.key/\(o.code=2\/o.code=3)): ∀k∈gk,k=kEx:=λk hk=>by
 rcases h k hk with e|⟨o,ho,rfl,hc⟩
 ·rw[FE] at e;cases e
 ·rcases List.mem_cons.1 ho with rfl|ho
  ·exact absurd hc dQ
  ·rw[aw] at ho;rw[ho]
theorem abS: ∀gk:List BA,(∀k∈gk,k=kEx)->jc Mm [(1,[kEx])] gk=([(1,[kEx])],0)
 |[],_=>rfl
 |k::r,h=>by
  have hg:iL kEx=true:=by kernel_rfl
  have e:=h k sQ;subst e;unfold jc;rw[if_pos hg,YM];exact abS r λk hk=>h k (by simp[hk])
theorem abT {gk:List BA} (hn:gk≠[]) (h: ∀k∈gk,k=kEx):jc Mm [] gk=([(1,[kEx])],0):=by
 cases gk with
 |nil=>exact absurd rfl hn
 |cons k r=>
  have hg:iL kEx=true:=by kernel_rfl
  have e:=h k sQ;subst e;unfold jc;rw[if_pos hg,YM];exact abS r λk hk=>h k (by simp[hk])
theorem akd {ids:List Int} (h:IV B6 Mm ids):ids=[1]:=by
 obtain⟨gk,hn,hk,_,rfl⟩:=h;rw[abT hn (YR hk)];unfold mV;rw[show([((1:Int),[kEx])].map (·.1))=[1] from rfl,afM];rfl
theorem ahX: ¬Pc B6 Mm:=by
 rintro(⟨e,wl,h,h2⟩|⟨gk,hn,hk,h⟩)
 ·have:=h FE abQ;rw[amb] at this;rcases h2 with h2|h2
  ·exact h2 this.1
  ·rw[this.2,afO] at h2;cases h2
 ·rw[abT hn (YR hk)] at h;exact h rfl
structure ExN (n:bt):Prop where
 id:n.c.id=1
 ba:n.c.ba=1
 fF:n.c.fF=0
 ck:n.ck=⟨0,0,21⟩
 ds:n.ds=Mm
 al:n.al=[]
structure ExC (n1:bt) (xb:Nat) (y:bZ):Prop where
 g:getM Mn n1.al=some xb
 pre:(n1.A xb).x.pre=true
 mR:(n1.A xb).x.mR= .zero
 ids:(n1.A xb).ids=[1]
 ws:(n1.A xb).ws=[y]
 pt:y.range=1
theorem ake {n n1:bt} (h:ExN n) (hC:zH n B6 n1) (hE:QL (tO B6 n.ck 5 n.ds≠0\/Pc B6 n.ds) (IV B6 n.ds) n n1):iu n=Mn/\n1.ra=[]/\ ∃xb y,ExC n1 xb y/\y.kind=3/\n1.ms=[y.qx (20+n.c.id)]:=by
 have ht:iu n=Mn:=by unfold iu;rw[h.id,h.ba,h.fF];rfl
 refine⟨ht,?_⟩;unfold QL at hE;rw[ht,h.ck,h.ds] at hE;obtain⟨xb,gn,D9,vm,va,rm,ra,ms,d,rfl,_,hc⟩:=hC;rcases hc with⟨a,rfl,_⟩|⟨rfl,rfl,hp,_,_,_,hl,_,rfl,cj,_,hw,hq⟩
 ·exact((hE.1 sQ).elim (λe=>e aj9) ahX).elim
 ·have hg:getM Mn (cI (iu n) xb n.al)=some xb:=by rw[ht];exact kD
  rcases hq with⟨_,_,_,_,q⟩|⟨amf,hr,hk⟩
  ·exact absurd FE q
  ·have hi:d.ids=[1]:=by simpa using akd (hE.2 xb hg rfl (by simp[amf]))
   rw[hi] at hr;obtain⟨y,hy⟩:=List.length_eq_one_iff.1 ((by rw[<-ai (f:=(·.range)),hr];rfl:d.ws.length=1));rw[hy] at hr;exact⟨rfl,xb,y,⟨hg,by simp[amf],by simp[hl],by simp[hi],by simp[hy],by simpa using hr⟩,(hk y (by rw[hy];simp)).1,by simp[hy]⟩
theorem akf {n n1:bt} {xb:Nat} {y:bZ} {k N:Nat} (h:ExC n xb y) (Ue:n.ms=[]) (uR:n.ra=[]) (AQ:n.c.id=1) (jF:gD k N n) (hk:k<=100) (hs:yv n Iu n1):
  ∃vs m6,aG.one vs=true/\n1.ra=[D6 0 Mn YN false vs]/\n1.ms=[m6]/\m6.jJ=true/\n1.c.ba=n.c.ba:=by
 have no: ∀{q:Int},Iu.kind=q->q=4:=λe=>e.symm;rcases hs with⟨q,rfl⟩|⟨_,_,⟨q,_⟩|⟨_,hs⟩|⟨q,_⟩|⟨q,_⟩|⟨_,q,_⟩⟩
 ·exact absurd ⟨aka,by rw[AQ];rfl⟩ q
 ·exact absurd (no q) dQ
 ·rcases hs with⟨_,_,q⟩|⟨_,_,_,_,_,_,_,q,_⟩|⟨b,i,y',gn,jK,mf,n2,hw,rfl,hc⟩
  ·exact(q xb 0 y ⟨h.g,h.pre,rfl,by rw[h.ws];rfl,h.pt⟩).elim
  ·exact absurd rfl q
  ·have hb:b=xb:=by have:=hw.g;rw[show Iu.aR=Mn from rfl,h.g] at this;exact(Option.some.inj this).symm
   subst hb;rcases hc with⟨q,_⟩|⟨_,hc⟩
   ·rw[h.ws] at q;exact absurd rfl q
   ·have e1:((dN n b (tt (n.A b) i Iu jK mf)).A b).x.mR=YN:=by rw[jj];show(n.A b).x.mR.later Iu.aV=_;rw[h.mR];exact ahU
    have e2:((dN n b (tt (n.A b) i Iu jK mf)).A b).ids=[1]:=by rw[jj];exact h.ids
    have ht:=jF.act Mn b h.g;unfold Q9 V9 at hc;dsimp only at hc;rw[e1,e2,show Iu.aR=Mn from rfl] at hc;rcases hc with⟨xJ,h0,_⟩|⟨_,bx,B3,vp,v2,ki,vs,hv,_,sJ,qP,rfl,_⟩
    ·rw[xR afP] at xJ h0;rcases jF.log.iG (Rm afP dQ (jF.DN zQ ht)) (jF.Wf ht _ _) zQ with q|q
     ·exact absurd q.1 xJ
     ·exact absurd q.1 h0
    ·exact⟨vs,_,hv,by show n.ra++_=_;rw[uR];rfl,by show n.ms++_=_;rw[Ue];rfl,rfl,rfl⟩
 ·exact absurd (no q) dQ
 ·exact absurd (no q) dQ
 ·exact absurd rfl q
theorem xU {w:World} {X:XS} :Ct pg 9 #[] w X nX λv w1 w2=>v=B true:=by
 have key:Ct pg 9 #[] w X (gB λ_=>0) λv wa w'=>v=B true:=by
  intro w0 hk;refine Mq.1 λ_=>?_;refine abR hk λdb w1 X1 ij s1=>?_;have hs:=s1.rf;repeat' refine ao ?_;intros
  refine cA Mo kQ s1.has ?_;rintro vl wb w2 X2 lv mq kW bm;obtain⟨nE,s3,-,-,p4⟩:=(s1.since bm).vB (N:=made wb w2) λq hq=>⟨kW q hq,s1.nw (ad mq hq.1)⟩;obtain⟨x,hB,hmo⟩:=ajo;refine s3.call (FC (l:=Ml) s3.h s3.x (lv.mono p4).sl SO (λx hx=>absurd hx sQ) sQ (λn b hb=>absurd hb (by simp[DM.bytes,DM.get,getM])) hB.B1 hB.log hB.uX hB.kp hB.err) kQ λv w' X' aH n' s' ⟨hv,hO⟩ _=>?_;subst hv;have jF:gD 1 0 n':=gD.FB hB (λx hx=>absurd hx sQ) hO adP zQ;have hx:ExN n':=⟨hO.id,by have:=congrArg Prod.fst hO.abs;exact this,hO.fF,hO.ck,hO.ds.trans Rn,hO.al⟩;have rD:lx n'.m:=by have:=congrArg LD.m hO.ld;rw[show n'.m=_ from this];exact hmo
  clear hs;have hs:=s'.rf;repeat' refine aN ?_;intros
  refine Wg (rows:=B6.map jr.l) (B6.map jr.l).flatten.toArray (.agg #[I 0,.string ⟨#[]⟩,I 0,.float .f64 0,.string ⟨#[]⟩]) hs.has (bytes:=56) kQ kQ zQ zQ kQ sQ rfl rfl λa w4 X4 fR Gz=>?_;have s4:=s'.since fR;obtain⟨lT,s5,-,-,p5⟩:=s4.vB (N:=ga a) λq hq=>⟨Gz.2.2 q hq,s'.nw (Gz.ge hq).1⟩;refine s5.call (Lr (p:=B6) (gL:=5) s5.h s5.x jF.ok (zl Gz (Y:=bR lT 4) p5).sl dQ ⟨jF.fF.1,by rw[hx.fF];decide⟩) kQ λv w5 X5 mW n5 s6 q _=>?_;obtain⟨n1,⟨hC,hE⟩,rfl,rfl,hO5⟩:=q;obtain⟨ht,uR,xb,y,YS,hy,Ue⟩:=ake hx hC hE;have sT:gD 2 0 (dM n1):=jF.call hC zQ;have pr:lx (dM n1).m/\(dM n1).c.id=1/\(dM n1).c.ba=1:=by
   obtain⟨_,_,_,_,_,_,_,_,_,rfl,_⟩:=hC;exact⟨rD,hx.id,hx.ba⟩
  obtain⟨pre,sg,Pu,_⟩:=sT.log;have Ij:=hO5.oa;rw[uR] at Ij;obtain⟨vab,van,vac,ha⟩:=Ij.form;have TM:=hO5.om;have H7:=hO5.hm;rw[Ue] at H7;obtain⟨l0,hl0⟩:=List.length_eq_one_iff.1 H7.1;rw[hl0] at H7 TM;obtain⟨u1,u2,u3,u4,u5,u6,u7,u8,rfl,dB⟩:=H7.2 0 l0 _ rfl rfl;obtain⟨vmb,vmn,vmc,hvm⟩:=TM.form;rw[ht,ha,hvm];rw[ha] at Ij;rw[hvm] at TM;have l8:n'.nb=(dM n1).nb:=by obtain⟨_,_,_,_,_,_,_,_,_,rfl,_⟩:=hC;rfl
  clear hs s' s4 s5;have hs:=s6.rf;repeat' refine ao ?_;intros
  rw[l8];refine s6.ajn (L5 (m:=Iu) (vk:=UE) (vs:=UE) (vw:=UE) (vp:=UE) (vr:=UE) (vc:=UE) (vh:=UE) (vd:=UE) (gL:=5) s6.h s6.x Pu ⟨Sl.nil _ _ _,Sl.nil _ _ _,Sl.nil _ _ _,Sl.nil _ _ _,Sl.nil _ _ _,eQ.nil _ _ _,eQ.nil _ _ _,eQ.nil _ _ _⟩ sT.ok dQ afQ ahT) kQ (λv w7 X7 DK n7 s7 q m7=>?_) λw7 X7 DK d7 s7 hF=>(sT.stays pr.1 zQ hF).elim;obtain⟨n2,hS,rfl,rfl,hO7⟩:=q;obtain⟨vs,m6,UC,alW,aqq,iF,Rj⟩:=akf (n:=dM n1) ⟨YS.g,YS.pre,YS.mR,YS.ids,YS.ws,YS.pt⟩ rfl rfl pr.2.1 sT zQ hS;have x4: ∀k,bR DK 4 k->X7 k:=s7.sub 4;have a1:Sl w7 X7 36 (.slice vmb vmn vmc) ([()].map λ_:Unit=>(y.qx (20+n'.c.id)).l u1 u2 u3 u4 u5 u6 u7 u8):=(TM.mv m7).mono x4;have a2:Sl w7 X7 9 (.slice vab van vac) (([]:List (List Value)).map id):=(Ij.mv m7).mono x4;have YT:=hO7.oa;rw[alW] at YT;obtain⟨ab6,an6,ac6,ha6⟩:=YT.form;have YU:=hO7.om;have YV:=hO7.hm;rw[aqq] at YV;obtain⟨l6,hl6⟩:=List.length_eq_one_iff.1 YV.1;rw[hl6] at YV YU;obtain⟨q1,q2,q3,q4,q5,q6,q7,q8,rfl,aqr⟩:=YV.2 0 l6 _ rfl rfl;obtain⟨mb6,mn6,mc6,amg⟩:=YU.form;rw[ha6] at YT;rw[amg] at YU;rw[ha6,amg];have a3:Sl w7 X7 36 (.slice mb6 mn6 mc6) ([()].map λ_:Unit=>m6.l q1 q2 q3 q4 q5 q6 q7 q8):=YU.mono x4;have a4:Sl w7 X7 9 (.slice ab6 an6 ac6) ([()].map λ_:Unit=>D6 0 Mn YN false vs):=YT.mono x4;have b1:=dB.keys.one;have b2:=dB.seen.one;have b3:=dB.writes.one;have b4:=dB.parts.one;have b5:=dB.ranges.one;have b6:=dB.bp.one;have b7:=dB.iD.one;have b8:=dB.hU.one;have FG:(y.qx (20+n'.c.id)).kind=3:=hy;have ht1:(y.qx (20+n'.c.id)).to=1:=YS.pt;generalize y.qx (20+n'.c.id)=mm at a1 FG ht1 b1 b2 b3 b4 b5 b6 b7 b8;have hx0:[()][0]? =some ():=rfl;have aqs:(dM n1).nb=n2.nb:=hS.nb.nb.symm;rw[aqs];have aqt:n2.c.ba=1:=Rj.trans pr.2.2;clear hs TM Ij YU YT H7 YV dB aqr;have hs:=s7.rf;repeat' first|refine aN ?_;intros|refine dq ?_ ?_<;>intros|(with_reducible apply YW);(· kernel_rfl);all_goals intros|with_reducible apply cK|(exfalso;omega)|(exfalso;simp only[aM,bz] at*;omega)
  rw[iF];repeat' first|refine ao ?_;intros|with_reducible apply cK
  refine eT (YE (n:=dM n2) s7.h s7.x) kQ hs.has λw8 X8 lr=>?_;rw[show(dM n2).c.ba=1 from aqt];repeat' refine aN ?_;intros
  exact(s7.t.since lr).fin λ_ _=>rfl
 exact ame key λk hk=>absurd rfl hk.1
structure YX (o:iV):Prop where
 sm:o.m.small
 ln:o.m.lens<=2^62
 pl:o.prog.length<=2^30
 n:o.n<2^63
def nH (l:List iV):Nat:=(l.map λo=>o.m.seen.length).sum
theorem GI {l:List iV} {i:Nat} {o:iV} (h:l[i]? =some o):nH (l.take (i+1))=nH (l.take i)+o.m.seen.length:=by
 unfold nH;rw[List.take_add_one,h];simp
theorem abU {l:List iV} {i:Nat} {o:iV} (h:l[i]? =some o):nH (l.take i)+o.m.seen.length<=nH l:=by
 rw[<-GI h];have e:nH l=nH (l.take (i+1))+nH (l.drop (i+1)):=by
  unfold nH;rw[<-List.sum_append,<-aJ,List.take_append_drop]
 omega
theorem zH.UG {n n1:bt} {p:List jr} (h:zH n p n1):n1.ra.length<=1:=by
 obtain⟨xb,gn,D9,vm,va,rm,ra,ms,d,rfl,Oz,⟨a,rfl,_⟩|⟨rfl,_⟩⟩:=h
 ·exact aq _
 ·exact au _
theorem yv.UG {n n1:bt} {m:bZ} (hs:yv n m n1):n1.ra.length<=n.ra.length+1/\n1.c.fF=n.c.fF:=by
 rcases hs with⟨_,rfl⟩|⟨_,_,⟨_,h1⟩|⟨_,h1⟩|⟨_,h1⟩|⟨_,h1⟩|⟨_,_,_,_,rfl⟩⟩
 ·exact⟨dc _,rfl⟩
 ·rcases h1 with⟨gn,rfl⟩|⟨b,gn,sJ,ki,qP,hb,hp,hc,rfl⟩|⟨b,i,y,gn,yC,jK,mf,n2,hw,rfl,⟨_,rfl⟩|⟨_,n3,⟨ki,a,_,_,_,_,rfl,_⟩|⟨ids,pm,vq,vw2,rw2,cj,mQ,uz,mh,_,_,_,rfl,_⟩,rfl⟩⟩;all_goals exact⟨by simp[dN],rfl⟩
 ·rcases h1 with⟨gn,rfl,_⟩|⟨b,gn,sJ,ki,qP,hb,hp,hc,rfl⟩|⟨b,i,y,gn,jK,mf,n2,hw,rfl,⟨_,rfl⟩|⟨_,⟨_,_,ki,sJ,qP,rfl,_⟩|⟨_,bx,B3,vp,v2,ki,vs,hv,_,sJ,qP,rfl,_⟩⟩⟩;all_goals exact⟨by simp[dN],rfl⟩
 ·rcases h1 with rfl|⟨_,_,_,_,⟨_,rfl⟩|⟨_,_,rfl⟩⟩;all_goals exact⟨dc _,rfl⟩
 ·rcases h1 with⟨_,rfl⟩|⟨_,_,_,rfl,_⟩;all_goals exact⟨dc _,rfl⟩
 ·exact⟨dc _,rfl⟩
theorem ou.UG: ∀{ts:List bH} {n n1:bt},ou ts n n1->n1.ra.length<=n.ra.length+ts.length
 |[],n,n1,h=>by
  have:n1=n:=h;subst this;exact aq _
 |t::ts,n,n1,⟨n2,h1,h2⟩=>by
  have:=ou.UG h2;have:=h1.ra.1;rw[aM];omega
theorem zI.UG {n n1:bt} (h:zI n n1):n1.ra.length<=n.ra.length+n.al.length/\n1.c.fF=n.c.fF:=by
 obtain⟨ts,n2,hp,h1,h2⟩:=h;have q:=h1.UG;rw[hp.length_eq,ai] at q;obtain⟨b1,_,_,_,b5⟩:=h2.calm;exact⟨by rw[b5];exact q,b1.fF.trans h1.calm.1.fF⟩
theorem zH.same {n n1:bt} {p:List jr} (h:zH n p n1):n1.nb=n.nb/\n1.m=n.m/\n1.c.fF=n.c.fF+1:=by
 obtain⟨xb,gn,D9,vm,va,rm,ra,ms,d,rfl,_⟩:=h;exact⟨rfl,rfl,rfl⟩
theorem zI.m {n n1:bt} (h:zI n n1):n1.m=n.m:=by
 obtain⟨ts,n2,hp,h1,h2⟩:=h;exact h2.calm.1.m.trans h1.calm.1.m
def ahY (s:CS) (o:iV) (k N:Nat) (v:Value) (w':World) (aH:Nat->Nat) (s2:CS):Prop:=
 ∃s1 t,s2=s1.Pw/\CS.adO w' aH s1/\CS.Ok k N s1.Pw/\v= .tuple #[ptr s1.nb 0,s1.out,t.v]/\ahW s o t s1
section
variable {w w' wa w0 : World} {X X' G K K' F T T' : XS} {own aH bM : Nat -> Nat} {n n' : bt} {b : Nat} {t0 : bH} {db : Nat} {m : DM} {s s' : CS}
theorem CS.adO.two (h:CS.adO w own s): ∃x y,s.out= .agg #[x,y]/\aG.one x=true/\aG.one y=true:=by
 cases s with
 |up n=>exact⟨n.vm,n.va,rfl,h.om.one,h.oa.one⟩
 |dn nb m P=>exact⟨bf,bf,rfl,rfl,rfl⟩
theorem LS.act {o:iV} {vk vs vw vp vr vc vh vd vo vq:Value} {k N:Nat} {R:Ending->World->Prop} {NX:Value->World->XS->Prop} (q:LS w0 bM T w X own db s) (jF:CS.Ok k N s) (ho:o.at w (bR own 4) vk vs vw vp vr vc vh vd vo vq) (nk:YX o) (hk:k<=180) (hN:N+o.m.seen.length<=2^20)
  (kk: ∀v w' X' aH s2,LS w0 bM T w' X' aH db s2->ahY s o (k+1) (N+o.m.seen.length) v w' aH s2->Mv T w T w'->Mv (bR own 4) w (bR aH 4) w'->NX v w' X'):
  eC pg R X w true 12 #[ptr db 0,ptr s.nb 0,.agg (o.l vk vs vw vp vr vc vh vd vo vq).toArray] NX:=by
 refine q.call (Q:=λv w' aH s2=>ahY s o (k+1) (N+o.m.seen.length) v w' aH s2) ((afS q.h q.x jF ho nk.sm nk.ln nk.pl nk.n hk hN).mono λv wa w' _ hq=>?_) kQ kk;obtain⟨aH,s1,t,e,h1,h2,h3,h4,h5⟩:=hq;exact⟨aH,s1.Pw,e,h1,s1,t,rfl,h2,h3,h4,h5⟩
theorem LS.op {o:iV} {vk vs vw vp vr vc vh vd vo vq:Value} (q:LS w0 (λk=>if k<w0.heap.size then 4 else 0) T w X own db s) (h:o.at w0 (out (gB λk=>if k<w0.heap.size then 4 else 0) w0) vk vs vw vp vr vc vh vd vo vq):o.at w (bR own 4) vk vs vw vp vr vc vh vd vo vq:=by
 have m:Mv (out (gB λk=>if k<w0.heap.size then 4 else 0) w0) w0 (bR own 4) w:=λk hk _=>⟨(q.e k hk.1).2 (if_pos hk.1),q.t.s.kp.block k hk⟩;exact⟨h.m.mv m,h.po.mv m,h.p.mv m⟩
theorem LS.init (hT:Ft w0 (gB λk=>if k<w0.heap.size then 4 else 0) w X nX) (hm: ∀k,own k≠0->made wa w k/\X k) (hle:w0.heap.size<=wa.heap.size) (h:CS.Is w own db s): ∃ij,LS w0 (λk=>if k<w0.heap.size then 4 else 0) nX w X ij db s:=by
 have hz: ∀k,k<w0.heap.size->own k=0:=λk hl=>eH λe=>by have:=(hm k e).1.1;omega
 have e0: ∀k,own k≠0->(if own k=0 then(if k<w0.heap.size then 4 else 0)else own k)=own k:=λk hk=>if_neg hk;have hx: ∀k,(if own k=0 then(if k<w0.heap.size then 4 else 0)else own k)≠0->X k:=λk hk=>by
  by_cases e:own k=0
  ·rw[if_pos e] at hk;by_cases hl:k<w0.heap.size
   ·exact hT.s.sub k ⟨hl,λh=>h.2 (if_pos hl)⟩
   ·rw[if_neg hl] at hk;exact absurd rfl hk
  ·exact(hm k e).2
 refine⟨λk=>if own k=0 then(if k<w0.heap.size then 4 else 0)else own k,hT.more λk hk=>?_,h.Rq e0 λk hk=>hT.s.has k (hx k hk),hx,λk hl=>?_,λk hk=>hk.elim⟩
 ·rcases hk with hk|hk
  ·refine .inr ⟨hx k hk.1,A9 λhl=>hk.2 ?_⟩
   show(if own k=0 then(if k<w0.heap.size then 4 else 0)else own k)=4
   rw[if_pos (hz k hl),if_pos hl]
  ·exact hk.elim
 ·have e:(if own k=0 then(if k<w0.heap.size then 4 else 0)else own k)=(if k<w0.heap.size then 4 else 0):=if_pos (hz k hl);exact⟨λh=>e.trans h,λh=>e.trans h⟩
theorem amN (h:jb w own n):dK w (bR own 5) nX n.c.ab (λk:bH=>k.v) wT n.al:=h.gA 5 dQ dQ
structure Ba (w0:World) (bM:Nat->Nat) (T:XS) (w:World) (X:XS) (own:Nat->Nat) (db nb:Nat) (nS:bt) (vw:Value) (ts:List bH) (K N:Nat) (i:Int) (n:bt) (vt:Value) (sa:List sN):Prop where
 ls:LS w0 bM T w X own db (.up n)
 up:gD K N n
 nb:n.nb=nb
 mo:lx n.m
 told:Own w T 0 Rs 9 vt (sa.map sN.l)
 one: ∀a∈sa,aG.one a.vs=true
 acc: ∀t∈ts,Acc i nS n sa t
 sq: ∀t∈ts,t.sq<=n.c.fF
 was:Sl w (bR own 4) 3 vw (ts.map bH.l)
 len:sa.length<=300*K
theorem sN.Pf {sa:List sN} (h: ∀a∈sa,aG.one a.vs=true): ∀r∈sa.map sN.l,∀u∈r,aG.one u=true:=λr hr u hu=>by
 obtain⟨a,ha,rfl⟩:=List.mem_map.1 hr;have:=h a ha;simp only[sN.l,D6,List.mem_cons,List.not_mem_nil,or_false] at hu;rcases hu with rfl|rfl|rfl|rfl|rfl|rfl|rfl|rfl|rfl<;>first|rfl|exact this
theorem Ba.app {nb:Nat} {nS n1:bt} {vw vt:Value} {ts:List bH} {K N:Nat} {i d:Int} {n:bt} {sa sb:List sN} {aH:Nat->Nat} {w2:World} {X2:XS} {R:Ending->World->Prop} {NX:Value->World->XS->Prop} {te ty:TypeId} {K' N':Nat}
  (h:Ba w0 bM T w X own db nb nS vw ts K N i n vt sa) (q:LS w0 bM T w' X' aH db (.up (dM n1))) (jF:gD K' N' (dM n1)) (l8:n1.nb=n.nb) (hmo:lx n1.m) (hO:yW w' aH n1) (mT:Mv T w T w') (m4:Mv (bR own 4) w (bR aH 4) w')
  (ha:jm n n1 sb) (XG: ∀t∈ts,Acc d n n1 sb t) (Uz:n.c.fF<=n1.c.fF) (hl:n1.ra.length<=300) (hK:K+1<=K') (hK2:K'<=1000) (hs:aj X' w' X2 w2) (he:mz pg te Rs 9 88=true) 
  (kk: ∀vt' w3 X3 T',Ba w0 bM T' w3 X3 aH db nb nS vw ts K' N' (i+d) (dM n1) vt' (sa++sb)->NX vt' w3 X3):eV pg R X2 w2 true (pI te Rs 9 88 ty vt n1.va) NX:=by
 have q2:=q.since hs;have mv:Mv T w T w2:=λk hk hl=>by
  have h1:=mT k hk hl;have hX:X' k:=q.t.br k (.inr hk);exact⟨hk,(hs.kp.block k hX).trans h1.2⟩
 have m4':Mv (bR aH 4) w' (bR aH 4) w2:=λk (hk:aH k=4) _=>⟨hk,hs.kp.block k (q.x k zQ)⟩;have uR:n1.ra=sb.map sN.l:=by rw[ha.1,h.up.ok.ra];rfl
 have nV:sb.length<=300:=by rw[uR,ai] at hl;exact hl
 have vV:Own w2 X2 0 Rs 9 vt (sa.map sN.l):=(h.told.mv mv).mono λk hk=>q2.t.br k (.inr hk);have hlen:=h.len;refine Ip (bytes:=88) vV q2.has (au _) he ((hO.oa.mv m4').mono λk (e:aH k=4)=>q2.x k zQ) (by rw[uR];exact sN.Pf ha.2) (by rw[uR,ai,ai];omega) (by rw[uR,ai,ai];omega) λv3 w3 X3 c3 Mb al1=>?_;have cT:eh T X2 w2 X3 w3:=c3.mono λk _ e=>(h.told.mv mv).2.2 k e;have q3:=q2.amd (T':=λk=>ga v3 k) cT λk hk=>by
  rcases al1 with e|⟨g,e,dH⟩
  ·exact .inl ((h.told.mv mv).2.2 k (by have hk:v3.ownBlock=some k:=hk;rw[e] at hk;exact hk))
  ·exact .inr ⟨Mb.2.2 k hk,by have hk:v3.ownBlock=some k:=hk;rw[e] at hk;cases hk;exact dH⟩
 rw[uR,<-aJ] at Mb;refine kk v3 w3 X3 _ ⟨q3,jF,l8.trans h.nb,hmo,Iv Mb λg hg=>⟨hg,rfl⟩,λa ha'=>(List.mem_append.1 ha').elim (h.one a) (ha.2 a),λt ht=>?_,λt ht=>Int.le_trans (h.sq t ht) Uz,?_,?_⟩
 ·exact(h.acc t ht).trans (XG t ht)
 ·exact((h.was.mv m4).mv m4').mv λk (hk:aH k=4) _=>⟨hk,c3.block k (q2.x k zQ) λe=>by have:=q2.tz k ((h.told.mv mv).2.2 k e);omega⟩
 ·rw[aa];omega
theorem Ba.to {nb:Nat} {nS:bt} {vw vt:Value} {ts:List bH} {K N K' N':Nat} {i i':Int} {n:bt} {sa:List sN} (h:Ba w0 bM T w X own db nb nS vw ts K N i n vt sa) (hK:K<=K') (hK':K'<=1000) (hN:N<=N') (hi:i=i'):Ba w0 bM T w X own db nb nS vw ts K' N' i' n vt sa:=
 ⟨h.ls,h.up.up hK hK' hN,h.nb,h.mo,h.told,h.one,by rw[<-hi];exact h.acc,h.sq,h.was,by have:=h.len;omega⟩
theorem afT (t:bH) (a:sN) (l:List sN):yZ t (a::l)=(if a.t=t then 1 else 0)+yZ t l:=by
 rw[<-Je,<-YQ];rfl
theorem UH (l:List iV) (i:Nat):nH (l.take i)<=nH (l.take (i+1)):=by
 rcases dG l i with⟨_,o,h,_⟩|⟨h,_⟩
 ·rw[GI h];omega
 ·rw[ax h,ax zQ];exact aq _
theorem Rt {a a2:Value} {ops more:List iV} (ha:eQ w X 41 a iV.rd ops) (Of:eQ w X 41 a2 iV.rd more) (hm: ∀o∈ops,YX o) (oV: ∀o∈more,YX o) (asj:nH ops+nH more<=2^20):
  Ct pg 3 #[a,a2] w X nX λv _ _=>v=B true:=by
 have key: ∀w0,Kp X w w0->Calls pg 3 #[a,a2] w0 (vR (gB λk=>if k<w0.heap.size then 4 else 0) w0 λv _=>v=B true):=by
  intro w0 hk;replace ha:=eQ.mv ha iV.mv hk.cu;replace Of:=eQ.mv Of iV.mv hk.cu;have lN:=ha.len;have asl:=Of.len;clear hk;obtain⟨bM,adU⟩: ∃bM:Nat->Nat,bM=λk=>if k<w0.heap.size then 4 else 0:=⟨_,rfl⟩
  rw[<-adU];have L4:Ft w0 (gB bM) w0 (bV w0) nX:=(Ft.init λk hk=>by rw[adU] at hk;exact eH λhl=>hk.1 (if_neg hl)).less λk hk=>hk.elim;have gg:=L4.s;refine Hn.1 λhs=>?_;refine eT xU kQ hs.has λw1 X1 aC=>?_;have ej:=L4.since aC;clear hs;have hs:=aj.fT aC.has;repeat' refine ao ?_;intros
  refine cA (Rr (ha.mv iV.mv aC.mv)) kQ aC.has ?_;rintro _ yE w2 X2 ⟨b1,rfl,lD⟩ mq kW bm;have pc:=aC.trans bm;have da:=ej.since bm;clear hs;have hs:=aj.fT bm.has;cases b1 with
  |false=>
   repeat' first|refine ao ?_;intros|with_reducible apply cK
   refine eT xU kQ bm.has λw3 X3 cV=>?_;exact(da.since cV).fin λwa oZ=>rfl
  |true=>
   have wP:=lD rfl;repeat' first|refine ao ?_;intros|with_reducible apply cK
   refine cA (Rr (Of.mv iV.mv pc.mv)) kQ bm.has ?_;rintro _ yF w3 X3 ⟨b2,rfl,tU⟩ qy mr cV;have dS:=da.since cV;have ahx:=pc.trans cV;clear hs;have hs:=aj.fT cV.has;cases b2 with
   |false=>
    repeat' refine ao ?_;intros
    refine eT xU kQ cV.has λw4 X4 fR=>?_;exact(dS.since fR).fin λwa oZ=>rfl
   |true=>
    have WH:=tU rfl;repeat' refine ao ?_;intros
    refine cA aa0 kQ cV.has ?_;rintro _ zj w4 X4 ⟨lT,n4,YY,TL,rfl,aqu,hB4⟩ tL pa fR;have fJ:=dS.since fR;have hle:w0.heap.size<=zj.heap.size:=ad dS.s.kp.size tL;subst adU;obtain⟨mW,q5⟩:=LS.init (s:=.up n4) (db:=n4.db) fJ (λk hk=>⟨YY k hk,pa k (YY k hk)⟩) hle ⟨TL,rfl⟩;generalize n4.db=db at q5;clear hs L4 ej da dS fJ YY TL;have hs:=q5.rf;repeat' refine ao ?_;intros
    refine gM (λn a b w X=> ∃(i:Nat) (aH:Nat->Nat) (s:CS),a=I i/\b=ptr s.nb 0/\n=ops.length-i/\i<=ops.length/\LS w0 (λk=>if k<w0.heap.size then 4 else 0) nX w X aH db s/\CS.Ok (i+1) (nH (ops.take i)) s) ops.length
     ⟨0,mW,.up n4,rfl,rfl,rfl,au _,q5,aqu⟩ ?_
    rintro n _ _ w5 X5 ⟨i,wC,s6,rfl,rfl,rfl,hi,q6,adV⟩;clear q5 hs;have hs:=q6.t.s;have haO:eQ w0 (out (gB λk=>if k<w0.heap.size then 4 else 0) w0) 41 a iV.rd ops:=ha.mv iV.mv λk hk _=>⟨⟨hk,λh=>h.2 (if_pos hk)⟩,rfl⟩;rcases dG (ops) i with⟨cC,x,hx,hd⟩|⟨dH,hd⟩
    ·have Rc:=hm x (aB hx);have nV:=abU hx;repeat' first|refine aN ?_;intros|(with_reducible apply xT);(case h=>exact haO);(case hr=>exact hx);(case hz=>rfl);(case ht=>kernel_rfl);(case hs=>kernel_rfl);intros
     refine q6.act (o:=x) adV (q6.op aQ) Rc zQ zQ λv w6 X6 DK s7 q7 hP _ _=>?_;obtain⟨s8,t,rfl,hO,adW,rfl,hR⟩:=hP;obtain⟨y,z,hyz,oy,oz⟩:=hO.two;rw[hyz];clear hs;repeat' refine ao ?_;intros
     exact fK (ops.length-(i+1)) zQ ⟨i+1,DK,s8.Pw,congrArg I zQ,by rw[CS.akb],rfl,by omega,q7,by rw[GI hx];exact adW⟩
    ·obtain rfl:i=ops.length:=by omega
     rw[List.take_length] at adV;repeat' refine aN ?_;intros
     cases s6 with
     |dn nb m P=>
      refine eT (Vr (Hk.mv (Hs.gA (show V6 w5 wC nb db m from q6.h) 1 dQ dQ) (Mv.sub λk (e:wC k=1)=>q6.x k zQ))) kQ q6.has λw6 X6 rF=>?_;have q7:=q6.since rF;clear hs;have hs:=q7.rf;repeat' refine ao ?_;intros
      refine eT xU kQ q7.has λw8 X8 lr=>?_;exact(q7.since lr).t.fin λwa oZ=>rfl
     |up n=>
      obtain⟨hN6,OQ⟩:=q6.h;refine eT (Vs hN6 q6.x) kQ q6.has λw6 X6 rF=>?_;have q7:=q6.since rF;clear hs;have hs:=q7.rf;repeat' refine ao ?_;intros
      rw[<-OQ];refine q7.call (Q:=λ_ _ _ s1=>s1= .up { n with m:=n.m.lL 0 }) ((OP (z:=0) (show jb w6 wC n from q7.h.1) q7.x dQ).mono λv wa w' _ ⟨aH,n',e,h',_,hn⟩=>⟨aH,.up n',e,⟨h',by rw[hn];exact OQ⟩,by rw[hn]⟩) kQ λv w8 X8 Lq s8 q8 e8 _ _=>?_;subst e8;obtain⟨n8,hn8⟩: ∃n8:bt,n8= { n with m:=n.m.lL 0 } :=⟨_,rfl⟩;rw[<-hn8] at q8;have adX:gD (ops.length+1) (nH ops) n8:=by rw[hn8];exact gD.lL adV 0
      have amh:n8.nb=n.nb:=by rw[hn8]
      have hmo:lx n8.m:=by
       obtain⟨pre,sg,hl,_⟩:=(show gD (ops.length+1) (nH ops) n from adV).log;have hd:n.m.dn=false:=hl.dn;rw[hn8]
       show lx (n.m.lL 0)
       unfold DM.lL;rw[if_neg (by rw[hd];decide)];exact⟨rfl,hd⟩
      show eC _ _ _ _ _ _ #[ptr n.nb 0] _
      rw[<-amh];clear hs hN6;have hs:=q8.rf;have alT:=adX.ok.QJ;refine cA (GG (show jb w8 Lq n8 from q8.h.1) q8.x zQ) kQ q8.has ?_;rintro vt Fl w9 X9 ⟨ts,uz,_,yN⟩ aqj ahM Ak;have q9:=q8.since Ak;obtain⟨Wd,q10,p4,_⟩:=q9.vB (K:=made Fl w9) λk hk=>⟨ahM k hk,by have:=hk.1;have:=q8.t.s.kp.size;omega,eH λe=>by have:=q8.h.lt k e;have:=hk.1;omega,λh=>h.elim⟩;have adY:Sl w9 (bR Wd 4) 3 vt (ts.map bH.l):=(yN.mono p4).sl;clear hs;have hs:=q10.rf
      skip
      have hE0:Ba w0 (λk=>if k<w0.heap.size then 4 else 0) nX w9 X9 Wd db n8.nb n8 vt ts (ops.length+1) (nH ops) 0 n8 (.slice none 0 0) []:=by
       refine⟨q10,adX,rfl,hmo,Own.nil _ _ _ _ _,λa ha=>absurd ha sQ,λt ht=>Acc.none rfl (λt b _=>by omega) t,λt ht=>?_,adY,by simp⟩;obtain⟨y,hy,rfl⟩:=List.mem_map.1 (uz.mem_iff.1 ht);exact(adX.act _ _ (pC (amN q8.h.1).nodup hy)).sq.2
      rw[show(CS.up n).nb=n8.nb from amh.symm,OQ];refine gM (λn a b w X=> ∃(i:Nat) (aH:Nat->Nat) (n':bt) (T:XS) (sa:List sN),a=I i/\n=6-i/\i<=6/\Ba w0 (λk=>if k<w0.heap.size then 4 else 0) T w X aH db n8.nb n8 vt ts (ops.length+1+2*i) (nH ops+nH (more.take i)) i n' b sa) 6
       ⟨0,Wd,n8,nX,[],rfl,rfl,by omega,hE0⟩ ?_
      rintro n' _ vt2 w11 X11 ⟨j,Ri,n11,T,sa,rfl,rfl,hj,hE⟩;have ahZ:eQ w0 (out (gB λk=>if k<w0.heap.size then 4 else 0) w0) 41 a2 iV.rd more:=Of.mv iV.mv λk hk _=>⟨⟨hk,λh=>h.2 (if_pos hk)⟩,rfl⟩;have aqv:=(amN q8.h.1).nodup;clear hs hE0 q10 q9 q8 q7 q6 adY yN;have hs:=hE.ls.t.s
      show(aZ _ _ _ _ _:Prop)
      by_cases hj6:j<6
      ·have ami:jb w11 Ri n11:=hE.ls.h.1;have lV:xf n11:=ami.gA 12 dQ dQ;have alV:=hE.up.ok.ra;have asm:=hE.up.ok.QJ;repeat' refine aN ?_;intros
       refine gY (Q:=λ(K:Value->World->XS->Prop)=> ∀v w X aH n' T sa,Ba w0 (λk=>if k<w0.heap.size then 4 else 0) T w X aH db n8.nb n8 vt ts (ops.length+1+2*(j+1)) (nH ops+nH (more.take (j+1))) ((j+1:Nat):Int) n' v sa->K v w X) ?_ λK hK=>?_
       ·intro v Ir Mg Eu n12 T2 sa2 hE2;clear hs;repeat' refine ao ?_;intros
        exact fK (6-(j+1)) zQ ⟨j+1,Eu,n12,T2,sa2,congrArg I zQ,rfl,by omega,hE2⟩
       ·rw[<-hE.nb];refine hE.ls.call (Q:=λv w' aH s2=> ∃n1,zI n11 n1/\v= .tuple #[.agg #[n1.vm,n1.va],I 0]/\s2= .up (dM n1)/\yW w' aH n1) ((L7 ami hE.ls.x hE.up.ok).mono λv wa w' _ hq=>?_) kQ λv Ir Mg Eu Rk q12 hQ mT m4=>?_
        ·obtain⟨aH,n',e,h',n1,hP,hv,rfl,hO⟩:=hq;exact⟨aH,.up (dM n1),e,⟨h',hP.nb.2.trans hE.ls.h.2⟩,n1,hP,hv,rfl,hO⟩
        obtain⟨n1,hTk,rfl,rfl,hO⟩:=hQ;have sT:=hE.up.tick lV hTk zQ;obtain⟨sb,lD,tU⟩:=hTk.acc;have pz:=hTk.UG;rw[alV] at pz;have q1:=hO.om.one;have q2:=hO.oa.one;clear hs;have hs:=q12.rf;repeat' refine aN ?_;intros
        refine Ba.app hE q12 sT hTk.nb.1 (by rw[hTk.m];exact hE.mo) hO mT m4 lD (λt _=>tU t) (by rw[pz.2];exact Int.le_refl _) (by have:=pz.1;simp only[bz] at this;omega) (aq _) zQ hs kQ λvt3 w13 X13 T3 Bb=>?_;rw[hE.nb,<-Bb.nb];clear hs q12 mT m4 hO;have hs:=Bb.ls.t.s;rcases dG more j with⟨cC,x,hx,hd⟩|⟨dH,hd⟩
        ·have Rc:=oV x (aB hx);have nV:=abU hx;have fE:=GI hx;have aoi:xf (dM n1):=Bb.ls.h.1.gA 12 dQ dQ;by_cases kk:x.kind=1\/x.kind=2
         ·have rW: ∀{v OR X14 Jf s14 o},LS w0 (λk=>if k<w0.heap.size then 4 else 0) T3 OR X14 Jf db s14->ahY (.up (dM n1)) x (ops.length+1+2*j+1+1) (nH ops+nH (more.take j)+x.m.seen.length) v OR Jf s14->Mv T3 w13 T3 OR->Mv (bR o 4) w13 (bR Jf 4) OR->o=Eu-> 
            ∃n15 t sc,v= .tuple #[ptr n15.nb 0,.agg #[n15.vm,n15.va],bH.v t]/\aG.one n15.vm=true/\aG.one n15.va=true/\ ∀{te ty:TypeId} {R:Ending->World->Prop} {NX:Value->World->XS->Prop} {w2 X2},aj X14 OR X2 w2->mz pg te Rs 9 88=true->
             (∀vt' w3 X3 T',Ba w0 (λk=>if k<w0.heap.size then 4 else 0) T' w3 X3 Jf db n8.nb n8 vt ts (ops.length+1+2*j+1+1) (nH ops+nH (more.take j)+x.m.seen.length) ((j:Int)+1+0) (dM n15) vt' (sa++sb++sc)->NX vt' w3 X3)->eV pg R X2 w2 true (pI te Rs 9 88 ty vt3 n15.va) NX:=by
           intro v OR X14 Jf s14 o UI hP mT m4 ho;subst ho;obtain⟨s8,t,rfl,hO,adW,rfl,hR⟩:=hP;rcases hR with⟨_,rfl,n15,rfl,hC⟩|⟨_,rfl,⟨n15,rfl,hC⟩|⟨m',rfl,hF⟩⟩|⟨h,_⟩|⟨h,_⟩|⟨h,_⟩|⟨h,_⟩
           ·obtain⟨sc,Da,nW⟩:=hC.acc rfl;obtain⟨e1,e2,e3⟩:=hC.same;refine⟨n15,_,sc,rfl,hO.om.one,hO.oa.one,λbm he kk2=>Ba.app Bb UI adW e1 (by rw[e2];exact Bb.mo) hO mT m4 Da (λt ht=>nW t λe=>?_) (by rw[e3];omega) (by have:=hC.UG;omega) (aq _) zQ bm he kk2⟩;have:=Bb.sq t ht;rw[e] at this;have:(dM n1).c.fF+1<=(dM n1).c.fF:=this;omega
           ·obtain⟨sc,Da,nW⟩:=hC.acc aoi;have e3:=hC.UG;refine⟨n15,_,sc,rfl,hO.om.one,hO.oa.one,λbm he kk2=>Ba.app Bb UI adW hC.nb.nb (Bb.up.aoh Bb.mo zQ hC) hO mT m4 Da (λt _=>nW t) (by rw[e3.2];exact Int.le_refl _) (by have:=e3.1;have e0:(dM n1).ra.length=0:=rfl;omega) (aq _) zQ bm he kk2⟩
           ·exact(Bb.up.stays Bb.mo zQ hF).elim
           all_goals omega
          have sS: ∀{aH n' T' v sa' w' X'},Ba w0 (λk=>if k<w0.heap.size then 4 else 0) T' w' X' aH db n8.nb n8 vt ts (ops.length+1+2*j+1+1) (nH ops+nH (more.take j)+x.m.seen.length) ((j:Int)+1+0) n' v sa'->K v w' X':=λ{aH n' T' v sa' w' X'} h=>
           hK v w' X' aH n' T' sa' (h.to zQ zQ zQ zQ)
          rcases kk with kk|kk
          ·repeat' first|refine aN ?_;intros|(with_reducible apply xT);(case h=>exact ahZ);(case hr=>exact hx);(case hz=>rfl);(case ht=>kernel_rfl);(case hs=>kernel_rfl);intros
           refine Bb.ls.act (o:=x) (s:=.up (dM n1)) Bb.up (Bb.ls.op aQ) Rc zQ zQ λv OR X14 Jf s14 UI hP mT m4=>?_;obtain⟨n15,t,sc,rfl,q3,q4,ah0⟩:=rW UI hP mT m4 rfl;clear hs;have hs:=UI.rf;repeat' refine ao ?_;intros
           refine ah0 hs kQ λvt4 w15 X15 T4 hE4=>sS hE4
          ·repeat' first|refine aN ?_;intros|(with_reducible apply xT);(case h=>exact ahZ);(case hr=>exact hx);(case hz=>rfl);(case ht=>kernel_rfl);(case hs=>kernel_rfl);intros
           refine Bb.ls.act (o:=x) (s:=.up (dM n1)) Bb.up (Bb.ls.op aQ) Rc zQ zQ λv OR X14 Jf s14 UI hP mT m4=>?_;obtain⟨n15,t,sc,rfl,q3,q4,ah0⟩:=rW UI hP mT m4 rfl;clear hs;have hs:=UI.rf;repeat' refine ao ?_;intros
           refine ah0 hs kQ λvt4 w15 X15 T4 hE4=>sS hE4
         ·repeat' first|refine aN ?_;intros|(with_reducible apply xT);(case h=>exact ahZ);(case hr=>exact hx);(case hz=>rfl);(case ht=>kernel_rfl);(case hs=>kernel_rfl);intros
          all_goals exact hK _ _ _ _ _ _ _ (Bb.to zQ zQ (by have:=UH more j;omega) zQ)
        ·repeat' refine aN ?_;intros
         exact hK _ _ _ _ _ _ _ (Bb.to zQ zQ (by have:=UH more j;omega) zQ)
      ·obtain rfl:j=6:=by omega
       repeat' refine aN ?_;intros
       rw[<-hE.nb];have arG:=hE.up.ok.QJ;refine cA (GG (show jb w11 Ri n11 from hE.ls.h.1) hE.ls.x zQ) kQ hE.ls.has ?_;rintro vn aqm Ir Mg ⟨YZ,amj,_,amk⟩ ajm adK pc;have q12:=hE.ls.since pc;have sS: ∀t∈ts,yZ t sa=1/\t ∉ YZ:=λt ht=>by
        obtain⟨y,hy,rfl⟩:=List.mem_map.1 (uz.mem_iff.1 ht);have hg:getM y.1 n8.al=some y.2:=pC aqv hy;rcases hE.acc _ ht with⟨b,hb,⟨h1,h2,_⟩|⟨h1,h2⟩⟩|⟨hb,_⟩
        ·have h3:=(adX.ok.act _ _ hb).kn;have h4:=(hE.up.ok.act _ _ h1).kn;omega
        ·refine⟨h2,λh=>?_⟩;obtain⟨z,hz,e⟩:=List.mem_map.1 (amj.mem_iff.1 h);have:=pC (amN hE.ls.h.1).nodup hz;rw[e,h1] at this;cases this
        ·rw[hg] at hb;cases hb
       have aoj:Sl Ir Mg 9 vt2 (sa.map sN.l):=(hE.told.sl.mono λk hk=>hE.ls.t.br k (.inr hk)).mv pc.mv;have adY:Sl Ir Mg 3 vt (ts.map bH.l):=(hE.was.mono λk (e:Ri k=4)=>hE.ls.x k zQ).mv pc.mv;have aqw:Sl Ir Mg 3 vn (YZ.map bH.l):=(amk.mono adK).sl;have B0:=aoj.ib;have wS:=adY.ib;have hl3:=aqw.ib;clear hs hE uz amj amk;have hs:=q12.rf
       skip
       refine afk (λn a _ _ _ w X=> ∃i:Nat,a=I i/\n=ts.length-i/\i<=ts.length/\aj Mg Ir X w) ts.length ⟨0,rfl,rfl,au _,hs⟩ ?_;clear hs;rintro n' _ _ _ _ w13 X13 ⟨i,rfl,rfl,hi,hs⟩;rcases dG ts i with⟨cC,t,ht,hd⟩|⟨dH,hd⟩
       ·obtain⟨Df,Qw⟩:=sS t (aB ht);repeat' refine aN ?_;intros
        refine gM (λn a b w X=> ∃(i:Nat) (c:Nat),a=I i/\b=I c/\n=sa.length-i/\i<=sa.length/\c+yZ t (sa.drop i)=1/\aj Mg Ir X w) sa.length ⟨0,0,rfl,rfl,rfl,au _,by rw[List.drop_zero];omega,hs⟩ ?_;clear hs;rintro n' _ _ OR X14 ⟨i2,c,rfl,rfl,rfl,hi2,uP,hs⟩;rcases dG sa i2 with⟨SB,y,hy,qh⟩|⟨Fm,qh⟩
        ·rw[qh,afT] at uP;by_cases e:y.t=t
         ·rw[if_pos e] at uP;repeat' first|refine aN ?_;intros|(with_reducible refine Wh _ _ ?_ ?_ ?_);(· kernel_rfl);all_goals intros|with_reducible apply cK|(exfalso;simp_all;done)
          exact fK (sa.length-(i2+1)) zQ ⟨i2+1,c+1,congrArg I zQ,congrArg I zQ,rfl,by omega,by omega,hs⟩
         ·rw[if_neg e] at uP;repeat' first|refine aN ?_;intros|(with_reducible refine Wh _ _ ?_ ?_ ?_);(· kernel_rfl);all_goals intros|with_reducible apply cK|(exfalso;simp_all;done)
          exact fK (sa.length-(i2+1)) zQ ⟨i2+1,c,congrArg I zQ,rfl,rfl,by omega,by omega,hs⟩
        ·rw[qh,YP] at uP;repeat' refine aN ?_;intros
         refine gh (λn a w X=> ∃i:Nat,a=I i/\n=YZ.length-i/\i<=YZ.length/\aj Mg Ir X w) YZ.length ⟨0,rfl,rfl,au _,hs⟩ ?_;clear hs;rintro n' _ w15 X15 ⟨i3,rfl,rfl,hi3,hs⟩;rcases dG YZ i3 with⟨aqx,z,hz,hd3⟩|⟨aqy,hd3⟩
         ·have e: ¬z=t:=λe=>Qw (e▸aB hz);repeat' first|refine aN ?_;intros|(with_reducible refine Wh _ _ ?_ ?_ ?_);(· kernel_rfl);all_goals intros|(exfalso;simp_all;done)
          exact fp (YZ.length-(i3+1)) zQ ⟨i3+1,congrArg I zQ,rfl,by omega,hs⟩
         ·repeat' refine aN ?_;intros
          exact afl (ts.length-(i+1)) zQ ⟨i+1,congrArg I zQ,rfl,by omega,hs⟩
       ·repeat' refine aN ?_;intros
        refine eT xU kQ hs.has λw15 X15 aqz=>?_;exact((q12.since hs).since aqz).t.fin λwa oZ=>rfl
 intro w0 hk;refine(key w0 hk).mono λe w' ⟨v,he,hf,hv⟩=>⟨v,he,hf.mono λk hk=>?_,hv⟩;by_cases hl:k<w0.heap.size
 ·exact(hk.2 (if_pos hl)).elim
 ·exact(hk.1 (if_neg hl)).elim
end
open Go.ChangeShapes Go.WideShapes Go.ChangeAt Go.RowKit
theorem akg:nL 45 (Iw 29 Rec.rd):=qI kQ kQ dQ aml
theorem akh:nL 44 (Iw 4 (λ_ _ cs (x:eI)=>cs=x.l)):=qI kQ kQ dQ afU
theorem ah1:nL 37 rdI:=afV kQ
instance:Wt fe:=⟨λx=>Wt.wt x.key+Wt.wt x.val+Wt.wt x.aV+1,λ_=>by omega⟩
theorem aki:nL 175 (λ_ _ cs (x:fe)=>cs=x.l):=λH enc W fuel cs x h=>by
 obtain⟨n,ds,hx,hf⟩:=jt [9,97,39] kQ h;obtain⟨_,_,_,_,a0,rfl,rfl,rfl,w0,hf⟩:=bI FH hf;obtain⟨_,_,_,_,a1,rfl,rfl,rfl,w1,hf⟩:=bI Mr hf;obtain⟨_,_,_,_,a2,rfl,rfl,rfl,w2,rfl,rfl⟩:=bI vI hf;refine⟨⟨a0,a1,a2⟩,rfl,?_⟩;rw[hx];simp only[Rows.uptoBulk,Rows.uptoBulkAll,Wt.wt] at*;omega
theorem ah2:nL 41 (Iw 7 (λ_ _ cs (x:fe)=>cs=x.l)):=qI kQ kQ dQ aki
instance:Wt bZ:=⟨λx=>Wt.wt x.kind+Wt.wt x.fr+Wt.wt x.to+Wt.wt x.aR+Wt.wt x.range+Wt.wt x.iC+Wt.wt x.code+Wt.wt x.aV+Wt.wt x.prev+Wt.wt x.jJ+Wt.wt x.n+Wt.wt x.mx+Wt.wt x.keys+Wt.wt x.seen+Wt.wt x.writes+Wt.wt x.parts+Wt.wt x.ranges+Wt.wt x.bp+Wt.wt x.state+1,λ_=>by omega⟩
theorem amm:nL 54 bZ.rd:=λH enc W fuel cs x h=>by
 obtain⟨n,ds,hx,hf⟩:=jt [3,3,3,34,3,3,37,39,39,4,3,3,40,41,42,43,44,45,52] kQ h;obtain⟨_,_,_,_,a0,rfl,rfl,rfl,w0,hf⟩:=bI oA hf;obtain⟨_,_,_,_,a1,rfl,rfl,rfl,w1,hf⟩:=bI oA hf;obtain⟨_,_,_,_,a2,rfl,rfl,rfl,w2,hf⟩:=bI oA hf;obtain⟨_,_,_,_,a3,rfl,rfl,rfl,w3,hf⟩:=bI Y1 hf;obtain⟨_,_,_,_,a4,rfl,rfl,rfl,w4,hf⟩:=bI oA hf;obtain⟨_,_,_,_,a5,rfl,rfl,rfl,w5,hf⟩:=bI oA hf;obtain⟨_,_,_,_,a6,rfl,rfl,rfl,w6,hf⟩:=bI ah1 hf;obtain⟨_,_,_,_,a7,rfl,rfl,rfl,w7,hf⟩:=bI vI hf;obtain⟨_,_,_,_,a8,rfl,rfl,rfl,w8,hf⟩:=bI vI hf;obtain⟨_,_,_,_,a9,rfl,rfl,rfl,w9,hf⟩:=bI abV hf;obtain⟨_,_,_,_,a10,rfl,rfl,rfl,OM,hf⟩:=bI oA hf;obtain⟨_,_,_,_,a11,rfl,rfl,rfl,w11,hf⟩:=bI oA hf;obtain⟨_,_,_,_,a12,rfl,rfl,⟨v12,rfl,r12⟩,Ir,hf⟩:=bI adZ hf;obtain⟨_,_,_,_,a13,rfl,rfl,⟨v13,rfl,r13⟩,w13,hf⟩:=bI ah2 hf;obtain⟨_,_,_,_,a14,rfl,rfl,⟨v14,rfl,r14⟩,OR,hf⟩:=bI Y2 hf;obtain⟨_,_,_,_,a15,rfl,rfl,⟨v15,rfl,r15⟩,w15,hf⟩:=bI ad0 hf;obtain⟨_,_,_,_,a16,rfl,rfl,⟨v16,rfl,r16⟩,w16,hf⟩:=bI akh hf;obtain⟨_,_,_,_,a17,rfl,rfl,⟨v17,rfl,r17⟩,w17,hf⟩:=bI akg hf;obtain⟨_,_,_,_,a18,rfl,rfl,⟨vh,vp,rfl,rh,rp⟩,w18,rfl,rfl⟩:=bI Y3 hf;refine⟨⟨a0,a1,a2,a3,a4,a5,a6,a7,a8,a9,a10,a11,a12,a13,a14,a15,a16,a17,a18⟩,⟨v12,v13,v14,v15,v16,v17,vh,vp,rfl,⟨r12.xg,r13.xg,r14.xg,r15.xg,r16.xg,r17,rh,rp⟩⟩,?_⟩;rw[hx];simp only[Rows.uptoBulk,Rows.uptoBulkAll,Wt.wt] at*;omega
instance:Wt jr:=⟨λx=>Wt.wt x.code+Wt.wt x.key+Wt.wt x.val+1,λ_=>by omega⟩
theorem amn:nL 99 (λ_ _ cs (x:jr)=>cs=x.l):=λH enc W fuel cs x h=>by
 obtain⟨n,ds,hx,hf⟩:=jt [3,9,97] kQ h;obtain⟨_,_,_,_,a0,rfl,rfl,rfl,w0,hf⟩:=bI oA hf;obtain⟨_,_,_,_,a1,rfl,rfl,rfl,w1,hf⟩:=bI FH hf;obtain⟨_,_,_,_,a2,rfl,rfl,rfl,w2,rfl,rfl⟩:=bI Mr hf;refine⟨⟨a0,a1,a2⟩,rfl,?_⟩;rw[hx];simp only[Rows.uptoBulk,Rows.uptoBulkAll,Wt.wt] at*;omega
theorem akj:nL 55 (Iw 5 (λ_ _ cs (x:jr)=>cs=x.l)):=qI kQ kQ dQ amn
def wtN (n:Int):Nat:=if n<2^63 then 1 else 1073741824
instance:Wt iV:=⟨λx=>Wt.wt x.kind+Wt.wt x.gL+wtN x.n+Wt.wt x.m+Wt.wt x.prog+Wt.wt x.cH+1,λ_=>by omega⟩
theorem akk:nL 57 iV.rd:=λH enc W fuel cs x h=>by
 obtain⟨n,ds,hx,hf⟩:=jt [3,3,3,54,55,43] kQ h;obtain⟨_,_,_,_,a0,rfl,rfl,rfl,w0,hf⟩:=bI oA hf;obtain⟨_,_,_,_,a1,rfl,rfl,rfl,w1,hf⟩:=bI oA hf;obtain⟨_,_,_,_,a2,rfl,rfl,⟨rfl,hb⟩,w2,hf⟩:=bI Nt hf;obtain⟨_,_,_,_,a3,rfl,rfl,⟨vk,vs,vw,vp,vr,vc,vh,vd,rfl,r3⟩,w3,hf⟩:=bI amm hf;obtain⟨_,_,_,_,a4,rfl,rfl,⟨v4,rfl,r4⟩,w4,hf⟩:=bI akj hf;obtain⟨_,_,_,_,a5,rfl,rfl,⟨v5,rfl,r5⟩,w5,rfl,rfl⟩:=bI ad0 hf;have hn:wtN a2=1:=if_pos (by have:=hb.2;omega);refine⟨⟨a0,a1,a2,a3,a4,a5⟩,⟨vk,vs,vw,vp,vr,vc,vh,vd,v4,v5,rfl,⟨r3,r4.xg,r5.xg⟩⟩,?_⟩;rw[hx];simp only[Rows.uptoBulk,Rows.uptoBulkAll,Wt.wt] at*;omega
theorem Y4:nL 22 (Iw 41 iV.rd):=qI kQ kQ dQ akk
theorem uF {α:Type} [Wt α] {l:List α} {B:Nat} (h:Wt.wt l<=B):l.length<=B:=by
 have h':(l.map Wt.wt).sum+1<=B:=h;have:=afW l;omega
theorem abW {s:BA} {B:Nat} (h:Wt.wt s<=B):s.size<=B:=by
 have:s.size+1<=B:=h;omega
theorem amo {x:KV} {B:Nat} (h:Wt.wt x<=B):x.key.size<=B:=by
 have:(x.key.size+1)+(Wt.wt x.val.kind+Wt.wt x.val.num+(x.val.text.size+1)+1)+1<=B:=h;omega
theorem Y5 {l:List KV} {B:Nat} (h:Wt.wt l<=B) (hB:B<=2^40): ∀x∈l,x.key.size<=2^40:=λx hx=>by
 have h':(l.map Wt.wt).sum+1<=B:=h;have:=amo (B:=B) (ad (FI hx) zQ);omega
theorem Y6 {l:List BA} {B:Nat} (h:Wt.wt l<=B) (hB:B<=2^40): ∀k∈l,k.size<=2^40:=λx hx=>by
 have h':(l.map Wt.wt).sum+1<=B:=h;have:=abW (B:=B) (ad (FI hx) zQ);omega
theorem akl {l:List gr} {B:Nat} (h:Wt.wt l<=B) (hB:B<=2^40):LR l/\adx l:=by
 have h':(l.map Wt.wt).sum+1<=B:=h;have key: ∀p∈l,Wt.wt p.reads<=B/\Wt.wt p.writes<=B:=λp hp=>by
  have h1:Wt.wt p.aR+Wt.wt p.aV+Wt.wt p.reads+Wt.wt p.writes+1<=(l.map Wt.wt).sum:=FI hp;omega
 refine⟨λp hp=>?_,λp hp=>⟨Y6 (key p hp).1 hB,Y5 (key p hp).2 hB⟩⟩;have h1:=uF (key p hp).1;have h2:=uF (key p hp).2;omega
theorem akm {l:List kJ} {B:Nat} (h:Wt.wt l<=B) (hB:B<=2^40):LQ l/\adw l:=by
 have h':(l.map Wt.wt).sum+1<=B:=h;have key: ∀p∈l,Wt.wt p.key<=B/\Wt.wt p.mZ<=B:=λp hp=>by
  have h1:Wt.wt p.key+Wt.wt p.mZ+1<=(l.map Wt.wt).sum:=FI hp;omega
 exact⟨λp hp=>ad (uF (key p hp).2) hB,λp hp=>ad (abW (key p hp).1) hB⟩
theorem Y7 {s:State} {B:Nat} (h:Wt.wt s<=B) (hB:B<=2^40):s.small:=by
 have h':Wt.wt s.range+Wt.wt s.floor+Wt.wt s.closed+Wt.wt s.iD+Wt.wt s.hU+1<=B:=h;obtain⟨a2,a3⟩:=akm (l:=s.iD) (B:=B) zQ hB;obtain⟨b2,b3⟩:=akl (l:=s.hU) (B:=B) zQ hB;exact⟨a2,b2,a3,b3⟩
theorem amp {r:Rec} {B:Nat} (h:Wt.wt r<=B) (hB:B<=2^40):r.small:=by
 have h':Wt.wt r.kind+Wt.wt r.aR+Wt.wt r.aV+Wt.wt r.prev+Wt.wt r.jJ+Wt.wt r.n+Wt.wt r.tZ+Wt.wt r.reads+Wt.wt r.writes+Wt.wt r.parts+Wt.wt r.xd+Wt.wt r.state+1<=B:=h;have h1:=uF (l:=r.reads) (B:=B) zQ;have h2:=uF (l:=r.writes) (B:=B) zQ;exact⟨by omega,by omega,Y6 (l:=r.reads) (B:=B) zQ hB,Y5 (l:=r.writes) (B:=B) zQ hB,Y7 (s:=r.state) (B:=B) zQ hB⟩
theorem Nu (s:BA):(wE s).length<=120*Wt.wt s:=by
 have h1:=zW s;have h2:=fz s.size
 show _<=120*(s.size+1)
 omega
theorem Pz (x:KV):(sE x).length<=120*Wt.wt x:=by
 have h1:=Nu x.key;have h2:=Y8 (v:=x.val);have h3:Wt.wt x=Wt.wt x.key+Wt.wt x.val+1:=rfl
 grind [sE]
theorem yy {α:Type} [Wt α] {f:α->List Nat} (l:List α) (h: ∀x,(f x).length<=120*Wt.wt x):(iU f l).length<=120*Wt.wt l:=by
 have h1:(l.map f).flatten.length<=120*(l.map Wt.wt).sum:=by
  induction l with
  |nil=>simp
  |cons x l ih=>grind
 have h2:=fz (l.length:Int);have h3:Wt.wt l=(l.map Wt.wt).sum+1:=rfl;unfold iU
 grind
theorem akn (n:Int):(encI n).length<=120*Wt.wt n:=by
 have:=fz n
 show _<=120*1
 omega
theorem afX (v:pQ):(zp v).length<=120*Wt.wt v:=by
 have h1:=uV v.aV;have h2:=Y8 (v:=v.val);have h3:Wt.wt v=4+Wt.wt v.val+1:=rfl
 grind [zp]
theorem ako (h:kJ):(Cu h).length<=120*Wt.wt h:=by
 have h1:=Nu h.key;have h2:=yy h.mZ afX;have h3:Wt.wt h=Wt.wt h.key+Wt.wt h.mZ+1:=rfl
 grind [Cu]
theorem akp (p:gr):(za p).length<=120*Wt.wt p:=by
 have h1:=Dn p.aR;have h2:=uV p.aV;have h3:=yy p.reads Nu;have h4:=yy p.writes Pz;have h5:Wt.wt p=Y9 p.aR+4+Wt.wt p.reads+Wt.wt p.writes+1:=rfl;have h6:=SQ p.aR;unfold za;simp only[aa];omega
theorem akq (s:State):(encS s).length<=120*Wt.wt s:=by
 have h1:=fz s.range.id;have h2:=fz s.range.iC;have h3:=uV s.floor;have h4:=uV s.closed;have h5:=yy s.iD ako;have h6:=yy s.hU akp;have h7:Wt.wt s=Wt.wt s.range+4+4+Wt.wt s.iD+Wt.wt s.hU+1:=rfl;unfold encS Ru;simp only[aa,PA];omega
theorem akr (r:Rec):(fZ r).length<=120*Wt.wt r:=by
 have h':Wt.wt r=Wt.wt r.kind+Y9 r.aR+4+4+Wt.wt r.jJ+Wt.wt r.n+Wt.wt r.tZ+Wt.wt r.reads+Wt.wt r.writes+Wt.wt r.parts+Wt.wt r.xd+Wt.wt r.state+1:=rfl;have k0:=SQ r.aR;have k1:=fz r.kind;have k2:=akq r.state;have k3:=fz r.n;have k4:=Dn r.aR;have k5:=uV r.aV;have k6:=uV r.prev;have k7:=yy r.reads Nu;have k8:=yy r.writes Pz;have k9:=yy r.xd Pz;have k10:=yy r.parts akn;have k11:=PA r.tZ;have k12:(ad1 r.jJ).length=1:=rfl;unfold fZ;rw[aa];repeat' split
 all_goals (try unfold za);(try simp only[aa,bz]);omega
theorem amq {m:bZ} {B:Nat} (h:Wt.wt m<=B) (hB:B<=1048576):m.small/\m.lens<=2^62:=by
 have h':Wt.wt m.kind+Wt.wt m.fr+Wt.wt m.to+Wt.wt m.aR+Wt.wt m.range+Wt.wt m.iC+Wt.wt m.code+Wt.wt m.aV+Wt.wt m.prev+Wt.wt m.jJ+Wt.wt m.n+Wt.wt m.mx+Wt.wt m.keys+Wt.wt m.seen+Wt.wt m.writes+Wt.wt m.parts+Wt.wt m.ranges+Wt.wt m.bp+Wt.wt m.state+1<=B:=h;have a1:=Y7 (s:=m.state) (B:=B) zQ zQ;have l1:=uF (l:=m.keys) (B:=B) zQ;have l2:=uF (l:=m.seen) (B:=B) zQ;have l3:=uF (l:=m.writes) (B:=B) zQ;have l4:=uF (l:=m.parts) (B:=B) zQ;have l5:=uF (l:=m.ranges) (B:=B) zQ;have l6:=uF (l:=m.bp) (B:=B) zQ;have hr: ∀r∈m.bp,Wt.wt r<=B:=λr hr=>by
  have h1:Wt.wt m.bp=(m.bp.map Wt.wt).sum+1:=rfl;have:=FI hr;omega
 refine⟨⟨by omega,by omega,λr h=>amp (hr r h) zQ,λr h _=>?_,a1⟩,?_⟩
 ·have:=akr r;have:=hr r h;omega
 ·unfold bZ.lens;omega
theorem aok {o:iV} {B:Nat} (h:Wt.wt o<=B) (hB:B<=1048576):YX o:=by
 have h':Wt.wt o.kind+Wt.wt o.gL+wtN o.n+Wt.wt o.m+Wt.wt o.prog+Wt.wt o.cH+1<=B:=h;obtain⟨a,b⟩:=amq (m:=o.m) (B:=B) zQ hB;have c:=uF (l:=o.prog) (B:=B) zQ;refine⟨a,b,by omega,?_⟩;apply eH;intro e;have:wtN o.n=1073741824:=if_neg e;omega
theorem Rv {l:List iV} {B:Nat} (h:Wt.wt l<=B) (hB:B<=1048576):(∀o∈l,YX o)/\nH l<=B:=by
 have h':(l.map Wt.wt).sum+1<=B:=h;refine⟨λo ho=>aok (B:=B) (ad (FI ho) zQ) hB,?_⟩;have:nH l<=(l.map Wt.wt).sum:=by
  clear h h';unfold nH
  induction l with
  |nil=>simp
  |cons o l ih=>
   have h1:Wt.wt o.kind+Wt.wt o.gL+wtN o.n+Wt.wt o.m+Wt.wt o.prog+Wt.wt o.cH+1=Wt.wt o:=rfl;have h2:o.m.seen.length<=Wt.wt o.m:=by
    have:=uF (l:=o.m.seen) (B:=Wt.wt o.m) (by simp only[Wt.wt];omega);exact this
   simp only[List.map_cons,List.sum_cons];omega
 omega
namespace coordEnds
theorem ah3 (H:Type) (enc:TypeId×Value->H) (W:World) (base:Nat) (args:Array Value) (ds gs:List (DataW H)) (before:List MemPlace)
  (PB: ∀(j:Nat) t v,Tryz.f3.params[j]? =some t->args[j]? =some v->Value.okWide pg W .any base t v)
  (hW:DataW.Whole enc pg Tryz.f3.params.toList Rows.coordEndsSpec.vars false W args.toList ds gs before) (hk:Rows.uptoSmall H (ds++gs)=true):
  Calls pg 3 args W λe W'=> ∃v,e= .returned v/\Rows.coordEndsSpec.post enc pg Tryz.f3 false true false false W args v W':=by
 have hW':=hW;obtain⟨p,q,hA0,hV,rfl,hfz,tc⟩:=hW;have hA:DataW.TrodAll enc pg W 0 (λ_=>true) true Tryz.f3.params.toList args.toList ds p:=hA0;rw[Tryz.params3] at hA PB;obtain⟨v0,vs0,d0,ds0,p0,q0,ai8,rfl,rfl,h0,r0⟩:=trodAll_cons hA;obtain⟨v1,vs1,d1,ds1,p1,q1,rfl,rfl,rfl,h1,r1⟩:=trodAll_cons r0;obtain⟨rfl,rfl,rfl⟩:=trodAll_nil r1;obtain rfl:args= #[v0,v1]:=by cases args;simp_all
 obtain⟨rfl,rfl⟩:=trodVars_none hV;obtain⟨b0,n0,c0,rfl⟩:=okWide_slice Tryz.underlying22 (PB 0 22 v0 rfl rfl);obtain⟨b1,n1,c1,rfl⟩:=okWide_slice Tryz.underlying22 (PB 1 22 v1 rfl rfl);obtain⟨f0,hf0⟩:=h0;obtain⟨x0,⟨u0,hu0,r0'⟩,wt0⟩:=Y4 H enc W f0 _ _ hf0;obtain rfl:u0= .slice b0 n0 c0:=by grind [Value.cells]
 obtain⟨f1,Df⟩:=h1;obtain⟨x1,⟨u1,hu1,r1'⟩,wt1⟩:=Y4 H enc W f1 _ _ Df;obtain rfl:u1= .slice b1 n1 c1:=by grind [Value.cells]
 have hbk:=bound hk;have ht0:Wt.wt x0<=Rows.uptoBulk d0:=wt0;have ht1:Wt.wt x1<=Rows.uptoBulk d1:=wt1;have hw:Wt.wt x0+Wt.wt x1<=1048576:=by
  simp only[gI,Rows.uptoBulkAll] at hbk ht0 ht1;omega
 obtain⟨k1,k2⟩:=Rv (l:=x0) (B:=1048576) zQ (aq _);obtain⟨k3,k4⟩:=Rv (l:=x1) (B:=1048576) zQ (aq _);have k5:=(Rv (l:=x0) (B:=Wt.wt x0) (aq _) zQ).2;have k6:=(Rv (l:=x1) (B:=Wt.wt x1) (aq _) zQ).2;refine(Rt (X:=bV W) r0' r1' k1 k3 zQ W (Kp.refl _ _)).mono λe W' ⟨v,he,xe,hq⟩=>?_;subst he;subst hq;exact⟨_,rfl,ah4 Za Tryz.underlying4 rfl rfl kQ ⟨rfl,rfl,rfl⟩ hW' (by have h9:=hA0;simp only[gI] at h9⊢;exact h9) xe⟩
theorem lifted (os:Os) (started:os.Started) (H:Type) (enc:TypeId×Value->H) (F:Stop.Interp):
  ReturnsInHanded {} Tryz.checked os 3 .any ((Rows.OpenSpec.upto Rows.coordEndsSpec).pre6 enc pg Tryz.f3 Rows.coordEndsUptoRow.domain false) (((Rows.OpenSpec.upto Rows.coordEndsSpec).at F).post enc pg Tryz.f3 false true false false):=by
 refine returnsInHanded_of_cond (C:=Tryz.checked) (s:=Rows.OpenSpec.upto Rows.coordEndsSpec) (k:=Rows.uptoSmall) rfl ah5 started kQ Tryz.func3
  (OpenSpec.witness (enc:=enc) (C:=Tryz.checked) (s:=Rows.OpenSpec.upto Rows.coordEndsSpec) (k:=Rows.uptoSmall) rfl false ⟨#[],#[.slice none 0 0,.slice none 0 0],[]⟩ 8 kQ (by rfl) kQ
   (x:=([.nil,.nil],[],[])) kQ rfl (by rfl)) ?_
 intro W base args ds gs before PB hW _ hk _;exact ah3 H enc W base args ds gs before PB hW hk
theorem aol:((Rows.coordEndsUptoRow).unfollowed==pg.unfollowed 3)=true:=by kernel_rfl
theorem aom:((Rows.coordEndsUptoRow).recurses==pg.recurses 3)=true:=by kernel_rfl
theorem afY:((Rows.coordEndsUptoRow).inPlace==pg.inPlace 3)=true:=by kernel_rfl
theorem aks:((Rows.coordEndsUptoRow).named==pg.varsNamed 3)=true:=by kernel_rfl
theorem aa1:mapsRowed pg=true:=by kernel_rfl
theorem akt:(pg.stops==[])=true:=by kernel_rfl
theorem aku:(pg.stopKnobs==[])=true:=by kernel_rfl
theorem akv:pg.stopsHeard=true:=by kernel_rfl
theorem aon:pg.mayEnter=true:=by kernel_rfl
theorem amr:((Rows.coordEndsUptoRow).plainKeys==pg.plainKeys)=true:=by kernel_rfl
theorem ah6:((Rows.coordEndsUptoRow).lifted==pg.liftsFinal)=true:=by kernel_rfl
theorem ams:(pg.make==some (Rows.coordEndsUptoRow).make)=true:=by kernel_rfl
theorem amt:joinedFacts pg 3 Tryz.f3 (Rows.OpenSpec.upto Rows.coordEndsSpec).bare Rows.coordEndsUptoRow=true:=by
 unfold joinedFacts;simp only[Bool.and_eq_true]
 and_intros<;>first|with_reducible exact Za|with_reducible exact aol|with_reducible exact aom|with_reducible exact afY|with_reducible exact aks|with_reducible exact aa1|with_reducible exact akt|with_reducible exact aku|with_reducible exact akv|with_reducible exact aon|with_reducible exact amr|with_reducible exact ah6|with_reducible exact ams|kernel_rfl
theorem proved:Rows.CoordEndsUptoSaid:=
 OpenClaim.holds_of_cond 3 Tryz.f3 rfl rfl rfl rfl rfl rfl rfl ⟨rfl,rfl,rfl,rfl,rfl⟩ rfl rfl rfl rfl rfl kQ Tryz.func3 amt
  (of_decide_eq_true kQ) (by unfold Func.isWrapper;first|(rw[if_pos (by decide+kernel)];kernel_rfl)|(rw[if_neg (by decide+kernel)];exact⟨rfl,rfl⟩))
  (λos started H enc _ F=>lifted os started H enc F)
#print axioms proved
end coordEnds
end Go.Proofs.YtgfijddlkhkopaaGreat