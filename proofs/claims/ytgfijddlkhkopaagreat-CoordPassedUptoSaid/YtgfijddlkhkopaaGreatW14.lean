/- Part 14 of the proof. -/
import Derived.Test.YtgfijddlkhkopaaGreatW13
set_option linter.all false
open Nat renaming le_trans → ad, le_refl → au, zero_le → aq, le_add_right → jV, lt_of_lt_of_le → aw, le_succ → dK, le_of_not_lt → Ba
open Go.Value renaming tuple → dr
open List renaming length_map → af, mem_singleton → av, length_append → aa, length → ba, map_append → aC, mem_of_getElem? → ay, length_nil → br, take_add_one → bT, length_singleton → bR, getElem?_map → cP
open Classical renaming byContradiction → dB
namespace Go.Proofs.YtgfijddlkhkopaaGreat
open Go.Proofs.Tryz renaming prog → pg
open Go.aK
set_option maxRecDepth 100000
set_option maxHeartbeats 4000000
attribute [local irreducible] un jn jc iE ld1 iw st1 kY kZ oP rF o9 Hg Dz gO ga aV lK lB eW eV eU eC eF gE me fin iu bu eB vS Kz Hh Hi Hj Hk Hl KA KB KC KD Et Eu Hm Hn Ho KE KF KG
theorem afD {l:List (List Nat)} (h: ∀p∈l,wU p):wU (flat l):=λx hx=>by
 obtain⟨y,hy,hx⟩:=List.mem_flatten.1 hx;obtain⟨z,hz,rfl⟩:=List.mem_map.1 hy;exact T6 (h z hz) x hx
variable {m : DM}
theorem oU.aqG {dir:ByteArray} {pre:List dV} {s:dV} {lr:List Nat} {sf:Nat} (h:oU dir pre s lr sf m) (hg:Good (pre++[s])) (ht:wU lr): ∀n,wU (m.bytes n):=λn=>by
 cases hq:m.get n with
 |none=>unfold DM.bytes;rw[hq];intro x hx;cases hx
 |some y=>
  have hm:=h.ks.mem_iff.1 (DM.get_some.1 (by rw[hq];rfl));obtain⟨t,xE,rfl⟩:=List.mem_map.1 hm;have hb:wU (flat t.bt):=afD λp hp=>((hg.ok t xE).pl p hp).2;rcases List.mem_append.1 xE with xE|xE
  ·rw[vj (h.body t xE)];exact hb
  ·simp only[av] at xE;subst xE;rw[vj h.last];exact ub hb ht
variable {P : lF -> Prop} {k : Nat}
theorem yr.OW (h:yr k P m) (cN:List Int):(∀x∈(m.mh cN).fs,x.1.size<=2^40)/\(m.mh cN).fs.length<=64/\ ∀n,wU ((m.mh cN).bytes n):=by
 obtain⟨pre,s,lr,sf,_,hg,ht,hbt,hd⟩:=h.2 cN;refine⟨λx hx=>?_,?_,hd.aqG hg hbt⟩
 ·have hm:x.1∈(m.mh cN).ks:=List.mem_map.2 ⟨x,hx,rfl⟩;obtain⟨t,_,e⟩:=List.mem_map.1 (hd.ks.mem_iff.1 hm);rw[<-e,A1]
  decide
 ·have h1:=congrArg ba (OY m cN);rw[DM.vQ,DM.vQ] at h1;rw[h1];exact h.1
theorem yr.names (h:yr k P m): ∀x∈m.fs,x.1.size<=2^40:=λx hx=>by
 have hm:x.1∈(m.mh []).ks:=by rw[OY];exact List.mem_map.2 ⟨x,hx,rfl⟩
 obtain⟨y,hy,e⟩:=List.mem_map.1 hm;rw[<-e];exact(h.OW []).1 y hy
inductive CS where
 |up (n:bE)
 |dn (nb:Nat) (m:DM) (P:lF->Prop)
def CS.nb:CS->Nat
 | .up n=>n.nb
 | .dn nb _ _=>nb
def CS.out:CS->Value
 | .up n=>.agg #[n.vm,n.va]
 | .dn _ _ _=>.agg #[aP,aP]
def CS.LF:CS->CS
 | .up n=>.up (fb n)
 | .dn nb m P=>.dn nb m P
def CS.Is (w:World) (own:Nat->Nat) (db:Nat):CS->Prop
 | .up n=>jd w own n/\n.db=db
 | .dn nb m _=>VW w own nb db m
def CS.adL (w:World) (own:Nat->Nat):CS->Prop
 | .up n=>AR w own n
 | .dn _ _ _=>True
def CS.Ok (k N:Nat):CS->Prop
 | .up n=>gM k N n
 | .dn _ m P=>DnS k P m
structure QW (a:lF) (n:bE):Prop where
 abs:n.abs=(a.1+1,a.2)
 gG:n.c.gG=0
 al:n.al=[]
 ds:n.ds=HK
 ms:n.ms=[]
 ra:n.ra=[]
 we: ∀b∈n.cl,Yg (n.C b)
theorem DM.ahV (m:DM) (z:Int):(m.mj z).fs=m.fs/\(m.mj z).dn=m.dn:=by
 unfold DM.mj;split<;>exact⟨rfl,rfl⟩
theorem wq.mj {L:LM} {a:lF} (h:wq ⟨L,m⟩ k a) (z:Int):wq ⟨L,m.mj z⟩ k a:=by
 obtain⟨pre,sg,h1,h2,h3,h4⟩:=h;obtain⟨e1,e2⟩:=m.ahV z;have eg: ∀n,(m.mj z).get n=m.get n:=λn=>by unfold DM.get;rw[e1]
 have ek:(m.mj z).ks=m.ks:=by unfold DM.ks;rw[e1]
 have es:(m.mj z).sz=m.sz:=by unfold DM.sz;rw[e1]
 refine⟨pre,sg,⟨h1.bC,h1.g,⟨?_,?_,λt ht=>?_,?_,h1.d.sf⟩,?_,?_,?_,h1.d1,h1.d2,h1.r1,h1.r2⟩,h2,h3,h4⟩
 ·show(m.mj z).ks.Nodup;rw[ek];exact h1.d.nd
 ·show(m.mj z).ks.Perm _;rw[ek];exact h1.d.ks
 ·show(m.mj z).get _=_;rw[eg];exact h1.d.body t ht
 ·show(m.mj z).get _=_;rw[eg];exact h1.d.last
 ·show(m.mj z).dn=false;rw[e2];exact h1.dn
 ·show(m.mj z).sz<=_;rw[es];exact h1.sz
 ·show(m.mj z).fs.length<=_;rw[e1];exact h1.fl
variable {n : bE} {N : Nat}
def gM.mj (h:gM k N n) (z:Int):gM k N { n with m:=n.m.mj z } :=
 ⟨⟨h.ok.id,h.ok.act,h.ok.ds,h.ok.ms,h.ok.vm,h.ok.va,h.ok.rm,h.ok.ra,h.ok.cl,h.ok.W5,h.ok.mM,h.ok.pre,h.ok.cw,h.ok.byT⟩,h.bl,h.log.mj z,h.gG,h.aW,λt b hg=>let q:=h.act t b hg;⟨q.co,q.aW,q.sq,q.bl⟩,h.abs,h.Bz⟩
def Ys:CS->lu->bL->CS->Prop
 | .up n,o,t,s1=>(o.kind=1/\t=jk n/\ ∃n1,s1= .up n1/\ME n o.prog n1)\/(o.kind=2/\t= .zero/\((∃n1,s1= .up n1/\wY n o.m n1)\/ ∃m',s1= .dn n.nb m' (adK n o.m)/\DW n o.m m'))\/(o.kind=3/\t= .zero/\ ∃n1,s1= .up n1/\QL n n1)\/
   (o.kind=4/\t= .zero/\s1= .up { n with m:=n.m.mj o.n })\/(o.kind=5/\t= .zero/\ ∃n1,s1= .up n1/\QW n.abs n1)\/((o.kind<1\/5<o.kind)/\t= .zero/\s1= .up n)
 | .dn nb m P,o,t,s1=>(o.kind=5/\t= .zero/\ ∃n1 a,s1= .up n1/\P a/\A8 a/\QW a n1)\/(o.kind≠5/\t= .zero/\s1= .dn nb m P)
variable {w w' w0 wa : World} {X X' : XS} {own aI bZ : Nat -> Nat} {n' n1 : bE} {db : Nat} {NX : Value -> World -> XS -> Prop} {R : Ending -> World -> Prop} {vc vd vh vk vo vp vq vr vs vw : Value} {o : lu} {s : CS}
theorem adM: ∀(i:Int) (r:dR),getM i (LA.foldl ib [])=some r->r.id=i:=λi r h=>by
 rw[QV] at h;exact aml h
theorem _root_.Go.aK.St.EZ {cN:List Int} (s:St w0 bZ w X own (Ua db m)) (hq:Sl w (bN own 4) 1 vq (cN.map I1)) (hc:yr k (λs=>P s/\A8 s) m) (hk:k<=190)
  (kk: ∀a w' X' aI n',Sn w0 bZ w' X' aI n'->n'.db=db->P a->A8 a->QW a n'->gM (k+1) N n'->NX (.tuple #[ptr n'.nb 0,I 0]) w' X'):
  eC pg R X w true 38 #[ptr db 0,vq] λ_ w X=>eC pg R X w true 37 #[] λv w X=>eC pg R X w true 36 #[ptr db 0,I 1,I 4096,v] NX:=by
 refine s.mh hq hc.names (by have:=hc.1;omega) λw1 X1 il s1=>?_;refine cd LC kQ s1.has ?_;rintro vl wb w2 X2 ju kF jt bp;obtain⟨nf,s3,-,-,p4⟩:=(s1.since bp).uW (N:=made wb w2) λq hq=>⟨jt q hq,s1.nw (ad kF hq.1)⟩;obtain⟨mb,l,_,hz⟩:=id (s3.get 3:Dk w2 (bN nf 3) db _);obtain⟨a,x,pre,sg,rs,⟨hP,hA⟩,hB⟩:=Go.Proofs.YtgfijddlkhkopaaGreat.EZ hc zQ cN hz;obtain⟨d1,d2,d3⟩:=hc.OW cN;refine s3.call (E1 (l:=LA) s3.h s3.x (ju.mono p4).sl Sv d1 zQ d3 hB.Bx hB.log hB.tF hB.kp hB.err) kQ λv w' X' aI n' s' ⟨hv,hO⟩ _=>?_;subst hv;exact kk a w' X' aI n' s' hO.db hP hA ⟨hO.abs,hO.gG,hO.al,hO.ds.trans QV,hO.ms,hO.ra,hO.we⟩ (gM.EZ hB hA hO adM zQ)
theorem sY.nb: ∀{ts:List bL} {n n1:bE},sY ts n n1->n1.nb=n.nb/\n1.db=n.db
 |[],n,n1,h=>by
  have:n1=n:=h;subst this;exact⟨rfl,rfl⟩
 |t::ts,n,n1,⟨n2,h1,h2⟩=>⟨(sY.nb h2).1.trans h1.tk.nb,(sY.nb h2).2.trans h1.tk.db⟩
theorem BX.nb: ∀{ts:List Nat} {n n1:bE},BX ts n n1->n1.nb=n.nb/\n1.db=n.db
 |[],n,n1,h=>by
  have:n1=n:=h;subst this;exact⟨rfl,rfl⟩
 |t::ts,n,n1,⟨n2,h1,h2⟩=>⟨(BX.nb h2).1.trans h1.tk.nb,(BX.nb h2).2.trans h1.tk.db⟩
theorem QL.nb (h:QL n n1):n1.nb=n.nb/\n1.db=n.db:=by
 obtain⟨ts,n2,_,h1,h2⟩:=h;exact⟨h2.nb.1.trans h1.nb.1,h2.nb.2.trans h1.nb.2⟩
def adN (own:Nat->Nat) (wa w':World) (db:Nat) (s:CS) (o:lu) (k N:Nat) (v:Value):Prop:=
 ∃aI s1 t,BY own aI wa.heap.size/\CS.Is w' aI db s1.LF/\CS.adL w' aI s1/\CS.Ok k N s1.LF/\v= .tuple #[ptr s1.nb 0,s1.out,t.v]/\Ys s o t s1
theorem CS.akj (s:CS):s.LF.nb=s.nb:=by cases s<;>rfl
theorem sT.out (hk:sT N k n):AR w own n:=⟨by rw[hk.vm,hk.rm];exact Sl.nil _ _ _,by rw[hk.rm,hk.ms];exact fQ.nil _ _,by rw[hk.va,hk.ra];exact Sl.nil _ _ _⟩
theorem adO (h:jd w own n) (hX:qW own X) (jL:gM k N n) (ho:o.at w (bN own 4) vk vs vw vp vr vc vh vd vo vq) (lX:o.m.small) (zm:o.m.lens<=2^62) (vO:o.prog.length<=2^30) (hn:o.n<2^63) (hk:k<=180) (hN:N+o.m.seen.length<=2^20):
  Ct pg 12 #[ptr n.db 0,ptr n.nb 0,.agg (o.l vk vs vw vp vr vc vh vd vo vq).toArray] w X (gy own) λv wa w'=>adN own wa w' n.db (.up n) o (k+1) (N+o.m.seen.length) v:=by
 intro w0 ix;have s0:=St.init h hX ix;have Yt:o.at w0 (bN own 4) vk vs vw vp vr vc vh vd vo vq:=by
  have m:=yG hX ix;exact⟨ho.m.mv m,ho.po.mv m,ho.p.mv m⟩
 clear h hX ix ho;have hcn:=jL.gG;have oJ:Cl n:=s0.get 12;have hs:=ai.init w0;refine E5.1 λ_=>?_;refine ij (Q:=λK=> ∀w X aI n',Sn w0 own w X aI n'->n'.nb=n.nb->n'.db=n.db->gM (k+1) (N+o.m.seen.length) n'->Ys (.up n) o .zero (.up n')->K w X) ?_ λK hK=>?_
 ·intro w1 X1 il n1 s1 e1 e2 h1 h2;clear hs;have hs:=s1.rf;repeat' refine ak ?_;intros
  exact s1.t.fin λwa nD=>⟨il,.up n1,.zero,s1.e,⟨s1.h.kp s1.x nD|>λh=>by rw[h1.ok.fb];exact h,by rw[h1.ok.fb];exact e2⟩,h1.ok.out,by show gM _ _ (fb n1);rw[h1.ok.fb];exact h1,by show _=dr #[ptr n1.nb 0,.agg #[n1.vm,n1.va],_];rw[e1,h1.ok.vm,h1.ok.va],h2⟩
 ·by_cases k1:o.kind=1
  ·repeat' refine aJ ?_;intros
   refine s0.call (KP s0.h s0.x jL.ok Yt.po vO ⟨hcn.1,by omega⟩) kQ λv w1 X1 il n' s1 q _=>?_;obtain⟨n1,⟨hC,_⟩,rfl,rfl,hO⟩:=q;have q1:=hO.om.one;have q2:=hO.oa.one;have lJ:n1.nb=n.nb/\n1.db=n.db:=by obtain⟨_,_,_,_,_,_,_,_,_,rfl,_⟩:=hC;exact⟨rfl,rfl⟩
   clear hs;have hs:=s1.rf;repeat' refine ak ?_;intros
   exact s1.t.fin λwa nD=>⟨il,.up n1,jk n,s1.e,⟨s1.h.kp s1.x nD,lJ.2⟩,hO.mv (yG s1.x nD),(jL.call hC zQ).up (au _) zQ (jV _ _),by show _=dr #[ptr n1.nb 0,.agg #[n1.vm,n1.va],_];rw[lJ.1],.inl ⟨k1,rfl,n1,rfl,hC⟩⟩
  by_cases k2:o.kind=2
  ·obtain⟨pre,sg,IE,_⟩:=jL.log;repeat' refine aJ ?_;intros
   refine s0.ajv (EX s0.h s0.x IE Yt.m jL.ok hN lX zm) kQ (λv w1 X1 il n' s1 q _=>?_) λw1 X1 il m' s1 hF=>?_
   ·obtain⟨n1,hC,rfl,rfl,hO⟩:=q;have q1:=hO.om.one;have q2:=hO.oa.one;have lJ:=hC.nb;clear hs;repeat' refine ak ?_;intros
    exact s1.t.fin λwa nD=>⟨il,.up n1,.zero,s1.e,⟨s1.h.kp s1.x nD,lJ.db⟩,hO.mv (yG s1.x nD),jL.step oJ hC zQ,by show _=dr #[ptr n1.nb 0,.agg #[n1.vm,n1.va],_];rw[lJ.nb],.inr (.inl ⟨k2,rfl,.inl ⟨n1,rfl,hC⟩⟩)⟩
   ·clear hs;repeat' refine ak ?_;intros
    exact s1.t.fin λwa nD=>⟨il,.dn n.nb m' (adK n o.m),.zero,s1.e,s1.h.kp s1.x nD,trivial,jL.aov hF zQ,rfl,.inr (.inl ⟨k2,rfl,.inr ⟨m',rfl,hF⟩⟩)⟩
  by_cases k3:o.kind=3
  ·repeat' refine aJ ?_;intros
   refine s0.call (XY s0.h s0.x jL.ok) kQ λv w1 X1 il n' s1 q _=>?_;obtain⟨n1,hC,rfl,rfl,hO⟩:=q;have q1:=hO.om.one;have q2:=hO.oa.one;have lJ:=hC.nb;clear hs;have hs:=s1.rf;repeat' refine ak ?_;intros
   exact s1.t.fin λwa nD=>⟨il,.up n1,.zero,s1.e,⟨s1.h.kp s1.x nD,lJ.2⟩,hO.mv (yG s1.x nD),(jL.tick oJ hC zQ).up (au _) zQ (jV _ _),by show _=dr #[ptr n1.nb 0,.agg #[n1.vm,n1.va],_];rw[lJ.1],.inr (.inr (.inl ⟨k3,rfl,n1,rfl,hC⟩))⟩
  by_cases k4:o.kind=4
  ·repeat' refine aJ ?_;intros
   refine s0.call (Oe (z:=o.n) s0.h s0.x hn) kQ λv w1 X1 il n' s1 ⟨_,q⟩ _=>?_;subst q;exact hK _ _ il _ s1 rfl rfl ((jL.mj o.n).up (dK _) zQ (jV _ _)) (.inr (.inr (.inr (.inl ⟨k4,rfl,rfl⟩))))
  by_cases k5:o.kind=5
  ·repeat' refine aJ ?_;intros
   refine s0.kst.EZ (N:=N+o.m.seen.length) Yt.p jL.crs zQ λa w1 X1 il n' s1 e1 ha haa hB ug=>?_;subst ha;clear hs;have hs:=s1.rf;repeat' refine aJ ?_;intros
   exact s1.t.fin λwa nD=>⟨il,.up n',.zero,s1.e,⟨s1.h.kp s1.x nD|>λh=>by rw[ug.ok.fb];exact h,by rw[ug.ok.fb];exact e1⟩,ug.ok.out,by show gM _ _ (fb n');rw[ug.ok.fb];exact ug.up (au _) zQ (au _),by show _=dr #[ptr n'.nb 0,.agg #[n'.vm,n'.va],_];rw[ug.ok.vm,ug.ok.va],.inr (.inr (.inr (.inr (.inl ⟨k5,rfl,n',rfl,hB⟩))))⟩
  ·repeat' refine aJ ?_;intros
   all_goals exact hK _ _ own n s0 rfl rfl (jL.up (dK _) zQ (jV _ _)) (.inr (.inr (.inr (.inr (.inr ⟨by omega,rfl,rfl⟩)))))
theorem adP {nb:Nat} (h:VW w own nb db m) (hX:qW own X) (jK:DnS k P m) (ho:o.at w (bN own 4) vk vs vw vp vr vc vh vd vo vq) (hn:o.n<2^63) (hk:k<=180):
  Ct pg 12 #[ptr db 0,ptr nb 0,.agg (o.l vk vs vw vp vr vc vh vd vo vq).toArray] w X (gy own) λv wa w'=>adN own wa w' db (.dn nb m P) o (k+1) (N+o.m.seen.length) v:=by
 intro w0 ix;have s0:=St.init h hX ix;have Yt:o.at w0 (bN own 4) vk vs vw vp vr vc vh vd vo vq:=by
  have m:=yG hX ix;exact⟨ho.m.mv m,ho.po.mv m,ho.p.mv m⟩
 clear h hX ix ho;have Kn:GC w0 (bI w0) nb:=s0.zO 1;have hs:=ai.init w0;have xB: ∀{w1 X1 il},St w0 own w1 X1 il (Ub nb db m)->o.kind≠5->aK.fin (uF (gy own) w0 λv w'=>adN own w0 w' db (.dn nb m P) o (k+1) (N+o.m.seen.length) v) X1 w1 (.tuple #[ptr nb 0,.agg #[aP,aP],.agg #[I 0,I 0,I 0]]):=λs1 CM=>
  s1.t.fin λwa nD=>⟨_,.dn nb m P,.zero,s1.e,s1.h.kp s1.x nD,trivial,jK.up (dK _),rfl,.inr ⟨CM,rfl,rfl⟩⟩
 refine E5.1 λ_=>?_;refine ij (Q:=λK=> ∀w X il,St w0 own w X il (Ub nb db m)->o.kind≠5->K w X) ?_ λK hK=>?_
 ·intro w1 X1 il s1 CM;clear hs;have hs:=s1.rf;repeat' refine ak ?_;intros
  exact xB s1 CM
 ·by_cases k1:o.kind=1
  ·repeat' refine aJ ?_;intros
   refine dL (Vb Kn Yt.po.one) kQ hs.has λw1 X1 ax=>?_;have s1:=s0.since ax;clear hs ax;have hs:=s1.rf;repeat' refine ak ?_;intros
   exact xB s1 zQ
  by_cases k2:o.kind=2
  ·repeat' refine aJ ?_;intros
   refine dL (Vc Kn Yt.m) kQ hs.has λw1 X1 ax=>?_;have s1:=s0.since ax;clear hs ax;have hs:=s1.rf;repeat' refine ak ?_;intros
   exact xB s1 zQ
  by_cases k3:o.kind=3
  ·repeat' refine aJ ?_;intros
   refine dL (Vd Kn) kQ hs.has λw1 X1 ax=>?_;have s1:=s0.since ax;clear hs ax;have hs:=s1.rf;repeat' refine ak ?_;intros
   exact xB s1 zQ
  by_cases k4:o.kind=4
  ·repeat' refine aJ ?_;intros
   refine s0.call (aaR (z:=o.n) s0.h s0.x hn jK.1) kQ λv w1 X1 il m' s1 ⟨_,q⟩ _=>?_;subst q;exact hK _ _ _ s1 zQ
  by_cases k5:o.kind=5
  ·repeat' refine aJ ?_;intros
   refine s0.aqE.EZ (N:=N+o.m.seen.length) Yt.p jK.2 zQ λa w1 X1 il n' s1 e1 ha haa hB ug=>?_;clear hs;have hs:=s1.rf;repeat' refine aJ ?_;intros
   exact s1.t.fin λwa nD=>⟨il,.up n',.zero,s1.e,⟨s1.h.kp s1.x nD|>λh=>by rw[ug.ok.fb];exact h,by rw[ug.ok.fb];exact e1⟩,ug.ok.out,by show gM _ _ (fb n');rw[ug.ok.fb];exact ug.up (au _) zQ (au _),by show _=dr #[ptr n'.nb 0,.agg #[n'.vm,n'.va],_];rw[ug.ok.vm,ug.ok.va],.inl ⟨k5,rfl,n',a,rfl,ha,haa,hB⟩⟩
  ·repeat' refine aJ ?_;intros
   all_goals exact hK _ _ _ s0 k5
theorem afE (h:CS.Is w own db s) (hX:qW own X) (jL:CS.Ok k N s) (ho:o.at w (bN own 4) vk vs vw vp vr vc vh vd vo vq) (lX:o.m.small) (zm:o.m.lens<=2^62) (vO:o.prog.length<=2^30) (hn:o.n<2^63) (hk:k<=180) (hN:N+o.m.seen.length<=2^20):
  Ct pg 12 #[ptr db 0,ptr s.nb 0,.agg (o.l vk vs vw vp vr vc vh vd vo vq).toArray] w X (gy own) λv wa w'=>adN own wa w' db s o (k+1) (N+o.m.seen.length) v:=by
 cases s with
 |up n=>
  obtain⟨h1,rfl⟩:=h;exact adO h1 hX jL ho lX zm vO hn hk hN
 |dn nb m P=>exact adP h hX jL ho hn hk
structure Yu where
 e:Int
 t:bL
 st:cx
 on:Bool
 vs:Value
abbrev Yu.l (a:Yu):List Value:=Ey a.e a.t a.st a.on a.vs
def ahW (t:bL) (sa:List Yu):Nat:=(sa.filter λa=>decide (a.t=t)).length
def Acc (d:Int) (n n1:bE) (sa:List Yu) (t:bL):Prop:=
 (∃b,getM t n.al=some b/\((getM t n1.al=some b/\(n.A b).x.wO+d<=(n1.A b).x.wO/\ahW t sa=0)\/(getM t n1.al=none/\ahW t sa=1)))\/(getM t n.al=none/\getM t n1.al=none/\ahW t sa=0)
section
variable {n2 : bE} {k' N' : Nat}
theorem LD.akk {n:Nat} {x:LD} (h:GL n x) (r:Rec):(x.iG r.fI.toNat (gf r)).2.2≠12/\GL (n+2) (x.iG r.fI.toNat (gf r)).1:=by
 rcases r.xN with e|e|e|e<;>rw[e]
 ·exact h.iG _
 all_goals exact⟨by simp[LD.iG],h.up zQ⟩
theorem gM.gl (h:gM k N n) (hm:my n.m) (hk:k<=250):GL 300 ⟨n.L,n.m⟩:=by
 obtain⟨pre,sg,h1,h2,h3,h4⟩:=h.log;have hB:=h1.ado;have hN:=h1.adp;have hs:n.L.bC=pre++[sg]:=h1.bC;refine⟨hm,by grind,h1.d1,h1.d2,λt ht=>⟨?_,?_⟩,?_,by omega⟩
 ·have ht:t∈pre++[sg]:=hs▸ht;have:=gB.top h1.g.lk h2.fst t ht;have:=h2.lens.2;omega
 ·grind
 omega
def gM.afF (h:gM k N n) (hm:my n.m) (hk:k<=250) (r:Rec):(jy n r).2.2≠12/\my (jy n r).1.m:=
 let q:=LD.akk (h.gl hm hk) r
 ⟨q.1,q.2.ok⟩
theorem gM.stays {m:cO} {m':DM} (h:gM k N n) (hm:my n.m) (hk:k<=250) (hs:DW n m m'):False:=by
 obtain⟨_,_,⟨_,b,i,y,hw,hl,xJ,_⟩|⟨_,b,i,hD,hl,xJ,_⟩⟩:=hs
 ·exact(h.afF hm hk _).1 xJ
 ·exact(h.afF hm hk _).1 xJ
end
variable {F G K K' T T' : XS} {b : Nat} {t0 : bL} {s' : CS} {args : Array Value} {f : FuncId} {a : Value}
def _root_.Go.aK.Hs.QX {F:Nat->pN} (h:Hs F w own) (e: ∀k,own k≠0->aI k=own k) (hl: ∀k,aI k≠0->k<w.heap.size):Hs F w aI:=
 ⟨λc h0 h4=>(F c).mv (h.gK c h0 h4) (Mv.sub λk (hk:own k=4)=>(e k zQ).trans hk) (Mv.sub λk (hk:own k=c)=>(e k zQ).trans hk),hl⟩
theorem CS.Is.mv (h:CS.Is w own db s) (hb: ∀k,own k≠0->w'.heap[k]? =w.heap[k]?) (hz:w.heap.size<=w'.heap.size):CS.Is w' own db s:=by
 cases s with
 |up n=>exact⟨h.1.mv hb hz,h.2⟩
 |dn nb m P=>exact Hs.mv h hb hz
theorem CS.Is.lt (h:CS.Is w own db s): ∀k,own k≠0->k<w.heap.size:=by
 cases s with
 |up n=>exact h.1.lt
 |dn nb m P=>exact Hs.lt h
theorem CS.Is.QX (h:CS.Is w own db s) (e: ∀k,own k≠0->aI k=own k) (hl: ∀k,aI k≠0->k<w.heap.size):CS.Is w aI db s:=by
 cases s with
 |up n=>exact⟨h.1.QX e hl,h.2⟩
 |dn nb m P=>exact Hs.QX h e hl
structure LS (w0:World) (bZ:Nat->Nat) (T:XS) (w:World) (X:XS) (own:Nat->Nat) (db:Nat) (s:CS):Prop where
 t:Ft w0 (gy bZ) w X (λk=>gy own k\/T k)
 h:CS.Is w own db s
 x: ∀k,own k≠0->X k
 e:BY bZ own w0.heap.size
 tz: ∀k,T k->own k=0
theorem LS.has (s':LS w0 bZ T w X own db s): ∀k,X k->k<w.heap.size:=s'.t.s.has
def LS.rf (s':LS w0 bZ T w X own db s):ai X w X w:=ai.eQ s'.has
def LS.since (q:LS w0 bZ T w X own db s) (hs:ai X w X' w'):LS w0 bZ T w' X' own db s:=
 ⟨q.t.since hs,q.h.mv (λk hk=>hs.kp.block k (q.x k hk)) hs.kp.size,λk hk=>hs.sub k (q.x k hk),q.e,q.tz⟩
theorem LS.call {P:Program} {N:Value->World->XS->Prop} {Q:Value->World->(Nat->Nat)->CS->Prop} (q:LS w0 bZ T w X own db s) (h:Ct P f args w X (gy own) λv wa w'=> ∃aI s1,BY own aI wa.heap.size/\CS.Is w' aI db s1/\Q v w' aI s1) (hf:enters P f=true)
  (k: ∀v w' X' aI s1,LS w0 bZ T w' X' aI db s1->Q v w' aI s1->Mv T w T w'->Mv (bN own 4) w (bN aI 4) w'->N v w' X'):eC P R X w true f args N:=
 q.t.call h hf (λ_ h=>.inl h) λv wa w' X' hq hle gn hT c=>by
  obtain⟨aI,s1,e,h',hQ⟩:=hq;have hz:=q.t.s.kp.size;have hx: ∀k,aI k≠0->X' k:=λk hk=>by
   by_cases AP:k<wa.heap.size
   ·exact c.sub k (q.x k λe0=>hk ((e k AP).1 e0))
   ·exact gn k ⟨by omega,h'.lt k hk⟩
  have hTX: ∀k,T k->X k:=λk hk=>q.t.bw k (.inr hk);have Lo: ∀k,T k->aI k=0:=λk hk=>(e k (aw (q.has k (hTX k hk)) hle)).1 (q.tz k hk);refine k v w' X' aI s1 ⟨hT.more λk hk=>?_,h',hx,λk hk=>?_,Lo⟩ hQ (λk hk _=>⟨hk,c.block k (hTX k hk) λh=>h.1 (q.tz k hk)⟩) λk (hk:own k=4) _=>⟨(e k (aw (q.has k (q.x k zQ)) hle)).2 hk,c.block k (q.x k zQ) λh=>h.2 hk⟩
  ·rcases hk with hk|hk
   ·by_cases AP:k<wa.heap.size
    ·exact .inl (.inl (.inl ⟨λe0=>hk.1 ((e k AP).1 e0),λe0=>hk.2 ((e k AP).2 e0)⟩))
    ·exact .inr ⟨hx k hk.1,by omega⟩
   ·exact .inl (.inl (.inr hk))
  ·have h1:=q.e k hk;have h2:=e k zQ;exact⟨λe0=>h2.1 (h1.1 e0),λe0=>h2.2 (h1.2 e0)⟩
theorem LS.uW (q:LS w0 bZ T w X own db s) (hK: ∀k,K k->X k/\w0.heap.size<=k/\own k=0/\ ¬T k): ∃aI,LS w0 bZ T w X aI db s/\(∀k,K k->aI k=4)/\ ∀k,own k=4->aI k=4:=by
 classical
 have c0: ∀k,own k≠0->(if K k then 4 else own k)=own k:=λk hk=>if_neg λe=>hk (hK k e).2.2.1;have hx: ∀k,(if K k then 4 else own k)≠0->X k:=λk hk=>by
  by_cases e:K k
  ·exact(hK k e).1
  ·rw[if_neg e] at hk;exact q.x k hk
 refine⟨λk=>if K k then 4 else own k,⟨q.t.more λk hk=>.inl ?_,q.h.QX c0 λk hk=>q.has k (hx k hk),hx,λk hk=>?_,λk hk=>?_⟩,λk hk=>if_pos hk,λk hk=>(c0 k zQ).trans hk⟩
 ·rcases hk with hk|hk
  ·have hk:(if K k then 4 else own k)≠0/\(if K k then 4 else own k)≠4:=hk;by_cases e:K k
   ·rw[if_pos e] at hk;exact absurd rfl hk.2
   ·rw[if_neg e] at hk;exact .inl hk
  ·exact .inr hk
 ·have h1:=q.e k hk;have: ¬K k:=λe=>by have:=(hK k e).2.1;omega
  exact⟨λe=>(if_neg this).trans (h1.1 e),λe=>(if_neg this).trans (h1.2 e)⟩
 ·exact(if_neg λe=>(hK k e).2.2.2 hk).trans (q.tz k hk)
def amo {P:Program} {F':XS} {Q:Value->World->World->Prop} (h:Ct P f args w X F Q) (hF: ∀k,F k->F' k):Ct P f args w X F' Q:=λwa hk=>(h wa hk).mono λ_ _ ⟨v,he,hf,hq⟩=>⟨v,he,hf.mono hF,hq⟩
theorem abP {N:Value->World->XS->Prop} (hk:Kp X w w0) (k: ∀db w1 X1 il,St w0 (λ_=>0) w1 X1 il (Ua db ⟨[],0,0,false⟩)->N (ptr db 0) w1 X1):eC pg R (bI w0) w0 true 35 #[] N:=by
 have s:St w0 (λ_=>0) w0 (bI w0) (λ_=>0) (λ_=>QF):=St.init (w:=w) (X:=X) ⟨λ_ _ _=>trivial,λk h=>absurd rfl h⟩ (λk h=>absurd rfl h) hk;refine cd adQ kQ s.has ?_;rintro _ wa w1 X1 ⟨db,rfl,hD⟩ hle gn ax;obtain⟨il,s1,-,-⟩:=(s.since ax).Ic (N:=made wa w1) 3 (dkR db ⟨[],0,0,false⟩) (λk hk=>⟨gn k hk,s.nw (ad hle hk.1)⟩) λ_=>hD;exact k db w1 X1 il (s1.to λc h0 h4 w K A h=>by rcases c with _|_|_|_|c<;>first|exact h|trivial)
theorem aaS:Ct pg 11 #[] w X nX λv wa w'=> ∃aI n,(∀k,aI k≠0->made wa w' k)/\jd w' aI n/\v= .tuple #[ptr n.db 0,ptr n.nb 0]/\gM 1 0 n/\QW (0,[]) n:=by
 have key:Ct pg 11 #[] w X (gy λ_=>0) λv wa w'=> ∃aI n,(∀k,aI k≠0->made wa w' k)/\jd w' aI n/\v= .tuple #[ptr n.db 0,ptr n.nb 0]/\gM 1 0 n/\QW (0,[]) n:=by
  intro w0 hk;refine LG.1 λ_=>?_;refine abP hk λdb w1 X1 il s1=>?_;have hs:=s1.rf;repeat' refine ak ?_;intros
  refine cd LC kQ s1.has ?_;rintro vl wb w2 X2 ju kF jt bp;obtain⟨nf,s3,-,-,p4⟩:=(s1.since bp).uW (N:=made wb w2) λq hq=>⟨jt q hq,s1.nw (ad kF hq.1)⟩;obtain⟨x,hB,_⟩:=ajw;refine s3.call (E1 (l:=LA) s3.h s3.x (ju.mono p4).sl Sv (λx hx=>absurd hx sQ) sQ (λn b hb=>absurd hb (by simp[DM.bytes,DM.get,getM])) hB.Bx hB.log hB.tF hB.kp hB.err) kQ λv w' X' aI n' s' ⟨hv,hO⟩ _=>?_;subst hv;have hds:=hO.db;subst hds;clear hs;repeat' refine aJ ?_;intros
  exact s'.t.fin λwa nD=>⟨aI,n',λk hk=>⟨Ba λhl=>hk ((s'.e k hl).1 rfl),aw (s'.h.lt k hk) nD.size⟩,s'.h.kp s'.x nD,rfl,gM.EZ hB (λx hx=>absurd hx sQ) hO adM zQ,⟨hO.abs,hO.gG,hO.al,hO.ds.trans QV,hO.ms,hO.ra,hO.we⟩⟩
 exact amo key λk hk=>absurd rfl hk.1
theorem adR {xs:List lu} (ha:fp w X 41 a lu.rd xs):
  Ct pg 10 #[a] w X nX λv _ _=> ∃b:Bool,v=B b/\(b=true->xs.length<=120):=by
 intro w0 hk;replace ha:=fp.mv ha lu.mv hk.bY;have kn:=ha.len;refine O3.1 λhs=>?_
 skip
 refine CC (λn a b c w X=> ∃(i:Nat) (s:Int),a=I i/\c=I s/\n=xs.length-i/\i<=xs.length/\ai (bI w0) w0 X w) xs.length ⟨0,_,rfl,rfl,rfl,aq _,hs⟩ ?_;rintro n a b c w X ⟨i,s,rfl,rfl,rfl,hi,hs⟩;rcases dE (xs) i with⟨cD,x,hx,hd⟩|⟨dD,hd⟩
 ·repeat' first|refine aJ ?_;intros|refine cM ?_ ?_<;>intros|(with_reducible apply E2);(case h=>assumption);(case hr=>exact hx);(case hz=>rfl);(case ht=>kernel_rfl);(case hs=>kernel_rfl);intros
  refine cd (CY (m:=x.m) (cO.at.mv (lu.at.m aQ) hs.mv)) kQ hs.has ?_;rintro _ wa w X ⟨n1,rfl⟩ hle gn ax;replace hs:=hs.trans ax;repeat' first|refine ak ?_;intros|refine cM ?_ ?_<;>intros|(refine qr ?_;intro wa hk;exact⟨_,rfl,by simp⟩)|(with_reducible apply E2);(case h=>assumption);(case hr=>exact hx);(case hz=>rfl);(case ht=>kernel_rfl);(case hs=>kernel_rfl);intros|with_reducible apply nK
  refine gv (λn a b w X=> ∃(k:Nat) (s:Int),a=I k/\b=I s/\n=x.prog.length-k/\k<=x.prog.length/\ai (bI w0) w0 X w) x.prog.length ⟨0,_,rfl,rfl,rfl,aq _,hs⟩ ?_;rintro n a b w X ⟨k,s,rfl,rfl,rfl,Jp,hs⟩;rcases dE x.prog k with⟨Xs,y,hy,tD⟩|⟨Gz,tD⟩
  ·repeat' first|refine aJ ?_;intros|(with_reducible apply E2);(case h=>assumption);(case hr=>exact hx);(case hz=>rfl);(case ht=>kernel_rfl);(case hs=>kernel_rfl);intros|with_reducible apply nK
   exact fw (x.prog.length-(k+1)) zQ ⟨k+1,_,by simp,rfl,rfl,by omega,hs⟩
  ·repeat' first|refine aJ ?_;intros|(with_reducible apply E2);(case h=>assumption);(case hr=>exact hx);(case hz=>rfl);(case ht=>kernel_rfl);(case hs=>kernel_rfl);intros
   exact AT (xs.length-(i+1)) zQ ⟨i+1,_,by simp,rfl,rfl,by omega,hs⟩
 ·repeat' first|refine aJ ?_;intros|refine cM ?_ ?_<;>intros
  all_goals exact bM hs λwa aH=>⟨_,rfl,λe=>by first|(simp at e;done)|(simp at e;omega)⟩
variable {gk : List BA}
theorem Yv (h: ∀k∈gk,k∈fq 1 1 BF\/ ∃o∈BF,k=o.key/\(o.code=2\/o.code=3)): ∀k∈gk,k=kEx:=λk hk=>by
 rcases h k hk with e|⟨o,ho,rfl,hc⟩
 ·rw[E3] at e;cases e
 ·rcases List.mem_cons.1 ho with rfl|ho
  ·exact absurd hc dQ
  ·rw[av] at ho;rw[ho]
theorem abQ: ∀gk:List BA,(∀k∈gk,k=kEx)->iV HK [(1,[kEx])] gk=([(1,[kEx])],0)
 |[],_=>rfl
 |k::r,h=>by
  have hg:iM kEx=true:=by kernel_rfl
  have e:=h k sQ;subst e;unfold iV;rw[if_pos hg,Yq];exact abQ r λk hk=>h k (by simp[hk])
theorem abR (hn:gk≠[]) (h: ∀k∈gk,k=kEx):iV HK [] gk=([(1,[kEx])],0):=by
 cases gk with
 |nil=>exact absurd rfl hn
 |cons k r=>
  have hg:iM kEx=true:=by kernel_rfl
  have e:=h k sQ;subst e;unfold iV;rw[if_pos hg,Yq];exact abQ r λk hk=>h k (by simp[hk])
theorem akl {ids:List Int} (h:Ij BF HK ids):ids=[1]:=by
 obtain⟨gk,hn,hk,_,rfl⟩:=h;rw[abR hn (Yv hk)];unfold mD;rw[show([((1:Int),[kEx])].map (·.1))=[1] from rfl,afy];rfl
theorem ahX: ¬OH BF HK:=by
 rintro(⟨e,wl,h,h2⟩|⟨gk,hn,hk,h⟩)
 ·have:=h E3 abO;rw[amm] at this;rcases h2 with h2|h2
  ·exact h2 this.1
  ·rw[this.2,afA] at h2;cases h2
 ·rw[abR hn (Yv hk)] at h;exact h rfl
structure ExN (n:bE):Prop where
 id:n.c.id=1
 aW:n.c.aW=1
 gG:n.c.gG=0
 ck:n.ck=⟨0,0,21⟩
 ds:n.ds=HK
 al:n.al=[]
structure ExC (n1:bE) (xb:Nat) (y:cO):Prop where
 g:getM LB n1.al=some xb
 pre:(n1.A xb).x.pre=true
 mw:(n1.A xb).x.mw= .zero
 ids:(n1.A xb).ids=[1]
 ws:(n1.A xb).ws=[y]
 oR:y.range=1
theorem akm (h:ExN n) (hC:ME n BF n1) (hE:Qj (tu BF n.ck 5 n.ds≠0\/OH BF n.ds) (Ij BF n.ds) n n1):jk n=LB/\n1.ra=[]/\ ∃xb y,ExC n1 xb y/\y.kind=3/\n1.ms=[y.pU (20+n.c.id)]:=by
 have ht:jk n=LB:=by unfold jk;rw[h.id,h.aW,h.gG];rfl
 refine⟨ht,?_⟩;unfold Qj at hE;rw[ht,h.ck,h.ds] at hE;obtain⟨xb,iq,KO,vm,va,rm,ra,ms,d,rfl,_,hc⟩:=hC;rcases hc with⟨a,rfl,_⟩|⟨rfl,rfl,hp,_,_,_,hl,_,rfl,cA,_,hw,hq⟩
 ·exact((hE.1 sQ).elim (λe=>e akh) ahX).elim
 ·have hg:getM LB (cL (jk n) xb n.al)=some xb:=by rw[ht];exact kj
  rcases hq with⟨_,_,_,_,q⟩|⟨amp,hr,hk⟩
  ·exact absurd E3 q
  ·have hi:d.ids=[1]:=by simpa using akl (hE.2 xb hg rfl (by simp[amp]))
   rw[hi] at hr;obtain⟨y,hy⟩:=List.length_eq_one_iff.1 ((by rw[<-af (f:=(·.range)),hr];rfl:d.ws.length=1));rw[hy] at hr;exact⟨rfl,xb,y,⟨hg,by simp[amp],by simp[hl],by simp[hi],by simp[hy],by simpa using hr⟩,(hk y (by rw[hy];simp)).1,by simp[hy]⟩
theorem akn {xb:Nat} {y:cO} (h:ExC n xb y) (TZ:n.ms=[]) (DC:n.ra=[]) (sR:n.c.id=1) (jL:gM k N n) (hk:k<=100) (hs:wY n HL n1):
  ∃vs m6,aK.one vs=true/\n1.ra=[Ey 0 LB Yr false vs]/\n1.ms=[m6]/\m6.jF=true/\n1.c.aW=n.c.aW:=by
 have no: ∀{q:Int},HL.kind=q->q=4:=λe=>e.symm;rcases hs with⟨q,rfl⟩|⟨_,_,⟨q,_⟩|⟨_,hs⟩|⟨q,_⟩|⟨q,_⟩|⟨_,q,_⟩⟩
 ·exact absurd ⟨aki,by rw[sR];rfl⟩ q
 ·exact absurd (no q) dQ
 ·rcases hs with⟨_,_,q⟩|⟨_,_,_,_,_,_,_,q,_⟩|⟨b,i,y',iq,lz,pJ,n2,hw,rfl,hc⟩
  ·exact(q xb 0 y ⟨h.g,h.pre,rfl,by rw[h.ws];rfl,h.oR⟩).elim
  ·exact absurd rfl q
  ·have hb:b=xb:=by have:=hw.g;rw[show HL.aO=LB from rfl,h.g] at this;exact(Option.some.inj this).symm
   subst hb;rcases hc with⟨q,_⟩|⟨_,hc⟩
   ·rw[h.ws] at q;exact absurd rfl q
   ·have e1:((eI n b (wW (n.A b) i HL lz pJ)).A b).x.mw=Yr:=by rw[jq];show(n.A b).x.mw.later HL.aS=_;rw[h.mw];exact ahU
    have e2:((eI n b (wW (n.A b) i HL lz pJ)).A b).ids=[1]:=by rw[jq];exact h.ids
    have ht:=jL.act LB b h.g;unfold QG VZ at hc;dsimp only at hc;rw[e1,e2,show HL.aO=LB from rfl] at hc;rcases hc with⟨xJ,h0,_⟩|⟨_,bx,DE,vp,v2,oB,vs,hv,_,A3,yL,rfl,_⟩
    ·rw[xQ afB] at xJ h0;rcases jL.log.iG (QU afB dQ (jL.Dg zQ ht)) (jL.V6 ht _ _) zQ with q|q
     ·exact absurd q.1 xJ
     ·exact absurd q.1 h0
    ·exact⟨vs,_,hv,by show n.ra++_=_;rw[DC];rfl,by show n.ms++_=_;rw[TZ];rfl,rfl,rfl⟩
 ·exact absurd (no q) dQ
 ·exact absurd (no q) dQ
 ·exact absurd rfl q
theorem ui:Ct pg 9 #[] w X nX λv w1 w2=>v=B true:=by
 have key:Ct pg 9 #[] w X (gy λ_=>0) λv wa w'=>v=B true:=by
  intro w0 hk;refine LH.1 λ_=>?_;refine abP hk λdb w1 X1 il s1=>?_;have hs:=s1.rf;repeat' refine ak ?_;intros
  refine cd LC kQ s1.has ?_;rintro vl wb w2 X2 ju kF jt bp;obtain⟨nf,s3,-,-,p4⟩:=(s1.since bp).uW (N:=made wb w2) λq hq=>⟨jt q hq,s1.nw (ad kF hq.1)⟩;obtain⟨x,hB,hmo⟩:=ajw;refine s3.call (E1 (l:=LA) s3.h s3.x (ju.mono p4).sl Sv (λx hx=>absurd hx sQ) sQ (λn b hb=>absurd hb (by simp[DM.bytes,DM.get,getM])) hB.Bx hB.log hB.tF hB.kp hB.err) kQ λv w' X' aI n' s' ⟨hv,hO⟩ _=>?_;subst hv;have jL:gM 1 0 n':=gM.EZ hB (λx hx=>absurd hx sQ) hO adM zQ;have hx:ExN n':=⟨hO.id,by have:=congrArg Prod.fst hO.abs;exact this,hO.gG,hO.ck,hO.ds.trans QV,hO.al⟩;have qU:my n'.m:=by have:=congrArg LD.m hO.ld;rw[show n'.m=_ from this];exact hmo
  clear hs;have hs:=s'.rf;repeat' refine aJ ?_;intros
  refine V7 (rows:=BF.map jD.l) (BF.map jD.l).flatten.toArray (.agg #[I 0,.string ⟨#[]⟩,I 0,.float .f64 0,.string ⟨#[]⟩]) hs.has (bytes:=56) kQ kQ zQ zQ kQ sQ rfl rfl λa w4 X4 fV FJ=>?_;have s4:=s'.since fV;obtain⟨lD,s5,-,-,p5⟩:=s4.uW (N:=fc a) λq hq=>⟨FJ.2.2 q hq,s'.nw (FJ.ge hq).1⟩;refine s5.call (KP (p:=BF) (gN:=5) s5.h s5.x jL.ok (xy FJ (Y:=bN lD 4) p5).sl dQ ⟨jL.gG.1,by rw[hx.gG];decide⟩) kQ λv w5 X5 mE n5 s6 q _=>?_;obtain⟨n1,⟨hC,hE⟩,rfl,rfl,hO5⟩:=q;obtain⟨ht,DC,xb,y,Yw,hy,TZ⟩:=akm hx hC hE;have ug:gM 2 0 (fb n1):=jL.call hC zQ;have qp:my (fb n1).m/\(fb n1).c.id=1/\(fb n1).c.aW=1:=by
   obtain⟨_,_,_,_,_,_,_,_,_,rfl,_⟩:=hC;exact⟨qU,hx.id,hx.aW⟩
  obtain⟨pre,sg,IE,_⟩:=ug.log;have HC:=hO5.oa;rw[DC] at HC;obtain⟨vab,van,vac,ha⟩:=HC.form;have Ut:=hO5.om;have HM:=hO5.hm;rw[TZ] at HM;obtain⟨l0,hl0⟩:=List.length_eq_one_iff.1 HM.1;rw[hl0] at HM Ut;obtain⟨u1,u2,u3,u4,u5,u6,u7,u8,rfl,dF⟩:=HM.2 0 l0 _ rfl rfl;obtain⟨vmb,vmn,vmc,hvm⟩:=Ut.form;rw[ht,ha,hvm];rw[ha] at HC;rw[hvm] at Ut;have lJ:n'.nb=(fb n1).nb:=by obtain⟨_,_,_,_,_,_,_,_,_,rfl,_⟩:=hC;rfl
  clear hs s' s4 s5;have hs:=s6.rf;repeat' refine ak ?_;intros
  rw[lJ];refine s6.ajv (EX (m:=HL) (vk:=Ur) (vs:=Ur) (vw:=Ur) (vp:=Ur) (vr:=Ur) (vc:=Ur) (vh:=Ur) (vd:=Ur) (gN:=5) s6.h s6.x IE ⟨Sl.nil _ _ _,Sl.nil _ _ _,Sl.nil _ _ _,Sl.nil _ _ _,Sl.nil _ _ _,fp.nil _ _ _,fp.nil _ _ _,fp.nil _ _ _⟩ ug.ok dQ afC ahT) kQ (λv w7 X7 Dd n7 s7 q m7=>?_) λw7 X7 Dd d7 s7 hF=>(ug.stays qp.1 zQ hF).elim;obtain⟨n2,hS,rfl,rfl,hO7⟩:=q;obtain⟨vs,m6,Up,al8,aqH,iF,QS⟩:=akn (n:=fb n1) ⟨Yw.g,Yw.pre,Yw.mw,Yw.ids,Yw.ws,Yw.oR⟩ rfl rfl qp.2.1 ug zQ hS;have x4: ∀k,bN Dd 4 k->X7 k:=s7.sub 4;have a1:Sl w7 X7 36 (.slice vmb vmn vmc) ([()].map λ_:Unit=>(y.pU (20+n'.c.id)).l u1 u2 u3 u4 u5 u6 u7 u8):=(Ut.mv m7).mono x4;have a2:Sl w7 X7 9 (.slice vab van vac) (([]:List (List Value)).map id):=(HC.mv m7).mono x4;have Yy:=hO7.oa;rw[al8] at Yy;obtain⟨ab6,an6,ac6,ha6⟩:=Yy.form;have Yz:=hO7.om;have YA:=hO7.hm;rw[aqH] at YA;obtain⟨l6,hl6⟩:=List.length_eq_one_iff.1 YA.1;rw[hl6] at YA Yz;obtain⟨q1,q2,q3,q4,q5,q6,q7,q8,rfl,aqI⟩:=YA.2 0 l6 _ rfl rfl;obtain⟨mb6,mn6,mc6,amq⟩:=Yz.form;rw[ha6] at Yy;rw[amq] at Yz;rw[ha6,amq];have a3:Sl w7 X7 36 (.slice mb6 mn6 mc6) ([()].map λ_:Unit=>m6.l q1 q2 q3 q4 q5 q6 q7 q8):=Yz.mono x4;have a4:Sl w7 X7 9 (.slice ab6 an6 ac6) ([()].map λ_:Unit=>Ey 0 LB Yr false vs):=Yy.mono x4;have b1:=dF.keys.one;have b2:=dF.seen.one;have b3:=dF.writes.one;have b4:=dF.parts.one;have b5:=dF.ranges.one;have b6:=dF.bt.one;have b7:=dF.iz.one;have b8:=dF.gX.one;have E6:(y.pU (20+n'.c.id)).kind=3:=hy;have ht1:(y.pU (20+n'.c.id)).to=1:=Yw.oR;generalize y.pU (20+n'.c.id)=mm at a1 E6 ht1 b1 b2 b3 b4 b5 b6 b7 b8;have hx0:[()][0]? =some ():=rfl;have aqJ:(fb n1).nb=n2.nb:=hS.nb.nb.symm;rw[aqJ];have aqK:n2.c.aW=1:=QS.trans qp.2.2;clear hs Ut HC Yz Yy HM YA dF aqI;have hs:=s7.rf;repeat' first|refine aJ ?_;intros|refine cM ?_ ?_<;>intros|(with_reducible apply YB);(· kernel_rfl);all_goals intros|with_reducible apply cB|(exfalso;omega)|(exfalso;simp only[List.length_cons,br] at*;omega)
  rw[iF];repeat' first|refine ak ?_;intros|with_reducible apply cB
  refine dL (Yk (n:=fb n2) s7.h s7.x) kQ hs.has λw8 X8 jZ=>?_;rw[show(fb n2).c.aW=1 from aqK];repeat' refine aJ ?_;intros
  exact(s7.t.since jZ).fin λ_ _=>rfl
 exact amo key λk hk=>absurd rfl hk.1
structure adS (o:lu):Prop where
 sm:o.m.small
 ln:o.m.lens<=2^62
 pl:o.prog.length<=2^30
 n:o.n<2^63
def zW (l:List lu):Nat:=(l.map λo=>o.m.seen.length).sum
variable {i : Nat}
theorem Uu {l:List lu} (h:l[i]? =some o):zW (l.take (i+1))=zW (l.take i)+o.m.seen.length:=by
 unfold zW;rw[bT,h];simp
theorem ako {l:List lu} (h:l[i]? =some o):zW (l.take i)+o.m.seen.length<=zW l:=by
 rw[<-Uu h];have e:zW l=zW (l.take (i+1))+zW (l.drop (i+1)):=by
  unfold zW;rw[<-List.sum_append,<-aC,List.take_append_drop]
 omega
def amr (s:CS) (o:lu) (k N:Nat) (v:Value) (w':World) (aI:Nat->Nat) (s2:CS):Prop:=
 ∃s1 t,s2=s1.LF/\CS.adL w' aI s1/\CS.Ok k N s1.LF/\v= .tuple #[ptr s1.nb 0,s1.out,t.v]/\Ys s o t s1
theorem CS.adL.two (h:CS.adL w own s): ∃x y,s.out= .agg #[x,y]/\aK.one x=true/\aK.one y=true:=by
 cases s with
 |up n=>exact⟨n.vm,n.va,rfl,h.om.one,h.oa.one⟩
 |dn nb m P=>exact⟨aP,aP,rfl,rfl,rfl⟩
theorem LS.act (q:LS w0 bZ T w X own db s) (jL:CS.Ok k N s) (ho:o.at w (bN own 4) vk vs vw vp vr vc vh vd vo vq) (mO:adS o) (hk:k<=180) (hN:N+o.m.seen.length<=2^20)
  (kk: ∀v w' X' aI s2,LS w0 bZ T w' X' aI db s2->amr s o (k+1) (N+o.m.seen.length) v w' aI s2->Mv T w T w'->Mv (bN own 4) w (bN aI 4) w'->NX v w' X'):
  eC pg R X w true 12 #[ptr db 0,ptr s.nb 0,.agg (o.l vk vs vw vp vr vc vh vd vo vq).toArray] NX:=by
 refine q.call (Q:=λv w' aI s2=>amr s o (k+1) (N+o.m.seen.length) v w' aI s2) ((afE q.h q.x jL ho mO.sm mO.ln mO.pl mO.n hk hN).mono λv wa w' _ hq=>?_) kQ kk;obtain⟨aI,s1,t,e,h1,h2,h3,h4,h5⟩:=hq;exact⟨aI,s1.LF,e,h1,s1,t,rfl,h2,h3,h4,h5⟩
theorem LS.op (q:LS w0 (λk=>if k<w0.heap.size then 4 else 0) T w X own db s) (h:o.at w0 (out (gy λk=>if k<w0.heap.size then 4 else 0) w0) vk vs vw vp vr vc vh vd vo vq):o.at w (bN own 4) vk vs vw vp vr vc vh vd vo vq:=by
 have m:Mv (out (gy λk=>if k<w0.heap.size then 4 else 0) w0) w0 (bN own 4) w:=λk hk _=>⟨(q.e k hk.1).2 (if_pos hk.1),q.t.s.kp.block k hk⟩;exact⟨h.m.mv m,h.po.mv m,h.p.mv m⟩
theorem LS.init (hT:Ft w0 (gy λk=>if k<w0.heap.size then 4 else 0) w X nX) (hm: ∀k,own k≠0->made wa w k/\X k) (hle:w0.heap.size<=wa.heap.size) (h:CS.Is w own db s): ∃il,LS w0 (λk=>if k<w0.heap.size then 4 else 0) nX w X il db s:=by
 have hz: ∀k,k<w0.heap.size->own k=0:=λk hl=>dB λe=>by have:=(hm k e).1.1;omega
 have e0: ∀k,own k≠0->(if own k=0 then(if k<w0.heap.size then 4 else 0)else own k)=own k:=λk hk=>if_neg hk;have hx: ∀k,(if own k=0 then(if k<w0.heap.size then 4 else 0)else own k)≠0->X k:=λk hk=>by
  by_cases e:own k=0
  ·rw[if_pos e] at hk;by_cases hl:k<w0.heap.size
   ·exact hT.s.sub k ⟨hl,λh=>h.2 (if_pos hl)⟩
   ·rw[if_neg hl] at hk;exact absurd rfl hk
  ·exact(hm k e).2
 refine⟨λk=>if own k=0 then(if k<w0.heap.size then 4 else 0)else own k,hT.more λk hk=>?_,h.QX e0 λk hk=>hT.s.has k (hx k hk),hx,λk hl=>?_,λk hk=>hk.elim⟩
 ·rcases hk with hk|hk
  ·refine .inr ⟨hx k hk.1,Ba λhl=>hk.2 ?_⟩
   show(if own k=0 then(if k<w0.heap.size then 4 else 0)else own k)=4
   rw[if_pos (hz k hl),if_pos hl]
  ·exact hk.elim
 ·have e:(if own k=0 then(if k<w0.heap.size then 4 else 0)else own k)=(if k<w0.heap.size then 4 else 0):=if_pos (hz k hl);exact⟨λh=>e.trans h,λh=>e.trans h⟩
structure asX (w0:World) (bZ:Nat->Nat) (T:XS) (w:World) (X:XS) (own:Nat->Nat) (db nb:Nat) (nS:bE) (vw:Value) (ts:List bL) (K N:Nat) (i:Int) (n:bE) (vt:Value) (sa:List Yu):Prop where
 ls:LS w0 bZ T w X own db (.up n)
 up:gM K N n
 nb:n.nb=nb
 mo:my n.m
 told:Own w T 0 anT 9 vt (sa.map Yu.l)
 one: ∀a∈sa,aK.one a.vs=true
 acc: ∀t∈ts,Acc i nS n sa t
 sq: ∀t∈ts,t.sq<=n.c.gG
 was:Sl w (bN own 4) 3 vw (ts.map bL.l)
 len:sa.length<=300*K
open Go.ChangeShapes Go.WideShapes Go.ChangeAt Go.RowKit
def akp:np 45 (HN 29 Rec.rd):=qd kQ kQ dQ ams
def akq:np 44 (HN 4 (λ_ _ cs (x:dR)=>cs=x.l)):=qd kQ kQ dQ afG
def ahY:np 37 rdI:=afH kQ
instance:Wt fe:=⟨λx=>Wt.wt x.key+Wt.wt x.val+Wt.wt x.aS+1,λ_=>by omega⟩
theorem akr:np 175 (λ_ _ cs (x:fe)=>cs=x.l):=λH enc W fuel cs x h=>by
 obtain⟨n,ds,hx,hf⟩:=jj [9,97,39] kQ h;obtain⟨_,_,_,_,a0,rfl,rfl,rfl,w0,hf⟩:=bK E7 hf;obtain⟨_,_,_,_,a1,rfl,rfl,rfl,w1,hf⟩:=bK LI hf;obtain⟨_,_,_,_,a2,rfl,rfl,rfl,w2,rfl,rfl⟩:=bK vy hf;refine⟨⟨a0,a1,a2⟩,rfl,?_⟩;rw[hx];simp only[Rows.uptoBulk,Rows.uptoBulkAll,Wt.wt] at*;omega
def ahZ:np 41 (HN 7 (λ_ _ cs (x:fe)=>cs=x.l)):=qd kQ kQ dQ akr
instance:Wt cO:=⟨λx=>Wt.wt x.kind+Wt.wt x.fr+Wt.wt x.to+Wt.wt x.aO+Wt.wt x.range+Wt.wt x.iD+Wt.wt x.code+Wt.wt x.aS+Wt.wt x.prev+Wt.wt x.jF+Wt.wt x.n+Wt.wt x.mx+Wt.wt x.keys+Wt.wt x.seen+Wt.wt x.writes+Wt.wt x.parts+Wt.wt x.ranges+Wt.wt x.bt+Wt.wt x.state+1,λ_=>by omega⟩
theorem afI:np 54 cO.rd:=λH enc W fuel cs x h=>by
 obtain⟨n,ds,hx,hf⟩:=jj [3,3,3,34,3,3,37,39,39,4,3,3,40,41,42,43,44,45,52] kQ h;obtain⟨_,_,_,_,a0,rfl,rfl,rfl,w0,hf⟩:=bK nE hf;obtain⟨_,_,_,_,a1,rfl,rfl,rfl,w1,hf⟩:=bK nE hf;obtain⟨_,_,_,_,a2,rfl,rfl,rfl,w2,hf⟩:=bK nE hf;obtain⟨_,_,_,_,a3,rfl,rfl,rfl,w3,hf⟩:=bK YC hf;obtain⟨_,_,_,_,a4,rfl,rfl,rfl,w4,hf⟩:=bK nE hf;obtain⟨_,_,_,_,a5,rfl,rfl,rfl,w5,hf⟩:=bK nE hf;obtain⟨_,_,_,_,a6,rfl,rfl,rfl,w6,hf⟩:=bK ahY hf;obtain⟨_,_,_,_,a7,rfl,rfl,rfl,w7,hf⟩:=bK vy hf;obtain⟨_,_,_,_,a8,rfl,rfl,rfl,w8,hf⟩:=bK vy hf;obtain⟨_,_,_,_,a9,rfl,rfl,rfl,w9,hf⟩:=bK abS hf;obtain⟨_,_,_,_,a10,rfl,rfl,rfl,Jv,hf⟩:=bK nE hf;obtain⟨_,_,_,_,a11,rfl,rfl,rfl,w11,hf⟩:=bK nE hf;obtain⟨_,_,_,_,a12,rfl,rfl,⟨v12,rfl,r12⟩,Yj,hf⟩:=bK adT hf;obtain⟨_,_,_,_,a13,rfl,rfl,⟨v13,rfl,r13⟩,w13,hf⟩:=bK ahZ hf;obtain⟨_,_,_,_,a14,rfl,rfl,⟨v14,rfl,r14⟩,w14,hf⟩:=bK YD hf;obtain⟨_,_,_,_,a15,rfl,rfl,⟨v15,rfl,r15⟩,w15,hf⟩:=bK adU hf;obtain⟨_,_,_,_,a16,rfl,rfl,⟨v16,rfl,r16⟩,w16,hf⟩:=bK akq hf;obtain⟨_,_,_,_,a17,rfl,rfl,⟨v17,rfl,r17⟩,w17,hf⟩:=bK akp hf;obtain⟨_,_,_,_,a18,rfl,rfl,⟨vh,vp,rfl,rh,rp⟩,w18,rfl,rfl⟩:=bK YE hf;refine⟨⟨a0,a1,a2,a3,a4,a5,a6,a7,a8,a9,a10,a11,a12,a13,a14,a15,a16,a17,a18⟩,⟨v12,v13,v14,v15,v16,v17,vh,vp,rfl,⟨r12.xa,r13.xa,r14.xa,r15.xa,r16.xa,r17,rh,rp⟩⟩,?_⟩;rw[hx];simp only[Rows.uptoBulk,Rows.uptoBulkAll,Wt.wt] at*;omega
instance:Wt jD:=⟨λx=>Wt.wt x.code+Wt.wt x.key+Wt.wt x.val+1,λ_=>by omega⟩
theorem amt:np 99 (λ_ _ cs (x:jD)=>cs=x.l):=λH enc W fuel cs x h=>by
 obtain⟨n,ds,hx,hf⟩:=jj [3,9,97] kQ h;obtain⟨_,_,_,_,a0,rfl,rfl,rfl,w0,hf⟩:=bK nE hf;obtain⟨_,_,_,_,a1,rfl,rfl,rfl,w1,hf⟩:=bK E7 hf;obtain⟨_,_,_,_,a2,rfl,rfl,rfl,w2,rfl,rfl⟩:=bK LI hf;refine⟨⟨a0,a1,a2⟩,rfl,?_⟩;rw[hx];simp only[Rows.uptoBulk,Rows.uptoBulkAll,Wt.wt] at*;omega
def aks:np 55 (HN 5 (λ_ _ cs (x:jD)=>cs=x.l)):=qd kQ kQ dQ amt
def wtN (n:Int):Nat:=if n<2^63 then 1 else 1073741824
instance:Wt lu:=⟨λx=>Wt.wt x.kind+Wt.wt x.gN+wtN x.n+Wt.wt x.m+Wt.wt x.prog+Wt.wt x.cN+1,λ_=>by omega⟩
theorem akt:np 57 lu.rd:=λH enc W fuel cs x h=>by
 obtain⟨n,ds,hx,hf⟩:=jj [3,3,3,54,55,43] kQ h;obtain⟨_,_,_,_,a0,rfl,rfl,rfl,w0,hf⟩:=bK nE hf;obtain⟨_,_,_,_,a1,rfl,rfl,rfl,w1,hf⟩:=bK nE hf;obtain⟨_,_,_,_,a2,rfl,rfl,⟨rfl,hb⟩,w2,hf⟩:=bK MP hf;obtain⟨_,_,_,_,a3,rfl,rfl,⟨vk,vs,vw,vp,vr,vc,vh,vd,rfl,r3⟩,w3,hf⟩:=bK afI hf;obtain⟨_,_,_,_,a4,rfl,rfl,⟨v4,rfl,r4⟩,w4,hf⟩:=bK aks hf;obtain⟨_,_,_,_,a5,rfl,rfl,⟨v5,rfl,r5⟩,w5,rfl,rfl⟩:=bK adU hf;have hn:wtN a2=1:=if_pos (by have:=hb.2;omega);refine⟨⟨a0,a1,a2,a3,a4,a5⟩,⟨vk,vs,vw,vp,vr,vc,vh,vd,v4,v5,rfl,⟨r3,r4.xa,r5.xa⟩⟩,?_⟩;rw[hx];simp only[Rows.uptoBulk,Rows.uptoBulkAll,Wt.wt] at*;omega
def ah0:np 22 (HN 41 lu.rd):=qd kQ kQ dQ akt
theorem sZ {α:Type} [Wt α] {l:List α} {B:Nat} (h:Wt.wt l<=B):l.length<=B:=by
 have h':(l.map Wt.wt).sum+1<=B:=h;have:=afJ l;omega
theorem abT {s:BA} {B:Nat} (h:Wt.wt s<=B):s.size<=B:=by
 have:s.size+1<=B:=h;omega
theorem amu {x:KV} {B:Nat} (h:Wt.wt x<=B):x.key.size<=B:=by
 have:(x.key.size+1)+(Wt.wt x.val.kind+Wt.wt x.val.num+(x.val.text.size+1)+1)+1<=B:=h;omega
theorem YG {l:List KV} {B:Nat} (h:Wt.wt l<=B) (hB:B<=2^40): ∀x∈l,x.key.size<=2^40:=λx hx=>by
 have h':(l.map Wt.wt).sum+1<=B:=h;have:=amu (B:=B) (ad (E8 hx) zQ);omega
theorem YH {l:List BA} {B:Nat} (h:Wt.wt l<=B) (hB:B<=2^40): ∀k∈l,k.size<=2^40:=λx hx=>by
 have h':(l.map Wt.wt).sum+1<=B:=h;have:=abT (B:=B) (ad (E8 hx) zQ);omega
theorem aku {l:List gu} {B:Nat} (h:Wt.wt l<=B) (hB:B<=2^40):Lf l/\adr l:=by
 have h':(l.map Wt.wt).sum+1<=B:=h;have key: ∀p∈l,Wt.wt p.reads<=B/\Wt.wt p.writes<=B:=λp hp=>by
  have h1:Wt.wt p.aO+Wt.wt p.aS+Wt.wt p.reads+Wt.wt p.writes+1<=(l.map Wt.wt).sum:=E8 hp;omega
 refine⟨λp hp=>?_,λp hp=>⟨YH (key p hp).1 hB,YG (key p hp).2 hB⟩⟩;have h1:=sZ (key p hp).1;have h2:=sZ (key p hp).2;omega
theorem akv {l:List ku} {B:Nat} (h:Wt.wt l<=B) (hB:B<=2^40):Le l/\adq l:=by
 have h':(l.map Wt.wt).sum+1<=B:=h;have key: ∀p∈l,Wt.wt p.key<=B/\Wt.wt p.mI<=B:=λp hp=>by
  have h1:Wt.wt p.key+Wt.wt p.mI+1<=(l.map Wt.wt).sum:=E8 hp;omega
 exact⟨λp hp=>ad (sZ (key p hp).2) hB,λp hp=>ad (abT (key p hp).1) hB⟩
theorem YI {s:State} {B:Nat} (h:Wt.wt s<=B) (hB:B<=2^40):s.small:=by
 have h':Wt.wt s.range+Wt.wt s.floor+Wt.wt s.closed+Wt.wt s.iz+Wt.wt s.gX+1<=B:=h;obtain⟨a2,a3⟩:=akv (l:=s.iz) (B:=B) zQ hB;obtain⟨b2,b3⟩:=aku (l:=s.gX) (B:=B) zQ hB;exact⟨a2,b2,a3,b3⟩
variable {r : Rec}
theorem amv {B:Nat} (h:Wt.wt r<=B) (hB:B<=2^40):r.small:=by
 have h':Wt.wt r.kind+Wt.wt r.aO+Wt.wt r.aS+Wt.wt r.prev+Wt.wt r.jF+Wt.wt r.n+Wt.wt r.rV+Wt.wt r.reads+Wt.wt r.writes+Wt.wt r.parts+Wt.wt r.wV+Wt.wt r.state+1<=B:=h;have h1:=sZ (l:=r.reads) (B:=B) zQ;have h2:=sZ (l:=r.writes) (B:=B) zQ;exact⟨by omega,by omega,YH (l:=r.reads) (B:=B) zQ hB,YG (l:=r.writes) (B:=B) zQ hB,YI (s:=r.state) (B:=B) zQ hB⟩
theorem MQ (s:BA):(wu s).length<=120*Wt.wt s:=by
 have h1:=zX s;have h2:=fD s.size
 show _<=120*(s.size+1)
 omega
theorem O4 (x:KV):(r6 x).length<=120*Wt.wt x:=by
 have h1:=MQ x.key;have h2:=YJ (v:=x.val);have h3:Wt.wt x=Wt.wt x.key+Wt.wt x.val+1:=rfl
 grind [r6]
theorem yu {α:Type} [Wt α] {f:α->List Nat} (l:List α) (h: ∀x,(f x).length<=120*Wt.wt x):(iT f l).length<=120*Wt.wt l:=by
 have h1:(l.map f).flatten.length<=120*(l.map Wt.wt).sum:=by
  induction l with
  |nil=>simp
  |cons x l ih=>grind
 have h2:=fD (l.length:Int);have h3:Wt.wt l=(l.map Wt.wt).sum+1:=rfl;unfold iT
 grind
theorem akw (n:Int):(encI n).length<=120*Wt.wt n:=by
 have:=fD n
 show _<=120*1
 omega
theorem afK (v:pz):(zo v).length<=120*Wt.wt v:=by
 have h1:=uL v.aS;have h2:=YJ (v:=v.val);have h3:Wt.wt v=4+Wt.wt v.val+1:=rfl
 grind [zo]
theorem akx (h:ku):(BZ h).length<=120*Wt.wt h:=by
 have h1:=MQ h.key;have h2:=yu h.mI afK;have h3:Wt.wt h=Wt.wt h.key+Wt.wt h.mI+1:=rfl
 grind [BZ]
theorem aky (p:gu):(yU p).length<=120*Wt.wt p:=by
 have h1:=CT p.aO;have h2:=uL p.aS;have h3:=yu p.reads MQ;have h4:=yu p.writes O4;have h5:Wt.wt p=YK p.aO+4+Wt.wt p.reads+Wt.wt p.writes+1:=rfl;have h6:=Sw p.aO;unfold yU;simp only[aa];omega
theorem akz (s:State):(encS s).length<=120*Wt.wt s:=by
 have h1:=fD s.range.id;have h2:=fD s.range.iD;have h3:=uL s.floor;have h4:=uL s.closed;have h5:=yu s.iz akx;have h6:=yu s.gX aky;have h7:Wt.wt s=Wt.wt s.range+4+4+Wt.wt s.iz+Wt.wt s.gX+1:=rfl;unfold encS QY;simp only[aa,O5];omega
theorem akA (r:Rec):(gf r).length<=120*Wt.wt r:=by
 have h':Wt.wt r=Wt.wt r.kind+YK r.aO+4+4+Wt.wt r.jF+Wt.wt r.n+Wt.wt r.rV+Wt.wt r.reads+Wt.wt r.writes+Wt.wt r.parts+Wt.wt r.wV+Wt.wt r.state+1:=rfl;have k0:=Sw r.aO;have k1:=fD r.kind;have k2:=akz r.state;have k3:=fD r.n;have k4:=CT r.aO;have k5:=uL r.aS;have k6:=uL r.prev;have k7:=yu r.reads MQ;have k8:=yu r.writes O4;have k9:=yu r.wV O4;have k10:=yu r.parts akw;have k11:=O5 r.rV;have k12:(adV r.jF).length=1:=rfl;unfold gf;rw[aa];repeat' split
 all_goals (try unfold yU);(try simp only[aa,br]);omega
theorem afL {m:cO} {B:Nat} (h:Wt.wt m<=B) (hB:B<=1048576):m.small/\m.lens<=2^62:=by
 have h':Wt.wt m.kind+Wt.wt m.fr+Wt.wt m.to+Wt.wt m.aO+Wt.wt m.range+Wt.wt m.iD+Wt.wt m.code+Wt.wt m.aS+Wt.wt m.prev+Wt.wt m.jF+Wt.wt m.n+Wt.wt m.mx+Wt.wt m.keys+Wt.wt m.seen+Wt.wt m.writes+Wt.wt m.parts+Wt.wt m.ranges+Wt.wt m.bt+Wt.wt m.state+1<=B:=h;have a1:=YI (s:=m.state) (B:=B) zQ zQ;have l1:=sZ (l:=m.keys) (B:=B) zQ;have l2:=sZ (l:=m.seen) (B:=B) zQ;have l3:=sZ (l:=m.writes) (B:=B) zQ;have l4:=sZ (l:=m.parts) (B:=B) zQ;have l5:=sZ (l:=m.ranges) (B:=B) zQ;have l6:=sZ (l:=m.bt) (B:=B) zQ;have hr: ∀r∈m.bt,Wt.wt r<=B:=λr hr=>by
  have h1:Wt.wt m.bt=(m.bt.map Wt.wt).sum+1:=rfl;have:=E8 hr;omega
 refine⟨⟨by omega,by omega,λr h=>amv (hr r h) zQ,λr h _=>?_,a1⟩,?_⟩
 ·have:=akA r;have:=hr r h;omega
 ·unfold cO.lens;omega
theorem aow {B:Nat} (h:Wt.wt o<=B) (hB:B<=1048576):adS o:=by
 have h':Wt.wt o.kind+Wt.wt o.gN+wtN o.n+Wt.wt o.m+Wt.wt o.prog+Wt.wt o.cN+1<=B:=h;obtain⟨a,b⟩:=afL (m:=o.m) (B:=B) zQ hB;have c:=sZ (l:=o.prog) (B:=B) zQ;refine⟨a,b,by omega,?_⟩;apply dB;intro e;have:wtN o.n=1073741824:=if_neg e;omega
theorem afM {l:List lu} {B:Nat} (h:Wt.wt l<=B) (hB:B<=1048576):(∀o∈l,adS o)/\zW l<=B:=by
 have h':(l.map Wt.wt).sum+1<=B:=h;refine⟨λo ho=>aow (B:=B) (ad (E8 ho) zQ) hB,?_⟩;have:zW l<=(l.map Wt.wt).sum:=by
  clear h h';unfold zW
  induction l with
  |nil=>simp
  |cons o l ih=>
   have h1:Wt.wt o.kind+Wt.wt o.gN+wtN o.n+Wt.wt o.m+Wt.wt o.prog+Wt.wt o.cN+1=Wt.wt o:=rfl;have h2:o.m.seen.length<=Wt.wt o.m:=by
    have:=sZ (l:=o.m.seen) (B:=Wt.wt o.m) (by simp only[Wt.wt];omega);exact this
   simp only[List.map_cons,List.sum_cons];omega
 omega
abbrev rcT:Nat:=73
abbrev LJ (z:Rec×Value):List Value:=z.1.l aP aP z.2 aP aP aP
def E9 (w:World) (K:XS) (zs:List (Rec×Value)) (rs:List Rec):Prop:=zs.map (·.1)=rs/\ ∀z∈zs,Sl w K 1 z.2 (z.1.parts.map I1)
variable {rs : List Rec} {zs : List (Rec × Value)}
def E9.mv (h:E9 w K zs rs) (m:Mv K w K' w'):E9 w' K' zs rs:=⟨h.1,λz hz=>(h.2 z hz).mv m⟩
theorem E9.snoc (h:E9 w K zs rs) (hp:Sl w K 1 vp (r.parts.map I1)):E9 w K (zs++[(r,vp)]) (rs++[r]):=by
 refine⟨by rw[aC,h.1];rfl,λz hz=>?_⟩;rcases List.mem_append.1 hz with hz|hz
 ·exact h.2 z hz
 ·rw[av] at hz;subst hz;exact hp
theorem afN {s s':lF} (h:tF s r=some s') (hr:r.parts.length<=80) (hs: ∀x∈s.2,x.1.parts.length<=80): ∀x∈s'.2,x.1.parts.length<=80:=by
 unfold tF at h;split at h
 ·split at h<;>cases h
  exact hs
 split at h
 ·split at h<;>cases h
  intro x hx;rcases List.mem_append.1 hx with hx|hx
  ·exact hs x hx
  ·rw[List.mem_singleton.1 hx];exact hr
 split at h
 ·split at h<;>cases h
  intro x hx;obtain⟨y,hy,rfl⟩:=List.mem_map.1 hx;split<;>exact hs y hy
 ·cases h
theorem QZ: ∀{rs:List Rec} {s s':lF},yT s rs=some s'->(∀r∈rs,r.parts.length<=80)->(∀x∈s.2,x.1.parts.length<=80)-> ∀x∈s'.2,x.1.parts.length<=80
 |[],s,s',h,_,hs=>by cases h;exact hs
 |r::rs,s,s',h,hr,hs=>by
  obtain⟨s1,h1,h2⟩:=Option.bind_eq_some_iff.1 h;exact QZ h2 (λr hm=>hr r (List.mem_cons_of_mem _ hm)) (afN h1 (hr r List.mem_cons_self) hs)
theorem gM.parts (h:gM k N n): ∀b∈n.cl,(n.C b).r.parts.length<=80:=λb hb=>by
 obtain⟨pre,sg,_,hR,_⟩:=h.log;obtain⟨rs,_,hg,_,hr⟩:=hR.rs;exact QZ hr (λr hm=>(hg r hm).ps) sQ _ (List.mem_map.2 ⟨b,hb,rfl⟩)
theorem Fa (h:jd w own n) (hX:qW own X) (qi:n.cl.length<=1000) (FV: ∀b∈n.cl,(n.C b).r.parts.length<=2^40):
  Ct pg 20 #[ptr n.nb 0] w X nX λv wa w'=> ∃zs,Own w' (made wa w') wa.heap.size rcT 29 v (zs.map LJ)/\E9 w' (made wa w') zs (n.cl.map λb=>(n.C b).r):=by
 intro w0 hk;have s0:=St.init h hX hk;clear h hX hk;have bo:=s0.v.1;have TF:Sl w0 (bI w0) 1 n.c.cm (n.cl.map λb=>[ptr b 0]):=(show Own w0 (bN own 10) 0 pcT 1 n.c.cm _ from s0.get 10).sl.mono (s0.sub 10);have hlc:=TF.gR;refine HO.1 λhs=>?_;repeat' refine ak ?_;intros
 refine gv (λk a v w X=> ∃(i:Nat) (zs:List (Rec×Value)) (K:XS),a=I i/\k=n.cl.length-i/\i<=n.cl.length/\ai (bI w0) w0 X w/\Own w X w0.heap.size rcT 29 v (zs.map LJ)/\(∀k,K k->w0.heap.size<=k/\X k/\ ¬fc v k)/\E9 w K zs ((n.cl.take i).map λb=>(n.C b).r)) n.cl.length
  ⟨0,[],nX,rfl,rfl,aq _,hs,Own.nil _ _ _ _ _,λk hk=>hk.elim,rfl,λz hz=>absurd hz sQ⟩ ?_
 rintro k _ v w1 X1 ⟨i,zs,K,rfl,rfl,hi,hs,ho,hK,hR⟩;rcases dE n.cl i with⟨cD,b,hb,hd⟩|⟨dD,hd⟩
 ·have N8:=ay hb;obtain⟨CD,o2,op,_⟩:=s0.vc N8;have hp:Sl w0 (bI w0) 1 (n.C b).vp ((n.C b).r.parts.map I1):=(s0.h.Bz N8).2.2.mono λk (e:own k=4)=>s0.x k zQ;have vO:=FV b N8;obtain⟨e1,e2,e3,hvp⟩:=hp.form;rw[hvp] at hp CD op;repeat' refine aJ ?_;intros
  refine cd (EU (hp.mv hs.mv) vO) kQ hs.has ?_;rintro v2 vM w2 X2 q2 kF jt bp;have zh:Own w2 X2 w0.heap.size WY 1 v2 _:=q2.up jt (ad hs.kp.size kF);have ov2:=zh.sl.one;have amw:=hs.trans bp;have ju:=ho.since bp;have hR2:=hR.mv λk hk _=>⟨hk,bp.kp.block k (hK k hk).2.1⟩;have lJ: ∀k,fc v2 k-> ¬fc v k:=λk e e'=>by have:=(q2.ge e).1;have:=(ho.ge e').2;omega
  obtain⟨g1,g2,g3,rfl⟩:=zh.sl.form;clear hs;have hs:=ai.eQ bp.has;repeat' first|refine ak ?_;intros|(refine q1e hs ?_;intro _ _ _ w X hs ho)
  have adW:=amw.trans hs;have hlen:=congrArg ba hR.1;rw[af,af,List.length_take] at hlen;refine Ec (bytes:=328) (ju.since hs) hs.has (ad amw.kp.size hs.kp.size) kQ ho.sl (λr hr u hu=>?_) (by simp only[bR,af];omega) (by simp only[bR,af];omega) λv5 w5 X5 c5 sW ua=>?_
  ·rw[av] at hr;subst hr;simp only[List.mem_cons,List.not_mem_nil,or_false] at hu;repeat' rcases hu with rfl|hu
   all_goals first|rfl|(subst hu;rfl)
  have hKw: ∀k,K k->X k/\k<w.heap.size:=λk hk=>⟨hs.sub k (bp.sub k (hK k hk).2.1),hs.has k (hs.sub k (bp.sub k (hK k hk).2.1))⟩;have hqw:=zh.since hs;have Sx: ∀k,(K k\/fc (.slice g1 g2 g3) k)->X k/\k<w.heap.size/\w0.heap.size<=k/\ ¬fc v k:=λk hk=>hk.elim (λhk=>⟨(hKw k hk).1,(hKw k hk).2,(hK k hk).1,(hK k hk).2.2⟩) λhk=>⟨hqw.2.2 k hk,(hqw.ge hk).2,(hqw.ge hk).1,lJ k hk⟩;have Qt: ∀k,(K k\/fc (.slice g1 g2 g3) k)-> ¬fc v5 k:=λk hk h5=>by
   have Ko:=Sx k hk;have h5:v5.ownBlock=some k:=h5;rcases ua with e|⟨g,e,dD⟩
   ·exact Ko.2.2.2 (by rw[e] at h5;exact h5)
   ·rw[e] at h5;cases h5;omega
  have hR5:E9 w5 (λk=>K k\/fc (.slice g1 g2 g3) k) (zs++[((n.C b).r,.slice g1 g2 g3)]) ((n.cl.take (i+1)).map λb=>(n.C b).r):=by
   have e:(n.cl.take (i+1)).map (λb=>(n.C b).r)=(n.cl.take i).map (λb=>(n.C b).r)++[(n.C b).r]:=by rw[bT,hb];simp
   rw[e];refine E9.snoc (vp:=.slice g1 g2 g3) (hR2.mv λk hk _=>⟨.inl hk,?_⟩) ((xy hqw (Y:=fc (.slice g1 g2 g3)) λg hg=>hg).sl.mv λk hk _=>⟨.inr hk,?_⟩)
   ·exact(c5.block k (hKw k hk).1 (Sx k (.inl hk)).2.2.2).trans (hs.kp.block k (bp.sub k (hK k hk).2.1))
   ·exact c5.block k (Sx k (.inr hk)).1 (Sx k (.inr hk)).2.2.2
  have aqL:ai (bI w0) w0 X5 w5:=adW.dY c5 λk hk e=>by have:=(ju.ge e).1;have:k<w0.heap.size:=hk;omega
  clear hs;have hs:=ai.eQ c5.has;repeat' refine ak ?_;intros
  exact fw (n.cl.length-(i+1)) zQ ⟨i+1,zs++[((n.C b).r,.slice g1 g2 g3)],_,congrArg I zQ,rfl,by omega,aqL,by rw[aC];exact sW,λk hk=>⟨(Sx k hk).2.2.1,c5.sub k (Sx k hk).1,Qt k hk⟩,hR5⟩
 ·obtain rfl:i=n.cl.length:=by omega
  rw[List.take_length] at hR;repeat' refine aJ ?_;intros
  exact bM hs λwa aH=>⟨zs,(ho.kp aH).tight,hR.mv λk hk _=>⟨⟨(hK k hk).1,aw (hs.has k (hK k hk).2.1) aH.size⟩,aH.block k (hK k hk).2.1⟩⟩
structure MR where
 t:bL
 ps:List Int
 vs:List Int
structure aqM (l:List MR) (t:bL) (d:pe):Prop where
 ws: ∀y∈d.ws,y.aO=t/\(y.kind=3->d.x.pre=true)
 pr:d.x.pre=true-> ∃e∈l,e.t=t/\e.ps=d.ids/\ ∀id∈d.ids,id∈e.vs\/ ∃y∈d.ws,y.range=id
 no:d.x.pre=false-> ∀e∈l,e.t≠t
structure asY (n:bE) (l:List MR):Prop where
 nd:(l.map (·.t)).Nodup
 bI: ∀e∈l,e.t.aW<=n.c.aW/\(e.t.aW=n.c.aW->e.t.sq<=n.c.gG)
 act: ∀t b,getM t n.al=some b->aqM l t (n.A b)
structure aqN (l:List MR) (ms:List cO) (t:bL) (d:pe):Prop where
 ws: ∀y∈d.ws,y.aO=t/\(y.kind=3->d.x.pre=true)
 pr:d.x.pre=true->(∃e∈l,e.t=t/\e.ps=d.ids/\ ∀id∈d.ids,id∈e.vs\/ ∃y∈d.ws,y.range=id)\/((∀e∈l,e.t≠t)/\(∃m∈ms,m.kind=3/\m.aO=t)/\ ∀id∈d.ids,∃y∈d.ws,y.range=id)
 no:d.x.pre=false-> ∀e∈l,e.t≠t
structure asZ (n:bE) (l:List MR):Prop where
 nd:(l.map (·.t)).Nodup
 bI: ∀e∈l,e.t.aW<=n.c.aW/\(e.t.aW=n.c.aW->e.t.sq<=n.c.gG)
 ms: ∀m∈n.ms,m.kind=3->(∃e∈l,e.t=m.aO)\/ ∃b,getM m.aO n.al=some b/\(n.A b).x.pre=true/\m.parts=(n.A b).ids
 act: ∀t b,getM t n.al=some b->aqN l n.ms t (n.A b)
variable {t : bL}
section
variable {l : List MR} {m : cO}
end
variable {Q : Yu -> Prop}
section
variable {l : List MR} {m : cO}
end
section
variable {m : cO}
structure Fact where
 t:bL
 c:Bool
 st:cx
end
section
variable {m : cO}
end
variable {u v : Value} {j : Int}
section
variable {P : Program} {N : Value -> Prop} {t : TypeId} {xo yo : Operand} {a b c d : Bool}
theorem run_equalIn_bool (ht:P.underlying t=some .bool) (n:Nat) (a b:Bool) (w:World):(Op.equalIn (n+1) t (.bool a) (.bool b)).run P w= .ok (a==b) w:=by simp[Op.equalIn,run_underlying ht]
theorem ah1 (ht:P.underlying t=some .bool) (h:N (.bool (a==b))):aV P X w (eB .eql t xo yo (.bool a) (.bool b)) N:=by
 refine bF (λwa=>?_) h;have:(Op.equal t (.bool a) (.bool b)).run P wa= .ok (a==b) wa:=run_equalIn_bool ht 9999 a b wa;simp[eB,eqGuard,binOp,this]
theorem adX {s:Value->Value->Sem Value} (h: ∀N:Value->Prop,N (.bool d)->aV P X w (s u v) N) (k:N (.bool (c&&d))):
  un (pT (.bool c) true u) λa=>un (pT (.bool c) true v) λb=>lB P X w (.bool c) true (vS (s a b)) λx=>lK P X w (iu (.bool c) x (.bool false)) N:=by
 cases c
 ·exact Fb (Fb (Tx (Ks k)))
 ·exact HP (HP (YM (h _ (Kr (by simpa using k)))))
def amx {q:IntKind} {i:Int} (k:N (.bool (c&&decide (i=j)))):
  un (pT (.bool c) true (.int q i)) λa=>un (pT (.bool c) true (.int q j)) λb=>lB P X w (.bool c) true (vS (eB .eql t xo yo a b)) λx=>lK P X w (iu (.bool c) x (.bool false)) N:=
 adX (λ_=>RX) k
def akB (ht:P.underlying t=some .bool) (k:N (.bool (c&&(a==b)))):
  un (pT (.bool c) true (.bool a)) λa=>un (pT (.bool c) true (.bool b)) λb=>lB P X w (.bool c) true (vS (eB .eql t xo yo a b)) λx=>lK P X w (iu (.bool c) x (.bool false)) N:=
 adX (λ_=>ah1 ht) k
def ah2 {i k i' j' k':Int} (ht:jw P t 3=true) (n:N (.bool (c&&decide (i=i'/\j=j'/\k=k')))):
  un (pT (.bool c) true (.agg #[.int .i64 i,.int .i64 j,.int .i64 k])) λa=>un (pT (.bool c) true (.agg #[.int .i64 i',.int .i64 j',.int .i64 k'])) λb=>
   lB P X w (.bool c) true (vS (eB .eql t xo yo a b)) λx=>lK P X w (iu (.bool c) x (.bool false)) N:=
 adX (λ_=>O6 ht) n
theorem Ee {m:Bool} {M:Value->World->XS->Prop} (h:Ct P f #[u,v] w X nX λx _ _=>x= .bool d) (hf:enters P f=true) (hX: ∀k,X k->k<w.heap.size)
  (k: ∀w' X',ai X w X' w'->M (.bool (c&&d)) w' X'):
  un (pT (.bool c) true u) λa=>un (pT (.bool c) true v) λb=>jn (λ(x:Value) (w1:World) (X1:XS)=>lK P X1 w1 (iu (.bool c) x (.bool false)) λy=>M y w1 X1) λK=>
   gE (.bool c) true (eC P R X w m f #[a,b] K) (K undef w X):=by
 delta jn
 cases c
 ·exact Fb (Fb (ajk (Ks (k w X (ai.eQ hX)))))
 ·exact HP (HP (alq (dL h hf hX λw' X' hs=>Kr (by simpa using k w' X' hs))))
end
set_option maxRecDepth 100000
set_option maxHeartbeats 1000000
theorem adY:Ct pg 92 #[aP,aP] w X nX λv _ _=>v=B true:=by
  intro w0 hk;have h0:Sl w0 (bI w0) 1 aP (([]:List BA).map S1):=Sl.nil _ _ _;refine O7.1 λhs=>?_;repeat' refine aJ ?_;intros
  refine eY (λn a w X=>a=I 0/\ai (bI w0) w0 X w) 0 ⟨rfl,hs⟩ ?_;clear hs;rintro n a w X ⟨rfl,hs⟩;repeat' first|refine ak ?_;intros|refine cM ?_ ?_<;>intros|(exfalso;rename_i h;simp at h;done)
  exact bM hs λwa aH=>rfl
theorem aaT:Ct pg 93 #[aP,aP] w X nX λv _ _=>v=B true:=by
  intro w0 hk;have h0:Sl w0 (bI w0) 1 aP (([]:List BA).map S1):=Sl.nil _ _ _;refine Ng.1 λhs=>?_;repeat' refine aJ ?_;intros
  refine eY (λn a w X=>a=I 0/\ai (bI w0) w0 X w) 0 ⟨rfl,hs⟩ ?_;clear hs;rintro n a w X ⟨rfl,hs⟩;repeat' first|refine ak ?_;intros|refine cM ?_ ?_<;>intros|(exfalso;rename_i h;simp at h;done)
  exact bM hs λwa aH=>rfl
theorem adZ:Ct pg 94 #[aP,aP] w X nX λv _ _=>v=B true:=by
  intro w0 hk;have h0:Sl w0 (bI w0) 1 aP (([]:List BA).map S1):=Sl.nil _ _ _;refine O8.1 λhs=>?_;repeat' refine aJ ?_;intros
  refine eY (λn a w X=>a=I 0/\ai (bI w0) w0 X w) 0 ⟨rfl,hs⟩ ?_;clear hs;rintro n a w X ⟨rfl,hs⟩;repeat' first|refine ak ?_;intros|refine cM ?_ ?_<;>intros|(exfalso;rename_i h;simp at h;done)
  exact bM hs λwa aH=>rfl
theorem Vg:Ct pg 147 #[aP,aP] w X nX λv _ _=>v=B true:=by
  intro w0 hk;have h0:Sl w0 (bI w0) 1 aP (([]:List BA).map S1):=Sl.nil _ _ _;refine JN.1 λhs=>?_;repeat' refine aJ ?_;intros
  refine eY (λn a w X=>a=I 0/\ai (bI w0) w0 X w) 0 ⟨rfl,hs⟩ ?_;clear hs;rintro n a w X ⟨rfl,hs⟩;repeat' first|refine ak ?_;intros|refine cM ?_ ?_<;>intros|(exfalso;rename_i h;simp at h;done)
  exact bM hs λwa aH=>rfl
theorem Sy:Ct pg 146 #[aP,aP] w X nX λv _ _=>v=B true:=by
 intro w0 hk;have h0:Sl w0 (bI w0) 1 aP (([]:List BA).map S1):=Sl.nil _ _ _;refine IG.1 λhs=>?_;repeat' refine aJ ?_;intros
 refine gv (λn a _ w X=>a=I 0/\ai (bI w0) w0 X w) 0 ⟨rfl,hs⟩ ?_;clear hs;rintro n a _ w X ⟨rfl,hs⟩;repeat' first|refine ak ?_;intros|refine cM ?_ ?_<;>intros|(exfalso;rename_i h;simp at h;done)
 exact bM hs λwa aH=>rfl
theorem YN {s:State} :Ct pg 95 #[s.v aP aP,s.v aP aP] w X nX λv _ _=>v=B true:=by
 intro w0 hk;refine O9.1 λhs=>?_;repeat' first|refine ak ?_;intros|(with_reducible refine ajz _ _ ?_ ?_ ?_);(· kernel_rfl);all_goals intros|with_reducible apply cB|(refine j5 (F8 _ _) hs ?_ ?_<;>intro _ w X hs)|contradiction|(exfalso;simp_all;done)|(with_reducible refine dL Sy kQ hs.has λw X ax=>?_);replace hs:=hs.trans ax|(with_reducible refine dL Vg kQ hs.has λw X ax=>?_);replace hs:=hs.trans ax
 exact bM hs λwa aH=>rfl
theorem ad0 {v':Value} (h:Sl w X 1 v (r.parts.map I1)) (h':Sl w X 1 v' (r.parts.map I1)):
  Ct pg 50 #[r.v aP aP v aP aP aP,r.v aP aP v' aP aP aP] w X nX λu _ _=>u=B true:=by
 intro w0 hk;replace h:=h.mv hk.bY;replace h':=h'.mv hk.bY;have o1:=h.one;have o2:=h'.one;refine Sz.1 λhs=>?_;have hb: ∀{w X},Ct pg 91 #[.float .f64 r.rV,.float .f64 r.rV] w X nX λx _ _=>x= .bool true:=λwa nD=>(HQ _ _ wa).mono λe w' ⟨he,hx⟩=>⟨_,he,hx,by simp⟩;refine RX ?_;repeat (first|with_reducible refine amx ?_|(with_reducible refine ah2 kQ ?_)|(with_reducible refine akB kQ ?_)|(with_reducible refine O6 kQ ?_))
 refine Ee hb kQ hs.has λw1 X1 ax=>?_;replace hs:=hs.trans ax;refine Ee adY kQ hs.has λw2 X2 ax=>?_;replace hs:=hs.trans ax;refine Ee aaT kQ hs.has λw3 X3 ax=>?_;replace hs:=hs.trans ax;refine Ee (SA (h.mv hs.mv) (h'.mv hs.mv)) kQ hs.has λw4 X4 ax=>?_;replace hs:=hs.trans ax;refine Ee adZ kQ hs.has λw5 X5 ax=>?_;replace hs:=hs.trans ax;refine Ee YN kQ hs.has λw6 X6 ax=>?_;replace hs:=hs.trans ax;exact bM hs λwa aH=>by simp
theorem aaU {b:Value} {zt:List (Rec×Value)} (ha:Sl w X 29 a (zs.map LJ)) (hb:Sl w X 29 b (zt.map LJ)) (e:zs.map (·.1)=zt.map (·.1)) (hp: ∀z∈zs,Sl w X 1 z.2 (z.1.parts.map I1)) (hq: ∀z∈zt,Sl w X 1 z.2 (z.1.parts.map I1)):
  Ct pg 23 #[a,b] w X nX λv _ _=>v=B true:=by
 intro w0 hk;replace ha:=ha.mv hk.bY;replace hb:=hb.mv hk.bY;have kn:=ha.gR;have hlen:zs.length=zt.length:=by have:=congrArg ba e;simpa using this
 refine Q1.1 λhs=>?_;repeat' refine aJ ?_;intros
 refine eY (λn a w X=> ∃i:Nat,a=I i/\n=zs.length-i/\i<=zs.length/\ai (bI w0) w0 X w) zs.length ⟨0,rfl,rfl,aq _,hs⟩ ?_;clear hs;rintro n _ w1 X1 ⟨i,rfl,rfl,hi,hs⟩
 show(aV _ _ _ _ _:Prop)
 rcases dE zs i with⟨cD,z,hz,hd⟩|⟨dD,hd⟩
 ·obtain⟨z',sK⟩: ∃z',zt[i]? =some z':=⟨_,List.getElem?_eq_getElem zQ⟩;have h1:=(hp z (ay hz)).mv hk.bY;have h2:=(hq z' (ay sK)).mv hk.bY;have he:z.1=z'.1:=by
   have:(zs.map (·.1))[i]? =(zt.map (·.1))[i]? :=by rw[e]
   rw[cP,cP,hz,sK] at this;simpa using this
  obtain⟨r,v⟩:=z;obtain⟨r',v'⟩:=z';obtain rfl:r=r':=he;have o1:=h1.one;have o2:=h2.one;repeat' refine aJ ?_;intros
  refine dL (ad0 (r:=r) (h1.mv hs.mv) (h2.mv hs.mv)) kQ hs.has λw2 X2 ax=>?_;replace hs:=hs.trans ax;repeat' refine ak ?_;intros
  exact ep (zs.length-(i+1)) zQ ⟨i+1,congrArg I zQ,rfl,by omega,hs⟩
 ·repeat' refine aJ ?_;intros
  exact bM hs λwa aH=>rfl
theorem LS.new {w1:World} {X1:XS} (q:LS w0 bZ T w X own db s) (hs:ai X w X1 w1) (hle:w.heap.size<=wa.heap.size) (gn: ∀k,made wa w1 k->X1 k):
  ∃aI,LS w0 bZ T w1 X1 aI db s/\(∀k,made wa w1 k->aI k=4)/\Mv (bN own 4) w (bN aI 4) w1:=by
 obtain⟨aI,q',p4,p5⟩:=(q.since hs).uW (K:=made wa w1) λk hk=>⟨gn k hk,ad q.t.s.kp.size (ad hle hk.1),dB λe=>by have:=q.h.lt k e;have:=hk.1;omega,λh=>by have:=q.has k (q.t.bw k (.inr h));have:=hk.1;omega⟩;exact⟨aI,q',p4,λk (hk:own k=4) _=>⟨p5 k hk,hs.kp.block k (q.x k zQ)⟩⟩
theorem SB {b:Value} {xs ys:List bL} (ha:Sl w X 3 a (xs.map bL.l)) (hb:Sl w X 3 b (ys.map bL.l)):
  Ct pg 28 #[a,b] w X nX λv _ _=>v=B (decide (xs=ys)):=by
  intro w0 hk;replace ha:=ha.mv hk.bY;replace hb:=hb.mv hk.bY;have kn:=ha.gR;refine Q2.1 λhs=>?_;repeat' first|refine ak ?_;intros|refine cM ?_ ?_<;>intros|(refine qr ?_;intro wa hk;(simp only[B,Value.bool.injEq];symm;rw[decide_eq_false_iff_not];rintro rfl;omega))
  have hlen:xs.length=ys.length:=by omega
  refine eY (λn a w X=> ∃i:Nat,a=I (i:Nat)/\n=(xs).length-i/\i<=(xs).length/\ai (bI w0) w0 X w/\(xs=ys↔xs.drop i=ys.drop i)) (xs).length ⟨0,rfl,rfl,aq _,hs,by simp⟩ ?_;rintro n a w X ⟨i,rfl,rfl,hi,hs,hw⟩;rcases dE (xs) i with⟨cD,x,hx,hd⟩|⟨dD,hd⟩
  ·obtain⟨y,hy,hdy⟩:=MS (xs:=ys) (i:=i) zQ;repeat' first|refine aJ ?_;intros|(with_reducible apply afO);(· kernel_rfl);all_goals intros|(refine qr ?_;intro wa hk;(simp_all [bL.ext_iff]))|((with_reducible refine ep ((xs).length-(i+1)) ?_ ?_);omega;exact⟨i+1,by simp,rfl,by omega,hs,by simp_all [bL.ext_iff]⟩)
  ·have hdy:=List.drop_of_length_le (l:=ys) (i:=i) zQ;repeat' first|refine aJ ?_;intros|(refine qr ?_;intro wa hk;simp_all)
end Go.Proofs.YtgfijddlkhkopaaGreat