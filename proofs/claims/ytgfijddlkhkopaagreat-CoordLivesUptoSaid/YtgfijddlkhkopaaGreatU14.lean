/-
 racelaw17.CoordLives returns true, whatever it is called with, where what it reads is of bulk at most 1048576; the input reads as it did.
-/
import Derived.Test.YtgfijddlkhkopaaGreatU13
set_option linter.all false
open Nat renaming le_trans → ad, zero_le → aq, le_refl → au, le_add_right → iG, lt_of_lt_of_le → av, le_succ → dF, le_of_not_lt → Bg
open List renaming length_map → ah, length_append → aa, mem_of_getElem? → aA, length_nil → br, map_append → aD, map_map → bz, mem_singleton → aw, getElem?_map → cL, take_add_one → cj, take_length → jY, flatMap_cons → jA, length → ba, length_cons → aK, map_cons → bm, length_take → aB, length_singleton → cd, append_nil → gn, take_append_drop → fq, mem_cons_of_mem → bG, mem_cons_self → lQ, getElem?_eq_getElem → aS, flatMap_append → yJ
open Go.Value renaming tuple → di
open Classical renaming byContradiction → eB
namespace Go.Proofs.YtgfijddlkhkopaaGreat
open Go.Proofs.Tryz renaming prog → pg
open Go.aL
set_option maxRecDepth 100000
set_option maxHeartbeats 4000000
attribute [local irreducible] un jn jk iA ld1 su st1 kT kU oY rE pH Jp Ew gR gu aX lR lS eW eV eU eC eF gE mR fin iE bu dG vS NO Jq Jr Js Jt Ju NP NR NS NT FN FO Jv Jw Jx NU NV NW
theorem afU {l:List (List Nat)} (h: ∀p∈l,wQ p):wQ (flat l):=λx hx=>by
 obtain⟨y,hy,hx⟩:=List.mem_flatten.1 hx;obtain⟨z,hz,rfl⟩:=List.mem_map.1 hy;exact Uo (h z hz) x hx
theorem oP.aqU {dir:ByteArray} {pre:List dN} {s:dN} {ly:List Nat} {sf:Nat} {m:DM} (h:oP dir pre s ly sf m) (hg:Good (pre++[s])) (ht:wQ ly): ∀n,wQ (m.bytes n):=λn=>by
 cases hq:m.get n with
 |none=>unfold DM.bytes;rw[hq];intro x hx;cases hx
 |some y=>
  have hm:=h.ks.mem_iff.1 (DM.get_some.1 (by rw[hq];rfl));obtain⟨t,xC,rfl⟩:=List.mem_map.1 hm;have hb:wQ (flat t.bh):=afU λp hp=>((hg.ok t xC).pl p hp).2;rcases List.mem_append.1 xC with xC|xC
  ·rw[uX (h.body t xC)];exact hb
  ·simp only[aw] at xC;subst xC;rw[uX h.last];exact tZ hb ht
theorem wV.O8 {k:Nat} {P:jH->Prop} {m:DM} (h:wV k P m) (cH:List Int):(∀x∈(m.me cH).fs,x.1.size<=2^40)/\(m.me cH).fs.length<=64/\ ∀n,wQ ((m.me cH).bytes n):=by
 obtain⟨pre,s,ly,sf,_,hg,ht,hbt,hd⟩:=h.2 cH;refine⟨λx hx=>?_,?_,hd.aqU hg hbt⟩
 ·have hm:x.1∈(m.me cH).ks:=List.mem_map.2 ⟨x,hx,rfl⟩;obtain⟨t,_,e⟩:=List.mem_map.1 (hd.ks.mem_iff.1 hm);rw[<-e,A7]
  decide
 ·have h1:=congrArg ba (Pa m cH);rw[DM.vL,DM.vL] at h1;rw[h1];exact h.1
theorem wV.names {k:Nat} {P:jH->Prop} {m:DM} (h:wV k P m): ∀x∈m.fs,x.1.size<=2^40:=λx hx=>by
 have hm:x.1∈(m.me []).ks:=by rw[Pa];exact List.mem_map.2 ⟨x,hx,rfl⟩
 obtain⟨y,hy,e⟩:=List.mem_map.1 hm;rw[<-e];exact(h.O8 []).1 y hy
inductive CS where
 |up (n:bo)
 |dn (nb:Nat) (m:DM) (P:jH->Prop)
def CS.nb:CS->Nat
 | .up n=>n.nb
 | .dn nb _ _=>nb
def CS.out:CS->Value
 | .up n=>.agg #[n.vm,n.va]
 | .dn _ _ _=>.agg #[aP,aP]
def CS.Pf:CS->CS
 | .up n=>.up (dV n)
 | .dn nb m P=>.dn nb m P
def CS.Is (w:World) (own:Nat->Nat) (db:Nat):CS->Prop
 | .up n=>jy w own n/\n.db=db
 | .dn nb m _=>QU w own nb db m
def CS.adY (w:World) (own:Nat->Nat):CS->Prop
 | .up n=>zU w own n
 | .dn _ _ _=>True
def CS.Ok (k N:Nat):CS->Prop
 | .up n=>gB k N n
 | .dn _ m P=>YH k P m
structure Gk (a:jH) (n:bo):Prop where
 abs:n.abs=(a.1+1,a.2)
 gg:n.c.gg=0
 al:n.al=[]
 ds:n.ds=LK
 ms:n.ms=[]
 ra:n.ra=[]
 we: ∀b∈n.cl,Yy (n.C b)
theorem DM.ah6 (m:DM) (z:Int):(m.od z).fs=m.fs/\(m.od z).dn=m.dn:=by
 unfold DM.od;split<;>exact⟨rfl,rfl⟩
theorem vZ.od {L:LM} {m:DM} {k:Nat} {a:jH} (h:vZ ⟨L,m⟩ k a) (z:Int):vZ ⟨L,m.od z⟩ k a:=by
 obtain⟨pre,sg,h1,h2,h3,h4⟩:=h;obtain⟨e1,e2⟩:=m.ah6 z;have eg: ∀n,(m.od z).get n=m.get n:=λn=>by unfold DM.get;rw[e1]
 have ek:(m.od z).ks=m.ks:=by unfold DM.ks;rw[e1]
 have es:(m.od z).sz=m.sz:=by unfold DM.sz;rw[e1]
 refine⟨pre,sg,⟨h1.bC,h1.g,⟨?_,?_,λt ht=>?_,?_,h1.d.sf⟩,?_,?_,?_,h1.d1,h1.d2,h1.r1,h1.r2⟩,h2,h3,h4⟩
 ·show(m.od z).ks.Nodup;rw[ek];exact h1.d.nd
 ·show(m.od z).ks.Perm _;rw[ek];exact h1.d.ks
 ·show(m.od z).get _=_;rw[eg];exact h1.d.body t ht
 ·show(m.od z).get _=_;rw[eg];exact h1.d.last
 ·show(m.od z).dn=false;rw[e2];exact h1.dn
 ·show(m.od z).sz<=_;rw[es];exact h1.sz
 ·show(m.od z).fs.length<=_;rw[e1];exact h1.fl
def gB.od {k N:Nat} {n:bo} (h:gB k N n) (z:Int):gB k N { n with m:=n.m.od z } :=
 ⟨⟨h.ok.id,h.ok.act,h.ok.ds,h.ok.ms,h.ok.vm,h.ok.va,h.ok.rm,h.ok.ra,h.ok.cl,h.ok.aln,h.ok.mM,h.ok.pre,h.ok.cw,h.ok.byT⟩,h.bl,h.log.od z,h.gg,h.aR,λt b hg=>let q:=h.act t b hg;⟨q.co,q.aR,q.sq,q.bl⟩,h.abs,h.BJ⟩
def ah7:CS->jI->bE->CS->Prop
 | .up n,o,t,s1=>(o.kind=1/\t=iY n/\ ∃n1,s1= .up n1/\MK n o.prog n1)\/(o.kind=2/\t= .zero/\((∃n1,s1= .up n1/\Gf n o.m n1)\/ ∃m',s1= .dn n.nb m' (adX n o.m)/\IA n o.m m'))\/(o.kind=3/\t= .zero/\ ∃n1,s1= .up n1/\MT n n1)\/
   (o.kind=4/\t= .zero/\s1= .up { n with m:=n.m.od o.n })\/(o.kind=5/\t= .zero/\ ∃n1,s1= .up n1/\Gk n.abs n1)\/((o.kind<1\/5<o.kind)/\t= .zero/\s1= .up n)
 | .dn nb m P,o,t,s1=>(o.kind=5/\t= .zero/\ ∃n1 a,s1= .up n1/\P a/\zH a/\Gk a n1)\/(o.kind≠5/\t= .zero/\s1= .dn nb m P)
section
variable {w w' wa w0 : World} {X X' : XS} {own aG bN : Nat -> Nat} {n n' : bo} {db : Nat} {m : DM}
theorem adZ: ∀(i:Int) (r:eI),getM i (LJ.foldl iX [])=some r->r.id=i:=λi r h=>by
 rw[Rc] at h;exact amF h
theorem _root_.Go.aL.St.Ds {vq:Value} {cH:List Int} {k N:Nat} {P:jH->Prop} {R:Ending->World->Prop} {NX:Value->World->XS->Prop} (s:St w0 bN w X own (QS db m)) (hq:Sl w (bQ own 4) 1 vq (cH.map I1)) (hc:wV k (λs=>P s/\zH s) m) (hk:k<=190)
  (kk: ∀a w' X' aG n',Sn w0 bN w' X' aG n'->n'.db=db->P a->zH a->Gk a n'->gB (k+1) N n'->NX (.tuple #[ptr n'.nb 0,I 0]) w' X'):
  eC pg R X w true 38 #[ptr db 0,vq] λ_ w X=>eC pg R X w true 37 #[] λv w X=>eC pg R X w true 36 #[ptr db 0,I 1,I 4096,v] NX:=by
 refine s.me hq hc.names (by have:=hc.1;omega) λw1 X1 ia s1=>?_;refine cu LN kQ s1.has ?_;rintro vl wb w2 X2 kq lu ka bB;obtain⟨mY,s3,-,-,p4⟩:=(s1.since bB).uR (N:=made wb w2) λq hq=>⟨ka q hq,s1.nw (ad lu hq.1)⟩;obtain⟨mb,l,_,hz⟩:=id (s3.get 3:Dk w2 (bQ mY 3) db _);obtain⟨a,x,pre,sg,rs,⟨hP,hA⟩,hB⟩:=Go.Proofs.YtgfijddlkhkopaaGreat.Ds hc zQ cH hz;obtain⟨d1,d2,d3⟩:=hc.O8 cH;refine s3.call (E3 (l:=LJ) s3.h s3.x (kq.mono p4).sl SR d1 zQ d3 hB.BH hB.log hB.sy hB.kp hB.err) kQ λv w' X' aG n' s' ⟨hv,hO⟩ _=>?_;subst hv;exact kk a w' X' aG n' s' hO.db hP hA ⟨hO.abs,hO.gg,hO.al,hO.ds.trans Rc,hO.ms,hO.ra,hO.we⟩ (gB.Ds hB hA hO adZ zQ)
theorem sW.nb: ∀{ts:List bE} {n n1:bo},sW ts n n1->n1.nb=n.nb/\n1.db=n.db
 |[],n,n1,h=>by
  have:n1=n:=h;subst this;exact⟨rfl,rfl⟩
 |t::ts,n,n1,⟨n2,h1,h2⟩=>⟨(sW.nb h2).1.trans h1.tk.nb,(sW.nb h2).2.trans h1.tk.db⟩
theorem yR.nb: ∀{ts:List Nat} {n n1:bo},yR ts n n1->n1.nb=n.nb/\n1.db=n.db
 |[],n,n1,h=>by
  have:n1=n:=h;subst this;exact⟨rfl,rfl⟩
 |t::ts,n,n1,⟨n2,h1,h2⟩=>⟨(yR.nb h2).1.trans h1.tk.nb,(yR.nb h2).2.trans h1.tk.db⟩
theorem MT.nb {n n1:bo} (h:MT n n1):n1.nb=n.nb/\n1.db=n.db:=by
 obtain⟨ts,n2,_,h1,h2⟩:=h;exact⟨h2.nb.1.trans h1.nb.1,h2.nb.2.trans h1.nb.2⟩
def ad0 (own:Nat->Nat) (wa w':World) (db:Nat) (s:CS) (o:jI) (k N:Nat) (v:Value):Prop:=
 ∃aG s1 t,Bd own aG wa.heap.size/\CS.Is w' aG db s1.Pf/\CS.adY w' aG s1/\CS.Ok k N s1.Pf/\v= .tuple #[ptr s1.nb 0,s1.out,t.v]/\ah7 s o t s1
theorem CS.akB (s:CS):s.Pf.nb=s.nb:=by cases s<;>rfl
theorem sR.out {N k:Nat} (hk:sR N k n):zU w own n:=⟨by rw[hk.vm,hk.rm];exact Sl.nil _ _ _,by rw[hk.rm,hk.ms];exact fT.nil _ _,by rw[hk.va,hk.ra];exact Sl.nil _ _ _⟩
theorem ad1 {o:jI} {vk vs vw vp vr vc vh vd vo vq:Value} {k N:Nat} (h:jy w own n) (hX:qV own X) (jl:gB k N n) (ho:o.at w (bQ own 4) vk vs vw vp vr vc vh vd vo vq) (mK:o.m.small) (AU:o.m.lens<=2^62) (vJ:o.prog.length<=2^30) (hn:o.n<2^63) (hk:k<=180) (hN:N+o.m.seen.length<=2^20):
  Ct pg 12 #[ptr n.db 0,ptr n.nb 0,.agg (o.l vk vs vw vp vr vc vh vd vo vq).toArray] w X (gF own) λv wa w'=>ad0 own wa w' n.db (.up n) o (k+1) (N+o.m.seen.length) v:=by
 intro w0 ik;have s0:=St.init h hX ik;have YK:o.at w0 (bQ own 4) vk vs vw vp vr vc vh vd vo vq:=by
  have m:=yF hX ik;exact⟨ho.m.mv m,ho.po.mv m,ho.p.mv m⟩
 clear h hX ik ho;have UF:=jl.gg;have nC:Be n:=s0.get 12;have hs:=ai.init w0;refine E8.1 λ_=>?_;refine ij (Q:=λK=> ∀w X aG n',Sn w0 own w X aG n'->n'.nb=n.nb->n'.db=n.db->gB (k+1) (N+o.m.seen.length) n'->ah7 (.up n) o .zero (.up n')->K w X) ?_ λK hK=>?_
 ·intro w1 X1 ia n1 s1 e1 e2 h1 h2;clear hs;have hs:=s1.rf;repeat' refine ak ?_;intros
  exact s1.t.fin λwa nM=>⟨ia,.up n1,.zero,s1.e,⟨s1.h.kp s1.x nM|>λh=>by rw[h1.ok.dV];exact h,by rw[h1.ok.dV];exact e2⟩,h1.ok.out,by show gB _ _ (dV n1);rw[h1.ok.dV];exact h1,by show _=di #[ptr n1.nb 0,.agg #[n1.vm,n1.va],_];rw[e1,h1.ok.vm,h1.ok.va],h2⟩
 ·by_cases k1:o.kind=1
  ·repeat' refine aJ ?_;intros
   refine s0.call (EF s0.h s0.x jl.ok YK.po vJ ⟨UF.1,by omega⟩) kQ λv w1 X1 ia n' s1 q _=>?_;obtain⟨n1,⟨hC,_⟩,rfl,rfl,hO⟩:=q;have q1:=hO.om.one;have q2:=hO.oa.one;have lJ:n1.nb=n.nb/\n1.db=n.db:=by obtain⟨_,_,_,_,_,_,_,_,_,rfl,_⟩:=hC;exact⟨rfl,rfl⟩
   clear hs;have hs:=s1.rf;repeat' refine ak ?_;intros
   exact s1.t.fin λwa nM=>⟨ia,.up n1,iY n,s1.e,⟨s1.h.kp s1.x nM,lJ.2⟩,hO.mv (yF s1.x nM),(jl.call hC zQ).up (au _) zQ (iG _ _),by show _=di #[ptr n1.nb 0,.agg #[n1.vm,n1.va],_];rw[lJ.1],.inl ⟨k1,rfl,n1,rfl,hC⟩⟩
  by_cases k2:o.kind=2
  ·obtain⟨pre,sg,Pd,_⟩:=jl.log;repeat' refine aJ ?_;intros
   refine s0.ajL (Lt s0.h s0.x Pd YK.m jl.ok hN mK AU) kQ (λv w1 X1 ia n' s1 q _=>?_) λw1 X1 ia m' s1 hF=>?_
   ·obtain⟨n1,hC,rfl,rfl,hO⟩:=q;have q1:=hO.om.one;have q2:=hO.oa.one;have lJ:=hC.nb;clear hs;repeat' refine ak ?_;intros
    exact s1.t.fin λwa nM=>⟨ia,.up n1,.zero,s1.e,⟨s1.h.kp s1.x nM,lJ.db⟩,hO.mv (yF s1.x nM),jl.step nC hC zQ,by show _=di #[ptr n1.nb 0,.agg #[n1.vm,n1.va],_];rw[lJ.nb],.inr (.inl ⟨k2,rfl,.inl ⟨n1,rfl,hC⟩⟩)⟩
   ·clear hs;repeat' refine ak ?_;intros
    exact s1.t.fin λwa nM=>⟨ia,.dn n.nb m' (adX n o.m),.zero,s1.e,s1.h.kp s1.x nM,trivial,jl.aoN hF zQ,rfl,.inr (.inl ⟨k2,rfl,.inr ⟨m',rfl,hF⟩⟩)⟩
  by_cases k3:o.kind=3
  ·repeat' refine aJ ?_;intros
   refine s0.call (Lw s0.h s0.x jl.ok) kQ λv w1 X1 ia n' s1 q _=>?_;obtain⟨n1,hC,rfl,rfl,hO⟩:=q;have q1:=hO.om.one;have q2:=hO.oa.one;have lJ:=hC.nb;clear hs;have hs:=s1.rf;repeat' refine ak ?_;intros
   exact s1.t.fin λwa nM=>⟨ia,.up n1,.zero,s1.e,⟨s1.h.kp s1.x nM,lJ.2⟩,hO.mv (yF s1.x nM),(jl.tick nC hC zQ).up (au _) zQ (iG _ _),by show _=di #[ptr n1.nb 0,.agg #[n1.vm,n1.va],_];rw[lJ.1],.inr (.inr (.inl ⟨k3,rfl,n1,rfl,hC⟩))⟩
  by_cases k4:o.kind=4
  ·repeat' refine aJ ?_;intros
   refine s0.call (aa6 (z:=o.n) s0.h s0.x hn) kQ λv w1 X1 ia n' s1 ⟨_,q⟩ _=>?_;subst q;exact hK _ _ ia _ s1 rfl rfl ((jl.od o.n).up (dF _) zQ (iG _ _)) (.inr (.inr (.inr (.inl ⟨k4,rfl,rfl⟩))))
  by_cases k5:o.kind=5
  ·repeat' refine aJ ?_;intros
   refine s0.kst.Ds (N:=N+o.m.seen.length) YK.p jl.crs zQ λa w1 X1 ia n' s1 e1 ha haa hB sC=>?_;subst ha;clear hs;have hs:=s1.rf;repeat' refine aJ ?_;intros
   exact s1.t.fin λwa nM=>⟨ia,.up n',.zero,s1.e,⟨s1.h.kp s1.x nM|>λh=>by rw[sC.ok.dV];exact h,by rw[sC.ok.dV];exact e1⟩,sC.ok.out,by show gB _ _ (dV n');rw[sC.ok.dV];exact sC.up (au _) zQ (au _),by show _=di #[ptr n'.nb 0,.agg #[n'.vm,n'.va],_];rw[sC.ok.vm,sC.ok.va],.inr (.inr (.inr (.inr (.inl ⟨k5,rfl,n',rfl,hB⟩))))⟩
  ·repeat' refine aJ ?_;intros
   all_goals exact hK _ _ own n s0 rfl rfl (jl.up (dF _) zQ (iG _ _)) (.inr (.inr (.inr (.inr (.inr ⟨by omega,rfl,rfl⟩)))))
theorem ad2 {o:jI} {nb:Nat} {P:jH->Prop} {vk vs vw vp vr vc vh vd vo vq:Value} {k N:Nat} (h:QU w own nb db m) (hX:qV own X) (jN:YH k P m) (ho:o.at w (bQ own 4) vk vs vw vp vr vc vh vd vo vq) (hn:o.n<2^63) (hk:k<=180):
  Ct pg 12 #[ptr db 0,ptr nb 0,.agg (o.l vk vs vw vp vr vc vh vd vo vq).toArray] w X (gF own) λv wa w'=>ad0 own wa w' db (.dn nb m P) o (k+1) (N+o.m.seen.length) v:=by
 intro w0 ik;have s0:=St.init h hX ik;have YK:o.at w0 (bQ own 4) vk vs vw vp vr vc vh vd vo vq:=by
  have m:=yF hX ik;exact⟨ho.m.mv m,ho.po.mv m,ho.p.mv m⟩
 clear h hX ik ho;have KC:Lk w0 (bK w0) nb:=s0.zP 1;have hs:=ai.init w0;have xz: ∀{w1 X1 ia},St w0 own w1 X1 ia (Us nb db m)->o.kind≠5->aL.fin (uF (gF own) w0 λv w'=>ad0 own w0 w' db (.dn nb m P) o (k+1) (N+o.m.seen.length) v) X1 w1 (.tuple #[ptr nb 0,.agg #[aP,aP],.agg #[I 0,I 0,I 0]]):=λs1 CT=>
  s1.t.fin λwa nM=>⟨_,.dn nb m P,.zero,s1.e,s1.h.kp s1.x nM,trivial,jN.up (dF _),rfl,.inr ⟨CT,rfl,rfl⟩⟩
 refine E8.1 λ_=>?_;refine ij (Q:=λK=> ∀w X ia,St w0 own w X ia (Us nb db m)->o.kind≠5->K w X) ?_ λK hK=>?_
 ·intro w1 X1 ia s1 CT;clear hs;have hs:=s1.rf;repeat' refine ak ?_;intros
  exact xz s1 CT
 ·by_cases k1:o.kind=1
  ·repeat' refine aJ ?_;intros
   refine dS (Vv KC YK.po.one) kQ hs.has λw1 X1 ax=>?_;have s1:=s0.since ax;clear hs ax;have hs:=s1.rf;repeat' refine ak ?_;intros
   exact xz s1 zQ
  by_cases k2:o.kind=2
  ·repeat' refine aJ ?_;intros
   refine dS (Vw KC YK.m) kQ hs.has λw1 X1 ax=>?_;have s1:=s0.since ax;clear hs ax;have hs:=s1.rf;repeat' refine ak ?_;intros
   exact xz s1 zQ
  by_cases k3:o.kind=3
  ·repeat' refine aJ ?_;intros
   refine dS (Vx KC) kQ hs.has λw1 X1 ax=>?_;have s1:=s0.since ax;clear hs ax;have hs:=s1.rf;repeat' refine ak ?_;intros
   exact xz s1 zQ
  by_cases k4:o.kind=4
  ·repeat' refine aJ ?_;intros
   refine s0.call (aa7 (z:=o.n) s0.h s0.x hn jN.1) kQ λv w1 X1 ia m' s1 ⟨_,q⟩ _=>?_;subst q;exact hK _ _ _ s1 zQ
  by_cases k5:o.kind=5
  ·repeat' refine aJ ?_;intros
   refine s0.aqS.Ds (N:=N+o.m.seen.length) YK.p jN.2 zQ λa w1 X1 ia n' s1 e1 ha haa hB sC=>?_;clear hs;have hs:=s1.rf;repeat' refine aJ ?_;intros
   exact s1.t.fin λwa nM=>⟨ia,.up n',.zero,s1.e,⟨s1.h.kp s1.x nM|>λh=>by rw[sC.ok.dV];exact h,by rw[sC.ok.dV];exact e1⟩,sC.ok.out,by show gB _ _ (dV n');rw[sC.ok.dV];exact sC.up (au _) zQ (au _),by show _=di #[ptr n'.nb 0,.agg #[n'.vm,n'.va],_];rw[sC.ok.vm,sC.ok.va],.inl ⟨k5,rfl,n',a,rfl,ha,haa,hB⟩⟩
  ·repeat' refine aJ ?_;intros
   all_goals exact hK _ _ _ s0 k5
theorem afV {s:CS} {o:jI} {vk vs vw vp vr vc vh vd vo vq:Value} {k N:Nat} (h:CS.Is w own db s) (hX:qV own X) (jl:CS.Ok k N s) (ho:o.at w (bQ own 4) vk vs vw vp vr vc vh vd vo vq) (mK:o.m.small) (AU:o.m.lens<=2^62) (vJ:o.prog.length<=2^30) (hn:o.n<2^63) (hk:k<=180) (hN:N+o.m.seen.length<=2^20):
  Ct pg 12 #[ptr db 0,ptr s.nb 0,.agg (o.l vk vs vw vp vr vc vh vd vo vq).toArray] w X (gF own) λv wa w'=>ad0 own wa w' db s o (k+1) (N+o.m.seen.length) v:=by
 cases s with
 |up n=>
  obtain⟨h1,rfl⟩:=h;exact ad1 h1 hX jl ho mK AU vJ hn hk hN
 |dn nb m P=>exact ad2 h hX jl ho hn hk
end
structure HM where
 e:Int
 t:bE
 st:cn
 on:Bool
 vs:Value
abbrev HM.l (a:HM):List Value:=EA a.e a.t a.st a.on a.vs
def ah8 (t:bE) (sa:List HM):Nat:=(sa.filter λa=>decide (a.t=t)).length
def Acc (d:Int) (n n1:bo) (sa:List HM) (t:bE):Prop:=
 (∃b,getM t n.al=some b/\((getM t n1.al=some b/\(n.A b).x.wK+d<=(n1.A b).x.wK/\ah8 t sa=0)\/(getM t n1.al=none/\ah8 t sa=1)))\/(getM t n.al=none/\getM t n1.al=none/\ah8 t sa=0)
section
variable {n n1 n2 n' : bo} {k k' N N' : Nat}
theorem LD.akC {n:Nat} {x:LD} (h:GL n x) (r:Rec):(x.iD r.fJ.toNat (ga r)).2.2≠12/\GL (n+2) (x.iD r.fJ.toNat (ga r)).1:=by
 rcases r.xM with e|e|e|e<;>rw[e]
 ·exact h.iD _
 all_goals exact⟨by simp[LD.iD],h.up zQ⟩
theorem gB.gl (h:gB k N n) (hm:mq n.m) (hk:k<=250):GL 300 ⟨n.L,n.m⟩:=by
 obtain⟨pre,sg,h1,h2,h3,h4⟩:=h.log;have hB:=h1.adF;have hN:=h1.adG;have hs:n.L.bC=pre++[sg]:=h1.bC;refine⟨hm,by grind,h1.d1,h1.d2,λt ht=>⟨?_,?_⟩,?_,by omega⟩
 ·have ht:t∈pre++[sg]:=hs▸ht;have:=gG.top h1.g.lk h2.fst t ht;have:=h2.lens.2;omega
 ·grind
 omega
def gB.afW (h:gB k N n) (hm:mq n.m) (hk:k<=250) (r:Rec):(jz n r).2.2≠12/\mq (jz n r).1.m:=
 let q:=LD.akC (h.gl hm hk) r
 ⟨q.1,q.2.ok⟩
theorem gB.stays {m:cJ} {m':DM} (h:gB k N n) (hm:mq n.m) (hk:k<=250) (hs:IA n m m'):False:=by
 obtain⟨_,_,⟨_,b,i,y,hw,hl,xH,_⟩|⟨_,b,i,hD,hl,xH,_⟩⟩:=hs
 ·exact(h.afW hm hk _).1 xH
 ·exact(h.afW hm hk _).1 xH
end
section
variable {w w' wa w0 : World} {X X' G K K' F T T' : XS} {own aG bN : Nat -> Nat} {n n' : bo} {b : Nat} {t0 : bE} {db : Nat} {m : DM} {s s' : CS}
def _root_.Go.aL.Hs.Re {F:Nat->pN} (h:Hs F w own) (e: ∀k,own k≠0->aG k=own k) (hl: ∀k,aG k≠0->k<w.heap.size):Hs F w aG:=
 ⟨λc h0 h4=>(F c).mv (h.gI c h0 h4) (Mv.sub λk (hk:own k=4)=>(e k zQ).trans hk) (Mv.sub λk (hk:own k=c)=>(e k zQ).trans hk),hl⟩
theorem CS.Is.mv (h:CS.Is w own db s) (hb: ∀k,own k≠0->w'.heap[k]? =w.heap[k]?) (hz:w.heap.size<=w'.heap.size):CS.Is w' own db s:=by
 cases s with
 |up n=>exact⟨h.1.mv hb hz,h.2⟩
 |dn nb m P=>exact Hs.mv h hb hz
theorem CS.Is.lt (h:CS.Is w own db s): ∀k,own k≠0->k<w.heap.size:=by
 cases s with
 |up n=>exact h.1.lt
 |dn nb m P=>exact Hs.lt h
theorem CS.Is.Re (h:CS.Is w own db s) (e: ∀k,own k≠0->aG k=own k) (hl: ∀k,aG k≠0->k<w.heap.size):CS.Is w aG db s:=by
 cases s with
 |up n=>exact⟨h.1.Re e hl,h.2⟩
 |dn nb m P=>exact Hs.Re h e hl
structure LS (w0:World) (bN:Nat->Nat) (T:XS) (w:World) (X:XS) (own:Nat->Nat) (db:Nat) (s:CS):Prop where
 t:Ft w0 (gF bN) w X (λk=>gF own k\/T k)
 h:CS.Is w own db s
 x: ∀k,own k≠0->X k
 e:Bd bN own w0.heap.size
 tz: ∀k,T k->own k=0
theorem LS.has (s':LS w0 bN T w X own db s): ∀k,X k->k<w.heap.size:=s'.t.s.has
def LS.rf (s':LS w0 bN T w X own db s):ai X w X w:=ai.fG s'.has
def LS.since (q:LS w0 bN T w X own db s) (hs:ai X w X' w'):LS w0 bN T w' X' own db s:=
 ⟨q.t.since hs,q.h.mv (λk hk=>hs.kp.block k (q.x k hk)) hs.kp.size,λk hk=>hs.sub k (q.x k hk),q.e,q.tz⟩
theorem LS.call {P:Program} {f:FuncId} {args:Array Value} {R:Ending->World->Prop} {N:Value->World->XS->Prop} {Q:Value->World->(Nat->Nat)->CS->Prop} (q:LS w0 bN T w X own db s) (h:Ct P f args w X (gF own) λv wa w'=> ∃aG s1,Bd own aG wa.heap.size/\CS.Is w' aG db s1/\Q v w' aG s1) (hf:enters P f=true)
  (k: ∀v w' X' aG s1,LS w0 bN T w' X' aG db s1->Q v w' aG s1->Mv T w T w'->Mv (bQ own 4) w (bQ aG 4) w'->N v w' X'):eC P R X w true f args N:=
 q.t.call h hf (λ_ h=>.inl h) λv wa w' X' hq hle gv hT c=>by
  obtain⟨aG,s1,e,h',hQ⟩:=hq;have hz:=q.t.s.kp.size;have hx: ∀k,aG k≠0->X' k:=λk hk=>by
   by_cases AS:k<wa.heap.size
   ·exact c.sub k (q.x k λe0=>hk ((e k AS).1 e0))
   ·exact gv k ⟨by omega,h'.lt k hk⟩
  have hTX: ∀k,T k->X k:=λk hk=>q.t.bA k (.inr hk);have Ls: ∀k,T k->aG k=0:=λk hk=>(e k (av (q.has k (hTX k hk)) hle)).1 (q.tz k hk);refine k v w' X' aG s1 ⟨hT.more λk hk=>?_,h',hx,λk hk=>?_,Ls⟩ hQ (λk hk _=>⟨hk,c.block k (hTX k hk) λh=>h.1 (q.tz k hk)⟩) λk (hk:own k=4) _=>⟨(e k (av (q.has k (q.x k zQ)) hle)).2 hk,c.block k (q.x k zQ) λh=>h.2 hk⟩
  ·rcases hk with hk|hk
   ·by_cases AS:k<wa.heap.size
    ·exact .inl (.inl (.inl ⟨λe0=>hk.1 ((e k AS).1 e0),λe0=>hk.2 ((e k AS).2 e0)⟩))
    ·exact .inr ⟨hx k hk.1,by omega⟩
   ·exact .inl (.inl (.inr hk))
  ·have h1:=q.e k hk;have h2:=e k zQ;exact⟨λe0=>h2.1 (h1.1 e0),λe0=>h2.2 (h1.2 e0)⟩
theorem LS.uR (q:LS w0 bN T w X own db s) (hK: ∀k,K k->X k/\w0.heap.size<=k/\own k=0/\ ¬T k): ∃aG,LS w0 bN T w X aG db s/\(∀k,K k->aG k=4)/\ ∀k,own k=4->aG k=4:=by
 classical
 have c0: ∀k,own k≠0->(if K k then 4 else own k)=own k:=λk hk=>if_neg λe=>hk (hK k e).2.2.1;have hx: ∀k,(if K k then 4 else own k)≠0->X k:=λk hk=>by
  by_cases e:K k
  ·exact(hK k e).1
  ·rw[if_neg e] at hk;exact q.x k hk
 refine⟨λk=>if K k then 4 else own k,⟨q.t.more λk hk=>.inl ?_,q.h.Re c0 λk hk=>q.has k (hx k hk),hx,λk hk=>?_,λk hk=>?_⟩,λk hk=>if_pos hk,λk hk=>(c0 k zQ).trans hk⟩
 ·rcases hk with hk|hk
  ·have hk:(if K k then 4 else own k)≠0/\(if K k then 4 else own k)≠4:=hk;by_cases e:K k
   ·rw[if_pos e] at hk;exact absurd rfl hk.2
   ·rw[if_neg e] at hk;exact .inl hk
  ·exact .inr hk
 ·have h1:=q.e k hk;have: ¬K k:=λe=>by have:=(hK k e).2.1;omega
  exact⟨λe=>(if_neg this).trans (h1.1 e),λe=>(if_neg this).trans (h1.2 e)⟩
 ·exact(if_neg λe=>(hK k e).2.2.2 hk).trans (q.tz k hk)
def amI {P:Program} {f:FuncId} {args:Array Value} {F F':XS} {Q:Value->World->World->Prop} (h:Ct P f args w X F Q) (hF: ∀k,F k->F' k):Ct P f args w X F' Q:=λwa hk=>(h wa hk).mono λ_ _ ⟨v,he,hf,hq⟩=>⟨v,he,hf.mono hF,hq⟩
theorem ab5 {R:Ending->World->Prop} {N:Value->World->XS->Prop} (hk:Kp X w w0) (k: ∀db w1 X1 ia,St w0 (λ_=>0) w1 X1 ia (QS db ⟨[],0,0,false⟩)->N (ptr db 0) w1 X1):eC pg R (bK w0) w0 true 35 #[] N:=by
 have s:St w0 (λ_=>0) w0 (bK w0) (λ_=>0) (λ_=>QT):=St.init (w:=w) (X:=X) ⟨λ_ _ _=>trivial,λk h=>absurd rfl h⟩ (λk h=>absurd rfl h) hk;refine cu ad3 kQ s.has ?_;rintro _ wa w1 X1 ⟨db,rfl,hD⟩ hle gv ax;obtain⟨ia,s1,-,-⟩:=(s.since ax).Ic (N:=made wa w1) 3 (dkR db ⟨[],0,0,false⟩) (λk hk=>⟨gv k hk,s.nw (ad hle hk.1)⟩) λ_=>hD;exact k db w1 X1 ia (s1.to λc h0 h4 w K A h=>by rcases c with _|_|_|_|c<;>first|exact h|trivial)
theorem aa8:Ct pg 11 #[] w X nX λv wa w'=> ∃aG n,(∀k,aG k≠0->made wa w' k)/\jy w' aG n/\v= .tuple #[ptr n.db 0,ptr n.nb 0]/\gB 1 0 n/\Gk (0,[]) n:=by
 have key:Ct pg 11 #[] w X (gF λ_=>0) λv wa w'=> ∃aG n,(∀k,aG k≠0->made wa w' k)/\jy w' aG n/\v= .tuple #[ptr n.db 0,ptr n.nb 0]/\gB 1 0 n/\Gk (0,[]) n:=by
  intro w0 hk;refine LO.1 λ_=>?_;refine ab5 hk λdb w1 X1 ia s1=>?_;have hs:=s1.rf;repeat' refine ak ?_;intros
  refine cu LN kQ s1.has ?_;rintro vl wb w2 X2 kq lu ka bB;obtain⟨mY,s3,-,-,p4⟩:=(s1.since bB).uR (N:=made wb w2) λq hq=>⟨ka q hq,s1.nw (ad lu hq.1)⟩;obtain⟨x,hB,_⟩:=ajM;refine s3.call (E3 (l:=LJ) s3.h s3.x (kq.mono p4).sl SR (λx hx=>absurd hx sQ) sQ (λn b hb=>absurd hb (by simp[DM.bytes,DM.get,getM])) hB.BH hB.log hB.sy hB.kp hB.err) kQ λv w' X' aG n' s' ⟨hv,hO⟩ _=>?_;subst hv;have hds:=hO.db;subst hds;clear hs;repeat' refine aJ ?_;intros
  exact s'.t.fin λwa nM=>⟨aG,n',λk hk=>⟨Bg λhl=>hk ((s'.e k hl).1 rfl),av (s'.h.lt k hk) nM.size⟩,s'.h.kp s'.x nM,rfl,gB.Ds hB (λx hx=>absurd hx sQ) hO adZ zQ,⟨hO.abs,hO.gg,hO.al,hO.ds.trans Rc,hO.ms,hO.ra,hO.we⟩⟩
 exact amI key λk hk=>absurd rfl hk.1
theorem ad4 {a:Value} {xs:List jI} (ha:fg w X 41 a jI.rd xs):
  Ct pg 10 #[a] w X nX λv _ _=> ∃b:Bool,v=B b/\(b=true->xs.length<=120):=by
 intro w0 hk;replace ha:=fg.mv ha jI.mv hk.cr;have kG:=ha.len;refine Pg.1 λhs=>?_
 skip
 refine AW (λn a b c w X=> ∃(i:Nat) (s:Int),a=I i/\c=I s/\n=xs.length-i/\i<=xs.length/\ai (bK w0) w0 X w) xs.length ⟨0,_,rfl,rfl,rfl,aq _,hs⟩ ?_;rintro n a b c w X ⟨i,s,rfl,rfl,rfl,hi,hs⟩;rcases dA (xs) i with⟨cB,x,hx,hd⟩|⟨dB,hd⟩
 ·repeat' first|refine aJ ?_;intros|refine cQ ?_ ?_<;>intros|(with_reducible apply E5);(case h=>assumption);(case hr=>exact hx);(case hz=>rfl);(case ht=>kernel_rfl);(case hs=>kernel_rfl);intros
  refine cu (LH (m:=x.m) (cJ.at.mv (jI.at.m aQ) hs.mv)) kQ hs.has ?_;rintro _ wa w X ⟨n1,rfl⟩ hle gv ax;replace hs:=hs.trans ax;repeat' first|refine ak ?_;intros|refine cQ ?_ ?_<;>intros|(refine qr ?_;intro wa hk;exact⟨_,rfl,by simp⟩)|(with_reducible apply E5);(case h=>assumption);(case hr=>exact hx);(case hz=>rfl);(case ht=>kernel_rfl);(case hs=>kernel_rfl);intros|with_reducible apply nI
  refine gz (λn a b w X=> ∃(k:Nat) (s:Int),a=I k/\b=I s/\n=x.prog.length-k/\k<=x.prog.length/\ai (bK w0) w0 X w) x.prog.length ⟨0,_,rfl,rfl,rfl,aq _,hs⟩ ?_;rintro n a b w X ⟨k,s,rfl,rfl,rfl,Jo,hs⟩;rcases dA x.prog k with⟨SA,y,hy,sk⟩|⟨EL,sk⟩
  ·repeat' first|refine aJ ?_;intros|(with_reducible apply E5);(case h=>assumption);(case hr=>exact hx);(case hz=>rfl);(case ht=>kernel_rfl);(case hs=>kernel_rfl);intros|with_reducible apply nI
   exact fB (x.prog.length-(k+1)) zQ ⟨k+1,_,by simp,rfl,rfl,by omega,hs⟩
  ·repeat' first|refine aJ ?_;intros|(with_reducible apply E5);(case h=>assumption);(case hr=>exact hx);(case hz=>rfl);(case ht=>kernel_rfl);(case hs=>kernel_rfl);intros
   exact zi (xs.length-(i+1)) zQ ⟨i+1,_,by simp,rfl,rfl,by omega,hs⟩
 ·repeat' first|refine aJ ?_;intros|refine cQ ?_ ?_<;>intros
  all_goals exact bS hs λwa aI=>⟨_,rfl,λe=>by first|(simp at e;done)|(simp at e;omega)⟩
end
theorem YM {gk:List BA} (h: ∀k∈gk,k∈fh 1 1 BN\/ ∃o∈BN,k=o.key/\(o.code=2\/o.code=3)): ∀k∈gk,k=kEx:=λk hk=>by
 rcases h k hk with e|⟨o,ho,rfl,hc⟩
 ·rw[E6] at e;cases e
 ·rcases List.mem_cons.1 ho with rfl|ho
  ·exact absurd hc dQ
  ·rw[aw] at ho;rw[ho]
theorem ab7: ∀gk:List BA,(∀k∈gk,k=kEx)->iZ LK [(1,[kEx])] gk=([(1,[kEx])],0)
 |[],_=>rfl
 |k::r,h=>by
  have hg:iJ kEx=true:=by kernel_rfl
  have e:=h k sQ;subst e;unfold iZ;rw[if_pos hg,YI];exact ab7 r λk hk=>h k (by simp[hk])
theorem ab8 {gk:List BA} (hn:gk≠[]) (h: ∀k∈gk,k=kEx):iZ LK [] gk=([(1,[kEx])],0):=by
 cases gk with
 |nil=>exact absurd rfl hn
 |cons k r=>
  have hg:iJ kEx=true:=by kernel_rfl
  have e:=h k sQ;subst e;unfold iZ;rw[if_pos hg,YI];exact ab7 r λk hk=>h k (by simp[hk])
theorem akD {ids:List Int} (h:Ii BN LK ids):ids=[1]:=by
 obtain⟨gk,hn,hk,_,rfl⟩:=h;rw[ab8 hn (YM hk)];unfold my;rw[show([((1:Int),[kEx])].map (·.1))=[1] from rfl,afP];rfl
theorem ah9: ¬OU BN LK:=by
 rintro(⟨e,wl,h,h2⟩|⟨gk,hn,hk,h⟩)
 ·have:=h E6 ab4;rw[amG] at this;rcases h2 with h2|h2
  ·exact h2 this.1
  ·rw[this.2,afR] at h2;cases h2
 ·rw[ab8 hn (YM hk)] at h;exact h rfl
structure ExN (n:bo):Prop where
 id:n.c.id=1
 aR:n.c.aR=1
 gg:n.c.gg=0
 ck:n.ck=⟨0,0,21⟩
 ds:n.ds=LK
 al:n.al=[]
structure ExC (n1:bo) (xb:Nat) (y:cJ):Prop where
 g:getM LL n1.al=some xb
 pre:(n1.A xb).x.pre=true
 mn:(n1.A xb).x.mn= .zero
 ids:(n1.A xb).ids=[1]
 ws:(n1.A xb).ws=[y]
 oN:y.range=1
theorem akE {n n1:bo} (h:ExN n) (hC:MK n BN n1) (hE:Qw (tu BN n.ck 5 n.ds≠0\/OU BN n.ds) (Ii BN n.ds) n n1):iY n=LL/\n1.ra=[]/\ ∃xb y,ExC n1 xb y/\y.kind=3/\n1.ms=[y.o9 (20+n.c.id)]:=by
 have ht:iY n=LL:=by unfold iY;rw[h.id,h.aR,h.gg];rfl
 refine⟨ht,?_⟩;unfold Qw at hE;rw[ht,h.ck,h.ds] at hE;obtain⟨xb,iW,KS,vm,va,rm,ra,ms,d,rfl,_,hc⟩:=hC;rcases hc with⟨a,rfl,_⟩|⟨rfl,rfl,hp,_,_,_,hl,_,rfl,ct,_,hw,hq⟩
 ·exact((hE.1 sQ).elim (λe=>e akz) ah9).elim
 ·have hg:getM LL (cK (iY n) xb n.al)=some xb:=by rw[ht];exact kn
  rcases hq with⟨_,_,_,_,q⟩|⟨amJ,hr,hk⟩
  ·exact absurd E6 q
  ·have hi:d.ids=[1]:=by simpa using akD (hE.2 xb hg rfl (by simp[amJ]))
   rw[hi] at hr;obtain⟨y,hy⟩:=List.length_eq_one_iff.1 ((by rw[<-ah (f:=(·.range)),hr];rfl:d.ws.length=1));rw[hy] at hr;exact⟨rfl,xb,y,⟨hg,by simp[amJ],by simp[hl],by simp[hi],by simp[hy],by simpa using hr⟩,(hk y (by rw[hy];simp)).1,by simp[hy]⟩
theorem akF {n n1:bo} {xb:Nat} {y:cJ} {k N:Nat} (h:ExC n xb y) (JC:n.ms=[]) (BC:n.ra=[]) (vH:n.c.id=1) (jl:gB k N n) (hk:k<=100) (hs:Gf n HL n1):
  ∃vs m6,aL.one vs=true/\n1.ra=[EA 0 LL YJ false vs]/\n1.ms=[m6]/\m6.jG=true/\n1.c.aR=n.c.aR:=by
 have no: ∀{q:Int},HL.kind=q->q=4:=λe=>e.symm;rcases hs with⟨q,rfl⟩|⟨_,_,⟨q,_⟩|⟨_,hs⟩|⟨q,_⟩|⟨q,_⟩|⟨_,q,_⟩⟩
 ·exact absurd ⟨akA,by rw[vH];rfl⟩ q
 ·exact absurd (no q) dQ
 ·rcases hs with⟨_,_,q⟩|⟨_,_,_,_,_,_,_,q,_⟩|⟨b,i,y',iW,lC,pJ,n2,hw,rfl,hc⟩
  ·exact(q xb 0 y ⟨h.g,h.pre,rfl,by rw[h.ws];rfl,h.oN⟩).elim
  ·exact absurd rfl q
  ·have hb:b=xb:=by have:=hw.g;rw[show HL.aM=LL from rfl,h.g] at this;exact(Option.some.inj this).symm
   subst hb;rcases hc with⟨q,_⟩|⟨_,hc⟩
   ·rw[h.ws] at q;exact absurd rfl q
   ·have e1:((ey n b (wS (n.A b) i HL lC pJ)).A b).x.mn=YJ:=by rw[js];show(n.A b).x.mn.later HL.aV=_;rw[h.mn];exact ah5
    have e2:((ey n b (wS (n.A b) i HL lC pJ)).A b).ids=[1]:=by rw[js];exact h.ids
    have ht:=jl.act LL b h.g;unfold QV Wh at hc;dsimp only at hc;rw[e1,e2,show HL.aM=LL from rfl] at hc;rcases hc with⟨xH,h0,_⟩|⟨_,bx,DI,vp,v2,ou,vs,hv,_,Av,xO,rfl,_⟩
    ·rw[xR afS] at xH h0;rcases jl.log.iD (Rb afS dQ (jl.Dl zQ ht)) (jl.Wm ht _ _) zQ with q|q
     ·exact absurd q.1 xH
     ·exact absurd q.1 h0
    ·exact⟨vs,_,hv,by show n.ra++_=_;rw[BC];rfl,by show n.ms++_=_;rw[JC];rfl,rfl,rfl⟩
 ·exact absurd (no q) dQ
 ·exact absurd (no q) dQ
 ·exact absurd rfl q
theorem E9 {w:World} {X:XS} :Ct pg 9 #[] w X nX λv w1 w2=>v=B true:=by
 have key:Ct pg 9 #[] w X (gF λ_=>0) λv wa w'=>v=B true:=by
  intro w0 hk;refine LP.1 λ_=>?_;refine ab5 hk λdb w1 X1 ia s1=>?_;have hs:=s1.rf;repeat' refine ak ?_;intros
  refine cu LN kQ s1.has ?_;rintro vl wb w2 X2 kq lu ka bB;obtain⟨mY,s3,-,-,p4⟩:=(s1.since bB).uR (N:=made wb w2) λq hq=>⟨ka q hq,s1.nw (ad lu hq.1)⟩;obtain⟨x,hB,hmo⟩:=ajM;refine s3.call (E3 (l:=LJ) s3.h s3.x (kq.mono p4).sl SR (λx hx=>absurd hx sQ) sQ (λn b hb=>absurd hb (by simp[DM.bytes,DM.get,getM])) hB.BH hB.log hB.sy hB.kp hB.err) kQ λv w' X' aG n' s' ⟨hv,hO⟩ _=>?_;subst hv;have jl:gB 1 0 n':=gB.Ds hB (λx hx=>absurd hx sQ) hO adZ zQ;have hx:ExN n':=⟨hO.id,by have:=congrArg Prod.fst hO.abs;exact this,hO.gg,hO.ck,hO.ds.trans Rc,hO.al⟩;have qT:mq n'.m:=by have:=congrArg LD.m hO.ld;rw[show n'.m=_ from this];exact hmo
  clear hs;have hs:=s'.rf;repeat' refine aJ ?_;intros
  refine Wn (rows:=BN.map jE.l) (BN.map jE.l).flatten.toArray (.agg #[I 0,.string ⟨#[]⟩,I 0,.float .f64 0,.string ⟨#[]⟩]) hs.has (bytes:=56) kQ kQ zQ zQ kQ sQ rfl rfl λa w4 X4 fX FY=>?_;have s4:=s'.since fX;obtain⟨lF,s5,-,-,p5⟩:=s4.uR (N:=eT a) λq hq=>⟨FY.2.2 q hq,s'.nw (FY.ge hq).1⟩;refine s5.call (EF (p:=BN) (gM:=5) s5.h s5.x jl.ok (xv FY (Y:=bQ lF 4) p5).sl dQ ⟨jl.gg.1,by rw[hx.gg];decide⟩) kQ λv w5 X5 mA n5 s6 q _=>?_;obtain⟨n1,⟨hC,hE⟩,rfl,rfl,hO5⟩:=q;obtain⟨ht,BC,xb,y,YN,hy,JC⟩:=akE hx hC hE;have sC:gB 2 0 (dV n1):=jl.call hC zQ;have qo:mq (dV n1).m/\(dV n1).c.id=1/\(dV n1).c.aR=1:=by
   obtain⟨_,_,_,_,_,_,_,_,_,rfl,_⟩:=hC;exact⟨qT,hx.id,hx.aR⟩
  obtain⟨pre,sg,Pd,_⟩:=sC.log;have BG:=hO5.oa;rw[BC] at BG;obtain⟨vab,van,vac,ha⟩:=BG.form;have JI:=hO5.om;have HN:=hO5.hm;rw[JC] at HN;obtain⟨l0,hl0⟩:=List.length_eq_one_iff.1 HN.1;rw[hl0] at HN JI;obtain⟨u1,u2,u3,u4,u5,u6,u7,u8,rfl,dh⟩:=HN.2 0 l0 _ rfl rfl;obtain⟨vmb,vmn,vmc,hvm⟩:=JI.form;rw[ht,ha,hvm];rw[ha] at BG;rw[hvm] at JI;have lJ:n'.nb=(dV n1).nb:=by obtain⟨_,_,_,_,_,_,_,_,_,rfl,_⟩:=hC;rfl
  clear hs s' s4 s5;have hs:=s6.rf;repeat' refine ak ?_;intros
  rw[lJ];refine s6.ajL (Lt (m:=HL) (vk:=UK) (vs:=UK) (vw:=UK) (vp:=UK) (vr:=UK) (vc:=UK) (vh:=UK) (vd:=UK) (gM:=5) s6.h s6.x Pd ⟨Sl.nil _ _ _,Sl.nil _ _ _,Sl.nil _ _ _,Sl.nil _ _ _,Sl.nil _ _ _,fg.nil _ _ _,fg.nil _ _ _,fg.nil _ _ _⟩ sC.ok dQ afT ah4) kQ (λv w7 X7 B0 n7 s7 q m7=>?_) λw7 X7 B0 d7 s7 hF=>(sC.stays qo.1 zQ hF).elim;obtain⟨n2,hS,rfl,rfl,hO7⟩:=q;obtain⟨vs,m6,UI,amp,aqV,iC,JH⟩:=akF (n:=dV n1) ⟨YN.g,YN.pre,YN.mn,YN.ids,YN.ws,YN.oN⟩ rfl rfl qo.2.1 sC zQ hS;have x4: ∀k,bQ B0 4 k->X7 k:=s7.sub 4;have a1:Sl w7 X7 36 (.slice vmb vmn vmc) ([()].map λ_:Unit=>(y.o9 (20+n'.c.id)).l u1 u2 u3 u4 u5 u6 u7 u8):=(JI.mv m7).mono x4;have a2:Sl w7 X7 9 (.slice vab van vac) (([]:List (List Value)).map id):=(BG.mv m7).mono x4;have YO:=hO7.oa;rw[amp] at YO;obtain⟨ab6,an6,ac6,ha6⟩:=YO.form;have YP:=hO7.om;have YQ:=hO7.hm;rw[aqV] at YQ;obtain⟨l6,hl6⟩:=List.length_eq_one_iff.1 YQ.1;rw[hl6] at YQ YP;obtain⟨q1,q2,q3,q4,q5,q6,q7,q8,rfl,aqW⟩:=YQ.2 0 l6 _ rfl rfl;obtain⟨mb6,mn6,mc6,amK⟩:=YP.form;rw[ha6] at YO;rw[amK] at YP;rw[ha6,amK];have a3:Sl w7 X7 36 (.slice mb6 mn6 mc6) ([()].map λ_:Unit=>m6.l q1 q2 q3 q4 q5 q6 q7 q8):=YP.mono x4;have a4:Sl w7 X7 9 (.slice ab6 an6 ac6) ([()].map λ_:Unit=>EA 0 LL YJ false vs):=YO.mono x4;have b1:=dh.keys.one;have b2:=dh.seen.one;have b3:=dh.writes.one;have b4:=dh.parts.one;have b5:=dh.ranges.one;have b6:=dh.bh.one;have b7:=dh.iu.one;have b8:=dh.gY.one;have Fa:(y.o9 (20+n'.c.id)).kind=3:=hy;have ht1:(y.o9 (20+n'.c.id)).to=1:=YN.oN;generalize y.o9 (20+n'.c.id)=mm at a1 Fa ht1 b1 b2 b3 b4 b5 b6 b7 b8;have hx0:[()][0]? =some ():=rfl;have aqX:(dV n1).nb=n2.nb:=hS.nb.nb.symm;rw[aqX];have aqY:n2.c.aR=1:=JH.trans qo.2.2;clear hs JI BG YP YO HN YQ dh aqW;have hs:=s7.rf;repeat' first|refine aJ ?_;intros|refine cQ ?_ ?_<;>intros|(with_reducible apply Rf);(· kernel_rfl);all_goals intros|with_reducible apply cD|(exfalso;omega)|(exfalso;simp only[aK,br] at*;omega)
  rw[iC];repeat' first|refine ak ?_;intros|with_reducible apply cD
  refine dS (E4 (n:=dV n2) s7.h s7.x) kQ hs.has λw8 X8 kV=>?_;rw[show(dV n2).c.aR=1 from aqY];repeat' refine aJ ?_;intros
  exact(s7.t.since kV).fin λ_ _=>rfl
 exact amI key λk hk=>absurd rfl hk.1
structure ad5 (o:jI):Prop where
 sm:o.m.small
 ln:o.m.lens<=2^62
 pl:o.prog.length<=2^30
 n:o.n<2^63
def yS (l:List jI):Nat:=(l.map λo=>o.m.seen.length).sum
theorem UM {l:List jI} {i:Nat} {o:jI} (h:l[i]? =some o):yS (l.take (i+1))=yS (l.take i)+o.m.seen.length:=by
 unfold yS;rw[cj,h];simp
theorem akG {l:List jI} {i:Nat} {o:jI} (h:l[i]? =some o):yS (l.take i)+o.m.seen.length<=yS l:=by
 rw[<-UM h];have e:yS l=yS (l.take (i+1))+yS (l.drop (i+1)):=by
  unfold yS;rw[<-List.sum_append,<-aD,fq]
 omega
def amL (s:CS) (o:jI) (k N:Nat) (v:Value) (w':World) (aG:Nat->Nat) (s2:CS):Prop:=
 ∃s1 t,s2=s1.Pf/\CS.adY w' aG s1/\CS.Ok k N s1.Pf/\v= .tuple #[ptr s1.nb 0,s1.out,t.v]/\ah7 s o t s1
section
variable {w w' wa w0 : World} {X X' G K K' F T T' : XS} {own aG bN : Nat -> Nat} {n n' : bo} {b : Nat} {t0 : bE} {db : Nat} {m : DM} {s s' : CS}
theorem CS.adY.two (h:CS.adY w own s): ∃x y,s.out= .agg #[x,y]/\aL.one x=true/\aL.one y=true:=by
 cases s with
 |up n=>exact⟨n.vm,n.va,rfl,h.om.one,h.oa.one⟩
 |dn nb m P=>exact⟨aP,aP,rfl,rfl,rfl⟩
theorem LS.act {o:jI} {vk vs vw vp vr vc vh vd vo vq:Value} {k N:Nat} {R:Ending->World->Prop} {NX:Value->World->XS->Prop} (q:LS w0 bN T w X own db s) (jl:CS.Ok k N s) (ho:o.at w (bQ own 4) vk vs vw vp vr vc vh vd vo vq) (lh:ad5 o) (hk:k<=180) (hN:N+o.m.seen.length<=2^20)
  (kk: ∀v w' X' aG s2,LS w0 bN T w' X' aG db s2->amL s o (k+1) (N+o.m.seen.length) v w' aG s2->Mv T w T w'->Mv (bQ own 4) w (bQ aG 4) w'->NX v w' X'):
  eC pg R X w true 12 #[ptr db 0,ptr s.nb 0,.agg (o.l vk vs vw vp vr vc vh vd vo vq).toArray] NX:=by
 refine q.call (Q:=λv w' aG s2=>amL s o (k+1) (N+o.m.seen.length) v w' aG s2) ((afV q.h q.x jl ho lh.sm lh.ln lh.pl lh.n hk hN).mono λv wa w' _ hq=>?_) kQ kk;obtain⟨aG,s1,t,e,h1,h2,h3,h4,h5⟩:=hq;exact⟨aG,s1.Pf,e,h1,s1,t,rfl,h2,h3,h4,h5⟩
theorem LS.op {o:jI} {vk vs vw vp vr vc vh vd vo vq:Value} (q:LS w0 (λk=>if k<w0.heap.size then 4 else 0) T w X own db s) (h:o.at w0 (out (gF λk=>if k<w0.heap.size then 4 else 0) w0) vk vs vw vp vr vc vh vd vo vq):o.at w (bQ own 4) vk vs vw vp vr vc vh vd vo vq:=by
 have m:Mv (out (gF λk=>if k<w0.heap.size then 4 else 0) w0) w0 (bQ own 4) w:=λk hk _=>⟨(q.e k hk.1).2 (if_pos hk.1),q.t.s.kp.block k hk⟩;exact⟨h.m.mv m,h.po.mv m,h.p.mv m⟩
theorem LS.init (hT:Ft w0 (gF λk=>if k<w0.heap.size then 4 else 0) w X nX) (hm: ∀k,own k≠0->made wa w k/\X k) (hle:w0.heap.size<=wa.heap.size) (h:CS.Is w own db s): ∃ia,LS w0 (λk=>if k<w0.heap.size then 4 else 0) nX w X ia db s:=by
 have hz: ∀k,k<w0.heap.size->own k=0:=λk hl=>eB λe=>by have:=(hm k e).1.1;omega
 have e0: ∀k,own k≠0->(if own k=0 then(if k<w0.heap.size then 4 else 0)else own k)=own k:=λk hk=>if_neg hk;have hx: ∀k,(if own k=0 then(if k<w0.heap.size then 4 else 0)else own k)≠0->X k:=λk hk=>by
  by_cases e:own k=0
  ·rw[if_pos e] at hk;by_cases hl:k<w0.heap.size
   ·exact hT.s.sub k ⟨hl,λh=>h.2 (if_pos hl)⟩
   ·rw[if_neg hl] at hk;exact absurd rfl hk
  ·exact(hm k e).2
 refine⟨λk=>if own k=0 then(if k<w0.heap.size then 4 else 0)else own k,hT.more λk hk=>?_,h.Re e0 λk hk=>hT.s.has k (hx k hk),hx,λk hl=>?_,λk hk=>hk.elim⟩
 ·rcases hk with hk|hk
  ·refine .inr ⟨hx k hk.1,Bg λhl=>hk.2 ?_⟩
   show(if own k=0 then(if k<w0.heap.size then 4 else 0)else own k)=4
   rw[if_pos (hz k hl),if_pos hl]
  ·exact hk.elim
 ·have e:(if own k=0 then(if k<w0.heap.size then 4 else 0)else own k)=(if k<w0.heap.size then 4 else 0):=if_pos (hz k hl);exact⟨λh=>e.trans h,λh=>e.trans h⟩
structure as7 (w0:World) (bN:Nat->Nat) (T:XS) (w:World) (X:XS) (own:Nat->Nat) (db nb:Nat) (nS:bo) (vw:Value) (ts:List bE) (K N:Nat) (i:Int) (n:bo) (vt:Value) (sa:List HM):Prop where
 ls:LS w0 bN T w X own db (.up n)
 up:gB K N n
 nb:n.nb=nb
 mo:mq n.m
 told:Own w T 0 anT 9 vt (sa.map HM.l)
 one: ∀a∈sa,aL.one a.vs=true
 acc: ∀t∈ts,Acc i nS n sa t
 sq: ∀t∈ts,t.sq<=n.c.gg
 was:Sl w (bQ own 4) 3 vw (ts.map bE.l)
 len:sa.length<=300*K
end
open Go.ChangeShapes Go.WideShapes Go.ChangeAt Go.RowKit
def akH:ni 45 (HO 29 Rec.rd):=qa kQ kQ dQ amM
def akI:ni 44 (HO 4 (λ_ _ cs (x:eI)=>cs=x.l)):=qa kQ kQ dQ afX
def aia:ni 37 rdI:=afY kQ
instance:Wt fb:=⟨λx=>Wt.wt x.key+Wt.wt x.val+Wt.wt x.aV+1,λ_=>by omega⟩
theorem akJ:ni 175 (λ_ _ cs (x:fb)=>cs=x.l):=λH enc W fuel cs x h=>by
 obtain⟨n,ds,hx,hf⟩:=jo [9,97,39] kQ h;obtain⟨_,_,_,_,a0,rfl,rfl,rfl,w0,hf⟩:=bL Fb hf;obtain⟨_,_,_,_,a1,rfl,rfl,rfl,w1,hf⟩:=bL LQ hf;obtain⟨_,_,_,_,a2,rfl,rfl,rfl,w2,rfl,rfl⟩:=bL uZ hf;refine⟨⟨a0,a1,a2⟩,rfl,?_⟩;rw[hx];simp only[Rows.uptoBulk,Rows.uptoBulkAll,Wt.wt] at*;omega
def aib:ni 41 (HO 7 (λ_ _ cs (x:fb)=>cs=x.l)):=qa kQ kQ dQ akJ
instance:Wt cJ:=⟨λx=>Wt.wt x.kind+Wt.wt x.fr+Wt.wt x.to+Wt.wt x.aM+Wt.wt x.range+Wt.wt x.iB+Wt.wt x.code+Wt.wt x.aV+Wt.wt x.prev+Wt.wt x.jG+Wt.wt x.n+Wt.wt x.mx+Wt.wt x.keys+Wt.wt x.seen+Wt.wt x.writes+Wt.wt x.parts+Wt.wt x.ranges+Wt.wt x.bh+Wt.wt x.state+1,λ_=>by omega⟩
theorem amN:ni 54 cJ.rd:=λH enc W fuel cs x h=>by
 obtain⟨n,ds,hx,hf⟩:=jo [3,3,3,34,3,3,37,39,39,4,3,3,40,41,42,43,44,45,52] kQ h;obtain⟨_,_,_,_,a0,rfl,rfl,rfl,w0,hf⟩:=bL nD hf;obtain⟨_,_,_,_,a1,rfl,rfl,rfl,w1,hf⟩:=bL nD hf;obtain⟨_,_,_,_,a2,rfl,rfl,rfl,w2,hf⟩:=bL nD hf;obtain⟨_,_,_,_,a3,rfl,rfl,rfl,w3,hf⟩:=bL YR hf;obtain⟨_,_,_,_,a4,rfl,rfl,rfl,w4,hf⟩:=bL nD hf;obtain⟨_,_,_,_,a5,rfl,rfl,rfl,w5,hf⟩:=bL nD hf;obtain⟨_,_,_,_,a6,rfl,rfl,rfl,w6,hf⟩:=bL aia hf;obtain⟨_,_,_,_,a7,rfl,rfl,rfl,w7,hf⟩:=bL uZ hf;obtain⟨_,_,_,_,a8,rfl,rfl,rfl,w8,hf⟩:=bL uZ hf;obtain⟨_,_,_,_,a9,rfl,rfl,rfl,w9,hf⟩:=bL ab9 hf;obtain⟨_,_,_,_,a10,rfl,rfl,rfl,JG,hf⟩:=bL nD hf;obtain⟨_,_,_,_,a11,rfl,rfl,rfl,w11,hf⟩:=bL nD hf;obtain⟨_,_,_,_,a12,rfl,rfl,⟨v12,rfl,r12⟩,w12,hf⟩:=bL ad6 hf;obtain⟨_,_,_,_,a13,rfl,rfl,⟨v13,rfl,r13⟩,w13,hf⟩:=bL aib hf;obtain⟨_,_,_,_,a14,rfl,rfl,⟨v14,rfl,r14⟩,w14,hf⟩:=bL YS hf;obtain⟨_,_,_,_,a15,rfl,rfl,⟨v15,rfl,r15⟩,w15,hf⟩:=bL ad7 hf;obtain⟨_,_,_,_,a16,rfl,rfl,⟨v16,rfl,r16⟩,w16,hf⟩:=bL akI hf;obtain⟨_,_,_,_,a17,rfl,rfl,⟨v17,rfl,r17⟩,w17,hf⟩:=bL akH hf;obtain⟨_,_,_,_,a18,rfl,rfl,⟨vh,vp,rfl,rh,rp⟩,UN,rfl,rfl⟩:=bL YT hf;refine⟨⟨a0,a1,a2,a3,a4,a5,a6,a7,a8,a9,a10,a11,a12,a13,a14,a15,a16,a17,a18⟩,⟨v12,v13,v14,v15,v16,v17,vh,vp,rfl,⟨r12.wW,r13.wW,r14.wW,r15.wW,r16.wW,r17,rh,rp⟩⟩,?_⟩;rw[hx];simp only[Rows.uptoBulk,Rows.uptoBulkAll,Wt.wt] at*;omega
instance:Wt jE:=⟨λx=>Wt.wt x.code+Wt.wt x.key+Wt.wt x.val+1,λ_=>by omega⟩
theorem amO:ni 99 (λ_ _ cs (x:jE)=>cs=x.l):=λH enc W fuel cs x h=>by
 obtain⟨n,ds,hx,hf⟩:=jo [3,9,97] kQ h;obtain⟨_,_,_,_,a0,rfl,rfl,rfl,w0,hf⟩:=bL nD hf;obtain⟨_,_,_,_,a1,rfl,rfl,rfl,w1,hf⟩:=bL Fb hf;obtain⟨_,_,_,_,a2,rfl,rfl,rfl,w2,rfl,rfl⟩:=bL LQ hf;refine⟨⟨a0,a1,a2⟩,rfl,?_⟩;rw[hx];simp only[Rows.uptoBulk,Rows.uptoBulkAll,Wt.wt] at*;omega
def akK:ni 55 (HO 5 (λ_ _ cs (x:jE)=>cs=x.l)):=qa kQ kQ dQ amO
def wtN (n:Int):Nat:=if n<2^63 then 1 else 1073741824
instance:Wt jI:=⟨λx=>Wt.wt x.kind+Wt.wt x.gM+wtN x.n+Wt.wt x.m+Wt.wt x.prog+Wt.wt x.cH+1,λ_=>by omega⟩
theorem akL:ni 57 jI.rd:=λH enc W fuel cs x h=>by
 obtain⟨n,ds,hx,hf⟩:=jo [3,3,3,54,55,43] kQ h;obtain⟨_,_,_,_,a0,rfl,rfl,rfl,w0,hf⟩:=bL nD hf;obtain⟨_,_,_,_,a1,rfl,rfl,rfl,w1,hf⟩:=bL nD hf;obtain⟨_,_,_,_,a2,rfl,rfl,⟨rfl,hb⟩,w2,hf⟩:=bL MW hf;obtain⟨_,_,_,_,a3,rfl,rfl,⟨vk,vs,vw,vp,vr,vc,vh,vd,rfl,r3⟩,w3,hf⟩:=bL amN hf;obtain⟨_,_,_,_,a4,rfl,rfl,⟨v4,rfl,r4⟩,w4,hf⟩:=bL akK hf;obtain⟨_,_,_,_,a5,rfl,rfl,⟨v5,rfl,r5⟩,w5,rfl,rfl⟩:=bL ad7 hf;have hn:wtN a2=1:=if_pos (by have:=hb.2;omega);refine⟨⟨a0,a1,a2,a3,a4,a5⟩,⟨vk,vs,vw,vp,vr,vc,vh,vd,v4,v5,rfl,⟨r3,r4.wW,r5.wW⟩⟩,?_⟩;rw[hx];simp only[Rows.uptoBulk,Rows.uptoBulkAll,Wt.wt] at*;omega
def aic:ni 22 (HO 41 jI.rd):=qa kQ kQ dQ akL
theorem ue {α:Type} [Wt α] {l:List α} {B:Nat} (h:Wt.wt l<=B):l.length<=B:=by
 have h':(l.map Wt.wt).sum+1<=B:=h;have:=afZ l;omega
theorem aca {s:BA} {B:Nat} (h:Wt.wt s<=B):s.size<=B:=by
 have:s.size+1<=B:=h;omega
theorem amP {x:KV} {B:Nat} (h:Wt.wt x<=B):x.key.size<=B:=by
 have:(x.key.size+1)+(Wt.wt x.val.kind+Wt.wt x.val.num+(x.val.text.size+1)+1)+1<=B:=h;omega
theorem YU {l:List KV} {B:Nat} (h:Wt.wt l<=B) (hB:B<=2^40): ∀x∈l,x.key.size<=2^40:=λx hx=>by
 have h':(l.map Wt.wt).sum+1<=B:=h;have:=amP (B:=B) (ad (Fc hx) zQ);omega
theorem YV {l:List BA} {B:Nat} (h:Wt.wt l<=B) (hB:B<=2^40): ∀k∈l,k.size<=2^40:=λx hx=>by
 have h':(l.map Wt.wt).sum+1<=B:=h;have:=aca (B:=B) (ad (Fc hx) zQ);omega
theorem akM {l:List gw} {B:Nat} (h:Wt.wt l<=B) (hB:B<=2^40):Lj l/\adI l:=by
 have h':(l.map Wt.wt).sum+1<=B:=h;have key: ∀p∈l,Wt.wt p.reads<=B/\Wt.wt p.writes<=B:=λp hp=>by
  have h1:Wt.wt p.aM+Wt.wt p.aV+Wt.wt p.reads+Wt.wt p.writes+1<=(l.map Wt.wt).sum:=Fc hp;omega
 refine⟨λp hp=>?_,λp hp=>⟨YV (key p hp).1 hB,YU (key p hp).2 hB⟩⟩;have h1:=ue (key p hp).1;have h2:=ue (key p hp).2;omega
theorem akN {l:List kz} {B:Nat} (h:Wt.wt l<=B) (hB:B<=2^40):Li l/\adH l:=by
 have h':(l.map Wt.wt).sum+1<=B:=h;have key: ∀p∈l,Wt.wt p.key<=B/\Wt.wt p.mE<=B:=λp hp=>by
  have h1:Wt.wt p.key+Wt.wt p.mE+1<=(l.map Wt.wt).sum:=Fc hp;omega
 exact⟨λp hp=>ad (ue (key p hp).2) hB,λp hp=>ad (aca (key p hp).1) hB⟩
theorem YW {s:State} {B:Nat} (h:Wt.wt s<=B) (hB:B<=2^40):s.small:=by
 have h':Wt.wt s.range+Wt.wt s.floor+Wt.wt s.closed+Wt.wt s.iu+Wt.wt s.gY+1<=B:=h;obtain⟨a2,a3⟩:=akN (l:=s.iu) (B:=B) zQ hB;obtain⟨b2,b3⟩:=akM (l:=s.gY) (B:=B) zQ hB;exact⟨a2,b2,a3,b3⟩
theorem amQ {r:Rec} {B:Nat} (h:Wt.wt r<=B) (hB:B<=2^40):r.small:=by
 have h':Wt.wt r.kind+Wt.wt r.aM+Wt.wt r.aV+Wt.wt r.prev+Wt.wt r.jG+Wt.wt r.n+Wt.wt r.rW+Wt.wt r.reads+Wt.wt r.writes+Wt.wt r.parts+Wt.wt r.wR+Wt.wt r.state+1<=B:=h;have h1:=ue (l:=r.reads) (B:=B) zQ;have h2:=ue (l:=r.writes) (B:=B) zQ;exact⟨by omega,by omega,YV (l:=r.reads) (B:=B) zQ hB,YU (l:=r.writes) (B:=B) zQ hB,YW (s:=r.state) (B:=B) zQ hB⟩
theorem MX (s:BA):(wg s).length<=120*Wt.wt s:=by
 have h1:=zY s;have h2:=fz s.size
 show _<=120*(s.size+1)
 omega
theorem Ph (x:KV):(sc x).length<=120*Wt.wt x:=by
 have h1:=MX x.key;have h2:=YX (v:=x.val);have h3:Wt.wt x=Wt.wt x.key+Wt.wt x.val+1:=rfl
 grind [sc]
theorem yu {α:Type} [Wt α] {f:α->List Nat} (l:List α) (h: ∀x,(f x).length<=120*Wt.wt x):(iT f l).length<=120*Wt.wt l:=by
 have h1:(l.map f).flatten.length<=120*(l.map Wt.wt).sum:=by
  induction l with
  |nil=>simp
  |cons x l ih=>grind
 have h2:=fz (l.length:Int);have h3:Wt.wt l=(l.map Wt.wt).sum+1:=rfl;unfold iT
 grind
theorem akO (n:Int):(encI n).length<=120*Wt.wt n:=by
 have:=fz n
 show _<=120*1
 omega
theorem af0 (v:pt):(zl v).length<=120*Wt.wt v:=by
 have h1:=uJ v.aV;have h2:=YX (v:=v.val);have h3:Wt.wt v=4+Wt.wt v.val+1:=rfl
 grind [zl]
theorem akP (h:kz):(B8 h).length<=120*Wt.wt h:=by
 have h1:=MX h.key;have h2:=yu h.mE af0;have h3:Wt.wt h=Wt.wt h.key+Wt.wt h.mE+1:=rfl
 grind [B8]
theorem akQ (p:gw):(yT p).length<=120*Wt.wt p:=by
 have h1:=CX p.aM;have h2:=uJ p.aV;have h3:=yu p.reads MX;have h4:=yu p.writes Ph;have h5:Wt.wt p=YY p.aM+4+Wt.wt p.reads+Wt.wt p.writes+1:=rfl;have h6:=SS p.aM;unfold yT;simp only[aa];omega
theorem akR (s:State):(encS s).length<=120*Wt.wt s:=by
 have h1:=fz s.range.id;have h2:=fz s.range.iB;have h3:=uJ s.floor;have h4:=uJ s.closed;have h5:=yu s.iu akP;have h6:=yu s.gY akQ;have h7:Wt.wt s=Wt.wt s.range+4+4+Wt.wt s.iu+Wt.wt s.gY+1:=rfl;unfold encS Rg;simp only[aa,Pj];omega
theorem akS (r:Rec):(ga r).length<=120*Wt.wt r:=by
 have h':Wt.wt r=Wt.wt r.kind+YY r.aM+4+4+Wt.wt r.jG+Wt.wt r.n+Wt.wt r.rW+Wt.wt r.reads+Wt.wt r.writes+Wt.wt r.parts+Wt.wt r.wR+Wt.wt r.state+1:=rfl;have k0:=SS r.aM;have k1:=fz r.kind;have k2:=akR r.state;have k3:=fz r.n;have k4:=CX r.aM;have k5:=uJ r.aV;have k6:=uJ r.prev;have k7:=yu r.reads MX;have k8:=yu r.writes Ph;have k9:=yu r.wR Ph;have k10:=yu r.parts akO;have k11:=Pj r.rW;have k12:(ad8 r.jG).length=1:=rfl;unfold ga;rw[aa];repeat' split
 all_goals (try unfold yT);(try simp only[aa,br]);omega
theorem amR {m:cJ} {B:Nat} (h:Wt.wt m<=B) (hB:B<=1048576):m.small/\m.lens<=2^62:=by
 have h':Wt.wt m.kind+Wt.wt m.fr+Wt.wt m.to+Wt.wt m.aM+Wt.wt m.range+Wt.wt m.iB+Wt.wt m.code+Wt.wt m.aV+Wt.wt m.prev+Wt.wt m.jG+Wt.wt m.n+Wt.wt m.mx+Wt.wt m.keys+Wt.wt m.seen+Wt.wt m.writes+Wt.wt m.parts+Wt.wt m.ranges+Wt.wt m.bh+Wt.wt m.state+1<=B:=h;have a1:=YW (s:=m.state) (B:=B) zQ zQ;have l1:=ue (l:=m.keys) (B:=B) zQ;have l2:=ue (l:=m.seen) (B:=B) zQ;have l3:=ue (l:=m.writes) (B:=B) zQ;have l4:=ue (l:=m.parts) (B:=B) zQ;have l5:=ue (l:=m.ranges) (B:=B) zQ;have l6:=ue (l:=m.bh) (B:=B) zQ;have hr: ∀r∈m.bh,Wt.wt r<=B:=λr hr=>by
  have h1:Wt.wt m.bh=(m.bh.map Wt.wt).sum+1:=rfl;have:=Fc hr;omega
 refine⟨⟨by omega,by omega,λr h=>amQ (hr r h) zQ,λr h _=>?_,a1⟩,?_⟩
 ·have:=akS r;have:=hr r h;omega
 ·unfold cJ.lens;omega
theorem aoO {o:jI} {B:Nat} (h:Wt.wt o<=B) (hB:B<=1048576):ad5 o:=by
 have h':Wt.wt o.kind+Wt.wt o.gM+wtN o.n+Wt.wt o.m+Wt.wt o.prog+Wt.wt o.cH+1<=B:=h;obtain⟨a,b⟩:=amR (m:=o.m) (B:=B) zQ hB;have c:=ue (l:=o.prog) (B:=B) zQ;refine⟨a,b,by omega,?_⟩;apply eB;intro e;have:wtN o.n=1073741824:=if_neg e;omega
theorem amS {l:List jI} {B:Nat} (h:Wt.wt l<=B) (hB:B<=1048576):(∀o∈l,ad5 o)/\yS l<=B:=by
 have h':(l.map Wt.wt).sum+1<=B:=h;refine⟨λo ho=>aoO (B:=B) (ad (Fc ho) zQ) hB,?_⟩;have:yS l<=(l.map Wt.wt).sum:=by
  clear h h';unfold yS
  induction l with
  |nil=>simp
  |cons o l ih=>
   have h1:Wt.wt o.kind+Wt.wt o.gM+wtN o.n+Wt.wt o.m+Wt.wt o.prog+Wt.wt o.cH+1=Wt.wt o:=rfl;have h2:o.m.seen.length<=Wt.wt o.m:=by
    have:=ue (l:=o.m.seen) (B:=Wt.wt o.m) (by simp only[Wt.wt];omega);exact this
   simp only[bm,List.sum_cons];omega
 omega
abbrev rcT:Nat:=73
abbrev zm (z:Rec×Value):List Value:=z.1.l aP aP z.2 aP aP aP
def GS (w:World) (K:XS) (zs:List (Rec×Value)) (rs:List Rec):Prop:=zs.map (·.1)=rs/\ ∀z∈zs,Sl w K 1 z.2 (z.1.parts.map I1)
section
variable {w w' wa w0 : World} {X X' G K K' F T T' : XS} {own aG bN : Nat -> Nat} {n n' : bo} {b : Nat} {t0 : bE} {db : Nat} {m : DM} {s s' : CS}
def GS.mv {zs:List (Rec×Value)} {rs:List Rec} (h:GS w K zs rs) (m:Mv K w K' w'):GS w' K' zs rs:=⟨h.1,λz hz=>(h.2 z hz).mv m⟩
theorem GS.snoc {zs:List (Rec×Value)} {rs:List Rec} {r:Rec} {vp:Value} (h:GS w K zs rs) (hp:Sl w K 1 vp (r.parts.map I1)):GS w K (zs++[(r,vp)]) (rs++[r]):=by
 refine⟨by rw[aD,h.1];rfl,λz hz=>?_⟩;rcases List.mem_append.1 hz with hz|hz
 ·exact h.2 z hz
 ·rw[aw] at hz;subst hz;exact hp
theorem af1 {s s':jH} {r:Rec} (h:sy s r=some s') (hr:r.parts.length<=80) (hs: ∀x∈s.2,x.1.parts.length<=80): ∀x∈s'.2,x.1.parts.length<=80:=by
 unfold sy at h;split at h
 ·split at h<;>cases h
  exact hs
 split at h
 ·split at h<;>cases h
  intro x hx;rcases List.mem_append.1 hx with hx|hx
  ·exact hs x hx
  ·rw[List.mem_singleton.1 hx];exact hr
 split at h
 ·split at h<;>cases h
  intro x hx;obtain⟨y,hy,rfl⟩:=List.mem_map.1 hx;split<;>exact hs y hy
 ·cases h
theorem Rh: ∀{rs:List Rec} {s s':jH},xP s rs=some s'->(∀r∈rs,r.parts.length<=80)->(∀x∈s.2,x.1.parts.length<=80)-> ∀x∈s'.2,x.1.parts.length<=80
 |[],s,s',h,_,hs=>by cases h;exact hs
 |r::rs,s,s',h,hr,hs=>by
  obtain⟨s1,h1,h2⟩:=Option.bind_eq_some_iff.1 h;exact Rh h2 (λr hm=>hr r (bG _ hm)) (af1 h1 (hr r lQ) hs)
theorem gB.parts {k N:Nat} (h:gB k N n): ∀b∈n.cl,(n.C b).r.parts.length<=80:=λb hb=>by
 obtain⟨pre,sg,_,hR,_⟩:=h.log;obtain⟨rs,_,hg,_,hr⟩:=hR.rs;exact Rh hr (λr hm=>(hg r hm).ps) sQ _ (List.mem_map.2 ⟨b,hb,rfl⟩)
theorem Fe (h:jy w own n) (hX:qV own X) (pG:n.cl.length<=1000) (Gh: ∀b∈n.cl,(n.C b).r.parts.length<=2^40):
  Ct pg 20 #[ptr n.nb 0] w X nX λv wa w'=> ∃zs,Own w' (made wa w') wa.heap.size rcT 29 v (zs.map zm)/\GS w' (made wa w') zs (n.cl.map λb=>(n.C b).r):=by
 intro w0 hk;have s0:=St.init h hX hk;clear h hX hk;have bw:=s0.v.1;have N8:Sl w0 (bK w0) 1 n.c.cm (n.cl.map λb=>[ptr b 0]):=(show Own w0 (bQ own 10) 0 Yi 1 n.c.cm _ from s0.get 10).sl.mono (s0.sub 10);have XD:=N8.gO;refine HP.1 λhs=>?_;repeat' refine ak ?_;intros
 refine gz (λk a v w X=> ∃(i:Nat) (zs:List (Rec×Value)) (K:XS),a=I i/\k=n.cl.length-i/\i<=n.cl.length/\ai (bK w0) w0 X w/\Own w X w0.heap.size rcT 29 v (zs.map zm)/\(∀k,K k->w0.heap.size<=k/\X k/\ ¬eT v k)/\GS w K zs ((n.cl.take i).map λb=>(n.C b).r)) n.cl.length
  ⟨0,[],nX,rfl,rfl,aq _,hs,Own.nil _ _ _ _ _,λk hk=>hk.elim,rfl,λz hz=>absurd hz sQ⟩ ?_
 rintro k _ v w1 X1 ⟨i,zs,K,rfl,rfl,hi,hs,ho,hK,hR⟩;rcases dA n.cl i with⟨cB,b,hb,hd⟩|⟨dB,hd⟩
 ·have JD:=aA hb;obtain⟨EJ,o2,op,_⟩:=s0.vc JD;have hp:Sl w0 (bK w0) 1 (n.C b).vp ((n.C b).r.parts.map I1):=(s0.h.BJ JD).2.2.mono λk (e:own k=4)=>s0.x k zQ;have vJ:=Gh b JD;obtain⟨e1,e2,e3,hvp⟩:=hp.form;rw[hvp] at hp EJ op;repeat' refine aJ ?_;intros
  refine cu (EX (hp.mv hs.mv) vJ) kQ hs.has ?_;rintro v2 xu w2 X2 q2 lu ka bB;have zc:Own w2 X2 w0.heap.size Xl 1 v2 _:=q2.up ka (ad hs.kp.size lu);have ov2:=zc.sl.one;have amT:=hs.trans bB;have kq:=ho.since bB;have hR2:=hR.mv λk hk _=>⟨hk,bB.kp.block k (hK k hk).2.1⟩;have lJ: ∀k,eT v2 k-> ¬eT v k:=λk e e'=>by have:=(q2.ge e).1;have:=(ho.ge e').2;omega
  obtain⟨g1,g2,g3,rfl⟩:=zc.sl.form;clear hs;have hs:=ai.fG bB.has;repeat' first|refine ak ?_;intros|(refine q1e hs ?_;intro _ _ _ w X hs ho)
  have ad9:=amT.trans hs;have hlen:=congrArg ba hR.1;rw[ah,ah,aB] at hlen;refine HI (bytes:=328) (kq.since hs) hs.has (ad amT.kp.size hs.kp.size) kQ ho.sl (λr hr u hu=>?_) (by simp only[cd,ah];omega) (by simp only[cd,ah];omega) λv5 w5 X5 c5 tY vY=>?_
  ·rw[aw] at hr;subst hr;simp only[List.mem_cons,List.not_mem_nil,or_false] at hu;repeat' rcases hu with rfl|hu
   all_goals first|rfl|(subst hu;rfl)
  have hKw: ∀k,K k->X k/\k<w.heap.size:=λk hk=>⟨hs.sub k (bB.sub k (hK k hk).2.1),hs.has k (hs.sub k (bB.sub k (hK k hk).2.1))⟩;have hqw:=zc.since hs;have SU: ∀k,(K k\/eT (.slice g1 g2 g3) k)->X k/\k<w.heap.size/\w0.heap.size<=k/\ ¬eT v k:=λk hk=>hk.elim (λhk=>⟨(hKw k hk).1,(hKw k hk).2,(hK k hk).1,(hK k hk).2.2⟩) λhk=>⟨hqw.2.2 k hk,(hqw.ge hk).2,(hqw.ge hk).1,lJ k hk⟩;have hv5: ∀k,(K k\/eT (.slice g1 g2 g3) k)-> ¬eT v5 k:=λk hk h5=>by
   have KD:=SU k hk;have h5:v5.ownBlock=some k:=h5;rcases vY with e|⟨g,e,dB⟩
   ·exact KD.2.2.2 (by rw[e] at h5;exact h5)
   ·rw[e] at h5;cases h5;omega
  have hR5:GS w5 (λk=>K k\/eT (.slice g1 g2 g3) k) (zs++[((n.C b).r,.slice g1 g2 g3)]) ((n.cl.take (i+1)).map λb=>(n.C b).r):=by
   have e:(n.cl.take (i+1)).map (λb=>(n.C b).r)=(n.cl.take i).map (λb=>(n.C b).r)++[(n.C b).r]:=by rw[cj,hb];simp
   rw[e];refine GS.snoc (vp:=.slice g1 g2 g3) (hR2.mv λk hk _=>⟨.inl hk,?_⟩) ((xv hqw (Y:=eT (.slice g1 g2 g3)) λg hg=>hg).sl.mv λk hk _=>⟨.inr hk,?_⟩)
   ·exact(c5.block k (hKw k hk).1 (SU k (.inl hk)).2.2.2).trans (hs.kp.block k (bB.sub k (hK k hk).2.1))
   ·exact c5.block k (SU k (.inr hk)).1 (SU k (.inr hk)).2.2.2
  have aqZ:ai (bK w0) w0 X5 w5:=ad9.dX c5 λk hk e=>by have:=(kq.ge e).1;have:k<w0.heap.size:=hk;omega
  clear hs;have hs:=ai.fG c5.has;repeat' refine ak ?_;intros
  exact fB (n.cl.length-(i+1)) zQ ⟨i+1,zs++[((n.C b).r,.slice g1 g2 g3)],_,congrArg I zQ,rfl,by omega,aqZ,by rw[aD];exact tY,λk hk=>⟨(SU k hk).2.2.1,c5.sub k (SU k hk).1,hv5 k hk⟩,hR5⟩
 ·obtain rfl:i=n.cl.length:=by omega
  rw[jY] at hR;repeat' refine aJ ?_;intros
  exact bS hs λwa aI=>⟨zs,(ho.kp aI).tight,hR.mv λk hk _=>⟨⟨(hK k hk).1,av (hs.has k (hK k hk).2.1) aI.size⟩,aI.block k (hK k hk).2.1⟩⟩
theorem Ri {a:Value} {zs:List (Rec×Value)} {t:bE} (ha:Sl w X 29 a (zs.map zm)) (ho: ∀z∈zs,aL.one z.2=true):Ct pg 19 #[a,t.v] w X nX λv _ _=>
  match zs.find? λz=>decide (z.1.aM=t)with
  |some z=>v= .tuple #[.agg (zm z).toArray,B true]
  |none=>v= .tuple #[.agg Ys.toArray,B false]:=by
 intro w0 hk;replace ha:=ha.mv hk.cr;have kG:=ha.gO;refine GU.1 λhs=>?_
 skip
 refine gz (λn a b w X=> ∃i:Nat,a=I i/\b= .agg Ys.toArray/\n=zs.length-i/\i<=zs.length/\ai (bK w0) w0 X w/\(zs.find? λz=>decide (z.1.aM=t))=((zs.drop i).find? λz=>decide (z.1.aM=t))) zs.length ⟨0,rfl,rfl,rfl,aq _,hs,rfl⟩ ?_;rintro n' _ _ w1 X1 ⟨i,rfl,rfl,rfl,hi,hs,hw⟩;rcases dA zs i with⟨cB,y,hy,hd⟩|⟨dB,hd⟩
 ·have oy:=ho y (aA hy);rw[hd] at hw;by_cases e:y.1.aM=t
  ·rw[List.find?_cons_of_pos (by simp[e])] at hw;repeat' first|refine aJ ?_;intros|(with_reducible refine aea _ _ ?_ ?_ ?_);(· kernel_rfl);all_goals intros|(exfalso;simp_all;done)
   exact bS hs λwa aI=>by show(match List.find? _ zs with|some z=>_|none=>_:Prop);rw[hw]
  ·rw[List.find?_cons_of_neg (by simp[e])] at hw;repeat' first|refine aJ ?_;intros|(with_reducible refine aea _ _ ?_ ?_ ?_);(· kernel_rfl);all_goals intros|(exfalso;simp_all;done)
   exact fB (zs.length-(i+1)) zQ ⟨i+1,congrArg I zQ,rfl,rfl,by omega,hs,hw⟩
 ·rw[hd] at hw;repeat' refine aJ ?_;intros
  exact bS hs λwa aI=>by show(match List.find? _ zs with|some z=>_|none=>_:Prop);rw[hw];rfl
end
structure MY where
 t:bE
 ps:List Int
 vs:List Int
structure aq0 (l:List MY) (t:bE) (d:pa):Prop where
 ws: ∀y∈d.ws,y.aM=t/\(y.kind=3->d.x.pre=true)
 pr:d.x.pre=true-> ∃e∈l,e.t=t/\e.ps=d.ids/\ ∀id∈d.ids,id∈e.vs\/ ∃y∈d.ws,y.range=id
 no:d.x.pre=false-> ∀e∈l,e.t≠t
structure as8 (n:bo) (l:List MY):Prop where
 nd:(l.map (·.t)).Nodup
 bK: ∀e∈l,e.t.aR<=n.c.aR/\(e.t.aR=n.c.aR->e.t.sq<=n.c.gg)
 act: ∀t b,getM t n.al=some b->aq0 l t (n.A b)
structure aq1 (l:List MY) (ms:List cJ) (t:bE) (d:pa):Prop where
 ws: ∀y∈d.ws,y.aM=t/\(y.kind=3->d.x.pre=true)
 pr:d.x.pre=true->(∃e∈l,e.t=t/\e.ps=d.ids/\ ∀id∈d.ids,id∈e.vs\/ ∃y∈d.ws,y.range=id)\/((∀e∈l,e.t≠t)/\(∃m∈ms,m.kind=3/\m.aM=t)/\ ∀id∈d.ids,∃y∈d.ws,y.range=id)
 no:d.x.pre=false-> ∀e∈l,e.t≠t
structure as9 (n:bo) (l:List MY):Prop where
 nd:(l.map (·.t)).Nodup
 bK: ∀e∈l,e.t.aR<=n.c.aR/\(e.t.aR=n.c.aR->e.t.sq<=n.c.gg)
 ms: ∀m∈n.ms,m.kind=3->(∃e∈l,e.t=m.aM)\/ ∃b,getM m.aM n.al=some b/\(n.A b).x.pre=true/\m.parts=(n.A b).ids
 act: ∀t b,getM t n.al=some b->aq1 l n.ms t (n.A b)
section
variable {n n1 : bo} {l : List MY} {m : cJ} {t : bE} {b : Nat}
end
section
variable {n n1 : bo} {l : List MY} {m : cJ} {t : bE} {b k N : Nat} {Q : HM -> Prop}
end
def bo.bh (n:bo):List Rec:=n.cl.map λb=>(n.C b).r
theorem Pk (n:bo):n.abs.2.map (·.1)=n.bh:=by unfold bo.abs bo.bh;rw[bz];rfl
theorem af2 (t:bE) (l:List (Rec×Bool)):(Dt t l).map (·.1)=l.map (·.1):=by
 unfold Dt;rw[bz];refine List.map_congr_left λx _=>?_;dsimp only [Function.comp];split<;>rfl
section
variable {n n1 : bo} {m : cJ} {t : bE} {b k N : Nat}
structure Fact where
 t:bE
 c:Bool
 st:cn
def FUp (n:bo) (f:Fact):Prop:=(f.c=true/\ ∃r∈n.bh,r.aM=f.t/\r.aV=f.st)\/(f.c=false/\getM f.t n.al=none/\(∀r∈n.bh,r.aM≠f.t)/\f.t.aR<=n.c.aR/\(f.t.aR=n.c.aR->f.t.sq<=n.c.gg))
def FDn (a:jH) (f:Fact):Prop:=(f.c=true/\ ∃x∈a.2,x.1.aM=f.t/\x.1.aV=f.st)\/(f.c=false/\(∀x∈a.2,x.1.aM≠f.t)/\f.t.aR<=a.1)
def FI:CS->Fact->Prop
 | .up n,f=>FUp n f
 | .dn _ _ P,f=> ∀a,P a->FDn a f
end
def aoP (a:HM):Bool:=decide (a.e=0)&&!a.on
section
variable {n n1 : bo} {m : cJ} {t : bE} {b k N : Nat} {Q : HM -> Prop}
def aq2 (n:bo) (t:bE):Prop:=t.aR<=n.c.aR/\(t.aR=n.c.aR->t.sq<=n.c.gg)
end
theorem UO {α β:Type} {f:α->β} : ∀{l:List α},(l.map f).Nodup-> ∀{a b:α},a∈l->b∈l->f a=f b->a=b
 |x::l,h,a,b,ha,hb,e=>by
  rw[bm,List.nodup_cons] at h;have hx: ∀c∈l,f c≠f x:=λc hc e=>h.1 (e▸List.mem_map.2 ⟨c,hc,rfl⟩);rcases List.mem_cons.1 ha with ha|ha<;>rcases List.mem_cons.1 hb with hb|hb
  ·rw[ha,hb]
  ·exact absurd (by rw[<-e,ha]) (hx b hb)
  ·exact absurd (by rw[e,hb]) (hx a ha)
  ·exact UO h.2 ha hb e
section
variable {P : Program} {R : Ending -> World -> Prop} {X : XS} {w : World} {N : Value -> Prop} {t : TypeId} {xo yo : Operand} {a b c d : Bool}
theorem run_equalIn_bool (ht:P.underlying t=some .bool) (n:Nat) (a b:Bool) (w:World):(Op.equalIn (n+1) t (.bool a) (.bool b)).run P w= .ok (a==b) w:=by simp[Op.equalIn,run_underlying ht]
theorem aid (ht:P.underlying t=some .bool) (h:N (.bool (a==b))):aX P X w (dG .eql t xo yo (.bool a) (.bool b)) N:=by
 refine bF (λwa=>?_) h;have:(Op.equal t (.bool a) (.bool b)).run P wa= .ok (a==b) wa:=run_equalIn_bool ht 9999 a b wa;simp[dG,eqGuard,binOp,this]
theorem aeb {s:Value->Value->Sem Value} {u v:Value} (h: ∀N:Value->Prop,N (.bool d)->aX P X w (s u v) N) (k:N (.bool (c&&d))):
  un (pT (.bool c) true u) λa=>un (pT (.bool c) true v) λb=>lS P X w (.bool c) true (vS (s a b)) λx=>lR P X w (iE (.bool c) x (.bool false)) N:=by
 cases c
 ·exact Ff (Ff (TT (KG k)))
 ·exact HQ (HQ (YZ (h _ (KF (by simpa using k)))))
def amU {q:IntKind} {i j:Int} (k:N (.bool (c&&decide (i=j)))):
  un (pT (.bool c) true (.int q i)) λa=>un (pT (.bool c) true (.int q j)) λb=>lS P X w (.bool c) true (vS (dG .eql t xo yo a b)) λx=>lR P X w (iE (.bool c) x (.bool false)) N:=
 aeb (λ_=>Sg) k
def akT (ht:P.underlying t=some .bool) (k:N (.bool (c&&(a==b)))):
  un (pT (.bool c) true (.bool a)) λa=>un (pT (.bool c) true (.bool b)) λb=>lS P X w (.bool c) true (vS (dG .eql t xo yo a b)) λx=>lR P X w (iE (.bool c) x (.bool false)) N:=
 aeb (λ_=>aid ht) k
def aie {i j k i' j' k':Int} (ht:jx P t 3=true) (n:N (.bool (c&&decide (i=i'/\j=j'/\k=k')))):
  un (pT (.bool c) true (.agg #[.int .i64 i,.int .i64 j,.int .i64 k])) λa=>un (pT (.bool c) true (.agg #[.int .i64 i',.int .i64 j',.int .i64 k'])) λb=>
   lS P X w (.bool c) true (vS (dG .eql t xo yo a b)) λx=>lR P X w (iE (.bool c) x (.bool false)) N:=
 aeb (λ_=>Pm ht) n
theorem Ei {f:FuncId} {u v:Value} {m:Bool} {M:Value->World->XS->Prop} (h:Ct P f #[u,v] w X nX λx _ _=>x= .bool d) (hf:enters P f=true) (hX: ∀k,X k->k<w.heap.size)
  (k: ∀w' X',ai X w X' w'->M (.bool (c&&d)) w' X'):
  un (pT (.bool c) true u) λa=>un (pT (.bool c) true v) λb=>jn (λ(x:Value) (w1:World) (X1:XS)=>lR P X1 w1 (iE (.bool c) x (.bool false)) λy=>M y w1 X1) λK=>
   gE (.bool c) true (eC P R X w m f #[a,b] K) (K undef w X):=by
 delta jn
 cases c
 ·exact Ff (Ff (ajz (KG (k w X (ai.fG hX)))))
 ·exact HQ (HQ (alI (dS h hf hX λw' X' hs=>KF (by simpa using k w' X' hs))))
end
set_option maxRecDepth 100000
set_option maxHeartbeats 1000000
section
variable {w : World} {X : XS}
theorem aec:Ct pg 92 #[aP,aP] w X nX λv _ _=>v=B true:=by
  intro w0 hk;have h0:Sl w0 (bK w0) 1 aP (([]:List BA).map S1):=Sl.nil _ _ _;refine Pn.1 λhs=>?_;repeat' refine aJ ?_;intros
  refine fp (λn a w X=>a=I 0/\ai (bK w0) w0 X w) 0 ⟨rfl,hs⟩ ?_;clear hs;rintro n a w X ⟨rfl,hs⟩;repeat' first|refine ak ?_;intros|refine cQ ?_ ?_<;>intros|(exfalso;rename_i h;simp at h;done)
  exact bS hs λwa aI=>rfl
theorem aa9:Ct pg 93 #[aP,aP] w X nX λv _ _=>v=B true:=by
  intro w0 hk;have h0:Sl w0 (bK w0) 1 aP (([]:List BA).map S1):=Sl.nil _ _ _;refine Nl.1 λhs=>?_;repeat' refine aJ ?_;intros
  refine fp (λn a w X=>a=I 0/\ai (bK w0) w0 X w) 0 ⟨rfl,hs⟩ ?_;clear hs;rintro n a w X ⟨rfl,hs⟩;repeat' first|refine ak ?_;intros|refine cQ ?_ ?_<;>intros|(exfalso;rename_i h;simp at h;done)
  exact bS hs λwa aI=>rfl
theorem aed:Ct pg 94 #[aP,aP] w X nX λv _ _=>v=B true:=by
  intro w0 hk;have h0:Sl w0 (bK w0) 1 aP (([]:List BA).map S1):=Sl.nil _ _ _;refine Po.1 λhs=>?_;repeat' refine aJ ?_;intros
  refine fp (λn a w X=>a=I 0/\ai (bK w0) w0 X w) 0 ⟨rfl,hs⟩ ?_;clear hs;rintro n a w X ⟨rfl,hs⟩;repeat' first|refine ak ?_;intros|refine cQ ?_ ?_<;>intros|(exfalso;rename_i h;simp at h;done)
  exact bS hs λwa aI=>rfl
theorem Vy:Ct pg 147 #[aP,aP] w X nX λv _ _=>v=B true:=by
  intro w0 hk;have h0:Sl w0 (bK w0) 1 aP (([]:List BA).map S1):=Sl.nil _ _ _;refine J6.1 λhs=>?_;repeat' refine aJ ?_;intros
  refine fp (λn a w X=>a=I 0/\ai (bK w0) w0 X w) 0 ⟨rfl,hs⟩ ?_;clear hs;rintro n a w X ⟨rfl,hs⟩;repeat' first|refine ak ?_;intros|refine cQ ?_ ?_<;>intros|(exfalso;rename_i h;simp at h;done)
  exact bS hs λwa aI=>rfl
theorem SV:Ct pg 146 #[aP,aP] w X nX λv _ _=>v=B true:=by
 intro w0 hk;have h0:Sl w0 (bK w0) 1 aP (([]:List BA).map S1):=Sl.nil _ _ _;refine IF.1 λhs=>?_;repeat' refine aJ ?_;intros
 refine gz (λn a _ w X=>a=I 0/\ai (bK w0) w0 X w) 0 ⟨rfl,hs⟩ ?_;clear hs;rintro n a _ w X ⟨rfl,hs⟩;repeat' first|refine ak ?_;intros|refine cQ ?_ ?_<;>intros|(exfalso;rename_i h;simp at h;done)
 exact bS hs λwa aI=>rfl
end
theorem Y2 {w:World} {X:XS} {s:State} :Ct pg 95 #[s.v aP aP,s.v aP aP] w X nX λv _ _=>v=B true:=by
 intro w0 hk;refine Pp.1 λhs=>?_;repeat' first|refine ak ?_;intros|(with_reducible refine ajP _ _ ?_ ?_ ?_);(· kernel_rfl);all_goals intros|with_reducible apply cD|(refine kh (Rj _ _) hs ?_ ?_<;>intro _ w X hs)|contradiction|(exfalso;simp_all;done)|(with_reducible refine dS SV kQ hs.has λw X ax=>?_);replace hs:=hs.trans ax|(with_reducible refine dS Vy kQ hs.has λw X ax=>?_);replace hs:=hs.trans ax
 exact bS hs λwa aI=>rfl
theorem amV {s s':jH} {r:Rec} (h:sy s r=some s') (hs:(s.2.map λx=>x.1.aM).Nodup):(s'.2.map λx=>x.1.aM).Nodup:=by
 unfold sy at h;split at h
 ·split at h<;>cases h
  exact hs
 split at h
 ·split at h<;>cases h
  rename_i hc;rw[aD,List.nodup_append];refine⟨hs,by simp,λa ha b hb e=>?_⟩;obtain⟨x,hx,rfl⟩:=List.mem_map.1 ha;simp only[bm,List.map_nil,aw] at hb;exact hc.2.2 x hx (e.trans hb)
 split at h
 ·split at h<;>cases h
  have:(Dt r.aM s.2).map (λx=>x.1.aM)=s.2.map λx=>x.1.aM:=by
   have:=congrArg (List.map Rec.aM) (af2 r.aM s.2)
   rwa [bz,bz] at this
  rw[this];exact hs
 ·cases h
theorem acb: ∀{rs:List Rec} {s s':jH},xP s rs=some s'->(s.2.map λx=>x.1.aM).Nodup->(s'.2.map λx=>x.1.aM).Nodup
 |[],s,s',h,hs=>by cases h;exact hs
 |r::rs,s,s',h,hs=>by
  obtain⟨s1,h1,h2⟩:=Option.bind_eq_some_iff.1 h;exact acb h2 (amV h1 hs)
theorem gB.bh {k N:Nat} {n:bo} (h:gB k N n):(n.bh.map (·.aM)).Nodup:=by
 obtain⟨pre,sg,_,hR,_⟩:=h.log;obtain⟨rs,_,hg,_,hr⟩:=hR.rs;rw[<-Pk,bz];exact acb hr sQ
section
variable {w w' wa w0 : World} {X X' : XS}
theorem aee {r:Rec} {v v':Value} (h:Sl w X 1 v (r.parts.map I1)) (h':Sl w X 1 v' (r.parts.map I1)):
  Ct pg 50 #[r.v aP aP v aP aP aP,r.v aP aP v' aP aP aP] w X nX λu _ _=>u=B true:=by
 intro w0 hk;replace h:=h.mv hk.cr;replace h':=h'.mv hk.cr;have o1:=h.one;have o2:=h'.one;refine SX.1 λhs=>?_;have hb: ∀{w X},Ct pg 91 #[.float .f64 r.rW,.float .f64 r.rW] w X nX λx _ _=>x= .bool true:=λwa nM=>(HR _ _ wa).mono λe w' ⟨he,hx⟩=>⟨_,he,hx,by simp⟩;refine Sg ?_;repeat (first|with_reducible refine amU ?_|(with_reducible refine aie kQ ?_)|(with_reducible refine akT kQ ?_)|(with_reducible refine Pm kQ ?_))
 refine Ei hb kQ hs.has λw1 X1 ax=>?_;replace hs:=hs.trans ax;refine Ei aec kQ hs.has λw2 X2 ax=>?_;replace hs:=hs.trans ax;refine Ei aa9 kQ hs.has λw3 X3 ax=>?_;replace hs:=hs.trans ax;refine Ei (SY (h.mv hs.mv) (h'.mv hs.mv)) kQ hs.has λw4 X4 ax=>?_;replace hs:=hs.trans ax;refine Ei aed kQ hs.has λw5 X5 ax=>?_;replace hs:=hs.trans ax;refine Ei Y2 kQ hs.has λw6 X6 ax=>?_;replace hs:=hs.trans ax;exact bS hs λwa aI=>by simp
theorem aba {a b:Value} {zs zt:List (Rec×Value)} (ha:Sl w X 29 a (zs.map zm)) (hb:Sl w X 29 b (zt.map zm)) (e:zs.map (·.1)=zt.map (·.1)) (hp: ∀z∈zs,Sl w X 1 z.2 (z.1.parts.map I1)) (hq: ∀z∈zt,Sl w X 1 z.2 (z.1.parts.map I1)):
  Ct pg 23 #[a,b] w X nX λv _ _=>v=B true:=by
 intro w0 hk;replace ha:=ha.mv hk.cr;replace hb:=hb.mv hk.cr;have kG:=ha.gO;have hlen:zs.length=zt.length:=by have:=congrArg ba e;simpa using this
 refine Rk.1 λhs=>?_;repeat' refine aJ ?_;intros
 refine fp (λn a w X=> ∃i:Nat,a=I i/\n=zs.length-i/\i<=zs.length/\ai (bK w0) w0 X w) zs.length ⟨0,rfl,rfl,aq _,hs⟩ ?_;clear hs;rintro n _ w1 X1 ⟨i,rfl,rfl,hi,hs⟩
 show(aX _ _ _ _ _:Prop)
 rcases dA zs i with⟨cB,z,hz,hd⟩|⟨dB,hd⟩
 ·obtain⟨z',uC⟩: ∃z',zt[i]? =some z':=⟨_,aS zQ⟩;have h1:=(hp z (aA hz)).mv hk.cr;have h2:=(hq z' (aA uC)).mv hk.cr;have he:z.1=z'.1:=by
   have:(zs.map (·.1))[i]? =(zt.map (·.1))[i]? :=by rw[e]
   rw[cL,cL,hz,uC] at this;simpa using this
  obtain⟨r,v⟩:=z;obtain⟨r',v'⟩:=z';obtain rfl:r=r':=he;have o1:=h1.one;have o2:=h2.one;repeat' refine aJ ?_;intros
  refine dS (aee (r:=r) (h1.mv hs.mv) (h2.mv hs.mv)) kQ hs.has λw2 X2 ax=>?_;replace hs:=hs.trans ax;repeat' refine ak ?_;intros
  exact eP (zs.length-(i+1)) zQ ⟨i+1,congrArg I zQ,rfl,by omega,hs⟩
 ·repeat' refine aJ ?_;intros
  exact bS hs λwa aI=>rfl
variable {own aG bN : Nat -> Nat} {n n' : bo} {db k N : Nat} {m : DM} {s s' : CS}
def CS.reach:CS->jH->Prop
 | .up n,a=>a=n.abs
 | .dn _ _ P,a=>P a
theorem CS.Is.dk (h:CS.Is w own db s) (lh:CS.Ok k N s): ∃m,Hs (QS db m) w own/\wV k (λa=>s.reach a/\zH a) m:=by
 cases s with
 |up n=>
  obtain⟨hN,rfl⟩:=h;refine⟨n.m,⟨λc h0 h4=>?_,hN.lt⟩,(show gB k N n from lh).crs⟩;have:=hN.gI c h0 h4;rcases c with _|_|_|_|c<;>first|exact Lg.dk this|trivial
 |dn nb m P=>
  refine⟨m,⟨λc h0 h4=>?_,(show QU w own nb db m from h).lt⟩,(show YH k P m from lh).2⟩;have:=(show QU w own nb db m from h).gI c h0 h4;rcases c with _|_|_|_|c<;>first|exact this|trivial
theorem UP (h:CS.Is w own db s) (hX:qV own X) (lh:CS.Ok k N s) (hk:k<=190):
  Ct pg 24 #[ptr db 0] w X (gF own) λv wa w'=> ∃aG n a,Bd own aG wa.heap.size/\CS.Is w' aG db (.up n)/\v=ptr n.nb 0/\s.reach a/\Gk a n/\gB (k+1) N n:=by
 intro w0 ik;obtain⟨m,hd,hc⟩:=h.dk lh;have s0:=St.init hd hX ik;clear hd hX ik h;refine Pq.1 λ_=>?_;refine s0.Ds (N:=N) (vq:=aP) (cH:=[]) (Sl.nil _ _ _) hc hk λa w1 X1 ia n' s1 e1 ha haa hB sC=>?_;have hs:=s1.rf;repeat' refine aJ ?_;intros
 exact s1.t.fin λwa nM=>⟨ia,n',a,s1.e,⟨s1.h.kp s1.x nM,e1⟩,rfl,ha,hB,sC⟩
theorem LS.new {T:XS} {w1:World} {X1:XS} (q:LS w0 bN T w X own db s) (hs:ai X w X1 w1) (hle:w.heap.size<=wa.heap.size) (gv: ∀k,made wa w1 k->X1 k):
  ∃aG,LS w0 bN T w1 X1 aG db s/\(∀k,made wa w1 k->aG k=4)/\Mv (bQ own 4) w (bQ aG 4) w1:=by
 obtain⟨aG,q',p4,p5⟩:=(q.since hs).uR (K:=made wa w1) λk hk=>⟨gv k hk,ad q.t.s.kp.size (ad hle hk.1),eB λe=>by have:=q.h.lt k e;have:=hk.1;omega,λh=>by have:=q.has k (q.t.bA k (.inr h));have:=hk.1;omega⟩;exact⟨aG,q',p4,λk (hk:own k=4) _=>⟨p5 k hk,hs.kp.block k (q.x k zQ)⟩⟩
end
def aoQ:CS->bE->Prop
 | .up n,t=>aq2 n t
 | .dn _ _ P,t=> ∀a,P a->t.aR<=a.1
def aq3:CS->List Rec->Prop
 | .up n,W=>W<+:n.bh
 | .dn _ _ P,W=> ∀a,P a->W<+:a.2.map (·.1)
section
variable {n n1 : bo} {m : cJ} {t t' : bE} {k N : Nat} {s s1 : CS} {o : jI}
end
section
variable {w w' wa w0 : World} {X X' G K K' F T T' : XS} {own aG bN : Nat -> Nat} {n n' : bo} {b : Nat} {t0 : bE} {db : Nat} {m : DM} {s s' : CS}
theorem aif {zs:List (Rec×Value)} {r:Rec} {t:bE} (ry:((zs.map (·.1)).map (·.aM)).Nodup) (hr:r∈zs.map (·.1)) (e:r.aM=t): ∃z,(zs.find? λz=>decide (z.1.aM=t))=some z/\z∈zs/\z.1=r:=by
 cases hf:zs.find? λz=>decide (z.1.aM=t)with
 |none=>
  obtain⟨z,hz,ez⟩:=List.mem_map.1 hr;exact absurd (show z.1.aM=t by rw[ez];exact e) (by simpa using List.find?_eq_none.1 hf z hz)
 |some z=>
  have hm:=List.mem_of_find?_eq_some hf;have ht:z.1.aM=t:=by simpa using List.find?_some hf
  exact⟨z,rfl,hm,UO ry (List.mem_map.2 ⟨z,hm,rfl⟩) hr (ht.trans e.symm)⟩
structure ata (w0:World) (bN:Nat->Nat) (w:World) (X:XS) (own:Nat->Nat) (db k N:Nat) (s:CS) (vc vt vw:Value) (cs:List bE) (ta:List HM) (zw:List (Rec×Value)) (i:Nat):Prop where
 ls:LS w0 bN (λj=>eT vc j\/eT vt j) w X own db s
 ok:CS.Ok k N s
 cal:Own w (eT vc) 0 tT 3 vc (cs.map bE.l)
 tol:Own w (eT vt) 0 anT 9 vt (ta.map HM.l)
 vs1: ∀a∈ta,aL.one a.vs=true
 was:Sl w (bQ own 4) 29 vw (zw.map zm)
 wps: ∀z∈zw,Sl w (bQ own 4) 1 z.2 (z.1.parts.map I1)
 cb: ∀t∈cs,aoQ s t
 tf: ∀a∈ta,FI s ⟨a.t,aoP a,a.st⟩
 wf:aq3 s (zw.map (·.1))
 cl:cs.length<=i
 tl:ta.length<=1001*i
 dj: ∀j,eT vt j-> ¬eT vc j
end
theorem SZ {w:World} {X:XS} {a b:Value} {xs ys:List bE} (ha:Sl w X 3 a (xs.map bE.l)) (hb:Sl w X 3 b (ys.map bE.l)):
  Ct pg 28 #[a,b] w X nX λv _ _=>v=B (decide (xs=ys)):=by
  intro w0 hk;replace ha:=ha.mv hk.cr;replace hb:=hb.mv hk.cr;have kG:=ha.gO;refine Rl.1 λhs=>?_;repeat' first|refine ak ?_;intros|refine cQ ?_ ?_<;>intros|(refine qr ?_;intro wa hk;(simp only[B,Value.bool.injEq];symm;rw[decide_eq_false_iff_not];rintro rfl;omega))
  have hlen:xs.length=ys.length:=by omega
  refine fp (λn a w X=> ∃i:Nat,a=I (i:Nat)/\n=(xs).length-i/\i<=(xs).length/\ai (bK w0) w0 X w/\(xs=ys↔xs.drop i=ys.drop i)) (xs).length ⟨0,rfl,rfl,aq _,hs,by simp⟩ ?_;rintro n a w X ⟨i,rfl,rfl,hi,hs,hw⟩;rcases dA (xs) i with⟨cB,x,hx,hd⟩|⟨dB,hd⟩
  ·obtain⟨y,hy,hdy⟩:=S2 (xs:=ys) (i:=i) zQ;repeat' first|refine aJ ?_;intros|(with_reducible apply Y3);(· kernel_rfl);all_goals intros|(refine qr ?_;intro wa hk;(simp_all [bE.ext_iff]))|((with_reducible refine eP ((xs).length-(i+1)) ?_ ?_);omega;exact⟨i+1,by simp,rfl,by omega,hs,by simp_all [bE.ext_iff]⟩)
  ·have hdy:=List.drop_of_length_le (l:=ys) (i:=i) zQ;repeat' first|refine aJ ?_;intros|(refine qr ?_;intro wa hk;simp_all)
def Gl (n:bo) (l:List Nat):List bE:=(l.filter λb=>!(n.C b).ended).map λb=>(n.C b).r.aM
theorem aih {n:bo} {l:List Nat} {i b:Nat} (h:l[i]? =some b):Gl n (l.take (i+1))=Gl n (l.take i)++if(n.C b).ended=true then [] else [(n.C b).r.aM]:=by
 unfold Gl;rw[cj,h,List.filter_append,aD];cases e:(n.C b).ended<;>simp[e]
theorem acd (n:bo):Gl n n.cl=(n.abs.2.filter λx=>!x.2).map λx=>x.1.aM:=by
 unfold Gl bo.abs;rw[List.filter_map,bz];rfl
section
variable {w w' wa w0 : World} {X X' : XS} {own aG bN : Nat -> Nat} {n n' : bo}
theorem Fg (h:jy w own n) (hX:qV own X) (pG:n.cl.length<=1000):
  Ct pg 27 #[ptr n.nb 0] w X nX λv wa w'=>Own w' (made wa w') wa.heap.size tT 3 v ((Gl n n.cl).map bE.l):=by
 intro w0 hk;have s0:=St.init h hX hk;clear h hX hk;have bw:=s0.v.1;have N8:Sl w0 (bK w0) 1 n.c.cm (n.cl.map λb=>[ptr b 0]):=(show Own w0 (bQ own 10) 0 Yi 1 n.c.cm _ from s0.get 10).sl.mono (s0.sub 10);have XD:=N8.gO;refine HS.1 λhs=>?_;repeat' refine ak ?_;intros
 refine gz (λk a v w X=> ∃i:Nat,a=I i/\k=n.cl.length-i/\i<=n.cl.length/\ai (bK w0) w0 X w/\Own w X w0.heap.size tT 3 v ((Gl n (n.cl.take i)).map bE.l)/\(Gl n (n.cl.take i)).length<=i) n.cl.length
  ⟨0,rfl,rfl,aq _,hs,Own.nil _ _ _ _ _,au _⟩ ?_
 rintro k _ v w1 X1 ⟨i,rfl,rfl,hi,hs,ho,hle⟩;rcases dA n.cl i with⟨cB,b,hb,hd⟩|⟨dB,hd⟩
 ·obtain⟨EJ,o2,op,_⟩:=s0.vc (aA hb);have e1:=aih (n:=n) hb;cases he:(n.C b).ended with
  |true=>
   rw[if_pos he,gn] at e1;rw[he] at EJ;repeat' first|refine aJ ?_;intros|with_reducible apply cD
   exact fB (n.cl.length-(i+1)) zQ ⟨i+1,congrArg I zQ,rfl,by omega,hs,by rw[e1];exact ho,by rw[e1];omega⟩
  |false=>
   rw[if_neg (by rw[he];decide)] at e1;rw[he] at EJ;repeat' first|refine aJ ?_;intros|((with_reducible apply ace);(case own=>first|assumption|exact Own.since aQ aQ);(case hs=>assumption);(case h0=>first|exact λ_ h=>h|exact gf.has);(case he=>kernel_rfl);(case hk=>rfl);(case h1=>exact qE);(case hb=>(simp only[ah,aB,aa,aK,br];omega));(case hl=>(simp only[ah,aB,aa,aK,br];omega));intro acc w X ax ho hc dh;replace hs:=ax)|with_reducible apply cD
   exact fB (n.cl.length-(i+1)) zQ ⟨i+1,congrArg I zQ,rfl,by omega,hs,by rw[e1,aD];exact ho,by rw[e1,aa,cd];omega⟩
 ·obtain rfl:i=n.cl.length:=by omega
  rw[jY] at ho;repeat' refine aJ ?_;intros
  exact bS hs λwa aI=>(ho.kp aI).tight
end
def HT (n:bo) (b:Nat):List cJ:=(n.C b).r.parts.map λid=>(SI (n.C b).r id).o9 21
theorem yR.told: ∀{l:List Nat} {n n1:bo},yR l n n1->n.c.id=1->(∀b∈l,(n.C b).ended=false->(n.C b).waits=(n.C b).r.parts)->n1.ms=n.ms++(l.filter λb=>!(n.C b).ended).flatMap (HT n)
 |[],n,n1,h,_,_=>by rw[show n1=n from h];simp
 |b::l,n,n1,⟨n2,h1,h2⟩,hi,hw=>by
  have hk:=h1.tk;have q:=yR.told h2 (by rw[hk.c];exact hi) λb' dT=>by rw[hk.C];exact hw b' (bG _ dT)
  have er:HT n2=HT n:=by unfold HT;rw[hk.C]
  rw[q,er,hk.C];rcases h1 with⟨he,rfl⟩|⟨he,Av,xO,rfl,_⟩
  ·rw[List.filter_cons_of_neg (by simp[he])]
  ·rw[List.filter_cons_of_pos (by simp[he]),jA,<-List.append_assoc];refine congrArg (· ++_) ?_
   show n.ms++(n.C b).waits.map _=_
   rw[hw b lQ he,hi];rfl
theorem acf {α β:Type} {f:α->List β} : ∀{l:List α} {i j:Nat} {x:α} {y:β},l[i]? =some x->(f x)[j]? =some y->(l.flatMap f)[((l.take i).flatMap f).length+j]? =some y
 |a::l,0,j,x,y,hx,hy=>by
  have hx:some a=some x:=hx;cases hx;obtain⟨h,_⟩:=List.getElem?_eq_some_iff.1 hy;rw[jA,List.take_zero,List.flatMap_nil,br,Nat.zero_add,List.getElem?_append_left h];exact hy
 |a::l,i+1,j,x,y,hx,hy=>by
  have hx:l[i]? =some x:=hx;have q:=acf hx hy;rw[List.take_succ_cons,jA,jA,aa,Nat.add_assoc,List.getElem?_append_right (iG _ _),Nat.add_sub_cancel_left];exact q
theorem UQ {α β:Type} {f:α->List β} {l:List α} {i:Nat} {x:α} (h:l[i]? =some x):((l.take (i+1)).flatMap f).length=((l.take i).flatMap f).length+(f x).length:=by
 rw[cj,h,yJ,aa];simp
theorem aii {α β:Type} {f:α->List β} {l:List α} {i:Nat} :((l.take i).flatMap f).length<=(l.flatMap f).length:=by
 have e:(l.flatMap f)=(l.take i).flatMap f++(l.drop i).flatMap f:=by rw[<-yJ,fq]
 rw[e,aa];exact iG _ _
section
variable {w w' wa w0 : World} {X X' G K K' F T T' : XS} {own aG bN : Nat -> Nat} {n n' : bo} {b : Nat} {t0 : bE} {db : Nat} {m : DM} {s s' : CS}
theorem Pr {a:Value} {ops:List jI} (ha:fg w X 41 a jI.rd ops) (hm: ∀o∈ops,ad5 o) (atb:yS ops<=2^20):
  Ct pg 7 #[a] w X nX λv _ _=>v=B true:=by
 have key: ∀w0,Kp X w w0->Calls pg 7 #[a] w0 (uF (gF λk=>if k<w0.heap.size then 4 else 0) w0 λv _=>v=B true):=by
  intro w0 hk;replace ha:=fg.mv ha jI.mv hk.cr;have kG:=ha.len;clear hk;obtain⟨bN,aef⟩: ∃bN:Nat->Nat,bN=λk=>if k<w0.heap.size then 4 else 0:=⟨_,rfl⟩
  rw[<-aef];have Ls:Ft w0 (gF bN) w0 (bK w0) nX:=(Ft.init λk hk=>by rw[aef] at hk;exact eB λhl=>hk.1 (if_neg hl)).less λk hk=>hk.elim;have gf:=Ls.s;refine FA.1 λhs=>?_;refine dS E9 kQ hs.has λw1 X1 ax=>?_;have dW:=Ls.since ax;clear hs;have hs:=ai.fG ax.has;repeat' refine ak ?_;intros
  refine cu (ad4 (ha.mv jI.mv ax.mv)) kQ ax.has ?_;rintro _ xu w2 X2 ⟨b1,rfl,lK⟩ lu ka bB;have cY:=dW.since bB;clear hs;have hs:=ai.fG bB.has;cases b1 with
  |false=>
   repeat' refine ak ?_;intros
   refine dS E9 kQ bB.has λw3 X3 dp=>?_;exact(cY.since dp).fin λwa nM=>rfl
  |true=>
   have wE:=lK rfl;repeat' refine ak ?_;intros
   refine cu aa8 kQ bB.has ?_;rintro _ zf w4 X4 ⟨lF,n4,hmd,UR,rfl,aq4,hB4⟩ tq oF fX;have fQ:=cY.since fX;have hle:w0.heap.size<=zf.heap.size:=ad cY.s.kp.size tq;subst aef;obtain⟨mA,q5⟩:=LS.init (s:=.up n4) (db:=n4.db) fQ (λk hk=>⟨hmd k hk,oF k (hmd k hk)⟩) hle ⟨UR,rfl⟩;generalize n4.db=db at q5;clear hs Ls dW cY fQ hmd UR;have hs:=q5.rf;repeat' refine ak ?_;intros
   refine gz (λn a b w X=> ∃(i:Nat) (aG:Nat->Nat) (s:CS),a=I i/\b=ptr s.nb 0/\n=ops.length-i/\i<=ops.length/\LS w0 (λk=>if k<w0.heap.size then 4 else 0) nX w X aG db s/\CS.Ok (i+1) (yS (ops.take i)) s) ops.length
    ⟨0,mA,.up n4,rfl,rfl,rfl,aq _,q5,aq4⟩ ?_
   rintro n _ _ w5 X5 ⟨i,zR,s6,rfl,rfl,rfl,hi,q6,aij⟩;clear q5 hs;have hs:=q6.t.s;have haO:fg w0 (out (gF λk=>if k<w0.heap.size then 4 else 0) w0) 41 a jI.rd ops:=ha.mv jI.mv λk hk _=>⟨⟨hk,λh=>h.2 (if_pos hk)⟩,rfl⟩;rcases dA (ops) i with⟨cB,x,hx,hd⟩|⟨dB,hd⟩
   ·have Q2:=hm x (aA hx);have oA:=akG hx;repeat' first|refine aJ ?_;intros|(with_reducible apply E5);(case h=>exact haO);(case hr=>exact hx);(case hz=>rfl);(case ht=>kernel_rfl);(case hs=>kernel_rfl);intros
    refine q6.act (o:=x) aij (q6.op aQ) Q2 zQ zQ λv w6 X6 B0 s7 q7 hP _ _=>?_;obtain⟨s8,t,rfl,hO,aq5,rfl,hR⟩:=hP;obtain⟨y,z,hyz,oy,oz⟩:=hO.two;rw[hyz];clear hs;repeat' refine ak ?_;intros
    exact fB (ops.length-(i+1)) zQ ⟨i+1,B0,s8.Pf,congrArg I zQ,by rw[CS.akB],rfl,by omega,q7,by rw[UM hx];exact aq5⟩
   ·obtain rfl:i=ops.length:=by omega
    rw[jY] at aij;repeat' refine aJ ?_;intros
    refine q6.call (Q:=λv w' aG s1=> ∃n a,s1= .up n/\v=ptr n.nb 0/\Gk a n/\gB (ops.length+2) (yS ops) n) ((UP q6.h q6.x aij zQ).mono λv wa w' _ ⟨aG,n,a,e,h',hv,_,hB,jl⟩=>⟨aG,.up n,e,h',n,a,rfl,hv,hB,jl⟩) kQ λv w7 X7 B0 s7 q7 hQ _ _=>?_;obtain⟨n7,a7,rfl,rfl,hB7,Y4⟩:=hQ;clear hs;have hs:=q7.rf;have hN7:=Y4.ok;repeat' refine ak ?_;intros
    refine dS (E4 (n:=n7) q7.h.1 q7.x) kQ q7.has λw8 X8 kV=>?_;have q8:=q7.since kV;clear hs;have hs:=q8.rf
    skip
    refine cu (Fe (n:=n7) q8.h.1 q8.x (ad hN7.cl hN7.mM) λb hb=>ad (Y4.parts b hb) dQ) kQ q8.has ?_;rintro vc FZ w9 X9 ⟨zs,hzo,hzr⟩ amx ahY Ar;obtain⟨nv,q9,p9,m9⟩:=q8.new Ar amx ahY;have iN:Sl w9 (bQ nv 4) 29 vc (zs.map zm):=(hzo.mono p9).sl;have uE: ∀z∈zs,Sl w9 (bQ nv 4) 1 z.2 (z.1.parts.map I1):=λz hz=>(hzr.2 z hz).mono p9;clear hs;have hs:=q9.rf
    skip
    refine cu (Fg (n:=n7) q9.h.1 q9.x (ad hN7.cl hN7.mM)) kQ q9.has ?_;rintro vu amy JG LA huo adU Q7 Sz;obtain⟨ajK,q10,Y5,m10⟩:=q9.new Sz adU Q7;have US:Sl JG (bQ ajK 4) 3 vu ((Gl n7 n7.cl).map bE.l):=(huo.mono Y5).sl;replace iN:=iN.mv m10;replace uE:=λz hz=>(uE z hz).mv m10;clear hs;have hs:=q10.rf
    skip
    refine q10.call (Q:=λv w' aG s1=> ∃n a,s1= .up n/\v=ptr n.nb 0/\a=n7.abs/\Gk a n/\gB (ops.length+3) (yS ops) n) ((UP q10.h q10.x Y4 zQ).mono λv wa w' _ ⟨aG,n,a,e,h',hv,hr,hB,jl⟩=>⟨aG,.up n,e,h',n,a,rfl,hv,hr,hB,jl⟩) kQ λv w11 X11 ID Ot Rm hQ _ m11=>?_;obtain⟨n11,a11,rfl,rfl,rfl,GW,Gm⟩:=hQ;replace iN:=iN.mv m11;replace uE:=λz hz=>(uE z hz).mv m11;replace US:=US.mv m11;clear hs;have hs:=Rm.rf;repeat' first|refine ak ?_;intros|with_reducible apply cD
    have JH:n11.c.aR=n7.c.aR+1:=congrArg Prod.fst GW.abs;have yA:=Y4.aR;have h4: ∀{w:World} {X:XS},ai X11 w11 X w->Mv (bQ ID 4) w11 X w:=λh j (hj:ID j=4) _=>⟨h.sub j (Rm.x j zQ),h.kp.block j (Rm.x j zQ)⟩;refine dS (E4 (n:=n11) Rm.h.1 Rm.x) kQ hs.has λw12 X12 rJ=>?_;have q12:=Rm.since rJ;rw[JH];clear hs;have hs:=q12.rf;repeat' first|refine aJ ?_;intros|with_reducible apply cD
    refine cu (Q9 (n:=n11) q12.h.1 q12.x (by rw[GW.al];exact aq _)) kQ hs.has ?_;rintro va atc w13 X13 ⟨ts,xB,_,zk⟩ asr aoR XI;obtain rfl:ts=[]:=by rw[GW.al] at xB;exact xB.eq_nil
    have q13:=q12.since XI;have htv:Sl w13 X13 3 va (([]:List bE).map bE.l):=(zk.mono aoR).sl;clear hs;have hs:=q13.rf;repeat' first|refine ak ?_;intros|refine cQ ?_ ?_<;>intros|with_reducible apply cD|(exfalso;simp only[br] at*;omega)
    refine cu (Fe (n:=n11) q13.h.1 q13.x (ad Gm.ok.cl Gm.ok.mM) λb hb=>ad (Gm.parts b hb) dQ) kQ hs.has ?_;rintro vd atd w14 X14 ⟨zt,aq6,aik⟩ ass ajQ amW;have q14:=q13.since amW;have ez:zt.map (·.1)=zs.map (·.1):=by rw[aik.1,hzr.1];exact(Pk n11).symm.trans ((congrArg (λa:jH=>a.2.map (·.1)) GW.abs).trans (Pk n7))
    have aeg:=(rJ.trans XI).trans amW;clear hs;have hs:=q14.rf;repeat' first|refine ak ?_;intros|with_reducible apply cD
    refine dS (aba (zs:=zt) (zt:=zs) (aq6.mono ajQ).sl (iN.mv (h4 aeg)) ez (λz hz=>(aik.2 z hz).mono ajQ) λz hz=>(uE z hz).mv (h4 aeg)) kQ hs.has λw15 X15 amX=>?_;have q15:=q14.since amX;have aoS:=aeg.trans amX;clear hs;have hs:=q15.rf;repeat' first|refine ak ?_;intros|with_reducible apply cD
    refine cu (Fg (n:=n11) q15.h.1 q15.x (ad Gm.ok.cl Gm.ok.mM)) kQ hs.has ?_;rintro vx ate w16 X16 Q2 aoT aoU amY;have q16:=q15.since amY;have ajR:=aoS.trans amY;have eu:Gl n11 n11.cl=Gl n7 n7.cl:=by rw[acd,acd,GW.abs]
    rw[eu] at Q2;clear hs;have hs:=q16.rf;repeat' first|refine ak ?_;intros|with_reducible apply cD
    refine dS (SZ (xs:=Gl n7 n7.cl) (ys:=Gl n7 n7.cl) (Q2.mono aoU).sl (US.mv (h4 ajR))) kQ hs.has λw17 X17 amZ=>?_;have q17:=q16.since amZ;have ajS:=ajR.trans amZ;rw[decide_eq_true rfl];clear hs;have hs:=q17.rf;repeat' refine ak ?_;intros
    refine q17.call (Q:=λv w' aG s2=> ∃n1,MT n11 n1/\v= .tuple #[.agg #[n1.vm,n1.va],I 0]/\s2= .up (dV n1)/\zU w' aG n1) ((Lw (n:=n11) q17.h.1 q17.x Gm.ok).mono λv wa w' _ hq=>?_) kQ λv UN Y6 Rn s18 q18 hQ _ m18=>?_
    ·obtain⟨aG,n',e,h',n1,hP,hv,rfl,hO⟩:=hq;exact⟨aG,.up (dV n1),e,⟨h',hP.nb.2.trans q17.h.2⟩,n1,hP,hv,rfl,hO⟩
    obtain⟨n1,hTk,rfl,rfl,hO⟩:=hQ;have nC:Be n11:=(show jy w17 ID n11 from q17.h.1).gI 12 dQ dQ;have ajT:=Gm.tick nC hTk zQ;have vH:=Gm.ok.id;have hwe: ∀b∈n11.cl,(n11.C b).ended=false->(n11.C b).waits=(n11.C b).r.parts:=GW.we;obtain⟨ts,n2,hp,ht,hd⟩:=hTk;obtain rfl:ts=[]:=by rw[GW.al] at hp;exact hp.eq_nil
    obtain rfl:n2=n11:=ht;obtain⟨UE,hUE⟩: ∃UE,UE=n2.cl.filter λb=>!(n2.C b).ended:=⟨_,rfl⟩;have JC:n1.ms=UE.flatMap (HT n2):=by rw[hd.told vH hwe,GW.ms,hUE];rfl
    have BC:n1.ra=[]:=by rw[hd.calm.2.2.2.2];exact GW.ra
    have BE:=hd.calm.1;obtain⟨us,hu0⟩: ∃us,us=UE.map λb=>(n2.C b).r.aM:=⟨_,rfl⟩;have hum:Gl n7 n7.cl=us:=by rw[<-eu,hu0,hUE];rfl
    have hu1:us.length=UE.length:=by rw[hu0,ah]
    have aeh:Mv (bQ ID 4) w11 (bQ Rn 4) UN:=λj hj hl=>m18 j hj (av hl ajS.kp.size)|>λh=>⟨h.1,h.2.trans (ajS.kp.block j (Rm.x j (by have:ID j=4:=hj;omega)))⟩
    have x18: ∀j,bQ Rn 4 j->Y6 j:=λj (hj:Rn j=4)=>q18.x j zQ;replace iN:Sl UN Y6 29 vc (zs.map zm):=(iN.mv aeh).mono x18;replace uE: ∀z∈zs,aL.one z.2=true/\Sl UN Y6 1 z.2 (z.1.parts.map I1):=λz hz=>⟨(uE z hz).one,((uE z hz).mv aeh).mono x18⟩;rw[hum] at US;replace US:Sl UN Y6 3 vu (us.map bE.l):=(US.mv aeh).mono x18;have hul:=US.gO;have JI:=hO.om.mono x18;have BG:=hO.oa;rw[BC] at BG;replace BG:Sl UN Y6 9 n1.va (([]:List HM).map HM.l):=BG.mono x18;have hhm:=hO.hm;have o1:=JI.one;have o2:=BG.one;have ry:((zs.map (·.1)).map (·.aM)).Nodup:=by rw[hzr.1];exact Y4.bh
    have hml:=JI.len;have qh:=hhm.1;clear hs;have hs:=q18.rf;repeat' refine aJ ?_;intros
    refine AW (λn a kk _ w X=> ∃i:Nat,a=I i/\kk=I (((UE.take i).flatMap (HT n2)).length)/\n=UE.length-i/\i<=UE.length/\ai Y6 UN X w) UE.length ⟨0,rfl,rfl,rfl,aq _,hs⟩ ?_;clear hs;rintro n _ _ _ w19 X19 ⟨i,rfl,rfl,rfl,hi,hs⟩
    show(aX _ _ _ _ _:Prop)
    have atf:Sl w19 X19 3 vu (us.map bE.l):=US.mv hs.mv;rcases dA UE i with⟨cB,b,hb,hd9⟩|⟨dB,hd9⟩
    ·have hub:us[i]? =some (n2.C b).r.aM:=by rw[hu0,cL,hb];rfl
     have hbr:(n2.C b).r∈zs.map (·.1):=by
      have JD:b∈n2.cl:=by
       have:=aA hb;rw[hUE] at this;exact(List.mem_filter.1 this).1
      rw[<-ez,aik.1];exact List.mem_map.2 ⟨b,JD,rfl⟩
     repeat' refine aJ ?_;intros
     refine cu (Ri (t:=(n2.C b).r.aM) (zs:=zs) (iN.mv hs.mv) λz hz=>(uE z hz).1) kQ hs.has ?_;rintro vf atg w20 X20 hvf ast asu am0;obtain⟨z,hzf,hzm,Qf⟩:=aif (zs:=zs) (t:=(n2.C b).r.aM) ry hbr rfl;rw[hzf] at hvf;obtain rfl:vf= .tuple #[.agg (zm z).toArray,B true]:=hvf;obtain⟨oz,hzp⟩:=uE z hzm;obtain⟨zr,zv⟩:=z;obtain rfl:zr=(n2.C b).r:=Qf;replace oz:aL.one zv=true:=oz;replace hzp:Sl UN Y6 1 zv ((n2.C b).r.parts.map I1):=hzp;have Ou:=hs.trans am0;clear hs;have hs:=ai.fG am0.has;have Xv:=hzp.gO;obtain⟨pr,CD⟩: ∃pr,pr=((UE.take i).flatMap (HT n2)).length:=⟨_,rfl⟩;rw[<-CD];have Gb:pr+(n2.C b).r.parts.length<=n1.ms.length:=by
      have e1:=UQ (f:=HT n2) hb;have e2:(HT n2 b).length=(n2.C b).r.parts.length:=ah _;rw[CD,JC,<-e2,<-e1];exact aii
     repeat' refine ak ?_;intros
     refine gz (λn a kk w X=> ∃j:Nat,a=I j/\kk=I ((pr+j:Nat):Int)/\n=(n2.C b).r.parts.length-j/\j<=(n2.C b).r.parts.length/\ai X20 w20 X w) (n2.C b).r.parts.length ⟨0,rfl,rfl,rfl,aq _,hs⟩ ?_;clear hs;rintro n _ _ w21 X21 ⟨j,rfl,rfl,rfl,hj,hs⟩
     show(un _ _:Prop)
     have ath:=hzp.mv (Ou.trans hs).mv;have ati:Sl w21 X21 36 n1.vm (n1.rm.map λl=>l):=by rw[List.map_id'];exact JI.mv (Ou.trans hs).mv
     rcases dA (n2.C b).r.parts j with⟨SA,id,vH,sk⟩|⟨EL,sk⟩
     ·have atj:((n2.C b).r.parts.map I1)[j]? =some [I id]:=by rw[cL,vH];rfl
      have hfm:(HT n2 b)[j]? =some (⟨5,21,id,(n2.C b).r.aM,id,0,0,(n2.C b).r.aV,.zero,true,0,0,[],[],[],[],[],[],.zero⟩:cJ):=by unfold HT;rw[cL,vH];rfl
      have hma:=acf hb hfm;rw[<-JC,<-CD] at hma;obtain⟨l,hl⟩: ∃l,n1.rm[pr+j]? =some l:=⟨_,aS (by have:=(List.getElem?_eq_some_iff.1 hma).1;omega)⟩;obtain⟨u1,u2,u3,u4,u5,u6,u7,u8,rfl,dh⟩:=hhm.2 _ l _ hl hma;have b1:=dh.keys.one;have b2:=dh.seen.one;have b3:=dh.writes.one;have b4:=dh.parts.one;have b5:=dh.ranges.one;have b6:=dh.bh.one;have b7:=dh.iu.one;have b8:=dh.gY.one;repeat' first|refine aJ ?_;intros|refine cQ ?_ ?_<;>intros|(with_reducible refine ajU _ _ ?_ ?_ ?_);(· kernel_rfl);all_goals intros|(with_reducible apply Y3);(· kernel_rfl);all_goals intros|(exfalso;omega)|contradiction
      exact fB ((n2.C b).r.parts.length-(j+1)) zQ ⟨j+1,congrArg I zQ,congrArg I zQ,rfl,by omega,hs⟩
     ·obtain rfl:j=(n2.C b).r.parts.length:=by omega
      repeat' refine aJ ?_;intros
      have e1:=UQ (f:=HT n2) hb;have e2:(HT n2 b).length=(n2.C b).r.parts.length:=ah _;exact zi (UE.length-(i+1)) zQ ⟨i+1,congrArg I zQ,congrArg I zQ,rfl,by omega,Ou.trans hs⟩
    ·obtain rfl:i=UE.length:=by omega
     rw[jY,<-JC];repeat' refine aJ ?_;intros
     have q19:=q18.since hs;have hct:iY (dV n1)=⟨1,n7.c.aR+1,1⟩:=by
      show(⟨n1.c.id,n1.c.aR,n1.c.gg+1⟩:bE)=_
      rw[BE.id,BE.aR,BE.gg,vH,JH,GW.gg];rfl
     have UF:=ajT.gg;rw[show n2.nb=(dV n1).nb from hd.nb.1.symm];refine q19.call (Q:=λv w' aG s2=> ∃n3:bo,v= .tuple #[(iY (dV n1)).v,.agg #[n3.vm,n3.va],I 0]/\aL.one n3.vm=true/\aL.one n3.va=true) ((EF (n:=dV n1) (p:=[]) q19.h.1 q19.x ajT.ok (Sl.nil _ _ _) (aq _) ⟨UF.1,by omega⟩).mono λv wa w' _ hq=>?_) kQ λv w22 X22 aoV s22 q22 hQ _ m22=>?_
     ·obtain⟨aG,n',e,h',n3,⟨hP,_⟩,hv,rfl,hO⟩:=hq;exact⟨aG,.up (dV n3),e,⟨h',by obtain⟨_,_,_,_,_,_,_,_,_,rfl,_⟩:=hP;exact q19.h.2⟩,n3,hv,hO.om.one,hO.oa.one⟩
     obtain⟨n3,rfl,o3,o4⟩:=hQ;rw[hct];have ajV:Sl w22 X22 36 n1.vm (n1.rm.map λl=>l):=by
      rw[List.map_id'];exact((hO.om.mv λj (hj:Rn j=4) _=>⟨hj,hs.kp.block j (q18.x j zQ)⟩:Sl w19 (bQ Rn 4) 36 n1.vm n1.rm).mv m22).mono λj (hj:aoV j=4)=>q22.x j zQ
     clear hs;have hs:=q22.rf;repeat' refine ak ?_;intros
     refine dS E9 kQ hs.has λw23 X23 am1=>?_;have q23:=q22.since am1;replace ajV:=ajV.mv am1.mv;clear hs;have hs:=q23.rf;repeat' first|refine aJ ?_;intros|(with_reducible apply Rf);(· kernel_rfl);all_goals intros|(exfalso;omega)
     exact q23.t.fin λwa nM=>rfl
 intro w0 hk;refine(key w0 hk).mono λe w' ⟨v,he,hf,hv⟩=>⟨v,he,hf.mono λk hk=>?_,hv⟩;by_cases hl:k<w0.heap.size
 ·exact(hk.2 (if_pos hl)).elim
 ·exact(hk.1 (if_neg hl)).elim
end
namespace coordLives
theorem ail (H:Type) (enc:TypeId×Value->H) (W:World) (base:Nat) (args:Array Value) (ds gs:List (DataW H)) (before:List MemPlace)
  (Y7: ∀(j:Nat) t v,Tryz.f7.params[j]? =some t->args[j]? =some v->Value.okWide pg W .any base t v)
  (hW:DataW.Whole enc pg Tryz.f7.params.toList Rows.coordLivesSpec.vars false W args.toList ds gs before) (hk:Rows.uptoSmall H (ds++gs)=true):
  Calls pg 7 args W λe W'=> ∃v,e= .returned v/\Rows.coordLivesSpec.post enc pg Tryz.f7 false true false false W args v W':=by
 have hW':=hW;obtain⟨p,q,hA0,hV,rfl,hfz,ry⟩:=hW;have hA:DataW.TrodAll enc pg W 0 (λ_=>true) true Tryz.f7.params.toList args.toList ds p:=hA0;rw[Tryz.params7] at hA Y7;obtain⟨v0,vs0,d0,ds0,p0,q0,ajx,rfl,rfl,h0,r0⟩:=trodAll_cons hA;obtain⟨rfl,rfl,rfl⟩:=trodAll_nil r0;obtain rfl:args= #[v0]:=by cases args;simp_all
 obtain⟨rfl,rfl⟩:=trodVars_none hV;obtain⟨b0,n0,c0,rfl⟩:=okWide_slice Tryz.underlying22 (Y7 0 22 v0 rfl rfl);obtain⟨f0,hf0⟩:=h0;obtain⟨x0,⟨u0,hu0,r0'⟩,wt0⟩:=aic H enc W f0 _ _ hf0;obtain rfl:u0= .slice b0 n0 c0:=by grind [Value.cells]
 have hbk:=bound hk;have ht0:Wt.wt x0<=Rows.uptoBulk d0:=wt0;have hw:Wt.wt x0<=1048576:=by
  simp only[gn,Rows.uptoBulkAll] at hbk ht0;omega
 obtain⟨k1,k2⟩:=amS (l:=x0) (B:=1048576) zQ (au _);refine(Pr (X:=bK W) r0' k1 zQ W (Kp.refl _ _)).mono λe W' ⟨v,he,wT,hq⟩=>?_;subst he;subst hq;exact⟨_,rfl,aim Y8 Tryz.underlying4 rfl rfl kQ ⟨rfl,rfl,rfl⟩ hW' (by have h9:=hA0;simp only[gn] at h9⊢;exact h9) wT⟩
theorem lifted (os:Os) (started:os.Started) (H:Type) (enc:TypeId×Value->H) (F:Stop.Interp):
  ReturnsInHanded {} Tryz.checked os 7 .any ((Rows.OpenSpec.upto Rows.coordLivesSpec).pre6 enc pg Tryz.f7 Rows.coordLivesUptoRow.domain false) (((Rows.OpenSpec.upto Rows.coordLivesSpec).at F).post enc pg Tryz.f7 false true false false):=by
 refine returnsInHanded_of_cond (C:=Tryz.checked) (s:=Rows.OpenSpec.upto Rows.coordLivesSpec) (k:=Rows.uptoSmall) rfl ain started kQ Tryz.func7
  (OpenSpec.witness (enc:=enc) (C:=Tryz.checked) (s:=Rows.OpenSpec.upto Rows.coordLivesSpec) (k:=Rows.uptoSmall) rfl false ⟨#[],#[.slice none 0 0],[]⟩ 8 kQ (by rfl) kQ
   (x:=([.nil],[],[])) kQ rfl (by rfl)) ?_
 intro W base args ds gs before Y7 hW _ hk _;exact ail H enc W base args ds gs before Y7 hW hk
theorem aoW:((Rows.coordLivesUptoRow).unfollowed==pg.unfollowed 7)=true:=by kernel_rfl
theorem aoX:((Rows.coordLivesUptoRow).recurses==pg.recurses 7)=true:=by kernel_rfl
theorem af3:((Rows.coordLivesUptoRow).inPlace==pg.inPlace 7)=true:=by kernel_rfl
theorem akU:((Rows.coordLivesUptoRow).named==pg.varsNamed 7)=true:=by kernel_rfl
theorem abb:mapsRowed pg=true:=by kernel_rfl
theorem akV:(pg.stops==[])=true:=by kernel_rfl
theorem akW:(pg.stopKnobs==[])=true:=by kernel_rfl
theorem akX:pg.stopsHeard=true:=by kernel_rfl
theorem aoY:pg.mayEnter=true:=by kernel_rfl
theorem am2:((Rows.coordLivesUptoRow).plainKeys==pg.plainKeys)=true:=by kernel_rfl
theorem aio:((Rows.coordLivesUptoRow).lifted==pg.liftsFinal)=true:=by kernel_rfl
theorem am3:(pg.make==some (Rows.coordLivesUptoRow).make)=true:=by kernel_rfl
theorem am4:joinedFacts pg 7 Tryz.f7 (Rows.OpenSpec.upto Rows.coordLivesSpec).bare Rows.coordLivesUptoRow=true:=by
 unfold joinedFacts;simp only[Bool.and_eq_true]
 and_intros<;>first|with_reducible exact Y8|with_reducible exact aoW|with_reducible exact aoX|with_reducible exact af3|with_reducible exact akU|with_reducible exact abb|with_reducible exact akV|with_reducible exact akW|with_reducible exact akX|with_reducible exact aoY|with_reducible exact am2|with_reducible exact aio|with_reducible exact am3|kernel_rfl
theorem proved:Rows.CoordLivesUptoSaid:=
 OpenClaim.holds_of_cond 7 Tryz.f7 rfl rfl rfl rfl rfl rfl rfl ⟨rfl,rfl,rfl,rfl,rfl⟩ rfl rfl rfl rfl rfl kQ Tryz.func7 am4
  (of_decide_eq_true kQ) (by unfold Func.isWrapper;first|(rw[if_pos (by decide+kernel)];kernel_rfl)|(rw[if_neg (by decide+kernel)];exact⟨rfl,rfl⟩))
  (λos started H enc _ F=>lifted os started H enc F)
#print axioms proved
end coordLives
end Go.Proofs.YtgfijddlkhkopaaGreat