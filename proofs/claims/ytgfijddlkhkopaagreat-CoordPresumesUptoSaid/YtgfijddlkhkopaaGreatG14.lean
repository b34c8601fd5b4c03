/-
 racelaw17.CoordPresumes returns true, whatever it is called with, where what it reads is of bulk at most 1048576; the input reads as it did.
-/
import Derived.Test.YtgfijddlkhkopaaGreatG13
set_option linter.all false
open Nat renaming le_trans → ad, zero_le → aq, le_refl → au, le_succ → cZ, le_add_right → j7, lt_of_lt_of_le → aw, le_of_not_lt → BV
open List renaming length_map → af, map_append → az, mem_of_getElem? → ax, length_append → aa, append_nil → dT, map_cons → aZ, length_singleton → bH, mem_singleton → av, map_map → bw, getElem?_map → cK, length → bf, take_add_one → cn, take_append_drop → eo, length_take → aD, take_length → lG, map_congr_left → dp, nodup_append → kW, prefix_refl → vQ, map_take → kA, append_assoc → ak, length_cons → aM, length_nil → bF, mem_append_left → bz, nodup_cons → Co, length_pos_of_mem → wD, getElem?_eq_getElem → aS, prefix_append → zX, mem_of_mem_take → dc
open Int renaming le_refl → gP
open Go.Value renaming tuple → dh
open Classical renaming byContradiction → dO
open Prod renaming fst → BW
open Bool renaming not_true → zv, not_false → yq, and_eq_true → aC
open List.cons renaming injEq → oR
namespace Go.Proofs.YtgfijddlkhkopaaGreat
open Go.Proofs.Tryz renaming prog → pg
open Go.aJ
set_option maxRecDepth 100000
set_option maxHeartbeats 4000000
attribute [local irreducible] un jn jg iN ld1 tW st1 mG lN pB sH pT J6 Fc gR ru aX lW lP eW eV eU eC eF gE np fin ix cj eP vS OA J7 J9 Ka Kb Kc OB OC Kd OD Gz GA Ke Kf Kg OE OF Kh
theorem agy {l:List (List Nat)} (h: ∀p∈l,xt p):xt (flat l):=λx hx=>by
 obtain⟨y,hy,hx⟩:=List.mem_flatten.1 hx;obtain⟨z,hz,rfl⟩:=List.mem_map.1 hy;exact UW (h z hz) x hx
theorem pd.arC {dir:ByteArray} {pre:List dN} {s:dN} {lF:List Nat} {sf:Nat} {m:DM} (h:pd dir pre s lF sf m) (hg:Good (pre++[s])) (ht:xt lF): ∀n,xt (m.bytes n):=λn=>by
 cases hq:m.get n with
 |none=>unfold DM.bytes;rw[hq];intro x hx;cases hx
 |some y=>
  have hm:=h.ks.mem_iff.1 (DM.get_some.1 (by rw[hq];rfl));obtain⟨t,xW,rfl⟩:=List.mem_map.1 hm;have hb:xt (flat t.aY):=agy λp hp=>((hg.ok t xW).pl p hp).2;rcases List.mem_append.1 xW with xW|xW
  ·rw[vN (h.body t xW)];exact hb
  ·simp only[av] at xW;subst xW;rw[vN h.last];exact uD hb ht
theorem xw.PI {k:Nat} {P:jo->Prop} {m:DM} (h:xw k P m) (cG:List Int):(∀x∈(m.mA cG).fs,x.1.size<=2^40)/\(m.mA cG).fs.length<=64/\ ∀n,xt ((m.mA cG).bytes n):=by
 obtain⟨pre,s,lF,sf,_,hg,ht,UR,hd⟩:=h.2 cG;refine⟨λx hx=>?_,?_,hd.arC hg UR⟩
 ·have hm:x.1∈(m.mA cG).ks:=List.mem_map.2 ⟨x,hx,rfl⟩;obtain⟨t,_,e⟩:=List.mem_map.1 (hd.ks.mem_iff.1 hm);rw[<-e,BM]
  decide
 ·have h1:=congrArg bf (PK m cG);rw[DM.wz,DM.wz] at h1;rw[h1];exact h.1
theorem xw.names {k:Nat} {P:jo->Prop} {m:DM} (h:xw k P m): ∀x∈m.fs,x.1.size<=2^40:=λx hx=>by
 have hm:x.1∈(m.mA []).ks:=by rw[PK];exact List.mem_map.2 ⟨x,hx,rfl⟩
 obtain⟨y,hy,e⟩:=List.mem_map.1 hm;rw[<-e];exact(h.PI []).1 y hy
inductive CS where
 |up (n:bh)
 |dn (nb:Nat) (m:DM) (P:jo->Prop)
def CS.nb:CS->Nat
 | .up n=>n.nb
 | .dn nb _ _=>nb
def CS.out:CS->Value
 | .up n=>.agg #[n.vm,n.va]
 | .dn _ _ _=>.agg #[aR,aR]
def CS.vR:CS->CS
 | .up n=>.up (eQ n)
 | .dn nb m P=>.dn nb m P
def CS.ra:CS->List (List Value)
 | .up n=>n.ra
 | .dn _ _ _=>[]
def CS.ms:CS->List cD
 | .up n=>n.ms
 | .dn _ _ _=>[]
def CS.Is (w:World) (own:Nat->Nat) (db:Nat):CS->Prop
 | .up n=>jD w own n/\n.db=db
 | .dn nb m _=>Ns w own nb db m
def CS.aeA (w:World) (own:Nat->Nat):CS->Prop
 | .up n=>BC w own n
 | .dn _ _ _=>True
def CS.Ok (k N:Nat):CS->Prop
 | .up n=>fL k N n
 | .dn _ m P=>Zs k P m
structure De (a:jo) (n:bh):Prop where
 abs:n.abs=(a.1+1,a.2)
 ey:n.c.ey=0
 al:n.al=[]
 ds:n.ds=Mp
 ms:n.ms=[]
 ra:n.ra=[]
theorem DM.aiL (m:DM) (z:Int):(m.oJ z).fs=m.fs/\(m.oJ z).dn=m.dn:=by
 unfold DM.oJ;split<;>exact⟨rfl,rfl⟩
theorem wO.oJ {L:LM} {m:DM} {k:Nat} {a:jo} (h:wO ⟨L,m⟩ k a) (z:Int):wO ⟨L,m.oJ z⟩ k a:=by
 obtain⟨pre,sg,h1,h2,h3,h4⟩:=h;obtain⟨e1,e2⟩:=m.aiL z;have eg: ∀n,(m.oJ z).get n=m.get n:=λn=>by unfold DM.get;rw[e1]
 have ek:(m.oJ z).ks=m.ks:=by unfold DM.ks;rw[e1]
 have es:(m.oJ z).sz=m.sz:=by unfold DM.sz;rw[e1]
 refine⟨pre,sg,⟨h1.bC,h1.g,⟨?_,?_,λt ht=>?_,?_,h1.d.sf⟩,?_,?_,?_,h1.d1,h1.d2,h1.r1,h1.r2⟩,h2,h3,h4⟩
 ·show(m.oJ z).ks.Nodup;rw[ek];exact h1.d.nd
 ·show(m.oJ z).ks.Perm _;rw[ek];exact h1.d.ks
 ·show(m.oJ z).get _=_;rw[eg];exact h1.d.body t ht
 ·show(m.oJ z).get _=_;rw[eg];exact h1.d.last
 ·show(m.oJ z).dn=false;rw[e2];exact h1.dn
 ·show(m.oJ z).sz<=_;rw[es];exact h1.sz
 ·show(m.oJ z).fs.length<=_;rw[e1];exact h1.fl
def fL.oJ {k N:Nat} {n:bh} (h:fL k N n) (z:Int):fL k N { n with m:=n.m.oJ z } :=
 ⟨⟨h.ok.id,h.ok.act,h.ok.ds,h.ok.ms,h.ok.vm,h.ok.va,h.ok.rm,h.ok.ra,h.ok.cl,h.ok.Yi,h.ok.mM,h.ok.pre,h.ok.cw,h.ok.byT⟩,h.bl,h.log.oJ z,h.ey,h.aN,λt b hg=>let q:=h.act t b hg;⟨q.co,q.aN,q.sq,q.bl⟩,h.abs,h.BP⟩
def AG:CS->jq->bu->CS->Prop
 | .up n,o,t,s1=>(o.kind=1/\t=il n/\ ∃n1,s1= .up n1/\Am n o.prog n1)\/(o.kind=2/\t= .zero/\((∃n1,s1= .up n1/\uf n o.m n1)\/ ∃m',s1= .dn n.nb m' (RQ n o.m)/\Jf n o.m m'))\/(o.kind=3/\t= .zero/\ ∃n1,s1= .up n1/\yT n n1)\/
   (o.kind=4/\t= .zero/\s1= .up { n with m:=n.m.oJ o.n })\/(o.kind=5/\t= .zero/\ ∃n1,s1= .up n1/\De n.abs n1)\/((o.kind<1\/5<o.kind)/\t= .zero/\s1= .up n)
 | .dn nb m P,o,t,s1=>(o.kind=5/\t= .zero/\ ∃n1 a,s1= .up n1/\P a/\Ao a/\De a n1)\/(o.kind≠5/\t= .zero/\s1= .dn nb m P)
section
variable {w w' wa w0 : World} {X X' : XS} {own aG bK : Nat -> Nat} {n n' : bh} {db : Nat} {m : DM}
theorem aeB: ∀(i:Int) (r:eY),getM i (Mo.foldl iZ [])=some r->r.id=i:=λi r h=>by
 rw[RR] at h;exact ank h
theorem _root_.Go.aJ.St.yj {vq:Value} {cG:List Int} {k N:Nat} {P:jo->Prop} {R:Ending->World->Prop} {NX:Value->World->XS->Prop} (s:St w0 bK w X own (Rz db m)) (hq:Sl w (bI own 4) 1 vq (cG.map I1)) (hc:xw k (λs=>P s/\Ao s) m) (hk:k<=190)
  (kk: ∀a w' X' aG n',Sn w0 bK w' X' aG n'->n'.db=db->P a->Ao a->De a n'->fL (k+1) N n'->NX (.tuple #[ptr n'.nb 0,I 0]) w' X'):
  eC pg R X w true 38 #[ptr db 0,vq] λ_ w X=>eC pg R X w true 37 #[] λv w X=>eC pg R X w true 36 #[ptr db 0,I 1,I 4096,v] NX:=by
 refine s.mA hq hc.names (by have:=hc.1;omega) λw1 X1 ic s1=>?_;refine cA Mr kQ s1.has ?_;rintro vl wb w2 X2 jV lD kh bA;obtain⟨nz,s3,-,-,p4⟩:=(s1.since bA).vI (N:=made wb w2) λq hq=>⟨kh q hq,s1.nw (ad lD hq.1)⟩;obtain⟨mb,l,_,hz⟩:=id (s3.get 3:Dk w2 (bI nz 3) db _);obtain⟨a,x,pre,sg,rs,⟨hP,hA⟩,hB⟩:=Go.Proofs.YtgfijddlkhkopaaGreat.yj hc zQ cG hz;obtain⟨d1,d2,d3⟩:=hc.PI cG;refine s3.call (FM (l:=Mo) s3.h s3.x (jV.mono p4).sl Tt d1 zQ d3 hB.Ch hB.log hB.sK hB.kp hB.err) kQ λv w' X' aG n' s' ⟨hv,hO⟩ _=>?_;subst hv;exact kk a w' X' aG n' s' hO.db hP hA ⟨hO.abs,hO.ey,hO.al,hO.ds.trans RR,hO.ms,hO.ra⟩ (fL.yj hB hA hO aeB zQ)
theorem kN.nb: ∀{ts:List bu} {n n1:bh},kN ts n n1->n1.nb=n.nb/\n1.db=n.db
 |[],n,n1,h=>by
  have:n1=n:=h;subst this;exact⟨rfl,rfl⟩
 |t::ts,n,n1,⟨n2,h1,h2⟩=>⟨(kN.nb h2).1.trans h1.tk.nb,(kN.nb h2).2.trans h1.tk.db⟩
theorem CI.nb: ∀{ts:List Nat} {n n1:bh},CI ts n n1->n1.nb=n.nb/\n1.db=n.db
 |[],n,n1,h=>by
  have:n1=n:=h;subst this;exact⟨rfl,rfl⟩
 |t::ts,n,n1,⟨n2,h1,h2⟩=>⟨(CI.nb h2).1.trans h1.tk.nb,(CI.nb h2).2.trans h1.tk.db⟩
theorem yT.nb {n n1:bh} (h:yT n n1):n1.nb=n.nb/\n1.db=n.db:=by
 obtain⟨ts,n2,_,h1,h2⟩:=h;exact⟨h2.nb.1.trans h1.nb.1,h2.nb.2.trans h1.nb.2⟩
def aeC (own:Nat->Nat) (wa w':World) (db:Nat) (s:CS) (o:jq) (k N:Nat) (v:Value):Prop:=
 ∃aG s1 t,BT own aG wa.heap.size/\CS.Is w' aG db s1.vR/\CS.aeA w' aG s1/\CS.Ok k N s1.vR/\v= .tuple #[ptr s1.nb 0,s1.out,t.v]/\AG s o t s1
theorem tp.out {N k:Nat} (hk:tp N k n):BC w own n:=⟨by rw[hk.vm,hk.rm];exact Sl.nil _ _ _,by rw[hk.rm,hk.ms];exact fA.nil _ _,by rw[hk.va,hk.ra];exact Sl.nil _ _ _⟩
theorem aeD {o:jq} {vk vs vw vp vr vc vh vd vo vq:Value} {k N:Nat} (h:jD w own n) (hX:rO own X) (gq:fL k N n) (ho:o.at w (bI own 4) vk vs vw vp vr vc vh vd vo vq) (ml:o.m.small) (BD:o.m.lens<=2^62) (wu:o.prog.length<=2^30) (hn:o.n<2^63) (hk:k<=180) (hN:N+o.m.seen.length<=2^20):
  Ct pg 12 #[ptr n.db 0,ptr n.nb 0,.agg (o.l vk vs vw vp vr vc vh vd vo vq).toArray] w X (gC own) λv wa w'=>aeC own wa w' n.db (.up n) o (k+1) (N+o.m.seen.length) v:=by
 intro w0 iq;have s0:=St.init h hX iq;have Zv:o.at w0 (bI own 4) vk vs vw vp vr vc vh vd vo vq:=by
  have m:=zf hX iq;exact⟨ho.m.mv m,ho.po.mv m,ho.p.mv m⟩
 clear h hX iq ho;have hcn:=gq.ey;have kE:vO n:=s0.get 12;have hs:=ai.init w0;refine FQ.1 λ_=>?_;refine gZ (Q:=λK=> ∀w X aG n',Sn w0 own w X aG n'->n'.nb=n.nb->n'.db=n.db->fL (k+1) (N+o.m.seen.length) n'->AG (.up n) o .zero (.up n')->K w X) ?_ λK hK=>?_
 ·intro w1 X1 ic n1 s1 e1 e2 h1 h2;clear hs;have hs:=s1.rf;repeat' refine ao ?_;intros
  exact s1.t.fin λwa ou=>⟨ic,.up n1,.zero,s1.e,⟨s1.h.kp s1.x ou|>λh=>by rw[h1.ok.eQ];exact h,by rw[h1.ok.eQ];exact e2⟩,h1.ok.out,by show fL _ _ (eQ n1);rw[h1.ok.eQ];exact h1,by show _=dh #[ptr n1.nb 0,.agg #[n1.vm,n1.va],_];rw[e1,h1.ok.vm,h1.ok.va],h2⟩
 ·by_cases k1:o.kind=1
  ·repeat' refine aL ?_;intros
   refine s0.call (Ly s0.h s0.x gq.ok Zv.po wu ⟨hcn.1,by omega⟩) kQ λv w1 X1 ic n' s1 q _=>?_;obtain⟨n1,⟨hC,_⟩,rfl,rfl,hO⟩:=q;have q1:=hO.om.one;have q2:=hO.oa.one;have lV:n1.nb=n.nb/\n1.db=n.db:=by obtain⟨_,_,_,_,_,_,_,_,_,rfl,_⟩:=hC;exact⟨rfl,rfl⟩
   clear hs;have hs:=s1.rf;repeat' refine ao ?_;intros
   exact s1.t.fin λwa ou=>⟨ic,.up n1,il n,s1.e,⟨s1.h.kp s1.x ou,lV.2⟩,hO.mv (zf s1.x ou),(gq.call hC zQ).up (au _) zQ (j7 _ _),by show _=dh #[ptr n1.nb 0,.agg #[n1.vm,n1.va],_];rw[lV.1],.inl ⟨k1,rfl,n1,rfl,hC⟩⟩
  by_cases k2:o.kind=2
  ·obtain⟨pre,sg,PQ,_⟩:=gq.log;repeat' refine aL ?_;intros
   refine s0.aky (Mc s0.h s0.x PQ Zv.m gq.ok hN ml BD) kQ (λv w1 X1 ic n' s1 q _=>?_) λw1 X1 ic m' s1 hF=>?_
   ·obtain⟨n1,hC,rfl,rfl,hO⟩:=q;have q1:=hO.om.one;have q2:=hO.oa.one;have lV:=hC.nb;clear hs;repeat' refine ao ?_;intros
    exact s1.t.fin λwa ou=>⟨ic,.up n1,.zero,s1.e,⟨s1.h.kp s1.x ou,lV.db⟩,hO.mv (zf s1.x ou),gq.step kE hC zQ,by show _=dh #[ptr n1.nb 0,.agg #[n1.vm,n1.va],_];rw[lV.nb],.inr (.inl ⟨k2,rfl,.inl ⟨n1,rfl,hC⟩⟩)⟩
   ·clear hs;repeat' refine ao ?_;intros
    exact s1.t.fin λwa ou=>⟨ic,.dn n.nb m' (RQ n o.m),.zero,s1.e,s1.h.kp s1.x ou,trivial,gq.apx hF zQ,rfl,.inr (.inl ⟨k2,rfl,.inr ⟨m',rfl,hF⟩⟩)⟩
  by_cases k3:o.kind=3
  ·repeat' refine aL ?_;intros
   refine s0.call (Zb s0.h s0.x gq.ok) kQ λv w1 X1 ic n' s1 q _=>?_;obtain⟨n1,hC,rfl,rfl,hO⟩:=q;have q1:=hO.om.one;have q2:=hO.oa.one;have lV:=hC.nb;clear hs;have hs:=s1.rf;repeat' refine ao ?_;intros
   exact s1.t.fin λwa ou=>⟨ic,.up n1,.zero,s1.e,⟨s1.h.kp s1.x ou,lV.2⟩,hO.mv (zf s1.x ou),(gq.tick kE hC zQ).up (au _) zQ (j7 _ _),by show _=dh #[ptr n1.nb 0,.agg #[n1.vm,n1.va],_];rw[lV.1],.inr (.inr (.inl ⟨k3,rfl,n1,rfl,hC⟩))⟩
  by_cases k4:o.kind=4
  ·repeat' refine aL ?_;intros
   refine s0.call (abJ (z:=o.n) s0.h s0.x hn) kQ λv w1 X1 ic n' s1 ⟨_,q⟩ _=>?_;subst q;exact hK _ _ ic _ s1 rfl rfl ((gq.oJ o.n).up (cZ _) zQ (j7 _ _)) (.inr (.inr (.inr (.inl ⟨k4,rfl,rfl⟩))))
  by_cases k5:o.kind=5
  ·repeat' refine aL ?_;intros
   refine s0.kst.yj (N:=N+o.m.seen.length) Zv.p gq.crs zQ λa w1 X1 ic n' s1 e1 ha haa hB sO=>?_;subst ha;clear hs;have hs:=s1.rf;repeat' refine aL ?_;intros
   exact s1.t.fin λwa ou=>⟨ic,.up n',.zero,s1.e,⟨s1.h.kp s1.x ou|>λh=>by rw[sO.ok.eQ];exact h,by rw[sO.ok.eQ];exact e1⟩,sO.ok.out,by show fL _ _ (eQ n');rw[sO.ok.eQ];exact sO.up (au _) zQ (au _),by show _=dh #[ptr n'.nb 0,.agg #[n'.vm,n'.va],_];rw[sO.ok.vm,sO.ok.va],.inr (.inr (.inr (.inr (.inl ⟨k5,rfl,n',rfl,hB⟩))))⟩
  ·repeat' refine aL ?_;intros
   all_goals exact hK _ _ own n s0 rfl rfl (gq.up (cZ _) zQ (j7 _ _)) (.inr (.inr (.inr (.inr (.inr ⟨by omega,rfl,rfl⟩)))))
theorem aeE {o:jq} {nb:Nat} {P:jo->Prop} {vk vs vw vp vr vc vh vd vo vq:Value} {k N:Nat} (h:Ns w own nb db m) (hX:rO own X) (jQ:Zs k P m) (ho:o.at w (bI own 4) vk vs vw vp vr vc vh vd vo vq) (hn:o.n<2^63) (hk:k<=180):
  Ct pg 12 #[ptr db 0,ptr nb 0,.agg (o.l vk vs vw vp vr vc vh vd vo vq).toArray] w X (gC own) λv wa w'=>aeC own wa w' db (.dn nb m P) o (k+1) (N+o.m.seen.length) v:=by
 intro w0 iq;have s0:=St.init h hX iq;have Zv:o.at w0 (bI own 4) vk vs vw vp vr vc vh vd vo vq:=by
  have m:=zf hX iq;exact⟨ho.m.mv m,ho.po.mv m,ho.p.mv m⟩
 clear h hX iq ho;have Lk:Hu w0 (bN w0) nb:=s0.Ay 1;have hs:=ai.init w0;have xU: ∀{w1 X1 ic},St w0 own w1 X1 ic (U2 nb db m)->o.kind≠5->aJ.fin (vi (gC own) w0 λv w'=>aeC own w0 w' db (.dn nb m P) o (k+1) (N+o.m.seen.length) v) X1 w1 (.tuple #[ptr nb 0,.agg #[aR,aR],.agg #[I 0,I 0,I 0]]):=λs1 DA=>
  s1.t.fin λwa ou=>⟨_,.dn nb m P,.zero,s1.e,s1.h.kp s1.x ou,trivial,jQ.up (cZ _),rfl,.inr ⟨DA,rfl,rfl⟩⟩
 refine FQ.1 λ_=>?_;refine gZ (Q:=λK=> ∀w X ic,St w0 own w X ic (U2 nb db m)->o.kind≠5->K w X) ?_ λK hK=>?_
 ·intro w1 X1 ic s1 DA;clear hs;have hs:=s1.rf;repeat' refine ao ?_;intros
  exact xU s1 DA
 ·by_cases k1:o.kind=1
  ·repeat' refine aL ?_;intros
   refine dZ (V7 Lk Zv.po.one) kQ hs.has λw1 X1 ay=>?_;have s1:=s0.since ay;clear hs ay;have hs:=s1.rf;repeat' refine ao ?_;intros
   exact xU s1 zQ
  by_cases k2:o.kind=2
  ·repeat' refine aL ?_;intros
   refine dZ (V8 Lk Zv.m) kQ hs.has λw1 X1 ay=>?_;have s1:=s0.since ay;clear hs ay;have hs:=s1.rf;repeat' refine ao ?_;intros
   exact xU s1 zQ
  by_cases k3:o.kind=3
  ·repeat' refine aL ?_;intros
   refine dZ (V9 Lk) kQ hs.has λw1 X1 ay=>?_;have s1:=s0.since ay;clear hs ay;have hs:=s1.rf;repeat' refine ao ?_;intros
   exact xU s1 zQ
  by_cases k4:o.kind=4
  ·repeat' refine aL ?_;intros
   refine s0.call (abK (z:=o.n) s0.h s0.x hn jQ.1) kQ λv w1 X1 ic m' s1 ⟨_,q⟩ _=>?_;subst q;exact hK _ _ _ s1 zQ
  by_cases k5:o.kind=5
  ·repeat' refine aL ?_;intros
   refine s0.arA.yj (N:=N+o.m.seen.length) Zv.p jQ.2 zQ λa w1 X1 ic n' s1 e1 ha haa hB sO=>?_;clear hs;have hs:=s1.rf;repeat' refine aL ?_;intros
   exact s1.t.fin λwa ou=>⟨ic,.up n',.zero,s1.e,⟨s1.h.kp s1.x ou|>λh=>by rw[sO.ok.eQ];exact h,by rw[sO.ok.eQ];exact e1⟩,sO.ok.out,by show fL _ _ (eQ n');rw[sO.ok.eQ];exact sO.up (au _) zQ (au _),by show _=dh #[ptr n'.nb 0,.agg #[n'.vm,n'.va],_];rw[sO.ok.vm,sO.ok.va],.inl ⟨k5,rfl,n',a,rfl,ha,haa,hB⟩⟩
  ·repeat' refine aL ?_;intros
   all_goals exact hK _ _ _ s0 k5
theorem agz {s:CS} {o:jq} {vk vs vw vp vr vc vh vd vo vq:Value} {k N:Nat} (h:CS.Is w own db s) (hX:rO own X) (gq:CS.Ok k N s) (ho:o.at w (bI own 4) vk vs vw vp vr vc vh vd vo vq) (ml:o.m.small) (BD:o.m.lens<=2^62) (wu:o.prog.length<=2^30) (hn:o.n<2^63) (hk:k<=180) (hN:N+o.m.seen.length<=2^20):
  Ct pg 12 #[ptr db 0,ptr s.nb 0,.agg (o.l vk vs vw vp vr vc vh vd vo vq).toArray] w X (gC own) λv wa w'=>aeC own wa w' db s o (k+1) (N+o.m.seen.length) v:=by
 cases s with
 |up n=>
  obtain⟨h1,rfl⟩:=h;exact aeD h1 hX gq ho ml BD wu hn hk hN
 |dn nb m P=>exact aeE h hX gq ho hn hk
end
structure jX where
 e:Int
 t:bu
 st:bX
 on:Bool
 vs:Value
abbrev jX.l (a:jX):List Value:=El a.e a.t a.st a.on a.vs
def AH (t:bu) (sa:List jX):Nat:=(sa.filter λa=>decide (a.t=t)).length
theorem aiM (t:bu):AH t []=0:=rfl
theorem Zw (t:bu) (a b:List jX):AH t (a++b)=AH t a+AH t b:=by grind [AH]
theorem PS (t:bu) (a:jX):AH t [a]=if a.t=t then 1 else 0:=by grind [AH]
def j8 (n n1:bh) (sa:List jX):Prop:=n1.ra=n.ra++sa.map jX.l/\ ∀a∈sa,aJ.one a.vs=true
def Acc (d:Int) (n n1:bh) (sa:List jX) (t:bu):Prop:=
 (∃b,getM t n.al=some b/\((getM t n1.al=some b/\(n.A b).x.lp+d<=(n1.A b).x.lp/\AH t sa=0)\/(getM t n1.al=none/\AH t sa=1)))\/(getM t n.al=none/\getM t n1.al=none/\AH t sa=0)
section
variable {n n1 n2 n' : bh} {k k' N N' : Nat}
theorem Acc.del {d:Int} {a:jX} {t0:bu} {b0:Nat} (ha:a.t=t0) (hb:getM t0 n.al=some b0) (h1:n1.al=ji t0 n.al) (h2: ∀t b,getM t n.al=some b->t≠t0->(n.A b).x.lp+d<=(n1.A b).x.lp) (t:bu):Acc d n n1 [a] t:=by
 unfold Acc;rw[PS,ha,h1];by_cases e:t=t0
 ·subst e;exact .inl ⟨b0,hb,.inr ⟨uG,if_pos rfl⟩⟩
 ·rw[FJ e,if_neg (λe'=>e e'.symm)];cases hg:getM t n.al with
  |none=>grind
  |some b=>exact .inl ⟨b,rfl,.inl ⟨rfl,h2 t b hg e,rfl⟩⟩
theorem Acc.none {d:Int} (h1:n1.al=n.al) (h2: ∀t b,getM t n.al=some b->(n.A b).x.lp+d<=(n1.A b).x.lp) (t:bu):Acc d n n1 [] t:=by
 unfold Acc;rw[h1,aiM];cases hg:getM t n.al with
 |none=>grind
 |some b=>exact .inl ⟨b,rfl,.inl ⟨rfl,h2 t b hg,rfl⟩⟩
theorem Acc.trans {d e:Int} {sa bs:List jX} {t:bu} (h:Acc d n n1 sa t) (q:Acc e n1 n2 bs t):Acc (d+e) n n2 (sa++bs) t:=by
 unfold Acc at*;rw[Zw];rcases h with⟨b,hb,⟨h1,h2,h3⟩|⟨h1,h3⟩⟩|⟨hb,h1,h3⟩
 ·refine .inl ⟨b,hb,?_⟩
  grind
 ·simp_all
 simp_all
theorem j8.trans {sa bs:List jX} (h:j8 n n1 sa) (q:j8 n1 n2 bs):j8 n n2 (sa++bs):=
 ⟨by rw[q.1,h.1,az,ak],λa ha=>(List.mem_append.1 ha).elim (h.2 a) (q.2 a)⟩
theorem j8.no (h:n1.ra=n.ra):j8 n n1 []:=⟨by rw[h];simp,λa ha=>absurd ha sQ⟩
theorem j8.one {a:jX} (h:n1.ra=n.ra++[a.l]) (ho:aJ.one a.vs=true):j8 n n1 [a]:=⟨by rw[h];rfl,λb hb=>by grind⟩
theorem An.acc {m:cD} {pp:Bool} (h:An n m pp n1): ∃sa,j8 n n1 sa/\ ∀t,Acc 0 n n1 sa t:=by
 obtain⟨b,fD,lZ,jh,lr,hb,hp,hc,rfl⟩:=h;exact⟨[⟨m.code,m.aH,.zero,false,aR⟩],j8.one rfl rfl,Acc.del rfl hb rfl λt b _ _=>by grind⟩
theorem PT {fD:bX} : ∃sa,j8 n { n with ck:=fD } sa/\ ∀t,Acc 0 n { n with ck:=fD } sa t:=
 ⟨[],j8.no rfl,Acc.none rfl λt b _=>by grind⟩
theorem I2.acc {m:cD} (kE:vO n) (h:I2 n m n1): ∃sa,j8 n n1 sa/\ ∀t,Acc 0 n n1 sa t:=by
 rcases h with⟨fD,rfl⟩|hg|⟨b,i,y,fD,xk,iR,kM,n2,hw,rfl,hc⟩
 ·exact PT
 ·exact hg.acc
 ·obtain⟨N1,hN1⟩: ∃N1:bh,N1= { dH n b (xj (n.A b) i m xk iR kM)with ck:=fD } :=⟨_,rfl⟩;rw[<-hN1] at hc;have hA: ∀b',(N1.A b').x.lp=(n.A b').x.lp:=λb'=>by
   rw[hN1]
   show(if b'=b then xj (n.A b) i m xk iR kM else n.A b').x.lp=_
   grind [xj]
  have hxt:(N1.A b).x.aH=m.aH:=by rw[hN1];show((dH n b _).A b).x.aH=_;rw[jj];exact kE _ _ hw.g
  have e1:N1.al=n.al/\N1.ra=n.ra:=by rw[hN1];exact⟨rfl,rfl⟩
  rcases hc with⟨_,rfl⟩|⟨_,n3,hr,rfl⟩
  ·exact⟨[],j8.no e1.2,Acc.none e1.1 λt b' _=>by rw[hA];omega⟩
  ·rcases hr with⟨jh,a,ha,_,_,_,rfl,_⟩|⟨ids,pm,vq,vw2,rw2,bU,nN,zg,nC,_,_,_,rfl,_⟩
   ·rcases ha with⟨e,_,rfl⟩|⟨vs,hv,rfl⟩
    ·exact⟨[⟨e,(N1.A b).x.aH,.zero,false,aR⟩],j8.one (by rw[<-e1.2]) rfl,Acc.del hxt hw.g (by show ji _ N1.al=_;rw[hxt,e1.1]) λt b' _ _=>by show _<=(N1.A b').x.lp;rw[hA];omega⟩
    ·exact⟨[⟨0,(N1.A b).x.aH,(N1.A b).x.st,true,vs⟩],j8.one (by rw[<-e1.2]) hv,Acc.del hxt hw.g (by show ji _ N1.al=_;rw[hxt,e1.1]) λt b' _ _=>by show _<=(N1.A b').x.lp;rw[hA];omega⟩
   ·refine⟨[],j8.no e1.2,Acc.none e1.1 λt b' _=>?_⟩
    show(n.A b').x.lp+0<=(if b'=b then _ else N1.A b').x.lp
    have:=hA b'
    grind
theorem Nu.acc {m:cD} (h:Nu n m n1): ∃sa,j8 n n1 sa/\ ∀t,Acc 0 n n1 sa t:=by
 rcases h with⟨fD,rfl,_⟩|hg|⟨b,i,y,fD,iR,kM,n2,hw,rfl,hc⟩
 ·exact PT
 ·exact hg.acc
 ·have Me: ∀b',(n.A b').x.lp+0<=((dH n b (qV (n.A b) i m iR kM)).A b').x.lp:=λb'=>by
   show _<=(if b'=b then qV (n.A b) i m iR kM else n.A b').x.lp
   grind [qV]
  rcases hc with⟨_,rfl⟩|⟨_,⟨_,_,jh,lZ,lr,rfl,_⟩|⟨_,bx,BO,vp,v2,jh,vs,hv,_,lZ,lr,rfl,_⟩⟩
  ·exact⟨[],j8.no rfl,Acc.none rfl λt b' _=>Me b'⟩
  ·exact⟨[⟨_,m.aH,.zero,false,aR⟩],j8.one rfl rfl,Acc.del rfl hw.g rfl λt b' _ _=>Me b'⟩
  ·exact⟨[⟨0,m.aH,_,false,vs⟩],j8.one rfl hv,Acc.del rfl hw.g rfl λt b' _ _=>Me b'⟩
theorem uf.acc {m:cD} (kE:vO n) (h:uf n m n1): ∃sa,j8 n n1 sa/\ ∀t,Acc 0 n n1 sa t:=by
 have same: ∃sa,j8 n n sa/\ ∀t,Acc 0 n n sa t:=PT (fD:=n.ck);rcases h with⟨_,rfl⟩|⟨_,_,⟨_,h⟩|⟨_,h⟩|⟨_,h⟩|⟨_,h⟩|⟨_,_,_,_,rfl⟩⟩
 ·omega
 ·exact h.acc kE
 ·exact h.acc
 ·rcases h with rfl|⟨_,_,_,_,⟨_,rfl⟩|⟨_,_,rfl⟩⟩
  ·omega
  all_goals exact⟨[],j8.no rfl,Acc.none rfl λt b _=>by show(n.A b).x.lp+0<=(n.A b).x.lp;omega⟩
 ·rcases h with⟨_,rfl⟩|⟨_,_,_,rfl,_⟩
  ·omega
  assumption
 omega
theorem tu.acc {t0:bu} (h:tu n t0 n1): ∃sa,j8 n n1 sa/\ ∀t,Acc (if t=t0 then 1 else 0) n n1 sa t:=by
 obtain⟨b0,uq,_,hc⟩:=h;have Me: ∀b',(n.A b').x.lp+(if b'=b0 then 1 else 0)=((dH n b0 (pY (n.A b0))).A b').x.lp:=λb'=>by
  show _=(if b'=b0 then pY (n.A b0)else n.A b').x.lp
  grind [pY]
 have hz: ∀b',(n.A b').x.lp<=((dH n b0 (pY (n.A b0))).A b').x.lp:=λb'=>by rw[<-Me];split<;>omega
 rcases hc with⟨_,_,_,_,rfl,_⟩|⟨_,_,_,rfl,_⟩
 ·refine⟨[⟨25,t0,.zero,false,aR⟩],j8.one rfl rfl,λt=>?_⟩;by_cases e:t=t0
  ·subst e;exact .inl ⟨b0,uq,.inr ⟨uG,by rw[PS,if_pos rfl]⟩⟩
  ·rw[if_neg e];exact Acc.del rfl uq rfl (λt b _ _=>by have:=hz b;show _<=((dH n b0 (pY (n.A b0))).A b).x.lp;omega) t
 ·refine⟨[],j8.no rfl,λt=>?_⟩;by_cases e:t=t0
  ·subst e;exact .inl ⟨b0,uq,.inl ⟨uq,by rw[if_pos rfl,<-Me,if_pos rfl];omega,rfl⟩⟩
  ·rw[if_neg e];exact Acc.none (by rfl) (λt b _=>by have:=hz b;show _<=((dH n b0 (pY (n.A b0))).A b).x.lp;omega) t
theorem Acc.less {d e:Int} {sa:List jX} {t:bu} (h:Acc d n n1 sa t) (hd:e<=d):Acc e n n1 sa t:=by
 rcases h with⟨b,hb,⟨h1,h2,h3⟩|h⟩|h
 ·exact .inl ⟨b,hb,.inl ⟨h1,by omega,h3⟩⟩
 ·exact .inl ⟨b,hb,.inr h⟩
 ·exact .inr h
theorem kN.acc: ∀{ts:List bu} {n n1:bh},kN ts n n1-> ∃sa,j8 n n1 sa/\ ∀t,Acc (if t∈ts then 1 else 0) n n1 sa t
 |[],n,n1,h=>by
  have:n1=n:=h;subst this;exact⟨[],j8.no rfl,λt=>by rw[if_neg sQ];grind [Acc.none]⟩
 |t0::ts,n,n1,⟨n2,h1,h2⟩=>by
  obtain⟨a,a1,a2⟩:=h1.acc;obtain⟨b,b1,b2⟩:=kN.acc h2;refine⟨a++b,a1.trans b1,λt=>((a2 t).trans (b2 t)).less ?_⟩
  grind
theorem yT.acc (h:yT n n1): ∃sa,j8 n n1 sa/\ ∀t,Acc 1 n n1 sa t:=by
 obtain⟨ts,n2,hp,h1,h2⟩:=h;obtain⟨sa,a1,a2⟩:=h1.acc;obtain⟨_,_,b3,b4,b5⟩:=h2.calm;refine⟨sa,⟨b5.trans a1.1,a1.2⟩,λt=>?_⟩;have q:=a2 t;unfold Acc at q⊢;rw[b3,b4];rcases q with⟨b,hb,q⟩|q
 ·have:t∈ts:=hp.mem_iff.2 (List.mem_map.2 ⟨(t,b),gL hb,rfl⟩);simp_all
 grind
theorem LD.ali {n:Nat} {x:LD} (h:GL n x) (r:Rec):(x.iI r.fF.toNat (gd r)).2.2≠12/\GL (n+2) (x.iI r.fF.toNat (gd r)).1:=by
 rcases r.yg with e|e|e|e<;>rw[e]
 ·exact h.iI _
 all_goals exact⟨by simp[LD.iI],h.up zQ⟩
theorem fL.gl (h:fL k N n) (hm:mH n.m) (hk:k<=250):GL 300 ⟨n.L,n.m⟩:=by
 obtain⟨pre,sg,h1,h2,h3,h4⟩:=h.log;have hB:=h1.aei;have hN:=h1.aej;have hs:n.L.bC=pre++[sg]:=h1.bC;refine⟨hm,by grind,h1.d1,h1.d2,λt ht=>⟨?_,?_⟩,?_,by omega⟩
 ·have ht:t∈pre++[sg]:=hs▸ht;have:=gD.top h1.g.lk h2.fst t ht;have:=h2.lens.2;omega
 ·grind
 omega
def fL.agA (h:fL k N n) (hm:mH n.m) (hk:k<=250) (r:Rec):(jE n r).2.2≠12/\mH (jE n r).1.m:=
 let q:=LD.ali (h.gl hm hk) r
 ⟨q.1,q.2.ok⟩
theorem fL.stays {m:cD} {m':DM} (h:fL k N n) (hm:mH n.m) (hk:k<=250) (hs:Jf n m m'):False:=by
 obtain⟨_,_,⟨_,b,i,y,hw,hl,yb,_⟩|⟨_,b,i,hD,hl,yb,_⟩⟩:=hs
 ·exact(h.agA hm hk _).1 yb
 ·exact(h.agA hm hk _).1 yb
end
section
variable {w w' wa w0 : World} {X X' G K K' F T T' : XS} {own aG bK : Nat -> Nat} {n n' : bh} {b : Nat} {t0 : bu} {db : Nat} {m : DM} {s s' : CS}
def _root_.Go.aJ.Hs.RU {F:Nat->pX} (h:Hs F w own) (e: ∀k,own k≠0->aG k=own k) (hl: ∀k,aG k≠0->k<w.heap.size):Hs F w aG:=
 ⟨λc h0 h4=>(F c).mv (h.gJ c h0 h4) (Mv.sub λk (hk:own k=4)=>(e k zQ).trans hk) (Mv.sub λk (hk:own k=c)=>(e k zQ).trans hk),hl⟩
theorem CS.Is.mv (h:CS.Is w own db s) (hb: ∀k,own k≠0->w'.heap[k]? =w.heap[k]?) (hz:w.heap.size<=w'.heap.size):CS.Is w' own db s:=by
 cases s with
 |up n=>exact⟨h.1.mv hb hz,h.2⟩
 |dn nb m P=>exact Hs.mv h hb hz
theorem CS.Is.lt (h:CS.Is w own db s): ∀k,own k≠0->k<w.heap.size:=by
 cases s with
 |up n=>exact h.1.lt
 |dn nb m P=>exact Hs.lt h
theorem CS.Is.RU (h:CS.Is w own db s) (e: ∀k,own k≠0->aG k=own k) (hl: ∀k,aG k≠0->k<w.heap.size):CS.Is w aG db s:=by
 cases s with
 |up n=>exact⟨h.1.RU e hl,h.2⟩
 |dn nb m P=>exact Hs.RU h e hl
structure LS (w0:World) (bK:Nat->Nat) (T:XS) (w:World) (X:XS) (own:Nat->Nat) (db:Nat) (s:CS):Prop where
 t:Ft w0 (gC bK) w X (λk=>gC own k\/T k)
 h:CS.Is w own db s
 x: ∀k,own k≠0->X k
 e:BT bK own w0.heap.size
 tz: ∀k,T k->own k=0
theorem LS.has (s':LS w0 bK T w X own db s): ∀k,X k->k<w.heap.size:=s'.t.s.has
def LS.rf (s':LS w0 bK T w X own db s):ai X w X w:=ai.fK s'.has
def LS.since (q:LS w0 bK T w X own db s) (hs:ai X w X' w'):LS w0 bK T w' X' own db s:=
 ⟨q.t.since hs,q.h.mv (λk hk=>hs.kp.block k (q.x k hk)) hs.kp.size,λk hk=>hs.sub k (q.x k hk),q.e,q.tz⟩
theorem LS.call {P:Program} {f:FuncId} {args:Array Value} {R:Ending->World->Prop} {N:Value->World->XS->Prop} {Q:Value->World->(Nat->Nat)->CS->Prop} (q:LS w0 bK T w X own db s) (h:Ct P f args w X (gC own) λv wa w'=> ∃aG s1,BT own aG wa.heap.size/\CS.Is w' aG db s1/\Q v w' aG s1) (hf:enters P f=true)
  (k: ∀v w' X' aG s1,LS w0 bK T w' X' aG db s1->Q v w' aG s1->Mv T w T w'->Mv (bI own 4) w (bI aG 4) w'->N v w' X'):eC P R X w true f args N:=
 q.t.call h hf (λ_ h=>.inl h) λv wa w' X' hq hle gu hT c=>by
  obtain⟨aG,s1,e,h',hQ⟩:=hq;have hz:=q.t.s.kp.size;have hx: ∀k,aG k≠0->X' k:=λk hk=>by
   by_cases Bz:k<wa.heap.size
   ·exact c.sub k (q.x k λe0=>hk ((e k Bz).1 e0))
   ·exact gu k ⟨by omega,h'.lt k hk⟩
  have hTX: ∀k,T k->X k:=λk hk=>q.t.bo k (.inr hk);have Mb: ∀k,T k->aG k=0:=λk hk=>(e k (aw (q.has k (hTX k hk)) hle)).1 (q.tz k hk);refine k v w' X' aG s1 ⟨hT.more λk hk=>?_,h',hx,λk hk=>?_,Mb⟩ hQ (λk hk _=>⟨hk,c.block k (hTX k hk) λh=>h.1 (q.tz k hk)⟩) λk (hk:own k=4) _=>⟨(e k (aw (q.has k (q.x k zQ)) hle)).2 hk,c.block k (q.x k zQ) λh=>h.2 hk⟩
  ·rcases hk with hk|hk
   ·by_cases Bz:k<wa.heap.size
    ·exact .inl (.inl (.inl ⟨λe0=>hk.1 ((e k Bz).1 e0),λe0=>hk.2 ((e k Bz).2 e0)⟩))
    ·exact .inr ⟨hx k hk.1,by omega⟩
   ·exact .inl (.inl (.inr hk))
  ·have h1:=q.e k hk;have h2:=e k zQ;exact⟨λe0=>h2.1 (h1.1 e0),λe0=>h2.2 (h1.2 e0)⟩
theorem LS.vI (q:LS w0 bK T w X own db s) (hK: ∀k,K k->X k/\w0.heap.size<=k/\own k=0/\ ¬T k): ∃aG,LS w0 bK T w X aG db s/\(∀k,K k->aG k=4)/\ ∀k,own k=4->aG k=4:=by
 classical
 have c0: ∀k,own k≠0->(if K k then 4 else own k)=own k:=λk hk=>if_neg λe=>hk (hK k e).2.2.1;have hx: ∀k,(if K k then 4 else own k)≠0->X k:=λk hk=>by
  by_cases e:K k
  ·exact(hK k e).1
  ·rw[if_neg e] at hk;exact q.x k hk
 refine⟨λk=>if K k then 4 else own k,⟨q.t.more λk hk=>.inl ?_,q.h.RU c0 λk hk=>q.has k (hx k hk),hx,λk hk=>?_,λk hk=>?_⟩,λk hk=>if_pos hk,λk hk=>(c0 k zQ).trans hk⟩
 ·rcases hk with hk|hk
  ·have hk:(if K k then 4 else own k)≠0/\(if K k then 4 else own k)≠4:=hk;by_cases e:K k
   ·rw[if_pos e] at hk;exact absurd rfl hk.2
   ·rw[if_neg e] at hk;exact .inl hk
  ·exact .inr hk
 ·have h1:=q.e k hk;have: ¬K k:=λe=>by have:=(hK k e).2.1;omega
  exact⟨λe=>(if_neg this).trans (h1.1 e),λe=>(if_neg this).trans (h1.2 e)⟩
 ·exact(if_neg λe=>(hK k e).2.2.2 hk).trans (q.tz k hk)
theorem LS.ann (q:LS w0 bK T w X own db s) (c:ee T X w X' w') (hT: ∀k,T' k->T k\/(X' k/\w.heap.size<=k)):LS w0 bK T' w' X' own db s:=by
 refine⟨q.t.ea c (λk hk=>.inr hk) λk hk=>?_,q.h.mv (λk hk=>c.block k (q.x k hk) λe=>hk (q.tz k e)) c.size,λk hk=>c.sub k (q.x k hk),q.e,λk hk=>?_⟩
 ·rcases hk with hk|hk
  ·exact .inl (.inl hk)
  ·exact(hT k hk).imp .inr id
 ·rcases hT k hk with e|e
  ·exact q.tz k e
  ·exact dO λe'=>by have:=q.h.lt k e';omega
def ano {P:Program} {f:FuncId} {args:Array Value} {F F':XS} {Q:Value->World->World->Prop} (h:Ct P f args w X F Q) (hF: ∀k,F k->F' k):Ct P f args w X F' Q:=λwa hk=>(h wa hk).mono λ_ _ ⟨v,he,hf,hq⟩=>⟨v,he,hf.mono hF,hq⟩
theorem acN {R:Ending->World->Prop} {N:Value->World->XS->Prop} (hk:Kp X w w0) (k: ∀db w1 X1 ic,St w0 (λ_=>0) w1 X1 ic (Rz db ⟨[],0,0,false⟩)->N (ptr db 0) w1 X1):eC pg R (bN w0) w0 true 35 #[] N:=by
 have s:St w0 (λ_=>0) w0 (bN w0) (λ_=>0) (λ_=>RA):=St.init (w:=w) (X:=X) ⟨λ_ _ _=>trivial,λk h=>absurd rfl h⟩ (λk h=>absurd rfl h) hk;refine cA aeF kQ s.has ?_;rintro _ wa w1 X1 ⟨db,rfl,hD⟩ hle gu ay;obtain⟨ic,s1,-,-⟩:=(s.since ay).IS (N:=made wa w1) 3 (dkR db ⟨[],0,0,false⟩) (λk hk=>⟨gu k hk,s.nw (ad hle hk.1)⟩) λ_=>hD;exact k db w1 X1 ic (s1.to λc h0 h4 w K A h=>by rcases c with _|_|_|_|c<;>first|exact h|trivial)
theorem abL:Ct pg 11 #[] w X nX λv wa w'=> ∃aG n,(∀k,aG k≠0->made wa w' k)/\jD w' aG n/\v= .tuple #[ptr n.db 0,ptr n.nb 0]/\fL 1 0 n/\De (0,[]) n:=by
 have key:Ct pg 11 #[] w X (gC λ_=>0) λv wa w'=> ∃aG n,(∀k,aG k≠0->made wa w' k)/\jD w' aG n/\v= .tuple #[ptr n.db 0,ptr n.nb 0]/\fL 1 0 n/\De (0,[]) n:=by
  intro w0 hk;refine Ms.1 λ_=>?_;refine acN hk λdb w1 X1 ic s1=>?_;have hs:=s1.rf;repeat' refine ao ?_;intros
  refine cA Mr kQ s1.has ?_;rintro vl wb w2 X2 jV lD kh bA;obtain⟨nz,s3,-,-,p4⟩:=(s1.since bA).vI (N:=made wb w2) λq hq=>⟨kh q hq,s1.nw (ad lD hq.1)⟩;obtain⟨x,hB,_⟩:=akz;refine s3.call (FM (l:=Mo) s3.h s3.x (jV.mono p4).sl Tt (λx hx=>absurd hx sQ) sQ (λn b hb=>absurd hb (by simp[DM.bytes,DM.get,getM])) hB.Ch hB.log hB.sK hB.kp hB.err) kQ λv w' X' aG n' s' ⟨hv,hO⟩ _=>?_;subst hv;have hds:=hO.db;subst hds;clear hs;repeat' refine aL ?_;intros
  exact s'.t.fin λwa ou=>⟨aG,n',λk hk=>⟨BV λhl=>hk ((s'.e k hl).1 rfl),aw (s'.h.lt k hk) ou.size⟩,s'.h.kp s'.x ou,rfl,fL.yj hB (λx hx=>absurd hx sQ) hO aeB zQ,⟨hO.abs,hO.ey,hO.al,hO.ds.trans RR,hO.ms,hO.ra⟩⟩
 exact ano key λk hk=>absurd rfl hk.1
theorem aeG {a:Value} {xs:List jq} (ha:fh w X 41 a jq.rd xs):
  Ct pg 10 #[a] w X nX λv _ _=> ∃b:Bool,v=B b/\(b=true->xs.length<=120):=by
 intro w0 hk;replace ha:=fh.mv ha jq.mv hk.cd;have kV:=ha.len;refine PU.1 λhs=>?_
 skip
 refine BE (λn a b c w X=> ∃(i:Nat) (s:Int),a=I i/\c=I s/\n=xs.length-i/\i<=xs.length/\ai (bN w0) w0 X w) xs.length ⟨0,_,rfl,rfl,rfl,aq _,hs⟩ ?_;rintro n a b c w X ⟨i,s,rfl,rfl,rfl,hi,hs⟩;rcases dD (xs) i with⟨cx,x,hx,hd⟩|⟨dA,hd⟩
 ·repeat' first|refine aL ?_;intros|refine cP ?_ ?_<;>intros|(with_reducible apply FN);(case h=>assumption);(case hr=>exact hx);(case hz=>rfl);(case ht=>kernel_rfl);(case hs=>kernel_rfl);intros
  refine cA (Mm (m:=x.m) (cD.at.mv (jq.at.m aQ) hs.mv)) kQ hs.has ?_;rintro _ wa w X ⟨n1,rfl⟩ hle gu ay;replace hs:=hs.trans ay;repeat' first|refine ao ?_;intros|refine cP ?_ ?_<;>intros|(refine qr ?_;intro wa hk;exact⟨_,rfl,by simp⟩)|(with_reducible apply FN);(case h=>assumption);(case hr=>exact hx);(case hz=>rfl);(case ht=>kernel_rfl);(case hs=>kernel_rfl);intros|with_reducible apply od
  refine gO (λn a b w X=> ∃(k:Nat) (s:Int),a=I k/\b=I s/\n=x.prog.length-k/\k<=x.prog.length/\ai (bN w0) w0 X w) x.prog.length ⟨0,_,rfl,rfl,rfl,aq _,hs⟩ ?_;rintro n a b w X ⟨k,s,rfl,rfl,rfl,J0,hs⟩;rcases dD x.prog k with⟨Tf,y,hy,sG⟩|⟨Fs,sG⟩
  ·repeat' first|refine aL ?_;intros|(with_reducible apply FN);(case h=>assumption);(case hr=>exact hx);(case hz=>rfl);(case ht=>kernel_rfl);(case hs=>kernel_rfl);intros|with_reducible apply od
   exact fZ (x.prog.length-(k+1)) zQ ⟨k+1,_,by simp,rfl,rfl,by omega,hs⟩
  ·repeat' first|refine aL ?_;intros|(with_reducible apply FN);(case h=>assumption);(case hr=>exact hx);(case hz=>rfl);(case ht=>kernel_rfl);(case hs=>kernel_rfl);intros
   exact zU (xs.length-(i+1)) zQ ⟨i+1,_,by simp,rfl,rfl,by omega,hs⟩
 ·repeat' first|refine aL ?_;intros|refine cP ?_ ?_<;>intros
  all_goals exact bQ hs λwa aK=>⟨_,rfl,λe=>by first|(simp at e;done)|(simp at e;omega)⟩
end
theorem Zx {gk:List BA} (h: ∀k∈gk,k∈fj 1 1 Cn\/ ∃o∈Cn,k=o.key/\(o.code=2\/o.code=3)): ∀k∈gk,k=kEx:=λk hk=>by
 rcases h k hk with e|⟨o,ho,rfl,hc⟩
 ·rw[FO] at e;cases e
 ·rcases List.mem_cons.1 ho with rfl|ho
  ·exact absurd hc dQ
  ·rw[av] at ho;rw[ho]
theorem acO: ∀gk:List BA,(∀k∈gk,k=kEx)->ja Mp [(1,[kEx])] gk=([(1,[kEx])],0)
 |[],_=>rfl
 |k::r,h=>by
  have hg:iM kEx=true:=by kernel_rfl
  have e:=h k sQ;subst e;unfold ja;rw[if_pos hg,Zt];exact acO r λk hk=>h k (by simp[hk])
theorem acP {gk:List BA} (hn:gk≠[]) (h: ∀k∈gk,k=kEx):ja Mp [] gk=([(1,[kEx])],0):=by
 cases gk with
 |nil=>exact absurd rfl hn
 |cons k r=>
  have hg:iM kEx=true:=by kernel_rfl
  have e:=h k sQ;subst e;unfold ja;rw[if_pos hg,Zt];exact acO r λk hk=>h k (by simp[hk])
theorem alj {ids:List Int} (h:IW Cn Mp ids):ids=[1]:=by
 obtain⟨gk,hn,hk,_,rfl⟩:=h;rw[acP hn (Zx hk)];unfold mL;rw[show([((1:Int),[kEx])].map (·.1))=[1] from rfl,agt];rfl
theorem aiN: ¬Pw Cn Mp:=by
 rintro(⟨e,wl,h,h2⟩|⟨gk,hn,hk,h⟩)
 ·have:=h FO acM;rw[anl] at this;rcases h2 with h2|h2
  ·exact h2 this.1
  ·rw[this.2,agv] at h2;cases h2
 ·rw[acP hn (Zx hk)] at h;exact h rfl
structure ExN (n:bh):Prop where
 id:n.c.id=1
 aN:n.c.aN=1
 ey:n.c.ey=0
 ck:n.ck=⟨0,0,21⟩
 ds:n.ds=Mp
 al:n.al=[]
structure ExC (n1:bh) (xb:Nat) (y:cD):Prop where
 g:getM Mq n1.al=some xb
 pre:(n1.A xb).x.pre=true
 mg:(n1.A xb).x.mg= .zero
 ids:(n1.A xb).ids=[1]
 ws:(n1.A xb).ws=[y]
 pa:y.range=1
theorem alk {n n1:bh} (h:ExN n) (hC:Am n Cn n1) (hE:Re (tN Cn n.ck 5 n.ds≠0\/Pw Cn n.ds) (IW Cn n.ds) n n1):il n=Mq/\n1.ra=[]/\ ∃xb y,ExC n1 xb y/\y.kind=3/\n1.ms=[y.qg (20+n.c.id)]:=by
 have ht:il n=Mq:=by unfold il;rw[h.id,h.aN,h.ey];rfl
 refine⟨ht,?_⟩;unfold Re at hE;rw[ht,h.ck,h.ds] at hE;obtain⟨xb,fD,Fk,vm,va,rm,ra,ms,d,rfl,_,hc⟩:=hC;rcases hc with⟨a,rfl,_⟩|⟨rfl,rfl,hp,_,_,_,hl,_,rfl,bU,_,hw,hq⟩
 ·exact((hE.1 sQ).elim (λe=>e alg) aiN).elim
 ·have hg:getM Mq (cI (il n) xb n.al)=some xb:=by rw[ht];exact ku
  rcases hq with⟨_,_,_,_,q⟩|⟨anp,hr,hk⟩
  ·exact absurd FO q
  ·have hi:d.ids=[1]:=by simpa using alj (hE.2 xb hg rfl (by simp[anp]))
   rw[hi] at hr;obtain⟨y,hy⟩:=List.length_eq_one_iff.1 ((by rw[<-af (f:=(·.range)),hr];rfl:d.ws.length=1));rw[hy] at hr;exact⟨rfl,xb,y,⟨hg,by simp[anp],by simp[hl],by simp[hi],by simp[hy],by simpa using hr⟩,(hk y (by rw[hy];simp)).1,by simp[hy]⟩
theorem alm {n n1:bh} {xb:Nat} {y:cD} {k N:Nat} (h:ExC n xb y) (UP:n.ms=[]) (A5:n.ra=[]) (Bu:n.c.id=1) (gq:fL k N n) (hk:k<=100) (hs:uf n Ir n1):
  ∃vs m6,aJ.one vs=true/\n1.ra=[El 0 Mq Zu false vs]/\n1.ms=[m6]/\m6.jK=true/\n1.c.aN=n.c.aN:=by
 have no: ∀{q:Int},Ir.kind=q->q=4:=λe=>e.symm;rcases hs with⟨q,rfl⟩|⟨_,_,⟨q,_⟩|⟨_,hs⟩|⟨q,_⟩|⟨q,_⟩|⟨_,q,_⟩⟩
 ·exact absurd ⟨alh,by rw[Bu];rfl⟩ q
 ·exact absurd (no q) dQ
 ·rcases hs with⟨_,_,q⟩|⟨_,_,_,_,_,_,_,q,_⟩|⟨b,i,y',fD,iR,kM,n2,hw,rfl,hc⟩
  ·exact(q xb 0 y ⟨h.g,h.pre,rfl,by rw[h.ws];rfl,h.pa⟩).elim
  ·exact absurd rfl q
  ·have hb:b=xb:=by have:=hw.g;rw[show Ir.aH=Mq from rfl,h.g] at this;exact(Option.some.inj this).symm
   subst hb;rcases hc with⟨q,_⟩|⟨_,hc⟩
   ·rw[h.ws] at q;exact absurd rfl q
   ·have e1:((dH n b (qV (n.A b) i Ir iR kM)).A b).x.mg=Zu:=by rw[jj];show(n.A b).x.mg.later Ir.aV=_;rw[h.mg];exact aiK
    have e2:((dH n b (qV (n.A b) i Ir iR kM)).A b).ids=[1]:=by rw[jj];exact h.ids
    have ht:=gq.act Mq b h.g;unfold RC W4 at hc;dsimp only at hc;rw[e1,e2,show Ir.aH=Mq from rfl] at hc;rcases hc with⟨yb,h0,_⟩|⟨_,bx,BO,vp,v2,jh,vs,hv,_,lZ,lr,rfl,_⟩
    ·rw[yn agw] at yb h0;rcases gq.log.iI (RO agw dQ (gq.D1 zQ ht)) (gq.Xa ht _ _) zQ with q|q
     ·exact absurd q.1 yb
     ·exact absurd q.1 h0
    ·exact⟨vs,_,hv,by show n.ra++_=_;rw[A5];rfl,by show n.ms++_=_;rw[UP];rfl,rfl,rfl⟩
 ·exact absurd (no q) dQ
 ·exact absurd (no q) dQ
 ·exact absurd rfl q
theorem FR {w:World} {X:XS} :Ct pg 9 #[] w X nX λv w1 w2=>v=B true:=by
 have key:Ct pg 9 #[] w X (gC λ_=>0) λv wa w'=>v=B true:=by
  intro w0 hk;refine Mt.1 λ_=>?_;refine acN hk λdb w1 X1 ic s1=>?_;have hs:=s1.rf;repeat' refine ao ?_;intros
  refine cA Mr kQ s1.has ?_;rintro vl wb w2 X2 jV lD kh bA;obtain⟨nz,s3,-,-,p4⟩:=(s1.since bA).vI (N:=made wb w2) λq hq=>⟨kh q hq,s1.nw (ad lD hq.1)⟩;obtain⟨x,hB,hmo⟩:=akz;refine s3.call (FM (l:=Mo) s3.h s3.x (jV.mono p4).sl Tt (λx hx=>absurd hx sQ) sQ (λn b hb=>absurd hb (by simp[DM.bytes,DM.get,getM])) hB.Ch hB.log hB.sK hB.kp hB.err) kQ λv w' X' aG n' s' ⟨hv,hO⟩ _=>?_;subst hv;have gq:fL 1 0 n':=fL.yj hB (λx hx=>absurd hx sQ) hO aeB zQ;have hx:ExN n':=⟨hO.id,by have:=congrArg BW hO.abs;exact this,hO.ey,hO.ck,hO.ds.trans RR,hO.al⟩;have rn:mH n'.m:=by have:=congrArg LD.m hO.ld;rw[show n'.m=_ from this];exact hmo
  clear hs;have hs:=s'.rf;repeat' refine aL ?_;intros
  refine Xb (rows:=Cn.map ju.l) (Cn.map ju.l).flatten.toArray (.agg #[I 0,.string ⟨#[]⟩,I 0,.float .f64 0,.string ⟨#[]⟩]) hs.has (bytes:=56) kQ kQ zQ zQ kQ sQ rfl rfl λa w4 X4 fV GI=>?_;have s4:=s'.since fV;obtain⟨lR,s5,-,-,p5⟩:=s4.vI (N:=cU a) λq hq=>⟨GI.2.2 q hq,s'.nw (GI.ge hq).1⟩;refine s5.call (Ly (p:=Cn) (gM:=5) s5.h s5.x gq.ok (xR GI (Y:=bI lR 4) p5).sl dQ ⟨gq.ey.1,by rw[hx.ey];decide⟩) kQ λv w5 X5 mO n5 s6 q _=>?_;obtain⟨n1,⟨hC,hE⟩,rfl,rfl,hO5⟩:=q;obtain⟨ht,A5,xb,y,Zy,hy,UP⟩:=alk hx hC hE;have sO:fL 2 0 (eQ n1):=gq.call hC zQ;have qy:mH (eQ n1).m/\(eQ n1).c.id=1/\(eQ n1).c.aN=1:=by
   obtain⟨_,_,_,_,_,_,_,_,_,rfl,_⟩:=hC;exact⟨rn,hx.id,hx.aN⟩
  obtain⟨pre,sg,PQ,_⟩:=sO.log;have Ih:=hO5.oa;rw[A5] at Ih;obtain⟨vab,van,vac,ha⟩:=Ih.form;have Vm:=hO5.om;have It:=hO5.hm;rw[UP] at It;obtain⟨l0,hl0⟩:=List.length_eq_one_iff.1 It.1;rw[hl0] at It Vm;obtain⟨u1,u2,u3,u4,u5,u6,u7,u8,rfl,dg⟩:=It.2 0 l0 _ rfl rfl;obtain⟨vmb,vmn,vmc,hvm⟩:=Vm.form;rw[ht,ha,hvm];rw[ha] at Ih;rw[hvm] at Vm;have lV:n'.nb=(eQ n1).nb:=by obtain⟨_,_,_,_,_,_,_,_,_,rfl,_⟩:=hC;rfl
  clear hs s' s4 s5;have hs:=s6.rf;repeat' refine ao ?_;intros
  rw[lV];refine s6.aky (Mc (m:=Ir) (vk:=Vk) (vs:=Vk) (vw:=Vk) (vp:=Vk) (vr:=Vk) (vc:=Vk) (vh:=Vk) (vd:=Vk) (gM:=5) s6.h s6.x PQ ⟨Sl.nil _ _ _,Sl.nil _ _ _,Sl.nil _ _ _,Sl.nil _ _ _,Sl.nil _ _ _,fh.nil _ _ _,fh.nil _ _ _,fh.nil _ _ _⟩ sO.ok dQ agx aiJ) kQ (λv w7 X7 lj n7 s7 q m7=>?_) λw7 X7 lj d7 s7 hF=>(sO.stays qy.1 zQ hF).elim;obtain⟨n2,hS,rfl,rfl,hO7⟩:=q;obtain⟨vs,m6,Vi,am5,arD,iH,RM⟩:=alm (n:=eQ n1) ⟨Zy.g,Zy.pre,Zy.mg,Zy.ids,Zy.ws,Zy.pa⟩ rfl rfl qy.2.1 sO zQ hS;have x4: ∀k,bI lj 4 k->X7 k:=s7.sub 4;have a1:Sl w7 X7 36 (.slice vmb vmn vmc) ([()].map λ_:Unit=>(y.qg (20+n'.c.id)).l u1 u2 u3 u4 u5 u6 u7 u8):=(Vm.mv m7).mono x4;have a2:Sl w7 X7 9 (.slice vab van vac) (([]:List (List Value)).map id):=(Ih.mv m7).mono x4;have Zz:=hO7.oa;rw[am5] at Zz;obtain⟨ab6,an6,ac6,ha6⟩:=Zz.form;have ZA:=hO7.om;have ZC:=hO7.hm;rw[arD] at ZC;obtain⟨l6,hl6⟩:=List.length_eq_one_iff.1 ZC.1;rw[hl6] at ZC ZA;obtain⟨q1,q2,q3,q4,q5,q6,q7,q8,rfl,arE⟩:=ZC.2 0 l6 _ rfl rfl;obtain⟨mb6,mn6,mc6,anq⟩:=ZA.form;rw[ha6] at Zz;rw[anq] at ZA;rw[ha6,anq];have a3:Sl w7 X7 36 (.slice mb6 mn6 mc6) ([()].map λ_:Unit=>m6.l q1 q2 q3 q4 q5 q6 q7 q8):=ZA.mono x4;have a4:Sl w7 X7 9 (.slice ab6 an6 ac6) ([()].map λ_:Unit=>El 0 Mq Zu false vs):=Zz.mono x4;have b1:=dg.keys.one;have b2:=dg.seen.one;have b3:=dg.writes.one;have b4:=dg.parts.one;have b5:=dg.ranges.one;have b6:=dg.aY.one;have b7:=dg.iG.one;have b8:=dg.ib.one;have FU:(y.qg (20+n'.c.id)).kind=3:=hy;have ht1:(y.qg (20+n'.c.id)).to=1:=Zy.pa;generalize y.qg (20+n'.c.id)=mm at a1 FU ht1 b1 b2 b3 b4 b5 b6 b7 b8;have hx0:[()][0]? =some ():=rfl;have arG:(eQ n1).nb=n2.nb:=hS.nb.nb.symm;rw[arG];have arH:n2.c.aN=1:=RM.trans qy.2.2;clear hs Vm Ih ZA Zz It ZC dg arE;have hs:=s7.rf;repeat' first|refine aL ?_;intros|refine cP ?_ ?_<;>intros|(with_reducible apply ZD);(· kernel_rfl);all_goals intros|with_reducible apply cJ|(exfalso;omega)|(exfalso;simp only[aM,bF] at*;omega)
  rw[iH];repeat' first|refine ao ?_;intros|with_reducible apply cJ
  refine dZ (Zm (n:=eQ n2) s7.h s7.x) kQ hs.has λw8 X8 kT=>?_;rw[show(eQ n2).c.aN=1 from arH];repeat' refine aL ?_;intros
  exact(s7.t.since kT).fin λ_ _=>rfl
 exact ano key λk hk=>absurd rfl hk.1
structure aeH (o:jq):Prop where
 sm:o.m.small
 ln:o.m.lens<=2^62
 pl:o.prog.length<=2^30
 n:o.n<2^63
def yr (l:List jq):Nat:=(l.map λo=>o.m.seen.length).sum
theorem Vn {l:List jq} {i:Nat} {o:jq} (h:l[i]? =some o):yr (l.take (i+1))=yr (l.take i)+o.m.seen.length:=by
 unfold yr;rw[cn,h];simp
theorem alo {l:List jq} {i:Nat} {o:jq} (h:l[i]? =some o):yr (l.take i)+o.m.seen.length<=yr l:=by
 rw[<-Vn h];have e:yr l=yr (l.take (i+1))+yr (l.drop (i+1)):=by
  unfold yr;rw[<-List.sum_append,<-az,eo]
 omega
theorem Am.Vo {n n1:bh} {p:List ju} (h:Am n p n1):n1.ra.length<=1:=by
 obtain⟨xb,fD,Fk,vm,va,rm,ra,ms,d,rfl,Km,⟨a,rfl,_⟩|⟨rfl,_⟩⟩:=h
 ·exact au _
 ·exact aq _
theorem uf.Vo {n n1:bh} {m:cD} (hs:uf n m n1):n1.ra.length<=n.ra.length+1/\n1.c.ey=n.c.ey:=by
 rcases hs with⟨_,rfl⟩|⟨_,_,⟨_,h1⟩|⟨_,h1⟩|⟨_,h1⟩|⟨_,h1⟩|⟨_,_,_,_,rfl⟩⟩
 ·exact⟨cZ _,rfl⟩
 ·rcases h1 with⟨fD,rfl⟩|⟨b,fD,lZ,jh,lr,hb,hp,hc,rfl⟩|⟨b,i,y,fD,xk,iR,kM,n2,hw,rfl,⟨_,rfl⟩|⟨_,n3,⟨jh,a,_,_,_,_,rfl,_⟩|⟨ids,pm,vq,vw2,rw2,bU,nN,zg,nC,_,_,_,rfl,_⟩,rfl⟩⟩;all_goals exact⟨by simp[dH],rfl⟩
 ·rcases h1 with⟨fD,rfl,_⟩|⟨b,fD,lZ,jh,lr,hb,hp,hc,rfl⟩|⟨b,i,y,fD,iR,kM,n2,hw,rfl,⟨_,rfl⟩|⟨_,⟨_,_,jh,lZ,lr,rfl,_⟩|⟨_,bx,BO,vp,v2,jh,vs,hv,_,lZ,lr,rfl,_⟩⟩⟩;all_goals exact⟨by simp[dH],rfl⟩
 ·rcases h1 with rfl|⟨_,_,_,_,⟨_,rfl⟩|⟨_,_,rfl⟩⟩;all_goals exact⟨cZ _,rfl⟩
 ·rcases h1 with⟨_,rfl⟩|⟨_,_,_,rfl,_⟩;all_goals exact⟨cZ _,rfl⟩
 ·exact⟨cZ _,rfl⟩
theorem kN.Vo: ∀{ts:List bu} {n n1:bh},kN ts n n1->n1.ra.length<=n.ra.length+ts.length
 |[],n,n1,h=>by
  have:n1=n:=h;subst this;exact au _
 |t::ts,n,n1,⟨n2,h1,h2⟩=>by
  have:=kN.Vo h2;have:=h1.ra.1;rw[aM];omega
theorem yT.Vo {n n1:bh} (h:yT n n1):n1.ra.length<=n.ra.length+n.al.length/\n1.c.ey=n.c.ey:=by
 obtain⟨ts,n2,hp,h1,h2⟩:=h;have q:=h1.Vo;rw[hp.length_eq,af] at q;obtain⟨b1,_,_,_,b5⟩:=h2.calm;exact⟨by rw[b5];exact q,b1.ey.trans h1.calm.1.ey⟩
def anr (s:CS) (o:jq) (k N:Nat) (v:Value) (w':World) (aG:Nat->Nat) (s2:CS):Prop:=
 ∃s1 t,s2=s1.vR/\CS.aeA w' aG s1/\CS.Ok k N s1.vR/\v= .tuple #[ptr s1.nb 0,s1.out,t.v]/\AG s o t s1
section
variable {w w' wa w0 : World} {X X' G K K' F T T' : XS} {own aG bK : Nat -> Nat} {n n' : bh} {b : Nat} {t0 : bu} {db : Nat} {m : DM} {s s' : CS}
theorem LS.act {o:jq} {vk vs vw vp vr vc vh vd vo vq:Value} {k N:Nat} {R:Ending->World->Prop} {NX:Value->World->XS->Prop} (q:LS w0 bK T w X own db s) (gq:CS.Ok k N s) (ho:o.at w (bI own 4) vk vs vw vp vr vc vh vd vo vq) (kz:aeH o) (hk:k<=180) (hN:N+o.m.seen.length<=2^20)
  (kk: ∀v w' X' aG s2,LS w0 bK T w' X' aG db s2->anr s o (k+1) (N+o.m.seen.length) v w' aG s2->Mv T w T w'->Mv (bI own 4) w (bI aG 4) w'->NX v w' X'):
  eC pg R X w true 12 #[ptr db 0,ptr s.nb 0,.agg (o.l vk vs vw vp vr vc vh vd vo vq).toArray] NX:=by
 refine q.call (Q:=λv w' aG s2=>anr s o (k+1) (N+o.m.seen.length) v w' aG s2) ((agz q.h q.x gq ho kz.sm kz.ln kz.pl kz.n hk hN).mono λv wa w' _ hq=>?_) kQ kk;obtain⟨aG,s1,t,e,h1,h2,h3,h4,h5⟩:=hq;exact⟨aG,s1.vR,e,h1,s1,t,rfl,h2,h3,h4,h5⟩
theorem LS.op {o:jq} {vk vs vw vp vr vc vh vd vo vq:Value} (q:LS w0 (λk=>if k<w0.heap.size then 4 else 0) T w X own db s) (h:o.at w0 (out (gC λk=>if k<w0.heap.size then 4 else 0) w0) vk vs vw vp vr vc vh vd vo vq):o.at w (bI own 4) vk vs vw vp vr vc vh vd vo vq:=by
 have m:Mv (out (gC λk=>if k<w0.heap.size then 4 else 0) w0) w0 (bI own 4) w:=λk hk _=>⟨(q.e k hk.1).2 (if_pos hk.1),q.t.s.kp.block k hk⟩;exact⟨h.m.mv m,h.po.mv m,h.p.mv m⟩
theorem LS.init (hT:Ft w0 (gC λk=>if k<w0.heap.size then 4 else 0) w X nX) (hm: ∀k,own k≠0->made wa w k/\X k) (hle:w0.heap.size<=wa.heap.size) (h:CS.Is w own db s): ∃ic,LS w0 (λk=>if k<w0.heap.size then 4 else 0) nX w X ic db s:=by
 have hz: ∀k,k<w0.heap.size->own k=0:=λk hl=>dO λe=>by have:=(hm k e).1.1;omega
 have e0: ∀k,own k≠0->(if own k=0 then(if k<w0.heap.size then 4 else 0)else own k)=own k:=λk hk=>if_neg hk;have hx: ∀k,(if own k=0 then(if k<w0.heap.size then 4 else 0)else own k)≠0->X k:=λk hk=>by
  by_cases e:own k=0
  ·rw[if_pos e] at hk;by_cases hl:k<w0.heap.size
   ·exact hT.s.sub k ⟨hl,λh=>h.2 (if_pos hl)⟩
   ·rw[if_neg hl] at hk;exact absurd rfl hk
  ·exact(hm k e).2
 refine⟨λk=>if own k=0 then(if k<w0.heap.size then 4 else 0)else own k,hT.more λk hk=>?_,h.RU e0 λk hk=>hT.s.has k (hx k hk),hx,λk hl=>?_,λk hk=>hk.elim⟩
 ·rcases hk with hk|hk
  ·refine .inr ⟨hx k hk.1,BV λhl=>hk.2 ?_⟩
   show(if own k=0 then(if k<w0.heap.size then 4 else 0)else own k)=4
   rw[if_pos (hz k hl),if_pos hl]
  ·exact hk.elim
 ·have e:(if own k=0 then(if k<w0.heap.size then 4 else 0)else own k)=(if k<w0.heap.size then 4 else 0):=if_pos (hz k hl);exact⟨λh=>e.trans h,λh=>e.trans h⟩
structure atV (w0:World) (bK:Nat->Nat) (T:XS) (w:World) (X:XS) (own:Nat->Nat) (db nb:Nat) (nS:bh) (vw:Value) (ts:List bu) (K N:Nat) (i:Int) (n:bh) (vt:Value) (sa:List jX):Prop where
 ls:LS w0 bK T w X own db (.up n)
 up:fL K N n
 nb:n.nb=nb
 mo:mH n.m
 told:Own w T 0 Vp 9 vt (sa.map jX.l)
 one: ∀a∈sa,aJ.one a.vs=true
 acc: ∀t∈ts,Acc i nS n sa t
 sq: ∀t∈ts,t.sq<=n.c.ey
 was:Sl w (bI own 4) 3 vw (ts.map bu.l)
 len:sa.length<=300*K
theorem Vq (t:bu) (a:jX) (l:List jX):AH t (a::l)=(if a.t=t then 1 else 0)+AH t l:=by
 rw[<-PS,<-Zw];rfl
end
open Go.ChangeShapes Go.WideShapes Go.ChangeAt Go.RowKit
def alp:nF 45 (Iu 29 Rec.rd):=qm kQ kQ dQ ant
def alq:nF 44 (Iu 4 (λ_ _ cs (x:eY)=>cs=x.l)):=qm kQ kQ dQ agB
def aiO:nF 37 rdI:=agC kQ
instance:Wt fc:=⟨λx=>Wt.wt x.key+Wt.wt x.val+Wt.wt x.aV+1,λ_=>by omega⟩
theorem alr:nF 175 (λ_ _ cs (x:fc)=>cs=x.l):=λH enc W fuel cs x h=>by
 obtain⟨n,ds,hx,hf⟩:=jw [9,97,39] kQ h;obtain⟨_,_,_,_,a0,rfl,rfl,rfl,w0,hf⟩:=bL FV hf;obtain⟨_,_,_,_,a1,rfl,rfl,rfl,w1,hf⟩:=bL Mu hf;obtain⟨_,_,_,_,a2,rfl,rfl,rfl,w2,rfl,rfl⟩:=bL vT hf;refine⟨⟨a0,a1,a2⟩,rfl,?_⟩;rw[hx];simp only[Rows.uptoBulk,Rows.uptoBulkAll,Wt.wt] at*;omega
def aiP:nF 41 (Iu 7 (λ_ _ cs (x:fc)=>cs=x.l)):=qm kQ kQ dQ alr
instance:Wt cD:=⟨λx=>Wt.wt x.kind+Wt.wt x.fr+Wt.wt x.to+Wt.wt x.aH+Wt.wt x.range+Wt.wt x.iF+Wt.wt x.code+Wt.wt x.aV+Wt.wt x.prev+Wt.wt x.jK+Wt.wt x.n+Wt.wt x.mx+Wt.wt x.keys+Wt.wt x.seen+Wt.wt x.writes+Wt.wt x.parts+Wt.wt x.ranges+Wt.wt x.aY+Wt.wt x.state+1,λ_=>by omega⟩
theorem anu:nF 54 cD.rd:=λH enc W fuel cs x h=>by
 obtain⟨n,ds,hx,hf⟩:=jw [3,3,3,34,3,3,37,39,39,4,3,3,40,41,42,43,44,45,52] kQ h;obtain⟨_,_,_,_,a0,rfl,rfl,rfl,w0,hf⟩:=bL nW hf;obtain⟨_,_,_,_,a1,rfl,rfl,rfl,w1,hf⟩:=bL nW hf;obtain⟨_,_,_,_,a2,rfl,rfl,rfl,w2,hf⟩:=bL nW hf;obtain⟨_,_,_,_,a3,rfl,rfl,rfl,w3,hf⟩:=bL ZE hf;obtain⟨_,_,_,_,a4,rfl,rfl,rfl,w4,hf⟩:=bL nW hf;obtain⟨_,_,_,_,a5,rfl,rfl,rfl,w5,hf⟩:=bL nW hf;obtain⟨_,_,_,_,a6,rfl,rfl,rfl,w6,hf⟩:=bL aiO hf;obtain⟨_,_,_,_,a7,rfl,rfl,rfl,w7,hf⟩:=bL vT hf;obtain⟨_,_,_,_,a8,rfl,rfl,rfl,w8,hf⟩:=bL vT hf;obtain⟨_,_,_,_,a9,rfl,rfl,rfl,w9,hf⟩:=bL acQ hf;obtain⟨_,_,_,_,a10,rfl,rfl,rfl,wC,hf⟩:=bL nW hf;obtain⟨_,_,_,_,a11,rfl,rfl,rfl,w11,hf⟩:=bL nW hf;obtain⟨_,_,_,_,a12,rfl,rfl,⟨v12,rfl,r12⟩,yl,hf⟩:=bL aeI hf;obtain⟨_,_,_,_,a13,rfl,rfl,⟨v13,rfl,r13⟩,Zl,hf⟩:=bL aiP hf;obtain⟨_,_,_,_,a14,rfl,rfl,⟨v14,rfl,r14⟩,w14,hf⟩:=bL ZF hf;obtain⟨_,_,_,_,a15,rfl,rfl,⟨v15,rfl,r15⟩,w15,hf⟩:=bL aeJ hf;obtain⟨_,_,_,_,a16,rfl,rfl,⟨v16,rfl,r16⟩,w16,hf⟩:=bL alq hf;obtain⟨_,_,_,_,a17,rfl,rfl,⟨v17,rfl,r17⟩,w17,hf⟩:=bL alp hf;obtain⟨_,_,_,_,a18,rfl,rfl,⟨vh,vp,rfl,rh,rp⟩,w18,rfl,rfl⟩:=bL ZG hf;refine⟨⟨a0,a1,a2,a3,a4,a5,a6,a7,a8,a9,a10,a11,a12,a13,a14,a15,a16,a17,a18⟩,⟨v12,v13,v14,v15,v16,v17,vh,vp,rfl,⟨r12.xx,r13.xx,r14.xx,r15.xx,r16.xx,r17,rh,rp⟩⟩,?_⟩;rw[hx];simp only[Rows.uptoBulk,Rows.uptoBulkAll,Wt.wt] at*;omega
instance:Wt ju:=⟨λx=>Wt.wt x.code+Wt.wt x.key+Wt.wt x.val+1,λ_=>by omega⟩
theorem anv:nF 99 (λ_ _ cs (x:ju)=>cs=x.l):=λH enc W fuel cs x h=>by
 obtain⟨n,ds,hx,hf⟩:=jw [3,9,97] kQ h;obtain⟨_,_,_,_,a0,rfl,rfl,rfl,w0,hf⟩:=bL nW hf;obtain⟨_,_,_,_,a1,rfl,rfl,rfl,w1,hf⟩:=bL FV hf;obtain⟨_,_,_,_,a2,rfl,rfl,rfl,w2,rfl,rfl⟩:=bL Mu hf;refine⟨⟨a0,a1,a2⟩,rfl,?_⟩;rw[hx];simp only[Rows.uptoBulk,Rows.uptoBulkAll,Wt.wt] at*;omega
def als:nF 55 (Iu 5 (λ_ _ cs (x:ju)=>cs=x.l)):=qm kQ kQ dQ anv
def wtN (n:Int):Nat:=if n<2^63 then 1 else 1073741824
instance:Wt jq:=⟨λx=>Wt.wt x.kind+Wt.wt x.gM+wtN x.n+Wt.wt x.m+Wt.wt x.prog+Wt.wt x.cG+1,λ_=>by omega⟩
theorem alu:nF 57 jq.rd:=λH enc W fuel cs x h=>by
 obtain⟨n,ds,hx,hf⟩:=jw [3,3,3,54,55,43] kQ h;obtain⟨_,_,_,_,a0,rfl,rfl,rfl,w0,hf⟩:=bL nW hf;obtain⟨_,_,_,_,a1,rfl,rfl,rfl,w1,hf⟩:=bL nW hf;obtain⟨_,_,_,_,a2,rfl,rfl,⟨rfl,hb⟩,w2,hf⟩:=bL NA hf;obtain⟨_,_,_,_,a3,rfl,rfl,⟨vk,vs,vw,vp,vr,vc,vh,vd,rfl,r3⟩,w3,hf⟩:=bL anu hf;obtain⟨_,_,_,_,a4,rfl,rfl,⟨v4,rfl,r4⟩,w4,hf⟩:=bL als hf;obtain⟨_,_,_,_,a5,rfl,rfl,⟨v5,rfl,r5⟩,w5,rfl,rfl⟩:=bL aeJ hf;have hn:wtN a2=1:=if_pos (by have:=hb.2;omega);refine⟨⟨a0,a1,a2,a3,a4,a5⟩,⟨vk,vs,vw,vp,vr,vc,vh,vd,v4,v5,rfl,⟨r3,r4.xx,r5.xx⟩⟩,?_⟩;rw[hx];simp only[Rows.uptoBulk,Rows.uptoBulkAll,Wt.wt] at*;omega
def aiQ:nF 22 (Iu 41 jq.rd):=qm kQ kQ dQ alu
theorem uH {α:Type} [Wt α] {l:List α} {B:Nat} (h:Wt.wt l<=B):l.length<=B:=by
 have h':(l.map Wt.wt).sum+1<=B:=h;have:=agD l;omega
theorem acS {s:BA} {B:Nat} (h:Wt.wt s<=B):s.size<=B:=by
 have:s.size+1<=B:=h;omega
theorem anw {x:KV} {B:Nat} (h:Wt.wt x<=B):x.key.size<=B:=by
 have:(x.key.size+1)+(Wt.wt x.val.kind+Wt.wt x.val.num+(x.val.text.size+1)+1)+1<=B:=h;omega
theorem ZH {l:List KV} {B:Nat} (h:Wt.wt l<=B) (hB:B<=2^40): ∀x∈l,x.key.size<=2^40:=λx hx=>by
 have h':(l.map Wt.wt).sum+1<=B:=h;have:=anw (B:=B) (ad (FW hx) zQ);omega
theorem ZI {l:List BA} {B:Nat} (h:Wt.wt l<=B) (hB:B<=2^40): ∀k∈l,k.size<=2^40:=λx hx=>by
 have h':(l.map Wt.wt).sum+1<=B:=h;have:=acS (B:=B) (ad (FW hx) zQ);omega
theorem alv {l:List gv} {B:Nat} (h:Wt.wt l<=B) (hB:B<=2^40):L4 l/\ael l:=by
 have h':(l.map Wt.wt).sum+1<=B:=h;have key: ∀p∈l,Wt.wt p.reads<=B/\Wt.wt p.writes<=B:=λp hp=>by
  have h1:Wt.wt p.aH+Wt.wt p.aV+Wt.wt p.reads+Wt.wt p.writes+1<=(l.map Wt.wt).sum:=FW hp;omega
 refine⟨λp hp=>?_,λp hp=>⟨ZI (key p hp).1 hB,ZH (key p hp).2 hB⟩⟩;have h1:=uH (key p hp).1;have h2:=uH (key p hp).2;omega
theorem alw {l:List kF} {B:Nat} (h:Wt.wt l<=B) (hB:B<=2^40):L3 l/\aek l:=by
 have h':(l.map Wt.wt).sum+1<=B:=h;have key: ∀p∈l,Wt.wt p.key<=B/\Wt.wt p.mS<=B:=λp hp=>by
  have h1:Wt.wt p.key+Wt.wt p.mS+1<=(l.map Wt.wt).sum:=FW hp;omega
 exact⟨λp hp=>ad (uH (key p hp).2) hB,λp hp=>ad (acS (key p hp).1) hB⟩
theorem ZJ {s:State} {B:Nat} (h:Wt.wt s<=B) (hB:B<=2^40):s.small:=by
 have h':Wt.wt s.range+Wt.wt s.floor+Wt.wt s.closed+Wt.wt s.iG+Wt.wt s.ib+1<=B:=h;obtain⟨a2,a3⟩:=alw (l:=s.iG) (B:=B) zQ hB;obtain⟨b2,b3⟩:=alv (l:=s.ib) (B:=B) zQ hB;exact⟨a2,b2,a3,b3⟩
theorem anx {r:Rec} {B:Nat} (h:Wt.wt r<=B) (hB:B<=2^40):r.small:=by
 have h':Wt.wt r.kind+Wt.wt r.aH+Wt.wt r.aV+Wt.wt r.prev+Wt.wt r.jK+Wt.wt r.n+Wt.wt r.su+Wt.wt r.reads+Wt.wt r.writes+Wt.wt r.parts+Wt.wt r.xu+Wt.wt r.state+1<=B:=h;have h1:=uH (l:=r.reads) (B:=B) zQ;have h2:=uH (l:=r.writes) (B:=B) zQ;exact⟨by omega,by omega,ZI (l:=r.reads) (B:=B) zQ hB,ZH (l:=r.writes) (B:=B) zQ hB,ZJ (s:=r.state) (B:=B) zQ hB⟩
theorem NB (s:BA):(wP s).length<=120*Wt.wt s:=by
 have h1:=AI s;have h2:=fy s.size
 show _<=120*(s.size+1)
 omega
theorem PV (x:KV):(sB x).length<=120*Wt.wt x:=by
 have h1:=NB x.key;have h2:=ZK (v:=x.val);have h3:Wt.wt x=Wt.wt x.key+Wt.wt x.val+1:=rfl
 grind [sB]
theorem yV {α:Type} [Wt α] {f:α->List Nat} (l:List α) (h: ∀x,(f x).length<=120*Wt.wt x):(iW f l).length<=120*Wt.wt l:=by
 have h1:(l.map f).flatten.length<=120*(l.map Wt.wt).sum:=by
  induction l with
  |nil=>simp
  |cons x l ih=>grind
 have h2:=fy (l.length:Int);have h3:Wt.wt l=(l.map Wt.wt).sum+1:=rfl;unfold iW
 grind
theorem alx (n:Int):(encI n).length<=120*Wt.wt n:=by
 have:=fy n
 show _<=120*1
 omega
theorem agE (v:pJ):(zY v).length<=120*Wt.wt v:=by
 have h1:=vA v.aV;have h2:=ZK (v:=v.val);have h3:Wt.wt v=4+Wt.wt v.val+1:=rfl
 grind [zY]
theorem aly (h:kF):(CJ h).length<=120*Wt.wt h:=by
 have h1:=NB h.key;have h2:=yV h.mS agE;have h3:Wt.wt h=Wt.wt h.key+Wt.wt h.mS+1:=rfl
 grind [CJ]
theorem alz (p:gv):(zx p).length<=120*Wt.wt p:=by
 have h1:=DE p.aH;have h2:=vA p.aV;have h3:=yV p.reads NB;have h4:=yV p.writes PV;have h5:Wt.wt p=ZL p.aH+4+Wt.wt p.reads+Wt.wt p.writes+1:=rfl;have h6:=Tu p.aH;unfold zx;simp only[aa];omega
theorem alA (s:State):(encS s).length<=120*Wt.wt s:=by
 have h1:=fy s.range.id;have h2:=fy s.range.iF;have h3:=vA s.floor;have h4:=vA s.closed;have h5:=yV s.iG aly;have h6:=yV s.ib alz;have h7:Wt.wt s=Wt.wt s.range+4+4+Wt.wt s.iG+Wt.wt s.ib+1:=rfl;unfold encS RV;simp only[aa,PW];omega
theorem alB (r:Rec):(gd r).length<=120*Wt.wt r:=by
 have h':Wt.wt r=Wt.wt r.kind+ZL r.aH+4+4+Wt.wt r.jK+Wt.wt r.n+Wt.wt r.su+Wt.wt r.reads+Wt.wt r.writes+Wt.wt r.parts+Wt.wt r.xu+Wt.wt r.state+1:=rfl;have k0:=Tu r.aH;have k1:=fy r.kind;have k2:=alA r.state;have k3:=fy r.n;have k4:=DE r.aH;have k5:=vA r.aV;have k6:=vA r.prev;have k7:=yV r.reads NB;have k8:=yV r.writes PV;have k9:=yV r.xu PV;have k10:=yV r.parts alx;have k11:=PW r.su;have k12:(aeK r.jK).length=1:=rfl;unfold gd;rw[aa];repeat' split
 all_goals (try unfold zx);(try simp only[aa,bF]);omega
theorem anz {m:cD} {B:Nat} (h:Wt.wt m<=B) (hB:B<=1048576):m.small/\m.lens<=2^62:=by
 have h':Wt.wt m.kind+Wt.wt m.fr+Wt.wt m.to+Wt.wt m.aH+Wt.wt m.range+Wt.wt m.iF+Wt.wt m.code+Wt.wt m.aV+Wt.wt m.prev+Wt.wt m.jK+Wt.wt m.n+Wt.wt m.mx+Wt.wt m.keys+Wt.wt m.seen+Wt.wt m.writes+Wt.wt m.parts+Wt.wt m.ranges+Wt.wt m.aY+Wt.wt m.state+1<=B:=h;have a1:=ZJ (s:=m.state) (B:=B) zQ zQ;have l1:=uH (l:=m.keys) (B:=B) zQ;have l2:=uH (l:=m.seen) (B:=B) zQ;have l3:=uH (l:=m.writes) (B:=B) zQ;have l4:=uH (l:=m.parts) (B:=B) zQ;have l5:=uH (l:=m.ranges) (B:=B) zQ;have l6:=uH (l:=m.aY) (B:=B) zQ;have hr: ∀r∈m.aY,Wt.wt r<=B:=λr hr=>by
  have h1:Wt.wt m.aY=(m.aY.map Wt.wt).sum+1:=rfl;have:=FW hr;omega
 refine⟨⟨by omega,by omega,λr h=>anx (hr r h) zQ,λr h _=>?_,a1⟩,?_⟩
 ·have:=alB r;have:=hr r h;omega
 ·unfold cD.lens;omega
theorem apy {o:jq} {B:Nat} (h:Wt.wt o<=B) (hB:B<=1048576):aeH o:=by
 have h':Wt.wt o.kind+Wt.wt o.gM+wtN o.n+Wt.wt o.m+Wt.wt o.prog+Wt.wt o.cG+1<=B:=h;obtain⟨a,b⟩:=anz (m:=o.m) (B:=B) zQ hB;have c:=uH (l:=o.prog) (B:=B) zQ;refine⟨a,b,by omega,?_⟩;apply dO;intro e;have:wtN o.n=1073741824:=if_neg e;omega
theorem anA {l:List jq} {B:Nat} (h:Wt.wt l<=B) (hB:B<=1048576):(∀o∈l,aeH o)/\yr l<=B:=by
 have h':(l.map Wt.wt).sum+1<=B:=h;refine⟨λo ho=>apy (B:=B) (ad (FW ho) zQ) hB,?_⟩;have:yr l<=(l.map Wt.wt).sum:=by
  clear h h';unfold yr
  induction l with
  |nil=>simp
  |cons o l ih=>
   have h1:Wt.wt o.kind+Wt.wt o.gM+wtN o.n+Wt.wt o.m+Wt.wt o.prog+Wt.wt o.cG+1=Wt.wt o:=rfl;have h2:o.m.seen.length<=Wt.wt o.m:=by
    have:=uH (l:=o.m.seen) (B:=Wt.wt o.m) (by simp only[Wt.wt];omega);exact this
   simp only[aZ,List.sum_cons];omega
 omega
abbrev rcT:Nat:=73
abbrev qz (z:Rec×Value):List Value:=z.1.l aR aR z.2 aR aR aR
def Hy (w:World) (K:XS) (zs:List (Rec×Value)) (rs:List Rec):Prop:=zs.map (·.1)=rs/\ ∀z∈zs,Sl w K 1 z.2 (z.1.parts.map I1)
section
variable {w w' wa w0 : World} {X X' G K K' F T T' : XS} {own aG bK : Nat -> Nat} {n n' : bh} {b : Nat} {t0 : bu} {db : Nat} {m : DM} {s s' : CS}
def Hy.mv {zs:List (Rec×Value)} {rs:List Rec} (h:Hy w K zs rs) (m:Mv K w K' w'):Hy w' K' zs rs:=⟨h.1,λz hz=>(h.2 z hz).mv m⟩
theorem Hy.snoc {zs:List (Rec×Value)} {rs:List Rec} {r:Rec} {vp:Value} (h:Hy w K zs rs) (hp:Sl w K 1 vp (r.parts.map I1)):Hy w K (zs++[(r,vp)]) (rs++[r]):=by
 refine⟨by rw[az,h.1];rfl,λz hz=>?_⟩;rcases List.mem_append.1 hz with hz|hz
 ·exact h.2 z hz
 ·rw[av] at hz;subst hz;exact hp
theorem agF {s s':jo} {r:Rec} (h:sK s r=some s') (hr:r.parts.length<=80) (hs: ∀x∈s.2,x.1.parts.length<=80): ∀x∈s'.2,x.1.parts.length<=80:=by
 unfold sK at h;split at h
 ·split at h<;>cases h
  exact hs
 split at h
 ·split at h<;>cases h
  intro x hx;rcases List.mem_append.1 hx with hx|hx
  ·exact hs x hx
  ·rw[List.mem_singleton.1 hx];exact hr
 split at h
 ·split at h<;>cases h
  intro x hx;obtain⟨y,hy,rfl⟩:=List.mem_map.1 hx;split<;>exact hs y hy
 ·cases h
theorem RW: ∀{rs:List Rec} {s s':jo},yk s rs=some s'->(∀r∈rs,r.parts.length<=80)->(∀x∈s.2,x.1.parts.length<=80)-> ∀x∈s'.2,x.1.parts.length<=80
 |[],s,s',h,_,hs=>by cases h;exact hs
 |r::rs,s,s',h,hr,hs=>by
  obtain⟨s1,h1,h2⟩:=Option.bind_eq_some_iff.1 h;exact RW h2 (λr hm=>hr r (List.mem_cons_of_mem _ hm)) (agF h1 (hr r List.mem_cons_self) hs)
theorem fL.parts {k N:Nat} (h:fL k N n): ∀b∈n.cl,(n.C b).r.parts.length<=80:=λb hb=>by
 obtain⟨pre,sg,_,hR,_⟩:=h.log;obtain⟨rs,_,hg,_,hr⟩:=hR.rs;exact RW hr (λr hm=>(hg r hm).ps) sQ _ (List.mem_map.2 ⟨b,hb,rfl⟩)
theorem FY (h:jD w own n) (hX:rO own X) (pz:n.cl.length<=1000) (GS: ∀b∈n.cl,(n.C b).r.parts.length<=2^40):
  Ct pg 20 #[ptr n.nb 0] w X nX λv wa w'=> ∃zs,Own w' (made wa w') wa.heap.size rcT 29 v (zs.map qz)/\Hy w' (made wa w') zs (n.cl.map λb=>(n.C b).r):=by
 intro w0 hk;have s0:=St.init h hX hk;clear h hX hk;have br:=s0.v.1;have Uy:Sl w0 (bN w0) 1 n.c.cm (n.cl.map λb=>[ptr b 0]):=(show Own w0 (bI own 10) 0 pcT 1 n.c.cm _ from s0.get 10).sl.mono (s0.sub 10);have Yw:=Uy.gN;refine Iv.1 λhs=>?_;repeat' refine ao ?_;intros
 refine gO (λk a v w X=> ∃(i:Nat) (zs:List (Rec×Value)) (K:XS),a=I i/\k=n.cl.length-i/\i<=n.cl.length/\ai (bN w0) w0 X w/\Own w X w0.heap.size rcT 29 v (zs.map qz)/\(∀k,K k->w0.heap.size<=k/\X k/\ ¬cU v k)/\Hy w K zs ((n.cl.take i).map λb=>(n.C b).r)) n.cl.length
  ⟨0,[],nX,rfl,rfl,aq _,hs,Own.nil _ _ _ _ _,λk hk=>hk.elim,rfl,λz hz=>absurd hz sQ⟩ ?_
 rintro k _ v w1 X1 ⟨i,zs,K,rfl,rfl,hi,hs,ho,hK,hR⟩;rcases dD n.cl i with⟨cx,b,hb,hd⟩|⟨dA,hd⟩
 ·have OX:=ax hb;obtain⟨Ko,o2,op,_⟩:=s0.vc OX;have hp:Sl w0 (bN w0) 1 (n.C b).vp ((n.C b).r.parts.map I1):=(s0.h.BP OX).2.2.mono λk (e:own k=4)=>s0.x k zQ;have wu:=GS b OX;obtain⟨e1,e2,e3,hvp⟩:=hp.form;rw[hvp] at hp Ko op;repeat' refine aL ?_;intros
  refine cA (FF (hp.mv hs.mv) wu) kQ hs.has ?_;rintro v2 xQ w2 X2 q2 lD kh bA;have zN:Own w2 X2 w0.heap.size Ye 1 v2 _:=q2.up kh (ad hs.kp.size lD);have ov2:=zN.sl.one;have anB:=hs.trans bA;have jV:=ho.since bA;have hR2:=hR.mv λk hk _=>⟨hk,bA.kp.block k (hK k hk).2.1⟩;have lV: ∀k,cU v2 k-> ¬cU v k:=λk e e'=>by have:=(q2.ge e).1;have:=(ho.ge e').2;omega
  obtain⟨g1,g2,g3,rfl⟩:=zN.sl.form;clear hs;have hs:=ai.fK bA.has;repeat' first|refine ao ?_;intros|(refine Y6 hs ?_;intro _ _ _ w X hs ho)
  have aeL:=anB.trans hs;have hlen:=congrArg bf hR.1;rw[af,af,aD] at hlen;refine EV (bytes:=328) (jV.since hs) hs.has (ad anB.kp.size hs.kp.size) kQ ho.sl (λr hr u hu=>?_) (by simp only[bH,af];omega) (by simp only[bH,af];omega) λv5 w5 X5 c5 uC wN=>?_
  ·rw[av] at hr;subst hr;simp only[List.mem_cons,List.not_mem_nil,or_false] at hu;repeat' rcases hu with rfl|hu
   all_goals first|rfl|(subst hu;rfl)
  have hKw: ∀k,K k->X k/\k<w.heap.size:=λk hk=>⟨hs.sub k (bA.sub k (hK k hk).2.1),hs.has k (hs.sub k (bA.sub k (hK k hk).2.1))⟩;have hqw:=zN.since hs;have Tv: ∀k,(K k\/cU (.slice g1 g2 g3) k)->X k/\k<w.heap.size/\w0.heap.size<=k/\ ¬cU v k:=λk hk=>hk.elim (λhk=>⟨(hKw k hk).1,(hKw k hk).2,(hK k hk).1,(hK k hk).2.2⟩) λhk=>⟨hqw.2.2 k hk,(hqw.ge hk).2,(hqw.ge hk).1,lV k hk⟩;have hv5: ∀k,(K k\/cU (.slice g1 g2 g3) k)-> ¬cU v5 k:=λk hk h5=>by
   have Ll:=Tv k hk;have h5:v5.ownBlock=some k:=h5;rcases wN with e|⟨g,e,dA⟩
   ·exact Ll.2.2.2 (by rw[e] at h5;exact h5)
   ·rw[e] at h5;cases h5;omega
  have hR5:Hy w5 (λk=>K k\/cU (.slice g1 g2 g3) k) (zs++[((n.C b).r,.slice g1 g2 g3)]) ((n.cl.take (i+1)).map λb=>(n.C b).r):=by
   have e:(n.cl.take (i+1)).map (λb=>(n.C b).r)=(n.cl.take i).map (λb=>(n.C b).r)++[(n.C b).r]:=by rw[cn,hb];simp
   rw[e];refine Hy.snoc (vp:=.slice g1 g2 g3) (hR2.mv λk hk _=>⟨.inl hk,?_⟩) ((xR hqw (Y:=cU (.slice g1 g2 g3)) λg hg=>hg).sl.mv λk hk _=>⟨.inr hk,?_⟩)
   ·exact(c5.block k (hKw k hk).1 (Tv k (.inl hk)).2.2.2).trans (hs.kp.block k (bA.sub k (hK k hk).2.1))
   ·exact c5.block k (Tv k (.inr hk)).1 (Tv k (.inr hk)).2.2.2
  have arI:ai (bN w0) w0 X5 w5:=aeL.ea c5 λk hk e=>by have:=(jV.ge e).1;have:k<w0.heap.size:=hk;omega
  clear hs;have hs:=ai.fK c5.has;repeat' refine ao ?_;intros
  exact fZ (n.cl.length-(i+1)) zQ ⟨i+1,zs++[((n.C b).r,.slice g1 g2 g3)],_,congrArg I zQ,rfl,by omega,arI,by rw[az];exact uC,λk hk=>⟨(Tv k hk).2.2.1,c5.sub k (Tv k hk).1,hv5 k hk⟩,hR5⟩
 ·obtain rfl:i=n.cl.length:=by omega
  rw[lG] at hR;repeat' refine aL ?_;intros
  exact bQ hs λwa aK=>⟨zs,(ho.kp aK).tight,hR.mv λk hk _=>⟨⟨(hK k hk).1,aw (hs.has k (hK k hk).2.1) aK.size⟩,aK.block k (hK k hk).2.1⟩⟩
theorem GX {a:Value} {zs:List (Rec×Value)} {t:bu} (ha:Sl w X 29 a (zs.map qz)) (ho: ∀z∈zs,aJ.one z.2=true):Ct pg 19 #[a,t.v] w X nX λv _ _=>
  match zs.find? λz=>decide (z.1.aH=t)with
  |some z=>v= .tuple #[.agg (qz z).toArray,B true]
  |none=>v= .tuple #[.agg PL.toArray,B false]:=by
 intro w0 hk;replace ha:=ha.mv hk.cd;have kV:=ha.gN;refine Hz.1 λhs=>?_
 skip
 refine gO (λn a b w X=> ∃i:Nat,a=I i/\b= .agg PL.toArray/\n=zs.length-i/\i<=zs.length/\ai (bN w0) w0 X w/\(zs.find? λz=>decide (z.1.aH=t))=((zs.drop i).find? λz=>decide (z.1.aH=t))) zs.length ⟨0,rfl,rfl,rfl,aq _,hs,rfl⟩ ?_;rintro n' _ _ w1 X1 ⟨i,rfl,rfl,rfl,hi,hs,hw⟩;rcases dD zs i with⟨cx,y,hy,hd⟩|⟨dA,hd⟩
 ·have oy:=ho y (ax hy);rw[hd] at hw;by_cases e:y.1.aH=t
  ·rw[List.find?_cons_of_pos (by simp[e])] at hw;repeat' first|refine aL ?_;intros|(with_reducible refine RX _ _ ?_ ?_ ?_);(· kernel_rfl);all_goals intros|(exfalso;simp_all;done)
   exact bQ hs λwa aK=>by show(match List.find? _ zs with|some z=>_|none=>_:Prop);rw[hw]
  ·rw[List.find?_cons_of_neg (by simp[e])] at hw;repeat' first|refine aL ?_;intros|(with_reducible refine RX _ _ ?_ ?_ ?_);(· kernel_rfl);all_goals intros|(exfalso;simp_all;done)
   exact fZ (zs.length-(i+1)) zQ ⟨i+1,congrArg I zQ,rfl,rfl,by omega,hs,hw⟩
 ·rw[hd] at hw;repeat' refine aL ?_;intros
  exact bQ hs λwa aK=>by show(match List.find? _ zs with|some z=>_|none=>_:Prop);rw[hw];rfl
end
structure NC where
 t:bu
 ps:List Int
 vs:List Int
structure arJ (l:List NC) (t:bu) (d:pD):Prop where
 ws: ∀y∈d.ws,y.aH=t/\(y.kind=3->d.x.pre=true)
 pr:d.x.pre=true-> ∃e∈l,e.t=t/\e.ps=d.ids/\ ∀id∈d.ids,id∈e.vs\/ ∃y∈d.ws,y.range=id
 no:d.x.pre=false-> ∀e∈l,e.t≠t
structure atW (n:bh) (l:List NC):Prop where
 nd:(l.map (·.t)).Nodup
 bN: ∀e∈l,e.t.aN<=n.c.aN/\(e.t.aN=n.c.aN->e.t.sq<=n.c.ey)
 act: ∀t b,getM t n.al=some b->arJ l t (n.A b)
structure arK (l:List NC) (ms:List cD) (t:bu) (d:pD):Prop where
 ws: ∀y∈d.ws,y.aH=t/\(y.kind=3->d.x.pre=true)
 pr:d.x.pre=true->(∃e∈l,e.t=t/\e.ps=d.ids/\ ∀id∈d.ids,id∈e.vs\/ ∃y∈d.ws,y.range=id)\/((∀e∈l,e.t≠t)/\(∃m∈ms,m.kind=3/\m.aH=t)/\ ∀id∈d.ids,∃y∈d.ws,y.range=id)
 no:d.x.pre=false-> ∀e∈l,e.t≠t
structure atX (n:bh) (l:List NC):Prop where
 nd:(l.map (·.t)).Nodup
 bN: ∀e∈l,e.t.aN<=n.c.aN/\(e.t.aN=n.c.aN->e.t.sq<=n.c.ey)
 ms: ∀m∈n.ms,m.kind=3->(∃e∈l,e.t=m.aH)\/ ∃b,getM m.aH n.al=some b/\(n.A b).x.pre=true/\m.parts=(n.A b).ids
 act: ∀t b,getM t n.al=some b->arK l n.ms t (n.A b)
section
variable {n n1 : bh} {l : List NC} {m : cD} {t : bu} {b : Nat}
end
def sP (Q:jX->Prop) (n n1:bh):Prop:= ∃sa:List jX,n1.ra=n.ra++sa.map jX.l/\ ∀a∈sa,aJ.one a.vs=true/\Q a
section
variable {n n1 : bh} {l : List NC} {m : cD} {t : bu} {b k N : Nat} {Q : jX -> Prop}
theorem sP.no (h:n1.ra=n.ra):sP Q n n1:=⟨[],by rw[h];simp,by simp⟩
theorem sP.one {a:jX} (h:n1.ra=n.ra++[a.l]) (ho:aJ.one a.vs=true) (hq:Q a):sP Q n n1:=⟨[a],by rw[h];rfl,λb hb=>by rw[List.mem_singleton.1 hb];exact⟨ho,hq⟩⟩
theorem sP.trans {n2:bh} (h:sP Q n n1) (q:sP Q n1 n2):sP Q n n2:=by
 obtain⟨a,a1,a2⟩:=h;obtain⟨b,b1,b2⟩:=q;exact⟨a++b,by rw[b1,a1,az,ak],λx hx=>(List.mem_append.1 hx).elim (a2 x) (b2 x)⟩
theorem Am.CK {p:List ju} (hC:Am n p n1) (A5:n.ra=[]):sP (λa=>a.e≠0\/a.on=true) n n1:=by
 obtain⟨xb,fD,Fk,vm,va,rm,ra,ms,d,rfl,Km,hc⟩:=hC;rcases hc with⟨a,rfl,_,_,⟨e,he,rfl⟩|⟨st,vs,hv,rfl⟩⟩|⟨rfl,_⟩
 ·exact .one (a:=⟨e,il n,.zero,false,aR⟩) (by rw[A5];rfl) rfl (.inl he)
 ·exact .one (a:=⟨0,il n,st,true,vs⟩) (by rw[A5];rfl) hv (.inr rfl)
 ·exact .no A5.symm
theorem An.CK {pp:Bool} (hG:An n m pp n1):sP (λa=>a.e≠0\/a.on=true) n n1:=by
 obtain⟨b,fD,lZ,jh,lr,hb,hp,hc,rfl⟩:=hG;exact .one (a:=⟨m.code,m.aH,.zero,false,aR⟩) rfl rfl (.inl hc)
theorem I2.CK (hS:I2 n m n1):sP (λa=>a.e≠0\/a.on=true) n n1:=by
 rcases hS with⟨fD,rfl⟩|hG|⟨b,i,y,fD,xk,iR,kM,n2,hw,rfl,⟨_,rfl⟩|⟨_,n3,⟨jh,a,ha,_,lZ,lr,rfl,_⟩|⟨ids,pm,vq,vw2,rw2,bU,nN,Bx,nC,_,lZ,lr,rfl,_⟩,rfl⟩⟩
 ·exact .no rfl
 ·exact hG.CK
 ·exact .no rfl
 ·rcases ha with⟨e,he,rfl⟩|⟨vs,hv,rfl⟩
  ·exact .one (a:=⟨e,_,.zero,false,aR⟩) rfl rfl (.inl he)
  ·exact .one (a:=⟨0,_,_,true,vs⟩) rfl hv (.inr rfl)
 ·exact .no rfl
theorem tu.CK (hT:tu n t n1):sP (λa=>a.e≠0\/a.on=true) n n1:=by
 obtain⟨b0,uq,_,⟨_,jh,lZ,lr,rfl,_⟩|⟨_,lZ,lr,rfl,_⟩⟩:=hT
 ·exact .one (a:=⟨25,t,.zero,false,aR⟩) rfl rfl (.inl (show(25:Int)≠0 by decide))
 ·exact .no rfl
theorem kN.CK: ∀{ts:List bu} {n n1:bh},kN ts n n1->sP (λa=>a.e≠0\/a.on=true) n n1
 |[],n,n1,h=>.no (by rw[show n1=n from h])
 |t::ts,n,n1,⟨n2,h1,h2⟩=>h1.CK.trans (kN.CK h2)
theorem yT.CK (hT:yT n n1):sP (λa=>a.e≠0\/a.on=true) n n1:=by
 obtain⟨ts,n2,_,h1,h2⟩:=hT;obtain⟨_,_,_,_,e⟩:=h2.calm;obtain⟨sa,a1,a2⟩:=h1.CK;exact⟨sa,e.trans a1,a2⟩
def sP.imp {Q':jX->Prop} (h:sP Q n n1) (hq: ∀a,Q a->Q' a):sP Q' n n1:=
 let⟨sa,a1,a2⟩:=h
 ⟨sa,a1,λa ha=>⟨(a2 a ha).1,hq a (a2 a ha).2⟩⟩
end
def bh.aY (n:bh):List Rec:=n.cl.map λb=>(n.C b).r
theorem rU (n:bh):n.abs.2.map (·.1)=n.aY:=by unfold bh.abs bh.aY;rw[bw];rfl
theorem GY (t:bu) (l:List (Rec×Bool)):(AF t l).map (·.1)=l.map (·.1):=by
 unfold AF;rw[bw];refine dp λx _=>?_;dsimp only [Function.comp];split<;>rfl
def HA (n n1:bh):Prop:= ∃new:List Rec,n1.aY=n.aY++new/\n1.c.aN=n.c.aN/\n.c.ey<=n1.c.ey/\(∀r∈new,getM r.aH n.al≠none/\getM r.aH n1.al=none)/\
 ∀t,getM t n1.al≠none->getM t n.al≠none\/(t.aN=n.c.aN/\n.c.ey<t.sq)
section
variable {n n1 : bh} {m : cD} {t : bu} {b k N : Nat}
theorem HA.same (hc:n1.cl=n.cl) (hC:n1.C=n.C) (hl:n1.c.aN=n.c.aN) (hn:n1.c.ey=n.c.ey) (ha: ∀t,getM t n1.al≠none->getM t n.al≠none):HA n n1:=
 ⟨[],by unfold bh.aY;rw[hc,hC,dT],hl,by rw[hn];exact gP _,by simp,λt h=>.inl (ha t h)⟩
theorem Iw {k t:bu} {l:List (bu×Nat)} (h:getM t (ji k l)≠none):getM t l≠none:=λe=>h (by
 cases hg:getM t (ji k l)with
 |none=>rfl
 |some v=>rw[(na hg).1] at e;cases e)
theorem Am.yt {p:List ju} (hC:Am n p n1):HA n n1:=by
 obtain⟨xb,fD,Fk,vm,va,rm,ra,ms,d,rfl,Km,hc⟩:=hC;refine⟨[],(dT _).symm,rfl,by show n.c.ey<=n.c.ey+1;omega,by simp,λt h=>?_⟩;rcases hc with⟨a,_,_,rfl,_⟩|⟨_,rfl,_⟩
 ·exact .inl (Iw h)
 ·by_cases e:t=il n
  ·rw[e];exact .inr ⟨rfl,by show n.c.ey<n.c.ey+1;omega⟩
  ·have h:getM t (cI (il n) xb n.al)≠none:=h;rw[nL e] at h;exact .inl h
theorem An.yt {pp:Bool} (hG:An n m pp n1):HA n n1:=by
 obtain⟨b,fD,lZ,jh,lr,hb,hp,hc,rfl⟩:=hG;exact .same rfl rfl rfl rfl λt h=>Iw h
theorem Vr {d:yh} (hd:d.r=(n.C b).r):(mR n b d).aY=n.aY:=by
 refine dp λb' _=>?_
 show(if b'=b then d else n.C b').r=_
 split
 ·rename_i e;rw[hd,e]
 ·rfl
theorem uf.yt (hS:uf n m n1):HA n n1:=by
 rcases hS with⟨_,rfl⟩|⟨_,zW,⟨_,h1⟩|⟨JY,h1⟩|⟨_,h1⟩|⟨_,h1⟩|⟨_,_,_,_,rfl⟩⟩
 ·exact .same rfl rfl rfl rfl λt h=>h
 ·rcases h1 with⟨fD,rfl⟩|hG|⟨b,i,y,fD,xk,iR,kM,n2,hw,rfl,⟨_,rfl⟩|⟨_,n3,⟨jh,a,ha,_,lZ,lr,rfl,_⟩|⟨ids,pm,vq,vw2,rw2,bU,nN,Bx,nC,_,lZ,lr,rfl,_⟩,rfl⟩⟩
  ·exact .same rfl rfl rfl rfl λt h=>h
  ·exact hG.yt
  ·exact .same rfl rfl rfl rfl λt h=>h
  ·exact .same rfl rfl rfl rfl λt h=>Iw h
  ·exact .same rfl rfl rfl rfl λt h=>h
 ·rcases h1 with⟨fD,rfl,_⟩|hG|⟨b,i,y,fD,iR,kM,n2,hw,rfl,hc⟩
  ·exact .same rfl rfl rfl rfl λt h=>h
  ·exact hG.yt
  ·rcases hc with⟨_,rfl⟩|⟨_,⟨_,h0,jh,lZ,lr,rfl,_⟩|⟨_,bx,BO,vp,v2,jh,vs,GZ,fY,lZ,lr,rfl,_⟩⟩
   ·exact .same rfl rfl rfl rfl λt h=>h
   ·exact .same rfl rfl rfl rfl λt h=>Iw h
   ·refine⟨[jm m.aH ((dH n b (qV (n.A b) i m iR kM)).A b).x.mg ((dH n b (qV (n.A b) i m iR kM)).A b).ids],?_,rfl,gP _,λr hr=>?_,λt h=>.inl (Iw h)⟩
    ·show(n.cl++[bx]).map _=n.cl.map _++_
     rw[az];refine congr (congrArg _ (dp λb' dW=>?_)) ?_
     ·show(if b'=bx then _ else n.C b':yh).r=_
      rw[if_neg λe:b'=bx=>fY (by rw[<-e];exact dW)]
     ·show [(if bx=bx then _ else _:yh).r]=_
      rw[if_pos rfl]
    ·rw[List.mem_singleton.1 hr];exact⟨by show getM m.aH n.al≠none;rw[hw.g];simp,uG⟩
 ·rcases h1 with rfl|⟨b,i,v2,hD,⟨_,rfl⟩|⟨_,_,rfl⟩⟩
  ·exact .same rfl rfl rfl rfl λt h=>h
  ·exact⟨[],by rw[dT];exact Vr rfl,rfl,gP _,by simp,λt h=>.inl h⟩
  ·exact⟨[],by rw[dT];exact Vr (n:=Jc n (l7 m.aH)) rfl,rfl,gP _,by simp,λt h=>.inl h⟩
 ·rcases h1 with⟨_,rfl⟩|⟨_,_,_,rfl,_⟩
  ·exact .same rfl rfl rfl rfl λt h=>h
  ·exact .same rfl rfl rfl rfl λt h=>h
 ·exact .same rfl rfl rfl rfl λt h=>h
theorem kN.al: ∀{ts:List bu} {n n1:bh},kN ts n n1-> ∀t,getM t n1.al≠none->getM t n.al≠none
 |[],n,n1,h,t,e=>by rw[show n1=n from h] at e;exact e
 |t0::ts,n,n1,⟨n2,h1,h2⟩,t,e=>by
  have e2:=kN.al h2 t e;obtain⟨b0,uq,_,⟨_,jh,lZ,lr,rfl,_⟩|⟨_,lZ,lr,rfl,_⟩⟩:=h1
  ·exact Iw e2
  ·exact e2
theorem yT.yt (hT:yT n n1):HA n n1:=by
 obtain⟨ts,n2,_,h1,h2⟩:=hT;obtain⟨a1,_,a3,_⟩:=h2.calm;have b1:=h1.calm.1;exact .same (a1.cl.trans b1.cl) (a1.C.trans b1.C) (a1.aN.trans b1.aN) (a1.ey.trans b1.ey) λt h=>h1.al t (by rwa [<-a3])
structure Fact where
 t:bu
 c:Bool
 st:bX
def zZ (n:bh) (f:Fact):Prop:=(f.c=true/\ ∃r∈n.aY,r.aH=f.t/\r.aV=f.st)\/(f.c=false/\getM f.t n.al=none/\(∀r∈n.aY,r.aH≠f.t)/\f.t.aN<=n.c.aN/\(f.t.aN=n.c.aN->f.t.sq<=n.c.ey))
def Vs (a:jo) (f:Fact):Prop:=(f.c=true/\ ∃x∈a.2,x.1.aH=f.t/\x.1.aV=f.st)\/(f.c=false/\(∀x∈a.2,x.1.aH≠f.t)/\f.t.aN<=a.1)
def FI:CS->Fact->Prop
 | .up n,f=>zZ n f
 | .dn _ _ P,f=> ∀a,P a->Vs a f
theorem zZ.yt {f:Fact} (h:zZ n f) (g:HA n n1):zZ n1 f:=by
 obtain⟨new,g1,g2,g3,g4,g5⟩:=g;rcases h with⟨hc,r,hr,h1⟩|⟨hc,h1,h2,h3,h4⟩
 ·exact .inl ⟨hc,r,by rw[g1];exact bz _ hr,h1⟩
 ·refine .inr ⟨hc,?_,λr hr=>?_,by omega,λe=>by have:=h4 zQ;omega⟩
  ·cases e:getM f.t n1.al with
   |none=>rfl
   |some v=>
    rcases g5 f.t (by rw[e];simp)with q|⟨q1,q2⟩
    ·exact absurd h1 q
    ·have:=h4 q1;omega
  ·rw[g1] at hr;rcases List.mem_append.1 hr with hr|hr
   ·exact h2 r hr
   ·intro e;have:=(g4 r hr).1;rw[e] at this;exact this h1
theorem Vs.yj {a:jo} {f:Fact} (h:Vs a f) (hB:De a n1):zZ n1 f:=by
 have e1:n1.c.aN=a.1+1:=congrArg BW hB.abs;have e2:n1.aY=a.2.map (·.1):=by rw[<-rU,hB.abs]
 rcases h with⟨hc,x,hx,h1⟩|⟨hc,h2,h3⟩
 ·exact .inl ⟨hc,x.1,by rw[e2];exact List.mem_map.2 ⟨x,hx,rfl⟩,h1⟩
 ·refine .inr ⟨hc,by rw[hB.al];rfl,λr hr=>?_,by omega,λe=>by omega⟩;rw[e2] at hr;obtain⟨x,hx,rfl⟩:=List.mem_map.1 hr;exact h2 x hx
theorem zZ.dn {f:Fact} (h:zZ n f):Vs n.abs f:=by
 rcases h with⟨hc,r,hr,h1⟩|⟨hc,h1,h2,h3,h4⟩
 ·rw[<-rU] at hr;obtain⟨x,hx,rfl⟩:=List.mem_map.1 hr;exact .inl ⟨hc,x,hx,h1⟩
 ·exact .inr ⟨hc,λx hx=>h2 _ (by rw[<-rU];exact List.mem_map.2 ⟨x,hx,rfl⟩),h3⟩
theorem zZ.next {f:Fact} {a:jo} (h:zZ n f) (ha:RQ n m a):Vs a f:=by
 rcases ha with rfl|⟨_,b,i,y,hw,_,rfl⟩|⟨_,rfl⟩
 ·exact h.dn
 ·rcases h.dn with⟨hc,x,hx,h1⟩|⟨hc,h1,h2⟩
  ·exact .inl ⟨hc,x,bz _ hx,h1⟩
  ·refine .inr ⟨hc,λx hx=>?_,h2⟩;rcases List.mem_append.1 hx with hx|hx
   ·exact h1 x hx
   ·rw[List.mem_singleton.1 hx];intro e;rcases h with⟨AX,_⟩|⟨_,q,_⟩
    ·rw[hc] at AX;cases AX
    ·have e:m.aH=f.t:=e;rw[<-e,hw.g] at q;cases q
 ·have hm: ∀x∈AF m.aH n.abs.2,∃y∈n.abs.2,y.1=x.1:=λx hx=>by
   obtain⟨y,hy,e⟩:=List.mem_map.1 (show x.1∈n.abs.2.map (·.1)by rw[<-GY m.aH];exact List.mem_map.2 ⟨x,hx,rfl⟩);exact⟨y,hy,e⟩
  rcases h.dn with⟨hc,x,hx,h1⟩|⟨hc,h1,h2⟩
  ·obtain⟨y,hy,e⟩:=List.mem_map.1 (show x.1∈(AF m.aH n.abs.2).map (·.1)by rw[GY];exact List.mem_map.2 ⟨x,hx,rfl⟩);exact .inl ⟨hc,y,hy,by rw[e];exact h1⟩
  ·refine .inr ⟨hc,λx hx=>?_,h2⟩;obtain⟨y,hy,e⟩:=hm x hx;rw[<-e];exact h1 y hy
theorem FI.act {s s1:CS} {o:jq} {f:Fact} (h:FI s f) (hR:AG s o t s1):FI s1.vR f:=by
 cases s with
 |up n=>
  have h:zZ n f:=h;rcases hR with⟨_,_,n1,rfl,hC⟩|⟨hk,_,⟨n1,rfl,hC⟩|⟨m',rfl,hF⟩⟩|⟨_,_,n1,rfl,hC⟩|⟨_,_,rfl⟩|⟨_,_,n1,rfl,hB⟩|⟨_,_,rfl⟩
  ·exact h.yt hC.yt
  ·exact h.yt hC.yt
  ·exact λa ha=>h.next ha
  ·exact h.yt hC.yt
  ·exact h
  ·exact(show zZ n1 f from h.dn.yj hB)
  ·exact h
 |dn nb m P=>
  have h: ∀a,P a->Vs a f:=h;rcases hR with⟨_,_,n1,a,rfl,hP,_,hB⟩|⟨_,_,rfl⟩
  ·exact(show zZ n1 f from(h a hP).yj hB)
  ·exact h
end
theorem jX.apz {a b:jX} (h:a.l=b.l):a=b:=by
 obtain⟨e,⟨t1,t2,t3⟩,⟨s1,s2,s3⟩,o,v⟩:=a;obtain⟨e',⟨t1',t2',t3'⟩,⟨s1',s2',s3'⟩,o',v'⟩:=b;simp only[jX.l,El,oR,Value.int.injEq,Value.bool.injEq,true_and,and_true] at h;obtain⟨rfl,rfl,rfl,rfl,rfl,rfl,rfl,rfl,rfl⟩:=h;rfl
theorem PX: ∀{sa sb:List jX},sa.map jX.l=sb.map jX.l->sa=sb
 |[],[],_=>rfl
 |[],b::sb,h=>by cases h
 |a::sa,[],h=>by cases h
 |a::sa,b::sb,h=>by
  rw[aZ,aZ,oR] at h;rw[jX.apz h.1,PX h.2]
def EG (a:jX):Bool:=decide (a.e=0)&&!a.on
def aiR (n n1:bh) (a:jX):Prop:=(EG a=true/\ ∃r∈n1.aY,r.aH=a.t/\r.aV=a.st)\/(EG a=false/\n1.aY=n.aY)
section
variable {n n1 : bh} {m : cD} {t : bu} {b k N : Nat} {Q : jX -> Prop}
theorem sP.aeM (h:sP (λa=>a.e≠0\/a.on=true) n n1) (hr:n1.aY=n.aY):sP (aiR n n1) n n1:=h.imp λa ha=>.inr ⟨by
 unfold EG;rcases ha with h|h
 ·rw[decide_eq_false h];rfl
 ·rw[h];simp,hr⟩
theorem uf.arL (hS:uf n m n1):sP (aiR n n1) n n1:=by
 rcases hS with⟨_,rfl⟩|⟨_,zW,⟨_,h1⟩|⟨JY,h1⟩|⟨_,h1⟩|⟨_,h1⟩|⟨_,_,_,_,rfl⟩⟩
 ·exact .no rfl
 ·refine h1.CK.aeM ?_;rcases h1 with⟨fD,rfl⟩|⟨b,fD,lZ,jh,lr,hb,hp,hc,rfl⟩|⟨b,i,y,fD,xk,iR,kM,n2,hw,rfl,⟨_,rfl⟩|⟨_,n3,⟨jh,a,ha,_,lZ,lr,rfl,_⟩|⟨ids,pm,vq,vw2,rw2,bU,nN,Bx,nC,_,lZ,lr,rfl,_⟩,rfl⟩⟩<;>rfl
 ·rcases h1 with⟨fD,rfl,_⟩|hG|⟨b,i,y,fD,iR,kM,n2,hw,rfl,hc⟩
  ·exact .no rfl
  ·refine hG.CK.aeM ?_;obtain⟨b,fD,lZ,jh,lr,hb,hp,hc,rfl⟩:=hG;rfl
  ·rcases hc with⟨_,rfl⟩|⟨_,⟨_,h0,jh,lZ,lr,rfl,_⟩|⟨_,bx,BO,vp,v2,jh,vs,GZ,fY,lZ,lr,rfl,_⟩⟩
   ·exact .no rfl
   ·exact .one (a:=⟨_,m.aH,.zero,false,aR⟩) rfl rfl (.inr ⟨by unfold EG;rw[decide_eq_false λe=>h0 (Int.natCast_eq_zero.1 e)];rfl,rfl⟩)
   ·refine .one (a:=⟨0,m.aH,_,false,vs⟩) rfl GZ (.inl ⟨rfl,_,List.mem_map.2 ⟨bx,List.mem_append_right _ (List.mem_singleton.2 rfl),rfl⟩,?_⟩)
    show(if bx=bx then _ else _:yh).r.aH=_/\(if bx=bx then _ else _:yh).r.aV=_
    rw[if_pos rfl];exact⟨rfl,rfl⟩
 ·rcases h1 with rfl|⟨_,_,_,_,⟨_,rfl⟩|⟨_,_,rfl⟩⟩<;>exact .no rfl
 ·rcases h1 with⟨_,rfl⟩|⟨_,_,_,rfl,_⟩<;>exact .no rfl
 ·exact .no rfl
def aeN (n:bh) (t:bu):Prop:=t.aN<=n.c.aN/\(t.aN=n.c.aN->t.sq<=n.c.ey)
theorem zZ.born {f:Fact} (h:zZ n f) (gq:fL k N n):aeN n f.t:=by
 rcases h with⟨_,r,hr,e,_⟩|⟨_,_,_,h1,h2⟩
 ·rw[<-rU] at hr;obtain⟨x,hx,rfl⟩:=List.mem_map.1 hr;rw[<-e];exact⟨(gq.abs x hx).2.2.1,gq.BP x hx⟩
 ·exact⟨h1,h2⟩
theorem fL.acT (gq:fL k N n) (ht:getM t n.al=some b): ∀r∈n.aY,r.aH≠t:=λr hr e=>by
 obtain⟨b',dW,rfl⟩:=List.mem_map.1 hr;have h1:=(gq.act _ _ ht).bl;rw[(gq.bl _ _).2 ⟨dW,e⟩] at h1;cases h1
theorem fL.aiS {f:Fact} (gq:fL k N n) (h:zZ n f) (ht:getM t n.al=some b):f.t≠t:=λe=>by
 rcases h with⟨_,r,hr,h1,_⟩|⟨_,h1,_⟩
 ·exact gq.acT ht r hr (h1.trans e)
 ·rw[e,ht] at h1;cases h1
def aiT (n n1:bh) (sa:List jX):Prop:=n1.ra=sa.map jX.l/\(sa.map (·.t)).Nodup/\ ∀a∈sa,aJ.one a.vs=true/\zZ n1 ⟨a.t,EG a,a.st⟩/\ ∀f,zZ n f->f.t≠a.t
theorem Vt: ∀{sa:List jX},(∀t,AH t sa<=1)->(sa.map (·.t)).Nodup
 |[],_=>by simp
 |a::sa,h=>by
  rw[aZ,Co];refine⟨λhm=>?_,Vt λt=>by have:=h t;rw[Vq] at this;omega⟩;obtain⟨b,hb,e⟩:=List.mem_map.1 hm;have h1:=h a.t;rw[Vq,if_pos rfl] at h1;have h2:0<AH a.t sa:=wD (List.mem_filter.2 ⟨hb,decide_eq_true e⟩);omega
theorem agG {d:Int} (gq:fL k N n) (g:HA n n1) (h1:sP (aiR n n1) n n1) (h2: ∃sa,j8 n n1 sa/\ ∀t,Acc d n n1 sa t): ∃sa,aiT n n1 sa:=by
 obtain⟨sa,a1,a2⟩:=h1;obtain⟨sb,b1,b2⟩:=h2;have e:sa=sb:=PX (by
  have:=a1.symm.trans b1.1;exact List.append_cancel_left this)
 subst e;refine⟨sa,by rw[a1,gq.ok.ra];rfl,Vt λt=>?_,λa ha=>⟨(a2 a ha).1,?_,λf hf=>?_⟩⟩
 ·rcases b2 t with⟨b,_,⟨_,_,h⟩|⟨_,h⟩⟩|⟨_,_,h⟩<;>omega
 all_goals
  have hc:0<AH a.t sa:=wD (List.mem_filter.2 ⟨ha,decide_eq_true rfl⟩);obtain⟨b,hb,hn⟩: ∃b,getM a.t n.al=some b/\getM a.t n1.al=none:=by
   rcases b2 a.t with⟨b,hb,⟨_,_,h⟩|⟨h',_⟩⟩|⟨_,_,h⟩
   ·omega
   ·exact⟨b,hb,h'⟩
   ·omega
 ·obtain⟨new,g1,g2,g3,g4,g5⟩:=g;rcases(a2 a ha).2 with⟨hw,r,hr,e1,e2⟩|⟨hw,hr⟩
  ·exact .inl ⟨hw,r,hr,e1,e2⟩
  ·have q:=gq.act _ _ hb;exact .inr ⟨hw,hn,by rw[hr];exact gq.acT hb,by show a.t.aN<=_;rw[q.aN,g2];exact gP _,λ_=>by show a.t.sq<=_;have:=q.sq.2;omega⟩
 ·exact gq.aiS hf hb
end
theorem Vu {α β:Type} {f:α->β} : ∀{l:List α},(l.map f).Nodup-> ∀{a b:α},a∈l->b∈l->f a=f b->a=b
 |x::l,h,a,b,ha,hb,e=>by
  rw[aZ,Co] at h;have hx: ∀c∈l,f c≠f x:=λc hc e=>h.1 (e▸List.mem_map.2 ⟨c,hc,rfl⟩);rcases List.mem_cons.1 ha with ha|ha<;>rcases List.mem_cons.1 hb with hb|hb
  ·rw[ha,hb]
  ·exact absurd (by rw[<-e,ha]) (hx b hb)
  ·exact absurd (by rw[e,hb]) (hx a ha)
  ·exact Vu h.2 ha hb e
theorem AG.ans {n n1:bh} {o:jq} {t:bu} {k N:Nat} (gq:fL k N n) (kE:vO n) (hR:AG (.up n) o t (.up n1)): ∃sa,aiT n n1 sa:=by
 have no: ∀{n1:bh},n1.ra=[]-> ∃sa,aiT n n1 sa:=λh=>⟨[],h,by simp,by simp⟩;rcases hR with⟨_,_,n1,e,hC⟩|⟨hk,_,⟨n1,e,hC⟩|⟨m',e,hF⟩⟩|⟨_,_,n1,e,hC⟩|⟨_,_,e⟩|⟨_,_,n1,e,hB⟩|⟨_,_,e⟩<;>cases e
 ·obtain⟨sa,a1,a2⟩:=(hC.CK gq.ok.ra).aeM (by obtain⟨_,_,_,_,_,_,_,_,_,rfl,_⟩:=hC;rfl);have hb: ∀f,zZ n f->f.t≠il n:=λf hf e=>by
   have h:=(hf.born gq).2 (by rw[e];rfl);rw[e] at h;have:n.c.ey+1<=n.c.ey:=h;omega
  obtain⟨xb,fD,Fk,vm,va,rm,ra,ms,d,rfl,Km,⟨y,rfl,rfl,rfl,hc⟩|⟨rfl,_⟩⟩:=hC
  ·obtain⟨a,ha,dg⟩: ∃a:jX,y=a.l/\a.t=il n:=by
    rcases hc with⟨e,_,rfl⟩|⟨st,vs,_,rfl⟩
    ·exact⟨⟨e,il n,.zero,false,aR⟩,rfl,rfl⟩
    ·exact⟨⟨0,il n,st,true,vs⟩,rfl,rfl⟩
   have e1:sa=[a]:=PX (by rw[gq.ok.ra] at a1;rw[<-List.nil_append (sa.map jX.l),<-a1,ha];rfl);subst e1;have q:=a2 a (List.mem_singleton.2 rfl);refine⟨[a],by rw[a1,gq.ok.ra];rfl,by simp,λz hz=>?_⟩;rw[List.mem_singleton.1 hz];refine⟨q.1,?_,λf hf=>by rw[dg];exact hb f hf⟩;have YO: ∀r∈n.aY,r.aH≠il n:=λr hr e=>hb ⟨r.aH,true,r.aV⟩ (.inl ⟨rfl,r,hr,rfl,rfl⟩) e;rcases q.2 with⟨_,r,hr,e1,_⟩|⟨hw,_⟩
   ·exact absurd (e1.trans dg) (YO r hr)
   ·exact .inr ⟨hw,by show getM a.t (ji _ _)=none;rw[dg];exact uG,by rw[dg];exact YO,by show a.t.aN<=_;rw[dg];exact gP _,λ_=>by show a.t.sq<=_;rw[dg];exact gP _⟩
  ·exact no rfl
 ·exact agG gq hC.yt hC.arL (hC.acc kE)
 ·refine agG gq hC.yt (hC.CK.aeM ?_) hC.acc;obtain⟨ts,n2,_,h1,h2⟩:=hC;obtain⟨a1,_⟩:=h2.calm;have b1:=h1.calm.1;unfold bh.aY;rw[a1.cl,a1.C,b1.cl,b1.C]
 ·exact no gq.ok.ra
 ·exact no hB.ra
 ·exact no gq.ok.ra
section
variable {P : Program} {R : Ending -> World -> Prop} {X : XS} {w : World} {N : Value -> Prop} {t : TypeId} {xo yo : Operand} {a b c d : Bool}
theorem run_equalIn_bool (ht:P.underlying t=some .bool) (n:Nat) (a b:Bool) (w:World):(Op.equalIn (n+1) t (.bool a) (.bool b)).run P w= .ok (a==b) w:=by simp[Op.equalIn,run_underlying ht]
theorem aiU (ht:P.underlying t=some .bool) (h:N (.bool (a==b))):aX P X w (eP .eql t xo yo (.bool a) (.bool b)) N:=by
 refine bB (λwa=>?_) h;have:(Op.equal t (.bool a) (.bool b)).run P wa= .ok (a==b) wa:=run_equalIn_bool ht 9999 a b wa;simp[eP,eqGuard,binOp,this]
theorem aeO {s:Value->Value->Sem Value} {u v:Value} (h: ∀N:Value->Prop,N (.bool d)->aX P X w (s u v) N) (k:N (.bool (c&&d))):
  un (pA (.bool c) true u) λa=>un (pA (.bool c) true v) λb=>lP P X w (.bool c) true (vS (s a b)) λx=>lW P X w (ix (.bool c) x (.bool false)) N:=by
 cases c
 ·exact CM (CM (Ln (Gw k)))
 ·exact EX (EX (PY (h _ (Gv (by simpa using k)))))
def anC {q:IntKind} {i j:Int} (k:N (.bool (c&&decide (i=j)))):
  un (pA (.bool c) true (.int q i)) λa=>un (pA (.bool c) true (.int q j)) λb=>lP P X w (.bool c) true (vS (eP .eql t xo yo a b)) λx=>lW P X w (ix (.bool c) x (.bool false)) N:=
 aeO (λ_=>SV) k
def alC (ht:P.underlying t=some .bool) (k:N (.bool (c&&(a==b)))):
  un (pA (.bool c) true (.bool a)) λa=>un (pA (.bool c) true (.bool b)) λb=>lP P X w (.bool c) true (vS (eP .eql t xo yo a b)) λx=>lW P X w (ix (.bool c) x (.bool false)) N:=
 aeO (λ_=>aiU ht) k
def aiV {i j k i' j' k':Int} (ht:jC P t 3=true) (n:N (.bool (c&&decide (i=i'/\j=j'/\k=k')))):
  un (pA (.bool c) true (.agg #[.int .i64 i,.int .i64 j,.int .i64 k])) λa=>un (pA (.bool c) true (.agg #[.int .i64 i',.int .i64 j',.int .i64 k'])) λb=>
   lP P X w (.bool c) true (vS (eP .eql t xo yo a b)) λx=>lW P X w (ix (.bool c) x (.bool false)) N:=
 aeO (λ_=>Jh ht) n
theorem EY {f:FuncId} {u v:Value} {m:Bool} {M:Value->World->XS->Prop} (h:Ct P f #[u,v] w X nX λx _ _=>x= .bool d) (hf:enters P f=true) (hX: ∀k,X k->k<w.heap.size)
  (k: ∀w' X',ai X w X' w'->M (.bool (c&&d)) w' X'):
  un (pA (.bool c) true u) λa=>un (pA (.bool c) true v) λb=>jn (λ(x:Value) (w1:World) (X1:XS)=>lW P X1 w1 (ix (.bool c) x (.bool false)) λy=>M y w1 X1) λK=>
   gE (.bool c) true (eC P R X w m f #[a,b] K) (K undef w X):=by
 delta jn
 cases c
 ·exact CM (CM (akm (Gw (k w X (ai.fK hX)))))
 ·exact EX (EX (amp (dZ h hf hX λw' X' hs=>Gv (by simpa using k w' X' hs))))
end
set_option maxRecDepth 100000
set_option maxHeartbeats 1000000
section
variable {w : World} {X : XS}
theorem aeP:Ct pg 92 #[aR,aR] w X nX λv _ _=>v=B true:=by
  intro w0 hk;have h0:Sl w0 (bN w0) 1 aR (([]:List BA).map S1):=Sl.nil _ _ _;refine PZ.1 λhs=>?_;repeat' refine aL ?_;intros
  refine eI (λn a w X=>a=I 0/\ai (bN w0) w0 X w) 0 ⟨rfl,hs⟩ ?_;clear hs;rintro n a w X ⟨rfl,hs⟩;repeat' first|refine ao ?_;intros|refine cP ?_ ?_<;>intros|(exfalso;rename_i h;simp at h;done)
  exact bQ hs λwa aK=>rfl
theorem abM:Ct pg 93 #[aR,aR] w X nX λv _ _=>v=B true:=by
  intro w0 hk;have h0:Sl w0 (bN w0) 1 aR (([]:List BA).map S1):=Sl.nil _ _ _;refine N7.1 λhs=>?_;repeat' refine aL ?_;intros
  refine eI (λn a w X=>a=I 0/\ai (bN w0) w0 X w) 0 ⟨rfl,hs⟩ ?_;clear hs;rintro n a w X ⟨rfl,hs⟩;repeat' first|refine ao ?_;intros|refine cP ?_ ?_<;>intros|(exfalso;rename_i h;simp at h;done)
  exact bQ hs λwa aK=>rfl
theorem aeQ:Ct pg 94 #[aR,aR] w X nX λv _ _=>v=B true:=by
  intro w0 hk;have h0:Sl w0 (bN w0) 1 aR (([]:List BA).map S1):=Sl.nil _ _ _;refine P0.1 λhs=>?_;repeat' refine aL ?_;intros
  refine eI (λn a w X=>a=I 0/\ai (bN w0) w0 X w) 0 ⟨rfl,hs⟩ ?_;clear hs;rintro n a w X ⟨rfl,hs⟩;repeat' first|refine ao ?_;intros|refine cP ?_ ?_<;>intros|(exfalso;rename_i h;simp at h;done)
  exact bQ hs λwa aK=>rfl
theorem Wc:Ct pg 147 #[aR,aR] w X nX λv _ _=>v=B true:=by
  intro w0 hk;have h0:Sl w0 (bN w0) 1 aR (([]:List BA).map S1):=Sl.nil _ _ _;refine KM.1 λhs=>?_;repeat' refine aL ?_;intros
  refine eI (λn a w X=>a=I 0/\ai (bN w0) w0 X w) 0 ⟨rfl,hs⟩ ?_;clear hs;rintro n a w X ⟨rfl,hs⟩;repeat' first|refine ao ?_;intros|refine cP ?_ ?_<;>intros|(exfalso;rename_i h;simp at h;done)
  exact bQ hs λwa aK=>rfl
theorem Tw:Ct pg 146 #[aR,aR] w X nX λv _ _=>v=B true:=by
 intro w0 hk;have h0:Sl w0 (bN w0) 1 aR (([]:List BA).map S1):=Sl.nil _ _ _;refine Ji.1 λhs=>?_;repeat' refine aL ?_;intros
 refine gO (λn a _ w X=>a=I 0/\ai (bN w0) w0 X w) 0 ⟨rfl,hs⟩ ?_;clear hs;rintro n a _ w X ⟨rfl,hs⟩;repeat' first|refine ao ?_;intros|refine cP ?_ ?_<;>intros|(exfalso;rename_i h;simp at h;done)
 exact bQ hs λwa aK=>rfl
end
theorem ZM {w:World} {X:XS} {s:State} :Ct pg 95 #[s.v aR aR,s.v aR aR] w X nX λv _ _=>v=B true:=by
 intro w0 hk;refine P1.1 λhs=>?_;repeat' first|refine ao ?_;intros|(with_reducible refine akC _ _ ?_ ?_ ?_);(· kernel_rfl);all_goals intros|with_reducible apply cJ|(refine kn (RY _ _) hs ?_ ?_<;>intro _ w X hs)|contradiction|(exfalso;simp_all;done)|(with_reducible refine dZ Tw kQ hs.has λw X ay=>?_);replace hs:=hs.trans ay|(with_reducible refine dZ Wc kQ hs.has λw X ay=>?_);replace hs:=hs.trans ay
 exact bQ hs λwa aK=>rfl
theorem anD {s s':jo} {r:Rec} (h:sK s r=some s') (hs:(s.2.map λx=>x.1.aH).Nodup):(s'.2.map λx=>x.1.aH).Nodup:=by
 unfold sK at h;split at h
 ·split at h<;>cases h
  exact hs
 split at h
 ·split at h<;>cases h
  rename_i hc;rw[az,kW];refine⟨hs,by simp,λa ha b hb e=>?_⟩;obtain⟨x,hx,rfl⟩:=List.mem_map.1 ha;simp only[aZ,List.map_nil,av] at hb;exact hc.2.2 x hx (e.trans hb)
 split at h
 ·split at h<;>cases h
  have:(AF r.aH s.2).map (λx=>x.1.aH)=s.2.map λx=>x.1.aH:=by
   have:=congrArg (List.map Rec.aH) (GY r.aH s.2)
   rwa [bw,bw] at this
  rw[this];exact hs
 ·cases h
theorem acU: ∀{rs:List Rec} {s s':jo},yk s rs=some s'->(s.2.map λx=>x.1.aH).Nodup->(s'.2.map λx=>x.1.aH).Nodup
 |[],s,s',h,hs=>by cases h;exact hs
 |r::rs,s,s',h,hs=>by
  obtain⟨s1,h1,h2⟩:=Option.bind_eq_some_iff.1 h;exact acU h2 (anD h1 hs)
theorem fL.aY {k N:Nat} {n:bh} (h:fL k N n):(n.aY.map (·.aH)).Nodup:=by
 obtain⟨pre,sg,_,hR,_⟩:=h.log;obtain⟨rs,_,hg,_,hr⟩:=hR.rs;rw[<-rU,bw];exact acU hr sQ
section
variable {w w' wa w0 : World} {X X' : XS}
theorem aeR {r:Rec} {v v':Value} (h:Sl w X 1 v (r.parts.map I1)) (h':Sl w X 1 v' (r.parts.map I1)):
  Ct pg 50 #[r.v aR aR v aR aR aR,r.v aR aR v' aR aR aR] w X nX λu _ _=>u=B true:=by
 intro w0 hk;replace h:=h.mv hk.cd;replace h':=h'.mv hk.cd;have o1:=h.one;have o2:=h'.one;refine Tx.1 λhs=>?_;have hb: ∀{w X},Ct pg 91 #[.float .f64 r.su,.float .f64 r.su] w X nX λx _ _=>x= .bool true:=λwa ou=>(Ix _ _ wa).mono λe w' ⟨he,hx⟩=>⟨_,he,hx,by simp⟩;refine SV ?_;repeat (first|with_reducible refine anC ?_|(with_reducible refine aiV kQ ?_)|(with_reducible refine alC kQ ?_)|(with_reducible refine Jh kQ ?_))
 refine EY hb kQ hs.has λw1 X1 ay=>?_;replace hs:=hs.trans ay;refine EY aeP kQ hs.has λw2 X2 ay=>?_;replace hs:=hs.trans ay;refine EY abM kQ hs.has λw3 X3 ay=>?_;replace hs:=hs.trans ay;refine EY (Ty (h.mv hs.mv) (h'.mv hs.mv)) kQ hs.has λw4 X4 ay=>?_;replace hs:=hs.trans ay;refine EY aeQ kQ hs.has λw5 X5 ay=>?_;replace hs:=hs.trans ay;refine EY ZM kQ hs.has λw6 X6 ay=>?_;replace hs:=hs.trans ay;exact bQ hs λwa aK=>by simp
theorem abN {a b:Value} {zs zt:List (Rec×Value)} (ha:Sl w X 29 a (zs.map qz)) (hb:Sl w X 29 b (zt.map qz)) (e:zs.map (·.1)=zt.map (·.1)) (hp: ∀z∈zs,Sl w X 1 z.2 (z.1.parts.map I1)) (hq: ∀z∈zt,Sl w X 1 z.2 (z.1.parts.map I1)):
  Ct pg 23 #[a,b] w X nX λv _ _=>v=B true:=by
 intro w0 hk;replace ha:=ha.mv hk.cd;replace hb:=hb.mv hk.cd;have kV:=ha.gN;have hlen:zs.length=zt.length:=by have:=congrArg bf e;simpa using this
 refine RZ.1 λhs=>?_;repeat' refine aL ?_;intros
 refine eI (λn a w X=> ∃i:Nat,a=I i/\n=zs.length-i/\i<=zs.length/\ai (bN w0) w0 X w) zs.length ⟨0,rfl,rfl,aq _,hs⟩ ?_;clear hs;rintro n _ w1 X1 ⟨i,rfl,rfl,hi,hs⟩
 show(aX _ _ _ _ _:Prop)
 rcases dD zs i with⟨cx,z,hz,hd⟩|⟨dA,hd⟩
 ·obtain⟨z',uX⟩: ∃z',zt[i]? =some z':=⟨_,aS zQ⟩;have h1:=(hp z (ax hz)).mv hk.cd;have h2:=(hq z' (ax uX)).mv hk.cd;have he:z.1=z'.1:=by
   have:(zs.map (·.1))[i]? =(zt.map (·.1))[i]? :=by rw[e]
   rw[cK,cK,hz,uX] at this;simpa using this
  obtain⟨r,v⟩:=z;obtain⟨r',v'⟩:=z';obtain rfl:r=r':=he;have o1:=h1.one;have o2:=h2.one;repeat' refine aL ?_;intros
  refine dZ (aeR (r:=r) (h1.mv hs.mv) (h2.mv hs.mv)) kQ hs.has λw2 X2 ay=>?_;replace hs:=hs.trans ay;repeat' refine ao ?_;intros
  exact dS (zs.length-(i+1)) zQ ⟨i+1,congrArg I zQ,rfl,by omega,hs⟩
 ·repeat' refine aL ?_;intros
  exact bQ hs λwa aK=>rfl
variable {own aG bK : Nat -> Nat} {n n' : bh} {db k N : Nat} {m : DM} {s s' : CS}
def CS.reach:CS->jo->Prop
 | .up n,a=>a=n.abs
 | .dn _ _ P,a=>P a
theorem CS.Is.dk (h:CS.Is w own db s) (kz:CS.Ok k N s): ∃m,Hs (Rz db m) w own/\xw k (λa=>s.reach a/\Ao a) m:=by
 cases s with
 |up n=>
  obtain⟨hN,rfl⟩:=h;refine⟨n.m,⟨λc h0 h4=>?_,hN.lt⟩,(show fL k N n from kz).crs⟩;have:=hN.gJ c h0 h4;rcases c with _|_|_|_|c<;>first|exact Lg.dk this|trivial
 |dn nb m P=>
  refine⟨m,⟨λc h0 h4=>?_,(show Ns w own nb db m from h).lt⟩,(show Zs k P m from kz).2⟩;have:=(show Ns w own nb db m from h).gJ c h0 h4;rcases c with _|_|_|_|c<;>first|exact this|trivial
theorem agH (h:CS.Is w own db s) (hX:rO own X) (kz:CS.Ok k N s) (hk:k<=190):
  Ct pg 24 #[ptr db 0] w X (gC own) λv wa w'=> ∃aG n a,BT own aG wa.heap.size/\CS.Is w' aG db (.up n)/\v=ptr n.nb 0/\s.reach a/\De a n/\fL (k+1) N n:=by
 intro w0 iq;obtain⟨m,hd,hc⟩:=h.dk kz;have s0:=St.init hd hX iq;clear hd hX iq h;refine P2.1 λ_=>?_;refine s0.yj (N:=N) (vq:=aR) (cG:=[]) (Sl.nil _ _ _) hc hk λa w1 X1 ic n' s1 e1 ha haa hB sO=>?_;have hs:=s1.rf;repeat' refine aL ?_;intros
 exact s1.t.fin λwa ou=>⟨ic,n',a,s1.e,⟨s1.h.kp s1.x ou,e1⟩,rfl,ha,hB,sO⟩
theorem LS.less {T T':XS} (q:LS w0 bK T w X own db s) (hT: ∀k,T' k->T k):LS w0 bK T' w X own db s:=⟨q.t.less λk hk=>hk.imp id (hT k),q.h,q.x,q.e,λk hk=>q.tz k (hT k hk)⟩
theorem CS.aeA.msg (h:CS.aeA w own s): ∃vm va rm,s.out= .agg #[vm,va]/\Sl w (bI own 4) 36 vm rm/\fA w (bI own 4) rm s.ms/\Sl w (bI own 4) 9 va s.ra:=by
 cases s with
 |up n=>exact⟨n.vm,n.va,n.rm,rfl,h.om,h.hm,h.oa⟩
 |dn nb m P=>exact⟨aR,aR,[],rfl,Sl.nil _ _ _,fA.nil _ _,Sl.nil _ _ _⟩
theorem LS.new {T:XS} {w1:World} {X1:XS} (q:LS w0 bK T w X own db s) (hs:ai X w X1 w1) (hle:w.heap.size<=wa.heap.size) (gu: ∀k,made wa w1 k->X1 k):
  ∃aG,LS w0 bK T w1 X1 aG db s/\(∀k,made wa w1 k->aG k=4)/\Mv (bI own 4) w (bI aG 4) w1:=by
 obtain⟨aG,q',p4,p5⟩:=(q.since hs).vI (K:=made wa w1) λk hk=>⟨gu k hk,ad q.t.s.kp.size (ad hle hk.1),dO λe=>by have:=q.h.lt k e;have:=hk.1;omega,λh=>by have:=q.has k (q.t.bo k (.inr h));have:=hk.1;omega⟩;exact⟨aG,q',p4,λk (hk:own k=4) _=>⟨p5 k hk,hs.kp.block k (q.x k zQ)⟩⟩
theorem LS.app {G:XS} {te ty kk bytes tl:Nat} {v sv:Value} {rows cT:List (List Value)} {R:Ending->World->Prop} {N:Value->World->XS->Prop} (q:LS w0 bK (λj=>G j\/cU v j) w X own db s) (ho:Own w (cU v) 0 te kk v rows) (hd: ∀j,G j-> ¬cU v j) (he:nf pg tl te kk bytes=true) (src:Sl w X kk sv cT) (h1: ∀r∈cT,∀u∈r,aJ.one u=true)
  (hb:(rows.length+cT.length)*bytes<=140737488355328) (hl:rows.length+cT.length<=2^63-1)
  (n: ∀u w' X',LS w0 bK (λj=>G j\/cU u j) w' X' own db s->Own w' (cU u) 0 te kk u (rows++cT)->(∀j,G j-> ¬cU u j)->Mv (bI own 4) w (bI own 4) w'->Mv G w G w'->N u w' X'):eV pg R X w true (ru tl te kk bytes ty v sv) N:=by
 have hT: ∀j,cU v j->X j:=λj hj=>q.t.bo j (.inr (.inr hj));have hG: ∀j,G j->X j:=λj hj=>q.t.bo j (.inr (.inl hj));refine EV (ho.mono hT) q.has (aq _) he src h1 hb hl λu w2 X2 c jV dg=>n u w2 X2 (q.ann (c.mono λj _ hj=>.inr hj) λj hj=>?_) (Iy jV λg hg=>⟨hg,rfl⟩) (λj hj hu=>?_) (λk (hk:own k=4) _=>⟨hk,c.block k (q.x k zQ) λe=>by have:=q.tz k (.inr e);omega⟩) λk hk _=>⟨hk,c.block k (hG k hk) λe=>hd k hk e⟩
 ·rcases hj with hj|hj
  ·exact .inl (.inl hj)
  ·rcases dg with e|⟨g,e,dA⟩
   ·exact .inl (.inr (by have hj:u.ownBlock=some j:=hj;rw[e] at hj;exact hj))
   ·exact .inr ⟨jV.2.2 j hj,by have hj:u.ownBlock=some j:=hj;rw[e] at hj;cases hj;exact dA⟩
 ·rcases dg with e|⟨g,e,dA⟩
  ·exact hd j hj (by have hu:u.ownBlock=some j:=hu;rw[e] at hu;exact hu)
  ·have hu:u.ownBlock=some j:=hu;rw[e] at hu;cases hu;have:=q.has _ (hG _ hj);omega
end
def G4:CS->bu->Prop
 | .up n,t=>aeN n t
 | .dn _ _ P,t=> ∀a,P a->t.aN<=a.1
def ZN:CS->List Rec->Prop
 | .up n,W=>W<+:n.aY
 | .dn _ _ P,W=> ∀a,P a->W<+:a.2.map (·.1)
section
variable {n n1 : bh} {m : cD} {t t' : bu} {k N : Nat} {s s1 : CS} {o : jq}
theorem AG.ups (hR:AG (.up n) o t (.up n1)):HA n n1\/De n.abs n1:=by
 have rf:HA n n:=.same rfl rfl rfl rfl λt h=>h;rcases hR with⟨_,_,n1,e,hC⟩|⟨hk,_,⟨n1,e,hC⟩|⟨m',e,hF⟩⟩|⟨_,_,n1,e,hC⟩|⟨_,_,e⟩|⟨_,_,n1,e,hB⟩|⟨_,_,e⟩<;>cases e
 ·exact .inl hC.yt
 ·exact .inl hC.yt
 ·exact .inl hC.yt
 ·exact .inl (.same rfl rfl rfl rfl λt h=>h)
 ·exact .inr hB
 ·exact .inl rf
theorem Vv {a:jo} (h:RQ n m a):a.1=n.c.aN/\n.aY<+:a.2.map (·.1):=by
 rcases h with rfl|⟨_,b,i,y,hw,_,rfl⟩|⟨_,rfl⟩
 ·exact⟨rfl,by rw[rU];exact vQ _⟩
 ·exact⟨rfl,by rw[az,rU];exact zX _ _⟩
 ·exact⟨rfl,by show _<+:(AF m.aH n.abs.2).map _;rw[GY,rU];exact vQ _⟩
theorem G4.act (h:G4 s t') (hR:AG s o t s1):G4 s1.vR t':=by
 cases s with
 |up n=>
  have h:aeN n t':=h;cases s1 with
  |up n1=>
   rcases hR.ups with⟨new,_,e1,e2,_⟩|hB
   ·exact⟨by show _<=n1.c.aN;rw[e1];exact h.1,λe=>by have e:t'.aN=n1.c.aN:=e;have:=h.2 zQ;show _<=n1.c.ey;omega⟩
   ·have e1:n1.c.aN=n.c.aN+1:=congrArg BW hB.abs;have:=h.1;exact⟨by show _<=n1.c.aN;omega,λe=>by have e:t'.aN=n1.c.aN:=e;omega⟩
  |dn nb m' P=>
   rcases hR with⟨_,_,n1,e,hC⟩|⟨hk,_,⟨n1,e,hC⟩|⟨m',e,hF⟩⟩|⟨_,_,n1,e,hC⟩|⟨_,_,e⟩|⟨_,_,n1,e,hB⟩|⟨_,_,e⟩<;>cases e
   intro a ha;rw[(Vv ha).1];exact h.1
 |dn nb m P=>
  have h: ∀a,P a->t'.aN<=a.1:=h;rcases hR with⟨_,_,n1,a,rfl,hP,_,hB⟩|⟨_,_,rfl⟩
  ·have e1:n1.c.aN=a.1+1:=congrArg BW hB.abs;have:=h a hP;exact⟨by show _<=n1.c.aN;omega,λe=>by have e:t'.aN=n1.c.aN:=e;omega⟩
  ·exact h
theorem ZN.act {W:List Rec} (h:ZN s W) (hR:AG s o t s1):ZN s1.vR W:=by
 cases s with
 |up n=>
  have h:W<+:n.aY:=h;cases s1 with
  |up n1=>
   show W<+:n1.aY
   rcases hR.ups with⟨new,e0,_⟩|hB
   ·rw[e0];exact h.trans (zX _ _)
   ·rw[<-rU,hB.abs];rw[<-rU] at h;exact h
  |dn nb m' P=>
   rcases hR with⟨_,_,n1,e,hC⟩|⟨hk,_,⟨n1,e,hC⟩|⟨m',e,hF⟩⟩|⟨_,_,n1,e,hC⟩|⟨_,_,e⟩|⟨_,_,n1,e,hB⟩|⟨_,_,e⟩<;>cases e
   exact λa ha=>h.trans (Vv ha).2
 |dn nb m P=>
  have h: ∀a,P a->W<+:a.2.map (·.1):=h;rcases hR with⟨_,_,n1,a,rfl,hP,_,hB⟩|⟨_,_,rfl⟩
  ·show W<+:n1.aY
   rw[<-rU,hB.abs];exact h a hP
  ·exact h
theorem AG.name (kz:CS.Ok k N s) (hR:AG s o t s1):(t= .zero/\o.kind≠1)\/(t.dU=1/\G4 s1.vR t/\ ∀t',G4 s t'->t'≠t)\/t= .zero:=by
 cases s with
 |up n=>
  rcases hR with⟨_,rfl,n1,rfl,hC⟩|⟨_,h,_⟩|⟨_,h,_⟩|⟨_,h,_⟩|⟨_,h,_⟩|⟨_,h,_⟩
  ·refine .inr (.inl ⟨(show fL k N n from kz).ok.id,?_,λt' h e=>?_⟩)
   ·obtain⟨_,_,_,_,_,_,_,_,_,rfl,_⟩:=hC;exact⟨gP _,λ_=>gP _⟩
   ·have h:=(show aeN n t' from h).2 (by rw[e];rfl);rw[e] at h;have:n.c.ey+1<=n.c.ey:=h;omega
  all_goals exact .inr (.inr h)
 |dn nb m P=>
  rcases hR with⟨_,h,_⟩|⟨_,h,_⟩<;>exact .inr (.inr h)
end
section
variable {w w' wa w0 : World} {X X' G K K' F T T' : XS} {own aG bK : Nat -> Nat} {n n' : bh} {b : Nat} {t0 : bu} {db : Nat} {m : DM} {s s' : CS}
theorem P3 {P:Program} {X:XS} {w:World} {N:Value->Prop} {t:TypeId} {xo yo:Operand} {a b:Bool} (ht:P.underlying t=some .bool) (h:N (.bool (!(a==b)))):aX P X w (eP .neq t xo yo (.bool a) (.bool b)) N:=by
 refine bB (λwa=>?_) h;have:(Op.equal t (.bool a) (.bool b)).run P wa= .ok (a==b) wa:=run_equalIn_bool ht 9999 a b wa;simp[eP,eqGuard,binOp,this]
theorem arM {P:Program} {X:XS} {w:World} {N:Value->Prop} {c z:Bool} (k:N (.bool (c&&!z))):un (pA (.bool c) true (.bool z)) λa=>lP P X w (.bool c) true (vS (Op.unary .not a)) λy=>lW P X w (ix (.bool c) y (.bool false)) N:=by
 cases c
 ·exact CM (Ln (Gw k))
 ·exact EX (PY (SZ (Gv k)))
theorem aiW {zs:List (Rec×Value)} {r:Rec} {t:bu} (py:((zs.map (·.1)).map (·.aH)).Nodup) (hr:r∈zs.map (·.1)) (e:r.aH=t): ∃z,(zs.find? λz=>decide (z.1.aH=t))=some z/\z∈zs/\z.1=r:=by
 cases hf:zs.find? λz=>decide (z.1.aH=t)with
 |none=>
  obtain⟨z,hz,ez⟩:=List.mem_map.1 hr;exact absurd (show z.1.aH=t by rw[ez];exact e) (by simpa using List.find?_eq_none.1 hf z hz)
 |some z=>
  have hm:=List.mem_of_find?_eq_some hf;have ht:z.1.aH=t:=by simpa using List.find?_some hf
  exact⟨z,rfl,hm,Vu py (List.mem_map.2 ⟨z,hm,rfl⟩) hr (ht.trans e.symm)⟩
theorem acV {zs:List (Rec×Value)} {t:bu} (h: ∀r∈zs.map (·.1),r.aH≠t):(zs.find? λz=>decide (z.1.aH=t))=none:=
 List.find?_eq_none.2 λz hz=>by simpa using h _ (List.mem_map.2 ⟨z,hz,rfl⟩)
theorem agI {zs:List (Rec×Value)} {i:Nat} {x:Rec×Value} {l:List (Rec×Value)} (py:((zs.map (·.1)).map (·.aH)).Nodup) (hd:zs.drop i=x::l):((zs.take i).find? λz=>decide (z.1.aH=x.1.aH))=none:=by
 rw[<-eo i zs,hd,az,az,kW] at py;refine acV λr hr=>?_;exact py.2.2 _ (List.mem_map.2 ⟨r,hr,rfl⟩) _ (List.mem_map.2 ⟨x.1,List.mem_map.2 ⟨x,by simp,rfl⟩,rfl⟩)
theorem AG.answers {k N:Nat} {s s1:CS} {o:jq} {t:bu} (kz:CS.Ok k N s) (kE: ∀n,s= .up n->vO n) (hR:AG s o t s1):
  ∃sa:List jX,s1.ra=sa.map jX.l/\(sa.map (·.t)).Nodup/\sa.length<=1001/\ ∀a∈sa,aJ.one a.vs=true/\FI s1.vR ⟨a.t,EG a,a.st⟩/\ ∀f,FI s f->f.t≠a.t:=by
 have no:s1.ra=[]-> ∃sa:List jX,s1.ra=sa.map jX.l/\(sa.map (·.t)).Nodup/\sa.length<=1001/\ ∀a∈sa,aJ.one a.vs=true/\FI s1.vR ⟨a.t,EG a,a.st⟩/\ ∀f,FI s f->f.t≠a.t:=λh=>⟨[],h,by simp,by simp,by simp⟩;cases s with
 |up n=>
  have gq:fL k N n:=kz;cases s1 with
  |up n1=>
   obtain⟨sa,h1,h2,h3⟩:=AG.ans gq (kE n rfl) hR;refine⟨sa,h1,h2,?_,h3⟩;rw[<-af (f:=jX.l),<-h1];have h0:n.ra.length=0:=by rw[gq.ok.ra];rfl
   have h4:=gq.ok.Yi;have h5:=gq.ok.mM;rcases hR with⟨_,_,n1,e,hC⟩|⟨hk,_,⟨n1,e,hC⟩|⟨m',e,hF⟩⟩|⟨_,_,n1,e,hC⟩|⟨_,_,e⟩|⟨_,_,n1,e,hB⟩|⟨_,_,e⟩<;>cases e
   ·have:=hC.Vo;omega
   ·have:=hC.Vo.1;omega
   ·have:=hC.Vo.1;omega
   ·show n.ra.length<=_;omega
   ·rw[hB.ra];exact aq _
   ·omega
  |dn nb m P=>exact no rfl
 |dn nb m P=>
  rcases hR with⟨_,_,n1,a,rfl,hP,_,hB⟩|⟨_,_,rfl⟩
  ·exact no hB.ra
  ·exact no rfl
theorem FI.end {s:CS} {f:Fact} {a:jo} {n:bh} (h:FI s f) (ha:s.reach a) (hB:De a n):zZ n f:=by
 cases s with
 |up n'=>exact Vs.yj (by rw[show a=n'.abs from ha];exact zZ.dn h) hB
 |dn nb m P=>exact Vs.yj (h a ha) hB
structure anE (w0:World) (bK:Nat->Nat) (w:World) (X:XS) (own:Nat->Nat) (db k N:Nat) (s:CS) (vc vt vw:Value) (cs:List bu) (ta:List jX) (zw:List (Rec×Value)) (i:Nat):Prop where
 ls:LS w0 bK (λj=>cU vc j\/cU vt j) w X own db s
 ok:CS.Ok k N s
 cal:Own w (cU vc) 0 tT 3 vc (cs.map bu.l)
 tol:Own w (cU vt) 0 Vp 9 vt (ta.map jX.l)
 vs1: ∀a∈ta,aJ.one a.vs=true
 was:Sl w (bI own 4) 29 vw (zw.map qz)
 wps: ∀z∈zw,Sl w (bI own 4) 1 z.2 (z.1.parts.map I1)
 cb: ∀t∈cs,G4 s t
 tf: ∀a∈ta,FI s ⟨a.t,EG a,a.st⟩
 wf:ZN s (zw.map (·.1))
 cl:cs.length<=i
 tl:ta.length<=1001*i
 dj: ∀j,cU vt j-> ¬cU vc j
theorem KN {a:Value} {ops:List jq} (ha:fh w X 41 a jq.rd ops) (hm: ∀o∈ops,aeH o) (atY:yr ops<=2^20):
  Ct pg 5 #[a] w X nX λv _ _=>v=B true:=by
 have key: ∀w0,Kp X w w0->Calls pg 5 #[a] w0 (vi (gC λk=>if k<w0.heap.size then 4 else 0) w0 λv _=>v=B true):=by
  intro w0 hk;replace ha:=fh.mv ha jq.mv hk.cd;have kV:=ha.len;clear hk;obtain⟨bK,aeS⟩: ∃bK:Nat->Nat,bK=λk=>if k<w0.heap.size then 4 else 0:=⟨_,rfl⟩
  rw[<-aeS];have Mb:Ft w0 (gC bK) w0 (bN w0) nX:=(Ft.init λk hk=>by rw[aeS] at hk;exact dO λhl=>hk.1 (if_neg hl)).less λk hk=>hk.elim;have gn:=Mb.s;refine D7.1 λhs=>?_;refine dZ FR kQ hs.has λw1 X1 ay=>?_;have eh:=Mb.since ay;clear hs;have hs:=ai.fK ay.has;repeat' refine ao ?_;intros
  refine cA (aeG (ha.mv jq.mv ay.mv)) kQ ay.has ?_;rintro _ xQ w2 X2 ⟨b1,rfl,lM⟩ lD kh bA;have cX:=eh.since bA;clear hs;have hs:=ai.fK bA.has;cases b1 with
  |false=>
   repeat' refine ao ?_;intros
   refine dZ FR kQ bA.has λw3 X3 dm=>?_;exact(cX.since dm).fin λwa ou=>rfl
  |true=>
   have xd:=lM rfl;repeat' refine ao ?_;intros
   refine cA abL kQ bA.has ?_;rintro _ zS w4 X4 ⟨lR,n4,hmd,Vw,rfl,arN,hB4⟩ tK oV fV;have fP:=cX.since fV;have hle:w0.heap.size<=zS.heap.size:=ad cX.s.kp.size tK;subst aeS;obtain⟨mO,q5⟩:=LS.init (s:=.up n4) (db:=n4.db) fP (λk hk=>⟨hmd k hk,oV k (hmd k hk)⟩) hle ⟨Vw,rfl⟩;generalize n4.db=db at q5;clear hs Mb eh cX fP hmd Vw;have hs:=q5.rf;repeat' refine ao ?_;intros
   refine anF (λn a vw _ vt _ vc _ b w X=> ∃(i:Nat) (aG:Nat->Nat) (s:CS) (cs:List bu) (ta:List jX) (zw:List (Rec×Value)),a=I i/\b=ptr s.nb 0/\n=ops.length-i/\i<=ops.length/\anE w0 (λk=>if k<w0.heap.size then 4 else 0) w X aG db (i+1) (yr (ops.take i)) s vc vt vw cs ta zw i) ops.length
    ⟨0,mO,.up n4,[],[],[],rfl,rfl,rfl,aq _,⟨q5.less λk hk=>(by rcases hk with e|e<;>cases e),arN,Own.nil _ _ _ _ _,Own.nil _ _ _ _ _,by simp,Sl.nil _ _ _,by simp,by simp,by simp,List.nil_prefix,au _,au _,λj e=>by cases e⟩⟩ ?_
   clear q5 hs;rintro n _ vw _ vt _ vc _ _ w5 X5 ⟨i,zr,s6,cs,ta,zw,rfl,rfl,rfl,hi,⟨q6,ZO,P4,D8,arO,Mw,Mx,hcb,htf,hwf,pz,htl,OL⟩⟩;have hs:=q6.t.s;have haO:fh w0 (out (gC λk=>if k<w0.heap.size then 4 else 0) w0) 41 a jq.rd ops:=ha.mv jq.mv λk hk _=>⟨⟨hk,λh=>h.2 (if_pos hk)⟩,rfl⟩;rcases dD (ops) i with⟨cx,x,hx,hd⟩|⟨dA,hd⟩
   ·have hxo:=hm x (ax hx);have mX:=alo hx;repeat' first|refine aL ?_;intros|with_reducible apply cJ|(with_reducible apply FN);(case h=>exact haO);(case hr=>exact hx);(case hz=>rfl);(case ht=>kernel_rfl);(case hs=>kernel_rfl);intros
    refine q6.act (o:=x) ZO (q6.op aQ) hxo zQ zQ λv7 w7 X7 lj s7 q7 hP mT m4=>?_;obtain⟨s8,t8,rfl,hO,anG,rfl,hR⟩:=hP;have kE: ∀n,s6= .up n->vO n:=λn e=>by
     have h:=q6.h;rw[e] at h;exact(show jD w5 zr n from h.1).gJ 12 dQ dQ
    obtain⟨sa,arP,anH,atZ,aiX⟩:=hR.answers ZO kE;have xi:=hR.name ZO;have aiY:=λt ht=>(hcb t ht).act hR;have arQ:=λa ha=>(htf a ha).act hR;replace hwf:=hwf.act hR;obtain⟨vm,va,rm,hyz,ml,Kl,hsa⟩:=hO.msg;rw[arP] at hsa;rw[hyz];have oy:=ml.one;have oz:=hsa.one;replace P4:Own w7 (cU vc) 0 tT 3 vc (cs.map bu.l):=P4.mv λk hk hl=>⟨hk,(mT k (.inl hk) hl).2⟩;replace D8:Own w7 (cU vt) 0 Vp 9 vt (ta.map jX.l):=D8.mv λk hk hl=>⟨hk,(mT k (.inr hk) hl).2⟩;replace Mw:=Mw.mv m4;replace Mx:=λz hz=>(Mx z hz).mv m4;clear hs;have hs:=q7.rf;obtain⟨tv,htv⟩: ∃tv,tv=t8.v:=⟨_,rfl⟩;rw[<-htv];repeat' refine ao ?_;intros
    subst htv;refine aet t8.v rfl (ND rfl (ND rfl (acW kQ (Nw (ND rfl (Xd kQ (aet t8.v rfl (Jh kQ ?_))))))));obtain⟨z8,Vx⟩: ∃z8:Bool,z8=decide (t8.dU=0/\t8.aN=0/\t8.sq=0):=⟨_,rfl⟩;rw[<-Vx];have Yw:=P4.sl.gN;refine eI (λn a w X=> ∃k:Nat,a=I k/\n=cs.length-k/\k<=cs.length/\ai X7 w7 X w) cs.length ⟨0,rfl,rfl,aq _,hs⟩ ?_;clear hs;rintro n _ w8 X8 ⟨k,rfl,rfl,hk,hs⟩;have q8:=q7.since hs;refine anI (P4.sl.mv (λj hj _=>⟨q8.t.bo j (.inr (.inl hj)),hs.kp.block j (q7.t.bo j (.inr (.inl hj)))⟩:Mv (cU vc) w7 X8 w8)) kQ ?_;refine aco (arM (acq (λhb=>?_) λhb=>?_))
    ·simp only[aC,decide_eq_true_eq,Bool.not_eq_true',af] at hb;obtain⟨lM,uY⟩:=hb;obtain⟨y,hy⟩: ∃y,cs[k]? =some y:=⟨_,aS zQ⟩;have hyr:(cs.map bu.l)[k]? =some y.l:=by rw[cK,hy];rfl
     have jG:Sl w8 X8 3 vc (cs.map bu.l):=P4.sl.mv (λj hj _=>⟨q8.t.bo j (.inr (.inl hj)),hs.kp.block j (q7.t.bo j (.inr (.inl hj)))⟩:Mv (cU vc) w7 X8 w8);have bU:y≠t8:=by
      rw[uY] at Vx;have h0: ¬t8= .zero:=λe=>by rw[e] at Vx;cases Vx
      rcases xi with h|h|h
      ·exact absurd h.1 h0
      ·exact h.2.2 y (hcb y (ax hy))
      ·exact absurd h h0
     repeat' first|refine ao ?_;intros|(with_reducible refine RX _ _ ?_ ?_ ?_);(· kernel_rfl);all_goals intros|contradiction
     exact dS (cs.length-(k+1)) zQ ⟨k+1,congrArg I zQ,rfl,by omega,hs⟩
    ·clear hk hb;have m48:Mv (bI lj 4) w7 (bI lj 4) w8:=λj (hj:lj j=4) _=>⟨hj,hs.kp.block j (q7.x j zQ)⟩;have mt8:Mv (cU vt) w7 (cU vt) w8:=λj hj _=>⟨hj,hs.kp.block j (q7.t.bo j (.inr (.inr hj)))⟩;have aeT:Own w8 (cU vc) 0 tT 3 vc (cs.map bu.l):=P4.mv λj hj _=>⟨hj,hs.kp.block j (q7.t.bo j (.inr (.inl hj)))⟩;refine gZ (Q:=λK=> ∀(v':Value) (oh:List bu) w X,LS w0 (λk=>if k<w0.heap.size then 4 else 0) (λj=>cU v' j\/cU vt j) w X lj db s8.vR->Own w (cU v') 0 tT 3 v' (oh.map bu.l)->Mv (bI lj 4) w7 (bI lj 4) w->Mv (cU vt) w7 (cU vt) w->(∀t∈oh,G4 s8.vR t)->oh.length<=i+1->(∀j,cU vt j-> ¬cU v' j)->K v' w X) ?_ λK hK=>?_
     ·clear hs q7 q8 P4 aeT m48 mt8 hcb aiY pz OL;intro v9 cs9 w9 X9 q9 aeU m49 mt9 arR arS arT;replace hsa:=hsa.mv m49;replace Mw:=Mw.mv m49;replace Mx:=λz hz=>(Mx z hz).mv m49;replace D8:=D8.mv mt9;refine BE (λn a Kt _ w X=> ∃k:Nat,a=I k/\n=sa.length-k/\k<=sa.length/\LS w0 (λk=>if k<w0.heap.size then 4 else 0) (λj=>cU v9 j\/cU Kt j) w X lj db s8.vR/\Own w (cU Kt) 0 Vp 9 Kt ((ta++sa.take k).map jX.l)/\(∀j,cU v9 j-> ¬cU Kt j)/\Mv (bI lj 4) w9 (bI lj 4) w/\Mv (cU v9) w9 (cU v9) w) sa.length ⟨0,rfl,rfl,aq _,q9,by rw[List.take_zero,dT];exact D8,λj h1 h2=>arT j h2 h1,Mv.refl _ _,Mv.refl _ _⟩ ?_;clear q9 D8 m49 mt9;rintro n _ Kt _ wC Cm ⟨k,rfl,rfl,hk,zk,D8,OL,aeV,anJ⟩;have hs:=zk.rf;have at0:Sl wC Cm 9 va (sa.map jX.l):=(hsa.mv aeV).mono λj (hj:lj j=4)=>zk.x j zQ;have htX:Sl wC Cm 9 Kt ((ta++sa.take k).map jX.l):=D8.sl.mono λj hj=>zk.t.bo j (.inr (.inr hj));have at1:=htX.gN
      show(jg _ _:Prop)
      rcases dD sa k with⟨cx,y,hy,R0⟩|⟨dA,R0⟩
      ·have hym:=ax hy;obtain⟨hyo,hyf,hyn⟩:=aiX y hym;repeat' refine aL ?_;intros
       refine eI (λn a w X=> ∃j:Nat,a=I j/\n=(ta++sa.take k).length-j/\j<=(ta++sa.take k).length/\ai Cm wC X w) (ta++sa.take k).length ⟨0,rfl,rfl,aq _,hs⟩ ?_;clear hs;rintro n _ w11 X11 ⟨j,rfl,rfl,hj,hs⟩
       show(aX _ _ _ _ _:Prop)
       rcases dD (ta++sa.take k) j with⟨Tf,z,hz,sG⟩|⟨Fs,sG⟩
       ·have hzn:z.t≠y.t:=by
         rcases List.mem_append.1 (ax hz)with h|h
         ·exact hyn _ (htf z h)
         ·rw[<-eo k sa,R0,az,kW] at anH;exact anH.2.2 _ (List.mem_map.2 ⟨z,h,rfl⟩) _ (List.mem_map.2 ⟨y,by simp,rfl⟩)
        have at2: ¬(z.t.dU=y.t.dU/\z.t.aN=y.t.aN/\z.t.sq=y.t.sq):=λe=>hzn (bu.ext e.1 e.2.1 e.2.2);repeat' first|refine aL ?_;intros|(with_reducible refine RX _ _ ?_ ?_ ?_);(· kernel_rfl);all_goals intros|contradiction
        exact dS ((ta++sa.take k).length-(j+1)) zQ ⟨j+1,congrArg I zQ,rfl,by omega,hs⟩
       ·obtain rfl:j=(ta++sa.take k).length:=by omega
        repeat' first|refine aL ?_;intros|(refine Y6 hs ?_;intro _ _ _ w X hs ho)
        refine(zk.since hs).app (G:=cU v9) (D8.mv λj hj _=>⟨hj,hs.kp.block j (zk.t.bo j (.inr (.inr hj)))⟩) OL kQ ho.sl (by simp[aJ.one];exact hyo) (by simp only[aa,af,aD,bH];omega) (by simp only[aa,af,aD,bH];omega) λu yl Ks Iz aiZ ai0 m12 ai1=>?_;have arU:Mv (bI lj 4) w9 (bI lj 4) yl:=(aeV.trans (λk (hk:lj k=4) _=>⟨hk,hs.kp.block k (zk.x k zQ)⟩)).trans m12;have arX:Mv (cU v9) w9 (cU v9) yl:=(anJ.trans (λk hk _=>⟨hk,hs.kp.block k (zk.t.bo k (.inr (.inl hk)))⟩)).trans ai1;clear hs;have hs:=Iz.rf;repeat' refine ao ?_;intros
        exact zU (sa.length-(k+1)) zQ ⟨k+1,congrArg I zQ,rfl,by omega,Iz,by rw[cn,hy];simpa using aiZ,ai0,arU,arX⟩
      ·obtain rfl:k=sa.length:=by omega
       rw[lG] at D8;repeat' refine aL ?_;intros
       replace aeU:=aeU.mv anJ;replace Mw:=Mw.mv aeV;replace Mx:=λz hz=>(Mx z hz).mv aeV;have akD: ∀{yl:World} {Ks:XS} {Dc:Nat->Nat} {iR:Value} {zw':List (Rec×Value)},LS w0 (λk=>if k<w0.heap.size then 4 else 0) (λj=>cU v9 j\/cU Kt j) yl Ks Dc db s8.vR->Mv (cU v9) wC (cU v9) yl->Mv (cU Kt) wC (cU Kt) yl->Sl yl (bI Dc 4) 29 iR (zw'.map qz)->(∀z∈zw',Sl yl (bI Dc 4) 1 z.2 (z.1.parts.map I1))->ZN s8.vR (zw'.map (·.1))->anE w0 (λk=>if k<w0.heap.size then 4 else 0) yl Ks Dc db (i+1+1) (yr (ops.take (i+1))) s8.vR v9 Kt iR cs9 (ta++sa) zw' (i+1):=λq mc mt h1 h2 h3=>
        ⟨q,by rw[Vn hx];exact anG,aeU.mv mc,D8.mv mt,λa ha=>(List.mem_append.1 ha).elim (arO a) λh=>(aiX a h).1,h1,h2,arR,λa ha=>(List.mem_append.1 ha).elim (arQ a) λh=>(aiX a h).2.1,h3,arS,by rw[aa];omega,λj h1 h2=>OL j h2 h1⟩
       have mv0: ∀{yl:World} {Ks:XS},ai Cm wC Ks yl->Mv (cU v9) wC (cU v9) yl/\Mv (cU Kt) wC (cU Kt) yl/\Mv (bI lj 4) wC (bI lj 4) yl:=λh=>
        ⟨λj hj _=>⟨hj,h.kp.block j (zk.t.bo j (.inr (.inl hj)))⟩,λj hj _=>⟨hj,h.kp.block j (zk.t.bo j (.inr (.inr hj)))⟩,λj (hj:lj j=4) _=>⟨hj,h.kp.block j (zk.x j zQ)⟩⟩
       cases s8 with
       |dn nb m P=>
        refine dZ (Wa (Hu.mv (Hs.gJ (show Ns wC lj nb db m from zk.h) 1 dQ dQ) (Mv.sub λk (e:lj k=1)=>zk.x k zQ))) kQ zk.has λyl Ks nV=>?_;have Iz:=zk.since nV;clear hs;have hs:=Iz.rf;repeat' refine ao ?_;intros
        obtain⟨m1,m2,m3⟩:=mv0 nV;exact agJ (ops.length-(i+1)) zQ ⟨i+1,lj,.dn nb m P,cs9,ta++sa,zw,congrArg I zQ,rfl,rfl,by omega,akD Iz m1 m2 (Mw.mv m3) (λz hz=>(Mx z hz).mv m3) hwf⟩
       |up n1=>
        have gq:fL (i+1+1) (yr (ops.take i)+x.m.seen.length) (eQ n1):=anG;refine dZ (Wb (n:=eQ n1) (show jD wC lj (eQ n1)from zk.h.1) zk.x) kQ zk.has λyl Ks nV=>?_;have Iz:=zk.since nV;clear hs;have hs:=Iz.rf;repeat' refine ao ?_;intros
        refine cA (FY (n:=eQ n1) Iz.h.1 Iz.x (ad gq.ok.cl gq.ok.mM) λb hb=>ad (gq.parts b hb) dQ) kQ Iz.has ?_;rintro vz at3 Zl X13 ⟨zs,hzo,Vy⟩ apA apB LN;obtain⟨Dd,q13,p13,m13⟩:=Iz.new LN apA apB;have uI:Sl Zl (bI Dd 4) 29 vz (zs.map qz):=(hzo.mono p13).sl;have hzp: ∀z∈zs,Sl Zl (bI Dd 4) 1 z.2 (z.1.parts.map I1):=λz hz=>(Vy.2 z hz).mono p13;obtain⟨m1,m2,m3⟩:=mv0 (nV.trans LN);have Bx:zw.map (·.1)<+:zs.map (·.1):=by rw[Vy.1];exact hwf
        have hlw:zw.length<=zs.length:=by simpa using Bx.length_le
        have hzX:Sl Zl X13 29 vz (zs.map qz):=uI.mono λj (hj:Dd j=4)=>q13.x j zQ;have hwX:Sl Zl X13 29 vw (zw.map qz):=(Mw.mv m3).mono λj (hj:lj j=4)=>(nV.trans LN).sub j (zk.x j zQ);have UD:=hzX.gN;clear hs;have hs:=q13.rf;repeat' refine aL ?_;intros
        have ev:(zs.take zw.length).map (·.1)=zw.map (·.1):=by
         rw[kA,List.prefix_iff_eq_take.1 Bx,af]
        refine P5 hzX (i:=zw.length) rfl (by rw[af];exact hlw) kQ kQ λv4 XV=>?_;rw[<-kA] at XV;repeat' first|refine ao ?_;intros|with_reducible apply cJ
        refine dZ (abN (zs:=zs.take zw.length) (zt:=zw) XV hwX ev (λz hz=>(hzp z (dc hz)).mono λj (hj:Dd j=4)=>q13.x j zQ) λz hz=>((Mx z hz).mv m3).mono λj (hj:lj j=4)=>(nV.trans LN).sub j (zk.x j zQ)) kQ hs.has λw14 X14 ai2=>?_;have q14:=q13.since ai2;have m14:Mv (bI Dd 4) Zl (bI Dd 4) w14:=λj (hj:Dd j=4) _=>⟨hj,ai2.kp.block j (q13.x j zQ)⟩;obtain⟨m1,m2,-⟩:=mv0 ((nV.trans LN).trans ai2);clear hs;have hs:=q14.rf;repeat' refine ao ?_;intros
        exact agJ (ops.length-(i+1)) zQ ⟨i+1,Dd,(CS.up n1).vR,cs9,ta++sa,zs,congrArg I zQ,rfl,rfl,by omega,akD q14 m1 m2 (uI.mv m14) (λz hz=>(hzp z hz).mv m14) (by show _<+:_;rw[Vy.1];exact vQ _)⟩
     ·cases z8 with
      |true=>
       repeat' refine ao ?_;intros
       exact hK vc cs w8 X8 q8 aeT m48 mt8 aiY zQ OL
      |false=>
       have UR:G4 s8.vR t8:=by
        have h0: ¬t8= .zero:=λe=>by rw[e] at Vx;cases Vx
        rcases xi with h|h|h
        ·exact absurd h.1 h0
        ·exact h.2.1
        ·exact absurd h h0
       clear hs;have hs:=q8.rf;repeat' first|refine ao ?_;intros|(refine Y6 hs ?_;intro _ _ _ w X hs ho)
       refine((q8.since hs).less (T':=λj=>cU vt j\/cU vc j) λj hj=>hj.symm).app (G:=cU vt) (aeT.mv λj hj _=>⟨hj,hs.kp.block j (q8.t.bo j (.inr (.inl hj)))⟩) OL kQ ho.sl (by simp[aJ.one]) (by simp only[af,bH];omega) (by simp only[af,bH];omega) λu yl Ks Iz aiZ ai0 m12 ai1=>?_;refine hK u (cs++[t8]) yl Ks (Iz.less λj hj=>hj.symm) (by rw[az];exact aiZ) ((m48.trans (λk (hk:lj k=4) _=>⟨hk,hs.kp.block k (q8.x k zQ)⟩)).trans m12) ((mt8.trans (λk hk _=>⟨hk,hs.kp.block k (q8.t.bo k (.inr (.inr hk)))⟩)).trans ai1) (λt ht=>(List.mem_append.1 ht).elim (aiY t) λh=>by rw[List.mem_singleton.1 h];exact UR) oQ ai0
   ·obtain rfl:i=ops.length:=by omega
    rw[lG] at ZO;repeat' refine aL ?_;intros
    refine q6.call (Q:=λv w' aG s1=> ∃n a,s1= .up n/\v=ptr n.nb 0/\s6.reach a/\De a n/\fL (ops.length+2) (yr ops) n) ((agH q6.h q6.x ZO zQ).mono λv wa w' _ ⟨aG,n,a,e,h',hv,hr,hB,gq⟩=>⟨aG,.up n,e,h',n,a,rfl,hv,hr,hB,gq⟩) kQ λv w7 X7 lj s7 q7 hQ mT m4=>?_;obtain⟨n7,a7,rfl,rfl,hr7,hB7,aeW⟩:=hQ;have hf: ∀a∈ta,zZ n7 ⟨a.t,EG a,a.st⟩:=λa ha=>(htf a ha).end hr7 hB7;have arY:Sl w7 X7 9 vt (ta.map jX.l):=(D8.mv λk hk hl=>⟨hk,(mT k (.inr hk) hl).2⟩:Own w7 (cU vt) 0 Vp 9 vt _).sl.mono λk hk=>q7.t.bo k (.inr (.inr hk));clear hs;have hs:=q7.rf;repeat' refine ao ?_;intros
    refine cA (FY (n:=n7) q7.h.1 q7.x (ad aeW.ok.cl aeW.ok.mM) λb hb=>ad (aeW.parts b hb) dQ) kQ q7.has ?_;rintro vl wa8 w8 X8 ⟨zs,hzo,Vy⟩ arZ ai3 kT;have q8:=q7.since kT;have mX:Sl w8 X8 29 vl (zs.map qz):=hzo.sl.mono ai3;have UD:=mX.gN;have CH: ∀z∈zs,aJ.one z.2=true:=λz hz=>(Vy.2 z hz).one;have py:((zs.map (·.1)).map (·.aH)).Nodup:=by rw[Vy.1];exact aeW.aY
    have anK:=arY.mv kT.mv;have at4:=anK.gN;clear hs;have hs:=q8.rf
    skip
    refine eI (λn a w X=> ∃k:Nat,a=I k/\n=zs.length-k/\k<=zs.length/\ai X8 w8 X w) zs.length ⟨0,rfl,rfl,aq _,hs⟩ ?_;clear hs;rintro n _ w9 X9 ⟨k,rfl,rfl,hk,hs⟩
    show(aX _ _ _ _ _:Prop)
    rcases dD zs k with⟨cx,z,hz,R0⟩|⟨dA,R0⟩
    ·have anM:Sl w9 X9 29 vl (zs.map qz):=mX.mv hs.mv;have at5:(zs.map qz)[k]? =some (qz z):=by rw[cK,hz];rfl
     repeat' first|refine aL ?_;intros|with_reducible apply cJ
     refine P5 anM (i:=k) rfl (by rw[af];exact hk) kQ kQ λv4 XV=>?_;rw[<-kA] at XV;repeat' refine ao ?_;intros
     refine And.intro ?_ ?_;all_goals
      refine cA (GX (t:=z.1.aH) (zs:=zs.take k) XV λz hz=>CH z (dc hz)) kQ hs.has ?_;rintro vf ane wC Cm ZP akx W8 Te;rw[agI py R0] at ZP;obtain rfl:vf= .tuple #[.agg PL.toArray,B false]:=ZP;replace hs:=hs.trans Te;repeat' refine ao ?_;intros
      exact dS (zs.length-(k+1)) zQ ⟨k+1,congrArg I zQ,rfl,by omega,hs⟩
    ·obtain rfl:k=zs.length:=by omega
     repeat' refine aL ?_;intros
     refine eI (λn a w X=> ∃k:Nat,a=I k/\n=ta.length-k/\k<=ta.length/\ai X8 w8 X w) ta.length ⟨0,rfl,rfl,aq _,hs⟩ ?_;clear hs;rintro n _ wC Cm ⟨k,rfl,rfl,hk,hs⟩
     show(aX _ _ _ _ _:Prop)
     have anN:Sl wC Cm 9 vt (ta.map jX.l):=anK.mv hs.mv;rcases dD ta k with⟨cx,y,hy,R0⟩|⟨dA,R0⟩
     ·have hym:=ax hy;have hyr:(ta.map jX.l)[k]? =some y.l:=by rw[cK,hy];rfl
      repeat' refine aL ?_;intros
      refine cA (GX (t:=y.t) (zs:=zs) (mX.mv hs.mv) CH) kQ hs.has ?_;rintro vf at6 w11 X11 ZP ate atf PN;replace hs:=hs.trans PN;replace anN:=anN.mv PN.mv;rcases hf y hym with⟨hc,r,hr,e1,e2⟩|⟨hc,_,h2,_⟩
      ·obtain⟨z,hzf,hzm,QT⟩:=aiW (zs:=zs) (t:=y.t) py (by rw[Vy.1];exact hr) e1;rw[hzf] at ZP;obtain rfl:vf= .tuple #[.agg (qz z).toArray,B true]:=ZP;have oz:=CH z hzm;have es:z.1.aV=y.st:=by rw[QT];exact e2
       obtain⟨A2,sL⟩:y.e=0/\y.on=false:=by
        have hc:(decide (y.e=0)&&!y.on)=true:=hc;simpa using hc
       have hy2:ta[k]? =some ⟨0,y.t,y.st,false,y.vs⟩:=by rw[hy,<-A2,<-sL]
       clear hyr hy;repeat' first|refine ao ?_;intros|refine cP ?_ ?_<;>intros|contradiction
       refine P3 kQ ?_;simp only[beq_self_eq_true,zv,yq];repeat' first|refine ao ?_;intros|(with_reducible refine akE _ _ ?_ ?_ ?_);(· kernel_rfl);all_goals intros|contradiction
       exact dS (ta.length-(k+1)) zQ ⟨k+1,congrArg I zQ,rfl,by omega,hs⟩
      ·rw[acV (zs:=zs) (by rw[Vy.1];exact h2)] at ZP;obtain rfl:vf= .tuple #[.agg PL.toArray,B false]:=ZP;have hw: ¬(y.e=0/\y.on=false):=λ⟨h1,h2⟩=>by
        have hc:(decide (y.e=0)&&!y.on)=false:=hc;rw[h1,h2] at hc;exact absurd hc dQ
       by_cases A2:y.e=0
       ·have sL:y.on=true:=by cases h:y.on with|true=>rfl|false=>exact absurd ⟨A2,h⟩ hw
        have hy2:ta[k]? =some ⟨0,y.t,y.st,true,y.vs⟩:=by rw[hy,<-A2,<-sL]
        clear hyr hy;repeat' first|refine ao ?_;intros|refine cP ?_ ?_<;>intros|contradiction
        refine P3 kQ ?_;simp only[beq_self_eq_true,zv,yq];repeat' refine ao ?_;intros
        exact dS (ta.length-(k+1)) zQ ⟨k+1,congrArg I zQ,rfl,by omega,hs⟩
       ·repeat' refine aL ?_;intros
        refine P3 kQ ?_;simp only[beq_self_eq_true,zv,yq];repeat' refine ao ?_;intros
        exact dS (ta.length-(k+1)) zQ ⟨k+1,congrArg I zQ,rfl,by omega,hs⟩
     ·obtain rfl:k=ta.length:=by omega
      repeat' refine aL ?_;intros
      refine dZ FR kQ hs.has λw11 X11 PN=>?_;exact(q8.since (hs.trans PN)).t.fin λwa ou=>rfl
 intro w0 hk;refine(key w0 hk).mono λe w' ⟨v,he,hf,hv⟩=>⟨v,he,hf.mono λk hk=>?_,hv⟩;by_cases hl:k<w0.heap.size
 ·exact(hk.2 (if_pos hl)).elim
 ·exact(hk.1 (if_neg hl)).elim
end
namespace coordPresumes
theorem ai4 (H:Type) (enc:TypeId×Value->H) (W:World) (base:Nat) (args:Array Value) (ds gs:List (DataW H)) (before:List MemPlace)
  (ZQ: ∀(j:Nat) t v,Tryz.f5.params[j]? =some t->args[j]? =some v->Value.okWide pg W .any base t v)
  (hW:DataW.Whole enc pg Tryz.f5.params.toList Rows.coordPresumesSpec.vars false W args.toList ds gs before) (hk:Rows.uptoSmall H (ds++gs)=true):
  Calls pg 5 args W λe W'=> ∃v,e= .returned v/\Rows.coordPresumesSpec.post enc pg Tryz.f5 false true false false W args v W':=by
 have hW':=hW;obtain⟨p,q,hA0,hV,rfl,hfz,py⟩:=hW;have hA:DataW.TrodAll enc pg W 0 (λ_=>true) true Tryz.f5.params.toList args.toList ds p:=hA0;rw[Tryz.params5] at hA ZQ;obtain⟨v0,vs0,d0,ds0,p0,q0,akk,rfl,rfl,h0,r0⟩:=trodAll_cons hA;obtain⟨rfl,rfl,rfl⟩:=trodAll_nil r0;obtain rfl:args= #[v0]:=by cases args;simp_all
 obtain⟨rfl,rfl⟩:=trodVars_none hV;obtain⟨b0,n0,c0,rfl⟩:=okWide_slice Tryz.underlying22 (ZQ 0 22 v0 rfl rfl);obtain⟨f0,hf0⟩:=h0;obtain⟨x0,⟨u0,hu0,r0'⟩,wt0⟩:=aiQ H enc W f0 _ _ hf0;obtain rfl:u0= .slice b0 n0 c0:=by grind [Value.cells]
 have hbk:=bound hk;have ht0:Wt.wt x0<=Rows.uptoBulk d0:=wt0;have hw:Wt.wt x0<=1048576:=by
  simp only[dT,Rows.uptoBulkAll] at hbk ht0;omega
 obtain⟨k1,k2⟩:=anA (l:=x0) (B:=1048576) zQ (au _);refine(KN (X:=bN W) r0' k1 zQ W (Kp.refl _ _)).mono λe W' ⟨v,he,xv,hq⟩=>?_;subst he;subst hq;exact⟨_,rfl,ai5 ZR Tryz.underlying4 rfl rfl kQ ⟨rfl,rfl,rfl⟩ hW' (by have h9:=hA0;simp only[dT] at h9⊢;exact h9) xv⟩
theorem lifted (os:Os) (started:os.Started) (H:Type) (enc:TypeId×Value->H) (F:Stop.Interp):
  ReturnsInHanded {} Tryz.checked os 5 .any ((Rows.OpenSpec.upto Rows.coordPresumesSpec).pre6 enc pg Tryz.f5 Rows.coordPresumesUptoRow.domain false) (((Rows.OpenSpec.upto Rows.coordPresumesSpec).at F).post enc pg Tryz.f5 false true false false):=by
 refine returnsInHanded_of_cond (C:=Tryz.checked) (s:=Rows.OpenSpec.upto Rows.coordPresumesSpec) (k:=Rows.uptoSmall) rfl ai6 started kQ Tryz.func5
  (OpenSpec.witness (enc:=enc) (C:=Tryz.checked) (s:=Rows.OpenSpec.upto Rows.coordPresumesSpec) (k:=Rows.uptoSmall) rfl false ⟨#[],#[.slice none 0 0],[]⟩ 8 kQ (by rfl) kQ
   (x:=([.nil],[],[])) kQ rfl (by rfl)) ?_
 intro W base args ds gs before ZQ hW _ hk _;exact ai4 H enc W base args ds gs before ZQ hW hk
theorem apC:((Rows.coordPresumesUptoRow).unfollowed==pg.unfollowed 5)=true:=by kernel_rfl
theorem apD:((Rows.coordPresumesUptoRow).recurses==pg.recurses 5)=true:=by kernel_rfl
theorem agK:((Rows.coordPresumesUptoRow).inPlace==pg.inPlace 5)=true:=by kernel_rfl
theorem alD:((Rows.coordPresumesUptoRow).named==pg.varsNamed 5)=true:=by kernel_rfl
theorem abO:mapsRowed pg=true:=by kernel_rfl
theorem alE:(pg.stops==[])=true:=by kernel_rfl
theorem alF:(pg.stopKnobs==[])=true:=by kernel_rfl
theorem alG:pg.stopsHeard=true:=by kernel_rfl
theorem apE:pg.mayEnter=true:=by kernel_rfl
theorem anO:((Rows.coordPresumesUptoRow).plainKeys==pg.plainKeys)=true:=by kernel_rfl
theorem ai7:((Rows.coordPresumesUptoRow).lifted==pg.liftsFinal)=true:=by kernel_rfl
theorem anP:(pg.make==some (Rows.coordPresumesUptoRow).make)=true:=by kernel_rfl
theorem anQ:joinedFacts pg 5 Tryz.f5 (Rows.OpenSpec.upto Rows.coordPresumesSpec).bare Rows.coordPresumesUptoRow=true:=by
 unfold joinedFacts;simp only[aC]
 and_intros<;>first|with_reducible exact ZR|with_reducible exact apC|with_reducible exact apD|with_reducible exact agK|with_reducible exact alD|with_reducible exact abO|with_reducible exact alE|with_reducible exact alF|with_reducible exact alG|with_reducible exact apE|with_reducible exact anO|with_reducible exact ai7|with_reducible exact anP|kernel_rfl
theorem proved:Rows.CoordPresumesUptoSaid:=
 OpenClaim.holds_of_cond 5 Tryz.f5 rfl rfl rfl rfl rfl rfl rfl ⟨rfl,rfl,rfl,rfl,rfl⟩ rfl rfl rfl rfl rfl kQ Tryz.func5 anQ
  (of_decide_eq_true kQ) (by unfold Func.isWrapper;first|(rw[if_pos (by decide+kernel)];kernel_rfl)|(rw[if_neg (by decide+kernel)];exact⟨rfl,rfl⟩))
  (λos started H enc _ F=>lifted os started H enc F)
#print axioms proved
end coordPresumes
end Go.Proofs.YtgfijddlkhkopaaGreat