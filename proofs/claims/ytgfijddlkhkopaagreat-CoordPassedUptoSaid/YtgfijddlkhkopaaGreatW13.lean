/- Part 13 of the proof. -/
import Derived.Shelf.Abstract
import Derived.Test.YtgfijddlkhkopaaGreatW12
set_option linter.all false
open Nat renaming le_refl → au, le_succ → dK, le_trans → ad, zero_le → aq, le_of_ble_eq_true → eo, le_succ_of_le → ue, le_add_right → jV
open List renaming length_append → aa, mem_singleton → av, length_map → af, length_nil → br, map_append → aC, map_congr_left → eu, map_cons → bB, length_cons → aL, mem_of_getElem? → ay, append_assoc → ao, length → ba, map_map → bU, map_nil → kN, mem_cons → ic, not_mem_nil → dq, take_add_one → bT, mem_cons_of_mem → bX, take_of_length_le → aA, take_append_drop → gY, flatten_cons → dd, getElem?_cons_succ → uM, sum_append → BB, dropLast_concat → jE, mem_of_mem_take → dN, mem_of_mem_drop → di
open Option.some renaming inj → cn, injEq → aj
open Classical renaming byContradiction → dB
open Go.World renaming cell? → fu, frozen? → yS, putObj_heap_same → j8, putObj_heap_other → fC
open Int renaming le_refl → sX
open Bool renaming and_eq_true → aB, noConfusion → A4
open Go.Obj.cells renaming injEq → BC
namespace Go.Proofs.YtgfijddlkhkopaaGreat
open Go.Proofs.Tryz renaming prog → pg
open Go.aK
set_option maxRecDepth 100000
set_option maxHeartbeats 4000000
attribute [local irreducible] un jn jc iE ld1 iw st1 kY kZ oP rF o9 Hg Dz gO ga aV lK lB eW eV eU eC eF gE me fin iu bu eB vS Kz Hh Hi Hj Hk Hl KA KB KC KD Et Eu Hm Hn Ho KE KF KG
variable {z : Int} {xs : List Int} {a : Value} {X : XS} {w : World}
theorem aaO (ha:Sl w X 1 a (xs.map I1)):Ct pg 107 #[a,I z] w X nX λv _ _=>v=I (idxOf (λy=>decide (y=z)) xs):=by
 intro w0 hk;replace ha:=ha.mv hk.bY;have kn:=ha.gR;refine Dn.1 λhs=>?_;repeat' refine ak ?_;intros
 refine eY (λn a w X=> ∃i:Nat,a=I (i:Nat)/\n=(xs).length-i/\i<=(xs).length/\ai (bI w0) w0 X w/\(∀(j:Nat) x,j<i->xs[j]? =some x->decide (x=z)=false)) (xs).length ⟨0,rfl,rfl,aq _,hs,by simp⟩ ?_;rintro n a w X ⟨i,rfl,rfl,hi,hs,hw⟩;rcases dE (xs) i with⟨cD,x,hx,hd⟩|⟨dD,hd⟩
 ·repeat' first|refine aJ ?_;intros|refine cM ?_ ?_<;>intros|(refine qr ?_;intro wa hk;(subst_vars;rw[BW hw hx sQ]))|((with_reducible refine ep ((xs).length-(i+1)) ?_ ?_);omega;exact⟨i+1,by simp,rfl,by omega,hs,λj y hj hy=>by rcases Nat.lt_succ_iff_lt_or_eq.1 hj with h|h;exact hw j y h hy;subst h;rw[hx] at hy;cases hy;simp;intro e;simp_all⟩)
 ·repeat' first|refine aJ ?_;intros|(refine qr ?_;intro wa hk;(rw[yp λj x hj hx=>hw j x zQ hx]))
def mi (t:bL):Rec:=⟨10,t,.zero,.zero,false,0,0,[],[],[],[],.zero⟩
theorem QJ (t:bL):gf (mi t)=encI 10++nB t:=by simp[gf,mi]
def mH (n:bE) (b:Nat) (d:BV):bE:= { n with C:=λb'=>if b'=b then d else n.C b' }
def rY (d:BV) (i:Nat) (v2:Value) (en:Bool):BV:= { d with v2:=v2,waits:=d.waits.take i++d.waits.drop (i+1),ended:=en }
structure adu (n:bE) (m:cO) (b i:Nat):Prop where
 g:getM m.aO n.bl=some b
 en:(n.C b).ended=false
 gK:(n.C b).waits[i]? =some m.range
def adv (n:bE) (m:cO) (n':bE):Prop:=
 n'=n\/ ∃b i v2,adu n m b i/\(((n.C b).waits.length≠1/\n'=mH n b (rY (n.C b) i v2 false))\/
  ((n.C b).waits.length=1/\(jy n (mi m.aO)).2.2≠12/\n'=mH (Lh n (mi m.aO)) b (rY (n.C b) i v2 (decide ((jy n (mi m.aO)).2.2=0)))))
def adw (n:bE) (m:cO) (m':DM):Prop:= ∃b i,adu n m b i/\(n.C b).waits.length=1/\MK n (mi m.aO) m'
structure adx (n:bE) (m:cO):Prop where
 co:m.aO.eh=n.c.id
 al:getM m.aO n.al=none
 aW:m.aO.aW<=n.c.aW
 sq:m.aO.aW=n.c.aW->m.aO.sq<=n.c.gG
def al5 (m:cO) (no:Int) (cm:Option cx):cO:= { BR with kind:=5,fr:=no,to:=m.fr,aO:=m.aO,range:=m.range,jF:=cm.isSome,aS:=cm.getD .zero }
def ady (n:bE) (m:cO) (n':bE):Prop:=(¬adx n m/\n'=n)\/(adx n m/\Told n [al5 m (20+n.c.id) ((getM m.aO n.bl).map λb=>(n.C b).r.aS)] n')
variable {w' w0 wa : World} {X' : XS} {own aI bZ : Nat -> Nat} {n' : bE} {M N b i : Nat} {d : BV} {sg : dV} {pre : List dV} {vc vd vh vk vp vr vs vw : Value} {m : cO}
section
variable {n : bE}
theorem Lm {n:bE} :(mH n b d).C b=d:=if_pos rfl
theorem Uc {n:bE} {e:BV} :mH (mH n b d) b e=mH n b e:=by
 unfold mH
 congr 1
 funext b'
 by_cases h:b'=b<;>simp[h]
theorem V2 {Q:Nat->Prop} (h: ∀i,Q (tx b i)-> ∀w K A,(Jt b (n.C b) i).p w K A->(Jt b d i).p w K A:=by intro i hq w K A h;rcases i with _|_|_|_|_|_|_|_|i<;>first|exact h|exact absurd rfl hq.1|exact absurd rfl hq.2.1|exact absurd rfl hq.2.2|exact absurd rfl hq): ∀c,Q c-> ∀w K A,(dX n c).p w K A->(dX (mH n b d) c).p w K A:=
 (nz (aqj h): ∀c,Q c-> ∀w K A,(dX n c).p w K A->(dX (mH n b d) c).p w K A)
theorem ML {K A:XS} (hi:i=4\/i=5\/i=6) (h:(Jt b d i).p w K A):(dX (mH n b d) (tx b i)).p w K A:=by
 rw[vN _ _ _ zQ];rcases hi with rfl|rfl|rfl<;>(simp only[zl,CP,Lm];exact λ_=>h)
theorem XT (h:jd w own n) (hX:qW own X) (jL:oE ⟨n.L,n.m⟩ pre sg) (hk:sT N M n):
  ER pg 57 #[ptr n.nb 0,m.v vk vs vw vp vr vc vh vd] w X (gy own) (λ_ wa w'=>NQ dX own wa w' λ_ n'=>adv n m n') (λch wa w'=>ch=A2/\DQ own n.nb n.db wa w' (adw n m)):=by
 intro w0 ix;have s:=St.init h hX ix;clear h hX ix;have hr:=s.v.1;have hs:=s.rf;refine Ln.1 λ_=>?_;repeat' refine ak ?_;intros
 refine lO (kt:=34) (et:=124) (kv:=λk:bL=>k.v) (k:=m.aO) (.pointer none) (s.zO 6:) sJ kQ kQ (λv b kO rE=>?_) (λhn=>?_);case refine_2=>
  repeat' refine ak ?_;intros
  exact s.xO λ_ _=>.inl rfl
 simp only[xz] at rE;subst rE;obtain⟨hb,hbt⟩:=hk.byT _ _ kO;obtain⟨hc,o2,o1,Hp⟩:=s.vc hb;have hw8:=Hp.gR;by_cases Br:(n.C b).ended=true
 ·rw[Br] at hc;repeat' refine ak ?_;intros
  exact s.xO λ_ _=>.inl rfl
 replace Br:(n.C b).ended=false:=by simpa using Br
 rw[Br] at hc;repeat' refine ak ?_;intros
 refine dL (aaO (z:=m.range) Hp) kQ hs.has λw1 X1 ax=>?_;have s1:=s.since (hs.trans ax);clear hs ax hc Hp s hr;have hs:=s1.rf;obtain⟨hc,-⟩:=s1.vc hb;rw[Br] at hc;rcases GD (p:=λy:Int=>decide (y=m.range)) (l:=(n.C b).waits)with⟨e,_⟩|⟨i,y,hy,hyp,e⟩
 ·rw[e];repeat' refine aJ ?_;intros
  exact s1.xO λ_ _=>.inl rfl
 rw[e];obtain rfl:y=m.range:=by simpa using hyp
 have hD:adu n m b i:=⟨kO,Br,hy⟩;have pK:i<(n.C b).waits.length:=(List.getElem?_eq_some_iff.1 hy).1;have iF:=s1.h.Bz hb;rw[Br] at iF;repeat' refine aJ ?_;intros
 refine s1.aho (tx b 4) (tx b 5) 0 iF.1 iF.2.1 (aaC (F:=X1) (iF.2.1.mono (s1.sub _ iy.1)) (λ_ h=>h) (by rw[af];exact pK) λr hr u hu=>by obtain⟨x,_,rfl⟩:=List.mem_map.1 hr;rw[av] at hu;subst hu;rfl) (λv=>dX (mH n b (rY (n.C b) i v false)))
  (λ_ _ _ _ h=>ML dQ h) (λ_ _ _ _ h=>ML dQ (by rw[<-List.map_take,<-List.map_drop,<-aC] at h;exact h)) (λ_ _ _ _ _ h=>h) (λv=>V2) (λv w2 X2 lC s2 m2=>?_) (yE:=by unfold tx;omega)
 clear hs hc iF s1;obtain⟨n3,sk⟩: ∃n3:bE,n3=mH n b (rY (n.C b) i v false):=⟨_,rfl⟩;have e3:n3.C b=rY (n.C b) i v false:=by rw[sk];exact Lm
 have f3:n3.nb=n.nb/\n3.db=n.db/\n3.L=n.L/\n3.m=n.m/\n3.cl=n.cl:=by rw[sk];exact⟨rfl,rfl,rfl,rfl,rfl⟩
 rw[<-sk] at s2;have xx:((n.C b).waits.take i++(n.C b).waits.drop (i+1)).length=(n.C b).waits.length-1:=by simp;omega
 have rD:b∈n3.cl:=by rw[f3.2.2.2.2];exact hb
 have hs:=s2.rf;obtain⟨hc,o2,o1,Hp⟩:=s2.vc rD;rw[e3] at hc o2 o1 Hp;have asJ:Sl w2 X2 1 v (((n.C b).waits.take i++(n.C b).waits.drop (i+1)).map I1):=Hp;by_cases h1:(n.C b).waits.length=1;case neg=>
  repeat' first|refine aJ ?_;intros|with_reducible apply cB|(refine aor undef rfl ?_)
  exact s2.xO λ_ _=>.inr ⟨b,i,_,hD,.inl ⟨h1,sk⟩⟩
 rw[<-f3.1,<-f3.2.1];have eK:jy n3 (mi m.aO)=jy n (mi m.aO):=by unfold jy;rw[f3.2.2.1,f3.2.2.2.1]
 repeat' first|refine aJ ?_;intros|with_reducible apply cB
 refine s2.FP (XK:=adw n m) (ET (r:=mi m.aO) s2.h s2.x (by rw[f3.2.2.1,f3.2.2.2.1];exact jL) (abH rfl rfl rfl rfl rfl) (DV rfl rfl rfl) (by rw[QJ];have:=fD 10;have:=CT m.aO;simp only[aa];omega)) kQ (λv4 w4 X4 lD n4 s4 ⟨k1,k2,k3⟩ m4=>?_) λm' Tz=>⟨b,i,hD,h1,by unfold MK at Tz⊢;rwa [eK] at Tz⟩;obtain⟨z,hz⟩: ∃z,z=(jy n (mi m.aO)).2.2:=⟨_,rfl⟩;rw[eK,<-hz] at k1 k2;subst k2;have yC:b∈n4.cl:=by rw[k3];exact rD
 have e4:n4.C b=rY (n.C b) i v false:=by rw[k3];exact e3
 have ek:n4=mH (Lh n (mi m.aO)) b (rY (n.C b) i v false):=by rw[k3];unfold Lh;rw[eK,sk];rfl
 clear hs hc;have hs:=s4.rf;obtain⟨hc,-⟩:=s4.vc yC;rw[e4] at hc;by_cases Ky:z=0
 ·repeat' refine aJ ?_;intros
  refine s4.st (o:=30) (tx b 4) (s4.h.Bz yC).1 (dX (mH n4 b (rY (n.C b) i v true))) zQ kQ sQ rfl (λ_ _ _ h=>ML dQ (by rw[e4] at h;exact h)) (V2 (by rw[e4];intro i hq w K A h;rcases i with _|_|_|_|_|_|_|_|i<;>first|exact h|exact absurd rfl hq)) (λw5 X5 mE s5 m5=>?_) iy.1 iy.2;clear hs
  skip
  exact s5.xO λ_ _=>.inr ⟨b,i,v,hD,.inr ⟨h1,by rw[<-hz];exact k1,by rw[ek,Uc,<-hz,Ky];rfl⟩⟩
 ·repeat' refine aJ ?_;intros
  exact s4.xO λ_ _=>.inr ⟨b,i,v,hD,.inr ⟨h1,by rw[<-hz];exact k1,by rw[ek,<-hz,decide_eq_false zQ]⟩⟩
theorem U9 (h:jd w own n) (hX:qW own X) (hk:sT N M n):
  Ct pg 58 #[ptr n.nb 0,m.v vk vs vw vp vr vc vh vd] w X (gy own) λ_ wa w'=>NQ dX own wa w' λ_ n'=>ady n m n':=by
 intro w0 ix;have s:=St.init h hX ix;have hi:1<=n.c.id/\n.c.id<=2:=by rw[hk.id];decide
 clear h hX ix;have hr:=s.v.1;have hs:=s.rf;refine JK.1 λ_=>?_;have xB: ¬adx n m->aK.fin (uF (gy own) w0 λv w'=>NQ dX own w0 w' λ_ n'=>ady n m n') (bI w0) w0 (.tuple #[]):=λhA=>s.fin λ_ _=>.inl ⟨hA,rfl⟩;by_cases hc:m.aO.eh=n.c.id;case neg=>
  repeat' refine aJ ?_;intros
  exact xB λh=>hc h.co
 repeat' refine aJ ?_;intros
 refine lO (kt:=34) (et:=116) (kv:=λk:bL=>k.v) (k:=m.aO) (.pointer none) (s.zO 5:) sJ kQ kQ (λv a kO rE=>?_) (λhn=>?_)
 ·simp only[xz] at rE;subst rE;repeat' refine ak ?_;intros
  all_goals exact xB λh=>by rw[h.al] at kO;cases kO
 by_cases hA:adx n m;case neg=>
  have h3:n.c.aW<m.aO.aW\/(m.aO.aW=n.c.aW/\n.c.gG<m.aO.sq):=by
   by_cases h1:n.c.aW<m.aO.aW
   ·exact .inl h1
   ·exact .inr (dB λh2=>hA ⟨hc,hn,by omega,λe=>by omega⟩)
  repeat' first|refine aJ ?_;intros|refine cM ?_ ?_<;>intros
  all_goals exact xB hA
 have CG:=hA.aW;have xx:=hA.sq;repeat' first|refine aJ ?_;intros|refine cM ?_ ?_<;>intros
 all_goals
  refine ij (Q:=λK=> ∀cm:Option cx,cm=((getM m.aO n.bl).map λb=>(n.C b).r.aS)->K (.agg (({ BR with kind:=5,aO:=m.aO,range:=m.range,jF:=cm.isSome,aS:=cm.getD .zero } :cO).l aP aP aP aP aP aP aP aP).toArray)) (λcm iF=>?_) (λK hK=>?_)
  ·refine dL (A5 hr (λ_ h=>h) hi) kQ hs.has λw1 X1 ax=>?_;have s1:=s.since ax;clear hs hr;have hs:=s1.rf;have hr:=s1.v.1;repeat' first|refine ak ?_;intros|(refine q1e hs ?_;intro _ _ _ w X hs ho)
   have s2:=s1.since hs;have jv:=fQ.ahH ⟨_,_,_,_,_,_,_,_,rfl,(Sk:(al5 m (20+n.c.id) cm).at w (bN own 4) aP aP aP aP aP aP aP aP)⟩;refine s2.ap2 1 8 11 (s2.get 1) (s2.get 8) ho.sl jv.Xe (by rw[hk.rm];simp) (λv=>dX { n with vm:=v,rm:=_,ms:=_ }) (λ_ _ _ _ h=>h) (λ_ _ _ _ h=>h) (λ_ _ _ _ mv h=>fQ.app h (jv.mv mv)) (λv'=>nz) λv' w' X' aI s' m'=>?_;clear hs hr
   skip
   exact s'.fin λ_ _=>.inr ⟨hA,_,_,by rw[iF],by simp⟩
  ·repeat' refine ak ?_;intros
   refine lO (kt:=34) (et:=124) (kv:=λk:bL=>k.v) (k:=m.aO) (.pointer none) (s.zO 6:) sJ kQ kQ (λv b kO rE=>?_) (λhn2=>?_)
   ·simp only[xz] at rE;subst rE;obtain⟨hb,_⟩:=hk.byT _ _ kO;obtain⟨hc,o2,o1,Hp⟩:=s.vc hb;repeat' refine ak ?_;intros
    exact hK (some (n.C b).r.aS) (by rw[kO];rfl)
   ·repeat' refine ak ?_;intros
    exact hK none (by rw[hn2];rfl)
end
section
variable {nb : Nat} {x0 x1 x2 x3 x4 x5 x6 x7 x8 x9 vm va : Value}
theorem Sm (h:aG w X nb [x0,x1,x2,x3,x4,x5,x6,x7,x8,x9,vm,va] nT):Ct pg 52 #[ptr nb 0,EP] w X (· =nb) λv _ w'=>v= .tuple #[.agg #[aP,aP],I 12]/\aG w' (· =nb) nb [x0,x1,x2,x3,x4,x5,x6,x7,x8,x9,aP,aP] nT:=by
 intro w0 hk;have FC:=h.mv hk.bY;have Lo:Ft w0 (λk=>k=nb) w0 (bI w0) (λk=>k=nb):=Ft.init λk e=>by subst e;exact FC.1
 have hs:=ai.init w0;refine Iz.1 λ_=>?_;repeat' first|with_reducible apply cB|(with_reducible refine akc ?_ ?_);(· kernel_rfl)|(with_reducible apply ajr);rfl|with_reducible apply XU|with_reducible apply afo|with_reducible apply abI|with_reducible apply Sp|((with_reducible apply XV))
 refine dO.2 ⟨rfl,dO.2 ⟨rfl,?_⟩⟩;repeat' first|with_reducible apply XU|with_reducible apply Sp
 repeat' refine ak ?_;intros
 rename_i o2 ju _;obtain rfl:o2=10:=by omega
 refine FI FC rfl kQ sQ rfl rfl Lo.s.has λw2 X2 c2 jC=>?_;replace jC:aG w2 X2 nb [x0,x1,x2,x3,x4,x5,x6,x7,x8,x9,aP,aP] nT:=jC;have dh:Ft w0 (λk=>k=nb) w2 X2 (λk=>k=nb):=Lo.dY c2 (λk hk=>hk) λk hk=>.inl hk;clear hs;repeat' refine ak ?_;intros
 exact dh.fin λwa aH=>⟨rfl,rfl,(aH.block nb jC.1).trans jC.2⟩
end
variable {ty : TypeId}
theorem IA {o:Nat} {cs:Array Value} (v:Value) (hb:w.heap[b]? =some (.cells cs ty (0,0))) (k:Nat):(w.setCell ⟨b,o,none⟩ v).heap[k]? =if k=b then some (.cells (cs.setIfInBounds o v) ty (0,0))else w.heap[k]? :=by
 unfold World.setCell;simp only[Array.getElem?_modify]
 grind
theorem adz:Tryz.f25.results= #[.cell 6 32,.cell 7 37]:=by kernel_rfl
variable {R : Ending -> World -> Prop}
theorem XW {RP:List PanicEntry->World->Prop} {cv:List (Option Value)} {nb:Nat} (hcv:cv[0]? =some (some (ptr nb 0)))
  (hR: ∀ch w,RP ch w->ch=A2/\ ∃x0 x1 x2 x3 x4 x5 x6 x7 x8 x9 vm va,aG w (· =nb) nb [x0,x1,x2,x3,x4,x5,x6,x7,x8,x9,vm,va] nT/\ ∀w2,w2.os=w.os->w2.tape=w.tape->w2.output=w.output->w.heap.size<=w2.heap.size->(∀k,k<w.heap.size->k≠nb->w2.heap[k]? =w.heap[k]?)->
   aG w2 (· =nb) nb [x0,x1,x2,x3,x4,x5,x6,x7,x8,x9,aP,aP] nT->R (.returned (.tuple #[.agg #[aP,aP],I 12])) w2):
  QK pg CU Tryz.f25 R 51 [3,6,7] cv RP:=by
 intro ks EV ch w tZ mu tR hh hv gh hRP;obtain⟨k0,k1,k2,rfl⟩: ∃a b c,ks=[a,b,c]:=by
  match ks,tZ with
  |[a,b,c],_=>exact⟨a,b,c,rfl⟩
 obtain⟨c0,c1,c2,rfl⟩: ∃a b c,EV=[a,b,c]:=by
  match EV,mu with
  |[a,b,c],_=>exact⟨a,b,c,rfl⟩
 obtain⟨ty0,g0⟩:=hh 0 k0 c0 rfl rfl;obtain⟨Ud,g1⟩:=hh 1 k1 c1 rfl rfl;obtain⟨Ny,g2⟩:=hh 2 k2 c2 rfl rfl;have e0:=hv 0 (ptr nb 0) c0 hcv rfl;have s1:c1.size=2:=gh 1 6 2 c1 rfl kQ rfl;have s2:c2.size=1:=gh 2 7 1 c2 rfl kQ rfl;subst e0;obtain⟨rfl,x0,x1,x2,x3,x4,x5,x6,x7,x8,x9,vm,va,bo,_⟩:=hR _ _ (hRP w (aK.Outside.refl _ _));refine callsD_of_wpS Tryz.func51 rfl λc₀ cs hu=>?_;rw[Tryz.ntmps51];simp only[bB,kN,List.size_toArray,aL,br];apply wpS_seq;apply wpS_region;simp[wpOpsS,go_sem,recoverD,hu,Exit.thenS];have ht:(#[ez k0 0,ez k1 0,ez k2 0]++((Array.replicate 10 undef).setIfInBounds 1 EP).setIfInBounds 0 EP)= #[ez k0 0,ez k1 0,ez k2 0,EP,EP,undef,undef,undef,undef,undef,undef,undef,undef]:=rfl;rw[ht];apply wpS_seq;apply wpS_region;simp[wpOpsS,go_sem,Exit.thenS];refine wpS_cond (t:=true) (by rfl) ?_;simp only[if_true];apply wpS_region;have wJ:w.cell? ⟨k0,0,none⟩=some (ptr nb 0):=by simp[fu,g0]
 simp[wpOpsS,go_sem,ez,wJ];refine(Sm (X:=(· =nb)) (bo.mono λ_ h=>h) w (Kp.refl _ _)).mono ?_;rintro _ w2 ⟨v,rfl,wX,rfl,jC⟩;have n1:k1≠nb:=λe=>by
  rw[e,bo.2] at g1;simp only[aj,BC] at g1;rw[<-g1.1] at s1;simp at s1
 have n2:k2≠nb:=λe=>by
  rw[e,bo.2] at g2;simp only[aj,BC] at g2;rw[<-g2.1] at s2;simp at s2
 have l1:=(Array.getElem?_eq_some_iff.1 g1).1;have l2:=(Array.getElem?_eq_some_iff.1 g2).1;have g1':w2.heap[k1]? =_:=(wX.block k1 l1 n1).trans g1;have g2':w2.heap[k2]? =_:=(wX.block k2 l2 n2).trans g2;obtain⟨a1,b1,rfl⟩: ∃a b,c1= #[a,b]:=by
  match c1,s1 with
  |⟨[a,b]⟩,_=>exact⟨a,b,rfl⟩
 obtain⟨a2,rfl⟩: ∃x,c2= #[x]:=by
  match c2,s2 with
  |⟨[x]⟩,_=>exact⟨x,rfl⟩
 have aqk:w2.cell? ⟨k1,0,none⟩=some a1:=by simp[fu,g1']
 have aql:w2.frozen? ⟨k1,0,none⟩=false:=by simp[yS,g1']
 have r3: ∀k,(w2.setCell ⟨k1,0,none⟩ aP).heap[k]? =if k=k1 then some (.cells #[aP,b1] Ud (0,0))else w2.heap[k]? :=λk=>by rw[IA _ g1'];rfl
 simp only[List.nodup_cons,ic,dq,or_false,not_or] at tR;generalize vT:w2.setCell ⟨k1,0,none⟩ aP=w3 at r3;have g13:w3.heap[k1]? =some (.cells #[aP,b1] Ud (0,0)):=by rw[r3,if_pos rfl]
 have aqm:w3.cell? ⟨k1,1,none⟩=some b1:=by simp[fu,g13]
 have aqn:w3.frozen? ⟨k1,1,none⟩=false:=by simp[yS,g13]
 have r4: ∀k,(w3.setCell ⟨k1,1,none⟩ aP).heap[k]? =if k=k1 then some (.cells #[aP,aP] Ud (0,0))else w3.heap[k]? :=λk=>by rw[IA _ g13];rfl
 generalize FE:w3.setCell ⟨k1,1,none⟩ aP=w4 at r4;have g24:w4.heap[k2]? =some (.cells #[a2] Ny (0,0)):=by rw[r4,if_neg (λe=>tR.2.1 e.symm),r3,if_neg (λe=>tR.2.1 e.symm)];exact g2'
 have ni:w4.cell? ⟨k2,0,none⟩=some a2:=by simp[fu,g24]
 have Es:w4.frozen? ⟨k2,0,none⟩=false:=by simp[yS,g24]
 simp[go_sem,storeCells,aqk,aql,vT,aqm,aqn,FE,ni,Es,Addr.add];have r5: ∀k,(w4.setCell ⟨k2,0,none⟩ (.int .i64 12)).heap[k]? =if k=k2 then some (.cells #[I 12] Ny (0,0))else w4.heap[k]? :=λk=>by rw[IA _ g24];rfl
 generalize hw5:w4.setCell ⟨k2,0,none⟩ (.int .i64 12)=w5 at r5;have g15:w5.heap[k1]? =some (.cells #[aP,aP] Ud (0,0)):=by rw[r5,if_neg tR.2.1,r4,if_pos rfl]
 have g25:w5.heap[k2]? =some (.cells #[I 12] Ny (0,0)):=by rw[r5,if_pos rfl]
 have EW: ∀k,k≠k1->k≠k2->w5.heap[k]? =w2.heap[k]? :=λk h1 h2=>by rw[r5,if_neg h2,r4,if_neg h1,r3,if_neg h1]
 have wT:w5.os=w.os/\w5.tape=w.tape/\w5.output=w.output/\w5.heap.size=w2.heap.size:=by
  rw[<-hw5,<-FE,<-vT];exact⟨wX.os,wX.tape,wX.output,by simp[World.setCell]⟩
 have hnl:nb<w.heap.size:=bo.lt;have fN:aK.Outside [k0,k1,k2] w (w5.putObj nb (.cells [x0,x1,x2,x3,x4,x5,x6,x7,x8,x9,vm,va].toArray nT)):=by
  refine⟨wT.1,wT.2.1,wT.2.2.1,?_,λk hl hk=>?_⟩
  ·have:=wX.size;have:=wT.2.2.2;simp[World.putObj];omega
  ·simp only[ic,dq,or_false,not_or] at hk;by_cases e:k=nb
   ·subst e;rw[j8 (by have:=wX.size;omega)];exact bo.2.symm
   ·rw[fC (λh=>e h),EW k hk.2.1 hk.2.2];exact wX.block k hl e
 obtain⟨_,y0,y1,y2,y3,y4,y5,y6,y7,y8,y9,wm,wv,DN,hR2⟩:=hR _ _ (hRP _ fN);have ajs:=DN.2;rw[j8 (by have:=wX.size;omega)] at ajs;have hl:=congrArg Array.toList (Obj.cells.inj (cn ajs)).1;simp only[List.cons.injEq,and_true] at hl;obtain⟨rfl,rfl,rfl,rfl,rfl,rfl,rfl,rfl,rfl,rfl,rfl,rfl⟩:=hl;have hRw:R (.returned (.tuple #[.agg #[aP,aP],I 12])) w5:=hR2 w5 rfl rfl rfl (by simp[World.putObj]) (λk _ hk=>(fC hk).symm) ⟨rfl,(EW nb n1.symm n2.symm).trans jC.2⟩;have aqo:w5.cell? ⟨k2,0,none⟩=some (I 12):=by simp[fu,g25]
 refine⟨rfl,.panicking [{ v:=EP,recovered:=true }],rfl,.tuple #[],?_,⟨_,rfl⟩,rfl,_,hRw,λtmps ht=>?_⟩
 ·simp[results,Tryz.results51]
 ·unfold results;rw[adz];obtain⟨fs,hu⟩: ∃fs,pg.underlying 32=some (.struct fs):=⟨_,rfl⟩;have q1:(loadVar 32 ⟨k1,0,none⟩).run pg w5= .ok (.agg #[aP,aP]) w5:=run_loadVar_row w5 k1 _ _ _ _ (.struct fs) g15 hu rfl kQ;simp[ht 1 6 k1 rfl rfl,ht 2 7 k2 rfl rfl,asAddr,q1,(Ue aqo)]
abbrev V3:Value:=.tuple #[.agg #[aP,aP],I 12]
def wY (n:bE) (m:cO) (n1:bE):Prop:=
 (¬(m.err=0/\m.to=20+n.c.id)/\n1=n)\/(m.err=0/\m.to=20+n.c.id/\((m.kind=2/\acN n m n1)\/(m.kind=4/\V1 n m n1)\/(m.kind=6/\adv n m n1)\/(m.kind=7/\ady n m n1)\/(¬m.kind=2/\ ¬m.kind=4/\ ¬m.kind=6/\ ¬m.kind=7/\n1=n)))
def DW (n:bE) (m:cO) (m':DM):Prop:=m.err=0/\m.to=20+n.c.id/\((m.kind=4/\ads n m m')\/(m.kind=6/\adw n m m'))
theorem abJ (h:m.err=0) (hk:m.kind=2\/m.kind=4):m.aS.may=true:=by
 unfold cO.err at h;split at h
 ·cases h
 ·split at h
  ·cases h
  ·rename_i _ h2;simp only[Bool.or_eq_true,Bool.not_eq_true',not_or,Bool.not_eq_false] at h2;have h3:=h2.2;unfold cO.qa at h3;rw[if_pos zQ] at h3;unfold cO.MM at h3;rcases hk with e|e<;>simp[e] at h3<;>simp_all
structure Ck (n n':bE):Prop where
 nb:n'.nb=n.nb
 db:n'.db=n.db
 ex:n'.ex=n.ex
 pre:n'.pre=n.pre
variable {n1 : bE} {pp : Bool} {gN : Int}
section
variable {n : bE}
theorem sT.fb (h:sT N M n):Go.Proofs.YtgfijddlkhkopaaGreat.fb n=n:=by
 have q: ∀{a b c d e},n.vm=a->n.va=b->n.rm=c->n.ra=d->n.ms=e->({ n with vm:=a,va:=b,rm:=c,ra:=d,ms:=e } :bE)=n:=by
  rintro _ _ _ _ _ rfl rfl rfl rfl rfl;rfl
 exact q h.vm h.va h.rm h.ra h.ms
theorem Told.nb {l:List cO} (h:Told n l n'):Ck n n':=by obtain⟨_,_,rfl,_⟩:=h;exact⟨rfl,rfl,rfl,rfl⟩
theorem Ck.of {n2:bE} (h:Ck n1 n2) (e:n1.nb=n.nb/\n1.db=n.db/\n1.pre=n.pre:=by exact⟨rfl,rfl,rfl⟩):Ck n { n2 with ex:=n.ex } :=⟨h.nb.trans e.1,h.db.trans e.2.1,rfl,h.pre.trans e.2.2⟩
theorem Ck.by (h:Ck n1 n') (e:n1.nb=n.nb/\n1.db=n.db/\n1.ex=n.ex/\n1.pre=n.pre:=by exact⟨rfl,rfl,rfl,rfl⟩):Ck n n':=⟨h.nb.trans e.1,h.db.trans e.2.1,h.ex.trans e.2.2.1,h.pre.trans e.2.2.2⟩
theorem OJ.nb (h:OJ n b n'):Ck n { n' with ex:=n.ex } :=by
 rcases h with⟨_,_,_,_,h⟩|⟨_,_,_,_,_,_,_,_,_,_,h⟩<;>exact h.nb.of
theorem DR.nb (h:DR n m pp n'):Ck n n':=by
 obtain⟨_,_,_,_,_,_,_,_,rfl⟩:=h;exact⟨rfl,rfl,rfl,rfl⟩
theorem wY.nb (h:wY n m n'):Ck n n':=by
 rcases h with⟨_,rfl⟩|⟨_,_,⟨_,h⟩|⟨_,h⟩|⟨_,h⟩|⟨_,h⟩|⟨_,_,_,_,rfl⟩⟩
 ·exact⟨rfl,rfl,rfl,rfl⟩
 ·rcases h with⟨_,rfl⟩|h|⟨_,_,_,_,_,_,_,n1,_,rfl,⟨_,rfl⟩|⟨_,n2,h,rfl⟩⟩
  ·exact⟨rfl,rfl,rfl,rfl⟩
  ·exact h.nb
  ·exact⟨rfl,rfl,rfl,rfl⟩
  ·exact h.nb.by
 ·rcases h with⟨_,rfl,_⟩|h|⟨_,_,_,_,_,_,n1,_,rfl,⟨_,rfl⟩|⟨_,⟨_,_,_,h⟩|⟨_,_,_,_,_,_,_,_,_,h⟩⟩⟩
  ·exact⟨rfl,rfl,rfl,rfl⟩
  ·exact h.nb
  ·exact⟨rfl,rfl,rfl,rfl⟩
  all_goals exact h.nb.by
 ·rcases h with rfl|⟨_,_,_,_,⟨_,rfl⟩|⟨_,_,rfl⟩⟩<;>exact⟨rfl,rfl,rfl,rfl⟩
 ·rcases h with⟨_,rfl⟩|⟨_,h⟩
  ·exact⟨rfl,rfl,rfl,rfl⟩
  ·exact h.nb
 ·exact⟨rfl,rfl,rfl,rfl⟩
theorem EX (h:jd w own n) (hX:qW own X) (jL:oE ⟨n.L,n.m⟩ pre sg) (hm:m.at w (bN own 4) vk vs vw vp vr vc vh vd) (hk:sT N M n) (hN:N+m.seen.length<=2^20) (lX:m.small) (zm:m.lens<=2^62):
  Ct pg 25 #[ptr n.nb 0,I gN,m.v vk vs vw vp vr vc vh vd] w X (gy own) λv wa w'=>Sb own wa w' (wY n m) (λn1=>v= .tuple #[.agg #[n1.vm,n1.va],I 0])\/(v=V3/\DQ own n.nb n.db wa w' (DW n m)):=by
 intro w0 ix;have s:=St.init h hX ix;replace hm:=hm.mv (yG hX ix);have hi:1<=n.c.id/\n.c.id<=2:=by rw[hk.id];decide
 clear h hX ix;have n1:own n.nb=1:=(s.get 1).1;refine BD.g (RP:=λch w'=>ch=A2/\Fr (gy own) w0 w'/\DQ own n.nb n.db w0 w' (DW n m)) (g0:=51) (cb:=[3,6,7]) (cv:=[some (ptr n.nb 0),none,none]) kQ (.inr kQ) NT (XW rfl λch w' hr=>?_) ?_
 ·obtain⟨rfl,hf,aI,m',e,hd,hq⟩:=hr;obtain⟨x0,x1,x2,x3,x5,x6,x7,x8,x9,vm,va,hr⟩:=hd.gK 1 dQ dQ;refine⟨rfl,x0,x1,x2,x3,B true,x5,x6,x7,x8,x9,vm,va,⟨rfl,hr.2⟩,λw2 q1 q2 q3 q4 q5 q6=>⟨_,rfl,?_,.inr ⟨rfl,aI,m',e,?_,hq⟩⟩⟩
  ·exact⟨q1.trans hf.os,q2.trans hf.tape,q3.trans hf.output,ad hf.size q4,λk hl hn=>(q5 k (Nat.lt_of_lt_of_le hl hf.size) λe=>hn (by rw[e];exact⟨by omega,by omega⟩)).trans (hf.block k hl hn)⟩
  ·exact hd.one 1 q4 (λk hk h1=>q5 k (hd.lt k hk) λe'=>h1 (by rw[e'];exact hr.1)) ⟨x0,x1,x2,x3,x5,x6,x7,x8,x9,aP,aP,⟨hr.1,q6.2⟩⟩ λc _ w K A h=>h
 refine cz ?_;have hs:=s.rf;have hr:=s.v.1;repeat' refine ak ?_;intros
 refine dL (aaP (hm.mv (Mv.sub (s.sub 4))) lX zm) kQ hs.has λw1 X1 ax=>?_;have s1:=s.since ax;replace hm:=hm.mv (ax.gU (s.sub 4));clear hs hr ax s;have adA: ∀{w2:World} {X2:XS},Sn w0 own w2 X2 own n-> ¬(m.err=0/\m.to=20+n.c.id)->aK.fin (FR (uF (gy own) w0 λv w'=>Sb own w0 w' (wY n m) (λn1=>v= .tuple #[.agg #[n1.vm,n1.va],I 0])\/(v=V3/\DQ own n.nb n.db w0 w' (DW n m))) λch w'=>ch=A2/\Fr (gy own) w0 w'/\DQ own n.nb n.db w0 w' (DW n m)) X2 w2 (.tuple #[.agg #[aP,aP],I 0]):=λ{w2 X2} s2 lR=>
  s2.t.adB λwa nD=>.inl ⟨own,n,s2.e,s2.h.kp s2.x nD,n,.inl ⟨lR,rfl⟩,by show _=Value.tuple #[.agg #[n.vm,n.va],I 0];rw[hk.vm,hk.va],hk.fb.symm,by rw[hk.vm,hk.rm];exact Sl.nil _ _ _,by rw[hk.rm,hk.ms];exact fQ.nil _ _,by rw[hk.va,hk.ra];exact Sl.nil _ _ _⟩
 have hs:=s1.rf;have hr:=s1.v.1;by_cases Lp:m.err=0;case neg=>
  repeat' first|refine aJ ?_;intros|with_reducible apply cB
  exact adA s1 λe=>Lp e.1
 rw[Lp];repeat' refine aJ ?_;intros
 refine cB ?_;repeat' refine ak ?_;intros
 refine dL (A5 hr (λ_ h=>h) hi) kQ hs.has λw2 X2 bp=>?_;have s2:=s1.since bp;replace hm:=hm.mv (bp.gU (s1.sub 4));clear hs hr bp s1;by_cases su:m.to=20+n.c.id;case neg=>
  repeat' refine aJ ?_;intros
  exact adA s2 λe=>su e.2
 clear adA;repeat' refine aJ ?_;intros
 refine ij (Q:=λK=> ∀(nf:Nat->Nat) (n3:bE) (w3:World) (X3:XS),Sn w0 own w3 X3 nf n3->wY n m n3->K w3 X3) (λnf n3 w3 X3 s3 fN=>?_) (λK hK=>?_)
 ·rw[<-fN.nb.nb];refine s3.call (ED s3.h s3.x) kQ λv w4 X4 lD n4 s4 ⟨q1,q2,q3⟩ _=>?_;subst q1;have o1:=s3.v.2.1;have o2:=s3.v.2.2.1;repeat' refine ak ?_;intros
  exact s4.t.adB λwa nD=>.inl ⟨lD,n4,s4.e,s4.h.kp s4.x nD,n3,fN,rfl,q2,q3.mv (yG s4.x nD)⟩
 ·have IB:=hm.mv (Mv.sub (s2.sub 4));by_cases k2:m.kind=2
  ·repeat' refine aJ ?_;intros
   exact s2.call (Xd s2.h s2.x hm (abJ Lp (.inl k2)) hk hN) kQ λv w3 X3 nf n3 s3 q _=>hK nf n3 w3 X3 s3 (.inr ⟨Lp,su,.inl ⟨k2,q⟩⟩)
  by_cases k4:m.kind=4
  ·repeat' refine aJ ?_;intros
   exact s2.VX (XR s2.h s2.x jL hm (abJ Lp (.inr k4)) hk zQ) kQ (λv w3 X3 nf n3 s3 q _=>hK nf n3 w3 X3 s3 (.inr ⟨Lp,su,.inr (.inl ⟨k4,q⟩)⟩)) λwb hf hd=>⟨rfl,hf,hd.imp λm' q=>⟨Lp,su,.inl ⟨k4,q⟩⟩⟩
  by_cases k6:m.kind=6
  ·repeat' refine aJ ?_;intros
   exact s2.VX (XT s2.h s2.x jL hk) kQ (λv w3 X3 nf n3 s3 q _=>hK nf n3 w3 X3 s3 (.inr ⟨Lp,su,.inr (.inr (.inl ⟨k6,q⟩))⟩)) λwb hf hd=>⟨rfl,hf,hd.imp λm' q=>⟨Lp,su,.inr ⟨k6,q⟩⟩⟩
  by_cases k7:m.kind=7
  ·repeat' refine aJ ?_;intros
   exact s2.call (U9 s2.h s2.x hk) kQ λv w3 X3 nf n3 s3 q _=>hK nf n3 w3 X3 s3 (.inr ⟨Lp,su,.inr (.inr (.inr (.inl ⟨k7,q⟩)))⟩)
  repeat' refine aJ ?_;intros
  exact hK own n w2 X2 s2 (.inr ⟨Lp,su,.inr (.inr (.inr (.inr ⟨k2,k4,k6,k7,rfl⟩)))⟩)
end
def wZ (d:pe):pe:= { d with x:= { d.x with wO:=d.x.wO+1 } }
def yq (n:bE) (t:bL) (n':bE):Prop:= ∃(b:Nat),getM t n.al=some b/\n'.rm.length<=n.rm.length+80/\
  ((6<=(n.A b).x.wO+1/\ ∃oB,Told { eI n b (wZ (n.A b))with al:=j9 t n.al,va:=oB,ra:=n.ra++[Ey 25 t .zero false aP] } (if(n.A b).x.pre then(n.A b).ids.map λid=>(Sj t id).pU (20+n.c.id)else []) n')\/
   (¬6<=(n.A b).x.wO+1/\Told (eI n b (wZ (n.A b))) ((n.A b).ws.map λm=>m.pU (20+n.c.id)) n'))
def sY:List bL->bE->bE->Prop
 |[],n,n'=>n'=n
 |t::l,n,n'=> ∃n1,yq n t n1/\sY l n1 n'
theorem sY.snoc: ∀{l:List bL} {t:bL} {n n1 n2:bE},sY l n n1->yq n1 t n2->sY (l++[t]) n n2
 |[],t,n,n1,n2,h,h2=>by
  have h:n1=n:=h;subst h;exact⟨n2,h2,rfl⟩
 |x::l,t,n,n1,n2,⟨n3,h3,h⟩,h2=>⟨n3,h3,h.snoc h2⟩
def XX (n:bE) (b:Nat) (n':bE):Prop:=((n.C b).ended=true/\n'=n)\/((n.C b).ended=false/\Told n ((n.C b).waits.map λid=>(XQ (n.C b).r id).pU (20+n.c.id)) n')
def BX:List Nat->bE->bE->Prop
 |[],n,n'=>n'=n
 |b::l,n,n'=> ∃n1,XX n b n1/\BX l n1 n'
theorem BX.snoc: ∀{l:List Nat} {t:Nat} {n n1 n2:bE},BX l n n1->XX n1 t n2->BX (l++[t]) n n2
 |[],t,n,n1,n2,h,h2=>by
  have h:n1=n:=h;subst h;exact⟨n2,h2,rfl⟩
 |x::l,t,n,n1,n2,⟨n3,h3,h⟩,h2=>⟨n3,h3,h.snoc h2⟩
def QL (n n1:bE):Prop:= ∃ts n2,ts.Perm (n.al.map (·.1))/\sY ts n n2/\BX n.cl n2 n1
structure TK (n n':bE):Prop where
 nb:n'.nb=n.nb
 db:n'.db=n.db
 c:n'.c=n.c
 cl:n'.cl=n.cl
 C:n'.C=n.C
 ex:n'.ex=n.ex
 pre:n'.pre=n.pre
variable {t t' : bL}
section
variable {n : bE}
theorem yq.tk (h:yq n t n'):TK n n':=by
 obtain⟨b,_,_,⟨_,_,_,_,rfl,_⟩|⟨_,_,_,rfl,_⟩⟩:=h<;>exact⟨rfl,rfl,rfl,rfl,rfl,rfl,rfl⟩
theorem XX.tk (h:XX n b n'):TK n n':=by
 rcases h with⟨_,rfl⟩|⟨_,_,_,rfl,_⟩<;>exact⟨rfl,rfl,rfl,rfl,rfl,rfl,rfl⟩
theorem TK.trans {n'':bE} (a:TK n n') (b:TK n' n''):TK n n'':=⟨b.nb.trans a.nb,b.db.trans a.db,b.c.trans a.c,b.cl.trans a.cl,b.C.trans a.C,b.ex.trans a.ex,b.pre.trans a.pre⟩
theorem yq.ra (h:yq n t n'):n'.ra.length<=n.ra.length+1/\n'.rm.length<=n.rm.length+80:=by
 obtain⟨b,_,h1,⟨_,_,_,_,rfl,_⟩|⟨_,_,_,rfl,_⟩⟩:=h
 ·exact⟨by simp,h1⟩
 ·exact⟨dK _,h1⟩
theorem yq.get (h:yq n t n') (cA:t'≠t):getM t' n'.al=getM t' n.al:=by
 obtain⟨b,_,_,⟨_,_,_,_,rfl,_⟩|⟨_,_,_,rfl,_⟩⟩:=h
 ·exact Lq cA
 ·rfl
theorem yq.ok (h:yq n t n') (oJ: ∀t b,getM t n.al=some b->(n.A b).x.aO=t) (mO: ∀t b,getM t n.al=some b->rX N (n.A b)): ∀t b,getM t n'.al=some b->rX N (n'.A b):=by
 obtain⟨b,hb,_,hc⟩:=h;intro t' b' dZ;have hg:n'.A=(eI n b (wZ (n.A b))).A/\getM t' n.al=some b'/\(b'=b-> ¬6<=(n.A b).x.wO+1):=by
  rcases hc with⟨_,_,_,_,rfl,_⟩|⟨h6,_,_,rfl,_⟩
  ·obtain⟨q1,q2⟩:=nO (show getM t' (j9 t n.al)=some b' from dZ);exact⟨rfl,q1,λe=>absurd (by rw[e] at q1;exact(oJ _ _ q1).symm.trans (oJ _ _ hb)) q2⟩
  ·exact⟨rfl,dZ,λ_=>h6⟩
 have ha:=mO t' b' hg.2.1;rw[hg.1];by_cases e:b'=b
 ·have:=hg.2.2 e;subst e;rw[jq];exact⟨ha.q,ha.p,ha.sn,ha.ws,ha.ids,ha.Cx,by have:=ha.wO;show 0<=(n.A b').x.wO+1/\(n.A b').x.wO+1<6;omega,ha.pq⟩
 ·rw[show(eI n b (wZ (n.A b))).A b'=n.A b' from if_neg e];exact ha
theorem XY (h:jd w own n) (hX:qW own X) (hk:sT N M n):
  Ct pg 16 #[ptr n.nb 0,I gN] w X (gy own) λv wa w'=>Sb own wa w' (QL n) λn1=>v= .tuple #[.agg #[n1.vm,n1.va],I 0]:=by
 intro w0 ix;have s:=St.init h hX ix;have hi:1<=n.c.id/\n.c.id<=2:=by rw[hk.id];decide
 have hM:=hk.mM;have qi:=hk.cl;have al6:=hk.W5;clear h hX ix;have hr:=s.v.1;rw[Qg hk.pre] at hr;have hs:=s.rf;have TC:dM w0 (bI w0) nX n.c.ab (λk:bL=>k.v) xz n.al:=s.zO 5;refine CV.1 λ_=>?_;repeat' refine ak ?_;intros
 refine cd (FF (Y:=bI w0) hr (λ_ h=>h) TC zQ) kQ hs.has ?_;rintro vt Cv w1 X1 ⟨ts,wP,_,su⟩ pa mB ax;have FU:Sl w1 X1 3 vt (ts.map bL.l):=(su.mono mB).sl;have htl:ts.length=n.al.length:=by rw[wP.length_eq,af]
 have tR:ts.Nodup:=wP.nodup_iff.2 TC.nodup;have Db: ∀t∈ts,∃b,getM t n.al=some b:=λt ht=>by
  obtain⟨x,hx,rfl⟩:=List.mem_map.1 (wP.mem_iff.1 ht);exact⟨x.2,vY TC.nodup hx⟩
 obtain⟨al7,sp,-,-,hp4⟩:=(s.since ax).uW (N:=made Cv w1) λk ah=>⟨mB k ah,s.nw (ad pa ah.1)⟩;have hvt:Sl w1 (bN al7 4) 3 vt (ts.map bL.l):=(su.mono hp4).sl;have asK:n.ra.length=0:=by rw[hk.ra];rfl
 have asL:n.rm.length=0:=by rw[hk.rm];rfl
 clear hs hr s su hp4 mB pa ax TC;have hs:=sp.rf;repeat' refine ak ?_;intros
 refine gv (λk a z w X=> ∃(i:Nat) (lC:Nat->Nat) (n2:bE),a=I (i:Nat)/\k=ts.length-i/\i<=ts.length/\Sn w0 own w X lC n2/\sY (ts.take i) n n2/\TK n n2/\n2.rm.length<=80*i/\n2.ra.length<=i/\(∀t b,getM t n2.al=some b->rX N (n2.A b))/\(∀t∈ts.drop i,∃b,getM t n2.al=some b)/\Sl w (bN lC 4) 3 vt (ts.map bL.l))
  ts.length ⟨0,al7,n,rfl,rfl,aq _,sp,rfl,⟨rfl,rfl,rfl,rfl,rfl,rfl,rfl⟩,by omega,by omega,hk.act,Db,hvt⟩ ?_
 clear hs sp hvt FU;rintro k _ z w2 X2 ⟨i,lC,n2,rfl,rfl,hi2,s2,dh,Jp,asM,al8,al9,afp,ahI⟩;have hs:=s2.rf;have ama:Sl w2 X2 3 vt (ts.map bL.l):=ahI.mono (s2.sub 4);have view: ∀{w5:World} {X5:XS} {mE:Nat->Nat} {n5:bE},Sn w0 own w5 X5 mE n5->TK n n5->aG w5 X5 n.nb (coL n.c n5.vm n5.va) nT:=λs5 h5=>by
  have:=s5.v.1;rw[Qg (h5.pre.trans hk.pre),h5.nb,h5.c] at this;exact this
 have jC:=view s2 Jp;rcases dE (ts) i with⟨cD,t,hx,hd⟩|⟨dD,hd⟩
 ·repeat' refine aJ ?_;intros
  refine ij (Q:=λK=> ∀(lD:Nat->Nat) (n4:bE) (w4:World) (X4:XS) (y:Value),Sn w0 own w4 X4 lD n4->yq n2 t n4->Mv (bN lC 4) w2 (bN lD 4) w4->K y w4 X4) (λlD n4 w4 X4 y s4 h4 m4=>?_) (λK hK=>?_)
  ·have hs:=s4.rf;repeat' refine ak ?_;intros
   have asN:=h4.ra;refine fw (ts.length-(i+1)) zQ ⟨i+1,lD,n4,by simp,rfl,by omega,s4,by rw[bT,hx];exact dh.snoc h4,Jp.trans h4.tk,by omega,by omega,h4.ok (s2.get 12:) al9,λt' ht'=>?_,ahI.mv m4⟩;have cA:t'≠t:=λe=>by
    have:=tR;rw[<-gY i ts,hd] at this;exact(List.nodup_cons.1 (List.nodup_append.1 this).2.1).1 (e▸ht')
   rw[h4.get cA];exact afp t' (by rw[hd];exact bX _ ht')
  have amb:dM w2 X2 nX n.c.ab (λk:bL=>k.v) xz n2.al:=by
   have:dM w2 X2 nX n2.c.ab (λk:bL=>k.v) xz n2.al:=s2.zO 5
   rwa [Jp.c] at this
  repeat' refine ak ?_;intros
  refine lO (kt:=34) (et:=116) (kv:=λk:bL=>k.v) (k:=t) (.pointer none) amb sJ kQ kQ (λv b kO rE=>?_) (λhn=>?_);case refine_2=>
   obtain⟨b,hb⟩:=afp t (by rw[hd];simp);rw[hn] at hb;cases hb
  simp only[xz] at rE;subst rE;have hb:n2.dI b:=.inl ⟨_,kO⟩;have CB:=al9 _ b kO;have aqp:=CB.wO;have hw8:=CB.ws;have acK:=CB.ids;obtain⟨ha,o1,o2,o3,o4⟩:=s2.va hb;repeat' refine ak ?_;intros
  refine s2.st (o:=7) (tx b 0) (s2.h.act hb).1 (dX (eI n2 b (wZ (n2.A b)))) zQ kQ (eo rfl) rfl (λ_ _ _ h=>qD dQ h) Ik (λw3 X3 nf s3 m3=>?_) iy.1 iy.2;obtain⟨n3,sk⟩: ∃n3:bE,n3=eI n2 b (wZ (n2.A b)):=⟨_,rfl⟩;rw[<-sk] at s3;have e3:n3.A b=wZ (n2.A b):=by rw[sk];exact jq
  have f3:n3.nb=n.nb/\n3.c=n.c/\n3.rm=n2.rm/\n3.ra=n2.ra/\n3.ms=n2.ms/\n3.al=n2.al/\n3.ex=n2.ex:=by rw[sk];exact⟨Jp.nb,Jp.c,rfl,rfl,rfl,rfl,rfl⟩
  have rD:n3.dI b:=by rw[sk];exact hb
  have ht3:(wZ (n2.A b)).x.aO=t:=(show∀t b,getM t n2.al=some b->(n2.A b).x.aO=t from s2.h.gK 12 dQ dQ) _ _ kO;clear hs ha s2 amb ama jC;have hs:=s3.rf;obtain⟨ha,-⟩:=s3.va rD;rw[e3] at ha;have asO:(wZ (n2.A b)).x.wO=(n2.A b).x.wO+1:=rfl;have hi3:1<=n3.c.id/\n3.c.id<=2:=by rw[f3.2.1];exact hi
  by_cases h6:6<=(n2.A b).x.wO+1
  ·repeat' refine aJ ?_;intros
   rw[<-f3.1];refine s3.call (zF (code:=25) s3.h s3.x rD (by rw[e3];exact CB.pq) (by rw[f3.2.2.2.1];omega) hi3 (by rw[f3.2.2.1,e3];show n2.rm.length+(n2.A b).ids.length<=_;omega)) kQ λv w4 X4 lD n4 s4 ⟨oB,A3,yL,q4,P3⟩ m4=>?_;have s5:=s4.to (Hv (e':=n2.ex) λb' h'=>by rw[q4];show b'∈b::n3.ex;rw[f3.2.2.2.2.2.2];exact .tail _ h');rw[e3,ht3] at q4 P3;refine hK lD _ w4 X4 _ s5 ⟨b,kO,?_,.inl ⟨h6,oB,A3,yL,by rw[q4,sk];rfl,by rw[P3,sk];rfl⟩⟩ (m3.trans m4)
   show n4.rm.length<=_
   rw[q4]
   show yL.length<=_
   rw[P3]
   show n3.rm.length+_<=_
   rw[f3.2.2.1];split
   ·show _+((n2.A b).ids.map _).length<=_;rw[af];omega
   ·simp
  ·have hws:(n2.A b).rw.length=(n2.A b).ws.length:=by have:=(s3.h.act rD).2.2.2.1.1;rw[e3] at this;exact this
   have rows: ∀{w5:World} {X5:XS} {mE:Nat->Nat} {n5:bE},Sn w0 own w5 X5 mE n5->n5.dI b->n5.A b=wZ (n2.A b)->Sl w5 X5 36 (n2.A b).vw ((n2.A b).rw.map id)/\fQ w5 (bN mE 4) (n2.A b).rw (n2.A b).ws:=λs5 Bu e5=>by
    have:=s5.h.act Bu;rw[e5] at this;exact⟨by rw[List.map_id];exact this.2.1.sl.mono (s5.sub _ iy.1),this.2.2.2.1⟩
   have aqq:=(rows s3 rD e3).1;repeat' refine aJ ?_;intros
   refine eY (λk a w X=> ∃(j:Nat) (lD:Nat->Nat) (n4:bE),a=I (j:Nat)/\k=(n2.A b).rw.length-j/\j<=(n2.A b).rw.length/\Sn w0 own w X lD n4/\Told n3 (((n2.A b).ws.take j).map λm=>m.pU (20+n.c.id)) n4/\Mv (bN nf 4) w3 (bN lD 4) w)
    (n2.A b).rw.length ⟨0,nf,n3,rfl,rfl,aq _,s3,Told.nil _,Mv.refl _ _⟩ ?_
   clear hs s3 aqq ha;rintro k _ w4 X4 ⟨j,lD,n4,rfl,rfl,hj,s4,ht4,m4⟩;have hs:=s4.rf;have f4:n4.nb=n.nb/\n4.c=n.c/\n4.rm.length=n2.rm.length+j/\n4.A b=wZ (n2.A b)/\n4.dI b:=by
    obtain⟨v,r,rfl,hl⟩:=id ht4;exact⟨f3.1,f3.2.1,by show r.length=_;rw[hl,f3.2.2.1,af,List.length_take];omega,e3,rD⟩
   have zi:=rows s4 f4.2.2.2.2 f4.2.2.2.1;have asP:=zi.1;rcases dE (n2.A b).rw j with⟨cD,l,hl,_⟩|⟨dD,_⟩
   ·obtain⟨y,hy⟩: ∃y,(n2.A b).ws[j]? =some y:=⟨_,List.getElem?_eq_getElem zQ⟩;obtain⟨uk,us,uw,up,ur,uc,uh,ud,rfl,dF⟩:=zi.2.2 j l y hl hy;have q1:=dF.keys.one;have q2:=dF.seen.one;have q3:=dF.writes.one;have q4:=dF.parts.one;have q5:=dF.ranges.one;have q6:=dF.bt.one;have q7:=dF.iz.one;have q8:=dF.gX.one;have q9:(id (y.l uk us uw up ur uc uh ud)).all aK.one=true:=by
     dsimp only [id];repeat' first|with_reducible apply J7|with_reducible exact Nx|assumption|rfl
    repeat' refine aJ ?_;intros
    try dsimp only [id]
    skip
    refine cd (HH (m:=y) (dF.mv (Mv.sub (s4.sub 4))) (CB.Cx y (ay hy))) kQ hs.has ?_;rintro _ NU w5 X5 ⟨Hq,CA,lz,Ju,rfl,u1,u2,u3,u4⟩ Im EC sU;have ua:=dF.mv (hs.gU (s4.sub 4));have s5:=s4.since hs;replace ua:=ua.mv (sU.gU (s5.sub 4));obtain⟨sy,s6,m6,-,n6⟩:=(s5.since sU).uW (N:=made NU w5) λk hk=>⟨EC k hk,s5.nw (ad Im hk.1)⟩;have k6:Mv (made NU w5) w5 (bN sy 4) w5:=Mv.sub n6;replace ua:=ua.mv m6;rw[<-f4.1];refine s6.call (A6 (m:=y) s6.h s6.x ⟨u1.mv k6,u2.mv k6,u3.mv k6,u4.mv k6,ua.ranges,ua.bt,ua.iz,ua.gX⟩ (by rw[f4.2.1];exact hi) zQ) kQ λv w7 X7 Dd n7 s7 q7 m7=>?_;replace q7:Told n4 [y.pU (20+n.c.id)] n7:=by rw[<-f4.2.1];exact q7
    have m47:=((m4.trans (hs.gU (s4.sub 4))).trans (sU.gU (s5.sub 4))).trans (m6.trans m7);clear hs;repeat' refine ak ?_;intros
    exact ep ((n2.A b).rw.length-(j+1)) zQ ⟨j+1,Dd,n7,by simp,rfl,by omega,s7,by rw[Cy hy];exact ht4.add q7,m47⟩
   ·repeat' refine aJ ?_;intros
    rw[aA zQ] at ht4;exact hK lD n4 w4 X4 _ s4 ⟨b,kO,by rw[f4.2.2.1];omega,.inr ⟨h6,by rw[Jp.c];rw[sk] at ht4;exact ht4⟩⟩ (m3.trans m4)
 ·rw[aA dD] at dh;have iF: ∀{w5:World} {X5:XS} {mE:Nat->Nat} {n5:bE},Sn w0 own w5 X5 mE n5->TK n n5->Sl w5 X5 1 n.c.cm (n.cl.map λb=>[ptr b 0]):=λ{w5 X5 mE n5} s5 CM=>by
   have:=(show Own w5 X5 0 pcT 1 n5.c.cm (n5.cl.map λb=>[ptr b 0])from s5.zO 10).sl
   rwa [CM.c,CM.cl] at this
  have aqr:=iF s2 Jp;repeat' refine aJ ?_;intros
  refine eY (λk a w X=> ∃(j:Nat) (mE:Nat->Nat) (n5:bE),a=I (j:Nat)/\k=n.cl.length-j/\j<=n.cl.length/\Sn w0 own w X mE n5/\BX (n.cl.take j) n2 n5/\TK n n5/\n5.rm.length<=80*ts.length+80*j) n.cl.length ⟨0,lC,n2,rfl,rfl,aq _,s2,rfl,Jp,by omega⟩ ?_;clear hs s2 aqr jC ama ahI;rintro k _ w5 X5 ⟨j,mE,n5,rfl,rfl,hj,s5,hD5,CM,asQ⟩;have hs:=s5.rf;have asR:=iF s5 CM;have CK:=view s5 CM;rcases dE n.cl j with⟨cD,b,hb,_⟩|⟨Gz,_⟩
  ·have N8:b∈n.cl:=ay hb;have Bu:b∈n5.cl:=by rw[CM.cl];exact N8
   have hw8:=hk.cw b N8;repeat' refine aJ ?_;intros
   refine ij (Q:=λK=> ∀(sy:Nat->Nat) (n6:bE) (w6:World) (X6:XS),Sn w0 own w6 X6 sy n6->XX n5 b n6->K w6 X6) (λsy n6 w6 X6 s6 h6=>?_) (λK hK=>?_)
   ·have hs:=s6.rf;repeat' refine ak ?_;intros
    refine ep (n.cl.length-(j+1)) zQ ⟨j+1,sy,n6,by simp,rfl,by omega,s6,by rw[bT,hb];exact hD5.snoc h6,CM.trans h6.tk,?_⟩;have:n6.rm.length<=n5.rm.length+80:=by
     rcases h6 with⟨_,rfl⟩|⟨_,_,_,rfl,h⟩
     ·omega
     ·show ba _<=_;rw[h,af,CM.C];omega
    omega
   ·obtain⟨hc,o2,o1,Hp⟩:=s5.vc Bu;cases Br:(n5.C b).ended with
    |true=>
     rw[Br] at hc;repeat' refine ak ?_;intros
     exact hK mE n5 w5 X5 s5 (.inl ⟨Br,rfl⟩)
    |false=>
     rw[Br] at hc;repeat' refine ak ?_;intros
     rw[<-CM.nb];exact s5.call (HG (b:=b) s5.h s5.x Bu (by rw[CM.c];exact hi) (by rw[CM.C];omega)) kQ λv w6 X6 sy n6 s6 q6 _=>hK sy n6 w6 X6 s6 (.inr ⟨Br,q6⟩)
  ·rw[aA Gz] at hD5;repeat' refine aJ ?_;intros
   rw[<-CM.nb];refine s5.call (ED s5.h s5.x) kQ λv w6 X6 sy n6 s6 ⟨q1,q2,q3⟩ _=>?_;subst q1 q2;have o1:=s5.v.2.1;have o2:=s5.v.2.2.1;clear hs;repeat' refine ak ?_;intros
   exact St.alC s6 q3 ⟨ts,n2,wP,dh,hD5⟩ rfl
end
theorem XZ: ∀xs:List Int,xs.length<=(xs.map encI).flatten.length
 |[]=>by simp
 |x::xs=>by
  have h1:=XZ xs;have h2:=EY x;simp only[bB,dd,aa,aL];omega
variable {r : Rec}
section
variable {rb at_ gK cb xb : Nat} {vb : Value} {pl : Int} {bs tl : List Nat} {cs pH : List Value}
theorem Va {xo:Nat} (h:RB w X rb vb at_ pl bs cb xb cs ty) (he:bs.drop at_=iT encI xs++tl) (hn: ∀x∈xs,uI x) (hl:xs.length<=2^30) (ho:cs[xo]? =some ka):
  Ct pg 186 #[ptr cb 0,ptr xb xo,.func (.func 183) #[ptr cb 0] #[]] w X (λk=>k=rb\/k=xb) λv wa w'=> ∃va,v= .tuple #[]/\
   aG w' (λk=>k=rb) rb [vb,I ((at_+(iT encI xs).length:Nat):Int),I 0,I pl] 315/\aG w' (λk=>k=xb) xb (bO cs xo [va]) ty/\Own w' (made wa w') wa.heap.size 3 1 va (xs.map I1):=by
 intro wi hk;have hS:=h.start hk;have hc:=hS.c;have hxo:xo+1<=cs.length:=(List.getElem?_eq_some_iff.1 ho).1;have e0:bs.drop at_=encI xs.length++((xs.map encI).flatten++tl):=by rw[he];unfold iT;rw[ao]
 have d0:=hS.mP e0;have e1:=qX e0;have hfg:=XZ xs;have d1:at_+(encI xs.length).length+(xs.map encI).flatten.length<=bs.length:=by
  have h1:=congrArg ba e1;rw[List.length_drop,aa] at h1;omega
 have Lr:Cells wi (bI wi) xb xo [ka]:=⟨hS.x.1,cs.toArray,ty,(0,0),hS.x.2,λj u hj=>by
  cases j with
  |zero=>simp at hj;subst hj;simpa using ho
  |succ j=>simp at hj⟩
 have hnl:Sl wi (bI wi) 1 ka (([]:List Int).map I1):=Sl.nil _ _ _;refine DF.1 λ_=>?_;have hs:=ai.eQ hS.t.s.has;have Ls:=hS.aom;repeat' refine ak ?_;intros
 refine ij (Q:=λK=> ∀w X,RS wi w X rb vb (at_+(encI xs.length).length) pl bs cb xb (bO cs xo [ka]) ty->K (I xs.length) w X) ?_ λK hK=>?_
 ·intro w1 X1 lV;refine eY (λm a w X=> ∃(i:Nat) (va:Value),a=I i/\m=xs.length-i/\i<=xs.length/\RS wi w X rb vb (at_+(encI xs.length).length+((xs.take i).map encI).flatten.length) pl bs cb xb (bO cs xo [va]) ty/\Own w X wi.heap.size 3 1 va ((xs.take i).map I1)) xs.length ⟨0,ka,rfl,rfl,aq _,by simpa using lV,Own.nil _ _ _ _ _⟩ ?_;clear lV hs Lr hc;rintro m a w2 X2 ⟨i,va,rfl,rfl,hi,bh,ju⟩;have hs:=ai.eQ bh.t.s.has;rcases dE xs i with⟨cD,x,hx,hd⟩|⟨dD,hd⟩
  ·have hc:=bh.c;have Lr:=CI bh.x hxo;have hti:((xs.take i).map I1).length=i:=by simp;omega
   have gn:=hn x (ay hx);have Ya:((xs.take (i+1)).map encI).flatten=((xs.take i).map encI).flatten++encI x:=lN hx;have ei:bs.drop (at_+(encI xs.length).length+((xs.take i).map encI).flatten.length)=encI x++(((xs.drop (i+1)).map encI).flatten++tl):=by
    have h1:(xs.map encI).flatten=((xs.take i).map encI).flatten++(encI x++((xs.drop (i+1)).map encI).flatten):=by
     conv=>lhs;rw[<-gY i xs,hd]
     rw[aC,List.flatten_append,bB,dd]
    rw[h1] at e1;rw[<-List.drop_drop,e1];simp only[ao];rw[List.drop_left]
   repeat' refine aJ ?_;intros
   refine ij (Q:=λK=> ∀w X va,RS wi w X rb vb (at_+(encI xs.length).length+((xs.take i).map encI).flatten.length) pl bs cb xb (bO cs xo [va]) ty->Own w X wi.heap.size 3 1 va ((xs.take i).map I1++[[I 0]])->K w X) ?_ λK hK=>?_
   ·intro w3 X3 va3 cr Yb;clear hs hc Lr;have hs:=ai.eQ cr.t.s.has;have Lr:=CI cr.x hxo;repeat' refine ak ?_;intros
    refine ahw Yb (by rw[hti]) kQ kQ λg csg hg gw hbg hlen uG amc=>?_;refine CW ?_;have dD:rb<g/\xb<g/\cb<g:=by have:=Ls.r;have:=Ls.x;have:=Ls.c;omega
    have Ka:RB w3 X3 rb vb (at_+(encI xs.length).length+((xs.take i).map encI).flatten.length) pl bs cb g csg 3:=⟨cr.r,hg,cr.c,cr.c1,by omega,by omega,λhb=>by have:=Ls.v g hb;omega⟩;rw[hti] at amc hlen⊢;refine yR (ph (xo:=i*1) Ka ei gn hlen) kQ cr.t.s.has (λk e=>e.elim (λe=>e▸cr.r.box.1) λe=>e▸hg.1) λv wa w4 X4 ⟨hv,zi,hx4⟩ _ _ _ c4=>?_;subst hv;have gZ:=cr.aon Ls c4 ⟨hg.1,gw⟩ ⟨c4.sub _ cr.r.box.1,zi.2⟩ (Ka.mP ei);clear hs;repeat' refine ak ?_;intros
    refine ep (xs.length-(i+1)) zQ ⟨i+1,va3,by simp,rfl,by omega,?_,?_⟩
    ·rw[Ya,aa,<-Nat.add_assoc];exact gZ
    ·rw[bT,hx,aC];exact(amc w4 X4 [I x] rfl ⟨c4.sub _ hg.1,hx4.2⟩)
   ·repeat' first|refine ak ?_;intros|(refine q1s hs ?_;intro _ _ _ w X hs ho)
    have ahJ:=bh.since hs;have ahK:=ju.since hs;refine Ec (bytes:=8) (dw:=[[I 0]]) ahK ahJ.t.s.has ahJ.t.s.kp.size kQ ho.sl (λr hr u hu=>?_) oQ oQ λva3 w3 X3 c3 Yb asS=>?_
    ·simp only[av] at hr;subst hr;simp at hu;subst hu;rfl
    have cr:=ahJ.ap6 Ls c3 λk ah=>⟨(ahK.ow.bw ah).1,(ahK.ge ah).1⟩;clear hs hc Lr;have hs:=ai.eQ cr.t.s.has;repeat' refine ak ?_;intros
    refine pM (o:=xo) cr.x rfl kQ (by rw[BT _ _ _ oQ];omega) Yb.sl.one cr.t.s.has λw4 X4 c4 zi=>?_;rw[acU _ _ _ _ hxo] at zi;exact hK _ _ va3 (cr.ahv c4 zi) (Yb.dY c4 λg hg e=>by have:=(Yb.ge hg).1;have:=Ls.x;have e:g=xb:=e;omega)
  ·have pK:i=xs.length:=by omega
   subst pK;rw[List.take_length] at bh ju;have e:at_+(encI xs.length).length+(xs.map encI).flatten.length=at_+(iT encI xs).length:=by unfold iT;rw[aa];omega
   rw[e] at bh;repeat' refine aJ ?_;intros
   refine bh.t.fin λwa aH=>⟨va,rfl,(bh.out aH).2.1,(bh.out aH).2.2,(ju.kp aH).tight⟩
 ·repeat' refine ak ?_;intros
  refine dL (afb hS.r) kQ hS.t.s.has λw1 X1 ax=>?_;have lV:=hS.since ax;refine lV.read (acP lV.r e0 zQ (by have:=lV.r.sz;omega)) kQ d0 λw2 X2 bh=>?_;refine dL (TQ bh.toRB) kQ bh.t.s.has λw3 X3 cY=>?_;have cr:=bh.since cY;clear hs;repeat' refine ak ?_;intros
  refine pM (o:=xo) cr.x rfl kQ hxo rfl cr.t.s.has λw4 X4 c4 zi=>?_;exact hK _ _ (cr.ahv c4 zi)
abbrev ahL:List Value:=[I 0,I 0,I 0,I 0,I 0,I 0,I 0,I 0,I 0,I 0,B false,I 0,.float .f64 0,ka,ka,ka,ka,I 0,I 0,.float .f64 0,.float .f64 0,I 0,I 0,I 0,I 0,I 0,I 0,ka,ka]
def lP (n:Int):Rec:=⟨8,.zero,.zero,.zero,false,n,0,[],[],[],[],.zero⟩
theorem QM (n:Int):gf (lP n)=encI 8++encI n:=by simp[gf,lP]
inductive Uf:Rec->Prop
 |EZ (n:Int):uI n->Uf (lP n)
 |Bz (t:bL) (st:cx) (ps:List Int):Dg t->acS st->(∀x∈ps,uI x)->ps.length<=2^30->Uf (jl t st ps)
 |fin (t:bL):Dg t->Uf (mi t)
theorem Uf.kind (h:Uf r):r.kind=8\/r.kind=9\/r.kind=10:=by
 cases h
 ·exact .inl rfl
 ·exact .inr (.inl rfl)
 ·exact .inr (.inr rfl)
theorem aaQ (hr:Uf r) (h:RB w X rb vb at_ pl bs cb xb ahL ty) (he:bs.drop at_=gf r++tl):
  Ct pg 134 #[ptr cb 0,ptr xb 0] w X (λk=>k=rb\/k=xb) λv wa w'=> ∃vp,v= .tuple #[]/\
   aG w' (λk=>k=rb) rb [vb,I ((at_+(gf r).length:Nat):Int),I 0,I pl] 315/\aG w' (λk=>k=xb) xb (r.l ka ka vp ka ka ka) ty/\Own w' (made wa w') wa.heap.size 3 1 vp (r.parts.map I1):=by
 intro wi hk;have hS:=h.start hk;refine Lt.1 λ_=>?_;repeat' first|refine ak ?_;intros|(with_reducible refine sV kQ kQ ?_)
 cases hr with
 |EZ n hn=>
  rw[QM] at he⊢;have e0:bs.drop at_=encI 8++(encI n++tl):=by rw[he,ao]
  have e1:=qX e0;have d0:=hS.mP e0;refine hS.call (ph (xo:=0) hS.toRB e0 (by unfold uI;omega) sQ) kQ d0 λw1 X1 lV=>?_;have hs:=ai.eQ lV.t.s.has;have Lr:=CI (u:=I 8) lV.x sQ;repeat' first|refine aJ ?_;intros|with_reducible apply cB
  rename_i o7 ho7 _;subst ho7;clear Lr hs;have d1:=lV.mP e1;refine lV.call (ph (xo:=11) lV.toRB e1 hn (eo rfl)) kQ d1 λw2 X2 bh=>?_;have hs:=ai.eQ bh.t.s.has
  skip
  have e:at_+(encI 8).length+(encI n).length=at_+(encI 8++encI n).length:=by simp only[aa];omega
  rw[e] at bh;exact bh.t.fin λEI aH=>⟨ka,rfl,(bh.out aH).2.1,(bh.out aH).2.2,Own.nil _ _ _ _ _⟩
 |Bz t st ps h1 h2 h3 h4=>
  rw[VY] at he⊢;have e0:bs.drop at_=encI 9++(nB t++(lq st++(iT encI ps++tl))):=by rw[he];simp only[ao]
  have e1:=qX e0;have e2:=qX e1;have e3:=qX e2;have d0:=hS.mP e0;refine hS.call (ph (xo:=0) hS.toRB e0 (by unfold uI;omega) sQ) kQ d0 λw1 X1 lV=>?_;have hs:=ai.eQ lV.t.s.has;have Lr:=CI (u:=I 9) lV.x sQ;repeat' first|refine aJ ?_;intros|with_reducible apply cB
  rename_i o7 ho7 _;subst ho7;clear Lr hs;have d1:=lV.mP e1;refine lV.call (TR (xo:=1) lV.toRB e1 h1 (eo rfl)) kQ d1 λw2 X2 bh=>?_;repeat' first|refine ak ?_;intros|(with_reducible refine sV kQ kQ ?_)
  refine bh.call (aaE (xo:=4) bh.toRB e2 h2 (eo rfl)) kQ (bh.mP e2) λw3 X3 cr=>?_;repeat' first|refine ak ?_;intros|(with_reducible refine sV kQ kQ ?_)
  refine yR (Va (xo:=15) cr.toRB e3 h3 h4 rfl) kQ cr.t.s.has (λk e=>e.elim (λe=>e▸cr.r.box.1) λe=>e▸cr.x.1) λv wa w5 X5 ⟨va,hv,CK,QN,sW⟩ Im EC _ c5=>?_;subst hv;have nk:=cr.ON c5 ⟨c5.sub _ cr.r.box.1,CK.2⟩ (cr.mP e3) ⟨c5.sub _ cr.x.1,QN.2⟩
  skip
  have e:at_+(encI 9).length+(nB t).length+(lq st).length+(iT encI ps).length=at_+(encI 9++(nB t++(lq st++iT encI ps))).length:=by simp only[aa];omega
  rw[e] at nk;exact nk.t.fin λEI aH=>⟨va,rfl,(nk.out aH).2.1,(nk.out aH).2.2,((sW.up EC (ad cr.t.s.kp.size Im)).kp aH).tight⟩
 |fin t h1=>
  rw[QJ] at he⊢;have e0:bs.drop at_=encI 10++(nB t++tl):=by rw[he,ao]
  have e1:=qX e0;refine hS.call (ph (xo:=0) hS.toRB e0 (by unfold uI;omega) sQ) kQ (hS.mP e0) λw1 X1 lV=>?_;have hs:=ai.eQ lV.t.s.has;have Lr:=CI (u:=I 10) lV.x sQ;repeat' first|refine aJ ?_;intros|with_reducible apply cB
  rename_i o7 ho7 _;subst ho7;clear Lr hs;refine lV.call (TR (xo:=1) lV.toRB e1 h1 (eo rfl)) kQ (lV.mP e1) λw2 X2 bh=>?_
  skip
  have e:at_+(encI 10).length+(nB t).length=at_+(encI 10++nB t).length:=by simp only[aa];omega
  rw[e] at bh;exact bh.t.fin λEI aH=>⟨ka,rfl,(bh.out aH).2.1,(bh.out aH).2.2,Own.nil _ _ _ _ _⟩
theorem Sq {v0:Value} (hr:Uf r) (h:Sl w X 1 v0 ((gf r).map U1)) (aqs:r.err=0) (hlen:(gf r).length<=262144) (cD: ∀b∈gf r,b<256):
  Ct pg 79 #[v0] w X nX λv wa w'=> ∃va,v= .tuple #[r.v ka ka va ka ka ka,I 0]/\Own w' (made wa w') wa.heap.size 3 1 va (r.parts.map I1):=by
 intro w0 hk;replace h:=h.mv hk.bY;have Lo:Ft w0 nX w0 (bI w0) nX:=Ft.init λ_ h=>h.elim;refine Sr ?_;unfold HI;refine MN (l:=ahL) Lo.s.has kQ λxb w1 X1 TL ax DX=>?_;have ea:=Lo.since ax;refine ahx ea.s.has kQ λeb w2 X2 heb bp DN=>?_;have dh:=ea.since bp;have hrx:=DX.since bp;have hs:=ax.trans bp;have oC:=h.mv hs.mv;have cA:gf r≠[]:=by
  intro e;have:=EY r.kind;have h9:=congrArg ba e;cases hr
  ·rw[QM] at h9;have:=EY 8;simp only[aa,br] at h9;omega
  ·rw[VY] at h9;have:=EY 9;simp only[aa,br] at h9;omega
  ·rw[QJ] at h9;have:=EY 10;simp only[aa,br] at h9;omega
 generalize uJ:gf r=bs at*;repeat' refine aJ ?_;intros
 refine cd (ahu oC zQ cD) kQ dh.s.has ?_;rintro _ yD w3 X3 ⟨rb,vb,rfl,jv⟩ pV lT cY;have dU:=dh.since cY;repeat' refine ak ?_;intros
 refine AZ dU.s.has λcb w4 X4 hcb fV QO=>?_;have fO:=(dU.since fV).OZ;have hz3:=cY.kp.size;have zS:Bv w3 X3 rb vb 0 0 bs:=jv.mv (Mv.sub lT);have K4:=zS.mv fV.mv;have adC:=(hrx.since cY).since fV;have amd:=(DN.since cY).since fV;have NJ:=jv.box.1;have T1:=bp.has xb (bp.sub xb DX.1);have asT:=ax.has xb DX.1;have Ls:=bp.has eb DN.1;have qi:=fV.has cb QO.1;have Ka:RB w4 X4 rb vb 0 0 bs cb xb ahL 73:=⟨K4,adC,QO.cells,by have:=NJ.2;omega,by omega,by have:=NJ.1;omega,λhb=>by have:=(jv.ow.bw hb).1.1;omega⟩;refine fO.call (aaQ (tl:=[]) hr Ka (by rw[uJ];simp)) kQ (λk e=>e.elim (λe=>by subst e;exact⟨K4.box.1,by have:=NJ.1;omega⟩) λe=>by subst e;exact⟨adC.1,by omega⟩) λv NU w5 X5 hq5 Im EC iN c5=>?_;obtain⟨va,rfl,CK,QN,sW⟩:=hq5;rw[uJ] at CK;have ame:aG w5 X5 xb _ _:=⟨c5.sub _ adC.1,QN.2⟩;have aqt:=amd.dY c5 λe=>e.elim (λe=>by have:=NJ.1;omega) λe=>by omega
 have aqu:=Ka.ON c5 (gK:=0+bs.length) ⟨c5.sub _ K4.box.1,CK.2⟩ zQ ame;have h0:Sl w0 (out nX w0) 1 v0 (bs.map U1):=h.mono λk ah=>⟨ah,λh=>h.elim⟩;clear hs oC ax bp cY fV;have hs:=ai.eQ iN.s.has
 skip
 refine dL (aht aqu.r zQ) kQ iN.s.has λw6 X6 qm=>?_;have kc:=iN.since qm;have hx6:=ame.since qm;have aqv:=aqt.since qm;have ho6:Own w6 X6 w0.heap.size 3 1 va (r.parts.map I1):=(sW.up EC (by have:=fO.s.kp.size;omega)).since qm;obtain⟨ab,an,ac,rfl⟩:=ho6.sl.form;repeat' refine aJ ?_;intros
 have aqw:Ct pg 136 #[r.v ka ka (.slice ab an ac) ka ka ka] w6 X6 nX λv wa w'=> ∃vb,v= .tuple #[vb,I 0]/\Own w' (made wa w') wa.heap.size 5 1 vb (bs.map U1):=by
  have dF:r.at w6 X6 ka ka (.slice ab an ac) ka ka ka:=by
   cases hr<;>exact⟨Sl.nil _ _ _,Sl.nil _ _ _,ho6.sl,Sl.nil _ _ _,fp.nil _ _ _,fp.nil _ _ _⟩
  have lX:r.small:=by cases hr<;>exact DV rfl rfl rfl
  refine(Dm dF lX (λ_=>by rw[uJ];omega)).mono λv wb w' _ hq=>?_;have AN:r.fI=0:=by
   unfold Rec.fI;rw[if_neg (by simp[aqs]),if_neg (by rw[uJ];omega)]
  rw[if_neg (by simp[AN]),uJ] at hq;exact hq
 refine cd aqw kQ kc.s.has ?_;rintro _ Qc w7 X7 ⟨ve,rfl,hoe⟩ R8 Gu oS;have CO:=kc.since oS;have hx7:=hx6.since oS;have aqx:=aqv.since oS;repeat' refine aJ ?_;intros
 refine ij (Q:=λK=> ∀w X,ai X7 w7 X w->K (B true) w X) ?_ λK hK=>?_
 ·intro w8 X8 jZ;have Ug:=CO.since jZ;have hx8:=hx7.since jZ;have aqy:=aqx.since jZ;have yJ:=(ho6.since oS).since jZ;clear hs;repeat' refine ak ?_;intros
  refine FI (o:=0) hx8 rfl kQ (eo rfl) rfl ?_ Ug.s.has λw9 X9 c9 Qe=>?_
  ·rfl
  have hT9:=Ug.dY (F':=λk=>BE w0 X4 k\/made NU w5 k) c9 (λk ah=>by subst ah;exact .inl ⟨adC.1,by omega⟩) λk ah=>.inl ah;have amf:=aqy.dY c9 (λe=>by have e:eb=xb:=e;omega);have TU:=yJ.dY c9 λg hg e=>by
   have e:g=xb:=e;subst e;exact Own.eT yJ hx8 kQ hg
  refine pM (o:=0) amf rfl kQ sQ rfl hT9.s.has λJv Lu QQ Yc=>?_;have GF:=hT9.dY (F':=λk=>BE w0 X4 k\/made NU w5 k) QQ (λk ah=>by subst ah;exact .inl ⟨amd.1,by omega⟩) λk ah=>.inl ah;have aqz:=Qe.dY QQ (λe=>by have e:xb=eb:=e;omega);have aqA:=TU.dY QQ λg hg e=>by
   have e:g=eb:=e;subst e;exact Own.eT TU amf kQ hg
  unfold aK.fin;intro wa aH;refine U3 (X:=Lu) (cs:=r.l ka ka (.slice ab an ac) ka ka ka) (aqz.kp aH) rfl (Yc.kp aH) ?_;exact⟨_,rfl,⟨aH.os.trans GF.s.kp.os,aH.tape.trans GF.s.kp.tape,aH.output.trans GF.s.kp.output,ad GF.s.kp.size aH.size,λk hl hn=>(aH.block k (GF.s.sub k ⟨hl,hn⟩)).trans (GF.s.kp.block k ⟨hl,hn⟩)⟩,.slice ab an ac,rfl,(aqA.kp aH).tight⟩
 ·repeat' refine ak ?_;intros
  refine dL (Xh (hoe.sl.mono Gu) (h0.mv CO.s.mv) cA) kQ CO.s.has λw8 X8 jZ=>?_;exact hK _ _ jZ
end
def Yd (n:bE) (r:Rec):Prop:=
 (r.kind=8/\r.n=n.c.aW+1)\/(r.kind=9/\r.aO.eh=n.c.id/\r.aO.aW=n.c.aW/\getM r.aO n.bl=none)\/(r.kind=10/\ ∃b,b∈n.cl/\getM r.aO n.bl=some b/\(n.C b).ended=false)
def IC (n:bE) (r:Rec) (vp:Value) (n':bE):Prop:=
 (r.kind=8/\n'= { n with c:= { n.c with aW:=n.c.aW+1 } })\/(r.kind=9/\ ∃v,al1 n r vp v n')\/
 (r.kind=10/\ ∃b,getM r.aO n.bl=some b/\n'=mH n b { n.C b with v2:=aP,waits:=[],ended:=true })
section
variable {n : bE}
theorem Ye (h:jd w own n) (hX:qW own X) (hr:Yd n r) (hp:Sl w (bN own 4) 1 vp (r.parts.map I1)) (vO:r.parts.length<=2^40) (qi:n.cl.length<=2^20) (hl:0<=n.c.aW/\n.c.aW<=2^30):
  Ct pg 80 #[ptr n.nb 0,r.v aP aP vp aP aP aP] w X (gy own) λv wa w'=>NQ dX own wa w' λ_ n'=>v=B true/\IC n r vp n':=by
 intro w0 hk;have s:=St.init h hX hk;replace hp:=hp.mv (yG hX hk);have oO:=s.v.1;refine Lv.1 λ_=>?_;have hs:=s.rf;rcases hr with⟨hk,hn⟩|⟨hk,h1,h2,h3⟩|⟨hk,b,hb,h1,h2⟩
 ·repeat' refine aJ ?_;intros
  refine s.st (o:=1) 1 (s.get 1) (dX { n with c:= { n.c with aW:=n.c.aW+1 } }) zQ kQ (eo rfl) rfl (λ_ _ _ h=>h) nz λw1 X1 il s1 m1=>?_;clear hs oO;have oO:=s1.v.1;have hs:=s1.rf;repeat' refine aJ ?_;intros
  exact s1.fin λ_ _=>⟨by first|rfl|(congr 1;simp;omega),.inl ⟨hk,rfl⟩⟩
 ·repeat' refine aJ ?_;intros
  refine lO (kt:=34) (et:=124) (kv:=λk:bL=>k.v) (k:=r.aO) (.pointer none) (s.zO 6:) sJ kQ kQ (λv b kO rE=>?_) (λhn=>?_)
  ·rw[h3] at kO;cases kO
  repeat' refine ak ?_;intros
  refine s.call (Ob (r:=r) s.h s.x hp vO qi) kQ λv w1 X1 il n1' s1 q1 m1=>?_;clear hs
  skip
  exact s1.fin λ_ _=>⟨rfl,.inr (.inl ⟨hk,_,q1⟩)⟩
 ·obtain⟨hc,o3,o2,Hp⟩:=s.vc hb;rw[h2] at hc;repeat' refine aJ ?_;intros
  refine lO (kt:=34) (et:=124) (kv:=λk:bL=>k.v) (k:=r.aO) (.pointer none) (s.zO 6:) sJ kQ kQ (λv b' kO rE=>?_) (λhn=>?_);case refine_2=>rw[h1] at hn;cases hn
  simp only[xz] at rE;subst rE;obtain rfl:b'=b:=by rw[h1] at kO;exact(cn kO).symm
  repeat' refine ak ?_;intros
  refine s.st (o:=30) (tx b' 4) (s.h.Bz hb).1 (dX (mH n b' { n.C b' with ended:=true })) zQ kQ sQ rfl (λ_ _ _ h=>ML dQ h) V2 (λw1 X1 il s1 m1=>?_) iy.1 iy.2;have lL:b'∈(mH n b' { n.C b' with ended:=true }).cl:=hb;clear hs hc;have hs:=s1.rf;obtain⟨hc,-⟩:=s1.vc lL;rw[Lm] at hc;repeat' refine ak ?_;intros
  have iF:=s1.h.Bz lL;rw[Lm] at iF;refine pM (o:=29) hc zQ kQ sQ rfl s1.has λw2 X2 c2 jC=>?_;obtain⟨lC,s2,m2⟩:=s1.jO (F':=dX (mH n b' { n.C b' with v2:=aP,waits:=[],ended:=true })) (j:=tx b' 4) (N:=λ_=>False) c2 (λc=>c=tx b' 4\/c=tx b' 5) (λk e=>.inl (by rw[show k=b' from e];exact iF.1.1)) (λe=>by unfold tx at e;omega) (λe=>by unfold tx at e;omega) (λ_ h=>h.elim) iy.1
   (λaI e1 e2 m c hc=>by
    rcases hc with rfl|rfl
    ·exact ML dQ ⟨(e1 b' (by rw[show il b'=tx b' 4 from iF.1.1];exact iy.1)).trans iF.1.1,jC.2⟩
    ·exact ML dQ (Own.nil _ _ _ _ _))
   λc hc K A m h=>by
    have:=V2 (n:=mH n b' { n.C b' with ended:=true }) (b:=b') (Q:=λc=> ¬(c=tx b' 4\/c=tx b' 5)) (d:= { n.C b' with v2:=aP,waits:=[],ended:=true }) (by rw[Lm];intro i hq w K A h;rcases i with _|_|_|_|_|_|_|_|i<;>first|exact h|exact absurd (.inl rfl) hq|exact absurd (.inr rfl) hq) c hc _ _ _ h
    rwa [Uc] at this
  clear hs hc;have hs:=s2.rf
  skip
  exact s2.fin λ_ _=>⟨rfl,.inr (.inr ⟨hk,b',h1,rfl⟩)⟩
end
abbrev oK:ByteArray:=⟨#[108,111,103]⟩
abbrev lF:=Int×List (Rec×Bool)
def ID (t:bL) (l:List (Rec×Bool)):List (Rec×Bool):=l.map λx=>if x.1.aO=t then(x.1,true)else x
open Classical in
noncomputable def tF (s:lF) (r:Rec):Option lF:=
 if r.kind=8 then(if r.n=s.1+1 then some (s.1+1,s.2)else none)
 else if r.kind=9 then(if r.aO.eh=1/\r.aO.aW=s.1/\(∀x∈s.2,x.1.aO≠r.aO)then some (s.1,s.2++[(r,false)])else none)
 else if r.kind=10 then(if∃x∈s.2,x.1.aO=r.aO/\x.2=false then some (s.1,ID r.aO s.2)else none)
 else none
noncomputable def yT:lF->List Rec->Option lF
 |s,[]=>some s
 |s,r::l=>(tF s r).bind λs'=>yT s' l
theorem Od: ∀(l l':List Rec) (s:lF),yT s (l++l')=(yT s l).bind λs'=>yT s' l'
 |[],l',s=>rfl
 |r::l,l',s=>by
  show(tF s r).bind (λs'=>yT s' (l++l'))=((tF s r).bind λs'=>yT s' l).bind _
  cases tF s r with
  |none=>rfl
  |some x=>exact Od l l' x
variable {s1 s2 : lF}
theorem afq {l:List Rec} {s:lF} (h:yT s l=some s1) (h2:tF s1 r=some s2):yT s (l++[r])=some s2:=by
 rw[Od,h]
 show(tF s1 r).bind (λs'=>some s')=_
 rw[h2];rfl
def bE.abs (n:bE):lF:=(n.c.aW,n.cl.map λb=>((n.C b).r,(n.C b).ended))
def Lw (n:bE):Prop:= ∀t b,getM t n.bl=some b↔b∈n.cl/\(n.C b).r.aO=t
structure Rest (n n':bE):Prop where
 nb:n'.nb=n.nb
 db:n'.db=n.db
 mb:n'.mb=n.mb
 L:n'.L=n.L
 m:n'.m=n.m
 al:n'.al=n.al
 ds:n'.ds=n.ds
 id:n'.c.id=n.c.id
 gG:n'.c.gG=n.c.gG
 lb:n'.c.lb=n.c.lb
 pre:n'.pre=n.pre
 ex:n'.ex=n.ex
 out:n'.vm=n.vm/\n'.va=n.va/\n'.rm=n.rm/\n'.ra=n.ra/\n'.ms=n.ms
theorem Rest.refl (n:bE):Rest n n:=⟨rfl,rfl,rfl,rfl,rfl,rfl,rfl,rfl,rfl,rfl,rfl,rfl,rfl,rfl,rfl,rfl,rfl⟩
theorem Rest.trans {a b c:bE} (h:Rest a b) (k:Rest b c):Rest a c:=⟨k.nb.trans h.nb,k.db.trans h.db,k.mb.trans h.mb,k.L.trans h.L,k.m.trans h.m,k.al.trans h.al,k.ds.trans h.ds,k.id.trans h.id,k.gG.trans h.gG,k.lb.trans h.lb,k.pre.trans h.pre,k.ex.trans h.ex,k.out.1.trans h.out.1,k.out.2.1.trans h.out.2.1,k.out.2.2.1.trans h.out.2.2.1,k.out.2.2.2.1.trans h.out.2.2.2.1,k.out.2.2.2.2.trans h.out.2.2.2.2⟩
variable {s' : lF}
section
variable {n : bE}
theorem afr (h:Lw n) (hi:n.c.id=1) (hr:tF n.abs r=some s'):Yd n r:=by
 unfold tF at hr;split at hr
 ·rename_i hk;split at hr
  ·rename_i h1;exact .inl ⟨hk,h1⟩
  ·cases hr
 ·split at hr
  ·rename_i hk;split at hr
   ·rename_i h1;refine .inr (.inl ⟨hk,h1.1.trans hi.symm,h1.2.1,?_⟩);cases e:getM r.aO n.bl with
    |none=>rfl
    |some b=>
     obtain⟨h2,h3⟩:=(h _ _).1 e;exact absurd h3 (h1.2.2 _ (List.mem_map.2 ⟨b,h2,rfl⟩))
   ·cases hr
  ·split at hr
   ·rename_i hk;split at hr
    ·rename_i h1;obtain⟨x,hx,h2,h3⟩:=h1;obtain⟨b,hb,rfl⟩:=List.mem_map.1 hx;exact .inr (.inr ⟨hk,b,hb,(h _ _).2 ⟨hb,h2⟩,h3⟩)
    ·cases hr
   ·cases hr
theorem Yf (h:Lw n) (hr:tF n.abs r=some s') (ok:Yd n r) (hs:IC n r vp n') (hw: ∀b∈n.cl,(n.C b).waits.length<=80) (hp:r.parts.length<=80):
  n'.abs=s'/\Lw n'/\Rest n n'/\(∀b∈n'.cl,(n'.C b).waits.length<=80)/\n'.cl.length<=n.cl.length+1:=by
 unfold tF at hr;unfold IC mH at hs;rcases hs with⟨hk,rfl⟩|⟨hk,v,bx,DE,v2,_,fY,rfl⟩|⟨hk,b,hb,rfl⟩
 ·rw[if_pos hk] at hr;split at hr
  ·exact⟨cn hr,h,⟨rfl,rfl,rfl,rfl,rfl,rfl,rfl,rfl,rfl,rfl,rfl,rfl,rfl,rfl,rfl,rfl,rfl⟩,hw,dK _⟩
  ·cases hr
 ·have lR:getM r.aO n.bl=none:=by
   rcases ok with ok|ok|ok
   ·omega
   ·exact ok.2.2.2
   ·omega
  rw[if_neg zQ,if_pos hk] at hr;have cA: ∀b∈n.cl,b≠bx:=λb hb e=>fY (e▸hb);split at hr
  ·have e:=cn hr;refine⟨?_,λt b=>?_,⟨rfl,rfl,rfl,rfl,rfl,rfl,rfl,rfl,rfl,rfl,rfl,rfl,rfl,rfl,rfl,rfl,rfl⟩,λb hb=>?_,by simp⟩
   ·rw[<-e];unfold bE.abs;dsimp only;rw[aC];refine congrArg (Prod.mk _) ?_;rw[eu (l:=n.cl) (g:=λb=>((n.C b).r,(n.C b).ended)) λb hb=>by grind];simp
   ·dsimp only;by_cases ht:t=r.aO
    ·subst ht;rw[kj];constructor
     ·grind
     ·rintro⟨h1,h2⟩;rcases List.mem_append.1 h1 with h1|h1
      ·rw[if_neg (cA b h1)] at h2;rw[(h _ _).2 ⟨h1,h2⟩] at lR;cases lR
      ·rw[List.mem_singleton.1 h1]
    ·rw[pd ht];constructor
     ·intro e;obtain⟨h1,h2⟩:=(h _ _).1 e
      grind
     ·rintro⟨h1,h2⟩;rcases List.mem_append.1 h1 with h1|h1
      ·rw[if_neg (cA b h1)] at h2;exact(h _ _).2 ⟨h1,h2⟩
      ·rw[av] at h1
       grind
   ·dsimp only at hb⊢;split
    ·exact hp
    ·rename_i hn;rcases List.mem_append.1 hb with hb|hb
     ·grind
     grind
  ·cases hr
 ·rw[if_neg zQ,if_neg zQ,if_pos hk] at hr;obtain⟨hbc,hbt⟩:=(h _ _).1 hb;split at hr
  ·have e:=cn hr;refine⟨?_,λt b'=>?_,⟨rfl,rfl,rfl,rfl,rfl,rfl,rfl,rfl,rfl,rfl,rfl,rfl,rfl,rfl,rfl,rfl,rfl⟩,λb' dZ=>?_,dK _⟩
   ·rw[<-e];unfold bE.abs ID;dsimp only;rw[bU];refine congrArg (Prod.mk _) (eu λb' dZ=>?_);by_cases e:b'=b
    ·grind
    ·rw[if_neg e];have: ¬(n.C b').r.aO=r.aO:=λe'=>by
      have:=(h _ _).2 ⟨dZ,e'⟩
      grind
     simp[this]
   ·refine(h t b').trans (and_congr_right λ_=>?_)
    grind
   grind
  ·cases hr
def Yg (d:BV):Prop:=d.ended=false->d.waits=d.r.parts
theorem IC.we (hs:IC n r vp n') (hw: ∀b∈n.cl,Yg (n.C b)): ∀b∈n'.cl,Yg (n'.C b):=by
 unfold IC mH at hs;rcases hs with⟨_,rfl⟩|⟨_,v,bx,DE,v2,_,_,rfl⟩|⟨_,b,_,rfl⟩
 ·exact hw
 ·intro b hb;dsimp only at hb⊢;split
  ·exact λ_=>rfl
  ·rename_i hn;exact(List.mem_append.1 hb).elim (hw b) λh=>absurd (List.mem_singleton.1 h) hn
 ·intro b' dZ;dsimp only;split
  ·exact λe=>A4 e
  ·exact hw b' dZ
end
theorem gB.count: ∀{l:List dV} {s:dV} {f:Nat},gB (l++[s])->oh (l++[s])=some f->s.first+s.bt.length=f+(fH (l++[s])).length
 |[],s,f,_,h=>by
  have:s.first=f:=cn h
  simp[fH,this]
 |[a],s,f,h,hf=>by
  have h1:s.first=a.first+a.bt.length:=h.1
  have h2:a.first=f:=cn hf
  simp[fH];omega
 |a::b::l,s,f,h,hf=>by
  have h1:b.first=a.first+a.bt.length:=h.1
  have h2:a.first=f:=cn hf
  have:=gB.count (l:=b::l) (s:=s) (f:=b.first) h.2.2 rfl;have e:fH (a::b::l++[s])=a.bt++fH (b::l++[s]):=by simp[fH]
  grind
theorem gB.has: ∀{l:List dV} {f k:Nat} {p:List Nat},gB l->oh l=some f->(fH l)[k]? =some p-> ∃(j:Nat) (s:dV),l[j]? =some s/\s.first<=f+k/\(∀(i:Nat) (t:dV),j<i->l[i]? =some t->f+k<t.first)/\s.bt[f+k-s.first]? =some p
 |[],_,_,_,_,h,_=>by cases h
 |s::l,f,k,p,hl,h,hk=>by
  have hf:s.first=f:=cn h
  have hr:fH (s::l)=s.bt++fH l:=by simp[fH]
  rw[hr] at hk;by_cases cD:k<s.bt.length
  ·rw[List.getElem?_append_left cD] at hk;refine⟨0,s,rfl,by omega,λi t hi ht=>?_,by simp_all⟩;cases i with
   |zero=>omega
   |succ i=>
    rw[uM] at ht;cases l with
    |nil=>cases ht
    |cons u r=>
     have h1:=hl.1;have hm:=ay ht;rcases List.mem_cons.1 hm with rfl|hm
     ·omega
     ·have:=hl.tail.lt t hm;omega
  ·rw[List.getElem?_append_right zQ] at hk;cases l with
   |nil=>simp[fH] at hk
   |cons u r=>
    have h1:=hl.1;obtain⟨j,q,h2,h3,h4,h5⟩:=gB.has (l:=u::r) (f:=u.first) hl.tail rfl hk;have e:u.first+(k-s.bt.length)=f+k:=by omega
    rw[e] at h3 h4 h5;exact⟨j+1,q,by assumption,h3,λi t hi ht=>by
     cases i with
     |zero=>omega
     |succ i=>rw[uM] at ht;exact h4 i t zQ ht,h5⟩
structure Uh (r:Rec):Prop where
 co:Uf r
 err:r.err=0
 len:(gf r).length<=900
 isb: ∀b∈gf r,b<256
 ps:r.parts.length<=80
structure Lx (x:LD) (pre:List dV) (s:dV) (rs:List Rec):Prop where
 up:oE x pre s
 fst:oh (pre++[s])=some 1
 Av:fH (pre++[s])=rs.map gf
 ok: ∀r∈rs,Uh r
 len:rs.length<=1000
variable {rs : List Rec} {s : dV} {x : LD}
theorem Lx.next (h:Lx x pre s rs):x.L.next=1+rs.length:=by
 have:=gB.count h.up.g.lk h.fst;rw[h.Av,af] at this;rw[h.up.next];exact this
variable {k : Nat}
theorem Lx.has (h:Lx x pre s rs) (hr:rs[k]? =some r):x.L.has (1+k) (gf r):=by
 unfold LM.has;rw[h.up.bC];exact gB.has h.up.g.lk h.fst (by rw[h.Av,List.getElem?_map,hr];rfl)
theorem Lx.head (h:Lx x pre s rs): ∃u t,x.L.bC=u::t/\u.first=1:=by
 have h1:=h.fst;rw[h.up.bC];cases pre with
 |nil=>exact⟨s,[],rfl,cn h1⟩
 |cons u v=>exact⟨u,v++[s],rfl,cn h1⟩
theorem Yh {s:lF} (h:tF s r=some s'):s.1<=s'.1/\s'.1<=s.1+1:=by
 unfold tF at h;repeat' split at h
 all_goals first|cases h;done|(have e:=cn h;rw[<-e];dsimp only;omega)
variable {F : Nat -> pN} {db : Nat}
section
variable {N : XS} {n : bE}
structure OI (n0 n:bE) (s:lF) (k:Nat):Prop where
 abs:n.abs=s
 bl:Lw n
 rest:Rest n0 n
 cw: ∀b∈n.cl,(n.C b).waits.length<=80
 cl:n.cl.length<=k
 aW:0<=n.c.aW/\n.c.aW<=k
 we: ∀b∈n.cl,Yg (n.C b)
structure ajt (l:List dR) (x:LD) (s1:lF) (db k:Nat) (n:bE):Prop where
 db:n.db=db
 abs:n.abs=(s1.1+1,s1.2)
 bl:Lw n
 id:n.c.id=1
 gG:n.c.gG=0
 al:n.al=[]
 ck:n.ck=⟨0,0,21⟩
 ds:n.ds=l.foldl ib []
 ld:(⟨n.L,n.m⟩:LD)=(x.iG 0 (gf (lP (s1.1+1)))).1
 ms:n.ms=[]
 vm:n.vm=aP
 va:n.va=aP
 rm:n.rm=[]
 ra:n.ra=[]
 cw: ∀b∈n.cl,(n.C b).waits.length<=80
 cl:n.cl.length<=k
 pre:n.pre=false
 ex:n.ex=[]
 we: ∀b∈n.cl,Yg (n.C b)
def lgR (lb db:Nat) (L:LM) (m:DM):pN:=⟨λw _ A=>Lg w A lb db L m,λh _ m=>aju h m⟩
def diR (rb mb:Nat) (ds:pc):pN:=⟨λw _ A=>kJ w A rb mb ds,λh _ m=>h.mv m⟩
theorem _root_.Go.aK.St.Ic (s:St w0 bZ w X own F) (j:Nat) (r:pN) (hN: ∀k,N k->X k/\own k=0/\w0.heap.size<=k) (hr: ∀K,r.p w K N) (h0:j≠0:=by decide) (h4:j≠4:=by decide):
  ∃aI,St w0 bZ w X aI (λc=>if c=j then r else F c)/\Mv (bN own 4) w (bN aI 4) w/\ ∀k,¬N k->aI k=own k:=by
 obtain⟨aI,s',m,e,-⟩:=s.jO (F':=λc=>if c=j then r else F c) (j:=j) (N:=N) (ee.nA s.rf nX) (· =j) (λ_ h=>h.elim) h0.symm h4.symm hN h0 (λaI _ e2 m c hc=>by subst hc;rw[if_pos rfl];exact r.mv (hr _) (Mv.refl _ _) (Mv.sub e2)) λc hc K A _ h=>by rw[if_neg hc];exact h
 exact⟨aI,s',m,e⟩
theorem E1 {l:List dR} {m:DM} {sf:lF} (h:Hs (Ua db m) w own) (hX:qW own X) (ha:Sl w (bN own 4) 4 a (l.map dR.l)) (hc:A7 l=0)
  (xD: ∀x∈m.fs,x.1.size<=2^40) (iQ:m.fs.length<=2^29) (FM: ∀n,∀b∈m.bytes n,b<256) (hO:LD.Bx oK 4096 m=(x,0)) (hL:Lx x pre sg rs) (jv:yT (0,[]) rs=some sf) (DB:(x.iG 0 (gf (lP (sf.1+1)))).2.2=0) (hke:(lP (sf.1+1)).fI=0):
  Ct pg 36 #[ptr db 0,I 1,I 4096,a] w X (gy own) λv wa w'=>NQ dX own wa w' λ_ n=>v= .tuple #[ptr n.nb 0,I 0]/\ajt l x sf db rs.length n:=by
 intro w0 hk;have s:=St.init h hX hk;replace ha:=ha.mv (yG hX hk);clear h hX hk;refine Ss.g (RP:=λ_ _=>False) (show Yi Tryz.f36=some (81,[8,9])from by kernel_rfl) (.inl rfl) aaz DP ?_;refine cz ?_;have hs:=s.rf;repeat' refine aJ ?_;intros
 refine cd (afs (ha.mono (s.sub 4))) kQ hs.has ?_;rintro v1 Cv w1 X1 q1 pa mB ax;rw[if_neg zQ] at q1;obtain⟨rb,mb,D,rfl,hD,adn⟩:=q1;obtain⟨il,s1,m1,e1⟩:=(s.since ax).Ic (N:=D) 2 (diR rb mb (l.foldl ib [])) (λk hk=>⟨mB k (hD k hk),s.nw (ad pa (hD k hk).1)⟩) λ_=>adn;clear hs;have hs:=s1.rf;repeat' refine aJ ?_;intros
 refine yR (adb (dir:=oK) (sz:=4096) (s1.get 3:Dk w1 (bN il 3) db m) (s1.fxc 3) xD iQ FM dQ dQ dQ dQ) kQ s1.has (s1.sub 3) λv vM w2 X2 zh kF jt _ c2=>?_;rw[hO] at zh;obtain⟨lb,F2,rfl,hF2,_,g2⟩:=zh;replace g2:=g2 rfl;dsimp only at g2;obtain⟨lC,s2,m2⟩:=s1.De (F':=λc=>if c=2 then diR rb mb (l.foldl ib [])else if c=3 then lgR lb db x.L x.m else QF) 3 c2 (λ_ e=>e) F2 (λk ah=>(hF2 k ah).imp id λe=>⟨jt k e,ad kF e.1⟩) (λ_ _=>g2) λc hc w K A h=>by
  by_cases e:c=2
  ·rw[if_pos e] at h⊢;exact h
  ·rw[if_neg e,if_neg hc];trivial
 rw[if_pos rfl];clear hs;have hs:=s2.rf;repeat' refine aJ ?_;intros
 refine ri (kv:=λk:bL=>k.v) xz nX s2.has λab w3 X3 wM cY qo=>?_;obtain⟨nf,s3,m3,e3⟩:=(s2.since cY).Ic (N:=(· =ab)) 5 (mpR ab []) (λk hk=>by subst hk;exact⟨qo.x.1,s2.nw wM⟩) λ_=>qo.own;refine ri (kv:=λk:bL=>k.v) xz nX s3.has λtb w4 X4 htb fV Ao=>?_;obtain⟨lD,s4,m4,e4⟩:=(s3.since fV).Ic (N:=(· =tb)) 6 (mpR tb []) (λk hk=>by subst hk;exact⟨Ao.x.1,s3.nw htb⟩) λ_=>Ao.own;clear hs;have hs:=s4.rf;repeat' first|refine ak ?_;intros|(refine NV hs ?_;intro bx w X fY ax fv hs bo)
 obtain⟨mE,s5,m5,e5⟩:=(s4.since ax).Ic (N:=(· =bx)) 1 (XM bx (Gt ⟨1,0,0,lb,rb,0,ab,aP,tb⟩ (.pointer none) aP aP) nT) (λk hk=>by subst hk;exact⟨bo.1,s4.nw aQ⟩) λ_=>⟨rfl,bo.2⟩;obtain⟨n0,Ui⟩: ∃n0:bE,n0= { nb:=bx,db:=db,mb:=mb,c:=⟨1,0,0,lb,rb,0,ab,aP,tb⟩,ck:=.zero,ds:=l.foldl ib [],L:=x.L,m:=x.m,al:=[],bl:=[],vm:=aP,va:=aP,rm:=[],ra:=[],ms:=[],cl:=[],A:=λ_=>⟨⟨.zero,aP,.zero,0,aP,false,aP,.zero⟩,aP,[],[],[],[],[],false⟩,C:=λ_=>⟨mi .zero,aP,aP,[],false⟩,pre:=true } :=⟨_,rfl⟩;have hA: ∀b,¬n0.dI b:=λb h=>by
  rw[Ui] at h;exact h.elim (λ⟨t,e⟩=>by cases e) λe=>by cases e
 have hC: ∀b,b ∉ n0.cl:=λb h=>by rw[Ui] at h;cases h
 replace s5:Sn w0 own w X mE n0:=s5.to λc h0 h4 w K A h=>by
  by_cases hc:c<16
  ·subst Ui;unfold dX;rw[if_pos hc];rcases c with _|_|_|_|_|_|_|_|_|_|_|_|_|c<;>first|exact absurd rfl h0|exact h|exact Own.nil _ _ _ _ _|exact fQ.nil _ _|exact λe=>A4 e|(intro t b e;cases e;done)|trivial
  ·unfold dX;rw[if_neg hc];generalize c/8-2=b;generalize c % 8=i;rcases i with _|_|_|_|_|_|_|_|i<;>first|exact λha=>absurd ha (hA _)|exact λha=>absurd ha (hC _)|trivial
 clear hA hC;have hI:OI n0 n0 (0,[]) 0:=by
  rw[Ui];exact⟨rfl,λt b=>by constructor<;>intro h<;>simp[getM] at h,Rest.refl _,λb hb=>absurd hb sQ,au _,⟨sX _,sX _⟩,λb hb=>absurd hb sQ⟩
 have hx:n0.nb=bx/\n0.c.lb=lb/\n0.db=db/\n0.L=x.L/\n0.m=x.m/\n0.c.id=1/\n0.c.gG=0/\n0.al=[]/\n0.ds=l.foldl ib []:=by rw[Ui];exact⟨rfl,rfl,rfl,rfl,rfl,rfl,rfl,rfl,rfl⟩
 have hy:n0.pre=true/\n0.ex=[]/\n0.vm=aP/\n0.va=aP/\n0.rm=[]/\n0.ra=[]/\n0.ms=[]:=by rw[Ui];exact⟨rfl,rfl,rfl,rfl,rfl,rfl,rfl⟩
 clear Ui bo;obtain⟨x1,x2,x3,x4,x5,x6,x7,x8,x9⟩:=hx;obtain⟨u,tl,La,hu1⟩:=hL.head;have hLK:=hL.up.K9;have nj:=hL.next
 have qV:=hL.len;have lg: ∀{w' X' aI n'},Sn w0 own w' X' aI n'->Rest n0 n'->Lg w' (bN aI 3) lb db x.L x.m:=λ{w' X' aI n'} s hr=>by
  have:Lg w' (bN aI 3) n'.c.lb n'.db n'.L n'.m:=s.get 3
  rwa [hr.lb,hr.db,hr.L,hr.m,x2,x3,x4,x5] at this
 have hfx: ∀{FL:XS} {aI:Nat->Nat},(∀k,FL k->bN aI 3 k)-> ∀k,FL k->gy aI k:=λh k hk=>by have:_=3:=h k hk;exact⟨by omega,by omega⟩
 obtain⟨FL,FD,sv,bl,hW⟩:=(lg s5 (Rest.refl _)).lw;refine dL (N7 hW.l La (s5.t.fx (hfx hW.hL))) kQ s5.has λw6 X6 qm=>?_;rw[hu1];have s6:=s5.since qm;refine CC (λn a b c w X=> ∃(k:Nat) (aI:Nat->Nat) (n':bE) (s:lF),a=I ((1+k:Nat):Int)/\b= .agg #[I 0]/\c= .agg #[ptr bx 0]/\n=rs.length-k/\k<=rs.length/\Sn w0 own w X aI n'/\OI n0 n' s k/\yT s (rs.drop k)=some sf) rs.length
  ⟨0,mE,n0,(0,[]),rfl,rfl,rfl,rfl,aq _,s6,hI,jv⟩ ?_
 clear s6 qm s5 hW hI jv hs;rintro n _ _ _ w7 X7 ⟨k,Dd,n7,s,rfl,rfl,rfl,rfl,tZ,s7,hI,jv⟩;have lJ:n7.nb=bx:=hI.rest.nb.trans x1;obtain⟨FL,FD,sv,bl,hW⟩:=(lg s7 hI.rest).lw;refine dL (DU hW.l hLK (s7.t.fx (hfx hW.hL))) kQ s7.has λw8 X8 jZ=>?_;rw[nj];have s8:=s7.since jZ;replace hW:=hW.mv (jZ.gU (s7.sub 3));clear s7 jZ;have hs:=s8.rf;rcases dE rs k with⟨cD,r,hr,hd⟩|⟨dD,hd⟩
 ·rw[hd] at jv;obtain⟨s',oO,jC⟩:=Option.bind_eq_some_iff.1 (show(tF s r).bind (λs'=>yT s' (rs.drop (k+1)))=some sf from jv);have hG:=hL.ok r (ay hr);have asU:=hG.len;have FV:=hG.ps;repeat' refine aJ ?_;intros
  refine cd (adf hW.l hLK (hL.has hr) zQ La zQ (by rw[nj];omega) (s8.t.fx (hfx hW.hL))) kQ s8.has ?_;rintro _ EI w9 X9 ⟨vb,rfl,yF⟩ amg ahM As;have s9:=s8.since As;clear hs;have hs:=s9.rf;repeat' refine ak ?_;intros
  refine cd (Sq hG.co (yF.sl.mono ahM) hG.err zQ hG.isb) kQ s9.has ?_;rintro _ aqB Jv Lu ⟨va,rfl,hva⟩ aos adD ac0;obtain⟨V4,QR,-,-,p4⟩:=(s9.since ac0).uW (N:=made aqB Jv) λq hq=>⟨adD q hq,s9.nw (ad aos hq.1)⟩;have hp:Sl Jv (bN V4 4) 1 va (r.parts.map I1):=hva.sl.mono p4;have oa:=hp.one;obtain⟨e1,e2,e3,rfl⟩:=hp.form;clear hs;have hs:=QR.rf;have ok:=afr hI.bl (hI.rest.id.trans x6) (by rw[hI.abs];exact oO);have qi:=hI.cl;have QS:=hI.aW;have xx:=Yh oO;have e0:s.1=n7.c.aW:=by rw[<-hI.abs];rfl
  repeat' refine aJ ?_;intros
  refine ij (Q:=λK=> ∀w X aI n',Sn w0 own w X aI n'->OI n0 n' s' (k+1)->K (B true) w X) ?_ λK hK=>?_
  ·intro Yj X12 FW n12 Uj aqC;clear hs;repeat' refine ak ?_;intros
   exact AT (rs.length-(k+1)) zQ ⟨k+1,FW,n12,s',congrArg I zQ,rfl,rfl,rfl,by omega,Uj,aqC,jC⟩
  ·repeat' refine ak ?_;intros
   rw[<-lJ];refine QR.call (Ye (r:=r) QR.h QR.x ok hp zQ zQ zQ) kQ λv Yj X12 FW n12 Uj ⟨hv,hS⟩ _=>?_;subst hv;obtain⟨i1,i2,i3,i4,i5⟩:=Yf hI.bl (by rw[hI.abs];exact oO) ok hS hI.cw FV;have e12:s'.1=n12.c.aW:=by rw[<-i1];rfl
   exact hK _ _ FW n12 Uj ⟨i1,i2,hI.rest.trans i3,i4,by omega,⟨by omega,by omega⟩,hS.we hI.we⟩
 have ah:k=rs.length:=by omega
 rw[hd] at jv;obtain rfl:s=sf:=cn jv;have e0:s.1=n7.c.aW:=by rw[<-hI.abs];rfl
 rw[e0] at DB hke;subst lJ;have QS:=hI.aW;have sR:n7.c.id=1:=hI.rest.id.trans x6;have hb8:(gf (lP (n7.c.aW+1))).length<=900:=by
  have:=fD 8;have:=fD (n7.c.aW+1);rw[QM,aa];omega
 have hr8:=s8.v.1;repeat' refine aJ ?_;intros
 have eK:jy n7 (lP (n7.c.aW+1))=x.iG 0 (gf (lP (n7.c.aW+1))):=by
  unfold jy;rw[hI.rest.L,hI.rest.m,x4,x5,hke];rfl
 refine s8.VX (nb:=n7.nb) (db:=n7.db) (QP:=MK n7 (lP (n7.c.aW+1))) (ET (r:=lP (n7.c.aW+1)) s8.h s8.x (by rw[hI.rest.L,hI.rest.m,x4,x5];exact hL.up) (abH rfl rfl rfl rfl rfl) (DV rfl rfl rfl) zQ) kQ (λv w9 X9 lU n9 s9 ⟨k1,k2,k3⟩ _=>?_) λwb _ ⟨_,_,_,_,xJ⟩=>by
  have:=xJ.1;rw[eK,DB] at this;exact absurd this dQ
 subst k2;rw[eK,DB];have y1:n9.nb=n7.nb/\n9.c=n7.c:=by rw[k3];exact⟨rfl,rfl⟩
 rw[<-y1.1];have asV:0<=n9.c.aW/\n9.c.aW<=k:=by rw[y1.2];exact QS
 clear hs hr8;have hs:=s9.rf;have Qe:=s9.v.1;repeat' refine aJ ?_;intros
 refine s9.st (o:=1) 1 (s9.get 1) (dX { n9 with c:= { n9.c with aW:=n9.c.aW+1 } }) zQ kQ (eo rfl) rfl (λ_ _ _ h=>h) nz λJv Lu ash QI m10=>?_;clear hs Qe;have hs:=QI.rf;have Yc:=QI.v.1;repeat' refine ak ?_;intros
 obtain⟨n10,ahN⟩: ∃n10:bE,n10= { n9 with c:= { n9.c with aW:=n9.c.aW+1 } } :=⟨_,rfl⟩;rw[<-ahN] at QI Yc;have y2:n10.nb=n9.nb/\n10.c.id=1:=by rw[ahN];exact⟨rfl,by rw[y1.2];exact sR⟩
 rw[<-y2.1];refine dL (A5 (Y:=Lu) Yc (λ_ h=>h) (by rw[y2.2];decide)) kQ QI.has λw11 X11 adE=>?_;rw[y2.2];have QR:=QI.since adE;refine cd (afu (node:=21) (fl:=.zero) dQ dQ dQ) kQ adE.has ?_;rintro _ aqD Yj X12 ⟨cb,rfl,AQ⟩ adF adG sA;obtain⟨FW,Uj,m12,e12⟩:=(QR.since sA).Ic (N:=(· =cb)) 7 ⟨λw _ A=>aG w A cb (Gv ⟨0,0,21⟩) Il/\(⟨0,0,21⟩:cx).may=true,λh _ m=>⟨h.1.mv m,h.2⟩⟩ (λk e=>by subst e;exact⟨adG k AQ.1,QR.nw (ad adF AQ.1.1)⟩) λ_=>⟨⟨rfl,AQ.2⟩,by decide⟩;clear hs Yc;have hs:=Uj.rf;have amh:aG Yj (bN FW 1) n10.nb (Gt n10.c n10.DA n10.vm n10.va) nT:=Uj.get 1;have hrX:=amh.mono (Uj.sub 1);repeat' refine ak ?_;intros
 refine Uj.st (o:=6) 1 amh (dX { n10 with c:= { n10.c with cb:=cb },ck:=⟨0,0,21⟩,pre:=false }) zQ kQ (eo rfl) rfl (λ_ _ _ h=>h) (λc hc w K A h=>?_) λw13 X13 adH s13 m13=>?_
 ·by_cases e:c=7
  ·subst e;exact λ_=>h
  ·rw[if_neg e] at h;exact(nz: ∀c,(c≠1/\c≠7)-> ∀w K A,(dX n10 c).p w K A->(dX { n10 with c:= { n10.c with cb:=cb },ck:=⟨0,0,21⟩,pre:=false } c).p w K A) c ⟨hc,e⟩ w K A h
 clear hs hrX;have hs:=s13.rf;repeat' refine ak ?_;intros
 obtain⟨y3,y4,y5,y6,y7,y8,y9⟩:=hy;have ho:=hI.rest.out;refine s13.t.adB λwa aH=>⟨adH,_,s13.e,s13.h.kp s13.x aH,rfl,?_⟩;rw[ahN,k3];refine⟨hI.rest.db.trans x3,?_,hI.bl,sR,hI.rest.gG.trans x7,hI.rest.al.trans x8,rfl,hI.rest.ds.trans x9,?_,ho.2.2.2.2.trans y9,ho.1.trans y5,ho.2.1.trans y6,ho.2.2.1.trans y7,ho.2.2.2.1.trans y8,hI.cw,by rw[<-ah];exact hI.cl,rfl,hI.rest.ex.trans y4,hI.we⟩
 ·rw[<-hI.abs];rfl
 ·rw[e0,<-eK]
end
section
variable {Y : XS} {n : bE} {nb : Nat} {m : DM}
theorem Vb (h:GC w X nb) (oa:aK.one a=true):
  Ct pg 29 #[ptr nb 0,I gN,a] w X nX λv _ _=>v= .tuple #[.agg #[I 0,I 0,I 0],.agg #[aP,aP],I 12]:=by
 intro w0 hk;obtain⟨x0,x1,x2,x3,x5,x6,x7,x8,x9,vm,va,bo⟩:=h.mv hk.bY;refine Bt.g (RP:=λ_ _=>False) (g0:=59) (cb:=[3,7,8,6]) (cv:=[]) kQ (.inl rfl) NS DP ?_;rw[OM Hu,W7 Hu];refine cz ?_;have hs:=ai.init w0;repeat' refine ak ?_;intros
 exact bM hs λwa aH=>rfl
theorem Vc {g:cO} (h:GC w X nb) (hm:g.at w Y vk vs vw vp vr vc vh vd):
  Ct pg 25 #[ptr nb 0,I gN,g.v vk vs vw vp vr vc vh vd] w X nX λv _ _=>v=V3:=by
 intro w0 hk;obtain⟨x0,x1,x2,x3,x5,x6,x7,x8,x9,vm,va,bo⟩:=h.mv hk.bY;refine BD.g (RP:=λ_ _=>False) (g0:=51) (cb:=[3,6,7]) (cv:=[]) kQ (.inl rfl) NT DP ?_;rw[OM Hu,W7 Hu];refine cz ?_;have hs:=ai.init w0;repeat' refine ak ?_;intros
 exact bM hs λwa aH=>rfl
theorem Vd (h:GC w X nb):Ct pg 16 #[ptr nb 0,I gN] w X nX λv _ _=>v=V3:=by
 intro w0 hk;obtain⟨x0,x1,x2,x3,x5,x6,x7,x8,x9,vm,va,bo⟩:=h.mv hk.bY;refine CV.1 λhs=>?_;repeat' refine ak ?_;intros
 exact bM hs λwa aH=>rfl
theorem Ve (h:GC w X nb):Ct pg 13 #[ptr nb 0] w X nX λv _ _=>v=B true:=by
 intro w0 hk;obtain⟨x0,x1,x2,x3,x5,x6,x7,x8,x9,vm,va,bo⟩:=h.mv hk.bY;refine CX.1 λhs=>?_;repeat' refine ak ?_;intros
 exact bM hs λwa aH=>rfl
def ahO (h:jd w own n) (hX:qW own X):aG w X n.nb (Gt n.c n.DA n.vm n.va) nT:=(h.gK 1 dQ dQ:aG w (bN own 1) _ _ _).mono λk (e:own k=1)=>hX k zQ
theorem Vf (h:jd w own n) (hX:qW own X):Ct pg 13 #[ptr n.nb 0] w X nX λv _ _=>v=B false:=by
 intro w0 hk;have bo:=(ahO h hX).mv hk.bY;refine CX.1 λhs=>?_;repeat' refine ak ?_;intros
 exact bM hs λwa aH=>rfl
theorem Yk (h:jd w own n) (hX:qW own X):Ct pg 26 #[ptr n.nb 0] w X nX λv _ _=>v=I n.c.aW:=by
 intro w0 hk;have bo:=(ahO h hX).mv hk.bY;have hs:=ai.init w0;refine Ly.1 λ_=>?_;repeat' first|refine ak ?_;intros|(refine qr ?_;intro wa hk;rfl)
theorem FY (h:jd w own n) (hX:qW own X) (hl:n.al.length<=2^40):
  Ct pg 15 #[ptr n.nb 0] w X nX λv wa w'=> ∃ts:List bL,ts.Perm (n.al.map (·.1))/\ts.Pairwise (λa b=>b.less a=false)/\Own w' (made wa w') wa.heap.size tT 3 v (ts.map bL.l):=
 FF (Y:=X) (ahO h hX) (λ_ h=>h) (lp (h.gK 5 dQ dQ:dM w (bN own 5) nX n.c.ab (λk:bL=>k.v) xz n.al) (hX _ (by rw[show own n.c.ab=5 from(h.gK 5 dQ dQ:dM w (bN own 5) nX n.c.ab (λk:bL=>k.v) xz n.al).x.1];decide))) hl
def DM.mj (m:DM) (n:Int):DM:=if m.dn then m else { m with ar:=n.toNat }
theorem Oe (h:jd w own n) (hX:qW own X) (hz:z<2^63):
  Ct pg 14 #[ptr n.db 0,I z] w X (gy own) λv wa w'=>NQ dX own wa w' λ_ n'=>v= .tuple #[]/\n'= { n with m:=n.m.mj z } :=by
 intro wa hk;have ha:=h.kp hX hk;obtain⟨FL,FD,sv,bl,hW⟩:=(ha.gK 3 dQ dQ:Lg wa (bN own 3) n.c.lb n.db n.L n.m).lw;have cD: ∀k,FD k->k<wa.heap.size:=λk ah=>ha.lt k (by have:own k=3:=hW.hD k ah;omega);refine((QT hW.d (λk ah=>⟨cD k ah,cD k ah⟩) hz) wa (Kp.refl _ _)).mono ?_;rintro e w' ⟨v,he,hf,hv,hd⟩;have wX:Fr (bN own 3) wa w':=hf.mono hW.hD;exact⟨v,he,wX.mono λk (e:own k=3)=>⟨by omega,by omega⟩,own,_,BY.refl _ _,ha.one (F':=dX { n with m:=n.m.mj z }) 3 wX.size (λk hk h3=>wX.block k (ha.lt k hk) h3) ⟨FL,FD,sv,bl,hW.dj,hW.hL,hW.hD,hW.l.mv λk hk hl=>⟨hk,hf.block k hl λh=>hW.dj k hk h⟩,hd⟩ nz,hv,rfl⟩
theorem aaR (h:VW w own nb db m) (hX:qW own X) (hz:z<2^63) (hd:m.dn=true):
  Ct pg 14 #[ptr db 0,I z] w X (gy own) λv wa w'=>NQ (Ub nb db) own wa w' λ_ m'=>v= .tuple #[]/\m'=m:=by
 intro wa hk;have ha:=h.kp hX hk;refine((QT (ha.gK 3 dQ dQ:Dk wa (bN own 3) db m) (λk (e:own k=3)=>⟨ha.lt k zQ,ha.lt k zQ⟩) hz) wa (Kp.refl _ _)).mono ?_;rintro e w' ⟨v,he,hf,hv,hdk⟩;rw[if_pos hd] at hdk;exact⟨v,he,hf.mono λk (e:own k=3)=>⟨by omega,by omega⟩,own,m,BY.refl _ _,ha.one 3 hf.size (λk hk h3=>hf.block k (ha.lt k hk) h3) hdk λ_ _ _ _ _ h=>h,hv,rfl⟩
theorem _root_.Go.aK.St.kst (s:Sn w0 bZ w X own n):St w0 bZ w X own (Ua n.db n.m):=s.to λc h0 h4 w K A h=>by
 rcases c with _|_|_|_|c<;>first|exact Lg.dk h|trivial
theorem _root_.Go.aK.St.aqE (s:St w0 bZ w X own (Ub nb db m)):St w0 bZ w X own (Ua db m):=s.to λc h0 h4 w K A h=>by
 rcases c with _|_|_|_|c<;>first|exact h|trivial
theorem _root_.Go.aK.St.mh {vq:Value} {cN:List Int} {N:Value->World->XS->Prop} (s:St w0 bZ w X own (Ua db m)) (hq:Sl w (bN own 4) 1 vq (cN.map I1)) (hn: ∀x∈m.fs,x.1.size<=2^40) (hl:m.fs.length<=2^40)
  (k: ∀w' X' aI,St w0 bZ w' X' aI (Ua db (m.mh cN))->N (.tuple #[]) w' X'):eC pg R X w true 38 #[ptr db 0,vq] N:=
 yR (Xp (s.get 3:Dk w (bN own 3) db m) (s.fxc 3) hq (λk (e:own k=4)=>⟨s.x k zQ,λh:own k=3=>by omega⟩) hn hl) kQ s.has (s.sub 3) λv wa w' X' ⟨hv,hd⟩ _ _ _ c=>by
  subst hv;obtain⟨aI,s',_⟩:=s.De (F':=Ua db (m.mh cN)) 3 c (λ_ e=>e) (bN own 3) (λ_ e=>.inl e) (λ_ _=>hd) λc hc w K A h=>by rcases c with _|_|_|_|c<;>first|exact h|exact absurd rfl hc
  exact k w' X' aI s'
theorem _root_.Go.aK.St.ajv {P:Program} {f:FuncId} {args:Array Value} {N:Value->World->XS->Prop} {Q:Value->World->(Nat->Nat)->bE->Prop} {dv:Value} {QP:DM->Prop} (s:Sn w0 bZ w X own n) (h:Ct P f args w X (gy own) λv wa w'=>NQ dX own wa w' (Q v w')\/(v=dv/\DQ own nb db wa w' QP)) (hf:enters P f=true)
  (k: ∀v w' X' aI n',Sn w0 bZ w' X' aI n'->Q v w' aI n'->Mv (bN own 4) w (bN aI 4) w'->N v w' X') (kd: ∀w' X' aI m',St w0 bZ w' X' aI (Ub nb db m')->QP m'->N dv w' X'):eC P R X w true f args N:=
 s.t.call h hf (λ_ h=>h) λv wa w' X' hq hle gn _ c=>by
  rcases hq with⟨aI,n',e,h',q⟩|⟨rfl,aI,m',e,h',q⟩
  ·exact k v w' X' aI n' (s.XJ hle gn c e h').1 q (s.XJ hle gn c e h').2
  ·exact kd w' X' aI m' (s.XJ (dX:=Ub nb db) hle gn c e h').1 q
end
structure py (B c n:Nat) (x:LD):Prop where
 ok:my x.m
 ne:x.L.bC≠[]
 d1:1<=x.L.dir.size
 d2:x.L.dir.size<=11
 r1:1<=x.L.room
 r2:x.L.room<=2^40
 keys: ∀k∈x.m.ks,∃f∈x.L.bC.map (·.first),k=bS x.L.dir f
 last:x.L.ff∈x.m.ks
 pw:(x.L.bC.map (·.first)).Pairwise (· < ·)
 emp:x.L.last.bt=[]->x.L.last.size=0
 pos: ∀s∈x.L.bC,1<=s.first/\s.first<=1+c/\s.first+s.bt.length<=1+c/\s.size<=B*c
 Eo:x.L.next=1+c
 sz:x.m.sz<=B*c
 len:x.L.bC.length<=n
 gG:x.m.ks.length<=64
variable {c n : Nat}
theorem py.K9 {B:Nat} (h:py B c n x) (hb:B*c<=2^30) (hc:c<=2^30):pt x.L:=
 ⟨h.ne,h.d1,h.d2,λs hs=>by have:=h.pos s hs;omega,h.r2⟩
structure Alike (x y:LD):Prop where
 bC:y.L.bC=x.L.bC
 dir:y.L.dir=x.L.dir
 room:y.L.room=x.L.room
 ks:y.m.ks=x.m.ks
 sz:y.m.sz=x.m.sz
 ok:my y.m
theorem Alike.refl (h:my x.m):Alike x x:=⟨rfl,rfl,rfl,rfl,rfl,h⟩
variable {y : LD}
theorem Alike.trans {z:LD} (h:Alike x y) (k:Alike y z):Alike x z:=⟨k.bC.trans h.bC,k.dir.trans h.dir,k.room.trans h.room,k.ks.trans h.ks,k.sz.trans h.sz,k.ok⟩
theorem Alike.last (h:Alike x y):y.L.last=x.L.last:=by unfold LM.last;rw[h.bC]
theorem Alike.ff (h:Alike x y):y.L.ff=x.L.ff:=by unfold LM.ff;rw[h.last,h.dir]
theorem Alike.next (h:Alike x y):y.L.next=x.L.next:=by unfold LM.next;rw[h.last]
theorem Alike.inv {B:Nat} (h:Alike x y) (k:py B c n x):py B c n y:=by
 refine⟨h.ok,by rw[h.bC];exact k.ne,by rw[h.dir];exact k.d1,by rw[h.dir];exact k.d2,by rw[h.room];exact k.r1,by rw[h.room];exact k.r2,?_,?_,by rw[h.bC];exact k.pw,?_,?_,?_,?_,?_,by rw[h.ks];exact k.gG⟩
 ·rw[h.ks,h.bC,h.dir];exact k.keys
 ·rw[h.ks,h.ff];exact k.last
 ·rw[h.last];exact k.emp
 ·rw[h.bC];exact k.pos
 ·rw[h.next];exact k.Eo
 ·rw[h.sz];exact k.sz
 ·rw[h.bC];exact k.len
theorem py.sync {B:Nat} (h:py B c n x):x.sync.2=0/\Alike x x.sync.1:=by
 obtain⟨h1,h2,h3,h4⟩:=h.ok.sync h.last;unfold LD.sync;dsimp only;rw[if_pos h1];exact⟨h1,⟨rfl,rfl,rfl,h3,h4,h2⟩⟩
def Full (x:LD):Prop:=64<=x.m.ks.length/\x.L.room<=x.L.last.size
theorem Alike.full (h:Alike x y) (k:Full x):Full y:=by unfold Full;rw[h.ks,h.room,h.last];exact k
variable {f : Nat}
theorem py.le_last {B:Nat} (h:py B c n x) (hf:f∈x.L.bC.map (·.first)):f<=x.L.last.first:=by
 have h1:=h.pw;rw[LM.Su h.ne,aC] at h1 hf;obtain⟨_,_,h2⟩:=List.pairwise_append.1 h1;rcases List.mem_append.1 hf with hf|hf
 ·exact Nat.le_of_lt (h2 f hf _ sQ)
 ·simp at hf;omega
theorem py.le_next {B:Nat} (h:py B c n x) (hf:f∈x.L.bC.map (·.first)):f<=1+c:=by
 obtain⟨s,hs,rfl⟩:=List.mem_map.1 hf;exact(h.pos s hs).2.1
theorem py.iJ {B:Nat} (h:py B c n x) (hr:x.L.last.bt≠[]) (ni:c+2<99999999):
  (64<=x.m.ks.length/\x.iJ x.L.next=(x,3))\/(x.m.ks.length<64/\(x.iJ x.L.next).2=0/\py B c (n+1) (x.iJ x.L.next).1):=by
 have hl:1<=x.L.last.bt.length:=by
  cases hq:x.L.last.bt with
  |nil=>grind
  |cons a b=>simp
 have nj:=h.Eo;have GG: ¬bS x.L.dir x.L.next∈x.m.ks:=λhk=>by
  obtain⟨f,hf,e⟩:=h.keys _ hk;have h1:=h.le_last hf;have h2:=h.le_next hf;have:=Lb zQ zQ e;unfold LM.next at this;omega
 have xD:vR (bS x.L.dir x.L.next)=true:=by
  have:=h.d1;have:=h.d2;simp only[vR,A1,decide_eq_true_eq];omega
 rw[x.m.vQ];rcases h.ok.create xD GG with⟨h1,h2⟩|⟨h1,h2,h3,h4,h5⟩
 ·left;refine⟨h1,?_⟩;unfold LD.iJ;rw[h2];rfl
 ·right;refine⟨h1,?_⟩;have V5:(⟨x.L.dir,x.L.room,x.L.bC++[⟨x.L.next,[],0⟩],x.L.safe⟩:LM).last=⟨x.L.next,[],0⟩:=by simp[LM.last]
  unfold LD.iJ;dsimp only;rw[if_pos h2];refine⟨h2,⟨h3,by simp,h.d1,h.d2,h.r1,h.r2,?_,?_,?_,?_,?_,?_,?_,?_,by dsimp only;rw[h4,aa,x.m.vQ];simp;omega⟩⟩
  ·rw[h4];intro k hk;rcases List.mem_append.1 hk with hk|hk
   ·obtain⟨f,hf,e⟩:=h.keys k hk
    grind
   ·simp at hk;exact⟨x.L.next,by simp,hk⟩
  ·grind [LM.ff]
  ·rw[aC];refine List.pairwise_append.2 ⟨h.pw,by simp,λa ha b hb=>?_⟩;simp at hb;subst hb;have:=h.le_last ha;unfold LM.next;omega
  ·grind
  ·intro s hs;rcases List.mem_append.1 hs with hs|hs
   ·exact h.pos s hs
   simp_all
  ·show(⟨x.L.dir,x.L.room,x.L.bC++[⟨x.L.next,[],0⟩],x.L.safe⟩:LM).last.first+(⟨x.L.dir,x.L.room,x.L.bC++[⟨x.L.next,[],0⟩],x.L.safe⟩:LM).last.bt.length=1+c
   grind
  ·rw[h5];exact h.sz
  ·simp;exact h.len
variable {p : List Nat}
theorem py.lay {B:Nat} (h:py B c n x) (hp:p.length+12<=B) (hc:B*(c+1)<=4194304):(x.lay p).2=0/\py B (c+1) n (x.lay p).1:=by
 have hB:B*(c+1)=B*c+B:=Nat.mul_succ B c;have iQ:(dt p).length=p.length+12:=by simp[dt,tX]
 have gh:=h.sz;obtain⟨h1,h2,h3,h4⟩:=h.ok.append (b:=dt p) h.last zQ;have hlm:=LM.xL h.ne;have hle:=LM.Su h.ne;obtain⟨p1,p2,p3,p4⟩:=h.pos _ hlm;have V5:(x.L.add p).last=⟨x.L.last.first,x.L.last.bt++[p],x.L.last.size+(dt p).length⟩:=by simp[LM.last,LM.add]
 have Uk:(x.L.add p).bC.map (·.first)=x.L.bC.map (·.first):=by
  conv=>rhs;rw[hle]
  simp[LM.add]
 unfold LD.lay;dsimp only;rw[if_pos h1];refine⟨h1,⟨h2,by simp[LM.add],h.d1,h.d2,h.r1,h.r2,?_,?_,?_,?_,?_,?_,?_,?_,by dsimp only;rw[h3];exact h.gG⟩⟩
 ·dsimp only;rw[h3,Uk];exact h.keys
 ·dsimp only;rw[h3];unfold LM.ff;rw[V5];exact h.last
 ·dsimp only;rw[Uk];exact h.pw
 ·dsimp only;rw[V5];intro e;simp at e
 ·dsimp only;intro s hs;rcases List.mem_append.1 hs with hs|hs
  ·have:=h.pos s gQ;omega
  ·simp only[av] at hs;subst hs;simp only[aa,aL,br,iQ];omega
 ·have:=h.Eo;dsimp only;unfold LM.next at this⊢;rw[V5];simp;omega
 ·dsimp only;omega
 ·have:=h.len;rw[hle] at this;simpa [LM.add] using this
def py.more {B n':Nat} (h:py B c n x) (hn:n<=n'):py B c n' x:= { h with len:=ad h.len hn }
theorem py.bt {B:Nat} (h:py B c n x) (hr:x.L.room<=x.L.last.size):x.L.last.bt≠[]:=λe=>by
 have:=h.emp e;have:=h.r1;omega
theorem py.append {B:Nat} (h:py B c n x) (hp:p.length+12<=B) (hB:B<=262144) (hc:B*(c+1)<=4194304) (ni:c+2<99999999):
  ((x.append p).2.2=0/\(x.append p).2.1=1+c/\py B (c+1) (n+1) (x.append p).1)\/((x.append p).2.2=3/\Full x/\Alike x (x.append p).1):=by
 have nj:=h.Eo;unfold LD.append;rw[if_neg zQ,if_neg zQ];dsimp only;unfold LD.room;by_cases hr:x.L.room<=x.L.last.size
 ·rw[if_pos hr];obtain⟨h1,h2⟩:=h.sync;dsimp only;rw[if_neg (show¬x.sync.2≠0 from by omega)];have hi:=h2.inv h;rw[<-h2.next];rcases hi.iJ (hi.bt (by rw[h2.room,h2.last];exact hr)) ni with⟨g1,g2⟩|⟨g1,g2,g3⟩
  ·right;rw[g2];dsimp only;rw[if_pos sQ];exact⟨rfl,⟨by rw[<-h2.ks];exact g1,hr⟩,h2⟩
  ·left;rw[if_neg zQ];obtain⟨k1,k2⟩:=g3.lay hp hc;rw[if_neg zQ];exact⟨rfl,by rw[h2.next];omega,k2⟩
 ·left;rw[if_neg hr];dsimp only;rw[if_neg sQ];obtain⟨k1,k2⟩:=h.lay hp hc;rw[if_neg zQ];exact⟨rfl,nj,k2.more zQ⟩
theorem py.full {B:Nat} (h:py B c n x) (hf:Full x) (hp:p.length<=262144) (ni:c+2<99999999):(x.append p).2.2=3/\Alike x (x.append p).1:=by
 have nj:=h.Eo;unfold LD.append;rw[if_neg zQ,if_neg zQ];dsimp only;unfold LD.room;rw[if_pos hf.2];obtain⟨h1,h2⟩:=h.sync;dsimp only;rw[if_neg (show¬x.sync.2≠0 from by omega)];have hi:=h2.inv h;rw[<-h2.next];rcases hi.iJ (hi.bt (by rw[h2.room,h2.last];exact hf.2)) ni with⟨g1,g2⟩|⟨g1,g2,g3⟩
 ·grind
 ·have:=hf.1;rw[h2.ks] at g1;omega
theorem my.afv {m:DM} (h:my m) {e:Nat} (he:e≠12) {f:DM->DM} (hf: ∀m,my m->my (f m)):(m.write e f).2≠12/\my (m.write e f).1:=by
 by_cases h0:e=0
 ·subst h0;rw[h.write];exact⟨by simp,hf _ h.tick⟩
 ·rw[h.afh h0];grind
theorem my.akd {m:DM} (h:my m) (n:ByteArray):(m.create n).2≠12/\my (m.create n).1:=by
 unfold DM.create;refine h.afv ?_ λm hm=>⟨hm.ar,hm.dn⟩
 grind
theorem my.aot {m:DM} (h:my m) (n:ByteArray):(m.sync n).2≠12/\my (m.sync n).1:=by
 unfold DM.sync;refine h.afv gQ λm hm=>?_;unfold DM.ki;split
 ·exact hm
 ·exact⟨hm.ar,hm.dn⟩
theorem my.ake {m:DM} (h:my m) (n:ByteArray) (b:List Nat):(m.append n b).2≠12/\my (m.append n b).1:=by
 unfold DM.append;rw[if_neg (by rw[h.dn];simp)];split
 ·grind
 ·split
  ·exact⟨by simp,h⟩
  ·refine⟨?_,⟨h.tick.ar,h.tick.dn⟩⟩;dsimp only;rw[if_neg (by rw[h.tick.dn];simp)]
   decide
structure GL (n:Nat) (x:LD):Prop where
 ok:my x.m
 ne:x.L.bC≠[]
 d1:1<=x.L.dir.size
 d2:x.L.dir.size<=11
 yK: ∀s∈x.L.bC,s.first+s.bt.length<=n/\s.size<=n*300000
 room:x.L.room<=2^40
 len:x.L.bC.length<=n
theorem GL.up {n':Nat} (h:GL n x) (hn:n<=n'):GL n' x:=
 ⟨h.ok,h.ne,h.d1,h.d2,λs hs=>by have:=h.yK s hs;omega,h.room,ad h.len hn⟩
theorem GL.K9 (h:GL n x) (hn:n<=1000):pt x.L:=
 ⟨h.ne,h.d1,h.d2,λs hs=>by have:=h.yK s hs;omega,h.room⟩
theorem GL.sync (h:GL n x):x.sync.2≠12/\GL n x.sync.1:=by
 obtain⟨h1,h2⟩:=h.ok.aot x.L.ff;unfold LD.sync;dsimp only;refine⟨h1,?_⟩;split
 ·exact⟨h2,h.ne,h.d1,h.d2,h.yK,h.room,h.len⟩
 ·exact⟨h2,h.ne,h.d1,h.d2,h.yK,h.room,h.len⟩
theorem GL.iJ (h:GL n x):(x.iJ x.L.next).2≠12/\GL (n+1) (x.iJ x.L.next).1:=by
 obtain⟨h1,h2⟩:=h.ok.akd (bS x.L.dir x.L.next);have hu:=h.up (n':=n+1) zQ;unfold LD.iJ;dsimp only;refine⟨h1,?_⟩;split
 ·refine⟨h2,by simp,h.d1,h.d2,λs hs=>?_,h.room,by simp;exact h.len⟩;rcases List.mem_append.1 hs with hs|hs
  ·exact hu.yK s hs
  ·simp only[av] at hs;subst hs;have:=(h.yK _ (LM.xL h.ne)).1;have e:x.L.next=x.L.last.first+x.L.last.bt.length:=rfl
   grind
 ·exact⟨h2,hu.ne,hu.d1,hu.d2,hu.yK,hu.room,hu.len⟩
theorem GL.adm (h:GL n x):x.room.2≠12/\GL (n+1) x.room.1:=by
 unfold LD.room;split
 ·dsimp only;obtain⟨h1,h2⟩:=h.sync;split
  ·exact⟨h1,h2.up zQ⟩
  ·have e:x.sync.1.L.next=x.L.next:=by unfold LM.next LM.last;rw[LD.Ul]
   rw[<-e];exact h2.iJ
 ·exact⟨by simp,h.up zQ⟩
theorem GL.lay (h:GL n x) (hp:p.length<=262144):(x.lay p).2≠12/\GL (n+1) (x.lay p).1:=by
 obtain⟨h1,h2⟩:=h.ok.ake x.L.ff (dt p);have hu:=h.up (n':=n+1) zQ;have iQ:=qG p;unfold LD.lay;dsimp only;refine⟨h1,?_⟩;split
 ·have hle:=LM.Su h.ne;have hlm:=h.yK _ (LM.xL h.ne);refine⟨h2,by simp[LM.add],h.d1,h.d2,λs hs=>?_,h.room,?_⟩
  ·rcases List.mem_append.1 hs with hs|hs
   ·exact hu.yK s gQ
   ·simp only[av] at hs;subst hs;simp only[aa,aL,br];omega
  ·have:=hu.len;rw[hle] at this;simp only[LM.add,aa,aL,br] at this⊢;omega
 ·exact⟨h2,hu.ne,hu.d1,hu.d2,hu.yK,hu.room,hu.len⟩
theorem GL.append (h:GL n x) (p:List Nat):(x.append p).2.2≠12/\GL (n+2) (x.append p).1:=by
 unfold LD.append;split
 ·exact⟨by simp,h.up zQ⟩
 ·split
  ·exact⟨by simp,h.up zQ⟩
  ·obtain⟨h1,h2⟩:=h.adm;dsimp only;split
   ·exact⟨h1,h2.up zQ⟩
   ·obtain⟨h3,h4⟩:=h2.lay (p:=p) zQ
    grind
theorem GL.iG (h:GL n x) (p:List Nat):(x.iG 0 p).2.2≠12/\GL (n+2) (x.iG 0 p).1:=by
 obtain⟨h1,h2⟩:=h.append p;unfold LD.iG;rw[if_neg sQ];dsimp only;split
 ·grind
 ·exact h2.sync
structure rZ (k:Nat) (l:List dV) (s1:lF):Prop where
 fst:oh l=some 1
 rs: ∃rs,fH l=rs.map gf/\(∀r∈rs,Uh r)/\rs.length<=k/\yT (0,[]) rs=some s1
 full: ∀t∈l.dropLast,4096<=t.size
def yr (k:Nat) (P:lF->Prop) (m:DM):Prop:=XE oK (λl=> ∃s1,P s1/\rZ k l s1) m
def wq (x:LD) (k:Nat) (s1:lF):Prop:= ∃pre sg,oE x pre sg/\rZ k (pre++[sg]) s1/\x.L.dir=oK/\x.L.room=4096
variable {k' : Nat}
theorem rZ.up {l:List dV} (h:rZ k l s1) (hk:k<=k'):rZ k' l s1:=
 ⟨h.fst,let⟨rs,a,b,c,d⟩:=h.rs;⟨rs,a,b,by omega,d⟩,h.full⟩
variable {P : lF -> Prop}
def yr.imp {P':lF->Prop} {m:DM} (h:yr k P m) (hk:k<=k') (hp: ∀s,P s->P' s):yr k' P' m:=
 XE.imp h λ_ _ ⟨s1,a,b⟩=>⟨s1,hp _ a,b.up hk⟩
theorem wq.crs (h:wq x k s1):yr k (· =s1) x.m:=by
 obtain⟨pre,sg,h1,h2,h3,h4⟩:=h;have hd:=h1.d;rw[h3] at hd;exact(XF hd h1.g h1.fl).imp λl s e=>by grind
theorem wq.up (h:wq x k s1) (hk:k<=k'):wq x k' s1:=let⟨pre,sg,h1,h2,h3,h4⟩:=h;⟨pre,sg,h1,h2.up hk,h3,h4⟩
variable {l' : List dV}
theorem rZ.snoc {l:List dV} (h:rZ k l s1) (hr:Uh r) (hs:tF s1 r=some s2) (e1:oh l'=oh l) (e2:fH l'=fH l++[gf r]) (hf: ∀t∈l'.dropLast,4096<=t.size):rZ (k+1) l' s2:=by
 obtain⟨rs,a,b,c,d⟩:=h.rs;refine⟨e1.trans h.fst,⟨rs++[r],by grind,λq hq=>?_,by simp;omega,afq d hs⟩,hf⟩
 grind
theorem rZ.same {l:List dV} (h:rZ k l s1) (e1:oh l'=oh l) (e2:fH l'=fH l) (hf: ∀t∈l'.dropLast,4096<=t.size):rZ k l' s1:=
 let⟨rs,a,b,c,d⟩:=h.rs
 ⟨e1.trans h.fst,⟨rs,e2.trans a,b,c,d⟩,hf⟩
theorem DM.aou {m:DM} (hn:m.ks.Nodup):m.sz=(m.ks.map λk=>(m.bytes k).length).sum:=by
 unfold DM.sz tU DM.ks;rw[bU];refine congrArg List.sum (eu λx hx=>?_);have e:m.get x.1=some x.2:=vY hn hx
 grind [DM.bytes]
variable {sf : Nat} {lr : List Nat} {dir : ByteArray}
theorem oU.sz {m:DM} (h:oU dir pre s lr sf m):m.sz=(pre.map λt=>(flat t.bt).length).sum+(flat s.bt++lr).length:=by
 rw[DM.aou h.nd,(h.ks.map _).sum_nat,bU,aC,BB];have e1:pre.map ((λk=>(m.bytes k).length)∘λs=>bS dir s.first)=pre.map λt=>(flat t.bt).length:=eu λt ht=>by
  show(m.bytes (bS dir t.first)).length=_
  rw[vj (h.body t ht)]
 rw[e1];simp only[bB,kN,Function.comp,List.sum_cons,List.sum_nil,Nat.add_zero];rw[vj h.last]
theorem abK: ∀{l:List (List Nat)},(∀p∈l,p.length<=900)->(flat l).length<=912*l.length
 |[],_=>by simp[flat]
 |p::l,h=>by
  have h1:=abK (l:=l) λq hq=>h q (bX _ hq);have h2:=h p sQ;have h3:=qG p;have e:flat (p::l)=dt p++flat l:=by simp[flat]
  grind
theorem Yl: ∀{l:List dV},(∀p∈fH l,p.length<=900)->(l.map λt=>(flat t.bt).length).sum<=912*(fH l).length
 |[],_=>by grind
 |t::l,h=>by
  have e:fH (t::l)=t.bt++fH l:=by simp[fH]
  rw[e] at h⊢;have h1:=Yl (l:=l) λq hq=>h q (List.mem_append_right _ hq);have h2:=abK (l:=t.bt) λq hq=>h q (List.mem_append_left _ hq)
  grind
theorem abL: ∀{l:List dV},(∀t∈l,4096<=(flat t.bt).length)->4096*l.length<=(l.map λt=>(flat t.bt).length).sum
 |[],_=>by simp
 |t::l,h=>by
  have h1:=abL (l:=l) λq hq=>h q (bX _ hq)
  grind
theorem rZ.lens {l:List dV} (h:rZ k l s1):(∀p∈fH l,p.length<=900)/\(fH l).length<=k:=by
 obtain⟨rs,a,b,c,d⟩:=h.rs;rw[a];refine⟨λp hp=>?_,by grind⟩;obtain⟨r,hr,rfl⟩:=List.mem_map.1 hp;exact(b r hr).len
theorem rZ.size {m:DM} (h:rZ k (pre++[s]) s1) (hg:Good (pre++[s])) (hd:oU dir pre s lr sf m):m.sz<=912*k+lr.length/\4096*pre.length<=912*k/\m.fs.length=pre.length+1:=by
 obtain⟨h1,h2⟩:=h.lens;have h3:=Yl h1;have h4:=hd.sz;have hf: ∀t∈pre,4096<=(flat t.bt).length:=λt ht=>by
  have:=h.full t gQ
  rwa [(hg.ok t (by simp[ht])).sz] at this
 have h5:=abL hf;rw[aC,BB] at h3;simp only[bB,kN,List.sum_cons,List.sum_nil,Nat.add_zero] at h3;rw[aa] at h4;have h6:=hd.ks.length_eq;rw[DM.vQ,af,aa,List.length_singleton] at h6;exact⟨by omega,by omega,h6⟩
theorem rZ.next (h:rZ k (pre++[s]) s1) (hg:Good (pre++[s])):s.first+s.bt.length<=1+k:=by
 have:=gB.count hg.lk h.fst;have:=h.lens.2;omega
theorem wq.iG (h:wq x k s1) (hr:Uh r) (hs:tF s1 r=some s2) (hk:k<=200):
  ((x.iG 0 (gf r)).2.2=12/\(x.iG 0 (gf r)).1.m.dn=true/\yr (k+1) (λs=>s=s1\/s=s2) (x.iG 0 (gf r)).1.m)\/
  ((x.iG 0 (gf r)).2.2=0/\wq (x.iG 0 (gf r)).1 (k+1) s2):=by
 obtain⟨pre,sg,h1,h2,h3,h4⟩:=h;have iQ: ∀t∈pre,4096<=t.size:=by have:=h2.full;rwa [jE] at this
 rcases h1.iG (by have:=hr.len;omega) hr.isb with⟨e,hf⟩|⟨e,dF,oI,s',hk,hrr,hsh⟩|⟨e1,e2,⟨oI,s',hk,hrr⟩,hw⟩
 ·left;rw[h3] at hf;refine⟨e,hf.1,hf.2.imp λl s ⟨q1,q2,q3⟩=>?_⟩;have q3:=q3 gQ;rcases q2 with q2|q2
  ·exact⟨s1,.inl rfl,(h2.same q1 q2 (by rw[h4] at q3;exact q3)).up (dK _)⟩
  ·exact⟨s2,.inr rfl,h2.snoc hr hs q1 q2 (by rw[h4] at q3;exact q3)⟩
 ·right;refine⟨e,oI,s',hk.up,h2.snoc hr hs hk.fst hrr ?_,hk.dir.trans h3,hk.room.trans h4⟩;rw[jE];rcases hsh with⟨rfl,_,_⟩|⟨rfl,_,q⟩
  ·omega
  grind
 ·exfalso;obtain⟨q1,q2,q3⟩:=h2.size h1.g h1.d;have q4:=h2.next h1.g
  have q5:=h1.next
  have q6:=hr.len;have q7:=qG (gf r);simp only[br] at q1;rcases hw with hw|hw|hw<;>omega
theorem Ym: ∀(k u:Nat),u<=k->wU (pW u)
 |0,u,h=>by
  have:u=0:=by omega
  subst this;intro x hx;unfold pW at hx;simp at hx;omega
 |k+1,u,h=>by
  intro x hx;unfold pW at hx;split at hx
  ·simp at hx;omega
  ·rcases List.mem_cons.1 hx with rfl|hx
   ·omega
   ·exact Ym k (u/128) zQ x hx
theorem xP (n:Int):wU (encI n):=Ym _ _ (au _)
theorem gB.top: ∀{l:List dV} {f:Nat},gB l->oh l=some f-> ∀t∈l,t.first+t.bt.length<=f+(fH l).length
 |[],_,_,h,_,_=>by cases h
 |[a],f,_,hf,t,ht=>by
  have h2:a.first=f:=cn hf
  rw[av] at ht;grind [fH]
 |a::b::l,f,h,hf,t,ht=>by
  have h1:b.first=a.first+a.bt.length:=h.1
  have h2:a.first=f:=cn hf
  have e:fH (a::b::l)=a.bt++fH (b::l):=by simp[fH]
  rw[e,aa];rcases List.mem_cons.1 ht with rfl|ht
  ·omega
  ·have:=gB.top (l:=b::l) (f:=b.first) h.2.2 rfl t ht;omega
theorem Yn {n:Int} (h1:1<=n) (h2:n<=2^40):Uh (lP n)/\(lP n).fI=0:=by
 have e1:=fD 8;have e2:=fD n;have e4:(lP n).err=0:=by
  simp[Rec.err,lP,Rec.strip,Rec.isZero,Rec.qa,State.isZero,State.zero,h1]
 have e5:(gf (lP n)).length<=900:=by rw[QM,aa];omega
 refine⟨⟨.EZ n (by unfold uI;omega),e4,e5,λb hb=>?_,by simp[lP]⟩,?_⟩
 ·rw[QM] at hb;rcases List.mem_append.1 hb with hb|hb
  ·exact xP _ b hb
  ·exact xP _ b hb
 ·unfold Rec.fI;omega
theorem Um: ∀{l:List Rec} {s s':lF},yT s l=some s'->s.1<=s'.1/\s'.1<=s.1+l.length
 |[],s,s',h=>by
  obtain rfl:=cn h;simp
 |r::l,s,s',h=>by
  obtain⟨x,h1,h2⟩:=Option.bind_eq_some_iff.1 (show(tF s r).bind (λs'=>yT s' l)=some s' from h);have h3:=Yh h1;have h4:=Um h2
  grind
theorem Yo (s:lF):tF s (lP (s.1+1))=some (s.1+1,s.2):=by
 unfold tF;rw[if_pos (show(lP (s.1+1)).kind=8 from rfl),if_pos (show(lP (s.1+1)).n=s.1+1 from rfl)]
structure adI (m:DM) (k:Nat) (s1:lF) (x:LD) (pre:List dV) (sg:dV) (rs:List Rec):Prop where
 Bx:LD.Bx oK 4096 m=(x,0)
 log:Lx x pre sg rs
 len:rs.length<=k
 tF:yT (0,[]) rs=some s1
 aW:0<=s1.1/\s1.1<=k
 err:(lP (s1.1+1)).fI=0
 kp:(x.iG 0 (gf (lP (s1.1+1)))).2.2=0
 up:wq (x.iG 0 (gf (lP (s1.1+1)))).1 (k+1) (s1.1+1,s1.2)
theorem EZ {m:DM} (h:yr k P m) (hk:k<=200) (cN:List Int) (gh:(m.mh cN).sz<=4194304): ∃s1 x pre sg rs,P s1/\adI (m.mh cN) k s1 x pre sg rs:=by
 obtain⟨pre,s,lr,sf,⟨s1,hP,hr⟩,hg,ht,hbt,hd⟩:=h.2 cN;have h0:(m.mh cN).ar=0:=rfl;have jK:(m.mh cN).dn=false:=rfl;obtain⟨m',e,h1,h2,h3⟩:=alV (room:=4096) hd hg ht h0 jK;obtain⟨q1,q2,q3⟩:=hr.size hg h1;simp only[br] at q1;have jL:oE ⟨⟨oK,4096,pre++[s],(s.first+s.bt.length:Nat)-1⟩,m'⟩ pre s:=
  ⟨rfl,hg,h1,h3,by grind,by grind,(show 1<=oK.size from by decide),(show oK.size<=11 from by decide),(show 64<=4096 from by decide),(show 4096<=262144 from by decide)⟩
 have hlu:wq ⟨⟨oK,4096,pre++[s],(s.first+s.bt.length:Nat)-1⟩,m'⟩ k s1:=⟨pre,s,jL,hr,rfl,rfl⟩;obtain⟨rs,a,b,c,d⟩:=hr.rs;have hl:=Um d;have CG:0<=s1.1/\s1.1<=k:=by have:(0:Int)<=s1.1:=hl.1;have:s1.1<=(0:Int)+rs.length:=hl.2;omega
 obtain⟨cg,ce⟩:=Yn (n:=s1.1+1) zQ zQ;have gW:GL 300 ⟨⟨oK,4096,pre++[s],(s.first+s.bt.length:Nat)-1⟩,m'⟩:=by
  have hB:=jL.ado;have hN:=jL.adp;refine⟨⟨h2,h3⟩,by simp,jL.d1,jL.d2,λt ht=>⟨?_,?_⟩,(show(4096:Nat)<=2^40 from by decide),by omega⟩
  ·have:=gB.top hg.lk hr.fst t ht;have:=hr.lens.2;omega
  ·have:=(hB t ht).2;omega
 have DB:(LD.iG ⟨⟨oK,4096,pre++[s],(s.first+s.bt.length:Nat)-1⟩,m'⟩ 0 (gf (lP (s1.1+1)))).2.2=0/\wq (LD.iG ⟨⟨oK,4096,pre++[s],(s.first+s.bt.length:Nat)-1⟩,m'⟩ 0 (gf (lP (s1.1+1)))).1 (k+1) (s1.1+1,s1.2):=by
  rcases hlu.iG cg (Yo s1) hk with⟨e,_⟩|h
  ·exact absurd e (gW.iG _).1
  ·exact h
 refine⟨s1,_,pre,s,rs,hP,e,⟨jL,hr.fst,a,b,by omega⟩,c,d,CG,ce,DB.1,DB.2⟩
theorem ajw: ∃x,adI ⟨[],0,0,false⟩ 0 (0,[]) x [] ⟨1,[],0⟩ []/\my (x.iG 0 (gf (lP (0+1)))).1.m:=by
 obtain⟨nm,xD⟩: ∃nm,nm=bS oK 1:=⟨_,rfl⟩;have gh:nm.size=12:=by rw[xD,A1];rfl
 have mO:vR nm=true:=by unfold vR;rw[gh];decide
 obtain⟨m1,qp⟩: ∃m1:DM,m1=((⟨[],0,0,false⟩:DM).tick.put nm [] 0):=⟨_,rfl⟩;have ht:(⟨[],0,0,false⟩:DM).tick.dn=false/\(⟨[],0,0,false⟩:DM).tick.ar=0/\(⟨[],0,0,false⟩:DM).tick.fs=[]:=by
  unfold DM.tick;rw[if_neg dQ];exact⟨rfl,rfl,rfl⟩
 have CD:DM.create ⟨[],0,0,false⟩ nm=(m1,0):=by
  unfold DM.create DM.write;have e:(if¬vR nm=true then 10 else if((⟨[],0,0,false⟩:DM).get nm).isSome then 9 else if 64<=(⟨[],0,0,false⟩:DM).fs.length then 3 else 0)=0:=by
   rw[if_neg gQ];rfl
  rw[e,if_neg dQ,if_neg dQ,if_neg gQ,qp]
 have wS:m1.fs=[(nm,([],0))]:=by
  rw[qp]
  show cL nm ([],0) (⟨[],0,0,false⟩:DM).tick.fs=_
  rw[ht.2.2];rfl
 have hd1:m1.dn=false:=by rw[qp];exact ht.1
 have rK:m1.ar=0:=by rw[qp];exact ht.2.1
 have Yp:m1.get nm=some ([],0):=by unfold DM.get;rw[wS];simp[getM]
 have hO:LD.Bx oK 4096 ⟨[],0,0,false⟩=(⟨⟨oK,4096,[⟨1,[],0⟩],0⟩,m1⟩,0):=by
  unfold LD.Bx;rw[if_neg dQ];have e:fG ((⟨[],0,0,false⟩:DM).fs.map (·.1))=[]:=by simp[fG]
  rw[e];dsimp only;have e2:LD.oX ⟨L0 oK 4096,⟨[],0,0,false⟩⟩ []=(⟨L0 oK 4096,⟨[],0,0,false⟩⟩,0):=by unfold LD.oX;rfl
  rw[e2,if_neg sQ,if_pos (show(L0 oK 4096).bC=[] from rfl)];unfold LD.iJ;dsimp only;have e3:(L0 oK 4096).dir=oK:=rfl;rw[e3,<-xD,CD];rfl
 have hgd:Good ([]++[(⟨1,[],0⟩:dV)]):=⟨trivial,λs hs=>by
  rw[List.nil_append,av] at hs;subst hs;exact⟨au _,⟨by decide,by decide⟩,by rfl,λp hp=>absurd hp sQ⟩⟩
 have hon:oU oK [] ⟨1,[],0⟩ [] (flat []).length m1:=⟨by unfold DM.ks;rw[wS];simp,by unfold DM.ks;rw[wS,xD];simp,λt ht=>absurd ht sQ,by
  show m1.get (bS oK 1)=_
  rw[<-xD,Yp];rfl,au _⟩
 have hz:m1.sz=0:=by unfold DM.sz tU;rw[wS];simp
 have jL:oE ⟨⟨oK,4096,[⟨1,[],0⟩],0⟩,m1⟩ [] ⟨1,[],0⟩:=
  ⟨rfl,hgd,hon,hd1,by grind,by grind,(show 1<=oK.size from by decide),(show oK.size<=11 from by decide),(show 64<=4096 from by decide),(show 4096<=262144 from by decide)⟩
 have hr:rZ 0 ([]++[(⟨1,[],0⟩:dV)]) (0,[]):=⟨rfl,⟨[],rfl,λr hr=>absurd hr sQ,au _,rfl⟩,λt ht=>absurd ht sQ⟩;obtain⟨cg,ce⟩:=Yn (n:=1) zQ zQ;have gW:GL 300 ⟨⟨oK,4096,[⟨1,[],0⟩],0⟩,m1⟩:=⟨⟨rK,hd1⟩,by simp,jL.d1,jL.d2,λt ht=>by simp_all,(show(4096:Nat)<=2^40 from by decide),by simp⟩;have hlu:wq ⟨⟨oK,4096,[⟨1,[],0⟩],0⟩,m1⟩ 0 (0,[]):=⟨[],⟨1,[],0⟩,jL,hr,rfl,rfl⟩;have DB:=(hlu.iG cg (Yo (0,[])) zQ).resolve_left λe=>absurd e.1 (gW.iG _).1;exact⟨_,⟨hO,⟨jL,rfl,rfl,λr hr=>absurd hr sQ,by simp⟩,au _,rfl,⟨sX _,sX _⟩,ce,DB.1,DB.2⟩,(gW.iG _).2.ok⟩
def A8 (s:lF):Prop:= ∀x∈s.2,x.1.aO.eh=1/\1<=x.1.aO.aW/\x.1.aO.aW<=s.1/\1<=x.1.aO.sq/\x.1.aO.sq<=2^40
structure ahP (n:bE) (t:bL):Prop where
 co:t.eh=1
 aW:t.aW=n.c.aW
 sq:1<=t.sq/\t.sq<=n.c.gG
 bl:getM t n.bl=none
structure gM (k N:Nat) (n:bE):Prop where
 ok:sT N k n
 bl:Lw n
 log:wq ⟨n.L,n.m⟩ k n.abs
 gG:0<=n.c.gG/\n.c.gG<=k
 aW:1<=n.c.aW/\n.c.aW<=k
 act: ∀t b,getM t n.al=some b->ahP n t
 abs:A8 n.abs
 Bz: ∀x∈n.abs.2,x.1.aO.aW=n.c.aW->x.1.aO.sq<=n.c.gG
def Cl (n:bE):Prop:= ∀t b,getM t n.al=some b->(n.A b).x.aO=t
theorem cO.Cx.asked {x:AcV} (h:m.Cx):(m.asked x).Cx:=by
 obtain⟨a,b,c,d⟩:=h;exact⟨a,b,c,d⟩
variable {N' : Nat}
theorem rX.up {d:pe} (h:rX N d) (hN:N<=N'):rX N' d:=⟨h.q,h.p,ad h.sn hN,h.ws,h.ids,h.Cx,h.wO,h.pq⟩
def Ed {κ α:Type} [DecidableEq κ] {k:κ} {l:List (κ×α)} :(j9 k l).length<=l.length:=List.length_filter_le _ _
section
variable {n : bE}
structure Calm (n n1:bE):Prop where
 id:n1.c.id=n.c.id
 aW:n1.c.aW=n.c.aW
 gG:n1.c.gG=n.c.gG
 cl:n1.cl=n.cl
 C:n1.C=n.C
 bl:n1.bl=n.bl
 L:n1.L=n.L
 m:n1.m=n.m
 pre:n1.pre=n.pre
theorem Calm.refl (n:bE):Calm n n:=⟨rfl,rfl,rfl,rfl,rfl,rfl,rfl,rfl,rfl⟩
theorem Calm.trans {a b c:bE} (h:Calm a b) (q:Calm b c):Calm a c:=⟨q.id.trans h.id,q.aW.trans h.aW,q.gG.trans h.gG,q.cl.trans h.cl,q.C.trans h.C,q.bl.trans h.bl,q.L.trans h.L,q.m.trans h.m,q.pre.trans h.pre⟩
def Calm.after {a b c:bE} (q:Calm b c) (h:Calm a b):Calm a c:=h.trans q
theorem gM.sub (h:gM k N n) (hN:N<=N') (hk:k<=k') (ah:k'<=1000) (hc:Calm n n1) (hds: ∀(i:Int) (r:dR),getM i n1.ds=some r->r.id=i)
  (TN: ∀t b,getM t n1.al=some b->(∃b',getM t n.al=some b')/\rX N' (n1.A b)) (hlen:n1.al.length<=n.al.length):gM k' N' (fb n1):=by
 have e:(fb n1).abs=n.abs:=by
  show(n1.c.aW,n1.cl.map λb=>((n1.C b).r,(n1.C b).ended))=_
  rw[hc.aW,hc.cl,hc.C];rfl
 refine⟨⟨hc.id.trans h.ok.id,λt b hg=>(TN t b hg).2,hds,rfl,rfl,rfl,rfl,rfl,?_,?_,ah,hc.pre.trans h.ok.pre,?_,?_⟩,?_,?_,?_,?_,?_,?_,?_⟩
 ·show n1.cl.length<=_;rw[hc.cl];exact ad h.ok.cl hk
 ·exact ad (ad hlen h.ok.W5) hk
 ·show∀b∈n1.cl,(n1.C b).waits.length<=80;rw[hc.cl,hc.C];exact h.ok.cw
 ·show∀t b,getM t n1.bl=some b->b∈n1.cl/\(n1.C b).r.aO=t;rw[hc.bl,hc.cl,hc.C];exact h.ok.byT
 ·show∀t b,getM t n1.bl=some b↔b∈n1.cl/\(n1.C b).r.aO=t;rw[hc.bl,hc.cl,hc.C];exact h.bl
 ·rw[e];show wq ⟨n1.L,n1.m⟩ _ _;rw[hc.L,hc.m];exact h.log.up hk
 ·show 0<=n1.c.gG/\n1.c.gG<=_;rw[hc.gG];have:=h.gG;omega
 ·show 1<=n1.c.aW/\n1.c.aW<=_;rw[hc.aW];have:=h.aW;omega
 ·intro t b hg;obtain⟨b',dZ⟩:=(TN t b hg).1;have q:=h.act t b' dZ;exact⟨q.co,by show _=n1.c.aW;rw[hc.aW];exact q.aW,by show _/\_<=n1.c.gG;rw[hc.gG];exact q.sq,by show getM t n1.bl=none;rw[hc.bl];exact q.bl⟩
 ·rw[e];exact h.abs
 ·rw[e];show∀x∈_,_=n1.c.aW->_<=n1.c.gG;rw[hc.aW,hc.gG];exact h.Bz
theorem gM.call {p:List jD} (h:gM k N n) (hc:ME n p n1) (hk:k+1<=1000):gM (k+1) N (fb n1):=by
 obtain⟨xb,iq,KO,vm,va,rm,ra,ms,d,rfl,TL,adJ⟩:=hc;have hT: ∀t b,getM t KO=some b->(getM t n.al=some b/\b≠xb)\/(t=jk n/\b=xb/\KO=cL (jk n) xb n.al):=λt b hg=>by
  rcases adJ with⟨_,_,_,e,_⟩|⟨_,e,_⟩
  ·rw[e] at hg;have q:=(nO hg).1
   grind
  ·rw[e] at hg;by_cases e1:t=jk n
   ·rw[e1,kj] at hg;exact .inr ⟨e1,(cn hg).symm,e⟩
   ·rw[pd e1] at hg;exact .inl ⟨hg,λe=>TL t (e▸hg)⟩
 have hlen:KO.length<=n.al.length+1:=by
  rcases adJ with⟨_,_,_,e,_⟩|⟨_,e,_⟩
  ·rw[e];exact ad Ed (dK _)
  ·rw[e];exact Cw _
 have hcn:=h.gG;have QS:=h.aW;have GG:getM (jk n) n.bl=none:=by
  cases e:getM (jk n) n.bl with
  |none=>rfl
  |some b=>
   obtain⟨h1,h2⟩:=(h.bl _ _).1 e;have:=h.Bz _ (List.mem_map.2 ⟨b,h1,rfl⟩) (by show(n.C b).r.aO.aW=_;rw[h2];rfl);have e3:((n.C b).r).aO.sq=n.c.gG+1:=by rw[h2];rfl
   have:(n.C b).r.aO.sq<=n.c.gG:=this;omega
 refine⟨⟨h.ok.id,λt b hg=>?_,h.ok.ds,rfl,rfl,rfl,rfl,rfl,ue h.ok.cl,?_,hk,h.ok.pre,h.ok.cw,h.ok.byT⟩,h.bl,h.log.up (dK _),?_,?_,λt b hg=>?_,h.abs,λx hx e=>?_⟩
 ·rcases hT t b hg with⟨q1,q2⟩|⟨_,q2,q3⟩
  ·show rX N (if b=xb then d else n.A b)
   rw[if_neg q2];exact h.ok.act t b q1
  ·show rX N (if b=xb then d else n.A b)
   rw[if_pos q2];rcases adJ with⟨_,_,_,e,_⟩|⟨_,_,hp,Ez,ht,aqp,asW,Jr,TZ,cA,hws,hw,hq⟩
   ·have q4:getM t (j9 (jk n) n.al)=some xb:=by rw[<-e,<-q2];exact hg
    exact absurd (nO q4).1 (TL t)
   ·refine⟨λe=>?_,by rw[hp];omega,by rw[Jr.1];exact aq _,hws,?_,λy hy=>(hw y hy).2,by omega,Jr.2⟩
    ·rcases hq with q|q
     ·exact⟨q.2.1,q.2.2.1⟩
     ·rw[q.1] at e;cases e
    ·rcases hq with q|q
     ·rw[q.2.2.1];exact aq _
     ·rw[<-q.2.1,af];omega
 ·have:=h.ok.W5;show KO.length<=_;omega
 ·show 0<=n.c.gG+1/\n.c.gG+1<=((k+1:Nat):Int);omega
 ·show 1<=n.c.aW/\n.c.aW<=((k+1:Nat):Int);omega
 ·rcases hT t b hg with⟨q1,q2⟩|⟨rfl,_,_⟩
  ·have q:=h.act t b q1;exact⟨q.co,q.aW,by have:=q.sq;show 1<=t.sq/\t.sq<=n.c.gG+1;omega,q.bl⟩
  ·exact⟨h.ok.id,rfl,by show 1<=n.c.gG+1/\n.c.gG+1<=n.c.gG+1;omega,GG⟩
 ·have:=h.Bz x hx e
  show _<=n.c.gG+1
  omega
theorem sY.calm: ∀{ts:List bL} {n n1:bE},sY ts n n1->Calm n n1/\n1.ds=n.ds/\n1.al.length<=n.al.length
 |[],n,n1,h=>by
  have:n1=n:=h;subst this;exact⟨Calm.refl _,rfl,au _⟩
 |t::ts,n,n1,⟨n2,h1,h2⟩=>by
  obtain⟨q1,q2,q3⟩:=sY.calm h2;have q:Calm n n2/\n2.ds=n.ds/\n2.al.length<=n.al.length:=by
   obtain⟨b,_,_,⟨_,_,_,_,rfl,_⟩|⟨_,_,_,rfl,_⟩⟩:=h1
   ·exact⟨⟨rfl,rfl,rfl,rfl,rfl,rfl,rfl,rfl,rfl⟩,rfl,Ed⟩
   ·exact⟨⟨rfl,rfl,rfl,rfl,rfl,rfl,rfl,rfl,rfl⟩,rfl,au _⟩
  exact⟨q1.after q.1,q2.trans q.2.1,ad q3 q.2.2⟩
theorem yq.key (h:yq n t n1) (oJ:Cl n):Cl n1/\ ∀t b,getM t n1.al=some b->getM t n.al=some b:=by
 obtain⟨b,_,_,hc⟩:=h;have hs:n1.A=(eI n b (wZ (n.A b))).A/\ ∀t b,getM t n1.al=some b->getM t n.al=some b:=by
  rcases hc with⟨_,_,_,_,rfl,_⟩|⟨_,_,_,rfl,_⟩
  ·exact⟨rfl,λt b hg=>(nO hg).1⟩
  ·exact⟨rfl,λt b hg=>hg⟩
 refine⟨λt b' hg=>?_,hs.2⟩;have:=oJ t b' (hs.2 t b' hg);rw[hs.1]
 show(if b'=b then wZ (n.A b)else n.A b').x.aO=t
 split
 ·grind [wZ]
 omega
theorem sY.ok: ∀{ts:List bL} {n n1:bE},sY ts n n1->Cl n->(∀t b,getM t n.al=some b->rX N (n.A b))-> ∀t b,getM t n1.al=some b->getM t n.al=some b/\rX N (n1.A b)
 |[],n,n1,h,_,mO=>λt b hg=>by
  have:n1=n:=h
  grind
 |t::ts,n,n1,⟨n2,h1,h2⟩,oJ,mO=>λt' b hg=>by
  obtain⟨q1,q2⟩:=h1.key oJ;obtain⟨q3,q4⟩:=sY.ok h2 q1 (h1.ok oJ mO) t' b hg
  grind
theorem BX.calm: ∀{l:List Nat} {n n1:bE},BX l n n1->Calm n n1/\n1.ds=n.ds/\n1.al=n.al/\n1.A=n.A/\n1.ra=n.ra
 |[],n,n1,h=>by
  have:n1=n:=h
  grind [Calm.refl]
 |b::l,n,n1,⟨n2,h1,h2⟩=>by
  obtain⟨q1,q2,q3,q4,q5⟩:=BX.calm h2;rcases h1 with⟨_,rfl⟩|⟨_,A3,yL,rfl,_⟩
  ·grind
  ·exact⟨q1.after ⟨rfl,rfl,rfl,rfl,rfl,rfl,rfl,rfl,rfl⟩,q2,q3,q4,q5⟩
theorem gM.tick (h:gM k N n) (oJ:Cl n) (ht:QL n n1) (hk:k+1<=1000):gM (k+1) N (fb n1):=by
 obtain⟨ts,n2,hp,h1,h2⟩:=ht;obtain⟨a1,a2,a3⟩:=h1.calm;obtain⟨b1,b2,b3,b4,_⟩:=h2.calm;refine h.sub (au _) (dK _) hk (a1.trans b1) (by rw[b2,a2];exact h.ok.ds) (λt b hg=>?_) gQ;rw[b3] at hg;rw[b4];obtain⟨q1,q2⟩:=sY.ok h1 oJ h.ok.act t b hg
 grind
end
theorem afw (t:bL):wU (nB t):=by grind [nB,ub,xP]
theorem ami (t:cx):wU (lq t):=by grind [lq,ub,xP]
theorem ahQ (l:List Int):wU (iT encI l):=by
 unfold iT;refine ub (xP _) λb hb=>?_;obtain⟨q,hq,hb⟩:=List.mem_flatten.1 hb;obtain⟨x,_,rfl⟩:=List.mem_map.1 hq;exact xP _ b hb
theorem Un {α:Type} {p:α->Bool} {r:α->α->Bool} : ∀{l:List α} {o:Option α},chain p r o l=true-> ∀x∈l,p x=true
 |[],_,_,_,hx=>by simp at hx
 |y::l,o,h,x,hx=>by
  have h1:p y=true/\chain p r (some y) l=true:=by
   cases o<;>simp[chain] at h
   ·exact h
   ·exact⟨h.1.1,h.2⟩
  rcases List.mem_cons.1 hx with rfl|hx
  ·exact h1.1
  ·exact Un h1.2 x hx
theorem amj (h:r.fI=0):r.err=0:=by
 apply dB;intro e;unfold Rec.fI at h;omega
variable {ids : List Int} {st : cx}
theorem QU (he:(jl t st ids).fI=0) (hl:ids.length<=80) (ht:Dg t):Uh (jl t st ids):=by
 have h1:=amj he;have h2:(jl t st ids).qa=true:=by
  apply dB;intro e;unfold Rec.err at h1;split at h1
  ·cases h1
  ·grind
 have h3:(t.may&&st.HJ&&yt ids)=true:=by
  unfold Rec.qa at h2;exact h2
 simp only[aB] at h3;obtain⟨⟨h4,h5⟩,h6⟩:=h3;have h7:st.may=true:=by unfold cx.HJ at h5;simp only[aB] at h5;exact h5.1
 have h8: ∀x∈ids,uI x:=λx hx=>by
  unfold yt at h6;simp only[aB] at h6;have:=Un h6.1 x hx;simp only[aB,decide_eq_true_eq] at this;unfold uI;omega
 have h9:acS st:=by
  unfold cx.may at h7;simp only[aB,decide_eq_true_eq] at h7;unfold acS uI;omega
 have h10:=afn t st ids;refine⟨.Bz t st ids ht h9 h8 zQ,h1,by omega,λb hb=>?_,hl⟩;rw[VY] at hb;exact ub (xP _) (ub (afw _) (ub (ami _) (ahQ _))) b hb
theorem amk (ht:Dg t) (hm:t.may=true):Uh (mi t)/\(mi t).fI=0:=by
 have e1:=fD 10;have e2:=CT t;have e4:(mi t).err=0:=by
  simp[Rec.err,mi,Rec.strip,Rec.isZero,Rec.qa,State.isZero,State.zero,hm]
 have e5:(gf (mi t)).length<=900:=by rw[QJ,aa];omega
 refine⟨⟨.fin t ht,e4,e5,λb hb=>?_,by simp[mi]⟩,?_⟩
 ·rw[QJ] at hb;exact ub (xP _) (afw _) b hb
 ·unfold Rec.fI;omega
theorem Uo: ∀(l:List dR) (ds:pc),(∀(i:Int) (r:dR),getM i ds=some r->r.id=i)-> ∀(i:Int) (r:dR),getM i (l.foldl ib ds)=some r->r.id=i
 |[],ds,h=>h
 |x::l,ds,h=>Uo l (ib ds x) λi r hg=>by
  have hp: ∀i r,getM i (cL x.id x ds)=some r->r.id=i:=λi r hg=>by
   by_cases e:i=x.id
   ·rw[e,kj] at hg;cases hg;exact e.symm
   ·rw[pd e] at hg;exact h i r hg
  unfold ib at hg;split at hg
  ·split at hg
   ·split at hg
    ·exact h i r hg
    ·exact hp i r hg
   ·exact hp i r hg
  ·exact h i r hg
section
variable {n : bE}
theorem O1 (h:r.fI≠0):jy n r=(⟨n.L,n.m⟩,0,r.fI.toNat):=by
 unfold jy LD.iG;rcases r.xN with e|e|e|e
 ·omega
 all_goals rw[e];rfl
theorem xQ (h:r.fI=0):jy n r=LD.iG ⟨n.L,n.m⟩ 0 (gf r):=by
 unfold jy;rw[h];rfl
theorem gM.V6 (h:gM k N n) (ht:ahP n t) (st:cx) (ids:List Int):tF n.abs (jl t st ids)=some (n.c.aW,n.abs.2++[(jl t st ids,false)]):=by
 unfold tF;rw[if_neg (show¬(jl t st ids).kind=8 from(by decide: ¬(9:Int)=8)),if_pos (show(jl t st ids).kind=9 from rfl),if_pos ?_]
 ·rfl
 ·refine⟨ht.co,ht.aW,λx hx e=>?_⟩;obtain⟨b,hb,rfl⟩:=List.mem_map.1 hx;have:=(h.bl t b).2 ⟨hb,e⟩;rw[ht.bl] at this;cases this
theorem gM.Dg (h:gM k N n) (hk:k<=1000) (ht:ahP n t):Dg t:=by
 have h1:=h.gG;have h2:=h.aW;have h3:=ht.sq;have h4:=ht.aW;have h5:=ht.co;unfold Go.Proofs.YtgfijddlkhkopaaGreat.Dg uI;omega
theorem akf (oJ:Cl n) (hb:getM t n.al=some b) {b':Nat} (hg:getM t' (j9 t n.al)=some b'):getM t' n.al=some b'/\b'≠b:=by
 obtain⟨q1,q2⟩:=nO hg;exact⟨q1,λe=>q2 (by rw[e] at q1;exact(oJ _ _ q1).symm.trans (oJ _ _ hb))⟩
theorem gM.KJ (h:gM k N n) (hg:DR n m pp n1) (hN:N<=N') (hk:k<=k') (ah:k'<=1000):gM k' N' (fb n1):=by
 obtain⟨b,iq,A3,oB,yL,hb,hp,hc,rfl⟩:=hg;exact h.sub hN hk ah ⟨rfl,rfl,rfl,rfl,rfl,rfl,rfl,rfl,rfl⟩ (Uo _ _ h.ok.ds) (λt b hg=>⟨⟨b,(nO hg).1⟩,(h.ok.act t b (nO hg).1).up hN⟩) Ed
theorem gM.seen (h:gM k N n) (oJ:Cl n) (hs:acN n m n1) (ah:k+1<=1000):gM (k+1) (N+m.seen.length) (fb n1):=by
 have hN:N<=N+m.seen.length:=jV _ _;rcases hs with⟨iq,rfl⟩|hg|⟨b,i,y,iq,CA,lz,pJ,n2,hw,rfl,hc⟩
 ·exact h.sub hN (dK _) ah ⟨rfl,rfl,rfl,rfl,rfl,rfl,rfl,rfl,rfl⟩ h.ok.ds (λt b hg=>⟨⟨b,hg⟩,(h.ok.act t b hg).up hN⟩) (au _)
 ·exact h.KJ hg hN (dK _) ah
 ·have ha:=h.ok.act _ _ hw.g;have hA: ∀t' b',getM t' n.al=some b'->rX (N+m.seen.length) ((eI n b (AS (n.A b) i m CA lz pJ)).A b'):=λt' b' hg=>by
   show rX _ (if b'=b then _ else n.A b')
   split
   ·refine⟨ha.q,ha.p,by show ba (_++_)<=_;rw[aa];have:=ha.sn;omega,?_,ha.ids,λy hy=>?_,ha.wO,ha.pq⟩
    ·have:=ha.ws;simp[AS];omega
    ·exact ha.Cx y ((List.mem_append.1 hy).elim dN di)
   ·exact(h.ok.act t' b' hg).up hN
  have hxt:((eI n b (AS (n.A b) i m CA lz pJ)).A b).x.aO=m.aO:=by rw[jq];exact oJ _ _ hw.g
  rcases hc with⟨_,rfl⟩|⟨_,n3,hr,rfl⟩
  ·exact h.sub hN (dK _) ah ⟨rfl,rfl,rfl,rfl,rfl,rfl,rfl,rfl,rfl⟩ h.ok.ds (λt b' hg=>⟨⟨b',hg⟩,hA t b' hg⟩) (au _)
  ·rcases hr with⟨oB,a,_,_,_,_,rfl,_⟩|⟨ids,pm,vq,vw2,rw2,cA,pK,wP,pf,_,_,_,rfl,_⟩
   ·refine h.sub hN (dK _) ah ⟨rfl,rfl,rfl,rfl,rfl,rfl,rfl,rfl,rfl⟩ h.ok.ds (λt b' hg=>?_) Ed;have hg:getM t (j9 ((eI n b (AS (n.A b) i m CA lz pJ)).A b).x.aO n.al)=some b':=hg;rw[hxt] at hg;obtain⟨q1,q2⟩:=akf oJ hw.g hg;exact⟨⟨b',q1⟩,hA _ _ q1⟩
   ·refine h.sub hN (dK _) ah ⟨rfl,rfl,rfl,rfl,rfl,rfl,rfl,rfl,rfl⟩ h.ok.ds (λt b' hg=>⟨⟨b',hg⟩,?_⟩) (au _);have hb:=hA m.aO b hw.g;have hl:pm.length=ids.length:=by rw[<-wP,af]
    show rX _ (if b'=b then _ else(eI n b (AS (n.A b) i m CA lz pJ)).A b')
    split
    ·refine⟨λe=>absurd e sQ,hb.p,hb.sn,by grind,pK,λy hy=>?_,hb.wO,hb.pq⟩;obtain⟨z,hz,rfl⟩:=List.mem_map.1 hy;exact(pf z hz).2.2.asked
    ·exact hA _ _ hg
theorem gM.comm (h:gM k N n) (oJ:Cl n) (hb:getM t n.al=some b) (hl:(n.A b).ids.length<=80) (hc:QG n t b n1) (hk:k<=190) (hA: ∀t b,getM t n.al=some b->rX N' (n.A b)) (hN:N<=N'):gM (k+1) N' (fb n1):=by
 have ht:=h.act t b hb;have W8:=h.Dg zQ ht;unfold QG VZ at hc;rcases hc with⟨xJ,h0,oB,A3,yL,rfl,_⟩|⟨h0,bx,DE,vp,v2,oB,vs,Up,fY,A3,yL,en,_⟩
 ·have WW:(jl t (n.A b).x.mw (n.A b).ids).fI≠0:=λe=>by
   rw[xQ e] at xJ h0;rcases h.log.iG (QU e hl W8) (h.V6 ht _ _) zQ with q|q
   ·omega
   omega
  have e:=O1 (n:=n) WW;refine h.sub hN (dK _) zQ ⟨rfl,rfl,rfl,rfl,rfl,rfl,by grind,by grind,rfl⟩ h.ok.ds (λt' b' hg=>?_) Ed;have q:=(nO hg).1
  grind
 ·have MO:(jl t (n.A b).x.mw (n.A b).ids).fI=0:=by
   apply dB;intro e;rw[O1 e] at h0;rcases(jl t (n.A b).x.mw (n.A b).ids).xN with q|q|q|q
   ·omega
   all_goals grind
  have jv:=h.V6 ht (n.A b).x.mw (n.A b).ids;rw[xQ MO] at h0;have IE:=((h.log.iG (QU MO hl W8) jv zQ).resolve_left λe=>by omega).2;have hex: ∃n2:bE,n2= { n with c:= { n.c with cm:=DE },bl:=cL t bx n.bl,cl:=n.cl++[bx],C:=λb'=>if b'=bx then⟨jl t (n.A b).x.mw (n.A b).ids,vp,v2,(n.A b).ids,false⟩else n.C b' } :=⟨_,rfl⟩;obtain⟨n2,hn2⟩:=hex;have hR:IC n (jl t (n.A b).x.mw (n.A b).ids) vp n2:=.inr (.inl ⟨rfl,_,bx,DE,v2,rfl,fY,hn2⟩);obtain⟨i1,i2,i3,i4,i5⟩:=Yf h.bl jv (afr h.bl h.ok.id jv) hR h.ok.cw hl;have e2:n2.c.aW=n.c.aW/\n2.cl=n.cl++[bx]/\n2.bl=cL t bx n.bl/\n2.C=λb'=>if b'=bx then⟨jl t (n.A b).x.mw (n.A b).ids,vp,v2,(n.A b).ids,false⟩else n.C b':=by rw[hn2];exact⟨rfl,rfl,rfl,rfl⟩
  have hcn:=h.gG;have QS:=h.aW;have qi:=h.ok.cl;have al6:=h.ok.W5;have wM:(fb n1).abs=(n.c.aW,n.abs.2++[(jl t (n.A b).x.mw (n.A b).ids,false)]):=by
   rw[en,<-i1];unfold bE.abs;rw[e2.1,e2.2.1,e2.2.2.2];rfl
  subst en;refine⟨⟨h.ok.id,λt' b' hg=>hA t' b' (nO hg).1,h.ok.ds,rfl,rfl,rfl,rfl,rfl,?_,?_,by omega,h.ok.pre,?_,?_⟩,?_,?_,?_,?_,λt' b' hg=>?_,?_,?_⟩
  ·show(n.cl++[bx]).length<=_;simp;omega
  ·exact ad Ed zQ
  ·rw[e2.2.1,e2.2.2.2] at i4;exact i4
  ·intro t' b' hg;have q:=(i2 t' b').1 (by rw[e2.2.2.1];exact hg);rw[e2.2.1,e2.2.2.2] at q;exact q
  ·intro t' b';have q:=i2 t' b';rw[e2.2.2.1,e2.2.1,e2.2.2.2] at q;exact q
  ·rw[wM,<-xQ MO] at*;exact IE
  ·show 0<=n.c.gG/\n.c.gG<=((k+1:Nat):Int);omega
  ·show 1<=n.c.aW/\n.c.aW<=((k+1:Nat):Int);omega
  ·obtain⟨q1,q2⟩:=nO hg;have q:=h.act t' b' q1;exact⟨q.co,q.aW,q.sq,by show getM t' (cL t bx n.bl)=none;rw[pd q2];exact q.bl⟩
  ·rw[wM];intro x hx;rcases List.mem_append.1 hx with hx|hx
   ·exact h.abs x hx
   ·rw[av] at hx;subst hx;have:=ht.sq;exact⟨ht.co,by rw[show(jl t (n.A b).x.mw (n.A b).ids).aO.aW=t.aW from rfl,ht.aW];omega,by show t.aW<=n.c.aW;rw[ht.aW];omega,this.1,by show t.sq<=2^40;omega⟩
  ·rw[wM];intro x hx T1;rcases List.mem_append.1 hx with hx|hx
   ·exact h.Bz x hx T1
   ·rw[av] at hx;subst hx;exact ht.sq.2
theorem gM.aqF (h:gM k N n) (oJ:Cl n) (hs:V1 n m n1) (hk:k<=190):gM (k+1) N (fb n1):=by
 rcases hs with⟨iq,rfl,_⟩|hg|⟨b,i,y,iq,lz,pJ,n2,hw,rfl,hc⟩
 ·exact h.sub (au _) (dK _) zQ ⟨rfl,rfl,rfl,rfl,rfl,rfl,rfl,rfl,rfl⟩ h.ok.ds (λt b hg=>⟨⟨b,hg⟩,h.ok.act t b hg⟩) (au _)
 ·exact h.KJ hg (au _) (dK _) zQ
 ·have ha:=h.ok.act _ _ hw.g;have hA: ∀t' b',getM t' n.al=some b'->rX N ((eI n b (wW (n.A b) i m lz pJ)).A b'):=λt' b' hg=>by
   show rX _ (if b'=b then _ else n.A b')
   split
   ·refine⟨ha.q,ha.p,ha.sn,?_,ha.ids,λy hy=>?_,ha.wO,ha.pq⟩
    ·have:=ha.ws;simp[wW];omega
    ·exact ha.Cx y ((List.mem_append.1 hy).elim dN di)
   ·exact h.ok.act t' b' hg
  rcases hc with⟨_,rfl⟩|⟨_,hc⟩
  ·exact h.sub (au _) (dK _) zQ ⟨rfl,rfl,rfl,rfl,rfl,rfl,rfl,rfl,rfl⟩ h.ok.ds (λt b' hg=>⟨⟨b',hg⟩,hA t b' hg⟩) (au _)
  ·have h2:gM k N (fb { eI n b (wW (n.A b) i m lz pJ)with ck:=iq }):=h.sub (au _) (au _) zQ ⟨rfl,rfl,rfl,rfl,rfl,rfl,rfl,rfl,rfl⟩ h.ok.ds (λt b' hg=>⟨⟨b',hg⟩,hA t b' hg⟩) (au _);have e:fb { eI n b (wW (n.A b) i m lz pJ)with ck:=iq } = { eI n b (wW (n.A b) i m lz pJ)with ck:=iq } :=by
    have h1:=h.ok.fb;have:fb { eI n b (wW (n.A b) i m lz pJ)with ck:=iq } = { eI (fb n) b (wW (n.A b) i m lz pJ)with ck:=iq } :=rfl;rw[this,h1]
   rw[e] at h2;refine h2.comm (λt' b' hg=>?_) (b:=b) hw.g ?_ hc hk hA (au _)
   ·show(if b'=b then wW (n.A b) i m lz pJ else n.A b').x.aO=t'
    have:=oJ t' b' hg
    grind [wW]
   ·exact(hA _ _ hw.g).ids
end
variable {en : Bool} {v2 : Value}
section
variable {n : bE}
theorem gM.ajx (h:gM k N n) (hb:getM t n.bl=some b) (he:(n.C b).ended=false):tF n.abs (mi t)=some (n.c.aW,ID t n.abs.2):=by
 obtain⟨h1,h2⟩:=(h.bl t b).1 hb;unfold tF;rw[if_neg (show¬(mi t).kind=8 from(by decide: ¬(10:Int)=8)),if_neg (show¬(mi t).kind=9 from(by decide: ¬(10:Int)=9)),if_pos (show(mi t).kind=10 from rfl),if_pos ?_]
 ·rfl
 ·exact⟨((n.C b).r,(n.C b).ended),List.mem_map.2 ⟨b,h1,rfl⟩,h2,he⟩
theorem gM.ajy (h:gM k N n) (hk:k<=1000) (hb:getM t n.bl=some b):Uh (mi t)/\(mi t).fI=0:=by
 obtain⟨h1,h2⟩:=(h.bl t b).1 hb;have ha:=h.abs _ (List.mem_map.2 ⟨b,h1,rfl⟩);dsimp only at ha;rw[h2] at ha;have hl:=h.aW;have e:n.abs.1=n.c.aW:=rfl;rw[e] at ha;refine amk ?_ ?_
 ·unfold Go.Proofs.YtgfijddlkhkopaaGreat.Dg uI;omega
 ·unfold bL.may;simp_all
theorem Uq {s:lF} (h:A8 s):A8 (s.1,ID t s.2):=λx hx=>by
 obtain⟨y,hy,rfl⟩:=List.mem_map.1 hx;have:=h y hy;split<;>omega
theorem ahR {s:lF} (h:A8 s) (h1:t.eh=1) (h2:1<=t.aW/\t.aW<=s.1) (h3:1<=t.sq/\t.sq<=2^40):A8 (s.1,s.2++[(jl t st ids,false)]):=λx hx=>by
 rcases List.mem_append.1 hx with hx|hx
 ·exact h x hx
 ·rw[av] at hx;subst hx;exact⟨h1,h2.1,h2.2,h3.1,h3.2⟩
theorem ahS (h:Lw n) (hb:getM t n.bl=some b) (he:(n.C b).ended=false):
  (n.cl.map λb'=>(((mH n b (rY (n.C b) i v2 en)).C b').r,((mH n b (rY (n.C b) i v2 en)).C b').ended))=if en then ID t n.abs.2 else n.abs.2:=by
 obtain⟨h1,h2⟩:=(h t b).1 hb;cases en with
 |false=>
  rw[if_neg dQ];refine eu λb' dZ=>?_;unfold mH rY;dsimp only
  grind
 |true=>
  rw[if_pos rfl];unfold ID bE.abs;dsimp only;rw[bU];refine eu λb' dZ=>?_;unfold mH rY;dsimp only;by_cases e:b'=b
  ·grind
  ·rw[if_neg e];have: ¬(n.C b').r.aO=t:=λe'=>by
    have:=(h _ _).2 ⟨dZ,e'⟩
    grind
   simp[this]
theorem abM (h:Lw n): ∀t b',getM t n.bl=some b'↔b'∈n.cl/\((mH n b (rY (n.C b) i v2 en)).C b').r.aO=t:=λt b'=>by
 refine(h t b').trans (and_congr_right λ_=>?_);unfold mH rY;dsimp only
 grind
theorem akg (h: ∀b∈n.cl,(n.C b).waits.length<=80) (hb:b∈n.cl): ∀b'∈n.cl,((mH n b (rY (n.C b) i v2 en)).C b').waits.length<=80:=λb' dZ=>by
 unfold mH rY;dsimp only;split
 ·have:=h b hb;simp;omega
 grind
theorem gM.done (h:gM k N n) (hs:adv n m n1) (hk:k<=190):gM (k+1) N (fb n1):=by
 rcases hs with rfl|⟨b,i,v2,hD,hc⟩
 ·exact h.sub (au _) (dK _) zQ (Calm.refl _) h.ok.ds (λt b hg=>⟨⟨b,hg⟩,h.ok.act t b hg⟩) (au _)
 ·obtain⟨hbc,hbt⟩:=(h.bl _ _).1 hD.g;have hcn:=h.gG;have QS:=h.aW;have mk: ∀{L':LM} {m':DM} {en:Bool},(∀s2,s2=(if en then ID m.aO n.abs.2 else n.abs.2)->wq ⟨L',m'⟩ (k+1) (n.c.aW,s2))->gM (k+1) N (fb { mH n b (rY (n.C b) i v2 en)with L:=L',m:=m' }):=λ{L' m' en} IE=>by
   have e:=ahS (i:=i) (v2:=v2) (en:=en) h.bl hD.g hD.en;have wM:(fb { mH n b (rY (n.C b) i v2 en)with L:=L',m:=m' }).abs=(n.c.aW,if en then ID m.aO n.abs.2 else n.abs.2):=by
    unfold bE.abs;exact congrArg (Prod.mk _) e
   refine⟨⟨h.ok.id,h.ok.act,h.ok.ds,rfl,rfl,rfl,rfl,rfl,ue h.ok.cl,ue h.ok.W5,by omega,h.ok.pre,akg h.ok.cw hbc,λt b' hg=>(abM h.bl t b').1 hg⟩,abM h.bl,by rw[wM];exact IE _ rfl,?_,?_,λt b' hg=>?_,?_,?_⟩
   ·show 0<=n.c.gG/\n.c.gG<=((k+1:Nat):Int);omega
   ·show 1<=n.c.aW/\n.c.aW<=((k+1:Nat):Int);omega
   ·have q:=h.act t b' hg;exact⟨q.co,q.aW,q.sq,q.bl⟩
   ·rw[wM];cases en
    ·exact h.abs
    ·exact Uq (s:=n.abs) h.abs
   ·rw[wM];cases en
    ·exact h.Bz
    ·intro x hx hl;obtain⟨y,hy,rfl⟩:=List.mem_map.1 hx;have:=h.Bz y hy;split at hl<;>(split;exact this hl;exact this hl)
  rcases hc with⟨_,rfl⟩|⟨_,xJ,rfl⟩
  ·exact mk (en:=false) λs2 e=>by rw[e];exact h.log.up (dK _)
  ·obtain⟨cg,ce⟩:=h.ajy zQ hD.g;unfold Lh;rw[xQ ce] at xJ⊢;rcases h.log.iG cg (h.ajx hD.g hD.en) zQ with q|⟨q0,q⟩
   ·exact absurd q.1 xJ
   ·rw[decide_eq_true q0];exact mk (en:=true) λs2 e=>by rw[e];exact q
theorem gM.ask (h:gM k N n) (hs:ady n m n1) (hk:k+1<=1000):gM (k+1) N (fb n1):=by
 rcases hs with⟨_,rfl⟩|⟨_,A3,yL,rfl,_⟩;all_goals exact h.sub (au _) (dK _) hk ⟨rfl,rfl,rfl,rfl,rfl,rfl,rfl,rfl,rfl⟩ h.ok.ds (λt b hg=>⟨⟨b,hg⟩,h.ok.act t b hg⟩) (au _)
theorem gM.up (h:gM k N n) (hk:k<=k') (ah:k'<=1000) (hN:N<=N'):gM k' N' n:=by
 have:=h.sub (n1:=n) hN hk ah (Calm.refl _) h.ok.ds (λt b hg=>⟨⟨b,hg⟩,(h.ok.act t b hg).up hN⟩) (au _)
 rwa [h.ok.fb] at this
theorem gM.step (h:gM k N n) (oJ:Cl n) (hs:wY n m n1) (hk:k<=190):gM (k+1) (N+m.seen.length) (fb n1):=by
 have up: ∀{n1},gM (k+1) N (fb n1)->gM (k+1) (N+m.seen.length) (fb n1):=λh=>h.up (au _) zQ (jV _ _);have same:gM (k+1) (N+m.seen.length) (fb n):=up (h.sub (au _) (dK _) zQ (Calm.refl _) h.ok.ds (λt b hg=>⟨⟨b,hg⟩,h.ok.act t b hg⟩) (au _));rcases hs with⟨_,rfl⟩|⟨_,_,⟨_,hs⟩|⟨_,hs⟩|⟨_,hs⟩|⟨_,hs⟩|⟨_,_,_,_,rfl⟩⟩
 ·omega
 ·exact h.seen oJ hs zQ
 ·exact up (h.aqF oJ hs hk)
 ·exact up (h.done hs hk)
 ·exact up (h.ask hs zQ)
 omega
def adK (n:bE) (m:cO) (s:lF):Prop:=s=n.abs\/(m.kind=4/\ ∃(b i:Nat) (y:cO),DS n m true b i y/\(n.A b).ws.length=1/\s=(n.c.aW,n.abs.2++[(jl m.aO ((n.A b).x.mw.later m.aS) (n.A b).ids,false)]))\/(m.kind=6/\s=(n.c.aW,ID m.aO n.abs.2))
def DnS (k:Nat) (P:lF->Prop) (m:DM):Prop:=m.dn=true/\yr k (λs=>P s/\A8 s) m
theorem DnS.up {m:DM} (h:DnS k P m) (hk:k<=k'):DnS k' P m:=⟨h.1,h.2.imp hk λ_ h=>h⟩
theorem gM.crs (h:gM k N n):yr k (λs=>s=n.abs/\A8 s) n.m:=h.log.crs.imp (au _) λs e=>⟨e,by rw[e];exact h.abs⟩
theorem gM.aov {m':DM} (h:gM k N n) (hs:DW n m m') (hk:k<=190):DnS (k+1) (adK n m) m':=by
 obtain⟨_,_,⟨NL,b,i,y,hw,hl,xJ,rfl⟩|⟨hk6,b,i,hD,hl,xJ,rfl⟩⟩:=hs
 ·have ht:=h.act _ _ hw.g;have ha:=h.ok.act _ _ hw.g;have MO:(jl m.aO ((n.A b).x.mw.later m.aS) (n.A b).ids).fI=0:=by
   apply dB;intro e;rw[O1 e] at xJ;rcases(jl m.aO ((n.A b).x.mw.later m.aS) (n.A b).ids).xN with q|q|q|q
   ·omega
   all_goals grind
  rw[xQ MO] at xJ⊢;have hcn:=h.gG;have hsq:=ht.sq;rcases h.log.iG (QU MO ha.ids (h.Dg zQ ht)) (h.V6 ht _ _) zQ with q|q
  ·refine⟨q.2.1,q.2.2.imp (au _) λs e=>?_⟩;rcases e with e|e
   ·exact⟨.inl e,by rw[e];exact h.abs⟩
   ·exact⟨.inr (.inl ⟨NL,b,i,y,hw,hl,e⟩),by rw[e];exact ahR (s:=n.abs) h.abs ht.co ⟨by rw[ht.aW];exact h.aW.1,by rw[ht.aW];exact sX _⟩ ⟨hsq.1,by omega⟩⟩
  omega
 ·obtain⟨cg,ce⟩:=h.ajy zQ hD.g;rw[xQ ce] at xJ⊢;rcases h.log.iG cg (h.ajx hD.g hD.en) zQ with q|q
  ·refine⟨q.2.1,q.2.2.imp (au _) λs e=>?_⟩;rcases e with e|e
   ·exact⟨.inl e,by rw[e];exact h.abs⟩
   ·exact⟨.inr (.inr ⟨hk6,e⟩),by rw[e];exact Uq (s:=n.abs) h.abs⟩
  omega
theorem gM.EZ {l:List dR} {m:DM} (hb:adI m k s1 x pre sg rs) (ha:A8 s1) (hn:ajt l x s1 db rs.length n) (hds: ∀(i:Int) (r:dR),getM i (l.foldl ib [])=some r->r.id=i) (hk:k+1<=1000):gM (k+1) N n:=by
 have hl:=hb.aW;have hlen:=hb.len;have hc:=hn.cl;have QS:n.c.aW=s1.1+1:=congrArg Prod.fst hn.abs;have hcn:=hn.gG;refine⟨⟨hn.id,λt b hg=>(by rw[hn.al] at hg;cases hg),by rw[hn.ds];omega,hn.ms,hn.vm,hn.va,hn.rm,hn.ra,by omega,by rw[hn.al];grind,hk,hn.pre,hn.cw,λt b hg=>(hn.bl t b).1 hg⟩,hn.bl,?_,by omega,by omega,λt b hg=>(by rw[hn.al] at hg;cases hg),?_,?_⟩
 ·rw[hn.ld,hn.abs];exact hb.up
 ·rw[hn.abs];intro x hx;have:=ha x hx;dsimp only;omega
 ·rw[hn.abs,QS];intro x hx e;have:=ha x hx;omega
end
variable {most : Int}
theorem JL {xs:List fe} (ha:Sl w X 7 a (xs.map fe.l)):
  Ct pg 67 #[a,I most] w X nX DY:=by
 intro w0 hk;replace ha:=ha.mv hk.bY;have kn:=ha.gR;refine IF.1 λhs=>?_;refine gv (λn a b w X=> ∃(i:Nat) (s:Int),a=I i/\b=I s/\n=(xs).length-i/\i<=(xs).length/\ai (bI w0) w0 X w) (xs).length ⟨0,_,rfl,rfl,rfl,aq _,hs⟩ ?_;rintro n a b w X ⟨i,s,rfl,rfl,rfl,hi,hs⟩;repeat' first|refine ak ?_;intros|refine cM ?_ ?_<;>intros|(refine qr ?_;intro wa hk;exact⟨_,rfl⟩)|(refine xR (ke  _ _ _ _ _) hs ?_;intro n1 w X hs)|((with_reducible refine fw ((xs).length-(i+1)) ?_ ?_);omega;exact⟨i+1,_,by simp,rfl,rfl,by omega,hs⟩)|with_reducible apply nK
theorem CY (ha:m.at w X vk vs vw vp vr vc vh vd):
  Ct pg 30 #[m.v vk vs vw vp vr vc vh vd,I most] w X nX DY:=by
 intro w0 hk;obtain⟨h1,h2,h3,h4,h5,h6,h7,h8⟩:=ha.mv hk.bY;have kn:=h6.len;refine JM.1 λhs=>?_;repeat' first|refine ak ?_;intros|(refine xR (ke  _ _ _ _ _) hs ?_;intro n1 w X hs)|(refine xR (vu  qA) hs ?_;intro n1 w X hs)|(refine xR (JL  qA) hs ?_;intro n1 w X hs)|(refine xR (uf  qA) hs ?_;intro n1 w X hs)|with_reducible apply nK
 refine gv (λn a b w X=> ∃(i:Nat) (s:Int),a=I i/\b=I s/\n=(m.bt).length-i/\i<=(m.bt).length/\ai (bI w0) w0 X w) (m.bt).length ⟨0,_,rfl,rfl,rfl,aq _,hs⟩ ?_;rintro n a b w X ⟨i,s,rfl,rfl,rfl,hi,hs⟩;repeat' first|refine ak ?_;intros|refine cM ?_ ?_<;>intros|((with_reducible apply abN);assumption;(try (case hz=>rfl));(case hr=>exact qR);(try (case hz=>omega));(case ht=>kernel_rfl);(case hs=>kernel_rfl);intros)|(refine qr ?_;intro wa hk;exact⟨_,rfl⟩)|(refine xR (ke  _ _ _ _ _) hs ?_;intro n1 w X hs)|(refine xR (A9  (s:=m.state) qA qA) hs ?_;intro n1 w X hs)|(refine xR ((Lz (r:=_))  (Rec.at.mv aQ hs.mv)) hs ?_;intro n1 w X hs)|((with_reducible refine fw ((m.bt).length-(i+1)) ?_ ?_);omega;exact⟨i+1,_,by simp,rfl,rfl,by omega,hs⟩)|with_reducible apply nK
structure lu where
 kind:Int
 gN:Int
 n:Int
 m:cO
 prog:List jD
 cN:List Int
abbrev lu.l (o:lu) (vk vs vw vp vr vc vh vd vo vq:Value):List Value:=[I o.kind,I o.gN,I o.n,I o.m.kind,I o.m.fr,I o.m.to,I o.m.aO.eh,I o.m.aO.aW,I o.m.aO.sq,I o.m.range,I o.m.iD,I o.m.code,
 I o.m.aS.wall,I o.m.aS.dC,I o.m.aS.node,I o.m.prev.wall,I o.m.prev.dC,I o.m.prev.node,B o.m.jF,I o.m.n,I o.m.mx,vk,vs,vw,vp,vr,vc,
 I o.m.state.range.id,I o.m.state.range.iD,.float .f64 o.m.state.range.lo,.float .f64 o.m.state.range.hi,
 I o.m.state.floor.wall,I o.m.state.floor.dC,I o.m.state.floor.node,I o.m.state.closed.wall,I o.m.state.closed.dC,I o.m.state.closed.node,vh,vd,vo,vq]
structure lu.at (w:World) (X:XS) (o:lu) (vk vs vw vp vr vc vh vd vo vq:Value):Prop where
 m:o.m.at w X vk vs vw vp vr vc vh vd
 po:Sl w X 5 vo (o.prog.map jD.l)
 p:Sl w X 1 vq (o.cN.map I1)
def lu.rd (w:World) (X:XS) (l:List Value) (o:lu):Prop:= ∃vk vs vw vp vr vc vh vd vo vq,l=o.l vk vs vw vp vr vc vh vd vo vq/\o.at w X vk vs vw vp vr vc vh vd vo vq
def lu.mv:FZ lu.rd:=λ⟨vk,vs,vw,vp,vr,vc,vh,vd,vo,vq,h,h1⟩ m=>⟨vk,vs,vw,vp,vr,vc,vh,vd,vo,vq,h,⟨h1.m.mv m,h1.po.mv m,h1.p.mv m⟩⟩
def E2 {P:Program} {X0:XS} {N:Value->Prop} {t:TypeId} {v:Value} {xs:List lu} {x:lu} (h:fp w0 X0 41 v lu.rd xs) (hr:xs[i]? =some x)
  (hz:z=i) (ht:P.underlying t=some (.slice (P.elem t))) (hs:(P.info? (P.elem t)).map (·.size)=some 41)
  (n: ∀b o vk vs vw vp vr vc vh vd vo vq,aK.one vk=true->aK.one vs=true->aK.one vw=true->aK.one vp=true->aK.one vr=true->aK.one vc=true->aK.one vh=true->aK.one vd=true->aK.one vo=true->aK.one vq=true->Sl w0 X0 5 vo (x.prog.map jD.l)->
   Cells w0 X0 b o (x.l vk vs vw vp vr vc vh vd vo vq)->x.at w0 X0 vk vs vw vp vr vc vh vd vo vq->N (ptr b o)):aV P X w (kY t 41 v (.int .i64 z)) N:=
 FH h hr hz ht hs λb o _ hc ⟨vk,vs,vw,vp,vr,vc,vh,vd,vo,vq,hl,h1⟩=>n b o vk vs vw vp vr vc vh vd vo vq h1.m.keys.one h1.m.seen.one h1.m.writes.one h1.m.parts.one h1.m.ranges.one h1.m.bt.one h1.m.iz.one h1.m.gX.one h1.po.one h1.p.one h1.po (hl▸hc) h1
abbrev rg1:dR:=⟨1,0,0,4602678819172646912⟩
abbrev rg2:dR:=⟨2,0,4602678819172646912,4607182418800017408⟩
abbrev LA:List dR:=[rg1,rg2]
abbrev kEx:BA:=⟨#[107]⟩
abbrev BF:List jD:=[⟨4,⟨#[]⟩,⟨1,4607182418800017408,⟨#[]⟩⟩⟩,⟨2,kEx,.zero⟩]
abbrev HK:pc:=[(1,rg1),(2,rg2)]
theorem Sv:A7 LA=0:=by kernel_rfl
theorem QV:LA.foldl ib []=HK:=by kernel_rfl
theorem aml {i:Int} {r:dR} (h:getM i HK=some r):r.id=i:=by
 have hm:=gA h;simp only[HK,ic,Prod.mk.injEq,dq,or_false] at hm;rcases hm with⟨rfl,rfl⟩|⟨rfl,rfl⟩<;>rfl
abbrev Ur:Value:=.slice none 0 0
theorem Us (k:BA):fG [k]=[k]:=by
 simp[fG,bl]
theorem afx:fG []=[]:=by simp[fG]
theorem afy (k:Int):mW [k]=[k]:=by simp[mW]
theorem E3:fq 1 1 BF=[]:=by grind [kK,fq,afx]
theorem afz:fq 2 3 BF=[kEx]:=by
 have:BF.foldl (kK 2 3) []=[(kEx,1)]:=by kernel_rfl
 grind [fq,Us]
theorem abO:na BF=0:=by
 have:yQ BF 0=0:=by kernel_rfl
 unfold na;rw[if_neg dQ,if_neg zQ,E3,afz,if_neg dQ]
theorem amm:runM BF [] []= .ok ([],[(kEx,⟨1,4607182418800017408,⟨#[]⟩⟩)]):=by rfl
abbrev wEx:F5:=[(kEx,⟨1,4607182418800017408,⟨#[]⟩⟩)]
theorem Yq:nv HK kEx=some rg1:=by kernel_rfl
theorem afA:E4 wEx=[⟨kEx,⟨1,4607182418800017408,⟨#[]⟩⟩⟩]:=by
 unfold E4;rw[show(wEx.map (·.1))=[kEx] from rfl,Us];rfl
theorem akh:tu BF ⟨0,0,21⟩ 5 HK=0:=by
 unfold tu;rw[abO,E3];rfl
abbrev Yr:cx:=⟨7,0,1⟩
abbrev LB:bL:=⟨1,1,1⟩
theorem afB:(jl LB Yr [1]).fI=0:=by kernel_rfl
def HL:cO:=⟨4,1,21,LB,1,0,0,Yr,.zero,false,0,0,[],[],[],[],[],[],.zero⟩
theorem aki:HL.err=0:=by rfl
theorem amn {st:State} (h1:st.iz=[]) (h2:st.gX=[]):st.small:=⟨by rw[h1];exact λ_ h=>absurd h sQ,by rw[h2];exact λ_ h=>absurd h sQ,by rw[h1];exact λ_ h=>absurd h sQ,by rw[h2];exact λ_ h=>absurd h sQ⟩
theorem afC:HL.small:=⟨by decide,by decide,by simp[HL],by simp[HL],amn rfl rfl⟩
theorem ahT:HL.lens<=2^62:=by decide
theorem ahU:cx.later .zero Yr=Yr:=by rfl
theorem LC:Ct pg 37 #[] w X nX λv wa w'=>Own w' (made wa w') wa.heap.size 48 4 v (LA.map dR.l):=by
 intro w0 hk;refine O2.1 λhs=>?_;repeat' refine ak ?_;intros
 refine V7 (rows:=LA.map dR.l) (rg1.l++rg2.l).toArray dR.zero.v hs.has (bytes:=32) kQ kQ zQ zQ kQ sQ rfl rfl λv2 w2 X2 bp ju=>?_;exact bM (hs.trans bp) λEI aH=>(ju.kp aH).tight
end Go.Proofs.YtgfijddlkhkopaaGreat