/- Part 13 of the proof. -/
import Derived.Shelf.Abstract
import Derived.Test.YtgfijddlkhkopaaGreatH12
set_option linter.all false
open Nat renaming le_refl → au, le_succ → dD, le_trans → ad, zero_le → ak, le_of_ble_eq_true → eu, le_succ_of_le → uJ, le_add_right → kc
open List renaming length_append → aa, mem_singleton → ax, length_map → af, length_nil → bL, map_append → aC, map_congr_left → eB, map_cons → bh, length_cons → aJ, mem_of_getElem? → av, append_assoc → ao, length → bB, map_map → cd, map_nil → lx, mem_cons → il, not_mem_nil → dJ, take_add_one → bW, mem_cons_of_mem → bG, take_of_length_le → az, take_append_drop → fy, flatten_cons → dd, getElem?_cons_succ → iV, sum_append → B0, dropLast_concat → jL, mem_of_mem_take → dK, mem_of_mem_drop → di
open Option.some renaming inj → cA, injEq → aj
open Classical renaming byContradiction → dz
open Go.World renaming cell? → fw, frozen? → zi, putObj_heap_same → kn, putObj_heap_other → fC
open Int renaming le_refl → tu
open Bool renaming and_eq_true → aA
open Go.Obj.cells renaming injEq → B1
namespace Go.Proofs.YtgfijddlkhkopaaGreat
open Go.Proofs.Tryz renaming prog → pg
open Go.aK
set_option maxRecDepth 100000
set_option maxHeartbeats 4000000
attribute [local irreducible] un jn jh ji ld1 jt st1 nW mP pN sR qj JG ET gT rY aY nU nV eW eV eU eC eF gE nB fin jl bC dF vS N9 JH JI HP JJ JK Oa Ob JL Oc Gi Gj JM JN JO Od Oe JP
variable {z : Int} {xs : List Int} {a : Value} {X : XS} {w : World}
theorem aa5 (ha:Sl w X 1 a (xs.map I1)):Ct pg 107 #[a,I z] w X nX λv _ _=>v=I (idxOf (λy=>decide (y=z)) xs):=by
 intro w0 hk;replace ha:=ha.mv hk.cE;have lh:=ha.gV;refine DK.1 λhs=>?_;repeat' refine aq ?_;intros
 refine fY (λn a w X=> ∃i:Nat,a=I (i:Nat)/\n=(xs).length-i/\i<=(xs).length/\ai (bP w0) w0 X w/\(∀(j:Nat) x,j<i->xs[j]? =some x->decide (x=z)=false)) (xs).length ⟨0,rfl,rfl,ak _,hs,by simp⟩ ?_;rintro n a w X ⟨i,rfl,rfl,hi,hs,hw⟩;rcases dB (xs) i with⟨cI,x,hx,hd⟩|⟨dC,hd⟩
 ·repeat' first|refine aI ?_;intros|refine dg ?_ ?_<;>intros|(refine qr ?_;intro wa hk;(subst_vars;rw[Cn hw hx sQ]))|((with_reducible refine ey ((xs).length-(i+1)) ?_ ?_);omega;exact⟨i+1,by simp,rfl,by omega,hs,λj y hj hy=>by rcases Nat.lt_succ_iff_lt_or_eq.1 hj with h|h;exact hw j y h hy;subst h;rw[hx] at hy;cases hy;simp;intro e;simp_all⟩)
 ·repeat' first|refine aI ?_;intros|(refine qr ?_;intro wa hk;(rw[yI λj x hj hx=>hw j x zQ hx]))
def mG (t:bX):Rec:=⟨10,t,.zero,.zero,false,0,0,[],[],[],[],.zero⟩
theorem Ra (t:bX):gq (mG t)=encI 10++oq t:=by simp[gq,mG]
def nI (n:br) (b:Nat) (d:zh):br:= { n with C:=λb'=>if b'=b then d else n.C b' }
def sJ (d:zh) (i:Nat) (v2:Value) (en:Bool):zh:= { d with v2:=v2,waits:=d.waits.take i++d.waits.drop (i+1),ended:=en }
structure adQ (n:br) (m:cJ) (b i:Nat):Prop where
 g:getM m.aG n.bl=some b
 en:(n.C b).ended=false
 gL:(n.C b).waits[i]? =some m.range
def adR (n:br) (m:cJ) (n':br):Prop:=
 n'=n\/ ∃b i v2,adQ n m b i/\(((n.C b).waits.length≠1/\n'=nI n b (sJ (n.C b) i v2 false))\/
  ((n.C b).waits.length=1/\(jG n (mG m.aG)).2.2≠12/\n'=nI (LC n (mG m.aG)) b (sJ (n.C b) i v2 (decide ((jG n (mG m.aG)).2.2=0)))))
def adS (n:br) (m:cJ) (m':DM):Prop:= ∃b i,adQ n m b i/\(n.C b).waits.length=1/\M8 n (mG m.aG) m'
structure adT (n:br) (m:cJ):Prop where
 co:m.aG.dW=n.c.id
 al:getM m.aG n.al=none
 aR:m.aG.aR<=n.c.aR
 sq:m.aG.aR=n.c.aR->m.aG.sq<=n.c.fZ
def amd (m:cJ) (no:Int) (cm:Option cn):cJ:= { Cg with kind:=5,fr:=no,to:=m.fr,aG:=m.aG,range:=m.range,jM:=cm.isSome,aU:=cm.getD .zero }
def adU (n:br) (m:cJ) (n':br):Prop:=(¬adT n m/\n'=n)\/(adT n m/\Told n [amd m (20+n.c.id) ((getM m.aG n.bl).map λb=>(n.C b).r.aU)] n')
variable {w' w0 wa : World} {X' : XS} {own aM bY : Nat -> Nat} {n' : br} {M N b i : Nat} {d : zh} {sg : dV} {pre : List dV} {vc vd vh vk vp vr vs vw : Value} {m : cJ}
section
variable {n : br}
theorem LJ {n:br} :(nI n b d).C b=d:=if_pos rfl
theorem Us {n:br} {e:zh} :nI (nI n b d) b e=nI n b e:=by
 unfold nI
 congr 1
 funext b'
 by_cases h:b'=b<;>simp[h]
theorem Wh {Q:Nat->Prop} (h: ∀i,Q (tx b i)-> ∀w K A,(JY b (n.C b) i).p w K A->(JY b d i).p w K A:=by intro i hq w K A h;rcases i with _|_|_|_|_|_|_|_|i<;>first|exact h|exact absurd rfl hq.1|exact absurd rfl hq.2.1|exact absurd rfl hq.2.2|exact absurd rfl hq): ∀c,Q c-> ∀w K A,(ea n c).p w K A->(ea (nI n b d) c).p w K A:=
 (oe (aqj h): ∀c,Q c-> ∀w K A,(ea n c).p w K A->(ea (nI n b d) c).p w K A)
theorem M9 {K A:XS} (hi:i=4\/i=5\/i=6) (h:(JY b d i).p w K A):(ea (nI n b d) (tx b i)).p w K A:=by
 rw[wu _ _ _ zQ];rcases hi with rfl|rfl|rfl<;>(simp only[zC,Di,LJ];exact λ_=>h)
theorem Yk (h:j9 w own n) (hX:tn own X) (ic:pj ⟨n.L,n.m⟩ pre sg) (hk:tq N M n):
  Fj pg 57 #[ptr n.nb 0,m.v vk vs vw vp vr vc vh vd] w X (gH own) (λ_ wa w'=>NQ ea own wa w' λ_ n'=>adR n m n') (λch wa w'=>ch=Bn/\DQ own n.nb n.db wa w' (adS n m)):=by
 intro w0 iy;have s:=St.init h hX iy;clear h hX iy;have hr:=s.v.1;have hs:=s.rf;refine LK.1 λ_=>?_;repeat' refine aq ?_;intros
 refine nr (kt:=34) (et:=124) (kv:=λk:bX=>k.v) (k:=m.aG) (.pointer none) (s.Aa 6:) tf kQ kQ (λv b kV rX=>?_) (λhn=>?_);case refine_2=>
  repeat' refine aq ?_;intros
  exact s.yf λ_ _=>.inl rfl
 simp only[zz] at rX;subst rX;obtain⟨hb,Ui⟩:=hk.byT _ _ kV;obtain⟨hc,o2,o1,HQ⟩:=s.vc hb;have hw8:=HQ.gV;by_cases BQ:(n.C b).ended=true
 ·rw[BQ] at hc;repeat' refine aq ?_;intros
  exact s.yf λ_ _=>.inl rfl
 replace BQ:(n.C b).ended=false:=by simpa using BQ
 rw[BQ] at hc;repeat' refine aq ?_;intros
 refine ff (aa5 (z:=m.range) HQ) kQ hs.has λw1 X1 aB=>?_;have s1:=s.since (hs.trans aB);clear hs aB hc HQ s hr;have hs:=s1.rf;obtain⟨hc,-⟩:=s1.vc hb;rw[BQ] at hc;rcases Hg (p:=λy:Int=>decide (y=m.range)) (l:=(n.C b).waits)with⟨e,_⟩|⟨i,y,hy,hyp,e⟩
 ·rw[e];repeat' refine aI ?_;intros
  exact s1.yf λ_ _=>.inl rfl
 rw[e];obtain rfl:y=m.range:=by simpa using hyp
 have hD:adQ n m b i:=⟨kV,BQ,hy⟩;have lU:i<(n.C b).waits.length:=(List.getElem?_eq_some_iff.1 hy).1;have iq:=s1.h.BZ hb;rw[BQ] at iq;repeat' refine aI ?_;intros
 refine s1.ahF (tx b 4) (tx b 5) 0 iq.1 iq.2.1 (aaT (F:=X1) (iq.2.1.mono (s1.sub _ iz.1)) (λ_ h=>h) (by rw[af];exact lU) λr hr u hu=>by obtain⟨x,_,rfl⟩:=List.mem_map.1 hr;rw[ax] at hu;subst hu;rfl) (λv=>ea (nI n b (sJ (n.C b) i v false)))
  (λ_ _ _ _ h=>M9 dQ h) (λ_ _ _ _ h=>M9 dQ (by rw[<-List.map_take,<-List.map_drop,<-aC] at h;exact h)) (λ_ _ _ _ _ h=>h) (λv=>Wh) (λv w2 X2 lZ s2 m2=>?_) (wq:=by unfold tx;omega)
 clear hs hc iq s1;obtain⟨n3,sT⟩: ∃n3:br,n3=nI n b (sJ (n.C b) i v false):=⟨_,rfl⟩;have e3:n3.C b=sJ (n.C b) i v false:=by rw[sT];exact LJ
 have f3:n3.nb=n.nb/\n3.db=n.db/\n3.L=n.L/\n3.m=n.m/\n3.cl=n.cl:=by rw[sT];exact⟨rfl,rfl,rfl,rfl,rfl⟩
 rw[<-sT] at s2;have wo:((n.C b).waits.take i++(n.C b).waits.drop (i+1)).length=(n.C b).waits.length-1:=by simp;omega
 have rW:b∈n3.cl:=by rw[f3.2.2.2.2];exact hb
 have hs:=s2.rf;obtain⟨hc,o2,o1,HQ⟩:=s2.vc rW;rw[e3] at hc o2 o1 HQ;have asB:Sl w2 X2 1 v (((n.C b).waits.take i++(n.C b).waits.drop (i+1)).map I1):=HQ;by_cases h1:(n.C b).waits.length=1;case neg=>
  repeat' first|refine aI ?_;intros|with_reducible apply cK|(refine adV undef rfl ?_)
  exact s2.yf λ_ _=>.inr ⟨b,i,_,hD,.inl ⟨h1,sT⟩⟩
 rw[<-f3.1,<-f3.2.1];have eK:jG n3 (mG m.aG)=jG n (mG m.aG):=by unfold jG;rw[f3.2.2.1,f3.2.2.2.1]
 repeat' first|refine aI ?_;intros|with_reducible apply cK
 refine s2.Gw (Ye:=adS n m) (Fl (r:=mG m.aG) s2.h s2.x (by rw[f3.2.2.1,f3.2.2.2.1];exact ic) (ab2 rfl rfl rfl rfl rfl) (Ej rfl rfl rfl) (by rw[Ra];have:=fD 10;have:=Dl m.aG;simp only[aa];omega)) kQ (λv4 w4 X4 l7 n4 s4 ⟨k1,k2,k3⟩ m4=>?_) λm' KZ=>⟨b,i,hD,h1,by unfold M8 at KZ⊢;rwa [eK] at KZ⟩;obtain⟨z,hz⟩: ∃z,z=(jG n (mG m.aG)).2.2:=⟨_,rfl⟩;rw[eK,<-hz] at k1 k2;subst k2;have yS:b∈n4.cl:=by rw[k3];exact rW
 have e4:n4.C b=sJ (n.C b) i v false:=by rw[k3];exact e3
 have ek:n4=nI (LC n (mG m.aG)) b (sJ (n.C b) i v false):=by rw[k3];unfold LC;rw[eK,sT];rfl
 clear hs hc;have hs:=s4.rf;obtain⟨hc,-⟩:=s4.vc yS;rw[e4] at hc;by_cases K3:z=0
 ·repeat' refine aI ?_;intros
  refine s4.st (o:=30) (tx b 4) (s4.h.BZ yS).1 (ea (nI n4 b (sJ (n.C b) i v true))) zQ kQ sQ rfl (λ_ _ _ h=>M9 dQ (by rw[e4] at h;exact h)) (Wh (by rw[e4];intro i hq w K A h;rcases i with _|_|_|_|_|_|_|_|i<;>first|exact h|exact absurd rfl hq)) (λw5 X5 mY s5 m5=>?_) iz.1 iz.2;clear hs
  skip
  exact s5.yf λ_ _=>.inr ⟨b,i,v,hD,.inr ⟨h1,by rw[<-hz];exact k1,by rw[ek,Us,<-hz,K3];rfl⟩⟩
 ·repeat' refine aI ?_;intros
  exact s4.yf λ_ _=>.inr ⟨b,i,v,hD,.inr ⟨h1,by rw[<-hz];exact k1,by rw[ek,<-hz,decide_eq_false zQ]⟩⟩
theorem Vp (h:j9 w own n) (hX:tn own X) (hk:tq N M n):
  Ct pg 58 #[ptr n.nb 0,m.v vk vs vw vp vr vc vh vd] w X (gH own) λ_ wa w'=>NQ ea own wa w' λ_ n'=>adU n m n':=by
 intro w0 iy;have s:=St.init h hX iy;have hi:1<=n.c.id/\n.c.id<=2:=by rw[hk.id];decide
 clear h hX iy;have hr:=s.v.1;have hs:=s.rf;refine Kk.1 λ_=>?_;have uC: ¬adT n m->aK.fin (vy (gH own) w0 λv w'=>NQ ea own w0 w' λ_ n'=>adU n m n') (bP w0) w0 (.tuple #[]):=λhA=>s.fin λ_ _=>.inl ⟨hA,rfl⟩;by_cases hc:m.aG.dW=n.c.id;case neg=>
  repeat' refine aI ?_;intros
  exact uC λh=>hc h.co
 repeat' refine aI ?_;intros
 refine nr (kt:=34) (et:=116) (kv:=λk:bX=>k.v) (k:=m.aG) (.pointer none) (s.Aa 5:) tf kQ kQ (λv a kV rX=>?_) (λhn=>?_)
 ·simp only[zz] at rX;subst rX;repeat' refine aq ?_;intros
  all_goals exact uC λh=>by rw[h.al] at kV;cases kV
 by_cases hA:adT n m;case neg=>
  have h3:n.c.aR<m.aG.aR\/(m.aG.aR=n.c.aR/\n.c.fZ<m.aG.sq):=by
   by_cases h1:n.c.aR<m.aG.aR
   ·exact .inl h1
   ·exact .inr (dz λh2=>hA ⟨hc,hn,by omega,λe=>by omega⟩)
  repeat' first|refine aI ?_;intros|refine dg ?_ ?_<;>intros
  all_goals exact uC hA
 have yV:=hA.aR;have wo:=hA.sq;repeat' first|refine aI ?_;intros|refine dg ?_ ?_<;>intros
 all_goals
  refine ib (Q:=λK=> ∀cm:Option cn,cm=((getM m.aG n.bl).map λb=>(n.C b).r.aU)->K (.agg (({ Cg with kind:=5,aG:=m.aG,range:=m.range,jM:=cm.isSome,aU:=cm.getD .zero } :cJ).l aX aX aX aX aX aX aX aX).toArray)) (λcm iq=>?_) (λK hK=>?_)
  ·refine ff (Bo hr (λ_ h=>h) hi) kQ hs.has λw1 X1 aB=>?_;have s1:=s.since aB;clear hs hr;have hs:=s1.rf;have hr:=s1.v.1;repeat' first|refine aq ?_;intros|(refine q1e hs ?_;intro _ _ _ w X hs ho)
   have s2:=s1.since hs;have jE:=fu.ahZ ⟨_,_,_,_,_,_,_,_,rfl,(SH:(amd m (20+n.c.id) cm).at w (bZ own 4) aX aX aX aX aX aX aX aX)⟩;refine s2.ap2 1 8 11 (s2.get 1) (s2.get 8) ho.sl jE.Xz (by rw[hk.rm];simp) (λv=>ea { n with vm:=v,rm:=_,ms:=_ }) (λ_ _ _ _ h=>h) (λ_ _ _ _ h=>h) (λ_ _ _ _ mv h=>fu.app h (jE.mv mv)) (λv'=>oe) λv' w' X' aM s' m'=>?_;clear hs hr
   skip
   exact s'.fin λ_ _=>.inr ⟨hA,_,_,by rw[iq],by simp⟩
  ·repeat' refine aq ?_;intros
   refine nr (kt:=34) (et:=124) (kv:=λk:bX=>k.v) (k:=m.aG) (.pointer none) (s.Aa 6:) tf kQ kQ (λv b kV rX=>?_) (λhn2=>?_)
   ·simp only[zz] at rX;subst rX;obtain⟨hb,_⟩:=hk.byT _ _ kV;obtain⟨hc,o2,o1,HQ⟩:=s.vc hb;repeat' refine aq ?_;intros
    exact hK (some (n.C b).r.aU) (by rw[kV];rfl)
   ·repeat' refine aq ?_;intros
    exact hK none (by rw[hn2];rfl)
end
section
variable {nb : Nat} {x0 x1 x2 x3 x4 x5 x6 x7 x8 x9 vm va : Value}
theorem SI (h:aH w X nb [x0,x1,x2,x3,x4,x5,x6,x7,x8,x9,vm,va] nT):Ct pg 52 #[ptr nb 0,Fi] w X (· =nb) λv _ w'=>v= .tuple #[.agg #[aX,aX],I 12]/\aH w' (· =nb) nb [x0,x1,x2,x3,x4,x5,x6,x7,x8,x9,aX,aX] nT:=by
 intro w0 hk;have Gg:=h.mv hk.cE;have LL:Ft w0 (λk=>k=nb) w0 (bP w0) (λk=>k=nb):=Ft.init λk e=>by subst e;exact Gg.1
 have hs:=ai.init w0;refine IT.1 λ_=>?_;repeat' first|with_reducible apply cK|(with_reducible refine akn ?_ ?_);(· kernel_rfl)|(with_reducible apply Wi);rfl|with_reducible apply Yl|with_reducible apply afJ|with_reducible apply ab3|with_reducible apply SJ|((with_reducible apply Ym))
 refine dM.2 ⟨rfl,dM.2 ⟨rfl,?_⟩⟩;repeat' first|with_reducible apply Yl|with_reducible apply SJ
 repeat' refine aq ?_;intros
 rename_i o2 kF _;obtain rfl:o2=10:=by omega
 refine Gn Gg rfl kQ sQ rfl rfl LL.s.has λw2 X2 c2 jJ=>?_;replace jJ:aH w2 X2 nb [x0,x1,x2,x3,x4,x5,x6,x7,x8,x9,aX,aX] nT:=jJ;have da:Ft w0 (λk=>k=nb) w2 X2 (λk=>k=nb):=LL.dT c2 (λk hk=>hk) λk hk=>.inl hk;clear hs;repeat' refine aq ?_;intros
 exact da.fin λwa aL=>⟨rfl,rfl,(aL.block nb jJ.1).trans jJ.2⟩
end
variable {ty : TypeId}
theorem IU {o:Nat} {cs:Array Value} (v:Value) (hb:w.heap[b]? =some (.cells cs ty (0,0))) (k:Nat):(w.setCell ⟨b,o,none⟩ v).heap[k]? =if k=b then some (.cells (cs.setIfInBounds o v) ty (0,0))else w.heap[k]? :=by
 unfold World.setCell;simp only[Array.getElem?_modify]
 grind
theorem adW:Tryz.f25.results= #[.cell 6 32,.cell 7 37]:=by kernel_rfl
variable {R : Ending -> World -> Prop}
theorem Yn {RP:List PanicEntry->World->Prop} {cv:List (Option Value)} {nb:Nat} (hcv:cv[0]? =some (some (ptr nb 0)))
  (hR: ∀ch w,RP ch w->ch=Bn/\ ∃x0 x1 x2 x3 x4 x5 x6 x7 x8 x9 vm va,aH w (· =nb) nb [x0,x1,x2,x3,x4,x5,x6,x7,x8,x9,vm,va] nT/\ ∀w2,w2.os=w.os->w2.tape=w.tape->w2.output=w.output->w.heap.size<=w2.heap.size->(∀k,k<w.heap.size->k≠nb->w2.heap[k]? =w.heap[k]?)->
   aH w2 (· =nb) nb [x0,x1,x2,x3,x4,x5,x6,x7,x8,x9,aX,aX] nT->R (.returned (.tuple #[.agg #[aX,aX],I 12])) w2):
  Rb pg Dm Tryz.f25 R 51 [3,6,7] cv RP:=by
 intro ks Fo ch w uF lE qf hh hv gh hRP;obtain⟨k0,k1,k2,rfl⟩: ∃a b c,ks=[a,b,c]:=by
  match ks,uF with
  |[a,b,c],_=>exact⟨a,b,c,rfl⟩
 obtain⟨c0,c1,c2,rfl⟩: ∃a b c,Fo=[a,b,c]:=by
  match Fo,lE with
  |[a,b,c],_=>exact⟨a,b,c,rfl⟩
 obtain⟨ty0,g0⟩:=hh 0 k0 c0 rfl rfl;obtain⟨Ut,g1⟩:=hh 1 k1 c1 rfl rfl;obtain⟨NS,g2⟩:=hh 2 k2 c2 rfl rfl;have e0:=hv 0 (ptr nb 0) c0 hcv rfl;have s1:c1.size=2:=gh 1 6 2 c1 rfl kQ rfl;have s2:c2.size=1:=gh 2 7 1 c2 rfl kQ rfl;subst e0;obtain⟨rfl,x0,x1,x2,x3,x4,x5,x6,x7,x8,x9,vm,va,bt,_⟩:=hR _ _ (hRP w (aK.Outside.refl _ _));refine callsD_of_wpS Tryz.func51 rfl λc₀ cs hu=>?_;rw[Tryz.ntmps51];simp only[bh,lx,List.size_toArray,aJ,bL];apply wpS_seq;apply wpS_region;simp[wpOpsS,go_sem,recoverD,hu,Exit.thenS];have ht:(#[eI k0 0,eI k1 0,eI k2 0]++((Array.replicate 10 undef).setIfInBounds 1 Fi).setIfInBounds 0 Fi)= #[eI k0 0,eI k1 0,eI k2 0,Fi,Fi,undef,undef,undef,undef,undef,undef,undef,undef]:=rfl;rw[ht];apply wpS_seq;apply wpS_region;simp[wpOpsS,go_sem,Exit.thenS];refine wpS_cond (t:=true) (by rfl) ?_;simp only[if_true];apply wpS_region;have xd:w.cell? ⟨k0,0,none⟩=some (ptr nb 0):=by simp[fw,g0]
 simp[wpOpsS,go_sem,eI,xd];refine(SI (X:=(· =nb)) (bt.mono λ_ h=>h) w (Kp.refl _ _)).mono ?_;rintro _ w2 ⟨v,rfl,wD,rfl,jJ⟩;have n1:k1≠nb:=λe=>by
  rw[e,bt.2] at g1;simp only[aj,B1] at g1;rw[<-g1.1] at s1;simp at s1
 have n2:k2≠nb:=λe=>by
  rw[e,bt.2] at g2;simp only[aj,B1] at g2;rw[<-g2.1] at s2;simp at s2
 have l1:=(Array.getElem?_eq_some_iff.1 g1).1;have l2:=(Array.getElem?_eq_some_iff.1 g2).1;have g1':w2.heap[k1]? =_:=(wD.block k1 l1 n1).trans g1;have g2':w2.heap[k2]? =_:=(wD.block k2 l2 n2).trans g2;obtain⟨a1,b1,rfl⟩: ∃a b,c1= #[a,b]:=by
  match c1,s1 with
  |⟨[a,b]⟩,_=>exact⟨a,b,rfl⟩
 obtain⟨a2,rfl⟩: ∃x,c2= #[x]:=by
  match c2,s2 with
  |⟨[x]⟩,_=>exact⟨x,rfl⟩
 have aqk:w2.cell? ⟨k1,0,none⟩=some a1:=by simp[fw,g1']
 have aql:w2.frozen? ⟨k1,0,none⟩=false:=by simp[zi,g1']
 have r3: ∀k,(w2.setCell ⟨k1,0,none⟩ aX).heap[k]? =if k=k1 then some (.cells #[aX,b1] Ut (0,0))else w2.heap[k]? :=λk=>by rw[IU _ g1'];rfl
 simp only[List.nodup_cons,il,dJ,or_false,not_or] at qf;generalize wE:w2.setCell ⟨k1,0,none⟩ aX=w3 at r3;have g13:w3.heap[k1]? =some (.cells #[aX,b1] Ut (0,0)):=by rw[r3,if_pos rfl]
 have aqm:w3.cell? ⟨k1,1,none⟩=some b1:=by simp[fw,g13]
 have aqn:w3.frozen? ⟨k1,1,none⟩=false:=by simp[zi,g13]
 have r4: ∀k,(w3.setCell ⟨k1,1,none⟩ aX).heap[k]? =if k=k1 then some (.cells #[aX,aX] Ut (0,0))else w3.heap[k]? :=λk=>by rw[IU _ g13];rfl
 generalize Gh:w3.setCell ⟨k1,1,none⟩ aX=w4 at r4;have g24:w4.heap[k2]? =some (.cells #[a2] NS (0,0)):=by rw[r4,if_neg (λe=>qf.2.1 e.symm),r3,if_neg (λe=>qf.2.1 e.symm)];exact g2'
 have qJ:w4.cell? ⟨k2,0,none⟩=some a2:=by simp[fw,g24]
 have Xd:w4.frozen? ⟨k2,0,none⟩=false:=by simp[zi,g24]
 simp[go_sem,storeCells,aqk,aql,wE,aqm,aqn,Gh,qJ,Xd,Addr.add];have r5: ∀k,(w4.setCell ⟨k2,0,none⟩ (.int .i64 12)).heap[k]? =if k=k2 then some (.cells #[I 12] NS (0,0))else w4.heap[k]? :=λk=>by rw[IU _ g24];rfl
 generalize hw5:w4.setCell ⟨k2,0,none⟩ (.int .i64 12)=w5 at r5;have g15:w5.heap[k1]? =some (.cells #[aX,aX] Ut (0,0)):=by rw[r5,if_neg qf.2.1,r4,if_pos rfl]
 have g25:w5.heap[k2]? =some (.cells #[I 12] NS (0,0)):=by rw[r5,if_pos rfl]
 have Fp: ∀k,k≠k1->k≠k2->w5.heap[k]? =w2.heap[k]? :=λk h1 h2=>by rw[r5,if_neg h2,r4,if_neg h1,r3,if_neg h1]
 have xl:w5.os=w.os/\w5.tape=w.tape/\w5.output=w.output/\w5.heap.size=w2.heap.size:=by
  rw[<-hw5,<-Gh,<-wE];exact⟨wD.os,wD.tape,wD.output,by simp[World.setCell]⟩
 have hnl:nb<w.heap.size:=bt.lt;have fQ:aK.Outside [k0,k1,k2] w (w5.putObj nb (.cells [x0,x1,x2,x3,x4,x5,x6,x7,x8,x9,vm,va].toArray nT)):=by
  refine⟨xl.1,xl.2.1,xl.2.2.1,?_,λk hl hk=>?_⟩
  ·have:=wD.size;have:=xl.2.2.2;simp[World.putObj];omega
  ·simp only[il,dJ,or_false,not_or] at hk;by_cases e:k=nb
   ·subst e;rw[kn (by have:=wD.size;omega)];exact bt.2.symm
   ·rw[fC (λh=>e h),Fp k hk.2.1 hk.2.2];exact wD.block k hl e
 obtain⟨_,y0,y1,y2,y3,y4,y5,y6,y7,y8,y9,wm,wv,Ed,hR2⟩:=hR _ _ (hRP _ fQ);have ajJ:=Ed.2;rw[kn (by have:=wD.size;omega)] at ajJ;have hl:=congrArg Array.toList (Obj.cells.inj (cA ajJ)).1;simp only[List.cons.injEq,and_true] at hl;obtain⟨rfl,rfl,rfl,rfl,rfl,rfl,rfl,rfl,rfl,rfl,rfl,rfl⟩:=hl;have hRw:R (.returned (.tuple #[.agg #[aX,aX],I 12])) w5:=hR2 w5 rfl rfl rfl (by simp[World.putObj]) (λk _ hk=>(fC hk).symm) ⟨rfl,(Fp nb n1.symm n2.symm).trans jJ.2⟩;have aqo:w5.cell? ⟨k2,0,none⟩=some (I 12):=by simp[fw,g25]
 refine⟨rfl,.panicking [{ v:=Fi,recovered:=true }],rfl,.tuple #[],?_,⟨_,rfl⟩,rfl,_,hRw,λtmps ht=>?_⟩
 ·simp[results,Tryz.results51]
 ·unfold results;rw[adW];obtain⟨fs,hu⟩: ∃fs,pg.underlying 32=some (.struct fs):=⟨_,rfl⟩;have q1:(loadVar 32 ⟨k1,0,none⟩).run pg w5= .ok (.agg #[aX,aX]) w5:=run_loadVar_row w5 k1 _ _ _ _ (.struct fs) g15 hu rfl kQ;simp[ht 1 6 k1 rfl rfl,ht 2 7 k2 rfl rfl,asAddr,q1,(Uu aqo)]
abbrev Wj:Value:=.tuple #[.agg #[aX,aX],I 12]
def CT (n:br) (m:cJ) (n1:br):Prop:=
 (¬(m.err=0/\m.to=20+n.c.id)/\n1=n)\/(m.err=0/\m.to=20+n.c.id/\((m.kind=2/\M3 n m n1)\/(m.kind=4/\Q7 n m n1)\/(m.kind=6/\adR n m n1)\/(m.kind=7/\adU n m n1)\/(¬m.kind=2/\ ¬m.kind=4/\ ¬m.kind=6/\ ¬m.kind=7/\n1=n)))
def IV (n:br) (m:cJ) (m':DM):Prop:=m.err=0/\m.to=20+n.c.id/\((m.kind=4/\adO n m m')\/(m.kind=6/\adS n m m'))
theorem ab4 (h:m.err=0) (hk:m.kind=2\/m.kind=4):m.aU.may=true:=by
 unfold cJ.err at h;split at h
 ·cases h
 ·split at h
  ·cases h
  ·rename_i _ h2;simp only[Bool.or_eq_true,Bool.not_eq_true',not_or,Bool.not_eq_false] at h2;have h3:=h2.2;unfold cJ.qD at h3;rw[if_pos zQ] at h3;unfold cJ.Na at h3;rcases hk with e|e<;>simp[e] at h3<;>simp_all
structure CU (n n':br):Prop where
 nb:n'.nb=n.nb
 db:n'.db=n.db
 ex:n'.ex=n.ex
 pre:n'.pre=n.pre
variable {n1 : br} {pp : Bool} {gP : Int}
section
variable {n : br}
theorem tq.eQ (h:tq N M n):Go.Proofs.YtgfijddlkhkopaaGreat.eQ n=n:=by
 have q: ∀{a b c d e},n.vm=a->n.va=b->n.rm=c->n.ra=d->n.ms=e->({ n with vm:=a,va:=b,rm:=c,ra:=d,ms:=e } :br)=n:=by
  rintro _ _ _ _ _ rfl rfl rfl rfl rfl;rfl
 exact q h.vm h.va h.rm h.ra h.ms
theorem Told.nb {l:List cJ} (h:Told n l n'):CU n n':=by obtain⟨_,_,rfl,_⟩:=h;exact⟨rfl,rfl,rfl,rfl⟩
theorem CU.of {n2:br} (h:CU n1 n2) (e:n1.nb=n.nb/\n1.db=n.db/\n1.pre=n.pre:=by exact⟨rfl,rfl,rfl⟩):CU n { n2 with ex:=n.ex } :=⟨h.nb.trans e.1,h.db.trans e.2.1,rfl,h.pre.trans e.2.2⟩
theorem CU.by (h:CU n1 n') (e:n1.nb=n.nb/\n1.db=n.db/\n1.ex=n.ex/\n1.pre=n.pre:=by exact⟨rfl,rfl,rfl,rfl⟩):CU n n':=⟨h.nb.trans e.1,h.db.trans e.2.1,h.ex.trans e.2.2.1,h.pre.trans e.2.2.2⟩
theorem O8.nb (h:O8 n b n'):CU n { n' with ex:=n.ex } :=by
 rcases h with⟨_,_,_,_,h⟩|⟨_,_,_,_,_,_,_,_,_,_,h⟩<;>exact h.nb.of
theorem CM.nb (h:CM n m pp n'):CU n n':=by
 obtain⟨_,_,_,_,_,_,_,_,rfl⟩:=h;exact⟨rfl,rfl,rfl,rfl⟩
theorem CT.nb (h:CT n m n'):CU n n':=by
 rcases h with⟨_,rfl⟩|⟨_,_,⟨_,h⟩|⟨_,h⟩|⟨_,h⟩|⟨_,h⟩|⟨_,_,_,_,rfl⟩⟩
 ·exact⟨rfl,rfl,rfl,rfl⟩
 ·rcases h with⟨_,rfl⟩|h|⟨_,_,_,_,_,_,_,n1,_,rfl,⟨_,rfl⟩|⟨_,n2,h,rfl⟩⟩
  ·exact⟨rfl,rfl,rfl,rfl⟩
  ·exact h.nb
  ·exact⟨rfl,rfl,rfl,rfl⟩
  ·exact h.nb.by
 ·rcases h with⟨_,rfl,_⟩|h|⟨_,_,_,_,_,_,n1,_,rfl,⟨_,rfl⟩|⟨_,⟨_,_,_,h⟩|⟨_,_,_,_,_,_,_,_,_,h⟩⟩⟩
  ·exact⟨rfl,rfl,rfl,rfl⟩
  ·exact h.nb
  ·exact⟨rfl,rfl,rfl,rfl⟩
  all_goals exact h.nb.by
 ·rcases h with rfl|⟨_,_,_,_,⟨_,rfl⟩|⟨_,_,rfl⟩⟩<;>exact⟨rfl,rfl,rfl,rfl⟩
 ·rcases h with⟨_,rfl⟩|⟨_,h⟩
  ·exact⟨rfl,rfl,rfl,rfl⟩
  ·exact h.nb
 ·exact⟨rfl,rfl,rfl,rfl⟩
theorem LN (h:j9 w own n) (hX:tn own X) (ic:pj ⟨n.L,n.m⟩ pre sg) (hm:m.at w (bZ own 4) vk vs vw vp vr vc vh vd) (hk:tq N M n) (hN:N+m.seen.length<=2^20) (lW:m.small) (Bb:m.lens<=2^62):
  Ct pg 25 #[ptr n.nb 0,I gP,m.v vk vs vw vp vr vc vh vd] w X (gH own) λv wa w'=>Sw own wa w' (CT n m) (λn1=>v= .tuple #[.agg #[n1.vm,n1.va],I 0])\/(v=Wj/\DQ own n.nb n.db wa w' (IV n m)):=by
 intro w0 iy;have s:=St.init h hX iy;replace hm:=hm.mv (yU hX iy);have hi:1<=n.c.id/\n.c.id<=2:=by rw[hk.id];decide
 clear h hX iy;have n1:own n.nb=1:=(s.get 1).1;refine B2.g (RP:=λch w'=>ch=Bn/\Fr (gH own) w0 w'/\DQ own n.nb n.db w0 w' (IV n m)) (g0:=51) (cb:=[3,6,7]) (cv:=[some (ptr n.nb 0),none,none]) kQ (.inr kQ) On (Yn rfl λch w' hr=>?_) ?_
 ·obtain⟨rfl,hf,aM,m',e,hd,hq⟩:=hr;obtain⟨x0,x1,x2,x3,x5,x6,x7,x8,x9,vm,va,hr⟩:=hd.gL 1 dQ dQ;refine⟨rfl,x0,x1,x2,x3,B true,x5,x6,x7,x8,x9,vm,va,⟨rfl,hr.2⟩,λw2 q1 q2 q3 q4 q5 q6=>⟨_,rfl,?_,.inr ⟨rfl,aM,m',e,?_,hq⟩⟩⟩
  ·exact⟨q1.trans hf.os,q2.trans hf.tape,q3.trans hf.output,ad hf.size q4,λk hl hn=>(q5 k (Nat.lt_of_lt_of_le hl hf.size) λe=>hn (by rw[e];exact⟨by omega,by omega⟩)).trans (hf.block k hl hn)⟩
  ·exact hd.one 1 q4 (λk hk h1=>q5 k (hd.lt k hk) λe'=>h1 (by rw[e'];exact hr.1)) ⟨x0,x1,x2,x3,x5,x6,x7,x8,x9,aX,aX,⟨hr.1,q6.2⟩⟩ λc _ w K A h=>h
 refine cz ?_;have hs:=s.rf;have hr:=s.v.1;repeat' refine aq ?_;intros
 refine ff (aa6 (hm.mv (Mv.sub (s.sub 4))) lW Bb) kQ hs.has λw1 X1 aB=>?_;have s1:=s.since aB;replace hm:=hm.mv (aB.gY (s.sub 4));clear hs hr aB s;have adX: ∀{w2:World} {X2:XS},Sn w0 own w2 X2 own n-> ¬(m.err=0/\m.to=20+n.c.id)->aK.fin (Gy (vy (gH own) w0 λv w'=>Sw own w0 w' (CT n m) (λn1=>v= .tuple #[.agg #[n1.vm,n1.va],I 0])\/(v=Wj/\DQ own n.nb n.db w0 w' (IV n m))) λch w'=>ch=Bn/\Fr (gH own) w0 w'/\DQ own n.nb n.db w0 w' (IV n m)) X2 w2 (.tuple #[.agg #[aX,aX],I 0]):=λ{w2 X2} s2 pc=>
  s2.t.adY λwa ou=>.inl ⟨own,n,s2.e,s2.h.kp s2.x ou,n,.inl ⟨pc,rfl⟩,by show _=Value.tuple #[.agg #[n.vm,n.va],I 0];rw[hk.vm,hk.va],hk.eQ.symm,by rw[hk.vm,hk.rm];exact Sl.nil _ _ _,by rw[hk.rm,hk.ms];exact fu.nil _ _,by rw[hk.va,hk.ra];exact Sl.nil _ _ _⟩
 have hs:=s1.rf;have hr:=s1.v.1;by_cases LO:m.err=0;case neg=>
  repeat' first|refine aI ?_;intros|with_reducible apply cK
  exact adX s1 λe=>LO e.1
 rw[LO];repeat' refine aI ?_;intros
 refine cK ?_;repeat' refine aq ?_;intros
 refine ff (Bo hr (λ_ h=>h) hi) kQ hs.has λw2 X2 bH=>?_;have s2:=s1.since bH;replace hm:=hm.mv (bH.gY (s1.sub 4));clear hs hr bH s1;by_cases xn:m.to=20+n.c.id;case neg=>
  repeat' refine aI ?_;intros
  exact adX s2 λe=>xn e.2
 clear adX;repeat' refine aI ?_;intros
 refine ib (Q:=λK=> ∀(nH:Nat->Nat) (n3:br) (w3:World) (X3:XS),Sn w0 own w3 X3 nH n3->CT n m n3->K w3 X3) (λnH n3 w3 X3 s3 fQ=>?_) (λK hK=>?_)
 ·rw[<-fQ.nb.nb];refine s3.call (E5 s3.h s3.x) kQ λv w4 X4 l7 n4 s4 ⟨q1,q2,q3⟩ _=>?_;subst q1;have o1:=s3.v.2.1;have o2:=s3.v.2.2.1;repeat' refine aq ?_;intros
  exact s4.t.adY λwa ou=>.inl ⟨l7,n4,s4.e,s4.h.kp s4.x ou,n3,fQ,rfl,q2,q3.mv (yU s4.x ou)⟩
 ·have IW:=hm.mv (Mv.sub (s2.sub 4));by_cases k2:m.kind=2
  ·repeat' refine aI ?_;intros
   exact s2.call (Xy s2.h s2.x hm (ab4 LO (.inl k2)) hk hN) kQ λv w3 X3 nH n3 s3 q _=>hK nH n3 w3 X3 s3 (.inr ⟨LO,xn,.inl ⟨k2,q⟩⟩)
  by_cases k4:m.kind=4
  ·repeat' refine aI ?_;intros
   exact s2.We (Yj s2.h s2.x ic hm (ab4 LO (.inr k4)) hk zQ) kQ (λv w3 X3 nH n3 s3 q _=>hK nH n3 w3 X3 s3 (.inr ⟨LO,xn,.inr (.inl ⟨k4,q⟩)⟩)) λwb hf hd=>⟨rfl,hf,hd.imp λm' q=>⟨LO,xn,.inl ⟨k4,q⟩⟩⟩
  by_cases k6:m.kind=6
  ·repeat' refine aI ?_;intros
   exact s2.We (Yk s2.h s2.x ic hk) kQ (λv w3 X3 nH n3 s3 q _=>hK nH n3 w3 X3 s3 (.inr ⟨LO,xn,.inr (.inr (.inl ⟨k6,q⟩))⟩)) λwb hf hd=>⟨rfl,hf,hd.imp λm' q=>⟨LO,xn,.inr ⟨k6,q⟩⟩⟩
  by_cases k7:m.kind=7
  ·repeat' refine aI ?_;intros
   exact s2.call (Vp s2.h s2.x hk) kQ λv w3 X3 nH n3 s3 q _=>hK nH n3 w3 X3 s3 (.inr ⟨LO,xn,.inr (.inr (.inr (.inl ⟨k7,q⟩)))⟩)
  repeat' refine aI ?_;intros
  exact hK own n w2 X2 s2 (.inr ⟨LO,xn,.inr (.inr (.inr (.inr ⟨k2,k4,k6,k7,rfl⟩)))⟩)
end
def vN (d:oP):oP:= { d with x:= { d.x with xi:=d.x.xi+1 } }
def ry (n:br) (t:bX) (n':br):Prop:= ∃(b:Nat),getM t n.al=some b/\n'.rm.length<=n.rm.length+80/\
  ((6<=(n.A b).x.xi+1/\ ∃ki,Told { dN n b (vN (n.A b))with al:=kq t n.al,va:=ki,ra:=n.ra++[EW 25 t .zero false aX] } (if(n.A b).x.pre then(n.A b).ids.map λid=>(SG t id).pP (20+n.c.id)else []) n')\/
   (¬6<=(n.A b).x.xi+1/\Told (dN n b (vN (n.A b))) ((n.A b).ws.map λm=>m.pP (20+n.c.id)) n'))
def lN:List bX->br->br->Prop
 |[],n,n'=>n'=n
 |t::l,n,n'=> ∃n1,ry n t n1/\lN l n1 n'
theorem lN.snoc: ∀{l:List bX} {t:bX} {n n1 n2:br},lN l n n1->ry n1 t n2->lN (l++[t]) n n2
 |[],t,n,n1,n2,h,h2=>by
  have h:n1=n:=h;subst h;exact⟨n2,h2,rfl⟩
 |x::l,t,n,n1,n2,⟨n3,h3,h⟩,h2=>⟨n3,h3,h.snoc h2⟩
def Yo (n:br) (b:Nat) (n':br):Prop:=((n.C b).ended=true/\n'=n)\/((n.C b).ended=false/\Told n ((n.C b).waits.map λid=>(Yi (n.C b).r id).pP (20+n.c.id)) n')
def tO:List Nat->br->br->Prop
 |[],n,n'=>n'=n
 |b::l,n,n'=> ∃n1,Yo n b n1/\tO l n1 n'
theorem tO.snoc: ∀{l:List Nat} {t:Nat} {n n1 n2:br},tO l n n1->Yo n1 t n2->tO (l++[t]) n n2
 |[],t,n,n1,n2,h,h2=>by
  have h:n1=n:=h;subst h;exact⟨n2,h2,rfl⟩
 |x::l,t,n,n1,n2,⟨n3,h3,h⟩,h2=>⟨n3,h3,h.snoc h2⟩
def Gz (n n1:br):Prop:= ∃ts n2,ts.Perm (n.al.map (·.1))/\lN ts n n2/\tO n.cl n2 n1
structure TK (n n':br):Prop where
 nb:n'.nb=n.nb
 db:n'.db=n.db
 c:n'.c=n.c
 cl:n'.cl=n.cl
 C:n'.C=n.C
 ex:n'.ex=n.ex
 pre:n'.pre=n.pre
variable {t t' : bX}
section
variable {n : br}
theorem ry.tk (h:ry n t n'):TK n n':=by
 obtain⟨b,_,_,⟨_,_,_,_,rfl,_⟩|⟨_,_,_,rfl,_⟩⟩:=h<;>exact⟨rfl,rfl,rfl,rfl,rfl,rfl,rfl⟩
theorem Yo.tk (h:Yo n b n'):TK n n':=by
 rcases h with⟨_,rfl⟩|⟨_,_,_,rfl,_⟩<;>exact⟨rfl,rfl,rfl,rfl,rfl,rfl,rfl⟩
theorem TK.trans {n'':br} (a:TK n n') (b:TK n' n''):TK n n'':=⟨b.nb.trans a.nb,b.db.trans a.db,b.c.trans a.c,b.cl.trans a.cl,b.C.trans a.C,b.ex.trans a.ex,b.pre.trans a.pre⟩
theorem ry.ra (h:ry n t n'):n'.ra.length<=n.ra.length+1/\n'.rm.length<=n.rm.length+80:=by
 obtain⟨b,_,h1,⟨_,_,_,_,rfl,_⟩|⟨_,_,_,rfl,_⟩⟩:=h
 ·exact⟨by simp,h1⟩
 ·exact⟨dD _,h1⟩
theorem ry.get (h:ry n t n') (cu:t'≠t):getM t' n'.al=getM t' n.al:=by
 obtain⟨b,_,_,⟨_,_,_,_,rfl,_⟩|⟨_,_,_,rfl,_⟩⟩:=h
 ·exact LP cu
 ·rfl
theorem ry.ok (h:ry n t n') (iO: ∀t b,getM t n.al=some b->(n.A b).x.aG=t) (lT: ∀t b,getM t n.al=some b->sI N (n.A b)): ∀t b,getM t n'.al=some b->sI N (n'.A b):=by
 obtain⟨b,hb,_,hc⟩:=h;intro t' b' dO;have hg:n'.A=(dN n b (vN (n.A b))).A/\getM t' n.al=some b'/\(b'=b-> ¬6<=(n.A b).x.xi+1):=by
  rcases hc with⟨_,_,_,_,rfl,_⟩|⟨h6,_,_,rfl,_⟩
  ·obtain⟨q1,q2⟩:=jF (show getM t' (kq t n.al)=some b' from dO);exact⟨rfl,q1,λe=>absurd (by rw[e] at q1;exact(iO _ _ q1).symm.trans (iO _ _ hb)) q2⟩
  ·exact⟨rfl,dO,λ_=>h6⟩
 have ha:=lT t' b' hg.2.1;rw[hg.1];by_cases e:b'=b
 ·have:=hg.2.2 e;subst e;rw[jA];exact⟨ha.q,ha.p,ha.sn,ha.ws,ha.ids,ha.C5,by have:=ha.xi;show 0<=(n.A b').x.xi+1/\(n.A b').x.xi+1<6;omega,ha.pq⟩
 ·rw[show(dN n b (vN (n.A b))).A b'=n.A b' from if_neg e];exact ha
theorem Yp (h:j9 w own n) (hX:tn own X) (hk:tq N M n):
  Ct pg 16 #[ptr n.nb 0,I gP] w X (gH own) λv wa w'=>Sw own wa w' (Gz n) λn1=>v= .tuple #[.agg #[n1.vm,n1.va],I 0]:=by
 intro w0 iy;have s:=St.init h hX iy;have hi:1<=n.c.id/\n.c.id<=2:=by rw[hk.id];decide
 have hM:=hk.mM;have qI:=hk.cl;have aqp:=hk.Xq;clear h hX iy;have hr:=s.v.1;rw[QE hk.pre] at hr;have hs:=s.rf;have TW:dS w0 (bP w0) nX n.c.ab (λk:bX=>k.v) zz n.al:=s.Aa 5;refine Dn.1 λ_=>?_;repeat' refine aq ?_;intros
 refine cM (Qr (Y:=bP w0) hr (λ_ h=>h) TW zQ) kQ hs.has ?_;rintro vt DX w1 X1 ⟨ts,AA,_,xn⟩ qw nY aB;have hts:Sl w1 X1 3 vt (ts.map bX.l):=(xn.mono nY).sl;have htl:ts.length=n.al.length:=by rw[AA.length_eq,af]
 have qf:ts.Nodup:=AA.nodup_iff.2 TW.nodup;have DB: ∀t∈ts,∃b,getM t n.al=some b:=λt ht=>by
  obtain⟨x,hx,rfl⟩:=List.mem_map.1 (AA.mem_iff.1 ht);exact⟨x.2,wI TW.nodup hx⟩
 obtain⟨ame,sp,-,-,hp4⟩:=(s.since aB).yD (N:=made DX w1) λk ah=>⟨nY k ah,s.nw (ad qw ah.1)⟩;have hvt:Sl w1 (bZ ame 4) 3 vt (ts.map bX.l):=(xn.mono hp4).sl;have asC:n.ra.length=0:=by rw[hk.ra];rfl
 have asD:n.rm.length=0:=by rw[hk.rm];rfl
 clear hs hr s xn hp4 nY qw aB TW;have hs:=sp.rf;repeat' refine aq ?_;intros
 refine gM (λk a z w X=> ∃(i:Nat) (lZ:Nat->Nat) (n2:br),a=I (i:Nat)/\k=ts.length-i/\i<=ts.length/\Sn w0 own w X lZ n2/\lN (ts.take i) n n2/\TK n n2/\n2.rm.length<=80*i/\n2.ra.length<=i/\(∀t b,getM t n2.al=some b->sI N (n2.A b))/\(∀t∈ts.drop i,∃b,getM t n2.al=some b)/\Sl w (bZ lZ 4) 3 vt (ts.map bX.l))
  ts.length ⟨0,ame,n,rfl,rfl,ak _,sp,rfl,⟨rfl,rfl,rfl,rfl,rfl,rfl,rfl⟩,by omega,by omega,hk.act,DB,hvt⟩ ?_
 clear hs sp hvt hts;rintro k _ z w2 X2 ⟨i,lZ,n2,rfl,rfl,hi2,s2,da,HN,asE,amf,amg,afK,ah0⟩;have hs:=s2.rf;have amh:Sl w2 X2 3 vt (ts.map bX.l):=ah0.mono (s2.sub 4);have view: ∀{w5:World} {X5:XS} {mY:Nat->Nat} {n5:br},Sn w0 own w5 X5 mY n5->TK n n5->aH w5 X5 n.nb (coL n.c n5.vm n5.va) nT:=λs5 h5=>by
  have:=s5.v.1;rw[QE (h5.pre.trans hk.pre),h5.nb,h5.c] at this;exact this
 have jJ:=view s2 HN;rcases dB (ts) i with⟨cI,t,hx,hd⟩|⟨dC,hd⟩
 ·repeat' refine aI ?_;intros
  refine ib (Q:=λK=> ∀(l7:Nat->Nat) (n4:br) (w4:World) (X4:XS) (y:Value),Sn w0 own w4 X4 l7 n4->ry n2 t n4->Mv (bZ lZ 4) w2 (bZ l7 4) w4->K y w4 X4) (λl7 n4 w4 X4 y s4 h4 m4=>?_) (λK hK=>?_)
  ·have hs:=s4.rf;repeat' refine aq ?_;intros
   have asF:=h4.ra;refine fG (ts.length-(i+1)) zQ ⟨i+1,l7,n4,by simp,rfl,by omega,s4,by rw[bW,hx];exact da.snoc h4,HN.trans h4.tk,by omega,by omega,h4.ok (s2.get 12:) amg,λt' ht'=>?_,ah0.mv m4⟩;have cu:t'≠t:=λe=>by
    have:=qf;rw[<-fy i ts,hd] at this;exact(List.nodup_cons.1 (List.nodup_append.1 this).2.1).1 (e▸ht')
   rw[h4.get cu];exact afK t' (by rw[hd];exact bG _ ht')
  have ami:dS w2 X2 nX n.c.ab (λk:bX=>k.v) zz n2.al:=by
   have:dS w2 X2 nX n2.c.ab (λk:bX=>k.v) zz n2.al:=s2.Aa 5
   rwa [HN.c] at this
  repeat' refine aq ?_;intros
  refine nr (kt:=34) (et:=116) (kv:=λk:bX=>k.v) (k:=t) (.pointer none) ami tf kQ kQ (λv b kV rX=>?_) (λhn=>?_);case refine_2=>
   obtain⟨b,hb⟩:=afK t (by rw[hd];simp);rw[hn] at hb;cases hb
  simp only[zz] at rX;subst rX;have hb:n2.dE b:=.inl ⟨_,kV⟩;have C8:=amg _ b kV;have aqq:=C8.xi;have hw8:=C8.ws;have ada:=C8.ids;obtain⟨ha,o1,o2,o3,o4⟩:=s2.va hb;repeat' refine aq ?_;intros
  refine s2.st (o:=7) (tx b 0) (s2.h.act hb).1 (ea (dN n2 b (vN (n2.A b)))) zQ kQ (eu rfl) rfl (λ_ _ _ h=>rq dQ h) IE (λw3 X3 nH s3 m3=>?_) iz.1 iz.2;obtain⟨n3,sT⟩: ∃n3:br,n3=dN n2 b (vN (n2.A b)):=⟨_,rfl⟩;rw[<-sT] at s3;have e3:n3.A b=vN (n2.A b):=by rw[sT];exact jA
  have f3:n3.nb=n.nb/\n3.c=n.c/\n3.rm=n2.rm/\n3.ra=n2.ra/\n3.ms=n2.ms/\n3.al=n2.al/\n3.ex=n2.ex:=by rw[sT];exact⟨HN.nb,HN.c,rfl,rfl,rfl,rfl,rfl⟩
  have rW:n3.dE b:=by rw[sT];exact hb
  have ht3:(vN (n2.A b)).x.aG=t:=(show∀t b,getM t n2.al=some b->(n2.A b).x.aG=t from s2.h.gL 12 dQ dQ) _ _ kV;clear hs ha s2 ami amh jJ;have hs:=s3.rf;obtain⟨ha,-⟩:=s3.va rW;rw[e3] at ha;have asG:(vN (n2.A b)).x.xi=(n2.A b).x.xi+1:=rfl;have hi3:1<=n3.c.id/\n3.c.id<=2:=by rw[f3.2.1];exact hi
  by_cases h6:6<=(n2.A b).x.xi+1
  ·repeat' refine aI ?_;intros
   rw[<-f3.1];refine s3.call (zU (code:=25) s3.h s3.x rW (by rw[e3];exact C8.pq) (by rw[f3.2.2.2.1];omega) hi3 (by rw[f3.2.2.1,e3];show n2.rm.length+(n2.A b).ids.length<=_;omega)) kQ λv w4 X4 l7 n4 s4 ⟨ki,mR,lX,q4,Qo⟩ m4=>?_;have s5:=s4.to (HU (e':=n2.ex) λb' h'=>by rw[q4];show b'∈b::n3.ex;rw[f3.2.2.2.2.2.2];exact .tail _ h');rw[e3,ht3] at q4 Qo;refine hK l7 _ w4 X4 _ s5 ⟨b,kV,?_,.inl ⟨h6,ki,mR,lX,by rw[q4,sT];rfl,by rw[Qo,sT];rfl⟩⟩ (m3.trans m4)
   show n4.rm.length<=_
   rw[q4]
   show lX.length<=_
   rw[Qo]
   show n3.rm.length+_<=_
   rw[f3.2.2.1];split
   ·show _+((n2.A b).ids.map _).length<=_;rw[af];omega
   ·simp
  ·have Qv:(n2.A b).rw.length=(n2.A b).ws.length:=by have:=(s3.h.act rW).2.2.2.1.1;rw[e3] at this;exact this
   have rows: ∀{w5:World} {X5:XS} {mY:Nat->Nat} {n5:br},Sn w0 own w5 X5 mY n5->n5.dE b->n5.A b=vN (n2.A b)->Sl w5 X5 36 (n2.A b).vw ((n2.A b).rw.map id)/\fu w5 (bZ mY 4) (n2.A b).rw (n2.A b).ws:=λs5 BS e5=>by
    have:=s5.h.act BS;rw[e5] at this;exact⟨by rw[List.map_id];exact this.2.1.sl.mono (s5.sub _ iz.1),this.2.2.2.1⟩
   have aqr:=(rows s3 rW e3).1;repeat' refine aI ?_;intros
   refine fY (λk a w X=> ∃(j:Nat) (l7:Nat->Nat) (n4:br),a=I (j:Nat)/\k=(n2.A b).rw.length-j/\j<=(n2.A b).rw.length/\Sn w0 own w X l7 n4/\Told n3 (((n2.A b).ws.take j).map λm=>m.pP (20+n.c.id)) n4/\Mv (bZ nH 4) w3 (bZ l7 4) w)
    (n2.A b).rw.length ⟨0,nH,n3,rfl,rfl,ak _,s3,Told.nil _,Mv.refl _ _⟩ ?_
   clear hs s3 aqr ha;rintro k _ w4 X4 ⟨j,l7,n4,rfl,rfl,hj,s4,ht4,m4⟩;have hs:=s4.rf;have f4:n4.nb=n.nb/\n4.c=n.c/\n4.rm.length=n2.rm.length+j/\n4.A b=vN (n2.A b)/\n4.dE b:=by
    obtain⟨v,r,rfl,hl⟩:=id ht4;exact⟨f3.1,f3.2.1,by show r.length=_;rw[hl,f3.2.2.1,af,List.length_take];omega,e3,rW⟩
   have zy:=rows s4 f4.2.2.2.2 f4.2.2.2.1;have asH:=zy.1;rcases dB (n2.A b).rw j with⟨cI,l,hl,_⟩|⟨dC,_⟩
   ·obtain⟨y,hy⟩: ∃y,(n2.A b).ws[j]? =some y:=⟨_,List.getElem?_eq_getElem zQ⟩;obtain⟨uk,us,uw,up,ur,uc,uh,ud,rfl,dc⟩:=zy.2.2 j l y hl hy;have q1:=dc.keys.one;have q2:=dc.seen.one;have q3:=dc.writes.one;have q4:=dc.parts.one;have q5:=dc.ranges.one;have q6:=dc.bw.one;have q7:=dc.iA.one;have q8:=dc.ia.one;have q9:(id (y.l uk us uw up ur uc uh ud)).all aK.one=true:=by dsimp only [id];exact qE
    repeat' refine aI ?_;intros
    dsimp only [id];repeat' refine aq ?_;intros
    refine cM (H7 (m:=y) (dc.mv (Mv.sub (s4.sub 4))) (C8.C5 y (av hy))) kQ hs.has ?_;rintro _ Oo w5 X5 ⟨HR,qP,gX,JZ,rfl,u1,u2,u3,u4⟩ IG E4 tr;have wP:=dc.mv (hs.gY (s4.sub 4));have s5:=s4.since hs;replace wP:=wP.mv (tr.gY (s5.sub 4));obtain⟨rr,s6,m6,-,n6⟩:=(s5.since tr).yD (N:=made Oo w5) λk hk=>⟨E4 k hk,s5.nw (ad IG hk.1)⟩;have k6:Mv (made Oo w5) w5 (bZ rr 4) w5:=Mv.sub n6;replace wP:=wP.mv m6;rw[<-f4.1];refine s6.call (Bp (m:=y) s6.h s6.x ⟨u1.mv k6,u2.mv k6,u3.mv k6,u4.mv k6,wP.ranges,wP.bw,wP.iA,wP.ia⟩ (by rw[f4.2.1];exact hi) zQ) kQ λv w7 X7 rZ n7 s7 q7 m7=>?_;replace q7:Told n4 [y.pP (20+n.c.id)] n7:=by rw[<-f4.2.1];exact q7
    have m47:=((m4.trans (hs.gY (s4.sub 4))).trans (tr.gY (s5.sub 4))).trans (m6.trans m7);clear hs;repeat' refine aq ?_;intros
    exact ey ((n2.A b).rw.length-(j+1)) zQ ⟨j+1,rZ,n7,by simp,rfl,by omega,s7,by rw[C6 hy];exact ht4.add q7,m47⟩
   ·repeat' refine aI ?_;intros
    rw[az zQ] at ht4;exact hK l7 n4 w4 X4 _ s4 ⟨b,kV,by rw[f4.2.2.1];omega,.inr ⟨h6,by rw[HN.c];rw[sT] at ht4;exact ht4⟩⟩ (m3.trans m4)
 ·rw[az dC] at da;have iq: ∀{w5:World} {X5:XS} {mY:Nat->Nat} {n5:br},Sn w0 own w5 X5 mY n5->TK n n5->Sl w5 X5 1 n.c.cm (n.cl.map λb=>[ptr b 0]):=λ{w5 X5 mY n5} s5 Df=>by
   have:=(show Own w5 X5 0 pcT 1 n5.c.cm (n5.cl.map λb=>[ptr b 0])from s5.Aa 10).sl
   rwa [Df.c,Df.cl] at this
  have aqs:=iq s2 HN;repeat' refine aI ?_;intros
  refine fY (λk a w X=> ∃(j:Nat) (mY:Nat->Nat) (n5:br),a=I (j:Nat)/\k=n.cl.length-j/\j<=n.cl.length/\Sn w0 own w X mY n5/\tO (n.cl.take j) n2 n5/\TK n n5/\n5.rm.length<=80*ts.length+80*j) n.cl.length ⟨0,lZ,n2,rfl,rfl,ak _,s2,rfl,HN,by omega⟩ ?_;clear hs s2 aqs jJ amh ah0;rintro k _ w5 X5 ⟨j,mY,n5,rfl,rfl,hj,s5,hD5,Df,asI⟩;have hs:=s5.rf;have asJ:=iq s5 Df;have De:=view s5 Df;rcases dB n.cl j with⟨cI,b,hb,_⟩|⟨DH,_⟩
  ·have OA:b∈n.cl:=av hb;have BS:b∈n5.cl:=by rw[Df.cl];exact OA
   have hw8:=hk.cw b OA;repeat' refine aI ?_;intros
   refine ib (Q:=λK=> ∀(rr:Nat->Nat) (n6:br) (w6:World) (X6:XS),Sn w0 own w6 X6 rr n6->Yo n5 b n6->K w6 X6) (λrr n6 w6 X6 s6 h6=>?_) (λK hK=>?_)
   ·have hs:=s6.rf;repeat' refine aq ?_;intros
    refine ey (n.cl.length-(j+1)) zQ ⟨j+1,rr,n6,by simp,rfl,by omega,s6,by rw[bW,hb];exact hD5.snoc h6,Df.trans h6.tk,?_⟩;have:n6.rm.length<=n5.rm.length+80:=by
     rcases h6 with⟨_,rfl⟩|⟨_,_,_,rfl,h⟩
     ·omega
     ·show bB _<=_;rw[h,af,Df.C];omega
    omega
   ·obtain⟨hc,o2,o1,HQ⟩:=s5.vc BS;cases BQ:(n5.C b).ended with
    |true=>
     rw[BQ] at hc;repeat' refine aq ?_;intros
     exact hK mY n5 w5 X5 s5 (.inl ⟨BQ,rfl⟩)
    |false=>
     rw[BQ] at hc;repeat' refine aq ?_;intros
     rw[<-Df.nb];exact s5.call (H6 (b:=b) s5.h s5.x BS (by rw[Df.c];exact hi) (by rw[Df.C];omega)) kQ λv w6 X6 rr n6 s6 q6 _=>hK rr n6 w6 X6 s6 (.inr ⟨BQ,q6⟩)
  ·rw[az DH] at hD5;repeat' refine aI ?_;intros
   rw[<-Df.nb];refine s5.call (E5 s5.h s5.x) kQ λv w6 X6 rr n6 s6 ⟨q1,q2,q3⟩ _=>?_;subst q1 q2;have o1:=s5.v.2.1;have o2:=s5.v.2.2.1;clear hs;repeat' refine aq ?_;intros
   exact St.alJ s6 q3 ⟨ts,n2,AA,da,hD5⟩ rfl
end
theorem Yq: ∀xs:List Int,xs.length<=(xs.map encI).flatten.length
 |[]=>by simp
 |x::xs=>by
  have h1:=Yq xs;have h2:=Fq x;simp only[bh,dd,aa,aJ];omega
variable {r : Rec}
section
variable {rb at_ gL cb xb : Nat} {vb : Value} {pl : Int} {bs tl : List Nat} {cs qh : List Value}
theorem Vq {xo:Nat} (h:RB w X rb vb at_ pl bs cb xb cs ty) (he:bs.drop at_=iY encI xs++tl) (hn: ∀x∈xs,vA x) (hl:xs.length<=2^30) (ho:cs[xo]? =some kr):
  Ct pg 186 #[ptr cb 0,ptr xb xo,.func (.func 183) #[ptr cb 0] #[]] w X (λk=>k=rb\/k=xb) λv wa w'=> ∃va,v= .tuple #[]/\
   aH w' (λk=>k=rb) rb [vb,I ((at_+(iY encI xs).length:Nat):Int),I 0,I pl] 315/\aH w' (λk=>k=xb) xb (bM cs xo [va]) ty/\Own w' (made wa w') wa.heap.size 3 1 va (xs.map I1):=by
 intro wi hk;have hS:=h.start hk;have hc:=hS.c;have hxo:xo+1<=cs.length:=(List.getElem?_eq_some_iff.1 ho).1;have e0:bs.drop at_=encI xs.length++((xs.map encI).flatten++tl):=by rw[he];unfold iY;rw[ao]
 have d0:=hS.nq e0;have e1:=rJ e0;have hfg:=Yq xs;have d1:at_+(encI xs.length).length+(xs.map encI).flatten.length<=bs.length:=by
  have h1:=congrArg bB e1;rw[List.length_drop,aa] at h1;omega
 have LQ:Cells wi (bP wi) xb xo [kr]:=⟨hS.x.1,cs.toArray,ty,(0,0),hS.x.2,λj u hj=>by
  cases j with
  |zero=>simp at hj;subst hj;simpa using ho
  |succ j=>simp at hj⟩
 have hnl:Sl wi (bP wi) 1 kr (([]:List Int).map I1):=Sl.nil _ _ _;refine D5.1 λ_=>?_;have hs:=ai.fL hS.t.s.has;have Fs:=hS.aos;repeat' refine aq ?_;intros
 refine ib (Q:=λK=> ∀w X,RS wi w X rb vb (at_+(encI xs.length).length) pl bs cb xb (bM cs xo [kr]) ty->K (I xs.length) w X) ?_ λK hK=>?_
 ·intro w1 X1 mn;refine fY (λm a w X=> ∃(i:Nat) (va:Value),a=I i/\m=xs.length-i/\i<=xs.length/\RS wi w X rb vb (at_+(encI xs.length).length+((xs.take i).map encI).flatten.length) pl bs cb xb (bM cs xo [va]) ty/\Own w X wi.heap.size 3 1 va ((xs.take i).map I1)) xs.length ⟨0,kr,rfl,rfl,ak _,by simpa using mn,Own.nil _ _ _ _ _⟩ ?_;clear mn hs LQ hc;rintro m a w2 X2 ⟨i,va,rfl,rfl,hi,bf,kF⟩;have hs:=ai.fL bf.t.s.has;rcases dB xs i with⟨cI,x,hx,hd⟩|⟨dC,hd⟩
  ·have hc:=bf.c;have LQ:=Dc bf.x hxo;have hti:((xs.take i).map I1).length=i:=by simp;omega
   have gC:=hn x (av hx);have Yr:((xs.take (i+1)).map encI).flatten=((xs.take i).map encI).flatten++encI x:=mf hx;have ei:bs.drop (at_+(encI xs.length).length+((xs.take i).map encI).flatten.length)=encI x++(((xs.drop (i+1)).map encI).flatten++tl):=by
    have h1:(xs.map encI).flatten=((xs.take i).map encI).flatten++(encI x++((xs.drop (i+1)).map encI).flatten):=by
     conv=>lhs;rw[<-fy i xs,hd]
     rw[aC,List.flatten_append,bh,dd]
    rw[h1] at e1;rw[<-List.drop_drop,e1];simp only[ao];rw[List.drop_left]
   repeat' refine aI ?_;intros
   refine ib (Q:=λK=> ∀w X va,RS wi w X rb vb (at_+(encI xs.length).length+((xs.take i).map encI).flatten.length) pl bs cb xb (bM cs xo [va]) ty->Own w X wi.heap.size 3 1 va ((xs.take i).map I1++[[I 0]])->K w X) ?_ λK hK=>?_
   ·intro w3 X3 va3 cx OF;clear hs hc LQ;have hs:=ai.fL cx.t.s.has;have LQ:=Dc cx.x hxo;repeat' refine aq ?_;intros
    refine ahN OF (by rw[hti]) kQ kQ λg csg hg gr hbg hlen tW amj=>?_;refine Dp ?_;have dC:rb<g/\xb<g/\cb<g:=by have:=Fs.r;have:=Fs.x;have:=Fs.c;omega
    have KG:RB w3 X3 rb vb (at_+(encI xs.length).length+((xs.take i).map encI).flatten.length) pl bs cb g csg 3:=⟨cx.r,hg,cx.c,cx.c1,by omega,by omega,λhb=>by have:=Fs.v g hb;omega⟩;rw[hti] at amj hlen⊢;refine xQ (pR (xo:=i*1) KG ei gC hlen) kQ cx.t.s.has (λk e=>e.elim (λe=>e▸cx.r.box.1) λe=>e▸hg.1) λv wa w4 X4 ⟨hv,zy,hx4⟩ _ _ _ c4=>?_;subst hv;have ig:=cx.aot Fs c4 ⟨hg.1,gr⟩ ⟨c4.sub _ cx.r.box.1,zy.2⟩ (KG.nq ei);clear hs;repeat' refine aq ?_;intros
    refine ey (xs.length-(i+1)) zQ ⟨i+1,va3,by simp,rfl,by omega,?_,?_⟩
    ·rw[Yr,aa,<-Nat.add_assoc];exact ig
    ·rw[bW,hx,aC];exact(amj w4 X4 [I x] rfl ⟨c4.sub _ hg.1,hx4.2⟩)
   ·repeat' first|refine aq ?_;intros|(refine q1s hs ?_;intro _ _ _ w X hs ho)
    have ah1:=bf.since hs;have ah2:=kF.since hs;refine Co (bytes:=8) (du:=[[I 0]]) ah2 ah1.t.s.has ah1.t.s.kp.size kQ ho.sl (λr hr u hu=>?_) oQ oQ λva3 w3 X3 c3 OF amk=>?_
    ·simp only[ax] at hr;subst hr;simp at hu;subst hu;rfl
    have cx:=ah1.ap6 Fs c3 λk ah=>⟨(ah2.ow.bg ah).1,(ah2.ge ah).1⟩;clear hs hc LQ;have hs:=ai.fL cx.t.s.has;repeat' refine aq ?_;intros
    refine qo (o:=xo) cx.x rfl kQ (by rw[Cj _ _ _ oQ];omega) OF.sl.one cx.t.s.has λw4 X4 c4 zy=>?_;rw[adj _ _ _ _ hxo] at zy;exact hK _ _ va3 (cx.ahM c4 zy) (OF.dT c4 λg hg e=>by have:=(OF.ge hg).1;have:=Fs.x;have e:g=xb:=e;omega)
  ·have lU:i=xs.length:=by omega
   subst lU;rw[List.take_length] at bf kF;have e:at_+(encI xs.length).length+(xs.map encI).flatten.length=at_+(iY encI xs).length:=by unfold iY;rw[aa];omega
   rw[e] at bf;repeat' refine aI ?_;intros
   refine bf.t.fin λwa aL=>⟨va,rfl,(bf.out aL).2.1,(bf.out aL).2.2,(kF.kp aL).tight⟩
 ·repeat' refine aq ?_;intros
  refine ff (afw hS.r) kQ hS.t.s.has λw1 X1 aB=>?_;have mn:=hS.since aB;refine mn.read (adf mn.r e0 zQ (by have:=mn.r.sz;omega)) kQ d0 λw2 X2 bf=>?_;refine ff (Ua bf.toRB) kQ bf.t.s.has λw3 X3 dt=>?_;have cx:=bf.since dt;clear hs;repeat' refine aq ?_;intros
  refine qo (o:=xo) cx.x rfl kQ hxo rfl cx.t.s.has λw4 X4 c4 zy=>?_;exact hK _ _ (cx.ahM c4 zy)
abbrev Ys:List Value:=[I 0,I 0,I 0,I 0,I 0,I 0,I 0,I 0,I 0,I 0,B false,I 0,.float .f64 0,kr,kr,kr,kr,I 0,I 0,.float .f64 0,.float .f64 0,I 0,I 0,I 0,I 0,I 0,I 0,kr,kr]
def mg (n:Int):Rec:=⟨8,.zero,.zero,.zero,false,n,0,[],[],[],[],.zero⟩
theorem Rc (n:Int):gq (mg n)=encI 8++encI n:=by simp[gq,mg]
inductive Uv:Rec->Prop
 |Br (n:Int):vA n->Uv (mg n)
 |BZ (t:bX) (st:cn) (ps:List Int):DE t->adh st->(∀x∈ps,vA x)->ps.length<=2^30->Uv (jx t st ps)
 |fin (t:bX):DE t->Uv (mG t)
theorem Uv.kind (h:Uv r):r.kind=8\/r.kind=9\/r.kind=10:=by
 cases h
 ·exact .inl rfl
 ·exact .inr (.inl rfl)
 ·exact .inr (.inr rfl)
theorem aa7 (hr:Uv r) (h:RB w X rb vb at_ pl bs cb xb Ys ty) (he:bs.drop at_=gq r++tl):
  Ct pg 134 #[ptr cb 0,ptr xb 0] w X (λk=>k=rb\/k=xb) λv wa w'=> ∃vp,v= .tuple #[]/\
   aH w' (λk=>k=rb) rb [vb,I ((at_+(gq r).length:Nat):Int),I 0,I pl] 315/\aH w' (λk=>k=xb) xb (r.l kr kr vp kr kr kr) ty/\Own w' (made wa w') wa.heap.size 3 1 vp (r.parts.map I1):=by
 intro wi hk;have hS:=h.start hk;refine LR.1 λ_=>?_;repeat' first|refine aq ?_;intros|(with_reducible refine sc kQ kQ ?_)
 cases hr with
 |Br n hn=>
  rw[Rc] at he⊢;have e0:bs.drop at_=encI 8++(encI n++tl):=by rw[he,ao]
  have e1:=rJ e0;have d0:=hS.nq e0;refine hS.call (pR (xo:=0) hS.toRB e0 (by unfold vA;omega) sQ) kQ d0 λw1 X1 mn=>?_;have hs:=ai.fL mn.t.s.has;have LQ:=Dc (u:=I 8) mn.x sQ;repeat' first|refine aI ?_;intros|with_reducible apply cK
  rename_i o7 ho7 _;subst ho7;clear LQ hs;have d1:=mn.nq e1;refine mn.call (pR (xo:=11) mn.toRB e1 hn (eu rfl)) kQ d1 λw2 X2 bf=>?_;have hs:=ai.fL bf.t.s.has
  skip
  have e:at_+(encI 8).length+(encI n).length=at_+(encI 8++encI n).length:=by simp only[aa];omega
  rw[e] at bf;exact bf.t.fin λH3 aL=>⟨kr,rfl,(bf.out aL).2.1,(bf.out aL).2.2,Own.nil _ _ _ _ _⟩
 |BZ t st ps h1 h2 h3 h4=>
  rw[Wf] at he⊢;have e0:bs.drop at_=encI 9++(oq t++(lL st++(iY encI ps++tl))):=by rw[he];simp only[ao]
  have e1:=rJ e0;have e2:=rJ e1;have e3:=rJ e2;have d0:=hS.nq e0;refine hS.call (pR (xo:=0) hS.toRB e0 (by unfold vA;omega) sQ) kQ d0 λw1 X1 mn=>?_;have hs:=ai.fL mn.t.s.has;have LQ:=Dc (u:=I 9) mn.x sQ;repeat' first|refine aI ?_;intros|with_reducible apply cK
  rename_i o7 ho7 _;subst ho7;clear LQ hs;have d1:=mn.nq e1;refine mn.call (Ub (xo:=1) mn.toRB e1 h1 (eu rfl)) kQ d1 λw2 X2 bf=>?_;repeat' first|refine aq ?_;intros|(with_reducible refine sc kQ kQ ?_)
  refine bf.call (aaV (xo:=4) bf.toRB e2 h2 (eu rfl)) kQ (bf.nq e2) λw3 X3 cx=>?_;repeat' first|refine aq ?_;intros|(with_reducible refine sc kQ kQ ?_)
  refine xQ (Vq (xo:=15) cx.toRB e3 h3 h4 rfl) kQ cx.t.s.has (λk e=>e.elim (λe=>e▸cx.r.box.1) λe=>e▸cx.x.1) λv wa w5 X5 ⟨va,hv,De,Re,uG⟩ IG E4 _ c5=>?_;subst hv;have nM:=cx.Pb c5 ⟨c5.sub _ cx.r.box.1,De.2⟩ (cx.nq e3) ⟨c5.sub _ cx.x.1,Re.2⟩
  skip
  have e:at_+(encI 9).length+(oq t).length+(lL st).length+(iY encI ps).length=at_+(encI 9++(oq t++(lL st++iY encI ps))).length:=by simp only[aa];omega
  rw[e] at nM;exact nM.t.fin λH3 aL=>⟨va,rfl,(nM.out aL).2.1,(nM.out aL).2.2,((uG.up E4 (ad cx.t.s.kp.size IG)).kp aL).tight⟩
 |fin t h1=>
  rw[Ra] at he⊢;have e0:bs.drop at_=encI 10++(oq t++tl):=by rw[he,ao]
  have e1:=rJ e0;refine hS.call (pR (xo:=0) hS.toRB e0 (by unfold vA;omega) sQ) kQ (hS.nq e0) λw1 X1 mn=>?_;have hs:=ai.fL mn.t.s.has;have LQ:=Dc (u:=I 10) mn.x sQ;repeat' first|refine aI ?_;intros|with_reducible apply cK
  rename_i o7 ho7 _;subst ho7;clear LQ hs;refine mn.call (Ub (xo:=1) mn.toRB e1 h1 (eu rfl)) kQ (mn.nq e1) λw2 X2 bf=>?_
  skip
  have e:at_+(encI 10).length+(oq t).length=at_+(encI 10++oq t).length:=by simp only[aa];omega
  rw[e] at bf;exact bf.t.fin λH3 aL=>⟨kr,rfl,(bf.out aL).2.1,(bf.out aL).2.2,Own.nil _ _ _ _ _⟩
theorem SK {v0:Value} (hr:Uv r) (h:Sl w X 1 v0 ((gq r).map U1)) (aqt:r.err=0) (hlen:(gq r).length<=262144) (cI: ∀b∈gq r,b<256):
  Ct pg 79 #[v0] w X nX λv wa w'=> ∃va,v= .tuple #[r.v kr kr va kr kr kr,I 0]/\Own w' (made wa w') wa.heap.size 3 1 va (r.parts.map I1):=by
 intro w0 hk;replace h:=h.mv hk.cE;have LL:Ft w0 nX w0 (bP w0) nX:=Ft.init λ_ h=>h.elim;refine SL ?_;unfold H8;refine Nb (l:=Ys) LL.s.has kQ λxb w1 X1 JU aB Ek=>?_;have eo:=LL.since aB;refine ahO eo.s.has kQ λeb w2 X2 heb bH Ed=>?_;have da:=eo.since bH;have hrx:=Ek.since bH;have hs:=aB.trans bH;have pf:=h.mv hs.mv;have cu:gq r≠[]:=by
  intro e;have:=Fq r.kind;have h9:=congrArg bB e;cases hr
  ·rw[Rc] at h9;have:=Fq 8;simp only[aa,bL] at h9;omega
  ·rw[Wf] at h9;have:=Fq 9;simp only[aa,bL] at h9;omega
  ·rw[Ra] at h9;have:=Fq 10;simp only[aa,bL] at h9;omega
 generalize wA:gq r=bs at*;repeat' refine aI ?_;intros
 refine cM (ahL pf zQ cI) kQ da.s.has ?_;rintro _ zA w3 X3 ⟨rb,vb,rfl,jE⟩ rn mX dt;have dU:=da.since dt;repeat' refine aq ?_;intros
 refine Bj dU.s.has λcb w4 X4 hcb gd Rf=>?_;have fR:=(dU.since gd).Pp;have hz3:=dt.kp.size;have Ac:BT w3 X3 rb vb 0 0 bs:=jE.mv (Mv.sub mX);have Lp:=Ac.mv gd.mv;have adZ:=(hrx.since dt).since gd;have aml:=(Ed.since dt).since gd;have N7:=jE.box.1;have Uh:=bH.has xb (bH.sub xb Ek.1);have asK:=aB.has xb Ek.1;have Fs:=bH.has eb Ed.1;have qI:=gd.has cb Rf.1;have KG:RB w4 X4 rb vb 0 0 bs cb xb Ys 73:=⟨Lp,adZ,Rf.cells,by have:=N7.2;omega,by omega,by have:=N7.1;omega,λhb=>by have:=(jE.ow.bg hb).1.1;omega⟩;refine fR.call (aa7 (tl:=[]) hr KG (by rw[wA];simp)) kQ (λk e=>e.elim (λe=>by subst e;exact⟨Lp.box.1,by have:=N7.1;omega⟩) λe=>by subst e;exact⟨adZ.1,by omega⟩) λv Oo w5 X5 hq5 IG E4 iQ c5=>?_;obtain⟨va,rfl,De,Re,uG⟩:=hq5;rw[wA] at De;have amm:aH w5 X5 xb _ _:=⟨c5.sub _ adZ.1,Re.2⟩;have aqu:=aml.dT c5 λe=>e.elim (λe=>by have:=N7.1;omega) λe=>by omega
 have aqv:=KG.Pb c5 (gL:=0+bs.length) ⟨c5.sub _ Lp.box.1,De.2⟩ zQ amm;have h0:Sl w0 (out nX w0) 1 v0 (bs.map U1):=h.mono λk ah=>⟨ah,λh=>h.elim⟩;clear hs pf aB bH dt gd;have hs:=ai.fL iQ.s.has
 skip
 refine ff (ahK aqv.r zQ) kQ iQ.s.has λw6 X6 sU=>?_;have ku:=iQ.since sU;have hx6:=amm.since sU;have aqw:=aqu.since sU;have ho6:Own w6 X6 w0.heap.size 3 1 va (r.parts.map I1):=(uG.up E4 (by have:=fR.s.kp.size;omega)).since sU;obtain⟨ab,an,ac,rfl⟩:=ho6.sl.form;repeat' refine aI ?_;intros
 have aqx:Ct pg 136 #[r.v kr kr (.slice ab an ac) kr kr kr] w6 X6 nX λv wa w'=> ∃vb,v= .tuple #[vb,I 0]/\Own w' (made wa w') wa.heap.size 5 1 vb (bs.map U1):=by
  have dc:r.at w6 X6 kr kr (.slice ab an ac) kr kr kr:=by
   cases hr<;>exact⟨Sl.nil _ _ _,Sl.nil _ _ _,ho6.sl,Sl.nil _ _ _,eY.nil _ _ _,eY.nil _ _ _⟩
  have lW:r.small:=by cases hr<;>exact Ej rfl rfl rfl
  refine(DJ dc lW (λ_=>by rw[wA];omega)).mono λv wb w' _ hq=>?_;have A4:r.fJ=0:=by
   unfold Rec.fJ;rw[if_neg (by simp[aqt]),if_neg (by rw[wA];omega)]
  rw[if_neg (by simp[A4]),wA] at hq;exact hq
 refine cM aqx kQ ku.s.has ?_;rintro _ QA w7 X7 ⟨ve,rfl,hoe⟩ Ss Ha np;have Dh:=ku.since np;have hx7:=hx6.since np;have aqy:=aqw.since np;repeat' refine aI ?_;intros
 refine ib (Q:=λK=> ∀w X,ai X7 w7 X w->K (B true) w X) ?_ λK hK=>?_
 ·intro w8 X8 lV;have Uw:=Dh.since lV;have hx8:=hx7.since lV;have aqz:=aqy.since lV;have Bi:=(ho6.since np).since lV;clear hs;repeat' refine aq ?_;intros
  refine Gn (o:=0) hx8 rfl kQ (eu rfl) rfl ?_ Uw.s.has λw9 X9 c9 QC=>?_
  ·rfl
  have hT9:=Uw.dT (F':=λk=>D6 w0 X4 k\/made Oo w5 k) c9 (λk ah=>by subst ah;exact .inl ⟨adZ.1,by omega⟩) λk ah=>.inl ah;have amn:=aqz.dT c9 (λe=>by have e:eb=xb:=e;omega);have JX:=Bi.dT c9 λg hg e=>by
   have e:g=xb:=e;subst e;exact Own.eT Bi hx8 kQ hg
  refine qo (o:=0) amn rfl kQ sQ rfl hT9.s.has λGA GB H9 Yt=>?_;have Hh:=hT9.dT (F':=λk=>D6 w0 X4 k\/made Oo w5 k) H9 (λk ah=>by subst ah;exact .inl ⟨aml.1,by omega⟩) λk ah=>.inl ah;have aqA:=QC.dT H9 (λe=>by have e:xb=eb:=e;omega);have ad0:=JX.dT H9 λg hg e=>by
   have e:g=eb:=e;subst e;exact Own.eT JX amn kQ hg
  unfold aK.fin;intro wa aL;refine Vl (X:=GB) (cs:=r.l kr kr (.slice ab an ac) kr kr kr) (aqA.kp aL) rfl (Yt.kp aL) ?_;exact⟨_,rfl,⟨aL.os.trans Hh.s.kp.os,aL.tape.trans Hh.s.kp.tape,aL.output.trans Hh.s.kp.output,ad Hh.s.kp.size aL.size,λk hl hn=>(aL.block k (Hh.s.sub k ⟨hl,hn⟩)).trans (Hh.s.kp.block k ⟨hl,hn⟩)⟩,.slice ab an ac,rfl,(ad0.kp aL).tight⟩
 ·repeat' refine aq ?_;intros
  refine ff (XB (hoe.sl.mono Ha) (h0.mv Dh.s.mv) cu) kQ Dh.s.has λw8 X8 lV=>?_;exact hK _ _ lV
end
def Yu (n:br) (r:Rec):Prop:=
 (r.kind=8/\r.n=n.c.aR+1)\/(r.kind=9/\r.aG.dW=n.c.id/\r.aG.aR=n.c.aR/\getM r.aG n.bl=none)\/(r.kind=10/\ ∃b,b∈n.cl/\getM r.aG n.bl=some b/\(n.C b).ended=false)
def Wk (n:br) (r:Rec) (vp:Value) (n':br):Prop:=
 (r.kind=8/\n'= { n with c:= { n.c with aR:=n.c.aR+1 } })\/(r.kind=9/\ ∃v,al9 n r vp v n')\/
 (r.kind=10/\ ∃b,getM r.aG n.bl=some b/\n'=nI n b { n.C b with v2:=aX,waits:=[],ended:=true })
section
variable {n : br}
theorem Yv (h:j9 w own n) (hX:tn own X) (hr:Yu n r) (hp:Sl w (bZ own 4) 1 vp (r.parts.map I1)) (wy:r.parts.length<=2^40) (qI:n.cl.length<=2^20) (hl:0<=n.c.aR/\n.c.aR<=2^30):
  Ct pg 80 #[ptr n.nb 0,r.v aX aX vp aX aX aX] w X (gH own) λv wa w'=>NQ ea own wa w' λ_ n'=>v=B true/\Wk n r vp n':=by
 intro w0 hk;have s:=St.init h hX hk;replace hp:=hp.mv (yU hX hk);have rI:=s.v.1;refine LU.1 λ_=>?_;have hs:=s.rf;rcases hr with⟨hk,hn⟩|⟨hk,h1,h2,h3⟩|⟨hk,b,hb,h1,h2⟩
 ·repeat' refine aI ?_;intros
  refine s.st (o:=1) 1 (s.get 1) (ea { n with c:= { n.c with aR:=n.c.aR+1 } }) zQ kQ (eu rfl) rfl (λ_ _ _ h=>h) oe λw1 X1 ir s1 m1=>?_;clear hs rI;have rI:=s1.v.1;have hs:=s1.rf;repeat' refine aI ?_;intros
  exact s1.fin λ_ _=>⟨by first|rfl|(congr 1;simp;omega),.inl ⟨hk,rfl⟩⟩
 ·repeat' refine aI ?_;intros
  refine nr (kt:=34) (et:=124) (kv:=λk:bX=>k.v) (k:=r.aG) (.pointer none) (s.Aa 6:) tf kQ kQ (λv b kV rX=>?_) (λhn=>?_)
  ·rw[h3] at kV;cases kV
  repeat' refine aq ?_;intros
  refine s.call (OD (r:=r) s.h s.x hp wy qI) kQ λv w1 X1 ir n1' s1 q1 m1=>?_;clear hs
  skip
  exact s1.fin λ_ _=>⟨rfl,.inr (.inl ⟨hk,_,q1⟩)⟩
 ·obtain⟨hc,o3,o2,HQ⟩:=s.vc hb;rw[h2] at hc;repeat' refine aI ?_;intros
  refine nr (kt:=34) (et:=124) (kv:=λk:bX=>k.v) (k:=r.aG) (.pointer none) (s.Aa 6:) tf kQ kQ (λv b' kV rX=>?_) (λhn=>?_);case refine_2=>rw[h1] at hn;cases hn
  simp only[zz] at rX;subst rX;obtain rfl:b'=b:=by rw[h1] at kV;exact(cA kV).symm
  repeat' refine aq ?_;intros
  refine s.st (o:=30) (tx b' 4) (s.h.BZ hb).1 (ea (nI n b' { n.C b' with ended:=true })) zQ kQ sQ rfl (λ_ _ _ h=>M9 dQ h) Wh (λw1 X1 ir s1 m1=>?_) iz.1 iz.2;have mc:b'∈(nI n b' { n.C b' with ended:=true }).cl:=hb;clear hs hc;have hs:=s1.rf;obtain⟨hc,-⟩:=s1.vc mc;rw[LJ] at hc;repeat' refine aq ?_;intros
  have iq:=s1.h.BZ mc;rw[LJ] at iq;refine qo (o:=29) hc zQ kQ sQ rfl s1.has λw2 X2 c2 jJ=>?_;obtain⟨lZ,s2,m2⟩:=s1.jX (F':=ea (nI n b' { n.C b' with v2:=aX,waits:=[],ended:=true })) (j:=tx b' 4) (N:=λ_=>False) c2 (λc=>c=tx b' 4\/c=tx b' 5) (λk e=>.inl (by rw[show k=b' from e];exact iq.1.1)) (λe=>by unfold tx at e;omega) (λe=>by unfold tx at e;omega) (λ_ h=>h.elim) iz.1
   (λaM e1 e2 m c hc=>by
    rcases hc with rfl|rfl
    ·exact M9 dQ ⟨(e1 b' (by rw[show ir b'=tx b' 4 from iq.1.1];exact iz.1)).trans iq.1.1,jJ.2⟩
    ·exact M9 dQ (Own.nil _ _ _ _ _))
   λc hc K A m h=>by
    have:=Wh (n:=nI n b' { n.C b' with ended:=true }) (b:=b') (Q:=λc=> ¬(c=tx b' 4\/c=tx b' 5)) (d:= { n.C b' with v2:=aX,waits:=[],ended:=true }) (by rw[LJ];intro i hq w K A h;rcases i with _|_|_|_|_|_|_|_|i<;>first|exact h|exact absurd (.inl rfl) hq|exact absurd (.inr rfl) hq) c hc _ _ _ h
    rwa [Us] at this
  clear hs hc;have hs:=s2.rf
  skip
  exact s2.fin λ_ _=>⟨rfl,.inr (.inr ⟨hk,b',h1,rfl⟩)⟩
end
abbrev pA:ByteArray:=⟨#[108,111,103]⟩
abbrev kL:=Int×List (Rec×Bool)
def IX (t:bX) (l:List (Rec×Bool)):List (Rec×Bool):=l.map λx=>if x.1.aG=t then(x.1,true)else x
open Classical in
noncomputable def tY (s:kL) (r:Rec):Option kL:=
 if r.kind=8 then(if r.n=s.1+1 then some (s.1+1,s.2)else none)
 else if r.kind=9 then(if r.aG.dW=1/\r.aG.aR=s.1/\(∀x∈s.2,x.1.aG≠r.aG)then some (s.1,s.2++[(r,false)])else none)
 else if r.kind=10 then(if∃x∈s.2,x.1.aG=r.aG/\x.2=false then some (s.1,IX r.aG s.2)else none)
 else none
noncomputable def zj:kL->List Rec->Option kL
 |s,[]=>some s
 |s,r::l=>(tY s r).bind λs'=>zj s' l
theorem OG: ∀(l l':List Rec) (s:kL),zj s (l++l')=(zj s l).bind λs'=>zj s' l'
 |[],l',s=>rfl
 |r::l,l',s=>by
  show(tY s r).bind (λs'=>zj s' (l++l'))=((tY s r).bind λs'=>zj s' l).bind _
  cases tY s r with
  |none=>rfl
  |some x=>exact OG l l' x
variable {s1 s2 : kL}
theorem afL {l:List Rec} {s:kL} (h:zj s l=some s1) (h2:tY s1 r=some s2):zj s (l++[r])=some s2:=by
 rw[OG,h]
 show(tY s1 r).bind (λs'=>some s')=_
 rw[h2];rfl
def br.abs (n:br):kL:=(n.c.aR,n.cl.map λb=>((n.C b).r,(n.C b).ended))
def LV (n:br):Prop:= ∀t b,getM t n.bl=some b↔b∈n.cl/\(n.C b).r.aG=t
structure Rest (n n':br):Prop where
 nb:n'.nb=n.nb
 db:n'.db=n.db
 mb:n'.mb=n.mb
 L:n'.L=n.L
 m:n'.m=n.m
 al:n'.al=n.al
 ds:n'.ds=n.ds
 id:n'.c.id=n.c.id
 fZ:n'.c.fZ=n.c.fZ
 lb:n'.c.lb=n.c.lb
 pre:n'.pre=n.pre
 ex:n'.ex=n.ex
 out:n'.vm=n.vm/\n'.va=n.va/\n'.rm=n.rm/\n'.ra=n.ra/\n'.ms=n.ms
theorem Rest.refl (n:br):Rest n n:=⟨rfl,rfl,rfl,rfl,rfl,rfl,rfl,rfl,rfl,rfl,rfl,rfl,rfl,rfl,rfl,rfl,rfl⟩
theorem Rest.trans {a b c:br} (h:Rest a b) (k:Rest b c):Rest a c:=⟨k.nb.trans h.nb,k.db.trans h.db,k.mb.trans h.mb,k.L.trans h.L,k.m.trans h.m,k.al.trans h.al,k.ds.trans h.ds,k.id.trans h.id,k.fZ.trans h.fZ,k.lb.trans h.lb,k.pre.trans h.pre,k.ex.trans h.ex,k.out.1.trans h.out.1,k.out.2.1.trans h.out.2.1,k.out.2.2.1.trans h.out.2.2.1,k.out.2.2.2.1.trans h.out.2.2.2.1,k.out.2.2.2.2.trans h.out.2.2.2.2⟩
variable {s' : kL}
section
variable {n : br}
theorem afM (h:LV n) (hi:n.c.id=1) (hr:tY n.abs r=some s'):Yu n r:=by
 unfold tY at hr;split at hr
 ·rename_i hk;split at hr
  ·rename_i h1;exact .inl ⟨hk,h1⟩
  ·cases hr
 ·split at hr
  ·rename_i hk;split at hr
   ·rename_i h1;refine .inr (.inl ⟨hk,h1.1.trans hi.symm,h1.2.1,?_⟩);cases e:getM r.aG n.bl with
    |none=>rfl
    |some b=>
     obtain⟨h2,h3⟩:=(h _ _).1 e;exact absurd h3 (h1.2.2 _ (List.mem_map.2 ⟨b,h2,rfl⟩))
   ·cases hr
  ·split at hr
   ·rename_i hk;split at hr
    ·rename_i h1;obtain⟨x,hx,h2,h3⟩:=h1;obtain⟨b,hb,rfl⟩:=List.mem_map.1 hx;exact .inr (.inr ⟨hk,b,hb,(h _ _).2 ⟨hb,h2⟩,h3⟩)
    ·cases hr
   ·cases hr
theorem Yw (h:LV n) (hr:tY n.abs r=some s') (ok:Yu n r) (hs:Wk n r vp n') (hw: ∀b∈n.cl,(n.C b).waits.length<=80) (hp:r.parts.length<=80):
  n'.abs=s'/\LV n'/\Rest n n'/\(∀b∈n'.cl,(n'.C b).waits.length<=80)/\n'.cl.length<=n.cl.length+1:=by
 unfold tY at hr;unfold Wk nI at hs;rcases hs with⟨hk,rfl⟩|⟨hk,v,bx,BY,v2,_,gn,rfl⟩|⟨hk,b,hb,rfl⟩
 ·rw[if_pos hk] at hr;split at hr
  ·exact⟨cA hr,h,⟨rfl,rfl,rfl,rfl,rfl,rfl,rfl,rfl,rfl,rfl,rfl,rfl,rfl,rfl,rfl,rfl,rfl⟩,hw,dD _⟩
  ·cases hr
 ·have pc:getM r.aG n.bl=none:=by
   rcases ok with ok|ok|ok
   ·omega
   ·exact ok.2.2.2
   ·omega
  rw[if_neg zQ,if_pos hk] at hr;have cu: ∀b∈n.cl,b≠bx:=λb hb e=>gn (e▸hb);split at hr
  ·have e:=cA hr;refine⟨?_,λt b=>?_,⟨rfl,rfl,rfl,rfl,rfl,rfl,rfl,rfl,rfl,rfl,rfl,rfl,rfl,rfl,rfl,rfl,rfl⟩,λb hb=>?_,by simp⟩
   ·rw[<-e];unfold br.abs;dsimp only;rw[aC];refine congrArg (Prod.mk _) ?_;rw[eB (l:=n.cl) (g:=λb=>((n.C b).r,(n.C b).ended)) λb hb=>by grind];simp
   ·dsimp only;by_cases ht:t=r.aG
    ·subst ht;rw[jK];constructor
     ·grind
     ·rintro⟨h1,h2⟩;rcases List.mem_append.1 h1 with h1|h1
      ·rw[if_neg (cu b h1)] at h2;rw[(h _ _).2 ⟨h1,h2⟩] at pc;cases pc
      ·rw[List.mem_singleton.1 h1]
    ·rw[pO ht];constructor
     ·intro e;obtain⟨h1,h2⟩:=(h _ _).1 e
      grind
     ·rintro⟨h1,h2⟩;rcases List.mem_append.1 h1 with h1|h1
      ·rw[if_neg (cu b h1)] at h2;exact(h _ _).2 ⟨h1,h2⟩
      ·rw[ax] at h1
       grind
   ·dsimp only at hb⊢;split
    ·exact hp
    ·rename_i hn;rcases List.mem_append.1 hb with hb|hb
     ·grind
     grind
  ·cases hr
 ·rw[if_neg zQ,if_neg zQ,if_pos hk] at hr;obtain⟨hbc,Ui⟩:=(h _ _).1 hb;split at hr
  ·have e:=cA hr;refine⟨?_,λt b'=>?_,⟨rfl,rfl,rfl,rfl,rfl,rfl,rfl,rfl,rfl,rfl,rfl,rfl,rfl,rfl,rfl,rfl,rfl⟩,λb' dO=>?_,dD _⟩
   ·rw[<-e];unfold br.abs IX;dsimp only;rw[cd];refine congrArg (Prod.mk _) (eB λb' dO=>?_);by_cases e:b'=b
    ·grind
    ·rw[if_neg e];have: ¬(n.C b').r.aG=r.aG:=λe'=>by
      have:=(h _ _).2 ⟨dO,e'⟩
      grind
     simp[this]
   ·refine(h t b').trans (and_congr_right λ_=>?_)
    grind
   grind
  ·cases hr
end
theorem gD.count: ∀{l:List dV} {s:dV} {f:Nat},gD (l++[s])->oW (l++[s])=some f->s.first+s.bw.length=f+(fI (l++[s])).length
 |[],s,f,_,h=>by
  have:s.first=f:=cA h
  simp[fI,this]
 |[a],s,f,h,hf=>by
  have h1:s.first=a.first+a.bw.length:=h.1
  have h2:a.first=f:=cA hf
  simp[fI];omega
 |a::b::l,s,f,h,hf=>by
  have h1:b.first=a.first+a.bw.length:=h.1
  have h2:a.first=f:=cA hf
  have:=gD.count (l:=b::l) (s:=s) (f:=b.first) h.2.2 rfl;have e:fI (a::b::l++[s])=a.bw++fI (b::l++[s]):=by simp[fI]
  grind
theorem gD.has: ∀{l:List dV} {f k:Nat} {p:List Nat},gD l->oW l=some f->(fI l)[k]? =some p-> ∃(j:Nat) (s:dV),l[j]? =some s/\s.first<=f+k/\(∀(i:Nat) (t:dV),j<i->l[i]? =some t->f+k<t.first)/\s.bw[f+k-s.first]? =some p
 |[],_,_,_,_,h,_=>by cases h
 |s::l,f,k,p,hl,h,hk=>by
  have hf:s.first=f:=cA h
  have hr:fI (s::l)=s.bw++fI l:=by simp[fI]
  rw[hr] at hk;by_cases cI:k<s.bw.length
  ·rw[List.getElem?_append_left cI] at hk;refine⟨0,s,rfl,by omega,λi t hi ht=>?_,by simp_all⟩;cases i with
   |zero=>omega
   |succ i=>
    rw[iV] at ht;cases l with
    |nil=>cases ht
    |cons u r=>
     have h1:=hl.1;have hm:=av ht;rcases List.mem_cons.1 hm with rfl|hm
     ·omega
     ·have:=hl.tail.lt t hm;omega
  ·rw[List.getElem?_append_right zQ] at hk;cases l with
   |nil=>simp[fI] at hk
   |cons u r=>
    have h1:=hl.1;obtain⟨j,q,h2,h3,h4,h5⟩:=gD.has (l:=u::r) (f:=u.first) hl.tail rfl hk;have e:u.first+(k-s.bw.length)=f+k:=by omega
    rw[e] at h3 h4 h5;exact⟨j+1,q,by assumption,h3,λi t hi ht=>by
     cases i with
     |zero=>omega
     |succ i=>rw[iV] at ht;exact h4 i t zQ ht,h5⟩
structure Ux (r:Rec):Prop where
 co:Uv r
 err:r.err=0
 len:(gq r).length<=900
 isb: ∀b∈gq r,b<256
 ps:r.parts.length<=80
structure LX (x:LD) (pre:List dV) (s:dV) (rs:List Rec):Prop where
 up:pj x pre s
 fst:oW (pre++[s])=some 1
 AD:fI (pre++[s])=rs.map gq
 ok: ∀r∈rs,Ux r
 len:rs.length<=1000
variable {rs : List Rec} {s : dV} {x : LD}
theorem LX.next (h:LX x pre s rs):x.L.next=1+rs.length:=by
 have:=gD.count h.up.g.lk h.fst;rw[h.AD,af] at this;rw[h.up.next];exact this
variable {k : Nat}
theorem LX.has (h:LX x pre s rs) (hr:rs[k]? =some r):x.L.has (1+k) (gq r):=by
 unfold LM.has;rw[h.up.bJ];exact gD.has h.up.g.lk h.fst (by rw[h.AD,List.getElem?_map,hr];rfl)
theorem LX.head (h:LX x pre s rs): ∃u t,x.L.bJ=u::t/\u.first=1:=by
 have h1:=h.fst;rw[h.up.bJ];cases pre with
 |nil=>exact⟨s,[],rfl,cA h1⟩
 |cons u v=>exact⟨u,v++[s],rfl,cA h1⟩
theorem Yy {s:kL} (h:tY s r=some s'):s.1<=s'.1/\s'.1<=s.1+1:=by
 unfold tY at h;repeat' split at h
 all_goals first|cases h;done|(have e:=cA h;rw[<-e];dsimp only;omega)
variable {F : Nat -> qp} {db : Nat}
section
variable {N : XS} {n : br}
structure OI (n0 n:br) (s:kL) (k:Nat):Prop where
 abs:n.abs=s
 bl:LV n
 rest:Rest n0 n
 cw: ∀b∈n.cl,(n.C b).waits.length<=80
 cl:n.cl.length<=k
 aR:0<=n.c.aR/\n.c.aR<=k
structure ajK (l:List fe) (x:LD) (s1:kL) (db k:Nat) (n:br):Prop where
 db:n.db=db
 abs:n.abs=(s1.1+1,s1.2)
 bl:LV n
 id:n.c.id=1
 fZ:n.c.fZ=0
 al:n.al=[]
 ck:n.ck=⟨0,0,21⟩
 ds:n.ds=l.foldl ja []
 ld:(⟨n.L,n.m⟩:LD)=(x.iF 0 (gq (mg (s1.1+1)))).1
 ms:n.ms=[]
 vm:n.vm=aX
 va:n.va=aX
 rm:n.rm=[]
 ra:n.ra=[]
 cw: ∀b∈n.cl,(n.C b).waits.length<=80
 cl:n.cl.length<=k
 pre:n.pre=false
 ex:n.ex=[]
def lgR (lb db:Nat) (L:LM) (m:DM):qp:=⟨λw _ A=>Lg w A lb db L m,λh _ m=>ajL h m⟩
def diR (rb mb:Nat) (ds:tK):qp:=⟨λw _ A=>mD w A rb mb ds,λh _ m=>h.mv m⟩
theorem _root_.Go.aK.St.Iz (s:St w0 bY w X own F) (j:Nat) (r:qp) (hN: ∀k,N k->X k/\own k=0/\w0.heap.size<=k) (hr: ∀K,r.p w K N) (h0:j≠0:=by decide) (h4:j≠4:=by decide):
  ∃aM,St w0 bY w X aM (λc=>if c=j then r else F c)/\Mv (bZ own 4) w (bZ aM 4) w/\ ∀k,¬N k->aM k=own k:=by
 obtain⟨aM,s',m,e,-⟩:=s.jX (F':=λc=>if c=j then r else F c) (j:=j) (N:=N) (dY.oh s.rf nX) (· =j) (λ_ h=>h.elim) h0.symm h4.symm hN h0 (λaM _ e2 m c hc=>by subst hc;rw[if_pos rfl];exact r.mv (hr _) (Mv.refl _ _) (Mv.sub e2)) λc hc K A _ h=>by rw[if_neg hc];exact h
 exact⟨aM,s',m,e⟩
theorem Fu {l:List fe} {m:DM} {sf:kL} (h:Hs (Uq db m) w own) (hX:tn own X) (ha:Sl w (bZ own 4) 4 a (l.map fe.l)) (hc:Bt l=0)
  (zD: ∀x∈m.fs,x.1.size<=2^40) (iP:m.fs.length<=2^29) (Gu: ∀n,∀b∈m.bytes n,b<256) (hO:LD.BW pA 4096 m=(x,0)) (hL:LX x pre sg rs) (jE:zj (0,[]) rs=some sf) (DZ:(x.iF 0 (gq (mg (sf.1+1)))).2.2=0) (hke:(mg (sf.1+1)).fJ=0):
  Ct pg 36 #[ptr db 0,I 1,I 4096,a] w X (gH own) λv wa w'=>NQ ea own wa w' λ_ n=>v= .tuple #[ptr n.nb 0,I 0]/\ajK l x sf db rs.length n:=by
 intro w0 hk;have s:=St.init h hX hk;replace ha:=ha.mv (yU hX hk);clear h hX hk;refine SM.g (RP:=λ_ _=>False) (show Yz Tryz.f36=some (81,[8,9])from by kernel_rfl) (.inl rfl) aaQ Eg ?_;refine cz ?_;have hs:=s.rf;repeat' refine aI ?_;intros
 refine cM (afN (ha.mono (s.sub 4))) kQ hs.has ?_;rintro v1 DX w1 X1 q1 qw nY aB;rw[if_neg zQ] at q1;obtain⟨rb,mb,D,rfl,hD,al5⟩:=q1;obtain⟨ir,s1,m1,e1⟩:=(s.since aB).Iz (N:=D) 2 (diR rb mb (l.foldl ja [])) (λk hk=>⟨nY k (hD k hk),s.nw (ad qw (hD k hk).1)⟩) λ_=>al5;clear hs;have hs:=s1.rf;repeat' refine aI ?_;intros
 refine xQ (adz (dir:=pA) (sz:=4096) (s1.get 3:Dk w1 (bZ ir 3) db m) (s1.fxc 3) zD iP Gu dQ dQ dQ dQ) kQ s1.has (s1.sub 3) λv xN w2 X2 zx lK ko _ c2=>?_;rw[hO] at zx;obtain⟨lb,F2,rfl,hF2,_,g2⟩:=zx;replace g2:=g2 rfl;dsimp only at g2;obtain⟨lZ,s2,m2⟩:=s1.DD (F':=λc=>if c=2 then diR rb mb (l.foldl ja [])else if c=3 then lgR lb db x.L x.m else Q5) 3 c2 (λ_ e=>e) F2 (λk ah=>(hF2 k ah).imp id λe=>⟨ko k e,ad lK e.1⟩) (λ_ _=>g2) λc hc w K A h=>by
  by_cases e:c=2
  ·rw[if_pos e] at h⊢;exact h
  ·rw[if_neg e,if_neg hc];trivial
 rw[if_pos rfl];clear hs;have hs:=s2.rf;repeat' refine aI ?_;intros
 refine rL (kv:=λk:bX=>k.v) zz nX s2.has λab w3 X3 xg dt qS=>?_;obtain⟨nH,s3,m3,e3⟩:=(s2.since dt).Iz (N:=(· =ab)) 5 (mpR ab []) (λk hk=>by subst hk;exact⟨qS.x.1,s2.nw xg⟩) λ_=>qS.own;refine rL (kv:=λk:bX=>k.v) zz nX s3.has λtb w4 X4 htb gd Az=>?_;obtain⟨l7,s4,m4,e4⟩:=(s3.since gd).Iz (N:=(· =tb)) 6 (mpR tb []) (λk hk=>by subst hk;exact⟨Az.x.1,s3.nw htb⟩) λ_=>Az.own;clear hs;have hs:=s4.rf;repeat' first|refine aq ?_;intros|(refine Oq hs ?_;intro bx w X gn aB gw hs bt)
 obtain⟨mY,s5,m5,e5⟩:=(s4.since aB).Iz (N:=(· =bx)) 1 (Yf bx (G9 ⟨1,0,0,lb,rb,0,ab,aX,tb⟩ (.pointer none) aX aX) nT) (λk hk=>by subst hk;exact⟨bt.1,s4.nw aQ⟩) λ_=>⟨rfl,bt.2⟩;obtain⟨n0,Uy⟩: ∃n0:br,n0= { nb:=bx,db:=db,mb:=mb,c:=⟨1,0,0,lb,rb,0,ab,aX,tb⟩,ck:=.zero,ds:=l.foldl ja [],L:=x.L,m:=x.m,al:=[],bl:=[],vm:=aX,va:=aX,rm:=[],ra:=[],ms:=[],cl:=[],A:=λ_=>⟨⟨.zero,aX,.zero,0,aX,false,aX,.zero⟩,aX,[],[],[],[],[],false⟩,C:=λ_=>⟨mG .zero,aX,aX,[],false⟩,pre:=true } :=⟨_,rfl⟩;have hA: ∀b,¬n0.dE b:=λb h=>by
  rw[Uy] at h;exact h.elim (λ⟨t,e⟩=>by cases e) λe=>by cases e
 have hC: ∀b,b ∉ n0.cl:=λb h=>by rw[Uy] at h;cases h
 replace s5:Sn w0 own w X mY n0:=s5.to λc h0 h4 w K A h=>by
  by_cases hc:c<16
  ·subst Uy;unfold ea;rw[if_pos hc];rcases c with _|_|_|_|_|_|_|_|_|_|_|_|_|c<;>first|exact absurd rfl h0|exact h|exact Own.nil _ _ _ _ _|exact fu.nil _ _|exact λe=>Bool.noConfusion e|(intro t b e;cases e;done)|trivial
  ·unfold ea;rw[if_neg hc];generalize c/8-2=b;generalize c % 8=i;rcases i with _|_|_|_|_|_|_|_|i<;>first|exact λha=>absurd ha (hA _)|exact λha=>absurd ha (hC _)|trivial
 clear hA hC;have hI:OI n0 n0 (0,[]) 0:=by
  rw[Uy];exact⟨rfl,λt b=>by constructor<;>intro h<;>simp[getM] at h,Rest.refl _,λb hb=>absurd hb sQ,au _,⟨tu _,tu _⟩⟩
 have hx:n0.nb=bx/\n0.c.lb=lb/\n0.db=db/\n0.L=x.L/\n0.m=x.m/\n0.c.id=1/\n0.c.fZ=0/\n0.al=[]/\n0.ds=l.foldl ja []:=by rw[Uy];exact⟨rfl,rfl,rfl,rfl,rfl,rfl,rfl,rfl,rfl⟩
 have hy:n0.pre=true/\n0.ex=[]/\n0.vm=aX/\n0.va=aX/\n0.rm=[]/\n0.ra=[]/\n0.ms=[]:=by rw[Uy];exact⟨rfl,rfl,rfl,rfl,rfl,rfl,rfl⟩
 clear Uy bt;obtain⟨x1,x2,x3,x4,x5,x6,x7,x8,x9⟩:=hx;obtain⟨u,tl,Lv,hu1⟩:=hL.head;have hLK:=hL.up.Lu;have nL:=hL.next
 have pM:=hL.len;have lg: ∀{w' X' aM n'},Sn w0 own w' X' aM n'->Rest n0 n'->Lg w' (bZ aM 3) lb db x.L x.m:=λ{w' X' aM n'} s hr=>by
  have:Lg w' (bZ aM 3) n'.c.lb n'.db n'.L n'.m:=s.get 3
  rwa [hr.lb,hr.db,hr.L,hr.m,x2,x3,x4,x5] at this
 have hfx: ∀{FL:XS} {aM:Nat->Nat},(∀k,FL k->bZ aM 3 k)-> ∀k,FL k->gH aM k:=λh k hk=>by have:_=3:=h k hk;exact⟨by omega,by omega⟩
 obtain⟨FL,FD,sv,bl,hW⟩:=(lg s5 (Rest.refl _)).lw;refine ff (Oz hW.l Lv (s5.t.fx (hfx hW.hL))) kQ s5.has λw6 X6 sU=>?_;rw[hu1];have s6:=s5.since sU;refine Bc (λn a b c w X=> ∃(k:Nat) (aM:Nat->Nat) (n':br) (s:kL),a=I ((1+k:Nat):Int)/\b= .agg #[I 0]/\c= .agg #[ptr bx 0]/\n=rs.length-k/\k<=rs.length/\Sn w0 own w X aM n'/\OI n0 n' s k/\zj s (rs.drop k)=some sf) rs.length
  ⟨0,mY,n0,(0,[]),rfl,rfl,rfl,rfl,ak _,s6,hI,jE⟩ ?_
 clear s6 sU s5 hW hI jE hs;rintro n _ _ _ w7 X7 ⟨k,rZ,n7,s,rfl,rfl,rfl,rfl,uF,s7,hI,jE⟩;have kZ:n7.nb=bx:=hI.rest.nb.trans x1;obtain⟨FL,FD,sv,bl,hW⟩:=(lg s7 hI.rest).lw;refine ff (Ei hW.l hLK (s7.t.fx (hfx hW.hL))) kQ s7.has λw8 X8 lV=>?_;rw[nL];have s8:=s7.since lV;replace hW:=hW.mv (lV.gY (s7.sub 3));clear s7 lV;have hs:=s8.rf;rcases dB rs k with⟨cI,r,hr,hd⟩|⟨dC,hd⟩
 ·rw[hd] at jE;obtain⟨s',rI,jJ⟩:=Option.bind_eq_some_iff.1 (show(tY s r).bind (λs'=>zj s' (rs.drop (k+1)))=some sf from jE);have hG:=hL.ok r (av hr);have asL:=hG.len;have GC:=hG.ps;repeat' refine aI ?_;intros
  refine cM (adB hW.l hLK (hL.has hr) zQ Lv zQ (by rw[nL];omega) (s8.t.fx (hfx hW.hL))) kQ s8.has ?_;rintro _ H3 w9 X9 ⟨vb,rfl,yT⟩ asM aqB BV;have s9:=s8.since BV;clear hs;have hs:=s9.rf;repeat' refine aq ?_;intros
  refine cM (SK hG.co (yT.sl.mono aqB) hG.err zQ hG.isb) kQ s9.has ?_;rintro _ amo GA GB ⟨va,rfl,hva⟩ ajM Nc Sz;obtain⟨aox,Rg,-,-,p4⟩:=(s9.since Sz).yD (N:=made amo GA) λq hq=>⟨Nc q hq,s9.nw (ad ajM hq.1)⟩;have hp:Sl GA (bZ aox 4) 1 va (r.parts.map I1):=hva.sl.mono p4;have oa:=hp.one;obtain⟨e1,e2,e3,rfl⟩:=hp.form;clear hs;have hs:=Rg.rf;have ok:=afM hI.bl (hI.rest.id.trans x6) (by rw[hI.abs];exact rI);have qI:=hI.cl;have GD:=hI.aR;have wo:=Yy rI;have e0:s.1=n7.c.aR:=by rw[<-hI.abs];rfl
  repeat' refine aI ?_;intros
  refine ib (Q:=λK=> ∀w X aM n',Sn w0 own w X aM n'->OI n0 n' s' (k+1)->K (B true) w X) ?_ λK hK=>?_
  ·intro w12 X12 Rh n12 Uz aqC;clear hs;repeat' refine aq ?_;intros
   exact xV (rs.length-(k+1)) zQ ⟨k+1,Rh,n12,s',congrArg I zQ,rfl,rfl,rfl,by omega,Uz,aqC,jJ⟩
  ·repeat' refine aq ?_;intros
   rw[<-kZ];refine Rg.call (Yv (r:=r) Rg.h Rg.x ok hp zQ zQ zQ) kQ λv w12 X12 Rh n12 Uz ⟨hv,hS⟩ _=>?_;subst hv;obtain⟨i1,i2,i3,i4,i5⟩:=Yw hI.bl (by rw[hI.abs];exact rI) ok hS hI.cw GC;have e12:s'.1=n12.c.aR:=by rw[<-i1];rfl
   exact hK _ _ Rh n12 Uz ⟨i1,i2,hI.rest.trans i3,i4,by omega,by omega,by omega⟩
 have ah:k=rs.length:=by omega
 rw[hd] at jE;obtain rfl:s=sf:=cA jE;have e0:s.1=n7.c.aR:=by rw[<-hI.abs];rfl
 rw[e0] at DZ hke;subst kZ;have GD:=hI.aR;have oc:n7.c.id=1:=hI.rest.id.trans x6;have hb8:(gq (mg (n7.c.aR+1))).length<=900:=by
  have:=fD 8;have:=fD (n7.c.aR+1);rw[Rc,aa];omega
 have hr8:=s8.v.1;repeat' refine aI ?_;intros
 have eK:jG n7 (mg (n7.c.aR+1))=x.iF 0 (gq (mg (n7.c.aR+1))):=by
  unfold jG;rw[hI.rest.L,hI.rest.m,x4,x5,hke];rfl
 refine s8.We (nb:=n7.nb) (db:=n7.db) (QP:=M8 n7 (mg (n7.c.aR+1))) (Fl (r:=mg (n7.c.aR+1)) s8.h s8.x (by rw[hI.rest.L,hI.rest.m,x4,x5];exact hL.up) (ab2 rfl rfl rfl rfl rfl) (Ej rfl rfl rfl) zQ) kQ (λv w9 X9 pQ n9 s9 ⟨k1,k2,k3⟩ _=>?_) λwb _ ⟨_,_,_,_,xZ⟩=>by
  have:=xZ.1;rw[eK,DZ] at this;exact absurd this dQ
 subst k2;rw[eK,DZ];have y1:n9.nb=n7.nb/\n9.c=n7.c:=by rw[k3];exact⟨rfl,rfl⟩
 rw[<-y1.1];have asN:0<=n9.c.aR/\n9.c.aR<=k:=by rw[y1.2];exact GD
 clear hs hr8;have hs:=s9.rf;have QC:=s9.v.1;repeat' refine aI ?_;intros
 refine s9.st (o:=1) 1 (s9.get 1) (ea { n9 with c:= { n9.c with aR:=n9.c.aR+1 } }) zQ kQ (eu rfl) rfl (λ_ _ _ h=>h) oe λGA GB asa Q9 m10=>?_;clear hs QC;have hs:=Q9.rf;have Yt:=Q9.v.1;repeat' refine aq ?_;intros
 obtain⟨n10,ah3⟩: ∃n10:br,n10= { n9 with c:= { n9.c with aR:=n9.c.aR+1 } } :=⟨_,rfl⟩;rw[<-ah3] at Q9 Yt;have y2:n10.nb=n9.nb/\n10.c.id=1:=by rw[ah3];exact⟨rfl,by rw[y1.2];exact oc⟩
 rw[<-y2.1];refine ff (Bo (Y:=GB) Yt (λ_ h=>h) (by rw[y2.2];decide)) kQ Q9.has λRi UA Fv=>?_;rw[y2.2];have Rg:=Q9.since Fv;refine cM (afO (node:=21) (fl:=.zero) dQ dQ dQ) kQ Fv.has ?_;rintro _ asO w12 X12 ⟨cb,rfl,A9⟩ aoy aoz uH;obtain⟨Rh,Uz,m12,e12⟩:=(Rg.since uH).Iz (N:=(· =cb)) 7 ⟨λw _ A=>aH w A cb (Hb ⟨0,0,21⟩) IF/\(⟨0,0,21⟩:cn).may=true,λh _ m=>⟨h.1.mv m,h.2⟩⟩ (λk e=>by subst e;exact⟨aoz k A9.1,Rg.nw (ad aoy A9.1.1)⟩) λ_=>⟨⟨rfl,A9.2⟩,by decide⟩;clear hs Yt;have hs:=Uz.rf;have amp:aH w12 (bZ Rh 1) n10.nb (G9 n10.c n10.DY n10.vm n10.va) nT:=Uz.get 1;have hrX:=amp.mono (Uz.sub 1);repeat' refine aq ?_;intros
 refine Uz.st (o:=6) 1 amp (ea { n10 with c:= { n10.c with cb:=cb },ck:=⟨0,0,21⟩,pre:=false }) zQ kQ (eu rfl) rfl (λ_ _ _ h=>h) (λc hc w K A h=>?_) λw13 X13 aoA s13 m13=>?_
 ·by_cases e:c=7
  ·subst e;exact λ_=>h
  ·rw[if_neg e] at h;exact(oe: ∀c,(c≠1/\c≠7)-> ∀w K A,(ea n10 c).p w K A->(ea { n10 with c:= { n10.c with cb:=cb },ck:=⟨0,0,21⟩,pre:=false } c).p w K A) c ⟨hc,e⟩ w K A h
 clear hs hrX;have hs:=s13.rf;repeat' refine aq ?_;intros
 obtain⟨y3,y4,y5,y6,y7,y8,y9⟩:=hy;have ho:=hI.rest.out;refine s13.t.adY λwa aL=>⟨aoA,_,s13.e,s13.h.kp s13.x aL,rfl,?_⟩;rw[ah3,k3];refine⟨hI.rest.db.trans x3,?_,hI.bl,oc,hI.rest.fZ.trans x7,hI.rest.al.trans x8,rfl,hI.rest.ds.trans x9,?_,ho.2.2.2.2.trans y9,ho.1.trans y5,ho.2.1.trans y6,ho.2.2.1.trans y7,ho.2.2.2.1.trans y8,hI.cw,by rw[<-ah];exact hI.cl,rfl,hI.rest.ex.trans y4⟩
 ·rw[<-hI.abs];rfl
 ·rw[e0,<-eK]
end
section
variable {Y : XS} {n : br} {nb : Nat} {m : DM}
theorem Vr (h:LB w X nb) (oa:aK.one a=true):
  Ct pg 29 #[ptr nb 0,I gP,a] w X nX λv _ _=>v= .tuple #[.agg #[I 0,I 0,I 0],.agg #[aX,aX],I 12]:=by
 intro w0 hk;obtain⟨x0,x1,x2,x3,x5,x6,x7,x8,x9,vm,va,bt⟩:=h.mv hk.cE;refine BR.g (RP:=λ_ _=>False) (g0:=59) (cb:=[3,7,8,6]) (cv:=[]) kQ (.inl rfl) Om Eg ?_;rw[Pa HT,Xs HT];refine cz ?_;have hs:=ai.init w0;repeat' refine aq ?_;intros
 exact cH hs λwa aL=>rfl
theorem Vs {g:cJ} (h:LB w X nb) (hm:g.at w Y vk vs vw vp vr vc vh vd):
  Ct pg 25 #[ptr nb 0,I gP,g.v vk vs vw vp vr vc vh vd] w X nX λv _ _=>v=Wj:=by
 intro w0 hk;obtain⟨x0,x1,x2,x3,x5,x6,x7,x8,x9,vm,va,bt⟩:=h.mv hk.cE;refine B2.g (RP:=λ_ _=>False) (g0:=51) (cb:=[3,6,7]) (cv:=[]) kQ (.inl rfl) On Eg ?_;rw[Pa HT,Xs HT];refine cz ?_;have hs:=ai.init w0;repeat' refine aq ?_;intros
 exact cH hs λwa aL=>rfl
theorem Vt (h:LB w X nb):Ct pg 16 #[ptr nb 0,I gP] w X nX λv _ _=>v=Wj:=by
 intro w0 hk;obtain⟨x0,x1,x2,x3,x5,x6,x7,x8,x9,vm,va,bt⟩:=h.mv hk.cE;refine Dn.1 λhs=>?_;repeat' refine aq ?_;intros
 exact cH hs λwa aL=>rfl
def aqD (h:j9 w own n) (hX:tn own X):aH w X n.nb (G9 n.c n.DY n.vm n.va) nT:=(h.gL 1 dQ dQ:aH w (bZ own 1) _ _ _).mono λk (e:own k=1)=>hX k zQ
theorem YA (h:j9 w own n) (hX:tn own X):Ct pg 26 #[ptr n.nb 0] w X nX λv _ _=>v=I n.c.aR:=by
 intro w0 hk;have bt:=(aqD h hX).mv hk.cE;have hs:=ai.init w0;refine LY.1 λ_=>?_;repeat' first|refine aq ?_;intros|(refine qr ?_;intro wa hk;rfl)
def DM.oX (m:DM) (n:Int):DM:=if m.dn then m else { m with ar:=n.toNat }
theorem aa8 (h:j9 w own n) (hX:tn own X) (hz:z<2^63):
  Ct pg 14 #[ptr n.db 0,I z] w X (gH own) λv wa w'=>NQ ea own wa w' λ_ n'=>v= .tuple #[]/\n'= { n with m:=n.m.oX z } :=by
 intro wa hk;have ha:=h.kp hX hk;obtain⟨FL,FD,sv,bl,hW⟩:=(ha.gL 3 dQ dQ:Lg wa (bZ own 3) n.c.lb n.db n.L n.m).lw;have cI: ∀k,FD k->k<wa.heap.size:=λk ah=>ha.lt k (by have:own k=3:=hW.hD k ah;omega);refine((Rj hW.d (λk ah=>⟨cI k ah,cI k ah⟩) hz) wa (Kp.refl _ _)).mono ?_;rintro e w' ⟨v,he,hf,hv,hd⟩;have wD:Fr (bZ own 3) wa w':=hf.mono hW.hD;exact⟨v,he,wD.mono λk (e:own k=3)=>⟨by omega,by omega⟩,own,_,Cp.refl _ _,ha.one (F':=ea { n with m:=n.m.oX z }) 3 wD.size (λk hk h3=>wD.block k (ha.lt k hk) h3) ⟨FL,FD,sv,bl,hW.dj,hW.hL,hW.hD,hW.l.mv λk hk hl=>⟨hk,hf.block k hl λh=>hW.dj k hk h⟩,hd⟩ oe,hv,rfl⟩
theorem aa9 (h:adN w own nb db m) (hX:tn own X) (hz:z<2^63) (hd:m.dn=true):
  Ct pg 14 #[ptr db 0,I z] w X (gH own) λv wa w'=>NQ (Ur nb db) own wa w' λ_ m'=>v= .tuple #[]/\m'=m:=by
 intro wa hk;have ha:=h.kp hX hk;refine((Rj (ha.gL 3 dQ dQ:Dk wa (bZ own 3) db m) (λk (e:own k=3)=>⟨ha.lt k zQ,ha.lt k zQ⟩) hz) wa (Kp.refl _ _)).mono ?_;rintro e w' ⟨v,he,hf,hv,hdk⟩;rw[if_pos hd] at hdk;exact⟨v,he,hf.mono λk (e:own k=3)=>⟨by omega,by omega⟩,own,m,Cp.refl _ _,ha.one 3 hf.size (λk hk h3=>hf.block k (ha.lt k hk) h3) hdk λ_ _ _ _ _ h=>h,hv,rfl⟩
theorem _root_.Go.aK.St.kst (s:Sn w0 bY w X own n):St w0 bY w X own (Uq n.db n.m):=s.to λc h0 h4 w K A h=>by
 rcases c with _|_|_|_|c<;>first|exact Lg.dk h|trivial
theorem _root_.Go.aK.St.aqE (s:St w0 bY w X own (Ur nb db m)):St w0 bY w X own (Uq db m):=s.to λc h0 h4 w K A h=>by
 rcases c with _|_|_|_|c<;>first|exact h|trivial
theorem _root_.Go.aK.St.mE {vq:Value} {cT:List Int} {N:Value->World->XS->Prop} (s:St w0 bY w X own (Uq db m)) (hq:Sl w (bZ own 4) 1 vq (cT.map I1)) (hn: ∀x∈m.fs,x.1.size<=2^40) (hl:m.fs.length<=2^40)
  (k: ∀w' X' aM,St w0 bY w' X' aM (Uq db (m.mE cT))->N (.tuple #[]) w' X'):eC pg R X w true 38 #[ptr db 0,vq] N:=
 xQ (XJ (s.get 3:Dk w (bZ own 3) db m) (s.fxc 3) hq (λk (e:own k=4)=>⟨s.x k zQ,λh:own k=3=>by omega⟩) hn hl) kQ s.has (s.sub 3) λv wa w' X' ⟨hv,hd⟩ _ _ _ c=>by
  subst hv;obtain⟨aM,s',_⟩:=s.DD (F':=Uq db (m.mE cT)) 3 c (λ_ e=>e) (bZ own 3) (λ_ e=>.inl e) (λ_ _=>hd) λc hc w K A h=>by rcases c with _|_|_|_|c<;>first|exact h|exact absurd rfl hc
  exact k w' X' aM s'
theorem _root_.Go.aK.St.ajN {P:Program} {f:FuncId} {args:Array Value} {N:Value->World->XS->Prop} {Q:Value->World->(Nat->Nat)->br->Prop} {dv:Value} {QP:DM->Prop} (s:Sn w0 bY w X own n) (h:Ct P f args w X (gH own) λv wa w'=>NQ ea own wa w' (Q v w')\/(v=dv/\DQ own nb db wa w' QP)) (hf:enters P f=true)
  (k: ∀v w' X' aM n',Sn w0 bY w' X' aM n'->Q v w' aM n'->Mv (bZ own 4) w (bZ aM 4) w'->N v w' X') (kd: ∀w' X' aM m',St w0 bY w' X' aM (Ur nb db m')->QP m'->N dv w' X'):eC P R X w true f args N:=
 s.t.call h hf (λ_ h=>h) λv wa w' X' hq hle gC _ c=>by
  rcases hq with⟨aM,n',e,h',q⟩|⟨rfl,aM,m',e,h',q⟩
  ·exact k v w' X' aM n' (s.Yd hle gC c e h').1 q (s.Yd hle gC c e h').2
  ·exact kd w' X' aM m' (s.Yd (ea:=Ur nb db) hle gC c e h').1 q
end
structure pU (B c n:Nat) (x:LD):Prop where
 ok:mQ x.m
 ne:x.L.bJ≠[]
 d1:1<=x.L.dir.size
 d2:x.L.dir.size<=11
 r1:1<=x.L.room
 r2:x.L.room<=2^40
 keys: ∀k∈x.m.ks,∃f∈x.L.bJ.map (·.first),k=bV x.L.dir f
 last:x.L.fh∈x.m.ks
 pw:(x.L.bJ.map (·.first)).Pairwise (· < ·)
 emp:x.L.last.bw=[]->x.L.last.size=0
 pos: ∀s∈x.L.bJ,1<=s.first/\s.first<=1+c/\s.first+s.bw.length<=1+c/\s.size<=B*c
 EO:x.L.next=1+c
 sz:x.m.sz<=B*c
 len:x.L.bJ.length<=n
 fZ:x.m.ks.length<=64
variable {c n : Nat}
theorem pU.Lu {B:Nat} (h:pU B c n x) (hb:B*c<=2^30) (hc:c<=2^30):pT x.L:=
 ⟨h.ne,h.d1,h.d2,λs hs=>by have:=h.pos s hs;omega,h.r2⟩
structure Alike (x y:LD):Prop where
 bJ:y.L.bJ=x.L.bJ
 dir:y.L.dir=x.L.dir
 room:y.L.room=x.L.room
 ks:y.m.ks=x.m.ks
 sz:y.m.sz=x.m.sz
 ok:mQ y.m
theorem Alike.refl (h:mQ x.m):Alike x x:=⟨rfl,rfl,rfl,rfl,rfl,h⟩
variable {y : LD}
theorem Alike.trans {z:LD} (h:Alike x y) (k:Alike y z):Alike x z:=⟨k.bJ.trans h.bJ,k.dir.trans h.dir,k.room.trans h.room,k.ks.trans h.ks,k.sz.trans h.sz,k.ok⟩
theorem Alike.last (h:Alike x y):y.L.last=x.L.last:=by unfold LM.last;rw[h.bJ]
theorem Alike.fh (h:Alike x y):y.L.fh=x.L.fh:=by unfold LM.fh;rw[h.last,h.dir]
theorem Alike.next (h:Alike x y):y.L.next=x.L.next:=by unfold LM.next;rw[h.last]
theorem Alike.inv {B:Nat} (h:Alike x y) (k:pU B c n x):pU B c n y:=by
 refine⟨h.ok,by rw[h.bJ];exact k.ne,by rw[h.dir];exact k.d1,by rw[h.dir];exact k.d2,by rw[h.room];exact k.r1,by rw[h.room];exact k.r2,?_,?_,by rw[h.bJ];exact k.pw,?_,?_,?_,?_,?_,by rw[h.ks];exact k.fZ⟩
 ·rw[h.ks,h.bJ,h.dir];exact k.keys
 ·rw[h.ks,h.fh];exact k.last
 ·rw[h.last];exact k.emp
 ·rw[h.bJ];exact k.pos
 ·rw[h.next];exact k.EO
 ·rw[h.sz];exact k.sz
 ·rw[h.bJ];exact k.len
theorem pU.sync {B:Nat} (h:pU B c n x):x.sync.2=0/\Alike x x.sync.1:=by
 obtain⟨h1,h2,h3,h4⟩:=h.ok.sync h.last;unfold LD.sync;dsimp only;rw[if_pos h1];exact⟨h1,⟨rfl,rfl,rfl,h3,h4,h2⟩⟩
def Full (x:LD):Prop:=64<=x.m.ks.length/\x.L.room<=x.L.last.size
theorem Alike.full (h:Alike x y) (k:Full x):Full y:=by unfold Full;rw[h.ks,h.room,h.last];exact k
variable {f : Nat}
theorem pU.le_last {B:Nat} (h:pU B c n x) (hf:f∈x.L.bJ.map (·.first)):f<=x.L.last.first:=by
 have h1:=h.pw;rw[LM.SN h.ne,aC] at h1 hf;obtain⟨_,_,h2⟩:=List.pairwise_append.1 h1;rcases List.mem_append.1 hf with hf|hf
 ·exact Nat.le_of_lt (h2 f hf _ sQ)
 ·simp at hf;omega
theorem pU.le_next {B:Nat} (h:pU B c n x) (hf:f∈x.L.bJ.map (·.first)):f<=1+c:=by
 obtain⟨s,hs,rfl⟩:=List.mem_map.1 hf;exact(h.pos s hs).2.1
theorem pU.iI {B:Nat} (h:pU B c n x) (hr:x.L.last.bw≠[]) (qJ:c+2<99999999):
  (64<=x.m.ks.length/\x.iI x.L.next=(x,3))\/(x.m.ks.length<64/\(x.iI x.L.next).2=0/\pU B c (n+1) (x.iI x.L.next).1):=by
 have hl:1<=x.L.last.bw.length:=by
  cases hq:x.L.last.bw with
  |nil=>grind
  |cons a b=>simp
 have nL:=h.EO;have Bu: ¬bV x.L.dir x.L.next∈x.m.ks:=λhk=>by
  obtain⟨f,hf,e⟩:=h.keys _ hk;have h1:=h.le_last hf;have h2:=h.le_next hf;have:=Lw zQ zQ e;unfold LM.next at this;omega
 have zD:wC (bV x.L.dir x.L.next)=true:=by
  have:=h.d1;have:=h.d2;simp only[wC,Bl,decide_eq_true_eq];omega
 rw[x.m.wB];rcases h.ok.create zD Bu with⟨h1,h2⟩|⟨h1,h2,h3,h4,h5⟩
 ·left;refine⟨h1,?_⟩;unfold LD.iI;rw[h2];rfl
 ·right;refine⟨h1,?_⟩;have Wl:(⟨x.L.dir,x.L.room,x.L.bJ++[⟨x.L.next,[],0⟩],x.L.safe⟩:LM).last=⟨x.L.next,[],0⟩:=by simp[LM.last]
  unfold LD.iI;dsimp only;rw[if_pos h2];refine⟨h2,⟨h3,by simp,h.d1,h.d2,h.r1,h.r2,?_,?_,?_,?_,?_,?_,?_,?_,by dsimp only;rw[h4,aa,x.m.wB];simp;omega⟩⟩
  ·rw[h4];intro k hk;rcases List.mem_append.1 hk with hk|hk
   ·obtain⟨f,hf,e⟩:=h.keys k hk
    grind
   ·simp at hk;exact⟨x.L.next,by simp,hk⟩
  ·grind [LM.fh]
  ·rw[aC];refine List.pairwise_append.2 ⟨h.pw,by simp,λa ha b hb=>?_⟩;simp at hb;subst hb;have:=h.le_last ha;unfold LM.next;omega
  ·grind
  ·intro s hs;rcases List.mem_append.1 hs with hs|hs
   ·exact h.pos s hs
   simp_all
  ·show(⟨x.L.dir,x.L.room,x.L.bJ++[⟨x.L.next,[],0⟩],x.L.safe⟩:LM).last.first+(⟨x.L.dir,x.L.room,x.L.bJ++[⟨x.L.next,[],0⟩],x.L.safe⟩:LM).last.bw.length=1+c
   grind
  ·rw[h5];exact h.sz
  ·simp;exact h.len
variable {p : List Nat}
theorem pU.lay {B:Nat} (h:pU B c n x) (hp:p.length+12<=B) (hc:B*(c+1)<=4194304):(x.lay p).2=0/\pU B (c+1) n (x.lay p).1:=by
 have hB:B*(c+1)=B*c+B:=Nat.mul_succ B c;have iP:(dr p).length=p.length+12:=by simp[dr,uD]
 have gh:=h.sz;obtain⟨h1,h2,h3,h4⟩:=h.ok.append (b:=dr p) h.last zQ;have hlm:=LM.yb h.ne;have hle:=LM.SN h.ne;obtain⟨p1,p2,p3,p4⟩:=h.pos _ hlm;have Wl:(x.L.add p).last=⟨x.L.last.first,x.L.last.bw++[p],x.L.last.size+(dr p).length⟩:=by simp[LM.last,LM.add]
 have UB:(x.L.add p).bJ.map (·.first)=x.L.bJ.map (·.first):=by
  conv=>rhs;rw[hle]
  simp[LM.add]
 unfold LD.lay;dsimp only;rw[if_pos h1];refine⟨h1,⟨h2,by simp[LM.add],h.d1,h.d2,h.r1,h.r2,?_,?_,?_,?_,?_,?_,?_,?_,by dsimp only;rw[h3];exact h.fZ⟩⟩
 ·dsimp only;rw[h3,UB];exact h.keys
 ·dsimp only;rw[h3];unfold LM.fh;rw[Wl];exact h.last
 ·dsimp only;rw[UB];exact h.pw
 ·dsimp only;rw[Wl];intro e;simp at e
 ·dsimp only;intro s hs;rcases List.mem_append.1 hs with hs|hs
  ·have:=h.pos s gQ;omega
  ·simp only[ax] at hs;subst hs;simp only[aa,aJ,bL,iP];omega
 ·have:=h.EO;dsimp only;unfold LM.next at this⊢;rw[Wl];simp;omega
 ·dsimp only;omega
 ·have:=h.len;rw[hle] at this;simpa [LM.add] using this
def pU.more {B n':Nat} (h:pU B c n x) (hn:n<=n'):pU B c n' x:= { h with len:=ad h.len hn }
theorem pU.bw {B:Nat} (h:pU B c n x) (hr:x.L.room<=x.L.last.size):x.L.last.bw≠[]:=λe=>by
 have:=h.emp e;have:=h.r1;omega
theorem pU.append {B:Nat} (h:pU B c n x) (hp:p.length+12<=B) (hB:B<=262144) (hc:B*(c+1)<=4194304) (qJ:c+2<99999999):
  ((x.append p).2.2=0/\(x.append p).2.1=1+c/\pU B (c+1) (n+1) (x.append p).1)\/((x.append p).2.2=3/\Full x/\Alike x (x.append p).1):=by
 have nL:=h.EO;unfold LD.append;rw[if_neg zQ,if_neg zQ];dsimp only;unfold LD.room;by_cases hr:x.L.room<=x.L.last.size
 ·rw[if_pos hr];obtain⟨h1,h2⟩:=h.sync;dsimp only;rw[if_neg (show¬x.sync.2≠0 from by omega)];have hi:=h2.inv h;rw[<-h2.next];rcases hi.iI (hi.bw (by rw[h2.room,h2.last];exact hr)) qJ with⟨g1,g2⟩|⟨g1,g2,g3⟩
  ·right;rw[g2];dsimp only;rw[if_pos sQ];exact⟨rfl,⟨by rw[<-h2.ks];exact g1,hr⟩,h2⟩
  ·left;rw[if_neg zQ];obtain⟨k1,k2⟩:=g3.lay hp hc;rw[if_neg zQ];exact⟨rfl,by rw[h2.next];omega,k2⟩
 ·left;rw[if_neg hr];dsimp only;rw[if_neg sQ];obtain⟨k1,k2⟩:=h.lay hp hc;rw[if_neg zQ];exact⟨rfl,nL,k2.more zQ⟩
theorem pU.full {B:Nat} (h:pU B c n x) (hf:Full x) (hp:p.length<=262144) (qJ:c+2<99999999):(x.append p).2.2=3/\Alike x (x.append p).1:=by
 have nL:=h.EO;unfold LD.append;rw[if_neg zQ,if_neg zQ];dsimp only;unfold LD.room;rw[if_pos hf.2];obtain⟨h1,h2⟩:=h.sync;dsimp only;rw[if_neg (show¬x.sync.2≠0 from by omega)];have hi:=h2.inv h;rw[<-h2.next];rcases hi.iI (hi.bw (by rw[h2.room,h2.last];exact hf.2)) qJ with⟨g1,g2⟩|⟨g1,g2,g3⟩
 ·grind
 ·have:=hf.1;rw[h2.ks] at g1;omega
theorem mQ.afP {m:DM} (h:mQ m) {e:Nat} (he:e≠12) {f:DM->DM} (hf: ∀m,mQ m->mQ (f m)):(m.write e f).2≠12/\mQ (m.write e f).1:=by
 by_cases h0:e=0
 ·subst h0;rw[h.write];exact⟨by simp,hf _ h.tick⟩
 ·rw[h.afC h0];grind
theorem mQ.ako {m:DM} (h:mQ m) (n:ByteArray):(m.create n).2≠12/\mQ (m.create n).1:=by
 unfold DM.create;refine h.afP ?_ λm hm=>⟨hm.ar,hm.dn⟩
 grind
theorem mQ.aoB {m:DM} (h:mQ m) (n:ByteArray):(m.sync n).2≠12/\mQ (m.sync n).1:=by
 unfold DM.sync;refine h.afP gQ λm hm=>?_;unfold DM.kD;split
 ·exact hm
 ·exact⟨hm.ar,hm.dn⟩
theorem mQ.akp {m:DM} (h:mQ m) (n:ByteArray) (b:List Nat):(m.append n b).2≠12/\mQ (m.append n b).1:=by
 unfold DM.append;rw[if_neg (by rw[h.dn];simp)];split
 ·grind
 ·split
  ·exact⟨by simp,h⟩
  ·refine⟨?_,⟨h.tick.ar,h.tick.dn⟩⟩;dsimp only;rw[if_neg (by rw[h.tick.dn];simp)]
   decide
structure GL (n:Nat) (x:LD):Prop where
 ok:mQ x.m
 ne:x.L.bJ≠[]
 d1:1<=x.L.dir.size
 d2:x.L.dir.size<=11
 yY: ∀s∈x.L.bJ,s.first+s.bw.length<=n/\s.size<=n*300000
 room:x.L.room<=2^40
 len:x.L.bJ.length<=n
theorem GL.up {n':Nat} (h:GL n x) (hn:n<=n'):GL n' x:=
 ⟨h.ok,h.ne,h.d1,h.d2,λs hs=>by have:=h.yY s hs;omega,h.room,ad h.len hn⟩
theorem GL.Lu (h:GL n x) (hn:n<=1000):pT x.L:=
 ⟨h.ne,h.d1,h.d2,λs hs=>by have:=h.yY s hs;omega,h.room⟩
theorem GL.sync (h:GL n x):x.sync.2≠12/\GL n x.sync.1:=by
 obtain⟨h1,h2⟩:=h.ok.aoB x.L.fh;unfold LD.sync;dsimp only;refine⟨h1,?_⟩;split
 ·exact⟨h2,h.ne,h.d1,h.d2,h.yY,h.room,h.len⟩
 ·exact⟨h2,h.ne,h.d1,h.d2,h.yY,h.room,h.len⟩
theorem GL.iI (h:GL n x):(x.iI x.L.next).2≠12/\GL (n+1) (x.iI x.L.next).1:=by
 obtain⟨h1,h2⟩:=h.ok.ako (bV x.L.dir x.L.next);have hu:=h.up (n':=n+1) zQ;unfold LD.iI;dsimp only;refine⟨h1,?_⟩;split
 ·refine⟨h2,by simp,h.d1,h.d2,λs hs=>?_,h.room,by simp;exact h.len⟩;rcases List.mem_append.1 hs with hs|hs
  ·exact hu.yY s hs
  ·simp only[ax] at hs;subst hs;have:=(h.yY _ (LM.yb h.ne)).1;have e:x.L.next=x.L.last.first+x.L.last.bw.length:=rfl
   grind
 ·exact⟨h2,hu.ne,hu.d1,hu.d2,hu.yY,hu.room,hu.len⟩
theorem GL.adI (h:GL n x):x.room.2≠12/\GL (n+1) x.room.1:=by
 unfold LD.room;split
 ·dsimp only;obtain⟨h1,h2⟩:=h.sync;split
  ·exact⟨h1,h2.up zQ⟩
  ·have e:x.sync.1.L.next=x.L.next:=by unfold LM.next LM.last;rw[LD.UC]
   rw[<-e];exact h2.iI
 ·exact⟨by simp,h.up zQ⟩
theorem GL.lay (h:GL n x) (hp:p.length<=262144):(x.lay p).2≠12/\GL (n+1) (x.lay p).1:=by
 obtain⟨h1,h2⟩:=h.ok.akp x.L.fh (dr p);have hu:=h.up (n':=n+1) zQ;have iP:=ru p;unfold LD.lay;dsimp only;refine⟨h1,?_⟩;split
 ·have hle:=LM.SN h.ne;have hlm:=h.yY _ (LM.yb h.ne);refine⟨h2,by simp[LM.add],h.d1,h.d2,λs hs=>?_,h.room,?_⟩
  ·rcases List.mem_append.1 hs with hs|hs
   ·exact hu.yY s gQ
   ·simp only[ax] at hs;subst hs;simp only[aa,aJ,bL];omega
  ·have:=hu.len;rw[hle] at this;simp only[LM.add,aa,aJ,bL] at this⊢;omega
 ·exact⟨h2,hu.ne,hu.d1,hu.d2,hu.yY,hu.room,hu.len⟩
theorem GL.append (h:GL n x) (p:List Nat):(x.append p).2.2≠12/\GL (n+2) (x.append p).1:=by
 unfold LD.append;split
 ·exact⟨by simp,h.up zQ⟩
 ·split
  ·exact⟨by simp,h.up zQ⟩
  ·obtain⟨h1,h2⟩:=h.adI;dsimp only;split
   ·exact⟨h1,h2.up zQ⟩
   ·obtain⟨h3,h4⟩:=h2.lay (p:=p) zQ
    grind
theorem GL.iF (h:GL n x) (p:List Nat):(x.iF 0 p).2.2≠12/\GL (n+2) (x.iF 0 p).1:=by
 obtain⟨h1,h2⟩:=h.append p;unfold LD.iF;rw[if_neg sQ];dsimp only;split
 ·grind
 ·exact h2.sync
structure sK (k:Nat) (l:List dV) (s1:kL):Prop where
 fst:oW l=some 1
 rs: ∃rs,fI l=rs.map gq/\(∀r∈rs,Ux r)/\rs.length<=k/\zj (0,[]) rs=some s1
 full: ∀t∈l.dropLast,4096<=t.size
def yJ (k:Nat) (P:kL->Prop) (m:DM):Prop:=XY pA (λl=> ∃s1,P s1/\sK k l s1) m
def wQ (x:LD) (k:Nat) (s1:kL):Prop:= ∃pre sg,pj x pre sg/\sK k (pre++[sg]) s1/\x.L.dir=pA/\x.L.room=4096
variable {k' : Nat}
theorem sK.up {l:List dV} (h:sK k l s1) (hk:k<=k'):sK k' l s1:=
 ⟨h.fst,let⟨rs,a,b,c,d⟩:=h.rs;⟨rs,a,b,by omega,d⟩,h.full⟩
variable {P : kL -> Prop}
def yJ.imp {P':kL->Prop} {m:DM} (h:yJ k P m) (hk:k<=k') (hp: ∀s,P s->P' s):yJ k' P' m:=
 XY.imp h λ_ _ ⟨s1,a,b⟩=>⟨s1,hp _ a,b.up hk⟩
theorem wQ.crs (h:wQ x k s1):yJ k (· =s1) x.m:=by
 obtain⟨pre,sg,h1,h2,h3,h4⟩:=h;have hd:=h1.d;rw[h3] at hd;exact(XZ hd h1.g h1.fl).imp λl s e=>by grind
def wQ.up (h:wQ x k s1) (hk:k<=k'):wQ x k' s1:=let⟨pre,sg,h1,h2,h3,h4⟩:=h;⟨pre,sg,h1,h2.up hk,h3,h4⟩
variable {l' : List dV}
theorem sK.snoc {l:List dV} (h:sK k l s1) (hr:Ux r) (hs:tY s1 r=some s2) (e1:oW l'=oW l) (e2:fI l'=fI l++[gq r]) (hf: ∀t∈l'.dropLast,4096<=t.size):sK (k+1) l' s2:=by
 obtain⟨rs,a,b,c,d⟩:=h.rs;refine⟨e1.trans h.fst,⟨rs++[r],by grind,λq hq=>?_,by simp;omega,afL d hs⟩,hf⟩
 grind
theorem sK.same {l:List dV} (h:sK k l s1) (e1:oW l'=oW l) (e2:fI l'=fI l) (hf: ∀t∈l'.dropLast,4096<=t.size):sK k l' s1:=
 let⟨rs,a,b,c,d⟩:=h.rs
 ⟨e1.trans h.fst,⟨rs,e2.trans a,b,c,d⟩,hf⟩
theorem DM.aoC {m:DM} (hn:m.ks.Nodup):m.sz=(m.ks.map λk=>(m.bytes k).length).sum:=by
 unfold DM.sz uz DM.ks;rw[cd];refine congrArg List.sum (eB λx hx=>?_);have e:m.get x.1=some x.2:=wI hn hx
 grind [DM.bytes]
variable {sf : Nat} {lM : List Nat} {dir : ByteArray}
theorem pF.sz {m:DM} (h:pF dir pre s lM sf m):m.sz=(pre.map λt=>(flat t.bw).length).sum+(flat s.bw++lM).length:=by
 rw[DM.aoC h.nd,(h.ks.map _).sum_nat,cd,aC,B0];have e1:pre.map ((λk=>(m.bytes k).length)∘λs=>bV dir s.first)=pre.map λt=>(flat t.bw).length:=eB λt ht=>by
  show(m.bytes (bV dir t.first)).length=_
  rw[vM (h.body t ht)]
 rw[e1];simp only[bh,lx,Function.comp,List.sum_cons,List.sum_nil,Nat.add_zero];rw[vM h.last]
theorem ab5: ∀{l:List (List Nat)},(∀p∈l,p.length<=900)->(flat l).length<=912*l.length
 |[],_=>by simp[flat]
 |p::l,h=>by
  have h1:=ab5 (l:=l) λq hq=>h q (bG _ hq);have h2:=h p sQ;have h3:=ru p;have e:flat (p::l)=dr p++flat l:=by simp[flat]
  grind
theorem YB: ∀{l:List dV},(∀p∈fI l,p.length<=900)->(l.map λt=>(flat t.bw).length).sum<=912*(fI l).length
 |[],_=>by grind
 |t::l,h=>by
  have e:fI (t::l)=t.bw++fI l:=by simp[fI]
  rw[e] at h⊢;have h1:=YB (l:=l) λq hq=>h q (List.mem_append_right _ hq);have h2:=ab5 (l:=t.bw) λq hq=>h q (List.mem_append_left _ hq)
  grind
theorem ab7: ∀{l:List dV},(∀t∈l,4096<=(flat t.bw).length)->4096*l.length<=(l.map λt=>(flat t.bw).length).sum
 |[],_=>by simp
 |t::l,h=>by
  have h1:=ab7 (l:=l) λq hq=>h q (bG _ hq)
  grind
theorem sK.lens {l:List dV} (h:sK k l s1):(∀p∈fI l,p.length<=900)/\(fI l).length<=k:=by
 obtain⟨rs,a,b,c,d⟩:=h.rs;rw[a];refine⟨λp hp=>?_,by grind⟩;obtain⟨r,hr,rfl⟩:=List.mem_map.1 hp;exact(b r hr).len
theorem sK.size {m:DM} (h:sK k (pre++[s]) s1) (hg:Good (pre++[s])) (hd:pF dir pre s lM sf m):m.sz<=912*k+lM.length/\4096*pre.length<=912*k/\m.fs.length=pre.length+1:=by
 obtain⟨h1,h2⟩:=h.lens;have h3:=YB h1;have h4:=hd.sz;have hf: ∀t∈pre,4096<=(flat t.bw).length:=λt ht=>by
  have:=h.full t gQ
  rwa [(hg.ok t (by simp[ht])).sz] at this
 have h5:=ab7 hf;rw[aC,B0] at h3;simp only[bh,lx,List.sum_cons,List.sum_nil,Nat.add_zero] at h3;rw[aa] at h4;have h6:=hd.ks.length_eq;rw[DM.wB,af,aa,List.length_singleton] at h6;exact⟨by omega,by omega,h6⟩
theorem sK.next (h:sK k (pre++[s]) s1) (hg:Good (pre++[s])):s.first+s.bw.length<=1+k:=by
 have:=gD.count hg.lk h.fst;have:=h.lens.2;omega
theorem wQ.iF (h:wQ x k s1) (hr:Ux r) (hs:tY s1 r=some s2) (hk:k<=200):
  ((x.iF 0 (gq r)).2.2=12/\(x.iF 0 (gq r)).1.m.dn=true/\yJ (k+1) (λs=>s=s1\/s=s2) (x.iF 0 (gq r)).1.m)\/
  ((x.iF 0 (gq r)).2.2=0/\wQ (x.iF 0 (gq r)).1 (k+1) s2):=by
 obtain⟨pre,sg,h1,h2,h3,h4⟩:=h;have iP: ∀t∈pre,4096<=t.size:=by have:=h2.full;rwa [jL] at this
 rcases h1.iF (by have:=hr.len;omega) hr.isb with⟨e,hf⟩|⟨e,dc,pz,s',hk,hrr,hsh⟩|⟨e1,e2,⟨pz,s',hk,hrr⟩,hw⟩
 ·left;rw[h3] at hf;refine⟨e,hf.1,hf.2.imp λl s ⟨q1,q2,q3⟩=>?_⟩;have q3:=q3 gQ;rcases q2 with q2|q2
  ·exact⟨s1,.inl rfl,(h2.same q1 q2 (by rw[h4] at q3;exact q3)).up (dD _)⟩
  ·exact⟨s2,.inr rfl,h2.snoc hr hs q1 q2 (by rw[h4] at q3;exact q3)⟩
 ·right;refine⟨e,pz,s',hk.up,h2.snoc hr hs hk.fst hrr ?_,hk.dir.trans h3,hk.room.trans h4⟩;rw[jL];rcases hsh with⟨rfl,_,_⟩|⟨rfl,_,q⟩
  ·omega
  grind
 ·exfalso;obtain⟨q1,q2,q3⟩:=h2.size h1.g h1.d;have q4:=h2.next h1.g
  have q5:=h1.next
  have q6:=hr.len;have q7:=ru (gq r);simp only[bL] at q1;rcases hw with hw|hw|hw<;>omega
theorem YC: ∀(k u:Nat),u<=k->xm (qx u)
 |0,u,h=>by
  have:u=0:=by omega
  subst this;intro x hx;unfold qx at hx;simp at hx;omega
 |k+1,u,h=>by
  intro x hx;unfold qx at hx;split at hx
  ·simp at hx;omega
  ·rcases List.mem_cons.1 hx with rfl|hx
   ·omega
   ·exact YC k (u/128) zQ x hx
theorem yg (n:Int):xm (encI n):=YC _ _ (au _)
theorem gD.top: ∀{l:List dV} {f:Nat},gD l->oW l=some f-> ∀t∈l,t.first+t.bw.length<=f+(fI l).length
 |[],_,_,h,_,_=>by cases h
 |[a],f,_,hf,t,ht=>by
  have h2:a.first=f:=cA hf
  rw[ax] at ht;grind [fI]
 |a::b::l,f,h,hf,t,ht=>by
  have h1:b.first=a.first+a.bw.length:=h.1
  have h2:a.first=f:=cA hf
  have e:fI (a::b::l)=a.bw++fI (b::l):=by simp[fI]
  rw[e,aa];rcases List.mem_cons.1 ht with rfl|ht
  ·omega
  ·have:=gD.top (l:=b::l) (f:=b.first) h.2.2 rfl t ht;omega
theorem YD {n:Int} (h1:1<=n) (h2:n<=2^40):Ux (mg n)/\(mg n).fJ=0:=by
 have e1:=fD 8;have e2:=fD n;have e4:(mg n).err=0:=by
  simp[Rec.err,mg,Rec.strip,Rec.isZero,Rec.qD,State.isZero,State.zero,h1]
 have e5:(gq (mg n)).length<=900:=by rw[Rc,aa];omega
 refine⟨⟨.Br n (by unfold vA;omega),e4,e5,λb hb=>?_,by simp[mg]⟩,?_⟩
 ·rw[Rc] at hb;rcases List.mem_append.1 hb with hb|hb
  ·exact yg _ b hb
  ·exact yg _ b hb
 ·unfold Rec.fJ;omega
theorem UD: ∀{l:List Rec} {s s':kL},zj s l=some s'->s.1<=s'.1/\s'.1<=s.1+l.length
 |[],s,s',h=>by
  obtain rfl:=cA h;simp
 |r::l,s,s',h=>by
  obtain⟨x,h1,h2⟩:=Option.bind_eq_some_iff.1 (show(tY s r).bind (λs'=>zj s' l)=some s' from h);have h3:=Yy h1;have h4:=UD h2
  grind
theorem YE (s:kL):tY s (mg (s.1+1))=some (s.1+1,s.2):=by
 unfold tY;rw[if_pos (show(mg (s.1+1)).kind=8 from rfl),if_pos (show(mg (s.1+1)).n=s.1+1 from rfl)]
structure ad1 (m:DM) (k:Nat) (s1:kL) (x:LD) (pre:List dV) (sg:dV) (rs:List Rec):Prop where
 BW:LD.BW pA 4096 m=(x,0)
 log:LX x pre sg rs
 len:rs.length<=k
 tY:zj (0,[]) rs=some s1
 aR:0<=s1.1/\s1.1<=k
 err:(mg (s1.1+1)).fJ=0
 kp:(x.iF 0 (gq (mg (s1.1+1)))).2.2=0
 up:wQ (x.iF 0 (gq (mg (s1.1+1)))).1 (k+1) (s1.1+1,s1.2)
theorem Br {m:DM} (h:yJ k P m) (hk:k<=200) (cT:List Int) (gh:(m.mE cT).sz<=4194304): ∃s1 x pre sg rs,P s1/\ad1 (m.mE cT) k s1 x pre sg rs:=by
 obtain⟨pre,s,lM,sf,⟨s1,hP,hr⟩,hg,ht,Ui,hd⟩:=h.2 cT;have h0:(m.mE cT).ar=0:=rfl;have jT:(m.mE cT).dn=false:=rfl;obtain⟨m',e,h1,h2,h3⟩:=al2 (room:=4096) hd hg ht h0 jT;obtain⟨q1,q2,q3⟩:=hr.size hg h1;simp only[bL] at q1;have ic:pj ⟨⟨pA,4096,pre++[s],(s.first+s.bw.length:Nat)-1⟩,m'⟩ pre s:=
  ⟨rfl,hg,h1,h3,by grind,by grind,(show 1<=pA.size from by decide),(show pA.size<=11 from by decide),(show 64<=4096 from by decide),(show 4096<=262144 from by decide)⟩
 have hlu:wQ ⟨⟨pA,4096,pre++[s],(s.first+s.bw.length:Nat)-1⟩,m'⟩ k s1:=⟨pre,s,ic,hr,rfl,rfl⟩;obtain⟨rs,a,b,c,d⟩:=hr.rs;have hl:=UD d;have yV:0<=s1.1/\s1.1<=k:=by have:(0:Int)<=s1.1:=hl.1;have:s1.1<=(0:Int)+rs.length:=hl.2;omega
 obtain⟨cg,ce⟩:=YD (n:=s1.1+1) zQ zQ;have hU:GL 300 ⟨⟨pA,4096,pre++[s],(s.first+s.bw.length:Nat)-1⟩,m'⟩:=by
  have hB:=ic.adJ;have hN:=ic.adK;refine⟨⟨h2,h3⟩,by simp,ic.d1,ic.d2,λt ht=>⟨?_,?_⟩,(show(4096:Nat)<=2^40 from by decide),by omega⟩
  ·have:=gD.top hg.lk hr.fst t ht;have:=hr.lens.2;omega
  ·have:=(hB t ht).2;omega
 have DZ:(LD.iF ⟨⟨pA,4096,pre++[s],(s.first+s.bw.length:Nat)-1⟩,m'⟩ 0 (gq (mg (s1.1+1)))).2.2=0/\wQ (LD.iF ⟨⟨pA,4096,pre++[s],(s.first+s.bw.length:Nat)-1⟩,m'⟩ 0 (gq (mg (s1.1+1)))).1 (k+1) (s1.1+1,s1.2):=by
  rcases hlu.iF cg (YE s1) hk with⟨e,_⟩|h
  ·exact absurd e (hU.iF _).1
  ·exact h
 refine⟨s1,_,pre,s,rs,hP,e,⟨ic,hr.fst,a,b,by omega⟩,c,d,yV,ce,DZ.1,DZ.2⟩
theorem ajO: ∃x,ad1 ⟨[],0,0,false⟩ 0 (0,[]) x [] ⟨1,[],0⟩ []/\mQ (x.iF 0 (gq (mg (0+1)))).1.m:=by
 obtain⟨nm,zD⟩: ∃nm,nm=bV pA 1:=⟨_,rfl⟩;have gh:nm.size=12:=by rw[zD,Bl];rfl
 have lT:wC nm=true:=by unfold wC;rw[gh];decide
 obtain⟨m1,pV⟩: ∃m1:DM,m1=((⟨[],0,0,false⟩:DM).tick.put nm [] 0):=⟨_,rfl⟩;have ht:(⟨[],0,0,false⟩:DM).tick.dn=false/\(⟨[],0,0,false⟩:DM).tick.ar=0/\(⟨[],0,0,false⟩:DM).tick.fs=[]:=by
  unfold DM.tick;rw[if_neg dQ];exact⟨rfl,rfl,rfl⟩
 have JW:DM.create ⟨[],0,0,false⟩ nm=(m1,0):=by
  unfold DM.create DM.write;have e:(if¬wC nm=true then 10 else if((⟨[],0,0,false⟩:DM).get nm).isSome then 9 else if 64<=(⟨[],0,0,false⟩:DM).fs.length then 3 else 0)=0:=by
   rw[if_neg gQ];rfl
  rw[e,if_neg dQ,if_neg dQ,if_neg gQ,pV]
 have Gr:m1.fs=[(nm,([],0))]:=by
  rw[pV]
  show cU nm ([],0) (⟨[],0,0,false⟩:DM).tick.fs=_
  rw[ht.2.2];rfl
 have hd1:m1.dn=false:=by rw[pV];exact ht.1
 have sj:m1.ar=0:=by rw[pV];exact ht.2.1
 have YG:m1.get nm=some ([],0):=by unfold DM.get;rw[Gr];simp[getM]
 have hO:LD.BW pA 4096 ⟨[],0,0,false⟩=(⟨⟨pA,4096,[⟨1,[],0⟩],0⟩,m1⟩,0):=by
  unfold LD.BW;rw[if_neg dQ];have e:fT ((⟨[],0,0,false⟩:DM).fs.map (·.1))=[]:=by simp[fT]
  rw[e];dsimp only;have e2:LD.pJ ⟨L0 pA 4096,⟨[],0,0,false⟩⟩ []=(⟨L0 pA 4096,⟨[],0,0,false⟩⟩,0):=by unfold LD.pJ;rfl
  rw[e2,if_neg sQ,if_pos (show(L0 pA 4096).bJ=[] from rfl)];unfold LD.iI;dsimp only;have e3:(L0 pA 4096).dir=pA:=rfl;rw[e3,<-zD,JW];rfl
 have hgd:Good ([]++[(⟨1,[],0⟩:dV)]):=⟨trivial,λs hs=>by
  rw[List.nil_append,ax] at hs;subst hs;exact⟨au _,⟨by decide,by decide⟩,by rfl,λp hp=>absurd hp sQ⟩⟩
 have hon:pF pA [] ⟨1,[],0⟩ [] (flat []).length m1:=⟨by unfold DM.ks;rw[Gr];simp,by unfold DM.ks;rw[Gr,zD];simp,λt ht=>absurd ht sQ,by
  show m1.get (bV pA 1)=_
  rw[<-zD,YG];rfl,au _⟩
 have hz:m1.sz=0:=by unfold DM.sz uz;rw[Gr];simp
 have ic:pj ⟨⟨pA,4096,[⟨1,[],0⟩],0⟩,m1⟩ [] ⟨1,[],0⟩:=
  ⟨rfl,hgd,hon,hd1,by grind,by grind,(show 1<=pA.size from by decide),(show pA.size<=11 from by decide),(show 64<=4096 from by decide),(show 4096<=262144 from by decide)⟩
 have hr:sK 0 ([]++[(⟨1,[],0⟩:dV)]) (0,[]):=⟨rfl,⟨[],rfl,λr hr=>absurd hr sQ,au _,rfl⟩,λt ht=>absurd ht sQ⟩;obtain⟨cg,ce⟩:=YD (n:=1) zQ zQ;have hU:GL 300 ⟨⟨pA,4096,[⟨1,[],0⟩],0⟩,m1⟩:=⟨⟨sj,hd1⟩,by simp,ic.d1,ic.d2,λt ht=>by simp_all,(show(4096:Nat)<=2^40 from by decide),by simp⟩;have hlu:wQ ⟨⟨pA,4096,[⟨1,[],0⟩],0⟩,m1⟩ 0 (0,[]):=⟨[],⟨1,[],0⟩,ic,hr,rfl,rfl⟩;have DZ:=(hlu.iF cg (YE (0,[])) zQ).resolve_left λe=>absurd e.1 (hU.iF _).1;exact⟨_,⟨hO,⟨ic,rfl,rfl,λr hr=>absurd hr sQ,by simp⟩,au _,rfl,⟨tu _,tu _⟩,ce,DZ.1,DZ.2⟩,(hU.iF _).2.ok⟩
def Bv (s:kL):Prop:= ∀x∈s.2,x.1.aG.dW=1/\1<=x.1.aG.aR/\x.1.aG.aR<=s.1/\1<=x.1.aG.sq/\x.1.aG.sq<=2^40
structure ah4 (n:br) (t:bX):Prop where
 co:t.dW=1
 aR:t.aR=n.c.aR
 sq:1<=t.sq/\t.sq<=n.c.fZ
 bl:getM t n.bl=none
structure gz (k N:Nat) (n:br):Prop where
 ok:tq N k n
 bl:LV n
 log:wQ ⟨n.L,n.m⟩ k n.abs
 fZ:0<=n.c.fZ/\n.c.fZ<=k
 aR:1<=n.c.aR/\n.c.aR<=k
 act: ∀t b,getM t n.al=some b->ah4 n t
 abs:Bv n.abs
 BZ: ∀x∈n.abs.2,x.1.aG.aR=n.c.aR->x.1.aG.sq<=n.c.fZ
def uj (n:br):Prop:= ∀t b,getM t n.al=some b->(n.A b).x.aG=t
theorem cJ.C5.asked {x:AcV} (h:m.C5):(m.asked x).C5:=by
 obtain⟨a,b,c,d⟩:=h;exact⟨a,b,c,d⟩
variable {N' : Nat}
def sI.up {d:oP} (h:sI N d) (hN:N<=N'):sI N' d:=⟨h.q,h.p,ad h.sn hN,h.ws,h.ids,h.C5,h.xi,h.pq⟩
def EB {κ α:Type} [DecidableEq κ] {k:κ} {l:List (κ×α)} :(kq k l).length<=l.length:=List.length_filter_le _ _
section
variable {n : br}
structure Calm (n n1:br):Prop where
 id:n1.c.id=n.c.id
 aR:n1.c.aR=n.c.aR
 fZ:n1.c.fZ=n.c.fZ
 cl:n1.cl=n.cl
 C:n1.C=n.C
 bl:n1.bl=n.bl
 L:n1.L=n.L
 m:n1.m=n.m
 pre:n1.pre=n.pre
theorem Calm.refl (n:br):Calm n n:=⟨rfl,rfl,rfl,rfl,rfl,rfl,rfl,rfl,rfl⟩
theorem Calm.trans {a b c:br} (h:Calm a b) (q:Calm b c):Calm a c:=⟨q.id.trans h.id,q.aR.trans h.aR,q.fZ.trans h.fZ,q.cl.trans h.cl,q.C.trans h.C,q.bl.trans h.bl,q.L.trans h.L,q.m.trans h.m,q.pre.trans h.pre⟩
def Calm.after {a b c:br} (q:Calm b c) (h:Calm a b):Calm a c:=h.trans q
theorem gz.sub (h:gz k N n) (hN:N<=N') (hk:k<=k') (ah:k'<=1000) (hc:Calm n n1) (hds: ∀(i:Int) (r:fe),getM i n1.ds=some r->r.id=i)
  (T7: ∀t b,getM t n1.al=some b->(∃b',getM t n.al=some b')/\sI N' (n1.A b)) (hlen:n1.al.length<=n.al.length):gz k' N' (eQ n1):=by
 have e:(eQ n1).abs=n.abs:=by
  show(n1.c.aR,n1.cl.map λb=>((n1.C b).r,(n1.C b).ended))=_
  rw[hc.aR,hc.cl,hc.C];rfl
 refine⟨⟨hc.id.trans h.ok.id,λt b hg=>(T7 t b hg).2,hds,rfl,rfl,rfl,rfl,rfl,?_,?_,ah,hc.pre.trans h.ok.pre,?_,?_⟩,?_,?_,?_,?_,?_,?_,?_⟩
 ·show n1.cl.length<=_;rw[hc.cl];exact ad h.ok.cl hk
 ·exact ad (ad hlen h.ok.Xq) hk
 ·show∀b∈n1.cl,(n1.C b).waits.length<=80;rw[hc.cl,hc.C];exact h.ok.cw
 ·show∀t b,getM t n1.bl=some b->b∈n1.cl/\(n1.C b).r.aG=t;rw[hc.bl,hc.cl,hc.C];exact h.ok.byT
 ·show∀t b,getM t n1.bl=some b↔b∈n1.cl/\(n1.C b).r.aG=t;rw[hc.bl,hc.cl,hc.C];exact h.bl
 ·rw[e];show wQ ⟨n1.L,n1.m⟩ _ _;rw[hc.L,hc.m];exact h.log.up hk
 ·show 0<=n1.c.fZ/\n1.c.fZ<=_;rw[hc.fZ];have:=h.fZ;omega
 ·show 1<=n1.c.aR/\n1.c.aR<=_;rw[hc.aR];have:=h.aR;omega
 ·intro t b hg;obtain⟨b',dO⟩:=(T7 t b hg).1;have q:=h.act t b' dO;exact⟨q.co,by show _=n1.c.aR;rw[hc.aR];exact q.aR,by show _/\_<=n1.c.fZ;rw[hc.fZ];exact q.sq,by show getM t n1.bl=none;rw[hc.bl];exact q.bl⟩
 ·rw[e];exact h.abs
 ·rw[e];show∀x∈_,_=n1.c.aR->_<=n1.c.fZ;rw[hc.aR,hc.fZ];exact h.BZ
theorem gz.call {p:List jz} (h:gz k N n) (hc:Ef n p n1) (hk:k+1<=1000):gz (k+1) N (eQ n1):=by
 obtain⟨xb,gN,Gp,vm,va,rm,ra,ms,d,rfl,JU,ad2⟩:=hc;have hT: ∀t b,getM t Gp=some b->(getM t n.al=some b/\b≠xb)\/(t=iU n/\b=xb/\Gp=cU (iU n) xb n.al):=λt b hg=>by
  rcases ad2 with⟨_,_,_,e,_⟩|⟨_,e,_⟩
  ·rw[e] at hg;have q:=(jF hg).1
   grind
  ·rw[e] at hg;by_cases e1:t=iU n
   ·rw[e1,jK] at hg;exact .inr ⟨e1,(cA hg).symm,e⟩
   ·rw[pO e1] at hg;exact .inl ⟨hg,λe=>JU t (e▸hg)⟩
 have hlen:Gp.length<=n.al.length+1:=by
  rcases ad2 with⟨_,_,_,e,_⟩|⟨_,e,_⟩
  ·rw[e];exact ad EB (dD _)
  ·rw[e];exact C4 _
 have hcn:=h.fZ;have GD:=h.aR;have Bu:getM (iU n) n.bl=none:=by
  cases e:getM (iU n) n.bl with
  |none=>rfl
  |some b=>
   obtain⟨h1,h2⟩:=(h.bl _ _).1 e;have:=h.BZ _ (List.mem_map.2 ⟨b,h1,rfl⟩) (by show(n.C b).r.aG.aR=_;rw[h2];rfl);have e3:((n.C b).r).aG.sq=n.c.fZ+1:=by rw[h2];rfl
   have:(n.C b).r.aG.sq<=n.c.fZ:=this;omega
 refine⟨⟨h.ok.id,λt b hg=>?_,h.ok.ds,rfl,rfl,rfl,rfl,rfl,uJ h.ok.cl,?_,hk,h.ok.pre,h.ok.cw,h.ok.byT⟩,h.bl,h.log.up (dD _),?_,?_,λt b hg=>?_,h.abs,λx hx e=>?_⟩
 ·rcases hT t b hg with⟨q1,q2⟩|⟨_,q2,q3⟩
  ·show sI N (if b=xb then d else n.A b)
   rw[if_neg q2];exact h.ok.act t b q1
  ·show sI N (if b=xb then d else n.A b)
   rw[if_pos q2];rcases ad2 with⟨_,_,_,e,_⟩|⟨_,_,hp,EX,ht,aqq,asP,JS,D3,cu,Qv,hw,hq⟩
   ·have q4:getM t (kq (iU n) n.al)=some xb:=by rw[<-e,<-q2];exact hg
    exact absurd (jF q4).1 (JU t)
   ·refine⟨λe=>?_,by rw[hp];omega,by rw[JS.1];exact ak _,Qv,?_,λy hy=>(hw y hy).2,by omega,JS.2⟩
    ·rcases hq with q|q
     ·exact⟨q.2.1,q.2.2.1⟩
     ·rw[q.1] at e;cases e
    ·rcases hq with q|q
     ·rw[q.2.2.1];exact ak _
     ·rw[<-q.2.1,af];omega
 ·have:=h.ok.Xq;show Gp.length<=_;omega
 ·show 0<=n.c.fZ+1/\n.c.fZ+1<=((k+1:Nat):Int);omega
 ·show 1<=n.c.aR/\n.c.aR<=((k+1:Nat):Int);omega
 ·rcases hT t b hg with⟨q1,q2⟩|⟨rfl,_,_⟩
  ·have q:=h.act t b q1;exact⟨q.co,q.aR,by have:=q.sq;show 1<=t.sq/\t.sq<=n.c.fZ+1;omega,q.bl⟩
  ·exact⟨h.ok.id,rfl,by show 1<=n.c.fZ+1/\n.c.fZ+1<=n.c.fZ+1;omega,Bu⟩
 ·have:=h.BZ x hx e
  show _<=n.c.fZ+1
  omega
theorem lN.calm: ∀{ts:List bX} {n n1:br},lN ts n n1->Calm n n1/\n1.ds=n.ds/\n1.al.length<=n.al.length
 |[],n,n1,h=>by
  have:n1=n:=h;subst this;exact⟨Calm.refl _,rfl,au _⟩
 |t::ts,n,n1,⟨n2,h1,h2⟩=>by
  obtain⟨q1,q2,q3⟩:=lN.calm h2;have q:Calm n n2/\n2.ds=n.ds/\n2.al.length<=n.al.length:=by
   obtain⟨b,_,_,⟨_,_,_,_,rfl,_⟩|⟨_,_,_,rfl,_⟩⟩:=h1
   ·exact⟨⟨rfl,rfl,rfl,rfl,rfl,rfl,rfl,rfl,rfl⟩,rfl,EB⟩
   ·exact⟨⟨rfl,rfl,rfl,rfl,rfl,rfl,rfl,rfl,rfl⟩,rfl,au _⟩
  exact⟨q1.after q.1,q2.trans q.2.1,ad q3 q.2.2⟩
theorem ry.key (h:ry n t n1) (iO:uj n):uj n1/\ ∀t b,getM t n1.al=some b->getM t n.al=some b:=by
 obtain⟨b,_,_,hc⟩:=h;have hs:n1.A=(dN n b (vN (n.A b))).A/\ ∀t b,getM t n1.al=some b->getM t n.al=some b:=by
  rcases hc with⟨_,_,_,_,rfl,_⟩|⟨_,_,_,rfl,_⟩
  ·exact⟨rfl,λt b hg=>(jF hg).1⟩
  ·exact⟨rfl,λt b hg=>hg⟩
 refine⟨λt b' hg=>?_,hs.2⟩;have:=iO t b' (hs.2 t b' hg);rw[hs.1]
 show(if b'=b then vN (n.A b)else n.A b').x.aG=t
 split
 ·grind [vN]
 omega
theorem lN.ok: ∀{ts:List bX} {n n1:br},lN ts n n1->uj n->(∀t b,getM t n.al=some b->sI N (n.A b))-> ∀t b,getM t n1.al=some b->getM t n.al=some b/\sI N (n1.A b)
 |[],n,n1,h,_,lT=>λt b hg=>by
  have:n1=n:=h
  grind
 |t::ts,n,n1,⟨n2,h1,h2⟩,iO,lT=>λt' b hg=>by
  obtain⟨q1,q2⟩:=h1.key iO;obtain⟨q3,q4⟩:=lN.ok h2 q1 (h1.ok iO lT) t' b hg
  grind
theorem tO.calm: ∀{l:List Nat} {n n1:br},tO l n n1->Calm n n1/\n1.ds=n.ds/\n1.al=n.al/\n1.A=n.A/\n1.ra=n.ra
 |[],n,n1,h=>by
  have:n1=n:=h
  grind [Calm.refl]
 |b::l,n,n1,⟨n2,h1,h2⟩=>by
  obtain⟨q1,q2,q3,q4,q5⟩:=tO.calm h2;rcases h1 with⟨_,rfl⟩|⟨_,mR,lX,rfl,_⟩
  ·grind
  ·exact⟨q1.after ⟨rfl,rfl,rfl,rfl,rfl,rfl,rfl,rfl,rfl⟩,q2,q3,q4,q5⟩
theorem gz.tick (h:gz k N n) (iO:uj n) (ht:Gz n n1) (hk:k+1<=1000):gz (k+1) N (eQ n1):=by
 obtain⟨ts,n2,hp,h1,h2⟩:=ht;obtain⟨a1,a2,a3⟩:=h1.calm;obtain⟨b1,b2,b3,b4,_⟩:=h2.calm;refine h.sub (au _) (dD _) hk (a1.trans b1) (by rw[b2,a2];exact h.ok.ds) (λt b hg=>?_) gQ;rw[b3] at hg;rw[b4];obtain⟨q1,q2⟩:=lN.ok h1 iO h.ok.act t b hg
 grind
end
theorem afQ (t:bX):xm (oq t):=by grind [oq,uI,yg]
theorem amq (t:cn):xm (lL t):=by grind [lL,uI,yg]
theorem ah5 (l:List Int):xm (iY encI l):=by
 unfold iY;refine uI (yg _) λb hb=>?_;obtain⟨q,hq,hb⟩:=List.mem_flatten.1 hb;obtain⟨x,_,rfl⟩:=List.mem_map.1 hq;exact yg _ b hb
theorem UE {α:Type} {p:α->Bool} {r:α->α->Bool} : ∀{l:List α} {o:Option α},chain p r o l=true-> ∀x∈l,p x=true
 |[],_,_,_,hx=>by simp at hx
 |y::l,o,h,x,hx=>by
  have h1:p y=true/\chain p r (some y) l=true:=by
   cases o<;>simp[chain] at h
   ·exact h
   ·exact⟨h.1.1,h.2⟩
  rcases List.mem_cons.1 hx with rfl|hx
  ·exact h1.1
  ·exact UE h1.2 x hx
theorem amr (h:r.fJ=0):r.err=0:=by
 apply dz;intro e;unfold Rec.fJ at h;omega
variable {ids : List Int} {st : cn}
theorem Rk (he:(jx t st ids).fJ=0) (hl:ids.length<=80) (ht:DE t):Ux (jx t st ids):=by
 have h1:=amr he;have h2:(jx t st ids).qD=true:=by
  apply dz;intro e;unfold Rec.err at h1;split at h1
  ·cases h1
  ·grind
 have h3:(t.may&&st.Ia&&yK ids)=true:=by
  unfold Rec.qD at h2;exact h2
 simp only[aA] at h3;obtain⟨⟨h4,h5⟩,h6⟩:=h3;have h7:st.may=true:=by unfold cn.Ia at h5;simp only[aA] at h5;exact h5.1
 have h8: ∀x∈ids,vA x:=λx hx=>by
  unfold yK at h6;simp only[aA] at h6;have:=UE h6.1 x hx;simp only[aA,decide_eq_true_eq] at this;unfold vA;omega
 have h9:adh st:=by
  unfold cn.may at h7;simp only[aA,decide_eq_true_eq] at h7;unfold adh vA;omega
 have h10:=afI t st ids;refine⟨.BZ t st ids ht h9 h8 zQ,h1,by omega,λb hb=>?_,hl⟩;rw[Wf] at hb;exact uI (yg _) (uI (afQ _) (uI (amq _) (ah5 _))) b hb
theorem ams (ht:DE t) (hm:t.may=true):Ux (mG t)/\(mG t).fJ=0:=by
 have e1:=fD 10;have e2:=Dl t;have e4:(mG t).err=0:=by
  simp[Rec.err,mG,Rec.strip,Rec.isZero,Rec.qD,State.isZero,State.zero,hm]
 have e5:(gq (mG t)).length<=900:=by rw[Ra,aa];omega
 refine⟨⟨.fin t ht,e4,e5,λb hb=>?_,by simp[mG]⟩,?_⟩
 ·rw[Ra] at hb;exact uI (yg _) (afQ _) b hb
 ·unfold Rec.fJ;omega
theorem UF: ∀(l:List fe) (ds:tK),(∀(i:Int) (r:fe),getM i ds=some r->r.id=i)-> ∀(i:Int) (r:fe),getM i (l.foldl ja ds)=some r->r.id=i
 |[],ds,h=>h
 |x::l,ds,h=>UF l (ja ds x) λi r hg=>by
  have hp: ∀i r,getM i (cU x.id x ds)=some r->r.id=i:=λi r hg=>by
   by_cases e:i=x.id
   ·rw[e,jK] at hg;cases hg;exact e.symm
   ·rw[pO e] at hg;exact h i r hg
  unfold ja at hg;split at hg
  ·split at hg
   ·split at hg
    ·exact h i r hg
    ·exact hp i r hg
   ·exact hp i r hg
  ·exact h i r hg
section
variable {n : br}
theorem Pq (h:r.fJ≠0):jG n r=(⟨n.L,n.m⟩,0,r.fJ.toNat):=by
 unfold jG LD.iF;rcases r.ye with e|e|e|e
 ·omega
 all_goals rw[e];rfl
theorem yh (h:r.fJ=0):jG n r=LD.iF ⟨n.L,n.m⟩ 0 (gq r):=by
 unfold jG;rw[h];rfl
theorem gz.Wm (h:gz k N n) (ht:ah4 n t) (st:cn) (ids:List Int):tY n.abs (jx t st ids)=some (n.c.aR,n.abs.2++[(jx t st ids,false)]):=by
 unfold tY;rw[if_neg (show¬(jx t st ids).kind=8 from(by decide: ¬(9:Int)=8)),if_pos (show(jx t st ids).kind=9 from rfl),if_pos ?_]
 ·rfl
 ·refine⟨ht.co,ht.aR,λx hx e=>?_⟩;obtain⟨b,hb,rfl⟩:=List.mem_map.1 hx;have:=(h.bl t b).2 ⟨hb,e⟩;rw[ht.bl] at this;cases this
theorem gz.DE (h:gz k N n) (hk:k<=1000) (ht:ah4 n t):DE t:=by
 have h1:=h.fZ;have h2:=h.aR;have h3:=ht.sq;have h4:=ht.aR;have h5:=ht.co;unfold Go.Proofs.YtgfijddlkhkopaaGreat.DE vA;omega
theorem akq (iO:uj n) (hb:getM t n.al=some b) {b':Nat} (hg:getM t' (kq t n.al)=some b'):getM t' n.al=some b'/\b'≠b:=by
 obtain⟨q1,q2⟩:=jF hg;exact⟨q1,λe=>q2 (by rw[e] at q1;exact(iO _ _ q1).symm.trans (iO _ _ hb))⟩
theorem gz.EZ (h:gz k N n) (hg:CM n m pp n1) (hN:N<=N') (hk:k<=k') (ah:k'<=1000):gz k' N' (eQ n1):=by
 obtain⟨b,gN,mR,ki,lX,hb,hp,hc,rfl⟩:=hg;exact h.sub hN hk ah ⟨rfl,rfl,rfl,rfl,rfl,rfl,rfl,rfl,rfl⟩ (UF _ _ h.ok.ds) (λt b hg=>⟨⟨b,(jF hg).1⟩,(h.ok.act t b (jF hg).1).up hN⟩) EB
theorem gz.seen (h:gz k N n) (iO:uj n) (hs:M3 n m n1) (ah:k+1<=1000):gz (k+1) (N+m.seen.length) (eQ n1):=by
 have hN:N<=N+m.seen.length:=kc _ _;rcases hs with⟨gN,rfl⟩|hg|⟨b,i,y,gN,qP,gX,iK,n2,hw,rfl,hc⟩
 ·exact h.sub hN (dD _) ah ⟨rfl,rfl,rfl,rfl,rfl,rfl,rfl,rfl,rfl⟩ h.ok.ds (λt b hg=>⟨⟨b,hg⟩,(h.ok.act t b hg).up hN⟩) (au _)
 ·exact h.EZ hg hN (dD _) ah
 ·have ha:=h.ok.act _ _ hw.g;have hA: ∀t' b',getM t' n.al=some b'->sI (N+m.seen.length) ((dN n b (qm (n.A b) i m qP gX iK)).A b'):=λt' b' hg=>by
   show sI _ (if b'=b then _ else n.A b')
   split
   ·refine⟨ha.q,ha.p,by show bB (_++_)<=_;rw[aa];have:=ha.sn;omega,?_,ha.ids,λy hy=>?_,ha.xi,ha.pq⟩
    ·have:=ha.ws;simp[qm];omega
    ·exact ha.C5 y ((List.mem_append.1 hy).elim dK di)
   ·exact(h.ok.act t' b' hg).up hN
  have hxt:((dN n b (qm (n.A b) i m qP gX iK)).A b).x.aG=m.aG:=by rw[jA];exact iO _ _ hw.g
  rcases hc with⟨_,rfl⟩|⟨_,n3,hr,rfl⟩
  ·exact h.sub hN (dD _) ah ⟨rfl,rfl,rfl,rfl,rfl,rfl,rfl,rfl,rfl⟩ h.ok.ds (λt b' hg=>⟨⟨b',hg⟩,hA t b' hg⟩) (au _)
  ·rcases hr with⟨ki,a,_,_,_,_,rfl,_⟩|⟨ids,pm,vq,vw2,rw2,cu,lU,AA,nK,_,_,_,rfl,_⟩
   ·refine h.sub hN (dD _) ah ⟨rfl,rfl,rfl,rfl,rfl,rfl,rfl,rfl,rfl⟩ h.ok.ds (λt b' hg=>?_) EB;have hg:getM t (kq ((dN n b (qm (n.A b) i m qP gX iK)).A b).x.aG n.al)=some b':=hg;rw[hxt] at hg;obtain⟨q1,q2⟩:=akq iO hw.g hg;exact⟨⟨b',q1⟩,hA _ _ q1⟩
   ·refine h.sub hN (dD _) ah ⟨rfl,rfl,rfl,rfl,rfl,rfl,rfl,rfl,rfl⟩ h.ok.ds (λt b' hg=>⟨⟨b',hg⟩,?_⟩) (au _);have hb:=hA m.aG b hw.g;have hl:pm.length=ids.length:=by rw[<-AA,af]
    show sI _ (if b'=b then _ else(dN n b (qm (n.A b) i m qP gX iK)).A b')
    split
    ·refine⟨λe=>absurd e sQ,hb.p,hb.sn,by grind,lU,λy hy=>?_,hb.xi,hb.pq⟩;obtain⟨z,hz,rfl⟩:=List.mem_map.1 hy;exact(nK z hz).2.2.asked
    ·exact hA _ _ hg
theorem gz.comm (h:gz k N n) (iO:uj n) (hb:getM t n.al=some b) (hl:(n.A b).ids.length<=80) (hc:Q6 n t b n1) (hk:k<=190) (hA: ∀t b,getM t n.al=some b->sI N' (n.A b)) (hN:N<=N'):gz (k+1) N' (eQ n1):=by
 have ht:=h.act t b hb;have Xt:=h.DE zQ ht;unfold Q6 Wg at hc;rcases hc with⟨xZ,h0,ki,mR,lX,rfl,_⟩|⟨h0,bx,BY,vp,v2,ki,vs,UG,gn,mR,lX,en,_⟩
 ·have Xl:(jx t (n.A b).x.ml (n.A b).ids).fJ≠0:=λe=>by
   rw[yh e] at xZ h0;rcases h.log.iF (Rk e hl Xt) (h.Wm ht _ _) zQ with q|q
   ·omega
   omega
  have e:=Pq (n:=n) Xl;refine h.sub hN (dD _) zQ ⟨rfl,rfl,rfl,rfl,rfl,rfl,by grind,by grind,rfl⟩ h.ok.ds (λt' b' hg=>?_) EB;have q:=(jF hg).1
  grind
 ·have Nd:(jx t (n.A b).x.ml (n.A b).ids).fJ=0:=by
   apply dz;intro e;rw[Pq e] at h0;rcases(jx t (n.A b).x.ml (n.A b).ids).ye with q|q|q|q
   ·omega
   all_goals grind
  have jE:=h.Wm ht (n.A b).x.ml (n.A b).ids;rw[yh Nd] at h0;have Pr:=((h.log.iF (Rk Nd hl Xt) jE zQ).resolve_left λe=>by omega).2;have hex: ∃n2:br,n2= { n with c:= { n.c with cm:=BY },bl:=cU t bx n.bl,cl:=n.cl++[bx],C:=λb'=>if b'=bx then⟨jx t (n.A b).x.ml (n.A b).ids,vp,v2,(n.A b).ids,false⟩else n.C b' } :=⟨_,rfl⟩;obtain⟨n2,hn2⟩:=hex;have hR:Wk n (jx t (n.A b).x.ml (n.A b).ids) vp n2:=.inr (.inl ⟨rfl,_,bx,BY,v2,rfl,gn,hn2⟩);obtain⟨i1,i2,i3,i4,i5⟩:=Yw h.bl jE (afM h.bl h.ok.id jE) hR h.ok.cw hl;have e2:n2.c.aR=n.c.aR/\n2.cl=n.cl++[bx]/\n2.bl=cU t bx n.bl/\n2.C=λb'=>if b'=bx then⟨jx t (n.A b).x.ml (n.A b).ids,vp,v2,(n.A b).ids,false⟩else n.C b':=by rw[hn2];exact⟨rfl,rfl,rfl,rfl⟩
  have hcn:=h.fZ;have GD:=h.aR;have qI:=h.ok.cl;have aqp:=h.ok.Xq;have xg:(eQ n1).abs=(n.c.aR,n.abs.2++[(jx t (n.A b).x.ml (n.A b).ids,false)]):=by
   rw[en,<-i1];unfold br.abs;rw[e2.1,e2.2.1,e2.2.2.2];rfl
  subst en;refine⟨⟨h.ok.id,λt' b' hg=>hA t' b' (jF hg).1,h.ok.ds,rfl,rfl,rfl,rfl,rfl,?_,?_,by omega,h.ok.pre,?_,?_⟩,?_,?_,?_,?_,λt' b' hg=>?_,?_,?_⟩
  ·show(n.cl++[bx]).length<=_;simp;omega
  ·exact ad EB zQ
  ·rw[e2.2.1,e2.2.2.2] at i4;exact i4
  ·intro t' b' hg;have q:=(i2 t' b').1 (by rw[e2.2.2.1];exact hg);rw[e2.2.1,e2.2.2.2] at q;exact q
  ·intro t' b';have q:=i2 t' b';rw[e2.2.2.1,e2.2.1,e2.2.2.2] at q;exact q
  ·rw[xg,<-yh Nd] at*;exact Pr
  ·show 0<=n.c.fZ/\n.c.fZ<=((k+1:Nat):Int);omega
  ·show 1<=n.c.aR/\n.c.aR<=((k+1:Nat):Int);omega
  ·obtain⟨q1,q2⟩:=jF hg;have q:=h.act t' b' q1;exact⟨q.co,q.aR,q.sq,by show getM t' (cU t bx n.bl)=none;rw[pO q2];exact q.bl⟩
  ·rw[xg];intro x hx;rcases List.mem_append.1 hx with hx|hx
   ·exact h.abs x hx
   ·rw[ax] at hx;subst hx;have:=ht.sq;exact⟨ht.co,by rw[show(jx t (n.A b).x.ml (n.A b).ids).aG.aR=t.aR from rfl,ht.aR];omega,by show t.aR<=n.c.aR;rw[ht.aR];omega,this.1,by show t.sq<=2^40;omega⟩
  ·rw[xg];intro x hx Uh;rcases List.mem_append.1 hx with hx|hx
   ·exact h.BZ x hx Uh
   ·rw[ax] at hx;subst hx;exact ht.sq.2
theorem gz.YH (h:gz k N n) (iO:uj n) (hs:Q7 n m n1) (hk:k<=190):gz (k+1) N (eQ n1):=by
 rcases hs with⟨gN,rfl,_⟩|hg|⟨b,i,y,gN,gX,iK,n2,hw,rfl,hc⟩
 ·exact h.sub (au _) (dD _) zQ ⟨rfl,rfl,rfl,rfl,rfl,rfl,rfl,rfl,rfl⟩ h.ok.ds (λt b hg=>⟨⟨b,hg⟩,h.ok.act t b hg⟩) (au _)
 ·exact h.EZ hg (au _) (dD _) zQ
 ·have ha:=h.ok.act _ _ hw.g;have hA: ∀t' b',getM t' n.al=some b'->sI N ((dN n b (mF (n.A b) i m gX iK)).A b'):=λt' b' hg=>by
   show sI _ (if b'=b then _ else n.A b')
   split
   ·refine⟨ha.q,ha.p,ha.sn,?_,ha.ids,λy hy=>?_,ha.xi,ha.pq⟩
    ·have:=ha.ws;simp[mF];omega
    ·exact ha.C5 y ((List.mem_append.1 hy).elim dK di)
   ·exact h.ok.act t' b' hg
  rcases hc with⟨_,rfl⟩|⟨_,hc⟩
  ·exact h.sub (au _) (dD _) zQ ⟨rfl,rfl,rfl,rfl,rfl,rfl,rfl,rfl,rfl⟩ h.ok.ds (λt b' hg=>⟨⟨b',hg⟩,hA t b' hg⟩) (au _)
  ·have h2:gz k N (eQ { dN n b (mF (n.A b) i m gX iK)with ck:=gN }):=h.sub (au _) (au _) zQ ⟨rfl,rfl,rfl,rfl,rfl,rfl,rfl,rfl,rfl⟩ h.ok.ds (λt b' hg=>⟨⟨b',hg⟩,hA t b' hg⟩) (au _);have e:eQ { dN n b (mF (n.A b) i m gX iK)with ck:=gN } = { dN n b (mF (n.A b) i m gX iK)with ck:=gN } :=by
    have h1:=h.ok.eQ;have:eQ { dN n b (mF (n.A b) i m gX iK)with ck:=gN } = { dN (eQ n) b (mF (n.A b) i m gX iK)with ck:=gN } :=rfl;rw[this,h1]
   rw[e] at h2;refine h2.comm (λt' b' hg=>?_) (b:=b) hw.g ?_ hc hk hA (au _)
   ·show(if b'=b then mF (n.A b) i m gX iK else n.A b').x.aG=t'
    have:=iO t' b' hg
    grind [mF]
   ·exact(hA _ _ hw.g).ids
end
variable {en : Bool} {v2 : Value}
section
variable {n : br}
theorem gz.ajP (h:gz k N n) (hb:getM t n.bl=some b) (he:(n.C b).ended=false):tY n.abs (mG t)=some (n.c.aR,IX t n.abs.2):=by
 obtain⟨h1,h2⟩:=(h.bl t b).1 hb;unfold tY;rw[if_neg (show¬(mG t).kind=8 from(by decide: ¬(10:Int)=8)),if_neg (show¬(mG t).kind=9 from(by decide: ¬(10:Int)=9)),if_pos (show(mG t).kind=10 from rfl),if_pos ?_]
 ·rfl
 ·exact⟨((n.C b).r,(n.C b).ended),List.mem_map.2 ⟨b,h1,rfl⟩,h2,he⟩
theorem gz.ajQ (h:gz k N n) (hk:k<=1000) (hb:getM t n.bl=some b):Ux (mG t)/\(mG t).fJ=0:=by
 obtain⟨h1,h2⟩:=(h.bl t b).1 hb;have ha:=h.abs _ (List.mem_map.2 ⟨b,h1,rfl⟩);dsimp only at ha;rw[h2] at ha;have hl:=h.aR;have e:n.abs.1=n.c.aR:=rfl;rw[e] at ha;refine ams ?_ ?_
 ·unfold Go.Proofs.YtgfijddlkhkopaaGreat.DE vA;omega
 ·unfold bX.may;simp_all
theorem UH {s:kL} (h:Bv s):Bv (s.1,IX t s.2):=λx hx=>by
 obtain⟨y,hy,rfl⟩:=List.mem_map.1 hx;have:=h y hy;split<;>omega
theorem ah6 {s:kL} (h:Bv s) (h1:t.dW=1) (h2:1<=t.aR/\t.aR<=s.1) (h3:1<=t.sq/\t.sq<=2^40):Bv (s.1,s.2++[(jx t st ids,false)]):=λx hx=>by
 rcases List.mem_append.1 hx with hx|hx
 ·exact h x hx
 ·rw[ax] at hx;subst hx;exact⟨h1,h2.1,h2.2,h3.1,h3.2⟩
theorem ah7 (h:LV n) (hb:getM t n.bl=some b) (he:(n.C b).ended=false):
  (n.cl.map λb'=>(((nI n b (sJ (n.C b) i v2 en)).C b').r,((nI n b (sJ (n.C b) i v2 en)).C b').ended))=if en then IX t n.abs.2 else n.abs.2:=by
 obtain⟨h1,h2⟩:=(h t b).1 hb;cases en with
 |false=>
  rw[if_neg dQ];refine eB λb' dO=>?_;unfold nI sJ;dsimp only
  grind
 |true=>
  rw[if_pos rfl];unfold IX br.abs;dsimp only;rw[cd];refine eB λb' dO=>?_;unfold nI sJ;dsimp only;by_cases e:b'=b
  ·grind
  ·rw[if_neg e];have: ¬(n.C b').r.aG=t:=λe'=>by
    have:=(h _ _).2 ⟨dO,e'⟩
    grind
   simp[this]
theorem ab8 (h:LV n): ∀t b',getM t n.bl=some b'↔b'∈n.cl/\((nI n b (sJ (n.C b) i v2 en)).C b').r.aG=t:=λt b'=>by
 refine(h t b').trans (and_congr_right λ_=>?_);unfold nI sJ;dsimp only
 grind
theorem akr (h: ∀b∈n.cl,(n.C b).waits.length<=80) (hb:b∈n.cl): ∀b'∈n.cl,((nI n b (sJ (n.C b) i v2 en)).C b').waits.length<=80:=λb' dO=>by
 unfold nI sJ;dsimp only;split
 ·have:=h b hb;simp;omega
 grind
theorem gz.done (h:gz k N n) (hs:adR n m n1) (hk:k<=190):gz (k+1) N (eQ n1):=by
 rcases hs with rfl|⟨b,i,v2,hD,hc⟩
 ·exact h.sub (au _) (dD _) zQ (Calm.refl _) h.ok.ds (λt b hg=>⟨⟨b,hg⟩,h.ok.act t b hg⟩) (au _)
 ·obtain⟨hbc,Ui⟩:=(h.bl _ _).1 hD.g;have hcn:=h.fZ;have GD:=h.aR;have mk: ∀{L':LM} {m':DM} {en:Bool},(∀s2,s2=(if en then IX m.aG n.abs.2 else n.abs.2)->wQ ⟨L',m'⟩ (k+1) (n.c.aR,s2))->gz (k+1) N (eQ { nI n b (sJ (n.C b) i v2 en)with L:=L',m:=m' }):=λ{L' m' en} Pr=>by
   have e:=ah7 (i:=i) (v2:=v2) (en:=en) h.bl hD.g hD.en;have xg:(eQ { nI n b (sJ (n.C b) i v2 en)with L:=L',m:=m' }).abs=(n.c.aR,if en then IX m.aG n.abs.2 else n.abs.2):=by
    unfold br.abs;exact congrArg (Prod.mk _) e
   refine⟨⟨h.ok.id,h.ok.act,h.ok.ds,rfl,rfl,rfl,rfl,rfl,uJ h.ok.cl,uJ h.ok.Xq,by omega,h.ok.pre,akr h.ok.cw hbc,λt b' hg=>(ab8 h.bl t b').1 hg⟩,ab8 h.bl,by rw[xg];exact Pr _ rfl,?_,?_,λt b' hg=>?_,?_,?_⟩
   ·show 0<=n.c.fZ/\n.c.fZ<=((k+1:Nat):Int);omega
   ·show 1<=n.c.aR/\n.c.aR<=((k+1:Nat):Int);omega
   ·have q:=h.act t b' hg;exact⟨q.co,q.aR,q.sq,q.bl⟩
   ·rw[xg];cases en
    ·exact h.abs
    ·exact UH (s:=n.abs) h.abs
   ·rw[xg];cases en
    ·exact h.BZ
    ·intro x hx hl;obtain⟨y,hy,rfl⟩:=List.mem_map.1 hx;have:=h.BZ y hy;split at hl<;>(split;exact this hl;exact this hl)
  rcases hc with⟨_,rfl⟩|⟨_,xZ,rfl⟩
  ·exact mk (en:=false) λs2 e=>by rw[e];exact h.log.up (dD _)
  ·obtain⟨cg,ce⟩:=h.ajQ zQ hD.g;unfold LC;rw[yh ce] at xZ⊢;rcases h.log.iF cg (h.ajP hD.g hD.en) zQ with q|⟨q0,q⟩
   ·exact absurd q.1 xZ
   ·rw[decide_eq_true q0];exact mk (en:=true) λs2 e=>by rw[e];exact q
theorem gz.ask (h:gz k N n) (hs:adU n m n1) (hk:k+1<=1000):gz (k+1) N (eQ n1):=by
 rcases hs with⟨_,rfl⟩|⟨_,mR,lX,rfl,_⟩;all_goals exact h.sub (au _) (dD _) hk ⟨rfl,rfl,rfl,rfl,rfl,rfl,rfl,rfl,rfl⟩ h.ok.ds (λt b hg=>⟨⟨b,hg⟩,h.ok.act t b hg⟩) (au _)
theorem gz.up (h:gz k N n) (hk:k<=k') (ah:k'<=1000) (hN:N<=N'):gz k' N' n:=by
 have:=h.sub (n1:=n) hN hk ah (Calm.refl _) h.ok.ds (λt b hg=>⟨⟨b,hg⟩,(h.ok.act t b hg).up hN⟩) (au _)
 rwa [h.ok.eQ] at this
theorem gz.step (h:gz k N n) (iO:uj n) (hs:CT n m n1) (hk:k<=190):gz (k+1) (N+m.seen.length) (eQ n1):=by
 have up: ∀{n1},gz (k+1) N (eQ n1)->gz (k+1) (N+m.seen.length) (eQ n1):=λh=>h.up (au _) zQ (kc _ _);have same:gz (k+1) (N+m.seen.length) (eQ n):=up (h.sub (au _) (dD _) zQ (Calm.refl _) h.ok.ds (λt b hg=>⟨⟨b,hg⟩,h.ok.act t b hg⟩) (au _));rcases hs with⟨_,rfl⟩|⟨_,_,⟨_,hs⟩|⟨_,hs⟩|⟨_,hs⟩|⟨_,hs⟩|⟨_,_,_,_,rfl⟩⟩
 ·omega
 ·exact h.seen iO hs zQ
 ·exact up (h.YH iO hs hk)
 ·exact up (h.done hs hk)
 ·exact up (h.ask hs zQ)
 omega
def ad3 (n:br) (m:cJ) (s:kL):Prop:=s=n.abs\/(m.kind=4/\ ∃(b i:Nat) (y:cJ),CN n m true b i y/\(n.A b).ws.length=1/\s=(n.c.aR,n.abs.2++[(jx m.aG ((n.A b).x.ml.later m.aU) (n.A b).ids,false)]))\/(m.kind=6/\s=(n.c.aR,IX m.aG n.abs.2))
def DnS (k:Nat) (P:kL->Prop) (m:DM):Prop:=m.dn=true/\yJ k (λs=>P s/\Bv s) m
def DnS.up {m:DM} (h:DnS k P m) (hk:k<=k'):DnS k' P m:=⟨h.1,h.2.imp hk λ_ h=>h⟩
theorem gz.crs (h:gz k N n):yJ k (λs=>s=n.abs/\Bv s) n.m:=h.log.crs.imp (au _) λs e=>⟨e,by rw[e];exact h.abs⟩
theorem gz.aoD {m':DM} (h:gz k N n) (hs:IV n m m') (hk:k<=190):DnS (k+1) (ad3 n m) m':=by
 obtain⟨_,_,⟨ES,b,i,y,hw,hl,xZ,rfl⟩|⟨hk6,b,i,hD,hl,xZ,rfl⟩⟩:=hs
 ·have ht:=h.act _ _ hw.g;have ha:=h.ok.act _ _ hw.g;have Nd:(jx m.aG ((n.A b).x.ml.later m.aU) (n.A b).ids).fJ=0:=by
   apply dz;intro e;rw[Pq e] at xZ;rcases(jx m.aG ((n.A b).x.ml.later m.aU) (n.A b).ids).ye with q|q|q|q
   ·omega
   all_goals grind
  rw[yh Nd] at xZ⊢;have hcn:=h.fZ;have hsq:=ht.sq;rcases h.log.iF (Rk Nd ha.ids (h.DE zQ ht)) (h.Wm ht _ _) zQ with q|q
  ·refine⟨q.2.1,q.2.2.imp (au _) λs e=>?_⟩;rcases e with e|e
   ·exact⟨.inl e,by rw[e];exact h.abs⟩
   ·exact⟨.inr (.inl ⟨ES,b,i,y,hw,hl,e⟩),by rw[e];exact ah6 (s:=n.abs) h.abs ht.co ⟨by rw[ht.aR];exact h.aR.1,by rw[ht.aR];exact tu _⟩ ⟨hsq.1,by omega⟩⟩
  omega
 ·obtain⟨cg,ce⟩:=h.ajQ zQ hD.g;rw[yh ce] at xZ⊢;rcases h.log.iF cg (h.ajP hD.g hD.en) zQ with q|q
  ·refine⟨q.2.1,q.2.2.imp (au _) λs e=>?_⟩;rcases e with e|e
   ·exact⟨.inl e,by rw[e];exact h.abs⟩
   ·exact⟨.inr (.inr ⟨hk6,e⟩),by rw[e];exact UH (s:=n.abs) h.abs⟩
  omega
theorem gz.Br {l:List fe} {m:DM} (hb:ad1 m k s1 x pre sg rs) (ha:Bv s1) (hn:ajK l x s1 db rs.length n) (hds: ∀(i:Int) (r:fe),getM i (l.foldl ja [])=some r->r.id=i) (hk:k+1<=1000):gz (k+1) N n:=by
 have hl:=hb.aR;have hlen:=hb.len;have hc:=hn.cl;have GD:n.c.aR=s1.1+1:=congrArg Prod.fst hn.abs;have hcn:=hn.fZ;refine⟨⟨hn.id,λt b hg=>(by rw[hn.al] at hg;cases hg),by rw[hn.ds];omega,hn.ms,hn.vm,hn.va,hn.rm,hn.ra,by omega,by rw[hn.al];grind,hk,hn.pre,hn.cw,λt b hg=>(hn.bl t b).1 hg⟩,hn.bl,?_,by omega,by omega,λt b hg=>(by rw[hn.al] at hg;cases hg),?_,?_⟩
 ·rw[hn.ld,hn.abs];exact hb.up
 ·rw[hn.abs];intro x hx;have:=ha x hx;dsimp only;omega
 ·rw[hn.abs,GD];intro x hx e;have:=ha x hx;omega
end
variable {most : Int}
theorem Kl {xs:List fg} (ha:Sl w X 7 a (xs.map fg.l)):
  Ct pg 67 #[a,I most] w X nX El:=by
 intro w0 hk;replace ha:=ha.mv hk.cE;have lh:=ha.gV;refine IY.1 λhs=>?_;refine gM (λn a b w X=> ∃(i:Nat) (s:Int),a=I i/\b=I s/\n=(xs).length-i/\i<=(xs).length/\ai (bP w0) w0 X w) (xs).length ⟨0,_,rfl,rfl,rfl,ak _,hs⟩ ?_;rintro n a b w X ⟨i,s,rfl,rfl,rfl,hi,hs⟩;repeat' first|refine aq ?_;intros|refine dg ?_ ?_<;>intros|(refine qr ?_;intro wa hk;exact⟨_,rfl⟩)|(refine yi (ky  _ _ _ _ _) hs ?_;intro n1 w X hs)|((with_reducible refine fG ((xs).length-(i+1)) ?_ ?_);omega;exact⟨i+1,_,by simp,rfl,rfl,by omega,hs⟩)|with_reducible apply oG
theorem LZ (ha:m.at w X vk vs vw vp vr vc vh vd):
  Ct pg 30 #[m.v vk vs vw vp vr vc vh vd,I most] w X nX El:=by
 intro w0 hk;obtain⟨h1,h2,h3,h4,h5,h6,h7,h8⟩:=ha.mv hk.cE;have lh:=h6.len;refine Km.1 λhs=>?_;repeat' first|refine aq ?_;intros|(refine yi (ky  _ _ _ _ _) hs ?_;intro n1 w X hs)|(refine yi (vO  qA) hs ?_;intro n1 w X hs)|(refine yi (Kl  qA) hs ?_;intro n1 w X hs)|(refine yi (uK  qA) hs ?_;intro n1 w X hs)|with_reducible apply oG
 refine gM (λn a b w X=> ∃(i:Nat) (s:Int),a=I i/\b=I s/\n=(m.bw).length-i/\i<=(m.bw).length/\ai (bP w0) w0 X w) (m.bw).length ⟨0,_,rfl,rfl,rfl,ak _,hs⟩ ?_;rintro n a b w X ⟨i,s,rfl,rfl,rfl,hi,hs⟩;repeat' first|refine aq ?_;intros|refine dg ?_ ?_<;>intros|((with_reducible apply ab9);assumption;(try (case hz=>rfl));(case hr=>exact qR);(try (case hz=>omega));(case ht=>kernel_rfl);(case hs=>kernel_rfl);intros)|(refine qr ?_;intro wa hk;exact⟨_,rfl⟩)|(refine yi (ky  _ _ _ _ _) hs ?_;intro n1 w X hs)|(refine yi (Bw  (s:=m.state) qA qA) hs ?_;intro n1 w X hs)|(refine yi ((L3 (r:=_))  (Rec.at.mv aQ hs.mv)) hs ?_;intro n1 w X hs)|((with_reducible refine fG ((m.bw).length-(i+1)) ?_ ?_);omega;exact⟨i+1,_,by simp,rfl,rfl,by omega,hs⟩)|with_reducible apply oG
structure jd where
 kind:Int
 gP:Int
 n:Int
 m:cJ
 prog:List jz
 cT:List Int
abbrev jd.l (o:jd) (vk vs vw vp vr vc vh vd vo vq:Value):List Value:=[I o.kind,I o.gP,I o.n,I o.m.kind,I o.m.fr,I o.m.to,I o.m.aG.dW,I o.m.aG.aR,I o.m.aG.sq,I o.m.range,I o.m.iE,I o.m.code,
 I o.m.aU.wall,I o.m.aU.dA,I o.m.aU.node,I o.m.prev.wall,I o.m.prev.dA,I o.m.prev.node,B o.m.jM,I o.m.n,I o.m.mx,vk,vs,vw,vp,vr,vc,
 I o.m.state.range.id,I o.m.state.range.iE,.float .f64 o.m.state.range.lo,.float .f64 o.m.state.range.hi,
 I o.m.state.floor.wall,I o.m.state.floor.dA,I o.m.state.floor.node,I o.m.state.closed.wall,I o.m.state.closed.dA,I o.m.state.closed.node,vh,vd,vo,vq]
structure jd.at (w:World) (X:XS) (o:jd) (vk vs vw vp vr vc vh vd vo vq:Value):Prop where
 m:o.m.at w X vk vs vw vp vr vc vh vd
 po:Sl w X 5 vo (o.prog.map jz.l)
 p:Sl w X 1 vq (o.cT.map I1)
def jd.rd (w:World) (X:XS) (l:List Value) (o:jd):Prop:= ∃vk vs vw vp vr vc vh vd vo vq,l=o.l vk vs vw vp vr vc vh vd vo vq/\o.at w X vk vs vw vp vr vc vh vd vo vq
def jd.mv:GF jd.rd:=λ⟨vk,vs,vw,vp,vr,vc,vh,vd,vo,vq,h,h1⟩ m=>⟨vk,vs,vw,vp,vr,vc,vh,vd,vo,vq,h,⟨h1.m.mv m,h1.po.mv m,h1.p.mv m⟩⟩
def Fw {P:Program} {X0:XS} {N:Value->Prop} {t:TypeId} {v:Value} {xs:List jd} {x:jd} (h:eY w0 X0 41 v jd.rd xs) (hr:xs[i]? =some x)
  (hz:z=i) (ht:P.underlying t=some (.slice (P.elem t))) (hs:(P.info? (P.elem t)).map (·.size)=some 41)
  (n: ∀b o vk vs vw vp vr vc vh vd vo vq,aK.one vk=true->aK.one vs=true->aK.one vw=true->aK.one vp=true->aK.one vr=true->aK.one vc=true->aK.one vh=true->aK.one vd=true->aK.one vo=true->aK.one vq=true->Sl w0 X0 5 vo (x.prog.map jz.l)->
   Cells w0 X0 b o (x.l vk vs vw vp vr vc vh vd vo vq)->x.at w0 X0 vk vs vw vp vr vc vh vd vo vq->N (ptr b o)):aY P X w (nW t 41 v (.int .i64 z)) N:=
 Gl h hr hz ht hs λb o _ hc ⟨vk,vs,vw,vp,vr,vc,vh,vd,vo,vq,hl,h1⟩=>n b o vk vs vw vp vr vc vh vd vo vq h1.m.keys.one h1.m.seen.one h1.m.writes.one h1.m.parts.one h1.m.ranges.one h1.m.bw.one h1.m.iA.one h1.m.ia.one h1.po.one h1.p.one h1.po (hl▸hc) h1
abbrev rg1:fe:=⟨1,0,0,4602678819172646912⟩
abbrev rg2:fe:=⟨2,0,4602678819172646912,4607182418800017408⟩
abbrev L4:List fe:=[rg1,rg2]
abbrev kEx:BA:=⟨#[107]⟩
abbrev B3:List jz:=[⟨4,⟨#[]⟩,⟨1,4607182418800017408,⟨#[]⟩⟩⟩,⟨2,kEx,.zero⟩]
abbrev L5:tK:=[(1,rg1),(2,rg2)]
theorem SO:Bt L4=0:=by kernel_rfl
theorem Rl:L4.foldl ja []=L5:=by kernel_rfl
theorem amt {i:Int} {r:fe} (h:getM i L5=some r):r.id=i:=by
 have hm:=gS h;simp only[L5,il,Prod.mk.injEq,dJ,or_false] at hm;rcases hm with⟨rfl,rfl⟩|⟨rfl,rfl⟩<;>rfl
abbrev UI:Value:=.slice none 0 0
theorem UJ (k:BA):fT [k]=[k]:=by
 simp[fT,bl]
theorem afR:fT []=[]:=by simp[fT]
theorem afS (k:Int):qk [k]=[k]:=by simp[qk]
theorem Fx:fq 1 1 B3=[]:=by grind [lr,fq,afR]
theorem afT:fq 2 3 B3=[kEx]:=by
 have:B3.foldl (lr 2 3) []=[(kEx,1)]:=by kernel_rfl
 grind [fq,UJ]
theorem aca:nG B3=0:=by
 have:zg B3 0=0:=by kernel_rfl
 unfold nG;rw[if_neg dQ,if_neg zQ,Fx,afT,if_neg dQ]
theorem amu:runM B3 [] []= .ok ([],[(kEx,⟨1,4607182418800017408,⟨#[]⟩⟩)]):=by rfl
abbrev wEx:GG:=[(kEx,⟨1,4607182418800017408,⟨#[]⟩⟩)]
theorem YI:nZ L5 kEx=some rg1:=by kernel_rfl
theorem afU:Fy wEx=[⟨kEx,⟨1,4607182418800017408,⟨#[]⟩⟩⟩]:=by
 unfold Fy;rw[show(wEx.map (·.1))=[kEx] from rfl,UJ];rfl
theorem aks:tM B3 ⟨0,0,21⟩ 5 L5=0:=by
 unfold tM;rw[aca,Fx];rfl
abbrev YJ:cn:=⟨7,0,1⟩
abbrev L6:bX:=⟨1,1,1⟩
theorem afV:(jx L6 YJ [1]).fJ=0:=by kernel_rfl
def Ib:cJ:=⟨4,1,21,L6,1,0,0,YJ,.zero,false,0,0,[],[],[],[],[],[],.zero⟩
theorem akt:Ib.err=0:=by rfl
theorem amv {st:State} (h1:st.iA=[]) (h2:st.ia=[]):st.small:=⟨by rw[h1];exact λ_ h=>absurd h sQ,by rw[h2];exact λ_ h=>absurd h sQ,by rw[h1];exact λ_ h=>absurd h sQ,by rw[h2];exact λ_ h=>absurd h sQ⟩
theorem afW:Ib.small:=⟨by decide,by decide,by simp[Ib],by simp[Ib],amv rfl rfl⟩
theorem ah8:Ib.lens<=2^62:=by decide
theorem ah9:cn.later .zero YJ=YJ:=by rfl
theorem L7:Ct pg 37 #[] w X nX λv wa w'=>Own w' (made wa w') wa.heap.size 48 4 v (L4.map fe.l):=by
 intro w0 hk;refine Ps.1 λhs=>?_;repeat' refine aq ?_;intros
 refine Wn (rows:=L4.map fe.l) (rg1.l++rg2.l).toArray fe.zero.v hs.has (bytes:=32) kQ kQ zQ zQ kQ sQ rfl rfl λv2 w2 X2 bH kF=>?_;exact cH (hs.trans bH) λH3 aL=>(kF.kp aL).tight
end Go.Proofs.YtgfijddlkhkopaaGreat