/- Part 13 of the proof. -/
import Derived.Shelf.Abstract
import Derived.Test.YtgfijddlkhkopaaGreatG12
set_option linter.all false
open Nat renaming le_refl → au, le_succ → cZ, le_trans → ad, zero_le → aq, le_of_ble_eq_true → ep, le_succ_of_le → uE, le_add_right → j7
open List renaming length_append → aa, mem_singleton → av, length_map → af, length_nil → bF, map_append → az, map_congr_left → dp, map_cons → aZ, length_cons → aM, mem_of_getElem? → ax, append_assoc → ak, length → bf, map_map → bw, map_nil → lh, mem_cons → ij, not_mem_nil → dI, take_add_one → cn, mem_cons_of_mem → bS, take_of_length_le → aB, take_append_drop → eo, flatten_cons → cV, getElem?_cons_succ → vB, sum_append → Cj, dropLast_concat → jJ, mem_of_mem_take → dc, mem_of_mem_drop → da
open Option.some renaming inj → bV, injEq → aj
open Classical renaming byContradiction → dO
open Go.World renaming cell? → fp, frozen? → zu, putObj_heap_same → kg, putObj_heap_other → fw
open Int renaming le_refl → gP
open Bool renaming and_eq_true → aC
open Go.Obj.cells renaming injEq → Ck
namespace Go.Proofs.YtgfijddlkhkopaaGreat
open Go.Proofs.Tryz renaming prog → pg
open Go.aJ
set_option maxRecDepth 100000
set_option maxHeartbeats 4000000
attribute [local irreducible] un jn jg iN ld1 tW st1 mG lN pB sH pT J6 Fc gR ru aX lW lP eW eV eU eC eF gE np fin ix cj eP vS OA J7 J9 Ka Kb Kc OB OC Kd OD Gz GA Ke Kf Kg OE OF Kh
variable {z : Int} {xs : List Int} {a : Value} {X : XS} {w : World}
theorem abG (ha:Sl w X 1 a (xs.map I1)):Ct pg 107 #[a,I z] w X nX λv _ _=>v=I (idxOf (λy=>decide (y=z)) xs):=by
 intro w0 hk;replace ha:=ha.mv hk.cd;have kV:=ha.gN;refine D6.1 λhs=>?_;repeat' refine ao ?_;intros
 refine eI (λn a w X=> ∃i:Nat,a=I (i:Nat)/\n=(xs).length-i/\i<=(xs).length/\ai (bN w0) w0 X w/\(∀(j:Nat) x,j<i->xs[j]? =some x->decide (x=z)=false)) (xs).length ⟨0,rfl,rfl,aq _,hs,by simp⟩ ?_;rintro n a w X ⟨i,rfl,rfl,hi,hs,hw⟩;rcases dD (xs) i with⟨cx,x,hx,hd⟩|⟨dA,hd⟩
 ·repeat' first|refine aL ?_;intros|refine cP ?_ ?_<;>intros|(refine qr ?_;intro wa hk;(subst_vars;rw[CG hw hx sQ]))|((with_reducible refine dS ((xs).length-(i+1)) ?_ ?_);omega;exact⟨i+1,by simp,rfl,by omega,hs,λj y hj hy=>by rcases Nat.lt_succ_iff_lt_or_eq.1 hj with h|h;exact hw j y h hy;subst h;rw[hx] at hy;cases hy;simp;intro e;simp_all⟩)
 ·repeat' first|refine aL ?_;intros|(refine qr ?_;intro wa hk;(rw[yS λj x hj hx=>hw j x zQ hx]))
def l7 (t:bu):Rec:=⟨10,t,.zero,.zero,false,0,0,[],[],[],[],.zero⟩
theorem RF (t:bu):gd (l7 t)=encI 10++nR t:=by simp[gd,l7]
def mR (n:bh) (b:Nat) (d:yh):bh:= { n with C:=λb'=>if b'=b then d else n.C b' }
def sy (d:yh) (i:Nat) (v2:Value) (en:Bool):yh:= { d with v2:=v2,waits:=d.waits.take i++d.waits.drop (i+1),ended:=en }
structure aeo (n:bh) (m:cD) (b i:Nat):Prop where
 g:getM m.aH n.bl=some b
 en:(n.C b).ended=false
 gJ:(n.C b).waits[i]? =some m.range
def aep (n:bh) (m:cD) (n':bh):Prop:=
 n'=n\/ ∃b i v2,aeo n m b i/\(((n.C b).waits.length≠1/\n'=mR n b (sy (n.C b) i v2 false))\/
  ((n.C b).waits.length=1/\(jE n (l7 m.aH)).2.2≠12/\n'=mR (Jc n (l7 m.aH)) b (sy (n.C b) i v2 (decide ((jE n (l7 m.aH)).2.2=0)))))
def aeq (n:bh) (m:cD) (m':DM):Prop:= ∃b i,aeo n m b i/\(n.C b).waits.length=1/\Nt n (l7 m.aH) m'
structure aer (n:bh) (m:cD):Prop where
 co:m.aH.dU=n.c.id
 al:getM m.aH n.al=none
 aN:m.aH.aN<=n.c.aN
 sq:m.aH.aN=n.c.aN->m.aH.sq<=n.c.ey
def am3 (m:cD) (no:Int) (cm:Option bX):cD:= { CA with kind:=5,fr:=no,to:=m.fr,aH:=m.aH,range:=m.range,jK:=cm.isSome,aV:=cm.getD .zero }
def aes (n:bh) (m:cD) (n':bh):Prop:=(¬aer n m/\n'=n)\/(aer n m/\Told n [am3 m (20+n.c.id) ((getM m.aH n.bl).map λb=>(n.C b).r.aV)] n')
variable {w' w0 wa : World} {X' : XS} {own aG bK : Nat -> Nat} {n' : bh} {M N b i : Nat} {d : yh} {sg : dN} {pre : List dN} {vc vd vh vk vp vr vs vw : Value} {m : cD}
section
variable {n : bh}
theorem L9 {n:bh} :(mR n b d).C b=d:=if_pos rfl
theorem U3 {n:bh} {e:yh} :mR (mR n b d) b e=mR n b e:=by
 unfold mR
 congr 1
 funext b'
 by_cases h:b'=b<;>simp[h]
theorem W5 {Q:Nat->Prop} (h: ∀i,Q (tx b i)-> ∀w K A,(Kq b (n.C b) i).p w K A->(Kq b d i).p w K A:=by intro i hq w K A h;rcases i with _|_|_|_|_|_|_|_|i<;>first|exact h|exact absurd rfl hq.1|exact absurd rfl hq.2.1|exact absurd rfl hq.2.2|exact absurd rfl hq): ∀c,Q c-> ∀w K A,(dV n c).p w K A->(dV (mR n b d) c).p w K A:=
 (nO (ard h): ∀c,Q c-> ∀w K A,(dV n c).p w K A->(dV (mR n b d) c).p w K A)
theorem Nv {K A:XS} (hi:i=4\/i=5\/i=6) (h:(Kq b d i).p w K A):(dV (mR n b d) (tx b i)).p w K A:=by
 rw[wq _ _ _ zQ];rcases hi with rfl|rfl|rfl<;>(simp only[zT,DD,L9];exact λ_=>h)
theorem Y5 (h:jD w own n) (hX:rO own X) (gq:oP ⟨n.L,n.m⟩ pre sg) (hk:tp N M n):
  FB pg 57 #[ptr n.nb 0,m.v vk vs vw vp vr vc vh vd] w X (gC own) (λ_ wa w'=>NQ dV own wa w' λ_ n'=>aep n m n') (λch wa w'=>ch=BN/\DQ own n.nb n.db wa w' (aeq n m)):=by
 intro w0 iq;have s:=St.init h hX iq;clear h hX iq;have hr:=s.v.1;have hs:=s.rf;refine Ma.1 λ_=>?_;repeat' refine ao ?_;intros
 refine mZ (kt:=34) (et:=124) (kv:=λk:bu=>k.v) (k:=m.aH) (.pointer none) (s.Ay 6:) td kQ kQ (λv b lq rN=>?_) (λhn=>?_);case refine_2=>
  repeat' refine ao ?_;intros
  exact s.yi λ_ _=>.inl rfl
 simp only[zP] at rN;subst rN;obtain⟨hb,UR⟩:=hk.byT _ _ lq;obtain⟨hc,o2,o1,H4⟩:=s.vc hb;have hw8:=H4.gN;by_cases Cb:(n.C b).ended=true
 ·rw[Cb] at hc;repeat' refine ao ?_;intros
  exact s.yi λ_ _=>.inl rfl
 replace Cb:(n.C b).ended=false:=by simpa using Cb
 rw[Cb] at hc;repeat' refine ao ?_;intros
 refine dZ (abG (z:=m.range) H4) kQ hs.has λw1 X1 ay=>?_;have s1:=s.since (hs.trans ay);clear hs ay hc H4 s hr;have hs:=s1.rf;obtain⟨hc,-⟩:=s1.vc hb;rw[Cb] at hc;rcases Hv (p:=λy:Int=>decide (y=m.range)) (l:=(n.C b).waits)with⟨e,_⟩|⟨i,y,hy,hyp,e⟩
 ·rw[e];repeat' refine aL ?_;intros
  exact s1.yi λ_ _=>.inl rfl
 rw[e];obtain rfl:y=m.range:=by simpa using hyp
 have hD:aeo n m b i:=⟨lq,Cb,hy⟩;have nN:i<(n.C b).waits.length:=(List.getElem?_eq_some_iff.1 hy).1;have iH:=s1.h.BP hb;rw[Cb] at iH;repeat' refine aL ?_;intros
 refine s1.aih (tx b 4) (tx b 5) 0 iH.1 iH.2.1 (abu (F:=X1) (iH.2.1.mono (s1.sub _ iy.1)) (λ_ h=>h) (by rw[af];exact nN) λr hr u hu=>by obtain⟨x,_,rfl⟩:=List.mem_map.1 hr;rw[av] at hu;subst hu;rfl) (λv=>dV (mR n b (sy (n.C b) i v false)))
  (λ_ _ _ _ h=>Nv dQ h) (λ_ _ _ _ h=>Nv dQ (by rw[<-List.map_take,<-List.map_drop,<-az] at h;exact h)) (λ_ _ _ _ _ h=>h) (λv=>W5) (λv w2 X2 lQ s2 m2=>?_) (zd:=by unfold tx;omega)
 clear hs hc iH s1;obtain⟨n3,sJ⟩: ∃n3:bh,n3=mR n b (sy (n.C b) i v false):=⟨_,rfl⟩;have e3:n3.C b=sy (n.C b) i v false:=by rw[sJ];exact L9
 have f3:n3.nb=n.nb/\n3.db=n.db/\n3.L=n.L/\n3.m=n.m/\n3.cl=n.cl:=by rw[sJ];exact⟨rfl,rfl,rfl,rfl,rfl⟩
 rw[<-sJ] at s2;have xP:((n.C b).waits.take i++(n.C b).waits.drop (i+1)).length=(n.C b).waits.length-1:=by simp;omega
 have rM:b∈n3.cl:=by rw[f3.2.2.2.2];exact hb
 have hs:=s2.rf;obtain⟨hc,o2,o1,H4⟩:=s2.vc rM;rw[e3] at hc o2 o1 H4;have atE:Sl w2 X2 1 v (((n.C b).waits.take i++(n.C b).waits.drop (i+1)).map I1):=H4;by_cases h1:(n.C b).waits.length=1;case neg=>
  repeat' first|refine aL ?_;intros|with_reducible apply cJ|(refine aet undef rfl ?_)
  exact s2.yi λ_ _=>.inr ⟨b,i,_,hD,.inl ⟨h1,sJ⟩⟩
 rw[<-f3.1,<-f3.2.1];have eK:jE n3 (l7 m.aH)=jE n (l7 m.aH):=by unfold jE;rw[f3.2.2.1,f3.2.2.2.1]
 repeat' first|refine aL ?_;intros|with_reducible apply cJ
 refine s2.GP (YY:=aeq n m) (FE (r:=l7 m.aH) s2.h s2.x (by rw[f3.2.2.1,f3.2.2.2.1];exact gq) (acE rfl rfl rfl rfl rfl) (ED rfl rfl rfl) (by rw[RF];have:=fy 10;have:=DE m.aH;simp only[aa];omega)) kQ (λv4 w4 X4 lR n4 s4 ⟨k1,k2,k3⟩ m4=>?_) λm' Us=>⟨b,i,hD,h1,by unfold Nt at Us⊢;rwa [eK] at Us⟩;obtain⟨z,hz⟩: ∃z,z=(jE n (l7 m.aH)).2.2:=⟨_,rfl⟩;rw[eK,<-hz] at k1 k2;subst k2;have zc:b∈n4.cl:=by rw[k3];exact rM
 have e4:n4.C b=sy (n.C b) i v false:=by rw[k3];exact e3
 have ek:n4=mR (Jc n (l7 m.aH)) b (sy (n.C b) i v false):=by rw[k3];unfold Jc;rw[eK,sJ];rfl
 clear hs hc;have hs:=s4.rf;obtain⟨hc,-⟩:=s4.vc zc;rw[e4] at hc;by_cases Ls:z=0
 ·repeat' refine aL ?_;intros
  refine s4.st (o:=30) (tx b 4) (s4.h.BP zc).1 (dV (mR n4 b (sy (n.C b) i v true))) zQ kQ sQ rfl (λ_ _ _ h=>Nv dQ (by rw[e4] at h;exact h)) (W5 (by rw[e4];intro i hq w K A h;rcases i with _|_|_|_|_|_|_|_|i<;>first|exact h|exact absurd rfl hq)) (λw5 X5 mO s5 m5=>?_) iy.1 iy.2;clear hs
  skip
  exact s5.yi λ_ _=>.inr ⟨b,i,v,hD,.inr ⟨h1,by rw[<-hz];exact k1,by rw[ek,U3,<-hz,Ls];rfl⟩⟩
 ·repeat' refine aL ?_;intros
  exact s4.yi λ_ _=>.inr ⟨b,i,v,hD,.inr ⟨h1,by rw[<-hz];exact k1,by rw[ek,<-hz,decide_eq_false zQ]⟩⟩
theorem V5 (h:jD w own n) (hX:rO own X) (hk:tp N M n):
  Ct pg 58 #[ptr n.nb 0,m.v vk vs vw vp vr vc vh vd] w X (gC own) λ_ wa w'=>NQ dV own wa w' λ_ n'=>aes n m n':=by
 intro w0 iq;have s:=St.init h hX iq;have hi:1<=n.c.id/\n.c.id<=2:=by rw[hk.id];decide
 clear h hX iq;have hr:=s.v.1;have hs:=s.rf;refine KJ.1 λ_=>?_;have xU: ¬aer n m->aJ.fin (vi (gC own) w0 λv w'=>NQ dV own w0 w' λ_ n'=>aes n m n') (bN w0) w0 (.tuple #[]):=λhA=>s.fin λ_ _=>.inl ⟨hA,rfl⟩;by_cases hc:m.aH.dU=n.c.id;case neg=>
  repeat' refine aL ?_;intros
  exact xU λh=>hc h.co
 repeat' refine aL ?_;intros
 refine mZ (kt:=34) (et:=116) (kv:=λk:bu=>k.v) (k:=m.aH) (.pointer none) (s.Ay 5:) td kQ kQ (λv a lq rN=>?_) (λhn=>?_)
 ·simp only[zP] at rN;subst rN;repeat' refine ao ?_;intros
  all_goals exact xU λh=>by rw[h.al] at lq;cases lq
 by_cases hA:aer n m;case neg=>
  have h3:n.c.aN<m.aH.aN\/(m.aH.aN=n.c.aN/\n.c.ey<m.aH.sq):=by
   by_cases h1:n.c.aN<m.aH.aN
   ·exact .inl h1
   ·exact .inr (dO λh2=>hA ⟨hc,hn,by omega,λe=>by omega⟩)
  repeat' first|refine aL ?_;intros|refine cP ?_ ?_<;>intros
  all_goals exact xU hA
 have Dv:=hA.aN;have xP:=hA.sq;repeat' first|refine aL ?_;intros|refine cP ?_ ?_<;>intros
 all_goals
  refine gZ (Q:=λK=> ∀cm:Option bX,cm=((getM m.aH n.bl).map λb=>(n.C b).r.aV)->K (.agg (({ CA with kind:=5,aH:=m.aH,range:=m.range,jK:=cm.isSome,aV:=cm.getD .zero } :cD).l aR aR aR aR aR aR aR aR).toArray)) (λcm iH=>?_) (λK hK=>?_)
  ·refine dZ (BQ hr (λ_ h=>h) hi) kQ hs.has λw1 X1 ay=>?_;have s1:=s.since ay;clear hs hr;have hs:=s1.rf;have hr:=s1.v.1;repeat' first|refine ao ?_;intros|(refine Y6 hs ?_;intro _ _ _ w X hs ho)
   have s2:=s1.since hs;have jB:=fA.aiA ⟨_,_,_,_,_,_,_,_,rfl,(Tn:(am3 m (20+n.c.id) cm).at w (bI own 4) aR aR aR aR aR aR aR aR)⟩;refine s2.ap2 1 8 11 (s2.get 1) (s2.get 8) ho.sl jB.Yq (by rw[hk.rm];simp) (λv=>dV { n with vm:=v,rm:=_,ms:=_ }) (λ_ _ _ _ h=>h) (λ_ _ _ _ h=>h) (λ_ _ _ _ mv h=>fA.app h (jB.mv mv)) (λv'=>nO) λv' w' X' aG s' m'=>?_;clear hs hr
   skip
   exact s'.fin λ_ _=>.inr ⟨hA,_,_,by rw[iH],by simp⟩
  ·repeat' refine ao ?_;intros
   refine mZ (kt:=34) (et:=124) (kv:=λk:bu=>k.v) (k:=m.aH) (.pointer none) (s.Ay 6:) td kQ kQ (λv b lq rN=>?_) (λhn2=>?_)
   ·simp only[zP] at rN;subst rN;obtain⟨hb,_⟩:=hk.byT _ _ lq;obtain⟨hc,o2,o1,H4⟩:=s.vc hb;repeat' refine ao ?_;intros
    exact hK (some (n.C b).r.aV) (by rw[lq];rfl)
   ·repeat' refine ao ?_;intros
    exact hK none (by rw[hn2];rfl)
end
section
variable {nb : Nat} {x0 x1 x2 x3 x4 x5 x6 x7 x8 x9 vm va : Value}
theorem To (h:aI w X nb [x0,x1,x2,x3,x4,x5,x6,x7,x8,x9,vm,va] nT):Ct pg 52 #[ptr nb 0,FA] w X (· =nb) λv _ w'=>v= .tuple #[.agg #[aR,aR],I 12]/\aI w' (· =nb) nb [x0,x1,x2,x3,x4,x5,x6,x7,x8,x9,aR,aR] nT:=by
 intro w0 hk;have Gx:=h.mv hk.cd;have Mb:Ft w0 (λk=>k=nb) w0 (bN w0) (λk=>k=nb):=Ft.init λk e=>by subst e;exact Gx.1
 have hs:=ai.init w0;refine Jd.1 λ_=>?_;repeat' first|with_reducible apply cJ|(with_reducible refine alb ?_ ?_);(· kernel_rfl)|(with_reducible apply akt);rfl|with_reducible apply Y7|with_reducible apply agk|with_reducible apply acF|with_reducible apply Nw|((with_reducible apply Y8))
 refine dJ.2 ⟨rfl,dJ.2 ⟨rfl,?_⟩⟩;repeat' first|with_reducible apply Y7|with_reducible apply Nw
 repeat' refine ao ?_;intros
 rename_i o2 jV _;obtain rfl:o2=10:=by omega
 refine GD Gx rfl kQ sQ rfl rfl Mb.s.has λw2 X2 c2 jI=>?_;replace jI:aI w2 X2 nb [x0,x1,x2,x3,x4,x5,x6,x7,x8,x9,aR,aR] nT:=jI;have cX:Ft w0 (λk=>k=nb) w2 X2 (λk=>k=nb):=Mb.ea c2 (λk hk=>hk) λk hk=>.inl hk;clear hs;repeat' refine ao ?_;intros
 exact cX.fin λwa aK=>⟨rfl,rfl,(aK.block nb jI.1).trans jI.2⟩
end
variable {ty : TypeId}
theorem Je {o:Nat} {cs:Array Value} (v:Value) (hb:w.heap[b]? =some (.cells cs ty (0,0))) (k:Nat):(w.setCell ⟨b,o,none⟩ v).heap[k]? =if k=b then some (.cells (cs.setIfInBounds o v) ty (0,0))else w.heap[k]? :=by
 unfold World.setCell;simp only[Array.getElem?_modify]
 grind
theorem aeu:Tryz.f25.results= #[.cell 6 32,.cell 7 37]:=by kernel_rfl
variable {R : Ending -> World -> Prop}
theorem Y9 {RP:List PanicEntry->World->Prop} {cv:List (Option Value)} {nb:Nat} (hcv:cv[0]? =some (some (ptr nb 0)))
  (hR: ∀ch w,RP ch w->ch=BN/\ ∃x0 x1 x2 x3 x4 x5 x6 x7 x8 x9 vm va,aI w (· =nb) nb [x0,x1,x2,x3,x4,x5,x6,x7,x8,x9,vm,va] nT/\ ∀w2,w2.os=w.os->w2.tape=w.tape->w2.output=w.output->w.heap.size<=w2.heap.size->(∀k,k<w.heap.size->k≠nb->w2.heap[k]? =w.heap[k]?)->
   aI w2 (· =nb) nb [x0,x1,x2,x3,x4,x5,x6,x7,x8,x9,aR,aR] nT->R (.returned (.tuple #[.agg #[aR,aR],I 12])) w2):
  RG pg DF Tryz.f25 R 51 [3,6,7] cv RP:=by
 intro ks FG ch w xq nB py hh hv gf hRP;obtain⟨k0,k1,k2,rfl⟩: ∃a b c,ks=[a,b,c]:=by
  match ks,xq with
  |[a,b,c],_=>exact⟨a,b,c,rfl⟩
 obtain⟨c0,c1,c2,rfl⟩: ∃a b c,FG=[a,b,c]:=by
  match FG,nB with
  |[a,b,c],_=>exact⟨a,b,c,rfl⟩
 obtain⟨ty0,g0⟩:=hh 0 k0 c0 rfl rfl;obtain⟨U5,g1⟩:=hh 1 k1 c1 rfl rfl;obtain⟨Om,g2⟩:=hh 2 k2 c2 rfl rfl;have e0:=hv 0 (ptr nb 0) c0 hcv rfl;have s1:c1.size=2:=gf 1 6 2 c1 rfl kQ rfl;have s2:c2.size=1:=gf 2 7 1 c2 rfl kQ rfl;subst e0;obtain⟨rfl,x0,x1,x2,x3,x4,x5,x6,x7,x8,x9,vm,va,br,_⟩:=hR _ _ (hRP w (aJ.Outside.refl _ _));refine callsD_of_wpS Tryz.func51 rfl λc₀ cs hu=>?_;rw[Tryz.ntmps51];simp only[aZ,lh,List.size_toArray,aM,bF];apply wpS_seq;apply wpS_region;simp[wpOpsS,go_sem,recoverD,hu,Exit.thenS];have ht:(#[eB k0 0,eB k1 0,eB k2 0]++((Array.replicate 10 undef).setIfInBounds 1 FA).setIfInBounds 0 FA)= #[eB k0 0,eB k1 0,eB k2 0,FA,FA,undef,undef,undef,undef,undef,undef,undef,undef]:=rfl;rw[ht];apply wpS_seq;apply wpS_region;simp[wpOpsS,go_sem,Exit.thenS];refine wpS_cond (t:=true) (by rfl) ?_;simp only[if_true];apply wpS_region;have xe:w.cell? ⟨k0,0,none⟩=some (ptr nb 0):=by simp[fp,g0]
 simp[wpOpsS,go_sem,eB,xe];refine(To (X:=(· =nb)) (br.mono λ_ h=>h) w (Kp.refl _ _)).mono ?_;rintro _ w2 ⟨v,rfl,xv,rfl,jI⟩;have n1:k1≠nb:=λe=>by
  rw[e,br.2] at g1;simp only[aj,Ck] at g1;rw[<-g1.1] at s1;simp at s1
 have n2:k2≠nb:=λe=>by
  rw[e,br.2] at g2;simp only[aj,Ck] at g2;rw[<-g2.1] at s2;simp at s2
 have l1:=(Array.getElem?_eq_some_iff.1 g1).1;have l2:=(Array.getElem?_eq_some_iff.1 g2).1;have g1':w2.heap[k1]? =_:=(xv.block k1 l1 n1).trans g1;have g2':w2.heap[k2]? =_:=(xv.block k2 l2 n2).trans g2;obtain⟨a1,b1,rfl⟩: ∃a b,c1= #[a,b]:=by
  match c1,s1 with
  |⟨[a,b]⟩,_=>exact⟨a,b,rfl⟩
 obtain⟨a2,rfl⟩: ∃x,c2= #[x]:=by
  match c2,s2 with
  |⟨[x]⟩,_=>exact⟨x,rfl⟩
 have are:w2.cell? ⟨k1,0,none⟩=some a1:=by simp[fp,g1']
 have arf:w2.frozen? ⟨k1,0,none⟩=false:=by simp[zu,g1']
 have r3: ∀k,(w2.setCell ⟨k1,0,none⟩ aR).heap[k]? =if k=k1 then some (.cells #[aR,b1] U5 (0,0))else w2.heap[k]? :=λk=>by rw[Je _ g1'];rfl
 simp only[List.nodup_cons,ij,dI,or_false,not_or] at py;generalize wB:w2.setCell ⟨k1,0,none⟩ aR=w3 at r3;have g13:w3.heap[k1]? =some (.cells #[aR,b1] U5 (0,0)):=by rw[r3,if_pos rfl]
 have arh:w3.cell? ⟨k1,1,none⟩=some b1:=by simp[fp,g13]
 have ari:w3.frozen? ⟨k1,1,none⟩=false:=by simp[zu,g13]
 have r4: ∀k,(w3.setCell ⟨k1,1,none⟩ aR).heap[k]? =if k=k1 then some (.cells #[aR,aR] U5 (0,0))else w3.heap[k]? :=λk=>by rw[Je _ g13];rfl
 generalize Gy:w3.setCell ⟨k1,1,none⟩ aR=w4 at r4;have g24:w4.heap[k2]? =some (.cells #[a2] Om (0,0)):=by rw[r4,if_neg (λe=>py.2.1 e.symm),r3,if_neg (λe=>py.2.1 e.symm)];exact g2'
 have qt:w4.cell? ⟨k2,0,none⟩=some a2:=by simp[fp,g24]
 have XT:w4.frozen? ⟨k2,0,none⟩=false:=by simp[zu,g24]
 simp[go_sem,storeCells,are,arf,wB,arh,ari,Gy,qt,XT,Addr.add];have r5: ∀k,(w4.setCell ⟨k2,0,none⟩ (.int .i64 12)).heap[k]? =if k=k2 then some (.cells #[I 12] Om (0,0))else w4.heap[k]? :=λk=>by rw[Je _ g24];rfl
 generalize hw5:w4.setCell ⟨k2,0,none⟩ (.int .i64 12)=w5 at r5;have g15:w5.heap[k1]? =some (.cells #[aR,aR] U5 (0,0)):=by rw[r5,if_neg py.2.1,r4,if_pos rfl]
 have g25:w5.heap[k2]? =some (.cells #[I 12] Om (0,0)):=by rw[r5,if_pos rfl]
 have FH: ∀k,k≠k1->k≠k2->w5.heap[k]? =w2.heap[k]? :=λk h1 h2=>by rw[r5,if_neg h2,r4,if_neg h1,r3,if_neg h1]
 have xp:w5.os=w.os/\w5.tape=w.tape/\w5.output=w.output/\w5.heap.size=w2.heap.size:=by
  rw[<-hw5,<-Gy,<-wB];exact⟨xv.os,xv.tape,xv.output,by simp[World.setCell]⟩
 have hnl:nb<w.heap.size:=br.lt;have fO:aJ.Outside [k0,k1,k2] w (w5.putObj nb (.cells [x0,x1,x2,x3,x4,x5,x6,x7,x8,x9,vm,va].toArray nT)):=by
  refine⟨xp.1,xp.2.1,xp.2.2.1,?_,λk hl hk=>?_⟩
  ·have:=xv.size;have:=xp.2.2.2;simp[World.putObj];omega
  ·simp only[ij,dI,or_false,not_or] at hk;by_cases e:k=nb
   ·subst e;rw[kg (by have:=xv.size;omega)];exact br.2.symm
   ·rw[fw (λh=>e h),FH k hk.2.1 hk.2.2];exact xv.block k hl e
 obtain⟨_,y0,y1,y2,y3,y4,y5,y6,y7,y8,y9,wm,wv,Ey,hR2⟩:=hR _ _ (hRP _ fO);have aku:=Ey.2;rw[kg (by have:=xv.size;omega)] at aku;have hl:=congrArg Array.toList (Obj.cells.inj (bV aku)).1;simp only[List.cons.injEq,and_true] at hl;obtain⟨rfl,rfl,rfl,rfl,rfl,rfl,rfl,rfl,rfl,rfl,rfl,rfl⟩:=hl;have hRw:R (.returned (.tuple #[.agg #[aR,aR],I 12])) w5:=hR2 w5 rfl rfl rfl (by simp[World.putObj]) (λk _ hk=>(fw hk).symm) ⟨rfl,(FH nb n1.symm n2.symm).trans jI.2⟩;have arj:w5.cell? ⟨k2,0,none⟩=some (I 12):=by simp[fp,g25]
 refine⟨rfl,.panicking [{ v:=FA,recovered:=true }],rfl,.tuple #[],?_,⟨_,rfl⟩,rfl,_,hRw,λtmps ht=>?_⟩
 ·simp[results,Tryz.results51]
 ·unfold results;rw[aeu];obtain⟨fs,hu⟩: ∃fs,pg.underlying 32=some (.struct fs):=⟨_,rfl⟩;have q1:(loadVar 32 ⟨k1,0,none⟩).run pg w5= .ok (.agg #[aR,aR]) w5:=run_loadVar_row w5 k1 _ _ _ _ (.struct fs) g15 hu rfl kQ;simp[ht 1 6 k1 rfl rfl,ht 2 7 k2 rfl rfl,asAddr,q1,(U6 arj)]
abbrev W6:Value:=.tuple #[.agg #[aR,aR],I 12]
def uf (n:bh) (m:cD) (n1:bh):Prop:=
 (¬(m.err=0/\m.to=20+n.c.id)/\n1=n)\/(m.err=0/\m.to=20+n.c.id/\((m.kind=2/\I2 n m n1)\/(m.kind=4/\Nu n m n1)\/(m.kind=6/\aep n m n1)\/(m.kind=7/\aes n m n1)\/(¬m.kind=2/\ ¬m.kind=4/\ ¬m.kind=6/\ ¬m.kind=7/\n1=n)))
def Jf (n:bh) (m:cD) (m':DM):Prop:=m.err=0/\m.to=20+n.c.id/\((m.kind=4/\aem n m m')\/(m.kind=6/\aeq n m m'))
theorem acG (h:m.err=0) (hk:m.kind=2\/m.kind=4):m.aV.may=true:=by
 unfold cD.err at h;split at h
 ·cases h
 ·split at h
  ·cases h
  ·rename_i _ h2;simp only[Bool.or_eq_true,Bool.not_eq_true',not_or,Bool.not_eq_false] at h2;have h3:=h2.2;unfold cD.ql at h3;rw[if_pos zQ] at h3;unfold cD.Nx at h3;rcases hk with e|e<;>simp[e] at h3<;>simp_all
structure Db (n n':bh):Prop where
 nb:n'.nb=n.nb
 db:n'.db=n.db
 ex:n'.ex=n.ex
 pre:n'.pre=n.pre
variable {n1 : bh} {pp : Bool} {gM : Int}
section
variable {n : bh}
theorem tp.eQ (h:tp N M n):Go.Proofs.YtgfijddlkhkopaaGreat.eQ n=n:=by
 have q: ∀{a b c d e},n.vm=a->n.va=b->n.rm=c->n.ra=d->n.ms=e->({ n with vm:=a,va:=b,rm:=c,ra:=d,ms:=e } :bh)=n:=by
  rintro _ _ _ _ _ rfl rfl rfl rfl rfl;rfl
 exact q h.vm h.va h.rm h.ra h.ms
theorem Told.nb {l:List cD} (h:Told n l n'):Db n n':=by obtain⟨_,_,rfl,_⟩:=h;exact⟨rfl,rfl,rfl,rfl⟩
theorem Db.of {n2:bh} (h:Db n1 n2) (e:n1.nb=n.nb/\n1.db=n.db/\n1.pre=n.pre:=by exact⟨rfl,rfl,rfl⟩):Db n { n2 with ex:=n.ex } :=⟨h.nb.trans e.1,h.db.trans e.2.1,rfl,h.pre.trans e.2.2⟩
theorem Db.by (h:Db n1 n') (e:n1.nb=n.nb/\n1.db=n.db/\n1.ex=n.ex/\n1.pre=n.pre:=by exact⟨rfl,rfl,rfl,rfl⟩):Db n n':=⟨h.nb.trans e.1,h.db.trans e.2.1,h.ex.trans e.2.2.1,h.pre.trans e.2.2.2⟩
theorem Px.nb (h:Px n b n'):Db n { n' with ex:=n.ex } :=by
 rcases h with⟨_,_,_,_,h⟩|⟨_,_,_,_,_,_,_,_,_,_,h⟩<;>exact h.nb.of
theorem An.nb (h:An n m pp n'):Db n n':=by
 obtain⟨_,_,_,_,_,_,_,_,rfl⟩:=h;exact⟨rfl,rfl,rfl,rfl⟩
theorem uf.nb (h:uf n m n'):Db n n':=by
 rcases h with⟨_,rfl⟩|⟨_,_,⟨_,h⟩|⟨_,h⟩|⟨_,h⟩|⟨_,h⟩|⟨_,_,_,_,rfl⟩⟩
 ·exact⟨rfl,rfl,rfl,rfl⟩
 ·rcases h with⟨_,rfl⟩|h|⟨_,_,_,_,_,_,_,n1,_,rfl,⟨_,rfl⟩|⟨_,n2,h,rfl⟩⟩
  ·exact⟨rfl,rfl,rfl,rfl⟩
  ·exact h.nb
  ·exact⟨rfl,rfl,rfl,rfl⟩
  ·exact h.nb.by
 ·rcases h with⟨_,rfl,_⟩|h|⟨_,_,_,_,_,_,n1,_,rfl,⟨_,rfl⟩|⟨_,⟨_,_,_,h⟩|⟨_,_,_,_,_,_,_,_,_,h⟩⟩⟩
  ·exact⟨rfl,rfl,rfl,rfl⟩
  ·exact h.nb
  ·exact⟨rfl,rfl,rfl,rfl⟩
  all_goals exact h.nb.by
 ·rcases h with rfl|⟨_,_,_,_,⟨_,rfl⟩|⟨_,_,rfl⟩⟩<;>exact⟨rfl,rfl,rfl,rfl⟩
 ·rcases h with⟨_,rfl⟩|⟨_,h⟩
  ·exact⟨rfl,rfl,rfl,rfl⟩
  ·exact h.nb
 ·exact⟨rfl,rfl,rfl,rfl⟩
theorem Mc (h:jD w own n) (hX:rO own X) (gq:oP ⟨n.L,n.m⟩ pre sg) (hm:m.at w (bI own 4) vk vs vw vp vr vc vh vd) (hk:tp N M n) (hN:N+m.seen.length<=2^20) (ml:m.small) (BD:m.lens<=2^62):
  Ct pg 25 #[ptr n.nb 0,I gM,m.v vk vs vw vp vr vc vh vd] w X (gC own) λv wa w'=>Tb own wa w' (uf n m) (λn1=>v= .tuple #[.agg #[n1.vm,n1.va],I 0])\/(v=W6/\DQ own n.nb n.db wa w' (Jf n m)):=by
 intro w0 iq;have s:=St.init h hX iq;replace hm:=hm.mv (zf hX iq);have hi:1<=n.c.id/\n.c.id<=2:=by rw[hk.id];decide
 clear h hX iq;have n1:own n.nb=1:=(s.get 1).1;refine Cl.g (RP:=λch w'=>ch=BN/\Fr (gC own) w0 w'/\DQ own n.nb n.db w0 w' (Jf n m)) (g0:=51) (cb:=[3,6,7]) (cv:=[some (ptr n.nb 0),none,none]) kQ (.inr kQ) OO (Y9 rfl λch w' hr=>?_) ?_
 ·obtain⟨rfl,hf,aG,m',e,hd,hq⟩:=hr;obtain⟨x0,x1,x2,x3,x5,x6,x7,x8,x9,vm,va,hr⟩:=hd.gJ 1 dQ dQ;refine⟨rfl,x0,x1,x2,x3,B true,x5,x6,x7,x8,x9,vm,va,⟨rfl,hr.2⟩,λw2 q1 q2 q3 q4 q5 q6=>⟨_,rfl,?_,.inr ⟨rfl,aG,m',e,?_,hq⟩⟩⟩
  ·exact⟨q1.trans hf.os,q2.trans hf.tape,q3.trans hf.output,ad hf.size q4,λk hl hn=>(q5 k (Nat.lt_of_lt_of_le hl hf.size) λe=>hn (by rw[e];exact⟨by omega,by omega⟩)).trans (hf.block k hl hn)⟩
  ·exact hd.one 1 q4 (λk hk h1=>q5 k (hd.lt k hk) λe'=>h1 (by rw[e'];exact hr.1)) ⟨x0,x1,x2,x3,x5,x6,x7,x8,x9,aR,aR,⟨hr.1,q6.2⟩⟩ λc _ w K A h=>h
 refine cz ?_;have hs:=s.rf;have hr:=s.v.1;repeat' refine ao ?_;intros
 refine dZ (abH (hm.mv (Mv.sub (s.sub 4))) ml BD) kQ hs.has λw1 X1 ay=>?_;have s1:=s.since ay;replace hm:=hm.mv (ay.gW (s.sub 4));clear hs hr ay s;have aev: ∀{w2:World} {X2:XS},Sn w0 own w2 X2 own n-> ¬(m.err=0/\m.to=20+n.c.id)->aJ.fin (GR (vi (gC own) w0 λv w'=>Tb own w0 w' (uf n m) (λn1=>v= .tuple #[.agg #[n1.vm,n1.va],I 0])\/(v=W6/\DQ own n.nb n.db w0 w' (Jf n m))) λch w'=>ch=BN/\Fr (gC own) w0 w'/\DQ own n.nb n.db w0 w' (Jf n m)) X2 w2 (.tuple #[.agg #[aR,aR],I 0]):=λ{w2 X2} s2 qs=>
  s2.t.aew λwa ou=>.inl ⟨own,n,s2.e,s2.h.kp s2.x ou,n,.inl ⟨qs,rfl⟩,by show _=Value.tuple #[.agg #[n.vm,n.va],I 0];rw[hk.vm,hk.va],hk.eQ.symm,by rw[hk.vm,hk.rm];exact Sl.nil _ _ _,by rw[hk.rm,hk.ms];exact fA.nil _ _,by rw[hk.va,hk.ra];exact Sl.nil _ _ _⟩
 have hs:=s1.rf;have hr:=s1.v.1;by_cases Md:m.err=0;case neg=>
  repeat' first|refine aL ?_;intros|with_reducible apply cJ
  exact aev s1 λe=>Md e.1
 rw[Md];repeat' refine aL ?_;intros
 refine cJ ?_;repeat' refine ao ?_;intros
 refine dZ (BQ hr (λ_ h=>h) hi) kQ hs.has λw2 X2 bA=>?_;have s2:=s1.since bA;replace hm:=hm.mv (bA.gW (s1.sub 4));clear hs hr bA s1;by_cases zW:m.to=20+n.c.id;case neg=>
  repeat' refine aL ?_;intros
  exact aev s2 λe=>zW e.2
 clear aev;repeat' refine aL ?_;intros
 refine gZ (Q:=λK=> ∀(nz:Nat->Nat) (n3:bh) (w3:World) (X3:XS),Sn w0 own w3 X3 nz n3->uf n m n3->K w3 X3) (λnz n3 w3 X3 s3 fO=>?_) (λK hK=>?_)
 ·rw[<-fO.nb.nb];refine s3.call (Fl s3.h s3.x) kQ λv w4 X4 lR n4 s4 ⟨q1,q2,q3⟩ _=>?_;subst q1;have o1:=s3.v.2.1;have o2:=s3.v.2.2.1;repeat' refine ao ?_;intros
  exact s4.t.aew λwa ou=>.inl ⟨lR,n4,s4.e,s4.h.kp s4.x ou,n3,fO,rfl,q2,q3.mv (zf s4.x ou)⟩
 ·have CH:=hm.mv (Mv.sub (s2.sub 4));by_cases k2:m.kind=2
  ·repeat' refine aL ?_;intros
   exact s2.call (Yp s2.h s2.x hm (acG Md (.inl k2)) hk hN) kQ λv w3 X3 nz n3 s3 q _=>hK nz n3 w3 X3 s3 (.inr ⟨Md,zW,.inl ⟨k2,q⟩⟩)
  by_cases k4:m.kind=4
  ·repeat' refine aL ?_;intros
   exact s2.WY (Y4 s2.h s2.x gq hm (acG Md (.inr k4)) hk zQ) kQ (λv w3 X3 nz n3 s3 q _=>hK nz n3 w3 X3 s3 (.inr ⟨Md,zW,.inr (.inl ⟨k4,q⟩)⟩)) λwb hf hd=>⟨rfl,hf,hd.imp λm' q=>⟨Md,zW,.inl ⟨k4,q⟩⟩⟩
  by_cases k6:m.kind=6
  ·repeat' refine aL ?_;intros
   exact s2.WY (Y5 s2.h s2.x gq hk) kQ (λv w3 X3 nz n3 s3 q _=>hK nz n3 w3 X3 s3 (.inr ⟨Md,zW,.inr (.inr (.inl ⟨k6,q⟩))⟩)) λwb hf hd=>⟨rfl,hf,hd.imp λm' q=>⟨Md,zW,.inr ⟨k6,q⟩⟩⟩
  by_cases k7:m.kind=7
  ·repeat' refine aL ?_;intros
   exact s2.call (V5 s2.h s2.x hk) kQ λv w3 X3 nz n3 s3 q _=>hK nz n3 w3 X3 s3 (.inr ⟨Md,zW,.inr (.inr (.inr (.inl ⟨k7,q⟩)))⟩)
  repeat' refine aL ?_;intros
  exact hK own n w2 X2 s2 (.inr ⟨Md,zW,.inr (.inr (.inr (.inr ⟨k2,k4,k6,k7,rfl⟩)))⟩)
end
def pY (d:pD):pD:= { d with x:= { d.x with lp:=d.x.lp+1 } }
def tu (n:bh) (t:bu) (n':bh):Prop:= ∃(b:Nat),getM t n.al=some b/\n'.rm.length<=n.rm.length+80/\
  ((6<=(n.A b).x.lp+1/\ ∃jh,Told { dH n b (pY (n.A b))with al:=ji t n.al,va:=jh,ra:=n.ra++[El 25 t .zero false aR] } (if(n.A b).x.pre then(n.A b).ids.map λid=>(Tm t id).qg (20+n.c.id)else []) n')\/
   (¬6<=(n.A b).x.lp+1/\Told (dH n b (pY (n.A b))) ((n.A b).ws.map λm=>m.qg (20+n.c.id)) n'))
def kN:List bu->bh->bh->Prop
 |[],n,n'=>n'=n
 |t::l,n,n'=> ∃n1,tu n t n1/\kN l n1 n'
theorem kN.snoc: ∀{l:List bu} {t:bu} {n n1 n2:bh},kN l n n1->tu n1 t n2->kN (l++[t]) n n2
 |[],t,n,n1,n2,h,h2=>by
  have h:n1=n:=h;subst h;exact⟨n2,h2,rfl⟩
 |x::l,t,n,n1,n2,⟨n3,h3,h⟩,h2=>⟨n3,h3,h.snoc h2⟩
def Za (n:bh) (b:Nat) (n':bh):Prop:=((n.C b).ended=true/\n'=n)\/((n.C b).ended=false/\Told n ((n.C b).waits.map λid=>(Y3 (n.C b).r id).qg (20+n.c.id)) n')
def CI:List Nat->bh->bh->Prop
 |[],n,n'=>n'=n
 |b::l,n,n'=> ∃n1,Za n b n1/\CI l n1 n'
theorem CI.snoc: ∀{l:List Nat} {t:Nat} {n n1 n2:bh},CI l n n1->Za n1 t n2->CI (l++[t]) n n2
 |[],t,n,n1,n2,h,h2=>by
  have h:n1=n:=h;subst h;exact⟨n2,h2,rfl⟩
 |x::l,t,n,n1,n2,⟨n3,h3,h⟩,h2=>⟨n3,h3,h.snoc h2⟩
def yT (n n1:bh):Prop:= ∃ts n2,ts.Perm (n.al.map (·.1))/\kN ts n n2/\CI n.cl n2 n1
structure TK (n n':bh):Prop where
 nb:n'.nb=n.nb
 db:n'.db=n.db
 c:n'.c=n.c
 cl:n'.cl=n.cl
 C:n'.C=n.C
 ex:n'.ex=n.ex
 pre:n'.pre=n.pre
variable {t t' : bu}
section
variable {n : bh}
theorem tu.tk (h:tu n t n'):TK n n':=by
 obtain⟨b,_,_,⟨_,_,_,_,rfl,_⟩|⟨_,_,_,rfl,_⟩⟩:=h<;>exact⟨rfl,rfl,rfl,rfl,rfl,rfl,rfl⟩
theorem Za.tk (h:Za n b n'):TK n n':=by
 rcases h with⟨_,rfl⟩|⟨_,_,_,rfl,_⟩<;>exact⟨rfl,rfl,rfl,rfl,rfl,rfl,rfl⟩
theorem TK.trans {n'':bh} (a:TK n n') (b:TK n' n''):TK n n'':=⟨b.nb.trans a.nb,b.db.trans a.db,b.c.trans a.c,b.cl.trans a.cl,b.C.trans a.C,b.ex.trans a.ex,b.pre.trans a.pre⟩
theorem tu.ra (h:tu n t n'):n'.ra.length<=n.ra.length+1/\n'.rm.length<=n.rm.length+80:=by
 obtain⟨b,_,h1,⟨_,_,_,_,rfl,_⟩|⟨_,_,_,rfl,_⟩⟩:=h
 ·exact⟨by simp,h1⟩
 ·exact⟨cZ _,h1⟩
theorem tu.get (h:tu n t n') (bU:t'≠t):getM t' n'.al=getM t' n.al:=by
 obtain⟨b,_,_,⟨_,_,_,_,rfl,_⟩|⟨_,_,_,rfl,_⟩⟩:=h
 ·exact FJ bU
 ·rfl
theorem tu.ok (h:tu n t n') (kE: ∀t b,getM t n.al=some b->(n.A b).x.aH=t) (kz: ∀t b,getM t n.al=some b->sx N (n.A b)): ∀t b,getM t n'.al=some b->sx N (n'.A b):=by
 obtain⟨b,hb,_,hc⟩:=h;intro t' b' dW;have hg:n'.A=(dH n b (pY (n.A b))).A/\getM t' n.al=some b'/\(b'=b-> ¬6<=(n.A b).x.lp+1):=by
  rcases hc with⟨_,_,_,_,rfl,_⟩|⟨h6,_,_,rfl,_⟩
  ·obtain⟨q1,q2⟩:=na (show getM t' (ji t n.al)=some b' from dW);exact⟨rfl,q1,λe=>absurd (by rw[e] at q1;exact(kE _ _ q1).symm.trans (kE _ _ hb)) q2⟩
  ·exact⟨rfl,dW,λ_=>h6⟩
 have ha:=kz t' b' hg.2.1;rw[hg.1];by_cases e:b'=b
 ·have:=hg.2.2 e;subst e;rw[jj];exact⟨ha.q,ha.p,ha.sn,ha.ws,ha.ids,ha.Dp,by have:=ha.lp;show 0<=(n.A b').x.lp+1/\(n.A b').x.lp+1<6;omega,ha.pq⟩
 ·rw[show(dH n b (pY (n.A b))).A b'=n.A b' from if_neg e];exact ha
theorem Zb (h:jD w own n) (hX:rO own X) (hk:tp N M n):
  Ct pg 16 #[ptr n.nb 0,I gM] w X (gC own) λv wa w'=>Tb own wa w' (yT n) λn1=>v= .tuple #[.agg #[n1.vm,n1.va],I 0]:=by
 intro w0 iq;have s:=St.init h hX iq;have hi:1<=n.c.id/\n.c.id<=2:=by rw[hk.id];decide
 have hM:=hk.mM;have pz:=hk.cl;have ark:=hk.Yi;clear h hX iq;have hr:=s.v.1;rw[Ra hk.pre] at hr;have hs:=s.rf;have Uv:dL w0 (bN w0) nX n.c.ab (λk:bu=>k.v) zP n.al:=s.Ay 5;refine DG.1 λ_=>?_;repeat' refine ao ?_;intros
 refine cA (QX (Y:=bN w0) hr (λ_ h=>h) Uv zQ) kQ hs.has ?_;rintro vt Ej w1 X1 ⟨ts,zg,_,zW⟩ qf nJ ay;have hts:Sl w1 X1 3 vt (ts.map bu.l):=(zW.mono nJ).sl;have htl:ts.length=n.al.length:=by rw[zg.length_eq,af]
 have py:ts.Nodup:=zg.nodup_iff.2 Uv.nodup;have DW: ∀t∈ts,∃b,getM t n.al=some b:=λt ht=>by
  obtain⟨x,hx,rfl⟩:=List.mem_map.1 (zg.mem_iff.1 ht);exact⟨x.2,wH Uv.nodup hx⟩
 obtain⟨am4,sp,-,-,hp4⟩:=(s.since ay).vI (N:=made Ej w1) λk ah=>⟨nJ k ah,s.nw (ad qf ah.1)⟩;have hvt:Sl w1 (bI am4 4) 3 vt (ts.map bu.l):=(zW.mono hp4).sl;have atF:n.ra.length=0:=by rw[hk.ra];rfl
 have atG:n.rm.length=0:=by rw[hk.rm];rfl
 clear hs hr s zW hp4 nJ qf ay Uv;have hs:=sp.rf;repeat' refine ao ?_;intros
 refine gO (λk a z w X=> ∃(i:Nat) (lQ:Nat->Nat) (n2:bh),a=I (i:Nat)/\k=ts.length-i/\i<=ts.length/\Sn w0 own w X lQ n2/\kN (ts.take i) n n2/\TK n n2/\n2.rm.length<=80*i/\n2.ra.length<=i/\(∀t b,getM t n2.al=some b->sx N (n2.A b))/\(∀t∈ts.drop i,∃b,getM t n2.al=some b)/\Sl w (bI lQ 4) 3 vt (ts.map bu.l))
  ts.length ⟨0,am4,n,rfl,rfl,aq _,sp,rfl,⟨rfl,rfl,rfl,rfl,rfl,rfl,rfl⟩,by omega,by omega,hk.act,DW,hvt⟩ ?_
 clear hs sp hvt hts;rintro k _ z w2 X2 ⟨i,lQ,n2,rfl,rfl,hi2,s2,cX,J0,atH,am5,am6,agl,aiB⟩;have hs:=s2.rf;have am7:Sl w2 X2 3 vt (ts.map bu.l):=aiB.mono (s2.sub 4);have view: ∀{w5:World} {X5:XS} {mO:Nat->Nat} {n5:bh},Sn w0 own w5 X5 mO n5->TK n n5->aI w5 X5 n.nb (coL n.c n5.vm n5.va) nT:=λs5 h5=>by
  have:=s5.v.1;rw[Ra (h5.pre.trans hk.pre),h5.nb,h5.c] at this;exact this
 have jI:=view s2 J0;rcases dD (ts) i with⟨cx,t,hx,hd⟩|⟨dA,hd⟩
 ·repeat' refine aL ?_;intros
  refine gZ (Q:=λK=> ∀(lR:Nat->Nat) (n4:bh) (w4:World) (X4:XS) (y:Value),Sn w0 own w4 X4 lR n4->tu n2 t n4->Mv (bI lQ 4) w2 (bI lR 4) w4->K y w4 X4) (λlR n4 w4 X4 y s4 h4 m4=>?_) (λK hK=>?_)
  ·have hs:=s4.rf;repeat' refine ao ?_;intros
   have atI:=h4.ra;refine fZ (ts.length-(i+1)) zQ ⟨i+1,lR,n4,by simp,rfl,by omega,s4,by rw[cn,hx];exact cX.snoc h4,J0.trans h4.tk,by omega,by omega,h4.ok (s2.get 12:) am6,λt' ht'=>?_,aiB.mv m4⟩;have bU:t'≠t:=λe=>by
    have:=py;rw[<-eo i ts,hd] at this;exact(List.nodup_cons.1 (List.nodup_append.1 this).2.1).1 (e▸ht')
   rw[h4.get bU];exact agl t' (by rw[hd];exact bS _ ht')
  have am8:dL w2 X2 nX n.c.ab (λk:bu=>k.v) zP n2.al:=by
   have:dL w2 X2 nX n2.c.ab (λk:bu=>k.v) zP n2.al:=s2.Ay 5
   rwa [J0.c] at this
  repeat' refine ao ?_;intros
  refine mZ (kt:=34) (et:=116) (kv:=λk:bu=>k.v) (k:=t) (.pointer none) am8 td kQ kQ (λv b lq rN=>?_) (λhn=>?_);case refine_2=>
   obtain⟨b,hb⟩:=agl t (by rw[hd];simp);rw[hn] at hb;cases hb
  simp only[zP] at rN;subst rN;have hb:n2.gx b:=.inl ⟨_,lq⟩;have Ds:=am6 _ b lq;have Me:=Ds.lp;have hw8:=Ds.ws;have adM:=Ds.ids;obtain⟨ha,o1,o2,o3,o4⟩:=s2.va hb;repeat' refine ao ?_;intros
  refine s2.st (o:=7) (tx b 0) (s2.h.act hb).1 (dV (dH n2 b (pY (n2.A b)))) zQ kQ (ep rfl) rfl (λ_ _ _ h=>qT dQ h) IX (λw3 X3 nz s3 m3=>?_) iy.1 iy.2;obtain⟨n3,sJ⟩: ∃n3:bh,n3=dH n2 b (pY (n2.A b)):=⟨_,rfl⟩;rw[<-sJ] at s3;have e3:n3.A b=pY (n2.A b):=by rw[sJ];exact jj
  have f3:n3.nb=n.nb/\n3.c=n.c/\n3.rm=n2.rm/\n3.ra=n2.ra/\n3.ms=n2.ms/\n3.al=n2.al/\n3.ex=n2.ex:=by rw[sJ];exact⟨J0.nb,J0.c,rfl,rfl,rfl,rfl,rfl⟩
  have rM:n3.gx b:=by rw[sJ];exact hb
  have ht3:(pY (n2.A b)).x.aH=t:=(show∀t b,getM t n2.al=some b->(n2.A b).x.aH=t from s2.h.gJ 12 dQ dQ) _ _ lq;clear hs ha s2 am8 am7 jI;have hs:=s3.rf;obtain⟨ha,-⟩:=s3.va rM;rw[e3] at ha;have atJ:(pY (n2.A b)).x.lp=(n2.A b).x.lp+1:=rfl;have hi3:1<=n3.c.id/\n3.c.id<=2:=by rw[f3.2.1];exact hi
  by_cases h6:6<=(n2.A b).x.lp+1
  ·repeat' refine aL ?_;intros
   rw[<-f3.1];refine s3.call (Ak (code:=25) s3.h s3.x rM (by rw[e3];exact Ds.pq) (by rw[f3.2.2.2.1];omega) hi3 (by rw[f3.2.2.1,e3];show n2.rm.length+(n2.A b).ids.length<=_;omega)) kQ λv w4 X4 lR n4 s4 ⟨jh,lZ,lr,q4,QU⟩ m4=>?_;have s5:=s4.to (H8 (e':=n2.ex) λb' h'=>by rw[q4];show b'∈b::n3.ex;rw[f3.2.2.2.2.2.2];exact .tail _ h');rw[e3,ht3] at q4 QU;refine hK lR _ w4 X4 _ s5 ⟨b,lq,?_,.inl ⟨h6,jh,lZ,lr,by rw[q4,sJ];rfl,by rw[QU,sJ];rfl⟩⟩ (m3.trans m4)
   show n4.rm.length<=_
   rw[q4]
   show lr.length<=_
   rw[QU]
   show n3.rm.length+_<=_
   rw[f3.2.2.1];split
   ·show _+((n2.A b).ids.map _).length<=_;rw[af];omega
   ·simp
  ·have hws:(n2.A b).rw.length=(n2.A b).ws.length:=by have:=(s3.h.act rM).2.2.2.1.1;rw[e3] at this;exact this
   have rows: ∀{w5:World} {X5:XS} {mO:Nat->Nat} {n5:bh},Sn w0 own w5 X5 mO n5->n5.gx b->n5.A b=pY (n2.A b)->Sl w5 X5 36 (n2.A b).vw ((n2.A b).rw.map id)/\fA w5 (bI mO 4) (n2.A b).rw (n2.A b).ws:=λs5 Cd e5=>by
    have:=s5.h.act Cd;rw[e5] at this;exact⟨by rw[List.map_id];exact this.2.1.sl.mono (s5.sub _ iy.1),this.2.2.2.1⟩
   have arl:=(rows s3 rM e3).1;repeat' refine aL ?_;intros
   refine eI (λk a w X=> ∃(j:Nat) (lR:Nat->Nat) (n4:bh),a=I (j:Nat)/\k=(n2.A b).rw.length-j/\j<=(n2.A b).rw.length/\Sn w0 own w X lR n4/\Told n3 (((n2.A b).ws.take j).map λm=>m.qg (20+n.c.id)) n4/\Mv (bI nz 4) w3 (bI lR 4) w)
    (n2.A b).rw.length ⟨0,nz,n3,rfl,rfl,aq _,s3,Told.nil _,Mv.refl _ _⟩ ?_
   clear hs s3 arl ha;rintro k _ w4 X4 ⟨j,lR,n4,rfl,rfl,hj,s4,ht4,m4⟩;have hs:=s4.rf;have f4:n4.nb=n.nb/\n4.c=n.c/\n4.rm.length=n2.rm.length+j/\n4.A b=pY (n2.A b)/\n4.gx b:=by
    obtain⟨v,r,rfl,hl⟩:=id ht4;exact⟨f3.1,f3.2.1,by show r.length=_;rw[hl,f3.2.2.1,af,List.length_take];omega,e3,rM⟩
   have zO:=rows s4 f4.2.2.2.2 f4.2.2.2.1;have atK:=zO.1;rcases dD (n2.A b).rw j with⟨cx,l,hl,_⟩|⟨dA,_⟩
   ·obtain⟨y,hy⟩: ∃y,(n2.A b).ws[j]? =some y:=⟨_,List.getElem?_eq_getElem zQ⟩;obtain⟨uk,us,uw,up,ur,uc,uh,ud,rfl,dg⟩:=zO.2.2 j l y hl hy;have q1:=dg.keys.one;have q2:=dg.seen.one;have q3:=dg.writes.one;have q4:=dg.parts.one;have q5:=dg.ranges.one;have q6:=dg.aY.one;have q7:=dg.iG.one;have q8:=dg.ib.one;have q9:(id (y.l uk us uw up ur uc uh ud)).all aJ.one=true:=by dsimp only [id];exact qE
    repeat' refine aL ?_;intros
    dsimp only [id];repeat' refine ao ?_;intros
    refine cA (Io (m:=y) (dg.mv (Mv.sub (s4.sub 4))) (Ds.Dp y (ax hy))) kQ hs.has ?_;rintro _ OP w5 X5 ⟨H5,xk,iR,Kr,rfl,u1,u2,u3,u4⟩ IZ Fj tq;have wN:=dg.mv (hs.gW (s4.sub 4));have s5:=s4.since hs;replace wN:=wN.mv (tq.gW (s5.sub 4));obtain⟨zr,s6,m6,-,n6⟩:=(s5.since tq).vI (N:=made OP w5) λk hk=>⟨Fj k hk,s5.nw (ad IZ hk.1)⟩;have k6:Mv (made OP w5) w5 (bI zr 4) w5:=Mv.sub n6;replace wN:=wN.mv m6;rw[<-f4.1];refine s6.call (BR (m:=y) s6.h s6.x ⟨u1.mv k6,u2.mv k6,u3.mv k6,u4.mv k6,wN.ranges,wN.aY,wN.iG,wN.ib⟩ (by rw[f4.2.1];exact hi) zQ) kQ λv w7 X7 lj n7 s7 q7 m7=>?_;replace q7:Told n4 [y.qg (20+n.c.id)] n7:=by rw[<-f4.2.1];exact q7
    have m47:=((m4.trans (hs.gW (s4.sub 4))).trans (tq.gW (s5.sub 4))).trans (m6.trans m7);clear hs;repeat' refine ao ?_;intros
    exact dS ((n2.A b).rw.length-(j+1)) zQ ⟨j+1,lj,n7,by simp,rfl,by omega,s7,by rw[Dq hy];exact ht4.add q7,m47⟩
   ·repeat' refine aL ?_;intros
    rw[aB zQ] at ht4;exact hK lR n4 w4 X4 _ s4 ⟨b,lq,by rw[f4.2.2.1];omega,.inr ⟨h6,by rw[J0.c];rw[sJ] at ht4;exact ht4⟩⟩ (m3.trans m4)
 ·rw[aB dA] at cX;have iH: ∀{w5:World} {X5:XS} {mO:Nat->Nat} {n5:bh},Sn w0 own w5 X5 mO n5->TK n n5->Sl w5 X5 1 n.c.cm (n.cl.map λb=>[ptr b 0]):=λ{w5 X5 mO n5} s5 DA=>by
   have:=(show Own w5 X5 0 pcT 1 n5.c.cm (n5.cl.map λb=>[ptr b 0])from s5.Ay 10).sl
   rwa [DA.c,DA.cl] at this
  have arn:=iH s2 J0;repeat' refine aL ?_;intros
  refine eI (λk a w X=> ∃(j:Nat) (mO:Nat->Nat) (n5:bh),a=I (j:Nat)/\k=n.cl.length-j/\j<=n.cl.length/\Sn w0 own w X mO n5/\CI (n.cl.take j) n2 n5/\TK n n5/\n5.rm.length<=80*ts.length+80*j) n.cl.length ⟨0,lQ,n2,rfl,rfl,aq _,s2,rfl,J0,by omega⟩ ?_;clear hs s2 arn jI am7 aiB;rintro k _ w5 X5 ⟨j,mO,n5,rfl,rfl,hj,s5,hD5,DA,atL⟩;have hs:=s5.rf;have atM:=iH s5 DA;have Dz:=view s5 DA;rcases dD n.cl j with⟨cx,b,hb,_⟩|⟨Fs,_⟩
  ·have OX:b∈n.cl:=ax hb;have Cd:b∈n5.cl:=by rw[DA.cl];exact OX
   have hw8:=hk.cw b OX;repeat' refine aL ?_;intros
   refine gZ (Q:=λK=> ∀(zr:Nat->Nat) (n6:bh) (w6:World) (X6:XS),Sn w0 own w6 X6 zr n6->Za n5 b n6->K w6 X6) (λzr n6 w6 X6 s6 h6=>?_) (λK hK=>?_)
   ·have hs:=s6.rf;repeat' refine ao ?_;intros
    refine dS (n.cl.length-(j+1)) zQ ⟨j+1,zr,n6,by simp,rfl,by omega,s6,by rw[cn,hb];exact hD5.snoc h6,DA.trans h6.tk,?_⟩;have:n6.rm.length<=n5.rm.length+80:=by
     rcases h6 with⟨_,rfl⟩|⟨_,_,_,rfl,h⟩
     ·omega
     ·show bf _<=_;rw[h,af,DA.C];omega
    omega
   ·obtain⟨hc,o2,o1,H4⟩:=s5.vc Cd;cases Cb:(n5.C b).ended with
    |true=>
     rw[Cb] at hc;repeat' refine ao ?_;intros
     exact hK mO n5 w5 X5 s5 (.inl ⟨Cb,rfl⟩)
    |false=>
     rw[Cb] at hc;repeat' refine ao ?_;intros
     rw[<-DA.nb];exact s5.call (Im (b:=b) s5.h s5.x Cd (by rw[DA.c];exact hi) (by rw[DA.C];omega)) kQ λv w6 X6 zr n6 s6 q6 _=>hK zr n6 w6 X6 s6 (.inr ⟨Cb,q6⟩)
  ·rw[aB Fs] at hD5;repeat' refine aL ?_;intros
   rw[<-DA.nb];refine s5.call (Fl s5.h s5.x) kQ λv w6 X6 zr n6 s6 ⟨q1,q2,q3⟩ _=>?_;subst q1 q2;have o1:=s5.v.2.1;have o2:=s5.v.2.2.1;clear hs;repeat' refine ao ?_;intros
   exact St.amA s6 q3 ⟨ts,n2,zg,cX,hD5⟩ rfl
end
theorem Zc: ∀xs:List Int,xs.length<=(xs.map encI).flatten.length
 |[]=>by simp
 |x::xs=>by
  have h1:=Zc xs;have h2:=FK x;simp only[aZ,cV,aa,aM];omega
variable {r : Rec}
section
variable {rb at_ gJ cb xb : Nat} {vb : Value} {pl : Int} {bs tl : List Nat} {cs oh : List Value}
theorem V6 {xo:Nat} (h:RB w X rb vb at_ pl bs cb xb cs ty) (he:bs.drop at_=iW encI xs++tl) (hn: ∀x∈xs,vy x) (hl:xs.length<=2^30) (ho:cs[xo]? =some ki):
  Ct pg 186 #[ptr cb 0,ptr xb xo,.func (.func 183) #[ptr cb 0] #[]] w X (λk=>k=rb\/k=xb) λv wa w'=> ∃va,v= .tuple #[]/\
   aI w' (λk=>k=rb) rb [vb,I ((at_+(iW encI xs).length:Nat):Int),I 0,I pl] 315/\aI w' (λk=>k=xb) xb (dr cs xo [va]) ty/\Own w' (made wa w') wa.heap.size 3 1 va (xs.map I1):=by
 intro wi hk;have hS:=h.start hk;have hc:=hS.c;have hxo:xo+1<=cs.length:=(List.getElem?_eq_some_iff.1 ho).1;have e0:bs.drop at_=encI xs.length++((xs.map encI).flatten++tl):=by rw[he];unfold iW;rw[ak]
 have d0:=hS.mY e0;have e1:=ry e0;have hfg:=Zc xs;have d1:at_+(encI xs.length).length+(xs.map encI).flatten.length<=bs.length:=by
  have h1:=congrArg bf e1;rw[List.length_drop,aa] at h1;omega
 have Mf:Cells wi (bN wi) xb xo [ki]:=⟨hS.x.1,cs.toArray,ty,(0,0),hS.x.2,λj u hj=>by
  cases j with
  |zero=>simp at hj;subst hj;simpa using ho
  |succ j=>simp at hj⟩
 have hnl:Sl wi (bN wi) 1 ki (([]:List Int).map I1):=Sl.nil _ _ _;refine Eo.1 λ_=>?_;have hs:=ai.fK hS.t.s.has;have Mg:=hS.apm;repeat' refine ao ?_;intros
 refine gZ (Q:=λK=> ∀w X,RS wi w X rb vb (at_+(encI xs.length).length) pl bs cb xb (dr cs xo [ki]) ty->K (I xs.length) w X) ?_ λK hK=>?_
 ·intro w1 X1 mh;refine eI (λm a w X=> ∃(i:Nat) (va:Value),a=I i/\m=xs.length-i/\i<=xs.length/\RS wi w X rb vb (at_+(encI xs.length).length+((xs.take i).map encI).flatten.length) pl bs cb xb (dr cs xo [va]) ty/\Own w X wi.heap.size 3 1 va ((xs.take i).map I1)) xs.length ⟨0,ki,rfl,rfl,aq _,by simpa using mh,Own.nil _ _ _ _ _⟩ ?_;clear mh hs Mf hc;rintro m a w2 X2 ⟨i,va,rfl,rfl,hi,bm,jV⟩;have hs:=ai.fK bm.t.s.has;rcases dD xs i with⟨cx,x,hx,hd⟩|⟨dA,hd⟩
  ·have hc:=bm.c;have Mf:=Dx bm.x hxo;have hti:((xs.take i).map I1).length=i:=by simp;omega
   have gu:=hn x (ax hx);have Zd:((xs.take (i+1)).map encI).flatten=((xs.take i).map encI).flatten++encI x:=lY hx;have ei:bs.drop (at_+(encI xs.length).length+((xs.take i).map encI).flatten.length)=encI x++(((xs.drop (i+1)).map encI).flatten++tl):=by
    have h1:(xs.map encI).flatten=((xs.take i).map encI).flatten++(encI x++((xs.drop (i+1)).map encI).flatten):=by
     conv=>lhs;rw[<-eo i xs,hd]
     rw[az,List.flatten_append,aZ,cV]
    rw[h1] at e1;rw[<-List.drop_drop,e1];simp only[ak];rw[List.drop_left]
   repeat' refine aL ?_;intros
   refine gZ (Q:=λK=> ∀w X va,RS wi w X rb vb (at_+(encI xs.length).length+((xs.take i).map encI).flatten.length) pl bs cb xb (dr cs xo [va]) ty->Own w X wi.heap.size 3 1 va ((xs.take i).map I1++[[I 0]])->K w X) ?_ λK hK=>?_
   ·intro w3 X3 va3 bW Ze;clear hs hc Mf;have hs:=ai.fK bW.t.s.has;have Mf:=Dx bW.x hxo;repeat' refine ao ?_;intros
    refine aip Ze (by rw[hti]) kQ kQ λg csg hg gy hbg hlen vj am9=>?_;refine DH ?_;have dA:rb<g/\xb<g/\cb<g:=by have:=Mg.r;have:=Mg.x;have:=Mg.c;omega
    have K6:RB w3 X3 rb vb (at_+(encI xs.length).length+((xs.take i).map encI).flatten.length) pl bs cb g csg 3:=⟨bW.r,hg,bW.c,bW.c1,by omega,by omega,λhb=>by have:=Mg.v g hb;omega⟩;rw[hti] at am9 hlen⊢;refine zq (pE (xo:=i*1) K6 ei gu hlen) kQ bW.t.s.has (λk e=>e.elim (λe=>e▸bW.r.box.1) λe=>e▸hg.1) λv wa w4 X4 ⟨hv,zO,hx4⟩ _ _ _ c4=>?_;subst hv;have hU:=bW.apn Mg c4 ⟨hg.1,gy⟩ ⟨c4.sub _ bW.r.box.1,zO.2⟩ (K6.mY ei);clear hs;repeat' refine ao ?_;intros
    refine dS (xs.length-(i+1)) zQ ⟨i+1,va3,by simp,rfl,by omega,?_,?_⟩
    ·rw[Zd,aa,<-Nat.add_assoc];exact hU
    ·rw[cn,hx,az];exact(am9 w4 X4 [I x] rfl ⟨c4.sub _ hg.1,hx4.2⟩)
   ·repeat' first|refine ao ?_;intros|(refine q1s hs ?_;intro _ _ _ w X hs ho)
    have aiC:=bm.since hs;have aiD:=jV.since hs;refine EV (bytes:=8) (cT:=[[I 0]]) aiD aiC.t.s.has aiC.t.s.kp.size kQ ho.sl (λr hr u hu=>?_) oQ oQ λva3 w3 X3 c3 Ze atN=>?_
    ·simp only[av] at hr;subst hr;simp at hu;subst hu;rfl
    have bW:=aiC.aq0 Mg c3 λk ah=>⟨(aiD.ow.bo ah).1,(aiD.ge ah).1⟩;clear hs hc Mf;have hs:=ai.fK bW.t.s.has;repeat' refine ao ?_;intros
    refine pW (o:=xo) bW.x rfl kQ (by rw[CC _ _ _ oQ];omega) Ze.sl.one bW.t.s.has λw4 X4 c4 zO=>?_;rw[adT _ _ _ _ hxo] at zO;exact hK _ _ va3 (bW.aio c4 zO) (Ze.ea c4 λg hg e=>by have:=(Ze.ge hg).1;have:=Mg.x;have e:g=xb:=e;omega)
  ·have nN:i=xs.length:=by omega
   subst nN;rw[List.take_length] at bm jV;have e:at_+(encI xs.length).length+(xs.map encI).flatten.length=at_+(iW encI xs).length:=by unfold iW;rw[aa];omega
   rw[e] at bm;repeat' refine aL ?_;intros
   refine bm.t.fin λwa aK=>⟨va,rfl,(bm.out aK).2.1,(bm.out aK).2.2,(jV.kp aK).tight⟩
 ·repeat' refine ao ?_;intros
  refine dZ (af5 hS.r) kQ hS.t.s.has λw1 X1 ay=>?_;have mh:=hS.since ay;refine mh.read (adP mh.r e0 zQ (by have:=mh.r.sz;omega)) kQ d0 λw2 X2 bm=>?_;refine dZ (UH bm.toRB) kQ bm.t.s.has λw3 X3 dm=>?_;have bW:=bm.since dm;clear hs;repeat' refine ao ?_;intros
  refine pW (o:=xo) bW.x rfl kQ hxo rfl bW.t.s.has λw4 X4 c4 zO=>?_;exact hK _ _ (bW.aio c4 zO)
abbrev PL:List Value:=[I 0,I 0,I 0,I 0,I 0,I 0,I 0,I 0,I 0,I 0,B false,I 0,.float .f64 0,ki,ki,ki,ki,I 0,I 0,.float .f64 0,.float .f64 0,I 0,I 0,I 0,I 0,I 0,I 0,ki,ki]
def l8 (n:Int):Rec:=⟨8,.zero,.zero,.zero,false,n,0,[],[],[],[],.zero⟩
theorem RH (n:Int):gd (l8 n)=encI 8++encI n:=by simp[gd,l8]
inductive U7:Rec->Prop
 |yj (n:Int):vy n->U7 (l8 n)
 |BP (t:bu) (st:bX) (ps:List Int):D1 t->adR st->(∀x∈ps,vy x)->ps.length<=2^30->U7 (jm t st ps)
 |fin (t:bu):D1 t->U7 (l7 t)
theorem U7.kind (h:U7 r):r.kind=8\/r.kind=9\/r.kind=10:=by
 cases h
 ·exact .inl rfl
 ·exact .inr (.inl rfl)
 ·exact .inr (.inr rfl)
theorem abI (hr:U7 r) (h:RB w X rb vb at_ pl bs cb xb PL ty) (he:bs.drop at_=gd r++tl):
  Ct pg 134 #[ptr cb 0,ptr xb 0] w X (λk=>k=rb\/k=xb) λv wa w'=> ∃vp,v= .tuple #[]/\
   aI w' (λk=>k=rb) rb [vb,I ((at_+(gd r).length:Nat):Int),I 0,I pl] 315/\aI w' (λk=>k=xb) xb (r.l ki ki vp ki ki ki) ty/\Own w' (made wa w') wa.heap.size 3 1 vp (r.parts.map I1):=by
 intro wi hk;have hS:=h.start hk;refine Mh.1 λ_=>?_;repeat' first|refine ao ?_;intros|(with_reducible refine tr kQ kQ ?_)
 cases hr with
 |yj n hn=>
  rw[RH] at he⊢;have e0:bs.drop at_=encI 8++(encI n++tl):=by rw[he,ak]
  have e1:=ry e0;have d0:=hS.mY e0;refine hS.call (pE (xo:=0) hS.toRB e0 (by unfold vy;omega) sQ) kQ d0 λw1 X1 mh=>?_;have hs:=ai.fK mh.t.s.has;have Mf:=Dx (u:=I 8) mh.x sQ;repeat' first|refine aL ?_;intros|with_reducible apply cJ
  rename_i o7 ho7 _;subst ho7;clear Mf hs;have d1:=mh.mY e1;refine mh.call (pE (xo:=11) mh.toRB e1 hn (ep rfl)) kQ d1 λw2 X2 bm=>?_;have hs:=ai.fK bm.t.s.has
  skip
  have e:at_+(encI 8).length+(encI n).length=at_+(encI 8++encI n).length:=by simp only[aa];omega
  rw[e] at bm;exact bm.t.fin λIi aK=>⟨ki,rfl,(bm.out aK).2.1,(bm.out aK).2.2,Own.nil _ _ _ _ _⟩
 |BP t st ps h1 h2 h3 h4=>
  rw[WZ] at he⊢;have e0:bs.drop at_=encI 9++(nR t++(lE st++(iW encI ps++tl))):=by rw[he];simp only[ak]
  have e1:=ry e0;have e2:=ry e1;have e3:=ry e2;have d0:=hS.mY e0;refine hS.call (pE (xo:=0) hS.toRB e0 (by unfold vy;omega) sQ) kQ d0 λw1 X1 mh=>?_;have hs:=ai.fK mh.t.s.has;have Mf:=Dx (u:=I 9) mh.x sQ;repeat' first|refine aL ?_;intros|with_reducible apply cJ
  rename_i o7 ho7 _;subst ho7;clear Mf hs;have d1:=mh.mY e1;refine mh.call (UI (xo:=1) mh.toRB e1 h1 (ep rfl)) kQ d1 λw2 X2 bm=>?_;repeat' first|refine ao ?_;intros|(with_reducible refine tr kQ kQ ?_)
  refine bm.call (abw (xo:=4) bm.toRB e2 h2 (ep rfl)) kQ (bm.mY e2) λw3 X3 bW=>?_;repeat' first|refine ao ?_;intros|(with_reducible refine tr kQ kQ ?_)
  refine zq (V6 (xo:=15) bW.toRB e3 h3 h4 rfl) kQ bW.t.s.has (λk e=>e.elim (λe=>e▸bW.r.box.1) λe=>e▸bW.x.1) λv wa w5 X5 ⟨va,hv,Dz,RI,uC⟩ IZ Fj _ c5=>?_;subst hv;have nE:=bW.PA c5 ⟨c5.sub _ bW.r.box.1,Dz.2⟩ (bW.mY e3) ⟨c5.sub _ bW.x.1,RI.2⟩
  skip
  have e:at_+(encI 9).length+(nR t).length+(lE st).length+(iW encI ps).length=at_+(encI 9++(nR t++(lE st++iW encI ps))).length:=by simp only[aa];omega
  rw[e] at nE;exact nE.t.fin λIi aK=>⟨va,rfl,(nE.out aK).2.1,(nE.out aK).2.2,((uC.up Fj (ad bW.t.s.kp.size IZ)).kp aK).tight⟩
 |fin t h1=>
  rw[RF] at he⊢;have e0:bs.drop at_=encI 10++(nR t++tl):=by rw[he,ak]
  have e1:=ry e0;refine hS.call (pE (xo:=0) hS.toRB e0 (by unfold vy;omega) sQ) kQ (hS.mY e0) λw1 X1 mh=>?_;have hs:=ai.fK mh.t.s.has;have Mf:=Dx (u:=I 10) mh.x sQ;repeat' first|refine aL ?_;intros|with_reducible apply cJ
  rename_i o7 ho7 _;subst ho7;clear Mf hs;refine mh.call (UI (xo:=1) mh.toRB e1 h1 (ep rfl)) kQ (mh.mY e1) λw2 X2 bm=>?_
  skip
  have e:at_+(encI 10).length+(nR t).length=at_+(encI 10++nR t).length:=by simp only[aa];omega
  rw[e] at bm;exact bm.t.fin λIi aK=>⟨ki,rfl,(bm.out aK).2.1,(bm.out aK).2.2,Own.nil _ _ _ _ _⟩
theorem Tp {v0:Value} (hr:U7 r) (h:Sl w X 1 v0 ((gd r).map U1)) (aro:r.err=0) (hlen:(gd r).length<=262144) (cx: ∀b∈gd r,b<256):
  Ct pg 79 #[v0] w X nX λv wa w'=> ∃va,v= .tuple #[r.v ki ki va ki ki ki,I 0]/\Own w' (made wa w') wa.heap.size 3 1 va (r.parts.map I1):=by
 intro w0 hk;replace h:=h.mv hk.cd;have Mb:Ft w0 nX w0 (bN w0) nX:=Ft.init λ_ h=>h.elim;refine Tq ?_;unfold Ip;refine Ny (l:=PL) Mb.s.has kQ λxb w1 X1 Km ay EE=>?_;have eh:=Mb.since ay;refine aiq eh.s.has kQ λeb w2 X2 heb bA Ey=>?_;have cX:=eh.since bA;have hrx:=EE.since bA;have hs:=ay.trans bA;have mX:=h.mv hs.mv;have bU:gd r≠[]:=by
  intro e;have:=FK r.kind;have h9:=congrArg bf e;cases hr
  ·rw[RH] at h9;have:=FK 8;simp only[aa,bF] at h9;omega
  ·rw[WZ] at h9;have:=FK 9;simp only[aa,bF] at h9;omega
  ·rw[RF] at h9;have:=FK 10;simp only[aa,bF] at h9;omega
 generalize xn:gd r=bs at*;repeat' refine aL ?_;intros
 refine cA (ain mX zQ cx) kQ cX.s.has ?_;rintro _ zR w3 X3 ⟨rb,vb,rfl,jB⟩ qS mN dm;have dX:=cX.since dm;repeat' refine ao ?_;intros
 refine BL dX.s.has λcb w4 X4 hcb fV RJ=>?_;have fP:=(dX.since fV).PM;have hz3:=dm.kp.size;have AB:Ce w3 X3 rb vb 0 0 bs:=jB.mv (Mv.sub mN);have LO:=AB.mv fV.mv;have aex:=(hrx.since dm).since fV;have ana:=(Ey.since dm).since fV;have Oy:=jB.box.1;have UQ:=bA.has xb (bA.sub xb EE.1);have atO:=ay.has xb EE.1;have Mg:=bA.has eb Ey.1;have pz:=fV.has cb RJ.1;have K6:RB w4 X4 rb vb 0 0 bs cb xb PL 73:=⟨LO,aex,RJ.cells,by have:=Oy.2;omega,by omega,by have:=Oy.1;omega,λhb=>by have:=(jB.ow.bo hb).1.1;omega⟩;refine fP.call (abI (tl:=[]) hr K6 (by rw[xn];simp)) kQ (λk e=>e.elim (λe=>by subst e;exact⟨LO.box.1,by have:=Oy.1;omega⟩) λe=>by subst e;exact⟨aex.1,by omega⟩) λv OP w5 X5 hq5 IZ Fj iO c5=>?_;obtain⟨va,rfl,Dz,RI,uC⟩:=hq5;rw[xn] at Dz;have anb:aI w5 X5 xb _ _:=⟨c5.sub _ aex.1,RI.2⟩;have arp:=ana.ea c5 λe=>e.elim (λe=>by have:=Oy.1;omega) λe=>by omega
 have arq:=K6.PA c5 (gJ:=0+bs.length) ⟨c5.sub _ LO.box.1,Dz.2⟩ zQ anb;have h0:Sl w0 (out nX w0) 1 v0 (bs.map U1):=h.mono λk ah=>⟨ah,λh=>h.elim⟩;clear hs mX ay bA dm fV;have hs:=ai.fK iO.s.has
 skip
 refine dZ (aim arq.r zQ) kQ iO.s.has λw6 X6 tY=>?_;have kj:=iO.since tY;have hx6:=anb.since tY;have ars:=arp.since tY;have ho6:Own w6 X6 w0.heap.size 3 1 va (r.parts.map I1):=(uC.up Fj (by have:=fP.s.kp.size;omega)).since tY;obtain⟨ab,an,ac,rfl⟩:=ho6.sl.form;repeat' refine aL ?_;intros
 have art:Ct pg 136 #[r.v ki ki (.slice ab an ac) ki ki ki] w6 X6 nX λv wa w'=> ∃vb,v= .tuple #[vb,I 0]/\Own w' (made wa w') wa.heap.size 5 1 vb (bs.map U1):=by
  have dg:r.at w6 X6 ki ki (.slice ab an ac) ki ki ki:=by
   cases hr<;>exact⟨Sl.nil _ _ _,Sl.nil _ _ _,ho6.sl,Sl.nil _ _ _,fh.nil _ _ _,fh.nil _ _ _⟩
  have ml:r.small:=by cases hr<;>exact ED rfl rfl rfl
  refine(D5 dg ml (λ_=>by rw[xn];omega)).mono λv wb w' _ hq=>?_;have Bw:r.fF=0:=by
   unfold Rec.fF;rw[if_neg (by simp[aro]),if_neg (by rw[xn];omega)]
  rw[if_neg (by simp[Bw]),xn] at hq;exact hq
 refine cA art kQ kj.s.has ?_;rintro _ Q6 w7 X7 ⟨ve,rfl,hoe⟩ S8 Hn pc;have DC:=kj.since pc;have hx7:=hx6.since pc;have aru:=ars.since pc;repeat' refine aL ?_;intros
 refine gZ (Q:=λK=> ∀w X,ai X7 w7 X w->K (B true) w X) ?_ λK hK=>?_
 ·intro w8 X8 kT;have U9:=DC.since kT;have hx8:=hx7.since kT;have arv:=aru.since kT;have BK:=(ho6.since pc).since kT;clear hs;repeat' refine ao ?_;intros
  refine GD (o:=0) hx8 rfl kQ (ep rfl) rfl ?_ U9.s.has λw9 X9 c9 Q8=>?_
  ·rfl
  have hT9:=U9.ea (F':=λk=>Ep w0 X4 k\/made OP w5 k) c9 (λk ah=>by subst ah;exact .inl ⟨aex.1,by omega⟩) λk ah=>.inl ah;have anc:=arv.ea c9 (λe=>by have e:eb=xb:=e;omega);have UL:=BK.ea c9 λg hg e=>by
   have e:g=xb:=e;subst e;exact Own.eT BK hx8 kQ hg
  refine pW (o:=0) anc rfl kQ sQ rfl hT9.s.has λwC Cm RK Zf=>?_;have Hw:=hT9.ea (F':=λk=>Ep w0 X4 k\/made OP w5 k) RK (λk ah=>by subst ah;exact .inl ⟨ana.1,by omega⟩) λk ah=>.inl ah;have arw:=Q8.ea RK (λe=>by have e:xb=eb:=e;omega);have arx:=UL.ea RK λg hg e=>by
   have e:g=eb:=e;subst e;exact Own.eT UL anc kQ hg
  unfold aJ.fin;intro wa aK;refine VZ (X:=Cm) (cs:=r.l ki ki (.slice ab an ac) ki ki ki) (arw.kp aK) rfl (Zf.kp aK) ?_;exact⟨_,rfl,⟨aK.os.trans Hw.s.kp.os,aK.tape.trans Hw.s.kp.tape,aK.output.trans Hw.s.kp.output,ad Hw.s.kp.size aK.size,λk hl hn=>(aK.block k (Hw.s.sub k ⟨hl,hn⟩)).trans (Hw.s.kp.block k ⟨hl,hn⟩)⟩,.slice ab an ac,rfl,(arx.kp aK).tight⟩
 ·repeat' refine ao ?_;intros
  refine dZ (Ys (hoe.sl.mono Hn) (h0.mv DC.s.mv) bU) kQ DC.s.has λw8 X8 kT=>?_;exact hK _ _ kT
end
def Zg (n:bh) (r:Rec):Prop:=
 (r.kind=8/\r.n=n.c.aN+1)\/(r.kind=9/\r.aH.dU=n.c.id/\r.aH.aN=n.c.aN/\getM r.aH n.bl=none)\/(r.kind=10/\ ∃b,b∈n.cl/\getM r.aH n.bl=some b/\(n.C b).ended=false)
def W7 (n:bh) (r:Rec) (vp:Value) (n':bh):Prop:=
 (r.kind=8/\n'= { n with c:= { n.c with aN:=n.c.aN+1 } })\/(r.kind=9/\ ∃v,amZ n r vp v n')\/
 (r.kind=10/\ ∃b,getM r.aH n.bl=some b/\n'=mR n b { n.C b with v2:=aR,waits:=[],ended:=true })
section
variable {n : bh}
theorem Zh (h:jD w own n) (hX:rO own X) (hr:Zg n r) (hp:Sl w (bI own 4) 1 vp (r.parts.map I1)) (wu:r.parts.length<=2^40) (pz:n.cl.length<=2^20) (hl:0<=n.c.aN/\n.c.aN<=2^30):
  Ct pg 80 #[ptr n.nb 0,r.v aR aR vp aR aR aR] w X (gC own) λv wa w'=>NQ dV own wa w' λ_ n'=>v=B true/\W7 n r vp n':=by
 intro w0 hk;have s:=St.init h hX hk;replace hp:=hp.mv (zf hX hk);have rr:=s.v.1;refine Mi.1 λ_=>?_;have hs:=s.rf;rcases hr with⟨hk,hn⟩|⟨hk,h1,h2,h3⟩|⟨hk,b,hb,h1,h2⟩
 ·repeat' refine aL ?_;intros
  refine s.st (o:=1) 1 (s.get 1) (dV { n with c:= { n.c with aN:=n.c.aN+1 } }) zQ kQ (ep rfl) rfl (λ_ _ _ h=>h) nO λw1 X1 ic s1 m1=>?_;clear hs rr;have rr:=s1.v.1;have hs:=s1.rf;repeat' refine aL ?_;intros
  exact s1.fin λ_ _=>⟨by first|rfl|(congr 1;simp;omega),.inl ⟨hk,rfl⟩⟩
 ·repeat' refine aL ?_;intros
  refine mZ (kt:=34) (et:=124) (kv:=λk:bu=>k.v) (k:=r.aH) (.pointer none) (s.Ay 6:) td kQ kQ (λv b lq rN=>?_) (λhn=>?_)
  ·rw[h3] at lq;cases lq
  repeat' refine ao ?_;intros
  refine s.call (O2 (r:=r) s.h s.x hp wu pz) kQ λv w1 X1 ic n1' s1 q1 m1=>?_;clear hs
  skip
  exact s1.fin λ_ _=>⟨rfl,.inr (.inl ⟨hk,_,q1⟩)⟩
 ·obtain⟨hc,o3,o2,H4⟩:=s.vc hb;rw[h2] at hc;repeat' refine aL ?_;intros
  refine mZ (kt:=34) (et:=124) (kv:=λk:bu=>k.v) (k:=r.aH) (.pointer none) (s.Ay 6:) td kQ kQ (λv b' lq rN=>?_) (λhn=>?_);case refine_2=>rw[h1] at hn;cases hn
  simp only[zP] at rN;subst rN;obtain rfl:b'=b:=by rw[h1] at lq;exact(bV lq).symm
  repeat' refine ao ?_;intros
  refine s.st (o:=30) (tx b' 4) (s.h.BP hb).1 (dV (mR n b' { n.C b' with ended:=true })) zQ kQ sQ rfl (λ_ _ _ h=>Nv dQ h) W5 (λw1 X1 ic s1 m1=>?_) iy.1 iy.2;have lM:b'∈(mR n b' { n.C b' with ended:=true }).cl:=hb;clear hs hc;have hs:=s1.rf;obtain⟨hc,-⟩:=s1.vc lM;rw[L9] at hc;repeat' refine ao ?_;intros
  have iH:=s1.h.BP lM;rw[L9] at iH;refine pW (o:=29) hc zQ kQ sQ rfl s1.has λw2 X2 c2 jI=>?_;obtain⟨lQ,s2,m2⟩:=s1.jT (F':=dV (mR n b' { n.C b' with v2:=aR,waits:=[],ended:=true })) (j:=tx b' 4) (N:=λ_=>False) c2 (λc=>c=tx b' 4\/c=tx b' 5) (λk e=>.inl (by rw[show k=b' from e];exact iH.1.1)) (λe=>by unfold tx at e;omega) (λe=>by unfold tx at e;omega) (λ_ h=>h.elim) iy.1
   (λaG e1 e2 m c hc=>by
    rcases hc with rfl|rfl
    ·exact Nv dQ ⟨(e1 b' (by rw[show ic b'=tx b' 4 from iH.1.1];exact iy.1)).trans iH.1.1,jI.2⟩
    ·exact Nv dQ (Own.nil _ _ _ _ _))
   λc hc K A m h=>by
    have:=W5 (n:=mR n b' { n.C b' with ended:=true }) (b:=b') (Q:=λc=> ¬(c=tx b' 4\/c=tx b' 5)) (d:= { n.C b' with v2:=aR,waits:=[],ended:=true }) (by rw[L9];intro i hq w K A h;rcases i with _|_|_|_|_|_|_|_|i<;>first|exact h|exact absurd (.inl rfl) hq|exact absurd (.inr rfl) hq) c hc _ _ _ h
    rwa [U3] at this
  clear hs hc;have hs:=s2.rf
  skip
  exact s2.fin λ_ _=>⟨rfl,.inr (.inr ⟨hk,b',h1,rfl⟩)⟩
end
abbrev oX:ByteArray:=⟨#[108,111,103]⟩
abbrev jo:=Int×List (Rec×Bool)
def AF (t:bu) (l:List (Rec×Bool)):List (Rec×Bool):=l.map λx=>if x.1.aH=t then(x.1,true)else x
open Classical in
noncomputable def sK (s:jo) (r:Rec):Option jo:=
 if r.kind=8 then(if r.n=s.1+1 then some (s.1+1,s.2)else none)
 else if r.kind=9 then(if r.aH.dU=1/\r.aH.aN=s.1/\(∀x∈s.2,x.1.aH≠r.aH)then some (s.1,s.2++[(r,false)])else none)
 else if r.kind=10 then(if∃x∈s.2,x.1.aH=r.aH/\x.2=false then some (s.1,AF r.aH s.2)else none)
 else none
noncomputable def yk:jo->List Rec->Option jo
 |s,[]=>some s
 |s,r::l=>(sK s r).bind λs'=>yk s' l
theorem O4: ∀(l l':List Rec) (s:jo),yk s (l++l')=(yk s l).bind λs'=>yk s' l'
 |[],l',s=>rfl
 |r::l,l',s=>by
  show(sK s r).bind (λs'=>yk s' (l++l'))=((sK s r).bind λs'=>yk s' l).bind _
  cases sK s r with
  |none=>rfl
  |some x=>exact O4 l l' x
variable {s1 s2 : jo}
theorem agm {l:List Rec} {s:jo} (h:yk s l=some s1) (h2:sK s1 r=some s2):yk s (l++[r])=some s2:=by
 rw[O4,h]
 show(sK s1 r).bind (λs'=>some s')=_
 rw[h2];rfl
def bh.abs (n:bh):jo:=(n.c.aN,n.cl.map λb=>((n.C b).r,(n.C b).ended))
def Mj (n:bh):Prop:= ∀t b,getM t n.bl=some b↔b∈n.cl/\(n.C b).r.aH=t
structure Rest (n n':bh):Prop where
 nb:n'.nb=n.nb
 db:n'.db=n.db
 mb:n'.mb=n.mb
 L:n'.L=n.L
 m:n'.m=n.m
 al:n'.al=n.al
 ds:n'.ds=n.ds
 id:n'.c.id=n.c.id
 ey:n'.c.ey=n.c.ey
 lb:n'.c.lb=n.c.lb
 pre:n'.pre=n.pre
 ex:n'.ex=n.ex
 out:n'.vm=n.vm/\n'.va=n.va/\n'.rm=n.rm/\n'.ra=n.ra/\n'.ms=n.ms
theorem Rest.refl (n:bh):Rest n n:=⟨rfl,rfl,rfl,rfl,rfl,rfl,rfl,rfl,rfl,rfl,rfl,rfl,rfl,rfl,rfl,rfl,rfl⟩
theorem Rest.trans {a b c:bh} (h:Rest a b) (k:Rest b c):Rest a c:=⟨k.nb.trans h.nb,k.db.trans h.db,k.mb.trans h.mb,k.L.trans h.L,k.m.trans h.m,k.al.trans h.al,k.ds.trans h.ds,k.id.trans h.id,k.ey.trans h.ey,k.lb.trans h.lb,k.pre.trans h.pre,k.ex.trans h.ex,k.out.1.trans h.out.1,k.out.2.1.trans h.out.2.1,k.out.2.2.1.trans h.out.2.2.1,k.out.2.2.2.1.trans h.out.2.2.2.1,k.out.2.2.2.2.trans h.out.2.2.2.2⟩
variable {s' : jo}
section
variable {n : bh}
theorem agn (h:Mj n) (hi:n.c.id=1) (hr:sK n.abs r=some s'):Zg n r:=by
 unfold sK at hr;split at hr
 ·rename_i hk;split at hr
  ·rename_i h1;exact .inl ⟨hk,h1⟩
  ·cases hr
 ·split at hr
  ·rename_i hk;split at hr
   ·rename_i h1;refine .inr (.inl ⟨hk,h1.1.trans hi.symm,h1.2.1,?_⟩);cases e:getM r.aH n.bl with
    |none=>rfl
    |some b=>
     obtain⟨h2,h3⟩:=(h _ _).1 e;exact absurd h3 (h1.2.2 _ (List.mem_map.2 ⟨b,h2,rfl⟩))
   ·cases hr
  ·split at hr
   ·rename_i hk;split at hr
    ·rename_i h1;obtain⟨x,hx,h2,h3⟩:=h1;obtain⟨b,hb,rfl⟩:=List.mem_map.1 hx;exact .inr (.inr ⟨hk,b,hb,(h _ _).2 ⟨hb,h2⟩,h3⟩)
    ·cases hr
   ·cases hr
theorem Zi (h:Mj n) (hr:sK n.abs r=some s') (ok:Zg n r) (hs:W7 n r vp n') (hw: ∀b∈n.cl,(n.C b).waits.length<=80) (hp:r.parts.length<=80):
  n'.abs=s'/\Mj n'/\Rest n n'/\(∀b∈n'.cl,(n'.C b).waits.length<=80)/\n'.cl.length<=n.cl.length+1:=by
 unfold sK at hr;unfold W7 mR at hs;rcases hs with⟨hk,rfl⟩|⟨hk,v,bx,BO,v2,_,fY,rfl⟩|⟨hk,b,hb,rfl⟩
 ·rw[if_pos hk] at hr;split at hr
  ·exact⟨bV hr,h,⟨rfl,rfl,rfl,rfl,rfl,rfl,rfl,rfl,rfl,rfl,rfl,rfl,rfl,rfl,rfl,rfl,rfl⟩,hw,cZ _⟩
  ·cases hr
 ·have qs:getM r.aH n.bl=none:=by
   rcases ok with ok|ok|ok
   ·omega
   ·exact ok.2.2.2
   ·omega
  rw[if_neg zQ,if_pos hk] at hr;have bU: ∀b∈n.cl,b≠bx:=λb hb e=>fY (e▸hb);split at hr
  ·have e:=bV hr;refine⟨?_,λt b=>?_,⟨rfl,rfl,rfl,rfl,rfl,rfl,rfl,rfl,rfl,rfl,rfl,rfl,rfl,rfl,rfl,rfl,rfl⟩,λb hb=>?_,by simp⟩
   ·rw[<-e];unfold bh.abs;dsimp only;rw[az];refine congrArg (Prod.mk _) ?_;rw[dp (l:=n.cl) (g:=λb=>((n.C b).r,(n.C b).ended)) λb hb=>by grind];simp
   ·dsimp only;by_cases ht:t=r.aH
    ·subst ht;rw[ku];constructor
     ·grind
     ·rintro⟨h1,h2⟩;rcases List.mem_append.1 h1 with h1|h1
      ·rw[if_neg (bU b h1)] at h2;rw[(h _ _).2 ⟨h1,h2⟩] at qs;cases qs
      ·rw[List.mem_singleton.1 h1]
    ·rw[nL ht];constructor
     ·intro e;obtain⟨h1,h2⟩:=(h _ _).1 e
      grind
     ·rintro⟨h1,h2⟩;rcases List.mem_append.1 h1 with h1|h1
      ·rw[if_neg (bU b h1)] at h2;exact(h _ _).2 ⟨h1,h2⟩
      ·rw[av] at h1
       grind
   ·dsimp only at hb⊢;split
    ·exact hp
    ·rename_i hn;rcases List.mem_append.1 hb with hb|hb
     ·grind
     grind
  ·cases hr
 ·rw[if_neg zQ,if_neg zQ,if_pos hk] at hr;obtain⟨hbc,UR⟩:=(h _ _).1 hb;split at hr
  ·have e:=bV hr;refine⟨?_,λt b'=>?_,⟨rfl,rfl,rfl,rfl,rfl,rfl,rfl,rfl,rfl,rfl,rfl,rfl,rfl,rfl,rfl,rfl,rfl⟩,λb' dW=>?_,cZ _⟩
   ·rw[<-e];unfold bh.abs AF;dsimp only;rw[bw];refine congrArg (Prod.mk _) (dp λb' dW=>?_);by_cases e:b'=b
    ·grind
    ·rw[if_neg e];have: ¬(n.C b').r.aH=r.aH:=λe'=>by
      have:=(h _ _).2 ⟨dW,e'⟩
      grind
     simp[this]
   ·refine(h t b').trans (and_congr_right λ_=>?_)
    grind
   grind
  ·cases hr
end
theorem gD.count: ∀{l:List dN} {s:dN} {f:Nat},gD (l++[s])->oI (l++[s])=some f->s.first+s.aY.length=f+(fE (l++[s])).length
 |[],s,f,_,h=>by
  have:s.first=f:=bV h
  simp[fE,this]
 |[a],s,f,h,hf=>by
  have h1:s.first=a.first+a.aY.length:=h.1
  have h2:a.first=f:=bV hf
  simp[fE];omega
 |a::b::l,s,f,h,hf=>by
  have h1:b.first=a.first+a.aY.length:=h.1
  have h2:a.first=f:=bV hf
  have:=gD.count (l:=b::l) (s:=s) (f:=b.first) h.2.2 rfl;have e:fE (a::b::l++[s])=a.aY++fE (b::l++[s]):=by simp[fE]
  grind
theorem gD.has: ∀{l:List dN} {f k:Nat} {p:List Nat},gD l->oI l=some f->(fE l)[k]? =some p-> ∃(j:Nat) (s:dN),l[j]? =some s/\s.first<=f+k/\(∀(i:Nat) (t:dN),j<i->l[i]? =some t->f+k<t.first)/\s.aY[f+k-s.first]? =some p
 |[],_,_,_,_,h,_=>by cases h
 |s::l,f,k,p,hl,h,hk=>by
  have hf:s.first=f:=bV h
  have hr:fE (s::l)=s.aY++fE l:=by simp[fE]
  rw[hr] at hk;by_cases cx:k<s.aY.length
  ·rw[List.getElem?_append_left cx] at hk;refine⟨0,s,rfl,by omega,λi t hi ht=>?_,by simp_all⟩;cases i with
   |zero=>omega
   |succ i=>
    rw[vB] at ht;cases l with
    |nil=>cases ht
    |cons u r=>
     have h1:=hl.1;have hm:=ax ht;rcases List.mem_cons.1 hm with rfl|hm
     ·omega
     ·have:=hl.tail.lt t hm;omega
  ·rw[List.getElem?_append_right zQ] at hk;cases l with
   |nil=>simp[fE] at hk
   |cons u r=>
    have h1:=hl.1;obtain⟨j,q,h2,h3,h4,h5⟩:=gD.has (l:=u::r) (f:=u.first) hl.tail rfl hk;have e:u.first+(k-s.aY.length)=f+k:=by omega
    rw[e] at h3 h4 h5;exact⟨j+1,q,by assumption,h3,λi t hi ht=>by
     cases i with
     |zero=>omega
     |succ i=>rw[vB] at ht;exact h4 i t zQ ht,h5⟩
structure Va (r:Rec):Prop where
 co:U7 r
 err:r.err=0
 len:(gd r).length<=900
 isb: ∀b∈gd r,b<256
 ps:r.parts.length<=80
structure Mk (x:LD) (pre:List dN) (s:dN) (rs:List Rec):Prop where
 up:oP x pre s
 fst:oI (pre++[s])=some 1
 A8:fE (pre++[s])=rs.map gd
 ok: ∀r∈rs,Va r
 len:rs.length<=1000
variable {rs : List Rec} {s : dN} {x : LD}
theorem Mk.next (h:Mk x pre s rs):x.L.next=1+rs.length:=by
 have:=gD.count h.up.g.lk h.fst;rw[h.A8,af] at this;rw[h.up.next];exact this
variable {k : Nat}
theorem Mk.has (h:Mk x pre s rs) (hr:rs[k]? =some r):x.L.has (1+k) (gd r):=by
 unfold LM.has;rw[h.up.bC];exact gD.has h.up.g.lk h.fst (by rw[h.A8,List.getElem?_map,hr];rfl)
theorem Mk.head (h:Mk x pre s rs): ∃u t,x.L.bC=u::t/\u.first=1:=by
 have h1:=h.fst;rw[h.up.bC];cases pre with
 |nil=>exact⟨s,[],rfl,bV h1⟩
 |cons u v=>exact⟨u,v++[s],rfl,bV h1⟩
theorem Zj {s:jo} (h:sK s r=some s'):s.1<=s'.1/\s'.1<=s.1+1:=by
 unfold sK at h;repeat' split at h
 all_goals first|cases h;done|(have e:=bV h;rw[<-e];dsimp only;omega)
variable {F : Nat -> pX} {db : Nat}
section
variable {N : XS} {n : bh}
structure OI (n0 n:bh) (s:jo) (k:Nat):Prop where
 abs:n.abs=s
 bl:Mj n
 rest:Rest n0 n
 cw: ∀b∈n.cl,(n.C b).waits.length<=80
 cl:n.cl.length<=k
 aN:0<=n.c.aN/\n.c.aN<=k
structure akv (l:List eY) (x:LD) (s1:jo) (db k:Nat) (n:bh):Prop where
 db:n.db=db
 abs:n.abs=(s1.1+1,s1.2)
 bl:Mj n
 id:n.c.id=1
 ey:n.c.ey=0
 al:n.al=[]
 ck:n.ck=⟨0,0,21⟩
 ds:n.ds=l.foldl iZ []
 ld:(⟨n.L,n.m⟩:LD)=(x.iI 0 (gd (l8 (s1.1+1)))).1
 ms:n.ms=[]
 vm:n.vm=aR
 va:n.va=aR
 rm:n.rm=[]
 ra:n.ra=[]
 cw: ∀b∈n.cl,(n.C b).waits.length<=80
 cl:n.cl.length<=k
 pre:n.pre=false
 ex:n.ex=[]
def lgR (lb db:Nat) (L:LM) (m:DM):pX:=⟨λw _ A=>Lg w A lb db L m,λh _ m=>akw h m⟩
def diR (rb mb:Nat) (ds:tL):pX:=⟨λw _ A=>mz w A rb mb ds,λh _ m=>h.mv m⟩
theorem _root_.Go.aJ.St.IS (s:St w0 bK w X own F) (j:Nat) (r:pX) (hN: ∀k,N k->X k/\own k=0/\w0.heap.size<=k) (hr: ∀K,r.p w K N) (h0:j≠0:=by decide) (h4:j≠4:=by decide):
  ∃aG,St w0 bK w X aG (λc=>if c=j then r else F c)/\Mv (bI own 4) w (bI aG 4) w/\ ∀k,¬N k->aG k=own k:=by
 obtain⟨aG,s',m,e,-⟩:=s.jT (F':=λc=>if c=j then r else F c) (j:=j) (N:=N) (ee.nQ s.rf nX) (· =j) (λ_ h=>h.elim) h0.symm h4.symm hN h0 (λaG _ e2 m c hc=>by subst hc;rw[if_pos rfl];exact r.mv (hr _) (Mv.refl _ _) (Mv.sub e2)) λc hc K A _ h=>by rw[if_neg hc];exact h
 exact⟨aG,s',m,e⟩
theorem FM {l:List eY} {m:DM} {sf:jo} (h:Hs (Rz db m) w own) (hX:rO own X) (ha:Sl w (bI own 4) 4 a (l.map eY.l)) (hc:BS l=0)
  (xi: ∀x∈m.fs,x.1.size<=2^40) (iT:m.fs.length<=2^29) (GK: ∀n,∀b∈m.bytes n,b<256) (hO:LD.Ch oX 4096 m=(x,0)) (hL:Mk x pre sg rs) (jB:yk (0,[]) rs=some sf) (Em:(x.iI 0 (gd (l8 (sf.1+1)))).2.2=0) (hke:(l8 (sf.1+1)).fF=0):
  Ct pg 36 #[ptr db 0,I 1,I 4096,a] w X (gC own) λv wa w'=>NQ dV own wa w' λ_ n=>v= .tuple #[ptr n.nb 0,I 0]/\akv l x sf db rs.length n:=by
 intro w0 hk;have s:=St.init h hX hk;replace ha:=ha.mv (zf hX hk);clear h hX hk;refine Tr.g (RP:=λ_ _=>False) (show Zk Tryz.f36=some (81,[8,9])from by kernel_rfl) (.inl rfl) abq EA ?_;refine cz ?_;have hs:=s.rf;repeat' refine aL ?_;intros
 refine cA (ago (ha.mono (s.sub 4))) kQ hs.has ?_;rintro v1 Ej w1 X1 q1 qf nJ ay;rw[if_neg zQ] at q1;obtain⟨rb,mb,D,rfl,hD,amV⟩:=q1;obtain⟨ic,s1,m1,e1⟩:=(s.since ay).IS (N:=D) 2 (diR rb mb (l.foldl iZ [])) (λk hk=>⟨nJ k (hD k hk),s.nw (ad qf (hD k hk).1)⟩) λ_=>amV;clear hs;have hs:=s1.rf;repeat' refine aL ?_;intros
 refine zq (ad8 (dir:=oX) (sz:=4096) (s1.get 3:Dk w1 (bI ic 3) db m) (s1.fxc 3) xi iT GK dQ dQ dQ dQ) kQ s1.has (s1.sub 3) λv xQ w2 X2 zN lD kh _ c2=>?_;rw[hO] at zN;obtain⟨lb,F2,rfl,hF2,_,g2⟩:=zN;replace g2:=g2 rfl;dsimp only at g2;obtain⟨lQ,s2,m2⟩:=s1.DY (F':=λc=>if c=2 then diR rb mb (l.foldl iZ [])else if c=3 then lgR lb db x.L x.m else RA) 3 c2 (λ_ e=>e) F2 (λk ah=>(hF2 k ah).imp id λe=>⟨kh k e,ad lD e.1⟩) (λ_ _=>g2) λc hc w K A h=>by
  by_cases e:c=2
  ·rw[if_pos e] at h⊢;exact h
  ·rw[if_neg e,if_neg hc];trivial
 rw[if_pos rfl];clear hs;have hs:=s2.rf;repeat' refine aL ?_;intros
 refine rA (kv:=λk:bu=>k.v) zP nX s2.has λab w3 X3 xh dm qx=>?_;obtain⟨nz,s3,m3,e3⟩:=(s2.since dm).IS (N:=(· =ab)) 5 (mpR ab []) (λk hk=>by subst hk;exact⟨qx.x.1,s2.nw xh⟩) λ_=>qx.own;refine rA (kv:=λk:bu=>k.v) zP nX s3.has λtb w4 X4 htb fV A6=>?_;obtain⟨lR,s4,m4,e4⟩:=(s3.since fV).IS (N:=(· =tb)) 6 (mpR tb []) (λk hk=>by subst hk;exact⟨A6.x.1,s3.nw htb⟩) λ_=>A6.own;clear hs;have hs:=s4.rf;repeat' first|refine ao ?_;intros|(refine OQ hs ?_;intro bx w X fY ay gn hs br)
 obtain⟨mO,s5,m5,e5⟩:=(s4.since ay).IS (N:=(· =bx)) 1 (YZ bx (Hm ⟨1,0,0,lb,rb,0,ab,aR,tb⟩ (.pointer none) aR aR) nT) (λk hk=>by subst hk;exact⟨br.1,s4.nw aQ⟩) λ_=>⟨rfl,br.2⟩;obtain⟨n0,Vb⟩: ∃n0:bh,n0= { nb:=bx,db:=db,mb:=mb,c:=⟨1,0,0,lb,rb,0,ab,aR,tb⟩,ck:=.zero,ds:=l.foldl iZ [],L:=x.L,m:=x.m,al:=[],bl:=[],vm:=aR,va:=aR,rm:=[],ra:=[],ms:=[],cl:=[],A:=λ_=>⟨⟨.zero,aR,.zero,0,aR,false,aR,.zero⟩,aR,[],[],[],[],[],false⟩,C:=λ_=>⟨l7 .zero,aR,aR,[],false⟩,pre:=true } :=⟨_,rfl⟩;have hA: ∀b,¬n0.gx b:=λb h=>by
  rw[Vb] at h;exact h.elim (λ⟨t,e⟩=>by cases e) λe=>by cases e
 have hC: ∀b,b ∉ n0.cl:=λb h=>by rw[Vb] at h;cases h
 replace s5:Sn w0 own w X mO n0:=s5.to λc h0 h4 w K A h=>by
  by_cases hc:c<16
  ·subst Vb;unfold dV;rw[if_pos hc];rcases c with _|_|_|_|_|_|_|_|_|_|_|_|_|c<;>first|exact absurd rfl h0|exact h|exact Own.nil _ _ _ _ _|exact fA.nil _ _|exact λe=>Bool.noConfusion e|(intro t b e;cases e;done)|trivial
  ·unfold dV;rw[if_neg hc];generalize c/8-2=b;generalize c % 8=i;rcases i with _|_|_|_|_|_|_|_|i<;>first|exact λha=>absurd ha (hA _)|exact λha=>absurd ha (hC _)|trivial
 clear hA hC;have hI:OI n0 n0 (0,[]) 0:=by
  rw[Vb];exact⟨rfl,λt b=>by constructor<;>intro h<;>simp[getM] at h,Rest.refl _,λb hb=>absurd hb sQ,au _,⟨gP _,gP _⟩⟩
 have hx:n0.nb=bx/\n0.c.lb=lb/\n0.db=db/\n0.L=x.L/\n0.m=x.m/\n0.c.id=1/\n0.c.ey=0/\n0.al=[]/\n0.ds=l.foldl iZ []:=by rw[Vb];exact⟨rfl,rfl,rfl,rfl,rfl,rfl,rfl,rfl,rfl⟩
 have hy:n0.pre=true/\n0.ex=[]/\n0.vm=aR/\n0.va=aR/\n0.rm=[]/\n0.ra=[]/\n0.ms=[]:=by rw[Vb];exact⟨rfl,rfl,rfl,rfl,rfl,rfl,rfl⟩
 clear Vb br;obtain⟨x1,x2,x3,x4,x5,x6,x7,x8,x9⟩:=hx;obtain⟨u,tl,LX,hu1⟩:=hL.head;have hLK:=hL.up.LV;have nD:=hL.next
 have rq:=hL.len;have lg: ∀{w' X' aG n'},Sn w0 own w' X' aG n'->Rest n0 n'->Lg w' (bI aG 3) lb db x.L x.m:=λ{w' X' aG n'} s hr=>by
  have:Lg w' (bI aG 3) n'.c.lb n'.db n'.L n'.m:=s.get 3
  rwa [hr.lb,hr.db,hr.L,hr.m,x2,x3,x4,x5] at this
 have hfx: ∀{FL:XS} {aG:Nat->Nat},(∀k,FL k->bI aG 3 k)-> ∀k,FL k->gC aG k:=λh k hk=>by have:_=3:=h k hk;exact⟨by omega,by omega⟩
 obtain⟨FL,FD,sv,bl,hW⟩:=(lg s5 (Rest.refl _)).lw;refine dZ (OW hW.l LX (s5.t.fx (hfx hW.hL))) kQ s5.has λw6 X6 tY=>?_;rw[hu1];have s6:=s5.since tY;refine BE (λn a b c w X=> ∃(k:Nat) (aG:Nat->Nat) (n':bh) (s:jo),a=I ((1+k:Nat):Int)/\b= .agg #[I 0]/\c= .agg #[ptr bx 0]/\n=rs.length-k/\k<=rs.length/\Sn w0 own w X aG n'/\OI n0 n' s k/\yk s (rs.drop k)=some sf) rs.length
  ⟨0,mO,n0,(0,[]),rfl,rfl,rfl,rfl,aq _,s6,hI,jB⟩ ?_
 clear s6 tY s5 hW hI jB hs;rintro n _ _ _ w7 X7 ⟨k,lj,n7,s,rfl,rfl,rfl,rfl,xq,s7,hI,jB⟩;have lV:n7.nb=bx:=hI.rest.nb.trans x1;obtain⟨FL,FD,sv,bl,hW⟩:=(lg s7 hI.rest).lw;refine dZ (EC hW.l hLK (s7.t.fx (hfx hW.hL))) kQ s7.has λw8 X8 kT=>?_;rw[nD];have s8:=s7.since kT;replace hW:=hW.mv (kT.gW (s7.sub 3));clear s7 kT;have hs:=s8.rf;rcases dD rs k with⟨cx,r,hr,hd⟩|⟨dA,hd⟩
 ·rw[hd] at jB;obtain⟨s',rr,jI⟩:=Option.bind_eq_some_iff.1 (show(sK s r).bind (λs'=>yk s' (rs.drop (k+1)))=some sf from jB);have hG:=hL.ok r (ax hr);have atP:=hG.len;have GS:=hG.ps;repeat' refine aL ?_;intros
  refine cA (aea hW.l hLK (hL.has hr) zQ LX zQ (by rw[nD];omega) (s8.t.fx (hfx hW.hL))) kQ s8.has ?_;rintro _ Ii w9 X9 ⟨vb,rfl,ze⟩ atQ ary Cg;have s9:=s8.since Cg;clear hs;have hs:=s9.rf;repeat' refine ao ?_;intros
  refine cA (Tp hG.co (ze.sl.mono ary) hG.err zQ hG.isb) kQ s9.has ?_;rintro _ ane wC Cm ⟨va,rfl,hva⟩ akx W8 Te;obtain⟨aps,RL,-,-,p4⟩:=(s9.since Te).vI (N:=made ane wC) λq hq=>⟨W8 q hq,s9.nw (ad akx hq.1)⟩;have hp:Sl wC (bI aps 4) 1 va (r.parts.map I1):=hva.sl.mono p4;have oa:=hp.one;obtain⟨e1,e2,e3,rfl⟩:=hp.form;clear hs;have hs:=RL.rf;have ok:=agn hI.bl (hI.rest.id.trans x6) (by rw[hI.abs];exact rr);have pz:=hI.cl;have RM:=hI.aN;have xP:=Zj rr;have e0:s.1=n7.c.aN:=by rw[<-hI.abs];rfl
  repeat' refine aL ?_;intros
  refine gZ (Q:=λK=> ∀w X aG n',Sn w0 own w X aG n'->OI n0 n' s' (k+1)->K (B true) w X) ?_ λK hK=>?_
  ·intro yl Ks Dc n12 Vc arz;clear hs;repeat' refine ao ?_;intros
   exact zU (rs.length-(k+1)) zQ ⟨k+1,Dc,n12,s',congrArg I zQ,rfl,rfl,rfl,by omega,Vc,arz,jI⟩
  ·repeat' refine ao ?_;intros
   rw[<-lV];refine RL.call (Zh (r:=r) RL.h RL.x ok hp zQ zQ zQ) kQ λv yl Ks Dc n12 Vc ⟨hv,hS⟩ _=>?_;subst hv;obtain⟨i1,i2,i3,i4,i5⟩:=Zi hI.bl (by rw[hI.abs];exact rr) ok hS hI.cw GS;have e12:s'.1=n12.c.aN:=by rw[<-i1];rfl
   exact hK _ _ Dc n12 Vc ⟨i1,i2,hI.rest.trans i3,i4,by omega,by omega,by omega⟩
 have ah:k=rs.length:=by omega
 rw[hd] at jB;obtain rfl:s=sf:=bV jB;have e0:s.1=n7.c.aN:=by rw[<-hI.abs];rfl
 rw[e0] at Em hke;subst lV;have RM:=hI.aN;have Bu:n7.c.id=1:=hI.rest.id.trans x6;have hb8:(gd (l8 (n7.c.aN+1))).length<=900:=by
  have:=fy 8;have:=fy (n7.c.aN+1);rw[RH,aa];omega
 have hr8:=s8.v.1;repeat' refine aL ?_;intros
 have eK:jE n7 (l8 (n7.c.aN+1))=x.iI 0 (gd (l8 (n7.c.aN+1))):=by
  unfold jE;rw[hI.rest.L,hI.rest.m,x4,x5,hke];rfl
 refine s8.WY (nb:=n7.nb) (db:=n7.db) (QP:=Nt n7 (l8 (n7.c.aN+1))) (FE (r:=l8 (n7.c.aN+1)) s8.h s8.x (by rw[hI.rest.L,hI.rest.m,x4,x5];exact hL.up) (acE rfl rfl rfl rfl rfl) (ED rfl rfl rfl) zQ) kQ (λv w9 X9 pC n9 s9 ⟨k1,k2,k3⟩ _=>?_) λwb _ ⟨_,_,_,_,yb⟩=>by
  have:=yb.1;rw[eK,Em] at this;exact absurd this dQ
 subst k2;rw[eK,Em];have y1:n9.nb=n7.nb/\n9.c=n7.c:=by rw[k3];exact⟨rfl,rfl⟩
 rw[<-y1.1];have atS:0<=n9.c.aN/\n9.c.aN<=k:=by rw[y1.2];exact RM
 clear hs hr8;have hs:=s9.rf;have Q8:=s9.v.1;repeat' refine aL ?_;intros
 refine s9.st (o:=1) 1 (s9.get 1) (dV { n9 with c:= { n9.c with aN:=n9.c.aN+1 } }) zQ kQ (ep rfl) rfl (λ_ _ _ h=>h) nO λwC Cm atd RE m10=>?_;clear hs Q8;have hs:=RE.rf;have Zf:=RE.v.1;repeat' refine ao ?_;intros
 obtain⟨n10,aiE⟩: ∃n10:bh,n10= { n9 with c:= { n9.c with aN:=n9.c.aN+1 } } :=⟨_,rfl⟩;rw[<-aiE] at RE Zf;have y2:n10.nb=n9.nb/\n10.c.id=1:=by rw[aiE];exact⟨rfl,by rw[y1.2];exact Bu⟩
 rw[<-y2.1];refine dZ (BQ (Y:=Cm) Zf (λ_ h=>h) (by rw[y2.2];decide)) kQ RE.has λw11 X11 PN=>?_;rw[y2.2];have RL:=RE.since PN;refine cA (agp (node:=21) (fl:=.zero) dQ dQ dQ) kQ PN.has ?_;rintro _ atT yl Ks ⟨cb,rfl,BB⟩ apt apu nV;obtain⟨Dc,Vc,m12,e12⟩:=(RL.since nV).IS (N:=(· =cb)) 7 ⟨λw _ A=>aI w A cb (Ho ⟨0,0,21⟩) IY/\(⟨0,0,21⟩:bX).may=true,λh _ m=>⟨h.1.mv m,h.2⟩⟩ (λk e=>by subst e;exact⟨apu k BB.1,RL.nw (ad apt BB.1.1)⟩) λ_=>⟨⟨rfl,BB.2⟩,by decide⟩;clear hs Zf;have hs:=Vc.rf;have anf:aI yl (bI Dc 1) n10.nb (Hm n10.c n10.Ek n10.vm n10.va) nT:=Vc.get 1;have hrX:=anf.mono (Vc.sub 1);repeat' refine ao ?_;intros
 refine Vc.st (o:=6) 1 anf (dV { n10 with c:= { n10.c with cb:=cb },ck:=⟨0,0,21⟩,pre:=false }) zQ kQ (ep rfl) rfl (λ_ _ _ h=>h) (λc hc w K A h=>?_) λZl X13 Dd s13 m13=>?_
 ·by_cases e:c=7
  ·subst e;exact λ_=>h
  ·rw[if_neg e] at h;exact(nO: ∀c,(c≠1/\c≠7)-> ∀w K A,(dV n10 c).p w K A->(dV { n10 with c:= { n10.c with cb:=cb },ck:=⟨0,0,21⟩,pre:=false } c).p w K A) c ⟨hc,e⟩ w K A h
 clear hs hrX;have hs:=s13.rf;repeat' refine ao ?_;intros
 obtain⟨y3,y4,y5,y6,y7,y8,y9⟩:=hy;have ho:=hI.rest.out;refine s13.t.aew λwa aK=>⟨Dd,_,s13.e,s13.h.kp s13.x aK,rfl,?_⟩;rw[aiE,k3];refine⟨hI.rest.db.trans x3,?_,hI.bl,Bu,hI.rest.ey.trans x7,hI.rest.al.trans x8,rfl,hI.rest.ds.trans x9,?_,ho.2.2.2.2.trans y9,ho.1.trans y5,ho.2.1.trans y6,ho.2.2.1.trans y7,ho.2.2.2.1.trans y8,hI.cw,by rw[<-ah];exact hI.cl,rfl,hI.rest.ex.trans y4⟩
 ·rw[<-hI.abs];rfl
 ·rw[e0,<-eK]
end
section
variable {Y : XS} {n : bh} {nb : Nat} {m : DM}
theorem V7 (h:Hu w X nb) (oa:aJ.one a=true):
  Ct pg 29 #[ptr nb 0,I gM,a] w X nX λv _ _=>v= .tuple #[.agg #[I 0,I 0,I 0],.agg #[aR,aR],I 12]:=by
 intro w0 hk;obtain⟨x0,x1,x2,x3,x5,x6,x7,x8,x9,vm,va,br⟩:=h.mv hk.cd;refine Cc.g (RP:=λ_ _=>False) (g0:=59) (cb:=[3,7,8,6]) (cv:=[]) kQ (.inl rfl) ON EA ?_;rw[Pz H7,Yk H7];refine cz ?_;have hs:=ai.init w0;repeat' refine ao ?_;intros
 exact bQ hs λwa aK=>rfl
theorem V8 {g:cD} (h:Hu w X nb) (hm:g.at w Y vk vs vw vp vr vc vh vd):
  Ct pg 25 #[ptr nb 0,I gM,g.v vk vs vw vp vr vc vh vd] w X nX λv _ _=>v=W6:=by
 intro w0 hk;obtain⟨x0,x1,x2,x3,x5,x6,x7,x8,x9,vm,va,br⟩:=h.mv hk.cd;refine Cl.g (RP:=λ_ _=>False) (g0:=51) (cb:=[3,6,7]) (cv:=[]) kQ (.inl rfl) OO EA ?_;rw[Pz H7,Yk H7];refine cz ?_;have hs:=ai.init w0;repeat' refine ao ?_;intros
 exact bQ hs λwa aK=>rfl
theorem V9 (h:Hu w X nb):Ct pg 16 #[ptr nb 0,I gM] w X nX λv _ _=>v=W6:=by
 intro w0 hk;obtain⟨x0,x1,x2,x3,x5,x6,x7,x8,x9,vm,va,br⟩:=h.mv hk.cd;refine DG.1 λhs=>?_;repeat' refine ao ?_;intros
 exact bQ hs λwa aK=>rfl
theorem Wa (h:Hu w X nb):Ct pg 13 #[ptr nb 0] w X nX λv _ _=>v=B true:=by
 intro w0 hk;obtain⟨x0,x1,x2,x3,x5,x6,x7,x8,x9,vm,va,br⟩:=h.mv hk.cd;refine DI.1 λhs=>?_;repeat' refine ao ?_;intros
 exact bQ hs λwa aK=>rfl
def ang (h:jD w own n) (hX:rO own X):aI w X n.nb (Hm n.c n.Ek n.vm n.va) nT:=(h.gJ 1 dQ dQ:aI w (bI own 1) _ _ _).mono λk (e:own k=1)=>hX k zQ
theorem Wb (h:jD w own n) (hX:rO own X):Ct pg 13 #[ptr n.nb 0] w X nX λv _ _=>v=B false:=by
 intro w0 hk;have br:=(ang h hX).mv hk.cd;refine DI.1 λhs=>?_;repeat' refine ao ?_;intros
 exact bQ hs λwa aK=>rfl
theorem Zm (h:jD w own n) (hX:rO own X):Ct pg 26 #[ptr n.nb 0] w X nX λv _ _=>v=I n.c.aN:=by
 intro w0 hk;have br:=(ang h hX).mv hk.cd;have hs:=ai.init w0;refine Ml.1 λ_=>?_;repeat' first|refine ao ?_;intros|(refine qr ?_;intro wa hk;rfl)
def DM.oJ (m:DM) (n:Int):DM:=if m.dn then m else { m with ar:=n.toNat }
theorem abJ (h:jD w own n) (hX:rO own X) (hz:z<2^63):
  Ct pg 14 #[ptr n.db 0,I z] w X (gC own) λv wa w'=>NQ dV own wa w' λ_ n'=>v= .tuple #[]/\n'= { n with m:=n.m.oJ z } :=by
 intro wa hk;have ha:=h.kp hX hk;obtain⟨FL,FD,sv,bl,hW⟩:=(ha.gJ 3 dQ dQ:Lg wa (bI own 3) n.c.lb n.db n.L n.m).lw;have cx: ∀k,FD k->k<wa.heap.size:=λk ah=>ha.lt k (by have:own k=3:=hW.hD k ah;omega);refine((RN hW.d (λk ah=>⟨cx k ah,cx k ah⟩) hz) wa (Kp.refl _ _)).mono ?_;rintro e w' ⟨v,he,hf,hv,hd⟩;have xv:Fr (bI own 3) wa w':=hf.mono hW.hD;exact⟨v,he,xv.mono λk (e:own k=3)=>⟨by omega,by omega⟩,own,_,BT.refl _ _,ha.one (F':=dV { n with m:=n.m.oJ z }) 3 xv.size (λk hk h3=>xv.block k (ha.lt k hk) h3) ⟨FL,FD,sv,bl,hW.dj,hW.hL,hW.hD,hW.l.mv λk hk hl=>⟨hk,hf.block k hl λh=>hW.dj k hk h⟩,hd⟩ nO,hv,rfl⟩
theorem abK (h:Ns w own nb db m) (hX:rO own X) (hz:z<2^63) (hd:m.dn=true):
  Ct pg 14 #[ptr db 0,I z] w X (gC own) λv wa w'=>NQ (U2 nb db) own wa w' λ_ m'=>v= .tuple #[]/\m'=m:=by
 intro wa hk;have ha:=h.kp hX hk;refine((RN (ha.gJ 3 dQ dQ:Dk wa (bI own 3) db m) (λk (e:own k=3)=>⟨ha.lt k zQ,ha.lt k zQ⟩) hz) wa (Kp.refl _ _)).mono ?_;rintro e w' ⟨v,he,hf,hv,hdk⟩;rw[if_pos hd] at hdk;exact⟨v,he,hf.mono λk (e:own k=3)=>⟨by omega,by omega⟩,own,m,BT.refl _ _,ha.one 3 hf.size (λk hk h3=>hf.block k (ha.lt k hk) h3) hdk λ_ _ _ _ _ h=>h,hv,rfl⟩
theorem _root_.Go.aJ.St.kst (s:Sn w0 bK w X own n):St w0 bK w X own (Rz n.db n.m):=s.to λc h0 h4 w K A h=>by
 rcases c with _|_|_|_|c<;>first|exact Lg.dk h|trivial
theorem _root_.Go.aJ.St.arA (s:St w0 bK w X own (U2 nb db m)):St w0 bK w X own (Rz db m):=s.to λc h0 h4 w K A h=>by
 rcases c with _|_|_|_|c<;>first|exact h|trivial
theorem _root_.Go.aJ.St.mA {vq:Value} {cG:List Int} {N:Value->World->XS->Prop} (s:St w0 bK w X own (Rz db m)) (hq:Sl w (bI own 4) 1 vq (cG.map I1)) (hn: ∀x∈m.fs,x.1.size<=2^40) (hl:m.fs.length<=2^40)
  (k: ∀w' X' aG,St w0 bK w' X' aG (Rz db (m.mA cG))->N (.tuple #[]) w' X'):eC pg R X w true 38 #[ptr db 0,vq] N:=
 zq (YC (s.get 3:Dk w (bI own 3) db m) (s.fxc 3) hq (λk (e:own k=4)=>⟨s.x k zQ,λh:own k=3=>by omega⟩) hn hl) kQ s.has (s.sub 3) λv wa w' X' ⟨hv,hd⟩ _ _ _ c=>by
  subst hv;obtain⟨aG,s',_⟩:=s.DY (F':=Rz db (m.mA cG)) 3 c (λ_ e=>e) (bI own 3) (λ_ e=>.inl e) (λ_ _=>hd) λc hc w K A h=>by rcases c with _|_|_|_|c<;>first|exact h|exact absurd rfl hc
  exact k w' X' aG s'
theorem _root_.Go.aJ.St.aky {P:Program} {f:FuncId} {args:Array Value} {N:Value->World->XS->Prop} {Q:Value->World->(Nat->Nat)->bh->Prop} {dv:Value} {QP:DM->Prop} (s:Sn w0 bK w X own n) (h:Ct P f args w X (gC own) λv wa w'=>NQ dV own wa w' (Q v w')\/(v=dv/\DQ own nb db wa w' QP)) (hf:enters P f=true)
  (k: ∀v w' X' aG n',Sn w0 bK w' X' aG n'->Q v w' aG n'->Mv (bI own 4) w (bI aG 4) w'->N v w' X') (kd: ∀w' X' aG m',St w0 bK w' X' aG (U2 nb db m')->QP m'->N dv w' X'):eC P R X w true f args N:=
 s.t.call h hf (λ_ h=>h) λv wa w' X' hq hle gu _ c=>by
  rcases hq with⟨aG,n',e,h',q⟩|⟨rfl,aG,m',e,h',q⟩
  ·exact k v w' X' aG n' (s.YX hle gu c e h').1 q (s.YX hle gu c e h').2
  ·exact kd w' X' aG m' (s.YX (dV:=U2 nb db) hle gu c e h').1 q
end
structure pI (B c n:Nat) (x:LD):Prop where
 ok:mH x.m
 ne:x.L.bC≠[]
 d1:1<=x.L.dir.size
 d2:x.L.dir.size<=11
 r1:1<=x.L.room
 r2:x.L.room<=2^40
 keys: ∀k∈x.m.ks,∃f∈x.L.bC.map (·.first),k=bP x.L.dir f
 last:x.L.fe∈x.m.ks
 pw:(x.L.bC.map (·.first)).Pairwise (· < ·)
 emp:x.L.last.aY=[]->x.L.last.size=0
 pos: ∀s∈x.L.bC,1<=s.first/\s.first<=1+c/\s.first+s.aY.length<=1+c/\s.size<=B*c
 Fa:x.L.next=1+c
 sz:x.m.sz<=B*c
 len:x.L.bC.length<=n
 ey:x.m.ks.length<=64
variable {c n : Nat}
theorem pI.LV {B:Nat} (h:pI B c n x) (hb:B*c<=2^30) (hc:c<=2^30):pG x.L:=
 ⟨h.ne,h.d1,h.d2,λs hs=>by have:=h.pos s hs;omega,h.r2⟩
structure Alike (x y:LD):Prop where
 bC:y.L.bC=x.L.bC
 dir:y.L.dir=x.L.dir
 room:y.L.room=x.L.room
 ks:y.m.ks=x.m.ks
 sz:y.m.sz=x.m.sz
 ok:mH y.m
theorem Alike.refl (h:mH x.m):Alike x x:=⟨rfl,rfl,rfl,rfl,rfl,h⟩
variable {y : LD}
theorem Alike.trans {z:LD} (h:Alike x y) (k:Alike y z):Alike x z:=⟨k.bC.trans h.bC,k.dir.trans h.dir,k.room.trans h.room,k.ks.trans h.ks,k.sz.trans h.sz,k.ok⟩
theorem Alike.last (h:Alike x y):y.L.last=x.L.last:=by unfold LM.last;rw[h.bC]
theorem Alike.fe (h:Alike x y):y.L.fe=x.L.fe:=by unfold LM.fe;rw[h.last,h.dir]
theorem Alike.next (h:Alike x y):y.L.next=x.L.next:=by unfold LM.next;rw[h.last]
theorem Alike.inv {B:Nat} (h:Alike x y) (k:pI B c n x):pI B c n y:=by
 refine⟨h.ok,by rw[h.bC];exact k.ne,by rw[h.dir];exact k.d1,by rw[h.dir];exact k.d2,by rw[h.room];exact k.r1,by rw[h.room];exact k.r2,?_,?_,by rw[h.bC];exact k.pw,?_,?_,?_,?_,?_,by rw[h.ks];exact k.ey⟩
 ·rw[h.ks,h.bC,h.dir];exact k.keys
 ·rw[h.ks,h.fe];exact k.last
 ·rw[h.last];exact k.emp
 ·rw[h.bC];exact k.pos
 ·rw[h.next];exact k.Fa
 ·rw[h.sz];exact k.sz
 ·rw[h.bC];exact k.len
theorem pI.sync {B:Nat} (h:pI B c n x):x.sync.2=0/\Alike x x.sync.1:=by
 obtain⟨h1,h2,h3,h4⟩:=h.ok.sync h.last;unfold LD.sync;dsimp only;rw[if_pos h1];exact⟨h1,⟨rfl,rfl,rfl,h3,h4,h2⟩⟩
def Full (x:LD):Prop:=64<=x.m.ks.length/\x.L.room<=x.L.last.size
theorem Alike.full (h:Alike x y) (k:Full x):Full y:=by unfold Full;rw[h.ks,h.room,h.last];exact k
variable {f : Nat}
theorem pI.le_last {B:Nat} (h:pI B c n x) (hf:f∈x.L.bC.map (·.first)):f<=x.L.last.first:=by
 have h1:=h.pw;rw[LM.Ts h.ne,az] at h1 hf;obtain⟨_,_,h2⟩:=List.pairwise_append.1 h1;rcases List.mem_append.1 hf with hf|hf
 ·exact Nat.le_of_lt (h2 f hf _ sQ)
 ·simp at hf;omega
theorem pI.le_next {B:Nat} (h:pI B c n x) (hf:f∈x.L.bC.map (·.first)):f<=1+c:=by
 obtain⟨s,hs,rfl⟩:=List.mem_map.1 hf;exact(h.pos s hs).2.1
theorem pI.iJ {B:Nat} (h:pI B c n x) (hr:x.L.last.aY≠[]) (qt:c+2<99999999):
  (64<=x.m.ks.length/\x.iJ x.L.next=(x,3))\/(x.m.ks.length<64/\(x.iJ x.L.next).2=0/\pI B c (n+1) (x.iJ x.L.next).1):=by
 have hl:1<=x.L.last.aY.length:=by
  cases hq:x.L.last.aY with
  |nil=>grind
  |cons a b=>simp
 have nD:=h.Fa;have Hx: ¬bP x.L.dir x.L.next∈x.m.ks:=λhk=>by
  obtain⟨f,hf,e⟩:=h.keys _ hk;have h1:=h.le_last hf;have h2:=h.le_next hf;have:=LY zQ zQ e;unfold LM.next at this;omega
 have xi:wA (bP x.L.dir x.L.next)=true:=by
  have:=h.d1;have:=h.d2;simp only[wA,BM,decide_eq_true_eq];omega
 rw[x.m.wz];rcases h.ok.create xi Hx with⟨h1,h2⟩|⟨h1,h2,h3,h4,h5⟩
 ·left;refine⟨h1,?_⟩;unfold LD.iJ;rw[h2];rfl
 ·right;refine⟨h1,?_⟩;have W9:(⟨x.L.dir,x.L.room,x.L.bC++[⟨x.L.next,[],0⟩],x.L.safe⟩:LM).last=⟨x.L.next,[],0⟩:=by simp[LM.last]
  unfold LD.iJ;dsimp only;rw[if_pos h2];refine⟨h2,⟨h3,by simp,h.d1,h.d2,h.r1,h.r2,?_,?_,?_,?_,?_,?_,?_,?_,by dsimp only;rw[h4,aa,x.m.wz];simp;omega⟩⟩
  ·rw[h4];intro k hk;rcases List.mem_append.1 hk with hk|hk
   ·obtain⟨f,hf,e⟩:=h.keys k hk
    grind
   ·simp at hk;exact⟨x.L.next,by simp,hk⟩
  ·grind [LM.fe]
  ·rw[az];refine List.pairwise_append.2 ⟨h.pw,by simp,λa ha b hb=>?_⟩;simp at hb;subst hb;have:=h.le_last ha;unfold LM.next;omega
  ·grind
  ·intro s hs;rcases List.mem_append.1 hs with hs|hs
   ·exact h.pos s hs
   simp_all
  ·show(⟨x.L.dir,x.L.room,x.L.bC++[⟨x.L.next,[],0⟩],x.L.safe⟩:LM).last.first+(⟨x.L.dir,x.L.room,x.L.bC++[⟨x.L.next,[],0⟩],x.L.safe⟩:LM).last.aY.length=1+c
   grind
  ·rw[h5];exact h.sz
  ·simp;exact h.len
variable {p : List Nat}
theorem pI.lay {B:Nat} (h:pI B c n x) (hp:p.length+12<=B) (hc:B*(c+1)<=4194304):(x.lay p).2=0/\pI B (c+1) n (x.lay p).1:=by
 have hB:B*(c+1)=B*c+B:=Nat.mul_succ B c;have iT:(di p).length=p.length+12:=by simp[di,uA]
 have gf:=h.sz;obtain⟨h1,h2,h3,h4⟩:=h.ok.append (b:=di p) h.last zQ;have hlm:=LM.yd h.ne;have hle:=LM.Ts h.ne;obtain⟨p1,p2,p3,p4⟩:=h.pos _ hlm;have W9:(x.L.add p).last=⟨x.L.last.first,x.L.last.aY++[p],x.L.last.size+(di p).length⟩:=by simp[LM.last,LM.add]
 have Vd:(x.L.add p).bC.map (·.first)=x.L.bC.map (·.first):=by
  conv=>rhs;rw[hle]
  simp[LM.add]
 unfold LD.lay;dsimp only;rw[if_pos h1];refine⟨h1,⟨h2,by simp[LM.add],h.d1,h.d2,h.r1,h.r2,?_,?_,?_,?_,?_,?_,?_,?_,by dsimp only;rw[h3];exact h.ey⟩⟩
 ·dsimp only;rw[h3,Vd];exact h.keys
 ·dsimp only;rw[h3];unfold LM.fe;rw[W9];exact h.last
 ·dsimp only;rw[Vd];exact h.pw
 ·dsimp only;rw[W9];intro e;simp at e
 ·dsimp only;intro s hs;rcases List.mem_append.1 hs with hs|hs
  ·have:=h.pos s gQ;omega
  ·simp only[av] at hs;subst hs;simp only[aa,aM,bF,iT];omega
 ·have:=h.Fa;dsimp only;unfold LM.next at this⊢;rw[W9];simp;omega
 ·dsimp only;omega
 ·have:=h.len;rw[hle] at this;simpa [LM.add] using this
def pI.more {B n':Nat} (h:pI B c n x) (hn:n<=n'):pI B c n' x:= { h with len:=ad h.len hn }
theorem pI.aY {B:Nat} (h:pI B c n x) (hr:x.L.room<=x.L.last.size):x.L.last.aY≠[]:=λe=>by
 have:=h.emp e;have:=h.r1;omega
theorem pI.append {B:Nat} (h:pI B c n x) (hp:p.length+12<=B) (hB:B<=262144) (hc:B*(c+1)<=4194304) (qt:c+2<99999999):
  ((x.append p).2.2=0/\(x.append p).2.1=1+c/\pI B (c+1) (n+1) (x.append p).1)\/((x.append p).2.2=3/\Full x/\Alike x (x.append p).1):=by
 have nD:=h.Fa;unfold LD.append;rw[if_neg zQ,if_neg zQ];dsimp only;unfold LD.room;by_cases hr:x.L.room<=x.L.last.size
 ·rw[if_pos hr];obtain⟨h1,h2⟩:=h.sync;dsimp only;rw[if_neg (show¬x.sync.2≠0 from by omega)];have hi:=h2.inv h;rw[<-h2.next];rcases hi.iJ (hi.aY (by rw[h2.room,h2.last];exact hr)) qt with⟨g1,g2⟩|⟨g1,g2,g3⟩
  ·right;rw[g2];dsimp only;rw[if_pos sQ];exact⟨rfl,⟨by rw[<-h2.ks];exact g1,hr⟩,h2⟩
  ·left;rw[if_neg zQ];obtain⟨k1,k2⟩:=g3.lay hp hc;rw[if_neg zQ];exact⟨rfl,by rw[h2.next];omega,k2⟩
 ·left;rw[if_neg hr];dsimp only;rw[if_neg sQ];obtain⟨k1,k2⟩:=h.lay hp hc;rw[if_neg zQ];exact⟨rfl,nD,k2.more zQ⟩
theorem pI.full {B:Nat} (h:pI B c n x) (hf:Full x) (hp:p.length<=262144) (qt:c+2<99999999):(x.append p).2.2=3/\Alike x (x.append p).1:=by
 have nD:=h.Fa;unfold LD.append;rw[if_neg zQ,if_neg zQ];dsimp only;unfold LD.room;rw[if_pos hf.2];obtain⟨h1,h2⟩:=h.sync;dsimp only;rw[if_neg (show¬x.sync.2≠0 from by omega)];have hi:=h2.inv h;rw[<-h2.next];rcases hi.iJ (hi.aY (by rw[h2.room,h2.last];exact hf.2)) qt with⟨g1,g2⟩|⟨g1,g2,g3⟩
 ·grind
 ·have:=hf.1;rw[h2.ks] at g1;omega
theorem mH.agq {m:DM} (h:mH m) {e:Nat} (he:e≠12) {f:DM->DM} (hf: ∀m,mH m->mH (f m)):(m.write e f).2≠12/\mH (m.write e f).1:=by
 by_cases h0:e=0
 ·subst h0;rw[h.write];exact⟨by simp,hf _ h.tick⟩
 ·rw[h.agb h0];grind
theorem mH.alc {m:DM} (h:mH m) (n:ByteArray):(m.create n).2≠12/\mH (m.create n).1:=by
 unfold DM.create;refine h.agq ?_ λm hm=>⟨hm.ar,hm.dn⟩
 grind
theorem mH.apv {m:DM} (h:mH m) (n:ByteArray):(m.sync n).2≠12/\mH (m.sync n).1:=by
 unfold DM.sync;refine h.agq gQ λm hm=>?_;unfold DM.kr;split
 ·exact hm
 ·exact⟨hm.ar,hm.dn⟩
theorem mH.ald {m:DM} (h:mH m) (n:ByteArray) (b:List Nat):(m.append n b).2≠12/\mH (m.append n b).1:=by
 unfold DM.append;rw[if_neg (by rw[h.dn];simp)];split
 ·grind
 ·split
  ·exact⟨by simp,h⟩
  ·refine⟨?_,⟨h.tick.ar,h.tick.dn⟩⟩;dsimp only;rw[if_neg (by rw[h.tick.dn];simp)]
   decide
structure GL (n:Nat) (x:LD):Prop where
 ok:mH x.m
 ne:x.L.bC≠[]
 d1:1<=x.L.dir.size
 d2:x.L.dir.size<=11
 zj: ∀s∈x.L.bC,s.first+s.aY.length<=n/\s.size<=n*300000
 room:x.L.room<=2^40
 len:x.L.bC.length<=n
theorem GL.up {n':Nat} (h:GL n x) (hn:n<=n'):GL n' x:=
 ⟨h.ok,h.ne,h.d1,h.d2,λs hs=>by have:=h.zj s hs;omega,h.room,ad h.len hn⟩
theorem GL.LV (h:GL n x) (hn:n<=1000):pG x.L:=
 ⟨h.ne,h.d1,h.d2,λs hs=>by have:=h.zj s hs;omega,h.room⟩
theorem GL.sync (h:GL n x):x.sync.2≠12/\GL n x.sync.1:=by
 obtain⟨h1,h2⟩:=h.ok.apv x.L.fe;unfold LD.sync;dsimp only;refine⟨h1,?_⟩;split
 ·exact⟨h2,h.ne,h.d1,h.d2,h.zj,h.room,h.len⟩
 ·exact⟨h2,h.ne,h.d1,h.d2,h.zj,h.room,h.len⟩
theorem GL.iJ (h:GL n x):(x.iJ x.L.next).2≠12/\GL (n+1) (x.iJ x.L.next).1:=by
 obtain⟨h1,h2⟩:=h.ok.alc (bP x.L.dir x.L.next);have hu:=h.up (n':=n+1) zQ;unfold LD.iJ;dsimp only;refine⟨h1,?_⟩;split
 ·refine⟨h2,by simp,h.d1,h.d2,λs hs=>?_,h.room,by simp;exact h.len⟩;rcases List.mem_append.1 hs with hs|hs
  ·exact hu.zj s hs
  ·simp only[av] at hs;subst hs;have:=(h.zj _ (LM.yd h.ne)).1;have e:x.L.next=x.L.last.first+x.L.last.aY.length:=rfl
   grind
 ·exact⟨h2,hu.ne,hu.d1,hu.d2,hu.zj,hu.room,hu.len⟩
theorem GL.aeh (h:GL n x):x.room.2≠12/\GL (n+1) x.room.1:=by
 unfold LD.room;split
 ·dsimp only;obtain⟨h1,h2⟩:=h.sync;split
  ·exact⟨h1,h2.up zQ⟩
  ·have e:x.sync.1.L.next=x.L.next:=by unfold LM.next LM.last;rw[LD.Ve]
   rw[<-e];exact h2.iJ
 ·exact⟨by simp,h.up zQ⟩
theorem GL.lay (h:GL n x) (hp:p.length<=262144):(x.lay p).2≠12/\GL (n+1) (x.lay p).1:=by
 obtain⟨h1,h2⟩:=h.ok.ald x.L.fe (di p);have hu:=h.up (n':=n+1) zQ;have iT:=qU p;unfold LD.lay;dsimp only;refine⟨h1,?_⟩;split
 ·have hle:=LM.Ts h.ne;have hlm:=h.zj _ (LM.yd h.ne);refine⟨h2,by simp[LM.add],h.d1,h.d2,λs hs=>?_,h.room,?_⟩
  ·rcases List.mem_append.1 hs with hs|hs
   ·exact hu.zj s gQ
   ·simp only[av] at hs;subst hs;simp only[aa,aM,bF];omega
  ·have:=hu.len;rw[hle] at this;simp only[LM.add,aa,aM,bF] at this⊢;omega
 ·exact⟨h2,hu.ne,hu.d1,hu.d2,hu.zj,hu.room,hu.len⟩
theorem GL.append (h:GL n x) (p:List Nat):(x.append p).2.2≠12/\GL (n+2) (x.append p).1:=by
 unfold LD.append;split
 ·exact⟨by simp,h.up zQ⟩
 ·split
  ·exact⟨by simp,h.up zQ⟩
  ·obtain⟨h1,h2⟩:=h.aeh;dsimp only;split
   ·exact⟨h1,h2.up zQ⟩
   ·obtain⟨h3,h4⟩:=h2.lay (p:=p) zQ
    grind
theorem GL.iI (h:GL n x) (p:List Nat):(x.iI 0 p).2.2≠12/\GL (n+2) (x.iI 0 p).1:=by
 obtain⟨h1,h2⟩:=h.append p;unfold LD.iI;rw[if_neg sQ];dsimp only;split
 ·grind
 ·exact h2.sync
structure sA (k:Nat) (l:List dN) (s1:jo):Prop where
 fst:oI l=some 1
 rs: ∃rs,fE l=rs.map gd/\(∀r∈rs,Va r)/\rs.length<=k/\yk (0,[]) rs=some s1
 full: ∀t∈l.dropLast,4096<=t.size
def xw (k:Nat) (P:jo->Prop) (m:DM):Prop:=YS oX (λl=> ∃s1,P s1/\sA k l s1) m
def wO (x:LD) (k:Nat) (s1:jo):Prop:= ∃pre sg,oP x pre sg/\sA k (pre++[sg]) s1/\x.L.dir=oX/\x.L.room=4096
variable {k' : Nat}
theorem sA.up {l:List dN} (h:sA k l s1) (hk:k<=k'):sA k' l s1:=
 ⟨h.fst,let⟨rs,a,b,c,d⟩:=h.rs;⟨rs,a,b,by omega,d⟩,h.full⟩
variable {P : jo -> Prop}
def xw.imp {P':jo->Prop} {m:DM} (h:xw k P m) (hk:k<=k') (hp: ∀s,P s->P' s):xw k' P' m:=
 YS.imp h λ_ _ ⟨s1,a,b⟩=>⟨s1,hp _ a,b.up hk⟩
theorem wO.crs (h:wO x k s1):xw k (· =s1) x.m:=by
 obtain⟨pre,sg,h1,h2,h3,h4⟩:=h;have hd:=h1.d;rw[h3] at hd;exact(YT hd h1.g h1.fl).imp λl s e=>by grind
def wO.up (h:wO x k s1) (hk:k<=k'):wO x k' s1:=let⟨pre,sg,h1,h2,h3,h4⟩:=h;⟨pre,sg,h1,h2.up hk,h3,h4⟩
variable {l' : List dN}
theorem sA.snoc {l:List dN} (h:sA k l s1) (hr:Va r) (hs:sK s1 r=some s2) (e1:oI l'=oI l) (e2:fE l'=fE l++[gd r]) (hf: ∀t∈l'.dropLast,4096<=t.size):sA (k+1) l' s2:=by
 obtain⟨rs,a,b,c,d⟩:=h.rs;refine⟨e1.trans h.fst,⟨rs++[r],by grind,λq hq=>?_,by simp;omega,agm d hs⟩,hf⟩
 grind
theorem sA.same {l:List dN} (h:sA k l s1) (e1:oI l'=oI l) (e2:fE l'=fE l) (hf: ∀t∈l'.dropLast,4096<=t.size):sA k l' s1:=
 let⟨rs,a,b,c,d⟩:=h.rs
 ⟨e1.trans h.fst,⟨rs,e2.trans a,b,c,d⟩,hf⟩
theorem DM.apw {m:DM} (hn:m.ks.Nodup):m.sz=(m.ks.map λk=>(m.bytes k).length).sum:=by
 unfold DM.sz ux DM.ks;rw[bw];refine congrArg List.sum (dp λx hx=>?_);have e:m.get x.1=some x.2:=wH hn hx
 grind [DM.bytes]
variable {sf : Nat} {lF : List Nat} {dir : ByteArray}
theorem pd.sz {m:DM} (h:pd dir pre s lF sf m):m.sz=(pre.map λt=>(flat t.aY).length).sum+(flat s.aY++lF).length:=by
 rw[DM.apw h.nd,(h.ks.map _).sum_nat,bw,az,Cj];have e1:pre.map ((λk=>(m.bytes k).length)∘λs=>bP dir s.first)=pre.map λt=>(flat t.aY).length:=dp λt ht=>by
  show(m.bytes (bP dir t.first)).length=_
  rw[vN (h.body t ht)]
 rw[e1];simp only[aZ,lh,Function.comp,List.sum_cons,List.sum_nil,Nat.add_zero];rw[vN h.last]
theorem acH: ∀{l:List (List Nat)},(∀p∈l,p.length<=900)->(flat l).length<=912*l.length
 |[],_=>by simp[flat]
 |p::l,h=>by
  have h1:=acH (l:=l) λq hq=>h q (bS _ hq);have h2:=h p sQ;have h3:=qU p;have e:flat (p::l)=di p++flat l:=by simp[flat]
  grind
theorem Zn: ∀{l:List dN},(∀p∈fE l,p.length<=900)->(l.map λt=>(flat t.aY).length).sum<=912*(fE l).length
 |[],_=>by grind
 |t::l,h=>by
  have e:fE (t::l)=t.aY++fE l:=by simp[fE]
  rw[e] at h⊢;have h1:=Zn (l:=l) λq hq=>h q (List.mem_append_right _ hq);have h2:=acH (l:=t.aY) λq hq=>h q (List.mem_append_left _ hq)
  grind
theorem acI: ∀{l:List dN},(∀t∈l,4096<=(flat t.aY).length)->4096*l.length<=(l.map λt=>(flat t.aY).length).sum
 |[],_=>by simp
 |t::l,h=>by
  have h1:=acI (l:=l) λq hq=>h q (bS _ hq)
  grind
theorem sA.lens {l:List dN} (h:sA k l s1):(∀p∈fE l,p.length<=900)/\(fE l).length<=k:=by
 obtain⟨rs,a,b,c,d⟩:=h.rs;rw[a];refine⟨λp hp=>?_,by grind⟩;obtain⟨r,hr,rfl⟩:=List.mem_map.1 hp;exact(b r hr).len
theorem sA.size {m:DM} (h:sA k (pre++[s]) s1) (hg:Good (pre++[s])) (hd:pd dir pre s lF sf m):m.sz<=912*k+lF.length/\4096*pre.length<=912*k/\m.fs.length=pre.length+1:=by
 obtain⟨h1,h2⟩:=h.lens;have h3:=Zn h1;have h4:=hd.sz;have hf: ∀t∈pre,4096<=(flat t.aY).length:=λt ht=>by
  have:=h.full t gQ
  rwa [(hg.ok t (by simp[ht])).sz] at this
 have h5:=acI hf;rw[az,Cj] at h3;simp only[aZ,lh,List.sum_cons,List.sum_nil,Nat.add_zero] at h3;rw[aa] at h4;have h6:=hd.ks.length_eq;rw[DM.wz,af,aa,List.length_singleton] at h6;exact⟨by omega,by omega,h6⟩
theorem sA.next (h:sA k (pre++[s]) s1) (hg:Good (pre++[s])):s.first+s.aY.length<=1+k:=by
 have:=gD.count hg.lk h.fst;have:=h.lens.2;omega
theorem wO.iI (h:wO x k s1) (hr:Va r) (hs:sK s1 r=some s2) (hk:k<=200):
  ((x.iI 0 (gd r)).2.2=12/\(x.iI 0 (gd r)).1.m.dn=true/\xw (k+1) (λs=>s=s1\/s=s2) (x.iI 0 (gd r)).1.m)\/
  ((x.iI 0 (gd r)).2.2=0/\wO (x.iI 0 (gd r)).1 (k+1) s2):=by
 obtain⟨pre,sg,h1,h2,h3,h4⟩:=h;have iT: ∀t∈pre,4096<=t.size:=by have:=h2.full;rwa [jJ] at this
 rcases h1.iI (by have:=hr.len;omega) hr.isb with⟨e,hf⟩|⟨e,dg,oW,s',hk,hrr,hsh⟩|⟨e1,e2,⟨oW,s',hk,hrr⟩,hw⟩
 ·left;rw[h3] at hf;refine⟨e,hf.1,hf.2.imp λl s ⟨q1,q2,q3⟩=>?_⟩;have q3:=q3 gQ;rcases q2 with q2|q2
  ·exact⟨s1,.inl rfl,(h2.same q1 q2 (by rw[h4] at q3;exact q3)).up (cZ _)⟩
  ·exact⟨s2,.inr rfl,h2.snoc hr hs q1 q2 (by rw[h4] at q3;exact q3)⟩
 ·right;refine⟨e,oW,s',hk.up,h2.snoc hr hs hk.fst hrr ?_,hk.dir.trans h3,hk.room.trans h4⟩;rw[jJ];rcases hsh with⟨rfl,_,_⟩|⟨rfl,_,q⟩
  ·omega
  grind
 ·exfalso;obtain⟨q1,q2,q3⟩:=h2.size h1.g h1.d;have q4:=h2.next h1.g
  have q5:=h1.next
  have q6:=hr.len;have q7:=qU (gd r);simp only[bF] at q1;rcases hw with hw|hw|hw<;>omega
theorem Zo: ∀(k u:Nat),u<=k->xt (qh u)
 |0,u,h=>by
  have:u=0:=by omega
  subst this;intro x hx;unfold qh at hx;simp at hx;omega
 |k+1,u,h=>by
  intro x hx;unfold qh at hx;split at hx
  ·simp at hx;omega
  ·rcases List.mem_cons.1 hx with rfl|hx
   ·omega
   ·exact Zo k (u/128) zQ x hx
theorem ym (n:Int):xt (encI n):=Zo _ _ (au _)
theorem gD.top: ∀{l:List dN} {f:Nat},gD l->oI l=some f-> ∀t∈l,t.first+t.aY.length<=f+(fE l).length
 |[],_,_,h,_,_=>by cases h
 |[a],f,_,hf,t,ht=>by
  have h2:a.first=f:=bV hf
  rw[av] at ht;grind [fE]
 |a::b::l,f,h,hf,t,ht=>by
  have h1:b.first=a.first+a.aY.length:=h.1
  have h2:a.first=f:=bV hf
  have e:fE (a::b::l)=a.aY++fE (b::l):=by simp[fE]
  rw[e,aa];rcases List.mem_cons.1 ht with rfl|ht
  ·omega
  ·have:=gD.top (l:=b::l) (f:=b.first) h.2.2 rfl t ht;omega
theorem Zp {n:Int} (h1:1<=n) (h2:n<=2^40):Va (l8 n)/\(l8 n).fF=0:=by
 have e1:=fy 8;have e2:=fy n;have e4:(l8 n).err=0:=by
  simp[Rec.err,l8,Rec.strip,Rec.isZero,Rec.ql,State.isZero,State.zero,h1]
 have e5:(gd (l8 n)).length<=900:=by rw[RH,aa];omega
 refine⟨⟨.yj n (by unfold vy;omega),e4,e5,λb hb=>?_,by simp[l8]⟩,?_⟩
 ·rw[RH] at hb;rcases List.mem_append.1 hb with hb|hb
  ·exact ym _ b hb
  ·exact ym _ b hb
 ·unfold Rec.fF;omega
theorem Vf: ∀{l:List Rec} {s s':jo},yk s l=some s'->s.1<=s'.1/\s'.1<=s.1+l.length
 |[],s,s',h=>by
  obtain rfl:=bV h;simp
 |r::l,s,s',h=>by
  obtain⟨x,h1,h2⟩:=Option.bind_eq_some_iff.1 (show(sK s r).bind (λs'=>yk s' l)=some s' from h);have h3:=Zj h1;have h4:=Vf h2
  grind
theorem Zq (s:jo):sK s (l8 (s.1+1))=some (s.1+1,s.2):=by
 unfold sK;rw[if_pos (show(l8 (s.1+1)).kind=8 from rfl),if_pos (show(l8 (s.1+1)).n=s.1+1 from rfl)]
structure aey (m:DM) (k:Nat) (s1:jo) (x:LD) (pre:List dN) (sg:dN) (rs:List Rec):Prop where
 Ch:LD.Ch oX 4096 m=(x,0)
 log:Mk x pre sg rs
 len:rs.length<=k
 sK:yk (0,[]) rs=some s1
 aN:0<=s1.1/\s1.1<=k
 err:(l8 (s1.1+1)).fF=0
 kp:(x.iI 0 (gd (l8 (s1.1+1)))).2.2=0
 up:wO (x.iI 0 (gd (l8 (s1.1+1)))).1 (k+1) (s1.1+1,s1.2)
theorem yj {m:DM} (h:xw k P m) (hk:k<=200) (cG:List Int) (gf:(m.mA cG).sz<=4194304): ∃s1 x pre sg rs,P s1/\aey (m.mA cG) k s1 x pre sg rs:=by
 obtain⟨pre,s,lF,sf,⟨s1,hP,hr⟩,hg,ht,UR,hd⟩:=h.2 cG;have h0:(m.mA cG).ar=0:=rfl;have jQ:(m.mA cG).dn=false:=rfl;obtain⟨m',e,h1,h2,h3⟩:=amS (room:=4096) hd hg ht h0 jQ;obtain⟨q1,q2,q3⟩:=hr.size hg h1;simp only[bF] at q1;have gq:oP ⟨⟨oX,4096,pre++[s],(s.first+s.aY.length:Nat)-1⟩,m'⟩ pre s:=
  ⟨rfl,hg,h1,h3,by grind,by grind,(show 1<=oX.size from by decide),(show oX.size<=11 from by decide),(show 64<=4096 from by decide),(show 4096<=262144 from by decide)⟩
 have hlu:wO ⟨⟨oX,4096,pre++[s],(s.first+s.aY.length:Nat)-1⟩,m'⟩ k s1:=⟨pre,s,gq,hr,rfl,rfl⟩;obtain⟨rs,a,b,c,d⟩:=hr.rs;have hl:=Vf d;have Dv:0<=s1.1/\s1.1<=k:=by have:(0:Int)<=s1.1:=hl.1;have:s1.1<=(0:Int)+rs.length:=hl.2;omega
 obtain⟨cg,ce⟩:=Zp (n:=s1.1+1) zQ zQ;have gY:GL 300 ⟨⟨oX,4096,pre++[s],(s.first+s.aY.length:Nat)-1⟩,m'⟩:=by
  have hB:=gq.aei;have hN:=gq.aej;refine⟨⟨h2,h3⟩,by simp,gq.d1,gq.d2,λt ht=>⟨?_,?_⟩,(show(4096:Nat)<=2^40 from by decide),by omega⟩
  ·have:=gD.top hg.lk hr.fst t ht;have:=hr.lens.2;omega
  ·have:=(hB t ht).2;omega
 have Em:(LD.iI ⟨⟨oX,4096,pre++[s],(s.first+s.aY.length:Nat)-1⟩,m'⟩ 0 (gd (l8 (s1.1+1)))).2.2=0/\wO (LD.iI ⟨⟨oX,4096,pre++[s],(s.first+s.aY.length:Nat)-1⟩,m'⟩ 0 (gd (l8 (s1.1+1)))).1 (k+1) (s1.1+1,s1.2):=by
  rcases hlu.iI cg (Zq s1) hk with⟨e,_⟩|h
  ·exact absurd e (gY.iI _).1
  ·exact h
 refine⟨s1,_,pre,s,rs,hP,e,⟨gq,hr.fst,a,b,by omega⟩,c,d,Dv,ce,Em.1,Em.2⟩
theorem akz: ∃x,aey ⟨[],0,0,false⟩ 0 (0,[]) x [] ⟨1,[],0⟩ []/\mH (x.iI 0 (gd (l8 (0+1)))).1.m:=by
 obtain⟨nm,xi⟩: ∃nm,nm=bP oX 1:=⟨_,rfl⟩;have gf:nm.size=12:=by rw[xi,BM];rfl
 have kz:wA nm=true:=by unfold wA;rw[gf];decide
 obtain⟨m1,qy⟩: ∃m1:DM,m1=((⟨[],0,0,false⟩:DM).tick.put nm [] 0):=⟨_,rfl⟩;have ht:(⟨[],0,0,false⟩:DM).tick.dn=false/\(⟨[],0,0,false⟩:DM).tick.ar=0/\(⟨[],0,0,false⟩:DM).tick.fs=[]:=by
  unfold DM.tick;rw[if_neg dQ];exact⟨rfl,rfl,rfl⟩
 have Ko:DM.create ⟨[],0,0,false⟩ nm=(m1,0):=by
  unfold DM.create DM.write;have e:(if¬wA nm=true then 10 else if((⟨[],0,0,false⟩:DM).get nm).isSome then 9 else if 64<=(⟨[],0,0,false⟩:DM).fs.length then 3 else 0)=0:=by
   rw[if_neg gQ];rfl
  rw[e,if_neg dQ,if_neg dQ,if_neg gQ,qy]
 have GH:m1.fs=[(nm,([],0))]:=by
  rw[qy]
  show cI nm ([],0) (⟨[],0,0,false⟩:DM).tick.fs=_
  rw[ht.2.2];rfl
 have hd1:m1.dn=false:=by rw[qy];exact ht.1
 have rT:m1.ar=0:=by rw[qy];exact ht.2.1
 have Zr:m1.get nm=some ([],0):=by unfold DM.get;rw[GH];simp[getM]
 have hO:LD.Ch oX 4096 ⟨[],0,0,false⟩=(⟨⟨oX,4096,[⟨1,[],0⟩],0⟩,m1⟩,0):=by
  unfold LD.Ch;rw[if_neg dQ];have e:fQ ((⟨[],0,0,false⟩:DM).fs.map (·.1))=[]:=by simp[fQ]
  rw[e];dsimp only;have e2:LD.pj ⟨L0 oX 4096,⟨[],0,0,false⟩⟩ []=(⟨L0 oX 4096,⟨[],0,0,false⟩⟩,0):=by unfold LD.pj;rfl
  rw[e2,if_neg sQ,if_pos (show(L0 oX 4096).bC=[] from rfl)];unfold LD.iJ;dsimp only;have e3:(L0 oX 4096).dir=oX:=rfl;rw[e3,<-xi,Ko];rfl
 have hgd:Good ([]++[(⟨1,[],0⟩:dN)]):=⟨trivial,λs hs=>by
  rw[List.nil_append,av] at hs;subst hs;exact⟨au _,⟨by decide,by decide⟩,by rfl,λp hp=>absurd hp sQ⟩⟩
 have hon:pd oX [] ⟨1,[],0⟩ [] (flat []).length m1:=⟨by unfold DM.ks;rw[GH];simp,by unfold DM.ks;rw[GH,xi];simp,λt ht=>absurd ht sQ,by
  show m1.get (bP oX 1)=_
  rw[<-xi,Zr];rfl,au _⟩
 have hz:m1.sz=0:=by unfold DM.sz ux;rw[GH];simp
 have gq:oP ⟨⟨oX,4096,[⟨1,[],0⟩],0⟩,m1⟩ [] ⟨1,[],0⟩:=
  ⟨rfl,hgd,hon,hd1,by grind,by grind,(show 1<=oX.size from by decide),(show oX.size<=11 from by decide),(show 64<=4096 from by decide),(show 4096<=262144 from by decide)⟩
 have hr:sA 0 ([]++[(⟨1,[],0⟩:dN)]) (0,[]):=⟨rfl,⟨[],rfl,λr hr=>absurd hr sQ,au _,rfl⟩,λt ht=>absurd ht sQ⟩;obtain⟨cg,ce⟩:=Zp (n:=1) zQ zQ;have gY:GL 300 ⟨⟨oX,4096,[⟨1,[],0⟩],0⟩,m1⟩:=⟨⟨rT,hd1⟩,by simp,gq.d1,gq.d2,λt ht=>by simp_all,(show(4096:Nat)<=2^40 from by decide),by simp⟩;have hlu:wO ⟨⟨oX,4096,[⟨1,[],0⟩],0⟩,m1⟩ 0 (0,[]):=⟨[],⟨1,[],0⟩,gq,hr,rfl,rfl⟩;have Em:=(hlu.iI cg (Zq (0,[])) zQ).resolve_left λe=>absurd e.1 (gY.iI _).1;exact⟨_,⟨hO,⟨gq,rfl,rfl,λr hr=>absurd hr sQ,by simp⟩,au _,rfl,⟨gP _,gP _⟩,ce,Em.1,Em.2⟩,(gY.iI _).2.ok⟩
def Ao (s:jo):Prop:= ∀x∈s.2,x.1.aH.dU=1/\1<=x.1.aH.aN/\x.1.aH.aN<=s.1/\1<=x.1.aH.sq/\x.1.aH.sq<=2^40
structure aiF (n:bh) (t:bu):Prop where
 co:t.dU=1
 aN:t.aN=n.c.aN
 sq:1<=t.sq/\t.sq<=n.c.ey
 bl:getM t n.bl=none
structure fL (k N:Nat) (n:bh):Prop where
 ok:tp N k n
 bl:Mj n
 log:wO ⟨n.L,n.m⟩ k n.abs
 ey:0<=n.c.ey/\n.c.ey<=k
 aN:1<=n.c.aN/\n.c.aN<=k
 act: ∀t b,getM t n.al=some b->aiF n t
 abs:Ao n.abs
 BP: ∀x∈n.abs.2,x.1.aH.aN=n.c.aN->x.1.aH.sq<=n.c.ey
def vO (n:bh):Prop:= ∀t b,getM t n.al=some b->(n.A b).x.aH=t
theorem cD.Dp.asked {x:AcV} (h:m.Dp):(m.asked x).Dp:=by
 obtain⟨a,b,c,d⟩:=h;exact⟨a,b,c,d⟩
variable {N' : Nat}
def sx.up {d:pD} (h:sx N d) (hN:N<=N'):sx N' d:=⟨h.q,h.p,ad h.sn hN,h.ws,h.ids,h.Dp,h.lp,h.pq⟩
def EW {κ α:Type} [DecidableEq κ] {k:κ} {l:List (κ×α)} :(ji k l).length<=l.length:=List.length_filter_le _ _
section
variable {n : bh}
structure Calm (n n1:bh):Prop where
 id:n1.c.id=n.c.id
 aN:n1.c.aN=n.c.aN
 ey:n1.c.ey=n.c.ey
 cl:n1.cl=n.cl
 C:n1.C=n.C
 bl:n1.bl=n.bl
 L:n1.L=n.L
 m:n1.m=n.m
 pre:n1.pre=n.pre
theorem Calm.refl (n:bh):Calm n n:=⟨rfl,rfl,rfl,rfl,rfl,rfl,rfl,rfl,rfl⟩
theorem Calm.trans {a b c:bh} (h:Calm a b) (q:Calm b c):Calm a c:=⟨q.id.trans h.id,q.aN.trans h.aN,q.ey.trans h.ey,q.cl.trans h.cl,q.C.trans h.C,q.bl.trans h.bl,q.L.trans h.L,q.m.trans h.m,q.pre.trans h.pre⟩
def Calm.after {a b c:bh} (q:Calm b c) (h:Calm a b):Calm a c:=h.trans q
theorem fL.sub (h:fL k N n) (hN:N<=N') (hk:k<=k') (ah:k'<=1000) (hc:Calm n n1) (hds: ∀(i:Int) (r:eY),getM i n1.ds=some r->r.id=i)
  (UE: ∀t b,getM t n1.al=some b->(∃b',getM t n.al=some b')/\sx N' (n1.A b)) (hlen:n1.al.length<=n.al.length):fL k' N' (eQ n1):=by
 have e:(eQ n1).abs=n.abs:=by
  show(n1.c.aN,n1.cl.map λb=>((n1.C b).r,(n1.C b).ended))=_
  rw[hc.aN,hc.cl,hc.C];rfl
 refine⟨⟨hc.id.trans h.ok.id,λt b hg=>(UE t b hg).2,hds,rfl,rfl,rfl,rfl,rfl,?_,?_,ah,hc.pre.trans h.ok.pre,?_,?_⟩,?_,?_,?_,?_,?_,?_,?_⟩
 ·show n1.cl.length<=_;rw[hc.cl];exact ad h.ok.cl hk
 ·exact ad (ad hlen h.ok.Yi) hk
 ·show∀b∈n1.cl,(n1.C b).waits.length<=80;rw[hc.cl,hc.C];exact h.ok.cw
 ·show∀t b,getM t n1.bl=some b->b∈n1.cl/\(n1.C b).r.aH=t;rw[hc.bl,hc.cl,hc.C];exact h.ok.byT
 ·show∀t b,getM t n1.bl=some b↔b∈n1.cl/\(n1.C b).r.aH=t;rw[hc.bl,hc.cl,hc.C];exact h.bl
 ·rw[e];show wO ⟨n1.L,n1.m⟩ _ _;rw[hc.L,hc.m];exact h.log.up hk
 ·show 0<=n1.c.ey/\n1.c.ey<=_;rw[hc.ey];have:=h.ey;omega
 ·show 1<=n1.c.aN/\n1.c.aN<=_;rw[hc.aN];have:=h.aN;omega
 ·intro t b hg;obtain⟨b',dW⟩:=(UE t b hg).1;have q:=h.act t b' dW;exact⟨q.co,by show _=n1.c.aN;rw[hc.aN];exact q.aN,by show _/\_<=n1.c.ey;rw[hc.ey];exact q.sq,by show getM t n1.bl=none;rw[hc.bl];exact q.bl⟩
 ·rw[e];exact h.abs
 ·rw[e];show∀x∈_,_=n1.c.aN->_<=n1.c.ey;rw[hc.aN,hc.ey];exact h.BP
theorem fL.call {p:List ju} (h:fL k N n) (hc:Am n p n1) (hk:k+1<=1000):fL (k+1) N (eQ n1):=by
 obtain⟨xb,fD,Fk,vm,va,rm,ra,ms,d,rfl,Km,aez⟩:=hc;have hT: ∀t b,getM t Fk=some b->(getM t n.al=some b/\b≠xb)\/(t=il n/\b=xb/\Fk=cI (il n) xb n.al):=λt b hg=>by
  rcases aez with⟨_,_,_,e,_⟩|⟨_,e,_⟩
  ·rw[e] at hg;have q:=(na hg).1
   grind
  ·rw[e] at hg;by_cases e1:t=il n
   ·rw[e1,ku] at hg;exact .inr ⟨e1,(bV hg).symm,e⟩
   ·rw[nL e1] at hg;exact .inl ⟨hg,λe=>Km t (e▸hg)⟩
 have hlen:Fk.length<=n.al.length+1:=by
  rcases aez with⟨_,_,_,e,_⟩|⟨_,e,_⟩
  ·rw[e];exact ad EW (cZ _)
  ·rw[e];exact Dn _
 have hcn:=h.ey;have RM:=h.aN;have Hx:getM (il n) n.bl=none:=by
  cases e:getM (il n) n.bl with
  |none=>rfl
  |some b=>
   obtain⟨h1,h2⟩:=(h.bl _ _).1 e;have:=h.BP _ (List.mem_map.2 ⟨b,h1,rfl⟩) (by show(n.C b).r.aH.aN=_;rw[h2];rfl);have e3:((n.C b).r).aH.sq=n.c.ey+1:=by rw[h2];rfl
   have:(n.C b).r.aH.sq<=n.c.ey:=this;omega
 refine⟨⟨h.ok.id,λt b hg=>?_,h.ok.ds,rfl,rfl,rfl,rfl,rfl,uE h.ok.cl,?_,hk,h.ok.pre,h.ok.cw,h.ok.byT⟩,h.bl,h.log.up (cZ _),?_,?_,λt b hg=>?_,h.abs,λx hx e=>?_⟩
 ·rcases hT t b hg with⟨q1,q2⟩|⟨_,q2,q3⟩
  ·show sx N (if b=xb then d else n.A b)
   rw[if_neg q2];exact h.ok.act t b q1
  ·show sx N (if b=xb then d else n.A b)
   rw[if_pos q2];rcases aez with⟨_,_,_,e,_⟩|⟨_,_,hp,Fg,ht,Me,atU,Kk,UP,bU,hws,hw,hq⟩
   ·have q4:getM t (ji (il n) n.al)=some xb:=by rw[<-e,<-q2];exact hg
    exact absurd (na q4).1 (Km t)
   ·refine⟨λe=>?_,by rw[hp];omega,by rw[Kk.1];exact aq _,hws,?_,λy hy=>(hw y hy).2,by omega,Kk.2⟩
    ·rcases hq with q|q
     ·exact⟨q.2.1,q.2.2.1⟩
     ·rw[q.1] at e;cases e
    ·rcases hq with q|q
     ·rw[q.2.2.1];exact aq _
     ·rw[<-q.2.1,af];omega
 ·have:=h.ok.Yi;show Fk.length<=_;omega
 ·show 0<=n.c.ey+1/\n.c.ey+1<=((k+1:Nat):Int);omega
 ·show 1<=n.c.aN/\n.c.aN<=((k+1:Nat):Int);omega
 ·rcases hT t b hg with⟨q1,q2⟩|⟨rfl,_,_⟩
  ·have q:=h.act t b q1;exact⟨q.co,q.aN,by have:=q.sq;show 1<=t.sq/\t.sq<=n.c.ey+1;omega,q.bl⟩
  ·exact⟨h.ok.id,rfl,by show 1<=n.c.ey+1/\n.c.ey+1<=n.c.ey+1;omega,Hx⟩
 ·have:=h.BP x hx e
  show _<=n.c.ey+1
  omega
theorem kN.calm: ∀{ts:List bu} {n n1:bh},kN ts n n1->Calm n n1/\n1.ds=n.ds/\n1.al.length<=n.al.length
 |[],n,n1,h=>by
  have:n1=n:=h;subst this;exact⟨Calm.refl _,rfl,au _⟩
 |t::ts,n,n1,⟨n2,h1,h2⟩=>by
  obtain⟨q1,q2,q3⟩:=kN.calm h2;have q:Calm n n2/\n2.ds=n.ds/\n2.al.length<=n.al.length:=by
   obtain⟨b,_,_,⟨_,_,_,_,rfl,_⟩|⟨_,_,_,rfl,_⟩⟩:=h1
   ·exact⟨⟨rfl,rfl,rfl,rfl,rfl,rfl,rfl,rfl,rfl⟩,rfl,EW⟩
   ·exact⟨⟨rfl,rfl,rfl,rfl,rfl,rfl,rfl,rfl,rfl⟩,rfl,au _⟩
  exact⟨q1.after q.1,q2.trans q.2.1,ad q3 q.2.2⟩
theorem tu.key (h:tu n t n1) (kE:vO n):vO n1/\ ∀t b,getM t n1.al=some b->getM t n.al=some b:=by
 obtain⟨b,_,_,hc⟩:=h;have hs:n1.A=(dH n b (pY (n.A b))).A/\ ∀t b,getM t n1.al=some b->getM t n.al=some b:=by
  rcases hc with⟨_,_,_,_,rfl,_⟩|⟨_,_,_,rfl,_⟩
  ·exact⟨rfl,λt b hg=>(na hg).1⟩
  ·exact⟨rfl,λt b hg=>hg⟩
 refine⟨λt b' hg=>?_,hs.2⟩;have:=kE t b' (hs.2 t b' hg);rw[hs.1]
 show(if b'=b then pY (n.A b)else n.A b').x.aH=t
 split
 ·grind [pY]
 omega
theorem kN.ok: ∀{ts:List bu} {n n1:bh},kN ts n n1->vO n->(∀t b,getM t n.al=some b->sx N (n.A b))-> ∀t b,getM t n1.al=some b->getM t n.al=some b/\sx N (n1.A b)
 |[],n,n1,h,_,kz=>λt b hg=>by
  have:n1=n:=h
  grind
 |t::ts,n,n1,⟨n2,h1,h2⟩,kE,kz=>λt' b hg=>by
  obtain⟨q1,q2⟩:=h1.key kE;obtain⟨q3,q4⟩:=kN.ok h2 q1 (h1.ok kE kz) t' b hg
  grind
theorem CI.calm: ∀{l:List Nat} {n n1:bh},CI l n n1->Calm n n1/\n1.ds=n.ds/\n1.al=n.al/\n1.A=n.A/\n1.ra=n.ra
 |[],n,n1,h=>by
  have:n1=n:=h
  grind [Calm.refl]
 |b::l,n,n1,⟨n2,h1,h2⟩=>by
  obtain⟨q1,q2,q3,q4,q5⟩:=CI.calm h2;rcases h1 with⟨_,rfl⟩|⟨_,lZ,lr,rfl,_⟩
  ·grind
  ·exact⟨q1.after ⟨rfl,rfl,rfl,rfl,rfl,rfl,rfl,rfl,rfl⟩,q2,q3,q4,q5⟩
theorem fL.tick (h:fL k N n) (kE:vO n) (ht:yT n n1) (hk:k+1<=1000):fL (k+1) N (eQ n1):=by
 obtain⟨ts,n2,hp,h1,h2⟩:=ht;obtain⟨a1,a2,a3⟩:=h1.calm;obtain⟨b1,b2,b3,b4,_⟩:=h2.calm;refine h.sub (au _) (cZ _) hk (a1.trans b1) (by rw[b2,a2];exact h.ok.ds) (λt b hg=>?_) gQ;rw[b3] at hg;rw[b4];obtain⟨q1,q2⟩:=kN.ok h1 kE h.ok.act t b hg
 grind
end
theorem agr (t:bu):xt (nR t):=by grind [nR,uD,ym]
theorem anh (t:bX):xt (lE t):=by grind [lE,uD,ym]
theorem aiG (l:List Int):xt (iW encI l):=by
 unfold iW;refine uD (ym _) λb hb=>?_;obtain⟨q,hq,hb⟩:=List.mem_flatten.1 hb;obtain⟨x,_,rfl⟩:=List.mem_map.1 hq;exact ym _ b hb
theorem Vg {α:Type} {p:α->Bool} {r:α->α->Bool} : ∀{l:List α} {o:Option α},chain p r o l=true-> ∀x∈l,p x=true
 |[],_,_,_,hx=>by simp at hx
 |y::l,o,h,x,hx=>by
  have h1:p y=true/\chain p r (some y) l=true:=by
   cases o<;>simp[chain] at h
   ·exact h
   ·exact⟨h.1.1,h.2⟩
  rcases List.mem_cons.1 hx with rfl|hx
  ·exact h1.1
  ·exact Vg h1.2 x hx
theorem ani (h:r.fF=0):r.err=0:=by
 apply dO;intro e;unfold Rec.fF at h;omega
variable {ids : List Int} {st : bX}
theorem RO (he:(jm t st ids).fF=0) (hl:ids.length<=80) (ht:D1 t):Va (jm t st ids):=by
 have h1:=ani he;have h2:(jm t st ids).ql=true:=by
  apply dO;intro e;unfold Rec.err at h1;split at h1
  ·cases h1
  ·grind
 have h3:(t.may&&st.Iq&&yU ids)=true:=by
  unfold Rec.ql at h2;exact h2
 simp only[aC] at h3;obtain⟨⟨h4,h5⟩,h6⟩:=h3;have h7:st.may=true:=by unfold bX.Iq at h5;simp only[aC] at h5;exact h5.1
 have h8: ∀x∈ids,vy x:=λx hx=>by
  unfold yU at h6;simp only[aC] at h6;have:=Vg h6.1 x hx;simp only[aC,decide_eq_true_eq] at this;unfold vy;omega
 have h9:adR st:=by
  unfold bX.may at h7;simp only[aC,decide_eq_true_eq] at h7;unfold adR vy;omega
 have h10:=agj t st ids;refine⟨.BP t st ids ht h9 h8 zQ,h1,by omega,λb hb=>?_,hl⟩;rw[WZ] at hb;exact uD (ym _) (uD (agr _) (uD (anh _) (aiG _))) b hb
theorem anj (ht:D1 t) (hm:t.may=true):Va (l7 t)/\(l7 t).fF=0:=by
 have e1:=fy 10;have e2:=DE t;have e4:(l7 t).err=0:=by
  simp[Rec.err,l7,Rec.strip,Rec.isZero,Rec.ql,State.isZero,State.zero,hm]
 have e5:(gd (l7 t)).length<=900:=by rw[RF,aa];omega
 refine⟨⟨.fin t ht,e4,e5,λb hb=>?_,by simp[l7]⟩,?_⟩
 ·rw[RF] at hb;exact uD (ym _) (agr _) b hb
 ·unfold Rec.fF;omega
theorem Vh: ∀(l:List eY) (ds:tL),(∀(i:Int) (r:eY),getM i ds=some r->r.id=i)-> ∀(i:Int) (r:eY),getM i (l.foldl iZ ds)=some r->r.id=i
 |[],ds,h=>h
 |x::l,ds,h=>Vh l (iZ ds x) λi r hg=>by
  have hp: ∀i r,getM i (cI x.id x ds)=some r->r.id=i:=λi r hg=>by
   by_cases e:i=x.id
   ·rw[e,ku] at hg;cases hg;exact e.symm
   ·rw[nL e] at hg;exact h i r hg
  unfold iZ at hg;split at hg
  ·split at hg
   ·split at hg
    ·exact h i r hg
    ·exact hp i r hg
   ·exact hp i r hg
  ·exact h i r hg
section
variable {n : bh}
theorem PO (h:r.fF≠0):jE n r=(⟨n.L,n.m⟩,0,r.fF.toNat):=by
 unfold jE LD.iI;rcases r.yg with e|e|e|e
 ·omega
 all_goals rw[e];rfl
theorem yn (h:r.fF=0):jE n r=LD.iI ⟨n.L,n.m⟩ 0 (gd r):=by
 unfold jE;rw[h];rfl
theorem fL.Xa (h:fL k N n) (ht:aiF n t) (st:bX) (ids:List Int):sK n.abs (jm t st ids)=some (n.c.aN,n.abs.2++[(jm t st ids,false)]):=by
 unfold sK;rw[if_neg (show¬(jm t st ids).kind=8 from(by decide: ¬(9:Int)=8)),if_pos (show(jm t st ids).kind=9 from rfl),if_pos ?_]
 ·rfl
 ·refine⟨ht.co,ht.aN,λx hx e=>?_⟩;obtain⟨b,hb,rfl⟩:=List.mem_map.1 hx;have:=(h.bl t b).2 ⟨hb,e⟩;rw[ht.bl] at this;cases this
theorem fL.D1 (h:fL k N n) (hk:k<=1000) (ht:aiF n t):D1 t:=by
 have h1:=h.ey;have h2:=h.aN;have h3:=ht.sq;have h4:=ht.aN;have h5:=ht.co;unfold Go.Proofs.YtgfijddlkhkopaaGreat.D1 vy;omega
theorem ale (kE:vO n) (hb:getM t n.al=some b) {b':Nat} (hg:getM t' (ji t n.al)=some b'):getM t' n.al=some b'/\b'≠b:=by
 obtain⟨q1,q2⟩:=na hg;exact⟨q1,λe=>q2 (by rw[e] at q1;exact(kE _ _ q1).symm.trans (kE _ _ hb))⟩
theorem fL.Yf (h:fL k N n) (hg:An n m pp n1) (hN:N<=N') (hk:k<=k') (ah:k'<=1000):fL k' N' (eQ n1):=by
 obtain⟨b,fD,lZ,jh,lr,hb,hp,hc,rfl⟩:=hg;exact h.sub hN hk ah ⟨rfl,rfl,rfl,rfl,rfl,rfl,rfl,rfl,rfl⟩ (Vh _ _ h.ok.ds) (λt b hg=>⟨⟨b,(na hg).1⟩,(h.ok.act t b (na hg).1).up hN⟩) EW
theorem fL.seen (h:fL k N n) (kE:vO n) (hs:I2 n m n1) (ah:k+1<=1000):fL (k+1) (N+m.seen.length) (eQ n1):=by
 have hN:N<=N+m.seen.length:=j7 _ _;rcases hs with⟨fD,rfl⟩|hg|⟨b,i,y,fD,xk,iR,kM,n2,hw,rfl,hc⟩
 ·exact h.sub hN (cZ _) ah ⟨rfl,rfl,rfl,rfl,rfl,rfl,rfl,rfl,rfl⟩ h.ok.ds (λt b hg=>⟨⟨b,hg⟩,(h.ok.act t b hg).up hN⟩) (au _)
 ·exact h.Yf hg hN (cZ _) ah
 ·have ha:=h.ok.act _ _ hw.g;have hA: ∀t' b',getM t' n.al=some b'->sx (N+m.seen.length) ((dH n b (xj (n.A b) i m xk iR kM)).A b'):=λt' b' hg=>by
   show sx _ (if b'=b then _ else n.A b')
   split
   ·refine⟨ha.q,ha.p,by show bf (_++_)<=_;rw[aa];have:=ha.sn;omega,?_,ha.ids,λy hy=>?_,ha.lp,ha.pq⟩
    ·have:=ha.ws;simp[xj];omega
    ·exact ha.Dp y ((List.mem_append.1 hy).elim dc da)
   ·exact(h.ok.act t' b' hg).up hN
  have hxt:((dH n b (xj (n.A b) i m xk iR kM)).A b).x.aH=m.aH:=by rw[jj];exact kE _ _ hw.g
  rcases hc with⟨_,rfl⟩|⟨_,n3,hr,rfl⟩
  ·exact h.sub hN (cZ _) ah ⟨rfl,rfl,rfl,rfl,rfl,rfl,rfl,rfl,rfl⟩ h.ok.ds (λt b' hg=>⟨⟨b',hg⟩,hA t b' hg⟩) (au _)
  ·rcases hr with⟨jh,a,_,_,_,_,rfl,_⟩|⟨ids,pm,vq,vw2,rw2,bU,nN,zg,nC,_,_,_,rfl,_⟩
   ·refine h.sub hN (cZ _) ah ⟨rfl,rfl,rfl,rfl,rfl,rfl,rfl,rfl,rfl⟩ h.ok.ds (λt b' hg=>?_) EW;have hg:getM t (ji ((dH n b (xj (n.A b) i m xk iR kM)).A b).x.aH n.al)=some b':=hg;rw[hxt] at hg;obtain⟨q1,q2⟩:=ale kE hw.g hg;exact⟨⟨b',q1⟩,hA _ _ q1⟩
   ·refine h.sub hN (cZ _) ah ⟨rfl,rfl,rfl,rfl,rfl,rfl,rfl,rfl,rfl⟩ h.ok.ds (λt b' hg=>⟨⟨b',hg⟩,?_⟩) (au _);have hb:=hA m.aH b hw.g;have hl:pm.length=ids.length:=by rw[<-zg,af]
    show sx _ (if b'=b then _ else(dH n b (xj (n.A b) i m xk iR kM)).A b')
    split
    ·refine⟨λe=>absurd e sQ,hb.p,hb.sn,by grind,nN,λy hy=>?_,hb.lp,hb.pq⟩;obtain⟨z,hz,rfl⟩:=List.mem_map.1 hy;exact(nC z hz).2.2.asked
    ·exact hA _ _ hg
theorem fL.comm (h:fL k N n) (kE:vO n) (hb:getM t n.al=some b) (hl:(n.A b).ids.length<=80) (hc:RC n t b n1) (hk:k<=190) (hA: ∀t b,getM t n.al=some b->sx N' (n.A b)) (hN:N<=N'):fL (k+1) N' (eQ n1):=by
 have ht:=h.act t b hb;have Yl:=h.D1 zQ ht;unfold RC W4 at hc;rcases hc with⟨yb,h0,jh,lZ,lr,rfl,_⟩|⟨h0,bx,BO,vp,v2,jh,vs,Vi,fY,lZ,lr,en,_⟩
 ·have Yc:(jm t (n.A b).x.mg (n.A b).ids).fF≠0:=λe=>by
   rw[yn e] at yb h0;rcases h.log.iI (RO e hl Yl) (h.Xa ht _ _) zQ with q|q
   ·omega
   omega
  have e:=PO (n:=n) Yc;refine h.sub hN (cZ _) zQ ⟨rfl,rfl,rfl,rfl,rfl,rfl,by grind,by grind,rfl⟩ h.ok.ds (λt' b' hg=>?_) EW;have q:=(na hg).1
  grind
 ·have Nz:(jm t (n.A b).x.mg (n.A b).ids).fF=0:=by
   apply dO;intro e;rw[PO e] at h0;rcases(jm t (n.A b).x.mg (n.A b).ids).yg with q|q|q|q
   ·omega
   all_goals grind
  have jB:=h.Xa ht (n.A b).x.mg (n.A b).ids;rw[yn Nz] at h0;have PQ:=((h.log.iI (RO Nz hl Yl) jB zQ).resolve_left λe=>by omega).2;have hex: ∃n2:bh,n2= { n with c:= { n.c with cm:=BO },bl:=cI t bx n.bl,cl:=n.cl++[bx],C:=λb'=>if b'=bx then⟨jm t (n.A b).x.mg (n.A b).ids,vp,v2,(n.A b).ids,false⟩else n.C b' } :=⟨_,rfl⟩;obtain⟨n2,hn2⟩:=hex;have hR:W7 n (jm t (n.A b).x.mg (n.A b).ids) vp n2:=.inr (.inl ⟨rfl,_,bx,BO,v2,rfl,fY,hn2⟩);obtain⟨i1,i2,i3,i4,i5⟩:=Zi h.bl jB (agn h.bl h.ok.id jB) hR h.ok.cw hl;have e2:n2.c.aN=n.c.aN/\n2.cl=n.cl++[bx]/\n2.bl=cI t bx n.bl/\n2.C=λb'=>if b'=bx then⟨jm t (n.A b).x.mg (n.A b).ids,vp,v2,(n.A b).ids,false⟩else n.C b':=by rw[hn2];exact⟨rfl,rfl,rfl,rfl⟩
  have hcn:=h.ey;have RM:=h.aN;have pz:=h.ok.cl;have ark:=h.ok.Yi;have xh:(eQ n1).abs=(n.c.aN,n.abs.2++[(jm t (n.A b).x.mg (n.A b).ids,false)]):=by
   rw[en,<-i1];unfold bh.abs;rw[e2.1,e2.2.1,e2.2.2.2];rfl
  subst en;refine⟨⟨h.ok.id,λt' b' hg=>hA t' b' (na hg).1,h.ok.ds,rfl,rfl,rfl,rfl,rfl,?_,?_,by omega,h.ok.pre,?_,?_⟩,?_,?_,?_,?_,λt' b' hg=>?_,?_,?_⟩
  ·show(n.cl++[bx]).length<=_;simp;omega
  ·exact ad EW zQ
  ·rw[e2.2.1,e2.2.2.2] at i4;exact i4
  ·intro t' b' hg;have q:=(i2 t' b').1 (by rw[e2.2.2.1];exact hg);rw[e2.2.1,e2.2.2.2] at q;exact q
  ·intro t' b';have q:=i2 t' b';rw[e2.2.2.1,e2.2.1,e2.2.2.2] at q;exact q
  ·rw[xh,<-yn Nz] at*;exact PQ
  ·show 0<=n.c.ey/\n.c.ey<=((k+1:Nat):Int);omega
  ·show 1<=n.c.aN/\n.c.aN<=((k+1:Nat):Int);omega
  ·obtain⟨q1,q2⟩:=na hg;have q:=h.act t' b' q1;exact⟨q.co,q.aN,q.sq,by show getM t' (cI t bx n.bl)=none;rw[nL q2];exact q.bl⟩
  ·rw[xh];intro x hx;rcases List.mem_append.1 hx with hx|hx
   ·exact h.abs x hx
   ·rw[av] at hx;subst hx;have:=ht.sq;exact⟨ht.co,by rw[show(jm t (n.A b).x.mg (n.A b).ids).aH.aN=t.aN from rfl,ht.aN];omega,by show t.aN<=n.c.aN;rw[ht.aN];omega,this.1,by show t.sq<=2^40;omega⟩
  ·rw[xh];intro x hx UQ;rcases List.mem_append.1 hx with hx|hx
   ·exact h.BP x hx UQ
   ·rw[av] at hx;subst hx;exact ht.sq.2
theorem fL.arB (h:fL k N n) (kE:vO n) (hs:Nu n m n1) (hk:k<=190):fL (k+1) N (eQ n1):=by
 rcases hs with⟨fD,rfl,_⟩|hg|⟨b,i,y,fD,iR,kM,n2,hw,rfl,hc⟩
 ·exact h.sub (au _) (cZ _) zQ ⟨rfl,rfl,rfl,rfl,rfl,rfl,rfl,rfl,rfl⟩ h.ok.ds (λt b hg=>⟨⟨b,hg⟩,h.ok.act t b hg⟩) (au _)
 ·exact h.Yf hg (au _) (cZ _) zQ
 ·have ha:=h.ok.act _ _ hw.g;have hA: ∀t' b',getM t' n.al=some b'->sx N ((dH n b (qV (n.A b) i m iR kM)).A b'):=λt' b' hg=>by
   show sx _ (if b'=b then _ else n.A b')
   split
   ·refine⟨ha.q,ha.p,ha.sn,?_,ha.ids,λy hy=>?_,ha.lp,ha.pq⟩
    ·have:=ha.ws;simp[qV];omega
    ·exact ha.Dp y ((List.mem_append.1 hy).elim dc da)
   ·exact h.ok.act t' b' hg
  rcases hc with⟨_,rfl⟩|⟨_,hc⟩
  ·exact h.sub (au _) (cZ _) zQ ⟨rfl,rfl,rfl,rfl,rfl,rfl,rfl,rfl,rfl⟩ h.ok.ds (λt b' hg=>⟨⟨b',hg⟩,hA t b' hg⟩) (au _)
  ·have h2:fL k N (eQ { dH n b (qV (n.A b) i m iR kM)with ck:=fD }):=h.sub (au _) (au _) zQ ⟨rfl,rfl,rfl,rfl,rfl,rfl,rfl,rfl,rfl⟩ h.ok.ds (λt b' hg=>⟨⟨b',hg⟩,hA t b' hg⟩) (au _);have e:eQ { dH n b (qV (n.A b) i m iR kM)with ck:=fD } = { dH n b (qV (n.A b) i m iR kM)with ck:=fD } :=by
    have h1:=h.ok.eQ;have:eQ { dH n b (qV (n.A b) i m iR kM)with ck:=fD } = { dH (eQ n) b (qV (n.A b) i m iR kM)with ck:=fD } :=rfl;rw[this,h1]
   rw[e] at h2;refine h2.comm (λt' b' hg=>?_) (b:=b) hw.g ?_ hc hk hA (au _)
   ·show(if b'=b then qV (n.A b) i m iR kM else n.A b').x.aH=t'
    have:=kE t' b' hg
    grind [qV]
   ·exact(hA _ _ hw.g).ids
end
variable {en : Bool} {v2 : Value}
section
variable {n : bh}
theorem fL.akA (h:fL k N n) (hb:getM t n.bl=some b) (he:(n.C b).ended=false):sK n.abs (l7 t)=some (n.c.aN,AF t n.abs.2):=by
 obtain⟨h1,h2⟩:=(h.bl t b).1 hb;unfold sK;rw[if_neg (show¬(l7 t).kind=8 from(by decide: ¬(10:Int)=8)),if_neg (show¬(l7 t).kind=9 from(by decide: ¬(10:Int)=9)),if_pos (show(l7 t).kind=10 from rfl),if_pos ?_]
 ·rfl
 ·exact⟨((n.C b).r,(n.C b).ended),List.mem_map.2 ⟨b,h1,rfl⟩,h2,he⟩
theorem fL.akB (h:fL k N n) (hk:k<=1000) (hb:getM t n.bl=some b):Va (l7 t)/\(l7 t).fF=0:=by
 obtain⟨h1,h2⟩:=(h.bl t b).1 hb;have ha:=h.abs _ (List.mem_map.2 ⟨b,h1,rfl⟩);dsimp only at ha;rw[h2] at ha;have hl:=h.aN;have e:n.abs.1=n.c.aN:=rfl;rw[e] at ha;refine anj ?_ ?_
 ·unfold Go.Proofs.YtgfijddlkhkopaaGreat.D1 vy;omega
 ·unfold bu.may;simp_all
theorem Vj {s:jo} (h:Ao s):Ao (s.1,AF t s.2):=λx hx=>by
 obtain⟨y,hy,rfl⟩:=List.mem_map.1 hx;have:=h y hy;split<;>omega
theorem aiH {s:jo} (h:Ao s) (h1:t.dU=1) (h2:1<=t.aN/\t.aN<=s.1) (h3:1<=t.sq/\t.sq<=2^40):Ao (s.1,s.2++[(jm t st ids,false)]):=λx hx=>by
 rcases List.mem_append.1 hx with hx|hx
 ·exact h x hx
 ·rw[av] at hx;subst hx;exact⟨h1,h2.1,h2.2,h3.1,h3.2⟩
theorem aiI (h:Mj n) (hb:getM t n.bl=some b) (he:(n.C b).ended=false):
  (n.cl.map λb'=>(((mR n b (sy (n.C b) i v2 en)).C b').r,((mR n b (sy (n.C b) i v2 en)).C b').ended))=if en then AF t n.abs.2 else n.abs.2:=by
 obtain⟨h1,h2⟩:=(h t b).1 hb;cases en with
 |false=>
  rw[if_neg dQ];refine dp λb' dW=>?_;unfold mR sy;dsimp only
  grind
 |true=>
  rw[if_pos rfl];unfold AF bh.abs;dsimp only;rw[bw];refine dp λb' dW=>?_;unfold mR sy;dsimp only;by_cases e:b'=b
  ·grind
  ·rw[if_neg e];have: ¬(n.C b').r.aH=t:=λe'=>by
    have:=(h _ _).2 ⟨dW,e'⟩
    grind
   simp[this]
theorem acJ (h:Mj n): ∀t b',getM t n.bl=some b'↔b'∈n.cl/\((mR n b (sy (n.C b) i v2 en)).C b').r.aH=t:=λt b'=>by
 refine(h t b').trans (and_congr_right λ_=>?_);unfold mR sy;dsimp only
 grind
theorem alf (h: ∀b∈n.cl,(n.C b).waits.length<=80) (hb:b∈n.cl): ∀b'∈n.cl,((mR n b (sy (n.C b) i v2 en)).C b').waits.length<=80:=λb' dW=>by
 unfold mR sy;dsimp only;split
 ·have:=h b hb;simp;omega
 grind
theorem fL.done (h:fL k N n) (hs:aep n m n1) (hk:k<=190):fL (k+1) N (eQ n1):=by
 rcases hs with rfl|⟨b,i,v2,hD,hc⟩
 ·exact h.sub (au _) (cZ _) zQ (Calm.refl _) h.ok.ds (λt b hg=>⟨⟨b,hg⟩,h.ok.act t b hg⟩) (au _)
 ·obtain⟨hbc,UR⟩:=(h.bl _ _).1 hD.g;have hcn:=h.ey;have RM:=h.aN;have mk: ∀{L':LM} {m':DM} {en:Bool},(∀s2,s2=(if en then AF m.aH n.abs.2 else n.abs.2)->wO ⟨L',m'⟩ (k+1) (n.c.aN,s2))->fL (k+1) N (eQ { mR n b (sy (n.C b) i v2 en)with L:=L',m:=m' }):=λ{L' m' en} PQ=>by
   have e:=aiI (i:=i) (v2:=v2) (en:=en) h.bl hD.g hD.en;have xh:(eQ { mR n b (sy (n.C b) i v2 en)with L:=L',m:=m' }).abs=(n.c.aN,if en then AF m.aH n.abs.2 else n.abs.2):=by
    unfold bh.abs;exact congrArg (Prod.mk _) e
   refine⟨⟨h.ok.id,h.ok.act,h.ok.ds,rfl,rfl,rfl,rfl,rfl,uE h.ok.cl,uE h.ok.Yi,by omega,h.ok.pre,alf h.ok.cw hbc,λt b' hg=>(acJ h.bl t b').1 hg⟩,acJ h.bl,by rw[xh];exact PQ _ rfl,?_,?_,λt b' hg=>?_,?_,?_⟩
   ·show 0<=n.c.ey/\n.c.ey<=((k+1:Nat):Int);omega
   ·show 1<=n.c.aN/\n.c.aN<=((k+1:Nat):Int);omega
   ·have q:=h.act t b' hg;exact⟨q.co,q.aN,q.sq,q.bl⟩
   ·rw[xh];cases en
    ·exact h.abs
    ·exact Vj (s:=n.abs) h.abs
   ·rw[xh];cases en
    ·exact h.BP
    ·intro x hx hl;obtain⟨y,hy,rfl⟩:=List.mem_map.1 hx;have:=h.BP y hy;split at hl<;>(split;exact this hl;exact this hl)
  rcases hc with⟨_,rfl⟩|⟨_,yb,rfl⟩
  ·exact mk (en:=false) λs2 e=>by rw[e];exact h.log.up (cZ _)
  ·obtain⟨cg,ce⟩:=h.akB zQ hD.g;unfold Jc;rw[yn ce] at yb⊢;rcases h.log.iI cg (h.akA hD.g hD.en) zQ with q|⟨q0,q⟩
   ·exact absurd q.1 yb
   ·rw[decide_eq_true q0];exact mk (en:=true) λs2 e=>by rw[e];exact q
theorem fL.ask (h:fL k N n) (hs:aes n m n1) (hk:k+1<=1000):fL (k+1) N (eQ n1):=by
 rcases hs with⟨_,rfl⟩|⟨_,lZ,lr,rfl,_⟩;all_goals exact h.sub (au _) (cZ _) hk ⟨rfl,rfl,rfl,rfl,rfl,rfl,rfl,rfl,rfl⟩ h.ok.ds (λt b hg=>⟨⟨b,hg⟩,h.ok.act t b hg⟩) (au _)
theorem fL.up (h:fL k N n) (hk:k<=k') (ah:k'<=1000) (hN:N<=N'):fL k' N' n:=by
 have:=h.sub (n1:=n) hN hk ah (Calm.refl _) h.ok.ds (λt b hg=>⟨⟨b,hg⟩,(h.ok.act t b hg).up hN⟩) (au _)
 rwa [h.ok.eQ] at this
theorem fL.step (h:fL k N n) (kE:vO n) (hs:uf n m n1) (hk:k<=190):fL (k+1) (N+m.seen.length) (eQ n1):=by
 have up: ∀{n1},fL (k+1) N (eQ n1)->fL (k+1) (N+m.seen.length) (eQ n1):=λh=>h.up (au _) zQ (j7 _ _);have same:fL (k+1) (N+m.seen.length) (eQ n):=up (h.sub (au _) (cZ _) zQ (Calm.refl _) h.ok.ds (λt b hg=>⟨⟨b,hg⟩,h.ok.act t b hg⟩) (au _));rcases hs with⟨_,rfl⟩|⟨_,_,⟨_,hs⟩|⟨_,hs⟩|⟨_,hs⟩|⟨_,hs⟩|⟨_,_,_,_,rfl⟩⟩
 ·omega
 ·exact h.seen kE hs zQ
 ·exact up (h.arB kE hs hk)
 ·exact up (h.done hs hk)
 ·exact up (h.ask hs zQ)
 omega
def RQ (n:bh) (m:cD) (s:jo):Prop:=s=n.abs\/(m.kind=4/\ ∃(b i:Nat) (y:cD),GF n m true b i y/\(n.A b).ws.length=1/\s=(n.c.aN,n.abs.2++[(jm m.aH ((n.A b).x.mg.later m.aV) (n.A b).ids,false)]))\/(m.kind=6/\s=(n.c.aN,AF m.aH n.abs.2))
def Zs (k:Nat) (P:jo->Prop) (m:DM):Prop:=m.dn=true/\xw k (λs=>P s/\Ao s) m
def Zs.up {m:DM} (h:Zs k P m) (hk:k<=k'):Zs k' P m:=⟨h.1,h.2.imp hk λ_ h=>h⟩
theorem fL.crs (h:fL k N n):xw k (λs=>s=n.abs/\Ao s) n.m:=h.log.crs.imp (au _) λs e=>⟨e,by rw[e];exact h.abs⟩
theorem fL.apx {m':DM} (h:fL k N n) (hs:Jf n m m') (hk:k<=190):Zs (k+1) (RQ n m) m':=by
 obtain⟨_,_,⟨JY,b,i,y,hw,hl,yb,rfl⟩|⟨hk6,b,i,hD,hl,yb,rfl⟩⟩:=hs
 ·have ht:=h.act _ _ hw.g;have ha:=h.ok.act _ _ hw.g;have Nz:(jm m.aH ((n.A b).x.mg.later m.aV) (n.A b).ids).fF=0:=by
   apply dO;intro e;rw[PO e] at yb;rcases(jm m.aH ((n.A b).x.mg.later m.aV) (n.A b).ids).yg with q|q|q|q
   ·omega
   all_goals grind
  rw[yn Nz] at yb⊢;have hcn:=h.ey;have hsq:=ht.sq;rcases h.log.iI (RO Nz ha.ids (h.D1 zQ ht)) (h.Xa ht _ _) zQ with q|q
  ·refine⟨q.2.1,q.2.2.imp (au _) λs e=>?_⟩;rcases e with e|e
   ·exact⟨.inl e,by rw[e];exact h.abs⟩
   ·exact⟨.inr (.inl ⟨JY,b,i,y,hw,hl,e⟩),by rw[e];exact aiH (s:=n.abs) h.abs ht.co ⟨by rw[ht.aN];exact h.aN.1,by rw[ht.aN];exact gP _⟩ ⟨hsq.1,by omega⟩⟩
  omega
 ·obtain⟨cg,ce⟩:=h.akB zQ hD.g;rw[yn ce] at yb⊢;rcases h.log.iI cg (h.akA hD.g hD.en) zQ with q|q
  ·refine⟨q.2.1,q.2.2.imp (au _) λs e=>?_⟩;rcases e with e|e
   ·exact⟨.inl e,by rw[e];exact h.abs⟩
   ·exact⟨.inr (.inr ⟨hk6,e⟩),by rw[e];exact Vj (s:=n.abs) h.abs⟩
  omega
theorem fL.yj {l:List eY} {m:DM} (hb:aey m k s1 x pre sg rs) (ha:Ao s1) (hn:akv l x s1 db rs.length n) (hds: ∀(i:Int) (r:eY),getM i (l.foldl iZ [])=some r->r.id=i) (hk:k+1<=1000):fL (k+1) N n:=by
 have hl:=hb.aN;have hlen:=hb.len;have hc:=hn.cl;have RM:n.c.aN=s1.1+1:=congrArg Prod.fst hn.abs;have hcn:=hn.ey;refine⟨⟨hn.id,λt b hg=>(by rw[hn.al] at hg;cases hg),by rw[hn.ds];omega,hn.ms,hn.vm,hn.va,hn.rm,hn.ra,by omega,by rw[hn.al];grind,hk,hn.pre,hn.cw,λt b hg=>(hn.bl t b).1 hg⟩,hn.bl,?_,by omega,by omega,λt b hg=>(by rw[hn.al] at hg;cases hg),?_,?_⟩
 ·rw[hn.ld,hn.abs];exact hb.up
 ·rw[hn.abs];intro x hx;have:=ha x hx;dsimp only;omega
 ·rw[hn.abs,RM];intro x hx e;have:=ha x hx;omega
end
variable {most : Int}
theorem KK {xs:List fc} (ha:Sl w X 7 a (xs.map fc.l)):
  Ct pg 67 #[a,I most] w X nX EF:=by
 intro w0 hk;replace ha:=ha.mv hk.cd;have kV:=ha.gN;refine Jg.1 λhs=>?_;refine gO (λn a b w X=> ∃(i:Nat) (s:Int),a=I i/\b=I s/\n=(xs).length-i/\i<=(xs).length/\ai (bN w0) w0 X w) (xs).length ⟨0,_,rfl,rfl,rfl,aq _,hs⟩ ?_;rintro n a b w X ⟨i,s,rfl,rfl,rfl,hi,hs⟩;repeat' first|refine ao ?_;intros|refine cP ?_ ?_<;>intros|(refine qr ?_;intro wa hk;exact⟨_,rfl⟩)|(refine yp (km  _ _ _ _ _) hs ?_;intro n1 w X hs)|((with_reducible refine fZ ((xs).length-(i+1)) ?_ ?_);omega;exact⟨i+1,_,by simp,rfl,rfl,by omega,hs⟩)|with_reducible apply od
theorem Mm (ha:m.at w X vk vs vw vp vr vc vh vd):
  Ct pg 30 #[m.v vk vs vw vp vr vc vh vd,I most] w X nX EF:=by
 intro w0 hk;obtain⟨h1,h2,h3,h4,h5,h6,h7,h8⟩:=ha.mv hk.cd;have kV:=h6.len;refine KL.1 λhs=>?_;repeat' first|refine ao ?_;intros|(refine yp (km  _ _ _ _ _) hs ?_;intro n1 w X hs)|(refine yp (vP  qA) hs ?_;intro n1 w X hs)|(refine yp (KK  qA) hs ?_;intro n1 w X hs)|(refine yp (uF  qA) hs ?_;intro n1 w X hs)|with_reducible apply od
 refine gO (λn a b w X=> ∃(i:Nat) (s:Int),a=I i/\b=I s/\n=(m.aY).length-i/\i<=(m.aY).length/\ai (bN w0) w0 X w) (m.aY).length ⟨0,_,rfl,rfl,rfl,aq _,hs⟩ ?_;rintro n a b w X ⟨i,s,rfl,rfl,rfl,hi,hs⟩;repeat' first|refine ao ?_;intros|refine cP ?_ ?_<;>intros|((with_reducible apply acK);assumption;(try (case hz=>rfl));(case hr=>exact qR);(try (case hz=>omega));(case ht=>kernel_rfl);(case hs=>kernel_rfl);intros)|(refine qr ?_;intro wa hk;exact⟨_,rfl⟩)|(refine yp (km  _ _ _ _ _) hs ?_;intro n1 w X hs)|(refine yp (BU  (s:=m.state) qA qA) hs ?_;intro n1 w X hs)|(refine yp ((Mn (r:=_))  (Rec.at.mv aQ hs.mv)) hs ?_;intro n1 w X hs)|((with_reducible refine fZ ((m.aY).length-(i+1)) ?_ ?_);omega;exact⟨i+1,_,by simp,rfl,rfl,by omega,hs⟩)|with_reducible apply od
structure jq where
 kind:Int
 gM:Int
 n:Int
 m:cD
 prog:List ju
 cG:List Int
abbrev jq.l (o:jq) (vk vs vw vp vr vc vh vd vo vq:Value):List Value:=[I o.kind,I o.gM,I o.n,I o.m.kind,I o.m.fr,I o.m.to,I o.m.aH.dU,I o.m.aH.aN,I o.m.aH.sq,I o.m.range,I o.m.iF,I o.m.code,
 I o.m.aV.wall,I o.m.aV.dx,I o.m.aV.node,I o.m.prev.wall,I o.m.prev.dx,I o.m.prev.node,B o.m.jK,I o.m.n,I o.m.mx,vk,vs,vw,vp,vr,vc,
 I o.m.state.range.id,I o.m.state.range.iF,.float .f64 o.m.state.range.lo,.float .f64 o.m.state.range.hi,
 I o.m.state.floor.wall,I o.m.state.floor.dx,I o.m.state.floor.node,I o.m.state.closed.wall,I o.m.state.closed.dx,I o.m.state.closed.node,vh,vd,vo,vq]
structure jq.at (w:World) (X:XS) (o:jq) (vk vs vw vp vr vc vh vd vo vq:Value):Prop where
 m:o.m.at w X vk vs vw vp vr vc vh vd
 po:Sl w X 5 vo (o.prog.map ju.l)
 p:Sl w X 1 vq (o.cG.map I1)
def jq.rd (w:World) (X:XS) (l:List Value) (o:jq):Prop:= ∃vk vs vw vp vr vc vh vd vo vq,l=o.l vk vs vw vp vr vc vh vd vo vq/\o.at w X vk vs vw vp vr vc vh vd vo vq
def jq.mv:GU jq.rd:=λ⟨vk,vs,vw,vp,vr,vc,vh,vd,vo,vq,h,h1⟩ m=>⟨vk,vs,vw,vp,vr,vc,vh,vd,vo,vq,h,⟨h1.m.mv m,h1.po.mv m,h1.p.mv m⟩⟩
def FN {P:Program} {X0:XS} {N:Value->Prop} {t:TypeId} {v:Value} {xs:List jq} {x:jq} (h:fh w0 X0 41 v jq.rd xs) (hr:xs[i]? =some x)
  (hz:z=i) (ht:P.underlying t=some (.slice (P.elem t))) (hs:(P.info? (P.elem t)).map (·.size)=some 41)
  (n: ∀b o vk vs vw vp vr vc vh vd vo vq,aJ.one vk=true->aJ.one vs=true->aJ.one vw=true->aJ.one vp=true->aJ.one vr=true->aJ.one vc=true->aJ.one vh=true->aJ.one vd=true->aJ.one vo=true->aJ.one vq=true->Sl w0 X0 5 vo (x.prog.map ju.l)->
   Cells w0 X0 b o (x.l vk vs vw vp vr vc vh vd vo vq)->x.at w0 X0 vk vs vw vp vr vc vh vd vo vq->N (ptr b o)):aX P X w (mG t 41 v (.int .i64 z)) N:=
 GC h hr hz ht hs λb o _ hc ⟨vk,vs,vw,vp,vr,vc,vh,vd,vo,vq,hl,h1⟩=>n b o vk vs vw vp vr vc vh vd vo vq h1.m.keys.one h1.m.seen.one h1.m.writes.one h1.m.parts.one h1.m.ranges.one h1.m.aY.one h1.m.iG.one h1.m.ib.one h1.po.one h1.p.one h1.po (hl▸hc) h1
abbrev rg1:eY:=⟨1,0,0,4602678819172646912⟩
abbrev rg2:eY:=⟨2,0,4602678819172646912,4607182418800017408⟩
abbrev Mo:List eY:=[rg1,rg2]
abbrev kEx:BA:=⟨#[107]⟩
abbrev Cn:List ju:=[⟨4,⟨#[]⟩,⟨1,4607182418800017408,⟨#[]⟩⟩⟩,⟨2,kEx,.zero⟩]
abbrev Mp:tL:=[(1,rg1),(2,rg2)]
theorem Tt:BS Mo=0:=by kernel_rfl
theorem RR:Mo.foldl iZ []=Mp:=by kernel_rfl
theorem ank {i:Int} {r:eY} (h:getM i Mp=some r):r.id=i:=by
 have hm:=gL h;simp only[Mp,ij,Prod.mk.injEq,dI,or_false] at hm;rcases hm with⟨rfl,rfl⟩|⟨rfl,rfl⟩<;>rfl
abbrev Vk:Value:=.slice none 0 0
theorem Vl (k:BA):fQ [k]=[k]:=by
 simp[fQ,bl]
theorem ags:fQ []=[]:=by simp[fQ]
theorem agt (k:Int):pU [k]=[k]:=by simp[pU]
theorem FO:fj 1 1 Cn=[]:=by grind [kY,fj,ags]
theorem agu:fj 2 3 Cn=[kEx]:=by
 have:Cn.foldl (kY 2 3) []=[(kEx,1)]:=by kernel_rfl
 grind [fj,Vl]
theorem acM:ny Cn=0:=by
 have:zp Cn 0=0:=by kernel_rfl
 unfold ny;rw[if_neg dQ,if_neg zQ,FO,agu,if_neg dQ]
theorem anl:runM Cn [] []= .ok ([],[(kEx,⟨1,4607182418800017408,⟨#[]⟩⟩)]):=by rfl
abbrev wEx:GW:=[(kEx,⟨1,4607182418800017408,⟨#[]⟩⟩)]
theorem Zt:nK Mp kEx=some rg1:=by kernel_rfl
theorem agv:FP wEx=[⟨kEx,⟨1,4607182418800017408,⟨#[]⟩⟩⟩]:=by
 unfold FP;rw[show(wEx.map (·.1))=[kEx] from rfl,Vl];rfl
theorem alg:tN Cn ⟨0,0,21⟩ 5 Mp=0:=by
 unfold tN;rw[acM,FO];rfl
abbrev Zu:bX:=⟨7,0,1⟩
abbrev Mq:bu:=⟨1,1,1⟩
theorem agw:(jm Mq Zu [1]).fF=0:=by kernel_rfl
def Ir:cD:=⟨4,1,21,Mq,1,0,0,Zu,.zero,false,0,0,[],[],[],[],[],[],.zero⟩
theorem alh:Ir.err=0:=by rfl
theorem anm {st:State} (h1:st.iG=[]) (h2:st.ib=[]):st.small:=⟨by rw[h1];exact λ_ h=>absurd h sQ,by rw[h2];exact λ_ h=>absurd h sQ,by rw[h1];exact λ_ h=>absurd h sQ,by rw[h2];exact λ_ h=>absurd h sQ⟩
theorem agx:Ir.small:=⟨by decide,by decide,by simp[Ir],by simp[Ir],anm rfl rfl⟩
theorem aiJ:Ir.lens<=2^62:=by decide
theorem aiK:bX.later .zero Zu=Zu:=by rfl
theorem Mr:Ct pg 37 #[] w X nX λv wa w'=>Own w' (made wa w') wa.heap.size 48 4 v (Mo.map eY.l):=by
 intro w0 hk;refine PR.1 λhs=>?_;repeat' refine ao ?_;intros
 refine Xb (rows:=Mo.map eY.l) (rg1.l++rg2.l).toArray eY.zero.v hs.has (bytes:=32) kQ kQ zQ zQ kQ sQ rfl rfl λv2 w2 X2 bA jV=>?_;exact bQ (hs.trans bA) λIi aK=>(jV.kp aK).tight
end Go.Proofs.YtgfijddlkhkopaaGreat