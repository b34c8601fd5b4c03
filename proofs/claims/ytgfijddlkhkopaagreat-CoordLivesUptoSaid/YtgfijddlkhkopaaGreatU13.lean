/- Part 13 of the proof. -/
import Derived.Shelf.Abstract
import Derived.Test.YtgfijddlkhkopaaGreatU12
set_option linter.all false
open Nat renaming le_refl → au, le_succ → dF, le_trans → ad, zero_le → aq, le_of_ble_eq_true → ea, le_succ_of_le → ua, le_add_right → iG
open List renaming length_append → aa, mem_singleton → aw, length_map → ah, length_nil → br, map_append → aD, map_congr_left → ee, map_cons → bm, length_cons → aK, mem_of_getElem? → aA, append_assoc → ao, length → ba, map_map → bz, map_nil → kR, mem_cons → ic, not_mem_nil → dH, take_add_one → cj, mem_cons_of_mem → bG, take_of_length_le → az, take_append_drop → fq, flatten_cons → cW, getElem?_cons_succ → uK, sum_append → BK, dropLast_concat → jF, mem_of_mem_take → dI, mem_of_mem_drop → da
open Option.some renaming inj → bU, injEq → aj
open Classical renaming byContradiction → eB
open Go.World renaming cell? → fj, frozen? → yQ, putObj_heap_same → j9, putObj_heap_other → fy
open Int renaming le_refl → sV
open Bool renaming and_eq_true → aF, noConfusion → A9
open Go.Obj.cells renaming injEq → BL
namespace Go.Proofs.YtgfijddlkhkopaaGreat
open Go.Proofs.Tryz renaming prog → pg
open Go.aL
set_option maxRecDepth 100000
set_option maxHeartbeats 4000000
attribute [local irreducible] un jn jk iA ld1 su st1 kT kU oY rE pH Jp Ew gR gu aX lR lS eW eV eU eC eF gE mR fin iE bu dG vS NO Jq Jr Js Jt Ju NP NR NS NT FN FO Jv Jw Jx NU NV NW
variable {z : Int} {xs : List Int} {a : Value} {X : XS} {w : World}
theorem aa3 (ha:Sl w X 1 a (xs.map I1)):Ct pg 107 #[a,I z] w X nX λv _ _=>v=I (idxOf (λy=>decide (y=z)) xs):=by
 intro w0 hk;replace ha:=ha.mv hk.cr;have kG:=ha.gO;refine Dr.1 λhs=>?_;repeat' refine ak ?_;intros
 refine fp (λn a w X=> ∃i:Nat,a=I (i:Nat)/\n=(xs).length-i/\i<=(xs).length/\ai (bK w0) w0 X w/\(∀(j:Nat) x,j<i->xs[j]? =some x->decide (x=z)=false)) (xs).length ⟨0,rfl,rfl,aq _,hs,by simp⟩ ?_;rintro n a w X ⟨i,rfl,rfl,hi,hs,hw⟩;rcases dA (xs) i with⟨cB,x,hx,hd⟩|⟨dB,hd⟩
 ·repeat' first|refine aJ ?_;intros|refine cQ ?_ ?_<;>intros|(refine qr ?_;intro wa hk;(subst_vars;rw[B7 hw hx sQ]))|((with_reducible refine eP ((xs).length-(i+1)) ?_ ?_);omega;exact⟨i+1,by simp,rfl,by omega,hs,λj y hj hy=>by rcases Nat.lt_succ_iff_lt_or_eq.1 hj with h|h;exact hw j y h hy;subst h;rw[hx] at hy;cases hy;simp;intro e;simp_all⟩)
 ·repeat' first|refine aJ ?_;intros|(refine qr ?_;intro wa hk;(rw[yq λj x hj hx=>hw j x zQ hx]))
def mf (t:bE):Rec:=⟨10,t,.zero,.zero,false,0,0,[],[],[],[],.zero⟩
theorem QY (t:bE):ga (mf t)=encI 10++nA t:=by simp[ga,mf]
def mD (n:bo) (b:Nat) (d:B6):bo:= { n with C:=λb'=>if b'=b then d else n.C b' }
def rZ (d:B6) (i:Nat) (v2:Value) (en:Bool):B6:= { d with v2:=v2,waits:=d.waits.take i++d.waits.drop (i+1),ended:=en }
structure adL (n:bo) (m:cJ) (b i:Nat):Prop where
 g:getM m.aM n.bl=some b
 en:(n.C b).ended=false
 gI:(n.C b).waits[i]? =some m.range
def adM (n:bo) (m:cJ) (n':bo):Prop:=
 n'=n\/ ∃b i v2,adL n m b i/\(((n.C b).waits.length≠1/\n'=mD n b (rZ (n.C b) i v2 false))\/
  ((n.C b).waits.length=1/\(jz n (mf m.aM)).2.2≠12/\n'=mD (Ll n (mf m.aM)) b (rZ (n.C b) i v2 (decide ((jz n (mf m.aM)).2.2=0)))))
def adN (n:bo) (m:cJ) (m':DM):Prop:= ∃b i,adL n m b i/\(n.C b).waits.length=1/\MQ n (mf m.aM) m'
structure adO (n:bo) (m:cJ):Prop where
 co:m.aM.ep=n.c.id
 al:getM m.aM n.al=none
 aR:m.aM.aR<=n.c.aR
 sq:m.aM.aR=n.c.aR->m.aM.sq<=n.c.gg
def amn (m:cJ) (no:Int) (cm:Option cn):cJ:= { BZ with kind:=5,fr:=no,to:=m.fr,aM:=m.aM,range:=m.range,jG:=cm.isSome,aV:=cm.getD .zero }
def adP (n:bo) (m:cJ) (n':bo):Prop:=(¬adO n m/\n'=n)\/(adO n m/\Told n [amn m (20+n.c.id) ((getM m.aM n.bl).map λb=>(n.C b).r.aV)] n')
variable {w' w0 wa : World} {X' : XS} {own aG bN : Nat -> Nat} {n' : bo} {M N b i : Nat} {d : B6} {sg : dN} {pre : List dN} {vc vd vh vk vp vr vs vw : Value} {m : cJ}
section
variable {n : bo}
theorem Lq {n:bo} :(mD n b d).C b=d:=if_pos rfl
theorem Ut {n:bo} {e:B6} :mD (mD n b d) b e=mD n b e:=by
 unfold mD
 congr 1
 funext b'
 by_cases h:b'=b<;>simp[h]
theorem Wj {Q:Nat->Prop} (h: ∀i,Q (tx b i)-> ∀w K A,(JE b (n.C b) i).p w K A->(JE b d i).p w K A:=by intro i hq w K A h;rcases i with _|_|_|_|_|_|_|_|i<;>first|exact h|exact absurd rfl hq.1|exact absurd rfl hq.2.1|exact absurd rfl hq.2.2|exact absurd rfl hq): ∀c,Q c-> ∀w K A,(dR n c).p w K A->(dR (mD n b d) c).p w K A:=
 (ny (aqy h): ∀c,Q c-> ∀w K A,(dR n c).p w K A->(dR (mD n b d) c).p w K A)
theorem MR {K A:XS} (hi:i=4\/i=5\/i=6) (h:(JE b d i).p w K A):(dR (mD n b d) (tx b i)).p w K A:=by
 rw[vI _ _ _ zQ];rcases hi with rfl|rfl|rfl<;>(simp only[zg,CW,Lq];exact λ_=>h)
theorem Yk (h:jy w own n) (hX:qV own X) (jl:oC ⟨n.L,n.m⟩ pre sg) (hk:sR N M n):
  EU pg 57 #[ptr n.nb 0,m.v vk vs vw vp vr vc vh vd] w X (gF own) (λ_ wa w'=>NQ dR own wa w' λ_ n'=>adM n m n') (λch wa w'=>ch=A8/\DQ own n.nb n.db wa w' (adN n m)):=by
 intro w0 ik;have s:=St.init h hX ik;clear h hX ik;have hr:=s.v.1;have hs:=s.rf;refine Lr.1 λ_=>?_;repeat' refine ak ?_;intros
 refine mL (kt:=34) (et:=124) (kv:=λk:bE=>k.v) (k:=m.aM) (.pointer none) (s.zP 6:) sK kQ kQ (λv b kW rD=>?_) (λhn=>?_);case refine_2=>
  repeat' refine ak ?_;intros
  exact s.xN λ_ _=>.inl rfl
 simp only[xw] at rD;subst rD;obtain⟨hb,hbt⟩:=hk.byT _ _ kW;obtain⟨hc,o2,o1,Ht⟩:=s.vc hb;have hw8:=Ht.gO;by_cases By:(n.C b).ended=true
 ·rw[By] at hc;repeat' refine ak ?_;intros
  exact s.xN λ_ _=>.inl rfl
 replace By:(n.C b).ended=false:=by simpa using By
 rw[By] at hc;repeat' refine ak ?_;intros
 refine dS (aa3 (z:=m.range) Ht) kQ hs.has λw1 X1 ax=>?_;have s1:=s.since (hs.trans ax);clear hs ax hc Ht s hr;have hs:=s1.rf;obtain⟨hc,-⟩:=s1.vc hb;rw[By] at hc;rcases GP (p:=λy:Int=>decide (y=m.range)) (l:=(n.C b).waits)with⟨e,_⟩|⟨i,y,hy,hyp,e⟩
 ·rw[e];repeat' refine aJ ?_;intros
  exact s1.xN λ_ _=>.inl rfl
 rw[e];obtain rfl:y=m.range:=by simpa using hyp
 have hD:adL n m b i:=⟨kW,By,hy⟩;have pK:i<(n.C b).waits.length:=(List.getElem?_eq_some_iff.1 hy).1;have iC:=s1.h.BJ hb;rw[By] at iC;repeat' refine aJ ?_;intros
 refine s1.ahB (tx b 4) (tx b 5) 0 iC.1 iC.2.1 (aaR (F:=X1) (iC.2.1.mono (s1.sub _ ir.1)) (λ_ h=>h) (by rw[ah];exact pK) λr hr u hu=>by obtain⟨x,_,rfl⟩:=List.mem_map.1 hr;rw[aw] at hu;subst hu;rfl) (λv=>dR (mD n b (rZ (n.C b) i v false)))
  (λ_ _ _ _ h=>MR dQ h) (λ_ _ _ _ h=>MR dQ (by rw[<-List.map_take,<-List.map_drop,<-aD] at h;exact h)) (λ_ _ _ _ _ h=>h) (λv=>Wj) (λv w2 X2 lE s2 m2=>?_) (yD:=by unfold tx;omega)
 clear hs hc iC s1;obtain⟨n3,sx⟩: ∃n3:bo,n3=mD n b (rZ (n.C b) i v false):=⟨_,rfl⟩;have e3:n3.C b=rZ (n.C b) i v false:=by rw[sx];exact Lq
 have f3:n3.nb=n.nb/\n3.db=n.db/\n3.L=n.L/\n3.m=n.m/\n3.cl=n.cl:=by rw[sx];exact⟨rfl,rfl,rfl,rfl,rfl⟩
 rw[<-sx] at s2;have xt:((n.C b).waits.take i++(n.C b).waits.drop (i+1)).length=(n.C b).waits.length-1:=by simp;omega
 have rC:b∈n3.cl:=by rw[f3.2.2.2.2];exact hb
 have hs:=s2.rf;obtain⟨hc,o2,o1,Ht⟩:=s2.vc rC;rw[e3] at hc o2 o1 Ht;have asS:Sl w2 X2 1 v (((n.C b).waits.take i++(n.C b).waits.drop (i+1)).map I1):=Ht;by_cases h1:(n.C b).waits.length=1;case neg=>
  repeat' first|refine aJ ?_;intros|with_reducible apply cD|(refine aoH undef rfl ?_)
  exact s2.xN λ_ _=>.inr ⟨b,i,_,hD,.inl ⟨h1,sx⟩⟩
 rw[<-f3.1,<-f3.2.1];have eK:jz n3 (mf m.aM)=jz n (mf m.aM):=by unfold jz;rw[f3.2.2.1,f3.2.2.2.1]
 repeat' first|refine aJ ?_;intros|with_reducible apply cD
 refine s2.Gc (Ye:=adN n m) (EW (r:=mf m.aM) s2.h s2.x (by rw[f3.2.2.1,f3.2.2.2.1];exact jl) (abX rfl rfl rfl rfl rfl) (DY rfl rfl rfl) (by rw[QY];have:=fz 10;have:=CX m.aM;simp only[aa];omega)) kQ (λv4 w4 X4 lF n4 s4 ⟨k1,k2,k3⟩ m4=>?_) λm' TV=>⟨b,i,hD,h1,by unfold MQ at TV⊢;rwa [eK] at TV⟩;obtain⟨z,hz⟩: ∃z,z=(jz n (mf m.aM)).2.2:=⟨_,rfl⟩;rw[eK,<-hz] at k1 k2;subst k2;have yC:b∈n4.cl:=by rw[k3];exact rC
 have e4:n4.C b=rZ (n.C b) i v false:=by rw[k3];exact e3
 have ek:n4=mD (Ll n (mf m.aM)) b (rZ (n.C b) i v false):=by rw[k3];unfold Ll;rw[eK,sx];rfl
 clear hs hc;have hs:=s4.rf;obtain⟨hc,-⟩:=s4.vc yC;rw[e4] at hc;by_cases KL:z=0
 ·repeat' refine aJ ?_;intros
  refine s4.st (o:=30) (tx b 4) (s4.h.BJ yC).1 (dR (mD n4 b (rZ (n.C b) i v true))) zQ kQ sQ rfl (λ_ _ _ h=>MR dQ (by rw[e4] at h;exact h)) (Wj (by rw[e4];intro i hq w K A h;rcases i with _|_|_|_|_|_|_|_|i<;>first|exact h|exact absurd rfl hq)) (λw5 X5 mA s5 m5=>?_) ir.1 ir.2;clear hs
  skip
  exact s5.xN λ_ _=>.inr ⟨b,i,v,hD,.inr ⟨h1,by rw[<-hz];exact k1,by rw[ek,Ut,<-hz,KL];rfl⟩⟩
 ·repeat' refine aJ ?_;intros
  exact s4.xN λ_ _=>.inr ⟨b,i,v,hD,.inr ⟨h1,by rw[<-hz];exact k1,by rw[ek,<-hz,decide_eq_false zQ]⟩⟩
theorem Vt (h:jy w own n) (hX:qV own X) (hk:sR N M n):
  Ct pg 58 #[ptr n.nb 0,m.v vk vs vw vp vr vc vh vd] w X (gF own) λ_ wa w'=>NQ dR own wa w' λ_ n'=>adP n m n':=by
 intro w0 ik;have s:=St.init h hX ik;have hi:1<=n.c.id/\n.c.id<=2:=by rw[hk.id];decide
 clear h hX ik;have hr:=s.v.1;have hs:=s.rf;refine JY.1 λ_=>?_;have xz: ¬adO n m->aL.fin (uF (gF own) w0 λv w'=>NQ dR own w0 w' λ_ n'=>adP n m n') (bK w0) w0 (.tuple #[]):=λhA=>s.fin λ_ _=>.inl ⟨hA,rfl⟩;by_cases hc:m.aM.ep=n.c.id;case neg=>
  repeat' refine aJ ?_;intros
  exact xz λh=>hc h.co
 repeat' refine aJ ?_;intros
 refine mL (kt:=34) (et:=116) (kv:=λk:bE=>k.v) (k:=m.aM) (.pointer none) (s.zP 5:) sK kQ kQ (λv a kW rD=>?_) (λhn=>?_)
 ·simp only[xw] at rD;subst rD;repeat' refine ak ?_;intros
  all_goals exact xz λh=>by rw[h.al] at kW;cases kW
 by_cases hA:adO n m;case neg=>
  have h3:n.c.aR<m.aM.aR\/(m.aM.aR=n.c.aR/\n.c.gg<m.aM.sq):=by
   by_cases h1:n.c.aR<m.aM.aR
   ·exact .inl h1
   ·exact .inr (eB λh2=>hA ⟨hc,hn,by omega,λe=>by omega⟩)
  repeat' first|refine aJ ?_;intros|refine cQ ?_ ?_<;>intros
  all_goals exact xz hA
 have CK:=hA.aR;have xt:=hA.sq;repeat' first|refine aJ ?_;intros|refine cQ ?_ ?_<;>intros
 all_goals
  refine ij (Q:=λK=> ∀cm:Option cn,cm=((getM m.aM n.bl).map λb=>(n.C b).r.aV)->K (.agg (({ BZ with kind:=5,aM:=m.aM,range:=m.range,jG:=cm.isSome,aV:=cm.getD .zero } :cJ).l aP aP aP aP aP aP aP aP).toArray)) (λcm iC=>?_) (λK hK=>?_)
  ·refine dS (Ba hr (λ_ h=>h) hi) kQ hs.has λw1 X1 ax=>?_;have s1:=s.since ax;clear hs hr;have hs:=s1.rf;have hr:=s1.v.1;repeat' first|refine ak ?_;intros|(refine q1e hs ?_;intro _ _ _ w X hs ho)
   have s2:=s1.since hs;have jw:=fT.ahU ⟨_,_,_,_,_,_,_,_,rfl,(SJ:(amn m (20+n.c.id) cm).at w (bQ own 4) aP aP aP aP aP aP aP aP)⟩;refine s2.ap2 1 8 11 (s2.get 1) (s2.get 8) ho.sl jw.Xx (by rw[hk.rm];simp) (λv=>dR { n with vm:=v,rm:=_,ms:=_ }) (λ_ _ _ _ h=>h) (λ_ _ _ _ h=>h) (λ_ _ _ _ mv h=>fT.app h (jw.mv mv)) (λv'=>ny) λv' w' X' aG s' m'=>?_;clear hs hr
   skip
   exact s'.fin λ_ _=>.inr ⟨hA,_,_,by rw[iC],by simp⟩
  ·repeat' refine ak ?_;intros
   refine mL (kt:=34) (et:=124) (kv:=λk:bE=>k.v) (k:=m.aM) (.pointer none) (s.zP 6:) sK kQ kQ (λv b kW rD=>?_) (λhn2=>?_)
   ·simp only[xw] at rD;subst rD;obtain⟨hb,_⟩:=hk.byT _ _ kW;obtain⟨hc,o2,o1,Ht⟩:=s.vc hb;repeat' refine ak ?_;intros
    exact hK (some (n.C b).r.aV) (by rw[kW];rfl)
   ·repeat' refine ak ?_;intros
    exact hK none (by rw[hn2];rfl)
end
section
variable {nb : Nat} {x0 x1 x2 x3 x4 x5 x6 x7 x8 x9 vm va : Value}
theorem SK (h:aH w X nb [x0,x1,x2,x3,x4,x5,x6,x7,x8,x9,vm,va] nT):Ct pg 52 #[ptr nb 0,ET] w X (· =nb) λv _ w'=>v= .tuple #[.agg #[aP,aP],I 12]/\aH w' (· =nb) nb [x0,x1,x2,x3,x4,x5,x6,x7,x8,x9,aP,aP] nT:=by
 intro w0 hk;have FK:=h.mv hk.cr;have Ls:Ft w0 (λk=>k=nb) w0 (bK w0) (λk=>k=nb):=Ft.init λk e=>by subst e;exact FK.1
 have hs:=ai.init w0;refine Iy.1 λ_=>?_;repeat' first|with_reducible apply cD|(with_reducible refine aku ?_ ?_);(· kernel_rfl)|(with_reducible apply ajG);rfl|with_reducible apply Yl|with_reducible apply afG|with_reducible apply abY|with_reducible apply SL|((with_reducible apply Ym))
 refine dJ.2 ⟨rfl,dJ.2 ⟨rfl,?_⟩⟩;repeat' first|with_reducible apply Yl|with_reducible apply SL
 repeat' refine ak ?_;intros
 rename_i o2 kq _;obtain rfl:o2=10:=by omega
 refine FU FK rfl kQ sQ rfl rfl Ls.s.has λw2 X2 c2 jD=>?_;replace jD:aH w2 X2 nb [x0,x1,x2,x3,x4,x5,x6,x7,x8,x9,aP,aP] nT:=jD;have cY:Ft w0 (λk=>k=nb) w2 X2 (λk=>k=nb):=Ls.dX c2 (λk hk=>hk) λk hk=>.inl hk;clear hs;repeat' refine ak ?_;intros
 exact cY.fin λwa aI=>⟨rfl,rfl,(aI.block nb jD.1).trans jD.2⟩
end
variable {ty : TypeId}
theorem Iz {o:Nat} {cs:Array Value} (v:Value) (hb:w.heap[b]? =some (.cells cs ty (0,0))) (k:Nat):(w.setCell ⟨b,o,none⟩ v).heap[k]? =if k=b then some (.cells (cs.setIfInBounds o v) ty (0,0))else w.heap[k]? :=by
 unfold World.setCell;simp only[Array.getElem?_modify]
 grind
theorem adQ:Tryz.f25.results= #[.cell 6 32,.cell 7 37]:=by kernel_rfl
variable {R : Ending -> World -> Prop}
theorem Yn {RP:List PanicEntry->World->Prop} {cv:List (Option Value)} {nb:Nat} (hcv:cv[0]? =some (some (ptr nb 0)))
  (hR: ∀ch w,RP ch w->ch=A8/\ ∃x0 x1 x2 x3 x4 x5 x6 x7 x8 x9 vm va,aH w (· =nb) nb [x0,x1,x2,x3,x4,x5,x6,x7,x8,x9,vm,va] nT/\ ∀w2,w2.os=w.os->w2.tape=w.tape->w2.output=w.output->w.heap.size<=w2.heap.size->(∀k,k<w.heap.size->k≠nb->w2.heap[k]? =w.heap[k]?)->
   aH w2 (· =nb) nb [x0,x1,x2,x3,x4,x5,x6,x7,x8,x9,aP,aP] nT->R (.returned (.tuple #[.agg #[aP,aP],I 12])) w2):
  QZ pg CY Tryz.f25 R 51 [3,6,7] cv RP:=by
 intro ks EY ch w wP na ry hh hv gd hRP;obtain⟨k0,k1,k2,rfl⟩: ∃a b c,ks=[a,b,c]:=by
  match ks,wP with
  |[a,b,c],_=>exact⟨a,b,c,rfl⟩
 obtain⟨c0,c1,c2,rfl⟩: ∃a b c,EY=[a,b,c]:=by
  match EY,na with
  |[a,b,c],_=>exact⟨a,b,c,rfl⟩
 obtain⟨ty0,g0⟩:=hh 0 k0 c0 rfl rfl;obtain⟨Uu,g1⟩:=hh 1 k1 c1 rfl rfl;obtain⟨NB,g2⟩:=hh 2 k2 c2 rfl rfl;have e0:=hv 0 (ptr nb 0) c0 hcv rfl;have s1:c1.size=2:=gd 1 6 2 c1 rfl kQ rfl;have s2:c2.size=1:=gd 2 7 1 c2 rfl kQ rfl;subst e0;obtain⟨rfl,x0,x1,x2,x3,x4,x5,x6,x7,x8,x9,vm,va,bw,_⟩:=hR _ _ (hRP w (aL.Outside.refl _ _));refine callsD_of_wpS Tryz.func51 rfl λc₀ cs hu=>?_;rw[Tryz.ntmps51];simp only[bm,kR,List.size_toArray,aK,br];apply wpS_seq;apply wpS_region;simp[wpOpsS,go_sem,recoverD,hu,Exit.thenS];have ht:(#[ej k0 0,ej k1 0,ej k2 0]++((Array.replicate 10 undef).setIfInBounds 1 ET).setIfInBounds 0 ET)= #[ej k0 0,ej k1 0,ej k2 0,ET,ET,undef,undef,undef,undef,undef,undef,undef,undef]:=rfl;rw[ht];apply wpS_seq;apply wpS_region;simp[wpOpsS,go_sem,Exit.thenS];refine wpS_cond (t:=true) (by rfl) ?_;simp only[if_true];apply wpS_region;have wF:w.cell? ⟨k0,0,none⟩=some (ptr nb 0):=by simp[fj,g0]
 simp[wpOpsS,go_sem,ej,wF];refine(SK (X:=(· =nb)) (bw.mono λ_ h=>h) w (Kp.refl _ _)).mono ?_;rintro _ w2 ⟨v,rfl,wT,rfl,jD⟩;have n1:k1≠nb:=λe=>by
  rw[e,bw.2] at g1;simp only[aj,BL] at g1;rw[<-g1.1] at s1;simp at s1
 have n2:k2≠nb:=λe=>by
  rw[e,bw.2] at g2;simp only[aj,BL] at g2;rw[<-g2.1] at s2;simp at s2
 have l1:=(Array.getElem?_eq_some_iff.1 g1).1;have l2:=(Array.getElem?_eq_some_iff.1 g2).1;have g1':w2.heap[k1]? =_:=(wT.block k1 l1 n1).trans g1;have g2':w2.heap[k2]? =_:=(wT.block k2 l2 n2).trans g2;obtain⟨a1,b1,rfl⟩: ∃a b,c1= #[a,b]:=by
  match c1,s1 with
  |⟨[a,b]⟩,_=>exact⟨a,b,rfl⟩
 obtain⟨a2,rfl⟩: ∃x,c2= #[x]:=by
  match c2,s2 with
  |⟨[x]⟩,_=>exact⟨x,rfl⟩
 have aqz:w2.cell? ⟨k1,0,none⟩=some a1:=by simp[fj,g1']
 have aqA:w2.frozen? ⟨k1,0,none⟩=false:=by simp[yQ,g1']
 have r3: ∀k,(w2.setCell ⟨k1,0,none⟩ aP).heap[k]? =if k=k1 then some (.cells #[aP,b1] Uu (0,0))else w2.heap[k]? :=λk=>by rw[Iz _ g1'];rfl
 simp only[List.nodup_cons,ic,dH,or_false,not_or] at ry;generalize vN:w2.setCell ⟨k1,0,none⟩ aP=w3 at r3;have g13:w3.heap[k1]? =some (.cells #[aP,b1] Uu (0,0)):=by rw[r3,if_pos rfl]
 have aqB:w3.cell? ⟨k1,1,none⟩=some b1:=by simp[fj,g13]
 have aqC:w3.frozen? ⟨k1,1,none⟩=false:=by simp[yQ,g13]
 have r4: ∀k,(w3.setCell ⟨k1,1,none⟩ aP).heap[k]? =if k=k1 then some (.cells #[aP,aP] Uu (0,0))else w3.heap[k]? :=λk=>by rw[Iz _ g13];rfl
 generalize FM:w3.setCell ⟨k1,1,none⟩ aP=w4 at r4;have g24:w4.heap[k2]? =some (.cells #[a2] NB (0,0)):=by rw[r4,if_neg (λe=>ry.2.1 e.symm),r3,if_neg (λe=>ry.2.1 e.symm)];exact g2'
 have qi:w4.cell? ⟨k2,0,none⟩=some a2:=by simp[fj,g24]
 have Xa:w4.frozen? ⟨k2,0,none⟩=false:=by simp[yQ,g24]
 simp[go_sem,storeCells,aqz,aqA,vN,aqB,aqC,FM,qi,Xa,Addr.add];have r5: ∀k,(w4.setCell ⟨k2,0,none⟩ (.int .i64 12)).heap[k]? =if k=k2 then some (.cells #[I 12] NB (0,0))else w4.heap[k]? :=λk=>by rw[Iz _ g24];rfl
 generalize hw5:w4.setCell ⟨k2,0,none⟩ (.int .i64 12)=w5 at r5;have g15:w5.heap[k1]? =some (.cells #[aP,aP] Uu (0,0)):=by rw[r5,if_neg ry.2.1,r4,if_pos rfl]
 have g25:w5.heap[k2]? =some (.cells #[I 12] NB (0,0)):=by rw[r5,if_pos rfl]
 have EZ: ∀k,k≠k1->k≠k2->w5.heap[k]? =w2.heap[k]? :=λk h1 h2=>by rw[r5,if_neg h2,r4,if_neg h1,r3,if_neg h1]
 have wO:w5.os=w.os/\w5.tape=w.tape/\w5.output=w.output/\w5.heap.size=w2.heap.size:=by
  rw[<-hw5,<-FM,<-vN];exact⟨wT.os,wT.tape,wT.output,by simp[World.setCell]⟩
 have hnl:nb<w.heap.size:=bw.lt;have fP:aL.Outside [k0,k1,k2] w (w5.putObj nb (.cells [x0,x1,x2,x3,x4,x5,x6,x7,x8,x9,vm,va].toArray nT)):=by
  refine⟨wO.1,wO.2.1,wO.2.2.1,?_,λk hl hk=>?_⟩
  ·have:=wT.size;have:=wO.2.2.2;simp[World.putObj];omega
  ·simp only[ic,dH,or_false,not_or] at hk;by_cases e:k=nb
   ·subst e;rw[j9 (by have:=wT.size;omega)];exact bw.2.symm
   ·rw[fy (λh=>e h),EZ k hk.2.1 hk.2.2];exact wT.block k hl e
 obtain⟨_,y0,y1,y2,y3,y4,y5,y6,y7,y8,y9,wm,wv,DT,hR2⟩:=hR _ _ (hRP _ fP);have ajH:=DT.2;rw[j9 (by have:=wT.size;omega)] at ajH;have hl:=congrArg Array.toList (Obj.cells.inj (bU ajH)).1;simp only[List.cons.injEq,and_true] at hl;obtain⟨rfl,rfl,rfl,rfl,rfl,rfl,rfl,rfl,rfl,rfl,rfl,rfl⟩:=hl;have hRw:R (.returned (.tuple #[.agg #[aP,aP],I 12])) w5:=hR2 w5 rfl rfl rfl (by simp[World.putObj]) (λk _ hk=>(fy hk).symm) ⟨rfl,(EZ nb n1.symm n2.symm).trans jD.2⟩;have aqD:w5.cell? ⟨k2,0,none⟩=some (I 12):=by simp[fj,g25]
 refine⟨rfl,.panicking [{ v:=ET,recovered:=true }],rfl,.tuple #[],?_,⟨_,rfl⟩,rfl,_,hRw,λtmps ht=>?_⟩
 ·simp[results,Tryz.results51]
 ·unfold results;rw[adQ];obtain⟨fs,hu⟩: ∃fs,pg.underlying 32=some (.struct fs):=⟨_,rfl⟩;have q1:(loadVar 32 ⟨k1,0,none⟩).run pg w5= .ok (.agg #[aP,aP]) w5:=run_loadVar_row w5 k1 _ _ _ _ (.struct fs) g15 hu rfl kQ;simp[ht 1 6 k1 rfl rfl,ht 2 7 k2 rfl rfl,asAddr,q1,(Uv aqD)]
abbrev Wk:Value:=.tuple #[.agg #[aP,aP],I 12]
def Gf (n:bo) (m:cJ) (n1:bo):Prop:=
 (¬(m.err=0/\m.to=20+n.c.id)/\n1=n)\/(m.err=0/\m.to=20+n.c.id/\((m.kind=2/\ac8 n m n1)\/(m.kind=4/\Wi n m n1)\/(m.kind=6/\adM n m n1)\/(m.kind=7/\adP n m n1)\/(¬m.kind=2/\ ¬m.kind=4/\ ¬m.kind=6/\ ¬m.kind=7/\n1=n)))
def IA (n:bo) (m:cJ) (m':DM):Prop:=m.err=0/\m.to=20+n.c.id/\((m.kind=4/\adJ n m m')\/(m.kind=6/\adN n m m'))
theorem abZ (h:m.err=0) (hk:m.kind=2\/m.kind=4):m.aV.may=true:=by
 unfold cJ.err at h;split at h
 ·cases h
 ·split at h
  ·cases h
  ·rename_i _ h2;simp only[Bool.or_eq_true,Bool.not_eq_true',not_or,Bool.not_eq_false] at h2;have h3:=h2.2;unfold cJ.pZ at h3;rw[if_pos zQ] at h3;unfold cJ.MS at h3;rcases hk with e|e<;>simp[e] at h3<;>simp_all
structure Cs (n n':bo):Prop where
 nb:n'.nb=n.nb
 db:n'.db=n.db
 ex:n'.ex=n.ex
 pre:n'.pre=n.pre
variable {n1 : bo} {pp : Bool} {gM : Int}
section
variable {n : bo}
theorem sR.dV (h:sR N M n):Go.Proofs.YtgfijddlkhkopaaGreat.dV n=n:=by
 have q: ∀{a b c d e},n.vm=a->n.va=b->n.rm=c->n.ra=d->n.ms=e->({ n with vm:=a,va:=b,rm:=c,ra:=d,ms:=e } :bo)=n:=by
  rintro _ _ _ _ _ rfl rfl rfl rfl rfl;rfl
 exact q h.vm h.va h.rm h.ra h.ms
theorem Told.nb {l:List cJ} (h:Told n l n'):Cs n n':=by obtain⟨_,_,rfl,_⟩:=h;exact⟨rfl,rfl,rfl,rfl⟩
theorem Cs.of {n2:bo} (h:Cs n1 n2) (e:n1.nb=n.nb/\n1.db=n.db/\n1.pre=n.pre:=by exact⟨rfl,rfl,rfl⟩):Cs n { n2 with ex:=n.ex } :=⟨h.nb.trans e.1,h.db.trans e.2.1,rfl,h.pre.trans e.2.2⟩
theorem Cs.by (h:Cs n1 n') (e:n1.nb=n.nb/\n1.db=n.db/\n1.ex=n.ex/\n1.pre=n.pre:=by exact⟨rfl,rfl,rfl,rfl⟩):Cs n n':=⟨h.nb.trans e.1,h.db.trans e.2.1,h.ex.trans e.2.2.1,h.pre.trans e.2.2.2⟩
theorem OV.nb (h:OV n b n'):Cs n { n' with ex:=n.ex } :=by
 rcases h with⟨_,_,_,_,h⟩|⟨_,_,_,_,_,_,_,_,_,_,h⟩<;>exact h.nb.of
theorem ML.nb (h:ML n m pp n'):Cs n n':=by
 obtain⟨_,_,_,_,_,_,_,_,rfl⟩:=h;exact⟨rfl,rfl,rfl,rfl⟩
theorem Gf.nb (h:Gf n m n'):Cs n n':=by
 rcases h with⟨_,rfl⟩|⟨_,_,⟨_,h⟩|⟨_,h⟩|⟨_,h⟩|⟨_,h⟩|⟨_,_,_,_,rfl⟩⟩
 ·exact⟨rfl,rfl,rfl,rfl⟩
 ·rcases h with⟨_,rfl⟩|h|⟨_,_,_,_,_,_,_,n1,_,rfl,⟨_,rfl⟩|⟨_,n2,h,rfl⟩⟩
  ·exact⟨rfl,rfl,rfl,rfl⟩
  ·exact h.nb
  ·exact⟨rfl,rfl,rfl,rfl⟩
  ·exact h.nb.by
 ·rcases h with⟨_,rfl,_⟩|h|⟨_,_,_,_,_,_,n1,_,rfl,⟨_,rfl⟩|⟨_,⟨_,_,_,h⟩|⟨_,_,_,_,_,_,_,_,_,h⟩⟩⟩
  ·exact⟨rfl,rfl,rfl,rfl⟩
  ·exact h.nb
  ·exact⟨rfl,rfl,rfl,rfl⟩
  all_goals exact h.nb.by
 ·rcases h with rfl|⟨_,_,_,_,⟨_,rfl⟩|⟨_,_,rfl⟩⟩<;>exact⟨rfl,rfl,rfl,rfl⟩
 ·rcases h with⟨_,rfl⟩|⟨_,h⟩
  ·exact⟨rfl,rfl,rfl,rfl⟩
  ·exact h.nb
 ·exact⟨rfl,rfl,rfl,rfl⟩
theorem Lt (h:jy w own n) (hX:qV own X) (jl:oC ⟨n.L,n.m⟩ pre sg) (hm:m.at w (bQ own 4) vk vs vw vp vr vc vh vd) (hk:sR N M n) (hN:N+m.seen.length<=2^20) (mK:m.small) (AU:m.lens<=2^62):
  Ct pg 25 #[ptr n.nb 0,I gM,m.v vk vs vw vp vr vc vh vd] w X (gF own) λv wa w'=>Sw own wa w' (Gf n m) (λn1=>v= .tuple #[.agg #[n1.vm,n1.va],I 0])\/(v=Wk/\DQ own n.nb n.db wa w' (IA n m)):=by
 intro w0 ik;have s:=St.init h hX ik;replace hm:=hm.mv (yF hX ik);have hi:1<=n.c.id/\n.c.id<=2:=by rw[hk.id];decide
 clear h hX ik;have n1:own n.nb=1:=(s.get 1).1;refine BM.g (RP:=λch w'=>ch=A8/\Fr (gF own) w0 w'/\DQ own n.nb n.db w0 w' (IA n m)) (g0:=51) (cb:=[3,6,7]) (cv:=[some (ptr n.nb 0),none,none]) kQ (.inr kQ) Ob (Yn rfl λch w' hr=>?_) ?_
 ·obtain⟨rfl,hf,aG,m',e,hd,hq⟩:=hr;obtain⟨x0,x1,x2,x3,x5,x6,x7,x8,x9,vm,va,hr⟩:=hd.gI 1 dQ dQ;refine⟨rfl,x0,x1,x2,x3,B true,x5,x6,x7,x8,x9,vm,va,⟨rfl,hr.2⟩,λw2 q1 q2 q3 q4 q5 q6=>⟨_,rfl,?_,.inr ⟨rfl,aG,m',e,?_,hq⟩⟩⟩
  ·exact⟨q1.trans hf.os,q2.trans hf.tape,q3.trans hf.output,ad hf.size q4,λk hl hn=>(q5 k (Nat.lt_of_lt_of_le hl hf.size) λe=>hn (by rw[e];exact⟨by omega,by omega⟩)).trans (hf.block k hl hn)⟩
  ·exact hd.one 1 q4 (λk hk h1=>q5 k (hd.lt k hk) λe'=>h1 (by rw[e'];exact hr.1)) ⟨x0,x1,x2,x3,x5,x6,x7,x8,x9,aP,aP,⟨hr.1,q6.2⟩⟩ λc _ w K A h=>h
 refine cz ?_;have hs:=s.rf;have hr:=s.v.1;repeat' refine ak ?_;intros
 refine dS (aa4 (hm.mv (Mv.sub (s.sub 4))) mK AU) kQ hs.has λw1 X1 ax=>?_;have s1:=s.since ax;replace hm:=hm.mv (ax.gV (s.sub 4));clear hs hr ax s;have adR: ∀{w2:World} {X2:XS},Sn w0 own w2 X2 own n-> ¬(m.err=0/\m.to=20+n.c.id)->aL.fin (Gg (uF (gF own) w0 λv w'=>Sw own w0 w' (Gf n m) (λn1=>v= .tuple #[.agg #[n1.vm,n1.va],I 0])\/(v=Wk/\DQ own n.nb n.db w0 w' (IA n m))) λch w'=>ch=A8/\Fr (gF own) w0 w'/\DQ own n.nb n.db w0 w' (IA n m)) X2 w2 (.tuple #[.agg #[aP,aP],I 0]):=λ{w2 X2} s2 qg=>
  s2.t.adS λwa nM=>.inl ⟨own,n,s2.e,s2.h.kp s2.x nM,n,.inl ⟨qg,rfl⟩,by show _=Value.tuple #[.agg #[n.vm,n.va],I 0];rw[hk.vm,hk.va],hk.dV.symm,by rw[hk.vm,hk.rm];exact Sl.nil _ _ _,by rw[hk.rm,hk.ms];exact fT.nil _ _,by rw[hk.va,hk.ra];exact Sl.nil _ _ _⟩
 have hs:=s1.rf;have hr:=s1.v.1;by_cases Lu:m.err=0;case neg=>
  repeat' first|refine aJ ?_;intros|with_reducible apply cD
  exact adR s1 λe=>Lu e.1
 rw[Lu];repeat' refine aJ ?_;intros
 refine cD ?_;repeat' refine ak ?_;intros
 refine dS (Ba hr (λ_ h=>h) hi) kQ hs.has λw2 X2 bB=>?_;have s2:=s1.since bB;replace hm:=hm.mv (bB.gV (s1.sub 4));clear hs hr bB s1;by_cases zk:m.to=20+n.c.id;case neg=>
  repeat' refine aJ ?_;intros
  exact adR s2 λe=>zk e.2
 clear adR;repeat' refine aJ ?_;intros
 refine ij (Q:=λK=> ∀(mY:Nat->Nat) (n3:bo) (w3:World) (X3:XS),Sn w0 own w3 X3 mY n3->Gf n m n3->K w3 X3) (λmY n3 w3 X3 s3 fP=>?_) (λK hK=>?_)
 ·rw[<-fP.nb.nb];refine s3.call (EE s3.h s3.x) kQ λv w4 X4 lF n4 s4 ⟨q1,q2,q3⟩ _=>?_;subst q1;have o1:=s3.v.2.1;have o2:=s3.v.2.2.1;repeat' refine ak ?_;intros
  exact s4.t.adS λwa nM=>.inl ⟨lF,n4,s4.e,s4.h.kp s4.x nM,n3,fP,rfl,q2,q3.mv (yF s4.x nM)⟩
 ·have IB:=hm.mv (Mv.sub (s2.sub 4));by_cases k2:m.kind=2
  ·repeat' refine aJ ?_;intros
   exact s2.call (Xw s2.h s2.x hm (abZ Lu (.inl k2)) hk hN) kQ λv w3 X3 mY n3 s3 q _=>hK mY n3 w3 X3 s3 (.inr ⟨Lu,zk,.inl ⟨k2,q⟩⟩)
  by_cases k4:m.kind=4
  ·repeat' refine aJ ?_;intros
   exact s2.Wf (Yj s2.h s2.x jl hm (abZ Lu (.inr k4)) hk zQ) kQ (λv w3 X3 mY n3 s3 q _=>hK mY n3 w3 X3 s3 (.inr ⟨Lu,zk,.inr (.inl ⟨k4,q⟩)⟩)) λwb hf hd=>⟨rfl,hf,hd.imp λm' q=>⟨Lu,zk,.inl ⟨k4,q⟩⟩⟩
  by_cases k6:m.kind=6
  ·repeat' refine aJ ?_;intros
   exact s2.Wf (Yk s2.h s2.x jl hk) kQ (λv w3 X3 mY n3 s3 q _=>hK mY n3 w3 X3 s3 (.inr ⟨Lu,zk,.inr (.inr (.inl ⟨k6,q⟩))⟩)) λwb hf hd=>⟨rfl,hf,hd.imp λm' q=>⟨Lu,zk,.inr ⟨k6,q⟩⟩⟩
  by_cases k7:m.kind=7
  ·repeat' refine aJ ?_;intros
   exact s2.call (Vt s2.h s2.x hk) kQ λv w3 X3 mY n3 s3 q _=>hK mY n3 w3 X3 s3 (.inr ⟨Lu,zk,.inr (.inr (.inr (.inl ⟨k7,q⟩)))⟩)
  repeat' refine aJ ?_;intros
  exact hK own n w2 X2 s2 (.inr ⟨Lu,zk,.inr (.inr (.inr (.inr ⟨k2,k4,k6,k7,rfl⟩)))⟩)
end
def wU (d:pa):pa:= { d with x:= { d.x with wK:=d.x.wK+1 } }
def yr (n:bo) (t:bE) (n':bo):Prop:= ∃(b:Nat),getM t n.al=some b/\n'.rm.length<=n.rm.length+80/\
  ((6<=(n.A b).x.wK+1/\ ∃ou,Told { ey n b (wU (n.A b))with al:=kc t n.al,va:=ou,ra:=n.ra++[EA 25 t .zero false aP] } (if(n.A b).x.pre then(n.A b).ids.map λid=>(SH t id).o9 (20+n.c.id)else []) n')\/
   (¬6<=(n.A b).x.wK+1/\Told (ey n b (wU (n.A b))) ((n.A b).ws.map λm=>m.o9 (20+n.c.id)) n'))
def sW:List bE->bo->bo->Prop
 |[],n,n'=>n'=n
 |t::l,n,n'=> ∃n1,yr n t n1/\sW l n1 n'
theorem sW.snoc: ∀{l:List bE} {t:bE} {n n1 n2:bo},sW l n n1->yr n1 t n2->sW (l++[t]) n n2
 |[],t,n,n1,n2,h,h2=>by
  have h:n1=n:=h;subst h;exact⟨n2,h2,rfl⟩
 |x::l,t,n,n1,n2,⟨n3,h3,h⟩,h2=>⟨n3,h3,h.snoc h2⟩
def Yo (n:bo) (b:Nat) (n':bo):Prop:=((n.C b).ended=true/\n'=n)\/((n.C b).ended=false/\Told n ((n.C b).waits.map λid=>(SI (n.C b).r id).o9 (20+n.c.id)) n')
def yR:List Nat->bo->bo->Prop
 |[],n,n'=>n'=n
 |b::l,n,n'=> ∃n1,Yo n b n1/\yR l n1 n'
theorem yR.snoc: ∀{l:List Nat} {t:Nat} {n n1 n2:bo},yR l n n1->Yo n1 t n2->yR (l++[t]) n n2
 |[],t,n,n1,n2,h,h2=>by
  have h:n1=n:=h;subst h;exact⟨n2,h2,rfl⟩
 |x::l,t,n,n1,n2,⟨n3,h3,h⟩,h2=>⟨n3,h3,h.snoc h2⟩
def MT (n n1:bo):Prop:= ∃ts n2,ts.Perm (n.al.map (·.1))/\sW ts n n2/\yR n.cl n2 n1
structure TK (n n':bo):Prop where
 nb:n'.nb=n.nb
 db:n'.db=n.db
 c:n'.c=n.c
 cl:n'.cl=n.cl
 C:n'.C=n.C
 ex:n'.ex=n.ex
 pre:n'.pre=n.pre
variable {t t' : bE}
section
variable {n : bo}
theorem yr.tk (h:yr n t n'):TK n n':=by
 obtain⟨b,_,_,⟨_,_,_,_,rfl,_⟩|⟨_,_,_,rfl,_⟩⟩:=h<;>exact⟨rfl,rfl,rfl,rfl,rfl,rfl,rfl⟩
theorem Yo.tk (h:Yo n b n'):TK n n':=by
 rcases h with⟨_,rfl⟩|⟨_,_,_,rfl,_⟩<;>exact⟨rfl,rfl,rfl,rfl,rfl,rfl,rfl⟩
theorem TK.trans {n'':bo} (a:TK n n') (b:TK n' n''):TK n n'':=⟨b.nb.trans a.nb,b.db.trans a.db,b.c.trans a.c,b.cl.trans a.cl,b.C.trans a.C,b.ex.trans a.ex,b.pre.trans a.pre⟩
theorem yr.ra (h:yr n t n'):n'.ra.length<=n.ra.length+1/\n'.rm.length<=n.rm.length+80:=by
 obtain⟨b,_,h1,⟨_,_,_,_,rfl,_⟩|⟨_,_,_,rfl,_⟩⟩:=h
 ·exact⟨by simp,h1⟩
 ·exact⟨dF _,h1⟩
theorem yr.get (h:yr n t n') (ct:t'≠t):getM t' n'.al=getM t' n.al:=by
 obtain⟨b,_,_,⟨_,_,_,_,rfl,_⟩|⟨_,_,_,rfl,_⟩⟩:=h
 ·exact Lv ct
 ·rfl
theorem yr.ok (h:yr n t n') (nC: ∀t b,getM t n.al=some b->(n.A b).x.aM=t) (lh: ∀t b,getM t n.al=some b->rY N (n.A b)): ∀t b,getM t n'.al=some b->rY N (n'.A b):=by
 obtain⟨b,hb,_,hc⟩:=h;intro t' b' dT;have hg:n'.A=(ey n b (wU (n.A b))).A/\getM t' n.al=some b'/\(b'=b-> ¬6<=(n.A b).x.wK+1):=by
  rcases hc with⟨_,_,_,_,rfl,_⟩|⟨h6,_,_,rfl,_⟩
  ·obtain⟨q1,q2⟩:=nN (show getM t' (kc t n.al)=some b' from dT);exact⟨rfl,q1,λe=>absurd (by rw[e] at q1;exact(nC _ _ q1).symm.trans (nC _ _ hb)) q2⟩
  ·exact⟨rfl,dT,λ_=>h6⟩
 have ha:=lh t' b' hg.2.1;rw[hg.1];by_cases e:b'=b
 ·have:=hg.2.2 e;subst e;rw[js];exact⟨ha.q,ha.p,ha.sn,ha.ws,ha.ids,ha.CC,by have:=ha.wK;show 0<=(n.A b').x.wK+1/\(n.A b').x.wK+1<6;omega,ha.pq⟩
 ·rw[show(ey n b (wU (n.A b))).A b'=n.A b' from if_neg e];exact ha
theorem Lw (h:jy w own n) (hX:qV own X) (hk:sR N M n):
  Ct pg 16 #[ptr n.nb 0,I gM] w X (gF own) λv wa w'=>Sw own wa w' (MT n) λn1=>v= .tuple #[.agg #[n1.vm,n1.va],I 0]:=by
 intro w0 ik;have s:=St.init h hX ik;have hi:1<=n.c.id/\n.c.id<=2:=by rw[hk.id];decide
 have hM:=hk.mM;have pG:=hk.cl;have aqE:=hk.aln;clear h hX ik;have hr:=s.v.1;rw[Qt hk.pre] at hr;have hs:=s.rf;have TY:dK w0 (bK w0) nX n.c.ab (λk:bE=>k.v) xw n.al:=s.zP 5;refine CZ.1 λ_=>?_;repeat' refine ak ?_;intros
 refine cu (FP (Y:=bK w0) hr (λ_ h=>h) TY zQ) kQ hs.has ?_;rintro vt DE w1 X1 ⟨ts,xB,_,zk⟩ pU nq ax;have hts:Sl w1 X1 3 vt (ts.map bE.l):=(zk.mono nq).sl;have htl:ts.length=n.al.length:=by rw[xB.length_eq,ah]
 have ry:ts.Nodup:=xB.nodup_iff.2 TY.nodup;have Df: ∀t∈ts,∃b,getM t n.al=some b:=λt ht=>by
  obtain⟨x,hx,rfl⟩:=List.mem_map.1 (xB.mem_iff.1 ht);exact⟨x.2,vR TY.nodup hx⟩
 obtain⟨amo,sp,-,-,hp4⟩:=(s.since ax).uR (N:=made DE w1) λk af=>⟨nq k af,s.nw (ad pU af.1)⟩;have hvt:Sl w1 (bQ amo 4) 3 vt (ts.map bE.l):=(zk.mono hp4).sl;have asT:n.ra.length=0:=by rw[hk.ra];rfl
 have asU:n.rm.length=0:=by rw[hk.rm];rfl
 clear hs hr s zk hp4 nq pU ax TY;have hs:=sp.rf;repeat' refine ak ?_;intros
 refine gz (λk a z w X=> ∃(i:Nat) (lE:Nat->Nat) (n2:bo),a=I (i:Nat)/\k=ts.length-i/\i<=ts.length/\Sn w0 own w X lE n2/\sW (ts.take i) n n2/\TK n n2/\n2.rm.length<=80*i/\n2.ra.length<=i/\(∀t b,getM t n2.al=some b->rY N (n2.A b))/\(∀t∈ts.drop i,∃b,getM t n2.al=some b)/\Sl w (bQ lE 4) 3 vt (ts.map bE.l))
  ts.length ⟨0,amo,n,rfl,rfl,aq _,sp,rfl,⟨rfl,rfl,rfl,rfl,rfl,rfl,rfl⟩,by omega,by omega,hk.act,Df,hvt⟩ ?_
 clear hs sp hvt hts;rintro k _ z w2 X2 ⟨i,lE,n2,rfl,rfl,hi2,s2,cY,Jo,asV,amp,amq,afH,ahV⟩;have hs:=s2.rf;have amr:Sl w2 X2 3 vt (ts.map bE.l):=ahV.mono (s2.sub 4);have view: ∀{w5:World} {X5:XS} {mA:Nat->Nat} {n5:bo},Sn w0 own w5 X5 mA n5->TK n n5->aH w5 X5 n.nb (coL n.c n5.vm n5.va) nT:=λs5 h5=>by
  have:=s5.v.1;rw[Qt (h5.pre.trans hk.pre),h5.nb,h5.c] at this;exact this
 have jD:=view s2 Jo;rcases dA (ts) i with⟨cB,t,hx,hd⟩|⟨dB,hd⟩
 ·repeat' refine aJ ?_;intros
  refine ij (Q:=λK=> ∀(lF:Nat->Nat) (n4:bo) (w4:World) (X4:XS) (y:Value),Sn w0 own w4 X4 lF n4->yr n2 t n4->Mv (bQ lE 4) w2 (bQ lF 4) w4->K y w4 X4) (λlF n4 w4 X4 y s4 h4 m4=>?_) (λK hK=>?_)
  ·have hs:=s4.rf;repeat' refine ak ?_;intros
   have asW:=h4.ra;refine fB (ts.length-(i+1)) zQ ⟨i+1,lF,n4,by simp,rfl,by omega,s4,by rw[cj,hx];exact cY.snoc h4,Jo.trans h4.tk,by omega,by omega,h4.ok (s2.get 12:) amq,λt' ht'=>?_,ahV.mv m4⟩;have ct:t'≠t:=λe=>by
    have:=ry;rw[<-fq i ts,hd] at this;exact(List.nodup_cons.1 (List.nodup_append.1 this).2.1).1 (e▸ht')
   rw[h4.get ct];exact afH t' (by rw[hd];exact bG _ ht')
  have ams:dK w2 X2 nX n.c.ab (λk:bE=>k.v) xw n2.al:=by
   have:dK w2 X2 nX n2.c.ab (λk:bE=>k.v) xw n2.al:=s2.zP 5
   rwa [Jo.c] at this
  repeat' refine ak ?_;intros
  refine mL (kt:=34) (et:=116) (kv:=λk:bE=>k.v) (k:=t) (.pointer none) ams sK kQ kQ (λv b kW rD=>?_) (λhn=>?_);case refine_2=>
   obtain⟨b,hb⟩:=afH t (by rw[hd];simp);rw[hn] at hb;cases hb
  simp only[xw] at rD;subst rD;have hb:n2.gy b:=.inl ⟨_,kW⟩;have CH:=amq _ b kW;have aqF:=CH.wK;have hw8:=CH.ws;have ac5:=CH.ids;obtain⟨ha,o1,o2,o3,o4⟩:=s2.va hb;repeat' refine ak ?_;intros
  refine s2.st (o:=7) (tx b 0) (s2.h.act hb).1 (dR (ey n2 b (wU (n2.A b)))) zQ kQ (ea rfl) rfl (λ_ _ _ h=>qD dQ h) Ij (λw3 X3 mY s3 m3=>?_) ir.1 ir.2;obtain⟨n3,sx⟩: ∃n3:bo,n3=ey n2 b (wU (n2.A b)):=⟨_,rfl⟩;rw[<-sx] at s3;have e3:n3.A b=wU (n2.A b):=by rw[sx];exact js
  have f3:n3.nb=n.nb/\n3.c=n.c/\n3.rm=n2.rm/\n3.ra=n2.ra/\n3.ms=n2.ms/\n3.al=n2.al/\n3.ex=n2.ex:=by rw[sx];exact⟨Jo.nb,Jo.c,rfl,rfl,rfl,rfl,rfl⟩
  have rC:n3.gy b:=by rw[sx];exact hb
  have ht3:(wU (n2.A b)).x.aM=t:=(show∀t b,getM t n2.al=some b->(n2.A b).x.aM=t from s2.h.gI 12 dQ dQ) _ _ kW;clear hs ha s2 ams amr jD;have hs:=s3.rf;obtain⟨ha,-⟩:=s3.va rC;rw[e3] at ha;have asX:(wU (n2.A b)).x.wK=(n2.A b).x.wK+1:=rfl;have hi3:1<=n3.c.id/\n3.c.id<=2:=by rw[f3.2.1];exact hi
  by_cases h6:6<=(n2.A b).x.wK+1
  ·repeat' refine aJ ?_;intros
   rw[<-f3.1];refine s3.call (zF (code:=25) s3.h s3.x rC (by rw[e3];exact CH.pq) (by rw[f3.2.2.2.1];omega) hi3 (by rw[f3.2.2.1,e3];show n2.rm.length+(n2.A b).ids.length<=_;omega)) kQ λv w4 X4 lF n4 s4 ⟨ou,Av,xO,q4,Qg⟩ m4=>?_;have s5:=s4.to (Hx (e':=n2.ex) λb' h'=>by rw[q4];show b'∈b::n3.ex;rw[f3.2.2.2.2.2.2];exact .tail _ h');rw[e3,ht3] at q4 Qg;refine hK lF _ w4 X4 _ s5 ⟨b,kW,?_,.inl ⟨h6,ou,Av,xO,by rw[q4,sx];rfl,by rw[Qg,sx];rfl⟩⟩ (m3.trans m4)
   show n4.rm.length<=_
   rw[q4]
   show xO.length<=_
   rw[Qg]
   show n3.rm.length+_<=_
   rw[f3.2.2.1];split
   ·show _+((n2.A b).ids.map _).length<=_;rw[ah];omega
   ·simp
  ·have hws:(n2.A b).rw.length=(n2.A b).ws.length:=by have:=(s3.h.act rC).2.2.2.1.1;rw[e3] at this;exact this
   have rows: ∀{w5:World} {X5:XS} {mA:Nat->Nat} {n5:bo},Sn w0 own w5 X5 mA n5->n5.gy b->n5.A b=wU (n2.A b)->Sl w5 X5 36 (n2.A b).vw ((n2.A b).rw.map id)/\fT w5 (bQ mA 4) (n2.A b).rw (n2.A b).ws:=λs5 BB e5=>by
    have:=s5.h.act BB;rw[e5] at this;exact⟨by rw[List.map_id];exact this.2.1.sl.mono (s5.sub _ ir.1),this.2.2.2.1⟩
   have aqG:=(rows s3 rC e3).1;repeat' refine aJ ?_;intros
   refine fp (λk a w X=> ∃(j:Nat) (lF:Nat->Nat) (n4:bo),a=I (j:Nat)/\k=(n2.A b).rw.length-j/\j<=(n2.A b).rw.length/\Sn w0 own w X lF n4/\Told n3 (((n2.A b).ws.take j).map λm=>m.o9 (20+n.c.id)) n4/\Mv (bQ mY 4) w3 (bQ lF 4) w)
    (n2.A b).rw.length ⟨0,mY,n3,rfl,rfl,aq _,s3,Told.nil _,Mv.refl _ _⟩ ?_
   clear hs s3 aqG ha;rintro k _ w4 X4 ⟨j,lF,n4,rfl,rfl,hj,s4,ht4,m4⟩;have hs:=s4.rf;have f4:n4.nb=n.nb/\n4.c=n.c/\n4.rm.length=n2.rm.length+j/\n4.A b=wU (n2.A b)/\n4.gy b:=by
    obtain⟨v,r,rfl,hl⟩:=id ht4;exact⟨f3.1,f3.2.1,by show r.length=_;rw[hl,f3.2.2.1,ah,List.length_take];omega,e3,rC⟩
   have zd:=rows s4 f4.2.2.2.2 f4.2.2.2.1;have asY:=zd.1;rcases dA (n2.A b).rw j with⟨cB,l,hl,_⟩|⟨dB,_⟩
   ·obtain⟨y,hy⟩: ∃y,(n2.A b).ws[j]? =some y:=⟨_,List.getElem?_eq_getElem zQ⟩;obtain⟨uk,us,uw,up,ur,uc,uh,ud,rfl,dh⟩:=zd.2.2 j l y hl hy;have q1:=dh.keys.one;have q2:=dh.seen.one;have q3:=dh.writes.one;have q4:=dh.parts.one;have q5:=dh.ranges.one;have q6:=dh.bh.one;have q7:=dh.iu.one;have q8:=dh.gY.one;have q9:(id (y.l uk us uw up ur uc uh ud)).all aL.one=true:=by
     dsimp only [id];repeat' first|with_reducible apply Kk|with_reducible exact NA|assumption|rfl
    repeat' refine aJ ?_;intros
    try dsimp only [id]
    skip
    refine cu (HH (m:=y) (dh.mv (Mv.sub (s4.sub 4))) (CH.CC y (aA hy))) kQ hs.has ?_;rintro _ Oc w5 X5 ⟨Hu,CG,lC,JF,rfl,u1,u2,u3,u4⟩ Il ED sS;have vY:=dh.mv (hs.gV (s4.sub 4));have s5:=s4.since hs;replace vY:=vY.mv (sS.gV (s5.sub 4));obtain⟨zR,s6,m6,-,n6⟩:=(s5.since sS).uR (N:=made Oc w5) λk hk=>⟨ED k hk,s5.nw (ad Il hk.1)⟩;have k6:Mv (made Oc w5) w5 (bQ zR 4) w5:=Mv.sub n6;replace vY:=vY.mv m6;rw[<-f4.1];refine s6.call (Bb (m:=y) s6.h s6.x ⟨u1.mv k6,u2.mv k6,u3.mv k6,u4.mv k6,vY.ranges,vY.bh,vY.iu,vY.gY⟩ (by rw[f4.2.1];exact hi) zQ) kQ λv w7 X7 B0 n7 s7 q7 m7=>?_;replace q7:Told n4 [y.o9 (20+n.c.id)] n7:=by rw[<-f4.2.1];exact q7
    have m47:=((m4.trans (hs.gV (s4.sub 4))).trans (sS.gV (s5.sub 4))).trans (m6.trans m7);clear hs;repeat' refine ak ?_;intros
    exact eP ((n2.A b).rw.length-(j+1)) zQ ⟨j+1,B0,n7,by simp,rfl,by omega,s7,by rw[CE hy];exact ht4.add q7,m47⟩
   ·repeat' refine aJ ?_;intros
    rw[az zQ] at ht4;exact hK lF n4 w4 X4 _ s4 ⟨b,kW,by rw[f4.2.2.1];omega,.inr ⟨h6,by rw[Jo.c];rw[sx] at ht4;exact ht4⟩⟩ (m3.trans m4)
 ·rw[az dB] at cY;have iC: ∀{w5:World} {X5:XS} {mA:Nat->Nat} {n5:bo},Sn w0 own w5 X5 mA n5->TK n n5->Sl w5 X5 1 n.c.cm (n.cl.map λb=>[ptr b 0]):=λ{w5 X5 mA n5} s5 CT=>by
   have:=(show Own w5 X5 0 Yi 1 n5.c.cm (n5.cl.map λb=>[ptr b 0])from s5.zP 10).sl
   rwa [CT.c,CT.cl] at this
  have aqH:=iC s2 Jo;repeat' refine aJ ?_;intros
  refine fp (λk a w X=> ∃(j:Nat) (mA:Nat->Nat) (n5:bo),a=I (j:Nat)/\k=n.cl.length-j/\j<=n.cl.length/\Sn w0 own w X mA n5/\yR (n.cl.take j) n2 n5/\TK n n5/\n5.rm.length<=80*ts.length+80*j) n.cl.length ⟨0,lE,n2,rfl,rfl,aq _,s2,rfl,Jo,by omega⟩ ?_;clear hs s2 aqH jD amr ahV;rintro k _ w5 X5 ⟨j,mA,n5,rfl,rfl,hj,s5,hD5,CT,asZ⟩;have hs:=s5.rf;have as0:=iC s5 CT;have CP:=view s5 CT;rcases dA n.cl j with⟨cB,b,hb,_⟩|⟨EL,_⟩
  ·have JD:b∈n.cl:=aA hb;have BB:b∈n5.cl:=by rw[CT.cl];exact JD
   have hw8:=hk.cw b JD;repeat' refine aJ ?_;intros
   refine ij (Q:=λK=> ∀(zR:Nat->Nat) (n6:bo) (w6:World) (X6:XS),Sn w0 own w6 X6 zR n6->Yo n5 b n6->K w6 X6) (λzR n6 w6 X6 s6 h6=>?_) (λK hK=>?_)
   ·have hs:=s6.rf;repeat' refine ak ?_;intros
    refine eP (n.cl.length-(j+1)) zQ ⟨j+1,zR,n6,by simp,rfl,by omega,s6,by rw[cj,hb];exact hD5.snoc h6,CT.trans h6.tk,?_⟩;have:n6.rm.length<=n5.rm.length+80:=by
     rcases h6 with⟨_,rfl⟩|⟨_,_,_,rfl,h⟩
     ·omega
     ·show ba _<=_;rw[h,ah,CT.C];omega
    omega
   ·obtain⟨hc,o2,o1,Ht⟩:=s5.vc BB;cases By:(n5.C b).ended with
    |true=>
     rw[By] at hc;repeat' refine ak ?_;intros
     exact hK mA n5 w5 X5 s5 (.inl ⟨By,rfl⟩)
    |false=>
     rw[By] at hc;repeat' refine ak ?_;intros
     rw[<-CT.nb];exact s5.call (HG (b:=b) s5.h s5.x BB (by rw[CT.c];exact hi) (by rw[CT.C];omega)) kQ λv w6 X6 zR n6 s6 q6 _=>hK zR n6 w6 X6 s6 (.inr ⟨By,q6⟩)
  ·rw[az EL] at hD5;repeat' refine aJ ?_;intros
   rw[<-CT.nb];refine s5.call (EE s5.h s5.x) kQ λv w6 X6 zR n6 s6 ⟨q1,q2,q3⟩ _=>?_;subst q1 q2;have o1:=s5.v.2.1;have o2:=s5.v.2.2.1;clear hs;repeat' refine ak ?_;intros
   exact St.alT s6 q3 ⟨ts,n2,xB,cY,hD5⟩ rfl
end
theorem Yp: ∀xs:List Int,xs.length<=(xs.map encI).flatten.length
 |[]=>by simp
 |x::xs=>by
  have h1:=Yp xs;have h2:=E1 x;simp only[bm,cW,aa,aK];omega
variable {r : Rec}
section
variable {rb at_ gI cb xb : Nat} {vb : Value} {pl : Int} {bs tl : List Nat} {cs pE : List Value}
theorem Vu {xo:Nat} (h:RB w X rb vb at_ pl bs cb xb cs ty) (he:bs.drop at_=iT encI xs++tl) (hn: ∀x∈xs,uI x) (hl:xs.length<=2^30) (ho:cs[xo]? =some ke):
  Ct pg 186 #[ptr cb 0,ptr xb xo,.func (.func 183) #[ptr cb 0] #[]] w X (λk=>k=rb\/k=xb) λv wa w'=> ∃va,v= .tuple #[]/\
   aH w' (λk=>k=rb) rb [vb,I ((at_+(iT encI xs).length:Nat):Int),I 0,I pl] 315/\aH w' (λk=>k=xb) xb (dr cs xo [va]) ty/\Own w' (made wa w') wa.heap.size 3 1 va (xs.map I1):=by
 intro wi hk;have hS:=h.start hk;have hc:=hS.c;have Q2:xo+1<=cs.length:=(List.getElem?_eq_some_iff.1 ho).1;have e0:bs.drop at_=encI xs.length++((xs.map encI).flatten++tl):=by rw[he];unfold iT;rw[ao]
 have d0:=hS.mJ e0;have e1:=qW e0;have hfg:=Yp xs;have d1:at_+(encI xs.length).length+(xs.map encI).flatten.length<=bs.length:=by
  have h1:=congrArg ba e1;rw[List.length_drop,aa] at h1;omega
 have Lx:Cells wi (bK wi) xb xo [ke]:=⟨hS.x.1,cs.toArray,ty,(0,0),hS.x.2,λj u hj=>by
  cases j with
  |zero=>simp at hj;subst hj;simpa using ho
  |succ j=>simp at hj⟩
 have hnl:Sl wi (bK wi) 1 ke (([]:List Int).map I1):=Sl.nil _ _ _;refine DJ.1 λ_=>?_;have hs:=ai.fG hS.t.s.has;have Ly:=hS.aoC;repeat' refine ak ?_;intros
 refine ij (Q:=λK=> ∀w X,RS wi w X rb vb (at_+(encI xs.length).length) pl bs cb xb (dr cs xo [ke]) ty->K (I xs.length) w X) ?_ λK hK=>?_
 ·intro w1 X1 lU;refine fp (λm a w X=> ∃(i:Nat) (va:Value),a=I i/\m=xs.length-i/\i<=xs.length/\RS wi w X rb vb (at_+(encI xs.length).length+((xs.take i).map encI).flatten.length) pl bs cb xb (dr cs xo [va]) ty/\Own w X wi.heap.size 3 1 va ((xs.take i).map I1)) xs.length ⟨0,ke,rfl,rfl,aq _,by simpa using lU,Own.nil _ _ _ _ _⟩ ?_;clear lU hs Lx hc;rintro m a w2 X2 ⟨i,va,rfl,rfl,hi,bg,kq⟩;have hs:=ai.fG bg.t.s.has;rcases dA xs i with⟨cB,x,hx,hd⟩|⟨dB,hd⟩
  ·have hc:=bg.c;have Lx:=CN bg.x Q2;have hti:((xs.take i).map I1).length=i:=by simp;omega
   have gv:=hn x (aA hx);have Yq:((xs.take (i+1)).map encI).flatten=((xs.take i).map encI).flatten++encI x:=lM hx;have ei:bs.drop (at_+(encI xs.length).length+((xs.take i).map encI).flatten.length)=encI x++(((xs.drop (i+1)).map encI).flatten++tl):=by
    have h1:(xs.map encI).flatten=((xs.take i).map encI).flatten++(encI x++((xs.drop (i+1)).map encI).flatten):=by
     conv=>lhs;rw[<-fq i xs,hd]
     rw[aD,List.flatten_append,bm,cW]
    rw[h1] at e1;rw[<-List.drop_drop,e1];simp only[ao];rw[List.drop_left]
   repeat' refine aJ ?_;intros
   refine ij (Q:=λK=> ∀w X va,RS wi w X rb vb (at_+(encI xs.length).length+((xs.take i).map encI).flatten.length) pl bs cb xb (dr cs xo [va]) ty->Own w X wi.heap.size 3 1 va ((xs.take i).map I1++[[I 0]])->K w X) ?_ λK hK=>?_
   ·intro w3 X3 va3 bV Yr;clear hs hc Lx;have hs:=ai.fG bV.t.s.has;have Lx:=CN bV.x Q2;repeat' refine ak ?_;intros
    refine ahJ Yr (by rw[hti]) kQ kQ λg csg hg gA hbg hlen uG amt=>?_;refine C3 ?_;have dB:rb<g/\xb<g/\cb<g:=by have:=Ly.r;have:=Ly.x;have:=Ly.c;omega
    have Kn:RB w3 X3 rb vb (at_+(encI xs.length).length+((xs.take i).map encI).flatten.length) pl bs cb g csg 3:=⟨bV.r,hg,bV.c,bV.c1,by omega,by omega,λhb=>by have:=Ly.v g hb;omega⟩;rw[hti] at amt hlen⊢;refine yP (pd (xo:=i*1) Kn ei gv hlen) kQ bV.t.s.has (λk e=>e.elim (λe=>e▸bV.r.box.1) λe=>e▸hg.1) λv wa w4 X4 ⟨hv,zd,hx4⟩ _ _ _ c4=>?_;subst hv;have gZ:=bV.aoD Ly c4 ⟨hg.1,gA⟩ ⟨c4.sub _ bV.r.box.1,zd.2⟩ (Kn.mJ ei);clear hs;repeat' refine ak ?_;intros
    refine eP (xs.length-(i+1)) zQ ⟨i+1,va3,by simp,rfl,by omega,?_,?_⟩
    ·rw[Yq,aa,<-Nat.add_assoc];exact gZ
    ·rw[cj,hx,aD];exact(amt w4 X4 [I x] rfl ⟨c4.sub _ hg.1,hx4.2⟩)
   ·repeat' first|refine ak ?_;intros|(refine q1s hs ?_;intro _ _ _ w X hs ho)
    have ahW:=bg.since hs;have ahX:=kq.since hs;refine HI (bytes:=8) (dq:=[[I 0]]) ahX ahW.t.s.has ahW.t.s.kp.size kQ ho.sl (λr hr u hu=>?_) oQ oQ λva3 w3 X3 c3 Yr as1=>?_
    ·simp only[aw] at hr;subst hr;simp at hu;subst hu;rfl
    have bV:=ahW.aql Ly c3 λk af=>⟨(ahX.ow.bA af).1,(ahX.ge af).1⟩;clear hs hc Lx;have hs:=ai.fG bV.t.s.has;repeat' refine ak ?_;intros
    refine pM (o:=xo) bV.x rfl kQ (by rw[B2 _ _ _ oQ];omega) Yr.sl.one bV.t.s.has λw4 X4 c4 zd=>?_;rw[adg _ _ _ _ Q2] at zd;exact hK _ _ va3 (bV.ahI c4 zd) (Yr.dX c4 λg hg e=>by have:=(Yr.ge hg).1;have:=Ly.x;have e:g=xb:=e;omega)
  ·have pK:i=xs.length:=by omega
   subst pK;rw[List.take_length] at bg kq;have e:at_+(encI xs.length).length+(xs.map encI).flatten.length=at_+(iT encI xs).length:=by unfold iT;rw[aa];omega
   rw[e] at bg;repeat' refine aJ ?_;intros
   refine bg.t.fin λwa aI=>⟨va,rfl,(bg.out aI).2.1,(bg.out aI).2.2,(kq.kp aI).tight⟩
 ·repeat' refine ak ?_;intros
  refine dS (afs hS.r) kQ hS.t.s.has λw1 X1 ax=>?_;have lU:=hS.since ax;refine lU.read (ada lU.r e0 zQ (by have:=lU.r.sz;omega)) kQ d0 λw2 X2 bg=>?_;refine dS (Uc bg.toRB) kQ bg.t.s.has λw3 X3 dp=>?_;have bV:=bg.since dp;clear hs;repeat' refine ak ?_;intros
  refine pM (o:=xo) bV.x rfl kQ Q2 rfl bV.t.s.has λw4 X4 c4 zd=>?_;exact hK _ _ (bV.ahI c4 zd)
abbrev Ys:List Value:=[I 0,I 0,I 0,I 0,I 0,I 0,I 0,I 0,I 0,I 0,B false,I 0,.float .f64 0,ke,ke,ke,ke,I 0,I 0,.float .f64 0,.float .f64 0,I 0,I 0,I 0,I 0,I 0,I 0,ke,ke]
def lN (n:Int):Rec:=⟨8,.zero,.zero,.zero,false,n,0,[],[],[],[],.zero⟩
theorem Q3 (n:Int):ga (lN n)=encI 8++encI n:=by simp[ga,lN]
inductive Uw:Rec->Prop
 |Ds (n:Int):uI n->Uw (lN n)
 |BJ (t:bE) (st:cn) (ps:List Int):Dl t->ade st->(∀x∈ps,uI x)->ps.length<=2^30->Uw (jq t st ps)
 |fin (t:bE):Dl t->Uw (mf t)
theorem Uw.kind (h:Uw r):r.kind=8\/r.kind=9\/r.kind=10:=by
 cases h
 ·exact .inl rfl
 ·exact .inr (.inl rfl)
 ·exact .inr (.inr rfl)
theorem aa5 (hr:Uw r) (h:RB w X rb vb at_ pl bs cb xb Ys ty) (he:bs.drop at_=ga r++tl):
  Ct pg 134 #[ptr cb 0,ptr xb 0] w X (λk=>k=rb\/k=xb) λv wa w'=> ∃vp,v= .tuple #[]/\
   aH w' (λk=>k=rb) rb [vb,I ((at_+(ga r).length:Nat):Int),I 0,I pl] 315/\aH w' (λk=>k=xb) xb (r.l ke ke vp ke ke ke) ty/\Own w' (made wa w') wa.heap.size 3 1 vp (r.parts.map I1):=by
 intro wi hk;have hS:=h.start hk;refine Lz.1 λ_=>?_;repeat' first|refine ak ?_;intros|(with_reducible refine sT kQ kQ ?_)
 cases hr with
 |Ds n hn=>
  rw[Q3] at he⊢;have e0:bs.drop at_=encI 8++(encI n++tl):=by rw[he,ao]
  have e1:=qW e0;have d0:=hS.mJ e0;refine hS.call (pd (xo:=0) hS.toRB e0 (by unfold uI;omega) sQ) kQ d0 λw1 X1 lU=>?_;have hs:=ai.fG lU.t.s.has;have Lx:=CN (u:=I 8) lU.x sQ;repeat' first|refine aJ ?_;intros|with_reducible apply cD
  rename_i o7 ho7 _;subst ho7;clear Lx hs;have d1:=lU.mJ e1;refine lU.call (pd (xo:=11) lU.toRB e1 hn (ea rfl)) kQ d1 λw2 X2 bg=>?_;have hs:=ai.fG bg.t.s.has
  skip
  have e:at_+(encI 8).length+(encI n).length=at_+(encI 8++encI n).length:=by simp only[aa];omega
  rw[e] at bg;exact bg.t.fin λFZ aI=>⟨ke,rfl,(bg.out aI).2.1,(bg.out aI).2.2,Own.nil _ _ _ _ _⟩
 |BJ t st ps h1 h2 h3 h4=>
  rw[Wg] at he⊢;have e0:bs.drop at_=encI 9++(nA t++(lx st++(iT encI ps++tl))):=by rw[he];simp only[ao]
  have e1:=qW e0;have e2:=qW e1;have e3:=qW e2;have d0:=hS.mJ e0;refine hS.call (pd (xo:=0) hS.toRB e0 (by unfold uI;omega) sQ) kQ d0 λw1 X1 lU=>?_;have hs:=ai.fG lU.t.s.has;have Lx:=CN (u:=I 9) lU.x sQ;repeat' first|refine aJ ?_;intros|with_reducible apply cD
  rename_i o7 ho7 _;subst ho7;clear Lx hs;have d1:=lU.mJ e1;refine lU.call (Ud (xo:=1) lU.toRB e1 h1 (ea rfl)) kQ d1 λw2 X2 bg=>?_;repeat' first|refine ak ?_;intros|(with_reducible refine sT kQ kQ ?_)
  refine bg.call (aaT (xo:=4) bg.toRB e2 h2 (ea rfl)) kQ (bg.mJ e2) λw3 X3 bV=>?_;repeat' first|refine ak ?_;intros|(with_reducible refine sT kQ kQ ?_)
  refine yP (Vu (xo:=15) bV.toRB e3 h3 h4 rfl) kQ bV.t.s.has (λk e=>e.elim (λe=>e▸bV.r.box.1) λe=>e▸bV.x.1) λv wa w5 X5 ⟨va,hv,CP,Q4,tY⟩ Il ED _ c5=>?_;subst hv;have nh:=bV.OY c5 ⟨c5.sub _ bV.r.box.1,CP.2⟩ (bV.mJ e3) ⟨c5.sub _ bV.x.1,Q4.2⟩
  skip
  have e:at_+(encI 9).length+(nA t).length+(lx st).length+(iT encI ps).length=at_+(encI 9++(nA t++(lx st++iT encI ps))).length:=by simp only[aa];omega
  rw[e] at nh;exact nh.t.fin λFZ aI=>⟨va,rfl,(nh.out aI).2.1,(nh.out aI).2.2,((tY.up ED (ad bV.t.s.kp.size Il)).kp aI).tight⟩
 |fin t h1=>
  rw[QY] at he⊢;have e0:bs.drop at_=encI 10++(nA t++tl):=by rw[he,ao]
  have e1:=qW e0;refine hS.call (pd (xo:=0) hS.toRB e0 (by unfold uI;omega) sQ) kQ (hS.mJ e0) λw1 X1 lU=>?_;have hs:=ai.fG lU.t.s.has;have Lx:=CN (u:=I 10) lU.x sQ;repeat' first|refine aJ ?_;intros|with_reducible apply cD
  rename_i o7 ho7 _;subst ho7;clear Lx hs;refine lU.call (Ud (xo:=1) lU.toRB e1 h1 (ea rfl)) kQ (lU.mJ e1) λw2 X2 bg=>?_
  skip
  have e:at_+(encI 10).length+(nA t).length=at_+(encI 10++nA t).length:=by simp only[aa];omega
  rw[e] at bg;exact bg.t.fin λFZ aI=>⟨ke,rfl,(bg.out aI).2.1,(bg.out aI).2.2,Own.nil _ _ _ _ _⟩
theorem SM {v0:Value} (hr:Uw r) (h:Sl w X 1 v0 ((ga r).map U1)) (aqI:r.err=0) (hlen:(ga r).length<=262144) (cB: ∀b∈ga r,b<256):
  Ct pg 79 #[v0] w X nX λv wa w'=> ∃va,v= .tuple #[r.v ke ke va ke ke ke,I 0]/\Own w' (made wa w') wa.heap.size 3 1 va (r.parts.map I1):=by
 intro w0 hk;replace h:=h.mv hk.cr;have Ls:Ft w0 nX w0 (bK w0) nX:=Ft.init λ_ h=>h.elim;refine SN ?_;unfold HJ;refine MU (l:=Ys) Ls.s.has kQ λxb w1 X1 T7 ax DZ=>?_;have dW:=Ls.since ax;refine ahK dW.s.has kQ λeb w2 X2 heb bB DT=>?_;have cY:=dW.since bB;have hrx:=DZ.since bB;have hs:=ax.trans bB;have oA:=h.mv hs.mv;have ct:ga r≠[]:=by
  intro e;have:=E1 r.kind;have h9:=congrArg ba e;cases hr
  ·rw[Q3] at h9;have:=E1 8;simp only[aa,br] at h9;omega
  ·rw[Wg] at h9;have:=E1 9;simp only[aa,br] at h9;omega
  ·rw[QY] at h9;have:=E1 10;simp only[aa,br] at h9;omega
 generalize wN:ga r=bs at*;repeat' refine aJ ?_;intros
 refine cu (ahH oA zQ cB) kQ cY.s.has ?_;rintro _ ze w3 X3 ⟨rb,vb,rfl,jw⟩ qB mz dp;have dU:=cY.since dp;repeat' refine ak ?_;intros
 refine A6 dU.s.has λcb w4 X4 hcb fX Q5=>?_;have fQ:=(dU.since fX).Pb;have hz3:=dp.kp.size;have zV:BD w3 X3 rb vb 0 0 bs:=jw.mv (Mv.sub mz);have K7:=zV.mv fX.mv;have adT:=(hrx.since dp).since fX;have amu:=(DT.since dp).since fX;have NL:=jw.box.1;have Uk:=bB.has xb (bB.sub xb DZ.1);have as2:=ax.has xb DZ.1;have Ly:=bB.has eb DT.1;have pG:=fX.has cb Q5.1;have Kn:RB w4 X4 rb vb 0 0 bs cb xb Ys 73:=⟨K7,adT,Q5.cells,by have:=NL.2;omega,by omega,by have:=NL.1;omega,λhb=>by have:=(jw.ow.bA hb).1.1;omega⟩;refine fQ.call (aa5 (tl:=[]) hr Kn (by rw[wN];simp)) kQ (λk e=>e.elim (λe=>by subst e;exact⟨K7.box.1,by have:=NL.1;omega⟩) λe=>by subst e;exact⟨adT.1,by omega⟩) λv Oc w5 X5 hq5 Il ED iL c5=>?_;obtain⟨va,rfl,CP,Q4,tY⟩:=hq5;rw[wN] at CP;have amv:aH w5 X5 xb _ _:=⟨c5.sub _ adT.1,Q4.2⟩;have aqJ:=amu.dX c5 λe=>e.elim (λe=>by have:=NL.1;omega) λe=>by omega
 have aqK:=Kn.OY c5 (gI:=0+bs.length) ⟨c5.sub _ K7.box.1,CP.2⟩ zQ amv;have h0:Sl w0 (out nX w0) 1 v0 (bs.map U1):=h.mono λk af=>⟨af,λh=>h.elim⟩;clear hs oA ax bB dp fX;have hs:=ai.fG iL.s.has
 skip
 refine dS (ahG aqK.r zQ) kQ iL.s.has λw6 X6 tF=>?_;have kf:=iL.since tF;have hx6:=amv.since tF;have aqL:=aqJ.since tF;have ho6:Own w6 X6 w0.heap.size 3 1 va (r.parts.map I1):=(tY.up ED (by have:=fQ.s.kp.size;omega)).since tF;obtain⟨ab,an,ac,rfl⟩:=ho6.sl.form;repeat' refine aJ ?_;intros
 have aqM:Ct pg 136 #[r.v ke ke (.slice ab an ac) ke ke ke] w6 X6 nX λv wa w'=> ∃vb,v= .tuple #[vb,I 0]/\Own w' (made wa w') wa.heap.size 5 1 vb (bs.map U1):=by
  have dh:r.at w6 X6 ke ke (.slice ab an ac) ke ke ke:=by
   cases hr<;>exact⟨Sl.nil _ _ _,Sl.nil _ _ _,ho6.sl,Sl.nil _ _ _,fg.nil _ _ _,fg.nil _ _ _⟩
  have mK:r.small:=by cases hr<;>exact DY rfl rfl rfl
  refine(Dq dh mK (λ_=>by rw[wN];omega)).mono λv wb w' _ hq=>?_;have AQ:r.fJ=0:=by
   unfold Rec.fJ;rw[if_neg (by simp[aqI]),if_neg (by rw[wN];omega)]
  rw[if_neg (by simp[AQ]),wN] at hq;exact hq
 refine cu aqM kQ kf.s.has ?_;rintro _ Qp w7 X7 ⟨ve,rfl,hoe⟩ Ss GH oO;have CV:=kf.since oO;have hx7:=hx6.since oO;have aqN:=aqL.since oO;repeat' refine aJ ?_;intros
 refine ij (Q:=λK=> ∀w X,ai X7 w7 X w->K (B true) w X) ?_ λK hK=>?_
 ·intro w8 X8 kV;have Ux:=CV.since kV;have hx8:=hx7.since kV;have aqO:=aqN.since kV;have A5:=(ho6.since oO).since kV;clear hs;repeat' refine ak ?_;intros
  refine FU (o:=0) hx8 rfl kQ (ea rfl) rfl ?_ Ux.s.has λw9 X9 c9 Qr=>?_
  ·rfl
  have hT9:=Ux.dX (F':=λk=>DK w0 X4 k\/made Oc w5 k) c9 (λk af=>by subst af;exact .inl ⟨adT.1,by omega⟩) λk af=>.inl af;have amw:=aqO.dX c9 (λe=>by have e:eb=xb:=e;omega);have Ug:=A5.dX c9 λg hg e=>by
   have e:g=xb:=e;subst e;exact Own.eH A5 hx8 kQ hg
  refine pM (o:=0) amw rfl kQ sQ rfl hT9.s.has λJG LA Q6 Yt=>?_;have GQ:=hT9.dX (F':=λk=>DK w0 X4 k\/made Oc w5 k) Q6 (λk af=>by subst af;exact .inl ⟨amu.1,by omega⟩) λk af=>.inl af;have aqP:=Qr.dX Q6 (λe=>by have e:xb=eb:=e;omega);have aqQ:=Ug.dX Q6 λg hg e=>by
   have e:g=eb:=e;subst e;exact Own.eH Ug amw kQ hg
  unfold aL.fin;intro wa aI;refine Vp (X:=LA) (cs:=r.l ke ke (.slice ab an ac) ke ke ke) (aqP.kp aI) rfl (Yt.kp aI) ?_;exact⟨_,rfl,⟨aI.os.trans GQ.s.kp.os,aI.tape.trans GQ.s.kp.tape,aI.output.trans GQ.s.kp.output,ad GQ.s.kp.size aI.size,λk hl hn=>(aI.block k (GQ.s.sub k ⟨hl,hn⟩)).trans (GQ.s.kp.block k ⟨hl,hn⟩)⟩,.slice ab an ac,rfl,(aqQ.kp aI).tight⟩
 ·repeat' refine ak ?_;intros
  refine dS (Xz (hoe.sl.mono GH) (h0.mv CV.s.mv) ct) kQ CV.s.has λw8 X8 kV=>?_;exact hK _ _ kV
end
def Yu (n:bo) (r:Rec):Prop:=
 (r.kind=8/\r.n=n.c.aR+1)\/(r.kind=9/\r.aM.ep=n.c.id/\r.aM.aR=n.c.aR/\getM r.aM n.bl=none)\/(r.kind=10/\ ∃b,b∈n.cl/\getM r.aM n.bl=some b/\(n.C b).ended=false)
def IC (n:bo) (r:Rec) (vp:Value) (n':bo):Prop:=
 (r.kind=8/\n'= { n with c:= { n.c with aR:=n.c.aR+1 } })\/(r.kind=9/\ ∃v,amj n r vp v n')\/
 (r.kind=10/\ ∃b,getM r.aM n.bl=some b/\n'=mD n b { n.C b with v2:=aP,waits:=[],ended:=true })
section
variable {n : bo}
theorem Yv (h:jy w own n) (hX:qV own X) (hr:Yu n r) (hp:Sl w (bQ own 4) 1 vp (r.parts.map I1)) (vJ:r.parts.length<=2^40) (pG:n.cl.length<=2^20) (hl:0<=n.c.aR/\n.c.aR<=2^30):
  Ct pg 80 #[ptr n.nb 0,r.v aP aP vp aP aP aP] w X (gF own) λv wa w'=>NQ dR own wa w' λ_ n'=>v=B true/\IC n r vp n':=by
 intro w0 hk;have s:=St.init h hX hk;replace hp:=hp.mv (yF hX hk);have qU:=s.v.1;refine LB.1 λ_=>?_;have hs:=s.rf;rcases hr with⟨hk,hn⟩|⟨hk,h1,h2,h3⟩|⟨hk,b,hb,h1,h2⟩
 ·repeat' refine aJ ?_;intros
  refine s.st (o:=1) 1 (s.get 1) (dR { n with c:= { n.c with aR:=n.c.aR+1 } }) zQ kQ (ea rfl) rfl (λ_ _ _ h=>h) ny λw1 X1 ia s1 m1=>?_;clear hs qU;have qU:=s1.v.1;have hs:=s1.rf;repeat' refine aJ ?_;intros
  exact s1.fin λ_ _=>⟨by first|rfl|(congr 1;simp;omega),.inl ⟨hk,rfl⟩⟩
 ·repeat' refine aJ ?_;intros
  refine mL (kt:=34) (et:=124) (kv:=λk:bE=>k.v) (k:=r.aM) (.pointer none) (s.zP 6:) sK kQ kQ (λv b kW rD=>?_) (λhn=>?_)
  ·rw[h3] at kW;cases kW
  repeat' refine ak ?_;intros
  refine s.call (On (r:=r) s.h s.x hp vJ pG) kQ λv w1 X1 ia n1' s1 q1 m1=>?_;clear hs
  skip
  exact s1.fin λ_ _=>⟨rfl,.inr (.inl ⟨hk,_,q1⟩)⟩
 ·obtain⟨hc,o3,o2,Ht⟩:=s.vc hb;rw[h2] at hc;repeat' refine aJ ?_;intros
  refine mL (kt:=34) (et:=124) (kv:=λk:bE=>k.v) (k:=r.aM) (.pointer none) (s.zP 6:) sK kQ kQ (λv b' kW rD=>?_) (λhn=>?_);case refine_2=>rw[h1] at hn;cases hn
  simp only[xw] at rD;subst rD;obtain rfl:b'=b:=by rw[h1] at kW;exact(bU kW).symm
  repeat' refine ak ?_;intros
  refine s.st (o:=30) (tx b' 4) (s.h.BJ hb).1 (dR (mD n b' { n.C b' with ended:=true })) zQ kQ sQ rfl (λ_ _ _ h=>MR dQ h) Wj (λw1 X1 ia s1 m1=>?_) ir.1 ir.2;have lK:b'∈(mD n b' { n.C b' with ended:=true }).cl:=hb;clear hs hc;have hs:=s1.rf;obtain⟨hc,-⟩:=s1.vc lK;rw[Lq] at hc;repeat' refine ak ?_;intros
  have iC:=s1.h.BJ lK;rw[Lq] at iC;refine pM (o:=29) hc zQ kQ sQ rfl s1.has λw2 X2 c2 jD=>?_;obtain⟨lE,s2,m2⟩:=s1.jR (F':=dR (mD n b' { n.C b' with v2:=aP,waits:=[],ended:=true })) (j:=tx b' 4) (N:=λ_=>False) c2 (λc=>c=tx b' 4\/c=tx b' 5) (λk e=>.inl (by rw[show k=b' from e];exact iC.1.1)) (λe=>by unfold tx at e;omega) (λe=>by unfold tx at e;omega) (λ_ h=>h.elim) ir.1
   (λaG e1 e2 m c hc=>by
    rcases hc with rfl|rfl
    ·exact MR dQ ⟨(e1 b' (by rw[show ia b'=tx b' 4 from iC.1.1];exact ir.1)).trans iC.1.1,jD.2⟩
    ·exact MR dQ (Own.nil _ _ _ _ _))
   λc hc K A m h=>by
    have:=Wj (n:=mD n b' { n.C b' with ended:=true }) (b:=b') (Q:=λc=> ¬(c=tx b' 4\/c=tx b' 5)) (d:= { n.C b' with v2:=aP,waits:=[],ended:=true }) (by rw[Lq];intro i hq w K A h;rcases i with _|_|_|_|_|_|_|_|i<;>first|exact h|exact absurd (.inl rfl) hq|exact absurd (.inr rfl) hq) c hc _ _ _ h
    rwa [Ut] at this
  clear hs hc;have hs:=s2.rf
  skip
  exact s2.fin λ_ _=>⟨rfl,.inr (.inr ⟨hk,b',h1,rfl⟩)⟩
end
abbrev oH:ByteArray:=⟨#[108,111,103]⟩
abbrev jH:=Int×List (Rec×Bool)
def Dt (t:bE) (l:List (Rec×Bool)):List (Rec×Bool):=l.map λx=>if x.1.aM=t then(x.1,true)else x
open Classical in
noncomputable def sy (s:jH) (r:Rec):Option jH:=
 if r.kind=8 then(if r.n=s.1+1 then some (s.1+1,s.2)else none)
 else if r.kind=9 then(if r.aM.ep=1/\r.aM.aR=s.1/\(∀x∈s.2,x.1.aM≠r.aM)then some (s.1,s.2++[(r,false)])else none)
 else if r.kind=10 then(if∃x∈s.2,x.1.aM=r.aM/\x.2=false then some (s.1,Dt r.aM s.2)else none)
 else none
noncomputable def xP:jH->List Rec->Option jH
 |s,[]=>some s
 |s,r::l=>(sy s r).bind λs'=>xP s' l
theorem Oq: ∀(l l':List Rec) (s:jH),xP s (l++l')=(xP s l).bind λs'=>xP s' l'
 |[],l',s=>rfl
 |r::l,l',s=>by
  show(sy s r).bind (λs'=>xP s' (l++l'))=((sy s r).bind λs'=>xP s' l).bind _
  cases sy s r with
  |none=>rfl
  |some x=>exact Oq l l' x
variable {s1 s2 : jH}
theorem afI {l:List Rec} {s:jH} (h:xP s l=some s1) (h2:sy s1 r=some s2):xP s (l++[r])=some s2:=by
 rw[Oq,h]
 show(sy s1 r).bind (λs'=>some s')=_
 rw[h2];rfl
def bo.abs (n:bo):jH:=(n.c.aR,n.cl.map λb=>((n.C b).r,(n.C b).ended))
def LC (n:bo):Prop:= ∀t b,getM t n.bl=some b↔b∈n.cl/\(n.C b).r.aM=t
structure Rest (n n':bo):Prop where
 nb:n'.nb=n.nb
 db:n'.db=n.db
 mb:n'.mb=n.mb
 L:n'.L=n.L
 m:n'.m=n.m
 al:n'.al=n.al
 ds:n'.ds=n.ds
 id:n'.c.id=n.c.id
 gg:n'.c.gg=n.c.gg
 lb:n'.c.lb=n.c.lb
 pre:n'.pre=n.pre
 ex:n'.ex=n.ex
 out:n'.vm=n.vm/\n'.va=n.va/\n'.rm=n.rm/\n'.ra=n.ra/\n'.ms=n.ms
theorem Rest.refl (n:bo):Rest n n:=⟨rfl,rfl,rfl,rfl,rfl,rfl,rfl,rfl,rfl,rfl,rfl,rfl,rfl,rfl,rfl,rfl,rfl⟩
theorem Rest.trans {a b c:bo} (h:Rest a b) (k:Rest b c):Rest a c:=⟨k.nb.trans h.nb,k.db.trans h.db,k.mb.trans h.mb,k.L.trans h.L,k.m.trans h.m,k.al.trans h.al,k.ds.trans h.ds,k.id.trans h.id,k.gg.trans h.gg,k.lb.trans h.lb,k.pre.trans h.pre,k.ex.trans h.ex,k.out.1.trans h.out.1,k.out.2.1.trans h.out.2.1,k.out.2.2.1.trans h.out.2.2.1,k.out.2.2.2.1.trans h.out.2.2.2.1,k.out.2.2.2.2.trans h.out.2.2.2.2⟩
variable {s' : jH}
section
variable {n : bo}
theorem afJ (h:LC n) (hi:n.c.id=1) (hr:sy n.abs r=some s'):Yu n r:=by
 unfold sy at hr;split at hr
 ·rename_i hk;split at hr
  ·rename_i h1;exact .inl ⟨hk,h1⟩
  ·cases hr
 ·split at hr
  ·rename_i hk;split at hr
   ·rename_i h1;refine .inr (.inl ⟨hk,h1.1.trans hi.symm,h1.2.1,?_⟩);cases e:getM r.aM n.bl with
    |none=>rfl
    |some b=>
     obtain⟨h2,h3⟩:=(h _ _).1 e;exact absurd h3 (h1.2.2 _ (List.mem_map.2 ⟨b,h2,rfl⟩))
   ·cases hr
  ·split at hr
   ·rename_i hk;split at hr
    ·rename_i h1;obtain⟨x,hx,h2,h3⟩:=h1;obtain⟨b,hb,rfl⟩:=List.mem_map.1 hx;exact .inr (.inr ⟨hk,b,hb,(h _ _).2 ⟨hb,h2⟩,h3⟩)
    ·cases hr
   ·cases hr
theorem Yw (h:LC n) (hr:sy n.abs r=some s') (ok:Yu n r) (hs:IC n r vp n') (hw: ∀b∈n.cl,(n.C b).waits.length<=80) (hp:r.parts.length<=80):
  n'.abs=s'/\LC n'/\Rest n n'/\(∀b∈n'.cl,(n'.C b).waits.length<=80)/\n'.cl.length<=n.cl.length+1:=by
 unfold sy at hr;unfold IC mD at hs;rcases hs with⟨hk,rfl⟩|⟨hk,v,bx,DI,v2,_,gr,rfl⟩|⟨hk,b,hb,rfl⟩
 ·rw[if_pos hk] at hr;split at hr
  ·exact⟨bU hr,h,⟨rfl,rfl,rfl,rfl,rfl,rfl,rfl,rfl,rfl,rfl,rfl,rfl,rfl,rfl,rfl,rfl,rfl⟩,hw,dF _⟩
  ·cases hr
 ·have qg:getM r.aM n.bl=none:=by
   rcases ok with ok|ok|ok
   ·omega
   ·exact ok.2.2.2
   ·omega
  rw[if_neg zQ,if_pos hk] at hr;have ct: ∀b∈n.cl,b≠bx:=λb hb e=>gr (e▸hb);split at hr
  ·have e:=bU hr;refine⟨?_,λt b=>?_,⟨rfl,rfl,rfl,rfl,rfl,rfl,rfl,rfl,rfl,rfl,rfl,rfl,rfl,rfl,rfl,rfl,rfl⟩,λb hb=>?_,by simp⟩
   ·rw[<-e];unfold bo.abs;dsimp only;rw[aD];refine congrArg (Prod.mk _) ?_;rw[ee (l:=n.cl) (g:=λb=>((n.C b).r,(n.C b).ended)) λb hb=>by grind];simp
   ·dsimp only;by_cases ht:t=r.aM
    ·subst ht;rw[kn];constructor
     ·grind
     ·rintro⟨h1,h2⟩;rcases List.mem_append.1 h1 with h1|h1
      ·rw[if_neg (ct b h1)] at h2;rw[(h _ _).2 ⟨h1,h2⟩] at qg;cases qg
      ·rw[List.mem_singleton.1 h1]
    ·rw[oZ ht];constructor
     ·intro e;obtain⟨h1,h2⟩:=(h _ _).1 e
      grind
     ·rintro⟨h1,h2⟩;rcases List.mem_append.1 h1 with h1|h1
      ·rw[if_neg (ct b h1)] at h2;exact(h _ _).2 ⟨h1,h2⟩
      ·rw[aw] at h1
       grind
   ·dsimp only at hb⊢;split
    ·exact hp
    ·rename_i hn;rcases List.mem_append.1 hb with hb|hb
     ·grind
     grind
  ·cases hr
 ·rw[if_neg zQ,if_neg zQ,if_pos hk] at hr;obtain⟨hbc,hbt⟩:=(h _ _).1 hb;split at hr
  ·have e:=bU hr;refine⟨?_,λt b'=>?_,⟨rfl,rfl,rfl,rfl,rfl,rfl,rfl,rfl,rfl,rfl,rfl,rfl,rfl,rfl,rfl,rfl,rfl⟩,λb' dT=>?_,dF _⟩
   ·rw[<-e];unfold bo.abs Dt;dsimp only;rw[bz];refine congrArg (Prod.mk _) (ee λb' dT=>?_);by_cases e:b'=b
    ·grind
    ·rw[if_neg e];have: ¬(n.C b').r.aM=r.aM:=λe'=>by
      have:=(h _ _).2 ⟨dT,e'⟩
      grind
     simp[this]
   ·refine(h t b').trans (and_congr_right λ_=>?_)
    grind
   grind
  ·cases hr
def Yy (d:B6):Prop:=d.ended=false->d.waits=d.r.parts
theorem IC.we (hs:IC n r vp n') (hw: ∀b∈n.cl,Yy (n.C b)): ∀b∈n'.cl,Yy (n'.C b):=by
 unfold IC mD at hs;rcases hs with⟨_,rfl⟩|⟨_,v,bx,DI,v2,_,_,rfl⟩|⟨_,b,_,rfl⟩
 ·exact hw
 ·intro b hb;dsimp only at hb⊢;split
  ·exact λ_=>rfl
  ·rename_i hn;exact(List.mem_append.1 hb).elim (hw b) λh=>absurd (List.mem_singleton.1 h) hn
 ·intro b' dT;dsimp only;split
  ·exact λe=>A9 e
  ·exact hw b' dT
end
theorem gG.count: ∀{l:List dN} {s:dN} {f:Nat},gG (l++[s])->oc (l++[s])=some f->s.first+s.bh.length=f+(fI (l++[s])).length
 |[],s,f,_,h=>by
  have:s.first=f:=bU h
  simp[fI,this]
 |[a],s,f,h,hf=>by
  have h1:s.first=a.first+a.bh.length:=h.1
  have h2:a.first=f:=bU hf
  simp[fI];omega
 |a::b::l,s,f,h,hf=>by
  have h1:b.first=a.first+a.bh.length:=h.1
  have h2:a.first=f:=bU hf
  have:=gG.count (l:=b::l) (s:=s) (f:=b.first) h.2.2 rfl;have e:fI (a::b::l++[s])=a.bh++fI (b::l++[s]):=by simp[fI]
  grind
theorem gG.has: ∀{l:List dN} {f k:Nat} {p:List Nat},gG l->oc l=some f->(fI l)[k]? =some p-> ∃(j:Nat) (s:dN),l[j]? =some s/\s.first<=f+k/\(∀(i:Nat) (t:dN),j<i->l[i]? =some t->f+k<t.first)/\s.bh[f+k-s.first]? =some p
 |[],_,_,_,_,h,_=>by cases h
 |s::l,f,k,p,hl,h,hk=>by
  have hf:s.first=f:=bU h
  have hr:fI (s::l)=s.bh++fI l:=by simp[fI]
  rw[hr] at hk;by_cases cB:k<s.bh.length
  ·rw[List.getElem?_append_left cB] at hk;refine⟨0,s,rfl,by omega,λi t hi ht=>?_,by simp_all⟩;cases i with
   |zero=>omega
   |succ i=>
    rw[uK] at ht;cases l with
    |nil=>cases ht
    |cons u r=>
     have h1:=hl.1;have hm:=aA ht;rcases List.mem_cons.1 hm with rfl|hm
     ·omega
     ·have:=hl.tail.lt t hm;omega
  ·rw[List.getElem?_append_right zQ] at hk;cases l with
   |nil=>simp[fI] at hk
   |cons u r=>
    have h1:=hl.1;obtain⟨j,q,h2,h3,h4,h5⟩:=gG.has (l:=u::r) (f:=u.first) hl.tail rfl hk;have e:u.first+(k-s.bh.length)=f+k:=by omega
    rw[e] at h3 h4 h5;exact⟨j+1,q,by assumption,h3,λi t hi ht=>by
     cases i with
     |zero=>omega
     |succ i=>rw[uK] at ht;exact h4 i t zQ ht,h5⟩
structure Uy (r:Rec):Prop where
 co:Uw r
 err:r.err=0
 len:(ga r).length<=900
 isb: ∀b∈ga r,b<256
 ps:r.parts.length<=80
structure LF (x:LD) (pre:List dN) (s:dN) (rs:List Rec):Prop where
 up:oC x pre s
 fst:oc (pre++[s])=some 1
 As:fI (pre++[s])=rs.map ga
 ok: ∀r∈rs,Uy r
 len:rs.length<=1000
variable {rs : List Rec} {s : dN} {x : LD}
theorem LF.next (h:LF x pre s rs):x.L.next=1+rs.length:=by
 have:=gG.count h.up.g.lk h.fst;rw[h.As,ah] at this;rw[h.up.next];exact this
variable {k : Nat}
theorem LF.has (h:LF x pre s rs) (hr:rs[k]? =some r):x.L.has (1+k) (ga r):=by
 unfold LM.has;rw[h.up.bC];exact gG.has h.up.g.lk h.fst (by rw[h.As,List.getElem?_map,hr];rfl)
theorem LF.head (h:LF x pre s rs): ∃u t,x.L.bC=u::t/\u.first=1:=by
 have h1:=h.fst;rw[h.up.bC];cases pre with
 |nil=>exact⟨s,[],rfl,bU h1⟩
 |cons u v=>exact⟨u,v++[s],rfl,bU h1⟩
theorem Yz {s:jH} (h:sy s r=some s'):s.1<=s'.1/\s'.1<=s.1+1:=by
 unfold sy at h;repeat' split at h
 all_goals first|cases h;done|(have e:=bU h;rw[<-e];dsimp only;omega)
variable {F : Nat -> pN} {db : Nat}
section
variable {N : XS} {n : bo}
structure OI (n0 n:bo) (s:jH) (k:Nat):Prop where
 abs:n.abs=s
 bl:LC n
 rest:Rest n0 n
 cw: ∀b∈n.cl,(n.C b).waits.length<=80
 cl:n.cl.length<=k
 aR:0<=n.c.aR/\n.c.aR<=k
 we: ∀b∈n.cl,Yy (n.C b)
structure ajI (l:List eI) (x:LD) (s1:jH) (db k:Nat) (n:bo):Prop where
 db:n.db=db
 abs:n.abs=(s1.1+1,s1.2)
 bl:LC n
 id:n.c.id=1
 gg:n.c.gg=0
 al:n.al=[]
 ck:n.ck=⟨0,0,21⟩
 ds:n.ds=l.foldl iX []
 ld:(⟨n.L,n.m⟩:LD)=(x.iD 0 (ga (lN (s1.1+1)))).1
 ms:n.ms=[]
 vm:n.vm=aP
 va:n.va=aP
 rm:n.rm=[]
 ra:n.ra=[]
 cw: ∀b∈n.cl,(n.C b).waits.length<=80
 cl:n.cl.length<=k
 pre:n.pre=false
 ex:n.ex=[]
 we: ∀b∈n.cl,Yy (n.C b)
def lgR (lb db:Nat) (L:LM) (m:DM):pN:=⟨λw _ A=>Lg w A lb db L m,λh _ m=>ajJ h m⟩
def diR (rb mb:Nat) (ds:tr):pN:=⟨λw _ A=>mc w A rb mb ds,λh _ m=>h.mv m⟩
theorem _root_.Go.aL.St.Ic (s:St w0 bN w X own F) (j:Nat) (r:pN) (hN: ∀k,N k->X k/\own k=0/\w0.heap.size<=k) (hr: ∀K,r.p w K N) (h0:j≠0:=by decide) (h4:j≠4:=by decide):
  ∃aG,St w0 bN w X aG (λc=>if c=j then r else F c)/\Mv (bQ own 4) w (bQ aG 4) w/\ ∀k,¬N k->aG k=own k:=by
 obtain⟨aG,s',m,e,-⟩:=s.jR (F':=λc=>if c=j then r else F c) (j:=j) (N:=N) (dY.nz s.rf nX) (· =j) (λ_ h=>h.elim) h0.symm h4.symm hN h0 (λaG _ e2 m c hc=>by subst hc;rw[if_pos rfl];exact r.mv (hr _) (Mv.refl _ _) (Mv.sub e2)) λc hc K A _ h=>by rw[if_neg hc];exact h
 exact⟨aG,s',m,e⟩
theorem E3 {l:List eI} {m:DM} {sf:jH} (h:Hs (QS db m) w own) (hX:qV own X) (ha:Sl w (bQ own 4) 4 a (l.map eI.l)) (hc:Bc l=0)
  (zh: ∀x∈m.fs,x.1.size<=2^40) (iP:m.fs.length<=2^29) (F8: ∀n,∀b∈m.bytes n,b<256) (hO:LD.BH oH 4096 m=(x,0)) (hL:LF x pre sg rs) (jw:xP (0,[]) rs=some sf) (DG:(x.iD 0 (ga (lN (sf.1+1)))).2.2=0) (hke:(lN (sf.1+1)).fJ=0):
  Ct pg 36 #[ptr db 0,I 1,I 4096,a] w X (gF own) λv wa w'=>NQ dR own wa w' λ_ n=>v= .tuple #[ptr n.nb 0,I 0]/\ajI l x sf db rs.length n:=by
 intro w0 hk;have s:=St.init h hX hk;replace ha:=ha.mv (yF hX hk);clear h hX hk;refine SO.g (RP:=λ_ _=>False) (show YA Tryz.f36=some (81,[8,9])from by kernel_rfl) (.inl rfl) aaO DV ?_;refine cz ?_;have hs:=s.rf;repeat' refine aJ ?_;intros
 refine cu (afK (ha.mono (s.sub 4))) kQ hs.has ?_;rintro v1 DE w1 X1 q1 pU nq ax;rw[if_neg zQ] at q1;obtain⟨rb,mb,D,rfl,hD,amf⟩:=q1;obtain⟨ia,s1,m1,e1⟩:=(s.since ax).Ic (N:=D) 2 (diR rb mb (l.foldl iX [])) (λk hk=>⟨nq k (hD k hk),s.nw (ad pU (hD k hk).1)⟩) λ_=>amf;clear hs;have hs:=s1.rf;repeat' refine aJ ?_;intros
 refine yP (adv (dir:=oH) (sz:=4096) (s1.get 3:Dk w1 (bQ ia 3) db m) (s1.fxc 3) zh iP F8 dQ dQ dQ dQ) kQ s1.has (s1.sub 3) λv xu w2 X2 zc lu ka _ c2=>?_;rw[hO] at zc;obtain⟨lb,F2,rfl,hF2,_,g2⟩:=zc;replace g2:=g2 rfl;dsimp only at g2;obtain⟨lE,s2,m2⟩:=s1.Dh (F':=λc=>if c=2 then diR rb mb (l.foldl iX [])else if c=3 then lgR lb db x.L x.m else QT) 3 c2 (λ_ e=>e) F2 (λk af=>(hF2 k af).imp id λe=>⟨ka k e,ad lu e.1⟩) (λ_ _=>g2) λc hc w K A h=>by
  by_cases e:c=2
  ·rw[if_pos e] at h⊢;exact h
  ·rw[if_neg e,if_neg hc];trivial
 rw[if_pos rfl];clear hs;have hs:=s2.rf;repeat' refine aJ ?_;intros
 refine qY (kv:=λk:bE=>k.v) xw nX s2.has λab w3 X3 wI dp qm=>?_;obtain⟨mY,s3,m3,e3⟩:=(s2.since dp).Ic (N:=(· =ab)) 5 (mpR ab []) (λk hk=>by subst hk;exact⟨qm.x.1,s2.nw wI⟩) λ_=>qm.own;refine qY (kv:=λk:bE=>k.v) xw nX s3.has λtb w4 X4 htb fX Ao=>?_;obtain⟨lF,s4,m4,e4⟩:=(s3.since fX).Ic (N:=(· =tb)) 6 (mpR tb []) (λk hk=>by subst hk;exact⟨Ao.x.1,s3.nw htb⟩) λ_=>Ao.own;clear hs;have hs:=s4.rf;repeat' first|refine ak ?_;intros|(refine Od hs ?_;intro bx w X gr ax gf hs bw)
 obtain⟨mA,s5,m5,e5⟩:=(s4.since ax).Ic (N:=(· =bx)) 1 (Yf bx (GG ⟨1,0,0,lb,rb,0,ab,aP,tb⟩ (.pointer none) aP aP) nT) (λk hk=>by subst hk;exact⟨bw.1,s4.nw aQ⟩) λ_=>⟨rfl,bw.2⟩;obtain⟨n0,Uz⟩: ∃n0:bo,n0= { nb:=bx,db:=db,mb:=mb,c:=⟨1,0,0,lb,rb,0,ab,aP,tb⟩,ck:=.zero,ds:=l.foldl iX [],L:=x.L,m:=x.m,al:=[],bl:=[],vm:=aP,va:=aP,rm:=[],ra:=[],ms:=[],cl:=[],A:=λ_=>⟨⟨.zero,aP,.zero,0,aP,false,aP,.zero⟩,aP,[],[],[],[],[],false⟩,C:=λ_=>⟨mf .zero,aP,aP,[],false⟩,pre:=true } :=⟨_,rfl⟩;have hA: ∀b,¬n0.gy b:=λb h=>by
  rw[Uz] at h;exact h.elim (λ⟨t,e⟩=>by cases e) λe=>by cases e
 have hC: ∀b,b ∉ n0.cl:=λb h=>by rw[Uz] at h;cases h
 replace s5:Sn w0 own w X mA n0:=s5.to λc h0 h4 w K A h=>by
  by_cases hc:c<16
  ·subst Uz;unfold dR;rw[if_pos hc];rcases c with _|_|_|_|_|_|_|_|_|_|_|_|_|c<;>first|exact absurd rfl h0|exact h|exact Own.nil _ _ _ _ _|exact fT.nil _ _|exact λe=>A9 e|(intro t b e;cases e;done)|trivial
  ·unfold dR;rw[if_neg hc];generalize c/8-2=b;generalize c % 8=i;rcases i with _|_|_|_|_|_|_|_|i<;>first|exact λha=>absurd ha (hA _)|exact λha=>absurd ha (hC _)|trivial
 clear hA hC;have hI:OI n0 n0 (0,[]) 0:=by
  rw[Uz];exact⟨rfl,λt b=>by constructor<;>intro h<;>simp[getM] at h,Rest.refl _,λb hb=>absurd hb sQ,au _,⟨sV _,sV _⟩,λb hb=>absurd hb sQ⟩
 have hx:n0.nb=bx/\n0.c.lb=lb/\n0.db=db/\n0.L=x.L/\n0.m=x.m/\n0.c.id=1/\n0.c.gg=0/\n0.al=[]/\n0.ds=l.foldl iX []:=by rw[Uz];exact⟨rfl,rfl,rfl,rfl,rfl,rfl,rfl,rfl,rfl⟩
 have hy:n0.pre=true/\n0.ex=[]/\n0.vm=aP/\n0.va=aP/\n0.rm=[]/\n0.ra=[]/\n0.ms=[]:=by rw[Uz];exact⟨rfl,rfl,rfl,rfl,rfl,rfl,rfl⟩
 clear Uz bw;obtain⟨x1,x2,x3,x4,x5,x6,x7,x8,x9⟩:=hx;obtain⟨u,tl,Ld,hu1⟩:=hL.head;have hLK:=hL.up.Lc;have nf:=hL.next
 have qh:=hL.len;have lg: ∀{w' X' aG n'},Sn w0 own w' X' aG n'->Rest n0 n'->Lg w' (bQ aG 3) lb db x.L x.m:=λ{w' X' aG n'} s hr=>by
  have:Lg w' (bQ aG 3) n'.c.lb n'.db n'.L n'.m:=s.get 3
  rwa [hr.lb,hr.db,hr.L,hr.m,x2,x3,x4,x5] at this
 have hfx: ∀{FL:XS} {aG:Nat->Nat},(∀k,FL k->bQ aG 3 k)-> ∀k,FL k->gF aG k:=λh k hk=>by have:_=3:=h k hk;exact⟨by omega,by omega⟩
 obtain⟨FL,FD,sv,bl,hW⟩:=(lg s5 (Rest.refl _)).lw;refine dS (Oj hW.l Ld (s5.t.fx (hfx hW.hL))) kQ s5.has λw6 X6 tF=>?_;rw[hu1];have s6:=s5.since tF;refine AW (λn a b c w X=> ∃(k:Nat) (aG:Nat->Nat) (n':bo) (s:jH),a=I ((1+k:Nat):Int)/\b= .agg #[I 0]/\c= .agg #[ptr bx 0]/\n=rs.length-k/\k<=rs.length/\Sn w0 own w X aG n'/\OI n0 n' s k/\xP s (rs.drop k)=some sf) rs.length
  ⟨0,mA,n0,(0,[]),rfl,rfl,rfl,rfl,aq _,s6,hI,jw⟩ ?_
 clear s6 tF s5 hW hI jw hs;rintro n _ _ _ w7 X7 ⟨k,B0,n7,s,rfl,rfl,rfl,rfl,wP,s7,hI,jw⟩;have lJ:n7.nb=bx:=hI.rest.nb.trans x1;obtain⟨FL,FD,sv,bl,hW⟩:=(lg s7 hI.rest).lw;refine dS (DX hW.l hLK (s7.t.fx (hfx hW.hL))) kQ s7.has λw8 X8 kV=>?_;rw[nf];have s8:=s7.since kV;replace hW:=hW.mv (kV.gV (s7.sub 3));clear s7 kV;have hs:=s8.rf;rcases dA rs k with⟨cB,r,hr,hd⟩|⟨dB,hd⟩
 ·rw[hd] at jw;obtain⟨s',qU,jD⟩:=Option.bind_eq_some_iff.1 (show(sy s r).bind (λs'=>xP s' (rs.drop (k+1)))=some sf from jw);have hG:=hL.ok r (aA hr);have as3:=hG.len;have Gh:=hG.ps;repeat' refine aJ ?_;intros
  refine cu (adx hW.l hLK (hL.has hr) zQ Ld zQ (by rw[nf];omega) (s8.t.fx (hfx hW.hL))) kQ s8.has ?_;rintro _ FZ w9 X9 ⟨vb,rfl,yE⟩ amx ahY Ar;have s9:=s8.since Ar;clear hs;have hs:=s9.rf;repeat' refine ak ?_;intros
  refine cu (SM hG.co (yE.sl.mono ahY) hG.err zQ hG.isb) kQ s9.has ?_;rintro _ amy JG LA ⟨va,rfl,hva⟩ adU Q7 Sz;obtain⟨ID,Ot,-,-,p4⟩:=(s9.since Sz).uR (N:=made amy JG) λq hq=>⟨Q7 q hq,s9.nw (ad adU hq.1)⟩;have hp:Sl JG (bQ ID 4) 1 va (r.parts.map I1):=hva.sl.mono p4;have oa:=hp.one;obtain⟨e1,e2,e3,rfl⟩:=hp.form;clear hs;have hs:=Ot.rf;have ok:=afJ hI.bl (hI.rest.id.trans x6) (by rw[hI.abs];exact qU);have pG:=hI.cl;have JH:=hI.aR;have xt:=Yz qU;have e0:s.1=n7.c.aR:=by rw[<-hI.abs];rfl
  repeat' refine aJ ?_;intros
  refine ij (Q:=λK=> ∀w X aG n',Sn w0 own w X aG n'->OI n0 n' s' (k+1)->K (B true) w X) ?_ λK hK=>?_
  ·intro w12 X12 Q8 n12 UA aqR;clear hs;repeat' refine ak ?_;intros
   exact zi (rs.length-(k+1)) zQ ⟨k+1,Q8,n12,s',congrArg I zQ,rfl,rfl,rfl,by omega,UA,aqR,jD⟩
  ·repeat' refine ak ?_;intros
   rw[<-lJ];refine Ot.call (Yv (r:=r) Ot.h Ot.x ok hp zQ zQ zQ) kQ λv w12 X12 Q8 n12 UA ⟨hv,hS⟩ _=>?_;subst hv;obtain⟨i1,i2,i3,i4,i5⟩:=Yw hI.bl (by rw[hI.abs];exact qU) ok hS hI.cw Gh;have e12:s'.1=n12.c.aR:=by rw[<-i1];rfl
   exact hK _ _ Q8 n12 UA ⟨i1,i2,hI.rest.trans i3,i4,by omega,⟨by omega,by omega⟩,hS.we hI.we⟩
 have af:k=rs.length:=by omega
 rw[hd] at jw;obtain rfl:s=sf:=bU jw;have e0:s.1=n7.c.aR:=by rw[<-hI.abs];rfl
 rw[e0] at DG hke;subst lJ;have JH:=hI.aR;have vH:n7.c.id=1:=hI.rest.id.trans x6;have hb8:(ga (lN (n7.c.aR+1))).length<=900:=by
  have:=fz 8;have:=fz (n7.c.aR+1);rw[Q3,aa];omega
 have hr8:=s8.v.1;repeat' refine aJ ?_;intros
 have eK:jz n7 (lN (n7.c.aR+1))=x.iD 0 (ga (lN (n7.c.aR+1))):=by
  unfold jz;rw[hI.rest.L,hI.rest.m,x4,x5,hke];rfl
 refine s8.Wf (nb:=n7.nb) (db:=n7.db) (QP:=MQ n7 (lN (n7.c.aR+1))) (EW (r:=lN (n7.c.aR+1)) s8.h s8.x (by rw[hI.rest.L,hI.rest.m,x4,x5];exact hL.up) (abX rfl rfl rfl rfl rfl) (DY rfl rfl rfl) zQ) kQ (λv w9 X9 nv n9 s9 ⟨k1,k2,k3⟩ _=>?_) λwb _ ⟨_,_,_,_,xH⟩=>by
  have:=xH.1;rw[eK,DG] at this;exact absurd this dQ
 subst k2;rw[eK,DG];have y1:n9.nb=n7.nb/\n9.c=n7.c:=by rw[k3];exact⟨rfl,rfl⟩
 rw[<-y1.1];have as4:0<=n9.c.aR/\n9.c.aR<=k:=by rw[y1.2];exact JH
 clear hs hr8;have hs:=s9.rf;have Qr:=s9.v.1;repeat' refine aJ ?_;intros
 refine s9.st (o:=1) 1 (s9.get 1) (dR { n9 with c:= { n9.c with aR:=n9.c.aR+1 } }) zQ kQ (ea rfl) rfl (λ_ _ _ h=>h) ny λJG LA ajK QX m10=>?_;clear hs Qr;have hs:=QX.rf;have Yt:=QX.v.1;repeat' refine ak ?_;intros
 obtain⟨n10,ahZ⟩: ∃n10:bo,n10= { n9 with c:= { n9.c with aR:=n9.c.aR+1 } } :=⟨_,rfl⟩;rw[<-ahZ] at QX Yt;have y2:n10.nb=n9.nb/\n10.c.id=1:=by rw[ahZ];exact⟨rfl,by rw[y1.2];exact vH⟩
 rw[<-y2.1];refine dS (Ba (Y:=LA) Yt (λ_ h=>h) (by rw[y2.2];decide)) kQ QX.has λw11 X11 amz=>?_;rw[y2.2];have Ot:=QX.since amz;refine cu (afL (node:=21) (fl:=.zero) dQ dQ dQ) kQ amz.has ?_;rintro _ as5 w12 X12 ⟨cb,rfl,AT⟩ aoI aoJ rJ;obtain⟨Q8,UA,m12,e12⟩:=(Ot.since rJ).Ic (N:=(· =cb)) 7 ⟨λw _ A=>aH w A cb (GI ⟨0,0,21⟩) Ik/\(⟨0,0,21⟩:cn).may=true,λh _ m=>⟨h.1.mv m,h.2⟩⟩ (λk e=>by subst e;exact⟨aoJ k AT.1,Ot.nw (ad aoI AT.1.1)⟩) λ_=>⟨⟨rfl,AT.2⟩,by decide⟩;clear hs Yt;have hs:=UA.rf;have amA:aH w12 (bQ Q8 1) n10.nb (GG n10.c n10.DF n10.vm n10.va) nT:=UA.get 1;have hrX:=amA.mono (UA.sub 1);repeat' refine ak ?_;intros
 refine UA.st (o:=6) 1 amA (dR { n10 with c:= { n10.c with cb:=cb },ck:=⟨0,0,21⟩,pre:=false }) zQ kQ (ea rfl) rfl (λ_ _ _ h=>h) (λc hc w K A h=>?_) λw13 X13 aoK s13 m13=>?_
 ·by_cases e:c=7
  ·subst e;exact λ_=>h
  ·rw[if_neg e] at h;exact(ny: ∀c,(c≠1/\c≠7)-> ∀w K A,(dR n10 c).p w K A->(dR { n10 with c:= { n10.c with cb:=cb },ck:=⟨0,0,21⟩,pre:=false } c).p w K A) c ⟨hc,e⟩ w K A h
 clear hs hrX;have hs:=s13.rf;repeat' refine ak ?_;intros
 obtain⟨y3,y4,y5,y6,y7,y8,y9⟩:=hy;have ho:=hI.rest.out;refine s13.t.adS λwa aI=>⟨aoK,_,s13.e,s13.h.kp s13.x aI,rfl,?_⟩;rw[ahZ,k3];refine⟨hI.rest.db.trans x3,?_,hI.bl,vH,hI.rest.gg.trans x7,hI.rest.al.trans x8,rfl,hI.rest.ds.trans x9,?_,ho.2.2.2.2.trans y9,ho.1.trans y5,ho.2.1.trans y6,ho.2.2.1.trans y7,ho.2.2.2.1.trans y8,hI.cw,by rw[<-af];exact hI.cl,rfl,hI.rest.ex.trans y4,hI.we⟩
 ·rw[<-hI.abs];rfl
 ·rw[e0,<-eK]
end
section
variable {Y : XS} {n : bo} {nb : Nat} {m : DM}
theorem Vv (h:Lk w X nb) (oa:aL.one a=true):
  Ct pg 29 #[ptr nb 0,I gM,a] w X nX λv _ _=>v= .tuple #[.agg #[I 0,I 0,I 0],.agg #[aP,aP],I 12]:=by
 intro w0 hk;obtain⟨x0,x1,x2,x3,x5,x6,x7,x8,x9,vm,va,bw⟩:=h.mv hk.cr;refine Bz.g (RP:=λ_ _=>False) (g0:=59) (cb:=[3,7,8,6]) (cv:=[]) kQ (.inl rfl) Oa DV ?_;rw[OX Hw,Xq Hw];refine cz ?_;have hs:=ai.init w0;repeat' refine ak ?_;intros
 exact bS hs λwa aI=>rfl
theorem Vw {g:cJ} (h:Lk w X nb) (hm:g.at w Y vk vs vw vp vr vc vh vd):
  Ct pg 25 #[ptr nb 0,I gM,g.v vk vs vw vp vr vc vh vd] w X nX λv _ _=>v=Wk:=by
 intro w0 hk;obtain⟨x0,x1,x2,x3,x5,x6,x7,x8,x9,vm,va,bw⟩:=h.mv hk.cr;refine BM.g (RP:=λ_ _=>False) (g0:=51) (cb:=[3,6,7]) (cv:=[]) kQ (.inl rfl) Ob DV ?_;rw[OX Hw,Xq Hw];refine cz ?_;have hs:=ai.init w0;repeat' refine ak ?_;intros
 exact bS hs λwa aI=>rfl
theorem Vx (h:Lk w X nb):Ct pg 16 #[ptr nb 0,I gM] w X nX λv _ _=>v=Wk:=by
 intro w0 hk;obtain⟨x0,x1,x2,x3,x5,x6,x7,x8,x9,vm,va,bw⟩:=h.mv hk.cr;refine CZ.1 λhs=>?_;repeat' refine ak ?_;intros
 exact bS hs λwa aI=>rfl
def amB (h:jy w own n) (hX:qV own X):aH w X n.nb (GG n.c n.DF n.vm n.va) nT:=(h.gI 1 dQ dQ:aH w (bQ own 1) _ _ _).mono λk (e:own k=1)=>hX k zQ
theorem E4 (h:jy w own n) (hX:qV own X):Ct pg 26 #[ptr n.nb 0] w X nX λv _ _=>v=I n.c.aR:=by
 intro w0 hk;have bw:=(amB h hX).mv hk.cr;have hs:=ai.init w0;refine LG.1 λ_=>?_;repeat' first|refine ak ?_;intros|(refine qr ?_;intro wa hk;rfl)
theorem Q9 (h:jy w own n) (hX:qV own X) (hl:n.al.length<=2^40):
  Ct pg 15 #[ptr n.nb 0] w X nX λv wa w'=> ∃ts:List bE,ts.Perm (n.al.map (·.1))/\ts.Pairwise (λa b=>b.less a=false)/\Own w' (made wa w') wa.heap.size tT 3 v (ts.map bE.l):=
 FP (Y:=X) (amB h hX) (λ_ h=>h) (lv (h.gI 5 dQ dQ:dK w (bQ own 5) nX n.c.ab (λk:bE=>k.v) xw n.al) (hX _ (by rw[show own n.c.ab=5 from(h.gI 5 dQ dQ:dK w (bQ own 5) nX n.c.ab (λk:bE=>k.v) xw n.al).x.1];decide))) hl
def DM.od (m:DM) (n:Int):DM:=if m.dn then m else { m with ar:=n.toNat }
theorem aa6 (h:jy w own n) (hX:qV own X) (hz:z<2^63):
  Ct pg 14 #[ptr n.db 0,I z] w X (gF own) λv wa w'=>NQ dR own wa w' λ_ n'=>v= .tuple #[]/\n'= { n with m:=n.m.od z } :=by
 intro wa hk;have ha:=h.kp hX hk;obtain⟨FL,FD,sv,bl,hW⟩:=(ha.gI 3 dQ dQ:Lg wa (bQ own 3) n.c.lb n.db n.L n.m).lw;have cB: ∀k,FD k->k<wa.heap.size:=λk af=>ha.lt k (by have:own k=3:=hW.hD k af;omega);refine((Ra hW.d (λk af=>⟨cB k af,cB k af⟩) hz) wa (Kp.refl _ _)).mono ?_;rintro e w' ⟨v,he,hf,hv,hd⟩;have wT:Fr (bQ own 3) wa w':=hf.mono hW.hD;exact⟨v,he,wT.mono λk (e:own k=3)=>⟨by omega,by omega⟩,own,_,Bd.refl _ _,ha.one (F':=dR { n with m:=n.m.od z }) 3 wT.size (λk hk h3=>wT.block k (ha.lt k hk) h3) ⟨FL,FD,sv,bl,hW.dj,hW.hL,hW.hD,hW.l.mv λk hk hl=>⟨hk,hf.block k hl λh=>hW.dj k hk h⟩,hd⟩ ny,hv,rfl⟩
theorem aa7 (h:QU w own nb db m) (hX:qV own X) (hz:z<2^63) (hd:m.dn=true):
  Ct pg 14 #[ptr db 0,I z] w X (gF own) λv wa w'=>NQ (Us nb db) own wa w' λ_ m'=>v= .tuple #[]/\m'=m:=by
 intro wa hk;have ha:=h.kp hX hk;refine((Ra (ha.gI 3 dQ dQ:Dk wa (bQ own 3) db m) (λk (e:own k=3)=>⟨ha.lt k zQ,ha.lt k zQ⟩) hz) wa (Kp.refl _ _)).mono ?_;rintro e w' ⟨v,he,hf,hv,hdk⟩;rw[if_pos hd] at hdk;exact⟨v,he,hf.mono λk (e:own k=3)=>⟨by omega,by omega⟩,own,m,Bd.refl _ _,ha.one 3 hf.size (λk hk h3=>hf.block k (ha.lt k hk) h3) hdk λ_ _ _ _ _ h=>h,hv,rfl⟩
theorem _root_.Go.aL.St.kst (s:Sn w0 bN w X own n):St w0 bN w X own (QS n.db n.m):=s.to λc h0 h4 w K A h=>by
 rcases c with _|_|_|_|c<;>first|exact Lg.dk h|trivial
theorem _root_.Go.aL.St.aqS (s:St w0 bN w X own (Us nb db m)):St w0 bN w X own (QS db m):=s.to λc h0 h4 w K A h=>by
 rcases c with _|_|_|_|c<;>first|exact h|trivial
theorem _root_.Go.aL.St.me {vq:Value} {cH:List Int} {N:Value->World->XS->Prop} (s:St w0 bN w X own (QS db m)) (hq:Sl w (bQ own 4) 1 vq (cH.map I1)) (hn: ∀x∈m.fs,x.1.size<=2^40) (hl:m.fs.length<=2^40)
  (k: ∀w' X' aG,St w0 bN w' X' aG (QS db (m.me cH))->N (.tuple #[]) w' X'):eC pg R X w true 38 #[ptr db 0,vq] N:=
 yP (XJ (s.get 3:Dk w (bQ own 3) db m) (s.fxc 3) hq (λk (e:own k=4)=>⟨s.x k zQ,λh:own k=3=>by omega⟩) hn hl) kQ s.has (s.sub 3) λv wa w' X' ⟨hv,hd⟩ _ _ _ c=>by
  subst hv;obtain⟨aG,s',_⟩:=s.Dh (F':=QS db (m.me cH)) 3 c (λ_ e=>e) (bQ own 3) (λ_ e=>.inl e) (λ_ _=>hd) λc hc w K A h=>by rcases c with _|_|_|_|c<;>first|exact h|exact absurd rfl hc
  exact k w' X' aG s'
theorem _root_.Go.aL.St.ajL {P:Program} {f:FuncId} {args:Array Value} {N:Value->World->XS->Prop} {Q:Value->World->(Nat->Nat)->bo->Prop} {dv:Value} {QP:DM->Prop} (s:Sn w0 bN w X own n) (h:Ct P f args w X (gF own) λv wa w'=>NQ dR own wa w' (Q v w')\/(v=dv/\DQ own nb db wa w' QP)) (hf:enters P f=true)
  (k: ∀v w' X' aG n',Sn w0 bN w' X' aG n'->Q v w' aG n'->Mv (bQ own 4) w (bQ aG 4) w'->N v w' X') (kd: ∀w' X' aG m',St w0 bN w' X' aG (Us nb db m')->QP m'->N dv w' X'):eC P R X w true f args N:=
 s.t.call h hf (λ_ h=>h) λv wa w' X' hq hle gv _ c=>by
  rcases hq with⟨aG,n',e,h',q⟩|⟨rfl,aG,m',e,h',q⟩
  ·exact k v w' X' aG n' (s.Yd hle gv c e h').1 q (s.Yd hle gv c e h').2
  ·exact kd w' X' aG m' (s.Yd (dR:=Us nb db) hle gv c e h').1 q
end
structure pj (B c n:Nat) (x:LD):Prop where
 ok:mq x.m
 ne:x.L.bC≠[]
 d1:1<=x.L.dir.size
 d2:x.L.dir.size<=11
 r1:1<=x.L.room
 r2:x.L.room<=2^40
 keys: ∀k∈x.m.ks,∃f∈x.L.bC.map (·.first),k=bP x.L.dir f
 last:x.L.fc∈x.m.ks
 pw:(x.L.bC.map (·.first)).Pairwise (· < ·)
 emp:x.L.last.bh=[]->x.L.last.size=0
 pos: ∀s∈x.L.bC,1<=s.first/\s.first<=1+c/\s.first+s.bh.length<=1+c/\s.size<=B*c
 Et:x.L.next=1+c
 sz:x.m.sz<=B*c
 len:x.L.bC.length<=n
 gg:x.m.ks.length<=64
variable {c n : Nat}
theorem pj.Lc {B:Nat} (h:pj B c n x) (hb:B*c<=2^30) (hc:c<=2^30):pf x.L:=
 ⟨h.ne,h.d1,h.d2,λs hs=>by have:=h.pos s hs;omega,h.r2⟩
structure Alike (x y:LD):Prop where
 bC:y.L.bC=x.L.bC
 dir:y.L.dir=x.L.dir
 room:y.L.room=x.L.room
 ks:y.m.ks=x.m.ks
 sz:y.m.sz=x.m.sz
 ok:mq y.m
theorem Alike.refl (h:mq x.m):Alike x x:=⟨rfl,rfl,rfl,rfl,rfl,h⟩
variable {y : LD}
theorem Alike.trans {z:LD} (h:Alike x y) (k:Alike y z):Alike x z:=⟨k.bC.trans h.bC,k.dir.trans h.dir,k.room.trans h.room,k.ks.trans h.ks,k.sz.trans h.sz,k.ok⟩
theorem Alike.last (h:Alike x y):y.L.last=x.L.last:=by unfold LM.last;rw[h.bC]
theorem Alike.fc (h:Alike x y):y.L.fc=x.L.fc:=by unfold LM.fc;rw[h.last,h.dir]
theorem Alike.next (h:Alike x y):y.L.next=x.L.next:=by unfold LM.next;rw[h.last]
theorem Alike.inv {B:Nat} (h:Alike x y) (k:pj B c n x):pj B c n y:=by
 refine⟨h.ok,by rw[h.bC];exact k.ne,by rw[h.dir];exact k.d1,by rw[h.dir];exact k.d2,by rw[h.room];exact k.r1,by rw[h.room];exact k.r2,?_,?_,by rw[h.bC];exact k.pw,?_,?_,?_,?_,?_,by rw[h.ks];exact k.gg⟩
 ·rw[h.ks,h.bC,h.dir];exact k.keys
 ·rw[h.ks,h.fc];exact k.last
 ·rw[h.last];exact k.emp
 ·rw[h.bC];exact k.pos
 ·rw[h.next];exact k.Et
 ·rw[h.sz];exact k.sz
 ·rw[h.bC];exact k.len
theorem pj.sync {B:Nat} (h:pj B c n x):x.sync.2=0/\Alike x x.sync.1:=by
 obtain⟨h1,h2,h3,h4⟩:=h.ok.sync h.last;unfold LD.sync;dsimp only;rw[if_pos h1];exact⟨h1,⟨rfl,rfl,rfl,h3,h4,h2⟩⟩
def Full (x:LD):Prop:=64<=x.m.ks.length/\x.L.room<=x.L.last.size
theorem Alike.full (h:Alike x y) (k:Full x):Full y:=by unfold Full;rw[h.ks,h.room,h.last];exact k
variable {f : Nat}
theorem pj.le_last {B:Nat} (h:pj B c n x) (hf:f∈x.L.bC.map (·.first)):f<=x.L.last.first:=by
 have h1:=h.pw;rw[LM.SQ h.ne,aD] at h1 hf;obtain⟨_,_,h2⟩:=List.pairwise_append.1 h1;rcases List.mem_append.1 hf with hf|hf
 ·exact Nat.le_of_lt (h2 f hf _ sQ)
 ·simp at hf;omega
theorem pj.le_next {B:Nat} (h:pj B c n x) (hf:f∈x.L.bC.map (·.first)):f<=1+c:=by
 obtain⟨s,hs,rfl⟩:=List.mem_map.1 hf;exact(h.pos s hs).2.1
theorem pj.iF {B:Nat} (h:pj B c n x) (hr:x.L.last.bh≠[]) (qi:c+2<99999999):
  (64<=x.m.ks.length/\x.iF x.L.next=(x,3))\/(x.m.ks.length<64/\(x.iF x.L.next).2=0/\pj B c (n+1) (x.iF x.L.next).1):=by
 have hl:1<=x.L.last.bh.length:=by
  cases hq:x.L.last.bh with
  |nil=>grind
  |cons a b=>simp
 have nf:=h.Et;have GR: ¬bP x.L.dir x.L.next∈x.m.ks:=λhk=>by
  obtain⟨f,hf,e⟩:=h.keys _ hk;have h1:=h.le_last hf;have h2:=h.le_next hf;have:=Le zQ zQ e;unfold LM.next at this;omega
 have zh:vM (bP x.L.dir x.L.next)=true:=by
  have:=h.d1;have:=h.d2;simp only[vM,A7,decide_eq_true_eq];omega
 rw[x.m.vL];rcases h.ok.create zh GR with⟨h1,h2⟩|⟨h1,h2,h3,h4,h5⟩
 ·left;refine⟨h1,?_⟩;unfold LD.iF;rw[h2];rfl
 ·right;refine⟨h1,?_⟩;have Wl:(⟨x.L.dir,x.L.room,x.L.bC++[⟨x.L.next,[],0⟩],x.L.safe⟩:LM).last=⟨x.L.next,[],0⟩:=by simp[LM.last]
  unfold LD.iF;dsimp only;rw[if_pos h2];refine⟨h2,⟨h3,by simp,h.d1,h.d2,h.r1,h.r2,?_,?_,?_,?_,?_,?_,?_,?_,by dsimp only;rw[h4,aa,x.m.vL];simp;omega⟩⟩
  ·rw[h4];intro k hk;rcases List.mem_append.1 hk with hk|hk
   ·obtain⟨f,hf,e⟩:=h.keys k hk
    grind
   ·simp at hk;exact⟨x.L.next,by simp,hk⟩
  ·grind [LM.fc]
  ·rw[aD];refine List.pairwise_append.2 ⟨h.pw,by simp,λa ha b hb=>?_⟩;simp at hb;subst hb;have:=h.le_last ha;unfold LM.next;omega
  ·grind
  ·intro s hs;rcases List.mem_append.1 hs with hs|hs
   ·exact h.pos s hs
   simp_all
  ·show(⟨x.L.dir,x.L.room,x.L.bC++[⟨x.L.next,[],0⟩],x.L.safe⟩:LM).last.first+(⟨x.L.dir,x.L.room,x.L.bC++[⟨x.L.next,[],0⟩],x.L.safe⟩:LM).last.bh.length=1+c
   grind
  ·rw[h5];exact h.sz
  ·simp;exact h.len
variable {p : List Nat}
theorem pj.lay {B:Nat} (h:pj B c n x) (hp:p.length+12<=B) (hc:B*(c+1)<=4194304):(x.lay p).2=0/\pj B (c+1) n (x.lay p).1:=by
 have hB:B*(c+1)=B*c+B:=Nat.mul_succ B c;have iP:(dm p).length=p.length+12:=by simp[dm,tW]
 have gd:=h.sz;obtain⟨h1,h2,h3,h4⟩:=h.ok.append (b:=dm p) h.last zQ;have hlm:=LM.xJ h.ne;have hle:=LM.SQ h.ne;obtain⟨p1,p2,p3,p4⟩:=h.pos _ hlm;have Wl:(x.L.add p).last=⟨x.L.last.first,x.L.last.bh++[p],x.L.last.size+(dm p).length⟩:=by simp[LM.last,LM.add]
 have UB:(x.L.add p).bC.map (·.first)=x.L.bC.map (·.first):=by
  conv=>rhs;rw[hle]
  simp[LM.add]
 unfold LD.lay;dsimp only;rw[if_pos h1];refine⟨h1,⟨h2,by simp[LM.add],h.d1,h.d2,h.r1,h.r2,?_,?_,?_,?_,?_,?_,?_,?_,by dsimp only;rw[h3];exact h.gg⟩⟩
 ·dsimp only;rw[h3,UB];exact h.keys
 ·dsimp only;rw[h3];unfold LM.fc;rw[Wl];exact h.last
 ·dsimp only;rw[UB];exact h.pw
 ·dsimp only;rw[Wl];intro e;simp at e
 ·dsimp only;intro s hs;rcases List.mem_append.1 hs with hs|hs
  ·have:=h.pos s gQ;omega
  ·simp only[aw] at hs;subst hs;simp only[aa,aK,br,iP];omega
 ·have:=h.Et;dsimp only;unfold LM.next at this⊢;rw[Wl];simp;omega
 ·dsimp only;omega
 ·have:=h.len;rw[hle] at this;simpa [LM.add] using this
def pj.more {B n':Nat} (h:pj B c n x) (hn:n<=n'):pj B c n' x:= { h with len:=ad h.len hn }
theorem pj.bh {B:Nat} (h:pj B c n x) (hr:x.L.room<=x.L.last.size):x.L.last.bh≠[]:=λe=>by
 have:=h.emp e;have:=h.r1;omega
theorem pj.append {B:Nat} (h:pj B c n x) (hp:p.length+12<=B) (hB:B<=262144) (hc:B*(c+1)<=4194304) (qi:c+2<99999999):
  ((x.append p).2.2=0/\(x.append p).2.1=1+c/\pj B (c+1) (n+1) (x.append p).1)\/((x.append p).2.2=3/\Full x/\Alike x (x.append p).1):=by
 have nf:=h.Et;unfold LD.append;rw[if_neg zQ,if_neg zQ];dsimp only;unfold LD.room;by_cases hr:x.L.room<=x.L.last.size
 ·rw[if_pos hr];obtain⟨h1,h2⟩:=h.sync;dsimp only;rw[if_neg (show¬x.sync.2≠0 from by omega)];have hi:=h2.inv h;rw[<-h2.next];rcases hi.iF (hi.bh (by rw[h2.room,h2.last];exact hr)) qi with⟨g1,g2⟩|⟨g1,g2,g3⟩
  ·right;rw[g2];dsimp only;rw[if_pos sQ];exact⟨rfl,⟨by rw[<-h2.ks];exact g1,hr⟩,h2⟩
  ·left;rw[if_neg zQ];obtain⟨k1,k2⟩:=g3.lay hp hc;rw[if_neg zQ];exact⟨rfl,by rw[h2.next];omega,k2⟩
 ·left;rw[if_neg hr];dsimp only;rw[if_neg sQ];obtain⟨k1,k2⟩:=h.lay hp hc;rw[if_neg zQ];exact⟨rfl,nf,k2.more zQ⟩
theorem pj.full {B:Nat} (h:pj B c n x) (hf:Full x) (hp:p.length<=262144) (qi:c+2<99999999):(x.append p).2.2=3/\Alike x (x.append p).1:=by
 have nf:=h.Et;unfold LD.append;rw[if_neg zQ,if_neg zQ];dsimp only;unfold LD.room;rw[if_pos hf.2];obtain⟨h1,h2⟩:=h.sync;dsimp only;rw[if_neg (show¬x.sync.2≠0 from by omega)];have hi:=h2.inv h;rw[<-h2.next];rcases hi.iF (hi.bh (by rw[h2.room,h2.last];exact hf.2)) qi with⟨g1,g2⟩|⟨g1,g2,g3⟩
 ·grind
 ·have:=hf.1;rw[h2.ks] at g1;omega
theorem mq.afM {m:DM} (h:mq m) {e:Nat} (he:e≠12) {f:DM->DM} (hf: ∀m,mq m->mq (f m)):(m.write e f).2≠12/\mq (m.write e f).1:=by
 by_cases h0:e=0
 ·subst h0;rw[h.write];exact⟨by simp,hf _ h.tick⟩
 ·rw[h.afz h0];grind
theorem mq.akv {m:DM} (h:mq m) (n:ByteArray):(m.create n).2≠12/\mq (m.create n).1:=by
 unfold DM.create;refine h.afM ?_ λm hm=>⟨hm.ar,hm.dn⟩
 grind
theorem mq.aoL {m:DM} (h:mq m) (n:ByteArray):(m.sync n).2≠12/\mq (m.sync n).1:=by
 unfold DM.sync;refine h.afM gQ λm hm=>?_;unfold DM.km;split
 ·exact hm
 ·exact⟨hm.ar,hm.dn⟩
theorem mq.akw {m:DM} (h:mq m) (n:ByteArray) (b:List Nat):(m.append n b).2≠12/\mq (m.append n b).1:=by
 unfold DM.append;rw[if_neg (by rw[h.dn];simp)];split
 ·grind
 ·split
  ·exact⟨by simp,h⟩
  ·refine⟨?_,⟨h.tick.ar,h.tick.dn⟩⟩;dsimp only;rw[if_neg (by rw[h.tick.dn];simp)]
   decide
structure GL (n:Nat) (x:LD):Prop where
 ok:mq x.m
 ne:x.L.bC≠[]
 d1:1<=x.L.dir.size
 d2:x.L.dir.size<=11
 yI: ∀s∈x.L.bC,s.first+s.bh.length<=n/\s.size<=n*300000
 room:x.L.room<=2^40
 len:x.L.bC.length<=n
theorem GL.up {n':Nat} (h:GL n x) (hn:n<=n'):GL n' x:=
 ⟨h.ok,h.ne,h.d1,h.d2,λs hs=>by have:=h.yI s hs;omega,h.room,ad h.len hn⟩
theorem GL.Lc (h:GL n x) (hn:n<=1000):pf x.L:=
 ⟨h.ne,h.d1,h.d2,λs hs=>by have:=h.yI s hs;omega,h.room⟩
theorem GL.sync (h:GL n x):x.sync.2≠12/\GL n x.sync.1:=by
 obtain⟨h1,h2⟩:=h.ok.aoL x.L.fc;unfold LD.sync;dsimp only;refine⟨h1,?_⟩;split
 ·exact⟨h2,h.ne,h.d1,h.d2,h.yI,h.room,h.len⟩
 ·exact⟨h2,h.ne,h.d1,h.d2,h.yI,h.room,h.len⟩
theorem GL.iF (h:GL n x):(x.iF x.L.next).2≠12/\GL (n+1) (x.iF x.L.next).1:=by
 obtain⟨h1,h2⟩:=h.ok.akv (bP x.L.dir x.L.next);have hu:=h.up (n':=n+1) zQ;unfold LD.iF;dsimp only;refine⟨h1,?_⟩;split
 ·refine⟨h2,by simp,h.d1,h.d2,λs hs=>?_,h.room,by simp;exact h.len⟩;rcases List.mem_append.1 hs with hs|hs
  ·exact hu.yI s hs
  ·simp only[aw] at hs;subst hs;have:=(h.yI _ (LM.xJ h.ne)).1;have e:x.L.next=x.L.last.first+x.L.last.bh.length:=rfl
   grind
 ·exact⟨h2,hu.ne,hu.d1,hu.d2,hu.yI,hu.room,hu.len⟩
theorem GL.adE (h:GL n x):x.room.2≠12/\GL (n+1) x.room.1:=by
 unfold LD.room;split
 ·dsimp only;obtain⟨h1,h2⟩:=h.sync;split
  ·exact⟨h1,h2.up zQ⟩
  ·have e:x.sync.1.L.next=x.L.next:=by unfold LM.next LM.last;rw[LD.UC]
   rw[<-e];exact h2.iF
 ·exact⟨by simp,h.up zQ⟩
theorem GL.lay (h:GL n x) (hp:p.length<=262144):(x.lay p).2≠12/\GL (n+1) (x.lay p).1:=by
 obtain⟨h1,h2⟩:=h.ok.akw x.L.fc (dm p);have hu:=h.up (n':=n+1) zQ;have iP:=qG p;unfold LD.lay;dsimp only;refine⟨h1,?_⟩;split
 ·have hle:=LM.SQ h.ne;have hlm:=h.yI _ (LM.xJ h.ne);refine⟨h2,by simp[LM.add],h.d1,h.d2,λs hs=>?_,h.room,?_⟩
  ·rcases List.mem_append.1 hs with hs|hs
   ·exact hu.yI s gQ
   ·simp only[aw] at hs;subst hs;simp only[aa,aK,br];omega
  ·have:=hu.len;rw[hle] at this;simp only[LM.add,aa,aK,br] at this⊢;omega
 ·exact⟨h2,hu.ne,hu.d1,hu.d2,hu.yI,hu.room,hu.len⟩
theorem GL.append (h:GL n x) (p:List Nat):(x.append p).2.2≠12/\GL (n+2) (x.append p).1:=by
 unfold LD.append;split
 ·exact⟨by simp,h.up zQ⟩
 ·split
  ·exact⟨by simp,h.up zQ⟩
  ·obtain⟨h1,h2⟩:=h.adE;dsimp only;split
   ·exact⟨h1,h2.up zQ⟩
   ·obtain⟨h3,h4⟩:=h2.lay (p:=p) zQ
    grind
theorem GL.iD (h:GL n x) (p:List Nat):(x.iD 0 p).2.2≠12/\GL (n+2) (x.iD 0 p).1:=by
 obtain⟨h1,h2⟩:=h.append p;unfold LD.iD;rw[if_neg sQ];dsimp only;split
 ·grind
 ·exact h2.sync
structure r6 (k:Nat) (l:List dN) (s1:jH):Prop where
 fst:oc l=some 1
 rs: ∃rs,fI l=rs.map ga/\(∀r∈rs,Uy r)/\rs.length<=k/\xP (0,[]) rs=some s1
 full: ∀t∈l.dropLast,4096<=t.size
def wV (k:Nat) (P:jH->Prop) (m:DM):Prop:=XY oH (λl=> ∃s1,P s1/\r6 k l s1) m
def vZ (x:LD) (k:Nat) (s1:jH):Prop:= ∃pre sg,oC x pre sg/\r6 k (pre++[sg]) s1/\x.L.dir=oH/\x.L.room=4096
variable {k' : Nat}
theorem r6.up {l:List dN} (h:r6 k l s1) (hk:k<=k'):r6 k' l s1:=
 ⟨h.fst,let⟨rs,a,b,c,d⟩:=h.rs;⟨rs,a,b,by omega,d⟩,h.full⟩
variable {P : jH -> Prop}
def wV.imp {P':jH->Prop} {m:DM} (h:wV k P m) (hk:k<=k') (hp: ∀s,P s->P' s):wV k' P' m:=
 XY.imp h λ_ _ ⟨s1,a,b⟩=>⟨s1,hp _ a,b.up hk⟩
theorem vZ.crs (h:vZ x k s1):wV k (· =s1) x.m:=by
 obtain⟨pre,sg,h1,h2,h3,h4⟩:=h;have hd:=h1.d;rw[h3] at hd;exact(XZ hd h1.g h1.fl).imp λl s e=>by grind
def vZ.up (h:vZ x k s1) (hk:k<=k'):vZ x k' s1:=let⟨pre,sg,h1,h2,h3,h4⟩:=h;⟨pre,sg,h1,h2.up hk,h3,h4⟩
variable {l' : List dN}
theorem r6.snoc {l:List dN} (h:r6 k l s1) (hr:Uy r) (hs:sy s1 r=some s2) (e1:oc l'=oc l) (e2:fI l'=fI l++[ga r]) (hf: ∀t∈l'.dropLast,4096<=t.size):r6 (k+1) l' s2:=by
 obtain⟨rs,a,b,c,d⟩:=h.rs;refine⟨e1.trans h.fst,⟨rs++[r],by grind,λq hq=>?_,by simp;omega,afI d hs⟩,hf⟩
 grind
theorem r6.same {l:List dN} (h:r6 k l s1) (e1:oc l'=oc l) (e2:fI l'=fI l) (hf: ∀t∈l'.dropLast,4096<=t.size):r6 k l' s1:=
 let⟨rs,a,b,c,d⟩:=h.rs
 ⟨e1.trans h.fst,⟨rs,e2.trans a,b,c,d⟩,hf⟩
theorem DM.aoM {m:DM} (hn:m.ks.Nodup):m.sz=(m.ks.map λk=>(m.bytes k).length).sum:=by
 unfold DM.sz tS DM.ks;rw[bz];refine congrArg List.sum (ee λx hx=>?_);have e:m.get x.1=some x.2:=vR hn hx
 grind [DM.bytes]
variable {sf : Nat} {ly : List Nat} {dir : ByteArray}
theorem oP.sz {m:DM} (h:oP dir pre s ly sf m):m.sz=(pre.map λt=>(flat t.bh).length).sum+(flat s.bh++ly).length:=by
 rw[DM.aoM h.nd,(h.ks.map _).sum_nat,bz,aD,BK];have e1:pre.map ((λk=>(m.bytes k).length)∘λs=>bP dir s.first)=pre.map λt=>(flat t.bh).length:=ee λt ht=>by
  show(m.bytes (bP dir t.first)).length=_
  rw[uX (h.body t ht)]
 rw[e1];simp only[bm,kR,Function.comp,List.sum_cons,List.sum_nil,Nat.add_zero];rw[uX h.last]
theorem ab0: ∀{l:List (List Nat)},(∀p∈l,p.length<=900)->(flat l).length<=912*l.length
 |[],_=>by simp[flat]
 |p::l,h=>by
  have h1:=ab0 (l:=l) λq hq=>h q (bG _ hq);have h2:=h p sQ;have h3:=qG p;have e:flat (p::l)=dm p++flat l:=by simp[flat]
  grind
theorem YB: ∀{l:List dN},(∀p∈fI l,p.length<=900)->(l.map λt=>(flat t.bh).length).sum<=912*(fI l).length
 |[],_=>by grind
 |t::l,h=>by
  have e:fI (t::l)=t.bh++fI l:=by simp[fI]
  rw[e] at h⊢;have h1:=YB (l:=l) λq hq=>h q (List.mem_append_right _ hq);have h2:=ab0 (l:=t.bh) λq hq=>h q (List.mem_append_left _ hq)
  grind
theorem ab1: ∀{l:List dN},(∀t∈l,4096<=(flat t.bh).length)->4096*l.length<=(l.map λt=>(flat t.bh).length).sum
 |[],_=>by simp
 |t::l,h=>by
  have h1:=ab1 (l:=l) λq hq=>h q (bG _ hq)
  grind
theorem r6.lens {l:List dN} (h:r6 k l s1):(∀p∈fI l,p.length<=900)/\(fI l).length<=k:=by
 obtain⟨rs,a,b,c,d⟩:=h.rs;rw[a];refine⟨λp hp=>?_,by grind⟩;obtain⟨r,hr,rfl⟩:=List.mem_map.1 hp;exact(b r hr).len
theorem r6.size {m:DM} (h:r6 k (pre++[s]) s1) (hg:Good (pre++[s])) (hd:oP dir pre s ly sf m):m.sz<=912*k+ly.length/\4096*pre.length<=912*k/\m.fs.length=pre.length+1:=by
 obtain⟨h1,h2⟩:=h.lens;have h3:=YB h1;have h4:=hd.sz;have hf: ∀t∈pre,4096<=(flat t.bh).length:=λt ht=>by
  have:=h.full t gQ
  rwa [(hg.ok t (by simp[ht])).sz] at this
 have h5:=ab1 hf;rw[aD,BK] at h3;simp only[bm,kR,List.sum_cons,List.sum_nil,Nat.add_zero] at h3;rw[aa] at h4;have h6:=hd.ks.length_eq;rw[DM.vL,ah,aa,List.length_singleton] at h6;exact⟨by omega,by omega,h6⟩
theorem r6.next (h:r6 k (pre++[s]) s1) (hg:Good (pre++[s])):s.first+s.bh.length<=1+k:=by
 have:=gG.count hg.lk h.fst;have:=h.lens.2;omega
theorem vZ.iD (h:vZ x k s1) (hr:Uy r) (hs:sy s1 r=some s2) (hk:k<=200):
  ((x.iD 0 (ga r)).2.2=12/\(x.iD 0 (ga r)).1.m.dn=true/\wV (k+1) (λs=>s=s1\/s=s2) (x.iD 0 (ga r)).1.m)\/
  ((x.iD 0 (ga r)).2.2=0/\vZ (x.iD 0 (ga r)).1 (k+1) s2):=by
 obtain⟨pre,sg,h1,h2,h3,h4⟩:=h;have iP: ∀t∈pre,4096<=t.size:=by have:=h2.full;rwa [jF] at this
 rcases h1.iD (by have:=hr.len;omega) hr.isb with⟨e,hf⟩|⟨e,dh,oG,s',hk,hrr,hsh⟩|⟨e1,e2,⟨oG,s',hk,hrr⟩,hw⟩
 ·left;rw[h3] at hf;refine⟨e,hf.1,hf.2.imp λl s ⟨q1,q2,q3⟩=>?_⟩;have q3:=q3 gQ;rcases q2 with q2|q2
  ·exact⟨s1,.inl rfl,(h2.same q1 q2 (by rw[h4] at q3;exact q3)).up (dF _)⟩
  ·exact⟨s2,.inr rfl,h2.snoc hr hs q1 q2 (by rw[h4] at q3;exact q3)⟩
 ·right;refine⟨e,oG,s',hk.up,h2.snoc hr hs hk.fst hrr ?_,hk.dir.trans h3,hk.room.trans h4⟩;rw[jF];rcases hsh with⟨rfl,_,_⟩|⟨rfl,_,q⟩
  ·omega
  grind
 ·exfalso;obtain⟨q1,q2,q3⟩:=h2.size h1.g h1.d;have q4:=h2.next h1.g
  have q5:=h1.next
  have q6:=hr.len;have q7:=qG (ga r);simp only[br] at q1;rcases hw with hw|hw|hw<;>omega
theorem YC: ∀(k u:Nat),u<=k->wQ (pV u)
 |0,u,h=>by
  have:u=0:=by omega
  subst this;intro x hx;unfold pV at hx;simp at hx;omega
 |k+1,u,h=>by
  intro x hx;unfold pV at hx;split at hx
  ·simp at hx;omega
  ·rcases List.mem_cons.1 hx with rfl|hx
   ·omega
   ·exact YC k (u/128) zQ x hx
theorem xQ (n:Int):wQ (encI n):=YC _ _ (au _)
theorem gG.top: ∀{l:List dN} {f:Nat},gG l->oc l=some f-> ∀t∈l,t.first+t.bh.length<=f+(fI l).length
 |[],_,_,h,_,_=>by cases h
 |[a],f,_,hf,t,ht=>by
  have h2:a.first=f:=bU hf
  rw[aw] at ht;grind [fI]
 |a::b::l,f,h,hf,t,ht=>by
  have h1:b.first=a.first+a.bh.length:=h.1
  have h2:a.first=f:=bU hf
  have e:fI (a::b::l)=a.bh++fI (b::l):=by simp[fI]
  rw[e,aa];rcases List.mem_cons.1 ht with rfl|ht
  ·omega
  ·have:=gG.top (l:=b::l) (f:=b.first) h.2.2 rfl t ht;omega
theorem YD {n:Int} (h1:1<=n) (h2:n<=2^40):Uy (lN n)/\(lN n).fJ=0:=by
 have e1:=fz 8;have e2:=fz n;have e4:(lN n).err=0:=by
  simp[Rec.err,lN,Rec.strip,Rec.isZero,Rec.pZ,State.isZero,State.zero,h1]
 have e5:(ga (lN n)).length<=900:=by rw[Q3,aa];omega
 refine⟨⟨.Ds n (by unfold uI;omega),e4,e5,λb hb=>?_,by simp[lN]⟩,?_⟩
 ·rw[Q3] at hb;rcases List.mem_append.1 hb with hb|hb
  ·exact xQ _ b hb
  ·exact xQ _ b hb
 ·unfold Rec.fJ;omega
theorem UD: ∀{l:List Rec} {s s':jH},xP s l=some s'->s.1<=s'.1/\s'.1<=s.1+l.length
 |[],s,s',h=>by
  obtain rfl:=bU h;simp
 |r::l,s,s',h=>by
  obtain⟨x,h1,h2⟩:=Option.bind_eq_some_iff.1 (show(sy s r).bind (λs'=>xP s' l)=some s' from h);have h3:=Yz h1;have h4:=UD h2
  grind
theorem YE (s:jH):sy s (lN (s.1+1))=some (s.1+1,s.2):=by
 unfold sy;rw[if_pos (show(lN (s.1+1)).kind=8 from rfl),if_pos (show(lN (s.1+1)).n=s.1+1 from rfl)]
structure adV (m:DM) (k:Nat) (s1:jH) (x:LD) (pre:List dN) (sg:dN) (rs:List Rec):Prop where
 BH:LD.BH oH 4096 m=(x,0)
 log:LF x pre sg rs
 len:rs.length<=k
 sy:xP (0,[]) rs=some s1
 aR:0<=s1.1/\s1.1<=k
 err:(lN (s1.1+1)).fJ=0
 kp:(x.iD 0 (ga (lN (s1.1+1)))).2.2=0
 up:vZ (x.iD 0 (ga (lN (s1.1+1)))).1 (k+1) (s1.1+1,s1.2)
theorem Ds {m:DM} (h:wV k P m) (hk:k<=200) (cH:List Int) (gd:(m.me cH).sz<=4194304): ∃s1 x pre sg rs,P s1/\adV (m.me cH) k s1 x pre sg rs:=by
 obtain⟨pre,s,ly,sf,⟨s1,hP,hr⟩,hg,ht,hbt,hd⟩:=h.2 cH;have h0:(m.me cH).ar=0:=rfl;have jN:(m.me cH).dn=false:=rfl;obtain⟨m',e,h1,h2,h3⟩:=amc (room:=4096) hd hg ht h0 jN;obtain⟨q1,q2,q3⟩:=hr.size hg h1;simp only[br] at q1;have jl:oC ⟨⟨oH,4096,pre++[s],(s.first+s.bh.length:Nat)-1⟩,m'⟩ pre s:=
  ⟨rfl,hg,h1,h3,by grind,by grind,(show 1<=oH.size from by decide),(show oH.size<=11 from by decide),(show 64<=4096 from by decide),(show 4096<=262144 from by decide)⟩
 have hlu:vZ ⟨⟨oH,4096,pre++[s],(s.first+s.bh.length:Nat)-1⟩,m'⟩ k s1:=⟨pre,s,jl,hr,rfl,rfl⟩;obtain⟨rs,a,b,c,d⟩:=hr.rs;have hl:=UD d;have CK:0<=s1.1/\s1.1<=k:=by have:(0:Int)<=s1.1:=hl.1;have:s1.1<=(0:Int)+rs.length:=hl.2;omega
 obtain⟨cg,ce⟩:=YD (n:=s1.1+1) zQ zQ;have gX:GL 300 ⟨⟨oH,4096,pre++[s],(s.first+s.bh.length:Nat)-1⟩,m'⟩:=by
  have hB:=jl.adF;have hN:=jl.adG;refine⟨⟨h2,h3⟩,by simp,jl.d1,jl.d2,λt ht=>⟨?_,?_⟩,(show(4096:Nat)<=2^40 from by decide),by omega⟩
  ·have:=gG.top hg.lk hr.fst t ht;have:=hr.lens.2;omega
  ·have:=(hB t ht).2;omega
 have DG:(LD.iD ⟨⟨oH,4096,pre++[s],(s.first+s.bh.length:Nat)-1⟩,m'⟩ 0 (ga (lN (s1.1+1)))).2.2=0/\vZ (LD.iD ⟨⟨oH,4096,pre++[s],(s.first+s.bh.length:Nat)-1⟩,m'⟩ 0 (ga (lN (s1.1+1)))).1 (k+1) (s1.1+1,s1.2):=by
  rcases hlu.iD cg (YE s1) hk with⟨e,_⟩|h
  ·exact absurd e (gX.iD _).1
  ·exact h
 refine⟨s1,_,pre,s,rs,hP,e,⟨jl,hr.fst,a,b,by omega⟩,c,d,CK,ce,DG.1,DG.2⟩
theorem ajM: ∃x,adV ⟨[],0,0,false⟩ 0 (0,[]) x [] ⟨1,[],0⟩ []/\mq (x.iD 0 (ga (lN (0+1)))).1.m:=by
 obtain⟨nm,zh⟩: ∃nm,nm=bP oH 1:=⟨_,rfl⟩;have gd:nm.size=12:=by rw[zh,A7];rfl
 have lh:vM nm=true:=by unfold vM;rw[gd];decide
 obtain⟨m1,qo⟩: ∃m1:DM,m1=((⟨[],0,0,false⟩:DM).tick.put nm [] 0):=⟨_,rfl⟩;have ht:(⟨[],0,0,false⟩:DM).tick.dn=false/\(⟨[],0,0,false⟩:DM).tick.ar=0/\(⟨[],0,0,false⟩:DM).tick.fs=[]:=by
  unfold DM.tick;rw[if_neg dQ];exact⟨rfl,rfl,rfl⟩
 have EJ:DM.create ⟨[],0,0,false⟩ nm=(m1,0):=by
  unfold DM.create DM.write;have e:(if¬vM nm=true then 10 else if((⟨[],0,0,false⟩:DM).get nm).isSome then 9 else if 64<=(⟨[],0,0,false⟩:DM).fs.length then 3 else 0)=0:=by
   rw[if_neg gQ];rfl
  rw[e,if_neg dQ,if_neg dQ,if_neg gQ,qo]
 have FW:m1.fs=[(nm,([],0))]:=by
  rw[qo]
  show cK nm ([],0) (⟨[],0,0,false⟩:DM).tick.fs=_
  rw[ht.2.2];rfl
 have hd1:m1.dn=false:=by rw[qo];exact ht.1
 have rK:m1.ar=0:=by rw[qo];exact ht.2.1
 have YG:m1.get nm=some ([],0):=by unfold DM.get;rw[FW];simp[getM]
 have hO:LD.BH oH 4096 ⟨[],0,0,false⟩=(⟨⟨oH,4096,[⟨1,[],0⟩],0⟩,m1⟩,0):=by
  unfold LD.BH;rw[if_neg dQ];have e:fR ((⟨[],0,0,false⟩:DM).fs.map (·.1))=[]:=by simp[fR]
  rw[e];dsimp only;have e2:LD.oV ⟨L0 oH 4096,⟨[],0,0,false⟩⟩ []=(⟨L0 oH 4096,⟨[],0,0,false⟩⟩,0):=by unfold LD.oV;rfl
  rw[e2,if_neg sQ,if_pos (show(L0 oH 4096).bC=[] from rfl)];unfold LD.iF;dsimp only;have e3:(L0 oH 4096).dir=oH:=rfl;rw[e3,<-zh,EJ];rfl
 have hgd:Good ([]++[(⟨1,[],0⟩:dN)]):=⟨trivial,λs hs=>by
  rw[List.nil_append,aw] at hs;subst hs;exact⟨au _,⟨by decide,by decide⟩,by rfl,λp hp=>absurd hp sQ⟩⟩
 have hon:oP oH [] ⟨1,[],0⟩ [] (flat []).length m1:=⟨by unfold DM.ks;rw[FW];simp,by unfold DM.ks;rw[FW,zh];simp,λt ht=>absurd ht sQ,by
  show m1.get (bP oH 1)=_
  rw[<-zh,YG];rfl,au _⟩
 have hz:m1.sz=0:=by unfold DM.sz tS;rw[FW];simp
 have jl:oC ⟨⟨oH,4096,[⟨1,[],0⟩],0⟩,m1⟩ [] ⟨1,[],0⟩:=
  ⟨rfl,hgd,hon,hd1,by grind,by grind,(show 1<=oH.size from by decide),(show oH.size<=11 from by decide),(show 64<=4096 from by decide),(show 4096<=262144 from by decide)⟩
 have hr:r6 0 ([]++[(⟨1,[],0⟩:dN)]) (0,[]):=⟨rfl,⟨[],rfl,λr hr=>absurd hr sQ,au _,rfl⟩,λt ht=>absurd ht sQ⟩;obtain⟨cg,ce⟩:=YD (n:=1) zQ zQ;have gX:GL 300 ⟨⟨oH,4096,[⟨1,[],0⟩],0⟩,m1⟩:=⟨⟨rK,hd1⟩,by simp,jl.d1,jl.d2,λt ht=>by simp_all,(show(4096:Nat)<=2^40 from by decide),by simp⟩;have hlu:vZ ⟨⟨oH,4096,[⟨1,[],0⟩],0⟩,m1⟩ 0 (0,[]):=⟨[],⟨1,[],0⟩,jl,hr,rfl,rfl⟩;have DG:=(hlu.iD cg (YE (0,[])) zQ).resolve_left λe=>absurd e.1 (gX.iD _).1;exact⟨_,⟨hO,⟨jl,rfl,rfl,λr hr=>absurd hr sQ,by simp⟩,au _,rfl,⟨sV _,sV _⟩,ce,DG.1,DG.2⟩,(gX.iD _).2.ok⟩
def zH (s:jH):Prop:= ∀x∈s.2,x.1.aM.ep=1/\1<=x.1.aM.aR/\x.1.aM.aR<=s.1/\1<=x.1.aM.sq/\x.1.aM.sq<=2^40
structure ah0 (n:bo) (t:bE):Prop where
 co:t.ep=1
 aR:t.aR=n.c.aR
 sq:1<=t.sq/\t.sq<=n.c.gg
 bl:getM t n.bl=none
structure gB (k N:Nat) (n:bo):Prop where
 ok:sR N k n
 bl:LC n
 log:vZ ⟨n.L,n.m⟩ k n.abs
 gg:0<=n.c.gg/\n.c.gg<=k
 aR:1<=n.c.aR/\n.c.aR<=k
 act: ∀t b,getM t n.al=some b->ah0 n t
 abs:zH n.abs
 BJ: ∀x∈n.abs.2,x.1.aM.aR=n.c.aR->x.1.aM.sq<=n.c.gg
def Be (n:bo):Prop:= ∀t b,getM t n.al=some b->(n.A b).x.aM=t
theorem cJ.CC.asked {x:AcV} (h:m.CC):(m.asked x).CC:=by
 obtain⟨a,b,c,d⟩:=h;exact⟨a,b,c,d⟩
variable {N' : Nat}
def rY.up {d:pa} (h:rY N d) (hN:N<=N'):rY N' d:=⟨h.q,h.p,ad h.sn hN,h.ws,h.ids,h.CC,h.wK,h.pq⟩
def Eh {κ α:Type} [DecidableEq κ] {k:κ} {l:List (κ×α)} :(kc k l).length<=l.length:=List.length_filter_le _ _
section
variable {n : bo}
structure Calm (n n1:bo):Prop where
 id:n1.c.id=n.c.id
 aR:n1.c.aR=n.c.aR
 gg:n1.c.gg=n.c.gg
 cl:n1.cl=n.cl
 C:n1.C=n.C
 bl:n1.bl=n.bl
 L:n1.L=n.L
 m:n1.m=n.m
 pre:n1.pre=n.pre
theorem Calm.refl (n:bo):Calm n n:=⟨rfl,rfl,rfl,rfl,rfl,rfl,rfl,rfl,rfl⟩
theorem Calm.trans {a b c:bo} (h:Calm a b) (q:Calm b c):Calm a c:=⟨q.id.trans h.id,q.aR.trans h.aR,q.gg.trans h.gg,q.cl.trans h.cl,q.C.trans h.C,q.bl.trans h.bl,q.L.trans h.L,q.m.trans h.m,q.pre.trans h.pre⟩
def Calm.after {a b c:bo} (q:Calm b c) (h:Calm a b):Calm a c:=h.trans q
theorem gB.sub (h:gB k N n) (hN:N<=N') (hk:k<=k') (af:k'<=1000) (hc:Calm n n1) (hds: ∀(i:Int) (r:eI),getM i n1.ds=some r->r.id=i)
  (T9: ∀t b,getM t n1.al=some b->(∃b',getM t n.al=some b')/\rY N' (n1.A b)) (hlen:n1.al.length<=n.al.length):gB k' N' (dV n1):=by
 have e:(dV n1).abs=n.abs:=by
  show(n1.c.aR,n1.cl.map λb=>((n1.C b).r,(n1.C b).ended))=_
  rw[hc.aR,hc.cl,hc.C];rfl
 refine⟨⟨hc.id.trans h.ok.id,λt b hg=>(T9 t b hg).2,hds,rfl,rfl,rfl,rfl,rfl,?_,?_,af,hc.pre.trans h.ok.pre,?_,?_⟩,?_,?_,?_,?_,?_,?_,?_⟩
 ·show n1.cl.length<=_;rw[hc.cl];exact ad h.ok.cl hk
 ·exact ad (ad hlen h.ok.aln) hk
 ·show∀b∈n1.cl,(n1.C b).waits.length<=80;rw[hc.cl,hc.C];exact h.ok.cw
 ·show∀t b,getM t n1.bl=some b->b∈n1.cl/\(n1.C b).r.aM=t;rw[hc.bl,hc.cl,hc.C];exact h.ok.byT
 ·show∀t b,getM t n1.bl=some b↔b∈n1.cl/\(n1.C b).r.aM=t;rw[hc.bl,hc.cl,hc.C];exact h.bl
 ·rw[e];show vZ ⟨n1.L,n1.m⟩ _ _;rw[hc.L,hc.m];exact h.log.up hk
 ·show 0<=n1.c.gg/\n1.c.gg<=_;rw[hc.gg];have:=h.gg;omega
 ·show 1<=n1.c.aR/\n1.c.aR<=_;rw[hc.aR];have:=h.aR;omega
 ·intro t b hg;obtain⟨b',dT⟩:=(T9 t b hg).1;have q:=h.act t b' dT;exact⟨q.co,by show _=n1.c.aR;rw[hc.aR];exact q.aR,by show _/\_<=n1.c.gg;rw[hc.gg];exact q.sq,by show getM t n1.bl=none;rw[hc.bl];exact q.bl⟩
 ·rw[e];exact h.abs
 ·rw[e];show∀x∈_,_=n1.c.aR->_<=n1.c.gg;rw[hc.aR,hc.gg];exact h.BJ
theorem gB.call {p:List jE} (h:gB k N n) (hc:MK n p n1) (hk:k+1<=1000):gB (k+1) N (dV n1):=by
 obtain⟨xb,iW,KS,vm,va,rm,ra,ms,d,rfl,T7,adW⟩:=hc;have hT: ∀t b,getM t KS=some b->(getM t n.al=some b/\b≠xb)\/(t=iY n/\b=xb/\KS=cK (iY n) xb n.al):=λt b hg=>by
  rcases adW with⟨_,_,_,e,_⟩|⟨_,e,_⟩
  ·rw[e] at hg;have q:=(nN hg).1
   grind
  ·rw[e] at hg;by_cases e1:t=iY n
   ·rw[e1,kn] at hg;exact .inr ⟨e1,(bU hg).symm,e⟩
   ·rw[oZ e1] at hg;exact .inl ⟨hg,λe=>T7 t (e▸hg)⟩
 have hlen:KS.length<=n.al.length+1:=by
  rcases adW with⟨_,_,_,e,_⟩|⟨_,e,_⟩
  ·rw[e];exact ad Eh (dF _)
  ·rw[e];exact CB _
 have UF:=h.gg;have JH:=h.aR;have GR:getM (iY n) n.bl=none:=by
  cases e:getM (iY n) n.bl with
  |none=>rfl
  |some b=>
   obtain⟨h1,h2⟩:=(h.bl _ _).1 e;have:=h.BJ _ (List.mem_map.2 ⟨b,h1,rfl⟩) (by show(n.C b).r.aM.aR=_;rw[h2];rfl);have e3:((n.C b).r).aM.sq=n.c.gg+1:=by rw[h2];rfl
   have:(n.C b).r.aM.sq<=n.c.gg:=this;omega
 refine⟨⟨h.ok.id,λt b hg=>?_,h.ok.ds,rfl,rfl,rfl,rfl,rfl,ua h.ok.cl,?_,hk,h.ok.pre,h.ok.cw,h.ok.byT⟩,h.bl,h.log.up (dF _),?_,?_,λt b hg=>?_,h.abs,λx hx e=>?_⟩
 ·rcases hT t b hg with⟨q1,q2⟩|⟨_,q2,q3⟩
  ·show rY N (if b=xb then d else n.A b)
   rw[if_neg q2];exact h.ok.act t b q1
  ·show rY N (if b=xb then d else n.A b)
   rw[if_pos q2];rcases adW with⟨_,_,_,e,_⟩|⟨_,_,hp,uE,ht,aqF,as6,JA,JC,ct,hws,hw,hq⟩
   ·have q4:getM t (kc (iY n) n.al)=some xb:=by rw[<-e,<-q2];exact hg
    exact absurd (nN q4).1 (T7 t)
   ·refine⟨λe=>?_,by rw[hp];omega,by rw[JA.1];exact aq _,hws,?_,λy hy=>(hw y hy).2,by omega,JA.2⟩
    ·rcases hq with q|q
     ·exact⟨q.2.1,q.2.2.1⟩
     ·rw[q.1] at e;cases e
    ·rcases hq with q|q
     ·rw[q.2.2.1];exact aq _
     ·rw[<-q.2.1,ah];omega
 ·have:=h.ok.aln;show KS.length<=_;omega
 ·show 0<=n.c.gg+1/\n.c.gg+1<=((k+1:Nat):Int);omega
 ·show 1<=n.c.aR/\n.c.aR<=((k+1:Nat):Int);omega
 ·rcases hT t b hg with⟨q1,q2⟩|⟨rfl,_,_⟩
  ·have q:=h.act t b q1;exact⟨q.co,q.aR,by have:=q.sq;show 1<=t.sq/\t.sq<=n.c.gg+1;omega,q.bl⟩
  ·exact⟨h.ok.id,rfl,by show 1<=n.c.gg+1/\n.c.gg+1<=n.c.gg+1;omega,GR⟩
 ·have:=h.BJ x hx e
  show _<=n.c.gg+1
  omega
theorem sW.calm: ∀{ts:List bE} {n n1:bo},sW ts n n1->Calm n n1/\n1.ds=n.ds/\n1.al.length<=n.al.length
 |[],n,n1,h=>by
  have:n1=n:=h;subst this;exact⟨Calm.refl _,rfl,au _⟩
 |t::ts,n,n1,⟨n2,h1,h2⟩=>by
  obtain⟨q1,q2,q3⟩:=sW.calm h2;have q:Calm n n2/\n2.ds=n.ds/\n2.al.length<=n.al.length:=by
   obtain⟨b,_,_,⟨_,_,_,_,rfl,_⟩|⟨_,_,_,rfl,_⟩⟩:=h1
   ·exact⟨⟨rfl,rfl,rfl,rfl,rfl,rfl,rfl,rfl,rfl⟩,rfl,Eh⟩
   ·exact⟨⟨rfl,rfl,rfl,rfl,rfl,rfl,rfl,rfl,rfl⟩,rfl,au _⟩
  exact⟨q1.after q.1,q2.trans q.2.1,ad q3 q.2.2⟩
theorem yr.key (h:yr n t n1) (nC:Be n):Be n1/\ ∀t b,getM t n1.al=some b->getM t n.al=some b:=by
 obtain⟨b,_,_,hc⟩:=h;have hs:n1.A=(ey n b (wU (n.A b))).A/\ ∀t b,getM t n1.al=some b->getM t n.al=some b:=by
  rcases hc with⟨_,_,_,_,rfl,_⟩|⟨_,_,_,rfl,_⟩
  ·exact⟨rfl,λt b hg=>(nN hg).1⟩
  ·exact⟨rfl,λt b hg=>hg⟩
 refine⟨λt b' hg=>?_,hs.2⟩;have:=nC t b' (hs.2 t b' hg);rw[hs.1]
 show(if b'=b then wU (n.A b)else n.A b').x.aM=t
 split
 ·grind [wU]
 omega
theorem sW.ok: ∀{ts:List bE} {n n1:bo},sW ts n n1->Be n->(∀t b,getM t n.al=some b->rY N (n.A b))-> ∀t b,getM t n1.al=some b->getM t n.al=some b/\rY N (n1.A b)
 |[],n,n1,h,_,lh=>λt b hg=>by
  have:n1=n:=h
  grind
 |t::ts,n,n1,⟨n2,h1,h2⟩,nC,lh=>λt' b hg=>by
  obtain⟨q1,q2⟩:=h1.key nC;obtain⟨q3,q4⟩:=sW.ok h2 q1 (h1.ok nC lh) t' b hg
  grind
theorem yR.calm: ∀{l:List Nat} {n n1:bo},yR l n n1->Calm n n1/\n1.ds=n.ds/\n1.al=n.al/\n1.A=n.A/\n1.ra=n.ra
 |[],n,n1,h=>by
  have:n1=n:=h
  grind [Calm.refl]
 |b::l,n,n1,⟨n2,h1,h2⟩=>by
  obtain⟨q1,q2,q3,q4,q5⟩:=yR.calm h2;rcases h1 with⟨_,rfl⟩|⟨_,Av,xO,rfl,_⟩
  ·grind
  ·exact⟨q1.after ⟨rfl,rfl,rfl,rfl,rfl,rfl,rfl,rfl,rfl⟩,q2,q3,q4,q5⟩
theorem gB.tick (h:gB k N n) (nC:Be n) (ht:MT n n1) (hk:k+1<=1000):gB (k+1) N (dV n1):=by
 obtain⟨ts,n2,hp,h1,h2⟩:=ht;obtain⟨a1,a2,a3⟩:=h1.calm;obtain⟨b1,b2,b3,b4,_⟩:=h2.calm;refine h.sub (au _) (dF _) hk (a1.trans b1) (by rw[b2,a2];exact h.ok.ds) (λt b hg=>?_) gQ;rw[b3] at hg;rw[b4];obtain⟨q1,q2⟩:=sW.ok h1 nC h.ok.act t b hg
 grind
end
theorem afN (t:bE):wQ (nA t):=by grind [nA,tZ,xQ]
theorem amC (t:cn):wQ (lx t):=by grind [lx,tZ,xQ]
theorem ah1 (l:List Int):wQ (iT encI l):=by
 unfold iT;refine tZ (xQ _) λb hb=>?_;obtain⟨q,hq,hb⟩:=List.mem_flatten.1 hb;obtain⟨x,_,rfl⟩:=List.mem_map.1 hq;exact xQ _ b hb
theorem UG {α:Type} {p:α->Bool} {r:α->α->Bool} : ∀{l:List α} {o:Option α},chain p r o l=true-> ∀x∈l,p x=true
 |[],_,_,_,hx=>by simp at hx
 |y::l,o,h,x,hx=>by
  have h1:p y=true/\chain p r (some y) l=true:=by
   cases o<;>simp[chain] at h
   ·exact h
   ·exact⟨h.1.1,h.2⟩
  rcases List.mem_cons.1 hx with rfl|hx
  ·exact h1.1
  ·exact UG h1.2 x hx
theorem amD (h:r.fJ=0):r.err=0:=by
 apply eB;intro e;unfold Rec.fJ at h;omega
variable {ids : List Int} {st : cn}
theorem Rb (he:(jq t st ids).fJ=0) (hl:ids.length<=80) (ht:Dl t):Uy (jq t st ids):=by
 have h1:=amD he;have h2:(jq t st ids).pZ=true:=by
  apply eB;intro e;unfold Rec.err at h1;split at h1
  ·cases h1
  ·grind
 have h3:(t.may&&st.HK&&yt ids)=true:=by
  unfold Rec.pZ at h2;exact h2
 simp only[aF] at h3;obtain⟨⟨h4,h5⟩,h6⟩:=h3;have h7:st.may=true:=by unfold cn.HK at h5;simp only[aF] at h5;exact h5.1
 have h8: ∀x∈ids,uI x:=λx hx=>by
  unfold yt at h6;simp only[aF] at h6;have:=UG h6.1 x hx;simp only[aF,decide_eq_true_eq] at this;unfold uI;omega
 have h9:ade st:=by
  unfold cn.may at h7;simp only[aF,decide_eq_true_eq] at h7;unfold ade uI;omega
 have h10:=afF t st ids;refine⟨.BJ t st ids ht h9 h8 zQ,h1,by omega,λb hb=>?_,hl⟩;rw[Wg] at hb;exact tZ (xQ _) (tZ (afN _) (tZ (amC _) (ah1 _))) b hb
theorem amE (ht:Dl t) (hm:t.may=true):Uy (mf t)/\(mf t).fJ=0:=by
 have e1:=fz 10;have e2:=CX t;have e4:(mf t).err=0:=by
  simp[Rec.err,mf,Rec.strip,Rec.isZero,Rec.pZ,State.isZero,State.zero,hm]
 have e5:(ga (mf t)).length<=900:=by rw[QY,aa];omega
 refine⟨⟨.fin t ht,e4,e5,λb hb=>?_,by simp[mf]⟩,?_⟩
 ·rw[QY] at hb;exact tZ (xQ _) (afN _) b hb
 ·unfold Rec.fJ;omega
theorem UH: ∀(l:List eI) (ds:tr),(∀(i:Int) (r:eI),getM i ds=some r->r.id=i)-> ∀(i:Int) (r:eI),getM i (l.foldl iX ds)=some r->r.id=i
 |[],ds,h=>h
 |x::l,ds,h=>UH l (iX ds x) λi r hg=>by
  have hp: ∀i r,getM i (cK x.id x ds)=some r->r.id=i:=λi r hg=>by
   by_cases e:i=x.id
   ·rw[e,kn] at hg;cases hg;exact e.symm
   ·rw[oZ e] at hg;exact h i r hg
  unfold iX at hg;split at hg
  ·split at hg
   ·split at hg
    ·exact h i r hg
    ·exact hp i r hg
   ·exact hp i r hg
  ·exact h i r hg
section
variable {n : bo}
theorem Pc (h:r.fJ≠0):jz n r=(⟨n.L,n.m⟩,0,r.fJ.toNat):=by
 unfold jz LD.iD;rcases r.xM with e|e|e|e
 ·omega
 all_goals rw[e];rfl
theorem xR (h:r.fJ=0):jz n r=LD.iD ⟨n.L,n.m⟩ 0 (ga r):=by
 unfold jz;rw[h];rfl
theorem gB.Wm (h:gB k N n) (ht:ah0 n t) (st:cn) (ids:List Int):sy n.abs (jq t st ids)=some (n.c.aR,n.abs.2++[(jq t st ids,false)]):=by
 unfold sy;rw[if_neg (show¬(jq t st ids).kind=8 from(by decide: ¬(9:Int)=8)),if_pos (show(jq t st ids).kind=9 from rfl),if_pos ?_]
 ·rfl
 ·refine⟨ht.co,ht.aR,λx hx e=>?_⟩;obtain⟨b,hb,rfl⟩:=List.mem_map.1 hx;have:=(h.bl t b).2 ⟨hb,e⟩;rw[ht.bl] at this;cases this
theorem gB.Dl (h:gB k N n) (hk:k<=1000) (ht:ah0 n t):Dl t:=by
 have h1:=h.gg;have h2:=h.aR;have h3:=ht.sq;have h4:=ht.aR;have h5:=ht.co;unfold Go.Proofs.YtgfijddlkhkopaaGreat.Dl uI;omega
theorem akx (nC:Be n) (hb:getM t n.al=some b) {b':Nat} (hg:getM t' (kc t n.al)=some b'):getM t' n.al=some b'/\b'≠b:=by
 obtain⟨q1,q2⟩:=nN hg;exact⟨q1,λe=>q2 (by rw[e] at q1;exact(nC _ _ q1).symm.trans (nC _ _ hb))⟩
theorem gB.Xm (h:gB k N n) (hg:ML n m pp n1) (hN:N<=N') (hk:k<=k') (af:k'<=1000):gB k' N' (dV n1):=by
 obtain⟨b,iW,Av,ou,xO,hb,hp,hc,rfl⟩:=hg;exact h.sub hN hk af ⟨rfl,rfl,rfl,rfl,rfl,rfl,rfl,rfl,rfl⟩ (UH _ _ h.ok.ds) (λt b hg=>⟨⟨b,(nN hg).1⟩,(h.ok.act t b (nN hg).1).up hN⟩) Eh
theorem gB.seen (h:gB k N n) (nC:Be n) (hs:ac8 n m n1) (af:k+1<=1000):gB (k+1) (N+m.seen.length) (dV n1):=by
 have hN:N<=N+m.seen.length:=iG _ _;rcases hs with⟨iW,rfl⟩|hg|⟨b,i,y,iW,CG,lC,pJ,n2,hw,rfl,hc⟩
 ·exact h.sub hN (dF _) af ⟨rfl,rfl,rfl,rfl,rfl,rfl,rfl,rfl,rfl⟩ h.ok.ds (λt b hg=>⟨⟨b,hg⟩,(h.ok.act t b hg).up hN⟩) (au _)
 ·exact h.Xm hg hN (dF _) af
 ·have ha:=h.ok.act _ _ hw.g;have hA: ∀t' b',getM t' n.al=some b'->rY (N+m.seen.length) ((ey n b (AV (n.A b) i m CG lC pJ)).A b'):=λt' b' hg=>by
   show rY _ (if b'=b then _ else n.A b')
   split
   ·refine⟨ha.q,ha.p,by show ba (_++_)<=_;rw[aa];have:=ha.sn;omega,?_,ha.ids,λy hy=>?_,ha.wK,ha.pq⟩
    ·have:=ha.ws;simp[AV];omega
    ·exact ha.CC y ((List.mem_append.1 hy).elim dI da)
   ·exact(h.ok.act t' b' hg).up hN
  have hxt:((ey n b (AV (n.A b) i m CG lC pJ)).A b).x.aM=m.aM:=by rw[js];exact nC _ _ hw.g
  rcases hc with⟨_,rfl⟩|⟨_,n3,hr,rfl⟩
  ·exact h.sub hN (dF _) af ⟨rfl,rfl,rfl,rfl,rfl,rfl,rfl,rfl,rfl⟩ h.ok.ds (λt b' hg=>⟨⟨b',hg⟩,hA t b' hg⟩) (au _)
  ·rcases hr with⟨ou,a,_,_,_,_,rfl,_⟩|⟨ids,pm,vq,vw2,rw2,ct,pK,xB,pc,_,_,_,rfl,_⟩
   ·refine h.sub hN (dF _) af ⟨rfl,rfl,rfl,rfl,rfl,rfl,rfl,rfl,rfl⟩ h.ok.ds (λt b' hg=>?_) Eh;have hg:getM t (kc ((ey n b (AV (n.A b) i m CG lC pJ)).A b).x.aM n.al)=some b':=hg;rw[hxt] at hg;obtain⟨q1,q2⟩:=akx nC hw.g hg;exact⟨⟨b',q1⟩,hA _ _ q1⟩
   ·refine h.sub hN (dF _) af ⟨rfl,rfl,rfl,rfl,rfl,rfl,rfl,rfl,rfl⟩ h.ok.ds (λt b' hg=>⟨⟨b',hg⟩,?_⟩) (au _);have hb:=hA m.aM b hw.g;have hl:pm.length=ids.length:=by rw[<-xB,ah]
    show rY _ (if b'=b then _ else(ey n b (AV (n.A b) i m CG lC pJ)).A b')
    split
    ·refine⟨λe=>absurd e sQ,hb.p,hb.sn,by grind,pK,λy hy=>?_,hb.wK,hb.pq⟩;obtain⟨z,hz,rfl⟩:=List.mem_map.1 hy;exact(pc z hz).2.2.asked
    ·exact hA _ _ hg
theorem gB.comm (h:gB k N n) (nC:Be n) (hb:getM t n.al=some b) (hl:(n.A b).ids.length<=80) (hc:QV n t b n1) (hk:k<=190) (hA: ∀t b,getM t n.al=some b->rY N' (n.A b)) (hN:N<=N'):gB (k+1) N' (dV n1):=by
 have ht:=h.act t b hb;have Xr:=h.Dl zQ ht;unfold QV Wh at hc;rcases hc with⟨xH,h0,ou,Av,xO,rfl,_⟩|⟨h0,bx,DI,vp,v2,ou,vs,UI,gr,Av,xO,en,_⟩
 ·have Xj:(jq t (n.A b).x.mn (n.A b).ids).fJ≠0:=λe=>by
   rw[xR e] at xH h0;rcases h.log.iD (Rb e hl Xr) (h.Wm ht _ _) zQ with q|q
   ·omega
   omega
  have e:=Pc (n:=n) Xj;refine h.sub hN (dF _) zQ ⟨rfl,rfl,rfl,rfl,rfl,rfl,by grind,by grind,rfl⟩ h.ok.ds (λt' b' hg=>?_) Eh;have q:=(nN hg).1
  grind
 ·have MV:(jq t (n.A b).x.mn (n.A b).ids).fJ=0:=by
   apply eB;intro e;rw[Pc e] at h0;rcases(jq t (n.A b).x.mn (n.A b).ids).xM with q|q|q|q
   ·omega
   all_goals grind
  have jw:=h.Wm ht (n.A b).x.mn (n.A b).ids;rw[xR MV] at h0;have Pd:=((h.log.iD (Rb MV hl Xr) jw zQ).resolve_left λe=>by omega).2;have hex: ∃n2:bo,n2= { n with c:= { n.c with cm:=DI },bl:=cK t bx n.bl,cl:=n.cl++[bx],C:=λb'=>if b'=bx then⟨jq t (n.A b).x.mn (n.A b).ids,vp,v2,(n.A b).ids,false⟩else n.C b' } :=⟨_,rfl⟩;obtain⟨n2,hn2⟩:=hex;have hR:IC n (jq t (n.A b).x.mn (n.A b).ids) vp n2:=.inr (.inl ⟨rfl,_,bx,DI,v2,rfl,gr,hn2⟩);obtain⟨i1,i2,i3,i4,i5⟩:=Yw h.bl jw (afJ h.bl h.ok.id jw) hR h.ok.cw hl;have e2:n2.c.aR=n.c.aR/\n2.cl=n.cl++[bx]/\n2.bl=cK t bx n.bl/\n2.C=λb'=>if b'=bx then⟨jq t (n.A b).x.mn (n.A b).ids,vp,v2,(n.A b).ids,false⟩else n.C b':=by rw[hn2];exact⟨rfl,rfl,rfl,rfl⟩
  have UF:=h.gg;have JH:=h.aR;have pG:=h.ok.cl;have aqE:=h.ok.aln;have wI:(dV n1).abs=(n.c.aR,n.abs.2++[(jq t (n.A b).x.mn (n.A b).ids,false)]):=by
   rw[en,<-i1];unfold bo.abs;rw[e2.1,e2.2.1,e2.2.2.2];rfl
  subst en;refine⟨⟨h.ok.id,λt' b' hg=>hA t' b' (nN hg).1,h.ok.ds,rfl,rfl,rfl,rfl,rfl,?_,?_,by omega,h.ok.pre,?_,?_⟩,?_,?_,?_,?_,λt' b' hg=>?_,?_,?_⟩
  ·show(n.cl++[bx]).length<=_;simp;omega
  ·exact ad Eh zQ
  ·rw[e2.2.1,e2.2.2.2] at i4;exact i4
  ·intro t' b' hg;have q:=(i2 t' b').1 (by rw[e2.2.2.1];exact hg);rw[e2.2.1,e2.2.2.2] at q;exact q
  ·intro t' b';have q:=i2 t' b';rw[e2.2.2.1,e2.2.1,e2.2.2.2] at q;exact q
  ·rw[wI,<-xR MV] at*;exact Pd
  ·show 0<=n.c.gg/\n.c.gg<=((k+1:Nat):Int);omega
  ·show 1<=n.c.aR/\n.c.aR<=((k+1:Nat):Int);omega
  ·obtain⟨q1,q2⟩:=nN hg;have q:=h.act t' b' q1;exact⟨q.co,q.aR,q.sq,by show getM t' (cK t bx n.bl)=none;rw[oZ q2];exact q.bl⟩
  ·rw[wI];intro x hx;rcases List.mem_append.1 hx with hx|hx
   ·exact h.abs x hx
   ·rw[aw] at hx;subst hx;have:=ht.sq;exact⟨ht.co,by rw[show(jq t (n.A b).x.mn (n.A b).ids).aM.aR=t.aR from rfl,ht.aR];omega,by show t.aR<=n.c.aR;rw[ht.aR];omega,this.1,by show t.sq<=2^40;omega⟩
  ·rw[wI];intro x hx Uk;rcases List.mem_append.1 hx with hx|hx
   ·exact h.BJ x hx Uk
   ·rw[aw] at hx;subst hx;exact ht.sq.2
theorem gB.aqT (h:gB k N n) (nC:Be n) (hs:Wi n m n1) (hk:k<=190):gB (k+1) N (dV n1):=by
 rcases hs with⟨iW,rfl,_⟩|hg|⟨b,i,y,iW,lC,pJ,n2,hw,rfl,hc⟩
 ·exact h.sub (au _) (dF _) zQ ⟨rfl,rfl,rfl,rfl,rfl,rfl,rfl,rfl,rfl⟩ h.ok.ds (λt b hg=>⟨⟨b,hg⟩,h.ok.act t b hg⟩) (au _)
 ·exact h.Xm hg (au _) (dF _) zQ
 ·have ha:=h.ok.act _ _ hw.g;have hA: ∀t' b',getM t' n.al=some b'->rY N ((ey n b (wS (n.A b) i m lC pJ)).A b'):=λt' b' hg=>by
   show rY _ (if b'=b then _ else n.A b')
   split
   ·refine⟨ha.q,ha.p,ha.sn,?_,ha.ids,λy hy=>?_,ha.wK,ha.pq⟩
    ·have:=ha.ws;simp[wS];omega
    ·exact ha.CC y ((List.mem_append.1 hy).elim dI da)
   ·exact h.ok.act t' b' hg
  rcases hc with⟨_,rfl⟩|⟨_,hc⟩
  ·exact h.sub (au _) (dF _) zQ ⟨rfl,rfl,rfl,rfl,rfl,rfl,rfl,rfl,rfl⟩ h.ok.ds (λt b' hg=>⟨⟨b',hg⟩,hA t b' hg⟩) (au _)
  ·have h2:gB k N (dV { ey n b (wS (n.A b) i m lC pJ)with ck:=iW }):=h.sub (au _) (au _) zQ ⟨rfl,rfl,rfl,rfl,rfl,rfl,rfl,rfl,rfl⟩ h.ok.ds (λt b' hg=>⟨⟨b',hg⟩,hA t b' hg⟩) (au _);have e:dV { ey n b (wS (n.A b) i m lC pJ)with ck:=iW } = { ey n b (wS (n.A b) i m lC pJ)with ck:=iW } :=by
    have h1:=h.ok.dV;have:dV { ey n b (wS (n.A b) i m lC pJ)with ck:=iW } = { ey (dV n) b (wS (n.A b) i m lC pJ)with ck:=iW } :=rfl;rw[this,h1]
   rw[e] at h2;refine h2.comm (λt' b' hg=>?_) (b:=b) hw.g ?_ hc hk hA (au _)
   ·show(if b'=b then wS (n.A b) i m lC pJ else n.A b').x.aM=t'
    have:=nC t' b' hg
    grind [wS]
   ·exact(hA _ _ hw.g).ids
end
variable {en : Bool} {v2 : Value}
section
variable {n : bo}
theorem gB.ajN (h:gB k N n) (hb:getM t n.bl=some b) (he:(n.C b).ended=false):sy n.abs (mf t)=some (n.c.aR,Dt t n.abs.2):=by
 obtain⟨h1,h2⟩:=(h.bl t b).1 hb;unfold sy;rw[if_neg (show¬(mf t).kind=8 from(by decide: ¬(10:Int)=8)),if_neg (show¬(mf t).kind=9 from(by decide: ¬(10:Int)=9)),if_pos (show(mf t).kind=10 from rfl),if_pos ?_]
 ·rfl
 ·exact⟨((n.C b).r,(n.C b).ended),List.mem_map.2 ⟨b,h1,rfl⟩,h2,he⟩
theorem gB.ajO (h:gB k N n) (hk:k<=1000) (hb:getM t n.bl=some b):Uy (mf t)/\(mf t).fJ=0:=by
 obtain⟨h1,h2⟩:=(h.bl t b).1 hb;have ha:=h.abs _ (List.mem_map.2 ⟨b,h1,rfl⟩);dsimp only at ha;rw[h2] at ha;have hl:=h.aR;have e:n.abs.1=n.c.aR:=rfl;rw[e] at ha;refine amE ?_ ?_
 ·unfold Go.Proofs.YtgfijddlkhkopaaGreat.Dl uI;omega
 ·unfold bE.may;simp_all
theorem UJ {s:jH} (h:zH s):zH (s.1,Dt t s.2):=λx hx=>by
 obtain⟨y,hy,rfl⟩:=List.mem_map.1 hx;have:=h y hy;split<;>omega
theorem ah2 {s:jH} (h:zH s) (h1:t.ep=1) (h2:1<=t.aR/\t.aR<=s.1) (h3:1<=t.sq/\t.sq<=2^40):zH (s.1,s.2++[(jq t st ids,false)]):=λx hx=>by
 rcases List.mem_append.1 hx with hx|hx
 ·exact h x hx
 ·rw[aw] at hx;subst hx;exact⟨h1,h2.1,h2.2,h3.1,h3.2⟩
theorem ah3 (h:LC n) (hb:getM t n.bl=some b) (he:(n.C b).ended=false):
  (n.cl.map λb'=>(((mD n b (rZ (n.C b) i v2 en)).C b').r,((mD n b (rZ (n.C b) i v2 en)).C b').ended))=if en then Dt t n.abs.2 else n.abs.2:=by
 obtain⟨h1,h2⟩:=(h t b).1 hb;cases en with
 |false=>
  rw[if_neg dQ];refine ee λb' dT=>?_;unfold mD rZ;dsimp only
  grind
 |true=>
  rw[if_pos rfl];unfold Dt bo.abs;dsimp only;rw[bz];refine ee λb' dT=>?_;unfold mD rZ;dsimp only;by_cases e:b'=b
  ·grind
  ·rw[if_neg e];have: ¬(n.C b').r.aM=t:=λe'=>by
    have:=(h _ _).2 ⟨dT,e'⟩
    grind
   simp[this]
theorem ab2 (h:LC n): ∀t b',getM t n.bl=some b'↔b'∈n.cl/\((mD n b (rZ (n.C b) i v2 en)).C b').r.aM=t:=λt b'=>by
 refine(h t b').trans (and_congr_right λ_=>?_);unfold mD rZ;dsimp only
 grind
theorem aky (h: ∀b∈n.cl,(n.C b).waits.length<=80) (hb:b∈n.cl): ∀b'∈n.cl,((mD n b (rZ (n.C b) i v2 en)).C b').waits.length<=80:=λb' dT=>by
 unfold mD rZ;dsimp only;split
 ·have:=h b hb;simp;omega
 grind
theorem gB.done (h:gB k N n) (hs:adM n m n1) (hk:k<=190):gB (k+1) N (dV n1):=by
 rcases hs with rfl|⟨b,i,v2,hD,hc⟩
 ·exact h.sub (au _) (dF _) zQ (Calm.refl _) h.ok.ds (λt b hg=>⟨⟨b,hg⟩,h.ok.act t b hg⟩) (au _)
 ·obtain⟨hbc,hbt⟩:=(h.bl _ _).1 hD.g;have UF:=h.gg;have JH:=h.aR;have mk: ∀{L':LM} {m':DM} {en:Bool},(∀s2,s2=(if en then Dt m.aM n.abs.2 else n.abs.2)->vZ ⟨L',m'⟩ (k+1) (n.c.aR,s2))->gB (k+1) N (dV { mD n b (rZ (n.C b) i v2 en)with L:=L',m:=m' }):=λ{L' m' en} Pd=>by
   have e:=ah3 (i:=i) (v2:=v2) (en:=en) h.bl hD.g hD.en;have wI:(dV { mD n b (rZ (n.C b) i v2 en)with L:=L',m:=m' }).abs=(n.c.aR,if en then Dt m.aM n.abs.2 else n.abs.2):=by
    unfold bo.abs;exact congrArg (Prod.mk _) e
   refine⟨⟨h.ok.id,h.ok.act,h.ok.ds,rfl,rfl,rfl,rfl,rfl,ua h.ok.cl,ua h.ok.aln,by omega,h.ok.pre,aky h.ok.cw hbc,λt b' hg=>(ab2 h.bl t b').1 hg⟩,ab2 h.bl,by rw[wI];exact Pd _ rfl,?_,?_,λt b' hg=>?_,?_,?_⟩
   ·show 0<=n.c.gg/\n.c.gg<=((k+1:Nat):Int);omega
   ·show 1<=n.c.aR/\n.c.aR<=((k+1:Nat):Int);omega
   ·have q:=h.act t b' hg;exact⟨q.co,q.aR,q.sq,q.bl⟩
   ·rw[wI];cases en
    ·exact h.abs
    ·exact UJ (s:=n.abs) h.abs
   ·rw[wI];cases en
    ·exact h.BJ
    ·intro x hx hl;obtain⟨y,hy,rfl⟩:=List.mem_map.1 hx;have:=h.BJ y hy;split at hl<;>(split;exact this hl;exact this hl)
  rcases hc with⟨_,rfl⟩|⟨_,xH,rfl⟩
  ·exact mk (en:=false) λs2 e=>by rw[e];exact h.log.up (dF _)
  ·obtain⟨cg,ce⟩:=h.ajO zQ hD.g;unfold Ll;rw[xR ce] at xH⊢;rcases h.log.iD cg (h.ajN hD.g hD.en) zQ with q|⟨q0,q⟩
   ·exact absurd q.1 xH
   ·rw[decide_eq_true q0];exact mk (en:=true) λs2 e=>by rw[e];exact q
theorem gB.ask (h:gB k N n) (hs:adP n m n1) (hk:k+1<=1000):gB (k+1) N (dV n1):=by
 rcases hs with⟨_,rfl⟩|⟨_,Av,xO,rfl,_⟩;all_goals exact h.sub (au _) (dF _) hk ⟨rfl,rfl,rfl,rfl,rfl,rfl,rfl,rfl,rfl⟩ h.ok.ds (λt b hg=>⟨⟨b,hg⟩,h.ok.act t b hg⟩) (au _)
theorem gB.up (h:gB k N n) (hk:k<=k') (af:k'<=1000) (hN:N<=N'):gB k' N' n:=by
 have:=h.sub (n1:=n) hN hk af (Calm.refl _) h.ok.ds (λt b hg=>⟨⟨b,hg⟩,(h.ok.act t b hg).up hN⟩) (au _)
 rwa [h.ok.dV] at this
theorem gB.step (h:gB k N n) (nC:Be n) (hs:Gf n m n1) (hk:k<=190):gB (k+1) (N+m.seen.length) (dV n1):=by
 have up: ∀{n1},gB (k+1) N (dV n1)->gB (k+1) (N+m.seen.length) (dV n1):=λh=>h.up (au _) zQ (iG _ _);have same:gB (k+1) (N+m.seen.length) (dV n):=up (h.sub (au _) (dF _) zQ (Calm.refl _) h.ok.ds (λt b hg=>⟨⟨b,hg⟩,h.ok.act t b hg⟩) (au _));rcases hs with⟨_,rfl⟩|⟨_,_,⟨_,hs⟩|⟨_,hs⟩|⟨_,hs⟩|⟨_,hs⟩|⟨_,_,_,_,rfl⟩⟩
 ·omega
 ·exact h.seen nC hs zQ
 ·exact up (h.aqT nC hs hk)
 ·exact up (h.done hs hk)
 ·exact up (h.ask hs zQ)
 omega
def adX (n:bo) (m:cJ) (s:jH):Prop:=s=n.abs\/(m.kind=4/\ ∃(b i:Nat) (y:cJ),FV n m true b i y/\(n.A b).ws.length=1/\s=(n.c.aR,n.abs.2++[(jq m.aM ((n.A b).x.mn.later m.aV) (n.A b).ids,false)]))\/(m.kind=6/\s=(n.c.aR,Dt m.aM n.abs.2))
def YH (k:Nat) (P:jH->Prop) (m:DM):Prop:=m.dn=true/\wV k (λs=>P s/\zH s) m
def YH.up {m:DM} (h:YH k P m) (hk:k<=k'):YH k' P m:=⟨h.1,h.2.imp hk λ_ h=>h⟩
theorem gB.crs (h:gB k N n):wV k (λs=>s=n.abs/\zH s) n.m:=h.log.crs.imp (au _) λs e=>⟨e,by rw[e];exact h.abs⟩
theorem gB.aoN {m':DM} (h:gB k N n) (hs:IA n m m') (hk:k<=190):YH (k+1) (adX n m) m':=by
 obtain⟨_,_,⟨NN,b,i,y,hw,hl,xH,rfl⟩|⟨hk6,b,i,hD,hl,xH,rfl⟩⟩:=hs
 ·have ht:=h.act _ _ hw.g;have ha:=h.ok.act _ _ hw.g;have MV:(jq m.aM ((n.A b).x.mn.later m.aV) (n.A b).ids).fJ=0:=by
   apply eB;intro e;rw[Pc e] at xH;rcases(jq m.aM ((n.A b).x.mn.later m.aV) (n.A b).ids).xM with q|q|q|q
   ·omega
   all_goals grind
  rw[xR MV] at xH⊢;have UF:=h.gg;have hsq:=ht.sq;rcases h.log.iD (Rb MV ha.ids (h.Dl zQ ht)) (h.Wm ht _ _) zQ with q|q
  ·refine⟨q.2.1,q.2.2.imp (au _) λs e=>?_⟩;rcases e with e|e
   ·exact⟨.inl e,by rw[e];exact h.abs⟩
   ·exact⟨.inr (.inl ⟨NN,b,i,y,hw,hl,e⟩),by rw[e];exact ah2 (s:=n.abs) h.abs ht.co ⟨by rw[ht.aR];exact h.aR.1,by rw[ht.aR];exact sV _⟩ ⟨hsq.1,by omega⟩⟩
  omega
 ·obtain⟨cg,ce⟩:=h.ajO zQ hD.g;rw[xR ce] at xH⊢;rcases h.log.iD cg (h.ajN hD.g hD.en) zQ with q|q
  ·refine⟨q.2.1,q.2.2.imp (au _) λs e=>?_⟩;rcases e with e|e
   ·exact⟨.inl e,by rw[e];exact h.abs⟩
   ·exact⟨.inr (.inr ⟨hk6,e⟩),by rw[e];exact UJ (s:=n.abs) h.abs⟩
  omega
theorem gB.Ds {l:List eI} {m:DM} (hb:adV m k s1 x pre sg rs) (ha:zH s1) (hn:ajI l x s1 db rs.length n) (hds: ∀(i:Int) (r:eI),getM i (l.foldl iX [])=some r->r.id=i) (hk:k+1<=1000):gB (k+1) N n:=by
 have hl:=hb.aR;have hlen:=hb.len;have hc:=hn.cl;have JH:n.c.aR=s1.1+1:=congrArg Prod.fst hn.abs;have UF:=hn.gg;refine⟨⟨hn.id,λt b hg=>(by rw[hn.al] at hg;cases hg),by rw[hn.ds];omega,hn.ms,hn.vm,hn.va,hn.rm,hn.ra,by omega,by rw[hn.al];grind,hk,hn.pre,hn.cw,λt b hg=>(hn.bl t b).1 hg⟩,hn.bl,?_,by omega,by omega,λt b hg=>(by rw[hn.al] at hg;cases hg),?_,?_⟩
 ·rw[hn.ld,hn.abs];exact hb.up
 ·rw[hn.abs];intro x hx;have:=ha x hx;dsimp only;omega
 ·rw[hn.abs,JH];intro x hx e;have:=ha x hx;omega
end
variable {most : Int}
theorem JZ {xs:List fb} (ha:Sl w X 7 a (xs.map fb.l)):
  Ct pg 67 #[a,I most] w X nX D3:=by
 intro w0 hk;replace ha:=ha.mv hk.cr;have kG:=ha.gO;refine IE.1 λhs=>?_;refine gz (λn a b w X=> ∃(i:Nat) (s:Int),a=I i/\b=I s/\n=(xs).length-i/\i<=(xs).length/\ai (bK w0) w0 X w) (xs).length ⟨0,_,rfl,rfl,rfl,aq _,hs⟩ ?_;rintro n a b w X ⟨i,s,rfl,rfl,rfl,hi,hs⟩;repeat' first|refine ak ?_;intros|refine cQ ?_ ?_<;>intros|(refine qr ?_;intro wa hk;exact⟨_,rfl⟩)|(refine xS (kg  _ _ _ _ _) hs ?_;intro n1 w X hs)|((with_reducible refine fB ((xs).length-(i+1)) ?_ ?_);omega;exact⟨i+1,_,by simp,rfl,rfl,by omega,hs⟩)|with_reducible apply nI
theorem LH (ha:m.at w X vk vs vw vp vr vc vh vd):
  Ct pg 30 #[m.v vk vs vw vp vr vc vh vd,I most] w X nX D3:=by
 intro w0 hk;obtain⟨h1,h2,h3,h4,h5,h6,h7,h8⟩:=ha.mv hk.cr;have kG:=h6.len;refine J0.1 λhs=>?_;repeat' first|refine ak ?_;intros|(refine xS (kg  _ _ _ _ _) hs ?_;intro n1 w X hs)|(refine xS (uY  qA) hs ?_;intro n1 w X hs)|(refine xS (JZ  qA) hs ?_;intro n1 w X hs)|(refine xS (ub  qA) hs ?_;intro n1 w X hs)|with_reducible apply nI
 refine gz (λn a b w X=> ∃(i:Nat) (s:Int),a=I i/\b=I s/\n=(m.bh).length-i/\i<=(m.bh).length/\ai (bK w0) w0 X w) (m.bh).length ⟨0,_,rfl,rfl,rfl,aq _,hs⟩ ?_;rintro n a b w X ⟨i,s,rfl,rfl,rfl,hi,hs⟩;repeat' first|refine ak ?_;intros|refine cQ ?_ ?_<;>intros|((with_reducible apply ab3);assumption;(try (case hz=>rfl));(case hr=>exact qR);(try (case hz=>omega));(case ht=>kernel_rfl);(case hs=>kernel_rfl);intros)|(refine qr ?_;intro wa hk;exact⟨_,rfl⟩)|(refine xS (kg  _ _ _ _ _) hs ?_;intro n1 w X hs)|(refine xS (Bf  (s:=m.state) qA qA) hs ?_;intro n1 w X hs)|(refine xS ((LI (r:=_))  (Rec.at.mv aQ hs.mv)) hs ?_;intro n1 w X hs)|((with_reducible refine fB ((m.bh).length-(i+1)) ?_ ?_);omega;exact⟨i+1,_,by simp,rfl,rfl,by omega,hs⟩)|with_reducible apply nI
structure jI where
 kind:Int
 gM:Int
 n:Int
 m:cJ
 prog:List jE
 cH:List Int
abbrev jI.l (o:jI) (vk vs vw vp vr vc vh vd vo vq:Value):List Value:=[I o.kind,I o.gM,I o.n,I o.m.kind,I o.m.fr,I o.m.to,I o.m.aM.ep,I o.m.aM.aR,I o.m.aM.sq,I o.m.range,I o.m.iB,I o.m.code,
 I o.m.aV.wall,I o.m.aV.dy,I o.m.aV.node,I o.m.prev.wall,I o.m.prev.dy,I o.m.prev.node,B o.m.jG,I o.m.n,I o.m.mx,vk,vs,vw,vp,vr,vc,
 I o.m.state.range.id,I o.m.state.range.iB,.float .f64 o.m.state.range.lo,.float .f64 o.m.state.range.hi,
 I o.m.state.floor.wall,I o.m.state.floor.dy,I o.m.state.floor.node,I o.m.state.closed.wall,I o.m.state.closed.dy,I o.m.state.closed.node,vh,vd,vo,vq]
structure jI.at (w:World) (X:XS) (o:jI) (vk vs vw vp vr vc vh vd vo vq:Value):Prop where
 m:o.m.at w X vk vs vw vp vr vc vh vd
 po:Sl w X 5 vo (o.prog.map jE.l)
 p:Sl w X 1 vq (o.cH.map I1)
def jI.rd (w:World) (X:XS) (l:List Value) (o:jI):Prop:= ∃vk vs vw vp vr vc vh vd vo vq,l=o.l vk vs vw vp vr vc vh vd vo vq/\o.at w X vk vs vw vp vr vc vh vd vo vq
def jI.mv:Gi jI.rd:=λ⟨vk,vs,vw,vp,vr,vc,vh,vd,vo,vq,h,h1⟩ m=>⟨vk,vs,vw,vp,vr,vc,vh,vd,vo,vq,h,⟨h1.m.mv m,h1.po.mv m,h1.p.mv m⟩⟩
def E5 {P:Program} {X0:XS} {N:Value->Prop} {t:TypeId} {v:Value} {xs:List jI} {x:jI} (h:fg w0 X0 41 v jI.rd xs) (hr:xs[i]? =some x)
  (hz:z=i) (ht:P.underlying t=some (.slice (P.elem t))) (hs:(P.info? (P.elem t)).map (·.size)=some 41)
  (n: ∀b o vk vs vw vp vr vc vh vd vo vq,aL.one vk=true->aL.one vs=true->aL.one vw=true->aL.one vp=true->aL.one vr=true->aL.one vc=true->aL.one vh=true->aL.one vd=true->aL.one vo=true->aL.one vq=true->Sl w0 X0 5 vo (x.prog.map jE.l)->
   Cells w0 X0 b o (x.l vk vs vw vp vr vc vh vd vo vq)->x.at w0 X0 vk vs vw vp vr vc vh vd vo vq->N (ptr b o)):aX P X w (kT t 41 v (.int .i64 z)) N:=
 FR h hr hz ht hs λb o _ hc ⟨vk,vs,vw,vp,vr,vc,vh,vd,vo,vq,hl,h1⟩=>n b o vk vs vw vp vr vc vh vd vo vq h1.m.keys.one h1.m.seen.one h1.m.writes.one h1.m.parts.one h1.m.ranges.one h1.m.bh.one h1.m.iu.one h1.m.gY.one h1.po.one h1.p.one h1.po (hl▸hc) h1
abbrev rg1:eI:=⟨1,0,0,4602678819172646912⟩
abbrev rg2:eI:=⟨2,0,4602678819172646912,4607182418800017408⟩
abbrev LJ:List eI:=[rg1,rg2]
abbrev kEx:BA:=⟨#[107]⟩
abbrev BN:List jE:=[⟨4,⟨#[]⟩,⟨1,4607182418800017408,⟨#[]⟩⟩⟩,⟨2,kEx,.zero⟩]
abbrev LK:tr:=[(1,rg1),(2,rg2)]
theorem SR:Bc LJ=0:=by kernel_rfl
theorem Rc:LJ.foldl iX []=LK:=by kernel_rfl
theorem amF {i:Int} {r:eI} (h:getM i LK=some r):r.id=i:=by
 have hm:=gP h;simp only[LK,ic,Prod.mk.injEq,dH,or_false] at hm;rcases hm with⟨rfl,rfl⟩|⟨rfl,rfl⟩<;>rfl
abbrev UK:Value:=.slice none 0 0
theorem UL (k:BA):fR [k]=[k]:=by
 simp[fR,bl]
theorem afO:fR []=[]:=by simp[fR]
theorem afP (k:Int):pI [k]=[k]:=by simp[pI]
theorem E6:fh 1 1 BN=[]:=by grind [kN,fh,afO]
theorem afQ:fh 2 3 BN=[kEx]:=by
 have:BN.foldl (kN 2 3) []=[(kEx,1)]:=by kernel_rfl
 grind [fh,UL]
theorem ab4:mX BN=0:=by
 have:yO BN 0=0:=by kernel_rfl
 unfold mX;rw[if_neg dQ,if_neg zQ,E6,afQ,if_neg dQ]
theorem amG:runM BN [] []= .ok ([],[(kEx,⟨1,4607182418800017408,⟨#[]⟩⟩)]):=by rfl
abbrev wEx:Gj:=[(kEx,⟨1,4607182418800017408,⟨#[]⟩⟩)]
theorem YI:nr LK kEx=some rg1:=by kernel_rfl
theorem afR:E7 wEx=[⟨kEx,⟨1,4607182418800017408,⟨#[]⟩⟩⟩]:=by
 unfold E7;rw[show(wEx.map (·.1))=[kEx] from rfl,UL];rfl
theorem akz:tu BN ⟨0,0,21⟩ 5 LK=0:=by
 unfold tu;rw[ab4,E6];rfl
abbrev YJ:cn:=⟨7,0,1⟩
abbrev LL:bE:=⟨1,1,1⟩
theorem afS:(jq LL YJ [1]).fJ=0:=by kernel_rfl
def HL:cJ:=⟨4,1,21,LL,1,0,0,YJ,.zero,false,0,0,[],[],[],[],[],[],.zero⟩
theorem akA:HL.err=0:=by rfl
theorem amH {st:State} (h1:st.iu=[]) (h2:st.gY=[]):st.small:=⟨by rw[h1];exact λ_ h=>absurd h sQ,by rw[h2];exact λ_ h=>absurd h sQ,by rw[h1];exact λ_ h=>absurd h sQ,by rw[h2];exact λ_ h=>absurd h sQ⟩
theorem afT:HL.small:=⟨by decide,by decide,by simp[HL],by simp[HL],amH rfl rfl⟩
theorem ah4:HL.lens<=2^62:=by decide
theorem ah5:cn.later .zero YJ=YJ:=by rfl
theorem LN:Ct pg 37 #[] w X nX λv wa w'=>Own w' (made wa w') wa.heap.size 48 4 v (LJ.map eI.l):=by
 intro w0 hk;refine Pe.1 λhs=>?_;repeat' refine ak ?_;intros
 refine Wn (rows:=LJ.map eI.l) (rg1.l++rg2.l).toArray eI.zero.v hs.has (bytes:=32) kQ kQ zQ zQ kQ sQ rfl rfl λv2 w2 X2 bB kq=>?_;exact bS (hs.trans bB) λFZ aI=>(kq.kp aI).tight
end Go.Proofs.YtgfijddlkhkopaaGreat