/-
 Part 16 of the proof: what the last text leans on.
-/
import Derived.Test.YtgfijddlkhkopaaGreatH15
namespace Go.Proofs.YtgfijddlkhkopaaGreat
open Go.Proofs.Tryz renaming prog → pg
open Go.aG
set_option maxRecDepth 100000
set_option maxHeartbeats 4000000
set_option linter.unusedVariables false
set_option linter.unusedSimpArgs false
attribute [local irreducible] un jn jq ji ld1 je st1 oS mO pj me pH HR D4 gT pI aZ nO nQ eW eV eU eC eF gE mE fin iM bq de vS KZ HS HT HU HV HW K0 K3 K4 K5 EW EX HX HY HZ K6 K7 K8
variable {X : XS} {w : World}
theorem aaX {a:Value} {xs:List Int} {z:Int} (ha:Sl w X 1 a (xs.map I1)):Ct pg 107 #[a,I z] w X nX λv _ _=>v=I (idxOf (λy=>decide (y=z)) xs):=by
 intro w0 hk;replace ha:=ha.mv hk.cu;have lN:=ha.ib;refine DU.1 λhs=>?_;repeat' refine ao ?_;intros
 refine gh (λn a w X=> ∃i:Nat,a=I (i:Nat)/\n=(xs).length-i/\i<=(xs).length/\aj (bV w0) w0 X w/\(∀(j:Nat) x,j<i->xs[j]? =some x->decide (x=z)=false)) (xs).length ⟨0,rfl,rfl,Nat.zero_le _,hs,by simp⟩ ?_;rintro n a w X ⟨i,rfl,rfl,hi,hs,hw⟩;rcases dG (xs) i with⟨cC,x,hx,hd⟩|⟨dH,hd⟩
 ·repeat' first|refine aN ?_;intros|refine dq ?_ ?_<;>intros|(refine qr ?_;intro wa hk;(subst_vars;rw[Ch hw hx sQ]))|((with_reducible refine fp ((xs).length-(i+1)) ?_ ?_);omega;exact⟨i+1,by simp,rfl,by omega,hs,λj y hj hy=>by rcases Nat.lt_succ_iff_lt_or_eq.1 hj with h|h;exact hw j y h hy;subst h;rw[hx] at hy;cases hy;simp;intro e;simp_all⟩)
 ·repeat' first|refine aN ?_;intros|(refine qr ?_;intro wa hk;(rw[yl λj x hj hx=>hw j x zQ hx]))
def mJ (t:bH):Rec:=⟨10,t,.zero,.zero,false,0,0,[],[],[],[],.zero⟩
theorem Rb (t:bH):fZ (mJ t)=encI 10++oq t:=by simp[fZ,mJ]
def nG (n:bt) (b:Nat) (d:DS):bt:= { n with C:=λb'=>if b'=b then d else n.C b' }
def sC (d:DS) (i:Nat) (v2:Value) (en:Bool):DS:= { d with v2:=v2,waits:=d.waits.take i++d.waits.drop (i+1),ended:=en }
structure adA (n:bt) (m:bZ) (b i:Nat):Prop where
 g:getM m.aR n.bl=some b
 en:(n.C b).ended=false
 gA:(n.C b).waits[i]? =some m.range
def adB (n:bt) (m:bZ) (n':bt):Prop:=
 n'=n\/ ∃b i v2,adA n m b i/\(((n.C b).waits.length≠1/\n'=nG n b (sC (n.C b) i v2 false))\/
  ((n.C b).waits.length=1/\(jG n (mJ m.aR)).2.2≠12/\n'=nG (LU n (mJ m.aR)) b (sC (n.C b) i v2 (decide ((jG n (mJ m.aR)).2.2=0)))))
def adC (n:bt) (m:bZ) (m':DM):Prop:= ∃b i,adA n m b i/\(n.C b).waits.length=1/\No n (mJ m.aR) m'
structure adD (n:bt) (m:bZ):Prop where
 co:m.aR.dX=n.c.id
 al:getM m.aR n.al=none
 ba:m.aR.ba<=n.c.ba
 sq:m.aR.ba=n.c.ba->m.aR.sq<=n.c.fF
def alS (m:bZ) (no:Int) (cm:Option bN):bZ:= { Ck with kind:=5,fr:=no,to:=m.fr,aR:=m.aR,range:=m.range,jJ:=cm.isSome,aV:=cm.getD .zero }
def adE (n:bt) (m:bZ) (n':bt):Prop:=(¬adD n m/\n'=n)\/(adD n m/\Told n [alS m (20+n.c.id) ((getM m.aR n.bl).map λb=>(n.C b).r.aV)] n')
variable {n : bt} {M N b : Nat} {d : DS} {vd vh vk vp vr vw : Value}
section
variable {w' wa w0 : World} {X' : XS} {own aH bM : Nat -> Nat} {n' : bt}
theorem L2:(nG n b d).C b=d:=if_pos rfl
theorem Uq {e:DS} :nG (nG n b d) b e=nG n b e:=by
 unfold nG
 congr 1
 funext b'
 by_cases h:b'=b<;>simp[h]
theorem Wa {Q:Nat->Prop} (h: ∀i,Q (tx b i)-> ∀w K A,(JX b (n.C b) i).p w K A->(JX b d i).p w K A:=by intro i hq w K A h;rcases i with _|_|_|_|_|_|_|_|i<;>first|exact h|exact absurd rfl hq.1|exact absurd rfl hq.2.1|exact absurd rfl hq.2.2|exact absurd rfl hq): ∀c,Q c-> ∀w K A,(ea n c).p w K A->(ea (nG n b d) c).p w K A:=
 (nU (ap0 h): ∀c,Q c-> ∀w K A,(ea n c).p w K A->(ea (nG n b d) c).p w K A)
theorem Nq {K A:XS} {i:Nat} (hi:i=4\/i=5\/i=6) (h:(JX b d i).p w K A):(ea (nG n b d) (tx b i)).p w K A:=by
 rw[vU _ _ _ zQ];rcases hi with rfl|rfl|rfl<;>(simp only[zm,Dm,L2];exact λ_=>h)
theorem Yq {m:bZ} {vs vc:Value} {pre:List dO} {sg:dO} (h:jb w own n) (hX:sK own X) (jF:oY ⟨n.L,n.m⟩ pre sg) (hk:tn N M n):
  E5 pg 57 #[ptr n.nb 0,m.v vk vs vw vp vr vc vh vd] w X (gB own) (λ_ wa w'=>NQ ea own wa w' λ_ n'=>adB n m n') (λch wa w'=>ch=A3/\DQ own n.nb n.db wa w' (adC n m)):=by
 intro w0 iw;have s:=St.init h hX iw;clear h hX iw;have hr:=s.v.1;have hs:=s.rf;refine L3.1 λ_=>?_;repeat' refine ao ?_;intros
 refine nh (kt:=34) (et:=124) (kv:=λk:bH=>k.v) (k:=m.aR) (.pointer none) (s.zO 6:) ta kQ kQ (λv b lq rT=>?_) (λhn=>?_);case refine_2=>
  repeat' refine ao ?_;intros
  exact s.xy λ_ _=>.inl rfl
 simp only[wT] at rT;subst rT;obtain⟨hb,hbt⟩:=hk.byT _ _ lq;obtain⟨hc,o2,o1,H8⟩:=s.vc hb;have hw8:=H8.ib;by_cases BX:(n.C b).ended=true
 ·rw[BX] at hc;repeat' refine ao ?_;intros
  exact s.xy λ_ _=>.inl rfl
 replace BX:(n.C b).ended=false:=by simpa using BX
 rw[BX] at hc;repeat' refine ao ?_;intros
 refine eT (aaX (z:=m.range) H8) kQ hs.has λw1 X1 aC=>?_;have s1:=s.since (hs.trans aC);clear hs aC hc H8 s hr;have hs:=s1.rf;obtain⟨hc,-⟩:=s1.vc hb;rw[BX] at hc;rcases G7 (p:=λy:Int=>decide (y=m.range)) (l:=(n.C b).waits)with⟨e,_⟩|⟨i,y,hy,hyp,e⟩
 ·rw[e];repeat' refine aN ?_;intros
  exact s1.xy λ_ _=>.inl rfl
 rw[e];obtain rfl:y=m.range:=by simpa using hyp
 have hD:adA n m b i:=⟨lq,BX,hy⟩;have mQ:i<(n.C b).waits.length:=(List.getElem?_eq_some_iff.1 hy).1;have iF:=s1.h.Dl hb;rw[BX] at iF;repeat' refine aN ?_;intros
 refine s1.aho (tx b 4) (tx b 5) 0 iF.1 iF.2.1 (aaL (F:=X1) (iF.2.1.mono (s1.sub _ ix.1)) (λ_ h=>h) (by rw[List.length_map];exact mQ) λr hr u hu=>by obtain⟨x,_,rfl⟩:=List.mem_map.1 hr;rw[List.mem_singleton] at hu;subst hu;rfl) (λv=>ea (nG n b (sC (n.C b) i v false)))
  (λ_ _ _ _ h=>Nq dQ h) (λ_ _ _ _ h=>Nq dQ (by rw[<-List.map_take,<-List.map_drop,<-List.map_append] at h;exact h)) (λ_ _ _ _ _ h=>h) (λv=>Wa) (λv w2 X2 lS s2 m2=>?_) (yI:=by unfold tx;omega)
 clear hs hc iF s1;obtain⟨n3,sM⟩: ∃n3:bt,n3=nG n b (sC (n.C b) i v false):=⟨_,rfl⟩;have e3:n3.C b=sC (n.C b) i v false:=by rw[sM];exact L2
 have f3:n3.nb=n.nb/\n3.db=n.db/\n3.L=n.L/\n3.m=n.m/\n3.cl=n.cl:=by rw[sM];exact⟨rfl,rfl,rfl,rfl,rfl⟩
 rw[<-sM] at s2;have wS:((n.C b).waits.take i++(n.C b).waits.drop (i+1)).length=(n.C b).waits.length-1:=by simp;omega
 have rV:b∈n3.cl:=by rw[f3.2.2.2.2];exact hb
 have hs:=s2.rf;obtain⟨hc,o2,o1,H8⟩:=s2.vc rV;rw[e3] at hc o2 o1 H8;have ar7:Sl w2 X2 1 v (((n.C b).waits.take i++(n.C b).waits.drop (i+1)).map I1):=H8;by_cases h1:(n.C b).waits.length=1;case neg=>
  repeat' first|refine aN ?_;intros|with_reducible apply cK|(refine aob undef rfl ?_)
  exact s2.xy λ_ _=>.inr ⟨b,i,_,hD,.inl ⟨h1,sM⟩⟩
 rw[<-f3.1,<-f3.2.1];have eK:jG n3 (mJ m.aR)=jG n (mJ m.aR):=by unfold jG;rw[f3.2.2.1,f3.2.2.2.1]
 repeat' first|refine aN ?_;intros|with_reducible apply cK
 refine s2.Gt (Yk:=adC n m) (Fy (r:=mJ m.aR) s2.h s2.x (by rw[f3.2.2.1,f3.2.2.2.1];exact jF) (abJ rfl rfl rfl rfl rfl) (Es rfl rfl rfl) (by rw[Rb];have:=fz 10;have:=Dn m.aR;simp only[List.length_append];omega)) kQ (λv4 w4 X4 lT n4 s4 ⟨k1,k2,k3⟩ m4=>?_) λm' TQ=>⟨b,i,hD,h1,by unfold No at TQ⊢;rwa [eK] at TQ⟩;obtain⟨z,hz⟩: ∃z,z=(jG n (mJ m.aR)).2.2:=⟨_,rfl⟩;rw[eK,<-hz] at k1 k2;subst k2;have yH:b∈n4.cl:=by rw[k3];exact rV
 have e4:n4.C b=sC (n.C b) i v false:=by rw[k3];exact e3
 have ek:n4=nG (LU n (mJ m.aR)) b (sC (n.C b) i v false):=by rw[k3];unfold LU;rw[eK,sM];rfl
 clear hs hc;have hs:=s4.rf;obtain⟨hc,-⟩:=s4.vc yH;rw[e4] at hc;by_cases Lf:z=0
 ·repeat' refine aN ?_;intros
  refine s4.st (o:=30) (tx b 4) (s4.h.Dl yH).1 (ea (nG n4 b (sC (n.C b) i v true))) zQ kQ sQ rfl (λ_ _ _ h=>Nq dQ (by rw[e4] at h;exact h)) (Wa (by rw[e4];intro i hq w K A h;rcases i with _|_|_|_|_|_|_|_|i<;>first|exact h|exact absurd rfl hq)) (λw5 X5 mW s5 m5=>?_) ix.1 ix.2;clear hs
  skip
  exact s5.xy λ_ _=>.inr ⟨b,i,v,hD,.inr ⟨h1,by rw[<-hz];exact k1,by rw[ek,Uq,<-hz,Lf];rfl⟩⟩
 ·repeat' refine aN ?_;intros
  exact s4.xy λ_ _=>.inr ⟨b,i,v,hD,.inr ⟨h1,by rw[<-hz];exact k1,by rw[ek,<-hz,decide_eq_false zQ]⟩⟩
theorem Vm {m:bZ} {vs vc:Value} (h:jb w own n) (hX:sK own X) (hk:tn N M n):
  Ct pg 58 #[ptr n.nb 0,m.v vk vs vw vp vr vc vh vd] w X (gB own) λ_ wa w'=>NQ ea own wa w' λ_ n'=>adE n m n':=by
 intro w0 iw;have s:=St.init h hX iw;have hi:1<=n.c.id/\n.c.id<=2:=by rw[hk.id];decide
 clear h hX iw;have hr:=s.v.1;have hs:=s.rf;refine Kj.1 λ_=>?_;have sS: ¬adD n m->aG.fin (vR (gB own) w0 λv w'=>NQ ea own w0 w' λ_ n'=>adE n m n') (bV w0) w0 (.tuple #[]):=λhA=>s.fin λ_ _=>.inl ⟨hA,rfl⟩;by_cases hc:m.aR.dX=n.c.id;case neg=>
  repeat' refine aN ?_;intros
  exact sS λh=>hc h.co
 repeat' refine aN ?_;intros
 refine nh (kt:=34) (et:=116) (kv:=λk:bH=>k.v) (k:=m.aR) (.pointer none) (s.zO 5:) ta kQ kQ (λv a lq rT=>?_) (λhn=>?_)
 ·simp only[wT] at rT;subst rT;repeat' refine ao ?_;intros
  all_goals exact sS λh=>by rw[h.al] at lq;cases lq
 by_cases hA:adD n m;case neg=>
  have h3:n.c.ba<m.aR.ba\/(m.aR.ba=n.c.ba/\n.c.fF<m.aR.sq):=by
   by_cases h1:n.c.ba<m.aR.ba
   ·exact .inl h1
   ·exact .inr (Classical.byContradiction λh2=>hA ⟨hc,hn,by omega,λe=>by omega⟩)
  repeat' first|refine aN ?_;intros|refine dq ?_ ?_<;>intros
  all_goals exact sS hA
 have B0:=hA.ba;have wS:=hA.sq;repeat' first|refine aN ?_;intros|refine dq ?_ ?_<;>intros
 all_goals
  refine gY (Q:=λK=> ∀cm:Option bN,cm=((getM m.aR n.bl).map λb=>(n.C b).r.aV)->K (.agg (({ Ck with kind:=5,aR:=m.aR,range:=m.range,jJ:=cm.isSome,aV:=cm.getD .zero } :bZ).l bf bf bf bf bf bf bf bf).toArray)) (λcm iF=>?_) (λK hK=>?_)
  ·refine eT (A4 hr (λ_ h=>h) hi) kQ hs.has λw1 X1 aC=>?_;have s1:=s.since aC;clear hs hr;have hs:=s1.rf;have hr:=s1.v.1;repeat' first|refine ao ?_;intros|(refine q1e hs ?_;intro _ _ _ w X hs ho)
   have s2:=s1.since hs;have jE:=fN.ahH ⟨_,_,_,_,_,_,_,_,rfl,(SH:(alS m (20+n.c.id) cm).at w (bR own 4) bf bf bf bf bf bf bf bf)⟩;refine s2.ap2 1 8 11 (s2.get 1) (s2.get 8) ho.sl jE.Pf (by rw[hk.rm];simp) (λv=>ea { n with vm:=v,rm:=_,ms:=_ }) (λ_ _ _ _ h=>h) (λ_ _ _ _ h=>h) (λ_ _ _ _ mv h=>fN.app h (jE.mv mv)) (λv'=>nU) λv' w' X' aH s' m'=>?_;clear hs hr
   skip
   exact s'.fin λ_ _=>.inr ⟨hA,_,_,by rw[iF],by simp⟩
  ·repeat' refine ao ?_;intros
   refine nh (kt:=34) (et:=124) (kv:=λk:bH=>k.v) (k:=m.aR) (.pointer none) (s.zO 6:) ta kQ kQ (λv b lq rT=>?_) (λWH=>?_)
   ·simp only[wT] at rT;subst rT;obtain⟨hb,_⟩:=hk.byT _ _ lq;obtain⟨hc,o2,o1,H8⟩:=s.vc hb;repeat' refine ao ?_;intros
    exact hK (some (n.C b).r.aV) (by rw[lq];rfl)
   ·repeat' refine ao ?_;intros
    exact hK none (by rw[WH];rfl)
end
end Go.Proofs.YtgfijddlkhkopaaGreat