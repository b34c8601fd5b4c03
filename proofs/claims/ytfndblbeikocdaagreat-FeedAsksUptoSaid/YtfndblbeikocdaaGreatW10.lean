/-
 Part 10 of the proof: what the last text leans on.
-/
import Derived.Test.YtfndblbeikocdaaGreatW9
open Nat renaming le_trans → af, zero_le → aL, mul_one → kL, lt_of_lt_of_le → aN
open BitVec renaming ofInt → cm
open List renaming append_assoc → aC, take_add_one → bg, length_append → ae, mem_of_getElem? → aH, length_map → aA, length_cons → bT, map_cons → bC, length_take → aX, filter_append → ei, length_filter_le → eI, length_nil → bI, mem_cons_of_mem → bK, all_cons → im, take_of_length_le → ba, map_map → dN, map_congr_left → gm, append_nil → fE, foldl_map → sO, map_append → bp, filter_cons → eP, mem_cons_self → dt
open Go.Value renaming string → di, ownBlock → dY
open Function renaming comp → lf
open Go.IntKind renaming signed → ke, wrap → Be, bits → nH
open Bool renaming false_eq_true → bc
open List.cons renaming injEq → xQ
open Option.some renaming injEq → az
open Int renaming fdiv_eq_ediv_of_nonneg → gT
set_option linter.unusedVariables false
set_option linter.unusedSimpArgs false
namespace Go.Proofs.YtfndblbeikocdaaGreat
open Go.Proofs.Tryz renaming prog → pg
open Go.bB
set_option maxRecDepth 100000
set_option maxHeartbeats 1000000
set_option linter.unusedVariables false
set_option linter.unusedSimpArgs false
attribute [local irreducible] un jn aI aT ld1 ek st1 cA cp mE ea mF wh vy gG ga ab ax ay eW eV eU eC eF gE au fin aM aP aF vS y9 gg ix rr wi wj za zc zd fY iy ru wm wo ze zf
def acW (l:List iM):Prop:= ∀h∈l,h.key.size≤2^40
def acX (l:List dB):Prop:= ∀p∈l,(∀k∈p.reads,k.size≤2^40)∧ ∀x∈p.writes,x.key.size≤2^40
structure State.small (s:State):Prop where
 h:Sk s.gF
 p:Sm s.eK
 hk:acW s.gF
 pk:acX s.eK
structure Rec.small (r:Rec):Prop where
 reads:r.reads.length≤2^40
 writes:r.writes.length≤2^40
 rk: ∀k∈r.reads,k.size≤2^40
 wk: ∀x∈r.writes,x.key.size≤2^40
 state:r.state.small
def ju.has (r:ju) (x:Nat):Bool:=(F5 x r.lo||zU x r.lo)&&Cr x r.hi
def ju.key (r:ju) (k:BA):Bool:=r.has (placeOf k)
def State.inside (s:State):Bool:=s.gF.all (fun h=>s.range.key h.key)&&s.eK.all fun p=>p.reads.all s.range.key&&p.writes.all fun x=>s.range.key x.key
def State.may (s:State):Bool:=s.range.may&&s.floor.may&&s.closed.may&&decide (DL s.gF s.eK=0)&&s.inside
theorem Ht {w:World} {X:XS} {s:State} {vh vp:Value} {k:BA} {b:Nat} (h:Cells w X b 0 (s.l vh vp)) (ah:k.size≤2^62):
  Ct pg 162 #[.string k,ptr b 0] w X nX fun v _ _=>v=B (s.range.key k):=by
 intro w0 hk;replace h:=h.mv hk.cE;apply GJ;unfold xR;have hs:=aj.init w0;repeat' first|refine aG ?_;intros|((with_reducible refine dI (XG _ _) ?_ hs.has ?_ ?_);(· kernel_rfl);all_goals (intro _ w X ao;replace hs:=hs.trans ao))|((with_reducible refine gh (EN _ (by first|assumption|omega)) ?_ hs.has ?_);(· kernel_rfl);intro w X ao;replace hs:=hs.trans ao)|((first|(with_reducible refine ai hs ?_)|(with_reducible refine ai (bE.trans hs) ?_));intro wa hk;(simp [ju.key,ju.has, *]))
theorem Cs {w:World} {X:XS} {s:State} {vh vp:Value} (h1:lA w X vh s.gF) (h2:kH w X vp s.eK) (jv:s.small):
  Ct pg 121 #[s.v vh vp] w X nX fun v _ _=>v=B s.may:=by
 intro w0 hk;replace h1:=h1.mv hk.cE;replace h2:=h2.mv hk.cE;have Z5:=h1.len;have Z6:=h2.len;have o1:=h1.one;have o2:=h2.one;apply Lr;unfold Bf;have hs:=aj.init w0;repeat' first|refine aG ?_;intros|refine dj ?_ ?_<;>intros|(with_reducible apply nI);(case hX=>exact hs.has);intro bx w X fi ao bH;have bE:=hs.trans ao;replace hs:=aj.iB ao.has|with_reducible apply dJ|((with_reducible refine dI (jf _) ?_ hs.has ?_ ?_);(· kernel_rfl);all_goals (intro _ w X ao;replace hs:=hs.trans ao))|((with_reducible refine dI (Kw _) ?_ hs.has ?_ ?_);(· kernel_rfl);all_goals (intro _ w X ao;replace hs:=hs.trans ao))|((first|(with_reducible refine ai hs ?_)|(with_reducible refine ai (bE.trans hs) ?_));intro wa hk;(simp [State.may, *]))|(refine ep ((Vt (hl:=s.gF) (pl:=s.eK))  qA qA jv.h jv.p) kQ hs.has ?_;rintro _ wa w X ⟨u,rfl⟩ hle eH ao;have ez:=af hs.kp.size hle;replace hs:=hs.trans ao)
 have Sn: ∀k:BA,k.size≤2^40→ ∀w X,aj _ _ X w→Ct pg 162 #[.string k,ptr bx 0] w X nX fun v _ _=>v=B (s.range.key k):=fun k hk w X hs=>Ht (bH.since hs).cells zQ;have XH:s.may=s.inside:=by simp [State.may, *]
 refine eA (fun n a w X=> ∃i:Nat,a=I (i:Nat)∧n=s.gF.length-i∧i≤s.gF.length∧aj _ _ X w∧
  (s.gF.all (fun h=>s.range.key h.key))=((s.gF.drop i).all fun h=>s.range.key h.key)) s.gF.length ⟨0,rfl,rfl,aL _,hs,by simp⟩ ?_
 rintro n a w X ⟨i,rfl,rfl,hi,hs,hw⟩;rcases dX (s.gF) i with⟨cI,x,hx,hd⟩|⟨dV,hd⟩
 ·rw [hd,im] at hw;have hkx:=jv.hk x (aH hx);repeat' first|refine bQ ?_;intros|((with_reducible apply MD);assumption;(try (case hz=>rfl));(case hr=>exact qR);(try (case hz=>omega));(case ht=>kernel_rfl);(case hs=>kernel_rfl);intros)|((first|(with_reducible refine ai hs ?_)|(with_reducible refine ai (bE.trans hs) ?_));intro wa hk;(simp [XH,State.inside,hw, *]))|(refine eO (Sn x.key hkx _ _ hs) kQ hs.has ?_ ?_<;>(intro _ w X ao;replace hs:=hs.trans ao))|((with_reducible refine en ((s.gF).length-(i+1)) ?_ ?_);omega;exact⟨i+1,by simp,rfl,by omega,hs,by rw [hw];simp [*]⟩)
 ·rw [hd] at hw;repeat' first|refine bQ ?_;intros
  refine Bg (fun n a _ _ w X=> ∃i:Nat,a=I (i:Nat)∧n=s.eK.length-i∧i≤s.eK.length∧aj _ _ X w∧
   (s.eK.all fun p=>p.reads.all s.range.key&&p.writes.all fun x=>s.range.key x.key)=((s.eK.drop i).all fun p=>p.reads.all s.range.key&&p.writes.all fun x=>s.range.key x.key)) s.eK.length ⟨0,rfl,rfl,aL _,hs,by simp⟩ ?_
  rintro n a a2 a3 w X ⟨j,rfl,rfl,hj,hs,vz⟩;rcases dX s.eK j with⟨cI,p,hp,rq⟩|⟨abi,rq⟩
  ·rw [rq,im] at vz;obtain⟨wu,uf⟩:=jv.pk p (aH hp);repeat' first|refine bQ ?_;intros|((with_reducible apply EO);assumption;(try (case hz=>rfl));(case hr=>exact qR);(try (case hz=>omega));(case ht=>kernel_rfl);(case hs=>kernel_rfl);intros)
   have Wx:=Sl.gw ‹Sl w0 (aR w0) 1 _ (p.reads.map S1)›;have hl4:=Sl.gw ‹Sl w0 (aR w0) 4 _ (p.writes.map KV.l)›;refine eA (fun n a w X=> ∃i:Nat,a=I (i:Nat)∧n=p.reads.length-i∧i≤p.reads.length∧aj _ _ X w∧p.reads.all s.range.key=(p.reads.drop i).all s.range.key) p.reads.length ⟨0,rfl,rfl,aL _,hs,by simp⟩ ?_;rintro n a w X ⟨k,rfl,rfl,Wy,hs,F6⟩;rcases dX p.reads k with⟨ajh,y,hy,hd3⟩|⟨aji,hd3⟩
   ·rw [hd3,im] at F6;have hky:=wu y (aH hy);repeat' first|refine bQ ?_;intros|((first|(with_reducible refine ai hs ?_)|(with_reducible refine ai (bE.trans hs) ?_));intro wa hk;(simp [XH,State.inside,vz,F6, *]))|(refine eO (Sn y hky _ _ hs) kQ hs.has ?_ ?_<;>(intro _ w X ao;replace hs:=hs.trans ao))|((with_reducible refine en (p.reads.length-(k+1)) ?_ ?_);omega;exact⟨k+1,by simp,rfl,by omega,hs,by rw [F6];simp [*]⟩)
   ·rw [hd3] at F6;repeat' first|refine bQ ?_;intros
    refine eA (fun n a w X=> ∃i:Nat,a=I (i:Nat)∧n=p.writes.length-i∧i≤p.writes.length∧aj _ _ X w∧(p.writes.all fun x=>s.range.key x.key)=(p.writes.drop i).all fun x=>s.range.key x.key) p.writes.length ⟨0,rfl,rfl,aL _,hs,by simp⟩ ?_;rintro n a w X ⟨m,rfl,rfl,hm,hs,Z7⟩;rcases dX p.writes m with⟨ajj,y,hy,hd4⟩|⟨ajk,hd4⟩
    ·rw [hd4,im] at Z7;have hky:=uf y (aH hy);repeat' first|refine bQ ?_;intros|((first|(with_reducible refine ai hs ?_)|(with_reducible refine ai (bE.trans hs) ?_));intro wa hk;(simp [XH,State.inside,vz,F6,Z7, *]))|(refine eO (Sn y.key hky _ _ hs) kQ hs.has ?_ ?_<;>(intro _ w X ao;replace hs:=hs.trans ao))|((with_reducible refine en (p.writes.length-(m+1)) ?_ ?_);omega;exact⟨m+1,by simp,rfl,by omega,hs,by rw [Z7];simp [*]⟩)
    ·rw [hd4] at Z7;repeat' first|refine bQ ?_;intros|((with_reducible refine zg (s.eK.length-(j+1)) ?_ ?_);omega;exact⟨j+1,by simp,rfl,by omega,hs,by rw [vz,F6,Z7];simp⟩)
  ·rw [rq] at vz;repeat' first|refine bQ ?_;intros|((first|(with_reducible refine ai hs ?_)|(with_reducible refine ai (bE.trans hs) ?_));intro wa hk;(rw [XH,State.inside,hw,vz];rfl))
def I7 (prev st:aO) (t:eh) (l:List KV):Bool:=prev.may&&decide (prev.cmp st<0)&&decide (l≠[])&&decide (dB.err ⟨t,st,[],l⟩=0)
theorem Hu {w:World} {X:XS} {prev st:aO} {t:eh} {l:List KV} {a:Value} (h:Sl w X 4 a (l.map KV.l)) (hb:l.length≤2^40):
  Ct pg 122 #[prev.v,st.v,t.v,a] w X nX fun v _ _=>v=B (I7 prev st t l):=by
 intro w0 hk;replace h:=h.mv hk.cE;obtain⟨b1,n1,c1,rfl⟩:=h.form;apply QT;unfold Ga;have hs:=aj.init w0;repeat' first|refine aG ?_;intros|refine dj ?_ ?_<;>intros|with_reducible apply dJ|((with_reducible refine dI (jf _) ?_ hs.has ?_ ?_);(· kernel_rfl);all_goals (intro _ w X ao;replace hs:=hs.trans ao))|((with_reducible refine gh (iw _ _) ?_ hs.has ?_);(· kernel_rfl);intro w X ao;replace hs:=hs.trans ao)|((first|(with_reducible refine ai hs ?_)|(with_reducible refine ai (bE.trans hs) ?_));intro wa hk;(simp_all [I7]<;>omega))|(refine dH (pS  (p:=⟨t,st,[],l⟩) (Sl.nil _ _ _) qA hb) kQ hs.has ?_;intro w X ao;replace hs:=hs.trans ao)
def Wz (x:Nat):Bool:=decide ((AY x).2=0)&&F5 (AY x).1 0&&Cr (AY x).1 ME
def qd (n:Int):Bool:=decide (n≥1)&&decide (n≤12)
def Rec.lI (r:Rec):Bool:=
 if r.kind=1 then r.state.may
 else if r.kind=2 then decide (r.n≥0)&&decide (r.n≤281474976710656)
 else if r.kind=3 then decide (dB.err ⟨r.b6,r.aw,r.reads,r.writes⟩=0)&&yn r.parts
 else if r.kind=4 then r.b6.may&&r.aw.Of r.ij
 else if r.kind=5 then r.aw.may
 else if r.kind=6 then Wz r.jV&&qd r.n&&r.aw.may
 else if r.kind=7 then qd r.n
 else if r.kind=8 then decide (r.n≥1)
 else if r.kind=9 then r.b6.may&&r.aw.MF&&yn r.parts
 else if r.kind=10 then r.b6.may
 else if r.kind=11 then I7 r.prev r.aw r.b6 r.writes
 else r.aw.may&&I8 r.qL
theorem QU {w:World} {X:XS} {r:Rec} {vr vw vp vq vh vd:Value} (h:r.at w X vr vw vp vq vh vd) (jv:r.small):
  Ct pg 210 #[r.v vr vw vp vq vh vd] w X nX fun v _ _=>v=B r.lI:=by
 intro w0 hk;obtain⟨h1,h2,h3,h4,h5,h6⟩:=h.mv hk.cE;obtain⟨b1,n1,c1,rfl⟩:=h1.form;obtain⟨b2,n2,c2,rfl⟩:=h2.form;apply Og;unfold DN;have hs:=aj.init w0;repeat' first|refine aG ?_;intros|refine dj ?_ ?_<;>intros|with_reducible apply dJ|((with_reducible refine dI (jf _) ?_ hs.has ?_ ?_);(· kernel_rfl);all_goals (intro _ w X ao;replace hs:=hs.trans ao))|((with_reducible refine dI (zJ _) ?_ hs.has ?_ ?_);(· kernel_rfl);all_goals (intro _ w X ao;replace hs:=hs.trans ao))|((with_reducible refine dI (Oh _ _) ?_ hs.has ?_ ?_);(· kernel_rfl);all_goals (intro _ w X ao;replace hs:=hs.trans ao))|((with_reducible refine gh (QV _) ?_ hs.has ?_);(· kernel_rfl);intro w X ao;replace hs:=hs.trans ao)|((with_reducible refine dI (QW _) ?_ hs.has ?_ ?_);(· kernel_rfl);all_goals (intro _ w X ao;replace hs:=hs.trans ao))|((with_reducible refine dI (Gb _) ?_ hs.has ?_ ?_);(· kernel_rfl);all_goals (intro _ w X ao;replace hs:=hs.trans ao))|(refine eO (Cs  (s:=r.state) qA qA jv.state) kQ hs.has ?_ ?_<;>(intro _ w X ao;replace hs:=hs.trans ao))|(refine dH (pS  (p:=⟨r.b6,r.aw,r.reads,r.writes⟩) qA qA jv.writes) kQ hs.has ?_;intro w X ao;replace hs:=hs.trans ao)|(refine eO (Hv  qA) kQ hs.has ?_ ?_<;>(intro _ w X ao;replace hs:=hs.trans ao))|(refine eO (Sp  qA) kQ hs.has ?_ ?_<;>(intro _ w X ao;replace hs:=hs.trans ao))|(refine eO ((Hu (l:=r.writes))  qA jv.writes) kQ hs.has ?_ ?_<;>(intro _ w X ao;replace hs:=hs.trans ao))
 all_goals
  (with_reducible refine ai hs ?_)
  intro wa bD;unfold Rec.lI;repeat (first|rw [if_pos zQ]|rw [if_neg zQ])
  simp_all [Wz,qd,ME]<;>omega
def Rec.err (r:Rec):Int:=if !r.strip.2 then 7 else if !r.strip.1.isZero||!r.lI then 4 else 0
theorem MG {w:World} {X:XS} {r:Rec} {vr vw vp vq vh vd:Value} (h:r.at w X vr vw vp vq vh vd) (jv:r.small):
  Ct pg 166 #[r.v vr vw vp vq vh vd] w X nX fun v _ _=>v=I r.err:=by
 intro w0 hk;have h:=h.mv hk.cE;apply Vu;unfold Kx;have hs:=aj.init w0;refine ep (Oi h) kQ hs.has ?_;rintro v wa w X ⟨Sq,oY,Sr,vq',Ss,St,rfl,fH⟩ hle eH ao;replace hs:=hs.trans ao;have q1:=fH.1.one;have q2:=fH.2.1.one;have q3:=fH.2.2.1.one;have q4:=fH.2.2.2.1.one;have q5:=fH.2.2.2.2.1.one;have q6:=fH.2.2.2.2.2.one;cases hb:r.strip.2<;>
 repeat' first|refine aG ?_;intros|with_reducible apply dJ|((first|(with_reducible refine ai hs ?_)|(with_reducible refine ai (bE.trans hs) ?_));intro wa hk;(simp [Rec.err, *]))|(refine eO (Vv  (r:=r.strip.1) qA) kQ hs.has ?_ ?_<;>(intro _ w X ao;replace hs:=hs.trans ao))|(refine eO ((QU (r:=r))  (h.mv (aj.mv hs)) jv) kQ hs.has ?_ ?_<;>(intro _ w X ao;replace hs:=hs.trans ao))
structure oQ where
 p:dB
 gb:Int
 br:Option Nat
 bw:Option Nat
abbrev oQ.v (x:oQ) (vr vw:Value):Value:=.agg #[I x.p.b6.iP,I x.p.b6.lu,I x.p.b6.sq,I x.p.aw.wall,I x.p.aw.dv,I x.p.aw.node,vr,vw,I x.gb]
def fj (w:World) (A:XS) (v:Value) (x:oQ):Prop:= ∃vr vw,v=x.v vr vw∧Own w A 0 9 1 vr (x.p.reads.map S1)∧Own w A 0 118 4 vw (x.p.writes.map KV.l)∧
 vr.ownBlock=x.br∧vw.ownBlock=x.bw
theorem fj.mv:oZ fj:=fun _ _ _ _ _ _ ⟨vr,vw,h,h1,h2,h3⟩ m=>⟨vr,vw,h,h1.mv m,h2.mv m,h3⟩
def C8 (a b:Option Nat):Prop:= ∀g,a=some g→b≠some g
def oQ.sep (x y:oQ):Prop:=C8 x.br y.br∧C8 x.br y.bw∧C8 x.bw y.br∧C8 x.bw y.bw
structure iC where
 id:Int
 next:Int
 closed:aO
abbrev eQ:=List (eh×oQ)
structure dr (w:World) (X A:XS) (tb mb:Nat) (s:iC) (m:eQ):Prop where
 box:bN w X tb [I s.id,I s.next,I s.closed.wall,I s.closed.dv,I s.closed.node,.map (some mb)] 174
 mj:fL w X A mb (fun k:eh=>k.v) fj m
 sub: ∀k,A k→X k
 off: ∀k,A k→k≠tb∧k≠mb
 ne:tb≠mb
theorem dr.mv {w w':World} {X Y A:XS} {tb mb:Nat} {s:iC} {m:eQ} (h:dr w X A tb mb s m) (hX: ∀k,X k→k<w.heap.size) (v:Mv X w Y w'):dr w' Y A tb mb s m:=by
 have ma:Mv A w A w':=fun k hk hl=>⟨hk,(v k (h.sub k hk) hl).2⟩;exact⟨h.box.mv v,h.mj.mv fj.mv v ma,fun k hk=>(v k (h.sub k hk) (hX k (h.sub k hk))).1,h.off,h.ne⟩
theorem dr.grow {w:World} {X A A':XS} {tb mb:Nat} {s:iC} {m:eQ} (h:dr w X A tb mb s m) (hA: ∀k,A k→A' k) (hs: ∀k,A' k→X k∧k≠tb∧k≠mb):dr w X A' tb mb s m:=
 ⟨h.box,h.mj.mv fj.mv (Mv.refl _ _) (Mv.sub hA),fun k hk=>(hs k hk).1,fun k hk=>(hs k hk).2,h.ne⟩
theorem yL {w:World} {X A:XS} {tb mb:Nat} {s:iC} {m:eQ} (h:dr w X A tb mb s m) (hX: ∀k,X k→k<w.heap.size):
  Ct pg 48 #[ptr tb 0] w X nX fun v _ _=>v=I s.next:=by
 intro w0 hk;replace h:=h.mv hX hk.cE;have fi:=h.box;apply Jx;unfold zV;have hs:=aj.init w0;repeat' first|refine aG ?_;intros|((first|(with_reducible refine ai hs ?_)|(with_reducible refine ai (bE.trans hs) ?_));intro wa hk;rfl)
def Bh (n:Int) (m:eQ):Int:=m.foldl (fun n x=>min n x.2.gb) n
def wx (s:aO) (m:eQ):aO:=m.foldl (fun s x=>if x.2.p.aw.qP.1.cmp s<0 then x.2.p.aw.qP.1 else s) s
theorem MH {w:World} {X:XS} (id next:Int):
  Ct pg 44 #[I id,I next] w X nX fun v wa w'=>
   if id<1∨id>12∨next<1∨next>100000000 then v= .tuple #[.pointer none,I 1]
   else∃tb mb,v= .tuple #[ptr tb 0,I 0]∧dr w' (made wa w') nX tb mb ⟨id,next,.zero⟩ []:=by
 intro w0 hk;apply Vw;unfold Ky;have hs:=aj.init w0;repeat' first|refine aG ?_;intros|refine dj ?_ ?_<;>intros|((first|(with_reducible refine ai hs ?_)|(with_reducible refine ai (bE.trans hs) ?_));intro wa hk;(dsimp only;rw [if_pos zQ]))
 refine sP (kv:=fun k:eh=>k.v) fj nX hs.has fun mb w1 X1 PR ao sd=>?_;have ahx:=sd.x;replace hs:=hs.trans ao;have XI:=hs.kp.size;repeat' first|refine aG ?_;intros|(with_reducible apply nI);(case hX=>exact hs.has);intro bx w X fi ao bH;have bE:=hs.trans ao;replace hs:=aj.iB ao.has
 refine ai (bE.trans hs) ?_;intro wa hk;dsimp only;rw [if_neg zQ];have MI:=(bH.kp hk).lt;have kM:= ‹aj X1 w1 _ _›.kp.trans (hk.less ‹aj X1 w1 _ _›.sub);have aez:=kM.size;exact⟨bx,mb,rfl,bH.own.mv (Mv.one hk bH.1 ⟨by omega,MI⟩),sd.own.mv fj.mv (Mv.one kM ahx.1 ⟨PR,by omega⟩) (fun _ h=>h.elim),fun k hk=>hk.elim,fun k hk=>hk.elim,by omega⟩
theorem XJ (p q s:aO):(if q.cmp (if p.cmp s<0 then p else s)<0 then q else(if p.cmp s<0 then p else s))=(if p.cmp (if q.cmp s<0 then q else s)<0 then p else(if q.cmp s<0 then q else s)):=by
 have key: ∀a b:aO,a.cmp b<0↔(a.wall<b.wall∨a.wall=b.wall∧(a.dv<b.dv∨a.dv=b.dv∧a.node<b.node)):=by
  intro a b;simp only [aO.cmp];grind
 have ext: ∀a b:aO,a.wall=b.wall→a.dv=b.dv→a.node=b.node→a=b:=fun a b h1 h2 h3=>aO.ext h1 h2 h3;by_cases h1:p.cmp s<0<;>by_cases h2:q.cmp s<0<;>simp only [h1,h2,if_true,if_false]
 ·by_cases h3:q.cmp p<0<;>by_cases h4:p.cmp q<0<;>simp only [h3,h4,if_true,if_false]
  ·rw [key] at h3 h4;omega
  ·rw [key] at h3 h4;exact(ext _ _ zQ zQ zQ).symm
 ·by_cases h3:q.cmp p<0
  ·rw [key] at h1 h2 h3;omega
  ·simp only [h3,if_false]
 ·by_cases h3:p.cmp q<0
  ·rw [key] at h1 h2 h3;omega
  ·simp only [h3,if_false]
theorem Su {l:eQ} {k:eh} {a:oQ} (u:Int) (hn:(l.map (·.1)).Nodup) (h:(k,a)∈l):Bh u l=Bh (min u a.gb) (l.filter fun y=>decide (y.1≠k)):=
 MJ (f:=fun n (x:eh×oQ)=>min n x.2.gb) (fun s x y=>by omega) u hn h
theorem Vx {l:eQ} {k:eh} {a:oQ} (u:aO) (hn:(l.map (·.1)).Nodup) (h:(k,a)∈l):
  wx u l=wx (if a.p.aw.qP.1.cmp u<0 then a.p.aw.qP.1 else u) (l.filter fun y=>decide (y.1≠k)):=
 MJ (f:=fun s (x:eh×oQ)=>if x.2.p.aw.qP.1.cmp s<0 then x.2.p.aw.qP.1 else s) (fun s x y=>XJ _ _ _) u hn h
theorem Vy {w:World} {X A:XS} {tb mb:Nat} {s:iC} {m:eQ} (h:dr w X A tb mb s m) (hX: ∀k,X k→k<w.heap.size):
  Ct pg 54 #[ptr tb 0] w X nX fun v _ _=>v=I (Bh s.next m):=by
 intro w0 hk;replace h:=h.mv hX hk.cE;have fi:=h.box;apply Jy;unfold zW;have hs:=aj.init w0;repeat' first|refine aG ?_;intros
 refine I9 (kt:=32) (et:=184) h.mj fj.mv h.sub kQ hs.has fun r w X hr ao se=>?_;replace hs:=hs.trans ao;refine eA (fun n a w X=> ∃(left:eQ) (u:Int),a=I u∧n=left.length∧aj (aR w0) w0 X w∧tJ w X A r mb (fun k:eh=>k.v) fj m left∧Bh s.next m=Bh u left)
  m.length ⟨m,_,rfl,rfl,hs,se,rfl⟩ ?_
 rintro n a w X ⟨left,u,rfl,rfl,hs,se,hw⟩;refine MK se fj.mv (fun k hk=>⟨hs.sub k (h.sub k hk),fun e=>by have:k<w0.heap.size:=h.sub k hk;omega⟩) hs.has (fun e0 w X ao=>?_) fun kx q v gY w1 X1 hc mG C9 he=>?_
 ·replace hs:=hs.trans ao;repeat' first|refine aG ?_;intros|((first|(with_reducible refine ai hs ?_)|(with_reducible refine ai (bE.trans hs) ?_));intro wa hk;(rw [hw,e0];rfl))
 ·have bE:=hs.dK hc fun k hk e=>by have:k<w0.heap.size:=hk;omega
  have Kz: ∀k,A k→X1 k:=fun k hk=>bE.sub k (h.sub k hk);obtain⟨ur,uw,rfl,q1,q2,q3⟩:=mG;have o1:=q1.sl.one;have o2:=q2.sl.one;rw [Su u se.nodup gY] at hw;replace hs:=aj.iB bE.has;repeat' first|refine aG ?_;intros
  refine Ja hs.has he fun w X ao=>?_;replace hs:=hs.trans ao;repeat' first|refine aG ?_;intros
  exact en _ (Jb gY) ⟨_,_,rfl,rfl,bE.trans hs,C9.mv fj.mv (aj.mv hs) (aj.kf hs Kz),hw⟩
theorem Cu {w:World} {X A:XS} {tb mb:Nat} {s:iC} {m:eQ} (h:dr w X A tb mb s m) (hX: ∀k,X k→k<w.heap.size):
  Ct pg 82 #[ptr tb 0] w X nX fun v _ _=>v=(wx s.closed m).v:=by
 intro w0 hk;replace h:=h.mv hX hk.cE;have fi:=h.box;apply DO;unfold vA;have hs:=aj.init w0;repeat' first|refine aG ?_;intros
 refine I9 (kt:=32) (et:=184) h.mj fj.mv h.sub kQ hs.has fun r w X hr ao se=>?_;replace hs:=hs.trans ao;refine eA (fun n a w X=> ∃(left:eQ) (u:aO),a=u.v∧n=left.length∧aj (aR w0) w0 X w∧tJ w X A r mb (fun k:eh=>k.v) fj m left∧wx s.closed m=wx u left)
  m.length ⟨m,_,rfl,rfl,hs,se,rfl⟩ ?_
 rintro n a w X ⟨left,u,rfl,rfl,hs,se,hw⟩;refine MK se fj.mv (fun k hk=>⟨hs.sub k (h.sub k hk),fun e=>by have:k<w0.heap.size:=h.sub k hk;omega⟩) hs.has (fun e0 w X ao=>?_) fun kx q v gY w1 X1 hc mG C9 he=>?_
 ·replace hs:=hs.trans ao;repeat' first|refine aG ?_;intros|((first|(with_reducible refine ai hs ?_)|(with_reducible refine ai (bE.trans hs) ?_));intro wa hk;(rw [hw,e0];rfl))
 ·have bE:=hs.dK hc fun k hk e=>by have:k<w0.heap.size:=hk;omega
  have Kz: ∀k,A k→X1 k:=fun k hk=>bE.sub k (h.sub k hk);obtain⟨ur,uw,rfl,q1,q2,q3⟩:=mG;have o1:=q1.sl.one;have o2:=q2.sl.one;rw [Vx u se.nodup gY] at hw;replace hs:=aj.iB bE.has;repeat' first|refine aG ?_;intros|with_reducible apply dJ
  refine Ja hs.has he fun w X ao=>?_;replace hs:=hs.trans ao;repeat' first|refine aG ?_;intros|refine dj ?_ ?_<;>intros|((with_reducible refine gh (iw _ _) ?_ hs.has ?_);(· kernel_rfl);intro w X ao;replace hs:=hs.trans ao)|((with_reducible refine gh (Vz _) ?_ hs.has ?_);(· kernel_rfl);intro w X ao;replace hs:=hs.trans ao)
  all_goals
   refine en _ (Jb gY) ⟨_,_,?_,rfl,bE.trans hs,C9.mv fj.mv (aj.mv hs) (aj.kf hs Kz),hw⟩
  all_goals simp [*]
def jM (s:iC) (m:eQ) (n:Int) (r:Rec):Int:=
 if n≠s.next∨n>99999999 then 14
 else if r.err≠0 then 4
 else if r.kind=1 then(if r.state.range.id≠s.id then 4 else if r.state.eK.any (fun p=>(getM p.b6 m).isSome)then 9 else 0)
 else if r.kind=3 then(if(getM r.b6 m).isSome then 9 else 0)
 else if r.kind=2∨r.kind=4∨r.kind=5∨r.kind=6∨r.kind=7 then 0 else 4
theorem XK {w:World} {X A:XS} {tb mb:Nat} {s:iC} {m:eQ} {n:Int} {r:Rec} {vr vw vp vq vh vd:Value} (h:dr w X A tb mb s m) (hX: ∀k,X k→k<w.heap.size)
  (ha:r.at w X vr vw vp vq vh vd) (jv:r.small):
  Ct pg 123 #[ptr tb 0,I n,r.v vr vw vp vq vh vd] w X nX fun v _ _=>v=I (jM s m n r):=by
 intro w0 hk;replace h:=h.mv hX hk.cE;replace ha:=ha.mv hk.cE;have fi:=h.box;have h6:=ha.2.2.2.2.2;have hl6:=h6.len;apply Ls;unfold Bi;have hs:=aj.init w0;have zo:Value:=.agg #[I 0,I 0,I 0,I 0,I 0,I 0,.slice none 0 0,.slice none 0 0,I 0];repeat' first|refine aG ?_;intros|refine dj ?_ ?_<;>intros|with_reducible apply dJ|((first|(with_reducible refine ai hs ?_)|(with_reducible refine ai (bE.trans hs) ?_));intro wa hk;(simp [jM, *]<;>omega))|(refine dH ((MG (r:=r))  qA jv) kQ hs.has ?_;intro w X ao;replace hs:=hs.trans ao)
 ·refine eA (fun n a w X=> ∃i:Nat,a=I (i:Nat)∧n=r.state.eK.length-i∧i≤r.state.eK.length∧aj (aR w0) w0 X w∧
   r.state.eK.any (fun p=>(getM p.b6 m).isSome)=(r.state.eK.drop i).any (fun p=>(getM p.b6 m).isSome)) r.state.eK.length ⟨0,rfl,rfl,aL _,hs,by simp⟩ ?_
  rintro n a w X ⟨i,rfl,rfl,hi,hs,hw⟩;rcases dX (r.state.eK) i with⟨cI,x,hx,hd⟩|⟨dV,hd⟩
  ·rw [hd,List.any_cons] at hw;repeat' first|refine bQ ?_;intros|((with_reducible apply EO);assumption;(try (case hz=>rfl));(case hr=>exact qR);(try (case hz=>omega));(case ht=>kernel_rfl);(case hs=>kernel_rfl);intros)
   refine pF (kv:=fun k:eh=>k.v) (k:=x.b6) (kt:=32) (et:=184) (.agg #[I 0,I 0,I 0,I 0,I 0,I 0,.slice none 0 0,.slice none 0 0,I 0]) (h.mv (fun _ h=>h) (aj.mv hs)).mj tg kQ kQ (fun v q hg mG=>?_) fun hg=>?_
   ·obtain⟨ur,uw,rfl,q1,q2,q3⟩:=mG;have o1:=q1.sl.one;have o2:=q2.sl.one;repeat' first|refine aG ?_;intros|((first|(with_reducible refine ai hs ?_)|(with_reducible refine ai (bE.trans hs) ?_));intro wa hk;(simp [jM,hw,hg, *]<;>omega))
   ·repeat' first|refine aG ?_;intros|((with_reducible refine en ((r.state.eK).length-(i+1)) ?_ ?_);omega;exact⟨i+1,by simp,rfl,by omega,hs,by rw [hw,hg];rfl⟩)
  ·rw [hd] at hw;repeat' first|refine bQ ?_;intros|((first|(with_reducible refine ai hs ?_)|(with_reducible refine ai (bE.trans hs) ?_));intro wa hk;(simp [jM,hw, *]<;>omega))
 ·refine pF (kv:=fun k:eh=>k.v) (k:=r.b6) (kt:=32) (et:=184) (.agg #[I 0,I 0,I 0,I 0,I 0,I 0,.slice none 0 0,.slice none 0 0,I 0]) (h.mv (fun _ h=>h) (aj.mv hs)).mj tg kQ kQ (fun v q hg mG=>?_) fun hg=>?_
  ·obtain⟨ur,uw,rfl,q1,q2,q3⟩:=mG;have o1:=q1.sl.one;have o2:=q2.sl.one;repeat' first|refine aG ?_;intros|((first|(with_reducible refine ai hs ?_)|(with_reducible refine ai (bE.trans hs) ?_));intro wa hk;(simp [jM,hg, *]<;>omega))
  ·repeat' first|refine aG ?_;intros|((first|(with_reducible refine ai hs ?_)|(with_reducible refine ai (bE.trans hs) ?_));intro wa hk;(simp [jM,hg, *]<;>omega))
def below (pt:Nat) (k:BA):Bool:=Cr (placeOf k) pt
theorem Sv {w:World} {X:XS} {a:Value} {xs:List KV} {pt:Nat} (ha:Sl w X 4 a (xs.map KV.l)) (hb:xs.length≤2^40) (hkz: ∀x∈xs,x.key.size≤2^40):
  Ct pg 168 #[a,.float .f64 pt] w X nX fun v wa w'=> ∃va vb,v= .tuple #[va,vb]∧
   Own w' (made wa w') wa.heap.size 118 4 va ((xs.filter fun x=>below pt x.key).map KV.l)∧Own w' (made wa w') wa.heap.size 118 4 vb ((xs.filter fun x=>!below pt x.key).map KV.l):=by
 intro w0 hk;replace ha:=ha.mv hk.cE;have gC:=ha.gw;apply QX;unfold Gc;have hs:=aj.init w0;repeat' first|refine aG ?_;intros
 refine Bg (fun n a b c w X=> ∃i:Nat,a=I (i:Nat)∧n=xs.length-i∧i≤xs.length∧aj (aR w0) w0 X w∧
  Own w X w0.heap.size 118 4 b (((xs.take i).filter fun x=>!below pt x.key).map KV.l)∧Own w X w0.heap.size 118 4 c (((xs.take i).filter fun x=>below pt x.key).map KV.l)∧C8 c.ownBlock b.ownBlock)
  xs.length ⟨0,rfl,rfl,aL _,hs,by simpa using Own.nil _ _ _ _ _,by simpa using Own.nil _ _ _ _ _,by intro g hg;cases hg⟩ ?_
 rintro n a b c w X ⟨i,rfl,rfl,hi,hs,DP,Sw,jz⟩;rcases dX (xs) i with⟨cI,x,hx,hd⟩|⟨dV,hd⟩
 ·have hkx:=hkz x (aH hx);have tI:((xs.take i).filter fun x=>!below pt x.key).length≤i:=af (eI _ _) (by simp;omega);have hlc:((xs.take i).filter fun x=>below pt x.key).length≤i:=af (eI _ _) (by simp;omega);repeat' first|refine bQ ?_;intros|refine dj ?_ ?_<;>intros|((with_reducible apply WA);(case own=>first|assumption|exact Own.since (by assumption) (by assumption));(case hs=>assumption);(case h0=>first|exact fun _ h=>h|exact bE.has);(case he=>kernel_rfl);(case hk=>rfl);(case h1=>exact qE);(case hb=>(simp only [aA,aX,ae,bT,bI];omega));(case hl=>(simp only [aA,aX,ae,bT,bI];omega));intro acc w X ao ho hc fH;replace hs:=ao)|with_reducible apply dJ|((with_reducible refine gh (EN _ (by first|assumption|omega)) ?_ hs.has ?_);(· kernel_rfl);intro w X ao;replace hs:=hs.trans ao)
  ·have PS:below pt x.key=true:= ‹Cr (placeOf x.key) pt=true›;have Oj:=DP.since (by assumption);have ahy:=Oj.dK hc (fun g hg KA=>jz g KA hg);refine zg (xs.length-(i+1)) zQ ⟨i+1,by simp,rfl,by omega,hs,?_,?_,?_⟩
   ·rw [bg,hx];simpa [ei,PS] using ahy
   ·rw [bg,hx];simpa [ei,PS] using ho
   ·rcases fH with e|⟨g,e,dV⟩
    ·rw [e];exact jz
    ·intro g' gA fP;rw [e] at gA;cases gA;have:=(Oj.ge fP).2;omega
  ·have PS:below pt x.key=false:= ‹Cr (placeOf x.key) pt=false›;have EP:=Sw.since (by assumption);have XL:=EP.dK hc (fun g hg KA=>jz g hg KA);refine zg (xs.length-(i+1)) zQ ⟨i+1,by simp,rfl,by omega,hs,?_,?_,?_⟩
   ·rw [bg,hx];simpa [ei,PS] using ho
   ·rw [bg,hx];simpa [ei,PS] using XL
   ·rcases fH with e|⟨g,e,dV⟩
    ·rw [e];exact jz
    ·intro g' gA fP;rw [e] at fP;cases fP;have:=(EP.ge gA).2;omega
 ·rw [ba dV] at DP Sw;repeat' first|refine bQ ?_;intros|((first|(with_reducible refine ai hs ?_)|(with_reducible refine ai (bE.trans hs) ?_));intro wa hk;(exact⟨_,_,rfl,(Sw.kp hk).tight,(DP.kp hk).tight⟩))
theorem Jz {w:World} {X A:XS} {a:Value} {xs:List BA} {f:FuncId} {cs:List Value} {p:BA→Bool} (ha:Sl w X 1 a (xs.map S1)) (hX: ∀k,X k→k<w.heap.size) (hA: ∀k,A k→X k) (hf:enters pg f=true)
  (hp: ∀x∈xs,Ct pg f ((.string x)::cs).toArray w A nX fun v _ _=>v=B (p x)):
  Ct pg 211 #[a,.func (.func f) #[] cs.toArray] w X nX fun v _ _=>v=I (idxOf p xs):=by
 intro w0 hk;replace ha:=ha.mv hk.cE;replace hp:=fun x hx=>(hp x hx).kp (hk.less hA);replace hA:=fun k ah=>aN (hX k (hA k ah)) hk.size;have gC:=ha.gw;apply sQ;unfold ml;have hs:=aj.init w0;repeat' first|refine aG ?_;intros
 refine eA (fun n a w X=> ∃i:Nat,a=I (i:Nat)∧n=(xs).length-i∧i≤(xs).length∧aj (aR w0) w0 X w∧(∀(j:Nat) x,j<i→xs[j]? =some x→p x=false)) (xs).length ⟨0,rfl,rfl,aL _,hs,by simp⟩ ?_;rintro n a w X ⟨i,rfl,rfl,hi,hs,hw⟩;rcases dX (xs) i with⟨cI,x,hx,hd⟩|⟨dV,hd⟩
 ·have DQ:=hp x (aH hx);repeat' first|refine bQ ?_;intros|((first|(with_reducible refine ai hs ?_)|(with_reducible refine ai (bE.trans hs) ?_));intro wa hk;(rw [uX hw hx ‹_›]))|((with_reducible refine en ((xs).length-(i+1)) ?_ ?_);omega;exact⟨i+1,by simp,rfl,by omega,hs,fun j y hj hy=>by rcases Nat.lt_succ_iff_lt_or_eq.1 hj with h|h;exact hw j y h hy;subst h;rw [hx] at hy;cases hy;assumption⟩)|(refine eO (DQ.since (hs.less hA)) hf hs.has ?_ ?_<;>(intro _ w X ao;replace hs:=hs.trans ao))
 ·repeat' first|refine bQ ?_;intros|((first|(with_reducible refine ai hs ?_)|(with_reducible refine ai (bE.trans hs) ?_));intro wa hk;(rw [qQ fun j x hj hx=>hw j x zQ hx]))
theorem Da (xs:List BA):(xs.map S1).flatten=xs.map di:=by
 induction xs with
 |nil=>rfl
 |cons x l ih=>simp [ih]
theorem Hw {w:World} {X A:XS} {lo:Nat} {v:Value} {xs:List BA} {f:FuncId} {cs:List Value} {p:BA→Bool} (own:Own w X lo 9 1 v (xs.map S1)) (hX: ∀k,X k→k<w.heap.size)
  (hA: ∀k,A k→X k∧ ¬dP v k) (hf:enters pg f=true)
  (hp: ∀x∈xs,Ct pg f ((.string x)::cs).toArray w A nX fun v _ _=>v=B (p x)):
  Ct pg 169 #[v,.func (.func f) #[] cs.toArray] w X (dP v) fun v' _ w'=>
   Own w' (dP v) lo 9 1 v' ((xs.filter fun x=>!p x).map S1)∧v'.ownBlock=v.ownBlock:=by
 intro w0 hk;have Ws:=hp;replace own:=own.mv hk.cE;replace hp:=fun x hx=>(hp x hx).kp (hk.less fun k h=>(hA k h).1);replace hA: ∀k,A k→out (dP v) w0 k:=fun k ah=>⟨aN (hX k (hA k ah).1) hk.size,(hA k ah).2⟩;have gC:=own.sl.gw;apply sI;unfold lS;have hs:=aj.out (dP v) w0;refine dH (Jz own.sl hs.has (fun k h=>(hA k h).1) hf hp) kQ hs.has fun w X ao=>?_;have wy:=own.since ao;replace hs:=hs.trans ao;repeat' first|refine aG ?_;intros|refine dj ?_ ?_<;>intros
 ·have hi:= ‹idxOf p xs= -1›;refine nB hs fun wa hk=>⟨?_,rfl⟩;have qb: ∀x∈xs,p x=false:=by
   have:=qw p xs;rw [hi] at this;intro x hx;have h2:xs.any p=false:=this.symm;simpa using List.any_eq_false.1 h2 x hx
  have:xs.filter (fun x=>!p x)=xs:=List.filter_eq_self.2 fun x hx=>by simp [qb x hx]
  rw [this];exact⟨wy.1,(wy.kp hk).2.1,fun g hg=>hg⟩
 ·obtain⟨i0,x0,Z8,ML,Sx,Sy⟩:=AH ‹¬idxOf p xs= -1›;have Sz:i0<xs.length:=(List.getElem?_eq_some_iff.1 ML).1;rw [Z8];rcases wy.row with⟨_,he⟩|⟨g,cap,cells,hv,ez,bH,jk,iK,o9,gN⟩
  ·have:xs=[]:=by simpa using he
   subst this;simp at Sz
  rw [aA] at hv jk gN;rw [Da,kL] at gN;rw [kL] at o9;subst hv;have hblk: ∀k,dP (.slice (some ⟨g,0,none⟩) xs.length cap) k↔k=g:=fun k=>⟨fun h=>by simpa [dP,dY] using h.symm,fun h=>by subst h;rfl⟩;clear own wy;repeat' first|refine aG ?_;intros
  refine fT (fun n a b w X=> ∃(j i:Nat) (ys:List BA) (cells:List Value),a=I j∧b=I i∧n=xs.length-j∧i<j∧j≤xs.length∧ys.length=xs.length∧ys.take i=(xs.take j).filter (fun x=>!p x)∧ys.drop j=xs.drop j∧
   aj (out (dP (.slice (some ⟨g,0,none⟩) xs.length cap)) w0) w0 X w∧bN w X g cells 9∧cells.length=cap∧cells.take xs.length=ys.map di)
   (xs.length-(i0+1)) ⟨i0+1,i0,xs,cells,by simp,rfl,rfl,by omega,by omega,rfl,?_,rfl,hs,bH,o9,gN⟩ ?_
  ·rw [bg,ML];simp only [Option.toList_some,ei,eP,Sx,Bool.not_true,bc,if_false,List.filter_nil,fE];exact(List.filter_eq_self.2 fun y hy=>by simp [Sy y hy]).symm
  rintro n a b w X ⟨j,i,ys,cells,rfl,rfl,rfl,y8,hj,wB,sf,Cv,hs,bH,o9,gN⟩;have SA:Own w X lo 9 1 (.slice (some ⟨g,0,none⟩) xs.length cap) (ys.map S1):=
   Own.wC bH ez (by simp) (by simpa using wB) jk iK (by simpa using o9) (by rw [Da,kL];exact gN)
  rcases dX xs j with⟨cI,x,hx,hd⟩|⟨dV,hd⟩
  ·have hy:ys[j]? =some x:=by
    have:(ys.drop j)[0]? =some x:=by rw [Cv,hd];rfl
    simpa using this
   have DQ:=hp x (aH hx);have PT:ys.drop (j+1)=xs.drop (j+1):=by
    have:=congrArg List.tail Cv;simpa using this
   repeat' first|refine bQ ?_;intros|with_reducible apply dJ|(refine eO (DQ.since (hs.less hA)) hf hs.has ?_ ?_<;>(intro _ w X ao;replace hs:=hs.trans ao;clear SA))
   ·refine eR (xs.length-(j+1)) zQ ⟨j+1,i,ys,cells,by simp,rfl,rfl,by omega,by omega,wB,?_,PT,hs,bH.since (by assumption),o9,gN⟩;rw [bg,hx,sf];simp [*]
   ·have Z9:= ‹p x=false›;have kA:=bH.since (by assumption);refine RI (i:=i) rfl zQ kQ kQ ?_;rw [kL];refine qS kA kQ zQ rfl rfl hs.has fun w3 X3 hc iq=>?_;have dZ:=hs.dK hc fun k hk e=>hk.2 ((hblk k).2 e);rw [show(di x).cells.toList=[.string x] from rfl,Lt zQ] at iq;replace hs:=dZ;repeat' first|refine aG ?_;intros
    have ug:i<ys.length:=by omega
    refine eR (xs.length-(j+1)) zQ ⟨j+1,i+1,ys.set i x,cells.set i (.string x),by simp,by simp,rfl,by omega,by omega,by simpa using wB,?_,?_,hs,iq,by simpa using o9,?_⟩
    ·rw [bg (l:=xs),hx,ei,←sf];have:(ys.set i x).take (i+1)=ys.take i++[x]:=by
      rw [bg,List.take_set_of_le (Nat.le_refl _)];simp [ug]
     rw [this];simp [Z9]
    ·rw [List.drop_set_of_lt zQ];exact PT
    ·rw [List.take_set,gN,List.map_set]
  ·have WB:i≤xs.length:=by omega
   have uh:ys.take i=xs.filter fun x=>!p x:=by rw [sf,ba dV]
   repeat' first|refine bQ ?_;intros
   refine SB (k:=1) (i:=i) rfl WB jk kQ kQ ?_;refine adr (e:=9) (z:=.string ⟨#[]⟩) (o:=i) bH kQ kQ rfl zQ hs.has _ (by
    by_cases Sh:cap=i
    ·right;omega
    ·left;rw [if_neg Sh,kL]) fun w3 X3 hc iq=>?_
   have dZ:=hs.dK hc fun k hk e=>hk.2 ((hblk k).2 e);refine zh (i:=i) rfl zQ kQ kQ ?_;refine nB dZ fun wa bD=>⟨?_,rfl⟩;have hlen:(xs.filter fun x=>!p x).length=i:=by rw [←uh,aX];omega
   have:=Own.wC (k:=1) (lo:=lo) (cap:=cap) (n:=i) (rows:=(xs.filter fun x=>!p x).map S1) (iq.kp bD) ez (by intro r hr;obtain⟨y,_,rfl⟩:=List.mem_map.1 hr;rfl) (by simpa using hlen) zQ iK (by
     rw [kL];unfold cH;simp;omega) (by
     rw [Da,kL,←uh];unfold cH;rw [aC,List.take_append_of_le_length (by rw [aX];omega),List.take_take,Nat.min_self];have:=congrArg (List.take i) gN;rw [List.take_take,Nat.min_eq_left WB] at this;rw [this,List.map_take])
   exact⟨this.1,this.2.1,fun g' gA=>gA⟩
theorem Own.loc {w w':World} {X Y:XS} {lo e k:Nat} {v:Value} {rows:List (List Value)} (h:Own w X lo e k v rows) (hm: ∀g,v.ownBlock=some g→Y g∧w'.heap[g]? =w.heap[g]?):Own w' Y lo e k v rows:=
 Own.mv (X:=dP v) ⟨h.1,h.2.1,fun _ hg=>hg⟩ fun g hg _=>hm g hg
theorem fj.loc {w w':World} {A A':XS} {v:Value} {x:oQ} (h:fj w A v x) (hm: ∀g,x.br=some g∨x.bw=some g→A' g∧w'.heap[g]? =w.heap[g]?):fj w' A' v x:=by
 obtain⟨vr,vw,hv,h1,h2,h3,h4⟩:=h;exact⟨vr,vw,hv,Own.loc h1 fun g hg=>hm g (.inl (h3▸hg)),Own.loc h2 fun g hg=>hm g (.inr (h4▸hg)),h3,h4⟩
theorem fj.dP {w:World} {A:XS} {v:Value} {x:oQ} (h:fj w A v x) {g:Nat} (hg:x.br=some g∨x.bw=some g):A g∧g<w.heap.size:=by
 obtain⟨vr,vw,hv,h1,h2,h3,h4⟩:=h;rcases hg with hg|hg
 ·exact⟨h1.2.2 g (h3.trans hg),(h1.ge (h3.trans hg)).2⟩
 ·exact⟨h2.2.2 g (h4.trans hg),(h2.ge (h4.trans hg)).2⟩
theorem fL.all {κ α:Type} [DecidableEq κ] {w:World} {X A:XS} {b:Nat} {kv:κ→Value} {rd:World→XS→Value→α→Prop} {l:List (κ×α)} (h:fL w X A b kv rd l): ∀x∈l,∃v,rd w A v x.2:=by
 obtain⟨es,c,h1,h2⟩:=h;clear h1 c
 induction es generalizing l with
 |nil=>cases l with
  |nil=>intro x hx;cases hx
  |cons y l=>exact h2.elim
 |cons e es ih=>cases l with
  |nil=>exact h2.elim
  |cons y l=>
   intro x hx;rcases List.mem_cons.1 hx with rfl|hx
   ·exact⟨_,h2.2.1⟩
   ·exact ih h2.2.2 x hx
def gd (m:eQ):XS:=fun k=> ∃x∈m,x.2.br=some k∨x.2.bw=some k
structure qT (m:eQ):Prop where
 two: ∀x∈m,C8 x.2.br x.2.bw
 all: ∀x∈m,∀y∈m,y.1≠x.1→x.2.sep y.2
theorem C8.symm {a b:Option Nat} (h:C8 a b):C8 b a:=fun g hb ha=>h g ha hb
theorem oQ.sep.symm {x y:oQ} (h:x.sep y):y.sep x:=⟨h.1.symm,h.2.2.1.symm,h.2.1.symm,h.2.2.2.symm⟩
structure dB.ok (p:dB):Prop where
 r:p.reads.length≤2^40
 w:p.writes.length≤2^40
 rk: ∀k∈p.reads,k.size≤2^40
 wk: ∀x∈p.writes,x.key.size≤2^40
def PU (m:eQ):Prop:= ∀x∈m,x.2.p.ok
abbrev cont (m:eQ):List (eh×dB×Int):=m.map fun x=>(x.1,x.2.p,x.2.gb)
def abj (pt:Nat) (k:BA):Bool:=!(F5 (placeOf k) pt||zU (placeOf k) pt)
def dB.cut (pt:Nat) (p:dB):dB:= { p with reads:=p.reads.filter (abj pt),writes:=p.writes.filter fun x=>below pt x.key }
theorem dB.aaa {pt:Nat} {p:dB} (h:p.ok):(p.cut pt).ok:=
 ⟨af (eI _ _) h.r,af (eI _ _) h.w,fun k hk=>h.rk k (List.mem_filter.1 hk).1,fun x hx=>h.wk x (List.mem_filter.1 hx).1⟩
theorem MM {w:World} {X:XS} {r:Rec} {vr vw vp vq vh vd:Value} {k:BA} {b:Nat} (h:Cells w X b 0 (r.l vr vw vp vq vh vd)) (ah:k.size≤2^62):
  Ct pg 170 #[.string k,ptr b 0] w X nX fun v _ _=>v=B (F5 (placeOf k) r.jV||zU (placeOf k) r.jV):=by
 intro w0 hk;replace h:=h.mv hk.cE;apply DR;unfold vB;have hs:=aj.init w0;repeat' first|refine aG ?_;intros|refine dj ?_ ?_<;>intros|((with_reducible refine gh (EN _ (by first|assumption|omega)) ?_ hs.has ?_);(· kernel_rfl);intro w X ao;replace hs:=hs.trans ao)|((first|(with_reducible refine ai hs ?_)|(with_reducible refine ai (bE.trans hs) ?_));intro wa hk;(simp_all<;>grind))
theorem PV {k:eh} {a:oQ} : ∀{l:eQ},(l.map (·.1)).Nodup→(∃q,getM k l=some q)→cont (bU k a l)=(cont l).map fun e=>if e.1=k then(k,a.p,a.gb)else e
 |[],_,⟨q,h⟩=>by cases h
 |x::l,hn,⟨q,h⟩=>by
  have kd:=List.nodup_cons.1 hn;unfold bU;split
  ·rename_i hx;simp only [cont,bC,hx,if_true,xQ,true_and,dN];refine(gm fun y hy=>?_);have:y.1≠k:=fun e=>kd.1 (List.mem_map.2 ⟨y,hy,e.trans hx.symm⟩);simp [this]
  ·rename_i hx;have:getM k l=some q:=by simpa [getM,hx] using h
   have ih:=PV (a:=a) kd.2 ⟨q,this⟩;simp only [cont,bC,hx,if_false,xQ,true_and] at ih⊢;exact ih
theorem KB {k:eh} {a:oQ} {l:eQ} {y:eh×oQ} (h:y∈l) (hy:y.1≠k):y∈bU k a l:=by
 induction l with
 |nil=>cases h
 |cons x l ih=>
  unfold bU;rcases List.mem_cons.1 h with rfl|h
  ·rw [if_neg hy];exact dt
  ·split
   ·exact bK _ h
   ·exact bK _ (ih h)
theorem ry {k:eh} {a:oQ} : ∀{l:eQ},(k,a)∈bU k a l
 |[]=>by simp [bU]
 |x::l=>by unfold bU;split<;>simp [ry]
theorem ads {m:eQ} {k:eh} {q a:oQ} (hn:(m.map (·.1)).Nodup) (hq:getM k m=some q) (Gd:a.br=q.br) {g:Nat} (h:gd (bU k a m) g):gd m g∨a.bw=some g:=by
 obtain⟨x,hx,hg⟩:=h;rcases fB hn hx with rfl|⟨hx,_⟩
 ·rcases hg with hg|hg
  ·exact .inl ⟨_,lg hq,.inl (by rw [←Gd];exact hg)⟩
  ·exact .inr hg
 ·exact .inl ⟨x,hx,hg⟩
theorem qT.put {m:eQ} {k:eh} {q a:oQ} (h:qT m) (hn:(m.map (·.1)).Nodup) (hq:getM k m=some q) (Gd:a.br=q.br) (hbw: ∀g,a.bw=some g→ ¬gd m g):qT (bU k a m):=by
 have hm:=lg hq;have e1: ∀y∈m,y.1≠k→a.sep y.2:=fun y hy cn=>by
  have hs:=h.all _ hm y hy cn;exact⟨by rw [Gd];exact hs.1,by rw [Gd];exact hs.2.1,fun g hg hb=>hbw g hg ⟨y,hy,.inl hb⟩,fun g hg hb=>hbw g hg ⟨y,hy,.inr hb⟩⟩
 refine⟨fun x hx=>?_,fun x hx y hy cn=>?_⟩
 ·rcases fB hn hx with rfl|⟨hx,_⟩
  ·exact fun g hg hb=>hbw g hb ⟨_,hm,.inl (by rw [←Gd];exact hg)⟩
  ·exact h.two x hx
 ·rcases fB hn hx with rfl|⟨hx,hxk⟩<;>rcases fB hn hy with rfl|⟨hy,hyk⟩
  ·exact absurd rfl cn
  ·exact e1 y hy hyk
  ·exact(e1 x hx hxk).symm
  ·exact h.all x hx y hy cn
theorem PU.put {m:eQ} {k:eh} {a:oQ} (h:PU m) (hn:(m.map (·.1)).Nodup) (ha:a.p.ok):PU (bU k a m):=fun x hx=>by
 rcases fB hn hx with rfl|⟨hx,_⟩
 ·exact ha
 ·exact h x hx
def qx (tb mb:Nat) (m:eQ):XS:=fun k=>k=tb∨k=mb∨gd m k
theorem dr.tight {w:World} {X:XS} {tb mb:Nat} {s:iC} {m:eQ} (h:dr w X (gd m) tb mb s m):dr w (qx tb mb m) (gd m) tb mb s m:=by
 refine⟨⟨.inl rfl,h.box.2⟩,h.mj.own.mv fj.mv (fun k hk _=>⟨.inr (.inl hk),rfl⟩) (Mv.refl _ _),fun k hk=>.inr (.inr hk),h.off,h.ne⟩
theorem dr.wide {w:World} {X Y A:XS} {tb mb:Nat} {s:iC} {m:eQ} (h:dr w X A tb mb s m) (hs: ∀k,X k→Y k):dr w Y A tb mb s m:=
 ⟨h.box.mv (Mv.sub hs),h.mj.mv fj.mv (Mv.sub hs) (Mv.refl _ _),fun k hk=>hs k (h.sub k hk),h.off,h.ne⟩
theorem dr.fp {w:World} {X A:XS} {tb mb:Nat} {s:iC} {m:eQ} (h:dr w X A tb mb s m): ∀k,gd m k→A k∧k<w.heap.size:=fun k ⟨x,hx,hg⟩=>
 let⟨_,hv⟩:=fL.all h.mj x hx
 hv.dP hg
theorem dr.exact {w:World} {X A:XS} {tb mb:Nat} {s:iC} {m:eQ} (h:dr w X A tb mb s m):dr w X (gd m) tb mb s m:=by
 refine⟨h.box,?_,fun k hk=>h.sub k (h.fp k hk).1,fun k hk=>h.off k (h.fp k hk).1,h.ne⟩;obtain⟨es,c,h1,h2⟩:=h.mj;refine⟨es,c,h1,?_⟩;have key: ∀{es:List (iD eh)} {l:eQ},(∀x∈l,x∈m)→jw w A fj es l→jw w (gd m) fj es l:=by
  intro es
  induction es with
  |nil=>intro l _ hr;cases l<;>first|trivial|exact hr.elim
  |cons e es ih=>
   intro l hl hr;cases l with
   |nil=>exact hr.elim
   |cons y l=>exact⟨hr.1,fj.loc hr.2.1 fun g hg=>⟨⟨y,hl y (by simp),hg⟩,rfl⟩,ih (fun z hz=>hl z (by simp [hz])) hr.2.2⟩
 exact key (fun _ h=>h) h2
theorem dr.head {w w':World} {X X' A:XS} {tb mb:Nat} {s s':iC} {m:eQ} (h:dr w X A tb mb s m) (c:eo (fun k=>k=tb) X w X' w')
  (hr:bN w' X' tb [I s'.id,I s'.next,I s'.closed.wall,I s'.closed.dv,I s'.closed.node,.map (some mb)] 174):dr w' X' A tb mb s' m:=by
 refine⟨hr,h.mj.own.mv fj.mv (fun k hk _=>?_) (fun k hk _=>?_),fun k hk=>c.sub k (h.sub k hk),h.off,h.ne⟩
 ·subst hk;exact⟨c.sub _ h.mj.x.1,c.block _ h.mj.x.1 (Ne.symm h.ne)⟩
 ·exact⟨hk,c.block k (h.sub k hk) (h.off k hk).1⟩
theorem dr.body {w w':World} {X X' A A':XS} {tb mb:Nat} {s:iC} {m m':eQ} (h:dr w X A tb mb s m) (c:eo (fun k=>k=mb) X w X' w')
  (hm:fL w' X' A' mb (fun k:eh=>k.v) fj m') (hA: ∀k,A' k→X' k∧k≠tb∧k≠mb):dr w' X' A' tb mb s m':=
 ⟨⟨c.sub _ h.box.1,by rw [c.block _ h.box.1 h.ne];exact h.box.2⟩,hm,fun k hk=>(hA k hk).1,fun k hk=>(hA k hk).2,h.ne⟩
def Db (pt:Nat) (e:eh×dB×Int):eh×dB×Int:=(e.1,e.2.1.cut pt,e.2.2)
theorem Hx (m:eQ):(cont m).map (·.1)=m.map (·.1):=by simp [cont]
theorem aab {m mi:eQ} {ks:List eh} {i:Nat} {x:eh} {q a:oQ} {pt:Nat} (hc:cont mi=(cont m).map fun e=>if e.1∈ks.take i then Db pt e else e) (hk:ks.Nodup) (hx:ks[i]? =some x)
  (hn:(mi.map (·.1)).Nodup) (hq:getM x mi=some q) (h1:a.p=q.p.cut pt) (h2:a.gb=q.gb):cont (bU x a mi)=(cont m).map fun e=>if e.1∈ks.take (i+1)then Db pt e else e:=by
 rw [PV hn ⟨q,hq⟩];have Cw:(cont mi).map (fun e=>if e.1=x then(x,a.p,a.gb)else e)=(cont mi).map (fun e=>if e.1=x then Db pt e else e):=by
  simp only [cont,dN];refine gm fun y hy=>?_;simp only [lf];by_cases h:y.1=x
  ·have:getM x mi=some y.2:=nk hn (by rw [←h];exact hy);rw [hq] at this;cases this;simp [h,Db,h1,h2]
  ·simp [h]
 rw [Cw,hc,dN];refine gm fun e _=>?_;have gN:ks.take (i+1)=ks.take i++[x]:=by rw [bg,hx];rfl
 have nJ:x ∉ ks.take i:=by
  have:=hk.sublist (List.take_sublist (i+1) ks);rw [gN,List.nodup_append] at this;intro gY;exact this.2.2 x gY x (by simp) rfl
 simp only [lf,gN,List.mem_append,List.mem_singleton];by_cases h1:e.1∈ks.take i
 ·have:e.1≠x:=fun e'=>nJ (e'▸h1);simp [h1,Db,this]
 ·by_cases h2:e.1=x<;>simp [h1,h2,nJ]
theorem aac {left:eQ} {k:eh} {a:oQ} (hn:(left.map (·.1)).Nodup) (h:(k,a)∈left):(left.map (·.1)).Perm (k::(left.filter fun y=>decide (y.1≠k)).map (·.1)):=by
 have h1:k∈left.map (·.1):=List.mem_map.2 ⟨_,h,rfl⟩;have h2:(left.filter fun y=>decide (y.1≠k)).map (·.1)=(left.map (·.1)).filter fun y=>decide (y≠k):=by rw [List.filter_map];rfl
 have h3:=List.perm_cons_erase h1;rw [hn.erase_eq_filter] at h3;rw [h2];refine h3.trans (List.Perm.cons _ ?_);rw [show(left.map (·.1)).filter (fun y=>y !=k)=(left.map (·.1)).filter (fun y=>decide (y≠k))from List.filter_congr fun y _=>by simp [bne,Bool.beq_eq_decide_eq]]
theorem tJ.own {w:World} {X A:XS} {r b:Nat} {l left:eQ} {kv:eh→Value} {rd:World→XS→Value→oQ→Prop} (h:tJ w X A r b kv rd l left):tJ w (fun k=>k=r∨k=b) A r b kv rd l left:=
 let⟨es,c,DS,h1,h2,h3,h4⟩:=h
 ⟨es,c,DS,⟨⟨.inr rfl,h1.1.2⟩,.inl rfl,h1.2.2⟩,h2,h3,h4⟩
theorem tJ.x {w:World} {X A:XS} {r b:Nat} {l left:eQ} {kv:eh→Value} {rd:World→XS→Value→oQ→Prop} (h:tJ w X A r b kv rd l left):X r∧X b∧r<w.heap.size∧r≠b:=by
 obtain⟨es,c,DS,h1,_⟩:=h;obtain⟨s,hs,_⟩:=h1.2.2.2;exact⟨h1.2.1,h1.1.1,(Array.getElem?_eq_some_iff.1 hs).1,h1.2.2.1⟩
abbrev T3 (k:eh):List Value:=[I k.iP,I k.lu,I k.sq]
abbrev Told.v (kind:Int) (gH gb:Int) (t:eh) (s:aO) (vw:Value) (child:Int) (st:aO):Value:=
 .agg #[I kind,I gH,I gb,I t.iP,I t.lu,I t.sq,I s.wall,I s.dv,I s.node,vw,I child,I st.wall,I st.dv,I st.node]
theorem SC {w:World} {X:XS} {tb mb:Nat} {s:iC} {m:eQ} {r:Rec} {vr vw vp vq vh vd:Value} (h:dr w X (gd m) tb mb s m) (hX: ∀k,X k→k<w.heap.size)
  (ha:r.at w X vr vw vp vq vh vd) (jz:qT m) (mH:PU m) (WC:m.length≤2^40):
  Ct pg 125 #[ptr tb 0,r.v vr vw vp vq vh vd] w X (qx tb mb m) fun v wa w'=> ∃m',cont m'=(cont m).map (Db r.jV)∧qT m'∧(∀k,gd m' k→gd m k∨wa.heap.size≤k)∧
   dr w' (qx tb mb m') (gd m') tb mb { s with closed:=s.closed.later r.aw } m'∧
   v=Told.v 2 0 0 ⟨0,0,0⟩ .zero (.slice none 0 0) r.n (wx (s.closed.later r.aw) m'):=by
 intro w0 hk;replace h:=h.mv hX hk.cE;replace ha:=ha.mv hk.cE;have h1:=ha.1;have h2:=ha.2.1;have h3:=ha.2.2.1;have h4:=ha.2.2.2.1;have h5:=ha.2.2.2.2.1;have h6:=ha.2.2.2.2.2;have o1:=h1.one;have o2:=h2.one;have o3:=h3.one;have o4:=h4.one;have o5:=h5.one;have o6:=h6.one;have hF: ∀k,qx tb mb m k→k<w0.heap.size:=fun k ah=>by
  rcases ah with h'|h'|h'
  ·rw [h'];exact h.box.lt
  ·rw [h'];exact h.mj.x.2
  ·exact(h.fp k h').2
 apply Hy;unfold zi;have hs:=aj.out (qx tb mb m) w0;refine nI hs.has fun bx w X fi ao bH=>?_;replace hs:=hs.trans ao;have hT:=h.mv (fun k h=>h) ao.mv;have Bj:=ao.has;have kN:=hT.box;clear h hk h1 h2 h3 h4 h5 h6 ha ao;repeat' first|refine aG ?_;intros|((with_reducible refine gh (ui _ _) ?_ hs.has ?_);(· kernel_rfl);intro w X ao;replace hs:=hs.trans ao)
 rename_i e3 c3;subst e3;clear c3;rename_i ao _ ;rename_i w1 X1 _ ;rename_i _ c2 ;clear c2;replace hT:=hT.mv Bj ao.mv;replace bH:=bH.since ao;refine qS hT.box kQ (by simp) rfl rfl hs.has fun w2 X2 hc kA=>?_;have cq:=hT.head (s':= { s with closed:=s.closed.later r.aw }) hc kA;have XM:bN w2 X2 bx _ _:=bH.own.mv (hc.mv fun k hk=>⟨by rw [hk];exact bH.1,by have:=hF tb (.inl rfl);omega⟩);have Cx:=hs.dK hc fun k hk e=>hk.2 (.inl e);have kN:=cq.box;clear hs ao hT bH kA;have bE:=aj.iB Cx.has;have hs:=bE;repeat' first|refine aG ?_;intros
 refine I9 (kt:=32) (et:=184) cq.mj fj.mv cq.sub kQ hs.has fun ri w X hr ao se=>?_;have Cy:List.Perm ([]++m.map (·.1)) (m.map (·.1)):=List.Perm.refl _;refine eA (fun n a w X=> ∃(left:eQ) (ks:List eh),n=left.length∧aj X2 w2 X w∧tJ w X (gd m) ri mb (fun k:eh=>k.v) fj m left∧
  Own w X w2.heap.size 32 3 a (ks.map T3)∧(∀g,a.ownBlock=some g→g≠ri)∧List.Perm (ks++left.map (·.1)) (m.map (·.1))∧ks.length≤m.length) m.length
  ⟨m,[],rfl,ao,se,Own.nil _ _ _ _ _,(by intro g hg;simp [dY] at hg),Cy,aL _⟩ ?_
 clear ao se;rintro n a w X ⟨left,ks,rfl,hs,se,DP,cn,Cy,KC⟩;have hA: ∀k,gd m k→X k∧k≠ri:=fun k hk=>⟨hs.sub k (cq.sub k hk),fun e=>by have:=(cq.fp k hk).2;omega⟩;refine MK se fj.mv hA hs.has (fun e0 w X ao=>?_) fun kx q v gY w1 X1 hc mG C9 he=>?_
 ·subst e0;replace DP:=DP.since ao;replace hs:=hs.trans ao;rw [List.map_nil,fE] at Cy;have ahz:ks.Nodup:=Cy.nodup_iff.2 cq.mj.nodup;have ajl:=Cx.kp.size;have SD:=Cx.trans hs;have hsY:aj (out (qx tb mb m) w0) w0 (fun k=>X k∧ ¬qx tb mb m k) w:=⟨SD.kp,fun k hk=>⟨SD.sub k hk,hk.2⟩,fun k hk=>SD.has k hk.1⟩;have hTB:=cq.mv bE.has hs.mv;have acY:bN w (fun k=>X k∧ ¬qx tb mb m k) bx _ _:=⟨⟨(XM.since hs).1,fun h=>by have:=hF _ h;omega⟩,(XM.since hs).2⟩;have aeA:Own w (fun k=>X k∧ ¬qx tb mb m k) w2.heap.size 32 3 a (ks.map T3):=
   ⟨DP.1,DP.2.1,fun g hg=>⟨DP.2.2 g hg,fun h=>by have:=hF _ h;have:=(DP.ge hg).1;omega⟩⟩
  have lD:=aeA.sl;have ajm:=acY.lt;have gY: ∀x∈ks,x∈m.map (·.1):=fun x hx=>Cy.mem_iff.1 hx;have qb: ∀x∈m.map (·.1),x∈ks:=fun x hx=>Cy.mem_iff.2 hx;have WD:aj (fun k=>X k∧ ¬qx tb mb m k) w X w:=⟨Kp.refl _ _,fun k hk=>hk.1,SD.has⟩;clear DP aeA hs ao SD cq XM se hA Cy;have ajn:ks.length≤2^40:=by omega
  repeat' first|refine aG ?_;intros
  refine eA (fun n a w' X'=> ∃(i:Nat) (mi:eQ),a=I (i:Nat)∧n=ks.length-i∧i≤ks.length∧aj (fun k=>X k∧ ¬qx tb mb m k) w X' w'∧dr w' X' (gd mi) tb mb { s with closed:=s.closed.later r.aw } mi∧
   qT mi∧PU mi∧cont mi=(cont m).map (fun e=>if e.1∈ks.take i then Db r.jV e else e)∧(∀k,gd mi k→gd m k∨w.heap.size≤k)) ks.length
   ⟨0,m,rfl,rfl,aL _,WD,hTB,jz,mH,by simp,fun k hk=>.inl hk⟩ ?_
  clear hTB WD jz mH;rintro n a w X ⟨i,mi,rfl,rfl,hi,hs,hT,jz,mH,sg,mT⟩;have kN:=hT.box;rcases dX ks i with⟨cI,x,hx,hd⟩|⟨dV,hd⟩
  ·repeat' first|refine bQ ?_;intros
   have KD: ∃q,getM x mi=some q:=by
    have h1:x∈mi.map (·.1):=by
     rw [←Hx,sg,dN];have h2:=gY x (aH hx);rw [←Hx] at h2;obtain⟨e,he,rfl⟩:=List.mem_map.1 h2;refine List.mem_map.2 ⟨e,he,?_⟩;simp only [lf];split<;>rfl
    obtain⟨y,hy,rfl⟩:=List.mem_map.1 h1;exact⟨y.2,nk hT.mj.nodup hy⟩
   refine np (kv:=fun k:eh=>k.v) (k:=x) (kt:=32) (et:=184) (.agg #[I 0,I 0,I 0,I 0,I 0,I 0,.slice none 0 0,.slice none 0 0,I 0]) hT.mj tg kQ kQ (fun v q hg mG=>?_) fun hg=>?_
   rotate_left
   ·obtain⟨q,hq⟩:=KD;rw [hq] at hg;cases hg
   obtain⟨ur,uw,rfl,q1,q2,q3⟩:=mG;have o1:=q1.sl.one;have o2:=q2.sl.one;have hqo:=mH _ (lg hg);repeat' first|refine aG ?_;intros
   refine ep (Sv (pt:=r.jV) (Sl.mv q2.sl (Mv.sub hT.sub)) hqo.w hqo.wk) kQ hs.has ?_;rintro v wa w1 X1 ⟨va,vb,rfl,kD,iH⟩ hle eH ao;have dq:=hT.mv hs.has ao.mv;have q1':=q1.mv (ao.kf hT.sub);have hva:=kD.sl.one;have hvb:=iH.sl.one;have ez:=hs.kp.size;replace hs:=hs.trans ao;have sh:=acY.since hs;repeat' first|refine aG ?_;intros
   have Gd: ∀g,dP ur g→gd mi g:=fun g gA=>⟨_,lg hg,.inl (q3.1▸gA)⟩;have aeB: ∀g,gd mi g→g≠bx:=fun g gA e=>by
    rcases mT g gA with h|h
    ·have:=hF g (.inr (.inr h));omega
    ·omega
   refine Ol (Hw (A:=fun k=>k=bx) (cs:=[ptr bx 0]) (p:=fun k=>F5 (placeOf k) r.jV||zU (placeOf k) r.jV) (q1'.mono dq.sub) hs.has (fun k hk=>⟨by rw [hk];exact sh.1,fun h=>aeB k (Gd k h) hk⟩) kQ
    (fun y hy=>MM (bN.cells sh.own) (af (hqo.rk y hy) (by decide)))) kQ hs.has (fun k hk=>dq.sub k (Gd k hk)) ?_
   rintro va' wb w2' X2' ⟨hor,hbe⟩ oU lx WE jN;have ajo:=hor.sl.one;have abk: ∀g,gd mi g→g≠tb∧g≠mb:=dq.off;have acZ:bN w2' X2' tb _ _:=dq.box.own.mv (jN.mv fun k hk=>⟨by rw [hk];exact dq.box.1,fun h=>(abk k (Gd k h)).1 hk⟩);have si:=hs.dK jN fun k hk e=>by
    rcases mT k (Gd k e)with h|h
    ·exact hk.2 (.inr (.inr h))
    ·have:=hsY.has k hk;omega
   clear kN;replace hs:=si;clear si;repeat' first|refine aG ?_;intros
   let a:oQ:= { p:=q.p.cut r.jV,gb:=q.gb,br:=q.br,bw:=va.ownBlock }
   have XN:=hT.mj.nodup;have zj: ∀g,va.ownBlock=some g→wa.heap.size≤g∧g<w1.heap.size:=fun g gA=>kD.ge gA;have nK: ∀g,va.ownBlock=some g→ ¬gd mi g:=fun g gA h=>by have:=(hT.fp g h).2;have:=(zj g gA).1;omega
   have aeC: ∀g,gd (bU x a mi) g→gd mi g∨va.ownBlock=some g:=fun g h=>ads (a:=a) XN hg rfl h;have zX: ∀g,gd (bU x a mi) g→X2' g∧g≠tb∧g≠mb:=fun g h=>by
    rcases aeC g h with h|h
    ·exact⟨jN.sub g (dq.sub g h),abk g h⟩
    ·have h3:=zj g h;have:=hT.box.lt;have:=hT.mj.x.2;exact⟨jN.sub g (eH g h3),by omega,by omega⟩
   have j5: ∀g,va.ownBlock=some g→ ¬dP ur g:=fun g gA h=>nK g gA (Gd g h);have Bl:RJ w2' X2' (gd (bU x a mi)) mb (fun k:eh=>k.v) fj x mi:=fL.toX dq.mj (fun k hk _=>by
     have hk:k=mb:=hk;subst hk;exact⟨jN.sub _ dq.mj.x.1,jN.block _ dq.mj.x.1 fun h=>(abk _ (Gd _ h)).2 rfl⟩) fun y v hy cn mG=>fj.loc mG fun g gA=>
    ⟨⟨y,KB hy cn,gA⟩,jN.block g (dq.sub g ⟨y,hy,gA⟩) fun h=>by
     have PO:=jz.all _ (lg hg) y hy cn;have hbg:q.br=some g:=q3.1▸h;rcases gA with gA|gA
     ·exact PO.1 g hbg gA
     ·exact PO.2.1 g hbg gA⟩
   have ahA:fj w2' (gd (bU x a mi)) (a.v va' va) a:=⟨va',va,rfl,hor.mono fun g gA=>⟨_,ry,.inl (q3.1▸gA)⟩,
    Own.loc (kD.low (aL _)) fun g gA=>⟨⟨_,ry,.inr gA⟩,jN.block g (eH g (zj g gA)) (j5 g gA)⟩,hbe.trans q3.1,rfl⟩
   refine PW (κ:=eh) (k:=x) (a:=a) (kv:=fun k:eh=>k.v) (kt:=32) (et:=184) Bl fj.mv ahA (fun k hk=>⟨(zX k hk).1,(zX k hk).2.2⟩) tg kQ hs.has fun w4 X4 sj hm4=>?_;have fk:dr w4 X4 (gd (bU x a mi)) tb mb { s with closed:=s.closed.later r.aw } (bU x a mi):=
    ⟨acZ.own.mv (sj.mv fun k hk=>⟨by rw [hk];exact acZ.1,by rw [hk];exact hT.ne⟩),hm4,fun k hk=>sj.sub k (zX k hk).1,fun k hk=>(zX k hk).2,hT.ne⟩
   replace hs:=hs.dK sj fun k hk e=>hk.2 (.inr (.inl e));repeat' first|refine aG ?_;intros
   refine en (ks.length-(i+1)) zQ ⟨i+1,bU x a mi,by simp,rfl,by omega,hs,fk,qT.put jz XN hg rfl nK,PU.put mH XN (dB.aaa hqo),aab sg ahz hx XN hg rfl rfl,fun k hk=>?_⟩;rcases aeC k hk with h|h
   ·exact mT k h
   ·right;have:=(zj k h).1;omega
  ·rw [ba dV] at sg;repeat' first|refine bQ ?_;intros
   refine dH (Cu hT hs.has) kQ hs.has fun w X dF=>?_;have cq:=hT.mv hs.has dF.mv;replace hs:=hs.trans dF;repeat' first|refine aG ?_;intros
   refine nB (hsY.trans hs) fun wa hk=>⟨mi,?_,jz,fun k hk=>(mT k hk).imp id fun h=>af hsY.kp.size h,dr.tight (cq.mv hs.has hk.mv),rfl⟩;exact sg.trans (gm fun e he=>if_pos (qb _ (by rw [←Hx];exact List.mem_map.2 ⟨e,he,rfl⟩)))
 ·have Oj:=DP.dK hc fun g hg e=>cn g hg e;replace hs:=hs.dK hc fun k hk e=>by have:=bE.has k hk;omega
  obtain⟨ur,uw,rfl,q1,q2,q3⟩:=mG;have o1:=q1.sl.one;have o2:=q2.sl.one;have ahB:=aac se.nodup gY;have hlk:(ks++left.map (·.1)).length=m.length:=by rw [Cy.length_eq,aA]
  have cI:=Jb gY;rw [ae,aA] at hlk;have Kz: ∀k,gd m k→X1 k:=fun k hk=>hs.sub k (cq.sub k hk);clear DP hc;repeat' first|refine aG ?_;intros|((with_reducible apply WA);(case own=>first|assumption|exact Own.since (by assumption) (by assumption));(case hs=>assumption);(case h0=>first|exact fun _ h=>h|exact bE.has);(case he=>kernel_rfl);(case hk=>rfl);(case h1=>exact qE);(case hb=>(simp only [aA,aX,ae,bT,bI];omega));(case hl=>(simp only [aA,aX,ae,bT,bI];omega));intro acc w X ao ho hc fH;replace hs:=ao)|(refine Ja hs.has he fun w X dF=>?_;replace hs:=hs.trans dF;replace Oj:=Oj.since dF;replace C9:=C9.mv fj.mv dF.mv (dF.kf Kz))
  have hix:=tJ.x C9;have ajp:=cq.mj.x.2;have nb: ∀k,dP a k→w2.heap.size≤k∧k≠ri:=fun k hk=>⟨(Oj.ge hk).1,cn k hk⟩;have hA2: ∀k,gd m k→k<w2.heap.size:=fun k hk=>(cq.fp k hk).2;have ahC:=tJ.mv (tJ.own C9) fj.mv (hc.mv fun k hk=>by
   rcases hk with rfl|rfl
   ·exact⟨hix.1,fun h=>(nb _ h).2 rfl⟩
   ·exact⟨hix.2.1,fun h=>by have:=(nb _ h).1;omega⟩) (fun k hk _=>⟨hk,hc.block k (dF.sub k (Kz k hk)) fun h=>by have:=(nb _ h).1;have:=hA2 k hk;omega⟩)
  refine en _ cI ⟨_,ks++[kx],rfl,hs,ahC,by simpa using ho,?_,?_,?_⟩
  ·intro g hg;rcases fH with e|⟨g',e,dV⟩
   ·exact cn g (e▸hg)
   ·rw [e] at hg;cases hg;have:=hix.2.2.1;omega
  ·rw [aC];exact(List.Perm.append_left ks ahB.symm).trans Cy
  ·simp;omega
abbrev mm:=List (eh×dB×Int)
theorem Cz (k:eh): ∀m:eQ,getM k (cont m)=(getM k m).map fun x=>(x.p,x.gb)
 |[]=>rfl
 |x::l=>by
  have ih:=Cz k l;unfold getM at ih⊢;simp only [cont,bC,List.find?_cons] at ih⊢;by_cases h:x.1=k
  ·simp [h]
  ·simp only [h,decide_false,bc,if_false];exact ih
theorem KE (k:eh) (a:oQ): ∀m:eQ,cont (bU k a m)=bU k (a.p,a.gb) (cont m)
 |[]=>rfl
 |x::l=>by
  have ih:=KE k a l;simp only [cont,bC,bU] at ih⊢;split
  ·rfl
  ·simp only [bC,ih]
theorem CA (k:eh): ∀m:eQ,cont (jm k m)=jm k (cont m)
 |[]=>rfl
 |x::l=>by
  have ih:=CA k l;simp only [cont,jm,bC,eP] at ih⊢;split
  ·simp only [bC,ih]
  ·exact ih
def Dc (s:aO) (c:mm):aO:=c.foldl (fun s x=>if x.2.1.aw.qP.1.cmp s<0 then x.2.1.aw.qP.1 else s) s
theorem MN (s:aO) (m:eQ):wx s m=Dc s (cont m):=by simp [wx,Dc,cont,sO]
theorem abl (s:aO) (pt:Nat) (c:mm):Dc s (c.map (Db pt))=Dc s c:=by simp only [Dc,sO,Db,dB.cut];rfl
def Jc (n:Int) (c:mm):Int:=c.foldl (fun n x=>min n x.2.2) n
theorem VA (n:Int) (m:eQ):Bh n m=Jc n (cont m):=by simp [Bh,Jc,cont,sO]
structure pT where
 kind:Int
 gH:Int
 gb:Int
 b6:eh
 aw:aO
 writes:List KV
 child:Int
 st:aO
def pT.none:pT:=⟨0,0,0,⟨0,0,0⟩,.zero,[],0,.zero⟩
abbrev pT.v (t:pT) (vw:Value):Value:=Told.v t.kind t.gH t.gb t.b6 t.aw vw t.child t.st
def ic (s:iC) (r:Rec):iC:=
 ⟨s.id,s.next+1,if r.kind=1 then s.closed.later r.state.closed else if r.kind=5∨r.kind=6 then s.closed.later r.aw else s.closed⟩
def lZ (n:Int) (r:Rec) (c:mm):mm:=
 if r.kind=1 then r.state.eK.foldl (fun c p=>bU p.b6 (p,n) c) c
 else if r.kind=3 then bU r.b6 (⟨r.b6,r.aw,r.reads,r.writes⟩,n) c
 else if r.kind=4 then jm r.b6 c
 else if r.kind=6 then c.map (Db r.jV)else c
def eu (s:iC) (r:Rec) (c:mm):pT:=
 if r.kind=4 then(match getM r.b6 c with
  |some x=>if r.ij=true∧0<x.1.writes.length then⟨1,s.id,x.2,r.b6,r.aw,x.1.writes,0,.zero⟩else .none
  |none=>.none)
 else if r.kind=6 then⟨2,0,0,⟨0,0,0⟩,.zero,[],r.n,Dc (s.closed.later r.aw) c⟩else .none
section
variable {w : World} {X : XS} {tb mb : Nat} {s : iC} {m : eQ} {R : Ending → World → Prop} {N : Value → World → XS → Prop}
theorem XO {z:Int} {o:Nat} (hT:dr w X (gd m) tb mb s m) (ho:o=0+1) (hX: ∀k,X k→k<w.heap.size)
  (n: ∀w' X',eo (fun k=>k=tb) X w X' w'→dr w' X' (gd m) tb mb { s with next:=z } m→N undef w' X'):eU pg R X w true (st1 3 1 (ptr tb o) (I z)) N:=by
 subst ho;exact qS hT.box kQ (by simp) rfl rfl hX fun w2 X2 hc hr=>n w2 X2 hc (hT.head (s':= { s with next:=z }) hc hr)
theorem Hz {c:aO} {o:Nat} (hT:dr w X (gd m) tb mb s m) (ho:o=0+2) (hX: ∀k,X k→k<w.heap.size)
  (n: ∀w' X',eo (fun k=>k=tb) X w X' w'→dr w' X' (gd m) tb mb { s with closed:=c } m→N undef w' X'):eU pg R X w true (st1 34 3 (ptr tb o) c.v) N:=by
 subst ho;exact qS hT.box kQ (by simp) rfl rfl hX fun w2 X2 hc hr=>n w2 X2 hc (hT.head (s':= { s with closed:=c }) hc hr)
theorem PX {k:eh} {a:oQ} {v vr vw:Value} {lo:Nat} (hT:dr w X (gd m) tb mb s m) (jz:qT m) (hX: ∀k,X k→k<w.heap.size) (hv:v=a.v vr vw)
  (h1:Own w X lo 9 1 vr (a.p.reads.map S1)) (h2:Own w X lo 118 4 vw (a.p.writes.map KV.l)) (Bm:vr.ownBlock=a.br) (Ge:vw.ownBlock=a.bw) (Bn:C8 a.br a.bw)
  (nK: ∀g,a.br=some g∨a.bw=some g→ ¬gd m g∧g≠tb∧g≠mb)
  (n: ∀w' X' m',eo (fun k=>k=mb) X w X' w'→dr w' X' (gd m') tb mb s m'→qT m'→cont m'=bU k (a.p,a.gb) (cont m)→(∀g,gd m' g→gd m g∨a.br=some g∨a.bw=some g)→N undef w' X'):
  eU pg R X w true (Instr.mapUpdate 172 (.map (some mb)) k.v v) N:=by
 subst hv;have hn:=hT.mj.nodup;have mT: ∀g,gd (bU k a m) g→gd m g∨a.br=some g∨a.bw=some g:=by
  rintro g ⟨x,hx,hg⟩;rcases fB hn hx with rfl|⟨hx,_⟩
  ·exact .inr hg
  ·exact .inl ⟨x,hx,hg⟩
 have mH: ∀g,a.br=some g∨a.bw=some g→X g:=fun g hg=>by
  rcases hg with hg|hg
  ·exact h1.2.2 g (Bm.trans hg)
  ·exact h2.2.2 g (Ge.trans hg)
 have qb: ∀g,gd (bU k a m) g→X g∧g≠tb∧g≠mb:=fun g hg=>by
  rcases mT g hg with h|h
  ·exact⟨hT.sub g h,hT.off g h⟩
  ·exact⟨mH g h,(nK g h).2⟩
 have Bl:RJ w X (gd (bU k a m)) mb (fun k:eh=>k.v) fj k m:=fL.toX hT.mj (fun g hg _=>by
   have hg:g=mb:=hg;exact⟨by rw [hg];exact hT.mj.x.1,rfl⟩) fun y v hy cn mG=>fj.loc mG fun g hg=>⟨⟨y,KB hy cn,hg⟩,rfl⟩
 have hv:fj w (gd (bU k a m)) (a.v vr vw) a:=⟨vr,vw,rfl,Own.loc (h1.low (aL _)) fun g hg=>⟨⟨_,ry,.inl (Bm▸hg)⟩,rfl⟩,
  Own.loc (h2.low (aL _)) fun g hg=>⟨⟨_,ry,.inr (Ge▸hg)⟩,rfl⟩,Bm,Ge⟩
 refine PW (κ:=eh) (k:=k) (a:=a) (kv:=fun k:eh=>k.v) (kt:=32) (et:=184) Bl fj.mv hv (fun g hg=>⟨(qb g hg).1,(qb g hg).2.2⟩) tg kQ hX fun w4 X4 sj hm4=>?_;refine n w4 X4 _ sj (hT.body sj hm4 fun g hg=>⟨sj.sub g (qb g hg).1,(qb g hg).2⟩) ?_ (KE k a m) mT;have e1: ∀y∈m,a.sep y.2:=fun y hy=>⟨fun g hg hb=>(nK g (.inl hg)).1 ⟨y,hy,.inl hb⟩,fun g hg hb=>(nK g (.inl hg)).1 ⟨y,hy,.inr hb⟩,
  fun g hg hb=>(nK g (.inr hg)).1 ⟨y,hy,.inl hb⟩,fun g hg hb=>(nK g (.inr hg)).1 ⟨y,hy,.inr hb⟩⟩
 refine⟨fun x hx=>?_,fun x hx y hy cn=>?_⟩
 ·rcases fB hn hx with rfl|⟨hx,_⟩
  ·exact Bn
  ·exact jz.two x hx
 ·rcases fB hn hx with rfl|⟨hx,hxk⟩<;>rcases fB hn hy with rfl|⟨hy,hyk⟩
  ·exact absurd rfl cn
  ·exact e1 y hy
  ·exact(e1 x hx).symm
  ·exact jz.all x hx y hy cn
theorem On {k:eh} {g:Nat} (h:gd (jm k m) g):gd m g:=by
 obtain⟨x,hx,hg⟩:=h;exact⟨x,(List.mem_filter.1 hx).1,hg⟩
theorem PY {k:eh} (hT:dr w X (gd m) tb mb s m) (jz:qT m) (hX: ∀k,X k→k<w.heap.size)
  (n: ∀w' X',eo (fun k=>k=mb) X w X' w'→dr w' X' (gd (jm k m)) tb mb s (jm k m)→qT (jm k m)→N (.tuple #[]) w' X'):
  eV pg R X w true (Builtin.delete_ #[172,32] 0 #[.map (some mb),k.v]) N:=by
 refine SE (kv:=fun k:eh=>k.v) (k:=k) (kt:=32) (et:=184) hT.mj fj.mv (fun g hg=>⟨hT.sub g hg,(hT.off g hg).2⟩) tg kQ hX fun w' X' hc hm=>?_;refine n w' X' hc (dr.exact (hT.body hc hm fun g hg=>⟨hc.sub g (hT.sub g hg),hT.off g hg⟩)) ⟨fun x hx=>jz.two x (List.mem_filter.1 hx).1,fun x hx y hy cn=>jz.all x (List.mem_filter.1 hx).1 y (List.mem_filter.1 hy).1 cn⟩
end
def ER (s:iC) (m:eQ) (tb mb:Nat) (n:Int) (r:Rec) (v:Value) (wa w':World):Prop:=
 if jM s m n r≠0 then v= .tuple #[pT.none.v (.slice none 0 0),I (jM s m n r)]∧dr w' (qx tb mb m) (gd m) tb mb s m
 else∃m' vw,v= .tuple #[(eu s r (cont m)).v vw,I 0]∧Sl w' (fun k=>gd m k∨wa.heap.size≤k) 4 vw ((eu s r (cont m)).writes.map KV.l)∧
  cont m'=lZ n r (cont m)∧qT m'∧(∀k,gd m' k→gd m k∨wa.heap.size≤k)∧dr w' (qx tb mb m') (gd m') tb mb (ic s r) m'
theorem VB {w:World} {X A:XS} {tb mb:Nat} {s:iC} {m:eQ} {n:Int} {r:Rec} {vr vw vp vq vh vd:Value} (h:dr w X (gd m) tb mb s m) (hX: ∀k,X k→k<w.heap.size)
  (ha:r.at w A vr vw vp vq vh vd) (hA: ∀k,A k→X k∧ ¬qx tb mb m k) (jv:r.small) (jz:qT m) (mH:PU m) (WC:m.length≤2^40) (nJ:1≤s.next):
  Ct pg 79 #[ptr tb 0,I n,r.v vr vw vp vq vh vd] w X (qx tb mb m) fun v wa w'=>ER s m tb mb n r v wa w':=by
 intro w0 hk;replace h:=h.mv hX hk.cE;have hao:=ha.mv (Mv.trans (Y:=out (qx tb mb m) w0) (w':=w0) (fun k ah hl=>⟨⟨aN hl hk.size,(hA k ah).2⟩,hk.block k (hA k ah).1⟩) (Mv.refl _ _));replace ha:=ha.mv ((Mv.sub fun k ah=>(hA k ah).1).trans hk.cE);have h1:=hao.1;have h2:=hao.2.1;have h6:=hao.2.2.2.2.2;have hl6:=h6.len;have hF: ∀k,qx tb mb m k→k<w0.heap.size:=fun k ah=>by
  rcases ah with h'|h'|h'
  ·rw [h'];exact h.box.lt
  ·rw [h'];exact h.mj.x.2
  ·exact(h.fp k h').2
 obtain⟨br,nr,cr,rfl⟩:=h1.form;obtain⟨bw,nw,cw,rfl⟩:=h2.form;apply JA;unfold zY;have hs:=aj.out (qx tb mb m) w0;refine dH (XK (r:=r) h hs.has ha jv) kQ hs.has fun w X ao=>?_;replace hs:=hs.trans ao;have hT:=h.mv (fun k h=>h) ao.mv;have kN:=hT.box;repeat' first|refine aG ?_;intros|refine dj ?_ ?_<;>intros
 ·refine nB hs fun wa hk=>?_
  show ER s m tb mb n r _ w0 wa
  unfold ER;rw [if_pos (by assumption)];exact⟨rfl,dr.tight (hT.mv hs.has hk.mv)⟩
 ·have Bo:jM s m n r=0:=by assumption
  have hns:n=s.next∧n≤99999999:=by
   have:=Bo;unfold jM at this;split at this
   ·omega
   ·omega
  obtain⟨hns,hn9⟩:=hns;have nL: ∀(v:Value) (wa:World) (m':eQ) (vw:Value),v= .tuple #[(eu s r (cont m)).v vw,I 0]→Sl wa (fun k=>gd m k∨w0.heap.size≤k) 4 vw ((eu s r (cont m)).writes.map KV.l)→
    cont m'=lZ n r (cont m)→qT m'→(∀k,gd m' k→gd m k∨w0.heap.size≤k)→dr wa (qx tb mb m') (gd m') tb mb (ic s r) m'→ER s m tb mb n r v w0 wa:=by
   intro v wa m' vw q1 q2 q3 q4 q5 q6;unfold ER;rw [if_neg (by simpa using Bo)];exact⟨m',vw,q1,q2,q3,q4,q5,q6⟩
  generalize ER s m tb mb n r=Q at nL⊢;repeat' first|refine aG ?_;intros
  refine XO hT (by assumption) hs.has fun w2 X2 hc cq=>?_;replace hs:=hs.dK hc fun k hk e=>hk.2 (.inl e);have fN:=hs.kp.size;clear kN hc ao hT;have kN:=cq.box;refine ir (fun k=> ∀w X (m':eQ),aj (out (qx tb mb m) w0) w0 X w→dr w X (gd m') tb mb (ic s r) m'→qT m'→cont m'=lZ n r (cont m)→(∀k,gd m' k→gd m k∨w0.heap.size≤k)→eu s r (cont m)= .none→k w X) ?_ ?_
  ·intro w X m' hs hT jz hc mT ht;repeat' first|refine aG ?_;intros
   refine nB hs fun wa hk=>nL _ wa m' (.slice none 0 0) ?_ ?_ hc jz mT (dr.tight (hT.mv hs.has hk.mv))
   ·rw [ht];rfl
   ·rw [ht];exact Sl.nil _ _ _
  have zX:=hs.has;intro K hK;repeat' first|refine aG ?_;intros|refine dj ?_ ?_<;>intros|((with_reducible refine gh (ui _ _) ?_ hs.has ?_);(· kernel_rfl);intro w X ao;replace hs:=hs.trans ao)
  ·have uj:= ‹r.kind=1›;refine Hz (c:=s.closed.later r.state.closed) (cq.mv zX ao.mv) (by assumption) hs.has fun w3 X3 lT dG=>?_;have Gf:=fN;clear kN cq ao;have kN:=dG.box;replace hs:=hs.dK lT fun k hk e=>hk.2 (.inl e);repeat' first|refine aG ?_;intros
   refine eA (fun n' a w X=> ∃(i:Nat) (mi:eQ),a=I (i:Nat)∧n'=r.state.eK.length-i∧i≤r.state.eK.length∧aj (out (qx tb mb m) w0) w0 X w∧dr w X (gd mi) tb mb ⟨s.id,s.next+1,s.closed.later r.state.closed⟩ mi∧
    qT mi∧cont mi=(r.state.eK.take i).foldl (fun c p=>bU p.b6 (p,n) c) (cont m)∧(∀k,gd mi k→gd m k∨w0.heap.size≤k)) r.state.eK.length
    ⟨0,m,rfl,rfl,aL _,hs,dG,jz,rfl,fun k hk=>.inl hk⟩ ?_
   clear hs dG jz lT kN;rintro n' a w X ⟨i,mi,rfl,rfl,hi,hs,hT,jz,sg,mT⟩;have kN:=hT.box;rcases dX r.state.eK i with⟨cI,x,hx,hd⟩|⟨dV,hd⟩
   ·have wD:=jv.state.p x (aH hx);repeat' first|refine bQ ?_;intros|((with_reducible apply EO);assumption;(try (case hz=>rfl));(case hr=>exact qR);(try (case hz=>omega));(case ht=>kernel_rfl);(case hs=>kernel_rfl);intros)
    refine ep (HA (p:=x) (Sl.mv (by assumption) hs.mv) (Sl.mv (by assumption) hs.mv) wD.1 wD.2) kQ hs.has ?_;rintro v wa w3 X3 ⟨ur,uw,rfl,kD,iH,Bn⟩ hle eH dZ;have dG:=hT.mv hs.has dZ.mv;have gU:=hT;have ez:=hs.kp.size;have o1:=kD.sl.one;have o2:=iH.sl.one;replace hs:=hs.trans dZ;clear kN;have kN:=dG.box;repeat' first|refine aG ?_;intros
    let a:oQ:= { p:=x,gb:=n,br:=ur.ownBlock,bw:=uw.ownBlock }
    have SF: ∀g,a.br=some g∨a.bw=some g→wa.heap.size≤g:=fun g hg=>by
     rcases hg with hg|hg
     ·exact(kD.ge hg).1
     ·exact(iH.ge hg).1
    refine PX (k:=x.b6) (a:=a) (vr:=ur) (vw:=uw) (lo:=wa.heap.size) dG jz hs.has rfl (kD.mono eH) (iH.mono eH) rfl rfl (fun g hg hb=>Bn g hg hb) (fun g hg=>?_) fun w4 X4 m4 sj fk XP SG abm=>?_
    ·have Bp:=SF g hg;have:=gU.box.lt;have:=gU.mj.x.2;exact⟨fun hf=>by have:=(gU.fp g hf).2;omega,by omega,by omega⟩
    replace hs:=hs.dK sj fun k hk e=>hk.2 (.inr (.inl e));clear kN;have kN:=fk.box;repeat' first|refine aG ?_;intros
    refine en (r.state.eK.length-(i+1)) zQ ⟨i+1,m4,by simp,rfl,by omega,hs,fk,XP,?_,fun k hk=>?_⟩
    ·rw [SG,sg,bg,hx];simp [a]
    ·rcases abm k hk with h|h
     ·exact mT k h
     ·have:=SF k h;right;omega
   ·rw [ba dV] at sg;repeat' first|refine bQ ?_;intros
    refine hK _ _ mi hs ?_ jz ?_ mT ?_
    ·have:ic s r=⟨s.id,s.next+1,s.closed.later r.state.closed⟩:=by simp [ic,uj]
     rw [this];exact hT
    ·rw [sg];simp [lZ,uj]
    ·simp [eu,uj]
  ·have Wy:= ‹r.kind=3›;refine ep (HA (p:=(⟨r.b6,r.aw,r.reads,r.writes⟩:dB)) (h1.mv hs.mv) (h2.mv hs.mv) jv.reads jv.writes) kQ hs.has ?_;rintro v wa w3 X3 ⟨ur,uw,rfl,kD,iH,Bn⟩ hle eH dZ;have dG:=cq.mv hs.has dZ.mv;have gU:=cq;have ez:=hs.kp.size;have o1:=kD.sl.one;have o2:=iH.sl.one;replace hs:=hs.trans dZ;clear kN;have kN:=dG.box;repeat' first|refine aG ?_;intros
   let a:oQ:= { p:=(⟨r.b6,r.aw,r.reads,r.writes⟩:dB),gb:=n,br:=ur.ownBlock,bw:=uw.ownBlock }
   have SF: ∀g,a.br=some g∨a.bw=some g→wa.heap.size≤g:=fun g hg=>by
    rcases hg with hg|hg
    ·exact(kD.ge hg).1
    ·exact(iH.ge hg).1
   refine PX (k:=r.b6) (a:=a) (vr:=ur) (vw:=uw) (lo:=wa.heap.size) dG jz hs.has rfl (kD.mono eH) (iH.mono eH) rfl rfl (fun g hg hb=>Bn g hg hb) (fun g hg=>?_) fun w4 X4 m4 sj fk XP SG abm=>?_
   ·have Bp:=SF g hg;have:=gU.box.lt;have:=gU.mj.x.2;exact⟨fun hf=>by have:=(gU.fp g hf).2;omega,by omega,by omega⟩
   replace hs:=hs.dK sj fun k hk e=>hk.2 (.inr (.inl e));clear kN;have kN:=fk.box;refine hK _ _ m4 hs ?_ XP ?_ (fun k hk=>?_) ?_
   ·have:ic s r=⟨s.id,s.next+1,s.closed⟩:=by simp [ic,Wy]
    rw [this];exact fk
   ·rw [SG];simp [lZ,Wy,a]
   ·rcases abm k hk with h|h
    ·exact .inl h
    ·have:=SF k h;right;omega
   ·simp [eu,Wy]
  ·have zZ:= ‹r.kind=4›;refine pF (kv:=fun k:eh=>k.v) (k:=r.b6) (kt:=32) (et:=184) (.agg #[I 0,I 0,I 0,I 0,I 0,I 0,.slice none 0 0,.slice none 0 0,I 0]) cq.mj tg kQ kQ (fun v q hg mG=>?_) fun hg=>?_
   ·obtain⟨ur,uw,rfl,q1,q2,q3⟩:=mG;have o1:=q1.sl.one;have o2:=q2.sl.one;obtain⟨b3,n3,c3,rfl⟩:=q2.sl.form;repeat' first|refine aG ?_;intros
    refine PY cq jz hs.has fun w3 X3 lT dG Jd=>?_;have q4:=q2.mv (Y:=gd m) (w':=w3) fun k hk _=>⟨hk,lT.block k (cq.sub k hk) (cq.off k hk).2⟩;replace hs:=hs.dK lT fun k hk e=>hk.2 (.inr (.inl e));have kN:=dG.box;have q5:=q4.sl.mv (Mv.sub (cq.sub));have q6:=q5.mv (Mv.sub lT.sub);have KA:getM r.b6 (cont m)=some (q.p,q.gb):=by rw [Cz,hg];rfl
    have hK4:eu s r (cont m)= .none→K w3 X3:=fun hn=>by
     refine hK _ _ _ hs ?_ Jd ?_ (fun k hk=>.inl (On hk)) hn
     ·have:ic s r=⟨s.id,s.next+1,s.closed⟩:=by simp [ic,zZ]
      rw [this];exact dG
     ·simp only [lZ,zZ];simpa using CA r.b6 m
    cases iK:r.ij
    ·repeat' first|refine aG ?_;intros
     exact hK4 (by simp [eu,zZ,KA,iK])
    ·repeat' first|refine aG ?_;intros|refine dj ?_ ?_<;>intros
     ·refine nB hs fun wb hk=>nL _ wb (jm r.b6 m) (.slice b3 n3 c3) ?_ ?_ ?_ Jd (fun k hk=>.inl (On hk)) ?_
      ·have hlen:0<q.p.writes.length:=by omega
       simp [eu,zZ,KA,iK,hlen,pT.v]
      ·have hlen:0<q.p.writes.length:=by omega
       have:(eu s r (cont m)).writes=q.p.writes:=by simp [eu,zZ,KA,iK,hlen]
       rw [this];exact q4.sl.mv fun k ah hl=>⟨.inl ah,hk.block k (lT.sub k (cq.sub k ah))⟩
      ·simp only [lZ,zZ];simpa using CA r.b6 m
      ·have:ic s r=⟨s.id,s.next+1,s.closed⟩:=by simp [ic,zZ]
       rw [this];exact dr.tight (dG.mv hs.has hk.mv)
     ·exact hK4 (by
       have hlen: ¬0<q.p.writes.length:=by omega
       simp [eu,zZ,KA,iK];omega)
   ·repeat' first|refine aG ?_;intros
    refine PY cq jz hs.has fun w3 X3 lT dG Jd=>?_;replace hs:=hs.dK lT fun k hk e=>hk.2 (.inr (.inl e));have KA:getM r.b6 (cont m)=none:=by rw [Cz,hg];rfl
    repeat' first|refine aG ?_;intros
    refine hK _ _ _ hs ?_ Jd ?_ (fun k hk=>.inl (On hk)) ?_
    ·have:ic s r=⟨s.id,s.next+1,s.closed⟩:=by simp [ic,zZ]
     rw [this];exact dG
    ·simp only [lZ,zZ];simpa using CA r.b6 m
    ·simp [eu,zZ,KA]
  ·have hk5:= ‹r.kind=5›;refine Hz (c:=s.closed.later r.aw) (cq.mv zX ao.mv) (by assumption) hs.has fun w3 X3 lT dG=>?_;replace hs:=hs.dK lT fun k hk e=>hk.2 (.inl e);refine hK _ _ m hs ?_ jz ?_ (fun k hk=>.inl hk) ?_
   ·have:ic s r=⟨s.id,s.next+1,s.closed.later r.aw⟩:=by simp [ic,hk5]
    rw [this];exact dG
   ·simp [lZ,hk5]
   ·simp [eu,hk5]
  ·have WG:= ‹r.kind=6›;refine Ol (SC cq zX (hao.mv hs.mv) jz mH WC) kQ hs.has (fun k hk=>?_) ?_
   ·rcases hk with rfl|rfl|hk
    ·exact cq.box.1
    ·exact cq.mj.x.1
    ·exact cq.sub k hk
   rintro v wa w3 X3 ⟨m',sg,Jd,mT,dG,rfl⟩ hle eH kM lT;have ez:=hs.kp.size;have fk:=dG.wide (Y:=X3) fun k hk=>by
    rcases hk with rfl|rfl|hk
    ·exact lT.sub _ cq.box.1
    ·exact lT.sub _ cq.mj.x.1
    ·rcases mT k hk with h|h
     ·exact lT.sub _ (cq.sub k h)
     ·exact eH k ⟨h,(dG.fp k hk).2⟩
   replace hs:=hs.dK lT fun k hk e=>hk.2 e;repeat' first|refine aG ?_;intros
   refine nB hs fun wb hk=>nL _ wb m' (.slice none 0 0) ?_ ?_ ?_ Jd (fun k hk=>?_) ?_
   ·have:eu s r (cont m)=⟨2,0,0,⟨0,0,0⟩,.zero,[],r.n,Dc (s.closed.later r.aw) (cont m)⟩:=by simp [eu,WG]
    rw [this,MN,sg,abl]
   ·have:(eu s r (cont m)).writes=[]:=by simp [eu,WG]
    rw [this];exact Sl.nil _ _ _
   ·rw [sg];simp [lZ,WG]
   ·rcases mT k hk with h|h
    ·exact .inl h
    ·right;omega
   ·have:ic s r=⟨s.id,s.next+1,s.closed.later r.aw⟩:=by simp [ic,WG]
    rw [this];exact dr.tight (fk.mv hs.has hk.mv)
  ·refine hK _ _ m hs ?_ jz ?_ (fun k hk=>.inl hk) ?_
   ·have:ic s r=⟨s.id,s.next+1,s.closed⟩:=by simp [ic, *]
    rw [this];exact cq
   ·simp [lZ, *]
   ·simp [eu, *]
def abn (s:iC) (c:mm) (n:Int) (r:Rec):Int:=
 if n≠s.next∨n>99999999 then 14
 else if r.err≠0 then 4
 else if r.kind=1 then(if r.state.range.id≠s.id then 4 else if r.state.eK.any (fun p=>(getM p.b6 c).isSome)then 9 else 0)
 else if r.kind=3 then(if(getM r.b6 c).isSome then 9 else 0)
 else if r.kind=2∨r.kind=4∨r.kind=5∨r.kind=6∨r.kind=7 then 0 else 4
theorem KF (s:iC) (m:eQ) (n:Int) (r:Rec):jM s m n r=abn s (cont m) n r:=by
 have h: ∀k,(getM k (cont m)).isSome=(getM k m).isSome:=fun k=>by rw [Cz];simp
 unfold jM abn;simp only [h]
def aeD (c:mm):Prop:= ∀e∈c,e.2.1.b6=e.1
def OkC (c:mm):Prop:= ∀e∈c,e.2.1.ok
structure qU (b:Nat) (c:mm):Prop where
 key:aeD c
 ok:OkC c
 len:c.length≤b
theorem qU.nil (b:Nat):qU b []:=⟨by simp [aeD],by simp [OkC],by simp⟩
theorem qU.up {b b':Nat} {c:mm} (h:qU b c) (hb:b≤b'):qU b' c:=⟨h.key,h.ok,af h.len hb⟩
theorem OkC.m {m:eQ} (h:OkC (cont m)):PU m:=fun x hx=>h (x.1,x.2.p,x.2.gb) (List.mem_map.2 ⟨x,hx,rfl⟩)
theorem Bq {k:eh} {a:dB×Int} : ∀{c:mm} {e:eh×dB×Int},e∈bU k a c→e=(k,a)∨e∈c
 |[],e,h=>by simpa [bU] using h
 |x::c,e,h=>by
  unfold bU at h;split at h
  ·rcases List.mem_cons.1 h with h|h
   ·exact .inl h
   ·exact .inr (bK _ h)
  ·rcases List.mem_cons.1 h with h|h
   ·exact .inr (by rw [h];exact dt)
   ·exact(Bq h).imp id (bK _)
theorem SH {k:eh} {a:dB×Int} : ∀c:mm,(bU k a c).length≤c.length+1
 |[]=>by simp [bU]
 |x::c=>by
  unfold bU;split
  ·simp
  ·simp only [bT];have:=SH (k:=k) (a:=a) c;omega
theorem qU.put {b:Nat} {c:mm} (h:qU b c) {p:dB} (hp:p.ok) (n:Int):qU (b+1) (bU p.b6 (p,n) c):=by
 refine⟨fun e he=>?_,fun e he=>?_,?_⟩
 ·rcases Bq he with rfl|he
  ·rfl
  ·exact h.key e he
 ·rcases Bq he with rfl|he
  ·exact hp
  ·exact h.ok e he
 ·have:=SH (k:=p.b6) (a:=(p,n)) c;have:=h.len;omega
theorem qU.ew {n:Int} : ∀{l:List dB} {b:Nat} {c:mm},qU b c→(∀p∈l,p.ok)→qU (b+l.length) (l.foldl (fun c p=>bU p.b6 (p,n) c) c)
 |[],_,_,h,_=>h
 |p::l,b,c,h,hp=>by
  have:=qU.ew (n:=n) (h.put (hp p (by simp)) n) fun q hq=>hp q (bK _ hq);rw [bT,List.foldl_cons,show b+(l.length+1)=b+1+l.length by omega];exact this
theorem State.small.ok {s:State} (h:s.small): ∀p∈s.eK,p.ok:=fun p hp=>⟨(h.p p hp).1,(h.p p hp).2,(h.pk p hp).1,(h.pk p hp).2⟩
theorem qU.feed {b:Nat} {c:mm} (h:qU b c) {r:Rec} (hr:r.small) (n:Int):qU (b+r.state.eK.length+1) (lZ n r c):=by
 unfold lZ;split
 ·exact(qU.ew h hr.state.ok).up zQ
 split
 ·exact(h.put (p:=⟨r.b6,r.aw,r.reads,r.writes⟩) ⟨hr.reads,hr.writes,hr.rk,hr.wk⟩ n).up zQ
 split
 ·refine⟨fun e he=>h.key e (List.mem_filter.1 he).1,fun e he=>h.ok e (List.mem_filter.1 he).1,?_⟩;have:=eI (fun x:eh×dB×Int=>decide (x.1≠r.b6)) c;have:=h.len;unfold jm;omega
 split
 ·refine⟨fun e he=>?_,fun e he=>?_,?_⟩
  ·obtain⟨x,hx,rfl⟩:=List.mem_map.1 he;exact h.key x hx
  ·obtain⟨x,hx,rfl⟩:=List.mem_map.1 he;exact dB.aaa (h.ok x hx)
  ·rw [aA];have:=h.len;omega
 ·exact h.up zQ
abbrev U1 (b:Nat):List Value:=[.int .u8 b]
def Br (u:Nat):List Nat:=if u<128 then [u] else(u % 128+128)::Br (u/128)
termination_by u
decreasing_by omega
def HB (n:Int):Nat:=if n<0 then 18446744073709551615-((n % 18446744073709551616).toNat*2 % 18446744073709551616)else(n % 18446744073709551616).toNat*2 % 18446744073709551616
def encI (n:Int):List Nat:=Br (HB n)
theorem SI: ∀(k u:Nat),u<128^k→(Br u).length≤max k 1
 |0,u,h=>by
  have:u=0:=by simpa using h
  subst this;unfold Br;simp
 |k+1,u,h=>by
  unfold Br;split
  ·simp only [bT,bI];omega
  ·have hk:1≤k:=by
    rcases k with _|k
    ·simp at h;omega
    ·exact Nat.le_add_left _ _
   have h1:u/128<128^k:=by
    rw [Nat.div_lt_iff_lt_mul (by decide),←Nat.pow_succ];exact h
   have:=SI k (u/128) h1;simp only [bT];omega
theorem aeE (n:Int):HB n<18446744073709551616:=by
 unfold HB;split<;>omega
theorem fC (n:Int):(encI n).length≤10:=by
 have:=SI 10 (HB n) (aN (aeE n) (by decide));unfold encI;omega
def rM (s:BA):List Nat:=encI s.size++s.data.toList.map UInt8.toNat
def aad (u k:Nat):Nat:=u/256^k % 256
def Dd (x:Nat):List Nat:=(List.range 8).map (aad (canon x))
def ES (v:nq):List Nat:=
 let v:=if v.may then v else nq.zero
 encI v.kind++(if v.kind=1 then Dd v.num else if v.kind=2 then rM v.text else [])
def XQ (b:Bool):List Nat:=[if b then 1 else 0]
def pa (s:aO):List Nat:=encI s.wall++encI s.dv++encI s.node
def AI (t:eh):List Nat:=encI t.iP++encI t.lu++encI t.sq
def oh (x:KV):List Nat:=rM x.key++ES x.val
def jA {α:Type} (f:α→List Nat) (l:List α):List Nat:=encI l.length++(l.map f).flatten
theorem Own.tag {w:World} {X:XS} {lo e k:Nat} {v:Value} {rows:List (List Value)} (h:Own w X lo e k v rows) {g:Nat} (hg:v.ownBlock=some g): ∃cs:List Value,w.heap[g]? =some (.cells cs.toArray e (0,0)):=by
 rcases h.row with⟨rfl,_⟩|⟨b,cap,cs,rfl,_,hr,_⟩
 ·cases hg
 ·simp only [dY,az] at hg;subst hg;exact⟨cs,hr.2⟩
theorem Own.gi {w:World} {X Y:XS} {lo e e' k g:Nat} {v:Value} {rows:List (List Value)} {cs:List Value} (h:Own w X lo e k v rows) (hr:bN w Y g cs e') (he:decide (e≠e')=true):v.ownBlock≠some g:=fun hg=>by
 obtain⟨c,h1⟩:=Own.tag h hg;rw [hr.2] at h1;simp only [az,Obj.cells.injEq] at h1;exact of_decide_eq_true he h1.2.1.symm
theorem wrap64 (n:Int):IntKind.u64.wrap n=n % 18446744073709551616:=by
 simp only [Be,nH,ke];simp
theorem RK (n:Int):IntKind.u8.wrap n=n % 256:=by
 simp only [Be,nH,ke];simp
section
variable {P : Program} {X : XS} {w : World} {N : Value → Prop} {t : TypeId}
theorem MO {src dst:TypeId} {k:IntKind} {u:Nat} (hs:(P.underlying src).isSome=true) (hd:P.underlying dst=some (.int .u8)) (h:N (.int .u8 ((u % 256:Nat):Int))):ab P X w (mF .u8 src dst (.int k (u:Int))) N:=
 XR hs hd (by rw [RK];exact h)
theorem SJ (u:Nat):IntKind.u8.wrap (u:Int)=((u % 256:Nat):Int):=by rw [RK];omega
theorem aeF {u:Nat} (h:N (.int .u64 ((u*2 % 18446744073709551616:Nat):Int))):ab P X w (binOp .shl t (.int .u64 (u:Int)) (.int .u64 1)) N:=
 adt zQ (by
  rw [wrap64];have e:((u:Int)*2^min (1:Int).toNat IntKind.u64.bits) % 18446744073709551616=((u*2 % 18446744073709551616:Nat):Int):=by
   show((u:Int)*2^1) % 18446744073709551616=_
   omega
  rw [e];exact h)
theorem aeG {u:Nat} (h:N (.int .u64 ((u/128:Nat):Int))):ab P X w (binOp .shr t (.int .u64 (u:Int)) (.int .u64 7)) N:=
 AZ zQ (by
  have e:((u:Int)).fdiv (2^min (7:Int).toNat IntKind.u64.bits)=((u/128:Nat):Int):=by
   show((u:Int)).fdiv 128=_
   rw [gT _ (by decide)];omega
  rw [e];exact h)
theorem aeH {u:Nat} (h:N (.int .u64 ((u/256:Nat):Int))):ab P X w (binOp .shr t (.int .u64 (u:Int)) (.int .u64 8)) N:=
 AZ zQ (by
  have e:((u:Int)).fdiv (2^min (8:Int).toNat IntKind.u64.bits)=((u/256:Nat):Int):=by
   show((u:Int)).fdiv 256=_
   rw [gT _ (by decide)];omega
  rw [e];exact h)
theorem aeI {u:Nat} (hu:u<18446744073709551616) (h:N (.int .u64 ((18446744073709551615-u:Nat):Int))):ab P X w (Op.unary .xor (.int .u64 (u:Int))) N:=by
 refine cB (v:=.int .u64 ((18446744073709551615-u:Nat):Int)) (fun wa=>?_) h;have key:(cm 64 18446744073709551615^^^cm 64 (u:Int)).toNat=18446744073709551615-u:=by
  have h1:cm 64 18446744073709551615=BitVec.allOnes 64:=by decide
  have h2:(cm 64 (u:Int))=BitVec.ofNat 64 u:=by simp
  rw [h1,h2,BitVec.allOnes_xor,BitVec.toNat_not,BitVec.toNat_ofNat,Nat.mod_eq_of_lt zQ]
 have e:IntKind.u64.wrap (cm IntKind.u64.bits IntKind.u64.max^^^cm IntKind.u64.bits (u:Int)).toNat=((18446744073709551615-u:Nat):Int):=by
  rw [wrap64]
  show((cm 64 18446744073709551615^^^cm 64 (u:Int)).toNat:Int) % 18446744073709551616=_
  rw [key];omega
 have hk:(Op.unary .xor (.int .u64 (u:Int))).run P wa= .ok (.int .u64 (IntKind.u64.wrap (cm IntKind.u64.bits IntKind.u64.max^^^cm IntKind.u64.bits (u:Int)).toNat)) wa:=by
  simp [Op.unary,Op.intBits,ke]
 rw [hk,e]
theorem aeJ {k:IntKind} {a b:Int} (h:N (.int k (k.wrap (cm k.bits a|||cm k.bits b).toNat))):ab P X w (binOp .or t (.int k a) (.int k b)) N:=
 cB (fun wa=>by simp [binOp,Op.intBits]) h
theorem agD: ∀b:Nat,b<256→(cm 8 (b:Int)|||cm 8 128).toNat=b % 128+128:=by decide+kernel
theorem adu {b:Nat} (hb:b<256) (h:N (.int .u8 ((b % 128+128:Nat):Int))):ab P X w (binOp .or t (.int .u8 (b:Int)) (.int .u8 128)) N:=
 aeJ (by
  have e:IntKind.u8.wrap (cm IntKind.u8.bits (b:Int)|||cm IntKind.u8.bits 128).toNat=((b % 128+128:Nat):Int):=by
   rw [RK];have:=agD b hb
   show((cm 8 (b:Int)|||cm 8 128).toNat:Int) % 256=_
   rw [this];omega
  rw [e];exact h)
theorem aeK {n:Int} (h:N (.int .u64 (((n % 18446744073709551616).toNat*2 % 18446744073709551616:Nat):Int))):ab P X w (binOp .shl t (.int .u64 (IntKind.u64.wrap n)) (.int .u64 1)) N:=by
 have e:IntKind.u64.wrap n=((n % 18446744073709551616).toNat:Int):=by rw [wrap64];omega
 rw [e];exact aeF h
theorem agE {u:Nat} (h:N (.int .u8 ((u % 128+128:Nat):Int))):ab P X w (binOp .or t (.int .u8 (IntKind.u8.wrap (u:Int))) (.int .u8 128)) N:=by
 rw [SJ];exact adu zQ (by rw [show u % 256 % 128=u % 128 by omega];exact h)
end
structure Wr (w:World) (X:XS) (lo wb:Nat) (vb:Value) (bs:List Nat):Prop where
 box:bN w X wb [vb] 247
 ow:Own w X lo 5 1 vb (bs.map U1)
def zk (wb:Nat) (vb:Value):XS:=fun k=>k=wb∨vb.ownBlock=some k
theorem Wr.mv {w w':World} {X Y:XS} {lo wb:Nat} {vb:Value} {bs:List Nat} (h:Wr w X lo wb vb bs) (m:Mv X w Y w'):Wr w' Y lo wb vb bs:=⟨h.box.mv m,h.ow.mv m⟩
theorem Wr.ne {w:World} {X:XS} {lo wb:Nat} {vb:Value} {bs:List Nat} (h:Wr w X lo wb vb bs):vb.ownBlock≠some wb:=Own.gi h.ow h.box kQ
def ly (f:FuncId) (args:Array Value) (w:World) (X:XS) (lo wb:Nat) (vb:Value) (bs ds:List Nat):Prop:=
 Ct pg f args w X (zk wb vb) fun v wa w'=>v= .tuple #[]∧ ∃xS,Wr w' (fun k=>zk wb vb k∨made wa w' k) lo wb xS (bs++ds)
structure WS (w0:World) (nM:Value) (w:World) (X:XS) (lo wb:Nat) (vb:Value) (bs:List Nat):Prop where
 s:aj (out (zk wb nM) w0) w0 X w
 r:Wr w X lo wb vb bs
 v: ∀g,vb.ownBlock=some g→nM.ownBlock=some g∨w0.heap.size≤g
section
variable {w0 w : World} {X : XS} {lo wb : Nat} {nM vb : Value} {bs ds : List Nat} {R : Ending → World → Prop} {N : Value → World → XS → Prop}
theorem WS.init (h:Wr w0 (aR w0) lo wb nM bs):WS w0 nM w0 (aR w0) lo wb nM bs:=⟨aj.out _ _,h,fun g hg=>.inl hg⟩
theorem WS.since {X':XS} {w':World} (h:WS w0 nM w X lo wb vb bs) (hs:aj X w X' w'):WS w0 nM w' X' lo wb vb bs:=⟨h.s.trans hs,h.r.mv hs.mv,h.v⟩
theorem WS.fin (h:WS w0 nM w X lo wb vb (bs++ds)):fin (Bs (zk wb nM) w0 fun v w'=>(fun v wa w'=>v= .tuple #[]∧ ∃xS,Wr w' (fun k=>zk wb nM k∨made wa w' k) lo wb xS (bs++ds)) v w0 w') X w (.tuple #[]):=by
 refine nB h.s fun wa hk=>⟨rfl,vb,⟨.inl (.inl rfl),(h.r.box.kp hk).2⟩,(h.r.ow.kp hk).1,(h.r.ow.kp hk).2.1,fun g hg=>?_⟩;rcases h.v g hg with h1|h1
 ·exact .inl (.inr h1)
 ·exact .inr ⟨h1,((h.r.ow.kp hk).ge hg).2⟩
theorem WS.out (h:WS w0 nM w X lo wb vb bs) {k:Nat} (hk:zk wb vb k) (h0:out (zk wb nM) w0 k):False:=by
 rcases hk with hk|hk
 ·exact h0.2 (.inl hk)
 ·rcases h.v k hk with h1|h1
  ·exact h0.2 (.inr h1)
  ·have:=h0.1;omega
theorem WS.ew {f:FuncId} {args:Array Value} (hS:WS w0 nM w X lo wb vb bs) (hp:ly f args w X lo wb vb bs ds) (hf:enters pg f=true)
  (k: ∀xS w' X',WS w0 nM w' X' lo wb xS (bs++ds)→eo (zk wb vb) X w X' w'→N (.tuple #[]) w' X'):eC pg R X w true f args N:=by
 refine Ol hp hf hS.s.has (fun q hq=>?_) fun v wa w' X' hq hle eH kM hc=>?_
 ·rcases hq with rfl|hq
  ·exact hS.r.box.1
  ·exact hS.r.ow.2.2 q hq
 ·obtain⟨rfl,xS,hW⟩:=hq;refine k xS w' X' ⟨hS.s.dK hc fun q h0 hq=>hS.out hq h0,⟨⟨hc.sub _ hS.r.box.1,hW.box.2⟩,hW.ow.1,hW.ow.2.1,fun g hg=>?_⟩,fun g hg=>?_⟩ hc
  ·rcases hW.ow.2.2 g hg with h1|h1
   ·rcases h1 with rfl|h1
    ·exact hc.sub _ hS.r.box.1
    ·exact hc.sub g (hS.r.ow.2.2 g h1)
   ·exact eH g h1
  ·rcases hW.ow.2.2 g hg with h1|h1
   ·rcases h1 with rfl|h1
    ·exact absurd hg hW.ne
    ·exact hS.v g h1
   ·right;have:=h1.1;have:=hS.s.kp.size;omega
theorem HC {b:Nat} (hS:WS w0 nM w X lo wb vb bs) (ez:lo≤w.heap.size) (hb:bs.length≤2^40)
  (k: ∀xS w' X',WS w0 nM w' X' lo wb xS (bs++[b])→N undef w' X'):
  eV pg R X w true (gG 132 5 1 1 #[(0,.int .u8 (b:Int))]) fun s w1 X1=>eV pg R X1 w1 true (ga 132 5 1 1 132 vb s) fun x w2 X2=>
   ax pg X2 w2 (aP (ptr wb 0)) fun p=>ab pg X2 w2 (aT 247 0 0 1 p) fun q=>eU pg R X2 w2 true (st1 132 1 q x) N:=by
 refine adw hS.r.ow hS.s.has ez kQ (row:=U1 b) rfl rfl rfl (by simp;omega) (by simp;omega) fun v' w' X' hc ho fH=>?_;have cn: ∀q,dP vb q→q≠wb:=fun q hq e=>hS.r.ne (by rw [←e];exact hq);have fi:bN w' X' wb [vb] 247:=⟨hc.sub _ hS.r.box.1,by rw [hc.block _ hS.r.box.1 fun hq=>cn _ hq rfl];exact hS.r.box.2⟩;have si:=hS.s.dK hc fun q h0 hq=>hS.out (.inr hq) h0;have kg: ∀g,v'.ownBlock=some g→nM.ownBlock=some g∨w0.heap.size≤g:=fun g hg=>by
  rcases fH with e|⟨g',e,dV⟩
  ·exact hS.v g (e▸hg)
  ·rw [e] at hg;cases hg;right;have:=hS.s.kp.size;omega
 with_reducible apply RL
 have hfi:fieldInfo pg 247 0=some (0,1):=by kernel_rfl
 refine MP (fi.cells) hfi rfl fun o' ue _=>?_;subst ue;refine qS fi kQ (by simp) (by obtain⟨_,_,_,rfl⟩:=ho.sl.form;rfl) (by obtain⟨_,_,_,rfl⟩:=ho.sl.form;rfl) si.has fun w3 X3 lT pL=>?_;have abo:v'.ownBlock≠some wb:=Own.gi ho fi kQ;refine k v' w3 X3 ⟨si.dK lT fun q h0 hq=>h0.2 (.inl hq),⟨?_,?_⟩,kg⟩
 ·have e:cH [vb] (0+0) v'.cells.toList=[v']:=by obtain⟨_,_,_,rfl⟩:=ho.sl.form;rfl
  rw [e] at pL;exact pL
 ·rw [bp];exact Own.dK ho lT fun g hg e=>abo (by rw [hg,e])
end
theorem Bt {w:World} {X:XS} :Ct pg 112 #[] w X nX fun v wa w'=> ∃wb,v=ptr wb 0∧Wr w' (made wa w') wa.heap.size wb (.slice none 0 0) []:=by
 intro w0 hk;apply JB;unfold z7;have hs:=aj.init w0;repeat' first|refine aG ?_;intros|(with_reducible apply nI);(case hX=>exact hs.has);intro bx w X fi ao bH;have bE:=hs.trans ao;replace hs:=aj.iB ao.has
 refine ai (bE.trans hs) fun wa bD=>⟨bx,rfl,⟨⟨fi,(bH.kp bD).lt⟩,(bH.kp bD).2⟩,Own.nil _ _ _ _ _⟩
theorem kO {w:World} {X:XS} {lo wb:Nat} {vb:Value} {bs:List Nat} {n:Int} (h:Wr w X lo wb vb bs) (hb:bs.length≤2^39) (ez:lo≤w.heap.size):ly 113 #[ptr wb 0,I n] w X lo wb vb bs (encI n):=by
 intro w0 hk;have dp:lo≤w0.heap.size:=af ez hk.size;have hS:=WS.init (h.mv hk.cE);apply HD;unfold zl;have hs:=hS.s;have kN:=hS.r.box;repeat' first|refine aG ?_;intros|(with_reducible apply aeK)
 refine ir (fun k=>k (.int .u64 (HB n:Int))) ?_ ?_
 ·refine eA (fun n' a w X=> ∃(u:Nat) (qy:Value) (bsi:List Nat),a= .int .u64 (u:Int)∧n'=u∧WS w0 vb w X lo wb qy bsi∧bsi++Br u=bs++encI n) (HB n) ⟨HB n,vb,bs,rfl,rfl,hS,rfl⟩ ?_;clear hs kN hS;rintro u a w X ⟨_,qy,bsi,rfl,rfl,hS,PZ⟩;have hs:=hS.s;have kN:=hS.r.box;have hlen:bsi.length≤2^40:=by
   have h1:=congrArg List.length PZ;have h2:=fC n;simp only [ae] at h1;omega
  have Oo:lo≤w.heap.size:=af dp hs.kp.size;by_cases hu:u<128
  ·have he:Br u=[u]:=by rw [Br,if_pos hu]
   repeat' first|refine bQ ?_;intros
   rw [SJ,show u % 256=u by omega];refine HC hS Oo hlen fun gI w2 X2 bX=>?_;rw [←he,PZ] at bX;exact bX.fin
  ·have he:Br u=(u % 128+128)::Br (u/128):=by rw [Br,if_neg hu]
   repeat' first|refine bQ ?_;intros|(with_reducible apply agE)
   refine HC hS Oo hlen fun gI w2 X2 bX=>?_;repeat' first|(with_reducible apply aeG)
   refine en (u/128) zQ ⟨u/128,gI,_,rfl,rfl,bX,?_⟩;rw [aC,List.singleton_append,←he];exact PZ
 ·intro K hK;repeat' first|refine aG ?_;intros|refine dj ?_ ?_<;>intros|(with_reducible apply aeI);omega
  ·have:HB n=18446744073709551615-((n % 18446744073709551616).toNat*2 % 18446744073709551616):=by unfold HB;rw [if_pos zQ]
   rw [←this];exact hK
  ·have:HB n=(n % 18446744073709551616).toNat*2 % 18446744073709551616:=by unfold HB;rw [if_neg zQ]
   rw [←this];exact hK
theorem abp (s:BA):(tK s).map (fun x=>[x])=(s.data.toList.map UInt8.toNat).map U1:=by
 unfold tK;simp
section
variable {w0 w : World} {X : XS} {lo wb : Nat} {nM vb : Value} {bs ds : List Nat} {R : Ending → World → Prop} {N : Value → World → XS → Prop}
theorem aeL {v':Value} {w':World} {X':XS} (hS:WS w0 nM w X lo wb vb bs) (hc:eo (dP vb) X w X' w') (ho:Own w' X' lo 5 1 v' (ds.map U1)) (fH:v'.ownBlock=vb.ownBlock∨ ∃g,v'.ownBlock=some g∧w.heap.size≤g)
  (k: ∀w' X',WS w0 nM w' X' lo wb v' ds→N undef w' X'):
  ax pg X' w' (aP (ptr wb 0)) fun p=>ab pg X' w' (aT 247 0 0 1 p) fun q=>eU pg R X' w' true (st1 132 1 q v') N:=by
 have cn: ∀q,dP vb q→q≠wb:=fun q hq e=>hS.r.ne (by rw [←e];exact hq);have fi:bN w' X' wb [vb] 247:=⟨hc.sub _ hS.r.box.1,by rw [hc.block _ hS.r.box.1 fun hq=>cn _ hq rfl];exact hS.r.box.2⟩;have si:=hS.s.dK hc fun q h0 hq=>hS.out (.inr hq) h0;have kg: ∀g,v'.ownBlock=some g→nM.ownBlock=some g∨w0.heap.size≤g:=fun g hg=>by
  rcases fH with e|⟨g',e,dV⟩
  ·exact hS.v g (e▸hg)
  ·rw [e] at hg;cases hg;right;have:=hS.s.kp.size;omega
 with_reducible apply RL
 have hfi:fieldInfo pg 247 0=some (0,1):=by kernel_rfl
 refine MP (fi.cells) hfi rfl fun o' ue _=>?_;subst ue;refine qS fi kQ (by simp) (by obtain⟨_,_,_,rfl⟩:=ho.sl.form;rfl) (by obtain⟨_,_,_,rfl⟩:=ho.sl.form;rfl) si.has fun w3 X3 lT pL=>?_;have abo:v'.ownBlock≠some wb:=Own.gi ho fi kQ;refine k w3 X3 ⟨si.dK lT fun q h0 hq=>h0.2 (.inl hq),⟨?_,?_⟩,kg⟩
 ·have e:cH [vb] (0+0) v'.cells.toList=[v']:=by obtain⟨_,_,_,rfl⟩:=ho.sl.form;rfl
  rw [e] at pL;exact pL
 ·exact Own.dK ho lT fun g hg e=>abo (by rw [hg,e])
end
theorem KG {w:World} {X:XS} {lo wb:Nat} {vb:Value} {bs:List Nat} {s:BA} (h:Wr w X lo wb vb bs) (hb:bs.length≤2^38) (ez:lo≤w.heap.size) (bE:s.size≤2^38):ly 305 #[ptr wb 0,.string s] w X lo wb vb bs (rM s):=by
 intro w0 hk;have dp:lo≤w0.heap.size:=af ez hk.size;have hS:=WS.init (h.mv hk.cE);apply GK;unfold xT;have hs:=hS.s;repeat' first|refine aG ?_;intros
 refine hS.ew (kO hS.r zQ dp) kQ fun gI w2 X2 bX jN=>?_;clear hs;have hs:=bX.s;have kN:=bX.r.box;have hen:=fC s.size;repeat' first|refine aG ?_;intros
 refine aeM (bytes:=1) bX.r.ow hs.has (af dp hs.kp.size) kQ kQ (by simp;omega) (by simp;omega) fun v' w3 X3 hc ho fH=>?_;rw [abp,←bp] at ho;refine aeL bX hc ho fH fun w4 X4 fI=>?_;rw [aC] at fI;exact fI.fin
theorem HE {w:World} {X:XS} {lo wb:Nat} {vb:Value} {bs:List Nat} {x:Nat} (h:Wr w X lo wb vb bs) (hb:bs.length≤2^39) (ez:lo≤w.heap.size):ly 287 #[ptr wb 0,.float .f64 x] w X lo wb vb bs (Dd x):=by
 intro w0 hk;have dp:lo≤w0.heap.size:=af ez hk.size;have hS:=WS.init (h.mv hk.cE);apply ET;unfold wE;have hs:=hS.s;repeat' first|((with_reducible refine gh (EU _) ?_ hs.has ?_);(· kernel_rfl);intro w X ao;replace hs:=hs.trans ao)
 refine fT (fun n' a b w X=> ∃(i:Nat) (qy:Value),a=I i∧b= .int .u64 ((canon x/256^i:Nat):Int)∧n'=8-i∧i≤8∧WS w0 vb w X lo wb qy (bs++(List.range i).map (aad (canon x)))) 8
  ⟨0,vb,rfl,by simp,rfl,by omega,by simpa using hS.since (by assumption)⟩ ?_
 clear hs hS ao;rintro n' a b w X ⟨i,qy,rfl,rfl,rfl,hi,hS⟩;have hs:=hS.s;have kN:=hS.r.box;have Oo:lo≤w.heap.size:=af dp hs.kp.size;by_cases h8:i<8
 ·repeat' first|refine bQ ?_;intros
  rw [SJ];refine HC hS Oo (by simp;omega) fun gI w2 X2 bX=>?_;repeat' first|refine aG ?_;intros|(with_reducible apply aeH)
  refine eR (8-(i+1)) zQ ⟨i+1,gI,by simp,?_,rfl,by omega,?_⟩
  ·rw [Nat.div_div_eq_div_mul,Nat.pow_succ]
  ·rw [List.range_succ,bp,←aC];exact bX
 ·obtain rfl:i=8:=by omega
  repeat' first|refine bQ ?_;intros
  exact hS.fin
theorem HF {w:World} {X:XS} {lo wb:Nat} {vb:Value} {bs:List Nat} (h:Wr w X lo wb vb bs) (hb:bs.length≤2^40):Ct pg 114 #[ptr wb 0] w X nX fun v wa w'=>Own w' (made wa w') wa.heap.size 5 1 v (bs.map U1):=by
 intro w0 hk;replace h:=h.mv hk.cE;have kN:=h.box;apply EV;unfold wF;have hs:=aj.init w0;repeat' first|refine aG ?_;intros|(with_reducible apply RM);(case hX=>exact hs.has);(case hu=>kernel_rfl);(case hz=>kernel_rfl);intro acc w X ao ho;replace hs:=hs.trans ao|((first|(with_reducible refine ai hs ?_)|(with_reducible refine ai (bE.trans hs) ?_));intro wa hk;(exact(ho.kp hk).tight))|((with_reducible apply MQ);(case own=>assumption);(case hs=>assumption);(case h0=>exact fun _ h=>h);(case he=>kernel_rfl);(case src=>exact Sl.mv h.ow.sl (aj.mv hs));(case h1=>simp [bB.one]);(case hb=>simp;omega);(case hl=>simp;omega);intro acc w X ao ho hc fH;replace hs:=ao;rw [List.nil_append] at ho)
theorem VC {w:World} {X:XS} {lo wb:Nat} {vb:Value} {bs:List Nat} {b:Bool} (h:Wr w X lo wb vb bs) (hb:bs.length≤2^39) (ez:lo≤w.heap.size):ly 285 #[ptr wb 0,B b] w X lo wb vb bs (XQ b):=by
 intro w0 hk;have dp:lo≤w0.heap.size:=af ez hk.size;have hS:=WS.init (h.mv hk.cE);apply GL;unfold xU;have hs:=hS.s;have kN:=hS.r.box;cases b<;>
 repeat' first|refine aG ?_;intros
 ·refine HC (b:=0) hS dp zQ fun gI w2 X2 bX=>?_;exact bX.fin
 ·refine HC (b:=1) hS dp zQ fun gI w2 X2 bX=>?_;exact bX.fin
def qe (Z X:XS) (wb:Nat) (vb:Value):Prop:= ∀k,Z k→X k∧ ¬zk wb vb k
section
variable {w0 w : World} {X : XS} {lo wb : Nat} {nM vb : Value} {bs ds : List Nat}
theorem WS.z (hS:WS w0 nM w X lo wb vb bs):qe (bB.out (zk wb nM) w0) X wb vb:=fun k h=>⟨hS.s.sub k h,fun hf=>hS.out hf h⟩
theorem WS.at (hS:WS w0 nM w X lo wb vb bs):Mv (bB.out (zk wb nM) w0) w0 (bB.out (zk wb nM) w0) w:=fun k hk _=>⟨hk,hS.s.kp.block k hk⟩
theorem qe.mv {Z:XS} (h:qe Z X wb vb) (hk:Kp X w w0):Mv Z w (out (zk wb vb) w0) w0:=fun k ah hl=>⟨⟨aN hl hk.size,(h k ah).2⟩,hk.block k (h k ah).1⟩
end
abbrev jg (wb:Nat):List Value:=[ptr wb 0,.pointer none]
theorem VD {w:World} {X:XS} {lo wb:Nat} {vb:Value} {bs:List Nat} {v:nq} (h:Wr w X lo wb vb bs) (hb:bs.length≤2^37) (ez:lo≤w.heap.size):ly 308 #[ptr wb 0,v.v] w X lo wb vb bs (ES v):=by
 intro w0 hk;have dp:lo≤w0.heap.size:=af ez hk.size;have hS:=WS.init (h.mv hk.cE);apply SK;unfold HG;have hs:=hS.s;refine ir (fun k=> ∀w X,aj (aR w0) w0 X w→k (if v.may then v else nq.zero).v w X) ?_ ?_
 ·intro w X SD;generalize hu:(if v.may then v else nq.zero)=u;have hue:ES v=encI u.kind++(if u.kind=1 then Dd u.num else if u.kind=2 then rM u.text else []):=by unfold ES;simp only [hu]
  have hut:u.kind=2→u.text.size≤64:=by
   intro h2;by_cases hm:v.may=true
   ·rw [if_pos hm] at hu;subst hu;unfold nq.may at hm;rw [if_neg zQ,if_neg zQ,if_pos h2] at hm;simp at hm;omega
   ·rw [if_neg hm] at hu;rw [←hu] at h2;cases h2
  have hS1:=hS.since SD;replace hs:=hS1.s;repeat' first|refine aG ?_;intros
  refine hS1.ew (kO hS1.r zQ (af dp hs.kp.size)) kQ fun gI w2 X2 bX jN=>?_;have he:=fC u.kind;replace hs:=bX.s;repeat' first|refine aG ?_;intros
  refine ir (fun k=> ∀w X kh,WS w0 vb w X lo wb kh (bs++ES v)→k w X) ?_ ?_
  ·intro w X kh dy;exact dy.fin
  ·intro K hK;rw [hue,←aC] at hK;repeat' first|refine aG ?_;intros|refine dj ?_ ?_<;>intros
   ·refine bX.ew (HE bX.r (by simp;omega) (af dp hs.kp.size)) kQ fun kh w3 X3 dy lT=>?_;replace hs:=dy.s
    skip
    rw [if_pos zQ] at hK;exact hK _ _ _ dy
   ·refine bX.ew (KG bX.r (by simp;omega) (af dp hs.kp.size) (by have:=hut zQ;omega)) kQ fun kh w3 X3 dy lT=>?_;replace hs:=dy.s
    skip
    rw [if_neg zQ,if_pos zQ] at hK;exact hK _ _ _ dy
   ·rw [if_neg zQ,if_neg zQ] at hK;rw [fE] at hK;exact hK _ _ _ bX
 ·intro K hK;have hs:=aj.init w0;cases hm:v.may<;>rw [hm] at hK
  ·repeat' first|refine aG ?_;intros|((with_reducible refine dI (ns _) ?_ hs.has ?_ ?_);(· kernel_rfl);all_goals (intro _ w X ao;replace hs:=hs.trans ao))
   all_goals first|exact hK _ _ hs|(exfalso;simp_all)
  ·repeat' first|refine aG ?_;intros|((with_reducible refine dI (ns _) ?_ hs.has ?_ ?_);(· kernel_rfl);all_goals (intro _ w X ao;replace hs:=hs.trans ao))
   all_goals first|exact hK _ _ hs|(exfalso;simp_all)
theorem iE {w:World} {X Z:XS} {lo wb cb xb xo:Nat} {vb:Value} {bs:List Nat} {n:Int} (h:Wr w X lo wb vb bs) (hc:Cells w Z cb 0 (jg wb)) (hx:Cells w Z xb xo [I n]) (hZ:qe Z X wb vb) (hb:bs.length≤2^38) (ez:lo≤w.heap.size):
  ly 229 #[ptr cb 0,ptr xb xo] w X lo wb vb bs (encI n):=by
 intro w0 hk;have dp:lo≤w0.heap.size:=af ez hk.size;replace hc:=hc.mv (hZ.mv hk);replace hx:=hx.mv (hZ.mv hk);have hS:=WS.init (h.mv hk.cE);apply HH;unfold zm;have hs:=hS.s;repeat' first|refine aG ?_;intros
 refine hS.ew (kO hS.r zQ dp) kQ fun gI w2 X2 bX jN=>?_
 skip
 exact bX.fin
theorem wG {w:World} {X Z:XS} {lo wb cb xb xo:Nat} {vb:Value} {bs:List Nat} {s:BA} (h:Wr w X lo wb vb bs) (hc:Cells w Z cb 0 (jg wb)) (hx:Cells w Z xb xo [.string s]) (hZ:qe Z X wb vb) (hb:bs.length≤2^38) (ez:lo≤w.heap.size) (bE:s.size≤2^38):
  ly 283 #[ptr cb 0,ptr xb xo] w X lo wb vb bs (rM s):=by
 intro w0 hk;have dp:lo≤w0.heap.size:=af ez hk.size;replace hc:=hc.mv (hZ.mv hk);replace hx:=hx.mv (hZ.mv hk);have hS:=WS.init (h.mv hk.cE);apply GM;unfold xV;have hs:=hS.s;repeat' first|refine aG ?_;intros
 refine hS.ew (KG hS.r zQ dp bE) kQ fun gI w2 X2 bX jN=>?_
 skip
 exact bX.fin
theorem iN {w:World} {X Z:XS} {lo wb cb xb xo:Nat} {vb:Value} {bs:List Nat} {s:aO} (h:Wr w X lo wb vb bs) (hc:Cells w Z cb 0 (jg wb)) (hx:Cells w Z xb xo s.l) (hZ:qe Z X wb vb) (hb:bs.length≤2^37) (ez:lo≤w.heap.size):
  ly 235 #[ptr cb 0,ptr xb xo] w X lo wb vb bs (pa s):=by
 have e1:=fC s.wall;have e2:=fC s.dv;intro w0 hk;have dp:lo≤w0.heap.size:=af ez hk.size;replace hc:=hc.mv (hZ.mv hk);replace hx:=hx.mv (hZ.mv hk);have hS:=WS.init (h.mv hk.cE);apply EW;unfold wH;have hs:=hS.s;repeat' first|refine aG ?_;intros
 refine hS.ew (iE (hS.r) (hc.mv hS.at) (Cells.mv (by assumption) hS.at) hS.z zQ dp) kQ fun gI w2 X2 bX jN=>?_;replace hs:=bX.s;repeat' first|refine aG ?_;intros
 refine bX.ew (iE (bX.r) (hc.mv bX.at) (Cells.mv (by assumption) bX.at) bX.z (by simp;omega) (af dp hs.kp.size)) kQ fun kh w3 X3 dy lT=>?_;replace hs:=dy.s;repeat' first|refine aG ?_;intros
 refine dy.ew (iE (dy.r) (hc.mv dy.at) (Cells.mv (by assumption) dy.at) dy.z (by simp;omega) (af dp hs.kp.size)) kQ fun MR w4 X4 fI sj=>?_;replace hs:=fI.s
 skip
 rw [aC,aC,←aC (encI s.wall)] at fI;exact fI.fin
theorem uk {w:World} {X Z:XS} {lo wb cb xb xo:Nat} {vb:Value} {bs:List Nat} {s:eh} (h:Wr w X lo wb vb bs) (hc:Cells w Z cb 0 (jg wb)) (hx:Cells w Z xb xo s.l) (hZ:qe Z X wb vb) (hb:bs.length≤2^37) (ez:lo≤w.heap.size):
  ly 233 #[ptr cb 0,ptr xb xo] w X lo wb vb bs (AI s):=by
 have e1:=fC s.iP;have e2:=fC s.lu;intro w0 hk;have dp:lo≤w0.heap.size:=af ez hk.size;replace hc:=hc.mv (hZ.mv hk);replace hx:=hx.mv (hZ.mv hk);have hS:=WS.init (h.mv hk.cE);apply HI;unfold zn;have hs:=hS.s;repeat' first|refine aG ?_;intros
 refine hS.ew (iE (hS.r) (hc.mv hS.at) (Cells.mv (by assumption) hS.at) hS.z zQ dp) kQ fun gI w2 X2 bX jN=>?_;replace hs:=bX.s;repeat' first|refine aG ?_;intros
 refine bX.ew (iE (bX.r) (hc.mv bX.at) (Cells.mv (by assumption) bX.at) bX.z (by simp;omega) (af dp hs.kp.size)) kQ fun kh w3 X3 dy lT=>?_;replace hs:=dy.s;repeat' first|refine aG ?_;intros
 refine dy.ew (iE (dy.r) (hc.mv dy.at) (Cells.mv (by assumption) dy.at) dy.z (by simp;omega) (af dp hs.kp.size)) kQ fun MR w4 X4 fI sj=>?_;replace hs:=fI.s
 skip
 rw [aC,aC,←aC (encI s.iP)] at fI;exact fI.fin
theorem uY (s:BA):(rM s).length=(encI s.size).length+s.size:=by
 unfold rM;rw [ae,aA]
 congr 1
theorem SL {v:nq} :(ES v).length≤100:=by
 unfold ES;generalize hu:(if v.may then v else nq.zero)=u;have h1:=fC u.kind;have hut:u.kind=2→u.text.size≤64:=by
  intro h2;by_cases hm:v.may=true
  ·rw [if_pos hm] at hu;subst hu;unfold nq.may at hm;rw [if_neg zQ,if_neg zQ,if_pos h2] at hm;simp at hm;omega
  ·rw [if_neg hm] at hu;rw [←hu] at h2;cases h2
 dsimp only;rw [ae];by_cases k1:u.kind=1
 ·rw [if_pos k1];unfold Dd;simp;omega
 ·rw [if_neg k1];by_cases k2:u.kind=2
  ·rw [if_pos k2];have h3:=hut k2;have h4:=fC u.text.size;rw [uY];omega
  ·rw [if_neg k2];simp;omega
theorem zK {w:World} {X Z:XS} {lo wb cb xb xo:Nat} {vb:Value} {bs:List Nat} {v:nq} (h:Wr w X lo wb vb bs) (hc:Cells w Z cb 0 (jg wb)) (hx:Cells w Z xb xo v.l) (hZ:qe Z X wb vb) (hb:bs.length≤2^37) (ez:lo≤w.heap.size):
  ly 289 #[ptr cb 0,ptr xb xo] w X lo wb vb bs (ES v):=by
 intro w0 hk;have dp:lo≤w0.heap.size:=af ez hk.size;replace hc:=hc.mv (hZ.mv hk);replace hx:=hx.mv (hZ.mv hk);have hS:=WS.init (h.mv hk.cE);apply EX;unfold wI;have hs:=hS.s;repeat' first|refine aG ?_;intros
 refine hS.ew (VD hS.r zQ dp) kQ fun gI w2 X2 bX jN=>?_
 skip
 exact bX.fin
theorem QY {w:World} {X Z:XS} {lo wb cb xb xo:Nat} {vb:Value} {bs:List Nat} {x:KV} (h:Wr w X lo wb vb bs) (hc:Cells w Z cb 0 (jg wb)) (hx:Cells w Z xb xo x.l) (hZ:qe Z X wb vb) (hb:bs.length≤2^35) (ez:lo≤w.heap.size) (bE:x.key.size≤2^35):
  ly 238 #[ptr cb 0,ptr xb xo] w X lo wb vb bs (oh x):=by
 have e1:(rM x.key).length≤10+x.key.size:=by
  have:=fC x.key.size;rw [uY];omega
 intro w0 hk;have dp:lo≤w0.heap.size:=af ez hk.size;replace hc:=hc.mv (hZ.mv hk);replace hx:=hx.mv (hZ.mv hk);have hS:=WS.init (h.mv hk.cE);apply EY;unfold wJ;have hs:=hS.s;repeat' first|refine aG ?_;intros
 refine hS.ew (wG hS.r (hc.mv hS.at) (Cells.mv (by assumption) hS.at) hS.z zQ dp zQ) kQ fun gI w2 X2 bX jN=>?_;replace hs:=bX.s;repeat' first|refine aG ?_;intros
 refine bX.ew (zK (v:=x.val) bX.r (hc.mv bX.at) (Cells.mv (by assumption) bX.at) bX.z (by simp;omega) (af dp hs.kp.size)) kQ fun kh w3 X3 dy lT=>?_;replace hs:=dy.s
 skip
 rw [aC] at dy;exact dy.fin
theorem SM {w:World} {X Z:XS} {lo wb cb xb xo:Nat} {vb:Value} {bs:List Nat} {x:KV} (h:Wr w X lo wb vb bs) (hc:Cells w Z cb 0 (jg wb)) (hx:Cells w Z xb xo x.l) (hZ:qe Z X wb vb) (hb:bs.length≤2^35) (ez:lo≤w.heap.size) (bE:x.key.size≤2^35):
  ly 240 #[ptr cb 0,ptr xb xo] w X lo wb vb bs (oh x):=by
 have e1:(rM x.key).length≤10+x.key.size:=by
  have:=fC x.key.size;rw [uY];omega
 intro w0 hk;have dp:lo≤w0.heap.size:=af ez hk.size;replace hc:=hc.mv (hZ.mv hk);replace hx:=hx.mv (hZ.mv hk);have hS:=WS.init (h.mv hk.cE);apply GN;unfold xW;have hs:=hS.s;repeat' first|refine aG ?_;intros
 refine hS.ew (wG hS.r (hc.mv hS.at) (Cells.mv (by assumption) hS.at) hS.z zQ dp zQ) kQ fun gI w2 X2 bX jN=>?_;replace hs:=bX.s;repeat' first|refine aG ?_;intros
 refine bX.ew (zK (v:=x.val) bX.r (hc.mv bX.at) (Cells.mv (by assumption) bX.at) bX.z (by simp;omega) (af dp hs.kp.size)) kQ fun kh w3 X3 dy lT=>?_;replace hs:=dy.s
 skip
 rw [aC] at dy;exact dy.fin
theorem pc {α:Type} {f:α→List Nat} {xs:List α} {i:Nat} {x:α} (h:xs[i]? =some x):((xs.take (i+1)).map f).flatten=((xs.take i).map f).flatten++f x:=by
 rw [bg,h];simp
theorem sR (s:aO):(pa s).length≤30:=by
 have h1:=fC s.wall;have h2:=fC s.dv;have h3:=fC s.node;unfold pa;simp only [ae];omega
theorem P0 (s:eh):(AI s).length≤30:=by
 have h1:=fC s.iP;have h2:=fC s.lu;have h3:=fC s.sq;unfold AI;simp only [ae];omega
end Go.Proofs.YtfndblbeikocdaaGreat
