/-
 Part 7 of the proof: what the last text leans on.
-/
import Derived.Test.YtpdkoaklobnegaaGreatH6
open Nat renaming le_trans → ah, zero_le → aN, mod_eq_of_lt → ek, mul_le_mul_right → fb, pow_succ → jg, mul_comm → wD, lt_of_lt_of_le → aK, div_div_eq_div_mul → sn
open List renaming length_append → ae, append_assoc → au, take_of_length_le → bN, mem_of_getElem? → aX, length_map → aG, all_cons → iN, length_cons → aY, map_append → aT, length → az, map_cons → bc, flatten_cons → cD, length_take → bp, length_nil → bz, append_nil → bZ, mem_of_mem_take → iQ, getElem?_take_of_lt → gw, getElem?_drop → gV
open BitVec renaming ofInt → aQ, ofNat → mF, toNat_ofNat → fc, allOnes → AH, allOnes_xor → vH, toNat_not → yv
open Go.IntKind renaming signed → gC, bits → iI, wrap → jZ
open UInt8 renaming toNat → ni
open Go.Op renaming unary → bg, intBits → zA
open Int renaming fdiv_eq_ediv_of_nonneg → lY
open Option.some renaming injEq → aB
open Array renaming length_toList → dC
set_option linter.unusedVariables false
set_option linter.unusedSimpArgs false
namespace Go.Proofs.YtpdkoaklobnegaaGreat
open Go.Proofs.Tryz renaming prog → pg
open Go.dL
set_option maxRecDepth 100000
set_option maxHeartbeats 1000000
set_option linter.unusedVariables false
set_option linter.unusedSimpArgs false
attribute [local irreducible] un jn bq aS bb gy dV dD cK lJ ez kV yC xf gU gH aa ay aD eW eV eU eC eF gE ao fin aR aE aJ vS yD jw jA tq A6 A7 yE A8 yF jx jB tt A9 Ba yG Bb
def Gu (l:List jl):Prop:= ∀h∈l,h.key.size≤2^40
def Gv (l:List eG):Prop:= ∀p∈l,(∀k∈p.reads,k.size≤2^40)∧ ∀x∈p.writes,x.key.size≤2^40
structure State.small (s:State):Prop where
 h:Aa s.ia
 p:Ab s.g8
 hk:Gu s.ia
 pk:Gv s.g8
structure Rec.small (r:Rec):Prop where
 reads:r.reads.length≤2^40
 writes:r.writes.length≤2^40
 rk: ∀k∈r.reads,k.size≤2^40
 wk: ∀x∈r.writes,x.key.size≤2^40
 state:r.state.small
def l9.has (r:l9) (x:Nat):Bool:=(PW x r.lo||DU x r.lo)&&Kl x r.hi
def l9.key (r:l9) (k:BA):Bool:=r.has (placeOf k)
def State.inside (s:State):Bool:=s.ia.all (fun h=>s.range.key h.key)&&s.g8.all fun p=>p.reads.all s.range.key&&p.writes.all fun x=>s.range.key x.key
def State.may (s:State):Bool:=s.range.may&&s.floor.may&&s.closed.may&&decide (Gk s.ia s.g8=0)&&s.inside
theorem K7 {w:World} {X:XS} {s:State} {vh vp:Value} {k:BA} {b:Nat} (h:Cells w X b 0 (s.l vh vp)) (ai:k.size≤2^62):
  Ct pg 247 #[.string k,ptr b 0] w X nX fun v _ _=>v=B (s.range.key k):=by
 intro w0 hk;replace h:=h.mv hk.dm;apply I5;unfold za;have hs:=aj.init w0;repeat' first|refine aI ?_;intros|((with_reducible refine dI (abP _ _) ?_ hs.has ?_ ?_);(· kernel_rfl);all_goals (intro _ w X aq;replace hs:=hs.trans aq))|((with_reducible refine gh (abS _ (by first|assumption|omega)) ?_ hs.has ?_);(· kernel_rfl);intro w X aq;replace hs:=hs.trans aq)|((first|(with_reducible refine ak hs ?_)|(with_reducible refine ak (bT.trans hs) ?_));intro wa hk;(simp [l9.key,l9.has, *]))
theorem Ek {w:World} {X:XS} {s:State} {vh vp:Value} (h1:mi w X vh s.ia) (h2:lF w X vp s.g8) (jo:s.small):
  Ct pg 167 #[s.v vh vp] w X nX fun v _ _=>v=B s.may:=by
 intro w0 hk;replace h1:=h1.mv hk.dm;replace h2:=h2.mv hk.dm;have Am:=h1.len;have xw:=h2.len;have o1:=h1.one;have o2:=h2.one;apply Ot;unfold Dg;have hs:=aj.init w0;repeat' first|refine aI ?_;intros|refine de ?_ ?_<;>intros|(with_reducible apply kX);(case hX=>exact hs.has);intro bx w X gT aq dA;have bT:=hs.trans aq;replace hs:=aj.dY aq.has|with_reducible apply cG|((with_reducible refine dI (oz _) ?_ hs.has ?_ ?_);(· kernel_rfl);all_goals (intro _ w X aq;replace hs:=hs.trans aq))|((with_reducible refine dI (Ng _) ?_ hs.has ?_ ?_);(· kernel_rfl);all_goals (intro _ w X aq;replace hs:=hs.trans aq))|((first|(with_reducible refine ak hs ?_)|(with_reducible refine ak (bT.trans hs) ?_));intro wa hk;(simp [State.may, *]))|(refine cJ ((YZ (hl:=s.ia) (pl:=s.g8))  qA qA jo.h jo.p) kQ hs.has ?_;rintro _ wa w X ⟨u,rfl⟩ hle fU aq;have fv:=ah hs.kp.size hle;replace hs:=hs.trans aq)
 have Cp: ∀k:BA,k.size≤2^40→ ∀w X,aj _ _ X w→Ct pg 247 #[.string k,ptr bx 0] w X nX fun v _ _=>v=B (s.range.key k):=fun k hk w X hs=>K7 (dA.since hs).cells zQ;have abW:s.may=s.inside:=by simp [State.may, *]
 refine fV (fun n a w X=> ∃i:Nat,a=I (i:Nat)∧n=s.ia.length-i∧i≤s.ia.length∧aj _ _ X w∧
  (s.ia.all (fun h=>s.range.key h.key))=((s.ia.drop i).all fun h=>s.range.key h.key)) s.ia.length ⟨0,rfl,rfl,aN _,hs,by simp⟩ ?_
 rintro n a w X ⟨i,rfl,rfl,hi,hs,hw⟩;rcases ej (s.ia) i with⟨cH,x,hx,hd⟩|⟨eh,hd⟩
 ·rw [hd,iN] at hw;have hkx:=jo.hk x (aX hx);repeat' first|refine bL ?_;intros|((with_reducible apply Lr);assumption;(try (case hz=>rfl));(case hr=>exact qR);(try (case hz=>omega));(case ht=>kernel_rfl);(case hs=>kernel_rfl);intros)|((first|(with_reducible refine ak hs ?_)|(with_reducible refine ak (bT.trans hs) ?_));intro wa hk;(simp [abW,State.inside,hw, *]))|(refine gJ (Cp x.key hkx _ _ hs) kQ hs.has ?_ ?_<;>(intro _ w X aq;replace hs:=hs.trans aq))|((with_reducible refine fF ((s.ia).length-(i+1)) ?_ ?_);omega;exact⟨i+1,by simp,rfl,by omega,hs,by rw [hw];simp [*]⟩)
 ·rw [hd] at hw;repeat' first|refine bL ?_;intros
  refine Fw (fun n a _ _ w X=> ∃i:Nat,a=I (i:Nat)∧n=s.g8.length-i∧i≤s.g8.length∧aj _ _ X w∧
   (s.g8.all fun p=>p.reads.all s.range.key&&p.writes.all fun x=>s.range.key x.key)=((s.g8.drop i).all fun p=>p.reads.all s.range.key&&p.writes.all fun x=>s.range.key x.key)) s.g8.length ⟨0,rfl,rfl,aN _,hs,by simp⟩ ?_
  rintro n a a2 a3 w X ⟨j,rfl,rfl,hj,hs,wQ⟩;rcases ej s.g8 j with⟨cH,p,hp,pY⟩|⟨GJ,pY⟩
  ·rw [pY,iN] at wQ;obtain⟨qs,jG⟩:=jo.pk p (aX hp);repeat' first|refine bL ?_;intros|((with_reducible apply T7);assumption;(try (case hz=>rfl));(case hr=>exact qR);(try (case hz=>omega));(case ht=>kernel_rfl);(case hs=>kernel_rfl);intros)
   have hl3:=Sl.fQ ‹Sl w0 (ba w0) 1 _ (p.reads.map S1)›;have hl4:=Sl.fQ ‹Sl w0 (ba w0) 4 _ (p.writes.map KV.l)›;refine fV (fun n a w X=> ∃i:Nat,a=I (i:Nat)∧n=p.reads.length-i∧i≤p.reads.length∧aj _ _ X w∧p.reads.all s.range.key=(p.reads.drop i).all s.range.key) p.reads.length ⟨0,rfl,rfl,aN _,hs,by simp⟩ ?_;rintro n a w X ⟨k,rfl,rfl,hk3,hs,yQ⟩;rcases ej p.reads k with⟨am4,y,hy,hd3⟩|⟨am5,hd3⟩
   ·rw [hd3,iN] at yQ;have hky:=qs y (aX hy);repeat' first|refine bL ?_;intros|((first|(with_reducible refine ak hs ?_)|(with_reducible refine ak (bT.trans hs) ?_));intro wa hk;(simp [abW,State.inside,wQ,yQ, *]))|(refine gJ (Cp y hky _ _ hs) kQ hs.has ?_ ?_<;>(intro _ w X aq;replace hs:=hs.trans aq))|((with_reducible refine fF (p.reads.length-(k+1)) ?_ ?_);omega;exact⟨k+1,by simp,rfl,by omega,hs,by rw [yQ];simp [*]⟩)
   ·rw [hd3] at yQ;repeat' first|refine bL ?_;intros
    refine fV (fun n a w X=> ∃i:Nat,a=I (i:Nat)∧n=p.writes.length-i∧i≤p.writes.length∧aj _ _ X w∧(p.writes.all fun x=>s.range.key x.key)=(p.writes.drop i).all fun x=>s.range.key x.key) p.writes.length ⟨0,rfl,rfl,aN _,hs,by simp⟩ ?_;rintro n a w X ⟨m,rfl,rfl,hm,hs,Au⟩;rcases ej p.writes m with⟨am6,y,hy,hd4⟩|⟨am7,hd4⟩
    ·rw [hd4,iN] at Au;have hky:=jG y (aX hy);repeat' first|refine bL ?_;intros|((first|(with_reducible refine ak hs ?_)|(with_reducible refine ak (bT.trans hs) ?_));intro wa hk;(simp [abW,State.inside,wQ,yQ,Au, *]))|(refine gJ (Cp y.key hky _ _ hs) kQ hs.has ?_ ?_<;>(intro _ w X aq;replace hs:=hs.trans aq))|((with_reducible refine fF (p.writes.length-(m+1)) ?_ ?_);omega;exact⟨m+1,by simp,rfl,by omega,hs,by rw [Au];simp [*]⟩)
    ·rw [hd4] at Au;repeat' first|refine bL ?_;intros|((with_reducible refine Cy (s.g8.length-(j+1)) ?_ ?_);omega;exact⟨j+1,by simp,rfl,by omega,hs,by rw [wQ,yQ,Au];simp⟩)
  ·rw [pY] at wQ;repeat' first|refine bL ?_;intros|((first|(with_reducible refine ak hs ?_)|(with_reducible refine ak (bT.trans hs) ?_));intro wa hk;(rw [abW,State.inside,hw,wQ];rfl))
def ik (prev st:bE) (t:gf) (l:List KV):Bool:=prev.may&&decide (prev.cmp st<0)&&decide (l≠[])&&decide (eG.err ⟨t,st,[],l⟩=0)
theorem Dm {w:World} {X:XS} {prev st:bE} {t:gf} {l:List KV} {a:Value} (h:Sl w X 4 a (l.map KV.l)) (hb:l.length≤2^40):
  Ct pg 168 #[prev.v,st.v,t.v,a] w X nX fun v _ _=>v=B (ik prev st t l):=by
 intro w0 hk;replace h:=h.mv hk.dm;obtain⟨b1,n1,c1,rfl⟩:=h.form;apply TB;unfold Iq;have hs:=aj.init w0;repeat' first|refine aI ?_;intros|refine de ?_ ?_<;>intros|with_reducible apply cG|((with_reducible refine gh (pz _ _) ?_ hs.has ?_);(· kernel_rfl);intro w X aq;replace hs:=hs.trans aq)|((with_reducible refine dI (oz _) ?_ hs.has ?_ ?_);(· kernel_rfl);all_goals (intro _ w X aq;replace hs:=hs.trans aq))|((first|(with_reducible refine ak hs ?_)|(with_reducible refine ak (bT.trans hs) ?_));intro wa hk;(simp_all [ik]<;>omega))|(refine dy (uT  (p:=⟨t,st,[],l⟩) (Sl.nil _ _ _) qA hb) kQ hs.has ?_;intro w X aq;replace hs:=hs.trans aq)
def aah (x:Nat):Bool:=decide ((B5 x).2=0)&&PW (B5 x).1 0&&Kl (B5 x).1 Qr
def sB (n:Int):Bool:=decide (n≥1)&&decide (n≤12)
def Rec.pP (r:Rec):Bool:=
 if r.kind=1 then r.state.may
 else if r.kind=2 then decide (r.n≥0)&&decide (r.n≤281474976710656)
 else if r.kind=3 then decide (eG.err ⟨r.cB,r.aP,r.reads,r.writes⟩=0)&&zy r.parts
 else if r.kind=4 then r.cB.may&&r.aP.RU r.jW
 else if r.kind=5 then r.aP.may
 else if r.kind=6 then aah r.rq&&sB r.n&&r.aP.may
 else if r.kind=7 then sB r.n
 else if r.kind=8 then decide (r.n≥1)
 else if r.kind=9 then r.cB.may&&r.aP.Qo&&zy r.parts
 else if r.kind=10 then r.cB.may
 else if r.kind=11 then ik r.prev r.aP r.cB r.writes
 else r.aP.may&&sw r.bF
theorem TP {w:World} {X:XS} {r:Rec} {vr vw vp vq vh vd:Value} (h:r.at w X vr vw vp vq vh vd) (jo:r.small):
  Ct pg 224 #[r.v vr vw vp vq vh vd] w X nX fun v _ _=>v=B r.pP:=by
 intro w0 hk;obtain⟨h1,h2,h3,h4,h5,h6⟩:=h.mv hk.dm;obtain⟨b1,n1,c1,rfl⟩:=h1.form;obtain⟨b2,n2,c2,rfl⟩:=h2.form;apply RJ;unfold FU;have hs:=aj.init w0;repeat' first|refine aI ?_;intros|refine de ?_ ?_<;>intros|with_reducible apply cG|((with_reducible refine dI (oz _) ?_ hs.has ?_ ?_);(· kernel_rfl);all_goals (intro _ w X aq;replace hs:=hs.trans aq))|((with_reducible refine dI (AV _) ?_ hs.has ?_ ?_);(· kernel_rfl);all_goals (intro _ w X aq;replace hs:=hs.trans aq))|((with_reducible refine dI (RV _ _) ?_ hs.has ?_ ?_);(· kernel_rfl);all_goals (intro _ w X aq;replace hs:=hs.trans aq))|((with_reducible refine gh (TJ _) ?_ hs.has ?_);(· kernel_rfl);intro w X aq;replace hs:=hs.trans aq)|((with_reducible refine dI (TH _) ?_ hs.has ?_ ?_);(· kernel_rfl);all_goals (intro _ w X aq;replace hs:=hs.trans aq))|((with_reducible refine dI (Iw _) ?_ hs.has ?_ ?_);(· kernel_rfl);all_goals (intro _ w X aq;replace hs:=hs.trans aq))|(refine gJ (Ek  (s:=r.state) qA qA jo.state) kQ hs.has ?_ ?_<;>(intro _ w X aq;replace hs:=hs.trans aq))|(refine dy (uT  (p:=⟨r.cB,r.aP,r.reads,r.writes⟩) qA qA jo.writes) kQ hs.has ?_;intro w X aq;replace hs:=hs.trans aq)|(refine gJ (K3  qA) kQ hs.has ?_ ?_<;>(intro _ w X aq;replace hs:=hs.trans aq))|(refine gJ (XA  qA) kQ hs.has ?_ ?_<;>(intro _ w X aq;replace hs:=hs.trans aq))|(refine gJ ((Dm (l:=r.writes))  qA jo.writes) kQ hs.has ?_ ?_<;>(intro _ w X aq;replace hs:=hs.trans aq))
 all_goals
  (with_reducible refine ak hs ?_)
  intro wa aM;unfold Rec.pP;repeat (first|rw [if_pos zQ]|rw [if_neg zQ])
  simp_all [aah,sB,Qr]<;>omega
def Rec.err (r:Rec):Int:=if !r.strip.2 then 7 else if !r.strip.1.isZero||!r.pP then 4 else 0
theorem HF {w:World} {X:XS} {r:Rec} {vr vw vp vq vh vd:Value} (h:r.at w X vr vw vp vq vh vd) (jo:r.small):
  Ct pg 155 #[r.v vr vw vp vq vh vd] w X nX fun v _ _=>v=I r.err:=by
 intro w0 hk;have h:=h.mv hk.dm;apply YR;unfold M6;have hs:=aj.init w0;refine cJ (RX h) kQ hs.has ?_;rintro v wa w X ⟨XB,XC,XD,vq',XE,XF,rfl,fm⟩ hle fU aq;replace hs:=hs.trans aq;have q1:=fm.1.one;have q2:=fm.2.1.one;have q3:=fm.2.2.1.one;have q4:=fm.2.2.2.1.one;have q5:=fm.2.2.2.2.1.one;have q6:=fm.2.2.2.2.2.one;cases hb:r.strip.2<;>
 repeat' first|refine aI ?_;intros|with_reducible apply cG|((first|(with_reducible refine ak hs ?_)|(with_reducible refine ak (bT.trans hs) ?_));intro wa hk;(simp [Rec.err, *]))|(refine gJ (YY  (r:=r.strip.1) qA) kQ hs.has ?_ ?_<;>(intro _ w X aq;replace hs:=hs.trans aq))|(refine gJ ((TP (r:=r))  (h.mv (aj.mv hs)) jo) kQ hs.has ?_ ?_<;>(intro _ w X aq;replace hs:=hs.trans aq))
abbrev U1 (b:Nat):List Value:=[.int .u8 b]
def nv (u:Nat):List Nat:=if u<128 then [u] else(u % 128+128)::nv (u/128)
termination_by u
decreasing_by omega
def qV (n:Int):Nat:=if n<0 then 18446744073709551615-((n % 18446744073709551616).toNat*2 % 18446744073709551616)else(n % 18446744073709551616).toNat*2 % 18446744073709551616
def encI (n:Int):List Nat:=nv (qV n)
theorem Nz: ∀(k u:Nat),u<128^k→(nv u).length≤max k 1
 |0,u,h=>by
  have:u=0:=by simpa using h
  subst this;unfold nv;simp
 |k+1,u,h=>by
  unfold nv;split
  ·simp only [aY,bz];omega
  ·have hk:1≤k:=by
    rcases k with _|k
    ·simp at h;omega
    ·exact Nat.le_add_left _ _
   have h1:u/128<128^k:=by
    rw [Nat.div_lt_iff_lt_mul (by decide),←jg];exact h
   have:=Nz k (u/128) h1;simp only [aY];omega
theorem adt (n:Int):qV n<18446744073709551616:=by
 unfold qV;split<;>omega
theorem dW (n:Int):(encI n).length≤10:=by
 have:=Nz 10 (qV n) (aK (adt n) (by decide));unfold encI;omega
def ki (s:BA):List Nat:=encI s.size++s.data.toList.map ni
def CN (u k:Nat):Nat:=u/256^k % 256
def rG (x:Nat):List Nat:=(List.range 8).map (CN (canon x))
def kE (v:eQ):List Nat:=
 let v:=if v.may then v else eQ.zero
 encI v.kind++(if v.kind=1 then rG v.num else if v.kind=2 then ki v.text else [])
def aaI (b:Bool):List Nat:=[if b then 1 else 0]
def je (s:bE):List Nat:=encI s.wall++encI s.fi++encI s.node
def pE (t:gf):List Nat:=encI t.jr++encI t.mA++encI t.sq
def cM (x:KV):List Nat:=ki x.key++kE x.val
def fY {α:Type} (f:α→List Nat) (l:List α):List Nat:=encI l.length++(l.map f).flatten
theorem Own.tag {w:World} {X:XS} {lo e k:Nat} {v:Value} {rows:List (List Value)} (h:Own w X lo e k v rows) {g:Nat} (hg:v.ownBlock=some g): ∃cs:List Value,w.heap[g]? =some (.cells cs.toArray e (0,0)):=by
 rcases h.row with⟨rfl,_⟩|⟨b,cap,cs,rfl,_,hr,_⟩
 ·cases hg
 ·simp only [Value.ownBlock,aB] at hg;subst hg;exact⟨cs,hr.2⟩
theorem Own.dJ {w:World} {X Y:XS} {lo e e' k g:Nat} {v:Value} {rows:List (List Value)} {cs:List Value} (h:Own w X lo e k v rows) (hr:bH w Y g cs e') (he:decide (e≠e')=true):v.ownBlock≠some g:=fun hg=>by
 obtain⟨c,h1⟩:=Own.tag h hg;rw [hr.2] at h1;simp only [aB,Obj.cells.injEq] at h1;exact of_decide_eq_true he h1.2.1.symm
theorem wrap64 (n:Int):IntKind.u64.wrap n=n % 18446744073709551616:=by
 simp only [jZ,iI,gC];simp
theorem DI (n:Int):IntKind.u8.wrap n=n % 256:=by
 simp only [jZ,iI,gC];simp
section
variable {P : Program} {X : XS} {w : World} {N : Value → Prop} {t : TypeId}
theorem Qt {src dst:TypeId} {k:IntKind} {u:Nat} (hs:(P.underlying src).isSome=true) (hd:P.underlying dst=some (.int .u8)) (h:N (.int .u8 ((u % 256:Nat):Int))):aa P X w (kV .u8 src dst (.int k (u:Int))) N:=
 abI hs hd (by rw [DI];exact h)
theorem XI (u:Nat):IntKind.u8.wrap (u:Int)=((u % 256:Nat):Int):=by rw [DI];omega
theorem ai6 {u:Nat} (h:N (.int .u64 ((u*2 % 18446744073709551616:Nat):Int))):aa P X w (binOp .shl t (.int .u64 (u:Int)) (.int .u64 1)) N:=
 Lm zQ (by
  rw [wrap64];have e:((u:Int)*2^min (1:Int).toNat IntKind.u64.bits) % 18446744073709551616=((u*2 % 18446744073709551616:Nat):Int):=by
   show((u:Int)*2^1) % 18446744073709551616=_
   omega
  rw [e];exact h)
theorem ai7 {u:Nat} (h:N (.int .u64 ((u/128:Nat):Int))):aa P X w (binOp .shr t (.int .u64 (u:Int)) (.int .u64 7)) N:=
 B4 zQ (by
  have e:((u:Int)).fdiv (2^min (7:Int).toNat IntKind.u64.bits)=((u/128:Nat):Int):=by
   show((u:Int)).fdiv 128=_
   rw [lY _ (by decide)];omega
  rw [e];exact h)
theorem ai8 {u:Nat} (h:N (.int .u64 ((u/256:Nat):Int))):aa P X w (binOp .shr t (.int .u64 (u:Int)) (.int .u64 8)) N:=
 B4 zQ (by
  have e:((u:Int)).fdiv (2^min (8:Int).toNat IntKind.u64.bits)=((u/256:Nat):Int):=by
   show((u:Int)).fdiv 256=_
   rw [lY _ (by decide)];omega
  rw [e];exact h)
theorem ai9 {u:Nat} (hu:u<18446744073709551616) (h:N (.int .u64 ((18446744073709551615-u:Nat):Int))):aa P X w (bg .xor (.int .u64 (u:Int))) N:=by
 refine bX (v:=.int .u64 ((18446744073709551615-u:Nat):Int)) (fun wa=>?_) h;have key:(aQ 64 18446744073709551615^^^aQ 64 (u:Int)).toNat=18446744073709551615-u:=by
  have h1:aQ 64 18446744073709551615=AH 64:=by decide
  have h2:(aQ 64 (u:Int))=mF 64 u:=by simp
  rw [h1,h2,vH,yv,fc,ek zQ]
 have e:IntKind.u64.wrap (aQ IntKind.u64.bits IntKind.u64.max^^^aQ IntKind.u64.bits (u:Int)).toNat=((18446744073709551615-u:Nat):Int):=by
  rw [wrap64]
  show((aQ 64 18446744073709551615^^^aQ 64 (u:Int)).toNat:Int) % 18446744073709551616=_
  rw [key];omega
 have hk:(bg .xor (.int .u64 (u:Int))).run P wa= .ok (.int .u64 (IntKind.u64.wrap (aQ IntKind.u64.bits IntKind.u64.max^^^aQ IntKind.u64.bits (u:Int)).toNat)) wa:=by
  simp [bg,zA,gC]
 rw [hk,e]
theorem Jx {k:IntKind} {a b:Int} (h:N (.int k (k.wrap (aQ k.bits a|||aQ k.bits b).toNat))):aa P X w (binOp .or t (.int k a) (.int k b)) N:=
 bX (fun wa=>by simp [binOp,zA]) h
theorem akC: ∀b:Nat,b<256→(aQ 8 (b:Int)|||aQ 8 128).toNat=b % 128+128:=by decide+kernel
theorem ahg {b:Nat} (hb:b<256) (h:N (.int .u8 ((b % 128+128:Nat):Int))):aa P X w (binOp .or t (.int .u8 (b:Int)) (.int .u8 128)) N:=
 Jx (by
  have e:IntKind.u8.wrap (aQ IntKind.u8.bits (b:Int)|||aQ IntKind.u8.bits 128).toNat=((b % 128+128:Nat):Int):=by
   rw [DI];have:=akC b hb
   show((aQ 8 (b:Int)|||aQ 8 128).toNat:Int) % 256=_
   rw [this];omega
  rw [e];exact h)
theorem aja {n:Int} (h:N (.int .u64 (((n % 18446744073709551616).toNat*2 % 18446744073709551616:Nat):Int))):aa P X w (binOp .shl t (.int .u64 (IntKind.u64.wrap n)) (.int .u64 1)) N:=by
 have e:IntKind.u64.wrap n=((n % 18446744073709551616).toNat:Int):=by rw [wrap64];omega
 rw [e];exact ai6 h
theorem akD {u:Nat} (h:N (.int .u8 ((u % 128+128:Nat):Int))):aa P X w (binOp .or t (.int .u8 (IntKind.u8.wrap (u:Int))) (.int .u8 128)) N:=by
 rw [XI];exact ahg zQ (by rw [show u % 256 % 128=u % 128 by omega];exact h)
end
structure Wr (w:World) (X:XS) (lo wb:Nat) (vb:Value) (bs:List Nat):Prop where
 box:bH w X wb [vb] 308
 ow:Own w X lo 5 1 vb (bs.map U1)
def BJ (wb:Nat) (vb:Value):XS:=fun k=>k=wb∨vb.ownBlock=some k
theorem Wr.mv {w w':World} {X Y:XS} {lo wb:Nat} {vb:Value} {bs:List Nat} (h:Wr w X lo wb vb bs) (m:Mv X w Y w'):Wr w' Y lo wb vb bs:=⟨h.box.mv m,h.ow.mv m⟩
theorem Wr.ne {w:World} {X:XS} {lo wb:Nat} {vb:Value} {bs:List Nat} (h:Wr w X lo wb vb bs):vb.ownBlock≠some wb:=Own.dJ h.ow h.box kQ
def kG (f:FuncId) (args:Array Value) (w:World) (X:XS) (lo wb:Nat) (vb:Value) (bs ds:List Nat):Prop:=
 Ct pg f args w X (BJ wb vb) fun v wa w'=>v= .tuple #[]∧ ∃Dn,Wr w' (fun k=>BJ wb vb k∨made wa w' k) lo wb Dn (bs++ds)
structure WS (w0:World) (oU:Value) (w:World) (X:XS) (lo wb:Nat) (vb:Value) (bs:List Nat):Prop where
 s:aj (out (BJ wb oU) w0) w0 X w
 r:Wr w X lo wb vb bs
 v: ∀g,vb.ownBlock=some g→oU.ownBlock=some g∨w0.heap.size≤g
section
variable {w0 w : World} {X : XS} {lo wb : Nat} {oU vb : Value} {bs ds : List Nat} {R : Ending → World → Prop} {N : Value → World → XS → Prop}
theorem WS.init (h:Wr w0 (ba w0) lo wb oU bs):WS w0 oU w0 (ba w0) lo wb oU bs:=⟨aj.out _ _,h,fun g hg=>.inl hg⟩
theorem WS.since {X':XS} {w':World} (h:WS w0 oU w X lo wb vb bs) (hs:aj X w X' w'):WS w0 oU w' X' lo wb vb bs:=⟨h.s.trans hs,h.r.mv hs.mv,h.v⟩
theorem WS.fin (h:WS w0 oU w X lo wb vb (bs++ds)):fin (Bo (BJ wb oU) w0 fun v w'=>(fun v wa w'=>v= .tuple #[]∧ ∃Dn,Wr w' (fun k=>BJ wb oU k∨made wa w' k) lo wb Dn (bs++ds)) v w0 w') X w (.tuple #[]):=by
 refine aac h.s fun wa hk=>⟨rfl,vb,⟨.inl (.inl rfl),(h.r.box.kp hk).2⟩,(h.r.ow.kp hk).1,(h.r.ow.kp hk).2.1,fun g hg=>?_⟩;rcases h.v g hg with h1|h1
 ·exact .inl (.inr h1)
 ·exact .inr ⟨h1,((h.r.ow.kp hk).ge hg).2⟩
theorem WS.out (h:WS w0 oU w X lo wb vb bs) {k:Nat} (hk:BJ wb vb k) (h0:out (BJ wb oU) w0 k):False:=by
 rcases hk with hk|hk
 ·exact h0.2 (.inl hk)
 ·rcases h.v k hk with h1|h1
  ·exact h0.2 (.inr h1)
  ·have:=h0.1;omega
theorem WS.dT {f:FuncId} {args:Array Value} (hS:WS w0 oU w X lo wb vb bs) (hp:kG f args w X lo wb vb bs ds) (hf:enters pg f=true)
  (k: ∀Dn w' X',WS w0 oU w' X' lo wb Dn (bs++ds)→eD (BJ wb vb) X w X' w'→N (.tuple #[]) w' X'):eC pg R X w true f args N:=by
 refine xl hp hf hS.s.has (fun q hq=>?_) fun v wa w' X' hq hle fU hkp hc=>?_
 ·rcases hq with rfl|hq
  ·exact hS.r.box.1
  ·exact hS.r.ow.2.2 q hq
 ·obtain⟨rfl,Dn,hW⟩:=hq;refine k Dn w' X' ⟨hS.s.dM hc fun q h0 hq=>hS.out hq h0,⟨⟨hc.sub _ hS.r.box.1,hW.box.2⟩,hW.ow.1,hW.ow.2.1,fun g hg=>?_⟩,fun g hg=>?_⟩ hc
  ·rcases hW.ow.2.2 g hg with h1|h1
   ·rcases h1 with rfl|h1
    ·exact hc.sub _ hS.r.box.1
    ·exact hc.sub g (hS.r.ow.2.2 g h1)
   ·exact fU g h1
  ·rcases hW.ow.2.2 g hg with h1|h1
   ·rcases h1 with rfl|h1
    ·exact absurd hg hW.ne
    ·exact hS.v g h1
   ·right;have:=h1.1;have:=hS.s.kp.size;omega
theorem K8 {b:Nat} (hS:WS w0 oU w X lo wb vb bs) (fv:lo≤w.heap.size) (hb:bs.length≤2^40)
  (k: ∀Dn w' X',WS w0 oU w' X' lo wb Dn (bs++[b])→N undef w' X'):
  eV pg R X w true (gU 95 5 1 1 #[(0,.int .u8 (b:Int))]) fun s w1 X1=>eV pg R X1 w1 true (gH 95 5 1 1 95 vb s) fun x w2 X2=>
   ay pg X2 w2 (aE (ptr wb 0)) fun p=>aa pg X2 w2 (aS 308 0 0 1 p) fun q=>eU pg R X2 w2 true (dV 95 1 q x) N:=by
 refine ahd hS.r.ow hS.s.has fv kQ (row:=U1 b) rfl rfl rfl (by simp;omega) (by simp;omega) fun v' w' X' hc ho fm=>?_;have cU: ∀q,iu vb q→q≠wb:=fun q hq e=>hS.r.ne (by rw [←e];exact hq);have gT:bH w' X' wb [vb] 308:=⟨hc.sub _ hS.r.box.1,by rw [hc.block _ hS.r.box.1 fun hq=>cU _ hq rfl];exact hS.r.box.2⟩;have qv:=hS.s.dM hc fun q h0 hq=>hS.out (.inr hq) h0;have ZC: ∀g,v'.ownBlock=some g→oU.ownBlock=some g∨w0.heap.size≤g:=fun g hg=>by
  rcases fm with e|⟨g',e,eh⟩
  ·exact hS.v g (e▸hg)
  ·rw [e] at hg;cases hg;right;have:=hS.s.kp.size;omega
 with_reducible apply vM
 have Sr:fieldInfo pg 308 0=some (0,1):=by kernel_rfl
 refine Av (gT.cells) Sr rfl fun o' HP _=>?_;subst HP;refine vO gT kQ (by simp) (by obtain⟨_,_,_,rfl⟩:=ho.sl.form;rfl) (by obtain⟨_,_,_,rfl⟩:=ho.sl.form;rfl) qv.has fun w3 X3 lL sk=>?_;have UM:v'.ownBlock≠some wb:=Own.dJ ho gT kQ;refine k v' w3 X3 ⟨qv.dM lL fun q h0 hq=>h0.2 (.inl hq),⟨?_,?_⟩,ZC⟩
 ·have e:b8 [vb] (0+0) v'.cells.toList=[v']:=by obtain⟨_,_,_,rfl⟩:=ho.sl.form;rfl
  rw [e] at sk;exact sk
 ·rw [aT];exact Own.dM ho lL fun g hg e=>UM (by rw [hg,e])
end
theorem wE {w:World} {X:XS} :Ct pg 156 #[] w X nX fun v wa w'=> ∃wb,v=ptr wb 0∧Wr w' (made wa w') wa.heap.size wb (.slice none 0 0) []:=by
 intro w0 hk;apply Mi;unfold BC;have hs:=aj.init w0;repeat' first|refine aI ?_;intros|(with_reducible apply kX);(case hX=>exact hs.has);intro bx w X gT aq dA;have bT:=hs.trans aq;replace hs:=aj.dY aq.has
 refine ak (bT.trans hs) fun wa aM=>⟨bx,rfl,⟨⟨gT,(dA.kp aM).lt⟩,(dA.kp aM).2⟩,Own.nil _ _ _ _ _⟩
theorem kO {w:World} {X:XS} {lo wb:Nat} {vb:Value} {bs:List Nat} {n:Int} (h:Wr w X lo wb vb bs) (hb:bs.length≤2^39) (fv:lo≤w.heap.size):kG 206 #[ptr wb 0,I n] w X lo wb vb bs (encI n):=by
 intro w0 hk;have cw:lo≤w0.heap.size:=ah fv hk.size;have hS:=WS.init (h.mv hk.dm);apply KU;unfold AA;have hs:=hS.s;have wy:=hS.r.box;repeat' first|refine aI ?_;intros|(with_reducible apply aja)
 refine fk (fun k=>k (.int .u64 (qV n:Int))) ?_ ?_
 ·refine fV (fun n' a w X=> ∃(u:Nat) (oA:Value) (bsi:List Nat),a= .int .u64 (u:Int)∧n'=u∧WS w0 vb w X lo wb oA bsi∧bsi++nv u=bs++encI n) (qV n) ⟨qV n,vb,bs,rfl,rfl,hS,rfl⟩ ?_;clear hs wy hS;rintro u a w X ⟨_,oA,bsi,rfl,rfl,hS,pF⟩;have hs:=hS.s;have wy:=hS.r.box;have hlen:bsi.length≤2^40:=by
   have h1:=congrArg az pF;have h2:=dW n;simp only [ae] at h1;omega
  have Ro:lo≤w.heap.size:=ah cw hs.kp.size;by_cases hu:u<128
  ·have he:nv u=[u]:=by rw [nv,if_pos hu]
   repeat' first|refine bL ?_;intros
   rw [XI,show u % 256=u by omega];refine K8 hS Ro hlen fun gz w2 X2 br=>?_;rw [←he,pF] at br;exact br.fin
  ·have he:nv u=(u % 128+128)::nv (u/128):=by rw [nv,if_neg hu]
   repeat' first|refine bL ?_;intros|(with_reducible apply akD)
   refine K8 hS Ro hlen fun gz w2 X2 br=>?_;repeat' first|(with_reducible apply ai7)
   refine fF (u/128) zQ ⟨u/128,gz,_,rfl,rfl,br,?_⟩;rw [au,List.singleton_append,←he];exact pF
 ·intro K hK;repeat' first|refine aI ?_;intros|refine de ?_ ?_<;>intros|(with_reducible apply ai9);omega
  ·have:qV n=18446744073709551615-((n % 18446744073709551616).toNat*2 % 18446744073709551616):=by unfold qV;rw [if_pos zQ]
   rw [←this];exact hK
  ·have:qV n=(n % 18446744073709551616).toNat*2 % 18446744073709551616:=by unfold qV;rw [if_neg zQ]
   rw [←this];exact hK
theorem afk (s:BA):(uA s).map (fun x=>[x])=(s.data.toList.map ni).map U1:=by
 unfold uA;simp
section
variable {w0 w : World} {X : XS} {lo wb : Nat} {oU vb : Value} {bs ds : List Nat} {R : Ending → World → Prop} {N : Value → World → XS → Prop}
theorem ajb {v':Value} {w':World} {X':XS} (hS:WS w0 oU w X lo wb vb bs) (hc:eD (iu vb) X w X' w') (ho:Own w' X' lo 5 1 v' (ds.map U1)) (fm:v'.ownBlock=vb.ownBlock∨ ∃g,v'.ownBlock=some g∧w.heap.size≤g)
  (k: ∀w' X',WS w0 oU w' X' lo wb v' ds→N undef w' X'):
  ay pg X' w' (aE (ptr wb 0)) fun p=>aa pg X' w' (aS 308 0 0 1 p) fun q=>eU pg R X' w' true (dV 95 1 q v') N:=by
 have cU: ∀q,iu vb q→q≠wb:=fun q hq e=>hS.r.ne (by rw [←e];exact hq);have gT:bH w' X' wb [vb] 308:=⟨hc.sub _ hS.r.box.1,by rw [hc.block _ hS.r.box.1 fun hq=>cU _ hq rfl];exact hS.r.box.2⟩;have qv:=hS.s.dM hc fun q h0 hq=>hS.out (.inr hq) h0;have ZC: ∀g,v'.ownBlock=some g→oU.ownBlock=some g∨w0.heap.size≤g:=fun g hg=>by
  rcases fm with e|⟨g',e,eh⟩
  ·exact hS.v g (e▸hg)
  ·rw [e] at hg;cases hg;right;have:=hS.s.kp.size;omega
 with_reducible apply vM
 have Sr:fieldInfo pg 308 0=some (0,1):=by kernel_rfl
 refine Av (gT.cells) Sr rfl fun o' HP _=>?_;subst HP;refine vO gT kQ (by simp) (by obtain⟨_,_,_,rfl⟩:=ho.sl.form;rfl) (by obtain⟨_,_,_,rfl⟩:=ho.sl.form;rfl) qv.has fun w3 X3 lL sk=>?_;have UM:v'.ownBlock≠some wb:=Own.dJ ho gT kQ;refine k w3 X3 ⟨qv.dM lL fun q h0 hq=>h0.2 (.inl hq),⟨?_,?_⟩,ZC⟩
 ·have e:b8 [vb] (0+0) v'.cells.toList=[v']:=by obtain⟨_,_,_,rfl⟩:=ho.sl.form;rfl
  rw [e] at sk;exact sk
 ·exact Own.dM ho lL fun g hg e=>UM (by rw [hg,e])
end
theorem Nh {w:World} {X:XS} {lo wb:Nat} {vb:Value} {bs:List Nat} {s:BA} (h:Wr w X lo wb vb bs) (hb:bs.length≤2^38) (fv:lo≤w.heap.size) (bT:s.size≤2^38):kG 291 #[ptr wb 0,.string s] w X lo wb vb bs (ki s):=by
 intro w0 hk;have cw:lo≤w0.heap.size:=ah fv hk.size;have hS:=WS.init (h.mv hk.dm);apply I6;unfold zc;have hs:=hS.s;repeat' first|refine aI ?_;intros
 refine hS.dT (kO hS.r zQ cw) kQ fun gz w2 X2 br jF=>?_;clear hs;have hs:=br.s;have wy:=br.r.box;have Zq:=dW s.size;repeat' first|refine aI ?_;intros
 refine aiX (bytes:=1) br.r.ow hs.has (ah cw hs.kp.size) kQ kQ (by simp;omega) (by simp;omega) fun v' w3 X3 hc ho fm=>?_;rw [afk,←aT] at ho;refine ajb br hc ho fm fun w4 X4 ep=>?_;rw [au] at ep;exact ep.fin
theorem K9 {w:World} {X:XS} {lo wb:Nat} {vb:Value} {bs:List Nat} {x:Nat} (h:Wr w X lo wb vb bs) (hb:bs.length≤2^39) (fv:lo≤w.heap.size):kG 219 #[ptr wb 0,.float .f64 x] w X lo wb vb bs (rG x):=by
 intro w0 hk;have cw:lo≤w0.heap.size:=ah fv hk.size;have hS:=WS.init (h.mv hk.dm);apply Hz;unfold yl;have hs:=hS.s;repeat' first|((with_reducible refine gh (xE _) ?_ hs.has ?_);(· kernel_rfl);intro w X aq;replace hs:=hs.trans aq)
 refine gN (fun n' a b w X=> ∃(i:Nat) (oA:Value),a=I i∧b= .int .u64 ((canon x/256^i:Nat):Int)∧n'=8-i∧i≤8∧WS w0 vb w X lo wb oA (bs++(List.range i).map (CN (canon x)))) 8
  ⟨0,vb,rfl,by simp,rfl,by omega,by simpa using hS.since (by assumption)⟩ ?_
 clear hs hS aq;rintro n' a b w X ⟨i,oA,rfl,rfl,rfl,hi,hS⟩;have hs:=hS.s;have wy:=hS.r.box;have Ro:lo≤w.heap.size:=ah cw hs.kp.size;by_cases h8:i<8
 ·repeat' first|refine bL ?_;intros
  rw [XI];refine K8 hS Ro (by simp;omega) fun gz w2 X2 br=>?_;repeat' first|refine aI ?_;intros|(with_reducible apply ai8)
  refine gA (8-(i+1)) zQ ⟨i+1,gz,by simp,?_,rfl,by omega,?_⟩
  ·rw [sn,jg]
  ·rw [List.range_succ,aT,←au];exact br
 ·obtain rfl:i=8:=by omega
  repeat' first|refine bL ?_;intros
  exact hS.fin
theorem Dp {w:World} {X:XS} {lo wb:Nat} {vb:Value} {bs:List Nat} (h:Wr w X lo wb vb bs) (hb:bs.length≤2^40):Ct pg 157 #[ptr wb 0] w X nX fun v wa w'=>Own w' (made wa w') wa.heap.size 5 1 v (bs.map U1):=by
 intro w0 hk;replace h:=h.mv hk.dm;have wy:=h.box;apply Hv;unfold yh;have hs:=aj.init w0;repeat' first|refine aI ?_;intros|(with_reducible apply DH);(case hX=>exact hs.has);(case hu=>kernel_rfl);(case hz=>kernel_rfl);intro acc w X aq ho;replace hs:=hs.trans aq|((first|(with_reducible refine ak hs ?_)|(with_reducible refine ak (bT.trans hs) ?_));intro wa hk;(exact(ho.kp hk).tight))|((with_reducible apply xv);(case own=>assumption);(case hs=>assumption);(case h0=>exact fun _ h=>h);(case he=>kernel_rfl);(case src=>exact Sl.mv h.ow.sl (aj.mv hs));(case h1=>simp [one]);(case hb=>simp;omega);(case hl=>simp;omega);intro acc w X aq ho hc fm;replace hs:=aq;rw [List.nil_append] at ho)
theorem Y6 {w:World} {X:XS} {lo wb:Nat} {vb:Value} {bs:List Nat} {b:Bool} (h:Wr w X lo wb vb bs) (hb:bs.length≤2^39) (fv:lo≤w.heap.size):kG 217 #[ptr wb 0,B b] w X lo wb vb bs (aaI b):=by
 intro w0 hk;have cw:lo≤w0.heap.size:=ah fv hk.size;have hS:=WS.init (h.mv hk.dm);apply I4;unfold y9;have hs:=hS.s;have wy:=hS.r.box;cases b<;>
 repeat' first|refine aI ?_;intros
 ·refine K8 (b:=0) hS cw zQ fun gz w2 X2 br=>?_;exact br.fin
 ·refine K8 (b:=1) hS cw zQ fun gz w2 X2 br=>?_;exact br.fin
def nG (Z X:XS) (wb:Nat) (vb:Value):Prop:= ∀k,Z k→X k∧ ¬BJ wb vb k
section
variable {w0 w : World} {X : XS} {lo wb : Nat} {oU vb : Value} {bs ds : List Nat}
theorem WS.z (hS:WS w0 oU w X lo wb vb bs):nG (dL.out (BJ wb oU) w0) X wb vb:=fun k h=>⟨hS.s.sub k h,fun hf=>hS.out hf h⟩
theorem WS.at (hS:WS w0 oU w X lo wb vb bs):Mv (dL.out (BJ wb oU) w0) w0 (dL.out (BJ wb oU) w0) w:=fun k hk _=>⟨hk,hS.s.kp.block k hk⟩
theorem nG.mv {Z:XS} (h:nG Z X wb vb) (hk:Kp X w w0):Mv Z w (out (BJ wb vb) w0) w0:=fun k ai hl=>⟨⟨aK hl hk.size,(h k ai).2⟩,hk.block k (h k ai).1⟩
end
abbrev iE (wb:Nat):List Value:=[ptr wb 0,.pointer none]
theorem Y7 {w:World} {X:XS} {lo wb:Nat} {vb:Value} {bs:List Nat} {v:eQ} (h:Wr w X lo wb vb bs) (hb:bs.length≤2^37) (fv:lo≤w.heap.size):kG 296 #[ptr wb 0,v.v] w X lo wb vb bs (kE v):=by
 intro w0 hk;have cw:lo≤w0.heap.size:=ah fv hk.size;have hS:=WS.init (h.mv hk.dm);apply Xp;unfold KL;have hs:=hS.s;refine fk (fun k=> ∀w X,aj (ba w0) w0 X w→k (if v.may then v else eQ.zero).v w X) ?_ ?_
 ·intro w X hsX;generalize hu:(if v.may then v else eQ.zero)=u;have hue:kE v=encI u.kind++(if u.kind=1 then rG u.num else if u.kind=2 then ki u.text else []):=by unfold kE;simp only [hu]
  have hut:u.kind=2→u.text.size≤64:=by
   intro h2;by_cases hm:v.may=true
   ·rw [if_pos hm] at hu;subst hu;unfold eQ.may at hm;rw [if_neg zQ,if_neg zQ,if_pos h2] at hm;simp at hm;omega
   ·rw [if_neg hm] at hu;rw [←hu] at h2;cases h2
  have iv:=hS.since hsX;replace hs:=iv.s;repeat' first|refine aI ?_;intros
  refine iv.dT (kO iv.r zQ (ah cw hs.kp.size)) kQ fun gz w2 X2 br jF=>?_;have he:=dW u.kind;replace hs:=br.s;repeat' first|refine aI ?_;intros
  refine fk (fun k=> ∀w X j8,WS w0 vb w X lo wb j8 (bs++kE v)→k w X) ?_ ?_
  ·intro w X j8 bP;exact bP.fin
  ·intro K hK;rw [hue,←au] at hK;repeat' first|refine aI ?_;intros|refine de ?_ ?_<;>intros
   ·refine br.dT (K9 br.r (by simp;omega) (ah cw hs.kp.size)) kQ fun j8 w3 X3 bP lL=>?_;replace hs:=bP.s
    skip
    rw [if_pos zQ] at hK;exact hK _ _ _ bP
   ·refine br.dT (Nh br.r (by simp;omega) (ah cw hs.kp.size) (by have:=hut zQ;omega)) kQ fun j8 w3 X3 bP lL=>?_;replace hs:=bP.s
    skip
    rw [if_neg zQ,if_pos zQ] at hK;exact hK _ _ _ bP
   ·rw [if_neg zQ,if_neg zQ] at hK;rw [bZ] at hK;exact hK _ _ _ br
 ·intro K hK;have hs:=aj.init w0;cases hm:v.may<;>rw [hm] at hK
  ·repeat' first|refine aI ?_;intros|((with_reducible refine dI (lD _) ?_ hs.has ?_ ?_);(· kernel_rfl);all_goals (intro _ w X aq;replace hs:=hs.trans aq))
   all_goals first|exact hK _ _ hs|(exfalso;simp_all)
  ·repeat' first|refine aI ?_;intros|((with_reducible refine dI (lD _) ?_ hs.has ?_ ?_);(· kernel_rfl);all_goals (intro _ w X aq;replace hs:=hs.trans aq))
   all_goals first|exact hK _ _ hs|(exfalso;simp_all)
theorem iq {w:World} {X Z:XS} {lo wb cb xb xo:Nat} {vb:Value} {bs:List Nat} {n:Int} (h:Wr w X lo wb vb bs) (hc:Cells w Z cb 0 (iE wb)) (hx:Cells w Z xb xo [I n]) (hZ:nG Z X wb vb) (hb:bs.length≤2^38) (fv:lo≤w.heap.size):
  kG 142 #[ptr cb 0,ptr xb xo] w X lo wb vb bs (encI n):=by
 intro w0 hk;have cw:lo≤w0.heap.size:=ah fv hk.size;replace hc:=hc.mv (hZ.mv hk);replace hx:=hx.mv (hZ.mv hk);have hS:=WS.init (h.mv hk.dm);apply AE;unfold tW;have hs:=hS.s;repeat' first|refine aI ?_;intros
 refine hS.dT (kO hS.r zQ cw) kQ fun gz w2 X2 br jF=>?_
 skip
 exact br.fin
theorem yw {w:World} {X Z:XS} {lo wb cb xb xo:Nat} {vb:Value} {bs:List Nat} {s:BA} (h:Wr w X lo wb vb bs) (hc:Cells w Z cb 0 (iE wb)) (hx:Cells w Z xb xo [.string s]) (hZ:nG Z X wb vb) (hb:bs.length≤2^38) (fv:lo≤w.heap.size) (bT:s.size≤2^38):
  kG 214 #[ptr cb 0,ptr xb xo] w X lo wb vb bs (ki s):=by
 intro w0 hk;have cw:lo≤w0.heap.size:=ah fv hk.size;replace hc:=hc.mv (hZ.mv hk);replace hx:=hx.mv (hZ.mv hk);have hS:=WS.init (h.mv hk.dm);apply zf;unfold sO;have hs:=hS.s;repeat' first|refine aI ?_;intros
 refine hS.dT (Nh hS.r zQ cw bT) kQ fun gz w2 X2 br jF=>?_
 skip
 exact br.fin
theorem g7 {w:World} {X Z:XS} {lo wb cb xb xo:Nat} {vb:Value} {bs:List Nat} {s:bE} (h:Wr w X lo wb vb bs) (hc:Cells w Z cb 0 (iE wb)) (hx:Cells w Z xb xo s.l) (hZ:nG Z X wb vb) (hb:bs.length≤2^37) (fv:lo≤w.heap.size):
  kG 148 #[ptr cb 0,ptr xb xo] w X lo wb vb bs (je s):=by
 have e1:=dW s.wall;have e2:=dW s.fi;intro w0 hk;have cw:lo≤w0.heap.size:=ah fv hk.size;replace hc:=hc.mv (hZ.mv hk);replace hx:=hx.mv (hZ.mv hk);have hS:=WS.init (h.mv hk.dm);apply yr;unfold rS;have hs:=hS.s;repeat' first|refine aI ?_;intros
 refine hS.dT (iq (hS.r) (hc.mv hS.at) (Cells.mv (by assumption) hS.at) hS.z zQ cw) kQ fun gz w2 X2 br jF=>?_;replace hs:=br.s;repeat' first|refine aI ?_;intros
 refine br.dT (iq (br.r) (hc.mv br.at) (Cells.mv (by assumption) br.at) br.z (by simp;omega) (ah cw hs.kp.size)) kQ fun j8 w3 X3 bP lL=>?_;replace hs:=bP.s;repeat' first|refine aI ?_;intros
 refine bP.dT (iq (bP.r) (hc.mv bP.at) (Cells.mv (by assumption) bP.at) bP.z (by simp;omega) (ah cw hs.kp.size)) kQ fun Ni w4 X4 ep sc=>?_;replace hs:=ep.s
 skip
 rw [au,au,←au (encI s.wall)] at ep;exact ep.fin
theorem sC {w:World} {X Z:XS} {lo wb cb xb xo:Nat} {vb:Value} {bs:List Nat} {s:gf} (h:Wr w X lo wb vb bs) (hc:Cells w Z cb 0 (iE wb)) (hx:Cells w Z xb xo s.l) (hZ:nG Z X wb vb) (hb:bs.length≤2^37) (fv:lo≤w.heap.size):
  kG 146 #[ptr cb 0,ptr xb xo] w X lo wb vb bs (pE s):=by
 have e1:=dW s.jr;have e2:=dW s.mA;intro w0 hk;have cw:lo≤w0.heap.size:=ah fv hk.size;replace hc:=hc.mv (hZ.mv hk);replace hx:=hx.mv (hZ.mv hk);have hS:=WS.init (h.mv hk.dm);apply AF;unfold tX;have hs:=hS.s;repeat' first|refine aI ?_;intros
 refine hS.dT (iq (hS.r) (hc.mv hS.at) (Cells.mv (by assumption) hS.at) hS.z zQ cw) kQ fun gz w2 X2 br jF=>?_;replace hs:=br.s;repeat' first|refine aI ?_;intros
 refine br.dT (iq (br.r) (hc.mv br.at) (Cells.mv (by assumption) br.at) br.z (by simp;omega) (ah cw hs.kp.size)) kQ fun j8 w3 X3 bP lL=>?_;replace hs:=bP.s;repeat' first|refine aI ?_;intros
 refine bP.dT (iq (bP.r) (hc.mv bP.at) (Cells.mv (by assumption) bP.at) bP.z (by simp;omega) (ah cw hs.kp.size)) kQ fun Ni w4 X4 ep sc=>?_;replace hs:=ep.s
 skip
 rw [au,au,←au (encI s.jr)] at ep;exact ep.fin
theorem nq (s:BA):(ki s).length=(encI s.size).length+s.size:=by
 unfold ki;rw [ae,aG]
 congr 1
theorem NC {v:eQ} :(kE v).length≤100:=by
 unfold kE;generalize hu:(if v.may then v else eQ.zero)=u;have h1:=dW u.kind;have hut:u.kind=2→u.text.size≤64:=by
  intro h2;by_cases hm:v.may=true
  ·rw [if_pos hm] at hu;subst hu;unfold eQ.may at hm;rw [if_neg zQ,if_neg zQ,if_pos h2] at hm;simp at hm;omega
  ·rw [if_neg hm] at hu;rw [←hu] at h2;cases h2
 dsimp only;rw [ae];by_cases k1:u.kind=1
 ·rw [if_pos k1];unfold rG;simp;omega
 ·rw [if_neg k1];by_cases k2:u.kind=2
  ·rw [if_pos k2];have h3:=hut k2;have h4:=dW u.text.size;rw [nq];omega
  ·rw [if_neg k2];simp;omega
theorem AW {w:World} {X Z:XS} {lo wb cb xb xo:Nat} {vb:Value} {bs:List Nat} {v:eQ} (h:Wr w X lo wb vb bs) (hc:Cells w Z cb 0 (iE wb)) (hx:Cells w Z xb xo v.l) (hZ:nG Z X wb vb) (hb:bs.length≤2^37) (fv:lo≤w.heap.size):
  kG 221 #[ptr cb 0,ptr xb xo] w X lo wb vb bs (kE v):=by
 intro w0 hk;have cw:lo≤w0.heap.size:=ah fv hk.size;replace hc:=hc.mv (hZ.mv hk);replace hx:=hx.mv (hZ.mv hk);have hS:=WS.init (h.mv hk.dm);apply yu;unfold rU;have hs:=hS.s;repeat' first|refine aI ?_;intros
 refine hS.dT (Y7 hS.r zQ cw) kQ fun gz w2 X2 br jF=>?_
 skip
 exact br.fin
theorem Iz {w:World} {X Z:XS} {lo wb cb xb xo:Nat} {vb:Value} {bs:List Nat} {x:KV} (h:Wr w X lo wb vb bs) (hc:Cells w Z cb 0 (iE wb)) (hx:Cells w Z xb xo x.l) (hZ:nG Z X wb vb) (hb:bs.length≤2^35) (fv:lo≤w.heap.size) (bT:x.key.size≤2^35):
  kG 151 #[ptr cb 0,ptr xb xo] w X lo wb vb bs (cM x):=by
 have e1:(ki x.key).length≤10+x.key.size:=by
  have:=dW x.key.size;rw [nq];omega
 intro w0 hk;have cw:lo≤w0.heap.size:=ah fv hk.size;replace hc:=hc.mv (hZ.mv hk);replace hx:=hx.mv (hZ.mv hk);have hS:=WS.init (h.mv hk.dm);apply yt;unfold rT;have hs:=hS.s;repeat' first|refine aI ?_;intros
 refine hS.dT (yw hS.r (hc.mv hS.at) (Cells.mv (by assumption) hS.at) hS.z zQ cw zQ) kQ fun gz w2 X2 br jF=>?_;replace hs:=br.s;repeat' first|refine aI ?_;intros
 refine br.dT (AW (v:=x.val) br.r (hc.mv br.at) (Cells.mv (by assumption) br.at) br.z (by simp;omega) (ah cw hs.kp.size)) kQ fun j8 w3 X3 bP lL=>?_;replace hs:=bP.s
 skip
 rw [au] at bP;exact bP.fin
theorem La {w:World} {X Z:XS} {lo wb cb xb xo:Nat} {vb:Value} {bs:List Nat} {x:KV} (h:Wr w X lo wb vb bs) (hc:Cells w Z cb 0 (iE wb)) (hx:Cells w Z xb xo x.l) (hZ:nG Z X wb vb) (hb:bs.length≤2^35) (fv:lo≤w.heap.size) (bT:x.key.size≤2^35):
  kG 153 #[ptr cb 0,ptr xb xo] w X lo wb vb bs (cM x):=by
 have e1:(ki x.key).length≤10+x.key.size:=by
  have:=dW x.key.size;rw [nq];omega
 intro w0 hk;have cw:lo≤w0.heap.size:=ah fv hk.size;replace hc:=hc.mv (hZ.mv hk);replace hx:=hx.mv (hZ.mv hk);have hS:=WS.init (h.mv hk.dm);apply ze;unfold sN;have hs:=hS.s;repeat' first|refine aI ?_;intros
 refine hS.dT (yw hS.r (hc.mv hS.at) (Cells.mv (by assumption) hS.at) hS.z zQ cw zQ) kQ fun gz w2 X2 br jF=>?_;replace hs:=br.s;repeat' first|refine aI ?_;intros
 refine br.dT (AW (v:=x.val) br.r (hc.mv br.at) (Cells.mv (by assumption) br.at) br.z (by simp;omega) (ah cw hs.kp.size)) kQ fun j8 w3 X3 bP lL=>?_;replace hs:=bP.s
 skip
 rw [au] at bP;exact bP.fin
theorem iY {α:Type} {f:α→List Nat} {xs:List α} {i:Nat} {x:α} (h:xs[i]? =some x):((xs.take (i+1)).map f).flatten=((xs.take i).map f).flatten++f x:=by
 rw [List.take_add_one,h];simp
theorem HG {α:Type} {f:α→List Nat} {B:Nat} : ∀{xs:List α},(∀x∈xs,(f x).length≤B)→((xs.map f).flatten).length≤xs.length*B
 |[],_=>by simp
 |x::xs,h=>by
  have h1:=HG (xs:=xs) fun y hy=>h y (List.mem_cons_of_mem _ hy);have h2:=h x (by simp);simp only [bc,cD,ae,aY];rw [Nat.succ_mul];omega
theorem DF {x:KV} :(cM x).length≤110+x.key.size:=by
 have h1:=dW x.key.size;have h2:=NC (v:=x.val);have h3:=nq x.key;unfold cM;rw [ae];omega
theorem Mp {w:World} {X Z:XS} {lo wb cb xb xo:Nat} {vb va:Value} {bs:List Nat} {xs:List KV} (h:Wr w X lo wb vb bs) (hc:Cells w Z cb 0 (iE wb)) (hx:Cells w Z xb xo [va]) (ha:Sl w Z 4 va (xs.map KV.l)) (hZ:nG Z X wb vb) (hb:bs.length≤2^34) (fv:lo≤w.heap.size) (hl:xs.length≤2^16) (jQ: ∀x∈xs,x.key.size≤2^16):
  kG 150 #[ptr cb 0,ptr xb xo,.func (.func 151) #[ptr cb 0] #[]] w X lo wb vb bs (fY cM xs):=by
 intro w0 hk;have cw:lo≤w0.heap.size:=ah fv hk.size;replace hc:=hc.mv (hZ.mv hk);replace hx:=hx.mv (hZ.mv hk);replace ha:=ha.mv (hZ.mv hk);have hS:=WS.init (h.mv hk.dm);have lS:=ha.fQ;apply py;unfold mq;have hs:=hS.s;repeat' first|refine aI ?_;intros
 refine fk (fun (k:Value→World→XS→Prop)=> ∀w X gz,WS w0 vb w X lo wb gz (bs++encI xs.length)→k (I xs.length) w X) ?_ ?_
 ·intro w X gz br;refine fV (fun n' a w X=> ∃(i:Nat) (oA:Value),a=I i∧n'=xs.length-i∧i≤xs.length∧WS w0 vb w X lo wb oA (bs++encI xs.length++((xs.take i).map cM).flatten)) xs.length ⟨0,gz,rfl,rfl,aN _,by simpa using br⟩ ?_;clear br hS hs;rintro n' a w X ⟨i,oA,rfl,rfl,hi,hS⟩;have hs:=hS.s;have he:=dW xs.length;have mH:(((xs.take i).map cM).flatten).length≤2^33:=by
   refine ah (HG (B:=110+2^16) fun x hx=>?_) ?_
   ·have h1:=DF (x:=x);have h2:=jQ x (iQ hx);omega
   ·have h3:(xs.take i).length≤2^16:=by rw [bp];omega
    exact ah (fb _ h3) (by decide)
  rcases ej xs i with⟨cH,x,qZ,hd⟩|⟨eh,hd⟩
  ·have hkx:=jQ x (aX qZ);repeat' first|refine bL ?_;intros
   refine fk (fun (k:World→XS→Prop)=>k w X) ?_ ?_
   ·repeat' first|refine aI ?_;intros
    refine tQ ?_;refine hS.dT (Iz (x:=x) hS.r (hc.mv hS.at) (Cells.mv (by assumption) hS.at) hS.z (by simp only [ae];omega) (ah cw hs.kp.size) zQ) kQ fun j8 w3 X3 bP lL=>?_;replace hs:=bP.s;repeat' first|refine aI ?_;intros
    refine fF (xs.length-(i+1)) zQ ⟨i+1,j8,by simp,rfl,by omega,?_⟩;rw [iY qZ,←au];exact bP
   ·intro K hK;repeat' first|refine aI ?_;intros|exact hK
  ·rw [bN eh] at hS;repeat' first|refine bL ?_;intros
   rw [au] at hS;exact hS.fin
 ·intro K hK;repeat' first|refine aI ?_;intros
  refine hS.dT (kO hS.r zQ cw) kQ fun gz w2 X2 br jF=>?_;replace hs:=br.s
  skip
  exact hK _ _ _ br
theorem OC {w:World} {X Z:XS} {lo wb cb xb xo:Nat} {vb va:Value} {bs:List Nat} {xs:List KV} (h:Wr w X lo wb vb bs) (hc:Cells w Z cb 0 (iE wb)) (hx:Cells w Z xb xo [va]) (ha:Sl w Z 4 va (xs.map KV.l)) (hZ:nG Z X wb vb) (hb:bs.length≤2^34) (fv:lo≤w.heap.size) (hl:xs.length≤2^16) (jQ: ∀x∈xs,x.key.size≤2^16):
  kG 152 #[ptr cb 0,ptr xb xo,.func (.func 153) #[ptr cb 0] #[]] w X lo wb vb bs (fY cM xs):=by
 intro w0 hk;have cw:lo≤w0.heap.size:=ah fv hk.size;replace hc:=hc.mv (hZ.mv hk);replace hx:=hx.mv (hZ.mv hk);replace ha:=ha.mv (hZ.mv hk);have hS:=WS.init (h.mv hk.dm);have lS:=ha.fQ;apply pV;unfold mO;have hs:=hS.s;repeat' first|refine aI ?_;intros
 refine fk (fun (k:Value→World→XS→Prop)=> ∀w X gz,WS w0 vb w X lo wb gz (bs++encI xs.length)→k (I xs.length) w X) ?_ ?_
 ·intro w X gz br;refine fV (fun n' a w X=> ∃(i:Nat) (oA:Value),a=I i∧n'=xs.length-i∧i≤xs.length∧WS w0 vb w X lo wb oA (bs++encI xs.length++((xs.take i).map cM).flatten)) xs.length ⟨0,gz,rfl,rfl,aN _,by simpa using br⟩ ?_;clear br hS hs;rintro n' a w X ⟨i,oA,rfl,rfl,hi,hS⟩;have hs:=hS.s;have he:=dW xs.length;have mH:(((xs.take i).map cM).flatten).length≤2^33:=by
   refine ah (HG (B:=110+2^16) fun x hx=>?_) ?_
   ·have h1:=DF (x:=x);have h2:=jQ x (iQ hx);omega
   ·have h3:(xs.take i).length≤2^16:=by rw [bp];omega
    exact ah (fb _ h3) (by decide)
  rcases ej xs i with⟨cH,x,qZ,hd⟩|⟨eh,hd⟩
  ·have hkx:=jQ x (aX qZ);repeat' first|refine bL ?_;intros
   refine fk (fun (k:World→XS→Prop)=>k w X) ?_ ?_
   ·repeat' first|refine aI ?_;intros
    refine tQ ?_;refine hS.dT (La (x:=x) hS.r (hc.mv hS.at) (Cells.mv (by assumption) hS.at) hS.z (by simp only [ae];omega) (ah cw hs.kp.size) zQ) kQ fun j8 w3 X3 bP lL=>?_;replace hs:=bP.s;repeat' first|refine aI ?_;intros
    refine fF (xs.length-(i+1)) zQ ⟨i+1,j8,by simp,rfl,by omega,?_⟩;rw [iY qZ,←au];exact bP
   ·intro K hK;repeat' first|refine aI ?_;intros|exact hK
  ·rw [bN eh] at hS;repeat' first|refine bL ?_;intros
   rw [au] at hS;exact hS.fin
 ·intro K hK;repeat' first|refine aI ?_;intros
  refine hS.dT (kO hS.r zQ cw) kQ fun gz w2 X2 br jF=>?_;replace hs:=br.s
  skip
  exact hK _ _ _ br
def gS (r:Rec):List Nat:=encI r.kind++(je r.prev++(je r.aP++(pE r.cB++fY cM r.writes)))
def fT (r:Rec):List Nat:=encI r.kind++(je r.aP++fY cM r.bF)
theorem iB (s:bE):(je s).length≤30:=by
 have h1:=dW s.wall;have h2:=dW s.fi;have h3:=dW s.node;unfold je;simp only [ae];omega
theorem tF (s:gf):(pE s).length≤30:=by
 have h1:=dW s.jr;have h2:=dW s.mA;have h3:=dW s.sq;unfold pE;simp only [ae];omega
theorem XJ {w:World} {X Z:XS} {lo wb cb xb:Nat} {vb:Value} {bs:List Nat} {r:Rec} {vr vw vp vq vh vd:Value} (h:Wr w X lo wb vb bs) (hc:Cells w Z cb 0 (iE wb)) (hx:Cells w Z xb 0 (r.l vr vw vp vq vh vd)) (ha:Sl w Z 4 vw (r.writes.map KV.l)) (hZ:nG Z X wb vb) (hb:bs.length≤2^33) (fv:lo≤w.heap.size)
  (uY:r.kind=11) (hl:r.writes.length≤2^16) (jQ: ∀x∈r.writes,x.key.size≤2^16):
  kG 89 #[ptr cb 0,ptr xb 0] w X lo wb vb bs (gS r):=by
 intro w0 hk;have cw:lo≤w0.heap.size:=ah fv hk.size;replace hc:=hc.mv (hZ.mv hk);replace hx:=hx.mv (hZ.mv hk);replace ha:=ha.mv (hZ.mv hk);have hS:=WS.init (h.mv hk.dm);have e1:=dW r.kind;have e2:=iB r.prev;have e3:=iB r.aP;have e4:=tF r.cB;apply tC;unfold qw;have hs:=hS.s;repeat' first|refine aI ?_;intros
 refine hS.dT (iq hS.r (hc.mv hS.at) (Cells.mv (by assumption) hS.at) hS.z (by(try simp only [ae]);omega) (ah cw hs.kp.size)) kQ fun gz w X br _=>?_;replace hs:=br.s;repeat' first|refine bL ?_;intros|with_reducible apply cG
 refine br.dT (g7 (s:=r.prev) br.r (hc.mv br.at) (Cells.mv (by assumption) br.at) br.z (by(try simp only [ae]);omega) (ah cw hs.kp.size)) kQ fun j8 w X bP _=>?_;replace hs:=bP.s;repeat' first|refine aI ?_;intros
 refine bP.dT (g7 (s:=r.aP) bP.r (hc.mv bP.at) (Cells.mv (by assumption) bP.at) bP.z (by(try simp only [ae]);omega) (ah cw hs.kp.size)) kQ fun Ni w X ep _=>?_;replace hs:=ep.s;repeat' first|refine aI ?_;intros
 refine ep.dT (sC (s:=r.cB) ep.r (hc.mv ep.at) (Cells.mv (by assumption) ep.at) ep.z (by(try simp only [ae]);omega) (ah cw hs.kp.size)) kQ fun Qu w X ir _=>?_;replace hs:=ir.s;repeat' first|refine aI ?_;intros
 refine ir.dT (Mp ir.r (hc.mv ir.at) (Cells.mv (by assumption) ir.at) (ha.mv ir.at) ir.z (by simp only [ae];omega) (ah cw hs.kp.size) hl jQ) kQ fun vb6 w X Bn _=>?_;unfold gS;simp only [au] at Bn;exact Bn.fin
theorem XK {w:World} {X Z:XS} {lo wb cb xb:Nat} {vb:Value} {bs:List Nat} {r:Rec} {vr vw vp vq vh vd:Value} (h:Wr w X lo wb vb bs) (hc:Cells w Z cb 0 (iE wb)) (hx:Cells w Z xb 0 (r.l vr vw vp vq vh vd)) (ha:Sl w Z 4 vq (r.bF.map KV.l)) (hZ:nG Z X wb vb) (hb:bs.length≤2^33) (fv:lo≤w.heap.size)
  (uY:r.kind=12) (hl:r.bF.length≤2^16) (jQ: ∀x∈r.bF,x.key.size≤2^16):
  kG 89 #[ptr cb 0,ptr xb 0] w X lo wb vb bs (fT r):=by
 intro w0 hk;have cw:lo≤w0.heap.size:=ah fv hk.size;replace hc:=hc.mv (hZ.mv hk);replace hx:=hx.mv (hZ.mv hk);replace ha:=ha.mv (hZ.mv hk);have hS:=WS.init (h.mv hk.dm);have e1:=dW r.kind;have e2:=iB r.prev;have e3:=iB r.aP;have e4:=tF r.cB;apply tC;unfold qw;have hs:=hS.s;repeat' first|refine aI ?_;intros
 refine hS.dT (iq hS.r (hc.mv hS.at) (Cells.mv (by assumption) hS.at) hS.z (by(try simp only [ae]);omega) (ah cw hs.kp.size)) kQ fun gz w X br _=>?_;replace hs:=br.s;repeat' first|refine bL ?_;intros|with_reducible apply cG
 refine br.dT (g7 (s:=r.aP) br.r (hc.mv br.at) (Cells.mv (by assumption) br.at) br.z (by(try simp only [ae]);omega) (ah cw hs.kp.size)) kQ fun Qu w X ir _=>?_;replace hs:=ir.s;repeat' first|refine aI ?_;intros
 refine ir.dT (OC ir.r (hc.mv ir.at) (Cells.mv (by assumption) ir.at) (ha.mv ir.at) ir.z (by simp only [ae];omega) (ah cw hs.kp.size) hl jQ) kQ fun vb6 w X Bn _=>?_;unfold fT;simp only [au] at Bn;exact Bn.fin
theorem zl {w:World} {X:XS} {r:Rec} {vr vw vp vq vh vd:Value} (h:r.at w X vr vw vp vq vh vd) (jo:r.small) (uY:r.kind=11) (lz:r.err=0→r.writes.length≤2^16∧(∀x∈r.writes,x.key.size≤2^16)∧(gS r).length≤262144):
  Ct pg 91 #[r.v vr vw vp vq vh vd] w X nX fun v wa w'=>if r.err≠0 then v= .tuple #[.slice none 0 0,I r.err] else∃vb,v= .tuple #[vb,I 0]∧Own w' (made wa w') wa.heap.size 5 1 vb ((gS r).map U1):=by
 intro w0 hk;replace h:=h.mv hk.dm;have o1:=h.1.one;have o2:=h.2.1.one;have o3:=h.2.2.1.one;have o4:=h.2.2.2.1.one;have o5:=h.2.2.2.2.1.one;have o6:=h.2.2.2.2.2.one;apply zx;unfold uj;have hs:=aj.init w0;repeat' first|refine aI ?_;intros|refine de ?_ ?_<;>intros|(with_reducible apply kX);(case hX=>exact hs.has);intro bx w X gT aq dA;have bT:=hs.trans aq;replace hs:=aj.dY aq.has|(refine dy (HF (r:=r) (h.mv (bT.trans hs).mv) jo) kQ hs.has fun w X aq=>?_;replace hs:=hs.trans aq)
 ·exact ak (bT.trans hs) fun wa hk=>by dsimp only;rw [if_pos (by assumption)]
 ·have yR:r.err=0:=by assumption
  obtain⟨k1,k2,k3⟩:=lz yR;refine cJ wE kQ hs.has ?_;rintro v wa w2 X2 ⟨wb,rfl,hW⟩ hle fU bQ;have Jp:=bT.trans (hs.trans bQ);have kW:=dA.lt;have ME:=hs.kp.size;have tw:=bT.kp.size;have hwb:=hW.box.1;have xm:=dA.since (hs.trans bQ);refine xk kQ ?_;refine kX Jp.has fun cb w3 X3 hcb cl sX=>?_;have El:=Jp.trans cl;have Em:=xm.since cl;obtain⟨Z,En⟩: ∃Z:XS,Z=fun k=>k=bx∨k=cb∨ba w0 k:=⟨_,rfl⟩;have ajc:wa.heap.size≤wb∧wb<w2.heap.size:=hwb;have hZ:nG Z X3 wb (.slice none 0 0):=fun k ai=>by
   rw [En] at ai;refine⟨?_,fun hf=>?_⟩
   ·rcases ai with rfl|rfl|ai
    ·exact Em.1
    ·exact sX.1
    ·exact El.sub k ai
   ·rcases hf with hf|hf
    ·rcases ai with e|e|e
     ·omega
     ·omega
     ·have:k<w0.heap.size:=e;omega
    ·cases hf
  have hcC:Cells w3 Z cb 0 (iE wb):=bH.cells (ty:=175) ⟨by rw [En];exact .inr (.inl rfl),sX.2⟩;have hxC:Cells w3 Z bx 0 (r.l vr vw vp vq vh vd):=bH.cells (ty:=117) ⟨by rw [En];exact .inl rfl,Em.2⟩;have haC:Sl w3 Z 4 vw (r.writes.map KV.l):=h.2.1.mv fun k ai hl=>⟨by rw [En];exact .inr (.inr ai),El.kp.block k ai⟩;have Lb:Wr w3 X3 wa.heap.size wb (.slice none 0 0) []:=(hW.mv (Mv.sub fU)).mv cl.mv;refine xl (XJ Lb hcC hxC haC hZ (by simp) (by have:=cl.kp.size;omega) uY k1 k2) kQ El.has (fun q hq=>by
   rcases hq with rfl|hq
   ·exact Lb.box.1
   ·cases hq) fun v yJ w4 X4 hq sF lK ajd sc=>?_
  obtain⟨rfl,Dn,hW4⟩:=hq;have ff:=El.dM sc fun k ai hf=>by
   have h0:k<w0.heap.size:=ai;rcases hf with hf|hf
   ·omega
   ·cases hf
  have hW5:Wr w4 X4 wa.heap.size wb Dn (gS r):=hW4.mv (Mv.sub fun k ai=>by
   rcases ai with(ai|ai)|ai
   ·rw [ai];exact sc.sub _ Lb.box.1
   ·cases ai
   ·exact lK k ai)
  refine cJ (Dp hW5 zQ) kQ ff.has ?_;rintro v5 Fk w5 X5 qx AM sG oI;have hsC:=ff.trans oI;have ho:Own w5 X5 w0.heap.size 5 1 v5 ((gS r).map U1):=qx.up sG (by have:=ff.kp.size;omega);clear hs bT;have hs:=hsC;have ov:=ho.sl.one;repeat' first|refine bL ?_;intros
  exact ak hs fun wb aM=>by
   dsimp only;rw [if_neg (by simpa using yR)];exact⟨v5,rfl,(ho.kp aM).tight⟩
theorem Fo {w:World} {X:XS} {r:Rec} {vr vw vp vq vh vd:Value} (h:r.at w X vr vw vp vq vh vd) (jo:r.small) (uY:r.kind=12) (lz:r.err=0→r.bF.length≤2^16∧(∀x∈r.bF,x.key.size≤2^16)∧(fT r).length≤262144):
  Ct pg 91 #[r.v vr vw vp vq vh vd] w X nX fun v wa w'=>if r.err≠0 then v= .tuple #[.slice none 0 0,I r.err] else∃vb,v= .tuple #[vb,I 0]∧Own w' (made wa w') wa.heap.size 5 1 vb ((fT r).map U1):=by
 intro w0 hk;replace h:=h.mv hk.dm;have o1:=h.1.one;have o2:=h.2.1.one;have o3:=h.2.2.1.one;have o4:=h.2.2.2.1.one;have o5:=h.2.2.2.2.1.one;have o6:=h.2.2.2.2.2.one;apply zx;unfold uj;have hs:=aj.init w0;repeat' first|refine aI ?_;intros|refine de ?_ ?_<;>intros|(with_reducible apply kX);(case hX=>exact hs.has);intro bx w X gT aq dA;have bT:=hs.trans aq;replace hs:=aj.dY aq.has|(refine dy (HF (r:=r) (h.mv (bT.trans hs).mv) jo) kQ hs.has fun w X aq=>?_;replace hs:=hs.trans aq)
 ·exact ak (bT.trans hs) fun wa hk=>by dsimp only;rw [if_pos (by assumption)]
 ·have yR:r.err=0:=by assumption
  obtain⟨k1,k2,k3⟩:=lz yR;refine cJ wE kQ hs.has ?_;rintro v wa w2 X2 ⟨wb,rfl,hW⟩ hle fU bQ;have Jp:=bT.trans (hs.trans bQ);have kW:=dA.lt;have ME:=hs.kp.size;have tw:=bT.kp.size;have hwb:=hW.box.1;have xm:=dA.since (hs.trans bQ);refine xk kQ ?_;refine kX Jp.has fun cb w3 X3 hcb cl sX=>?_;have El:=Jp.trans cl;have Em:=xm.since cl;obtain⟨Z,En⟩: ∃Z:XS,Z=fun k=>k=bx∨k=cb∨ba w0 k:=⟨_,rfl⟩;have ajc:wa.heap.size≤wb∧wb<w2.heap.size:=hwb;have hZ:nG Z X3 wb (.slice none 0 0):=fun k ai=>by
   rw [En] at ai;refine⟨?_,fun hf=>?_⟩
   ·rcases ai with rfl|rfl|ai
    ·exact Em.1
    ·exact sX.1
    ·exact El.sub k ai
   ·rcases hf with hf|hf
    ·rcases ai with e|e|e
     ·omega
     ·omega
     ·have:k<w0.heap.size:=e;omega
    ·cases hf
  have hcC:Cells w3 Z cb 0 (iE wb):=bH.cells (ty:=175) ⟨by rw [En];exact .inr (.inl rfl),sX.2⟩;have hxC:Cells w3 Z bx 0 (r.l vr vw vp vq vh vd):=bH.cells (ty:=117) ⟨by rw [En];exact .inl rfl,Em.2⟩;have haC:Sl w3 Z 4 vq (r.bF.map KV.l):=h.2.2.2.1.mv fun k ai hl=>⟨by rw [En];exact .inr (.inr ai),El.kp.block k ai⟩;have Lb:Wr w3 X3 wa.heap.size wb (.slice none 0 0) []:=(hW.mv (Mv.sub fU)).mv cl.mv;refine xl (XK Lb hcC hxC haC hZ (by simp) (by have:=cl.kp.size;omega) uY k1 k2) kQ El.has (fun q hq=>by
   rcases hq with rfl|hq
   ·exact Lb.box.1
   ·cases hq) fun v yJ w4 X4 hq sF lK ajd sc=>?_
  obtain⟨rfl,Dn,hW4⟩:=hq;have ff:=El.dM sc fun k ai hf=>by
   have h0:k<w0.heap.size:=ai;rcases hf with hf|hf
   ·omega
   ·cases hf
  have hW5:Wr w4 X4 wa.heap.size wb Dn (fT r):=hW4.mv (Mv.sub fun k ai=>by
   rcases ai with(ai|ai)|ai
   ·rw [ai];exact sc.sub _ Lb.box.1
   ·cases ai
   ·exact lK k ai)
  refine cJ (Dp hW5 zQ) kQ ff.has ?_;rintro v5 Fk w5 X5 qx AM sG oI;have hsC:=ff.trans oI;have ho:Own w5 X5 w0.heap.size 5 1 v5 ((fT r).map U1):=qx.up sG (by have:=ff.kp.size;omega);clear hs bT;have hs:=hsC;have ov:=ho.sl.one;repeat' first|refine bL ?_;intros
  exact ak hs fun wb aM=>by
   dsimp only;rw [if_neg (by simpa using yR)];exact⟨v5,rfl,(ho.kp aM).tight⟩
def Pn (r:l9):List Nat:=encI r.id++(encI r.ku++(rG r.lo++rG r.hi))
def u5 (v:kZ):List Nat:=je v.aP++kE v.val
def zs (h:jl):List Nat:=ki h.key++fY u5 h.jV
def uJ (p:eG):List Nat:=pE p.cB++(je p.aP++(fY ki p.reads++fY cM p.writes))
def encS (s:State):List Nat:=Pn s.range++(je s.floor++(je s.closed++(fY zs s.ia++fY uJ s.g8)))
theorem zB {α:Type} {f:α→List Nat} {xs:List α} {i:Nat} {x:α} (h:xs[i]? =some x):(encI xs.length).length+((xs.take i).map f).flatten.length+(f x).length≤(fY f xs).length:=by
 have h1:xs=xs.take i++(x::xs.drop (i+1)):=by
  obtain⟨hi,rfl⟩:=List.getElem?_eq_some_iff.1 h;rw [←List.drop_eq_getElem_cons hi,List.take_append_drop]
 have h2:(fY f xs).length=(encI xs.length).length+((xs.take i).map f).flatten.length+((f x).length+((xs.drop (i+1)).map f).flatten.length):=by
  unfold fY;conv=>lhs;rw [h1]
  rw [aT,List.flatten_append,←h1];simp only [bc,cD,ae];omega
 omega
theorem GP (x:Nat):(rG x).length=8:=by simp [rG]
theorem GA (n:Int):1≤(encI n).length:=by
 unfold encI nv;split<;>simp
theorem Tb (x:KV):x.key.size≤(cM x).length:=by
 have h1:=nq x.key;unfold cM;rw [ae];omega
theorem XL {w:World} {X Z:XS} {lo wb cb xb xo:Nat} {vb:Value} {bs:List Nat} {b:Bool} (h:Wr w X lo wb vb bs) (hc:Cells w Z cb 0 (iE wb)) (hx:Cells w Z xb xo [B b]) (hZ:nG Z X wb vb) (hb:bs.length≤2^38) (fv:lo≤w.heap.size):
  kG 147 #[ptr cb 0,ptr xb xo] w X lo wb vb bs (aaI b):=by
 intro w0 hk;have cw:lo≤w0.heap.size:=ah fv hk.size;replace hc:=hc.mv (hZ.mv hk);replace hx:=hx.mv (hZ.mv hk);have hS:=WS.init (h.mv hk.dm);apply IZ;unfold yZ;have hs:=hS.s;repeat' first|refine aI ?_;intros
 refine hS.dT (Y6 hS.r zQ cw) kQ fun gz w2 X2 br jF=>?_
 skip
 exact br.fin
theorem AX {w:World} {X Z:XS} {lo wb cb xb xo:Nat} {vb:Value} {bs:List Nat} {x:Nat} (h:Wr w X lo wb vb bs) (hc:Cells w Z cb 0 (iE wb)) (hx:Cells w Z xb xo [.float .f64 x]) (hZ:nG Z X wb vb) (hb:bs.length≤2^38) (fv:lo≤w.heap.size):
  kG 149 #[ptr cb 0,ptr xb xo] w X lo wb vb bs (rG x):=by
 intro w0 hk;have cw:lo≤w0.heap.size:=ah fv hk.size;replace hc:=hc.mv (hZ.mv hk);replace hx:=hx.mv (hZ.mv hk);have hS:=WS.init (h.mv hk.dm);apply Ht;unfold yf;have hs:=hS.s;repeat' first|refine aI ?_;intros
 refine hS.dT (K9 hS.r zQ cw) kQ fun gz w2 X2 br jF=>?_
 skip
 exact br.fin
theorem TQ {w:World} {X Z:XS} {lo wb cb xb xo:Nat} {vb:Value} {bs:List Nat} {r:l9} (h:Wr w X lo wb vb bs) (hc:Cells w Z cb 0 (iE wb)) (hx:Cells w Z xb xo r.l) (hZ:nG Z X wb vb) (hb:bs.length≤2^36) (fv:lo≤w.heap.size):
  kG 209 #[ptr cb 0,ptr xb xo] w X lo wb vb bs (Pn r):=by
 have e1:=dW r.id;have e2:=dW r.ku;have e3:=GP r.lo;intro w0 hk;have cw:lo≤w0.heap.size:=ah fv hk.size;replace hc:=hc.mv (hZ.mv hk);replace hx:=hx.mv (hZ.mv hk);have hS:=WS.init (h.mv hk.dm);apply Hw;unfold yi;have hs:=hS.s;repeat' first|refine aI ?_;intros
 refine hS.dT (iq hS.r (hc.mv hS.at) (Cells.mv (by assumption) hS.at) hS.z (by(try simp only [ae]);omega) (ah cw hs.kp.size)) kQ fun gz w X br _=>?_;replace hs:=br.s;repeat' first|refine aI ?_;intros
 refine br.dT (iq br.r (hc.mv br.at) (Cells.mv (by assumption) br.at) br.z (by(try simp only [ae]);omega) (ah cw hs.kp.size)) kQ fun j8 w X bP _=>?_;replace hs:=bP.s;repeat' first|refine aI ?_;intros
 refine bP.dT (AX bP.r (hc.mv bP.at) (Cells.mv (by assumption) bP.at) bP.z (by(try simp only [ae]);omega) (ah cw hs.kp.size)) kQ fun Ni w X ep _=>?_;replace hs:=ep.s;repeat' first|refine aI ?_;intros
 refine ep.dT (AX ep.r (hc.mv ep.at) (Cells.mv (by assumption) ep.at) ep.z (by(try simp only [ae]);omega) (ah cw hs.kp.size)) kQ fun Qu w X ir _=>?_;replace hs:=ir.s
 skip
 unfold Pn;simp only [au] at ir;exact ir.fin
theorem Qv {w:World} {X Z:XS} {lo wb cb xb xo:Nat} {vb:Value} {bs:List Nat} {x:kZ} (h:Wr w X lo wb vb bs) (hc:Cells w Z cb 0 (iE wb)) (hx:Cells w Z xb xo x.l) (hZ:nG Z X wb vb) (hb:bs.length≤2^36) (fv:lo≤w.heap.size):
  kG 290 #[ptr cb 0,ptr xb xo] w X lo wb vb bs (u5 x):=by
 have e1:=iB x.aP;intro w0 hk;have cw:lo≤w0.heap.size:=ah fv hk.size;replace hc:=hc.mv (hZ.mv hk);replace hx:=hx.mv (hZ.mv hk);have hS:=WS.init (h.mv hk.dm);apply EV;unfold vF;have hs:=hS.s;repeat' first|refine aI ?_;intros
 refine hS.dT (g7 (s:=x.aP) hS.r (hc.mv hS.at) (Cells.mv (by assumption) hS.at) hS.z (by(try simp only [ae]);omega) (ah cw hs.kp.size)) kQ fun gz w X br _=>?_;replace hs:=br.s;repeat' first|refine aI ?_;intros
 refine br.dT (AW (v:=x.val) br.r (hc.mv br.at) (Cells.mv (by assumption) br.at) br.z (by(try simp only [ae]);omega) (ah cw hs.kp.size)) kQ fun j8 w X bP _=>?_;replace hs:=bP.s
 skip
 unfold u5;simp only [au] at bP;exact bP.fin
theorem OD {w:World} {X Z:XS} {lo wb cb xb xo:Nat} {vb va:Value} {bs:List Nat} {xs:List BA} (h:Wr w X lo wb vb bs) (hc:Cells w Z cb 0 (iE wb)) (hx:Cells w Z xb xo [va]) (ha:Sl w Z 1 va (xs.map S1)) (hZ:nG Z X wb vb) (fv:lo≤w.heap.size) (hb:bs.length+(fY ki xs).length≤2^33):
  kG 213 #[ptr cb 0,ptr xb xo,.func (.func 214) #[ptr cb 0] #[]] w X lo wb vb bs (fY ki xs):=by
  intro w0 hk;have cw:lo≤w0.heap.size:=ah fv hk.size;replace hc:=hc.mv (hZ.mv hk);replace hx:=hx.mv (hZ.mv hk);replace ha:=ha.mv (hZ.mv hk);have hS:=WS.init (h.mv hk.dm);have lS:=ha.fQ;apply Hx;unfold yj;have hs:=hS.s;repeat' first|refine aI ?_;intros
  refine fk (fun (k:Value→World→XS→Prop)=> ∀w X gz,WS w0 vb w X lo wb gz (bs++encI xs.length)→k (I xs.length) w X) ?_ ?_
  ·intro w X gz br;refine fV (fun n' a w X=> ∃(i:Nat) (oA:Value),a=I i∧n'=xs.length-i∧i≤xs.length∧WS w0 vb w X lo wb oA (bs++encI xs.length++((xs.take i).map ki).flatten)) xs.length ⟨0,gz,rfl,rfl,aN _,by simpa using br⟩ ?_;clear br hS hs;rintro n' a w X ⟨i,oA,rfl,rfl,hi,hS⟩;have hs:=hS.s;rcases ej xs i with⟨cH,x,qZ,hd⟩|⟨eh,hd⟩
   ·have gT:=zB (f:=ki) qZ;repeat' first|refine bL ?_;intros
    refine fk (fun (k:World→XS→Prop)=>k w X) ?_ ?_
    ·repeat' first|refine aI ?_;intros
     refine tQ ?_;refine hS.dT (yw (s:=x) hS.r (hc.mv hS.at) (Cells.mv (by assumption) hS.at) hS.z (by simp only [ae];omega) (ah cw hs.kp.size) (by have:=nq x;omega)) kQ fun j8 w3 X3 bP lL=>?_;replace hs:=bP.s;repeat' first|refine aI ?_;intros
     refine fF (xs.length-(i+1)) zQ ⟨i+1,j8,by simp,rfl,by omega,?_⟩;rw [iY qZ,←au];exact bP
    ·intro K hK;repeat' first|refine aI ?_;intros|exact hK
   ·rw [bN eh] at hS;repeat' first|refine bL ?_;intros
    rw [au] at hS;exact hS.fin
  ·intro K hK;repeat' first|refine aI ?_;intros
   refine hS.dT (kO hS.r zQ cw) kQ fun gz w2 X2 br jF=>?_;replace hs:=br.s
   skip
   exact hK _ _ _ br
theorem Eo {w:World} {X Z:XS} {lo wb cb xb xo:Nat} {vb va:Value} {bs:List Nat} {xs:List Int} (h:Wr w X lo wb vb bs) (hc:Cells w Z cb 0 (iE wb)) (hx:Cells w Z xb xo [va]) (ha:Sl w Z 1 va (xs.map I1)) (hZ:nG Z X wb vb) (fv:lo≤w.heap.size) (hb:bs.length+(fY encI xs).length≤2^33):
  kG 145 #[ptr cb 0,ptr xb xo,.func (.func 142) #[ptr cb 0] #[]] w X lo wb vb bs (fY encI xs):=by
  intro w0 hk;have cw:lo≤w0.heap.size:=ah fv hk.size;replace hc:=hc.mv (hZ.mv hk);replace hx:=hx.mv (hZ.mv hk);replace ha:=ha.mv (hZ.mv hk);have hS:=WS.init (h.mv hk.dm);have lS:=ha.fQ;apply Mh;unfold BB;have hs:=hS.s;repeat' first|refine aI ?_;intros
  refine fk (fun (k:Value→World→XS→Prop)=> ∀w X gz,WS w0 vb w X lo wb gz (bs++encI xs.length)→k (I xs.length) w X) ?_ ?_
  ·intro w X gz br;refine fV (fun n' a w X=> ∃(i:Nat) (oA:Value),a=I i∧n'=xs.length-i∧i≤xs.length∧WS w0 vb w X lo wb oA (bs++encI xs.length++((xs.take i).map encI).flatten)) xs.length ⟨0,gz,rfl,rfl,aN _,by simpa using br⟩ ?_;clear br hS hs;rintro n' a w X ⟨i,oA,rfl,rfl,hi,hS⟩;have hs:=hS.s;rcases ej xs i with⟨cH,x,qZ,hd⟩|⟨eh,hd⟩
   ·have gT:=zB (f:=encI) qZ;repeat' first|refine bL ?_;intros
    refine fk (fun (k:World→XS→Prop)=>k w X) ?_ ?_
    ·repeat' first|refine aI ?_;intros
     refine tQ ?_;refine hS.dT (iq (n:=x) hS.r (hc.mv hS.at) (Cells.mv (by assumption) hS.at) hS.z (by simp only [ae];omega) (ah cw hs.kp.size)) kQ fun j8 w3 X3 bP lL=>?_;replace hs:=bP.s;repeat' first|refine aI ?_;intros
     refine fF (xs.length-(i+1)) zQ ⟨i+1,j8,by simp,rfl,by omega,?_⟩;rw [iY qZ,←au];exact bP
    ·intro K hK;repeat' first|refine aI ?_;intros|exact hK
   ·rw [bN eh] at hS;repeat' first|refine bL ?_;intros
    rw [au] at hS;exact hS.fin
  ·intro K hK;repeat' first|refine aI ?_;intros
   refine hS.dT (kO hS.r zQ cw) kQ fun gz w2 X2 br jF=>?_;replace hs:=br.s
   skip
   exact hK _ _ _ br
theorem IA {w:World} {X Z:XS} {lo wb cb xb xo:Nat} {vb va:Value} {bs:List Nat} {xs:List KV} (h:Wr w X lo wb vb bs) (hc:Cells w Z cb 0 (iE wb)) (hx:Cells w Z xb xo [va]) (ha:Sl w Z 4 va (xs.map KV.l)) (hZ:nG Z X wb vb) (fv:lo≤w.heap.size) (hb:bs.length+(fY cM xs).length≤2^33):
  kG 150 #[ptr cb 0,ptr xb xo,.func (.func 151) #[ptr cb 0] #[]] w X lo wb vb bs (fY cM xs):=by
  intro w0 hk;have cw:lo≤w0.heap.size:=ah fv hk.size;replace hc:=hc.mv (hZ.mv hk);replace hx:=hx.mv (hZ.mv hk);replace ha:=ha.mv (hZ.mv hk);have hS:=WS.init (h.mv hk.dm);have lS:=ha.fQ;apply py;unfold mq;have hs:=hS.s;repeat' first|refine aI ?_;intros
  refine fk (fun (k:Value→World→XS→Prop)=> ∀w X gz,WS w0 vb w X lo wb gz (bs++encI xs.length)→k (I xs.length) w X) ?_ ?_
  ·intro w X gz br;refine fV (fun n' a w X=> ∃(i:Nat) (oA:Value),a=I i∧n'=xs.length-i∧i≤xs.length∧WS w0 vb w X lo wb oA (bs++encI xs.length++((xs.take i).map cM).flatten)) xs.length ⟨0,gz,rfl,rfl,aN _,by simpa using br⟩ ?_;clear br hS hs;rintro n' a w X ⟨i,oA,rfl,rfl,hi,hS⟩;have hs:=hS.s;rcases ej xs i with⟨cH,x,qZ,hd⟩|⟨eh,hd⟩
   ·have gT:=zB (f:=cM) qZ;repeat' first|refine bL ?_;intros
    refine fk (fun (k:World→XS→Prop)=>k w X) ?_ ?_
    ·repeat' first|refine aI ?_;intros
     refine tQ ?_;refine hS.dT (Iz (x:=x) hS.r (hc.mv hS.at) (Cells.mv (by assumption) hS.at) hS.z (by simp only [ae];omega) (ah cw hs.kp.size) (by have:=Tb x;omega)) kQ fun j8 w3 X3 bP lL=>?_;replace hs:=bP.s;repeat' first|refine aI ?_;intros
     refine fF (xs.length-(i+1)) zQ ⟨i+1,j8,by simp,rfl,by omega,?_⟩;rw [iY qZ,←au];exact bP
    ·intro K hK;repeat' first|refine aI ?_;intros|exact hK
   ·rw [bN eh] at hS;repeat' first|refine bL ?_;intros
    rw [au] at hS;exact hS.fin
  ·intro K hK;repeat' first|refine aI ?_;intros
   refine hS.dT (kO hS.r zQ cw) kQ fun gz w2 X2 br jF=>?_;replace hs:=br.s
   skip
   exact hK _ _ _ br
theorem TR {w:World} {X Z:XS} {lo wb cb xb xo:Nat} {vb va:Value} {bs:List Nat} {xs:List KV} (h:Wr w X lo wb vb bs) (hc:Cells w Z cb 0 (iE wb)) (hx:Cells w Z xb xo [va]) (ha:Sl w Z 4 va (xs.map KV.l)) (hZ:nG Z X wb vb) (fv:lo≤w.heap.size) (hb:bs.length+(fY cM xs).length≤2^33):
  kG 152 #[ptr cb 0,ptr xb xo,.func (.func 153) #[ptr cb 0] #[]] w X lo wb vb bs (fY cM xs):=by
  intro w0 hk;have cw:lo≤w0.heap.size:=ah fv hk.size;replace hc:=hc.mv (hZ.mv hk);replace hx:=hx.mv (hZ.mv hk);replace ha:=ha.mv (hZ.mv hk);have hS:=WS.init (h.mv hk.dm);have lS:=ha.fQ;apply pV;unfold mO;have hs:=hS.s;repeat' first|refine aI ?_;intros
  refine fk (fun (k:Value→World→XS→Prop)=> ∀w X gz,WS w0 vb w X lo wb gz (bs++encI xs.length)→k (I xs.length) w X) ?_ ?_
  ·intro w X gz br;refine fV (fun n' a w X=> ∃(i:Nat) (oA:Value),a=I i∧n'=xs.length-i∧i≤xs.length∧WS w0 vb w X lo wb oA (bs++encI xs.length++((xs.take i).map cM).flatten)) xs.length ⟨0,gz,rfl,rfl,aN _,by simpa using br⟩ ?_;clear br hS hs;rintro n' a w X ⟨i,oA,rfl,rfl,hi,hS⟩;have hs:=hS.s;rcases ej xs i with⟨cH,x,qZ,hd⟩|⟨eh,hd⟩
   ·have gT:=zB (f:=cM) qZ;repeat' first|refine bL ?_;intros
    refine fk (fun (k:World→XS→Prop)=>k w X) ?_ ?_
    ·repeat' first|refine aI ?_;intros
     refine tQ ?_;refine hS.dT (La (x:=x) hS.r (hc.mv hS.at) (Cells.mv (by assumption) hS.at) hS.z (by simp only [ae];omega) (ah cw hs.kp.size) (by have:=Tb x;omega)) kQ fun j8 w3 X3 bP lL=>?_;replace hs:=bP.s;repeat' first|refine aI ?_;intros
     refine fF (xs.length-(i+1)) zQ ⟨i+1,j8,by simp,rfl,by omega,?_⟩;rw [iY qZ,←au];exact bP
    ·intro K hK;repeat' first|refine aI ?_;intros|exact hK
   ·rw [bN eh] at hS;repeat' first|refine bL ?_;intros
    rw [au] at hS;exact hS.fin
  ·intro K hK;repeat' first|refine aI ?_;intros
   refine hS.dT (kO hS.r zQ cw) kQ fun gz w2 X2 br jF=>?_;replace hs:=br.s
   skip
   exact hK _ _ _ br
theorem Qw {w:World} {X Z:XS} {lo wb cb xb xo:Nat} {vb va:Value} {bs:List Nat} {xs:List kZ} (h:Wr w X lo wb vb bs) (hc:Cells w Z cb 0 (iE wb)) (hx:Cells w Z xb xo [va]) (ha:Sl w Z 6 va (xs.map kZ.l)) (hZ:nG Z X wb vb) (fv:lo≤w.heap.size) (hb:bs.length+(fY u5 xs).length≤2^33):
  kG 289 #[ptr cb 0,ptr xb xo,.func (.func 290) #[ptr cb 0] #[]] w X lo wb vb bs (fY u5 xs):=by
  intro w0 hk;have cw:lo≤w0.heap.size:=ah fv hk.size;replace hc:=hc.mv (hZ.mv hk);replace hx:=hx.mv (hZ.mv hk);replace ha:=ha.mv (hZ.mv hk);have hS:=WS.init (h.mv hk.dm);have lS:=ha.fQ;apply BZ;unfold tg;have hs:=hS.s;repeat' first|refine aI ?_;intros
  refine fk (fun (k:Value→World→XS→Prop)=> ∀w X gz,WS w0 vb w X lo wb gz (bs++encI xs.length)→k (I xs.length) w X) ?_ ?_
  ·intro w X gz br;refine fV (fun n' a w X=> ∃(i:Nat) (oA:Value),a=I i∧n'=xs.length-i∧i≤xs.length∧WS w0 vb w X lo wb oA (bs++encI xs.length++((xs.take i).map u5).flatten)) xs.length ⟨0,gz,rfl,rfl,aN _,by simpa using br⟩ ?_;clear br hS hs;rintro n' a w X ⟨i,oA,rfl,rfl,hi,hS⟩;have hs:=hS.s;rcases ej xs i with⟨cH,x,qZ,hd⟩|⟨eh,hd⟩
   ·have gT:=zB (f:=u5) qZ;repeat' first|refine bL ?_;intros
    refine fk (fun (k:World→XS→Prop)=>k w X) ?_ ?_
    ·repeat' first|refine aI ?_;intros
     refine tQ ?_;refine hS.dT (Qv (x:=x) hS.r (hc.mv hS.at) (Cells.mv (by assumption) hS.at) hS.z (by simp only [ae];omega) (ah cw hs.kp.size)) kQ fun j8 w3 X3 bP lL=>?_;replace hs:=bP.s;repeat' first|refine aI ?_;intros
     refine fF (xs.length-(i+1)) zQ ⟨i+1,j8,by simp,rfl,by omega,?_⟩;rw [iY qZ,←au];exact bP
    ·intro K hK;repeat' first|refine aI ?_;intros|exact hK
   ·rw [bN eh] at hS;repeat' first|refine bL ?_;intros
    rw [au] at hS;exact hS.fin
  ·intro K hK;repeat' first|refine aI ?_;intros
   refine hS.dT (kO hS.r zQ cw) kQ fun gz w2 X2 br jF=>?_;replace hs:=br.s
   skip
   exact hK _ _ _ br
theorem Qx {w:World} {X Z:XS} {lo wb cb xb xo:Nat} {vb vv:Value} {bs:List Nat} {x:jl} (h:Wr w X lo wb vb bs) (hc:Cells w Z cb 0 (iE wb)) (hx:Cells w Z xb xo (x.l vv)) (ha:Sl w Z 6 vv (x.jV.map kZ.l)) (hZ:nG Z X wb vb) (fv:lo≤w.heap.size) (hb:bs.length+(zs x).length≤2^33):
  kG 211 #[ptr cb 0,ptr xb xo] w X lo wb vb bs (zs x):=by
 have e1:(zs x).length=(ki x.key).length+(fY u5 x.jV).length:=by simp [zs]
 have e2:=nq x.key;replace ha:=fun {w1:World} (hk:Kp X w w1)=>ha.mv (hZ.mv hk);intro w0 hk;have cw:lo≤w0.heap.size:=ah fv hk.size;replace hc:=hc.mv (hZ.mv hk);replace hx:=hx.mv (hZ.mv hk);have hS:=WS.init (h.mv hk.dm);apply EU;unfold vE;have hs:=hS.s;replace ha:=ha hk;have ov:=ha.one;repeat' first|refine aI ?_;intros
 refine hS.dT (yw hS.r (hc.mv hS.at) (Cells.mv (by assumption) hS.at) hS.z zQ cw zQ) kQ fun gz w X br _=>?_;replace hs:=br.s;repeat' first|refine aI ?_;intros
 refine br.dT (Qw br.r (hc.mv br.at) (Cells.mv (by assumption) br.at) (ha.mv br.at) br.z (ah cw hs.kp.size) (by simp only [ae];omega)) kQ fun j8 w X bP _=>?_
 skip
 unfold zs;simp only [au] at bP;exact bP.fin
theorem Ep {w:World} {X Z:XS} {lo wb cb xb xo:Nat} {vb vr vw:Value} {bs:List Nat} {x:eG} (h:Wr w X lo wb vb bs) (hc:Cells w Z cb 0 (iE wb)) (hx:Cells w Z xb xo (x.l vr vw)) (h1:Sl w Z 1 vr (x.reads.map S1)) (h2:Sl w Z 4 vw (x.writes.map KV.l)) (hZ:nG Z X wb vb) (fv:lo≤w.heap.size) (hb:bs.length+(uJ x).length≤2^33):
  kG 144 #[ptr cb 0,ptr xb xo] w X lo wb vb bs (uJ x):=by
 have e1:(uJ x).length=(pE x.cB).length+((je x.aP).length+((fY ki x.reads).length+(fY cM x.writes).length)):=by simp [uJ]
 replace h1:=fun {w1:World} (hk:Kp X w w1)=>h1.mv (hZ.mv hk);replace h2:=fun {w1:World} (hk:Kp X w w1)=>h2.mv (hZ.mv hk);intro w0 hk;have cw:lo≤w0.heap.size:=ah fv hk.size;replace hc:=hc.mv (hZ.mv hk);replace hx:=hx.mv (hZ.mv hk);have hS:=WS.init (h.mv hk.dm);apply ER;unfold vB;have hs:=hS.s;replace h1:=h1 hk;replace h2:=h2 hk;have o1:=h1.one;have o2:=h2.one;repeat' first|refine aI ?_;intros
 refine hS.dT (sC (s:=x.cB) hS.r (hc.mv hS.at) (Cells.mv (by assumption) hS.at) hS.z (by(try simp only [ae]);omega) (ah cw hs.kp.size)) kQ fun gz w X br _=>?_;replace hs:=br.s;repeat' first|refine aI ?_;intros
 refine br.dT (g7 (s:=x.aP) br.r (hc.mv br.at) (Cells.mv (by assumption) br.at) br.z (by(try simp only [ae]);omega) (ah cw hs.kp.size)) kQ fun j8 w X bP _=>?_;replace hs:=bP.s;repeat' first|refine aI ?_;intros
 refine bP.dT (OD bP.r (hc.mv bP.at) (Cells.mv (by assumption) bP.at) (h1.mv bP.at) bP.z (ah cw hs.kp.size) (by simp only [ae];omega)) kQ fun Ni w X ep _=>?_;replace hs:=ep.s;repeat' first|refine aI ?_;intros
 refine ep.dT (IA ep.r (hc.mv ep.at) (Cells.mv (by assumption) ep.at) (h2.mv ep.at) ep.z (ah cw hs.kp.size) (by simp only [ae];omega)) kQ fun Qu w X ir _=>?_
 skip
 unfold uJ;simp only [au] at ir;exact ir.fin
theorem OE {w:World} {X Z:XS} {lo wb cb xb xo:Nat} {vb va:Value} {bs:List Nat} {xs:List jl} (h:Wr w X lo wb vb bs) (hc:Cells w Z cb 0 (iE wb)) (hx:Cells w Z xb xo [va]) (ha:mi w Z va xs) (hZ:nG Z X wb vb) (fv:lo≤w.heap.size) (hb:bs.length+(fY zs xs).length≤2^33):
  kG 210 #[ptr cb 0,ptr xb xo,.func (.func 211) #[ptr cb 0] #[]] w X lo wb vb bs (fY zs xs):=by
  intro w0 hk;have cw:lo≤w0.heap.size:=ah fv hk.size;replace hc:=hc.mv (hZ.mv hk);replace hx:=hx.mv (hZ.mv hk);replace ha:=ha.mv (hZ.mv hk);have hS:=WS.init (h.mv hk.dm);have lS:=ic.len ha;apply BX;unfold te;have hs:=hS.s;repeat' first|refine aI ?_;intros
  refine fk (fun (k:Value→World→XS→Prop)=> ∀w X gz,WS w0 vb w X lo wb gz (bs++encI xs.length)→k (I xs.length) w X) ?_ ?_
  ·intro w X gz br;refine fV (fun n' a w X=> ∃(i:Nat) (oA:Value),a=I i∧n'=xs.length-i∧i≤xs.length∧WS w0 vb w X lo wb oA (bs++encI xs.length++((xs.take i).map zs).flatten)) xs.length ⟨0,gz,rfl,rfl,aN _,by simpa using br⟩ ?_;clear br hS hs;rintro n' a w X ⟨i,oA,rfl,rfl,hi,hS⟩;have hs:=hS.s;rcases ej xs i with⟨cH,x,qZ,hd⟩|⟨eh,hd⟩
   ·have gT:=zB (f:=zs) qZ;repeat' first|refine bL ?_;intros
    refine fk (fun (k:World→XS→Prop)=>k w X) ?_ ?_
    ·repeat' first|refine aI ?_;intros|((with_reducible apply Lr);assumption;(try (case hz=>rfl));(case hr=>exact qR);(try (case hz=>omega));(case ht=>kernel_rfl);(case hs=>kernel_rfl);intros)
     refine tQ ?_;refine hS.dT (Qx (x:=x) hS.r (hc.mv hS.at) (Cells.mv (by assumption) hS.at) (Sl.mv (by assumption) hS.at) hS.z (ah cw hs.kp.size) (by simp only [ae];omega)) kQ fun j8 w3 X3 bP lL=>?_;replace hs:=bP.s;repeat' first|refine aI ?_;intros
     refine fF (xs.length-(i+1)) zQ ⟨i+1,j8,by simp,rfl,by omega,?_⟩;rw [iY qZ,←au];exact bP
    ·intro K hK;repeat' first|refine aI ?_;intros|exact hK
   ·rw [bN eh] at hS;repeat' first|refine bL ?_;intros
    rw [au] at hS;exact hS.fin
  ·intro K hK;repeat' first|refine aI ?_;intros
   refine hS.dT (kO hS.r zQ cw) kQ fun gz w2 X2 br jF=>?_;replace hs:=br.s
   skip
   exact hK _ _ _ br
theorem OF {w:World} {X Z:XS} {lo wb cb xb xo:Nat} {vb va:Value} {bs:List Nat} {xs:List eG} (h:Wr w X lo wb vb bs) (hc:Cells w Z cb 0 (iE wb)) (hx:Cells w Z xb xo [va]) (ha:lF w Z va xs) (hZ:nG Z X wb vb) (fv:lo≤w.heap.size) (hb:bs.length+(fY uJ xs).length≤2^33):
  kG 212 #[ptr cb 0,ptr xb xo,.func (.func 144) #[ptr cb 0] #[]] w X lo wb vb bs (fY uJ xs):=by
  intro w0 hk;have cw:lo≤w0.heap.size:=ah fv hk.size;replace hc:=hc.mv (hZ.mv hk);replace hx:=hx.mv (hZ.mv hk);replace ha:=ha.mv (hZ.mv hk);have hS:=WS.init (h.mv hk.dm);have lS:=ic.len ha;apply BY;unfold tf;have hs:=hS.s;repeat' first|refine aI ?_;intros
  refine fk (fun (k:Value→World→XS→Prop)=> ∀w X gz,WS w0 vb w X lo wb gz (bs++encI xs.length)→k (I xs.length) w X) ?_ ?_
  ·intro w X gz br;refine fV (fun n' a w X=> ∃(i:Nat) (oA:Value),a=I i∧n'=xs.length-i∧i≤xs.length∧WS w0 vb w X lo wb oA (bs++encI xs.length++((xs.take i).map uJ).flatten)) xs.length ⟨0,gz,rfl,rfl,aN _,by simpa using br⟩ ?_;clear br hS hs;rintro n' a w X ⟨i,oA,rfl,rfl,hi,hS⟩;have hs:=hS.s;rcases ej xs i with⟨cH,x,qZ,hd⟩|⟨eh,hd⟩
   ·have gT:=zB (f:=uJ) qZ;repeat' first|refine bL ?_;intros
    refine fk (fun (k:World→XS→Prop)=>k w X) ?_ ?_
    ·repeat' first|refine aI ?_;intros|((with_reducible apply T7);assumption;(try (case hz=>rfl));(case hr=>exact qR);(try (case hz=>omega));(case ht=>kernel_rfl);(case hs=>kernel_rfl);intros)
     refine tQ ?_;refine hS.dT (Ep (x:=x) hS.r (hc.mv hS.at) (Cells.mv (by assumption) hS.at) (Sl.mv (by assumption) hS.at) (Sl.mv (by assumption) hS.at) hS.z (ah cw hs.kp.size) (by simp only [ae];omega)) kQ fun j8 w3 X3 bP lL=>?_;replace hs:=bP.s;repeat' first|refine aI ?_;intros
     refine fF (xs.length-(i+1)) zQ ⟨i+1,j8,by simp,rfl,by omega,?_⟩;rw [iY qZ,←au];exact bP
    ·intro K hK;repeat' first|refine aI ?_;intros|exact hK
   ·rw [bN eh] at hS;repeat' first|refine bL ?_;intros
    rw [au] at hS;exact hS.fin
  ·intro K hK;repeat' first|refine aI ?_;intros
   refine hS.dT (kO hS.r zQ cw) kQ fun gz w2 X2 br jF=>?_;replace hs:=br.s
   skip
   exact hK _ _ _ br
theorem TS {w:World} {X Z:XS} {lo wb cb xb xo:Nat} {vb vh vp:Value} {bs:List Nat} {x:State} (h:Wr w X lo wb vb bs) (hc:Cells w Z cb 0 (iE wb)) (hx:Cells w Z xb xo (x.l vh vp)) (h1:mi w Z vh x.ia) (h2:lF w Z vp x.g8) (hZ:nG Z X wb vb) (fv:lo≤w.heap.size) (hb:bs.length+(encS x).length≤2^33):
  kG 143 #[ptr cb 0,ptr xb xo] w X lo wb vb bs (encS x):=by
 have e1:(encS x).length=(Pn x.range).length+((je x.floor).length+((je x.closed).length+((fY zs x.ia).length+(fY uJ x.g8).length))):=by simp [encS]
 replace h1:=fun {w1:World} (hk:Kp X w w1)=>mi.mv h1 (hZ.mv hk);replace h2:=fun {w1:World} (hk:Kp X w w1)=>lF.mv h2 (hZ.mv hk);intro w0 hk;have cw:lo≤w0.heap.size:=ah fv hk.size;replace hc:=hc.mv (hZ.mv hk);replace hx:=hx.mv (hZ.mv hk);have hS:=WS.init (h.mv hk.dm);apply Hs;unfold ye;have hs:=hS.s;replace h1:=h1 hk;replace h2:=h2 hk;have o1:=h1.one;have o2:=h2.one;repeat' first|refine aI ?_;intros
 refine hS.dT (TQ (r:=x.range) hS.r (hc.mv hS.at) (Cells.mv (by assumption) hS.at) hS.z (by(try simp only [ae]);omega) (ah cw hs.kp.size)) kQ fun gz w X br _=>?_;replace hs:=br.s;repeat' first|refine aI ?_;intros
 refine br.dT (g7 (s:=x.floor) br.r (hc.mv br.at) (Cells.mv (by assumption) br.at) br.z (by(try simp only [ae]);omega) (ah cw hs.kp.size)) kQ fun j8 w X bP _=>?_;replace hs:=bP.s;repeat' first|refine aI ?_;intros
 refine bP.dT (g7 (s:=x.closed) bP.r (hc.mv bP.at) (Cells.mv (by assumption) bP.at) bP.z (by(try simp only [ae]);omega) (ah cw hs.kp.size)) kQ fun Ni w X ep _=>?_;replace hs:=ep.s;repeat' first|refine aI ?_;intros
 refine ep.dT (OE ep.r (hc.mv ep.at) (Cells.mv (by assumption) ep.at) (h1.mv ep.at) ep.z (ah cw hs.kp.size) (by simp only [ae];omega)) kQ fun Qu w X ir _=>?_;replace hs:=ir.s;repeat' first|refine aI ?_;intros
 refine ir.dT (OF ir.r (hc.mv ir.at) (Cells.mv (by assumption) ir.at) (h2.mv ir.at) ir.z (ah cw hs.kp.size) (by simp only [ae];omega)) kQ fun vb6 w X Bn _=>?_
 skip
 unfold encS;simp only [au] at Bn;exact Bn.fin
def vZ (r:Rec):List Nat:=encI r.kind++(
 if r.kind=1 then encS r.state
 else if r.kind=2∨r.kind=7∨r.kind=8 then encI r.n
 else if r.kind=3 then uJ ⟨r.cB,r.aP,r.reads,r.writes⟩++fY encI r.parts
 else if r.kind=4 then pE r.cB++(aaI r.jW++je r.aP)
 else if r.kind=5 then je r.aP
 else if r.kind=6 then rG r.rq++(encI r.n++je r.aP)
 else if r.kind=9 then pE r.cB++(je r.aP++fY encI r.parts)
 else if r.kind=10 then pE r.cB
 else if r.kind=11 then je r.prev++(je r.aP++(pE r.cB++fY cM r.writes))
 else if r.kind=12 then je r.aP++fY cM r.bF
 else [])
theorem HH {P:Program} {R:Ending→World→Prop} {X:XS} {w:World} {t sz b o o':Nat} {cs:List Value} {ty:TypeId} {v:Value} {N:Value→World→XS→Prop} (h:bH w X b cs ty) (WW:o'=o) (ht:(P.info? t).map (·.size)=some sz)
  (hl:o+sz≤cs.length) (hv:v.cells.size=sz) (h1:v.cells.toList.all one=true) (hX: ∀k,X k→k<w.heap.size) (he:b8 cs o v.cells.toList=cs)
  (n: ∀w' X',aj X w X' w'→N undef w' X'):eU P R X w true (dV t sz (ptr b o') v) N:=by
 refine zH h WW ht hl hv h1 hX fun w' X' c hr=>n w' X' ⟨⟨c.os,c.tape,c.output,c.size,fun k hk=>?_⟩,c.sub,c.has⟩;by_cases e:k=b
 ·subst e;rw [h.2,hr.2,he]
 ·exact c.block k hk e
theorem WS.Gx {w0 w w':World} {X X':XS} {lo wb b:Nat} {oU vb:Value} {bs:List Nat} {cs:List Value} {ty:TypeId} (hS:WS w0 oU w X lo wb vb bs) (hr:bH w X b cs ty) (hb:w0.heap.size≤b)
  (h1:decide (308≠ty)=true) (h2:decide (5≠ty)=true) (c:eD (fun k=>k=b) X w X' w'):WS w0 oU w' X' lo wb vb bs:=by
 have cU:wb≠b:=hS.r.box.dJ hr h1;refine⟨hS.s.dM c fun q h0 hq=>?_,⟨⟨c.sub _ hS.r.box.1,by rw [c.block _ hS.r.box.1 fun e=>cU e];exact hS.r.box.2⟩,Own.dM hS.r.ow c fun g hg e=>Own.dJ hS.r.ow hr h2 (by rw [hg,e])⟩,hS.v⟩;have:=h0.1;have hq:q=b:=hq;omega
theorem _root_.Go.dL.bH.dM {F X X':XS} {w w':World} {b:Nat} {cs:List Value} {ty:TypeId} (h:bH w X b cs ty) (c:eD F X w X' w') (hn: ¬F b):bH w' X' b cs ty:=⟨c.sub _ h.1,by rw [c.block _ h.1 hn];exact h.2⟩
theorem Y8 {w:World} {X Z:XS} {lo wb cb xb:Nat} {vb:Value} {bs:List Nat} {r:Rec} {vr vw vp vq vh vd:Value} (h:Wr w X lo wb vb bs) (hc:Cells w Z cb 0 (iE wb)) (hx:bH w Z xb (r.l vr vw vp vq vh vd) 117) (fm:r.at w Z vr vw vp vq vh vd) (hZ:nG Z X wb vb) (fv:lo≤w.heap.size)
  (hb:bs.length+(vZ r).length≤2^33):kG 89 #[ptr cb 0,ptr xb 0] w X lo wb vb bs (vZ r):=by
 intro w0 hk;have cw:lo≤w0.heap.size:=ah fv hk.size;replace hc:=hc.mv (hZ.mv hk);replace hx:=hx.mv (hZ.mv hk);replace fm:=fm.mv (hZ.mv hk);obtain⟨a1,a2,a3,a4,a5,a6⟩:=fm;obtain⟨p1,n1,c1,rfl⟩:=a1.form;obtain⟨p2,n2,c2,rfl⟩:=a2.form;have o1:=a1.one;have o2:=a2.one;have o3:=a3.one;have o4:=a4.one;have o5:=a5.one;have o6:=a6.one;have dA:=hx;replace hx:=hx.cells;have hS:=WS.init (h.mv hk.dm);have e1:=dW r.kind;obtain⟨E,hE⟩: ∃E,E=vZ r:=⟨_,rfl⟩;rw [←hE] at hb⊢;unfold vZ at hE;have hEl:(encI r.kind).length≤E.length:=by rw [hE,ae];omega
 apply tC;unfold qw;have hs:=hS.s;repeat' first|refine aI ?_;intros
 refine hS.dT (iq hS.r (hc.mv hS.at) (Cells.mv (by assumption) hS.at) hS.z zQ (ah cw hs.kp.size)) kQ fun gz w X br _=>?_;replace hs:=br.s;repeat' first|refine aI ?_;intros
 refine fk (fun (k:World→XS→Prop)=> ∀w X j8,WS w0 vb w X lo wb j8 (bs++E)→k w X) (fun w X j8 bP=>bP.fin) fun K hK=>?_;repeat' first|refine aI ?_;intros|refine de ?_ ?_<;>intros|with_reducible apply cG
 all_goals (repeat (first|rw [if_pos zQ] at hE|rw [if_neg zQ] at hE))
 all_goals (have hEb:=congrArg az hE;simp only [ae] at hEb)
 ·refine br.dT (TS (x:=r.state) br.r (hc.mv br.at) (Cells.mv (by assumption) br.at) (a5.mv br.at) (a6.mv br.at) br.z (ah cw hs.kp.size) (by simp only [ae];omega)) kQ fun j8 w X bP _=>?_;have h9:=bP;rw [hE] at hK
  (try simp only [au] at h9 hK)
  exact hK _ _ _ h9
 ·refine br.dT (iq br.r (hc.mv br.at) (Cells.mv (by assumption) br.at) br.z (by simp only [ae];omega) (ah cw hs.kp.size)) kQ fun j8 w X bP _=>?_;have h9:=bP;rw [hE] at hK
  (try simp only [au] at h9 hK)
  exact hK _ _ _ h9
 ·refine br.dT (iq br.r (hc.mv br.at) (Cells.mv (by assumption) br.at) br.z (by simp only [ae];omega) (ah cw hs.kp.size)) kQ fun j8 w X bP _=>?_;have h9:=bP;rw [hE] at hK
  (try simp only [au] at h9 hK)
  exact hK _ _ _ h9
 ·refine br.dT (iq br.r (hc.mv br.at) (Cells.mv (by assumption) br.at) br.z (by simp only [ae];omega) (ah cw hs.kp.size)) kQ fun j8 w X bP _=>?_;have h9:=bP;rw [hE] at hK
  (try simp only [au] at h9 hK)
  exact hK _ _ _ h9
 ·have e2:(uJ ⟨r.cB,r.aP,r.reads,r.writes⟩).length≤E.length:=by omega
  refine Fj (l:=[I 0,I 0,I 0,I 0,I 0,I 0,.slice none 0 0,.slice none 0 0]) hs.has kQ fun pb w3 X3 Ib cl af4=>?_;have bP:=br.since cl;refine zH (o:=0) af4 rfl kQ (by simp) rfl rfl cl.has fun w4 X4 c4 HI=>?_;replace HI:bH w4 X4 pb ((⟨r.cB,r.aP,r.reads,r.writes⟩:eG).l (.slice p1 n1 c1) (.slice p2 n2 c2)) 229:=HI;have amc:w0.heap.size≤pb:=ah hs.kp.size Ib;have ep:=bP.Gx af4 amc kQ kQ c4;have hnf: ¬BJ wb gz pb:=fun hf=>hf.elim (fun e=>ep.r.box.dJ HI kQ e.symm) fun e=>Own.dJ ep.r.ow HI kQ e;obtain⟨Z',hZ'⟩: ∃Z':XS,Z'=fun k=>k=pb∨out (BJ wb vb) w0 k:=⟨_,rfl⟩;have mv4:Mv (out (BJ wb vb) w0) w0 Z' w4:=fun k ai _=>⟨by rw [hZ'];exact .inr ai,ep.s.kp.block k ai⟩;have qf:nG Z' X4 wb gz:=fun k ai=>by
   rw [hZ'] at ai;rcases ai with rfl|ai
   ·exact⟨HI.1,hnf⟩
   ·exact ep.z k ai
  refine ep.dT (Ep (x:=⟨r.cB,r.aP,r.reads,r.writes⟩) ep.r (hc.mv mv4) (bH.cells (X:=Z') (ty:=229) ⟨by rw [hZ'];exact .inl rfl,HI.2⟩) (a1.mv mv4) (a2.mv mv4) qf (ah cw ep.s.kp.size) (by simp only [ae];omega)) kQ fun Qu w5 X5 ir c5=>?_;have amx:=HI.dM c5 hnf;clear hs;have hs:=ir.s;repeat' first|refine aI ?_;intros
  refine HH (o:=1) (dA.mv ir.s.mv) zQ kQ (by simp) rfl rfl ir.s.has (by rfl) fun w6 X6 pG=>?_;have Bn:=ir.since pG;repeat' first|refine aI ?_;intros
  refine HH (o:=4) (dA.mv Bn.s.mv) zQ kQ (by simp) rfl rfl Bn.s.has (by rfl) fun w7 X7 kY=>?_;have PM:=Bn.since kY;repeat' first|refine aI ?_;intros
  refine HH (o:=13) (dA.mv PM.s.mv) zQ kQ (by simp) rfl rfl PM.s.has (by rfl) fun w8 X8 qa=>?_;have hS8:=PM.since qa;repeat' first|refine aI ?_;intros
  refine HH (o:=14) (dA.mv hS8.s.mv) zQ kQ (by simp) rfl rfl hS8.s.has (by rfl) fun w9 X9 wN=>?_;have FJ:=hS8.since wN;clear hs;have hs:=FJ.s;repeat' first|refine aI ?_;intros
  refine FJ.dT (Eo FJ.r (hc.mv FJ.at) (Cells.mv (by assumption) FJ.at) (a3.mv FJ.at) FJ.z (ah cw hs.kp.size) (by simp only [ae];omega)) kQ fun am8 w X Wu _=>?_;have h9:=Wu;rw [hE] at hK
  (try simp only [au] at h9 hK)
  exact hK _ _ _ h9
 ·refine br.dT (sC (s:=r.cB) br.r (hc.mv br.at) (Cells.mv (by assumption) br.at) br.z (by(try simp only [ae]);omega) (ah cw hs.kp.size)) kQ fun j8 w X bP _=>?_;replace hs:=bP.s;repeat' first|refine aI ?_;intros
  refine bP.dT (XL (b:=r.jW) bP.r (hc.mv bP.at) (Cells.mv (by assumption) bP.at) bP.z (by(try simp only [ae]);omega) (ah cw hs.kp.size)) kQ fun Ni w X ep _=>?_;replace hs:=ep.s;repeat' first|refine aI ?_;intros
  refine ep.dT (g7 (s:=r.aP) ep.r (hc.mv ep.at) (Cells.mv (by assumption) ep.at) ep.z (by(try simp only [ae]);omega) (ah cw hs.kp.size)) kQ fun Qu w X ir _=>?_;replace hs:=ir.s
  skip
  have h9:=ir;rw [hE] at hK
  (try simp only [au] at h9 hK)
  exact hK _ _ _ h9
 ·refine br.dT (g7 (s:=r.aP) br.r (hc.mv br.at) (Cells.mv (by assumption) br.at) br.z (by(try simp only [ae]);omega) (ah cw hs.kp.size)) kQ fun j8 w X bP _=>?_;replace hs:=bP.s
  skip
  have h9:=bP;rw [hE] at hK
  (try simp only [au] at h9 hK)
  exact hK _ _ _ h9
 ·refine br.dT (AX br.r (hc.mv br.at) (Cells.mv (by assumption) br.at) br.z (by(try simp only [ae]);omega) (ah cw hs.kp.size)) kQ fun j8 w X bP _=>?_;replace hs:=bP.s;repeat' first|refine aI ?_;intros
  refine bP.dT (iq bP.r (hc.mv bP.at) (Cells.mv (by assumption) bP.at) bP.z (by(try simp only [ae]);omega) (ah cw hs.kp.size)) kQ fun Ni w X ep _=>?_;replace hs:=ep.s;repeat' first|refine aI ?_;intros
  refine ep.dT (g7 (s:=r.aP) ep.r (hc.mv ep.at) (Cells.mv (by assumption) ep.at) ep.z (by(try simp only [ae]);omega) (ah cw hs.kp.size)) kQ fun Qu w X ir _=>?_;replace hs:=ir.s
  skip
  have h9:=ir;rw [hE] at hK
  (try simp only [au] at h9 hK)
  exact hK _ _ _ h9
 ·refine br.dT (sC (s:=r.cB) br.r (hc.mv br.at) (Cells.mv (by assumption) br.at) br.z (by(try simp only [ae]);omega) (ah cw hs.kp.size)) kQ fun j8 w X bP _=>?_;replace hs:=bP.s;repeat' first|refine aI ?_;intros
  refine bP.dT (g7 (s:=r.aP) bP.r (hc.mv bP.at) (Cells.mv (by assumption) bP.at) bP.z (by(try simp only [ae]);omega) (ah cw hs.kp.size)) kQ fun Ni w X ep _=>?_;replace hs:=ep.s;repeat' first|refine aI ?_;intros
  refine ep.dT (Eo ep.r (hc.mv ep.at) (Cells.mv (by assumption) ep.at) (a3.mv ep.at) ep.z (ah cw hs.kp.size) (by simp only [ae];omega)) kQ fun Qu w X ir _=>?_;have h9:=ir;rw [hE] at hK
  (try simp only [au] at h9 hK)
  exact hK _ _ _ h9
 ·refine br.dT (sC (s:=r.cB) br.r (hc.mv br.at) (Cells.mv (by assumption) br.at) br.z (by(try simp only [ae]);omega) (ah cw hs.kp.size)) kQ fun j8 w X bP _=>?_;replace hs:=bP.s
  skip
  have h9:=bP;rw [hE] at hK
  (try simp only [au] at h9 hK)
  exact hK _ _ _ h9
 ·refine br.dT (g7 (s:=r.prev) br.r (hc.mv br.at) (Cells.mv (by assumption) br.at) br.z (by(try simp only [ae]);omega) (ah cw hs.kp.size)) kQ fun j8 w X bP _=>?_;replace hs:=bP.s;repeat' first|refine aI ?_;intros
  refine bP.dT (g7 (s:=r.aP) bP.r (hc.mv bP.at) (Cells.mv (by assumption) bP.at) bP.z (by(try simp only [ae]);omega) (ah cw hs.kp.size)) kQ fun Ni w X ep _=>?_;replace hs:=ep.s;repeat' first|refine aI ?_;intros
  refine ep.dT (sC (s:=r.cB) ep.r (hc.mv ep.at) (Cells.mv (by assumption) ep.at) ep.z (by(try simp only [ae]);omega) (ah cw hs.kp.size)) kQ fun Qu w X ir _=>?_;replace hs:=ir.s;repeat' first|refine aI ?_;intros
  refine ir.dT (IA ir.r (hc.mv ir.at) (Cells.mv (by assumption) ir.at) (a2.mv ir.at) ir.z (ah cw hs.kp.size) (by simp only [ae];omega)) kQ fun vb6 w X Bn _=>?_;have h9:=Bn;rw [hE] at hK
  (try simp only [au] at h9 hK)
  exact hK _ _ _ h9
 ·refine br.dT (g7 (s:=r.aP) br.r (hc.mv br.at) (Cells.mv (by assumption) br.at) br.z (by(try simp only [ae]);omega) (ah cw hs.kp.size)) kQ fun j8 w X bP _=>?_;replace hs:=bP.s;repeat' first|refine aI ?_;intros
  refine bP.dT (TR bP.r (hc.mv bP.at) (Cells.mv (by assumption) bP.at) (a4.mv bP.at) bP.z (ah cw hs.kp.size) (by simp only [ae];omega)) kQ fun Ni w X ep _=>?_;have h9:=ep;rw [hE] at hK
  (try simp only [au] at h9 hK)
  exact hK _ _ _ h9
 ·rw [bZ] at hE;have h9:=br;rw [hE] at hK
  (try simp only [au] at h9 hK)
  exact hK _ _ _ h9
def Rec.tZ (r:Rec):Int:=if r.err≠0 then r.err else if 262144<(vZ r).length then 2 else 0
theorem TT {w:World} {X:XS} {r:Rec} {vr vw vp vq vh vd:Value} (h:r.at w X vr vw vp vq vh vd) (jo:r.small) (lz:r.err=0→(vZ r).length≤2^33):
  Ct pg 91 #[r.v vr vw vp vq vh vd] w X nX fun v wa w'=>if r.tZ≠0 then v= .tuple #[.slice none 0 0,I r.tZ] else∃vb,v= .tuple #[vb,I 0]∧Own w' (made wa w') wa.heap.size 5 1 vb ((vZ r).map U1):=by
 intro w0 hk;replace h:=h.mv hk.dm;have o1:=h.1.one;have o2:=h.2.1.one;have o3:=h.2.2.1.one;have o4:=h.2.2.2.1.one;have o5:=h.2.2.2.2.1.one;have o6:=h.2.2.2.2.2.one;apply zx;unfold uj;have hs:=aj.init w0;repeat' first|refine aI ?_;intros|refine de ?_ ?_<;>intros|(with_reducible apply kX);(case hX=>exact hs.has);intro bx w X gT aq dA;have bT:=hs.trans aq;replace hs:=aj.dY aq.has|(refine dy (HF (r:=r) (h.mv (bT.trans hs).mv) jo) kQ hs.has fun w X aq=>?_;replace hs:=hs.trans aq)
 ·have e:r.tZ=r.err:=if_pos (by assumption);exact ak (bT.trans hs) fun wa hk=>by dsimp only;rw [e,if_pos (by assumption)]
 ·have yR:r.err=0:=by assumption
  have k3:=lz yR;refine cJ wE kQ hs.has ?_;rintro v wa w2 X2 ⟨wb,rfl,hW⟩ hle fU bQ;have Jp:=bT.trans (hs.trans bQ);have kW:=dA.lt;have ME:=hs.kp.size;have tw:=bT.kp.size;have hwb:=hW.box.1;have xm:=dA.since (hs.trans bQ);refine xk kQ ?_;refine kX Jp.has fun cb w3 X3 hcb cl sX=>?_;have El:=Jp.trans cl;have Em:=xm.since cl;obtain⟨Z,En⟩: ∃Z:XS,Z=fun k=>k=bx∨k=cb∨ba w0 k:=⟨_,rfl⟩;have ajc:wa.heap.size≤wb∧wb<w2.heap.size:=hwb;have hZ:nG Z X3 wb (.slice none 0 0):=fun k ai=>by
   rw [En] at ai;refine⟨?_,fun hf=>?_⟩
   ·rcases ai with rfl|rfl|ai
    ·exact Em.1
    ·exact sX.1
    ·exact El.sub k ai
   ·rcases hf with hf|hf
    ·rcases ai with e|e|e
     ·omega
     ·omega
     ·have:k<w0.heap.size:=e;omega
    ·cases hf
  have hcC:Cells w3 Z cb 0 (iE wb):=bH.cells (ty:=175) ⟨by rw [En];exact .inr (.inl rfl),sX.2⟩;have hxC:bH w3 Z bx (r.l vr vw vp vq vh vd) 117:=⟨by rw [En];exact .inl rfl,Em.2⟩;have haC:r.at w3 Z vr vw vp vq vh vd:=h.mv fun k ai hl=>⟨by rw [En];exact .inr (.inr ai),El.kp.block k ai⟩;have Lb:Wr w3 X3 wa.heap.size wb (.slice none 0 0) []:=(hW.mv (Mv.sub fU)).mv cl.mv;refine xl (Y8 Lb hcC hxC haC hZ (by have:=cl.kp.size;omega) (by simpa using k3)) kQ El.has (fun q hq=>by
   rcases hq with rfl|hq
   ·exact Lb.box.1
   ·cases hq) fun v yJ w4 X4 hq sF lK ajd sc=>?_
  obtain⟨rfl,Dn,hW4⟩:=hq;have ff:=El.dM sc fun k ai hf=>by
   have h0:k<w0.heap.size:=ai;rcases hf with hf|hf
   ·omega
   ·cases hf
  have hW5:Wr w4 X4 wa.heap.size wb Dn (vZ r):=hW4.mv (Mv.sub fun k ai=>by
   rcases ai with(ai|ai)|ai
   ·rw [ai];exact sc.sub _ Lb.box.1
   ·cases ai
   ·exact lK k ai)
  refine cJ (Dp hW5 zQ) kQ ff.has ?_;rintro v5 Fk w5 X5 qx AM sG oI;have hsC:=ff.trans oI;have ho:Own w5 X5 w0.heap.size 5 1 v5 ((vZ r).map U1):=qx.up sG (by have:=ff.kp.size;omega);clear hs bT;have hs:=hsC;have ov:=ho.sl.one;have hl:(List.map U1 (vZ r)).length=(vZ r).length:=aG _;repeat' first|refine aI ?_;intros|refine de ?_ ?_<;>intros
  ·have e:r.tZ=2:=by unfold Rec.tZ;rw [if_neg zQ,if_pos zQ]
   exact ak hs fun wb aM=>by dsimp only;rw [e,if_pos zQ]
  ·have e:r.tZ=0:=by unfold Rec.tZ;rw [if_neg zQ,if_neg zQ]
   exact ak hs fun wb aM=>by
    dsimp only;rw [e,if_neg zQ];exact⟨v5,rfl,(ho.kp aM).tight⟩
def Ac (n:Int):Prop:= -9223372036854775808≤n∧n<9223372036854775808
theorem aai {n:Int} (h:Ac n) (h0:0≤n):(qV n:Int)=2*n:=by
 unfold Ac at h;unfold qV;rw [if_neg zQ];omega
theorem aaj {n:Int} (h:Ac n) (h0:n<0):(qV n:Int)= -1-2*n:=by
 unfold Ac at h;unfold qV;rw [if_pos h0];omega
theorem aak {u:Nat} (h:u<128):nv u=[u]:=by rw [nv,if_pos h]
theorem aal {u:Nat} (h: ¬u<128):nv u=(u % 128+128)::nv (u/128):=by rw [nv,if_neg h]
section
variable {P : Program} {X : XS} {w : World} {N : Value → Prop} {t : TypeId}
theorem aje: ∀b:Nat,b<256→(aQ 8 (b:Int)&&& aQ 8 127).toNat=b % 128:=by decide+kernel
theorem afl {b:Nat} (hb:b<256) (h:N (.int .u8 ((b % 128:Nat):Int))):aa P X w (binOp .and t (.int .u8 (b:Int)) (.int .u8 127)) N:=
 LA (by
  have e:IntKind.u8.wrap (aQ IntKind.u8.bits (b:Int)&&& aQ IntKind.u8.bits 127).toNat=((b % 128:Nat):Int):=by
   rw [DI];have:=aje b hb
   show((aQ 8 (b:Int)&&& aQ 8 127).toNat:Int) % 256=_
   rw [this];omega
  rw [e];exact h)
theorem ajf {u:Nat} (hu:u<18446744073709551616) (h:N (.int .u64 ((u % 2:Nat):Int))):aa P X w (binOp .and t (.int .u64 (u:Int)) (.int .u64 1)) N:=
 LA (by
  have e:IntKind.u64.wrap (aQ IntKind.u64.bits (u:Int)&&& aQ IntKind.u64.bits 1).toNat=((u % 2:Nat):Int):=by
   rw [wrap64];have h1:(aQ 64 (u:Int))=mF 64 u:=by simp
   have h2:(aQ 64 1)=mF 64 1:=by decide
   show((aQ 64 (u:Int)&&& aQ 64 1).toNat:Int) % 18446744073709551616=_
   rw [h1,h2,BitVec.toNat_and,fc,fc,ek (by omega:u<2^64)];have:u&&& 1 % 2^64=u % 2:=Nat.and_one_is_mod u;rw [this];omega
  rw [e];exact h)
theorem ajg {a b:Int} (h1: -9223372036854775808≤a*b) (h2:a*b<9223372036854775808) (h:N (I (a*b))):aa P X w (binOp .mul t (I a) (I b)) N:=
 Rm (by
  have e:IntKind.i64.wrap (a*b)=a*b:=by
   simp only [jZ,iI,gC];simp;omega
  rw [e];exact h)
theorem ajh (k:Nat):2^(7*k)=128^k:=by rw [Nat.pow_mul]
theorem aji {c k:Nat} {z:Int} (hz:z=7*(k:Int)) (hk:k≤9) (hc:c*128^k<18446744073709551616) (h:N (.int .u64 ((c*128^k:Nat):Int))):aa P X w (binOp .shl t (.int .u64 (c:Int)) (I z)) N:=
 Lm zQ (by
  rw [wrap64];have e:((c:Int)*2^min z.toNat IntKind.u64.bits) % 18446744073709551616=((c*128^k:Nat):Int):=by
   have h1:min z.toNat IntKind.u64.bits=7*k:=by
    show min z.toNat 64=7*k
    omega
   rw [h1];have h2:(2:Int)^(7*k)=((128^k:Nat):Int):=by rw [←ajh];simp
   rw [h2,←Int.natCast_mul];omega
  rw [e];exact h)
theorem ahh {c k:Nat} {z:Int} (hz:z=7*(k:Int)) (hk:k≤9) (jF:c<256) (hc:c*128^k<18446744073709551616) (h:N (.int .u64 ((c*128^k:Nat):Int))):aa P X w (binOp .shl t (.int .u64 (IntKind.u64.wrap (c:Int))) (I z)) N:=by
 have e:IntKind.u64.wrap (c:Int)=c:=by rw [wrap64];omega
 rw [e];exact aji hz hk hc h
theorem acu {a c k:Nat} (ha:a<2^k):a|||c*2^k=a+c*2^k:=by
 have:=Nat.two_pow_add_eq_or_of_lt ha c;rw [Nat.or_comm,Nat.add_comm,wD];exact this.symm
theorem ahi {a c k:Nat} (ha:a<128^k) (cH:a+c*128^k<18446744073709551616) (h:N (.int .u64 ((a+c*128^k:Nat):Int))):aa P X w (binOp .or t (.int .u64 (a:Int)) (.int .u64 ((c*128^k:Nat):Int))) N:=
 Jx (by
  have e:IntKind.u64.wrap (aQ IntKind.u64.bits (a:Int)|||aQ IntKind.u64.bits ((c*128^k:Nat):Int)).toNat=((a+c*128^k:Nat):Int):=by
   rw [wrap64];have h1:(aQ 64 (a:Int))=mF 64 a:=by simp
   have h2:(aQ 64 ((c*128^k:Nat):Int))=mF 64 (c*128^k):=by rw [BitVec.ofInt_natCast]
   show((aQ 64 (a:Int)|||aQ 64 ((c*128^k:Nat):Int)).toNat:Int) % 18446744073709551616=_
   rw [h1,h2,BitVec.toNat_or,fc,fc,ek (by omega:a<2^64),ek (by omega:c*128^k<2^64)];have:a|||c*128^k=a+c*128^k:=by rw [←ajh] at ha⊢;exact acu ha
   rw [this];omega
  rw [e];exact h)
theorem ajj {u:Nat} (h:N (.int .u64 ((u/2:Nat):Int))):aa P X w (binOp .shr t (.int .u64 (u:Int)) (.int .u64 1)) N:=
 B4 zQ (by
  have e:((u:Int)).fdiv (2^min (1:Int).toNat IntKind.u64.bits)=((u/2:Nat):Int):=by
   show((u:Int)).fdiv 2=_
   rw [lY _ (by decide)];omega
  rw [e];exact h)
theorem Ua {u:Nat} (hu:u<9223372036854775808):IntKind.i64.wrap (u:Int)=u:=by
 simp only [jZ,iI,gC];simp;omega
theorem ajk {u:Nat} (hu:u<9223372036854775808) (h:N (I (-1-(u:Int)))):aa P X w (bg .xor (I (IntKind.i64.wrap (u:Int)))) N:=by
 rw [Ua hu];refine bX (v:=I (-1-(u:Int))) (fun wa=>?_) h;have key:(aQ 64 (-1)^^^aQ 64 (u:Int)).toNat=18446744073709551615-u:=by
  have h1:aQ 64 (-1)=AH 64:=by decide
  have h2:(aQ 64 (u:Int))=mF 64 u:=by simp
  rw [h1,h2,vH,yv,fc,ek zQ]
 have hk:(bg .xor (I (u:Int))).run P wa= .ok (I (IntKind.i64.wrap (aQ 64 (-1)^^^aQ 64 (u:Int)).toNat)) wa:=by
  simp only [bg,zA,gC,iI];rfl
 rw [hk,key];have:IntKind.i64.wrap ((18446744073709551615-u:Nat):Int)= -1-(u:Int):=by
  simp only [jZ,iI,gC];simp;omega
 rw [this]
end
structure pZ (w:World) (X:XS) (rb:Nat) (vb:Value) (at_:Nat) (pl:Int) (bs:List Nat):Prop where
 box:bH w X rb [vb,I at_,I 0,I pl] 223
 ow:Ow w X 5 1 vb (bs.map U1)
 le:at_≤bs.length
 sz:bs.length≤2^40
 lt: ∀b∈bs,b<256
theorem pZ.mv {w w':World} {X Y:XS} {rb at_:Nat} {vb:Value} {pl:Int} {bs:List Nat} (h:pZ w X rb vb at_ pl bs) (m:Mv X w Y w'):pZ w' Y rb vb at_ pl bs:=⟨h.box.mv m,h.ow.mv m,h.le,h.sz,h.lt⟩
theorem pZ.next {w w':World} {X X':XS} {rb at_ iX:Nat} {vb:Value} {pl pl':Int} {bs:List Nat} (h:pZ w X rb vb at_ pl bs) (c:eD (fun k=>k=rb) X w X' w') (hr:bH w' X' rb [vb,I iX,I 0,I pl'] 223) (hl:iX≤bs.length):
  pZ w' X' rb vb iX pl' bs:=⟨hr,h.ow.dM c fun g hg e=>h.ow.dJ h.box kQ (e▸hg),hl,h.sz,h.lt⟩
theorem IB {w:World} {X:XS} {rb at_:Nat} {vb:Value} {pl:Int} {bs tl:List Nat} {n:Int} (h:pZ w X rb vb at_ pl bs) (he:bs.drop at_=encI n++tl) (hn:Ac n):
  Ct pg 288 #[ptr rb 0,I at_] w X nX fun v _ _=>v= .tuple #[I n,I ((at_+(encI n).length:Nat):Int),B true]:=by
 intro w0 hk;replace h:=h.mv hk.dm;have hb:=h.box;have j7:=h.ow.sl;have dU:=h.sz;have hz:=adt n;apply Gf;unfold wT;have hs:=aj.init w0;refine Fw (fun m a b c w X=> ∃(k acc:Nat),a=I ((at_+k:Nat):Int)∧b= .int .u64 (acc:Int)∧c=B false∧m=10-k∧k≤9∧acc=qV n % 128^k∧(k=0∨128^k≤qV n)∧bs.drop (at_+k)=nv (qV n/128^k)++tl∧
  (encI n).length=k+(nv (qV n/128^k)).length∧aj (ba w0) w0 X w) 10 ⟨0,0,by simp,rfl,rfl,rfl,by omega,by simp [Nat.mod_one],.inl rfl,by simpa [encI] using he,by simp [encI],hs⟩ ?_
 clear hs;rintro m a b c w X ⟨k,acc,rfl,rfl,rfl,rfl,aM,sE,jQ,hd,hlen,hs⟩;have hp:0<128^k:=Nat.pow_pos (by decide);have St:acc<128^k:=by rw [sE];exact Nat.mod_lt _ hp
 generalize hq:qV n/128^k=q at hd hlen;have hzq:qV n=acc+q*128^k:=by rw [sE,←hq,wD];exact(Nat.mod_add_div _ _).symm
 obtain⟨c,r,ZQ,Tc⟩: ∃c r,nv q++tl=c::r∧((q<128∧c=q)∨(¬q<128∧c=q % 128+128∧r=nv (q/128)++tl)):=by
  by_cases h1:q<128
  ·exact⟨q,tl,by rw [aak h1];rfl,.inl ⟨h1,rfl⟩⟩
  ·exact⟨_,_,by rw [aal h1];rfl,.inr ⟨h1,rfl,rfl⟩⟩
 rw [ZQ] at hd;have hx:bs[at_+k]? =some c:=by
  have:=congrArg (fun l:List Nat=>l[0]?) hd;simpa using this
 have cH:at_+k<bs.length:=(List.getElem?_eq_some_iff.1 hx).1;have akE:=h.lt c (aX hx);have ajl:k=9→q≤1:=fun e=>by
  subst e;have:q*128^9<18446744073709551616:=by omega
  omega
 have lA:c % 128=q % 128:=by rcases Tc with⟨h1,rfl⟩|⟨h1,rfl,_⟩<;>omega
 have kW:c % 128*128^k≤q*128^k:=fb _ (by rw [lA];exact Nat.mod_le _ _);have HV:k=9→c % 128≤1:=fun e=>by have:=ajl e;omega
 have Wp:q<128→(encI n).length=k+1∧c=q:=fun h1=>⟨by rw [hlen,aak h1];rfl,by rcases Tc with⟨_,e⟩|⟨h2,_⟩;exact e;exact absurd h1 h2⟩
 have pB:c=0→k=0:=fun e=>by
  rcases jQ with h1|h1
  ·exact h1
  ·have:1≤q:=by rw [←hq];exact Nat.div_pos h1 hp
   rcases Tc with⟨_,e2⟩|⟨_,e2,_⟩<;>omega
 have hc9:k=9→c<128:=fun e=>by
  have:=ajl e;rcases Tc with⟨_,e2⟩|⟨h2,_,_⟩<;>omega
 have hS:c<128→acc+c % 128*128^k=qV n∧(encI n).length=k+1:=fun h1=>by
  have h2:q<128:=by rcases Tc with⟨h2,_⟩|⟨_,h2,_⟩<;>omega
  rw [lA,ek h2];exact⟨hzq.symm,(Wp h2).1⟩
 have DG:c<128→(acc+c % 128*128^k) % 2=1→(-1-(((acc+c % 128*128^k)/2:Nat):Int))=n:=fun h1 h2=>by
  rw [(hS h1).1] at h2⊢;by_cases h3:n<0
  ·have:=aaj hn h3;omega
  ·have:=aai hn zQ;omega
 have VF:c<128→ ¬(acc+c % 128*128^k) % 2=1→IntKind.i64.wrap (((acc+c % 128*128^k)/2:Nat):Int)=n:=fun h1 h2=>by
  rw [(hS h1).1] at h2⊢;rw [Ua zQ];by_cases h3:n<0
  ·have:=aaj hn h3;omega
  ·have:=aai hn zQ;omega
 have hv3:c<128→((at_+k:Nat):Int)+1=((at_+(encI n).length:Nat):Int):=fun h1=>by rw [(hS h1).2];omega
 repeat' first|refine bL ?_;intros|refine de ?_ ?_<;>intros|with_reducible apply cG|(with_reducible refine afl akE ?_)|(with_reducible refine ajg zQ zQ ?_)|((with_reducible refine ahh (k:=k) zQ aM zQ zQ ?_))|((with_reducible refine ahi St zQ ?_))|(with_reducible apply ajj)|((with_reducible refine ajf zQ ?_))|((with_reducible refine ajk zQ ?_))|((first|(with_reducible refine ak hs ?_)|(with_reducible refine ak (bT.trans hs) ?_));intro wa hk;(rw [DG zQ zQ,hv3 zQ]))|((first|(with_reducible refine ak hs ?_)|(with_reducible refine ak (bT.trans hs) ?_));intro wa hk;(rw [VF zQ zQ,hv3 zQ]))
 have eh: ¬q<128:=fun h1=>by have:=(Wp h1).2;omega
 obtain⟨Jd,uo⟩:c=q % 128+128∧r=nv (q/128)++tl:=by
  rcases Tc with⟨h1,_⟩|⟨_,h2,h3⟩
  ·exact absurd h1 eh
  ·exact⟨h2,h3⟩
 have u6:128^(k+1)=128^k*128:=jg ..;have hqd:qV n/128^(k+1)=q/128:=by rw [u6,←sn,hq]
 refine Cy (10-(k+1)) zQ ⟨k+1,acc+c % 128*128^k,by rw [show((at_+(k+1):Nat):Int)=((at_+k:Nat):Int)+1 by omega],rfl,rfl,rfl,by omega,?_,.inr ?_,?_,?_,hs⟩
 ·rw [u6,Nat.mod_mul,hq,lA,sE,wD (128^k)]
 ·rw [u6,hzq];have:128*128^k≤q*128^k:=fb _ zQ;omega
 ·rw [hqd,←uo,←Nat.add_assoc,←List.drop_drop,hd];rfl
 ·rw [hqd,hlen,aal eh,aY];omega
theorem ajm {P:Program} {X:XS} {w:World} {t e k:Nat} {v:Value} {z z':Int} {i j:Nat} {rows:List (List Value)} {N:Value→Prop} (h:Ow w X e k v rows) (cU:rows≠[]) (hz:z=i) (zS:z'=j) (ZL:i≤j) (hj:j≤rows.length)
  (ht:P.underlying t=some (.slice (P.elem t))) (hs:(P.info? (P.elem t)).map (·.size)=some k)
  (n: ∀b o cap,Cells w X b o ((rows.drop i).take (j-i)).flatten→j-i≤cap→cap≤2^63-1→N (.slice (some ⟨b,o,none⟩) (j-i) cap)):aa P X w (Instr.sliceAt t v (some (.int .i64 z)) (some (.int .i64 z')) none) N:=by
 subst hz;subst zS;obtain⟨h1,⟨rfl,rfl⟩|⟨g,off,cap,cur,rfl,hx,hg,ta,lA,jj,qU⟩⟩:=h
 ·exact absurd rfl cU
 have hq: ∃inf,P.info? (P.elem t)=some inf∧inf.size=k:=by
  cases hq:P.info? (P.elem t)with
  |none=>simp [hq] at hs
  |some inf=>exact⟨inf,rfl,by simpa [hq] using hs⟩
 obtain⟨inf,hq,dU⟩:=hq;have pT:cap≤2^63-1:=ah lA (by decide);have mR: ∀wa:World,(Instr.sliceAt t (.slice (some ⟨g,off,none⟩) rows.length cap) (some (.int .i64 (i:Int))) (some (.int .i64 (j:Int))) none).run P wa= .ok (.slice (some ⟨g,if cap=i then off else off+i*k,none⟩) (j-i) (cap-i)) wa:=fun wa=>by
  rw [run_sliceAt_slice wa t _ _ _ _ ht,run_slice_lh wa t _ _ cap ht .i64 .i64 i j zQ zQ zQ];by_cases hc:cap=i
  ·simp [sizeOf,typeInfo,hq,dU,sliced,hc]
  ·simp [sizeOf,typeInfo,hq,dU,sliced,Addr.add_lit,hc]
 refine bX mR (n _ _ _ ⟨hx,cur,e,(0,0),hg,fun q u hu=>?_⟩ zQ zQ);have hr: ∀r∈rows.drop i,r.length=k:=fun r hr=>h1 r (List.mem_of_mem_drop hr);rw [dL.iY (j-i) hr,dL.Ap i h1,←qU] at hu;have hql:q<(j-i)*k:=by
  have:=(List.getElem?_eq_some_iff.1 hu).1;simp only [bp] at this;omega
 rw [gw hql,gV] at hu;have jM:i*k+q<rows.length*k:=by
  have h3:i*k+(j-i)*k=j*k:=by rw [←Nat.add_mul];congr 1;omega
  have h4:=fb k hj;omega
 rw [gw jM,gV] at hu;rw [Array.getElem?_toList] at hu;by_cases hc:cap=i
 ·exfalso;have:j-i=0:=by omega
  rw [this] at hql;simp at hql
 ·rw [if_neg hc];rw [←Nat.add_assoc] at hu;exact hu
def OG (f:FuncId) (args:Array Value) (w:World) (X:XS) (rb:Nat) (vb:Value) (iX:Nat) (pl:Int) (res:Value):Prop:=
 Ct pg f args w X (fun k=>k=rb) fun v _ w'=>v=res∧bH w' (fun k=>k=rb) rb [vb,I iX,I 0,I pl] 223
theorem pZ.ft {w:World} {X:XS} {rb at_:Nat} {vb:Value} {pl:Int} {bs:List Nat} {w0:World} (h:pZ w X rb vb at_ pl bs) (hk:Kp X w w0):Ft w0 (fun k=>k=rb) w0 (ba w0) (fun k=>k=rb):=
 Ft.init fun k e=>by subst e;exact(h.mv hk.dm).box.1
theorem afm {w:World} {X:XS} {rb at_:Nat} {vb:Value} {pl:Int} {bs tl:List Nat} {n:Int} (h:pZ w X rb vb at_ pl bs) (he:bs.drop at_=encI n++tl) (hn:Ac n):
  OG 207 #[ptr rb 0] w X rb vb (at_+(encI n).length) pl (I n):=by
 intro w0 hk;have hT:=h.ft hk;replace h:=h.mv hk.dm;have hb:=h.box;apply KW;unfold AB;repeat' first|refine bL ?_;intros
 refine dy (IB h he hn) kQ hT.s.has fun w1 X1 aq=>?_;have cm:=hT.since aq;have kW:=hb.since aq;repeat' first|refine aI ?_;intros|with_reducible apply cG
 refine kK (o:=1) kW zQ kQ (by simp) rfl cm.s.has fun w2 X2 c2 jG=>?_;have bK:Ft w0 (fun k=>k=rb) w2 X2 (fun k=>k=rb):=cm.dM c2 (fun k ai=>ai) fun k ai=>.inl ai
 skip
 exact bK.fin fun wa aM=>⟨rfl,rfl,by rw [aM.block _ jG.1];exact jG.2⟩
theorem HJ {w:World} {X:XS} {rb at_:Nat} {vb:Value} {pl most e:Int} {bs tl:List Nat} {n:Nat} (h:pZ w X rb vb at_ pl bs) (he:bs.drop at_=encI n++tl) (hn:(n:Int)≤most) (hm:most<2^62):
  Ct pg 293 #[ptr rb 0,I most,I e] w X nX fun v _ _=>v= .tuple #[I n,I ((at_+(encI n).length:Nat):Int),B true]:=by
 intro w0 hk;replace h:=h.mv hk.dm;have hb:=h.box;apply HC;unfold yp;have hs:=aj.init w0;repeat' first|refine aI ?_;intros
 refine dy (IB h he (by unfold Ac;omega)) kQ hs.has fun w1 X1 aq=>?_;have hs:=hs.trans aq;repeat' first|refine bL ?_;intros
 exact ak hs fun wa aM=>rfl
theorem Qy {w:World} {X:XS} {rb at_:Nat} {vb:Value} {pl most:Int} {bs tl:List Nat} {n:Nat} (h:pZ w X rb vb at_ pl bs) (he:bs.drop at_=encI n++tl) (hn:(n:Int)≤most) (hm:most<2^62):
  OG 215 #[ptr rb 0,I most] w X rb vb (at_+(encI n).length) pl (I n):=by
 intro w0 hk;have hT:=h.ft hk;replace h:=h.mv hk.dm;have hb:=h.box;apply Hy;unfold yk;repeat' first|refine bL ?_;intros
 refine dy (HJ h he hn hm) kQ hT.s.has fun w1 X1 aq=>?_;have cm:=hT.since aq;have kW:=hb.since aq;repeat' first|refine aI ?_;intros|with_reducible apply cG
 refine kK (o:=1) kW zQ kQ (by simp) rfl cm.s.has fun w2 X2 c2 jG=>?_;have bK:Ft w0 (fun k=>k=rb) w2 X2 (fun k=>k=rb):=cm.dM c2 (fun k ai=>ai) fun k ai=>.inl ai
 skip
 exact bK.fin fun wa aM=>⟨rfl,rfl,by rw [aM.block _ jG.1];exact jG.2⟩
theorem Y9 {w:World} {X:XS} {rb at_:Nat} {vb:Value} {pl most:Int} {bs tl:List Nat} {n:Nat} (h:pZ w X rb vb at_ pl bs) (he:bs.drop at_=encI n++tl) (hn:(n:Int)≤most) (hm:most<2^62):
  OG 347 #[ptr rb 0,I most] w X rb vb (at_+(encI n).length) pl (I n):=by
 intro w0 hk;have hT:=h.ft hk;replace h:=h.mv hk.dm;have hb:=h.box;apply Gg;unfold wU;repeat' first|refine bL ?_;intros
 refine dy (HJ h he hn hm) kQ hT.s.has fun w1 X1 aq=>?_;have cm:=hT.since aq;have kW:=hb.since aq;repeat' first|refine aI ?_;intros|with_reducible apply cG
 refine kK (o:=1) kW zQ kQ (by simp) rfl cm.s.has fun w2 X2 c2 jG=>?_;have bK:Ft w0 (fun k=>k=rb) w2 X2 (fun k=>k=rb):=cm.dM c2 (fun k ai=>ai) fun k ai=>.inl ai
 skip
 exact bK.fin fun wa aM=>⟨rfl,rfl,by rw [aM.block _ jG.1];exact jG.2⟩
theorem UW: ∀l:List Nat,(l.map U1).flatten=l.map fun x:Nat=>Value.int .u8 x
 |[]=>rfl
 |x::l=>by rw [bc,cD,UW l];rfl
theorem ahj (s:BA):uH (s.data.toList.map ni)=s:=by
 unfold uH;rw [List.map_map];have:(s.data.toList.map (UInt8.ofNat∘ni))=s.data.toList:=by
  conv=>rhs;rw [←List.map_id s.data.toList]
  exact List.map_congr_left fun x _=>by simp
 rw [this]
theorem Td {w:World} {X:XS} {rb at_:Nat} {vb:Value} {pl most:Int} {bs tl:List Nat} {s:BA} (h:pZ w X rb vb at_ pl bs) (he:bs.drop at_=ki s++tl) (hn:(s.size:Int)≤most) (hm:most<2^62):
  OG 292 #[ptr rb 0,I most] w X rb vb (at_+(ki s).length) pl (.string s):=by
 intro w0 hk;have hT:=h.ft hk;replace h:=h.mv hk.dm;have hb:=h.box;have j7:=h.ow.sl;have dU:=h.sz;have hle:=h.le;have hlen:=nq s;have xy:bs.drop at_=encI s.size++(s.data.toList.map ni++tl):=by rw [he];unfold ki;rw [au]
 have qX:at_+(encI s.size).length+s.size≤bs.length:=by
  have:=congrArg az he;rw [List.length_drop,ae,hlen] at this;omega
 have pe:((bs.map U1).drop (at_+(encI s.size).length)).take s.size=(s.data.toList.map ni).map U1:=by
  rw [←List.map_drop,←List.map_take,←List.drop_drop,xy,List.drop_left,List.take_left' (by rw [aG,dC];rfl)]
 have amd:(bs.map U1)≠[]:=by
  have:=GA s.size;intro e;have h0:=congrArg az e;rw [aG,bz] at h0;omega
 apply I7;unfold zd;repeat' first|refine bL ?_;intros
 refine dy (HJ h xy hn hm) kQ hT.s.has fun w1 X1 aq=>?_;have cm:=hT.since aq;have kW:=hb.since aq;have am9:=j7.since aq;repeat' first|refine bL ?_;intros
 refine kK (o:=1) kW zQ kQ (by simp) rfl cm.s.has fun w2 X2 c2 jG=>?_;have bK:Ft w0 (fun k=>k=rb) w2 X2 (fun k=>k=rb):=cm.dM c2 (fun k ai=>ai) fun k ai=>.inl ai;have h2:=(h.mv aq.mv).next (iX:=at_+(encI s.size).length+s.size) c2 (by rw [Int.natCast_add];exact jG) qX
 repeat' first|refine aI ?_;intros
 refine ajm h2.ow amd rfl (j:=at_+(encI s.size).length+s.size) zQ zQ (by rw [aG];exact qX) kQ kQ fun b o cap hc _ _=>?_;have e:(at_+(encI s.size).length+s.size)-(at_+(encI s.size).length)=s.size:=by omega
 rw [e,pe,UW] at hc;refine Ll (e:=5) (by rw [e,aG,dC];rfl) hc kQ kQ kQ bK.s.has fun w3 X3 cl=>?_;have cn:=bK.since cl;rw [ahj]
 skip
 have e2:((at_+(encI s.size).length:Nat):Int)+s.size=((at_+(ki s).length:Nat):Int):=by rw [hlen];omega
 exact cn.fin fun wa aM=>⟨rfl,rfl,by rw [aM.block _ (cl.sub _ jG.1),cl.kp.block _ jG.1,←e2];exact jG.2⟩
end Go.Proofs.YtpdkoaklobnegaaGreat
