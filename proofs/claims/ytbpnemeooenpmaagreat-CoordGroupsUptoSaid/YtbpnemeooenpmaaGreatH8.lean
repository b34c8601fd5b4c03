/-
 Part 8 of the proof: what the last text leans on.
-/
import Derived.Test.YtbpnemeooenpmaaGreatH7
open Nat renaming le_trans → ah, zero_le → aF, lt_of_lt_of_le → aG
open List renaming length_append → au, append_assoc → aI, take_of_length_le → bA, all_cons → iD, mem_of_getElem? → cj, length_cons → bh, length_nil → bI, map_append → bC, length_map → aH, take_add_one → cC, length_take → bW, map_cons → bV, length_eq_zero_iff → mH, append_nil → lY
open BitVec renaming ofInt → bT
open Go.IntKind renaming signed → jb, wrap → oC, bits → mc
open Option.some renaming injEq → ay
open Int renaming fdiv_eq_ediv_of_nonneg → qc
open Option renaming toList_some → fj
set_option linter.unusedVariables false
set_option linter.unusedSimpArgs false
namespace Go.Proofs.YtbpnemeooenpmaaGreat
open Go.Proofs.Tryz renaming prog → pg
open Go.aV
set_option maxRecDepth 100000
set_option maxHeartbeats 1000000
set_option linter.unusedVariables false
set_option linter.unusedSimpArgs false
attribute [local irreducible] un jn aC aS ld1 dY st1 dt cD kK dC lQ uJ sO fH e7 ae aB aK eW eV eU eC eF gE az fin aP aE aD vS xd gO gW ry uK sP xe xf xg gB gR rz uL sQ xh xi
def ey.fresh (wa w':World) (v:Value) (p:ey):Prop:=
 ∃vr vw,v=p.v vr vw∧Own w' (made wa w') wa.heap.size 9 1 vr (p.reads.map S1)∧Own w' (made wa w') wa.heap.size 64 4 vw (p.writes.map KV.l)∧
  ∀g,vr.ownBlock=some g→vw.ownBlock≠some g
theorem Ws {w:World} {X:XS} {p:ey} {vr vw:Value} (h1:Sl w X 1 vr (p.reads.map S1)) (h2:Sl w X 4 vw (p.writes.map KV.l)) (rS:p.reads.length≤2^40) (wG:p.writes.length≤2^40):
  Ct pg 300 #[p.v vr vw] w X nX fun v wa w'=>p.fresh wa w' v:=by
  intro w0 hk;replace h1:=h1.mv hk.dD;replace h2:=h2.mv hk.dD;apply S8;unfold HM;have hs:=aj.init w0;refine dp (Hv h1 rS) kQ hs.has ?_;rintro v1 wa w X uf sj oQ ao;replace hs:=hs.trans ao;have q1:=uf.sl.one;repeat' first|refine aJ ?_;intros
  refine dp (ET (h2.mv (aj.mv hs)) wG) kQ hs.has ?_;rintro v2 wb w2 X2 nW qI nV bU;have hb:w0.heap.size≤wa.heap.size:=sj;have aiO:Own w X w0.heap.size 9 1 v1 (p.reads.map S1):=uf.up oQ hb;have al4:=aiO.since bU;have al6:w0.heap.size≤wb.heap.size:=ah hs.kp.size qI;have al8:Own w2 X2 w0.heap.size 64 4 v2 (p.writes.map KV.l):=nW.up nV al6;have q2:=nW.sl.one;replace hs:=hs.trans bU;repeat' first|refine aJ ?_;intros|((first|(with_reducible refine av hs ?_)|(with_reducible refine av (bS.trans hs) ?_));intro wa hk;(exact⟨v1,v2,rfl,(al4.kp hk).tight,(al8.kp hk).tight,fun g hg1 Jh=>by have:=(aiO.ge hg1).2;have:=(nW.ge Jh).1;omega⟩))
def yV (X:XS) (a b c:Nat):XS:=fun k=>X k∧k≠a∧k≠b∧k≠c
theorem aaP {w:World} {X:XS} :Ct pg 295 #[] w X nX fun v wa w'=>
  ∃sb kb pb,v=ptr sb 0∧gv w' (made wa w') (yV (made wa w') sb kb pb) sb kb pb [] [] .zero∧sb≠kb∧sb≠pb∧kb≠pb:=by
 intro w0 hk;apply XR;unfold Mu;have hs:=aj.init w0;refine nC (kv:=fun s:BA=>Value.string s) oB nX hs.has fun kb w1 X1 mM ao oL=>?_;refine nC (kv:=fun k:dc=>k.v) mZ nX ao.has fun pb w2 X2 JE bU ir=>?_;have al9:=oL.x;have ama:=ir.x;have amb:=oL.mv oB.mv (aj.mv bU) (Y:=X2) (A':=nX) (fun _ h=>h.elim);replace hs:=(hs.trans ao).trans bU;have fL:w0.heap.size≤w1.heap.size:=ao.kp.size;repeat' first|refine aJ ?_;intros|(with_reducible apply nY);(case hX=>exact hs.has);intro bx w X gh ao bJ;have bS:=hs.trans ao;replace hs:=aj.ct ao.has
 refine av (bS.trans hs) ?_;intro wa hk;have B9:=(bJ.kp hk).lt;have am8:=ao.kp.size;have ahe:=hk.size;have aiP:=ao.kp.trans (hk.less ao.sub);have amc:made w0 wa kb:=⟨mM,by omega⟩;have amd:made w0 wa pb:=⟨by omega,by omega⟩;exact⟨bx,kb,pb,rfl,⟨bJ.own.mv (Mv.one hk bJ.1 ⟨by omega,B9⟩),amb.own.mv oB.mv (Mv.one aiP (bU.sub _ al9.1) amc) (fun _ h=>h.elim),
  ir.own.mv mZ.mv (Mv.one aiP ama.1 amd) (fun _ h=>h.elim),fun k hk=>hk.1,fun k hk=>hk.2⟩,by omega,by omega,by omega⟩
def Af:BA→List jm→Bool
 |_,[]=>true
 |a,h::r=>h.ok a&&Af h.key r
def tQ (l:List jm):List (BA×List j8):=l.foldl (fun m h=>dS h.key h.l7 m) []
def PC (hm:List (BA×List j8)):List (dc×ey)→List ey→Int
 |_,[]=>0
 |pm,p::r=>if p.err≠0 then p.err else if(getM p.dK pm).isSome then 9 else if pm.any (fun q=>p.BF q.2)then 18 else if Kz hm p then 20
  else PC hm (dS p.dK p pm) r
def BN (hl:List jm) (pl:List ey):Int:=if Af ⟨#[]⟩ hl then PC (tQ hl) [] pl else 4
theorem gv.grow {w:World} {X A A':XS} {sb kb pb:Nat} {hm:List (BA×List j8)} {pm:List (dc×ey)} {low:cw} (h:gv w X A sb kb pb hm pm low)
  (hA: ∀k,A k→A' k) (hs: ∀k,A' k→X k∧k≠sb∧k≠kb∧k≠pb):gv w X A' sb kb pb hm pm low:=
 ⟨h.box,h.keys.mv oB.mv (Mv.refl _ _) (Mv.sub hA),h.fB.mv mZ.mv (Mv.refl _ _) (Mv.sub hA),fun k hk=>(hs k hk).1,fun k hk=>(hs k hk).2⟩
theorem gv.to {w w':World} {X Y:XS} {sb kb pb:Nat} {hm:List (BA×List j8)} {pm:List (dc×ey)} {low:cw} (h:gv w X (yV X sb kb pb) sb kb pb hm pm low)
  (hs:aj X w Y w') (hX: ∀k,X k→k<w.heap.size):gv w' Y (yV Y sb kb pb) sb kb pb hm pm low:=
 (h.mv hX (aj.mv hs)).grow (fun k hk=>⟨hs.sub k hk.1,hk.2⟩) fun k hk=>hk
def XL (lo:Nat) (X:XS):XS:=fun k=>X k∧lo≤k
theorem gv.toL {w w':World} {X Y:XS} {lo sb kb pb:Nat} {hm:List (BA×List j8)} {pm:List (dc×ey)} {low:cw} (h:gv w X (yV (XL lo X) sb kb pb) sb kb pb hm pm low)
  (hs:aj X w Y w') (hX: ∀k,X k→k<w.heap.size):gv w' Y (yV (XL lo Y) sb kb pb) sb kb pb hm pm low:=
 (h.mv hX (aj.mv hs)).grow (fun k hk=>⟨⟨hs.sub k hk.1.1,hk.1.2⟩,hk.2⟩) fun k hk=>⟨hk.1.1,hk.2⟩
theorem gv.fin {w w0 wa:World} {X:XS} {sb kb pb:Nat} {hm:List (BA×List j8)} {pm:List (dc×ey)} {low:cw} (h:gv w X (yV (XL w0.heap.size X) sb kb pb) sb kb pb hm pm low)
  (hk:Kp X w wa) (h1:w0.heap.size≤sb) (h2:w0.heap.size≤kb) (h3:w0.heap.size≤pb):gv wa (made w0 wa) (yV (made w0 wa) sb kb pb) sb kb pb hm pm low:=by
 have hz:=hk.size;have ma:Mv (yV (XL w0.heap.size X) sb kb pb) w (yV (made w0 wa) sb kb pb) wa:=fun k af hl=>⟨⟨⟨af.1.2,by omega⟩,af.2⟩,hk.block k af.1.1⟩;have l1:=h.box.lt;have l2:=h.keys.x.2;have l3:=h.fB.x.2;exact⟨h.box.own.mv (Mv.one hk h.box.1 ⟨h1,by omega⟩),h.keys.own.mv oB.mv (Mv.one hk h.keys.x.1 ⟨h2,by omega⟩) ma,h.fB.own.mv mZ.mv (Mv.one hk h.fB.x.1 ⟨h3,by omega⟩) ma,fun k hk=>hk.1,fun k hk=>hk.2⟩
def QZ (l:List ey):List (dc×ey):=l.foldl (fun m p=>dS p.dK p m) []
def OT (l:List ey):Prop:= ∀p∈l,p.reads.length≤2^40∧p.writes.length≤2^40
def OS (l:List jm):Prop:= ∀h∈l,h.l7.length≤2^40
theorem Wu {w:World} {X:XS} {vh vp:Value} {hl:List jm} {pl:List ey} (h1:nh w X vh hl) (h2:nf w X vp pl) (rS:OS hl) (wG:OT pl):
  Ct pg 251 #[vh,vp] w X nX fun v wa w'=> ∃(u:Value) (n:Int),v= .tuple #[u,I n]∧n=BN hl pl∧
   (n=0→ ∃sb kb pb,u=ptr sb 0∧sb≠kb∧sb≠pb∧kb≠pb∧gv w' (made wa w') (yV (made wa w') sb kb pb) sb kb pb (tQ hl) (QZ pl) .zero):=by
 intro w0 hk;replace h1:=h1.mv hk.dD;replace h2:=h2.mv hk.dD;have RG:=h1.len;have LU:=h2.len;apply Wh;unfold Kj;have hs:=aj.init w0;refine dp aaP kQ hs.has ?_;rintro v wa w X ⟨sb,kb,pb,rfl,ed,ne1,ne2,ne3⟩ hle fP ao;have Rp:w0.heap.size≤sb:=ah hle ed.box.1.1;have mM:w0.heap.size≤kb:=ah hle ed.keys.x.1.1;have JE:w0.heap.size≤pb:=ah hle ed.fB.x.1.1;replace hs:=hs.trans ao;have adn:gv w X (yV (XL w0.heap.size X) sb kb pb) sb kb pb [] [] .zero:=(ed.mv (fun k hk=>hk.2) (Mv.sub fP)).grow (fun k hk=>⟨⟨fP k hk.1,ah hle hk.1.1⟩,hk.2⟩) fun k hk=>⟨hk.1.1,hk.2⟩;clear ed;repeat' first|refine aJ ?_;intros
 refine fN (fun n a b w X=> ∃(i:Nat) (s:BA),a=I i∧b= .string s∧n=hl.length-i∧i≤hl.length∧aj (aR w0) w0 X w∧
  gv w X (yV (XL w0.heap.size X) sb kb pb) sb kb pb (tQ (hl.take i)) [] .zero∧Af ⟨#[]⟩ hl=Af s (hl.drop i)) hl.length
  ⟨0,⟨#[]⟩,rfl,rfl,rfl,aF _,hs,adn,by rw [List.drop_zero]⟩ ?_
 rintro n a b w X ⟨i,s,rfl,rfl,rfl,hi,bS,ed,hw⟩;have hs:=aj.ct bS.has;rcases ew (hl) i with⟨dy,x,hx,hd⟩|⟨dV,hd⟩
 ·rw [hd,Af] at hw;have HE:=rS x (cj hx);have gh:=ed.box;repeat' first|refine bD ?_;intros|((with_reducible apply Pz);assumption;(try (case hz=>rfl));(case hr=>exact qR);(try (case hz=>omega));(case ht=>kernel_rfl);(case hs=>kernel_rfl);intros)|(refine fT (QY (h:=x) (ahead:=s) (by first|assumption|exact Sl.mv (by assumption) (aj.mv (bS.trans hs)))) kQ hs.has ?_ ?_<;>(intro _ w X ao;replace hs:=hs.trans ao))|(first|(with_reducible refine av (bS.trans hs) ?_);intro wa hk;exact⟨_,_,rfl,by rw [BN,hw];simp [*],fun e=>absurd e (by decide)⟩)
  have hvv:= ‹Sl w0 (aR w0) 6 _ (x.l7.map j8.l)›;have mg:= ‹x.ok s=true›;refine dp (NH (hvv.mv (aj.mv (bS.trans hs))) HE) kQ hs.has ?_;rintro v1 wa w2 X2 uf sj oQ bU;have Zc:=hs.kp.size;have NJ:=ed.toL (hs.trans bU) bS.has;have zH:Sl w2 (yV (XL w0.heap.size X2) sb kb pb) 6 v1 (x.l7.map j8.l):=uf.sl.mv (Mv.sub fun k hk=>⟨⟨oQ k hk,by have:w0.heap.size≤_:=ah bS.kp.size hs.kp.size;have:=hk.1;omega⟩,by
   have q1:=bS.has sb ed.box.1;have q2:=bS.has kb ed.keys.x.1;have q3:=bS.has pb ed.fB.x.1;have:=hk.1;refine⟨?_,?_,?_⟩<;>omega⟩)
  replace hs:=hs.trans bU;repeat' first|refine aJ ?_;intros
  refine te (kv:=fun s:BA=>Value.string s) (k:=x.key) (et:=318) NJ.keys oB.mv zH (fun k hk=>⟨hk.1.1,hk.2.2.1⟩) zd kQ hs.has fun w3 X3 hc kN=>?_;have ea:=(bS.trans hs).fM hc fun k hk e=>by have:k<w0.heap.size:=hk;omega
  have Nh:gv w3 X3 (yV (XL w0.heap.size X3) sb kb pb) sb kb pb (tQ (hl.take (i+1))) [] .zero:=by
   have gh:=NJ.box;have Sm:=NJ.fB;have e:tQ (hl.take (i+1))=dS x.key x.l7 (tQ (hl.take i)):=by
    rw [cC,hx];simp [tQ]
   rw [e];have mo: ∀b,X2 b→b≠kb→Mv (fun k=>k=b) w2 X3 w3:=fun b hb du k af _=>by subst af;exact⟨hc.sub _ hb,hc.block _ hb du⟩
   exact⟨gh.own.mv (mo _ gh.1 ne1),kN.mv oB.mv (Mv.refl _ _) (Mv.sub fun k hk=>⟨⟨hc.sub k hk.1.1,hk.1.2⟩,hk.2⟩),
    Sm.own.mv mZ.mv (mo _ Sm.x.1 ne3.symm) (fun k hk _=>⟨⟨⟨hc.sub k hk.1.1,hk.1.2⟩,hk.2⟩,hc.block k hk.1.1 hk.2.2.1⟩),fun k hk=>hk.1.1,fun k hk=>hk.2⟩
  replace hs:=ea;repeat' first|refine aJ ?_;intros|((with_reducible refine fJ ((hl).length-(i+1)) ?_ ?_);omega;exact⟨i+1,x.key,by simp,rfl,rfl,by omega,hs,Nh,by rw [hw,mg];rfl⟩)
 ·have hlen:hl.take i=hl:=bA dV;rw [hd] at hw;rw [hlen] at ed;repeat' first|refine bD ?_;intros
  refine fR (fun n a w X=> ∃(i:Nat) (pm:List (dc×ey)),a=I i∧n=pl.length-i∧i≤pl.length∧aj (aR w0) w0 X w∧
   gv w X (yV (XL w0.heap.size X) sb kb pb) sb kb pb (tQ hl) pm .zero∧pm=QZ (pl.take i)∧BN hl pl=PC (tQ hl) pm (pl.drop i)) pl.length
   ⟨0,[],rfl,rfl,aF _,bS,ed,rfl,by rw [List.drop_zero,BN,hw];rfl⟩ ?_
  rintro n a w X ⟨j,pm,rfl,rfl,hj,bS,ed,Sm,rA⟩;have hs:=aj.ct bS.has;rcases ew pl j with⟨ac3,x,hx,nR⟩|⟨MI,nR⟩
  ·rw [nR,PC] at rA;have HE:=wG x (cj hx);have gh:=ed.box;repeat' first|refine bD ?_;intros|((with_reducible apply TC);assumption;(try (case hz=>rfl));(case hr=>exact qR);(try (case hz=>omega));(case ht=>kernel_rfl);(case hs=>kernel_rfl);intros)|(refine gC (uG (p:=x) (by first|assumption|exact Sl.mv (by assumption) (aj.mv (bS.trans hs))) (by first|assumption|exact Sl.mv (by assumption) (aj.mv (bS.trans hs))) HE.2) kQ hs.has ?_;intro w X ao;replace hs:=hs.trans ao)
   refine FV (kv:=fun k:dc=>k.v) (k:=x.dK) (kt:=27) (et:=266) (.agg #[I 0,I 0,I 0,I 0,I 0,I 0,.slice none 0 0,.slice none 0 0]) (ed.mv bS.has (aj.mv hs)).fB BI kQ kQ (fun v q hg qq=>?_) fun hg=>?_
   ·obtain⟨ur,uw,rfl,q1,q2⟩:=qq;have o1:=q1.one;have o2:=q2.one;repeat' first|refine aJ ?_;intros|refine dM ?_ ?_<;>intros|(first|(with_reducible refine av (bS.trans hs) ?_);intro wa hk;exact⟨_,_,rfl,by clear Sm;rw [rA];simp [*],fun e=>absurd e (by first|decide|assumption)⟩)
   ·repeat' first|refine aJ ?_;intros|refine dM ?_ ?_<;>intros|(first|(with_reducible refine av (bS.trans hs) ?_);intro wa hk;exact⟨_,_,rfl,by clear Sm;rw [rA];simp [*],fun e=>absurd e (by first|decide|assumption)⟩)|(refine fT (Te (x:=x) (ed.mv bS.has (aj.mv hs)) hs.has (by first|assumption|exact Sl.mv (by assumption) (aj.mv (bS.trans hs))) (by first|assumption|exact Sl.mv (by assumption) (aj.mv (bS.trans hs)))) kQ hs.has ?_ ?_<;>(intro _ w X ao;replace hs:=hs.trans ao))|(refine fT (aaO (x:=x) (ed.mv bS.has (aj.mv hs)) hs.has (by first|assumption|exact Sl.mv (by assumption) (aj.mv (bS.trans hs)))) kQ hs.has ?_ ?_<;>(intro _ w X ao;replace hs:=hs.trans ao))
    have he:x.err=0:= ‹x.err=0›;have ame:(pm.any fun q=>x.BF q.snd)=false:= ‹_›;have amf:Kz (tQ hl) x=false:= ‹_›;refine dp (Ws (p:=x) (by first|exact Sl.mv (by assumption) (aj.mv (bS.trans hs))) (by first|exact Sl.mv (by assumption) (aj.mv (bS.trans hs))) HE.1 HE.2) kQ hs.has ?_;rintro v1 wa w2 X2 ⟨ur,uw,rfl,uf,nW,-⟩ sj oQ bU;have Zc:=hs.kp.size;have NJ:=ed.toL (hs.trans bU) bS.has;have hup: ∀k,made wa w2 k→yV (XL w0.heap.size X2) sb kb pb k:=fun k hk=>⟨⟨oQ k hk,by have:w0.heap.size≤_:=ah bS.kp.size hs.kp.size;have:=hk.1;omega⟩,by
     have q1:=bS.has sb ed.box.1;have q2:=bS.has kb ed.keys.x.1;have q3:=bS.has pb ed.fB.x.1;have:=hk.1;refine⟨?_,?_,?_⟩<;>omega⟩
    have zH:mZ w2 (yV (XL w0.heap.size X2) sb kb pb) (x.v ur uw) x:=⟨ur,uw,rfl,uf.sl.mv (Mv.sub hup),nW.sl.mv (Mv.sub hup)⟩;replace hs:=hs.trans bU;refine te (kv:=fun k:dc=>k.v) (k:=x.dK) (et:=266) NJ.fB mZ.mv zH (fun k hk=>⟨hk.1.1,hk.2.2.2⟩) BI kQ hs.has fun w3 X3 hc kN=>?_;have ea:=(bS.trans hs).fM hc fun k hk e=>by have:k<w0.heap.size:=hk;omega
    have Nh:gv w3 X3 (yV (XL w0.heap.size X3) sb kb pb) sb kb pb (tQ hl) (dS x.dK x pm) .zero:=by
     have gh:=NJ.box;have RR:=NJ.keys;have mo: ∀b,X2 b→b≠pb→Mv (fun k=>k=b) w2 X3 w3:=fun b hb du k af _=>by subst af;exact⟨hc.sub _ hb,hc.block _ hb du⟩
     exact⟨gh.own.mv (mo _ gh.1 ne2),RR.own.mv oB.mv (mo _ RR.x.1 ne3) (fun k hk _=>⟨⟨⟨hc.sub k hk.1.1,hk.1.2⟩,hk.2⟩,hc.block k hk.1.1 hk.2.2.2⟩),
      kN.mv mZ.mv (Mv.refl _ _) (Mv.sub fun k hk=>⟨⟨hc.sub k hk.1.1,hk.1.2⟩,hk.2⟩),fun k hk=>hk.1.1,fun k hk=>hk.2⟩
    replace hs:=ea;repeat' first|refine aJ ?_;intros|((with_reducible refine fh (pl.length-(j+1)) ?_ ?_);omega;exact⟨j+1,_,by simp,rfl,by omega,hs,Nh,by rw [cC,hx,Sm];simp [QZ],by rw [rA];simp [he,hg,ame,amf]⟩)
  ·rw [nR] at rA;repeat' first|refine bD ?_;intros|(first|(with_reducible refine av (bS.trans hs) ?_);intro wa hk;exact⟨_,_,rfl,by rw [rA];rfl,fun _=>⟨sb,kb,pb,rfl,ne1,ne2,ne3,by rw [bA MI] at Sm;rw [←Sm];exact ed.fin hk Rp mM JE⟩⟩)
theorem XV {w:World} {X:XS} {vh vp:Value} {hl:List jm} {pl:List ey} (h1:nh w X vh hl) (h2:nf w X vp pl) (rS:OS hl) (wG:OT pl):
  Ct pg 251 #[vh,vp] w X nX fun v _ _=> ∃u:Value,v= .tuple #[u,I (BN hl pl)]:=
 (Wu h1 h2 rS wG).mono fun _ _ _ _ ⟨u,_,h,e,_⟩=>⟨u,e▸h⟩
def afm (l:List jm):Prop:= ∀h∈l,h.key.size≤2^40
def afn (l:List ey):Prop:= ∀p∈l,(∀k∈p.reads,k.size≤2^40)∧ ∀x∈p.writes,x.key.size≤2^40
structure State.small (s:State):Prop where
 h:OS s.fV
 p:OT s.fB
 hk:afm s.fV
 pk:afn s.fB
structure Rec.small (r:Rec):Prop where
 reads:r.reads.length≤2^40
 writes:r.writes.length≤2^40
 rk: ∀k∈r.reads,k.size≤2^40
 wk: ∀x∈r.writes,x.key.size≤2^40
 state:r.state.small
def dq.has (r:dq) (x:Nat):Bool:=(BZ x r.lo||jI x r.lo)&&j9 x r.hi
def dq.key (r:dq) (k:BA):Bool:=r.has (placeOf k)
def State.inside (s:State):Bool:=s.fV.all (fun h=>s.range.key h.key)&&s.fB.all fun p=>p.reads.all s.range.key&&p.writes.all fun x=>s.range.key x.key
def State.may (s:State):Bool:=s.range.may&&s.floor.may&&s.closed.may&&decide (BN s.fV s.fB=0)&&s.inside
theorem KA {w:World} {X:XS} {s:State} {vh vp:Value} {k:BA} {b:Nat} (h:Cells w X b 0 (s.l vh vp)) (af:k.size≤2^62):
  Ct pg 252 #[.string k,ptr b 0] w X nX fun v _ _=>v=B (s.range.key k):=by
 intro w0 hk;replace h:=h.mv hk.dD;apply Io;unfold yT;have hs:=aj.init w0;repeat' first|refine aJ ?_;intros|((with_reducible refine ee (Bn _ (by first|assumption|omega)) ?_ hs.has ?_);(· kernel_rfl);intro w X ao;replace hs:=hs.trans ao)|((with_reducible refine dJ (xu _ _) ?_ hs.has ?_ ?_);(· kernel_rfl);all_goals (intro _ w X ao;replace hs:=hs.trans ao))|((first|(with_reducible refine av hs ?_)|(with_reducible refine av (bS.trans hs) ?_));intro wa hk;(simp [dq.key,dq.has, *]))
theorem DT {w:World} {X:XS} {s:State} {vh vp:Value} (h1:nh w X vh s.fV) (h2:nf w X vp s.fB) (mX:s.small):
  Ct pg 176 #[s.v vh vp] w X nX fun v _ _=>v=B s.may:=by
 intro w0 hk;replace h1:=h1.mv hk.dD;replace h2:=h2.mv hk.dD;have RG:=h1.len;have LU:=h2.len;have o1:=h1.one;have o2:=h2.one;apply NC;unfold CE;have hs:=aj.init w0;repeat' first|refine aJ ?_;intros|refine dM ?_ ?_<;>intros|(with_reducible apply nY);(case hX=>exact hs.has);intro bx w X gh ao bJ;have bS:=hs.trans ao;replace hs:=aj.ct ao.has|with_reducible apply dx|((with_reducible refine dJ (mw _) ?_ hs.has ?_ ?_);(· kernel_rfl);all_goals (intro _ w X ao;replace hs:=hs.trans ao))|((with_reducible refine dJ (sc _) ?_ hs.has ?_ ?_);(· kernel_rfl);all_goals (intro _ w X ao;replace hs:=hs.trans ao))|((first|(with_reducible refine av hs ?_)|(with_reducible refine av (bS.trans hs) ?_));intro wa hk;(simp [State.may, *]))|(refine dp ((XV (hl:=s.fV) (pl:=s.fB))  qA qA mX.h mX.p) kQ hs.has ?_;rintro _ wa w X ⟨u,rfl⟩ hle fP ao;have fp:=ah hs.kp.size hle;replace hs:=hs.trans ao)
 have Og: ∀k:BA,k.size≤2^40→ ∀w X,aj _ _ X w→Ct pg 252 #[.string k,ptr bx 0] w X nX fun v _ _=>v=B (s.range.key k):=fun k hk w X hs=>KA (bJ.since hs).cells zQ;have aaQ:s.may=s.inside:=by simp [State.may, *]
 refine fR (fun n a w X=> ∃i:Nat,a=I (i:Nat)∧n=s.fV.length-i∧i≤s.fV.length∧aj _ _ X w∧
  (s.fV.all (fun h=>s.range.key h.key))=((s.fV.drop i).all fun h=>s.range.key h.key)) s.fV.length ⟨0,rfl,rfl,aF _,hs,by simp⟩ ?_
 rintro n a w X ⟨i,rfl,rfl,hi,hs,hw⟩;rcases ew (s.fV) i with⟨dy,x,hx,hd⟩|⟨dV,hd⟩
 ·rw [hd,iD] at hw;have hkx:=mX.hk x (cj hx);repeat' first|refine bD ?_;intros|((with_reducible apply Pz);assumption;(try (case hz=>rfl));(case hr=>exact qR);(try (case hz=>omega));(case ht=>kernel_rfl);(case hs=>kernel_rfl);intros)|((first|(with_reducible refine av hs ?_)|(with_reducible refine av (bS.trans hs) ?_));intro wa hk;(simp [aaQ,State.inside,hw, *]))|(refine fT (Og x.key hkx _ _ hs) kQ hs.has ?_ ?_<;>(intro _ w X ao;replace hs:=hs.trans ao))|((with_reducible refine fh ((s.fV).length-(i+1)) ?_ ?_);omega;exact⟨i+1,by simp,rfl,by omega,hs,by rw [hw];simp [*]⟩)
 ·rw [hd] at hw;repeat' first|refine bD ?_;intros
  refine B2 (fun n a _ _ w X=> ∃i:Nat,a=I (i:Nat)∧n=s.fB.length-i∧i≤s.fB.length∧aj _ _ X w∧
   (s.fB.all fun p=>p.reads.all s.range.key&&p.writes.all fun x=>s.range.key x.key)=((s.fB.drop i).all fun p=>p.reads.all s.range.key&&p.writes.all fun x=>s.range.key x.key)) s.fB.length ⟨0,rfl,rfl,aF _,hs,by simp⟩ ?_
  rintro n a a2 a3 w X ⟨j,rfl,rfl,hj,hs,rA⟩;rcases ew s.fB j with⟨dy,p,hp,nR⟩|⟨MI,nR⟩
  ·rw [nR,iD] at rA;obtain⟨uY,qU⟩:=mX.pk p (cj hp);repeat' first|refine bD ?_;intros|((with_reducible apply TC);assumption;(try (case hz=>rfl));(case hr=>exact qR);(try (case hz=>omega));(case ht=>kernel_rfl);(case hs=>kernel_rfl);intros)
   have hl3:=Sl.gy ‹Sl w0 (aR w0) 1 _ (p.reads.map S1)›;have hl4:=Sl.gy ‹Sl w0 (aR w0) 4 _ (p.writes.map KV.l)›;refine fR (fun n a w X=> ∃i:Nat,a=I (i:Nat)∧n=p.reads.length-i∧i≤p.reads.length∧aj _ _ X w∧p.reads.all s.range.key=(p.reads.drop i).all s.range.key) p.reads.length ⟨0,rfl,rfl,aF _,hs,by simp⟩ ?_;rintro n a w X ⟨k,rfl,rfl,hk3,hs,ug⟩;rcases ew p.reads k with⟨alJ,y,hy,L6⟩|⟨alK,L6⟩
   ·rw [L6,iD] at ug;have hky:=uY y (cj hy);repeat' first|refine bD ?_;intros|((first|(with_reducible refine av hs ?_)|(with_reducible refine av (bS.trans hs) ?_));intro wa hk;(simp [aaQ,State.inside,rA,ug, *]))|(refine fT (Og y hky _ _ hs) kQ hs.has ?_ ?_<;>(intro _ w X ao;replace hs:=hs.trans ao))|((with_reducible refine fh (p.reads.length-(k+1)) ?_ ?_);omega;exact⟨k+1,by simp,rfl,by omega,hs,by rw [ug];simp [*]⟩)
   ·rw [L6] at ug;repeat' first|refine bD ?_;intros
    refine fR (fun n a w X=> ∃i:Nat,a=I (i:Nat)∧n=p.writes.length-i∧i≤p.writes.length∧aj _ _ X w∧(p.writes.all fun x=>s.range.key x.key)=(p.writes.drop i).all fun x=>s.range.key x.key) p.writes.length ⟨0,rfl,rfl,aF _,hs,by simp⟩ ?_;rintro n a w X ⟨m,rfl,rfl,hm,hs,Ju⟩;rcases ew p.writes m with⟨am9,y,hy,hd4⟩|⟨ana,hd4⟩
    ·rw [hd4,iD] at Ju;have hky:=qU y (cj hy);repeat' first|refine bD ?_;intros|((first|(with_reducible refine av hs ?_)|(with_reducible refine av (bS.trans hs) ?_));intro wa hk;(simp [aaQ,State.inside,rA,ug,Ju, *]))|(refine fT (Og y.key hky _ _ hs) kQ hs.has ?_ ?_<;>(intro _ w X ao;replace hs:=hs.trans ao))|((with_reducible refine fh (p.writes.length-(m+1)) ?_ ?_);omega;exact⟨m+1,by simp,rfl,by omega,hs,by rw [Ju];simp [*]⟩)
    ·rw [hd4] at Ju;repeat' first|refine bD ?_;intros|((with_reducible refine B3 (s.fB.length-(j+1)) ?_ ?_);omega;exact⟨j+1,by simp,rfl,by omega,hs,by rw [rA,ug,Ju];simp⟩)
  ·rw [nR] at rA;repeat' first|refine bD ?_;intros|((first|(with_reducible refine av hs ?_)|(with_reducible refine av (bS.trans hs) ?_));intro wa hk;(rw [aaQ,State.inside,hw,rA];rfl))
def K0 (prev st:cw) (t:dc) (l:List KV):Bool:=prev.may&&decide (prev.cmp st<0)&&decide (l≠[])&&decide (ey.err ⟨t,st,[],l⟩=0)
theorem KB {w:World} {X:XS} {prev st:cw} {t:dc} {l:List KV} {a:Value} (h:Sl w X 4 a (l.map KV.l)) (hb:l.length≤2^40):
  Ct pg 177 #[prev.v,st.v,t.v,a] w X nX fun v _ _=>v=B (K0 prev st t l):=by
 intro w0 hk;replace h:=h.mv hk.dD;obtain⟨b1,n1,c1,rfl⟩:=h.form;apply SZ;unfold HI;have hs:=aj.init w0;repeat' first|refine aJ ?_;intros|refine dM ?_ ?_<;>intros|with_reducible apply dx|((with_reducible refine dJ (mw _) ?_ hs.has ?_ ?_);(· kernel_rfl);all_goals (intro _ w X ao;replace hs:=hs.trans ao))|((with_reducible refine ee (sa _ _) ?_ hs.has ?_);(· kernel_rfl);intro w X ao;replace hs:=hs.trans ao)|((first|(with_reducible refine av hs ?_)|(with_reducible refine av (bS.trans hs) ?_));intro wa hk;(simp_all [K0]<;>omega))|(refine gC (uG  (p:=⟨t,st,[],l⟩) (Sl.nil _ _ _) qA hb) kQ hs.has ?_;intro w X ao;replace hs:=hs.trans ao)
def YW (x:Nat):Bool:=decide ((BM x).2=0)&&BZ (BM x).1 0&&j9 (BM x).1 Da
def se (n:Int):Bool:=decide (n≥1)&&decide (n≤12)
def Rec.tC (r:Rec):Bool:=
 if r.kind=1 then r.state.may
 else if r.kind=2 then decide (r.n≥0)&&decide (r.n≤281474976710656)
 else if r.kind=3 then decide (ey.err ⟨r.dK,r.bF,r.reads,r.writes⟩=0)&&zk r.parts
 else if r.kind=4 then r.dK.may&&r.bF.QV r.kM
 else if r.kind=5 then r.bF.may
 else if r.kind=6 then YW r.vF&&se r.n&&r.bF.may
 else if r.kind=7 then se r.n
 else if r.kind=8 then decide (r.n≥1)
 else if r.kind=9 then r.dK.may&&r.bF.PA&&zk r.parts
 else if r.kind=10 then r.dK.may
 else if r.kind=11 then K0 r.prev r.bF r.dK r.writes
 else r.bF.may&&KZ r.xm
theorem Tf {w:World} {X:XS} {r:Rec} {vr vw vp vq vh vd:Value} (h:r.at w X vr vw vp vq vh vd) (mX:r.small):
  Ct pg 208 #[r.v vr vw vp vq vh vd] w X nX fun v _ _=>v=B r.tC:=by
 intro w0 hk;obtain⟨h1,h2,h3,h4,h5,h6⟩:=h.mv hk.dD;obtain⟨b1,n1,c1,rfl⟩:=h1.form;obtain⟨b2,n2,c2,rfl⟩:=h2.form;apply QN;unfold Fk;have hs:=aj.init w0;repeat' first|refine aJ ?_;intros|refine dM ?_ ?_<;>intros|with_reducible apply dx|((with_reducible refine dJ (mw _) ?_ hs.has ?_ ?_);(· kernel_rfl);all_goals (intro _ w X ao;replace hs:=hs.trans ao))|((with_reducible refine dJ (Ay _) ?_ hs.has ?_ ?_);(· kernel_rfl);all_goals (intro _ w X ao;replace hs:=hs.trans ao))|((with_reducible refine dJ (QW _ _) ?_ hs.has ?_ ?_);(· kernel_rfl);all_goals (intro _ w X ao;replace hs:=hs.trans ao))|((with_reducible refine ee (Ta _) ?_ hs.has ?_);(· kernel_rfl);intro w X ao;replace hs:=hs.trans ao)|((with_reducible refine dJ (S9 _) ?_ hs.has ?_ ?_);(· kernel_rfl);all_goals (intro _ w X ao;replace hs:=hs.trans ao))|((with_reducible refine dJ (HN _) ?_ hs.has ?_ ?_);(· kernel_rfl);all_goals (intro _ w X ao;replace hs:=hs.trans ao))|(refine fT (DT  (s:=r.state) qA qA mX.state) kQ hs.has ?_ ?_<;>(intro _ w X ao;replace hs:=hs.trans ao))|(refine gC (uG  (p:=⟨r.dK,r.bF,r.reads,r.writes⟩) qA qA mX.writes) kQ hs.has ?_;intro w X ao;replace hs:=hs.trans ao)|(refine fT (Kw  qA) kQ hs.has ?_ ?_<;>(intro _ w X ao;replace hs:=hs.trans ao))|(refine fT (Wn  qA) kQ hs.has ?_ ?_<;>(intro _ w X ao;replace hs:=hs.trans ao))|(refine fT ((KB (l:=r.writes))  qA mX.writes) kQ hs.has ?_ ?_<;>(intro _ w X ao;replace hs:=hs.trans ao))
 all_goals
  (with_reducible refine av hs ?_)
  intro wa bk;unfold Rec.tC;repeat (first|rw [if_pos zQ]|rw [if_neg zQ])
  simp_all [YW,se,Da]<;>omega
def Rec.err (r:Rec):Int:=if !r.strip.2 then 7 else if !r.strip.1.isZero||!r.tC then 4 else 0
theorem aaR {w:World} {X:XS} {r:Rec} {vr vw vp vq vh vd:Value} (h:r.at w X vr vw vp vq vh vd) (mX:r.small):
  Ct pg 145 #[r.v vr vw vp vq vh vd] w X nX fun v _ _=>v=I r.err:=by
 intro w0 hk;have h:=h.mv hk.dD;apply XO;unfold Mr;have hs:=aj.init w0;refine dp (QX h) kQ hs.has ?_;rintro v wa w X ⟨Wo,fy,Hu,vq',Wp,Wq,rfl,ef⟩ hle fP ao;replace hs:=hs.trans ao;have q1:=ef.1.one;have q2:=ef.2.1.one;have q3:=ef.2.2.1.one;have q4:=ef.2.2.2.1.one;have q5:=ef.2.2.2.2.1.one;have q6:=ef.2.2.2.2.2.one;cases hb:r.strip.2<;>
 repeat' first|refine aJ ?_;intros|with_reducible apply dx|((first|(with_reducible refine av hs ?_)|(with_reducible refine av (bS.trans hs) ?_));intro wa hk;(simp [Rec.err, *]))|(refine fT (XU  (r:=r.strip.1) qA) kQ hs.has ?_ ?_<;>(intro _ w X ao;replace hs:=hs.trans ao))|(refine fT ((Tf (r:=r))  (h.mv (aj.mv hs)) mX) kQ hs.has ?_ ?_<;>(intro _ w X ao;replace hs:=hs.trans ao))
abbrev U1 (b:Nat):List Value:=[.int .u8 b]
def CK (u:Nat):List Nat:=if u<128 then [u] else(u % 128+128)::CK (u/128)
termination_by u
decreasing_by omega
def KC (n:Int):Nat:=if n<0 then 18446744073709551615-((n % 18446744073709551616).toNat*2 % 18446744073709551616)else(n % 18446744073709551616).toNat*2 % 18446744073709551616
def encI (n:Int):List Nat:=CK (KC n)
theorem Wv: ∀(k u:Nat),u<128^k→(CK u).length≤max k 1
 |0,u,h=>by
  have:u=0:=by simpa using h
  subst this;unfold CK;simp
 |k+1,u,h=>by
  unfold CK;split
  ·simp only [bh,bI];omega
  ·have hk:1≤k:=by
    rcases k with _|k
    ·simp at h;omega
    ·exact Nat.le_add_left _ _
   have h1:u/128<128^k:=by
    rw [Nat.div_lt_iff_lt_mul (by decide),←Nat.pow_succ];exact h
   have:=Wv k (u/128) h1;simp only [bh];omega
theorem aiQ (n:Int):KC n<18446744073709551616:=by
 unfold KC;split<;>omega
theorem iY (n:Int):(encI n).length≤10:=by
 have:=Wv 10 (KC n) (aG (aiQ n) (by decide));unfold encI;omega
def tR (s:BA):List Nat:=encI s.size++s.data.toList.map UInt8.toNat
def acr (u k:Nat):Nat:=u/256^k % 256
def Hb (x:Nat):List Nat:=(List.range 8).map (acr (canon x))
def NK (v:fS):List Nat:=
 let v:=if v.may then v else fS.zero
 encI v.kind++(if v.kind=1 then Hb v.num else if v.kind=2 then tR v.text else [])
def aeP (b:Bool):List Nat:=[if b then 1 else 0]
def qd (s:cw):List Nat:=encI s.wall++encI s.ep++encI s.node
def Hc (t:dc):List Nat:=encI t.gM++encI t.ga++encI t.sq
def qy (x:KV):List Nat:=tR x.key++NK x.val
def j7 {α:Type} (f:α→List Nat) (l:List α):List Nat:=encI l.length++(l.map f).flatten
theorem Own.tag {w:World} {X:XS} {lo e k:Nat} {v:Value} {rows:List (List Value)} (h:Own w X lo e k v rows) {g:Nat} (hg:v.ownBlock=some g): ∃cs:List Value,w.heap[g]? =some (.cells cs.toArray e (0,0)):=by
 rcases h.row with⟨rfl,_⟩|⟨b,cap,cs,rfl,_,hr,_⟩
 ·cases hg
 ·simp only [Value.ownBlock,ay] at hg;subst hg;exact⟨cs,hr.2⟩
theorem Own.eA {w:World} {X Y:XS} {lo e e' k g:Nat} {v:Value} {rows:List (List Value)} {cs:List Value} (h:Own w X lo e k v rows) (hr:a7 w Y g cs e') (he:decide (e≠e')=true):v.ownBlock≠some g:=fun hg=>by
 obtain⟨c,h1⟩:=Own.tag h hg;rw [hr.2] at h1;simp only [ay,Obj.cells.injEq] at h1;exact of_decide_eq_true he h1.2.1.symm
theorem wrap64 (n:Int):IntKind.u64.wrap n=n % 18446744073709551616:=by
 simp only [oC,mc,jb];simp
theorem K1 (n:Int):IntKind.u8.wrap n=n % 256:=by
 simp only [oC,mc,jb];simp
section
variable {P : Program} {X : XS} {w : World} {N : Value → Prop} {t : TypeId}
theorem PD {src dst:TypeId} {k:IntKind} {u:Nat} (hs:(P.underlying src).isSome=true) (hd:P.underlying dst=some (.int .u8)) (h:N (.int .u8 ((u % 256:Nat):Int))):ae P X w (lQ .u8 src dst (.int k (u:Int))) N:=
 aaz hs hd (by rw [K1];exact h)
theorem Ww (u:Nat):IntKind.u8.wrap (u:Int)=((u % 256:Nat):Int):=by rw [K1];omega
theorem aiR {u:Nat} (h:N (.int .u64 ((u*2 % 18446744073709551616:Nat):Int))):ae P X w (binOp .shl t (.int .u64 (u:Int)) (.int .u64 1)) N:=
 agl zQ (by
  rw [wrap64];have e:((u:Int)*2^min (1:Int).toNat IntKind.u64.bits) % 18446744073709551616=((u*2 % 18446744073709551616:Nat):Int):=by
   show((u:Int)*2^1) % 18446744073709551616=_
   omega
  rw [e];exact h)
theorem aiS {u:Nat} (h:N (.int .u64 ((u/128:Nat):Int))):ae P X w (binOp .shr t (.int .u64 (u:Int)) (.int .u64 7)) N:=
 E9 zQ (by
  have e:((u:Int)).fdiv (2^min (7:Int).toNat IntKind.u64.bits)=((u/128:Nat):Int):=by
   show((u:Int)).fdiv 128=_
   rw [qc _ (by decide)];omega
  rw [e];exact h)
theorem aiT {u:Nat} (h:N (.int .u64 ((u/256:Nat):Int))):ae P X w (binOp .shr t (.int .u64 (u:Int)) (.int .u64 8)) N:=
 E9 zQ (by
  have e:((u:Int)).fdiv (2^min (8:Int).toNat IntKind.u64.bits)=((u/256:Nat):Int):=by
   show((u:Int)).fdiv 256=_
   rw [qc _ (by decide)];omega
  rw [e];exact h)
theorem aiU {u:Nat} (hu:u<18446744073709551616) (h:N (.int .u64 ((18446744073709551615-u:Nat):Int))):ae P X w (Op.unary .xor (.int .u64 (u:Int))) N:=by
 refine cf (v:=.int .u64 ((18446744073709551615-u:Nat):Int)) (fun wa=>?_) h;have key:(bT 64 18446744073709551615^^^bT 64 (u:Int)).toNat=18446744073709551615-u:=by
  have h1:bT 64 18446744073709551615=BitVec.allOnes 64:=by decide
  have h2:(bT 64 (u:Int))=BitVec.ofNat 64 u:=by simp
  rw [h1,h2,BitVec.allOnes_xor,BitVec.toNat_not,BitVec.toNat_ofNat,Nat.mod_eq_of_lt zQ]
 have e:IntKind.u64.wrap (bT IntKind.u64.bits IntKind.u64.max^^^bT IntKind.u64.bits (u:Int)).toNat=((18446744073709551615-u:Nat):Int):=by
  rw [wrap64]
  show((bT 64 18446744073709551615^^^bT 64 (u:Int)).toNat:Int) % 18446744073709551616=_
  rw [key];omega
 have hk:(Op.unary .xor (.int .u64 (u:Int))).run P wa= .ok (.int .u64 (IntKind.u64.wrap (bT IntKind.u64.bits IntKind.u64.max^^^bT IntKind.u64.bits (u:Int)).toNat)) wa:=by
  simp [Op.unary,Op.intBits,jb]
 rw [hk,e]
theorem abA {k:IntKind} {a b:Int} (h:N (.int k (k.wrap (bT k.bits a|||bT k.bits b).toNat))):ae P X w (binOp .or t (.int k a) (.int k b)) N:=
 cf (fun wa=>by simp [binOp,Op.intBits]) h
theorem akh: ∀b:Nat,b<256→(bT 8 (b:Int)|||bT 8 128).toNat=b % 128+128:=by decide+kernel
theorem agE {b:Nat} (hb:b<256) (h:N (.int .u8 ((b % 128+128:Nat):Int))):ae P X w (binOp .or t (.int .u8 (b:Int)) (.int .u8 128)) N:=
 abA (by
  have e:IntKind.u8.wrap (bT IntKind.u8.bits (b:Int)|||bT IntKind.u8.bits 128).toNat=((b % 128+128:Nat):Int):=by
   rw [K1];have:=akh b hb
   show((bT 8 (b:Int)|||bT 8 128).toNat:Int) % 256=_
   rw [this];omega
  rw [e];exact h)
theorem aiV {n:Int} (h:N (.int .u64 (((n % 18446744073709551616).toNat*2 % 18446744073709551616:Nat):Int))):ae P X w (binOp .shl t (.int .u64 (IntKind.u64.wrap n)) (.int .u64 1)) N:=by
 have e:IntKind.u64.wrap n=((n % 18446744073709551616).toNat:Int):=by rw [wrap64];omega
 rw [e];exact aiR h
theorem aki {u:Nat} (h:N (.int .u8 ((u % 128+128:Nat):Int))):ae P X w (binOp .or t (.int .u8 (IntKind.u8.wrap (u:Int))) (.int .u8 128)) N:=by
 rw [Ww];exact agE zQ (by rw [show u % 256 % 128=u % 128 by omega];exact h)
end
structure Wr (w:World) (X:XS) (lo wb:Nat) (vb:Value) (bs:List Nat):Prop where
 box:a7 w X wb [vb] 350
 ow:Own w X lo 5 1 vb (bs.map U1)
def Bf (wb:Nat) (vb:Value):XS:=fun k=>k=wb∨vb.ownBlock=some k
theorem Wr.mv {w w':World} {X Y:XS} {lo wb:Nat} {vb:Value} {bs:List Nat} (h:Wr w X lo wb vb bs) (m:Mv X w Y w'):Wr w' Y lo wb vb bs:=⟨h.box.mv m,h.ow.mv m⟩
theorem Wr.ne {w:World} {X:XS} {lo wb:Nat} {vb:Value} {bs:List Nat} (h:Wr w X lo wb vb bs):vb.ownBlock≠some wb:=Own.eA h.ow h.box kQ
def lM (f:FuncId) (args:Array Value) (w:World) (X:XS) (lo wb:Nat) (vb:Value) (bs ds:List Nat):Prop:=
 Ct pg f args w X (Bf wb vb) fun v wa w'=>v= .tuple #[]∧ ∃KD,Wr w' (fun k=>Bf wb vb k∨made wa w' k) lo wb KD (bs++ds)
structure WS (w0:World) (oD:Value) (w:World) (X:XS) (lo wb:Nat) (vb:Value) (bs:List Nat):Prop where
 s:aj (out (Bf wb oD) w0) w0 X w
 r:Wr w X lo wb vb bs
 v: ∀g,vb.ownBlock=some g→oD.ownBlock=some g∨w0.heap.size≤g
section
variable {w0 w : World} {X : XS} {lo wb : Nat} {oD vb : Value} {bs ds : List Nat} {R : Ending → World → Prop} {N : Value → World → XS → Prop}
theorem WS.init (h:Wr w0 (aR w0) lo wb oD bs):WS w0 oD w0 (aR w0) lo wb oD bs:=⟨aj.out _ _,h,fun g hg=>.inl hg⟩
theorem WS.since {X':XS} {w':World} (h:WS w0 oD w X lo wb vb bs) (hs:aj X w X' w'):WS w0 oD w' X' lo wb vb bs:=⟨h.s.trans hs,h.r.mv hs.mv,h.v⟩
theorem WS.fin (h:WS w0 oD w X lo wb vb (bs++ds)):fin (xt (Bf wb oD) w0 fun v w'=>(fun v wa w'=>v= .tuple #[]∧ ∃KD,Wr w' (fun k=>Bf wb oD k∨made wa w' k) lo wb KD (bs++ds)) v w0 w') X w (.tuple #[]):=by
 refine YS h.s fun wa hk=>⟨rfl,vb,⟨.inl (.inl rfl),(h.r.box.kp hk).2⟩,(h.r.ow.kp hk).1,(h.r.ow.kp hk).2.1,fun g hg=>?_⟩;rcases h.v g hg with h1|h1
 ·exact .inl (.inr h1)
 ·exact .inr ⟨h1,((h.r.ow.kp hk).ge hg).2⟩
theorem WS.out (h:WS w0 oD w X lo wb vb bs) {k:Nat} (hk:Bf wb vb k) (h0:out (Bf wb oD) w0 k):False:=by
 rcases hk with hk|hk
 ·exact h0.2 (.inl hk)
 ·rcases h.v k hk with h1|h1
  ·exact h0.2 (.inr h1)
  ·have:=h0.1;omega
theorem WS.eu {f:FuncId} {args:Array Value} (hS:WS w0 oD w X lo wb vb bs) (hp:lM f args w X lo wb vb bs ds) (hf:enters pg f=true)
  (k: ∀KD w' X',WS w0 oD w' X' lo wb KD (bs++ds)→ez (Bf wb vb) X w X' w'→N (.tuple #[]) w' X'):eC pg R X w true f args N:=by
 refine aeI hp hf hS.s.has (fun q hq=>?_) fun v wa w' X' hq hle fP Ma hc=>?_
 ·rcases hq with rfl|hq
  ·exact hS.r.box.1
  ·exact hS.r.ow.2.2 q hq
 ·obtain⟨rfl,KD,hW⟩:=hq;refine k KD w' X' ⟨hS.s.fM hc fun q h0 hq=>hS.out hq h0,⟨⟨hc.sub _ hS.r.box.1,hW.box.2⟩,hW.ow.1,hW.ow.2.1,fun g hg=>?_⟩,fun g hg=>?_⟩ hc
  ·rcases hW.ow.2.2 g hg with h1|h1
   ·rcases h1 with rfl|h1
    ·exact hc.sub _ hS.r.box.1
    ·exact hc.sub g (hS.r.ow.2.2 g h1)
   ·exact fP g h1
  ·rcases hW.ow.2.2 g hg with h1|h1
   ·rcases h1 with rfl|h1
    ·exact absurd hg hW.ne
    ·exact hS.v g h1
   ·right;have:=h1.1;have:=hS.s.kp.size;omega
theorem KE {b:Nat} (hS:WS w0 oD w X lo wb vb bs) (fp:lo≤w.heap.size) (hb:bs.length≤2^40)
  (k: ∀KD w' X',WS w0 oD w' X' lo wb KD (bs++[b])→N undef w' X'):
  eV pg R X w true (fH 94 5 1 1 #[(0,.int .u8 (b:Int))]) fun s w1 X1=>eV pg R X1 w1 true (e7 94 5 1 1 94 vb s) fun x w2 X2=>
   aB pg X2 w2 (aE (ptr wb 0)) fun p=>ae pg X2 w2 (aS 350 0 0 1 p) fun q=>eU pg R X2 w2 true (st1 94 1 q x) N:=by
 refine agB hS.r.ow hS.s.has fp kQ (row:=U1 b) rfl rfl rfl (by simp;omega) (by simp;omega) fun v' w' X' hc ho ef=>?_;have du: ∀q,cY vb q→q≠wb:=fun q hq e=>hS.r.ne (by rw [←e];exact hq);have gh:a7 w' X' wb [vb] 350:=⟨hc.sub _ hS.r.box.1,by rw [hc.block _ hS.r.box.1 fun hq=>du _ hq rfl];exact hS.r.box.2⟩;have wM:=hS.s.fM hc fun q h0 hq=>hS.out (.inr hq) h0;have IE: ∀g,v'.ownBlock=some g→oD.ownBlock=some g∨w0.heap.size≤g:=fun g hg=>by
  rcases ef with e|⟨g',e,dV⟩
  ·exact hS.v g (e▸hg)
  ·rw [e] at hg;cases hg;right;have:=hS.s.kp.size;omega
 with_reducible apply Ty
 have Sn:fieldInfo pg 350 0=some (0,1):=by kernel_rfl
 refine O8 (gh.cells) Sn rfl fun o' uI _=>?_;subst uI;refine By gh kQ (by simp) (by obtain⟨_,_,_,rfl⟩:=ho.sl.form;rfl) (by obtain⟨_,_,_,rfl⟩:=ho.sl.form;rfl) wM.has fun w3 X3 qY sT=>?_;have UP:v'.ownBlock≠some wb:=Own.eA ho gh kQ;refine k v' w3 X3 ⟨wM.fM qY fun q h0 hq=>h0.2 (.inl hq),⟨?_,?_⟩,IE⟩
 ·have e:dg [vb] (0+0) v'.cells.toList=[v']:=by obtain⟨_,_,_,rfl⟩:=ho.sl.form;rfl
  rw [e] at sT;exact sT
 ·rw [bC];exact Own.fM ho qY fun g hg e=>UP (by rw [hg,e])
end
theorem NL {w:World} {X:XS} :Ct pg 146 #[] w X nX fun v wa w'=> ∃wb,v=ptr wb 0∧Wr w' (made wa w') wa.heap.size wb (.slice none 0 0) []:=by
 intro w0 hk;apply Lw;unfold A8;have hs:=aj.init w0;repeat' first|refine aJ ?_;intros|(with_reducible apply nY);(case hX=>exact hs.has);intro bx w X gh ao bJ;have bS:=hs.trans ao;replace hs:=aj.ct ao.has
 refine av (bS.trans hs) fun wa bk=>⟨bx,rfl,⟨⟨gh,(bJ.kp bk).lt⟩,(bJ.kp bk).2⟩,Own.nil _ _ _ _ _⟩
theorem mn {w:World} {X:XS} {lo wb:Nat} {vb:Value} {bs:List Nat} {n:Int} (h:Wr w X lo wb vb bs) (hb:bs.length≤2^39) (fp:lo≤w.heap.size):lM 190 #[ptr wb 0,I n] w X lo wb vb bs (encI n):=by
 intro w0 hk;have di:lo≤w0.heap.size:=ah fp hk.size;have hS:=WS.init (h.mv hk.dD);apply Kr;unfold Ad;have hs:=hS.s;have sD:=hS.r.box;repeat' first|refine aJ ?_;intros|(with_reducible apply aiV)
 refine mm (fun k=>k (.int .u64 (KC n:Int))) ?_ ?_
 ·refine fR (fun n' a w X=> ∃(u:Nat) (rD:Value) (bsi:List Nat),a= .int .u64 (u:Int)∧n'=u∧WS w0 vb w X lo wb rD bsi∧bsi++CK u=bs++encI n) (KC n) ⟨KC n,vb,bs,rfl,rfl,hS,rfl⟩ ?_;clear hs sD hS;rintro u a w X ⟨_,rD,bsi,rfl,rfl,hS,Vu⟩;have hs:=hS.s;have sD:=hS.r.box;have hlen:bsi.length≤2^40:=by
   have h1:=congrArg List.length Vu;have h2:=iY n;simp only [au] at h1;omega
  have Qn:lo≤w.heap.size:=ah di hs.kp.size;by_cases hu:u<128
  ·have he:CK u=[u]:=by rw [CK,if_pos hu]
   repeat' first|refine bD ?_;intros
   rw [Ww,show u % 256=u by omega];refine KE hS Qn hlen fun gz w2 X2 bL=>?_;rw [←he,Vu] at bL;exact bL.fin
  ·have he:CK u=(u % 128+128)::CK (u/128):=by rw [CK,if_neg hu]
   repeat' first|refine bD ?_;intros|(with_reducible apply aki)
   refine KE hS Qn hlen fun gz w2 X2 bL=>?_;repeat' first|(with_reducible apply aiS)
   refine fh (u/128) zQ ⟨u/128,gz,_,rfl,rfl,bL,?_⟩;rw [aI,List.singleton_append,←he];exact Vu
 ·intro K hK;repeat' first|refine aJ ?_;intros|refine dM ?_ ?_<;>intros|(with_reducible apply aiU);omega
  ·have:KC n=18446744073709551615-((n % 18446744073709551616).toNat*2 % 18446744073709551616):=by unfold KC;rw [if_pos zQ]
   rw [←this];exact hK
  ·have:KC n=(n % 18446744073709551616).toNat*2 % 18446744073709551616:=by unfold KC;rw [if_neg zQ]
   rw [←this];exact hK
theorem aeQ (s:BA):(uq s).map (fun x=>[x])=(s.data.toList.map UInt8.toNat).map U1:=by
 unfold uq;simp
section
variable {w0 w : World} {X : XS} {lo wb : Nat} {oD vb : Value} {bs ds : List Nat} {R : Ending → World → Prop} {N : Value → World → XS → Prop}
theorem aiW {v':Value} {w':World} {X':XS} (hS:WS w0 oD w X lo wb vb bs) (hc:ez (cY vb) X w X' w') (ho:Own w' X' lo 5 1 v' (ds.map U1)) (ef:v'.ownBlock=vb.ownBlock∨ ∃g,v'.ownBlock=some g∧w.heap.size≤g)
  (k: ∀w' X',WS w0 oD w' X' lo wb v' ds→N undef w' X'):
  aB pg X' w' (aE (ptr wb 0)) fun p=>ae pg X' w' (aS 350 0 0 1 p) fun q=>eU pg R X' w' true (st1 94 1 q v') N:=by
 have du: ∀q,cY vb q→q≠wb:=fun q hq e=>hS.r.ne (by rw [←e];exact hq);have gh:a7 w' X' wb [vb] 350:=⟨hc.sub _ hS.r.box.1,by rw [hc.block _ hS.r.box.1 fun hq=>du _ hq rfl];exact hS.r.box.2⟩;have wM:=hS.s.fM hc fun q h0 hq=>hS.out (.inr hq) h0;have IE: ∀g,v'.ownBlock=some g→oD.ownBlock=some g∨w0.heap.size≤g:=fun g hg=>by
  rcases ef with e|⟨g',e,dV⟩
  ·exact hS.v g (e▸hg)
  ·rw [e] at hg;cases hg;right;have:=hS.s.kp.size;omega
 with_reducible apply Ty
 have Sn:fieldInfo pg 350 0=some (0,1):=by kernel_rfl
 refine O8 (gh.cells) Sn rfl fun o' uI _=>?_;subst uI;refine By gh kQ (by simp) (by obtain⟨_,_,_,rfl⟩:=ho.sl.form;rfl) (by obtain⟨_,_,_,rfl⟩:=ho.sl.form;rfl) wM.has fun w3 X3 qY sT=>?_;have UP:v'.ownBlock≠some wb:=Own.eA ho gh kQ;refine k w3 X3 ⟨wM.fM qY fun q h0 hq=>h0.2 (.inl hq),⟨?_,?_⟩,IE⟩
 ·have e:dg [vb] (0+0) v'.cells.toList=[v']:=by obtain⟨_,_,_,rfl⟩:=ho.sl.form;rfl
  rw [e] at sT;exact sT
 ·exact Own.fM ho qY fun g hg e=>UP (by rw [hg,e])
end
theorem Mw {w:World} {X:XS} {lo wb:Nat} {vb:Value} {bs:List Nat} {s:BA} (h:Wr w X lo wb vb bs) (hb:bs.length≤2^38) (fp:lo≤w.heap.size) (bS:s.size≤2^38):lM 260 #[ptr wb 0,.string s] w X lo wb vb bs (tR s):=by
 intro w0 hk;have di:lo≤w0.heap.size:=ah fp hk.size;have hS:=WS.init (h.mv hk.dD);apply Ip;unfold yU;have hs:=hS.s;repeat' first|refine aJ ?_;intros
 refine hS.eu (mn hS.r zQ di) kQ fun gz w2 X2 bL lH=>?_;clear hs;have hs:=bL.s;have sD:=bL.r.box;have hen:=iY s.size;repeat' first|refine aJ ?_;intros
 refine aiI (bytes:=1) bL.r.ow hs.has (ah di hs.kp.size) kQ kQ (by simp;omega) (by simp;omega) fun v' w3 X3 hc ho ef=>?_;rw [aeQ,←bC] at ho;refine aiW bL hc ho ef fun w4 X4 fQ=>?_;rw [aI] at fQ;exact fQ.fin
theorem KF {w:World} {X:XS} {lo wb:Nat} {vb:Value} {bs:List Nat} {x:Nat} (h:Wr w X lo wb vb bs) (hb:bs.length≤2^39) (fp:lo≤w.heap.size):lM 203 #[ptr wb 0,.float .f64 x] w X lo wb vb bs (Hb x):=by
 intro w0 hk;have di:lo≤w0.heap.size:=ah fp hk.size;have hS:=WS.init (h.mv hk.dD);apply GX;unfold yk;have hs:=hS.s;repeat' first|((with_reducible refine ee (Bo _) ?_ hs.has ?_);(· kernel_rfl);intro w X ao;replace hs:=hs.trans ao)
 refine fN (fun n' a b w X=> ∃(i:Nat) (rD:Value),a=I i∧b= .int .u64 ((canon x/256^i:Nat):Int)∧n'=8-i∧i≤8∧WS w0 vb w X lo wb rD (bs++(List.range i).map (acr (canon x)))) 8
  ⟨0,vb,rfl,by simp,rfl,by omega,by simpa using hS.since (by assumption)⟩ ?_
 clear hs hS ao;rintro n' a b w X ⟨i,rD,rfl,rfl,rfl,hi,hS⟩;have hs:=hS.s;have sD:=hS.r.box;have Qn:lo≤w.heap.size:=ah di hs.kp.size;by_cases h8:i<8
 ·repeat' first|refine bD ?_;intros
  rw [Ww];refine KE hS Qn (by simp;omega) fun gz w2 X2 bL=>?_;repeat' first|refine aJ ?_;intros|(with_reducible apply aiT)
  refine fJ (8-(i+1)) zQ ⟨i+1,gz,by simp,?_,rfl,by omega,?_⟩
  ·rw [Nat.div_div_eq_div_mul,Nat.pow_succ]
  ·rw [List.range_succ,bC,←aI];exact bL
 ·obtain rfl:i=8:=by omega
  repeat' first|refine bD ?_;intros
  exact hS.fin
theorem Wx {w:World} {X:XS} {lo wb:Nat} {vb:Value} {bs:List Nat} (h:Wr w X lo wb vb bs) (hb:bs.length≤2^40):Ct pg 147 #[ptr wb 0] w X nX fun v wa w'=>Own w' (made wa w') wa.heap.size 5 1 v (bs.map U1):=by
 intro w0 hk;replace h:=h.mv hk.dD;have sD:=h.box;apply GS;unfold yh;have hs:=aj.init w0;repeat' first|refine aJ ?_;intros|(with_reducible apply Ge);(case hX=>exact hs.has);(case hu=>kernel_rfl);(case hz=>kernel_rfl);intro acc w X ao ho;replace hs:=hs.trans ao|((first|(with_reducible refine av hs ?_)|(with_reducible refine av (bS.trans hs) ?_));intro wa hk;(exact(ho.kp hk).tight))|((with_reducible apply qQ);(case own=>assumption);(case hs=>assumption);(case h0=>exact fun _ h=>h);(case he=>kernel_rfl);(case src=>exact Sl.mv h.ow.sl (aj.mv hs));(case h1=>simp [aV.one]);(case hb=>simp;omega);(case hl=>simp;omega);intro acc w X ao ho hc ef;replace hs:=ao;rw [List.nil_append] at ho)
theorem XW {w:World} {X:XS} {lo wb:Nat} {vb:Value} {bs:List Nat} {b:Bool} (h:Wr w X lo wb vb bs) (hb:bs.length≤2^39) (fp:lo≤w.heap.size):lM 201 #[ptr wb 0,B b] w X lo wb vb bs (aeP b):=by
 intro w0 hk;have di:lo≤w0.heap.size:=ah fp hk.size;have hS:=WS.init (h.mv hk.dD);apply Im;unfold yS;have hs:=hS.s;have sD:=hS.r.box;cases b<;>
 repeat' first|refine aJ ?_;intros
 ·refine KE (b:=0) hS di zQ fun gz w2 X2 bL=>?_;exact bL.fin
 ·refine KE (b:=1) hS di zQ fun gz w2 X2 bL=>?_;exact bL.fin
def rq (Z X:XS) (wb:Nat) (vb:Value):Prop:= ∀k,Z k→X k∧ ¬Bf wb vb k
section
variable {w0 w : World} {X : XS} {lo wb : Nat} {oD vb : Value} {bs ds : List Nat}
theorem WS.z (hS:WS w0 oD w X lo wb vb bs):rq (aV.out (Bf wb oD) w0) X wb vb:=fun k h=>⟨hS.s.sub k h,fun hf=>hS.out hf h⟩
theorem WS.at (hS:WS w0 oD w X lo wb vb bs):Mv (aV.out (Bf wb oD) w0) w0 (aV.out (Bf wb oD) w0) w:=fun k hk _=>⟨hk,hS.s.kp.block k hk⟩
theorem rq.mv {Z:XS} (h:rq Z X wb vb) (hk:Kp X w w0):Mv Z w (out (Bf wb vb) w0) w0:=fun k af hl=>⟨⟨aG hl hk.size,(h k af).2⟩,hk.block k (h k af).1⟩
end
abbrev jc (wb:Nat):List Value:=[ptr wb 0,.pointer none]
theorem XX {w:World} {X:XS} {lo wb:Nat} {vb:Value} {bs:List Nat} {v:fS} (h:Wr w X lo wb vb bs) (hb:bs.length≤2^37) (fp:lo≤w.heap.size):lM 265 #[ptr wb 0,v.v] w X lo wb vb bs (NK v):=by
 intro w0 hk;have di:lo≤w0.heap.size:=ah fp hk.size;have hS:=WS.init (h.mv hk.dD);apply Wi;unfold Kl;have hs:=hS.s;refine mm (fun k=> ∀w X,aj (aR w0) w0 X w→k (if v.may then v else fS.zero).v w X) ?_ ?_
 ·intro w X hsX;generalize hu:(if v.may then v else fS.zero)=u;have hue:NK v=encI u.kind++(if u.kind=1 then Hb u.num else if u.kind=2 then tR u.text else []):=by unfold NK;simp only [hu]
  have hut:u.kind=2→u.text.size≤64:=by
   intro h2;by_cases hm:v.may=true
   ·rw [if_pos hm] at hu;subst hu;unfold fS.may at hm;rw [if_neg zQ,if_neg zQ,if_pos h2] at hm;simp at hm;omega
   ·rw [if_neg hm] at hu;rw [←hu] at h2;cases h2
  have hS1:=hS.since hsX;replace hs:=hS1.s;repeat' first|refine aJ ?_;intros
  refine hS1.eu (mn hS1.r zQ (ah di hs.kp.size)) kQ fun gz w2 X2 bL lH=>?_;have he:=iY u.kind;replace hs:=bL.s;repeat' first|refine aJ ?_;intros
  refine mm (fun k=> ∀w X kq,WS w0 vb w X lo wb kq (bs++NK v)→k w X) ?_ ?_
  ·intro w X kq dz;exact dz.fin
  ·intro K hK;rw [hue,←aI] at hK;repeat' first|refine aJ ?_;intros|refine dM ?_ ?_<;>intros
   ·refine bL.eu (KF bL.r (by simp;omega) (ah di hs.kp.size)) kQ fun kq w3 X3 dz qY=>?_;replace hs:=dz.s
    skip
    rw [if_pos zQ] at hK;exact hK _ _ _ dz
   ·refine bL.eu (Mw bL.r (by simp;omega) (ah di hs.kp.size) (by have:=hut zQ;omega)) kQ fun kq w3 X3 dz qY=>?_;replace hs:=dz.s
    skip
    rw [if_neg zQ,if_pos zQ] at hK;exact hK _ _ _ dz
   ·rw [if_neg zQ,if_neg zQ] at hK;rw [lY] at hK;exact hK _ _ _ bL
 ·intro K hK;have hs:=aj.init w0;cases hm:v.may<;>rw [hm] at hK
  ·repeat' first|refine aJ ?_;intros|((with_reducible refine dJ (kE _) ?_ hs.has ?_ ?_);(· kernel_rfl);all_goals (intro _ w X ao;replace hs:=hs.trans ao))
   all_goals first|exact hK _ _ hs|(exfalso;simp_all)
  ·repeat' first|refine aJ ?_;intros|((with_reducible refine dJ (kE _) ?_ hs.has ?_ ?_);(· kernel_rfl);all_goals (intro _ w X ao;replace hs:=hs.trans ao))
   all_goals first|exact hK _ _ hs|(exfalso;simp_all)
theorem ib {w:World} {X Z:XS} {lo wb cb xb xo:Nat} {vb:Value} {bs:List Nat} {n:Int} (h:Wr w X lo wb vb bs) (hc:Cells w Z cb 0 (jc wb)) (hx:Cells w Z xb xo [I n]) (hZ:rq Z X wb vb) (hb:bs.length≤2^38) (fp:lo≤w.heap.size):
  lM 132 #[ptr cb 0,ptr xb xo] w X lo wb vb bs (encI n):=by
 intro w0 hk;have di:lo≤w0.heap.size:=ah fp hk.size;replace hc:=hc.mv (hZ.mv hk);replace hx:=hx.mv (hZ.mv hk);have hS:=WS.init (h.mv hk.dD);apply Kn;unfold Aa;have hs:=hS.s;repeat' first|refine aJ ?_;intros
 refine hS.eu (mn hS.r zQ di) kQ fun gz w2 X2 bL lH=>?_
 skip
 exact bL.fin
theorem yr {w:World} {X Z:XS} {lo wb cb xb xo:Nat} {vb:Value} {bs:List Nat} {s:BA} (h:Wr w X lo wb vb bs) (hc:Cells w Z cb 0 (jc wb)) (hx:Cells w Z xb xo [.string s]) (hZ:rq Z X wb vb) (hb:bs.length≤2^38) (fp:lo≤w.heap.size) (bS:s.size≤2^38):
  lM 198 #[ptr cb 0,ptr xb xo] w X lo wb vb bs (tR s):=by
 intro w0 hk;have di:lo≤w0.heap.size:=ah fp hk.size;replace hc:=hc.mv (hZ.mv hk);replace hx:=hx.mv (hZ.mv hk);have hS:=WS.init (h.mv hk.dD);apply Il;unfold yR;have hs:=hS.s;repeat' first|refine aJ ?_;intros
 refine hS.eu (Mw hS.r zQ di bS) kQ fun gz w2 X2 bL lH=>?_
 skip
 exact bL.fin
theorem iA {w:World} {X Z:XS} {lo wb cb xb xo:Nat} {vb:Value} {bs:List Nat} {s:cw} (h:Wr w X lo wb vb bs) (hc:Cells w Z cb 0 (jc wb)) (hx:Cells w Z xb xo s.l) (hZ:rq Z X wb vb) (hb:bs.length≤2^37) (fp:lo≤w.heap.size):
  lM 138 #[ptr cb 0,ptr xb xo] w X lo wb vb bs (qd s):=by
 have e1:=iY s.wall;have e2:=iY s.ep;intro w0 hk;have di:lo≤w0.heap.size:=ah fp hk.size;replace hc:=hc.mv (hZ.mv hk);replace hx:=hx.mv (hZ.mv hk);have hS:=WS.init (h.mv hk.dD);apply GP;unfold yd;have hs:=hS.s;repeat' first|refine aJ ?_;intros
 refine hS.eu (ib (hS.r) (hc.mv hS.at) (Cells.mv (by assumption) hS.at) hS.z zQ di) kQ fun gz w2 X2 bL lH=>?_;replace hs:=bL.s;repeat' first|refine aJ ?_;intros
 refine bL.eu (ib (bL.r) (hc.mv bL.at) (Cells.mv (by assumption) bL.at) bL.z (by simp;omega) (ah di hs.kp.size)) kQ fun kq w3 X3 dz qY=>?_;replace hs:=dz.s;repeat' first|refine aJ ?_;intros
 refine dz.eu (ib (dz.r) (hc.mv dz.at) (Cells.mv (by assumption) dz.at) dz.z (by simp;omega) (ah di hs.kp.size)) kQ fun PE w4 X4 fQ EK=>?_;replace hs:=fQ.s
 skip
 rw [aI,aI,←aI (encI s.wall)] at fQ;exact fQ.fin
theorem vD {w:World} {X Z:XS} {lo wb cb xb xo:Nat} {vb:Value} {bs:List Nat} {s:dc} (h:Wr w X lo wb vb bs) (hc:Cells w Z cb 0 (jc wb)) (hx:Cells w Z xb xo s.l) (hZ:rq Z X wb vb) (hb:bs.length≤2^37) (fp:lo≤w.heap.size):
  lM 136 #[ptr cb 0,ptr xb xo] w X lo wb vb bs (Hc s):=by
 have e1:=iY s.gM;have e2:=iY s.ga;intro w0 hk;have di:lo≤w0.heap.size:=ah fp hk.size;replace hc:=hc.mv (hZ.mv hk);replace hx:=hx.mv (hZ.mv hk);have hS:=WS.init (h.mv hk.dD);apply Ko;unfold Ab;have hs:=hS.s;repeat' first|refine aJ ?_;intros
 refine hS.eu (ib (hS.r) (hc.mv hS.at) (Cells.mv (by assumption) hS.at) hS.z zQ di) kQ fun gz w2 X2 bL lH=>?_;replace hs:=bL.s;repeat' first|refine aJ ?_;intros
 refine bL.eu (ib (bL.r) (hc.mv bL.at) (Cells.mv (by assumption) bL.at) bL.z (by simp;omega) (ah di hs.kp.size)) kQ fun kq w3 X3 dz qY=>?_;replace hs:=dz.s;repeat' first|refine aJ ?_;intros
 refine dz.eu (ib (dz.r) (hc.mv dz.at) (Cells.mv (by assumption) dz.at) dz.z (by simp;omega) (ah di hs.kp.size)) kQ fun PE w4 X4 fQ EK=>?_;replace hs:=fQ.s
 skip
 rw [aI,aI,←aI (encI s.gM)] at fQ;exact fQ.fin
theorem CL (s:BA):(tR s).length=(encI s.size).length+s.size:=by
 unfold tR;rw [au,aH]
 congr 1
theorem Az {w:World} {X Z:XS} {lo wb cb xb xo:Nat} {vb:Value} {bs:List Nat} {v:fS} (h:Wr w X lo wb vb bs) (hc:Cells w Z cb 0 (jc wb)) (hx:Cells w Z xb xo v.l) (hZ:rq Z X wb vb) (hb:bs.length≤2^37) (fp:lo≤w.heap.size):
  lM 205 #[ptr cb 0,ptr xb xo] w X lo wb vb bs (NK v):=by
 intro w0 hk;have di:lo≤w0.heap.size:=ah fp hk.size;replace hc:=hc.mv (hZ.mv hk);replace hx:=hx.mv (hZ.mv hk);have hS:=WS.init (h.mv hk.dD);apply GY;unfold yl;have hs:=hS.s;repeat' first|refine aJ ?_;intros
 refine hS.eu (XX hS.r zQ di) kQ fun gz w2 X2 bL lH=>?_
 skip
 exact bL.fin
theorem Tg {w:World} {X Z:XS} {lo wb cb xb xo:Nat} {vb:Value} {bs:List Nat} {x:KV} (h:Wr w X lo wb vb bs) (hc:Cells w Z cb 0 (jc wb)) (hx:Cells w Z xb xo x.l) (hZ:rq Z X wb vb) (hb:bs.length≤2^35) (fp:lo≤w.heap.size) (bS:x.key.size≤2^35):
  lM 141 #[ptr cb 0,ptr xb xo] w X lo wb vb bs (qy x):=by
 have e1:(tR x.key).length≤10+x.key.size:=by
  have:=iY x.key.size;rw [CL];omega
 intro w0 hk;have di:lo≤w0.heap.size:=ah fp hk.size;replace hc:=hc.mv (hZ.mv hk);replace hx:=hx.mv (hZ.mv hk);have hS:=WS.init (h.mv hk.dD);apply GR;unfold yf;have hs:=hS.s;repeat' first|refine aJ ?_;intros
 refine hS.eu (yr hS.r (hc.mv hS.at) (Cells.mv (by assumption) hS.at) hS.z zQ di zQ) kQ fun gz w2 X2 bL lH=>?_;replace hs:=bL.s;repeat' first|refine aJ ?_;intros
 refine bL.eu (Az (v:=x.val) bL.r (hc.mv bL.at) (Cells.mv (by assumption) bL.at) bL.z (by simp;omega) (ah di hs.kp.size)) kQ fun kq w3 X3 dz qY=>?_;replace hs:=dz.s
 skip
 rw [aI] at dz;exact dz.fin
theorem Wy {w:World} {X Z:XS} {lo wb cb xb xo:Nat} {vb:Value} {bs:List Nat} {x:KV} (h:Wr w X lo wb vb bs) (hc:Cells w Z cb 0 (jc wb)) (hx:Cells w Z xb xo x.l) (hZ:rq Z X wb vb) (hb:bs.length≤2^35) (fp:lo≤w.heap.size) (bS:x.key.size≤2^35):
  lM 143 #[ptr cb 0,ptr xb xo] w X lo wb vb bs (qy x):=by
 have e1:(tR x.key).length≤10+x.key.size:=by
  have:=iY x.key.size;rw [CL];omega
 intro w0 hk;have di:lo≤w0.heap.size:=ah fp hk.size;replace hc:=hc.mv (hZ.mv hk);replace hx:=hx.mv (hZ.mv hk);have hS:=WS.init (h.mv hk.dD);apply Ij;unfold yP;have hs:=hS.s;repeat' first|refine aJ ?_;intros
 refine hS.eu (yr hS.r (hc.mv hS.at) (Cells.mv (by assumption) hS.at) hS.z zQ di zQ) kQ fun gz w2 X2 bL lH=>?_;replace hs:=bL.s;repeat' first|refine aJ ?_;intros
 refine bL.eu (Az (v:=x.val) bL.r (hc.mv bL.at) (Cells.mv (by assumption) bL.at) bL.z (by simp;omega) (ah di hs.kp.size)) kQ fun kq w3 X3 dz qY=>?_;replace hs:=dz.s
 skip
 rw [aI] at dz;exact dz.fin
theorem nA {α:Type} {f:α→List Nat} {xs:List α} {i:Nat} {x:α} (h:xs[i]? =some x):((xs.take (i+1)).map f).flatten=((xs.take i).map f).flatten++f x:=by
 rw [cC,h];simp
theorem acs (s:cw):(qd s).length≤30:=by
 have h1:=iY s.wall;have h2:=iY s.ep;have h3:=iY s.node;unfold qd;simp only [au];omega
def TD (r:dq):List Nat:=encI r.id++(encI r.gx++(Hb r.lo++Hb r.hi))
def Ag (v:j8):List Nat:=qd v.bF++NK v.val
def CM (h:jm):List Nat:=tR h.key++j7 Ag h.l7
def zm (p:ey):List Nat:=Hc p.dK++(qd p.bF++(j7 tR p.reads++j7 qy p.writes))
def encS (s:State):List Nat:=TD s.range++(qd s.floor++(qd s.closed++(j7 CM s.fV++j7 zm s.fB)))
theorem zn {α:Type} {f:α→List Nat} {xs:List α} {i:Nat} {x:α} (h:xs[i]? =some x):(encI xs.length).length+((xs.take i).map f).flatten.length+(f x).length≤(j7 f xs).length:=by
 have h1:xs=xs.take i++(x::xs.drop (i+1)):=by
  obtain⟨hi,rfl⟩:=List.getElem?_eq_some_iff.1 h;rw [←List.drop_eq_getElem_cons hi,List.take_append_drop]
 have h2:(j7 f xs).length=(encI xs.length).length+((xs.take i).map f).flatten.length+((f x).length+((xs.drop (i+1)).map f).flatten.length):=by
  unfold j7;conv=>lhs;rw [h1]
  rw [bC,List.flatten_append,←h1];simp only [bV,List.flatten_cons,au];omega
 omega
theorem aeR (x:Nat):(Hb x).length=8:=by simp [Hb]
theorem Sp (x:KV):x.key.size≤(qy x).length:=by
 have h1:=CL x.key;unfold qy;rw [au];omega
theorem Wz {w:World} {X Z:XS} {lo wb cb xb xo:Nat} {vb:Value} {bs:List Nat} {b:Bool} (h:Wr w X lo wb vb bs) (hc:Cells w Z cb 0 (jc wb)) (hx:Cells w Z xb xo [B b]) (hZ:rq Z X wb vb) (hb:bs.length≤2^38) (fp:lo≤w.heap.size):
  lM 137 #[ptr cb 0,ptr xb xo] w X lo wb vb bs (aeP b):=by
 intro w0 hk;have di:lo≤w0.heap.size:=ah fp hk.size;replace hc:=hc.mv (hZ.mv hk);replace hx:=hx.mv (hZ.mv hk);have hS:=WS.init (h.mv hk.dD);apply Ii;unfold yO;have hs:=hS.s;repeat' first|refine aJ ?_;intros
 refine hS.eu (XW hS.r zQ di) kQ fun gz w2 X2 bL lH=>?_
 skip
 exact bL.fin
theorem AA {w:World} {X Z:XS} {lo wb cb xb xo:Nat} {vb:Value} {bs:List Nat} {x:Nat} (h:Wr w X lo wb vb bs) (hc:Cells w Z cb 0 (jc wb)) (hx:Cells w Z xb xo [.float .f64 x]) (hZ:rq Z X wb vb) (hb:bs.length≤2^38) (fp:lo≤w.heap.size):
  lM 139 #[ptr cb 0,ptr xb xo] w X lo wb vb bs (Hb x):=by
 intro w0 hk;have di:lo≤w0.heap.size:=ah fp hk.size;replace hc:=hc.mv (hZ.mv hk);replace hx:=hx.mv (hZ.mv hk);have hS:=WS.init (h.mv hk.dD);apply GQ;unfold ye;have hs:=hS.s;repeat' first|refine aJ ?_;intros
 refine hS.eu (KF hS.r zQ di) kQ fun gz w2 X2 bL lH=>?_
 skip
 exact bL.fin
theorem Th {w:World} {X Z:XS} {lo wb cb xb xo:Nat} {vb:Value} {bs:List Nat} {r:dq} (h:Wr w X lo wb vb bs) (hc:Cells w Z cb 0 (jc wb)) (hx:Cells w Z xb xo r.l) (hZ:rq Z X wb vb) (hb:bs.length≤2^36) (fp:lo≤w.heap.size):
  lM 193 #[ptr cb 0,ptr xb xo] w X lo wb vb bs (TD r):=by
 have e1:=iY r.id;have e2:=iY r.gx;have e3:=aeR r.lo;intro w0 hk;have di:lo≤w0.heap.size:=ah fp hk.size;replace hc:=hc.mv (hZ.mv hk);replace hx:=hx.mv (hZ.mv hk);have hS:=WS.init (h.mv hk.dD);apply GU;unfold yi;have hs:=hS.s;repeat' first|refine aJ ?_;intros
 refine hS.eu (ib hS.r (hc.mv hS.at) (Cells.mv (by assumption) hS.at) hS.z (by(try simp only [au]);omega) (ah di hs.kp.size)) kQ fun gz w X bL _=>?_;replace hs:=bL.s;repeat' first|refine aJ ?_;intros
 refine bL.eu (ib bL.r (hc.mv bL.at) (Cells.mv (by assumption) bL.at) bL.z (by(try simp only [au]);omega) (ah di hs.kp.size)) kQ fun kq w X dz _=>?_;replace hs:=dz.s;repeat' first|refine aJ ?_;intros
 refine dz.eu (AA dz.r (hc.mv dz.at) (Cells.mv (by assumption) dz.at) dz.z (by(try simp only [au]);omega) (ah di hs.kp.size)) kQ fun PE w X fQ _=>?_;replace hs:=fQ.s;repeat' first|refine aJ ?_;intros
 refine fQ.eu (AA fQ.r (hc.mv fQ.at) (Cells.mv (by assumption) fQ.at) fQ.z (by(try simp only [au]);omega) (ah di hs.kp.size)) kQ fun WB w X mI _=>?_;replace hs:=mI.s
 skip
 unfold TD;simp only [aI] at mI;exact mI.fin
theorem PF {w:World} {X Z:XS} {lo wb cb xb xo:Nat} {vb:Value} {bs:List Nat} {x:j8} (h:Wr w X lo wb vb bs) (hc:Cells w Z cb 0 (jc wb)) (hx:Cells w Z xb xo x.l) (hZ:rq Z X wb vb) (hb:bs.length≤2^36) (fp:lo≤w.heap.size):
  lM 259 #[ptr cb 0,ptr xb xo] w X lo wb vb bs (Ag x):=by
 have e1:=acs x.bF;intro w0 hk;have di:lo≤w0.heap.size:=ah fp hk.size;replace hc:=hc.mv (hZ.mv hk);replace hx:=hx.mv (hZ.mv hk);have hS:=WS.init (h.mv hk.dD);apply Es;unfold vC;have hs:=hS.s;repeat' first|refine aJ ?_;intros
 refine hS.eu (iA (s:=x.bF) hS.r (hc.mv hS.at) (Cells.mv (by assumption) hS.at) hS.z (by(try simp only [au]);omega) (ah di hs.kp.size)) kQ fun gz w X bL _=>?_;replace hs:=bL.s;repeat' first|refine aJ ?_;intros
 refine bL.eu (Az (v:=x.val) bL.r (hc.mv bL.at) (Cells.mv (by assumption) bL.at) bL.z (by(try simp only [au]);omega) (ah di hs.kp.size)) kQ fun kq w X dz _=>?_;replace hs:=dz.s
 skip
 unfold Ag;simp only [aI] at dz;exact dz.fin
theorem NM {w:World} {X Z:XS} {lo wb cb xb xo:Nat} {vb va:Value} {bs:List Nat} {xs:List BA} (h:Wr w X lo wb vb bs) (hc:Cells w Z cb 0 (jc wb)) (hx:Cells w Z xb xo [va]) (ha:Sl w Z 1 va (xs.map S1)) (hZ:rq Z X wb vb) (fp:lo≤w.heap.size) (hb:bs.length+(j7 tR xs).length≤2^33):
  lM 197 #[ptr cb 0,ptr xb xo,.func (.func 198) #[ptr cb 0] #[]] w X lo wb vb bs (j7 tR xs):=by
  intro w0 hk;have di:lo≤w0.heap.size:=ah fp hk.size;replace hc:=hc.mv (hZ.mv hk);replace hx:=hx.mv (hZ.mv hk);replace ha:=ha.mv (hZ.mv hk);have hS:=WS.init (h.mv hk.dD);have jT:=ha.gy;apply GW;unfold yj;have hs:=hS.s;repeat' first|refine aJ ?_;intros
  refine mm (fun (k:Value→World→XS→Prop)=> ∀w X gz,WS w0 vb w X lo wb gz (bs++encI xs.length)→k (I xs.length) w X) ?_ ?_
  ·intro w X gz bL;refine fR (fun n' a w X=> ∃(i:Nat) (rD:Value),a=I i∧n'=xs.length-i∧i≤xs.length∧WS w0 vb w X lo wb rD (bs++encI xs.length++((xs.take i).map tR).flatten)) xs.length ⟨0,gz,rfl,rfl,aF _,by simpa using bL⟩ ?_;clear bL hS hs;rintro n' a w X ⟨i,rD,rfl,rfl,hi,hS⟩;have hs:=hS.s;rcases ew xs i with⟨dy,x,wW,hd⟩|⟨dV,hd⟩
   ·have gh:=zn (f:=tR) wW;repeat' first|refine bD ?_;intros
    refine mm (fun (k:World→XS→Prop)=>k w X) ?_ ?_
    ·repeat' first|refine aJ ?_;intros
     refine CA ?_;refine hS.eu (yr (s:=x) hS.r (hc.mv hS.at) (Cells.mv (by assumption) hS.at) hS.z (by simp only [au];omega) (ah di hs.kp.size) (by have:=CL x;omega)) kQ fun kq w3 X3 dz qY=>?_;replace hs:=dz.s;repeat' first|refine aJ ?_;intros
     refine fh (xs.length-(i+1)) zQ ⟨i+1,kq,by simp,rfl,by omega,?_⟩;rw [nA wW,←aI];exact dz
    ·intro K hK;repeat' first|refine aJ ?_;intros|exact hK
   ·rw [bA dV] at hS;repeat' first|refine bD ?_;intros
    rw [aI] at hS;exact hS.fin
  ·intro K hK;repeat' first|refine aJ ?_;intros
   refine hS.eu (mn hS.r zQ di) kQ fun gz w2 X2 bL lH=>?_;replace hs:=bL.s
   skip
   exact hK _ _ _ bL
theorem DU {w:World} {X Z:XS} {lo wb cb xb xo:Nat} {vb va:Value} {bs:List Nat} {xs:List Int} (h:Wr w X lo wb vb bs) (hc:Cells w Z cb 0 (jc wb)) (hx:Cells w Z xb xo [va]) (ha:Sl w Z 1 va (xs.map I1)) (hZ:rq Z X wb vb) (fp:lo≤w.heap.size) (hb:bs.length+(j7 encI xs).length≤2^33):
  lM 135 #[ptr cb 0,ptr xb xo,.func (.func 132) #[ptr cb 0] #[]] w X lo wb vb bs (j7 encI xs):=by
  intro w0 hk;have di:lo≤w0.heap.size:=ah fp hk.size;replace hc:=hc.mv (hZ.mv hk);replace hx:=hx.mv (hZ.mv hk);replace ha:=ha.mv (hZ.mv hk);have hS:=WS.init (h.mv hk.dD);have jT:=ha.gy;apply Lv;unfold A7;have hs:=hS.s;repeat' first|refine aJ ?_;intros
  refine mm (fun (k:Value→World→XS→Prop)=> ∀w X gz,WS w0 vb w X lo wb gz (bs++encI xs.length)→k (I xs.length) w X) ?_ ?_
  ·intro w X gz bL;refine fR (fun n' a w X=> ∃(i:Nat) (rD:Value),a=I i∧n'=xs.length-i∧i≤xs.length∧WS w0 vb w X lo wb rD (bs++encI xs.length++((xs.take i).map encI).flatten)) xs.length ⟨0,gz,rfl,rfl,aF _,by simpa using bL⟩ ?_;clear bL hS hs;rintro n' a w X ⟨i,rD,rfl,rfl,hi,hS⟩;have hs:=hS.s;rcases ew xs i with⟨dy,x,wW,hd⟩|⟨dV,hd⟩
   ·have gh:=zn (f:=encI) wW;repeat' first|refine bD ?_;intros
    refine mm (fun (k:World→XS→Prop)=>k w X) ?_ ?_
    ·repeat' first|refine aJ ?_;intros
     refine CA ?_;refine hS.eu (ib (n:=x) hS.r (hc.mv hS.at) (Cells.mv (by assumption) hS.at) hS.z (by simp only [au];omega) (ah di hs.kp.size)) kQ fun kq w3 X3 dz qY=>?_;replace hs:=dz.s;repeat' first|refine aJ ?_;intros
     refine fh (xs.length-(i+1)) zQ ⟨i+1,kq,by simp,rfl,by omega,?_⟩;rw [nA wW,←aI];exact dz
    ·intro K hK;repeat' first|refine aJ ?_;intros|exact hK
   ·rw [bA dV] at hS;repeat' first|refine bD ?_;intros
    rw [aI] at hS;exact hS.fin
  ·intro K hK;repeat' first|refine aJ ?_;intros
   refine hS.eu (mn hS.r zQ di) kQ fun gz w2 X2 bL lH=>?_;replace hs:=bL.s
   skip
   exact hK _ _ _ bL
theorem HQ {w:World} {X Z:XS} {lo wb cb xb xo:Nat} {vb va:Value} {bs:List Nat} {xs:List KV} (h:Wr w X lo wb vb bs) (hc:Cells w Z cb 0 (jc wb)) (hx:Cells w Z xb xo [va]) (ha:Sl w Z 4 va (xs.map KV.l)) (hZ:rq Z X wb vb) (fp:lo≤w.heap.size) (hb:bs.length+(j7 qy xs).length≤2^33):
  lM 140 #[ptr cb 0,ptr xb xo,.func (.func 141) #[ptr cb 0] #[]] w X lo wb vb bs (j7 qy xs):=by
  intro w0 hk;have di:lo≤w0.heap.size:=ah fp hk.size;replace hc:=hc.mv (hZ.mv hk);replace hx:=hx.mv (hZ.mv hk);replace ha:=ha.mv (hZ.mv hk);have hS:=WS.init (h.mv hk.dD);have jT:=ha.gy;apply CP;unfold uu;have hs:=hS.s;repeat' first|refine aJ ?_;intros
  refine mm (fun (k:Value→World→XS→Prop)=> ∀w X gz,WS w0 vb w X lo wb gz (bs++encI xs.length)→k (I xs.length) w X) ?_ ?_
  ·intro w X gz bL;refine fR (fun n' a w X=> ∃(i:Nat) (rD:Value),a=I i∧n'=xs.length-i∧i≤xs.length∧WS w0 vb w X lo wb rD (bs++encI xs.length++((xs.take i).map qy).flatten)) xs.length ⟨0,gz,rfl,rfl,aF _,by simpa using bL⟩ ?_;clear bL hS hs;rintro n' a w X ⟨i,rD,rfl,rfl,hi,hS⟩;have hs:=hS.s;rcases ew xs i with⟨dy,x,wW,hd⟩|⟨dV,hd⟩
   ·have gh:=zn (f:=qy) wW;repeat' first|refine bD ?_;intros
    refine mm (fun (k:World→XS→Prop)=>k w X) ?_ ?_
    ·repeat' first|refine aJ ?_;intros
     refine CA ?_;refine hS.eu (Tg (x:=x) hS.r (hc.mv hS.at) (Cells.mv (by assumption) hS.at) hS.z (by simp only [au];omega) (ah di hs.kp.size) (by have:=Sp x;omega)) kQ fun kq w3 X3 dz qY=>?_;replace hs:=dz.s;repeat' first|refine aJ ?_;intros
     refine fh (xs.length-(i+1)) zQ ⟨i+1,kq,by simp,rfl,by omega,?_⟩;rw [nA wW,←aI];exact dz
    ·intro K hK;repeat' first|refine aJ ?_;intros|exact hK
   ·rw [bA dV] at hS;repeat' first|refine bD ?_;intros
    rw [aI] at hS;exact hS.fin
  ·intro K hK;repeat' first|refine aJ ?_;intros
   refine hS.eu (mn hS.r zQ di) kQ fun gz w2 X2 bL lH=>?_;replace hs:=bL.s
   skip
   exact hK _ _ _ bL
theorem Ti {w:World} {X Z:XS} {lo wb cb xb xo:Nat} {vb va:Value} {bs:List Nat} {xs:List KV} (h:Wr w X lo wb vb bs) (hc:Cells w Z cb 0 (jc wb)) (hx:Cells w Z xb xo [va]) (ha:Sl w Z 4 va (xs.map KV.l)) (hZ:rq Z X wb vb) (fp:lo≤w.heap.size) (hb:bs.length+(j7 qy xs).length≤2^33):
  lM 142 #[ptr cb 0,ptr xb xo,.func (.func 143) #[ptr cb 0] #[]] w X lo wb vb bs (j7 qy xs):=by
  intro w0 hk;have di:lo≤w0.heap.size:=ah fp hk.size;replace hc:=hc.mv (hZ.mv hk);replace hx:=hx.mv (hZ.mv hk);replace ha:=ha.mv (hZ.mv hk);have hS:=WS.init (h.mv hk.dD);have jT:=ha.gy;apply Eo;unfold vy;have hs:=hS.s;repeat' first|refine aJ ?_;intros
  refine mm (fun (k:Value→World→XS→Prop)=> ∀w X gz,WS w0 vb w X lo wb gz (bs++encI xs.length)→k (I xs.length) w X) ?_ ?_
  ·intro w X gz bL;refine fR (fun n' a w X=> ∃(i:Nat) (rD:Value),a=I i∧n'=xs.length-i∧i≤xs.length∧WS w0 vb w X lo wb rD (bs++encI xs.length++((xs.take i).map qy).flatten)) xs.length ⟨0,gz,rfl,rfl,aF _,by simpa using bL⟩ ?_;clear bL hS hs;rintro n' a w X ⟨i,rD,rfl,rfl,hi,hS⟩;have hs:=hS.s;rcases ew xs i with⟨dy,x,wW,hd⟩|⟨dV,hd⟩
   ·have gh:=zn (f:=qy) wW;repeat' first|refine bD ?_;intros
    refine mm (fun (k:World→XS→Prop)=>k w X) ?_ ?_
    ·repeat' first|refine aJ ?_;intros
     refine CA ?_;refine hS.eu (Wy (x:=x) hS.r (hc.mv hS.at) (Cells.mv (by assumption) hS.at) hS.z (by simp only [au];omega) (ah di hs.kp.size) (by have:=Sp x;omega)) kQ fun kq w3 X3 dz qY=>?_;replace hs:=dz.s;repeat' first|refine aJ ?_;intros
     refine fh (xs.length-(i+1)) zQ ⟨i+1,kq,by simp,rfl,by omega,?_⟩;rw [nA wW,←aI];exact dz
    ·intro K hK;repeat' first|refine aJ ?_;intros|exact hK
   ·rw [bA dV] at hS;repeat' first|refine bD ?_;intros
    rw [aI] at hS;exact hS.fin
  ·intro K hK;repeat' first|refine aJ ?_;intros
   refine hS.eu (mn hS.r zQ di) kQ fun gz w2 X2 bL lH=>?_;replace hs:=bL.s
   skip
   exact hK _ _ _ bL
theorem PG {w:World} {X Z:XS} {lo wb cb xb xo:Nat} {vb va:Value} {bs:List Nat} {xs:List j8} (h:Wr w X lo wb vb bs) (hc:Cells w Z cb 0 (jc wb)) (hx:Cells w Z xb xo [va]) (ha:Sl w Z 6 va (xs.map j8.l)) (hZ:rq Z X wb vb) (fp:lo≤w.heap.size) (hb:bs.length+(j7 Ag xs).length≤2^33):
  lM 258 #[ptr cb 0,ptr xb xo,.func (.func 259) #[ptr cb 0] #[]] w X lo wb vb bs (j7 Ag xs):=by
  intro w0 hk;have di:lo≤w0.heap.size:=ah fp hk.size;replace hc:=hc.mv (hZ.mv hk);replace hx:=hx.mv (hZ.mv hk);replace ha:=ha.mv (hZ.mv hk);have hS:=WS.init (h.mv hk.dD);have jT:=ha.gy;apply BE;unfold sY;have hs:=hS.s;repeat' first|refine aJ ?_;intros
  refine mm (fun (k:Value→World→XS→Prop)=> ∀w X gz,WS w0 vb w X lo wb gz (bs++encI xs.length)→k (I xs.length) w X) ?_ ?_
  ·intro w X gz bL;refine fR (fun n' a w X=> ∃(i:Nat) (rD:Value),a=I i∧n'=xs.length-i∧i≤xs.length∧WS w0 vb w X lo wb rD (bs++encI xs.length++((xs.take i).map Ag).flatten)) xs.length ⟨0,gz,rfl,rfl,aF _,by simpa using bL⟩ ?_;clear bL hS hs;rintro n' a w X ⟨i,rD,rfl,rfl,hi,hS⟩;have hs:=hS.s;rcases ew xs i with⟨dy,x,wW,hd⟩|⟨dV,hd⟩
   ·have gh:=zn (f:=Ag) wW;repeat' first|refine bD ?_;intros
    refine mm (fun (k:World→XS→Prop)=>k w X) ?_ ?_
    ·repeat' first|refine aJ ?_;intros
     refine CA ?_;refine hS.eu (PF (x:=x) hS.r (hc.mv hS.at) (Cells.mv (by assumption) hS.at) hS.z (by simp only [au];omega) (ah di hs.kp.size)) kQ fun kq w3 X3 dz qY=>?_;replace hs:=dz.s;repeat' first|refine aJ ?_;intros
     refine fh (xs.length-(i+1)) zQ ⟨i+1,kq,by simp,rfl,by omega,?_⟩;rw [nA wW,←aI];exact dz
    ·intro K hK;repeat' first|refine aJ ?_;intros|exact hK
   ·rw [bA dV] at hS;repeat' first|refine bD ?_;intros
    rw [aI] at hS;exact hS.fin
  ·intro K hK;repeat' first|refine aJ ?_;intros
   refine hS.eu (mn hS.r zQ di) kQ fun gz w2 X2 bL lH=>?_;replace hs:=bL.s
   skip
   exact hK _ _ _ bL
theorem PH {w:World} {X Z:XS} {lo wb cb xb xo:Nat} {vb vv:Value} {bs:List Nat} {x:jm} (h:Wr w X lo wb vb bs) (hc:Cells w Z cb 0 (jc wb)) (hx:Cells w Z xb xo (x.l vv)) (ha:Sl w Z 6 vv (x.l7.map j8.l)) (hZ:rq Z X wb vb) (fp:lo≤w.heap.size) (hb:bs.length+(CM x).length≤2^33):
  lM 195 #[ptr cb 0,ptr xb xo] w X lo wb vb bs (CM x):=by
 have e1:(CM x).length=(tR x.key).length+(j7 Ag x.l7).length:=by simp [CM]
 have e2:=CL x.key;replace ha:=fun {w1:World} (hk:Kp X w w1)=>ha.mv (hZ.mv hk);intro w0 hk;have di:lo≤w0.heap.size:=ah fp hk.size;replace hc:=hc.mv (hZ.mv hk);replace hx:=hx.mv (hZ.mv hk);have hS:=WS.init (h.mv hk.dD);apply Er;unfold vA;have hs:=hS.s;replace ha:=ha hk;have ov:=ha.one;repeat' first|refine aJ ?_;intros
 refine hS.eu (yr hS.r (hc.mv hS.at) (Cells.mv (by assumption) hS.at) hS.z zQ di zQ) kQ fun gz w X bL _=>?_;replace hs:=bL.s;repeat' first|refine aJ ?_;intros
 refine bL.eu (PG bL.r (hc.mv bL.at) (Cells.mv (by assumption) bL.at) (ha.mv bL.at) bL.z (ah di hs.kp.size) (by simp only [au];omega)) kQ fun kq w X dz _=>?_
 skip
 unfold CM;simp only [aI] at dz;exact dz.fin
theorem DV {w:World} {X Z:XS} {lo wb cb xb xo:Nat} {vb vr vw:Value} {bs:List Nat} {x:ey} (h:Wr w X lo wb vb bs) (hc:Cells w Z cb 0 (jc wb)) (hx:Cells w Z xb xo (x.l vr vw)) (h1:Sl w Z 1 vr (x.reads.map S1)) (h2:Sl w Z 4 vw (x.writes.map KV.l)) (hZ:rq Z X wb vb) (fp:lo≤w.heap.size) (hb:bs.length+(zm x).length≤2^33):
  lM 134 #[ptr cb 0,ptr xb xo] w X lo wb vb bs (zm x):=by
 have e1:(zm x).length=(Hc x.dK).length+((qd x.bF).length+((j7 tR x.reads).length+(j7 qy x.writes).length)):=by simp [zm]
 replace h1:=fun {w1:World} (hk:Kp X w w1)=>h1.mv (hZ.mv hk);replace h2:=fun {w1:World} (hk:Kp X w w1)=>h2.mv (hZ.mv hk);intro w0 hk;have di:lo≤w0.heap.size:=ah fp hk.size;replace hc:=hc.mv (hZ.mv hk);replace hx:=hx.mv (hZ.mv hk);have hS:=WS.init (h.mv hk.dD);apply En;unfold vx;have hs:=hS.s;replace h1:=h1 hk;replace h2:=h2 hk;have o1:=h1.one;have o2:=h2.one;repeat' first|refine aJ ?_;intros
 refine hS.eu (vD (s:=x.dK) hS.r (hc.mv hS.at) (Cells.mv (by assumption) hS.at) hS.z (by(try simp only [au]);omega) (ah di hs.kp.size)) kQ fun gz w X bL _=>?_;replace hs:=bL.s;repeat' first|refine aJ ?_;intros
 refine bL.eu (iA (s:=x.bF) bL.r (hc.mv bL.at) (Cells.mv (by assumption) bL.at) bL.z (by(try simp only [au]);omega) (ah di hs.kp.size)) kQ fun kq w X dz _=>?_;replace hs:=dz.s;repeat' first|refine aJ ?_;intros
 refine dz.eu (NM dz.r (hc.mv dz.at) (Cells.mv (by assumption) dz.at) (h1.mv dz.at) dz.z (ah di hs.kp.size) (by simp only [au];omega)) kQ fun PE w X fQ _=>?_;replace hs:=fQ.s;repeat' first|refine aJ ?_;intros
 refine fQ.eu (HQ fQ.r (hc.mv fQ.at) (Cells.mv (by assumption) fQ.at) (h2.mv fQ.at) fQ.z (ah di hs.kp.size) (by simp only [au];omega)) kQ fun WB w X mI _=>?_
 skip
 unfold zm;simp only [aI] at mI;exact mI.fin
theorem NN {w:World} {X Z:XS} {lo wb cb xb xo:Nat} {vb va:Value} {bs:List Nat} {xs:List jm} (h:Wr w X lo wb vb bs) (hc:Cells w Z cb 0 (jc wb)) (hx:Cells w Z xb xo [va]) (ha:nh w Z va xs) (hZ:rq Z X wb vb) (fp:lo≤w.heap.size) (hb:bs.length+(j7 CM xs).length≤2^33):
  lM 194 #[ptr cb 0,ptr xb xo,.func (.func 195) #[ptr cb 0] #[]] w X lo wb vb bs (j7 CM xs):=by
  intro w0 hk;have di:lo≤w0.heap.size:=ah fp hk.size;replace hc:=hc.mv (hZ.mv hk);replace hx:=hx.mv (hZ.mv hk);replace ha:=ha.mv (hZ.mv hk);have hS:=WS.init (h.mv hk.dD);have jT:=en.len ha;apply BC;unfold sW;have hs:=hS.s;repeat' first|refine aJ ?_;intros
  refine mm (fun (k:Value→World→XS→Prop)=> ∀w X gz,WS w0 vb w X lo wb gz (bs++encI xs.length)→k (I xs.length) w X) ?_ ?_
  ·intro w X gz bL;refine fR (fun n' a w X=> ∃(i:Nat) (rD:Value),a=I i∧n'=xs.length-i∧i≤xs.length∧WS w0 vb w X lo wb rD (bs++encI xs.length++((xs.take i).map CM).flatten)) xs.length ⟨0,gz,rfl,rfl,aF _,by simpa using bL⟩ ?_;clear bL hS hs;rintro n' a w X ⟨i,rD,rfl,rfl,hi,hS⟩;have hs:=hS.s;rcases ew xs i with⟨dy,x,wW,hd⟩|⟨dV,hd⟩
   ·have gh:=zn (f:=CM) wW;repeat' first|refine bD ?_;intros
    refine mm (fun (k:World→XS→Prop)=>k w X) ?_ ?_
    ·repeat' first|refine aJ ?_;intros|((with_reducible apply Pz);assumption;(try (case hz=>rfl));(case hr=>exact qR);(try (case hz=>omega));(case ht=>kernel_rfl);(case hs=>kernel_rfl);intros)
     refine CA ?_;refine hS.eu (PH (x:=x) hS.r (hc.mv hS.at) (Cells.mv (by assumption) hS.at) (Sl.mv (by assumption) hS.at) hS.z (ah di hs.kp.size) (by simp only [au];omega)) kQ fun kq w3 X3 dz qY=>?_;replace hs:=dz.s;repeat' first|refine aJ ?_;intros
     refine fh (xs.length-(i+1)) zQ ⟨i+1,kq,by simp,rfl,by omega,?_⟩;rw [nA wW,←aI];exact dz
    ·intro K hK;repeat' first|refine aJ ?_;intros|exact hK
   ·rw [bA dV] at hS;repeat' first|refine bD ?_;intros
    rw [aI] at hS;exact hS.fin
  ·intro K hK;repeat' first|refine aJ ?_;intros
   refine hS.eu (mn hS.r zQ di) kQ fun gz w2 X2 bL lH=>?_;replace hs:=bL.s
   skip
   exact hK _ _ _ bL
theorem NO {w:World} {X Z:XS} {lo wb cb xb xo:Nat} {vb va:Value} {bs:List Nat} {xs:List ey} (h:Wr w X lo wb vb bs) (hc:Cells w Z cb 0 (jc wb)) (hx:Cells w Z xb xo [va]) (ha:nf w Z va xs) (hZ:rq Z X wb vb) (fp:lo≤w.heap.size) (hb:bs.length+(j7 zm xs).length≤2^33):
  lM 196 #[ptr cb 0,ptr xb xo,.func (.func 134) #[ptr cb 0] #[]] w X lo wb vb bs (j7 zm xs):=by
  intro w0 hk;have di:lo≤w0.heap.size:=ah fp hk.size;replace hc:=hc.mv (hZ.mv hk);replace hx:=hx.mv (hZ.mv hk);replace ha:=ha.mv (hZ.mv hk);have hS:=WS.init (h.mv hk.dD);have jT:=en.len ha;apply BD;unfold sX;have hs:=hS.s;repeat' first|refine aJ ?_;intros
  refine mm (fun (k:Value→World→XS→Prop)=> ∀w X gz,WS w0 vb w X lo wb gz (bs++encI xs.length)→k (I xs.length) w X) ?_ ?_
  ·intro w X gz bL;refine fR (fun n' a w X=> ∃(i:Nat) (rD:Value),a=I i∧n'=xs.length-i∧i≤xs.length∧WS w0 vb w X lo wb rD (bs++encI xs.length++((xs.take i).map zm).flatten)) xs.length ⟨0,gz,rfl,rfl,aF _,by simpa using bL⟩ ?_;clear bL hS hs;rintro n' a w X ⟨i,rD,rfl,rfl,hi,hS⟩;have hs:=hS.s;rcases ew xs i with⟨dy,x,wW,hd⟩|⟨dV,hd⟩
   ·have gh:=zn (f:=zm) wW;repeat' first|refine bD ?_;intros
    refine mm (fun (k:World→XS→Prop)=>k w X) ?_ ?_
    ·repeat' first|refine aJ ?_;intros|((with_reducible apply TC);assumption;(try (case hz=>rfl));(case hr=>exact qR);(try (case hz=>omega));(case ht=>kernel_rfl);(case hs=>kernel_rfl);intros)
     refine CA ?_;refine hS.eu (DV (x:=x) hS.r (hc.mv hS.at) (Cells.mv (by assumption) hS.at) (Sl.mv (by assumption) hS.at) (Sl.mv (by assumption) hS.at) hS.z (ah di hs.kp.size) (by simp only [au];omega)) kQ fun kq w3 X3 dz qY=>?_;replace hs:=dz.s;repeat' first|refine aJ ?_;intros
     refine fh (xs.length-(i+1)) zQ ⟨i+1,kq,by simp,rfl,by omega,?_⟩;rw [nA wW,←aI];exact dz
    ·intro K hK;repeat' first|refine aJ ?_;intros|exact hK
   ·rw [bA dV] at hS;repeat' first|refine bD ?_;intros
    rw [aI] at hS;exact hS.fin
  ·intro K hK;repeat' first|refine aJ ?_;intros
   refine hS.eu (mn hS.r zQ di) kQ fun gz w2 X2 bL lH=>?_;replace hs:=bL.s
   skip
   exact hK _ _ _ bL
theorem Tj {w:World} {X Z:XS} {lo wb cb xb xo:Nat} {vb vh vp:Value} {bs:List Nat} {x:State} (h:Wr w X lo wb vb bs) (hc:Cells w Z cb 0 (jc wb)) (hx:Cells w Z xb xo (x.l vh vp)) (h1:nh w Z vh x.fV) (h2:nf w Z vp x.fB) (hZ:rq Z X wb vb) (fp:lo≤w.heap.size) (hb:bs.length+(encS x).length≤2^33):
  lM 133 #[ptr cb 0,ptr xb xo] w X lo wb vb bs (encS x):=by
 have e1:(encS x).length=(TD x.range).length+((qd x.floor).length+((qd x.closed).length+((j7 CM x.fV).length+(j7 zm x.fB).length))):=by simp [encS]
 replace h1:=fun {w1:World} (hk:Kp X w w1)=>nh.mv h1 (hZ.mv hk);replace h2:=fun {w1:World} (hk:Kp X w w1)=>nf.mv h2 (hZ.mv hk);intro w0 hk;have di:lo≤w0.heap.size:=ah fp hk.size;replace hc:=hc.mv (hZ.mv hk);replace hx:=hx.mv (hZ.mv hk);have hS:=WS.init (h.mv hk.dD);apply GO;unfold yc;have hs:=hS.s;replace h1:=h1 hk;replace h2:=h2 hk;have o1:=h1.one;have o2:=h2.one;repeat' first|refine aJ ?_;intros
 refine hS.eu (Th (r:=x.range) hS.r (hc.mv hS.at) (Cells.mv (by assumption) hS.at) hS.z (by(try simp only [au]);omega) (ah di hs.kp.size)) kQ fun gz w X bL _=>?_;replace hs:=bL.s;repeat' first|refine aJ ?_;intros
 refine bL.eu (iA (s:=x.floor) bL.r (hc.mv bL.at) (Cells.mv (by assumption) bL.at) bL.z (by(try simp only [au]);omega) (ah di hs.kp.size)) kQ fun kq w X dz _=>?_;replace hs:=dz.s;repeat' first|refine aJ ?_;intros
 refine dz.eu (iA (s:=x.closed) dz.r (hc.mv dz.at) (Cells.mv (by assumption) dz.at) dz.z (by(try simp only [au]);omega) (ah di hs.kp.size)) kQ fun PE w X fQ _=>?_;replace hs:=fQ.s;repeat' first|refine aJ ?_;intros
 refine fQ.eu (NN fQ.r (hc.mv fQ.at) (Cells.mv (by assumption) fQ.at) (h1.mv fQ.at) fQ.z (ah di hs.kp.size) (by simp only [au];omega)) kQ fun WB w X mI _=>?_;replace hs:=mI.s;repeat' first|refine aJ ?_;intros
 refine mI.eu (NO mI.r (hc.mv mI.at) (Cells.mv (by assumption) mI.at) (h2.mv mI.at) mI.z (ah di hs.kp.size) (by simp only [au];omega)) kQ fun vb6 w X Sq _=>?_
 skip
 unfold encS;simp only [aI] at Sq;exact Sq.fin
def kA (r:Rec):List Nat:=encI r.kind++(
 if r.kind=1 then encS r.state
 else if r.kind=2∨r.kind=7∨r.kind=8 then encI r.n
 else if r.kind=3 then zm ⟨r.dK,r.bF,r.reads,r.writes⟩++j7 encI r.parts
 else if r.kind=4 then Hc r.dK++(aeP r.kM++qd r.bF)
 else if r.kind=5 then qd r.bF
 else if r.kind=6 then Hb r.vF++(encI r.n++qd r.bF)
 else if r.kind=9 then Hc r.dK++(qd r.bF++j7 encI r.parts)
 else if r.kind=10 then Hc r.dK
 else if r.kind=11 then qd r.prev++(qd r.bF++(Hc r.dK++j7 qy r.writes))
 else if r.kind=12 then qd r.bF++j7 qy r.xm
 else [])
theorem Hd {P:Program} {R:Ending→World→Prop} {X:XS} {w:World} {t sz b o o':Nat} {cs:List Value} {ty:TypeId} {v:Value} {N:Value→World→XS→Prop} (h:a7 w X b cs ty) (Vy:o'=o) (ht:(P.info? t).map (·.size)=some sz)
  (hl:o+sz≤cs.length) (hv:v.cells.size=sz) (h1:v.cells.toList.all aV.one=true) (hX: ∀k,X k→k<w.heap.size) (he:dg cs o v.cells.toList=cs)
  (n: ∀w' X',aj X w X' w'→N undef w' X'):eU P R X w true (st1 t sz (ptr b o') v) N:=by
 refine FO h Vy ht hl hv h1 hX fun w' X' c hr=>n w' X' ⟨⟨c.os,c.tape,c.output,c.size,fun k hk=>?_⟩,c.sub,c.has⟩;by_cases e:k=b
 ·subst e;rw [h.2,hr.2,he]
 ·exact c.block k hk e
theorem WS.amg {w0 w w':World} {X X':XS} {lo wb b:Nat} {oD vb:Value} {bs:List Nat} {cs:List Value} {ty:TypeId} (hS:WS w0 oD w X lo wb vb bs) (hr:a7 w X b cs ty) (hb:w0.heap.size≤b)
  (h1:decide (350≠ty)=true) (h2:decide (5≠ty)=true) (c:ez (fun k=>k=b) X w X' w'):WS w0 oD w' X' lo wb vb bs:=by
 have du:wb≠b:=hS.r.box.eA hr h1;refine⟨hS.s.fM c fun q h0 hq=>?_,⟨⟨c.sub _ hS.r.box.1,by rw [c.block _ hS.r.box.1 fun e=>du e];exact hS.r.box.2⟩,Own.fM hS.r.ow c fun g hg e=>Own.eA hS.r.ow hr h2 (by rw [hg,e])⟩,hS.v⟩;have:=h0.1;have hq:q=b:=hq;omega
theorem _root_.Go.aV.a7.fM {F X X':XS} {w w':World} {b:Nat} {cs:List Value} {ty:TypeId} (h:a7 w X b cs ty) (c:ez F X w X' w') (hn: ¬F b):a7 w' X' b cs ty:=⟨c.sub _ h.1,by rw [c.block _ h.1 hn];exact h.2⟩
theorem XY {w:World} {X Z:XS} {lo wb cb xb:Nat} {vb:Value} {bs:List Nat} {r:Rec} {vr vw vp vq vh vd:Value} (h:Wr w X lo wb vb bs) (hc:Cells w Z cb 0 (jc wb)) (hx:a7 w Z xb (r.l vr vw vp vq vh vd) 99) (ef:r.at w Z vr vw vp vq vh vd) (hZ:rq Z X wb vb) (fp:lo≤w.heap.size)
  (hb:bs.length+(kA r).length≤2^33):lM 78 #[ptr cb 0,ptr xb 0] w X lo wb vb bs (kA r):=by
 intro w0 hk;have di:lo≤w0.heap.size:=ah fp hk.size;replace hc:=hc.mv (hZ.mv hk);replace hx:=hx.mv (hZ.mv hk);replace ef:=ef.mv (hZ.mv hk);obtain⟨a1,a2,a3,a4,a5,a6⟩:=ef;obtain⟨p1,n1,c1,rfl⟩:=a1.form;obtain⟨p2,n2,c2,rfl⟩:=a2.form;have o1:=a1.one;have o2:=a2.one;have o3:=a3.one;have o4:=a4.one;have o5:=a5.one;have o6:=a6.one;have bJ:=hx;replace hx:=hx.cells;have hS:=WS.init (h.mv hk.dD);have e1:=iY r.kind;obtain⟨E,hE⟩: ∃E,E=kA r:=⟨_,rfl⟩;rw [←hE] at hb⊢;unfold kA at hE;have hEl:(encI r.kind).length≤E.length:=by rw [hE,au];omega
 apply VW;unfold JV;have hs:=hS.s;repeat' first|refine aJ ?_;intros
 refine hS.eu (ib hS.r (hc.mv hS.at) (Cells.mv (by assumption) hS.at) hS.z zQ (ah di hs.kp.size)) kQ fun gz w X bL _=>?_;replace hs:=bL.s;repeat' first|refine aJ ?_;intros
 refine mm (fun (k:World→XS→Prop)=> ∀w X kq,WS w0 vb w X lo wb kq (bs++E)→k w X) (fun w X kq dz=>dz.fin) fun K hK=>?_;repeat' first|refine aJ ?_;intros|refine dM ?_ ?_<;>intros|with_reducible apply dx
 all_goals (repeat (first|rw [if_pos zQ] at hE|rw [if_neg zQ] at hE))
 all_goals (have hEb:=congrArg List.length hE;simp only [au] at hEb)
 ·refine bL.eu (Tj (x:=r.state) bL.r (hc.mv bL.at) (Cells.mv (by assumption) bL.at) (a5.mv bL.at) (a6.mv bL.at) bL.z (ah di hs.kp.size) (by simp only [au];omega)) kQ fun kq w X dz _=>?_;have h9:=dz;rw [hE] at hK
  (try simp only [aI] at h9 hK)
  exact hK _ _ _ h9
 ·refine bL.eu (ib bL.r (hc.mv bL.at) (Cells.mv (by assumption) bL.at) bL.z (by simp only [au];omega) (ah di hs.kp.size)) kQ fun kq w X dz _=>?_;have h9:=dz;rw [hE] at hK
  (try simp only [aI] at h9 hK)
  exact hK _ _ _ h9
 ·refine bL.eu (ib bL.r (hc.mv bL.at) (Cells.mv (by assumption) bL.at) bL.z (by simp only [au];omega) (ah di hs.kp.size)) kQ fun kq w X dz _=>?_;have h9:=dz;rw [hE] at hK
  (try simp only [aI] at h9 hK)
  exact hK _ _ _ h9
 ·refine bL.eu (ib bL.r (hc.mv bL.at) (Cells.mv (by assumption) bL.at) bL.z (by simp only [au];omega) (ah di hs.kp.size)) kQ fun kq w X dz _=>?_;have h9:=dz;rw [hE] at hK
  (try simp only [aI] at h9 hK)
  exact hK _ _ _ h9
 ·have e2:(zm ⟨r.dK,r.bF,r.reads,r.writes⟩).length≤E.length:=by omega
  refine Qo (l:=[I 0,I 0,I 0,I 0,I 0,I 0,.slice none 0 0,.slice none 0 0]) hs.has kQ fun pb w3 X3 JE ea afy=>?_;have dz:=bL.since ea;refine FO (o:=0) afy rfl kQ (by simp) rfl rfl ea.has fun w4 X4 c4 vJ=>?_;replace vJ:a7 w4 X4 pb ((⟨r.dK,r.bF,r.reads,r.writes⟩:ey).l (.slice p1 n1 c1) (.slice p2 n2 c2)) 266:=vJ;have amh:w0.heap.size≤pb:=ah hs.kp.size JE;have fQ:=dz.amg afy amh kQ kQ c4;have hnf: ¬Bf wb gz pb:=fun hf=>hf.elim (fun e=>fQ.r.box.eA vJ kQ e.symm) fun e=>Own.eA fQ.r.ow vJ kQ e;obtain⟨Z',hZ'⟩: ∃Z':XS,Z'=fun k=>k=pb∨out (Bf wb vb) w0 k:=⟨_,rfl⟩;have mv4:Mv (out (Bf wb vb) w0) w0 Z' w4:=fun k af _=>⟨by rw [hZ'];exact .inr af,fQ.s.kp.block k af⟩;have lW:rq Z' X4 wb gz:=fun k af=>by
   rw [hZ'] at af;rcases af with rfl|af
   ·exact⟨vJ.1,hnf⟩
   ·exact fQ.z k af
  refine fQ.eu (DV (x:=⟨r.dK,r.bF,r.reads,r.writes⟩) fQ.r (hc.mv mv4) (a7.cells (X:=Z') (ty:=266) ⟨by rw [hZ'];exact .inl rfl,vJ.2⟩) (a1.mv mv4) (a2.mv mv4) lW (ah di fQ.s.kp.size) (by simp only [au];omega)) kQ fun WB w5 X5 mI c5=>?_;have Bp:=vJ.fM c5 hnf;clear hs;have hs:=mI.s;repeat' first|refine aJ ?_;intros
  refine Hd (o:=1) (bJ.mv mI.s.mv) zQ kQ (by simp) rfl rfl mI.s.has (by rfl) fun w6 X6 zL=>?_;have Sq:=mI.since zL;repeat' first|refine aJ ?_;intros
  refine Hd (o:=4) (bJ.mv Sq.s.mv) zQ kQ (by simp) rfl rfl Sq.s.has (by rfl) fun w7 X7 gG=>?_;have hS7:=Sq.since gG;repeat' first|refine aJ ?_;intros
  refine Hd (o:=13) (bJ.mv hS7.s.mv) zQ kQ (by simp) rfl rfl hS7.s.has (by rfl) fun w8 X8 mh=>?_;have hS8:=hS7.since mh;repeat' first|refine aJ ?_;intros
  refine Hd (o:=14) (bJ.mv hS8.s.mv) zQ kQ (by simp) rfl rfl hS8.s.has (by rfl) fun w9 X9 xz=>?_;have WC:=hS8.since xz;clear hs;have hs:=WC.s;repeat' first|refine aJ ?_;intros
  refine WC.eu (DU WC.r (hc.mv WC.at) (Cells.mv (by assumption) WC.at) (a3.mv WC.at) WC.z (ah di hs.kp.size) (by simp only [au];omega)) kQ fun anb w X ami _=>?_;have h9:=ami;rw [hE] at hK
  (try simp only [aI] at h9 hK)
  exact hK _ _ _ h9
 ·refine bL.eu (vD (s:=r.dK) bL.r (hc.mv bL.at) (Cells.mv (by assumption) bL.at) bL.z (by(try simp only [au]);omega) (ah di hs.kp.size)) kQ fun kq w X dz _=>?_;replace hs:=dz.s;repeat' first|refine aJ ?_;intros
  refine dz.eu (Wz (b:=r.kM) dz.r (hc.mv dz.at) (Cells.mv (by assumption) dz.at) dz.z (by(try simp only [au]);omega) (ah di hs.kp.size)) kQ fun PE w X fQ _=>?_;replace hs:=fQ.s;repeat' first|refine aJ ?_;intros
  refine fQ.eu (iA (s:=r.bF) fQ.r (hc.mv fQ.at) (Cells.mv (by assumption) fQ.at) fQ.z (by(try simp only [au]);omega) (ah di hs.kp.size)) kQ fun WB w X mI _=>?_;replace hs:=mI.s
  skip
  have h9:=mI;rw [hE] at hK
  (try simp only [aI] at h9 hK)
  exact hK _ _ _ h9
 ·refine bL.eu (iA (s:=r.bF) bL.r (hc.mv bL.at) (Cells.mv (by assumption) bL.at) bL.z (by(try simp only [au]);omega) (ah di hs.kp.size)) kQ fun kq w X dz _=>?_;replace hs:=dz.s
  skip
  have h9:=dz;rw [hE] at hK
  (try simp only [aI] at h9 hK)
  exact hK _ _ _ h9
 ·refine bL.eu (AA bL.r (hc.mv bL.at) (Cells.mv (by assumption) bL.at) bL.z (by(try simp only [au]);omega) (ah di hs.kp.size)) kQ fun kq w X dz _=>?_;replace hs:=dz.s;repeat' first|refine aJ ?_;intros
  refine dz.eu (ib dz.r (hc.mv dz.at) (Cells.mv (by assumption) dz.at) dz.z (by(try simp only [au]);omega) (ah di hs.kp.size)) kQ fun PE w X fQ _=>?_;replace hs:=fQ.s;repeat' first|refine aJ ?_;intros
  refine fQ.eu (iA (s:=r.bF) fQ.r (hc.mv fQ.at) (Cells.mv (by assumption) fQ.at) fQ.z (by(try simp only [au]);omega) (ah di hs.kp.size)) kQ fun WB w X mI _=>?_;replace hs:=mI.s
  skip
  have h9:=mI;rw [hE] at hK
  (try simp only [aI] at h9 hK)
  exact hK _ _ _ h9
 ·refine bL.eu (vD (s:=r.dK) bL.r (hc.mv bL.at) (Cells.mv (by assumption) bL.at) bL.z (by(try simp only [au]);omega) (ah di hs.kp.size)) kQ fun kq w X dz _=>?_;replace hs:=dz.s;repeat' first|refine aJ ?_;intros
  refine dz.eu (iA (s:=r.bF) dz.r (hc.mv dz.at) (Cells.mv (by assumption) dz.at) dz.z (by(try simp only [au]);omega) (ah di hs.kp.size)) kQ fun PE w X fQ _=>?_;replace hs:=fQ.s;repeat' first|refine aJ ?_;intros
  refine fQ.eu (DU fQ.r (hc.mv fQ.at) (Cells.mv (by assumption) fQ.at) (a3.mv fQ.at) fQ.z (ah di hs.kp.size) (by simp only [au];omega)) kQ fun WB w X mI _=>?_;have h9:=mI;rw [hE] at hK
  (try simp only [aI] at h9 hK)
  exact hK _ _ _ h9
 ·refine bL.eu (vD (s:=r.dK) bL.r (hc.mv bL.at) (Cells.mv (by assumption) bL.at) bL.z (by(try simp only [au]);omega) (ah di hs.kp.size)) kQ fun kq w X dz _=>?_;replace hs:=dz.s
  skip
  have h9:=dz;rw [hE] at hK
  (try simp only [aI] at h9 hK)
  exact hK _ _ _ h9
 ·refine bL.eu (iA (s:=r.prev) bL.r (hc.mv bL.at) (Cells.mv (by assumption) bL.at) bL.z (by(try simp only [au]);omega) (ah di hs.kp.size)) kQ fun kq w X dz _=>?_;replace hs:=dz.s;repeat' first|refine aJ ?_;intros
  refine dz.eu (iA (s:=r.bF) dz.r (hc.mv dz.at) (Cells.mv (by assumption) dz.at) dz.z (by(try simp only [au]);omega) (ah di hs.kp.size)) kQ fun PE w X fQ _=>?_;replace hs:=fQ.s;repeat' first|refine aJ ?_;intros
  refine fQ.eu (vD (s:=r.dK) fQ.r (hc.mv fQ.at) (Cells.mv (by assumption) fQ.at) fQ.z (by(try simp only [au]);omega) (ah di hs.kp.size)) kQ fun WB w X mI _=>?_;replace hs:=mI.s;repeat' first|refine aJ ?_;intros
  refine mI.eu (HQ mI.r (hc.mv mI.at) (Cells.mv (by assumption) mI.at) (a2.mv mI.at) mI.z (ah di hs.kp.size) (by simp only [au];omega)) kQ fun vb6 w X Sq _=>?_;have h9:=Sq;rw [hE] at hK
  (try simp only [aI] at h9 hK)
  exact hK _ _ _ h9
 ·refine bL.eu (iA (s:=r.bF) bL.r (hc.mv bL.at) (Cells.mv (by assumption) bL.at) bL.z (by(try simp only [au]);omega) (ah di hs.kp.size)) kQ fun kq w X dz _=>?_;replace hs:=dz.s;repeat' first|refine aJ ?_;intros
  refine dz.eu (Ti dz.r (hc.mv dz.at) (Cells.mv (by assumption) dz.at) (a4.mv dz.at) dz.z (ah di hs.kp.size) (by simp only [au];omega)) kQ fun PE w X fQ _=>?_;have h9:=fQ;rw [hE] at hK
  (try simp only [aI] at h9 hK)
  exact hK _ _ _ h9
 ·rw [lY] at hE;have h9:=bL;rw [hE] at hK
  (try simp only [aI] at h9 hK)
  exact hK _ _ _ h9
def Rec.gD (r:Rec):Int:=if r.err≠0 then r.err else if 262144<(kA r).length then 2 else 0
theorem Hz {w:World} {X:XS} {r:Rec} {vr vw vp vq vh vd:Value} (h:r.at w X vr vw vp vq vh vd) (mX:r.small) (mg:r.err=0→(kA r).length≤2^33):
  Ct pg 80 #[r.v vr vw vp vq vh vd] w X nX fun v wa w'=>if r.gD≠0 then v= .tuple #[.slice none 0 0,I r.gD] else∃vb,v= .tuple #[vb,I 0]∧Own w' (made wa w') wa.heap.size 5 1 vb ((kA r).map U1):=by
 intro w0 hk;replace h:=h.mv hk.dD;have o1:=h.1.one;have o2:=h.2.1.one;have o3:=h.2.2.1.one;have o4:=h.2.2.2.1.one;have o5:=h.2.2.2.2.1.one;have o6:=h.2.2.2.2.2.one;apply QH;unfold Fe;have hs:=aj.init w0;repeat' first|refine aJ ?_;intros|refine dM ?_ ?_<;>intros|(with_reducible apply nY);(case hX=>exact hs.has);intro bx w X gh ao bJ;have bS:=hs.trans ao;replace hs:=aj.ct ao.has|(refine gC (aaR (r:=r) (h.mv (bS.trans hs).mv) mX) kQ hs.has fun w X ao=>?_;replace hs:=hs.trans ao)
 ·have e:r.gD=r.err:=if_pos (by assumption);exact av (bS.trans hs) fun wa hk=>by dsimp only;rw [e,if_pos (by assumption)]
 ·have Dy:r.err=0:=by assumption
  have k3:=mg Dy;refine dp NL kQ hs.has ?_;rintro v wa w2 X2 ⟨wb,rfl,hW⟩ hle fP bU;have IG:=bS.trans (hs.trans bU);have rS:=bJ.lt;have UQ:=hs.kp.size;have LX:=bS.kp.size;have hwb:=hW.box.1;have Dv:=bJ.since (hs.trans bU);refine aax kQ ?_;refine nY IG.has fun cb w3 X3 RU ea afz=>?_;have Ym:=IG.trans ea;have Dt:=Dv.since ea;obtain⟨Z,hZd⟩: ∃Z:XS,Z=fun k=>k=bx∨k=cb∨aR w0 k:=⟨_,rfl⟩;have anc:wa.heap.size≤wb∧wb<w2.heap.size:=hwb;have hZ:rq Z X3 wb (.slice none 0 0):=fun k af=>by
   rw [hZd] at af;refine⟨?_,fun hf=>?_⟩
   ·rcases af with rfl|rfl|af
    ·exact Dt.1
    ·exact afz.1
    ·exact Ym.sub k af
   ·rcases hf with hf|hf
    ·rcases af with e|e|e
     ·omega
     ·omega
     ·have:k<w0.heap.size:=e;omega
    ·cases hf
  have hcC:Cells w3 Z cb 0 (jc wb):=a7.cells (ty:=190) ⟨by rw [hZd];exact .inr (.inl rfl),afz.2⟩;have hxC:a7 w3 Z bx (r.l vr vw vp vq vh vd) 99:=⟨by rw [hZd];exact .inl rfl,Dt.2⟩;have haC:r.at w3 Z vr vw vp vq vh vd:=h.mv fun k af hl=>⟨by rw [hZd];exact .inr (.inr af),Ym.kp.block k af⟩;have OX:Wr w3 X3 wa.heap.size wb (.slice none 0 0) []:=(hW.mv (Mv.sub fP)).mv ea.mv;refine aeI (XY OX hcC hxC haC hZ (by have:=ea.kp.size;omega) (by simpa using k3)) kQ Ym.has (fun q hq=>by
   rcases hq with rfl|hq
   ·exact OX.box.1
   ·cases hq) fun v mu w4 X4 hq qg lI ane EK=>?_
  obtain⟨rfl,KD,hW4⟩:=hq;have fq:=Ym.fM EK fun k af hf=>by
   have h0:k<w0.heap.size:=af;rcases hf with hf|hf
   ·omega
   ·cases hf
  have hW5:Wr w4 X4 wa.heap.size wb KD (kA r):=hW4.mv (Mv.sub fun k af=>by
   rcases af with(af|af)|af
   ·rw [af];exact EK.sub _ OX.box.1
   ·cases af
   ·exact lI k af)
  refine dp (Wx hW5 zQ) kQ fq.has ?_;rintro v5 Ys w5 X5 jU P8 Jb ti;have hsC:=fq.trans ti;have ho:Own w5 X5 w0.heap.size 5 1 v5 ((kA r).map U1):=jU.up Jb (by have:=fq.kp.size;omega);clear hs bS;have hs:=hsC;have ov:=ho.sl.one;have hl:(List.map U1 (kA r)).length=(kA r).length:=aH _;repeat' first|refine aJ ?_;intros|refine dM ?_ ?_<;>intros
  ·have e:r.gD=2:=by unfold Rec.gD;rw [if_neg zQ,if_pos zQ]
   exact av hs fun wb bk=>by dsimp only;rw [e,if_pos zQ]
  ·have e:r.gD=0:=by unfold Rec.gD;rw [if_neg zQ,if_neg zQ]
   exact av hs fun wb bk=>by
    dsimp only;rw [e,if_neg zQ];exact⟨v5,rfl,(ho.kp bk).tight⟩
def PI (n:Int):Bool:=(decide (n≥1)&&decide (n≤12))||(decide (n>20)&&decide (n≤22))||decide (n=31)||decide (n=32)
theorem AB (n:Int):Pure pg 173 #[I n] (B (decide (n≥1)&&decide (n≤12))):=by
 intro w;apply QK;unfold Fh;have hs:=aj.init w;repeat' first|refine aJ ?_;intros|refine dM ?_ ?_<;>intros|(with_reducible refine eD hs ?_);simp_all<;>omega
theorem XZ (n:Int):Pure pg 112 #[I n] (B (PI n)):=by
 intro w;apply VZ;unfold JZ;have hs:=aj.init w;repeat' first|refine aJ ?_;intros|refine dM ?_ ?_<;>intros|((with_reducible refine dJ (AB _) ?_ hs.has ?_ ?_);(· kernel_rfl);all_goals (intro _ w X ao;replace hs:=hs.trans ao))|(with_reducible refine eD hs ?_);simp_all [PI]<;>omega
@[ext] structure jy where
 key:BA
 val:fS
 bF:cw
 deriving DecidableEq
abbrev jy.l (x:jy):List Value:=[.string x.key,I x.val.kind,.float .f64 x.val.num,.string x.val.text,I x.bF.wall,I x.bF.ep,I x.bF.node]
@[ext] structure dF where
 kind:Int
 fr:Int
 to:Int
 dK:dc
 range:Int
 gx:Int
 code:Int
 bF:cw
 prev:cw
 kM:Bool
 n:Int
 mx:Int
 keys:List BA
 seen:List jy
 writes:List KV
 parts:List Int
 ranges:List dq
 gd:List Rec
 state:State
 deriving DecidableEq
abbrev dF.l (m:dF) (vk vs vw vp vr vc vh vd:Value):List Value:=[I m.kind,I m.fr,I m.to,I m.dK.gM,I m.dK.ga,I m.dK.sq,I m.range,I m.gx,I m.code,
 I m.bF.wall,I m.bF.ep,I m.bF.node,I m.prev.wall,I m.prev.ep,I m.prev.node,B m.kM,I m.n,I m.mx,vk,vs,vw,vp,vr,vc,
 I m.state.range.id,I m.state.range.gx,.float .f64 m.state.range.lo,.float .f64 m.state.range.hi,
 I m.state.floor.wall,I m.state.floor.ep,I m.state.floor.node,I m.state.closed.wall,I m.state.closed.ep,I m.state.closed.node,vh,vd]
abbrev dF.v (m:dF) (vk vs vw vp vr vc vh vd:Value):Value:=.agg #[I m.kind,I m.fr,I m.to,I m.dK.gM,I m.dK.ga,I m.dK.sq,I m.range,I m.gx,I m.code,
 I m.bF.wall,I m.bF.ep,I m.bF.node,I m.prev.wall,I m.prev.ep,I m.prev.node,B m.kM,I m.n,I m.mx,vk,vs,vw,vp,vr,vc,
 I m.state.range.id,I m.state.range.gx,.float .f64 m.state.range.lo,.float .f64 m.state.range.hi,
 I m.state.floor.wall,I m.state.floor.ep,I m.state.floor.node,I m.state.closed.wall,I m.state.closed.ep,I m.state.closed.node,vh,vd]
structure dF.at (w:World) (X:XS) (m:dF) (vk vs vw vp vr vc vh vd:Value):Prop where
 keys:Sl w X 1 vk (m.keys.map S1)
 seen:Sl w X 7 vs (m.seen.map jy.l)
 writes:Sl w X 4 vw (m.writes.map KV.l)
 parts:Sl w X 1 vp (m.parts.map I1)
 ranges:Sl w X 4 vr (m.ranges.map dq.l)
 gd:en w X 29 vc Rec.rd m.gd
 fV:nh w X vh m.state.fV
 fB:nf w X vd m.state.fB
theorem dF.at.mv {w w':World} {X Y:XS} {m:dF} {vk vs vw vp vr vc vh vd:Value} (h:m.at w X vk vs vw vp vr vc vh vd) (v:Mv X w Y w'):m.at w' Y vk vs vw vp vr vc vh vd:=
 ⟨h.keys.mv v,h.seen.mv v,h.writes.mv v,h.parts.mv v,h.ranges.mv v,en.mv h.gd Rec.mv v,en.mv h.fV jm.mv v,en.mv h.fB ey.mv v⟩
def dF.rd (w:World) (X:XS) (l:List Value) (m:dF):Prop:= ∃vk vs vw vp vr vc vh vd,l=m.l vk vs vw vp vr vc vh vd∧m.at w X vk vs vw vp vr vc vh vd
theorem dF.mv:Dc dF.rd:=fun ⟨vk,vs,vw,vp,vr,vc,vh,vd,h,h1⟩ m=>⟨vk,vs,vw,vp,vr,vc,vh,vd,h,h1.mv m⟩
theorem Et {w:World} {X:XS} {a:Value} {xs:List BA} (ha:Sl w X 1 a (xs.map S1)):
  Ct pg 245 #[a] w X nX fun v _ _=>v=B (ud xs):=by
 intro w0 hk;replace ha:=ha.mv hk.dD;have jT:=ha.gy;apply We;unfold Kg;have hs:=aj.init w0;repeat' first|refine aJ ?_;intros
 refine fR (fun n a w X=> ∃i:Nat,a=I (i:Nat)∧n=(xs).length-i∧i≤(xs).length∧aj (aR w0) w0 X w∧chain gn uP none xs=chain gn uP (pt xs i) (xs.drop i)) (xs).length ⟨0,rfl,rfl,aF _,hs,by simp [pt]⟩ ?_;rintro n a w X ⟨i,rfl,rfl,hi,hs,hw⟩;rcases ew (xs) i with⟨dy,x,hx,hd⟩|⟨dV,hd⟩
 ·rcases KU dy with⟨h0,hp⟩|⟨h0,y,hy,hp⟩<;>rw [hp,hd,chain] at hw<;>clear hd
  ·repeat' first|refine bD ?_;intros|((with_reducible refine dJ (jd _) ?_ hs.has ?_ ?_);(· kernel_rfl);all_goals (intro _ w X ao;replace hs:=hs.trans ao))|((first|(with_reducible refine av hs ?_)|(with_reducible refine av (bS.trans hs) ?_));intro wa hk;simp_all [ud,rising,chain])|((with_reducible refine fh ((xs).length-(i+1)) ?_ ?_);omega;exact⟨i+1,by simp,rfl,by omega,hs,by rw [hw,nI hx];simp [*]⟩)
  ·repeat' first|refine bD ?_;intros|refine dM ?_ ?_<;>intros|((with_reducible refine dJ (jd _) ?_ hs.has ?_ ?_);(· kernel_rfl);all_goals (intro _ w X ao;replace hs:=hs.trans ao))|((first|(with_reducible refine av hs ?_)|(with_reducible refine av (bS.trans hs) ?_));intro wa hk;simp_all [ud,rising,chain])|((with_reducible refine fh ((xs).length-(i+1)) ?_ ?_);omega;exact⟨i+1,by simp,rfl,by omega,hs,by rw [hw,nI hx];simp [*]⟩)
 ·repeat' first|refine bD ?_;intros|refine dM ?_ ?_<;>intros|((first|(with_reducible refine av hs ?_)|(with_reducible refine av (bS.trans hs) ?_));intro wa hk;simp_all [ud,rising,chain]<;>omega)
def jy.may (x:jy):Bool:=x.bF.may&&x.val.may&&!(decide (x.bF= .zero)&&decide (x.val.kind≠0))
def Fz (l:List jy):Bool:=l.all jy.may&&ud (l.map (·.key))
theorem Ya {w:World} {X:XS} {a:Value} {xs:List jy} (ha:Sl w X 7 a (xs.map jy.l)) (hb:xs.length≤2^40):
  Ct pg 247 #[a] w X nX fun v _ _=>v=B (Fz xs):=by
 intro w0 hk;replace ha:=ha.mv hk.dD;have jT:=ha.gy;apply Wg;unfold Ki;have hs:=aj.init w0;repeat' first|refine aJ ?_;intros
 refine fN (fun n a b w X=> ∃i:Nat,a=I i∧n=xs.length-i∧i≤xs.length∧aj (aR w0) w0 X w∧Own w X w0.heap.size 9 1 b (((xs.take i).map (·.key)).map S1)∧xs.all jy.may=(xs.drop i).all jy.may) xs.length ⟨0,rfl,rfl,aF _,hs,Own.nil _ _ _ _ _,by simp⟩ ?_;rintro n a b w X ⟨i,rfl,rfl,hi,hs,ho,hw⟩;rcases ew (xs) i with⟨dy,x,hx,hd⟩|⟨dV,hd⟩
 ·rw [hd,iD] at hw;have Dy: ∀q:Bool,q=false→x.may=q→Fz xs=false:=fun q hq h=>by simp [Fz,hw,h,hq]
  repeat' first|refine bD ?_;intros|refine dM ?_ ?_<;>intros|(with_reducible refine CH _ ?_ ?_ ?_);(· kernel_rfl);all_goals intros|((with_reducible apply Ql);(case own=>first|assumption|exact Own.since (by assumption) (by assumption));(case hs=>assumption);(case h0=>first|exact fun _ h=>h|exact bS.has);(case he=>kernel_rfl);(case hk=>rfl);(case ho=>first|rfl|assumption);(case hb=>(simp only [aH,bW,au,bh,bI];omega));(case hl=>(simp only [aH,bW,au,bh,bI];omega));intro acc w X ao ho hc ef;replace hs:=ao)|with_reducible apply dx|((with_reducible refine dJ (mw _) ?_ hs.has ?_ ?_);(· kernel_rfl);all_goals (intro _ w X ao;replace hs:=hs.trans ao))|((with_reducible refine dJ (kE _) ?_ hs.has ?_ ?_);(· kernel_rfl);all_goals (intro _ w X ao;replace hs:=hs.trans ao))|((first|(with_reducible refine av hs ?_)|(with_reducible refine av (bS.trans hs) ?_));intro wa hk;(exact(congrArg B (Dy false rfl (by clear Dy;grind [jy.may]))).symm))|((with_reducible refine fJ ((xs).length-(i+1)) ?_ ?_);omega;exact⟨i+1,by simp,rfl,by omega,hs,by rw [cC,hx];simp only [fj,bC,bV,List.map_nil];(first|exact Own.since ho (by assumption)|exact Own.since (Own.since ho (by assumption)) (by assumption)),by rw [hw];clear Dy;grind [jy.may]⟩)
 ·rw [hd] at hw;rw [bA dV] at ho;repeat' first|refine bD ?_;intros|((first|(with_reducible refine av hs ?_)|(with_reducible refine av (bS.trans hs) ?_));intro wa hk;(rename_i h;simp [Fz,hw,h]))|(refine fT (Et  (Own.sl ho)) kQ hs.has ?_ ?_<;>(intro _ w X ao;replace hs:=hs.trans ao))
theorem Q5 {w:World} {X:XS} {a:Value} {xs:List KV} (ha:Sl w X 4 a (xs.map KV.l)) (hb:xs.length≤2^40):
  Ct pg 248 #[a] w X nX fun v _ _=>v=B (Kv xs):=by
 intro w0 hk;replace ha:=ha.mv hk.dD;have jT:=ha.gy;apply Pw;unfold DQ;have hs:=aj.init w0;repeat' first|refine aJ ?_;intros
 refine fN (fun n a b w X=> ∃i:Nat,a=I i∧n=xs.length-i∧i≤xs.length∧aj (aR w0) w0 X w∧Own w X w0.heap.size 9 1 b (((xs.take i).map (·.key)).map S1)∧xs.all (·.val.may)=(xs.drop i).all (·.val.may)) xs.length ⟨0,rfl,rfl,aF _,hs,Own.nil _ _ _ _ _,by simp⟩ ?_;rintro n a b w X ⟨i,rfl,rfl,hi,hs,ho,hw⟩;rcases ew (xs) i with⟨dy,x,hx,hd⟩|⟨dV,hd⟩
 ·rw [hd,iD] at hw;have Dy:x.val.may=false→Kv xs=false:=fun h=>by simp [Kv,hw,h]
  repeat' first|refine bD ?_;intros|((with_reducible apply Ql);(case own=>first|assumption|exact Own.since (by assumption) (by assumption));(case hs=>assumption);(case h0=>first|exact fun _ h=>h|exact bS.has);(case he=>kernel_rfl);(case hk=>rfl);(case ho=>first|rfl|assumption);(case hb=>(simp only [aH,bW,au,bh,bI];omega));(case hl=>(simp only [aH,bW,au,bh,bI];omega));intro acc w X ao ho hc ef;replace hs:=ao)|((with_reducible refine dJ (kE _) ?_ hs.has ?_ ?_);(· kernel_rfl);all_goals (intro _ w X ao;replace hs:=hs.trans ao))|((first|(with_reducible refine av hs ?_)|(with_reducible refine av (bS.trans hs) ?_));intro wa hk;(exact(congrArg B (Dy (by assumption))).symm))|((with_reducible refine fJ ((xs).length-(i+1)) ?_ ?_);omega;exact⟨i+1,by simp,rfl,by omega,hs,by rw [cC,hx];simp only [fj,bC,bV,List.map_nil];exact Own.since ho (by assumption),by rw [hw];clear Dy;simp [*]⟩)
 ·rw [hd] at hw;rw [bA dV] at ho;repeat' first|refine bD ?_;intros|((first|(with_reducible refine av hs ?_)|(with_reducible refine av (bS.trans hs) ?_));intro wa hk;(rename_i h;simp [Kv,hw,h]))|(refine fT (Et  (Own.sl ho)) kQ hs.has ?_ ?_<;>(intro _ w X ao;replace hs:=hs.trans ao))
def K8 (l:List dq):Bool:=l.all dq.may&&decide ((l.length:Int)≤12)
theorem WD {w:World} {X:XS} {a:Value} {xs:List dq} (ha:Sl w X 4 a (xs.map dq.l)):
  Ct pg 294 #[a] w X nX fun v _ _=>v=B (K8 xs):=by
 intro w0 hk;replace ha:=ha.mv hk.dD;have jT:=ha.gy;apply S7;unfold HL;have hs:=aj.init w0;repeat' first|refine aJ ?_;intros
 refine fR (fun n a w X=> ∃i:Nat,a=I (i:Nat)∧n=(xs).length-i∧i≤(xs).length∧aj (aR w0) w0 X w∧xs.all dq.may=(xs.drop i).all dq.may) (xs).length ⟨0,rfl,rfl,aF _,hs,by simp⟩ ?_;rintro n a w X ⟨i,rfl,rfl,hi,hs,hw⟩;rcases ew (xs) i with⟨dy,x,hx,hd⟩|⟨dV,hd⟩
 ·rw [hd,iD] at hw;repeat' first|refine bD ?_;intros|((with_reducible refine dJ (sc _) ?_ hs.has ?_ ?_);(· kernel_rfl);all_goals (intro _ w X ao;replace hs:=hs.trans ao))|((first|(with_reducible refine av hs ?_)|(with_reducible refine av (bS.trans hs) ?_));intro wa hk;(simp [K8,hw, *]))|((with_reducible refine fh ((xs).length-(i+1)) ?_ ?_);omega;exact⟨i+1,by simp,rfl,by omega,hs,by rw [hw];simp [*]⟩)
 ·rw [hd] at hw;repeat' first|refine bD ?_;intros|refine dM ?_ ?_<;>intros|((first|(with_reducible refine av hs ?_)|(with_reducible refine av (bS.trans hs) ?_));intro wa hk;(simp_all [K8]))
def codeOk (c:Int) (WE:Bool) (l:List dq):Bool:=if c=0 then WE&&decide (l=[])else decide (c>0)&&decide (c≤25)&&K8 l
theorem Yb {w:World} {X:XS} {c:Int} {WE:Bool} {a:Value} {xs:List dq} (ha:Sl w X 4 a (xs.map dq.l)):
  Ct pg 246 #[I c,B WE,a] w X nX fun v _ _=>v=B (codeOk c WE xs):=by
 intro w0 hk;replace ha:=ha.mv hk.dD;have jT:=ha.gy;have agT:xs.length=0↔xs=[]:=mH;apply Wf;unfold Kh;have hs:=aj.init w0;cases WE<;>
 repeat' first|refine aJ ?_;intros|refine dM ?_ ?_<;>intros|with_reducible apply dx|((first|(with_reducible refine av hs ?_)|(with_reducible refine av (bS.trans hs) ?_));intro wa hk;(simp_all [codeOk]<;>omega))|(refine fT (WD  qA) kQ hs.has ?_ ?_<;>(intro _ w X ao;replace hs:=hs.trans ao))
def La (l:List Int) (n:Int):Bool:=l.any fun x=>decide (x=n)
theorem aaS {w:World} {X:XS} {z:Int} {a:Value} {xs:List Int} (ha:Sl w X 1 a (xs.map I1)):
  Ct pg 250 #[a,I z] w X nX fun v _ _=>v=B (La xs z):=by
 intro w0 hk;replace ha:=ha.mv hk.dD;have jT:=ha.gy;apply XQ;unfold Mt;have hs:=aj.init w0;repeat' first|refine aJ ?_;intros
 refine fR (fun n a w X=> ∃i:Nat,a=I (i:Nat)∧n=(xs).length-i∧i≤(xs).length∧aj (aR w0) w0 X w∧La xs z=La (xs.drop i) z) (xs).length ⟨0,rfl,rfl,aF _,hs,by simp⟩ ?_;rintro n a w X ⟨i,rfl,rfl,hi,hs,hw⟩;rcases ew (xs) i with⟨dy,x,hx,hd⟩|⟨dV,hd⟩
 ·rw [hd] at hw;repeat' first|refine bD ?_;intros|refine dM ?_ ?_<;>intros|((first|(with_reducible refine av hs ?_)|(with_reducible refine av (bS.trans hs) ?_));intro wa hk;(rw [hw];simp [La, *]))|((with_reducible refine fh ((xs).length-(i+1)) ?_ ?_);omega;exact⟨i+1,by simp,rfl,by omega,hs,by rw [hw];simp [La, *]⟩)
 ·rw [hd] at hw;repeat' first|refine bD ?_;intros|((first|(with_reducible refine av hs ?_)|(with_reducible refine av (bS.trans hs) ?_));intro wa hk;(rw [hw];rfl))
def Lb (l:List Rec):Bool:=l.all (fun r=>decide (r.gD=0))&&decide ((l.length:Int)≤8)
theorem WG {w:World} {X:XS} {a:Value} {xs:List Rec} (ha:en w X 29 a Rec.rd xs) (mX: ∀r∈xs,r.small) (mg: ∀r∈xs,r.err=0→(kA r).length≤2^33):
  Ct pg 175 #[a] w X nX fun v _ _=>v=B (Lb xs):=by
 intro w0 hk;replace ha:=en.mv ha Rec.mv hk.dD;have jT:=ha.len;apply SY;unfold HH;have hs:=aj.init w0;repeat' first|refine aJ ?_;intros
 refine fR (fun n a w X=> ∃i:Nat,a=I (i:Nat)∧n=(xs).length-i∧i≤(xs).length∧aj (aR w0) w0 X w∧xs.all (fun r=>decide (r.gD=0))=(xs.drop i).all (fun r=>decide (r.gD=0))) (xs).length ⟨0,rfl,rfl,aF _,hs,by simp⟩ ?_;rintro n a w X ⟨i,rfl,rfl,hi,hs,hw⟩;rcases ew (xs) i with⟨dy,x,hx,hd⟩|⟨dV,hd⟩
 ·rw [hd,iD] at hw;have hxm:=cj hx;repeat' first|refine bD ?_;intros|((with_reducible apply YE);assumption;(try (case hz=>rfl));(case hr=>exact qR);(try (case hz=>omega));(case ht=>kernel_rfl);(case hs=>kernel_rfl);intros)
  refine dp (Hz (r:=x) (Rec.at.mv (by assumption) hs.mv) (mX x hxm) (mg x hxm)) kQ hs.has ?_;rintro v wa w2 X2 hq hle fP bU;replace hs:=hs.trans bU;by_cases he:x.gD=0
  ·rw [if_neg zQ] at hq;obtain⟨vb,rfl,_⟩:=hq;repeat' first|refine bD ?_;intros|((with_reducible refine fh ((xs).length-(i+1)) ?_ ?_);omega;exact⟨i+1,by simp,rfl,by omega,hs,by rw [hw];simp [he]⟩)
  ·rw [if_pos he] at hq;subst hq;repeat' first|refine bD ?_;intros|((first|(with_reducible refine av hs ?_)|(with_reducible refine av (bS.trans hs) ?_));intro wa hk;(simp [Lb,hw,he]))
 ·rw [hd] at hw;repeat' first|refine bD ?_;intros|refine dM ?_ ?_<;>intros|((first|(with_reducible refine av hs ?_)|(with_reducible refine av (bS.trans hs) ?_));intro wa hk;(simp_all [Lb]))
structure dF.small (m:dF):Prop where
 seen:m.seen.length≤2^40
 writes:m.writes.length≤2^40
 gd: ∀r∈m.gd,r.small
 enc: ∀r∈m.gd,r.err=0→(kA r).length≤2^33
 state:m.state.small
def dF.Q6 (m:dF):Bool:=m.dK.may&&se m.range&&(
 if m.kind=1 then decide (m.gx≥0)&&m.bF.may&&ud m.keys&&decide ((m.keys.length:Int)>0)
 else if m.kind=2 then codeOk m.code (Fz m.seen&&decide ((m.seen.length:Int)>0)) m.ranges&&m.bF.may&&(decide (m.code=0)||decide ((m.seen.length:Int)=0))
 else if m.kind=3 then decide (m.gx≥0)&&m.bF.may&&Fz m.seen&&Kv m.writes&&zk m.parts&&La m.parts m.range
 else if m.kind=4 then codeOk m.code true m.ranges&&m.bF.may
 else if m.kind=5 then(if m.kM then m.bF.may&&decide (m.bF≠ .zero)else decide (m.bF= .zero))
 else true)
theorem WH {w:World} {X:XS} {m:dF} {vk vs vw vp vr vc vh vd:Value} (h:m.at w X vk vs vw vp vr vc vh vd) (mX:m.small):
  Ct pg 174 #[m.v vk vs vw vp vr vc vh vd] w X nX fun v _ _=>v=B m.Q6:=by
 intro w0 hk;replace h:=h.mv hk.dD;obtain⟨h1,h2,h3,h4,h5,h6,h7,h8⟩:=h;obtain⟨b1,n1,c1,rfl⟩:=h1.form;obtain⟨b2,n2,c2,rfl⟩:=h2.form;obtain⟨b3,n3,c3,rfl⟩:=h3.form;obtain⟨b4,n4,c4,rfl⟩:=h4.form;obtain⟨b5,n5,c5,rfl⟩:=h5.form;apply SX;unfold HG;have hs:=aj.init w0;repeat' first|refine aJ ?_;intros|refine dM ?_ ?_<;>intros|(with_reducible refine CH _ ?_ ?_ ?_);(· kernel_rfl);all_goals intros|(with_reducible refine acp _ ?_ ?_ ?_);(· kernel_rfl);all_goals intros|with_reducible apply dx|((with_reducible refine dJ (mw _) ?_ hs.has ?_ ?_);(· kernel_rfl);all_goals (intro _ w X ao;replace hs:=hs.trans ao))|((with_reducible refine dJ (AB _) ?_ hs.has ?_ ?_);(· kernel_rfl);all_goals (intro _ w X ao;replace hs:=hs.trans ao))|((with_reducible refine dJ (Ay _) ?_ hs.has ?_ ?_);(· kernel_rfl);all_goals (intro _ w X ao;replace hs:=hs.trans ao))|(refine fT (Et  qA) kQ hs.has ?_ ?_<;>(intro _ w X ao;replace hs:=hs.trans ao))|(refine fT (Ya  qA mX.seen) kQ hs.has ?_ ?_<;>(intro _ w X ao;replace hs:=hs.trans ao))|(refine fT (Q5  qA mX.writes) kQ hs.has ?_ ?_<;>(intro _ w X ao;replace hs:=hs.trans ao))|(refine fT (Kw  qA) kQ hs.has ?_ ?_<;>(intro _ w X ao;replace hs:=hs.trans ao))|(refine fT (aaS  qA) kQ hs.has ?_ ?_<;>(intro _ w X ao;replace hs:=hs.trans ao))|(refine fT ((Yb (xs:=m.ranges))  qA) kQ hs.has ?_ ?_<;>(intro _ w X ao;replace hs:=hs.trans ao))
 all_goals
  (with_reducible refine av hs ?_)
  intro wa bk;unfold dF.Q6;repeat (first|rw [if_pos zQ]|rw [if_neg zQ])
  simp_all [se]<;>first|omega|(rename_i z9;intro e9;simp [e9] at z9;done)|(intro e9;simp_all;done)|grind
def dF.tC (m:dF):Bool:=
 if 1≤m.kind∧m.kind≤7 then m.Q6
 else if m.kind=8 then se m.range&&decide (m.n≥1)&&decide (m.mx≥0)&&decide (m.mx≤8)&&m.bF.may
 else if m.kind=9 then se m.range&&decide (m.n≥1)&&Lb m.gd
 else if m.kind=10 then se m.range&&m.state.may&&decide (m.state.range.id=m.range)
 else if m.kind=11 then se m.range
 else if m.kind=12 then K0 m.prev m.bF m.dK m.writes
 else if m.kind=14 then m.bF.may
 else true
theorem Q7 {w:World} {X:XS} {m:dF} {vk vs vw vp vr vc vh vd:Value} (h:m.at w X vk vs vw vp vr vc vh vd) (mX:m.small):
  Ct pg 114 #[m.v vk vs vw vp vr vc vh vd] w X nX fun v _ _=>v=B m.tC:=by
 intro w0 hk;replace h:=h.mv hk.dD;obtain⟨h1,h2,h3,h4,h5,h6,h7,h8⟩:=id h;obtain⟨b3,n3,c3,rfl⟩:=h3.form;apply QI;unfold Ff;have hs:=aj.init w0;repeat' first|refine aJ ?_;intros|refine dM ?_ ?_<;>intros|with_reducible apply dx|((with_reducible refine dJ (mw _) ?_ hs.has ?_ ?_);(· kernel_rfl);all_goals (intro _ w X ao;replace hs:=hs.trans ao))|((with_reducible refine dJ (AB _) ?_ hs.has ?_ ?_);(· kernel_rfl);all_goals (intro _ w X ao;replace hs:=hs.trans ao))|(refine fT ((WH (m:=m))  (h.mv (aj.mv hs)) mX) kQ hs.has ?_ ?_<;>(intro _ w X ao;replace hs:=hs.trans ao))|(refine fT ((WG (xs:=m.gd))  (en.mv h6 Rec.mv (aj.mv hs)) mX.gd mX.enc) kQ hs.has ?_ ?_<;>(intro _ w X ao;replace hs:=hs.trans ao))|(refine fT (DT  (s:=m.state) qA qA mX.state) kQ hs.has ?_ ?_<;>(intro _ w X ao;replace hs:=hs.trans ao))|(refine fT ((KB (l:=m.writes))  qA mX.writes) kQ hs.has ?_ ?_<;>(intro _ w X ao;replace hs:=hs.trans ao))
 all_goals
  (with_reducible refine av hs ?_)
  intro wa bk;unfold dF.tC;repeat (first|rw [if_pos zQ]|rw [if_neg zQ])
  try (simp_all [se]<;>first|omega|grind)
def dF.isZero (m:dF):Bool:=decide (m.dK= .zero)&&decide (m.range=0)&&decide (m.gx=0)&&decide (m.code=0)&&decide (m.bF= .zero)&&decide (m.prev= .zero)&&!m.kM&&decide (m.n=0)&&decide (m.mx=0)&&
 m.state.isZero&&decide ((m.keys.length:Int)+m.seen.length+m.writes.length+m.parts.length+m.ranges.length+m.gd.length=0)
theorem WI {w:World} {X:XS} {m:dF} {vk vs vw vp vr vc vh vd:Value} (h:m.at w X vk vs vw vp vr vc vh vd) (hln:m.keys.length+m.seen.length+m.writes.length+m.parts.length+m.ranges.length+m.gd.length≤2^62):
  Ct pg 113 #[m.v vk vs vw vp vr vc vh vd] w X nX fun v _ _=>v=B m.isZero:=by
 intro w0 hk;replace h:=h.mv hk.dD;obtain⟨h1,h2,h3,h4,h5,h6,h7,h8⟩:=h;have o7:=h7.one;have o8:=h8.one;have q1:m.state.fV.length=0↔m.state.fV=[]:=mH;have q2:m.state.fB.length=0↔m.state.fB=[]:=mH;apply V5;unfold J0;have hs:=aj.init w0;cases hc:m.kM<;>
 repeat' first|refine aJ ?_;intros|refine dM ?_ ?_<;>intros|(with_reducible refine CH _ ?_ ?_ ?_);(· kernel_rfl);all_goals intros|(with_reducible refine acq _ ?_ ?_ ?_);(· kernel_rfl);all_goals intros|with_reducible apply dx|((first|(with_reducible refine av hs ?_)|(with_reducible refine av (bS.trans hs) ?_));intro wa hk;(simp_all [dF.isZero,State.isZero,dq.ext_iff]<;>omega))|((with_reducible refine Ca (zc _) hs.has ?_);intro w X ao;replace hs:=hs.trans ao)
def dF.strip (m:dF):dF×Bool:=
 if m.kind=1 then({ m with dK:=.zero,range:=0,gx:=0,bF:=.zero,keys:=[] },true)
 else if m.kind=2 then({ m with dK:=.zero,range:=0,code:=0,bF:=.zero,seen:=[],ranges:=[] },true)
 else if m.kind=3 then({ m with dK:=.zero,range:=0,gx:=0,bF:=.zero,seen:=[],writes:=[],parts:=[] },true)
 else if m.kind=4 then({ m with dK:=.zero,range:=0,code:=0,bF:=.zero,ranges:=[] },true)
 else if m.kind=5 then({ m with dK:=.zero,range:=0,kM:=false,bF:=.zero },true)
 else if m.kind=6∨m.kind=7 then({ m with dK:=.zero,range:=0 },true)
 else if m.kind=8 then({ m with range:=0,n:=0,mx:=0,bF:=.zero },true)
 else if m.kind=9 then({ m with range:=0,n:=0,gd:=[] },true)
 else if m.kind=10 then({ m with range:=0,state:=.zero },true)
 else if m.kind=11 then({ m with range:=0 },true)
 else if m.kind=12 then({ m with prev:=.zero,bF:=.zero,dK:=.zero,writes:=[] },true)
 else if m.kind=13 then(m,true)
 else if m.kind=14 then({ m with bF:=.zero },true)
 else(m,false)
theorem PJ {w:World} {X:XS} {m:dF} {vk vs vw vp vr vc vh vd:Value} (h:m.at w X vk vs vw vp vr vc vh vd):
  Ct pg 111 #[m.v vk vs vw vp vr vc vh vd] w X nX fun v wa w'=> ∃ES RN fy Hu Wo vc' Wp Wq,v= .tuple #[m.strip.1.v ES RN fy Hu Wo vc' Wp Wq,B m.strip.2]∧
   m.strip.1.at w X ES RN fy Hu Wo vc' Wp Wq:=by
 intro w0 hk;obtain⟨h1,h2,h3,h4,h5,h6,h7,h8⟩:=h;have o1:=h1.one;have o2:=h2.one;have o3:=h3.one;have o4:=h4.one;have o5:=h5.one;have o6:=h6.one;have o7:=h7.one;have o8:=h8.one;apply Pu;unfold DO;have hs:=aj.init w0;have n1:Sl w X 1 (.slice none 0 0) (([]:List BA).map S1):=Sl.nil _ _ _;have n2:Sl w X 7 (.slice none 0 0) (([]:List jy).map jy.l):=Sl.nil _ _ _;have n3:Sl w X 4 (.slice none 0 0) (([]:List KV).map KV.l):=Sl.nil _ _ _;have n4:Sl w X 1 (.slice none 0 0) (([]:List Int).map I1):=Sl.nil _ _ _;have n5:Sl w X 4 (.slice none 0 0) (([]:List dq).map dq.l):=Sl.nil _ _ _;have n6:en w X 29 (.slice none 0 0) Rec.rd []:=en.nil _ _ _;have n7:nh w X (.slice none 0 0) []:=en.nil _ _ _;have n8:nf w X (.slice none 0 0) []:=en.nil _ _ _;repeat' first|refine aJ ?_;intros|refine dM ?_ ?_<;>intros|with_reducible apply dx
 all_goals
  refine av hs ?_;intro wa bk;unfold dF.strip;repeat (first|rw [if_pos zQ]|rw [if_neg zQ])
  exact⟨_,_,_,_,_,_,_,_,rfl,by assumption,by assumption,by assumption,by assumption,by assumption,by assumption,by assumption,by assumption⟩
def dF.err (m:dF):Int:=if !m.strip.2 then 7 else if !PI m.fr||!PI m.to||!m.strip.1.isZero||!m.tC then 4 else 0
def dF.lens (m:dF):Nat:=m.keys.length+m.seen.length+m.writes.length+m.parts.length+m.ranges.length+m.gd.length
theorem aeS {c:Prop} [Decidable c] {a b:dF×Bool} {n:Nat} (ha:a.1.lens≤n) (hb:b.1.lens≤n):(if c then a else b).1.lens≤n:=by split<;>assumption
theorem dF.aaT (m:dF):m.strip.1.lens≤m.lens:=by
 unfold dF.strip;repeat' with_reducible apply aeS
 all_goals (unfold dF.lens;(try simp only [bI]);omega)
theorem Xp {w:World} {X:XS} {m:dF} {vk vs vw vp vr vc vh vd:Value} (h:m.at w X vk vs vw vp vr vc vh vd) (mX:m.small) (hln:m.lens≤2^62):
  Ct pg 54 #[m.v vk vs vw vp vr vc vh vd] w X nX fun v _ _=>v=I m.err:=by
 intro w0 hk;have h:=h.mv hk.dD;have amj:=ah m.aaT hln;apply XK;unfold Mo;have hs:=aj.init w0;refine dp (PJ h) kQ hs.has ?_;rintro v wa w X ⟨ES,RN,fy,Hu,Wo,vc',Wp,Wq,rfl,ef⟩ hle fP ao;replace hs:=hs.trans ao;have q1:=ef.1.one;have q2:=ef.2.one;have q3:=ef.3.one;have q4:=ef.4.one;have q5:=ef.5.one;have q6:=ef.6.one;have q7:=ef.7.one;have q8:=ef.8.one;cases hb:m.strip.2<;>
 repeat' first|refine aJ ?_;intros|with_reducible apply dx|((with_reducible refine dJ (XZ _) ?_ hs.has ?_ ?_);(· kernel_rfl);all_goals (intro _ w X ao;replace hs:=hs.trans ao))|((first|(with_reducible refine av hs ?_)|(with_reducible refine av (bS.trans hs) ?_));intro wa hk;(simp [dF.err, *]))|(refine fT ((WI (m:=m.strip.1))  (ef.mv (aj.mv (by first|assumption|exact aj.trans (by assumption) (by assumption)))) amj) kQ hs.has ?_ ?_<;>(intro _ w X ao;replace hs:=hs.trans ao))|(refine fT ((Q7 (m:=m))  (h.mv (aj.mv hs)) mX) kQ hs.has ?_ ?_<;>(intro _ w X ao;replace hs:=hs.trans ao))
end Go.Proofs.YtbpnemeooenpmaaGreat
