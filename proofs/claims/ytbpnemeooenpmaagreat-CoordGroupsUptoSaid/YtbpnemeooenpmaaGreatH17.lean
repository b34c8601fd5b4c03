/-
 racelaw17.CoordGroups returns true, whatever it is called with, where what it reads is of bulk at most 1048576; the input reads as it did.
-/
import Derived.Test.YtbpnemeooenpmaaGreatH16
open Nat renaming zero_le → aF, le_trans → ah
open List renaming length_map → aH, length_nil → bI, map_map → dr, map_congr_left → fD, mem_of_getElem? → cj, take_add_one → cC, length_append → au, length_take → bW, length_singleton → bu, take_of_length_le → bA
open Bool renaming and_eq_true → aW
set_option linter.unusedVariables false
set_option linter.unusedSimpArgs false
namespace Go.Proofs.YtbpnemeooenpmaaGreat
open Go.Proofs.Tryz renaming prog → pg
open Go.aV
set_option maxRecDepth 100000
set_option maxHeartbeats 1000000
set_option linter.unusedVariables false
set_option linter.unusedSimpArgs false
attribute [local irreducible] un jn aC aS ld1 dY st1 dt cD kK dC lQ uJ sO fH e7 ae aB aK eW eV eU eC eF gE az fin aP aE aD vS xd gO gW ry uK sP xe xf xg gB gR rz uL sQ xh xi
theorem HU {w:World} {X:XS} {a:Value} {xs:List jy} {most:Int} (ha:Sl w X 7 a (xs.map jy.l)):
  Ct pg 61 #[a,I most] w X nX Bw:=by
 intro w0 hk;replace ha:=ha.mv hk.dD;have jT:=ha.gy;apply Gu;unfold xN;have hs:=aj.init w0;refine fN (fun n a b w X=> ∃(i:Nat) (s:Int),a=I i∧b=I s∧n=(xs).length-i∧i≤(xs).length∧aj (aR w0) w0 X w) (xs).length ⟨0,_,rfl,rfl,rfl,aF _,hs⟩ ?_;rintro n a b w X ⟨i,s,rfl,rfl,rfl,hi,hs⟩;repeat' first|refine aJ ?_;intros|refine dM ?_ ?_<;>intros|((first|(with_reducible refine av hs ?_)|(with_reducible refine av (bS.trans hs) ?_));intro wa hk;exact⟨_,rfl⟩)|(refine iZ (ix  _ _ _ _ _) kQ hs.has ?_;intro n1 w X ao;replace hs:=hs.trans ao)|((with_reducible refine fJ ((xs).length-(i+1)) ?_ ?_);omega;exact⟨i+1,_,by simp,rfl,rfl,by omega,hs⟩)|with_reducible apply lA
theorem Jv {w:World} {X:XS} {m:dF} {vk vs vw vp vr vc vh vd:Value} {most:Int} (ha:m.at w X vk vs vw vp vr vc vh vd):
  Ct pg 18 #[m.v vk vs vw vp vr vc vh vd,I most] w X nX Bw:=by
 intro w0 hk;obtain⟨h1,h2,h3,h4,h5,h6,h7,h8⟩:=ha.mv hk.dD;have jT:=h6.len;apply HV;unfold yJ;have hs:=aj.init w0;repeat' first|refine aJ ?_;intros|(refine iZ (ix  _ _ _ _ _) kQ hs.has ?_;intro n1 w X ao;replace hs:=hs.trans ao)|(refine iZ (rM  qA) kQ hs.has ?_;intro n1 w X ao;replace hs:=hs.trans ao)|(refine iZ (HU  qA) kQ hs.has ?_;intro n1 w X ao;replace hs:=hs.trans ao)|(refine iZ (re  qA) kQ hs.has ?_;intro n1 w X ao;replace hs:=hs.trans ao)|with_reducible apply lA
 refine fN (fun n a b w X=> ∃(i:Nat) (s:Int),a=I i∧b=I s∧n=(m.gd).length-i∧i≤(m.gd).length∧aj (aR w0) w0 X w) (m.gd).length ⟨0,_,rfl,rfl,rfl,aF _,hs⟩ ?_;rintro n a b w X ⟨i,s,rfl,rfl,rfl,hi,hs⟩;repeat' first|refine aJ ?_;intros|refine dM ?_ ?_<;>intros|((with_reducible apply YE);assumption;(try (case hz=>rfl));(case hr=>exact qR);(try (case hz=>omega));(case ht=>kernel_rfl);(case hs=>kernel_rfl);intros)|((first|(with_reducible refine av hs ?_)|(with_reducible refine av (bS.trans hs) ?_));intro wa hk;exact⟨_,rfl⟩)|(refine iZ (ix  _ _ _ _ _) kQ hs.has ?_;intro n1 w X ao;replace hs:=hs.trans ao)|(refine iZ (xO  (s:=m.state) qA qA) kQ hs.has ?_;intro n1 w X ao;replace hs:=hs.trans ao)|(refine iZ ((Jw (r:=_))  (Rec.at.mv (by assumption) hs.mv)) kQ hs.has ?_;intro n1 w X ao;replace hs:=hs.trans ao)|((with_reducible refine fJ ((m.gd).length-(i+1)) ?_ ?_);omega;exact⟨i+1,_,by simp,rfl,rfl,by omega,hs⟩)|with_reducible apply lA
structure tG where
 kind:Int
 eh:Int
 n:Int
 m:dF
 prog:List fw
 ajG:List Int
abbrev tG.l (o:tG) (vk vs vw vp vr vc vh vd vo vq:Value):List Value:=[I o.kind,I o.eh,I o.n,I o.m.kind,I o.m.fr,I o.m.to,I o.m.dK.gM,I o.m.dK.ga,I o.m.dK.sq,I o.m.range,I o.m.gx,I o.m.code,
 I o.m.bF.wall,I o.m.bF.ep,I o.m.bF.node,I o.m.prev.wall,I o.m.prev.ep,I o.m.prev.node,B o.m.kM,I o.m.n,I o.m.mx,vk,vs,vw,vp,vr,vc,
 I o.m.state.range.id,I o.m.state.range.gx,.float .f64 o.m.state.range.lo,.float .f64 o.m.state.range.hi,
 I o.m.state.floor.wall,I o.m.state.floor.ep,I o.m.state.floor.node,I o.m.state.closed.wall,I o.m.state.closed.ep,I o.m.state.closed.node,vh,vd,vo,vq]
structure tG.at (w:World) (X:XS) (o:tG) (vk vs vw vp vr vc vh vd vo vq:Value):Prop where
 m:o.m.at w X vk vs vw vp vr vc vh vd
 po:Sl w X 5 vo (o.prog.map fw.l)
 p:Sl w X 1 vq (o.ajG.map I1)
def tG.rd (w:World) (X:XS) (l:List Value) (o:tG):Prop:= ∃vk vs vw vp vr vc vh vd vo vq,l=o.l vk vs vw vp vr vc vh vd vo vq∧o.at w X vk vs vw vp vr vc vh vd vo vq
theorem tG.mv:Dc tG.rd:=fun ⟨vk,vs,vw,vp,vr,vc,vh,vd,vo,vq,h,h1⟩ m=>⟨vk,vs,vw,vp,vr,vc,vh,vd,vo,vq,h,⟨h1.m.mv m,h1.po.mv m,h1.p.mv m⟩⟩
theorem Gv {P:Program} {X X0:XS} {w w0:World} {N:Value→Prop} {t:TypeId} {v:Value} {xs:List tG} {i:Nat} {z:Int} {x:tG} (h:en w0 X0 41 v tG.rd xs) (hr:xs[i]? =some x)
  (hz:z=i) (ht:P.underlying t=some (.slice (P.elem t))) (hs:(P.info? (P.elem t)).map (·.size)=some 41)
  (n: ∀b o vk vs vw vp vr vc vh vd vo vq,aV.one vk=true→aV.one vs=true→aV.one vw=true→aV.one vp=true→aV.one vr=true→aV.one vc=true→aV.one vh=true→aV.one vd=true→aV.one vo=true→aV.one vq=true→Sl w0 X0 5 vo (x.prog.map fw.l)→
   Cells w0 X0 b o (x.l vk vs vw vp vr vc vh vd vo vq)→x.at w0 X0 vk vs vw vp vr vc vh vd vo vq→N (ptr b o)):ae P X w (dt t 41 v (.int .i64 z)) N:=
 Bt h hr hz ht hs fun b o _ hc ⟨vk,vs,vw,vp,vr,vc,vh,vd,vo,vq,hl,h1⟩=>n b o vk vs vw vp vr vc vh vd vo vq h1.m.keys.one h1.m.seen.one h1.m.writes.one h1.m.parts.one h1.m.ranges.one h1.m.gd.one h1.m.fV.one h1.m.fB.one h1.po.one h1.p.one h1.po (hl▸hc) h1
theorem abR {w:World} {X:XS} {a:Value} {xs:List tG} (ha:en w X 41 a tG.rd xs):
  Ct pg 5 #[a] w X nX fun v _ _=> ∃b:Bool,v=B b:=by
 intro w0 hk;replace ha:=en.mv ha tG.mv hk.dD;have jT:=ha.len;apply Nj;unfold Cs;have hs:=aj.init w0
 skip
 refine B2 (fun n a b c w X=> ∃(i:Nat) (s:Int),a=I i∧c=I s∧n=xs.length-i∧i≤xs.length∧aj (aR w0) w0 X w) xs.length ⟨0,_,rfl,rfl,rfl,aF _,hs⟩ ?_;rintro n a b c w X ⟨i,s,rfl,rfl,rfl,hi,hs⟩;rcases ew (xs) i with⟨dy,x,hx,hd⟩|⟨dV,hd⟩
 ·repeat' first|refine bD ?_;intros|refine dM ?_ ?_<;>intros|(with_reducible apply Gv);(case h=>assumption);(case hr=>exact hx);(case hz=>rfl);(case ht=>kernel_rfl);(case hs=>kernel_rfl);intros
  refine dp (Jv (m:=x.m) (dF.at.mv (tG.at.m (by assumption)) hs.mv)) kQ hs.has ?_;rintro _ wa w X ⟨n1,rfl⟩ hle fP ao;replace hs:=hs.trans ao;repeat' first|refine aJ ?_;intros|refine dM ?_ ?_<;>intros|((first|(with_reducible refine av hs ?_)|(with_reducible refine av (bS.trans hs) ?_));intro wa hk;exact⟨_,rfl⟩)|(with_reducible apply Gv);(case h=>assumption);(case hr=>exact hx);(case hz=>rfl);(case ht=>kernel_rfl);(case hs=>kernel_rfl);intros|with_reducible apply lA
  refine fN (fun n a b w X=> ∃(k:Nat) (s:Int),a=I k∧b=I s∧n=x.prog.length-k∧k≤x.prog.length∧aj (aR w0) w0 X w) x.prog.length ⟨0,_,rfl,rfl,rfl,aF _,hs⟩ ?_;rintro n a b w X ⟨k,s,rfl,rfl,rfl,xD,hs⟩;rcases ew x.prog k with⟨ac3,y,hy,nR⟩|⟨MI,nR⟩
  ·repeat' first|refine bD ?_;intros|(with_reducible apply Gv);(case h=>assumption);(case hr=>exact hx);(case hz=>rfl);(case ht=>kernel_rfl);(case hs=>kernel_rfl);intros|with_reducible apply lA
   exact fJ (x.prog.length-(k+1)) zQ ⟨k+1,_,by simp,rfl,rfl,by omega,hs⟩
  ·repeat' first|refine bD ?_;intros|(with_reducible apply Gv);(case h=>assumption);(case hr=>exact hx);(case hz=>rfl);(case ht=>kernel_rfl);(case hs=>kernel_rfl);intros
   exact B3 (xs.length-(i+1)) zQ ⟨i+1,_,by simp,rfl,rfl,by omega,hs⟩
 ·repeat' first|refine bD ?_;intros|refine dM ?_ ?_<;>intros
  all_goals exact av hs fun wa bk=>⟨_,rfl⟩
end Go.Proofs.YtbpnemeooenpmaaGreat
namespace Go.Proofs.YtbpnemeooenpmaaGreat
open Go.Proofs.Tryz renaming prog → pg
open Go.aV
set_option maxRecDepth 100000
set_option maxHeartbeats 1000000
set_option linter.unusedVariables false
set_option maxRecDepth 100000
set_option maxHeartbeats 1000000
set_option linter.unusedVariables false
set_option linter.unusedSimpArgs false
attribute [local irreducible] un jn aC aS ld1 dY st1 dt cD kK dC lQ uJ sO fH e7 ae aB aK eW eV eU eC eF gE az fin aP aE aD vS xd gO gW ry uK sP xe xf xg gB gR rz uL sQ xh xi
abbrev rg1:dq:=⟨1,0,0,4602678819172646912⟩
abbrev rg2:dq:=⟨2,0,4602678819172646912,4607182418800017408⟩
abbrev aae:List dq:=[rg1,rg2]
abbrev kEx:BA:=⟨#[107]⟩
abbrev E6:List fw:=[⟨4,⟨#[]⟩,⟨1,4607182418800017408,⟨#[]⟩⟩⟩,⟨2,kEx,.zero⟩]
abbrev Mf:gJ:=[(1,rg1),(2,rg2)]
theorem afY:qP aae=0:=by kernel_rfl
theorem ahV:aae.foldl eH []=Mf:=by kernel_rfl
theorem Jx (k:BA):gu [k]=[k]:=by
 simp [gu,bl]
theorem abS:gu []=[]:=by simp [gu]
theorem abT (k:Int):mL [k]=[k]:=by simp [mL]
theorem Nk:dW 1 1 E6=[]:=by
 have:E6.foldl (iS 1 1) []=[]:=by kernel_rfl
 rw [dW,this];exact abS
theorem abU:dW 2 3 E6=[kEx]:=by
 have:E6.foldl (iS 2 3) []=[(kEx,1)]:=by kernel_rfl
 rw [dW,this];exact Jx _
theorem YG:iM E6=0:=by
 have:uC E6 0=0:=by kernel_rfl
 unfold iM;rw [if_neg (by decide),if_neg (by rw [this];decide),Nk,abU,if_neg (by decide)]
theorem abV:runM E6 [] []= .ok ([],[(kEx,⟨1,4607182418800017408,⟨#[]⟩⟩)]):=by kernel_rfl
abbrev Vf:rC:=[(kEx,⟨1,4607182418800017408,⟨#[]⟩⟩)]
theorem YH:keysOf Vf=[kEx]:=Jx _
theorem ad1:iX Mf kEx=some rg1:=by kernel_rfl
theorem abW:gp Mf [] [kEx]=([(1,[kEx])],0):=by
 have:gn kEx=true:=by kernel_rfl
 unfold gp;rw [if_pos this,ad1];rfl
theorem R8:fb Mf Vf=[⟨rg1,[kEx]⟩]:=by
 unfold fb;rw [YH,abW];unfold jX;rw [show([((1:Int),[kEx])].map (·.1))=[1] from rfl,abT];rfl
theorem R9:dB Vf=[⟨kEx,⟨1,4607182418800017408,⟨#[]⟩⟩⟩]:=by
 unfold dB;rw [show(Vf.map (·.1))=[kEx] from rfl,Jx];rfl
theorem afZ:xC E6 Mf Vf:=⟨YG,⟨_,abV⟩,by rw [R9];simp,by rw [YH,abW]⟩
theorem Xr {wr:rC} (h:xC E6 Mf wr):wr=Vf:=by
 obtain⟨_,⟨s,hs⟩,_⟩:=h;rw [abV] at hs;cases hs;rfl
theorem af0:mC E6 ⟨0,0,21⟩ 5 Mf=0:=by
 unfold mC;rw [YG,Nk];rfl
theorem ad2:lV Mf Vf=[{ uE with kind:=3,range:=1,gx:=0,parts:=[1],writes:=[⟨kEx,⟨1,4607182418800017408,⟨#[]⟩⟩⟩] }]:=by
 unfold lV;rw [R8,R9];rfl
abbrev Mg:cw:=⟨7,0,1⟩
abbrev tEx:dc:=⟨1,1,1⟩
theorem ahW:(rK tEx Mg [1]).gD=0:=by kernel_rfl
theorem ahX:(kA (rK tEx Mg [1])).length≤900:=by decide+kernel
def Mh:dF:=⟨4,1,21,tEx,1,0,0,Mg,.zero,false,0,0,[],[],[],[],[],[],.zero⟩
theorem af1:Mh.err=0:=by kernel_rfl
theorem ahY {st:State} (h1:st.fV=[]) (h2:st.fB=[]):st.small:=⟨by rw [h1];exact fun _ h=>absurd h (by simp),by rw [h2];exact fun _ h=>absurd h (by simp),by rw [h1];exact fun _ h=>absurd h (by simp),by rw [h2];exact fun _ h=>absurd h (by simp)⟩
theorem abX:Mh.small:=⟨by decide,by decide,by simp [Mh],by simp [Mh],ahY rfl rfl⟩
theorem ad3:Mh.lens≤2^62:=by decide
theorem abY:Mh.bF.may=true:=by kernel_rfl
theorem Nl:cw.later .zero Mg=Mg:=by kernel_rfl
theorem abZ {w:World} {X:XS} :Ct pg 15 #[] w X nX fun v wa w'=>Own w' (made wa w') wa.heap.size 38 4 v (aae.map dq.l):=by
 intro w0 hk;apply Nn;unfold Cu;have hs:=aj.init w0;repeat' first|refine aJ ?_;intros
 refine Tx (rows:=aae.map dq.l) (rg1.l++rg2.l).toArray dq.zero.v hs.has (bytes:=32) kQ kQ zQ zQ kQ (by simp) rfl rfl fun v2 w2 X2 bU nW=>?_;exact av (hs.trans bU) fun C7 bk=>(nW.kp bk).tight
section
variable {w w' wa : World} {X X' K N D G : XS} {nb db mb xb : Nat} {c : ph} {x : oN} {ck uk : cw} {ds : gJ} {al mV : List (dc × Nat)} {L : LM} {m : DM} {p : List fw} {eh : Int} {v vm va vw : Value} {rm ra rw : List (List Value)} {ms ws : List dF} {ps : List Int}
theorem CoN.since (h:CoN w N D G nb db mb c ck ds al L m) (hN: ∀k,N k→X k) (hG: ∀k,G k→X k) (hs:aj X w X' w'):CoN w' N D G nb db mb c ck ds al L m:=by
 have hb: ∀k,N k→w'.heap[k]? =w.heap[k]? :=fun k hk=>hs.kp.block k (hN k hk);exact⟨h.row.mv fun k hk _=>⟨hk,hb k ((h.uZ k).2 (.inl hk))⟩,h.am.mv fK (fun k hk _=>⟨hk,hb k ((h.uZ k).2 (.inr (.inl hk)))⟩) (fun _ h=>h.elim),
  h.bm.mv fK (fun k hk _=>⟨hk,hb k ((h.uZ k).2 (.inr (.inr (.inl hk))))⟩) (fun _ h=>h.elim),h.UI.mv fun k hk _=>⟨hk,hb k ((h.uZ k).2 (.inr (.inr (.inr (.inl hk)))))⟩,
  h.dir.mv fun k hk _=>⟨hk,hb k ((h.uZ k).2 (.inr (.inr (.inr (.inr hk)))))⟩,h.log.mv (hs.fZ hG),h.cm,h.uZ,h.dj,h.ne,h.dd⟩
theorem ad4 (h:CoN w N D G nb db mb c ck ds al L m) (hN:FX N X w) (hG:FX G X w) (q:afh nb mb c D al p ck eh ds v wa w' xb x vm va vw K mV rm ra rw ms ws uk) (hle:w.heap.size≤wa.heap.size)
  (fP: ∀k,made wa w' k→X' k) (cg:ez (fun k=>k=nb∨k=c.ab∨k=c.cb) X w X' w') (hq:Sl w' K 1 x.vq (ps.map I1)):
  HB w' X' K G nb xb db { c with uh:=c.uh+1 } x aN aN vw mV [] [] [] rw [] ws x.vq ps L m∧X' c.cb∧ ¬K c.cb∧ ¬G c.cb:=by
 have nN: ∀k,N k→X' k:=fun k hk=>cg.sub k (hN k hk).1;have kH:N nb:=(h.uZ _).2 (.inl rfl);have s9:N c.ab:=(h.uZ _).2 (.inr (.inl rfl));have Ro:N c.bb:=(h.uZ _).2 (.inr (.inr (.inl rfl)));have RU:N c.cb:=(h.uZ _).2 (.inr (.inr (.inr (.inl rfl))));have hD: ∀k,D k→N k:=fun k hk=>(h.uZ k).2 (.inr (.inr (.inr (.inr hk))));have b1:c.bb≠nb:=h.bm.eA h.row;have b2:c.bb≠c.cb:=h.bm.eA h.UI;have aR: ∀k,k<w.heap.size→ ¬made wa w' k:=fun k hk hm=>by have:=hm.1;omega
 have nK: ∀k,N k→ ¬D k→ ¬K k:=fun k hk hd hK=>(q.k1 k hK).elim hd (aR k (hN k hk).2);have fF: ∀k,cF nb xb c.ab aN aN vw aN k→N k∨made wa w' k:=fun k hk=>by
  rcases q.f k hk with e|e|e
  ·exact .inl (e▸kH)
  ·exact .inl (e▸s9)
  ·exact .inr e
 have hGw: ∀k,G k→w'.heap[k]? =w.heap[k]? :=fun k hk=>cg.block k (hG k hk).1 fun e=>by
  rcases e with e|e|e<;>subst e
  ·exact h.dj _ kH hk
  ·exact h.dj _ s9 hk
  ·exact h.dj _ RU hk
 refine⟨⟨q.mid,fun k hk=>?_,fun k hk=>?_,hq,?_,nN _ Ro,?_,fun k hk=>?_,⟨?_,?_,?_⟩,fun k hk=>⟨?_,?_⟩⟩,nN _ RU,?_,fun hk=>h.dj _ RU hk⟩
 ·have:X' k:=(fF k hk).elim (nN k) (fP k);exact⟨this,cg.has k this⟩
 ·have:X' k:=(q.k1 k hk).elim (fun e=>nN k (hD k e)) (fP k);exact⟨this,cg.has k this⟩
 ·exact h.bm.mv fK (fun k hk _=>⟨hk,cg.block k (by rw [hk];exact(hN _ Ro).1) fun e=>by
   rw [hk] at e;rcases e with e|e|e
   ·exact b1 e
   ·exact h.ne e.symm
   ·exact b2 e⟩) fun _ h=>h.elim
 ·exact h.log.mv fun k hk _=>⟨hk,hGw k hk⟩
 ·exact⟨cg.sub k (hG k hk).1,cg.has k (cg.sub k (hG k hk).1)⟩
 ·exact nK _ Ro fun hd=>(h.dd _ hd).2.2.1 rfl
 ·intro hk;rcases q.f _ hk with e|e|e
  ·exact b1 e
  ·exact h.ne e.symm
  ·exact aR _ (hN _ Ro).2 e
 ·exact fun hk=>h.dj _ Ro hk
 ·intro hK;rcases q.k1 k hK with e|e
  ·exact h.dj _ (hD k e) hk
  ·exact aR k (hG k hk).2 e
 ·intro hf;rcases fF k hf with e|e
  ·exact h.dj _ e hk
  ·exact aR k (hG k hk).2 e
 ·exact nK _ RU fun hd=>(h.dd _ hd).2.2.2 rfl
end
end Go.Proofs.YtbpnemeooenpmaaGreat
namespace Go.Proofs.YtbpnemeooenpmaaGreat
open Go.Proofs.Tryz renaming prog → pg
open Go.aV
set_option maxRecDepth 100000
set_option maxHeartbeats 4000000
set_option linter.unusedVariables false
set_option maxRecDepth 100000
set_option maxHeartbeats 1000000
set_option linter.unusedVariables false
set_option linter.unusedSimpArgs false
attribute [local irreducible] un jn aC aS ld1 dY st1 dt cD kK dC lQ uJ sO fH e7 ae aB aK eW eV eU eC eF gE az fin aP aE aD vS xd gO gW ry uK sP xe xf xg gB gR rz uL sQ xh xi
theorem ahZ {i:Int} {r:dq} (h:getM i Mf=some r):r.id=i:=by
 have hm:=ka h;simp only [Mf,List.mem_cons,Prod.mk.injEq,List.not_mem_nil,or_false] at hm;rcases hm with⟨rfl,rfl⟩|⟨rfl,rfl⟩<;>rfl
abbrev zX:Value:=.slice none 0 0
theorem Xs {w:World} {X:XS} :Ct pg 4 #[] w X nX fun v w1 w2=>v=B true:=by
 intro w0 hk;apply Jy;unfold zY;have hs:=aj.init w0;refine dp OY kQ hs.has ?_;rintro _ wa w1 X1 ⟨db,rfl,LP⟩ hle fP ao;replace hs:=hs.trans ao;have dU:Ft w0 nX w1 X1 (fun k=>made wa w1 k):=⟨hs.less (fun k af=>af.1),fun k af=>fP k af,fun k af=>.inr (ah hle af.1)⟩;repeat' first|refine aJ ?_;intros
 refine dp abZ kQ hs.has ?_;rintro vl wb w2 X2 nW qI nV bU;have cW:=dU.since bU;have IB:=LP.mv (bU.fZ fun k af=>dU.bK k af);refine cW.call (HA IB (cW.fx fun _ h=>h) (nW.sl.mv (Mv.sub nV))) kQ (fun _ h=>h) fun v uQ w3 X3 hq nZ mz nm c3=>?_;rw [DB,if_neg (by rw [afY];decide),ahV] at hq;obtain⟨nb,c,mb,N,D,G,L,m,rfl,hN,hG,e1,e2,e3,h3,Ng⟩:=hq;have dE:Ft w0 nX w3 X3 (fun k=>N k∨G k):=nm.less fun k af=>af.elim (fun e=>.inr (hN k e)) (hG k);clear hs nm ao bU;have hs:=aj.ct dE.s.has;repeat' first|refine bD ?_;intros
 refine Tx (rows:=E6.map fw.l) (E6.map fw.l).flatten.toArray (.agg #[I 0,.string ⟨#[]⟩,I 0,.float .f64 0,.string ⟨#[]⟩]) hs.has (bytes:=56) kQ kQ zQ zQ kQ (by simp) rfl rfl fun a w4 X4 fq B7=>?_;have aaf:FX N X3 w3:=fun k af=>⟨dE.bK k (.inl af),dE.s.has k (dE.bK k (.inl af))⟩;have fm:=dE.since fq;have ad5:FX N X4 w4:=fun k af=>⟨fm.bK k (.inl af),fm.s.has k (fm.bK k (.inl af))⟩;have alG:FX G X4 w4:=fun k af=>⟨fm.bK k (.inr af),fm.s.has k (fm.bK k (.inr af))⟩;have h4:=h3.since (fun k af=>(aaf k af).1) (fun k af=>dE.bK k (.inr af)) fq;have YI:N nb:=(h4.uZ _).2 (.inl rfl);have nab:N c.ab:=(h4.uZ _).2 (.inr (.inl rfl));have ncb:N c.cb:=(h4.uZ _).2 (.inr (.inr (.inr (.inl rfl))));have nF: ∀k,(k=nb∨k=c.ab∨k=c.cb)→N k:=fun k e=>by rcases e with rfl|rfl|rfl<;>assumption
 have hA: ∀k,cY a k→X4 k∧k≠nb∧k≠c.ab∧k≠c.cb:=fun k af=>by
  have z1:=(B7.ge af).1;refine⟨B7.2.2 k af,?_,?_,?_⟩<;>(rintro rfl;first|(have:=(aaf _ YI).2;omega)|(have:=(aaf _ nab).2;omega)|(have:=(aaf _ ncb).2;omega))
 refine fm.call (Ji (p:=E6) (eh:=5) h4.row h4.am h4.UI h4.dir (fun i r=>ahZ) (by rw [h4.cm];rfl) (fun k e=>ad5 k (nF k e)) (fun k e=>ad5 k ((h4.uZ k).2 (.inr (.inr (.inr (.inr e)))))) (fun k e=>⟨(h4.dd k e).1,(h4.dd k e).2.1,(h4.dd k e).2.2.2⟩)
  (tg B7 (Y:=cY a) fun g hg=>hg).sl hA (by decide) zQ zQ zQ (by decide) (by decide)) kQ (fun k e=>.inl (nF k e)) fun v Ys w5 X5 hq P8 Jb uD c5=>?_
 obtain⟨xb,x,vm,va,vw,K,mV,rm,ra,rw5,ms,ws,uk,q⟩:=hq;rcases q.res with⟨_,hb|hb⟩|⟨hra,_,OZ,yH,⟨hb,_⟩|⟨_,wr,hgp,alH,Oa,ad6,hsq,YJ,hws⟩⟩
 ·exact absurd af0 hb
 ·exact absurd afZ (hb.2 _)
 ·exact absurd Nk hb
 obtain rfl:=Xr hgp;rw [R8] at hsq;rw [ad2] at YJ hws;obtain⟨h5,ccX,ccK,ccG⟩:=ad4 (ps:=[1]) h4 ad5 alG q P8 Jb c5 hsq;have hv:=q.v;have OM:=q.dK;have Yq:=q.om;have hhm:=q.hm;have hoa:=q.oa;subst hra;rw [e1,e2,e3,Int.zero_add] at hv OM OZ;have jK:=q.UI;have qf:=q.f;obtain⟨m1,oL,k1,t1⟩: ∃m1:dF,ms=[m1]∧m1.kind=3∧m1.to=1:=⟨_,YJ,rfl,rfl⟩;obtain⟨y,hy1,hy2⟩: ∃y:dF,ws=[y]∧y.range=1:=⟨_,hws,rfl⟩;clear YJ hws q hs;subst oL hy1 hv;obtain⟨l0,rfl⟩: ∃l0,rm=[l0]:=List.length_eq_one_iff.1 hhm.1;obtain⟨u1,u2,u3,u4,u5,u6,u7,u8,rfl,ef⟩:=hhm.2 0 l0 m1 rfl rfl;obtain⟨vmb,vmn,vmc,rfl⟩:=Yq.form;obtain⟨vab,van,vac,rfl⟩:=hoa.form;have ff:Ft w0 nX w5 X5 (fun k=>N k∨G k∨made Ys w5 k):=uD.less fun k af=>by rcases af with e|e|e<;>simp [e]
 have hs:=aj.ct ff.s.has;repeat' first|refine aJ ?_;intros
 refine ff.call (SI (m:=Mh) (vk:=zX) (vs:=zX) (fy:=zX) (vp:=zX) (vr:=zX) (vc:=zX) (vh:=zX) (vd:=zX) (eh:=5) h5 jK ccX ccK ccG h4.cm Ng (by decide) (by rw [OZ];rfl) alH Oa (by decide) hy2 rfl abY (by rw [e1];decide)
  (by rw [OM,ad6,show Mh.bF=Mg from rfl,Nl];exact ahW) (by rw [OM,ad6,show Mh.bF=Mg from rfl,Nl];exact ahX)
  ⟨Sl.nil _ _ _,Sl.nil _ _ _,Sl.nil _ _ _,Sl.nil _ _ _,Sl.nil _ _ _,en.nil _ _ _,en.nil _ _ _,en.nil _ _ _⟩ abX ad3 af1 (by rw [e1];rfl) rfl) kQ (fun k e=>by
   rcases e with e|e|e|e
   ·exact(qf k e).elim (fun e=>.inl (e▸YI)) fun e=>e.elim (fun e=>.inl (e▸nab)) fun e=>.inr (.inr e)
   ·exact .inl (e▸ncb)
   ·exact .inl (e▸(h4.uZ _).2 (.inr (.inr (.inl rfl))))
   ·exact .inr (.inl e)) fun v Yi w6 X6 hq PO FK uz c6=>?_
 rw [abP,OM,ad6,show Mh.bF=Mg from rfl,Nl] at hq;obtain⟨c6',vm6,va6,vs6,K6,rm6,rfl,ad7,aag,ad8,Dq,ah0,am3,gX⟩:=hq;obtain⟨m6,IT,cm6⟩: ∃m6:dF,(([1]:List Int).map fun id=>(Nf (rK tEx Mg [1]) id).l9 (20+c.id))=[m6]∧m6.kM=true:=⟨_,rfl,rfl⟩;rw [IT] at aag;obtain⟨l6,rfl⟩:=List.length_eq_one_iff.1 aag.1;obtain⟨p1,p2,p3,p4,p5,p6,p7,p8,rfl,Gw⟩:=aag.2 0 l6 m6 rfl rfl;obtain⟨mb6,mn6,mc6,rfl⟩:=ad7.form;obtain⟨ab6,an6,ac6,rfl⟩:=ad8.form;have Sa: ∀k,K k→X6 k∧w6.heap[k]? =w5.heap[k]? :=fun k af=>⟨c6.sub k (h5.fk k af).1,c6.block k (h5.fk k af).1 fun e=>by
  rcases e with e|e|e|e
  ·exact h5.m.kd k af e
  ·exact ccK (e▸af)
  ·exact h5.nn.1 (e▸af)
  ·exact(h5.dj k e).1 af⟩
 have hFX: ∀k,(cF nb xb c.ab aN aN vw aN k∨k=c.cb∨k=c.bb∨G k)→X5 k:=fun k e=>by
  rcases e with e|e|e|e
  ·exact(h5.fc k e).1
  ·exact e▸ccX
  ·exact e▸h5.bX
  ·exact(h5.fg k e).1
 have ad9: ∀k,K6 k→X6 k:=fun k af=>by
  rcases gX k af with e|e|e
  ·exact c6.sub k (hFX k e)
  ·exact(Sa k e).1
  ·exact FK k e
 have a1:Sl w6 X6 36 (.slice vmb vmn vmc) ([()].map fun _:Unit=>m1.l u1 u2 u3 u4 u5 u6 u7 u8):=Yq.mv fun k af _=>Sa k af;have a2:Sl w6 X6 9 (.slice vab van vac) (([]:List (List Value)).map id):=hoa.mv fun k af _=>Sa k af;have a3:Sl w6 X6 36 (.slice mb6 mn6 mc6) ([()].map fun _:Unit=>m6.l p1 p2 p3 p4 p5 p6 p7 p8):=ad7.mv (Mv.sub ad9);have a4:Sl w6 X6 9 (.slice ab6 an6 ac6) ([()].map fun _:Unit=>UD 0 tEx Mg false vs6):=ad8.mv (Mv.sub ad9);have bJ:=Dq.mono fun k (af:k=nb)=>af▸(c6.sub nb (ff.bK nb (.inl YI)));have b1:=ef.keys.one;have b2:=ef.seen.one;have b3:=ef.writes.one;have b4:=ef.parts.one;have b5:=ef.ranges.one;have b6:=ef.gd.one;have b7:=ef.fV.one;have b8:=ef.fB.one;have d1:=Gw.keys.one;have d2:=Gw.seen.one;have d3:=Gw.writes.one;have d4:=Gw.parts.one;have d5:=Gw.ranges.one;have d6:=Gw.gd.one;have d7:=Gw.fV.one;have d8:=Gw.fB.one;have ajH:c6'.ga=1:=ah0.trans e2;have UR:[()][0]? =some ():=rfl;clear hs h5 Yq hoa ad7 ad8 ef Gw hhm aag hFX Sa ad9 gX Dq jK qf h4 h3;have hs:=aj.ct uz.s.has;repeat' first|refine bD ?_;intros|refine dM ?_ ?_<;>intros|(with_reducible apply Vg);(· kernel_rfl);all_goals intros|with_reducible apply dx|(exfalso;omega)|(exfalso;simp only [List.length_cons,bI] at*;omega)
 rw [cm6];repeat' first|refine aJ ?_;intros|with_reducible apply dx
 refine gC (Vb bJ (fun _ h=>h)) kQ hs.has fun w7 X7 gG=>?_;rw [ajH];repeat' first|refine bD ?_;intros
 exact av (uz.kW.trans gG) fun _ _=>rfl
end Go.Proofs.YtbpnemeooenpmaaGreat
namespace Go.Proofs.YtbpnemeooenpmaaGreat
open Go.Proofs.Tryz renaming prog → pg
open Go.aV
set_option maxRecDepth 100000
set_option maxHeartbeats 1000000
set_option linter.unusedVariables false
def jA (m:dF):List BA:=m.keys++m.writes.map (·.key)
structure OkM (l:List dq) (rd:Bool) (m:dF):Prop where
 key: ∀k∈jA m,k.size≤2^62∧ ∃r,findF l (placeOf k)=some r∧r.id=m.to∧r.gx=m.gx
 rg:m.range=m.to
 fr:m.fr=21
 kind:m.kind=if rd then 1 else 3
 ne:jA m≠[]
section
variable {l : List dq} {p : List fw} {x : oN} {ck : cw} {eh : Int} {wr : rC}
theorem KR (h:Bv l) (i:Int) (r:dq) (hg:getM i (l.foldl eH [])=some r):r.id=i:=((Yv h i r).1 hg).2
theorem ab0 {ds:gJ} {k:BA} {r:dq} (h:iX ds k=some r):k.size≤24:=by
 unfold iX at h;split at h
 ·rename_i hg;unfold gn at hg;simp only [aW,decide_eq_true_eq] at hg;omega
 ·cases h
theorem af2 {ds:gJ} (h:mC p ck eh ds=0):iM p=0∧(gp ds [] (dW 1 1 p)).2=0:=by
 unfold mC at h;split at h
 ·omega
 ·split at h
  ·omega
  ·omega
theorem aea (h:iM p=0):p.length≤40:=by
 unfold iM at h;split at h
 ·omega
 ·omega
theorem YK (h:Bv l) {k:BA} {r:dq} (hr:iX (l.foldl eH []) k=some r):k.size≤2^62∧findF l (placeOf k)=some r:=
 ⟨ah (ab0 hr) (by decide),ZH h hr⟩
theorem aeb (h:Bv l) (hg:(gp (l.foldl eH []) [] (dW 1 1 p)).2=0): ∀m∈(qW (l.foldl eH []) p).map (fun m=>(m.asked x).l9 (20+1)),OkM l true m:=by
 intro m hm;obtain⟨m0,Yl,rfl⟩:=List.mem_map.1 hm;obtain⟨g,oK,rfl⟩:=List.mem_map.1 Yl;have mg:=Dw (KR h) hg;have e:jA (((xH g).asked x).l9 (20+1))=g.keys:=by simp [jA,xH,dF.asked,dF.l9,uE]
 refine⟨fun k hk=>?_,rfl,rfl,rfl,by rw [e];exact mg.full g oK⟩;rw [e] at hk;have h1:=YK h (mg.own g oK k hk).2;exact⟨h1.1,g.lE,h1.2,rfl,rfl⟩
theorem ab1 (h:Bv l) (hg:(gp (l.foldl eH []) [] (dW 1 1 p)).2=0):(((qW (l.foldl eH []) p).map (fun m=>(m.asked x).l9 (20+1))).map fun m=>(jA m).length).sum=(dW 1 1 p).length:=by
 rw [qW,dr,dr];have:=OI (Md 1 1 p) hg;rw [←this]
 congr 1
 exact fD fun g _=>by simp [jA,xH,dF.asked,dF.l9,uE]
theorem aec (h:Bv l) (hg:(gp (l.foldl eH []) [] (keysOf wr)).2=0): ∀m∈(lV (l.foldl eH []) wr).map (fun m=>(m.asked x).l9 (20+1)),OkM l false m:=by
 intro m hm;obtain⟨m0,Yl,rfl⟩:=List.mem_map.1 hm;obtain⟨g,oK,rfl⟩:=List.mem_map.1 Yl;have mg:=Dw (KR h) hg;have e:jA (((vI ((fb (l.foldl eH []) wr).map (·.lE.id)) (dB wr) g).asked x).l9 (20+1))=((dB wr).filter fun w=>g.keys.any fun y=>decide (w.key=y)).map (·.key):=by simp [jA,vI,dF.asked,dF.l9,uE]
 refine⟨fun k hk=>?_,rfl,rfl,rfl,?_⟩
 ·rw [e] at hk;obtain⟨w,hw,rfl⟩:=List.mem_map.1 hk;have h1:=YK h (mg.own g oK w.key (ze.1 (List.mem_filter.1 hw).2)).2;exact⟨h1.1,g.lE,h1.2,rfl,rfl⟩
 ·rw [e];obtain⟨k,hk⟩:=List.exists_mem_of_ne_nil _ (mg.full g oK);have h1:=(mg.own g oK k hk).1;rw [←zy] at h1;obtain⟨w,hw,rfl⟩:=List.mem_map.1 h1;exact List.ne_nil_of_mem (List.mem_map.2 ⟨w,List.mem_filter.2 ⟨hw,ze.2 hk⟩,rfl⟩)
theorem ab2 (h:Bv l) (hg:(gp (l.foldl eH []) [] (keysOf wr)).2=0):(((lV (l.foldl eH []) wr).map (fun m=>(m.asked x).l9 (20+1))).map fun m=>(jA m).length).sum=(dB wr).length:=by
 have mg:=Dw (KR h) hg;rw [lV,dr,dr];have:=RX (gs:=fb (l.foldl eH []) wr) (p:=fun g w=>g.keys.any fun y=>decide (w.key=y)) (l:=dB wr) fun w hw=>abM mg (by rw [←zy];exact List.mem_map.2 ⟨w,hw,rfl⟩);rw [←this]
 congr 1
 exact fD fun g _=>by simp [jA,vI,dF.asked,dF.l9,uE]
end
end Go.Proofs.YtbpnemeooenpmaaGreat
namespace Go.Proofs.YtbpnemeooenpmaaGreat
open Go.Proofs.Tryz renaming prog → pg
open Go.aV
set_option maxRecDepth 100000
set_option maxHeartbeats 4000000
set_option linter.unusedVariables false
set_option maxRecDepth 100000
set_option maxHeartbeats 1000000
set_option linter.unusedVariables false
set_option linter.unusedSimpArgs false
attribute [local irreducible] un jn aC aS ld1 dY st1 dt cD kK dC lQ uJ sO fH e7 ae aB aK eW eV eU eC eF gE az fin aP aE aD vS xd gO gW ry uK sP xe xf xg gB gR rz uL sQ xh xi
theorem aah {l:List dq} {p:List fw} {ms:List dF} {x:oN} {ck:cw} {eh:Int} (hc:qP l=0) (zR:mC p ck eh (l.foldl eH [])=0)
  (h:(dW 1 1 p≠[]∧ms=(qW (l.foldl eH []) p).map fun m=>(m.asked x).l9 (20+1))∨(dW 1 1 p=[]∧ ∃wr,xC p (l.foldl eH []) wr∧ms=(lV (l.foldl eH []) wr).map fun m=>(m.asked x).l9 (20+1))):
  ∃T:Nat,(∀m∈ms,OkM l (decide (dW 1 1 p≠[])) m)∧(ms.map fun m=>(jA m).length).sum=T∧T≤40∧
   ((dW 1 1 p≠[]∧T=(dW 1 1 p).length)∨(dW 1 1 p=[]∧ ∃s wr,runM p [] []= .ok (s,wr)∧T=(dB wr).length)):=by
 obtain⟨yH,hg⟩:=af2 zR;have hl:=aea yH;rcases h with⟨h1,rfl⟩|⟨h1,wr,⟨_,⟨s,h2⟩,_,h4⟩,rfl⟩
 ·rw [decide_eq_true h1];exact⟨_,aeb (Cm hc) hg,ab1 (Cm hc) hg,ah Du hl,.inl ⟨h1,rfl⟩⟩
 ·rw [decide_eq_false (by simp [h1])];refine⟨_,aec (Cm hc) h4,ab2 (Cm hc) h4,?_,.inr ⟨h1,s,wr,h2,rfl⟩⟩;have:=(RQ yH h2).2.1;rw [dB,aH,(kI _).length_eq,aH];exact this
theorem af3 {P:Program} {X X0:XS} {w w0:World} {N:Value→Prop} {t:TypeId} {v:Value} {xs:List dF} {i:Nat} {z:Int} {x:dF} (h:en w0 X0 36 v dF.rd xs) (hr:xs[i]? =some x)
  (hz:z=i) (ht:P.underlying t=some (.slice (P.elem t))) (hs:(P.info? (P.elem t)).map (·.size)=some 36)
  (n: ∀b o vk vs vw vp vr vc vh vd,aV.one vk=true→aV.one vs=true→aV.one vw=true→aV.one vp=true→aV.one vr=true→aV.one vc=true→aV.one vh=true→aV.one vd=true→Cells w0 X0 b o (x.l vk vs vw vp vr vc vh vd)→x.at w0 X0 vk vs vw vp vr vc vh vd→N (ptr b o)):ae P X w (dt t 36 v (.int .i64 z)) N:=
 Bt h hr hz ht hs fun b o _ hc ⟨vk,vs,vw,vp,vr,vc,vh,vd,hl,h1⟩=>n b o vk vs vw vp vr vc vh vd h1.keys.one h1.seen.one h1.writes.one h1.parts.one h1.ranges.one h1.gd.one h1.fV.one h1.fB.one (hl▸hc) h1
theorem Iz {w:World} {X:XS} {v vp:Value} {r:List Value} {p:List fw} (h:Sl w X 41 v [r]) (hr:r=(⟨0,0,0,uE,p,[]⟩:tG).l zX zX zX zX zX zX zX zX vp zX) (hp:Sl w X 5 vp (p.map fw.l)):en w X 41 v tG.rd [⟨0,0,0,uE,p,[]⟩]:=
 ⟨_,h,rfl,fun i l x hl hx=>by
  cases i with
  |zero=>
   cases hl;cases hx;exact⟨_,_,_,_,_,_,_,_,_,_,hr,⟨⟨Sl.nil _ _ _,Sl.nil _ _ _,Sl.nil _ _ _,Sl.nil _ _ _,Sl.nil _ _ _,en.nil _ _ _,en.nil _ _ _,en.nil _ _ _⟩,hp,Sl.nil _ _ _⟩⟩
  |succ i=>simp at hx⟩
theorem Lk {w:World} {X:XS} {a vp:Value} {l:List dq} {p:List fw} {eh:Int} (ha:Sl w X 4 a (l.map dq.l)) (hp:Sl w X 5 vp (p.map fw.l)):
  Ct pg 3 #[a,I eh,vp] w X nX fun v w1 w2=>v=B true:=by
 obtain⟨ab,an,ac,rfl⟩:=ha.form;obtain⟨pb,pn,pc,rfl⟩:=hp.form;intro w0 hk;replace ha:=ha.mv hk.dD;replace hp:=hp.mv hk.dD;have jT:=ha.gy;have hlp:=hp.gy;have tH: ∀{w:World} {X:XS} {K:Value→World→XS→Prop},aj (aR w0) w0 X w→(∀w' X',aj X w X' w'→K (B true) w' X')→eC pg (xt nX w0 fun v w'=>(fun v w1 w2=>v=B true) v w0 w') X w true 4 #[] K:=fun hs k=>
  gC Xs kQ hs.has k
 apply Cv;unfold tI;have hs:=aj.init w0;refine tH hs fun w1 X1 ao=>?_;replace hs:=hs.trans ao;have oc: ∀{w:World} {X:XS},aj (aR w0) w0 X w→eC pg (xt nX w0 fun v w'=>(fun v w1 w2=>v=B true) v w0 w') X w true 4 #[] fun x w X=>fin (xt nX w0 fun v w'=>(fun v w1 w2=>v=B true) v w0 w') X w x:=fun hs=>tH hs fun w2 X2 bU=>av (hs.trans bU) fun _ _=>rfl;by_cases hp1:p.length>100
 ·repeat' first|refine bD ?_;intros|with_reducible apply dx
  exact oc hs
 repeat' first|refine bD ?_;intros|(with_reducible apply FY);(case hX=>exact hs.has);(case he=>kernel_rfl);(case hk=>rfl);intro acc w X ao ho;obtain⟨_,_,_,rfl⟩:=ho.sl.form;replace hs:=hs.trans ao|with_reducible apply dx
 refine dp (abR (xs:=[⟨0,0,0,uE,p,[]⟩]) (Iz ho.sl rfl (hp.mv hs.mv))) kQ hs.has ?_;rintro _ wa w X ⟨bf,rfl⟩ hle fP bU;replace hs:=hs.trans bU;clear ho;cases bf with
 |false=>
  repeat' first|refine aJ ?_;intros
  exact oc hs
 |true=>
  repeat' first|refine aJ ?_;intros|refine dM ?_ ?_<;>intros
  ·exact oc hs
  refine dp OY kQ hs.has ?_;rintro _ mu w4 X4 ⟨db,rfl,LP⟩ qg lI fq;have LX:=hs.kp.size;replace hs:=hs.trans fq;have fm:Ft w0 nX w4 X4 (fun k=>made mu w4 k):=⟨hs.less (fun k af=>af.1),fun k af=>lI k af,fun k af=>.inr (ah LX (ah qg af.1))⟩;refine fm.call (HA (l:=l) LP (fm.fx fun _ h=>h) (ha.mv hs.mv)) kQ (fun _ h=>h) fun v Ys w5 X5 hq P8 Jb uD c5=>?_;by_cases hc:qP l=0
  ·rw [DB,if_neg (by rw [hc];decide)] at hq;obtain⟨nb,c,mb,N,D,G,L,m,rfl,hN,hG,e1,e2,e3,h5,Ng⟩:=hq;have ff:Ft w0 nX w5 X5 (fun k=>N k∨G k):=uD.less fun k af=>af.elim (fun e=>.inr (hN k e)) (hG k);clear hs uD ao bU fq fm;have hs:=ff.kW;have hp5:=hp.mv hs.mv;have Vh:FX N X5 w5:=fun k af=>⟨ff.bK k (.inl af),ff.s.has k (ff.bK k (.inl af))⟩;have YI:N nb:=(h5.uZ _).2 (.inl rfl);have nab:N c.ab:=(h5.uZ _).2 (.inr (.inl rfl));have ncb:N c.cb:=(h5.uZ _).2 (.inr (.inr (.inr (.inl rfl))));have nF: ∀k,(k=nb∨k=c.ab∨k=c.cb)→N k:=fun k e=>by rcases e with rfl|rfl|rfl<;>assumption
   have hA: ∀k,aR w0 k→X5 k∧k≠nb∧k≠c.ab∧k≠c.cb:=fun k af=>by
    refine⟨hs.sub k af,?_,?_,?_⟩<;>(rintro rfl;first|exact ff.no (.inl YI) ⟨af,nofun⟩|exact ff.no (.inl nab) ⟨af,nofun⟩|exact ff.no (.inl ncb) ⟨af,nofun⟩)
   have YM:Sl w5 (aR w0) 5 (.slice pb pn pc) (p.map fw.l):=hp.mv fun k af _=>⟨af,hs.kp.block k af⟩;repeat' first|refine bD ?_;intros
   refine ff.call (Ji (p:=p) (eh:=eh) h5.row h5.am h5.UI h5.dir (KR (Cm hc)) (by rw [h5.cm];rfl) (fun k e=>Vh k (nF k e)) (fun k e=>Vh k ((h5.uZ k).2 (.inr (.inr (.inr (.inr e)))))) (fun k e=>⟨(h5.dd k e).1,(h5.dd k e).2.1,(h5.dd k e).2.2.2⟩)
    YM hA zQ zQ zQ zQ (by decide) (by decide)) kQ (fun k e=>.inl (nF k e)) fun v Yi w6 X6 hq PO FK uz c6=>?_
   obtain⟨xb,x,vm,va,vw,K,mV,rm,ra,rw5,ms,ws,uk,q⟩:=hq;have hv:=q.v;subst hv;have zL:=uz.kW;have hp6:=hp.mv zL.mv;have hDN: ∀k,D k→N k:=fun k e=>(h5.uZ k).2 (.inr (.inr (.inr (.inr e))));have Sa: ∀k,K k→X6 k:=fun k e=>(q.k1 k e).elim (fun e=>c6.sub k (Vh k (hDN k e)).1) (FK k);have om6:=q.om.mv (Mv.sub Sa);have oa6:=q.oa.mv (Mv.sub Sa);have IT:jo w6 X6 rm ms:=q.hm.mv (Mv.sub Sa);obtain⟨vmb,vmn,vmc,rfl⟩:=om6.form;obtain⟨vab,van,vac,rfl⟩:=oa6.form;have Dq:=q.mid.row.mono fun k (af:k=nb)=>af▸(c6.sub nb (Vh nb YI).1);have ah1:dR w6 X6 nX c.ab (fun k:dc=>k.v) nG mV:=q.mid.am.mv fK (Mv.sub fun k (af:k=c.ab)=>af▸(c6.sub c.ab (Vh _ nab).1)) fun _ h=>h.elim;have hW6:en w6 X6 36 (.slice vmb vmn vmc) dF.rd ms:=⟨rm,om6,IT.1,IT.2⟩;have tB:=q.res;rw [e1] at tB;clear hs q om6 IT hp5 YM hA;have hs:=aj.ct uz.s.has;have oa7:Sl w6 X6 9 (.slice vab van vac) (ra.map id):=by rw [List.map_id];exact oa6
   repeat' first|refine bD ?_;intros|with_reducible apply dx
   refine gC (Cc hp6) kQ hs.has fun w7 X7 gG=>?_;have kC:=uz.since gG;by_cases yH:iM p=0
   ·rw [yH];replace oa7:=oa7.mv gG.mv;rcases tB with⟨hra,_⟩|⟨rfl,zR,OZ,_,tB⟩
    ·clear hs;have hs:=gG;repeat' first|refine bD ?_;intros
     refine tH kC.kW fun w8 X8 mh=>?_;repeat' first|refine bD ?_;intros
     exact av (kC.kW.trans mh) fun _ _=>rfl
    ·clear hs;have hs:=aj.ct gG.has;repeat' first|refine bD ?_;intros|refine dM ?_ ?_<;>intros|(exfalso;simp only [bI] at*;omega)
     obtain⟨T,hOk,alI,am4,ajI⟩:=aah (ms:=ms) (x:=x) hc zR (tB.imp id fun ⟨h1,wr,h2,_,_,_,_,h3,_⟩=>⟨h1,wr,h2,h3⟩);clear tB;refine dp (tp (hp6.mv gG.mv) zQ) kQ hs.has ?_;rintro vr wa8 w8 X8 hor adl UC mh;have hsr:=hor.sl.mv (Mv.sub UC);obtain⟨rb,rn,rc,rfl⟩:=hsr.form;have od:=kC.since mh;have hW8:=en.mv hW6 dF.mv (gG.trans mh).mv;have Tw:=Dq.since (gG.trans mh);have ZR:=ah1.mv fK (gG.trans mh).mv (A':=nX) fun _ h=>h.elim;have ha8:=ha.mv od.kW.mv;have hp8:=hp.mv od.kW.mv;have hlm:=hW8.len;clear hs gG mh hW6 Dq ah1 hp6 oa6 oa7 kC uz c6 hor;have hs:=od.kW;refine Of (fun n a b _ _ _ w X=> ∃i:Nat,a=I (i:Nat)∧b=I ((((ms.take i).map fun m=>(jA m).length).sum:Nat):Int)∧n=ms.length-i∧i≤ms.length∧aj X8 w8 X w) ms.length ⟨0,rfl,rfl,rfl,aF _,aj.ct od.s.has⟩ ?_;rintro n a b _ _ _ w X ⟨i,rfl,rfl,rfl,hi,EJ⟩;clear hs;have hs:=EJ;rcases ew ms i with⟨dy,y,hy,hd⟩|⟨dV,hd⟩
     ·obtain⟨z1,z2,z3,z4,z5⟩:=hOk y (cj hy);have hsi:((ms.take (i+1)).map fun m=>(jA m).length).sum=((ms.take i).map fun m=>(jA m).length).sum+(jA y).length:=by
       rw [cC,hy];simp
      have yE:((ms.take (i+1)).map fun m=>(jA m).length).sum≤T:=by
       have h9:=congrArg (fun z:List dF=>(z.map fun m=>(jA m).length).sum) (List.take_append_drop (i+1) ms);simp only [List.map_append,List.sum_append_nat] at h9;omega
      have RR:(jA y).length=y.keys.length+y.writes.length:=by simp [jA]
      have Ma:0<(jA y).length:=List.length_pos_iff.2 z5;have hzk:(y.kind=1∧0<(dW 1 1 p).length)∨(y.kind=3∧(dW 1 1 p).length=0):=by
       by_cases h9:dW 1 1 p=[]
       ·rw [decide_eq_false (by simp [h9])] at z4;exact .inr ⟨z4,by rw [h9];rfl⟩
       ·rw [decide_eq_true h9] at z4;exact .inl ⟨z4,List.length_pos_iff.2 h9⟩
      clear z4;repeat' first|refine bD ?_;intros|(with_reducible apply af3);(case h=>assumption);(case hr=>exact hy);(case hz=>rfl);(case ht=>kernel_rfl);(case hs=>kernel_rfl);intro bm om vk vs vw vp vr vc vh vd o1 o2 o3 o4 o5 o6 o7 o8 lD aai
      obtain⟨kb,kn,kc,rfl⟩:=aai.keys.form;obtain⟨tb,tn,tc,rfl⟩:=aai.writes.form;refine qQ (bytes:=16) (X0:=X8) (w0:=w8) (rows:=[]) (Own.nil _ _ _ _ _) hs od.s.has kQ (aai.keys.mv hs.mv) (by simp [aV.one]) (by simp only [aH,bI];omega) (by simp only [aH,bI];omega) fun v4 w4 X4 fq B7 EK MP=>?_;refine fN (fun n a b w X=> ∃k:Nat,a=I (k:Nat)∧n=y.writes.length-k∧k≤y.writes.length∧aj X8 w8 X w∧Own w X w8.heap.size 9 1 b ((y.keys++(y.writes.take k).map (·.key)).map S1)) y.writes.length ⟨0,rfl,rfl,aF _,fq,by simpa using B7⟩ ?_;rintro n a b w X ⟨k,rfl,rfl,xD,OQ,tj⟩;clear hs;have hs:=OQ;obtain⟨bb,bn,bc,rfl⟩:=tj.sl.form;have hwr:=aai.writes;rcases ew y.writes k with⟨ac3,z,hz,nR⟩|⟨MI,nR⟩
      ·repeat' first|refine bD ?_;intros|(with_reducible apply IF);(case hX=>exact hs.has);(case he=>kernel_rfl);(case ho=>first|rfl|assumption);(case hk=>rfl);intro acc w X ao ho;obtain⟨_,_,_,rfl⟩:=ho.sl.form;replace hs:=hs.trans ao
       refine qQ (bytes:=16) (X0:=X8) (w0:=w8) (tj.since ao) hs od.s.has kQ ho.sl (by simp [aV.one]) (by simp only [aH,au,bW,bu];omega) (by simp only [aH,au,bW,bu];omega) fun v5 w5 X5 ti jU rU uB=>?_;repeat' first|refine aJ ?_;intros
       exact fJ (y.writes.length-(k+1)) zQ ⟨k+1,by simp,rfl,by omega,ti,by simpa [cC,hz] using jU⟩
      ·have AR:Sl w X 1 (.slice bb bn bc) ((jA y).map S1):=by
        have:=tj.sl;rw [bA MI] at this;exact this
       have hTb:=od.since OQ;have s9:=ha8.mv OQ.mv;clear hs;have hs:=OQ;repeat' first|refine bD ?_;intros
       clear hs;refine fR (fun n a w1 X1=> ∃j:Nat,a=I (j:Nat)∧n=(jA y).length-j∧j≤(jA y).length∧aj X w X1 w1) (jA y).length ⟨0,rfl,rfl,aF _,aj.ct OQ.has⟩ ?_;rintro n a w1 X1 ⟨j,rfl,rfl,hj,fL⟩;have hs:=fL;rcases ew (jA y) j with⟨alJ,kk,wC,L6⟩|⟨alK,L6⟩
       ·obtain⟨zs,r,hf,uY,qU⟩:=z1 kk (cj wC);repeat' first|refine bD ?_;intros|((with_reducible refine ee (Bn _ (by first|assumption|omega)) ?_ hs.has ?_);(· kernel_rfl);intro w X ao;replace hs:=hs.trans ao)
        refine gC (Ve (x:=placeOf kk) (s9.mv hs.mv)) kQ hs.has fun w3 X3 ea=>?_;replace hs:=hs.trans ea;rw [hf];simp only [Option.getD_some,Option.isSome_some];repeat' first|refine bD ?_;intros
        exact fh ((jA y).length-(j+1)) zQ ⟨j+1,by simp,rfl,by omega,hs⟩
       ·rcases hzk with⟨q1,q2⟩|⟨q1,q2⟩
        ·repeat' first|refine bD ?_;intros
         refine Qe kQ ?_;repeat' first|refine bD ?_;intros
         exact Ud (ms.length-(i+1)) zQ ⟨i+1,by simp,by rw [hsi];simp,rfl,by omega,OQ.trans fL⟩
        ·repeat' first|refine bD ?_;intros
         refine Qe kQ ?_;repeat' first|refine bD ?_;intros
         exact Ud (ms.length-(i+1)) zQ ⟨i+1,by simp,by rw [hsi];simp,rfl,by omega,OQ.trans fL⟩
     ·have Hx:ms.take i=ms:=bA dV;rw [Hx,alI];have hT:=od.since EJ;rcases ajI with⟨q1,rfl⟩|⟨q1,s,wr,jG,rfl⟩
      ·have q2:=List.length_pos_iff.2 q1;repeat' first|refine bD ?_;intros
       refine tH hT.kW fun w9 X9 xz=>?_;repeat' first|refine bD ?_;intros
       exact av (hT.kW.trans xz) fun _ _=>rfl
      ·have q2:(dW 1 1 p).length=0:=by rw [q1];rfl
       repeat' first|refine bD ?_;intros
       refine dp (LV (hp8.mv EJ.mv) q1) kQ hs.has ?_;rintro v C7 w9 X9 L9 ZD I9 xz;rw [if_neg (by rw [yH];decide),jG] at L9;obtain⟨vl,rfl,ID⟩:=L9;replace ID:=ID.mv (Mv.sub I9);have lT:=hT.since xz;clear hs;have hs:=aj.ct xz.has;repeat' first|refine aJ ?_;intros
       refine tH lT.kW fun Me Jo Vi=>?_;have xE:=lT.since Vi;have bJ:=Tw.since ((EJ.trans xz).trans Vi);have Dz:=ZR.mv fK ((EJ.trans xz).trans Vi).mv (A':=nX) fun _ h=>h.elim;replace ID:=ID.mv Vi.mv;clear hs;have hs:=aj.ct Vi.has;repeat' first|refine bD ?_;intros|with_reducible apply dx
       refine dp (Qj bJ (fun _ h=>h) Dz (by rw [OZ];exact Nat.le_refl 1)) kQ hs.has ?_;rintro va am5 w11 X11 ⟨ts,hts,alL⟩ amG ajJ Qc;have wD:=alL.sl.mv (Mv.sub ajJ);have am6:ts.length=1:=by rw [hts,OZ];rfl
       clear hs;have hs:=aj.ct Qc.has;repeat' first|refine bD ?_;intros
       exact av (xE.since Qc).kW fun _ _=>rfl
   ·clear hs;have hs:=gG;repeat' first|refine bD ?_;intros
    refine tH kC.kW fun w8 X8 mh=>?_;repeat' first|refine bD ?_;intros
    exact av (kC.kW.trans mh) fun _ _=>rfl
  ·rw [DB,if_pos hc] at hq;subst hq;have xz:=uD.kW;clear hs;have hs:=xz;repeat' first|refine bD ?_;intros
   refine tH hs fun w6 X6 zL=>?_;repeat' first|refine aJ ?_;intros
   exact av (hs.trans zL) fun _ _=>rfl
end Go.Proofs.YtbpnemeooenpmaaGreat
namespace Go.Proofs.YtbpnemeooenpmaaGreat
open Go.Proofs.Tryz renaming prog → pg
open Go.aV Go.ChangeShapes Go.WideShapes Go.ChangeAt Go.RowKit
set_option maxRecDepth 100000
set_option maxHeartbeats 1000000
theorem af4:C9 22 (rdL 4 (fun _ _ cs (x:dq)=>cs=x.l)):=T6 kQ kQ (by decide) ag0
instance:Wt fw:=⟨fun x=>Wt.wt x.code+Wt.wt x.key+Wt.wt x.val+1,fun _=>by omega⟩
theorem ah2:C9 75 (fun _ _ cs (x:fw)=>cs=x.l):=fun H enc W fuel cs x h=>by
 obtain⟨n,ds,hx,hf⟩:=DZ [3,9,62] kQ h;obtain⟨_,_,_,_,a0,rfl,rfl,rfl,w0,hf⟩:=qi Ob hf;obtain⟨_,_,_,_,a1,rfl,rfl,rfl,w1,hf⟩:=qi abk hf;obtain⟨_,_,_,_,a2,rfl,rfl,rfl,w2,rfl,rfl⟩:=qi agZ hf;refine⟨⟨a0,a1,a2⟩,rfl,?_⟩;rw [hx];simp only [Rows.uptoBulk,Rows.uptoBulkAll,Wt.wt] at*;omega
theorem af5:C9 23 (rdL 5 (fun _ _ cs (x:fw)=>cs=x.l)):=T6 kQ kQ (by decide) ah2
namespace coordGroups
theorem aed (H:Type) (enc:TypeId×Value→H) (W:World) (base:Nat) (args:Array Value) (ds gs:List (DataW H)) (before:List MemPlace)
  (Jz: ∀(j:Nat) t v,Tryz.f3.params[j]? =some t→args[j]? =some v→Value.okWide pg W .any base t v)
  (hW:DataW.Whole enc pg Tryz.f3.params.toList Rows.coordGroupsSpec.vars false W args.toList ds gs before) (hk:Rows.uptoSmall H (ds++gs)=true):
  Calls pg 3 args W fun e W'=> ∃v,e= .returned v∧Rows.coordGroupsSpec.post enc pg Tryz.f3 false true false false W args v W':=by
 have hW':=hW;obtain⟨p,q,hA0,hV,rfl,hfz,rQ⟩:=hW;have hA:DataW.TrodAll enc pg W 0 (fun _=>true) true Tryz.f3.params.toList args.toList ds p:=hA0;rw [Tryz.params3] at hA Jz;obtain⟨v0,vs0,d0,ds0,p0,q0,aft,rfl,rfl,h0,r0⟩:=trodAll_cons hA;obtain⟨v1,vs1,d1,ds1,p1,q1,rfl,rfl,rfl,h1,r1⟩:=trodAll_cons r0;obtain⟨v2,vs2,d2,ds2,p2,q2,rfl,rfl,rfl,h2,r2⟩:=trodAll_cons r1;obtain⟨rfl,rfl,rfl⟩:=trodAll_nil r2;obtain rfl:args= #[v0,v1,v2]:=by cases args;simp_all
 obtain⟨rfl,rfl⟩:=trodVars_none hV;obtain⟨b0,n0,c0,rfl⟩:=okWide_slice Tryz.underlying22 (Jz 0 22 v0 rfl rfl);obtain⟨z1,rfl⟩:=okWide_int Tryz.underlying3 (Jz 1 3 v1 rfl rfl);obtain⟨b2,n2,c2,rfl⟩:=okWide_slice Tryz.underlying23 (Jz 2 23 v2 rfl rfl);obtain⟨f0,hf0⟩:=h0;obtain⟨x0,⟨u0,hu0,r0'⟩,wt0⟩:=af4 H enc W f0 _ _ hf0;obtain rfl:u0= .slice b0 n0 c0:=by simpa [Value.cells] using hu0.symm
 obtain⟨f2,hf2⟩:=h2;obtain⟨x2,⟨u2,hu2,r2'⟩,wt2⟩:=af5 H enc W f2 _ _ hf2;obtain rfl:u2= .slice b2 n2 c2:=by simpa [Value.cells] using hu2.symm
 refine(Lk (X:=aR W) (eh:=z1) r0'.afd r2'.afd W (Kp.refl _ _)).mono fun e W' ⟨v,he,Mi,hq⟩=>?_;subst he;subst hq;exact⟨_,rfl,acX Ua Tryz.underlying4 rfl rfl kQ ⟨rfl,rfl,rfl⟩ hW' (by have h9:=hA0;simp only [List.append_nil] at h9⊢;exact h9) Mi⟩
theorem lifted (os:Os) (started:os.Started) (H:Type) (enc:TypeId×Value→H) (F:Stop.Interp):
  ReturnsInHanded {} Tryz.checked os 3 .any ((Rows.OpenSpec.upto Rows.coordGroupsSpec).pre6 enc pg Tryz.f3 Rows.coordGroupsUptoRow.domain false) (((Rows.OpenSpec.upto Rows.coordGroupsSpec).at F).post enc pg Tryz.f3 false true false false):=by
 refine returnsInHanded_of_cond (C:=Tryz.checked) (s:=Rows.OpenSpec.upto Rows.coordGroupsSpec) (k:=Rows.uptoSmall) rfl acY started kQ Tryz.func3
  (OpenSpec.witness (enc:=enc) (C:=Tryz.checked) (s:=Rows.OpenSpec.upto Rows.coordGroupsSpec) (k:=Rows.uptoSmall) rfl false ⟨#[],#[.slice none 0 0,I 0,.slice none 0 0],[]⟩ 8 kQ kQ kQ
   (x:=([.nil,.lit (.int .i64 0),.nil],[],[])) kQ rfl kQ) ?_
 intro W base args ds gs before Jz hW _ hk _;exact aed H enc W base args ds gs before Jz hW hk
theorem ajK:((Rows.coordGroupsUptoRow).unfollowed==pg.unfollowed 3)=true:=by kernel_rfl
theorem ajL:((Rows.coordGroupsUptoRow).recurses==pg.recurses 3)=true:=by kernel_rfl
theorem ab3:((Rows.coordGroupsUptoRow).inPlace==pg.inPlace 3)=true:=by kernel_rfl
theorem af6:((Rows.coordGroupsUptoRow).named==pg.varsNamed 3)=true:=by kernel_rfl
theorem Xt:mapsRowed pg=true:=by kernel_rfl
theorem af7:(pg.stops==[])=true:=by kernel_rfl
theorem af8:(pg.stopKnobs==[])=true:=by kernel_rfl
theorem af9:pg.stopsHeard=true:=by kernel_rfl
theorem ajM:pg.mayEnter=true:=by kernel_rfl
theorem ah3:((Rows.coordGroupsUptoRow).plainKeys==pg.plainKeys)=true:=by kernel_rfl
theorem aee:((Rows.coordGroupsUptoRow).lifted==pg.liftsFinal)=true:=by kernel_rfl
theorem ah4:(pg.make==some (Rows.coordGroupsUptoRow).make)=true:=by kernel_rfl
theorem ah5:joinedFacts pg 3 Tryz.f3 (Rows.OpenSpec.upto Rows.coordGroupsSpec).bare Rows.coordGroupsUptoRow=true:=by
 unfold joinedFacts;simp only [aW]
 and_intros<;>first|with_reducible exact Ua|with_reducible exact ajK|with_reducible exact ajL|with_reducible exact ab3|with_reducible exact af6|with_reducible exact Xt|with_reducible exact af7|with_reducible exact af8|with_reducible exact af9|with_reducible exact ajM|with_reducible exact ah3|with_reducible exact aee|with_reducible exact ah4|kernel_rfl
theorem proved:Rows.CoordGroupsUptoSaid:=
 OpenClaim.holds_of_cond 3 Tryz.f3 rfl rfl rfl rfl rfl rfl rfl ⟨rfl,rfl,rfl,rfl,rfl⟩ rfl rfl rfl rfl rfl kQ Tryz.func3 ah5
  (of_decide_eq_true kQ) (by unfold Func.isWrapper;first|(rw [if_pos (by decide+kernel)];kernel_rfl)|(rw [if_neg (by decide+kernel)];exact⟨rfl,rfl⟩))
  (fun os started H enc _ F=>lifted os started H enc F)
#print axioms proved
end coordGroups
end Go.Proofs.YtbpnemeooenpmaaGreat
