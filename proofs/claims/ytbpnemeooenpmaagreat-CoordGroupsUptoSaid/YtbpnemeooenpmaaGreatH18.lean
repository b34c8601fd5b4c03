/-
 racelaw17.CoordGroups returns true, whatever it is called with, where what it reads is of bulk at most 1048576; the input reads as it did.
-/
import Derived.Test.YtbpnemeooenpmaaGreatH17
open Nat renaming zero_le → aG, le_trans → ah
open List renaming length_map → aI, length_nil → bL, map_map → dt, map_congr_left → fE, mem_of_getElem? → cw, take_add_one → cn, length_append → av, length_take → bU, length_singleton → bz, take_of_length_le → bq
open Bool renaming and_eq_true → aW
set_option linter.unusedVariables false
set_option linter.unusedSimpArgs false
namespace Go.Proofs.YtbpnemeooenpmaaGreat
open Go.Proofs.Tryz renaming prog → pg
open Go.aR
set_option maxRecDepth 100000
set_option maxHeartbeats 1000000
set_option linter.unusedVariables false
set_option linter.unusedSimpArgs false
attribute [local irreducible] un jn aB aS ld1 dY st1 dr cB kN dw lR uK sP fC e6 ae aC aJ eW eV eU eC eF gE ay fin aQ aF aE vS xh gG gS qK uL sQ xi xj xk gz gP qL uM sR xl xm
theorem HY {w:World} {X:XS} {a:Value} {xs:List jA} {most:Int} (ha:Sl w X 7 a (xs.map jA.l)):
  Ct pg 61 #[a,I most] w X nX Bw:=by
 intro w0 hk;replace ha:=ha.mv hk.dD;have jV:=ha.gy;apply Gw;unfold xP;have hs:=ak.init w0;refine fM (fun n a b w X=> ∃(i:Nat) (s:Int),a=I i∧b=I s∧n=(xs).length-i∧i≤(xs).length∧ak (aV w0) w0 X w) (xs).length ⟨0,_,rfl,rfl,rfl,aG _,hs⟩ ?_;rintro n a b w X ⟨i,s,rfl,rfl,rfl,hi,hs⟩;repeat' first|refine aL ?_;intros|refine dM ?_ ?_<;>intros|((first|(with_reducible refine aw hs ?_)|(with_reducible refine aw (bR.trans hs) ?_));intro wa hk;exact⟨_,rfl⟩)|(refine ja (iz  _ _ _ _ _) kQ hs.has ?_;intro n1 w X au;replace hs:=hs.trans au)|((with_reducible refine fI ((xs).length-(i+1)) ?_ ?_);omega;exact⟨i+1,_,by simp,rfl,rfl,by omega,hs⟩)|with_reducible apply lC
theorem JA {w:World} {X:XS} {m:dF} {vk vs vw vp vr vc vh vd:Value} {most:Int} (ha:m.at w X vk vs vw vp vr vc vh vd):
  Ct pg 18 #[m.v vk vs vw vp vr vc vh vd,I most] w X nX Bw:=by
 intro w0 hk;obtain⟨h1,h2,h3,h4,h5,h6,h7,h8⟩:=ha.mv hk.dD;have jV:=h6.len;apply HZ;unfold yL;have hs:=ak.init w0;repeat' first|refine aL ?_;intros|(refine ja (iz  _ _ _ _ _) kQ hs.has ?_;intro n1 w X au;replace hs:=hs.trans au)|(refine ja (rN  qA) kQ hs.has ?_;intro n1 w X au;replace hs:=hs.trans au)|(refine ja (HY  qA) kQ hs.has ?_;intro n1 w X au;replace hs:=hs.trans au)|(refine ja (rj  qA) kQ hs.has ?_;intro n1 w X au;replace hs:=hs.trans au)|with_reducible apply lC
 refine fM (fun n a b w X=> ∃(i:Nat) (s:Int),a=I i∧b=I s∧n=(m.fY).length-i∧i≤(m.fY).length∧ak (aV w0) w0 X w) (m.fY).length ⟨0,_,rfl,rfl,rfl,aG _,hs⟩ ?_;rintro n a b w X ⟨i,s,rfl,rfl,rfl,hi,hs⟩;repeat' first|refine aL ?_;intros|refine dM ?_ ?_<;>intros|((with_reducible apply YP);assumption;(try (case hz=>rfl));(case hr=>exact qR);(try (case hz=>omega));(case ht=>kernel_rfl);(case hs=>kernel_rfl);intros)|((first|(with_reducible refine aw hs ?_)|(with_reducible refine aw (bR.trans hs) ?_));intro wa hk;exact⟨_,rfl⟩)|(refine ja (iz  _ _ _ _ _) kQ hs.has ?_;intro n1 w X au;replace hs:=hs.trans au)|(refine ja (xQ  (s:=m.state) qA qA) kQ hs.has ?_;intro n1 w X au;replace hs:=hs.trans au)|(refine ja ((JB (r:=_))  (Rec.at.mv (by assumption) hs.mv)) kQ hs.has ?_;intro n1 w X au;replace hs:=hs.trans au)|((with_reducible refine fI ((m.fY).length-(i+1)) ?_ ?_);omega;exact⟨i+1,_,by simp,rfl,rfl,by omega,hs⟩)|with_reducible apply lC
structure tI where
 kind:Int
 eh:Int
 n:Int
 m:dF
 prog:List fw
 ajJ:List Int
abbrev tI.l (o:tI) (vk vs vw vp vr vc vh vd vo vq:Value):List Value:=[I o.kind,I o.eh,I o.n,I o.m.kind,I o.m.fr,I o.m.to,I o.m.dK.gN,I o.m.dK.ga,I o.m.dK.sq,I o.m.range,I o.m.gx,I o.m.code,
 I o.m.bF.wall,I o.m.bF.ep,I o.m.bF.node,I o.m.prev.wall,I o.m.prev.ep,I o.m.prev.node,B o.m.kP,I o.m.n,I o.m.mx,vk,vs,vw,vp,vr,vc,
 I o.m.state.range.id,I o.m.state.range.gx,.float .f64 o.m.state.range.lo,.float .f64 o.m.state.range.hi,
 I o.m.state.floor.wall,I o.m.state.floor.ep,I o.m.state.floor.node,I o.m.state.closed.wall,I o.m.state.closed.ep,I o.m.state.closed.node,vh,vd,vo,vq]
structure tI.at (w:World) (X:XS) (o:tI) (vk vs vw vp vr vc vh vd vo vq:Value):Prop where
 m:o.m.at w X vk vs vw vp vr vc vh vd
 po:Sl w X 5 vo (o.prog.map fw.l)
 p:Sl w X 1 vq (o.ajJ.map I1)
def tI.rd (w:World) (X:XS) (l:List Value) (o:tI):Prop:= ∃vk vs vw vp vr vc vh vd vo vq,l=o.l vk vs vw vp vr vc vh vd vo vq∧o.at w X vk vs vw vp vr vc vh vd vo vq
theorem tI.mv:Dd tI.rd:=fun ⟨vk,vs,vw,vp,vr,vc,vh,vd,vo,vq,h,h1⟩ m=>⟨vk,vs,vw,vp,vr,vc,vh,vd,vo,vq,h,⟨h1.m.mv m,h1.po.mv m,h1.p.mv m⟩⟩
theorem Gx {P:Program} {X X0:XS} {w w0:World} {N:Value→Prop} {t:TypeId} {v:Value} {xs:List tI} {i:Nat} {z:Int} {x:tI} (h:en w0 X0 41 v tI.rd xs) (hr:xs[i]? =some x)
  (hz:z=i) (ht:P.underlying t=some (.slice (P.elem t))) (hs:(P.info? (P.elem t)).map (·.size)=some 41)
  (n: ∀b o vk vs vw vp vr vc vh vd vo vq,aR.one vk=true→aR.one vs=true→aR.one vw=true→aR.one vp=true→aR.one vr=true→aR.one vc=true→aR.one vh=true→aR.one vd=true→aR.one vo=true→aR.one vq=true→Sl w0 X0 5 vo (x.prog.map fw.l)→
   Cells w0 X0 b o (x.l vk vs vw vp vr vc vh vd vo vq)→x.at w0 X0 vk vs vw vp vr vc vh vd vo vq→N (ptr b o)):ae P X w (dr t 41 v (.int .i64 z)) N:=
 Bt h hr hz ht hs fun b o _ hc ⟨vk,vs,vw,vp,vr,vc,vh,vd,vo,vq,hl,h1⟩=>n b o vk vs vw vp vr vc vh vd vo vq h1.m.keys.one h1.m.seen.one h1.m.writes.one h1.m.parts.one h1.m.ranges.one h1.m.fY.one h1.m.fU.one h1.m.fB.one h1.po.one h1.p.one h1.po (hl▸hc) h1
theorem ab3 {w:World} {X:XS} {a:Value} {xs:List tI} (ha:en w X 41 a tI.rd xs):
  Ct pg 5 #[a] w X nX fun v _ _=> ∃b:Bool,v=B b:=by
 intro w0 hk;replace ha:=en.mv ha tI.mv hk.dD;have jV:=ha.len;apply Np;unfold Cs;have hs:=ak.init w0
 skip
 refine B2 (fun n a b c w X=> ∃(i:Nat) (s:Int),a=I i∧c=I s∧n=xs.length-i∧i≤xs.length∧ak (aV w0) w0 X w) xs.length ⟨0,_,rfl,rfl,rfl,aG _,hs⟩ ?_;rintro n a b c w X ⟨i,s,rfl,rfl,rfl,hi,hs⟩;rcases ew (xs) i with⟨dz,x,hx,hd⟩|⟨dV,hd⟩
 ·repeat' first|refine bD ?_;intros|refine dM ?_ ?_<;>intros|(with_reducible apply Gx);(case h=>assumption);(case hr=>exact hx);(case hz=>rfl);(case ht=>kernel_rfl);(case hs=>kernel_rfl);intros
  refine dp (JA (m:=x.m) (dF.at.mv (tI.at.m (by assumption)) hs.mv)) kQ hs.has ?_;rintro _ wa w X ⟨n1,rfl⟩ hle fO au;replace hs:=hs.trans au;repeat' first|refine aL ?_;intros|refine dM ?_ ?_<;>intros|((first|(with_reducible refine aw hs ?_)|(with_reducible refine aw (bR.trans hs) ?_));intro wa hk;exact⟨_,rfl⟩)|(with_reducible apply Gx);(case h=>assumption);(case hr=>exact hx);(case hz=>rfl);(case ht=>kernel_rfl);(case hs=>kernel_rfl);intros|with_reducible apply lC
  refine fM (fun n a b w X=> ∃(k:Nat) (s:Int),a=I k∧b=I s∧n=x.prog.length-k∧k≤x.prog.length∧ak (aV w0) w0 X w) x.prog.length ⟨0,_,rfl,rfl,rfl,aG _,hs⟩ ?_;rintro n a b w X ⟨k,s,rfl,rfl,rfl,xF,hs⟩;rcases ew x.prog k with⟨adf,y,hy,nS⟩|⟨MN,nS⟩
  ·repeat' first|refine bD ?_;intros|(with_reducible apply Gx);(case h=>assumption);(case hr=>exact hx);(case hz=>rfl);(case ht=>kernel_rfl);(case hs=>kernel_rfl);intros|with_reducible apply lC
   exact fI (x.prog.length-(k+1)) zQ ⟨k+1,_,by simp,rfl,rfl,by omega,hs⟩
  ·repeat' first|refine bD ?_;intros|(with_reducible apply Gx);(case h=>assumption);(case hr=>exact hx);(case hz=>rfl);(case ht=>kernel_rfl);(case hs=>kernel_rfl);intros
   exact B3 (xs.length-(i+1)) zQ ⟨i+1,_,by simp,rfl,rfl,by omega,hs⟩
 ·repeat' first|refine bD ?_;intros|refine dM ?_ ?_<;>intros
  all_goals exact aw hs fun wa bk=>⟨_,rfl⟩
end Go.Proofs.YtbpnemeooenpmaaGreat
namespace Go.Proofs.YtbpnemeooenpmaaGreat
open Go.Proofs.Tryz renaming prog → pg
open Go.aR
set_option maxRecDepth 100000
set_option maxHeartbeats 1000000
set_option linter.unusedVariables false
set_option maxRecDepth 100000
set_option maxHeartbeats 1000000
set_option linter.unusedVariables false
set_option linter.unusedSimpArgs false
attribute [local irreducible] un jn aB aS ld1 dY st1 dr cB kN dw lR uK sP fC e6 ae aC aJ eW eV eU eC eF gE ay fin aQ aF aE vS xh gG gS qK uL sQ xi xj xk gz gP qL uM sR xl xm
abbrev rg1:dq:=⟨1,0,0,4602678819172646912⟩
abbrev rg2:dq:=⟨2,0,4602678819172646912,4607182418800017408⟩
abbrev aam:List dq:=[rg1,rg2]
abbrev kEx:BA:=⟨#[107]⟩
abbrev E8:List fw:=[⟨4,⟨#[]⟩,⟨1,4607182418800017408,⟨#[]⟩⟩⟩,⟨2,kEx,.zero⟩]
abbrev Mk:gK:=[(1,rg1),(2,rg2)]
theorem af6:qU aam=0:=by kernel_rfl
theorem ahZ:aam.foldl eH []=Mk:=by kernel_rfl
theorem JC (k:BA):gu [k]=[k]:=by
 simp [gu,bl]
theorem ab4:gu []=[]:=by simp [gu]
theorem ab5 (k:Int):mM [k]=[k]:=by simp [mM]
theorem Nq:dW 1 1 E8=[]:=by
 have:E8.foldl (iT 1 1) []=[]:=by kernel_rfl
 rw [dW,this];exact ab4
theorem ab7:dW 2 3 E8=[kEx]:=by
 have:E8.foldl (iT 2 3) []=[(kEx,1)]:=by kernel_rfl
 rw [dW,this];exact JC _
theorem YQ:iN E8=0:=by
 have:uE E8 0=0:=by kernel_rfl
 unfold iN;rw [if_neg (by decide),if_neg (by rw [this];decide),Nq,ab7,if_neg (by decide)]
theorem ab8:runM E8 [] []= .ok ([],[(kEx,⟨1,4607182418800017408,⟨#[]⟩⟩)]):=by kernel_rfl
abbrev Vq:rD:=[(kEx,⟨1,4607182418800017408,⟨#[]⟩⟩)]
theorem YR:keysOf Vq=[kEx]:=JC _
theorem ad9:iY Mk kEx=some rg1:=by kernel_rfl
theorem ab9:gp Mk [] [kEx]=([(1,[kEx])],0):=by
 have:gn kEx=true:=by kernel_rfl
 unfold gp;rw [if_pos this,ad9];rfl
theorem Sg:fb Mk Vq=[⟨rg1,[kEx]⟩]:=by
 unfold fb;rw [YR,ab9];unfold jZ;rw [show([((1:Int),[kEx])].map (·.1))=[1] from rfl,ab5];rfl
theorem Sh:dC Vq=[⟨kEx,⟨1,4607182418800017408,⟨#[]⟩⟩⟩]:=by
 unfold dC;rw [show(Vq.map (·.1))=[kEx] from rfl,JC];rfl
theorem af7:xE E8 Mk Vq:=⟨YQ,⟨_,ab8⟩,by rw [Sh];simp,by rw [YR,ab9]⟩
theorem Xz {wr:rD} (h:xE E8 Mk wr):wr=Vq:=by
 obtain⟨_,⟨s,hs⟩,_⟩:=h;rw [ab8] at hs;cases hs;rfl
theorem af8:mD E8 ⟨0,0,21⟩ 5 Mk=0:=by
 unfold mD;rw [YQ,Nq];rfl
theorem aea:lW Mk Vq=[{ uG with kind:=3,range:=1,gx:=0,parts:=[1],writes:=[⟨kEx,⟨1,4607182418800017408,⟨#[]⟩⟩⟩] }]:=by
 unfold lW;rw [Sg,Sh];rfl
abbrev Ml:cx:=⟨7,0,1⟩
abbrev tEx:de:=⟨1,1,1⟩
theorem ah0:(rL tEx Ml [1]).gD=0:=by kernel_rfl
theorem ah1:(kD (rL tEx Ml [1])).length≤900:=by decide+kernel
def Mm:dF:=⟨4,1,21,tEx,1,0,0,Ml,.zero,false,0,0,[],[],[],[],[],[],.zero⟩
theorem af9:Mm.err=0:=by kernel_rfl
theorem ah2 {st:State} (h1:st.fU=[]) (h2:st.fB=[]):st.small:=⟨by rw [h1];exact fun _ h=>absurd h (by simp),by rw [h2];exact fun _ h=>absurd h (by simp),by rw [h1];exact fun _ h=>absurd h (by simp),by rw [h2];exact fun _ h=>absurd h (by simp)⟩
theorem aca:Mm.small:=⟨by decide,by decide,by simp [Mm],by simp [Mm],ah2 rfl rfl⟩
theorem aeb:Mm.lens≤2^62:=by decide
theorem acb:Mm.bF.may=true:=by kernel_rfl
theorem Nr:cx.later .zero Ml=Ml:=by kernel_rfl
theorem acd {w:World} {X:XS} :Ct pg 15 #[] w X nX fun v wa w'=>Own w' (made wa w') wa.heap.size 38 4 v (aam.map dq.l):=by
 intro w0 hk;apply Ns;unfold Cu;have hs:=ak.init w0;repeat' first|refine aL ?_;intros
 refine TD (rows:=aam.map dq.l) (rg1.l++rg2.l).toArray dq.zero.v hs.has (bytes:=32) kQ kQ zQ zQ kQ (by simp) rfl rfl fun v2 w2 X2 bT nY=>?_;exact aw (hs.trans bT) fun C8 bk=>(nY.kp bk).tight
section
variable {w w' wa : World} {X X' K N D G : XS} {nb db mb xb : Nat} {c : pj} {x : oO} {ck um : cx} {ds : gK} {al mW : List (de × Nat)} {L : LM} {m : DM} {p : List fw} {eh : Int} {v vm va vw : Value} {rm ra rw : List (List Value)} {ms ws : List dF} {ps : List Int}
theorem CoN.since (h:CoN w N D G nb db mb c ck ds al L m) (hN: ∀k,N k→X k) (hG: ∀k,G k→X k) (hs:ak X w X' w'):CoN w' N D G nb db mb c ck ds al L m:=by
 have hb: ∀k,N k→w'.heap[k]? =w.heap[k]? :=fun k hk=>hs.kp.block k (hN k hk);exact⟨h.row.mv fun k hk _=>⟨hk,hb k ((h.vf k).2 (.inl hk))⟩,h.am.mv fJ (fun k hk _=>⟨hk,hb k ((h.vf k).2 (.inr (.inl hk)))⟩) (fun _ h=>h.elim),
  h.bm.mv fJ (fun k hk _=>⟨hk,hb k ((h.vf k).2 (.inr (.inr (.inl hk))))⟩) (fun _ h=>h.elim),h.US.mv fun k hk _=>⟨hk,hb k ((h.vf k).2 (.inr (.inr (.inr (.inl hk)))))⟩,
  h.dir.mv fun k hk _=>⟨hk,hb k ((h.vf k).2 (.inr (.inr (.inr (.inr hk)))))⟩,h.log.mv (hs.fZ hG),h.cm,h.vf,h.dj,h.ne,h.dd⟩
theorem aec (h:CoN w N D G nb db mb c ck ds al L m) (hN:FX N X w) (hG:FX G X w) (q:afo nb mb c D al p ck eh ds v wa w' xb x vm va vw K mW rm ra rw ms ws um) (hle:w.heap.size≤wa.heap.size)
  (fO: ∀k,made wa w' k→X' k) (cg:ez (fun k=>k=nb∨k=c.ab∨k=c.cb) X w X' w') (hq:Sl w' K 1 x.vq (ps.map I1)):
  HE w' X' K G nb xb db { c with ug:=c.ug+1 } x aN aN vw mW [] [] [] rw [] ws x.vq ps L m∧X' c.cb∧ ¬K c.cb∧ ¬G c.cb:=by
 have nN: ∀k,N k→X' k:=fun k hk=>cg.sub k (hN k hk).1;have kK:N nb:=(h.vf _).2 (.inl rfl);have ta:N c.ab:=(h.vf _).2 (.inr (.inl rfl));have Ru:N c.bb:=(h.vf _).2 (.inr (.inr (.inl rfl)));have R4:N c.cb:=(h.vf _).2 (.inr (.inr (.inr (.inl rfl))));have hD: ∀k,D k→N k:=fun k hk=>(h.vf k).2 (.inr (.inr (.inr (.inr hk))));have b1:c.bb≠nb:=h.bm.eA h.row;have b2:c.bb≠c.cb:=h.bm.eA h.US;have aV: ∀k,k<w.heap.size→ ¬made wa w' k:=fun k hk hm=>by have:=hm.1;omega
 have nK: ∀k,N k→ ¬D k→ ¬K k:=fun k hk hd hK=>(q.k1 k hK).elim hd (aV k (hN k hk).2);have fF: ∀k,cF nb xb c.ab aN aN vw aN k→N k∨made wa w' k:=fun k hk=>by
  rcases q.f k hk with e|e|e
  ·exact .inl (e▸kK)
  ·exact .inl (e▸ta)
  ·exact .inr e
 have hGw: ∀k,G k→w'.heap[k]? =w.heap[k]? :=fun k hk=>cg.block k (hG k hk).1 fun e=>by
  rcases e with e|e|e<;>subst e
  ·exact h.dj _ kK hk
  ·exact h.dj _ ta hk
  ·exact h.dj _ R4 hk
 refine⟨⟨q.mid,fun k hk=>?_,fun k hk=>?_,hq,?_,nN _ Ru,?_,fun k hk=>?_,⟨?_,?_,?_⟩,fun k hk=>⟨?_,?_⟩⟩,nN _ R4,?_,fun hk=>h.dj _ R4 hk⟩
 ·have:X' k:=(fF k hk).elim (nN k) (fO k);exact⟨this,cg.has k this⟩
 ·have:X' k:=(q.k1 k hk).elim (fun e=>nN k (hD k e)) (fO k);exact⟨this,cg.has k this⟩
 ·exact h.bm.mv fJ (fun k hk _=>⟨hk,cg.block k (by rw [hk];exact(hN _ Ru).1) fun e=>by
   rw [hk] at e;rcases e with e|e|e
   ·exact b1 e
   ·exact h.ne e.symm
   ·exact b2 e⟩) fun _ h=>h.elim
 ·exact h.log.mv fun k hk _=>⟨hk,hGw k hk⟩
 ·exact⟨cg.sub k (hG k hk).1,cg.has k (cg.sub k (hG k hk).1)⟩
 ·exact nK _ Ru fun hd=>(h.dd _ hd).2.2.1 rfl
 ·intro hk;rcases q.f _ hk with e|e|e
  ·exact b1 e
  ·exact h.ne e.symm
  ·exact aV _ (hN _ Ru).2 e
 ·exact fun hk=>h.dj _ Ru hk
 ·intro hK;rcases q.k1 k hK with e|e
  ·exact h.dj _ (hD k e) hk
  ·exact aV k (hG k hk).2 e
 ·intro hf;rcases fF k hf with e|e
  ·exact h.dj _ e hk
  ·exact aV k (hG k hk).2 e
 ·exact nK _ R4 fun hd=>(h.dd _ hd).2.2.2 rfl
end
end Go.Proofs.YtbpnemeooenpmaaGreat
namespace Go.Proofs.YtbpnemeooenpmaaGreat
open Go.Proofs.Tryz renaming prog → pg
open Go.aR
set_option maxRecDepth 100000
set_option maxHeartbeats 4000000
set_option linter.unusedVariables false
set_option maxRecDepth 100000
set_option maxHeartbeats 1000000
set_option linter.unusedVariables false
set_option linter.unusedSimpArgs false
attribute [local irreducible] un jn aB aS ld1 dY st1 dr cB kN dw lR uK sP fC e6 ae aC aJ eW eV eU eC eF gE ay fin aQ aF aE vS xh gG gS qK uL sQ xi xj xk gz gP qL uM sR xl xm
theorem ah3 {i:Int} {r:dq} (h:getM i Mk=some r):r.id=i:=by
 have hm:=kh h;simp only [Mk,List.mem_cons,Prod.mk.injEq,List.not_mem_nil,or_false] at hm;rcases hm with⟨rfl,rfl⟩|⟨rfl,rfl⟩<;>rfl
abbrev zZ:Value:=.slice none 0 0
theorem XA {w:World} {X:XS} :Ct pg 4 #[] w X nX fun v w1 w2=>v=B true:=by
 intro w0 hk;apply JD;unfold z6;have hs:=ak.init w0;refine dp O9 kQ hs.has ?_;rintro _ wa w1 X1 ⟨db,rfl,LU⟩ hle fO au;replace hs:=hs.trans au;have dU:Ft w0 nX w1 X1 (fun k=>made wa w1 k):=⟨hs.less (fun k af=>af.1),fun k af=>fO k af,fun k af=>.inr (ah hle af.1)⟩;repeat' first|refine aL ?_;intros
 refine dp acd kQ hs.has ?_;rintro vl wb w2 X2 nY qP nW bT;have cX:=dU.since bT;have IG:=LU.mv (bT.fZ fun k af=>dU.bK k af);refine cX.call (HC IG (cX.fx fun _ h=>h) (nY.sl.mv (Mv.sub nW))) kQ (fun _ h=>h) fun v uR w3 X3 hq ob mA np c3=>?_;rw [DD,if_neg (by rw [af6];decide),ahZ] at hq;obtain⟨nb,c,mb,N,D,G,L,m,rfl,hN,hG,e1,e2,e3,h3,Nl⟩:=hq;have dE:Ft w0 nX w3 X3 (fun k=>N k∨G k):=np.less fun k af=>af.elim (fun e=>.inr (hN k e)) (hG k);clear hs np au bT;have hs:=ak.ct dE.s.has;repeat' first|refine bD ?_;intros
 refine TD (rows:=E8.map fw.l) (E8.map fw.l).flatten.toArray (.agg #[I 0,.string ⟨#[]⟩,I 0,.float .f64 0,.string ⟨#[]⟩]) hs.has (bytes:=56) kQ kQ zQ zQ kQ (by simp) rfl rfl fun a w4 X4 fq B7=>?_;have aan:FX N X3 w3:=fun k af=>⟨dE.bK k (.inl af),dE.s.has k (dE.bK k (.inl af))⟩;have fm:=dE.since fq;have aed:FX N X4 w4:=fun k af=>⟨fm.bK k (.inl af),fm.s.has k (fm.bK k (.inl af))⟩;have alI:FX G X4 w4:=fun k af=>⟨fm.bK k (.inr af),fm.s.has k (fm.bK k (.inr af))⟩;have h4:=h3.since (fun k af=>(aan k af).1) (fun k af=>dE.bK k (.inr af)) fq;have YS:N nb:=(h4.vf _).2 (.inl rfl);have nab:N c.ab:=(h4.vf _).2 (.inr (.inl rfl));have ncb:N c.cb:=(h4.vf _).2 (.inr (.inr (.inr (.inl rfl))));have nF: ∀k,(k=nb∨k=c.ab∨k=c.cb)→N k:=fun k e=>by rcases e with rfl|rfl|rfl<;>assumption
 have hA: ∀k,cZ a k→X4 k∧k≠nb∧k≠c.ab∧k≠c.cb:=fun k af=>by
  have z1:=(B7.ge af).1;refine⟨B7.2.2 k af,?_,?_,?_⟩<;>(rintro rfl;first|(have:=(aan _ YS).2;omega)|(have:=(aan _ nab).2;omega)|(have:=(aan _ ncb).2;omega))
 refine fm.call (Jn (p:=E8) (eh:=5) h4.row h4.am h4.US h4.dir (fun i r=>ah3) (by rw [h4.cm];rfl) (fun k e=>aed k (nF k e)) (fun k e=>aed k ((h4.vf k).2 (.inr (.inr (.inr (.inr e)))))) (fun k e=>⟨(h4.dd k e).1,(h4.dd k e).2.1,(h4.dd k e).2.2.2⟩)
  (th B7 (Y:=cZ a) fun g hg=>hg).sl hA (by decide) zQ zQ zQ (by decide) (by decide)) kQ (fun k e=>.inl (nF k e)) fun v YC w5 X5 hq Qf Jg uF c5=>?_
 obtain⟨xb,x,vm,va,vw,K,mW,rm,ra,rw5,ms,ws,um,q⟩:=hq;rcases q.res with⟨_,hb|hb⟩|⟨hra,_,Pa,yJ,⟨hb,_⟩|⟨_,wr,hgp,alJ,Og,aee,hsq,YT,hws⟩⟩
 ·exact absurd af8 hb
 ·exact absurd af7 (hb.2 _)
 ·exact absurd Nq hb
 obtain rfl:=Xz hgp;rw [Sg] at hsq;rw [aea] at YT hws;obtain⟨h5,ccX,ccK,ccG⟩:=aec (ps:=[1]) h4 aed alI q Qf Jg c5 hsq;have hv:=q.v;have OS:=q.dK;have YA:=q.om;have hhm:=q.hm;have hoa:=q.oa;subst hra;rw [e1,e2,e3,Int.zero_add] at hv OS Pa;have jM:=q.US;have qf:=q.f;obtain⟨m1,oM,k1,t1⟩: ∃m1:dF,ms=[m1]∧m1.kind=3∧m1.to=1:=⟨_,YT,rfl,rfl⟩;obtain⟨y,hy1,hy2⟩: ∃y:dF,ws=[y]∧y.range=1:=⟨_,hws,rfl⟩;clear YT hws q hs;subst oM hy1 hv;obtain⟨l0,rfl⟩: ∃l0,rm=[l0]:=List.length_eq_one_iff.1 hhm.1;obtain⟨u1,u2,u3,u4,u5,u6,u7,u8,rfl,ef⟩:=hhm.2 0 l0 m1 rfl rfl;obtain⟨vmb,vmn,vmc,rfl⟩:=YA.form;obtain⟨vab,van,vac,rfl⟩:=hoa.form;have ff:Ft w0 nX w5 X5 (fun k=>N k∨G k∨made YC w5 k):=uF.less fun k af=>by rcases af with e|e|e<;>simp [e]
 have hs:=ak.ct ff.s.has;repeat' first|refine aL ?_;intros
 refine ff.call (SO (m:=Mm) (vk:=zZ) (vs:=zZ) (fy:=zZ) (vp:=zZ) (vr:=zZ) (vc:=zZ) (vh:=zZ) (vd:=zZ) (eh:=5) h5 jM ccX ccK ccG h4.cm Nl (by decide) (by rw [Pa];rfl) alJ Og (by decide) hy2 rfl acb (by rw [e1];decide)
  (by rw [OS,aee,show Mm.bF=Ml from rfl,Nr];exact ah0) (by rw [OS,aee,show Mm.bF=Ml from rfl,Nr];exact ah1)
  ⟨Sl.nil _ _ _,Sl.nil _ _ _,Sl.nil _ _ _,Sl.nil _ _ _,Sl.nil _ _ _,en.nil _ _ _,en.nil _ _ _,en.nil _ _ _⟩ aca aeb af9 (by rw [e1];rfl) rfl) kQ (fun k e=>by
   rcases e with e|e|e|e
   ·exact(qf k e).elim (fun e=>.inl (e▸YS)) fun e=>e.elim (fun e=>.inl (e▸nab)) fun e=>.inr (.inr e)
   ·exact .inl (e▸ncb)
   ·exact .inl (e▸(h4.vf _).2 (.inr (.inr (.inl rfl))))
   ·exact .inr (.inl e)) fun v Yr w6 X6 hq PW FN uB c6=>?_
 rw [ab1,OS,aee,show Mm.bF=Ml from rfl,Nr] at hq;obtain⟨c6',vm6,va6,vs6,K6,rm6,rfl,aef,aao,aeg,Ds,ah4,am5,gZ⟩:=hq;obtain⟨m6,IY,cm6⟩: ∃m6:dF,(([1]:List Int).map fun id=>(Nk (rL tEx Ml [1]) id).mc (20+c.id))=[m6]∧m6.kP=true:=⟨_,rfl,rfl⟩;rw [IY] at aao;obtain⟨l6,rfl⟩:=List.length_eq_one_iff.1 aao.1;obtain⟨p1,p2,p3,p4,p5,p6,p7,p8,rfl,Gy⟩:=aao.2 0 l6 m6 rfl rfl;obtain⟨mb6,mn6,mc6,rfl⟩:=aef.form;obtain⟨ab6,an6,ac6,rfl⟩:=aeg.form;have Si: ∀k,K k→X6 k∧w6.heap[k]? =w5.heap[k]? :=fun k af=>⟨c6.sub k (h5.fk k af).1,c6.block k (h5.fk k af).1 fun e=>by
  rcases e with e|e|e|e
  ·exact h5.m.kd k af e
  ·exact ccK (e▸af)
  ·exact h5.nn.1 (e▸af)
  ·exact(h5.dj k e).1 af⟩
 have hFX: ∀k,(cF nb xb c.ab aN aN vw aN k∨k=c.cb∨k=c.bb∨G k)→X5 k:=fun k e=>by
  rcases e with e|e|e|e
  ·exact(h5.fc k e).1
  ·exact e▸ccX
  ·exact e▸h5.bX
  ·exact(h5.fg k e).1
 have aeh: ∀k,K6 k→X6 k:=fun k af=>by
  rcases gZ k af with e|e|e
  ·exact c6.sub k (hFX k e)
  ·exact(Si k e).1
  ·exact FN k e
 have a1:Sl w6 X6 36 (.slice vmb vmn vmc) ([()].map fun _:Unit=>m1.l u1 u2 u3 u4 u5 u6 u7 u8):=YA.mv fun k af _=>Si k af;have a2:Sl w6 X6 9 (.slice vab van vac) (([]:List (List Value)).map id):=hoa.mv fun k af _=>Si k af;have a3:Sl w6 X6 36 (.slice mb6 mn6 mc6) ([()].map fun _:Unit=>m6.l p1 p2 p3 p4 p5 p6 p7 p8):=aef.mv (Mv.sub aeh);have a4:Sl w6 X6 9 (.slice ab6 an6 ac6) ([()].map fun _:Unit=>UN 0 tEx Ml false vs6):=aeg.mv (Mv.sub aeh);have bJ:=Ds.mono fun k (af:k=nb)=>af▸(c6.sub nb (ff.bK nb (.inl YS)));have b1:=ef.keys.one;have b2:=ef.seen.one;have b3:=ef.writes.one;have b4:=ef.parts.one;have b5:=ef.ranges.one;have b6:=ef.fY.one;have b7:=ef.fU.one;have b8:=ef.fB.one;have d1:=Gy.keys.one;have d2:=Gy.seen.one;have d3:=Gy.writes.one;have d4:=Gy.parts.one;have d5:=Gy.ranges.one;have d6:=Gy.fY.one;have d7:=Gy.fU.one;have d8:=Gy.fB.one;have ajK:c6'.ga=1:=ah4.trans e2;have U7:[()][0]? =some ():=rfl;clear hs h5 YA hoa aef aeg ef Gy hhm aao hFX Si aeh gZ Ds jM qf h4 h3;have hs:=ak.ct uB.s.has;repeat' first|refine bD ?_;intros|refine dM ?_ ?_<;>intros|(with_reducible apply Vr);(· kernel_rfl);all_goals intros|with_reducible apply dy|(exfalso;omega)|(exfalso;simp only [List.length_cons,bL] at*;omega)
 rw [cm6];repeat' first|refine aL ?_;intros|with_reducible apply dy
 refine gC (Vm bJ (fun _ h=>h)) kQ hs.has fun w7 X7 gH=>?_;rw [ajK];repeat' first|refine bD ?_;intros
 exact aw (uB.kZ.trans gH) fun _ _=>rfl
end Go.Proofs.YtbpnemeooenpmaaGreat
namespace Go.Proofs.YtbpnemeooenpmaaGreat
open Go.Proofs.Tryz renaming prog → pg
open Go.aR
set_option maxRecDepth 100000
set_option maxHeartbeats 1000000
set_option linter.unusedVariables false
def jC (m:dF):List BA:=m.keys++m.writes.map (·.key)
structure OkM (l:List dq) (rd:Bool) (m:dF):Prop where
 key: ∀k∈jC m,k.size≤2^62∧ ∃r,findF l (placeOf k)=some r∧r.id=m.to∧r.gx=m.gx
 rg:m.range=m.to
 fr:m.fr=21
 kind:m.kind=if rd then 1 else 3
 ne:jC m≠[]
section
variable {l : List dq} {p : List fw} {x : oO} {ck : cx} {eh : Int} {wr : rD}
theorem KX (h:Bv l) (i:Int) (r:dq) (hg:getM i (l.foldl eH [])=some r):r.id=i:=((YG h i r).1 hg).2
theorem ace {ds:gK} {k:BA} {r:dq} (h:iY ds k=some r):k.size≤24:=by
 unfold iY at h;split at h
 ·rename_i hg;unfold gn at hg;simp only [aW,decide_eq_true_eq] at hg;omega
 ·cases h
theorem aga {ds:gK} (h:mD p ck eh ds=0):iN p=0∧(gp ds [] (dW 1 1 p)).2=0:=by
 unfold mD at h;split at h
 ·omega
 ·split at h
  ·omega
  ·omega
theorem aei (h:iN p=0):p.length≤40:=by
 unfold iN at h;split at h
 ·omega
 ·omega
theorem YU (h:Bv l) {k:BA} {r:dq} (hr:iY (l.foldl eH []) k=some r):k.size≤2^62∧findF l (placeOf k)=some r:=
 ⟨ah (ace hr) (by decide),ZP h hr⟩
theorem aej (h:Bv l) (hg:(gp (l.foldl eH []) [] (dW 1 1 p)).2=0): ∀m∈(re (l.foldl eH []) p).map (fun m=>(m.asked x).mc (20+1)),OkM l true m:=by
 intro m hm;obtain⟨m0,Yu,rfl⟩:=List.mem_map.1 hm;obtain⟨g,oL,rfl⟩:=List.mem_map.1 Yu;have mh:=Dy (KX h) hg;have e:jC (((xJ g).asked x).mc (20+1))=g.keys:=by simp [jC,xJ,dF.asked,dF.mc,uG]
 refine⟨fun k hk=>?_,rfl,rfl,rfl,by rw [e];exact mh.full g oL⟩;rw [e] at hk;have h1:=YU h (mh.own g oL k hk).2;exact⟨h1.1,g.lH,h1.2,rfl,rfl⟩
theorem acf (h:Bv l) (hg:(gp (l.foldl eH []) [] (dW 1 1 p)).2=0):(((re (l.foldl eH []) p).map (fun m=>(m.asked x).mc (20+1))).map fun m=>(jC m).length).sum=(dW 1 1 p).length:=by
 rw [re,dt,dt];have:=OO (Mi 1 1 p) hg;rw [←this]
 congr 1
 exact fE fun g _=>by simp [jC,xJ,dF.asked,dF.mc,uG]
theorem aek (h:Bv l) (hg:(gp (l.foldl eH []) [] (keysOf wr)).2=0): ∀m∈(lW (l.foldl eH []) wr).map (fun m=>(m.asked x).mc (20+1)),OkM l false m:=by
 intro m hm;obtain⟨m0,Yu,rfl⟩:=List.mem_map.1 hm;obtain⟨g,oL,rfl⟩:=List.mem_map.1 Yu;have mh:=Dy (KX h) hg;have e:jC (((vJ ((fb (l.foldl eH []) wr).map (·.lH.id)) (dC wr) g).asked x).mc (20+1))=((dC wr).filter fun w=>g.keys.any fun y=>decide (w.key=y)).map (·.key):=by simp [jC,vJ,dF.asked,dF.mc,uG]
 refine⟨fun k hk=>?_,rfl,rfl,rfl,?_⟩
 ·rw [e] at hk;obtain⟨w,hw,rfl⟩:=List.mem_map.1 hk;have h1:=YU h (mh.own g oL w.key (zg.1 (List.mem_filter.1 hw).2)).2;exact⟨h1.1,g.lH,h1.2,rfl,rfl⟩
 ·rw [e];obtain⟨k,hk⟩:=List.exists_mem_of_ne_nil _ (mh.full g oL);have h1:=(mh.own g oL k hk).1;rw [←zA] at h1;obtain⟨w,hw,rfl⟩:=List.mem_map.1 h1;exact List.ne_nil_of_mem (List.mem_map.2 ⟨w,List.mem_filter.2 ⟨hw,zg.2 hk⟩,rfl⟩)
theorem acg (h:Bv l) (hg:(gp (l.foldl eH []) [] (keysOf wr)).2=0):(((lW (l.foldl eH []) wr).map (fun m=>(m.asked x).mc (20+1))).map fun m=>(jC m).length).sum=(dC wr).length:=by
 have mh:=Dy (KX h) hg;rw [lW,dt,dt];have:=R7 (gs:=fb (l.foldl eH []) wr) (p:=fun g w=>g.keys.any fun y=>decide (w.key=y)) (l:=dC wr) fun w hw=>abY mh (by rw [←zA];exact List.mem_map.2 ⟨w,hw,rfl⟩);rw [←this]
 congr 1
 exact fE fun g _=>by simp [jC,vJ,dF.asked,dF.mc,uG]
end
end Go.Proofs.YtbpnemeooenpmaaGreat
namespace Go.Proofs.YtbpnemeooenpmaaGreat
open Go.Proofs.Tryz renaming prog → pg
open Go.aR
set_option maxRecDepth 100000
set_option maxHeartbeats 4000000
set_option linter.unusedVariables false
set_option maxRecDepth 100000
set_option maxHeartbeats 1000000
set_option linter.unusedVariables false
set_option linter.unusedSimpArgs false
attribute [local irreducible] un jn aB aS ld1 dY st1 dr cB kN dw lR uK sP fC e6 ae aC aJ eW eV eU eC eF gE ay fin aQ aF aE vS xh gG gS qK uL sQ xi xj xk gz gP qL uM sR xl xm
theorem aap {l:List dq} {p:List fw} {ms:List dF} {x:oO} {ck:cx} {eh:Int} (hc:qU l=0) (zT:mD p ck eh (l.foldl eH [])=0)
  (h:(dW 1 1 p≠[]∧ms=(re (l.foldl eH []) p).map fun m=>(m.asked x).mc (20+1))∨(dW 1 1 p=[]∧ ∃wr,xE p (l.foldl eH []) wr∧ms=(lW (l.foldl eH []) wr).map fun m=>(m.asked x).mc (20+1))):
  ∃T:Nat,(∀m∈ms,OkM l (decide (dW 1 1 p≠[])) m)∧(ms.map fun m=>(jC m).length).sum=T∧T≤40∧
   ((dW 1 1 p≠[]∧T=(dW 1 1 p).length)∨(dW 1 1 p=[]∧ ∃s wr,runM p [] []= .ok (s,wr)∧T=(dC wr).length)):=by
 obtain⟨yJ,hg⟩:=aga zT;have hl:=aei yJ;rcases h with⟨h1,rfl⟩|⟨h1,wr,⟨_,⟨s,h2⟩,_,h4⟩,rfl⟩
 ·rw [decide_eq_true h1];exact⟨_,aej (Cm hc) hg,acf (Cm hc) hg,ah Dw hl,.inl ⟨h1,rfl⟩⟩
 ·rw [decide_eq_false (by simp [h1])];refine⟨_,aek (Cm hc) h4,acg (Cm hc) h4,?_,.inr ⟨h1,s,wr,h2,rfl⟩⟩;have:=(RZ yJ h2).2.1;rw [dC,aI,(kL _).length_eq,aI];exact this
theorem agb {P:Program} {X X0:XS} {w w0:World} {N:Value→Prop} {t:TypeId} {v:Value} {xs:List dF} {i:Nat} {z:Int} {x:dF} (h:en w0 X0 36 v dF.rd xs) (hr:xs[i]? =some x)
  (hz:z=i) (ht:P.underlying t=some (.slice (P.elem t))) (hs:(P.info? (P.elem t)).map (·.size)=some 36)
  (n: ∀b o vk vs vw vp vr vc vh vd,aR.one vk=true→aR.one vs=true→aR.one vw=true→aR.one vp=true→aR.one vr=true→aR.one vc=true→aR.one vh=true→aR.one vd=true→Cells w0 X0 b o (x.l vk vs vw vp vr vc vh vd)→x.at w0 X0 vk vs vw vp vr vc vh vd→N (ptr b o)):ae P X w (dr t 36 v (.int .i64 z)) N:=
 Bt h hr hz ht hs fun b o _ hc ⟨vk,vs,vw,vp,vr,vc,vh,vd,hl,h1⟩=>n b o vk vs vw vp vr vc vh vd h1.keys.one h1.seen.one h1.writes.one h1.parts.one h1.ranges.one h1.fY.one h1.fU.one h1.fB.one (hl▸hc) h1
theorem ID {w:World} {X:XS} {v vp:Value} {r:List Value} {p:List fw} (h:Sl w X 41 v [r]) (hr:r=(⟨0,0,0,uG,p,[]⟩:tI).l zZ zZ zZ zZ zZ zZ zZ zZ vp zZ) (hp:Sl w X 5 vp (p.map fw.l)):en w X 41 v tI.rd [⟨0,0,0,uG,p,[]⟩]:=
 ⟨_,h,rfl,fun i l x hl hx=>by
  cases i with
  |zero=>
   cases hl;cases hx;exact⟨_,_,_,_,_,_,_,_,_,_,hr,⟨⟨Sl.nil _ _ _,Sl.nil _ _ _,Sl.nil _ _ _,Sl.nil _ _ _,Sl.nil _ _ _,en.nil _ _ _,en.nil _ _ _,en.nil _ _ _⟩,hp,Sl.nil _ _ _⟩⟩
  |succ i=>simp at hx⟩
theorem Lo {w:World} {X:XS} {a vp:Value} {l:List dq} {p:List fw} {eh:Int} (ha:Sl w X 4 a (l.map dq.l)) (hp:Sl w X 5 vp (p.map fw.l)):
  Ct pg 3 #[a,I eh,vp] w X nX fun v w1 w2=>v=B true:=by
 obtain⟨ab,an,ac,rfl⟩:=ha.form;obtain⟨pb,pn,pc,rfl⟩:=hp.form;intro w0 hk;replace ha:=ha.mv hk.dD;replace hp:=hp.mv hk.dD;have jV:=ha.gy;have hlp:=hp.gy;have tJ: ∀{w:World} {X:XS} {K:Value→World→XS→Prop},ak (aV w0) w0 X w→(∀w' X',ak X w X' w'→K (B true) w' X')→eC pg (xv nX w0 fun v w'=>(fun v w1 w2=>v=B true) v w0 w') X w true 4 #[] K:=fun hs k=>
  gC XA kQ hs.has k
 apply Cv;unfold tK;have hs:=ak.init w0;refine tJ hs fun w1 X1 au=>?_;replace hs:=hs.trans au;have od: ∀{w:World} {X:XS},ak (aV w0) w0 X w→eC pg (xv nX w0 fun v w'=>(fun v w1 w2=>v=B true) v w0 w') X w true 4 #[] fun x w X=>fin (xv nX w0 fun v w'=>(fun v w1 w2=>v=B true) v w0 w') X w x:=fun hs=>tJ hs fun w2 X2 bT=>aw (hs.trans bT) fun _ _=>rfl;by_cases hp1:p.length>100
 ·repeat' first|refine bD ?_;intros|with_reducible apply dy
  exact od hs
 repeat' first|refine bD ?_;intros|(with_reducible apply F8);(case hX=>exact hs.has);(case he=>kernel_rfl);(case hk=>rfl);intro acc w X au ho;obtain⟨_,_,_,rfl⟩:=ho.sl.form;replace hs:=hs.trans au|with_reducible apply dy
 refine dp (ab3 (xs:=[⟨0,0,0,uG,p,[]⟩]) (ID ho.sl rfl (hp.mv hs.mv))) kQ hs.has ?_;rintro _ wa w X ⟨bf,rfl⟩ hle fO bT;replace hs:=hs.trans bT;clear ho;cases bf with
 |false=>
  repeat' first|refine aL ?_;intros
  exact od hs
 |true=>
  repeat' first|refine aL ?_;intros|refine dM ?_ ?_<;>intros
  ·exact od hs
  refine dp O9 kQ hs.has ?_;rintro _ mw w4 X4 ⟨db,rfl,LU⟩ qh lL fq;have L8:=hs.kp.size;replace hs:=hs.trans fq;have fm:Ft w0 nX w4 X4 (fun k=>made mw w4 k):=⟨hs.less (fun k af=>af.1),fun k af=>lL k af,fun k af=>.inr (ah L8 (ah qh af.1))⟩;refine fm.call (HC (l:=l) LU (fm.fx fun _ h=>h) (ha.mv hs.mv)) kQ (fun _ h=>h) fun v YC w5 X5 hq Qf Jg uF c5=>?_;by_cases hc:qU l=0
  ·rw [DD,if_neg (by rw [hc];decide)] at hq;obtain⟨nb,c,mb,N,D,G,L,m,rfl,hN,hG,e1,e2,e3,h5,Nl⟩:=hq;have ff:Ft w0 nX w5 X5 (fun k=>N k∨G k):=uF.less fun k af=>af.elim (fun e=>.inr (hN k e)) (hG k);clear hs uF au bT fq fm;have hs:=ff.kZ;have hp5:=hp.mv hs.mv;have Vs:FX N X5 w5:=fun k af=>⟨ff.bK k (.inl af),ff.s.has k (ff.bK k (.inl af))⟩;have YS:N nb:=(h5.vf _).2 (.inl rfl);have nab:N c.ab:=(h5.vf _).2 (.inr (.inl rfl));have ncb:N c.cb:=(h5.vf _).2 (.inr (.inr (.inr (.inl rfl))));have nF: ∀k,(k=nb∨k=c.ab∨k=c.cb)→N k:=fun k e=>by rcases e with rfl|rfl|rfl<;>assumption
   have hA: ∀k,aV w0 k→X5 k∧k≠nb∧k≠c.ab∧k≠c.cb:=fun k af=>by
    refine⟨hs.sub k af,?_,?_,?_⟩<;>(rintro rfl;first|exact ff.no (.inl YS) ⟨af,nofun⟩|exact ff.no (.inl nab) ⟨af,nofun⟩|exact ff.no (.inl ncb) ⟨af,nofun⟩)
   have YV:Sl w5 (aV w0) 5 (.slice pb pn pc) (p.map fw.l):=hp.mv fun k af _=>⟨af,hs.kp.block k af⟩;repeat' first|refine bD ?_;intros
   refine ff.call (Jn (p:=p) (eh:=eh) h5.row h5.am h5.US h5.dir (KX (Cm hc)) (by rw [h5.cm];rfl) (fun k e=>Vs k (nF k e)) (fun k e=>Vs k ((h5.vf k).2 (.inr (.inr (.inr (.inr e)))))) (fun k e=>⟨(h5.dd k e).1,(h5.dd k e).2.1,(h5.dd k e).2.2.2⟩)
    YV hA zQ zQ zQ zQ (by decide) (by decide)) kQ (fun k e=>.inl (nF k e)) fun v Yr w6 X6 hq PW FN uB c6=>?_
   obtain⟨xb,x,vm,va,vw,K,mW,rm,ra,rw5,ms,ws,um,q⟩:=hq;have hv:=q.v;subst hv;have zN:=uB.kZ;have hp6:=hp.mv zN.mv;have hDN: ∀k,D k→N k:=fun k e=>(h5.vf k).2 (.inr (.inr (.inr (.inr e))));have Si: ∀k,K k→X6 k:=fun k e=>(q.k1 k e).elim (fun e=>c6.sub k (Vs k (hDN k e)).1) (FN k);have om6:=q.om.mv (Mv.sub Si);have oa6:=q.oa.mv (Mv.sub Si);have IY:jr w6 X6 rm ms:=q.hm.mv (Mv.sub Si);obtain⟨vmb,vmn,vmc,rfl⟩:=om6.form;obtain⟨vab,van,vac,rfl⟩:=oa6.form;have Ds:=q.mid.row.mono fun k (af:k=nb)=>af▸(c6.sub nb (Vs nb YS).1);have ah5:dS w6 X6 nX c.ab (fun k:de=>k.v) nH mW:=q.mid.am.mv fJ (Mv.sub fun k (af:k=c.ab)=>af▸(c6.sub c.ab (Vs _ nab).1)) fun _ h=>h.elim;have hW6:en w6 X6 36 (.slice vmb vmn vmc) dF.rd ms:=⟨rm,om6,IY.1,IY.2⟩;have tD:=q.res;rw [e1] at tD;clear hs q om6 IY hp5 YV hA;have hs:=ak.ct uB.s.has;have oa7:Sl w6 X6 9 (.slice vab van vac) (ra.map id):=by rw [List.map_id];exact oa6
   repeat' first|refine bD ?_;intros|with_reducible apply dy
   refine gC (Cc hp6) kQ hs.has fun w7 X7 gH=>?_;have kF:=uB.since gH;by_cases yJ:iN p=0
   ·rw [yJ];replace oa7:=oa7.mv gH.mv;rcases tD with⟨hra,_⟩|⟨rfl,zT,Pa,_,tD⟩
    ·clear hs;have hs:=gH;repeat' first|refine bD ?_;intros
     refine tJ kF.kZ fun w8 X8 mi=>?_;repeat' first|refine bD ?_;intros
     exact aw (kF.kZ.trans mi) fun _ _=>rfl
    ·clear hs;have hs:=ak.ct gH.has;repeat' first|refine bD ?_;intros|refine dM ?_ ?_<;>intros|(exfalso;simp only [bL] at*;omega)
     obtain⟨T,hOk,alK,am6,ajL⟩:=aap (ms:=ms) (x:=x) hc zT (tD.imp id fun ⟨h1,wr,h2,_,_,_,_,h3,_⟩=>⟨h1,wr,h2,h3⟩);clear tD;refine dp (tq (hp6.mv gH.mv) zQ) kQ hs.has ?_;rintro vr wa8 w8 X8 hor adu UM mi;have hsr:=hor.sl.mv (Mv.sub UM);obtain⟨rb,rn,rc,rfl⟩:=hsr.form;have oe:=kF.since mi;have hW8:=en.mv hW6 dF.mv (gH.trans mi).mv;have TC:=Ds.since (gH.trans mi);have ZZ:=ah5.mv fJ (gH.trans mi).mv (A':=nX) fun _ h=>h.elim;have ha8:=ha.mv oe.kZ.mv;have hp8:=hp.mv oe.kZ.mv;have hlm:=hW8.len;clear hs gH mi hW6 Ds ah5 hp6 oa6 oa7 kF uB c6 hor;have hs:=oe.kZ;refine Om (fun n a b _ _ _ w X=> ∃i:Nat,a=I (i:Nat)∧b=I ((((ms.take i).map fun m=>(jC m).length).sum:Nat):Int)∧n=ms.length-i∧i≤ms.length∧ak X8 w8 X w) ms.length ⟨0,rfl,rfl,rfl,aG _,ak.ct oe.s.has⟩ ?_;rintro n a b _ _ _ w X ⟨i,rfl,rfl,rfl,hi,EL⟩;clear hs;have hs:=EL;rcases ew ms i with⟨dz,y,hy,hd⟩|⟨dV,hd⟩
     ·obtain⟨z1,z2,z3,z4,z5⟩:=hOk y (cw hy);have hsi:((ms.take (i+1)).map fun m=>(jC m).length).sum=((ms.take i).map fun m=>(jC m).length).sum+(jC y).length:=by
       rw [cn,hy];simp
      have yG:((ms.take (i+1)).map fun m=>(jC m).length).sum≤T:=by
       have h9:=congrArg (fun z:List dF=>(z.map fun m=>(jC m).length).sum) (List.take_append_drop (i+1) ms);simp only [List.map_append,List.sum_append_nat] at h9;omega
      have R0:(jC y).length=y.keys.length+y.writes.length:=by simp [jC]
      have Mf:0<(jC y).length:=List.length_pos_iff.2 z5;have hzk:(y.kind=1∧0<(dW 1 1 p).length)∨(y.kind=3∧(dW 1 1 p).length=0):=by
       by_cases h9:dW 1 1 p=[]
       ·rw [decide_eq_false (by simp [h9])] at z4;exact .inr ⟨z4,by rw [h9];rfl⟩
       ·rw [decide_eq_true h9] at z4;exact .inl ⟨z4,List.length_pos_iff.2 h9⟩
      clear z4;repeat' first|refine bD ?_;intros|(with_reducible apply agb);(case h=>assumption);(case hr=>exact hy);(case hz=>rfl);(case ht=>kernel_rfl);(case hs=>kernel_rfl);intro bm om vk vs vw vp vr vc vh vd o1 o2 o3 o4 o5 o6 o7 o8 lG aaq
      obtain⟨kb,kn,kc,rfl⟩:=aaq.keys.form;obtain⟨tb,tn,tc,rfl⟩:=aaq.writes.form;refine qV (bytes:=16) (X0:=X8) (w0:=w8) (rows:=[]) (Own.nil _ _ _ _ _) hs oe.s.has kQ (aaq.keys.mv hs.mv) (by simp [aR.one]) (by simp only [aI,bL];omega) (by simp only [aI,bL];omega) fun v4 w4 X4 fq B7 EM MU=>?_;refine fM (fun n a b w X=> ∃k:Nat,a=I (k:Nat)∧n=y.writes.length-k∧k≤y.writes.length∧ak X8 w8 X w∧Own w X w8.heap.size 9 1 b ((y.keys++(y.writes.take k).map (·.key)).map S1)) y.writes.length ⟨0,rfl,rfl,aG _,fq,by simpa using B7⟩ ?_;rintro n a b w X ⟨k,rfl,rfl,xF,OW,tp⟩;clear hs;have hs:=OW;obtain⟨bb,bn,bc,rfl⟩:=tp.sl.form;have hwr:=aaq.writes;rcases ew y.writes k with⟨adf,z,hz,nS⟩|⟨MN,nS⟩
      ·repeat' first|refine bD ?_;intros|(with_reducible apply IK);(case hX=>exact hs.has);(case he=>kernel_rfl);(case ho=>first|rfl|assumption);(case hk=>rfl);intro acc w X au ho;obtain⟨_,_,_,rfl⟩:=ho.sl.form;replace hs:=hs.trans au
       refine qV (bytes:=16) (X0:=X8) (w0:=w8) (tp.since au) hs oe.s.has kQ ho.sl (by simp [aR.one]) (by simp only [aI,av,bU,bz];omega) (by simp only [aI,av,bU,bz];omega) fun v5 w5 X5 tj jW rV uD=>?_;repeat' first|refine aL ?_;intros
       exact fI (y.writes.length-(k+1)) zQ ⟨k+1,by simp,rfl,by omega,tj,by simpa [cn,hz] using jW⟩
      ·have AS:Sl w X 1 (.slice bb bn bc) ((jC y).map S1):=by
        have:=tp.sl;rw [bq MN] at this;exact this
       have hTb:=oe.since OW;have ta:=ha8.mv OW.mv;clear hs;have hs:=OW;repeat' first|refine bD ?_;intros
       clear hs;refine fQ (fun n a w1 X1=> ∃j:Nat,a=I (j:Nat)∧n=(jC y).length-j∧j≤(jC y).length∧ak X w X1 w1) (jC y).length ⟨0,rfl,rfl,aG _,ak.ct OW.has⟩ ?_;rintro n a w1 X1 ⟨j,rfl,rfl,hj,fK⟩;have hs:=fK;rcases ew (jC y) j with⟨alL,kk,wD,Mb⟩|⟨alM,Mb⟩
       ·obtain⟨zs,r,hf,uZ,qY⟩:=z1 kk (cw wD);repeat' first|refine bD ?_;intros|((with_reducible refine ee (Bo _ (by first|assumption|omega)) ?_ hs.has ?_);(· kernel_rfl);intro w X au;replace hs:=hs.trans au)
        refine gC (Vp (x:=placeOf kk) (ta.mv hs.mv)) kQ hs.has fun w3 X3 ea=>?_;replace hs:=hs.trans ea;rw [hf];simp only [Option.getD_some,Option.isSome_some];repeat' first|refine bD ?_;intros
        exact fh ((jC y).length-(j+1)) zQ ⟨j+1,by simp,rfl,by omega,hs⟩
       ·rcases hzk with⟨q1,q2⟩|⟨q1,q2⟩
        ·repeat' first|refine bD ?_;intros
         refine Qm kQ ?_;repeat' first|refine bD ?_;intros
         exact Um (ms.length-(i+1)) zQ ⟨i+1,by simp,by rw [hsi];simp,rfl,by omega,OW.trans fK⟩
        ·repeat' first|refine bD ?_;intros
         refine Qm kQ ?_;repeat' first|refine bD ?_;intros
         exact Um (ms.length-(i+1)) zQ ⟨i+1,by simp,by rw [hsi];simp,rfl,by omega,OW.trans fK⟩
     ·have Hz:ms.take i=ms:=bq dV;rw [Hz,alK];have hT:=oe.since EL;rcases ajL with⟨q1,rfl⟩|⟨q1,s,wr,jI,rfl⟩
      ·have q2:=List.length_pos_iff.2 q1;repeat' first|refine bD ?_;intros
       refine tJ hT.kZ fun w9 X9 xB=>?_;repeat' first|refine bD ?_;intros
       exact aw (hT.kZ.trans xB) fun _ _=>rfl
      ·have q2:(dW 1 1 p).length=0:=by rw [q1];rfl
       repeat' first|refine bD ?_;intros
       refine dp (L6 (hp8.mv EL.mv) q1) kQ hs.has ?_;rintro v C8 w9 X9 Me ZL Je xB;rw [if_neg (by rw [yJ];decide),jI] at Me;obtain⟨vl,rfl,II⟩:=Me;replace II:=II.mv (Mv.sub Je);have lU:=hT.since xB;clear hs;have hs:=ak.ct xB.has;repeat' first|refine aL ?_;intros
       refine tJ lU.kZ fun Mj Jt Vt=>?_;have xG:=lU.since Vt;have bJ:=TC.since ((EL.trans xB).trans Vt);have DB:=ZZ.mv fJ ((EL.trans xB).trans Vt).mv (A':=nX) fun _ h=>h.elim;replace II:=II.mv Vt.mv;clear hs;have hs:=ak.ct Vt.has;repeat' first|refine bD ?_;intros|with_reducible apply dy
       refine dp (Qr bJ (fun _ h=>h) DB (by rw [Pa];exact Nat.le_refl 1)) kQ hs.has ?_;rintro va am7 w11 X11 ⟨ts,hts,alN⟩ amI ajM Qk;have wE:=alN.sl.mv (Mv.sub ajM);have am8:ts.length=1:=by rw [hts,Pa];rfl
       clear hs;have hs:=ak.ct Qk.has;repeat' first|refine bD ?_;intros
       exact aw (xG.since Qk).kZ fun _ _=>rfl
   ·clear hs;have hs:=gH;repeat' first|refine bD ?_;intros
    refine tJ kF.kZ fun w8 X8 mi=>?_;repeat' first|refine bD ?_;intros
    exact aw (kF.kZ.trans mi) fun _ _=>rfl
  ·rw [DD,if_pos hc] at hq;subst hq;have xB:=uF.kZ;clear hs;have hs:=xB;repeat' first|refine bD ?_;intros
   refine tJ hs fun w6 X6 zN=>?_;repeat' first|refine aL ?_;intros
   exact aw (hs.trans zN) fun _ _=>rfl
end Go.Proofs.YtbpnemeooenpmaaGreat
namespace Go.Proofs.YtbpnemeooenpmaaGreat
open Go.Proofs.Tryz renaming prog → pg
open Go.aR Go.ChangeShapes Go.WideShapes Go.ChangeAt Go.RowKit
set_option maxRecDepth 100000
set_option maxHeartbeats 1000000
theorem agc:Da 22 (rdL 4 (fun _ _ cs (x:dq)=>cs=x.l)):=Uf kQ kQ (by decide) ag5
instance:Wt fw:=⟨fun x=>Wt.wt x.code+Wt.wt x.key+Wt.wt x.val+1,fun _=>by omega⟩
theorem ah6:Da 75 (fun _ _ cs (x:fw)=>cs=x.l):=fun H enc W fuel cs x h=>by
 obtain⟨n,ds,hx,hf⟩:=D7 [3,9,62] kQ h;obtain⟨_,_,_,_,a0,rfl,rfl,rfl,w0,hf⟩:=qj Oh hf;obtain⟨_,_,_,_,a1,rfl,rfl,rfl,w1,hf⟩:=qj abx hf;obtain⟨_,_,_,_,a2,rfl,rfl,rfl,w2,rfl,rfl⟩:=qj ag4 hf;refine⟨⟨a0,a1,a2⟩,rfl,?_⟩;rw [hx];simp only [Rows.uptoBulk,Rows.uptoBulkAll,Wt.wt] at*;omega
theorem agd:Da 23 (rdL 5 (fun _ _ cs (x:fw)=>cs=x.l)):=Uf kQ kQ (by decide) ah6
namespace coordGroups
theorem ael (H:Type) (enc:TypeId×Value→H) (W:World) (base:Nat) (args:Array Value) (ds gs:List (DataW H)) (before:List MemPlace)
  (JE: ∀(j:Nat) t v,Tryz.f3.params[j]? =some t→args[j]? =some v→Value.okWide pg W .any base t v)
  (hW:DataW.Whole enc pg Tryz.f3.params.toList Rows.coordGroupsSpec.vars false W args.toList ds gs before) (hk:Rows.uptoSmall H (ds++gs)=true):
  Calls pg 3 args W fun e W'=> ∃v,e= .returned v∧Rows.coordGroupsSpec.post enc pg Tryz.f3 false true false false W args v W':=by
 have hW':=hW;obtain⟨p,q,hA0,hV,rfl,hfz,rR⟩:=hW;have hA:DataW.TrodAll enc pg W 0 (fun _=>true) true Tryz.f3.params.toList args.toList ds p:=hA0;rw [Tryz.params3] at hA JE;obtain⟨v0,vs0,d0,ds0,p0,q0,afA,rfl,rfl,h0,r0⟩:=trodAll_cons hA;obtain⟨v1,vs1,d1,ds1,p1,q1,rfl,rfl,rfl,h1,r1⟩:=trodAll_cons r0;obtain⟨v2,vs2,d2,ds2,p2,q2,rfl,rfl,rfl,h2,r2⟩:=trodAll_cons r1;obtain⟨rfl,rfl,rfl⟩:=trodAll_nil r2;obtain rfl:args= #[v0,v1,v2]:=by cases args;simp_all
 obtain⟨rfl,rfl⟩:=trodVars_none hV;obtain⟨b0,n0,c0,rfl⟩:=okWide_slice Tryz.underlying22 (JE 0 22 v0 rfl rfl);obtain⟨z1,rfl⟩:=okWide_int Tryz.underlying3 (JE 1 3 v1 rfl rfl);obtain⟨b2,n2,c2,rfl⟩:=okWide_slice Tryz.underlying23 (JE 2 23 v2 rfl rfl);obtain⟨f0,hf0⟩:=h0;obtain⟨x0,⟨u0,hu0,r0'⟩,wt0⟩:=agc H enc W f0 _ _ hf0;obtain rfl:u0= .slice b0 n0 c0:=by simpa [Value.cells] using hu0.symm
 obtain⟨f2,hf2⟩:=h2;obtain⟨x2,⟨u2,hu2,r2'⟩,wt2⟩:=agd H enc W f2 _ _ hf2;obtain rfl:u2= .slice b2 n2 c2:=by simpa [Value.cells] using hu2.symm
 refine(Lo (X:=aV W) (eh:=z1) r0'.afk r2'.afk W (Kp.refl _ _)).mono fun e W' ⟨v,he,Mn,hq⟩=>?_;subst he;subst hq;exact⟨_,rfl,ac7 Uj Tryz.underlying4 rfl rfl kQ ⟨rfl,rfl,rfl⟩ hW' (by have h9:=hA0;simp only [List.append_nil] at h9⊢;exact h9) Mn⟩
theorem lifted (os:Os) (started:os.Started) (H:Type) (enc:TypeId×Value→H) (F:Stop.Interp):
  ReturnsInHanded {} Tryz.checked os 3 .any ((Rows.OpenSpec.upto Rows.coordGroupsSpec).pre6 enc pg Tryz.f3 Rows.coordGroupsUptoRow.domain false) (((Rows.OpenSpec.upto Rows.coordGroupsSpec).at F).post enc pg Tryz.f3 false true false false):=by
 refine returnsInHanded_of_cond (C:=Tryz.checked) (s:=Rows.OpenSpec.upto Rows.coordGroupsSpec) (k:=Rows.uptoSmall) rfl ac8 started kQ Tryz.func3
  (OpenSpec.witness (enc:=enc) (C:=Tryz.checked) (s:=Rows.OpenSpec.upto Rows.coordGroupsSpec) (k:=Rows.uptoSmall) rfl false ⟨#[],#[.slice none 0 0,I 0,.slice none 0 0],[]⟩ 8 kQ kQ kQ
   (x:=([.nil,.lit (.int .i64 0),.nil],[],[])) kQ rfl kQ) ?_
 intro W base args ds gs before JE hW _ hk _;exact ael H enc W base args ds gs before JE hW hk
theorem ajN:((Rows.coordGroupsUptoRow).unfollowed==pg.unfollowed 3)=true:=by kernel_rfl
theorem ajO:((Rows.coordGroupsUptoRow).recurses==pg.recurses 3)=true:=by kernel_rfl
theorem ach:((Rows.coordGroupsUptoRow).inPlace==pg.inPlace 3)=true:=by kernel_rfl
theorem agf:((Rows.coordGroupsUptoRow).named==pg.varsNamed 3)=true:=by kernel_rfl
theorem XB:mapsRowed pg=true:=by kernel_rfl
theorem agh:(pg.stops==[])=true:=by kernel_rfl
theorem agi:(pg.stopKnobs==[])=true:=by kernel_rfl
theorem agj:pg.stopsHeard=true:=by kernel_rfl
theorem ajP:pg.mayEnter=true:=by kernel_rfl
theorem ah7:((Rows.coordGroupsUptoRow).plainKeys==pg.plainKeys)=true:=by kernel_rfl
theorem aem:((Rows.coordGroupsUptoRow).lifted==pg.liftsFinal)=true:=by kernel_rfl
theorem ah8:(pg.make==some (Rows.coordGroupsUptoRow).make)=true:=by kernel_rfl
theorem ah9:joinedFacts pg 3 Tryz.f3 (Rows.OpenSpec.upto Rows.coordGroupsSpec).bare Rows.coordGroupsUptoRow=true:=by
 unfold joinedFacts;simp only [aW]
 and_intros<;>first|with_reducible exact Uj|with_reducible exact ajN|with_reducible exact ajO|with_reducible exact ach|with_reducible exact agf|with_reducible exact XB|with_reducible exact agh|with_reducible exact agi|with_reducible exact agj|with_reducible exact ajP|with_reducible exact ah7|with_reducible exact aem|with_reducible exact ah8|kernel_rfl
theorem proved:Rows.CoordGroupsUptoSaid:=
 OpenClaim.holds_of_cond 3 Tryz.f3 rfl rfl rfl rfl rfl rfl rfl ⟨rfl,rfl,rfl,rfl,rfl⟩ rfl rfl rfl rfl rfl kQ Tryz.func3 ah9
  (of_decide_eq_true kQ) (by unfold Func.isWrapper;first|(rw [if_pos (by decide+kernel)];kernel_rfl)|(rw [if_neg (by decide+kernel)];exact⟨rfl,rfl⟩))
  (fun os started H enc _ F=>lifted os started H enc F)
#print axioms proved
end coordGroups
end Go.Proofs.YtbpnemeooenpmaaGreat
