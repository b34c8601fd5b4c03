/-
 Part 8 of the proof: what the last text leans on.
-/
import Derived.Test.YtbpnemeooenpmaaGreatH7
open Nat renaming le_trans → ah, zero_le → aG, lt_of_lt_of_le → aH
open List renaming length_append → av, append_assoc → aK, take_of_length_le → bq, mem_of_getElem? → cw, all_cons → gW, map_append → bC, drop_zero → jb, any_cons → jw, take_add_one → cn, length_cons → ba, append_nil → lZ, length_map → aI
open BitVec renaming ofInt → bS
open Go.Value renaming string → bB
open Go.IntKind renaming signed → jd, wrap → oC, bits → me
open Option.some renaming injEq → az
open Int renaming fdiv_eq_ediv_of_nonneg → qd
set_option linter.unusedVariables false
set_option linter.unusedSimpArgs false
namespace Go.Proofs.YtbpnemeooenpmaaGreat
open Go.Proofs.Tryz renaming prog → pg
open Go.aR
set_option maxRecDepth 100000
set_option maxHeartbeats 1000000
set_option linter.unusedVariables false
set_option linter.unusedSimpArgs false
attribute [local irreducible] un jn aB aS ld1 dY st1 dr cB kN dw lR uK sP fC e6 ae aC aJ eW eV eU eC eF gE ay fin aQ aF aE vS xh gG gS qK uL sQ xi xj xk gz gP qL uM sR xl xm
theorem BJ:sS pg 27 (fun k:de=>k.v):=
 aeJ (n:=3) kQ (fun k:de=>[k.gN,k.ga,k.sq]) (fun _=>rfl) (fun a b h=>by
  simp only [List.cons.injEq,and_true] at h;exact de.ext h.1 h.2.1 h.2.2)
theorem zf:sS pg 9 (fun s:BA=>bB s):=Gz kQ
def oD (w:World) (A:XS) (v:Value) (l:List kf):Prop:=Sl w A 6 v (l.map kf.l)
def na (w:World) (A:XS) (v:Value) (p:ey):Prop:= ∃vr vw,v=p.v vr vw∧Sl w A 1 vr (p.reads.map S1)∧Sl w A 4 vw (p.writes.map KV.l)
theorem oD.mv:mV oD:=fun _ _ _ _ _ _ h m=>Sl.mv h m
theorem na.mv:mV na:=fun _ _ _ _ _ _ ⟨vr,vw,h,h1,h2⟩ m=>⟨vr,vw,h,h1.mv m,h2.mv m⟩
structure gv (w:World) (X A:XS) (sb kb pb:Nat) (hm:List (BA×List kf)) (pm:List (de×ey)) (low:cx):Prop where
 box:a7 w X sb [.map (some kb),.map (some pb),I low.wall,I low.ep,I low.node] 425
 keys:dS w X A kb (fun s:BA=>bB s) oD hm
 fB:dS w X A pb (fun k:de=>k.v) na pm
 sub: ∀k,A k→X k
 off: ∀k,A k→k≠sb∧k≠kb∧k≠pb
theorem gv.mv {w w':World} {X Y A:XS} {sb kb pb:Nat} {hm:List (BA×List kf)} {pm:List (de×ey)} {low:cx} (h:gv w X A sb kb pb hm pm low)
  (hX: ∀k,X k→k<w.heap.size) (m:Mv X w Y w'):gv w' Y A sb kb pb hm pm low:=by
 have ma:Mv A w A w':=fun k hk hl=>⟨hk,(m k (h.sub k hk) hl).2⟩;exact⟨h.box.mv m,h.keys.mv oD.mv m ma,h.fB.mv na.mv m ma,fun k hk=>(m k (h.sub k hk) (hX k (h.sub k hk))).1,h.off⟩
theorem aeW {w:World} {X A:XS} {kb:Nat} {hm:List (BA×List kf)} {k:BA} {N:Value→Prop} {w0:World} {X0:XS} (h:dS w0 X0 A kb (fun s:BA=>bB s) oD hm) (hA: ∀k,A k→X0 k) (m:Mv X0 w0 X w)
  (n: ∀v,Sl w0 X0 6 v (((getM k hm).getD []).map kf.l)→N v):ae pg X w (Instr.lookup 422 (.map (some kb)) (.string k) false) N:=by
 have h':dS w X A kb (fun s:BA=>bB s) oD hm:=h.mv oD.mv m fun k hk hl=>⟨hk,(m k (hA k hk) hl).2⟩;obtain⟨es,c,h1,h2⟩:=h;have m':Mv A w0 A w:=fun k hk hl=>⟨hk,(m k (hA k hk) hl).2⟩;refine ti (et:=318) (A:=X) (rd:=fun w X v l=>Sl w0 A 6 v (l.map kf.l)) (l:=hm) (.slice none 0 0) ?_ zf kQ kQ (fun v a hg hr=>?_) fun hg=>?_
 ·exact⟨es,c,h1.mv m,by
   clear h1 h' n
   induction es generalizing hm with
   |nil=>cases hm<;>first|trivial|exact h2.elim
   |cons e es ih=>cases hm with
    |nil=>exact h2.elim
    |cons x l=>exact⟨h2.1,h2.2.1,ih h2.2.2⟩⟩
 ·exact n v (by rw [hg];exact Sl.mv hr (Mv.sub hA))
 ·exact n _ (by rw [hg];exact Sl.nil _ _ _)
def ey.BF (x q:ey):Bool:=x.writes.any (fun w=>q.has w.key||q.reads.any fun k=>decide (w.key=k))||x.reads.any fun k=>q.has k
def CJ (l:List kf) (rC:cx) (all:Bool):fR×cx:=l.foldl (fun s v=>if all||decide (v.bF.cmp rC≤0)then(v.val,v.bF)else s) (.zero,.zero)
def FA (hm:List (BA×List kf)) (k:BA):List kf:=(getM k hm).getD []
abbrev aaV (k:BA) (s:fR×cx):Value:=.agg #[.string k,I s.1.kind,.float .f64 s.1.num,.string s.1.text,I s.2.wall,I s.2.ep,I s.2.node]
theorem Ti {w:World} {X A:XS} {sb kb pb:Nat} {hm:List (BA×List kf)} {pm:List (de×ey)} {low rC:cx} {k:BA} {all:Bool}
  (h:gv w X A sb kb pb hm pm low) (hX: ∀k,X k→k<w.heap.size):
  Ct pg 327 #[ptr sb 0,.string k,rC.v,B all] w X nX fun v _ _=>v=aaV k (CJ (FA hm k) rC all):=by
 intro w0 hk;replace h:=h.mv hX hk.dD;have gh:=h.box;have R0:=h.keys;apply Hb;unfold yt;have hs:=ak.init w0;repeat' first|refine aL ?_;intros
 refine aeW R0 h.sub (Mv.refl _ _) fun vv hvv=>?_
 show ae _ _ _ _ _
 have Og:FA hm k=(getM k hm).getD []:=rfl;rw [←Og] at hvv;generalize FA hm k=vs at hvv;have jV:=hvv.gy;repeat' first|refine aL ?_;intros
 refine fM (fun n a b w X=> ∃(i:Nat) (s:fR×cx),a=I i∧b=aaV k s∧n=vs.length-i∧i≤vs.length∧ak (aV w0) w0 X w∧
  CJ vs rC all=(vs.drop i).foldl (fun s v=>if all||decide (v.bF.cmp rC≤0)then(v.val,v.bF)else s) s) vs.length ⟨0,(.zero,.zero),rfl,rfl,rfl,aG _,hs,by rw [jb];rfl⟩ ?_
 rintro n a b w X ⟨i,s,rfl,rfl,rfl,hi,hs,hw⟩;rcases ew (vs) i with⟨dz,x,hx,hd⟩|⟨dV,hd⟩
 ·rw [hd,List.foldl_cons] at hw;cases all
  ·repeat' first|refine bD ?_;intros|refine dM ?_ ?_<;>intros|with_reducible apply dy|((with_reducible refine ee (sc _ _) ?_ hs.has ?_);(· kernel_rfl);intro w X au;replace hs:=hs.trans au)|((with_reducible refine fI ((vs).length-(i+1)) ?_ ?_);omega;exact⟨i+1,(x.val,x.bF),by simp,rfl,rfl,by omega,hs,by rw [hw];simp [*]⟩)|((with_reducible refine fI ((vs).length-(i+1)) ?_ ?_);omega;exact⟨i+1,s,by simp,rfl,rfl,by omega,hs,by rw [hw];simp [*]⟩)
  ·repeat' first|refine bD ?_;intros|with_reducible apply dy|((with_reducible refine fI ((vs).length-(i+1)) ?_ ?_);omega;exact⟨i+1,(x.val,x.bF),by simp,rfl,rfl,by omega,hs,by rw [hw];simp [*]⟩)
 ·repeat' first|refine bD ?_;intros|((first|(with_reducible refine aw hs ?_)|(with_reducible refine aw (bR.trans hs) ?_));intro wa hk;(rw [hw,hd];rfl))
theorem Tj {w:World} {X A:XS} {sb kb pb:Nat} {hm:List (BA×List kf)} {pm:List (de×ey)} {low:cx} {k:BA}
  (h:gv w X A sb kb pb hm pm low) (hX: ∀k,X k→k<w.heap.size):
  Ct pg 319 #[ptr sb 0,.string k] w X nX fun v _ _=>v=aaV k (CJ (FA hm k) .zero true):=by
 intro w0 hk;replace h:=h.mv hX hk.dD;apply Ha;unfold yr;have hs:=ak.init w0;repeat' first|refine aL ?_;intros|((first|(with_reducible refine aw hs ?_)|(with_reducible refine aw (bR.trans hs) ?_));intro wa hk;rfl)|(refine gC (Ti (rC:=.zero) h hs.has) kQ hs.has ?_;intro w X au;replace hs:=hs.trans au)
def KE (hm:List (BA×List kf)) (x:ey):Bool:=x.writes.any fun w=>decide ((CJ (FA hm w.key) .zero true).2.cmp x.bF≥0)
theorem aaW {w:World} {X A:XS} {sb kb pb:Nat} {hm:List (BA×List kf)} {pm:List (de×ey)} {low:cx} {x:ey} {vr vw:Value}
  (h:gv w X A sb kb pb hm pm low) (hX: ∀k,X k→k<w.heap.size) (h2:Sl w X 4 vw (x.writes.map KV.l)):
  Ct pg 299 #[ptr sb 0,x.v vr vw] w X nX fun v _ _=>v=B (KE hm x):=by
 intro w0 hk;replace h:=h.mv hX hk.dD;replace h2:=h2.mv hk.dD;have jV:=h2.gy;apply LG;unfold Bd;have hs:=ak.init w0;repeat' first|refine aL ?_;intros
 refine fQ (fun n a w X=> ∃i:Nat,a=I (i:Nat)∧n=(x.writes).length-i∧i≤(x.writes).length∧ak (aV w0) w0 X w∧KE hm x=(x.writes.drop i).any (fun w=>decide ((CJ (FA hm w.key) .zero true).2.cmp x.bF≥0))) (x.writes).length ⟨0,rfl,rfl,aG _,hs,by simp [KE]⟩ ?_;rintro n a w X ⟨i,rfl,rfl,hi,hs,hw⟩;rcases ew (x.writes) i with⟨dz,y,hy,hd⟩|⟨dV,hd⟩
 ·rw [hd,jw] at hw;repeat' first|refine bD ?_;intros|refine dM ?_ ?_<;>intros|((with_reducible refine ee (sc _ _) ?_ hs.has ?_);(· kernel_rfl);intro w X au;replace hs:=hs.trans au)|((first|(with_reducible refine aw hs ?_)|(with_reducible refine aw (bR.trans hs) ?_));intro wa hk;simp_all)|((with_reducible refine fh ((x.writes).length-(i+1)) ?_ ?_);omega;exact⟨i+1,by simp,rfl,by omega,hs,by rw [hw];simp [*]⟩)|(refine gC (Tj (h.mv (fun _ h=>h) (ak.mv hs)) hs.has) kQ hs.has ?_;intro w X au;replace hs:=hs.trans au)
 ·repeat' first|refine bD ?_;intros|((first|(with_reducible refine aw hs ?_)|(with_reducible refine aw (bR.trans hs) ?_));intro wa hk;simp_all)
theorem Tk {w:World} {X A:XS} {sb kb pb:Nat} {hm:List (BA×List kf)} {pm:List (de×ey)} {low:cx} {x:ey} {vr vw:Value}
  (h:gv w X A sb kb pb hm pm low) (hX: ∀k,X k→k<w.heap.size) (h1:Sl w X 1 vr (x.reads.map S1)) (h2:Sl w X 4 vw (x.writes.map KV.l)):
  Ct pg 298 #[ptr sb 0,x.v vr vw] w X nX fun v _ _=>v=B (pm.any fun q=>x.BF q.2):=by
 intro w0 hk;replace h:=h.mv hX hk.dD;replace h1:=h1.mv hk.dD;replace h2:=h2.mv hk.dD;have gh:=h.box;have RO:=h1.gy;have LZ:=h2.gy;apply G8;unfold yq;have hs:=ak.init w0;repeat' first|refine aL ?_;intros
 refine agE (kt:=27) (et:=266) h.fB na.mv h.sub kQ hs.has fun r w X hr au Hz=>?_;replace hs:=hs.trans au;refine fM (fun n _ _ w X=> ∃left,n=left.length∧ak (aV w0) w0 X w∧JM w X A r pb (fun k:de=>k.v) na pm left∧(pm.any fun q=>x.BF q.2)=left.any fun q=>x.BF q.2)
  pm.length ⟨pm,rfl,hs,Hz,rfl⟩ ?_
 rintro n a b w X ⟨left,rfl,hs,Hz,hw⟩;refine aiI Hz na.mv (fun k hk=>⟨hs.sub k (h.sub k hk),fun e=>by have:k<w0.heap.size:=h.sub k hk;omega⟩) hs.has (fun e0 w X au=>?_) fun kx q v nu w1 X1 hc qs al6 he=>?_
 ·replace hs:=hs.trans au;repeat' first|refine aL ?_;intros|((first|(with_reducible refine aw hs ?_)|(with_reducible refine aw (bR.trans hs) ?_));intro wa hk;(rw [hw,e0];rfl))
 ·have bR:=hs.fL hc fun k hk e=>by have:k<w0.heap.size:=hk;omega
  obtain⟨ur,uw,rfl,q1,q2⟩:=qs;have hA1: ∀k,A k→X1 k:=fun k hk=>bR.sub k (h.sub k hk);replace q1:=q1.mv (Mv.sub hA1);replace q2:=q2.mv (Mv.sub hA1);have o1:=q1.one;have o2:=q2.one;rw [acx _ Hz.nodup nu] at hw;replace hs:=ak.ct bR.has;repeat' first|refine aL ?_;intros
  refine agF hs.has he fun w X au=>?_;replace hs:=hs.trans au;repeat' first|refine aL ?_;intros
  refine fQ (fun n a w X=> ∃i:Nat,a=I (i:Nat)∧n=x.writes.length-i∧i≤x.writes.length∧ak X1 w1 X w∧
   (x.writes.any (fun w=>q.has w.key||q.reads.any fun k=>decide (w.key=k))=(x.writes.drop i).any (fun w=>q.has w.key||q.reads.any fun k=>decide (w.key=k)))) x.writes.length
   ⟨0,rfl,rfl,aG _,hs,by simp⟩ ?_
  rintro n a w X ⟨i,rfl,rfl,hi,hs,rB⟩;rcases ew (x.writes) i with⟨dz,y,hy,hd⟩|⟨dV,hd⟩
  ·rw [hd,jw] at rB;repeat' first|refine bD ?_;intros|with_reducible apply dy|((first|(with_reducible refine aw hs ?_)|(with_reducible refine aw (bR.trans hs) ?_));intro wa hk;(rw [hw];simp [ey.BF,rB, *]))|((with_reducible refine fh ((x.writes).length-(i+1)) ?_ ?_);omega;exact⟨i+1,by simp,rfl,by omega,hs,by rw [rB];simp [*]⟩)|(refine fS (HT  (p:=q) hs.has qA) kQ hs.has ?_ ?_<;>(intro _ w X au;replace hs:=hs.trans au))|(refine fS (we  qA) kQ hs.has ?_ ?_<;>(intro _ w X au;replace hs:=hs.trans au))
  ·rw [hd] at rB;repeat' first|refine bD ?_;intros
   refine fQ (fun n a w X=> ∃i:Nat,a=I (i:Nat)∧n=x.reads.length-i∧i≤x.reads.length∧ak X1 w1 X w∧
    (x.reads.any (fun k=>q.has k)=(x.reads.drop i).any (fun k=>q.has k))) x.reads.length
    ⟨0,rfl,rfl,aG _,hs,by simp⟩ ?_
   rintro n a w X ⟨j,rfl,rfl,hj,hs,ui⟩;rcases ew x.reads j with⟨dz,y,hy,nS⟩|⟨MN,nS⟩
   ·rw [nS,jw] at ui;repeat' first|refine bD ?_;intros|((first|(with_reducible refine aw hs ?_)|(with_reducible refine aw (bR.trans hs) ?_));intro wa hk;(rw [hw];simp [ey.BF,ui, *]))|((with_reducible refine fh (x.reads.length-(j+1)) ?_ ?_);omega;exact⟨j+1,by simp,rfl,by omega,hs,by rw [ui];simp [*]⟩)|(refine fS (HT  (p:=q) hs.has qA) kQ hs.has ?_ ?_<;>(intro _ w X au;replace hs:=hs.trans au))
   ·rw [nS] at ui;repeat' first|refine bD ?_;intros
    refine fI _ (agD nu) ⟨_,rfl,bR.trans hs,al6.mv na.mv (ak.mv hs) (ak.fi hs hA1),?_⟩;rw [hw];have:x.BF q=false:=by unfold ey.BF;rw [rB,ui];rfl
    simp [this]
def ey.fresh (wa w':World) (v:Value) (p:ey):Prop:=
 ∃vr vw,v=p.v vr vw∧Own w' (made wa w') wa.heap.size 9 1 vr (p.reads.map S1)∧Own w' (made wa w') wa.heap.size 64 4 vw (p.writes.map KV.l)∧
  ∀g,vr.ownBlock=some g→vw.ownBlock≠some g
theorem WG {w:World} {X:XS} {p:ey} {vr vw:Value} (h1:Sl w X 1 vr (p.reads.map S1)) (h2:Sl w X 4 vw (p.writes.map KV.l)) (rT:p.reads.length≤2^40) (wH:p.writes.length≤2^40):
  Ct pg 300 #[p.v vr vw] w X nX fun v wa w'=>p.fresh wa w' v:=by
  intro w0 hk;replace h1:=h1.mv hk.dD;replace h2:=h2.mv hk.dD;apply Te;unfold HP;have hs:=ak.init w0;refine dp (Hx h1 rT) kQ hs.has ?_;rintro v1 wa w X uh sk oR au;replace hs:=hs.trans au;have q1:=uh.sl.one;repeat' first|refine aL ?_;intros
  refine dp (EV (h2.mv (ak.mv hs)) wH) kQ hs.has ?_;rintro v2 wb w2 X2 nY qP nW bT;have hb:w0.heap.size≤wa.heap.size:=sk;have aiR:Own w X w0.heap.size 9 1 v1 (p.reads.map S1):=uh.up oR hb;have al8:=aiR.since bT;have al9:w0.heap.size≤wb.heap.size:=ah hs.kp.size qP;have ama:Own w2 X2 w0.heap.size 64 4 v2 (p.writes.map KV.l):=nY.up nW al9;have q2:=nY.sl.one;replace hs:=hs.trans bT;repeat' first|refine aL ?_;intros|((first|(with_reducible refine aw hs ?_)|(with_reducible refine aw (bR.trans hs) ?_));intro wa hk;(exact⟨v1,v2,rfl,(al8.kp hk).tight,(ama.kp hk).tight,fun g hg1 Jm=>by have:=(aiR.ge hg1).2;have:=(nY.ge Jm).1;omega⟩))
def yX (X:XS) (a b c:Nat):XS:=fun k=>X k∧k≠a∧k≠b∧k≠c
theorem aaX {w:World} {X:XS} :Ct pg 295 #[] w X nX fun v wa w'=>
  ∃sb kb pb,v=ptr sb 0∧gv w' (made wa w') (yX (made wa w') sb kb pb) sb kb pb [] [] .zero∧sb≠kb∧sb≠pb∧kb≠pb:=by
 intro w0 hk;apply Ya;unfold MA;have hs:=ak.init w0;refine nD (kv:=fun s:BA=>bB s) oD nX hs.has fun kb w1 X1 mN au oM=>?_;refine nD (kv:=fun k:de=>k.v) na nX au.has fun pb w2 X2 JJ bT iv=>?_;have amb:=oM.x;have amc:=iv.x;have amd:=oM.mv oD.mv (ak.mv bT) (Y:=X2) (A':=nX) (fun _ h=>h.elim);replace hs:=(hs.trans au).trans bT;have fK:w0.heap.size≤w1.heap.size:=au.kp.size;repeat' first|refine aL ?_;intros|(with_reducible apply nZ);(case hX=>exact hs.has);intro bx w X gh au bJ;have bR:=hs.trans au;replace hs:=ak.ct au.has
 refine aw (bR.trans hs) ?_;intro wa hk;have B9:=(bJ.kp hk).lt;have ana:=au.kp.size;have ahj:=hk.size;have aiS:=au.kp.trans (hk.less au.sub);have ame:made w0 wa kb:=⟨mN,by omega⟩;have amf:made w0 wa pb:=⟨by omega,by omega⟩;exact⟨bx,kb,pb,rfl,⟨bJ.own.mv (Mv.one hk bJ.1 ⟨by omega,B9⟩),amd.own.mv oD.mv (Mv.one aiS (bT.sub _ amb.1) ame) (fun _ h=>h.elim),
  iv.own.mv na.mv (Mv.one aiS amc.1 amf) (fun _ h=>h.elim),fun k hk=>hk.1,fun k hk=>hk.2⟩,by omega,by omega,by omega⟩
def Ah:BA→List jq→Bool
 |_,[]=>true
 |a,h::r=>h.ok a&&Ah h.key r
def tR (l:List jq):List (BA×List kf):=l.foldl (fun m h=>dR h.key h.l8 m) []
def PI (hm:List (BA×List kf)):List (de×ey)→List ey→Int
 |_,[]=>0
 |pm,p::r=>if p.err≠0 then p.err else if(getM p.dK pm).isSome then 9 else if pm.any (fun q=>p.BF q.2)then 18 else if KE hm p then 20
  else PI hm (dR p.dK p pm) r
def BO (hl:List jq) (pl:List ey):Int:=if Ah ⟨#[]⟩ hl then PI (tR hl) [] pl else 4
theorem gv.grow {w:World} {X A A':XS} {sb kb pb:Nat} {hm:List (BA×List kf)} {pm:List (de×ey)} {low:cx} (h:gv w X A sb kb pb hm pm low)
  (hA: ∀k,A k→A' k) (hs: ∀k,A' k→X k∧k≠sb∧k≠kb∧k≠pb):gv w X A' sb kb pb hm pm low:=
 ⟨h.box,h.keys.mv oD.mv (Mv.refl _ _) (Mv.sub hA),h.fB.mv na.mv (Mv.refl _ _) (Mv.sub hA),fun k hk=>(hs k hk).1,fun k hk=>(hs k hk).2⟩
theorem gv.to {w w':World} {X Y:XS} {sb kb pb:Nat} {hm:List (BA×List kf)} {pm:List (de×ey)} {low:cx} (h:gv w X (yX X sb kb pb) sb kb pb hm pm low)
  (hs:ak X w Y w') (hX: ∀k,X k→k<w.heap.size):gv w' Y (yX Y sb kb pb) sb kb pb hm pm low:=
 (h.mv hX (ak.mv hs)).grow (fun k hk=>⟨hs.sub k hk.1,hk.2⟩) fun k hk=>hk
def XL (lo:Nat) (X:XS):XS:=fun k=>X k∧lo≤k
theorem gv.toL {w w':World} {X Y:XS} {lo sb kb pb:Nat} {hm:List (BA×List kf)} {pm:List (de×ey)} {low:cx} (h:gv w X (yX (XL lo X) sb kb pb) sb kb pb hm pm low)
  (hs:ak X w Y w') (hX: ∀k,X k→k<w.heap.size):gv w' Y (yX (XL lo Y) sb kb pb) sb kb pb hm pm low:=
 (h.mv hX (ak.mv hs)).grow (fun k hk=>⟨⟨hs.sub k hk.1.1,hk.1.2⟩,hk.2⟩) fun k hk=>⟨hk.1.1,hk.2⟩
theorem gv.fin {w w0 wa:World} {X:XS} {sb kb pb:Nat} {hm:List (BA×List kf)} {pm:List (de×ey)} {low:cx} (h:gv w X (yX (XL w0.heap.size X) sb kb pb) sb kb pb hm pm low)
  (hk:Kp X w wa) (h1:w0.heap.size≤sb) (h2:w0.heap.size≤kb) (h3:w0.heap.size≤pb):gv wa (made w0 wa) (yX (made w0 wa) sb kb pb) sb kb pb hm pm low:=by
 have hz:=hk.size;have ma:Mv (yX (XL w0.heap.size X) sb kb pb) w (yX (made w0 wa) sb kb pb) wa:=fun k af hl=>⟨⟨⟨af.1.2,by omega⟩,af.2⟩,hk.block k af.1.1⟩;have l1:=h.box.lt;have l2:=h.keys.x.2;have l3:=h.fB.x.2;exact⟨h.box.own.mv (Mv.one hk h.box.1 ⟨h1,by omega⟩),h.keys.own.mv oD.mv (Mv.one hk h.keys.x.1 ⟨h2,by omega⟩) ma,h.fB.own.mv na.mv (Mv.one hk h.fB.x.1 ⟨h3,by omega⟩) ma,fun k hk=>hk.1,fun k hk=>hk.2⟩
def Rc (l:List ey):List (de×ey):=l.foldl (fun m p=>dR p.dK p m) []
def OZ (l:List ey):Prop:= ∀p∈l,p.reads.length≤2^40∧p.writes.length≤2^40
def OY (l:List jq):Prop:= ∀h∈l,h.l8.length≤2^40
theorem WH {w:World} {X:XS} {vh vp:Value} {hl:List jq} {pl:List ey} (h1:ni w X vh hl) (h2:nh w X vp pl) (rT:OY hl) (wH:OZ pl):
  Ct pg 251 #[vh,vp] w X nX fun v wa w'=> ∃(u:Value) (n:Int),v= .tuple #[u,I n]∧n=BO hl pl∧
   (n=0→ ∃sb kb pb,u=ptr sb 0∧sb≠kb∧sb≠pb∧kb≠pb∧gv w' (made wa w') (yX (made wa w') sb kb pb) sb kb pb (tR hl) (Rc pl) .zero):=by
 intro w0 hk;replace h1:=h1.mv hk.dD;replace h2:=h2.mv hk.dD;have RO:=h1.len;have LZ:=h2.len;apply Wu;unfold Ko;have hs:=ak.init w0;refine dp aaX kQ hs.has ?_;rintro v wa w X ⟨sb,kb,pb,rfl,ed,ne1,ne2,ne3⟩ hle fO au;have Rv:w0.heap.size≤sb:=ah hle ed.box.1.1;have mN:w0.heap.size≤kb:=ah hle ed.keys.x.1.1;have JJ:w0.heap.size≤pb:=ah hle ed.fB.x.1.1;replace hs:=hs.trans au;have adw:gv w X (yX (XL w0.heap.size X) sb kb pb) sb kb pb [] [] .zero:=(ed.mv (fun k hk=>hk.2) (Mv.sub fO)).grow (fun k hk=>⟨⟨fO k hk.1,ah hle hk.1.1⟩,hk.2⟩) fun k hk=>⟨hk.1.1,hk.2⟩;clear ed;repeat' first|refine aL ?_;intros
 refine fM (fun n a b w X=> ∃(i:Nat) (s:BA),a=I i∧b= .string s∧n=hl.length-i∧i≤hl.length∧ak (aV w0) w0 X w∧
  gv w X (yX (XL w0.heap.size X) sb kb pb) sb kb pb (tR (hl.take i)) [] .zero∧Ah ⟨#[]⟩ hl=Ah s (hl.drop i)) hl.length
  ⟨0,⟨#[]⟩,rfl,rfl,rfl,aG _,hs,adw,by rw [jb]⟩ ?_
 rintro n a b w X ⟨i,s,rfl,rfl,rfl,hi,bR,ed,hw⟩;have hs:=ak.ct bR.has;rcases ew (hl) i with⟨dz,x,hx,hd⟩|⟨dV,hd⟩
 ·rw [hd,Ah] at hw;have HH:=rT x (cw hx);have gh:=ed.box;repeat' first|refine bD ?_;intros|((with_reducible apply PF);assumption;(try (case hz=>rfl));(case hr=>exact qR);(try (case hz=>omega));(case ht=>kernel_rfl);(case hs=>kernel_rfl);intros)|(refine fS (Rb (h:=x) (ahead:=s) (by first|assumption|exact Sl.mv (by assumption) (ak.mv (bR.trans hs)))) kQ hs.has ?_ ?_<;>(intro _ w X au;replace hs:=hs.trans au))|(first|(with_reducible refine aw (bR.trans hs) ?_);intro wa hk;exact⟨_,_,rfl,by rw [BO,hw];simp [*],fun e=>absurd e (by decide)⟩)
  have hvv:= ‹Sl w0 (aV w0) 6 _ (x.l8.map kf.l)›;have mh:= ‹x.ok s=true›;refine dp (NM (hvv.mv (ak.mv (bR.trans hs))) HH) kQ hs.has ?_;rintro v1 wa w2 X2 uh sk oR bT;have Zk:=hs.kp.size;have NO:=ed.toL (hs.trans bT) bR.has;have zK:Sl w2 (yX (XL w0.heap.size X2) sb kb pb) 6 v1 (x.l8.map kf.l):=uh.sl.mv (Mv.sub fun k hk=>⟨⟨oR k hk,by have:w0.heap.size≤_:=ah bR.kp.size hs.kp.size;have:=hk.1;omega⟩,by
   have q1:=bR.has sb ed.box.1;have q2:=bR.has kb ed.keys.x.1;have q3:=bR.has pb ed.fB.x.1;have:=hk.1;refine⟨?_,?_,?_⟩<;>omega⟩)
  replace hs:=hs.trans bT;repeat' first|refine aL ?_;intros
  refine tf (kv:=fun s:BA=>bB s) (k:=x.key) (et:=318) NO.keys oD.mv zK (fun k hk=>⟨hk.1.1,hk.2.2.1⟩) zf kQ hs.has fun w3 X3 hc kR=>?_;have ea:=(bR.trans hs).fL hc fun k hk e=>by have:k<w0.heap.size:=hk;omega
  have Nn:gv w3 X3 (yX (XL w0.heap.size X3) sb kb pb) sb kb pb (tR (hl.take (i+1))) [] .zero:=by
   have gh:=NO.box;have Sv:=NO.fB;have e:tR (hl.take (i+1))=dR x.key x.l8 (tR (hl.take i)):=by
    rw [cn,hx];simp [tR]
   rw [e];have mo: ∀b,X2 b→b≠kb→Mv (fun k=>k=b) w2 X3 w3:=fun b hb du k af _=>by subst af;exact⟨hc.sub _ hb,hc.block _ hb du⟩
   exact⟨gh.own.mv (mo _ gh.1 ne1),kR.mv oD.mv (Mv.refl _ _) (Mv.sub fun k hk=>⟨⟨hc.sub k hk.1.1,hk.1.2⟩,hk.2⟩),
    Sv.own.mv na.mv (mo _ Sv.x.1 ne3.symm) (fun k hk _=>⟨⟨⟨hc.sub k hk.1.1,hk.1.2⟩,hk.2⟩,hc.block k hk.1.1 hk.2.2.1⟩),fun k hk=>hk.1.1,fun k hk=>hk.2⟩
  replace hs:=ea;repeat' first|refine aL ?_;intros|((with_reducible refine fI ((hl).length-(i+1)) ?_ ?_);omega;exact⟨i+1,x.key,by simp,rfl,rfl,by omega,hs,Nn,by rw [hw,mh];rfl⟩)
 ·have hlen:hl.take i=hl:=bq dV;rw [hd] at hw;rw [hlen] at ed;repeat' first|refine bD ?_;intros
  refine fQ (fun n a w X=> ∃(i:Nat) (pm:List (de×ey)),a=I i∧n=pl.length-i∧i≤pl.length∧ak (aV w0) w0 X w∧
   gv w X (yX (XL w0.heap.size X) sb kb pb) sb kb pb (tR hl) pm .zero∧pm=Rc (pl.take i)∧BO hl pl=PI (tR hl) pm (pl.drop i)) pl.length
   ⟨0,[],rfl,rfl,aG _,bR,ed,rfl,by rw [jb,BO,hw];rfl⟩ ?_
  rintro n a w X ⟨j,pm,rfl,rfl,hj,bR,ed,Sv,rB⟩;have hs:=ak.ct bR.has;rcases ew pl j with⟨adf,x,hx,nS⟩|⟨MN,nS⟩
  ·rw [nS,PI] at rB;have HH:=wH x (cw hx);have gh:=ed.box;repeat' first|refine bD ?_;intros|((with_reducible apply TJ);assumption;(try (case hz=>rfl));(case hr=>exact qR);(try (case hz=>omega));(case ht=>kernel_rfl);(case hs=>kernel_rfl);intros)|(refine gC (uI (p:=x) (by first|assumption|exact Sl.mv (by assumption) (ak.mv (bR.trans hs))) (by first|assumption|exact Sl.mv (by assumption) (ak.mv (bR.trans hs))) HH.2) kQ hs.has ?_;intro w X au;replace hs:=hs.trans au)
   refine FY (kv:=fun k:de=>k.v) (k:=x.dK) (kt:=27) (et:=266) (.agg #[I 0,I 0,I 0,I 0,I 0,I 0,.slice none 0 0,.slice none 0 0]) (ed.mv bR.has (ak.mv hs)).fB BJ kQ kQ (fun v q hg qs=>?_) fun hg=>?_
   ·obtain⟨ur,uw,rfl,q1,q2⟩:=qs;have o1:=q1.one;have o2:=q2.one;repeat' first|refine aL ?_;intros|refine dM ?_ ?_<;>intros|(first|(with_reducible refine aw (bR.trans hs) ?_);intro wa hk;exact⟨_,_,rfl,by clear Sv;rw [rB];simp [*],fun e=>absurd e (by first|decide|assumption)⟩)
   ·repeat' first|refine aL ?_;intros|refine dM ?_ ?_<;>intros|(first|(with_reducible refine aw (bR.trans hs) ?_);intro wa hk;exact⟨_,_,rfl,by clear Sv;rw [rB];simp [*],fun e=>absurd e (by first|decide|assumption)⟩)|(refine fS (Tk (x:=x) (ed.mv bR.has (ak.mv hs)) hs.has (by first|assumption|exact Sl.mv (by assumption) (ak.mv (bR.trans hs))) (by first|assumption|exact Sl.mv (by assumption) (ak.mv (bR.trans hs)))) kQ hs.has ?_ ?_<;>(intro _ w X au;replace hs:=hs.trans au))|(refine fS (aaW (x:=x) (ed.mv bR.has (ak.mv hs)) hs.has (by first|assumption|exact Sl.mv (by assumption) (ak.mv (bR.trans hs)))) kQ hs.has ?_ ?_<;>(intro _ w X au;replace hs:=hs.trans au))
    have he:x.err=0:= ‹x.err=0›;have amg:(pm.any fun q=>x.BF q.snd)=false:= ‹_›;have amh:KE (tR hl) x=false:= ‹_›;refine dp (WG (p:=x) (by first|exact Sl.mv (by assumption) (ak.mv (bR.trans hs))) (by first|exact Sl.mv (by assumption) (ak.mv (bR.trans hs))) HH.1 HH.2) kQ hs.has ?_;rintro v1 wa w2 X2 ⟨ur,uw,rfl,uh,nY,-⟩ sk oR bT;have Zk:=hs.kp.size;have NO:=ed.toL (hs.trans bT) bR.has;have hup: ∀k,made wa w2 k→yX (XL w0.heap.size X2) sb kb pb k:=fun k hk=>⟨⟨oR k hk,by have:w0.heap.size≤_:=ah bR.kp.size hs.kp.size;have:=hk.1;omega⟩,by
     have q1:=bR.has sb ed.box.1;have q2:=bR.has kb ed.keys.x.1;have q3:=bR.has pb ed.fB.x.1;have:=hk.1;refine⟨?_,?_,?_⟩<;>omega⟩
    have zK:na w2 (yX (XL w0.heap.size X2) sb kb pb) (x.v ur uw) x:=⟨ur,uw,rfl,uh.sl.mv (Mv.sub hup),nY.sl.mv (Mv.sub hup)⟩;replace hs:=hs.trans bT;refine tf (kv:=fun k:de=>k.v) (k:=x.dK) (et:=266) NO.fB na.mv zK (fun k hk=>⟨hk.1.1,hk.2.2.2⟩) BJ kQ hs.has fun w3 X3 hc kR=>?_;have ea:=(bR.trans hs).fL hc fun k hk e=>by have:k<w0.heap.size:=hk;omega
    have Nn:gv w3 X3 (yX (XL w0.heap.size X3) sb kb pb) sb kb pb (tR hl) (dR x.dK x pm) .zero:=by
     have gh:=NO.box;have R0:=NO.keys;have mo: ∀b,X2 b→b≠pb→Mv (fun k=>k=b) w2 X3 w3:=fun b hb du k af _=>by subst af;exact⟨hc.sub _ hb,hc.block _ hb du⟩
     exact⟨gh.own.mv (mo _ gh.1 ne2),R0.own.mv oD.mv (mo _ R0.x.1 ne3) (fun k hk _=>⟨⟨⟨hc.sub k hk.1.1,hk.1.2⟩,hk.2⟩,hc.block k hk.1.1 hk.2.2.2⟩),
      kR.mv na.mv (Mv.refl _ _) (Mv.sub fun k hk=>⟨⟨hc.sub k hk.1.1,hk.1.2⟩,hk.2⟩),fun k hk=>hk.1.1,fun k hk=>hk.2⟩
    replace hs:=ea;repeat' first|refine aL ?_;intros|((with_reducible refine fh (pl.length-(j+1)) ?_ ?_);omega;exact⟨j+1,_,by simp,rfl,by omega,hs,Nn,by rw [cn,hx,Sv];simp [Rc],by rw [rB];simp [he,hg,amg,amh]⟩)
  ·rw [nS] at rB;repeat' first|refine bD ?_;intros|(first|(with_reducible refine aw (bR.trans hs) ?_);intro wa hk;exact⟨_,_,rfl,by rw [rB];rfl,fun _=>⟨sb,kb,pb,rfl,ne1,ne2,ne3,by rw [bq MN] at Sv;rw [←Sv];exact ed.fin hk Rv mN JJ⟩⟩)
theorem Yd {w:World} {X:XS} {vh vp:Value} {hl:List jq} {pl:List ey} (h1:ni w X vh hl) (h2:nh w X vp pl) (rT:OY hl) (wH:OZ pl):
  Ct pg 251 #[vh,vp] w X nX fun v _ _=> ∃u:Value,v= .tuple #[u,I (BO hl pl)]:=
 (WH h1 h2 rT wH).mono fun _ _ _ _ ⟨u,_,h,e,_⟩=>⟨u,e▸h⟩
def aft (l:List jq):Prop:= ∀h∈l,h.key.size≤2^40
def afu (l:List ey):Prop:= ∀p∈l,(∀k∈p.reads,k.size≤2^40)∧ ∀x∈p.writes,x.key.size≤2^40
structure State.small (s:State):Prop where
 h:OY s.fU
 p:OZ s.fB
 hk:aft s.fU
 pk:afu s.fB
structure Rec.small (r:Rec):Prop where
 reads:r.reads.length≤2^40
 writes:r.writes.length≤2^40
 rk: ∀k∈r.reads,k.size≤2^40
 wk: ∀x∈r.writes,x.key.size≤2^40
 state:r.state.small
def dq.has (r:dq) (x:Nat):Bool:=(BZ x r.lo||jK x r.lo)&&kg x r.hi
def dq.key (r:dq) (k:BA):Bool:=r.has (placeOf k)
def State.inside (s:State):Bool:=s.fU.all (fun h=>s.range.key h.key)&&s.fB.all fun p=>p.reads.all s.range.key&&p.writes.all fun x=>s.range.key x.key
def State.may (s:State):Bool:=s.range.may&&s.floor.may&&s.closed.may&&decide (BO s.fU s.fB=0)&&s.inside
theorem KF {w:World} {X:XS} {s:State} {vh vp:Value} {k:BA} {b:Nat} (h:Cells w X b 0 (s.l vh vp)) (af:k.size≤2^62):
  Ct pg 252 #[.string k,ptr b 0] w X nX fun v _ _=>v=B (s.range.key k):=by
 intro w0 hk;replace h:=h.mv hk.dD;apply Is;unfold yV;have hs:=ak.init w0;repeat' first|refine aL ?_;intros|((with_reducible refine ee (Bo _ (by first|assumption|omega)) ?_ hs.has ?_);(· kernel_rfl);intro w X au;replace hs:=hs.trans au)|((with_reducible refine dJ (xw _ _) ?_ hs.has ?_ ?_);(· kernel_rfl);all_goals (intro _ w X au;replace hs:=hs.trans au))|((first|(with_reducible refine aw hs ?_)|(with_reducible refine aw (bR.trans hs) ?_));intro wa hk;(simp [dq.key,dq.has, *]))
theorem DU {w:World} {X:XS} {s:State} {vh vp:Value} (h1:ni w X vh s.fU) (h2:nh w X vp s.fB) (mY:s.small):
  Ct pg 176 #[s.v vh vp] w X nX fun v _ _=>v=B s.may:=by
 intro w0 hk;replace h1:=h1.mv hk.dD;replace h2:=h2.mv hk.dD;have RO:=h1.len;have LZ:=h2.len;have o1:=h1.one;have o2:=h2.one;apply NI;unfold CE;have hs:=ak.init w0;repeat' first|refine aL ?_;intros|refine dM ?_ ?_<;>intros|(with_reducible apply nZ);(case hX=>exact hs.has);intro bx w X gh au bJ;have bR:=hs.trans au;replace hs:=ak.ct au.has|with_reducible apply dy|((with_reducible refine dJ (my _) ?_ hs.has ?_ ?_);(· kernel_rfl);all_goals (intro _ w X au;replace hs:=hs.trans au))|((with_reducible refine dJ (sd _) ?_ hs.has ?_ ?_);(· kernel_rfl);all_goals (intro _ w X au;replace hs:=hs.trans au))|((first|(with_reducible refine aw hs ?_)|(with_reducible refine aw (bR.trans hs) ?_));intro wa hk;(simp [State.may, *]))|(refine dp ((Yd (hl:=s.fU) (pl:=s.fB))  qA qA mY.h mY.p) kQ hs.has ?_;rintro _ wa w X ⟨u,rfl⟩ hle fO au;have fp:=ah hs.kp.size hle;replace hs:=hs.trans au)
 have On: ∀k:BA,k.size≤2^40→ ∀w X,ak _ _ X w→Ct pg 252 #[.string k,ptr bx 0] w X nX fun v _ _=>v=B (s.range.key k):=fun k hk w X hs=>KF (bJ.since hs).cells zQ;have aaY:s.may=s.inside:=by simp [State.may, *]
 refine fQ (fun n a w X=> ∃i:Nat,a=I (i:Nat)∧n=s.fU.length-i∧i≤s.fU.length∧ak _ _ X w∧
  (s.fU.all (fun h=>s.range.key h.key))=((s.fU.drop i).all fun h=>s.range.key h.key)) s.fU.length ⟨0,rfl,rfl,aG _,hs,by simp⟩ ?_
 rintro n a w X ⟨i,rfl,rfl,hi,hs,hw⟩;rcases ew (s.fU) i with⟨dz,x,hx,hd⟩|⟨dV,hd⟩
 ·rw [hd,gW] at hw;have hkx:=mY.hk x (cw hx);repeat' first|refine bD ?_;intros|((with_reducible apply PF);assumption;(try (case hz=>rfl));(case hr=>exact qR);(try (case hz=>omega));(case ht=>kernel_rfl);(case hs=>kernel_rfl);intros)|((first|(with_reducible refine aw hs ?_)|(with_reducible refine aw (bR.trans hs) ?_));intro wa hk;(simp [aaY,State.inside,hw, *]))|(refine fS (On x.key hkx _ _ hs) kQ hs.has ?_ ?_<;>(intro _ w X au;replace hs:=hs.trans au))|((with_reducible refine fh ((s.fU).length-(i+1)) ?_ ?_);omega;exact⟨i+1,by simp,rfl,by omega,hs,by rw [hw];simp [*]⟩)
 ·rw [hd] at hw;repeat' first|refine bD ?_;intros
  refine B2 (fun n a _ _ w X=> ∃i:Nat,a=I (i:Nat)∧n=s.fB.length-i∧i≤s.fB.length∧ak _ _ X w∧
   (s.fB.all fun p=>p.reads.all s.range.key&&p.writes.all fun x=>s.range.key x.key)=((s.fB.drop i).all fun p=>p.reads.all s.range.key&&p.writes.all fun x=>s.range.key x.key)) s.fB.length ⟨0,rfl,rfl,aG _,hs,by simp⟩ ?_
  rintro n a a2 a3 w X ⟨j,rfl,rfl,hj,hs,rB⟩;rcases ew s.fB j with⟨dz,p,hp,nS⟩|⟨MN,nS⟩
  ·rw [nS,gW] at rB;obtain⟨uZ,qY⟩:=mY.pk p (cw hp);repeat' first|refine bD ?_;intros|((with_reducible apply TJ);assumption;(try (case hz=>rfl));(case hr=>exact qR);(try (case hz=>omega));(case ht=>kernel_rfl);(case hs=>kernel_rfl);intros)
   have hl3:=Sl.gy ‹Sl w0 (aV w0) 1 _ (p.reads.map S1)›;have hl4:=Sl.gy ‹Sl w0 (aV w0) 4 _ (p.writes.map KV.l)›;refine fQ (fun n a w X=> ∃i:Nat,a=I (i:Nat)∧n=p.reads.length-i∧i≤p.reads.length∧ak _ _ X w∧p.reads.all s.range.key=(p.reads.drop i).all s.range.key) p.reads.length ⟨0,rfl,rfl,aG _,hs,by simp⟩ ?_;rintro n a w X ⟨k,rfl,rfl,hk3,hs,ui⟩;rcases ew p.reads k with⟨alL,y,hy,Mb⟩|⟨alM,Mb⟩
   ·rw [Mb,gW] at ui;have hky:=uZ y (cw hy);repeat' first|refine bD ?_;intros|((first|(with_reducible refine aw hs ?_)|(with_reducible refine aw (bR.trans hs) ?_));intro wa hk;(simp [aaY,State.inside,rB,ui, *]))|(refine fS (On y hky _ _ hs) kQ hs.has ?_ ?_<;>(intro _ w X au;replace hs:=hs.trans au))|((with_reducible refine fh (p.reads.length-(k+1)) ?_ ?_);omega;exact⟨k+1,by simp,rfl,by omega,hs,by rw [ui];simp [*]⟩)
   ·rw [Mb] at ui;repeat' first|refine bD ?_;intros
    refine fQ (fun n a w X=> ∃i:Nat,a=I (i:Nat)∧n=p.writes.length-i∧i≤p.writes.length∧ak _ _ X w∧(p.writes.all fun x=>s.range.key x.key)=(p.writes.drop i).all fun x=>s.range.key x.key) p.writes.length ⟨0,rfl,rfl,aG _,hs,by simp⟩ ?_;rintro n a w X ⟨m,rfl,rfl,hm,hs,Jz⟩;rcases ew p.writes m with⟨anb,y,hy,hd4⟩|⟨anc,hd4⟩
    ·rw [hd4,gW] at Jz;have hky:=qY y (cw hy);repeat' first|refine bD ?_;intros|((first|(with_reducible refine aw hs ?_)|(with_reducible refine aw (bR.trans hs) ?_));intro wa hk;(simp [aaY,State.inside,rB,ui,Jz, *]))|(refine fS (On y.key hky _ _ hs) kQ hs.has ?_ ?_<;>(intro _ w X au;replace hs:=hs.trans au))|((with_reducible refine fh (p.writes.length-(m+1)) ?_ ?_);omega;exact⟨m+1,by simp,rfl,by omega,hs,by rw [Jz];simp [*]⟩)
    ·rw [hd4] at Jz;repeat' first|refine bD ?_;intros|((with_reducible refine B3 (s.fB.length-(j+1)) ?_ ?_);omega;exact⟨j+1,by simp,rfl,by omega,hs,by rw [rB,ui,Jz];simp⟩)
  ·rw [nS] at rB;repeat' first|refine bD ?_;intros|((first|(with_reducible refine aw hs ?_)|(with_reducible refine aw (bR.trans hs) ?_));intro wa hk;(rw [aaY,State.inside,hw,rB];rfl))
def Lc (prev st:cx) (t:de) (l:List KV):Bool:=prev.may&&decide (prev.cmp st<0)&&decide (l≠[])&&decide (ey.err ⟨t,st,[],l⟩=0)
theorem KG {w:World} {X:XS} {prev st:cx} {t:de} {l:List KV} {a:Value} (h:Sl w X 4 a (l.map KV.l)) (hb:l.length≤2^40):
  Ct pg 177 #[prev.v,st.v,t.v,a] w X nX fun v _ _=>v=B (Lc prev st t l):=by
 intro w0 hk;replace h:=h.mv hk.dD;obtain⟨b1,n1,c1,rfl⟩:=h.form;apply Ta;unfold HL;have hs:=ak.init w0;repeat' first|refine aL ?_;intros|refine dM ?_ ?_<;>intros|with_reducible apply dy|((with_reducible refine dJ (my _) ?_ hs.has ?_ ?_);(· kernel_rfl);all_goals (intro _ w X au;replace hs:=hs.trans au))|((with_reducible refine ee (sc _ _) ?_ hs.has ?_);(· kernel_rfl);intro w X au;replace hs:=hs.trans au)|((first|(with_reducible refine aw hs ?_)|(with_reducible refine aw (bR.trans hs) ?_));intro wa hk;(simp_all [Lc]<;>omega))|(refine gC (uI  (p:=⟨t,st,[],l⟩) (Sl.nil _ _ _) qA hb) kQ hs.has ?_;intro w X au;replace hs:=hs.trans au)
def Za (x:Nat):Bool:=decide ((BN x).2=0)&&BZ (BN x).1 0&&kg (BN x).1 Db
def sf (n:Int):Bool:=decide (n≥1)&&decide (n≤12)
def Rec.tE (r:Rec):Bool:=
 if r.kind=1 then r.state.may
 else if r.kind=2 then decide (r.n≥0)&&decide (r.n≤281474976710656)
 else if r.kind=3 then decide (ey.err ⟨r.dK,r.bF,r.reads,r.writes⟩=0)&&zm r.parts
 else if r.kind=4 then r.dK.may&&r.bF.Q8 r.kP
 else if r.kind=5 then r.bF.may
 else if r.kind=6 then Za r.vG&&sf r.n&&r.bF.may
 else if r.kind=7 then sf r.n
 else if r.kind=8 then decide (r.n≥1)
 else if r.kind=9 then r.dK.may&&r.bF.PG&&zm r.parts
 else if r.kind=10 then r.dK.may
 else if r.kind=11 then Lc r.prev r.bF r.dK r.writes
 else r.bF.may&&Lb r.xp
theorem Tl {w:World} {X:XS} {r:Rec} {vr vw vp vq vh vd:Value} (h:r.at w X vr vw vp vq vh vd) (mY:r.small):
  Ct pg 208 #[r.v vr vw vp vq vh vd] w X nX fun v _ _=>v=B r.tE:=by
 intro w0 hk;obtain⟨h1,h2,h3,h4,h5,h6⟩:=h.mv hk.dD;obtain⟨b1,n1,c1,rfl⟩:=h1.form;obtain⟨b2,n2,c2,rfl⟩:=h2.form;apply QW;unfold Fm;have hs:=ak.init w0;repeat' first|refine aL ?_;intros|refine dM ?_ ?_<;>intros|with_reducible apply dy|((with_reducible refine dJ (my _) ?_ hs.has ?_ ?_);(· kernel_rfl);all_goals (intro _ w X au;replace hs:=hs.trans au))|((with_reducible refine dJ (Az _) ?_ hs.has ?_ ?_);(· kernel_rfl);all_goals (intro _ w X au;replace hs:=hs.trans au))|((with_reducible refine dJ (Q9 _ _) ?_ hs.has ?_ ?_);(· kernel_rfl);all_goals (intro _ w X au;replace hs:=hs.trans au))|((with_reducible refine ee (Tg _) ?_ hs.has ?_);(· kernel_rfl);intro w X au;replace hs:=hs.trans au)|((with_reducible refine dJ (Tf _) ?_ hs.has ?_ ?_);(· kernel_rfl);all_goals (intro _ w X au;replace hs:=hs.trans au))|((with_reducible refine dJ (HR _) ?_ hs.has ?_ ?_);(· kernel_rfl);all_goals (intro _ w X au;replace hs:=hs.trans au))|(refine fS (DU  (s:=r.state) qA qA mY.state) kQ hs.has ?_ ?_<;>(intro _ w X au;replace hs:=hs.trans au))|(refine gC (uI  (p:=⟨r.dK,r.bF,r.reads,r.writes⟩) qA qA mY.writes) kQ hs.has ?_;intro w X au;replace hs:=hs.trans au)|(refine fS (KC  qA) kQ hs.has ?_ ?_<;>(intro _ w X au;replace hs:=hs.trans au))|(refine fS (WB  qA) kQ hs.has ?_ ?_<;>(intro _ w X au;replace hs:=hs.trans au))|(refine fS ((KG (l:=r.writes))  qA mY.writes) kQ hs.has ?_ ?_<;>(intro _ w X au;replace hs:=hs.trans au))
 all_goals
  (with_reducible refine aw hs ?_)
  intro wa bk;unfold Rec.tE;repeat (first|rw [if_pos zQ]|rw [if_neg zQ])
  simp_all [Za,sf,Db]<;>omega
def Rec.err (r:Rec):Int:=if !r.strip.2 then 7 else if !r.strip.1.isZero||!r.tE then 4 else 0
theorem aaZ {w:World} {X:XS} {r:Rec} {vr vw vp vq vh vd:Value} (h:r.at w X vr vw vp vq vh vd) (mY:r.small):
  Ct pg 145 #[r.v vr vw vp vq vh vd] w X nX fun v _ _=>v=I r.err:=by
 intro w0 hk;have h:=h.mv hk.dD;apply XX;unfold Mx;have hs:=ak.init w0;refine dp (Ra h) kQ hs.has ?_;rintro v wa w X ⟨WC,fy,Hw,vq',WD,WE,rfl,ef⟩ hle fO au;replace hs:=hs.trans au;have q1:=ef.1.one;have q2:=ef.2.1.one;have q3:=ef.2.2.1.one;have q4:=ef.2.2.2.1.one;have q5:=ef.2.2.2.2.1.one;have q6:=ef.2.2.2.2.2.one;cases hb:r.strip.2<;>
 repeat' first|refine aL ?_;intros|with_reducible apply dy|((first|(with_reducible refine aw hs ?_)|(with_reducible refine aw (bR.trans hs) ?_));intro wa hk;(simp [Rec.err, *]))|(refine fS (Yc  (r:=r.strip.1) qA) kQ hs.has ?_ ?_<;>(intro _ w X au;replace hs:=hs.trans au))|(refine fS ((Tl (r:=r))  (h.mv (ak.mv hs)) mY) kQ hs.has ?_ ?_<;>(intro _ w X au;replace hs:=hs.trans au))
abbrev U1 (b:Nat):List Value:=[.int .u8 b]
def CK (u:Nat):List Nat:=if u<128 then [u] else(u % 128+128)::CK (u/128)
termination_by u
decreasing_by omega
def KH (n:Int):Nat:=if n<0 then 18446744073709551615-((n % 18446744073709551616).toNat*2 % 18446744073709551616)else(n % 18446744073709551616).toNat*2 % 18446744073709551616
def encI (n:Int):List Nat:=CK (KH n)
theorem WI: ∀(k u:Nat),u<128^k→(CK u).length≤max k 1
 |0,u,h=>by
  have:u=0:=by simpa using h
  subst this;unfold CK;simp
 |k+1,u,h=>by
  unfold CK;split
  ·simp only [ba,List.length_nil];omega
  ·have hk:1≤k:=by
    rcases k with _|k
    ·simp at h;omega
    ·exact Nat.le_add_left _ _
   have h1:u/128<128^k:=by
    rw [Nat.div_lt_iff_lt_mul (by decide),←Nat.pow_succ];exact h
   have:=WI k (u/128) h1;simp only [ba];omega
theorem aiT (n:Int):KH n<18446744073709551616:=by
 unfold KH;split<;>omega
theorem iZ (n:Int):(encI n).length≤10:=by
 have:=WI 10 (KH n) (aH (aiT n) (by decide));unfold encI;omega
def tS (s:BA):List Nat:=encI s.size++s.data.toList.map UInt8.toNat
def acE (u k:Nat):Nat:=u/256^k % 256
def Hd (x:Nat):List Nat:=(List.range 8).map (acE (canon x))
def NP (v:fR):List Nat:=
 let v:=if v.may then v else fR.zero
 encI v.kind++(if v.kind=1 then Hd v.num else if v.kind=2 then tS v.text else [])
def aeX (b:Bool):List Nat:=[if b then 1 else 0]
def qe (s:cx):List Nat:=encI s.wall++encI s.ep++encI s.node
def He (t:de):List Nat:=encI t.gN++encI t.ga++encI t.sq
def qz (x:KV):List Nat:=tS x.key++NP x.val
def j9 {α:Type} (f:α→List Nat) (l:List α):List Nat:=encI l.length++(l.map f).flatten
theorem Own.tag {w:World} {X:XS} {lo e k:Nat} {v:Value} {rows:List (List Value)} (h:Own w X lo e k v rows) {g:Nat} (hg:v.ownBlock=some g): ∃cs:List Value,w.heap[g]? =some (.cells cs.toArray e (0,0)):=by
 rcases h.row with⟨rfl,_⟩|⟨b,cap,cs,rfl,_,hr,_⟩
 ·cases hg
 ·simp only [Value.ownBlock,az] at hg;subst hg;exact⟨cs,hr.2⟩
theorem Own.eA {w:World} {X Y:XS} {lo e e' k g:Nat} {v:Value} {rows:List (List Value)} {cs:List Value} (h:Own w X lo e k v rows) (hr:a7 w Y g cs e') (he:decide (e≠e')=true):v.ownBlock≠some g:=fun hg=>by
 obtain⟨c,h1⟩:=Own.tag h hg;rw [hr.2] at h1;simp only [az,Obj.cells.injEq] at h1;exact of_decide_eq_true he h1.2.1.symm
theorem wrap64 (n:Int):IntKind.u64.wrap n=n % 18446744073709551616:=by
 simp only [oC,me,jd];simp
theorem Ld (n:Int):IntKind.u8.wrap n=n % 256:=by
 simp only [oC,me,jd];simp
section
variable {P : Program} {X : XS} {w : World} {N : Value → Prop} {t : TypeId}
theorem PJ {src dst:TypeId} {k:IntKind} {u:Nat} (hs:(P.underlying src).isSome=true) (hd:P.underlying dst=some (.int .u8)) (h:N (.int .u8 ((u % 256:Nat):Int))):ae P X w (lR .u8 src dst (.int k (u:Int))) N:=
 aaH hs hd (by rw [Ld];exact h)
theorem WJ (u:Nat):IntKind.u8.wrap (u:Int)=((u % 256:Nat):Int):=by rw [Ld];omega
theorem aiU {u:Nat} (h:N (.int .u64 ((u*2 % 18446744073709551616:Nat):Int))):ae P X w (binOp .shl t (.int .u64 (u:Int)) (.int .u64 1)) N:=
 agt zQ (by
  rw [wrap64];have e:((u:Int)*2^min (1:Int).toNat IntKind.u64.bits) % 18446744073709551616=((u*2 % 18446744073709551616:Nat):Int):=by
   show((u:Int)*2^1) % 18446744073709551616=_
   omega
  rw [e];exact h)
theorem aiV {u:Nat} (h:N (.int .u64 ((u/128:Nat):Int))):ae P X w (binOp .shr t (.int .u64 (u:Int)) (.int .u64 7)) N:=
 Fb zQ (by
  have e:((u:Int)).fdiv (2^min (7:Int).toNat IntKind.u64.bits)=((u/128:Nat):Int):=by
   show((u:Int)).fdiv 128=_
   rw [qd _ (by decide)];omega
  rw [e];exact h)
theorem aiW {u:Nat} (h:N (.int .u64 ((u/256:Nat):Int))):ae P X w (binOp .shr t (.int .u64 (u:Int)) (.int .u64 8)) N:=
 Fb zQ (by
  have e:((u:Int)).fdiv (2^min (8:Int).toNat IntKind.u64.bits)=((u/256:Nat):Int):=by
   show((u:Int)).fdiv 256=_
   rw [qd _ (by decide)];omega
  rw [e];exact h)
theorem aiX {u:Nat} (hu:u<18446744073709551616) (h:N (.int .u64 ((18446744073709551615-u:Nat):Int))):ae P X w (Op.unary .xor (.int .u64 (u:Int))) N:=by
 refine cd (v:=.int .u64 ((18446744073709551615-u:Nat):Int)) (fun wa=>?_) h;have key:(bS 64 18446744073709551615^^^bS 64 (u:Int)).toNat=18446744073709551615-u:=by
  have h1:bS 64 18446744073709551615=BitVec.allOnes 64:=by decide
  have h2:(bS 64 (u:Int))=BitVec.ofNat 64 u:=by simp
  rw [h1,h2,BitVec.allOnes_xor,BitVec.toNat_not,BitVec.toNat_ofNat,Nat.mod_eq_of_lt zQ]
 have e:IntKind.u64.wrap (bS IntKind.u64.bits IntKind.u64.max^^^bS IntKind.u64.bits (u:Int)).toNat=((18446744073709551615-u:Nat):Int):=by
  rw [wrap64]
  show((bS 64 18446744073709551615^^^bS 64 (u:Int)).toNat:Int) % 18446744073709551616=_
  rw [key];omega
 have hk:(Op.unary .xor (.int .u64 (u:Int))).run P wa= .ok (.int .u64 (IntKind.u64.wrap (bS IntKind.u64.bits IntKind.u64.max^^^bS IntKind.u64.bits (u:Int)).toNat)) wa:=by
  simp [Op.unary,Op.intBits,jd]
 rw [hk,e]
theorem abM {k:IntKind} {a b:Int} (h:N (.int k (k.wrap (bS k.bits a|||bS k.bits b).toNat))):ae P X w (binOp .or t (.int k a) (.int k b)) N:=
 cd (fun wa=>by simp [binOp,Op.intBits]) h
theorem akk: ∀b:Nat,b<256→(bS 8 (b:Int)|||bS 8 128).toNat=b % 128+128:=by decide+kernel
theorem agM {b:Nat} (hb:b<256) (h:N (.int .u8 ((b % 128+128:Nat):Int))):ae P X w (binOp .or t (.int .u8 (b:Int)) (.int .u8 128)) N:=
 abM (by
  have e:IntKind.u8.wrap (bS IntKind.u8.bits (b:Int)|||bS IntKind.u8.bits 128).toNat=((b % 128+128:Nat):Int):=by
   rw [Ld];have:=akk b hb
   show((bS 8 (b:Int)|||bS 8 128).toNat:Int) % 256=_
   rw [this];omega
  rw [e];exact h)
theorem aiY {n:Int} (h:N (.int .u64 (((n % 18446744073709551616).toNat*2 % 18446744073709551616:Nat):Int))):ae P X w (binOp .shl t (.int .u64 (IntKind.u64.wrap n)) (.int .u64 1)) N:=by
 have e:IntKind.u64.wrap n=((n % 18446744073709551616).toNat:Int):=by rw [wrap64];omega
 rw [e];exact aiU h
theorem akl {u:Nat} (h:N (.int .u8 ((u % 128+128:Nat):Int))):ae P X w (binOp .or t (.int .u8 (IntKind.u8.wrap (u:Int))) (.int .u8 128)) N:=by
 rw [WJ];exact agM zQ (by rw [show u % 256 % 128=u % 128 by omega];exact h)
end
structure Wr (w:World) (X:XS) (lo wb:Nat) (vb:Value) (bs:List Nat):Prop where
 box:a7 w X wb [vb] 350
 ow:Own w X lo 5 1 vb (bs.map U1)
def Bg (wb:Nat) (vb:Value):XS:=fun k=>k=wb∨vb.ownBlock=some k
theorem Wr.mv {w w':World} {X Y:XS} {lo wb:Nat} {vb:Value} {bs:List Nat} (h:Wr w X lo wb vb bs) (m:Mv X w Y w'):Wr w' Y lo wb vb bs:=⟨h.box.mv m,h.ow.mv m⟩
theorem Wr.ne {w:World} {X:XS} {lo wb:Nat} {vb:Value} {bs:List Nat} (h:Wr w X lo wb vb bs):vb.ownBlock≠some wb:=Own.eA h.ow h.box kQ
def lO (f:FuncId) (args:Array Value) (w:World) (X:XS) (lo wb:Nat) (vb:Value) (bs ds:List Nat):Prop:=
 Ct pg f args w X (Bg wb vb) fun v wa w'=>v= .tuple #[]∧ ∃KI,Wr w' (fun k=>Bg wb vb k∨made wa w' k) lo wb KI (bs++ds)
structure WS (w0:World) (oE:Value) (w:World) (X:XS) (lo wb:Nat) (vb:Value) (bs:List Nat):Prop where
 s:ak (out (Bg wb oE) w0) w0 X w
 r:Wr w X lo wb vb bs
 v: ∀g,vb.ownBlock=some g→oE.ownBlock=some g∨w0.heap.size≤g
section
variable {w0 w : World} {X : XS} {lo wb : Nat} {oE vb : Value} {bs ds : List Nat} {R : Ending → World → Prop} {N : Value → World → XS → Prop}
theorem WS.init (h:Wr w0 (aV w0) lo wb oE bs):WS w0 oE w0 (aV w0) lo wb oE bs:=⟨ak.out _ _,h,fun g hg=>.inl hg⟩
theorem WS.since {X':XS} {w':World} (h:WS w0 oE w X lo wb vb bs) (hs:ak X w X' w'):WS w0 oE w' X' lo wb vb bs:=⟨h.s.trans hs,h.r.mv hs.mv,h.v⟩
theorem WS.fin (h:WS w0 oE w X lo wb vb (bs++ds)):fin (xv (Bg wb oE) w0 fun v w'=>(fun v wa w'=>v= .tuple #[]∧ ∃KI,Wr w' (fun k=>Bg wb oE k∨made wa w' k) lo wb KI (bs++ds)) v w0 w') X w (.tuple #[]):=by
 refine Y6 h.s fun wa hk=>⟨rfl,vb,⟨.inl (.inl rfl),(h.r.box.kp hk).2⟩,(h.r.ow.kp hk).1,(h.r.ow.kp hk).2.1,fun g hg=>?_⟩;rcases h.v g hg with h1|h1
 ·exact .inl (.inr h1)
 ·exact .inr ⟨h1,((h.r.ow.kp hk).ge hg).2⟩
theorem WS.out (h:WS w0 oE w X lo wb vb bs) {k:Nat} (hk:Bg wb vb k) (h0:out (Bg wb oE) w0 k):False:=by
 rcases hk with hk|hk
 ·exact h0.2 (.inl hk)
 ·rcases h.v k hk with h1|h1
  ·exact h0.2 (.inr h1)
  ·have:=h0.1;omega
theorem WS.eu {f:FuncId} {args:Array Value} (hS:WS w0 oE w X lo wb vb bs) (hp:lO f args w X lo wb vb bs ds) (hf:enters pg f=true)
  (k: ∀KI w' X',WS w0 oE w' X' lo wb KI (bs++ds)→ez (Bg wb vb) X w X' w'→N (.tuple #[]) w' X'):eC pg R X w true f args N:=by
 refine aeQ hp hf hS.s.has (fun q hq=>?_) fun v wa w' X' hq hle fO Mf hc=>?_
 ·rcases hq with rfl|hq
  ·exact hS.r.box.1
  ·exact hS.r.ow.2.2 q hq
 ·obtain⟨rfl,KI,hW⟩:=hq;refine k KI w' X' ⟨hS.s.fL hc fun q h0 hq=>hS.out hq h0,⟨⟨hc.sub _ hS.r.box.1,hW.box.2⟩,hW.ow.1,hW.ow.2.1,fun g hg=>?_⟩,fun g hg=>?_⟩ hc
  ·rcases hW.ow.2.2 g hg with h1|h1
   ·rcases h1 with rfl|h1
    ·exact hc.sub _ hS.r.box.1
    ·exact hc.sub g (hS.r.ow.2.2 g h1)
   ·exact fO g h1
  ·rcases hW.ow.2.2 g hg with h1|h1
   ·rcases h1 with rfl|h1
    ·exact absurd hg hW.ne
    ·exact hS.v g h1
   ·right;have:=h1.1;have:=hS.s.kp.size;omega
theorem KJ {b:Nat} (hS:WS w0 oE w X lo wb vb bs) (fp:lo≤w.heap.size) (hb:bs.length≤2^40)
  (k: ∀KI w' X',WS w0 oE w' X' lo wb KI (bs++[b])→N undef w' X'):
  eV pg R X w true (fC 94 5 1 1 #[(0,.int .u8 (b:Int))]) fun s w1 X1=>eV pg R X1 w1 true (e6 94 5 1 1 94 vb s) fun x w2 X2=>
   aC pg X2 w2 (aF (ptr wb 0)) fun p=>ae pg X2 w2 (aS 350 0 0 1 p) fun q=>eU pg R X2 w2 true (st1 94 1 q x) N:=by
 refine agJ hS.r.ow hS.s.has fp kQ (row:=U1 b) rfl rfl rfl (by simp;omega) (by simp;omega) fun v' w' X' hc ho ef=>?_;have du: ∀q,cZ vb q→q≠wb:=fun q hq e=>hS.r.ne (by rw [←e];exact hq);have gh:a7 w' X' wb [vb] 350:=⟨hc.sub _ hS.r.box.1,by rw [hc.block _ hS.r.box.1 fun hq=>du _ hq rfl];exact hS.r.box.2⟩;have wN:=hS.s.fL hc fun q h0 hq=>hS.out (.inr hq) h0;have IJ: ∀g,v'.ownBlock=some g→oE.ownBlock=some g∨w0.heap.size≤g:=fun g hg=>by
  rcases ef with e|⟨g',e,dV⟩
  ·exact hS.v g (e▸hg)
  ·rw [e] at hg;cases hg;right;have:=hS.s.kp.size;omega
 with_reducible apply TE
 have Ry:fieldInfo pg 350 0=some (0,1):=by kernel_rfl
 refine Pe (gh.cells) Ry rfl fun o' uJ _=>?_;subst uJ;refine By gh kQ (by simp) (by obtain⟨_,_,_,rfl⟩:=ho.sl.form;rfl) (by obtain⟨_,_,_,rfl⟩:=ho.sl.form;rfl) wN.has fun w3 X3 rh sU=>?_;have U5:v'.ownBlock≠some wb:=Own.eA ho gh kQ;refine k v' w3 X3 ⟨wN.fL rh fun q h0 hq=>h0.2 (.inl hq),⟨?_,?_⟩,IJ⟩
 ·have e:cV [vb] (0+0) v'.cells.toList=[v']:=by obtain⟨_,_,_,rfl⟩:=ho.sl.form;rfl
  rw [e] at sU;exact sU
 ·rw [bC];exact Own.fL ho rh fun g hg e=>U5 (by rw [hg,e])
end
theorem NQ {w:World} {X:XS} :Ct pg 146 #[] w X nX fun v wa w'=> ∃wb,v=ptr wb 0∧Wr w' (made wa w') wa.heap.size wb (.slice none 0 0) []:=by
 intro w0 hk;apply LA;unfold A9;have hs:=ak.init w0;repeat' first|refine aL ?_;intros|(with_reducible apply nZ);(case hX=>exact hs.has);intro bx w X gh au bJ;have bR:=hs.trans au;replace hs:=ak.ct au.has
 refine aw (bR.trans hs) fun wa bk=>⟨bx,rfl,⟨⟨gh,(bJ.kp bk).lt⟩,(bJ.kp bk).2⟩,Own.nil _ _ _ _ _⟩
theorem mq {w:World} {X:XS} {lo wb:Nat} {vb:Value} {bs:List Nat} {n:Int} (h:Wr w X lo wb vb bs) (hb:bs.length≤2^39) (fp:lo≤w.heap.size):lO 190 #[ptr wb 0,I n] w X lo wb vb bs (encI n):=by
 intro w0 hk;have di:lo≤w0.heap.size:=ah fp hk.size;have hS:=WS.init (h.mv hk.dD);apply Kw;unfold Af;have hs:=hS.s;have sE:=hS.r.box;repeat' first|refine aL ?_;intros|(with_reducible apply aiY)
 refine mn (fun k=>k (.int .u64 (KH n:Int))) ?_ ?_
 ·refine fQ (fun n' a w X=> ∃(u:Nat) (rE:Value) (bsi:List Nat),a= .int .u64 (u:Int)∧n'=u∧WS w0 vb w X lo wb rE bsi∧bsi++CK u=bs++encI n) (KH n) ⟨KH n,vb,bs,rfl,rfl,hS,rfl⟩ ?_;clear hs sE hS;rintro u a w X ⟨_,rE,bsi,rfl,rfl,hS,VF⟩;have hs:=hS.s;have sE:=hS.r.box;have hlen:bsi.length≤2^40:=by
   have h1:=congrArg List.length VF;have h2:=iZ n;simp only [av] at h1;omega
  have Qv:lo≤w.heap.size:=ah di hs.kp.size;by_cases hu:u<128
  ·have he:CK u=[u]:=by rw [CK,if_pos hu]
   repeat' first|refine bD ?_;intros
   rw [WJ,show u % 256=u by omega];refine KJ hS Qv hlen fun gA w2 X2 bM=>?_;rw [←he,VF] at bM;exact bM.fin
  ·have he:CK u=(u % 128+128)::CK (u/128):=by rw [CK,if_neg hu]
   repeat' first|refine bD ?_;intros|(with_reducible apply akl)
   refine KJ hS Qv hlen fun gA w2 X2 bM=>?_;repeat' first|(with_reducible apply aiV)
   refine fh (u/128) zQ ⟨u/128,gA,_,rfl,rfl,bM,?_⟩;rw [aK,List.singleton_append,←he];exact VF
 ·intro K hK;repeat' first|refine aL ?_;intros|refine dM ?_ ?_<;>intros|(with_reducible apply aiX);omega
  ·have:KH n=18446744073709551615-((n % 18446744073709551616).toNat*2 % 18446744073709551616):=by unfold KH;rw [if_pos zQ]
   rw [←this];exact hK
  ·have:KH n=(n % 18446744073709551616).toNat*2 % 18446744073709551616:=by unfold KH;rw [if_neg zQ]
   rw [←this];exact hK
theorem aeY (s:BA):(uu s).map (fun x=>[x])=(s.data.toList.map UInt8.toNat).map U1:=by
 unfold uu;simp
section
variable {w0 w : World} {X : XS} {lo wb : Nat} {oE vb : Value} {bs ds : List Nat} {R : Ending → World → Prop} {N : Value → World → XS → Prop}
theorem aiZ {v':Value} {w':World} {X':XS} (hS:WS w0 oE w X lo wb vb bs) (hc:ez (cZ vb) X w X' w') (ho:Own w' X' lo 5 1 v' (ds.map U1)) (ef:v'.ownBlock=vb.ownBlock∨ ∃g,v'.ownBlock=some g∧w.heap.size≤g)
  (k: ∀w' X',WS w0 oE w' X' lo wb v' ds→N undef w' X'):
  aC pg X' w' (aF (ptr wb 0)) fun p=>ae pg X' w' (aS 350 0 0 1 p) fun q=>eU pg R X' w' true (st1 94 1 q v') N:=by
 have du: ∀q,cZ vb q→q≠wb:=fun q hq e=>hS.r.ne (by rw [←e];exact hq);have gh:a7 w' X' wb [vb] 350:=⟨hc.sub _ hS.r.box.1,by rw [hc.block _ hS.r.box.1 fun hq=>du _ hq rfl];exact hS.r.box.2⟩;have wN:=hS.s.fL hc fun q h0 hq=>hS.out (.inr hq) h0;have IJ: ∀g,v'.ownBlock=some g→oE.ownBlock=some g∨w0.heap.size≤g:=fun g hg=>by
  rcases ef with e|⟨g',e,dV⟩
  ·exact hS.v g (e▸hg)
  ·rw [e] at hg;cases hg;right;have:=hS.s.kp.size;omega
 with_reducible apply TE
 have Ry:fieldInfo pg 350 0=some (0,1):=by kernel_rfl
 refine Pe (gh.cells) Ry rfl fun o' uJ _=>?_;subst uJ;refine By gh kQ (by simp) (by obtain⟨_,_,_,rfl⟩:=ho.sl.form;rfl) (by obtain⟨_,_,_,rfl⟩:=ho.sl.form;rfl) wN.has fun w3 X3 rh sU=>?_;have U5:v'.ownBlock≠some wb:=Own.eA ho gh kQ;refine k w3 X3 ⟨wN.fL rh fun q h0 hq=>h0.2 (.inl hq),⟨?_,?_⟩,IJ⟩
 ·have e:cV [vb] (0+0) v'.cells.toList=[v']:=by obtain⟨_,_,_,rfl⟩:=ho.sl.form;rfl
  rw [e] at sU;exact sU
 ·exact Own.fL ho rh fun g hg e=>U5 (by rw [hg,e])
end
theorem MB {w:World} {X:XS} {lo wb:Nat} {vb:Value} {bs:List Nat} {s:BA} (h:Wr w X lo wb vb bs) (hb:bs.length≤2^38) (fp:lo≤w.heap.size) (bR:s.size≤2^38):lO 260 #[ptr wb 0,.string s] w X lo wb vb bs (tS s):=by
 intro w0 hk;have di:lo≤w0.heap.size:=ah fp hk.size;have hS:=WS.init (h.mv hk.dD);apply It;unfold yW;have hs:=hS.s;repeat' first|refine aL ?_;intros
 refine hS.eu (mq hS.r zQ di) kQ fun gA w2 X2 bM lF=>?_;clear hs;have hs:=bM.s;have sE:=bM.r.box;have hen:=iZ s.size;repeat' first|refine aL ?_;intros
 refine aiM (bytes:=1) bM.r.ow hs.has (ah di hs.kp.size) kQ kQ (by simp;omega) (by simp;omega) fun v' w3 X3 hc ho ef=>?_;rw [aeY,←bC] at ho;refine aiZ bM hc ho ef fun w4 X4 fP=>?_;rw [aK] at fP;exact fP.fin
theorem KK {w:World} {X:XS} {lo wb:Nat} {vb:Value} {bs:List Nat} {x:Nat} (h:Wr w X lo wb vb bs) (hb:bs.length≤2^39) (fp:lo≤w.heap.size):lO 203 #[ptr wb 0,.float .f64 x] w X lo wb vb bs (Hd x):=by
 intro w0 hk;have di:lo≤w0.heap.size:=ah fp hk.size;have hS:=WS.init (h.mv hk.dD);apply GZ;unfold ym;have hs:=hS.s;repeat' first|((with_reducible refine ee (Bp _) ?_ hs.has ?_);(· kernel_rfl);intro w X au;replace hs:=hs.trans au)
 refine fM (fun n' a b w X=> ∃(i:Nat) (rE:Value),a=I i∧b= .int .u64 ((canon x/256^i:Nat):Int)∧n'=8-i∧i≤8∧WS w0 vb w X lo wb rE (bs++(List.range i).map (acE (canon x)))) 8
  ⟨0,vb,rfl,by simp,rfl,by omega,by simpa using hS.since (by assumption)⟩ ?_
 clear hs hS au;rintro n' a b w X ⟨i,rE,rfl,rfl,rfl,hi,hS⟩;have hs:=hS.s;have sE:=hS.r.box;have Qv:lo≤w.heap.size:=ah di hs.kp.size;by_cases h8:i<8
 ·repeat' first|refine bD ?_;intros
  rw [WJ];refine KJ hS Qv (by simp;omega) fun gA w2 X2 bM=>?_;repeat' first|refine aL ?_;intros|(with_reducible apply aiW)
  refine fI (8-(i+1)) zQ ⟨i+1,gA,by simp,?_,rfl,by omega,?_⟩
  ·rw [Nat.div_div_eq_div_mul,Nat.pow_succ]
  ·rw [List.range_succ,bC,←aK];exact bM
 ·obtain rfl:i=8:=by omega
  repeat' first|refine bD ?_;intros
  exact hS.fin
theorem WK {w:World} {X:XS} {lo wb:Nat} {vb:Value} {bs:List Nat} (h:Wr w X lo wb vb bs) (hb:bs.length≤2^40):Ct pg 147 #[ptr wb 0] w X nX fun v wa w'=>Own w' (made wa w') wa.heap.size 5 1 v (bs.map U1):=by
 intro w0 hk;replace h:=h.mv hk.dD;have sE:=h.box;apply GW;unfold yj;have hs:=ak.init w0;repeat' first|refine aL ?_;intros|(with_reducible apply Gg);(case hX=>exact hs.has);(case hu=>kernel_rfl);(case hz=>kernel_rfl);intro acc w X au ho;replace hs:=hs.trans au|((first|(with_reducible refine aw hs ?_)|(with_reducible refine aw (bR.trans hs) ?_));intro wa hk;(exact(ho.kp hk).tight))|((with_reducible apply qV);(case own=>assumption);(case hs=>assumption);(case h0=>exact fun _ h=>h);(case he=>kernel_rfl);(case src=>exact Sl.mv h.ow.sl (ak.mv hs));(case h1=>simp [aR.one]);(case hb=>simp;omega);(case hl=>simp;omega);intro acc w X au ho hc ef;replace hs:=au;rw [List.nil_append] at ho)
theorem Ye {w:World} {X:XS} {lo wb:Nat} {vb:Value} {bs:List Nat} {b:Bool} (h:Wr w X lo wb vb bs) (hb:bs.length≤2^39) (fp:lo≤w.heap.size):lO 201 #[ptr wb 0,B b] w X lo wb vb bs (aeX b):=by
 intro w0 hk;have di:lo≤w0.heap.size:=ah fp hk.size;have hS:=WS.init (h.mv hk.dD);apply Ir;unfold yU;have hs:=hS.s;have sE:=hS.r.box;cases b<;>
 repeat' first|refine aL ?_;intros
 ·refine KJ (b:=0) hS di zQ fun gA w2 X2 bM=>?_;exact bM.fin
 ·refine KJ (b:=1) hS di zQ fun gA w2 X2 bM=>?_;exact bM.fin
def ry (Z X:XS) (wb:Nat) (vb:Value):Prop:= ∀k,Z k→X k∧ ¬Bg wb vb k
section
variable {w0 w : World} {X : XS} {lo wb : Nat} {oE vb : Value} {bs ds : List Nat}
theorem WS.z (hS:WS w0 oE w X lo wb vb bs):ry (aR.out (Bg wb oE) w0) X wb vb:=fun k h=>⟨hS.s.sub k h,fun hf=>hS.out hf h⟩
theorem WS.at (hS:WS w0 oE w X lo wb vb bs):Mv (aR.out (Bg wb oE) w0) w0 (aR.out (Bg wb oE) w0) w:=fun k hk _=>⟨hk,hS.s.kp.block k hk⟩
theorem ry.mv {Z:XS} (h:ry Z X wb vb) (hk:Kp X w w0):Mv Z w (out (Bg wb vb) w0) w0:=fun k af hl=>⟨⟨aH hl hk.size,(h k af).2⟩,hk.block k (h k af).1⟩
end
abbrev je (wb:Nat):List Value:=[ptr wb 0,.pointer none]
theorem Yf {w:World} {X:XS} {lo wb:Nat} {vb:Value} {bs:List Nat} {v:fR} (h:Wr w X lo wb vb bs) (hb:bs.length≤2^37) (fp:lo≤w.heap.size):lO 265 #[ptr wb 0,v.v] w X lo wb vb bs (NP v):=by
 intro w0 hk;have di:lo≤w0.heap.size:=ah fp hk.size;have hS:=WS.init (h.mv hk.dD);apply Wv;unfold Kr;have hs:=hS.s;refine mn (fun k=> ∀w X,ak (aV w0) w0 X w→k (if v.may then v else fR.zero).v w X) ?_ ?_
 ·intro w X hsX;generalize hu:(if v.may then v else fR.zero)=u;have hue:NP v=encI u.kind++(if u.kind=1 then Hd u.num else if u.kind=2 then tS u.text else []):=by unfold NP;simp only [hu]
  have hut:u.kind=2→u.text.size≤64:=by
   intro h2;by_cases hm:v.may=true
   ·rw [if_pos hm] at hu;subst hu;unfold fR.may at hm;rw [if_neg zQ,if_neg zQ,if_pos h2] at hm;simp at hm;omega
   ·rw [if_neg hm] at hu;rw [←hu] at h2;cases h2
  have hS1:=hS.since hsX;replace hs:=hS1.s;repeat' first|refine aL ?_;intros
  refine hS1.eu (mq hS1.r zQ (ah di hs.kp.size)) kQ fun gA w2 X2 bM lF=>?_;have he:=iZ u.kind;replace hs:=bM.s;repeat' first|refine aL ?_;intros
  refine mn (fun k=> ∀w X kz,WS w0 vb w X lo wb kz (bs++NP v)→k w X) ?_ ?_
  ·intro w X kz dA;exact dA.fin
  ·intro K hK;rw [hue,←aK] at hK;repeat' first|refine aL ?_;intros|refine dM ?_ ?_<;>intros
   ·refine bM.eu (KK bM.r (by simp;omega) (ah di hs.kp.size)) kQ fun kz w3 X3 dA rh=>?_;replace hs:=dA.s
    skip
    rw [if_pos zQ] at hK;exact hK _ _ _ dA
   ·refine bM.eu (MB bM.r (by simp;omega) (ah di hs.kp.size) (by have:=hut zQ;omega)) kQ fun kz w3 X3 dA rh=>?_;replace hs:=dA.s
    skip
    rw [if_neg zQ,if_pos zQ] at hK;exact hK _ _ _ dA
   ·rw [if_neg zQ,if_neg zQ] at hK;rw [lZ] at hK;exact hK _ _ _ bM
 ·intro K hK;have hs:=ak.init w0;cases hm:v.may<;>rw [hm] at hK
  ·repeat' first|refine aL ?_;intros|((with_reducible refine dJ (kH _) ?_ hs.has ?_ ?_);(· kernel_rfl);all_goals (intro _ w X au;replace hs:=hs.trans au))
   all_goals first|exact hK _ _ hs|(exfalso;simp_all)
  ·repeat' first|refine aL ?_;intros|((with_reducible refine dJ (kH _) ?_ hs.has ?_ ?_);(· kernel_rfl);all_goals (intro _ w X au;replace hs:=hs.trans au))
   all_goals first|exact hK _ _ hs|(exfalso;simp_all)
theorem ig {w:World} {X Z:XS} {lo wb cb xb xo:Nat} {vb:Value} {bs:List Nat} {n:Int} (h:Wr w X lo wb vb bs) (hc:Cells w Z cb 0 (je wb)) (hx:Cells w Z xb xo [I n]) (hZ:ry Z X wb vb) (hb:bs.length≤2^38) (fp:lo≤w.heap.size):
  lO 132 #[ptr cb 0,ptr xb xo] w X lo wb vb bs (encI n):=by
 intro w0 hk;have di:lo≤w0.heap.size:=ah fp hk.size;replace hc:=hc.mv (hZ.mv hk);replace hx:=hx.mv (hZ.mv hk);have hS:=WS.init (h.mv hk.dD);apply Kt;unfold Ac;have hs:=hS.s;repeat' first|refine aL ?_;intros
 refine hS.eu (mq hS.r zQ di) kQ fun gA w2 X2 bM lF=>?_
 skip
 exact bM.fin
theorem yu {w:World} {X Z:XS} {lo wb cb xb xo:Nat} {vb:Value} {bs:List Nat} {s:BA} (h:Wr w X lo wb vb bs) (hc:Cells w Z cb 0 (je wb)) (hx:Cells w Z xb xo [.string s]) (hZ:ry Z X wb vb) (hb:bs.length≤2^38) (fp:lo≤w.heap.size) (bR:s.size≤2^38):
  lO 198 #[ptr cb 0,ptr xb xo] w X lo wb vb bs (tS s):=by
 intro w0 hk;have di:lo≤w0.heap.size:=ah fp hk.size;replace hc:=hc.mv (hZ.mv hk);replace hx:=hx.mv (hZ.mv hk);have hS:=WS.init (h.mv hk.dD);apply Iq;unfold yT;have hs:=hS.s;repeat' first|refine aL ?_;intros
 refine hS.eu (MB hS.r zQ di bR) kQ fun gA w2 X2 bM lF=>?_
 skip
 exact bM.fin
theorem iC {w:World} {X Z:XS} {lo wb cb xb xo:Nat} {vb:Value} {bs:List Nat} {s:cx} (h:Wr w X lo wb vb bs) (hc:Cells w Z cb 0 (je wb)) (hx:Cells w Z xb xo s.l) (hZ:ry Z X wb vb) (hb:bs.length≤2^37) (fp:lo≤w.heap.size):
  lO 138 #[ptr cb 0,ptr xb xo] w X lo wb vb bs (qe s):=by
 have e1:=iZ s.wall;have e2:=iZ s.ep;intro w0 hk;have di:lo≤w0.heap.size:=ah fp hk.size;replace hc:=hc.mv (hZ.mv hk);replace hx:=hx.mv (hZ.mv hk);have hS:=WS.init (h.mv hk.dD);apply GR;unfold yf;have hs:=hS.s;repeat' first|refine aL ?_;intros
 refine hS.eu (ig (hS.r) (hc.mv hS.at) (Cells.mv (by assumption) hS.at) hS.z zQ di) kQ fun gA w2 X2 bM lF=>?_;replace hs:=bM.s;repeat' first|refine aL ?_;intros
 refine bM.eu (ig (bM.r) (hc.mv bM.at) (Cells.mv (by assumption) bM.at) bM.z (by simp;omega) (ah di hs.kp.size)) kQ fun kz w3 X3 dA rh=>?_;replace hs:=dA.s;repeat' first|refine aL ?_;intros
 refine dA.eu (ig (dA.r) (hc.mv dA.at) (Cells.mv (by assumption) dA.at) dA.z (by simp;omega) (ah di hs.kp.size)) kQ fun PK w4 X4 fP EM=>?_;replace hs:=fP.s
 skip
 rw [aK,aK,←aK (encI s.wall)] at fP;exact fP.fin
theorem vE {w:World} {X Z:XS} {lo wb cb xb xo:Nat} {vb:Value} {bs:List Nat} {s:de} (h:Wr w X lo wb vb bs) (hc:Cells w Z cb 0 (je wb)) (hx:Cells w Z xb xo s.l) (hZ:ry Z X wb vb) (hb:bs.length≤2^37) (fp:lo≤w.heap.size):
  lO 136 #[ptr cb 0,ptr xb xo] w X lo wb vb bs (He s):=by
 have e1:=iZ s.gN;have e2:=iZ s.ga;intro w0 hk;have di:lo≤w0.heap.size:=ah fp hk.size;replace hc:=hc.mv (hZ.mv hk);replace hx:=hx.mv (hZ.mv hk);have hS:=WS.init (h.mv hk.dD);apply Ku;unfold Ad;have hs:=hS.s;repeat' first|refine aL ?_;intros
 refine hS.eu (ig (hS.r) (hc.mv hS.at) (Cells.mv (by assumption) hS.at) hS.z zQ di) kQ fun gA w2 X2 bM lF=>?_;replace hs:=bM.s;repeat' first|refine aL ?_;intros
 refine bM.eu (ig (bM.r) (hc.mv bM.at) (Cells.mv (by assumption) bM.at) bM.z (by simp;omega) (ah di hs.kp.size)) kQ fun kz w3 X3 dA rh=>?_;replace hs:=dA.s;repeat' first|refine aL ?_;intros
 refine dA.eu (ig (dA.r) (hc.mv dA.at) (Cells.mv (by assumption) dA.at) dA.z (by simp;omega) (ah di hs.kp.size)) kQ fun PK w4 X4 fP EM=>?_;replace hs:=fP.s
 skip
 rw [aK,aK,←aK (encI s.gN)] at fP;exact fP.fin
theorem CL (s:BA):(tS s).length=(encI s.size).length+s.size:=by
 unfold tS;rw [av,aI]
 congr 1
theorem AA {w:World} {X Z:XS} {lo wb cb xb xo:Nat} {vb:Value} {bs:List Nat} {v:fR} (h:Wr w X lo wb vb bs) (hc:Cells w Z cb 0 (je wb)) (hx:Cells w Z xb xo v.l) (hZ:ry Z X wb vb) (hb:bs.length≤2^37) (fp:lo≤w.heap.size):
  lO 205 #[ptr cb 0,ptr xb xo] w X lo wb vb bs (NP v):=by
 intro w0 hk;have di:lo≤w0.heap.size:=ah fp hk.size;replace hc:=hc.mv (hZ.mv hk);replace hx:=hx.mv (hZ.mv hk);have hS:=WS.init (h.mv hk.dD);apply G6;unfold yn;have hs:=hS.s;repeat' first|refine aL ?_;intros
 refine hS.eu (Yf hS.r zQ di) kQ fun gA w2 X2 bM lF=>?_
 skip
 exact bM.fin
theorem Tm {w:World} {X Z:XS} {lo wb cb xb xo:Nat} {vb:Value} {bs:List Nat} {x:KV} (h:Wr w X lo wb vb bs) (hc:Cells w Z cb 0 (je wb)) (hx:Cells w Z xb xo x.l) (hZ:ry Z X wb vb) (hb:bs.length≤2^35) (fp:lo≤w.heap.size) (bR:x.key.size≤2^35):
  lO 141 #[ptr cb 0,ptr xb xo] w X lo wb vb bs (qz x):=by
 have e1:(tS x.key).length≤10+x.key.size:=by
  have:=iZ x.key.size;rw [CL];omega
 intro w0 hk;have di:lo≤w0.heap.size:=ah fp hk.size;replace hc:=hc.mv (hZ.mv hk);replace hx:=hx.mv (hZ.mv hk);have hS:=WS.init (h.mv hk.dD);apply GU;unfold yh;have hs:=hS.s;repeat' first|refine aL ?_;intros
 refine hS.eu (yu hS.r (hc.mv hS.at) (Cells.mv (by assumption) hS.at) hS.z zQ di zQ) kQ fun gA w2 X2 bM lF=>?_;replace hs:=bM.s;repeat' first|refine aL ?_;intros
 refine bM.eu (AA (v:=x.val) bM.r (hc.mv bM.at) (Cells.mv (by assumption) bM.at) bM.z (by simp;omega) (ah di hs.kp.size)) kQ fun kz w3 X3 dA rh=>?_;replace hs:=dA.s
 skip
 rw [aK] at dA;exact dA.fin
theorem WL {w:World} {X Z:XS} {lo wb cb xb xo:Nat} {vb:Value} {bs:List Nat} {x:KV} (h:Wr w X lo wb vb bs) (hc:Cells w Z cb 0 (je wb)) (hx:Cells w Z xb xo x.l) (hZ:ry Z X wb vb) (hb:bs.length≤2^35) (fp:lo≤w.heap.size) (bR:x.key.size≤2^35):
  lO 143 #[ptr cb 0,ptr xb xo] w X lo wb vb bs (qz x):=by
 have e1:(tS x.key).length≤10+x.key.size:=by
  have:=iZ x.key.size;rw [CL];omega
 intro w0 hk;have di:lo≤w0.heap.size:=ah fp hk.size;replace hc:=hc.mv (hZ.mv hk);replace hx:=hx.mv (hZ.mv hk);have hS:=WS.init (h.mv hk.dD);apply Io;unfold yR;have hs:=hS.s;repeat' first|refine aL ?_;intros
 refine hS.eu (yu hS.r (hc.mv hS.at) (Cells.mv (by assumption) hS.at) hS.z zQ di zQ) kQ fun gA w2 X2 bM lF=>?_;replace hs:=bM.s;repeat' first|refine aL ?_;intros
 refine bM.eu (AA (v:=x.val) bM.r (hc.mv bM.at) (Cells.mv (by assumption) bM.at) bM.z (by simp;omega) (ah di hs.kp.size)) kQ fun kz w3 X3 dA rh=>?_;replace hs:=dA.s
 skip
 rw [aK] at dA;exact dA.fin
theorem nC {α:Type} {f:α→List Nat} {xs:List α} {i:Nat} {x:α} (h:xs[i]? =some x):((xs.take (i+1)).map f).flatten=((xs.take i).map f).flatten++f x:=by
 rw [cn,h];simp
theorem acF (s:cx):(qe s).length≤30:=by
 have h1:=iZ s.wall;have h2:=iZ s.ep;have h3:=iZ s.node;unfold qe;simp only [av];omega
def TK (r:dq):List Nat:=encI r.id++(encI r.gx++(Hd r.lo++Hd r.hi))
def Ai (v:kf):List Nat:=qe v.bF++NP v.val
def CM (h:jq):List Nat:=tS h.key++j9 Ai h.l8
def zo (p:ey):List Nat:=He p.dK++(qe p.bF++(j9 tS p.reads++j9 qz p.writes))
def encS (s:State):List Nat:=TK s.range++(qe s.floor++(qe s.closed++(j9 CM s.fU++j9 zo s.fB)))
theorem zp {α:Type} {f:α→List Nat} {xs:List α} {i:Nat} {x:α} (h:xs[i]? =some x):(encI xs.length).length+((xs.take i).map f).flatten.length+(f x).length≤(j9 f xs).length:=by
 have h1:xs=xs.take i++(x::xs.drop (i+1)):=by
  obtain⟨hi,rfl⟩:=List.getElem?_eq_some_iff.1 h;rw [←List.drop_eq_getElem_cons hi,List.take_append_drop]
 have h2:(j9 f xs).length=(encI xs.length).length+((xs.take i).map f).flatten.length+((f x).length+((xs.drop (i+1)).map f).flatten.length):=by
  unfold j9;conv=>lhs;rw [h1]
  rw [bC,List.flatten_append,←h1];simp only [List.map_cons,List.flatten_cons,av];omega
 omega
theorem aeZ (x:Nat):(Hd x).length=8:=by simp [Hd]
theorem Sw (x:KV):x.key.size≤(qz x).length:=by
 have h1:=CL x.key;unfold qz;rw [av];omega
theorem WM {w:World} {X Z:XS} {lo wb cb xb xo:Nat} {vb:Value} {bs:List Nat} {b:Bool} (h:Wr w X lo wb vb bs) (hc:Cells w Z cb 0 (je wb)) (hx:Cells w Z xb xo [B b]) (hZ:ry Z X wb vb) (hb:bs.length≤2^38) (fp:lo≤w.heap.size):
  lO 137 #[ptr cb 0,ptr xb xo] w X lo wb vb bs (aeX b):=by
 intro w0 hk;have di:lo≤w0.heap.size:=ah fp hk.size;replace hc:=hc.mv (hZ.mv hk);replace hx:=hx.mv (hZ.mv hk);have hS:=WS.init (h.mv hk.dD);apply Im;unfold yQ;have hs:=hS.s;repeat' first|refine aL ?_;intros
 refine hS.eu (Ye hS.r zQ di) kQ fun gA w2 X2 bM lF=>?_
 skip
 exact bM.fin
theorem AB {w:World} {X Z:XS} {lo wb cb xb xo:Nat} {vb:Value} {bs:List Nat} {x:Nat} (h:Wr w X lo wb vb bs) (hc:Cells w Z cb 0 (je wb)) (hx:Cells w Z xb xo [.float .f64 x]) (hZ:ry Z X wb vb) (hb:bs.length≤2^38) (fp:lo≤w.heap.size):
  lO 139 #[ptr cb 0,ptr xb xo] w X lo wb vb bs (Hd x):=by
 intro w0 hk;have di:lo≤w0.heap.size:=ah fp hk.size;replace hc:=hc.mv (hZ.mv hk);replace hx:=hx.mv (hZ.mv hk);have hS:=WS.init (h.mv hk.dD);apply GS;unfold yg;have hs:=hS.s;repeat' first|refine aL ?_;intros
 refine hS.eu (KK hS.r zQ di) kQ fun gA w2 X2 bM lF=>?_
 skip
 exact bM.fin
theorem Tn {w:World} {X Z:XS} {lo wb cb xb xo:Nat} {vb:Value} {bs:List Nat} {r:dq} (h:Wr w X lo wb vb bs) (hc:Cells w Z cb 0 (je wb)) (hx:Cells w Z xb xo r.l) (hZ:ry Z X wb vb) (hb:bs.length≤2^36) (fp:lo≤w.heap.size):
  lO 193 #[ptr cb 0,ptr xb xo] w X lo wb vb bs (TK r):=by
 have e1:=iZ r.id;have e2:=iZ r.gx;have e3:=aeZ r.lo;intro w0 hk;have di:lo≤w0.heap.size:=ah fp hk.size;replace hc:=hc.mv (hZ.mv hk);replace hx:=hx.mv (hZ.mv hk);have hS:=WS.init (h.mv hk.dD);apply GX;unfold yk;have hs:=hS.s;repeat' first|refine aL ?_;intros
 refine hS.eu (ig hS.r (hc.mv hS.at) (Cells.mv (by assumption) hS.at) hS.z (by(try simp only [av]);omega) (ah di hs.kp.size)) kQ fun gA w X bM _=>?_;replace hs:=bM.s;repeat' first|refine aL ?_;intros
 refine bM.eu (ig bM.r (hc.mv bM.at) (Cells.mv (by assumption) bM.at) bM.z (by(try simp only [av]);omega) (ah di hs.kp.size)) kQ fun kz w X dA _=>?_;replace hs:=dA.s;repeat' first|refine aL ?_;intros
 refine dA.eu (AB dA.r (hc.mv dA.at) (Cells.mv (by assumption) dA.at) dA.z (by(try simp only [av]);omega) (ah di hs.kp.size)) kQ fun PK w X fP _=>?_;replace hs:=fP.s;repeat' first|refine aL ?_;intros
 refine fP.eu (AB fP.r (hc.mv fP.at) (Cells.mv (by assumption) fP.at) fP.z (by(try simp only [av]);omega) (ah di hs.kp.size)) kQ fun WN w X mI _=>?_;replace hs:=mI.s
 skip
 unfold TK;simp only [aK] at mI;exact mI.fin
theorem PL {w:World} {X Z:XS} {lo wb cb xb xo:Nat} {vb:Value} {bs:List Nat} {x:kf} (h:Wr w X lo wb vb bs) (hc:Cells w Z cb 0 (je wb)) (hx:Cells w Z xb xo x.l) (hZ:ry Z X wb vb) (hb:bs.length≤2^36) (fp:lo≤w.heap.size):
  lO 259 #[ptr cb 0,ptr xb xo] w X lo wb vb bs (Ai x):=by
 have e1:=acF x.bF;intro w0 hk;have di:lo≤w0.heap.size:=ah fp hk.size;replace hc:=hc.mv (hZ.mv hk);replace hx:=hx.mv (hZ.mv hk);have hS:=WS.init (h.mv hk.dD);apply Eu;unfold vD;have hs:=hS.s;repeat' first|refine aL ?_;intros
 refine hS.eu (iC (s:=x.bF) hS.r (hc.mv hS.at) (Cells.mv (by assumption) hS.at) hS.z (by(try simp only [av]);omega) (ah di hs.kp.size)) kQ fun gA w X bM _=>?_;replace hs:=bM.s;repeat' first|refine aL ?_;intros
 refine bM.eu (AA (v:=x.val) bM.r (hc.mv bM.at) (Cells.mv (by assumption) bM.at) bM.z (by(try simp only [av]);omega) (ah di hs.kp.size)) kQ fun kz w X dA _=>?_;replace hs:=dA.s
 skip
 unfold Ai;simp only [aK] at dA;exact dA.fin
theorem NR {w:World} {X Z:XS} {lo wb cb xb xo:Nat} {vb va:Value} {bs:List Nat} {xs:List BA} (h:Wr w X lo wb vb bs) (hc:Cells w Z cb 0 (je wb)) (hx:Cells w Z xb xo [va]) (ha:Sl w Z 1 va (xs.map S1)) (hZ:ry Z X wb vb) (fp:lo≤w.heap.size) (hb:bs.length+(j9 tS xs).length≤2^33):
  lO 197 #[ptr cb 0,ptr xb xo,.func (.func 198) #[ptr cb 0] #[]] w X lo wb vb bs (j9 tS xs):=by
  intro w0 hk;have di:lo≤w0.heap.size:=ah fp hk.size;replace hc:=hc.mv (hZ.mv hk);replace hx:=hx.mv (hZ.mv hk);replace ha:=ha.mv (hZ.mv hk);have hS:=WS.init (h.mv hk.dD);have jV:=ha.gy;apply GY;unfold yl;have hs:=hS.s;repeat' first|refine aL ?_;intros
  refine mn (fun (k:Value→World→XS→Prop)=> ∀w X gA,WS w0 vb w X lo wb gA (bs++encI xs.length)→k (I xs.length) w X) ?_ ?_
  ·intro w X gA bM;refine fQ (fun n' a w X=> ∃(i:Nat) (rE:Value),a=I i∧n'=xs.length-i∧i≤xs.length∧WS w0 vb w X lo wb rE (bs++encI xs.length++((xs.take i).map tS).flatten)) xs.length ⟨0,gA,rfl,rfl,aG _,by simpa using bM⟩ ?_;clear bM hS hs;rintro n' a w X ⟨i,rE,rfl,rfl,hi,hS⟩;have hs:=hS.s;rcases ew xs i with⟨dz,x,wX,hd⟩|⟨dV,hd⟩
   ·have gh:=zp (f:=tS) wX;repeat' first|refine bD ?_;intros
    refine mn (fun (k:World→XS→Prop)=>k w X) ?_ ?_
    ·repeat' first|refine aL ?_;intros
     refine CA ?_;refine hS.eu (yu (s:=x) hS.r (hc.mv hS.at) (Cells.mv (by assumption) hS.at) hS.z (by simp only [av];omega) (ah di hs.kp.size) (by have:=CL x;omega)) kQ fun kz w3 X3 dA rh=>?_;replace hs:=dA.s;repeat' first|refine aL ?_;intros
     refine fh (xs.length-(i+1)) zQ ⟨i+1,kz,by simp,rfl,by omega,?_⟩;rw [nC wX,←aK];exact dA
    ·intro K hK;repeat' first|refine aL ?_;intros|exact hK
   ·rw [bq dV] at hS;repeat' first|refine bD ?_;intros
    rw [aK] at hS;exact hS.fin
  ·intro K hK;repeat' first|refine aL ?_;intros
   refine hS.eu (mq hS.r zQ di) kQ fun gA w2 X2 bM lF=>?_;replace hs:=bM.s
   skip
   exact hK _ _ _ bM
theorem DV {w:World} {X Z:XS} {lo wb cb xb xo:Nat} {vb va:Value} {bs:List Nat} {xs:List Int} (h:Wr w X lo wb vb bs) (hc:Cells w Z cb 0 (je wb)) (hx:Cells w Z xb xo [va]) (ha:Sl w Z 1 va (xs.map I1)) (hZ:ry Z X wb vb) (fp:lo≤w.heap.size) (hb:bs.length+(j9 encI xs).length≤2^33):
  lO 135 #[ptr cb 0,ptr xb xo,.func (.func 132) #[ptr cb 0] #[]] w X lo wb vb bs (j9 encI xs):=by
  intro w0 hk;have di:lo≤w0.heap.size:=ah fp hk.size;replace hc:=hc.mv (hZ.mv hk);replace hx:=hx.mv (hZ.mv hk);replace ha:=ha.mv (hZ.mv hk);have hS:=WS.init (h.mv hk.dD);have jV:=ha.gy;apply Lz;unfold A8;have hs:=hS.s;repeat' first|refine aL ?_;intros
  refine mn (fun (k:Value→World→XS→Prop)=> ∀w X gA,WS w0 vb w X lo wb gA (bs++encI xs.length)→k (I xs.length) w X) ?_ ?_
  ·intro w X gA bM;refine fQ (fun n' a w X=> ∃(i:Nat) (rE:Value),a=I i∧n'=xs.length-i∧i≤xs.length∧WS w0 vb w X lo wb rE (bs++encI xs.length++((xs.take i).map encI).flatten)) xs.length ⟨0,gA,rfl,rfl,aG _,by simpa using bM⟩ ?_;clear bM hS hs;rintro n' a w X ⟨i,rE,rfl,rfl,hi,hS⟩;have hs:=hS.s;rcases ew xs i with⟨dz,x,wX,hd⟩|⟨dV,hd⟩
   ·have gh:=zp (f:=encI) wX;repeat' first|refine bD ?_;intros
    refine mn (fun (k:World→XS→Prop)=>k w X) ?_ ?_
    ·repeat' first|refine aL ?_;intros
     refine CA ?_;refine hS.eu (ig (n:=x) hS.r (hc.mv hS.at) (Cells.mv (by assumption) hS.at) hS.z (by simp only [av];omega) (ah di hs.kp.size)) kQ fun kz w3 X3 dA rh=>?_;replace hs:=dA.s;repeat' first|refine aL ?_;intros
     refine fh (xs.length-(i+1)) zQ ⟨i+1,kz,by simp,rfl,by omega,?_⟩;rw [nC wX,←aK];exact dA
    ·intro K hK;repeat' first|refine aL ?_;intros|exact hK
   ·rw [bq dV] at hS;repeat' first|refine bD ?_;intros
    rw [aK] at hS;exact hS.fin
  ·intro K hK;repeat' first|refine aL ?_;intros
   refine hS.eu (mq hS.r zQ di) kQ fun gA w2 X2 bM lF=>?_;replace hs:=bM.s
   skip
   exact hK _ _ _ bM
theorem HU {w:World} {X Z:XS} {lo wb cb xb xo:Nat} {vb va:Value} {bs:List Nat} {xs:List KV} (h:Wr w X lo wb vb bs) (hc:Cells w Z cb 0 (je wb)) (hx:Cells w Z xb xo [va]) (ha:Sl w Z 4 va (xs.map KV.l)) (hZ:ry Z X wb vb) (fp:lo≤w.heap.size) (hb:bs.length+(j9 qz xs).length≤2^33):
  lO 140 #[ptr cb 0,ptr xb xo,.func (.func 141) #[ptr cb 0] #[]] w X lo wb vb bs (j9 qz xs):=by
  intro w0 hk;have di:lo≤w0.heap.size:=ah fp hk.size;replace hc:=hc.mv (hZ.mv hk);replace hx:=hx.mv (hZ.mv hk);replace ha:=ha.mv (hZ.mv hk);have hS:=WS.init (h.mv hk.dD);have jV:=ha.gy;apply CP;unfold uv;have hs:=hS.s;repeat' first|refine aL ?_;intros
  refine mn (fun (k:Value→World→XS→Prop)=> ∀w X gA,WS w0 vb w X lo wb gA (bs++encI xs.length)→k (I xs.length) w X) ?_ ?_
  ·intro w X gA bM;refine fQ (fun n' a w X=> ∃(i:Nat) (rE:Value),a=I i∧n'=xs.length-i∧i≤xs.length∧WS w0 vb w X lo wb rE (bs++encI xs.length++((xs.take i).map qz).flatten)) xs.length ⟨0,gA,rfl,rfl,aG _,by simpa using bM⟩ ?_;clear bM hS hs;rintro n' a w X ⟨i,rE,rfl,rfl,hi,hS⟩;have hs:=hS.s;rcases ew xs i with⟨dz,x,wX,hd⟩|⟨dV,hd⟩
   ·have gh:=zp (f:=qz) wX;repeat' first|refine bD ?_;intros
    refine mn (fun (k:World→XS→Prop)=>k w X) ?_ ?_
    ·repeat' first|refine aL ?_;intros
     refine CA ?_;refine hS.eu (Tm (x:=x) hS.r (hc.mv hS.at) (Cells.mv (by assumption) hS.at) hS.z (by simp only [av];omega) (ah di hs.kp.size) (by have:=Sw x;omega)) kQ fun kz w3 X3 dA rh=>?_;replace hs:=dA.s;repeat' first|refine aL ?_;intros
     refine fh (xs.length-(i+1)) zQ ⟨i+1,kz,by simp,rfl,by omega,?_⟩;rw [nC wX,←aK];exact dA
    ·intro K hK;repeat' first|refine aL ?_;intros|exact hK
   ·rw [bq dV] at hS;repeat' first|refine bD ?_;intros
    rw [aK] at hS;exact hS.fin
  ·intro K hK;repeat' first|refine aL ?_;intros
   refine hS.eu (mq hS.r zQ di) kQ fun gA w2 X2 bM lF=>?_;replace hs:=bM.s
   skip
   exact hK _ _ _ bM
theorem To {w:World} {X Z:XS} {lo wb cb xb xo:Nat} {vb va:Value} {bs:List Nat} {xs:List KV} (h:Wr w X lo wb vb bs) (hc:Cells w Z cb 0 (je wb)) (hx:Cells w Z xb xo [va]) (ha:Sl w Z 4 va (xs.map KV.l)) (hZ:ry Z X wb vb) (fp:lo≤w.heap.size) (hb:bs.length+(j9 qz xs).length≤2^33):
  lO 142 #[ptr cb 0,ptr xb xo,.func (.func 143) #[ptr cb 0] #[]] w X lo wb vb bs (j9 qz xs):=by
  intro w0 hk;have di:lo≤w0.heap.size:=ah fp hk.size;replace hc:=hc.mv (hZ.mv hk);replace hx:=hx.mv (hZ.mv hk);replace ha:=ha.mv (hZ.mv hk);have hS:=WS.init (h.mv hk.dD);have jV:=ha.gy;apply Er;unfold vz;have hs:=hS.s;repeat' first|refine aL ?_;intros
  refine mn (fun (k:Value→World→XS→Prop)=> ∀w X gA,WS w0 vb w X lo wb gA (bs++encI xs.length)→k (I xs.length) w X) ?_ ?_
  ·intro w X gA bM;refine fQ (fun n' a w X=> ∃(i:Nat) (rE:Value),a=I i∧n'=xs.length-i∧i≤xs.length∧WS w0 vb w X lo wb rE (bs++encI xs.length++((xs.take i).map qz).flatten)) xs.length ⟨0,gA,rfl,rfl,aG _,by simpa using bM⟩ ?_;clear bM hS hs;rintro n' a w X ⟨i,rE,rfl,rfl,hi,hS⟩;have hs:=hS.s;rcases ew xs i with⟨dz,x,wX,hd⟩|⟨dV,hd⟩
   ·have gh:=zp (f:=qz) wX;repeat' first|refine bD ?_;intros
    refine mn (fun (k:World→XS→Prop)=>k w X) ?_ ?_
    ·repeat' first|refine aL ?_;intros
     refine CA ?_;refine hS.eu (WL (x:=x) hS.r (hc.mv hS.at) (Cells.mv (by assumption) hS.at) hS.z (by simp only [av];omega) (ah di hs.kp.size) (by have:=Sw x;omega)) kQ fun kz w3 X3 dA rh=>?_;replace hs:=dA.s;repeat' first|refine aL ?_;intros
     refine fh (xs.length-(i+1)) zQ ⟨i+1,kz,by simp,rfl,by omega,?_⟩;rw [nC wX,←aK];exact dA
    ·intro K hK;repeat' first|refine aL ?_;intros|exact hK
   ·rw [bq dV] at hS;repeat' first|refine bD ?_;intros
    rw [aK] at hS;exact hS.fin
  ·intro K hK;repeat' first|refine aL ?_;intros
   refine hS.eu (mq hS.r zQ di) kQ fun gA w2 X2 bM lF=>?_;replace hs:=bM.s
   skip
   exact hK _ _ _ bM
theorem PM {w:World} {X Z:XS} {lo wb cb xb xo:Nat} {vb va:Value} {bs:List Nat} {xs:List kf} (h:Wr w X lo wb vb bs) (hc:Cells w Z cb 0 (je wb)) (hx:Cells w Z xb xo [va]) (ha:Sl w Z 6 va (xs.map kf.l)) (hZ:ry Z X wb vb) (fp:lo≤w.heap.size) (hb:bs.length+(j9 Ai xs).length≤2^33):
  lO 258 #[ptr cb 0,ptr xb xo,.func (.func 259) #[ptr cb 0] #[]] w X lo wb vb bs (j9 Ai xs):=by
  intro w0 hk;have di:lo≤w0.heap.size:=ah fp hk.size;replace hc:=hc.mv (hZ.mv hk);replace hx:=hx.mv (hZ.mv hk);replace ha:=ha.mv (hZ.mv hk);have hS:=WS.init (h.mv hk.dD);have jV:=ha.gy;apply BE;unfold sZ;have hs:=hS.s;repeat' first|refine aL ?_;intros
  refine mn (fun (k:Value→World→XS→Prop)=> ∀w X gA,WS w0 vb w X lo wb gA (bs++encI xs.length)→k (I xs.length) w X) ?_ ?_
  ·intro w X gA bM;refine fQ (fun n' a w X=> ∃(i:Nat) (rE:Value),a=I i∧n'=xs.length-i∧i≤xs.length∧WS w0 vb w X lo wb rE (bs++encI xs.length++((xs.take i).map Ai).flatten)) xs.length ⟨0,gA,rfl,rfl,aG _,by simpa using bM⟩ ?_;clear bM hS hs;rintro n' a w X ⟨i,rE,rfl,rfl,hi,hS⟩;have hs:=hS.s;rcases ew xs i with⟨dz,x,wX,hd⟩|⟨dV,hd⟩
   ·have gh:=zp (f:=Ai) wX;repeat' first|refine bD ?_;intros
    refine mn (fun (k:World→XS→Prop)=>k w X) ?_ ?_
    ·repeat' first|refine aL ?_;intros
     refine CA ?_;refine hS.eu (PL (x:=x) hS.r (hc.mv hS.at) (Cells.mv (by assumption) hS.at) hS.z (by simp only [av];omega) (ah di hs.kp.size)) kQ fun kz w3 X3 dA rh=>?_;replace hs:=dA.s;repeat' first|refine aL ?_;intros
     refine fh (xs.length-(i+1)) zQ ⟨i+1,kz,by simp,rfl,by omega,?_⟩;rw [nC wX,←aK];exact dA
    ·intro K hK;repeat' first|refine aL ?_;intros|exact hK
   ·rw [bq dV] at hS;repeat' first|refine bD ?_;intros
    rw [aK] at hS;exact hS.fin
  ·intro K hK;repeat' first|refine aL ?_;intros
   refine hS.eu (mq hS.r zQ di) kQ fun gA w2 X2 bM lF=>?_;replace hs:=bM.s
   skip
   exact hK _ _ _ bM
theorem PN {w:World} {X Z:XS} {lo wb cb xb xo:Nat} {vb vv:Value} {bs:List Nat} {x:jq} (h:Wr w X lo wb vb bs) (hc:Cells w Z cb 0 (je wb)) (hx:Cells w Z xb xo (x.l vv)) (ha:Sl w Z 6 vv (x.l8.map kf.l)) (hZ:ry Z X wb vb) (fp:lo≤w.heap.size) (hb:bs.length+(CM x).length≤2^33):
  lO 195 #[ptr cb 0,ptr xb xo] w X lo wb vb bs (CM x):=by
 have e1:(CM x).length=(tS x.key).length+(j9 Ai x.l8).length:=by simp [CM]
 have e2:=CL x.key;replace ha:=fun {w1:World} (hk:Kp X w w1)=>ha.mv (hZ.mv hk);intro w0 hk;have di:lo≤w0.heap.size:=ah fp hk.size;replace hc:=hc.mv (hZ.mv hk);replace hx:=hx.mv (hZ.mv hk);have hS:=WS.init (h.mv hk.dD);apply Et;unfold vB;have hs:=hS.s;replace ha:=ha hk;have ov:=ha.one;repeat' first|refine aL ?_;intros
 refine hS.eu (yu hS.r (hc.mv hS.at) (Cells.mv (by assumption) hS.at) hS.z zQ di zQ) kQ fun gA w X bM _=>?_;replace hs:=bM.s;repeat' first|refine aL ?_;intros
 refine bM.eu (PM bM.r (hc.mv bM.at) (Cells.mv (by assumption) bM.at) (ha.mv bM.at) bM.z (ah di hs.kp.size) (by simp only [av];omega)) kQ fun kz w X dA _=>?_
 skip
 unfold CM;simp only [aK] at dA;exact dA.fin
theorem DW {w:World} {X Z:XS} {lo wb cb xb xo:Nat} {vb vr vw:Value} {bs:List Nat} {x:ey} (h:Wr w X lo wb vb bs) (hc:Cells w Z cb 0 (je wb)) (hx:Cells w Z xb xo (x.l vr vw)) (h1:Sl w Z 1 vr (x.reads.map S1)) (h2:Sl w Z 4 vw (x.writes.map KV.l)) (hZ:ry Z X wb vb) (fp:lo≤w.heap.size) (hb:bs.length+(zo x).length≤2^33):
  lO 134 #[ptr cb 0,ptr xb xo] w X lo wb vb bs (zo x):=by
 have e1:(zo x).length=(He x.dK).length+((qe x.bF).length+((j9 tS x.reads).length+(j9 qz x.writes).length)):=by simp [zo]
 replace h1:=fun {w1:World} (hk:Kp X w w1)=>h1.mv (hZ.mv hk);replace h2:=fun {w1:World} (hk:Kp X w w1)=>h2.mv (hZ.mv hk);intro w0 hk;have di:lo≤w0.heap.size:=ah fp hk.size;replace hc:=hc.mv (hZ.mv hk);replace hx:=hx.mv (hZ.mv hk);have hS:=WS.init (h.mv hk.dD);apply Ep;unfold vy;have hs:=hS.s;replace h1:=h1 hk;replace h2:=h2 hk;have o1:=h1.one;have o2:=h2.one;repeat' first|refine aL ?_;intros
 refine hS.eu (vE (s:=x.dK) hS.r (hc.mv hS.at) (Cells.mv (by assumption) hS.at) hS.z (by(try simp only [av]);omega) (ah di hs.kp.size)) kQ fun gA w X bM _=>?_;replace hs:=bM.s;repeat' first|refine aL ?_;intros
 refine bM.eu (iC (s:=x.bF) bM.r (hc.mv bM.at) (Cells.mv (by assumption) bM.at) bM.z (by(try simp only [av]);omega) (ah di hs.kp.size)) kQ fun kz w X dA _=>?_;replace hs:=dA.s;repeat' first|refine aL ?_;intros
 refine dA.eu (NR dA.r (hc.mv dA.at) (Cells.mv (by assumption) dA.at) (h1.mv dA.at) dA.z (ah di hs.kp.size) (by simp only [av];omega)) kQ fun PK w X fP _=>?_;replace hs:=fP.s;repeat' first|refine aL ?_;intros
 refine fP.eu (HU fP.r (hc.mv fP.at) (Cells.mv (by assumption) fP.at) (h2.mv fP.at) fP.z (ah di hs.kp.size) (by simp only [av];omega)) kQ fun WN w X mI _=>?_
 skip
 unfold zo;simp only [aK] at mI;exact mI.fin
theorem NS {w:World} {X Z:XS} {lo wb cb xb xo:Nat} {vb va:Value} {bs:List Nat} {xs:List jq} (h:Wr w X lo wb vb bs) (hc:Cells w Z cb 0 (je wb)) (hx:Cells w Z xb xo [va]) (ha:ni w Z va xs) (hZ:ry Z X wb vb) (fp:lo≤w.heap.size) (hb:bs.length+(j9 CM xs).length≤2^33):
  lO 194 #[ptr cb 0,ptr xb xo,.func (.func 195) #[ptr cb 0] #[]] w X lo wb vb bs (j9 CM xs):=by
  intro w0 hk;have di:lo≤w0.heap.size:=ah fp hk.size;replace hc:=hc.mv (hZ.mv hk);replace hx:=hx.mv (hZ.mv hk);replace ha:=ha.mv (hZ.mv hk);have hS:=WS.init (h.mv hk.dD);have jV:=en.len ha;apply BC;unfold sX;have hs:=hS.s;repeat' first|refine aL ?_;intros
  refine mn (fun (k:Value→World→XS→Prop)=> ∀w X gA,WS w0 vb w X lo wb gA (bs++encI xs.length)→k (I xs.length) w X) ?_ ?_
  ·intro w X gA bM;refine fQ (fun n' a w X=> ∃(i:Nat) (rE:Value),a=I i∧n'=xs.length-i∧i≤xs.length∧WS w0 vb w X lo wb rE (bs++encI xs.length++((xs.take i).map CM).flatten)) xs.length ⟨0,gA,rfl,rfl,aG _,by simpa using bM⟩ ?_;clear bM hS hs;rintro n' a w X ⟨i,rE,rfl,rfl,hi,hS⟩;have hs:=hS.s;rcases ew xs i with⟨dz,x,wX,hd⟩|⟨dV,hd⟩
   ·have gh:=zp (f:=CM) wX;repeat' first|refine bD ?_;intros
    refine mn (fun (k:World→XS→Prop)=>k w X) ?_ ?_
    ·repeat' first|refine aL ?_;intros|((with_reducible apply PF);assumption;(try (case hz=>rfl));(case hr=>exact qR);(try (case hz=>omega));(case ht=>kernel_rfl);(case hs=>kernel_rfl);intros)
     refine CA ?_;refine hS.eu (PN (x:=x) hS.r (hc.mv hS.at) (Cells.mv (by assumption) hS.at) (Sl.mv (by assumption) hS.at) hS.z (ah di hs.kp.size) (by simp only [av];omega)) kQ fun kz w3 X3 dA rh=>?_;replace hs:=dA.s;repeat' first|refine aL ?_;intros
     refine fh (xs.length-(i+1)) zQ ⟨i+1,kz,by simp,rfl,by omega,?_⟩;rw [nC wX,←aK];exact dA
    ·intro K hK;repeat' first|refine aL ?_;intros|exact hK
   ·rw [bq dV] at hS;repeat' first|refine bD ?_;intros
    rw [aK] at hS;exact hS.fin
  ·intro K hK;repeat' first|refine aL ?_;intros
   refine hS.eu (mq hS.r zQ di) kQ fun gA w2 X2 bM lF=>?_;replace hs:=bM.s
   skip
   exact hK _ _ _ bM
theorem NT {w:World} {X Z:XS} {lo wb cb xb xo:Nat} {vb va:Value} {bs:List Nat} {xs:List ey} (h:Wr w X lo wb vb bs) (hc:Cells w Z cb 0 (je wb)) (hx:Cells w Z xb xo [va]) (ha:nh w Z va xs) (hZ:ry Z X wb vb) (fp:lo≤w.heap.size) (hb:bs.length+(j9 zo xs).length≤2^33):
  lO 196 #[ptr cb 0,ptr xb xo,.func (.func 134) #[ptr cb 0] #[]] w X lo wb vb bs (j9 zo xs):=by
  intro w0 hk;have di:lo≤w0.heap.size:=ah fp hk.size;replace hc:=hc.mv (hZ.mv hk);replace hx:=hx.mv (hZ.mv hk);replace ha:=ha.mv (hZ.mv hk);have hS:=WS.init (h.mv hk.dD);have jV:=en.len ha;apply BD;unfold sY;have hs:=hS.s;repeat' first|refine aL ?_;intros
  refine mn (fun (k:Value→World→XS→Prop)=> ∀w X gA,WS w0 vb w X lo wb gA (bs++encI xs.length)→k (I xs.length) w X) ?_ ?_
  ·intro w X gA bM;refine fQ (fun n' a w X=> ∃(i:Nat) (rE:Value),a=I i∧n'=xs.length-i∧i≤xs.length∧WS w0 vb w X lo wb rE (bs++encI xs.length++((xs.take i).map zo).flatten)) xs.length ⟨0,gA,rfl,rfl,aG _,by simpa using bM⟩ ?_;clear bM hS hs;rintro n' a w X ⟨i,rE,rfl,rfl,hi,hS⟩;have hs:=hS.s;rcases ew xs i with⟨dz,x,wX,hd⟩|⟨dV,hd⟩
   ·have gh:=zp (f:=zo) wX;repeat' first|refine bD ?_;intros
    refine mn (fun (k:World→XS→Prop)=>k w X) ?_ ?_
    ·repeat' first|refine aL ?_;intros|((with_reducible apply TJ);assumption;(try (case hz=>rfl));(case hr=>exact qR);(try (case hz=>omega));(case ht=>kernel_rfl);(case hs=>kernel_rfl);intros)
     refine CA ?_;refine hS.eu (DW (x:=x) hS.r (hc.mv hS.at) (Cells.mv (by assumption) hS.at) (Sl.mv (by assumption) hS.at) (Sl.mv (by assumption) hS.at) hS.z (ah di hs.kp.size) (by simp only [av];omega)) kQ fun kz w3 X3 dA rh=>?_;replace hs:=dA.s;repeat' first|refine aL ?_;intros
     refine fh (xs.length-(i+1)) zQ ⟨i+1,kz,by simp,rfl,by omega,?_⟩;rw [nC wX,←aK];exact dA
    ·intro K hK;repeat' first|refine aL ?_;intros|exact hK
   ·rw [bq dV] at hS;repeat' first|refine bD ?_;intros
    rw [aK] at hS;exact hS.fin
  ·intro K hK;repeat' first|refine aL ?_;intros
   refine hS.eu (mq hS.r zQ di) kQ fun gA w2 X2 bM lF=>?_;replace hs:=bM.s
   skip
   exact hK _ _ _ bM
theorem Tp {w:World} {X Z:XS} {lo wb cb xb xo:Nat} {vb vh vp:Value} {bs:List Nat} {x:State} (h:Wr w X lo wb vb bs) (hc:Cells w Z cb 0 (je wb)) (hx:Cells w Z xb xo (x.l vh vp)) (h1:ni w Z vh x.fU) (h2:nh w Z vp x.fB) (hZ:ry Z X wb vb) (fp:lo≤w.heap.size) (hb:bs.length+(encS x).length≤2^33):
  lO 133 #[ptr cb 0,ptr xb xo] w X lo wb vb bs (encS x):=by
 have e1:(encS x).length=(TK x.range).length+((qe x.floor).length+((qe x.closed).length+((j9 CM x.fU).length+(j9 zo x.fB).length))):=by simp [encS]
 replace h1:=fun {w1:World} (hk:Kp X w w1)=>ni.mv h1 (hZ.mv hk);replace h2:=fun {w1:World} (hk:Kp X w w1)=>nh.mv h2 (hZ.mv hk);intro w0 hk;have di:lo≤w0.heap.size:=ah fp hk.size;replace hc:=hc.mv (hZ.mv hk);replace hx:=hx.mv (hZ.mv hk);have hS:=WS.init (h.mv hk.dD);apply GQ;unfold ye;have hs:=hS.s;replace h1:=h1 hk;replace h2:=h2 hk;have o1:=h1.one;have o2:=h2.one;repeat' first|refine aL ?_;intros
 refine hS.eu (Tn (r:=x.range) hS.r (hc.mv hS.at) (Cells.mv (by assumption) hS.at) hS.z (by(try simp only [av]);omega) (ah di hs.kp.size)) kQ fun gA w X bM _=>?_;replace hs:=bM.s;repeat' first|refine aL ?_;intros
 refine bM.eu (iC (s:=x.floor) bM.r (hc.mv bM.at) (Cells.mv (by assumption) bM.at) bM.z (by(try simp only [av]);omega) (ah di hs.kp.size)) kQ fun kz w X dA _=>?_;replace hs:=dA.s;repeat' first|refine aL ?_;intros
 refine dA.eu (iC (s:=x.closed) dA.r (hc.mv dA.at) (Cells.mv (by assumption) dA.at) dA.z (by(try simp only [av]);omega) (ah di hs.kp.size)) kQ fun PK w X fP _=>?_;replace hs:=fP.s;repeat' first|refine aL ?_;intros
 refine fP.eu (NS fP.r (hc.mv fP.at) (Cells.mv (by assumption) fP.at) (h1.mv fP.at) fP.z (ah di hs.kp.size) (by simp only [av];omega)) kQ fun WN w X mI _=>?_;replace hs:=mI.s;repeat' first|refine aL ?_;intros
 refine mI.eu (NT mI.r (hc.mv mI.at) (Cells.mv (by assumption) mI.at) (h2.mv mI.at) mI.z (ah di hs.kp.size) (by simp only [av];omega)) kQ fun vb6 w X Sx _=>?_
 skip
 unfold encS;simp only [aK] at Sx;exact Sx.fin
def kD (r:Rec):List Nat:=encI r.kind++(
 if r.kind=1 then encS r.state
 else if r.kind=2∨r.kind=7∨r.kind=8 then encI r.n
 else if r.kind=3 then zo ⟨r.dK,r.bF,r.reads,r.writes⟩++j9 encI r.parts
 else if r.kind=4 then He r.dK++(aeX r.kP++qe r.bF)
 else if r.kind=5 then qe r.bF
 else if r.kind=6 then Hd r.vG++(encI r.n++qe r.bF)
 else if r.kind=9 then He r.dK++(qe r.bF++j9 encI r.parts)
 else if r.kind=10 then He r.dK
 else if r.kind=11 then qe r.prev++(qe r.bF++(He r.dK++j9 qz r.writes))
 else if r.kind=12 then qe r.bF++j9 qz r.xp
 else [])
theorem Hf {P:Program} {R:Ending→World→Prop} {X:XS} {w:World} {t sz b o o':Nat} {cs:List Value} {ty:TypeId} {v:Value} {N:Value→World→XS→Prop} (h:a7 w X b cs ty) (VJ:o'=o) (ht:(P.info? t).map (·.size)=some sz)
  (hl:o+sz≤cs.length) (hv:v.cells.size=sz) (h1:v.cells.toList.all aR.one=true) (hX: ∀k,X k→k<w.heap.size) (he:cV cs o v.cells.toList=cs)
  (n: ∀w' X',ak X w X' w'→N undef w' X'):eU P R X w true (st1 t sz (ptr b o') v) N:=by
 refine FQ h VJ ht hl hv h1 hX fun w' X' c hr=>n w' X' ⟨⟨c.os,c.tape,c.output,c.size,fun k hk=>?_⟩,c.sub,c.has⟩;by_cases e:k=b
 ·subst e;rw [h.2,hr.2,he]
 ·exact c.block k hk e
theorem WS.ami {w0 w w':World} {X X':XS} {lo wb b:Nat} {oE vb:Value} {bs:List Nat} {cs:List Value} {ty:TypeId} (hS:WS w0 oE w X lo wb vb bs) (hr:a7 w X b cs ty) (hb:w0.heap.size≤b)
  (h1:decide (350≠ty)=true) (h2:decide (5≠ty)=true) (c:ez (fun k=>k=b) X w X' w'):WS w0 oE w' X' lo wb vb bs:=by
 have du:wb≠b:=hS.r.box.eA hr h1;refine⟨hS.s.fL c fun q h0 hq=>?_,⟨⟨c.sub _ hS.r.box.1,by rw [c.block _ hS.r.box.1 fun e=>du e];exact hS.r.box.2⟩,Own.fL hS.r.ow c fun g hg e=>Own.eA hS.r.ow hr h2 (by rw [hg,e])⟩,hS.v⟩;have:=h0.1;have hq:q=b:=hq;omega
theorem _root_.Go.aR.a7.fL {F X X':XS} {w w':World} {b:Nat} {cs:List Value} {ty:TypeId} (h:a7 w X b cs ty) (c:ez F X w X' w') (hn: ¬F b):a7 w' X' b cs ty:=⟨c.sub _ h.1,by rw [c.block _ h.1 hn];exact h.2⟩
theorem Yg {w:World} {X Z:XS} {lo wb cb xb:Nat} {vb:Value} {bs:List Nat} {r:Rec} {vr vw vp vq vh vd:Value} (h:Wr w X lo wb vb bs) (hc:Cells w Z cb 0 (je wb)) (hx:a7 w Z xb (r.l vr vw vp vq vh vd) 99) (ef:r.at w Z vr vw vp vq vh vd) (hZ:ry Z X wb vb) (fp:lo≤w.heap.size)
  (hb:bs.length+(kD r).length≤2^33):lO 78 #[ptr cb 0,ptr xb 0] w X lo wb vb bs (kD r):=by
 intro w0 hk;have di:lo≤w0.heap.size:=ah fp hk.size;replace hc:=hc.mv (hZ.mv hk);replace hx:=hx.mv (hZ.mv hk);replace ef:=ef.mv (hZ.mv hk);obtain⟨a1,a2,a3,a4,a5,a6⟩:=ef;obtain⟨p1,n1,c1,rfl⟩:=a1.form;obtain⟨p2,n2,c2,rfl⟩:=a2.form;have o1:=a1.one;have o2:=a2.one;have o3:=a3.one;have o4:=a4.one;have o5:=a5.one;have o6:=a6.one;have bJ:=hx;replace hx:=hx.cells;have hS:=WS.init (h.mv hk.dD);have e1:=iZ r.kind;obtain⟨E,hE⟩: ∃E,E=kD r:=⟨_,rfl⟩;rw [←hE] at hb⊢;unfold kD at hE;have hEl:(encI r.kind).length≤E.length:=by rw [hE,av];omega
 apply Wc;unfold J0;have hs:=hS.s;repeat' first|refine aL ?_;intros
 refine hS.eu (ig hS.r (hc.mv hS.at) (Cells.mv (by assumption) hS.at) hS.z zQ (ah di hs.kp.size)) kQ fun gA w X bM _=>?_;replace hs:=bM.s;repeat' first|refine aL ?_;intros
 refine mn (fun (k:World→XS→Prop)=> ∀w X kz,WS w0 vb w X lo wb kz (bs++E)→k w X) (fun w X kz dA=>dA.fin) fun K hK=>?_;repeat' first|refine aL ?_;intros|refine dM ?_ ?_<;>intros|with_reducible apply dy
 all_goals (repeat (first|rw [if_pos zQ] at hE|rw [if_neg zQ] at hE))
 all_goals (have hEb:=congrArg List.length hE;simp only [av] at hEb)
 ·refine bM.eu (Tp (x:=r.state) bM.r (hc.mv bM.at) (Cells.mv (by assumption) bM.at) (a5.mv bM.at) (a6.mv bM.at) bM.z (ah di hs.kp.size) (by simp only [av];omega)) kQ fun kz w X dA _=>?_;have h9:=dA;rw [hE] at hK
  (try simp only [aK] at h9 hK)
  exact hK _ _ _ h9
 ·refine bM.eu (ig bM.r (hc.mv bM.at) (Cells.mv (by assumption) bM.at) bM.z (by simp only [av];omega) (ah di hs.kp.size)) kQ fun kz w X dA _=>?_;have h9:=dA;rw [hE] at hK
  (try simp only [aK] at h9 hK)
  exact hK _ _ _ h9
 ·refine bM.eu (ig bM.r (hc.mv bM.at) (Cells.mv (by assumption) bM.at) bM.z (by simp only [av];omega) (ah di hs.kp.size)) kQ fun kz w X dA _=>?_;have h9:=dA;rw [hE] at hK
  (try simp only [aK] at h9 hK)
  exact hK _ _ _ h9
 ·refine bM.eu (ig bM.r (hc.mv bM.at) (Cells.mv (by assumption) bM.at) bM.z (by simp only [av];omega) (ah di hs.kp.size)) kQ fun kz w X dA _=>?_;have h9:=dA;rw [hE] at hK
  (try simp only [aK] at h9 hK)
  exact hK _ _ _ h9
 ·have e2:(zo ⟨r.dK,r.bF,r.reads,r.writes⟩).length≤E.length:=by omega
  refine Qw (l:=[I 0,I 0,I 0,I 0,I 0,I 0,.slice none 0 0,.slice none 0 0]) hs.has kQ fun pb w3 X3 JJ ea afF=>?_;have dA:=bM.since ea;refine FQ (o:=0) afF rfl kQ (by simp) rfl rfl ea.has fun w4 X4 c4 vK=>?_;replace vK:a7 w4 X4 pb ((⟨r.dK,r.bF,r.reads,r.writes⟩:ey).l (.slice p1 n1 c1) (.slice p2 n2 c2)) 266:=vK;have amj:w0.heap.size≤pb:=ah hs.kp.size JJ;have fP:=dA.ami afF amj kQ kQ c4;have hnf: ¬Bg wb gA pb:=fun hf=>hf.elim (fun e=>fP.r.box.eA vK kQ e.symm) fun e=>Own.eA fP.r.ow vK kQ e;obtain⟨Z',hZ'⟩: ∃Z':XS,Z'=fun k=>k=pb∨out (Bg wb vb) w0 k:=⟨_,rfl⟩;have mv4:Mv (out (Bg wb vb) w0) w0 Z' w4:=fun k af _=>⟨by rw [hZ'];exact .inr af,fP.s.kp.block k af⟩;have lX:ry Z' X4 wb gA:=fun k af=>by
   rw [hZ'] at af;rcases af with rfl|af
   ·exact⟨vK.1,hnf⟩
   ·exact fP.z k af
  refine fP.eu (DW (x:=⟨r.dK,r.bF,r.reads,r.writes⟩) fP.r (hc.mv mv4) (a7.cells (X:=Z') (ty:=266) ⟨by rw [hZ'];exact .inl rfl,vK.2⟩) (a1.mv mv4) (a2.mv mv4) lX (ah di fP.s.kp.size) (by simp only [av];omega)) kQ fun WN w5 X5 mI c5=>?_;have Bq:=vK.fL c5 hnf;clear hs;have hs:=mI.s;repeat' first|refine aL ?_;intros
  refine Hf (o:=1) (bJ.mv mI.s.mv) zQ kQ (by simp) rfl rfl mI.s.has (by rfl) fun w6 X6 zN=>?_;have Sx:=mI.since zN;repeat' first|refine aL ?_;intros
  refine Hf (o:=4) (bJ.mv Sx.s.mv) zQ kQ (by simp) rfl rfl Sx.s.has (by rfl) fun w7 X7 gH=>?_;have hS7:=Sx.since gH;repeat' first|refine aL ?_;intros
  refine Hf (o:=13) (bJ.mv hS7.s.mv) zQ kQ (by simp) rfl rfl hS7.s.has (by rfl) fun w8 X8 mi=>?_;have hS8:=hS7.since mi;repeat' first|refine aL ?_;intros
  refine Hf (o:=14) (bJ.mv hS8.s.mv) zQ kQ (by simp) rfl rfl hS8.s.has (by rfl) fun w9 X9 xB=>?_;have WO:=hS8.since xB;clear hs;have hs:=WO.s;repeat' first|refine aL ?_;intros
  refine WO.eu (DV WO.r (hc.mv WO.at) (Cells.mv (by assumption) WO.at) (a3.mv WO.at) WO.z (ah di hs.kp.size) (by simp only [av];omega)) kQ fun ane w X amk _=>?_;have h9:=amk;rw [hE] at hK
  (try simp only [aK] at h9 hK)
  exact hK _ _ _ h9
 ·refine bM.eu (vE (s:=r.dK) bM.r (hc.mv bM.at) (Cells.mv (by assumption) bM.at) bM.z (by(try simp only [av]);omega) (ah di hs.kp.size)) kQ fun kz w X dA _=>?_;replace hs:=dA.s;repeat' first|refine aL ?_;intros
  refine dA.eu (WM (b:=r.kP) dA.r (hc.mv dA.at) (Cells.mv (by assumption) dA.at) dA.z (by(try simp only [av]);omega) (ah di hs.kp.size)) kQ fun PK w X fP _=>?_;replace hs:=fP.s;repeat' first|refine aL ?_;intros
  refine fP.eu (iC (s:=r.bF) fP.r (hc.mv fP.at) (Cells.mv (by assumption) fP.at) fP.z (by(try simp only [av]);omega) (ah di hs.kp.size)) kQ fun WN w X mI _=>?_;replace hs:=mI.s
  skip
  have h9:=mI;rw [hE] at hK
  (try simp only [aK] at h9 hK)
  exact hK _ _ _ h9
 ·refine bM.eu (iC (s:=r.bF) bM.r (hc.mv bM.at) (Cells.mv (by assumption) bM.at) bM.z (by(try simp only [av]);omega) (ah di hs.kp.size)) kQ fun kz w X dA _=>?_;replace hs:=dA.s
  skip
  have h9:=dA;rw [hE] at hK
  (try simp only [aK] at h9 hK)
  exact hK _ _ _ h9
 ·refine bM.eu (AB bM.r (hc.mv bM.at) (Cells.mv (by assumption) bM.at) bM.z (by(try simp only [av]);omega) (ah di hs.kp.size)) kQ fun kz w X dA _=>?_;replace hs:=dA.s;repeat' first|refine aL ?_;intros
  refine dA.eu (ig dA.r (hc.mv dA.at) (Cells.mv (by assumption) dA.at) dA.z (by(try simp only [av]);omega) (ah di hs.kp.size)) kQ fun PK w X fP _=>?_;replace hs:=fP.s;repeat' first|refine aL ?_;intros
  refine fP.eu (iC (s:=r.bF) fP.r (hc.mv fP.at) (Cells.mv (by assumption) fP.at) fP.z (by(try simp only [av]);omega) (ah di hs.kp.size)) kQ fun WN w X mI _=>?_;replace hs:=mI.s
  skip
  have h9:=mI;rw [hE] at hK
  (try simp only [aK] at h9 hK)
  exact hK _ _ _ h9
 ·refine bM.eu (vE (s:=r.dK) bM.r (hc.mv bM.at) (Cells.mv (by assumption) bM.at) bM.z (by(try simp only [av]);omega) (ah di hs.kp.size)) kQ fun kz w X dA _=>?_;replace hs:=dA.s;repeat' first|refine aL ?_;intros
  refine dA.eu (iC (s:=r.bF) dA.r (hc.mv dA.at) (Cells.mv (by assumption) dA.at) dA.z (by(try simp only [av]);omega) (ah di hs.kp.size)) kQ fun PK w X fP _=>?_;replace hs:=fP.s;repeat' first|refine aL ?_;intros
  refine fP.eu (DV fP.r (hc.mv fP.at) (Cells.mv (by assumption) fP.at) (a3.mv fP.at) fP.z (ah di hs.kp.size) (by simp only [av];omega)) kQ fun WN w X mI _=>?_;have h9:=mI;rw [hE] at hK
  (try simp only [aK] at h9 hK)
  exact hK _ _ _ h9
 ·refine bM.eu (vE (s:=r.dK) bM.r (hc.mv bM.at) (Cells.mv (by assumption) bM.at) bM.z (by(try simp only [av]);omega) (ah di hs.kp.size)) kQ fun kz w X dA _=>?_;replace hs:=dA.s
  skip
  have h9:=dA;rw [hE] at hK
  (try simp only [aK] at h9 hK)
  exact hK _ _ _ h9
 ·refine bM.eu (iC (s:=r.prev) bM.r (hc.mv bM.at) (Cells.mv (by assumption) bM.at) bM.z (by(try simp only [av]);omega) (ah di hs.kp.size)) kQ fun kz w X dA _=>?_;replace hs:=dA.s;repeat' first|refine aL ?_;intros
  refine dA.eu (iC (s:=r.bF) dA.r (hc.mv dA.at) (Cells.mv (by assumption) dA.at) dA.z (by(try simp only [av]);omega) (ah di hs.kp.size)) kQ fun PK w X fP _=>?_;replace hs:=fP.s;repeat' first|refine aL ?_;intros
  refine fP.eu (vE (s:=r.dK) fP.r (hc.mv fP.at) (Cells.mv (by assumption) fP.at) fP.z (by(try simp only [av]);omega) (ah di hs.kp.size)) kQ fun WN w X mI _=>?_;replace hs:=mI.s;repeat' first|refine aL ?_;intros
  refine mI.eu (HU mI.r (hc.mv mI.at) (Cells.mv (by assumption) mI.at) (a2.mv mI.at) mI.z (ah di hs.kp.size) (by simp only [av];omega)) kQ fun vb6 w X Sx _=>?_;have h9:=Sx;rw [hE] at hK
  (try simp only [aK] at h9 hK)
  exact hK _ _ _ h9
 ·refine bM.eu (iC (s:=r.bF) bM.r (hc.mv bM.at) (Cells.mv (by assumption) bM.at) bM.z (by(try simp only [av]);omega) (ah di hs.kp.size)) kQ fun kz w X dA _=>?_;replace hs:=dA.s;repeat' first|refine aL ?_;intros
  refine dA.eu (To dA.r (hc.mv dA.at) (Cells.mv (by assumption) dA.at) (a4.mv dA.at) dA.z (ah di hs.kp.size) (by simp only [av];omega)) kQ fun PK w X fP _=>?_;have h9:=fP;rw [hE] at hK
  (try simp only [aK] at h9 hK)
  exact hK _ _ _ h9
 ·rw [lZ] at hE;have h9:=bM;rw [hE] at hK
  (try simp only [aK] at h9 hK)
  exact hK _ _ _ h9
def Rec.gD (r:Rec):Int:=if r.err≠0 then r.err else if 262144<(kD r).length then 2 else 0
theorem HB {w:World} {X:XS} {r:Rec} {vr vw vp vq vh vd:Value} (h:r.at w X vr vw vp vq vh vd) (mY:r.small) (mh:r.err=0→(kD r).length≤2^33):
  Ct pg 80 #[r.v vr vw vp vq vh vd] w X nX fun v wa w'=>if r.gD≠0 then v= .tuple #[.slice none 0 0,I r.gD] else∃vb,v= .tuple #[vb,I 0]∧Own w' (made wa w') wa.heap.size 5 1 vb ((kD r).map U1):=by
 intro w0 hk;replace h:=h.mv hk.dD;have o1:=h.1.one;have o2:=h.2.1.one;have o3:=h.2.2.1.one;have o4:=h.2.2.2.1.one;have o5:=h.2.2.2.2.1.one;have o6:=h.2.2.2.2.2.one;apply QQ;unfold Fg;have hs:=ak.init w0;repeat' first|refine aL ?_;intros|refine dM ?_ ?_<;>intros|(with_reducible apply nZ);(case hX=>exact hs.has);intro bx w X gh au bJ;have bR:=hs.trans au;replace hs:=ak.ct au.has|(refine gC (aaZ (r:=r) (h.mv (bR.trans hs).mv) mY) kQ hs.has fun w X au=>?_;replace hs:=hs.trans au)
 ·have e:r.gD=r.err:=if_pos (by assumption);exact aw (bR.trans hs) fun wa hk=>by dsimp only;rw [e,if_pos (by assumption)]
 ·have DA:r.err=0:=by assumption
  have k3:=mh DA;refine dp NQ kQ hs.has ?_;rintro v wa w2 X2 ⟨wb,rfl,hW⟩ hle fO bT;have IL:=bR.trans (hs.trans bT);have rT:=bJ.lt;have U6:=hs.kp.size;have L8:=bR.kp.size;have hwb:=hW.box.1;have Dx:=bJ.since (hs.trans bT);refine aaF kQ ?_;refine nZ IL.has fun cb w3 X3 R4 ea afG=>?_;have Yv:=IL.trans ea;have Dv:=Dx.since ea;obtain⟨Z,hZd⟩: ∃Z:XS,Z=fun k=>k=bx∨k=cb∨aV w0 k:=⟨_,rfl⟩;have anf:wa.heap.size≤wb∧wb<w2.heap.size:=hwb;have hZ:ry Z X3 wb (.slice none 0 0):=fun k af=>by
   rw [hZd] at af;refine⟨?_,fun hf=>?_⟩
   ·rcases af with rfl|rfl|af
    ·exact Dv.1
    ·exact afG.1
    ·exact Yv.sub k af
   ·rcases hf with hf|hf
    ·rcases af with e|e|e
     ·omega
     ·omega
     ·have:k<w0.heap.size:=e;omega
    ·cases hf
  have hcC:Cells w3 Z cb 0 (je wb):=a7.cells (ty:=190) ⟨by rw [hZd];exact .inr (.inl rfl),afG.2⟩;have hxC:a7 w3 Z bx (r.l vr vw vp vq vh vd) 99:=⟨by rw [hZd];exact .inl rfl,Dv.2⟩;have haC:r.at w3 Z vr vw vp vq vh vd:=h.mv fun k af hl=>⟨by rw [hZd];exact .inr (.inr af),Yv.kp.block k af⟩;have O8:Wr w3 X3 wa.heap.size wb (.slice none 0 0) []:=(hW.mv (Mv.sub fO)).mv ea.mv;refine aeQ (Yg O8 hcC hxC haC hZ (by have:=ea.kp.size;omega) (by simpa using k3)) kQ Yv.has (fun q hq=>by
   rcases hq with rfl|hq
   ·exact O8.box.1
   ·cases hq) fun v mw w4 X4 hq qh lL ang EM=>?_
  obtain⟨rfl,KI,hW4⟩:=hq;have fq:=Yv.fL EM fun k af hf=>by
   have h0:k<w0.heap.size:=af;rcases hf with hf|hf
   ·omega
   ·cases hf
  have hW5:Wr w4 X4 wa.heap.size wb KI (kD r):=hW4.mv (Mv.sub fun k af=>by
   rcases af with(af|af)|af
   ·rw [af];exact EM.sub _ O8.box.1
   ·cases af
   ·exact lL k af)
  refine dp (WK hW5 zQ) kQ fq.has ?_;rintro v5 YC w5 X5 jW Qf Jg tj;have hsC:=fq.trans tj;have ho:Own w5 X5 w0.heap.size 5 1 v5 ((kD r).map U1):=jW.up Jg (by have:=fq.kp.size;omega);clear hs bR;have hs:=hsC;have ov:=ho.sl.one;have hl:(List.map U1 (kD r)).length=(kD r).length:=aI _;repeat' first|refine aL ?_;intros|refine dM ?_ ?_<;>intros
  ·have e:r.gD=2:=by unfold Rec.gD;rw [if_neg zQ,if_pos zQ]
   exact aw hs fun wb bk=>by dsimp only;rw [e,if_pos zQ]
  ·have e:r.gD=0:=by unfold Rec.gD;rw [if_neg zQ,if_neg zQ]
   exact aw hs fun wb bk=>by
    dsimp only;rw [e,if_neg zQ];exact⟨v5,rfl,(ho.kp bk).tight⟩
def PO (n:Int):Bool:=(decide (n≥1)&&decide (n≤12))||(decide (n>20)&&decide (n≤22))||decide (n=31)||decide (n=32)
theorem AD (n:Int):Pure pg 173 #[I n] (B (decide (n≥1)&&decide (n≤12))):=by
 intro w;apply QT;unfold Fj;have hs:=ak.init w;repeat' first|refine aL ?_;intros|refine dM ?_ ?_<;>intros|(with_reducible refine eD hs ?_);simp_all<;>omega
theorem Yh (n:Int):Pure pg 112 #[I n] (B (PO n)):=by
 intro w;apply Wf;unfold J9;have hs:=ak.init w;repeat' first|refine aL ?_;intros|refine dM ?_ ?_<;>intros|((with_reducible refine dJ (AD _) ?_ hs.has ?_ ?_);(· kernel_rfl);all_goals (intro _ w X au;replace hs:=hs.trans au))|(with_reducible refine eD hs ?_);simp_all [PO]<;>omega
end Go.Proofs.YtbpnemeooenpmaaGreat
