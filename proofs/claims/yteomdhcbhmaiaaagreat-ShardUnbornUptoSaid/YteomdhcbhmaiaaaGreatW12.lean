/-
 Part 12 of the proof: what the last text leans on.
-/
import Derived.Test.YteomdhcbhmaiaaaGreatProg
import Derived.Recover
import Derived.KernelRfl
import Derived.Tactics
import Derived.Test.YteomdhcbhmaiaaaGreatW11
open Nat renaming le_trans → af, lt_of_lt_of_le → aA, zero_le → aP
open Array renaming replicate → de
open Go.Exit renaming thenS → iN
open List renaming length_nil → bA, map_map → ed, mem_of_getElem? → cC, map_cons → bz, map_id → sN, map_congr_left → gv, getElem?_map → dP, mem_cons_of_mem → dc, getElem?_cons_succ → nx, getElem?_eq_getElem → bk, length_map → bm
open Go.Act renaming eval → ix
open Bool renaming false_eq_true → aU, and_eq_true → aO
open Go.Op renaming bytesLess → gx
open Option renaming map_some → bc
open Option.some renaming injEq → av
open Go.ByteArray renaming toList_eq → fD
open List.Pairwise renaming nil → rW
set_option linter.unusedVariables false
set_option linter.unusedSimpArgs false
namespace Go.Proofs.YteomdhcbhmaiaaaGreat
open Go.Proofs.Tryz renaming prog → pg
open Go.aX
theorem CZ:Idle pg 57:=by
 refine⟨by kernel_rfl,fun fh w=>?_⟩;refine callsD_of_wpS Tryz.func57 rfl fun c₀ cs hu=>?_;rw [Tryz.ntmps57];have gy:7≤(fh++de (9-fh.size) undef).size:=by simp;omega
 generalize fh++de (9-fh.size) undef=tm at gy;have h2:2<tm.size:=by omega
 have h3:3<tm.size:=by omega
 have h4:4<tm.size:=by omega
 have h5:5<tm.size:=by omega
 have h6:6<tm.size:=by omega
 apply wpS_seq;apply wpS_region;simp [wpOpsS,go_sem,recoverD,hu,iN];apply wpS_seq;apply wpS_region;simp [wpOpsS,go_sem,iN,h2,h3,h4,h5,h6];refine wpS_cond (t:=false) (by simp [ix,h2,h3,h4,h5,h6]) ?_;simp only [aU,if_false];refine wpS_of_wp (wp_skip ?_);cases c₀;simp_all [bodyPostS,results,Tryz.results57]
theorem Nd:Idle pg 52:=by
 refine⟨by kernel_rfl,fun fh w=>?_⟩;refine callsD_of_wpS Tryz.func52 rfl fun c₀ cs hu=>?_;rw [Tryz.ntmps52];have gy:7≤(fh++de (9-fh.size) undef).size:=by simp;omega
 generalize fh++de (9-fh.size) undef=tm at gy;have h2:2<tm.size:=by omega
 have h3:3<tm.size:=by omega
 have h4:4<tm.size:=by omega
 have h5:5<tm.size:=by omega
 have h6:6<tm.size:=by omega
 apply wpS_seq;apply wpS_region;simp [wpOpsS,go_sem,recoverD,hu,iN];apply wpS_seq;apply wpS_region;simp [wpOpsS,go_sem,iN,h2,h3,h4,h5,h6];refine wpS_cond (t:=false) (by simp [ix,h2,h3,h4,h5,h6]) ?_;simp only [aU,if_false];refine wpS_of_wp (wp_skip ?_);cases c₀;simp_all [bodyPostS,results,Tryz.results52]
theorem FU:Idle pg 33:=by
 refine⟨by kernel_rfl,fun fh w=>?_⟩;refine callsD_of_wpS Tryz.func33 rfl fun c₀ cs hu=>?_;rw [Tryz.ntmps33];have gy:7≤(fh++de (10-fh.size) undef).size:=by simp;omega
 generalize fh++de (10-fh.size) undef=tm at gy;have h2:2<tm.size:=by omega
 have h3:3<tm.size:=by omega
 have h4:4<tm.size:=by omega
 have h5:5<tm.size:=by omega
 have h6:6<tm.size:=by omega
 apply wpS_seq;apply wpS_region;simp [wpOpsS,go_sem,recoverD,hu,iN];apply wpS_seq;apply wpS_region;simp [wpOpsS,go_sem,iN,h2,h3,h4,h5,h6];refine wpS_cond (t:=false) (by simp [ix,h2,h3,h4,h5,h6]) ?_;simp only [aU,if_false];refine wpS_of_wp (wp_skip ?_);cases c₀;simp_all [bodyPostS,results,Tryz.results33]
theorem FV:Idle pg 44:=by
 refine⟨by kernel_rfl,fun fh w=>?_⟩;refine callsD_of_wpS Tryz.func44 rfl fun c₀ cs hu=>?_;rw [Tryz.ntmps44];have gy:7≤(fh++de (10-fh.size) undef).size:=by simp;omega
 generalize fh++de (10-fh.size) undef=tm at gy;have h2:2<tm.size:=by omega
 have h3:3<tm.size:=by omega
 have h4:4<tm.size:=by omega
 have h5:5<tm.size:=by omega
 have h6:6<tm.size:=by omega
 apply wpS_seq;apply wpS_region;simp [wpOpsS,go_sem,recoverD,hu,iN];apply wpS_seq;apply wpS_region;simp [wpOpsS,go_sem,iN,h2,h3,h4,h5,h6];refine wpS_cond (t:=false) (by simp [ix,h2,h3,h4,h5,h6]) ?_;simp only [aU,if_false];refine wpS_of_wp (wp_skip ?_);cases c₀;simp_all [bodyPostS,results,Tryz.results44]
end Go.Proofs.YteomdhcbhmaiaaaGreat
namespace Go.Proofs.YteomdhcbhmaiaaaGreat
open Go.Proofs.Tryz renaming prog → pg
open Go.aX
set_option maxRecDepth 100000
set_option maxHeartbeats 1000000
set_option linter.unusedVariables false
set_option linter.unusedSimpArgs false
attribute [local irreducible] un jn aC aJ ld1 ff st1 dy cY mm dK nv Bw zn fR gf ad aw aG eW eV eU eC eF gE au fin aM az aD vS FB gU ja vT FC FE FF FG FH gV jb vU FI FJ FK FM
section
variable {w : World} {X N G S A : XS} {nb lb db mb n c cb sb kb pb : Nat} {gW gB : Value} {s : lu} {L : LM} {m : DM} {ck low : bH} {hm : List (BA × List fJ)} {pm : List (dB × cx)}
theorem kR (h:bq w X nb (kh lb mb gW gB s) pW):Ct pg 11 #[ptr nb 0] w X nX fun v _ _=>v=B s.born:=by
 intro w0 hk;have bK:=h.mv hk.cO;unfold kh at bK;generalize s.born=b at bK⊢;cases b
 ·apply u5;unfold pt;have hs:=ak.init w0;repeat' first|refine aN ?_;intros|((first|(with_reducible refine aj hs ?_)|(with_reducible refine aj (bL.trans hs) ?_));intro wa hk;rfl)
 ·apply u5;unfold pt;have hs:=ak.init w0;repeat' first|refine aN ?_;intros|((first|(with_reducible refine aj hs ?_)|(with_reducible refine aj (bL.trans hs) ?_));intro wa hk;rfl)
theorem Nf (h:bq w X nb (kh lb mb gW gB s) pW):Ct pg 12 #[ptr nb 0] w X nX fun v _ _=>v=B false:=by
 intro w0 hk;have bK:=h.mv hk.cO;apply C9;unfold u6;have hs:=ak.init w0;repeat' first|refine aN ?_;intros|((first|(with_reducible refine aj hs ?_)|(with_reducible refine aj (bL.trans hs) ?_));intro wa hk;rfl)
theorem yk (h:bq w X nb (kh lb mb gW gB s) pW):Ct pg 15 #[ptr nb 0] w X nX fun v _ _=>v=I s.ceil:=by
 intro w0 hk;have bK:=h.mv hk.cO;apply zx;unfold rX;have hs:=ak.init w0;repeat' first|refine aN ?_;intros|((first|(with_reducible refine aj hs ?_)|(with_reducible refine aj (bL.trans hs) ?_));intro wa hk;rfl)
theorem K5 (h:bq w X nb (kh lb mb gW gB s) pW) (hb:s.born=false):Ct pg 13 #[ptr nb 0] w X nX fun v _ _=>v=di:=by
 intro w0 hk;have bK:=h.mv hk.cO;apply Da;unfold u7;have hs:=ak.init w0;refine dZ (kR bK) kQ hs.has fun w1 X1 ax=>?_;replace hs:=hs.trans ax;rw [hb];repeat' first|refine aN ?_;intros|((first|(with_reducible refine aj hs ?_)|(with_reducible refine aj (bL.trans hs) ?_));intro wa hk;rfl)
theorem K6 (h:bq w X nb (kh lb mb gW gB s) pW):Ct pg 14 #[ptr nb 0] w X nX fun v _ _=>v=di:=by
 intro w0 hk;have bK:=h.mv hk.cO;have hkn:Sl w0 (aS w0) 13 di (([]:List (List Value)).map id):=Sl.nil _ _ _;apply B2;unfold tP;have hs:=ak.init w0;repeat' first|refine aN ?_;intros
 refine fS (fun n a b w X=>a=I 0∧b=di∧ak (aS w0) w0 X w) 0 ⟨rfl,rfl,hs⟩ ?_;clear hs;rintro n a b w X ⟨rfl,rfl,hs⟩;repeat' first|refine aN ?_;intros|refine du ?_ ?_<;>intros|with_reducible apply dg|(exfalso;simp only [bA] at*;omega)
 exact aj hs fun wa hk=>rfl
theorem Jh (h:bq w X nb (kh lb mb gW gB s) pW) (hb:s.born=false):Ct pg 17 #[ptr nb 0] w X nX fun v _ _=>v=State.zero.v di di:=by
 intro w0 hk;have bK:=h.mv hk.cO;apply tQ;unfold oD;have hs:=ak.init w0;refine dZ (kR bK) kQ hs.has fun w1 X1 ax=>?_;replace hs:=hs.trans ax;rw [hb];repeat' first|refine aN ?_;intros|((first|(with_reducible refine aj hs ?_)|(with_reducible refine aj (bL.trans hs) ?_));intro wa hk;rfl)
theorem Ji {fP child:Int} {jI:Nat} (h:bq w X nb (kh lb mb gW gB s) pW) (hb:s.born=false):Ct pg 18 #[ptr nb 0,I fP,.float .f64 jI,I child] w X nX fun v _ _=>v=I 14:=by
 intro w0 hk;have bK:=h.mv hk.cO;unfold kh at bK;rw [hb] at bK;refine B3 (fun g hg=>?_) (fun ch w hh=>by obtain⟨v,he,_⟩:=hh;cases he) ?_
 ·have e:mg Tryz.f18=some 52:=by kernel_rfl
  rw [e] at hg;cases hg;exact Nd
 unfold oE;have hs:=ak.init w0;repeat' first|refine aN ?_;intros|((first|(with_reducible refine aj hs ?_)|(with_reducible refine aj (bL.trans hs) ?_));intro wa hk;rfl)
theorem K7 {fP:Int} (h:bq w X nb (kh lb mb gW gB s) pW) (hb:s.born=false):Ct pg 10 #[ptr nb 0,I fP] w X nX fun v _ _=>v= .tuple #[di,I 0]:=by
 intro w0 hk;have bK:=h.mv hk.cO;unfold kh at bK;rw [hb] at bK;refine u9 (fun g hg=>?_) (fun ch w hh=>by obtain⟨v,he,_⟩:=hh;cases he) ?_
 ·have e:mg Tryz.f10=some 44:=by kernel_rfl
  rw [e] at hg;cases hg;exact FV
 unfold lH;have hs:=ak.init w0;repeat' first|refine aN ?_;intros|((first|(with_reducible refine aj hs ?_)|(with_reducible refine aj (bL.trans hs) ?_));intro wa hk;rfl)
end
theorem UQ {w:World} {X:XS} {lo:Nat} {v:Value} {xs:List HV} (ho:Own w X lo 129 2 v (xs.map HV.l)) (ha: ∀x∈xs,x.at w X lo):gb w X v (xs.map (·.h)):=by
 refine⟨_,ho.sl,by simp,fun i l x hl hx=>?_⟩;rw [dP] at hl hx;cases hi:xs[i]? with
 |none=>simp [hi] at hl
 |some y=>
  simp only [hi,bc,av] at hl hx;subst hl;subst hx;exact⟨_,rfl,Own.sl (ha y (cC hi))⟩
theorem UR {w:World} {X:XS} {lo:Nat} {v:Value} {xs:List PV} (ho:Own w X lo 65 8 v (xs.map PV.l)) (ha: ∀x∈xs,x.at w X lo):ga w X v (xs.map (·.p)):=by
 refine⟨_,ho.sl,by simp,fun i l x hl hx=>?_⟩;rw [dP] at hl hx;cases hi:xs[i]? with
 |none=>simp [hi] at hl
 |some y=>
  simp only [hi,bc,av] at hl hx;subst hl;subst hx;have:=ha y (cC hi);exact⟨_,_,rfl,this.r.sl,this.w.sl⟩
section
variable {w : World} {X N G S A : XS} {nb lb db mb n c cb sb kb pb : Nat} {gW gB : Value} {s : lu} {L : LM} {m : DM} {ck low : bH} {hm : List (BA × List fJ)} {pm : List (dB × cx)}
theorem Jj (h:bq w X nb (kh lb mb (ptr sb 0) gB s) pW) (hb:s.born=true) (g:ek w X A sb kb pb hm pm low) (hX: ∀k,X k→k<w.heap.size) (vW: ∀x∈hm,x.1.size≤2^40) (WI: ∀x∈hm,x.2.length≤2^40)
  (hl:hm.length≤2^40) (xv: ∀x∈pm,x.2.reads.length≤2^40∧x.2.writes.length≤2^40) (hml:pm.length≤2^40):
  Ct pg 17 #[ptr nb 0] w X nX fun v wa w'=> ∃vh vp ps,v=(⟨s.yi,s.floor,s.closed,wU hm,ps⟩:State).v vh vp∧gb w' (made wa w') vh (wU hm)∧ga w' (made wa w') vp ps∧ps.Perm (pm.map (·.2))∧ordered ps:=by
 intro w0 hk;have bK:=h.mv hk.cO;replace g:=g.mv hX hk.cO;apply tQ;unfold oD;have hs:=ak.init w0;refine dZ (kR bK) kQ hs.has fun w1 X1 ax=>?_;replace hs:=hs.trans ax;rw [hb];repeat' first|refine aN ?_;intros
 refine dW (Gy (g.mv (fun _ h=>h) hs.mv) hs.has vW WI hl) kQ hs.has ?_;rintro v wa w2 X2 ⟨xs,ho,hx,he⟩ hle gF dJ;have hz:=hs.kp.size;have oh:=UQ ho hx;rw [he] at oh;have oh2:=oh.mv (Mv.sub gF);have ZA:=eE.one oh;have Ic:w0.heap.size≤wa.heap.size:=af hz hle;replace hs:=hs.trans dJ;obtain⟨fp,jE,CE,rfl⟩: ∃b n c,v= .slice b n c:=ho.sl.form
 skip
 refine dW (zq (g.mv (fun _ h=>h) hs.mv) hs.has xv hml) kQ hs.has ?_;rintro v3 vZ w3 X3 ⟨ys,ho3,hx3,hp3,hor⟩ sF rE dT;have op:=UR ho3 hx3;have ZC:=eE.one op;have hz3:=hs.kp.size;obtain⟨pb',pn',pc',rfl⟩: ∃b n c,v3= .slice b n c:=ho3.sl.form;replace hs:=hs.trans dT;repeat' first|refine aN ?_;intros
 refine aj hs fun CN bt=>⟨_,_,ys.map (·.p),rfl,?_,?_,hp3,hor⟩
 ·refine oh.mv fun k ae rT=>⟨⟨by have:=ae.1;omega,?_⟩,?_⟩
  ·have:=dT.kp.size;have:=bt.size;omega
  ·rw [bt.block k (dT.sub k (gF k ae)),dT.kp.block k (gF k ae)]
 ·refine op.mv fun k ae rT=>⟨⟨by have:=ae.1;omega,?_⟩,?_⟩
  ·have:=bt.size;omega
  ·rw [bt.block k (rE k ae)]
def jK (st:State):Rec:=⟨1,.zero,.zero,.zero,false,0,0,[],[],[],[],st⟩
def iO (x:LD) (st:State):LD×Nat×Nat:=x.iY (jK st).eX.toNat (fw (jK st))
def jy (x:LD) (s:lu) (st:State):Nat:=if st.may&&decide (st.range.id=s.id)then(iO x st).2.2 else 4
theorem US {w:World} {X:XS} {st:State} {vh vp:Value} (h1:gb w X vh st.dM) (h2:ga w X vp st.dh):(jK st).at w X di di di di vh vp:=⟨Sl.nil _ _ _,Sl.nil _ _ _,Sl.nil _ _ _,Sl.nil _ _ _,h1,h2⟩
theorem PJ {st:State} (h:st.small):(jK st).small:=⟨by simp [jK],by simp [jK],by simp [jK],by simp [jK],h⟩
theorem State.zw {st:State} (h:st.may=true):st.floor.may=true∧ot st.dM st.dh=0:=by
 unfold State.may at h;simp only [aO,decide_eq_true_eq] at h;exact⟨h.1.1.1.2,h.1.2⟩
structure mV (w:World) (N G:XS) (nb lb db mb:Nat) (s:lu) (L:LM) (m:DM) (hm:List (BA×List fJ)) (pm:List (dB×cx)) (low ck:bH) (sb kb pb cb:Nat) (A T:XS):Prop where
 n:iv w N G nb lb db mb (ptr sb 0) (ptr cb 0) s L m
 t:ek w T A sb kb pb hm pm low
 tn: ∀k,T k→N k∧k≠nb∧k≠mb∧k≠cb
 c:bq w N cb (rF ck) sG
theorem K8 {st:State} {vh vp:Value} (h:iv w N G nb lb db mb (.pointer none) (.pointer none) s L m) (hN:FX N X w) (hG:FX G X w) (hb:s.born=false) (ez:GL n ⟨L,m⟩) (hn:n≤900) (h1:gb w S vh st.dM) (h2:ga w S vp st.dh)
  (hS: ∀k,S k→X k∧ ¬G k) (gp:st.small) (FR:(fw (jK st)).length≤2^33) (BD:1≤s.id∧s.id≤12):
  Ct pg 43 #[ptr nb 0,st.v vh vp] w X (fun k=>k=nb∨G k) fun v wa w'=>v=I (jy ⟨L,m⟩ s st)∧
   (jy ⟨L,m⟩ s st≠0→ ∃G' L' m',(∀k,G' k→G k∨made wa w' k)∧iv w' N G' nb lb db mb (.pointer none) (.pointer none) s L' m')∧
   (jy ⟨L,m⟩ s st=0→st.may=true∧st.range.id=s.id∧ ∃N' G' sb kb pb cb A T,(∀k,N k→N' k)∧(∀k,N' k→N k∨made wa w' k)∧(∀k,G' k→G k∨made wa w' k)∧
    mV w' N' G' nb lb db mb (s.sL st) (iO ⟨L,m⟩ st).1.L (iO ⟨L,m⟩ st).1.m (iA st.dM) (kI st.dh) .zero ⟨st.floor.wall,st.floor.cZ,s.id⟩ sb kb pb cb A T):=by
 intro w0 hk;have hF:FX (fun k=>k=nb∨G k) X w:=fun k ae=>ae.elim (fun e=>by subst e;exact hN _ h.row.1) (hG k);have hT:=hF.ft hk;replace h:=h.kp (fun k ae=>(hN k ae).1) (fun k ae=>(hG k ae).1) hk;have fU:=hN.kp hk;have jU:=hG.kp hk;have FQ: ∀k,S k→k<w.heap.size→(S k∧k<w0.heap.size)∧w0.heap[k]? =w.heap[k]? :=fun k ae hl=>⟨⟨ae,aA hl hk.size⟩,hk.block k (hS k ae).1⟩;replace h1:=h1.mv (Y:=fun k=>S k∧k<w0.heap.size) (w':=w0) FQ;replace h2:=h2.mv (Y:=fun k=>S k∧k<w0.heap.size) (w':=w0) FQ;have ZA:=eE.one h1;have ZC:=eE.one h2;have bK:=(h.row.mono fun k ae=>(fU k ae).1);unfold kh at bK;rw [hb] at bK;apply tR;unfold oF;have hs:=ak.init w0;repeat' first|refine aN ?_;intros
 refine dZ (sO (h1.mv (Mv.sub fun k ae=>(show aS w0 k from ae.2))) (h2.mv (Mv.sub fun k ae=>(show aS w0 k from ae.2))) gp) kQ hs.has fun w1 X1 ax=>?_;have en:=hT.since ax;have g1:=h.since (fun k ae=>(fU k ae).1) (fun k ae=>(jU k ae).1) ax;have gX:FX N X1 w1:=fun k ae=>⟨ax.sub k (fU k ae).1,aA (fU k ae).2 ax.kp.size⟩;have lv:FX G X1 w1:=fun k ae=>⟨ax.sub k (jU k ae).1,aA (jU k ae).2 ax.kp.size⟩;have sJ:=bK.since ax;have iz:jy ⟨L,m⟩ s st=4→ ∀wa,Kp X1 w1 wa→(Value.int .i64 4=I (jy ⟨L,m⟩ s st)∧
   (jy ⟨L,m⟩ s st≠0→ ∃G' L' m',(∀k,G' k→G k∨made w0 wa k)∧iv wa N G' nb lb db mb (.pointer none) (.pointer none) s L' m')∧
   (jy ⟨L,m⟩ s st=0→st.may=true∧st.range.id=s.id∧ ∃N' G' sb kb pb cb A T,(∀k,N k→N' k)∧(∀k,N' k→N k∨made w0 wa k)∧(∀k,G' k→G k∨made w0 wa k)∧
    mV wa N' G' nb lb db mb (s.sL st) (iO ⟨L,m⟩ st).1.L (iO ⟨L,m⟩ st).1.m (iA st.dM) (kI st.dh) .zero ⟨st.floor.wall,st.floor.cZ,s.id⟩ sb kb pb cb A T)):=fun e wa bt=>by
  rw [e];exact⟨rfl,fun _=>⟨G,L,m,fun _ h=>.inl h,g1.kp (fun k ae=>(gX k ae).1) (fun k ae=>(lv k ae).1) bt⟩,fun e=>absurd e (by decide)⟩
 clear hs bK;cases Db:st.may with
 |false=>
  repeat' first|refine aN ?_;intros
  exact en.fin fun wa bt=>by have h9:=iz (by simp [jy,Db]) wa bt;rw [Db] at h9;exact h9
 |true=>
  obtain⟨gL,hle⟩:=State.zw Db;by_cases hd:st.range.id=s.id
  ·have ZF:jy ⟨L,m⟩ s st=(iO ⟨L,m⟩ st).2.2:=by simp [jy,Db,hd]
   clear iz;rw [ZF];repeat' first|refine bY ?_;intros
   refine en.call (qJ (r:=jK st) (S:=fun k=>S k∧k<w0.heap.size) g1 (fun k ae=>(gX k ae).1) lv ez hn (US (h1.mv (ax.lr fun k ae=>(show aS w0 k from ae.2))) (h2.mv (ax.lr fun k ae=>(show aS w0 k from ae.2)))) (fun k ae=>⟨ax.sub k ae.2,(hS k ae.1).2⟩) (PJ gp) FR) kQ (fun k ae=>.inr ae) fun v rR w2 X2 hq mc mS dz c2=>?_;obtain⟨rfl,G2,pq,zy⟩:=hq;change Lg w2 G2 lb db (iO ⟨L,m⟩ st).1.L (iO ⟨L,m⟩ st).1.m at zy;rw [show LD.iY ⟨L,m⟩ (jK st).eX.toNat (fw (jK st))=iO ⟨L,m⟩ st from rfl];generalize iO ⟨L,m⟩ st=kp at zy⊢;have g2:=g1.next (fun k ae=>(gX k ae).1) en.s.has c2 mc pq zy
   have pr:FX N X2 w2:=fun k ae=>⟨c2.sub k (gX k ae).1,c2.has k (c2.sub k (gX k ae).1)⟩;have GC: ∀k,G2 k→X2 k:=fun k ae=>(pq k ae).elim (fun hg=>c2.sub k (lv k hg).1) (mS k);have GB:FX G2 X2 w2:=fun k ae=>⟨GC k ae,c2.has k (GC k ae)⟩;have WN:=ax.kp.size;have hGw: ∀wa,w2.heap.size≤wa.heap.size→ ∀k,G2 k→G k∨made w0 wa k:=fun wa xa k ae=>(pq k ae).imp id fun hm=>⟨by have:=hm.1;omega,aA hm.2 xa⟩;by_cases he:kp.2.2=0
   ·rw [he];repeat' first|refine bY ?_;intros
    have ZG: ∀k,S k∧k<w0.heap.size→X2 k∧w2.heap[k]? =w0.heap[k]? :=fun k ae=>by
     have hx1:=ax.sub k ae.2;refine⟨c2.sub k hx1,?_⟩;rw [c2.block k hx1 (hS k ae.1).2,ax.kp.block k ae.2]
    refine dz.call (K4 (S:=fun k=>S k∧k<w0.heap.size) (st:=st) g2 pr GB hb hd (h1.mv fun k ae _=>⟨ae,(ZG k ae).2⟩) (h2.mv fun k ae _=>⟨ae,(ZG k ae).2⟩) (fun k ae=>(ZG k ae).1) gp hle) kQ (fun k ae=>.inl (.inl ae)) fun v vZ w3 X3 hq sF rE dU c3=>?_;obtain⟨rfl,N3,T,sb,kb,pb,A,ZH,yl,KB,g3,t3⟩:=hq;have GD: ∀k,N3 k→X3 k:=fun k ae=>(yl k ae).elim (fun hn=>c3.sub k (pr k hn).1) (rE k);have ED:=g3.row.mono GD;have UT: ∀k,G2 k→X3 k:=fun k ae=>c3.sub k (GC k ae);repeat' first|refine aN ?_;intros
    refine dW (Tf (node:=s.id) (fl:=st.floor) BD.1 zQ gL) kQ dU.s.has ?_;rintro v sB w4 X4 ⟨cb,rfl,ym⟩ vI nF jh;have fG:=dU.since jh;have g4:=(g3.since GD UT jh).more (N':=fun k=>N3 k∨made sB w4 k) (fun _ h=>.inl h) fun k a b=>a.elim (fun a=>g3.dj k a b) fun a=>by have:=dU.s.has k (UT k b);have:=a.1;omega
    have UU: ∀k,N3 k∨made sB w4 k→X4 k:=fun k ae=>ae.elim (fun a=>jh.sub k (GD k a)) (nF k);have Rw: ∀k,G2 k→X4 k:=fun k ae=>jh.sub k (UT k ae);have t4:=t3.mv (fun k ae=>dU.s.has k (GD k (KB k ae).1)) (Y:=T) (w':=w4) fun k ae _=>⟨ae,jh.kp.block k (GD k (KB k ae).1)⟩;have uV:=ED.since jh;repeat' first|refine aN ?_;intros
    refine yj (o:=9) uV zQ kQ (by simp) rfl fG.s.has fun w5 X5 c5 Nc=>?_;have g5:=g4.put UU Rw c5 (Jf:=ptr sb 0) (Jg:=ptr cb 0) (s':=s.sL st) rfl rfl Nc;have ZI:cb≠nb:=fun e=>by have:=dU.s.has nb (GD nb g3.row.1);have:=ym.1.1;omega
    have iJ:=fG.fF (F':=fun k=>((k=nb∨G k)∨made rR w2 k)∨made vZ w3 k) c5 (fun k ae=>.inl (.inl (.inl ae))) fun k ae=>.inl ae
    skip
    have hz5:=c5.size;have hz4:=jh.kp.size;have hz3:=c3.size;have Ic:=c2.size;refine iJ.fin fun CN bt=>⟨rfl,fun e=>absurd rfl e,fun _=>⟨rfl,hd,fun k=>N3 k∨made sB w4 k,G2,sb,kb,pb,cb,A,T,fun k ae=>.inl (ZH k ae),fun k ae=>?_,hGw CN (by have:=bt.size;omega),?_,?_,?_,?_⟩⟩
    ·have:=bt.size;rcases ae with ae|ae
     ·exact(yl k ae).imp id fun hm=>⟨by have:=hm.1;omega,by have:=hm.2;omega⟩
     ·exact .inr ⟨by have:=ae.1;omega,by have:=ae.2;omega⟩
    ·exact g5.kp (fun k ae=>c5.sub k (UU k ae)) (fun k ae=>c5.sub k (Rw k ae)) bt
    ·have ZJ: ∀k,T k→X4 k:=fun k ae=>UU k (.inl (KB k ae).1);refine t4.mv (fun k ae=>fG.s.has k (ZJ k ae)) fun k ae _=>⟨ae,?_⟩;rw [bt.block k (c5.sub k (ZJ k ae)),c5.block k (ZJ k ae) fun e=>(KB k ae).2 (by rw [e];exact h.row.1)]
    ·exact fun k ae=>⟨.inl (KB k ae).1,fun e=>(KB k ae).2 (by rw [e];exact h.row.1),fun e=>(KB k ae).2 (by rw [e];exact h.rV.x.1),fun e=>by have:=dU.s.has k (GD k (KB k ae).1);have:=ym.1.1;omega⟩
    ·refine⟨.inr ym.1,?_⟩;rw [bt.block cb (c5.sub _ (nF _ ym.1)),c5.block cb (nF _ ym.1) ZI];exact ym.2
   ·repeat' first|refine bY ?_;intros
    refine dz.fin fun CN bt=>⟨rfl,fun _=>⟨G2,kp.1.L,kp.1.m,hGw CN bt.size,g2.kp (fun k ae=>(pr k ae).1) GC bt⟩,fun e=>absurd e he⟩
  ·repeat' first|refine bY ?_;intros
   exact en.fin fun wa bt=>by have h9:=iz (by simp [jy,Db,hd]) wa bt;rw [Db] at h9;exact h9
end
section
variable {w : World} {X N G S A : XS} {nb lb db mb n c cb sb kb pb : Nat} {gW gB : Value} {s : lu} {L : LM} {m : DM}
theorem Jk {st:State} {vh vp:Value} (h:bq w X nb (kh lb mb gW gB s) pW) (hb:s.born=true) (o1:aX.one vh=true) (o2:aX.one vp=true):Ct pg 20 #[ptr nb 0,st.v vh vp] w X nX fun v _ _=>v=I 14:=by
 intro w0 hk;have bK:=h.mv hk.cO;unfold kh at bK;rw [hb] at bK;have ZK:Ct pg 43 #[ptr nb 0,st.v vh vp] w0 (aS w0) nX fun v _ _=>v=I 14:=by
  intro w0 hk;replace bK:=bK.mv hk.cO;apply tR;unfold oF;have hs:=ak.init w0;repeat' first|refine aN ?_;intros|((first|(with_reducible refine aj hs ?_)|(with_reducible refine aj (bL.trans hs) ?_));intro wa hk;rfl)
 refine tS (fun g hg=>?_) (fun ch w hh=>by obtain⟨v,he,_⟩:=hh;cases he) ?_
 ·have e:mg Tryz.f20=some 57:=by kernel_rfl
  rw [e] at hg;cases hg;exact CZ
 unfold lf;have hs:=ak.init w0;repeat' first|refine aN ?_;intros
 refine dZ ZK kQ hs.has fun w1 X1 ax=>?_;replace hs:=hs.trans ax;repeat' first|refine aN ?_;intros|((first|(with_reducible refine aj hs ?_)|(with_reducible refine aj (bL.trans hs) ?_));intro wa hk;rfl)
theorem BE {st:State} {vh vp:Value} (h:iv w N G nb lb db mb (.pointer none) (.pointer none) s L m) (hN:FX N X w) (hG:FX G X w) (hb:s.born=false) (ez:GL n ⟨L,m⟩) (hn:n≤900) (h1:gb w S vh st.dM) (h2:ga w S vp st.dh)
  (hS: ∀k,S k→X k∧k<w.heap.size∧k≠nb∧ ¬G k) (gp:st.small) (FR:(fw (jK st)).length≤2^33) (BD:1≤s.id∧s.id≤12):
  Ct pg 20 #[ptr nb 0,st.v vh vp] w X (fun k=>k=nb∨G k) fun v wa w'=>v=I (jy ⟨L,m⟩ s st)∧
   (jy ⟨L,m⟩ s st≠0→ ∃G' L' m',(∀k,G' k→G k∨made wa w' k)∧iv w' N G' nb lb db mb (.pointer none) (.pointer none) s L' m')∧
   (jy ⟨L,m⟩ s st=0→st.may=true∧st.range.id=s.id∧ ∃N' G' sb kb pb cb A T,(∀k,N k→N' k)∧(∀k,N' k→N k∨made wa w' k)∧(∀k,G' k→G k∨made wa w' k)∧
    mV w' N' G' nb lb db mb (s.sL st) (iO ⟨L,m⟩ st).1.L (iO ⟨L,m⟩ st).1.m (iA st.dM) (kI st.dh) .zero ⟨st.floor.wall,st.floor.cZ,s.id⟩ sb kb pb cb A T):=by
 intro w0 hk;have hF:FX (fun k=>k=nb∨G k) X w:=fun k ae=>ae.elim (fun e=>by subst e;exact hN _ h.row.1) (hG k);have hT:=hF.ft hk;replace h:=h.kp (fun k ae=>(hN k ae).1) (fun k ae=>(hG k ae).1) hk;have fU:=hN.kp hk;have jU:=hG.kp hk;replace h1:=h1.mv (hk.fW fun k ae=>(hS k ae).1);replace h2:=h2.mv (hk.fW fun k ae=>(hS k ae).1);have FQ: ∀k,S k→out (fun k=>k=nb∨G k) w0 k∧ ¬G k:=fun k ae=>⟨⟨aA (hS k ae).2.1 hk.size,fun h=>h.elim (hS k ae).2.2.1 (hS k ae).2.2.2⟩,(hS k ae).2.2.2⟩;have ZA:=eE.one h1;have ZC:=eE.one h2;have bK:=(h.row.mono fun k ae=>(fU k ae).1);unfold kh at bK;rw [hb] at bK;refine tS (fun g hg=>?_) (fun ch w hh=>by obtain⟨v,he,_⟩:=hh;cases he) ?_
 ·have e:mg Tryz.f20=some 57:=by kernel_rfl
  rw [e] at hg;cases hg;exact CZ
 unfold lf;repeat' first|refine aN ?_;intros
 refine hT.call (K8 (st:=st) h fU jU hb ez hn h1 h2 (fun k ae=>⟨(FQ k ae).1.1,(FQ k ae).2⟩) gp FR BD) kQ (fun _ h=>h) fun v yf w1 X1 hq lz jg en c1=>?_;obtain⟨rfl,q1,q2⟩:=hq;repeat' first|refine aN ?_;intros
 refine en.fin fun wa bt=>⟨rfl,fun e=>?_,fun e=>?_⟩
 ·obtain⟨G',L',m',hG',jE⟩:=q1 e;refine⟨G',L',m',fun k ae=>(hG' k ae).imp id fun hm=>⟨af lz hm.1,aA hm.2 bt.size⟩,jE.kp (fun k ae=>c1.sub k (fU k ae).1) (fun k ae=>?_) bt⟩;exact(hG' k ae).elim (fun hg=>c1.sub k (jU k hg).1) (jg k)
 ·obtain⟨a1,a2,N',G',sb,kb,pb,cb,A,T,b1,b2,b3,hB⟩:=q2 e;have WO: ∀k,made w0 w1 k→made w0 wa k:=fun k hm=>⟨hm.1,aA hm.2 bt.size⟩;have Tn: ∀k,made yf w1 k→made w0 wa k:=fun k hm=>⟨af lz hm.1,aA hm.2 bt.size⟩;have zz: ∀k,N' k→X1 k:=fun k ae=>(b2 k ae).elim (fun hg=>c1.sub k (fU k hg).1) (jg k);have KC: ∀k,G' k→X1 k:=fun k ae=>(b3 k ae).elim (fun hg=>c1.sub k (jU k hg).1) (jg k);refine⟨a1,a2,N',G',sb,kb,pb,cb,A,T,b1,fun k ae=>(b2 k ae).imp id (Tn k),fun k ae=>(b3 k ae).imp id (Tn k),hB.n.kp zz KC bt,?_,hB.tn,hB.c.mv (bt.fW zz)⟩;exact hB.t.mv (fun k ae=>en.s.has k (zz k (hB.tn k ae).1)) (bt.fW fun k ae=>zz k (hB.tn k ae).1)
theorem K9 {fP:Int} {g:fq} {vk vs vw vp vr vc vh vd:Value} (h:bq w X nb (kh lb mb gW gB s) pW) (hb:s.born=false) (hm:g.at w X vk vs vw vp vr vc vh vd) (gp:g.small) (HQ:g.lens≤2^62) (adQ:g.kind≠10):
  Ct pg 9 #[ptr nb 0,I fP,g.v vk vs vw vp vr vc vh vd] w X nX fun v _ _=>v= .tuple #[di,I 0]:=by
 intro w0 hk;have bK:=h.mv hk.cO;replace hm:=hm.mv hk.cO;unfold kh at bK;rw [hb] at bK;refine vf (fun g hg=>?_) (fun ch w hh=>by obtain⟨v,he,_⟩:=hh;cases he) ?_
 ·have e:mg Tryz.f9=some 33:=by kernel_rfl
  rw [e] at hg;cases hg;exact FU
 unfold lI;have hs:=ak.init w0;repeat' first|refine aN ?_;intros
 refine dZ (FW hm gp HQ) kQ hs.has fun w1 X1 ax=>?_;replace hs:=hs.trans ax;generalize g.err=ee;repeat' first|refine aN ?_;intros|refine du ?_ ?_<;>intros|with_reducible apply dg|((first|(with_reducible refine aj hs ?_)|(with_reducible refine aj (bL.trans hs) ?_));intro wa hk;rfl)|(exfalso;omega)
end
def sP (st:bH):Rec:=⟨5,.zero,st,.zero,false,0,0,[],[],[],[],.zero⟩
theorem UW {st:bH} (h:st.may=true):(sP st).eX=0∧(fw (sP st)).length≤900:=by
 have e1:=ef 5;have e2:=ny st;have e3:fw (sP st)=encI 5++lh st:=by simp [fw,sP]
 have e4:(sP st).err=0:=by
  simp [Rec.err,sP,Rec.strip,Rec.isZero,Rec.nG,State.isZero,State.zero,h]
 have e5:(fw (sP st)).length≤900:=by rw [e3,List.length_append];omega
 refine⟨?_,e5⟩;unfold Rec.eX;rw [if_neg (by simp [e4]),if_neg zQ]
section
variable {w w' wa : World} {X X' N G G' S A T : XS} {nb lb db mb n c cb sb kb pb : Nat} {s s' : lu} {L L' : LM} {m m' : DM} {hm : List (BA × List fJ)} {pm : List (dB × cx)} {low ck QA : bH}
theorem mV.kp (h:mV w N G nb lb db mb s L m hm pm low ck sb kb pb cb A T) (hN:FX N X w) (hG: ∀k,G k→X k) (hk:Kp X w wa):mV wa N G nb lb db mb s L m hm pm low ck sb kb pb cb A T:=
 ⟨h.n.kp (fun k ae=>(hN k ae).1) hG hk,h.t.mv (fun k ae=>(hN k (h.tn k ae).1).2) (hk.fW fun k ae=>(hN k (h.tn k ae).1).1),h.tn,h.c.mv (hk.fW fun k ae=>(hN k ae).1)⟩
theorem mV.since (h:mV w N G nb lb db mb s L m hm pm low ck sb kb pb cb A T) (hN:FX N X w) (hG: ∀k,G k→X k) (hs:ak X w X' w'):mV w' N G nb lb db mb s L m hm pm low ck sb kb pb cb A T:=
 ⟨h.n.since (fun k ae=>(hN k ae).1) hG hs,h.t.mv (fun k ae=>(hN k (h.tn k ae).1).2) (hs.lr fun k ae=>(hN k (h.tn k ae).1).1),h.tn,h.c.mv (hs.lr fun k ae=>(hN k ae).1)⟩
theorem mV.next {F:XS} (h:mV w N G nb lb db mb s L m hm pm low ck sb kb pb cb A T) (hN:FX N X w) (c:fb F X w X' w') (hF: ∀k,F k→k=nb∨G k∨k=cb) (hn:iv w' N G' nb lb db mb (ptr sb 0) (ptr cb 0) s' L' m') (hc:bq w' N cb (rF QA) sG):
  mV w' N G' nb lb db mb s' L' m' hm pm low QA sb kb pb cb A T:=
 ⟨hn,h.t.mv (fun k ae=>(hN k (h.tn k ae).1).2) (c.fW fun k ae=>⟨(hN k (h.tn k ae).1).1,fun hf=>by
  obtain⟨a1,a2,a3,a4⟩:=h.tn k ae;rcases hF k hf with e|e|e
  ·exact a2 e
  ·exact h.n.dj k a1 e
  ·exact a4 e⟩),h.tn,hc⟩
theorem La {fP:Int} {st:bH} (h:mV w N G nb lb db mb s L m hm [] low ck sb kb pb cb A T) (hN:FX N X w) (hG:FX G X w) (hb:s.born=true) (hl:ck.cZ<2^60) (rT: -(2^60)<ck.cZ) (hp:ck.CQ fP=(st,0)) (fv:st.may=true)
  (hf:me c ⟨L,m⟩) (hc:c+(if s.ceil≥st.wall then 0 else 1)≤3):
  Ct pg 10 #[ptr nb 0,I fP] w X (fun k=>k=nb∨G k∨k=cb) fun v wa w'=>v= .tuple #[di,I 0]∧ ∃G' L' m' c',(∀k,G' k→G k∨made wa w' k)∧c'≤c+(if s.ceil≥st.wall then 0 else 1)+1∧me c' ⟨L',m'⟩∧
   mV w' N G' nb lb db mb { s.reach st.wall with closed:=st } L' m' hm [] low st sb kb pb cb A T:=by
 intro w0 hk;have hF:FX (fun k=>k=nb∨G k∨k=cb) X w:=fun k ae=>ae.elim (fun e=>by subst e;exact hN _ h.n.row.1) fun h1=>h1.elim (hG k) fun e=>by subst e;exact hN _ h.c.1
 have hT:=hF.ft hk;replace h:=h.kp hN (fun k ae=>(hG k ae).1) hk;have fU:=hN.kp hk;have jU:=hG.kp hk;have bK:=(h.n.row.mono fun k ae=>(fU k ae).1);unfold kh at bK;rw [hb] at bK;refine u9 (fun g hg=>?_) (fun ch w hh=>by obtain⟨v,he,_⟩:=hh;cases he) ?_
 ·have e:mg Tryz.f10=some 44:=by kernel_rfl
  rw [e] at hg;cases hg;exact FV
 unfold lH;have hs:=ak.init w0;repeat' first|refine aN ?_;intros
 refine iF (Q:=fun K=> ∀w3 X3 G3 L3 m3 c3,Ft w0 (fun k=>k=nb∨G k∨k=cb) w3 X3 (fun k=>k=nb∨G3 k∨k=cb)→(∀k,G3 k→G k∨w0.heap.size≤k)→(∀k,G3 k→X3 k)→(∀k,N k→X3 k)→c3≤c+(if s.ceil≥st.wall then 0 else 1)+1→me c3 ⟨L3,m3⟩→
   mV w3 N G3 nb lb db mb { s.reach st.wall with closed:=st } L3 m3 hm [] low st sb kb pb cb A T→K w3 X3) ?_ fun K hK=>?_
 ·intro w3 X3 G3 L3 m3 c3 dU hGv KC zz sK WQ h3;have yl:FX N X3 w3:=fun k ae=>⟨zz k ae,dU.s.has k (zz k ae)⟩;have ED:=h3.n.row.mono zz;have hkn:Sl w3 X3 13 di (([]:List (List Value)).map id):=Sl.nil _ _ _;clear hs bK;have hs:=ak.fC dU.s.has;repeat' first|refine aN ?_;intros
  refine fS (fun n a b w X=>a=I 0∧b= .agg #[di]∧ak X3 w3 X w) 0 ⟨rfl,rfl,hs⟩ ?_;clear hs;rintro n a b w X ⟨rfl,rfl,hs⟩;repeat' first|refine aN ?_;intros|refine du ?_ ?_<;>intros|with_reducible apply dg|(exfalso;simp only [bA] at*;omega)
  refine dW (zq (h3.t.mv (fun k ae=>(yl k (h3.tn k ae).1).2) (Y:=X) fun k ae _=>⟨hs.sub k (yl k (h3.tn k ae).1).1,hs.kp.block k (yl k (h3.tn k ae).1).1⟩) hs.has (by simp) (by simp)) kQ hs.has ?_;rintro v sB w4 X4 ⟨xs,ho,hx,ZL,-⟩ vI nF jh;have hx0:xs=[]:=by
   have:=ZL.length_eq;simpa using this
  subst hx0;have Qs:=(ho.mono nF).sl;replace hs:=hs.trans jh;have Ng:=hs;clear hs;have hs:=ak.fC Ng.has;have ov:=Qs.one;repeat' first|refine aN ?_;intros
  refine fS (fun n a b w X=>a=I 0∧b= .agg #[di]∧ak X4 w4 X w) 0 ⟨rfl,rfl,hs⟩ ?_;clear hs;rintro n a b w X ⟨rfl,rfl,hs⟩;repeat' first|refine bY ?_;intros
  have iJ:=dU.since (Ng.trans hs);refine iJ.fin fun wa bt=>⟨rfl,G3,L3,m3,c3,fun k ae=>(hGv k ae).imp id fun ec=>⟨ec,?_⟩,sK,WQ,?_⟩
  ·exact aA (dU.s.has k (KC k ae)) (af (Ng.trans hs).kp.size bt.size)
  ·have vQ:=Ng.trans hs;exact(h3.since yl KC vQ).kp (X:=X) (fun k ae=>⟨vQ.sub k (zz k ae),vQ.has k (vQ.sub k (zz k ae))⟩) (fun k ae=>vQ.sub k (KC k ae)) bt
 ·refine hT.call (BC h.n fU jU h.c hl rT hp fv hf (by split at hc<;>omega)) kQ (fun _ h=>h) fun v yf w1 X1 hq lz jg en c1=>?_;obtain⟨rfl,G1,L1,m1,cc1,lv,adR,KD,qh,wc⟩:=hq;have h1:=h.next fU c1 (fun _ h=>h) qh wc
  have gX:FX N X1 w1:=fun k ae=>⟨c1.sub k (fU k ae).1,c1.has k (c1.sub k (fU k ae).1)⟩;have xC: ∀k,G1 k→X1 k:=fun k ae=>(lv k ae).elim (fun hg=>c1.sub k (jU k hg).1) (jg k);have Rv:FX G1 X1 w1:=fun k ae=>⟨xC k ae,c1.has k (xC k ae)⟩;have sJ:=h1.n.row.mono fun k ae=>(gX k ae).1;clear hs bK;have hs:=ak.fC en.s.has;repeat' first|refine bY ?_;intros
  obtain⟨q1,q2⟩:=UW fv;refine dg ?_;repeat' first|refine aN ?_;intros
  refine en.call (qJ (r:=sP st) (n:=cc1+1) (S:=nX) qh (fun k ae=>(gX k ae).1) Rv KD.gl zQ (Qz rfl rfl rfl rfl rfl) (fun k ae=>ae.elim) (Ia rfl rfl rfl) zQ) kQ (fun k ae=>(lv k ae).elim (fun hg=>.inl (.inr (.inl hg))) .inr) fun v rR w2 X2 hq mc mS dz c2=>?_;obtain⟨rfl,G2,pq,zy⟩:=hq;have js:=KD.iY (p:=fw (sP st)) zQ q2;have e0:(sP st).eX.toNat=0:=by rw [q1];rfl
  rw [e0] at zy⊢;rw [js.1];generalize LD.iY ⟨L1,m1⟩ 0 (fw (sP st))=kp at zy js⊢;have Bt:=qh.next (fun k ae=>(gX k ae).1) en.s.has c2 mc pq zy
  have pr:FX N X2 w2:=fun k ae=>⟨c2.sub k (gX k ae).1,c2.has k (c2.sub k (gX k ae).1)⟩;have GC: ∀k,G2 k→X2 k:=fun k ae=>(pq k ae).elim (fun hg=>c2.sub k (xC k hg)) (mS k);have Nb:bq w2 N cb (rF st) sG:=⟨wc.1,by rw [c2.block cb (gX _ wc.1).1 fun hg=>qh.dj cb wc.1 hg];exact wc.2⟩;have h2:=h1.next gX c2 (fun k ae=>.inr (.inl ae)) Bt Nb
  have qK:=Bt.row.mono fun k ae=>(pr k ae).1;clear hs sJ;have hs:=ak.fC dz.s.has;repeat' first|refine bY ?_;intros
  refine yh (o:=14) qK zQ kQ (by simp) rfl rfl dz.s.has fun w3 X3 c3 ql=>?_;have we:=Bt.put (fun k ae=>(pr k ae).1) GC c3 (Jf:=ptr sb 0) (Jg:=ptr cb 0) (s':= { s.reach st.wall with closed:=st }) rfl rfl ql;have Tl:bq w3 N cb (rF st) sG:=⟨wc.1,by rw [c3.block cb (pr _ wc.1).1 fun e=>Nb.dX Bt.row kQ e];exact Nb.2⟩;have h3:=h2.next pr c3 (fun k ae=>.inl ae) we Tl
  have hv2: ∀k,G2 k→G k∨w0.heap.size≤k:=fun k ae=>(pq k ae).elim (fun hg=>(lv k hg).imp id fun hm=>af (Nat.le_refl _) hm.1|>fun h9=>af lz h9) fun hm=>.inr (af en.s.kp.size (af mc hm.1))
  refine hK _ _ G2 kp.1.L kp.1.m (cc1+1) ?_ hv2 (fun k ae=>c3.sub k (GC k ae)) (fun k ae=>c3.sub k (pr k ae).1) zQ js.2 h3;refine(dz.fF (F':=fun k=>((k=nb∨G k∨k=cb)∨made yf w1 k)∨made rR w2 k) c3 (fun k ae=>.inl (.inl (.inl ae))) fun k ae=>.inl ae).less fun k ae=>?_;rcases ae with e|e|e
  ·exact .inl (.inl (.inl e))
  ·rcases pq k e with e|e
   ·exact(lv k e).elim (fun e=>.inl (.inl (.inr (.inl e)))) fun e=>.inl (.inr e)
   ·exact .inr e
  ·exact .inl (.inl (.inr (.inr e)))
end
section
variable {w : World} {X N G S A T : XS} {nb lb db mb n c cb sb kb pb : Nat} {gW gB : Value} {s : lu} {L : LM} {m : DM} {hm : List (BA × List fJ)} {pm : List (dB × cx)} {low ck : bH}
theorem Nh {t:bH} (h:mV w N G nb lb db mb s L m hm pm low ck sb kb pb cb A T) (hN:FX N X w) (hG:FX G X w) (ht:t.may=true) (hf:me c ⟨L,m⟩) (hc:c≤3):
  Ct pg 92 #[ptr nb 0,t.v] w X (fun k=>k=nb∨G k∨k=cb) fun v wa w'=>v=I 0∧ ∃G' L' m' c',(∀k,G' k→G k∨made wa w' k)∧c'≤c+(if s.ceil≥t.wall then 0 else 1)∧me c' ⟨L',m'⟩∧
   mV w' N G' nb lb db mb (s.reach t.wall) L' m' hm pm low (ck.later ⟨t.wall,t.cZ,ck.node⟩) sb kb pb cb A T:=by
 intro w0 hk;have hF:FX (fun k=>k=nb∨G k∨k=cb) X w:=fun k ae=>ae.elim (fun e=>by subst e;exact hN _ h.n.row.1) fun h1=>h1.elim (hG k) fun e=>by subst e;exact hN _ h.c.1
 have hT:=hF.ft hk;replace h:=h.kp hN (fun k ae=>(hG k ae).1) hk;have fU:=hN.kp hk;have jU:=hG.kp hk;have hm:=bH.zw.1 ht;apply Dc;unfold vg;refine hT.call (BB (wl:=t.wall) h.n fU jU hf hc ⟨hm.1,hm.2.1⟩) kQ (fun k ae=>ae.imp id .inl) fun v yf w1 X1 hq lz jg en c1=>?_;obtain⟨rfl,G1,L1,m1,cc,lv,sK,KD,qh⟩:=hq;have gX:FX N X1 w1:=fun k ae=>⟨c1.sub k (fU k ae).1,c1.has k (c1.sub k (fU k ae).1)⟩;have xC: ∀k,G1 k→X1 k:=fun k ae=>(lv k ae).elim (fun hg=>c1.sub k (jU k hg).1) (jg k);have oN: ¬(cb=nb∨G cb):=fun e=>e.elim (fun e=>h.c.dX h.n.row kQ e) fun e=>h.n.dj cb h.c.1 e;have wc:bq w1 N cb (rF ck) sG:=⟨h.c.1,by rw [c1.block cb (fU _ h.c.1).1 oN];exact h.c.2⟩;have h1:=h.next fU c1 (fun k ae=>ae.imp id .inl) qh wc
 have sJ:=qh.row.mono fun k ae=>(gX k ae).1;have acE:=wc.mono fun k ae=>(gX k ae).1;have hs:=ak.fC en.s.has;repeat' first|refine bY ?_;intros|with_reducible apply dg
 refine en.call (K3 acE ht) kQ (fun k ae=>.inl (.inr (.inr ae))) fun v rR w2 X2 hq mc mS dz c2=>?_;obtain⟨rfl,Nb⟩:=hq;have acF:bq w2 N cb (rF (ck.later ⟨t.wall,t.cZ,ck.node⟩)) sG:=⟨wc.1,Nb.2⟩;have Bt:iv w2 N G1 nb lb db mb (ptr sb 0) (ptr cb 0) (s.reach t.wall) L1 m1:=by
  have hd:=qh.dj;refine⟨?_,?_,qh.log.mv (c2.fW fun k ae=>⟨xC k ae,fun e=>hd k (by rw [e];exact wc.1) ae⟩),hd,qh.o1,qh.o2⟩
  ·exact⟨qh.row.1,by rw [c2.block nb (gX _ qh.row.1).1 fun e=>wc.dX qh.row kQ e.symm];exact qh.row.2⟩
  ·exact qh.rV.own.mv sI (fun k ae _=>by subst ae;exact⟨qh.rV.x.1,c2.block _ (gX _ qh.rV.x.1).1 fun e=>qh.rV.dX wc e⟩) fun _ h=>h.elim
 have h2:=h1.next gX c2 (fun k ae=>.inr (.inr ae)) Bt acF
 have pr:FX N X2 w2:=fun k ae=>⟨c2.sub k (gX k ae).1,c2.has k (c2.sub k (gX k ae).1)⟩
 skip
 refine dz.fin fun wa bt=>⟨rfl,G1,L1,m1,cc,fun k ae=>?_,sK,KD,h2.kp pr (fun k ae=>c2.sub k (xC k ae)) bt⟩;exact(lv k ae).imp id fun hm=>⟨by have:=hm.1;omega,aA hm.2 (af c2.size bt.size)⟩
def lJ (g:fq) (st:bH):Rec:=⟨3,g.dq,st,.zero,false,0,0,[],g.writes,g.parts,[],.zero⟩
theorem Lb {fP:Int} {g:fq} {st:bH} {vk vw vp vr vc vh vd:Value} (h:mV w N G nb lb db mb s L m [] [] low ck sb kb pb cb A T) (hN:FX N X w) (hG:FX G X w) (hg:g.at w S vk di vw vp vr vc vh vd) (hS: ∀k,S k→X k∧ ¬N k∧ ¬G k)
  (hep:g.gw=s.yi.gw) (xd:g.bb.may=true) (hsn:g.seen=[]) (hwr: ∀x∈g.writes,s.yi.key x.key=true) (vW: ∀x∈g.writes,x.key.size≤2^40) (hwl:g.writes.length≤2^40) (Dd:s.ceil≥g.bb.wall)
  (hl:(ck.later ⟨g.bb.wall,g.bb.cZ,ck.node⟩).cZ<2^60) (rT: -(2^60)<(ck.later ⟨g.bb.wall,g.bb.cZ,ck.node⟩).cZ) (hp:(ck.later ⟨g.bb.wall,g.bb.cZ,ck.node⟩).CQ fP=(st,0)) (fv:st.may=true) (ZM:s.ceil≥st.wall)
  (he:(⟨g.dq,st,[],g.writes⟩:cx).err=0) (hlw:st.cmp low>0) (hz:bH.zero.cmp st<0) (hre:(lJ g st).eX=0) (QB:(fw (lJ g st)).length≤900) (hf:me c ⟨L,m⟩) (hc:c≤3):
  Ct pg 90 #[ptr nb 0,I fP,g.v vk di vw vp vr vc vh vd] w X (fun k=>k=nb∨G k∨k=cb∨k=pb) fun v wa w'=>v= .tuple #[st.v,I 0]∧ ∃G' L' m',(∀k,G' k→G k∨made wa w' k)∧
   iv w' N G' nb lb db mb (ptr sb 0) (ptr cb 0) s L' m':=by
 obtain⟨xw,nw,cw,rfl⟩:=hg.writes.form;obtain⟨xp,np,cp,rfl⟩:=hg.parts.form;intro w0 hk;have hF:FX (fun k=>k=nb∨G k∨k=cb∨k=pb) X w:=fun k ae=>by
  rcases ae with e|e|e|e
  ·subst e;exact hN _ h.n.row.1
  ·exact hG k e
  ·subst e;exact hN _ h.c.1
  ·subst e;exact hN _ (h.tn _ h.t.dh.x.1).1
 have hT:=hF.ft hk;have hSk: ∀k,S k→out (fun k=>k=nb∨G k∨k=cb∨k=pb) w0 k∨w.heap.size≤k:=fun k ae=>by
  by_cases h9:k<w.heap.size
  ·refine .inl ⟨aA h9 hk.size,fun e=>?_⟩;obtain⟨_,a2,a3⟩:=hS k ae;rcases e with e|e|e|e
   ·exact a2 (e▸h.n.row.1)
   ·exact a3 e
   ·exact a2 (e▸h.c.1)
   ·exact a2 (e▸(h.tn _ h.t.dh.x.1).1)
  ·exact .inr (Nat.le_of_not_lt h9)
 have CU:g.at w0 (out (fun k=>k=nb∨G k∨k=cb∨k=pb) w0) vk di (.slice xw nw cw) (.slice xp np cp) vr vc vh vd:=hg.mv fun k ae rT=>⟨(hSk k ae).resolve_right zQ,hk.block k (hS k ae).1⟩;replace h:=h.kp hN (fun k ae=>(hG k ae).1) hk;have fU:=hN.kp hk;have jU:=hG.kp hk;have bK:=(h.n.row.mono fun k ae=>(fU k ae).1);have ow:=CU.writes.one;have op:=CU.parts.one;apply De;unfold vi;have hs:=ak.init w0;repeat' first|refine bY ?_;intros
 refine hT.call (Nh h fU jU xd hf hc) kQ (fun k ae=>by rcases ae with e|e|e<;>simp [e]) fun v yf w1 X1 hq lz jg en c1=>?_
 obtain⟨rfl,G1,L1,m1,cc,lv,sK,KD,h1⟩:=hq;rw [if_pos Dd] at sK;have es:s.reach g.bb.wall=s:=by unfold lu.reach;rw [if_pos Dd]
 rw [es] at h1;obtain⟨ck2,QC⟩: ∃ck2,ck2=ck.later ⟨g.bb.wall,g.bb.cZ,ck.node⟩:=⟨_,rfl⟩;rw [←QC] at h1 hl rT hp;clear QC es;have gX:FX N X1 w1:=fun k ae=>⟨c1.sub k (fU k ae).1,c1.has k (c1.sub k (fU k ae).1)⟩;have xC: ∀k,G1 k→X1 k:=fun k ae=>(lv k ae).elim (fun hg=>c1.sub k (jU k hg).1) (jg k);have CW:g.at w1 X1 vk di (.slice xw nw cw) (.slice xp np cp) vr vc vh vd:=CU.mv en.s.mv;have acG:=CW.seen;rw [hsn] at acG;have adS:=CW.writes;clear hs bK;have hs:=ak.fC en.s.has;repeat' first|refine bY ?_;intros
 refine Df (fun n a b d w X=>a=I 0∧b=(⟨g.dq,.zero,[],g.writes⟩:cx).v di (.slice xw nw cw)∧d=bH.zero.v∧ak X1 w1 X w) 0 ⟨rfl,rfl,rfl,hs⟩ ?_;clear hs;rintro n a b d w X ⟨rfl,rfl,rfl,hs⟩;repeat' first|refine aN ?_;intros|refine du ?_ ?_<;>intros|(exfalso;simp only [bA] at*;omega)
 refine fS (fun n a b w X=> ∃i:Nat,a=I i∧n=g.writes.length-i∧i≤g.writes.length∧b=bH.zero.v∧ak X1 w1 X w) g.writes.length ⟨0,rfl,rfl,aP _,rfl,hs⟩ ?_;clear hs;rintro n a b w X ⟨i,rfl,rfl,hi,rfl,hs⟩;rcases eG (g.writes) i with⟨dA,y,hy,hd⟩|⟨ec,hd⟩
 ·repeat' first|refine bY ?_;intros
  have hym:=cC hy;refine dZ (Ru (k:=y.key) (h1.n.since (fun k ae=>(gX k ae).1) xC hs) (fun k ae=>hs.sub k (gX k ae).1) (by have:=vW y hym;omega)) kQ hs.has fun w2 X2 dJ=>?_;replace hs:=hs.trans dJ;rw [hwr y hym];repeat' first|refine aN ?_;intros|((with_reducible refine fT ((g.writes).length-(i+1)) ?_ ?_);omega;exact⟨i+1,by simp,rfl,by omega,rfl,hs⟩)
 ·have h2:=h1.since gX xC hs;have dz:=en.since hs;have pr:FX N X w:=fun k ae=>⟨hs.sub k (gX k ae).1,hs.has k (hs.sub k (gX k ae).1)⟩;have GB:FX G1 X w:=fun k ae=>⟨hs.sub k (xC k ae),hs.has k (hs.sub k (xC k ae))⟩;repeat' first|refine bY ?_;intros
  refine dz.call (BC h2.n pr GB h2.c hl rT hp fv KD zQ) kQ (fun k ae=>?_) fun v vZ w3 X3 hq sF rE dU c3=>?_
  ·rcases ae with e|e|e
   ·exact .inl (.inl e)
   ·exact(lv k e).elim (fun e=>.inl (.inr (.inl e))) .inr
   ·exact .inl (.inr (.inr (.inl e)))
  obtain⟨rfl,G3,L3,m3,c3c,Tk,UX,WQ,we,Tl⟩:=hq;rw [if_pos ZM] at UX;have es:s.reach st.wall=s:=by unfold lu.reach;rw [if_pos ZM]
  rw [es] at we;have h3:=h2.next pr c3 (fun _ h=>h) we Tl
  have yl:FX N X3 w3:=fun k ae=>⟨c3.sub k (pr k ae).1,c3.has k (c3.sub k (pr k ae).1)⟩;have ZN: ∀k,G3 k→X3 k:=fun k ae=>(Tk k ae).elim (fun hg=>c3.sub k (GB k hg).1) (rE k);have WK:g.at w3 X3 vk di (.slice xw nw cw) (.slice xp np cp) vr vc vh vd:=CU.mv dU.s.mv;have ED:=h3.n.row.mono fun k ae=>(yl k ae).1;have htX: ∀k,T k→X3 k∧k<w3.heap.size:=fun k ae=>yl k (h3.tn k ae).1;clear hs;have hs:=ak.fC dU.s.has;repeat' first|refine bY ?_;intros
  have t3:=h3.t.mv (fun k ae=>(htX k ae).2) (Mv.sub fun k ae=>(htX k ae).1);refine dU.call (HU (p:=⟨g.dq,st,[],g.writes⟩) t3 dU.s.has (Sl.nil _ _ _) WK.writes rfl hwl he hlw hz) kQ (fun k ae=>.inl (.inl (.inr (.inr (.inr ae))))) fun v sB w4 X4 hq vI nF fG c4=>?_;subst hq;obtain⟨ap,an1,an2,an3⟩:=h3.tn pb h3.t.dh.x.1;have QD:FX N X4 w4:=fun k ae=>⟨c4.sub k (yl k ae).1,c4.has k (c4.sub k (yl k ae).1)⟩;have ZO:iv w4 N G3 nb lb db mb (ptr sb 0) (ptr cb 0) s L3 m3:=by
   have hd:=we.dj;refine⟨⟨we.row.1,?_⟩,?_,we.log.mv (c4.fW fun k ae=>⟨ZN k ae,fun e=>hd k (by rw [e];exact ap) ae⟩),hd,we.o1,we.o2⟩
   ·rw [c4.block nb (yl _ we.row.1).1 fun e=>an1 e.symm];exact we.row.2
   ·exact we.rV.own.mv sI (fun k ae _=>by subst ae;exact⟨we.rV.x.1,c4.block _ (yl _ we.rV.x.1).1 fun e=>an2 e.symm⟩) fun _ h=>h.elim
  have ZP: ∀k,G3 k→X4 k:=fun k ae=>c4.sub k (ZN k ae);have Rw:FX G3 X4 w4:=fun k ae=>⟨ZP k ae,c4.has k (ZP k ae)⟩;have uV:=ZO.row.mono fun k ae=>(QD k ae).1;have ZQ: ∀k,G3 k→(((k=nb∨G k∨k=cb∨k=pb)∨made yf w1 k)∨made vZ w3 k)∨made sB w4 k:=fun k ae=>by
   rcases Tk k ae with e|e
   ·exact(lv k e).elim (fun e=>.inl (.inl (.inl (.inr (.inl e))))) fun e=>.inl (.inl (.inr e))
   ·exact .inl (.inr e)
  have hg4:g.at w4 (out (fun k=>k=nb∨G k∨k=cb∨k=pb) w0) vk di (.slice xw nw cw) (.slice xp np cp) vr vc vh vd:=CU.mv fun k ae _=>⟨ae,fG.s.kp.block k ae⟩;clear hs;have hs:=ak.fC fG.s.has;repeat' first|refine bY ?_;intros
  have gp:(lJ g st).small:=⟨by simp [lJ],hwl,by simp [lJ],vW,⟨by simp [lJ,State.zero,zu],by simp [lJ,State.zero,zv],by simp [lJ,State.zero,LN],by simp [lJ,State.zero,LO]⟩⟩;refine fG.call (qJ (r:=lJ g st) (n:=c3c+1) (S:=out (fun k=>k=nb∨G k∨k=cb∨k=pb) w0) ZO (fun k ae=>(QD k ae).1) Rw WQ.gl zQ ⟨Sl.nil _ _ _,hg4.writes,hg4.parts,Sl.nil _ _ _,eE.nil _ _ _,eE.nil _ _ _⟩ (fun k ae=>⟨fG.s.sub k ae,fun hf=>fG.no (ZQ k hf) ae⟩) gp zQ) kQ ZQ fun v To w5 X5 hq Jl Ni iJ c5=>?_;obtain⟨rfl,G5,Tp,ZR⟩:=hq;have js:=WQ.iY (p:=fw (lJ g st)) zQ QB;have e0:(lJ g st).eX.toNat=0:=by rw [hre];rfl
  rw [e0] at ZR⊢;rw [js.1];generalize LD.iY ⟨L3,m3⟩ 0 (fw (lJ g st))=kp at ZR js⊢;have hn5:=ZO.next (fun k ae=>(QD k ae).1) fG.s.has c5 Jl Tp ZR
  have ZS: ∀k,G5 k→((((k=nb∨G k∨k=cb∨k=pb)∨made yf w1 k)∨made vZ w3 k)∨made sB w4 k)∨made To w5 k:=fun k ae=>(Tp k ae).imp (ZQ k) id;clear hs;have hs:=ak.fC iJ.s.has;repeat' first|refine bY ?_;intros|with_reducible apply dg
  refine iJ.fin fun wa bt=>⟨rfl,G5,kp.1.L,kp.1.m,fun k ae=>?_,hn5.kp (fun k ae=>c5.sub k (QD k ae).1) (fun k ae=>iJ.bN k (ZS k ae)) bt⟩;have hz:k<wa.heap.size:=aA (iJ.s.has k (iJ.bN k (ZS k ae))) bt.size;rcases Tp k ae with e|e
  ·rcases Tk k e with e|e
   ·rcases lv k e with e|e
    ·exact .inl e
    ·exact .inr ⟨af lz e.1,hz⟩
   ·exact .inr ⟨af dz.s.kp.size (af sF e.1),hz⟩
  ·exact .inr ⟨af fG.s.kp.size (af Jl e.1),hz⟩
end
def acH (id:Int) (g:fq):fq:=⟨0,id,g.fr,g.dq,g.range,0,0,.zero,.zero,false,0,0,[],[],[],[],[],[],.zero⟩
def ZT (id:Int) (g:fq) (st:bH):fq:=⟨4,id,g.fr,g.dq,g.range,0,0,st,.zero,false,0,0,[],[],[],[],[],[],.zero⟩
abbrev fq.v0 (g:fq):Value:=g.v di di di di di di di di
structure UY (c:Nat) (s:lu) (g:fq) (ck low st:bH) (fP:Int) (L:LM) (m:DM):Prop where
 ep:g.gw=s.yi.gw
 gs:g.bb.may=true
 sn:g.seen=[]
 wr: ∀x∈g.writes,s.yi.key x.key=true
 ks: ∀x∈g.writes,x.key.size≤2^40
 wl:g.writes.length≤2^40
 cl:s.ceil≥g.bb.wall
 l1:(ck.later ⟨g.bb.wall,g.bb.cZ,ck.node⟩).cZ<2^60
 l2: -(2^60)<(ck.later ⟨g.bb.wall,g.bb.cZ,ck.node⟩).cZ
 p:(ck.later ⟨g.bb.wall,g.bb.cZ,ck.node⟩).CQ fP=(st,0)
 tm:st.may=true
 cl2:s.ceil≥st.wall
 e:(⟨g.dq,st,[],g.writes⟩:cx).err=0
 lw:st.cmp low>0
 z:bH.zero.cmp st<0
 re:(lJ g st).eX=0
 rl:(fw (lJ g st)).length≤900
 f:me c ⟨L,m⟩
 cc:c≤3
section
variable {w : World} {X N G S A T : XS} {nb lb db mb n c cb sb kb pb : Nat} {s : lu} {L : LM} {m : DM} {low ck : bH}
theorem GF {fP:Int} {g:fq} {st:bH} {vk vw vp vr vc vh vd:Value} (h:mV w N G nb lb db mb s L m [] [] low ck sb kb pb cb A T) (hN:FX N X w) (hG:FX G X w) (hg:g.at w S vk di vw vp vr vc vh vd) (hS: ∀k,S k→X k∧ ¬N k∧ ¬G k)
  (hq:UY c s g ck low st fP L m):
  Ct pg 37 #[ptr nb 0,(acH s.id g).v0,I fP,g.v vk di vw vp vr vc vh vd] w X (fun k=>k=nb∨G k∨k=cb∨k=pb) fun v wa w'=>v= .tuple #[(ZT s.id g st).v0,B true]∧ ∃G' L' m',(∀k,G' k→G k∨made wa w' k)∧
   iv w' N G' nb lb db mb (ptr sb 0) (ptr cb 0) s L' m':=by
 obtain⟨xk,nk,QA,rfl⟩:=hg.keys.form;obtain⟨xw,nw,cw,rfl⟩:=hg.writes.form;obtain⟨xp,np,cp,rfl⟩:=hg.parts.form;obtain⟨xr,nr,cr,rfl⟩:=hg.ranges.form;intro w0 hk;have hF:FX (fun k=>k=nb∨G k∨k=cb∨k=pb) X w:=fun k ae=>by
  rcases ae with e|e|e|e
  ·subst e;exact hN _ h.n.row.1
  ·exact hG k e
  ·subst e;exact hN _ h.c.1
  ·subst e;exact hN _ (h.tn _ h.t.dh.x.1).1
 have hT:=hF.ft hk;replace hg:g.at w0 (fun k=>S k∧k<w0.heap.size) (.slice xk nk QA) di (.slice xw nw cw) (.slice xp np cp) (.slice xr nr cr) vc vh vd:=hg.mv fun k ae rT=>⟨⟨ae,aA rT hk.size⟩,hk.block k (hS k ae).1⟩;replace h:=h.kp hN (fun k ae=>(hG k ae).1) hk;have fU:=hN.kp hk;have jU:=hG.kp hk;have bK:=(h.n.row.mono fun k ae=>(fU k ae).1);have KE:=hg.mv (w':=w0) (Y:=aS w0) fun k ae _=>⟨ae.2,rfl⟩;have oc:=KE.fE.one;have oh:=KE.dM.one;have od:=KE.dh.one;apply zA;unfold rY;have hs:=ak.init w0;refine iF (Q:=fun K=> ∀y w1 X1,ak (aS w0) w0 X1 w1→K y (B false) w1 X1) ?_ fun K hK=>?_
 ·intro y w1 X1 ax;have h1:=h.since fU (fun k ae=>(jU k ae).1) ax;have en:=hT.since ax;have gX:FX N X1 w1:=fun k ae=>⟨ax.sub k (fU k ae).1,ax.has k (ax.sub k (fU k ae).1)⟩;have lv:FX G X1 w1:=fun k ae=>⟨ax.sub k (jU k ae).1,ax.has k (ax.sub k (jU k ae).1)⟩;have sJ:=h1.n.row.mono fun k ae=>(gX k ae).1;have CW:=hg.mv (w':=w1) (Y:=fun k=>S k∧k<w0.heap.size) fun k ae _=>⟨ae,ax.kp.block k ae.2⟩;clear hs bK;have hs:=ak.fC en.s.has;repeat' first|refine aN ?_;intros
  refine Dg (kv:=fun k:dB=>k.v) (k:=g.dq) (kt:=42) (et:=3) (I 0) (h1.n.rV.mv sI (Mv.sub fun k ae=>(gX k ae).1) (A':=nX) fun _ h=>h.elim) wV kQ kQ (fun v x hg hv=>absurd hg (by simp [getM])) fun hg9=>?_;repeat' first|refine bY ?_;intros
  refine en.call (Lb (S:=fun k=>S k∧k<w0.heap.size) h1 gX lv CW (fun k ae=>⟨ax.sub k ae.2,(hS k ae.1).2⟩) hq.ep hq.gs hq.sn hq.wr hq.ks hq.wl hq.cl hq.l1 hq.l2 hq.p hq.tm hq.cl2 hq.e hq.lw hq.z hq.re hq.rl hq.f hq.cc) kQ (fun _ h=>h) fun v rR w2 X2 Nj mc mS dz c2=>?_;obtain⟨rfl,G2,L2,m2,pq,Bt⟩:=Nj;repeat' first|refine bY ?_;intros|with_reducible apply dg
  have Rx: ∀k,G2 k→(k=nb∨G k∨k=cb∨k=pb)∨made rR w2 k:=fun k ae=>(pq k ae).imp (fun e=>.inr (.inl e)) id;refine dz.fin fun wa bt=>⟨rfl,G2,L2,m2,fun k ae=>(pq k ae).imp id fun e=>⟨af ax.kp.size (af mc e.1),aA e.2 bt.size⟩,Bt.kp (fun k ae=>c2.sub k (gX k ae).1) (fun k ae=>dz.bN k (Rx k ae)) bt⟩
 ·repeat' first|refine aN ?_;intros
  repeat' apply And.intro
  all_goals
   skip
   refine dW (PI (t:=g.dq) (h.t.mv (fun k ae=>(fU k (h.tn k ae).1).2) (Mv.sub fun k ae=>(fU k (h.tn k ae).1).1)) hs.has) kQ hs.has ?_;rintro v yf w1 X1 ⟨ur,uw,rfl,o1,o2⟩ lz jg ax;repeat' first|refine aN ?_;intros
   exact hK _ _ _ ax
theorem Lc {fP:Int} {g:fq} {st:bH} {vk vw vp vr vc vh vd:Value} (h:mV w N G nb lb db mb s L m [] [] low ck sb kb pb cb A T) (hN:FX N X w) (hG:FX G X w) (hb:s.born=true) (hg:g.at w S vk di vw vp vr vc vh vd) (hS: ∀k,S k→X k∧k<w.heap.size∧ ¬N k∧ ¬G k)
  (hq:UY c s g ck low st fP L m) (hk3:g.kind=3) (he:g.err=0) (hto:g.to=s.id) (hrg:g.range=s.id) (gp:g.small) (HQ:g.lens≤2^62):
  Ct pg 9 #[ptr nb 0,I fP,g.v vk di vw vp vr vc vh vd] w X (fun k=>k=nb∨G k∨k=cb∨k=pb) fun v wa w'=> ∃vo S',v= .tuple #[vo,I 0]∧(∀k,S' k→made wa w' k)∧Sl w' S' 36 vo [(ZT s.id g st).l di di di di di di di di]∧ ∃G' L' m',(∀k,G' k→G k∨made wa w' k)∧
   iv w' N G' nb lb db mb (ptr sb 0) (ptr cb 0) s L' m':=by
 obtain⟨xk,nk,QA,rfl⟩:=hg.keys.form;obtain⟨xw,nw,cw,rfl⟩:=hg.writes.form;obtain⟨xp,np,cp,rfl⟩:=hg.parts.form;obtain⟨xr,nr,cr,rfl⟩:=hg.ranges.form;intro w0 hk;have hF:FX (fun k=>k=nb∨G k∨k=cb∨k=pb) X w:=fun k ae=>by
  rcases ae with e|e|e|e
  ·subst e;exact hN _ h.n.row.1
  ·exact hG k e
  ·subst e;exact hN _ h.c.1
  ·subst e;exact hN _ (h.tn _ h.t.dh.x.1).1
 have hT:=hF.ft hk;replace hg:g.at w0 S (.slice xk nk QA) di (.slice xw nw cw) (.slice xp np cp) (.slice xr nr cr) vc vh vd:=hg.mv (hk.fW fun k ae=>(hS k ae).1);replace h:=h.kp hN (fun k ae=>(hG k ae).1) hk;have fU:=hN.kp hk;have jU:=hG.kp hk;have bK:=(h.n.row.mono fun k ae=>(fU k ae).1);have FQ: ∀k,S k→aS w0 k:=fun k ae=>aA (hS k ae).2.1 hk.size;have KE:=hg.mv (w':=w0) (Y:=aS w0) fun k ae _=>⟨FQ k ae,rfl⟩;have oc:=KE.fE.one;have oh:=KE.dM.one;have od:=KE.dh.one;unfold kh at bK;rw [hb] at bK;refine vf (fun g hg=>?_) (fun ch w hh=>by obtain⟨v,he,_⟩:=hh;cases he) ?_
 ·have e:mg Tryz.f9=some 33:=by kernel_rfl
  rw [e] at hg;cases hg;exact FU
 unfold lI;have hs:=ak.init w0;repeat' first|refine aN ?_;intros
 refine dZ (FW KE gp HQ) kQ hs.has fun w1 X1 ax=>?_;rw [he];have h1:=h.since fU (fun k ae=>(jU k ae).1) ax;have en:=hT.since ax;have gX:FX N X1 w1:=fun k ae=>⟨ax.sub k (fU k ae).1,ax.has k (ax.sub k (fU k ae).1)⟩;have lv:FX G X1 w1:=fun k ae=>⟨ax.sub k (jU k ae).1,ax.has k (ax.sub k (jU k ae).1)⟩;have sJ:=bK.since ax;have CW:=hg.mv (w':=w1) (Y:=S) fun k ae _=>⟨ae,ax.kp.block k (FQ k ae)⟩;clear hs bK;have hs:=ak.fC en.s.has;repeat' first|refine bY ?_;intros
 repeat' first|refine bY ?_;intros|with_reducible apply dg
 refine en.call (GF (g:=g) (S:=S) h1 gX lv CW (fun k ae=>⟨ax.sub k (FQ k ae),(hS k ae).2.2⟩) hq) kQ (fun _ h=>h) fun v rR w2 X2 Nj mc mS dz c2=>?_;obtain⟨rfl,G2,L2,m2,pq,Bt⟩:=Nj;have Rx: ∀k,G2 k→(k=nb∨G k∨k=cb∨k=pb)∨made rR w2 k:=fun k ae=>(pq k ae).imp (fun e=>.inr (.inl e)) id;clear hs;have hs:=ak.fC dz.s.has;have Ic:=dz.s.kp.size;have WN:=ax.kp.size;repeat' first|refine aN ?_;intros|(with_reducible apply WR);(case hX=>exact hs.has);(case he=>kernel_rfl);(case hk=>rfl);intro acc w X ax ho;obtain⟨_,_,_,rfl⟩:=ho.sl.form;replace hs:=hs.trans ax
 rename_i q1 q2 q3;refine(dz.since hs).fin fun wa bt=>⟨.slice q1 q2 q3,fV (.slice q1 q2 q3),rfl,fun k ae=>?_,?_,G2,L2,m2,fun k ae=>(pq k ae).imp id fun e=>⟨af WN (af mc e.1),aA e.2 (af hs.kp.size bt.size)⟩,?_⟩
 ·have h9:=ho.ge ae;exact⟨af Ic h9.1,aA h9.2 bt.size⟩
 ·exact(ho.kp bt).ow.tight.sl
 ·have we:=Bt.since (fun k ae=>c2.sub k (gX k ae).1) (fun k ae=>dz.bN k (Rx k ae)) hs;exact we.kp (fun k ae=>hs.sub k (c2.sub k (gX k ae).1)) (fun k ae=>hs.sub k (dz.bN k (Rx k ae))) bt
end
def wg (no:Int):lu:=⟨no,false,⟨0,0,0,0⟩,0,.zero,.zero⟩
theorem BF {w:World} {X F:XS} {db:Nat} {no:Int} (h:Dk w F db HL) (hF:FX F X w) (BD:1≤no∧no≤12):
  Ct pg 7 #[ptr db 0,I no,I 4096] w X F fun v wa w'=> ∃nb lb mb N G,v= .tuple #[ptr nb 0,I 0]∧(∀k,N k→made wa w' k)∧(∀k,G k→F k∨made wa w' k)∧
   iv w' N G nb lb db mb (.pointer none) (.pointer none) (wg no) (xL 4096).L (xL 4096).m:=by
 intro w0 hk;replace h:=h.mv (hF.mv hk);have hT:=hF.ft hk;have oe:FX F (aS w0) w0:=hF.kp hk;have hLL:=UJ 4096;have hGL:=Rn;apply Ld;unfold BG;repeat' first|refine bY ?_;intros
 refine hT.call (PC h (hT.fx fun _ h=>h) rfl rfl (by decide) (by decide) (by decide) (by decide) (Je 4096).1) kQ (fun _ h=>h) fun v yf w1 X1 hq1 lz jg en HR=>?_;obtain⟨lb,F1,rfl,hF1,g1⟩:=hq1;change Lg w1 F1 lb db (xL 4096).L (xL 4096).m at g1;replace en:Ft w0 F w1 X1 F1:=en.less hF1;have acI: ∀k,F1 k→F k∨w0.heap.size≤k:=fun k ae=>(hF1 k ae).imp id fun e=>af lz e.1;repeat' first|refine bY ?_;intros
 refine yn (kv:=fun k:dB=>k.v) Zy nX en.s.has fun mb w2 X2 Zs Jd wh=>?_;have dz:=en.since Jd;have g2:=g1.mv (Jd.lr en.bN);repeat' first|refine aN ?_;intros
 refine ph dz.s.has fun nb w3 X3 mP dT bK=>?_;have dU:=dz.since dT;have g3:=g2.mv (dT.lr dz.bN);have Zl: ∀k,F1 k→k<w1.heap.size:=fun k ae=>en.s.has k (en.bN k ae);have Ie:=wh.mv sI dT.mv (fun _ h=>h.elim) (A':=nX);have WN:=en.s.kp.size;have Ic:=Jd.kp.size;have hz3:=dT.kp.size;have hmX:X3 mb∧mb<w2.heap.size:=⟨dT.sub mb wh.x.1,wh.x.2⟩;have pj:Ft w0 F w3 X3 (fun k=>F1 k∨k=nb∨k=mb):=dU.more fun k ae=>ae.imp id fun e=>by
  rcases e with e|e<;>subst e
  ·exact⟨bK.1,by omega⟩
  ·exact⟨hmX.1,by omega⟩
 have h3:iv w3 (fun k=>k=nb∨k=mb) F1 nb lb db mb (.pointer none) (.pointer none) (wg no) (xL 4096).L (xL 4096).m:=by
  refine⟨⟨.inl rfl,bK.2⟩,?_,g3,fun k a b=>?_,rfl,rfl⟩
  ·obtain⟨e,c',q1,q2⟩:=Ie;exact⟨e,c',⟨.inr rfl,q1.2⟩,q2⟩
  ·have:=Zl k b;rcases a with a|a<;>omega
 have hNm: ∀k,(k=nb∨k=mb)→w0.heap.size≤k:=fun k e=>by rcases e with e|e<;>omega
 clear Ie wh bK g3 g2 g1 dU dz en hT h;obtain⟨FL,FD,sv,bl,hW⟩:=h3.log.lw;have hWL:(xL 4096).L=⟨uz,4096,[⟨1,[],0⟩],0⟩:=hLL;refine dZ (PK hW.l (s:=⟨1,[],0⟩) (r:=[]) (by rw [hWL]) (pj.fx fun k ae=>.inl (hW.hL k ae))) kQ pj.s.has fun w4 X4 jh=>?_;have fG:=pj.since jh;have h4:=h3.since (fun k ae=>pj.bN k (.inr ae)) (fun k ae=>pj.bN k (.inl ae)) jh;replace hW:=hW.mv (jh.lr fun k ae=>pj.bN k (.inl ae));rw [show(((⟨1,[],0⟩:Dh).first:Nat):Int)=1 from rfl];have hLK:=hGL.WL zQ;have sQ:(xL 4096).L.next=1:=by rw [hWL];rfl
 refine eQ (fun n a w X=>a=I 1∧Ft w0 F w X (fun k=>F1 k∨k=nb∨k=mb)∧iv w (fun k=>k=nb∨k=mb) F1 nb lb db mb (.pointer none) (.pointer none) (wg no) (xL 4096).L (xL 4096).m∧
  LW w F1 lb db (xL 4096).L (xL 4096).m FL FD sv bl) 0 ⟨rfl,fG,h4,hW⟩ ?_
 clear hW fG h4 pj h3;rintro n a w6 X6 ⟨rfl,kO,h6,hW⟩;refine dZ (Av hW.l hLK (kO.fx fun k ae=>.inl (hW.hL k ae))) kQ kO.s.has fun w7 X7 vj=>?_;have kP:=kO.since vj;have h7:=h6.since (fun k ae=>kO.bN k (.inr ae)) (fun k ae=>kO.bN k (.inl ae)) vj;rw [sQ];have EE:=h7.row.mono fun k ae=>kP.bN k (.inr ae);unfold kh at EE;rw [show(wg no).born=false from rfl] at EE;repeat' first|refine bY ?_;intros|with_reducible apply dg
 refine kP.fin fun wa bt=>⟨nb,lb,mb,_,F1,rfl,fun k ae=>⟨hNm k ae,aA (kP.s.has k (kP.bN k (.inr ae))) bt.size⟩,fun k ae=>(acI k ae).imp (fun e=>e) fun e=>⟨e,aA (kP.s.has k (kP.bN k (.inl ae))) bt.size⟩,h7.kp (fun k ae=>kP.bN k (.inr ae)) (fun k ae=>kP.bN k (.inl ae)) bt⟩
def vm:State:=⟨⟨1,0,0,Aw⟩,.zero,.zero,[],[]⟩
def WT:KV:=⟨⟨#[97]⟩,⟨1,4619567317775286272,⟨#[]⟩⟩⟩
def Di:fq:=⟨3,21,1,⟨1,1,1⟩,1,0,0,⟨4,0,21⟩,.zero,false,0,0,[],[],[WT],[1],[],[],.zero⟩
theorem XJ:vm.may=true:=by kernel_rfl
theorem XK:(jK vm).eX=0:=by kernel_rfl
theorem QE:(fw (jK vm)).length≤900:=by decide+kernel
theorem XM:Di.err=0:=by kernel_rfl
theorem XN:(lJ Di ⟨5,1,1⟩).eX=0:=by kernel_rfl
theorem XO:(fw (lJ Di ⟨5,1,1⟩)).length≤900:=by decide+kernel
theorem ZU:ic.key ⟨1,0,0,Aw⟩ ⟨#[97]⟩=true:=by kernel_rfl
theorem Tq {x:LD} (h:me 0 x):jy x (wg 1) vm=0∧me 1 (iO x vm).1:=by
 have e0:(jK vm).eX.toNat=0:=by rw [XK];rfl
 obtain⟨h1,h2⟩:=h.iY (p:=fw (jK vm)) zQ QE;unfold jy iO;rw [e0,XJ,h1];exact⟨rfl,h2⟩
theorem Tr {st:State} (h1:st.dM=[]) (h2:st.dh=[]):st.small:=⟨by rw [h1];exact fun _ h=>absurd h (by simp),by rw [h2];exact fun _ h=>absurd h (by simp),by rw [h1];exact fun _ h=>absurd h (by simp),by rw [h2];exact fun _ h=>absurd h (by simp)⟩
theorem UZ {c:Nat} {L:LM} {m:DM} (h:me c ⟨L,m⟩) (hc:c≤3):UY c { (((wg 1).sL vm).reach 5)with closed:=⟨5,0,1⟩ } Di ⟨5,0,1⟩ .zero ⟨5,1,1⟩ 5 L m where
 ep:=rfl
 gs:=by kernel_rfl
 sn:=rfl
 wr:=fun x hx=>by
  have:x=WT:=by simpa [Di] using hx
  subst this;exact ZU
 ks:=fun x hx=>by
  have:x=WT:=by simpa [Di] using hx
  subst this
  decide
 wl:=by decide
 cl:=by decide
 l1:=by decide
 l2:=by decide
 p:=by decide
 tm:=by kernel_rfl
 cl2:=by decide
 e:=by kernel_rfl
 lw:=by decide
 z:=by decide
 re:=XN
 rl:=XO
 f:=h
 cc:=hc
theorem PL {w:World} {X:XS} :Ct pg 21 #[] w X nX fun v _ _=>v=vm.v di di:=by
 intro w0 hk;apply Dl;unfold vn;have hs:=ak.init w0;repeat' first|refine aN ?_;intros|((first|(with_reducible refine aj hs ?_)|(with_reducible refine aj (bL.trans hs) ?_));intro wa hk;rfl)
abbrev acJ:List Value:=[I 4,I 1,I 21,I 1,I 1,I 1,I 1,I 0,I 0,I 5,I 1,I 1,I 0,I 0,I 0,B false,I 0,I 0,di,di,di,di,di,di,I 0,I 0,.float .f64 0,.float .f64 0,I 0,I 0,I 0,I 0,I 0,I 0,di,di]
theorem PM {w:World} {X:XS} :Ct pg 4 #[] w X nX fun v w1 w2=>v=B true:=by
 intro w0 hk;apply Dm;unfold vt;have hs:=ak.init w0;refine dW Ig kQ hs.has ?_;rintro _ wa w1 X1 ⟨db,rfl,ZV⟩ hle gF ax;replace hs:=hs.trans ax;have en:Ft w0 nX w1 X1 (fun k=>made wa w1 k):=⟨hs.less (fun k ae=>ae.1),fun k ae=>gF k ae,fun k ae=>.inr (af hle ae.1)⟩;repeat' first|refine aN ?_;intros
 refine en.call (BF (no:=1) ZV (en.fx fun _ h=>h) (by decide)) kQ (fun _ h=>h) fun v rR w2 X2 hq mc mS ZW c2=>?_;obtain⟨nb,lb,mb,N,G,rfl,hN,hG,h2⟩:=hq;have dz:Ft w0 nX w2 X2 (fun k=>N k∨G k):=ZW.less fun k ae=>ae.elim (fun e=>.inr (hN k e)) (hG k);have acK:FX N X2 w2:=fun k ae=>⟨dz.bN k (.inl ae),dz.s.has k (dz.bN k (.inl ae))⟩;have acL:FX G X2 w2:=fun k ae=>⟨dz.bN k (.inr ae),dz.s.has k (dz.bN k (.inr ae))⟩;clear hs ZW;have hs:=ak.fC dz.s.has;repeat' first|refine bY ?_;intros|with_reducible apply dg
 refine dZ PL kQ hs.has fun w3 X3 dT=>?_;have dU:=dz.since dT;have h3:=h2.since (fun k ae=>(acK k ae).1) (fun k ae=>(acL k ae).1) dT;have acM:FX N X3 w3:=fun k ae=>⟨dU.bN k (.inl ae),dU.s.has k (dU.bN k (.inl ae))⟩;have acN:FX G X3 w3:=fun k ae=>⟨dU.bN k (.inr ae),dU.s.has k (dU.bN k (.inr ae))⟩;repeat' first|refine aN ?_;intros|with_reducible apply dg
 refine dU.call (BE (st:=vm) (S:=nX) (n:=1) h3 acM acN rfl Rn zQ (eE.nil _ _ _) (eE.nil _ _ _) (fun k ae=>ae.elim) (Tr rfl rfl) (by have:=QE;omega) (by decide)) kQ (fun k ae=>ae.imp (fun e=>by rw [e];exact h3.row.1) fun e=>e) fun v sB w4 X4 hq vI nF GG c4=>?_;obtain⟨rfl,_,q2⟩:=hq;obtain⟨e0,WU⟩:=Tq Zo;obtain⟨_,_,N4,G4,sb,kb,pb,cb,A,T,ZH,QD,hG4,Ts⟩:=q2 e0;clear q2;change me 1 ⟨(iO ⟨(xL 4096).L,(xL 4096).m⟩ vm).1.L,(iO ⟨(xL 4096).L,(xL 4096).m⟩ vm).1.m⟩at WU;generalize (iO ⟨(xL 4096).L,(xL 4096).m⟩ vm).1.L=L4 at WU Ts;generalize (iO ⟨(xL 4096).L,(xL 4096).m⟩ vm).1.m=m4 at WU Ts;rw [show jy ⟨(xL 4096).L,(xL 4096).m⟩ (wg 1) vm=0 from e0];have fG:Ft w0 nX w4 X4 (fun k=>N4 k∨G4 k):=GG.less fun k ae=>ae.elim (fun e=>(QD k e).imp .inl fun e=>e) fun e=>(hG4 k e).imp .inr fun e=>e;have acO:FX N4 X4 w4:=fun k ae=>⟨fG.bN k (.inl ae),fG.s.has k (fG.bN k (.inl ae))⟩;have acP:FX G4 X4 w4:=fun k ae=>⟨fG.bN k (.inr ae),fG.s.has k (fG.bN k (.inr ae))⟩;clear hs GG;have hs:=ak.fC fG.s.has;repeat' first|refine bY ?_;intros
 refine fG.call (La (fP:=5) (st:=⟨5,0,1⟩) (c:=1) Ts acO acP rfl (by decide) (by decide) (by decide) kQ WU (by decide)) kQ (fun k ae=>by
  rcases ae with e|e|e
  ·rw [e];exact .inl Ts.n.row.1
  ·exact .inr e
  ·rw [e];exact .inl Ts.c.1) fun v To w5 X5 hq Jl Ni Nk c5=>?_
 obtain⟨rfl,G5,L5,m5,cc,Tp,sK,hf5,hB5⟩:=hq;have UX:cc≤3:=af sK (by decide);have iJ:Ft w0 nX w5 X5 (fun k=>N4 k∨G5 k):=Nk.less fun k ae=>ae.elim (fun e=>.inl (.inl e)) fun e=>(Tp k e).imp .inr fun e=>e;clear hs Nk;have hs:=ak.fC iJ.s.has;repeat' first|refine aN ?_;intros|(with_reducible apply WR);(case hX=>exact hs.has);(case he=>kernel_rfl);(case hk=>rfl);intro acc w X ax ho;obtain⟨_,_,_,rfl⟩:=ho.sl.form;replace hs:=hs.trans ax|(with_reducible apply ZX);(case hX=>exact hs.has);(case he=>kernel_rfl);(case ho=>first|rfl|assumption);(case hk=>rfl);intro acc w X ax ho;obtain⟨_,_,_,rfl⟩:=ho.sl.form;replace hs:=hs.trans ax
 rename_i w6 X6 HX q1 q2 q3 ho6 r1 r2 r3;have hz5:=HX.kp.size;have ZY:FX N4 X5 w5:=fun k ae=>⟨iJ.bN k (.inl ae),iJ.s.has k (iJ.bN k (.inl ae))⟩;have ZZ:FX G5 X5 w5:=fun k ae=>⟨iJ.bN k (.inr ae),iJ.s.has k (iJ.bN k (.inr ae))⟩;have Nl:=ho6.since ax;have FY:=hB5.since ZY (fun k ae=>(ZZ k ae).1) hs;have kP:=iJ.since hs;have Nn:FX N4 X w:=fun k ae=>⟨kP.bN k (.inl ae),kP.s.has k (kP.bN k (.inl ae))⟩;have acQ:FX G5 X w:=fun k ae=>⟨kP.bN k (.inr ae),kP.s.has k (kP.bN k (.inr ae))⟩;obtain⟨S,hS⟩: ∃S:XS,∀k,S k↔(X k∧w5.heap.size≤k):=⟨_,fun _=>Iff.rfl⟩;have hwS:Own w S w5.heap.size 71 4 (.slice q1 q2 q3) ([WT].map KV.l):=⟨Nl.1,Nl.2.1,fun g hg=>(hS g).2 ⟨Nl.2.2 g hg,(Nl.ge hg).1⟩⟩;have hpS:Own w S w6.heap.size 3 1 (.slice r1 r2 r3) (([1]:List Int).map I1):=⟨ho.1,ho.2.1,fun g hg=>(hS g).2 ⟨ho.2.2 g hg,af hz5 (ho.ge hg).1⟩⟩;have hg:Di.at w S di di (.slice q1 q2 q3) (.slice r1 r2 r3) di di di di:=⟨Sl.nil _ _ _,Sl.nil _ _ _,hwS.sl,hpS.sl,Sl.nil _ _ _,eE.nil _ _ _,eE.nil _ _ _,eE.nil _ _ _⟩;have gp:Di.small:=⟨by decide,by decide,by simp [Di],by simp [Di],Tr rfl rfl⟩;clear ho ho6 Nl hwS hpS;refine kP.call (Lc (fP:=5) (g:=Di) (st:=⟨5,1,1⟩) (S:=S) FY Nn acQ rfl hg (fun k ae=>⟨((hS k).1 ae).1,hs.has k ((hS k).1 ae).1,fun e=>?_,fun e=>?_⟩) (UZ hf5 UX) rfl XM rfl rfl gp (by decide)) kQ (fun k ae=>by
  rcases ae with e|e|e|e
  ·rw [e];exact .inl FY.n.row.1
  ·exact .inr e
  ·rw [e];exact .inl FY.c.1
  ·rw [e];exact .inl (FY.tn _ FY.t.dh.x.1).1) fun v wa8 w8 X8 hq adT acR Z9 c8=>?_
 ·have:=(ZY k e).2;have:=((hS k).1 ae).2;omega
 ·have:=(ZZ k e).2;have:=((hS k).1 ae).2;omega
 obtain⟨vo,S8,rfl,Tt,hvo,G8,L8,m8,hG8,hn8⟩:=hq;have hT8:Ft w0 nX w8 X8 (fun k=>N4 k∨G8 k):=Z9.less fun k ae=>ae.elim (fun e=>.inl (.inl e)) fun e=>(hG8 k e).imp .inr fun e=>e;have acS:Sl w8 X8 36 vo ([()].map fun _:Unit=>acJ):=hvo.mv (Mv.sub fun k ae=>acR k (Tt k ae));have ovo:=acS.one;have WV:=hn8.row.mono fun k ae=>hT8.bN k (.inl ae);have hn0:Sl w8 X8 36 di (([]:List (List Value)).map id):=Sl.nil _ _ _;clear hs Z9;have hs:=ak.fC hT8.s.has;have hx0:[()][0]? =some ():=rfl;repeat' first|refine bY ?_;intros|refine du ?_ ?_<;>intros|(with_reducible apply No);(· kernel_rfl);all_goals intros|with_reducible apply dg|(exfalso;omega)|(exfalso;simp only [List.length_cons,bA] at*;omega)
 refine dZ (yk WV) kQ hs.has fun w9 X9 BH=>?_;replace hs:=hs.trans BH;rw [show(lu.ceil { (((wg 1).sL vm).reach 5)with closed:=(⟨5,0,1⟩:bH) })=21 from rfl];repeat' first|refine bY ?_;intros|with_reducible apply dg
 refine dZ (kR (WV.since hs)) kQ hs.has fun Np Nq Nr=>?_;replace hs:=hs.trans Nr;rw [show(lu.born { (((wg 1).sL vm).reach 5)with closed:=(⟨5,0,1⟩:bH) })=true from rfl];repeat' first|refine aN ?_;intros
 exact aj (hT8.lK.trans hs) fun wa hk=>rfl
theorem B4 {w:World} {X:XS} {a:Value} {xs:List jL} {most:Int} (ha:Sl w X 7 a (xs.map jL.l)):
  Ct pg 59 #[a,I most] w X nX wH:=by
 intro w0 hk;replace ha:=ha.mv hk.cO;have jG:=ha.gH;apply Ax;unfold sR;have hs:=ak.init w0;refine fS (fun n a b w X=> ∃(i:Nat) (s:Int),a=I i∧b=I s∧n=(xs).length-i∧i≤(xs).length∧ak (aS w0) w0 X w) (xs).length ⟨0,_,rfl,rfl,rfl,aP _,hs⟩ ?_;rintro n a b w X ⟨i,s,rfl,rfl,rfl,hi,hs⟩;repeat' first|refine aN ?_;intros|refine du ?_ ?_<;>intros|((first|(with_reducible refine aj hs ?_)|(with_reducible refine aj (bL.trans hs) ?_));intro wa hk;exact⟨_,rfl⟩)|(refine gY (gC  _ _ _ _ _) kQ hs.has ?_;intro n1 w X ax;replace hs:=hs.trans ax)|((with_reducible refine fT ((xs).length-(i+1)) ?_ ?_);omega;exact⟨i+1,_,by simp,rfl,rfl,by omega,hs⟩)|with_reducible apply jo
theorem Dn {w:World} {X:XS} {m:fq} {vk vs vw vp vr vc vh vd:Value} {most:Int} (ha:m.at w X vk vs vw vp vr vc vh vd):
  Ct pg 22 #[m.v vk vs vw vp vr vc vh vd,I most] w X nX wH:=by
 intro w0 hk;obtain⟨h1,h2,h3,h4,h5,h6,h7,h8⟩:=ha.mv hk.cO;have jG:=h6.len;apply B5;unfold tT;have hs:=ak.init w0;repeat' first|refine aN ?_;intros|(refine gY (gC  _ _ _ _ _) kQ hs.has ?_;intro n1 w X ax;replace hs:=hs.trans ax)|(refine gY (nH  qA) kQ hs.has ?_;intro n1 w X ax;replace hs:=hs.trans ax)|(refine gY (B4  qA) kQ hs.has ?_;intro n1 w X ax;replace hs:=hs.trans ax)|(refine gY (mW  qA) kQ hs.has ?_;intro n1 w X ax;replace hs:=hs.trans ax)|with_reducible apply jo
 refine fS (fun n a b w X=> ∃(i:Nat) (s:Int),a=I i∧b=I s∧n=(m.fE).length-i∧i≤(m.fE).length∧ak (aS w0) w0 X w) (m.fE).length ⟨0,_,rfl,rfl,rfl,aP _,hs⟩ ?_;rintro n a b w X ⟨i,s,rfl,rfl,rfl,hi,hs⟩;repeat' first|refine aN ?_;intros|refine du ?_ ?_<;>intros|((with_reducible apply QF);assumption;(try (case hz=>rfl));(case hr=>exact qR);(try (case hz=>omega));(case ht=>kernel_rfl);(case hs=>kernel_rfl);intros)|((first|(with_reducible refine aj hs ?_)|(with_reducible refine aj (bL.trans hs) ?_));intro wa hk;exact⟨_,rfl⟩)|(refine gY (gC  _ _ _ _ _) kQ hs.has ?_;intro n1 w X ax;replace hs:=hs.trans ax)|(refine gY (kr  (s:=m.state) qA qA) kQ hs.has ?_;intro n1 w X ax;replace hs:=hs.trans ax)|(refine gY ((Dp (r:=_))  (Rec.at.mv (by assumption) hs.mv)) kQ hs.has ?_;intro n1 w X ax;replace hs:=hs.trans ax)|((with_reducible refine fT ((m.fE).length-(i+1)) ?_ ?_);omega;exact⟨i+1,_,by simp,rfl,rfl,by omega,hs⟩)|with_reducible apply jo
structure jA where
 kind:Int
 fP:Int
 n:Int
 m:fq
 s:State
 jI:Nat
 Ry:List Int
abbrev jA.l (o:jA) (vk vs vw vp vr vc vh vd uh up vq:Value):List Value:=[I o.kind,I o.fP,I o.n,I o.m.kind,I o.m.fr,I o.m.to,I o.m.dq.gO,I o.m.dq.jO,I o.m.dq.sq,I o.m.range,I o.m.gw,I o.m.code,
 I o.m.bb.wall,I o.m.bb.cZ,I o.m.bb.node,I o.m.prev.wall,I o.m.prev.cZ,I o.m.prev.node,B o.m.iq,I o.m.n,I o.m.mx,vk,vs,vw,vp,vr,vc,
 I o.m.state.range.id,I o.m.state.range.gw,.float .f64 o.m.state.range.lo,.float .f64 o.m.state.range.hi,
 I o.m.state.floor.wall,I o.m.state.floor.cZ,I o.m.state.floor.node,I o.m.state.closed.wall,I o.m.state.closed.cZ,I o.m.state.closed.node,vh,vd,I o.s.range.id,I o.s.range.gw,.float .f64 o.s.range.lo,.float .f64 o.s.range.hi,
 I o.s.floor.wall,I o.s.floor.cZ,I o.s.floor.node,I o.s.closed.wall,I o.s.closed.cZ,I o.s.closed.node,uh,up,.float .f64 o.jI,vq]
structure jA.at (w:World) (X:XS) (o:jA) (vk vs vw vp vr vc vh vd uh up vq:Value):Prop where
 m:o.m.at w X vk vs vw vp vr vc vh vd
 h:gb w X uh o.s.dM
 d:ga w X up o.s.dh
 p:Sl w X 1 vq (o.Ry.map I1)
def jA.rd (w:World) (X:XS) (l:List Value) (o:jA):Prop:= ∃vk vs vw vp vr vc vh vd uh up vq,l=o.l vk vs vw vp vr vc vh vd uh up vq∧o.at w X vk vs vw vp vr vc vh vd uh up vq
theorem jA.mv:Ay jA.rd:=fun ⟨vk,vs,vw,vp,vr,vc,vh,vd,uh,up,vq,h,h1⟩ m=>⟨vk,vs,vw,vp,vr,vc,vh,vd,uh,up,vq,h,⟨h1.m.mv m,h1.h.mv m,h1.d.mv m,h1.p.mv m⟩⟩
theorem Az {P:Program} {X X0:XS} {w w0:World} {N:Value→Prop} {t:TypeId} {v:Value} {xs:List jA} {i:Nat} {z:Int} {x:jA} (h:eE w0 X0 53 v jA.rd xs) (hr:xs[i]? =some x)
  (hz:z=i) (ht:P.underlying t=some (.slice (P.elem t))) (hs:(P.info? (P.elem t)).map (·.size)=some 53)
  (n: ∀b o vk vs vw vp vr vc vh vd uh up vq,aX.one vk=true→aX.one vs=true→aX.one vw=true→aX.one vp=true→aX.one vr=true→aX.one vc=true→aX.one vh=true→aX.one vd=true→aX.one uh=true→aX.one up=true→aX.one vq=true→
   Cells w0 X0 b o (x.l vk vs vw vp vr vc vh vd uh up vq)→x.at w0 X0 vk vs vw vp vr vc vh vd uh up vq→N (ptr b o)):ad P X w (dy t 53 v (.int .i64 z)) N:=
 LP h hr hz ht hs fun b o _ hc ⟨vk,vs,vw,vp,vr,vc,vh,vd,uh,up,vq,hl,h1⟩=>n b o vk vs vw vp vr vc vh vd uh up vq h1.m.keys.one h1.m.seen.one h1.m.writes.one h1.m.parts.one h1.m.ranges.one h1.m.fE.one h1.m.dM.one h1.m.dh.one h1.h.one h1.d.one h1.p.one (hl▸hc) h1
theorem Tu {w:World} {X:XS} {a:Value} {xs:List jA} (ha:eE w X 53 a jA.rd xs):
  Ct pg 5 #[a] w X nX fun v _ _=> ∃b:Bool,v=B b:=by
 intro w0 hk;replace ha:=eE.mv ha jA.mv hk.cO;have jG:=ha.len;apply GH;unfold xD;have hs:=ak.init w0;refine fS (fun n a b w X=> ∃(i:Nat) (s:Int),a=I i∧b=I s∧n=(xs).length-i∧i≤(xs).length∧ak (aS w0) w0 X w) (xs).length ⟨0,_,rfl,rfl,rfl,aP _,hs⟩ ?_;rintro n a b w X ⟨i,s,rfl,rfl,rfl,hi,hs⟩;rcases eG (xs) i with⟨dA,x,hx,hd⟩|⟨ec,hd⟩
 ·repeat' first|refine bY ?_;intros|refine du ?_ ?_<;>intros|(with_reducible apply Az);(case h=>assumption);(case hr=>exact hx);(case hz=>rfl);(case ht=>kernel_rfl);(case hs=>kernel_rfl);intros
  ·refine dW (Dn (m:=x.m) (fq.at.mv (jA.at.m (by assumption)) hs.mv)) kQ hs.has ?_;rintro _ wa w X ⟨n1,rfl⟩ hle gF ax;replace hs:=hs.trans ax;repeat' first|with_reducible apply jo
   refine dW (kr (s:=x.s) (gb.mv (jA.at.h (by assumption)) hs.mv) (ga.mv (jA.at.d (by assumption)) hs.mv)) kQ hs.has ?_;rintro _ wa w X ⟨n2,rfl⟩ hle gF ax;replace hs:=hs.trans ax;repeat' first|refine aN ?_;intros|with_reducible apply jo
   exact fT (xs.length-(i+1)) zQ ⟨i+1,_,by simp,rfl,rfl,by omega,hs⟩
  all_goals exact aj hs fun wa bt=>⟨_,rfl⟩
 ·repeat' first|refine bY ?_;intros|refine du ?_ ?_<;>intros
  all_goals exact aj hs fun wa bt=>⟨_,rfl⟩
end Go.Proofs.YteomdhcbhmaiaaaGreat
namespace Go.Proofs.YteomdhcbhmaiaaaGreat
open Go.Proofs.Tryz renaming prog → pg
open Go.aX
theorem Dq: ∀{a b:List UInt8},a≤b→a≠b→gx a b=true
 |[],[],_,h=>absurd rfl h
 |[],_::_,_,_=>by simp [gx]
 |_::_,[],h,_=>by simp at h
 |x::a,y::b,h,dO=>by
  rw [List.cons_le_cons_iff] at h;simp only [gx,Bool.or_eq_true,aO,decide_eq_true_eq,beq_iff_eq];rcases h with h|⟨rfl,h⟩
  ·exact .inl h
  ·exact .inr ⟨rfl,Dq h fun e=>dO (by rw [e])⟩
def KF (a b:BA):Prop:=leB (bl a) (bl b)=true∧a≠b
theorem Tv {a b:BA} (h:bl a=bl b):a=b:=by rw [←LL a,←LL b,h]
theorem Tw {a b c:BA} (h:KF a b) (k:KF b c):KF a c:=
 ⟨yd _ _ _ h.1 k.1,fun e=>h.2 (Tv (MS _ _ h.1 (by rw [e];exact k.1)))⟩
theorem aaa {a k:BA} (h:QG k a=false):KF a k:=by
 unfold QG xE at h;simp only [Bool.or_eq_false_iff,decide_eq_false_iff_not] at h;refine⟨?_,fun e=>h.2 e.symm⟩;have ht:=ye (bl a) (bl k);cases h1:leB (bl a) (bl k)with
 |true=>rfl
 |false=>
  rw [h1,Bool.false_or] at ht;have hle:bl k≤bl a:=by unfold leB at ht;simpa using ht
  have:=Dq hle fun e=>h.2 (Tv e);rw [fD,fD] at h;exact absurd h.1 (by unfold bl at this;rw [this];simp)
theorem GI: ∀{hl:List fk} {a:BA},lL a hl=true→(hl.map (·.key)).Pairwise KF∧ ∀h∈hl,KF a h.key
 |[],_,_=>⟨rW,by simp⟩
 |x::r,a,h=>by
  unfold lL at h;simp only [aO] at h;obtain⟨h1,h2⟩:=h;have hx:KF a x.key:=by
   unfold fk.ok at h1;simp only [aO,Bool.not_eq_true'] at h1;exact aaa h1.1.1.2
  obtain⟨k1,k2⟩:=GI h2;refine⟨?_,fun y hy=>?_⟩
  ·rw [bz];refine List.pairwise_cons.2 ⟨fun k hk=>?_,k1⟩;obtain⟨y,hy,rfl⟩:=List.mem_map.1 hk;exact k2 y hy
  ·rcases List.mem_cons.1 hy with rfl|hy
   ·exact hx
   ·exact Tw hx (k2 y hy)
theorem U9 {ks:List BA} (h:ks.Pairwise KF):lG ks=ks:=by
 unfold lG;have e:(ks.map bl).mergeSort leB=ks.map bl:=by
  refine CM (List.mergeSort_perm _ _) (List.pairwise_mergeSort yd ye _) ?_;exact List.pairwise_map.2 (h.imp fun h=>h.1)
 rw [e,ed];conv=>rhs;rw [←sN ks]
 exact gv fun x _=>LL x
theorem Ns {κ α:Type} [DecidableEq κ] {k:κ} {a:α} : ∀{l:List (κ×α)},(∀x∈l,x.1≠k)→fQ k a l=l++[(k,a)]
 |[],_=>rfl
 |x::l,h=>by
  have h1:x.1≠k:=h x (by simp);unfold fQ;rw [if_neg h1,Ns fun y hy=>h y (dc _ hy)];rfl
theorem GJ {α β κ:Type} [DecidableEq κ] (f:β→κ) (g:β→α): ∀(l:List β) (m:List (κ×α)),(l.map f).Nodup→(∀x∈m,∀y∈l,x.1≠f y)→l.foldl (fun m x=>fQ (f x) (g x) m) m=m++l.map fun x=>(f x,g x)
 |[],m,_,_=>by simp
 |x::l,m,hn,hd=>by
  rw [bz,List.nodup_cons] at hn;rw [List.foldl_cons,Ns fun y hy=>hd y hy x (by simp),GJ f g l _ hn.2 fun y hy z hz=>?_]
  ·simp
  ·rcases List.mem_append.1 hy with hy|hy
   ·exact hd y hy z (dc _ hz)
   ·simp only [List.mem_singleton] at hy;subst hy;exact fun e=>hn.1 (by rw [show f x=f z from e];exact List.mem_map.2 ⟨z,hz,rfl⟩)
theorem AA {hl:List fk} (h:(hl.map (·.key)).Nodup):iA hl=hl.map fun x=>(x.key,x.eZ):=by
 have:=GJ (fun x:fk=>x.key) (fun x=>x.eZ) hl [] h (by simp);simpa [iA] using this
theorem yS {pl:List cx} (h:(pl.map (·.dq)).Nodup):kI pl=pl.map fun x=>(x.dq,x):=by
 have:=GJ (fun x:cx=>x.dq) (fun x=>x) pl [] h (by simp);simpa [kI] using this
theorem Rz {hl:List fk} (h:lL ⟨#[]⟩ hl=true):wU (iA hl)=hl:=by
 have hp:=(GI h).1;have hn:(hl.map (·.key)).Nodup:=hp.imp fun h=>h.2;rw [AA hn];unfold wU;rw [ed,show(hl.map ((fun x:BA×List fJ=>x.1)∘fun x=>(x.key,x.eZ)))=hl.map (·.key)from rfl,U9 hp,ed];conv=>rhs;rw [←sN hl]
 refine gv fun x hx=>?_;have hg:=FZ (l:=hl.map fun x:fk=>(x.key,x.eZ)) (by rw [ed];exact hn) (k:=x.key) (a:=x.eZ) (List.mem_map.2 ⟨x,hx,rfl⟩)
 show(⟨x.key,jS _ x.key⟩:fk)=x
 unfold jS;rw [hg];rfl
theorem Tx {pl ps:List cx} (hr:(pl.map (·.dq)).Pairwise fun a b=>a.less b=true) (hp:ps.Perm ((kI pl).map (·.2))) (ho:ordered ps):ps=pl:=by
 have hn:(pl.map (·.dq)).Nodup:=hr.imp fun h e=>by rw [e,dB.uU] at h;cases h
 rw [yS hn,ed,show(pl.map ((fun x:dB×cx=>x.2)∘fun x=>(x.dq,x)))=pl from(gv fun _ _=>rfl).trans (sN pl)] at hp;refine zp hp ((hp.map (·.dq)).nodup_iff.2 hn) ho ?_;refine(List.pairwise_map.1 hr).imp fun {a b} h=>?_;cases hb:b.dq.less a.dq with
 |false=>rfl
 |true=>
  have:=dB.Ap h hb;rw [dB.uU] at this;cases this
end Go.Proofs.YteomdhcbhmaiaaaGreat
namespace Go.Proofs.YteomdhcbhmaiaaaGreat
open Go.Proofs.Tryz renaming prog → pg
open Go.aX
set_option maxRecDepth 100000
set_option maxHeartbeats 1000000
set_option linter.unusedVariables false
set_option linter.unusedSimpArgs false
attribute [local irreducible] un jn aC aJ ld1 ff st1 dy cY mm dK nv Bw zn fR gf ad aw aG eW eV eU eC eF gE au fin aM az aD vS FB gU ja vT FC FE FF FG FH gV jb vU FI FJ FK FM
theorem B6 (a b:dB):Pure pg 19 #[a.v,b.v] (B (a.less b)):=by
 intro w0;apply AB;unfold sS;have hs:=ak.init w0;repeat' first|refine aN ?_;intros|refine du ?_ ?_<;>intros|(with_reducible refine fm hs ?_);(simp_all [dB.less]<;>omega)
def Ty (g:fq):fq:= { g with to:=12 }
theorem aab {w:World} {X:XS} {g:fq} {vk vs vw vp vr vc vh vd:Value} (h:g.at w X vk vs vw vp vr vc vh vd):(Ty g).at w X vk vs vw vp vr vc vh vd:=⟨h.keys,h.seen,h.writes,h.parts,h.ranges,h.fE,h.dM,h.dh⟩
def iL (st:State):State:= { st with range:= { st.range with id:=12 } }
theorem QH: ∀{l:List cx},(∀k,1≤k→ ∀x y,l[k-1]? =some x→l[k]? =some y→x.dq.less y.dq=true)→(l.map (·.dq)).Pairwise fun a b=>a.less b=true
 |[],_=>rW
 |[x],_=>by simp
 |x::y::l,h=>by
  have hy:=QH (l:=y::l) fun k hk u v hu hv=>h (k+1) zQ u v (by
   rw [show k+1-1=(k-1)+1 by omega,nx];exact hu) (by rw [nx];exact hv)
  have WW:=h 1 zQ x y rfl rfl;rw [bz];refine List.pairwise_cons.2 ⟨fun t ht=>?_,hy⟩;rw [bz] at ht hy;rcases List.mem_cons.1 ht with rfl|ht
  ·exact WW
  ·exact dB.Ap WW ((List.pairwise_cons.1 hy).1 t ht)
theorem RA {hl:List fk} {pl:List cx} (h:ot hl pl=0):lL ⟨#[]⟩ hl=true:=by
 unfold ot at h;split at h
 ·assumption
 ·simp at h
theorem E9 {w:World} {X:XS} {a vh vp:Value} {xs:List jA} {st:State} {fP:Int} (ha:eE w X 53 a jA.rd xs) (hm: ∀o∈xs,(Ty o.m).small∧(Ty o.m).lens≤2^62) (h1:gb w X vh st.dM) (h2:ga w X vp st.dh)
  (gp:(iL st).small) (FR:(fw (jK (iL st))).length≤2^33) (Ib:st.dM.length≤2^40) (zy:st.dh.length≤2^40):
  Ct pg 3 #[a,st.v vh vp,I fP] w X nX fun v w1 w2=>v=B true:=by
 obtain⟨hb,hn,hc,rfl⟩: ∃b n c,vh= .slice b n c:=let⟨_,h,_⟩:=h1;h.form
 obtain⟨pb',pn',pc',rfl⟩: ∃b n c,vp= .slice b n c:=let⟨_,h,_⟩:=h2;h.form
 intro w0 hk;replace ha:=eE.mv ha jA.mv hk.cO;replace h1:=h1.mv hk.cO;replace h2:=h2.mv hk.cO;have jG:=ha.len;have hlp:=h2.len;have oh:=eE.one h1;have od:=eE.one h2;have qm: ∀{w:World} {X:XS} {K:Value→World→XS→Prop},ak (aS w0) w0 X w→(∀w' X',ak X w X' w'→K (B true) w' X')→eC pg (Ih nX w0 fun v w'=>(fun v w1 w2=>v=B true) v w0 w') X w true 4 #[] K:=fun hs k=>
  dZ PM kQ hs.has k
 apply xF;unfold px;have hs:=ak.init w0;refine qm hs fun w1 X1 ax=>?_;replace hs:=hs.trans ax;repeat' first|refine aN ?_;intros
 refine dW (Tu (eE.mv ha jA.mv hs.mv)) kQ hs.has ?_;rintro _ wa w X ⟨bf,rfl⟩ hle gF dJ;replace hs:=hs.trans dJ;cases bf with
 |false=>
  repeat' first|refine aN ?_;intros|with_reducible apply dg
  refine qm hs fun w3 X3 dT=>?_
  skip
  exact aj (hs.trans dT) fun _ _=>rfl
 |true=>
  repeat' first|refine aN ?_;intros|with_reducible apply dg
  refine dW (kr (s:=st) (h1.mv hs.mv) (h2.mv hs.mv)) kQ hs.has ?_;rintro _ wa w X ⟨nw,rfl⟩ hle gF dT;replace hs:=hs.trans dT;by_cases hw:nw>20000
  ·repeat' first|refine bY ?_;intros
   refine qm hs fun w3 X3 dT=>?_
   skip
   exact aj (hs.trans dT) fun _ _=>rfl
  ·repeat' first|refine bY ?_;intros
   refine dW Ig kQ hs.has ?_;rintro _ sB w4 X4 ⟨db,rfl,ZV⟩ vI nF jh;have Na:=hs.kp.size;replace hs:=hs.trans jh;have fG:Ft w0 nX w4 X4 (fun k=>made sB w4 k):=⟨hs.less (fun k ae=>ae.1),fun k ae=>nF k ae,fun k ae=>.inr (af Na (af vI ae.1))⟩;refine fG.call (BF (no:=12) ZV (fG.fx fun _ h=>h) (by decide)) kQ (fun _ h=>h) fun v To w5 X5 hq Jl Ni Nk c5=>?_;obtain⟨nb,lb,mb,N,G,rfl,hN,hG,h5⟩:=hq;have iJ:Ft w0 nX w5 X5 (fun k=>N k∨G k):=Nk.less fun k ae=>ae.elim (fun e=>.inr (hN k e)) (hG k);clear hs Nk;have hs:=iJ.lK;repeat' first|refine bY ?_;intros
   refine eQ (fun n a w X=> ∃i:Nat,a=I (i:Nat)∧n=xs.length-i∧i≤xs.length∧Ft w0 nX w X (fun k=>N k∨G k)∧iv w N G nb lb db mb (.pointer none) (.pointer none) (wg 12) (xL 4096).L (xL 4096).m) xs.length ⟨0,rfl,rfl,aP _,iJ,h5⟩ ?_;clear hs iJ h5 c5;rintro n a w X ⟨i,rfl,rfl,hi,hT,h5⟩;have hs:=hT.lK;have bK:=h5.row.mono fun k ae=>hT.bN k (.inl ae);have zz: ∀k,N k→X k:=fun k ae=>hT.bN k (.inl ae);have KC: ∀k,G k→X k:=fun k ae=>hT.bN k (.inr ae);rcases eG xs i with⟨dA,o,hx,hd⟩|⟨ec,hd⟩
   ·obtain⟨z1,z2⟩:=hm o (cC hx);have haw:=eE.mv ha jA.mv hs.mv;repeat' first|refine bY ?_;intros|(with_reducible apply Az);(case h=>assumption);(case hr=>exact hx);(case hz=>rfl);(case ht=>kernel_rfl);(case hs=>kernel_rfl);intros
    refine iF (Q:=fun K=> ∀w1 X1,ak X w X1 w1→K w1 X1) ?_ fun K hK=>?_
    ·intro w1 X1 ax;refine iF (Q:=fun K=> ∀w2 X2,ak X1 w1 X2 w2→K w2 X2) ?_ fun K2 hK2=>?_
     ·intro w2 X2 dJ;have uB:=ax.trans dJ;have qK:=bK.since uB;have hn7: ∀w X,Sl w X 4 di (([]:List ic).map ic.l):=fun _ _=>Sl.nil _ _ _;have hn6: ∀w X,Sl w X 1 di (([]:List Int).map I1):=fun _ _=>Sl.nil _ _ _;have BH:=hs;clear hs;have hs:=ak.fC dJ.has;refine dZ (kR qK) kQ hs.has fun w3 X3 dT=>?_;replace hs:=hs.trans dT;rw [show(wg 12).born=false from rfl];repeat' first|refine aN ?_;intros|with_reducible apply dg
      refine dZ (Nf (qK.since hs)) kQ hs.has fun w3 X3 dT=>?_;replace hs:=hs.trans dT;repeat' first|refine aN ?_;intros|with_reducible apply dg
      refine dZ (K5 (qK.since hs) rfl) kQ hs.has fun w3 X3 dT=>?_;replace hs:=hs.trans dT;have h77:=hn7 w3 X3;repeat' first|refine aN ?_;intros|refine du ?_ ?_<;>intros|with_reducible apply dg|(exfalso;simp only [bA] at*;omega)
      refine dZ (K6 (qK.since hs)) kQ hs.has fun w3 X3 dT=>?_;replace hs:=hs.trans dT;have h66:=hn6 w3 X3;repeat' first|refine bY ?_;intros|with_reducible apply dg
      refine dZ (yk (qK.since hs)) kQ hs.has fun w3 X3 dT=>?_;replace hs:=hs.trans dT;rw [show(wg 12).ceil=0 from rfl];repeat' first|refine bY ?_;intros|with_reducible apply dg
      refine dZ (Jh (qK.since hs) rfl) kQ hs.has fun w3 X3 dT=>?_;replace hs:=hs.trans dT;repeat' first|refine aN ?_;intros|with_reducible apply dg
      refine dZ (yp (s:=.zero) (t:=.zero) (eE.nil _ _ _) (eE.nil _ _ _) (eE.nil _ _ _) (eE.nil _ _ _)) kQ hs.has fun w3 X3 dT=>?_;replace hs:=hs.trans dT;rw [decide_eq_true rfl];repeat' first|refine aN ?_;intros|with_reducible apply dg
      refine dZ (Ji (qK.since hs) rfl) kQ hs.has fun w3 X3 dT=>?_;replace hs:=hs.trans dT;have hsw:=uB.trans hs;repeat' first|refine bY ?_;intros
      exact eT (xs.length-(i+1)) zQ ⟨i+1,by simp,rfl,by omega,hT.since hsw,h5.since zz KC hsw⟩
     ·have sJ:=bK.since ax;have adU:=eE.mv haw jA.mv ax.mv;have BH:=hs;clear hs;have hs:=ak.fC ax.has;repeat' first|refine aN ?_;intros|refine du ?_ ?_<;>intros|(with_reducible apply Az);(case h=>assumption);(case hr=>exact hx);(case hz=>rfl);(case ht=>kernel_rfl);(case hs=>kernel_rfl);intros
      ·refine dZ (K7 sJ rfl) kQ hs.has fun w2 X2 dJ=>?_;have hn0:Sl w2 X2 36 di (([]:List fq).map fun g=>g.l di di di di di di di di):=Sl.nil _ _ _;repeat' first|refine bY ?_;intros|refine du ?_ ?_<;>intros|(exfalso;simp only [bA] at*;omega)
       exact hK2 _ _ dJ
      ·exact hK2 _ _ hs
    ·have BH:=hs;clear hs;have hs:=ak.fC BH.has;repeat' first|refine aN ?_;intros|refine du ?_ ?_<;>intros|(with_reducible apply Az);(case h=>assumption);(case hr=>exact hx);(case hz=>rfl);(case ht=>kernel_rfl);(case hs=>kernel_rfl);intros
     ·refine dZ (K9 (g:=Ty o.m) bK rfl (aab (jA.at.m (by assumption))) z1 z2 (by assumption)) kQ hs.has fun w2 X2 dJ=>?_;have hn0:Sl w2 X2 36 di (([]:List fq).map fun g=>g.l di di di di di di di di):=Sl.nil _ _ _;repeat' first|refine bY ?_;intros|refine du ?_ ?_<;>intros|(exfalso;simp only [bA] at*;omega)
      exact hK _ _ dJ
     all_goals exact hK _ _ hs
   ·repeat' first|refine bY ?_;intros
    refine eQ (fun n a w X=> ∃j:Nat,a=I (j:Nat)∧1≤j∧n=st.dh.length-j∧(∀k,1≤k→k<j→ ∀x y,st.dh[k-1]? =some x→st.dh[k]? =some y→x.dq.less y.dq=true)∧Ft w0 nX w X (fun k=>N k∨G k)∧
     iv w N G nb lb db mb (.pointer none) (.pointer none) (wg 12) (xL 4096).L (xL 4096).m) (st.dh.length-1) ⟨1,rfl,Nat.le_refl _,rfl,fun k h1 h2=>by omega,hT,h5⟩ ?_
    clear hs hT h5 bK zz KC;rintro n a w X ⟨j,rfl,hj,rfl,RC,hT,h5⟩;have hs:=hT.lK;have h2w:=h2.mv hs.mv;rcases eG st.dh j with⟨dA,y,hy,hd⟩|⟨ec,hd⟩
    ·have hxE: ∃x,st.dh[j-1]? =some x:=⟨_,bk zQ⟩;clear hy;have Ng:=hs;clear hs;have hs:=ak.fC hT.s.has;obtain⟨x,hx⟩:=hxE;refine WX h2w kQ ?_;refine Tz zQ (QI (WY zQ zQ ?_));refine AD h2w hx zQ kQ kQ fun b1 o1 vr1 vw1 q1 q2 HR _ _=>?_;repeat' first|refine aN ?_;intros|((with_reducible apply AD);assumption;(try (case hz=>rfl));(case hr=>exact qR);(try (case hz=>omega));(case ht=>kernel_rfl);(case hs=>kernel_rfl);intros)|((with_reducible refine dw (B6 _ _) ?_ hs.has ?_ ?_);(· kernel_rfl);all_goals (intro _ w X ax;replace hs:=hs.trans ax))
     ·rename_i adJ _ _ _;refine eT (st.dh.length-(j+1)) zQ ⟨j+1,by simp,by omega,rfl,fun k xG hk2 u v hu hv=>?_,hT.since hs,h5.since (fun k ae=>hT.bN k (.inl ae)) (fun k ae=>hT.bN k (.inr ae)) hs⟩;by_cases Zj:k=j
      ·subst Zj;rw [hx] at hu;rw [bk dA] at hv;cases hu;cases hv;first|assumption|exact ‹x.dq.less _=true›
      ·exact RC k xG zQ u v hu hv
     ·refine qm (hT.lK.trans hs) fun w3 X3 dT=>?_
      skip
      exact aj ((hT.lK.trans hs).trans dT) fun _ _=>rfl
    ·have WZ:=QH (l:=st.dh) fun k xG u v hu hv=>RC k xG (by
      have:=(List.getElem?_eq_some_iff.1 hv).1;omega) u v hu hv
     clear RC;have hFX: ∀k,N k∨G k→X k∧k<w.heap.size:=fun k ae=>⟨hT.bN k ae,hT.s.has k (hT.bN k ae)⟩;have aac: ∀k,N k∨G k→ ¬k<w0.heap.size:=fun k ae hl=>(hT.v k ae).elim (fun e=>e) fun e=>by omega
     repeat' first|refine bY ?_;intros
     have h1o:gb w (aS w0) (.slice hb hn hc) (iL st).dM:=h1.mv fun k ae _=>⟨ae,hs.kp.block k ae⟩;have h2o:ga w (aS w0) (.slice pb' pn' pc') (iL st).dh:=h2.mv fun k ae _=>⟨ae,hs.kp.block k ae⟩;refine hT.call (BE (st:=iL st) (S:=aS w0) (n:=1) h5 (fun k ae=>hFX k (.inl ae)) (fun k ae=>hFX k (.inr ae)) rfl Rn zQ h1o h2o (fun k ae=>⟨hs.sub k ae,hs.has k (hs.sub k ae),fun e=>?_,fun e=>?_⟩) gp FR (by decide)) kQ (fun k ae=>ae.imp (fun e=>by rw [e];exact h5.row.1) fun e=>e) fun v WG w6 X6 hq Rm MV kO c6=>?_
     ·exact aac k (.inl (by rw [e];exact h5.row.1)) ae
     ·exact aac k (.inr e) ae
     obtain⟨rfl,q1,q2⟩:=hq;generalize ZF:jy ⟨(xL 4096).L,(xL 4096).m⟩ (wg 12) (iL st)=be at q1 q2⊢;by_cases hz:be=0
     ·obtain⟨Db,BD,N6,G6,sb,kb,pb,cb,A,T,ZH,hN6,hG6,hB⟩:=q2 hz;clear q1 q2 ZF;have acT:=(State.zw Db).2;have hh:=RA acT;have hnk:((iL st).dM.map (·.key)).Nodup:=(GI hh).1.imp fun h=>h.2;have Ww:((iL st).dh.map (·.dq)).Nodup:=WZ.imp fun h e=>by rw [e,dB.uU] at h;cases h
      have ehb:=Rz hh;have vW: ∀x∈iA (iL st).dM,x.1.size≤2^40∧x.2.length≤2^40:=fun x hx=>by
       rw [AA hnk] at hx;obtain⟨y,hy,rfl⟩:=List.mem_map.1 hx;exact⟨gp.3 y hy,gp.1 y hy⟩
      have Nt: ∀x∈kI (iL st).dh,x.2.reads.length≤2^40∧x.2.writes.length≤2^40:=fun x hx=>by
       rw [yS Ww] at hx;obtain⟨y,hy,rfl⟩:=List.mem_map.1 hx;exact gp.2 y hy
      have hhl:(iA (iL st).dM).length≤2^40:=by rw [AA hnk,bm];exact Ib
      have CP:(kI (iL st).dh).length≤2^40:=by rw [yS Ww,bm];exact zy
      generalize (iO ⟨(xL 4096).L,(xL 4096).m⟩ (iL st)).1.L=L6 at hB;generalize (iO ⟨(xL 4096).L,(xL 4096).m⟩ (iL st)).1.m=m6 at hB;have uy:Ft w0 nX w6 X6 (fun k=>N6 k∨G6 k):=kO.less fun k ae=>ae.elim (fun e=>(hN6 k e).imp .inl fun e=>e) fun e=>(hG6 k e).imp .inr fun e=>e;subst hz;clear hs;have hs:=kO.lK;repeat' first|refine bY ?_;intros
      refine qm hs fun w7 X7 vj=>?_;have kP:=uy.since vj;have FY:=hB.since (fun k ae=>⟨uy.bN k (.inl ae),uy.s.has k (uy.bN k (.inl ae))⟩) (fun k ae=>uy.bN k (.inr ae)) vj;have Nn: ∀k,N6 k→X7 k:=fun k ae=>kP.bN k (.inl ae);have EE:=FY.n.row.mono Nn;have ht7:ek w7 X7 A sb kb pb (iA (iL st).dM) (kI (iL st).dh) .zero:=FY.t.mv (fun k ae=>kP.s.has k (Nn k (FY.tn k ae).1)) (Mv.sub fun k ae=>Nn k (FY.tn k ae).1);repeat' first|refine aN ?_;intros|with_reducible apply dg
      refine dZ (kR EE) kQ kP.s.has fun w8 X8 Ii=>?_;rw [show((wg 12).sL (iL st)).born=true from rfl];repeat' first|refine aN ?_;intros|with_reducible apply dg
      refine dW (Jj (EE.since Ii) rfl (ht7.mv kP.s.has Ii.mv) Ii.has (fun x hx=>(vW x hx).1) (fun x hx=>(vW x hx).2) hhl Nt CP) kQ Ii.has ?_;rintro v CN w9 X9 ⟨uh,up,ps,rfl,oh9,op9,hp9,aad⟩ adV aae BH;have eps:ps=(iL st).dh:=Tx WZ hp9 aad;rw [ehb] at oh9;rw [eps] at op9;clear hp9 aad;subst eps;have ouh:=eE.one oh9;have oup:=eE.one op9;have aaf:=Ii.trans BH;have CC:=kP.lK.trans aaf;repeat' first|refine aN ?_;intros|with_reducible apply dg
      refine dZ (yp (s:=⟨(iL st).range,(iL st).floor,(iL st).closed,(iL st).dM,(iL st).dh⟩) (t:=iL st) (oh9.mv (Mv.sub aae)) (op9.mv (Mv.sub aae)) (h1.mv CC.mv) (h2.mv CC.mv)) kQ BH.has fun Np Nq Nr=>?_;rw [decide_eq_true rfl];repeat' first|refine aN ?_;intros|with_reducible apply dg
      refine dZ (Jk (st:=iL st) (EE.since (aaf.trans Nr)) rfl oh od) kQ Nr.has fun w11 X11 acU=>?_;repeat' first|refine bY ?_;intros
      exact aj ((CC.trans Nr).trans acU) fun _ _=>rfl
     ·obtain⟨G6,L6,m6,hG6,h6⟩:=q1 hz;have uy:Ft w0 nX w6 X6 (fun k=>N k∨G6 k):=kO.less fun k ae=>ae.elim (fun e=>.inl (.inl e)) fun e=>(hG6 k e).imp .inr fun e=>e;clear hs;have hs:=kO.lK;repeat' first|refine bY ?_;intros
      refine qm hs fun w7 X7 vj=>?_;have kP:=uy.since vj;have h7:=h6.since (fun k ae=>uy.bN k (.inl ae)) (fun k ae=>uy.bN k (.inr ae)) vj;repeat' first|refine aN ?_;intros|with_reducible apply dg
      refine dZ (kR (h7.row.mono fun k ae=>kP.bN k (.inl ae))) kQ kP.s.has fun w8 X8 Ii=>?_;rw [show(wg 12).born=false from rfl];repeat' first|refine aN ?_;intros
      exact aj (kP.lK.trans Ii) fun _ _=>rfl
end Go.Proofs.YteomdhcbhmaiaaaGreat
