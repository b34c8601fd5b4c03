/-
 Part 4 of the proof: what the last text leans on.
-/
import Derived.Test.YtpdkoaklobnegaaGreatH3
open Nat renaming le_trans → ah, zero_le → aV, mod_eq_of_lt → fe, mul_le_mul_right → dM, pow_succ → jg, add_assoc → qI, div_div_eq_div_mul → nT, mul_comm → wB, lt_of_lt_of_le → aU, two_pow_add_eq_or_of_lt → pA
open List renaming length_append → ae, append_assoc → ax, mem_of_getElem? → bg, take_of_length_le → cl, length → aB, map_append → bq, length_cons → bC, flatten_cons → dg, length_take → bQ, drop_drop → gy, length_drop → b8, length_map → aS, map_cons → bh, flatten_append → fZ, take_left' → mH, take_add_one → dI, all_cons → jt, length_nil → cA, drop_left → pV, drop_zero → kl, any_cons → kT, append_nil → cp, take_append_drop → ij, getElem?_drop → fu, mem_singleton → bo, nil_append → cV, mem_of_mem_take → tV, getElem?_take_of_lt → gb, drop_left' → kL, mem_append_left → bU, take_length → dV
open BitVec renaming ofInt → aP, ofNat → kq, toNat_ofNat → fU, ofInt_natCast → jy, allOnes → z6, allOnes_xor → vM, toNat_not → x7, toNat_or → yW
open Go.IntKind renaming signed → gT, bits → jh, wrap → kr
open Go.Value renaming string → cz
open UInt8 renaming toNat → nO
open Go.Op renaming unary → aY, intBits → zh
open Int renaming fdiv_eq_ediv_of_nonneg → mI
open Array renaming length_toList → dy
open Bool renaming and_eq_true → aG
open Option.some renaming injEq → aC
set_option linter.unusedVariables false
set_option linter.unusedSimpArgs false
namespace Go.Proofs.YtpdkoaklobnegaaGreat
open Go.Proofs.Tryz renaming prog → pg
open Go.fR
set_option maxRecDepth 100000
set_option maxHeartbeats 1000000
set_option linter.unusedVariables false
set_option linter.unusedSimpArgs false
attribute [local irreducible] un jn bz aQ aX gL eo dx cr nu fF mO BK AB jc iS aa ay aF eW eV eU eC eF gE ao fin aN aH aI vS BL jB lq wK D9 Ea Eb Ec BM jC lr wL Ed Ee Ef Eg
def tle (a b:BA):Bool:=kO a b||decide (a=b)
def zi:bZ→List lV→Bool
 |_,[]=>true
 |s,v::r=>v.br.may&&decide (v.br.cmp s>0)&&v.val.may&&zi v.br r
def jO.ok (h:jO) (ahead:BA):Bool:=g8 h.key&&!tle h.key ahead&&decide (h.kn≠[])&&zi .zero h.kn
theorem P2 {w:World} {X:XS} {h:jO} {vv:Value} {ahead:BA} (ha:Sl w X 6 vv (h.kn.map lV.l)):
  Ct pg 316 #[.agg (h.l vv).toArray,.string ahead] w X nX fun v _ _=>v=B (h.ok ahead):=by
 intro w0 hk
 replace ha:=ha.mv hk.dA
 have nw:=ha.gW
 apply Od;unfold C4
 have hs:=aj.init w0
 repeat' first|with_reducible (first|apply aD|apply ak|apply ff|apply dG|apply fb|apply cD|apply dW|apply bE|apply bt|apply eY|apply gv)|(with_reducible apply gF<;>intro _)|(with_reducible apply ae4<;>intros)|(with_reducible apply bS);exact qO;(· kernel_rfl)|(with_reducible apply gg);(· kernel_rfl)|(with_reducible apply fj);(case h=>exact qE)|(with_reducible apply eh);exact qC|((with_reducible refine dU (qi _) ?_ hs.has ?_ ?_);(· kernel_rfl);all_goals (intro _ w X au;replace hs:=hs.trans au))|((first|(with_reducible refine aq hs ?_)|(with_reducible refine aq (cg.trans hs) ?_));intro wa hk;(simp_all [jO.ok,tle]<;>grind))
 refine iN (fun n a b w X=> ∃(i:Nat) (s:bZ),a=I i∧b=s.v∧n=h.kn.length-i∧i≤h.kn.length∧aj (aW w0) w0 X w∧zi .zero h.kn=zi s (h.kn.drop i)) h.kn.length
  ⟨0,.zero,rfl,rfl,rfl,aV _,hs,by simp⟩ ?_
 rintro n a b w X ⟨i,s,rfl,rfl,rfl,hi,hs,hw⟩
 have dr:h.kn≠[]:=by intro e;simp_all
 rcases fh (h.kn) i with⟨dh,x,hx,hd⟩|⟨eI,hd⟩
 ·rw [hd,zi] at hw
  clear hd
  repeat' first|(with_reducible refine dC ?_ ?_);omega|with_reducible (first|apply aD|apply ak)|(with_reducible apply ji);exact qN|with_reducible (first|apply ff|apply dG|apply fb|apply cD|apply dW|apply bE|apply bt|apply oz|apply pP|apply eY|apply gv)|(with_reducible apply jK<;>intro _)|(with_reducible apply fP);exact qF;exact qM;(· kernel_rfl);rfl|((with_reducible apply e7);exact qO;(try (case hz=>rfl));(case hr=>exact qR);(try (case hz=>omega));(case ht=>kernel_rfl);(case hs=>kernel_rfl);intro _ _ _)|(with_reducible apply fj);(case h=>exact qE)|(with_reducible apply eh);exact qC|(with_reducible apply cx);omega;omega|with_reducible apply dY|((with_reducible refine iO (pM _ _) ?_ hs.has ?_);(· kernel_rfl);intro w X au;replace hs:=hs.trans au)|((with_reducible refine dU (mz _) ?_ hs.has ?_ ?_);(· kernel_rfl);all_goals (intro _ w X au;replace hs:=hs.trans au))|((with_reducible refine dU (oM _) ?_ hs.has ?_ ?_);(· kernel_rfl);all_goals (intro _ w X au;replace hs:=hs.trans au))|((first|(with_reducible refine aq hs ?_)|(with_reducible refine aq (cg.trans hs) ?_));intro wa hk;(simp_all [jO.ok,tle]<;>grind))|((with_reducible refine iC ((h.kn).length-(i+1)) ?_ ?_);omega;exact⟨i+1,x.br,by simp,rfl,rfl,by omega,hs,by simp_all⟩)
 ·repeat' first|(with_reducible refine dm ?_ ?_);omega|with_reducible apply ak|((first|(with_reducible refine aq hs ?_)|(with_reducible refine aq (cg.trans hs) ?_));intro wa hk;(simp_all [jO.ok,tle,zi]<;>grind))
def fk.has (p:fk) (k:BA):Bool:=p.writes.any fun w=>decide (w.key=k)
theorem MJ {w:World} {X:XS} {x:KV} {k:BA} {b:Nat} (h:Cells w X b 0 [.string k]):
  Ct pg 370 #[.agg x.l.toArray,ptr b 0] w X nX fun v _ _=>v=B (decide (x.key=k)):=by
 intro w0 hk
 replace h:=h.mv hk.dA
 apply KU;unfold AJ
 have hs:=aj.init w0
 repeat' first|(with_reducible apply zJ<;>intro _)|(with_reducible apply aZ);exact qF;exact qM;(· kernel_rfl);rfl|((first|(with_reducible refine aq hs ?_)|(with_reducible refine aq (cg.trans hs) ?_));intro wa hk;simp_all)
theorem Hl {w:World} {X:XS} {p:fk} {vr vw:Value} {k:BA} (hX: ∀k,X k→k<w.heap.size) (h2:Sl w X 4 vw (p.writes.map KV.l)):
  Ct pg 350 #[p.v vr vw,.string k] w X nX fun v _ _=>v=B (p.has k):=by
 intro w0 hk
 replace h2:=h2.mv hk.dA
 apply PY;unfold EM
 have hs:=aj.init w0
 repeat' first|(with_reducible apply sI);(case ho=>rfl);(case hX=>exact hs.has);intro bx w X iH au dK;have cg:=hs.trans au;replace hs:=aj.eP au.has|(with_reducible apply jx)|((first|(with_reducible refine aq hs ?_)|(with_reducible refine aq (cg.trans hs) ?_));intro wa hk;(simp [fk.has]))|(refine dt (EX (p:=fun x=>decide (x.key=k)) (h2.mv (aj.mv (cg.trans hs))) hs.has (by kernel_rfl) fun x=>MJ (x:=x) (by first|exact dK.cells)) (by kernel_rfl) hs.has ?_;intro w X au;replace hs:=hs.trans au)
theorem Xs:xq pg 33 (fun k:gM=>k.v):=
 abQ (n:=3) (by kernel_rfl) (fun k:gM=>[k.jR,k.nj,k.sq]) (fun _=>rfl) (fun a b h=>by
  simp only [List.cons.injEq,and_true] at h
  exact gM.ext h.1 h.2.1 h.2.2)
theorem Ug:xq pg 9 (fun s:BA=>cz s):=rU (by kernel_rfl)
def pW (w:World) (A:XS) (v:Value) (l:List lV):Prop:=Sl w A 6 v (l.map lV.l)
def oY (w:World) (A:XS) (v:Value) (p:fk):Prop:= ∃vr vw,v=p.v vr vw∧Sl w A 1 vr (p.reads.map S1)∧Sl w A 4 vw (p.writes.map KV.l)
theorem pW.mv:tJ pW:=fun _ _ _ _ _ _ h m=>Sl.mv h m
theorem oY.mv:tJ oY:=fun _ _ _ _ _ _ ⟨vr,vw,h,h1,h2⟩ m=>⟨vr,vw,h,h1.mv m,h2.mv m⟩
structure kM (w:World) (X A:XS) (sb kb pb:Nat) (hm:List (BA×List lV)) (pm:List (gM×fk)) (low:bZ):Prop where
 box:bJ w X sb [.map (some kb),.map (some pb),I low.wall,I low.fA,I low.node] 382
 keys:jm w X A kb (fun s:BA=>cz s) pW hm
 iD:jm w X A pb (fun k:gM=>k.v) oY pm
 sub: ∀k,A k→X k
 off: ∀k,A k→k≠sb∧k≠kb∧k≠pb
theorem kM.mv {w w':World} {X Y A:XS} {sb kb pb:Nat} {hm:List (BA×List lV)} {pm:List (gM×fk)} {low:bZ} (h:kM w X A sb kb pb hm pm low)
  (hX: ∀k,X k→k<w.heap.size) (m:Mv X w Y w'):kM w' Y A sb kb pb hm pm low:=by
 have ma:Mv A w A w':=fun k hk hl=>⟨hk,(m k (h.sub k hk) hl).2⟩
 exact⟨h.box.mv m,h.keys.mv pW.mv m ma,h.iD.mv oY.mv m ma,fun k hk=>(m k (h.sub k hk) (hX k (h.sub k hk))).1,h.off⟩
theorem ab3 {w:World} {X A:XS} {kb:Nat} {hm:List (BA×List lV)} {k:BA} {N:Value→Prop} {w0:World} {X0:XS} (h:jm w0 X0 A kb (fun s:BA=>cz s) pW hm) (hA: ∀k,A k→X0 k) (m:Mv X0 w0 X w)
  (n: ∀v,Sl w0 X0 6 v (((getM k hm).getD []).map lV.l)→N v):aa pg X w (Instr.lookup 379 (.map (some kb)) (.string k) false) N:=by
 have h':jm w X A kb (fun s:BA=>cz s) pW hm:=h.mv pW.mv m fun k hk hl=>⟨hk,(m k (hA k hk) hl).2⟩
 obtain⟨es,c,h1,h2⟩:=h
 have m':Mv A w0 A w:=fun k hk hl=>⟨hk,(m k (hA k hk) hl).2⟩
 refine Iu (et:=286) (A:=X) (rd:=fun w X v l=>Sl w0 A 6 v (l.map lV.l)) (l:=hm) (.slice none 0 0) ?_ Ug (by kernel_rfl) (by kernel_rfl) (fun v a hg hr=>?_) fun hg=>?_
 ·exact⟨es,c,h1.mv m,by
   clear h1 h' n
   induction es generalizing hm with
   |nil=>cases hm<;>first|trivial|exact h2.elim
   |cons e es ih=>cases hm with
    |nil=>exact h2.elim
    |cons x l=>exact⟨h2.1,h2.2.1,ih h2.2.2⟩⟩
 ·exact n v (by rw [hg];exact Sl.mv hr (Mv.sub hA))
 ·exact n _ (by rw [hg];exact Sl.nil _ _ _)
def fk.Bl (x q:fk):Bool:=x.writes.any (fun w=>q.has w.key||q.reads.any fun k=>decide (w.key=k))||x.reads.any fun k=>q.has k
def B8 (l:List lV) (mq:bZ) (all:Bool):fq×bZ:=l.foldl (fun s v=>if all||decide (v.br.cmp mq≤0)then(v.val,v.br)else s) (.zero,.zero)
def EY (hm:List (BA×List lV)) (k:BA):List lV:=(getM k hm).getD []
abbrev YI (k:BA) (s:fq×bZ):Value:=.agg #[.string k,I s.1.kind,.float .f64 s.1.num,.string s.1.text,I s.2.wall,I s.2.fA,I s.2.node]
theorem R5 {w:World} {X A:XS} {sb kb pb:Nat} {hm:List (BA×List lV)} {pm:List (gM×fk)} {low mq:bZ} {k:BA} {all:Bool}
  (h:kM w X A sb kb pb hm pm low) (hX: ∀k,X k→k<w.heap.size):
  Ct pg 372 #[ptr sb 0,.string k,mq.v,B all] w X nX fun v _ _=>v=YI k (B8 (EY hm k) mq all):=by
 intro w0 hk
 replace h:=h.mv hX hk.dA
 have iH:=h.box
 have hkm:=h.keys
 apply FK;unfold xH
 have hs:=aj.init w0
 repeat' first|with_reducible (first|apply ff|apply aK)|(with_reducible apply aM);exact qF;(· kernel_rfl);rfl;intro _ _ _|(with_reducible apply aZ);exact qF;exact qM;(· kernel_rfl);rfl|(with_reducible apply gg);(· kernel_rfl)|(with_reducible apply fj);(case h=>exact qE)|(with_reducible apply eh);exact qC
 refine ab3 hkm h.sub (Mv.refl _ _) fun vv hvv=>?_
 show aa _ _ _ _ _
 have Xq:EY hm k=(getM k hm).getD []:=rfl
 rw [←Xq] at hvv
 generalize EY hm k=vs at hvv
 have nw:=hvv.gW
 repeat' first|(with_reducible apply bS);exact qO;(· kernel_rfl)
 refine iN (fun n a b w X=> ∃(i:Nat) (s:fq×bZ),a=I i∧b=YI k s∧n=vs.length-i∧i≤vs.length∧aj (aW w0) w0 X w∧
  B8 vs mq all=(vs.drop i).foldl (fun s v=>if all||decide (v.br.cmp mq≤0)then(v.val,v.br)else s) s) vs.length ⟨0,(.zero,.zero),rfl,rfl,rfl,aV _,hs,by rw [kl];rfl⟩ ?_
 rintro n a b w X ⟨i,s,rfl,rfl,rfl,hi,hs,hw⟩
 rcases fh (vs) i with⟨dh,x,hx,hd⟩|⟨eI,hd⟩
 ·rw [hd,List.foldl_cons] at hw
  cases all
  ·repeat' first|(with_reducible refine dC ?_ ?_);omega|with_reducible (first|apply aD|apply ak)|(with_reducible apply ji);exact qN|(with_reducible apply CF);exact qN|with_reducible (first|apply ff|apply dG|apply cD|apply bt|apply oz)|(with_reducible apply jK<;>intro _)|(with_reducible apply fP);exact qF;exact qM;(· kernel_rfl);rfl|((with_reducible apply e7);exact qO;(try (case hz=>rfl));(case hr=>exact qR);(try (case hz=>omega));(case ht=>kernel_rfl);(case hs=>kernel_rfl);intro _ _ _)|(with_reducible apply fj);(case h=>exact qE)|(with_reducible apply eh);exact qC|(with_reducible apply cx);omega;omega|with_reducible apply dY|((with_reducible refine iO (pM _ _) ?_ hs.has ?_);(· kernel_rfl);intro w X au;replace hs:=hs.trans au)|((with_reducible refine iC ((vs).length-(i+1)) ?_ ?_);omega;exact⟨i+1,(x.val,x.br),by simp,rfl,rfl,by omega,hs,by rw [hw];simp [*]⟩)|((with_reducible refine iC ((vs).length-(i+1)) ?_ ?_);omega;exact⟨i+1,s,by simp,rfl,rfl,by omega,hs,by rw [hw];simp [*]⟩)
  ·repeat' first|(with_reducible refine dC ?_ ?_);omega|with_reducible apply aD|(with_reducible apply ji);exact qN|(with_reducible apply CF);exact qN|with_reducible (first|apply ff|apply fb|apply dW|apply bE|apply pP)|(with_reducible apply fP);exact qF;exact qM;(· kernel_rfl);rfl|((with_reducible apply e7);exact qO;(try (case hz=>rfl));(case hr=>exact qR);(try (case hz=>omega));(case ht=>kernel_rfl);(case hs=>kernel_rfl);intro _ _ _)|(with_reducible apply fj);(case h=>exact qE)|(with_reducible apply eh);exact qC|(with_reducible apply cx);omega;omega|with_reducible apply dY|((with_reducible refine iC ((vs).length-(i+1)) ?_ ?_);omega;exact⟨i+1,(x.val,x.br),by simp,rfl,rfl,by omega,hs,by rw [hw];simp [*]⟩)
 ·repeat' first|(with_reducible refine dm ?_ ?_);omega|with_reducible apply ak|(with_reducible apply ji);exact qN|with_reducible apply ff|(with_reducible apply fj);(case h=>exact qE)|(with_reducible apply eh);exact qC|((first|(with_reducible refine aq hs ?_)|(with_reducible refine aq (cg.trans hs) ?_));intro wa hk;(rw [hw,hd];rfl))
theorem R6 {w:World} {X A:XS} {sb kb pb:Nat} {hm:List (BA×List lV)} {pm:List (gM×fk)} {low:bZ} {k:BA}
  (h:kM w X A sb kb pb hm pm low) (hX: ∀k,X k→k<w.heap.size):
  Ct pg 352 #[ptr sb 0,.string k] w X nX fun v _ _=>v=YI k (B8 (EY hm k) .zero true):=by
 intro w0 hk
 replace h:=h.mv hX hk.dA
 apply FJ;unfold xG
 have hs:=aj.init w0
 repeat' first|(with_reducible apply ji);exact qN|with_reducible apply ff|(with_reducible apply gg);(· kernel_rfl)|(with_reducible apply fj);(case h=>exact qE)|(with_reducible apply eh);exact qC|((first|(with_reducible refine aq hs ?_)|(with_reducible refine aq (cg.trans hs) ?_));intro wa hk;rfl)|(refine dt (R5 (mq:=.zero) h hs.has) (by kernel_rfl) hs.has ?_;intro w X au;replace hs:=hs.trans au)
def Jm (hm:List (BA×List lV)) (x:fk):Bool:=x.writes.any fun w=>decide ((B8 (EY hm w.key) .zero true).2.cmp x.br≥0)
theorem YJ {w:World} {X A:XS} {sb kb pb:Nat} {hm:List (BA×List lV)} {pm:List (gM×fk)} {low:bZ} {x:fk} {vr vw:Value}
  (h:kM w X A sb kb pb hm pm low) (hX: ∀k,X k→k<w.heap.size) (h2:Sl w X 4 vw (x.writes.map KV.l)):
  Ct pg 319 #[ptr sb 0,x.v vr vw] w X nX fun v _ _=>v=B (Jm hm x):=by
 intro w0 hk
 replace h:=h.mv hX hk.dA
 replace h2:=h2.mv hk.dA
 have nw:=h2.gW
 apply La;unfold AX
 have hs:=aj.init w0
 repeat' first|(with_reducible apply bS);exact qO;(· kernel_rfl)
 refine fK (fun n a w X=> ∃i:Nat,a=I (i:Nat)∧n=(x.writes).length-i∧i≤(x.writes).length∧aj (aW w0) w0 X w∧Jm hm x=(x.writes.drop i).any (fun w=>decide ((B8 (EY hm w.key) .zero true).2.cmp x.br≥0))) (x.writes).length ⟨0,rfl,rfl,aV _,hs,by simp [Jm]⟩ ?_
 rintro n a w X ⟨i,rfl,rfl,hi,hs,hw⟩
 rcases fh (x.writes) i with⟨dh,y,hy,hd⟩|⟨eI,hd⟩
 ·rw [hd,kT] at hw
  repeat' first|(with_reducible refine dC ?_ ?_);omega|with_reducible (first|apply aD|apply ak)|(with_reducible apply gP);rfl|with_reducible apply ff|(with_reducible apply mG<;>intro _)|(with_reducible apply fP);exact qF;exact qM;(· kernel_rfl);rfl|((with_reducible apply e7);exact qO;(try (case hz=>rfl));(case hr=>exact qR);(try (case hz=>omega));(case ht=>kernel_rfl);(case hs=>kernel_rfl);intro _ _ _)|(with_reducible apply fj);(case h=>exact qE)|(with_reducible apply eh);exact qC|(with_reducible apply cx);omega;omega|(with_reducible apply afi);(case hf=>kernel_rfl);(case hg=>kernel_rfl);(case hlen=>rfl);(case hl=>exact qN)|((with_reducible refine iO (pM _ _) ?_ hs.has ?_);(· kernel_rfl);intro w X au;replace hs:=hs.trans au)|((first|(with_reducible refine aq hs ?_)|(with_reducible refine aq (cg.trans hs) ?_));intro wa hk;simp_all)|((with_reducible refine ga ((x.writes).length-(i+1)) ?_ ?_);omega;exact⟨i+1,by simp,rfl,by omega,hs,by rw [hw];simp [*]⟩)|(refine dt (R6 (h.mv (fun _ h=>h) (aj.mv hs)) hs.has) (by kernel_rfl) hs.has ?_;intro w X au;replace hs:=hs.trans au)
 ·repeat' first|(with_reducible refine dm ?_ ?_);omega|with_reducible apply ak|((first|(with_reducible refine aq hs ?_)|(with_reducible refine aq (cg.trans hs) ?_));intro wa hk;simp_all)
theorem R7 {w:World} {X A:XS} {sb kb pb:Nat} {hm:List (BA×List lV)} {pm:List (gM×fk)} {low:bZ} {x:fk} {vr vw:Value}
  (h:kM w X A sb kb pb hm pm low) (hX: ∀k,X k→k<w.heap.size) (h1:Sl w X 1 vr (x.reads.map S1)) (h2:Sl w X 4 vw (x.writes.map KV.l)):
  Ct pg 318 #[ptr sb 0,x.v vr vw] w X nX fun v _ _=>v=B (pm.any fun q=>x.Bl q.2):=by
 intro w0 hk
 replace h:=h.mv hX hk.dA
 replace h1:=h1.mv hk.dA
 replace h2:=h2.mv hk.dA
 have iH:=h.box
 have En:=h1.gW
 have LL:=h2.gW
 apply Gc;unfold xX
 have hs:=aj.init w0
 repeat' first|with_reducible apply aK|(with_reducible apply aM);exact qF;(· kernel_rfl);rfl;intro _ _ _|(with_reducible apply aZ);exact qF;exact qM;(· kernel_rfl);rfl
 refine ad8 (kt:=33) (et:=229) h.iD oY.mv h.sub (by kernel_rfl) hs.has fun r w X hr au Te=>?_
 replace hs:=hs.trans au
 refine iN (fun n _ _ w X=> ∃left,n=left.length∧aj (aW w0) w0 X w∧Iv w X A r pb (fun k:gM=>k.v) oY pm left∧(pm.any fun q=>x.Bl q.2)=left.any fun q=>x.Bl q.2)
  pm.length ⟨pm,rfl,hs,Te,rfl⟩ ?_
 rintro n a b w X ⟨left,rfl,hs,Te,hw⟩
 refine afg Te oY.mv (fun k hk=>⟨hs.sub k (h.sub k hk),fun e=>by have:k<w0.heap.size:=h.sub k hk;omega⟩) hs.has (fun e0 w X au=>?_) fun kx q v mT w1 X1 hc sK ahS he=>?_
 ·replace hs:=hs.trans au
  repeat' first|with_reducible apply ak|(with_reducible apply fp);rfl|((first|(with_reducible refine aq hs ?_)|(with_reducible refine aq (cg.trans hs) ?_));intro wa hk;(rw [hw,e0];rfl))
 ·have cg:=hs.ej hc fun k hk e=>by have:k<w0.heap.size:=hk;omega
  obtain⟨ur,uw,rfl,q1,q2⟩:=sK
  have hA1: ∀k,A k→X1 k:=fun k hk=>cg.sub k (h.sub k hk)
  replace q1:=q1.mv (Mv.sub hA1)
  replace q2:=q2.mv (Mv.sub hA1)
  have o1:=q1.one
  have o2:=q2.one
  rw [aan _ Te.nodup mT] at hw
  replace hs:=aj.eP cg.has
  repeat' first|with_reducible apply aD|(with_reducible apply fp);rfl
  refine ad9 hs.has he fun w X au=>?_
  replace hs:=hs.trans au
  repeat' first|with_reducible apply ff|(with_reducible apply bS);exact qO;(· kernel_rfl)|(with_reducible apply fp);rfl|(with_reducible apply fj);(case h=>exact qE)|(with_reducible apply eh);exact qC
  refine fK (fun n a w X=> ∃i:Nat,a=I (i:Nat)∧n=x.writes.length-i∧i≤x.writes.length∧aj X1 w1 X w∧
   (x.writes.any (fun w=>q.has w.key||q.reads.any fun k=>decide (w.key=k))=(x.writes.drop i).any (fun w=>q.has w.key||q.reads.any fun k=>decide (w.key=k)))) x.writes.length
   ⟨0,rfl,rfl,aV _,hs,by simp⟩ ?_
  rintro n a w X ⟨i,rfl,rfl,hi,hs,x8⟩
  rcases fh (x.writes) i with⟨dh,y,hy,hd⟩|⟨eI,hd⟩
  ·rw [hd,kT] at x8
   repeat' first|(with_reducible refine dC ?_ ?_);omega|with_reducible (first|apply aD|apply ak)|(with_reducible apply gP);rfl|(with_reducible apply ji);exact qN|with_reducible (first|apply ff|apply dG|apply fb|apply bE|apply bt|apply oz|apply pP)|(with_reducible apply fP);exact qF;exact qM;(· kernel_rfl);rfl|((with_reducible apply e7);exact qO;(try (case hz=>rfl));(case hr=>exact qR);(try (case hz=>omega));(case ht=>kernel_rfl);(case hs=>kernel_rfl);intro _ _ _)|(with_reducible apply fj);(case h=>exact qE)|(with_reducible apply eh);exact qC|(with_reducible apply cx);omega;omega|with_reducible apply dY|((first|(with_reducible refine aq hs ?_)|(with_reducible refine aq (cg.trans hs) ?_));intro wa hk;(rw [hw];simp [fk.Bl,x8, *]))|((with_reducible refine ga ((x.writes).length-(i+1)) ?_ ?_);omega;exact⟨i+1,by simp,rfl,by omega,hs,by rw [x8];simp [*]⟩)|(refine gZ (Hl  (p:=q) hs.has qA) (by kernel_rfl) hs.has ?_ ?_<;>(intro _ w X au;replace hs:=hs.trans au))|(refine gZ (MI  qA) (by kernel_rfl) hs.has ?_ ?_<;>(intro _ w X au;replace hs:=hs.trans au))
  ·rw [hd] at x8
   repeat' first|(with_reducible refine dm ?_ ?_);omega|with_reducible apply ak|(with_reducible apply bS);exact qO;(· kernel_rfl)
   refine fK (fun n a w X=> ∃i:Nat,a=I (i:Nat)∧n=x.reads.length-i∧i≤x.reads.length∧aj X1 w1 X w∧
    (x.reads.any (fun k=>q.has k)=(x.reads.drop i).any (fun k=>q.has k))) x.reads.length
    ⟨0,rfl,rfl,aV _,hs,by simp⟩ ?_
   rintro n a w X ⟨j,rfl,rfl,hj,hs,Hm⟩
   rcases fh x.reads j with⟨dh,y,hy,pO⟩|⟨P3,pO⟩
   ·rw [pO,kT] at Hm
    repeat' first|(with_reducible refine dC ?_ ?_);omega|with_reducible (first|apply aD|apply ak)|(with_reducible apply ji);exact qN|(with_reducible apply aZ);exact qF;exact qM;(· kernel_rfl);rfl|((with_reducible apply e7);exact qO;(try (case hz=>rfl));(case hr=>exact qR);(try (case hz=>omega));(case ht=>kernel_rfl);(case hs=>kernel_rfl);intro _ _ _)|(with_reducible apply eh);exact qC|(with_reducible apply cx);omega;omega|((first|(with_reducible refine aq hs ?_)|(with_reducible refine aq (cg.trans hs) ?_));intro wa hk;(rw [hw];simp [fk.Bl,Hm, *]))|((with_reducible refine ga (x.reads.length-(j+1)) ?_ ?_);omega;exact⟨j+1,by simp,rfl,by omega,hs,by rw [Hm];simp [*]⟩)|(refine gZ (Hl  (p:=q) hs.has qA) (by kernel_rfl) hs.has ?_ ?_<;>(intro _ w X au;replace hs:=hs.trans au))
   ·rw [pO] at Hm
    repeat' first|(with_reducible refine dm ?_ ?_);omega|with_reducible apply ak
    refine iC _ (ad7 mT) ⟨_,rfl,cg.trans hs,ahS.mv oY.mv (aj.mv hs) (aj.fC hs hA1),?_⟩
    rw [hw]
    have:x.Bl q=false:=by unfold fk.Bl;rw [x8,Hm];rfl
    simp [this]
def fk.fresh (wa w':World) (v:Value) (p:fk):Prop:=
 ∃vr vw,v=p.v vr vw∧Own w' (made wa w') wa.heap.size 9 1 vr (p.reads.map S1)∧Own w' (made wa w') wa.heap.size 53 4 vw (p.writes.map KV.l)∧
  ∀g,vr.ownBlock=some g→vw.ownBlock≠some g
theorem Uh {w:World} {X:XS} {p:fk} {vr vw:Value} (h1:Sl w X 1 vr (p.reads.map S1)) (h2:Sl w X 4 vw (p.writes.map KV.l)) (mF:p.reads.length≤2^40) (qt:p.writes.length≤2^40):
  Ct pg 320 #[p.v vr vw] w X nX fun v wa w'=>p.fresh wa w' v:=by
  intro w0 hk
  replace h1:=h1.mv hk.dA
  replace h2:=h2.mv hk.dA
  apply RZ;unfold Hh
  have hs:=aj.init w0
  refine dk (R3 h1 mF) (by kernel_rfl) hs.has ?_
  rintro v1 wa w X tj u4 qj au
  replace hs:=hs.trans au
  have q1:=tj.sl.one
  repeat' first|(with_reducible apply eh);exact qC
  refine dk (EW (h2.mv (aj.mv hs)) qt) (by kernel_rfl) hs.has ?_
  rintro v2 wb w2 X2 rE u5 rj b6
  have hb:w0.heap.size≤wa.heap.size:=u4
  have afs:Own w X w0.heap.size 9 1 v1 (p.reads.map S1):=tj.up qj hb
  have ahT:=afs.since b6
  have ahU:w0.heap.size≤wb.heap.size:=ah hs.kp.size u5
  have ahV:Own w2 X2 w0.heap.size 53 4 v2 (p.writes.map KV.l):=rE.up rj ahU
  have q2:=rE.sl.one
  replace hs:=hs.trans b6
  repeat' first|(with_reducible apply Ek);(case h=>exact qE)|(with_reducible apply eh);exact qC|((first|(with_reducible refine aq hs ?_)|(with_reducible refine aq (cg.trans hs) ?_));intro wa hk;(exact⟨v1,v2,rfl,(ahT.kp hk).tight,(ahV.kp hk).tight,fun g IE xF=>by have:=(afs.ge IE).2;have:=(rE.ge xF).1;omega⟩))
def Jn (X:XS) (a b c:Nat):XS:=fun k=>X k∧k≠a∧k≠b∧k≠c
theorem YK {w:World} {X:XS} :Ct pg 315 #[] w X nX fun v wa w'=>
  ∃sb kb pb,v=ptr sb 0∧kM w' (made wa w') (Jn (made wa w') sb kb pb) sb kb pb [] [] .zero∧sb≠kb∧sb≠pb∧kb≠pb:=by
 intro w0 hk
 apply Wp;unfold LF
 have hs:=aj.init w0
 refine zL (kv:=fun s:BA=>cz s) pW nX hs.has fun kb w1 X1 sH au uP=>?_
 refine zL (kv:=fun k:gM=>k.v) oY nX au.has fun pb w2 X2 Lp b6 sJ=>?_
 have ahW:=uP.x
 have YM:=sJ.x
 have ahX:=uP.mv pW.mv (aj.mv b6) (Y:=X2) (A':=nX) (fun _ h=>h.elim)
 replace hs:=(hs.trans au).trans b6
 have eu:w0.heap.size≤w1.heap.size:=au.kp.size
 repeat' first|(with_reducible apply gg);(· kernel_rfl)|(with_reducible apply lQ);(case hX=>exact hs.has);intro bx w X iH au dK;have cg:=hs.trans au;replace hs:=aj.eP au.has
 refine aq (cg.trans hs) ?_
 intro wa hk
 have BJ:=(dK.kp hk).lt
 have ajf:=au.kp.size
 have ajg:=hk.size
 have aft:=au.kp.trans (hk.less au.sub)
 have ahY:made w0 wa kb:=⟨sH,by omega⟩
 have ahZ:made w0 wa pb:=⟨by omega,by omega⟩
 exact⟨bx,kb,pb,rfl,⟨dK.own.mv (Mv.one hk dK.1 ⟨by omega,BJ⟩),ahX.own.mv pW.mv (Mv.one aft (b6.sub _ ahW.1) ahY) (fun _ h=>h.elim),
  sJ.own.mv oY.mv (Mv.one aft YM.1 ahZ) (fun _ h=>h.elim),fun k hk=>hk.1,fun k hk=>hk.2⟩,by omega,by omega,by omega⟩
def z7:BA→List jO→Bool
 |_,[]=>true
 |a,h::r=>h.ok a&&z7 h.key r
def vN (l:List jO):List (BA×List lV):=l.foldl (fun m h=>fW h.key h.kn m) []
def On (hm:List (BA×List lV)):List (gM×fk)→List fk→Int
 |_,[]=>0
 |pm,p::r=>if p.err≠0 then p.err else if(getM p.dH pm).isSome then 9 else if pm.any (fun q=>p.Bl q.2)then 18 else if Jm hm p then 20
  else On hm (fW p.dH p pm) r
def EZ (hl:List jO) (pl:List fk):Int:=if z7 ⟨#[]⟩ hl then On (vN hl) [] pl else 4
theorem kM.grow {w:World} {X A A':XS} {sb kb pb:Nat} {hm:List (BA×List lV)} {pm:List (gM×fk)} {low:bZ} (h:kM w X A sb kb pb hm pm low)
  (hA: ∀k,A k→A' k) (hs: ∀k,A' k→X k∧k≠sb∧k≠kb∧k≠pb):kM w X A' sb kb pb hm pm low:=
 ⟨h.box,h.keys.mv pW.mv (Mv.refl _ _) (Mv.sub hA),h.iD.mv oY.mv (Mv.refl _ _) (Mv.sub hA),fun k hk=>(hs k hk).1,fun k hk=>(hs k hk).2⟩
theorem kM.to {w w':World} {X Y:XS} {sb kb pb:Nat} {hm:List (BA×List lV)} {pm:List (gM×fk)} {low:bZ} (h:kM w X (Jn X sb kb pb) sb kb pb hm pm low)
  (hs:aj X w Y w') (hX: ∀k,X k→k<w.heap.size):kM w' Y (Jn Y sb kb pb) sb kb pb hm pm low:=
 (h.mv hX (aj.mv hs)).grow (fun k hk=>⟨hs.sub k hk.1,hk.2⟩) fun k hk=>hk
def z8 (l:List fk):Prop:= ∀p∈l,p.reads.length≤2^40∧p.writes.length≤2^40
def Aa (l:List jO):Prop:= ∀h∈l,h.kn.length≤2^40
theorem Wu {w:World} {X:XS} {vh vp:Value} {hl:List jO} {pl:List fk} (h1:mW w X vh hl) (h2:mC w X vp pl) (mF:Aa hl) (qt:z8 pl):
  Ct pg 246 #[vh,vp] w X nX fun v _ _=> ∃u:Value,v= .tuple #[u,I (EZ hl pl)]:=by
 intro w0 hk
 replace h1:=h1.mv hk.dA
 replace h2:=h2.mv hk.dA
 have En:=h1.len
 have LL:=h2.len
 apply TU;unfold IV
 have hs:=aj.init w0
 refine dk YK (by kernel_rfl) hs.has ?_
 rintro v wa w X ⟨sb,kb,pb,rfl,ix,ne1,ne2,ne3⟩ hle hU au
 have hsb:w0.heap.size≤sb:=ah hle ix.box.1.1
 have sH:w0.heap.size≤kb:=ah hle ix.keys.x.1.1
 have Lp:w0.heap.size≤pb:=ah hle ix.iD.x.1.1
 replace hs:=hs.trans au
 have ah0:kM w X (Jn X sb kb pb) sb kb pb [] [] .zero:=(ix.mv (fun k hk=>hk.2) (Mv.sub hU)).grow (fun k hk=>⟨hU k hk.1,hk.2⟩) fun k hk=>hk
 clear ix
 repeat' first|(with_reducible apply nL);assumption;(· kernel_rfl)
 refine iN (fun n a b w X=> ∃(i:Nat) (s:BA),a=I i∧b= .string s∧n=hl.length-i∧i≤hl.length∧aj (aW w0) w0 X w∧
  kM w X (Jn X sb kb pb) sb kb pb (vN (hl.take i)) [] .zero∧z7 ⟨#[]⟩ hl=z7 s (hl.drop i)) hl.length
  ⟨0,⟨#[]⟩,rfl,rfl,rfl,aV _,hs,ah0,by rw [kl]⟩ ?_
 rintro n a b w X ⟨i,s,rfl,rfl,rfl,hi,cg,ix,hw⟩
 have hs:=aj.eP cg.has
 rcases fh (hl) i with⟨dh,x,hx,hd⟩|⟨eI,hd⟩
 ·rw [hd,z7] at hw
  have G3:=mF x (bg hx)
  have iH:=ix.box
  repeat' first|(with_reducible refine dC ?_ ?_);omega|with_reducible (first|apply aD|apply ak)|(with_reducible apply gP);rfl|(with_reducible apply ji);exact qN|with_reducible (first|apply ff|apply eY|apply gv|apply aK)|(with_reducible apply aM);exact qF;(· kernel_rfl);rfl;intro _ _ _|(with_reducible apply aZ);exact qF;exact qM;(· kernel_rfl);rfl|(with_reducible apply fP);exact qF;exact qM;(· kernel_rfl);rfl|((with_reducible apply Ks);assumption;(try (case hz=>rfl));(case hr=>exact qR);(try (case hz=>omega));(case ht=>kernel_rfl);(case hs=>kernel_rfl);intros)|(with_reducible apply fj);(case h=>exact qE)|(with_reducible apply eh);exact qC|(refine gZ (P2 (h:=x) (ahead:=s) (by first|assumption|exact Sl.mv (by assumption) (aj.mv (cg.trans hs)))) (by kernel_rfl) hs.has ?_ ?_<;>(intro _ w X au;replace hs:=hs.trans au))|(first|(with_reducible refine aq (cg.trans hs) ?_);intro wa hk;exact⟨_,by rw [EZ,hw];simp [*];rfl⟩)
  have hvv:= ‹Sl w0 (aW w0) 6 _ (x.kn.map lV.l)›
  have mQ:= ‹x.ok s=true›
  refine dk (MH (hvv.mv (aj.mv (cg.trans hs))) G3) (by kernel_rfl) hs.has ?_
  rintro v1 wa w2 X2 tj u4 qj b6
  have Mk:=hs.kp.size
  have MK:=ix.to (hs.trans b6) cg.has
  have CI:Sl w2 (Jn X2 sb kb pb) 6 v1 (x.kn.map lV.l):=tj.sl.mv (Mv.sub fun k hk=>⟨qj k hk,by
   have q1:=cg.has sb ix.box.1
   have q2:=cg.has kb ix.keys.x.1
   have q3:=cg.has pb ix.iD.x.1
   have:=hk.1
   refine⟨?_,?_,?_⟩<;>omega⟩)
  replace hs:=hs.trans b6
  repeat' first|(with_reducible apply gP);rfl
  refine Fs (kv:=fun s:BA=>cz s) (k:=x.key) (et:=286) MK.keys pW.mv CI (fun k hk=>⟨hk.1,hk.2.2.1⟩) Ug (by kernel_rfl) hs.has fun w3 X3 hc C6=>?_
  have cw:=(cg.trans hs).ej hc fun k hk e=>by have:k<w0.heap.size:=hk;omega
  have ab4:kM w3 X3 (Jn X3 sb kb pb) sb kb pb (vN (hl.take (i+1))) [] .zero:=by
   have iH:=MK.box
   have hpm:=MK.iD
   have e:vN (hl.take (i+1))=fW x.key x.kn (vN (hl.take i)):=by
    rw [dI,hx];simp [vN]
   rw [e]
   have mo: ∀b,X2 b→b≠kb→Mv (fun k=>k=b) w2 X3 w3:=fun b hb dr k ai _=>by subst ai;exact⟨hc.sub _ hb,hc.block _ hb dr⟩
   exact⟨iH.own.mv (mo _ iH.1 ne1),C6.mv pW.mv (Mv.refl _ _) (Mv.sub fun k hk=>⟨hc.sub k hk.1,hk.2⟩),
    hpm.own.mv oY.mv (mo _ hpm.x.1 ne3.symm) (fun k hk _=>⟨⟨hc.sub k hk.1,hk.2⟩,hc.block k hk.1 hk.2.2.1⟩),fun k hk=>hk.1,fun k hk=>hk.2⟩
  replace hs:=cw
  repeat' first|(with_reducible apply eh);exact qC|(with_reducible apply cx);omega;omega|((with_reducible refine iC ((hl).length-(i+1)) ?_ ?_);omega;exact⟨i+1,x.key,by simp,rfl,rfl,by omega,hs,ab4,by rw [hw,mQ];rfl⟩)
 ·have hlen:hl.take i=hl:=cl eI
  rw [hd] at hw
  rw [hlen] at ix
  repeat' first|(with_reducible refine dm ?_ ?_);omega|with_reducible apply ak|(with_reducible apply nL);assumption;(· kernel_rfl)
  refine fK (fun n a w X=> ∃(i:Nat) (pm:List (gM×fk)),a=I i∧n=pl.length-i∧i≤pl.length∧aj (aW w0) w0 X w∧
   kM w X (Jn X sb kb pb) sb kb pb (vN hl) pm .zero∧EZ hl pl=On (vN hl) pm (pl.drop i)) pl.length
   ⟨0,[],rfl,rfl,aV _,cg,ix,by rw [kl,EZ,hw];rfl⟩ ?_
  rintro n a w X ⟨j,pm,rfl,rfl,hj,cg,ix,x8⟩
  have hs:=aj.eP cg.has
  rcases fh pl j with⟨YN,x,hx,pO⟩|⟨P3,pO⟩
  ·rw [pO,On] at x8
   have G3:=qt x (bg hx)
   have iH:=ix.box
   repeat' first|(with_reducible refine dC ?_ ?_);omega|with_reducible apply aD|(with_reducible apply ji);exact qN|with_reducible (first|apply ff|apply aK)|(with_reducible apply aM);exact qF;(· kernel_rfl);rfl;intro _ _ _|(with_reducible apply aZ);exact qF;exact qM;(· kernel_rfl);rfl|(with_reducible apply fP);exact qF;exact qM;(· kernel_rfl);rfl|((with_reducible apply St);assumption;(try (case hz=>rfl));(case hr=>exact qR);(try (case hz=>omega));(case ht=>kernel_rfl);(case hs=>kernel_rfl);intros)|(with_reducible apply fj);(case h=>exact qE)|(with_reducible apply eh);exact qC|(refine dt (u3 (p:=x) (by first|assumption|exact Sl.mv (by assumption) (aj.mv (cg.trans hs))) (by first|assumption|exact Sl.mv (by assumption) (aj.mv (cg.trans hs))) G3.2) (by kernel_rfl) hs.has ?_;intro w X au;replace hs:=hs.trans au)
   refine Tk (kv:=fun k:gM=>k.v) (k:=x.dH) (kt:=33) (et:=229) (.agg #[I 0,I 0,I 0,I 0,I 0,I 0,.slice none 0 0,.slice none 0 0]) (ix.mv cg.has (aj.mv hs)).iD Xs (by kernel_rfl) (by kernel_rfl) (fun v q hg sK=>?_) fun hg=>?_
   ·obtain⟨ur,uw,rfl,q1,q2⟩:=sK
    have o1:=q1.one
    have o2:=q2.one
    repeat' first|with_reducible (first|apply aD|apply ak|apply ff)|(with_reducible apply kG<;>intro _)|(with_reducible apply fp);rfl|(with_reducible apply fj);(case h=>exact qE)|(with_reducible apply eh);exact qC|(first|(with_reducible refine aq (cg.trans hs) ?_);intro wa hk;exact⟨_,by rw [x8];simp [*];rfl⟩)
   ·repeat' first|with_reducible (first|apply aD|apply ak|apply ff|apply aK)|(with_reducible apply kG<;>intro _)|(with_reducible apply aM);exact qF;(· kernel_rfl);rfl;intro _ _ _|(with_reducible apply aZ);exact qF;exact qM;(· kernel_rfl);rfl|(with_reducible apply fp);rfl|(with_reducible apply fj);(case h=>exact qE)|(with_reducible apply eh);exact qC|(first|(with_reducible refine aq (cg.trans hs) ?_);intro wa hk;exact⟨_,by rw [x8];simp [*];rfl⟩)|(refine gZ (R7 (x:=x) (ix.mv cg.has (aj.mv hs)) hs.has (by first|assumption|exact Sl.mv (by assumption) (aj.mv (cg.trans hs))) (by first|assumption|exact Sl.mv (by assumption) (aj.mv (cg.trans hs)))) (by kernel_rfl) hs.has ?_ ?_<;>(intro _ w X au;replace hs:=hs.trans au))|(refine gZ (YJ (x:=x) (ix.mv cg.has (aj.mv hs)) hs.has (by first|assumption|exact Sl.mv (by assumption) (aj.mv (cg.trans hs)))) (by kernel_rfl) hs.has ?_ ?_<;>(intro _ w X au;replace hs:=hs.trans au))
    have he:x.err=0:= ‹x.err=0›
    have ah1:(pm.any fun q=>x.Bl q.snd)=false:= ‹_›
    have ah2:Jm (vN hl) x=false:= ‹_›
    refine dk (Uh (p:=x) (by first|exact Sl.mv (by assumption) (aj.mv (cg.trans hs))) (by first|exact Sl.mv (by assumption) (aj.mv (cg.trans hs))) G3.1 G3.2) (by kernel_rfl) hs.has ?_
    rintro v1 wa w2 X2 ⟨ur,uw,rfl,tj,rE,-⟩ u4 qj b6
    have Mk:=hs.kp.size
    have MK:=ix.to (hs.trans b6) cg.has
    have B9: ∀k,made wa w2 k→Jn X2 sb kb pb k:=fun k hk=>⟨qj k hk,by
     have q1:=cg.has sb ix.box.1
     have q2:=cg.has kb ix.keys.x.1
     have q3:=cg.has pb ix.iD.x.1
     have:=hk.1
     refine⟨?_,?_,?_⟩<;>omega⟩
    have CI:oY w2 (Jn X2 sb kb pb) (x.v ur uw) x:=⟨ur,uw,rfl,tj.sl.mv (Mv.sub B9),rE.sl.mv (Mv.sub B9)⟩
    replace hs:=hs.trans b6
    refine Fs (kv:=fun k:gM=>k.v) (k:=x.dH) (et:=229) MK.iD oY.mv CI (fun k hk=>⟨hk.1,hk.2.2.2⟩) Xs (by kernel_rfl) hs.has fun w3 X3 hc C6=>?_
    have cw:=(cg.trans hs).ej hc fun k hk e=>by have:k<w0.heap.size:=hk;omega
    have ab4:kM w3 X3 (Jn X3 sb kb pb) sb kb pb (vN hl) (fW x.dH x pm) .zero:=by
     have iH:=MK.box
     have hkm:=MK.keys
     have mo: ∀b,X2 b→b≠pb→Mv (fun k=>k=b) w2 X3 w3:=fun b hb dr k ai _=>by subst ai;exact⟨hc.sub _ hb,hc.block _ hb dr⟩
     exact⟨iH.own.mv (mo _ iH.1 ne2),hkm.own.mv pW.mv (mo _ hkm.x.1 ne3) (fun k hk _=>⟨⟨hc.sub k hk.1,hk.2⟩,hc.block k hk.1 hk.2.2.2⟩),
      C6.mv oY.mv (Mv.refl _ _) (Mv.sub fun k hk=>⟨hc.sub k hk.1,hk.2⟩),fun k hk=>hk.1,fun k hk=>hk.2⟩
    replace hs:=cw
    repeat' first|(with_reducible apply cx);omega;omega|((with_reducible refine ga (pl.length-(j+1)) ?_ ?_);omega;exact⟨j+1,_,by simp,rfl,by omega,hs,ab4,by rw [x8];simp [he,hg,ah1,ah2]⟩)
  ·rw [pO] at x8
   repeat' first|(with_reducible refine dm ?_ ?_);omega|with_reducible apply ak|(first|(with_reducible refine aq (cg.trans hs) ?_);intro wa hk;exact⟨_,by rw [x8];rfl⟩)
def Gf (l:List jO):Prop:= ∀h∈l,h.key.size≤2^40
def Gg (l:List fk):Prop:= ∀p∈l,(∀k∈p.reads,k.size≤2^40)∧ ∀x∈p.writes,x.key.size≤2^40
structure State.small (s:State):Prop where
 h:Aa s.iF
 p:z8 s.iD
 hk:Gf s.iF
 pk:Gg s.iD
structure Rec.small (r:Rec):Prop where
 reads:r.reads.length≤2^40
 writes:r.writes.length≤2^40
 rk: ∀k∈r.reads,k.size≤2^40
 wk: ∀x∈r.writes,x.key.size≤2^40
 state:r.state.small
def mn.has (r:mn) (x:Nat):Bool:=(Nx x r.lo||CE x r.lo)&&Ir x r.hi
def mn.key (r:mn) (k:BA):Bool:=r.has (placeOf k)
def State.inside (s:State):Bool:=s.iF.all (fun h=>s.range.key h.key)&&s.iD.all fun p=>p.reads.all s.range.key&&p.writes.all fun x=>s.range.key x.key
def State.may (s:State):Bool:=s.range.may&&s.floor.may&&s.closed.may&&decide (EZ s.iF s.iD=0)&&s.inside
theorem Jo {w:World} {X:XS} {s:State} {vh vp:Value} {k:BA} {b:Nat} (h:Cells w X b 0 (s.l vh vp)) (ai:k.size≤2^62):
  Ct pg 247 #[.string k,ptr b 0] w X nX fun v _ _=>v=B (s.range.key k):=by
 intro w0 hk
 replace h:=h.mv hk.dA
 apply HX;unfold yR
 have hs:=aj.init w0
 repeat' first|(with_reducible apply gx);exact qF;(· kernel_rfl);rfl;exact qN;intro _ _ _|(with_reducible apply fP);exact qF;exact qM;(· kernel_rfl);rfl|((with_reducible refine dU (YD _ _) ?_ hs.has ?_ ?_);(· kernel_rfl);all_goals (intro _ w X au;replace hs:=hs.trans au))|((with_reducible refine iO (YH _ (by first|assumption|omega)) ?_ hs.has ?_);(· kernel_rfl);intro w X au;replace hs:=hs.trans au)|((first|(with_reducible refine aq hs ?_)|(with_reducible refine aq (cg.trans hs) ?_));intro wa hk;(simp [mn.key,mn.has, *]))
theorem C7 {w:World} {X:XS} {s:State} {vh vp:Value} (h1:mW w X vh s.iF) (h2:mC w X vp s.iD) (ku:s.small):
  Ct pg 167 #[s.v vh vp] w X nX fun v _ _=>v=B s.may:=by
 intro w0 hk
 replace h1:=h1.mv hk.dA
 replace h2:=h2.mv hk.dA
 have En:=h1.len
 have LL:=h2.len
 have o1:=h1.one
 have o2:=h2.one
 apply MC;unfold B3
 have hs:=aj.init w0
 repeat' first|with_reducible (first|apply aD|apply ak|apply cD|apply dW|apply bE|apply bt|apply oz|apply pP|apply eY|apply gv)|(with_reducible apply kG<;>intro _)|(with_reducible apply aM);exact qF;(· kernel_rfl);rfl;intro _ _ _|(with_reducible apply gx);exact qF;(· kernel_rfl);rfl;exact qN;intro _ _ _|(with_reducible apply aZ);exact qF;exact qM;(· kernel_rfl);rfl|(with_reducible apply fP);exact qF;exact qM;(· kernel_rfl);rfl|(with_reducible apply nL);assumption;(· kernel_rfl)|(with_reducible apply fp);rfl|(with_reducible apply lQ);(case hX=>exact hs.has);intro bx w X iH au dK;have cg:=hs.trans au;replace hs:=aj.eP au.has|(with_reducible apply jx)|with_reducible apply dY|((with_reducible refine dU (oM _) ?_ hs.has ?_ ?_);(· kernel_rfl);all_goals (intro _ w X au;replace hs:=hs.trans au))|((with_reducible refine dU (LK _) ?_ hs.has ?_ ?_);(· kernel_rfl);all_goals (intro _ w X au;replace hs:=hs.trans au))|((first|(with_reducible refine aq hs ?_)|(with_reducible refine aq (cg.trans hs) ?_));intro wa hk;(simp [State.may, *]))|(refine dk ((Wu (hl:=s.iF) (pl:=s.iD))  qA qA ku.h ku.p) (by kernel_rfl) hs.has ?_;rintro _ wa w X ⟨u,rfl⟩ hle hU au;have fT:=ah hs.kp.size hle;replace hs:=hs.trans au)
 have Es: ∀k:BA,k.size≤2^40→ ∀w X,aj _ _ X w→Ct pg 247 #[.string k,ptr bx 0] w X nX fun v _ _=>v=B (s.range.key k):=fun k hk w X hs=>Jo (dK.since hs).cells (by omega)
 have YO:s.may=s.inside:=by simp [State.may, *]
 refine fK (fun n a w X=> ∃i:Nat,a=I (i:Nat)∧n=s.iF.length-i∧i≤s.iF.length∧aj _ _ X w∧
  (s.iF.all (fun h=>s.range.key h.key))=((s.iF.drop i).all fun h=>s.range.key h.key)) s.iF.length ⟨0,rfl,rfl,aV _,hs,by simp⟩ ?_
 rintro n a w X ⟨i,rfl,rfl,hi,hs,hw⟩
 rcases fh (s.iF) i with⟨dh,x,hx,hd⟩|⟨eI,hd⟩
 ·rw [hd,jt] at hw
  have hkx:=ku.hk x (bg hx)
  repeat' first|(with_reducible refine dC ?_ ?_);omega|with_reducible (first|apply aD|apply ak)|(with_reducible apply gP);rfl|with_reducible (first|apply ff|apply eY|apply gv)|(with_reducible apply fP);exact qF;exact qM;(· kernel_rfl);rfl|((with_reducible apply Ks);assumption;(try (case hz=>rfl));(case hr=>exact qR);(try (case hz=>omega));(case ht=>kernel_rfl);(case hs=>kernel_rfl);intros)|(with_reducible apply fj);(case h=>exact qE)|(with_reducible apply eh);exact qC|(with_reducible apply cx);omega;omega|(with_reducible apply Kl);rfl|((first|(with_reducible refine aq hs ?_)|(with_reducible refine aq (cg.trans hs) ?_));intro wa hk;(simp [YO,State.inside,hw, *]))|(refine gZ (Es x.key hkx _ _ hs) (by kernel_rfl) hs.has ?_ ?_<;>(intro _ w X au;replace hs:=hs.trans au))|((with_reducible refine ga ((s.iF).length-(i+1)) ?_ ?_);omega;exact⟨i+1,by simp,rfl,by omega,hs,by rw [hw];simp [*]⟩)
 ·rw [hd] at hw
  repeat' first|(with_reducible refine dm ?_ ?_);omega|with_reducible apply ak|(with_reducible apply aM);exact qF;(· kernel_rfl);rfl;intro _ _ _|(with_reducible apply aZ);exact qF;exact qM;(· kernel_rfl);rfl|(with_reducible apply nL);assumption;(· kernel_rfl)
  refine Eh (fun n a _ _ w X=> ∃i:Nat,a=I (i:Nat)∧n=s.iD.length-i∧i≤s.iD.length∧aj _ _ X w∧
   (s.iD.all fun p=>p.reads.all s.range.key&&p.writes.all fun x=>s.range.key x.key)=((s.iD.drop i).all fun p=>p.reads.all s.range.key&&p.writes.all fun x=>s.range.key x.key)) s.iD.length ⟨0,rfl,rfl,aV _,hs,by simp⟩ ?_
  rintro n a a2 a3 w X ⟨j,rfl,rfl,hj,hs,x8⟩
  rcases fh s.iD j with⟨dh,p,hp,pO⟩|⟨P3,pO⟩
  ·rw [pO,jt] at x8
   obtain⟨vC,lE⟩:=ku.pk p (bg hp)
   repeat' first|(with_reducible refine dC ?_ ?_);omega|with_reducible apply aD|(with_reducible apply gP);rfl|with_reducible apply ff|(with_reducible apply fP);exact qF;exact qM;(· kernel_rfl);rfl|(with_reducible apply bS);exact qO;(· kernel_rfl)|((with_reducible apply St);assumption;(try (case hz=>rfl));(case hr=>exact qR);(try (case hz=>omega));(case ht=>kernel_rfl);(case hs=>kernel_rfl);intros)|(with_reducible apply fj);(case h=>exact qE)|(with_reducible apply eh);exact qC
   have hl3:=Sl.gW ‹Sl w0 (aW w0) 1 _ (p.reads.map S1)›
   have hl4:=Sl.gW ‹Sl w0 (aW w0) 4 _ (p.writes.map KV.l)›
   refine fK (fun n a w X=> ∃i:Nat,a=I (i:Nat)∧n=p.reads.length-i∧i≤p.reads.length∧aj _ _ X w∧p.reads.all s.range.key=(p.reads.drop i).all s.range.key) p.reads.length ⟨0,rfl,rfl,aV _,hs,by simp⟩ ?_
   rintro n a w X ⟨k,rfl,rfl,hk3,hs,Hm⟩
   rcases fh p.reads k with⟨ajh,y,hy,hd3⟩|⟨aji,hd3⟩
   ·rw [hd3,jt] at Hm
    have hky:=vC y (bg hy)
    repeat' first|(with_reducible refine dC ?_ ?_);omega|with_reducible (first|apply aD|apply ak|apply eY|apply gv)|(with_reducible apply aZ);exact qF;exact qM;(· kernel_rfl);rfl|((with_reducible apply e7);exact qO;(try (case hz=>rfl));(case hr=>exact qR);(try (case hz=>omega));(case ht=>kernel_rfl);(case hs=>kernel_rfl);intro _ _ _)|(with_reducible apply cx);omega;omega|(with_reducible apply Kl);rfl|((first|(with_reducible refine aq hs ?_)|(with_reducible refine aq (cg.trans hs) ?_));intro wa hk;(simp [YO,State.inside,x8,Hm, *]))|(refine gZ (Es y hky _ _ hs) (by kernel_rfl) hs.has ?_ ?_<;>(intro _ w X au;replace hs:=hs.trans au))|((with_reducible refine ga (p.reads.length-(k+1)) ?_ ?_);omega;exact⟨k+1,by simp,rfl,by omega,hs,by rw [Hm];simp [*]⟩)
   ·rw [hd3] at Hm
    repeat' first|(with_reducible refine dm ?_ ?_);omega|with_reducible apply ak|(with_reducible apply gP);rfl|(with_reducible apply bS);exact qO;(· kernel_rfl)|(with_reducible apply eh);exact qC
    refine fK (fun n a w X=> ∃i:Nat,a=I (i:Nat)∧n=p.writes.length-i∧i≤p.writes.length∧aj _ _ X w∧(p.writes.all fun x=>s.range.key x.key)=(p.writes.drop i).all fun x=>s.range.key x.key) p.writes.length ⟨0,rfl,rfl,aV _,hs,by simp⟩ ?_
    rintro n a w X ⟨m,rfl,rfl,hm,hs,hw4⟩
    rcases fh p.writes m with⟨ajj,y,hy,hd4⟩|⟨ajk,hd4⟩
    ·rw [hd4,jt] at hw4
     have hky:=lE y (bg hy)
     repeat' first|(with_reducible refine dC ?_ ?_);omega|with_reducible (first|apply aD|apply ak)|(with_reducible apply gP);rfl|with_reducible (first|apply ff|apply eY|apply gv)|(with_reducible apply fP);exact qF;exact qM;(· kernel_rfl);rfl|((with_reducible apply e7);exact qO;(try (case hz=>rfl));(case hr=>exact qR);(try (case hz=>omega));(case ht=>kernel_rfl);(case hs=>kernel_rfl);intro _ _ _)|(with_reducible apply fj);(case h=>exact qE)|(with_reducible apply eh);exact qC|(with_reducible apply cx);omega;omega|(with_reducible apply Kl);rfl|((first|(with_reducible refine aq hs ?_)|(with_reducible refine aq (cg.trans hs) ?_));intro wa hk;(simp [YO,State.inside,x8,Hm,hw4, *]))|(refine gZ (Es y.key hky _ _ hs) (by kernel_rfl) hs.has ?_ ?_<;>(intro _ w X au;replace hs:=hs.trans au))|((with_reducible refine ga (p.writes.length-(m+1)) ?_ ?_);omega;exact⟨m+1,by simp,rfl,by omega,hs,by rw [hw4];simp [*]⟩)
    ·rw [hd4] at hw4
     repeat' first|(with_reducible refine dm ?_ ?_);omega|with_reducible apply ak|(with_reducible apply cx);omega;omega|((with_reducible refine BN (s.iD.length-(j+1)) ?_ ?_);omega;exact⟨j+1,by simp,rfl,by omega,hs,by rw [x8,Hm,hw4];simp⟩)
  ·rw [pO] at x8
   repeat' first|(with_reducible refine dm ?_ ?_);omega|with_reducible apply ak|((first|(with_reducible refine aq hs ?_)|(with_reducible refine aq (cg.trans hs) ?_));intro wa hk;(rw [YO,State.inside,hw,x8];rfl))
def iJ (prev st:bZ) (t:gM) (l:List KV):Bool:=prev.may&&decide (prev.cmp st<0)&&decide (l≠[])&&decide (fk.err ⟨t,st,[],l⟩=0)
theorem Ca {w:World} {X:XS} {prev st:bZ} {t:gM} {l:List KV} {a:Value} (h:Sl w X 4 a (l.map KV.l)) (hb:l.length≤2^40):
  Ct pg 168 #[prev.v,st.v,t.v,a] w X nX fun v _ _=>v=B (iJ prev st t l):=by
 intro w0 hk
 replace h:=h.mv hk.dA
 obtain⟨b1,n1,c1,rfl⟩:=h.form
 apply RV;unfold Hd
 have hs:=aj.init w0
 repeat' first|with_reducible (first|apply aD|apply ak|apply dG|apply fb|apply cD|apply dW|apply bE|apply bt|apply oz|apply pP|apply eY|apply gv)|(with_reducible apply gF<;>intro _)|(with_reducible apply mG<;>intro _)|(with_reducible apply bS);exact qO;(· kernel_rfl)|(with_reducible apply gg);(· kernel_rfl)|with_reducible apply dY|((with_reducible refine iO (pM _ _) ?_ hs.has ?_);(· kernel_rfl);intro w X au;replace hs:=hs.trans au)|((with_reducible refine dU (oM _) ?_ hs.has ?_ ?_);(· kernel_rfl);all_goals (intro _ w X au;replace hs:=hs.trans au))|((first|(with_reducible refine aq hs ?_)|(with_reducible refine aq (cg.trans hs) ?_));intro wa hk;(simp_all [iJ]<;>omega))|(refine dt (u3  (p:=⟨t,st,[],l⟩) (Sl.nil _ _ _) qA hb) (by kernel_rfl) hs.has ?_;intro w X au;replace hs:=hs.trans au)
def Xt (x:Nat):Bool:=decide ((Bt x).2=0)&&Nx (Bt x).1 0&&Ir (Bt x).1 Ol
def sR (n:Int):Bool:=decide (n≥1)&&decide (n≤12)
def Rec.qk (r:Rec):Bool:=
 if r.kind=1 then r.state.may
 else if r.kind=2 then decide (r.n≥0)&&decide (r.n≤281474976710656)
 else if r.kind=3 then decide (fk.err ⟨r.dH,r.br,r.reads,r.writes⟩=0)&&zg r.parts
 else if r.kind=4 then r.dH.may&&r.br.PZ r.ko
 else if r.kind=5 then r.br.may
 else if r.kind=6 then Xt r.rP&&sR r.n&&r.br.may
 else if r.kind=7 then sR r.n
 else if r.kind=8 then decide (r.n≥1)
 else if r.kind=9 then r.dH.may&&r.br.Of&&zg r.parts
 else if r.kind=10 then r.dH.may
 else if r.kind=11 then iJ r.prev r.br r.dH r.writes
 else r.br.may&&sQ r.bH
theorem R8 {w:World} {X:XS} {r:Rec} {vr vw vp vq vh vd:Value} (h:r.at w X vr vw vp vq vh vd) (ku:r.small):
  Ct pg 224 #[r.v vr vw vp vq vh vd] w X nX fun v _ _=>v=B r.qk:=by
 intro w0 hk
 obtain⟨h1,h2,h3,h4,h5,h6⟩:=h.mv hk.dA
 obtain⟨b1,n1,c1,rfl⟩:=h1.form
 obtain⟨b2,n2,c2,rfl⟩:=h2.form
 apply PQ;unfold EC
 have hs:=aj.init w0
 repeat' first|with_reducible (first|apply aD|apply ak|apply dz|apply cL|apply cM|apply cu|apply bE|apply bt|apply pD|apply oA)|(with_reducible apply gF<;>intro _)|(with_reducible apply jK<;>intro _)|(with_reducible apply mG<;>intro _)|(with_reducible apply Tg<;>intro _)|(with_reducible apply ae6<;>intro _)|(with_reducible apply gg);(· kernel_rfl)|(with_reducible apply fp);rfl|with_reducible apply dY|((with_reducible refine dU (oM _) ?_ hs.has ?_ ?_);(· kernel_rfl);all_goals (intro _ w X au;replace hs:=hs.trans au))|((with_reducible refine dU (Ak _) ?_ hs.has ?_ ?_);(· kernel_rfl);all_goals (intro _ w X au;replace hs:=hs.trans au))|((with_reducible refine dU (P0 _ _) ?_ hs.has ?_ ?_);(· kernel_rfl);all_goals (intro _ w X au;replace hs:=hs.trans au))|((with_reducible refine iO (R2 _) ?_ hs.has ?_);(· kernel_rfl);intro w X au;replace hs:=hs.trans au)|((with_reducible refine dU (R1 _) ?_ hs.has ?_ ?_);(· kernel_rfl);all_goals (intro _ w X au;replace hs:=hs.trans au))|((with_reducible refine dU (Hj _) ?_ hs.has ?_ ?_);(· kernel_rfl);all_goals (intro _ w X au;replace hs:=hs.trans au))|(refine gZ (C7  (s:=r.state) qA qA ku.state) (by kernel_rfl) hs.has ?_ ?_<;>(intro _ w X au;replace hs:=hs.trans au))|(refine dt (u3  (p:=⟨r.dH,r.br,r.reads,r.writes⟩) qA qA ku.writes) (by kernel_rfl) hs.has ?_;intro w X au;replace hs:=hs.trans au)|(refine gZ (Jk  qA) (by kernel_rfl) hs.has ?_ ?_<;>(intro _ w X au;replace hs:=hs.trans au))|(refine gZ (Ua  qA) (by kernel_rfl) hs.has ?_ ?_<;>(intro _ w X au;replace hs:=hs.trans au))|(refine gZ ((Ca (l:=r.writes))  qA ku.writes) (by kernel_rfl) hs.has ?_ ?_<;>(intro _ w X au;replace hs:=hs.trans au))
 all_goals
  (with_reducible refine aq hs ?_)
  intro wa aR
  unfold Rec.qk
  repeat (first|rw [if_pos (by omega)]|rw [if_neg (by omega)])
  simp_all [Xt,sR,Ol]<;>omega
def Rec.err (r:Rec):Int:=if !r.strip.2 then 7 else if !r.strip.1.isZero||!r.qk then 4 else 0
theorem Gh {w:World} {X:XS} {r:Rec} {vr vw vp vq vh vd:Value} (h:r.at w X vr vw vp vq vh vd) (ku:r.small):
  Ct pg 155 #[r.v vr vw vp vq vh vd] w X nX fun v _ _=>v=I r.err:=by
 intro w0 hk
 have h:=h.mv hk.dA
 apply Wj;unfold Lx
 have hs:=aj.init w0
 refine dk (P1 h) (by kernel_rfl) hs.has ?_
 rintro v wa w X ⟨Ub,Uc,Ud,vq',Ue,Uf,rfl,gQ⟩ hle hU au
 replace hs:=hs.trans au
 have q1:=gQ.1.one
 have q2:=gQ.2.1.one
 have q3:=gQ.2.2.1.one
 have q4:=gQ.2.2.2.1.one
 have q5:=gQ.2.2.2.2.1.one
 have q6:=gQ.2.2.2.2.2.one
 cases hb:r.strip.2<;>
 repeat' first|with_reducible (first|apply aD|apply ak)|(with_reducible apply ji);exact qN|with_reducible (first|apply ff|apply dG|apply fb|apply cD|apply dW|apply bE|apply bt|apply oz|apply pP|apply eY|apply gv)|(with_reducible apply fp);rfl|(with_reducible apply fj);(case h=>exact qE)|(with_reducible apply eh);exact qC|with_reducible apply dY|((first|(with_reducible refine aq hs ?_)|(with_reducible refine aq (cg.trans hs) ?_));intro wa hk;(simp [Rec.err, *]))|(refine gZ (Ws  (r:=r.strip.1) qA) (by kernel_rfl) hs.has ?_ ?_<;>(intro _ w X au;replace hs:=hs.trans au))|(refine gZ ((R8 (r:=r))  (h.mv (aj.mv hs)) ku) (by kernel_rfl) hs.has ?_ ?_<;>(intro _ w X au;replace hs:=hs.trans au))
abbrev U1 (b:Nat):List Value:=[.int .u8 b]
def nU (u:Nat):List Nat:=if u<128 then [u] else(u % 128+128)::nU (u/128)
termination_by u
decreasing_by omega
def rF (n:Int):Nat:=if n<0 then 18446744073709551615-((n % 18446744073709551616).toNat*2 % 18446744073709551616)else(n % 18446744073709551616).toNat*2 % 18446744073709551616
def encI (n:Int):List Nat:=nU (rF n)
theorem ML: ∀(k u:Nat),u<128^k→(nU u).length≤max k 1
 |0,u,h=>by
  have:u=0:=by simpa using h
  subst this;unfold nU;simp
 |k+1,u,h=>by
  unfold nU
  split
  ·simp only [bC,cA];omega
  ·have hk:1≤k:=by
    rcases k with _|k
    ·simp at h;omega
    ·exact Nat.le_add_left _ _
   have h1:u/128<128^k:=by
    rw [Nat.div_lt_iff_lt_mul (by decide),←jg];exact h
   have:=ML k (u/128) h1
   simp only [bC]
   omega
theorem aaB (n:Int):rF n<18446744073709551616:=by
 unfold rF;split<;>omega
theorem ee (n:Int):(encI n).length≤10:=by
 have:=ML 10 (rF n) (aU (aaB n) (by decide))
 unfold encI
 omega
def kU (s:BA):List Nat:=encI s.size++s.data.toList.map nO
def Cb (u k:Nat):Nat:=u/256^k % 256
def sc (x:Nat):List Nat:=(List.range 8).map (Cb (canon x))
def lu (v:fq):List Nat:=
 let v:=if v.may then v else fq.zero
 encI v.kind++(if v.kind=1 then sc v.num else if v.kind=2 then kU v.text else [])
def YP (b:Bool):List Nat:=[if b then 1 else 0]
def jL (s:bZ):List Nat:=encI s.wall++encI s.fA++encI s.node
def pX (t:gM):List Nat:=encI t.jR++encI t.nj++encI t.sq
def dd (x:KV):List Nat:=kU x.key++lu x.val
def gA {α:Type} (f:α→List Nat) (l:List α):List Nat:=encI l.length++(l.map f).flatten
theorem Own.tag {w:World} {X:XS} {lo e k:Nat} {v:Value} {rows:List (List Value)} (h:Own w X lo e k v rows) {g:Nat} (hg:v.ownBlock=some g): ∃cs:List Value,w.heap[g]? =some (.cells cs.toArray e (0,0)):=by
 rcases h.row with⟨rfl,_⟩|⟨b,cap,cs,rfl,_,hr,_⟩
 ·cases hg
 ·simp only [Value.ownBlock,aC] at hg
  subst hg;exact⟨cs,hr.2⟩
theorem Own.dS {w:World} {X Y:XS} {lo e e' k g:Nat} {v:Value} {rows:List (List Value)} {cs:List Value} (h:Own w X lo e k v rows) (hr:bJ w Y g cs e') (he:decide (e≠e')=true):v.ownBlock≠some g:=fun hg=>by
 obtain⟨c,h1⟩:=Own.tag h hg
 rw [hr.2] at h1
 simp only [aC,Obj.cells.injEq] at h1
 exact of_decide_eq_true he h1.2.1.symm
theorem wrap64 (n:Int):IntKind.u64.wrap n=n % 18446744073709551616:=by
 simp only [kr,jh,gT]
 simp
theorem C8 (n:Int):IntKind.u8.wrap n=n % 256:=by
 simp only [kr,jh,gT]
 simp
section
variable {P : Program} {X : XS} {w : World} {N : Value → Prop} {t : TypeId}
theorem Oo {src dst:TypeId} {k:IntKind} {u:Nat} (hs:(P.underlying src).isSome=true) (hd:P.underlying dst=some (.int .u8)) (h:N (.int .u8 ((u % 256:Nat):Int))):aa P X w (mO .u8 src dst (.int k (u:Int))) N:=
 pq hs hd (by rw [C8];exact h)
theorem Ui (u:Nat):IntKind.u8.wrap (u:Int)=((u % 256:Nat):Int):=by rw [C8];omega
theorem afu {u:Nat} (h:N (.int .u64 ((u*2 % 18446744073709551616:Nat):Int))):aa P X w (binOp .shl t (.int .u64 (u:Int)) (.int .u64 1)) N:=
 Kf (by omega) (by
  rw [wrap64]
  have e:((u:Int)*2^min (1:Int).toNat IntKind.u64.bits) % 18446744073709551616=((u*2 % 18446744073709551616:Nat):Int):=by
   show((u:Int)*2^1) % 18446744073709551616=_
   omega
  rw [e];exact h)
theorem afv {u:Nat} (h:N (.int .u64 ((u/128:Nat):Int))):aa P X w (binOp .shr t (.int .u64 (u:Int)) (.int .u64 7)) N:=
 Bs (by omega) (by
  have e:((u:Int)).fdiv (2^min (7:Int).toNat IntKind.u64.bits)=((u/128:Nat):Int):=by
   show((u:Int)).fdiv 128=_
   rw [mI _ (by decide)];omega
  rw [e];exact h)
theorem afw {u:Nat} (h:N (.int .u64 ((u/256:Nat):Int))):aa P X w (binOp .shr t (.int .u64 (u:Int)) (.int .u64 8)) N:=
 Bs (by omega) (by
  have e:((u:Int)).fdiv (2^min (8:Int).toNat IntKind.u64.bits)=((u/256:Nat):Int):=by
   show((u:Int)).fdiv 256=_
   rw [mI _ (by decide)];omega
  rw [e];exact h)
theorem afx {u:Nat} (hu:u<18446744073709551616) (h:N (.int .u64 ((18446744073709551615-u:Nat):Int))):aa P X w (aY .xor (.int .u64 (u:Int))) N:=by
 refine b9 (v:=.int .u64 ((18446744073709551615-u:Nat):Int)) (fun wa=>?_) h
 have key:(aP 64 18446744073709551615^^^aP 64 (u:Int)).toNat=18446744073709551615-u:=by
  have h1:aP 64 18446744073709551615=z6 64:=by decide
  have h2:(aP 64 (u:Int))=kq 64 u:=by simp
  rw [h1,h2,vM,x7,fU,fe (by omega)]
 have e:IntKind.u64.wrap (aP IntKind.u64.bits IntKind.u64.max^^^aP IntKind.u64.bits (u:Int)).toNat=((18446744073709551615-u:Nat):Int):=by
  rw [wrap64]
  show((aP 64 18446744073709551615^^^aP 64 (u:Int)).toNat:Int) % 18446744073709551616=_
  rw [key];omega
 have hk:(aY .xor (.int .u64 (u:Int))).run P wa= .ok (.int .u64 (IntKind.u64.wrap (aP IntKind.u64.bits IntKind.u64.max^^^aP IntKind.u64.bits (u:Int)).toNat)) wa:=by
  simp [aY,zh,gT]
 rw [hk,e]
theorem Jp {k:IntKind} {a b:Int} (h:N (.int k (k.wrap (aP k.bits a|||aP k.bits b).toNat))):aa P X w (binOp .or t (.int k a) (.int k b)) N:=
 b9 (fun wa=>by simp [binOp,zh]) h
theorem ag9: ∀b:Nat,b<256→(aP 8 (b:Int)|||aP 8 128).toNat=b % 128+128:=by decide+kernel
theorem aee {b:Nat} (hb:b<256) (h:N (.int .u8 ((b % 128+128:Nat):Int))):aa P X w (binOp .or t (.int .u8 (b:Int)) (.int .u8 128)) N:=
 Jp (by
  have e:IntKind.u8.wrap (aP IntKind.u8.bits (b:Int)|||aP IntKind.u8.bits 128).toNat=((b % 128+128:Nat):Int):=by
   rw [C8]
   have:=ag9 b hb
   show((aP 8 (b:Int)|||aP 8 128).toNat:Int) % 256=_
   rw [this];omega
  rw [e];exact h)
theorem afy {n:Int} (h:N (.int .u64 (((n % 18446744073709551616).toNat*2 % 18446744073709551616:Nat):Int))):aa P X w (binOp .shl t (.int .u64 (IntKind.u64.wrap n)) (.int .u64 1)) N:=by
 have e:IntKind.u64.wrap n=((n % 18446744073709551616).toNat:Int):=by rw [wrap64];omega
 rw [e];exact afu h
theorem aha {u:Nat} (h:N (.int .u8 ((u % 128+128:Nat):Int))):aa P X w (binOp .or t (.int .u8 (IntKind.u8.wrap (u:Int))) (.int .u8 128)) N:=by
 rw [Ui]
 exact aee (by omega) (by rw [show u % 256 % 128=u % 128 by omega];exact h)
end
structure Wr (w:World) (X:XS) (lo wb:Nat) (vb:Value) (bs:List Nat):Prop where
 box:bJ w X wb [vb] 308
 ow:Own w X lo 5 1 vb (bs.map U1)
def A3 (wb:Nat) (vb:Value):XS:=fun k=>k=wb∨vb.ownBlock=some k
theorem Wr.mv {w w':World} {X Y:XS} {lo wb:Nat} {vb:Value} {bs:List Nat} (h:Wr w X lo wb vb bs) (m:Mv X w Y w'):Wr w' Y lo wb vb bs:=⟨h.box.mv m,h.ow.mv m⟩
theorem Wr.ne {w:World} {X:XS} {lo wb:Nat} {vb:Value} {bs:List Nat} (h:Wr w X lo wb vb bs):vb.ownBlock≠some wb:=Own.dS h.ow h.box (by kernel_rfl)
def lv (f:FuncId) (args:Array Value) (w:World) (X:XS) (lo wb:Nat) (vb:Value) (bs ds:List Nat):Prop:=
 Ct pg f args w X (A3 wb vb) fun v wa w'=>v= .tuple #[]∧ ∃Cc,Wr w' (fun k=>A3 wb vb k∨made wa w' k) lo wb Cc (bs++ds)
structure WS (w0:World) (oZ:Value) (w:World) (X:XS) (lo wb:Nat) (vb:Value) (bs:List Nat):Prop where
 s:aj (out (A3 wb oZ) w0) w0 X w
 r:Wr w X lo wb vb bs
 v: ∀g,vb.ownBlock=some g→oZ.ownBlock=some g∨w0.heap.size≤g
section
variable {w0 w : World} {X : XS} {lo wb : Nat} {oZ vb : Value} {bs ds : List Nat} {R : Ending → World → Prop} {N : Value → World → XS → Prop}
theorem WS.init (h:Wr w0 (aW w0) lo wb oZ bs):WS w0 oZ w0 (aW w0) lo wb oZ bs:=⟨aj.out _ _,h,fun g hg=>.inl hg⟩
theorem WS.since {X':XS} {w':World} (h:WS w0 oZ w X lo wb vb bs) (hs:aj X w X' w'):WS w0 oZ w' X' lo wb vb bs:=⟨h.s.trans hs,h.r.mv hs.mv,h.v⟩
theorem WS.fin (h:WS w0 oZ w X lo wb vb (bs++ds)):fin (Ny (A3 wb oZ) w0 fun v w'=>(fun v wa w'=>v= .tuple #[]∧ ∃Cc,Wr w' (fun k=>A3 wb oZ k∨made wa w' k) lo wb Cc (bs++ds)) v w0 w') X w (.tuple #[]):=by
 refine Xi h.s fun wa hk=>⟨rfl,vb,⟨.inl (.inl rfl),(h.r.box.kp hk).2⟩,(h.r.ow.kp hk).1,(h.r.ow.kp hk).2.1,fun g hg=>?_⟩
 rcases h.v g hg with h1|h1
 ·exact .inl (.inr h1)
 ·exact .inr ⟨h1,((h.r.ow.kp hk).ge hg).2⟩
theorem WS.out (h:WS w0 oZ w X lo wb vb bs) {k:Nat} (hk:A3 wb vb k) (h0:out (A3 wb oZ) w0 k):False:=by
 rcases hk with hk|hk
 ·exact h0.2 (.inl hk)
 ·rcases h.v k hk with h1|h1
  ·exact h0.2 (.inr h1)
  ·have:=h0.1;omega
theorem WS.dZ {f:FuncId} {args:Array Value} (hS:WS w0 oZ w X lo wb vb bs) (hp:lv f args w X lo wb vb bs ds) (hf:enters pg f=true)
  (k: ∀Cc w' X',WS w0 oZ w' X' lo wb Cc (bs++ds)→fO (A3 wb vb) X w X' w'→N (.tuple #[]) w' X'):eC pg R X w true f args N:=by
 refine xw hp hf hS.s.has (fun q hq=>?_) fun v wa w' X' hq hle hU hkp hc=>?_
 ·rcases hq with rfl|hq
  ·exact hS.r.box.1
  ·exact hS.r.ow.2.2 q hq
 ·obtain⟨rfl,Cc,hW⟩:=hq
  refine k Cc w' X' ⟨hS.s.ej hc fun q h0 hq=>hS.out hq h0,⟨⟨hc.sub _ hS.r.box.1,hW.box.2⟩,hW.ow.1,hW.ow.2.1,fun g hg=>?_⟩,fun g hg=>?_⟩ hc
  ·rcases hW.ow.2.2 g hg with h1|h1
   ·rcases h1 with rfl|h1
    ·exact hc.sub _ hS.r.box.1
    ·exact hc.sub g (hS.r.ow.2.2 g h1)
   ·exact hU g h1
  ·rcases hW.ow.2.2 g hg with h1|h1
   ·rcases h1 with rfl|h1
    ·exact absurd hg hW.ne
    ·exact hS.v g h1
   ·right;have:=h1.1;have:=hS.s.kp.size;omega
theorem Jq {b:Nat} (hS:WS w0 oZ w X lo wb vb bs) (fT:lo≤w.heap.size) (hb:bs.length≤2^40)
  (k: ∀Cc w' X',WS w0 oZ w' X' lo wb Cc (bs++[b])→N undef w' X'):
  eV pg R X w true (jc 95 5 1 1 #[(0,.int .u8 (b:Int))]) fun s w1 X1=>eV pg R X1 w1 true (iS 95 5 1 1 95 vb s) fun x w2 X2=>
   ay pg X2 w2 (aH (ptr wb 0)) fun p=>aa pg X2 w2 (aQ 308 0 0 1 p) fun q=>eU pg R X2 w2 true (eo 95 1 q x) N:=by
 refine aea hS.r.ow hS.s.has fT (by kernel_rfl) (row:=U1 b) rfl rfl rfl (by simp;omega) (by simp;omega) fun v' w' X' hc ho gQ=>?_
 have dr: ∀q,jw vb q→q≠wb:=fun q hq e=>hS.r.ne (by rw [←e];exact hq)
 have iH:bJ w' X' wb [vb] 308:=⟨hc.sub _ hS.r.box.1,by rw [hc.block _ hS.r.box.1 fun hq=>dr _ hq rfl];exact hS.r.box.2⟩
 have qX:=hS.s.ej hc fun q h0 hq=>hS.out (.inr hq) h0
 have hv': ∀g,v'.ownBlock=some g→oZ.ownBlock=some g∨w0.heap.size≤g:=fun g hg=>by
  rcases gQ with e|⟨g',e,eI⟩
  ·exact hS.v g (e▸hg)
  ·rw [e] at hg;cases hg;right;have:=hS.s.kp.size;omega
 with_reducible apply aK
 have QN:fieldInfo pg 308 0=some (0,1):=by kernel_rfl
 refine aM (iH.cells) QN rfl fun o' Ig _=>?_
 subst Ig
 refine Bd iH (by kernel_rfl) (by simp) (by obtain⟨_,_,_,rfl⟩:=ho.sl.form;rfl) (by obtain⟨_,_,_,rfl⟩:=ho.sl.form;rfl) qX.has fun w3 X3 oe yE=>?_
 have Uj:v'.ownBlock≠some wb:=Own.dS ho iH (by kernel_rfl)
 refine k v' w3 X3 ⟨qX.ej oe fun q h0 hq=>h0.2 (.inl hq),⟨?_,?_⟩,hv'⟩
 ·have e:cd [vb] (0+0) v'.cells.toList=[v']:=by obtain⟨_,_,_,rfl⟩:=ho.sl.form;rfl
  rw [e] at yE;exact yE
 ·rw [bq]
  exact Own.ej ho oe fun g hg e=>Uj (by rw [hg,e])
end
theorem wC {w:World} {X:XS} :Ct pg 156 #[] w X nX fun v wa w'=> ∃wb,v=ptr wb 0∧Wr w' (made wa w') wa.heap.size wb (.slice none 0 0) []:=by
 intro w0 hk
 apply K5;unfold AR
 have hs:=aj.init w0
 repeat' first|(with_reducible apply gg);(· kernel_rfl)|(with_reducible apply lQ);(case hX=>exact hs.has);intro bx w X iH au dK;have cg:=hs.trans au;replace hs:=aj.eP au.has
 refine aq (cg.trans hs) fun wa aR=>⟨bx,rfl,⟨⟨iH,(dK.kp aR).lt⟩,(dK.kp aR).2⟩,Own.nil _ _ _ _ _⟩
theorem lC {w:World} {X:XS} {lo wb:Nat} {vb:Value} {bs:List Nat} {n:Int} (h:Wr w X lo wb vb bs) (hb:bs.length≤2^39) (fT:lo≤w.heap.size):lv 206 #[ptr wb 0,I n] w X lo wb vb bs (encI n):=by
 intro w0 hk
 have cB:lo≤w0.heap.size:=ah fT hk.size
 have hS:=WS.init (h.mv hk.dA)
 apply Je;unfold zU
 have hs:=hS.s
 have wq:=hS.r.box
 repeat' first|(with_reducible apply pq);(· kernel_rfl);(· kernel_rfl)|(with_reducible apply afy)
 refine fV (fun k=>k (.int .u64 (rF n:Int))) ?_ ?_
 ·refine fK (fun n' a w X=> ∃(u:Nat) (oN:Value) (bsi:List Nat),a= .int .u64 (u:Int)∧n'=u∧WS w0 vb w X lo wb oN bsi∧bsi++nU u=bs++encI n) (rF n) ⟨rF n,vb,bs,rfl,rfl,hS,rfl⟩ ?_
  clear hs wq hS
  rintro u a w X ⟨_,oN,bsi,rfl,rfl,hS,pR⟩
  have hs:=hS.s
  have wq:=hS.r.box
  have hlen:bsi.length≤2^40:=by
   have h1:=congrArg aB pR
   have h2:=ee n
   simp only [ae] at h1
   omega
  have Pq:lo≤w.heap.size:=ah cB hs.kp.size
  by_cases hu:u<128
  ·have he:nU u=[u]:=by rw [nU,if_pos hu]
   repeat' first|(with_reducible refine Ei ?_ ?_);omega|with_reducible (first|apply ak|apply aK)|(with_reducible apply aM);exact qF;(· kernel_rfl);rfl;intro _ _ _|(with_reducible apply aZ);exact qF;exact qM;(· kernel_rfl);rfl|(with_reducible apply pq);(· kernel_rfl);(· kernel_rfl)
   rw [Ui,show u % 256=u by omega]
   refine Jq hS Pq hlen fun gS w2 X2 bu=>?_
   rw [←he,pR] at bu
   exact bu.fin
  ·have he:nU u=(u % 128+128)::nU (u/128):=by rw [nU,if_neg hu]
   repeat' first|(with_reducible refine Nw ?_ ?_);omega|with_reducible (first|apply aD|apply aK)|(with_reducible apply aM);exact qF;(· kernel_rfl);rfl;intro _ _ _|(with_reducible apply aZ);exact qF;exact qM;(· kernel_rfl);rfl|(with_reducible apply pq);(· kernel_rfl);(· kernel_rfl)|(with_reducible apply aha)
   refine Jq hS Pq hlen fun gS w2 X2 bu=>?_
   repeat' first|(with_reducible apply afv)
   refine ga (u/128) (by omega) ⟨u/128,gS,_,rfl,rfl,bu,?_⟩
   rw [ax,List.singleton_append,←he];exact pR
 ·intro K hK
  repeat' first|with_reducible (first|apply aD|apply ak)|(with_reducible apply kE<;>intro _)|(with_reducible apply afx);omega
  ·have:rF n=18446744073709551615-((n % 18446744073709551616).toNat*2 % 18446744073709551616):=by unfold rF;rw [if_pos (by omega)]
   rw [←this];exact hK
  ·have:rF n=(n % 18446744073709551616).toNat*2 % 18446744073709551616:=by unfold rF;rw [if_neg (by omega)]
   rw [←this];exact hK
theorem ab5 (s:BA):(uM s).map (fun x=>[x])=(s.data.toList.map nO).map U1:=by
 unfold uM;simp
section
variable {w0 w : World} {X : XS} {lo wb : Nat} {oZ vb : Value} {bs ds : List Nat} {R : Ending → World → Prop} {N : Value → World → XS → Prop}
theorem afz {v':Value} {w':World} {X':XS} (hS:WS w0 oZ w X lo wb vb bs) (hc:fO (jw vb) X w X' w') (ho:Own w' X' lo 5 1 v' (ds.map U1)) (gQ:v'.ownBlock=vb.ownBlock∨ ∃g,v'.ownBlock=some g∧w.heap.size≤g)
  (k: ∀w' X',WS w0 oZ w' X' lo wb v' ds→N undef w' X'):
  ay pg X' w' (aH (ptr wb 0)) fun p=>aa pg X' w' (aQ 308 0 0 1 p) fun q=>eU pg R X' w' true (eo 95 1 q v') N:=by
 have dr: ∀q,jw vb q→q≠wb:=fun q hq e=>hS.r.ne (by rw [←e];exact hq)
 have iH:bJ w' X' wb [vb] 308:=⟨hc.sub _ hS.r.box.1,by rw [hc.block _ hS.r.box.1 fun hq=>dr _ hq rfl];exact hS.r.box.2⟩
 have qX:=hS.s.ej hc fun q h0 hq=>hS.out (.inr hq) h0
 have hv': ∀g,v'.ownBlock=some g→oZ.ownBlock=some g∨w0.heap.size≤g:=fun g hg=>by
  rcases gQ with e|⟨g',e,eI⟩
  ·exact hS.v g (e▸hg)
  ·rw [e] at hg;cases hg;right;have:=hS.s.kp.size;omega
 with_reducible apply aK
 have QN:fieldInfo pg 308 0=some (0,1):=by kernel_rfl
 refine aM (iH.cells) QN rfl fun o' Ig _=>?_
 subst Ig
 refine Bd iH (by kernel_rfl) (by simp) (by obtain⟨_,_,_,rfl⟩:=ho.sl.form;rfl) (by obtain⟨_,_,_,rfl⟩:=ho.sl.form;rfl) qX.has fun w3 X3 oe yE=>?_
 have Uj:v'.ownBlock≠some wb:=Own.dS ho iH (by kernel_rfl)
 refine k w3 X3 ⟨qX.ej oe fun q h0 hq=>h0.2 (.inl hq),⟨?_,?_⟩,hv'⟩
 ·have e:cd [vb] (0+0) v'.cells.toList=[v']:=by obtain⟨_,_,_,rfl⟩:=ho.sl.form;rfl
  rw [e] at yE;exact yE
 ·exact Own.ej ho oe fun g hg e=>Uj (by rw [hg,e])
end
theorem LN {w:World} {X:XS} {lo wb:Nat} {vb:Value} {bs:List Nat} {s:BA} (h:Wr w X lo wb vb bs) (hb:bs.length≤2^38) (fT:lo≤w.heap.size) (cg:s.size≤2^38):lv 291 #[ptr wb 0,.string s] w X lo wb vb bs (kU s):=by
 intro w0 hk
 have cB:lo≤w0.heap.size:=ah fT hk.size
 have hS:=WS.init (h.mv hk.dA)
 apply HY;unfold yS
 have hs:=hS.s
 repeat' first|(with_reducible apply rV);(· kernel_rfl)
 refine hS.dZ (lC hS.r (by omega) cB) (by kernel_rfl) fun gS w2 X2 bu lS=>?_
 clear hs
 have hs:=bu.s
 have wq:=bu.r.box
 have Xu:=ee s.size
 repeat' first|with_reducible apply aK|(with_reducible apply aM);exact qF;(· kernel_rfl);rfl;intro _ _ _|(with_reducible apply aZ);exact qF;exact qM;(· kernel_rfl);rfl
 refine afj (bytes:=1) bu.r.ow hs.has (ah cB hs.kp.size) (by kernel_rfl) (by kernel_rfl) (by simp;omega) (by simp;omega) fun v' w3 X3 hc ho gQ=>?_
 rw [ab5,←bq] at ho
 refine afz bu hc ho gQ fun w4 X4 eG=>?_
 rw [ax] at eG
 exact eG.fin
theorem Jr {w:World} {X:XS} {lo wb:Nat} {vb:Value} {bs:List Nat} {x:Nat} (h:Wr w X lo wb vb bs) (hb:bs.length≤2^39) (fT:lo≤w.heap.size):lv 219 #[ptr wb 0,.float .f64 x] w X lo wb vb bs (sc x):=by
 intro w0 hk
 have cB:lo≤w0.heap.size:=ah fT hk.size
 have hS:=WS.init (h.mv hk.dA)
 apply F5;unfold xT
 have hs:=hS.s
 repeat' first|((with_reducible refine iO (x6 _) ?_ hs.has ?_);(· kernel_rfl);intro w X au;replace hs:=hs.trans au)
 refine iN (fun n' a b w X=> ∃(i:Nat) (oN:Value),a=I i∧b= .int .u64 ((canon x/256^i:Nat):Int)∧n'=8-i∧i≤8∧WS w0 vb w X lo wb oN (bs++(List.range i).map (Cb (canon x)))) 8
  ⟨0,vb,rfl,by simp,rfl,by omega,by simpa using hS.since (by assumption)⟩ ?_
 clear hs hS au
 rintro n' a b w X ⟨i,oN,rfl,rfl,rfl,hi,hS⟩
 have hs:=hS.s
 have wq:=hS.r.box
 have Pq:lo≤w.heap.size:=ah cB hs.kp.size
 by_cases h8:i<8
 ·repeat' first|(with_reducible refine dC ?_ ?_);omega|with_reducible (first|apply aD|apply aK)|(with_reducible apply aM);exact qF;(· kernel_rfl);rfl;intro _ _ _|(with_reducible apply aZ);exact qF;exact qM;(· kernel_rfl);rfl|(with_reducible apply pq);(· kernel_rfl);(· kernel_rfl)
  rw [Ui]
  refine Jq hS Pq (by simp;omega) fun gS w2 X2 bu=>?_
  repeat' first|(with_reducible apply cx);omega;omega|(with_reducible apply afw)
  refine iC (8-(i+1)) (by omega) ⟨i+1,gS,by simp,?_,rfl,by omega,?_⟩
  ·rw [nT,jg]
  ·rw [List.range_succ,bq,←ax];exact bu
 ·obtain rfl:i=8:=by omega
  repeat' first|(with_reducible refine dm ?_ ?_);omega|with_reducible apply ak
  exact hS.fin
theorem Cd {w:World} {X:XS} {lo wb:Nat} {vb:Value} {bs:List Nat} (h:Wr w X lo wb vb bs) (hb:bs.length≤2^40):Ct pg 157 #[ptr wb 0] w X nX fun v wa w'=>Own w' (made wa w') wa.heap.size 5 1 v (bs.map U1):=by
 intro w0 hk
 replace h:=h.mv hk.dA
 have wq:=h.box
 apply FU;unfold xO
 have hs:=aj.init w0
 repeat' first|with_reducible apply aK|(with_reducible apply aM);exact qF;(· kernel_rfl);rfl;intro _ _ _|(with_reducible apply aZ);exact qF;exact qM;(· kernel_rfl);rfl|(with_reducible apply CG);(case hX=>exact hs.has);(case hu=>kernel_rfl);(case hz=>kernel_rfl);intro acc w X au ho;replace hs:=hs.trans au|((first|(with_reducible refine aq hs ?_)|(with_reducible refine aq (cg.trans hs) ?_));intro wa hk;(exact(ho.kp hk).tight))|((with_reducible apply zK);(case own=>assumption);(case hs=>assumption);(case h0=>exact fun _ h=>h);(case he=>kernel_rfl);(case src=>exact Sl.mv h.ow.sl (aj.mv hs));(case h1=>simp [one]);(case hb=>simp;omega);(case hl=>simp;omega);intro acc w X au ho hc gQ;replace hs:=au;rw [cV] at ho)
theorem Wv {w:World} {X:XS} {lo wb:Nat} {vb:Value} {bs:List Nat} {b:Bool} (h:Wr w X lo wb vb bs) (hb:bs.length≤2^39) (fT:lo≤w.heap.size):lv 217 #[ptr wb 0,B b] w X lo wb vb bs (YP b):=by
 intro w0 hk
 have cB:lo≤w0.heap.size:=ah fT hk.size
 have hS:=WS.init (h.mv hk.dA)
 apply HW;unfold yQ
 have hs:=hS.s
 have wq:=hS.r.box
 cases b<;>
 repeat' first|with_reducible (first|apply aD|apply ak|apply aK)|(with_reducible apply aM);exact qF;(· kernel_rfl);rfl;intro _ _ _|(with_reducible apply aZ);exact qF;exact qM;(· kernel_rfl);rfl
 ·refine Jq (b:=0) hS cB (by omega) fun gS w2 X2 bu=>?_
  exact bu.fin
 ·refine Jq (b:=1) hS cB (by omega) fun gS w2 X2 bu=>?_
  exact bu.fin
def oh (Z X:XS) (wb:Nat) (vb:Value):Prop:= ∀k,Z k→X k∧ ¬A3 wb vb k
section
variable {w0 w : World} {X : XS} {lo wb : Nat} {oZ vb : Value} {bs ds : List Nat}
theorem WS.z (hS:WS w0 oZ w X lo wb vb bs):oh (fR.out (A3 wb oZ) w0) X wb vb:=fun k h=>⟨hS.s.sub k h,fun hf=>hS.out hf h⟩
theorem WS.at (hS:WS w0 oZ w X lo wb vb bs):Mv (fR.out (A3 wb oZ) w0) w0 (fR.out (A3 wb oZ) w0) w:=fun k hk _=>⟨hk,hS.s.kp.block k hk⟩
theorem oh.mv {Z:XS} (h:oh Z X wb vb) (hk:Kp X w w0):Mv Z w (out (A3 wb vb) w0) w0:=fun k ai hl=>⟨⟨aU hl hk.size,(h k ai).2⟩,hk.block k (h k ai).1⟩
end
abbrev iZ (wb:Nat):List Value:=[ptr wb 0,.pointer none]
theorem Ww {w:World} {X:XS} {lo wb:Nat} {vb:Value} {bs:List Nat} {v:fq} (h:Wr w X lo wb vb bs) (hb:bs.length≤2^37) (fT:lo≤w.heap.size):lv 296 #[ptr wb 0,v.v] w X lo wb vb bs (lu v):=by
 intro w0 hk
 have cB:lo≤w0.heap.size:=ah fT hk.size
 have hS:=WS.init (h.mv hk.dA)
 apply TW;unfold IY
 have hs:=hS.s
 refine fV (fun k=> ∀w X,aj (aW w0) w0 X w→k (if v.may then v else fq.zero).v w X) ?_ ?_
 ·intro w X hsX
  generalize hu:(if v.may then v else fq.zero)=u
  have hue:lu v=encI u.kind++(if u.kind=1 then sc u.num else if u.kind=2 then kU u.text else []):=by unfold lu;simp only [hu]
  have hut:u.kind=2→u.text.size≤64:=by
   intro h2
   by_cases hm:v.may=true
   ·rw [if_pos hm] at hu
    subst hu
    unfold fq.may at hm
    rw [if_neg (by omega),if_neg (by omega),if_pos h2] at hm
    simp at hm
    omega
   ·rw [if_neg hm] at hu
    rw [←hu] at h2;cases h2
  have iy:=hS.since hsX
  replace hs:=iy.s
  repeat' first|(with_reducible apply gP);rfl|(with_reducible apply eh);exact qC
  refine iy.dZ (lC iy.r (by omega) (ah cB hs.kp.size)) (by kernel_rfl) fun gS w2 X2 bu lS=>?_
  have he:=ee u.kind
  replace hs:=bu.s
  repeat' first|(with_reducible apply eh);exact qC
  refine fV (fun k=> ∀w X kC,WS w0 vb w X lo wb kC (bs++lu v)→k w X) ?_ ?_
  ·intro w X kC bP
   exact bP.fin
  ·intro K hK
   rw [hue,←ax] at hK
   repeat' first|with_reducible (first|apply aD|apply ak)|(with_reducible apply gP);rfl|(with_reducible apply gF<;>intro _)|(with_reducible apply eh);exact qC
   ·refine bu.dZ (Jr bu.r (by simp;omega) (ah cB hs.kp.size)) (by kernel_rfl) fun kC w3 X3 bP oe=>?_
    replace hs:=bP.s
    skip
    rw [if_pos (by omega)] at hK
    exact hK _ _ _ bP
   ·refine bu.dZ (LN bu.r (by simp;omega) (ah cB hs.kp.size) (by have:=hut (by omega);omega)) (by kernel_rfl) fun kC w3 X3 bP oe=>?_
    replace hs:=bP.s
    skip
    rw [if_neg (by omega),if_pos (by omega)] at hK
    exact hK _ _ _ bP
   ·rw [if_neg (by omega),if_neg (by omega)] at hK
    rw [cp] at hK
    exact hK _ _ _ bu
 ·intro K hK
  have hs:=aj.init w0
  cases hm:v.may<;>rw [hm] at hK
  ·repeat' first|with_reducible (first|apply aD|apply ak|apply ff|apply eY|apply gv)|(with_reducible apply gg);(· kernel_rfl)|(with_reducible apply fj);(case h=>exact qE)|(with_reducible apply eh);exact qC|((with_reducible refine dU (mz _) ?_ hs.has ?_ ?_);(· kernel_rfl);all_goals (intro _ w X au;replace hs:=hs.trans au))
   all_goals first|exact hK _ _ hs|(exfalso;simp_all)
  ·repeat' first|with_reducible (first|apply aD|apply ak|apply ff|apply eY|apply gv)|(with_reducible apply gg);(· kernel_rfl)|(with_reducible apply fj);(case h=>exact qE)|(with_reducible apply eh);exact qC|((with_reducible refine dU (mz _) ?_ hs.has ?_ ?_);(· kernel_rfl);all_goals (intro _ w X au;replace hs:=hs.trans au))
   all_goals first|exact hK _ _ hs|(exfalso;simp_all)
theorem iM {w:World} {X Z:XS} {lo wb cb xb xo:Nat} {vb:Value} {bs:List Nat} {n:Int} (h:Wr w X lo wb vb bs) (hc:Cells w Z cb 0 (iZ wb)) (hx:Cells w Z xb xo [I n]) (hZ:oh Z X wb vb) (hb:bs.length≤2^38) (fT:lo≤w.heap.size):
  lv 142 #[ptr cb 0,ptr xb xo] w X lo wb vb bs (encI n):=by
 intro w0 hk
 have cB:lo≤w0.heap.size:=ah fT hk.size
 replace hc:=hc.mv (hZ.mv hk)
 replace hx:=hx.mv (hZ.mv hk)
 have hS:=WS.init (h.mv hk.dA)
 apply zX;unfold tQ
 have hs:=hS.s
 repeat' first|with_reducible (first|apply aD|apply aK)|(with_reducible apply aM);exact qF;(· kernel_rfl);rfl;intro _ _ _|(with_reducible apply aZ);exact qF;exact qM;(· kernel_rfl);rfl|(with_reducible apply od);(· kernel_rfl)
 refine hS.dZ (lC hS.r (by omega) cB) (by kernel_rfl) fun gS w2 X2 bu lS=>?_
 skip
 exact bu.fin
theorem x9 {w:World} {X Z:XS} {lo wb cb xb xo:Nat} {vb:Value} {bs:List Nat} {s:BA} (h:Wr w X lo wb vb bs) (hc:Cells w Z cb 0 (iZ wb)) (hx:Cells w Z xb xo [.string s]) (hZ:oh Z X wb vb) (hb:bs.length≤2^38) (fT:lo≤w.heap.size) (cg:s.size≤2^38):
  lv 214 #[ptr cb 0,ptr xb xo] w X lo wb vb bs (kU s):=by
 intro w0 hk
 have cB:lo≤w0.heap.size:=ah fT hk.size
 replace hc:=hc.mv (hZ.mv hk)
 replace hx:=hx.mv (hZ.mv hk)
 have hS:=WS.init (h.mv hk.dA)
 apply yV;unfold sW
 have hs:=hS.s
 repeat' first|with_reducible (first|apply aD|apply aK)|(with_reducible apply aM);exact qF;(· kernel_rfl);rfl;intro _ _ _|(with_reducible apply aZ);exact qF;exact qM;(· kernel_rfl);rfl|(with_reducible apply od);(· kernel_rfl)
 refine hS.dZ (LN hS.r (by omega) cB cg) (by kernel_rfl) fun gS w2 X2 bu lS=>?_
 skip
 exact bu.fin
theorem iz {w:World} {X Z:XS} {lo wb cb xb xo:Nat} {vb:Value} {bs:List Nat} {s:bZ} (h:Wr w X lo wb vb bs) (hc:Cells w Z cb 0 (iZ wb)) (hx:Cells w Z xb xo s.l) (hZ:oh Z X wb vb) (hb:bs.length≤2^37) (fT:lo≤w.heap.size):
  lv 148 #[ptr cb 0,ptr xb xo] w X lo wb vb bs (jL s):=by
 have e1:=ee s.wall
 have e2:=ee s.fA
 intro w0 hk
 have cB:lo≤w0.heap.size:=ah fT hk.size
 replace hc:=hc.mv (hZ.mv hk)
 replace hx:=hx.mv (hZ.mv hk)
 have hS:=WS.init (h.mv hk.dA)
 apply xY;unfold rZ
 have hs:=hS.s
 repeat' first|with_reducible apply aK|(with_reducible apply aM);exact qF;(· kernel_rfl);rfl;intro _ _ _
 refine hS.dZ (iM (hS.r) (hc.mv hS.at) (Cells.mv (by assumption) hS.at) hS.z (by omega) cB) (by kernel_rfl) fun gS w2 X2 bu lS=>?_
 replace hs:=bu.s
 repeat' first|with_reducible apply aK|(with_reducible apply aM);exact qF;(· kernel_rfl);rfl;intro _ _ _
 refine bu.dZ (iM (bu.r) (hc.mv bu.at) (Cells.mv (by assumption) bu.at) bu.z (by simp;omega) (ah cB hs.kp.size)) (by kernel_rfl) fun kC w3 X3 bP oe=>?_
 replace hs:=bP.s
 repeat' first|with_reducible apply aK|(with_reducible apply aM);exact qF;(· kernel_rfl);rfl;intro _ _ _
 refine bP.dZ (iM (bP.r) (hc.mv bP.at) (Cells.mv (by assumption) bP.at) bP.z (by simp;omega) (ah cB hs.kp.size)) (by kernel_rfl) fun LO w4 X4 eG tW=>?_
 replace hs:=eG.s
 skip
 rw [ax,ax,←ax (encI s.wall)] at eG
 exact eG.fin
theorem sS {w:World} {X Z:XS} {lo wb cb xb xo:Nat} {vb:Value} {bs:List Nat} {s:gM} (h:Wr w X lo wb vb bs) (hc:Cells w Z cb 0 (iZ wb)) (hx:Cells w Z xb xo s.l) (hZ:oh Z X wb vb) (hb:bs.length≤2^37) (fT:lo≤w.heap.size):
  lv 146 #[ptr cb 0,ptr xb xo] w X lo wb vb bs (pX s):=by
 have e1:=ee s.jR
 have e2:=ee s.nj
 intro w0 hk
 have cB:lo≤w0.heap.size:=ah fT hk.size
 replace hc:=hc.mv (hZ.mv hk)
 replace hx:=hx.mv (hZ.mv hk)
 have hS:=WS.init (h.mv hk.dA)
 apply zY;unfold tR
 have hs:=hS.s
 repeat' first|with_reducible apply aK|(with_reducible apply aM);exact qF;(· kernel_rfl);rfl;intro _ _ _
 refine hS.dZ (iM (hS.r) (hc.mv hS.at) (Cells.mv (by assumption) hS.at) hS.z (by omega) cB) (by kernel_rfl) fun gS w2 X2 bu lS=>?_
 replace hs:=bu.s
 repeat' first|with_reducible apply aK|(with_reducible apply aM);exact qF;(· kernel_rfl);rfl;intro _ _ _
 refine bu.dZ (iM (bu.r) (hc.mv bu.at) (Cells.mv (by assumption) bu.at) bu.z (by simp;omega) (ah cB hs.kp.size)) (by kernel_rfl) fun kC w3 X3 bP oe=>?_
 replace hs:=bP.s
 repeat' first|with_reducible apply aK|(with_reducible apply aM);exact qF;(· kernel_rfl);rfl;intro _ _ _
 refine bP.dZ (iM (bP.r) (hc.mv bP.at) (Cells.mv (by assumption) bP.at) bP.z (by simp;omega) (ah cB hs.kp.size)) (by kernel_rfl) fun LO w4 X4 eG tW=>?_
 replace hs:=eG.s
 skip
 rw [ax,ax,←ax (encI s.jR)] at eG
 exact eG.fin
theorem nV (s:BA):(kU s).length=(encI s.size).length+s.size:=by
 unfold kU
 rw [ae,aS]
 congr 1
theorem MM {v:fq} :(lu v).length≤100:=by
 unfold lu
 generalize hu:(if v.may then v else fq.zero)=u
 have h1:=ee u.kind
 have hut:u.kind=2→u.text.size≤64:=by
  intro h2
  by_cases hm:v.may=true
  ·rw [if_pos hm] at hu
   subst hu
   unfold fq.may at hm
   rw [if_neg (by omega),if_neg (by omega),if_pos h2] at hm
   simp at hm
   omega
  ·rw [if_neg hm] at hu
   rw [←hu] at h2;cases h2
 dsimp only
 rw [ae]
 by_cases k1:u.kind=1
 ·rw [if_pos k1];unfold sc;simp;omega
 ·rw [if_neg k1]
  by_cases k2:u.kind=2
  ·rw [if_pos k2]
   have h3:=hut k2
   have h4:=ee u.text.size
   rw [nV]
   omega
  ·rw [if_neg k2];simp;omega
theorem Al {w:World} {X Z:XS} {lo wb cb xb xo:Nat} {vb:Value} {bs:List Nat} {v:fq} (h:Wr w X lo wb vb bs) (hc:Cells w Z cb 0 (iZ wb)) (hx:Cells w Z xb xo v.l) (hZ:oh Z X wb vb) (hb:bs.length≤2^37) (fT:lo≤w.heap.size):
  lv 221 #[ptr cb 0,ptr xb xo] w X lo wb vb bs (lu v):=by
 intro w0 hk
 have cB:lo≤w0.heap.size:=ah fT hk.size
 replace hc:=hc.mv (hZ.mv hk)
 replace hx:=hx.mv (hZ.mv hk)
 have hS:=WS.init (h.mv hk.dA)
 apply x5;unfold r6
 have hs:=hS.s
 repeat' first|with_reducible (first|apply aD|apply aK)|(with_reducible apply aM);exact qF;(· kernel_rfl);rfl;intro _ _ _|(with_reducible apply aZ);exact qF;exact qM;(· kernel_rfl);rfl|(with_reducible apply fP);exact qF;exact qM;(· kernel_rfl);rfl|(with_reducible apply od);(· kernel_rfl)
 refine hS.dZ (Ww hS.r (by omega) cB) (by kernel_rfl) fun gS w2 X2 bu lS=>?_
 skip
 exact bu.fin
theorem Hn {w:World} {X Z:XS} {lo wb cb xb xo:Nat} {vb:Value} {bs:List Nat} {x:KV} (h:Wr w X lo wb vb bs) (hc:Cells w Z cb 0 (iZ wb)) (hx:Cells w Z xb xo x.l) (hZ:oh Z X wb vb) (hb:bs.length≤2^35) (fT:lo≤w.heap.size) (cg:x.key.size≤2^35):
  lv 151 #[ptr cb 0,ptr xb xo] w X lo wb vb bs (dd x):=by
 have e1:(kU x.key).length≤10+x.key.size:=by
  have:=ee x.key.size
  rw [nV]
  omega
 intro w0 hk
 have cB:lo≤w0.heap.size:=ah fT hk.size
 replace hc:=hc.mv (hZ.mv hk)
 replace hx:=hx.mv (hZ.mv hk)
 have hS:=WS.init (h.mv hk.dA)
 apply xZ;unfold r5
 have hs:=hS.s
 repeat' first|with_reducible apply aK|(with_reducible apply aM);exact qF;(· kernel_rfl);rfl;intro _ _ _
 refine hS.dZ (x9 hS.r (hc.mv hS.at) (Cells.mv (by assumption) hS.at) hS.z (by omega) cB (by omega)) (by kernel_rfl) fun gS w2 X2 bu lS=>?_
 replace hs:=bu.s
 repeat' first|with_reducible apply aK|(with_reducible apply gx);exact qF;(· kernel_rfl);rfl;exact qN;intro _ _ _
 refine bu.dZ (Al (v:=x.val) bu.r (hc.mv bu.at) (Cells.mv (by assumption) bu.at) bu.z (by simp;omega) (ah cB hs.kp.size)) (by kernel_rfl) fun kC w3 X3 bP oe=>?_
 replace hs:=bP.s
 skip
 rw [ax] at bP
 exact bP.fin
theorem Js {w:World} {X Z:XS} {lo wb cb xb xo:Nat} {vb:Value} {bs:List Nat} {x:KV} (h:Wr w X lo wb vb bs) (hc:Cells w Z cb 0 (iZ wb)) (hx:Cells w Z xb xo x.l) (hZ:oh Z X wb vb) (hb:bs.length≤2^35) (fT:lo≤w.heap.size) (cg:x.key.size≤2^35):
  lv 153 #[ptr cb 0,ptr xb xo] w X lo wb vb bs (dd x):=by
 have e1:(kU x.key).length≤10+x.key.size:=by
  have:=ee x.key.size
  rw [nV]
  omega
 intro w0 hk
 have cB:lo≤w0.heap.size:=ah fT hk.size
 replace hc:=hc.mv (hZ.mv hk)
 replace hx:=hx.mv (hZ.mv hk)
 have hS:=WS.init (h.mv hk.dA)
 apply yU;unfold sV
 have hs:=hS.s
 repeat' first|with_reducible apply aK|(with_reducible apply aM);exact qF;(· kernel_rfl);rfl;intro _ _ _
 refine hS.dZ (x9 hS.r (hc.mv hS.at) (Cells.mv (by assumption) hS.at) hS.z (by omega) cB (by omega)) (by kernel_rfl) fun gS w2 X2 bu lS=>?_
 replace hs:=bu.s
 repeat' first|with_reducible apply aK|(with_reducible apply gx);exact qF;(· kernel_rfl);rfl;exact qN;intro _ _ _
 refine bu.dZ (Al (v:=x.val) bu.r (hc.mv bu.at) (Cells.mv (by assumption) bu.at) bu.z (by simp;omega) (ah cB hs.kp.size)) (by kernel_rfl) fun kC w3 X3 bP oe=>?_
 replace hs:=bP.s
 skip
 rw [ax] at bP
 exact bP.fin
theorem jU {α:Type} {f:α→List Nat} {xs:List α} {i:Nat} {x:α} (h:xs[i]? =some x):((xs.take (i+1)).map f).flatten=((xs.take i).map f).flatten++f x:=by
 rw [dI,h];simp
theorem Gi {α:Type} {f:α→List Nat} {B:Nat} : ∀{xs:List α},(∀x∈xs,(f x).length≤B)→((xs.map f).flatten).length≤xs.length*B
 |[],_=>by simp
 |x::xs,h=>by
  have h1:=Gi (xs:=xs) fun y hy=>h y (List.mem_cons_of_mem _ hy)
  have h2:=h x (by simp)
  simp only [bh,dg,ae,bC]
  rw [Nat.succ_mul];omega
theorem C9 {x:KV} :(dd x).length≤110+x.key.size:=by
 have h1:=ee x.key.size
 have h2:=MM (v:=x.val)
 have h3:=nV x.key
 unfold dd
 rw [ae];omega
theorem Ld {w:World} {X Z:XS} {lo wb cb xb xo:Nat} {vb va:Value} {bs:List Nat} {xs:List KV} (h:Wr w X lo wb vb bs) (hc:Cells w Z cb 0 (iZ wb)) (hx:Cells w Z xb xo [va]) (ha:Sl w Z 4 va (xs.map KV.l)) (hZ:oh Z X wb vb) (hb:bs.length≤2^34) (fT:lo≤w.heap.size) (hl:xs.length≤2^16) (kX: ∀x∈xs,x.key.size≤2^16):
  lv 150 #[ptr cb 0,ptr xb xo,.func (.func 151) #[ptr cb 0] #[]] w X lo wb vb bs (gA dd xs):=by
 intro w0 hk
 have cB:lo≤w0.heap.size:=ah fT hk.size
 replace hc:=hc.mv (hZ.mv hk)
 replace hx:=hx.mv (hZ.mv hk)
 replace ha:=ha.mv (hZ.mv hk)
 have hS:=WS.init (h.mv hk.dA)
 have nw:=ha.gW
 apply pG;unfold mZ
 have hs:=hS.s
 repeat' first|with_reducible apply aK|(with_reducible apply aZ);exact qF;exact qM;(· kernel_rfl);rfl|(with_reducible apply bS);exact qO;(· kernel_rfl)
 refine fV (fun (k:Value→World→XS→Prop)=> ∀w X gS,WS w0 vb w X lo wb gS (bs++encI xs.length)→k (I xs.length) w X) ?_ ?_
 ·intro w X gS bu
  refine fK (fun n' a w X=> ∃(i:Nat) (oN:Value),a=I i∧n'=xs.length-i∧i≤xs.length∧WS w0 vb w X lo wb oN (bs++encI xs.length++((xs.take i).map dd).flatten)) xs.length ⟨0,gS,rfl,rfl,aV _,by simpa using bu⟩ ?_
  clear bu hS hs
  rintro n' a w X ⟨i,oN,rfl,rfl,hi,hS⟩
  have hs:=hS.s
  have he:=ee xs.length
  have nr:(((xs.take i).map dd).flatten).length≤2^33:=by
   refine ah (Gi (B:=110+2^16) fun x hx=>?_) ?_
   ·have h1:=C9 (x:=x)
    have h2:=kX x (tV hx)
    omega
   ·have h3:(xs.take i).length≤2^16:=by rw [bQ];omega
    exact ah (dM _ h3) (by decide)
  rcases fh xs i with⟨dh,x,rG,hd⟩|⟨eI,hd⟩
  ·have hkx:=kX x (bg rG)
   repeat' first|(with_reducible refine dC ?_ ?_);omega|with_reducible apply aD
   refine fV (fun (k:World→XS→Prop)=>k w X) ?_ ?_
   ·repeat' first|with_reducible apply aK|(with_reducible apply aZ);exact qF;exact qM;(· kernel_rfl);rfl|((with_reducible apply e7);exact qO;(try (case hz=>rfl));(case hr=>exact qR);(try (case hz=>omega));(case ht=>kernel_rfl);(case hs=>kernel_rfl);intro _ _ _)
    refine tL ?_
    refine hS.dZ (Hn (x:=x) hS.r (hc.mv hS.at) (Cells.mv (by assumption) hS.at) hS.z (by simp only [ae];omega) (ah cB hs.kp.size) (by omega)) (by kernel_rfl) fun kC w3 X3 bP oe=>?_
    replace hs:=bP.s
    repeat' first|(with_reducible apply cx);omega;omega
    refine ga (xs.length-(i+1)) (by omega) ⟨i+1,kC,by simp,rfl,by omega,?_⟩
    rw [jU rG,←ax];exact bP
   ·intro K hK
    repeat' first|with_reducible (first|apply ak|apply aK)|(with_reducible apply aM);exact qF;(· kernel_rfl);rfl;intro _ _ _|(with_reducible apply aZ);exact qF;exact qM;(· kernel_rfl);rfl|(with_reducible apply lR);(· kernel_rfl)|exact hK
  ·rw [cl eI] at hS
   repeat' first|(with_reducible refine dm ?_ ?_);omega|with_reducible apply ak
   rw [ax] at hS
   exact hS.fin
 ·intro K hK
  repeat' first|with_reducible (first|apply aD|apply aK)|(with_reducible apply aM);exact qF;(· kernel_rfl);rfl;intro _ _ _|(with_reducible apply aZ);exact qF;exact qM;(· kernel_rfl);rfl|(with_reducible apply od);(· kernel_rfl)
  refine hS.dZ (lC hS.r (by omega) cB) (by kernel_rfl) fun gS w2 X2 bu lS=>?_
  replace hs:=bu.s
  skip
  exact hK _ _ _ bu
theorem MN {w:World} {X Z:XS} {lo wb cb xb xo:Nat} {vb va:Value} {bs:List Nat} {xs:List KV} (h:Wr w X lo wb vb bs) (hc:Cells w Z cb 0 (iZ wb)) (hx:Cells w Z xb xo [va]) (ha:Sl w Z 4 va (xs.map KV.l)) (hZ:oh Z X wb vb) (hb:bs.length≤2^34) (fT:lo≤w.heap.size) (hl:xs.length≤2^16) (kX: ∀x∈xs,x.key.size≤2^16):
  lv 152 #[ptr cb 0,ptr xb xo,.func (.func 153) #[ptr cb 0] #[]] w X lo wb vb bs (gA dd xs):=by
 intro w0 hk
 have cB:lo≤w0.heap.size:=ah fT hk.size
 replace hc:=hc.mv (hZ.mv hk)
 replace hx:=hx.mv (hZ.mv hk)
 replace ha:=ha.mv (hZ.mv hk)
 have hS:=WS.init (h.mv hk.dA)
 have nw:=ha.gW
 apply qh;unfold ny
 have hs:=hS.s
 repeat' first|with_reducible apply aK|(with_reducible apply aZ);exact qF;exact qM;(· kernel_rfl);rfl|(with_reducible apply bS);exact qO;(· kernel_rfl)
 refine fV (fun (k:Value→World→XS→Prop)=> ∀w X gS,WS w0 vb w X lo wb gS (bs++encI xs.length)→k (I xs.length) w X) ?_ ?_
 ·intro w X gS bu
  refine fK (fun n' a w X=> ∃(i:Nat) (oN:Value),a=I i∧n'=xs.length-i∧i≤xs.length∧WS w0 vb w X lo wb oN (bs++encI xs.length++((xs.take i).map dd).flatten)) xs.length ⟨0,gS,rfl,rfl,aV _,by simpa using bu⟩ ?_
  clear bu hS hs
  rintro n' a w X ⟨i,oN,rfl,rfl,hi,hS⟩
  have hs:=hS.s
  have he:=ee xs.length
  have nr:(((xs.take i).map dd).flatten).length≤2^33:=by
   refine ah (Gi (B:=110+2^16) fun x hx=>?_) ?_
   ·have h1:=C9 (x:=x)
    have h2:=kX x (tV hx)
    omega
   ·have h3:(xs.take i).length≤2^16:=by rw [bQ];omega
    exact ah (dM _ h3) (by decide)
  rcases fh xs i with⟨dh,x,rG,hd⟩|⟨eI,hd⟩
  ·have hkx:=kX x (bg rG)
   repeat' first|(with_reducible refine dC ?_ ?_);omega|with_reducible apply aD
   refine fV (fun (k:World→XS→Prop)=>k w X) ?_ ?_
   ·repeat' first|with_reducible apply aK|(with_reducible apply aZ);exact qF;exact qM;(· kernel_rfl);rfl|((with_reducible apply e7);exact qO;(try (case hz=>rfl));(case hr=>exact qR);(try (case hz=>omega));(case ht=>kernel_rfl);(case hs=>kernel_rfl);intro _ _ _)
    refine tL ?_
    refine hS.dZ (Js (x:=x) hS.r (hc.mv hS.at) (Cells.mv (by assumption) hS.at) hS.z (by simp only [ae];omega) (ah cB hs.kp.size) (by omega)) (by kernel_rfl) fun kC w3 X3 bP oe=>?_
    replace hs:=bP.s
    repeat' first|(with_reducible apply cx);omega;omega
    refine ga (xs.length-(i+1)) (by omega) ⟨i+1,kC,by simp,rfl,by omega,?_⟩
    rw [jU rG,←ax];exact bP
   ·intro K hK
    repeat' first|with_reducible (first|apply ak|apply aK)|(with_reducible apply aM);exact qF;(· kernel_rfl);rfl;intro _ _ _|(with_reducible apply aZ);exact qF;exact qM;(· kernel_rfl);rfl|(with_reducible apply lR);(· kernel_rfl)|exact hK
  ·rw [cl eI] at hS
   repeat' first|(with_reducible refine dm ?_ ?_);omega|with_reducible apply ak
   rw [ax] at hS
   exact hS.fin
 ·intro K hK
  repeat' first|with_reducible (first|apply aD|apply aK)|(with_reducible apply aM);exact qF;(· kernel_rfl);rfl;intro _ _ _|(with_reducible apply aZ);exact qF;exact qM;(· kernel_rfl);rfl|(with_reducible apply od);(· kernel_rfl)
  refine hS.dZ (lC hS.r (by omega) cB) (by kernel_rfl) fun gS w2 X2 bu lS=>?_
  replace hs:=bu.s
  skip
  exact hK _ _ _ bu
def iv (r:Rec):List Nat:=encI r.kind++(jL r.prev++(jL r.br++(pX r.dH++gA dd r.writes)))
def gG (r:Rec):List Nat:=encI r.kind++(jL r.br++gA dd r.bH)
theorem ja (s:bZ):(jL s).length≤30:=by
 have h1:=ee s.wall
 have h2:=ee s.fA
 have h3:=ee s.node
 unfold jL;simp only [ae];omega
theorem tX (s:gM):(pX s).length≤30:=by
 have h1:=ee s.jR
 have h2:=ee s.nj
 have h3:=ee s.sq
 unfold pX;simp only [ae];omega
theorem Uk {w:World} {X Z:XS} {lo wb cb xb:Nat} {vb:Value} {bs:List Nat} {r:Rec} {vr vw vp vq vh vd:Value} (h:Wr w X lo wb vb bs) (hc:Cells w Z cb 0 (iZ wb)) (hx:Cells w Z xb 0 (r.l vr vw vp vq vh vd)) (ha:Sl w Z 4 vw (r.writes.map KV.l)) (hZ:oh Z X wb vb) (hb:bs.length≤2^33) (fT:lo≤w.heap.size)
  (xu:r.kind=11) (hl:r.writes.length≤2^16) (kX: ∀x∈r.writes,x.key.size≤2^16):
  lv 89 #[ptr cb 0,ptr xb 0] w X lo wb vb bs (iv r):=by
 intro w0 hk
 have cB:lo≤w0.heap.size:=ah fT hk.size
 replace hc:=hc.mv (hZ.mv hk)
 replace hx:=hx.mv (hZ.mv hk)
 replace ha:=ha.mv (hZ.mv hk)
 have hS:=WS.init (h.mv hk.dA)
 have e1:=ee r.kind
 have e2:=ja r.prev
 have e3:=ja r.br
 have e4:=tX r.dH
 apply tU;unfold qZ
 have hs:=hS.s
 repeat' first|with_reducible apply aK|(with_reducible apply aM);exact qF;(· kernel_rfl);rfl;intro _ _ _
 refine hS.dZ (iM hS.r (hc.mv hS.at) (Cells.mv (by assumption) hS.at) hS.z (by(try simp only [ae]);omega) (ah cB hs.kp.size)) (by kernel_rfl) fun gS w X bu _=>?_
 replace hs:=bu.s
 repeat' first|(with_reducible refine m7 ?_ ?_);omega|(with_reducible refine qU ?_ ?_);omega|with_reducible (first|apply aD|apply ak|apply aK)|(with_reducible apply aM);exact qF;(· kernel_rfl);rfl;intro _ _ _|(with_reducible apply gx);exact qF;(· kernel_rfl);rfl;exact qN;intro _ _ _|(with_reducible apply aZ);exact qF;exact qM;(· kernel_rfl);rfl|with_reducible apply dY
 refine bu.dZ (iz (s:=r.prev) bu.r (hc.mv bu.at) (Cells.mv (by assumption) bu.at) bu.z (by(try simp only [ae]);omega) (ah cB hs.kp.size)) (by kernel_rfl) fun kC w X bP _=>?_
 replace hs:=bP.s
 repeat' first|with_reducible apply aK|(with_reducible apply gx);exact qF;(· kernel_rfl);rfl;exact qN;intro _ _ _
 refine bP.dZ (iz (s:=r.br) bP.r (hc.mv bP.at) (Cells.mv (by assumption) bP.at) bP.z (by(try simp only [ae]);omega) (ah cB hs.kp.size)) (by kernel_rfl) fun LO w X eG _=>?_
 replace hs:=eG.s
 repeat' first|with_reducible apply aK|(with_reducible apply gx);exact qF;(· kernel_rfl);rfl;exact qN;intro _ _ _
 refine eG.dZ (sS (s:=r.dH) eG.r (hc.mv eG.at) (Cells.mv (by assumption) eG.at) eG.z (by(try simp only [ae]);omega) (ah cB hs.kp.size)) (by kernel_rfl) fun Oq w X iP _=>?_
 replace hs:=iP.s
 repeat' first|with_reducible apply aK|(with_reducible apply aM);exact qF;(· kernel_rfl);rfl;intro _ _ _|(with_reducible apply jx)
 refine iP.dZ (Ld iP.r (hc.mv iP.at) (Cells.mv (by assumption) iP.at) (ha.mv iP.at) iP.z (by simp only [ae];omega) (ah cB hs.kp.size) hl kX) (by kernel_rfl) fun vb6 w X A4 _=>?_
 unfold iv
 simp only [ax] at A4
 exact A4.fin
theorem Ul {w:World} {X Z:XS} {lo wb cb xb:Nat} {vb:Value} {bs:List Nat} {r:Rec} {vr vw vp vq vh vd:Value} (h:Wr w X lo wb vb bs) (hc:Cells w Z cb 0 (iZ wb)) (hx:Cells w Z xb 0 (r.l vr vw vp vq vh vd)) (ha:Sl w Z 4 vq (r.bH.map KV.l)) (hZ:oh Z X wb vb) (hb:bs.length≤2^33) (fT:lo≤w.heap.size)
  (xu:r.kind=12) (hl:r.bH.length≤2^16) (kX: ∀x∈r.bH,x.key.size≤2^16):
  lv 89 #[ptr cb 0,ptr xb 0] w X lo wb vb bs (gG r):=by
 intro w0 hk
 have cB:lo≤w0.heap.size:=ah fT hk.size
 replace hc:=hc.mv (hZ.mv hk)
 replace hx:=hx.mv (hZ.mv hk)
 replace ha:=ha.mv (hZ.mv hk)
 have hS:=WS.init (h.mv hk.dA)
 have e1:=ee r.kind
 have e2:=ja r.prev
 have e3:=ja r.br
 have e4:=tX r.dH
 apply tU;unfold qZ
 have hs:=hS.s
 repeat' first|with_reducible apply aK|(with_reducible apply aM);exact qF;(· kernel_rfl);rfl;intro _ _ _
 refine hS.dZ (iM hS.r (hc.mv hS.at) (Cells.mv (by assumption) hS.at) hS.z (by(try simp only [ae]);omega) (ah cB hs.kp.size)) (by kernel_rfl) fun gS w X bu _=>?_
 replace hs:=bu.s
 repeat' first|(with_reducible refine m7 ?_ ?_);omega|(with_reducible refine qU ?_ ?_);omega|with_reducible (first|apply aD|apply ak|apply aK)|(with_reducible apply aM);exact qF;(· kernel_rfl);rfl;intro _ _ _|(with_reducible apply gx);exact qF;(· kernel_rfl);rfl;exact qN;intro _ _ _|(with_reducible apply aZ);exact qF;exact qM;(· kernel_rfl);rfl|with_reducible apply dY
 refine bu.dZ (iz (s:=r.br) bu.r (hc.mv bu.at) (Cells.mv (by assumption) bu.at) bu.z (by(try simp only [ae]);omega) (ah cB hs.kp.size)) (by kernel_rfl) fun Oq w X iP _=>?_
 replace hs:=iP.s
 repeat' first|with_reducible apply aK|(with_reducible apply aM);exact qF;(· kernel_rfl);rfl;intro _ _ _|(with_reducible apply jx)
 refine iP.dZ (MN iP.r (hc.mv iP.at) (Cells.mv (by assumption) iP.at) (ha.mv iP.at) iP.z (by simp only [ae];omega) (ah cB hs.kp.size) hl kX) (by kernel_rfl) fun vb6 w X A4 _=>?_
 unfold gG
 simp only [ax] at A4
 exact A4.fin
theorem zj {w:World} {X:XS} {r:Rec} {vr vw vp vq vh vd:Value} (h:r.at w X vr vw vp vq vh vd) (ku:r.small) (xu:r.kind=11) (mQ:r.err=0→r.writes.length≤2^16∧(∀x∈r.writes,x.key.size≤2^16)∧(iv r).length≤262144):
  Ct pg 91 #[r.v vr vw vp vq vh vd] w X nX fun v wa w'=>if r.err≠0 then v= .tuple #[.slice none 0 0,I r.err] else∃vb,v= .tuple #[vb,I 0]∧Own w' (made wa w') wa.heap.size 5 1 vb ((iv r).map U1):=by
 intro w0 hk
 replace h:=h.mv hk.dA
 have o1:=h.1.one
 have o2:=h.2.1.one
 have o3:=h.2.2.1.one
 have o4:=h.2.2.2.1.one
 have o5:=h.2.2.2.2.1.one
 have o6:=h.2.2.2.2.2.one
 apply zf;unfold uE
 have hs:=aj.init w0
 repeat' first|with_reducible (first|apply aD|apply ak)|(with_reducible apply kG<;>intro _)|(with_reducible apply fP);exact qF;exact qM;(· kernel_rfl);rfl|(with_reducible apply lQ);(case hX=>exact hs.has);intro bx w X iH au dK;have cg:=hs.trans au;replace hs:=aj.eP au.has|(refine dt (Gh (r:=r) (h.mv (cg.trans hs).mv) ku) (by kernel_rfl) hs.has fun w X au=>?_;replace hs:=hs.trans au)
 ·exact aq (cg.trans hs) fun wa hk=>by dsimp only;rw [if_pos (by assumption)]
 ·have Da:r.err=0:=by assumption
  obtain⟨k1,k2,k3⟩:=mQ Da
  refine dk wC (by kernel_rfl) hs.has ?_
  rintro v wa w2 X2 ⟨wb,rfl,hW⟩ hle hU b6
  have Jt:=cg.trans (hs.trans b6)
  have mF:=dK.lt
  have Ot:=hs.kp.size
  have xp:=cg.kp.size
  have hwb:=hW.box.1
  have ya:=dK.since (hs.trans b6)
  refine gg (by kernel_rfl) ?_
  refine lQ Jt.has fun cb w3 X3 hcb cw tn=>?_
  have Db:=Jt.trans cw
  have Dc:=ya.since cw
  obtain⟨Z,Dd⟩: ∃Z:XS,Z=fun k=>k=bx∨k=cb∨aW w0 k:=⟨_,rfl⟩
  have afA:wa.heap.size≤wb∧wb<w2.heap.size:=hwb
  have hZ:oh Z X3 wb (.slice none 0 0):=fun k ai=>by
   rw [Dd] at ai
   refine⟨?_,fun hf=>?_⟩
   ·rcases ai with rfl|rfl|ai
    ·exact Dc.1
    ·exact tn.1
    ·exact Db.sub k ai
   ·rcases hf with hf|hf
    ·rcases ai with e|e|e
     ·omega
     ·omega
     ·have:k<w0.heap.size:=e
      omega
    ·cases hf
  have hcC:Cells w3 Z cb 0 (iZ wb):=bJ.cells (ty:=175) ⟨by rw [Dd];exact .inr (.inl rfl),tn.2⟩
  have hxC:Cells w3 Z bx 0 (r.l vr vw vp vq vh vd):=bJ.cells (ty:=117) ⟨by rw [Dd];exact .inl rfl,Dc.2⟩
  have haC:Sl w3 Z 4 vw (r.writes.map KV.l):=h.2.1.mv fun k ai hl=>⟨by rw [Dd];exact .inr (.inr ai),Db.kp.block k ai⟩
  have Ju:Wr w3 X3 wa.heap.size wb (.slice none 0 0) []:=(hW.mv (Mv.sub hU)).mv cw.mv
  refine xw (Uk Ju hcC hxC haC hZ (by simp) (by have:=cw.kp.size;omega) xu k1 k2) (by kernel_rfl) Db.has (fun q hq=>by
   rcases hq with rfl|hq
   ·exact Ju.box.1
   ·cases hq) fun v tY w4 X4 hq sY ml afB tW=>?_
  obtain⟨rfl,Cc,hW4⟩:=hq
  have fw:=Db.ej tW fun k ai hf=>by
   have h0:k<w0.heap.size:=ai
   rcases hf with hf|hf
   ·omega
   ·cases hf
  have hW5:Wr w4 X4 wa.heap.size wb Cc (iv r):=hW4.mv (Mv.sub fun k ai=>by
   rcases ai with(ai|ai)|ai
   ·rw [ai];exact tW.sub _ Ju.box.1
   ·cases ai
   ·exact ml k ai)
  refine dk (Cd hW5 (by omega)) (by kernel_rfl) fw.has ?_
  rintro v5 E3 w5 X5 rn zk sZ o9
  have hsC:=fw.trans o9
  have ho:Own w5 X5 w0.heap.size 5 1 v5 ((iv r).map U1):=rn.up sZ (by have:=fw.kp.size;omega)
  clear hs cg
  have hs:=hsC
  have ov:=ho.sl.one
  repeat' first|(with_reducible refine lN ?_ ?_);omega|with_reducible apply ak|(with_reducible apply bS);exact qO;(· kernel_rfl)
  exact aq hs fun wb aR=>by
   dsimp only
   rw [if_neg (by simpa using Da)]
   exact⟨v5,rfl,(ho.kp aR).tight⟩
theorem E4 {w:World} {X:XS} {r:Rec} {vr vw vp vq vh vd:Value} (h:r.at w X vr vw vp vq vh vd) (ku:r.small) (xu:r.kind=12) (mQ:r.err=0→r.bH.length≤2^16∧(∀x∈r.bH,x.key.size≤2^16)∧(gG r).length≤262144):
  Ct pg 91 #[r.v vr vw vp vq vh vd] w X nX fun v wa w'=>if r.err≠0 then v= .tuple #[.slice none 0 0,I r.err] else∃vb,v= .tuple #[vb,I 0]∧Own w' (made wa w') wa.heap.size 5 1 vb ((gG r).map U1):=by
 intro w0 hk
 replace h:=h.mv hk.dA
 have o1:=h.1.one
 have o2:=h.2.1.one
 have o3:=h.2.2.1.one
 have o4:=h.2.2.2.1.one
 have o5:=h.2.2.2.2.1.one
 have o6:=h.2.2.2.2.2.one
 apply zf;unfold uE
 have hs:=aj.init w0
 repeat' first|with_reducible (first|apply aD|apply ak)|(with_reducible apply kG<;>intro _)|(with_reducible apply fP);exact qF;exact qM;(· kernel_rfl);rfl|(with_reducible apply lQ);(case hX=>exact hs.has);intro bx w X iH au dK;have cg:=hs.trans au;replace hs:=aj.eP au.has|(refine dt (Gh (r:=r) (h.mv (cg.trans hs).mv) ku) (by kernel_rfl) hs.has fun w X au=>?_;replace hs:=hs.trans au)
 ·exact aq (cg.trans hs) fun wa hk=>by dsimp only;rw [if_pos (by assumption)]
 ·have Da:r.err=0:=by assumption
  obtain⟨k1,k2,k3⟩:=mQ Da
  refine dk wC (by kernel_rfl) hs.has ?_
  rintro v wa w2 X2 ⟨wb,rfl,hW⟩ hle hU b6
  have Jt:=cg.trans (hs.trans b6)
  have mF:=dK.lt
  have Ot:=hs.kp.size
  have xp:=cg.kp.size
  have hwb:=hW.box.1
  have ya:=dK.since (hs.trans b6)
  refine gg (by kernel_rfl) ?_
  refine lQ Jt.has fun cb w3 X3 hcb cw tn=>?_
  have Db:=Jt.trans cw
  have Dc:=ya.since cw
  obtain⟨Z,Dd⟩: ∃Z:XS,Z=fun k=>k=bx∨k=cb∨aW w0 k:=⟨_,rfl⟩
  have afA:wa.heap.size≤wb∧wb<w2.heap.size:=hwb
  have hZ:oh Z X3 wb (.slice none 0 0):=fun k ai=>by
   rw [Dd] at ai
   refine⟨?_,fun hf=>?_⟩
   ·rcases ai with rfl|rfl|ai
    ·exact Dc.1
    ·exact tn.1
    ·exact Db.sub k ai
   ·rcases hf with hf|hf
    ·rcases ai with e|e|e
     ·omega
     ·omega
     ·have:k<w0.heap.size:=e
      omega
    ·cases hf
  have hcC:Cells w3 Z cb 0 (iZ wb):=bJ.cells (ty:=175) ⟨by rw [Dd];exact .inr (.inl rfl),tn.2⟩
  have hxC:Cells w3 Z bx 0 (r.l vr vw vp vq vh vd):=bJ.cells (ty:=117) ⟨by rw [Dd];exact .inl rfl,Dc.2⟩
  have haC:Sl w3 Z 4 vq (r.bH.map KV.l):=h.2.2.2.1.mv fun k ai hl=>⟨by rw [Dd];exact .inr (.inr ai),Db.kp.block k ai⟩
  have Ju:Wr w3 X3 wa.heap.size wb (.slice none 0 0) []:=(hW.mv (Mv.sub hU)).mv cw.mv
  refine xw (Ul Ju hcC hxC haC hZ (by simp) (by have:=cw.kp.size;omega) xu k1 k2) (by kernel_rfl) Db.has (fun q hq=>by
   rcases hq with rfl|hq
   ·exact Ju.box.1
   ·cases hq) fun v tY w4 X4 hq sY ml afB tW=>?_
  obtain⟨rfl,Cc,hW4⟩:=hq
  have fw:=Db.ej tW fun k ai hf=>by
   have h0:k<w0.heap.size:=ai
   rcases hf with hf|hf
   ·omega
   ·cases hf
  have hW5:Wr w4 X4 wa.heap.size wb Cc (gG r):=hW4.mv (Mv.sub fun k ai=>by
   rcases ai with(ai|ai)|ai
   ·rw [ai];exact tW.sub _ Ju.box.1
   ·cases ai
   ·exact ml k ai)
  refine dk (Cd hW5 (by omega)) (by kernel_rfl) fw.has ?_
  rintro v5 E3 w5 X5 rn zk sZ o9
  have hsC:=fw.trans o9
  have ho:Own w5 X5 w0.heap.size 5 1 v5 ((gG r).map U1):=rn.up sZ (by have:=fw.kp.size;omega)
  clear hs cg
  have hs:=hsC
  have ov:=ho.sl.one
  repeat' first|(with_reducible refine lN ?_ ?_);omega|with_reducible apply ak|(with_reducible apply bS);exact qO;(· kernel_rfl)
  exact aq hs fun wb aR=>by
   dsimp only
   rw [if_neg (by simpa using Da)]
   exact⟨v5,rfl,(ho.kp aR).tight⟩
def Ou (r:mn):List Nat:=encI r.id++(encI r.lf++(sc r.lo++sc r.hi))
def vO (v:lV):List Nat:=jL v.br++lu v.val
def zl (h:jO):List Nat:=kU h.key++gA vO h.kn
def u6 (p:fk):List Nat:=pX p.dH++(jL p.br++(gA kU p.reads++gA dd p.writes))
def encS (s:State):List Nat:=Ou s.range++(jL s.floor++(jL s.closed++(gA zl s.iF++gA u6 s.iD)))
theorem zm {α:Type} {f:α→List Nat} {xs:List α} {i:Nat} {x:α} (h:xs[i]? =some x):(encI xs.length).length+((xs.take i).map f).flatten.length+(f x).length≤(gA f xs).length:=by
 have h1:xs=xs.take i++(x::xs.drop (i+1)):=by
  obtain⟨hi,rfl⟩:=List.getElem?_eq_some_iff.1 h
  rw [←List.drop_eq_getElem_cons hi,ij]
 have h2:(gA f xs).length=(encI xs.length).length+((xs.take i).map f).flatten.length+((f x).length+((xs.drop (i+1)).map f).flatten.length):=by
  unfold gA
  conv=>lhs;rw [h1]
  rw [bq,fZ,←h1]
  simp only [bh,dg,ae]
  omega
 omega
theorem Gj (x:Nat):(sc x).length=8:=by simp [sc]
theorem Gk (n:Int):1≤(encI n).length:=by
 unfold encI nU
 split<;>simp
theorem QO (x:KV):x.key.size≤(dd x).length:=by
 have h1:=nV x.key
 unfold dd
 rw [ae];omega
theorem Um {w:World} {X Z:XS} {lo wb cb xb xo:Nat} {vb:Value} {bs:List Nat} {b:Bool} (h:Wr w X lo wb vb bs) (hc:Cells w Z cb 0 (iZ wb)) (hx:Cells w Z xb xo [B b]) (hZ:oh Z X wb vb) (hb:bs.length≤2^38) (fT:lo≤w.heap.size):
  lv 147 #[ptr cb 0,ptr xb xo] w X lo wb vb bs (YP b):=by
 intro w0 hk
 have cB:lo≤w0.heap.size:=ah fT hk.size
 replace hc:=hc.mv (hZ.mv hk)
 replace hx:=hx.mv (hZ.mv hk)
 have hS:=WS.init (h.mv hk.dA)
 apply HQ;unfold yK
 have hs:=hS.s
 repeat' first|with_reducible (first|apply aD|apply aK)|(with_reducible apply aM);exact qF;(· kernel_rfl);rfl;intro _ _ _|(with_reducible apply aZ);exact qF;exact qM;(· kernel_rfl);rfl|(with_reducible apply od);(· kernel_rfl)
 refine hS.dZ (Wv hS.r (by omega) cB) (by kernel_rfl) fun gS w2 X2 bu lS=>?_
 skip
 exact bu.fin
theorem Am {w:World} {X Z:XS} {lo wb cb xb xo:Nat} {vb:Value} {bs:List Nat} {x:Nat} (h:Wr w X lo wb vb bs) (hc:Cells w Z cb 0 (iZ wb)) (hx:Cells w Z xb xo [.float .f64 x]) (hZ:oh Z X wb vb) (hb:bs.length≤2^38) (fT:lo≤w.heap.size):
  lv 149 #[ptr cb 0,ptr xb xo] w X lo wb vb bs (sc x):=by
 intro w0 hk
 have cB:lo≤w0.heap.size:=ah fT hk.size
 replace hc:=hc.mv (hZ.mv hk)
 replace hx:=hx.mv (hZ.mv hk)
 have hS:=WS.init (h.mv hk.dA)
 apply FQ;unfold xM
 have hs:=hS.s
 repeat' first|with_reducible (first|apply aD|apply aK)|(with_reducible apply aM);exact qF;(· kernel_rfl);rfl;intro _ _ _|(with_reducible apply aZ);exact qF;exact qM;(· kernel_rfl);rfl|(with_reducible apply od);(· kernel_rfl)
 refine hS.dZ (Jr hS.r (by omega) cB) (by kernel_rfl) fun gS w2 X2 bu lS=>?_
 skip
 exact bu.fin
theorem R9 {w:World} {X Z:XS} {lo wb cb xb xo:Nat} {vb:Value} {bs:List Nat} {r:mn} (h:Wr w X lo wb vb bs) (hc:Cells w Z cb 0 (iZ wb)) (hx:Cells w Z xb xo r.l) (hZ:oh Z X wb vb) (hb:bs.length≤2^36) (fT:lo≤w.heap.size):
  lv 209 #[ptr cb 0,ptr xb xo] w X lo wb vb bs (Ou r):=by
 have e1:=ee r.id
 have e2:=ee r.lf
 have e3:=Gj r.lo
 intro w0 hk
 have cB:lo≤w0.heap.size:=ah fT hk.size
 replace hc:=hc.mv (hZ.mv hk)
 replace hx:=hx.mv (hZ.mv hk)
 have hS:=WS.init (h.mv hk.dA)
 apply FW;unfold xQ
 have hs:=hS.s
 repeat' first|with_reducible apply aK|(with_reducible apply aM);exact qF;(· kernel_rfl);rfl;intro _ _ _
 refine hS.dZ (iM hS.r (hc.mv hS.at) (Cells.mv (by assumption) hS.at) hS.z (by(try simp only [ae]);omega) (ah cB hs.kp.size)) (by kernel_rfl) fun gS w X bu _=>?_
 replace hs:=bu.s
 repeat' first|with_reducible apply aK|(with_reducible apply aM);exact qF;(· kernel_rfl);rfl;intro _ _ _
 refine bu.dZ (iM bu.r (hc.mv bu.at) (Cells.mv (by assumption) bu.at) bu.z (by(try simp only [ae]);omega) (ah cB hs.kp.size)) (by kernel_rfl) fun kC w X bP _=>?_
 replace hs:=bP.s
 repeat' first|with_reducible apply aK|(with_reducible apply aM);exact qF;(· kernel_rfl);rfl;intro _ _ _
 refine bP.dZ (Am bP.r (hc.mv bP.at) (Cells.mv (by assumption) bP.at) bP.z (by(try simp only [ae]);omega) (ah cB hs.kp.size)) (by kernel_rfl) fun LO w X eG _=>?_
 replace hs:=eG.s
 repeat' first|with_reducible apply aK|(with_reducible apply aM);exact qF;(· kernel_rfl);rfl;intro _ _ _
 refine eG.dZ (Am eG.r (hc.mv eG.at) (Cells.mv (by assumption) eG.at) eG.z (by(try simp only [ae]);omega) (ah cB hs.kp.size)) (by kernel_rfl) fun Oq w X iP _=>?_
 replace hs:=iP.s
 skip
 unfold Ou
 simp only [ax] at iP
 exact iP.fin
theorem Ov {w:World} {X Z:XS} {lo wb cb xb xo:Nat} {vb:Value} {bs:List Nat} {x:lV} (h:Wr w X lo wb vb bs) (hc:Cells w Z cb 0 (iZ wb)) (hx:Cells w Z xb xo x.l) (hZ:oh Z X wb vb) (hb:bs.length≤2^36) (fT:lo≤w.heap.size):
  lv 290 #[ptr cb 0,ptr xb xo] w X lo wb vb bs (vO x):=by
 have e1:=ja x.br
 intro w0 hk
 have cB:lo≤w0.heap.size:=ah fT hk.size
 replace hc:=hc.mv (hZ.mv hk)
 replace hx:=hx.mv (hZ.mv hk)
 have hS:=WS.init (h.mv hk.dA)
 apply DG;unfold vL
 have hs:=hS.s
 repeat' first|with_reducible apply aK|(with_reducible apply gx);exact qF;(· kernel_rfl);rfl;exact qN;intro _ _ _
 refine hS.dZ (iz (s:=x.br) hS.r (hc.mv hS.at) (Cells.mv (by assumption) hS.at) hS.z (by(try simp only [ae]);omega) (ah cB hs.kp.size)) (by kernel_rfl) fun gS w X bu _=>?_
 replace hs:=bu.s
 repeat' first|with_reducible apply aK|(with_reducible apply gx);exact qF;(· kernel_rfl);rfl;exact qN;intro _ _ _
 refine bu.dZ (Al (v:=x.val) bu.r (hc.mv bu.at) (Cells.mv (by assumption) bu.at) bu.z (by(try simp only [ae]);omega) (ah cB hs.kp.size)) (by kernel_rfl) fun kC w X bP _=>?_
 replace hs:=bP.s
 skip
 unfold vO
 simp only [ax] at bP
 exact bP.fin
theorem MO {w:World} {X Z:XS} {lo wb cb xb xo:Nat} {vb va:Value} {bs:List Nat} {xs:List BA} (h:Wr w X lo wb vb bs) (hc:Cells w Z cb 0 (iZ wb)) (hx:Cells w Z xb xo [va]) (ha:Sl w Z 1 va (xs.map S1)) (hZ:oh Z X wb vb) (fT:lo≤w.heap.size) (hb:bs.length+(gA kU xs).length≤2^33):
  lv 213 #[ptr cb 0,ptr xb xo,.func (.func 214) #[ptr cb 0] #[]] w X lo wb vb bs (gA kU xs):=by
  intro w0 hk
  have cB:lo≤w0.heap.size:=ah fT hk.size
  replace hc:=hc.mv (hZ.mv hk)
  replace hx:=hx.mv (hZ.mv hk)
  replace ha:=ha.mv (hZ.mv hk)
  have hS:=WS.init (h.mv hk.dA)
  have nw:=ha.gW
  apply FY;unfold xR
  have hs:=hS.s
  repeat' first|with_reducible apply aK|(with_reducible apply aZ);exact qF;exact qM;(· kernel_rfl);rfl|(with_reducible apply bS);exact qO;(· kernel_rfl)
  refine fV (fun (k:Value→World→XS→Prop)=> ∀w X gS,WS w0 vb w X lo wb gS (bs++encI xs.length)→k (I xs.length) w X) ?_ ?_
  ·intro w X gS bu
   refine fK (fun n' a w X=> ∃(i:Nat) (oN:Value),a=I i∧n'=xs.length-i∧i≤xs.length∧WS w0 vb w X lo wb oN (bs++encI xs.length++((xs.take i).map kU).flatten)) xs.length ⟨0,gS,rfl,rfl,aV _,by simpa using bu⟩ ?_
   clear bu hS hs
   rintro n' a w X ⟨i,oN,rfl,rfl,hi,hS⟩
   have hs:=hS.s
   rcases fh xs i with⟨dh,x,rG,hd⟩|⟨eI,hd⟩
   ·have iH:=zm (f:=kU) rG
    repeat' first|(with_reducible refine dC ?_ ?_);omega|with_reducible apply aD
    refine fV (fun (k:World→XS→Prop)=>k w X) ?_ ?_
    ·repeat' first|with_reducible apply aK|(with_reducible apply aZ);exact qF;exact qM;(· kernel_rfl);rfl|((with_reducible apply e7);exact qO;(try (case hz=>rfl));(case hr=>exact qR);(try (case hz=>omega));(case ht=>kernel_rfl);(case hs=>kernel_rfl);intro _ _ _)
     refine tL ?_
     refine hS.dZ (x9 (s:=x) hS.r (hc.mv hS.at) (Cells.mv (by assumption) hS.at) hS.z (by simp only [ae];omega) (ah cB hs.kp.size) (by have:=nV x;omega)) (by kernel_rfl) fun kC w3 X3 bP oe=>?_
     replace hs:=bP.s
     repeat' first|(with_reducible apply cx);omega;omega
     refine ga (xs.length-(i+1)) (by omega) ⟨i+1,kC,by simp,rfl,by omega,?_⟩
     rw [jU rG,←ax];exact bP
    ·intro K hK
     repeat' first|with_reducible (first|apply ak|apply aK)|(with_reducible apply aM);exact qF;(· kernel_rfl);rfl;intro _ _ _|(with_reducible apply aZ);exact qF;exact qM;(· kernel_rfl);rfl|(with_reducible apply lR);(· kernel_rfl)|exact hK
   ·rw [cl eI] at hS
    repeat' first|(with_reducible refine dm ?_ ?_);omega|with_reducible apply ak
    rw [ax] at hS
    exact hS.fin
  ·intro K hK
   repeat' first|with_reducible (first|apply aD|apply aK)|(with_reducible apply aM);exact qF;(· kernel_rfl);rfl;intro _ _ _|(with_reducible apply aZ);exact qF;exact qM;(· kernel_rfl);rfl|(with_reducible apply od);(· kernel_rfl)
   refine hS.dZ (lC hS.r (by omega) cB) (by kernel_rfl) fun gS w2 X2 bu lS=>?_
   replace hs:=bu.s
   skip
   exact hK _ _ _ bu
theorem De {w:World} {X Z:XS} {lo wb cb xb xo:Nat} {vb va:Value} {bs:List Nat} {xs:List Int} (h:Wr w X lo wb vb bs) (hc:Cells w Z cb 0 (iZ wb)) (hx:Cells w Z xb xo [va]) (ha:Sl w Z 1 va (xs.map I1)) (hZ:oh Z X wb vb) (fT:lo≤w.heap.size) (hb:bs.length+(gA encI xs).length≤2^33):
  lv 145 #[ptr cb 0,ptr xb xo,.func (.func 142) #[ptr cb 0] #[]] w X lo wb vb bs (gA encI xs):=by
  intro w0 hk
  have cB:lo≤w0.heap.size:=ah fT hk.size
  replace hc:=hc.mv (hZ.mv hk)
  replace hx:=hx.mv (hZ.mv hk)
  replace ha:=ha.mv (hZ.mv hk)
  have hS:=WS.init (h.mv hk.dA)
  have nw:=ha.gW
  apply K4;unfold AQ
  have hs:=hS.s
  repeat' first|with_reducible apply aK|(with_reducible apply aZ);exact qF;exact qM;(· kernel_rfl);rfl|(with_reducible apply bS);exact qO;(· kernel_rfl)
  refine fV (fun (k:Value→World→XS→Prop)=> ∀w X gS,WS w0 vb w X lo wb gS (bs++encI xs.length)→k (I xs.length) w X) ?_ ?_
  ·intro w X gS bu
   refine fK (fun n' a w X=> ∃(i:Nat) (oN:Value),a=I i∧n'=xs.length-i∧i≤xs.length∧WS w0 vb w X lo wb oN (bs++encI xs.length++((xs.take i).map encI).flatten)) xs.length ⟨0,gS,rfl,rfl,aV _,by simpa using bu⟩ ?_
   clear bu hS hs
   rintro n' a w X ⟨i,oN,rfl,rfl,hi,hS⟩
   have hs:=hS.s
   rcases fh xs i with⟨dh,x,rG,hd⟩|⟨eI,hd⟩
   ·have iH:=zm (f:=encI) rG
    repeat' first|(with_reducible refine dC ?_ ?_);omega|with_reducible apply aD
    refine fV (fun (k:World→XS→Prop)=>k w X) ?_ ?_
    ·repeat' first|with_reducible apply aK|(with_reducible apply aZ);exact qF;exact qM;(· kernel_rfl);rfl|((with_reducible apply e7);exact qO;(try (case hz=>rfl));(case hr=>exact qR);(try (case hz=>omega));(case ht=>kernel_rfl);(case hs=>kernel_rfl);intro _ _ _)
     refine tL ?_
     refine hS.dZ (iM (n:=x) hS.r (hc.mv hS.at) (Cells.mv (by assumption) hS.at) hS.z (by simp only [ae];omega) (ah cB hs.kp.size)) (by kernel_rfl) fun kC w3 X3 bP oe=>?_
     replace hs:=bP.s
     repeat' first|(with_reducible apply cx);omega;omega
     refine ga (xs.length-(i+1)) (by omega) ⟨i+1,kC,by simp,rfl,by omega,?_⟩
     rw [jU rG,←ax];exact bP
    ·intro K hK
     repeat' first|with_reducible (first|apply ak|apply aK)|(with_reducible apply aM);exact qF;(· kernel_rfl);rfl;intro _ _ _|(with_reducible apply aZ);exact qF;exact qM;(· kernel_rfl);rfl|(with_reducible apply lR);(· kernel_rfl)|exact hK
   ·rw [cl eI] at hS
    repeat' first|(with_reducible refine dm ?_ ?_);omega|with_reducible apply ak
    rw [ax] at hS
    exact hS.fin
  ·intro K hK
   repeat' first|with_reducible (first|apply aD|apply aK)|(with_reducible apply aM);exact qF;(· kernel_rfl);rfl;intro _ _ _|(with_reducible apply aZ);exact qF;exact qM;(· kernel_rfl);rfl|(with_reducible apply od);(· kernel_rfl)
   refine hS.dZ (lC hS.r (by omega) cB) (by kernel_rfl) fun gS w2 X2 bu lS=>?_
   replace hs:=bu.s
   skip
   exact hK _ _ _ bu
theorem Ho {w:World} {X Z:XS} {lo wb cb xb xo:Nat} {vb va:Value} {bs:List Nat} {xs:List KV} (h:Wr w X lo wb vb bs) (hc:Cells w Z cb 0 (iZ wb)) (hx:Cells w Z xb xo [va]) (ha:Sl w Z 4 va (xs.map KV.l)) (hZ:oh Z X wb vb) (fT:lo≤w.heap.size) (hb:bs.length+(gA dd xs).length≤2^33):
  lv 150 #[ptr cb 0,ptr xb xo,.func (.func 151) #[ptr cb 0] #[]] w X lo wb vb bs (gA dd xs):=by
  intro w0 hk
  have cB:lo≤w0.heap.size:=ah fT hk.size
  replace hc:=hc.mv (hZ.mv hk)
  replace hx:=hx.mv (hZ.mv hk)
  replace ha:=ha.mv (hZ.mv hk)
  have hS:=WS.init (h.mv hk.dA)
  have nw:=ha.gW
  apply pG;unfold mZ
  have hs:=hS.s
  repeat' first|with_reducible apply aK|(with_reducible apply aZ);exact qF;exact qM;(· kernel_rfl);rfl|(with_reducible apply bS);exact qO;(· kernel_rfl)
  refine fV (fun (k:Value→World→XS→Prop)=> ∀w X gS,WS w0 vb w X lo wb gS (bs++encI xs.length)→k (I xs.length) w X) ?_ ?_
  ·intro w X gS bu
   refine fK (fun n' a w X=> ∃(i:Nat) (oN:Value),a=I i∧n'=xs.length-i∧i≤xs.length∧WS w0 vb w X lo wb oN (bs++encI xs.length++((xs.take i).map dd).flatten)) xs.length ⟨0,gS,rfl,rfl,aV _,by simpa using bu⟩ ?_
   clear bu hS hs
   rintro n' a w X ⟨i,oN,rfl,rfl,hi,hS⟩
   have hs:=hS.s
   rcases fh xs i with⟨dh,x,rG,hd⟩|⟨eI,hd⟩
   ·have iH:=zm (f:=dd) rG
    repeat' first|(with_reducible refine dC ?_ ?_);omega|with_reducible apply aD
    refine fV (fun (k:World→XS→Prop)=>k w X) ?_ ?_
    ·repeat' first|with_reducible apply aK|(with_reducible apply aZ);exact qF;exact qM;(· kernel_rfl);rfl|((with_reducible apply e7);exact qO;(try (case hz=>rfl));(case hr=>exact qR);(try (case hz=>omega));(case ht=>kernel_rfl);(case hs=>kernel_rfl);intro _ _ _)
     refine tL ?_
     refine hS.dZ (Hn (x:=x) hS.r (hc.mv hS.at) (Cells.mv (by assumption) hS.at) hS.z (by simp only [ae];omega) (ah cB hs.kp.size) (by have:=QO x;omega)) (by kernel_rfl) fun kC w3 X3 bP oe=>?_
     replace hs:=bP.s
     repeat' first|(with_reducible apply cx);omega;omega
     refine ga (xs.length-(i+1)) (by omega) ⟨i+1,kC,by simp,rfl,by omega,?_⟩
     rw [jU rG,←ax];exact bP
    ·intro K hK
     repeat' first|with_reducible (first|apply ak|apply aK)|(with_reducible apply aM);exact qF;(· kernel_rfl);rfl;intro _ _ _|(with_reducible apply aZ);exact qF;exact qM;(· kernel_rfl);rfl|(with_reducible apply lR);(· kernel_rfl)|exact hK
   ·rw [cl eI] at hS
    repeat' first|(with_reducible refine dm ?_ ?_);omega|with_reducible apply ak
    rw [ax] at hS
    exact hS.fin
  ·intro K hK
   repeat' first|with_reducible (first|apply aD|apply aK)|(with_reducible apply aM);exact qF;(· kernel_rfl);rfl;intro _ _ _|(with_reducible apply aZ);exact qF;exact qM;(· kernel_rfl);rfl|(with_reducible apply od);(· kernel_rfl)
   refine hS.dZ (lC hS.r (by omega) cB) (by kernel_rfl) fun gS w2 X2 bu lS=>?_
   replace hs:=bu.s
   skip
   exact hK _ _ _ bu
theorem Sa {w:World} {X Z:XS} {lo wb cb xb xo:Nat} {vb va:Value} {bs:List Nat} {xs:List KV} (h:Wr w X lo wb vb bs) (hc:Cells w Z cb 0 (iZ wb)) (hx:Cells w Z xb xo [va]) (ha:Sl w Z 4 va (xs.map KV.l)) (hZ:oh Z X wb vb) (fT:lo≤w.heap.size) (hb:bs.length+(gA dd xs).length≤2^33):
  lv 152 #[ptr cb 0,ptr xb xo,.func (.func 153) #[ptr cb 0] #[]] w X lo wb vb bs (gA dd xs):=by
  intro w0 hk
  have cB:lo≤w0.heap.size:=ah fT hk.size
  replace hc:=hc.mv (hZ.mv hk)
  replace hx:=hx.mv (hZ.mv hk)
  replace ha:=ha.mv (hZ.mv hk)
  have hS:=WS.init (h.mv hk.dA)
  have nw:=ha.gW
  apply qh;unfold ny
  have hs:=hS.s
  repeat' first|with_reducible apply aK|(with_reducible apply aZ);exact qF;exact qM;(· kernel_rfl);rfl|(with_reducible apply bS);exact qO;(· kernel_rfl)
  refine fV (fun (k:Value→World→XS→Prop)=> ∀w X gS,WS w0 vb w X lo wb gS (bs++encI xs.length)→k (I xs.length) w X) ?_ ?_
  ·intro w X gS bu
   refine fK (fun n' a w X=> ∃(i:Nat) (oN:Value),a=I i∧n'=xs.length-i∧i≤xs.length∧WS w0 vb w X lo wb oN (bs++encI xs.length++((xs.take i).map dd).flatten)) xs.length ⟨0,gS,rfl,rfl,aV _,by simpa using bu⟩ ?_
   clear bu hS hs
   rintro n' a w X ⟨i,oN,rfl,rfl,hi,hS⟩
   have hs:=hS.s
   rcases fh xs i with⟨dh,x,rG,hd⟩|⟨eI,hd⟩
   ·have iH:=zm (f:=dd) rG
    repeat' first|(with_reducible refine dC ?_ ?_);omega|with_reducible apply aD
    refine fV (fun (k:World→XS→Prop)=>k w X) ?_ ?_
    ·repeat' first|with_reducible apply aK|(with_reducible apply aZ);exact qF;exact qM;(· kernel_rfl);rfl|((with_reducible apply e7);exact qO;(try (case hz=>rfl));(case hr=>exact qR);(try (case hz=>omega));(case ht=>kernel_rfl);(case hs=>kernel_rfl);intro _ _ _)
     refine tL ?_
     refine hS.dZ (Js (x:=x) hS.r (hc.mv hS.at) (Cells.mv (by assumption) hS.at) hS.z (by simp only [ae];omega) (ah cB hs.kp.size) (by have:=QO x;omega)) (by kernel_rfl) fun kC w3 X3 bP oe=>?_
     replace hs:=bP.s
     repeat' first|(with_reducible apply cx);omega;omega
     refine ga (xs.length-(i+1)) (by omega) ⟨i+1,kC,by simp,rfl,by omega,?_⟩
     rw [jU rG,←ax];exact bP
    ·intro K hK
     repeat' first|with_reducible (first|apply ak|apply aK)|(with_reducible apply aM);exact qF;(· kernel_rfl);rfl;intro _ _ _|(with_reducible apply aZ);exact qF;exact qM;(· kernel_rfl);rfl|(with_reducible apply lR);(· kernel_rfl)|exact hK
   ·rw [cl eI] at hS
    repeat' first|(with_reducible refine dm ?_ ?_);omega|with_reducible apply ak
    rw [ax] at hS
    exact hS.fin
  ·intro K hK
   repeat' first|with_reducible (first|apply aD|apply aK)|(with_reducible apply aM);exact qF;(· kernel_rfl);rfl;intro _ _ _|(with_reducible apply aZ);exact qF;exact qM;(· kernel_rfl);rfl|(with_reducible apply od);(· kernel_rfl)
   refine hS.dZ (lC hS.r (by omega) cB) (by kernel_rfl) fun gS w2 X2 bu lS=>?_
   replace hs:=bu.s
   skip
   exact hK _ _ _ bu
theorem Ox {w:World} {X Z:XS} {lo wb cb xb xo:Nat} {vb va:Value} {bs:List Nat} {xs:List lV} (h:Wr w X lo wb vb bs) (hc:Cells w Z cb 0 (iZ wb)) (hx:Cells w Z xb xo [va]) (ha:Sl w Z 6 va (xs.map lV.l)) (hZ:oh Z X wb vb) (fT:lo≤w.heap.size) (hb:bs.length+(gA vO xs).length≤2^33):
  lv 289 #[ptr cb 0,ptr xb xo,.func (.func 290) #[ptr cb 0] #[]] w X lo wb vb bs (gA vO xs):=by
  intro w0 hk
  have cB:lo≤w0.heap.size:=ah fT hk.size
  replace hc:=hc.mv (hZ.mv hk)
  replace hx:=hx.mv (hZ.mv hk)
  replace ha:=ha.mv (hZ.mv hk)
  have hS:=WS.init (h.mv hk.dA)
  have nw:=ha.gW
  apply Bj;unfold ti
  have hs:=hS.s
  repeat' first|with_reducible apply aK|(with_reducible apply aZ);exact qF;exact qM;(· kernel_rfl);rfl|(with_reducible apply bS);exact qO;(· kernel_rfl)
  refine fV (fun (k:Value→World→XS→Prop)=> ∀w X gS,WS w0 vb w X lo wb gS (bs++encI xs.length)→k (I xs.length) w X) ?_ ?_
  ·intro w X gS bu
   refine fK (fun n' a w X=> ∃(i:Nat) (oN:Value),a=I i∧n'=xs.length-i∧i≤xs.length∧WS w0 vb w X lo wb oN (bs++encI xs.length++((xs.take i).map vO).flatten)) xs.length ⟨0,gS,rfl,rfl,aV _,by simpa using bu⟩ ?_
   clear bu hS hs
   rintro n' a w X ⟨i,oN,rfl,rfl,hi,hS⟩
   have hs:=hS.s
   rcases fh xs i with⟨dh,x,rG,hd⟩|⟨eI,hd⟩
   ·have iH:=zm (f:=vO) rG
    repeat' first|(with_reducible refine dC ?_ ?_);omega|with_reducible apply aD
    refine fV (fun (k:World→XS→Prop)=>k w X) ?_ ?_
    ·repeat' first|with_reducible apply aK|(with_reducible apply aZ);exact qF;exact qM;(· kernel_rfl);rfl|((with_reducible apply e7);exact qO;(try (case hz=>rfl));(case hr=>exact qR);(try (case hz=>omega));(case ht=>kernel_rfl);(case hs=>kernel_rfl);intro _ _ _)
     refine tL ?_
     refine hS.dZ (Ov (x:=x) hS.r (hc.mv hS.at) (Cells.mv (by assumption) hS.at) hS.z (by simp only [ae];omega) (ah cB hs.kp.size)) (by kernel_rfl) fun kC w3 X3 bP oe=>?_
     replace hs:=bP.s
     repeat' first|(with_reducible apply cx);omega;omega
     refine ga (xs.length-(i+1)) (by omega) ⟨i+1,kC,by simp,rfl,by omega,?_⟩
     rw [jU rG,←ax];exact bP
    ·intro K hK
     repeat' first|with_reducible (first|apply ak|apply aK)|(with_reducible apply aM);exact qF;(· kernel_rfl);rfl;intro _ _ _|(with_reducible apply aZ);exact qF;exact qM;(· kernel_rfl);rfl|(with_reducible apply lR);(· kernel_rfl)|exact hK
   ·rw [cl eI] at hS
    repeat' first|(with_reducible refine dm ?_ ?_);omega|with_reducible apply ak
    rw [ax] at hS
    exact hS.fin
  ·intro K hK
   repeat' first|with_reducible (first|apply aD|apply aK)|(with_reducible apply aM);exact qF;(· kernel_rfl);rfl;intro _ _ _|(with_reducible apply aZ);exact qF;exact qM;(· kernel_rfl);rfl|(with_reducible apply od);(· kernel_rfl)
   refine hS.dZ (lC hS.r (by omega) cB) (by kernel_rfl) fun gS w2 X2 bu lS=>?_
   replace hs:=bu.s
   skip
   exact hK _ _ _ bu
theorem Oy {w:World} {X Z:XS} {lo wb cb xb xo:Nat} {vb vv:Value} {bs:List Nat} {x:jO} (h:Wr w X lo wb vb bs) (hc:Cells w Z cb 0 (iZ wb)) (hx:Cells w Z xb xo (x.l vv)) (ha:Sl w Z 6 vv (x.kn.map lV.l)) (hZ:oh Z X wb vb) (fT:lo≤w.heap.size) (hb:bs.length+(zl x).length≤2^33):
  lv 211 #[ptr cb 0,ptr xb xo] w X lo wb vb bs (zl x):=by
 have e1:(zl x).length=(kU x.key).length+(gA vO x.kn).length:=by simp [zl]
 have e2:=nV x.key
 replace ha:=fun {w1:World} (hk:Kp X w w1)=>ha.mv (hZ.mv hk)
 intro w0 hk
 have cB:lo≤w0.heap.size:=ah fT hk.size
 replace hc:=hc.mv (hZ.mv hk)
 replace hx:=hx.mv (hZ.mv hk)
 have hS:=WS.init (h.mv hk.dA)
 apply DF;unfold vK
 have hs:=hS.s
 replace ha:=ha hk
 have ov:=ha.one
 repeat' first|with_reducible apply aK|(with_reducible apply aM);exact qF;(· kernel_rfl);rfl;intro _ _ _
 refine hS.dZ (x9 hS.r (hc.mv hS.at) (Cells.mv (by assumption) hS.at) hS.z (by omega) cB (by omega)) (by kernel_rfl) fun gS w X bu _=>?_
 replace hs:=bu.s
 repeat' first|with_reducible apply aK|(with_reducible apply aM);exact qF;(· kernel_rfl);rfl;intro _ _ _|(with_reducible apply jx)
 refine bu.dZ (Ox bu.r (hc.mv bu.at) (Cells.mv (by assumption) bu.at) (ha.mv bu.at) bu.z (ah cB hs.kp.size) (by simp only [ae];omega)) (by kernel_rfl) fun kC w X bP _=>?_
 skip
 unfold zl
 simp only [ax] at bP
 exact bP.fin
theorem Df {w:World} {X Z:XS} {lo wb cb xb xo:Nat} {vb vr vw:Value} {bs:List Nat} {x:fk} (h:Wr w X lo wb vb bs) (hc:Cells w Z cb 0 (iZ wb)) (hx:Cells w Z xb xo (x.l vr vw)) (h1:Sl w Z 1 vr (x.reads.map S1)) (h2:Sl w Z 4 vw (x.writes.map KV.l)) (hZ:oh Z X wb vb) (fT:lo≤w.heap.size) (hb:bs.length+(u6 x).length≤2^33):
  lv 144 #[ptr cb 0,ptr xb xo] w X lo wb vb bs (u6 x):=by
 have e1:(u6 x).length=(pX x.dH).length+((jL x.br).length+((gA kU x.reads).length+(gA dd x.writes).length)):=by simp [u6]
 replace h1:=fun {w1:World} (hk:Kp X w w1)=>h1.mv (hZ.mv hk)
 replace h2:=fun {w1:World} (hk:Kp X w w1)=>h2.mv (hZ.mv hk)
 intro w0 hk
 have cB:lo≤w0.heap.size:=ah fT hk.size
 replace hc:=hc.mv (hZ.mv hk)
 replace hx:=hx.mv (hZ.mv hk)
 have hS:=WS.init (h.mv hk.dA)
 apply DC;unfold vH
 have hs:=hS.s
 replace h1:=h1 hk
 replace h2:=h2 hk
 have o1:=h1.one
 have o2:=h2.one
 repeat' first|with_reducible apply aK|(with_reducible apply gx);exact qF;(· kernel_rfl);rfl;exact qN;intro _ _ _
 refine hS.dZ (sS (s:=x.dH) hS.r (hc.mv hS.at) (Cells.mv (by assumption) hS.at) hS.z (by(try simp only [ae]);omega) (ah cB hs.kp.size)) (by kernel_rfl) fun gS w X bu _=>?_
 replace hs:=bu.s
 repeat' first|with_reducible apply aK|(with_reducible apply gx);exact qF;(· kernel_rfl);rfl;exact qN;intro _ _ _
 refine bu.dZ (iz (s:=x.br) bu.r (hc.mv bu.at) (Cells.mv (by assumption) bu.at) bu.z (by(try simp only [ae]);omega) (ah cB hs.kp.size)) (by kernel_rfl) fun kC w X bP _=>?_
 replace hs:=bP.s
 repeat' first|with_reducible apply aK|(with_reducible apply aM);exact qF;(· kernel_rfl);rfl;intro _ _ _|(with_reducible apply jx)
 refine bP.dZ (MO bP.r (hc.mv bP.at) (Cells.mv (by assumption) bP.at) (h1.mv bP.at) bP.z (ah cB hs.kp.size) (by simp only [ae];omega)) (by kernel_rfl) fun LO w X eG _=>?_
 replace hs:=eG.s
 repeat' first|with_reducible apply aK|(with_reducible apply aM);exact qF;(· kernel_rfl);rfl;intro _ _ _|(with_reducible apply jx)
 refine eG.dZ (Ho eG.r (hc.mv eG.at) (Cells.mv (by assumption) eG.at) (h2.mv eG.at) eG.z (ah cB hs.kp.size) (by simp only [ae];omega)) (by kernel_rfl) fun Oq w X iP _=>?_
 skip
 unfold u6
 simp only [ax] at iP
 exact iP.fin
theorem MP {w:World} {X Z:XS} {lo wb cb xb xo:Nat} {vb va:Value} {bs:List Nat} {xs:List jO} (h:Wr w X lo wb vb bs) (hc:Cells w Z cb 0 (iZ wb)) (hx:Cells w Z xb xo [va]) (ha:mW w Z va xs) (hZ:oh Z X wb vb) (fT:lo≤w.heap.size) (hb:bs.length+(gA zl xs).length≤2^33):
  lv 210 #[ptr cb 0,ptr xb xo,.func (.func 211) #[ptr cb 0] #[]] w X lo wb vb bs (gA zl xs):=by
  intro w0 hk
  have cB:lo≤w0.heap.size:=ah fT hk.size
  replace hc:=hc.mv (hZ.mv hk)
  replace hx:=hx.mv (hZ.mv hk)
  replace ha:=ha.mv (hZ.mv hk)
  have hS:=WS.init (h.mv hk.dA)
  have nw:=iw.len ha
  apply Bh;unfold tg
  have hs:=hS.s
  repeat' first|with_reducible apply aK|(with_reducible apply aZ);exact qF;exact qM;(· kernel_rfl);rfl|(with_reducible apply nL);assumption;(· kernel_rfl)
  refine fV (fun (k:Value→World→XS→Prop)=> ∀w X gS,WS w0 vb w X lo wb gS (bs++encI xs.length)→k (I xs.length) w X) ?_ ?_
  ·intro w X gS bu
   refine fK (fun n' a w X=> ∃(i:Nat) (oN:Value),a=I i∧n'=xs.length-i∧i≤xs.length∧WS w0 vb w X lo wb oN (bs++encI xs.length++((xs.take i).map zl).flatten)) xs.length ⟨0,gS,rfl,rfl,aV _,by simpa using bu⟩ ?_
   clear bu hS hs
   rintro n' a w X ⟨i,oN,rfl,rfl,hi,hS⟩
   have hs:=hS.s
   rcases fh xs i with⟨dh,x,rG,hd⟩|⟨eI,hd⟩
   ·have iH:=zm (f:=zl) rG
    repeat' first|(with_reducible refine dC ?_ ?_);omega|with_reducible apply aD
    refine fV (fun (k:World→XS→Prop)=>k w X) ?_ ?_
    ·repeat' first|with_reducible apply aK|(with_reducible apply aZ);exact qF;exact qM;(· kernel_rfl);rfl|((with_reducible apply Ks);assumption;(try (case hz=>rfl));(case hr=>exact qR);(try (case hz=>omega));(case ht=>kernel_rfl);(case hs=>kernel_rfl);intros)
     refine tL ?_
     refine hS.dZ (Oy (x:=x) hS.r (hc.mv hS.at) (Cells.mv (by assumption) hS.at) (Sl.mv (by assumption) hS.at) hS.z (ah cB hs.kp.size) (by simp only [ae];omega)) (by kernel_rfl) fun kC w3 X3 bP oe=>?_
     replace hs:=bP.s
     repeat' first|(with_reducible apply cx);omega;omega
     refine ga (xs.length-(i+1)) (by omega) ⟨i+1,kC,by simp,rfl,by omega,?_⟩
     rw [jU rG,←ax];exact bP
    ·intro K hK
     repeat' first|with_reducible (first|apply ak|apply aK)|(with_reducible apply aM);exact qF;(· kernel_rfl);rfl;intro _ _ _|(with_reducible apply aZ);exact qF;exact qM;(· kernel_rfl);rfl|(with_reducible apply lR);(· kernel_rfl)|exact hK
   ·rw [cl eI] at hS
    repeat' first|(with_reducible refine dm ?_ ?_);omega|with_reducible apply ak
    rw [ax] at hS
    exact hS.fin
  ·intro K hK
   repeat' first|with_reducible (first|apply aD|apply aK)|(with_reducible apply aM);exact qF;(· kernel_rfl);rfl;intro _ _ _|(with_reducible apply aZ);exact qF;exact qM;(· kernel_rfl);rfl|(with_reducible apply od);(· kernel_rfl)
   refine hS.dZ (lC hS.r (by omega) cB) (by kernel_rfl) fun gS w2 X2 bu lS=>?_
   replace hs:=bu.s
   skip
   exact hK _ _ _ bu
theorem MQ {w:World} {X Z:XS} {lo wb cb xb xo:Nat} {vb va:Value} {bs:List Nat} {xs:List fk} (h:Wr w X lo wb vb bs) (hc:Cells w Z cb 0 (iZ wb)) (hx:Cells w Z xb xo [va]) (ha:mC w Z va xs) (hZ:oh Z X wb vb) (fT:lo≤w.heap.size) (hb:bs.length+(gA u6 xs).length≤2^33):
  lv 212 #[ptr cb 0,ptr xb xo,.func (.func 144) #[ptr cb 0] #[]] w X lo wb vb bs (gA u6 xs):=by
  intro w0 hk
  have cB:lo≤w0.heap.size:=ah fT hk.size
  replace hc:=hc.mv (hZ.mv hk)
  replace hx:=hx.mv (hZ.mv hk)
  replace ha:=ha.mv (hZ.mv hk)
  have hS:=WS.init (h.mv hk.dA)
  have nw:=iw.len ha
  apply Bi;unfold th
  have hs:=hS.s
  repeat' first|with_reducible apply aK|(with_reducible apply aZ);exact qF;exact qM;(· kernel_rfl);rfl|(with_reducible apply nL);assumption;(· kernel_rfl)
  refine fV (fun (k:Value→World→XS→Prop)=> ∀w X gS,WS w0 vb w X lo wb gS (bs++encI xs.length)→k (I xs.length) w X) ?_ ?_
  ·intro w X gS bu
   refine fK (fun n' a w X=> ∃(i:Nat) (oN:Value),a=I i∧n'=xs.length-i∧i≤xs.length∧WS w0 vb w X lo wb oN (bs++encI xs.length++((xs.take i).map u6).flatten)) xs.length ⟨0,gS,rfl,rfl,aV _,by simpa using bu⟩ ?_
   clear bu hS hs
   rintro n' a w X ⟨i,oN,rfl,rfl,hi,hS⟩
   have hs:=hS.s
   rcases fh xs i with⟨dh,x,rG,hd⟩|⟨eI,hd⟩
   ·have iH:=zm (f:=u6) rG
    repeat' first|(with_reducible refine dC ?_ ?_);omega|with_reducible apply aD
    refine fV (fun (k:World→XS→Prop)=>k w X) ?_ ?_
    ·repeat' first|with_reducible apply aK|(with_reducible apply aZ);exact qF;exact qM;(· kernel_rfl);rfl|((with_reducible apply St);assumption;(try (case hz=>rfl));(case hr=>exact qR);(try (case hz=>omega));(case ht=>kernel_rfl);(case hs=>kernel_rfl);intros)
     refine tL ?_
     refine hS.dZ (Df (x:=x) hS.r (hc.mv hS.at) (Cells.mv (by assumption) hS.at) (Sl.mv (by assumption) hS.at) (Sl.mv (by assumption) hS.at) hS.z (ah cB hs.kp.size) (by simp only [ae];omega)) (by kernel_rfl) fun kC w3 X3 bP oe=>?_
     replace hs:=bP.s
     repeat' first|(with_reducible apply cx);omega;omega
     refine ga (xs.length-(i+1)) (by omega) ⟨i+1,kC,by simp,rfl,by omega,?_⟩
     rw [jU rG,←ax];exact bP
    ·intro K hK
     repeat' first|with_reducible (first|apply ak|apply aK)|(with_reducible apply aM);exact qF;(· kernel_rfl);rfl;intro _ _ _|(with_reducible apply aZ);exact qF;exact qM;(· kernel_rfl);rfl|(with_reducible apply lR);(· kernel_rfl)|exact hK
   ·rw [cl eI] at hS
    repeat' first|(with_reducible refine dm ?_ ?_);omega|with_reducible apply ak
    rw [ax] at hS
    exact hS.fin
  ·intro K hK
   repeat' first|with_reducible (first|apply aD|apply aK)|(with_reducible apply aM);exact qF;(· kernel_rfl);rfl;intro _ _ _|(with_reducible apply aZ);exact qF;exact qM;(· kernel_rfl);rfl|(with_reducible apply od);(· kernel_rfl)
   refine hS.dZ (lC hS.r (by omega) cB) (by kernel_rfl) fun gS w2 X2 bu lS=>?_
   replace hs:=bu.s
   skip
   exact hK _ _ _ bu
theorem Sb {w:World} {X Z:XS} {lo wb cb xb xo:Nat} {vb vh vp:Value} {bs:List Nat} {x:State} (h:Wr w X lo wb vb bs) (hc:Cells w Z cb 0 (iZ wb)) (hx:Cells w Z xb xo (x.l vh vp)) (h1:mW w Z vh x.iF) (h2:mC w Z vp x.iD) (hZ:oh Z X wb vb) (fT:lo≤w.heap.size) (hb:bs.length+(encS x).length≤2^33):
  lv 143 #[ptr cb 0,ptr xb xo] w X lo wb vb bs (encS x):=by
 have e1:(encS x).length=(Ou x.range).length+((jL x.floor).length+((jL x.closed).length+((gA zl x.iF).length+(gA u6 x.iD).length))):=by simp [encS]
 replace h1:=fun {w1:World} (hk:Kp X w w1)=>mW.mv h1 (hZ.mv hk)
 replace h2:=fun {w1:World} (hk:Kp X w w1)=>mC.mv h2 (hZ.mv hk)
 intro w0 hk
 have cB:lo≤w0.heap.size:=ah fT hk.size
 replace hc:=hc.mv (hZ.mv hk)
 replace hx:=hx.mv (hZ.mv hk)
 have hS:=WS.init (h.mv hk.dA)
 apply FP;unfold xL
 have hs:=hS.s
 replace h1:=h1 hk
 replace h2:=h2 hk
 have o1:=h1.one
 have o2:=h2.one
 repeat' first|with_reducible apply aK|(with_reducible apply gx);exact qF;(· kernel_rfl);rfl;exact qN;intro _ _ _
 refine hS.dZ (R9 (r:=x.range) hS.r (hc.mv hS.at) (Cells.mv (by assumption) hS.at) hS.z (by(try simp only [ae]);omega) (ah cB hs.kp.size)) (by kernel_rfl) fun gS w X bu _=>?_
 replace hs:=bu.s
 repeat' first|with_reducible apply aK|(with_reducible apply gx);exact qF;(· kernel_rfl);rfl;exact qN;intro _ _ _
 refine bu.dZ (iz (s:=x.floor) bu.r (hc.mv bu.at) (Cells.mv (by assumption) bu.at) bu.z (by(try simp only [ae]);omega) (ah cB hs.kp.size)) (by kernel_rfl) fun kC w X bP _=>?_
 replace hs:=bP.s
 repeat' first|with_reducible apply aK|(with_reducible apply gx);exact qF;(· kernel_rfl);rfl;exact qN;intro _ _ _
 refine bP.dZ (iz (s:=x.closed) bP.r (hc.mv bP.at) (Cells.mv (by assumption) bP.at) bP.z (by(try simp only [ae]);omega) (ah cB hs.kp.size)) (by kernel_rfl) fun LO w X eG _=>?_
 replace hs:=eG.s
 repeat' first|with_reducible apply aK|(with_reducible apply aM);exact qF;(· kernel_rfl);rfl;intro _ _ _|(with_reducible apply jx)
 refine eG.dZ (MP eG.r (hc.mv eG.at) (Cells.mv (by assumption) eG.at) (h1.mv eG.at) eG.z (ah cB hs.kp.size) (by simp only [ae];omega)) (by kernel_rfl) fun Oq w X iP _=>?_
 replace hs:=iP.s
 repeat' first|with_reducible apply aK|(with_reducible apply aM);exact qF;(· kernel_rfl);rfl;intro _ _ _|(with_reducible apply jx)
 refine iP.dZ (MQ iP.r (hc.mv iP.at) (Cells.mv (by assumption) iP.at) (h2.mv iP.at) iP.z (ah cB hs.kp.size) (by simp only [ae];omega)) (by kernel_rfl) fun vb6 w X A4 _=>?_
 skip
 unfold encS
 simp only [ax] at A4
 exact A4.fin
def wD (r:Rec):List Nat:=encI r.kind++(
 if r.kind=1 then encS r.state
 else if r.kind=2∨r.kind=7∨r.kind=8 then encI r.n
 else if r.kind=3 then u6 ⟨r.dH,r.br,r.reads,r.writes⟩++gA encI r.parts
 else if r.kind=4 then pX r.dH++(YP r.ko++jL r.br)
 else if r.kind=5 then jL r.br
 else if r.kind=6 then sc r.rP++(encI r.n++jL r.br)
 else if r.kind=9 then pX r.dH++(jL r.br++gA encI r.parts)
 else if r.kind=10 then pX r.dH
 else if r.kind=11 then jL r.prev++(jL r.br++(pX r.dH++gA dd r.writes))
 else if r.kind=12 then jL r.br++gA dd r.bH
 else [])
theorem Gl {P:Program} {R:Ending→World→Prop} {X:XS} {w:World} {t sz b o o':Nat} {cs:List Value} {ty:TypeId} {v:Value} {N:Value→World→XS→Prop} (h:bJ w X b cs ty) (Tq:o'=o) (ht:(P.info? t).map (·.size)=some sz)
  (hl:o+sz≤cs.length) (hv:v.cells.size=sz) (h1:v.cells.toList.all one=true) (hX: ∀k,X k→k<w.heap.size) (he:cd cs o v.cells.toList=cs)
  (n: ∀w' X',aj X w X' w'→N undef w' X'):eU P R X w true (eo t sz (ptr b o') v) N:=by
 refine Be h Tq ht hl hv h1 hX fun w' X' c hr=>n w' X' ⟨⟨c.os,c.tape,c.output,c.size,fun k hk=>?_⟩,c.sub,c.has⟩
 by_cases e:k=b
 ·subst e
  rw [h.2,hr.2,he]
 ·exact c.block k hk e
theorem WS.Gm {w0 w w':World} {X X':XS} {lo wb b:Nat} {oZ vb:Value} {bs:List Nat} {cs:List Value} {ty:TypeId} (hS:WS w0 oZ w X lo wb vb bs) (hr:bJ w X b cs ty) (hb:w0.heap.size≤b)
  (h1:decide (308≠ty)=true) (h2:decide (5≠ty)=true) (c:fO (fun k=>k=b) X w X' w'):WS w0 oZ w' X' lo wb vb bs:=by
 have dr:wb≠b:=hS.r.box.dS hr h1
 refine⟨hS.s.ej c fun q h0 hq=>?_,⟨⟨c.sub _ hS.r.box.1,by rw [c.block _ hS.r.box.1 fun e=>dr e];exact hS.r.box.2⟩,Own.ej hS.r.ow c fun g hg e=>Own.dS hS.r.ow hr h2 (by rw [hg,e])⟩,hS.v⟩
 have:=h0.1
 have hq:q=b:=hq
 omega
theorem _root_.Go.fR.bJ.ej {F X X':XS} {w w':World} {b:Nat} {cs:List Value} {ty:TypeId} (h:bJ w X b cs ty) (c:fO F X w X' w') (hn: ¬F b):bJ w' X' b cs ty:=⟨c.sub _ h.1,by rw [c.block _ h.1 hn];exact h.2⟩
theorem Wx {w:World} {X Z:XS} {lo wb cb xb:Nat} {vb:Value} {bs:List Nat} {r:Rec} {vr vw vp vq vh vd:Value} (h:Wr w X lo wb vb bs) (hc:Cells w Z cb 0 (iZ wb)) (hx:bJ w Z xb (r.l vr vw vp vq vh vd) 117) (gQ:r.at w Z vr vw vp vq vh vd) (hZ:oh Z X wb vb) (fT:lo≤w.heap.size)
  (hb:bs.length+(wD r).length≤2^33):lv 89 #[ptr cb 0,ptr xb 0] w X lo wb vb bs (wD r):=by
 intro w0 hk
 have cB:lo≤w0.heap.size:=ah fT hk.size
 replace hc:=hc.mv (hZ.mv hk)
 replace hx:=hx.mv (hZ.mv hk)
 replace gQ:=gQ.mv (hZ.mv hk)
 obtain⟨a1,a2,a3,a4,a5,a6⟩:=gQ
 obtain⟨p1,n1,c1,rfl⟩:=a1.form
 obtain⟨p2,n2,c2,rfl⟩:=a2.form
 have o1:=a1.one
 have o2:=a2.one
 have o3:=a3.one
 have o4:=a4.one
 have o5:=a5.one
 have o6:=a6.one
 have dK:=hx
 replace hx:=hx.cells
 have hS:=WS.init (h.mv hk.dA)
 have e1:=ee r.kind
 obtain⟨E,hE⟩: ∃E,E=wD r:=⟨_,rfl⟩
 rw [←hE] at hb⊢
 unfold wD at hE
 have hEl:(encI r.kind).length≤E.length:=by rw [hE,ae];omega
 apply tU;unfold qZ
 have hs:=hS.s
 repeat' first|with_reducible apply aK|(with_reducible apply aM);exact qF;(· kernel_rfl);rfl;intro _ _ _
 refine hS.dZ (iM hS.r (hc.mv hS.at) (Cells.mv (by assumption) hS.at) hS.z (by omega) (ah cB hs.kp.size)) (by kernel_rfl) fun gS w X bu _=>?_
 replace hs:=bu.s
 repeat' first|with_reducible apply aK|(with_reducible apply aM);exact qF;(· kernel_rfl);rfl;intro _ _ _|(with_reducible apply aZ);exact qF;exact qM;(· kernel_rfl);rfl
 refine fV (fun (k:World→XS→Prop)=> ∀w X kC,WS w0 vb w X lo wb kC (bs++E)→k w X) (fun w X kC bP=>bP.fin) fun K hK=>?_
 repeat' first|with_reducible (first|apply aD|apply ak)|(with_reducible apply gP);rfl|with_reducible apply aK|(with_reducible apply gF<;>intro _)|(with_reducible apply aM);exact qF;(· kernel_rfl);rfl;intro _ _ _|(with_reducible apply gx);exact qF;(· kernel_rfl);rfl;exact qN;intro _ _ _|(with_reducible apply aZ);exact qF;exact qM;(· kernel_rfl);rfl|(with_reducible apply fP);exact qF;exact qM;(· kernel_rfl);rfl|(with_reducible apply gg);(· kernel_rfl)|with_reducible apply dY
 all_goals (repeat (first|rw [if_pos (by omega)] at hE|rw [if_neg (by omega)] at hE))
 all_goals (have hEb:=congrArg aB hE;simp only [ae] at hEb)
 ·refine bu.dZ (Sb (x:=r.state) bu.r (hc.mv bu.at) (Cells.mv (by assumption) bu.at) (a5.mv bu.at) (a6.mv bu.at) bu.z (ah cB hs.kp.size) (by simp only [ae];omega)) (by kernel_rfl) fun kC w X bP _=>?_
  have h9:=bP
  rw [hE] at hK
  (try simp only [ax] at h9 hK)
  exact hK _ _ _ h9
 ·refine bu.dZ (iM bu.r (hc.mv bu.at) (Cells.mv (by assumption) bu.at) bu.z (by simp only [ae];omega) (ah cB hs.kp.size)) (by kernel_rfl) fun kC w X bP _=>?_
  have h9:=bP
  rw [hE] at hK
  (try simp only [ax] at h9 hK)
  exact hK _ _ _ h9
 ·refine bu.dZ (iM bu.r (hc.mv bu.at) (Cells.mv (by assumption) bu.at) bu.z (by simp only [ae];omega) (ah cB hs.kp.size)) (by kernel_rfl) fun kC w X bP _=>?_
  have h9:=bP
  rw [hE] at hK
  (try simp only [ax] at h9 hK)
  exact hK _ _ _ h9
 ·refine bu.dZ (iM bu.r (hc.mv bu.at) (Cells.mv (by assumption) bu.at) bu.z (by simp only [ae];omega) (ah cB hs.kp.size)) (by kernel_rfl) fun kC w X bP _=>?_
  have h9:=bP
  rw [hE] at hK
  (try simp only [ax] at h9 hK)
  exact hK _ _ _ h9
 ·have e2:(u6 ⟨r.dH,r.br,r.reads,r.writes⟩).length≤E.length:=by omega
  refine Eo (l:=[I 0,I 0,I 0,I 0,I 0,I 0,.slice none 0 0,.slice none 0 0]) hs.has (by kernel_rfl) fun pb w3 X3 Lp cw adC=>?_
  have bP:=bu.since cw
  refine Be (o:=0) adC rfl (by kernel_rfl) (by simp) rfl rfl cw.has fun w4 X4 c4 Gn=>?_
  replace Gn:bJ w4 X4 pb ((⟨r.dH,r.br,r.reads,r.writes⟩:fk).l (.slice p1 n1 c1) (.slice p2 n2 c2)) 229:=Gn
  have ah3:w0.heap.size≤pb:=ah hs.kp.size Lp
  have eG:=bP.Gm adC ah3 (by kernel_rfl) (by kernel_rfl) c4
  have hnf: ¬A3 wb gS pb:=fun hf=>hf.elim (fun e=>eG.r.box.dS Gn (by kernel_rfl) e.symm) fun e=>Own.dS eG.r.ow Gn (by kernel_rfl) e
  obtain⟨Z',hZ'⟩: ∃Z':XS,Z'=fun k=>k=pb∨out (A3 wb vb) w0 k:=⟨_,rfl⟩
  have mv4:Mv (out (A3 wb vb) w0) w0 Z' w4:=fun k ai _=>⟨by rw [hZ'];exact .inr ai,eG.s.kp.block k ai⟩
  have qq:oh Z' X4 wb gS:=fun k ai=>by
   rw [hZ'] at ai
   rcases ai with rfl|ai
   ·exact⟨Gn.1,hnf⟩
   ·exact eG.z k ai
  refine eG.dZ (Df (x:=⟨r.dH,r.br,r.reads,r.writes⟩) eG.r (hc.mv mv4) (bJ.cells (X:=Z') (ty:=229) ⟨by rw [hZ'];exact .inl rfl,Gn.2⟩) (a1.mv mv4) (a2.mv mv4) qq (ah cB eG.s.kp.size) (by simp only [ae];omega)) (by kernel_rfl) fun Oq w5 X5 iP c5=>?_
  have aja:=Gn.ej c5 hnf
  clear hs
  have hs:=iP.s
  repeat' first|with_reducible apply aK|(with_reducible apply aM);exact qF;(· kernel_rfl);rfl;intro _ _ _|(with_reducible apply gx);exact qF;(· kernel_rfl);rfl;exact qN;intro _ _ _|(with_reducible apply aZ);exact qF;exact qM;(· kernel_rfl);rfl|(with_reducible apply fP);exact qF;exact qM;(· kernel_rfl);rfl
  refine Gl (o:=1) (dK.mv iP.s.mv) (by omega) (by kernel_rfl) (by simp) rfl rfl iP.s.has (by rfl) fun w6 X6 tp=>?_
  have A4:=iP.since tp
  repeat' first|with_reducible apply aK|(with_reducible apply gx);exact qF;(· kernel_rfl);rfl;exact qN;intro _ _ _
  refine Gl (o:=4) (dK.mv A4.s.mv) (by omega) (by kernel_rfl) (by simp) rfl rfl A4.s.has (by rfl) fun w7 X7 m9=>?_
  have hS7:=A4.since m9
  repeat' first|with_reducible apply aK|(with_reducible apply aM);exact qF;(· kernel_rfl);rfl;intro _ _ _
  refine Gl (o:=13) (dK.mv hS7.s.mv) (by omega) (by kernel_rfl) (by simp) rfl rfl hS7.s.has (by rfl) fun w8 X8 qu=>?_
  have hS8:=hS7.since qu
  repeat' first|with_reducible apply aK|(with_reducible apply aM);exact qF;(· kernel_rfl);rfl;intro _ _ _
  refine Gl (o:=14) (dK.mv hS8.s.mv) (by omega) (by kernel_rfl) (by simp) rfl rfl hS8.s.has (by rfl) fun w9 X9 yX=>?_
  have Un:=hS8.since yX
  clear hs
  have hs:=Un.s
  repeat' first|with_reducible apply aK|(with_reducible apply aM);exact qF;(· kernel_rfl);rfl;intro _ _ _|(with_reducible apply jx)
  refine Un.dZ (De Un.r (hc.mv Un.at) (Cells.mv (by assumption) Un.at) (a3.mv Un.at) Un.z (ah cB hs.kp.size) (by simp only [ae];omega)) (by kernel_rfl) fun ajl w X ah4 _=>?_
  have h9:=ah4
  rw [hE] at hK
  (try simp only [ax] at h9 hK)
  exact hK _ _ _ h9
 ·refine bu.dZ (sS (s:=r.dH) bu.r (hc.mv bu.at) (Cells.mv (by assumption) bu.at) bu.z (by(try simp only [ae]);omega) (ah cB hs.kp.size)) (by kernel_rfl) fun kC w X bP _=>?_
  replace hs:=bP.s
  repeat' first|with_reducible apply aK|(with_reducible apply aM);exact qF;(· kernel_rfl);rfl;intro _ _ _
  refine bP.dZ (Um (b:=r.ko) bP.r (hc.mv bP.at) (Cells.mv (by assumption) bP.at) bP.z (by(try simp only [ae]);omega) (ah cB hs.kp.size)) (by kernel_rfl) fun LO w X eG _=>?_
  replace hs:=eG.s
  repeat' first|with_reducible apply aK|(with_reducible apply gx);exact qF;(· kernel_rfl);rfl;exact qN;intro _ _ _
  refine eG.dZ (iz (s:=r.br) eG.r (hc.mv eG.at) (Cells.mv (by assumption) eG.at) eG.z (by(try simp only [ae]);omega) (ah cB hs.kp.size)) (by kernel_rfl) fun Oq w X iP _=>?_
  replace hs:=iP.s
  skip
  have h9:=iP
  rw [hE] at hK
  (try simp only [ax] at h9 hK)
  exact hK _ _ _ h9
 ·refine bu.dZ (iz (s:=r.br) bu.r (hc.mv bu.at) (Cells.mv (by assumption) bu.at) bu.z (by(try simp only [ae]);omega) (ah cB hs.kp.size)) (by kernel_rfl) fun kC w X bP _=>?_
  replace hs:=bP.s
  skip
  have h9:=bP
  rw [hE] at hK
  (try simp only [ax] at h9 hK)
  exact hK _ _ _ h9
 ·refine bu.dZ (Am bu.r (hc.mv bu.at) (Cells.mv (by assumption) bu.at) bu.z (by(try simp only [ae]);omega) (ah cB hs.kp.size)) (by kernel_rfl) fun kC w X bP _=>?_
  replace hs:=bP.s
  repeat' first|with_reducible apply aK|(with_reducible apply aM);exact qF;(· kernel_rfl);rfl;intro _ _ _
  refine bP.dZ (iM bP.r (hc.mv bP.at) (Cells.mv (by assumption) bP.at) bP.z (by(try simp only [ae]);omega) (ah cB hs.kp.size)) (by kernel_rfl) fun LO w X eG _=>?_
  replace hs:=eG.s
  repeat' first|with_reducible apply aK|(with_reducible apply gx);exact qF;(· kernel_rfl);rfl;exact qN;intro _ _ _
  refine eG.dZ (iz (s:=r.br) eG.r (hc.mv eG.at) (Cells.mv (by assumption) eG.at) eG.z (by(try simp only [ae]);omega) (ah cB hs.kp.size)) (by kernel_rfl) fun Oq w X iP _=>?_
  replace hs:=iP.s
  skip
  have h9:=iP
  rw [hE] at hK
  (try simp only [ax] at h9 hK)
  exact hK _ _ _ h9
 ·refine bu.dZ (sS (s:=r.dH) bu.r (hc.mv bu.at) (Cells.mv (by assumption) bu.at) bu.z (by(try simp only [ae]);omega) (ah cB hs.kp.size)) (by kernel_rfl) fun kC w X bP _=>?_
  replace hs:=bP.s
  repeat' first|with_reducible apply aK|(with_reducible apply gx);exact qF;(· kernel_rfl);rfl;exact qN;intro _ _ _
  refine bP.dZ (iz (s:=r.br) bP.r (hc.mv bP.at) (Cells.mv (by assumption) bP.at) bP.z (by(try simp only [ae]);omega) (ah cB hs.kp.size)) (by kernel_rfl) fun LO w X eG _=>?_
  replace hs:=eG.s
  repeat' first|with_reducible apply aK|(with_reducible apply aM);exact qF;(· kernel_rfl);rfl;intro _ _ _|(with_reducible apply jx)
  refine eG.dZ (De eG.r (hc.mv eG.at) (Cells.mv (by assumption) eG.at) (a3.mv eG.at) eG.z (ah cB hs.kp.size) (by simp only [ae];omega)) (by kernel_rfl) fun Oq w X iP _=>?_
  have h9:=iP
  rw [hE] at hK
  (try simp only [ax] at h9 hK)
  exact hK _ _ _ h9
 ·refine bu.dZ (sS (s:=r.dH) bu.r (hc.mv bu.at) (Cells.mv (by assumption) bu.at) bu.z (by(try simp only [ae]);omega) (ah cB hs.kp.size)) (by kernel_rfl) fun kC w X bP _=>?_
  replace hs:=bP.s
  skip
  have h9:=bP
  rw [hE] at hK
  (try simp only [ax] at h9 hK)
  exact hK _ _ _ h9
 ·refine bu.dZ (iz (s:=r.prev) bu.r (hc.mv bu.at) (Cells.mv (by assumption) bu.at) bu.z (by(try simp only [ae]);omega) (ah cB hs.kp.size)) (by kernel_rfl) fun kC w X bP _=>?_
  replace hs:=bP.s
  repeat' first|with_reducible apply aK|(with_reducible apply gx);exact qF;(· kernel_rfl);rfl;exact qN;intro _ _ _
  refine bP.dZ (iz (s:=r.br) bP.r (hc.mv bP.at) (Cells.mv (by assumption) bP.at) bP.z (by(try simp only [ae]);omega) (ah cB hs.kp.size)) (by kernel_rfl) fun LO w X eG _=>?_
  replace hs:=eG.s
  repeat' first|with_reducible apply aK|(with_reducible apply gx);exact qF;(· kernel_rfl);rfl;exact qN;intro _ _ _
  refine eG.dZ (sS (s:=r.dH) eG.r (hc.mv eG.at) (Cells.mv (by assumption) eG.at) eG.z (by(try simp only [ae]);omega) (ah cB hs.kp.size)) (by kernel_rfl) fun Oq w X iP _=>?_
  replace hs:=iP.s
  repeat' first|with_reducible apply aK|(with_reducible apply aM);exact qF;(· kernel_rfl);rfl;intro _ _ _|(with_reducible apply jx)
  refine iP.dZ (Ho iP.r (hc.mv iP.at) (Cells.mv (by assumption) iP.at) (a2.mv iP.at) iP.z (ah cB hs.kp.size) (by simp only [ae];omega)) (by kernel_rfl) fun vb6 w X A4 _=>?_
  have h9:=A4
  rw [hE] at hK
  (try simp only [ax] at h9 hK)
  exact hK _ _ _ h9
 ·refine bu.dZ (iz (s:=r.br) bu.r (hc.mv bu.at) (Cells.mv (by assumption) bu.at) bu.z (by(try simp only [ae]);omega) (ah cB hs.kp.size)) (by kernel_rfl) fun kC w X bP _=>?_
  replace hs:=bP.s
  repeat' first|with_reducible apply aK|(with_reducible apply aM);exact qF;(· kernel_rfl);rfl;intro _ _ _|(with_reducible apply jx)
  refine bP.dZ (Sa bP.r (hc.mv bP.at) (Cells.mv (by assumption) bP.at) (a4.mv bP.at) bP.z (ah cB hs.kp.size) (by simp only [ae];omega)) (by kernel_rfl) fun LO w X eG _=>?_
  have h9:=eG
  rw [hE] at hK
  (try simp only [ax] at h9 hK)
  exact hK _ _ _ h9
 ·rw [cp] at hE
  have h9:=bu
  rw [hE] at hK
  (try simp only [ax] at h9 hK)
  exact hK _ _ _ h9
def Rec.tZ (r:Rec):Int:=if r.err≠0 then r.err else if 262144<(wD r).length then 2 else 0
theorem Sc {w:World} {X:XS} {r:Rec} {vr vw vp vq vh vd:Value} (h:r.at w X vr vw vp vq vh vd) (ku:r.small) (mQ:r.err=0→(wD r).length≤2^33):
  Ct pg 91 #[r.v vr vw vp vq vh vd] w X nX fun v wa w'=>if r.tZ≠0 then v= .tuple #[.slice none 0 0,I r.tZ] else∃vb,v= .tuple #[vb,I 0]∧Own w' (made wa w') wa.heap.size 5 1 vb ((wD r).map U1):=by
 intro w0 hk
 replace h:=h.mv hk.dA
 have o1:=h.1.one
 have o2:=h.2.1.one
 have o3:=h.2.2.1.one
 have o4:=h.2.2.2.1.one
 have o5:=h.2.2.2.2.1.one
 have o6:=h.2.2.2.2.2.one
 apply zf;unfold uE
 have hs:=aj.init w0
 repeat' first|with_reducible (first|apply aD|apply ak)|(with_reducible apply kG<;>intro _)|(with_reducible apply fP);exact qF;exact qM;(· kernel_rfl);rfl|(with_reducible apply lQ);(case hX=>exact hs.has);intro bx w X iH au dK;have cg:=hs.trans au;replace hs:=aj.eP au.has|(refine dt (Gh (r:=r) (h.mv (cg.trans hs).mv) ku) (by kernel_rfl) hs.has fun w X au=>?_;replace hs:=hs.trans au)
 ·have e:r.tZ=r.err:=if_pos (by assumption)
  exact aq (cg.trans hs) fun wa hk=>by dsimp only;rw [e,if_pos (by assumption)]
 ·have Da:r.err=0:=by assumption
  have k3:=mQ Da
  refine dk wC (by kernel_rfl) hs.has ?_
  rintro v wa w2 X2 ⟨wb,rfl,hW⟩ hle hU b6
  have Jt:=cg.trans (hs.trans b6)
  have mF:=dK.lt
  have Ot:=hs.kp.size
  have xp:=cg.kp.size
  have hwb:=hW.box.1
  have ya:=dK.since (hs.trans b6)
  refine gg (by kernel_rfl) ?_
  refine lQ Jt.has fun cb w3 X3 hcb cw tn=>?_
  have Db:=Jt.trans cw
  have Dc:=ya.since cw
  obtain⟨Z,Dd⟩: ∃Z:XS,Z=fun k=>k=bx∨k=cb∨aW w0 k:=⟨_,rfl⟩
  have afA:wa.heap.size≤wb∧wb<w2.heap.size:=hwb
  have hZ:oh Z X3 wb (.slice none 0 0):=fun k ai=>by
   rw [Dd] at ai
   refine⟨?_,fun hf=>?_⟩
   ·rcases ai with rfl|rfl|ai
    ·exact Dc.1
    ·exact tn.1
    ·exact Db.sub k ai
   ·rcases hf with hf|hf
    ·rcases ai with e|e|e
     ·omega
     ·omega
     ·have:k<w0.heap.size:=e
      omega
    ·cases hf
  have hcC:Cells w3 Z cb 0 (iZ wb):=bJ.cells (ty:=175) ⟨by rw [Dd];exact .inr (.inl rfl),tn.2⟩
  have hxC:bJ w3 Z bx (r.l vr vw vp vq vh vd) 117:=⟨by rw [Dd];exact .inl rfl,Dc.2⟩
  have haC:r.at w3 Z vr vw vp vq vh vd:=h.mv fun k ai hl=>⟨by rw [Dd];exact .inr (.inr ai),Db.kp.block k ai⟩
  have Ju:Wr w3 X3 wa.heap.size wb (.slice none 0 0) []:=(hW.mv (Mv.sub hU)).mv cw.mv
  refine xw (Wx Ju hcC hxC haC hZ (by have:=cw.kp.size;omega) (by simpa using k3)) (by kernel_rfl) Db.has (fun q hq=>by
   rcases hq with rfl|hq
   ·exact Ju.box.1
   ·cases hq) fun v tY w4 X4 hq sY ml afB tW=>?_
  obtain⟨rfl,Cc,hW4⟩:=hq
  have fw:=Db.ej tW fun k ai hf=>by
   have h0:k<w0.heap.size:=ai
   rcases hf with hf|hf
   ·omega
   ·cases hf
  have hW5:Wr w4 X4 wa.heap.size wb Cc (wD r):=hW4.mv (Mv.sub fun k ai=>by
   rcases ai with(ai|ai)|ai
   ·rw [ai];exact tW.sub _ Ju.box.1
   ·cases ai
   ·exact ml k ai)
  refine dk (Cd hW5 (by omega)) (by kernel_rfl) fw.has ?_
  rintro v5 E3 w5 X5 rn zk sZ o9
  have hsC:=fw.trans o9
  have ho:Own w5 X5 w0.heap.size 5 1 v5 ((wD r).map U1):=rn.up sZ (by have:=fw.kp.size;omega)
  clear hs cg
  have hs:=hsC
  have ov:=ho.sl.one
  have hl:(List.map U1 (wD r)).length=(wD r).length:=aS _
  repeat' first|with_reducible (first|apply aD|apply ak)|(with_reducible apply kF<;>intro _)|(with_reducible apply bS);exact qO;(· kernel_rfl)
  ·have e:r.tZ=2:=by unfold Rec.tZ;rw [if_neg (by omega),if_pos (by omega)]
   exact aq hs fun wb aR=>by dsimp only;rw [e,if_pos (by omega)]
  ·have e:r.tZ=0:=by unfold Rec.tZ;rw [if_neg (by omega),if_neg (by omega)]
   exact aq hs fun wb aR=>by
    dsimp only
    rw [e,if_neg (by omega)]
    exact⟨v5,rfl,(ho.kp aR).tight⟩
def Ab (n:Int):Prop:= -9223372036854775808≤n∧n<9223372036854775808
theorem Xv {n:Int} (h:Ab n) (h0:0≤n):(rF n:Int)=2*n:=by
 unfold Ab at h;unfold rF;rw [if_neg (by omega)];omega
theorem Xw {n:Int} (h:Ab n) (h0:n<0):(rF n:Int)= -1-2*n:=by
 unfold Ab at h;unfold rF;rw [if_pos h0];omega
theorem Xx {u:Nat} (h:u<128):nU u=[u]:=by rw [nU,if_pos h]
theorem Xy {u:Nat} (h: ¬u<128):nU u=(u % 128+128)::nU (u/128):=by rw [nU,if_neg h]
section
variable {P : Program} {X : XS} {w : World} {N : Value → Prop} {t : TypeId}
theorem afC: ∀b:Nat,b<256→(aP 8 (b:Int)&&& aP 8 127).toNat=b % 128:=by decide+kernel
theorem ab6 {b:Nat} (hb:b<256) (h:N (.int .u8 ((b % 128:Nat):Int))):aa P X w (binOp .and t (.int .u8 (b:Int)) (.int .u8 127)) N:=
 Kg (by
  have e:IntKind.u8.wrap (aP IntKind.u8.bits (b:Int)&&& aP IntKind.u8.bits 127).toNat=((b % 128:Nat):Int):=by
   rw [C8]
   have:=afC b hb
   show((aP 8 (b:Int)&&& aP 8 127).toNat:Int) % 256=_
   rw [this];omega
  rw [e];exact h)
theorem afD {u:Nat} (hu:u<18446744073709551616) (h:N (.int .u64 ((u % 2:Nat):Int))):aa P X w (binOp .and t (.int .u64 (u:Int)) (.int .u64 1)) N:=
 Kg (by
  have e:IntKind.u64.wrap (aP IntKind.u64.bits (u:Int)&&& aP IntKind.u64.bits 1).toNat=((u % 2:Nat):Int):=by
   rw [wrap64]
   have h1:(aP 64 (u:Int))=kq 64 u:=by simp
   have h2:(aP 64 1)=kq 64 1:=by decide
   show((aP 64 (u:Int)&&& aP 64 1).toNat:Int) % 18446744073709551616=_
   rw [h1,h2,BitVec.toNat_and,fU,fU,fe (by omega:u<2^64)]
   have:u&&& 1 % 2^64=u % 2:=Nat.and_one_is_mod u
   rw [this];omega
  rw [e];exact h)
theorem afE {a b:Int} (h1: -9223372036854775808≤a*b) (h2:a*b<9223372036854775808) (h:N (I (a*b))):aa P X w (binOp .mul t (I a) (I b)) N:=
 Pn (by
  have e:IntKind.i64.wrap (a*b)=a*b:=by
   simp only [kr,jh,gT]
   simp
   omega
  rw [e];exact h)
theorem afF (k:Nat):2^(7*k)=128^k:=by rw [Nat.pow_mul]
theorem afG {c k:Nat} {z:Int} (hz:z=7*(k:Int)) (hk:k≤9) (hc:c*128^k<18446744073709551616) (h:N (.int .u64 ((c*128^k:Nat):Int))):aa P X w (binOp .shl t (.int .u64 (c:Int)) (I z)) N:=
 Kf (by omega) (by
  rw [wrap64]
  have e:((c:Int)*2^min z.toNat IntKind.u64.bits) % 18446744073709551616=((c*128^k:Nat):Int):=by
   have h1:min z.toNat IntKind.u64.bits=7*k:=by
    show min z.toNat 64=7*k
    omega
   rw [h1]
   have h2:(2:Int)^(7*k)=((128^k:Nat):Int):=by rw [←afF];simp
   rw [h2,←Int.natCast_mul]
   omega
  rw [e];exact h)
theorem aef {c k:Nat} {z:Int} (hz:z=7*(k:Int)) (hk:k≤9) (lS:c<256) (hc:c*128^k<18446744073709551616) (h:N (.int .u64 ((c*128^k:Nat):Int))):aa P X w (binOp .shl t (.int .u64 (IntKind.u64.wrap (c:Int))) (I z)) N:=by
 have e:IntKind.u64.wrap (c:Int)=c:=by rw [wrap64];omega
 rw [e];exact afG hz hk hc h
theorem aaC {a c k:Nat} (ha:a<2^k):a|||c*2^k=a+c*2^k:=by
 have:=pA ha c
 rw [Nat.or_comm,Nat.add_comm,wB]
 exact this.symm
theorem aeg {a c k:Nat} (ha:a<128^k) (dh:a+c*128^k<18446744073709551616) (h:N (.int .u64 ((a+c*128^k:Nat):Int))):aa P X w (binOp .or t (.int .u64 (a:Int)) (.int .u64 ((c*128^k:Nat):Int))) N:=
 Jp (by
  have e:IntKind.u64.wrap (aP IntKind.u64.bits (a:Int)|||aP IntKind.u64.bits ((c*128^k:Nat):Int)).toNat=((a+c*128^k:Nat):Int):=by
   rw [wrap64]
   have h1:(aP 64 (a:Int))=kq 64 a:=by simp
   have h2:(aP 64 ((c*128^k:Nat):Int))=kq 64 (c*128^k):=by rw [jy]
   show((aP 64 (a:Int)|||aP 64 ((c*128^k:Nat):Int)).toNat:Int) % 18446744073709551616=_
   rw [h1,h2,yW,fU,fU,fe (by omega:a<2^64),fe (by omega:c*128^k<2^64)]
   have:a|||c*128^k=a+c*128^k:=by rw [←afF] at ha⊢;exact aaC ha
   rw [this];omega
  rw [e];exact h)
theorem afH {u:Nat} (h:N (.int .u64 ((u/2:Nat):Int))):aa P X w (binOp .shr t (.int .u64 (u:Int)) (.int .u64 1)) N:=
 Bs (by omega) (by
  have e:((u:Int)).fdiv (2^min (1:Int).toNat IntKind.u64.bits)=((u/2:Nat):Int):=by
   show((u:Int)).fdiv 2=_
   rw [mI _ (by decide)];omega
  rw [e];exact h)
theorem Su {u:Nat} (hu:u<9223372036854775808):IntKind.i64.wrap (u:Int)=u:=by
 simp only [kr,jh,gT]
 simp
 omega
theorem afI {u:Nat} (hu:u<9223372036854775808) (h:N (I (-1-(u:Int)))):aa P X w (aY .xor (I (IntKind.i64.wrap (u:Int)))) N:=by
 rw [Su hu]
 refine b9 (v:=I (-1-(u:Int))) (fun wa=>?_) h
 have key:(aP 64 (-1)^^^aP 64 (u:Int)).toNat=18446744073709551615-u:=by
  have h1:aP 64 (-1)=z6 64:=by decide
  have h2:(aP 64 (u:Int))=kq 64 u:=by simp
  rw [h1,h2,vM,x7,fU,fe (by omega)]
 have hk:(aY .xor (I (u:Int))).run P wa= .ok (I (IntKind.i64.wrap (aP 64 (-1)^^^aP 64 (u:Int)).toNat)) wa:=by
  simp only [aY,zh,gT,jh]
  rfl
 rw [hk,key]
 have:IntKind.i64.wrap ((18446744073709551615-u:Nat):Int)= -1-(u:Int):=by
  simp only [kr,jh,gT]
  simp
  omega
 rw [this]
end
structure qv (w:World) (X:XS) (rb:Nat) (vb:Value) (at_:Nat) (pl:Int) (bs:List Nat):Prop where
 box:bJ w X rb [vb,I at_,I 0,I pl] 223
 ow:Ow w X 5 1 vb (bs.map U1)
 le:at_≤bs.length
 sz:bs.length≤2^40
 lt: ∀b∈bs,b<256
theorem qv.mv {w w':World} {X Y:XS} {rb at_:Nat} {vb:Value} {pl:Int} {bs:List Nat} (h:qv w X rb vb at_ pl bs) (m:Mv X w Y w'):qv w' Y rb vb at_ pl bs:=⟨h.box.mv m,h.ow.mv m,h.le,h.sz,h.lt⟩
theorem qv.next {w w':World} {X X':XS} {rb at_ mq:Nat} {vb:Value} {pl pl':Int} {bs:List Nat} (h:qv w X rb vb at_ pl bs) (c:fO (fun k=>k=rb) X w X' w') (hr:bJ w' X' rb [vb,I mq,I 0,I pl'] 223) (hl:mq≤bs.length):
  qv w' X' rb vb mq pl' bs:=⟨hr,h.ow.ej c fun g hg e=>h.ow.dS h.box (by kernel_rfl) (e▸hg),hl,h.sz,h.lt⟩
theorem Hp {w:World} {X:XS} {rb at_:Nat} {vb:Value} {pl:Int} {bs tl:List Nat} {n:Int} (h:qv w X rb vb at_ pl bs) (he:bs.drop at_=encI n++tl) (hn:Ab n):
  Ct pg 288 #[ptr rb 0,I at_] w X nX fun v _ _=>v= .tuple #[I n,I ((at_+(encI n).length:Nat):Int),B true]:=by
 intro w0 hk
 replace h:=h.mv hk.dA
 have hb:=h.box
 have mr:=h.ow.sl
 have eu:=h.sz
 have hz:=aaB n
 apply ER;unfold wO
 have hs:=aj.init w0
 refine Eh (fun m a b c w X=> ∃(k acc:Nat),a=I ((at_+k:Nat):Int)∧b= .int .u64 (acc:Int)∧c=B false∧m=10-k∧k≤9∧acc=rF n % 128^k∧(k=0∨128^k≤rF n)∧bs.drop (at_+k)=nU (rF n/128^k)++tl∧
  (encI n).length=k+(nU (rF n/128^k)).length∧aj (aW w0) w0 X w) 10 ⟨0,0,by simp,rfl,rfl,rfl,by omega,by simp [Nat.mod_one],.inl rfl,by simpa [encI] using he,by simp [encI],hs⟩ ?_
 clear hs
 rintro m a b c w X ⟨k,acc,rfl,rfl,rfl,rfl,aR,MR,kX,hd,hlen,hs⟩
 have hp:0<128^k:=Nat.pow_pos (by decide)
 have hal:acc<128^k:=by rw [MR];exact Nat.mod_lt _ hp
 generalize hq:rF n/128^k=q at hd hlen
 have hzq:rF n=acc+q*128^k:=by rw [MR,←hq,wB];exact(Nat.mod_add_div _ _).symm
 obtain⟨c,r,Xz,QQ⟩: ∃c r,nU q++tl=c::r∧((q<128∧c=q)∨(¬q<128∧c=q % 128+128∧r=nU (q/128)++tl)):=by
  by_cases h1:q<128
  ·exact⟨q,tl,by rw [Xx h1];rfl,.inl ⟨h1,rfl⟩⟩
  ·exact⟨_,_,by rw [Xy h1];rfl,.inr ⟨h1,rfl,rfl⟩⟩
 rw [Xz] at hd
 have hx:bs[at_+k]? =some c:=by
  have:=congrArg (fun l:List Nat=>l[0]?) hd
  simpa using this
 have dh:at_+k<bs.length:=(List.getElem?_eq_some_iff.1 hx).1
 have ahb:=h.lt c (bg hx)
 have afJ:k=9→q≤1:=fun e=>by
  subst e
  have:q*128^9<18446744073709551616:=by omega
  omega
 have m6:c % 128=q % 128:=by rcases QQ with⟨h1,rfl⟩|⟨h1,rfl,_⟩<;>omega
 have mF:c % 128*128^k≤q*128^k:=dM _ (by rw [m6];exact Nat.mod_le _ _)
 have Nq:k=9→c % 128≤1:=fun e=>by have:=afJ e;omega
 have afK:q<128→(encI n).length=k+1∧c=q:=fun h1=>⟨by rw [hlen,Xx h1];rfl,by rcases QQ with⟨_,e⟩|⟨h2,_⟩;exact e;exact absurd h1 h2⟩
 have sG:c=0→k=0:=fun e=>by
  rcases kX with h1|h1
  ·exact h1
  ·have:1≤q:=by rw [←hq];exact Nat.div_pos h1 hp
   rcases QQ with⟨_,e2⟩|⟨_,e2,_⟩<;>omega
 have LP:k=9→c<128:=fun e=>by
  have:=afJ e
  rcases QQ with⟨_,e2⟩|⟨h2,_,_⟩<;>omega
 have hS:c<128→acc+c % 128*128^k=rF n∧(encI n).length=k+1:=fun h1=>by
  have h2:q<128:=by rcases QQ with⟨h2,_⟩|⟨_,h2,_⟩<;>omega
  rw [m6,fe h2]
  exact⟨hzq.symm,(afK h2).1⟩
 have CI:c<128→(acc+c % 128*128^k) % 2=1→(-1-(((acc+c % 128*128^k)/2:Nat):Int))=n:=fun h1 h2=>by
  rw [(hS h1).1] at h2⊢
  by_cases h3:n<0
  ·have:=Xw hn h3;omega
  ·have:=Xv hn (by omega);omega
 have Tv:c<128→ ¬(acc+c % 128*128^k) % 2=1→IntKind.i64.wrap (((acc+c % 128*128^k)/2:Nat):Int)=n:=fun h1 h2=>by
  rw [(hS h1).1] at h2⊢
  rw [Su (by omega)]
  by_cases h3:n<0
  ·have:=Xw hn h3;omega
  ·have:=Xv hn (by omega);omega
 have hv3:c<128→((at_+k:Nat):Int)+1=((at_+(encI n).length:Nat):Int):=fun h1=>by rw [(hS h1).2];omega
 repeat' first|(with_reducible refine dC ?_ ?_);omega|(with_reducible refine qU ?_ ?_);omega|(with_reducible refine lN ?_ ?_);omega|(with_reducible refine Ei ?_ ?_);omega|with_reducible (first|apply aD|apply ak|apply dz|apply dG|apply cL|apply cM|apply cD|apply iB|apply cu|apply bE|apply bt|apply gv|apply aK)|(with_reducible apply gF<;>intro _)|(with_reducible apply mG<;>intro _)|(with_reducible apply aM);exact qF;(· kernel_rfl);rfl;intro _ _ _|(with_reducible apply aZ);exact qF;exact qM;(· kernel_rfl);rfl|(with_reducible apply bS);exact qO;(· kernel_rfl)|((with_reducible apply e7);exact qO;(try (case hz=>rfl));(case hr=>exact qR);(try (case hz=>omega));(case ht=>kernel_rfl);(case hs=>kernel_rfl);intro _ _ _)|(with_reducible apply cx);omega;omega|(with_reducible apply kY);omega;omega|(with_reducible apply pq);(· kernel_rfl);(· kernel_rfl)|with_reducible apply dY|(with_reducible refine ab6 ahb ?_)|(with_reducible refine afE (by omega) (by omega) ?_)|((with_reducible refine aef (k:=k) (by omega) aR (by omega) (by omega) ?_))|((with_reducible refine aeg hal (by omega) ?_))|(with_reducible apply afH)|((with_reducible refine afD (by omega) ?_))|((with_reducible refine afI (by omega) ?_))|((first|(with_reducible refine aq hs ?_)|(with_reducible refine aq (cg.trans hs) ?_));intro wa hk;(rw [CI (by omega) (by omega),hv3 (by omega)]))|((first|(with_reducible refine aq hs ?_)|(with_reducible refine aq (cg.trans hs) ?_));intro wa hk;(rw [Tv (by omega) (by omega),hv3 (by omega)]))
 have eI: ¬q<128:=fun h1=>by have:=(afK h1).2;omega
 obtain⟨H9,Aw⟩:c=q % 128+128∧r=nU (q/128)++tl:=by
  rcases QQ with⟨h1,_⟩|⟨_,h2,h3⟩
  ·exact absurd h1 eI
  ·exact⟨h2,h3⟩
 have xE:128^(k+1)=128^k*128:=jg ..
 have hqd:rF n/128^(k+1)=q/128:=by rw [xE,←nT,hq]
 refine BN (10-(k+1)) (by omega) ⟨k+1,acc+c % 128*128^k,by rw [show((at_+(k+1):Nat):Int)=((at_+k:Nat):Int)+1 by omega],rfl,rfl,rfl,by omega,?_,.inr ?_,?_,?_,hs⟩
 ·rw [xE,Nat.mod_mul,hq,m6,MR,wB (128^k)]
 ·rw [xE,hzq]
  have:128*128^k≤q*128^k:=dM _ (by omega)
  omega
 ·rw [hqd,←Aw,←qI,←gy,hd];rfl
 ·rw [hqd,hlen,Xy eI,bC];omega
theorem afL {P:Program} {X:XS} {w:World} {t e k:Nat} {v:Value} {z z':Int} {i j:Nat} {rows:List (List Value)} {N:Value→Prop} (h:Ow w X e k v rows) (dr:rows≠[]) (hz:z=i) (zE:z'=j) (hij:i≤j) (hj:j≤rows.length)
  (ht:P.underlying t=some (.slice (P.elem t))) (hs:(P.info? (P.elem t)).map (·.size)=some k)
  (n: ∀b o cap,Cells w X b o ((rows.drop i).take (j-i)).flatten→j-i≤cap→cap≤2^63-1→N (.slice (some ⟨b,o,none⟩) (j-i) cap)):aa P X w (Instr.sliceAt t v (some (.int .i64 z)) (some (.int .i64 z')) none) N:=by
 subst hz;subst zE
 obtain⟨h1,⟨rfl,rfl⟩|⟨g,off,cap,cur,rfl,hx,hg,tE,m6,kj,uN⟩⟩:=h
 ·exact absurd rfl dr
 have hq: ∃inf,P.info? (P.elem t)=some inf∧inf.size=k:=by
  cases hq:P.info? (P.elem t)with
  |none=>simp [hq] at hs
  |some inf=>exact⟨inf,rfl,by simpa [hq] using hs⟩
 obtain⟨inf,hq,eu⟩:=hq
 have rX:cap≤2^63-1:=ah m6 (by decide)
 have oy: ∀wa:World,(Instr.sliceAt t (.slice (some ⟨g,off,none⟩) rows.length cap) (some (.int .i64 (i:Int))) (some (.int .i64 (j:Int))) none).run P wa= .ok (.slice (some ⟨g,if cap=i then off else off+i*k,none⟩) (j-i) (cap-i)) wa:=fun wa=>by
  rw [run_sliceAt_slice wa t _ _ _ _ ht,run_slice_lh wa t _ _ cap ht .i64 .i64 i j (by omega) (by omega) (by omega)]
  by_cases hc:cap=i
  ·simp [sizeOf,typeInfo,hq,eu,sliced,hc]
  ·simp [sizeOf,typeInfo,hq,eu,sliced,Addr.add_lit,hc]
 refine b9 oy (n _ _ _ ⟨hx,cur,e,(0,0),hg,fun q u hu=>?_⟩ (by omega) (by omega))
 have hr: ∀r∈rows.drop i,r.length=k:=fun r hr=>h1 r (List.mem_of_mem_drop hr)
 rw [fR.jU (j-i) hr,fR.zM i h1,←uN] at hu
 have hql:q<(j-i)*k:=by
  have:=(List.getElem?_eq_some_iff.1 hu).1
  simp only [bQ] at this
  omega
 rw [gb hql,fu] at hu
 have mP:i*k+q<rows.length*k:=by
  have h3:i*k+(j-i)*k=j*k:=by rw [←Nat.add_mul];congr 1;omega
  have h4:=dM k hj
  omega
 rw [gb mP,fu] at hu
 rw [Array.getElem?_toList] at hu
 by_cases hc:cap=i
 ·exfalso
  have:j-i=0:=by omega
  rw [this] at hql;simp at hql
 ·rw [if_neg hc]
  rw [←qI] at hu
  exact hu
def MS (f:FuncId) (args:Array Value) (w:World) (X:XS) (rb:Nat) (vb:Value) (mq:Nat) (pl:Int) (res:Value):Prop:=
 Ct pg f args w X (fun k=>k=rb) fun v _ w'=>v=res∧bJ w' (fun k=>k=rb) rb [vb,I mq,I 0,I pl] 223
theorem qv.ft {w:World} {X:XS} {rb at_:Nat} {vb:Value} {pl:Int} {bs:List Nat} {w0:World} (h:qv w X rb vb at_ pl bs) (hk:Kp X w w0):Ft w0 (fun k=>k=rb) w0 (aW w0) (fun k=>k=rb):=
 Ft.init fun k e=>by subst e;exact(h.mv hk.dA).box.1
theorem ab7 {w:World} {X:XS} {rb at_:Nat} {vb:Value} {pl:Int} {bs tl:List Nat} {n:Int} (h:qv w X rb vb at_ pl bs) (he:bs.drop at_=encI n++tl) (hn:Ab n):
  MS 207 #[ptr rb 0] w X rb vb (at_+(encI n).length) pl (I n):=by
 intro w0 hk
 have hT:=h.ft hk
 replace h:=h.mv hk.dA
 have hb:=h.box
 apply Jf;unfold zV
 repeat' first|(with_reducible refine fL ?_ ?_);omega|with_reducible (first|apply ak|apply aK)|(with_reducible apply aM);exact qF;(· kernel_rfl);rfl;intro _ _ _|(with_reducible apply aZ);exact qF;exact qM;(· kernel_rfl);rfl
 refine dt (Hp h he hn) (by kernel_rfl) hT.s.has fun w1 X1 au=>?_
 have cO:=hT.since au
 have mF:=hb.since au
 repeat' first|with_reducible (first|apply aD|apply aK)|(with_reducible apply aM);exact qF;(· kernel_rfl);rfl;intro _ _ _|(with_reducible apply fp);rfl|with_reducible apply dY
 refine lB (o:=1) mF (by omega) (by kernel_rfl) (by simp) rfl cO.s.has fun w2 X2 c2 lE=>?_
 have bM:Ft w0 (fun k=>k=rb) w2 X2 (fun k=>k=rb):=cO.ej c2 (fun k ai=>ai) fun k ai=>.inl ai
 skip
 exact bM.fin fun wa aR=>⟨rfl,rfl,by rw [aR.block _ lE.1];exact lE.2⟩
theorem Gp {w:World} {X:XS} {rb at_:Nat} {vb:Value} {pl most e:Int} {bs tl:List Nat} {n:Nat} (h:qv w X rb vb at_ pl bs) (he:bs.drop at_=encI n++tl) (hn:(n:Int)≤most) (hm:most<2^62):
  Ct pg 293 #[ptr rb 0,I most,I e] w X nX fun v _ _=>v= .tuple #[I n,I ((at_+(encI n).length:Nat):Int),B true]:=by
 intro w0 hk
 replace h:=h.mv hk.dA
 have hb:=h.box
 apply Gb;unfold xW
 have hs:=aj.init w0
 repeat' first|with_reducible apply aK|(with_reducible apply aM);exact qF;(· kernel_rfl);rfl;intro _ _ _|(with_reducible apply aZ);exact qF;exact qM;(· kernel_rfl);rfl
 refine dt (Hp h he (by unfold Ab;omega)) (by kernel_rfl) hs.has fun w1 X1 au=>?_
 have hs:=hs.trans au
 repeat' first|(with_reducible refine dm ?_ ?_);omega|(with_reducible refine lN ?_ ?_);omega|with_reducible (first|apply ak|apply eY)|(with_reducible apply fp);rfl
 exact aq hs fun wa aR=>rfl
theorem Oz {w:World} {X:XS} {rb at_:Nat} {vb:Value} {pl most:Int} {bs tl:List Nat} {n:Nat} (h:qv w X rb vb at_ pl bs) (he:bs.drop at_=encI n++tl) (hn:(n:Int)≤most) (hm:most<2^62):
  MS 215 #[ptr rb 0,I most] w X rb vb (at_+(encI n).length) pl (I n):=by
 intro w0 hk
 have hT:=h.ft hk
 replace h:=h.mv hk.dA
 have hb:=h.box
 apply FZ;unfold xS
 repeat' first|(with_reducible refine fL ?_ ?_);omega|with_reducible (first|apply ak|apply aK)|(with_reducible apply aM);exact qF;(· kernel_rfl);rfl;intro _ _ _|(with_reducible apply aZ);exact qF;exact qM;(· kernel_rfl);rfl
 refine dt (Gp h he hn hm) (by kernel_rfl) hT.s.has fun w1 X1 au=>?_
 have cO:=hT.since au
 have mF:=hb.since au
 repeat' first|with_reducible (first|apply aD|apply aK)|(with_reducible apply aM);exact qF;(· kernel_rfl);rfl;intro _ _ _|(with_reducible apply fp);rfl|with_reducible apply dY
 refine lB (o:=1) mF (by omega) (by kernel_rfl) (by simp) rfl cO.s.has fun w2 X2 c2 lE=>?_
 have bM:Ft w0 (fun k=>k=rb) w2 X2 (fun k=>k=rb):=cO.ej c2 (fun k ai=>ai) fun k ai=>.inl ai
 skip
 exact bM.fin fun wa aR=>⟨rfl,rfl,by rw [aR.block _ lE.1];exact lE.2⟩
theorem Wy {w:World} {X:XS} {rb at_:Nat} {vb:Value} {pl most:Int} {bs tl:List Nat} {n:Nat} (h:qv w X rb vb at_ pl bs) (he:bs.drop at_=encI n++tl) (hn:(n:Int)≤most) (hm:most<2^62):
  MS 347 #[ptr rb 0,I most] w X rb vb (at_+(encI n).length) pl (I n):=by
 intro w0 hk
 have hT:=h.ft hk
 replace h:=h.mv hk.dA
 have hb:=h.box
 apply ES;unfold wP
 repeat' first|(with_reducible refine fL ?_ ?_);omega|with_reducible (first|apply ak|apply aK)|(with_reducible apply aM);exact qF;(· kernel_rfl);rfl;intro _ _ _|(with_reducible apply aZ);exact qF;exact qM;(· kernel_rfl);rfl
 refine dt (Gp h he hn hm) (by kernel_rfl) hT.s.has fun w1 X1 au=>?_
 have cO:=hT.since au
 have mF:=hb.since au
 repeat' first|with_reducible (first|apply aD|apply aK)|(with_reducible apply aM);exact qF;(· kernel_rfl);rfl;intro _ _ _|(with_reducible apply fp);rfl|with_reducible apply dY
 refine lB (o:=1) mF (by omega) (by kernel_rfl) (by simp) rfl cO.s.has fun w2 X2 c2 lE=>?_
 have bM:Ft w0 (fun k=>k=rb) w2 X2 (fun k=>k=rb):=cO.ej c2 (fun k ai=>ai) fun k ai=>.inl ai
 skip
 exact bM.fin fun wa aR=>⟨rfl,rfl,by rw [aR.block _ lE.1];exact lE.2⟩
theorem Uo: ∀l:List Nat,(l.map U1).flatten=l.map fun x:Nat=>Value.int .u8 x
 |[]=>rfl
 |x::l=>by rw [bh,dg,Uo l];rfl
theorem aeh (s:BA):uW (s.data.toList.map nO)=s:=by
 unfold uW
 rw [List.map_map]
 have:(s.data.toList.map (UInt8.ofNat∘nO))=s.data.toList:=by
  conv=>rhs;rw [←List.map_id s.data.toList]
  exact List.map_congr_left fun x _=>by simp
 rw [this]
theorem QR {w:World} {X:XS} {rb at_:Nat} {vb:Value} {pl most:Int} {bs tl:List Nat} {s:BA} (h:qv w X rb vb at_ pl bs) (he:bs.drop at_=kU s++tl) (hn:(s.size:Int)≤most) (hm:most<2^62):
  MS 292 #[ptr rb 0,I most] w X rb vb (at_+(kU s).length) pl (.string s):=by
 intro w0 hk
 have hT:=h.ft hk
 replace h:=h.mv hk.dA
 have hb:=h.box
 have mr:=h.ow.sl
 have eu:=h.sz
 have hle:=h.le
 have hlen:=nV s
 have xl:bs.drop at_=encI s.size++(s.data.toList.map nO++tl):=by rw [he];unfold kU;rw [ax]
 have tq:at_+(encI s.size).length+s.size≤bs.length:=by
  have:=congrArg aB he
  rw [b8,ae,hlen] at this
  omega
 have pC:((bs.map U1).drop (at_+(encI s.size).length)).take s.size=(s.data.toList.map nO).map U1:=by
  rw [←List.map_drop,←List.map_take,←gy,xl,pV,mH (by rw [aS,dy];rfl)]
 have ah5:(bs.map U1)≠[]:=by
  have:=Gk s.size
  intro e
  have h0:=congrArg aB e
  rw [aS,cA] at h0
  omega
 apply HZ;unfold yT
 repeat' first|(with_reducible refine fL ?_ ?_);omega|with_reducible (first|apply ak|apply aK)|(with_reducible apply aM);exact qF;(· kernel_rfl);rfl;intro _ _ _|(with_reducible apply aZ);exact qF;exact qM;(· kernel_rfl);rfl
 refine dt (Gp h xl hn hm) (by kernel_rfl) hT.s.has fun w1 X1 au=>?_
 have cO:=hT.since au
 have mF:=hb.since au
 have ajm:=mr.since au
 repeat' first|(with_reducible refine lN ?_ ?_);omega|with_reducible (first|apply ak|apply eY|apply aK)|(with_reducible apply aM);exact qF;(· kernel_rfl);rfl;intro _ _ _|(with_reducible apply aZ);exact qF;exact qM;(· kernel_rfl);rfl|(with_reducible apply bS);exact qO;(· kernel_rfl)|(with_reducible apply fp);rfl|(with_reducible apply cx);omega;omega|(with_reducible apply kY);omega;omega
 refine lB (o:=1) mF (by omega) (by kernel_rfl) (by simp) rfl cO.s.has fun w2 X2 c2 lE=>?_
 have bM:Ft w0 (fun k=>k=rb) w2 X2 (fun k=>k=rb):=cO.ej c2 (fun k ai=>ai) fun k ai=>.inl ai
 have h2:=(h.mv au.mv).next (mq:=at_+(encI s.size).length+s.size) c2 (by rw [Int.natCast_add];exact lE) tq
 repeat' first|with_reducible apply aK|(with_reducible apply aM);exact qF;(· kernel_rfl);rfl;intro _ _ _|(with_reducible apply aZ);exact qF;exact qM;(· kernel_rfl);rfl
 refine afL h2.ow ah5 rfl (j:=at_+(encI s.size).length+s.size) (by omega) (by omega) (by rw [aS];exact tq) (by kernel_rfl) (by kernel_rfl) fun b o cap hc _ _=>?_
 have e:(at_+(encI s.size).length+s.size)-(at_+(encI s.size).length)=s.size:=by omega
 rw [e,pC,Uo] at hc
 refine Kr (e:=5) (by rw [e,aS,dy];rfl) hc (by kernel_rfl) (by kernel_rfl) (by kernel_rfl) bM.s.has fun w3 X3 cw=>?_
 have cP:=bM.since cw
 rw [aeh]
 skip
 have e2:((at_+(encI s.size).length:Nat):Int)+s.size=((at_+(kU s).length:Nat):Int):=by rw [hlen];omega
 exact cP.fin fun wa aR=>⟨rfl,rfl,by rw [aR.block _ (cw.sub _ lE.1),cw.kp.block _ lE.1,←e2];exact lE.2⟩
section
variable {P : Program} {X : XS} {w : World} {N : Value → Prop} {t : TypeId}
theorem afM {a:Nat} (ha:a*256<18446744073709551616) (h:N (.int .u64 ((a*256:Nat):Int))):aa P X w (binOp .shl t (.int .u64 (a:Int)) (.int .u64 8)) N:=
 Kf (by omega) (by
  rw [wrap64]
  have e:((a:Int)*2^min (8:Int).toNat IntKind.u64.bits) % 18446744073709551616=((a*256:Nat):Int):=by
   have h1:min (8:Int).toNat IntKind.u64.bits=8:=by decide
   rw [h1]
   omega
  rw [e];exact h)
theorem ahc {a c:Nat} (hc:c<256) (dh:a*256+c<18446744073709551616) (h:N (.int .u64 ((a*256+c:Nat):Int))):aa P X w (binOp .or t (.int .u64 ((a*256:Nat):Int)) (.int .u64 (c:Int))) N:=
 Jp (by
  have e:IntKind.u64.wrap (aP IntKind.u64.bits ((a*256:Nat):Int)|||aP IntKind.u64.bits (c:Int)).toNat=((a*256+c:Nat):Int):=by
   rw [wrap64]
   have h1:(aP 64 ((a*256:Nat):Int))=kq 64 (a*256):=by rw [jy]
   have h2:(aP 64 (c:Int))=kq 64 c:=by rw [jy]
   show((aP 64 ((a*256:Nat):Int)|||aP 64 (c:Int)).toNat:Int) % 18446744073709551616=_
   rw [h1,h2,yW,fU,fU,fe (by omega:a*256<2^64),fe (by omega:c<2^64)]
   have:=pA (i:=8) (b:=c) (by omega) a
   rw [show(2:Nat)^8*a=a*256 by omega] at this
   rw [←this];omega
  rw [e];exact h)
theorem afN {a c:Nat} (hc:c<256) (dh:a*256+c<18446744073709551616) (h:N (.int .u64 ((a*256+c:Nat):Int))):aa P X w (binOp .or t (.int .u64 ((a*256:Nat):Int)) (.int .u64 (IntKind.u64.wrap (c:Int)))) N:=by
 have e:IntKind.u64.wrap (c:Int)=c:=by rw [wrap64];omega
 rw [e];exact ahc hc dh h
end
theorem aaD (u:Nat):Pure pg 295 #[.int .u64 (u:Int)] (.float .f64 (canon u)):=by
 intro w0
 apply aaw;unfold QM
 have hs:=aj.init w0
 repeat' first|((with_reducible refine iO (LI _) ?_ hs.has ?_);(· kernel_rfl);intro w X au;replace hs:=hs.trans au)|(with_reducible refine fI hs ?_);rfl|((with_reducible refine xm (T6 _) hs.has ?_);intro w X au;replace hs:=hs.trans au)
theorem LQ (x:Nat):canon (canon x)=canon x:=by
 unfold canon
 by_cases h:CE x x=true
 ·rw [if_pos h,if_pos h]
 ·rw [if_neg h]
  split<;>rfl
theorem Wz (u i:Nat):u/256^(i+1)*256+Cb u i=u/256^i:=by
 unfold Cb
 rw [jg,←nT]
 omega
theorem YQ {w:World} {X:XS} {rb at_:Nat} {vb:Value} {pl:Int} {bs tl:List Nat} {x:Nat} (h:qv w X rb vb at_ pl bs) (he:bs.drop at_=sc x++tl) (hx:canon x<18446744073709551616):
  MS 220 #[ptr rb 0] w X rb vb (at_+(sc x).length) pl (.float .f64 (canon x)):=by
 intro w0 hk
 have hT:=h.ft hk
 replace h:=h.mv hk.dA
 have hb:=h.box
 have mr:=h.ow.sl
 have eu:=h.sz
 have hle:=h.le
 have sL:=Gj x
 have tq:at_+8≤bs.length:=by
  have:=congrArg aB he
  rw [b8,ae,sL] at this
  omega
 have G4: ∀i,i<8→bs[at_+i]? =some (Cb (canon x) i):=fun i hi=>by
  have:=congrArg (fun l:List Nat=>l[i]?) he
  simp only [fu] at this
  rw [this,List.getElem?_append_left (by omega)]
  unfold sc
  rw [List.getElem?_map,List.getElem?_range hi];rfl
 apply F9;unfold xU
 repeat' first|(with_reducible refine dm ?_ ?_);omega|(with_reducible refine fL ?_ ?_);omega|with_reducible (first|apply ak|apply aK)|(with_reducible apply aM);exact qF;(· kernel_rfl);rfl;intro _ _ _|(with_reducible apply aZ);exact qF;exact qM;(· kernel_rfl);rfl|(with_reducible apply bS);exact qO;(· kernel_rfl)|(with_reducible apply kY);omega;omega
 refine iN (fun m a b w X=> ∃i:Nat,a=I ((i:Int)-1)∧b= .int .u64 ((canon x/256^i:Nat):Int)∧m=i∧i≤8∧Ft w0 (fun k=>k=rb) w X (fun k=>k=rb)∧qv w X rb vb at_ pl bs) 8 ⟨8,rfl,?_,rfl,Nat.le_refl _,hT,h⟩ ?_
 ·have:canon x/256^8=0:=Nat.div_eq_of_lt (by omega)
  rw [this];rfl
 clear hT h hb mr
 rintro m a b w X ⟨i,rfl,rfl,rfl,hi,hT,h⟩
 have hb:=h.box
 have mr:=h.ow.sl
 have hs:=aj.eP hT.s.has
 cases m with
 |zero=>
  rw [Nat.pow_zero,Nat.div_one]
  repeat' first|(with_reducible refine Ei ?_ ?_);omega|with_reducible apply ak
  refine iO (aaD (canon x)) (by kernel_rfl) hT.s.has fun w1 X1 au=>?_
  rw [LQ]
  refine iO (x6 (canon x)) (by kernel_rfl) (hT.since au).s.has fun w2 X2 b6=>?_
  rw [LQ]
  have bM:=(hT.since au).since b6
  have qt:=(hb.since au).since b6
  repeat' first|(with_reducible refine fL ?_ ?_);omega|with_reducible (first|apply ak|apply aK)|(with_reducible apply aM);exact qF;(· kernel_rfl);rfl;intro _ _ _|(with_reducible apply aZ);exact qF;exact qM;(· kernel_rfl);rfl|(with_reducible apply cx);omega;omega
  refine lB (o:=1) qt (by omega) (by kernel_rfl) (by simp) rfl bM.s.has fun w3 X3 c3 yE=>?_
  have cP:Ft w0 (fun k=>k=rb) w3 X3 (fun k=>k=rb):=bM.ej c3 (fun k ai=>ai) fun k ai=>.inl ai
  skip
  exact cP.fin fun wa aR=>⟨rfl,rfl,by rw [aR.block _ yE.1,sL,Int.natCast_add];exact yE.2⟩
 |succ i=>
  have iH:=G4 i (by omega)
  have QS:Cb (canon x) i<256:=Nat.mod_lt _ (by decide)
  have pR:=Wz (canon x) i
  have dh:canon x/256^i<18446744073709551616:=Nat.lt_of_le_of_lt (Nat.div_le_self _ _) hx
  repeat' first|(with_reducible refine Nw ?_ ?_);omega|with_reducible (first|apply aD|apply aK)|(with_reducible apply aM);exact qF;(· kernel_rfl);rfl;intro _ _ _|(with_reducible apply aZ);exact qF;exact qM;(· kernel_rfl);rfl|((with_reducible apply e7);exact qO;(try (case hz=>rfl));(case hr=>exact qR);(try (case hz=>omega));(case ht=>kernel_rfl);(case hs=>kernel_rfl);intro _ _ _)|(with_reducible apply cx);omega;omega|(with_reducible apply kY);omega;omega|(with_reducible apply pq);(· kernel_rfl);(· kernel_rfl)|(with_reducible refine afM (by omega) ?_)|(with_reducible refine afN QS (by omega) ?_)
  refine iC i (by omega) ⟨i,?_,?_,rfl,by omega,hT,h⟩
  ·rw [show((i+1:Nat):Int)-1-1=(i:Int)-1 by omega]
  ·rw [pR]
theorem QT {w:World} {X:XS} {rb at_:Nat} {vb:Value} {pl:Int} {bs:List Nat} (h:qv w X rb vb at_ pl bs):
  Ct pg 216 #[ptr rb 0] w X nX fun v _ _=>v=I ((bs.length:Int)-at_):=by
 intro w0 hk
 replace h:=h.mv hk.dA
 have hb:=h.box
 have mr:=h.ow.sl
 have eu:=h.sz
 have hle:=h.le
 apply HV;unfold yP
 have hs:=aj.init w0
 repeat' first|(with_reducible refine fL ?_ ?_);omega|with_reducible (first|apply ak|apply aK)|(with_reducible apply aM);exact qF;(· kernel_rfl);rfl;intro _ _ _|(with_reducible apply aZ);exact qF;exact qM;(· kernel_rfl);rfl|(with_reducible apply bS);exact qO;(· kernel_rfl)|(with_reducible apply kY);omega;omega
 exact aq hs fun wa aR=>rfl
theorem yb {w:World} {X:XS} {rb at_:Nat} {vb:Value} {pl:Int} {bs:List Nat} (h:qv w X rb vb at_ pl bs):
  Ct pg 154 #[ptr rb 0] w X nX fun v _ _=>v= .tuple #[I 0,I pl]:=by
 intro w0 hk
 replace h:=h.mv hk.dA
 have hb:=h.box
 apply FR;unfold xN
 have hs:=aj.init w0
 repeat' first|with_reducible apply aK|(with_reducible apply aM);exact qF;(· kernel_rfl);rfl;intro _ _ _|(with_reducible apply aZ);exact qF;exact qM;(· kernel_rfl);rfl
 exact aq hs fun wa aR=>rfl
theorem Uq {w:World} {X:XS} {rb at_:Nat} {vb:Value} {pl:Int} {bs:List Nat} (h:qv w X rb vb at_ pl bs) (he:at_=bs.length):
  Ct pg 90 #[ptr rb 0] w X nX fun v _ _=>v= .tuple #[I 0,I pl]:=by
 intro w0 hk
 replace h:=h.mv hk.dA
 have hb:=h.box
 have mr:=h.ow.sl
 have eu:=h.sz
 apply Jb;unfold zS
 have hs:=aj.init w0
 repeat' first|(with_reducible refine dm ?_ ?_);omega|(with_reducible refine m7 ?_ ?_);omega|with_reducible (first|apply ak|apply dz|apply cM|apply rR|apply bE|apply aK)|(with_reducible apply aM);exact qF;(· kernel_rfl);rfl;intro _ _ _|(with_reducible apply aZ);exact qF;exact qM;(· kernel_rfl);rfl|(with_reducible apply bS);exact qO;(· kernel_rfl)
 refine dt (yb (h.mv hs.mv)) (by kernel_rfl) hs.has fun w1 X1 au=>?_
 have hs:=hs.trans au
 repeat' first|(with_reducible apply fp);rfl
 exact aq hs fun wa aR=>rfl
theorem Ur {w:World} {X:XS} {v0:Value} {bs:List Nat} (h:Sl w X 1 v0 (bs.map U1)) (eu:bs.length≤2^40) (dh: ∀b∈bs,b<256):
  Ct pg 88 #[v0] w X nX fun v wa w'=> ∃rb vb,v=ptr rb 0∧qv w' (made wa w') rb vb 0 0 bs:=by
 intro w0 hk
 replace h:=h.mv hk.dA
 apply KX;unfold AL
 have hs:=aj.init w0
 repeat' first|(with_reducible apply CG);(case hX=>exact hs.has);(case hu=>kernel_rfl);(case hz=>kernel_rfl);intro acc w X au ho;replace hs:=hs.trans au
 refine zK ho hs (fun _ h=>h) (by kernel_rfl) (h.mv hs.mv) (fun r hr u hu=>?_) (by simp;omega) (by simp;omega) fun v1 w1 X1 wE tj Es ajn=>?_
 ·obtain⟨x,_,rfl⟩:=List.mem_map.1 hr
  simp at hu;subst hu;rfl
 clear hs au
 have hs:=wE
 obtain⟨b1,n1,c1,rfl⟩:=tj.sl.form
 repeat' first|(with_reducible apply gg);(· kernel_rfl)|(with_reducible apply lQ);(case hX=>exact hs.has);intro bx w X iH au dK;have cg:=hs.trans au;replace hs:=aj.eP au.has
 have hz:=wE.kp.size
 refine aq cg fun wa aR=>⟨bx,.slice b1 n1 c1,rfl,⟨⟨⟨by omega,?_⟩,?_⟩,?_,aV _,eu,dh⟩⟩
 ·have:=au.has bx dK.1
  have:=aR.size
  omega
 ·rw [aR.block _ dK.1];exact dK.2
 ·exact((tj.since au).kp aR).tight.ow
theorem om {P:Program} {X:XS} {w:World} {N:Value→Prop} {S f fo sz b o:Nat} (hf:fieldInfo P S f=some (fo,sz)) (hz:(sz !=0)=true) (k:N (ptr b (o+fo))):aa P X w (aQ S f fo sz (ptr b o)) N:=by
 unfold aQ
 exact Dr hf (by simpa using hz) k
theorem sd (cs:List Value) (o:Nat) (l:List Value) (h:o+l.length≤cs.length):(cd cs o l).length=cs.length:=by
 unfold cd
 simp only [ae,bQ,b8];omega
theorem Jv (cs:List Value) (o:Nat) (a b:List Value) (h:o+a.length+b.length≤cs.length):cd (cd cs o a) (o+a.length) b=cd cs o (a++b):=by
 unfold cd
 have h1:(cs.take o).length=o:=by rw [bQ];omega
 have e1:(cs.take o++a++cs.drop (o+a.length)).take (o+a.length)=cs.take o++a:=by
  rw [mH (by rw [ae,h1])]
 have e2:(cs.take o++a++cs.drop (o+a.length)).drop (o+a.length+b.length)=cs.drop (o+(a++b).length):=by
  rw [←gy,kL (by rw [ae,h1]),gy,ae]
  congr 1;omega
 rw [e1,e2];simp only [ax]
abbrev afO (rb:Nat):List Value:=[.pointer none,ptr rb 0]
structure RB (w:World) (X:XS) (rb:Nat) (vb:Value) (at_:Nat) (pl:Int) (bs:List Nat) (cb xb:Nat) (cs:List Value) (ty:TypeId):Prop where
 r:qv w X rb vb at_ pl bs
 x:bJ w X xb cs ty
 c:Cells w X cb 0 (afO rb)
 c1:cb≠rb
 c2:cb≠xb
 rx:rb≠xb
 vx: ¬jw vb xb
structure RS (w0 w:World) (X:XS) (rb:Nat) (vb:Value) (at_:Nat) (pl:Int) (bs:List Nat) (cb xb:Nat) (cs:List Value) (ty:TypeId):Prop extends RB w X rb vb at_ pl bs cb xb cs ty where
 t:Ft w0 (fun k=>k=rb∨k=xb) w X (fun k=>k=rb∨k=xb)
def QU (f:FuncId) (args:Array Value) (w:World) (X:XS) (rb:Nat) (vb:Value) (mq:Nat) (pl:Int) (xb:Nat) (nJ:List Value) (ty:TypeId):Prop:=
 Ct pg f args w X (fun k=>k=rb∨k=xb) fun v _ w'=>v= .tuple #[]∧bJ w' (fun k=>k=rb) rb [vb,I mq,I 0,I pl] 223∧bJ w' (fun k=>k=xb) xb nJ ty
section
variable {w0 w wa w' : World} {X X' : XS} {rb at_ mq cb xb : Nat} {vb : Value} {pl : Int} {bs : List Nat} {cs nJ : List Value} {ty : TypeId}
theorem RB.start (h:RB w X rb vb at_ pl bs cb xb cs ty) (hk:Kp X w wa):RS wa wa (aW wa) rb vb at_ pl bs cb xb cs ty:=
 ⟨⟨h.r.mv hk.dA,h.x.mv hk.dA,h.c.mv hk.dA,h.c1,h.c2,h.rx,h.vx⟩,Ft.init fun k e=>by rcases e with rfl|rfl;exact(h.r.mv hk.dA).box.1;exact(h.x.mv hk.dA).1⟩
theorem RS.since (h:RS w0 w X rb vb at_ pl bs cb xb cs ty) (hs:aj X w X' w'):RS w0 w' X' rb vb at_ pl bs cb xb cs ty:=
 ⟨⟨h.r.mv hs.mv,h.x.since hs,h.c.mv hs.mv,h.c1,h.c2,h.rx,h.vx⟩,h.t.since hs⟩
theorem _root_.Go.fR.Cells.ej {F:XS} {b o:Nat} {l:List Value} (h:Cells w X b o l) (c:fO F X w X' w') (hn: ¬F b):Cells w' X' b o l:=by
 obtain⟨hx,cs,t,fr,hb,hc⟩:=h
 exact⟨c.sub b hx,cs,t,fr,by rw [c.block b hx hn];exact hb,hc⟩
theorem RS.ah6 (h:RS w0 w X rb vb at_ pl bs cb xb cs ty) (c:fO (fun k=>k=rb) X w X' w') (hr:bJ w' X' rb [vb,I mq,I 0,I pl] 223) (hl:mq≤bs.length):RS w0 w' X' rb vb mq pl bs cb xb cs ty:=
 ⟨⟨h.r.next c hr hl,h.x.ej c (fun e=>h.rx e.symm),h.c.ej c h.c1,h.c1,h.c2,h.rx,h.vx⟩,h.t.ej c (fun _ e=>.inl e) fun k e=>.inl e⟩
theorem RS.MT (h:RS w0 w X rb vb at_ pl bs cb xb cs ty) (c:fO (fun k=>k=xb) X w X' w') (hr:bJ w' X' xb nJ ty):RS w0 w' X' rb vb at_ pl bs cb xb nJ ty:=
 ⟨⟨⟨h.r.box.ej c h.rx,h.r.ow.ej c fun g hg e=>h.vx (e▸hg),h.r.le,h.r.sz,h.r.lt⟩,hr,h.c.ej c h.c2,h.c1,h.c2,h.rx,h.vx⟩,h.t.ej c (fun _ e=>.inr e) fun k e=>.inl e⟩
theorem RB.Gm (h:RB w X rb vb at_ pl bs cb xb cs ty) (c:fO (fun k=>k=rb∨k=xb) X w X' w') (hr:bJ w' X' rb [vb,I mq,I 0,I pl] 223) (hl:mq≤bs.length) (hx:bJ w' X' xb nJ ty):RB w' X' rb vb mq pl bs cb xb nJ ty:=
 ⟨⟨hr,h.r.ow.ej c fun g hg e=>e.elim (fun e=>h.r.ow.dS h.r.box (by kernel_rfl) (e▸hg)) fun e=>h.vx (e▸hg),hl,h.r.sz,h.r.lt⟩,hx,h.c.ej c fun e=>e.elim h.c1 h.c2,h.c1,h.c2,h.rx,h.vx⟩
theorem RS.Gm (h:RS w0 w X rb vb at_ pl bs cb xb cs ty) (c:fO (fun k=>k=rb∨k=xb) X w X' w') (hr:bJ w' X' rb [vb,I mq,I 0,I pl] 223) (hl:mq≤bs.length) (hx:bJ w' X' xb nJ ty):RS w0 w' X' rb vb mq pl bs cb xb nJ ty:=
 ⟨h.toRB.Gm c hr hl hx,h.t.ej c (fun _ e=>e) fun k e=>.inl e⟩
variable {R : Ending → World → Prop} {f : FuncId} {args : Array Value} {N : Value → World → XS → Prop}
theorem RS.read {res:Value} (h:RS w0 w X rb vb at_ pl bs cb xb cs ty) (hc:MS f args w X rb vb mq pl res) (hf:enters pg f=true) (hl:mq≤bs.length)
  (k: ∀w' X',RS w0 w' X' rb vb mq pl bs cb xb cs ty→N res w' X'):eC pg R X w true f args N:=
 xw hc hf h.t.s.has (fun k e=>e▸h.r.box.1) fun v wa w' X' ⟨hv,hr⟩ _ _ _ c=>by subst hv;exact k w' X' (h.ah6 c ⟨c.sub _ h.r.box.1,hr.2⟩ hl)
theorem RS.call (h:RS w0 w X rb vb at_ pl bs cb xb cs ty) (hc:QU f args w X rb vb mq pl xb nJ ty) (hf:enters pg f=true) (hl:mq≤bs.length)
  (k: ∀w' X',RS w0 w' X' rb vb mq pl bs cb xb nJ ty→N (.tuple #[]) w' X'):eC pg R X w true f args N:=
 xw hc hf h.t.s.has (fun k e=>e.elim (fun e=>e▸h.r.box.1) fun e=>e▸h.x.1) fun v wa w' X' ⟨hv,hr,hx⟩ _ _ _ c=>by
  subst hv;exact k w' X' (h.Gm c ⟨c.sub _ h.r.box.1,hr.2⟩ hl ⟨c.sub _ h.x.1,hx.2⟩)
theorem RS.out (h:RS w0 w X rb vb at_ pl bs cb xb cs ty) (hk:Kp X w wa):Value.tuple #[]=Value.tuple #[]∧bJ wa (fun k=>k=rb) rb [vb,I at_,I 0,I pl] 223∧bJ wa (fun k=>k=xb) xb cs ty:=
 ⟨rfl,⟨rfl,by rw [hk.block _ h.r.box.1];exact h.r.box.2⟩,⟨rfl,by rw [hk.block _ h.x.1];exact h.x.2⟩⟩
theorem Ac (h:RB w X rb vb at_ pl bs cb xb cs ty):Ct pg 208 #[ptr cb 0] w X nX fun v _ _=>v= .tuple #[]:=by
 intro wi hk
 have hS:=h.start hk
 have hc:=hS.c
 apply HU;unfold yO
 have hs:=aj.init wi
 repeat' first|with_reducible apply aK|(with_reducible apply aM);exact qF;(· kernel_rfl);rfl;intro _ _ _|(with_reducible apply aZ);exact qF;exact qM;(· kernel_rfl);rfl
 refine dt (yb (hS.r.mv hs.mv)) (by kernel_rfl) hs.has fun w1 X1 au=>?_
 have hs:=hs.trans au
 repeat' first|(with_reducible refine fL ?_ ?_);omega|with_reducible apply ak|(with_reducible apply fp);rfl
 exact aq hs fun wa aR=>rfl
theorem RB.iU {a b:List Nat} (h:RB w X rb vb at_ pl bs cb xb cs ty) (he:bs.drop at_=a++b):at_+a.length≤bs.length:=by
 have h1:=congrArg aB he
 rw [b8,ae] at h1
 have h2:=h.r.le
 omega
theorem ky {a b:List Nat} (he:bs.drop at_=a++b):bs.drop (at_+a.length)=b:=by
 rw [←gy,he,pV]
theorem rH {xo:Nat} {n:Int} {tl:List Nat} (h:RB w X rb vb at_ pl bs cb xb cs ty) (he:bs.drop at_=encI n++tl) (hn:Ab n) (ho:xo+1≤cs.length):
  QU 142 #[ptr cb 0,ptr xb xo] w X rb vb (at_+(encI n).length) pl xb (cd cs xo [I n]) ty:=by
 intro wi hk
 have hS:=h.start hk
 have hc:=hS.c
 have tq:=hS.iU he
 apply zX;unfold tQ
 have hs:=aj.eP hS.t.s.has
 repeat' first|with_reducible (first|apply ak|apply aK)|(with_reducible apply aM);exact qF;(· kernel_rfl);rfl;intro _ _ _|(with_reducible apply aZ);exact qF;exact qM;(· kernel_rfl);rfl|(with_reducible apply Em);(· kernel_rfl)
 refine hS.read (ab7 hS.r he hn) (by kernel_rfl) tq fun w1 X1 iy=>?_
 clear hs
 have hs:=aj.eP iy.t.s.has
 repeat' first|with_reducible apply aK
 refine Be (o:=xo) iy.x rfl (by kernel_rfl) ho rfl rfl iy.t.s.has fun w2 X2 c2 lE=>?_
 have bu:=iy.MT c2 lE
 refine dt (Ac bu.toRB) (by kernel_rfl) bu.t.s.has fun w3 X3 cw=>?_
 have bP:=bu.since cw
 clear hs
 have hs:=aj.eP bP.t.s.has
 skip
 exact bP.t.fin fun wa aR=>bP.out aR
theorem OA {xo:Nat} {s:BA} {tl:List Nat} (h:RB w X rb vb at_ pl bs cb xb cs ty) (he:bs.drop at_=kU s++tl) (hn:s.size≤262144) (ho:xo+1≤cs.length):
  QU 214 #[ptr cb 0,ptr xb xo] w X rb vb (at_+(kU s).length) pl xb (cd cs xo [.string s]) ty:=by
 intro wi hk
 have hS:=h.start hk
 have hc:=hS.c
 have tq:=hS.iU he
 apply yV;unfold sW
 have hs:=aj.eP hS.t.s.has
 repeat' first|with_reducible (first|apply ak|apply aK)|(with_reducible apply aM);exact qF;(· kernel_rfl);rfl;intro _ _ _|(with_reducible apply aZ);exact qF;exact qM;(· kernel_rfl);rfl|(with_reducible apply Em);(· kernel_rfl)
 refine hS.read (QR hS.r he (by omega) (by omega)) (by kernel_rfl) tq fun w1 X1 iy=>?_
 clear hs
 have hs:=aj.eP iy.t.s.has
 repeat' first|with_reducible apply aK
 refine Be (o:=xo) iy.x rfl (by kernel_rfl) ho rfl rfl iy.t.s.has fun w2 X2 c2 lE=>?_
 have bu:=iy.MT c2 lE
 refine dt (Ac bu.toRB) (by kernel_rfl) bu.t.s.has fun w3 X3 cw=>?_
 have bP:=bu.since cw
 clear hs
 have hs:=aj.eP bP.t.s.has
 skip
 exact bP.t.fin fun wa aR=>bP.out aR
theorem aaE (cs:List Value) (o:Nat) (a b c:Value) (h:o+3≤cs.length):cd (cd (cd cs o [a]) (o+1) [b]) (o+2) [c]=cd cs o [a,b,c]:=by
 have h1:=Jv cs o [a] [b] (by simp;omega)
 have h2:=Jv cs o ([a]++[b]) [c] (by simp;omega)
 simp only [bC,cA,List.cons_append,cV] at h1 h2
 rw [←h2,←h1]
theorem adD {a b c:Int} {tl:List Nat} (he:bs.drop at_=(encI a++encI b++encI c)++tl):bs.drop at_=encI a++(encI b++(encI c++tl)):=by rw [he];simp only [ax]
def An (s:bZ):Prop:=Ab s.wall∧Ab s.fA∧Ab s.node
def Gq (t:gM):Prop:=Ab t.jR∧Ab t.nj∧Ab t.sq
theorem DH {xo:Nat} {s:bZ} {tl:List Nat} (h:RB w X rb vb at_ pl bs cb xb cs ty) (he:bs.drop at_=jL s++tl) (hn:An s) (ho:xo+3≤cs.length):
  QU 148 #[ptr cb 0,ptr xb xo] w X rb vb (at_+(jL s).length) pl xb (cd cs xo [I s.wall,I s.fA,I s.node]) ty:=by
 intro wi hk
 have hS:=h.start hk
 have e1:bs.drop at_=encI s.wall++(encI s.fA++(encI s.node++tl)):=adD he
 have e2:=ky e1
 have e3:=ky e2
 have d1:=hS.iU e1
 have En:(cd cs xo [I s.wall]).length=cs.length:=sd _ _ _ (by simp;omega)
 have LL:(cd (cd cs xo [I s.wall]) (xo+1) [I s.fA]).length=cs.length:=(sd _ _ _ (by simp [En];omega)).trans En
 apply xY;unfold rZ
 repeat' first|with_reducible apply aK|(with_reducible refine om (by kernel_rfl) (by kernel_rfl) ?_)
 refine hS.call (rH (xo:=xo) hS.toRB e1 hn.1 (by omega)) (by kernel_rfl) d1 fun w1 X1 iy=>?_
 have d2:=iy.iU e2
 repeat' first|with_reducible apply aK|(with_reducible refine om (by kernel_rfl) (by kernel_rfl) ?_)
 refine iy.call (rH iy.toRB e2 hn.2.1 (by omega)) (by kernel_rfl) d2 fun w2 X2 bu=>?_
 have d3:=bu.iU e3
 repeat' first|with_reducible apply aK|(with_reducible refine om (by kernel_rfl) (by kernel_rfl) ?_)
 refine bu.call (rH bu.toRB e3 hn.2.2 (by omega)) (by kernel_rfl) d3 fun w3 X3 bP=>?_
 skip
 rw [aaE _ _ _ _ _ ho] at bP
 have e:at_+(encI s.wall).length+(encI s.fA).length+(encI s.node).length=at_+(jL s).length:=by unfold jL;simp only [ae];omega
 rw [e] at bP
 exact bP.t.fin fun wa aR=>bP.out aR
theorem aaF {xo:Nat} {s:gM} {tl:List Nat} (h:RB w X rb vb at_ pl bs cb xb cs ty) (he:bs.drop at_=pX s++tl) (hn:Gq s) (ho:xo+3≤cs.length):
  QU 146 #[ptr cb 0,ptr xb xo] w X rb vb (at_+(pX s).length) pl xb (cd cs xo [I s.jR,I s.nj,I s.sq]) ty:=by
 intro wi hk
 have hS:=h.start hk
 have e1:bs.drop at_=encI s.jR++(encI s.nj++(encI s.sq++tl)):=adD he
 have e2:=ky e1
 have e3:=ky e2
 have d1:=hS.iU e1
 have En:(cd cs xo [I s.jR]).length=cs.length:=sd _ _ _ (by simp;omega)
 have LL:(cd (cd cs xo [I s.jR]) (xo+1) [I s.nj]).length=cs.length:=(sd _ _ _ (by simp [En];omega)).trans En
 apply zY;unfold tR
 repeat' first|with_reducible apply aK|(with_reducible refine om (by kernel_rfl) (by kernel_rfl) ?_)
 refine hS.call (rH (xo:=xo) hS.toRB e1 hn.1 (by omega)) (by kernel_rfl) d1 fun w1 X1 iy=>?_
 have d2:=iy.iU e2
 repeat' first|with_reducible apply aK|(with_reducible refine om (by kernel_rfl) (by kernel_rfl) ?_)
 refine iy.call (rH iy.toRB e2 hn.2.1 (by omega)) (by kernel_rfl) d2 fun w2 X2 bu=>?_
 have d3:=bu.iU e3
 repeat' first|with_reducible apply aK|(with_reducible refine om (by kernel_rfl) (by kernel_rfl) ?_)
 refine bu.call (rH bu.toRB e3 hn.2.2 (by omega)) (by kernel_rfl) d3 fun w3 X3 bP=>?_
 skip
 rw [aaE _ _ _ _ _ ho] at bP
 have e:at_+(encI s.jR).length+(encI s.nj).length+(encI s.sq).length=at_+(pX s).length:=by unfold pX;simp only [ae];omega
 rw [e] at bP
 exact bP.t.fin fun wa aR=>bP.out aR
end
section
variable {w0 w wa w' : World} {X X' : XS} {rb at_ mq cb xb : Nat} {vb : Value} {pl : Int} {bs tl : List Nat} {cs nJ : List Value} {ty : TypeId}
def inV (v:fq):Prop:=v.may=true∧v.num<18446744073709551616
theorem inV.kind {v:fq} (h:inV v):v=fq.zero∨(v.kind=1∧v.text=⟨#[]⟩∧v.num=canon v.num)∨(v.kind=2∧v.num=0∧v.text.size≤64):=by
 obtain⟨h,_⟩:=h
 unfold fq.may at h
 split at h
 ·rename_i h0
  simp only [aG,decide_eq_true_eq] at h
  exact .inl (fq.ext h0 h.1 h.2)
 ·split at h
  ·rename_i h1
   simp only [aG,decide_eq_true_eq] at h
   exact .inr (.inl ⟨h1,h.1,h.2⟩)
  ·split at h
   ·rename_i h2
    simp only [aG,decide_eq_true_eq] at h
    exact .inr (.inr ⟨h2,h.1,by omega⟩)
   ·cases h
theorem ab8 {v:fq} (h:qv w X rb vb at_ pl bs) (he:bs.drop at_=lu v++tl) (hv:inV v):
  MS 297 #[ptr rb 0] w X rb vb (at_+(lu v).length) pl v.v:=by
 intro wi hk
 have hT:=h.ft hk
 replace h:=h.mv hk.dA
 have Dg:=hv.kind
 obtain⟨hm,P4⟩:=hv
 have hE:lu v=encI v.kind++(if v.kind=1 then sc v.num else if v.kind=2 then kU v.text else []):=by unfold lu;rw [if_pos hm]
 have kX:0≤v.kind∧v.kind≤2:=by rcases Dg with rfl|h|h;(simp [fq.zero]);(omega);(omega)
 have e0:bs.drop at_=encI ((v.kind.toNat:Nat):Int)++((if v.kind=1 then sc v.num else if v.kind=2 then kU v.text else [])++tl):=by
  rw [he,hE,ax,show((v.kind.toNat:Nat):Int)=v.kind by omega]
 have tq: ∀{a b:List Nat} {p:Nat},p≤bs.length→bs.drop p=a++b→p+a.length≤bs.length:=fun hp hh=>by
  have h1:=congrArg aB hh
  rw [b8,ae] at h1
  omega
 have d0:=tq h.le e0
 have e1:=ky e0
 apply TX;unfold IZ
 refine xw (Wy h e0 (by omega) (by omega)) (by kernel_rfl) hT.s.has (fun k e=>e▸h.box.1) fun r wa w1 X1 ⟨hr,mF⟩ _ _ _ c1=>?_
 subst hr
 have h1:=h.next c1 ⟨c1.sub _ h.box.1,mF.2⟩ d0
 have cO:Ft wi (fun k=>k=rb) w1 X1 (fun k=>k=rb):=hT.ej c1 (fun k ai=>ai) fun k ai=>.inl ai
 rw [show((v.kind.toNat:Nat):Int)=v.kind by omega] at*
 clear hk
 have hs:=aj.eP cO.s.has
 have YR: ∀(w2:World) (X2:XS) (p:Nat),Ft wi (fun k=>k=rb) w2 X2 (fun k=>k=rb)→qv w2 X2 rb vb p pl bs→p=at_+(lu v).length→ ∀wa,Kp X2 w2 wa→v.v=v.v∧bJ wa (fun k=>k=rb) rb [vb,I ((at_+(lu v).length:Nat):Int),I 0,I pl] 223:=fun w2 X2 p bM h2 hp wa hk=>by
  subst hp
  exact⟨rfl,rfl,by rw [hk.block _ h2.box.1];exact h2.box.2⟩
 rcases Dg with rfl|⟨k1,k2,k3⟩|⟨k1,k2,k3⟩
 ·have z0:fq.zero.kind=0:=rfl
  repeat' first|(with_reducible apply gP);rfl|with_reducible apply ff|(with_reducible apply gg);(· kernel_rfl)|(with_reducible apply fj);(case h=>exact qE)|(with_reducible apply eh);exact qC
  refine fV (Q:=fun K=> ∀w2 X2,Ft wi (fun k=>k=rb) w2 X2 (fun k=>k=rb)→qv w2 X2 rb vb (at_+(lu (fq.zero)).length) pl bs→K (fq.zero).v w2 X2) ?_ fun K hK=>?_
  ·intro w2 X2 bM h2
   clear hs
   have hs:=aj.eP bM.s.has
   refine dt (yb h2) (by kernel_rfl) bM.s.has fun w3 X3 cw=>?_
   have cP:=bM.since cw
   have h3:=h2.mv cw.mv
   repeat' first|(with_reducible refine fL ?_ ?_);omega|with_reducible apply ak|(with_reducible apply ji);exact qN|with_reducible apply ff|(with_reducible apply fp);rfl|(with_reducible apply fj);(case h=>exact qE)|(with_reducible apply eh);exact qC
   exact cP.fin (YR _ _ _ cP h3 rfl)
  ·repeat' first|(with_reducible refine qU ?_ ?_);omega|with_reducible apply ak
   rw [show at_+(encI fq.zero.kind).length=at_+(lu fq.zero).length by rw [hE];simp [fq.zero]] at h1
   exact hK _ _ cO h1
 ·rw [if_pos k1] at hE e1
  have d1:=tq h1.le e1
  repeat' first|(with_reducible apply gP);rfl|with_reducible apply ff|(with_reducible apply gg);(· kernel_rfl)|(with_reducible apply fj);(case h=>exact qE)|(with_reducible apply eh);exact qC
  refine fV (Q:=fun K=> ∀w2 X2,Ft wi (fun k=>k=rb) w2 X2 (fun k=>k=rb)→qv w2 X2 rb vb (at_+(lu (v)).length) pl bs→K (v).v w2 X2) ?_ fun K hK=>?_
  ·intro w2 X2 bM h2
   clear hs
   have hs:=aj.eP bM.s.has
   refine dt (yb h2) (by kernel_rfl) bM.s.has fun w3 X3 cw=>?_
   have cP:=bM.since cw
   have h3:=h2.mv cw.mv
   repeat' first|(with_reducible refine fL ?_ ?_);omega|with_reducible apply ak|(with_reducible apply ji);exact qN|with_reducible apply ff|(with_reducible apply fp);rfl|(with_reducible apply fj);(case h=>exact qE)|(with_reducible apply eh);exact qC
   exact cP.fin (YR _ _ _ cP h3 rfl)
  ·repeat' first|(with_reducible refine m7 ?_ ?_);omega|with_reducible apply aD
   refine xw (YQ h1 e1 (by rw [←k3];exact P4)) (by kernel_rfl) cO.s.has (fun k e=>e▸h1.box.1) fun r wQ w2 X2 ⟨hr,qt⟩ _ _ _ c2=>?_
   subst hr
   have h2:=h1.next c2 ⟨c2.sub _ h1.box.1,qt.2⟩ d1
   have bM:Ft wi (fun k=>k=rb) w2 X2 (fun k=>k=rb):=cO.ej c2 (fun k ai=>ai) fun k ai=>.inl ai
   rw [show at_+(encI v.kind).length+(sc v.num).length=at_+(lu v).length by rw [hE,ae];omega] at h2
   have ev:v.v= .agg #[I v.kind,.float .f64 (canon v.num),.string ⟨#[]⟩]:=by rw [←k3,←k2]
   rw [ev] at hK
   clear hs
   have hs:=aj.eP bM.s.has
   repeat' first|(with_reducible apply CF);exact qN|(with_reducible apply eh);exact qC
   exact hK _ _ bM h2
 ·rw [if_neg (by omega),if_pos k1] at hE e1
  have d1:=tq h1.le e1
  repeat' first|(with_reducible apply gP);rfl|with_reducible apply ff|(with_reducible apply gg);(· kernel_rfl)|(with_reducible apply fj);(case h=>exact qE)|(with_reducible apply eh);exact qC
  refine fV (Q:=fun K=> ∀w2 X2,Ft wi (fun k=>k=rb) w2 X2 (fun k=>k=rb)→qv w2 X2 rb vb (at_+(lu (v)).length) pl bs→K (v).v w2 X2) ?_ fun K hK=>?_
  ·intro w2 X2 bM h2
   clear hs
   have hs:=aj.eP bM.s.has
   refine dt (yb h2) (by kernel_rfl) bM.s.has fun w3 X3 cw=>?_
   have cP:=bM.since cw
   have h3:=h2.mv cw.mv
   repeat' first|(with_reducible refine fL ?_ ?_);omega|with_reducible apply ak|(with_reducible apply ji);exact qN|with_reducible apply ff|(with_reducible apply fp);rfl|(with_reducible apply fj);(case h=>exact qE)|(with_reducible apply eh);exact qC
   exact cP.fin (YR _ _ _ cP h3 rfl)
  ·repeat' first|(with_reducible refine m7 ?_ ?_);omega|(with_reducible refine qU ?_ ?_);omega|with_reducible (first|apply aD|apply ak)
   refine xw (QR h1 e1 (by omega) (by omega)) (by kernel_rfl) cO.s.has (fun k e=>e▸h1.box.1) fun r wQ w2 X2 ⟨hr,qt⟩ _ _ _ c2=>?_
   subst hr
   have h2:=h1.next c2 ⟨c2.sub _ h1.box.1,qt.2⟩ d1
   have bM:Ft wi (fun k=>k=rb) w2 X2 (fun k=>k=rb):=cO.ej c2 (fun k ai=>ai) fun k ai=>.inl ai
   rw [show at_+(encI v.kind).length+(kU v.text).length=at_+(lu v).length by rw [hE,ae];omega] at h2
   have ev:v.v= .agg #[I v.kind,.float .f64 0,.string v.text]:=by rw [←k2]
   rw [ev] at hK
   clear hs
   have hs:=aj.eP bM.s.has
   repeat' first|(with_reducible apply CF);exact qN|(with_reducible apply eh);exact qC
   exact hK _ _ bM h2
theorem LR {xo:Nat} {v:fq} (h:RB w X rb vb at_ pl bs cb xb cs ty) (he:bs.drop at_=lu v++tl) (hv:inV v) (ho:xo+3≤cs.length):
  QU 221 #[ptr cb 0,ptr xb xo] w X rb vb (at_+(lu v).length) pl xb (cd cs xo v.l) ty:=by
 intro wi hk
 have hS:=h.start hk
 have hc:=hS.c
 have tq:=hS.iU he
 apply x5;unfold r6
 have hs:=aj.eP hS.t.s.has
 repeat' first|with_reducible (first|apply ak|apply aK)|(with_reducible apply aM);exact qF;(· kernel_rfl);rfl;intro _ _ _|(with_reducible apply aZ);exact qF;exact qM;(· kernel_rfl);rfl|(with_reducible apply Em);(· kernel_rfl)
 refine hS.read (ab8 hS.r he hv) (by kernel_rfl) tq fun w1 X1 iy=>?_
 clear hs
 have hs:=aj.eP iy.t.s.has
 repeat' first|with_reducible apply aK
 refine Be (o:=xo) iy.x rfl (by kernel_rfl) ho rfl rfl iy.t.s.has fun w2 X2 c2 lE=>?_
 have bu:=iy.MT c2 lE
 refine dt (Ac bu.toRB) (by kernel_rfl) bu.t.s.has fun w3 X3 cw=>?_
 have bP:=bu.since cw
 clear hs
 have hs:=aj.eP bP.t.s.has
 skip
 exact bP.t.fin fun wa aR=>bP.out aR
def Gr (x:KV):Prop:=x.key.size≤262144∧inV x.val
theorem XA (cs:List Value) (o:Nat) (a:Value) (l:List Value) (h:o+1+l.length≤cs.length):cd (cd cs o [a]) (o+1) l=cd cs o (a::l):=by
 have h1:=Jv cs o [a] l (by simp;omega)
 simpa using h1
theorem WA {xo:Nat} {x:KV} (h:RB w X rb vb at_ pl bs cb xb cs ty) (he:bs.drop at_=dd x++tl) (hn:Gr x) (ho:xo+4≤cs.length):
  QU 151 #[ptr cb 0,ptr xb xo] w X rb vb (at_+(dd x).length) pl xb (cd cs xo x.l) ty:=by
 intro wi hk
 have hS:=h.start hk
 have e1:bs.drop at_=kU x.key++(lu x.val++tl):=by rw [he];unfold dd;rw [ax]
 have e2:=ky e1
 have d1:=hS.iU e1
 have En:(cd cs xo [.string x.key]).length=cs.length:=sd _ _ _ (by simp;omega)
 apply xZ;unfold r5
 repeat' first|with_reducible apply aK|(with_reducible refine om (by kernel_rfl) (by kernel_rfl) ?_)
 refine hS.call (OA (xo:=xo) hS.toRB e1 hn.1 (by omega)) (by kernel_rfl) d1 fun w1 X1 iy=>?_
 have d2:=iy.iU e2
 repeat' first|with_reducible apply aK|(with_reducible refine om (by kernel_rfl) (by kernel_rfl) ?_)
 refine iy.call (LR iy.toRB e2 hn.2 (by omega)) (by kernel_rfl) d2 fun w2 X2 bu=>?_
 skip
 rw [XA _ _ _ _ (by simp;omega)] at bu
 have e:at_+(kU x.key).length+(lu x.val).length=at_+(dd x).length:=by unfold dd;simp only [ae];omega
 rw [e] at bu
 exact bu.t.fin fun wa aR=>bu.out aR
theorem YS {xo:Nat} {x:KV} (h:RB w X rb vb at_ pl bs cb xb cs ty) (he:bs.drop at_=dd x++tl) (hn:Gr x) (ho:xo+4≤cs.length):
  QU 153 #[ptr cb 0,ptr xb xo] w X rb vb (at_+(dd x).length) pl xb (cd cs xo x.l) ty:=by
 intro wi hk
 have hS:=h.start hk
 have e1:bs.drop at_=kU x.key++(lu x.val++tl):=by rw [he];unfold dd;rw [ax]
 have e2:=ky e1
 have d1:=hS.iU e1
 have En:(cd cs xo [.string x.key]).length=cs.length:=sd _ _ _ (by simp;omega)
 apply yU;unfold sV
 repeat' first|with_reducible apply aK|(with_reducible refine om (by kernel_rfl) (by kernel_rfl) ?_)
 refine hS.call (OA (xo:=xo) hS.toRB e1 hn.1 (by omega)) (by kernel_rfl) d1 fun w1 X1 iy=>?_
 have d2:=iy.iU e2
 repeat' first|with_reducible apply aK|(with_reducible refine om (by kernel_rfl) (by kernel_rfl) ?_)
 refine iy.call (LR iy.toRB e2 hn.2 (by omega)) (by kernel_rfl) d2 fun w2 X2 bu=>?_
 skip
 rw [XA _ _ _ _ (by simp;omega)] at bu
 have e:at_+(kU x.key).length+(lu x.val).length=at_+(dd x).length:=by unfold dd;simp only [ae];omega
 rw [e] at bu
 exact bu.t.fin fun wa aR=>bu.out aR
end
theorem Us {P:Program} {X:XS} {w:World} {t e k lo:Nat} {v:Value} {z:Int} {rows:List (List Value)} {r:List Value} {N:Value→Prop} (h:Own w X lo e k v (rows++[r])) (hz:z=rows.length)
  (ht:P.underlying t=some (.slice (P.elem t))) (hs:(P.info? (P.elem t)).map (·.size)=some k)
  (n: ∀g cs,bJ w X g cs e→lo≤g→v.ownBlock=some g→rows.length*k+k≤cs.length→cs.take (rows.length*k)=rows.flatten→
   (∀w' X' r',r'.length=k→bJ w' X' g (cd cs (rows.length*k) r') e→Own w' X' lo e k v (rows++[r']))→N (ptr g (rows.length*k))):aa P X w (dx t k v (.int .i64 z)) N:=by
 subst hz
 have mr:=h.sl
 obtain⟨h1,h2,h3⟩:=h
 have hlr:(rows++[r]).length=rows.length+1:=by simp
 rcases h2.2 with⟨rfl,hn⟩|⟨g,cap,cur,rfl,hb,hg,tE,m6,kj,uN⟩
 ·rw [hlr] at hn;cases hn
 rw [hlr] at tE uN
 have nC:(rows.length+1)*k=rows.length*k+k:=Nat.succ_mul _ _
 have hck:(rows.length+1)*k≤cap*k:=dM k tE
 have iq:rows.flatten.length=rows.length*k:=by
  have h4: ∀x∈rows,x.length=k:=fun x hx=>h1 x (bU _ hx)
  exact tF h4
 have afP:cur.toList.take (rows.length*k)=rows.flatten:=by
  have:=congrArg (List.take (rows.length*k)) uN
  rw [List.take_take,Nat.min_eq_left (by omega),fZ,mH iq] at this
  exact this
 have D6:cur.toList.length=cur.size:=dy
 have hA:rows.length*k+k≤cur.toList.length:=by rw [D6,kj,←nC];exact hck
 unfold dx
 refine b9 (fun wa=>?_) (n g cur.toList ⟨h3 g rfl,by simpa using hg⟩ hb rfl hA afP ?_)
 ·rw [run_indexAt_slice (h:=ht),if_pos (by rw [hlr];omega)]
  cases hq:P.info? (P.elem t)with
  |none=>simp [hq] at hs
  |some inf=>
   have:inf.size=k:=by simpa [hq] using hs
   simp [sizeOf,typeInfo,hq,this,wm]
 ·intro w' X' r' Aw dK
  refine⟨fun x hx=>?_,⟨?_,.inr ⟨g,cap,(cd cur.toList (rows.length*k) r').toArray,?_,hb,dK.2,by rw [ae];exact tE,m6,?_,?_⟩⟩,fun q hq=>?_⟩
  ·rcases List.mem_append.1 hx with hx|hx
   ·exact h1 x (bU _ hx)
   ·simp only [bo] at hx;subst hx;exact Aw
  ·rw [fZ,ae,iq];simp [Aw,nC]
  ·rw [ae,ae];rfl
  ·rw [List.size_toArray,sd _ _ _ (by rw [Aw];exact hA),D6];exact kj
  ·show List.take _ (cd _ _ _)=_
   unfold cd
   rw [ae,List.length_singleton,nC,fZ,afP]
   simp only [dg,List.flatten_nil,cp]
   rw [mH (by rw [ae,iq,Aw])]
  ·cases hq;exact dK.1
abbrev gd:Value:=.slice none 0 0
theorem P5: ∀xs:List KV,xs.length≤(xs.map dd).flatten.length
 |[]=>by simp
 |x::xs=>by
  have h1:=P5 xs
  have h2:=Gk x.key.size
  have h3:=nV x.key
  have h4:(dd x).length=(kU x.key).length+(lu x.val).length:=by unfold dd;rw [ae]
  simp only [bh,dg,ae,bC]
  omega
section
variable {w0 w wa w' : World} {X X' : XS} {rb at_ mq cb xb : Nat} {vb : Value} {pl : Int} {bs tl : List Nat} {cs nJ : List Value} {ty : TypeId}
structure YT (w0:World) (rb:Nat) (vb:Value) (cb xb:Nat):Prop where
 r:rb<w0.heap.size
 x:xb<w0.heap.size
 c:cb<w0.heap.size
 v: ∀g,jw vb g→g<w0.heap.size
theorem RS.adE (h:RS w0 w0 (aW w0) rb vb at_ pl bs cb xb cs ty):YT w0 rb vb cb xb:=⟨h.r.box.1,h.x.1,h.c.1,fun g hg=>(h.r.ow.ba hg).1⟩
theorem RS.afQ {G:XS} (h:RS w0 w X rb vb at_ pl bs cb xb cs ty) (e:YT w0 rb vb cb xb) (c:fO G X w X' w') (hG: ∀k,G k→X k∧w0.heap.size≤k):RS w0 w' X' rb vb at_ pl bs cb xb cs ty:=by
 have no: ∀{k},k<w0.heap.size→ ¬G k:=fun hk hg=>by have:=(hG _ hg).2;omega
 refine⟨⟨⟨h.r.box.ej c (no e.r),h.r.ow.ej c fun g hg xF=>no (e.v g hg) xF,h.r.le,h.r.sz,h.r.lt⟩,h.x.ej c (no e.x),h.c.ej c (no e.c),h.c1,h.c2,h.rx,h.vx⟩,?_⟩
 exact(h.t.more (F':=fun k=>(k=rb∨k=xb)∨G k) fun k hk=>hk.imp id fun hg=>hG k hg).ej c (fun k hg=>.inr hg) fun k hk=>.inl (.inl hk)
theorem RS.adF {g:Nat} (h:RS w0 w X rb vb at_ pl bs cb xb cs ty) (e:YT w0 rb vb cb xb) (c:fO (fun k=>k=rb∨k=g) X w X' w') (hg:X g∧w0.heap.size≤g) (hr:bJ w' X' rb [vb,I mq,I 0,I pl] 223) (hl:mq≤bs.length):RS w0 w' X' rb vb mq pl bs cb xb cs ty:=by
 have ex:=e.x;have ec:=e.c;have er:=e.r
 refine⟨⟨⟨hr,h.r.ow.ej c fun q hq Ns=>Ns.elim (fun e2=>h.r.ow.dS h.r.box (by kernel_rfl) (e2▸hq)) fun e2=>by have:=e.v q hq;omega,hl,h.r.sz,h.r.lt⟩,h.x.ej c (fun e2=>e2.elim (fun e2=>h.rx e2.symm) fun e2=>by omega),h.c.ej c (fun e2=>e2.elim h.c1 fun e2=>by omega),h.c1,h.c2,h.rx,h.vx⟩,?_⟩
 exact(h.t.more (F':=fun k=>(k=rb∨k=xb)∨k=g) fun k hk=>hk.imp id fun (e2:k=g)=>by subst e2;exact hg).ej c (fun k hk=>hk.elim (fun e2=>.inl (.inl e2)) .inr) fun k hk=>.inl (.inl hk)
theorem OB (cs:List Value) (o:Nat) (a b:Value) (h:o+1≤cs.length):cd (cd cs o [a]) o [b]=cd cs o [b]:=by
 have h1:(cs.take o).length=o:=by rw [bQ];omega
 unfold cd
 simp only [bC,cA]
 have e1:(cs.take o++[a]++cs.drop (o+1)).take o=cs.take o:=by rw [ax,mH h1]
 have e2:(cs.take o++[a]++cs.drop (o+1)).drop (o+1)=cs.drop (o+1):=by rw [kL (by simp [h1])]
 simp only [Nat.zero_add] at*
 rw [e1,e2]
theorem wR {o:Nat} {u:Value} (h:bJ w X xb (cd cs o [u]) ty) (ho:o+1≤cs.length):Cells w X xb o [u]:=by
 have h1:(cs.take o).length=o:=by rw [bQ];omega
 refine⟨h.1,_,ty,(0,0),h.2,fun j x hj=>?_⟩
 cases j with
 |zero=>
  simp at hj;subst hj
  rw [List.getElem?_toArray,Nat.add_zero]
  unfold cd
  rw [ax,List.getElem?_append_right (by omega),h1]
  simp
 |succ j=>simp at hj
theorem OC {xo:Nat} {xs:List KV} (h:RB w X rb vb at_ pl bs cb xb cs ty) (he:bs.drop at_=gA dd xs++tl) (hn: ∀x∈xs,Gr x) (hl:xs.length≤2^30) (ho:cs[xo]? =some gd):
  Ct pg 150 #[ptr cb 0,ptr xb xo,.func (.func 151) #[ptr cb 0] #[]] w X (fun k=>k=rb∨k=xb) fun v wa w'=> ∃va,v= .tuple #[]∧
   bJ w' (fun k=>k=rb) rb [vb,I ((at_+(gA dd xs).length:Nat):Int),I 0,I pl] 223∧bJ w' (fun k=>k=xb) xb (cd cs xo [va]) ty∧Own w' (made wa w') wa.heap.size 53 4 va (xs.map KV.l):=by
 intro wi hk
 have hS:=h.start hk
 have hc:=hS.c
 have OD:xo+1≤cs.length:=(List.getElem?_eq_some_iff.1 ho).1
 have e0:bs.drop at_=encI xs.length++((xs.map dd).flatten++tl):=by rw [he];unfold gA;rw [ax]
 have d0:=hS.iU e0
 have e1:=ky e0
 have hfg:=P5 xs
 have d1:at_+(encI xs.length).length+(xs.map dd).flatten.length≤bs.length:=by
  have h1:=congrArg aB e1
  rw [b8,ae] at h1
  omega
 have Ce:Cells wi (aW wi) xb xo [gd]:=⟨hS.x.1,cs.toArray,ty,(0,0),hS.x.2,fun j u hj=>by
  cases j with
  |zero=>simp at hj;subst hj;simpa using ho
  |succ j=>simp at hj⟩
 have hnl:Sl wi (aW wi) 4 gd (([]:List KV).map KV.l):=Sl.nil _ _ _
 apply pG;unfold mZ
 have hs:=aj.eP hS.t.s.has
 have sL:=hS.adE
 repeat' first|with_reducible apply aK|(with_reducible apply aZ);exact qF;exact qM;(· kernel_rfl);rfl|(with_reducible apply bS);exact qO;(· kernel_rfl)
 refine fV (Q:=fun K=> ∀w X,RS wi w X rb vb (at_+(encI xs.length).length) pl bs cb xb (cd cs xo [gd]) ty→K (I xs.length) w X) ?_ fun K hK=>?_
 ·intro w1 X1 iy
  refine fK (fun m a w X=> ∃(i:Nat) (va:Value),a=I i∧m=xs.length-i∧i≤xs.length∧RS wi w X rb vb (at_+(encI xs.length).length+((xs.take i).map dd).flatten.length) pl bs cb xb (cd cs xo [va]) ty∧Own w X wi.heap.size 53 4 va ((xs.take i).map KV.l)) xs.length ⟨0,gd,rfl,rfl,aV _,by simpa using iy,Own.nil _ _ _ _ _⟩ ?_
  clear iy hs Ce hc
  rintro m a w2 X2 ⟨i,va,rfl,rfl,hi,bu,rE⟩
  have hs:=aj.eP bu.t.s.has
  rcases fh xs i with⟨dh,x,hx,hd⟩|⟨eI,hd⟩
  ·have hc:=bu.c
   have Ce:=wR bu.x OD
   have hti:((xs.take i).map KV.l).length=i:=by simp;omega
   have hU:=hn x (bg hx)
   have Io:((xs.take (i+1)).map dd).flatten=((xs.take i).map dd).flatten++dd x:=jU hx
   have ei:bs.drop (at_+(encI xs.length).length+((xs.take i).map dd).flatten.length)=dd x++(((xs.drop (i+1)).map dd).flatten++tl):=by
    have h1:(xs.map dd).flatten=((xs.take i).map dd).flatten++(dd x++((xs.drop (i+1)).map dd).flatten):=by
     conv=>lhs;rw [←ij i xs,hd]
     rw [bq,fZ,bh,dg]
    rw [h1] at e1
    rw [←gy,e1]
    simp only [ax]
    rw [pV]
   repeat' first|(with_reducible refine dC ?_ ?_);omega|with_reducible apply aD
   refine fV (Q:=fun K=> ∀w X va,RS wi w X rb vb (at_+(encI xs.length).length+((xs.take i).map dd).flatten.length) pl bs cb xb (cd cs xo [va]) ty→Own w X wi.heap.size 53 4 va ((xs.take i).map KV.l++[(⟨⟨#[]⟩,fq.zero⟩:KV).l])→K w X) ?_ fun K hK=>?_
   ·intro w3 X3 Ut bP pY
    clear hs hc Ce
    have hs:=aj.eP bP.t.s.has
    have Ce:=wR bP.x OD
    repeat' first|with_reducible apply aK|(with_reducible apply aZ);exact qF;exact qM;(· kernel_rfl);rfl
    refine Us pY (by rw [hti]) (by kernel_rfl) (by kernel_rfl) fun g csg hg fT hbg hlen uN Uu=>?_
    refine tL ?_
    have eI:rb<g∧xb<g∧cb<g:=by have:=sL.r;have:=sL.x;have:=sL.c;omega
    have zF:RB w3 X3 rb vb (at_+(encI xs.length).length+((xs.take i).map dd).flatten.length) pl bs cb g csg 53:=⟨bP.r,hg,bP.c,bP.c1,by omega,by omega,fun hb=>by have:=sL.v g hb;omega⟩
    rw [hti] at Uu hlen⊢
    have di:=zF.iU ei
    refine xw (WA (xo:=i*4) zF ei hU hlen) (by kernel_rfl) bP.t.s.has (fun k e=>e.elim (fun e=>e▸bP.r.box.1) fun e=>e▸hg.1) fun v wa w4 X4 ⟨hv,ua,hx4⟩ _ _ _ c4=>?_
    subst hv
    have eG:=bP.adF sL c4 ⟨hg.1,fT⟩ ⟨c4.sub _ bP.r.box.1,ua.2⟩ di
    have Ad:=Uu w4 X4 x.l rfl ⟨c4.sub _ hg.1,hx4.2⟩
    clear hs
    have hs:=aj.eP eG.t.s.has
    repeat' first|(with_reducible apply cx);omega;omega
    refine ga (xs.length-(i+1)) (by omega) ⟨i+1,Ut,by simp,rfl,by omega,?_,?_⟩
    ·rw [Io,ae,←qI];exact eG
    ·rw [dI,hx,bq];exact Ad
   ·repeat' first|with_reducible (first|apply aD|apply aK)|(with_reducible apply aM);exact qF;(· kernel_rfl);rfl;intro _ _ _|(with_reducible apply aZ);exact qF;exact qM;(· kernel_rfl);rfl|(with_reducible apply El);(· kernel_rfl)|(with_reducible apply Km);(case hX=>exact hs.has);(case he=>kernel_rfl);(case hk=>rfl);intro acc w X au ho;obtain⟨_,_,_,rfl⟩:=ho.sl.form;replace hs:=hs.trans au
    have MU:=bu.since hs
    have MV:=rE.since hs
    refine Xk (bytes:=48) (eD:=[(⟨⟨#[]⟩,fq.zero⟩:KV).l]) MV MU.t.s.has MU.t.s.kp.size (by kernel_rfl) ho.sl (fun r hr u hu=>?_) (by simp;omega) (by simp;omega) fun Ut w3 X3 c3 pY ab9=>?_
    ·simp only [bo] at hr
     subst hr
     simp at hu
     rcases hu with rfl|rfl|rfl|rfl<;>rfl
    have bP:=MU.afQ sL c3 fun k ai=>⟨(MV.ow.ba ai).1,(MV.ge ai).1⟩
    clear hs hc Ce
    have hs:=aj.eP bP.t.s.has
    repeat' first|with_reducible apply aK
    refine lB (o:=xo) bP.x rfl (by kernel_rfl) (by rw [sd _ _ _ (by simp;omega)];omega) pY.sl.one bP.t.s.has fun w4 X4 c4 ua=>?_
    rw [OB _ _ _ _ OD] at ua
    have eG:=bP.MT c4 ua
    exact hK _ _ Ut eG (pY.ej c4 fun g hg e=>by have:=(pY.ge hg).1;have:=sL.x;have e:g=xb:=e;omega)
  ·have mP:i=xs.length:=by omega
   subst mP
   rw [dV] at bu rE
   have e:at_+(encI xs.length).length+(xs.map dd).flatten.length=at_+(gA dd xs).length:=by unfold gA;rw [ae];omega
   rw [e] at bu
   repeat' first|(with_reducible refine dm ?_ ?_);omega|with_reducible apply ak
   refine bu.t.fin fun wa aR=>⟨va,rfl,(bu.out aR).2.1,(bu.out aR).2.2,(rE.kp aR).tight⟩
 ·repeat' first|with_reducible (first|apply ak|apply aK)|(with_reducible apply aM);exact qF;(· kernel_rfl);rfl;intro _ _ _|(with_reducible apply aZ);exact qF;exact qM;(· kernel_rfl);rfl|(with_reducible apply Em);(· kernel_rfl)
  refine dt (QT hS.r) (by kernel_rfl) hS.t.s.has fun w1 X1 au=>?_
  have iy:=hS.since au
  refine iy.read (Oz iy.r e0 (by omega) (by have:=iy.r.sz;omega)) (by kernel_rfl) d0 fun w2 X2 bu=>?_
  refine dt (Ac bu.toRB) (by kernel_rfl) bu.t.s.has fun w3 X3 cw=>?_
  have bP:=bu.since cw
  clear hs
  have hs:=aj.eP bP.t.s.has
  repeat' first|with_reducible apply aK
  refine lB (o:=xo) bP.x rfl (by kernel_rfl) OD rfl bP.t.s.has fun w4 X4 c4 ua=>?_
  exact hK _ _ (bP.MT c4 ua)
theorem P6 {xo:Nat} {xs:List KV} (h:RB w X rb vb at_ pl bs cb xb cs ty) (he:bs.drop at_=gA dd xs++tl) (hn: ∀x∈xs,Gr x) (hl:xs.length≤2^30) (ho:cs[xo]? =some gd):
  Ct pg 152 #[ptr cb 0,ptr xb xo,.func (.func 153) #[ptr cb 0] #[]] w X (fun k=>k=rb∨k=xb) fun v wa w'=> ∃va,v= .tuple #[]∧
   bJ w' (fun k=>k=rb) rb [vb,I ((at_+(gA dd xs).length:Nat):Int),I 0,I pl] 223∧bJ w' (fun k=>k=xb) xb (cd cs xo [va]) ty∧Own w' (made wa w') wa.heap.size 74 4 va (xs.map KV.l):=by
 intro wi hk
 have hS:=h.start hk
 have hc:=hS.c
 have OD:xo+1≤cs.length:=(List.getElem?_eq_some_iff.1 ho).1
 have e0:bs.drop at_=encI xs.length++((xs.map dd).flatten++tl):=by rw [he];unfold gA;rw [ax]
 have d0:=hS.iU e0
 have e1:=ky e0
 have hfg:=P5 xs
 have d1:at_+(encI xs.length).length+(xs.map dd).flatten.length≤bs.length:=by
  have h1:=congrArg aB e1
  rw [b8,ae] at h1
  omega
 have Ce:Cells wi (aW wi) xb xo [gd]:=⟨hS.x.1,cs.toArray,ty,(0,0),hS.x.2,fun j u hj=>by
  cases j with
  |zero=>simp at hj;subst hj;simpa using ho
  |succ j=>simp at hj⟩
 have hnl:Sl wi (aW wi) 4 gd (([]:List KV).map KV.l):=Sl.nil _ _ _
 apply qh;unfold ny
 have hs:=aj.eP hS.t.s.has
 have sL:=hS.adE
 repeat' first|with_reducible apply aK|(with_reducible apply aZ);exact qF;exact qM;(· kernel_rfl);rfl|(with_reducible apply bS);exact qO;(· kernel_rfl)
 refine fV (Q:=fun K=> ∀w X,RS wi w X rb vb (at_+(encI xs.length).length) pl bs cb xb (cd cs xo [gd]) ty→K (I xs.length) w X) ?_ fun K hK=>?_
 ·intro w1 X1 iy
  refine fK (fun m a w X=> ∃(i:Nat) (va:Value),a=I i∧m=xs.length-i∧i≤xs.length∧RS wi w X rb vb (at_+(encI xs.length).length+((xs.take i).map dd).flatten.length) pl bs cb xb (cd cs xo [va]) ty∧Own w X wi.heap.size 74 4 va ((xs.take i).map KV.l)) xs.length ⟨0,gd,rfl,rfl,aV _,by simpa using iy,Own.nil _ _ _ _ _⟩ ?_
  clear iy hs Ce hc
  rintro m a w2 X2 ⟨i,va,rfl,rfl,hi,bu,rE⟩
  have hs:=aj.eP bu.t.s.has
  rcases fh xs i with⟨dh,x,hx,hd⟩|⟨eI,hd⟩
  ·have hc:=bu.c
   have Ce:=wR bu.x OD
   have hti:((xs.take i).map KV.l).length=i:=by simp;omega
   have hU:=hn x (bg hx)
   have Io:((xs.take (i+1)).map dd).flatten=((xs.take i).map dd).flatten++dd x:=jU hx
   have ei:bs.drop (at_+(encI xs.length).length+((xs.take i).map dd).flatten.length)=dd x++(((xs.drop (i+1)).map dd).flatten++tl):=by
    have h1:(xs.map dd).flatten=((xs.take i).map dd).flatten++(dd x++((xs.drop (i+1)).map dd).flatten):=by
     conv=>lhs;rw [←ij i xs,hd]
     rw [bq,fZ,bh,dg]
    rw [h1] at e1
    rw [←gy,e1]
    simp only [ax]
    rw [pV]
   repeat' first|(with_reducible refine dC ?_ ?_);omega|with_reducible apply aD
   refine fV (Q:=fun K=> ∀w X va,RS wi w X rb vb (at_+(encI xs.length).length+((xs.take i).map dd).flatten.length) pl bs cb xb (cd cs xo [va]) ty→Own w X wi.heap.size 74 4 va ((xs.take i).map KV.l++[(⟨⟨#[]⟩,fq.zero⟩:KV).l])→K w X) ?_ fun K hK=>?_
   ·intro w3 X3 Ut bP pY
    clear hs hc Ce
    have hs:=aj.eP bP.t.s.has
    have Ce:=wR bP.x OD
    repeat' first|with_reducible apply aK|(with_reducible apply aZ);exact qF;exact qM;(· kernel_rfl);rfl
    refine Us pY (by rw [hti]) (by kernel_rfl) (by kernel_rfl) fun g csg hg fT hbg hlen uN Uu=>?_
    refine tL ?_
    have eI:rb<g∧xb<g∧cb<g:=by have:=sL.r;have:=sL.x;have:=sL.c;omega
    have zF:RB w3 X3 rb vb (at_+(encI xs.length).length+((xs.take i).map dd).flatten.length) pl bs cb g csg 74:=⟨bP.r,hg,bP.c,bP.c1,by omega,by omega,fun hb=>by have:=sL.v g hb;omega⟩
    rw [hti] at Uu hlen⊢
    have di:=zF.iU ei
    refine xw (YS (xo:=i*4) zF ei hU hlen) (by kernel_rfl) bP.t.s.has (fun k e=>e.elim (fun e=>e▸bP.r.box.1) fun e=>e▸hg.1) fun v wa w4 X4 ⟨hv,ua,hx4⟩ _ _ _ c4=>?_
    subst hv
    have eG:=bP.adF sL c4 ⟨hg.1,fT⟩ ⟨c4.sub _ bP.r.box.1,ua.2⟩ di
    have Ad:=Uu w4 X4 x.l rfl ⟨c4.sub _ hg.1,hx4.2⟩
    clear hs
    have hs:=aj.eP eG.t.s.has
    repeat' first|(with_reducible apply cx);omega;omega
    refine ga (xs.length-(i+1)) (by omega) ⟨i+1,Ut,by simp,rfl,by omega,?_,?_⟩
    ·rw [Io,ae,←qI];exact eG
    ·rw [dI,hx,bq];exact Ad
   ·repeat' first|with_reducible (first|apply aD|apply aK)|(with_reducible apply aM);exact qF;(· kernel_rfl);rfl;intro _ _ _|(with_reducible apply aZ);exact qF;exact qM;(· kernel_rfl);rfl|(with_reducible apply El);(· kernel_rfl)|(with_reducible apply Km);(case hX=>exact hs.has);(case he=>kernel_rfl);(case hk=>rfl);intro acc w X au ho;obtain⟨_,_,_,rfl⟩:=ho.sl.form;replace hs:=hs.trans au
    have MU:=bu.since hs
    have MV:=rE.since hs
    refine Xk (bytes:=48) (eD:=[(⟨⟨#[]⟩,fq.zero⟩:KV).l]) MV MU.t.s.has MU.t.s.kp.size (by kernel_rfl) ho.sl (fun r hr u hu=>?_) (by simp;omega) (by simp;omega) fun Ut w3 X3 c3 pY ab9=>?_
    ·simp only [bo] at hr
     subst hr
     simp at hu
     rcases hu with rfl|rfl|rfl|rfl<;>rfl
    have bP:=MU.afQ sL c3 fun k ai=>⟨(MV.ow.ba ai).1,(MV.ge ai).1⟩
    clear hs hc Ce
    have hs:=aj.eP bP.t.s.has
    repeat' first|with_reducible apply aK
    refine lB (o:=xo) bP.x rfl (by kernel_rfl) (by rw [sd _ _ _ (by simp;omega)];omega) pY.sl.one bP.t.s.has fun w4 X4 c4 ua=>?_
    rw [OB _ _ _ _ OD] at ua
    have eG:=bP.MT c4 ua
    exact hK _ _ Ut eG (pY.ej c4 fun g hg e=>by have:=(pY.ge hg).1;have:=sL.x;have e:g=xb:=e;omega)
  ·have mP:i=xs.length:=by omega
   subst mP
   rw [dV] at bu rE
   have e:at_+(encI xs.length).length+(xs.map dd).flatten.length=at_+(gA dd xs).length:=by unfold gA;rw [ae];omega
   rw [e] at bu
   repeat' first|(with_reducible refine dm ?_ ?_);omega|with_reducible apply ak
   refine bu.t.fin fun wa aR=>⟨va,rfl,(bu.out aR).2.1,(bu.out aR).2.2,(rE.kp aR).tight⟩
 ·repeat' first|with_reducible (first|apply ak|apply aK)|(with_reducible apply aM);exact qF;(· kernel_rfl);rfl;intro _ _ _|(with_reducible apply aZ);exact qF;exact qM;(· kernel_rfl);rfl|(with_reducible apply Em);(· kernel_rfl)
  refine dt (QT hS.r) (by kernel_rfl) hS.t.s.has fun w1 X1 au=>?_
  have iy:=hS.since au
  refine iy.read (Oz iy.r e0 (by omega) (by have:=iy.r.sz;omega)) (by kernel_rfl) d0 fun w2 X2 bu=>?_
  refine dt (Ac bu.toRB) (by kernel_rfl) bu.t.s.has fun w3 X3 cw=>?_
  have bP:=bu.since cw
  clear hs
  have hs:=aj.eP bP.t.s.has
  repeat' first|with_reducible apply aK
  refine lB (o:=xo) bP.x rfl (by kernel_rfl) OD rfl bP.t.s.has fun w4 X4 c4 ua=>?_
  exact hK _ _ (bP.MT c4 ua)
end
end Go.Proofs.YtpdkoaklobnegaaGreat
