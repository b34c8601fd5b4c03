/-
 Part 8 of the proof: what the last text leans on.
-/
import Derived.Test.YtpdkoaklobnegaaGreatH7
open List renaming length_append → ae, map_cons → bc, find?_cons → dF, append_assoc → au, length_take → bp, length_cons → aY, length_nil → bz, map_append → aT, sum_cons → gO, length → az, length_drop → bU, drop_drop → fu, flatten_append → gb, mem_singleton → aV, length_map → aG, take_left' → om, flatten_cons → cD, take_add_one → ca, all_cons → iN, drop_left → ua, mem_of_getElem? → aX, length_eq_zero_iff → mW, drop_left' → jd, mem_append_left → bR, take_append_drop → jI, take_length → dE, take_of_length_le → bN, filter_cons_of_neg → ra, filter_cons_of_pos → ri, pairwise_cons → vI
open Nat renaming zero_le → aN, lt_of_lt_of_le → aK, le_refl → bf, mod_eq_of_lt → ek
open Bool renaming false_eq_true → bu, and_eq_true → aA
open BitVec renaming ofInt → aQ, ofInt_natCast → jS, toNat_ofNat → fc
open Ne renaming symm → vJ
open Go.Value renaming string → cu
open Option.some renaming inj → bC
open Option renaming toList_some → vK
open Go.Builtin renaming len_ → kR, max_ → Dq, max2 → Dr
set_option linter.unusedVariables false
set_option linter.unusedSimpArgs false
namespace Go.Proofs.YtpdkoaklobnegaaGreat
open Go.Proofs.Tryz renaming prog → pg
open Go.dL
set_option maxRecDepth 100000
set_option maxHeartbeats 1000000
set_option linter.unusedVariables false
set_option linter.unusedSimpArgs false
attribute [local irreducible] un jn bq aS bb gy dV dD cK lJ ez kV yC xf gU gH aa ay aD eW eV eU eC eF gE ao fin aR aE aJ vS yD jw jA tq A6 A7 yE A8 yF jx jB tt A9 Ba yG Bb
section
variable {P : Program} {X : XS} {w : World} {N : Value → Prop} {t : TypeId}
theorem ajn {a:Nat} (ha:a*256<18446744073709551616) (h:N (.int .u64 ((a*256:Nat):Int))):aa P X w (binOp .shl t (.int .u64 (a:Int)) (.int .u64 8)) N:=
 Lm zQ (by
  rw [wrap64];have e:((a:Int)*2^min (8:Int).toNat IntKind.u64.bits) % 18446744073709551616=((a*256:Nat):Int):=by
   have h1:min (8:Int).toNat IntKind.u64.bits=8:=by decide
   rw [h1];omega
  rw [e];exact h)
theorem akF {a c:Nat} (hc:c<256) (cH:a*256+c<18446744073709551616) (h:N (.int .u64 ((a*256+c:Nat):Int))):aa P X w (binOp .or t (.int .u64 ((a*256:Nat):Int)) (.int .u64 (c:Int))) N:=
 Jx (by
  have e:IntKind.u64.wrap (aQ IntKind.u64.bits ((a*256:Nat):Int)|||aQ IntKind.u64.bits (c:Int)).toNat=((a*256+c:Nat):Int):=by
   rw [wrap64];have h1:(aQ 64 ((a*256:Nat):Int))=BitVec.ofNat 64 (a*256):=by rw [jS]
   have h2:(aQ 64 (c:Int))=BitVec.ofNat 64 c:=by rw [jS]
   show((aQ 64 ((a*256:Nat):Int)|||aQ 64 (c:Int)).toNat:Int) % 18446744073709551616=_
   rw [h1,h2,BitVec.toNat_or,fc,fc,ek (by omega:a*256<2^64),ek (by omega:c<2^64)];have:=Nat.two_pow_add_eq_or_of_lt (i:=8) (b:=c) zQ a;rw [show(2:Nat)^8*a=a*256 by omega] at this;rw [←this];omega
  rw [e];exact h)
theorem ajo {a c:Nat} (hc:c<256) (cH:a*256+c<18446744073709551616) (h:N (.int .u64 ((a*256+c:Nat):Int))):aa P X w (binOp .or t (.int .u64 ((a*256:Nat):Int)) (.int .u64 (IntKind.u64.wrap (c:Int)))) N:=by
 have e:IntKind.u64.wrap (c:Int)=c:=by rw [wrap64];omega
 rw [e];exact akF hc cH h
end
theorem adu (u:Nat):Pure pg 295 #[.int .u64 (u:Int)] (.float .f64 (canon u)):=by
 intro w0;apply adr;unfold Ta;have hs:=aj.init w0;repeat' first|((with_reducible refine gh (Nd _) ?_ hs.has ?_);(· kernel_rfl);intro w X aq;replace hs:=hs.trans aq)|(with_reducible refine eY hs ?_);rfl|((with_reducible refine xR (Xw _) hs.has ?_);intro w X aq;replace hs:=hs.trans aq)
theorem Nj (x:Nat):canon (canon x)=canon x:=by
 unfold canon;by_cases h:DU x x=true
 ·rw [if_pos h,if_pos h]
 ·rw [if_neg h];split<;>rfl
theorem Za (u i:Nat):u/256^(i+1)*256+CN u i=u/256^i:=by
 unfold CN;rw [Nat.pow_succ,←Nat.div_div_eq_div_mul];omega
theorem abX {w:World} {X:XS} {rb at_:Nat} {vb:Value} {pl:Int} {bs tl:List Nat} {x:Nat} (h:pZ w X rb vb at_ pl bs) (he:bs.drop at_=rG x++tl) (hx:canon x<18446744073709551616):
  OG 220 #[ptr rb 0] w X rb vb (at_+(rG x).length) pl (.float .f64 (canon x)):=by
 intro w0 hk;have hT:=h.ft hk;replace h:=h.mv hk.dm;have hb:=h.box;have j7:=h.ow.sl;have dU:=h.sz;have hle:=h.le;have qt:=GP x;have qX:at_+8≤bs.length:=by
  have:=congrArg az he;rw [bU,ae,qt] at this;omega
 have H7: ∀i,i<8→bs[at_+i]? =some (CN (canon x) i):=fun i hi=>by
  have:=congrArg (fun l:List Nat=>l[i]?) he;simp only [List.getElem?_drop] at this;rw [this,List.getElem?_append_left zQ];unfold rG;rw [List.getElem?_map,List.getElem?_range hi];rfl
 apply HA;unfold ym;repeat' first|refine bL ?_;intros
 refine gN (fun m a b w X=> ∃i:Nat,a=I ((i:Int)-1)∧b= .int .u64 ((canon x/256^i:Nat):Int)∧m=i∧i≤8∧Ft w0 (fun k=>k=rb) w X (fun k=>k=rb)∧pZ w X rb vb at_ pl bs) 8 ⟨8,rfl,?_,rfl,bf _,hT,h⟩ ?_
 ·have:canon x/256^8=0:=Nat.div_eq_of_lt zQ;rw [this];rfl
 clear hT h hb j7;rintro m a b w X ⟨i,rfl,rfl,rfl,hi,hT,h⟩;have hb:=h.box;have j7:=h.ow.sl;have hs:=aj.dY hT.s.has;cases m with
 |zero=>
  rw [Nat.pow_zero,Nat.div_one];repeat' first|refine bL ?_;intros
  refine gh (adu (canon x)) kQ hT.s.has fun w1 X1 aq=>?_;rw [Nj];refine gh (xE (canon x)) kQ (hT.since aq).s.has fun w2 X2 bQ=>?_;rw [Nj];have bK:=(hT.since aq).since bQ;have ny:=(hb.since aq).since bQ;repeat' first|refine bL ?_;intros
  refine kK (o:=1) ny zQ kQ (by simp) rfl bK.s.has fun w3 X3 c3 sk=>?_;have cn:Ft w0 (fun k=>k=rb) w3 X3 (fun k=>k=rb):=bK.dM c3 (fun k ai=>ai) fun k ai=>.inl ai
  skip
  exact cn.fin fun wa aM=>⟨rfl,rfl,by rw [aM.block _ sk.1,qt,Int.natCast_add];exact sk.2⟩
 |succ i=>
  have gT:=H7 i zQ;have hb8:CN (canon x) i<256:=Nat.mod_lt _ (by decide);have pF:=Za (canon x) i;have cH:canon x/256^i<18446744073709551616:=Nat.lt_of_le_of_lt (Nat.div_le_self _ _) hx;repeat' first|refine bL ?_;intros|(with_reducible refine ajn zQ ?_)|(with_reducible refine ajo hb8 zQ ?_)
  refine gA i zQ ⟨i,?_,?_,rfl,by omega,hT,h⟩
  ·rw [show((i+1:Nat):Int)-1-1=(i:Int)-1 by omega]
  ·rw [pF]
theorem Te {w:World} {X:XS} {rb at_:Nat} {vb:Value} {pl:Int} {bs:List Nat} (h:pZ w X rb vb at_ pl bs):
  Ct pg 216 #[ptr rb 0] w X nX fun v _ _=>v=I ((bs.length:Int)-at_):=by
 intro w0 hk;replace h:=h.mv hk.dm;have hb:=h.box;have j7:=h.ow.sl;have dU:=h.sz;have hle:=h.le;apply I3;unfold y8;have hs:=aj.init w0;repeat' first|refine bL ?_;intros
 exact ak hs fun wa aM=>rfl
theorem yy {w:World} {X:XS} {rb at_:Nat} {vb:Value} {pl:Int} {bs:List Nat} (h:pZ w X rb vb at_ pl bs):
  Ct pg 154 #[ptr rb 0] w X nX fun v _ _=>v= .tuple #[I 0,I pl]:=by
 intro w0 hk;replace h:=h.mv hk.dm;have hb:=h.box;apply Hu;unfold yg;have hs:=aj.init w0;repeat' first|refine aI ?_;intros
 exact ak hs fun wa aM=>rfl
theorem U9 {w:World} {X:XS} {rb at_:Nat} {vb:Value} {pl:Int} {bs:List Nat} (h:pZ w X rb vb at_ pl bs) (he:at_=bs.length):
  Ct pg 90 #[ptr rb 0] w X nX fun v _ _=>v= .tuple #[I 0,I pl]:=by
 intro w0 hk;replace h:=h.mv hk.dm;have hb:=h.box;have j7:=h.ow.sl;have dU:=h.sz;apply KR;unfold Ay;have hs:=aj.init w0;repeat' first|refine bL ?_;intros
 refine dy (yy (h.mv hs.mv)) kQ hs.has fun w1 X1 aq=>?_;have hs:=hs.trans aq;repeat' first|refine aI ?_;intros
 exact ak hs fun wa aM=>rfl
theorem UY {w:World} {X:XS} {v0:Value} {bs:List Nat} (h:Sl w X 1 v0 (bs.map U1)) (dU:bs.length≤2^40) (cH: ∀b∈bs,b<256):
  Ct pg 88 #[v0] w X nX fun v wa w'=> ∃rb vb,v=ptr rb 0∧pZ w' (made wa w') rb vb 0 0 bs:=by
 intro w0 hk;replace h:=h.mv hk.dm;apply Mf;unfold By;have hs:=aj.init w0;repeat' first|(with_reducible apply DH);(case hX=>exact hs.has);(case hu=>kernel_rfl);(case hz=>kernel_rfl);intro acc w X aq ho;replace hs:=hs.trans aq
 refine xv ho hs (fun _ h=>h) kQ (h.mv hs.mv) (fun r hr u hu=>?_) (by simp;omega) (by simp;omega) fun v1 w1 X1 vW s7 Cp ana=>?_
 ·obtain⟨x,_,rfl⟩:=List.mem_map.1 hr;simp at hu;subst hu;rfl
 clear hs aq;have hs:=vW;obtain⟨b1,n1,c1,rfl⟩:=s7.sl.form;repeat' first|refine aI ?_;intros|(with_reducible apply kX);(case hX=>exact hs.has);intro bx w X gT aq dA;have bT:=hs.trans aq;replace hs:=aj.dY aq.has
 have hz:=vW.kp.size;refine ak bT fun wa aM=>⟨bx,.slice b1 n1 c1,rfl,⟨⟨⟨by omega,?_⟩,?_⟩,?_,aN _,dU,cH⟩⟩
 ·have:=aq.has bx dA.1;have:=aM.size;omega
 ·rw [aM.block _ dA.1];exact dA.2
 ·exact((s7.since aq).kp aM).tight.ow
theorem nz {P:Program} {X:XS} {w:World} {N:Value→Prop} {S f fo sz b o:Nat} (hf:fieldInfo P S f=some (fo,sz)) (hz:(sz !=0)=true) (k:N (ptr b (o+fo))):aa P X w (aS S f fo sz (ptr b o)) N:=by
 unfold aS;exact EJ hf (by simpa using hz) k
theorem rV (cs:List Value) (o:Nat) (l:List Value) (h:o+l.length≤cs.length):(b8 cs o l).length=cs.length:=by
 unfold b8;simp only [ae,bp,bU];omega
theorem Lc (cs:List Value) (o:Nat) (a b:List Value) (h:o+a.length+b.length≤cs.length):b8 (b8 cs o a) (o+a.length) b=b8 cs o (a++b):=by
 unfold b8;have h1:(cs.take o).length=o:=by rw [bp];omega
 have e1:(cs.take o++a++cs.drop (o+a.length)).take (o+a.length)=cs.take o++a:=by
  rw [om (by rw [ae,h1])]
 have e2:(cs.take o++a++cs.drop (o+a.length)).drop (o+a.length+b.length)=cs.drop (o+(a++b).length):=by
  rw [←fu,jd (by rw [ae,h1]),fu,ae]
  congr 1;omega
 rw [e1,e2];simp only [au]
abbrev ajp (rb:Nat):List Value:=[.pointer none,ptr rb 0]
structure RB (w:World) (X:XS) (rb:Nat) (vb:Value) (at_:Nat) (pl:Int) (bs:List Nat) (cb xb:Nat) (cs:List Value) (ty:TypeId):Prop where
 r:pZ w X rb vb at_ pl bs
 x:bH w X xb cs ty
 c:Cells w X cb 0 (ajp rb)
 c1:cb≠rb
 c2:cb≠xb
 rx:rb≠xb
 vx: ¬iu vb xb
structure RS (w0 w:World) (X:XS) (rb:Nat) (vb:Value) (at_:Nat) (pl:Int) (bs:List Nat) (cb xb:Nat) (cs:List Value) (ty:TypeId):Prop extends RB w X rb vb at_ pl bs cb xb cs ty where
 t:Ft w0 (fun k=>k=rb∨k=xb) w X (fun k=>k=rb∨k=xb)
def Tf (f:FuncId) (args:Array Value) (w:World) (X:XS) (rb:Nat) (vb:Value) (iX:Nat) (pl:Int) (xb:Nat) (mY:List Value) (ty:TypeId):Prop:=
 Ct pg f args w X (fun k=>k=rb∨k=xb) fun v _ w'=>v= .tuple #[]∧bH w' (fun k=>k=rb) rb [vb,I iX,I 0,I pl] 223∧bH w' (fun k=>k=xb) xb mY ty
section
variable {w0 w wa w' : World} {X X' : XS} {rb at_ iX cb xb : Nat} {vb : Value} {pl : Int} {bs : List Nat} {cs mY : List Value} {ty : TypeId}
theorem RB.start (h:RB w X rb vb at_ pl bs cb xb cs ty) (hk:Kp X w wa):RS wa wa (ba wa) rb vb at_ pl bs cb xb cs ty:=
 ⟨⟨h.r.mv hk.dm,h.x.mv hk.dm,h.c.mv hk.dm,h.c1,h.c2,h.rx,h.vx⟩,Ft.init fun k e=>by rcases e with rfl|rfl;exact(h.r.mv hk.dm).box.1;exact(h.x.mv hk.dm).1⟩
theorem RS.since (h:RS w0 w X rb vb at_ pl bs cb xb cs ty) (hs:aj X w X' w'):RS w0 w' X' rb vb at_ pl bs cb xb cs ty:=
 ⟨⟨h.r.mv hs.mv,h.x.since hs,h.c.mv hs.mv,h.c1,h.c2,h.rx,h.vx⟩,h.t.since hs⟩
theorem _root_.Go.dL.Cells.dM {F:XS} {b o:Nat} {l:List Value} (h:Cells w X b o l) (c:eD F X w X' w') (hn: ¬F b):Cells w' X' b o l:=by
 obtain⟨hx,cs,t,fr,hb,hc⟩:=h;exact⟨c.sub b hx,cs,t,fr,by rw [c.block b hx hn];exact hb,hc⟩
theorem RS.ame (h:RS w0 w X rb vb at_ pl bs cb xb cs ty) (c:eD (fun k=>k=rb) X w X' w') (hr:bH w' X' rb [vb,I iX,I 0,I pl] 223) (hl:iX≤bs.length):RS w0 w' X' rb vb iX pl bs cb xb cs ty:=
 ⟨⟨h.r.next c hr hl,h.x.dM c (fun e=>h.rx e.symm),h.c.dM c h.c1,h.c1,h.c2,h.rx,h.vx⟩,h.t.dM c (fun _ e=>.inl e) fun k e=>.inl e⟩
theorem RS.OH (h:RS w0 w X rb vb at_ pl bs cb xb cs ty) (c:eD (fun k=>k=xb) X w X' w') (hr:bH w' X' xb mY ty):RS w0 w' X' rb vb at_ pl bs cb xb mY ty:=
 ⟨⟨⟨h.r.box.dM c h.rx,h.r.ow.dM c fun g hg e=>h.vx (e▸hg),h.r.le,h.r.sz,h.r.lt⟩,hr,h.c.dM c h.c2,h.c1,h.c2,h.rx,h.vx⟩,h.t.dM c (fun _ e=>.inr e) fun k e=>.inl e⟩
theorem RB.Gx (h:RB w X rb vb at_ pl bs cb xb cs ty) (c:eD (fun k=>k=rb∨k=xb) X w X' w') (hr:bH w' X' rb [vb,I iX,I 0,I pl] 223) (hl:iX≤bs.length) (hx:bH w' X' xb mY ty):RB w' X' rb vb iX pl bs cb xb mY ty:=
 ⟨⟨hr,h.r.ow.dM c fun g hg e=>e.elim (fun e=>h.r.ow.dJ h.r.box kQ (e▸hg)) fun e=>h.vx (e▸hg),hl,h.r.sz,h.r.lt⟩,hx,h.c.dM c fun e=>e.elim h.c1 h.c2,h.c1,h.c2,h.rx,h.vx⟩
theorem RS.Gx (h:RS w0 w X rb vb at_ pl bs cb xb cs ty) (c:eD (fun k=>k=rb∨k=xb) X w X' w') (hr:bH w' X' rb [vb,I iX,I 0,I pl] 223) (hl:iX≤bs.length) (hx:bH w' X' xb mY ty):RS w0 w' X' rb vb iX pl bs cb xb mY ty:=
 ⟨h.toRB.Gx c hr hl hx,h.t.dM c (fun _ e=>e) fun k e=>.inl e⟩
variable {R : Ending → World → Prop} {f : FuncId} {args : Array Value} {N : Value → World → XS → Prop}
theorem RS.read {res:Value} (h:RS w0 w X rb vb at_ pl bs cb xb cs ty) (hc:OG f args w X rb vb iX pl res) (hf:enters pg f=true) (hl:iX≤bs.length)
  (k: ∀w' X',RS w0 w' X' rb vb iX pl bs cb xb cs ty→N res w' X'):eC pg R X w true f args N:=
 xl hc hf h.t.s.has (fun k e=>e▸h.r.box.1) fun v wa w' X' ⟨hv,hr⟩ _ _ _ c=>by subst hv;exact k w' X' (h.ame c ⟨c.sub _ h.r.box.1,hr.2⟩ hl)
theorem RS.call (h:RS w0 w X rb vb at_ pl bs cb xb cs ty) (hc:Tf f args w X rb vb iX pl xb mY ty) (hf:enters pg f=true) (hl:iX≤bs.length)
  (k: ∀w' X',RS w0 w' X' rb vb iX pl bs cb xb mY ty→N (.tuple #[]) w' X'):eC pg R X w true f args N:=
 xl hc hf h.t.s.has (fun k e=>e.elim (fun e=>e▸h.r.box.1) fun e=>e▸h.x.1) fun v wa w' X' ⟨hv,hr,hx⟩ _ _ _ c=>by
  subst hv;exact k w' X' (h.Gx c ⟨c.sub _ h.r.box.1,hr.2⟩ hl ⟨c.sub _ h.x.1,hx.2⟩)
theorem RS.out (h:RS w0 w X rb vb at_ pl bs cb xb cs ty) (hk:Kp X w wa):Value.tuple #[]=Value.tuple #[]∧bH wa (fun k=>k=rb) rb [vb,I at_,I 0,I pl] 223∧bH wa (fun k=>k=xb) xb cs ty:=
 ⟨rfl,⟨rfl,by rw [hk.block _ h.r.box.1];exact h.r.box.2⟩,⟨rfl,by rw [hk.block _ h.x.1];exact h.x.2⟩⟩
theorem AI (h:RB w X rb vb at_ pl bs cb xb cs ty):Ct pg 208 #[ptr cb 0] w X nX fun v _ _=>v= .tuple #[]:=by
 intro wi hk;have hS:=h.start hk;have hc:=hS.c;apply I2;unfold y7;have hs:=aj.init wi;repeat' first|refine aI ?_;intros
 refine dy (yy (hS.r.mv hs.mv)) kQ hs.has fun w1 X1 aq=>?_;have hs:=hs.trans aq;repeat' first|refine bL ?_;intros
 exact ak hs fun wa aM=>rfl
theorem RB.ix {a b:List Nat} (h:RB w X rb vb at_ pl bs cb xb cs ty) (he:bs.drop at_=a++b):at_+a.length≤bs.length:=by
 have h1:=congrArg az he;rw [bU,ae] at h1;have h2:=h.r.le;omega
theorem jU {a b:List Nat} (he:bs.drop at_=a++b):bs.drop (at_+a.length)=b:=by
 rw [←fu,he,ua]
theorem qT {xo:Nat} {n:Int} {tl:List Nat} (h:RB w X rb vb at_ pl bs cb xb cs ty) (he:bs.drop at_=encI n++tl) (hn:Ac n) (ho:xo+1≤cs.length):
  Tf 142 #[ptr cb 0,ptr xb xo] w X rb vb (at_+(encI n).length) pl xb (b8 cs xo [I n]) ty:=by
 intro wi hk;have hS:=h.start hk;have hc:=hS.c;have qX:=hS.ix he;apply AE;unfold tW;have hs:=aj.dY hS.t.s.has;repeat' first|refine aI ?_;intros
 refine hS.read (afm hS.r he hn) kQ qX fun w1 X1 iv=>?_;clear hs;have hs:=aj.dY iv.t.s.has;repeat' first|refine aI ?_;intros
 refine zH (o:=xo) iv.x rfl kQ ho rfl rfl iv.t.s.has fun w2 X2 c2 jG=>?_;have br:=iv.OH c2 jG;refine dy (AI br.toRB) kQ br.t.s.has fun w3 X3 cl=>?_;have bP:=br.since cl;clear hs;have hs:=aj.dY bP.t.s.has
 skip
 exact bP.t.fin fun wa aM=>bP.out aM
theorem Qz {xo:Nat} {s:BA} {tl:List Nat} (h:RB w X rb vb at_ pl bs cb xb cs ty) (he:bs.drop at_=ki s++tl) (hn:s.size≤262144) (ho:xo+1≤cs.length):
  Tf 214 #[ptr cb 0,ptr xb xo] w X rb vb (at_+(ki s).length) pl xb (b8 cs xo [.string s]) ty:=by
 intro wi hk;have hS:=h.start hk;have hc:=hS.c;have qX:=hS.ix he;apply zf;unfold sO;have hs:=aj.dY hS.t.s.has;repeat' first|refine aI ?_;intros
 refine hS.read (Td hS.r he zQ zQ) kQ qX fun w1 X1 iv=>?_;clear hs;have hs:=aj.dY iv.t.s.has;repeat' first|refine aI ?_;intros
 refine zH (o:=xo) iv.x rfl kQ ho rfl rfl iv.t.s.has fun w2 X2 c2 jG=>?_;have br:=iv.OH c2 jG;refine dy (AI br.toRB) kQ br.t.s.has fun w3 X3 cl=>?_;have bP:=br.since cl;clear hs;have hs:=aj.dY bP.t.s.has
 skip
 exact bP.t.fin fun wa aM=>bP.out aM
theorem adv (cs:List Value) (o:Nat) (a b c:Value) (h:o+3≤cs.length):b8 (b8 (b8 cs o [a]) (o+1) [b]) (o+2) [c]=b8 cs o [a,b,c]:=by
 have h1:=Lc cs o [a] [b] (by simp;omega);have h2:=Lc cs o ([a]++[b]) [c] (by simp;omega);simp only [aY,bz,List.cons_append,List.nil_append] at h1 h2;rw [←h2,←h1]
theorem af5 {a b c:Int} {tl:List Nat} (he:bs.drop at_=(encI a++encI b++encI c)++tl):bs.drop at_=encI a++(encI b++(encI c++tl)):=by rw [he];simp only [au]
def AL (s:bE):Prop:=Ac s.wall∧Ac s.fi∧Ac s.node
def Cn (t:gf):Prop:=Ac t.jr∧Ac t.mA∧Ac t.sq
theorem Eu {xo:Nat} {s:bE} {tl:List Nat} (h:RB w X rb vb at_ pl bs cb xb cs ty) (he:bs.drop at_=je s++tl) (hn:AL s) (ho:xo+3≤cs.length):
  Tf 148 #[ptr cb 0,ptr xb xo] w X rb vb (at_+(je s).length) pl xb (b8 cs xo [I s.wall,I s.fi,I s.node]) ty:=by
 intro wi hk;have hS:=h.start hk;have e1:bs.drop at_=encI s.wall++(encI s.fi++(encI s.node++tl)):=af5 he;have e2:=jU e1;have e3:=jU e2;have d1:=hS.ix e1;have Am:(b8 cs xo [I s.wall]).length=cs.length:=rV _ _ _ (by simp;omega);have xw:(b8 (b8 cs xo [I s.wall]) (xo+1) [I s.fi]).length=cs.length:=(rV _ _ _ (by simp [Am];omega)).trans Am;apply yr;unfold rS;repeat' first|refine aI ?_;intros|(with_reducible refine nz kQ kQ ?_)
 refine hS.call (qT (xo:=xo) hS.toRB e1 hn.1 zQ) kQ d1 fun w1 X1 iv=>?_;have d2:=iv.ix e2;repeat' first|refine aI ?_;intros|(with_reducible refine nz kQ kQ ?_)
 refine iv.call (qT iv.toRB e2 hn.2.1 zQ) kQ d2 fun w2 X2 br=>?_;have d3:=br.ix e3;repeat' first|refine aI ?_;intros|(with_reducible refine nz kQ kQ ?_)
 refine br.call (qT br.toRB e3 hn.2.2 zQ) kQ d3 fun w3 X3 bP=>?_
 skip
 rw [adv _ _ _ _ _ ho] at bP;have e:at_+(encI s.wall).length+(encI s.fi).length+(encI s.node).length=at_+(je s).length:=by unfold je;simp only [ae];omega
 rw [e] at bP;exact bP.t.fin fun wa aM=>bP.out aM
theorem acs {xo:Nat} {s:gf} {tl:List Nat} (h:RB w X rb vb at_ pl bs cb xb cs ty) (he:bs.drop at_=pE s++tl) (hn:Cn s) (ho:xo+3≤cs.length):
  Tf 146 #[ptr cb 0,ptr xb xo] w X rb vb (at_+(pE s).length) pl xb (b8 cs xo [I s.jr,I s.mA,I s.sq]) ty:=by
 intro wi hk;have hS:=h.start hk;have e1:bs.drop at_=encI s.jr++(encI s.mA++(encI s.sq++tl)):=af5 he;have e2:=jU e1;have e3:=jU e2;have d1:=hS.ix e1;have Am:(b8 cs xo [I s.jr]).length=cs.length:=rV _ _ _ (by simp;omega);have xw:(b8 (b8 cs xo [I s.jr]) (xo+1) [I s.mA]).length=cs.length:=(rV _ _ _ (by simp [Am];omega)).trans Am;apply AF;unfold tX;repeat' first|refine aI ?_;intros|(with_reducible refine nz kQ kQ ?_)
 refine hS.call (qT (xo:=xo) hS.toRB e1 hn.1 zQ) kQ d1 fun w1 X1 iv=>?_;have d2:=iv.ix e2;repeat' first|refine aI ?_;intros|(with_reducible refine nz kQ kQ ?_)
 refine iv.call (qT iv.toRB e2 hn.2.1 zQ) kQ d2 fun w2 X2 br=>?_;have d3:=br.ix e3;repeat' first|refine aI ?_;intros|(with_reducible refine nz kQ kQ ?_)
 refine br.call (qT br.toRB e3 hn.2.2 zQ) kQ d3 fun w3 X3 bP=>?_
 skip
 rw [adv _ _ _ _ _ ho] at bP;have e:at_+(encI s.jr).length+(encI s.mA).length+(encI s.sq).length=at_+(pE s).length:=by unfold pE;simp only [ae];omega
 rw [e] at bP;exact bP.t.fin fun wa aM=>bP.out aM
end
section
variable {w0 w wa w' : World} {X X' : XS} {rb at_ iX cb xb : Nat} {vb : Value} {pl : Int} {bs tl : List Nat} {cs mY : List Value} {ty : TypeId}
def inV (v:eQ):Prop:=v.may=true∧v.num<18446744073709551616
theorem inV.kind {v:eQ} (h:inV v):v=eQ.zero∨(v.kind=1∧v.text=⟨#[]⟩∧v.num=canon v.num)∨(v.kind=2∧v.num=0∧v.text.size≤64):=by
 obtain⟨h,_⟩:=h;unfold eQ.may at h;split at h
 ·rename_i h0;simp only [aA,decide_eq_true_eq] at h;exact .inl (eQ.ext h0 h.1 h.2)
 ·split at h
  ·rename_i h1;simp only [aA,decide_eq_true_eq] at h;exact .inr (.inl ⟨h1,h.1,h.2⟩)
  ·split at h
   ·rename_i h2;simp only [aA,decide_eq_true_eq] at h;exact .inr (.inr ⟨h2,h.1,by omega⟩)
   ·cases h
theorem afn {v:eQ} (h:pZ w X rb vb at_ pl bs) (he:bs.drop at_=kE v++tl) (hv:inV v):
  OG 297 #[ptr rb 0] w X rb vb (at_+(kE v).length) pl v.v:=by
 intro wi hk;have hT:=h.ft hk;replace h:=h.mv hk.dm;have Sm:=hv.kind;obtain⟨hm,CP⟩:=hv;have hE:kE v=encI v.kind++(if v.kind=1 then rG v.num else if v.kind=2 then ki v.text else []):=by unfold kE;rw [if_pos hm]
 have jQ:0≤v.kind∧v.kind≤2:=by rcases Sm with rfl|h|h;(simp [eQ.zero]);(omega);(omega)
 have e0:bs.drop at_=encI ((v.kind.toNat:Nat):Int)++((if v.kind=1 then rG v.num else if v.kind=2 then ki v.text else [])++tl):=by
  rw [he,hE,au,show((v.kind.toNat:Nat):Int)=v.kind by omega]
 have qX: ∀{a b:List Nat} {p:Nat},p≤bs.length→bs.drop p=a++b→p+a.length≤bs.length:=fun hp hh=>by
  have h1:=congrArg az hh;rw [bU,ae] at h1;omega
 have d0:=qX h.le e0;have e1:=jU e0;apply Xq;unfold KM;refine xl (Y9 h e0 zQ zQ) kQ hT.s.has (fun k e=>e▸h.box.1) fun r wa w1 X1 ⟨hr,kW⟩ _ _ _ c1=>?_;subst hr;have h1:=h.next c1 ⟨c1.sub _ h.box.1,kW.2⟩ d0
 have cm:Ft wi (fun k=>k=rb) w1 X1 (fun k=>k=rb):=hT.dM c1 (fun k ai=>ai) fun k ai=>.inl ai;rw [show((v.kind.toNat:Nat):Int)=v.kind by omega] at*;clear hk;have hs:=aj.dY cm.s.has;have abY: ∀(w2:World) (X2:XS) (p:Nat),Ft wi (fun k=>k=rb) w2 X2 (fun k=>k=rb)→pZ w2 X2 rb vb p pl bs→p=at_+(kE v).length→ ∀wa,Kp X2 w2 wa→v.v=v.v∧bH wa (fun k=>k=rb) rb [vb,I ((at_+(kE v).length:Nat):Int),I 0,I pl] 223:=fun w2 X2 p bK h2 hp wa hk=>by
  subst hp;exact⟨rfl,rfl,by rw [hk.block _ h2.box.1];exact h2.box.2⟩
 rcases Sm with rfl|⟨k1,k2,k3⟩|⟨k1,k2,k3⟩
 ·have z0:eQ.zero.kind=0:=rfl;repeat' first|refine aI ?_;intros
  refine fk (Q:=fun K=> ∀w2 X2,Ft wi (fun k=>k=rb) w2 X2 (fun k=>k=rb)→pZ w2 X2 rb vb (at_+(kE (eQ.zero)).length) pl bs→K (eQ.zero).v w2 X2) ?_ fun K hK=>?_
  ·intro w2 X2 bK h2;clear hs;have hs:=aj.dY bK.s.has;refine dy (yy h2) kQ bK.s.has fun w3 X3 cl=>?_;have cn:=bK.since cl;have h3:=h2.mv cl.mv;repeat' first|refine bL ?_;intros
   exact cn.fin (abY _ _ _ cn h3 rfl)
  ·repeat' first|refine bL ?_;intros
   rw [show at_+(encI eQ.zero.kind).length=at_+(kE eQ.zero).length by rw [hE];simp [eQ.zero]] at h1;exact hK _ _ cm h1
 ·rw [if_pos k1] at hE e1;have d1:=qX h1.le e1;repeat' first|refine aI ?_;intros
  refine fk (Q:=fun K=> ∀w2 X2,Ft wi (fun k=>k=rb) w2 X2 (fun k=>k=rb)→pZ w2 X2 rb vb (at_+(kE (v)).length) pl bs→K (v).v w2 X2) ?_ fun K hK=>?_
  ·intro w2 X2 bK h2;clear hs;have hs:=aj.dY bK.s.has;refine dy (yy h2) kQ bK.s.has fun w3 X3 cl=>?_;have cn:=bK.since cl;have h3:=h2.mv cl.mv;repeat' first|refine bL ?_;intros
   exact cn.fin (abY _ _ _ cn h3 rfl)
  ·repeat' first|refine bL ?_;intros
   refine xl (abX h1 e1 (by rw [←k3];exact CP)) kQ cm.s.has (fun k e=>e▸h1.box.1) fun r rZ w2 X2 ⟨hr,ny⟩ _ _ _ c2=>?_;subst hr;have h2:=h1.next c2 ⟨c2.sub _ h1.box.1,ny.2⟩ d1
   have bK:Ft wi (fun k=>k=rb) w2 X2 (fun k=>k=rb):=cm.dM c2 (fun k ai=>ai) fun k ai=>.inl ai;rw [show at_+(encI v.kind).length+(rG v.num).length=at_+(kE v).length by rw [hE,ae];omega] at h2;have ev:v.v= .agg #[I v.kind,.float .f64 (canon v.num),.string ⟨#[]⟩]:=by rw [←k3,←k2]
   rw [ev] at hK;clear hs;have hs:=aj.dY bK.s.has;repeat' first|refine aI ?_;intros
   exact hK _ _ bK h2
 ·rw [if_neg zQ,if_pos k1] at hE e1;have d1:=qX h1.le e1;repeat' first|refine aI ?_;intros
  refine fk (Q:=fun K=> ∀w2 X2,Ft wi (fun k=>k=rb) w2 X2 (fun k=>k=rb)→pZ w2 X2 rb vb (at_+(kE (v)).length) pl bs→K (v).v w2 X2) ?_ fun K hK=>?_
  ·intro w2 X2 bK h2;clear hs;have hs:=aj.dY bK.s.has;refine dy (yy h2) kQ bK.s.has fun w3 X3 cl=>?_;have cn:=bK.since cl;have h3:=h2.mv cl.mv;repeat' first|refine bL ?_;intros
   exact cn.fin (abY _ _ _ cn h3 rfl)
  ·repeat' first|refine bL ?_;intros
   refine xl (Td h1 e1 zQ zQ) kQ cm.s.has (fun k e=>e▸h1.box.1) fun r rZ w2 X2 ⟨hr,ny⟩ _ _ _ c2=>?_;subst hr;have h2:=h1.next c2 ⟨c2.sub _ h1.box.1,ny.2⟩ d1
   have bK:Ft wi (fun k=>k=rb) w2 X2 (fun k=>k=rb):=cm.dM c2 (fun k ai=>ai) fun k ai=>.inl ai;rw [show at_+(encI v.kind).length+(ki v.text).length=at_+(kE v).length by rw [hE,ae];omega] at h2;have ev:v.v= .agg #[I v.kind,.float .f64 0,.string v.text]:=by rw [←k2]
   rw [ev] at hK;clear hs;have hs:=aj.dY bK.s.has;repeat' first|refine aI ?_;intros
   exact hK _ _ bK h2
theorem Nk {xo:Nat} {v:eQ} (h:RB w X rb vb at_ pl bs cb xb cs ty) (he:bs.drop at_=kE v++tl) (hv:inV v) (ho:xo+3≤cs.length):
  Tf 221 #[ptr cb 0,ptr xb xo] w X rb vb (at_+(kE v).length) pl xb (b8 cs xo v.l) ty:=by
 intro wi hk;have hS:=h.start hk;have hc:=hS.c;have qX:=hS.ix he;apply yu;unfold rU;have hs:=aj.dY hS.t.s.has;repeat' first|refine aI ?_;intros
 refine hS.read (afn hS.r he hv) kQ qX fun w1 X1 iv=>?_;clear hs;have hs:=aj.dY iv.t.s.has;repeat' first|refine aI ?_;intros
 refine zH (o:=xo) iv.x rfl kQ ho rfl rfl iv.t.s.has fun w2 X2 c2 jG=>?_;have br:=iv.OH c2 jG;refine dy (AI br.toRB) kQ br.t.s.has fun w3 X3 cl=>?_;have bP:=br.since cl;clear hs;have hs:=aj.dY bP.t.s.has
 skip
 exact bP.t.fin fun wa aM=>bP.out aM
def Gw (x:KV):Prop:=x.key.size≤262144∧inV x.val
theorem aam (cs:List Value) (o:Nat) (a:Value) (l:List Value) (h:o+1+l.length≤cs.length):b8 (b8 cs o [a]) (o+1) l=b8 cs o (a::l):=by
 have h1:=Lc cs o [a] l (by simp;omega);simpa using h1
theorem Zb {xo:Nat} {x:KV} (h:RB w X rb vb at_ pl bs cb xb cs ty) (he:bs.drop at_=cM x++tl) (hn:Gw x) (ho:xo+4≤cs.length):
  Tf 151 #[ptr cb 0,ptr xb xo] w X rb vb (at_+(cM x).length) pl xb (b8 cs xo x.l) ty:=by
 intro wi hk;have hS:=h.start hk;have e1:bs.drop at_=ki x.key++(kE x.val++tl):=by rw [he];unfold cM;rw [au]
 have e2:=jU e1;have d1:=hS.ix e1;have Am:(b8 cs xo [.string x.key]).length=cs.length:=rV _ _ _ (by simp;omega);apply yt;unfold rT;repeat' first|refine aI ?_;intros|(with_reducible refine nz kQ kQ ?_)
 refine hS.call (Qz (xo:=xo) hS.toRB e1 hn.1 zQ) kQ d1 fun w1 X1 iv=>?_;have d2:=iv.ix e2;repeat' first|refine aI ?_;intros|(with_reducible refine nz kQ kQ ?_)
 refine iv.call (Nk iv.toRB e2 hn.2 zQ) kQ d2 fun w2 X2 br=>?_
 skip
 rw [aam _ _ _ _ (by simp;omega)] at br;have e:at_+(ki x.key).length+(kE x.val).length=at_+(cM x).length:=by unfold cM;simp only [ae];omega
 rw [e] at br;exact br.t.fin fun wa aM=>br.out aM
theorem abZ {xo:Nat} {x:KV} (h:RB w X rb vb at_ pl bs cb xb cs ty) (he:bs.drop at_=cM x++tl) (hn:Gw x) (ho:xo+4≤cs.length):
  Tf 153 #[ptr cb 0,ptr xb xo] w X rb vb (at_+(cM x).length) pl xb (b8 cs xo x.l) ty:=by
 intro wi hk;have hS:=h.start hk;have e1:bs.drop at_=ki x.key++(kE x.val++tl):=by rw [he];unfold cM;rw [au]
 have e2:=jU e1;have d1:=hS.ix e1;have Am:(b8 cs xo [.string x.key]).length=cs.length:=rV _ _ _ (by simp;omega);apply ze;unfold sN;repeat' first|refine aI ?_;intros|(with_reducible refine nz kQ kQ ?_)
 refine hS.call (Qz (xo:=xo) hS.toRB e1 hn.1 zQ) kQ d1 fun w1 X1 iv=>?_;have d2:=iv.ix e2;repeat' first|refine aI ?_;intros|(with_reducible refine nz kQ kQ ?_)
 refine iv.call (Nk iv.toRB e2 hn.2 zQ) kQ d2 fun w2 X2 br=>?_
 skip
 rw [aam _ _ _ _ (by simp;omega)] at br;have e:at_+(ki x.key).length+(kE x.val).length=at_+(cM x).length:=by unfold cM;simp only [ae];omega
 rw [e] at br;exact br.t.fin fun wa aM=>br.out aM
end
theorem XM {P:Program} {X:XS} {w:World} {t e k lo:Nat} {v:Value} {z:Int} {rows:List (List Value)} {r:List Value} {N:Value→Prop} (h:Own w X lo e k v (rows++[r])) (hz:z=rows.length)
  (ht:P.underlying t=some (.slice (P.elem t))) (hs:(P.info? (P.elem t)).map (·.size)=some k)
  (n: ∀g cs,bH w X g cs e→lo≤g→v.ownBlock=some g→rows.length*k+k≤cs.length→cs.take (rows.length*k)=rows.flatten→
   (∀w' X' r',r'.length=k→bH w' X' g (b8 cs (rows.length*k) r') e→Own w' X' lo e k v (rows++[r']))→N (ptr g (rows.length*k))):aa P X w (dD t k v (.int .i64 z)) N:=by
 subst hz;have j7:=h.sl;obtain⟨h1,h2,h3⟩:=h;have hlr:(rows++[r]).length=rows.length+1:=by simp
 rcases h2.2 with⟨rfl,hn⟩|⟨g,cap,cur,rfl,hb,hg,ta,lA,jj,qU⟩
 ·rw [hlr] at hn;cases hn
 rw [hlr] at ta qU;have mQ:(rows.length+1)*k=rows.length*k+k:=Nat.succ_mul _ _;have hck:(rows.length+1)*k≤cap*k:=Nat.mul_le_mul_right k ta;have eI:rows.flatten.length=rows.length*k:=by
  have h4: ∀x∈rows,x.length=k:=fun x hx=>h1 x (bR _ hx);exact tJ h4
 have ajq:cur.toList.take (rows.length*k)=rows.flatten:=by
  have:=congrArg (List.take (rows.length*k)) qU;rw [List.take_take,Nat.min_eq_left zQ,gb,om eI] at this;exact this
 have Bm:cur.toList.length=cur.size:=Array.length_toList;have hA:rows.length*k+k≤cur.toList.length:=by rw [Bm,jj,←mQ];exact hck
 unfold dD;refine bX (fun wa=>?_) (n g cur.toList ⟨h3 g rfl,by simpa using hg⟩ hb rfl hA ajq ?_)
 ·rw [run_indexAt_slice (h:=ht),if_pos (by rw [hlr];omega)];cases hq:P.info? (P.elem t)with
  |none=>simp [hq] at hs
  |some inf=>
   have:inf.size=k:=by simpa [hq] using hs
   simp [sizeOf,typeInfo,hq,this,vT]
 ·intro w' X' r' uo dA;refine⟨fun x hx=>?_,⟨?_,.inr ⟨g,cap,(b8 cur.toList (rows.length*k) r').toArray,?_,hb,dA.2,by rw [ae];exact ta,lA,?_,?_⟩⟩,fun q hq=>?_⟩
  ·rcases List.mem_append.1 hx with hx|hx
   ·exact h1 x (bR _ hx)
   ·simp only [aV] at hx;subst hx;exact uo
  ·rw [gb,ae,eI];simp [uo,mQ]
  ·rw [ae,ae];rfl
  ·rw [List.size_toArray,rV _ _ _ (by rw [uo];exact hA),Bm];exact jj
  ·show List.take _ (b8 _ _ _)=_
   unfold b8;rw [ae,List.length_singleton,mQ,gb,ajq];simp only [cD,List.flatten_nil,List.append_nil];rw [om (by rw [ae,eI,uo])]
  ·cases hq;exact dA.1
abbrev fH:Value:=.slice none 0 0
theorem RZ: ∀xs:List KV,xs.length≤(xs.map cM).flatten.length
 |[]=>by simp
 |x::xs=>by
  have h1:=RZ xs;have h2:=GA x.key.size;have h3:=nq x.key;have h4:(cM x).length=(ki x.key).length+(kE x.val).length:=by unfold cM;rw [ae]
  simp only [bc,cD,ae,aY];omega
section
variable {w0 w wa w' : World} {X X' : XS} {rb at_ iX cb xb : Nat} {vb : Value} {pl : Int} {bs tl : List Nat} {cs mY : List Value} {ty : TypeId}
structure ab0 (w0:World) (rb:Nat) (vb:Value) (cb xb:Nat):Prop where
 r:rb<w0.heap.size
 x:xb<w0.heap.size
 c:cb<w0.heap.size
 v: ∀g,iu vb g→g<w0.heap.size
theorem RS.af6 (h:RS w0 w0 (ba w0) rb vb at_ pl bs cb xb cs ty):ab0 w0 rb vb cb xb:=⟨h.r.box.1,h.x.1,h.c.1,fun g hg=>(h.r.ow.aU hg).1⟩
theorem RS.ajr {G:XS} (h:RS w0 w X rb vb at_ pl bs cb xb cs ty) (e:ab0 w0 rb vb cb xb) (c:eD G X w X' w') (hG: ∀k,G k→X k∧w0.heap.size≤k):RS w0 w' X' rb vb at_ pl bs cb xb cs ty:=by
 have no: ∀{k},k<w0.heap.size→ ¬G k:=fun hk hg=>by have:=(hG _ hg).2;omega
 refine⟨⟨⟨h.r.box.dM c (no e.r),h.r.ow.dM c fun g hg qu=>no (e.v g hg) qu,h.r.le,h.r.sz,h.r.lt⟩,h.x.dM c (no e.x),h.c.dM c (no e.c),h.c1,h.c2,h.rx,h.vx⟩,?_⟩;exact(h.t.more (F':=fun k=>(k=rb∨k=xb)∨G k) fun k hk=>hk.imp id fun hg=>hG k hg).dM c (fun k hg=>.inr hg) fun k hk=>.inl (.inl hk)
theorem RS.af7 {g:Nat} (h:RS w0 w X rb vb at_ pl bs cb xb cs ty) (e:ab0 w0 rb vb cb xb) (c:eD (fun k=>k=rb∨k=g) X w X' w') (hg:X g∧w0.heap.size≤g) (hr:bH w' X' rb [vb,I iX,I 0,I pl] 223) (hl:iX≤bs.length):RS w0 w' X' rb vb iX pl bs cb xb cs ty:=by
 have ex:=e.x;have ec:=e.c;have er:=e.r;refine⟨⟨⟨hr,h.r.ow.dM c fun q hq OU=>OU.elim (fun e2=>h.r.ow.dJ h.r.box kQ (e2▸hq)) fun e2=>by have:=e.v q hq;omega,hl,h.r.sz,h.r.lt⟩,h.x.dM c (fun e2=>e2.elim (fun e2=>h.rx e2.symm) fun e2=>by omega),h.c.dM c (fun e2=>e2.elim h.c1 fun e2=>by omega),h.c1,h.c2,h.rx,h.vx⟩,?_⟩;exact(h.t.more (F':=fun k=>(k=rb∨k=xb)∨k=g) fun k hk=>hk.imp id fun (e2:k=g)=>by subst e2;exact hg).dM c (fun k hk=>hk.elim (fun e2=>.inl (.inl e2)) .inr) fun k hk=>.inl (.inl hk)
theorem QA (cs:List Value) (o:Nat) (a b:Value) (h:o+1≤cs.length):b8 (b8 cs o [a]) o [b]=b8 cs o [b]:=by
 have h1:(cs.take o).length=o:=by rw [bp];omega
 unfold b8;simp only [aY,bz];have e1:(cs.take o++[a]++cs.drop (o+1)).take o=cs.take o:=by rw [au,om h1]
 have e2:(cs.take o++[a]++cs.drop (o+1)).drop (o+1)=cs.drop (o+1):=by rw [jd (by simp [h1])]
 simp only [Nat.zero_add] at*;rw [e1,e2]
theorem wJ {o:Nat} {u:Value} (h:bH w X xb (b8 cs o [u]) ty) (ho:o+1≤cs.length):Cells w X xb o [u]:=by
 have h1:(cs.take o).length=o:=by rw [bp];omega
 refine⟨h.1,_,ty,(0,0),h.2,fun j x hj=>?_⟩;cases j with
 |zero=>
  simp at hj;subst hj;rw [List.getElem?_toArray,Nat.add_zero];unfold b8;rw [au,List.getElem?_append_right zQ,h1];simp
 |succ j=>simp at hj
theorem OY {xo:Nat} {xs:List KV} (h:RB w X rb vb at_ pl bs cb xb cs ty) (he:bs.drop at_=fY cM xs++tl) (hn: ∀x∈xs,Gw x) (hl:xs.length≤2^30) (ho:cs[xo]? =some fH):
  Ct pg 150 #[ptr cb 0,ptr xb xo,.func (.func 151) #[ptr cb 0] #[]] w X (fun k=>k=rb∨k=xb) fun v wa w'=> ∃va,v= .tuple #[]∧
   bH w' (fun k=>k=rb) rb [vb,I ((at_+(fY cM xs).length:Nat):Int),I 0,I pl] 223∧bH w' (fun k=>k=xb) xb (b8 cs xo [va]) ty∧Own w' (made wa w') wa.heap.size 53 4 va (xs.map KV.l):=by
 intro wi hk;have hS:=h.start hk;have hc:=hS.c;have QB:xo+1≤cs.length:=(List.getElem?_eq_some_iff.1 ho).1;have e0:bs.drop at_=encI xs.length++((xs.map cM).flatten++tl):=by rw [he];unfold fY;rw [au]
 have d0:=hS.ix e0;have e1:=jU e0;have hfg:=RZ xs;have d1:at_+(encI xs.length).length+(xs.map cM).flatten.length≤bs.length:=by
  have h1:=congrArg az e1;rw [bU,ae] at h1;omega
 have Co:Cells wi (ba wi) xb xo [fH]:=⟨hS.x.1,cs.toArray,ty,(0,0),hS.x.2,fun j u hj=>by
  cases j with
  |zero=>simp at hj;subst hj;simpa using ho
  |succ j=>simp at hj⟩
 have hnl:Sl wi (ba wi) 4 fH (([]:List KV).map KV.l):=Sl.nil _ _ _;apply py;unfold mq;have hs:=aj.dY hS.t.s.has;have qt:=hS.af6;repeat' first|refine aI ?_;intros
 refine fk (Q:=fun K=> ∀w X,RS wi w X rb vb (at_+(encI xs.length).length) pl bs cb xb (b8 cs xo [fH]) ty→K (I xs.length) w X) ?_ fun K hK=>?_
 ·intro w1 X1 iv;refine fV (fun m a w X=> ∃(i:Nat) (va:Value),a=I i∧m=xs.length-i∧i≤xs.length∧RS wi w X rb vb (at_+(encI xs.length).length+((xs.take i).map cM).flatten.length) pl bs cb xb (b8 cs xo [va]) ty∧Own w X wi.heap.size 53 4 va ((xs.take i).map KV.l)) xs.length ⟨0,fH,rfl,rfl,aN _,by simpa using iv,Own.nil _ _ _ _ _⟩ ?_;clear iv hs Co hc;rintro m a w2 X2 ⟨i,va,rfl,rfl,hi,br,m7⟩;have hs:=aj.dY br.t.s.has;rcases ej xs i with⟨cH,x,hx,hd⟩|⟨eh,hd⟩
  ·have hc:=br.c;have Co:=wJ br.x QB;have ZA:((xs.take i).map KV.l).length=i:=by simp;omega
   have fU:=hn x (aX hx);have Ki:((xs.take (i+1)).map cM).flatten=((xs.take i).map cM).flatten++cM x:=iY hx;have ei:bs.drop (at_+(encI xs.length).length+((xs.take i).map cM).flatten.length)=cM x++(((xs.drop (i+1)).map cM).flatten++tl):=by
    have h1:(xs.map cM).flatten=((xs.take i).map cM).flatten++(cM x++((xs.drop (i+1)).map cM).flatten):=by
     conv=>lhs;rw [←jI i xs,hd]
     rw [aT,gb,bc,cD]
    rw [h1] at e1;rw [←fu,e1];simp only [au];rw [ua]
   repeat' first|refine bL ?_;intros
   refine fk (Q:=fun K=> ∀w X va,RS wi w X rb vb (at_+(encI xs.length).length+((xs.take i).map cM).flatten.length) pl bs cb xb (b8 cs xo [va]) ty→Own w X wi.heap.size 53 4 va ((xs.take i).map KV.l++[(⟨⟨#[]⟩,eQ.zero⟩:KV).l])→K w X) ?_ fun K hK=>?_
   ·intro w3 X3 XN bP oZ;clear hs hc Co;have hs:=aj.dY bP.t.s.has;have Co:=wJ bP.x QB;repeat' first|refine aI ?_;intros
    refine XM oZ (by rw [ZA]) kQ kQ fun g csg hg fv hbg hlen qU XO=>?_;refine tQ ?_;have eh:rb<g∧xb<g∧cb<g:=by have:=qt.r;have:=qt.x;have:=qt.c;omega
    have zT:RB w3 X3 rb vb (at_+(encI xs.length).length+((xs.take i).map cM).flatten.length) pl bs cb g csg 53:=⟨bP.r,hg,bP.c,bP.c1,by omega,by omega,fun hb=>by have:=qt.v g hb;omega⟩;rw [ZA] at XO hlen⊢;have di:=zT.ix ei;refine xl (Zb (xo:=i*4) zT ei fU hlen) kQ bP.t.s.has (fun k e=>e.elim (fun e=>e▸bP.r.box.1) fun e=>e▸hg.1) fun v wa w4 X4 ⟨hv,o9,hx4⟩ _ _ _ c4=>?_;subst hv;have ep:=bP.af7 qt c4 ⟨hg.1,fv⟩ ⟨c4.sub _ bP.r.box.1,o9.2⟩ di;have yI:=XO w4 X4 x.l rfl ⟨c4.sub _ hg.1,hx4.2⟩;clear hs;have hs:=aj.dY ep.t.s.has;repeat' first|refine aI ?_;intros
    refine fF (xs.length-(i+1)) zQ ⟨i+1,XN,by simp,rfl,by omega,?_,?_⟩
    ·rw [Ki,ae,←Nat.add_assoc];exact ep
    ·rw [ca,hx,aT];exact yI
   ·repeat' first|refine aI ?_;intros|(with_reducible apply Lh);(case hX=>exact hs.has);(case he=>kernel_rfl);(case hk=>rfl);intro acc w X aq ho;obtain⟨_,_,_,rfl⟩:=ho.sl.form;replace hs:=hs.trans aq
    have OI:=br.since hs;have OJ:=m7.since hs;refine aae (bytes:=48) (eo:=[(⟨⟨#[]⟩,eQ.zero⟩:KV).l]) OJ OI.t.s.has OI.t.s.kp.size kQ ho.sl (fun r hr u hu=>?_) (by simp;omega) (by simp;omega) fun XN w3 X3 c3 oZ adQ=>?_
    ·simp only [aV] at hr;subst hr;simp at hu;rcases hu with rfl|rfl|rfl|rfl<;>rfl
    have bP:=OI.ajr qt c3 fun k ai=>⟨(OJ.ow.aU ai).1,(OJ.ge ai).1⟩;clear hs hc Co;have hs:=aj.dY bP.t.s.has;repeat' first|refine aI ?_;intros
    refine kK (o:=xo) bP.x rfl kQ (by rw [rV _ _ _ (by simp;omega)];omega) oZ.sl.one bP.t.s.has fun w4 X4 c4 o9=>?_;rw [QA _ _ _ _ QB] at o9;have ep:=bP.OH c4 o9;exact hK _ _ XN ep (oZ.dM c4 fun g hg e=>by have:=(oZ.ge hg).1;have:=qt.x;have e:g=xb:=e;omega)
  ·have jM:i=xs.length:=by omega
   subst jM;rw [dE] at br m7;have e:at_+(encI xs.length).length+(xs.map cM).flatten.length=at_+(fY cM xs).length:=by unfold fY;rw [ae];omega
   rw [e] at br;repeat' first|refine bL ?_;intros
   refine br.t.fin fun wa aM=>⟨va,rfl,(br.out aM).2.1,(br.out aM).2.2,(m7.kp aM).tight⟩
 ·repeat' first|refine aI ?_;intros
  refine dy (Te hS.r) kQ hS.t.s.has fun w1 X1 aq=>?_;have iv:=hS.since aq;refine iv.read (Qy iv.r e0 zQ (by have:=iv.r.sz;omega)) kQ d0 fun w2 X2 br=>?_;refine dy (AI br.toRB) kQ br.t.s.has fun w3 X3 cl=>?_;have bP:=br.since cl;clear hs;have hs:=aj.dY bP.t.s.has;repeat' first|refine aI ?_;intros
  refine kK (o:=xo) bP.x rfl kQ QB rfl bP.t.s.has fun w4 X4 c4 o9=>?_;exact hK _ _ (bP.OH c4 o9)
theorem QJ {xo:Nat} {xs:List KV} (h:RB w X rb vb at_ pl bs cb xb cs ty) (he:bs.drop at_=fY cM xs++tl) (hn: ∀x∈xs,Gw x) (hl:xs.length≤2^30) (ho:cs[xo]? =some fH):
  Ct pg 152 #[ptr cb 0,ptr xb xo,.func (.func 153) #[ptr cb 0] #[]] w X (fun k=>k=rb∨k=xb) fun v wa w'=> ∃va,v= .tuple #[]∧
   bH w' (fun k=>k=rb) rb [vb,I ((at_+(fY cM xs).length:Nat):Int),I 0,I pl] 223∧bH w' (fun k=>k=xb) xb (b8 cs xo [va]) ty∧Own w' (made wa w') wa.heap.size 74 4 va (xs.map KV.l):=by
 intro wi hk;have hS:=h.start hk;have hc:=hS.c;have QB:xo+1≤cs.length:=(List.getElem?_eq_some_iff.1 ho).1;have e0:bs.drop at_=encI xs.length++((xs.map cM).flatten++tl):=by rw [he];unfold fY;rw [au]
 have d0:=hS.ix e0;have e1:=jU e0;have hfg:=RZ xs;have d1:at_+(encI xs.length).length+(xs.map cM).flatten.length≤bs.length:=by
  have h1:=congrArg az e1;rw [bU,ae] at h1;omega
 have Co:Cells wi (ba wi) xb xo [fH]:=⟨hS.x.1,cs.toArray,ty,(0,0),hS.x.2,fun j u hj=>by
  cases j with
  |zero=>simp at hj;subst hj;simpa using ho
  |succ j=>simp at hj⟩
 have hnl:Sl wi (ba wi) 4 fH (([]:List KV).map KV.l):=Sl.nil _ _ _;apply pV;unfold mO;have hs:=aj.dY hS.t.s.has;have qt:=hS.af6;repeat' first|refine aI ?_;intros
 refine fk (Q:=fun K=> ∀w X,RS wi w X rb vb (at_+(encI xs.length).length) pl bs cb xb (b8 cs xo [fH]) ty→K (I xs.length) w X) ?_ fun K hK=>?_
 ·intro w1 X1 iv;refine fV (fun m a w X=> ∃(i:Nat) (va:Value),a=I i∧m=xs.length-i∧i≤xs.length∧RS wi w X rb vb (at_+(encI xs.length).length+((xs.take i).map cM).flatten.length) pl bs cb xb (b8 cs xo [va]) ty∧Own w X wi.heap.size 74 4 va ((xs.take i).map KV.l)) xs.length ⟨0,fH,rfl,rfl,aN _,by simpa using iv,Own.nil _ _ _ _ _⟩ ?_;clear iv hs Co hc;rintro m a w2 X2 ⟨i,va,rfl,rfl,hi,br,m7⟩;have hs:=aj.dY br.t.s.has;rcases ej xs i with⟨cH,x,hx,hd⟩|⟨eh,hd⟩
  ·have hc:=br.c;have Co:=wJ br.x QB;have ZA:((xs.take i).map KV.l).length=i:=by simp;omega
   have fU:=hn x (aX hx);have Ki:((xs.take (i+1)).map cM).flatten=((xs.take i).map cM).flatten++cM x:=iY hx;have ei:bs.drop (at_+(encI xs.length).length+((xs.take i).map cM).flatten.length)=cM x++(((xs.drop (i+1)).map cM).flatten++tl):=by
    have h1:(xs.map cM).flatten=((xs.take i).map cM).flatten++(cM x++((xs.drop (i+1)).map cM).flatten):=by
     conv=>lhs;rw [←jI i xs,hd]
     rw [aT,gb,bc,cD]
    rw [h1] at e1;rw [←fu,e1];simp only [au];rw [ua]
   repeat' first|refine bL ?_;intros
   refine fk (Q:=fun K=> ∀w X va,RS wi w X rb vb (at_+(encI xs.length).length+((xs.take i).map cM).flatten.length) pl bs cb xb (b8 cs xo [va]) ty→Own w X wi.heap.size 74 4 va ((xs.take i).map KV.l++[(⟨⟨#[]⟩,eQ.zero⟩:KV).l])→K w X) ?_ fun K hK=>?_
   ·intro w3 X3 XN bP oZ;clear hs hc Co;have hs:=aj.dY bP.t.s.has;have Co:=wJ bP.x QB;repeat' first|refine aI ?_;intros
    refine XM oZ (by rw [ZA]) kQ kQ fun g csg hg fv hbg hlen qU XO=>?_;refine tQ ?_;have eh:rb<g∧xb<g∧cb<g:=by have:=qt.r;have:=qt.x;have:=qt.c;omega
    have zT:RB w3 X3 rb vb (at_+(encI xs.length).length+((xs.take i).map cM).flatten.length) pl bs cb g csg 74:=⟨bP.r,hg,bP.c,bP.c1,by omega,by omega,fun hb=>by have:=qt.v g hb;omega⟩;rw [ZA] at XO hlen⊢;have di:=zT.ix ei;refine xl (abZ (xo:=i*4) zT ei fU hlen) kQ bP.t.s.has (fun k e=>e.elim (fun e=>e▸bP.r.box.1) fun e=>e▸hg.1) fun v wa w4 X4 ⟨hv,o9,hx4⟩ _ _ _ c4=>?_;subst hv;have ep:=bP.af7 qt c4 ⟨hg.1,fv⟩ ⟨c4.sub _ bP.r.box.1,o9.2⟩ di;have yI:=XO w4 X4 x.l rfl ⟨c4.sub _ hg.1,hx4.2⟩;clear hs;have hs:=aj.dY ep.t.s.has;repeat' first|refine aI ?_;intros
    refine fF (xs.length-(i+1)) zQ ⟨i+1,XN,by simp,rfl,by omega,?_,?_⟩
    ·rw [Ki,ae,←Nat.add_assoc];exact ep
    ·rw [ca,hx,aT];exact yI
   ·repeat' first|refine aI ?_;intros|(with_reducible apply Lh);(case hX=>exact hs.has);(case he=>kernel_rfl);(case hk=>rfl);intro acc w X aq ho;obtain⟨_,_,_,rfl⟩:=ho.sl.form;replace hs:=hs.trans aq
    have OI:=br.since hs;have OJ:=m7.since hs;refine aae (bytes:=48) (eo:=[(⟨⟨#[]⟩,eQ.zero⟩:KV).l]) OJ OI.t.s.has OI.t.s.kp.size kQ ho.sl (fun r hr u hu=>?_) (by simp;omega) (by simp;omega) fun XN w3 X3 c3 oZ adQ=>?_
    ·simp only [aV] at hr;subst hr;simp at hu;rcases hu with rfl|rfl|rfl|rfl<;>rfl
    have bP:=OI.ajr qt c3 fun k ai=>⟨(OJ.ow.aU ai).1,(OJ.ge ai).1⟩;clear hs hc Co;have hs:=aj.dY bP.t.s.has;repeat' first|refine aI ?_;intros
    refine kK (o:=xo) bP.x rfl kQ (by rw [rV _ _ _ (by simp;omega)];omega) oZ.sl.one bP.t.s.has fun w4 X4 c4 o9=>?_;rw [QA _ _ _ _ QB] at o9;have ep:=bP.OH c4 o9;exact hK _ _ XN ep (oZ.dM c4 fun g hg e=>by have:=(oZ.ge hg).1;have:=qt.x;have e:g=xb:=e;omega)
  ·have jM:i=xs.length:=by omega
   subst jM;rw [dE] at br m7;have e:at_+(encI xs.length).length+(xs.map cM).flatten.length=at_+(fY cM xs).length:=by unfold fY;rw [ae];omega
   rw [e] at br;repeat' first|refine bL ?_;intros
   refine br.t.fin fun wa aM=>⟨va,rfl,(br.out aM).2.1,(br.out aM).2.2,(m7.kp aM).tight⟩
 ·repeat' first|refine aI ?_;intros
  refine dy (Te hS.r) kQ hS.t.s.has fun w1 X1 aq=>?_;have iv:=hS.since aq;refine iv.read (Qy iv.r e0 zQ (by have:=iv.r.sz;omega)) kQ d0 fun w2 X2 br=>?_;refine dy (AI br.toRB) kQ br.t.s.has fun w3 X3 cl=>?_;have bP:=br.since cl;clear hs;have hs:=aj.dY bP.t.s.has;repeat' first|refine aI ?_;intros
  refine kK (o:=xo) bP.x rfl kQ QB rfl bP.t.s.has fun w4 X4 c4 o9=>?_;exact hK _ _ (bP.OH c4 o9)
end
abbrev jz:Value:=.slice none 0 0
abbrev MA (kd fr to:Int) (prev st:bE) (t:gf) (a:Value):Value:=.agg #[I kd,I fr,I to,I t.jr,I t.mA,I t.sq,I 0,I 0,I 0,I st.wall,I st.fi,I st.node,I prev.wall,I prev.fi,I prev.node,
 B false,I 0,I 0,jz,jz,a,jz,jz,jz,I 0,I 0,.float .f64 0,.float .f64 0,I 0,I 0,I 0,I 0,I 0,I 0,jz,jz]
def tA (n:Int):Bool:=(decide (n≥1)&&decide (n≤12))||(decide (n>20)&&decide (n≤22))||decide (n=31)||decide (n=32)
theorem vP (n:Int):Pure pg 163 #[I n] (B (decide (n≥1)&&decide (n≤12))):=by
 intro w;apply RH;unfold FQ;have hs:=aj.init w;repeat' first|refine aI ?_;intros|refine de ?_ ?_<;>intros|(with_reducible refine eY hs ?_);simp_all<;>omega
theorem Nl (n:Int):Pure pg 100 #[I n] (B (tA n)):=by
 intro w;apply Xf;unfold Ky;have hs:=aj.init w;repeat' first|refine aI ?_;intros|refine de ?_ ?_<;>intros|((with_reducible refine dI (vP _) ?_ hs.has ?_ ?_);(· kernel_rfl);all_goals (intro _ w X aq;replace hs:=hs.trans aq))|(with_reducible refine eY hs ?_);simp_all [tA]<;>omega
theorem R0 {fr to:Int} {prev st:bE} {t:gf} {a:Value} (ha:dL.one a=true):Pure pg 99 #[MA 12 fr to prev st t a] (.tuple #[MA 12 fr to bE.zero bE.zero gf.zero jz,B true]):=by
 intro w;apply Ej;unfold yd;have hs:=aj.init w;repeat' first|refine aI ?_;intros|refine de ?_ ?_<;>intros|with_reducible apply cG|((with_reducible refine eY hs ?_);(first|rfl|(exfalso;omega)))
theorem Zc {kd fr to:Int} :Pure pg 101 #[MA kd fr to bE.zero bE.zero gf.zero jz] (B true):=by
 intro w;apply KS;unfold Df;have hs:=aj.init w;have hn0:Sl w (ba w) 1 jz (([]:List KV).map KV.l):=Sl.nil _ _ _;repeat' first|refine aI ?_;intros|refine de ?_ ?_<;>intros|(with_reducible refine xM _ ?_ ?_ ?_);(· kernel_rfl);all_goals intros|(with_reducible refine Xv _ ?_ ?_ ?_);(· kernel_rfl);all_goals intros|(with_reducible apply WQ);(· kernel_rfl);all_goals intros|with_reducible apply cG|((with_reducible refine eY hs ?_);(first|rfl|(exfalso;simp_all;done)|(exfalso;omega)))|((with_reducible refine xR (wC _) hs.has ?_);intro w X aq;replace hs:=hs.trans aq;replace hn0:Sl w X 1 jz (([]:List KV).map KV.l):=Sl.nil _ _ _)
theorem TU {w:World} {X:XS} {fr to:Int} {prev st:bE} {t:gf} {a:Value} {l:List KV} (h:Sl w X 4 a (l.map KV.l)) (hb:l.length≤2^40):
  Ct pg 102 #[MA 12 fr to prev st t a] w X nX fun v _ _=>v=B (ik prev st t l):=by
 intro w0 hk;replace h:=h.mv hk.dm;have o1:=h.one;apply Ge;unfold zw;have hs:=aj.init w0;repeat' first|refine aI ?_;intros|refine de ?_ ?_<;>intros|with_reducible apply cG|((with_reducible refine dI (vP _) ?_ hs.has ?_ ?_);(· kernel_rfl);all_goals (intro _ w X aq;replace hs:=hs.trans aq))|((with_reducible refine dI (oz _) ?_ hs.has ?_ ?_);(· kernel_rfl);all_goals (intro _ w X aq;replace hs:=hs.trans aq))|(exfalso;omega)|((first|(with_reducible refine ak hs ?_)|(with_reducible refine ak (bT.trans hs) ?_));intro wa hk;(rfl))|(refine dy (Dm  qA hb) kQ hs.has ?_;intro w X aq;replace hs:=hs.trans aq)
theorem aav {w:World} {X:XS} {fr to:Int} {prev st:bE} {t:gf} {a:Value} {l:List KV} (h:Sl w X 4 a (l.map KV.l)) (hb:l.length≤2^40):
  Ct pg 52 #[MA 12 fr to prev st t a] w X nX fun v _ _=>v=I (if tA fr&&tA to&&ik prev st t l then 0 else 4):=by
 intro w0 hk;replace h:=h.mv hk.dm;have o1:=h.one;apply Nc;unfold EN;have hs:=aj.init w0;repeat' first|refine aI ?_;intros|with_reducible apply cG|((with_reducible refine dI (Nl _) ?_ hs.has ?_ ?_);(· kernel_rfl);all_goals (intro _ w X aq;replace hs:=hs.trans aq))|((first|(with_reducible refine ak hs ?_)|(with_reducible refine ak (bT.trans hs) ?_));intro wa hk;(simp_all))|(refine gh (R0 o1) kQ hs.has ?_;intro w X aq;replace hs:=hs.trans aq)|(refine gh Zc kQ hs.has ?_;intro w X aq;replace hs:=hs.trans aq)|(refine gJ (TU  qA hb) kQ hs.has ?_ ?_<;>(intro _ w X aq;replace hs:=hs.trans aq))
@[ext] structure mM where
 key:BA
 val:eQ
 aP:bE
 deriving DecidableEq
abbrev mM.l (x:mM):List Value:=[.string x.key,I x.val.kind,.float .f64 x.val.num,.string x.val.text,I x.aP.wall,I x.aP.fi,I x.aP.node]
@[ext] structure fJ where
 kind:Int
 fr:Int
 to:Int
 cB:gf
 range:Int
 ku:Int
 code:Int
 aP:bE
 prev:bE
 jW:Bool
 n:Int
 mx:Int
 keys:List BA
 seen:List mM
 writes:List KV
 parts:List Int
 ranges:List l9
 bS:List Rec
 state:State
 deriving DecidableEq
abbrev fJ.l (m:fJ) (vk vs vw vp vr vc vh vd:Value):List Value:=[I m.kind,I m.fr,I m.to,I m.cB.jr,I m.cB.mA,I m.cB.sq,I m.range,I m.ku,I m.code,
 I m.aP.wall,I m.aP.fi,I m.aP.node,I m.prev.wall,I m.prev.fi,I m.prev.node,B m.jW,I m.n,I m.mx,vk,vs,vw,vp,vr,vc,
 I m.state.range.id,I m.state.range.ku,.float .f64 m.state.range.lo,.float .f64 m.state.range.hi,
 I m.state.floor.wall,I m.state.floor.fi,I m.state.floor.node,I m.state.closed.wall,I m.state.closed.fi,I m.state.closed.node,vh,vd]
abbrev fJ.v (m:fJ) (vk vs vw vp vr vc vh vd:Value):Value:=.agg #[I m.kind,I m.fr,I m.to,I m.cB.jr,I m.cB.mA,I m.cB.sq,I m.range,I m.ku,I m.code,
 I m.aP.wall,I m.aP.fi,I m.aP.node,I m.prev.wall,I m.prev.fi,I m.prev.node,B m.jW,I m.n,I m.mx,vk,vs,vw,vp,vr,vc,
 I m.state.range.id,I m.state.range.ku,.float .f64 m.state.range.lo,.float .f64 m.state.range.hi,
 I m.state.floor.wall,I m.state.floor.fi,I m.state.floor.node,I m.state.closed.wall,I m.state.closed.fi,I m.state.closed.node,vh,vd]
structure fJ.at (w:World) (X:XS) (m:fJ) (vk vs vw vp vr vc vh vd:Value):Prop where
 keys:Sl w X 1 vk (m.keys.map S1)
 seen:Sl w X 7 vs (m.seen.map mM.l)
 writes:Sl w X 4 vw (m.writes.map KV.l)
 parts:Sl w X 1 vp (m.parts.map I1)
 ranges:Sl w X 4 vr (m.ranges.map l9.l)
 bS:ic w X 29 vc Rec.rd m.bS
 ia:mi w X vh m.state.ia
 g8:lF w X vd m.state.g8
theorem fJ.at.mv {w w':World} {X Y:XS} {m:fJ} {vk vs vw vp vr vc vh vd:Value} (h:m.at w X vk vs vw vp vr vc vh vd) (v:Mv X w Y w'):m.at w' Y vk vs vw vp vr vc vh vd:=
 ⟨h.keys.mv v,h.seen.mv v,h.writes.mv v,h.parts.mv v,h.ranges.mv v,ic.mv h.bS Rec.mv v,ic.mv h.ia jl.mv v,ic.mv h.g8 eG.mv v⟩
def fJ.rd (w:World) (X:XS) (l:List Value) (m:fJ):Prop:= ∃vk vs vw vp vr vc vh vd,l=m.l vk vs vw vp vr vc vh vd∧m.at w X vk vs vw vp vr vc vh vd
theorem fJ.mv:GK fJ.rd:=fun ⟨vk,vs,vw,vp,vr,vc,vh,vd,h,h1⟩ m=>⟨vk,vs,vw,vp,vr,vc,vh,vd,h,h1.mv m⟩
theorem EW {w:World} {X:XS} {a:Value} {xs:List BA} (ha:Sl w X 1 a (xs.map S1)):
  Ct pg 239 #[a] w X nX fun v _ _=>v=B (rD xs):=by
 intro w0 hk;replace ha:=ha.mv hk.dm;have lS:=ha.fQ;apply Xj;unfold KE;have hs:=aj.init w0;repeat' first|refine aI ?_;intros
 refine fV (fun n a w X=> ∃i:Nat,a=I (i:Nat)∧n=(xs).length-i∧i≤(xs).length∧aj (ba w0) w0 X w∧chain gI jk none xs=chain gI jk (pK xs i) (xs.drop i)) (xs).length ⟨0,rfl,rfl,aN _,hs,by simp [pK]⟩ ?_;rintro n a w X ⟨i,rfl,rfl,hi,hs,hw⟩;rcases ej (xs) i with⟨cH,x,hx,hd⟩|⟨eh,hd⟩
 ·rcases LF cH with⟨h0,hp⟩|⟨h0,y,hy,hp⟩<;>rw [hp,hd,chain] at hw<;>clear hd
  ·repeat' first|refine bL ?_;intros|((with_reducible refine dI (pW _) ?_ hs.has ?_ ?_);(· kernel_rfl);all_goals (intro _ w X aq;replace hs:=hs.trans aq))|((first|(with_reducible refine ak hs ?_)|(with_reducible refine ak (bT.trans hs) ?_));intro wa hk;simp_all [rD,rising,chain])|((with_reducible refine fF ((xs).length-(i+1)) ?_ ?_);omega;exact⟨i+1,by simp,rfl,by omega,hs,by rw [hw,oy hx];simp [*]⟩)
  ·repeat' first|refine bL ?_;intros|refine de ?_ ?_<;>intros|((with_reducible refine dI (pW _) ?_ hs.has ?_ ?_);(· kernel_rfl);all_goals (intro _ w X aq;replace hs:=hs.trans aq))|((first|(with_reducible refine ak hs ?_)|(with_reducible refine ak (bT.trans hs) ?_));intro wa hk;simp_all [rD,rising,chain])|((with_reducible refine fF ((xs).length-(i+1)) ?_ ?_);omega;exact⟨i+1,by simp,rfl,by omega,hs,by rw [hw,oy hx];simp [*]⟩)
 ·repeat' first|refine bL ?_;intros|refine de ?_ ?_<;>intros|((first|(with_reducible refine ak hs ?_)|(with_reducible refine ak (bT.trans hs) ?_));intro wa hk;simp_all [rD,rising,chain]<;>omega)
def mM.may (x:mM):Bool:=x.aP.may&&x.val.may&&!(decide (x.aP= .zero)&&decide (x.val.kind≠0))
def Gl (l:List mM):Bool:=l.all mM.may&&rD (l.map (·.key))
theorem Zd {w:World} {X:XS} {a:Value} {xs:List mM} (ha:Sl w X 7 a (xs.map mM.l)) (hb:xs.length≤2^40):
  Ct pg 241 #[a] w X nX fun v _ _=>v=B (Gl xs):=by
 intro w0 hk;replace ha:=ha.mv hk.dm;have lS:=ha.fQ;apply Xl;unfold KG;have hs:=aj.init w0;repeat' first|refine aI ?_;intros
 refine gN (fun n a b w X=> ∃i:Nat,a=I i∧n=xs.length-i∧i≤xs.length∧aj (ba w0) w0 X w∧Own w X w0.heap.size 9 1 b (((xs.take i).map (·.key)).map S1)∧xs.all mM.may=(xs.drop i).all mM.may) xs.length ⟨0,rfl,rfl,aN _,hs,Own.nil _ _ _ _ _,by simp⟩ ?_;rintro n a b w X ⟨i,rfl,rfl,hi,hs,ho,hw⟩;rcases ej (xs) i with⟨cH,x,hx,hd⟩|⟨eh,hd⟩
 ·rw [hd,iN] at hw;have yR: ∀q:Bool,q=false→x.may=q→Gl xs=false:=fun q hq h=>by simp [Gl,hw,h,hq]
  repeat' first|refine bL ?_;intros|refine de ?_ ?_<;>intros|(with_reducible refine xM _ ?_ ?_ ?_);(· kernel_rfl);all_goals intros|((with_reducible apply Lv);(case own=>first|assumption|exact Own.since (by assumption) (by assumption));(case hs=>assumption);(case h0=>first|exact fun _ h=>h|exact bT.has);(case he=>kernel_rfl);(case hk=>rfl);(case ho=>first|rfl|assumption);(case hb=>(simp only [aG,bp,ae,aY,bz];omega));(case hl=>(simp only [aG,bp,ae,aY,bz];omega));intro acc w X aq ho hc fm;replace hs:=aq)|with_reducible apply cG|((with_reducible refine dI (lD _) ?_ hs.has ?_ ?_);(· kernel_rfl);all_goals (intro _ w X aq;replace hs:=hs.trans aq))|((with_reducible refine dI (oz _) ?_ hs.has ?_ ?_);(· kernel_rfl);all_goals (intro _ w X aq;replace hs:=hs.trans aq))|((first|(with_reducible refine ak hs ?_)|(with_reducible refine ak (bT.trans hs) ?_));intro wa hk;(exact(congrArg B (yR false rfl (by clear yR;grind [mM.may]))).symm))|((with_reducible refine gA ((xs).length-(i+1)) ?_ ?_);omega;exact⟨i+1,by simp,rfl,by omega,hs,by rw [ca,hx];simp only [vK,aT,bc,List.map_nil];(first|exact Own.since ho (by assumption)|exact Own.since (Own.since ho (by assumption)) (by assumption)),by rw [hw];clear yR;grind [mM.may]⟩)
 ·rw [hd] at hw;rw [bN eh] at ho;repeat' first|refine bL ?_;intros|((first|(with_reducible refine ak hs ?_)|(with_reducible refine ak (bT.trans hs) ?_));intro wa hk;(rename_i h;simp [Gl,hw,h]))|(refine gJ (EW  (Own.sl ho)) kQ hs.has ?_ ?_<;>(intro _ w X aq;replace hs:=hs.trans aq))
theorem R1 {w:World} {X:XS} {a:Value} {xs:List KV} (ha:Sl w X 4 a (xs.map KV.l)) (hb:xs.length≤2^40):
  Ct pg 242 #[a] w X nX fun v _ _=>v=B (K0 xs):=by
 intro w0 hk;replace ha:=ha.mv hk.dm;have lS:=ha.fQ;apply Ql;unfold D9;have hs:=aj.init w0;repeat' first|refine aI ?_;intros
 refine gN (fun n a b w X=> ∃i:Nat,a=I i∧n=xs.length-i∧i≤xs.length∧aj (ba w0) w0 X w∧Own w X w0.heap.size 9 1 b (((xs.take i).map (·.key)).map S1)∧xs.all (·.val.may)=(xs.drop i).all (·.val.may)) xs.length ⟨0,rfl,rfl,aN _,hs,Own.nil _ _ _ _ _,by simp⟩ ?_;rintro n a b w X ⟨i,rfl,rfl,hi,hs,ho,hw⟩;rcases ej (xs) i with⟨cH,x,hx,hd⟩|⟨eh,hd⟩
 ·rw [hd,iN] at hw;have yR:x.val.may=false→K0 xs=false:=fun h=>by simp [K0,hw,h]
  repeat' first|refine bL ?_;intros|((with_reducible apply Lv);(case own=>first|assumption|exact Own.since (by assumption) (by assumption));(case hs=>assumption);(case h0=>first|exact fun _ h=>h|exact bT.has);(case he=>kernel_rfl);(case hk=>rfl);(case ho=>first|rfl|assumption);(case hb=>(simp only [aG,bp,ae,aY,bz];omega));(case hl=>(simp only [aG,bp,ae,aY,bz];omega));intro acc w X aq ho hc fm;replace hs:=aq)|((with_reducible refine dI (lD _) ?_ hs.has ?_ ?_);(· kernel_rfl);all_goals (intro _ w X aq;replace hs:=hs.trans aq))|((first|(with_reducible refine ak hs ?_)|(with_reducible refine ak (bT.trans hs) ?_));intro wa hk;(exact(congrArg B (yR (by assumption))).symm))|((with_reducible refine gA ((xs).length-(i+1)) ?_ ?_);omega;exact⟨i+1,by simp,rfl,by omega,hs,by rw [ca,hx];simp only [vK,aT,bc,List.map_nil];exact Own.since ho (by assumption),by rw [hw];clear yR;simp [*]⟩)
 ·rw [hd] at hw;rw [bN eh] at ho;repeat' first|refine bL ?_;intros|((first|(with_reducible refine ak hs ?_)|(with_reducible refine ak (bT.trans hs) ?_));intro wa hk;(rename_i h;simp [K0,hw,h]))|(refine gJ (EW  (Own.sl ho)) kQ hs.has ?_ ?_<;>(intro _ w X aq;replace hs:=hs.trans aq))
def LK (l:List l9):Bool:=l.all l9.may&&decide ((l.length:Int)≤12)
theorem XP {w:World} {X:XS} {a:Value} {xs:List l9} (ha:Sl w X 4 a (xs.map l9.l)):
  Ct pg 313 #[a] w X nX fun v _ _=>v=B (LK xs):=by
 intro w0 hk;replace ha:=ha.mv hk.dm;have lS:=ha.fQ;apply TE;unfold It;have hs:=aj.init w0;repeat' first|refine aI ?_;intros
 refine fV (fun n a w X=> ∃i:Nat,a=I (i:Nat)∧n=(xs).length-i∧i≤(xs).length∧aj (ba w0) w0 X w∧xs.all l9.may=(xs.drop i).all l9.may) (xs).length ⟨0,rfl,rfl,aN _,hs,by simp⟩ ?_;rintro n a w X ⟨i,rfl,rfl,hi,hs,hw⟩;rcases ej (xs) i with⟨cH,x,hx,hd⟩|⟨eh,hd⟩
 ·rw [hd,iN] at hw;repeat' first|refine bL ?_;intros|((with_reducible refine dI (Ng _) ?_ hs.has ?_ ?_);(· kernel_rfl);all_goals (intro _ w X aq;replace hs:=hs.trans aq))|((first|(with_reducible refine ak hs ?_)|(with_reducible refine ak (bT.trans hs) ?_));intro wa hk;(simp [LK,hw, *]))|((with_reducible refine fF ((xs).length-(i+1)) ?_ ?_);omega;exact⟨i+1,by simp,rfl,by omega,hs,by rw [hw];simp [*]⟩)
 ·rw [hd] at hw;repeat' first|refine bL ?_;intros|refine de ?_ ?_<;>intros|((first|(with_reducible refine ak hs ?_)|(with_reducible refine ak (bT.trans hs) ?_));intro wa hk;(simp_all [LK]))
def codeOk (c:Int) (XQ:Bool) (l:List l9):Bool:=if c=0 then XQ&&decide (l=[])else decide (c>0)&&decide (c≤25)&&LK l
theorem Ze {w:World} {X:XS} {c:Int} {XQ:Bool} {a:Value} {xs:List l9} (ha:Sl w X 4 a (xs.map l9.l)):
  Ct pg 240 #[I c,B XQ,a] w X nX fun v _ _=>v=B (codeOk c XQ xs):=by
 intro w0 hk;replace ha:=ha.mv hk.dm;have lS:=ha.fQ;have adP:xs.length=0↔xs=[]:=mW;apply Xk;unfold KF;have hs:=aj.init w0;cases XQ<;>
 repeat' first|refine aI ?_;intros|refine de ?_ ?_<;>intros|with_reducible apply cG|((first|(with_reducible refine ak hs ?_)|(with_reducible refine ak (bT.trans hs) ?_));intro wa hk;(simp_all [codeOk]<;>omega))|(refine gJ (XP  qA) kQ hs.has ?_ ?_<;>(intro _ w X aq;replace hs:=hs.trans aq))
def LL (l:List Int) (n:Int):Bool:=l.any fun x=>decide (x=n)
theorem ab1 {w:World} {X:XS} {z:Int} {a:Value} {xs:List Int} (ha:Sl w X 1 a (xs.map I1)):
  Ct pg 244 #[a,I z] w X nX fun v _ _=>v=B (LL xs z):=by
 intro w0 hk;replace ha:=ha.mv hk.dm;have lS:=ha.fQ;apply YT;unfold M8;have hs:=aj.init w0;repeat' first|refine aI ?_;intros
 refine fV (fun n a w X=> ∃i:Nat,a=I (i:Nat)∧n=(xs).length-i∧i≤(xs).length∧aj (ba w0) w0 X w∧LL xs z=LL (xs.drop i) z) (xs).length ⟨0,rfl,rfl,aN _,hs,by simp⟩ ?_;rintro n a w X ⟨i,rfl,rfl,hi,hs,hw⟩;rcases ej (xs) i with⟨cH,x,hx,hd⟩|⟨eh,hd⟩
 ·rw [hd] at hw;repeat' first|refine bL ?_;intros|refine de ?_ ?_<;>intros|((first|(with_reducible refine ak hs ?_)|(with_reducible refine ak (bT.trans hs) ?_));intro wa hk;(rw [hw];simp [LL, *]))|((with_reducible refine fF ((xs).length-(i+1)) ?_ ?_);omega;exact⟨i+1,by simp,rfl,by omega,hs,by rw [hw];simp [LL, *]⟩)
 ·rw [hd] at hw;repeat' first|refine bL ?_;intros|((first|(with_reducible refine ak hs ?_)|(with_reducible refine ak (bT.trans hs) ?_));intro wa hk;(rw [hw];rfl))
def LN (l:List Rec):Bool:=l.all (fun r=>decide (r.tZ=0))&&decide ((l.length:Int)≤8)
theorem XR {w:World} {X:XS} {a:Value} {xs:List Rec} (ha:ic w X 29 a Rec.rd xs) (jo: ∀r∈xs,r.small) (lz: ∀r∈xs,r.err=0→(vZ r).length≤2^33):
  Ct pg 166 #[a] w X nX fun v _ _=>v=B (LN xs):=by
 intro w0 hk;replace ha:=ic.mv ha Rec.mv hk.dm;have lS:=ha.len;apply TA;unfold Ip;have hs:=aj.init w0;repeat' first|refine aI ?_;intros
 refine fV (fun n a w X=> ∃i:Nat,a=I (i:Nat)∧n=(xs).length-i∧i≤(xs).length∧aj (ba w0) w0 X w∧xs.all (fun r=>decide (r.tZ=0))=(xs.drop i).all (fun r=>decide (r.tZ=0))) (xs).length ⟨0,rfl,rfl,aN _,hs,by simp⟩ ?_;rintro n a w X ⟨i,rfl,rfl,hi,hs,hw⟩;rcases ej (xs) i with⟨cH,x,hx,hd⟩|⟨eh,hd⟩
 ·rw [hd,iN] at hw;have Ss:=aX hx;repeat' first|refine bL ?_;intros|((with_reducible apply Zz);assumption;(try (case hz=>rfl));(case hr=>exact qR);(try (case hz=>omega));(case ht=>kernel_rfl);(case hs=>kernel_rfl);intros)
  refine cJ (TT (r:=x) (Rec.at.mv (by assumption) hs.mv) (jo x Ss) (lz x Ss)) kQ hs.has ?_;rintro v wa w2 X2 hq hle fU bQ;replace hs:=hs.trans bQ;by_cases he:x.tZ=0
  ·rw [if_neg zQ] at hq;obtain⟨vb,rfl,_⟩:=hq;repeat' first|refine bL ?_;intros|((with_reducible refine fF ((xs).length-(i+1)) ?_ ?_);omega;exact⟨i+1,by simp,rfl,by omega,hs,by rw [hw];simp [he]⟩)
  ·rw [if_pos he] at hq;subst hq;repeat' first|refine bL ?_;intros|((first|(with_reducible refine ak hs ?_)|(with_reducible refine ak (bT.trans hs) ?_));intro wa hk;(simp [LN,hw,he]))
 ·rw [hd] at hw;repeat' first|refine bL ?_;intros|refine de ?_ ?_<;>intros|((first|(with_reducible refine ak hs ?_)|(with_reducible refine ak (bT.trans hs) ?_));intro wa hk;(simp_all [LN]))
structure fJ.small (m:fJ):Prop where
 seen:m.seen.length≤2^40
 writes:m.writes.length≤2^40
 bS: ∀r∈m.bS,r.small
 enc: ∀r∈m.bS,r.err=0→(vZ r).length≤2^33
 state:m.state.small
def fJ.R2 (m:fJ):Bool:=m.cB.may&&sB m.range&&(
 if m.kind=1 then decide (m.ku≥0)&&m.aP.may&&rD m.keys&&decide ((m.keys.length:Int)>0)
 else if m.kind=2 then codeOk m.code (Gl m.seen&&decide ((m.seen.length:Int)>0)) m.ranges&&m.aP.may&&(decide (m.code=0)||decide ((m.seen.length:Int)=0))
 else if m.kind=3 then decide (m.ku≥0)&&m.aP.may&&Gl m.seen&&K0 m.writes&&zy m.parts&&LL m.parts m.range
 else if m.kind=4 then codeOk m.code true m.ranges&&m.aP.may
 else if m.kind=5 then(if m.jW then m.aP.may&&decide (m.aP≠ .zero)else decide (m.aP= .zero))
 else true)
theorem XT {w:World} {X:XS} {m:fJ} {vk vs vw vp vr vc vh vd:Value} (h:m.at w X vk vs vw vp vr vc vh vd) (jo:m.small):
  Ct pg 164 #[m.v vk vs vw vp vr vc vh vd] w X nX fun v _ _=>v=B m.R2:=by
 intro w0 hk;replace h:=h.mv hk.dm;obtain⟨h1,h2,h3,h4,h5,h6,h7,h8⟩:=h;obtain⟨b1,n1,c1,rfl⟩:=h1.form;obtain⟨b2,n2,c2,rfl⟩:=h2.form;obtain⟨b3,n3,c3,rfl⟩:=h3.form;obtain⟨b4,n4,c4,rfl⟩:=h4.form;obtain⟨b5,n5,c5,rfl⟩:=h5.form;apply Tz;unfold Io;have hs:=aj.init w0;repeat' first|refine aI ?_;intros|refine de ?_ ?_<;>intros|(with_reducible refine xM _ ?_ ?_ ?_);(· kernel_rfl);all_goals intros|(with_reducible refine ads _ ?_ ?_ ?_);(· kernel_rfl);all_goals intros|with_reducible apply cG|((with_reducible refine dI (vP _) ?_ hs.has ?_ ?_);(· kernel_rfl);all_goals (intro _ w X aq;replace hs:=hs.trans aq))|((with_reducible refine dI (oz _) ?_ hs.has ?_ ?_);(· kernel_rfl);all_goals (intro _ w X aq;replace hs:=hs.trans aq))|((with_reducible refine dI (AV _) ?_ hs.has ?_ ?_);(· kernel_rfl);all_goals (intro _ w X aq;replace hs:=hs.trans aq))|(refine gJ (EW  qA) kQ hs.has ?_ ?_<;>(intro _ w X aq;replace hs:=hs.trans aq))|(refine gJ (Zd  qA jo.seen) kQ hs.has ?_ ?_<;>(intro _ w X aq;replace hs:=hs.trans aq))|(refine gJ (R1  qA jo.writes) kQ hs.has ?_ ?_<;>(intro _ w X aq;replace hs:=hs.trans aq))|(refine gJ (K3  qA) kQ hs.has ?_ ?_<;>(intro _ w X aq;replace hs:=hs.trans aq))|(refine gJ (ab1  qA) kQ hs.has ?_ ?_<;>(intro _ w X aq;replace hs:=hs.trans aq))|(refine gJ ((Ze (xs:=m.ranges))  qA) kQ hs.has ?_ ?_<;>(intro _ w X aq;replace hs:=hs.trans aq))
 all_goals
  (with_reducible refine ak hs ?_)
  intro wa aM;unfold fJ.R2;repeat (first|rw [if_pos zQ]|rw [if_neg zQ])
  simp_all [sB]<;>first|omega|(rename_i z9;intro e9;simp [e9] at z9;done)|(intro e9;simp_all;done)|grind
def fJ.pP (m:fJ):Bool:=
 if 1≤m.kind∧m.kind≤7 then m.R2
 else if m.kind=8 then sB m.range&&decide (m.n≥1)&&decide (m.mx≥0)&&decide (m.mx≤8)&&m.aP.may
 else if m.kind=9 then sB m.range&&decide (m.n≥1)&&LN m.bS
 else if m.kind=10 then sB m.range&&m.state.may&&decide (m.state.range.id=m.range)
 else if m.kind=11 then sB m.range
 else if m.kind=12 then ik m.prev m.aP m.cB m.writes
 else if m.kind=14 then m.aP.may
 else true
theorem R3 {w:World} {X:XS} {m:fJ} {vk vs vw vp vr vc vh vd:Value} (h:m.at w X vk vs vw vp vr vc vh vd) (jo:m.small):
  Ct pg 102 #[m.v vk vs vw vp vr vc vh vd] w X nX fun v _ _=>v=B m.pP:=by
 intro w0 hk;replace h:=h.mv hk.dm;obtain⟨h1,h2,h3,h4,h5,h6,h7,h8⟩:=id h;obtain⟨b3,n3,c3,rfl⟩:=h3.form;apply Ge;unfold zw;have hs:=aj.init w0;repeat' first|refine aI ?_;intros|refine de ?_ ?_<;>intros|with_reducible apply cG|((with_reducible refine dI (vP _) ?_ hs.has ?_ ?_);(· kernel_rfl);all_goals (intro _ w X aq;replace hs:=hs.trans aq))|((with_reducible refine dI (oz _) ?_ hs.has ?_ ?_);(· kernel_rfl);all_goals (intro _ w X aq;replace hs:=hs.trans aq))|(refine gJ ((XT (m:=m))  (h.mv (aj.mv hs)) jo) kQ hs.has ?_ ?_<;>(intro _ w X aq;replace hs:=hs.trans aq))|(refine gJ ((XR (xs:=m.bS))  (ic.mv h6 Rec.mv (aj.mv hs)) jo.bS jo.enc) kQ hs.has ?_ ?_<;>(intro _ w X aq;replace hs:=hs.trans aq))|(refine gJ (Ek  (s:=m.state) qA qA jo.state) kQ hs.has ?_ ?_<;>(intro _ w X aq;replace hs:=hs.trans aq))|(refine gJ ((Dm (l:=m.writes))  qA jo.writes) kQ hs.has ?_ ?_<;>(intro _ w X aq;replace hs:=hs.trans aq))
 all_goals
  (with_reducible refine ak hs ?_)
  intro wa aM;unfold fJ.pP;repeat (first|rw [if_pos zQ]|rw [if_neg zQ])
  try (simp_all [sB]<;>first|omega|grind)
def fJ.isZero (m:fJ):Bool:=decide (m.cB= .zero)&&decide (m.range=0)&&decide (m.ku=0)&&decide (m.code=0)&&decide (m.aP= .zero)&&decide (m.prev= .zero)&&!m.jW&&decide (m.n=0)&&decide (m.mx=0)&&
 m.state.isZero&&decide ((m.keys.length:Int)+m.seen.length+m.writes.length+m.parts.length+m.ranges.length+m.bS.length=0)
theorem XU {w:World} {X:XS} {m:fJ} {vk vs vw vp vr vc vh vd:Value} (h:m.at w X vk vs vw vp vr vc vh vd) (MM:m.keys.length+m.seen.length+m.writes.length+m.parts.length+m.ranges.length+m.bS.length≤2^62):
  Ct pg 101 #[m.v vk vs vw vp vr vc vh vd] w X nX fun v _ _=>v=B m.isZero:=by
 intro w0 hk;replace h:=h.mv hk.dm;obtain⟨h1,h2,h3,h4,h5,h6,h7,h8⟩:=h;have o7:=h7.one;have o8:=h8.one;have q1:m.state.ia.length=0↔m.state.ia=[]:=mW;have q2:m.state.g8.length=0↔m.state.g8=[]:=mW;apply KS;unfold Df;have hs:=aj.init w0;cases hc:m.jW<;>
 repeat' first|refine aI ?_;intros|refine de ?_ ?_<;>intros|(with_reducible refine xM _ ?_ ?_ ?_);(· kernel_rfl);all_goals intros|(with_reducible refine Xv _ ?_ ?_ ?_);(· kernel_rfl);all_goals intros|with_reducible apply cG|((first|(with_reducible refine ak hs ?_)|(with_reducible refine ak (bT.trans hs) ?_));intro wa hk;(simp_all [fJ.isZero,State.isZero,l9.ext_iff]<;>omega))|((with_reducible refine xR (wC _) hs.has ?_);intro w X aq;replace hs:=hs.trans aq)
def fJ.strip (m:fJ):fJ×Bool:=
 if m.kind=1 then({ m with cB:=.zero,range:=0,ku:=0,aP:=.zero,keys:=[] },true)
 else if m.kind=2 then({ m with cB:=.zero,range:=0,code:=0,aP:=.zero,seen:=[],ranges:=[] },true)
 else if m.kind=3 then({ m with cB:=.zero,range:=0,ku:=0,aP:=.zero,seen:=[],writes:=[],parts:=[] },true)
 else if m.kind=4 then({ m with cB:=.zero,range:=0,code:=0,aP:=.zero,ranges:=[] },true)
 else if m.kind=5 then({ m with cB:=.zero,range:=0,jW:=false,aP:=.zero },true)
 else if m.kind=6∨m.kind=7 then({ m with cB:=.zero,range:=0 },true)
 else if m.kind=8 then({ m with range:=0,n:=0,mx:=0,aP:=.zero },true)
 else if m.kind=9 then({ m with range:=0,n:=0,bS:=[] },true)
 else if m.kind=10 then({ m with range:=0,state:=.zero },true)
 else if m.kind=11 then({ m with range:=0 },true)
 else if m.kind=12 then({ m with prev:=.zero,aP:=.zero,cB:=.zero,writes:=[] },true)
 else if m.kind=13 then(m,true)
 else if m.kind=14 then({ m with aP:=.zero },true)
 else(m,false)
theorem QC {w:World} {X:XS} {m:fJ} {vk vs vw vp vr vc vh vd:Value} (h:m.at w X vk vs vw vp vr vc vh vd):
  Ct pg 99 #[m.v vk vs vw vp vr vc vh vd] w X nX fun v wa w'=> ∃vk' vs' XC XD XB ZZ XE XF,v= .tuple #[m.strip.1.v vk' vs' XC XD XB ZZ XE XF,B m.strip.2]∧
   m.strip.1.at w X vk' vs' XC XD XB ZZ XE XF:=by
 intro w0 hk;obtain⟨h1,h2,h3,h4,h5,h6,h7,h8⟩:=h;have o1:=h1.one;have o2:=h2.one;have o3:=h3.one;have o4:=h4.one;have o5:=h5.one;have o6:=h6.one;have o7:=h7.one;have o8:=h8.one;apply Ej;unfold yd;have hs:=aj.init w0;have n1:Sl w X 1 (.slice none 0 0) (([]:List BA).map S1):=Sl.nil _ _ _;have n2:Sl w X 7 (.slice none 0 0) (([]:List mM).map mM.l):=Sl.nil _ _ _;have n3:Sl w X 4 (.slice none 0 0) (([]:List KV).map KV.l):=Sl.nil _ _ _;have n4:Sl w X 1 (.slice none 0 0) (([]:List Int).map I1):=Sl.nil _ _ _;have n5:Sl w X 4 (.slice none 0 0) (([]:List l9).map l9.l):=Sl.nil _ _ _;have n6:ic w X 29 (.slice none 0 0) Rec.rd []:=ic.nil _ _ _;have n7:mi w X (.slice none 0 0) []:=ic.nil _ _ _;have n8:lF w X (.slice none 0 0) []:=ic.nil _ _ _;repeat' first|refine aI ?_;intros|refine de ?_ ?_<;>intros|with_reducible apply cG
 all_goals
  refine ak hs ?_;intro wa aM;unfold fJ.strip;repeat (first|rw [if_pos zQ]|rw [if_neg zQ])
  exact⟨_,_,_,_,_,_,_,_,rfl,by assumption,by assumption,by assumption,by assumption,by assumption,by assumption,by assumption,by assumption⟩
def fJ.err (m:fJ):Int:=if !m.strip.2 then 7 else if !tA m.fr||!tA m.to||!m.strip.1.isZero||!m.pP then 4 else 0
def fJ.lens (m:fJ):Nat:=m.keys.length+m.seen.length+m.writes.length+m.parts.length+m.ranges.length+m.bS.length
theorem afo {c:Prop} [Decidable c] {a b:fJ×Bool} {n:Nat} (ha:a.1.lens≤n) (hb:b.1.lens≤n):(if c then a else b).1.lens≤n:=by split<;>assumption
theorem fJ.ab2 (m:fJ):m.strip.1.lens≤m.lens:=by
 unfold fJ.strip;repeat' with_reducible apply afo
 all_goals (unfold fJ.lens;(try simp only [bz]);omega)
theorem Yy {w:World} {X:XS} {m:fJ} {vk vs vw vp vr vc vh vd:Value} (h:m.at w X vk vs vw vp vr vc vh vd) (jo:m.small) (MM:m.lens≤2^62):
  Ct pg 52 #[m.v vk vs vw vp vr vc vh vd] w X nX fun v _ _=>v=I m.err:=by
 intro w0 hk;have h:=h.mv hk.dm;have amf:=Nat.le_trans m.ab2 MM;apply Nc;unfold EN;have hs:=aj.init w0;refine cJ (QC h) kQ hs.has ?_;rintro v wa w X ⟨vk',vs',XC,XD,XB,ZZ,XE,XF,rfl,fm⟩ hle fU aq;replace hs:=hs.trans aq;have q1:=fm.1.one;have q2:=fm.2.one;have q3:=fm.3.one;have q4:=fm.4.one;have q5:=fm.5.one;have q6:=fm.6.one;have q7:=fm.7.one;have q8:=fm.8.one;cases hb:m.strip.2<;>
 repeat' first|refine aI ?_;intros|with_reducible apply cG|((with_reducible refine dI (Nl _) ?_ hs.has ?_ ?_);(· kernel_rfl);all_goals (intro _ w X aq;replace hs:=hs.trans aq))|((first|(with_reducible refine ak hs ?_)|(with_reducible refine ak (bT.trans hs) ?_));intro wa hk;(simp [fJ.err, *]))|(refine gJ ((XU (m:=m.strip.1))  (fm.mv (aj.mv (by first|assumption|exact aj.trans (by assumption) (by assumption)))) amf) kQ hs.has ?_ ?_<;>(intro _ w X aq;replace hs:=hs.trans aq))|(refine gJ ((R3 (m:=m))  (h.mv (aj.mv hs)) jo) kQ hs.has ?_ ?_<;>(intro _ w X aq;replace hs:=hs.trans aq))
section
variable {κ : Type} [DecidableEq κ] {α β : Type}
theorem afp (f:α→β) (k:κ) (l:List (κ×α)):getM k (l.map fun x=>(x.1,f x.2))=(getM k l).map f:=by
 induction l with
 |nil=>rfl
 |cons x l ih=>
  simp only [getM,bc,dF] at ih⊢;by_cases hx:x.1=k
  ·simp [hx]
  ·simp only [hx,decide_false] at ih⊢;exact ih
theorem XV (f:α→β) (k:κ) (a:α) (l:List (κ×α)):(fC k a l).map (fun x=>(x.1,f x.2))=fC k (f a) (l.map fun x=>(x.1,f x.2)):=by
 induction l with
 |nil=>rfl
 |cons x l ih=>
  simp only [fC,bc] at ih⊢;by_cases hx:x.1=k
  ·simp [hx]
  ·simp only [hx,if_false,bc,ih]
theorem afq (f:α→β) (k:κ) (l:List (κ×α)):(mz k l).map (fun x=>(x.1,f x.2))=mz k (l.map fun x=>(x.1,f x.2)):=by
 unfold mz;rw [List.filter_map];rfl
theorem afr (f:α→β) (k:κ) (a:α) {l:List (κ×α)} (h: ∀x∈l,x.1=k→f x.2=f a) (hk:(getM k l).isSome=true):(fC k a l).map (fun x=>(x.1,f x.2))=l.map fun x=>(x.1,f x.2):=by
 induction l with
 |nil=>cases hk
 |cons x l ih=>
  simp only [fC];by_cases hx:x.1=k
  ·simp [hx,h x (by simp) hx]
  ·simp only [hx,if_false,bc];rw [ih (fun y hy=>h y (by simp [hy])) (by simpa [getM,dF,hx] using hk)]
theorem tE (k:κ) (a:α) (l:List (κ×α)):(fC k a l).map (·.1)=if(getM k l).isSome then l.map (·.1)else l.map (·.1)++[k]:=by
 induction l with
 |nil=>rfl
 |cons x l ih=>
  simp only [fC];by_cases hx:x.1=k
  ·simp [hx,getM]
  ·have e:getM k (x::l)=getM k l:=by simp [getM,dF,hx]
   rw [if_neg hx,e,bc,ih];split<;>simp
theorem getM_none {k:κ} {l:List (κ×α)} :getM k l=none↔k ∉ l.map (·.1):=by
 induction l with
 |nil=>simp [getM]
 |cons x l ih=>
  by_cases hx:x.1=k
  ·simp [getM,hx]
  ·have e:getM k (x::l)=getM k l:=by simp [getM,dF,hx]
   rw [e,ih];simp [vJ (hx:x.1≠k),eq_comm,hx]
theorem Pb {k:κ} {a:α} {l:List (κ×α)} (h:(l.map (·.1)).Nodup):((fC k a l).map (·.1)).Nodup:=by
 rw [tE];split
 ·exact h
 ·rename_i hn;have ke:getM k l=none:=by cases hg:getM k l with|none=>rfl|some a=>simp [hg] at hn
  rw [List.nodup_append];refine⟨h,by simp,fun a ha b hb e=>?_⟩;simp only [aV] at hb;subst hb;subst e;exact getM_none.1 ke ha
theorem zp {k:κ} {a:α} {l:List (κ×α)} :getM k (fC k a l)=some a:=by
 induction l with
 |nil=>simp [fC,getM]
 |cons x l ih=>
  simp only [fC];by_cases hx:x.1=k
  ·simp [hx,getM]
  ·rw [if_neg hx];simpa [getM,dF,hx] using ih
theorem CB {k j:κ} {a:α} {l:List (κ×α)} (hj:j≠k):getM j (fC k a l)=getM j l:=by
 induction l with
 |nil=>simp [fC,getM,vJ hj]
 |cons x l ih=>
  simp only [fC];by_cases hx:x.1=k
  ·rw [if_pos hx];simp [getM,dF,vJ hj,hx]
  ·rw [if_neg hx];by_cases SG:x.1=j
   ·simp [getM,SG]
   ·simpa [getM,dF,SG] using ih
theorem QU {k:κ} {l:List (κ×α)} :getM k (mz k l)=none:=by
 rw [getM_none];intro h;obtain⟨x,hx,e⟩:=List.mem_map.1 h;have:=(List.mem_filter.1 hx).2;simp [e] at this
theorem JI {k j:κ} {l:List (κ×α)} (hj:j≠k):getM j (mz k l)=getM j l:=by
 induction l with
 |nil=>rfl
 |cons x l ih=>
  unfold mz at ih⊢;by_cases hx:x.1=k
  ·rw [ra (by simp [hx]),ih];simp [getM,dF,hx,vJ hj]
  ·rw [ri (by simpa using hx)];by_cases SG:x.1=j
   ·simp [getM,SG]
   ·simpa [getM,dF,SG] using ih
theorem Tg {R:κ×α→κ×α→Prop} {k:κ} {a:α} {l:List (κ×α)} (hn:(l.map (·.1)).Nodup) (hp:l.Pairwise R) (h: ∀y∈l,y.1≠k→R (k,a) y∧R y (k,a)):(fC k a l).Pairwise R:=by
 induction l with
 |nil=>simp [fC]
 |cons x l ih=>
  have ke:=List.nodup_cons.1 hn;have Zv:=List.pairwise_cons.1 hp;simp only [fC];by_cases hx:x.1=k
  ·rw [if_pos hx,vI];refine⟨fun y hy=>(h y (by simp [hy]) fun e=>ke.1 (List.mem_map.2 ⟨y,hy,e.trans hx.symm⟩)).1,Zv.2⟩
  ·rw [if_neg hx,vI];refine⟨fun y hy=>?_,ih ke.2 Zv.2 fun y hy=>h y (by simp [hy])⟩;rcases tG ke.2 hy with rfl|⟨hy,_⟩
   ·exact(h x (by simp) hx).2
   ·exact Zv.1 y hy
def pq (f:α→Nat) (l:List (κ×α)):Nat:=(l.map fun x=>f x.2).sum
theorem afs {f:α→Nat} {k:κ} {a b:α} {l:List (κ×α)} (h:getM k l=some b):pq f (fC k a l)+f b=pq f l+f a:=by
 induction l with
 |nil=>cases h
 |cons x l ih=>
  simp only [fC];by_cases hx:x.1=k
  ·have:x.2=b:=by simpa [getM,hx] using h
   rw [if_pos hx];simp only [pq,bc,gO,this];omega
  ·rw [if_neg hx];have:=ih (by simpa [getM,dF,hx] using h);simp only [pq,bc,gO] at this⊢;omega
theorem aft {f:α→Nat} {k:κ} {a:α} {l:List (κ×α)} (h:getM k l=none):pq f (fC k a l)=pq f l+f a:=by
 induction l with
 |nil=>simp [fC,pq]
 |cons x l ih=>
  simp only [fC];by_cases hx:x.1=k
  ·simp [getM,hx] at h
  ·rw [if_neg hx];have:=ih (by simpa [getM,dF,hx] using h);simp only [pq,bc,gO] at this⊢;omega
theorem afu {f:α→Nat} {k:κ} {b:α} {l:List (κ×α)} (h:getM k l=some b):f b≤pq f l:=by
 induction l with
 |nil=>cases h
 |cons x l ih=>
  by_cases hx:x.1=k
  ·have:x.2=b:=by simpa [getM,hx] using h
   simp only [pq,bc,gO,this];omega
  ·have:=ih (by simpa [getM,dF,hx] using h);simp only [pq,bc,gO] at this⊢;omega
theorem afv {f:α→Nat} {k:κ} {b:α} {l:List (κ×α)} (hn:(l.map (·.1)).Nodup) (h:getM k l=some b):pq f (mz k l)+f b=pq f l:=by
 induction l with
 |nil=>cases h
 |cons x l ih=>
  have ke:=List.nodup_cons.1 hn;unfold mz at ih⊢;by_cases hx:x.1=k
  ·have:x.2=b:=by simpa [getM,hx] using h
   have e:l.filter (fun y=>decide (y.1≠k))=l:=List.filter_eq_self.2 fun y hy=>by
    have:y.1≠k:=fun e=>ke.1 (List.mem_map.2 ⟨y,hy,e.trans hx.symm⟩);simpa using this
   rw [ra (by simp [hx]),e];simp only [pq,bc,gO,this];omega
  ·rw [ri (by simpa using hx)];have:=ih ke.2 (by simpa [getM,dF,hx] using h);simp only [pq,bc,gO] at this⊢;omega
end
structure DM where
 fs:List (ByteArray×(List Nat×Nat))
 wr:Int
 ar:Nat
 dn:Bool
def DM.sz (m:DM):Nat:=pq (fun x=>x.1.length) m.fs
def DM.get (m:DM) (n:ByteArray):Option (List Nat×Nat):=getM n m.fs
def DM.put (m:DM) (n:ByteArray) (bs:List Nat) (s:Nat):DM:= { m with fs:=fC n (bs,s) m.fs }
def DM.del (m:DM) (n:ByteArray):DM:= { m with fs:=mz n m.fs }
def DM.tick (m:DM):DM:=if m.ar=1 then { m with ar:=0,dn:=true } else { m with ar:=m.ar-1,wr:=IntKind.i64.wrap (m.wr+1) }
def DM.write (m:DM) (e:Nat) (f:DM→DM):DM×Nat:=if m.dn then(m,12)else if e≠0 then(m,e)else if m.tick.dn then(m.tick,12)else(f m.tick,0)
def qD (n:ByteArray):Bool:=decide (1≤n.size∧n.size≤20)
def DM.create (m:DM) (n:ByteArray):DM×Nat:=m.write (if¬qD n then 10 else if(m.get n).isSome then 9 else if 64≤m.fs.length then 3 else 0) fun m=>m.put n [] 0
def DM.append (m:DM) (n:ByteArray) (b:List Nat):DM×Nat:=
 if m.dn then(m,12)else match m.get n with
 |none=>(m,8)
 |some (bs,s)=>if 4194304-m.sz<b.length then(m,11)else(m.tick.put n (bs++b) s,if m.tick.dn then 12 else 0)
def DM.js (n:ByteArray) (m:DM):DM:=match m.get n with
 |none=>m
 |some x=>m.put n x.1 x.1.length
def DM.sync (m:DM) (n:ByteArray):DM×Nat:=m.write (if(m.get n).isSome then 0 else 8) (DM.js n)
def DM.remove (m:DM) (n:ByteArray):DM×Nat:=m.write (if(m.get n).isSome then 0 else 8) fun m=>m.del n
theorem DM.mC (m:DM):m.tick.fs=m.fs:=by unfold DM.tick;split<;>rfl
theorem DM.lR (m:DM) (n:ByteArray):m.tick.get n=m.get n:=by unfold DM.get;rw [m.mC]
theorem DM.ud (m:DM):m.tick.sz=m.sz:=by unfold DM.sz;rw [m.mC]
theorem DM.JD {m:DM} {n:ByteArray} {b bs:List Nat} {s s':Nat} (h:m.get n=some (b,s)):(m.put n bs s').sz+b.length=m.sz+bs.length:=afs (f:=fun x:List Nat×Nat=>x.1.length) h
theorem DM.QO {m:DM} {n:ByteArray} {bs:List Nat} {s':Nat} (h:m.get n=none):(m.put n bs s').sz=m.sz+bs.length:=aft (f:=fun x:List Nat×Nat=>x.1.length) h
theorem DM.Cs (m:DM) (n:ByteArray):(m.js n).sz=m.sz:=by
 unfold DM.js;split
 ·rfl
 ·rename_i x hx;have:=DM.JD (bs:=x.1) (s':=x.1.length) hx;omega
theorem DM.sx {m:DM} {n:ByteArray} {b:List Nat} {s:Nat} (h:m.get n=some (b,s)):b.length≤m.sz:=afu (f:=fun x:List Nat×Nat=>x.1.length) h
structure lr where
 b:Nat
 v:Value
 bs:List Nat
 safe:Nat
def lr.er (f:lr):List Nat×Nat:=(f.bs,f.safe)
def Nm:World→XS→Value→lr→Prop:=fun _ _ v f=>v=ptr f.b 0
theorem jE:tu Nm:=fun _ _ _ _ _ _ h _=>h
def apart (x y:ByteArray×lr):Prop:=x.2.b≠y.2.b∧ ∀g,x.2.v.ownBlock=some g→y.2.v.ownBlock≠some g
structure mc (w:World) (F:XS) (db mb:Nat) (l:List (ByteArray×lr)) (m:DM) (z:Nat):Prop where
 fs:m.fs=l.map fun x=>(x.1,x.2.er)
 box:bH w F db [.map (some mb),I z,I m.wr,I m.ar,B m.dn] 106
 map:iK w F nX mb cu Nm l
 row: ∀x∈l,bH w F x.2.b [x.2.v,I x.2.safe] 141
 ow: ∀x∈l,Ow w F 5 1 x.2.v (x.2.bs.map U1)
 ap:l.Pairwise apart
 ar:m.ar<2^63
 safe: ∀x∈l,x.2.safe≤x.2.bs.length
def Dk (w:World) (F:XS) (db:Nat) (m:DM):Prop:= ∃mb l,mc w F db mb l m m.sz∧m.sz≤4194304
section
variable {w w' : World} {F F' X X' G A : XS} {db mb z z' : Nat} {l : List (ByteArray × lr)} {m m' : DM} {n : ByteArray} {f : lr}
theorem mc.mv (h:mc w F db mb l m z) (v:Mv F w F' w'):mc w' F' db mb l m z:=
 ⟨h.fs,h.box.mv v,h.map.mv jE v (fun _ h=>h.elim),fun x hx=>(h.row x hx).mv v,fun x hx=>(h.ow x hx).mv v,h.ap,h.ar,h.safe⟩
theorem Dk.mv (h:Dk w F db m) (v:Mv F w F' w'):Dk w' F' db m:=let⟨mb,l,h,hz⟩:=h;⟨mb,l,h.mv v,hz⟩
theorem Dk.mono (h:Dk w F db m) (hs: ∀k,F k→F' k):Dk w F' db m:=h.mv (Mv.sub hs)
theorem mc.get (h:mc w F db mb l m z) (n:ByteArray):m.get n=(getM n l).map lr.er:=by
 unfold DM.get;rw [h.fs];exact afp lr.er n l
theorem mc.nodup (h:mc w F db mb l m z):(l.map (·.1)).Nodup:=h.map.nodup
theorem mc.len (h:mc w F db mb l m z):m.fs.length=l.length:=by rw [h.fs,aG]
theorem mc.Ji (h:mc w F db mb l m z) (hX: ∀k,F k→X k) (c:eD (· =db) X w X' w') (hr:bH w' X' db [.map (some mb),I z',I m'.wr,I m'.ar,B m'.dn] 106) (Bc:m'.fs=m.fs) (har:m'.ar<2^63):mc w' F db mb l m' z':=by
 have mv: ∀{A:XS},(∀k,A k→F k∧k≠db)→Mv A w F w':=fun hA k hk _=>⟨(hA k hk).1,c.block k (hX k (hA k hk).1) (hA k hk).2⟩;refine⟨Bc.trans h.fs,⟨h.box.1,hr.2⟩,?_,fun x hx=>?_,fun x hx=>?_,h.ap,har,h.safe⟩
 ·exact h.map.own.mv jE (mv fun k hk=>by subst hk;exact⟨h.map.x.1,h.map.dJ h.box⟩) fun _ h=>h.elim
 ·exact(h.row x hx).own.mv (mv fun k hk=>by subst hk;exact⟨(h.row x hx).1,(h.row x hx).dJ h.box kQ⟩)
 ·exact(h.ow x hx).tight.mv (mv fun k hk=>⟨((h.ow x hx).aU hk).1,fun e=>(h.ow x hx).dJ h.box kQ (e▸hk)⟩)
theorem akG {α:Type} {R:α→α→Prop} (hs: ∀a b,R a b→R b a) {l:List α} (h:l.Pairwise R) {x y:α} (hx:x∈l) (hy:y∈l) (cU:x≠y):R x y:=by
 induction l with
 |nil=>cases hx
 |cons a l ih=>
  have h':=List.pairwise_cons.1 h;rcases List.mem_cons.1 hx with e1|h1
  ·rcases List.mem_cons.1 hy with e2|h2
   ·exact absurd (e1.trans e2.symm) cU
   ·rw [e1];exact h'.1 y h2
  ·rcases List.mem_cons.1 hy with e2|h2
   ·rw [e2];exact hs _ _ (h'.1 x h1)
   ·exact ih h'.2 h1 h2
theorem HK: ∀a b:ByteArray×lr,apart a b→apart b a:=fun a b h=>⟨vJ h.1,fun g hg uW=>h.2 g uW hg⟩
theorem mc.MN (h:mc w F db mb l m z) (hn:getM n l=some f) {y:ByteArray×lr} (hy:y∈l) (cU:y.1≠n):apart (n,f) y:=
 akG HK h.ap (gQ hn) hy fun e=>cU (by rw [←e])
theorem mJ.ids {A:XS} : ∀{es:List (jL ByteArray)} {l l':List (ByteArray×lr)},mJ w A Nm es l→l'.map (fun x=>(x.1,x.2.b))=l.map (fun x=>(x.1,x.2.b))→mJ w A Nm es l'
 |[],[],[],_,_=>trivial
 |[],[],_::_,_,h=>by cases h
 |e::es,x::l,[],_,h=>by cases h
 |e::es,x::l,y::l',⟨h1,h2,h3⟩,h=>by
  simp only [bc,List.cons.injEq,Prod.mk.injEq] at h;exact⟨h1.trans h.1.1.symm,by unfold Nm at h2⊢;rw [h2,h.1.2],mJ.ids h3 h.2⟩
 |[],_::_,_,h,_=>h.elim
 |_::_,[],_,h,_=>h.elim
theorem mc.kT (h:mc w F db mb l m z) (hX: ∀k,F k→X k∧k<w.heap.size) (c:eD G X w X' w') (hn:getM n l=some f) (hG: ∀k,G k→k=f.b∨f.v.ownBlock=some k) (OT: ∀k,F k→F' k)
  {v':Value} {XW:List Nat} {s':Nat} (hr:bH w' F' f.b [v',I s'] 141) (ho:Ow w' F' 5 1 v' (XW.map U1)) (fm:v'.ownBlock=f.v.ownBlock∨ ∃g,v'.ownBlock=some g∧w.heap.size≤g) (hs:s'≤XW.length):
  mc w' F' db mb (fC n ⟨f.b,v',XW,s'⟩ l) (m.put n XW s') z:=by
 have hf:=gQ hn;have rf:=h.row _ hf;have of:=h.ow _ hf;have mv: ∀{A:XS},(∀k,A k→F k∧k≠f.b∧f.v.ownBlock≠some k)→Mv A w F' w':=fun hA k hk _=>by
  obtain⟨a1,a2,a3⟩:=hA k hk;exact⟨OT k a1,c.block k (hX k a1).1 fun hg=>(hG k hg).elim a2 a3⟩
 refine⟨?_,?_,?_,fun x hx=>?_,fun x hx=>?_,?_,h.ar,fun x hx=>?_⟩
 ·show fC n (XW,s') m.fs=_
  rw [h.fs,XV lr.er];rfl
 ·exact h.box.own.mv (mv fun k hk=>by subst hk;exact⟨h.box.1,(rf.dJ h.box kQ).symm,of.dJ h.box kQ⟩)
 ·obtain⟨es,c',h1,h2⟩:=h.map.own.mv jE (mv fun k hk=>by subst hk;exact⟨h.map.x.1,h.map.dJ rf,h.map.QH of⟩) (A':=nX) fun _ h=>h.elim;refine⟨es,c',h1,mJ.ids h2 (afr lr.b n ⟨f.b,v',XW,s'⟩ (fun x hx e=>?_) (by rw [hn];rfl))⟩;have:getM n l=some x.2:=pR h.nodup (by rw [←e];exact hx);rw [hn] at this;rw [←bC this]
 ·rcases tG h.nodup hx with rfl|⟨hx,cU⟩
  ·exact hr
  ·have ha:=h.MN hn hx cU;exact(h.row x hx).own.mv (mv fun k hk=>by subst hk;exact⟨(h.row x hx).1,ha.1.symm,of.dJ (h.row x hx) kQ⟩)
 ·rcases tG h.nodup hx with rfl|⟨hx,cU⟩
  ·exact ho
  ·have ha:=h.MN hn hx cU;exact(h.ow x hx).tight.mv (mv fun k hk=>⟨((h.ow x hx).aU hk).1,fun e=>(h.ow x hx).dJ rf kQ (e▸hk),fun e=>ha.2 k e hk⟩)
 ·refine Tg h.nodup h.ap fun y hy cU=>?_;have ha:=h.MN hn hy cU;have key:apart (n,⟨f.b,v',XW,s'⟩) y:=⟨ha.1,fun g hg uW=>by
   rcases fm with e|⟨g',e,eh⟩
   ·exact ha.2 g (e▸hg) uW
   ·have:=(hX g ((h.ow y hy).aU uW).1).2;have:g'=g:=by
     have e2:v'.ownBlock=some g:=hg;rw [e] at e2;exact bC e2
    omega⟩
  exact⟨key,HK _ _ key⟩
 ·rcases tG h.nodup hx with rfl|⟨hx,cU⟩
  ·exact hs
  ·exact h.safe x hx
theorem mc.new (h:mc w F db mb l m z) (hX: ∀k,F k→X k∧k<w.heap.size) (c:eD G X w X' w') (hn:getM n l=none) (hG: ∀k,G k→k=mb) (OT: ∀k,F k→F' k) {b:Nat} (hb:w.heap.size≤b)
  (hm:iK w' F' nX mb cu Nm (fC n ⟨b,.slice none 0 0,[],0⟩ l)) (hr:bH w' F' b [.slice none 0 0,I (0:Nat)] 141):
  mc w' F' db mb (fC n ⟨b,.slice none 0 0,[],0⟩ l) (m.put n [] 0) z:=by
 have mv: ∀{A:XS},(∀k,A k→F k∧k≠mb)→Mv A w F' w':=fun hA k hk _=>by
  obtain⟨a1,a2⟩:=hA k hk;exact⟨OT k a1,c.block k (hX k a1).1 fun hg=>a2 (hG k hg)⟩
 refine⟨?_,?_,hm,fun x hx=>?_,fun x hx=>?_,?_,h.ar,fun x hx=>?_⟩
 ·show fC n ([],0) m.fs=_
  rw [h.fs,XV lr.er];rfl
 ·exact h.box.own.mv (mv fun k hk=>by subst hk;exact⟨h.box.1,(h.map.dJ h.box).symm⟩)
 ·rcases tG h.nodup hx with rfl|⟨hx,cU⟩
  ·exact hr
  ·exact(h.row x hx).own.mv (mv fun k hk=>by subst hk;exact⟨(h.row x hx).1,(h.map.dJ (h.row x hx)).symm⟩)
 ·rcases tG h.nodup hx with rfl|⟨hx,cU⟩
  ·exact Ow.nil _ _ _ _
  ·exact(h.ow x hx).tight.mv (mv fun k hk=>⟨((h.ow x hx).aU hk).1,fun e=>h.map.QH (h.ow x hx) (e▸hk)⟩)
 ·refine Tg h.nodup h.ap fun y hy cU=>?_;have key:apart (n,⟨b,.slice none 0 0,[],0⟩) y:=⟨fun e=>by
   have:=(hX _ (h.row y hy).1).2;have e':b=y.2.b:=e;omega,fun g hg=>by cases hg⟩
  exact⟨key,HK _ _ key⟩
 ·rcases tG h.nodup hx with rfl|⟨hx,cU⟩
  ·exact bf _
  ·exact h.safe x hx
theorem mc.less (h:mc w F db mb l m z) (hX: ∀k,F k→X k) (c:eD (· =mb) X w X' w') (hm:iK w' X' nX mb cu Nm (mz n l)):mc w' F db mb (mz n l) (m.del n) z:=by
 have mv: ∀{A:XS},(∀k,A k→F k∧k≠mb)→Mv A w F w':=fun hA k hk _=>⟨(hA k hk).1,c.block k (hX k (hA k hk).1) (hA k hk).2⟩;have pe: ∀x∈mz n l,x∈l:=fun x hx=>(List.mem_filter.1 hx).1;refine⟨?_,?_,?_,fun x hx=>?_,fun x hx=>?_,h.ap.filter _,h.ar,fun x hx=>h.safe x (pe x hx)⟩
 ·show mz n m.fs=_
  rw [h.fs,afq lr.er]
 ·exact h.box.own.mv (mv fun k hk=>by subst hk;exact⟨h.box.1,(h.map.dJ h.box).symm⟩)
 ·obtain⟨es,c',h1,h2⟩:=hm;exact⟨es,c',⟨h.map.x.1,h1.2⟩,h2⟩
 ·exact(h.row x (pe x hx)).own.mv (mv fun k hk=>by subst hk;exact⟨(h.row x (pe x hx)).1,(h.map.dJ (h.row x (pe x hx))).symm⟩)
 ·exact(h.ow x (pe x hx)).tight.mv (mv fun k hk=>⟨((h.ow x (pe x hx)).aU hk).1,fun e=>h.map.QH (h.ow x (pe x hx)) (e▸hk)⟩)
end
def FX (F X:XS) (w:World):Prop:= ∀k,F k→X k∧k<w.heap.size
theorem FX.kp {F X:XS} {w wa:World} (h:FX F X w) (hk:Kp X w wa):FX F (ba wa) wa:=fun k ai=>⟨aK (h k ai).2 hk.size,aK (h k ai).2 hk.size⟩
theorem FX.mv {F X:XS} {w wa:World} (h:FX F X w) (hk:Kp X w wa):Mv F w F wa:=fun k ai _=>⟨ai,hk.block k (h k ai).1⟩
theorem FX.ft {F X:XS} {w wa:World} (h:FX F X w) (hk:Kp X w wa):Ft wa F wa (ba wa) F:=Ft.init fun k ai=>(h.kp hk k ai).1
theorem _root_.Go.dL.Ft.fx {w0 w:World} {F0 F G X:XS} (h:Ft w0 F0 w X F) (hG: ∀k,G k→F k):FX G X w:=fun k hk=>⟨h.aU k (hG k hk),h.s.has k (h.aU k (hG k hk))⟩
section
variable {P : Program} {R : Ending → World → Prop} {w w0 : World} {X F F0 G : XS} {db mb z : Nat} {l : List (ByteArray × lr)} {m : DM}
theorem ajs {κ α:Type} [DecidableEq κ] {A:XS} {t ty kt et b:Nat} {kv:κ→Value} {rd:World→XS→Value→α→Prop} {l:List (κ×α)} {N:Value→Prop} (h:iK w X A b kv rd l) (ht:P.underlying t=some (.map kt et))
  (n:N (I l.length)):aa P X w (kR #[t] ty #[.map (some b)]) N:=by
 obtain⟨es,c,h1,h2⟩:=h;refine FK (I l.length) (fun wa hk=>?_) n;have hb:=(h1.kp hk).2.1;have hl:es.length=l.length:=by have:=congrArg az h2.keys;simpa using this
 simp [kR,run_underlying ht,getObj,Sem.run,hb,goInt,hl]
theorem akH {t ty:TypeId} {a b:Int} {N:Value→Prop} (h:N (I (max a b))):aa P X w (Dq #[t,t] ty #[I a,I b]) N:=
 bX (fun wa=>by
  simp only [Dq,List.foldlM];by_cases hc:a<b
  ·have:max a b=b:=by omega
   simp [Dr,hc,this]
  ·have:max a b=a:=by omega
   simp [Dr,hc,this]) h
theorem adw {t:TypeId} {a b:Int} {N:Value→Prop} (h:N (.int .i64 (IntKind.i64.wrap (a+b)))):aa P X w (binOp .add t (.int .i64 a) (.int .i64 b)) N:=Rl h
theorem sh {N:Value→World→XS→Prop} {t o o':Nat} {v:Value} (hT:Ft w0 F0 w X F) (h:mc w G db mb l m z) (hG: ∀k,G k→F k) (m':DM) (z':Nat) (WW:o'=o) (ht:((P.info? t).map (·.size))=some 1) (ho:o+1≤5) (h1:one v=true)
  (hc:b8 [.map (some mb),I z,I m.wr,I m.ar,B m.dn] o [v]=[.map (some mb),I z',I m'.wr,I m'.ar,B m'.dn]) (Bc:m'.fs=m.fs) (har:m'.ar<2^63)
  (n: ∀w' X',Ft w0 F0 w' X' F→mc w' G db mb l m' z'→eD (· =db) X w X' w'→N undef w' X'):eU P R X w true (dV t 1 (ptr db o') v) N:=by
 subst WW;have hX: ∀k,G k→X k:=fun k hk=>hT.aU k (hG k hk);have hv:v.cells= #[v]:=tn h1;refine vO (h.box.mv (Mv.sub hX)) ht ho (by rw [hv];rfl) (by rw [hv];simp [h1]) hT.s.has fun w' X' c hr=>?_;rw [hv] at hr;rw [hc] at hr;exact n w' X' (hT.dM c (fun k hk=>by subst hk;exact hG _ h.box.1) fun k hk=>.inl hk) (h.Ji hX c hr Bc har) c
end
theorem ot {w:World} {X:XS} {mb:Nat} {l:List (ByteArray×lr)} {n:ByteArray} {N:Value→Prop} (hm:iK w X nX mb cu Nm l) (n1: ∀f,getM n l=some f→N (ptr f.b 0)) (n0:getM n l=none→N (.pointer none)):
  aa pg X w (Instr.lookup 104 (.map (some mb)) (.string n) false) N:=
 Jn (kt:=9) (et:=135) (.pointer none) hm (rz kQ) kQ kQ (fun v f h1 h2=>by
  have h2:v=ptr f.b 0:=h2;subst h2;exact n1 f h1) n0
theorem Nn {w:World} {X F:XS} {db mb z:Nat} {l:List (ByteArray×lr)} {m:DM} (h:mc w F db mb l m z) (hF:FX F X w) (gg:m.dn=false):
  Ct pg 252 #[ptr db 0] w X F fun v wa w'=>v=B m.tick.dn∧mc w' F db mb l m.tick z:=by
 intro w0 hk;have h0:=h.mv (hF.mv hk);have hT:=hF.ft hk;clear h;have har:=h0.ar;apply Ml;unfold BF;have hb:=h0.box.mv (Mv.sub hT.aU);rw [gg] at hb;have hid: ∀k,F k→F k:=fun _ h=>h;refine cG ?_;repeat' first|refine aI ?_;intros|refine de ?_ ?_<;>intros|with_reducible apply cG
 ·refine sh hT h0 hid { m with ar:=m.ar-1 } z (o:=3) zQ kQ zQ rfl (by rw [show((m.ar-1:Nat):Int)=(m.ar:Int)-1 by omega];rfl) rfl (by show m.ar-1<_;omega) fun w1 X1 hT h1 c1=>?_;clear hb h0;have hb:=h1.box.mv (Mv.sub hT.aU);repeat' first|refine aI ?_;intros|refine de ?_ ?_<;>intros
  ·refine sh hT h1 hid { m with ar:=m.ar-1,dn:=true } z (o:=4) zQ kQ zQ rfl rfl rfl h1.ar fun w1 X1 hT h2 c1=>?_;clear hb h1;have hb:=h2.box.mv (Mv.sub hT.aU);have q':((m.ar-1:Nat):Int)=0:=by assumption
   have Th:m.ar=1:=by omega
   repeat' first|refine aI ?_;intros|with_reducible apply cG
   refine hT.fin fun wa aM=>⟨by rw [DM.tick,if_pos Th],?_⟩;rw [DM.tick,if_pos Th];rw [show m.ar-1=0 by omega] at h2;exact h2.mv (aM.ew hT.aU)
  ·refine sh hT h1 hid { m with ar:=m.ar-1,dn:=false } z (o:=4) zQ kQ zQ rfl rfl rfl h1.ar fun w1 X1 hT h2 c1=>?_;clear hb h1;have hb:=h2.box.mv (Mv.sub hT.aU);have q': ¬((m.ar-1:Nat):Int)=0:=by assumption
   have Th: ¬m.ar=1:=by omega
   repeat' first|refine aI ?_;intros|with_reducible apply cG|(with_reducible apply adw)
   refine sh hT h2 hid { m with ar:=m.ar-1,dn:=false,wr:=IntKind.i64.wrap (m.wr+1) } z (o:=2) zQ kQ zQ rfl rfl rfl h2.ar fun w1 X1 hT h3 c1=>?_;clear hb h2;have hb:=h3.box.mv (Mv.sub hT.aU);repeat' first|refine aI ?_;intros
   refine hT.fin fun wa aM=>⟨by rw [DM.tick,if_neg Th,gg],?_⟩;rw [DM.tick,if_neg Th];have h4:=h3.mv (aM.ew hT.aU);rw [←gg] at h4;exact h4
 ·have Th: ¬m.ar=1:=by omega
  have ZX:m.ar-1=m.ar:=by omega
  repeat' first|refine aI ?_;intros|(with_reducible apply adw)
  refine sh hT h0 hid { m with wr:=IntKind.i64.wrap (m.wr+1) } z (o:=2) zQ kQ zQ rfl rfl rfl h0.ar fun w1 X1 hT h3 c1=>?_;clear hb h0;have hb:=h3.box.mv (Mv.sub hT.aU);rw [gg] at hb;repeat' first|refine aI ?_;intros
  refine hT.fin fun wa aM=>⟨by rw [DM.tick,if_neg Th,gg],?_⟩;rw [DM.tick,if_neg Th,ZX];exact h3.mv (aM.ew hT.aU)
theorem Zf (n:ByteArray):Pure pg 73 #[.string n] (B (qD n)):=by
 intro w0;apply Xe;unfold Kx;have hs:=aj.init w0;repeat' first|refine aI ?_;intros|refine de ?_ ?_<;>intros|(with_reducible refine eY hs ?_);(simp_all [qD]<;>omega)
theorem Pd {w:World} {X:XS} :Ct pg 11 #[] w X nX fun v wa w'=> ∃db,v=ptr db 0∧Dk w' (made wa w') db ⟨[],0,0,false⟩:=by
 intro w0 hk;apply YO;unfold MX;have hs:=aj.init w0;refine Ag (kv:=cu) Nm nX hs.has fun mb w1 X1 hmb aq uq=>?_;replace hs:=hs.trans aq;refine xk kQ ?_;refine kX hs.has fun bx w2 X2 gT bQ dA=>?_;have sa:=uq.mv jE bQ.mv (fun _ h=>h.elim) (A':=nX);have hz:=hs.kp.size;refine ak (hs.trans bQ) fun wa aM=>⟨bx,rfl,mb,[],⟨rfl,⟨⟨by omega,(dA.kp aM).lt⟩,(dA.kp aM).2⟩,?_,by simp,by simp,List.Pairwise.nil,by decide,by simp⟩,by decide⟩;exact sa.own.mv jE (Mv.one aM sa.x.1 ⟨hmb,aK sa.x.2 aM.size⟩) fun _ h=>h.elim
theorem MG {w:World} {X F:XS} {db:Nat} {m:DM} (h:Dk w F db m) (hF:FX F X w):Ct pg 80 #[ptr db 0] w X nX fun v wa w'=>v=B m.dn:=by
 intro w0 hk;obtain⟨mb,l,h0,hz⟩:=h.mv (hF.mv hk);have hb:=h0.box.mv (Mv.sub fun k ai=>(hF.kp hk k ai).1);apply Me;unfold Bx;have hs:=aj.init w0;repeat' first|refine aI ?_;intros|((first|(with_reducible refine ak hs ?_)|(with_reducible refine ak (bT.trans hs) ?_));intro wa hk;rfl)
theorem GQ {w:World} {X F:XS} {db:Nat} {m:DM} {n:ByteArray} (h:Dk w F db m) (hF:FX F X w):Ct pg 173 #[ptr db 0,.string n] w X nX fun v wa w'=>v=I (if(m.get n).isSome then 0 else 8):=by
 intro w0 hk;obtain⟨mb,l,h0,hz⟩:=h.mv (hF.mv hk);have hX:=fun k ai=>(hF.kp hk k ai).1;have hb:=h0.box.mv (Mv.sub hX);have hg:=h0.get n;have hm:=h0.map.mv jE (Mv.sub hX) (A':=nX) fun _ h=>h.elim;apply Ou;unfold Dh;have hs:=aj.init w0;repeat' first|refine aI ?_;intros
 refine ot hm (fun f h1=>?_) fun h1=>?_
 ·repeat' first|refine aI ?_;intros|((first|(with_reducible refine ak hs ?_)|(with_reducible refine ak (bT.trans hs) ?_));intro wa hk;(rw [hg,h1];rfl))
 ·repeat' first|refine aI ?_;intros|((first|(with_reducible refine ak hs ?_)|(with_reducible refine ak (bT.trans hs) ?_));intro wa hk;(rw [hg,h1];rfl))
theorem xC {w:World} {X F A:XS} {db f:Nat} {c:List Value} {m:DM} {e:Nat} {g:DM→DM} (h:Dk w F db m) (hF:FX F X w) (hA: ∀k,A k→X k∧k<w.heap.size∧ ¬F k) (hf:enters pg f=true)
  (hdo:e=0→ ∀w1 X1,Mv A w A w1→(∀k,A k→X1 k)→FX F X1 w1→Dk w1 F db m.tick→Ct pg f c.toArray w1 X1 F fun v wa w'=>v= .tuple #[]∧ ∃F',(∀k,F' k→F k∨made wa w' k)∧Dk w' F' db (g m.tick)):
  Ct pg 172 #[ptr db 0,I e,.func (.func f) #[] c.toArray] w X F fun v wa w'=>v=I (m.write e g).2∧ ∃F',(∀k,F' k→F k∨made wa w' k)∧Dk w' F' db (m.write e g).1:=by
 intro w0 hk;obtain⟨mb,l,h0,hz⟩:=h.mv (hF.mv hk);have hT:=hF.ft hk;have iz:FX F (ba w0) w0:=hF.kp hk;have hAm:Mv A w A w0:=fun k ai _=>⟨ai,hk.block k (hA k ai).1⟩;have hb:=h0.box.mv (Mv.sub hT.aU);have hs:=aj.init w0;have stay: ∀{w1 X1} (m':DM),Ft w0 F w1 X1 F→mc w1 F db mb l m' m'.sz→m'.sz≤4194304→ ∀wa,Kp X1 w1 wa→ ∃F',(∀k,F' k→F k∨made w0 wa k)∧Dk wa F' db m':=fun m' hT h1 hz wa aM=>⟨F,hT.fL aM fun _ h=>h,mb,l,h1.mv (aM.ew hT.aU),hz⟩;have htz:m.tick.sz=m.sz:=by unfold DM.tick DM.sz;split<;>rfl
 apply KT;unfold Az;cases gg:m.dn
 ·rw [gg] at hb;repeat' first|refine aI ?_;intros|refine de ?_ ?_<;>intros
  ·have he:e≠0:=by omega
   refine hT.fin fun wa aM=>⟨?_,?_⟩
   ·simp [DM.write,gg,he]
   ·simp only [DM.write,gg,he,bu,if_false,ne_eq,not_false_eq_true,if_true];exact stay m hT h0 hz wa aM
  ·have he:e=0:=by omega
   refine hT.call (Nn h0 iz gg) kQ (fun _ h=>h) fun v wa w2 X2 hq hle fU bK hc=>?_;obtain⟨rfl,h2⟩:=hq;replace bK:Ft w0 F w2 X2 F:=bK.less fun k hk=>.inl hk;rw [←htz] at h2;cases ht:m.tick.dn
   ·repeat' first|refine aI ?_;intros
    refine bK.call (hdo he w2 X2 (hAm.trans (hc.ew fun k ai=>⟨aK (hA k ai).2.1 hk.size,(hA k ai).2.2⟩)) (fun k ai=>hc.sub k (aK (hA k ai).2.1 hk.size)) (bK.fx fun _ h=>h) ⟨mb,l,h2,htz▸hz⟩) hf (fun _ h=>h) fun v oG w3 X3 Bj nJ mg cn lL=>?_;obtain⟨rfl,F',lN,hD⟩:=Bj;refine cn.fin fun Mz aM=>⟨?_,F',cn.fL aM lN,?_⟩
    ·simp [DM.write,gg,he,ht]
    ·simp only [DM.write,gg,he,ht,bu,if_false,ne_eq,not_true_eq_false];exact hD.mv (aM.ew fun k ai=>cn.aU k (lN k ai))
   ·repeat' first|refine aI ?_;intros
    refine bK.fin fun wa aM=>⟨?_,?_⟩
    ·simp [DM.write,gg,he,ht]
    ·simp only [DM.write,gg,he,ht,bu,if_false,ne_eq,not_true_eq_false,if_true];exact stay _ bK h2 (htz▸hz) wa aM
 ·rw [gg] at hb;repeat' first|refine aI ?_;intros
  refine hT.fin fun wa aM=>⟨?_,?_⟩
  ·simp [DM.write,gg]
  ·simp only [DM.write,gg,if_true];exact stay m hT h0 hz wa aM
section
variable {R : Ending → World → Prop} {w w0 : World} {X F F0 G : XS} {db mb z : Nat} {l : List (ByteArray × lr)} {m : DM} {n : ByteArray} {f : lr} {N : Value → World → XS → Prop}
theorem ab3 {o':Nat} {x:Int} {s':Nat} (hT:Ft w0 F0 w X F) (h:mc w G db mb l m z) (hG: ∀k,G k→F k) (hn:getM n l=some f) (ho:o'=1) (hx:x=s') (hs:s'≤f.bs.length)
  (k: ∀w' X',Ft w0 F0 w' X' F→mc w' G db mb (fC n ⟨f.b,f.v,f.bs,s'⟩ l) (m.put n f.bs s') z→N undef w' X'):eU pg R X w true (dV 3 1 (ptr f.b o') (I x)) N:=by
 subst ho;subst hx;have hX: ∀k,G k→X k:=fun k hk=>hT.aU k (hG k hk);have hr:=h.row _ (gQ hn);have ho:=h.ow _ (gQ hn);refine vO (hr.mv (Mv.sub hX)) kQ (by simp) rfl rfl hT.s.has fun w' X' c uo=>?_;have hT':Ft w0 F0 w' X' F:=hT.dM c (fun k hk=>by subst hk;exact hG _ hr.1) fun k hk=>.inl hk;refine k w' X' hT' (h.kT (F':=G) (hT.fx hG) c hn (fun k hk=>.inl hk) (fun _ h=>h) ⟨hr.1,uo.2⟩ ?_ (.inl rfl) hs);exact ho.tight.mv fun k hk hl=>⟨(ho.aU hk).1,c.block k (hX k (ho.aU hk).1) fun e=>ho.dJ hr kQ (by rw [←(show k=f.b from e)];exact hk)⟩
theorem adx {vs:Value} {b:List Nat} (hT:Ft w0 F0 w X F) (h:mc w G db mb l m z) (hG: ∀k,G k→F k) (hn:getM n l=some f) (src:Sl w X 1 vs (b.map U1)) (hl:f.bs.length+b.length≤2^40)
  (k: ∀w' X',Ft w0 F0 w' X' (fun k=>F k∨(X' k∧w.heap.size≤k))→(∃v',mc w' (fun k=>G k∨(X' k∧w.heap.size≤k)) db mb (fC n ⟨f.b,v',f.bs++b,f.safe⟩ l) (m.put n (f.bs++b) f.safe) z)→N undef w' X'):
  eV pg R X w true (gH 95 5 1 1 95 f.v vs) fun x w1 X1=>ay pg X1 w1 (aE (ptr f.b 0)) fun p=>aa pg X1 w1 (aS 141 0 0 1 p) fun q=>eU pg R X1 w1 true (dV 95 1 q x) N:=by
 have hX: ∀k,G k→X k:=fun k hk=>hT.aU k (hG k hk);have hr:=h.row _ (gQ hn);have ho:=h.ow _ (gQ hn);have hsf:=h.safe _ (gQ hn);have cU:f.v.ownBlock≠some f.b:=ho.dJ hr kQ;refine PZ kQ hT.s.has (ho.mono hX) src (by intro r hr u hu;obtain⟨x,_,rfl⟩:=List.mem_map.1 hr;simp only [U1,aV] at hu;subst hu;rfl) (by simp;omega) (by simp;omega) fun v' w1 X1 c s7 fm=>?_;have qs:bH w1 X1 f.b [f.v,I f.safe] 141:=⟨c.sub _ (hX _ hr.1),by rw [c.block _ (hX _ hr.1) fun e=>cU e];exact hr.2⟩
 with_reducible apply vM
 have Sr:fieldInfo pg 141 0=some (0,1):=by kernel_rfl
 refine Av qs.cells Sr rfl fun o' HP _=>?_;subst HP;have DG:=tn s7.one;refine vO qs kQ (by simp) (by rw [DG];rfl) (by rw [DG];simp [s7.one]) c.has fun w' X' c' uo=>?_;rw [DG] at uo;have cc:eD (fun k=>k=f.b∨f.v.ownBlock=some k) X w X' w':=(c.mono fun k _ hk=>.inr hk).trans (c'.mono fun k _ hk=>.inl hk);have amg:v'.ownBlock≠some f.b:=s7.dJ qs kQ;have fU: ∀g,v'.ownBlock=some g→G g∨(X' g∧w.heap.size≤g):=fun g hg=>by
  rcases fm with e|⟨g',e,eh⟩
  ·exact .inl (ho.aU (e▸hg)).1
  ·rw [hg] at e;have:g=g':=bC e;subst this;exact .inr ⟨c'.sub _ (s7.aU hg).1,eh⟩
 have m7:Ow w' (fun k=>G k∨(X' k∧w.heap.size≤k)) 5 1 v' ((f.bs++b).map U1):=by
  rw [aT];exact s7.tight.mv fun k hk hl=>⟨fU k hk,c'.block k (s7.aU hk).1 fun e=>amg (by rw [←(show k=f.b from e)];exact hk)⟩
 refine k w' X' (hT.dM cc (fun k hk=>?_) fun k hk=>hk) ⟨v',h.kT (F':=fun k=>G k∨(X' k∧w.heap.size≤k)) (hT.fx hG) cc hn (fun k hk=>hk) (fun k hk=>.inl hk) ⟨.inl hr.1,?_⟩ m7 fm (by rw [ae];have:f.safe≤f.bs.length:=hsf;omega)⟩
 ·rcases hk with rfl|hk
  ·exact hG _ hr.1
  ·exact hG _ (ho.aU hk).1
 ·exact uo.2
end
theorem TV {w:World} {X F S:XS} {db:Nat} {m:DM} {n:ByteArray} {vb:Value} {b:List Nat} (h:Dk w F db m) (hF:FX F X w) (hb:Sl w S 1 vb (b.map U1)) (hS: ∀k,S k→X k∧ ¬F k) (Af:b.length≤2^30):
  Ct pg 170 #[ptr db 0,.string n,vb] w X F fun v wa w'=>v=I (m.append n b).2∧ ∃F',(∀k,F' k→F k∨made wa w' k)∧Dk w' F' db (m.append n b).1:=by
 intro w0 hk;obtain⟨mb,l,h0,hz⟩:=h.mv (hF.mv hk);have hT:=hF.ft hk;have iz:FX F (ba w0) w0:=hF.kp hk;replace hb:Sl w0 (fun k=>S k∧k<w0.heap.size) 1 vb (b.map U1):=hb.mv fun k ai hl=>⟨⟨ai,aK hl hk.size⟩,hk.block k (hS k ai).1⟩;have gT:=h0.box.mv (Mv.sub hT.aU);have hs:=aj.init w0;have hg:=h0.get n;have hm:=h0.map.mv jE (Mv.sub hT.aU) (A':=nX) fun _ h=>h.elim;apply I0;unfold y6;repeat' first|refine aI ?_;intros
 refine ot hm (fun f hn=>?_) fun hn=>?_
 ·have mr:m.get n=some (f.bs,f.safe):=by rw [hg,hn];rfl
  have ahM:=DM.sx mr;cases gg:m.dn
  ·rw [gg] at gT;repeat' first|refine aI ?_;intros|refine de ?_ ?_<;>intros
   ·refine hT.fin fun wa aM=>⟨?_,F,hT.fL aM fun _ h=>h,?_⟩
    ·simp only [DM.append,gg,mr,bu,if_false];rw [if_pos zQ];rfl
    ·simp only [DM.append,gg,mr,bu,if_false];rw [if_pos zQ];exact⟨mb,l,h0.mv (aM.ew hT.aU),hz⟩
   ·have pj: ¬4194304-m.sz<b.length:=by omega
    refine hT.call (Nn h0 iz gg) kQ (fun _ h=>h) fun v wa w2 X2 hq hle fU bK hc=>?_;obtain⟨rfl,h2⟩:=hq;replace bK:Ft w0 F w2 X2 F:=bK.less fun k hk=>.inl hk;have jG:=(h2.row _ (gQ hn)).mv (Mv.sub bK.aU);repeat' first|refine aI ?_;intros
    refine adx bK h2 (fun _ h=>h) hn ((hb.mv (hc.ew fun k ai=>⟨ai.2,(hS k ai.1).2⟩)).mono fun k ai=>hc.sub k ai.2) (show f.bs.length+b.length≤2^40 by omega) fun w3 X3 cn ⟨v',h3⟩=>?_;have zY:=h3.box.mv (Mv.sub cn.aU);have htz:=m.ud;repeat' first|refine aI ?_;intros
    have Et:=DM.JD (bs:=f.bs++b) (s':=f.safe) ((m.lR n).trans mr);have hlen:(f.bs++b).length=f.bs.length+b.length:=ae;refine sh cn h3 (fun _ h=>h) (m.tick.put n (f.bs++b) f.safe) (m.tick.put n (f.bs++b) f.safe).sz (o:=1) zQ kQ zQ rfl (by rw [show(((m.tick.put n (f.bs++b) f.safe).sz:Nat):Int)=(m.sz:Int)+(b.length:Int)by omega];rfl) rfl h3.ar fun w4 X4 dS h4 c4=>?_;have uu:=h4.box.mv (Mv.sub dS.aU);have fin: ∀wa,Kp X4 w4 wa→ ∃F',(∀k,F' k→F k∨made w0 wa k)∧Dk wa F' db (m.append n b).1:=fun wa aM=>⟨_,dS.fL aM fun _ h=>h,by
     simp only [DM.append,gg,mr,bu,if_false];rw [if_neg pj];exact⟨mb,_,h4.mv (aM.ew dS.aU),by show(m.tick.put n (f.bs++b) f.safe).sz≤_;omega⟩⟩
    cases ht:m.tick.dn
    ·repeat' first|refine aI ?_;intros
     refine dS.fin fun wa aM=>⟨?_,fin wa aM⟩;simp only [DM.append,gg,mr,bu,if_false];rw [if_neg pj];simp [ht]
    ·repeat' first|refine aI ?_;intros
     refine dS.fin fun wa aM=>⟨?_,fin wa aM⟩;simp only [DM.append,gg,mr,bu,if_false];rw [if_neg pj];simp [ht]
  ·rw [gg] at gT;repeat' first|refine aI ?_;intros
   refine hT.fin fun wa aM=>⟨?_,F,hT.fL aM fun _ h=>h,?_⟩
   ·simp [DM.append,gg]
   ·simp only [DM.append,gg,if_true];exact⟨mb,l,h0.mv (aM.ew hT.aU),hz⟩
 ·have mr:m.get n=none:=by rw [hg,hn];rfl
  cases gg:m.dn
  ·rw [gg] at gT;repeat' first|refine aI ?_;intros
   refine hT.fin fun wa aM=>⟨?_,F,hT.fL aM fun _ h=>h,?_⟩
   ·simp [DM.append,gg,mr]
   ·simp only [DM.append,gg,mr,bu,if_false];exact⟨mb,l,h0.mv (aM.ew hT.aU),hz⟩
  ·rw [gg] at gT;repeat' first|refine aI ?_;intros
   refine hT.fin fun wa aM=>⟨?_,F,hT.fL aM fun _ h=>h,?_⟩
   ·simp [DM.append,gg]
   ·simp only [DM.append,gg,if_true];exact⟨mb,l,h0.mv (aM.ew hT.aU),hz⟩
theorem XX {w:World} {X F:XS} {db bd bn:Nat} {m:DM} {n:ByteArray} (h:Dk w F db m) (hF:FX F X w) (hd:bH w X bd [ptr db 0] 26) (hn:bH w X bn [.string n] 9) (hg:(m.get n).isSome=true):
  Ct pg 253 #[ptr bd 0,ptr bn 0] w X F fun v wa w'=>v= .tuple #[]∧ ∃F',(∀k,F' k→F k∨made wa w' k)∧Dk w' F' db (DM.js n m):=by
 intro w0 hk;obtain⟨mb,l,h0,hz⟩:=h.mv (hF.mv hk);have hT:=hF.ft hk;replace hd:=hd.mv hk.dm;replace hn:=hn.mv hk.dm;have gT:=h0.box.mv (Mv.sub hT.aU);have hs:=aj.init w0;have mr:=h0.get n;have hm:=h0.map.mv jE (Mv.sub hT.aU) (A':=nX) fun _ h=>h.elim;apply HB;unfold yn;repeat' first|refine aI ?_;intros
 refine ot hm (fun f h1=>?_) fun h1=>?_
 ·repeat' first|refine aI ?_;intros
  refine ot hm (fun f' h2=>?_) fun h2=>?_
  ·rw [h1] at h2;cases h2;have hr:=(h0.row _ (gQ h1)).mv (Mv.sub hT.aU);have ho:=(h0.ow _ (gQ h1)).sl;have JQ:m.get n=some (f.bs,f.safe):=by rw [mr,h1];rfl
   repeat' first|refine aI ?_;intros
   refine ab3 hT h0 (fun _ h=>h) h1 (s':=f.bs.length) zQ rfl (bf _) fun w1 X1 cm h3=>?_;refine cm.fin fun wa aM=>⟨rfl,F,cm.fL aM fun _ h=>h,?_⟩;have e:DM.js n m=m.put n f.bs f.bs.length:=by unfold DM.js;rw [JQ]
   have dU:=m.Cs n;rw [e] at dU⊢;exact⟨mb,_,by rw [dU];exact h3.mv (aM.ew cm.aU),by omega⟩
  ·rw [h1] at h2;cases h2
 ·rw [mr,h1] at hg;cases hg
theorem Zg {w:World} {X F:XS} {db:Nat} {m:DM} {n:ByteArray} (h:Dk w F db m) (hF:FX F X w):
  Ct pg 171 #[ptr db 0,.string n] w X F fun v wa w'=>v=I (m.sync n).2∧ ∃F',(∀k,F' k→F k∨made wa w' k)∧Dk w' F' db (m.sync n).1:=by
 intro w0 hk;replace h:=h.mv (hF.mv hk);have hT:=hF.ft hk;have iz:FX F (ba w0) w0:=hF.kp hk;clear hF;apply Mj;unfold BD;refine rY rfl hT.s.has fun bd w1 X1 mH aq rX=>?_;refine rY rfl aq.has fun bn w2 X2 E7 bQ JO=>?_;have gX:=aq.trans bQ;have bK:=hT.since gX;have HL:=rX.since bQ;have h2:Dk w2 F db m:=h.mv (gX.dZ fun k ai=>(iz k ai).1);have hs:=aj.dY bQ.has;repeat' first|refine aI ?_;intros
 refine cJ (GQ h2 (bK.fx fun _ h=>h)) kQ hs.has ?_;rintro v wa w3 X3 rfl hle fU cl;have cn:=bK.since cl;have h3:Dk w3 F db m:=h2.mv (cl.dZ bK.aU);have amh:=rX.lt;have afw:=cl.sub _ HL.1;have afx:=cl.sub _ JO.1;have pQ:=HL.since cl;have uK:=JO.since cl;have e8:I (if(m.get n).isSome then 0 else 8)=I (((if(m.get n).isSome then 0 else 8:Nat)):Nat):=by split<;>rfl
 rw [e8];refine cn.call (xC (A:=fun k=>k=bd∨k=bn) (g:=DM.js n) h3 (cn.fx fun _ h=>h) (fun k ai=>?_) kQ ?_) kQ (fun _ h=>h) fun v yJ w4 X4 hq sF lK dS sc=>?_
 ·rcases ai with rfl|rfl
  ·exact⟨afw,pQ.lt,fun hf=>by have:=(iz _ hf).2;omega⟩
  ·exact⟨afx,uK.lt,fun hf=>by have:=(iz _ hf).2;have:=aq.kp.size;omega⟩
 ·intro he w5 X5 Ti Bl Vk h5;refine XX h5 Vk ⟨Bl _ (.inl rfl),?_⟩ ⟨Bl _ (.inr rfl),?_⟩ ?_
  ·rw [(Ti bd (.inl rfl) (pQ.lt)).2];exact pQ.2
  ·rw [(Ti bn (.inr rfl) (uK.lt)).2];exact uK.2
  ·rw [m.lR];cases lx:(m.get n).isSome
   ·rw [lx] at he;cases he
   ·rfl
 ·obtain⟨rfl,F',lN,hD⟩:=hq
  skip
  refine dS.fin fun Mz aM=>⟨rfl,F',dS.fL aM lN,hD.mv (aM.ew fun k ai=>dS.aU k (lN k ai))⟩
theorem R4 {w:World} {X F:XS} {db bd bn:Nat} {m:DM} {n:ByteArray} (h:Dk w F db m) (hF:FX F X w) (hd:bH w X bd [ptr db 0] 26) (hn:bH w X bn [.string n] 9) (hg:m.get n=none):
  Ct pg 204 #[ptr bd 0,ptr bn 0] w X F fun v wa w'=>v= .tuple #[]∧ ∃F',(∀k,F' k→F k∨made wa w' k)∧Dk w' F' db (m.put n [] 0):=by
 intro w0 hk;obtain⟨mb,l,h0,hz⟩:=h.mv (hF.mv hk);have hT:=hF.ft hk;have iz:FX F (ba w0) w0:=hF.kp hk;replace hd:=hd.mv hk.dm;replace hn:=hn.mv hk.dm;have gT:=h0.box.mv (Mv.sub hT.aU);have hs:=aj.init w0;have mr:=h0.get n;have hm:=h0.map.mv jE (Mv.sub hT.aU) (A':=nX) fun _ h=>h.elim;have hgn:getM n l=none:=by
  rw [hg] at mr;cases hq:getM n l with
  |none=>rfl
  |some f=>rw [hq] at mr;cases mr
 apply ET;unfold vD;repeat' first|refine aI ?_;intros|(with_reducible apply kX);(case hX=>exact hs.has);intro bx w X gT aq dA;have bT:=hs.trans aq;replace hs:=aj.dY aq.has
 have uq:=hm.mv jE bT.mv (A':=nX) fun _ h=>h.elim;refine Gs (kt:=9) (et:=135) (a:=⟨bx,.slice none 0 0,[],0⟩) uq jE (show Nm _ _ (ptr bx 0) ⟨bx,.slice none 0 0,[],0⟩from rfl) (fun _ h=>h.elim) (rz kQ) kQ bT.has fun w2 X2 c sa=>?_;have cm:=hT.since bT;have hbm:bx≠mb:=(uq.dJ dA).symm;have bK:Ft w0 F w2 X2 (fun k=>F k∨k=bx):=(cm.more (F':=fun k=>F k∨k=bx) fun k ai=>ai.imp id fun e=>by subst e;exact⟨dA.1,gT⟩).dM c (fun k ai=>by subst ai;exact .inl h0.map.x.1) fun k ai=>.inl ai;have Cz:eD (· =mb) (ba w0) w0 X2 w2:=(eD.tO bT _).trans c;refine bK.fin fun wa aM=>⟨rfl,_,bK.fL aM fun _ h=>h,?_⟩;have dU:=DM.QO (bs:=[]) (s':=0) hg;have hL:=h0.new (F':=fun k=>F k∨k=bx) iz Cz hgn (fun k ai=>ai) (fun k ai=>.inl ai) gT (sa.own.mv jE (fun k ai hl=>⟨.inl (by subst ai;exact h0.map.x.1),rfl⟩) fun _ h=>h.elim) ⟨.inr rfl,by rw [c.block _ dA.1 hbm];exact dA.2⟩;have Wb:(m.put n [] 0).sz=m.sz:=by simpa using dU
 rw [←Wb] at hL;exact⟨mb,_,hL.mv (aM.ew bK.aU),by omega⟩
def DM.zC (m:DM) (n:ByteArray):Nat:=if¬qD n then 10 else if(m.get n).isSome then 9 else if 64≤m.fs.length then 3 else 0
theorem TW {w:World} {X F:XS} {db:Nat} {m:DM} {n:ByteArray} (h:Dk w F db m) (hF:FX F X w):
  Ct pg 140 #[ptr db 0,.string n] w X F fun v wa w'=>v=I (m.create n).2∧ ∃F',(∀k,F' k→F k∨made wa w' k)∧Dk w' F' db (m.create n).1:=by
 intro w0 hk;replace h:=h.mv (hF.mv hk);have hT:=hF.ft hk;have iz:FX F (ba w0) w0:=hF.kp hk;clear hF;obtain⟨mb,l,h0,hz⟩:=id h;apply IY;unfold yY;refine rY rfl hT.s.has fun bd w1 X1 mH aq rX=>?_;refine rY rfl aq.has fun bn w2 X2 E7 bQ JO=>?_;have gX:=aq.trans bQ;have hs:=aj.dY bQ.has;have HL:=rX.since bQ;have hX:=fun k ai=>gX.sub k (hT.aU k ai);have gT:=(h0.box.mv (Mv.sub hT.aU)).since gX;have hm:=(h0.map.mv jE (Mv.sub hT.aU) (A':=nX) fun _ h=>h.elim).mv jE gX.mv (A':=nX) fun _ h=>h.elim;have mr:=h0.get n;have hlen:=h0.len;have key: ∀(w3:World) (X3:XS) (e:Nat),aj X2 w2 X3 w3→m.zC n=e→eC pg (Bo F w0 fun v w'=>v=I (m.create n).2∧ ∃F',(∀k,F' k→F k∨made w0 w' k)∧Dk w' F' db (m.create n).1) X3 w3 true 172 #[ptr db 0,I e,.func (.func 204) #[] #[ptr bd 0,ptr bn 0]] fun x w4 X4=>
   fin (Bo F w0 fun v w'=>v=I (m.create n).2∧ ∃F',(∀k,F' k→F k∨made w0 w' k)∧Dk w' F' db (m.create n).1) X4 w4 x:=by
  intro w3 X3 e cl he;have Nq:=gX.trans cl;have cn:=hT.since Nq;have h3:Dk w3 F db m:=h.mv (Nq.dZ fun k ai=>(iz k ai).1);have pQ:=HL.since cl;have uK:=JO.since cl;have em:m.create n=m.write e fun m=>m.put n [] 0:=by rw [←he];rfl
  rw [em];refine cn.call (xC (A:=fun k=>k=bd∨k=bn) (g:=fun m=>m.put n [] 0) h3 (cn.fx fun _ h=>h) (fun k ai=>?_) kQ ?_) kQ (fun _ h=>h) fun v yJ w4 X4 hq sF lK dS sc=>?_
  ·rcases ai with rfl|rfl
   ·exact⟨pQ.1,pQ.lt,fun hf=>by have:=(iz _ hf).2;omega⟩
   ·exact⟨uK.1,uK.lt,fun hf=>by have:=(iz _ hf).2;have:=aq.kp.size;omega⟩
  ·intro he0 w5 X5 Ti Bl Vk h5;refine R4 h5 Vk ⟨Bl _ (.inl rfl),?_⟩ ⟨Bl _ (.inr rfl),?_⟩ ?_
   ·rw [(Ti bd (.inl rfl) (pQ.lt)).2];exact pQ.2
   ·rw [(Ti bn (.inr rfl) (uK.lt)).2];exact uK.2
   ·rw [m.lR];rw [he0] at he;unfold DM.zC at he;cases lx:m.get n with
    |none=>rfl
    |some x=>
     rw [lx] at he;simp at he;exfalso;split at he<;>omega
  ·obtain⟨rfl,F',lN,hD⟩:=hq;exact dS.fin fun Mz aM=>⟨rfl,F',dS.fL aM lN,hD.mv (aM.ew fun k ai=>dS.aU k (lN k ai))⟩
 refine fk (fun k=> ∀(e:Nat) (w3:World) (X3:XS),aj X2 w2 X3 w3→m.zC n=e→k (I e) w3 X3) ?_ ?_
 ·intro e w3 X3 cl he;have pQ:=HL.since cl;repeat' first|refine aI ?_;intros
  exact key w3 X3 e cl he
 ·intro K hK;repeat' first|refine aI ?_;intros|((with_reducible refine dI (Zf _) ?_ hs.has ?_ ?_);(· kernel_rfl);all_goals (intro _ w X aq;replace hs:=hs.trans aq))
  ·have uK:=JO.since hs;have pQ:=HL.since hs;have anb:=gT.since hs;have Dx:=hm.mv jE hs.mv (A':=nX) fun _ h=>h.elim
   skip
   refine ot Dx (fun f hn=>?_) fun hn=>?_
   ·repeat' first|refine aI ?_;intros
    exact hK 9 _ _ hs (by simp_all [DM.zC])
   ·repeat' first|refine aI ?_;intros|refine de ?_ ?_<;>intros|(refine ajs Dx (kt:=9) (et:=135) kQ ?_)
    ·exact hK 3 _ _ hs (by simp only [DM.zC,mr,hn];simp_all<;>omega)
    ·exact hK 0 _ _ hs (by simp only [DM.zC,mr,hn];simp_all<;>omega)
  ·exact hK 10 _ _ hs (by simp_all [DM.zC])
theorem Zh {w:World} {X F:XS} {db:Nat} {m:DM} {n:ByteArray} (h:Dk w F db m) (hF:FX F X w) (hg:(m.get n).isSome=true):
  Ct pg 175 #[ptr db 0,.string n] w X F fun v wa w'=>v= .tuple #[]∧Dk w' F db (m.del n):=by
 intro w0 hk;obtain⟨mb,l,h0,hz⟩:=h.mv (hF.mv hk);have hT:=hF.ft hk;have gT:=h0.box.mv (Mv.sub hT.aU);have hs:=aj.init w0;have mr:=h0.get n;have hm:=h0.map.mv jE (Mv.sub hT.aU) (A':=nX) fun _ h=>h.elim;apply Mk;unfold BE;repeat' first|refine aI ?_;intros
 refine ot hm (fun f hn=>?_) fun hn=>?_
 ·have JQ:m.get n=some (f.bs,f.safe):=by rw [mr,hn];rfl
  have hle:=DM.sx JQ;have hr:=(h0.row _ (gQ hn)).mv (Mv.sub hT.aU);have ho:Sl w0 F 1 f.v (f.bs.map U1):=(h0.ow _ (gQ hn)).sl;have dU:(m.del n).sz+f.bs.length=m.sz:=by
   have mP:(m.fs.map (·.1)).Nodup:=by rw [h0.fs,List.map_map];exact h0.nodup
   exact afv (f:=fun x:List Nat×Nat=>x.1.length) mP JQ
  repeat' first|refine aI ?_;intros
  refine sh hT h0 (fun _ h=>h) m (m.del n).sz (o:=1) zQ kQ zQ rfl (by rw [show(((m.del n).sz:Nat):Int)=(m.sz:Int)-(f.bs.length:Int)by omega];rfl) rfl h0.ar fun w1 X1 cm h1 c1=>?_;have anc:=h1.box.mv (Mv.sub cm.aU);have uq:=h1.map.mv jE (Mv.sub cm.aU) (A':=nX) fun _ h=>h.elim;repeat' first|refine aI ?_;intros
  refine UL (kt:=9) (et:=135) uq jE (fun _ h=>h.elim) (rz kQ) kQ cm.s.has fun w2 X2 c sa=>?_;have hL:=h1.less cm.aU c sa;have bK:Ft w0 F w2 X2 F:=cm.dM c (fun k ai=>by subst ai;exact h1.map.x.1) fun k ai=>.inl ai;exact bK.fin fun wa aM=>⟨rfl,mb,_,hL.mv (aM.ew bK.aU),by omega⟩
 ·rw [mr,hn] at hg;cases hg
theorem R5 {w:World} {X F:XS} {db bd bn:Nat} {m:DM} {n:ByteArray} (h:Dk w F db m) (hF:FX F X w) (hd:bH w X bd [ptr db 0] 26) (hn:bH w X bn [.string n] 9) (hg:(m.get n).isSome=true):
  Ct pg 174 #[ptr bd 0,ptr bn 0] w X F fun v wa w'=>v= .tuple #[]∧ ∃F',(∀k,F' k→F k∨made wa w' k)∧Dk w' F' db (m.del n):=by
 intro w0 hk;replace h:=h.mv (hF.mv hk);have hT:=hF.ft hk;replace hd:=hd.mv hk.dm;replace hn:=hn.mv hk.dm;have hs:=aj.init w0;apply ES;unfold vC;repeat' first|refine aI ?_;intros
 refine hT.call (Zh h (hT.fx fun _ h=>h) hg) kQ (fun _ h=>h) fun v wa w2 X2 hq hle fU bK hc=>?_;exact bK.fin fun wa aM=>⟨rfl,F,bK.fL aM fun _ h=>.inl h,hq.2.mv (aM.ew fun k ai=>bK.aU k (.inl ai))⟩
theorem TX {w:World} {X F:XS} {db:Nat} {m:DM} {n:ByteArray} (h:Dk w F db m) (hF:FX F X w):
  Ct pg 105 #[ptr db 0,.string n] w X F fun v wa w'=>v=I (m.remove n).2∧ ∃F',(∀k,F' k→F k∨made wa w' k)∧Dk w' F' db (m.remove n).1:=by
 intro w0 hk;replace h:=h.mv (hF.mv hk);have hT:=hF.ft hk;have iz:FX F (ba w0) w0:=hF.kp hk;clear hF;apply IX;unfold yX;refine rY rfl hT.s.has fun bd w1 X1 mH aq rX=>?_;refine rY rfl aq.has fun bn w2 X2 E7 bQ JO=>?_;have gX:=aq.trans bQ;have bK:=hT.since gX;have HL:=rX.since bQ;have h2:Dk w2 F db m:=h.mv (gX.dZ fun k ai=>(iz k ai).1);have hs:=aj.dY bQ.has;repeat' first|refine aI ?_;intros
 refine cJ (GQ h2 (bK.fx fun _ h=>h)) kQ hs.has ?_;rintro v wa w3 X3 rfl hle fU cl;have cn:=bK.since cl;have h3:Dk w3 F db m:=h2.mv (cl.dZ bK.aU);have amh:=rX.lt;have afw:=cl.sub _ HL.1;have afx:=cl.sub _ JO.1;have pQ:=HL.since cl;have uK:=JO.since cl;have e8:I (if(m.get n).isSome then 0 else 8)=I (((if(m.get n).isSome then 0 else 8:Nat)):Nat):=by split<;>rfl
 rw [e8];refine cn.call (xC (A:=fun k=>k=bd∨k=bn) (g:=fun m=>m.del n) h3 (cn.fx fun _ h=>h) (fun k ai=>?_) kQ ?_) kQ (fun _ h=>h) fun v yJ w4 X4 hq sF lK dS sc=>?_
 ·rcases ai with rfl|rfl
  ·exact⟨afw,pQ.lt,fun hf=>by have:=(iz _ hf).2;omega⟩
  ·exact⟨afx,uK.lt,fun hf=>by have:=(iz _ hf).2;have:=aq.kp.size;omega⟩
 ·intro he w5 X5 Ti Bl Vk h5;refine R5 h5 Vk ⟨Bl _ (.inl rfl),?_⟩ ⟨Bl _ (.inr rfl),?_⟩ ?_
  ·rw [(Ti bd (.inl rfl) (pQ.lt)).2];exact pQ.2
  ·rw [(Ti bn (.inr rfl) (uK.lt)).2];exact uK.2
  ·rw [m.lR];cases lx:(m.get n).isSome
   ·rw [lx] at he;cases he
   ·rfl
 ·obtain⟨rfl,F',lN,hD⟩:=hq
  skip
  refine dS.fin fun Mz aM=>⟨rfl,F',dS.fL aM lN,hD.mv (aM.ew fun k ai=>dS.aU k (lN k ai))⟩
theorem PJ {w:World} {X F:XS} {db:Nat} {m:DM} {n:Int} (h:Dk w F db m) (hF:FX F X w) (hn:n<2^63):
  Ct pg 32 #[ptr db 0,I n] w X F fun v wa w'=>v= .tuple #[]∧Dk w' F db (if m.dn then m else { m with ar:=n.toNat }):=by
 intro w0 hk;obtain⟨mb,l,h0,hz⟩:=h.mv (hF.mv hk);have hT:=hF.ft hk;have gT:=h0.box.mv (Mv.sub hT.aU);have hs:=aj.init w0;apply Oo;unfold Dd;cases gg:m.dn
 ·rw [gg] at gT;repeat' first|refine aI ?_;intros|(refine akH ?_)
  refine sh hT h0 (fun _ h=>h) { m with ar:=n.toNat } m.sz (o:=3) zQ kQ zQ rfl (by rw [show((n.toNat:Nat):Int)=max n 0 by omega];rfl) rfl (by show n.toNat<_;omega) fun w1 X1 cm h1 c1=>?_;refine cm.fin fun wa aM=>⟨rfl,?_⟩;rw [if_neg Bool.false_ne_true];have h2:=h1.mv (aM.ew cm.aU);rw [gg] at h2;exact⟨mb,l,h2,hz⟩
 ·rw [gg] at gT;repeat' first|refine aI ?_;intros
  exact hT.fin fun wa aM=>⟨rfl,mb,l,h0.mv (aM.ew hT.aU),hz⟩
end Go.Proofs.YtpdkoaklobnegaaGreat
