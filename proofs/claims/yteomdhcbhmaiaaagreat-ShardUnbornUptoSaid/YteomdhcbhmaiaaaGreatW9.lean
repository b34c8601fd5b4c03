/-
 Part 9 of the proof: what the last text leans on.
-/
import Derived.Test.YteomdhcbhmaiaaaGreatW8
open List renaming mem_singleton → bU, map_append → bM, range → dm, replicate → ey, length_append → ah, append_assoc → aH, mem_append_left → bC, length_nil → bA, length_map → bm, getLast?_eq_some_getLast → iD, length_cons → bO, length_singleton → oW, take_length → tE, dropLast_concat_getLast → kY, pairwise_singleton → nA
open Bool renaming false_eq_true → aU
open Go.Value renaming cells → aa, int → aF
open Nat renaming lt_of_lt_of_le → aA, zero_le → aP, le_trans → af, zero_add → eh
open BitVec renaming ofInt → bE
open Option.some renaming inj → fZ
open Go.Op renaming unary → aQ
open Go.IntKind renaming bits → jC, signed → hU, wrap → kW
open ByteArray renaming size_append → kD
open UInt8 renaming ofNat → tF
open Go.Builtin renaming len_ → iM
open Int renaming toNat_of_nonneg → qb
set_option linter.unusedVariables false
set_option linter.unusedSimpArgs false
namespace Go.Proofs.YteomdhcbhmaiaaaGreat
open Go.Proofs.Tryz renaming prog → pg
open Go.aX
set_option maxRecDepth 100000
set_option maxHeartbeats 1000000
set_option linter.unusedVariables false
set_option linter.unusedSimpArgs false
attribute [local irreducible] un jn aC aJ ld1 ff st1 dy cY mm dK nv Bw zn fR gf ad aw aG eW eV eU eC eF gE au fin aM az aD vS FB gU ja vT FC FE FF FG FH gV jb vU FI FJ FK FM
section
variable {P : Program} {R : Ending → World → Prop} {w w0 : World} {X F F0 G : XS} {db mb z : Nat} {l : List (ByteArray × jN)} {m : DM}
theorem abk {κ α:Type} [DecidableEq κ] {A:XS} {t ty kt et b:Nat} {kv:κ→Value} {rd:World→XS→Value→α→Prop} {l:List (κ×α)} {N:Value→Prop} (h:ik w X A b kv rd l) (ht:P.underlying t=some (.map kt et))
  (n:N (I l.length)):ad P X w (iM #[t] ty #[.map (some b)]) N:=by
 obtain⟨es,c,h1,h2⟩:=h;refine zD (I l.length) (fun wa hk=>?_) n;have hb:=(h1.kp hk).2.1;have hl:es.length=l.length:=by have:=congrArg List.length h2.keys;simpa using this
 simp [iM,run_underlying ht,getObj,Sem.run,hb,goInt,hl]
theorem Uf {t:TypeId} {a b:Int} {N:Value→Prop} (h:N (.int .i64 (IntKind.i64.wrap (a+b)))):ad P X w (binOp .add t (.int .i64 a) (.int .i64 b)) N:=jo h
theorem Ah {N:Value→World→XS→Prop} {t o o':Nat} {v:Value} (hT:Ft w0 F0 w X F) (h:km w G db mb l m z) (hG: ∀k,G k→F k) (m':DM) (z':Nat) (NZ:o'=o) (ht:((P.info? t).map (·.size))=some 1) (ho:o+1≤5) (h1:aX.one v=true)
  (hc:cP [.map (some mb),I z,I m.wr,I m.ar,B m.dn] o [v]=[.map (some mb),I z',I m'.wr,I m'.ar,B m'.dn]) (zo:m'.fs=m.fs) (Xt:m'.ar<2^63)
  (n: ∀w' X',Ft w0 F0 w' X' F→km w' G db mb l m' z'→fb (· =db) X w X' w'→N undef w' X'):eU P R X w true (st1 t 1 (ptr db o') v) N:=by
 subst NZ;have hX: ∀k,G k→X k:=fun k hk=>hT.bN k (hG k hk);have hv:v.cells= #[v]:=ns h1;refine wK (h.box.mv (Mv.sub hX)) ht ho (by rw [hv];rfl) (by rw [hv];simp [h1]) hT.s.has fun w' X' c hr=>?_;rw [hv] at hr;rw [hc] at hr;exact n w' X' (hT.fF c (fun k hk=>by subst hk;exact hG _ h.box.1) fun k hk=>.inl hk) (h.abj hX c hr zo Xt) c
end
theorem vD {w:World} {X:XS} {mb:Nat} {l:List (ByteArray×jN)} {n:ByteArray} {N:Value→Prop} (hm:ik w X nX mb Value.string Gt l) (n1: ∀f,getM n l=some f→N (ptr f.b 0)) (n0:getM n l=none→N (.pointer none)):
  ad pg X w (Instr.lookup 95 (.map (some mb)) (.string n) false) N:=
 Dg (kt:=9) (et:=210) (.pointer none) hm (AG kQ) kQ kQ (fun v f h1 h2=>by
  have h2:v=ptr f.b 0:=h2;subst h2;exact n1 f h1) n0
theorem Gu {w:World} {X F:XS} {db mb z:Nat} {l:List (ByteArray×jN)} {m:DM} (h:km w F db mb l m z) (hF:FX F X w) (gM:m.dn=false):
  Ct pg 218 #[ptr db 0] w X F fun v wa w'=>v=B m.tick.dn∧km w' F db mb l m.tick z:=by
 intro w0 hk;have h0:=h.mv (hF.mv hk);have hT:=hF.ft hk;clear h;have Xt:=h0.ar;apply Fq;unfold wA;have hb:=h0.box.mv (Mv.sub hT.bN);rw [gM] at hb;have BD: ∀k,F k→F k:=fun _ h=>h;refine dg ?_;repeat' first|refine aN ?_;intros|refine du ?_ ?_<;>intros|with_reducible apply dg
 ·refine Ah hT h0 BD { m with ar:=m.ar-1 } z (o:=3) zQ kQ zQ rfl (by rw [show((m.ar-1:Nat):Int)=(m.ar:Int)-1 by omega];rfl) rfl (by show m.ar-1<_;omega) fun w1 X1 hT h1 c1=>?_;clear hb h0;have hb:=h1.box.mv (Mv.sub hT.bN);repeat' first|refine aN ?_;intros|refine du ?_ ?_<;>intros
  ·refine Ah hT h1 BD { m with ar:=m.ar-1,dn:=true } z (o:=4) zQ kQ zQ rfl rfl rfl h1.ar fun w1 X1 hT h2 c1=>?_;clear hb h1;have hb:=h2.box.mv (Mv.sub hT.bN);have q':((m.ar-1:Nat):Int)=0:=by assumption
   have KZ:m.ar=1:=by omega
   repeat' first|refine aN ?_;intros|with_reducible apply dg
   refine hT.fin fun wa bt=>⟨by rw [DM.tick,if_pos KZ],?_⟩;rw [DM.tick,if_pos KZ];rw [show m.ar-1=0 by omega] at h2;exact h2.mv (bt.fW hT.bN)
  ·refine Ah hT h1 BD { m with ar:=m.ar-1,dn:=false } z (o:=4) zQ kQ zQ rfl rfl rfl h1.ar fun w1 X1 hT h2 c1=>?_;clear hb h1;have hb:=h2.box.mv (Mv.sub hT.bN);have q': ¬((m.ar-1:Nat):Int)=0:=by assumption
   have KZ: ¬m.ar=1:=by omega
   repeat' first|refine aN ?_;intros|with_reducible apply dg|(with_reducible apply Uf)
   refine Ah hT h2 BD { m with ar:=m.ar-1,dn:=false,wr:=IntKind.i64.wrap (m.wr+1) } z (o:=2) zQ kQ zQ rfl rfl rfl h2.ar fun w1 X1 hT h3 c1=>?_;clear hb h2;have hb:=h3.box.mv (Mv.sub hT.bN);repeat' first|refine aN ?_;intros
   refine hT.fin fun wa bt=>⟨by rw [DM.tick,if_neg KZ,gM],?_⟩;rw [DM.tick,if_neg KZ];have h4:=h3.mv (bt.fW hT.bN);rw [←gM] at h4;exact h4
 ·have KZ: ¬m.ar=1:=by omega
  have ha0:m.ar-1=m.ar:=by omega
  repeat' first|refine aN ?_;intros|(with_reducible apply Uf)
  refine Ah hT h0 BD { m with wr:=IntKind.i64.wrap (m.wr+1) } z (o:=2) zQ kQ zQ rfl rfl rfl h0.ar fun w1 X1 hT h3 c1=>?_;clear hb h0;have hb:=h3.box.mv (Mv.sub hT.bN);rw [gM] at hb;repeat' first|refine aN ?_;intros
  refine hT.fin fun wa bt=>⟨by rw [DM.tick,if_neg KZ,gM],?_⟩;rw [DM.tick,if_neg KZ,ha0];exact h3.mv (bt.fW hT.bN)
theorem Ql (n:ByteArray):Pure pg 180 #[.string n] (B (sC n)):=by
 intro w0;apply OB;unfold DS;have hs:=ak.init w0;repeat' first|refine aN ?_;intros|refine du ?_ ?_<;>intros|(with_reducible refine fm hs ?_);(simp_all [sC]<;>omega)
theorem Ig {w:World} {X:XS} :Ct pg 8 #[] w X nX fun v wa w'=> ∃db,v=ptr db 0∧Dk w' (made wa w') db ⟨[],0,0,false⟩:=by
 intro w0 hk;apply P1;unfold Gf;have hs:=ak.init w0;refine yn (kv:=Value.string) Gt nX hs.has fun mb w1 X1 Zs ax Bx=>?_;replace hs:=hs.trans ax;refine RW kQ ?_;refine ph hs.has fun bx w2 X2 fB dJ bK=>?_;have wh:=Bx.mv jQ dJ.mv (fun _ h=>h.elim) (A':=nX);have hz:=hs.kp.size;refine aj (hs.trans dJ) fun wa bt=>⟨bx,rfl,mb,[],⟨rfl,⟨⟨by omega,(bK.kp bt).lt⟩,(bK.kp bt).2⟩,?_,by simp,by simp,List.Pairwise.nil,by decide,by simp⟩,by decide⟩;exact wh.own.mv jQ (Mv.one bt wh.x.1 ⟨Zs,aA wh.x.2 bt.size⟩) fun _ h=>h.elim
theorem PE {w:World} {X F:XS} {db:Nat} {m:DM} (h:Dk w F db m) (hF:FX F X w):Ct pg 63 #[ptr db 0] w X nX fun v wa w'=>v=B m.dn:=by
 intro w0 hk;obtain⟨mb,l,h0,hz⟩:=h.mv (hF.mv hk);have hb:=h0.box.mv (Mv.sub fun k ae=>(hF.kp hk k ae).1);apply Fh;unfold wm;have hs:=ak.init w0;repeat' first|refine aN ?_;intros|((first|(with_reducible refine aj hs ?_)|(with_reducible refine aj (bL.trans hs) ?_));intro wa hk;rfl)
theorem St {w:World} {X F:XS} {db:Nat} {m:DM} {n:ByteArray} (h:Dk w F db m) (hF:FX F X w):Ct pg 183 #[ptr db 0,.string n] w X nX fun v wa w'=>v=I (if(m.get n).isSome then 0 else 8):=by
 intro w0 hk;obtain⟨mb,l,h0,hz⟩:=h.mv (hF.mv hk);have hX:=fun k ae=>(hF.kp hk k ae).1;have hb:=h0.box.mv (Mv.sub hX);have hg:=h0.get n;have hm:=h0.map.mv jQ (Mv.sub hX) (A':=nX) fun _ h=>h.elim;apply Hm;unfold x3;have hs:=ak.init w0;repeat' first|refine aN ?_;intros
 refine vD hm (fun f h1=>?_) fun h1=>?_
 ·repeat' first|refine aN ?_;intros|((first|(with_reducible refine aj hs ?_)|(with_reducible refine aj (bL.trans hs) ?_));intro wa hk;(rw [hg,h1];rfl))
 ·repeat' first|refine aN ?_;intros|((first|(with_reducible refine aj hs ?_)|(with_reducible refine aj (bL.trans hs) ?_));intro wa hk;(rw [hg,h1];rfl))
theorem Ey {w:World} {X F A:XS} {db f:Nat} {c:List Value} {m:DM} {e:Nat} {g:DM→DM} (h:Dk w F db m) (hF:FX F X w) (hA: ∀k,A k→X k∧k<w.heap.size∧ ¬F k) (hf:enters pg f=true)
  (hdo:e=0→ ∀w1 X1,Mv A w A w1→(∀k,A k→X1 k)→FX F X1 w1→Dk w1 F db m.tick→Ct pg f c.toArray w1 X1 F fun v wa w'=>v= .tuple #[]∧ ∃F',(∀k,F' k→F k∨made wa w' k)∧Dk w' F' db (g m.tick)):
  Ct pg 181 #[ptr db 0,I e,.func (.func f) #[] c.toArray] w X F fun v wa w'=>v=I (m.write e g).2∧ ∃F',(∀k,F' k→F k∨made wa w' k)∧Dk w' F' db (m.write e g).1:=by
 intro w0 hk;obtain⟨mb,l,h0,hz⟩:=h.mv (hF.mv hk);have hT:=hF.ft hk;have oe:FX F (aS w0) w0:=hF.kp hk;have hAm:Mv A w A w0:=fun k ae _=>⟨ae,hk.block k (hA k ae).1⟩;have hb:=h0.box.mv (Mv.sub hT.bN);have hs:=ak.init w0;have stay: ∀{w1 X1} (m':DM),Ft w0 F w1 X1 F→km w1 F db mb l m' m'.sz→m'.sz≤4194304→ ∀wa,Kp X1 w1 wa→ ∃F',(∀k,F' k→F k∨made w0 wa k)∧Dk wa F' db m':=fun m' hT h1 hz wa bt=>⟨F,hT.jf bt fun _ h=>h,mb,l,h1.mv (bt.fW hT.bN),hz⟩;have Xu:m.tick.sz=m.sz:=by unfold DM.tick DM.sz;split<;>rfl
 apply Eh;unfold vB;cases gM:m.dn
 ·rw [gM] at hb;repeat' first|refine aN ?_;intros|refine du ?_ ?_<;>intros
  ·have he:e≠0:=by omega
   refine hT.fin fun wa bt=>⟨?_,?_⟩
   ·simp [DM.write,gM,he]
   ·simp only [DM.write,gM,he,aU,if_false,ne_eq,not_false_eq_true,if_true];exact stay m hT h0 hz wa bt
  ·have he:e=0:=by omega
   refine hT.call (Gu h0 oe gM) kQ (fun _ h=>h) fun v wa w2 X2 hq hle gF dz hc=>?_;obtain⟨rfl,h2⟩:=hq;replace dz:Ft w0 F w2 X2 F:=dz.less fun k hk=>.inl hk;rw [←Xu] at h2;cases ht:m.tick.dn
   ·repeat' first|refine aN ?_;intros
    refine dz.call (hdo he w2 X2 (hAm.trans (hc.fW fun k ae=>⟨aA (hA k ae).2.1 hk.size,(hA k ae).2.2⟩)) (fun k ae=>hc.sub k (aA (hA k ae).2.1 hk.size)) (dz.fx fun _ h=>h) ⟨mb,l,h2,Xu▸hz⟩) hf (fun _ h=>h) fun v vZ w3 X3 Zz sF rE dU om=>?_;obtain⟨rfl,F',yN,hD⟩:=Zz;refine dU.fin fun CN bt=>⟨?_,F',dU.jf bt yN,?_⟩
    ·simp [DM.write,gM,he,ht]
    ·simp only [DM.write,gM,he,ht,aU,if_false,ne_eq,not_true_eq_false];exact hD.mv (bt.fW fun k ae=>dU.bN k (yN k ae))
   ·repeat' first|refine aN ?_;intros
    refine dz.fin fun wa bt=>⟨?_,?_⟩
    ·simp [DM.write,gM,he,ht]
    ·simp only [DM.write,gM,he,ht,aU,if_false,ne_eq,not_true_eq_false,if_true];exact stay _ dz h2 (Xu▸hz) wa bt
 ·rw [gM] at hb;repeat' first|refine aN ?_;intros
  refine hT.fin fun wa bt=>⟨?_,?_⟩
  ·simp [DM.write,gM]
  ·simp only [DM.write,gM,if_true];exact stay m hT h0 hz wa bt
section
variable {R : Ending → World → Prop} {w w0 : World} {X F F0 G : XS} {db mb z : Nat} {l : List (ByteArray × jN)} {m : DM} {n : ByteArray} {f : jN} {N : Value → World → XS → Prop}
theorem Su {o':Nat} {x:Int} {s':Nat} (hT:Ft w0 F0 w X F) (h:km w G db mb l m z) (hG: ∀k,G k→F k) (hn:getM n l=some f) (ho:o'=1) (hx:x=s') (hs:s'≤f.bs.length)
  (k: ∀w' X',Ft w0 F0 w' X' F→km w' G db mb (fQ n ⟨f.b,f.v,f.bs,s'⟩ l) (m.put n f.bs s') z→N undef w' X'):eU pg R X w true (st1 3 1 (ptr f.b o') (I x)) N:=by
 subst ho;subst hx;have hX: ∀k,G k→X k:=fun k hk=>hT.bN k (hG k hk);have hr:=h.row _ (mT hn);have ho:=h.ow _ (mT hn);refine wK (hr.mv (Mv.sub hX)) kQ (by simp) rfl rfl hT.s.has fun w' X' c HA=>?_;have hT':Ft w0 F0 w' X' F:=hT.fF c (fun k hk=>by subst hk;exact hG _ hr.1) fun k hk=>.inl hk;refine k w' X' hT' (h.jd (F':=G) (hT.fx hG) c hn (fun k hk=>.inl hk) (fun _ h=>h) ⟨hr.1,HA.2⟩ ?_ (.inl rfl) hs);exact ho.tight.mv fun k hk hl=>⟨(ho.bN hk).1,c.block k (hX k (ho.bN hk).1) fun e=>ho.dX hr kQ (by rw [←(show k=f.b from e)];exact hk)⟩
theorem Ug {vs:Value} {b:List Nat} (hT:Ft w0 F0 w X F) (h:km w G db mb l m z) (hG: ∀k,G k→F k) (hn:getM n l=some f) (src:Sl w X 1 vs (b.map U1)) (hl:f.bs.length+b.length≤2^40)
  (k: ∀w' X',Ft w0 F0 w' X' (fun k=>F k∨(X' k∧w.heap.size≤k))→(∃v',km w' (fun k=>G k∨(X' k∧w.heap.size≤k)) db mb (fQ n ⟨f.b,v',f.bs++b,f.safe⟩ l) (m.put n (f.bs++b) f.safe) z)→N undef w' X'):
  eV pg R X w true (gf 86 5 1 1 86 f.v vs) fun x w1 X1=>aw pg X1 w1 (az (ptr f.b 0)) fun p=>ad pg X1 w1 (aJ 281 0 0 1 p) fun q=>eU pg R X1 w1 true (st1 86 1 q x) N:=by
 have hX: ∀k,G k→X k:=fun k hk=>hT.bN k (hG k hk);have hr:=h.row _ (mT hn);have ho:=h.ow _ (mT hn);have hsf:=h.safe _ (mT hn);have dO:f.v.ownBlock≠some f.b:=ho.dX hr kQ;refine Ix kQ hT.s.has (ho.mono hX) src (by intro r hr u hu;obtain⟨x,_,rfl⟩:=List.mem_map.1 hr;simp only [U1,bU] at hu;subst hu;rfl) (by simp;omega) (by simp;omega) fun v' w1 X1 c po fe=>?_;have Iy:bq w1 X1 f.b [f.v,I f.safe] 281:=⟨c.sub _ (hX _ hr.1),by rw [c.block _ (hX _ hr.1) fun e=>dO e];exact hr.2⟩
 with_reducible apply LR
 have KT:fieldInfo pg 281 0=some (0,1):=by kernel_rfl
 refine Is Iy.cells KT rfl fun o' vR _=>?_;subst vR;have OW:=ns po.one;refine wK Iy kQ (by simp) (by rw [OW];rfl) (by rw [OW];simp [po.one]) c.has fun w' X' c' HA=>?_;rw [OW] at HA;have cc:fb (fun k=>k=f.b∨f.v.ownBlock=some k) X w X' w':=(c.mono fun k _ hk=>.inr hk).trans (c'.mono fun k _ hk=>.inl hk);have adv:v'.ownBlock≠some f.b:=po.dX Iy kQ;have gF: ∀g,v'.ownBlock=some g→G g∨(X' g∧w.heap.size≤g):=fun g hg=>by
  rcases fe with e|⟨g',e,ec⟩
  ·exact .inl (ho.bN (e▸hg)).1
  ·rw [hg] at e;have:g=g':=fZ e;subst this;exact .inr ⟨c'.sub _ (po.bN hg).1,ec⟩
 have sA:Ow w' (fun k=>G k∨(X' k∧w.heap.size≤k)) 5 1 v' ((f.bs++b).map U1):=by
  rw [bM];exact po.tight.mv fun k hk hl=>⟨gF k hk,c'.block k (po.bN hk).1 fun e=>adv (by rw [←(show k=f.b from e)];exact hk)⟩
 refine k w' X' (hT.fF cc (fun k hk=>?_) fun k hk=>hk) ⟨v',h.jd (F':=fun k=>G k∨(X' k∧w.heap.size≤k)) (hT.fx hG) cc hn (fun k hk=>hk) (fun k hk=>.inl hk) ⟨.inl hr.1,?_⟩ sA fe (by rw [ah];have:f.safe≤f.bs.length:=hsf;omega)⟩
 ·rcases hk with rfl|hk
  ·exact hG _ hr.1
  ·exact hG _ (ho.bN hk).1
 ·exact HA.2
end
theorem LH {w:World} {X F S:XS} {db:Nat} {m:DM} {n:ByteArray} {vb:Value} {b:List Nat} (h:Dk w F db m) (hF:FX F X w) (hb:Sl w S 1 vb (b.map U1)) (hS: ∀k,S k→X k∧ ¬F k) (Ky:b.length≤2^30):
  Ct pg 156 #[ptr db 0,.string n,vb] w X F fun v wa w'=>v=I (m.append n b).2∧ ∃F',(∀k,F' k→F k∨made wa w' k)∧Dk w' F' db (m.append n b).1:=by
 intro w0 hk;obtain⟨mb,l,h0,hz⟩:=h.mv (hF.mv hk);have hT:=hF.ft hk;have oe:FX F (aS w0) w0:=hF.kp hk;replace hb:Sl w0 (fun k=>S k∧k<w0.heap.size) 1 vb (b.map U1):=hb.mv fun k ae hl=>⟨⟨ae,aA hl hk.size⟩,hk.block k (hS k ae).1⟩;have fB:=h0.box.mv (Mv.sub hT.bN);have hs:=ak.init w0;have hg:=h0.get n;have hm:=h0.map.mv jQ (Mv.sub hT.bN) (A':=nX) fun _ h=>h.elim;apply Cq;unfold ue;repeat' first|refine aN ?_;intros
 refine vD hm (fun f hn=>?_) fun hn=>?_
 ·have pc:m.get n=some (f.bs,f.safe):=by rw [hg,hn];rfl
  have aea:=DM.YN pc;cases gM:m.dn
  ·rw [gM] at fB;repeat' first|refine aN ?_;intros|refine du ?_ ?_<;>intros
   ·refine hT.fin fun wa bt=>⟨?_,F,hT.jf bt fun _ h=>h,?_⟩
    ·simp only [DM.append,gM,pc,aU,if_false];rw [if_pos zQ];rfl
    ·simp only [DM.append,gM,pc,aU,if_false];rw [if_pos zQ];exact⟨mb,l,h0.mv (bt.fW hT.bN),hz⟩
   ·have yV: ¬4194304-m.sz<b.length:=by omega
    refine hT.call (Gu h0 oe gM) kQ (fun _ h=>h) fun v wa w2 X2 hq hle gF dz hc=>?_;obtain⟨rfl,h2⟩:=hq;replace dz:Ft w0 F w2 X2 F:=dz.less fun k hk=>.inl hk;have pV:=(h2.row _ (mT hn)).mv (Mv.sub dz.bN);repeat' first|refine aN ?_;intros
    refine Ug dz h2 (fun _ h=>h) hn ((hb.mv (hc.fW fun k ae=>⟨ae.2,(hS k ae.1).2⟩)).mono fun k ae=>hc.sub k ae.2) (show f.bs.length+b.length≤2^40 by omega) fun w3 X3 dU ⟨v',h3⟩=>?_;have hb3:=h3.box.mv (Mv.sub dU.bN);have Xu:=m.EW;repeat' first|refine aN ?_;intros
    have yU:=DM.Pm (bs:=f.bs++b) (s':=f.safe) ((m.uN n).trans pc);have hlen:(f.bs++b).length=f.bs.length+b.length:=ah;refine Ah dU h3 (fun _ h=>h) (m.tick.put n (f.bs++b) f.safe) (m.tick.put n (f.bs++b) f.safe).sz (o:=1) zQ kQ zQ rfl (by rw [show(((m.tick.put n (f.bs++b) f.safe).sz:Nat):Int)=(m.sz:Int)+(b.length:Int)by omega];rfl) rfl h3.ar fun w4 X4 fG h4 c4=>?_;have I8:=h4.box.mv (Mv.sub fG.bN);have fin: ∀wa,Kp X4 w4 wa→ ∃F',(∀k,F' k→F k∨made w0 wa k)∧Dk wa F' db (m.append n b).1:=fun wa bt=>⟨_,fG.jf bt fun _ h=>h,by
     simp only [DM.append,gM,pc,aU,if_false];rw [if_neg yV];exact⟨mb,_,h4.mv (bt.fW fG.bN),by show(m.tick.put n (f.bs++b) f.safe).sz≤_;omega⟩⟩
    cases ht:m.tick.dn
    ·repeat' first|refine aN ?_;intros
     refine fG.fin fun wa bt=>⟨?_,fin wa bt⟩;simp only [DM.append,gM,pc,aU,if_false];rw [if_neg yV];simp [ht]
    ·repeat' first|refine aN ?_;intros
     refine fG.fin fun wa bt=>⟨?_,fin wa bt⟩;simp only [DM.append,gM,pc,aU,if_false];rw [if_neg yV];simp [ht]
  ·rw [gM] at fB;repeat' first|refine aN ?_;intros
   refine hT.fin fun wa bt=>⟨?_,F,hT.jf bt fun _ h=>h,?_⟩
   ·simp [DM.append,gM]
   ·simp only [DM.append,gM,if_true];exact⟨mb,l,h0.mv (bt.fW hT.bN),hz⟩
 ·have pc:m.get n=none:=by rw [hg,hn];rfl
  cases gM:m.dn
  ·rw [gM] at fB;repeat' first|refine aN ?_;intros
   refine hT.fin fun wa bt=>⟨?_,F,hT.jf bt fun _ h=>h,?_⟩
   ·simp [DM.append,gM,pc]
   ·simp only [DM.append,gM,pc,aU,if_false];exact⟨mb,l,h0.mv (bt.fW hT.bN),hz⟩
  ·rw [gM] at fB;repeat' first|refine aN ?_;intros
   refine hT.fin fun wa bt=>⟨?_,F,hT.jf bt fun _ h=>h,?_⟩
   ·simp [DM.append,gM]
   ·simp only [DM.append,gM,if_true];exact⟨mb,l,h0.mv (bt.fW hT.bN),hz⟩
theorem Pq {w:World} {X F:XS} {db bd bn:Nat} {m:DM} {n:ByteArray} (h:Dk w F db m) (hF:FX F X w) (hd:bq w X bd [ptr db 0] 39) (hn:bq w X bn [.string n] 9) (hg:(m.get n).isSome=true):
  Ct pg 219 #[ptr bd 0,ptr bn 0] w X F fun v wa w'=>v= .tuple #[]∧ ∃F',(∀k,F' k→F k∨made wa w' k)∧Dk w' F' db (DM.uW n m):=by
 intro w0 hk;obtain⟨mb,l,h0,hz⟩:=h.mv (hF.mv hk);have hT:=hF.ft hk;replace hd:=hd.mv hk.cO;replace hn:=hn.mv hk.cO;have fB:=h0.box.mv (Mv.sub hT.bN);have hs:=ak.init w0;have pc:=h0.get n;have hm:=h0.map.mv jQ (Mv.sub hT.bN) (A':=nX) fun _ h=>h.elim;apply Bl;unfold tB;repeat' first|refine aN ?_;intros
 refine vD hm (fun f h1=>?_) fun h1=>?_
 ·repeat' first|refine aN ?_;intros
  refine vD hm (fun f' h2=>?_) fun h2=>?_
  ·rw [h1] at h2;cases h2;have hr:=(h0.row _ (mT h1)).mv (Mv.sub hT.bN);have ho:=(h0.ow _ (mT h1)).sl;have adw:m.get n=some (f.bs,f.safe):=by rw [pc,h1];rfl
   repeat' first|refine aN ?_;intros
   refine Su hT h0 (fun _ h=>h) h1 (s':=f.bs.length) zQ rfl (Nat.le_refl _) fun w1 X1 en h3=>?_;refine en.fin fun wa bt=>⟨rfl,F,en.jf bt fun _ h=>h,?_⟩;have e:DM.uW n m=m.put n f.bs f.bs.length:=by unfold DM.uW;rw [adw]
   have gy:=m.Pn n;rw [e] at gy⊢;exact⟨mb,_,by rw [gy];exact h3.mv (bt.fW en.bN),by omega⟩
  ·rw [h1] at h2;cases h2
 ·rw [pc,h1] at hg;cases hg
theorem Qm {w:World} {X F:XS} {db:Nat} {m:DM} {n:ByteArray} (h:Dk w F db m) (hF:FX F X w):
  Ct pg 157 #[ptr db 0,.string n] w X F fun v wa w'=>v=I (m.sync n).2∧ ∃F',(∀k,F' k→F k∨made wa w' k)∧Dk w' F' db (m.sync n).1:=by
 intro w0 hk;replace h:=h.mv (hF.mv hk);have hT:=hF.ft hk;have oe:FX F (aS w0) w0:=hF.kp hk;clear hF;apply Fm;unfold wx;refine xu rfl hT.s.has fun bd w1 X1 kE ax xt=>?_;refine xu rfl ax.has fun bn w2 X2 SP dJ Uh=>?_;have uB:=ax.trans dJ;have dz:=hT.since uB;have Ke:=xt.since dJ;have h2:Dk w2 F db m:=h.mv (uB.lr fun k ae=>(oe k ae).1);have hs:=ak.fC dJ.has;repeat' first|refine aN ?_;intros
 refine dW (St h2 (dz.fx fun _ h=>h)) kQ hs.has ?_;rintro v wa w3 X3 rfl hle gF dT;have dU:=dz.since dT;have h3:Dk w3 F db m:=h2.mv (dT.lr dz.bN);have aeb:=xt.lt;have adx:=dT.sub _ Ke.1;have ady:=dT.sub _ Uh.1;have zh:=Ke.since dT;have Br:=Uh.since dT;have e8:I (if(m.get n).isSome then 0 else 8)=I (((if(m.get n).isSome then 0 else 8:Nat)):Nat):=by split<;>rfl
 rw [e8];refine dU.call (Ey (A:=fun k=>k=bd∨k=bn) (g:=DM.uW n) h3 (dU.fx fun _ h=>h) (fun k ae=>?_) kQ ?_) kQ (fun _ h=>h) fun v sB w4 X4 hq vI nF fG ym=>?_
 ·rcases ae with rfl|rfl
  ·exact⟨adx,zh.lt,fun hf=>by have:=(oe _ hf).2;omega⟩
  ·exact⟨ady,Br.lt,fun hf=>by have:=(oe _ hf).2;have:=ax.kp.size;omega⟩
 ·intro he w5 X5 Ui Uj hF5 h5;refine Pq h5 hF5 ⟨Uj _ (.inl rfl),?_⟩ ⟨Uj _ (.inr rfl),?_⟩ ?_
  ·rw [(Ui bd (.inl rfl) (zh.lt)).2];exact zh.2
  ·rw [(Ui bn (.inr rfl) (Br.lt)).2];exact Br.2
  ·rw [m.uN];cases xd:(m.get n).isSome
   ·rw [xd] at he;cases he
   ·rfl
 ·obtain⟨rfl,F',yN,hD⟩:=hq
  skip
  refine fG.fin fun CN bt=>⟨rfl,F',fG.jf bt yN,hD.mv (bt.fW fun k ae=>fG.bN k (yN k ae))⟩
theorem Kf {w:World} {X F:XS} {db bd bn:Nat} {m:DM} {n:ByteArray} (h:Dk w F db m) (hF:FX F X w) (hd:bq w X bd [ptr db 0] 39) (hn:bq w X bn [.string n] 9) (hg:m.get n=none):
  Ct pg 182 #[ptr bd 0,ptr bn 0] w X F fun v wa w'=>v= .tuple #[]∧ ∃F',(∀k,F' k→F k∨made wa w' k)∧Dk w' F' db (m.put n [] 0):=by
 intro w0 hk;obtain⟨mb,l,h0,hz⟩:=h.mv (hF.mv hk);have hT:=hF.ft hk;have oe:FX F (aS w0) w0:=hF.kp hk;replace hd:=hd.mv hk.cO;replace hn:=hn.mv hk.cO;have fB:=h0.box.mv (Mv.sub hT.bN);have hs:=ak.init w0;have pc:=h0.get n;have hm:=h0.map.mv jQ (Mv.sub hT.bN) (A':=nX) fun _ h=>h.elim;have hgn:getM n l=none:=by
  rw [hg] at pc;cases hq:getM n l with
  |none=>rfl
  |some f=>rw [hq] at pc;cases pc
 apply zc;unfold qx;repeat' first|refine aN ?_;intros|(with_reducible apply ph);(case hX=>exact hs.has);intro bx w X fB ax bK;have bL:=hs.trans ax;replace hs:=ak.fC ax.has
 have Bx:=hm.mv jQ bL.mv (A':=nX) fun _ h=>h.elim;refine Au (kt:=9) (et:=210) (a:=⟨bx,.slice none 0 0,[],0⟩) Bx jQ (show Gt _ _ (ptr bx 0) ⟨bx,.slice none 0 0,[],0⟩from rfl) (fun _ h=>h.elim) (AG kQ) kQ bL.has fun w2 X2 c wh=>?_;have en:=hT.since bL;have hbm:bx≠mb:=(Bx.dX bK).symm;have dz:Ft w0 F w2 X2 (fun k=>F k∨k=bx):=(en.more (F':=fun k=>F k∨k=bx) fun k ae=>ae.imp id fun e=>by subst e;exact⟨bK.1,fB⟩).fF c (fun k ae=>by subst ae;exact .inl h0.map.x.1) fun k ae=>.inl ae;have sK:fb (· =mb) (aS w0) w0 X2 w2:=(fb.rI bL _).trans c;refine dz.fin fun wa bt=>⟨rfl,_,dz.jf bt fun _ h=>h,?_⟩;have gy:=DM.QX (bs:=[]) (s':=0) hg;have hL:=h0.new (F':=fun k=>F k∨k=bx) oe sK hgn (fun k ae=>ae) (fun k ae=>.inl ae) fB (wh.own.mv jQ (fun k ae hl=>⟨.inl (by subst ae;exact h0.map.x.1),rfl⟩) fun _ h=>h.elim) ⟨.inr rfl,by rw [c.block _ bK.1 hbm];exact bK.2⟩;have adz:(m.put n [] 0).sz=m.sz:=by simpa using gy
 rw [←adz] at hL;exact⟨mb,_,hL.mv (bt.fW dz.bN),by omega⟩
def DM.uO (m:DM) (n:ByteArray):Nat:=if¬sC n then 10 else if(m.get n).isSome then 9 else if 64≤m.fs.length then 3 else 0
theorem LI {w:World} {X F:XS} {db:Nat} {m:DM} {n:ByteArray} (h:Dk w F db m) (hF:FX F X w):
  Ct pg 121 #[ptr db 0,.string n] w X F fun v wa w'=>v=I (m.create n).2∧ ∃F',(∀k,F' k→F k∨made wa w' k)∧Dk w' F' db (m.create n).1:=by
 intro w0 hk;replace h:=h.mv (hF.mv hk);have hT:=hF.ft hk;have oe:FX F (aS w0) w0:=hF.kp hk;clear hF;obtain⟨mb,l,h0,hz⟩:=id h;apply Cn;unfold ub;refine xu rfl hT.s.has fun bd w1 X1 kE ax xt=>?_;refine xu rfl ax.has fun bn w2 X2 SP dJ Uh=>?_;have uB:=ax.trans dJ;have hs:=ak.fC dJ.has;have Ke:=xt.since dJ;have hX:=fun k ae=>uB.sub k (hT.bN k ae);have fB:=(h0.box.mv (Mv.sub hT.bN)).since uB;have hm:=(h0.map.mv jQ (Mv.sub hT.bN) (A':=nX) fun _ h=>h.elim).mv jQ uB.mv (A':=nX) fun _ h=>h.elim;have pc:=h0.get n;have hlen:=h0.len;have key: ∀(w3:World) (X3:XS) (e:Nat),ak X2 w2 X3 w3→m.uO n=e→eC pg (Ih F w0 fun v w'=>v=I (m.create n).2∧ ∃F',(∀k,F' k→F k∨made w0 w' k)∧Dk w' F' db (m.create n).1) X3 w3 true 181 #[ptr db 0,I e,.func (.func 182) #[] #[ptr bd 0,ptr bn 0]] fun x w4 X4=>
   fin (Ih F w0 fun v w'=>v=I (m.create n).2∧ ∃F',(∀k,F' k→F k∨made w0 w' k)∧Dk w' F' db (m.create n).1) X4 w4 x:=by
  intro w3 X3 e dT he;have abl:=uB.trans dT;have dU:=hT.since abl;have h3:Dk w3 F db m:=h.mv (abl.lr fun k ae=>(oe k ae).1);have zh:=Ke.since dT;have Br:=Uh.since dT;have em:m.create n=m.write e fun m=>m.put n [] 0:=by rw [←he];rfl
  rw [em];refine dU.call (Ey (A:=fun k=>k=bd∨k=bn) (g:=fun m=>m.put n [] 0) h3 (dU.fx fun _ h=>h) (fun k ae=>?_) kQ ?_) kQ (fun _ h=>h) fun v sB w4 X4 hq vI nF fG ym=>?_
  ·rcases ae with rfl|rfl
   ·exact⟨zh.1,zh.lt,fun hf=>by have:=(oe _ hf).2;omega⟩
   ·exact⟨Br.1,Br.lt,fun hf=>by have:=(oe _ hf).2;have:=ax.kp.size;omega⟩
  ·intro he0 w5 X5 Ui Uj hF5 h5;refine Kf h5 hF5 ⟨Uj _ (.inl rfl),?_⟩ ⟨Uj _ (.inr rfl),?_⟩ ?_
   ·rw [(Ui bd (.inl rfl) (zh.lt)).2];exact zh.2
   ·rw [(Ui bn (.inr rfl) (Br.lt)).2];exact Br.2
   ·rw [m.uN];rw [he0] at he;unfold DM.uO at he;cases xd:m.get n with
    |none=>rfl
    |some x=>
     rw [xd] at he;simp at he;exfalso;split at he<;>omega
  ·obtain⟨rfl,F',yN,hD⟩:=hq;exact fG.fin fun CN bt=>⟨rfl,F',fG.jf bt yN,hD.mv (bt.fW fun k ae=>fG.bN k (yN k ae))⟩
 refine iF (fun k=> ∀(e:Nat) (w3:World) (X3:XS),ak X2 w2 X3 w3→m.uO n=e→k (I e) w3 X3) ?_ ?_
 ·intro e w3 X3 dT he;have zh:=Ke.since dT;repeat' first|refine aN ?_;intros
  exact key w3 X3 e dT he
 ·intro K hK;repeat' first|refine aN ?_;intros|((with_reducible refine dw (Ql _) ?_ hs.has ?_ ?_);(· kernel_rfl);all_goals (intro _ w X ax;replace hs:=hs.trans ax))
  ·have Br:=Uh.since hs;have zh:=Ke.since hs;have aec:=fB.since hs;have Ie:=hm.mv jQ hs.mv (A':=nX) fun _ h=>h.elim
   skip
   refine vD Ie (fun f hn=>?_) fun hn=>?_
   ·repeat' first|refine aN ?_;intros
    exact hK 9 _ _ hs (by simp_all [DM.uO])
   ·repeat' first|refine aN ?_;intros|refine du ?_ ?_<;>intros|(refine abk Ie (kt:=9) (et:=210) kQ ?_)
    ·exact hK 3 _ _ hs (by simp only [DM.uO,pc,hn];simp_all<;>omega)
    ·exact hK 0 _ _ hs (by simp only [DM.uO,pc,hn];simp_all<;>omega)
  ·exact hK 10 _ _ hs (by simp_all [DM.uO])
def xr (a b:Int):Int:=IntKind.u32.wrap (bE IntKind.u32.bits a^^^bE IntKind.u32.bits b).toNat
def QY (a b:Int):Int:=IntKind.u8.wrap (bE IntKind.u8.bits a^^^bE IntKind.u8.bits b).toNat
def an (a b:Int):Int:=IntKind.u32.wrap (bE IntKind.u32.bits a&&& bE IntKind.u32.bits b).toNat
def sr (a n:Int):Int:=a.fdiv (2^min n.toNat IntKind.u32.bits)
def ng (a:Int):Int:=IntKind.u32.wrap (-a)
def nt (a:Int):Int:=xr IntKind.u32.max a
def stp (c:Int):Int:=xr (sr c 1) (an 2197175160 (ng (an c 1)))
def it:Nat→Int→Int
 |0,c=>c
 |n+1,c=>stp (it n c)
def wE (i:Int):Int:=it 8 (IntKind.u32.wrap i)
def Sv (l:List Nat) (c:Int):Int:=l.foldl (fun (c:Int) (x:Nat)=>it 8 (xr c (IntKind.u32.wrap x))) c
def Pr (l:List Nat) (c:Int):Int:=l.foldl (fun (c:Int) (x:Nat)=>xr (sr c 8) (wE (QY (IntKind.u8.wrap c) x))) c
def Hx (l:List Nat):Int:=nt (if l.length<64 then Sv l 4294967295 else Pr l 4294967295)
def Xv (l:List Nat):Nat:=(Hx l).toNat
def um (n:Nat):List Nat:=[n % 256,n/256 % 256,n/65536 % 256,n/16777216 % 256]
def iW (p:List Nat):List Nat:=um p.length++um (Xv (um p.length))++p++um (Xv p)
theorem wrap32 (n:Int):IntKind.u32.wrap n=n % 4294967296:=by simp [kW,jC,hU]
theorem Wd (a b:Int):0≤xr a b∧xr a b<4294967296:=by unfold xr;rw [wrap32];omega
theorem Uk (a b:Int):0≤QY a b∧QY a b<256:=by unfold QY;rw [ES];omega
theorem Sw (l:List Nat):0≤Hx l∧Hx l<4294967296:=Wd _ _
theorem Ul (l:List Nat):((Xv l:Nat):Int)=Hx l:=qb (Sw l).1
theorem YO (n:Nat):(um n).length=4:=rfl
theorem I9 (p:List Nat):(iW p).length=p.length+12:=by simp only [iW,ah,YO];omega
section
variable {P : Program} {R : Ending → World → Prop} {X : XS} {w : World} {m : Bool} {N : Value → Prop} {t : TypeId} {a b : Int}
theorem Sx (h:N (.int .u32 (xr a b))):ad P X w (binOp .xor t (.int .u32 a) (.int .u32 b)) N:=Jr h
theorem aci (h:N (.int .u8 (QY a b))):ad P X w (binOp .xor t (.int .u8 a) (.int .u8 b)) N:=Jr h
theorem abm (h:N (.int .u32 (an a b))):ad P X w (binOp .and t (.int .u32 a) (.int .u32 b)) N:=QO h
theorem We (hb: ¬b<0) (h:N (.int .u32 (sr a b))):ad P X w (binOp .shr t (.int .u32 a) (.int .u64 b)) N:=zG hb h
theorem abn (h:N (.int .u32 (ng a))):ad P X w (aQ .neg (.int .u32 a)) N:=cg (fun wa=>by simp [aQ,ng,Op.intArith]) h
theorem abo (h:N (.int .u32 (nt a))):ad P X w (aQ .xor (.int .u32 a)) N:=cg (fun wa=>by simp [aQ,nt,xr,Op.intBits,hU]) h
theorem QZ {k:IntKind} {g o i:Nat} {z:Int} (hz:z=i) (hi:i<P.arrayLen t) (ht:P.underlying t=some (.array (P.arrayLen t) (P.elem t))) (hs:(P.info? (P.elem t)).map (·.size)=some 1) (h:N (ptr g (o+i))):
  ad P X w (Instr.indexAt t (ptr g o) (.int k z)) N:=by
 subst hz;refine cg (v:=ptr g (o+i)) (fun wa=>?_) h
 show(Instr.indexAt t (.pointer (some ⟨g,o,none⟩)) _).run P wa=_
 rw [run_indexAt_array (h:=ht),if_pos zQ];cases hq:P.info? (P.elem t)with
 |none=>simp [hq] at hs
 |some inf=>
  have:inf.size=1:=by simpa [hq] using hs
  simp [sizeOf,typeInfo,hq,this,uv]
end
abbrev U4 (x:Int):Value:=.int .u32 x
theorem LJ {w:World} {X:XS} :Ct pg 241 #[] w X nX fun v wa w'=>v= .agg ((dm 256).map fun i:Nat=>U4 (wE (i:Int))).toArray:=by
 intro w0 hk;apply J4;unfold Aa;have hs:=ak.init w0;have hT:Ft w0 nX w0 (aS w0) nX:=Ft.init fun _ h=>h.elim;refine Jv (l:=ey 256 (U4 0)) hs.has kQ fun b w1 X1 hb ax hr=>?_;have en:Ft w0 nX w1 X1 (fun k=>k=b):=(hT.since ax).more fun k ae=>by subst ae;exact .inr ⟨hr.1,hb⟩
 refine Df (fun n a _ _ w X=> ∃i:Nat,a=I (i:Nat)∧n=256-i∧i≤256∧Ft w0 nX w X (fun k=>k=b)∧bq w X b (((dm i).map fun i:Nat=>U4 (wE (i:Int)))++ey (256-i) (U4 0)) 338) 256 ⟨0,rfl,rfl,aP _,en,by simpa using hr⟩ ?_;rintro n a _ _ w X ⟨i,rfl,rfl,hi,dz,pV⟩;repeat' first|refine aN ?_;intros|refine du ?_ ?_<;>intros
 ·refine fS (fun n a c w' X'=> ∃j:Nat,a=I (j:Nat)∧c=U4 (it j (IntKind.u32.wrap i))∧n=8-j∧j≤8∧w'=w∧X'=X) 8 ⟨0,rfl,rfl,rfl,aP _,rfl,rfl⟩ ?_;rintro n a c _ _ ⟨j,rfl,rfl,rfl,hj,rfl,rfl⟩;repeat' first|refine aN ?_;intros|refine du ?_ ?_<;>intros|(with_reducible apply We);omega|(with_reducible apply abm)|(with_reducible apply abn)|(with_reducible apply Sx)
  ·exact fT (8-(j+1)) zQ ⟨j+1,by simp,rfl,rfl,by omega,rfl,rfl⟩
  ·have hj8:j=8:=by omega
   subst hj8;have hal:pg.arrayLen 338=256:=by kernel_rfl
   refine QZ rfl (by rw [hal];omega) kQ kQ ?_;rw [eh];refine wK pV kQ (by simp;omega) rfl rfl dz.s.has fun w3 X3 c ql=>?_;have dU:Ft w0 nX w3 X3 (fun k=>k=b):=dz.fF c (fun k ae=>ae) fun k ae=>.inl ae;repeat' first|refine aN ?_;intros
   refine Iq (256-(i+1)) zQ ⟨i+1,by simp,rfl,by omega,dU,?_⟩;have e:cP (((dm i).map fun i:Nat=>U4 (wE (i:Int)))++ey (256-i) (U4 0)) i (aa (U4 (it 8 (IntKind.u32.wrap (i:Int))))).toList=((dm (i+1)).map fun i:Nat=>U4 (wE (i:Int)))++ey (256-(i+1)) (U4 0):=by
    have hl:((dm i).map fun i:Nat=>U4 (wE (i:Int))).length=i:=by simp
    rw [show 256-i=(256-(i+1))+1 by omega,List.replicate_succ];unfold cP;rw [List.take_left' hl,List.range_succ,bM,List.map_singleton,aH,aH];have hd: ∀r:List Value,(((dm i).map fun i:Nat=>U4 (wE (i:Int)))++U4 0::r).drop (i+1)=r:=fun r=>by
     rw [←List.drop_drop,List.drop_left' hl];rfl
    have h1:(aa (U4 (it 8 (IntKind.u32.wrap (i:Int))))).toList=[U4 (wE (i:Int))]:=rfl;rw [h1,oW,hd]
   rw [←e];exact ql
 ·have hi6:i=256:=by omega
  subst hi6;have ql:bq w X b ((dm 256).map fun i:Nat=>U4 (wE (i:Int))) 338:=by simpa using pV
  have hl:((dm 256).map fun i:Nat=>U4 (wE (i:Int))).length=256:=by simp
  generalize hL:((dm 256).map fun i:Nat=>U4 (wE (i:Int)))=L at ql hl⊢;have Ju:L.all aX.one=true:=by rw [←hL];simp;intros;rfl
  refine W9 ql.cells (Mv.refl _ _) kQ hl ?_;refine TS ?_;refine cX.2 ⟨by simpa [aa] using hl,cX.2 ⟨by simpa [aa] using Ju,?_⟩⟩;refine TR ?_;refine cX.2 ⟨rfl,?_⟩;rw [List.drop_zero,List.take_of_length_le zQ];exact dz.fin fun wa bt=>rfl
theorem K0 {β:Type} (f:β→Nat→β) (l:List Nat) {i x:Nat} (c:β) (h:l[i]? =some x):(l.take (i+1)).foldl f c=f ((l.take i).foldl f c) x:=by
 rw [List.take_add_one,h];simp
theorem Gv {w:World} {X:XS} {vb:Value} {l:List Nat} (h:Sl w X 1 vb (l.map U1)):Ct pg 179 #[vb] w X nX fun v wa w'=>v=U4 (Hx l):=by
 intro w0 hk;replace h:=h.mv hk.cO;have hlen:=h.gH;apply OA;unfold DR;have hs:=ak.init w0;repeat' first|refine aN ?_;intros|refine du ?_ ?_<;>intros
 ·have h64:l.length<64:=by omega
  refine Df (fun n a _ c w X=> ∃i:Nat,a=I (i:Nat)∧c=U4 (Sv (l.take i) 4294967295)∧n=l.length-i∧i≤l.length∧ak (aS w0) w0 X w) l.length ⟨0,rfl,rfl,rfl,aP _,hs⟩ ?_;clear hs;rintro n a _ _ w X ⟨i,rfl,rfl,rfl,hi,hs⟩;rcases eG l i with⟨dA,x,hx,hd⟩|⟨ec,hd⟩
  ·repeat' first|refine bY ?_;intros|(with_reducible apply Sx)
   refine fS (fun n a c w' X'=> ∃j:Nat,a=I (j:Nat)∧c=U4 (it j (xr (Sv (l.take i) 4294967295) (IntKind.u32.wrap x)))∧n=8-j∧j≤8∧w'=w∧X'=X) 8 ⟨0,rfl,rfl,rfl,aP _,rfl,rfl⟩ ?_;rintro n a c _ _ ⟨j,rfl,rfl,rfl,hj,rfl,rfl⟩;repeat' first|refine aN ?_;intros|refine du ?_ ?_<;>intros|(with_reducible apply We);omega|(with_reducible apply abm)|(with_reducible apply abn)|(with_reducible apply Sx)
   ·exact fT (8-(j+1)) zQ ⟨j+1,by simp,rfl,rfl,by omega,rfl,rfl⟩
   ·have hj8:j=8:=by omega
    subst hj8;refine Iq (l.length-(i+1)) zQ ⟨i+1,by simp,?_,rfl,by omega,hs⟩;unfold Sv;rw [K0 _ l _ hx]
  ·have FP:i=l.length:=by omega
   subst FP;repeat' first|refine bY ?_;intros|(with_reducible apply abo)|((first|(with_reducible refine aj hs ?_)|(with_reducible refine aj (bL.trans hs) ?_));intro wa hk;(rw [Hx,if_pos h64,tE]))
 ·have h64: ¬l.length<64:=by omega
  refine dW LJ kQ hs.has ?_;rintro _ wa w1 X1 rfl hle gF ax;replace hs:=hs.trans ax;refine Jv (l:=ey 256 (U4 0)) hs.has kQ fun b w2 X2 hb dJ hr=>?_;have uB:=hs.trans dJ;have hT:Ft w0 nX w2 X2 (fun k=>k=b):=((Ft.init (w:=w0) (F0:=nX) fun _ h=>h.elim).since uB).more fun k ae=>by subst ae;exact .inr ⟨hr.1,by have:=hs.kp.size;omega⟩
  have hl:((dm 256).map fun i:Nat=>U4 (wE (i:Int))).length=256:=by simp
  have GS: ∀i:Nat,i<256→((dm 256).map fun i:Nat=>U4 (wE (i:Int)))[i]? =some (U4 (wE (i:Int))):=fun i hi=>by simp [hi]
  have Ju:((dm 256).map fun i:Nat=>U4 (wE (i:Int))).all aX.one=true:=by simp;intros;rfl
  generalize ((dm 256).map fun i:Nat=>U4 (wE (i:Int)))=L at hl GS Ju⊢;refine wK hr kQ (by simp) (by simpa [aa] using hl) (by simpa [aa] using Ju) hT.s.has fun w3 X3 c ql=>?_;have dU:Ft w0 nX w3 X3 (fun k=>k=b):=hT.fF c (fun k ae=>ae) fun k ae=>.inl ae;have e:cP (ey 256 (U4 0)) 0 (aa (.agg L.toArray)).toList=L:=by
   unfold cP;simp [aa,hl]
  rw [e] at ql;have dT:ak (aS w0) w0 X3 w3:=⟨⟨dU.s.kp.os,dU.s.kp.tape,dU.s.kp.output,dU.s.kp.size,fun k ae=>dU.s.kp.block k ⟨ae,fun h=>h.elim⟩⟩,fun k ae=>dU.s.sub k ⟨ae,fun h=>h.elim⟩,dU.s.has⟩;clear hs uB;have hs:=dT;repeat' first|refine aN ?_;intros
  refine fS (fun n a c w X=> ∃i:Nat,a=I (i:Nat)∧c=U4 (Pr (l.take i) 4294967295)∧n=l.length-i∧i≤l.length∧w=w3∧X=X3) l.length ⟨0,rfl,rfl,rfl,aP _,rfl,rfl⟩ ?_;rintro n a _ _ _ ⟨i,rfl,rfl,rfl,hi,rfl,rfl⟩;rcases eG l i with⟨dA,x,hx,hd⟩|⟨ec,hd⟩
  ·repeat' first|refine bY ?_;intros|(with_reducible apply We);omega|(with_reducible apply aci)
   have hrg:=Uk (IntKind.u8.wrap (Pr (l.take i) 4294967295)) x;obtain⟨q,hq⟩: ∃q:Nat,QY (IntKind.u8.wrap (Pr (l.take i) 4294967295)) x=(q:Int):=⟨_,(qb hrg.1).symm⟩;have hal:pg.arrayLen 338=256:=by kernel_rfl
   refine QZ hq (by rw [hal];omega) kQ kQ ?_;rw [eh];have hcq:=ql.cells.RX (GS q zQ);rw [eh] at hcq;repeat' first|refine aN ?_;intros|(with_reducible apply Sx)
   refine fT (l.length-(i+1)) zQ ⟨i+1,by simp,?_,rfl,by omega,rfl,rfl⟩;unfold Pr;rw [K0 _ l _ hx,←hq];rfl
  ·have FP:i=l.length:=by omega
   subst FP;repeat' first|refine bY ?_;intros|(with_reducible apply abo)|((first|(with_reducible refine aj hs ?_)|(with_reducible refine aj (bL.trans hs) ?_));intro wa hk;(rw [Hx,if_neg h64,tE]))
theorem Sy {P:Program} {X:XS} {w:World} {N:Value→Prop} {t:TypeId} {u:Nat} (k:Nat) (hk:k≤32) (h:N (.int .u32 ((u/2^k:Nat):Int))):ad P X w (binOp .shr t (.int .u32 (u:Int)) (.int .u64 (k:Int))) N:=by
 refine zG zQ ?_;have e:((u:Int)).fdiv (2^min ((k:Int)).toNat IntKind.u32.bits)=((u/2^k:Nat):Int):=by
  rw [show min ((k:Int)).toNat IntKind.u32.bits=k by simp [jC];omega];rw [Int.fdiv_eq_ediv_of_nonneg _ (by exact_mod_cast aP _)]
  norm_cast
 rw [e];exact h
theorem acj (a b c d:Int):Instr.fill (fun i=>some (i*1,1)) ((Array.range (4*1)).map ((aF .u8 0).cells[· % (aF .u8 0).cells.size]!)) [(0,.int .u8 a),(1,.int .u8 b),(2,.int .u8 c),(3,.int .u8 d)]=some #[.int .u8 a,.int .u8 b,.int .u8 c,.int .u8 d]:=by kernel_rfl
theorem zi {w:World} {X F:XS} {v:Value} {bs:List Nat} {n:Nat} (h:Ow w F 5 1 v (bs.map U1)) (hF:FX F X w) (hl:bs.length≤2^40):
  Ct pg 217 #[v,U4 n] w X F fun r wa w'=> ∃F',(∀k,F' k→F k∨made wa w' k)∧Ow w' F' 5 1 r ((bs++um n).map U1):=by
 intro w0 hk;replace h:=h.mv (hF.mv hk);have hT:=hF.ft hk;apply OI;unfold Ea;have hs:=ak.init w0;refine I0 kQ kQ ?_;refine Sy 8 zQ ?_;refine I0 kQ kQ ?_;refine Sy 16 zQ ?_;refine I0 kQ kQ ?_;refine Sy 24 zQ ?_;refine I0 kQ kQ ?_;refine Xb (bytes:=1) (rows:=(um n).map U1) #[.int .u8 (n % 256:Nat),.int .u8 (n/256 % 256:Nat),.int .u8 (n/65536 % 256:Nat),.int .u8 (n/16777216 % 256:Nat)] (.int .u8 0) hT.s.has kQ kQ (by decide) (by decide) (acj _ _ _ _) (by simp) rfl rfl fun s w1 X1 ax ho=>?_;have en:=hT.since ax;refine Ix kQ ax.has ((h.mv (ax.lr hT.bN)).mono en.bN) ho.sl (by intro r hr u hu;obtain⟨x,_,rfl⟩:=List.mem_map.1 hr;simp only [U1,bU] at hu;subst hu;rfl) (by simp [um];omega) (by simp [um];omega) fun v' w2 X2 c sA fe=>?_;have hF2: ∀g,v'.ownBlock=some g→F g∨(X2 g∧w1.heap.size≤g):=fun g hg=>by
  rcases fe with e|⟨g',e,ec⟩
  ·exact .inl (h.bN (e▸hg)).1
  ·rw [hg] at e;have:g=g':=fZ e;subst this;exact .inr ⟨(sA.bN hg).1,ec⟩
 have dz:Ft w0 F w2 X2 (fun k=>F k∨(X2 k∧w1.heap.size≤k)):=en.fF c (fun k ae=>(h.bN ae).1) fun k ae=>ae;refine dz.fin fun wa bt=>⟨_,dz.jf bt fun _ h=>h,?_⟩;rw [bM];exact sA.tight.mv fun k ae rT=>⟨hF2 k ae,bt.block k (sA.bN ae).1⟩
theorem Ft.Wf {w0 w' wa:World} {X' F F':XS} {e k:Nat} {v:Value} {rows:List (List Value)} (h:Ft w0 nX w' X' (fun k=>F k∨made wa w' k)) (ho:Ow w' F' e k v rows) (yN: ∀k,F' k→F k∨made wa w' k):Ow w' (yw w0 X') e k v rows:=
 ho.mono fun k hk=>⟨h.bN k (yN k hk),(h.v k (yN k hk)).elim (fun h=>h.elim) id⟩
theorem LK {w:World} {X:XS} {vp:Value} {p:List Nat} (h:Sl w X 1 vp (p.map U1)):Ct pg 155 #[vp] w X nX fun v wa w'=>
  if 262144<p.length then v= .tuple #[.slice none 0 0,I 2] else∃vb,v= .tuple #[vb,I 0]∧Ow w' (made wa w') 5 1 vb ((iW p).map U1):=by
 intro w0 hk;replace h:=h.mv hk.cO;have hlen:=h.gH;apply JU;unfold zT;have hs:=ak.init w0;repeat' first|refine aN ?_;intros|refine du ?_ ?_<;>intros|((first|(with_reducible refine aj hs ?_)|(with_reducible refine aj (bL.trans hs) ?_));intro wa hk;(dsimp only;rw [if_pos zQ]))
 have hn: ¬262144<p.length:=by omega
 refine TY (e:=5) (k:=1) (c:=p.length+12) (bytes:=1) hs.has kQ (by simp) zQ zQ zQ fun v0 w1 X1 ax ho=>?_;have hT:Ft w0 nX w1 X1 (yw w0 X1):=((Ft.init (w:=w0) (F0:=nX) fun _ h=>h.elim).since ax).Jw;have hO:Ow w1 (yw w0 X1) 5 1 v0 (([]:List Nat).map U1):=(ho.ow.tight).mono fun k ae=>⟨(ho.ow.bN ae).1,(ho.ge ae).1⟩;have CP:IntKind.u32.wrap (p.length:Int)=(p.length:Nat):=by rw [wrap32];omega
 repeat' first|refine aN ?_;intros
 rw [CP];refine hT.call (zi hO (hT.fx fun _ h=>h) (by simp)) kQ (fun _ h=>h) fun v1 rR w2 X2 hq hle gF dz hc=>?_;obtain⟨F2,hF2,Um⟩:=hq;have Um:=Ft.Wf dz Um hF2;replace dz:=dz.Jw;rw [List.nil_append] at Um;refine dW (Gv (Um.sl.mono dz.bN)) kQ dz.s.has ?_;rintro _ vZ w3 X3 rfl sF rE dT;have hO3:Ow w3 (yw w0 X3) 5 1 v1 ((um p.length).map U1):=(Um.mv (dT.lr dz.bN)).mono fun k ae=>⟨dT.sub k ae.1,ae.2⟩;replace dz:=(dz.since dT).Jw;rw [←Ul];refine dz.call (zi hO3 (dz.fx fun _ h=>h) (by simp [um])) kQ (fun _ h=>h) fun v4 sB w4 X4 hq hle gF fG hc=>?_;obtain⟨F4,hF4,hO4⟩:=hq;have hO4:=Ft.Wf fG hO4 hF4;replace fG:=fG.Jw;have ZL:Sl w4 X4 1 vp (p.map U1):=h.mv fG.lK.mv;refine ab8 fG hO4 kQ ZL (by intro r hr u hu;obtain⟨x,_,rfl⟩:=List.mem_map.1 hr;simp only [U1,bU] at hu;subst hu;rfl) (by simp [um];omega) (by simp [um];omega) fun v5 w5 X5 iJ hO5 hc5 _=>?_;refine dW (Gv (h.mv iJ.lK.mv)) kQ iJ.s.has ?_;rintro _ WG w6 X6 rfl Rm MV HX;have hO6:Ow w6 (yw w0 X6) 5 1 v5 ((um p.length++um (Xv (um p.length))++p).map U1):=by
  rw [bM];exact(hO5.mv (HX.lr iJ.bN)).mono fun k ae=>⟨HX.sub k ae.1,ae.2⟩
 replace iJ:=(iJ.since HX).Jw;rw [←Ul];refine iJ.call (zi hO6 (iJ.fx fun _ h=>h) (by simp [um];omega)) kQ (fun _ h=>h) fun v7 wa7 w7 X7 hq hle gF kP hc=>?_;obtain⟨F7,hF7,Xw⟩:=hq;have Xw:=Ft.Wf kP Xw hF7;have ov:=Xw.one
 skip
 refine kP.lK|>fun BH=>aj BH fun wa bt=>?_;dsimp only;rw [if_neg hn];refine⟨v7,rfl,?_⟩;exact Xw.mv fun k ae hl=>⟨⟨ae.2,aA hl bt.size⟩,bt.block k ae.1⟩
def qg:Nat→Nat→List Nat
 |0,_=>[]
 |k+1,n=>qg k (n/10)++[48+n % 10]
theorem uP: ∀k n,(qg k n).length=k
 |0,_=>rfl
 |k+1,n=>by rw [qg,ah,uP];rfl
def gP (dir:ByteArray) (n:Nat):ByteArray:=dir++⟨#[46]⟩++yW (qg 8 n)
theorem HM (dir:ByteArray) (n:Nat):(gP dir n).size=dir.size+9:=by
 unfold gP;rw [kD,kD,KQ,uP];rfl
section
variable {P : Program} {X : XS} {w : World} {N : Value → Prop} {t : TypeId}
theorem abp {a b:Nat} (hb:b≠0) (h:N (I ((a % b:Nat):Int))):ad P X w (binOp .rem t (I (a:Int)) (I (b:Int))) N:=by
 refine cg (fun wa=>?_) h;simp [binOp,Op.intDiv,hb];exact(Int.ofNat_tmod a b).symm
theorem abq {a b:Nat} (hb:b≠0) (ha:a<2^63) (h:N (I ((a/b:Nat):Int))):ad P X w (binOp .quo t (I (a:Int)) (I (b:Int))) N:=by
 refine cg (fun wa=>?_) h;have h1:(a:Int).tdiv b=((a/b:Nat):Int):=(Int.ofNat_tdiv a b).symm;have h2:a/b≤a:=Nat.div_le_self a b;have h3:IntKind.i64.wrap ((a/b:Nat):Int)=((a/b:Nat):Int):=by
  generalize a/b=q at h2;simp [kW,jC,hU];omega
 have fp: ¬(b:Int)=0:=by omega
 simp only [binOp,Op.intDiv,fp,if_false,h1,h3];simp
end
theorem ack (a:Int):Instr.fill (fun i=>some (i*1,1)) ((Array.range (8*1)).map ((aF .u8 0).cells[· % (aF .u8 0).cells.size]!)) [(0,.int .u8 a),(1,.int .u8 a),(2,.int .u8 a),(3,.int .u8 a),(4,.int .u8 a),(5,.int .u8 a),(6,.int .u8 a),(7,.int .u8 a)]=some #[.int .u8 a,.int .u8 a,.int .u8 a,.int .u8 a,.int .u8 a,.int .u8 a,.int .u8 a,.int .u8 a]:=by kernel_rfl
abbrev U8 (x:Nat):Value:=.int .u8 x
theorem wS {w:World} {X:XS} {dir:ByteArray} {n:Nat} (hd:dir.size≤2^40) (hn:n<2^63):Ct pg 117 #[.string dir,I n] w X nX fun v wa w'=>v= .string (gP dir n):=by
 intro w0 hk;apply P5;unfold Gj;have hs:=ak.init w0;have hT:Ft w0 nX w0 (aS w0) nX:=Ft.init fun _ h=>h.elim;refine Xb (e:=5) (k:=1) (bytes:=1) (rows:=(ey 8 48).map U1) #[.int .u8 48,.int .u8 48,.int .u8 48,.int .u8 48,.int .u8 48,.int .u8 48,.int .u8 48,.int .u8 48] (.int .u8 0) hT.s.has kQ kQ (by decide) (by decide) (ack 48) (by simp) rfl rfl fun s w1 X1 ax ho=>?_;rcases ho.row with⟨_,he⟩|⟨g,cap,cs,rfl,eo,bK,oN,oo,Dd,tY⟩
 ·cases he
 have h8:cs.take 8=(ey 8 48).map U8:=tY;have Xx:8≤cs.length:=by have:((ey 8 48).map U1).length≤cap:=oN;simp at this;omega
 refine YJ bK kQ kQ ax.has fun w2 X2 hc hF=>?_;have en:Ft w0 nX w1 X1 (fun k=>k=g):=(hT.since ax).more fun k ae=>by subst ae;exact .inr ⟨bK.1,eo⟩
 have dz:Ft w0 nX w2 X2 (fun k=>k=g):=en.fF hc (fun k ae=>ae) fun k ae=>.inl ae;refine fS (fun n' a b w X=> ∃(k m:Nat) (tail:List Nat) (cs:List Value),a=I ((k:Int)-1)∧b=I (m:Int)∧n'=k∧k≤8∧m<2^63∧qg 8 n=qg k m++tail∧AH w X g cs 5∧cs.take 8=(ey k 48++tail).map U8∧8≤cs.length∧Ft w0 nX w X (fun k=>k=g)) 8 ⟨8,n,[],cs,rfl,rfl,rfl,Nat.le_refl _,hn,by simp,hF,by simpa using h8,Xx,dz⟩ ?_;clear h8 Xx hF dz hc;rintro k a b w X ⟨_,m,tail,cs,rfl,rfl,rfl,hk8,hm,N9,hF,EM,Xx,dz⟩;have dA:(qg k m).length+tail.length=8:=by have:=congrArg List.length N9;rw [uP,ah] at this;exact this.symm
 rw [uP] at dA;cases k with
 |succ k=>
  have QC:cs[k]? =some (U8 48):=by
   have h1:(cs.take 8)[k]? =cs[k]? :=by rw [List.getElem?_take,if_pos zQ]
   rw [←h1,EM,bM,List.getElem?_append_left (by simp)];simp
  have sK:=hF.cells.RX QC;rw [eh] at sK;have hz:((k+1:Nat):Int)-1=(k:Nat):=by omega
  have h49:IntKind.u8.wrap (((48:Nat):Int)+IntKind.u8.wrap ((m % 10:Nat):Int))=((48+m % 10:Nat):Int):=by rw [ES,ES];omega
  rw [hz];repeat' first|refine bY ?_;intros
  refine Xc rfl (by simp;omega) kQ kQ ?_;rw [Nat.mul_one];refine W8 sK (Mv.refl _ _) kQ rfl ?_;refine abp (a:=m) (b:=10) zQ ?_;refine RY kQ kQ ?_;refine jo ?_;rw [h49];refine Xc rfl (by simp;omega) kQ kQ ?_;rw [Nat.mul_one];refine ab9 hF kQ zQ rfl dz.s.has fun w3 X3 c hF3=>?_;have dU:Ft w0 nX w3 X3 (fun k=>k=g):=dz.fF c (fun k ae=>ae) fun k ae=>.inl ae;refine abq (a:=m) (b:=10) zQ hm ?_;repeat' first|refine aN ?_;intros
  refine fT k zQ ⟨k,m/10,(48+m % 10)::tail,_,rfl,rfl,rfl,by omega,by omega,?_,hF3,?_,by rw [List.length_set];exact Xx,dU⟩
  ·rw [N9,qg,aH];rfl
  ·rw [List.take_set,EM];have e:(ey (k+1) 48++tail)=ey k 48++48::tail:=by rw [List.replicate_succ',aH];rfl
   rw [e,bM,bM,List.set_append_right _ _ (by simp),bm,List.length_replicate,Nat.sub_self];rfl
 |zero=>
  have Zi:tail=qg 8 n:=by rw [N9];rfl
  have adA:cs.take 8=(qg 8 n).map U8:=by rw [EM,←Zi];rfl
  have sK:Cells w X g 0 ((qg 8 n).map fun x:Nat=>aF .u8 x):=by
   have h1:=hF.cells.part 0 8;rw [List.drop_zero,adA] at h1;exact h1
  have h2:ak (aS w0) w0 X w:=dz.lK;repeat' first|refine bY ?_;intros
  refine NY (by show dir.size+1≤_;omega) ?_;refine YK (e:=5) (by simp [uP]) sK kQ kQ kQ dz.s.has fun w4 X4 jh=>?_;replace h2:=h2.trans jh;refine NY (by rw [kD,KQ,uP];show dir.size+1+8≤_;omega) ?_;exact aj h2 fun wa bt=>rfl
theorem Rl {w:World} {X:XS} {dir:ByteArray} {n:Nat} (h1:1≤dir.size) (h2:dir.size≤11) (h3:1≤n) (h4:n≤99999999):Ct pg 62 #[.string dir,I n] w X nX fun v wa w'=>v= .tuple #[.string (gP dir n),I 0]:=by
 intro w0 hk;apply P3;unfold Gh;have hs:=ak.init w0;repeat' first|refine bY ?_;intros|refine du ?_ ?_<;>intros|(refine dW (wS zQ zQ) kQ hs.has ?_;rintro _ wa w X rfl hle gF ax;replace hs:=hs.trans ax)|((first|(with_reducible refine aj hs ?_)|(with_reducible refine aj (bL.trans hs) ?_));intro wa hk;rfl)
 rename_i he;subst he;exact absurd h1 (by decide)
structure Dh where
 first:Nat
 fE:List (List Nat)
 size:Nat
structure LM where
 dir:ByteArray
 room:Nat
 dL:List Dh
 safe:Int
def LM.last (L:LM):Dh:=L.dL.getLast?.getD ⟨0,[],0⟩
def LM.next (L:LM):Nat:=L.last.first+L.last.fE.length
def LM.fO (L:LM):ByteArray:=gP L.dir L.last.first
structure LD where
 L:LM
 m:DM
def LD.sync (x:LD):LD×Nat:=let r:=x.m.sync x.L.fO;(⟨if r.2=0 then { x.L with safe:=(x.L.next:Int)-1 } else x.L,r.1⟩,r.2)
def LD.gG (x:LD) (n:Nat):LD×Nat:=let r:=x.m.create (gP x.L.dir n);(⟨if r.2=0 then { x.L with dL:=x.L.dL++[⟨n,[],0⟩] } else x.L,r.1⟩,r.2)
def LD.room (x:LD):LD×Nat:=if x.L.room≤x.L.last.size then(let r:=x.sync;if r.2≠0 then r else r.1.gG x.L.next)else(x,0)
def LM.add (L:LM) (p:List Nat):LM:= { L with dL:=L.dL.dropLast++[⟨L.last.first,L.last.fE++[p],L.last.size+(iW p).length⟩] }
def LD.lay (x:LD) (p:List Nat):LD×Nat:=let r:=x.m.append x.L.fO (iW p);(⟨if r.2=0 then x.L.add p else x.L,r.1⟩,r.2)
def LD.append (x:LD) (p:List Nat):LD×Nat×Nat:=
 if 262144<p.length then(x,0,2)else if 99999999<x.L.next then(x,0,1)else
  let r:=x.room
  if r.2≠0 then(r.1,0,r.2)else
   let q:=r.1.lay p
   if q.2≠0 then(q.1,0,q.2)else(q.1,x.L.next,0)
structure jD where
 b:Nat
 first:Nat
 rv:Value
 rs:List (Value×List Nat)
 size:Nat
def jD.er (s:jD):Dh:=⟨s.first,s.rs.map (·.2),s.size⟩
def Ps (x y:jD):Prop:=x.b≠y.b∧ ∀g,x.rv.ownBlock=some g→y.rv.ownBlock≠some g
structure tG (w:World) (F:XS) (lb db:Nat) (sv:Value) (bl:List jD) (L:LM):Prop where
 dL:L.dL=bl.map jD.er
 box:bq w F lb [ptr db 0,.string L.dir,I L.room,sv,I L.safe] 136
 so:Ow w F 145 1 sv (bl.map fun s=>[ptr s.b 0])
 row: ∀s∈bl,bq w F s.b [I s.first,s.rv,I s.size] 144
 yO: ∀s∈bl,Ow w F 86 1 s.rv (s.rs.map fun r=>[r.1])
 BY: ∀s∈bl,∀r∈s.rs,Ow w F 5 1 r.1 (r.2.map U1)
 ap:bl.Pairwise Ps
theorem tG.mv {w w':World} {F F':XS} {lb db:Nat} {sv:Value} {bl:List jD} {L:LM} (h:tG w F lb db sv bl L) (v:Mv F w F' w'):tG w' F' lb db sv bl L:=
 ⟨h.dL,h.box.mv v,h.so.mv v,fun s hs=>(h.row s hs).mv v,fun s hs=>(h.yO s hs).mv v,fun s hs r hr=>(h.BY s hs r hr).mv v,h.ap⟩
def Lg (w:World) (F:XS) (lb db:Nat) (L:LM) (m:DM):Prop:=
 ∃FL FD sv bl,Dj FL FD∧(∀k,FL k→F k)∧(∀k,FD k→F k)∧tG w FL lb db sv bl L∧Dk w FD db m
theorem Lg.mv {w w':World} {F:XS} {lb db:Nat} {L:LM} {m:DM} (h:Lg w F lb db L m) (v:Mv F w F w'):Lg w' F lb db L m:=by
 obtain⟨FL,FD,sv,bl,hd,h1,h2,h3,h4⟩:=h;exact⟨FL,FD,sv,bl,hd,h1,h2,h3.mv fun k hk hl=>⟨hk,(v k (h1 k hk) hl).2⟩,h4.mv fun k hk hl=>⟨hk,(v k (h2 k hk) hl).2⟩⟩
theorem Lg.mono {w:World} {F F':XS} {lb db:Nat} {L:LM} {m:DM} (h:Lg w F lb db L m) (hs: ∀k,F k→F' k):Lg w F' lb db L m:=by
 obtain⟨FL,FD,sv,bl,hd,h1,h2,h3,h4⟩:=h;exact⟨FL,FD,sv,bl,hd,fun k hk=>hs k (h1 k hk),fun k hk=>hs k (h2 k hk),h3,h4⟩
structure mU (L:LM):Prop where
 ne:L.dL≠[]
 d1:1≤L.dir.size
 d2:L.dir.size≤11
 vE: ∀s∈L.dL,s.first+s.fE.length≤2^40∧s.size≤2^40
 room:L.room≤2^40
theorem LM.rD {L:LM} (h:L.dL≠[]):L.last∈L.dL:=by
 unfold LM.last;rw [iD h];exact List.getLast_mem h
theorem LM.Kg {L:LM} (h:L.dL≠[]):L.dL=L.dL.dropLast++[L.last]:=by
 unfold LM.last;rw [iD h];exact(kY h).symm
theorem mU.next {L:LM} (h:mU L):L.next≤2^40:=(h.vE _ (LM.rD h.ne)).1
theorem mU.first {L:LM} (h:mU L):L.last.first≤2^40:=by have:=h.next;unfold LM.next at this;omega
theorem tG.last {w:World} {F:XS} {lb db:Nat} {sv:Value} {bl:List jD} {L:LM} (h:tG w F lb db sv bl L) (hL:mU L): ∃oX s,bl=oX++[s]∧s.er=L.last∧L.dL.dropLast=oX.map jD.er:=by
 have dO:bl≠[]:=fun e=>hL.ne (by rw [h.dL,e];rfl);refine⟨bl.dropLast,bl.getLast dO,(kY dO).symm,?_,?_⟩
 ·unfold LM.last;rw [h.dL,List.getLast?_map,iD dO];rfl
 ·rw [h.dL,List.map_dropLast]
section
variable {w : World} {X F : XS} {lb db : Nat} {sv : Value} {bl : List jD} {L : LM}
theorem tH {oX:List jD} {s:jD} (h:tG w F lb db sv (oX++[s]) L) (hF:FX F X w):Ct pg 69 #[ptr lb 0] w X nX fun v wa w'=>v=ptr s.b 0:=by
 intro w0 hk;replace h:=h.mv (hF.mv hk);have hX:=fun k ae=>(hF.kp hk k ae).1;have hb:=h.box.mv (Mv.sub hX);have Iu:=h.so.sl.mono hX;have hlen:=Iu.gH;have zy:(oX++[s]).length=oX.length+1:=by simp
 have GS:(oX++[s])[oX.length]? =some s:=by simp
 apply IL;unfold yB;have hs:=ak.init w0;repeat' first|refine aN ?_;intros|((first|(with_reducible refine aj hs ?_)|(with_reducible refine aj (bL.trans hs) ?_));intro wa hk;rfl)
theorem Av (h:tG w F lb db sv bl L) (hL:mU L) (hF:FX F X w):Ct pg 28 #[ptr lb 0] w X nX fun v wa w'=>v=I L.next:=by
 intro w0 hk;obtain⟨oX,s,rfl,he,_⟩:=h.last hL;replace h:=h.mv (hF.mv hk);have hX:=fun k ae=>(hF.kp hk k ae).1;have mf:s∈oX++[s]:=by simp
 have hb:=(h.row s mf).mv (Mv.sub hX);have hr:=(h.yO s mf).sl.mono hX;have hn:=hL.next
 have sQ:L.next=s.first+s.rs.length:=by unfold LM.next;rw [←he];simp [jD.er]
 have oe:FX F (aS w0) w0:=hF.kp hk;apply IJ;unfold yz;have hs:=ak.init w0;refine dW (tH h oe) kQ hs.has ?_;rintro _ wa w1 X1 rfl hle gF ax;replace hs:=hs.trans ax;have u3:=hb.since hs;repeat' first|refine aN ?_;intros
 refine dW (tH (h.mv (hs.lr hX)) fun k ae=>⟨hs.sub k (hX k ae),hs.has k (hs.sub k (hX k ae))⟩) kQ hs.has ?_;rintro _ rR w2 X2 rfl mc mS dJ;replace hs:=hs.trans dJ;have CT:=hb.since hs;have pV:=hr.since hs;clear u3;repeat' first|refine aN ?_;intros|((first|(with_reducible refine aj hs ?_)|(with_reducible refine aj (bL.trans hs) ?_));intro wa hk;(rw [sQ];simp))
theorem PK (h:tG w F lb db sv bl L) {s:Dh} {r:List Dh} (hL:L.dL=s::r) (hF:FX F X w):Ct pg 27 #[ptr lb 0] w X nX fun v wa w'=>v=I s.first:=by
 intro w0 hk;have Xy:=h.dL;rw [hL] at Xy;cases bl with
 |nil=>cases Xy
 |cons s' oX=>
  simp only [List.map_cons,List.cons.injEq] at Xy;replace h:=h.mv (hF.mv hk);have hX:=fun k ae=>(hF.kp hk k ae).1;have hb:=h.box.mv (Mv.sub hX);have CT:=(h.row s' (by simp)).mv (Mv.sub hX);have Iu:=h.so.sl.mono hX;apply Hh;unfold xW;have hs:=ak.init w0;repeat' first|refine aN ?_;intros
  refine Xa (i:=0) Iu rfl rfl kQ kQ fun b o hc=>?_;repeat' first|refine aN ?_;intros|((first|(with_reducible refine aj hs ?_)|(with_reducible refine aj (bL.trans hs) ?_));intro wa hk;(rw [Xy.1];rfl))
end
structure LW (w:World) (F:XS) (lb db:Nat) (L:LM) (m:DM) (FL FD:XS) (sv:Value) (bl:List jD):Prop where
 dj:Dj FL FD
 hL: ∀k,FL k→F k
 hD: ∀k,FD k→F k
 l:tG w FL lb db sv bl L
 d:Dk w FD db m
theorem Lg.lw {w:World} {F:XS} {lb db:Nat} {L:LM} {m:DM} (h:Lg w F lb db L m): ∃FL FD sv bl,LW w F lb db L m FL FD sv bl:=let⟨FL,FD,sv,bl,a,b,c,d,e⟩:=h;⟨FL,FD,sv,bl,a,b,c,d,e⟩
theorem LW.lg {w:World} {F FL FD:XS} {lb db:Nat} {L:LM} {m:DM} {sv:Value} {bl:List jD} (h:LW w F lb db L m FL FD sv bl):Lg w F lb db L m:=⟨FL,FD,sv,bl,h.dj,h.hL,h.hD,h.l,h.d⟩
section
variable {w w' wa : World} {X X' F F' FL FD Gw : XS} {lb db : Nat} {L : LM} {m m' : DM} {sv : Value} {bl : List jD}
theorem LW.mv (h:LW w F lb db L m FL FD sv bl) (v:Mv F w F w'):LW w' F lb db L m FL FD sv bl:=
 ⟨h.dj,h.hL,h.hD,h.l.mv fun k hk hl=>⟨hk,(v k (h.hL k hk) hl).2⟩,h.d.mv fun k hk hl=>⟨hk,(v k (h.hD k hk) hl).2⟩⟩
theorem LW.mono (h:LW w F lb db L m FL FD sv bl) (hs: ∀k,F k→F' k):LW w F' lb db L m FL FD sv bl:=⟨h.dj,fun k hk=>hs k (h.hL k hk),fun k hk=>hs k (h.hD k hk),h.l,h.d⟩
theorem LW.Wg (h:LW w F lb db L m FL FD sv bl) (hF:FX F X w) (hle:w.heap.size≤wa.heap.size) (c:fb FD X w X' w') (yN: ∀k,Gw k→FD k∨made wa w' k) (hd:Dk w' Gw db m'):LW w' (fun k=>F k∨made wa w' k) lb db L m' FL Gw sv bl:=
 ⟨fun k a b=>(yN k b).elim (h.dj k a) fun hm=>by have:=(hF k (h.hL k a)).2;have:=hm.1;omega,fun k hk=>.inl (h.hL k hk),fun k hk=>(yN k hk).imp (h.hD k) id,
  h.l.mv (c.fW fun k hk=>⟨(hF k (h.hL k hk)).1,fun hf=>h.dj k hk hf⟩),hd⟩
theorem tG.YP {z:Int} (h:tG w FL lb db sv bl L) (hX: ∀k,FL k→X k) (c:fb (· =lb) X w X' w') (hr:bq w' X' lb [ptr db 0,.string L.dir,I L.room,sv,I z] 136):tG w' FL lb db sv bl { L with safe:=z } :=by
 have mv: ∀{A:XS},(∀k,A k→FL k∧k≠lb)→Mv A w FL w':=fun hA k hk _=>⟨(hA k hk).1,c.block k (hX k (hA k hk).1) (hA k hk).2⟩;refine⟨h.dL,⟨h.box.1,hr.2⟩,?_,fun s hs=>?_,fun s hs=>?_,fun s hs r hr=>?_,h.ap⟩
 ·exact h.so.tight.mv (mv fun k hk=>⟨(h.so.bN hk).1,fun e=>h.so.dX h.box kQ (e▸hk)⟩)
 ·exact(h.row s hs).own.mv (mv fun k hk=>by subst hk;exact⟨(h.row s hs).1,(h.row s hs).dX h.box kQ⟩)
 ·exact(h.yO s hs).tight.mv (mv fun k hk=>⟨((h.yO s hs).bN hk).1,fun e=>(h.yO s hs).dX h.box kQ (e▸hk)⟩)
 ·exact(h.BY s hs r hr).tight.mv (mv fun k hk=>⟨((h.BY s hs r hr).bN hk).1,fun e=>(h.BY s hs r hr).dX h.box kQ (e▸hk)⟩)
end
theorem HY {w:World} {X F:XS} {lb db:Nat} {L:LM} {m:DM} (h:Lg w F lb db L m) (hL:mU L) (hF:FX F X w):
  Ct pg 95 #[ptr lb 0] w X F fun v wa w'=>v=I (LD.sync ⟨L,m⟩).2∧ ∃F',(∀k,F' k→F k∨made wa w' k)∧Lg w' F' lb db (LD.sync ⟨L,m⟩).1.L (LD.sync ⟨L,m⟩).1.m:=by
 intro w0 hk;obtain⟨FL,FD,sv,bl,h⟩:=(h.mv (hF.mv hk)).lw;have hT:=hF.ft hk;have oe:FX F (aS w0) w0:=hF.kp hk;obtain⟨oX,s,Ky,he,_⟩:=h.l.last hL;have hFL:FX FL (aS w0) w0:=fun k ae=>oe k (h.hL k ae);have hX:=fun k ae=>(hFL k ae).1;have hb:=h.l.box.mv (Mv.sub hX);have mf:s∈bl:=by rw [Ky];simp
 have NT:=(h.l.row s mf).mv (Mv.sub hX);have qm:s.first=L.last.first:=by rw [←he];rfl
 have hfb:=hL.first
 apply IN;unfold yD;have hs:=ak.init w0;repeat' first|refine aN ?_;intros
 refine dW (tH (Ky▸h.l) hFL) kQ hs.has ?_;rintro _ wa w1 X1 rfl hle gF ax;replace hs:=hs.trans ax;have abr:=NT.since hs;repeat' first|refine aN ?_;intros
 rw [qm];refine dW (wS (by have:=hL.d2;omega) zQ) kQ hs.has ?_;rintro _ rR w2 X2 rfl mc mS dJ;replace hs:=hs.trans dJ;have dz:=hT.since hs;have h2:=h.mv (hs.lr hT.bN);refine dz.call (Qm h2.d (dz.fx h2.hD)) kQ h2.hD fun v vZ w3 X3 hq sF rE dU om=>?_;obtain⟨rfl,Gw,Pt,hD⟩:=hq;have h3:=h2.Wg (dz.fx fun _ h=>h) sF om Pt hD;have eS:LD.sync ⟨L,m⟩=(⟨if(m.sync L.fO).2=0 then { L with safe:=(L.next:Int)-1 } else L,(m.sync L.fO).1⟩,(m.sync L.fO).2):=rfl;have eN:L.fO=gP L.dir L.last.first:=rfl
 rw [eS];dsimp only;rw [eN];generalize hms:m.sync (gP L.dir L.last.first)=ms at h3⊢;have sQ:=hL.next
 repeat' first|refine aN ?_;intros|refine du ?_ ?_<;>intros|with_reducible apply dg
 ·rename_i hz;have hz:ms.2=0:=by have:(ms.2:Int)=0:=(by assumption);omega
  have dT:=ak.fC dU.s.has;refine dW (Av h3.l hL (dU.fx h3.hL)) kQ dU.s.has ?_;rintro _ sB w4 X4 rfl vI nF jh;have fG:=dU.since jh;have h4:=h3.mv (jh.lr dU.bN);have Un: ∀k,FL k→X4 k:=fun k ae=>fG.bN k (h4.hL k ae);have I8:=h4.l.box.mv (Mv.sub Un);repeat' first|refine aN ?_;intros
  refine yj (o:=4) I8 zQ kQ (by simp) rfl fG.s.has fun w5 X5 c5 Nc=>?_;have iJ:=fG.fF (F':=fun k=>F k∨made vZ w3 k) c5 (fun k ae=>by subst ae;exact h4.hL _ h4.l.box.1) fun k ae=>.inl ae;have h5:=h4.l.YP Un c5 Nc;refine iJ.fin fun wa bt=>⟨rfl,_,iJ.jf bt fun _ h=>h,?_⟩;rw [if_pos hz];refine Lg.mv ⟨FL,Gw,sv,bl,h4.dj,h4.hL,h4.hD,h5,h4.d.mv (c5.fW fun k ae=>⟨fG.bN k (h4.hD k ae),fun e=>h4.dj k (by rw [e];exact h4.l.box.1) ae⟩)⟩ (bt.fW iJ.bN)
 ·have hz: ¬ms.2=0:=by have: ¬(ms.2:Int)=0:=(by assumption);omega
  refine dU.fin fun wa bt=>⟨rfl,_,dU.jf bt fun _ h=>h,?_⟩;rw [if_neg hz];exact(h3.mv (bt.fW dU.bN)).lg
section
variable {w w' wa : World} {X X' F F' FL vF FD Gw G : XS} {lb db : Nat} {L : LM} {m m' : DM} {sv Ja : Value} {bl oX : List jD}
theorem tG.YQ (h:tG w FL lb db sv bl L) (hX:FX FL X w) (c:fb G X w X' w') (hG: ∀k,G k→k=lb∨sv.ownBlock=some k) (Po: ∀k,FL k→vF k)
  (hr:bq w' vF lb [ptr db 0,.string L.dir,I L.room,Ja,I L.safe] 136) (ho:Ow w' vF 145 1 Ja (oX.map fun s=>[ptr s.b 0]))
  (hn: ∀s∈oX,s∈bl∨(bq w' vF s.b [I s.first,s.rv,I s.size] 144∧Ow w' vF 86 1 s.rv (s.rs.map fun r=>[r.1])∧ ∀r∈s.rs,Ow w' vF 5 1 r.1 (r.2.map U1)))
  (Fw:oX.Pairwise Ps):tG w' vF lb db Ja oX { L with dL:=oX.map jD.er } :=by
 have mv: ∀{A:XS},(∀k,A k→FL k∧k≠lb∧sv.ownBlock≠some k)→Mv A w vF w':=fun hA k hk _=>by
  obtain⟨a1,a2,a3⟩:=hA k hk;exact⟨Po k a1,c.block k (hX k a1).1 fun hg=>(hG k hg).elim a2 a3⟩
 refine⟨rfl,hr,ho,fun s hs=>?_,fun s hs=>?_,fun s hs r hr=>?_,Fw⟩
 ·rcases hn s hs with hs|hs
  ·exact(h.row s hs).own.mv (mv fun k hk=>by subst hk;exact⟨(h.row s hs).1,(h.row s hs).dX h.box kQ,h.so.dX (h.row s hs) kQ⟩)
  ·exact hs.1
 ·rcases hn s hs with hs|hs
  ·refine(h.yO s hs).tight.mv (mv fun k hk=>⟨((h.yO s hs).bN hk).1,fun e=>(h.yO s hs).dX h.box kQ (e▸hk),fun e=>?_⟩);obtain⟨c1,h1⟩:=(h.yO s hs).tag hk;obtain⟨c2,h2⟩:=h.so.tag e;rw [h1] at h2;simp at h2
  ·exact hs.2.1
 ·rcases hn s hs with hs|hs
  ·refine(h.BY s hs r hr).tight.mv (mv fun k hk=>⟨((h.BY s hs r hr).bN hk).1,fun e=>(h.BY s hs r hr).dX h.box kQ (e▸hk),fun e=>?_⟩);obtain⟨c1,h1⟩:=(h.BY s hs r hr).tag hk;obtain⟨c2,h2⟩:=h.so.tag e;rw [h1] at h2;simp at h2
  ·exact hs.2.2 r hr
abbrev jD.more (s:jD) (uo pv:Value) (p:List Nat) (z:Nat):jD:=⟨s.b,s.first,uo,s.rs++[(pv,p)],z⟩
theorem tG.YR {s:jD} {uo pv:Value} {p:List Nat} {z:Nat} (h:tG w FL lb db sv (bl++[s]) L) (hX:FX FL X w) (c:fb G X w X' w') (hG: ∀k,G k→k=s.b∨s.rv.ownBlock=some k) (Po: ∀k,FL k→vF k)
  (hr:bq w' vF s.b [I s.first,uo,I z] 144) (ho:Ow w' vF 86 1 uo ((s.rs++[(pv,p)]).map fun r=>[r.1])) (hp:Ow w' vF 5 1 pv (p.map U1))
  (fe:uo.ownBlock=s.rv.ownBlock∨ ∃g,uo.ownBlock=some g∧w.heap.size≤g):
  tG w' vF lb db sv (bl++[s.more uo pv p z]) { L with dL:=(bl++[s.more uo pv p z]).map jD.er } :=by
 have gp:s∈bl++[s]:=by simp
 have mv: ∀{A:XS},(∀k,A k→FL k∧k≠s.b∧s.rv.ownBlock≠some k)→Mv A w vF w':=fun hA k hk _=>by
  obtain⟨a1,a2,a3⟩:=hA k hk;exact⟨Po k a1,c.block k (hX k a1).1 fun hg=>(hG k hg).elim a2 a3⟩
 have rs:=h.row s gp;have os:=h.yO s gp;have hold: ∀x∈bl,x∈bl++[s]:=fun x hx=>bC _ hx;have NQ:=List.pairwise_append.1 h.ap;have FO: ∀x∈bl,Ps x s:=fun x hx=>NQ.2.2 x hx s (by simp);have abt: ∀x∈bl++[s],∀r∈x.rs,Ow w' vF 5 1 r.1 (r.2.map U1):=fun x hx r hr=>by
  refine(h.BY x hx r hr).tight.mv (mv fun k hk=>⟨((h.BY x hx r hr).bN hk).1,fun e=>(h.BY x hx r hr).dX rs kQ (e▸hk),fun e=>?_⟩);obtain⟨c1,h1⟩:=(h.BY x hx r hr).tag hk;obtain⟨c2,h2⟩:=os.tag e;rw [h1] at h2;simp at h2
 refine⟨rfl,?_,?_,fun x hx=>?_,fun x hx=>?_,fun x hx r hr=>?_,?_⟩
 ·exact h.box.own.mv (mv fun k hk=>by subst hk;exact⟨h.box.1,(rs.dX h.box kQ).symm,os.dX h.box kQ⟩)
 ·have:(bl++[s.more uo pv p z]).map (fun s=>[ptr s.b 0])=(bl++[s]).map (fun s=>[ptr s.b 0]):=by simp
  rw [this];refine h.so.tight.mv (mv fun k hk=>⟨(h.so.bN hk).1,fun e=>h.so.dX rs kQ (e▸hk),fun e=>?_⟩);obtain⟨c1,h1⟩:=h.so.tag hk;obtain⟨c2,h2⟩:=os.tag e;rw [h1] at h2;simp at h2
 ·rcases List.mem_append.1 hx with hx|hx
  ·have ha:=FO x hx;have rx:=h.row x (hold x hx);exact rx.own.mv (mv fun k hk=>by subst hk;exact⟨rx.1,ha.1,os.dX rx kQ⟩)
  ·simp only [bU] at hx;subst hx;exact hr
 ·rcases List.mem_append.1 hx with hx|hx
  ·have ha:=FO x hx;have ox:=h.yO x (hold x hx);exact ox.tight.mv (mv fun k hk=>⟨(ox.bN hk).1,fun e=>ox.dX rs kQ (e▸hk),fun e=>ha.2 k hk e⟩)
  ·simp only [bU] at hx;subst hx;exact ho
 ·rcases List.mem_append.1 hx with hx|hx
  ·exact abt x (hold x hx) r hr
  ·simp only [bU] at hx;subst hx;rcases List.mem_append.1 hr with hr|hr
   ·exact abt s gp r hr
   ·simp only [bU] at hr;subst hr;exact hp
 ·refine List.pairwise_append.2 ⟨NQ.1,nA _ _,fun x hx y hy=>?_⟩;simp only [bU] at hy;subst hy;have ha:=FO x hx;refine⟨ha.1,fun g hg qi=>?_⟩;rcases fe with e|⟨g',e,ec⟩
  ·exact ha.2 g hg (e▸qi)
  ·have:=(hX g ((h.yO x (hold x hx)).bN hg).1).2;have e2:uo.ownBlock=some g:=qi;rw [e] at e2;have:g'=g:=fZ e2;omega
end
theorem HK {w:World} {X F:XS} {lb db n:Nat} {L:LM} {m:DM} (h:Lg w F lb db L m) (rQ:L.dir.size≤11) (hn:n≤2^40) (Qs:L.dL.length≤2^30) (hF:FX F X w):
  Ct pg 67 #[ptr lb 0,I n] w X F fun v wa w'=>v=I (LD.gG ⟨L,m⟩ n).2∧ ∃F',(∀k,F' k→F k∨made wa w' k)∧Lg w' F' lb db (LD.gG ⟨L,m⟩ n).1.L (LD.gG ⟨L,m⟩ n).1.m:=by
 intro w0 hk;obtain⟨FL,FD,sv,bl,h⟩:=(h.mv (hF.mv hk)).lw;have hT:=hF.ft hk;have oe:FX F (aS w0) w0:=hF.kp hk;have hX:=fun k ae=>(oe k (h.hL k ae)).1;have hb:=h.l.box.mv (Mv.sub hX);apply IK;unfold yA;have hs:=ak.init w0;repeat' first|refine aN ?_;intros
 refine dW (wS zQ zQ) kQ hs.has ?_;rintro _ rR w2 X2 rfl mc mS dJ;replace hs:=hs.trans dJ;have dz:=hT.since hs;have h2:=h.mv (hs.lr hT.bN);refine dz.call (LI h2.d (dz.fx h2.hD)) kQ h2.hD fun v vZ w3 X3 hq sF rE dU om=>?_;obtain⟨rfl,Gw,Pt,hD⟩:=hq;have h3:=h2.Wg (dz.fx fun _ h=>h) sF om Pt hD;have eS:LD.gG ⟨L,m⟩ n=(⟨if(m.create (gP L.dir n)).2=0 then { L with dL:=L.dL++[⟨n,[],0⟩] } else L,(m.create (gP L.dir n)).1⟩,(m.create (gP L.dir n)).2):=rfl;rw [eS];dsimp only;generalize hms:m.create (gP L.dir n)=ms at h3⊢;have hX3: ∀k,FL k→X3 k:=fun k ae=>dU.bN k (h3.hL k ae);have hb3:=h3.l.box.mv (Mv.sub hX3);have adB:=h3.l.so.mono hX3;have Ky:bl.length=L.dL.length:=by rw [h3.l.dL,bm]
 have o3:=h3.l.so.one;clear hs;repeat' first|refine aN ?_;intros|refine du ?_ ?_<;>intros|with_reducible apply dg
 ·have hz:ms.2=0:=by have:(ms.2:Int)=0:=(by assumption);omega
  refine ph dU.s.has fun bx w4 X4 fB jh bK=>?_;have Wh:=adB.mv jh.mv;refine TX (bytes:=8) (row:=[ptr bx 0]) Wh jh.has kQ rfl rfl rfl (by simp;omega) (by simp;omega) fun Ja w5 X5 c5 Pd adC=>?_;have I8:=hb3.since jh;have dO: ∀q,fV sv q→q≠lb:=fun q hq e=>Wh.dX I8 kQ (by rw [←e];exact hq);have Zn:bq w5 X5 lb [ptr db 0,.string L.dir,I L.room,sv,I L.safe] 136:=⟨c5.sub _ I8.1,by rw [c5.block _ I8.1 fun hq=>dO _ hq rfl];exact I8.2⟩;repeat' first|refine aN ?_;intros
  refine yj (o:=3) Zn zQ kQ (by simp) Pd.one c5.has fun w6 X6 c6 Tm=>?_;have Wi: ∀q,fV sv q→FL q:=fun q hq=>(h3.l.so.bN hq).1;have cc:fb (fun k=>k=lb∨sv.ownBlock=some k) X3 w3 X6 w6:=((fb.rI jh _).trans (c5.mono fun k _ ae=>.inr ae)).trans (c6.mono fun k _ ae=>.inl ae);have kO:Ft w0 F w6 X6 (fun k=>(F k∨made vZ w3 k)∨(X6 k∧w3.heap.size≤k)):=dU.fF cc (fun k ae=>by
   rcases ae with rfl|ae
   ·exact h3.hL _ h3.l.box.1
   ·exact h3.hL _ (Wi _ ae)) fun k ae=>ae
  have MV: ∀g,Ja.ownBlock=some g→FL g∨(X6 g∧w3.heap.size≤g):=fun g hg=>by
   rcases adC with e|⟨g',e,ec⟩
   ·exact .inl (Wi _ (e.symm.trans hg))
   ·rw [hg] at e;have:g=g':=fZ e;subst this;exact .inr ⟨c6.sub _ (Pd.bN hg).1,af jh.kp.size ec⟩
  have adD:Ja.ownBlock≠some lb:=Pd.dX Zn kQ;have acm:bx≠lb:=bK.dX I8 kQ;have acn: ¬fV sv bx:=fun hq=>Wh.dX bK kQ hq;have hL6:=h3.l.YQ (vF:=fun k=>FL k∨(X6 k∧w3.heap.size≤k)) (Ja:=Ja) (oX:=bl++[⟨bx,n,.slice none 0 0,[],0⟩]) (dU.fx h3.hL) cc (fun k ae=>ae) (fun k ae=>.inl ae) ⟨.inl h3.l.box.1,Tm.2⟩ ?_ ?_ ?_
  ·refine kO.fin fun wa bt=>⟨rfl,_,kO.jf bt fun _ h=>h,?_⟩;rw [if_pos hz];have e:({ L with dL:=(bl++[(⟨bx,n,.slice none 0 0,[],0⟩:jD)]).map jD.er } :LM)= { L with dL:=L.dL++[⟨n,[],0⟩] } :=by
    rw [bM,←h3.l.dL];rfl
   rw [←e];refine Lg.mv ⟨_,Gw,Ja,_,?_,?_,?_,hL6,h3.d.mv (cc.fW fun k ae=>⟨dU.bN k (h3.hD k ae),fun hg=>?_⟩)⟩ (bt.fW kO.bN)
   ·intro k ha fp;rcases ha with ha|ha
    ·exact h3.dj k ha fp
    ·have:=(dU.fx h3.hD k fp).2;omega
   ·exact fun k ae=>ae.imp (h3.hL k) id
   ·exact fun k ae=>.inl (h3.hD k ae)
   ·rcases hg with rfl|hg
    ·exact h3.dj _ h3.l.box.1 ae
    ·exact h3.dj _ (Wi _ hg) ae
  ·rw [bM];refine Pd.tight.mv fun k ae hl=>⟨MV k ae,c6.block k (Pd.bN ae).1 fun e=>adD (by rw [←(show k=lb from e)];exact ae)⟩
  ·intro s yy;rcases List.mem_append.1 yy with yy|yy
   ·exact .inl yy
   ·simp only [bU] at yy;subst yy;have hb6:w6.heap[bx]? =w4.heap[bx]? :=by
     rw [c6.block bx (c5.sub _ bK.1) acm,c5.block bx bK.1 acn]
    exact .inr ⟨⟨.inr ⟨c6.sub _ (c5.sub _ bK.1),fB⟩,by rw [hb6];exact bK.2⟩,Ow.nil _ _ _ _,fun r hr=>by cases hr⟩
  ·refine List.pairwise_append.2 ⟨h3.l.ap,nA _ _,fun x hx y hy=>?_⟩;simp only [bU] at hy;subst hy;refine⟨fun e=>?_,fun g hg qi=>by cases qi⟩;have:=(dU.fx h3.hL _ (h3.l.row x hx).1).2;have e':x.b=bx:=e;omega
 ·have hz: ¬ms.2=0:=by have: ¬(ms.2:Int)=0:=(by assumption);omega
  refine dU.fin fun wa bt=>⟨rfl,_,dU.jf bt fun _ h=>h,?_⟩;rw [if_neg hz];exact(h3.mv (bt.fW dU.bN)).lg
theorem mU.safe {L:LM} (h:mU L) (z:Int):mU { L with safe:=z } :=⟨h.ne,h.d1,h.d2,h.vE,h.room⟩
theorem mU.sync {L:LM} {m:DM} (h:mU L):mU (LD.sync ⟨L,m⟩).1.L:=by
 unfold LD.sync;dsimp only;split
 ·exact h.safe _
 ·exact h
theorem mU.gG {L:LM} {m:DM} {n:Nat} (h:mU L) (hn:n≤2^40):mU (LD.gG ⟨L,m⟩ n).1.L:=by
 unfold LD.gG;dsimp only;split
 ·refine⟨by simp,h.d1,h.d2,fun s hs=>?_,h.room⟩;rcases List.mem_append.1 hs with hs|hs
  ·exact h.vE s hs
  ·simp only [bU] at hs;subst hs;exact⟨by simpa using hn,by simp⟩
 ·exact h
theorem LD.K1 (x:LD):x.sync.1.L.dL=x.L.dL:=by unfold LD.sync;dsimp only;split<;>rfl
theorem LD.Wj (x:LD):x.sync.1.L.dir=x.L.dir:=by unfold LD.sync;dsimp only;split<;>rfl
theorem M9 {w:World} {X F S:XS} {lb db:Nat} {L:LM} {m:DM} {vp:Value} {p:List Nat} (h:Lg w F lb db L m) (hL:mU L) (Qs:L.dL.length≤2^30) (hF:FX F X w) (hp:Sl w S 1 vp (p.map U1)) (hS: ∀k,S k→X k∧ ¬F k):
  Ct pg 94 #[ptr lb 0,vp] w X F fun v wa w'=>v= .tuple #[I (LD.append ⟨L,m⟩ p).2.1,I (LD.append ⟨L,m⟩ p).2.2]∧
   ∃F',(∀k,F' k→F k∨made wa w' k)∧Lg w' F' lb db (LD.append ⟨L,m⟩ p).1.L (LD.append ⟨L,m⟩ p).1.m:=by
 intro w0 hk;obtain⟨FL,FD,sv,bl,h⟩:=(h.mv (hF.mv hk)).lw;have hT:=hF.ft hk;have oe:FX F (aS w0) w0:=hF.kp hk;have ML:Sl w0 (out F w0) 1 vp (p.map U1):=hp.mv fun k ae hl=>⟨⟨aA hl hk.size,(hS k ae).2⟩,hk.block k (hS k ae).1⟩;have CP:=ML.gH;have ov:=ML.one;have sQ:=hL.next
 generalize hr:LD.append ⟨L,m⟩ p=r;unfold LD.append at hr;dsimp only at hr;apply Fi;unfold wo;refine dW (Av h.l hL (hT.fx h.hL)) kQ hT.s.has ?_;rintro _ wa w1 X1 rfl hle gF ax;have en:=hT.since ax;have h1:=h.mv (ax.lr hT.bN);have hpA: ∀{w X F'},Ft w0 F w X F'→Sl w X 1 vp (p.map U1):=fun hT=>ML.mv hT.s.mv;have hp1:=hpA en;have stay:r.1=⟨L,m⟩→ ∀wa,Kp X1 w1 wa→ ∃F',(∀k,F' k→F k∨made w0 wa k)∧Lg wa F' lb db r.1.L r.1.m:=fun e wa bt=>⟨F,en.jf bt fun _ h=>h,by rw [e];exact(h1.mv (bt.fW en.bN)).lg⟩;repeat' first|refine aN ?_;intros|refine du ?_ ?_<;>intros
 ·rw [if_pos zQ] at hr;subst hr;exact en.fin fun wa bt=>⟨rfl,stay rfl wa bt⟩
 ·rw [if_neg zQ,if_pos zQ] at hr;subst hr;exact en.fin fun wa bt=>⟨rfl,stay rfl wa bt⟩
 ·rw [if_neg zQ,if_neg zQ] at hr;have aed:p.length≤262144:=by omega
  clear stay;refine iF (fun k=> ∀(w:World) (X F1 FL FD:XS) (sv:Value) (bl:List jD) (x:LD),LD.room ⟨L,m⟩=(x,0)→mU x.L→x.L.dL.length≤2^30+1→Ft w0 F w X F1→LW w F1 lb db x.L x.m FL FD sv bl→k w X) ?_ ?_
  ·intro w X F1 FL FD sv bl x hrm Q9 qj dz h2;rw [hrm] at hr;dsimp only at hr;rw [if_neg (by simp)] at hr;obtain⟨oX,s,rfl,he,hdl⟩:=h2.l.last Q9;refine dW (tH h2.l (dz.fx h2.hL)) kQ dz.s.has ?_;rintro _ vZ w3 X3 rfl sF rE dT;have dU:=dz.since dT;have h3:=h2.mv (dT.lr dz.bN);refine dW (LK (hpA dU)) kQ dU.s.has ?_;rintro vq sB w4 X4 hq vI nF jh;rw [if_neg zQ] at hq;obtain⟨vb,rfl,Ti⟩:=hq;have fG:=dU.since jh;have h4:=h3.mv (jh.lr dU.bN);have Un: ∀k,FL k→X4 k:=fun k ae=>fG.bN k (h4.hL k ae);have I8:=h4.l.box.mv (Mv.sub Un);have mf:s∈oX++[s]:=by simp
   have aee:=(h4.l.row s mf).mv (Mv.sub Un);have qm:s.first=x.L.last.first:=by rw [←he];rfl
   have gy:s.size=x.L.last.size:=by rw [←he];rfl
   have WZ:x.L.last.fE=s.rs.map (·.2):=by rw [←he];rfl
   have hfb:=Q9.first
   have sQ:=Q9.next
   have hls:=Q9.vE _ (LM.rD Q9.ne);have QB:s.rs.length=x.L.last.fE.length:=by rw [WZ,bm]
   have gL:=I9 p;have ovb:=Ti.one;repeat' first|refine aN ?_;intros
   rw [qm];refine dW (wS (by have:=Q9.d2;omega) zQ) kQ fG.s.has ?_;rintro _ To w5 X5 rfl Jl Ni KA;have iJ:=fG.since KA;have h5:=h4.mv (KA.lr fG.bN);have hz4:=jh.kp.size;have adE:Sl w5 (made sB w4) 1 vb ((iW p).map U1):=Ti.sl.mv fun k ae hl=>⟨ae,KA.kp.block k (nF k ae)⟩;refine iJ.call (LH h5.d (iJ.fx h5.hD) adE (fun k ae=>⟨KA.sub k (nF k ae),fun hf=>?_⟩) zQ) kQ h5.hD fun v WG w6 X6 hq Rm MV kO hc6=>?_
   ·have:=(dU.fx h3.hD k hf).2;have:=ae.1;omega
   obtain⟨rfl,Gw,Pt,hD⟩:=hq;have h6:=h5.Wg (iJ.fx fun _ h=>h) Rm hc6 Pt hD;have eL:x.lay p=(⟨if(x.m.append x.L.fO (iW p)).2=0 then x.L.add p else x.L,(x.m.append x.L.fO (iW p)).1⟩,(x.m.append x.L.fO (iW p)).2):=rfl;rw [eL] at hr;dsimp only at hr;have eN:x.L.fO=gP x.L.dir x.L.last.first:=rfl
   rw [eN] at hr;generalize hms:x.m.append (gP x.L.dir x.L.last.first) (iW p)=ms at hr h6⊢;have hX6: ∀k,FL k→X6 k:=fun k ae=>kO.bN k (h6.hL k ae);have adF:=(h6.l.row s mf).mv (Mv.sub hX6);have adG:=(h6.l.yO s mf).mono hX6;repeat' first|refine aN ?_;intros|refine du ?_ ?_<;>intros
   ·have hz: ¬ms.2=0:=by have: ¬(ms.2:Int)=0:=(by assumption);omega
    rw [if_pos hz,if_neg hz] at hr;subst hr;exact kO.fin fun wa bt=>⟨rfl,_,kO.jf bt fun _ h=>h,(h6.mv (bt.fW kO.bN)).lg⟩
   ·have hz:ms.2=0:=by have:(ms.2:Int)=0:=(by assumption);omega
    rw [if_neg (by simpa using hz),if_pos hz] at hr;subst hr;refine aca kO.s.has kQ (hpA kO) (by intro r hr u hu;obtain⟨x,_,rfl⟩:=List.mem_map.1 hr;simp only [U1,bU] at hu;subst hu;rfl) (by simp;omega) (by simp;omega) fun pv w7 X7 vj xe=>?_;have Wk:=adG.mv vj.mv;have Pu:=adF.since vj;refine TX (bytes:=24) (row:=[pv]) Wk vj.has kQ (by have:=ns xe.one;rw [this]) rfl (by simp [xe.one]) (by simp;omega) (by simp;omega) fun uo w8 X8 c8 Ra abu=>?_;have adH: ∀q,fV s.rv q→q≠s.b:=fun q hq e=>Wk.dX Pu kQ (by rw [←e];exact hq);have abv:bq w8 X8 s.b [I s.first,s.rv,I s.size] 144:=⟨c8.sub _ Pu.1,by rw [c8.block _ Pu.1 fun hq=>adH _ hq rfl];exact Pu.2⟩;repeat' first|refine aN ?_;intros
    refine yj (o:=1) abv zQ kQ (by simp) Ra.one c8.has fun w9 X9 c9 Wl=>?_;replace Wl:bq w9 X9 s.b [I s.first,uo,I s.size] 144:=Wl;repeat' first|refine aN ?_;intros
    refine yj (o:=2) Wl zQ kQ (by simp) rfl c9.has fun Np Nq Uo Sz=>?_;have mn:(s.size:Int)+((iW p).length:Int)=((s.size+(iW p).length:Nat):Int):=by omega
    replace Sz:bq Np Nq s.b [I s.first,uo,I ((s.size+(iW p).length:Nat):Int)] 144:=by rw [←mn];exact Sz
    have cc:fb (fun k=>k=s.b∨s.rv.ownBlock=some k) X6 w6 Nq Np:=(((fb.rI vj _).trans (c8.mono fun k _ ae=>.inr ae)).trans (c9.mono fun k _ ae=>.inl ae)).trans (Uo.mono fun k _ ae=>.inl ae);have Wm: ∀q,fV s.rv q→FL q:=fun q hq=>((h6.l.yO s mf).bN hq).1;have Wn:=kO.fF (F':=fun k=>(F1 k∨made WG w6 k)∨(Nq k∧w6.heap.size≤k)) cc (fun k ae=>by
     rcases ae with rfl|ae
     ·exact h6.hL _ (h6.l.row s mf).1
     ·exact h6.hL _ (Wm _ ae)) fun k ae=>ae
    have aco: ∀g,uo.ownBlock=some g→FL g∨(Nq g∧w6.heap.size≤g):=fun g hg=>by
     rcases abu with e|⟨g',e,ec⟩
     ·exact .inl (Wm _ (e.symm.trans hg))
     ·rw [hg] at e;have:g=g':=fZ e;subst this;exact .inr ⟨Uo.sub _ (c9.sub _ (Ra.bN hg).1),af vj.kp.size ec⟩
    have abw: ∀q,fV uo q→q≠s.b:=fun q hq e=>Ra.dX abv kQ (by rw [←e];exact hq);have Dw: ∀q,fV pv q→X7 q∧w6.heap.size≤q∧Np.heap[q]? =w7.heap[q]? :=fun q hq=>by
     have h1:=(xe.bN hq).1;have hns:q≠s.b:=fun e=>xe.dX Pu kQ (by rw [←e];exact hq);have hnr: ¬fV s.rv q:=fun Nj=>by
      obtain⟨c1,e1⟩:=xe.tag hq;obtain⟨c2,e2⟩:=Wk.tag Nj;rw [e1] at e2;simp at e2
     exact⟨h1.1,h1.2,by rw [Uo.block q (c9.sub _ (c8.sub _ h1.1)) hns,c9.block q (c8.sub _ h1.1) hns,c8.block q h1.1 hnr]⟩
    have adI:=h6.l.YR (vF:=fun k=>FL k∨(Nq k∧w6.heap.size≤k)) (uo:=uo) (pv:=pv) (p:=p) (z:=s.size+(iW p).length) (kO.fx h6.hL) cc (fun k ae=>ae) (fun k ae=>.inl ae) ⟨.inl (h6.l.row s mf).1,Sz.2⟩ ?_ ?_ ?_
    ·refine Wn.fin fun wa bt=>⟨rfl,_,Wn.jf bt fun _ h=>h,?_⟩;have e:({ x.L with dL:=(oX++[s.more uo pv p (s.size+(iW p).length)]).map jD.er } :LM)=x.L.add p:=by
      unfold LM.add;rw [hdl,bM,←he];simp [jD.er]
     rw [←e];refine Lg.mv ⟨_,Gw,sv,_,?_,?_,?_,adI,h6.d.mv (cc.fW fun k ae=>⟨kO.bN k (h6.hD k ae),fun hg=>?_⟩)⟩ (bt.fW Wn.bN)
     ·intro k ha fp;rcases ha with ha|ha
      ·exact h6.dj k ha fp
      ·have:=(kO.fx h6.hD k fp).2;omega
     ·exact fun k ae=>ae.imp (h6.hL k) id
     ·exact fun k ae=>.inl (h6.hD k ae)
     ·rcases hg with rfl|hg
      ·exact h6.dj _ (h6.l.row s mf).1 ae
      ·exact h6.dj _ (Wm _ hg) ae
    ·rw [bM];exact Ra.tight.mv fun k ae hl=>⟨aco k ae,by rw [Uo.block k (c9.sub _ (Ra.bN ae).1) (abw k ae),c9.block k (Ra.bN ae).1 (abw k ae)]⟩
    ·exact xe.tight.mv fun k ae hl=>⟨.inr ⟨Uo.sub _ (c9.sub _ (c8.sub _ (Dw k ae).1)),(Dw k ae).2.1⟩,(Dw k ae).2.2⟩
    ·rcases abu with e|⟨g,e,ec⟩
     ·exact .inl e
     ·exact .inr ⟨g,e,af vj.kp.size ec⟩
  ·intro K hK;obtain⟨oX,s,rfl,he,hdl⟩:=h1.l.last hL;have Ds: ∀k,FL k→X1 k:=fun k ae=>en.bN k (h1.hL k ae);have u3:=h1.l.box.mv (Mv.sub Ds);have mf:s∈oX++[s]:=by simp
   have abr:=(h1.l.row s mf).mv (Mv.sub Ds);have gy:s.size=L.last.size:=by rw [←he];rfl
   have hls:=hL.vE _ (LM.rD hL.ne);have hrm:=hL.room;have eR:LD.room ⟨L,m⟩=if L.room≤L.last.size then(if(LD.sync ⟨L,m⟩).2≠0 then LD.sync ⟨L,m⟩else(LD.sync ⟨L,m⟩).1.gG L.next)else(⟨L,m⟩,0):=rfl
   repeat' first|refine aN ?_;intros
   refine dW (tH h1.l (en.fx h1.hL)) kQ en.s.has ?_;rintro _ rR w2 X2 rfl mc mS dJ;have dz:=en.since dJ;have h2:=h1.mv (dJ.lr en.bN);have aef:=abr.since dJ;repeat' first|refine aN ?_;intros|refine du ?_ ?_<;>intros
   ·have ec:L.room≤L.last.size:=by omega
    rw [if_pos ec] at eR;refine dz.call (HY h2.lg hL (dz.fx fun _ h=>h)) kQ (fun _ h=>h) fun v vZ w3 X3 hq sF rE dU om=>?_;obtain⟨rfl,F3,hF3,h3⟩:=hq;have hL3:mU (LD.sync ⟨L,m⟩).1.L:=hL.sync;have SA:=LD.K1 ⟨L,m⟩;have abx:=LD.Wj ⟨L,m⟩;generalize hsy:LD.sync ⟨L,m⟩=y at eR h3 hL3 SA abx⊢;have pj:=dU.less hF3;repeat' first|refine aN ?_;intros|refine du ?_ ?_<;>intros
    ·have hz:y.2≠0:=by have: ¬(y.2:Int)=0:=(by assumption);omega
     rw [if_pos hz] at eR;rw [eR,if_pos hz] at hr;subst hr;exact pj.fin fun wa bt=>⟨rfl,F3,pj.jf bt fun _ h=>h,h3.mv (bt.fW pj.bN)⟩
    ·have hz: ¬y.2≠0:=by have:(y.2:Int)=0:=(by assumption);omega
     rw [if_neg hz] at eR;have hy:y.1=⟨y.1.L,y.1.m⟩:=rfl;refine pj.call (HK (n:=L.next) h3 (by rw [abx];exact hL.d2) sQ (by rw [SA];exact Qs) (pj.fx fun _ h=>h)) kQ (fun _ h=>h) fun v sB w4 X4 hq vI nF fG ym=>?_;obtain⟨rfl,F4,hF4,h4⟩:=hq;have hL4:(LD.gG ⟨y.1.L,y.1.m⟩ L.next).2=0→mU (LD.gG ⟨y.1.L,y.1.m⟩ L.next).1.L:=fun _=>hL3.gG sQ;have hl4:(LD.gG ⟨y.1.L,y.1.m⟩ L.next).1.L.dL.length≤2^30+1:=by
      unfold LD.gG;dsimp only;split
      ·simp only [ah,oW,SA];show L.dL.length+1≤_;omega
      ·rw [SA];show L.dL.length≤_;omega
     rw [hy] at eR;generalize hro:LD.gG ⟨y.1.L,y.1.m⟩ L.next=q at eR h4 hL4 hl4⊢
     have GG:=fG.less hF4;repeat' first|refine aN ?_;intros|refine du ?_ ?_<;>intros
     ·have hz:q.2≠0:=by have: ¬(q.2:Int)=0:=(by assumption);omega
      rw [eR,if_pos hz] at hr;subst hr;exact GG.fin fun wa bt=>⟨rfl,F4,GG.jf bt fun _ h=>h,h4.mv (bt.fW GG.bN)⟩
     ·have hz:q.2=0:=by have:(q.2:Int)=0:=(by assumption);omega
      obtain⟨FL4,FD4,sv4,bl4,h4⟩:=h4.lw;exact hK _ _ _ _ _ _ _ q.1 (by rw [eR,←hz]) (hL4 hz) hl4 GG h4
   ·have ec: ¬L.room≤L.last.size:=by omega
    rw [if_neg ec] at eR;exact hK _ _ _ _ _ _ _ ⟨L,m⟩ eR hL (by show L.dL.length≤_;omega) dz h2
theorem mU.tail {L:LM} {s t:Dh} {r:List Dh} (h:mU L) (hs:L.dL=s::t::r):mU { L with dL:=t::r } :=
 ⟨by simp,h.d1,h.d2,fun x hx=>h.vE x (by rw [hs];exact List.mem_cons_of_mem _ hx),h.room⟩
end Go.Proofs.YteomdhcbhmaiaaaGreat
namespace Go.Proofs.YteomdhcbhmaiaaaGreat
open Go.Proofs.Tryz renaming prog → pg
open Go.aX
def LD.iY (x:LD) (e:Nat) (bs:List Nat):LD×Nat×Nat:=
 if e≠0 then(x,0,e)else
  let r:=x.append bs
  if r.2.2≠0 then r else(r.1.sync.1,r.2.1,r.1.sync.2)
def DM.ks (m:DM):List ByteArray:=m.fs.map (·.1)
theorem DM.get_some {m:DM} {n:ByteArray} :(m.get n).isSome=true↔n∈m.ks:=by
 have h:=getM_none (k:=n) (l:=m.fs)
 show(getM n m.fs).isSome=true↔n∈m.fs.map (·.1)
 cases hg:getM n m.fs with
 |none=>simpa using h.1 hg
 |some x=>
  simp only [Option.isSome_some,true_iff];rcases Classical.em (n∈m.fs.map (·.1))with h'|h'
  ·exact h'
  ·have:=h.2 h';rw [hg] at this;cases this
theorem DM.Up (m:DM):m.ks.length=m.fs.length:=by simp [DM.ks]
structure jF (m:DM):Prop where
 ar:m.ar=0
 dn:m.dn=false
theorem jF.tick {m:DM} (h:jF m):jF m.tick:=by
 unfold DM.tick;rw [if_neg (by rw [h.ar];decide)];exact⟨by simp [h.ar],h.dn⟩
theorem jF.write {m:DM} (h:jF m) (f:DM→DM):m.write 0 f=(f m.tick,0):=by
 unfold DM.write;rw [if_neg (by rw [h.dn];simp),if_neg (by simp),if_neg (by rw [h.tick.dn];simp)]
theorem jF.Uq {m:DM} (h:jF m) {e:Nat} (he:e≠0) (f:DM→DM):m.write e f=(m,e):=by
 unfold DM.write;rw [if_neg (by rw [h.dn];simp),if_pos he]
theorem jF.create {m:DM} (h:jF m) {n:ByteArray} (hn:sC n=true) (hk: ¬n∈m.ks):
  (64≤m.fs.length∧m.create n=(m,3))∨(m.fs.length<64∧(m.create n).2=0∧jF (m.create n).1∧(m.create n).1.ks=m.ks++[n]∧(m.create n).1.sz=m.sz):=by
 have hg: ¬(m.get n).isSome=true:=fun e=>hk (DM.get_some.1 e);unfold DM.create;rw [if_neg (by simp [hn]),if_neg hg];by_cases hl:64≤m.fs.length
 ·left;rw [if_pos hl];exact⟨hl,h.Uq (by decide) _⟩
 ·right;rw [if_neg hl,h.write];refine⟨by omega,rfl,⟨h.tick.ar,h.tick.dn⟩,?_,?_⟩
  ·show(fQ n ([],0) m.tick.fs).map (·.1)=_
   rw [Ew,m.wX,if_neg (show¬(getM n m.fs).isSome=true from hg)];rfl
  ·have:m.tick.get n=none:=by rw [m.uN];simpa using hg
   rw [DM.QX this,m.EW];simp
theorem jF.append {m:DM} (h:jF m) {n:ByteArray} {b:List Nat} (hk:n∈m.ks) (gy:m.sz+b.length≤4194304):
  (m.append n b).2=0∧jF (m.append n b).1∧(m.append n b).1.ks=m.ks∧(m.append n b).1.sz=m.sz+b.length:=by
 have hg:=DM.get_some.2 hk;unfold DM.append;rw [if_neg (by rw [h.dn];simp)];cases hx:m.get n with
 |none=>rw [hx] at hg;cases hg
 |some x=>
  obtain⟨bs,s⟩:=x;dsimp only;rw [if_neg zQ];refine⟨by rw [if_neg (by rw [h.tick.dn];simp)],⟨h.tick.ar,h.tick.dn⟩,?_,?_⟩
  ·show(fQ n (bs++b,s) m.tick.fs).map (·.1)=_
   rw [Ew,m.wX,if_pos (show(getM n m.fs).isSome=true from hg)];rfl
  ·have:m.tick.get n=some (bs,s):=by rw [m.uN];exact hx
   have:=DM.Pm (bs:=bs++b) (s':=s) this;rw [m.EW,ah] at this;dsimp only;omega
theorem jF.sync {m:DM} (h:jF m) {n:ByteArray} (hk:n∈m.ks):(m.sync n).2=0∧jF (m.sync n).1∧(m.sync n).1.ks=m.ks∧(m.sync n).1.sz=m.sz:=by
 have hg:=DM.get_some.2 hk;unfold DM.sync;rw [if_pos hg,h.write];have hgt:(m.tick.get n).isSome=true:=by rw [m.uN];exact hg
 refine⟨rfl,?_,?_,by dsimp only;rw [DM.Pn,m.EW]⟩
 ·unfold DM.uW;dsimp only;split
  ·exact h.tick
  ·exact⟨h.tick.ar,h.tick.dn⟩
 ·unfold DM.uW;dsimp only;split
  ·unfold DM.ks;rw [m.wX]
  ·rename_i x hx
   show(fQ n _ m.tick.fs).map (·.1)=_
   rw [Ew,m.wX,if_pos (show(getM n m.fs).isSome=true from hg)];rfl
theorem Pv: ∀{k a b:Nat},a<10^k→b<10^k→qg k a=qg k b→a=b
 |0,a,b,ha,hb,_=>by omega
 |k+1,a,b,ha,hb,h=>by
  unfold qg at h;obtain⟨h1,h2⟩:=List.append_inj' h rfl;have:=Pv (k:=k) (a:=a/10) (b:=b/10) (by rw [Nat.pow_succ] at ha;omega) (by rw [Nat.pow_succ] at hb;omega) h1;simp at h2;omega
theorem Kh: ∀(k n:Nat),∀x∈qg k n,x<256
 |0,_,x,h=>by cases h
 |k+1,n,x,h=>by
  unfold qg at h;rcases List.mem_append.1 h with h|h
  ·exact Kh k _ x h
  ·simp at h;omega
theorem Wo {a b:List Nat} (ha: ∀x∈a,x<256) (hb: ∀x∈b,x<256) (h:yW a=yW b):a=b:=by
 unfold yW at h;have h1:(a.map tF)=b.map tF:=by
  have:=congrArg (fun x:ByteArray=>x.data.toList) h;simpa using this
 have h2:=congrArg (List.map UInt8.toNat) h1;simp only [List.map_map] at h2;have e: ∀l:List Nat,(∀x∈l,x<256)→l.map (UInt8.toNat∘tF)=l:=fun l hl=>by
  refine(List.map_congr_left fun x hx=>?_).trans (List.map_id l);have:=hl x hx;simp [UInt8.toNat_ofNat'];omega
 rwa [e a ha,e b hb] at h2
theorem Ur {dir:ByteArray} {a b:Nat} (ha:a<10^8) (hb:b<10^8) (h:gP dir a=gP dir b):a=b:=by
 unfold gP at h;have h1:=congrArg (fun x:ByteArray=>x.data.toList) h;simp only [ByteArray.data_append,Array.toList_append] at h1;have h2:=List.append_cancel_left h1;refine Pv ha hb (Wo (Kh _ _) (Kh _ _) ?_);unfold yW at h2⊢;simp only at h2
 congr 1
 exact Array.toList_inj.1 h2
structure jR (B c n:Nat) (x:LD):Prop where
 ok:jF x.m
 ne:x.L.dL≠[]
 d1:1≤x.L.dir.size
 d2:x.L.dir.size≤11
 r1:1≤x.L.room
 r2:x.L.room≤2^40
 keys: ∀k∈x.m.ks,∃f∈x.L.dL.map (·.first),k=gP x.L.dir f
 last:x.L.fO∈x.m.ks
 pw:(x.L.dL.map (·.first)).Pairwise (· < ·)
 emp:x.L.last.fE=[]→x.L.last.size=0
 pos: ∀s∈x.L.dL,1≤s.first∧s.first≤1+c∧s.first+s.fE.length≤1+c∧s.size≤B*c
 zC:x.L.next=1+c
 sz:x.m.sz≤B*c
 len:x.L.dL.length≤n
 cnt:x.m.ks.length≤64
theorem jR.WL {B c n:Nat} {x:LD} (h:jR B c n x) (hb:B*c≤2^30) (hc:c≤2^30):mU x.L:=
 ⟨h.ne,h.d1,h.d2,fun s hs=>by have:=h.pos s hs;omega,h.r2⟩
structure Alike (x y:LD):Prop where
 dL:y.L.dL=x.L.dL
 dir:y.L.dir=x.L.dir
 room:y.L.room=x.L.room
 ks:y.m.ks=x.m.ks
 sz:y.m.sz=x.m.sz
 ok:jF y.m
theorem Alike.refl {x:LD} (h:jF x.m):Alike x x:=⟨rfl,rfl,rfl,rfl,rfl,h⟩
theorem Alike.trans {x y z:LD} (h:Alike x y) (k:Alike y z):Alike x z:=⟨k.dL.trans h.dL,k.dir.trans h.dir,k.room.trans h.room,k.ks.trans h.ks,k.sz.trans h.sz,k.ok⟩
theorem Alike.last {x y:LD} (h:Alike x y):y.L.last=x.L.last:=by unfold LM.last;rw [h.dL]
theorem Alike.fO {x y:LD} (h:Alike x y):y.L.fO=x.L.fO:=by unfold LM.fO;rw [h.last,h.dir]
theorem Alike.next {x y:LD} (h:Alike x y):y.L.next=x.L.next:=by unfold LM.next;rw [h.last]
theorem Alike.inv {B c n:Nat} {x y:LD} (h:Alike x y) (k:jR B c n x):jR B c n y:=by
 refine⟨h.ok,by rw [h.dL];exact k.ne,by rw [h.dir];exact k.d1,by rw [h.dir];exact k.d2,by rw [h.room];exact k.r1,by rw [h.room];exact k.r2,?_,?_,by rw [h.dL];exact k.pw,?_,?_,?_,?_,?_,by rw [h.ks];exact k.cnt⟩
 ·rw [h.ks,h.dL,h.dir];exact k.keys
 ·rw [h.ks,h.fO];exact k.last
 ·rw [h.last];exact k.emp
 ·rw [h.dL];exact k.pos
 ·rw [h.next];exact k.zC
 ·rw [h.sz];exact k.sz
 ·rw [h.dL];exact k.len
theorem jR.sync {B c n:Nat} {x:LD} (h:jR B c n x):x.sync.2=0∧Alike x x.sync.1:=by
 obtain⟨h1,h2,h3,h4⟩:=h.ok.sync h.last;unfold LD.sync;dsimp only;rw [if_pos h1];exact⟨h1,⟨rfl,rfl,rfl,h3,h4,h2⟩⟩
def Full (x:LD):Prop:=64≤x.m.ks.length∧x.L.room≤x.L.last.size
theorem jR.le_last {B c n:Nat} {x:LD} (h:jR B c n x) {f:Nat} (hf:f∈x.L.dL.map (·.first)):f≤x.L.last.first:=by
 have h1:=h.pw;rw [LM.Kg h.ne,bM] at h1 hf;obtain⟨_,_,h2⟩:=List.pairwise_append.1 h1;rcases List.mem_append.1 hf with hf|hf
 ·exact Nat.le_of_lt (h2 f hf _ (by simp))
 ·simp at hf;omega
theorem jR.le_next {B c n:Nat} {x:LD} (h:jR B c n x) {f:Nat} (hf:f∈x.L.dL.map (·.first)):f≤1+c:=by
 obtain⟨s,hs,rfl⟩:=List.mem_map.1 hf;exact(h.pos s hs).2.1
theorem jR.gG {B c n:Nat} {x:LD} (h:jR B c n x) (hr:x.L.last.fE≠[]) (kc:c+2<99999999):
  (64≤x.m.ks.length∧x.gG x.L.next=(x,3))∨(x.m.ks.length<64∧(x.gG x.L.next).2=0∧jR B c (n+1) (x.gG x.L.next).1):=by
 have hl:1≤x.L.last.fE.length:=by
  cases hq:x.L.last.fE with
  |nil=>exact absurd hq hr
  |cons a b=>simp
 have sQ:=h.zC;have yU: ¬gP x.L.dir x.L.next∈x.m.ks:=fun hk=>by
  obtain⟨f,hf,e⟩:=h.keys _ hk;have h1:=h.le_last hf;have h2:=h.le_next hf;have:=Ur zQ zQ e;unfold LM.next at this;omega
 have hnm:sC (gP x.L.dir x.L.next)=true:=by
  have:=h.d1;have:=h.d2;simp only [sC,HM,decide_eq_true_eq];omega
 rw [x.m.Up];rcases h.ok.create hnm yU with⟨h1,h2⟩|⟨h1,h2,h3,h4,h5⟩
 ·left;refine⟨h1,?_⟩;unfold LD.gG;rw [h2];rfl
 ·right;refine⟨h1,?_⟩;have sD:(⟨x.L.dir,x.L.room,x.L.dL++[⟨x.L.next,[],0⟩],x.L.safe⟩:LM).last=⟨x.L.next,[],0⟩:=by simp [LM.last]
  unfold LD.gG;dsimp only;rw [if_pos h2];refine⟨h2,⟨h3,by simp,h.d1,h.d2,h.r1,h.r2,?_,?_,?_,?_,?_,?_,?_,?_,by dsimp only;rw [h4,ah,x.m.Up];simp;omega⟩⟩
  ·rw [h4];intro k hk;rcases List.mem_append.1 hk with hk|hk
   ·obtain⟨f,hf,e⟩:=h.keys k hk;exact⟨f,by rw [bM];exact bC _ hf,e⟩
   ·simp at hk;exact⟨x.L.next,by simp,hk⟩
  ·rw [h4];unfold LM.fO;rw [sD];simp
  ·rw [bM];refine List.pairwise_append.2 ⟨h.pw,by simp,fun a ha b hb=>?_⟩;simp at hb;subst hb;have:=h.le_last ha;unfold LM.next;omega
  ·intro _;rw [sD]
  ·intro s hs;rcases List.mem_append.1 hs with hs|hs
   ·exact h.pos s hs
   ·simp at hs;subst hs;simp;omega
  ·show(⟨x.L.dir,x.L.room,x.L.dL++[⟨x.L.next,[],0⟩],x.L.safe⟩:LM).last.first+(⟨x.L.dir,x.L.room,x.L.dL++[⟨x.L.next,[],0⟩],x.L.safe⟩:LM).last.fE.length=1+c
   rw [sD];simpa using sQ
  ·rw [h5];exact h.sz
  ·simp;exact h.len
theorem jR.lay {B c n:Nat} {x:LD} {p:List Nat} (h:jR B c n x) (hp:p.length+12≤B) (hc:B*(c+1)≤4194304):(x.lay p).2=0∧jR B (c+1) n (x.lay p).1:=by
 have hB:B*(c+1)=B*c+B:=Nat.mul_succ B c;have gL:(iW p).length=p.length+12:=by simp [iW,um]
 have gy:=h.sz;obtain⟨h1,h2,h3,h4⟩:=h.ok.append (b:=iW p) h.last zQ;have Tn:=LM.rD h.ne;have hle:=LM.Kg h.ne;obtain⟨p1,p2,p3,p4⟩:=h.pos _ Tn;have sD:(x.L.add p).last=⟨x.L.last.first,x.L.last.fE++[p],x.L.last.size+(iW p).length⟩:=by simp [LM.last,LM.add]
 have KT:(x.L.add p).dL.map (·.first)=x.L.dL.map (·.first):=by
  conv=>rhs;rw [hle]
  simp [LM.add]
 unfold LD.lay;dsimp only;rw [if_pos h1];refine⟨h1,⟨h2,by simp [LM.add],h.d1,h.d2,h.r1,h.r2,?_,?_,?_,?_,?_,?_,?_,?_,by dsimp only;rw [h3];exact h.cnt⟩⟩
 ·dsimp only;rw [h3,KT];exact h.keys
 ·dsimp only;rw [h3];unfold LM.fO;rw [sD];exact h.last
 ·dsimp only;rw [KT];exact h.pw
 ·dsimp only;rw [sD];intro e;simp at e
 ·dsimp only;intro s hs;rcases List.mem_append.1 hs with hs|hs
  ·have:=h.pos s (by rw [hle];exact bC _ hs);omega
  ·simp only [bU] at hs;subst hs;simp only [ah,bO,bA,gL];omega
 ·have:=h.zC;dsimp only;unfold LM.next at this⊢;rw [sD];simp;omega
 ·dsimp only;rw [h4];omega
 ·have:=h.len;rw [hle] at this;simpa [LM.add] using this
theorem jR.more {B c n n':Nat} {x:LD} (h:jR B c n x) (hn:n≤n'):jR B c n' x:= { h with len:=af h.len hn }
theorem jR.fE {B c n:Nat} {x:LD} (h:jR B c n x) (hr:x.L.room≤x.L.last.size):x.L.last.fE≠[]:=fun e=>by
 have:=h.emp e;have:=h.r1;omega
theorem jR.append {B c n:Nat} {x:LD} {p:List Nat} (h:jR B c n x) (hp:p.length+12≤B) (hB:B≤262144) (hc:B*(c+1)≤4194304) (kc:c+2<99999999):
  ((x.append p).2.2=0∧(x.append p).2.1=1+c∧jR B (c+1) (n+1) (x.append p).1)∨((x.append p).2.2=3∧Full x∧Alike x (x.append p).1):=by
 have sQ:=h.zC;unfold LD.append;rw [if_neg zQ,if_neg zQ];dsimp only;unfold LD.room;by_cases hr:x.L.room≤x.L.last.size
 ·rw [if_pos hr];obtain⟨h1,h2⟩:=h.sync;dsimp only;rw [if_neg (show¬x.sync.2≠0 from by rw [h1];simp)];have hi:=h2.inv h;rw [←h2.next];rcases hi.gG (hi.fE (by rw [h2.room,h2.last];exact hr)) kc with⟨g1,g2⟩|⟨g1,g2,g3⟩
  ·right;rw [g2];dsimp only;rw [if_pos (by simp)];exact⟨rfl,⟨by rw [←h2.ks];exact g1,hr⟩,h2⟩
  ·left;rw [if_neg (by rw [g2];simp)];obtain⟨k1,k2⟩:=g3.lay hp hc;rw [if_neg (by rw [k1];simp)];exact⟨rfl,by rw [h2.next];exact sQ,k2⟩
 ·left;rw [if_neg hr];dsimp only;rw [if_neg (by simp)];obtain⟨k1,k2⟩:=h.lay hp hc;rw [if_neg (by rw [k1];simp)];exact⟨rfl,sQ,k2.more zQ⟩
theorem jF.Us {m:DM} (h:jF m) {e:Nat} (he:e≠12) {f:DM→DM} (hf: ∀m,jF m→jF (f m)):(m.write e f).2≠12∧jF (m.write e f).1:=by
 by_cases h0:e=0
 ·subst h0;rw [h.write];exact⟨by simp,hf _ h.tick⟩
 ·rw [h.Uq h0];exact⟨he,h⟩
theorem jF.YS {m:DM} (h:jF m) (n:ByteArray):(m.create n).2≠12∧jF (m.create n).1:=by
 unfold DM.create;refine h.Us ?_ fun m hm=>⟨hm.ar,hm.dn⟩;split
 ·decide
 ·split
  ·decide
  ·split<;>decide
theorem jF.acp {m:DM} (h:jF m) (n:ByteArray):(m.sync n).2≠12∧jF (m.sync n).1:=by
 unfold DM.sync;refine h.Us (by split<;>decide) fun m hm=>?_;unfold DM.uW;split
 ·exact hm
 ·exact⟨hm.ar,hm.dn⟩
theorem jF.YT {m:DM} (h:jF m) (n:ByteArray) (b:List Nat):(m.append n b).2≠12∧jF (m.append n b).1:=by
 unfold DM.append;rw [if_neg (by rw [h.dn];simp)];split
 ·exact⟨by simp,h⟩
 ·split
  ·exact⟨by simp,h⟩
  ·refine⟨?_,⟨h.tick.ar,h.tick.dn⟩⟩;dsimp only;rw [if_neg (by rw [h.tick.dn];simp)]
   decide
structure GL (n:Nat) (x:LD):Prop where
 ok:jF x.m
 ne:x.L.dL≠[]
 d1:1≤x.L.dir.size
 d2:x.L.dir.size≤11
 vE: ∀s∈x.L.dL,s.first+s.fE.length≤n∧s.size≤n*300000
 room:x.L.room≤2^40
 len:x.L.dL.length≤n
theorem GL.up {n n':Nat} {x:LD} (h:GL n x) (hn:n≤n'):GL n' x:=
 ⟨h.ok,h.ne,h.d1,h.d2,fun s hs=>by have:=h.vE s hs;have:n*300000≤n'*300000:=Nat.mul_le_mul_right _ hn;omega,h.room,af h.len hn⟩
theorem GL.WL {n:Nat} {x:LD} (h:GL n x) (hn:n≤1000):mU x.L:=
 ⟨h.ne,h.d1,h.d2,fun s hs=>by have:=h.vE s hs;omega,h.room⟩
theorem GL.sync {n:Nat} {x:LD} (h:GL n x):x.sync.2≠12∧GL n x.sync.1:=by
 obtain⟨h1,h2⟩:=h.ok.acp x.L.fO;unfold LD.sync;dsimp only;refine⟨h1,?_⟩;split
 ·exact⟨h2,h.ne,h.d1,h.d2,h.vE,h.room,h.len⟩
 ·exact⟨h2,h.ne,h.d1,h.d2,h.vE,h.room,h.len⟩
theorem GL.gG {n:Nat} {x:LD} (h:GL n x):(x.gG x.L.next).2≠12∧GL (n+1) (x.gG x.L.next).1:=by
 obtain⟨h1,h2⟩:=h.ok.YS (gP x.L.dir x.L.next);have hu:=h.up (n':=n+1) zQ;unfold LD.gG;dsimp only;refine⟨h1,?_⟩;split
 ·refine⟨h2,by simp,h.d1,h.d2,fun s hs=>?_,h.room,by simp;exact h.len⟩;rcases List.mem_append.1 hs with hs|hs
  ·exact hu.vE s hs
  ·simp only [bU] at hs;subst hs;have:=(h.vE _ (LM.rD h.ne)).1;have e:x.L.next=x.L.last.first+x.L.last.fE.length:=rfl
   simp only [bA];omega
 ·exact⟨h2,hu.ne,hu.d1,hu.d2,hu.vE,hu.room,hu.len⟩
theorem GL.acq {n:Nat} {x:LD} (h:GL n x):x.room.2≠12∧GL (n+1) x.room.1:=by
 unfold LD.room;split
 ·dsimp only;obtain⟨h1,h2⟩:=h.sync;split
  ·exact⟨h1,h2.up zQ⟩
  ·have e:x.sync.1.L.next=x.L.next:=by unfold LM.next LM.last;rw [LD.K1]
   rw [←e];exact h2.gG
 ·exact⟨by simp,h.up zQ⟩
theorem GL.lay {n:Nat} {x:LD} {p:List Nat} (h:GL n x) (hp:p.length≤262144):(x.lay p).2≠12∧GL (n+1) (x.lay p).1:=by
 obtain⟨h1,h2⟩:=h.ok.YT x.L.fO (iW p);have hu:=h.up (n':=n+1) zQ;have gL:=I9 p;unfold LD.lay;dsimp only;refine⟨h1,?_⟩;split
 ·have hle:=LM.Kg h.ne;have Tn:=h.vE _ (LM.rD h.ne);refine⟨h2,by simp [LM.add],h.d1,h.d2,fun s hs=>?_,h.room,?_⟩
  ·rcases List.mem_append.1 hs with hs|hs
   ·exact hu.vE s (by rw [hle];exact bC _ hs)
   ·simp only [bU] at hs;subst hs;simp only [ah,bO,bA];omega
  ·have:=hu.len;rw [hle] at this;simp only [LM.add,ah,bO,bA] at this⊢;omega
 ·exact⟨h2,hu.ne,hu.d1,hu.d2,hu.vE,hu.room,hu.len⟩
theorem GL.append {n:Nat} {x:LD} (h:GL n x) (p:List Nat):(x.append p).2.2≠12∧GL (n+2) (x.append p).1:=by
 unfold LD.append;split
 ·exact⟨by simp,h.up zQ⟩
 ·split
  ·exact⟨by simp,h.up zQ⟩
  ·obtain⟨h1,h2⟩:=h.acq;dsimp only;split
   ·exact⟨h1,h2.up zQ⟩
   ·obtain⟨h3,h4⟩:=h2.lay (p:=p) zQ;split
    ·exact⟨h3,h4⟩
    ·exact⟨by simp,h4⟩
theorem GL.iY {n:Nat} {x:LD} (h:GL n x) (p:List Nat):(x.iY 0 p).2.2≠12∧GL (n+2) (x.iY 0 p).1:=by
 obtain⟨h1,h2⟩:=h.append p;unfold LD.iY;rw [if_neg (by simp)];dsimp only;split
 ·exact⟨h1,h2⟩
 ·exact h2.sync
end Go.Proofs.YteomdhcbhmaiaaaGreat
