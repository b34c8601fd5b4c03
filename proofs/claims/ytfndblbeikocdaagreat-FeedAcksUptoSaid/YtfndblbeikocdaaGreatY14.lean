/-
 Part 14 of the proof: what the last text leans on.
-/
import Derived.Test.YtfndblbeikocdaaGreatY13
open List renaming length_map → ay, range → cN, length_singleton → bD, map_append → bo, map_map → dS, range_succ → qT, mem_of_getElem? → aA, find?_cons → bS, take_add_one → bc, length_take → aW
open Nat renaming le_trans → af, lt_of_lt_of_le → aI, zero_le → aN, eq_zero_or_pos → dA
set_option linter.unusedVariables false
set_option linter.unusedSimpArgs false
namespace Go.Proofs.YtfndblbeikocdaaGreat
open Go.Proofs.Tryz renaming prog → pg
open Go.bu
set_option maxRecDepth 100000
set_option maxHeartbeats 1000000
set_option linter.unusedVariables false
set_option linter.unusedSimpArgs false
attribute [local irreducible] un jn aF aT ld1 ew st1 dt cB lS dV lT uN tG gq fW ad az aJ eW eV eU eC eF gE au fin aQ aM aH vS xt gp il pR uO xu xv xw xx gm im pS uP xy xz xA
theorem RV {w:World} {X F:XS} {db:Nat} {m:DM} {n:ByteArray} (h:Dk w F db m) (hF:FX F X w) (h0:m.get n=none):
  Ct pg 59 #[ptr db 0,.string n] w X nX fun v _ _=>v= .tuple #[.slice none 0 0,I 8]:=by
 intro w0 hk;obtain⟨mb,l,hL,hz⟩:=h.mv (hF.mv hk);have hX:=fun k ah=>(hF.kp hk k ah).1;have hb:=hL.box.mv (Mv.sub hX);have hg:=hL.get n;have hm:=hL.map.mv jo (Mv.sub hX) (A':=nX) fun _ h=>h.elim;apply IY;unfold zG;have hs:=ak.init w0;repeat' first|refine aD ?_;intros
 refine pX hm (fun f h1=>?_) fun h1=>?_
 ·rw [h1] at hg;rw [h0] at hg;cases hg
 ·repeat' first|refine aD ?_;intros|((first|(with_reducible refine ai hs ?_)|(with_reducible refine ai (bF.trans hs) ?_));intro wa hk;rfl)
theorem RW {w:World} {X F:XS} {db:Nat} {m:DM} (h:Dk w F db m) (hF:FX F X w) (h0:m.get ⟨#[109,97,114,107]⟩=none):
  Ct pg 26 #[ptr db 0] w X nX fun v _ _=>v= .tuple #[.agg #[I 0,I 0,I 0,.slice none 0 0],I 8]:=by
 intro w0 hk;replace h:=h.mv (hF.mv hk);have lF:=hF.kp hk;apply RX;unfold G3;have hs:=ak.init w0;refine dC (RV h lF h0) kQ hs.has fun w1 X1 aq=>?_;replace hs:=hs.trans aq;repeat' first|refine aD ?_;intros|refine dD ?_ ?_<;>intros|((first|(with_reducible refine ai hs ?_)|(with_reducible refine ai (bF.trans hs) ?_));intro wa hk;rfl)|(exfalso;omega)
theorem BZ {κ α:Type} [DecidableEq κ] {k:κ} {a:α} : ∀{l:List (κ×α)},getM k l=none→bM k a l=l++[(k,a)]
 |[],_=>rfl
 |x::l,h=>by
  have hx: ¬x.1=k:=fun e=>by simp [getM,bS,e] at h
  have h':getM k l=none:=by simpa [getM,bS,hx] using h
  unfold bM;rw [if_neg hx,BZ h'];rfl
def DM.KO (fr to:ByteArray) (m:DM):DM:=match m.get fr with
 |none=>m
 |some x=> { m with fs:=jk fr (bM to x m.fs) }
theorem lI.ren {w w':World} {F X X':XS} {db mb z:Nat} {l:List (ByteArray×jS)} {m:DM} {fr to:ByteArray} {f:jS} (h:lI w F db mb l m z) (hX: ∀k,F k→X k) (c:ef (· =mb) X w X' w') (ry:getM fr l=some f) (RY:getM to l=none) (bW:fr≠to)
  (hm:fy w' X' nX mb Value.string G4 (jk fr (bM to f l))):lI w' F db mb (jk fr (bM to f l)) { m with fs:=jk fr (bM to f.er m.fs) } z:=by
 have mv: ∀{A:XS},(∀k,A k→F k∧k≠mb)→Mv A w F w':=fun hA k hk _=>⟨(hA k hk).1,c.block k (hX k (hA k hk).1) (hA k hk).2⟩;have OS:=kR ry;have hl:jk fr (bM to f l)=jk fr l++[(to,f)]:=by
  rw [BZ RY];unfold jk;rw [List.filter_append];simp [Ne.symm bW]
 have lx: ∀x∈jk fr (bM to f l),x∈l∨x=(to,f):=fun x hx=>by
  rw [hl] at hx;rcases List.mem_append.1 hx with hx|hx
  ·exact .inl (List.mem_filter.1 hx).1
  ·exact .inr (List.mem_singleton.1 hx)
 have bE: ∀x∈jk fr (bM to f l),bI w F x.2.b [x.2.v,I x.2.safe] 193:=fun x hx=>by
  rcases lx x hx with hx|rfl
  ·exact h.row x hx
  ·exact h.row (fr,f) OS
 have zH: ∀x∈jk fr (bM to f l),Ow w F 5 1 x.2.v (x.2.bs.map U1):=fun x hx=>by
  rcases lx x hx with hx|rfl
  ·exact h.ow x hx
  ·exact h.ow (fr,f) OS
 refine⟨?_,?_,?_,fun x hx=>?_,fun x hx=>?_,?_,h.ar,fun x hx=>?_⟩
 ·show jk fr (bM to f.er m.fs)=_
  rw [h.fs,RZ jS.er,Em jS.er]
 ·exact h.box.own.mv (mv fun k hk=>by subst hk;exact⟨h.box.1,(h.map.gd h.box).symm⟩)
 ·obtain⟨es,c',h1,h2⟩:=hm;exact⟨es,c',⟨h.map.x.1,h1.2⟩,h2⟩
 ·exact(bE x hx).own.mv (mv fun k hk=>by subst hk;exact⟨(bE x hx).1,(h.map.gd (bE x hx)).symm⟩)
 ·exact(zH x hx).tight.mv (mv fun k hk=>⟨((zH x hx).bg hk).1,fun e=>h.map.M4 (zH x hx) (e▸hk)⟩)
 ·rw [hl];refine List.pairwise_append.2 ⟨h.ap.filter _,by simp,fun x hx y hy=>?_⟩;rw [List.mem_singleton.1 hy];have JP:=List.mem_filter.1 hx;exact aco (y:=(fr,f)) Aj h.ap JP.1 OS fun e=>by rw [e] at JP;simp at JP
 ·rcases lx x hx with hx|rfl
  ·exact h.safe x hx
  ·exact h.safe (fr,f) OS
theorem R0 {w:World} {X F:XS} {db:Nat} {m:DM} {n:ByteArray} (h:Dk w F db m) (hF:FX F X w) (h0:m.get n=none):
  Ct pg 143 #[ptr db 0,.string n] w X nX fun v _ _=>v= .tuple #[]:=by
 intro w0 hk;obtain⟨mb,l,hL,hz⟩:=h.mv (hF.mv hk);have hX:=fun k ah=>(hF.kp hk k ah).1;have eX:=hL.box.mv (Mv.sub hX);have hg:=hL.get n;have hm:=hL.map.mv jo (Mv.sub hX) (A':=nX) fun _ h=>h.elim;apply IZ;unfold zI;have hs:=ak.init w0;repeat' first|refine aD ?_;intros
 refine pX hm (fun f hn=>?_) fun hn=>?_
 ·rw [hn,h0] at hg;cases hg
 ·repeat' first|refine aD ?_;intros|((first|(with_reducible refine ai hs ?_)|(with_reducible refine ai (bF.trans hs) ?_));intro wa hk;rfl)
theorem Nf {w:World} {X F:XS} {db bd bf bt:Nat} {m:DM} {fr to:ByteArray} (h:Dk w F db m) (hF:FX F X w) (hd:bI w X bd [ptr db 0] 24) (hf:bI w X bf [.string fr] 9) (ht:bI w X bt [.string to] 9)
  (hA: ¬F bd∧ ¬F bf∧ ¬F bt) (hg:(m.get fr).isSome=true) (RY:m.get to=none) (bW:fr≠to):
  Ct pg 149 #[ptr bf 0,ptr bt 0,ptr bd 0] w X F fun v wa w'=>v= .tuple #[]∧ ∃F',(∀k,F' k→F k∨made wa w' k)∧Dk w' F' db (DM.KO fr to m):=by
 intro w0 hk;replace h:=h.mv (hF.mv hk);have hT:=hF.ft hk;replace hd:=hd.mv hk.cL;replace hf:=hf.mv hk.cL;replace ht:=ht.mv hk.cL;apply CF;unfold tT;have hs:=ak.init w0;repeat' first|refine aD ?_;intros|refine dD ?_ ?_<;>intros|(exfalso;contradiction)
 refine dC (R0 h (hT.fx fun _ h=>h) RY) kQ hT.s.has fun w1 X1 aq=>?_;have de:=hT.since aq;obtain⟨mb,l,hL,hz⟩:=h.mv (aq.jB hT.bg);replace hd:=hd.mv aq.mv;replace hf:=hf.mv aq.mv;replace ht:=ht.mv aq.mv;have eX:=hL.box.mv (Mv.sub de.bg);have hgf:=hL.get fr;have Vi:=hL.get to;have hm:=hL.map.mv jo (Mv.sub de.bg) (A':=nX) fun _ h=>h.elim;clear hs;have hs:=de.s;repeat' first|refine aD ?_;intros
 refine pX hm (fun f hn=>?_) fun hn=>?_
 rotate_left
 ·rw [hn] at hgf;rw [hgf] at hg;cases hg
 have hnt:getM to l=none:=by
  cases h9:getM to l with
  |none=>rfl
  |some x=>rw [h9,RY] at Vi;cases Vi
 skip
 refine se (kt:=9) (et:=191) (a:=f) hm jo rfl (fun _ h=>h.elim) (wi kQ) kQ de.s.has fun w2 X2 c2 oC=>?_;have WI:F mb:=hL.map.x.1;have b8:Ft w0 F w2 X2 F:=de.dF c2 (fun k ah=>by subst ah;exact WI) fun k ah=>.inl ah;have qw:=mW hd c2 fun e=>hA.1 (by have e:bd=mb:=e;rw [e];exact WI);have hf2:=mW hf c2 fun e=>hA.2.1 (by have e:bf=mb:=e;rw [e];exact WI);have aej:=mW eX c2 fun e=>hL.map.gd hL.box (by have e:db=mb:=e;exact e.symm);clear hs hd hf eX;have hs:=b8.s;repeat' first|refine aD ?_;intros
 refine R1 (kt:=9) (et:=191) oC jo (fun _ h=>h.elim) (wi kQ) kQ b8.s.has fun w3 X3 c3 Fl=>?_;have dz:Ft w0 F w3 X3 F:=b8.dF c3 (fun k ah=>by subst ah;exact WI) fun k ah=>.inl ah;have hR:=hL.ren de.bg (c2.trans c3) hn hnt bW Fl;have zt:m.get fr=some f.er:=by rw [hgf,hn];rfl
 have aek:DM.KO fr to m= { m with fs:=jk fr (bM to f.er m.fs) } :=by unfold DM.KO;rw [zt]
 have fB:(DM.KO fr to m).sz=m.sz:=by
  rw [aek];have lQ:(m.fs.map (·.1)).Nodup:=by rw [hL.fs,dS];exact hL.nodup
  have h1:=R2 (f:=fun x:List Nat×Nat=>x.1.length) (a:=f.er) (show getM to m.fs=none from RY);have h2:=aa0 (f:=fun x:List Nat×Nat=>x.1.length) (k:=fr) (b:=f.er) (l:=bM to f.er m.fs) (WJ lQ) (by rw [lY bW];exact zt)
  show qU _ (jk fr (bM to f.er m.fs))=qU _ m.fs
  omega
 exact dz.fin fun wa bC=>⟨rfl,F,fun k ah=>.inl ah,by rw [aek] at fB⊢;exact⟨mb,_,by rw [fB];exact hR.mv (bC.j6 dz.bg),by rw [fB];exact hz⟩⟩
theorem PN {w:World} {X F:XS} {db:Nat} {m:DM} {fr to:ByteArray} (h:Dk w F db m) (hF:FX F X w) (hg:(m.get fr).isSome=true) (RY:m.get to=none) (bW:fr≠to) (hn:Ba to=true):
  Ct pg 106 #[ptr db 0,.string fr,.string to] w X F fun v wa w'=>v=I (m.write 0 (DM.KO fr to)).2∧ ∃F',(∀k,F' k→F k∨made wa w' k)∧Dk w' F' db (m.write 0 (DM.KO fr to)).1:=by
 intro w0 hk;replace h:=h.mv (hF.mv hk);have hT:=hF.ft hk;have lF:FX F (aS w0) w0:=hF.kp hk;clear hF;apply FY;unfold xK;refine oh rfl hT.s.has fun bd w1 X1 mA aq mj=>?_;refine oh rfl aq.has fun bf w2 X2 hbf dI hrf=>?_;refine oh rfl dI.has fun bt Zm X2' hbt WK Zn=>?_;have ya:=(aq.trans dI).trans WK;have b8:=hT.since ya;have G5:=(mj.since dI).since WK;have ahh:=hrf.since WK;have h2:Dk Zm F db m:=h.mv (ya.jB fun k ah=>(lF k ah).1);have hs:=ak.iS WK.has;repeat' first|refine aD ?_;intros
 refine ek (Ma h2 (b8.fx fun _ h=>h)) kQ hs.has ?_;rintro v wa w3 X3 rfl hle eD dZ;rw [hg,if_pos rfl];have dz:=b8.since dZ;have h3:Dk w3 F db m:=h2.mv (dZ.jB b8.bg);have yb:=G5.since dZ;have ael:=ahh.since dZ;have aem:=Zn.since dZ;have Pd: ∀k,w0.heap.size≤k→ ¬F k:=fun k dU hf=>by have:=(lF k hf).2;omega
 have RQ:=aq.kp.size;have JN:=dI.kp.size;clear hs;have hs:=dz.s;refine iu (fun (k:Value→World→XS→Prop)=> ∀w4 X4,ak X3 w3 X4 w4→k (I 0) w4 X4) ?_ ?_
 ·intro w4 X4 jX;have eY:=dz.since jX;have h4:Dk w4 F db m:=h3.mv (jX.jB dz.bg);have WL:=yb.since jX;have WM:=ael.since jX;have WN:=aem.since jX;clear hs yb ael aem;have hs:=eY.s;repeat' first|refine aD ?_;intros
  refine eY.call (Bb (e:=0) (A:=fun k=>k=bf∨k=bt∨k=bd) (g:=DM.KO fr to) h4 (eY.fx fun _ h=>h) (fun k ah=>?_) kQ ?_) kQ (fun _ h=>h) fun v JI w5 X5 hq En CC fQ hc5=>?_
  ·rcases ah with rfl|rfl|rfl
   ·exact⟨WM.1,WM.lt,Pd _ zQ⟩
   ·exact⟨WN.1,WN.lt,Pd _ zQ⟩
   ·exact⟨WL.1,WL.lt,Pd _ zQ⟩
  ·intro _ w5 X5 Fq Fm G6 h5;refine Nf h5 G6 ⟨Fm _ (.inr (.inr rfl)),?_⟩ ⟨Fm _ (.inl rfl),?_⟩ ⟨Fm _ (.inr (.inl rfl)),?_⟩ ⟨Pd _ zQ,Pd _ zQ,Pd _ zQ⟩ (by rw [m.yc];exact hg) (by rw [m.yc];exact RY) bW
   ·rw [(Fq bd (.inr (.inr rfl)) (WL.lt)).2];exact WL.2
   ·rw [(Fq bf (.inl rfl) (WM.lt)).2];exact WM.2
   ·rw [(Fq bt (.inr (.inl rfl)) (WN.lt)).2];exact WN.2
  ·obtain⟨rfl,F',tP,hD⟩:=hq;clear hs;have hs:=fQ.s
   skip
   refine fQ.fin fun Q8 bC=>⟨rfl,F',fQ.nV bC tP,hD.mv (bC.j6 fun k ah=>fQ.bg k (tP k ah))⟩
 ·intro K hK;clear hs;have hs:=ak.iS dZ.has;repeat' first|refine bO ?_;intros|with_reducible apply dG|((with_reducible refine dR (JQ _) ?_ hs.has ?_ ?_);(· kernel_rfl);all_goals (intro _ w X aq;replace hs:=hs.trans aq))
  all_goals first|exact hK _ _ hs|(exfalso;simp_all)
theorem DM.wj {m:DM} {f:DM→DM} (hd:m.dn=false) (ha:m.ar=0):m.write 0 f=(f m.tick,0)∧m.tick.dn=false∧m.tick.ar=0:=by
 have h1:m.tick.dn=false∧m.tick.ar=0:=by unfold DM.tick;rw [if_neg zQ];exact⟨hd,by show m.ar-1=0;omega⟩
 refine⟨?_,h1⟩;unfold DM.write;rw [hd,h1.1];simp
theorem R3 {w:World} {X F S:XS} {db:Nat} {s:aK} {vt:Value} {tl:List (Int×Int)} (h:Dk w F db ⟨[],0,0,false⟩) (hF:FX F X w) (ht:Sl w S 2 vt (tl.map sg)) (hS: ∀k,S k→X k∧ ¬F k) (hl:tl.length≤2^10) (ml:A8 0 tl=true∧s.may=true):
  Ct pg 55 #[ptr db 0,.agg #[I s.wall,I s.dp,I s.node,vt]] w X F fun v wa w'=>v=I 0:=by
 intro w0 hk;replace h:=h.mv (hF.mv hk);have hT:=hF.ft hk;have Vx:Sl w0 (out F w0) 2 vt (tl.map sg):=ht.mv fun k ah jC=>⟨⟨aI jC hk.size,(hS k ah).2⟩,hk.block k (hS k ah).1⟩;have ov:=Vx.one;obtain⟨b1,n1,c1,rfl⟩:=Vx.form;obtain⟨fresh,yW⟩: ∃s:ByteArray,s=⟨#[109,97,114,107,46,110,101,119]⟩:=⟨_,rfl⟩;obtain⟨name,Mb⟩: ∃s:ByteArray,s=⟨#[109,97,114,107]⟩:=⟨_,rfl⟩;have Zd:fresh≠name:=by rw [yW,Mb];decide
 have RG:Ba fresh=true:=by rw [yW];decide
 have hnn:Ba name=true:=by rw [Mb];decide
 apply R4;unfold G7;rw [←yW,←Mb];have hs:=ak.init w0;refine dC (JR h (hT.fx fun _ h=>h)) kQ hT.s.has fun w1 X1 aq=>?_;have de:=hT.since aq;have h1:=h.mv (aq.jB hT.bg);clear hs;have hs:=de.s;repeat' first|refine aD ?_;intros
 refine dC (WE (Vx.mv de.s.mv) ml) kQ de.s.has fun w2 X2 dI=>?_;have b8:=de.since dI;have h2:=h1.mv (dI.jB de.bg);clear hs;have hs:=b8.s;repeat' first|refine aD ?_;intros
 refine iu (fun (k:World→XS→Prop)=> ∀w X,ak X2 w2 X w→k w X) ?_ ?_
 rotate_left
 ·intro K hK;refine ek (Uc h2 (b8.fx fun _ h=>h) (by simp) (by simp)) kQ b8.s.has ?_;rintro v wa w3 X3 ho hle eD dZ;have e0:yr ((⟨[],0,0,false⟩:DM).fs.map (·.1))=[]:=by simp [yr]
  rw [e0] at ho;refine dC (Bc (k:=fresh) (ho.mono eD).sl) kQ dZ.has fun w4 X4 jX=>?_;repeat' first|refine aD ?_;intros|refine dD ?_ ?_<;>intros
  all_goals first|exact hK _ _ (dZ.trans jX)|(exfalso;simp_all)
 ·intro w3 X3 dZ;have dz:=b8.since dZ;have h3:=h2.mv (dZ.jB b8.bg);clear hs h h1 h2;have hcr:DM.create ⟨[],0,0,false⟩ fresh=((⟨[],0,0,false⟩:DM).tick.put fresh [] 0,0):=by
   unfold DM.create;rw [if_neg (by simp [RG]),if_neg (by simp [DM.get,getM]),if_neg (by simp)];exact(DM.wj rfl rfl).1
  obtain⟨m1,rr⟩: ∃m1,m1=(⟨[],0,0,false⟩:DM).tick.put fresh [] 0:=⟨_,rfl⟩;have R5:m1.dn=false∧m1.ar=0:=by rw [rr];exact⟨(DM.wj (m:=⟨[],0,0,false⟩) (f:=id) rfl rfl).2.1,(DM.wj (m:=⟨[],0,0,false⟩) (f:=id) rfl rfl).2.2⟩
  have A3:m1.get fresh=some ([],0):=by rw [rr];exact lC
  have ahi:m1.get name=none:=by
   rw [rr]
   show getM name (bM fresh ([],0) (DM.tick ⟨[],0,0,false⟩).fs)=none
   rw [lY (Ne.symm Zd),DM.Ay];rfl
  have RQ:m1.sz=0:=by
   rw [rr,DM.VG (by unfold DM.get;rw [DM.Ay];rfl),DM.VH];rfl
  refine dz.call (PO (n:=fresh) h3 (dz.fx fun _ h=>h)) kQ (fun _ h=>h) ?_;rintro _ JI w4 X4 ⟨rfl,F4,JS,h4⟩ En CC eY c4;rw [hcr,←rr] at h4⊢;replace eY:=eY.less JS;have hs:=eY.s;repeat' first|refine bO ?_;intros
  refine ek (PM (Vx.mv eY.s.mv) zQ) kQ eY.s.has ?_;rintro v5 wa5 w5 X5 ⟨bs,OO,hb5⟩ Rk Rl Fs;have fQ:=eY.since Fs;have h5:=h4.mv (Fs.jB eY.bg);refine ek (PQ (OO.mono Rl).sl) kQ fQ.s.has ?_;rintro v6 VB w6 X6 O8 Nb RN sj;rw [if_neg zQ] at O8;obtain⟨vb,rfl,tR⟩:=O8;have iC:=fQ.since sj;have h6:=h5.mv (sj.jB fQ.bg);clear hs;have hs:=iC.s;have fC:=WO bs;have Pd: ∀k,made VB w6 k→ ¬F4 k:=fun k ah hf=>by
   have h1:=fQ.s.has k (fQ.bg k hf);have h2:=ah.1;omega
  repeat' first|refine aD ?_;intros
  have GB:m1.append fresh (qB bs)=(m1.tick.put fresh (qB bs) 0,0):=by
   unfold DM.append;rw [R5.1,A3,(DM.wj (f:=id) R5.1 R5.2).2.1];simp only [Bool.false_eq_true,if_false,List.nil_append];rw [if_neg zQ]
  refine iC.call (PR (n:=fresh) (S:=made VB w6) h6 (iC.fx fun _ h=>h) tR.sl (fun k ah=>⟨RN k ah,Pd k ah⟩) zQ) kQ (fun _ h=>h) ?_;rintro _ VI w7 X7 ⟨rfl,F7,JU,h7⟩ aen KP ny c7;rw [GB] at h7⊢;replace ny:=ny.less JU;obtain⟨m2,oC⟩: ∃m2,m2=m1.tick.put fresh (qB bs) 0:=⟨_,rfl⟩;have qw:m2.dn=false∧m2.ar=0:=by rw [oC];exact(DM.wj (f:=id) R5.1 R5.2).2
  have Pe:m2.get fresh=some (qB bs,0):=by rw [oC];exact lC
  have ahj:m2.get name=none:=by
   rw [oC]
   show getM name (bM fresh (qB bs,0) m1.tick.fs)=none
   rw [lY (Ne.symm Zd),DM.Ay];exact ahi
  rw [←oC] at h7;clear hs;have hs:=ny.s;repeat' first|refine bO ?_;intros
  have hsy:m2.sync fresh=(m2.tick.put fresh (qB bs) (qB bs).length,0):=by
   unfold DM.sync;rw [Pe,Option.isSome_some,if_pos rfl,(DM.wj qw.1 qw.2).1];unfold DM.B0;rw [DM.yc,Pe]
  refine ny.call (Up (n:=fresh) h7 (ny.fx fun _ h=>h)) kQ (fun _ h=>h) ?_;rintro _ wa8 w8 X8 ⟨rfl,F8,Vw,h8⟩ Ww ad7 pW c8;rw [hsy] at h8⊢;replace pW:=pW.less Vw;clear hs;have hs:=pW.s;repeat' first|refine bO ?_;intros
  refine pW.call (PN (fr:=fresh) (to:=name) h8 (pW.fx fun _ h=>h) (by
    show(getM fresh (bM fresh _ m2.tick.fs)).isSome=true
    rw [lC];rfl) (by
    show getM name (bM fresh _ m2.tick.fs)=none
    rw [lY (Ne.symm Zd),DM.Ay];exact ahj) Zd hnn) kQ (fun _ h=>h) ?_
  rintro _ Q8 w9 X9 ⟨rfl,F9,Bd,h9⟩ ahk ahl th c9;rw [(DM.wj (m:=m2.tick.put fresh (qB bs) (qB bs).length) (DM.wj (f:=id) qw.1 qw.2).2.1 (DM.wj (f:=id) qw.1 qw.2).2.2).1];clear hs;have hs:=th.s
  skip
  exact th.fin fun wa bC=>rfl
def rH (n:Nat):List (Int×Int):=(cN n).map fun i:Nat=>((i:Int)+1,1)
def Mc (n:Nat):List (Int×iv×lZ):=(cN n).map fun i:Nat=>((i:Int)+1,⟨(i:Int)+1,1,.zero⟩,[])
def G8 (n:Nat):List (Int×aK):=(cN n).map fun i:Nat=>((i:Int)+1,.zero)
theorem WQ (n:Nat):rH (n+1)=rH n++[((n:Int)+1,1)]:=by simp [rH,qT]
theorem JV {α:Type} {f:Nat→α} {n:Nat} :getM ((n:Int)+1) ((cN n).map fun i:Nat=>((i:Int)+1,f i))=none:=by
 rw [getM_none];intro h;obtain⟨x,hx,e⟩:=List.mem_map.1 h;obtain⟨i,hi,rfl⟩:=List.mem_map.1 hx;have:=List.mem_range.1 hi;have e:(i:Int)+1=(n:Int)+1:=e;omega
theorem JW (n:Nat):getM ((n:Int)+1) (Mc n)=none:=JV (f:=fun i:Nat=>((⟨(i:Int)+1,1,.zero⟩:iv),([]:lZ)))
structure WR (db:Nat) (room:Int) (R n:Nat) (st:dY):Prop where
 db:st.db=db
 room:st.room=room
 tl:st.tl=rH R
 bp:st.bp= .zero
 told:st.told=false
 seen:st.seen= .zero
 q:st.q=[]
 hl:st.hl=[]
 holds:st.holds=[]
 bZ:iA st.bZ=Mc n
 fs:st.fs=G8 n
theorem JX {w:World} {X F:XS} {db:Nat} {m:DM} {ranges room:Int} (h:Dk w F db m) (hF:FX F X w) (jI:m.dn=false) (h0:m.get ⟨#[109,97,114,107]⟩=none):
  Ct pg 7 #[ptr db 0,I ranges,I room] w X nX fun v wa w'=>
   (v= .tuple #[.pointer none,I 1]∧ ¬(1≤ranges∧ranges≤12∧1≤room∧room≤64))∨ ∃nb own st,1≤ranges∧ranges≤12∧v= .tuple #[ptr nb 0,I 0]∧(∀k,own k≠0→made wa w' k)∧cy w' own nb st∧fq 12 st∧WR db room ranges.toNat ranges.toNat st:=by
 intro w0 hk;replace h:=h.mv (hF.mv hk);have lF:=hF.kp hk;have hT:Ft w0 nX w0 (aS w0) nX:=Ft.init fun k ah=>ah.elim;apply R6;unfold G9;have hs:=ak.init w0;by_cases hr:ranges<1∨12<ranges
 ·repeat' first|refine bO ?_;intros|refine dD ?_ ?_<;>intros
  all_goals exact ai hs fun wa bC=>.inl ⟨rfl,by omega⟩
 repeat' first|refine bO ?_;intros
 refine dC (JR h lF) kQ hs.has fun w1 X1 aq=>?_;replace hs:=hs.trans aq;rw [jI];repeat' first|refine aD ?_;intros
 refine ek (JF (room:=room) (high:=.zero)) kQ hs.has ?_;rintro v wa w2 X2 hq hle eD dI;replace hs:=hs.trans dI;by_cases kC:room<1∨64<room
 ·rw [if_pos kC] at hq;subst hq;repeat' first|refine bO ?_;intros
  all_goals exact ai hs fun wa bC=>.inl ⟨rfl,by omega⟩
 rw [if_neg kC,if_neg (by decide)] at hq;obtain⟨mb0,sb0,fb0,rfl,_⟩:=hq;repeat' first|refine bO ?_;intros
 refine dC (RW (h.mv (hs.jB fun k ah=>(lF k ah).1)) (fun k ah=>⟨hs.sub k (lF k ah).1,aI (lF k ah).2 hs.kp.size⟩) h0) kQ hs.has fun w3 X3 dZ=>?_;replace hs:=hs.trans dZ;clear aq dI dZ eD;obtain⟨R,hR⟩: ∃R:Nat,ranges=(R:Int):=⟨ranges.toNat,by omega⟩;have hRt:ranges.toNat=R:=by omega
 rw [hRt];repeat' first|refine aD ?_;intros
 refine iu (fun (k:Value→World→XS→Prop)=> ∀w X vt,ak (aS w0) w0 X w→Own w X w0.heap.size 89 2 vt ((rH R).map sg)→k (.agg #[I 0,I 0,I 0,vt]) w X) ?_ ?_
 ·intro w4 X4 vt jX u0;clear hs;have hs:=jX;have ovt:=u0.sl.one;have aeo:=jX.kp.size;repeat' first|refine aD ?_;intros
  refine sf (α:=fU) (kv:=fun z:Int=>I z) Ry nX hs.has fun kD w5 X5 O4 Fs Fq=>?_;replace hs:=hs.trans Fs;have aiG:=Fs.kp.size;repeat' first|refine aD ?_;intros|(with_reducible apply ns);(case hX=>exact hs.has);intro bx w X eX aq bE;have bF:=hs.trans aq;replace hs:=ak.iS aq.has
  have WT:=(u0.mv Fs.mv).mv aq.mv;have hmw:=Fq.mv AV aq.mv (A':=nX) fun _ h=>h.elim;have aep:=fun k ah=>(u0.ge (g:=k) ah).2;have aiH:=Fq.x.2;have aiI:=aq.kp.size;refine ek (JF (room:=room) (high:=.zero)) kQ hs.has ?_;rintro v wa w7 X7 hq aen KP u6;rw [if_neg kC,if_neg (by decide)] at hq;obtain⟨mb,sb,fb,rfl,hM⟩:=hq;have ahm:=bF.trans u6;have Ip:=bE.mv u6.mv;have hbw:=bE.lt;clear hs bE;have hs:=ak.iS u6.has;repeat' first|refine aD ?_;intros
  refine Af (o:=5) Ip zQ kQ (by simp) rfl u6.has fun w8 X8 c8 hr8=>?_
  classical
  obtain⟨own,lA⟩: ∃own:Nat→Nat,own=fun k=>if k=bx then 1 else if made wa w7 k then 2 else if k=kD then 5 else if vt.ownBlock=some k then 6 else 0:=⟨_,rfl⟩
  have zJ:w5.heap.size≤bx:=eX;have ob:own bx=1:=by rw [lA];simp
  have om: ∀k,made wa w7 k→own k=2:=fun k ah=>by rw [lA];have:=ah.1;simp [show¬k=bx by omega,ah]
  have ot:own kD=5:=by rw [lA];simp [show¬kD=bx by omega,show¬made wa w7 kD from fun h9=>by have:=h9.1;omega]
  have ov: ∀k,vt.ownBlock=some k→own k=6:=fun k ah=>by
   have:=aep k ah;rw [lA];simp [show¬k=bx by omega,show¬made wa w7 k from fun h9=>by have:=h9.1;omega,show¬k=kD by omega,ah]
  have pz: ∀k,own k≠0→X8 k∧w0.heap.size≤k:=fun k ah=>by
   rw [lA] at ah;by_cases k1:k=bx
   ·rw [k1];exact⟨hr8.1,by omega⟩
   ·by_cases k2:made wa w7 k
    ·exact⟨c8.sub k (KP k k2),by have:=k2.1;omega⟩
    ·by_cases k3:k=kD
     ·rw [k3];exact⟨c8.sub _ (u6.sub _ hmw.x.1),by omega⟩
     ·by_cases k4:vt.ownBlock=some k
      ·exact⟨c8.sub _ (u6.sub _ (WT.2.2 k k4)),(u0.ge k4).1⟩
      ·simp [k1,k2,k3,k4] at ah
  have GY:ak (aS w0) w0 X8 w8:=ahm.dF c8 fun k ah e=>by
   have e:k=bx:=e;have ah:k<w0.heap.size:=ah;omega
  have pW:Ft w0 nX w8 X8 (all own):=⟨GY.less fun k ah=>ah.1,fun k ah=>(pz k ah).1,fun k ah=>.inr (pz k ah).2⟩;have RK: ∀{A:XS} {q:Nat},(∀k,A k→X7 k∧k≠bx∧own k=q)→Mv A w7 (gU own q) w8:=fun hA k ah _=>⟨(hA k ah).2.2,c8.block k (hA k ah).1 (hA k ah).2.1⟩;obtain⟨R7,WU⟩: ∃R7:dY,R7=⟨rH R,.zero,room,.zero,[],[],[],.zero,false,[],[],.zero,db,vt,mb,sb,fb,kD,.slice none 0 0,.slice none 0 0,.slice none 0 0⟩:=⟨_,rfl⟩;have VJ:cy w8 own bx R7:=by
   rw [WU];refine⟨⟨ob,hr8.2⟩,hM.mv (RK fun k ah=>⟨KP k ah,by have:=ah.1;omega,om k ah⟩),dN.nil _ _ _,Own.nil _ _ _ _ _,⟨?_,by simp,by simp,by simp⟩,?_⟩
   ·exact((hmw.mv AV u6.mv (A':=nX) fun _ h=>h.elim).own).mv AV (RK fun k ah=>by subst ah;exact⟨u6.sub _ hmw.x.1,by omega,ot⟩) fun _ h=>h.elim
   ·have h9:Own w7 (dK vt) w0.heap.size 89 2 vt ((rH R).map sg):=⟨(WT.mv u6.mv).1,(WT.mv u6.mv).2.1,fun g hg=>hg⟩;exact(h9.mv (RK fun k ah=>⟨u6.sub _ (WT.2.2 k ah),by have:=aep k ah;omega,ov k ah⟩)).sl
  have aiJ:1≤R∧R≤12:=by omega
  have hI0:fq 0 R7:=by
   rw [WU];refine⟨by show 1≤room∧room≤64;omega,by simp,by simp,by simp,fun r=>rfl,by simp,qQ.nil _,by simp,by simp,vU.nil _ _,by simp,by simp,fun c hc=>?_⟩;obtain⟨i,_,rfl⟩:=List.mem_map.1 hc
   show(1:Int)≤1∧(1:Int)≤100000000;omega
  have aa1:WR db room R 0 R7:=by rw [WU];exact⟨rfl,rfl,rfl,rfl,rfl,rfl,rfl,rfl,rfl,rfl,rfl⟩
  have aa2:R7.GR=vt:=by rw [WU]
  clear hs Ip hr8;have hs:=pW.s;have WV:=VJ.tg.mv (Mv.sub fun k ah=>pW.bg k (cC (p:=6) (by decide) k ah));rw [aa2,aa1.tl] at WV;have oz:(rH R).length=R:=by simp [rH]
  repeat' first|refine aD ?_;intros
  refine eG (fun n a w X=> ∃(j:Nat) (l7:Nat→Nat) (st1:dY),a=I j∧n=R-j∧j≤R∧Ft w0 nX w X (all l7)∧cy w l7 bx st1∧fq j st1∧WR db room R j st1∧st1.GR=vt) R ⟨0,own,R7,rfl,rfl,aN _,pW,VJ,hI0,aa1,aa2⟩ ?_;clear hs WV pW VJ hI0 aa1 aa2;rintro n a w9 X9 ⟨j,l7,st1,rfl,rfl,hj,th,Zo,hI9,Bd,aeq⟩;have hs:=th.s;have WV:=Zo.tg.mv (Mv.sub fun k ah=>th.bg k (cC (p:=6) (by decide) k ah));rw [aeq,Bd.tl] at WV;by_cases cK:j<R
  ·have hx:(rH R)[j]? =some ((j:Int)+1,1):=by simp [rH,cK]
   repeat' first|refine bO ?_;intros
   have Qu:getM ((j:Int)+1) st1.bZ=none:=by
    have h9:=nA ((j:Int)+1) st1.bZ;rw [Bd.bZ,JW j] at h9;cases fR:getM ((j:Int)+1) st1.bZ with
    |none=>rfl
    |some y=>rw [fR] at h9;cases h9
   refine th.call (JG (id:=(j:Int)+1) (next:=1) (fY:=.zero) Zo hI9 (th.fx fun k h=>h) zQ zQ Qu (by decide)) kQ (fun k h=>h) ?_;rintro _ yM w10 X10 ⟨rfl,Eo,x2,JK,ahn,aho,wh,JP⟩ aiv aiw WW c10;replace WW:=WW.less JK;clear hs;have hs:=WW.s;repeat' first|refine aD ?_;intros
   refine ep (R-(j+1)) zQ ⟨j+1,Eo,_,by simp,rfl,by omega,WW,ahn,aho,⟨Bd.db,Bd.room,Bd.tl,Bd.bp,Bd.told,Bd.seen,Bd.q,Bd.hl,Bd.holds,?_,?_⟩,aeq⟩
   ·rw [El,Bd.bZ,wh,JP,BZ (JW j)];simp [Mc,qT]
   ·show bM ((j:Int)+1) aK.zero st1.fs=_
    rw [Bd.fs,BZ (show getM ((j:Int)+1) (G8 j)=none from JV (f:=fun i=>aK.zero))];simp [G8,qT]
  ·have hjR:j=R:=by omega
   subst hjR;repeat' first|refine bO ?_;intros
   refine th.fin fun wa bC=>.inr ⟨bx,l7,st1,by omega,by omega,rfl,fun k ah=>?_,Zo.kp bC th.bg,hI9.up zQ,Bd⟩;rcases th.v k ah with h9|h9
   ·exact h9.elim
   ·exact⟨h9,aI (th.s.has k (th.bg k ah)) bC.size⟩
 ·intro K hK;repeat' first|refine bO ?_;intros
  refine gb (fun n a b w X=> ∃(j:Nat) (vt:Value),a=I j∧b= .agg #[I 0,I 0,I 0,vt]∧n=R-j∧j≤R∧ak (aS w0) w0 X w∧Own w X w0.heap.size 89 2 vt ((rH j).map sg)) R ⟨0,_,rfl,rfl,rfl,aN _,hs,Own.nil _ _ _ _ _⟩ ?_;clear hs;rintro n a b w X ⟨j,vt,rfl,rfl,rfl,hj,hs,u0⟩;have ovt:=u0.sl.one;have fB:=hs.kp.size;have oz:(rH j).length=j:=by simp [rH]
  rw [hR];repeat' first|refine aD ?_;intros|refine dD ?_ ?_<;>intros|(with_reducible apply vO);(case hX=>exact hs.has);(case he=>kernel_rfl);(case hk=>rfl);intro acc w X aq ho;obtain⟨_,_,_,rfl⟩:=ho.sl.form;replace hs:=hs.trans aq
  rotate_left
  ·have hjR:j=R:=by omega
   subst hjR;exact hK _ _ vt hs u0
  have aer:=u0.mv aq.mv;refine qG (dq:=[sg ((j:Int)+1,1)]) aer hs.has (af fB aq.kp.size) kQ ho.sl (by simp [bu.one]) (by simp only [ay,bD];omega) (by simp only [ay,bD];omega) fun v5 w5 X5 c5 OO aiK=>?_;have Fs:=hs.dF c5 fun k ah hb=>by
   have h1:=(aer.ge hb).1;have ah:k<w0.heap.size:=ah;omega
  have o5:=OO.sl.one;clear hs;have hs:=Fs;repeat' first|refine aD ?_;intros
  exact eM (R-(j+1)) zQ ⟨j+1,v5,by simp,rfl,rfl,by omega,hs,by rw [WQ,bo];exact OO⟩
def Be (p:List (Int×iv×lZ)) (r:Int):Int:=match getM r p with
 |none=>0
 |some y=>Ir y.1.next y.2
def pj (p:List (Int×iv×lZ)):List (Int×Int):=(kj (p.map (·.1))).map fun r=>(r,Be p r)
theorem Uq {w:World} {X Fd:XS} {own:Nat→Nat} {nb b:Nat} {st:dY} (h:cy w own nb st) (i:fq b st) (hb:b≤2^10) (hD:Dk w Fd st.db ⟨[],0,0,false⟩) (hF:FX (fun k=>all own k∨Fd k) X w) (ahp: ∀k,Fd k→own k=0)
  (hho:st.holds=[]) (ml:A8 0 (pj (iA st.bZ))=true∧st.bp.may=true):
  Ct pg 23 #[ptr nb 0] w X (fun k=>all own k∨Fd k) fun v wa w'=>v=I 0∧ ∃dy GR,Gr own dy wa w'∧cy w' dy nb { st with tl:=pj (iA st.bZ),mh:=st.bp,GR:=GR } :=by
 intro w0 hk;have hT:=hF.ft hk;replace h:=h.kp hk fun k ah=>(hF k (.inl ah)).1;replace hD:=hD.mv fun k ah _=>⟨ah,hk.block k (hF k (.inr ah)).1⟩;have hX0: ∀k,all own k→aS w0 k:=fun k ah=>hT.bg k (.inl ah);have bE:=h.row.mv Mv.aS;have Dq:=h.lG.mv Mv.aS;have hH0:Own w0 (aS w0) 0 102 5 st.ov (st.holds.map fG.l):=h.mQ.mv Mv.aS;have oo:=hH0.sl.one;have om:=h.tg.one;have hlen:st.bZ.length≤b:=by
  have h9:=(i.acm h).length_eq;simp only [ay] at h9;have:=i.Ej;omega
 have hkr: ∀x∈st.bZ,1≤x.1∧x.1≤12:=fun x hx=>by
  have h9:=i.keys x.1;have hg:getM x.1 st.bZ=some x.2:=mR Dq.map.nodup hx;rw [hg] at h9;cases fR:getM x.1 st.fs with
  |none=>rw [fR] at h9;cases h9
  |some a=>exact i.gF _ (kE fR)
 apply I0;unfold zK;have hs:=ak.init w0;repeat' first|refine aD ?_;intros
 refine ek VC kQ hs.has ?_;rintro _ wa w1 X1 ⟨bx,rfl,eX⟩ hle eD aq;have de:=Dq.mv aq.mv;refine ek (Pb de.map (eX.mono eD) (fun x hx=>by have:=hkr x hx;omega) zQ) kQ aq.has ?_;rintro kv yM w2 X2 BT nW kZ dI;have A6:=BT.up (lo:=w0.heap.size) kZ (af (af hs.kp.size aq.kp.size) nW);have A4:=A6.sl;replace hs:=(hs.trans aq).trans dI;have vK:(iA st.bZ).map (·.1)=st.bZ.map (·.1):=by unfold iA;rw [dS];rfl
 have xE:(kj (st.bZ.map (·.1))).length≤b:=by rw [(mI _).length_eq,ay];exact hlen
 have gR: ∀r∈kj (st.bZ.map (·.1)),∃x,getM r st.bZ=some x:=fun r hr=>by
  obtain⟨x,hx,rfl⟩:=List.mem_map.1 ((mI _).mem_iff.1 hr);exact⟨x.2,mR Dq.map.nodup hx⟩
 refine yP A4 kQ ?_;have hmT:pj (iA st.bZ)=(kj (st.bZ.map (·.1))).map fun r=>(r,Be (iA st.bZ) r):=by unfold pj;rw [vK]
 generalize Zf:kj (st.bZ.map (·.1))=rs at A6 xE gR hmT;refine aes (fun n a bv _ _ w X=> ∃(j:Nat) (vt:Value),a=I j∧bv= .agg #[I st.bp.wall,I st.bp.dp,I st.bp.node,vt]∧n=rs.length-j∧j≤rs.length∧ak (aS w0) w0 X w∧Own w X w0.heap.size 3 1 kv (rs.map I1)∧
  Own w X w0.heap.size 89 2 vt (((rs.take j).map fun r=>(r,Be (iA st.bZ) r)).map sg)) rs.length ⟨0,_,rfl,rfl,rfl,aN _,hs,A6,Own.nil _ _ _ _ _⟩ ?_
 clear hs aq dI de eX BT eD kZ A6 A4;rintro n a bv z1 z2 w X ⟨j,vt,rfl,rfl,rfl,hj,hs,A6,u0⟩;have VD:=A6.sl;have ovt:=u0.sl.one;have jj:=bE.mv hs.mv;have de:=Dq.mv hs.mv;rcases eb rs j with⟨cK,r,hx,hd⟩|⟨dU,hd⟩
 ·obtain⟨x,hg⟩:=gR r (aA hx);have iE:rs.take (j+1)=rs.take j++[r]:=by rw [bc,hx];rfl
  have af1:Be (iA st.bZ) r=Ir x.s.next (cont x.m):=by unfold Be;rw [nA,hg];rfl
  repeat' first|refine bO ?_;intros
  refine mP (kt:=3) (et:=111) (.pointer none) de.map iJ kQ kQ (fun vx x' gl hv=>?_) (fun gl=>absurd (hg.symm.trans gl) (by simp));have hv:vx=ptr x'.tb 0:=hv;subst hv;have hxx:x'=x:=Option.some.inj (gl.symm.trans hg);subst hxx;refine dC (Ur (de.tl _ (kE hg)).1 hs.has) kQ hs.has fun w3 X3 dZ=>?_;rw [Us];have aet:=A6.mv dZ.mv;have Ha:=u0.mv dZ.mv;replace hs:=hs.trans dZ;have gY:=bE.mv hs.mv;have OM:=(hH0.mv hs.mv).sl;rw [hho] at OM;clear jj dZ de;have fB:=hs.kp.size;repeat' first|refine aD ?_;intros
  refine gb (fun n a bv w X=>a=I 0∧bv=I (Ir x'.s.next (cont x'.m))∧n=0∧ak (aS w0) w0 X w∧Own w X w0.heap.size 3 1 kv (rs.map I1)∧Own w X w0.heap.size 89 2 vt (((rs.take j).map fun r=>(r,Be (iA st.bZ) r)).map sg)) 0
   ⟨rfl,rfl,rfl,hs,aet,Ha⟩ ?_
  clear hs aet Ha gY OM fB;rintro n a bv w4 X4 ⟨rfl,rfl,rfl,hs,WD,ahq⟩;have fB:=hs.kp.size;have hz0:(([]:List fG).length:Int)=0:=rfl;repeat' first|refine bO ?_;intros|(with_reducible apply vO);(case hX=>exact hs.has);(case he=>kernel_rfl);(case hk=>rfl);intro acc w X aq ho;obtain⟨_,_,_,rfl⟩:=ho.sl.form;replace hs:=hs.trans aq
  have aeu:=WD.mv aq.mv;have aa3:=ahq.mv aq.mv;refine qG (dq:=[sg (r,Ir x'.s.next (cont x'.m))]) aa3 hs.has (af fB aq.kp.size) kQ ho.sl (by simp [bu.one]) (by simp only [ay,bD,aW];omega) (by simp only [ay,bD,aW];omega) fun v6 w6 X6 c6 tR Wv=>?_;have sj:=hs.dF c6 fun k ah hb=>by
   have h1:=(aa3.ge hb).1;have ah:k<w0.heap.size:=ah;omega
  have aaZ:=aeu.dF c6 fun g hg hb=>jA aeu aa3 (by decide) hg hb;have o6:=tR.sl.one;clear hs;have hs:=sj;repeat' first|refine aD ?_;intros
  exact aev (rs.length-(j+1)) zQ ⟨j+1,v6,by simp,rfl,rfl,by omega,hs,aaZ,by rw [iE,bo,bo,List.map_singleton,af1];exact tR⟩
 ·have hmj:((rs.take j).map fun r=>(r,Be (iA st.bZ) r))=pj (iA st.bZ):=by rw [List.take_of_length_le dU,hmT]
  rw [hmj] at u0;obtain⟨z3,z4,z5,rfl⟩:=u0.sl.form;have b8:=hT.since hs;have h2:=h.since hs hX0;have hD2:=hD.mv (hs.jB fun k ah=>hT.bg k (.inr ah));clear hs;have hs:=b8.s;have Vt:(pj (iA st.bZ)).length≤2^10:=by rw [hmT,ay];omega
  have hvF: ∀k,(w0.heap.size≤k∧k<w.heap.size)→X k→X k:=fun _ _ h=>h;have hvS:Sl w (fun k=>X k∧w0.heap.size≤k) 2 (.slice z3 z4 z5) ((pj (iA st.bZ)).map sg):=by
   have h9:Own w (fun k=>X k∧w0.heap.size≤k) w0.heap.size 89 2 (.slice z3 z4 z5) ((pj (iA st.bZ)).map sg):=⟨u0.1,u0.2.1,fun g hg=>⟨u0.2.2 g hg,(u0.ge hg).1⟩⟩;exact h9.sl
  have hd0: ∀k,Fd k→k<w0.heap.size:=fun k ah=>hT.bg k (.inr ah);repeat' first|refine bO ?_;intros
  refine b8.call (R3 (s:=st.bp) hD2 (b8.fx fun k h=>.inr h) hvS (fun k ah=>⟨ah.1,fun hf=>by have:=hd0 k hf;omega⟩) Vt ml) kQ (fun k h=>.inr h) ?_;rintro _ AU w3 X3 rfl x6 tv dz c3;replace dz:=dz.less fun k ah=>.inl ah;have h3:cy w3 own nb st:=h2.mv fun q h0=>ad6 c3 (fun k ah=>b8.bg k (.inl ah)) ahp q h0;have Ha:Own w3 X3 w0.heap.size 89 2 (.slice z3 z4 z5) ((pj (iA st.bZ)).map sg):=u0.dF c3 fun g hg hf=>by
   have:=(u0.ge hg).1;have:=hd0 g hf;omega
  have gY:=h3.row.mv (Mv.sub fun k ah=>dz.bg k (.inl (cC (p:=1) (by decide) k ah)));clear hs jj;have hs:=dz.s;repeat' first|refine bO ?_;intros|with_reducible apply dG
  refine Io (o:=1) gY zQ kQ (by simp) rfl rfl dz.s.has fun w4 X4 c4 Pf=>?_;have hvz: ∀k,(Value.slice z3 z4 z5).ownBlock=some k→own k=0:=fun k ah=>by
   rcases dA (own k)with h9|h9
   ·exact h9
   ·have fR:k<w0.heap.size:=hX0 k (show own k≠0 by omega);have:=(u0.ge ah).1;omega
  obtain⟨dy,q1,q2,q3,q4,q5⟩:=KJ (own:=own) (p:=6) (F':=dK (.slice z3 z4 z5)) (by decide) (ef.qk (ak.iS dz.s.has) nX) (fun k ah=>dz.bg k (.inl ah)) (fun k ah=>ah.elim) fun k ah=>.inr (.inl (hvz k ah));have aew:=h3.row.mv (q2 1 (by decide) (by decide));have x8:Ft w0 (fun k=>all own k∨Fd k) w3 X3 (all dy):=dz.more fun k ah=>by
   rcases q3 k ah with h9|h9
   ·exact .inl (.inl h9)
   ·exact .inr ⟨Ha.2.2 k h9,(Ha.ge h9).1⟩
  have h9:Own w3 (gU dy 6) w0.heap.size 89 2 (.slice z3 z4 z5) ((pj (iA st.bZ)).map sg):=⟨Ha.1,Ha.2.1,fun g hg=>q1 g hg⟩;have h4:cy w4 dy nb { st with tl:=pj (iA st.bZ),mh:=st.bp,GR:=.slice z3 z4 z5 } :=
   cy.put aew.1 x8.bg c4 Pf (h3.nT.mv (q2 2 (by decide) (by decide))) (h3.nu.mv (q2 3 (by decide) (by decide))) (h3.mQ.mv (q2 4 (by decide) (by decide))) (h3.lG.mv (q2 5 (by decide) (by decide))) h9.sl
  have eY:Ft w0 (fun k=>all own k∨Fd k) w4 X4 (all dy):=x8.dF c4 (fun k ah=>by subst ah;exact cC (p:=1) (by decide) _ aew.1) fun k ah=>.inl ah;clear hs gY Pf;have hs:=eY.s
  skip
  exact eY.fin fun wa bC=>⟨rfl,dy,_,fun k ah=>by
   rcases q3 k ah with h9|h9
   ·exact .inl h9
   ·exact .inr ⟨(Ha.ge h9).1,aI (eY.s.has k (eY.bg k ah)) bC.size⟩,h4.kp bC eY.bg⟩
def rB:Rec:=⟨1,.zero,.zero,.zero,false,0,0,[],[],[],[],⟨⟨1,0,0,4602678819172646912⟩,.zero,.zero,[],[]⟩⟩
def rC:Rec:=⟨5,.zero,⟨5,0,1⟩,.zero,false,0,0,[],[],[],[],⟨⟨0,0,0,0⟩,.zero,.zero,[],[]⟩⟩
def mB:gW:=⟨9,1,31,.zero,1,0,0,.zero,.zero,false,1,0,[],[],[],[],[],[rB,rC],⟨⟨0,0,0,0⟩,.zero,.zero,[],[]⟩⟩
theorem Zp:mB.err=0:=by kernel_rfl
theorem ahr:sh .zero mB (Mc 2,G8 2,[])=([(1,⟨1,3,⟨5,0,1⟩⟩,[]),(2,⟨2,1,.zero⟩,[])],[(1,⟨5,0,1⟩),(2,.zero)],[]):=by kernel_rfl
theorem ahs:sh .zero mB ([(1,⟨1,3,⟨5,0,1⟩⟩,[]),(2,⟨2,1,.zero⟩,[])],[(1,⟨5,0,1⟩),(2,.zero)],[])=([(1,⟨1,3,⟨5,0,1⟩⟩,[]),(2,⟨2,1,.zero⟩,[])],[(1,⟨5,0,1⟩),(2,.zero)],[]):=by kernel_rfl
theorem KQ {l:List Int} (h:l.Pairwise fun a b=>a≤b):kj l=l:=Ec (mI l) (KC l) h
structure FS (w0 w:World) (X Fd:XS) (own:Nat→Nat) (nb db:Nat) (st:dY):Prop where
 t:Ft w0 nX w X (fun k=>all own k∨Fd k)
 n:cy w own nb st
 d:Dk w Fd db ⟨[],0,0,false⟩
 z: ∀k,Fd k→own k=0
section
variable {w0 w w' wa : World} {X X' Fd : XS} {own dy : Nat → Nat} {nb db : Nat} {st ka : dY}
theorem FS.x (h:FS w0 w X Fd own nb db st): ∀k,all own k→X k:=fun k hk=>h.t.bg k (.inl hk)
theorem FS.fx (h:FS w0 w X Fd own nb db st):FX (all own) X w:=h.t.fx fun k hk=>.inl hk
theorem FS.since (h:FS w0 w X Fd own nb db st) (hs:ak X w X' w'):FS w0 w' X' Fd own nb db st:=⟨h.t.since hs,h.n.since hs h.x,h.d.mv (hs.jB fun k hk=>h.t.bg k (.inr hk)),h.z⟩
theorem FS.next (h:FS w0 w X Fd own nb db st) (hT:Ft w0 nX w' X' (fun k=>(all own k∨Fd k)∨made wa w' k)) (hle:w.heap.size≤wa.heap.size) (c:ef (all own) X w X' w') (hg:Gr own dy wa w') (hn:cy w' dy nb ka):FS w0 w' X' Fd dy nb db ka:=
 ⟨hT.less fun k hk=>by
  rcases hk with hk|hk
  ·exact(hg k hk).imp .inl id
  ·exact .inl (.inr hk),hn,h.d.mv fun k hk _=>⟨hk,c.block k (h.t.bg k (.inr hk)) fun hf=>hf (h.z k hk)⟩,fun k hk=>by
   rcases dA (dy k)with h9|h9
   ·exact h9
   ·rcases hg k zQ with fR|fR
    ·exact absurd (h.z k hk) fR
    ·have:=h.t.s.has k (h.t.bg k (.inr hk));have:=fR.1;omega⟩
end
theorem Gr.zero {own dy:Nat→Nat} {w wa w':World} (hg:Gr own dy wa w') (hle:w.heap.size≤wa.heap.size) {k:Nat} (h0:own k=0) (hk:k<w.heap.size):dy k=0:=by
 rcases dA (dy k)with h9|h9
 ·exact h9
 ·rcases hg k zQ with fR|fR
  ·exact absurd h0 fR
  ·have:=fR.1;omega
theorem aht {α:Type} : ∀{l:List α},l.length=3→ ∃a b c,l=[a,b,c]
 |[],h=>by simp at h
 |[_],h=>by simp at h
 |[_,_],h=>by simp at h
 |[a,b,c],_=>⟨a,b,c,rfl⟩
 |_::_::_::_::_,h=>by simp at h
theorem yu {w:World} {X:XS} :Ct pg 5 #[] w X nX fun v _ _=>v=B true:=by
 intro w0 hk;apply Hb;unfold yX;have hs:=ak.init w0;refine ek Md kQ hs.has ?_;rintro _ wa w1 X1 ⟨db,rfl,hD0⟩ hle eD aq;have hD1:Dk w1 (fun k=>made wa w1 k) db ⟨[],0,0,false⟩:=hD0;have hFd: ∀k,made wa w1 k→w0.heap.size≤k∧k<w1.heap.size:=fun k ah=>⟨af hle ah.1,ah.2⟩;replace hs:=hs.trans aq;repeat' first|refine aD ?_;intros
 refine ek (JX (ranges:=2) (room:=8) hD1 (fun k ah=>⟨eD k ah,ah.2⟩) rfl rfl) kQ hs.has ?_;rintro v yM w2 X2 hq nW kZ dI;rcases hq with⟨rfl,s9⟩|⟨nb,own,st,_,_,rfl,lA,hN,hI,Fu⟩
 ·exact absurd zQ s9
 obtain⟨Fd,WX⟩: ∃Fd:XS,Fd=fun k=>made wa w1 k:=⟨_,rfl⟩;have rz:FS w0 w2 X2 Fd own nb db st:=by
  refine⟨⟨(hs.trans dI).less fun k ah=>ah.1,fun k ah=>?_,fun k ah=>?_⟩,hN,by rw [WX];exact hD1.mv (dI.jB eD),fun k ah=>?_⟩
  ·rcases ah with h9|h9
   ·exact kZ k (lA k h9)
   ·rw [WX] at h9;exact dI.sub k (eD k h9)
  ·rcases ah with h9|h9
   ·exact .inr (af (af hs.kp.size nW) (lA k h9).1)
   ·rw [WX] at h9;exact .inr (hFd k h9).1
  ·rcases dA (own k)with h9|h9
   ·exact h9
   ·have fR:=(lA k zQ).1;rw [WX] at ah;have:=(hFd k ah).2;omega
 have vK:st.bZ.map (·.1)=[1,2]:=by
  have h9:=congrArg (List.map (·.1)) Fu.bZ;have e1:(iA st.bZ).map (·.1)=st.bZ.map (·.1):=by unfold iA;rw [dS];rfl
  rw [e1] at h9;exact h9
 have ahu:Qx st=[Dp,BY st 1,BY st 2]:=by
  unfold Qx;rw [Fu.told,vK,KQ (by decide)];rfl
 have Q7:x9 st 2=false:=by
  unfold x9 vR;have e:G8 (Int.toNat 2)=[(1,.zero),(2,.zero)]:=rfl;rw [Fu.fs,e,show([(1,aK.zero),(2,aK.zero)]:List (Int×aK)).map (·.1)=[1,2] from rfl,KQ (by decide)];have e2:decide ((((getM 2 ([(1,aK.zero),(2,aK.zero)]:List (Int×aK))).getD .zero)).cmp (((qz [(1,aK.zero),(2,aK.zero)] [1,2])).getD .zero)>0)=false:=by decide
  rw [e2,Bool.and_false]
 clear hs;have hs:=rz.t.s;repeat' first|refine bO ?_;intros
 refine ek (Un rz.n hI zQ rz.x) kQ hs.has ?_;rintro _ AU w3 X3 ⟨ov,l,rfl,hO,hl⟩ x6 tv dZ;rw [ahu] at hl;have AO:=rz.since dZ;have L9:=hO.mv (Mv.sub tv);clear hs;have hs:=AO.t.s;repeat' first|refine aD ?_;intros
 refine WH (rows:=[rB.l eI eI eI eI eI eI,rC.l eI eI eI eI eI eI]) (rB.l eI eI eI eI eI eI++rC.l eI eI eI eI eI eI).toArray ((⟨0,.zero,.zero,.zero,false,0,0,[],[],[],[],⟨⟨0,0,0,0⟩,.zero,.zero,[],[]⟩⟩:Rec).v eI eI eI eI eI eI)
  hs.has (bytes:=328) kQ kQ zQ zQ kQ (by simp) rfl rfl fun vc w4 X4 jX rI=>?_
 have JS:=AO.since jX;obtain⟨y1,y2,y3,rfl⟩:=rI.sl.form;obtain⟨S,hS⟩: ∃S:XS,∀k,S k↔(X4 k∧w3.heap.size≤k):=⟨_,fun _=>Iff.rfl⟩;have hcS:Own w4 S w3.heap.size 73 29 (.slice y1 y2 y3) [rB.l eI eI eI eI eI eI,rC.l eI eI eI eI eI eI]:=⟨rI.1,rI.2.1,fun g hg=>(hS g).2 ⟨rI.2.2 g hg,(rI.ge hg).1⟩⟩;have Pg: ∀{w:World} {X:XS} (r:Rec),r.reads=[]→r.writes=[]→r.parts=[]→r.qm=[]→r.state.gG=[]→r.state.eA=[]→r.at w X eI eI eI eI eI eI:=fun r h1 h2 h3 h4 h5 h6=>by
  unfold Rec.at;rw [h1,h2,h3,h4,h5,h6];exact⟨Sl.nil _ _ _,Sl.nil _ _ _,Sl.nil _ _ _,Sl.nil _ _ _,gO.nil _ _ _,gO.nil _ _ _⟩
 have aex:mB.at w4 S eI eI eI eI eI (.slice y1 y2 y3) eI eI:=by
  refine⟨Sl.nil _ _ _,Sl.nil _ _ _,Sl.nil _ _ _,Sl.nil _ _ _,Sl.nil _ _ _,⟨_,hcS.sl,rfl,fun i l x hl hx=>?_⟩,gO.nil _ _ _,gO.nil _ _ _⟩;rcases i with _|_|i
  ·cases hl;cases hx;exact⟨_,_,_,_,_,_,rfl,Pg rB rfl rfl rfl rfl rfl rfl⟩
  ·cases hl;cases hx;exact⟨_,_,_,_,_,_,rfl,Pg rC rfl rfl rfl rfl rfl rfl⟩
  ·cases hl
 have fu: ∀k,S k→X4 k∧own k=0:=fun k ah=>by
  have h9:=(hS k).1 ah;refine⟨h9.1,?_⟩;rcases dA (own k)with fR|fR
  ·exact fR
  ·have:=AO.t.s.has k (AO.x k (by show own k≠0;omega));have:=h9.2;omega
 have fV: ∀{s:State},s.gG=[]→s.eA=[]→s.small:=fun h1 h2=>⟨by rw [h1];exact fun _ h=>absurd h (by simp),by rw [h2];exact fun _ h=>absurd h (by simp),by rw [h1];exact fun _ h=>absurd h (by simp),by rw [h2];exact fun _ h=>absurd h (by simp)⟩;have xE: ∀r∈mB.ed,r=rB∨r=rC:=fun r hr=>by simpa [mB] using hr
 have ahv: ∀r∈mB.ed,r.small:=fun r hr=>by
  rcases xE r hr with rfl|rfl<;>exact⟨by simp [rB,rC],by simp [rB,rC],by simp [rB,rC],by simp [rB,rC],fV rfl rfl⟩
 have jr:mB.small:=⟨by simp [mB],by simp [mB],ahv,fun r hr _=>by rcases xE r hr with rfl|rfl<;>decide+kernel,fV rfl rfl⟩;have fB: ∀r∈mB.ed,r.sz:=fun r hr=>by
  rcases xE r hr with rfl|rfl<;>exact⟨by simp [rB,rC],by simp [rB,rC]⟩
 have Zb:iT mB.ed=4:=rfl;have O5:mB.lens≤2^62:=by show 2≤2^62;omega
 clear hs;have hs:=JS.t.s;repeat' first|refine aD ?_;intros
 refine JS.t.call (CD (m:=mB) JS.n hI JS.fx aex fu jr O5 fB (by rw [Zb];omega)) kQ (fun k h=>.inl h) ?_;rintro _ wa5 w5 X5 ⟨rfl,si,st5,hg5,hn5,Zq,O6⟩ Rk Rl fQ c5;have G6:=JS.next fQ Rk c5 hg5 hn5
 have af2:mB.at w5 S eI eI eI eI eI (.slice y1 y2 y3) eI eI:=aex.mv fun k ah _=>⟨ah,c5.block k (fu k ah).1 fun hf=>hf (fu k ah).2⟩;have kG: ∀k,S k→X5 k∧si k=0:=fun k ah=>by
  refine⟨c5.sub k (fu k ah).1,?_⟩;rcases dA (si k)with fR|fR
  ·exact fR
  ·rcases hg5 k zQ with uY|uY
   ·exact absurd (fu k ah).2 uY
   ·have:=JS.t.s.has k (fu k ah).1;have:=uY.1;omega
 have hnh:sk mB=false:=by simp [sk,mB]
 have ahw:iO st5=([(1,⟨1,3,⟨5,0,1⟩⟩,[]),(2,⟨2,1,.zero⟩,[])],[(1,⟨5,0,1⟩),(2,.zero)],[]):=by
  rw [O6.abs,Iq,if_pos ⟨Zp,rfl,rfl⟩,Fu.bp,←ahr];unfold iO;rw [Fu.bZ,Fu.fs,Fu.holds];rfl
 clear hs;have hs:=G6.t.s;repeat' first|refine aD ?_;intros
 refine G6.t.call (CD (m:=mB) G6.n Zq G6.fx af2 kG jr O5 fB (by rw [Zb];omega)) kQ (fun k h=>.inl h) ?_;rintro _ VB w6 X6 ⟨rfl,zj,tU,hg6,hn6,hI6,O8⟩ Nb RN iC c6;have hF6:=G6.next iC Nb c6 hg6 hn6
 have hak:tU.bp= .zero:=by rw [O8.Eg hnh,O6.Eg hnh,Fu.bp]
 have aa4:iO tU=([(1,⟨1,3,⟨5,0,1⟩⟩,[]),(2,⟨2,1,.zero⟩,[])],[(1,⟨5,0,1⟩),(2,.zero)],[]):=by
  rw [O8.abs,Iq,if_pos ⟨Zp,rfl,rfl⟩,O6.Eg hnh,Fu.bp,ahw,ahs]
 have hdb:tU.db=db:=by rw [O8.db,O6.db,Fu.db]
 have ht6:iA tU.bZ=[(1,⟨1,3,⟨5,0,1⟩⟩,[]),(2,⟨2,1,.zero⟩,[])]:=congrArg (·.1) aa4;have hf6:tU.fs=[(1,⟨5,0,1⟩),(2,.zero)]:=congrArg (·.2.1) aa4;have hh6:tU.holds=[]:=congrArg (·.2.2) aa4;clear hs;have hs:=hF6.t.s
 skip
 refine dC (L8 (r:=1) hF6.n hF6.x) kQ hs.has fun w7 X7 u6=>?_;have JU:=hF6.since u6;rw [hf6,show(((getM 1 ([(1,⟨5,0,1⟩),(2,.zero)]:List (Int×aK))).getD .zero))=⟨5,0,1⟩from rfl,show(getM 1 ([(1,⟨5,0,1⟩),(2,.zero)]:List (Int×aK))).isSome=true from rfl];clear hs;have hs:=JU.t.s;repeat' first|refine aD ?_;intros
 have kV:pj (iA tU.bZ)=[(1,3),(2,1)]:=by
  rw [ht6];unfold pj;rw [show(([(1,⟨1,3,⟨5,0,1⟩⟩,[]),(2,⟨2,1,.zero⟩,[])]:List (Int×iv×lZ)).map (·.1))=[1,2] from rfl,KQ (by decide)];rfl
 have hD7:Dk w7 Fd tU.db ⟨[],0,0,false⟩:=by rw [hdb];exact JU.d
 refine JU.t.call (Uq JU.n hI6 (by rw [Zb];omega) hD7 (JU.t.fx fun k h=>h) JU.z hh6 (by rw [kV,hak];exact⟨by decide,by decide⟩)) kQ (fun k h=>h) ?_;rintro _ wa8 w8 X8 ⟨rfl,x7,mk8,hg8,hn8⟩ Ww ad7 pW c8;have GS:Ft w0 nX w8 X8 (all x7):=pW.less fun k ah=>(hg8 k ah).imp .inl id;have hI8:fq (12+iT mB.ed+iT mB.ed) { tU with tl:=pj (iA tU.bZ),mh:=tU.bp,GR:=mk8 } := { hI6 with cur:=by rw [kV];simp };clear hs;have hs:=GS.s
 skip
 refine GS.call (Um (r:=1) hn8 hI8 (GS.fx fun k h=>h)) kQ (fun k h=>h) ?_;rintro _ Q8 w9 X9 ⟨rfl,ahx,st9,hg9,hn9,hI9,bC,aey⟩ ahk ahl th c9;have A3:(getM 1 tU.bZ).isSome=true:=by
  have h9:=nA 1 tU.bZ;rw [ht6] at h9;cases fR:getM 1 tU.bZ with
  |none=>rw [fR] at h9;cases h9
  |some y=>rfl
 have aa5:Ft w0 nX w9 X9 (all ahx):=th.less hg9;have aez:(getM 1 ({ tU with tl:=pj (iA tU.bZ),mh:=tU.bp,GR:=mk8 } :dY).bZ).isSome=true:=A3;rw [aez,if_pos rfl];rw [aez,if_pos rfl] at aey;have aeA:lr st9 1=3:=by
  have h9:iA st9.bZ=bM 1 (⟨1,Ew 1 (pj (iA tU.bZ)),.zero⟩,[]) (iA tU.bZ):=congrArg (·.1) aey;rw [kV,ht6] at h9;have fR:=nA 1 st9.bZ;rw [h9] at fR;unfold lr;cases uY:getM 1 st9.bZ with
  |none=>rw [uY] at fR;cases fR
  |some y=>
   rw [uY] at fR;have AZ:=congrArg (fun o=>(o.map (·.1.next)).getD 0) fR;exact AZ.symm
 have Vq:l.length=3:=by have h9:=congrArg List.length hl;rw [ay] at h9;exact h9
 obtain⟨l0,l1,l2,rfl⟩:=aht Vq;simp only [List.map_cons,List.map_nil,List.cons.injEq,and_true] at hl;obtain⟨e0,e1,e2⟩:=hl;have k0:l0.kind=13:=congrArg Om.kind e0;have k2:l2.kind=8:=congrArg Om.kind e2;have m2:l2.mx=8:=by
  have h9:=congrArg Om.mx e2;have fR:(BY st 2).mx=8:=by unfold BY;rw [Q7];rfl
  exact h9.trans fR
 obtain⟨So,hSo⟩: ∃So:XS,∀k,So k↔(X3 k∧w2.heap.size≤k):=⟨_,fun _=>Iff.rfl⟩;have aiL:Sl w3 So 36 ov ([l0,l1,l2].map Om.l):=by
  have h9:Own w3 So AU.heap.size 49 36 ov ([l0,l1,l2].map Om.l):=⟨L9.own.1,L9.own.2.1,fun g hg=>(hSo g).2 ⟨L9.own.2.2 g hg,af x6 (L9.own.ge hg).1⟩⟩;exact h9.sl
 have z3: ∀k,So k→own k=0∧k<w3.heap.size∧ ¬Fd k:=fun k ah=>by
  have h9:=(hSo k).1 ah;have fR:=AO.t.s.has k h9.1;have aeB:=rz.t.s.has;refine⟨?_,fR,fun hf=>?_⟩
  ·rcases dA (own k)with uY|uY
   ·exact uY
   ·have:=aeB k (rz.x k (by show own k≠0;omega));omega
  ·have:=aeB k (rz.t.bg k (.inr hf));omega
 have ahy:ak So w3 X4 w4:=jX.less fun k ah=>((hSo k).1 ah).1;have z5: ∀k,So k→si k=0:=fun k ah=>hg5.zero Rk (z3 k ah).1 (aI (z3 k ah).2.1 jX.kp.size);have aeC:=ahy.dF c5 fun k ah hf=>hf (z3 k ah).1;have z6: ∀k,So k→zj k=0:=fun k ah=>hg6.zero Nb (z5 k ah) (aI (z3 k ah).2.1 aeC.kp.size);have ahz:=aeC.dF c6 fun k ah hf=>hf (z5 k ah);have aeD:=ahz.trans u6;have z8: ∀k,So k→x7 k=0:=fun k ah=>hg8.zero Ww (z6 k ah) (aI (z3 k ah).2.1 aeD.kp.size);have ahA:=aeD.dF c8 fun k ah hf=>hf.elim (fun h=>h (z6 k ah)) (z3 k ah).2.2;have aiM:=ahA.dF c9 fun k ah hf=>hf (z8 k ah);have LM:([l0,l1,l2]:List Om)[0]? =some l0:=rfl;have vP:([l0,l1,l2]:List Om)[2]? =some l2:=rfl;clear L9 hO;clear hs;have hs:=aa5.s;repeat' first|refine bO ?_;intros|refine dD ?_ ?_<;>intros|with_reducible apply dG
 refine dC (CE (r:=1) hn9 aa5.bg) kQ hs.has fun wA XA xG=>?_;rw [aeA];have JY:=aa5.since xG;clear hs;have hs:=JY.s;repeat' first|refine bO ?_;intros
 ·exact JY.fin fun wa bC=>rfl
 all_goals exact absurd rfl ‹¬(⟨5,0,1⟩:aK).wall=5›
def aa6 (a b:Int):Int:=if a<b then-1 else if a>b then 1 else 0
theorem R8 (a b:Int):Pure pg 98 #[I a,I b] (I (aa6 a b)):=by
 intro w0;apply I2;unfold zL;have hs:=ak.init w0;repeat' first|refine aD ?_;intros|refine dD ?_ ?_<;>intros|(with_reducible refine fA hs ?_);simp_all [aa6]<;>omega
theorem Ng (a b:aK):Pure pg 52 #[a.v,b.v] (I (a.cmp b)):=by
 intro w0;apply FZ;unfold xL;have hs:=ak.init w0;repeat' first|refine aD ?_;intros|refine dD ?_ ?_<;>intros|with_reducible apply dG|((with_reducible refine fX (R8 _ _) ?_ hs.has ?_);(· kernel_rfl);intro w X aq;replace hs:=hs.trans aq)|(with_reducible refine fA hs ?_);(simp only [aa6,aK.cmp] at*;grind)
theorem JZ (a b:aK):Pure pg 20 #[a.v,b.v] (B (decide (a.cmp b<0))):=by
 intro w0;apply KR;unfold Bf;have hs:=ak.init w0;repeat' first|refine aD ?_;intros|refine dD ?_ ?_<;>intros|((with_reducible refine fX (Ng _ _) ?_ hs.has ?_);(· kernel_rfl);intro w X aq;replace hs:=hs.trans aq)|(with_reducible refine fA hs ?_);simp_all<;>omega
end Go.Proofs.YtfndblbeikocdaaGreat
namespace Go.Proofs.YtfndblbeikocdaaGreat
open Go.Proofs.Tryz renaming prog → pg
open Go.bu
section
variable {P : Program} {R : Ending → World → Prop} {X : XS} {w : World} {N : Value → Prop} {t : TypeId} {xo yo : Operand} {a b c d : Bool}
theorem run_equalIn_bool (ht:P.underlying t=some .bool) (n:Nat) (a b:Bool) (w:World):(Op.equalIn (n+1) t (.bool a) (.bool b)).run P w= .ok (a==b) w:=by simp [Op.equalIn,run_underlying ht]
theorem R9 (ht:P.underlying t=some .bool) (h:N (.bool (a==b))):ad P X w (aH .eql t xo yo (.bool a) (.bool b)) N:=by
 refine cx (fun wa=>?_) h;have:(Op.equal t (.bool a) (.bool b)).run P wa= .ok (a==b) wa:=run_equalIn_bool ht 9999 a b wa;simp [aH,eqGuard,binOp,this]
end
set_option maxRecDepth 100000
set_option maxHeartbeats 1000000
set_option linter.unusedVariables false
set_option linter.unusedSimpArgs false
attribute [local irreducible] un jn aF aT ld1 ew st1 dt cB lS dV lT uN tG gq fW ad az aJ eW eV eU eC eF gE au fin aQ aM aH vS xt gp il pR uO xu xv xw xx gm im pS uP xy xz xA
end Go.Proofs.YtfndblbeikocdaaGreat
namespace Go.Proofs.YtfndblbeikocdaaGreat
open Go.Proofs.Tryz renaming prog → pg
open Go.bu
set_option maxRecDepth 100000
set_option maxHeartbeats 1000000
set_option linter.unusedVariables false
set_option linter.unusedSimpArgs false
attribute [local irreducible] un jn aF aT ld1 ew st1 dt cB lS dV lT uN tG gq fW ad az aJ eW eV eU eC eF gE au fin aQ aM aH vS xt gp il pR uO xu xv xw xx gm im pS uP xy xz xA
theorem F3 {w:World} {X:XS} {a:Value} {xs:List lO} {most:Int} (ha:Sl w X 7 a (xs.map lO.l)):
  Ct pg 71 #[a,I most] w X nX Ak:=by
 intro w0 hk;replace ha:=ha.mv hk.cL;have iV:=ha.gz;apply Ey;unfold wm;have hs:=ak.init w0;refine gb (fun n a b w X=> ∃(i:Nat) (s:Int),a=I i∧b=I s∧n=(xs).length-i∧i≤(xs).length∧ak (aS w0) w0 X w) (xs).length ⟨0,_,rfl,rfl,rfl,aN _,hs⟩ ?_;rintro n a b w X ⟨i,s,rfl,rfl,rfl,hi,hs⟩;repeat' first|refine aD ?_;intros|refine dD ?_ ?_<;>intros|((first|(with_reducible refine ai hs ?_)|(with_reducible refine ai (bF.trans hs) ?_));intro wa hk;exact⟨_,rfl⟩)|(refine jd (iF  _ _ _ _ _) kQ hs.has ?_;intro n1 w X aq;replace hs:=hs.trans aq)|((with_reducible refine eM ((xs).length-(i+1)) ?_ ?_);omega;exact⟨i+1,_,by simp,rfl,rfl,by omega,hs⟩)|with_reducible apply mn
theorem Hc {w:World} {X:XS} {m:gW} {vk vs vw vp vr vc vh vd:Value} {most:Int} (ha:m.at w X vk vs vw vp vr vc vh vd):
  Ct pg 28 #[m.v vk vs vw vp vr vc vh vd,I most] w X nX Ak:=by
 intro w0 hk;obtain⟨h1,h2,h3,h4,h5,h6,h7,h8⟩:=ha.mv hk.cL;have iV:=h6.len;apply F5;unfold xM;have hs:=ak.init w0;repeat' first|refine aD ?_;intros|(refine jd (iF  _ _ _ _ _) kQ hs.has ?_;intro n1 w X aq;replace hs:=hs.trans aq)|(refine jd (qn  qA) kQ hs.has ?_;intro n1 w X aq;replace hs:=hs.trans aq)|(refine jd (F3  qA) kQ hs.has ?_;intro n1 w X aq;replace hs:=hs.trans aq)|(refine jd (pI  qA) kQ hs.has ?_;intro n1 w X aq;replace hs:=hs.trans aq)|with_reducible apply mn
 refine gb (fun n a b w X=> ∃(i:Nat) (s:Int),a=I i∧b=I s∧n=(m.ed).length-i∧i≤(m.ed).length∧ak (aS w0) w0 X w) (m.ed).length ⟨0,_,rfl,rfl,rfl,aN _,hs⟩ ?_;rintro n a b w X ⟨i,s,rfl,rfl,rfl,hi,hs⟩;repeat' first|refine aD ?_;intros|refine dD ?_ ?_<;>intros|((with_reducible apply M7);assumption;(try (case hz=>rfl));(case hr=>exact qR);(try (case hz=>omega));(case ht=>kernel_rfl);(case hs=>kernel_rfl);intros)|((first|(with_reducible refine ai hs ?_)|(with_reducible refine ai (bF.trans hs) ?_));intro wa hk;exact⟨_,rfl⟩)|(refine jd (iF  _ _ _ _ _) kQ hs.has ?_;intro n1 w X aq;replace hs:=hs.trans aq)|(refine jd (wo  (s:=m.state) qA qA) kQ hs.has ?_;intro n1 w X aq;replace hs:=hs.trans aq)|(refine jd ((Hd (r:=_))  (Rec.at.mv (by assumption) hs.mv)) kQ hs.has ?_;intro n1 w X aq;replace hs:=hs.trans aq)|((with_reducible refine eM ((m.ed).length-(i+1)) ?_ ?_);omega;exact⟨i+1,_,by simp,rfl,rfl,by omega,hs⟩)|with_reducible apply mn
structure mD where
 kind:Int
 n:Int
 m:gW
 Qy:List Int
abbrev mD.l (o:mD) (vk vs vw vp vr vc vh vd vq:Value):List Value:=[I o.kind,I o.n,I o.m.kind,I o.m.fr,I o.m.to,I o.m.bU.iH,I o.m.bU.lg,I o.m.bU.sq,I o.m.range,I o.m.jD,I o.m.code,
 I o.m.aw.wall,I o.m.aw.dp,I o.m.aw.node,I o.m.prev.wall,I o.m.prev.dp,I o.m.prev.node,B o.m.iy,I o.m.n,I o.m.mx,vk,vs,vw,vp,vr,vc,
 I o.m.state.range.id,I o.m.state.range.jD,.float .f64 o.m.state.range.lo,.float .f64 o.m.state.range.hi,
 I o.m.state.floor.wall,I o.m.state.floor.dp,I o.m.state.floor.node,I o.m.state.closed.wall,I o.m.state.closed.dp,I o.m.state.closed.node,vh,vd,vq]
structure mD.at (w:World) (X:XS) (o:mD) (vk vs vw vp vr vc vh vd vq:Value):Prop where
 m:o.m.at w X vk vs vw vp vr vc vh vd
 p:Sl w X 1 vq (o.Qy.map I1)
 nr:o.n<2^63
def mD.rd (w:World) (X:XS) (l:List Value) (o:mD):Prop:= ∃vk vs vw vp vr vc vh vd vq,l=o.l vk vs vw vp vr vc vh vd vq∧o.at w X vk vs vw vp vr vc vh vd vq
theorem mD.mv:Ez mD.rd:=fun ⟨vk,vs,vw,vp,vr,vc,vh,vd,vq,h,h1⟩ m=>⟨vk,vs,vw,vp,vr,vc,vh,vd,vq,h,⟨h1.m.mv m,h1.p.mv m,h1.nr⟩⟩
theorem Zr {P:Program} {X X0:XS} {w w0:World} {N:Value→Prop} {t:TypeId} {v:Value} {xs:List mD} {i:Nat} {z:Int} {x:mD} (h:gO w0 X0 39 v mD.rd xs) (hr:xs[i]? =some x)
  (hz:z=i) (ht:P.underlying t=some (.slice (P.elem t))) (hs:(P.info? (P.elem t)).map (·.size)=some 39)
  (n: ∀b o vk vs vw vp vr vc vh vd vq,bu.one vk=true→bu.one vs=true→bu.one vw=true→bu.one vp=true→bu.one vr=true→bu.one vc=true→bu.one vh=true→bu.one vd=true→bu.one vq=true→
   Cells w0 X0 b o (x.l vk vs vw vp vr vc vh vd vq)→x.at w0 X0 vk vs vw vp vr vc vh vd vq→N (ptr b o)):ad P X w (dt t 39 v (.int .i64 z)) N:=
 Qz h hr hz ht hs fun b o _ hc ⟨vk,vs,vw,vp,vr,vc,vh,vd,vq,hl,h1⟩=>n b o vk vs vw vp vr vc vh vd vq h1.m.keys.one h1.m.seen.one h1.m.writes.one h1.m.parts.one h1.m.ranges.one h1.m.ed.one h1.m.gG.one h1.m.eA.one h1.p.one (hl▸hc) h1
theorem Zs {w:World} {X:XS} {a:Value} {xs:List mD} (ha:gO w X 39 a mD.rd xs):
  Ct pg 8 #[a] w X nX fun v _ _=> ∃b:Bool,v=B b∧(b=true→xs.length≤200):=by
 intro w0 hk;replace ha:=gO.mv ha mD.mv hk.cL;have iV:=ha.len;apply KS;unfold Bg;have hs:=ak.init w0;refine gb (fun n a b w X=> ∃(i:Nat) (s:Int),a=I i∧b=I s∧n=(xs).length-i∧i≤(xs).length∧ak (aS w0) w0 X w) (xs).length ⟨0,_,rfl,rfl,rfl,aN _,hs⟩ ?_;rintro n a b w X ⟨i,s,rfl,rfl,rfl,hi,hs⟩;rcases eb (xs) i with⟨cK,x,hx,hd⟩|⟨dU,hd⟩
 ·repeat' first|refine bO ?_;intros|refine dD ?_ ?_<;>intros|(with_reducible apply Zr);(case h=>assumption);(case hr=>exact hx);(case hz=>rfl);(case ht=>kernel_rfl);(case hs=>kernel_rfl);intros
  ·refine ek (Hc (m:=x.m) (gW.at.mv (mD.at.m (by assumption)) hs.mv)) kQ hs.has ?_;rintro _ wa w X ⟨n1,rfl⟩ hle eD aq;replace hs:=hs.trans aq;repeat' first|refine aD ?_;intros|with_reducible apply mn
   exact eM (xs.length-(i+1)) zQ ⟨i+1,_,by simp,rfl,rfl,by omega,hs⟩
  all_goals first
   |exact ai hs fun wa bC=>⟨true,rfl,fun _=>by omega⟩
   |exact ai hs fun wa bC=>⟨false,rfl,fun h=>by cases h⟩
 ·repeat' first|refine bO ?_;intros|refine dD ?_ ?_<;>intros
  all_goals first
   |exact ai hs fun wa bC=>⟨true,rfl,fun _=>by omega⟩
   |exact ai hs fun wa bC=>⟨false,rfl,fun h=>by cases h⟩
theorem I3 {w:World} {X Y:XS} {lo Vh:Nat} {a b:Value} {xs ys:List Ev} (ha:dN w X lo a xs) (hb:dN w X Vh b ys):
  Ct pg 21 #[a,b] w X nX fun v _ _=> ∃b:Bool,v=B b∧(b=true↔xs.map Ev.e=ys.map Ev.e):=by
 intro w0 hk;replace ha:=ha.mv hk.cL;replace hb:=hb.mv hk.cL;have J0:=ha.own.sl;have zJ:=hb.own.sl;have iV:=J0.gz;apply He;unfold yY;have hs:=ak.init w0;repeat' first|refine aD ?_;intros|refine dD ?_ ?_<;>intros
 ·refine ai hs fun wa bC=>⟨false,rfl,fun h=>(by cases h),fun h9=>?_⟩;have h8:=congrArg List.length h9;simp only [ay] at h8;omega
 have hlen:xs.length=ys.length:=by omega
 refine eG (fun n a w X=> ∃i:Nat,a=I (i:Nat)∧n=(xs).length-i∧i≤(xs).length∧ak (aS w0) w0 X w∧(xs.map Ev.e=ys.map Ev.e↔(xs.drop i).map Ev.e=(ys.drop i).map Ev.e)) (xs).length ⟨0,rfl,rfl,aN _,hs,by simp⟩ ?_;rintro n a w X ⟨i,rfl,rfl,hi,hs,hw⟩;rcases eb (xs) i with⟨cK,x,hx,hd⟩|⟨dU,hd⟩
 ·obtain⟨y,hy,hdy⟩:=Is (xs:=ys) (i:=i) zQ;have LF:=(ha.ws x (aA hx)).sl;have ON:=(hb.ws y (aA hy)).sl;have ox:=LF.one;have oy:=ON.one;repeat' first|refine bO ?_;intros|(with_reducible refine WY _ _ ?_ ?_ ?_);(· kernel_rfl);all_goals intros|(with_reducible apply Ri);(· kernel_rfl);all_goals intros|with_reducible apply dG|((first|(with_reducible refine ai hs ?_)|(with_reducible refine ai (bF.trans hs) ?_));intro wa hk;(refine⟨false,rfl,?_⟩;simp_all [Ev.e,dX.ext_iff,aK.ext_iff]))|((with_reducible refine ep ((xs).length-(i+1)) ?_ ?_);omega;exact⟨i+1,by simp,rfl,by omega,hs,by simp_all [Ev.e,dX.ext_iff,aK.ext_iff]⟩)|(refine eR (KT (LF.mv hs.mv) (ON.mv hs.mv)) kQ hs.has ?_ ?_<;>(intro _ w X aq;replace hs:=hs.trans aq))
 ·have hdy:=List.drop_of_length_le (l:=ys) (i:=i) zQ;repeat' first|refine bO ?_;intros|((first|(with_reducible refine ai hs ?_)|(with_reducible refine ai (bF.trans hs) ?_));intro wa hk;(refine⟨true,rfl,?_⟩;simp_all))
end Go.Proofs.YtfndblbeikocdaaGreat
namespace Go.Proofs.YtfndblbeikocdaaGreat
open Go.Proofs.Tryz renaming prog → pg
open Go.bu
section
variable {P : Program} {X : XS} {w : World} {N : Value → Prop} {t : TypeId} {xo yo : Operand} {c d : Bool}
end
set_option maxRecDepth 100000
set_option maxHeartbeats 1000000
set_option linter.unusedVariables false
set_option linter.unusedSimpArgs false
attribute [local irreducible] un jn aF aT ld1 ew st1 dt cB lS dV lT uN tG gq fW ad az aJ eW eV eU eC eF gE au fin aQ aM aH vS xt gp il pR uO xu xv xw xx gm im pS uP xy xz xA
end Go.Proofs.YtfndblbeikocdaaGreat
namespace Go.Proofs.YtfndblbeikocdaaGreat
open Go.Proofs.Tryz renaming prog → pg
open Go.bu
set_option maxRecDepth 100000
set_option maxHeartbeats 1000000
set_option linter.unusedVariables false
set_option linter.unusedSimpArgs false
attribute [local irreducible] un jn aF aT ld1 ew st1 dt cB lS dV lT uN tG gq fW ad az aJ eW eV eU eC eF gE au fin aQ aM aH vS xt gp il pR uO xu xv xw xx gm im pS uP xy xz xA
def uz (l:List mD):Nat:=(l.map fun o=>iT o.m.ed).sum
theorem Zt {l:List mD} {i:Nat} {x:mD} (hx:l[i]? =some x):uz (l.take (i+1))=uz (l.take i)+iT x.m.ed:=by rw [bc,hx];simp [uz]
theorem VK (l:List mD) (i:Nat):uz (l.take i)≤uz l:=by
 have h:=congrArg uz (List.take_append_drop i l);have e:uz (l.take i++l.drop i)=uz (l.take i)+uz (l.drop i):=by unfold uz;rw [bo,List.sum_append]
 rw [e] at h;omega
end Go.Proofs.YtfndblbeikocdaaGreat
