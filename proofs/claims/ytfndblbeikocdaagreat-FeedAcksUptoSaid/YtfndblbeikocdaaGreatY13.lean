/-
 Part 13 of the proof: what the last text leans on.
-/
import Derived.Test.YtfndblbeikocdaaGreatY12
open Nat renaming le_trans → af, zero_le → aN, le_refl → bK, eq_zero_or_pos → dA, le_succ → rF, lt_of_lt_of_le → aI, min_eq_left → iN
open List renaming length_map → ay, length_singleton → bD, mem_of_getElem? → aA, map_append → bo, length_take → aW, length_append → ae, take_of_length_le → aY, getElem?_map → dQ, take_add_one → bc, length_filter_le → eH, map_take → pf, mem_of_mem_take → dW, mem_cons_self → di, mem_cons_of_mem → bG, find?_cons → bS, length_cons → bP, getElem?_eq_getElem → bT, getLast?_map → pF, mem_cons → js, not_mem_nil → gn, length_drop → dM, mem_of_mem_drop → eh, foldl_cons → gV, filter_map → xI, filter_append → ea
open Bool renaming and_eq_true → aV
open Option renaming isSome_some → oU
set_option linter.unusedVariables false
set_option linter.unusedSimpArgs false
namespace Go.Proofs.YtfndblbeikocdaaGreat
open Go.Proofs.Tryz renaming prog → pg
open Go.bu
set_option maxRecDepth 100000
set_option maxHeartbeats 1000000
set_option linter.unusedVariables false
set_option linter.unusedSimpArgs false
attribute [local irreducible] un jn aF aT ld1 ew st1 dt cB lS dV lT uN tG gq fW ad az aJ eW eV eU eC eF gE au fin aQ aM aH vS xt gp il pR uO xu xv xw xx gm im pS uP xy xz xA
structure LS (b:Nat) (r:Int) (x:fU):Prop where
 inv:qj b (cont x.m)
 cl:x.s.closed.may=true
 nx:1≤x.s.next
 id:x.s.id=r
 sz: ∀e∈cont x.m,e.2.1.writes.length≤2^18
theorem LS.up {b b':Nat} {r:Int} {x:fU} (h:LS b r x) (hb:b≤b'):LS b' r x:=⟨h.inv.up hb,h.cl,h.nx,h.id,h.sz⟩
structure fq (b:Nat) (s:dY):Prop where
 room:1≤s.room∧s.room≤64
 gF: ∀x∈s.fs,1≤x.1∧x.1≤12
 Ej:s.fs.length≤b
 RA: ∀x∈s.fs,x.2.may=true
 keys: ∀r,(getM r s.bZ).isSome=(getM r s.fs).isSome
 tok: ∀x∈s.bZ,LS b x.1 x.2
 held:qQ (s.hl.map (·.2)) s.high
 len:s.q.length+s.hl.length≤b
 fB: ∀x∈s.hl,x.2.writes.length≤2^18
 nu:vU (s.q.map Ev.e) s.bp s.high
 Vr: ∀x∈s.q,x.writes.length≤2^40
 mQ:s.holds.length≤b
 cur: ∀c∈s.tl,1≤c.2∧c.2≤100000000
theorem fq.up {b b':Nat} {s:dY} (h:fq b s) (hb:b≤b'):fq b' s:=
 { h with Ej:=af h.Ej hb,tok:=fun x hx=>(h.tok x hx).up hb,len:=af h.len hb,mQ:=af h.mQ hb }
theorem RC {κ α:Type} [DecidableEq κ] {k:κ} {a:α} : ∀l:List (κ×α),(bM k a l).length≤l.length+1
 |[]=>by simp [bM]
 |x::l=>by
  unfold bM;split
  ·simp
  ·have:=RC (k:=k) (a:=a) l;simp only [bP];omega
theorem fq.agU {b:Nat} {s:dY} {id next:Int} {fY:aK} {x:fU} (h:fq b s) (hf:(s.fs.map (·.1)).Nodup) (ht:(s.bZ.map (·.1)).Nodup) (LU:1≤id∧id≤12) (nk:1≤next) (ha:fY.may=true) (hs:x.s=⟨id,next,.zero⟩) (hm:x.m=[]):
  fq (b+1) { s with bZ:=bM id x s.bZ,fs:=bM id fY s.fs } :=
 { h.up (rF b)with
  gF:=fun y hy=>by
   rcases fc hf hy with rfl|⟨hy,_⟩
   ·exact LU
   ·exact h.gF y hy
  Ej:=by have:=RC (k:=id) (a:=fY) s.fs;have:=h.Ej;show(bM id fY s.fs).length≤b+1;omega
  RA:=fun y hy=>by
   rcases fc hf hy with rfl|⟨hy,_⟩
   ·exact ha
   ·exact h.RA y hy
  keys:=fun r=>by
   by_cases hr:r=id
   ·subst hr;simp only [lC,oU]
   ·simp only [lY hr];exact h.keys r
  tok:=fun y hy=>by
   rcases fc ht hy with rfl|⟨hy,_⟩
   ·exact⟨by rw [hm];exact qj.nil _,by rw [hs];rfl,by rw [hs];exact nk,by rw [hs],by rw [hm];simp⟩
   ·exact(h.tok y hy).up (rF b) }
def Gr (own dy:Nat→Nat) (wa w':World):Prop:= ∀k,dy k≠0→own k≠0∨made wa w' k
theorem Gr.refl (own:Nat→Nat) (wa w':World):Gr own own wa w':=fun _ h=>.inl h
theorem Di {own:Nat→Nat} {w w':World} {X X' G:XS} {p:Nat} (c:ef G X w X' w') (hX: ∀k,all own k→X k) (hG: ∀k,G k→gU own p k): ∀q,q≠p→q≠0→Mv (gU own q) w (gU own q) w':=fun q hq h0 k hk _=>
 ⟨hk,c.block k (hX k (cC h0 k hk)) fun hg=>hq (by have h1:own k=p:=hG k hg;have h2:own k=q:=hk;rw [←h2,h1])⟩
theorem eL.tight {w:World} {F:XS} {mb sb fb:Nat} {room:Int} {high:aK} {fs:List (Int×aK)} (h:eL w F mb sb fb room high fs):eL w (fun k=>k=mb∨k=fb) mb sb fb room high fs:=
 ⟨⟨.inl rfl,h.row.2⟩,Rm h.m (.inr rfl)⟩
theorem eL.two {w:World} {F:XS} {mb sb fb:Nat} {room:Int} {high:aK} {fs:List (Int×aK)} (h:eL w F mb sb fb room high fs): ∀k,k=mb∨k=fb→F k:=fun k hk=>by
 rcases hk with rfl|rfl
 ·exact h.row.1
 ·exact h.fb
theorem gu.reM {w w':World} {F X X':XS} {mb sb fb:Nat} {hv:Value} {room acg:Int} {high LL:aK} {fs YT:List (Int×aK)} {hl:List FV} (h:gu w F mb sb fb hv room high fs hl) (hX: ∀k,F k→X k)
  (c:ef (fun k=>k=mb∨k=fb) X w X' w') (hm:eL w' (fun k=>k=mb∨k=fb) mb sb fb acg LL YT):gu w' F mb sb fb hv acg LL YT hl:=
 ⟨hm.mv (Mv.sub (eL.two h.m)),h.h.tight.mv fun k hk _=>⟨h.h.sub k hk,c.block k (hX k (h.h.sub k hk)) fun e=>by
  rcases e with rfl|rfl
  ·exact h.apM hk
  ·exact h.apF hk⟩⟩
theorem JG {w:World} {X:XS} {own:Nat→Nat} {nb:Nat} {st:dY} {id next:Int} {fY:aK} {b:Nat} (h:cy w own nb st) (i:fq b st) (hF:FX (all own) X w) (LU:1≤id∧id≤12) (nk:1≤next∧next≤100000000)
  (ht:getM id st.bZ=none) (ha:fY.may=true):
  Ct pg 27 #[ptr nb 0,I id,I next,fY.v] w X (all own) fun v wa w'=>v= .tuple #[]∧ ∃dy x,Gr own dy wa w'∧cy w' dy nb { st with bZ:=bM id x st.bZ,fs:=bM id fY st.fs } ∧
   fq (b+1) { st with bZ:=bM id x st.bZ,fs:=bM id fY st.fs } ∧x.s=⟨id,next,.zero⟩∧x.m=[]:=by
 intro w0 hk;have hT:=hF.ft hk;replace h:=h.kp hk fun k ah=>(hF k ah).1;have bE:=h.row.mv (Mv.sub fun k ah=>hT.bg k (cC (p:=1) (by decide) k ah));have hf:(getM id st.fs).isSome=false:=by rw [←i.keys,ht];rfl
 apply IS;unfold zy;have hs:=ak.init w0;repeat' first|refine aD ?_;intros
 refine ek (LV id next) kQ hT.s.has ?_;rintro v wa w1 X1 hq hle eD aq;rw [if_neg zQ] at hq;obtain⟨tb,mb,rfl,oZ⟩:=hq;have de:=hT.since aq;have h1:=h.since aq hT.bg;have jj:=bE.mv aq.mv;replace hs:=hs.trans aq;repeat' first|refine aD ?_;intros
 have hTx:=(oZ.exact.wide eD);have mC: ∀k,pV tb mb [] k→w0.heap.size≤k∧X1 k∧made wa w1 k:=fun k ah=>by
  have:=df.Fk (x:=⟨tb,mb,[],_⟩) oZ.exact k ah;exact⟨af hle this.1.1,eD k this.1,this.1⟩
 refine se (kt:=3) (et:=111) (a:=(⟨tb,mb,[],⟨id,next,.zero⟩⟩:fU)) (h1.lG.mv (Mv.sub fun k ah=>de.bg k (cC (p:=5) (by decide) k ah))).map AV rfl (fun _ hk=>hk.elim) iJ kQ de.s.has fun w2 X2 c2 oC=>?_;have lQ:=h.lG.map.nodup;have aaP:=h.nT.m.m.nodup;have c02:ef (fun k=>k=st.kD) (aS w0) w0 X2 w2:=(ef.qk aq _).trans c2;have LR:own st.kD=5:=h.lG.map.x.1;have cK: ∀k,all own k→k<w0.heap.size:=hT.bg;obtain⟨x,rfl⟩: ∃x:fU,x=⟨tb,mb,[],⟨id,next,.zero⟩⟩:=⟨_,rfl⟩;obtain⟨dy,q1,q2,q3,_⟩:=Aw (own:=own) (p:=5) (F':=fun k=>gU own 5 k∨pV tb mb [] k) (by decide) c02 hT.bg (fun k ah=>by have e:k=st.kD:=ah;rw [e];exact LR) (fun k ah=>ah.imp (fun h=>h) fun h=>(mC k h).1);have hG: ∀k,all dy k→all own k∨(X1 k∧w0.heap.size≤k):=fun k ah=>by
  rcases q3 k ah with h9|h9|h9
  ·exact .inl h9
  ·exact .inl (cC (by decide) k h9)
  ·exact .inr ⟨(mC k h9).2.1,(mC k h9).1⟩
 have aaQ:kP w2 (gU dy 5) st.kD (bM id (⟨tb,mb,[],⟨id,next,.zero⟩⟩:fU) st.bZ):=by
  refine kP.put (w:=w0) (F:=gU own 5) (F1:=X1) (X1:=X1) h1.lG (fun k ah=>⟨de.bg k (cC (by decide) k ah),cK k (cC (by decide) k ah)⟩) hTx ⟨by simp,by simp⟩ (fun k ah=>(mC k ah).1) (fun k ah=>ah) c2 oC (fun k ah=>q1 k (.inl ah)) fun k ah=>q1 k (.inr ah)
 have h2:cy w2 dy nb { st with bZ:=bM id (⟨tb,mb,[],⟨id,next,.zero⟩⟩:fU) st.bZ } :=
  ⟨h.row.mv (q2 1 (by decide) (by decide)),h.nT.mv (q2 2 (by decide) (by decide)),h.nu.mv (q2 3 (by decide) (by decide)),h.mQ.mv (q2 4 (by decide) (by decide)),aaQ,h.tg.mv (q2 6 (by decide) (by decide))⟩
 have b8:Ft w0 (all own) w2 X2 (all dy):=(de.dF c2 (F':=all own) (fun k ah=>by subst ah;exact cC (p:=5) (by decide) _ LR) fun k ah=>.inl ah).more fun k ah=>(hG k ah).imp (fun h=>h) fun h=>⟨c2.sub k h.1,h.2⟩;have kl:=h2.row.mv (Mv.sub fun k ah=>b8.bg k (cC (p:=1) (by decide) k ah));clear bE jj hs;have hs:=b8.s;repeat' first|refine aD ?_;intros
 have j9: ∀k,gU dy 2 k→all dy k:=cC (by decide);refine b8.call (Rn h2.nT.m.tight (b8.fx fun k ah=>j9 k (eL.two h2.nT.m k ah))) kQ (fun k ah=>j9 k (eL.two h2.nT.m k ah)) ?_;rintro _ AU w3 X3 ⟨rfl,OV⟩ x6 tv dz c3;have he:pC id fY st.fs=0:=by
  have hn:getM id st.fs=none:=by simpa using hf
  unfold pC;rw [if_neg zQ,ha,hn];rfl
 rw [he,if_pos rfl] at OV;have Fl:gu w3 (gU dy 2) st.mb st.sb st.fb st.hv st.room st.high (bM id fY st.fs) st.hl:=h2.nT.reM (fun k ah=>b8.bg k (j9 k ah)) c3 OV;have v3:=Di (p:=2) c3 b8.bg fun k ah=>eL.two h2.nT.m k ah;have h3:cy w3 dy nb { st with bZ:=bM id (⟨tb,mb,[],⟨id,next,.zero⟩⟩:fU) st.bZ,fs:=bM id fY st.fs } :=
  ⟨h2.row.mv (v3 1 (by decide) (by decide)),Fl,h2.nu.mv (v3 3 (by decide) (by decide)),h2.mQ.mv (v3 4 (by decide) (by decide)),h2.lG.mv (v3 5 (by decide) (by decide)),h2.tg.mv (v3 6 (by decide) (by decide))⟩
 clear hs;have hs:=dz.s
 skip
 exact dz.fin fun wa bC=>⟨rfl,dy,⟨tb,mb,[],⟨id,next,.zero⟩⟩,fun k ah=>(hG k ah).imp (fun h=>h) fun h=>⟨h.2,aI (dz.s.has k (c3.sub k (c2.sub k h.1))) bC.size⟩,
  h3.kp bC fun k ah=>dz.bg k (.inl ah),i.agU aaP lQ LU nk.1 ha rfl rfl,rfl,rfl⟩
theorem fq.agV {b:Nat} {s:dY} {f:eB} {jC:List FV} {j5 LW:Value} {sn:aK} {rE:List fG} (h:fq b s) (hf:f.writes.length≤2^18) (hh:rE.length≤b+1)
  (ha:if jH s.high s.fs s.hl f=0 then LO s.hl jC f else jC=s.hl):fq (b+1) { s with seen:=sn,holds:=rE,ov:=LW,hl:=jC,hv:=j5 } :=by
 have h1:=h.up (rF b);split at ha
 ·rename_i he;obtain⟨i,vw,hp,rfl⟩:=ha;have lB:f.may=true:=by
   cases hm:f.may
   ·simp [jH,hm] at he
   ·rfl
  have fV: ¬f.aw.cmp s.high≤0:=fun hc=>by
   unfold jH at he;rw [if_neg (by simp [lB])] at he;split at he
   ·cases he
   ·cases he
  have Cx:(s.hl.map (·.2)).any f.yR=false:=by
   unfold jH at he;rw [if_neg (by simp [lB])] at he;split at he
   ·cases he
   ·unfold lp at he;rw [if_neg (by simp [lB])] at he;split at he
    ·cases he
    ·split at he
     ·cases he
     ·rename_i hq;simpa using hq
  have eD:=h.held.ins (f:=f) (i:=i) (fun x hx=>by
   obtain⟨j,hj⟩:=List.mem_iff_getElem?.1 hx;have rv:=(List.getElem?_eq_some_iff.1 hj).1;rw [List.getElem?_take_of_lt (by rw [aW] at rv;omega),dQ] at hj;obtain⟨y,hy,rfl⟩:=Option.map_eq_some_iff.1 hj;exact hp.lo j y (by rw [aW] at rv;omega) hy) (fun x hx=>by
   obtain⟨j,hj⟩:=List.mem_iff_getElem?.1 hx;rw [List.getElem?_drop,dQ] at hj;obtain⟨y,hy,rfl⟩:=Option.map_eq_some_iff.1 hj;exact hp.hi (i+j) y zQ hy) lB Cx (by rw [GM];omega)
  refine { h1 with held:=?_,len:=?_,fB:=fun x hx=>?_,mQ:=hh }
  ·simpa [pf,List.map_drop] using eD
  ·have:=h.len;have:=hp.le;simp only [ae,aW,bD,dM];omega
  ·simp only [List.mem_append,List.mem_singleton] at hx;rcases hx with(hx|hx)|hx
   ·exact h.fB x (dW hx)
   ·rw [hx];exact hf
   ·exact h.fB x (eh hx)
 ·subst ha;exact { h1 with mQ:=hh }
theorem qQ.ql {hl:List FV} {high:aK} (h:qQ (hl.map (·.2)) high) {f:eB} : ∀(i j:Nat) x y,i<j→hl[i]? =some x→hl[j]? =some y→y.2.cmp f<0→x.2.cmp f<0:=fun i j x y yK hx hy hyf=>by
 obtain⟨hi,rfl⟩:=List.getElem?_eq_some_iff.1 hx;obtain⟨hj,rfl⟩:=List.getElem?_eq_some_iff.1 hy;have:=List.pairwise_iff_getElem.1 h.ord i j (by simpa using hi) (by simpa using hj) yK;simp only [List.getElem_map] at this;exact acR this hyf
theorem acS {f:eB} (h:f.may=true):1≤f.gF∧f.gF≤12:=by
 unfold eB.may at h;simp only [aV,decide_eq_true_eq] at h;exact⟨h.1.1,h.1.2.1⟩
theorem fq.hr {b:Nat} {s:dY} (h:fq b s): ∀x∈s.hl,1≤x.2.gF∧x.2.gF≤12:=fun x hx=>acS (h.held.may x.2 (List.mem_map.2 ⟨x,hx,rfl⟩))
def vY (bp:aK) (hs:List fG) (f:eB):List fG:=if gh bp f.aw=true∧ ¬(⟨f.gF,f.fY,f.aw⟩:fG)∈hs then hs++[⟨f.gF,f.fY,f.aw⟩] else hs
theorem LX {w:World} {X S:XS} {own:Nat→Nat} {nb:Nat} {st:dY} {f:eB} {vw:Value} {b:Nat} (h:cy w own nb st) (i:fq b st) (hb:b≤2^30) (hF:FX (all own) X w)
  (hw:Sl w S 4 vw (f.writes.map KV.l)) (hS: ∀k,S k→X k∧(own k=0∨own k=5)) (hfw:f.writes.length≤2^18):
  Ct pg 80 #[ptr nb 0,f.v vw] w X (all own) fun v wa w'=>v= .tuple #[]∧ ∃dy LW jC j5,Gr own dy wa w'∧
   cy w' dy nb { st with seen:=st.seen.later f.aw,holds:=vY st.bp st.holds f,ov:=LW,hl:=jC,hv:=j5 } ∧fq (b+1) { st with seen:=st.seen.later f.aw,holds:=vY st.bp st.holds f,ov:=LW,hl:=jC,hv:=j5 } :=by
 intro w0 hk;have hT:=hF.ft hk;replace h:=h.kp hk fun k ah=>(hF k ah).1;have BW:Sl w0 (fun k=>k<w0.heap.size∧(own k=0∨own k=5)) 4 vw (f.writes.map KV.l):=hw.mv fun k ah jC=>⟨⟨aI jC hk.size,(hS k ah).2⟩,hk.block k (hS k ah).1⟩;have o1:=BW.one;obtain⟨b1,n1,c1,rfl⟩:=BW.form;have bE:=h.row.mv (Mv.sub fun k ah=>hT.bg k (cC (p:=1) (by decide) k ah));have oq:=h.nu.own.sl.one;have oo:=h.mQ.sl.one;have om:=h.tg.one;apply Dl;unfold uX;have hs:=ak.init w0;repeat' first|refine aD ?_;intros
 refine fX (tM _ _) kQ hT.s.has fun w1 X1 xG=>?_;have de:=hT.since xG;have h1:=h.since xG hT.bg;have jj:=bE.mv xG.mv;clear hs bE;have hs:=de.s;repeat' first|refine aD ?_;intros
 refine Io (o:=13) jj zQ kQ (by simp) rfl rfl de.s.has fun w2 X2 c2 tH=>?_;have h2:cy w2 own nb { st with seen:=st.seen.later f.aw } :=cy.put h1.row.1 de.bg c2 tH h1.nT h1.nu h1.mQ h1.lG h1.tg;have b8:Ft w0 (all own) w2 X2 (all own):=de.dF c2 (fun k ah=>by subst ah;exact cC (p:=1) (by decide) _ h.row.1) fun k ah=>.inl ah;have kl:=h2.row.mv (Mv.sub fun k ah=>b8.bg k (cC (p:=1) (by decide) k ah));clear hs jj tH;have hs:=b8.s;repeat' first|refine aD ?_;intros
 refine dC (Ah (st:= { st with seen:=st.seen.later f.aw }) (s:=f.aw) kl) kQ b8.s.has fun w3 X3 dZ=>?_;have dz:=b8.since dZ;have h3:=h2.since dZ b8.bg;have gY:=kl.mv dZ.mv;clear hs kl;have hs:=dz.s;have Qu:vY st.bp st.holds f=st.holds→ ∀{wz:World} {Xz:XS},Ft w0 (all own) wz Xz (all own)→cy wz own nb { st with seen:=st.seen.later f.aw } → ∀wa,Kp Xz wz wa→Value.tuple #[]= .tuple #[]∧ ∃dy LW jC j5,Gr own dy w0 wa∧
   cy wa dy nb { st with seen:=st.seen.later f.aw,holds:=vY st.bp st.holds f,ov:=LW,hl:=jC,hv:=j5 } ∧fq (b+1) { st with seen:=st.seen.later f.aw,holds:=vY st.bp st.holds f,ov:=LW,hl:=jC,hv:=j5 } :=by
  intro e;rw [e];exact fun hT h wa bC=>⟨rfl,own,st.ov,st.hl,st.hv,Gr.refl _ _ _,h.kp bC hT.bg,{ i.up (rF b)with }⟩
 cases hn:gh st.bp f.aw
 ·repeat' first|refine aD ?_;intros|with_reducible apply dG
  exact dz.fin fun wa bC=>Qu (by simp [vY,hn]) dz h3 wa bC
 repeat' first|refine aD ?_;intros|with_reducible apply dG
 refine dC (KK (h:=⟨f.gF,f.fY,f.aw⟩) (h3.mQ.sl.mv (Mv.sub fun k ah=>dz.bg k (cC (p:=4) (by decide) k ah)))) kQ dz.s.has fun w4 X4 jX=>?_;have eY:=dz.since jX;have h4:=h3.since jX dz.bg;have sH:=gY.mv jX.mv;clear hs gY;have hs:=eY.s;by_cases eD:(⟨f.gF,f.fY,f.aw⟩:fG)∈st.holds
 ·have e:decide ((⟨f.gF,f.fY,f.aw⟩:fG)∈st.holds)=true:=by simpa using eD
  rw [e];repeat' first|refine aD ?_;intros
  exact eY.fin fun wa bC=>Qu (by simp [vY,eD]) eY h4 wa bC
 have e:decide ((⟨f.gF,f.fY,f.aw⟩:fG)∈st.holds)=false:=by simpa using eD
 rw [e];repeat' first|refine aD ?_;intros|(with_reducible apply vO);(case hX=>exact hs.has);(case he=>kernel_rfl);(case hk=>rfl);intro acc w X aq ho;obtain⟨_,_,_,rfl⟩:=ho.sl.form;replace hs:=hs.trans aq
 have fQ:=eY.since aq;have h5:=h4.since aq eY.bg;have sI:=sH.mv aq.mv;clear hs sH;have aaR:Own w X 0 102 5 st.ov (st.holds.map fG.l):=h5.mQ.mono fun k ah=>fQ.bg k (cC (p:=4) (by decide) k ah);have hhb:=i.mQ;refine qG (dq:=[fG.l (⟨f.gF,f.fY,f.aw⟩:fG)]) aaR fQ.s.has (aN _) kQ ho.sl (by simp [bu.one]) (by simp only [ay,bD];omega) (by simp only [ay,bD];omega) fun v6 w6 X6 c6 tR Wv=>?_;have hb6: ∀k,dK v6 k→own k=4∨w.heap.size≤k:=fun k ah=>by
  rcases Wv with h9|⟨g,h9,fR⟩
  ·exact .inl (h5.mQ.2.2 k (by rw [←h9];exact ah))
  ·have ah:v6.ownBlock=some k:=ah;rw [h9] at ah;cases ah;exact .inr fR
 have hbo: ∀k,dK st.ov k→own k=4:=fun k ah=>h5.mQ.2.2 k ah;obtain⟨zj,q1,q2,q3,q4⟩:=Aw (own:=own) (p:=4) (F':=dK v6) (by decide) c6 fQ.bg hbo hb6;have aaS:Own w6 (gU zj 4) 0 102 5 v6 ((st.holds++[(⟨f.gF,f.fY,f.aw⟩:fG)]).map fG.l):=by
  rw [bo];exact⟨tR.1,tR.2.1,fun g hg=>q1 g hg⟩
 have iC:Ft w0 (all own) w6 X6 (all zj):=fQ.dF c6 (fun k ah=>cC (p:=4) (by decide) k (hbo k ah)) fun k ah=>by
  rcases q3 k ah with h9|h9
  ·exact .inl h9
  ·rcases hb6 k h9 with fR|fR
   ·exact .inl (cC (p:=4) (by decide) k fR)
   ·exact .inr ⟨tR.2.2 k h9,fR⟩
 have KM:=h5.row.mv (q2 1 (by decide) (by decide));have Ai:=KM.mv (Mv.sub fun k ah=>iC.bg k (cC (p:=1) (by decide) k ah));clear sI;have hs:=iC.s;repeat' first|refine aD ?_;intros
 refine Af (o:=12) Ai zQ kQ (by simp) tR.sl.one iC.s.has fun w7 X7 c7 Vs=>?_;have h7:cy w7 zj nb { st with seen:=st.seen.later f.aw,holds:=st.holds++[⟨f.gF,f.fY,f.aw⟩],ov:=v6 } :=
  cy.put KM.1 iC.bg c7 Vs (h5.nT.mv (q2 2 (by decide) (by decide))) (h5.nu.mv (q2 3 (by decide) (by decide))) aaS (h5.lG.mv (q2 5 (by decide) (by decide))) (h5.tg.mv (q2 6 (by decide) (by decide)))
 have ny:Ft w0 (all own) w7 X7 (all zj):=iC.dF c7 (fun k ah=>by subst ah;exact cC (p:=1) (by decide) _ KM.1) fun k ah=>.inl ah;have Ip:=h7.row.mv (Mv.sub fun k ah=>ny.bg k (cC (p:=1) (by decide) k ah));clear hs Ai Vs;have hs:=ny.s;repeat' first|refine aD ?_;intros
 have yQ: ∀k,k<w0.heap.size→X1 k:=fun k ah=>xG.sub k ah;have vP: ∀k,k<w0.heap.size→X2 k:=fun k ah=>c2.sub k (yQ k ah);have hx3: ∀k,k<w0.heap.size→X3 k:=fun k ah=>dZ.sub k (vP k ah);have hx4: ∀k,k<w0.heap.size→X4 k:=fun k ah=>jX.sub k (hx3 k ah);have Fm: ∀k,k<w0.heap.size→X k:=fun k ah=>aq.sub k (hx4 k ah);have hx6: ∀k,k<w0.heap.size→X6 k:=fun k ah=>c6.sub k (Fm k ah);have jU:own nb=1:=h.row.1;have hc: ∀k,(own k=0∨own k=5)→k≠nb∧ ¬dK st.ov k:=fun k ah=>⟨fun e=>by rw [e,jU] at ah;omega,fun e=>by have:=hbo k e;omega⟩;have hw7:=BW.mv (((((((xG.jB fun k ah=>ah.1).trans (c2.j6 fun k ah=>⟨yQ k ah.1,(hc k ah.2).1⟩)).trans (dZ.jB fun k ah=>vP k ah.1)).trans (jX.jB fun k ah=>hx3 k ah.1)).trans (aq.jB fun k ah=>hx4 k ah.1)).trans
  (c6.j6 fun k ah=>⟨Fm k ah.1,(hc k ah.2).2⟩)).trans (c7.j6 fun k ah=>⟨hx6 k ah.1,(hc k ah.2).1⟩))
 have j9: ∀k,gU zj 2 k→all zj k:=cC (by decide);have hlen:=i.len;refine ny.call (Uj h7.nT (ny.fx j9) hw7 (fun k ah=>⟨c7.sub k (hx6 k ah.1),fun e=>by have:=q4 2 k (by decide) (by decide) e;have:=ah.2;omega⟩) i.hr zQ (show st.hl.length≤2^39 by omega) fun _=>i.held.ql) kQ j9 ?_;rintro _ wa8 w8 X8 ⟨rfl,FM,hv8,hl8,hFM,hM8,hA8⟩ Ww ad7 pW c8;have agW: ∀k,FM k→zj k=2∨w7.heap.size≤k:=fun k ah=>(hFM k ah).imp (fun h=>h) fun h=>af Ww h.1;obtain⟨x7,r1,r2,r3,r4⟩:=Aw (own:=zj) (p:=2) (F':=FM) (by decide) c8 ny.bg (fun k ah=>ah) agW;have h8:cy w8 x7 nb { st with seen:=st.seen.later f.aw,holds:=st.holds++[⟨f.gF,f.fY,f.aw⟩],ov:=v6,hl:=hl8,hv:=hv8 } :=
  ⟨h7.row.mv (r2 1 (by decide) (by decide)),hM8.mv (Mv.sub r1),h7.nu.mv (r2 3 (by decide) (by decide)),h7.mQ.mv (r2 4 (by decide) (by decide)),h7.lG.mv (r2 5 (by decide) (by decide)),h7.tg.mv (r2 6 (by decide) (by decide))⟩
 have GS:Ft w0 (all own) w8 X8 (all x7):=pW.less fun k ah=>(r3 k ah).elim .inl fun h9=>(hFM k h9).elim (fun fR=>.inl (j9 k fR)) .inr;clear hs;have hs:=GS.s
 skip
 have hfh:vY st.bp st.holds f=st.holds++[⟨f.gF,f.fY,f.aw⟩]:=by simp [vY,hn,eD]
 rw [hfh];exact GS.fin fun wa bC=>⟨rfl,x7,_,_,_,GS.nV bC fun k ah=>ah,h8.kp bC GS.bg,i.agV hfw (by simp only [ae,bD];omega) hA8⟩
structure Rec.sz (r:Rec):Prop where
 w:r.writes.length≤2^18
 p: ∀p∈r.state.eA,p.writes.length≤2^18
theorem LY {r:Rec} (h:r.err=0):r.nz=true:=by
 unfold Rec.err at h;split at h
 ·cases h
 ·split at h
  ·cases h
  ·rename_i h2;cases hf:r.nz<;>simp_all
theorem OY {s:iv} {m:eE} {n:Int} {r:Rec} (h:jL s m n r=0):r.err=0∧n≤99999999:=by
 unfold jL at h;split at h
 ·cases h
 ·split at h
  ·cases h
  ·rename_i h1 h2;exact⟨by simpa using h2,by omega⟩
theorem OZ {r:Rec} (h:r.nz=true):(r.kind=1→r.state.closed.may=true)∧(r.kind=5∨r.kind=6→r.aw.may=true)∧(r.kind=6→1≤r.n∧r.n≤12):=by
 unfold Rec.nz at h;refine⟨fun hk=>?_,fun hk=>?_,fun hk=>?_⟩
 ·rw [if_pos hk] at h;unfold State.may at h;simp only [aV] at h;exact h.1.1.2
 ·rcases hk with hk|hk
  ·simpa [hk] using h
  ·simp only [hk,Int.reduceEq,if_false,if_true,aV] at h;exact h.2
 ·simp only [hk,Int.reduceEq,if_false,if_true,aV,pG,decide_eq_true_eq] at h;omega
theorem RD: ∀(c:lZ) {s:aK},s.may=true→(Cz s c).may=true
 |[],s,h=>h
 |e::c,s,h=>by
  unfold Cz;rw [gV];refine RD c (s:=if e.2.1.aw.qf.1.cmp s<0 then e.2.1.aw.qf.1 else s) ?_;split
  ·exact YW _
  ·exact h
theorem JH {n:Int} : ∀{l:List dB} {c:lZ} {e:dX×dB×Int},e∈l.foldl (fun c p=>bM p.bU (p,n) c) c→e∈c∨ ∃p∈l,e.2.1=p
 |[],c,e,h=>.inl h
 |p::l,c,e,h=>by
  rw [gV] at h;rcases JH h with h|⟨q,hq,h⟩
  ·rcases AX h with rfl|h
   ·exact .inr ⟨p,di,rfl⟩
   ·exact .inl h
  ·exact .inr ⟨q,bG _ hq,h⟩
theorem LS.feed {b:Nat} {q:Int} {x x':fU} {n:Int} {r:Rec} (h:LS b q x) (he:jL x.s x.m n r=0) (jr:r.small) (fB:r.sz) (hc:cont x'.m=lN n r (cont x.m)) (hs:x'.s=gT x.s r):LS (b+r.state.eA.length+1) q x':=by
 have hf:=OZ (LY (OY he).1);refine⟨by rw [hc];exact h.inv.feed jr n,?_,?_,?_,fun e hm=>?_⟩
 ·rw [hs];unfold gT
  show(if _ then _ else if _ then _ else _:aK).may=true
  split
  ·exact BU h.cl (hf.1 ‹_›)
  ·split
   ·exact BU h.cl (hf.2.1 ‹_›)
   ·exact h.cl
 ·rw [hs];have:=h.nx;show 1≤x.s.next+1;omega
 ·rw [hs];exact h.id
 ·rw [hc] at hm;unfold lN at hm;split at hm
  ·rcases JH hm with hm|⟨p,hp,e1⟩
   ·exact h.sz e hm
   ·rw [e1];exact fB.p p hp
  ·split at hm
   ·rcases AX hm with rfl|hm
    ·exact fB.w
    ·exact h.sz e hm
   ·split at hm
    ·exact h.sz e (List.mem_filter.1 hm).1
    ·split at hm
     ·obtain⟨y,hy,rfl⟩:=List.mem_map.1 hm;exact af (eH _ _) (h.sz y hy)
     ·exact h.sz e hm
structure LZ (t:ph):Prop where
 w:t.writes.length≤2^18
 c:t.kind=2→1≤t.child∧t.child≤12∧t.st.may=true
theorem acT {b:Nat} {q:Int} {x:fU} {n:Int} {r:Rec} (h:LS b q x) (he:jL x.s x.m n r=0):LZ (ei x.s r (cont x.m)):=by
 have hf:=OZ (LY (OY he).1);have h0:LZ .none:=⟨by simp [ph.none],fun h=>by simp [ph.none] at h⟩;unfold ei;split
 ·split
  ·rename_i y hy;split
   ·refine⟨?_,fun h=>by cases h⟩
    show y.1.writes.length≤2^18
    have hm: ∀{c:lZ},getM r.bU c=some y→(r.bU,y)∈c:=fun {c} =>by
     induction c with
     |nil=>intro h;simp [getM] at h
     |cons z c ih=>
      intro h;by_cases hz:z.1=r.bU
      ·have:z.2=y:=by simpa [getM,bS,hz] using h
       rw [←hz,←this];exact di
      ·exact bG _ (ih (by simpa [getM,bS,hz] using h))
    exact h.sz _ (hm hy)
   ·exact h0
  ·exact h0
 ·split
  ·rename_i hk;refine⟨by simp,fun _=>⟨(hf.2.2 hk).1,(hf.2.2 hk).2,RD _ (BU h.cl (hf.2.1 (.inr hk)))⟩⟩
  ·exact h0
theorem fq.feed {b b':Nat} {s:dY} {q:Int} {x x':fU} (h:fq b s) (hn:(s.bZ.map (·.1)).Nodup) (hg:getM q s.bZ=some x) (ht:LS b' q x') (hb:b≤b'):fq b' { s with bZ:=bM q x' s.bZ } :=
 { h.up hb with
  keys:=fun r=>by
   by_cases hr:r=q
   ·subst hr;have:=h.keys r;rw [hg] at this;simp only [lC];exact this
   ·simp only [lY hr];exact h.keys r
  tok:=fun y hy=>by
   rcases fc hn hy with rfl|⟨hy,_⟩
   ·exact ht
   ·exact(h.tok y hy).up hb }
theorem RE {w:World} {X S:XS} {own:Nat→Nat} {nb:Nat} {st:dY} {b:Nat} {q:Int} {x:fU} {r:Rec} {vr vw vp vq vh vd:Value} (h:cy w own nb st) (i:fq b st) (hF:FX (all own) X w) (hX: ∀k,X k→k<w.heap.size) (hg:getM q st.bZ=some x)
  (ha:r.at w S vr vw vp vq vh vd) (hS: ∀k,S k→X k∧own k=0) (jr:r.small) (fB:r.sz) (hb:b≤2^30):
  Ct pg 79 #[ptr x.tb 0,I x.s.next,r.v vr vw vp vq vh vd] w X (all own) fun v wa w'=>
   (∃e,e≠0∧v= .tuple #[ph.none.v (.slice none 0 0),I e]∧cy w' own nb st∧jL x.s x.m x.s.next r≠0)∨
   ∃dy x' oE S',v= .tuple #[(ei x.s r (cont x.m)).v oE,I 0]∧Gr own dy wa w'∧x'.tb=x.tb∧cy w' dy nb { st with bZ:=bM q x' st.bZ } ∧fq (b+r.state.eA.length+1) { st with bZ:=bM q x' st.bZ } ∧
    Sl w' S' 4 oE ((ei x.s r (cont x.m)).writes.map KV.l)∧(∀k,S' k→(dy k=0∨dy k=5)∧(own k≠0∨made wa w' k))∧LZ (ei x.s r (cont x.m))∧jL x.s x.m x.s.next r=0∧x'.s=gT x.s r∧cont x'.m=lN x.s.next r (cont x.m):=by
 have gR:=kE hg;have oZ:=h.lG.tl _ gR;have ml:=i.tok _ gR;have hX5: ∀k,gU own 5 k→X k:=fun k hk=>(hF k (cC (by decide) k hk)).1;have mC: ∀k,x.fp k→gU own 5 k∧k<w.heap.size:=df.Fk oZ.1;have Vt:x.m.length≤2^40:=by have:=ml.inv.len;simp at this;omega
 intro wa hk;refine(Uk (X:=X) (A:=fun k=>S k∧k<w.heap.size) (oZ.1.wide hX5) hX (ha.mv fun k ah hl=>⟨⟨ah,hl⟩,rfl⟩) (fun k ah=>⟨(hS k ah.1).1,fun hf=>by have:=(hS k ah.1).2;have h5:own k=5:=(mC k hf).1;omega⟩) jr oZ.2 (Y9.m ml.inv.ok) Vt ml.nx wa hk).mono ?_;rintro e w' ⟨v,rfl,ry,hq⟩;have lF: ∀k,x.fp k→all own k:=fun k ah=>cC (by decide) k (mC k ah).1;refine⟨v,rfl,ry.mono lF,?_⟩;have c:ef x.fp X w (grow X wa w') w':=ef.Qv hX hk ry;have RF: ∀k,all own k→X k:=fun k ah=>(hF k ah).1;unfold Ek at hq;split at hq
 ·rename_i bW;obtain⟨rfl,hT⟩:=hq;refine .inl ⟨_,bW,rfl,?_,bW⟩;have v1:=Di (p:=5) c RF fun k ah=>(mC k ah).1;have ht:kP w' (gU own 5) st.kD st.bZ:=by
   have h1:=h.lG.step (x':=x) (F':=gU own 5) hg rfl c hX5 hT oZ.2 (fun k ah=>.inl ah) (fun k ah=>ah) fun k ah=>(mC k ah).1;have e:bM q x st.bZ=st.bZ:=by
    have: ∀(l:List (Int×fU)),getM q l=some x→bM q x l=l:=by
     intro l
     induction l with
     |nil=>intro h;simp [getM] at h
     |cons y l ih=>
      intro h;unfold bM;by_cases hy:y.1=q
      ·rw [if_pos hy];have:y.2=x:=by simpa [getM,bS,hy] using h
       rw [←hy,←this]
      ·rw [if_neg hy,ih (by simpa [getM,bS,hy] using h)]
    exact this _ hg
   rwa [e] at h1
  exact⟨h.row.mv (v1 1 (by decide) (by decide)),h.nT.mv (v1 2 (by decide) (by decide)),h.nu.mv (v1 3 (by decide) (by decide)),h.mQ.mv (v1 4 (by decide) (by decide)),ht,h.tg.mv (v1 6 (by decide) (by decide))⟩
 ·rename_i bW;have lB:jL x.s x.m x.s.next r=0:=by simpa using bW
  obtain⟨m',oE,rfl,mg,rG,ju,RG,hT⟩:=hq;obtain⟨x',rfl⟩: ∃x':fU,x'=⟨x.tb,x.mb,m',gT x.s r⟩:=⟨_,rfl⟩;have hn: ∀k,(⟨x.tb,x.mb,m',gT x.s r⟩:fU).fp k→x.fp k∨w.heap.size≤k:=fun k ah=>by
   rcases ah with ah|ah|ah
   ·exact .inl (.inl ah)
   ·exact .inl (.inr (.inl ah))
   ·exact(RG k ah).imp (fun h9=>.inr (.inr h9)) fun h9=>af hk.size h9
  obtain⟨dy,q1,q2,q3,q4⟩:=Aw (own:=own) (p:=5) (F':=fun k=>gU own 5 k∨(⟨x.tb,x.mb,m',gT x.s r⟩:fU).fp k) (by decide) c RF (fun k ah=>(mC k ah).1) (fun k ah=>ah.elim .inl fun h9=>(hn k h9).imp (fun h9=>(mC k h9).1) fun h9=>h9);have hmd: ∀k,(⟨x.tb,x.mb,m',gT x.s r⟩:fU).fp k→own k≠0∨made wa w' k:=fun k ah=>by
   have cK:=(df.Fk (x:=⟨x.tb,x.mb,m',gT x.s r⟩) hT k ah).2;rcases ah with h9|h9|h9
   ·exact .inl (lF k (.inl h9))
   ·exact .inl (lF k (.inr (.inl h9)))
   ·exact(RG k h9).imp (fun h9=>lF k (.inr (.inr h9))) fun h9=>⟨h9,cK⟩
  have lQ:=h.lG.map.nodup;have ht:=h.lG.step (x':=⟨x.tb,x.mb,m',gT x.s r⟩) (F':=gU dy 5) hg rfl c hX5 hT ju hn (fun k ah=>q1 k (.inl ah)) fun k ah=>q1 k (.inr ah);refine .inr ⟨dy,⟨x.tb,x.mb,m',gT x.s r⟩,oE,fun k=>(fZ x.m k∨wa.heap.size≤k)∧k<w'.heap.size,rfl,fun k ah=>?_,rfl,
   ⟨h.row.mv (q2 1 (by decide) (by decide)),h.nT.mv (q2 2 (by decide) (by decide)),h.nu.mv (q2 3 (by decide) (by decide)),h.mQ.mv (q2 4 (by decide) (by decide)),ht,h.tg.mv (q2 6 (by decide) (by decide))⟩,
   i.feed lQ hg (ml.feed lB jr fB rG rfl) zQ,mg.mv fun k ah hl=>⟨⟨ah,hl⟩,rfl⟩,fun k ah=>⟨?_,?_⟩,acT ml lB,lB,rfl,rG⟩
  ·rcases q3 k ah with h9|h9|h9
   ·exact .inl h9
   ·exact .inl (cC (p:=5) (by decide) k h9)
   ·exact hmd k h9
  ·rcases dA (dy k)with h0|h0
   ·exact .inl h0
   by_cases h5:dy k=5
   ·exact .inr h5
   have h6:=q4 (dy k) k h5 zQ rfl;exfalso;rcases ah.1 with h9|h9
   ·have:own k=5:=(mC k (.inr (.inr h9))).1;omega
   ·have:=(hF k (show own k≠0 by omega)).2;have:=hk.size;omega
  ·rcases ah.1 with h9|h9
   ·exact .inl (lF k (.inr (.inr h9)))
   ·exact .inr ⟨h9,ah.2⟩
theorem KN {w:World} {X:XS} {own:Nat→Nat} {nb:Nat} {st:dY} {r:Int} {s:aK} (h:cy w own nb st) (hF:FX (all own) X w) (hX: ∀k,X k→k<w.heap.size):
  Ct pg 81 #[ptr st.mb 0,I r,s.v] w X (all own) fun _ _ w'=>cy w' own nb { st with fs:=zh r s st.fs } :=by
 have h2:=eL.two h.nT.m;have RF: ∀k,all own k→X k:=fun k hk=>(hF k hk).1;have RH: ∀k,gU own 2 k→all own k:=cC (by decide);intro wa hk;refine(LJ (r:=r) (s:=s) h.nT.m.tight (fun k ah=>hF k (RH k (h2 k ah))) wa hk).mono ?_;rintro e w' ⟨v,rfl,ry,_,hm⟩;have c:=ef.Qv hX hk ry;have v1:=Di (p:=2) c RF h2;exact⟨v,rfl,ry.mono fun k ah=>RH k (h2 k ah),h.row.mv (v1 1 (by decide) (by decide)),h.nT.reM (fun k ah=>RF k (RH k ah)) c hm,h.nu.mv (v1 3 (by decide) (by decide)),h.mQ.mv (v1 4 (by decide) (by decide)),h.lG.mv (v1 5 (by decide) (by decide)),h.tg.mv (v1 6 (by decide) (by decide))⟩
theorem fq.adv {b:Nat} {s:dY} {r:Int} {t:aK} (h:fq b s) (hn:(s.fs.map (·.1)).Nodup):fq b { s with fs:=zh r t s.fs } :=by
 unfold zh;cases hg:getM r s.fs with
 |none=>exact h
 |some a=>
  cases hm:t.may
  ·exact h
  ·have gR:=kE hg;refine { h with gF:=fun y hy=>?_,Ej:=?_,RA:=fun y hy=>?_,keys:=fun q=>?_ }
   ·rcases fc hn hy with rfl|⟨hy,_⟩
    ·exact h.gF (r,a) gR
    ·exact h.gF y hy
   ·have e:=O3 r (a.later t) s.fs;rw [hg,oU,if_pos rfl] at e;have e:=congrArg List.length e;simp only [ay] at e;have:=h.Ej
    show(bM r (a.later t) s.fs).length≤b
    omega
   ·rcases fc hn hy with rfl|⟨hy,_⟩
    ·exact BU (h.RA (r,a) gR) hm
    ·exact h.RA y hy
   ·have hk:=h.keys q
    show _=(getM q (bM r (a.later t) s.fs)).isSome
    by_cases hq:q=r
    ·subst hq;rw [hg] at hk;rw [lC];exact hk
    ·rw [lY hq];exact hk
theorem PK {w:World} {X:XS} {own:Nat→Nat} {nb b:Nat} {st:dY} (h:cy w own nb st) (i:fq b st) (hb:b≤2^21) (bW:st.fs≠[]) (hF:FX (all own) X w) (hX: ∀k,X k→k<w.heap.size):
  Ct pg 83 #[ptr st.mb 0] w X (all own) fun v wa w'=> ∃dy j5 es n,Gr own dy wa w'∧cy w' dy nb { st with hl:=st.hl.drop n,hv:=j5,high:=vW st.high es } ∧
   dN w' (made wa w') wa.heap.size v es∧(∀k,sG v es k→dy k=0)∧Wo st.hl ((vR st.fs).getD .zero) es n:=by
 have RF: ∀k,all own k→X k:=fun k hk=>(hF k hk).1;have RH: ∀k,gU own 2 k→all own k:=cC (by decide);have MZ: ∀l:List FV,(∀x∈l,x.2.writes.length≤2^18)→(l.map fun x=>x.2.writes.length).sum≤l.length*2^18:=fun l=>by
  induction l with
  |nil=>intro _;simp
  |cons x l ih=>
   intro hx;have h1:=hx x (di);have h2:=ih fun y hy=>hx y (bG _ hy);simp only [List.map_cons,List.sum_cons,bP];omega
 have hs:=MZ st.hl i.fB;have hl:=i.len;have hf:=i.Ej;intro wa hk;refine(Rv h.nT (fun k ah=>hF k (RH k ah)) i.gF zQ bW zQ zQ wa hk).mono ?_;rintro e w' ⟨v,rfl,ry,F',j5,es,n,tP,hM,hE,hEF,hU⟩;have c:=ef.Qv hX hk ry;obtain⟨dy,q1,q2,q3,q4⟩:=Aw (own:=own) (p:=2) (F':=F') (by decide) c RF (fun k ah=>ah) fun k ah=>(tP k ah).imp (fun h9=>h9) fun h9=>af hk.size h9.1;refine⟨v,rfl,ry.mono RH,dy,j5,es,n,fun k ah=>?_,⟨h.row.mv (q2 1 (by decide) (by decide)),hM.mv (Mv.sub q1),h.nu.mv (q2 3 (by decide) (by decide)),h.mQ.mv (q2 4 (by decide) (by decide)),h.lG.mv (q2 5 (by decide) (by decide)),h.tg.mv (q2 6 (by decide) (by decide))⟩,hE,fun k ah=>?_,hU⟩
 ·rcases q3 k ah with h9|h9
  ·exact .inl h9
  ·exact(tP k h9).imp (RH k) id
 ·rcases dA (dy k)with h0|h0
  ·exact h0
  exfalso;have dU:wa.heap.size≤k:=by
   rcases ah with h9|⟨x,hx,h9⟩
   ·exact(hE.own.ge h9).1
   ·exact((hE.ws x hx).ge h9).1
  rcases q3 k zQ with h9|h9
  ·have:=(hF k h9).2;have:=hk.size;omega
  ·exact hEF k ah h9
structure ach (st:dY) (es:List Ev) (n:Nat):Prop where
 up:(es.map Ev.e).Pairwise fun a b=>a.aw.cmp b.aw<0
 lo: ∀e∈es.map Ev.e,st.high.cmp e.aw<0∧e.writes≠[]
 held:qQ ((st.hl.drop n).map (·.2)) (vW st.high es)
 last:vW st.high es=kB st.high (es.map Ev.e)
 len:es.length+(st.hl.drop n).length≤st.hl.length
 sz: ∀x∈es,x.writes.length≤2^40
theorem fq.outs {b:Nat} {st:dY} {s:aK} {es:List Ev} {n:Nat} (h:fq b st) (hb:b≤2^21) (hU:Wo st.hl s es n):ach st es n:=by
 obtain⟨u1,u2,u3,u4,u5⟩:=hU;have ho:=h.held.out (n:=n) (s:=s) (by simpa using u1) (fun x hx=>by
  rw [←pf] at hx;obtain⟨y,hy,rfl⟩:=List.mem_map.1 hx;exact u2 y hy) (fun x hx=>by
  rw [dQ] at hx;obtain⟨y,hy,rfl⟩:=Option.map_eq_some_iff.1 hx;exact u3 y hy)
 rw [←pf,←List.map_drop] at ho;obtain⟨o1,o2,o3⟩:=ho;generalize hg:mO ((st.hl.take n).map (·.2))=g at u4 u5 o1 o2 o3;have Wx: ∀(i:Nat) x,es[i]? =some x→ ∃e,g[i]? =some e∧x.bU=e.bU∧x.aw=e.aw∧x.writes.Perm e.writes:=fun i x hx=>by
  have hi:=(List.getElem?_eq_some_iff.1 hx).1;exact⟨g[i]'zQ,bT zQ,u5 i _ x (bT zQ) hx⟩
 have fV:(es.map Ev.e).map (·.aw)=g.map (·.aw):=by
  refine List.ext_getElem? fun i=>?_;rw [dQ,dQ,dQ];cases hx:es[i]? with
  |none=>rw [List.getElem?_eq_none (by have:=List.getElem?_eq_none_iff.1 hx;omega)];rfl
  |some x=>
   obtain⟨e,he,_,h2,_⟩:=Wx i x hx;rw [he];simp [Ev.e,h2]
 have Im:vW st.high es=kB st.high g:=by
  unfold vW kB;have h1:=congrArg List.getLast? fV;simp only [pF] at h1;cases he:es.getLast? with
  |none=>rw [he] at h1;cases fv:g.getLast? with
   |none=>rfl
   |some e=>rw [fv] at h1;simp at h1
  |some x=>rw [he] at h1;cases fv:g.getLast? with
   |none=>rw [fv] at h1;simp at h1
   |some e=>rw [fv] at h1;simpa [Ev.e] using h1
 have hlS:kB st.high (es.map Ev.e)=kB st.high g:=by
  unfold kB;have h1:=congrArg List.getLast? fV;simp only [pF] at h1;rw [pF];cases he:es.getLast? with
  |none=>rw [he] at h1;cases fv:g.getLast? with
   |none=>rfl
   |some e=>rw [fv] at h1;simp at h1
  |some x=>rw [he] at h1;cases fv:g.getLast? with
   |none=>rw [fv] at h1;simp at h1
   |some e=>rw [fv] at h1;simpa [Ev.e] using h1
 refine⟨?_,fun e he=>?_,by rw [Im];exact o3,by rw [Im,hlS],?_,fun x hx=>?_⟩
 ·have h1:(g.map (·.aw)).Pairwise fun a b=>a.cmp b<0:=List.pairwise_map.2 o1;rw [←fV] at h1;exact List.pairwise_map.1 h1
 ·obtain⟨x,hx,rfl⟩:=List.mem_map.1 he;obtain⟨i,hi⟩:=List.mem_iff_getElem?.1 hx;obtain⟨e,h1,_,h2,h3⟩:=Wx i x hi;have h4:=o2 e (aA h1);refine⟨by show st.high.cmp x.aw<0;rw [h2];exact h4.1,fun h0=>h4.2 ?_⟩;have h0:x.writes=[]:=h0;have:=h3.length_eq;rw [h0] at this;exact List.length_eq_zero_iff.1 this.symm
 ·have h1:=(ux ((st.hl.take n).map (·.2)) []).2;have h2:g=((st.hl.take n).map (·.2)).foldl nZ []:=hg.symm;rw [←h2] at h1;simp only [List.length_nil,ay,aW,Nat.zero_add] at h1;rw [dM];omega
 ·obtain⟨i,hi⟩:=List.mem_iff_getElem?.1 hx;obtain⟨e,h1,_,_,h3⟩:=Wx i x hi;have h4:=(ux ((st.hl.take n).map (·.2)) []).1;have h2:g=((st.hl.take n).map (·.2)).foldl nZ []:=hg.symm;rw [←h2] at h4;have h5:=Il (g:=fun e:qy=>e.writes.length) (aA h1);have h6:=Ee (g:=fun x:FV=>x.2.writes.length) st.hl n;have MZ: ∀l:List FV,(∀x∈l,x.2.writes.length≤2^18)→(l.map fun x=>x.2.writes.length).sum≤l.length*2^18:=fun l=>by
   induction l with
   |nil=>intro _;simp
   |cons x l ih=>
    intro hx;have h1:=hx x (di);have h2:=ih fun y hy=>hx y (bG _ hy);simp only [List.map_cons,List.sum_cons,bP];omega
  have h7:=MZ st.hl h.fB;have h8:=h.len;simp only [List.map_map,Function.comp_def,List.map_nil,List.sum_nil,Nat.zero_add] at h4;rw [h3.length_eq];omega
def lr (st:dY) (r:Int):Int:=((getM r st.bZ).map (·.s.next)).getD 0
structure Kept (s s':dY):Prop where
 bp:s'.bp=s.bp
 told:s'.told=s.told
 tl:s'.tl=s.tl
 db:s'.db=s.db
theorem Kept.trans {a b c:dY} (h:Kept a b) (k:Kept b c):Kept a c:=⟨k.bp.trans h.bp,k.told.trans h.told,k.tl.trans h.tl,k.db.trans h.db⟩
def M6 (r:Rec):Nat:=r.state.eA.length+2
def iT (l:List Rec):Nat:=(l.map M6).sum
theorem dN.push {w w':World} {X X':XS} {lo Za:Nat} {v v':Value} {q:List Ev} {x:Ev} (h:dN w X lo v q) (c:ef (dK v) X w X' w') (ho:Own w' X' lo 69 7 v' (q.map Ev.l++[x.l]))
  (hx:Own w X Za 118 4 x.ko (x.writes.map KV.l)) (hl:lo≤Za) (ha: ∀y∈q,∀g,y.ko.ownBlock=some g→x.ko.ownBlock≠some g):dN w' X' lo v' (q++[x]):=by
 refine⟨by rw [bo];exact ho,fun y hy=>?_,?_⟩
 ·rcases List.mem_append.1 hy with hy|hy
  ·exact(h.ws y hy).dF c fun g hg hb=>jA (h.ws y hy) h.own (by decide) hg hb
  ·rw [List.mem_singleton.1 hy];exact(hx.dF c fun g hg hb=>jA hx h.own (by decide) hg hb).low hl
 ·rw [List.pairwise_append];refine⟨h.ap,by simp,fun y hy z hz=>?_⟩;rw [List.mem_singleton.1 hz];exact ha y hy
theorem dN.tight {w:World} {X:XS} {lo:Nat} {v:Value} {es:List Ev} (h:dN w X lo v es):dN w (sG v es) lo v es:=
 ⟨⟨h.own.1,h.own.2.1,fun g hg=>.inl hg⟩,fun x hx=>⟨(h.ws x hx).1,(h.ws x hx).2.1,fun g hg=>.inr ⟨x,hx,hg⟩⟩,h.ap⟩
theorem dN.sub {w:World} {X:XS} {lo:Nat} {v:Value} {es:List Ev} (h:dN w X lo v es): ∀k,sG v es k→X k∧k<w.heap.size:=fun k hk=>by
 rcases hk with hk|⟨x,hx,hk⟩
 ·exact⟨h.own.2.2 k hk,(h.own.ge hk).2⟩
 ·exact⟨(h.ws x hx).2.2 k hk,((h.ws x hx).ge hk).2⟩
abbrev PL:=List (Int×iv×lZ)×List (Int×aK)×List fG
def iA (l:List (Int×fU)):List (Int×iv×lZ):=l.map fun x=>(x.1,x.2.s,cont x.2.m)
def iO (s:dY):PL:=(iA s.bZ,s.fs,s.holds)
theorem nA (k:Int) (l:List (Int×fU)):getM k (iA l)=(getM k l).map fun x=>(x.s,cont x.m):=RI (fun x:fU=>(x.s,cont x.m)) k l
theorem El (k:Int) (x:fU) (l:List (Int×fU)):iA (bM k x l)=bM k (x.s,cont x.m) (iA l):=Em (fun x:fU=>(x.s,cont x.m)) k x l
def Ax (bp:aK) (r:Int) (p:PL) (rec:Rec):Option PL:=
 match getM r p.1 with
 |none=>none
 |some y=>if aaT y.1 y.2 y.1.next rec≠0 then none
  else if(ei y.1 rec y.2).kind=1 then some (bM r (gT y.1 rec,lN y.1.next rec y.2) p.1,p.2.1,vY bp p.2.2 ⟨(ei y.1 rec y.2).gF,(ei y.1 rec y.2).fY,(ei y.1 rec y.2).bU,(ei y.1 rec y.2).aw,(ei y.1 rec y.2).writes⟩)
  else if(ei y.1 rec y.2).kind=2∧getM (ei y.1 rec y.2).child (bM r (gT y.1 rec,lN y.1.next rec y.2) p.1)=none then
   some (bM (ei y.1 rec y.2).child (⟨(ei y.1 rec y.2).child,1,.zero⟩,[]) (bM r (gT y.1 rec,lN y.1.next rec y.2) p.1),bM (ei y.1 rec y.2).child (ei y.1 rec y.2).st p.2.1,p.2.2)
  else some (bM r (gT y.1 rec,lN y.1.next rec y.2) p.1,p.2)
def lD (bp:aK) (r:Int):List Rec→PL→PL
 |[],p=>p
 |rec::l,p=>match Ax bp r p rec with
  |none=>p
  |some q=>lD bp r l q
def sh (bp:aK) (m:gW) (p:PL):PL:=
 match getM m.range p.1 with
 |none=>p
 |some y=>if m.n≠y.1.next then p else
  match getM m.range (lD bp m.range m.ed p).1 with
  |none=>lD bp m.range m.ed p
  |some z=>((lD bp m.range m.ed p).1,zh m.range (Cz z.1.closed z.2) (lD bp m.range m.ed p).2.1,(lD bp m.range m.ed p).2.2)
theorem dN.Eg {w w':World} {X X' G:XS} {lo:Nat} {v:Value} {es:List Ev} (h:dN w X lo v es) (c:ef G X w X' w') (hG: ∀k,sG v es k→ ¬G k):dN w' X' lo v es:=
 ⟨h.own.dF c fun g hg=>hG g (.inl hg),fun x hx=>(h.ws x hx).dF c fun g hg=>hG g (.inr ⟨x,hx,hg⟩),h.ap⟩
theorem fq.agX {b:Nat} {st:dY} {es:List Ev} {n:Nat} {j5 qv':Value} (h:fq b st) (o:ach st es n):
  fq b { st with hl:=st.hl.drop n,hv:=j5,high:=vW st.high es,q:=st.q++es.filter (fun x=>gh st.bp x.aw),qv:=qv' } :=by
 have hf:(es.filter fun x=>gh st.bp x.aw).length≤es.length:=eH _ _;refine { h with held:=o.held,len:=?_,fB:=fun x hx=>h.fB x (eh hx),nu:=?_,Vr:=fun x hx=>?_ }
 ·have:=h.len;have:=o.len;simp only [ae];omega
 ·have:=h.nu.app o.up o.lo;rw [←o.last] at this;rw [bo,show(es.filter fun x=>gh st.bp x.aw).map Ev.e=(es.map Ev.e).filter fun e=>gh st.bp e.aw by rw [xI];rfl];exact this
 ·rcases List.mem_append.1 hx with hx|hx
  ·exact h.Vr x hx
  ·exact o.sz x (List.mem_filter.1 hx).1
theorem RJ {w:World} {X S:XS} {own:Nat→Nat} {nb b:Nat} {st:dY} {m:gW} {vk vs vw vp vr vc vh vd:Value} (h:cy w own nb st) (i:fq b st) (hF:FX (all own) X w)
  (hm:m.at w S vk vs vw vp vr vc vh vd) (hS: ∀k,S k→X k∧own k=0) (jr: ∀r∈m.ed,r.small∧r.sz) (hb:b+iT m.ed≤2^21):
  Ct pg 30 #[ptr nb 0,m.v vk vs vw vp vr vc vh vd] w X (all own) fun v wa w'=>v= .tuple #[]∧ ∃dy ka,Gr own dy wa w'∧cy w' dy nb ka∧fq (b+iT m.ed) ka∧Kept st ka∧(m.n≠lr st m.range→ka=st)∧iO ka=sh st.bp m (iO st):=by
 intro w0 hk;have hT:=hF.ft hk;replace h:=h.kp hk fun k ah=>(hF k ah).1;obtain⟨S0,L3⟩: ∃S0:XS,∀k,S0 k↔(k<w0.heap.size∧own k=0):=⟨_,fun _=>Iff.rfl⟩;have AY:m.at w0 S0 vk vs vw vp vr vc vh vd:=hm.mv fun k ah jC=>⟨(L3 k).2 ⟨aI jC hk.size,(hS k ah).2⟩,hk.block k (hS k ah).1⟩;have bE:=h.row.mv (Mv.sub fun k ah=>hT.bg k (cC (p:=1) (by decide) k ah));have oq:=h.nu.own.sl.one;have oo:=h.mQ.sl.one;have om:=h.tg.one;have Zb: ∀(k:Nat) r,m.ed[k]? =some r→iT (m.ed.take (k+1))=iT (m.ed.take k)+M6 r:=fun k r hr=>by rw [bc,hr];simp [iT]
 have ad8: ∀k,iT (m.ed.take k)≤iT m.ed:=fun k=>Ee m.ed k;have L4:sh st.bp m (iO st)=iO st→ ∀{wz:World} {Xz:XS},Ft w0 (all own) wz Xz (all own)→cy wz own nb st→ ∀wa,Kp Xz wz wa→Value.tuple #[]= .tuple #[]∧ ∃dy ka,Gr own dy w0 wa∧cy wa dy nb ka∧fq (b+iT m.ed) ka∧Kept st ka∧(m.n≠lr st m.range→ka=st)∧iO ka=sh st.bp m (iO st):=
  fun hB {_ _} hT h wa bC=>⟨rfl,own,st,Gr.refl _ _ _,h.kp bC hT.bg,i.up zQ,⟨rfl,rfl,rfl,rfl⟩,fun _=>rfl,hB.symm⟩
 apply GU;unfold yS;have hs:=ak.init w0;repeat' first|refine aD ?_;intros
 refine mP (kt:=3) (et:=111) (.pointer none) (h.lG.mv (Mv.sub fun k ah=>hT.bg k (cC (p:=5) (by decide) k ah))).map iJ kQ kQ (fun v x hg hv=>?_) (fun hg=>?_)
 rotate_left
 ·repeat' first|refine aD ?_;intros|with_reducible apply dG
  exact hT.fin fun wa bC=>L4 (by unfold sh iO;rw [nA,hg];rfl) hT h wa bC
 have hv:v=ptr x.tb 0:=hv;subst hv;have oZ:=h.lG.tl _ (kE hg);repeat' first|refine aD ?_;intros|with_reducible apply dG
 refine dC (yt (oZ.1.wide fun k ah=>hT.bg k (cC (p:=5) (by decide) k ah)) hT.s.has) kQ hT.s.has fun w1 X1 aq=>?_;have de:=hT.since aq;have h1:=h.since aq hT.bg;clear hs;have hs:=de.s;by_cases nk:x.s.next=m.n
 rotate_left
 ·repeat' first|refine bO ?_;intros
  exact de.fin fun wa bC=>L4 (by unfold sh iO;rw [nA,hg];exact if_pos (Ne.symm nk)) de h1 wa bC
 repeat' first|refine bO ?_;intros
 have RK: ∀{wz:World} {Xz Fz:XS},Ft w0 (all own) wz Xz Fz→Mv S0 w0 Xz wz:=fun hT k ah _=>by
  have ah:=(L3 k).1 ah;exact⟨hT.s.sub k ⟨ah.1,fun e=>e ah.2⟩,hT.s.kp.block k ⟨ah.1,fun e=>e ah.2⟩⟩
 have hmS: ∀{wz:World} {Xz Fz:XS},Ft w0 (all own) wz Xz Fz→Mv S0 w0 S0 wz∧ak S0 wz Xz wz:=fun hT=>⟨fun k ah hl=>⟨ah,(RK hT k ah hl).2⟩,⟨Kp.refl _ _,fun k ah=>(RK hT k ah ((L3 k).1 ah).1).1,hT.s.has⟩⟩;have xE:=gO.mv AY.ed Rec.mv (RK de);have Ro:=xE.len;repeat' first|refine aD ?_;intros
 have Zc:getM m.range (iO st).1=some (x.s,cont x.m):=by unfold iO;rw [nA,hg];rfl
 have agY:m.n≠lr st m.range→False:=fun bW=>bW (by unfold lr;rw [hg];exact nk.symm);refine iu (fun (k:World→XS→Prop)=> ∀w X l7 st1 x1,Ft w0 (all own) w X (all l7)→cy w l7 nb st1→fq (b+iT m.ed) st1→getM m.range st1.bZ=some x1→x1.tb=x.tb→Kept st st1→iO st1=lD st.bp m.range m.ed (iO st)→k w X) ?_ ?_
 ·intro w X l7 st1 x1 hT h i hg O4 l8 xB;clear hs xE de h1;rw [←O4];have hs:=hT.s;have bE:=h.row.mv (Mv.sub fun k ah=>hT.bg k (cC (p:=1) (by decide) k ah));have oZ:=(h.lG.tl _ (kE hg)).1;have Zd:st1.fs≠[]:=fun e=>by
   have h9:=i.keys m.range;rw [hg,e] at h9;simp [getM] at h9
  have aaP:=h.nT.m.m.nodup;repeat' first|refine aD ?_;intros
  refine dC (BX (oZ.wide fun k ah=>hT.bg k (cC (p:=5) (by decide) k ah)) hT.s.has) kQ hT.s.has fun w2 X2 dI=>?_;have b8:=hT.since dI;have h2:=h.since dI hT.bg;clear hs;have hs:=b8.s
  skip
  refine b8.call (KN (r:=m.range) (s:=vZ x1.s.closed x1.m) h2 (b8.fx fun k ah=>ah) b8.s.has) kQ (fun k ah=>ah) ?_;intro _ AU w3 X3 h3 x6 tv dz c3;replace dz:Ft w0 (all own) w3 X3 (all l7):=dz.less fun k ah=>.inl ah;have i3:=i.adv (r:=m.range) (t:=vZ x1.s.closed x1.m) aaP;obtain⟨mm,CA⟩: ∃mm,mm= { st1 with fs:=zh m.range (vZ x1.s.closed x1.m) st1.fs } :=⟨_,rfl⟩;have OW:st1.mb=mm.mb:=by rw [CA]
  have CB:Kept st mm:=by rw [CA];exact⟨l8.bp,l8.told,l8.tl,l8.db⟩
  have agZ:mm.fs≠[]:=fun e=>by
   have h9:=i3.keys m.range;rw [←CA,e] at h9;rw [CA] at h9;have fR:(getM m.range st1.bZ).isSome=(getM m.range ([]:List (Int×aK))).isSome:=h9;rw [hg] at fR;simp [getM] at fR
  have ad9:(iA mm.bZ,mm.fs,mm.holds)=sh st.bp m (iO st):=by
   unfold sh;rw [show getM m.range (iO st).1=some (x.s,cont x.m)from Zc];simp only [nk,ne_eq,not_true_eq_false,if_false];rw [←xB,show getM m.range (iO st1).1=some (x1.s,cont x1.m)by unfold iO;rw [nA,hg];rfl,CA];simp only [←L5];rfl
  rw [←CA] at h3 i3;clear hs bE;have hs:=dz.s;have bE:=h3.row.mv (Mv.sub fun k ah=>dz.bg k (cC (p:=1) (by decide) k ah));repeat' first|refine aD ?_;intros
  refine dz.call (PK h3 i3 zQ agZ (dz.fx fun k ah=>ah) dz.s.has) kQ (fun k ah=>ah) ?_;rintro v4 JI w4 X4 ⟨aea,hv4,es,n,ag0,h4,Vk,hE0,hU⟩ En CC eY c4;have hO:=i3.outs zQ hU;replace eY:Ft w0 (all own) w4 X4 (all aea):=eY.less ag0;have aaU:dN w4 X4 JI.heap.size v4 es:=Vk.mv (Mv.sub CC);have ait:=i3.len;have eo:=hO.len;have ag1:w0.heap.size≤JI.heap.size:=af dz.s.kp.size En;clear hs bE;have hs:=eY.s;have ag2:=aaU.own.sl;repeat' first|refine aD ?_;intros
  refine eG (fun n' a w X=> ∃(j:Nat) (si:Nat→Nat) (v5:Value),a=I j∧n'=es.length-j∧j≤es.length∧Ft w0 (all own) w X (all si)∧
   cy w si nb { mm with hl:=mm.hl.drop n,hv:=hv4,high:=vW mm.high es,q:=mm.q++(es.take j).filter (fun x=>gh mm.bp x.aw),qv:=v5 } ∧dN w X JI.heap.size v4 es∧
   (∀(t:Nat) x k,j≤t→es[t]? =some x→x.ko.ownBlock=some k→si k=0)∧(∀k,v4.ownBlock=some k→si k=0)) es.length
   ⟨0,aea,mm.qv,rfl,rfl,aN _,eY,by simpa using h4,aaU,fun t x k _ hx ah=>hE0 k (.inr ⟨x,aA hx,ah⟩),fun k ah=>hE0 k (.inl ah)⟩ ?_
  clear hs ag2 aaU eY h4 hE0;rintro n' a w5 X5 ⟨j,si,v5,rfl,rfl,hj,fQ,h5,Vm,hz5,hv5⟩;have hs:=fQ.s;have ag3:=Vm.own.sl;have sI:=h5.row.mv (Mv.sub fun k ah=>fQ.bg k (cC (p:=1) (by decide) k ah));rcases eb es j with⟨cK,x,hx,hd⟩|⟨dU,hd⟩
  rotate_left
  ·repeat' first|refine bO ?_;intros
   have i5:=i3.agX (j5:=hv4) (qv':=v5) hO;rw [aY dU] at h5;exact fQ.fin fun wa bC=>⟨rfl,si,_,fQ.nV bC fun k ah=>ah,h5.kp bC fQ.bg,i5,⟨CB.bp,CB.told,CB.tl,CB.db⟩,fun bW=>(agY bW).elim,ad9⟩
  have ox:=(Vm.ws x (aA hx)).sl.one;have iE:es.take (j+1)=es.take j++[x]:=by rw [bc,hx];rfl
  repeat' first|refine bO ?_;intros
  refine dG ?_;repeat' first|refine aD ?_;intros
  refine dC (Ah (s:=x.aw) sI) kQ fQ.s.has fun w6 X6 sj=>?_;have iC:=fQ.since sj;have h6:=h5.since sj fQ.bg;have hE6:=Vm.mv sj.mv;have Ai:=sI.mv sj.mv;clear hs sI ag3 fQ h5 Vm;have hs:=iC.s;cases hn:gh mm.bp x.aw
  ·repeat' first|refine aD ?_;intros
   exact ep (es.length-(j+1)) zQ ⟨j+1,si,v5,by simp,rfl,by omega,iC,by rw [iE,ea];simpa [hn] using h6,hE6,fun t y k ht hy ah=>hz5 t y k zQ hy ah,hv5⟩
  repeat' first|refine aD ?_;intros|(with_reducible apply vO);(case hX=>exact hs.has);(case he=>kernel_rfl);(case hk=>rfl);intro acc w X aq ho;obtain⟨_,_,_,rfl⟩:=ho.sl.form;replace hs:=hs.trans aq
  have ny:=iC.since aq;have h7:=h6.since aq iC.bg;have L6:=hE6.mv aq.mv;have Ip:=Ai.mv aq.mv;clear Ai iC h6 hE6 hs;have Wy:dN w X 0 v5 (mm.q++(es.take j).filter (fun x=>gh mm.bp x.aw)):=h7.nu.mv (Mv.sub fun k ah=>ny.bg k (cC (p:=3) (by decide) k ah));have hql:(mm.q++(es.take j).filter (fun x=>gh mm.bp x.aw)).length≤mm.q.length+es.length:=by
   have h9:=eH (fun x:Ev=>gh mm.bp x.aw) (es.take j);rw [aW] at h9;rw [ae];omega
  generalize hqq:mm.q++(es.take j).filter (fun x=>gh mm.bp x.aw)=qq at Wy h7 hql Ip;refine qG (dq:=[x.l]) Wy.own ny.s.has (aN _) kQ ho.sl (fun r hr u hu=>by rw [List.mem_singleton.1 hr] at hu;simp only [js,gn,or_false] at hu;rcases hu with rfl|rfl|rfl|rfl|rfl|rfl|rfl<;>first|rfl|exact ox) (by simp only [ay,bD];omega) (by simp only [ay,bD];omega) fun v8 w8 X8 c8 Vu ag4=>?_
  have Vv: ∀k,sG v5 qq k→si k=3:=fun k ah=>(h7.nu.sub k ah).1;have hx7:=L6.ws x (aA hx);have hxz: ∀k,x.ko.ownBlock=some k→si k=0:=fun k ah=>hz5 j x k (bK _) hx ah;have hE8:=Wy.push c8 Vu hx7 (aN _) fun y hy g hg gl=>by
   have h9:=Vv g (.inr ⟨y,hy,hg⟩);have:=hxz g gl;omega
  have hbv: ∀k,dK v5 k→si k=3:=fun k ah=>Vv k (.inl ah);have Vw: ∀k,sG v8 (qq++[x]) k→si k=3∨x.ko.ownBlock=some k∨(w.heap.size≤k∧v8.ownBlock=some k):=fun k ah=>by
   rcases ah with ah|⟨y,hy,ah⟩
   ·rcases ag4 with h9|⟨g,h9,fR⟩
    ·exact .inl (hbv k (show v5.ownBlock=some k by rw [←h9];exact ah))
    ·have uY:=ah;rw [h9] at uY;cases uY;exact .inr (.inr ⟨fR,ah⟩)
   ·rcases List.mem_append.1 hy with hy|hy
    ·exact .inl (Vv k (.inr ⟨y,hy,ah⟩))
    ·rw [List.mem_singleton.1 hy] at ah;exact .inr (.inl ah)
  obtain⟨x7,q1,q2,q3,q4,q5⟩:=KJ (own:=si) (p:=3) (F':=sG v8 (qq++[x])) (by decide) c8 ny.bg hbv fun k ah=>(Vw k ah).imp id fun h9=>h9.imp (hxz k) fun h9=>h9.1;have pW:Ft w0 (all own) w8 X8 (all x7):=(ny.dF c8 (F':=all si) (fun k ah=>cC (p:=3) (by decide) k (hbv k ah)) fun k ah=>.inl ah).more fun k ah=>by
   rcases q3 k ah with h9|h9
   ·exact .inl h9
   ·rcases Vw k h9 with fR|fR|fR
    ·exact .inl (cC (p:=3) (by decide) k fR)
    ·exact .inr ⟨(hE8.sub k h9).1,af ag1 (hx7.ge fR).1⟩
    ·exact .inr ⟨(hE8.sub k h9).1,af ny.s.kp.size fR.1⟩
  have hnq: ∀k,sG v4 es k→ ¬dK v5 k:=fun k ah hb=>by
   rcases ah with ah|⟨y,hy,ah⟩
   ·have:=hv5 k ah;have:=hbv k hb;omega
   ·exact jA (L6.ws y hy) Wy.own (by decide) ah hb
  have Ze:=L6.Eg c8 hnq;have aaV:=h7.row.mv (q2 1 (by decide) (by decide));have Qw:=aaV.mv (Mv.sub fun k ah=>pW.bg k (cC (p:=1) (by decide) k ah));clear Ip;have hs:=pW.s;repeat' first|refine aD ?_;intros
  refine Af (o:=11) Qw zQ kQ (by simp) Vu.sl.one pW.s.has fun w9 X9 c9 hr9=>?_;have h9:cy w9 x7 nb { mm with hl:=mm.hl.drop n,hv:=hv4,high:=vW mm.high es,q:=qq++[x],qv:=v8 } :=
   cy.put aaV.1 pW.bg c9 hr9 (h7.nT.mv (q2 2 (by decide) (by decide))) (hE8.tight.mv (Mv.sub q1)) (h7.mQ.mv (q2 4 (by decide) (by decide))) (h7.lG.mv (q2 5 (by decide) (by decide))) (h7.tg.mv (q2 6 (by decide) (by decide)))
  have th:Ft w0 (all own) w9 X9 (all x7):=pW.dF c9 (fun k ah=>by subst ah;exact cC (p:=1) (by decide) _ aaV.1) fun k ah=>.inl ah;have hEa:=Ze.Eg c9 fun k ah e=>by
   have e:k=nb:=e;rw [e] at ah;rcases ah with ah|⟨y,hy,ah⟩
   ·exact Ze.own.ow.gd Qw kQ ah
   ·exact(Ze.ws y hy).ow.gd Qw kQ ah
  clear hs Qw hr9;have hs:=th.s;repeat' first|refine aD ?_;intros
  refine ep (es.length-(j+1)) zQ ⟨j+1,x7,v8,by simp,rfl,by omega,th,by rw [iE,ea,←List.append_assoc,hqq];simpa [hn] using h9,hEa,fun t y k ht hy ah=>?_,fun k ah=>?_⟩
  ·have h0:=hz5 t y k zQ hy ah;rcases dA (x7 k)with fR|fR
   ·exact fR
   exfalso;rcases q3 k zQ with uY|uY
   ·exact uY h0
   ·rcases Vw k uY with AZ|AZ|AZ
    ·omega
    ·obtain⟨htl,rfl⟩:=List.getElem?_eq_some_iff.1 hy;obtain⟨rv,rfl⟩:=List.getElem?_eq_some_iff.1 hx;exact List.pairwise_iff_getElem.1 L6.ap j t rv htl zQ k AZ ah
    ·have:=((L6.ws y (aA hy)).ge ah).2;omega
  ·have h0:=hv5 k ah;rcases dA (x7 k)with fR|fR
   ·exact fR
   exfalso;rcases q3 k zQ with uY|uY
   ·exact uY h0
   ·rcases Vw k uY with AZ|AZ|AZ
    ·omega
    ·exact jA hx7 L6.own (by decide) AZ ah
    ·have:=(L6.own.ge ah).2;omega
 ·intro K hK;refine eG (fun n a w X=> ∃(j:Nat) (l7:Nat→Nat) (st1:dY) (x1:fU),a=I j∧n=m.ed.length-j∧j≤m.ed.length∧Ft w0 (all own) w X (all l7)∧cy w l7 nb st1∧fq (b+iT (m.ed.take j)) st1∧
   getM m.range st1.bZ=some x1∧x1.tb=x.tb∧Kept st st1∧lD st.bp m.range m.ed (iO st)=lD st.bp m.range (m.ed.drop j) (iO st1)) m.ed.length ⟨0,own,st,x,rfl,rfl,aN _,de,h1,i.up zQ,hg,rfl,⟨rfl,rfl,rfl,rfl⟩,rfl⟩ ?_
  clear hT h de h1 hs xE;rintro n a w X ⟨j,l7,st1,x1,rfl,rfl,hj,hT,h,i1,A3,O4,l8,xB⟩;have hs:=hT.s;have xE:=gO.mv AY.ed Rec.mv (hmS hT).1;have hsS:=(hmS hT).2;rcases eb m.ed j with⟨cK,r,hx,hd⟩|⟨dU,hd⟩
  rotate_left
  ·repeat' first|refine bO ?_;intros
   exact hK _ _ l7 st1 x1 hT h (i1.up (by have:=ad8 j;omega)) A3 O4 l8 (by rw [xB,hd];rfl)
  have aeb:getM m.range (iO st1).1=some (x1.s,cont x1.m):=by unfold iO;rw [nA,A3];rfl
  rw [←O4];have ag5:=h.lG.tl _ (kE A3);have aiB:=Zb j r hx;have aiu:=ad8 (j+1);have hw5: ∀{Xz:XS},(∀k,all l7 k→Xz k)→ ∀k,gU l7 5 k→Xz k:=fun hX k ah=>hX k (cC (p:=5) (by decide) k ah);repeat' first|refine bO ?_;intros|((with_reducible apply M7);assumption;(try (case hz=>rfl));(case hr=>exact qR);(try (case hz=>omega));(case ht=>kernel_rfl);(case hs=>kernel_rfl);intros)
  rename_i vr1 vw1 vp1 vq1 vh1 vd1 _ _ _ _ _ _ RL vH;refine iu (fun (k:Value→Value→World→XS→Prop)=>(∀e w X,e≠0→jL x1.s x1.m x1.s.next r≠0→Ft w0 (all own) w X (all l7)→cy w l7 nb st1→k (ph.none.v (.slice none 0 0)) (I e) w X)∧
   ∀(t:ph) Eo (x2:fU) oE S' w X,t=ei x1.s r (cont x1.m)→jL x1.s x1.m x1.s.next r=0→x2.s=gT x1.s r→cont x2.m=lN x1.s.next r (cont x1.m)→Ft w0 (all own) w X (all Eo)→x2.tb=x1.tb→cy w Eo nb { st1 with bZ:=bM m.range x2 st1.bZ } →fq (b+iT (m.ed.take j)+r.state.eA.length+1) { st1 with bZ:=bM m.range x2 st1.bZ } →
    Sl w S' 4 oE (t.writes.map KV.l)→(∀k,S' k→X k∧(Eo k=0∨Eo k=5))→LZ t→k (t.v oE) (I 0) w X) ⟨?_,?_⟩ ?_
  ·intro e w X he bW hT h;have hs:=hT.s;repeat' first|refine bO ?_;intros
   exact hK _ _ l7 st1 x1 hT h (i1.up zQ) A3 O4 l8 (by
    rw [xB,hd];have hn:Ax st.bp m.range (iO st1) r=none:=by
     unfold Ax;rw [aeb];rw [JJ] at bW;exact if_pos bW
    unfold lD;rw [hn])
  ·intro t Eo x2 oE S' w X Vx Vy aaW aaX hT h2b h i2 mg Va Wz;have WA:Ax st.bp m.range (iO st1) r=if t.kind=1 then some (iA (bM m.range x2 st1.bZ),st1.fs,vY st.bp st1.holds ⟨t.gF,t.fY,t.bU,t.aw,t.writes⟩)
     else if t.kind=2∧getM t.child (iA (bM m.range x2 st1.bZ))=none then some (bM t.child (⟨t.child,1,.zero⟩,[]) (iA (bM m.range x2 st1.bZ)),bM t.child t.st st1.fs,st1.holds)
     else some (iA (bM m.range x2 st1.bZ),st1.fs,st1.holds):=by
    unfold Ax;rw [aeb];rw [JJ] at Vy;rw [El,aaW,aaX,Vx];simp only [Vy,ne_eq,not_true_eq_false,if_false];rfl
   clear hs hsS xE RL vH;have hs:=hT.s;have o1:=mg.one;obtain⟨q1,q2,q3,rfl⟩:=mg.form;have bE:=h.row.mv (Mv.sub fun k ah=>hT.bg k (cC (p:=1) (by decide) k ah));have Rg:getM m.range (bM m.range x2 st1.bZ)=some x2:=lC;have WB: ∀{wz:World} {Xz:XS} {Ep:Nat→Nat} {mm:dY} {x3:fU},Ft w0 (all own) wz Xz (all Ep)→cy wz Ep nb mm→fq (b+iT (m.ed.take (j+1))) mm→getM m.range mm.bZ=some x3→x3.tb=x1.tb→Kept st mm→Ax st.bp m.range (iO st1) r=some (iO mm)→
     gm (J1 fun n a w X=> ∃(j:Nat) (l7:Nat→Nat) (st1:dY) (aec:fU),a=I j∧n=m.ed.length-j∧j≤m.ed.length∧Ft w0 (all own) w X (all l7)∧cy w l7 nb st1∧fq (b+iT (m.ed.take j)) st1∧
      getM m.range st1.bZ=some aec∧aec.tb=x1.tb∧Kept st st1∧lD st.bp m.range m.ed (iO st)=lD st.bp m.range (m.ed.drop j) (iO st1)) (m.ed.length-j) (I (j+1)) wz Xz:=
    fun hT h i hg O4 l8 fV=>ep (m.ed.length-(j+1)) zQ ⟨j+1,_,_,_,by simp,rfl,by omega,hT,h,i,hg,O4,l8,by rw [xB,hd];conv=>lhs;unfold lD;rw [fV]⟩
   have aiC:M6 r=r.state.eA.length+2:=rfl;repeat' first|refine bO ?_;intros
   refine dG ?_;by_cases tS:t.kind=1
   ·repeat' first|refine bO ?_;intros
    refine hT.call (LX (S:=S') (f:=⟨t.gF,t.fY,t.bU,t.aw,t.writes⟩) h i2 zQ (hT.fx fun k ah=>ah) mg Va Wz.w) kQ (fun k ah=>ah) ?_;rintro _ AU w3 X3 ⟨rfl,Ep,ov3,Vq,hv3,RM,h3,i3⟩ x6 tv dz c3;have x8:Ft w0 (all own) w3 X3 (all Ep):=dz.less RM;clear hs;have hs:=x8.s;repeat' first|refine aD ?_;intros
    exact WB x8 h3 (i3.up zQ) Rg h2b ⟨l8.bp,l8.told,l8.tl,l8.db⟩ (by rw [WA,if_pos tS,←l8.bp];rfl)
   by_cases A4:t.kind=2
   ·repeat' first|refine bO ?_;intros
    refine mP (kt:=3) (et:=111) (.pointer none) (h.lG.mv (Mv.sub fun k ah=>hT.bg k (cC (p:=5) (by decide) k ah))).map iJ kQ kQ (fun v x hg hv=>?_) (fun hg=>?_)
    ·have hv:v=ptr x.tb 0:=hv;subst hv;repeat' first|refine aD ?_;intros
     exact WB hT h (i2.up zQ) Rg h2b ⟨l8.bp,l8.told,l8.tl,l8.db⟩ (by rw [WA,if_neg tS,if_neg (by rw [nA,hg];simp)];rfl)
    ·repeat' first|refine aD ?_;intros
     have htc:=Wz.c A4;have bW:m.range≠t.child:=fun e=>by rw [←e] at hg;exact absurd (Rg.symm.trans hg) (by simp)
     refine hT.call (JG (fY:=t.st) (id:=t.child) (next:=1) h i2 (hT.fx fun k ah=>ah) ⟨htc.1,htc.2.1⟩ zQ hg htc.2.2) kQ (fun k ah=>ah) ?_;rintro _ AU w3 X3 ⟨rfl,Ep,x3,RM,h3,i3,ag6,ag7⟩ x6 tv dz c3;have x8:Ft w0 (all own) w3 X3 (all Ep):=dz.less RM;clear hs;have hs:=x8.s;repeat' first|refine aD ?_;intros
     exact WB x8 h3 (i3.up zQ) ((lY bW).trans Rg) h2b ⟨l8.bp,l8.told,l8.tl,l8.db⟩ (by rw [WA,if_neg tS,if_pos ⟨A4,by rw [nA,hg];rfl⟩];unfold iO;rw [El t.child,ag6,ag7];rfl)
   repeat' first|refine bO ?_;intros
   exact WB hT h (i2.up zQ) Rg h2b ⟨l8.bp,l8.told,l8.tl,l8.db⟩ (by rw [WA,if_neg tS,if_neg (fun h=>A4 h.1)];rfl)
  ·intro K2 GV;have aci: ∀{wz:World} {Xz:XS} {R:Value→World→XS→Prop},Ft w0 (all own) wz Xz (all l7)→cy wz l7 nb st1→ak S0 wz Xz wz→r.at wz S0 vr1 vw1 vp1 vq1 vh1 vd1→(∀(v:Value) (w:World) (X:XS),(∃e:Int,e≠0∧v= .tuple #[ph.none.v (.slice none 0 0),I e]∧K2 (ph.none.v (.slice none 0 0)) (I e) w X)∨(∃(t:ph) (oE:Value),v= .tuple #[t.v oE,I 0]∧bu.one oE=true∧K2 (t.v oE) (I 0) w X)→R v w X)→
     eC pg (AP (all own) w0 fun v w'=>v= .tuple #[]∧ ∃dy ka,Gr own dy w0 w'∧cy w' dy nb ka∧fq (b+iT m.ed) ka∧Kept st ka∧(m.n≠lr st m.range→ka=st)∧iO ka=sh st.bp m (iO st)) Xz wz true 79 #[ptr x1.tb 0,I x1.s.next,r.v vr1 vw1 vp1 vq1 vh1 vd1] R:=by
    intro wz Xz R hT h hsS hr hR;have Zf:=jr r (aA hx);refine hT.call (RE (S:=S0) h i1 (hT.fx fun k ah=>ah) hT.s.has A3 hr (fun k ah=>⟨hsS.sub k ah,?_⟩) Zf.1 Zf.2 zQ) kQ (fun k ah=>ah) ?_
    ·have h0:=(L3 k).1 ah;rcases dA (l7 k)with h9|h9
     ·exact h9
     ·rcases hT.v k (show l7 k≠0 by omega)with fR|fR
      ·exact absurd h0.2 fR
      ·omega
    ·rintro v wa w' X' hq hle eD Vz c;refine hR v w' X' ?_;rcases hq with⟨e,he,rfl,hn,Vy⟩|⟨Eo,x2,oE,S',rfl,JK,ag8,hn,hi,mg,Va,Wz,Vy,aaW,aaX⟩
     ·exact .inl ⟨e,he,rfl,GV.1 e w' X' he Vy (Vz.less fun k ah=>.inl ah) hn⟩
     ·exact .inr ⟨_,_,rfl,mg.one,GV.2 _ Eo x2 oE S' w' X' rfl Vy aaW aaX (Vz.less fun k ah=>JK k ah) ag8 hn hi mg (fun k ah=>⟨(Va k ah).2.elim (fun h9=>c.sub k (hT.bg k h9)) (eD k),(Va k ah).1⟩) Wz⟩
   repeat' first|refine aD ?_;intros
   refine⟨?_,?_⟩;all_goals
    refine dC (yt (ag5.1.wide (hw5 hT.bg)) hT.s.has) kQ hT.s.has fun w2 X2 dI=>?_;have b8:=hT.since dI;have h2:=h.since dI hT.bg;have tH:=Rec.at.mv vH (dI.jB hsS.sub)
   ·refine⟨?_,?_⟩;all_goals
     repeat' first|refine aD ?_;intros
     refine aci b8 h2 (hmS b8).2 tH fun v w X hq=>?_;rcases hq with⟨e,he,rfl,hk⟩|⟨t,oE,rfl,o1,hk⟩
    all_goals
     repeat' first|refine aD ?_;intros
     exact hk
   ·repeat' first|refine aD ?_;intros
    refine aci b8 h2 (hmS b8).2 tH fun v w X hq=>?_;rcases hq with⟨e,he,rfl,hk⟩|⟨t,oE,rfl,o1,hk⟩;all_goals
     repeat' first|refine aD ?_;intros
     exact hk
theorem M8 {w:World} {A:XS} {nb bx:Nat} {st:dY} {x:Ev} (h:bI w A nb st.l 93) (hb:bI w A bx [ptr nb 0] 26):
  Ct pg 33 #[.agg x.l.toArray,ptr bx 0] w A nX fun v _ _=>v=B (!gh st.bp x.aw):=by
 intro w0 hk;replace h:=h.mv hk.cL;replace hb:=hb.mv hk.cL;apply Er;unfold wc;have hs:=ak.init w0;repeat' first|refine aD ?_;intros
 refine dC (Ah (s:=x.aw) h) kQ hs.has fun w1 X1 aq=>?_;replace hs:=hs.trans aq;cases hn:gh st.bp x.aw;all_goals
  repeat' first|refine aD ?_;intros
  exact ai hs fun wa bC=>rfl
theorem M9 {w:World} {A:XS} {nb bx:Nat} {st:dY} {x:fG} (h:bI w A nb st.l 93) (hb:bI w A bx [ptr nb 0] 26):
  Ct pg 36 #[.agg x.l.toArray,ptr bx 0] w A nX fun v _ _=>v=B (!gh st.bp x.aw):=by
 intro w0 hk;replace h:=h.mv hk.cL;replace hb:=hb.mv hk.cL;apply Es;unfold we;have hs:=ak.init w0;repeat' first|refine aD ?_;intros
 refine dC (Ah (s:=x.aw) h) kQ hs.has fun w1 X1 aq=>?_;replace hs:=hs.trans aq;cases hn:gh st.bp x.aw;all_goals
  repeat' first|refine aD ?_;intros
  exact ai hs fun wa bC=>rfl
theorem dN.del {w w':World} {X X':XS} {lo:Nat} {v v':Value} {es:List Ev} {p:Ev→Bool} (h:dN w X lo v es) (c:ef (dK v) X w X' w') (ho:Own w' X' lo 69 7 v' ((es.filter p).map Ev.l)):dN w' X' lo v' (es.filter p):=
 ⟨ho,fun x hx=>(h.ws x (List.mem_filter.1 hx).1).dF c fun g hg hb=>jA (h.ws x (List.mem_filter.1 hx).1) h.own (by decide) hg hb,h.ap.sublist List.filter_sublist⟩
def sk (m:gW):Bool:=decide (m.err=0∧m.to=31∧m.kind=14)
def Iq (st:dY) (m:gW):PL:=
 if m.err=0∧m.to=31∧m.kind=9 then sh st.bp m (iO st)
 else if sk m=true then(iA st.bZ,st.fs,st.holds.filter fun x=>gh (st.bp.later m.aw) x.aw)else iO st
structure acj (st:dY) (m:gW) (ka:dY):Prop where
 told:ka.told=(st.told||sk m)
 tl:ka.tl=st.tl
 bp: ¬ka.bp.cmp st.bp<0
 same:m.kind=9→m.n≠lr st m.range→ka=st
 abs:iO ka=Iq st m
 Eg:sk m=false→ka.bp=st.bp
 db:ka.db=st.db
theorem fq.ag9 {b:Nat} {st:dY} {s:aK} {qv' LW:Value} (h:fq b st):fq b { st with told:=true,bp:=st.bp.later s,q:=st.q.filter fun x=>gh (st.bp.later s) x.aw,qv:=qv',holds:=st.holds.filter fun x=>gh (st.bp.later s) x.aw,ov:=LW } :=by
 have h1:=eH (fun x:Ev=>gh (st.bp.later s) x.aw) st.q;have h2:=eH (fun x:fG=>gh (st.bp.later s) x.aw) st.holds;refine { h with len:=?_,nu:=?_,Vr:=fun x hx=>h.Vr x (List.mem_filter.1 hx).1,mQ:=af h2 h.mQ }
 ·have:=h.len;simp only;omega
 ·have:=h.nu.ack (s:=s);rw [show(st.q.filter fun x=>gh (st.bp.later s) x.aw).map Ev.e=(st.q.map Ev.e).filter fun e=>gh (st.bp.later s) e.aw by rw [xI];rfl];exact this
theorem CD {w:World} {X S:XS} {own:Nat→Nat} {nb b:Nat} {st:dY} {m:gW} {vk vs vw vp vr vc vh vd:Value} (h:cy w own nb st) (i:fq b st) (hF:FX (all own) X w)
  (hm:m.at w S vk vs vw vp vr vc vh vd) (hS: ∀k,S k→X k∧own k=0) (jr:m.small) (O5:m.lens≤2^62) (xE: ∀r∈m.ed,r.sz) (hb:b+iT m.ed≤2^21):
  Ct pg 9 #[ptr nb 0,m.v vk vs vw vp vr vc vh vd] w X (all own) fun v wa w'=>v=I 0∧ ∃dy ka,Gr own dy wa w'∧cy w' dy nb ka∧fq (b+iT m.ed) ka∧acj st m ka:=by
 intro w0 hk;have hT:=hF.ft hk;replace h:=h.kp hk fun k ah=>(hF k ah).1;obtain⟨S0,L3⟩: ∃S0:XS,∀k,S0 k↔(k<w0.heap.size∧own k=0):=⟨_,fun _=>Iff.rfl⟩;have AY:m.at w0 S0 vk vs vw vp vr vc vh vd:=hm.mv fun k ah jC=>⟨(L3 k).2 ⟨aI jC hk.size,(hS k ah).2⟩,hk.block k (hS k ah).1⟩;have o1:=AY.keys.one;have o2:=AY.seen.one;have o3:=AY.writes.one;have o4:=AY.parts.one;have o5:=AY.ranges.one;have o6:=AY.ed.one;have o7:=AY.gG.one;have o8:=AY.eA.one;have L4: ∀{wz:World} {Xz:XS},Ft w0 (all own) wz Xz (all own)→cy wz own nb st→sk m=false→ ¬(m.err=0∧m.to=31∧m.kind=9)→ ∀wa,Kp Xz wz wa→I 0=I 0∧ ∃dy ka,Gr own dy w0 wa∧cy wa dy nb ka∧fq (b+iT m.ed) ka∧acj st m ka:=
  fun hT h hh h9 wa bC=>⟨rfl,own,st,Gr.refl _ _ _,h.kp bC hT.bg,i.up zQ,⟨by rw [hh,Bool.or_false],rfl,uW _,fun _ _=>rfl,by rw [Iq,if_neg h9,hh];rfl,fun _=>rfl,rfl⟩⟩
 apply IT;unfold zz;refine oh rfl hT.s.has fun bx w1 X1 eX aq Zg=>?_;have de:=hT.since aq;have h1:=h.since aq hT.bg;have rr:m.at w1 S0 vk vs vw vp vr vc vh vd:=AY.mv (aq.jB fun k ah=>((L3 k).1 ah).1);have yQ: ∀k,S0 k→X1 k:=fun k ah=>aq.sub k ((L3 k).1 ah).1;have jj:=h1.row.mv (Mv.sub fun k ah=>de.bg k (cC (p:=1) (by decide) k ah));have hs:=de.s;refine dG ?_;repeat' first|refine aD ?_;intros
 refine dC (Ul (rr.mv (Mv.sub yQ)) jr O5) kQ de.s.has fun w2 X2 dI=>?_;have b8:=de.since dI;have h2:=h1.since dI de.bg;have oC:=rr.mv (dI.jB yQ);have vP: ∀k,S0 k→X2 k:=fun k ah=>dI.sub k (yQ k ah);have kl:=jj.mv dI.mv;have aed:=Zg.mv dI.mv;clear hs de h1 jj Zg rr;have hs:=b8.s;by_cases lB:m.err=0∧m.to=31
 rotate_left
 ·repeat' first|refine bO ?_;intros|refine dD ?_ ?_<;>intros
  all_goals exact b8.fin fun wa bC=>L4 b8 h2 (by simp only [sk,decide_eq_false_iff_not];omega) zQ wa bC
 by_cases bC:m.kind=9
 ·repeat' first|refine bO ?_;intros
  refine b8.call (RJ (S:=S0) h2 i (b8.fx fun k ah=>ah) oC (fun k ah=>⟨vP k ah,((L3 k).1 ah).2⟩) (fun r hr=>⟨jr.ed r hr,xE r hr⟩) hb) kQ (fun k ah=>ah) ?_;rintro _ AU w3 X3 ⟨rfl,Ep,mm,RM,h3,i3,CB,aha,ahb⟩ x6 tv dz c3;have x8:Ft w0 (all own) w3 X3 (all Ep):=dz.less RM;clear hs;have hs:=x8.s
  skip
  exact x8.fin fun wa Na=>⟨rfl,Ep,mm,x8.nV Na fun k ah=>ah,h3.kp Na x8.bg,i3,⟨by rw [CB.told];simp [sk,bC],CB.tl,by rw [CB.bp];exact uW _,fun _ bW=>aha bW,by rw [ahb,Iq,if_pos ⟨lB.1,lB.2,bC⟩],fun _=>CB.bp,CB.db⟩⟩
 by_cases aaY:m.kind=14
 rotate_left
 ·repeat' first|refine bO ?_;intros
  exact b8.fin fun wa Na=>L4 b8 h2 (by simp [sk,aaY]) zQ wa Na
 have hh:sk m=true:=by simp [sk,lB,aaY]
 have jU:own nb=1:=h.row.1;have hp1: ∀{wz:World} {A:XS} {sz:dY},sz.bp=st.bp.later m.aw→bI wz A nb sz.l 93→bI wz A bx [ptr nb 0] 26→ ∀x∈st.q,Ct pg 33 ((.agg x.l.toArray)::[ptr bx 0]).toArray wz (fun k=>k=bx∨k=nb) nX fun v _ _=>v=B (!gh (st.bp.later m.aw) x.aw):=
  fun hz hr hb x _=>by rw [←hz];exact M8 ⟨.inr rfl,hr.2⟩ ⟨.inl rfl,hb.2⟩
 have Q7: ∀{wz:World} {A:XS} {sz:dY},sz.bp=st.bp.later m.aw→bI wz A nb sz.l 93→bI wz A bx [ptr nb 0] 26→ ∀x∈st.holds,Ct pg 36 ((.agg x.l.toArray)::[ptr bx 0]).toArray wz (fun k=>k=bx∨k=nb) nX fun v _ _=>v=B (!gh (st.bp.later m.aw) x.aw):=
  fun hz hr hb x _=>by rw [←hz];exact M9 ⟨.inr rfl,hr.2⟩ ⟨.inl rfl,hb.2⟩
 repeat' first|refine bO ?_;intros
 have L7: ∀{q:Nat},own bx=q→q≠0→False:=fun e h0=>by
  have h9:=hT.bg bx (show own bx≠0 by rw [e];exact h0);have h9:bx<w0.heap.size:=h9;omega
 have bW:nb≠bx:=fun e=>L7 (q:=1) (by rw [←e];exact jU) (by decide);refine Af (o:=10) kl zQ kQ (by simp) rfl b8.s.has fun w3 X3 c3 oY=>?_;have h3:cy w3 own nb { st with told:=true } :=cy.put jU b8.bg c3 oY h2.nT h2.nu h2.mQ h2.lG h2.tg;have dz:Ft w0 (all own) w3 X3 (all own):=b8.dF c3 (fun k ah=>by subst ah;exact cC (p:=1) (by decide) _ jU) fun k ah=>.inl ah;have gY:=h3.row.mv (Mv.sub fun k ah=>dz.bg k (cC (p:=1) (by decide) k ah));have aee:=mW aed c3 (Ne.symm bW);clear hs kl aed oY h2;have hs:=dz.s;repeat' first|refine aD ?_;intros
 refine fX (tM _ _) kQ dz.s.has fun w4 X4 jX=>?_;have eY:=dz.since jX;have h4:=h3.since jX dz.bg;have sH:=gY.mv jX.mv;have aef:=aee.mv jX.mv;clear hs gY aee h3;have hs:=eY.s;repeat' first|refine aD ?_;intros
 refine Io (o:=7) sH zQ kQ (by simp) rfl rfl eY.s.has fun w5 X5 c5 hr5=>?_;have h5:cy w5 own nb { st with told:=true,bp:=st.bp.later m.aw } :=cy.put jU eY.bg c5 hr5 h4.nT h4.nu h4.mQ h4.lG h4.tg;have fQ:Ft w0 (all own) w5 X5 (all own):=eY.dF c5 (fun k ah=>by subst ah;exact cC (p:=1) (by decide) _ jU) fun k ah=>.inl ah;have sI:=h5.row.mv (Mv.sub fun k ah=>fQ.bg k (cC (p:=1) (by decide) k ah));have GW:=mW aef c5 (Ne.symm bW);clear hs sH aef hr5 h4;have hs:=fQ.s;refine iu (fun (k:World→XS→Prop)=> ∀w X v',Ft w0 (all own) w X (all own)→cy w own nb { st with told:=true,bp:=st.bp.later m.aw,q:=st.q.filter fun x=>gh (st.bp.later m.aw) x.aw,qv:=v' } →bI w X bx [ptr nb 0] 26→k w X) ?_ ?_
 ·clear hs sI GW h5;intro w X v' fQ h5 GW;have hs:=fQ.s;have sI:=h5.row.mv (Mv.sub fun k ah=>fQ.bg k (cC (p:=1) (by decide) k ah));have hX4: ∀k,gU own 4 k→X k:=fun k ah=>fQ.bg k (cC (p:=4) (by decide) k ah);have aaR:Own w X 0 102 5 st.ov (st.holds.map fG.l):=h5.mQ.mono hX4;have JL: ∀k,dK st.ov k→own k=4:=fun k ah=>h5.mQ.2.2 k ah;have VA:=Q7 rfl sI GW;repeat' first|refine aD ?_;intros
  refine⟨?_,?_⟩;all_goals
   repeat' first|refine aD ?_;intros
   refine fQ.call (GP (A:=fun k=>k=bx∨k=nb) (cs:=[ptr bx 0]) (p:=fun x=>!gh (st.bp.later m.aw) x.aw) aaR fQ.s.has (fun k ah=>?_) kQ VA) kQ (fun k ah=>cC (p:=4) (by decide) k (JL k ah)) ?_
   ·rcases ah with rfl|rfl
    ·exact⟨GW.1,fun hb=>L7 (q:=4) (JL _ hb) (by decide)⟩
    ·exact⟨sI.1,fun hb=>by have:=JL _ hb;omega⟩
  all_goals
   rintro v6 VB w6 X6 ⟨tR,aeg⟩ Nb RN iC c6;replace iC:Ft w0 (all own) w6 X6 (all own):=iC.less fun k ah=>.inl ah;have v1:=Di (p:=4) c6 fQ.bg JL;have aaS:Own w6 (gU own 4) 0 102 5 v6 ((st.holds.filter fun x=>gh (st.bp.later m.aw) x.aw).map fG.l):=by
    simp only [Bool.not_not] at tR;exact tR.mono fun k ah=>JL k ah
   have KM:=h5.row.mv (v1 1 (by decide) (by decide));have Ai:=KM.mv (Mv.sub fun k ah=>iC.bg k (cC (p:=1) (by decide) k ah));have aeh:=mW GW c6 fun hb=>L7 (q:=4) (JL _ hb) (by decide);clear hs;have hs:=iC.s;repeat' first|refine aD ?_;intros
   refine Af (o:=12) Ai zQ kQ (by simp) tR.sl.one iC.s.has fun w7 X7 c7 Vs=>?_;have h7:cy w7 own nb { st with told:=true,bp:=st.bp.later m.aw,q:=st.q.filter fun x=>gh (st.bp.later m.aw) x.aw,qv:=v',holds:=st.holds.filter fun x=>gh (st.bp.later m.aw) x.aw,ov:=v6 } :=
    cy.put jU iC.bg c7 Vs (h5.nT.mv (v1 2 (by decide) (by decide))) (h5.nu.mv (v1 3 (by decide) (by decide))) aaS (h5.lG.mv (v1 5 (by decide) (by decide))) (h5.tg.mv (v1 6 (by decide) (by decide)))
   have ny:Ft w0 (all own) w7 X7 (all own):=iC.dF c7 (fun k ah=>by subst ah;exact cC (p:=1) (by decide) _ jU) fun k ah=>.inl ah;clear hs;have hs:=ny.s
   skip
   exact ny.fin fun wa Na=>⟨rfl,own,_,Gr.refl _ _ _,h7.kp Na ny.bg,i.ag9.up zQ,⟨by rw [hh,Bool.or_true],rfl,aaJ _ _,fun e=>absurd e (by rw [aaY];decide),by rw [Iq,if_neg zQ,if_pos hh];rfl,fun h9=>absurd (hh.symm.trans h9) (by decide),rfl⟩⟩
 ·intro K hK;have hX3: ∀k,gU own 3 k→X5 k:=fun k ah=>fQ.bg k (cC (p:=3) (by decide) k ah);have O6:dN w5 X5 0 st.qv st.q:=h5.nu.mv (Mv.sub hX3);have O7: ∀k,dK st.qv k→own k=3:=fun k ah=>h5.nu.own.2.2 k ah;have VA:=hp1 rfl sI GW;repeat' first|refine aD ?_;intros
  refine⟨?_,?_⟩;all_goals
   repeat' first|refine aD ?_;intros
   refine fQ.call (IQ (A:=fun k=>k=bx∨k=nb) (cs:=[ptr bx 0]) (p:=fun x=>!gh (st.bp.later m.aw) x.aw) O6.own fQ.s.has (fun k ah=>?_) kQ (fun x hx=>(O6.ws x hx).sl.one) VA) kQ (fun k ah=>cC (p:=3) (by decide) k (O7 k ah)) ?_
   ·rcases ah with rfl|rfl
    ·exact⟨GW.1,fun hb=>L7 (q:=3) (O7 _ hb) (by decide)⟩
    ·exact⟨sI.1,fun hb=>by have:=O7 _ hb;omega⟩
  all_goals
   rintro v6 VB w6 X6 ⟨tR,aeg⟩ Nb RN iC c6;replace iC:Ft w0 (all own) w6 X6 (all own):=iC.less fun k ah=>.inl ah;have v1:=Di (p:=3) c6 fQ.bg O7;have O8:dN w6 (gU own 3) 0 v6 (st.q.filter fun x=>gh (st.bp.later m.aw) x.aw):=by
    simp only [Bool.not_not] at tR;have h9:=O6.del (p:=fun x=>gh (st.bp.later m.aw) x.aw) c6 (tR.mono fun k ah=>c6.sub k (hX3 k (O7 k ah)));refine h9.tight.mv (Mv.sub fun k ah=>?_);rcases ah with ah|⟨y,hy,ah⟩
    ·exact O7 k (by rw [aeg] at ah;exact ah)
    ·exact(h5.nu.ws y (List.mem_filter.1 hy).1).2.2 k ah
   have KM:=h5.row.mv (v1 1 (by decide) (by decide));have Ai:=KM.mv (Mv.sub fun k ah=>iC.bg k (cC (p:=1) (by decide) k ah));have aeh:=mW GW c6 fun hb=>L7 (q:=3) (O7 _ hb) (by decide);clear hs;have hs:=iC.s;repeat' first|refine aD ?_;intros
   refine Af (o:=11) Ai zQ kQ (by simp) tR.sl.one iC.s.has fun w7 X7 c7 Vs=>?_;have h7:cy w7 own nb { st with told:=true,bp:=st.bp.later m.aw,q:=st.q.filter fun x=>gh (st.bp.later m.aw) x.aw,qv:=v6 } :=
    cy.put jU iC.bg c7 Vs (h5.nT.mv (v1 2 (by decide) (by decide))) O8 (h5.mQ.mv (v1 4 (by decide) (by decide))) (h5.lG.mv (v1 5 (by decide) (by decide))) (h5.tg.mv (v1 6 (by decide) (by decide)))
   have ny:Ft w0 (all own) w7 X7 (all own):=iC.dF c7 (fun k ah=>by subst ah;exact cC (p:=1) (by decide) _ jU) fun k ah=>.inl ah;exact hK _ _ v6 ny h7 (mW aeh c7 (Ne.symm bW))
section
variable {w : World} {X : XS} {own : Nat → Nat} {nb b : Nat} {st : dY}
theorem A5 (h:cy w own nb st) (hX: ∀k,all own k→X k):Ct pg 16 #[ptr nb 0] w X nX fun v _ _=>v=st.bp.v:=by
 intro w0 hk;replace h:=h.kp hk hX;have bE:=h.row.mv Mv.aS;apply GX;unfold yT;have hs:=ak.init w0;repeat' first|refine aD ?_;intros|((first|(with_reducible refine ai hs ?_)|(with_reducible refine ai (bF.trans hs) ?_));intro wa hk;rfl)
theorem JM (h:cy w own nb st) (hX: ∀k,all own k→X k):Ct pg 18 #[ptr nb 0] w X nX fun v _ _=>v=I st.hl.length:=by
 intro w0 hk;replace h:=h.kp hk hX;have bE:=h.row.mv Mv.aS;have hM:=h.nT.mv Mv.aS;have hrm:=hM.m.row;apply IU;unfold zA;have hs:=ak.init w0;repeat' first|refine aD ?_;intros
 refine dC (LP hM.h fun _ hk=>hk) kQ hs.has fun w1 X1 aq=>?_;replace hs:=hs.trans aq;repeat' first|((first|(with_reducible refine ai hs ?_)|(with_reducible refine ai (bF.trans hs) ?_));intro wa hk;rfl)
theorem CE {r:Int} (h:cy w own nb st) (hX: ∀k,all own k→X k):Ct pg 19 #[ptr nb 0,I r] w X nX fun v _ _=>v=I (lr st r):=by
 intro w0 hk;replace h:=h.kp hk hX;have bE:=h.row.mv Mv.aS;have hT:=h.lG.mv Mv.aS;apply IV;unfold zB;have hs:=ak.init w0;repeat' first|refine aD ?_;intros
 refine mP (kt:=3) (et:=111) (.pointer none) hT.map iJ kQ kQ (fun v x hg hv=>?_) (fun hg=>?_)
 ·have hv:v=ptr x.tb 0:=hv;subst hv;repeat' first|refine aD ?_;intros
  refine dC (yt (hT.tl _ (kE hg)).1 hs.has) kQ hs.has fun w1 X1 aq=>?_;replace hs:=hs.trans aq;repeat' first|((first|(with_reducible refine ai hs ?_)|(with_reducible refine ai (bF.trans hs) ?_));intro wa hk;(simp [lr,hg]))
 ·repeat' first|refine aD ?_;intros|((first|(with_reducible refine ai hs ?_)|(with_reducible refine ai (bF.trans hs) ?_));intro wa hk;(simp [lr,hg]))
theorem L8 {r:Int} (h:cy w own nb st) (hX: ∀k,all own k→X k):Ct pg 22 #[ptr nb 0,I r] w X nX fun v _ _=>v= .tuple #[((getM r st.fs).getD .zero).v,B (getM r st.fs).isSome]:=by
 intro w0 hk;replace h:=h.kp hk hX;have bE:=h.row.mv Mv.aS;have hM:=h.nT.mv Mv.aS;have hrm:=hM.m.row;apply Dm;unfold uZ;have hs:=ak.init w0;repeat' first|refine aD ?_;intros
 refine dC (KH (r:=r) hM.m) kQ hs.has fun w1 X1 aq=>?_;replace hs:=hs.trans aq;repeat' first|refine aD ?_;intros|((first|(with_reducible refine ai hs ?_)|(with_reducible refine ai (bF.trans hs) ?_));intro wa hk;rfl)
theorem Dn (h:cy w own nb st) (i:fq b st) (hb:b≤2^30) (hX: ∀k,all own k→X k):
  Ct pg 17 #[ptr nb 0] w X nX fun v wa w'=> ∃es,dN w' (made wa w') wa.heap.size v es∧es.map Ev.e=st.q.map Ev.e:=by
 intro w0 hk;replace h:=h.kp hk hX;have bE:=h.row.mv Mv.aS;have O9:=h.nu.mv (X':=aS w0) (w':=w0) Mv.aS;have hql:=i.len;apply Et;unfold wg;have hs:=ak.init w0;have mg:=O9.own.sl;repeat' first|refine aD ?_;intros
 refine gb (fun n a v w X=> ∃(j:Nat) (es:List Ev),a=I j∧n=st.q.length-j∧j≤st.q.length∧ak (aS w0) w0 X w∧dN w X w0.heap.size v es∧es.map Ev.e=(st.q.take j).map Ev.e) st.q.length ⟨0,[],rfl,rfl,aN _,hs,dN.nil _ _ _,by simp⟩ ?_;clear hs;rintro n a v w X ⟨j,es,rfl,rfl,hj,hs,hE,Fg⟩;have hq:=O9.mv hs.mv;have ahc:=hq.own.sl;rcases eb st.q j with⟨cK,x,hx,hd⟩|⟨dU,hd⟩
 rotate_left
 ·repeat' first|refine bO ?_;intros
  rw [aY dU] at Fg;exact ai hs fun wa bC=>⟨es,hE.fin bC,Fg⟩
 have Pa:=hq.ws x (aA hx);have ox:=Pa.sl.one;have JE:es.length=j:=by
  have:=congrArg List.length Fg;simp only [ay,aW] at this;omega
 repeat' first|refine bO ?_;intros
 refine ek (pH Pa.sl (i.Vr x (aA hx))) kQ hs.has ?_;rintro vc wa w1 X1 RO hle eD aq;have RP:w0.heap.size≤wa.heap.size:=af hs.kp.size hle;have Eu:=RO.up eD (bK _);have oc:=Eu.sl.one;have AH:=hE.mv aq.mv;have hEb: ∀k,sG v es k→k<w.heap.size:=fun k ah=>(hE.sub k ah).2;replace hs:=hs.trans aq;clear mg ahc aq;have ahd:=hs.kp.size;repeat' first|refine aD ?_;intros|(with_reducible apply vO);(case hX=>exact hs.has);(case he=>kernel_rfl);(case hk=>rfl);intro acc w X aq ho;obtain⟨_,_,_,rfl⟩:=ho.sl.form;replace hs:=hs.trans aq
 have uQ:=AH.mv aq.mv;have WC:=Eu.mv aq.mv;refine qG (dq:=[(⟨vc,x.bU,x.aw,x.writes⟩:Ev).l]) uQ.own hs.has (af ahd aq.kp.size) kQ ho.sl (fun r hr u hu=>by rw [List.mem_singleton.1 hr] at hu;simp only [js,gn,or_false] at hu;rcases hu with rfl|rfl|rfl|rfl|rfl|rfl|rfl<;>first|rfl|exact oc) (by simp only [ay,bD];omega) (by simp only [ay,bD];omega) fun v3 w3 X3 c3 Rh ad0=>?_
 have LH:=uQ.push c3 Rh WC RP fun y hy g hg gl=>by
  have h1:=hEb g (.inr ⟨y,hy,hg⟩);have h2:=(WC.ge gl).1;omega
 have dZ:=hs.dF c3 fun k ah hb=>by
  have h1:=(uQ.own.ge hb).1;have ah:k<w0.heap.size:=ah;omega
 clear hs;have hs:=dZ;repeat' first|refine aD ?_;intros
 refine eM (st.q.length-(j+1)) zQ ⟨j+1,_,by simp,rfl,by omega,hs,LH,?_⟩;rw [bc,hx,bo,bo,Fg];rfl
end
def Ew (r:Int) (tl:List (Int×Int)):Int:=tl.foldl (fun z c=>if c.1=r then c.2 else z) 1
theorem Um {w:World} {X:XS} {own:Nat→Nat} {nb b:Nat} {st:dY} {r:Int} (h:cy w own nb st) (i:fq b st) (hF:FX (all own) X w):
  Ct pg 13 #[ptr nb 0,I r] w X (all own) fun v wa w'=>v=I (if(getM r st.bZ).isSome then 0 else 8)∧ ∃dy ka,Gr own dy wa w'∧cy w' dy nb ka∧fq b ka∧Kept st ka∧iO ka=(if(getM r st.bZ).isSome then bM r (⟨r,Ew r st.tl,.zero⟩,[]) (iA st.bZ)else iA st.bZ,st.fs,st.holds):=by
 intro w0 hk;have hT:=hF.ft hk;replace h:=h.kp hk fun k ah=>(hF k ah).1;have bE:=h.row.mv (Mv.sub fun k ah=>hT.bg k (cC (p:=1) (by decide) k ah));have kV:=h.tg.mv (X:=gU own 6) (Y:=aS w0) (w':=w0) (Mv.sub fun k ah=>hT.bg k (cC (p:=6) (by decide) k ah));have O5:=kV.gz;apply IW;unfold zC;have hs:=ak.init w0;repeat' first|refine aD ?_;intros
 refine mP (kt:=3) (et:=111) (.pointer none) (h.lG.mv (Mv.sub fun k ah=>hT.bg k (cC (p:=5) (by decide) k ah))).map iJ kQ kQ (fun v x hg hv=>?_) (fun hg=>?_)
 rotate_left
 ·repeat' first|refine aD ?_;intros
  exact hT.fin fun wa bC=>⟨by rw [hg];rfl,own,st,Gr.refl _ _ _,h.kp bC hT.bg,i,⟨rfl,rfl,rfl,rfl⟩,by rw [hg];rfl⟩
 have hv:v=ptr x.tb 0:=hv;subst hv;have hrr:1≤r∧r≤12:=by
  have h9:=i.keys r;rw [hg] at h9;cases fR:getM r st.fs with
  |none=>rw [fR] at h9;cases h9
  |some a=>exact i.gF _ (kE fR)
 repeat' first|refine aD ?_;intros
 refine gb (fun n a b w X=> ∃(j:Nat) (z:Int),z=Ew r (st.tl.take j)∧a=I j∧b=I z∧n=st.tl.length-j∧j≤st.tl.length∧1≤z∧z≤100000000∧ak (aS w0) w0 X w) st.tl.length ⟨0,1,rfl,rfl,rfl,rfl,aN _,by omega,by omega,hs⟩ ?_;clear hs;rintro n a b1 w1 X1 ⟨j,z,lH,rfl,rfl,rfl,hj,RQ,JN,aq⟩;have de:=hT.since aq;have h1:=h.since aq hT.bg;have aiD:=kV.mv aq.mv;have jj:=bE.mv aq.mv;have hs:=aq;rcases eb st.tl j with⟨cK,c,hx,hd⟩|⟨dU,hd⟩
 ·have hc:=i.cur c (aA hx);have hzn:Ew r (st.tl.take (j+1))=if c.1=r then c.2 else Ew r (st.tl.take j):=by rw [bc,hx];simp [Ew]
  repeat' first|refine bO ?_;intros|refine dD ?_ ?_<;>intros|with_reducible apply dG
  ·exact eM (st.tl.length-(j+1)) zQ ⟨j+1,_,by rw [hzn];simp [*],by simp,rfl,rfl,by omega,hc.1,hc.2,hs⟩
  ·exact eM (st.tl.length-(j+1)) zQ ⟨j+1,_,by rw [hzn];simp [*],by simp,rfl,rfl,by omega,RQ,JN,hs⟩
 clear bE kV;have Dd:z=Ew r st.tl:=by rw [lH,aY dU]
 repeat' first|refine bO ?_;intros
 refine ek (LV r z) kQ de.s.has ?_;rintro v wa w2 X2 hq hle eD dI;rw [if_neg zQ] at hq;obtain⟨tb,mb,rfl,oZ⟩:=hq;have b8:=de.since dI;have h2:=h1.since dI de.bg;clear hs;have hs:=b8.s;repeat' first|refine aD ?_;intros
 have hTx:=(oZ.exact.wide eD);have mC: ∀k,pV tb mb [] k→w1.heap.size≤k∧X2 k:=fun k ah=>by
  have:=df.Fk (x:=⟨tb,mb,[],_⟩) oZ.exact k ah;exact⟨af hle this.1.1,eD k this.1⟩
 refine se (kt:=3) (et:=111) (a:=(⟨tb,mb,[],⟨r,z,.zero⟩⟩:fU)) (h2.lG.mv (Mv.sub fun k ah=>b8.bg k (cC (p:=5) (by decide) k ah))).map AV rfl (fun _ hk=>hk.elim) iJ kQ b8.s.has fun w3 X3 c3 Fl=>?_;have lQ:=h1.lG.map.nodup;have LR:own st.kD=5:=h1.lG.map.x.1;have c13:ef (fun k=>k=st.kD) X1 w1 X3 w3:=(ef.qk dI _).trans c3;obtain⟨dy,q1,q2,q3,q4⟩:=Aw (own:=own) (p:=5) (F':=fun k=>gU own 5 k∨pV tb mb [] k) (by decide) c13 de.bg (fun k ah=>by have e:k=st.kD:=ah;rw [e];exact LR) (fun k ah=>ah.imp (fun h=>h) fun h=>(mC k h).1);have aaQ:kP w3 (gU dy 5) st.kD (bM r (⟨tb,mb,[],⟨r,z,.zero⟩⟩:fU) st.bZ):=
  kP.put (w:=w1) (F:=gU own 5) (F1:=X2) (X1:=X2) h2.lG (fun k ah=>⟨b8.bg k (cC (by decide) k ah),de.s.has k (de.bg k (cC (by decide) k ah))⟩) hTx ⟨by simp,by simp⟩ (fun k ah=>(mC k ah).1) (fun k ah=>ah) c3 Fl (fun k ah=>q1 k (.inl ah)) fun k ah=>q1 k (.inr ah)
 have h3:cy w3 dy nb { st with bZ:=bM r (⟨tb,mb,[],⟨r,z,.zero⟩⟩:fU) st.bZ } :=
  ⟨h1.row.mv (q2 1 (by decide) (by decide)),h1.nT.mv (q2 2 (by decide) (by decide)),h1.nu.mv (q2 3 (by decide) (by decide)),h1.mQ.mv (q2 4 (by decide) (by decide)),aaQ,h1.tg.mv (q2 6 (by decide) (by decide))⟩
 have dz:Ft w0 (all own) w3 X3 (all dy):=(b8.dF c3 (F':=all own) (fun k ah=>by subst ah;exact cC (p:=5) (by decide) _ LR) fun k ah=>.inl ah).more fun k ah=>by
  rcases q3 k ah with h9|h9|h9
  ·exact .inl h9
  ·exact .inl (cC (p:=5) (by decide) k h9)
  ·exact .inr ⟨c3.sub k (mC k h9).2,af de.s.kp.size (mC k h9).1⟩
 clear hs;have hs:=dz.s
 skip
 exact dz.fin fun wa bC=>⟨by rw [hg];rfl,dy,_,dz.nV bC fun k ah=>ah,h3.kp bC dz.bg,i.feed lQ hg (b':=b) ⟨qj.nil b,rfl,RQ,rfl,by simp⟩ (bK b),⟨rfl,rfl,rfl,rfl⟩,by rw [hg,oU,if_pos rfl,←Dd];unfold iO;rw [El];rfl⟩
end Go.Proofs.YtfndblbeikocdaaGreat
namespace Go.Proofs.YtfndblbeikocdaaGreat
open Go.Proofs.Tryz renaming prog → pg
open Go.bu Go.Maps Go.Shelf
set_option maxRecDepth 100000
set_option maxHeartbeats 1000000
set_option linter.unusedVariables false
set_option linter.unusedSimpArgs false
attribute [local irreducible] un jn aF aT ld1 ew st1 dt cB lS dV lT uN tG gq fW ad az aJ eW eV eU eC eF gE au fin aQ aM aH vS xt gp il pR uO xu xv xw xx gm im pS uP xy xz xA
theorem VC {w:World} {X:XS} {mb:Nat} :Ct pg 47 #[.map (some mb)] w X nX fun v wa w'=> ∃bx,v= .func (.func 95) #[] #[ptr bx 0]∧bI w' (made wa w') bx [.map (some mb)] 90:=by
 intro w0 hk;apply oV;unfold jM;have hs:=ak.init w0;refine oh rfl hs.has fun bx w1 X1 eX aq bE=>?_;repeat' first|refine aD ?_;intros
 exact ai aq fun wa bC=>⟨bx,rfl,⟨eX,(bE.kp bC).lt⟩,(bE.kp bC).2⟩
theorem Pb {w:World} {X A:XS} {mb bx:Nat} {α:Type} {rd:World→XS→Value→α→Prop} {l:List (Int×α)} (h:fy w X A mb Fe rd l) (hb:bI w X bx [.map (some mb)] 90)
  (hs: ∀x∈l,-(2^63)≤x.1∧x.1<2^63) (hl:l.length≤2^40):
  Ct pg 46 #[.func (.func 95) #[] #[ptr bx 0]] w X nX fun v wa w'=>Own w' (made wa w') wa.heap.size 3 1 v ((kj (l.map (·.1))).map I1):=
 OG h kQ hs hl fun wa hk nn D0 lA=>
  AnyZI.keys_gives (ρ:=Tryz.OA) { Tryz.afU with } Fence.wide _ trivial rfl zQ bx mb nn D0 wa (hb.kp hk).lt (by have:=(hb.kp hk).2;simp [World.cell?,this]) lA
theorem acU {X:XS} {w:World} {t e k lo:Nat} {v:Value} {z:Int} {i:Nat} {rows:List (List Value)} {N:Value→Prop} (h:Own w X lo e k v rows) (hz:z=i) (hi:i≤rows.length) (ht:pg.underlying t=some (.slice (pg.elem t))) (hs:((pg.info? (pg.elem t)).map (·.size)).isSome=true)
  (n: ∀v',Own w X lo e k v' (rows.take i)→N v'):ad pg X w (Instr.sliceAt t v none (some (.int .i64 z)) none) N:=by
 rcases h.row with⟨rfl,rfl⟩|⟨g,cap,cs,rfl,eo,bE,jh,iB,oz,iE⟩
 ·have h0:i=0:=by simpa using hi
  subst h0;exact yL hz (bK _) ht hs (n _ (Own.nil _ _ _ _ _))
 ·have hr: ∀r∈rows,r.length=k:=h.1;refine yL hz zQ ht hs (n _ (Own.vM (n:=i) bE eo (fun r jm=>hr r (dW jm)) (by rw [aW];omega) zQ iB oz ?_));have h1:=congrArg (List.take (i*k)) iE;rw [List.take_take,iN (Nat.mul_le_mul_right k hi)] at h1;rw [h1];have GN:rows.flatten=(rows.take i).flatten++(rows.drop i).flatten:=by rw [←List.flatten_append,List.take_append_drop]
  have hl:((rows.take i).flatten).length=i*k:=by rw [gQ (k:=k) fun r jm=>hr r (dW jm),aW,iN hi]
  rw [GN,List.take_append_of_le_length zQ,aY zQ]
structure Om where
 kind:Int
 fr:Int
 to:Int
 bU:dX
 range:Int
 aw:aK
 prev:aK
 n:Int
 mx:Int
 writes:List KV
 wv:Value
abbrev Om.l (x:Om):List Value:=[I x.kind,I x.fr,I x.to,I x.bU.iH,I x.bU.lg,I x.bU.sq,I x.range,I 0,I 0,I x.aw.wall,I x.aw.dp,I x.aw.node,I x.prev.wall,I x.prev.dp,I x.prev.node,B false,I x.n,I x.mx,
 .slice none 0 0,.slice none 0 0,x.wv,.slice none 0 0,.slice none 0 0,.slice none 0 0,I 0,I 0,.float .f64 0,.float .f64 0,I 0,I 0,I 0,I 0,I 0,I 0,.slice none 0 0,.slice none 0 0]
theorem RR {x:Om} (h:bu.one x.wv=true): ∀r∈[x.l],∀u∈r,bu.one u=true:=fun r hr u hu=>by
 rw [List.mem_singleton.1 hr] at hu;simp only [js,gn,or_false] at hu;repeat (rcases hu with hu|hu;· subst hu;first|rfl|exact h)
 subst hu;rfl
def Om.p (x:Om):Om:= { x with wv:=.slice none 0 0 }
structure nO (w:World) (X:XS) (lo:Nat) (v:Value) (l:List Om):Prop where
 own:Own w X lo 49 36 v (l.map Om.l)
 ws: ∀x∈l,Own w X lo 118 4 x.wv (x.writes.map KV.l)
theorem nO.nil (w:World) (X:XS) (lo:Nat):nO w X lo (.slice none 0 0) []:=⟨Own.nil _ _ _ _ _,by simp⟩
theorem nO.mv {w w':World} {X X':XS} {lo:Nat} {v:Value} {l:List Om} (h:nO w X lo v l) (m:Mv X w X' w'):nO w' X' lo v l:=⟨h.own.mv m,fun x hx=>(h.ws x hx).mv m⟩
theorem nO.push {w w':World} {X X':XS} {lo Za:Nat} {v v':Value} {l:List Om} {x:Om} (h:nO w X lo v l) (c:ef (dK v) X w X' w') (ho:Own w' X' lo 49 36 v' (l.map Om.l++[x.l]))
  (hx:Own w X Za 118 4 x.wv (x.writes.map KV.l)) (hl:lo≤Za):nO w' X' lo v' (l++[x]):=by
 refine⟨by rw [bo];exact ho,fun y hy=>?_⟩;rcases List.mem_append.1 hy with hy|hy
 ·exact(h.ws y hy).dF c fun g hg hb=>jA (h.ws y hy) h.own (by decide) hg hb
 ·rw [List.mem_singleton.1 hy];exact(hx.dF c fun g hg hb=>jA hx h.own (by decide) hg hb).low hl
theorem nO.fin {w w0 wa:World} {X:XS} {v:Value} {l:List Om} (h:nO w X w0.heap.size v l) (hk:Kp X w wa):nO wa (made w0 wa) w0.heap.size v l:=⟨(h.own.kp hk).tight,fun x hx=>((h.ws x hx).kp hk).tight⟩
abbrev eI:Value:=.slice none 0 0
def Dp:Om:=⟨13,31,32,.zero,0,.zero,.zero,0,0,[],eI⟩
def Zh (prev:aK) (e:qy):Om:=⟨12,31,32,e.bU,0,e.aw,prev,0,0,e.writes,eI⟩
def sm (prev:aK):List qy→List Om
 |[]=>[]
 |e::l=>Zh prev e::sm e.aw l
theorem Fo: ∀(l:List qy) (prev:aK) (e:qy),sm prev (l++[e])=sm prev l++[Zh (kB prev l) e]
 |[],_,_=>rfl
 |a::l,prev,e=>by
  have h:=Fo l a.aw e;have e2:kB prev (a::l)=kB a.aw l:=by
   cases l with
   |nil=>rfl
   |cons b l=>
    unfold kB;rw [List.getLast?_cons_cons];cases hq:(b::l).getLast? with
    |none=>simp at hq
    |some e=>rfl
  simp only [List.cons_append,sm,h,e2]
def x9 (st:dY) (r:Int):Bool:=(getM r st.fs).isSome&&decide (max (st.q.length:Int) 0≥st.room-st.hl.length)&&decide (((getM r st.fs).getD .zero).cmp ((vR st.fs).getD .zero)>0)
def BY (st:dY) (r:Int):Om:=⟨8,31,r,.zero,r,st.seen,.zero,lr st r,if x9 st r then 0 else 8,[],eI⟩
def Qx (st:dY):List Om:=(if st.told then sm st.bp ((st.q.take 8).map Ev.e)else [Dp])++(kj (st.bZ.map (·.1))).map (BY st)
theorem fq.acm {b:Nat} {w:World} {own:Nat→Nat} {nb:Nat} {s:dY} (i:fq b s) (h:cy w own nb s):(s.bZ.map (·.1)).Perm (s.fs.map (·.1)):=by
 refine(List.perm_ext_iff_of_nodup h.lG.map.nodup h.nT.m.m.nodup).2 fun r=>?_;have hk:=i.keys r;have key: ∀{α:Type} {l:List (Int×α)},(l.map (·.1)).Nodup→((getM r l).isSome=true↔r∈l.map (·.1)):=fun {α} {l} hn=>by
  constructor
  ·intro h9;cases fR:getM r l with
   |none=>rw [fR] at h9;cases h9
   |some a=>exact List.mem_map.2 ⟨_,kE fR,rfl⟩
  ·intro h9;obtain⟨x,hx,rfl⟩:=List.mem_map.1 h9;rw [mR hn hx];rfl
 rw [←key h.lG.map.nodup,←key h.nT.m.m.nodup,hk]
theorem Un {w:World} {X:XS} {own:Nat→Nat} {nb b:Nat} {st:dY} (h:cy w own nb st) (i:fq b st) (hb:b≤2^21) (hX: ∀k,all own k→X k):
  Ct pg 14 #[ptr nb 0] w X nX fun v wa w'=> ∃ov l,v= .tuple #[ov,I 0]∧nO w' (made wa w') wa.heap.size ov l∧l.map Om.p=Qx st:=by
 intro w0 hk;replace h:=h.kp hk hX;have bE:=h.row.mv Mv.aS;have O9:=h.nu.mv (X':=aS w0) (w':=w0) Mv.aS;have Dq:=h.lG.mv Mv.aS;have hM0:=h.nT.mv Mv.aS;have hql:=i.len;have fC:=i.Ej;have oq:=O9.own.sl.one;apply IX;unfold zD;have hs:=ak.init w0;repeat' first|refine aD ?_;intros
 refine iu (fun (k:Value→World→XS→Prop)=> ∀v w X l,ak (aS w0) w0 X w→nO w X w0.heap.size v l→l.length≤8→l.map Om.p=(if st.told then sm st.bp ((st.q.take 8).map Ev.e)else [Dp])→k v w X) ?_ ?_
 ·intro v w X l hs hO hl8 hl;have jj:=bE.mv hs.mv;repeat' first|refine aD ?_;intros
  refine ek VC kQ hs.has ?_;rintro _ wa w1 X1 ⟨bx,rfl,eX⟩ hle eD aq;have de:=(Dq.mv hs.mv).mv aq.mv;have hkr: ∀x∈st.bZ,1≤x.1∧x.1≤12:=fun x hx=>by
   have h9:=i.keys x.1;have hg:getM x.1 st.bZ=some x.2:=mR Dq.map.nodup hx;rw [hg] at h9;cases fR:getM x.1 st.fs with
   |none=>rw [fR] at h9;cases h9
   |some a=>exact i.gF _ (kE fR)
  have hlen:st.bZ.length≤b:=by
   have h9:=(i.acm h).length_eq;simp only [ay] at h9;omega
  refine ek (Pb de.map (eX.mono eD) (fun x hx=>by have:=hkr x hx;omega) zQ) kQ aq.has ?_;rintro kv yM w2 X2 BT nW kZ dI;have A6:=BT.up (lo:=w0.heap.size) kZ (af (af hs.kp.size aq.kp.size) nW);have A4:=A6.sl;have xE:(kj (st.bZ.map (·.1))).length≤b:=by rw [(mI _).length_eq,ay];exact hlen
  have gR: ∀r∈kj (st.bZ.map (·.1)),∃x,getM r st.bZ=some x:=fun r hr=>by
   obtain⟨x,hx,rfl⟩:=List.mem_map.1 ((mI _).mem_iff.1 hr);exact⟨x.2,mR Dq.map.nodup hx⟩
  have Fp:=(hO.mv aq.mv).mv dI.mv;replace hs:=(hs.trans aq).trans dI;have hsq:=A4;refine yP A4 kQ ?_;generalize Zf:kj (st.bZ.map (·.1))=rs at A6 xE gR;refine gb (fun n a v w X=> ∃(j:Nat) (l2:List Om),a=I j∧n=rs.length-j∧j≤rs.length∧ak (aS w0) w0 X w∧Own w X w0.heap.size 3 1 kv (rs.map I1)∧nO w X w0.heap.size v l2∧l2.length≤8+j∧
   l2.map Om.p=(if st.told then sm st.bp ((st.q.take 8).map Ev.e)else [Dp])++(rs.take j).map (BY st)) rs.length ⟨0,l,rfl,rfl,aN _,hs,A6,Fp,by omega,by simpa using hl⟩ ?_
  clear hs hO Fp jj aq dI de eX BT eD kZ A6 A4 hsq;rintro n a v w X ⟨j,l2,rfl,rfl,hj,hs,A6,hO,Zi,RS⟩;have VD:=A6.sl;have jj:=bE.mv hs.mv;rcases eb rs j with⟨cK,r,hx,hd⟩|⟨dU,hd⟩
  rotate_left
  ·repeat' first|refine bO ?_;intros
   rw [aY dU] at RS;exact ai hs fun wa bC=>⟨v,l2,rfl,hO.fin bC,by rw [RS,Qx,Zf]⟩
  obtain⟨x,hg⟩:=gR r (aA hx);have iE:rs.take (j+1)=rs.take j++[r]:=by rw [bc,hx];rfl
  repeat' first|refine bO ?_;intros
  refine iu (fun (k:Value→World→XS→Prop)=> ∀w3 X3,ak X w X3 w3→k (.agg (Om.l ⟨8,31,r,.zero,r,st.seen,.zero,lr st r,8,[],eI⟩).toArray) w3 X3) ?_ ?_
  ·intro w3 X3 dZ;have bF:=hs;have L9:=hO.mv dZ.mv;replace hs:=hs.trans dZ;have gY:=bE.mv hs.mv;have OV:=hM0.mv hs.mv;have Vv:=(O9.mv hs.mv).own.sl;clear jj
   skip
   refine iu (fun (k:Value→World→XS→Prop)=> ∀w4 X4,ak X3 w3 X4 w4→k (.agg (Om.l ⟨8,31,r,.zero,r,st.seen,.zero,lr st r,if x9 st r then 0 else 8,[],eI⟩).toArray) w4 X4) ?_ ?_
   ·intro w4 X4 jX;have Zj:=L9.mv jX.mv;have WD:=(A6.mv dZ.mv).mv jX.mv;replace hs:=hs.trans jX;have fB:=hs.kp.size;clear dZ jX;repeat' first|refine aD ?_;intros|(with_reducible apply vO);(case hX=>exact hs.has);(case he=>kernel_rfl);(case hk=>rfl);intro acc w X aq ho;obtain⟨_,_,_,rfl⟩:=ho.sl.form;replace hs:=hs.trans aq
    have VE:=Zj.mv aq.mv;refine qG (dq:=[(BY st r).l]) VE.own hs.has (af fB aq.kp.size) kQ ho.sl (RR rfl) (by simp only [ay,bD];omega) (by simp only [ay,bD];omega) fun v6 w6 X6 c6 tR Wv=>?_;have sj:=hs.dF c6 fun k ah hb=>by
     have h1:=(VE.own.ge hb).1;have ah:k<w0.heap.size:=ah;omega
    have Zk:=VE.push c6 tR (Own.nil _ _ w0.heap.size _ _) (bK _);have aaZ:=(WD.mv aq.mv).dF c6 fun g hg hb=>jA (WD.mv aq.mv) VE.own (by decide) hg hb;clear hs;have hs:=sj;repeat' first|refine aD ?_;intros
    exact eM (rs.length-(j+1)) zQ ⟨j+1,_,by simp,rfl,by omega,hs,aaZ,Zk,by simp only [ae,bD];omega,by rw [bo,RS,iE];simp [Om.p,BY]⟩
   ·intro K2 GV;repeat' first|refine aD ?_;intros
    refine dC (M5 (r:=r) (more:=st.q.length) OV (fun _ hk=>hk) i.gF zQ zQ i.room) kQ hs.has fun w4 X4 jX=>?_;have h9:((getM r st.fs).isSome&&decide (max (st.q.length:Int) 0≥st.room-st.hl.length)&&decide (((getM r st.fs).getD .zero).cmp ((vR st.fs).getD .zero)>0))=x9 st r:=rfl;rw [h9];replace hs:=hs.trans jX;have zF:=GV w4 X4 jX;cases hp:x9 st r
    ·rw [hp] at zF;repeat' first|refine aD ?_;intros
     exact zF
    ·rw [hp] at zF;repeat' first|refine aD ?_;intros
     exact zF
  ·intro K2 GV;have de:=Dq.mv hs.mv;repeat' first|refine aD ?_;intros
   refine mP (kt:=3) (et:=111) (.pointer none) de.map iJ kQ kQ (fun vx x' gl hv=>?_) (fun gl=>absurd (hg.symm.trans gl) (by simp));have hv:vx=ptr x'.tb 0:=hv;subst hv;have hxx:x'=x:=Option.some.inj (gl.symm.trans hg);subst hxx;have nk:lr st r=x'.s.next:=by simp [lr,hg]
   repeat' first|refine aD ?_;intros
   refine⟨?_,?_⟩;all_goals
    refine dC (yt (de.tl _ (kE hg)).1 hs.has) kQ hs.has fun w3 X3 dZ=>?_;have aei:=GV w3 X3 dZ;rw [nk] at aei;replace hs:=hs.trans dZ;repeat' first|refine aD ?_;intros
    exact aei
 ·intro K hK;repeat' first|refine aD ?_;intros
  rcases Bool.eq_false_or_eq_true st.told with ht|ht
  rotate_left
  ·rw [ht];rw [ht] at hK;repeat' first|refine aD ?_;intros|(with_reducible apply vO);(case hX=>exact hs.has);(case he=>kernel_rfl);(case hk=>rfl);intro acc w X aq ho;obtain⟨_,_,_,rfl⟩:=ho.sl.form;replace hs:=hs.trans aq
   refine qG (dq:=[Om.l Dp]) (nO.nil w X w0.heap.size).own hs.has hs.kp.size kQ ho.sl (RR rfl) (by simp) (by simp) fun v3 w3 X3 c3 Rh ad0=>?_;have dZ:=hs.dF c3 fun k _ hb=>by cases hb
   exact hK _ _ _ [Dp] dZ ((nO.nil w X w0.heap.size).push c3 Rh (Own.nil _ _ w0.heap.size _ _) (bK _)) (by simp) rfl
  ·rw [ht];rw [ht] at hK;have hsq:=O9.own.sl;repeat' first|refine aD ?_;intros
   obtain⟨q8,hq8⟩: ∃q8,q8=st.q.take 8:=⟨_,rfl⟩;have ahe:st.q.take (min st.q.length 8)=q8:=by
    rw [hq8];by_cases h8:st.q.length≤8
    ·rw [iN h8,aY (bK _),aY h8]
    ·rw [Nat.min_eq_right zQ]
   have aiE:q8.length≤8:=by rw [hq8,aW];omega
   have ahf: ∀x∈q8,x∈st.q:=fun x hx=>by rw [hq8] at hx;exact dW hx
   refine acU (i:=min st.q.length 8) O9.own zQ (by rw [ay];omega) kQ kQ fun v8 Vu=>?_;rw [←pf,ahe] at Vu;rw [←hq8] at hK;have GY:=Vu.sl;clear hsq;repeat' first|refine aD ?_;intros
   refine A7 (fun n a pv v w X=> ∃(j:Nat) (l1:List Om),a=I j∧pv=(kB st.bp ((q8.take j).map Ev.e)).v∧n=q8.length-j∧j≤q8.length∧ak (aS w0) w0 X w∧nO w X w0.heap.size v l1∧l1.length=j∧
    l1.map Om.p=sm st.bp ((q8.take j).map Ev.e)) q8.length ⟨0,[],rfl,rfl,rfl,aN _,hs,nO.nil _ _ _,rfl,rfl⟩ ?_
   clear hs GY;rintro n a pv v w X ⟨j,l1,rfl,rfl,rfl,hj,hs,hO,Zl,RS⟩;have GY:=(Vu.mv hs.mv).sl;rcases eb q8 j with⟨cK,x,hx,hd⟩|⟨dU,hd⟩
   rotate_left
   ·repeat' first|refine bO ?_;intros
    rw [aY dU] at RS;exact hK v w X l1 hs hO zQ RS
   have iE:q8.take (j+1)=q8.take j++[x]:=by rw [bc,hx];rfl
   have hxq:=ahf x (aA hx);have Pa:=(O9.mv hs.mv).ws x hxq;have ox:=Pa.sl.one;repeat' first|refine bO ?_;intros
   refine ek (pH Pa.sl (i.Vr x hxq)) kQ hs.has ?_;rintro vc wa w1 X1 RO hle eD aq;have RP:w0.heap.size≤wa.heap.size:=af hs.kp.size hle;have Eu:=RO.up eD (bK _);have oc:=Eu.sl.one;obtain⟨z1,z2,z3,rfl⟩:=Eu.sl.form;have hO1:=hO.mv aq.mv;replace hs:=hs.trans aq;have fB:=hs.kp.size;clear aq GY;repeat' first|refine aD ?_;intros|(with_reducible apply vO);(case hX=>exact hs.has);(case he=>kernel_rfl);(case hk=>rfl);intro acc w X aq ho;obtain⟨_,_,_,rfl⟩:=ho.sl.form;replace hs:=hs.trans aq
   have Fp:=hO1.mv aq.mv;refine qG (dq:=[(⟨12,31,32,x.bU,0,x.aw,kB st.bp ((q8.take j).map Ev.e),0,0,x.writes,.slice z1 z2 z3⟩:Om).l]) Fp.own hs.has (af fB aq.kp.size) kQ ho.sl (RR oc) (by simp only [ay,bD];omega) (by simp only [ay,bD];omega) fun v6 w6 X6 c6 tR Wv=>?_;have sj:=hs.dF c6 fun k ah hb=>by
    have h1:=(Fp.own.ge hb).1;have ah:k<w0.heap.size:=ah;omega
   have Zk:=Fp.push c6 tR (Eu.mv aq.mv) RP;clear hs;have hs:=sj;repeat' first|refine aD ?_;intros
   refine yU (q8.length-(j+1)) zQ ⟨j+1,_,by simp,?_,rfl,by omega,hs,Zk,by simp only [ae,bD];omega,?_⟩
   ·rw [iE,bo,List.map_singleton,vT];rfl
   ·rw [bo,RS,iE,bo,show List.map Ev.e [x]=[x.e] from rfl,Fo];rfl
end Go.Proofs.YtfndblbeikocdaaGreat
namespace Go.Proofs.YtfndblbeikocdaaGreat
open Go.Proofs.Tryz renaming prog → pg
open Go.bu
set_option maxRecDepth 100000
set_option maxHeartbeats 1000000
set_option linter.unusedVariables false
set_option linter.unusedSimpArgs false
attribute [local irreducible] un jn aF aT ld1 ew st1 dt cB lS dV lT uN tG gq fW ad az aJ eW eV eU eC eF gE au fin aQ aM aH vS xt gp il pR uO xu xv xw xx gm im pS uP xy xz xA
def A8:Int→List (Int×Int)→Bool
 |_,[]=>true
 |p,c::l=>decide (1≤c.1∧c.1≤12∧1≤c.2∧c.2≤100000000∧p<c.1)&&A8 c.1 l
theorem WE {w:World} {X:XS} {s:aK} {vt:Value} {tl:List (Int×Int)} (h:Sl w X 2 vt (tl.map sg)) (ml:A8 0 tl=true∧s.may=true):
  Ct pg 65 #[.agg #[I s.wall,I s.dp,I s.node,vt]] w X nX fun v _ _=>v=B true:=by
 intro w0 hk;replace h:=h.mv hk.cL;have iV:=h.gz;apply Uo;unfold JO;have hs:=ak.init w0;repeat' first|refine aD ?_;intros
 refine eG (fun n a w X=> ∃(i:Nat),a=I (i:Nat)∧n=tl.length-i∧i≤tl.length∧ak (aS w0) w0 X w∧ ∃p:Int,A8 p (tl.drop i)=true∧ ∀c,0<i→tl[i-1]? =some c→c.1=p) tl.length ⟨0,rfl,rfl,aN _,hs,0,ml.1,fun c h=>by omega⟩ ?_;clear hs;rintro n a w X ⟨i,rfl,rfl,hi,hs,p,hp,hpc⟩;have ht:=h.mv hs.mv;rcases eb tl i with⟨cK,c,hx,hd⟩|⟨dU,hd⟩
 ·rw [hd] at hp;unfold A8 at hp;simp only [aV,decide_eq_true_eq] at hp;obtain⟨⟨p1,p2,p3,p4,p5⟩,p6⟩:=hp;have acn:gm (J1 fun n a w X=> ∃(i:Nat),a=I (i:Nat)∧n=tl.length-i∧i≤tl.length∧ak (aS w0) w0 X w∧ ∃p:Int,A8 p (tl.drop i)=true∧ ∀c,0<i→tl[i-1]? =some c→c.1=p) (tl.length-i) (I (i+1)) w X:=
   ep (tl.length-(i+1)) zQ ⟨i+1,by simp,rfl,by omega,hs,c.1,p6,fun c' _ C7=>by rw [show i+1-1=i by omega,hx] at C7;cases C7;rfl⟩
  by_cases h0:i=0
  ·subst h0;repeat' first|refine bO ?_;intros
   exact acn
  ·obtain⟨d,YG⟩: ∃d,tl[i-1]? =some d:=⟨tl[i-1]'zQ,bT zQ⟩;have hpd:=hpc d zQ YG;repeat' first|refine bO ?_;intros
   all_goals exact acn
 ·have hm:=ml.2;repeat' first|refine bO ?_;intros|((with_reducible refine dR (jc _) ?_ hs.has ?_ ?_);(· kernel_rfl);all_goals (intro _ w X aq;replace hs:=hs.trans aq))
  all_goals exact ai hs fun wa bC=>by first|rfl|(exfalso;simp_all)
theorem WG {w0 w:World} {X:XS} {wb:Nat} {vb:Value} {bs:List Nat} {R:Ending→World→Prop} {N:Value→World→XS→Prop} (hs:ak (aS w0) w0 X w) (hW:Wr w X w0.heap.size wb vb bs) (VF:w0.heap.size≤wb) (hb:bs.length≤2^30) (n:Int)
  (k: ∀xJ w' X',ak (aS w0) w0 X' w'→Wr w' X' w0.heap.size wb xJ (bs++encI n)→ef (yV wb vb) X w X' w'→N (.tuple #[]) w' X'):eC pg R X w true 113 #[ptr wb 0,I n] N:=by
 refine Nc (kF (n:=n) hW zQ hs.kp.size) kQ hs.has (fun q hq=>?_) fun v wa w' X' hq hle eD l8 hc=>?_
 ·rcases hq with rfl|hq
  ·exact hW.box.1
  ·exact hW.ow.2.2 q hq
 ·obtain⟨rfl,xJ,Ff⟩:=hq;refine k xJ w' X' (hs.dF hc fun q h0 hq=>?_) (Ff.mv (Mv.sub fun q hq=>?_)) hc
  ·have h0:q<w0.heap.size:=h0;rcases hq with rfl|hq
   ·omega
   ·have:=(hW.ow.ge hq).1;omega
  ·rcases hq with(rfl|hq)|hq
   ·exact hc.sub _ hW.box.1
   ·exact hc.sub q (hW.ow.2.2 q hq)
   ·exact eD q hq
theorem PM {w:World} {X:XS} {s:aK} {vt:Value} {tl:List (Int×Int)} (h:Sl w X 2 vt (tl.map sg)) (hl:tl.length≤2^20):
  Ct pg 67 #[.agg #[I s.wall,I s.dp,I s.node,vt]] w X nX fun v wa w'=> ∃bs:List Nat,Own w' (made wa w') wa.heap.size 5 1 v (bs.map U1)∧bs.length≤40+20*tl.length:=by
 intro w0 hk;replace h:=h.mv hk.cL;apply Nd;unfold Dr;have hs:=ak.init w0;refine ek A9 kQ hs.has ?_;rintro _ wa w1 X1 ⟨wb,rfl,hW⟩ hle eD aq;have VF:w0.heap.size≤wb:=af hle hW.box.1.1;replace hs:=hs.trans aq;have hW1:Wr w1 X1 w0.heap.size wb (.slice none 0 0) []:=⟨hW.box.mono eD,hW.ow.up eD hle⟩;have ht:=h.mv hs.mv;repeat' first|refine aD ?_;intros
 obtain⟨xs,wh⟩: ∃xs:List Int,xs=[s.wall,s.dp,s.node,(tl.length:Int)]:=⟨_,rfl⟩;refine WH (rows:=xs.map I1) #[I s.wall,I s.dp,I s.node,I tl.length] (I 0) hs.has (bytes:=8) kQ kQ zQ zQ kQ (by rw [wh];simp) (by rw [wh];rfl) (by rw [wh];rfl) fun v2 w2 X2 dI jb=>?_;have jb:=jb.low hs.kp.size;replace hs:=hs.trans dI;have hW2:=hW1.mv dI.mv;have RU:xs.length=4:=by rw [wh];rfl
 have mg:=jb.sl;clear ht aq dI;refine yP mg kQ ?_;refine eG (fun n a w X=> ∃(i:Nat) (vb:Value) (bs:List Nat),a=I i∧n=xs.length-i∧i≤xs.length∧ak (aS w0) w0 X w∧Wr w X w0.heap.size wb vb bs∧Own w X w0.heap.size 3 1 v2 (xs.map I1)∧bs.length≤10*i) xs.length ⟨0,_,[],rfl,rfl,aN _,hs,hW2,jb,by simp⟩ ?_;clear hs mg hW2 jb hW1 hW eD hle;rintro n a w X ⟨i,vb,bs,rfl,rfl,hi,hs,hW,ho,Pc⟩;have mg:=ho.sl;rcases eb xs i with⟨cK,x,hx,hd⟩|⟨dU,hd⟩
 ·repeat' first|refine bO ?_;intros
  refine WG hs hW VF zQ x fun xJ w' X' rE Ff c=>?_;have tF:=ho.dF c fun g hg hf=>by
   rcases hf with rfl|hf
   ·exact Own.gd ho hW.box kQ hg
   ·exact jA ho hW.ow (by decide) hg hf
  have GL:=fe x;clear hs;have hs:=rE;repeat' first|refine aD ?_;intros
  exact ep (xs.length-(i+1)) zQ ⟨i+1,xJ,_,by simp,rfl,by omega,hs,Ff,tF,by rw [ae];omega⟩
 have ahg:bs.length≤40:=by omega
 have ht:=h.mv hs.mv;repeat' first|refine bO ?_;intros
 refine eG (fun n a w X=> ∃(j:Nat) (vb:Value) (bs:List Nat),a=I j∧n=tl.length-j∧j≤tl.length∧ak (aS w0) w0 X w∧Wr w X w0.heap.size wb vb bs∧bs.length≤40+20*j) tl.length ⟨0,vb,bs,rfl,rfl,aN _,hs,hW,by omega⟩ ?_;clear hs mg hW ho ht Pc ahg hd dU hi;rintro n a w X ⟨j,vb,bs,rfl,rfl,hj,hs,hW,Pc⟩;have ht:=h.mv hs.mv;rcases eb tl j with⟨cK,c,hx,hd⟩|⟨dU,hd⟩
 ·repeat' first|refine bO ?_;intros
  refine WG hs hW VF zQ c.1 fun xJ w' X' rE Ff c'=>?_;have GL:=fe c.1;clear hs;have hs:=rE;repeat' first|refine aD ?_;intros
  refine WG hs Ff VF (by rw [ae];omega) c.2 fun gy w2 X2 dI hW2 c2=>?_;have aiF:=fe c.2;clear hs;have hs:=dI;repeat' first|refine aD ?_;intros
  exact ep (tl.length-(j+1)) zQ ⟨j+1,gy,_,by simp,rfl,by omega,hs,hW2,by simp only [ae];omega⟩
 ·repeat' first|refine bO ?_;intros
  refine ek (GZ hW zQ) kQ hs.has ?_;rintro v3 AU w3 X3 Rh x6 tv dZ;have RP:w0.heap.size≤AU.heap.size:=af hs.kp.size x6;replace hs:=hs.trans dZ
  skip
  exact ai hs fun wa bC=>⟨bs,((Rh.up tv RP).kp bC).tight,by omega⟩
end Go.Proofs.YtfndblbeikocdaaGreat
