/-
 Part 15 of the proof: what the last text leans on.
-/
import Derived.Test.YtfndblbeikocdaaGreatW14
open Nat renaming le_trans → af, zero_le → aL, le_refl → bP, eq_zero_or_pos → du, le_succ → sA, lt_of_lt_of_le → aN, min_eq_left → iV
open List renaming length_map → aA, length_singleton → bF, mem_of_getElem? → aH, map_append → bp, length_take → aX, length_append → ae, take_of_length_le → ba, getElem?_map → dD, take_add_one → bg, length_filter_le → eI, map_take → pV, mem_of_mem_take → ee, mem_cons_self → dt, mem_cons_of_mem → bK, find?_cons → b8, length_cons → bT, getElem?_eq_getElem → cd, getLast?_map → ql, mem_cons → gp, not_mem_nil → fW, length_drop → dR, mem_of_mem_drop → ec, foldl_cons → il, filter_map → yb, filter_append → ei
open Bool renaming and_eq_true → aY
open Option renaming isSome_some → pI
set_option linter.unusedVariables false
set_option linter.unusedSimpArgs false
namespace Go.Proofs.YtfndblbeikocdaaGreat
open Go.Proofs.Tryz renaming prog → pg
open Go.bB
set_option maxRecDepth 100000
set_option maxHeartbeats 1000000
set_option linter.unusedVariables false
set_option linter.unusedSimpArgs false
attribute [local irreducible] un jn aI aT ld1 ek st1 cA cp mE ea mF wh vy gG ga ab ax ay eW eV eU eC eF gE au fin aM aP aF vS y9 gg ix rr wi wj za zc zd fY iy ru wm wo ze zf
structure Nr (b:Nat) (r:Int) (x:fX):Prop where
 inv:qU b (cont x.m)
 cl:x.s.closed.may=true
 nx:1≤x.s.next
 id:x.s.id=r
 sz: ∀e∈cont x.m,e.2.1.writes.length≤2^18
theorem Nr.up {b b':Nat} {r:Int} {x:fX} (h:Nr b r x) (hb:b≤b'):Nr b' r x:=⟨h.inv.up hb,h.cl,h.nx,h.id,h.sz⟩
structure fD (b:Nat) (s:dM):Prop where
 room:1≤s.room∧s.room≤64
 gH: ∀x∈s.fs,1≤x.1∧x.1≤12
 BS:s.fs.length≤b
 TN: ∀x∈s.fs,x.2.may=true
 keys: ∀r,(getM r s.b7).isSome=(getM r s.fs).isSome
 tok: ∀x∈s.b7,Nr b x.1 x.2
 held:rS (s.hl.map (·.2)) s.high
 len:s.q.length+s.hl.length≤b
 fN: ∀x∈s.hl,x.2.writes.length≤2^18
 pr:yz (s.q.map Ev.e) s.bA s.high
 W5: ∀x∈s.q,x.writes.length≤2^40
 nz:s.holds.length≤b
 cur: ∀c∈s.tl,1≤c.2∧c.2≤100000000
theorem fD.up {b b':Nat} {s:dM} (h:fD b s) (hb:b≤b'):fD b' s:=
 { h with BS:=af h.BS hb,tok:=fun x hx=>(h.tok x hx).up hb,len:=af h.len hb,nz:=af h.nz hb }
theorem TO {κ α:Type} [DecidableEq κ] {k:κ} {a:α} : ∀l:List (κ×α),(bU k a l).length≤l.length+1
 |[]=>by simp [bU]
 |x::l=>by
  unfold bU;split
  ·simp
  ·have:=TO (k:=k) (a:=a) l;simp only [bT];omega
theorem fD.ah1 {b:Nat} {s:dM} {id next:Int} {gb:aO} {x:fX} (h:fD b s) (hf:(s.fs.map (·.1)).Nodup) (ht:(s.b7.map (·.1)).Nodup) (M4:1≤id∧id≤12) (nJ:1≤next) (ha:gb.may=true) (hs:x.s=⟨id,next,.zero⟩) (hm:x.m=[]):
  fD (b+1) { s with b7:=bU id x s.b7,fs:=bU id gb s.fs } :=
 { h.up (sA b)with
  gH:=fun y hy=>by
   rcases fB hf hy with rfl|⟨hy,_⟩
   ·exact M4
   ·exact h.gH y hy
  BS:=by have:=TO (k:=id) (a:=gb) s.fs;have:=h.BS;show(bU id gb s.fs).length≤b+1;omega
  TN:=fun y hy=>by
   rcases fB hf hy with rfl|⟨hy,_⟩
   ·exact ha
   ·exact h.TN y hy
  keys:=fun r=>by
   by_cases hr:r=id
   ·subst hr;simp only [lJ,pI]
   ·simp only [mq hr];exact h.keys r
  tok:=fun y hy=>by
   rcases fB ht hy with rfl|⟨hy,_⟩
   ·exact⟨by rw [hm];exact qU.nil _,by rw [hs];rfl,by rw [hs];exact nJ,by rw [hs],by rw [hm];simp⟩
   ·exact(h.tok y hy).up (sA b) }
def Gr (own dC:Nat→Nat) (wa w':World):Prop:= ∀k,dC k≠0→own k≠0∨made wa w' k
theorem Gr.refl (own:Nat→Nat) (wa w':World):Gr own own wa w':=fun _ h=>.inl h
theorem Eb {own:Nat→Nat} {w w':World} {X X' G:XS} {p:Nat} (c:eo G X w X' w') (hX: ∀k,all own k→X k) (hG: ∀k,G k→ik own p k): ∀q,q≠p→q≠0→Mv (ik own q) w (ik own q) w':=fun q hq h0 k hk _=>
 ⟨hk,c.block k (hX k (cJ h0 k hk)) fun hg=>hq (by have h1:own k=p:=hG k hg;have h2:own k=q:=hk;rw [←h2,h1])⟩
theorem eZ.tight {w:World} {F:XS} {mb sb fb:Nat} {room:Int} {high:aO} {fs:List (Int×aO)} (h:eZ w F mb sb fb room high fs):eZ w (fun k=>k=mb∨k=fb) mb sb fb room high fs:=
 ⟨⟨.inl rfl,h.row.2⟩,TE h.m (.inr rfl)⟩
theorem eZ.two {w:World} {F:XS} {mb sb fb:Nat} {room:Int} {high:aO} {fs:List (Int×aO)} (h:eZ w F mb sb fb room high fs): ∀k,k=mb∨k=fb→F k:=fun k hk=>by
 rcases hk with rfl|rfl
 ·exact h.row.1
 ·exact h.fb
theorem gD.reM {w w':World} {F X X':XS} {mb sb fb:Nat} {hv:Value} {room ade:Int} {high No:aO} {fs fs':List (Int×aO)} {hl:List FV} (h:gD w F mb sb fb hv room high fs hl) (hX: ∀k,F k→X k)
  (c:eo (fun k=>k=mb∨k=fb) X w X' w') (hm:eZ w' (fun k=>k=mb∨k=fb) mb sb fb ade No fs'):gD w' F mb sb fb hv ade No fs' hl:=
 ⟨hm.mv (Mv.sub (eZ.two h.m)),h.h.tight.mv fun k hk _=>⟨h.h.sub k hk,c.block k (hX k (h.h.sub k hk)) fun e=>by
  rcases e with rfl|rfl
  ·exact h.apM hk
  ·exact h.apF hk⟩⟩
theorem K0 {w:World} {X:XS} {own:Nat→Nat} {nb:Nat} {st:dM} {id next:Int} {gb:aO} {b:Nat} (h:cC w own nb st) (i:fD b st) (hF:FX (all own) X w) (M4:1≤id∧id≤12) (nJ:1≤next∧next≤100000000)
  (ht:getM id st.b7=none) (ha:gb.may=true):
  Ct pg 27 #[ptr nb 0,I id,I next,gb.v] w X (all own) fun v wa w'=>v= .tuple #[]∧ ∃dC x,Gr own dC wa w'∧cC w' dC nb { st with b7:=bU id x st.b7,fs:=bU id gb st.fs } ∧
   fD (b+1) { st with b7:=bU id x st.b7,fs:=bU id gb st.fs } ∧x.s=⟨id,next,.zero⟩∧x.m=[]:=by
 intro w0 hk;have hT:=hF.ft hk;replace h:=h.kp hk fun k ah=>(hF k ah).1;have bH:=h.row.mv (Mv.sub fun k ah=>hT.bm k (cJ (p:=1) (by decide) k ah));have hf:(getM id st.fs).isSome=false:=by rw [←i.keys,ht];rfl
 apply JM;unfold Ak;have hs:=aj.init w0;repeat' first|refine aG ?_;intros
 refine ep (MH id next) kQ hT.s.has ?_;rintro v wa w1 X1 hq hle eH ao;rw [if_neg zQ] at hq;obtain⟨tb,mb,rfl,pM⟩:=hq;have dq:=hT.since ao;have h1:=h.since ao hT.bm;have jq:=bH.mv ao.mv;replace hs:=hs.trans ao;repeat' first|refine aG ?_;intros
 have hTx:=(pM.exact.wide eH);have mT: ∀k,qx tb mb [] k→w0.heap.size≤k∧X1 k∧made wa w1 k:=fun k ah=>by
  have:=dr.Gw (x:=⟨tb,mb,[],_⟩) pM.exact k ah;exact⟨af hle this.1.1,eH k this.1,this.1⟩
 refine sU (kt:=3) (et:=111) (a:=(⟨tb,mb,[],⟨id,next,.zero⟩⟩:fX)) (h1.lX.mv (Mv.sub fun k ah=>dq.bm k (cJ (p:=5) (by decide) k ah))).map BQ rfl (fun _ hk=>hk.elim) iS kQ dq.s.has fun w2 X2 c2 pf=>?_;have mf:=h.lX.map.nodup;have abU:=h.oS.m.m.nodup;have c02:eo (fun k=>k=st.kT) (aR w0) w0 X2 w2:=(eo.qW ao _).trans c2;have Nq:own st.kT=5:=h.lX.map.x.1;have cI: ∀k,all own k→k<w0.heap.size:=hT.bm;obtain⟨x,rfl⟩: ∃x:fX,x=⟨tb,mb,[],⟨id,next,.zero⟩⟩:=⟨_,rfl⟩;obtain⟨dC,q1,q2,q3,_⟩:=A6 (own:=own) (p:=5) (F':=fun k=>ik own 5 k∨qx tb mb [] k) (by decide) c02 hT.bm (fun k ah=>by have e:k=st.kT:=ah;rw [e];exact Nq) (fun k ah=>ah.imp (fun h=>h) fun h=>(mT k h).1);have hG: ∀k,all dC k→all own k∨(X1 k∧w0.heap.size≤k):=fun k ah=>by
  rcases q3 k ah with h9|h9|h9
  ·exact .inl h9
  ·exact .inl (cJ (by decide) k h9)
  ·exact .inr ⟨(mT k h9).2.1,(mT k h9).1⟩
 have abV:lh w2 (ik dC 5) st.kT (bU id (⟨tb,mb,[],⟨id,next,.zero⟩⟩:fX) st.b7):=by
  refine lh.put (w:=w0) (F:=ik own 5) (F1:=X1) (X1:=X1) h1.lX (fun k ah=>⟨dq.bm k (cJ (by decide) k ah),cI k (cJ (by decide) k ah)⟩) hTx ⟨by simp,by simp⟩ (fun k ah=>(mT k ah).1) (fun k ah=>ah) c2 pf (fun k ah=>q1 k (.inl ah)) fun k ah=>q1 k (.inr ah)
 have h2:cC w2 dC nb { st with b7:=bU id (⟨tb,mb,[],⟨id,next,.zero⟩⟩:fX) st.b7 } :=
  ⟨h.row.mv (q2 1 (by decide) (by decide)),h.oS.mv (q2 2 (by decide) (by decide)),h.pr.mv (q2 3 (by decide) (by decide)),h.nz.mv (q2 4 (by decide) (by decide)),abV,h.tS.mv (q2 6 (by decide) (by decide))⟩
 have cq:Ft w0 (all own) w2 X2 (all dC):=(dq.dK c2 (F':=all own) (fun k ah=>by subst ah;exact cJ (p:=5) (by decide) _ Nq) fun k ah=>.inl ah).more fun k ah=>(hG k ah).imp (fun h=>h) fun h=>⟨c2.sub k h.1,h.2⟩;have kA:=h2.row.mv (Mv.sub fun k ah=>cq.bm k (cJ (p:=1) (by decide) k ah));clear bH jq hs;have hs:=cq.s;repeat' first|refine aG ?_;intros
 have jN: ∀k,ik dC 2 k→all dC k:=cJ (by decide);refine cq.call (TF h2.oS.m.tight (cq.fx fun k ah=>jN k (eZ.two h2.oS.m k ah))) kQ (fun k ah=>jN k (eZ.two h2.oS.m k ah)) ?_;rintro _ Ad w3 X3 ⟨rfl,QA⟩ wT rP dG c3;have he:qi id gb st.fs=0:=by
  have hn:getM id st.fs=none:=by simpa using hf
  unfold qi;rw [if_neg zQ,ha,hn];rfl
 rw [he,if_pos rfl] at QA;have Gn:gD w3 (ik dC 2) st.mb st.sb st.fb st.hv st.room st.high (bU id gb st.fs) st.hl:=h2.oS.reM (fun k ah=>cq.bm k (jN k ah)) c3 QA;have v3:=Eb (p:=2) c3 cq.bm fun k ah=>eZ.two h2.oS.m k ah;have h3:cC w3 dC nb { st with b7:=bU id (⟨tb,mb,[],⟨id,next,.zero⟩⟩:fX) st.b7,fs:=bU id gb st.fs } :=
  ⟨h2.row.mv (v3 1 (by decide) (by decide)),Gn,h2.pr.mv (v3 3 (by decide) (by decide)),h2.nz.mv (v3 4 (by decide) (by decide)),h2.lX.mv (v3 5 (by decide) (by decide)),h2.tS.mv (v3 6 (by decide) (by decide))⟩
 clear hs;have hs:=dG.s
 skip
 exact dG.fin fun wa bD=>⟨rfl,dC,⟨tb,mb,[],⟨id,next,.zero⟩⟩,fun k ah=>(hG k ah).imp (fun h=>h) fun h=>⟨h.2,aN (dG.s.has k (c3.sub k (c2.sub k h.1))) bD.size⟩,
  h3.kp bD fun k ah=>dG.bm k (.inl ah),i.ah1 abU mf M4 nJ.1 ha rfl rfl,rfl,rfl⟩
theorem fD.ah2 {b:Nat} {s:dM} {f:eM} {jE:List FV} {kg Ns:Value} {sn:aO} {si:List fQ} (h:fD b s) (hf:f.writes.length≤2^18) (hh:si.length≤b+1)
  (ha:if jL s.high s.fs s.hl f=0 then Nf s.hl jE f else jE=s.hl):fD (b+1) { s with seen:=sn,holds:=si,ov:=Ns,hl:=jE,hv:=kg } :=by
 have h1:=h.up (sA b);split at ha
 ·rename_i he;obtain⟨i,vw,hp,rfl⟩:=ha;have lK:f.may=true:=by
   cases hm:f.may
   ·simp [jL,hm] at he
   ·rfl
  have fZ: ¬f.aw.cmp s.high≤0:=fun hc=>by
   unfold jL at he;rw [if_neg (by simp [lK])] at he;split at he
   ·cases he
   ·cases he
  have Dp:(s.hl.map (·.2)).any f.zu=false:=by
   unfold jL at he;rw [if_neg (by simp [lK])] at he;split at he
   ·cases he
   ·unfold lE at he;rw [if_neg (by simp [lK])] at he;split at he
    ·cases he
    ·split at he
     ·cases he
     ·rename_i hq;simpa using hq
  have eH:=h.held.ins (f:=f) (i:=i) (fun x hx=>by
   obtain⟨j,hj⟩:=List.mem_iff_getElem?.1 hx;have qB:=(List.getElem?_eq_some_iff.1 hj).1;rw [List.getElem?_take_of_lt (by rw [aX] at qB;omega),dD] at hj;obtain⟨y,hy,rfl⟩:=Option.map_eq_some_iff.1 hj;exact hp.lo j y (by rw [aX] at qB;omega) hy) (fun x hx=>by
   obtain⟨j,hj⟩:=List.mem_iff_getElem?.1 hx;rw [List.getElem?_drop,dD] at hj;obtain⟨y,hy,rfl⟩:=Option.map_eq_some_iff.1 hj;exact hp.hi (i+j) y zQ hy) lK Dp (by rw [D9];omega)
  refine { h1 with held:=?_,len:=?_,fN:=fun x hx=>?_,nz:=hh }
  ·simpa [pV,List.map_drop] using eH
  ·have:=h.len;have:=hp.le;simp only [ae,aX,bF,dR];omega
  ·simp only [List.mem_append,List.mem_singleton] at hx;rcases hx with(hx|hx)|hx
   ·exact h.fN x (ee hx)
   ·rw [hx];exact hf
   ·exact h.fN x (ec hx)
 ·subst ha;exact { h1 with nz:=hh }
theorem rS.qV {hl:List FV} {high:aO} (h:rS (hl.map (·.2)) high) {f:eM} : ∀(i j:Nat) x y,i<j→hl[i]? =some x→hl[j]? =some y→y.2.cmp f<0→x.2.cmp f<0:=fun i j x y y8 hx hy hyf=>by
 obtain⟨hi,rfl⟩:=List.getElem?_eq_some_iff.1 hx;obtain⟨hj,rfl⟩:=List.getElem?_eq_some_iff.1 hy;have:=List.pairwise_iff_getElem.1 h.ord i j (by simpa using hi) (by simpa using hj) y8;simp only [List.getElem_map] at this;exact adI this hyf
theorem adJ {f:eM} (h:f.may=true):1≤f.gH∧f.gH≤12:=by
 unfold eM.may at h;simp only [aY,decide_eq_true_eq] at h;exact⟨h.1.1,h.1.2.1⟩
theorem fD.hr {b:Nat} {s:dM} (h:fD b s): ∀x∈s.hl,1≤x.2.gH∧x.2.gH≤12:=fun x hx=>adJ (h.held.may x.2 (List.mem_map.2 ⟨x,hx,rfl⟩))
def xj (bA:aO) (hs:List fQ) (f:eM):List fQ:=if gn bA f.aw=true∧ ¬(⟨f.gH,f.gb,f.aw⟩:fQ)∈hs then hs++[⟨f.gH,f.gb,f.aw⟩] else hs
theorem Nt {w:World} {X S:XS} {own:Nat→Nat} {nb:Nat} {st:dM} {f:eM} {vw:Value} {b:Nat} (h:cC w own nb st) (i:fD b st) (hb:b≤2^30) (hF:FX (all own) X w)
  (hw:Sl w S 4 vw (f.writes.map KV.l)) (hS: ∀k,S k→X k∧(own k=0∨own k=5)) (hfw:f.writes.length≤2^18):
  Ct pg 80 #[ptr nb 0,f.v vw] w X (all own) fun v wa w'=>v= .tuple #[]∧ ∃dC Ns jE kg,Gr own dC wa w'∧
   cC w' dC nb { st with seen:=st.seen.later f.aw,holds:=xj st.bA st.holds f,ov:=Ns,hl:=jE,hv:=kg } ∧fD (b+1) { st with seen:=st.seen.later f.aw,holds:=xj st.bA st.holds f,ov:=Ns,hl:=jE,hv:=kg } :=by
 intro w0 hk;have hT:=hF.ft hk;replace h:=h.kp hk fun k ah=>(hF k ah).1;have CH:Sl w0 (fun k=>k<w0.heap.size∧(own k=0∨own k=5)) 4 vw (f.writes.map KV.l):=hw.mv fun k ah jE=>⟨⟨aN jE hk.size,(hS k ah).2⟩,hk.block k (hS k ah).1⟩;have o1:=CH.one;obtain⟨b1,n1,c1,rfl⟩:=CH.form;have bH:=h.row.mv (Mv.sub fun k ah=>hT.bm k (cJ (p:=1) (by decide) k ah));have oq:=h.pr.own.sl.one;have oo:=h.nz.sl.one;have om:=h.tS.one;apply Ec;unfold vH;have hs:=aj.init w0;repeat' first|refine aG ?_;intros
 refine gh (ui _ _) kQ hT.s.has fun w1 X1 xY=>?_;have dq:=hT.since xY;have h1:=h.since xY hT.bm;have jq:=bH.mv xY.mv;clear hs bH;have hs:=dq.s;repeat' first|refine aG ?_;intros
 refine Je (o:=13) jq zQ kQ (by simp) rfl rfl dq.s.has fun w2 X2 c2 uf=>?_;have h2:cC w2 own nb { st with seen:=st.seen.later f.aw } :=cC.put h1.row.1 dq.bm c2 uf h1.oS h1.pr h1.nz h1.lX h1.tS;have cq:Ft w0 (all own) w2 X2 (all own):=dq.dK c2 (fun k ah=>by subst ah;exact cJ (p:=1) (by decide) _ h.row.1) fun k ah=>.inl ah;have kA:=h2.row.mv (Mv.sub fun k ah=>cq.bm k (cJ (p:=1) (by decide) k ah));clear hs jq uf;have hs:=cq.s;repeat' first|refine aG ?_;intros
 refine dH (AR (st:= { st with seen:=st.seen.later f.aw }) (s:=f.aw) kA) kQ cq.s.has fun w3 X3 dZ=>?_;have dG:=cq.since dZ;have h3:=h2.since dZ cq.bm;have iq:=kA.mv dZ.mv;clear hs kA;have hs:=dG.s;have RR:xj st.bA st.holds f=st.holds→ ∀{wz:World} {Xz:XS},Ft w0 (all own) wz Xz (all own)→cC wz own nb { st with seen:=st.seen.later f.aw } → ∀wa,Kp Xz wz wa→Value.tuple #[]= .tuple #[]∧ ∃dC Ns jE kg,Gr own dC w0 wa∧
   cC wa dC nb { st with seen:=st.seen.later f.aw,holds:=xj st.bA st.holds f,ov:=Ns,hl:=jE,hv:=kg } ∧fD (b+1) { st with seen:=st.seen.later f.aw,holds:=xj st.bA st.holds f,ov:=Ns,hl:=jE,hv:=kg } :=by
  intro e;rw [e];exact fun hT h wa bD=>⟨rfl,own,st.ov,st.hl,st.hv,Gr.refl _ _ _,h.kp bD hT.bm,{ i.up (sA b)with }⟩
 cases hn:gn st.bA f.aw
 ·repeat' first|refine aG ?_;intros|with_reducible apply dJ
  exact dG.fin fun wa bD=>RR (by simp [xj,hn]) dG h3 wa bD
 repeat' first|refine aG ?_;intros|with_reducible apply dJ
 refine dH (LN (h:=⟨f.gH,f.gb,f.aw⟩) (h3.nz.sl.mv (Mv.sub fun k ah=>dG.bm k (cJ (p:=4) (by decide) k ah)))) kQ dG.s.has fun w4 X4 j6=>?_;have fk:=dG.since j6;have h4:=h3.since j6 dG.bm;have th:=iq.mv j6.mv;clear hs iq;have hs:=fk.s;by_cases eH:(⟨f.gH,f.gb,f.aw⟩:fQ)∈st.holds
 ·have e:decide ((⟨f.gH,f.gb,f.aw⟩:fQ)∈st.holds)=true:=by simpa using eH
  rw [e];repeat' first|refine aG ?_;intros
  exact fk.fin fun wa bD=>RR (by simp [xj,eH]) fk h4 wa bD
 have e:decide ((⟨f.gH,f.gb,f.aw⟩:fQ)∈st.holds)=false:=by simpa using eH
 rw [e];repeat' first|refine aG ?_;intros|(with_reducible apply wX);(case hX=>exact hs.has);(case he=>kernel_rfl);(case hk=>rfl);intro acc w X ao ho;obtain⟨_,_,_,rfl⟩:=ho.sl.form;replace hs:=hs.trans ao
 have fU:=fk.since ao;have h5:=h4.since ao fk.bm;have ti:=th.mv ao.mv;clear hs th;have abW:Own w X 0 102 5 st.ov (st.holds.map fQ.l):=h5.nz.mono fun k ah=>fU.bm k (cJ (p:=4) (by decide) k ah);have hhb:=i.nz;refine rG (dw:=[fQ.l (⟨f.gH,f.gb,f.aw⟩:fQ)]) abW fU.s.has (aL _) kQ ho.sl (by simp [bB.one]) (by simp only [aA,bF];omega) (by simp only [aA,bF];omega) fun v6 w6 X6 c6 uF Yz=>?_;have hb6: ∀k,dP v6 k→own k=4∨w.heap.size≤k:=fun k ah=>by
  rcases Yz with h9|⟨g,h9,fR⟩
  ·exact .inl (h5.nz.2.2 k (by rw [←h9];exact ah))
  ·have ah:v6.ownBlock=some k:=ah;rw [h9] at ah;cases ah;exact .inr fR
 have hbo: ∀k,dP st.ov k→own k=4:=fun k ah=>h5.nz.2.2 k ah;obtain⟨rU,q1,q2,q3,q4⟩:=A6 (own:=own) (p:=4) (F':=dP v6) (by decide) c6 fU.bm hbo hb6;have abX:Own w6 (ik rU 4) 0 102 5 v6 ((st.holds++[(⟨f.gH,f.gb,f.aw⟩:fQ)]).map fQ.l):=by
  rw [bp];exact⟨uF.1,uF.2.1,fun g hg=>q1 g hg⟩
 have gU:Ft w0 (all own) w6 X6 (all rU):=fU.dK c6 (fun k ah=>cJ (p:=4) (by decide) k (hbo k ah)) fun k ah=>by
  rcases q3 k ah with h9|h9
  ·exact .inl h9
  ·rcases hb6 k h9 with fR|fR
   ·exact .inl (cJ (p:=4) (by decide) k fR)
   ·exact .inr ⟨uF.2.2 k h9,fR⟩
 have LP:=h5.row.mv (q2 1 (by decide) (by decide));have AS:=LP.mv (Mv.sub fun k ah=>gU.bm k (cJ (p:=1) (by decide) k ah));clear ti;have hs:=gU.s;repeat' first|refine aG ?_;intros
 refine AN (o:=12) AS zQ kQ (by simp) uF.sl.one gU.s.has fun w7 X7 c7 W6=>?_;have h7:cC w7 rU nb { st with seen:=st.seen.later f.aw,holds:=st.holds++[⟨f.gH,f.gb,f.aw⟩],ov:=v6 } :=
  cC.put LP.1 gU.bm c7 W6 (h5.oS.mv (q2 2 (by decide) (by decide))) (h5.pr.mv (q2 3 (by decide) (by decide))) abX (h5.lX.mv (q2 5 (by decide) (by decide))) (h5.tS.mv (q2 6 (by decide) (by decide)))
 have nv:Ft w0 (all own) w7 X7 (all rU):=gU.dK c7 (fun k ah=>by subst ah;exact cJ (p:=1) (by decide) _ LP.1) fun k ah=>.inl ah;have Jo:=h7.row.mv (Mv.sub fun k ah=>nv.bm k (cJ (p:=1) (by decide) k ah));clear hs AS W6;have hs:=nv.s;repeat' first|refine aG ?_;intros
 have zx: ∀k,k<w0.heap.size→X1 k:=fun k ah=>xY.sub k ah;have Aj: ∀k,k<w0.heap.size→X2 k:=fun k ah=>c2.sub k (zx k ah);have hx3: ∀k,k<w0.heap.size→X3 k:=fun k ah=>dZ.sub k (Aj k ah);have hx4: ∀k,k<w0.heap.size→X4 k:=fun k ah=>j6.sub k (hx3 k ah);have Gm: ∀k,k<w0.heap.size→X k:=fun k ah=>ao.sub k (hx4 k ah);have hx6: ∀k,k<w0.heap.size→X6 k:=fun k ah=>c6.sub k (Gm k ah);have j5:own nb=1:=h.row.1;have hc: ∀k,(own k=0∨own k=5)→k≠nb∧ ¬dP st.ov k:=fun k ah=>⟨fun e=>by rw [e,j5] at ah;omega,fun e=>by have:=hbo k e;omega⟩;have hw7:=CH.mv (((((((xY.jQ fun k ah=>ah.1).trans (c2.kf fun k ah=>⟨zx k ah.1,(hc k ah.2).1⟩)).trans (dZ.jQ fun k ah=>Aj k ah.1)).trans (j6.jQ fun k ah=>hx3 k ah.1)).trans (ao.jQ fun k ah=>hx4 k ah.1)).trans
  (c6.kf fun k ah=>⟨Gm k ah.1,(hc k ah.2).2⟩)).trans (c7.kf fun k ah=>⟨hx6 k ah.1,(hc k ah.2).1⟩))
 have jN: ∀k,ik rU 2 k→all rU k:=cJ (by decide);have hlen:=i.len;refine nv.call (VX h7.oS (nv.fx jN) hw7 (fun k ah=>⟨c7.sub k (hx6 k ah.1),fun e=>by have:=q4 2 k (by decide) (by decide) e;have:=ah.2;omega⟩) i.hr zQ (show st.hl.length≤2^39 by omega) fun _=>i.held.qV) kQ jN ?_;rintro _ wa8 w8 X8 ⟨rfl,FM,hv8,hl8,hFM,hM8,hA8⟩ YA ae8 s4 c8;have ah3: ∀k,FM k→rU k=2∨w7.heap.size≤k:=fun k ah=>(hFM k ah).imp (fun h=>h) fun h=>af YA h.1;obtain⟨yA,r1,r2,r3,r4⟩:=A6 (own:=rU) (p:=2) (F':=FM) (by decide) c8 nv.bm (fun k ah=>ah) ah3;have h8:cC w8 yA nb { st with seen:=st.seen.later f.aw,holds:=st.holds++[⟨f.gH,f.gb,f.aw⟩],ov:=v6,hl:=hl8,hv:=hv8 } :=
  ⟨h7.row.mv (r2 1 (by decide) (by decide)),hM8.mv (Mv.sub r1),h7.pr.mv (r2 3 (by decide) (by decide)),h7.nz.mv (r2 4 (by decide) (by decide)),h7.lX.mv (r2 5 (by decide) (by decide)),h7.tS.mv (r2 6 (by decide) (by decide))⟩
 have Ii:Ft w0 (all own) w8 X8 (all yA):=s4.less fun k ah=>(r3 k ah).elim .inl fun h9=>(hFM k h9).elim (fun fR=>.inl (jN k fR)) .inr;clear hs;have hs:=Ii.s
 skip
 have hfh:xj st.bA st.holds f=st.holds++[⟨f.gH,f.gb,f.aw⟩]:=by simp [xj,hn,eH]
 rw [hfh];exact Ii.fin fun wa bD=>⟨rfl,yA,_,_,_,Ii.oT bD fun k ah=>ah,h8.kp bD Ii.bm,i.ah2 hfw (by simp only [ae,bF];omega) hA8⟩
structure Rec.sz (r:Rec):Prop where
 w:r.writes.length≤2^18
 p: ∀p∈r.state.eK,p.writes.length≤2^18
theorem Nu {r:Rec} (h:r.err=0):r.lI=true:=by
 unfold Rec.err at h;split at h
 ·cases h
 ·split at h
  ·cases h
  ·rename_i h2;cases hf:r.lI<;>simp_all
theorem QC {s:iC} {m:eQ} {n:Int} {r:Rec} (h:jM s m n r=0):r.err=0∧n≤99999999:=by
 unfold jM at h;split at h
 ·cases h
 ·split at h
  ·cases h
  ·rename_i h1 h2;exact⟨by simpa using h2,by omega⟩
theorem QD {r:Rec} (h:r.lI=true):(r.kind=1→r.state.closed.may=true)∧(r.kind=5∨r.kind=6→r.aw.may=true)∧(r.kind=6→1≤r.n∧r.n≤12):=by
 unfold Rec.lI at h;refine⟨fun hk=>?_,fun hk=>?_,fun hk=>?_⟩
 ·rw [if_pos hk] at h;unfold State.may at h;simp only [aY] at h;exact h.1.1.2
 ·rcases hk with hk|hk
  ·simpa [hk] using h
  ·simp only [hk,Int.reduceEq,if_false,if_true,aY] at h;exact h.2
 ·simp only [hk,Int.reduceEq,if_false,if_true,aY,qd,decide_eq_true_eq] at h;omega
theorem TP: ∀(c:mm) {s:aO},s.may=true→(Dc s c).may=true
 |[],s,h=>h
 |e::c,s,h=>by
  unfold Dc;rw [il];refine TP c (s:=if e.2.1.aw.qP.1.cmp s<0 then e.2.1.aw.qP.1 else s) ?_;split
  ·exact aaB _
  ·exact h
theorem K1 {n:Int} : ∀{l:List dB} {c:mm} {e:eh×dB×Int},e∈l.foldl (fun c p=>bU p.b6 (p,n) c) c→e∈c∨ ∃p∈l,e.2.1=p
 |[],c,e,h=>.inl h
 |p::l,c,e,h=>by
  rw [il] at h;rcases K1 h with h|⟨q,hq,h⟩
  ·rcases Bq h with rfl|h
   ·exact .inr ⟨p,dt,rfl⟩
   ·exact .inl h
  ·exact .inr ⟨q,bK _ hq,h⟩
theorem Nr.feed {b:Nat} {q:Int} {x x':fX} {n:Int} {r:Rec} (h:Nr b q x) (he:jM x.s x.m n r=0) (jv:r.small) (fN:r.sz) (hc:cont x'.m=lZ n r (cont x.m)) (hs:x'.s=ic x.s r):Nr (b+r.state.eK.length+1) q x':=by
 have hf:=QD (Nu (QC he).1);refine⟨by rw [hc];exact h.inv.feed jv n,?_,?_,?_,fun e hm=>?_⟩
 ·rw [hs];unfold ic
  show(if _ then _ else if _ then _ else _:aO).may=true
  split
  ·exact CK h.cl (hf.1 ‹_›)
  ·split
   ·exact CK h.cl (hf.2.1 ‹_›)
   ·exact h.cl
 ·rw [hs];have:=h.nx;show 1≤x.s.next+1;omega
 ·rw [hs];exact h.id
 ·rw [hc] at hm;unfold lZ at hm;split at hm
  ·rcases K1 hm with hm|⟨p,hp,e1⟩
   ·exact h.sz e hm
   ·rw [e1];exact fN.p p hp
  ·split at hm
   ·rcases Bq hm with rfl|hm
    ·exact fN.w
    ·exact h.sz e hm
   ·split at hm
    ·exact h.sz e (List.mem_filter.1 hm).1
    ·split at hm
     ·obtain⟨y,hy,rfl⟩:=List.mem_map.1 hm;exact af (eI _ _) (h.sz y hy)
     ·exact h.sz e hm
structure Nv (t:pT):Prop where
 w:t.writes.length≤2^18
 c:t.kind=2→1≤t.child∧t.child≤12∧t.st.may=true
theorem adK {b:Nat} {q:Int} {x:fX} {n:Int} {r:Rec} (h:Nr b q x) (he:jM x.s x.m n r=0):Nv (eu x.s r (cont x.m)):=by
 have hf:=QD (Nu (QC he).1);have h0:Nv .none:=⟨by simp [pT.none],fun h=>by simp [pT.none] at h⟩;unfold eu;split
 ·split
  ·rename_i y hy;split
   ·refine⟨?_,fun h=>by cases h⟩
    show y.1.writes.length≤2^18
    have hm: ∀{c:mm},getM r.b6 c=some y→(r.b6,y)∈c:=fun {c} =>by
     induction c with
     |nil=>intro h;simp [getM] at h
     |cons z c ih=>
      intro h;by_cases hz:z.1=r.b6
      ·have:z.2=y:=by simpa [getM,b8,hz] using h
       rw [←hz,←this];exact dt
      ·exact bK _ (ih (by simpa [getM,b8,hz] using h))
    exact h.sz _ (hm hy)
   ·exact h0
  ·exact h0
 ·split
  ·rename_i hk;refine⟨by simp,fun _=>⟨(hf.2.2 hk).1,(hf.2.2 hk).2,TP _ (CK h.cl (hf.2.1 (.inr hk)))⟩⟩
  ·exact h0
theorem fD.feed {b b':Nat} {s:dM} {q:Int} {x x':fX} (h:fD b s) (hn:(s.b7.map (·.1)).Nodup) (hg:getM q s.b7=some x) (ht:Nr b' q x') (hb:b≤b'):fD b' { s with b7:=bU q x' s.b7 } :=
 { h.up hb with
  keys:=fun r=>by
   by_cases hr:r=q
   ·subst hr;have:=h.keys r;rw [hg] at this;simp only [lJ];exact this
   ·simp only [mq hr];exact h.keys r
  tok:=fun y hy=>by
   rcases fB hn hy with rfl|⟨hy,_⟩
   ·exact ht
   ·exact(h.tok y hy).up hb }
theorem TQ {w:World} {X S:XS} {own:Nat→Nat} {nb:Nat} {st:dM} {b:Nat} {q:Int} {x:fX} {r:Rec} {vr vw vp vq vh vd:Value} (h:cC w own nb st) (i:fD b st) (hF:FX (all own) X w) (hX: ∀k,X k→k<w.heap.size) (hg:getM q st.b7=some x)
  (ha:r.at w S vr vw vp vq vh vd) (hS: ∀k,S k→X k∧own k=0) (jv:r.small) (fN:r.sz) (hb:b≤2^30):
  Ct pg 79 #[ptr x.tb 0,I x.s.next,r.v vr vw vp vq vh vd] w X (all own) fun v wa w'=>
   (∃e,e≠0∧v= .tuple #[pT.none.v (.slice none 0 0),I e]∧cC w' own nb st∧jM x.s x.m x.s.next r≠0)∨
   ∃dC x' oY S',v= .tuple #[(eu x.s r (cont x.m)).v oY,I 0]∧Gr own dC wa w'∧x'.tb=x.tb∧cC w' dC nb { st with b7:=bU q x' st.b7 } ∧fD (b+r.state.eK.length+1) { st with b7:=bU q x' st.b7 } ∧
    Sl w' S' 4 oY ((eu x.s r (cont x.m)).writes.map KV.l)∧(∀k,S' k→(dC k=0∨dC k=5)∧(own k≠0∨made wa w' k))∧Nv (eu x.s r (cont x.m))∧jM x.s x.m x.s.next r=0∧x'.s=ic x.s r∧cont x'.m=lZ x.s.next r (cont x.m):=by
 have gY:=kU hg;have pM:=h.lX.tl _ gY;have mH:=i.tok _ gY;have hX5: ∀k,ik own 5 k→X k:=fun k hk=>(hF k (cJ (by decide) k hk)).1;have mT: ∀k,x.fp k→ik own 5 k∧k<w.heap.size:=dr.Gw pM.1;have WC:x.m.length≤2^40:=by have:=mH.inv.len;simp at this;omega
 intro wa hk;refine(VB (X:=X) (A:=fun k=>S k∧k<w.heap.size) (pM.1.wide hX5) hX (ha.mv fun k ah hl=>⟨⟨ah,hl⟩,rfl⟩) (fun k ah=>⟨(hS k ah.1).1,fun hf=>by have:=(hS k ah.1).2;have h5:own k=5:=(mT k hf).1;omega⟩) jv pM.2 (OkC.m mH.inv.ok) WC mH.nx wa hk).mono ?_;rintro e w' ⟨v,rfl,sh,hq⟩;have lW: ∀k,x.fp k→all own k:=fun k ah=>cJ (by decide) k (mT k ah).1;refine⟨v,rfl,sh.mono lW,?_⟩;have c:eo x.fp X w (grow X wa w') w':=eo.RS hX hk sh;have TR: ∀k,all own k→X k:=fun k ah=>(hF k ah).1;unfold ER at hq;split at hq
 ·rename_i cn;obtain⟨rfl,hT⟩:=hq;refine .inl ⟨_,cn,rfl,?_,cn⟩;have v1:=Eb (p:=5) c TR fun k ah=>(mT k ah).1;have ht:lh w' (ik own 5) st.kT st.b7:=by
   have h1:=h.lX.step (x':=x) (F':=ik own 5) hg rfl c hX5 hT pM.2 (fun k ah=>.inl ah) (fun k ah=>ah) fun k ah=>(mT k ah).1;have e:bU q x st.b7=st.b7:=by
    have: ∀(l:List (Int×fX)),getM q l=some x→bU q x l=l:=by
     intro l
     induction l with
     |nil=>intro h;simp [getM] at h
     |cons y l ih=>
      intro h;unfold bU;by_cases hy:y.1=q
      ·rw [if_pos hy];have:y.2=x:=by simpa [getM,b8,hy] using h
       rw [←hy,←this]
      ·rw [if_neg hy,ih (by simpa [getM,b8,hy] using h)]
    exact this _ hg
   rwa [e] at h1
  exact⟨h.row.mv (v1 1 (by decide) (by decide)),h.oS.mv (v1 2 (by decide) (by decide)),h.pr.mv (v1 3 (by decide) (by decide)),h.nz.mv (v1 4 (by decide) (by decide)),ht,h.tS.mv (v1 6 (by decide) (by decide))⟩
 ·rename_i cn;have lK:jM x.s x.m x.s.next r=0:=by simpa using cn
  obtain⟨m',oY,rfl,lD,sg,jz,SR,hT⟩:=hq;obtain⟨x',rfl⟩: ∃x':fX,x'=⟨x.tb,x.mb,m',ic x.s r⟩:=⟨_,rfl⟩;have hn: ∀k,(⟨x.tb,x.mb,m',ic x.s r⟩:fX).fp k→x.fp k∨w.heap.size≤k:=fun k ah=>by
   rcases ah with ah|ah|ah
   ·exact .inl (.inl ah)
   ·exact .inl (.inr (.inl ah))
   ·exact(SR k ah).imp (fun h9=>.inr (.inr h9)) fun h9=>af hk.size h9
  obtain⟨dC,q1,q2,q3,q4⟩:=A6 (own:=own) (p:=5) (F':=fun k=>ik own 5 k∨(⟨x.tb,x.mb,m',ic x.s r⟩:fX).fp k) (by decide) c TR (fun k ah=>(mT k ah).1) (fun k ah=>ah.elim .inl fun h9=>(hn k h9).imp (fun h9=>(mT k h9).1) fun h9=>h9);have hmd: ∀k,(⟨x.tb,x.mb,m',ic x.s r⟩:fX).fp k→own k≠0∨made wa w' k:=fun k ah=>by
   have cI:=(dr.Gw (x:=⟨x.tb,x.mb,m',ic x.s r⟩) hT k ah).2;rcases ah with h9|h9|h9
   ·exact .inl (lW k (.inl h9))
   ·exact .inl (lW k (.inr (.inl h9)))
   ·exact(SR k h9).imp (fun h9=>lW k (.inr (.inr h9))) fun h9=>⟨h9,cI⟩
  have mf:=h.lX.map.nodup;have ht:=h.lX.step (x':=⟨x.tb,x.mb,m',ic x.s r⟩) (F':=ik dC 5) hg rfl c hX5 hT jz hn (fun k ah=>q1 k (.inl ah)) fun k ah=>q1 k (.inr ah);refine .inr ⟨dC,⟨x.tb,x.mb,m',ic x.s r⟩,oY,fun k=>(gd x.m k∨wa.heap.size≤k)∧k<w'.heap.size,rfl,fun k ah=>?_,rfl,
   ⟨h.row.mv (q2 1 (by decide) (by decide)),h.oS.mv (q2 2 (by decide) (by decide)),h.pr.mv (q2 3 (by decide) (by decide)),h.nz.mv (q2 4 (by decide) (by decide)),ht,h.tS.mv (q2 6 (by decide) (by decide))⟩,
   i.feed mf hg (mH.feed lK jv fN sg rfl) zQ,lD.mv fun k ah hl=>⟨⟨ah,hl⟩,rfl⟩,fun k ah=>⟨?_,?_⟩,adK mH lK,lK,rfl,sg⟩
  ·rcases q3 k ah with h9|h9|h9
   ·exact .inl h9
   ·exact .inl (cJ (p:=5) (by decide) k h9)
   ·exact hmd k h9
  ·rcases du (dC k)with h0|h0
   ·exact .inl h0
   by_cases h5:dC k=5
   ·exact .inr h5
   have h6:=q4 (dC k) k h5 zQ rfl;exfalso;rcases ah.1 with h9|h9
   ·have:own k=5:=(mT k (.inr (.inr h9))).1;omega
   ·have:=(hF k (show own k≠0 by omega)).2;have:=hk.size;omega
  ·rcases ah.1 with h9|h9
   ·exact .inl (lW k (.inr (.inr h9)))
   ·exact .inr ⟨h9,ah.2⟩
theorem LQ {w:World} {X:XS} {own:Nat→Nat} {nb:Nat} {st:dM} {r:Int} {s:aO} (h:cC w own nb st) (hF:FX (all own) X w) (hX: ∀k,X k→k<w.heap.size):
  Ct pg 81 #[ptr st.mb 0,I r,s.v] w X (all own) fun _ _ w'=>cC w' own nb { st with fs:=zN r s st.fs } :=by
 have h2:=eZ.two h.oS.m;have TR: ∀k,all own k→X k:=fun k hk=>(hF k hk).1;have TS: ∀k,ik own 2 k→all own k:=cJ (by decide);intro wa hk;refine(Nl (r:=r) (s:=s) h.oS.m.tight (fun k ah=>hF k (TS k (h2 k ah))) wa hk).mono ?_;rintro e w' ⟨v,rfl,sh,_,hm⟩;have c:=eo.RS hX hk sh;have v1:=Eb (p:=2) c TR h2;exact⟨v,rfl,sh.mono fun k ah=>TS k (h2 k ah),h.row.mv (v1 1 (by decide) (by decide)),h.oS.reM (fun k ah=>TR k (TS k ah)) c hm,h.pr.mv (v1 3 (by decide) (by decide)),h.nz.mv (v1 4 (by decide) (by decide)),h.lX.mv (v1 5 (by decide) (by decide)),h.tS.mv (v1 6 (by decide) (by decide))⟩
theorem fD.adv {b:Nat} {s:dM} {r:Int} {t:aO} (h:fD b s) (hn:(s.fs.map (·.1)).Nodup):fD b { s with fs:=zN r t s.fs } :=by
 unfold zN;cases hg:getM r s.fs with
 |none=>exact h
 |some a=>
  cases hm:t.may
  ·exact h
  ·have gY:=kU hg;refine { h with gH:=fun y hy=>?_,BS:=?_,TN:=fun y hy=>?_,keys:=fun q=>?_ }
   ·rcases fB hn hy with rfl|⟨hy,_⟩
    ·exact h.gH (r,a) gY
    ·exact h.gH y hy
   ·have e:=P6 r (a.later t) s.fs;rw [hg,pI,if_pos rfl] at e;have e:=congrArg List.length e;simp only [aA] at e;have:=h.BS
    show(bU r (a.later t) s.fs).length≤b
    omega
   ·rcases fB hn hy with rfl|⟨hy,_⟩
    ·exact CK (h.TN (r,a) gY) hm
    ·exact h.TN y hy
   ·have hk:=h.keys q
    show _=(getM q (bU r (a.later t) s.fs)).isSome
    by_cases hq:q=r
    ·subst hq;rw [hg] at hk;rw [lJ];exact hk
    ·rw [mq hq];exact hk
theorem Rk {w:World} {X:XS} {own:Nat→Nat} {nb b:Nat} {st:dM} (h:cC w own nb st) (i:fD b st) (hb:b≤2^21) (cn:st.fs≠[]) (hF:FX (all own) X w) (hX: ∀k,X k→k<w.heap.size):
  Ct pg 83 #[ptr st.mb 0] w X (all own) fun v wa w'=> ∃dC kg es n,Gr own dC wa w'∧cC w' dC nb { st with hl:=st.hl.drop n,hv:=kg,high:=xh st.high es } ∧
   ef w' (made wa w') wa.heap.size v es∧(∀k,tm v es k→dC k=0)∧Yu st.hl ((rD st.fs).getD .zero) es n:=by
 have TR: ∀k,all own k→X k:=fun k hk=>(hF k hk).1;have TS: ∀k,ik own 2 k→all own k:=cJ (by decide);have ON: ∀l:List FV,(∀x∈l,x.2.writes.length≤2^18)→(l.map fun x=>x.2.writes.length).sum≤l.length*2^18:=fun l=>by
  induction l with
  |nil=>intro _;simp
  |cons x l ih=>
   intro hx;have h1:=hx x (dt);have h2:=ih fun y hy=>hx y (bK _ hy);simp only [List.map_cons,List.sum_cons,bT];omega
 have hs:=ON st.hl i.fN;have hl:=i.len;have hf:=i.BS;intro wa hk;refine(TH h.oS (fun k ah=>hF k (TS k ah)) i.gH zQ cn zQ zQ wa hk).mono ?_;rintro e w' ⟨v,rfl,sh,F',kg,es,n,ux,hM,hE,hEF,hU⟩;have c:=eo.RS hX hk sh;obtain⟨dC,q1,q2,q3,q4⟩:=A6 (own:=own) (p:=2) (F':=F') (by decide) c TR (fun k ah=>ah) fun k ah=>(ux k ah).imp (fun h9=>h9) fun h9=>af hk.size h9.1;refine⟨v,rfl,sh.mono TS,dC,kg,es,n,fun k ah=>?_,⟨h.row.mv (q2 1 (by decide) (by decide)),hM.mv (Mv.sub q1),h.pr.mv (q2 3 (by decide) (by decide)),h.nz.mv (q2 4 (by decide) (by decide)),h.lX.mv (q2 5 (by decide) (by decide)),h.tS.mv (q2 6 (by decide) (by decide))⟩,hE,fun k ah=>?_,hU⟩
 ·rcases q3 k ah with h9|h9
  ·exact .inl h9
  ·exact(ux k h9).imp (TS k) id
 ·rcases du (dC k)with h0|h0
  ·exact h0
  exfalso;have dV:wa.heap.size≤k:=by
   rcases ah with h9|⟨x,hx,h9⟩
   ·exact(hE.own.ge h9).1
   ·exact((hE.ws x hx).ge h9).1
  rcases q3 k zQ with h9|h9
  ·have:=(hF k h9).2;have:=hk.size;omega
  ·exact hEF k ah h9
structure adf (st:dM) (es:List Ev) (n:Nat):Prop where
 up:(es.map Ev.e).Pairwise fun a b=>a.aw.cmp b.aw<0
 lo: ∀e∈es.map Ev.e,st.high.cmp e.aw<0∧e.writes≠[]
 held:rS ((st.hl.drop n).map (·.2)) (xh st.high es)
 last:xh st.high es=jr st.high (es.map Ev.e)
 len:es.length+(st.hl.drop n).length≤st.hl.length
 sz: ∀x∈es,x.writes.length≤2^40
theorem fD.outs {b:Nat} {st:dM} {s:aO} {es:List Ev} {n:Nat} (h:fD b st) (hb:b≤2^21) (hU:Yu st.hl s es n):adf st es n:=by
 obtain⟨u1,u2,u3,u4,u5⟩:=hU;have ho:=h.held.out (n:=n) (s:=s) (by simpa using u1) (fun x hx=>by
  rw [←pV] at hx;obtain⟨y,hy,rfl⟩:=List.mem_map.1 hx;exact u2 y hy) (fun x hx=>by
  rw [dD] at hx;obtain⟨y,hy,rfl⟩:=Option.map_eq_some_iff.1 hx;exact u3 y hy)
 rw [←pV,←List.map_drop] at ho;obtain⟨o1,o2,o3⟩:=ho;generalize hg:ny ((st.hl.take n).map (·.2))=g at u4 u5 o1 o2 o3;have YB: ∀(i:Nat) x,es[i]? =some x→ ∃e,g[i]? =some e∧x.b6=e.b6∧x.aw=e.aw∧x.writes.Perm e.writes:=fun i x hx=>by
  have hi:=(List.getElem?_eq_some_iff.1 hx).1;exact⟨g[i]'zQ,cd zQ,u5 i _ x (cd zQ) hx⟩
 have fZ:(es.map Ev.e).map (·.aw)=g.map (·.aw):=by
  refine List.ext_getElem? fun i=>?_;rw [dD,dD,dD];cases hx:es[i]? with
  |none=>rw [List.getElem?_eq_none (by have:=List.getElem?_eq_none_iff.1 hx;omega)];rfl
  |some x=>
   obtain⟨e,he,_,h2,_⟩:=YB i x hx;rw [he];simp [Ev.e,h2]
 have Jn:xh st.high es=jr st.high g:=by
  unfold xh jr;have h1:=congrArg List.getLast? fZ;simp only [ql] at h1;cases he:es.getLast? with
  |none=>rw [he] at h1;cases fJ:g.getLast? with
   |none=>rfl
   |some e=>rw [fJ] at h1;simp at h1
  |some x=>rw [he] at h1;cases fJ:g.getLast? with
   |none=>rw [fJ] at h1;simp at h1
   |some e=>rw [fJ] at h1;simpa [Ev.e] using h1
 have hlS:jr st.high (es.map Ev.e)=jr st.high g:=by
  unfold jr;have h1:=congrArg List.getLast? fZ;simp only [ql] at h1;rw [ql];cases he:es.getLast? with
  |none=>rw [he] at h1;cases fJ:g.getLast? with
   |none=>rfl
   |some e=>rw [fJ] at h1;simp at h1
  |some x=>rw [he] at h1;cases fJ:g.getLast? with
   |none=>rw [fJ] at h1;simp at h1
   |some e=>rw [fJ] at h1;simpa [Ev.e] using h1
 refine⟨?_,fun e he=>?_,by rw [Jn];exact o3,by rw [Jn,hlS],?_,fun x hx=>?_⟩
 ·have h1:(g.map (·.aw)).Pairwise fun a b=>a.cmp b<0:=List.pairwise_map.2 o1;rw [←fZ] at h1;exact List.pairwise_map.1 h1
 ·obtain⟨x,hx,rfl⟩:=List.mem_map.1 he;obtain⟨i,hi⟩:=List.mem_iff_getElem?.1 hx;obtain⟨e,h1,_,h2,h3⟩:=YB i x hi;have h4:=o2 e (aH h1);refine⟨by show st.high.cmp x.aw<0;rw [h2];exact h4.1,fun h0=>h4.2 ?_⟩;have h0:x.writes=[]:=h0;have:=h3.length_eq;rw [h0] at this;exact List.length_eq_zero_iff.1 this.symm
 ·have h1:=(u0 ((st.hl.take n).map (·.2)) []).2;have h2:g=((st.hl.take n).map (·.2)).foldl oW []:=hg.symm;rw [←h2] at h1;simp only [List.length_nil,aA,aX,Nat.zero_add] at h1;rw [dR];omega
 ·obtain⟨i,hi⟩:=List.mem_iff_getElem?.1 hx;obtain⟨e,h1,_,_,h3⟩:=YB i x hi;have h4:=(u0 ((st.hl.take n).map (·.2)) []).1;have h2:g=((st.hl.take n).map (·.2)).foldl oW []:=hg.symm;rw [←h2] at h4;have h5:=Jm (g:=fun e:qG=>e.writes.length) (aH h1);have h6:=Fj (g:=fun x:FV=>x.2.writes.length) st.hl n;have ON: ∀l:List FV,(∀x∈l,x.2.writes.length≤2^18)→(l.map fun x=>x.2.writes.length).sum≤l.length*2^18:=fun l=>by
   induction l with
   |nil=>intro _;simp
   |cons x l ih=>
    intro hx;have h1:=hx x (dt);have h2:=ih fun y hy=>hx y (bK _ hy);simp only [List.map_cons,List.sum_cons,bT];omega
  have h7:=ON st.hl h.fN;have h8:=h.len;simp only [List.map_map,Function.comp_def,List.map_nil,List.sum_nil,Nat.zero_add] at h4;rw [h3.length_eq];omega
def mz (st:dM) (r:Int):Int:=((getM r st.b7).map (·.s.next)).getD 0
structure Kept (s s':dM):Prop where
 bA:s'.bA=s.bA
 told:s'.told=s.told
 tl:s'.tl=s.tl
 db:s'.db=s.db
theorem Kept.trans {a b c:dM} (h:Kept a b) (k:Kept b c):Kept a c:=⟨k.bA.trans h.bA,k.told.trans h.told,k.tl.trans h.tl,k.db.trans h.db⟩
def OP (r:Rec):Nat:=r.state.eK.length+2
def iZ (l:List Rec):Nat:=(l.map OP).sum
theorem ef.push {w w':World} {X X':XS} {lo lo2:Nat} {v v':Value} {q:List Ev} {x:Ev} (h:ef w X lo v q) (c:eo (dP v) X w X' w') (ho:Own w' X' lo 69 7 v' (q.map Ev.l++[x.l]))
  (hx:Own w X lo2 118 4 x.j7 (x.writes.map KV.l)) (hl:lo≤lo2) (ha: ∀y∈q,∀g,y.j7.ownBlock=some g→x.j7.ownBlock≠some g):ef w' X' lo v' (q++[x]):=by
 refine⟨by rw [bp];exact ho,fun y hy=>?_,?_⟩
 ·rcases List.mem_append.1 hy with hy|hy
  ·exact(h.ws y hy).dK c fun g hg hb=>jI (h.ws y hy) h.own (by decide) hg hb
  ·rw [List.mem_singleton.1 hy];exact(hx.dK c fun g hg hb=>jI hx h.own (by decide) hg hb).low hl
 ·rw [List.pairwise_append];refine⟨h.ap,by simp,fun y hy z hz=>?_⟩;rw [List.mem_singleton.1 hz];exact ha y hy
theorem ef.tight {w:World} {X:XS} {lo:Nat} {v:Value} {es:List Ev} (h:ef w X lo v es):ef w (tm v es) lo v es:=
 ⟨⟨h.own.1,h.own.2.1,fun g hg=>.inl hg⟩,fun x hx=>⟨(h.ws x hx).1,(h.ws x hx).2.1,fun g hg=>.inr ⟨x,hx,hg⟩⟩,h.ap⟩
theorem ef.sub {w:World} {X:XS} {lo:Nat} {v:Value} {es:List Ev} (h:ef w X lo v es): ∀k,tm v es k→X k∧k<w.heap.size:=fun k hk=>by
 rcases hk with hk|⟨x,hx,hk⟩
 ·exact⟨h.own.2.2 k hk,(h.own.ge hk).2⟩
 ·exact⟨(h.ws x hx).2.2 k hk,((h.ws x hx).ge hk).2⟩
abbrev PL:=List (Int×iC×mm)×List (Int×aO)×List fQ
def iJ (l:List (Int×fX)):List (Int×iC×mm):=l.map fun x=>(x.1,x.2.s,cont x.2.m)
def iW (s:dM):PL:=(iJ s.b7,s.fs,s.holds)
theorem nS (k:Int) (l:List (Int×fX)):getM k (iJ l)=(getM k l).map fun x=>(x.s,cont x.m):=Tc (fun x:fX=>(x.s,cont x.m)) k l
theorem Fo (k:Int) (x:fX) (l:List (Int×fX)):iJ (bU k x l)=bU k (x.s,cont x.m) (iJ l):=Fa (fun x:fX=>(x.s,cont x.m)) k x l
def A7 (bA:aO) (r:Int) (p:PL) (rec:Rec):Option PL:=
 match getM r p.1 with
 |none=>none
 |some y=>if abn y.1 y.2 y.1.next rec≠0 then none
  else if(eu y.1 rec y.2).kind=1 then some (bU r (ic y.1 rec,lZ y.1.next rec y.2) p.1,p.2.1,xj bA p.2.2 ⟨(eu y.1 rec y.2).gH,(eu y.1 rec y.2).gb,(eu y.1 rec y.2).b6,(eu y.1 rec y.2).aw,(eu y.1 rec y.2).writes⟩)
  else if(eu y.1 rec y.2).kind=2∧getM (eu y.1 rec y.2).child (bU r (ic y.1 rec,lZ y.1.next rec y.2) p.1)=none then
   some (bU (eu y.1 rec y.2).child (⟨(eu y.1 rec y.2).child,1,.zero⟩,[]) (bU r (ic y.1 rec,lZ y.1.next rec y.2) p.1),bU (eu y.1 rec y.2).child (eu y.1 rec y.2).st p.2.1,p.2.2)
  else some (bU r (ic y.1 rec,lZ y.1.next rec y.2) p.1,p.2)
def lO (bA:aO) (r:Int):List Rec→PL→PL
 |[],p=>p
 |rec::l,p=>match A7 bA r p rec with
  |none=>p
  |some q=>lO bA r l q
def s5 (bA:aO) (m:gx) (p:PL):PL:=
 match getM m.range p.1 with
 |none=>p
 |some y=>if m.n≠y.1.next then p else
  match getM m.range (lO bA m.range m.eb p).1 with
  |none=>lO bA m.range m.eb p
  |some z=>((lO bA m.range m.eb p).1,zN m.range (Dc z.1.closed z.2) (lO bA m.range m.eb p).2.1,(lO bA m.range m.eb p).2.2)
theorem ef.Fl {w w':World} {X X' G:XS} {lo:Nat} {v:Value} {es:List Ev} (h:ef w X lo v es) (c:eo G X w X' w') (hG: ∀k,tm v es k→ ¬G k):ef w' X' lo v es:=
 ⟨h.own.dK c fun g hg=>hG g (.inl hg),fun x hx=>(h.ws x hx).dK c fun g hg=>hG g (.inr ⟨x,hx,hg⟩),h.ap⟩
theorem fD.ah4 {b:Nat} {st:dM} {es:List Ev} {n:Nat} {kg qv':Value} (h:fD b st) (o:adf st es n):
  fD b { st with hl:=st.hl.drop n,hv:=kg,high:=xh st.high es,q:=st.q++es.filter (fun x=>gn st.bA x.aw),qv:=qv' } :=by
 have hf:(es.filter fun x=>gn st.bA x.aw).length≤es.length:=eI _ _;refine { h with held:=o.held,len:=?_,fN:=fun x hx=>h.fN x (ec hx),pr:=?_,W5:=fun x hx=>?_ }
 ·have:=h.len;have:=o.len;simp only [ae];omega
 ·have:=h.pr.app o.up o.lo;rw [←o.last] at this;rw [bp,show(es.filter fun x=>gn st.bA x.aw).map Ev.e=(es.map Ev.e).filter fun e=>gn st.bA e.aw by rw [yb];rfl];exact this
 ·rcases List.mem_append.1 hx with hx|hx
  ·exact h.W5 x hx
  ·exact o.sz x (List.mem_filter.1 hx).1
theorem TT {w:World} {X S:XS} {own:Nat→Nat} {nb b:Nat} {st:dM} {m:gx} {vk vs vw vp vr vc vh vd:Value} (h:cC w own nb st) (i:fD b st) (hF:FX (all own) X w)
  (hm:m.at w S vk vs vw vp vr vc vh vd) (hS: ∀k,S k→X k∧own k=0) (jv: ∀r∈m.eb,r.small∧r.sz) (hb:b+iZ m.eb≤2^21):
  Ct pg 30 #[ptr nb 0,m.v vk vs vw vp vr vc vh vd] w X (all own) fun v wa w'=>v= .tuple #[]∧ ∃dC ko,Gr own dC wa w'∧cC w' dC nb ko∧fD (b+iZ m.eb) ko∧Kept st ko∧(m.n≠mz st m.range→ko=st)∧iW ko=s5 st.bA m (iW st):=by
 intro w0 hk;have hT:=hF.ft hk;replace h:=h.kp hk fun k ah=>(hF k ah).1;obtain⟨S0,Nw⟩: ∃S0:XS,∀k,S0 k↔(k<w0.heap.size∧own k=0):=⟨_,fun _=>Iff.rfl⟩;have Bo:m.at w0 S0 vk vs vw vp vr vc vh vd:=hm.mv fun k ah jE=>⟨(Nw k).2 ⟨aN jE hk.size,(hS k ah).2⟩,hk.block k (hS k ah).1⟩;have bH:=h.row.mv (Mv.sub fun k ah=>hT.bm k (cJ (p:=1) (by decide) k ah));have oq:=h.pr.own.sl.one;have oo:=h.nz.sl.one;have om:=h.tS.one;have hrw: ∀(k:Nat) r,m.eb[k]? =some r→iZ (m.eb.take (k+1))=iZ (m.eb.take k)+OP r:=fun k r hr=>by rw [bg,hr];simp [iZ]
 have ae9: ∀k,iZ (m.eb.take k)≤iZ m.eb:=fun k=>Fj m.eb k;have Nx:s5 st.bA m (iW st)=iW st→ ∀{wz:World} {Xz:XS},Ft w0 (all own) wz Xz (all own)→cC wz own nb st→ ∀wa,Kp Xz wz wa→Value.tuple #[]= .tuple #[]∧ ∃dC ko,Gr own dC w0 wa∧cC wa dC nb ko∧fD (b+iZ m.eb) ko∧Kept st ko∧(m.n≠mz st m.range→ko=st)∧iW ko=s5 st.bA m (iW st):=
  fun hB {_ _} hT h wa bD=>⟨rfl,own,st,Gr.refl _ _ _,h.kp bD hT.bm,i.up zQ,⟨rfl,rfl,rfl,rfl⟩,fun _=>rfl,hB.symm⟩
 apply Ij;unfold zy;have hs:=aj.init w0;repeat' first|refine aG ?_;intros
 refine np (kt:=3) (et:=111) (.pointer none) (h.lX.mv (Mv.sub fun k ah=>hT.bm k (cJ (p:=5) (by decide) k ah))).map iS kQ kQ (fun v x hg hv=>?_) (fun hg=>?_)
 rotate_left
 ·repeat' first|refine aG ?_;intros|with_reducible apply dJ
  exact hT.fin fun wa bD=>Nx (by unfold s5 iW;rw [nS,hg];rfl) hT h wa bD
 have hv:v=ptr x.tb 0:=hv;subst hv;have pM:=h.lX.tl _ (kU hg);repeat' first|refine aG ?_;intros|with_reducible apply dJ
 refine dH (yL (pM.1.wide fun k ah=>hT.bm k (cJ (p:=5) (by decide) k ah)) hT.s.has) kQ hT.s.has fun w1 X1 ao=>?_;have dq:=hT.since ao;have h1:=h.since ao hT.bm;clear hs;have hs:=dq.s;by_cases nJ:x.s.next=m.n
 rotate_left
 ·repeat' first|refine bQ ?_;intros
  exact dq.fin fun wa bD=>Nx (by unfold s5 iW;rw [nS,hg];exact if_pos (Ne.symm nJ)) dq h1 wa bD
 repeat' first|refine bQ ?_;intros
 have TU: ∀{wz:World} {Xz Fz:XS},Ft w0 (all own) wz Xz Fz→Mv S0 w0 Xz wz:=fun hT k ah _=>by
  have ah:=(Nw k).1 ah;exact⟨hT.s.sub k ⟨ah.1,fun e=>e ah.2⟩,hT.s.kp.block k ⟨ah.1,fun e=>e ah.2⟩⟩
 have hmS: ∀{wz:World} {Xz Fz:XS},Ft w0 (all own) wz Xz Fz→Mv S0 w0 S0 wz∧aj S0 wz Xz wz:=fun hT=>⟨fun k ah hl=>⟨ah,(TU hT k ah hl).2⟩,⟨Kp.refl _ _,fun k ah=>(TU hT k ah ((Nw k).1 ah).1).1,hT.s.has⟩⟩;have oR:=gq.mv Bo.eb Rec.mv (TU dq);have MI:=oR.len;repeat' first|refine aG ?_;intros
 have hg0:getM m.range (iW st).1=some (x.s,cont x.m):=by unfold iW;rw [nS,hg];rfl
 have ah5:m.n≠mz st m.range→False:=fun cn=>cn (by unfold mz;rw [hg];exact nJ.symm);refine ir (fun (k:World→XS→Prop)=> ∀w X mA st1 x1,Ft w0 (all own) w X (all mA)→cC w mA nb st1→fD (b+iZ m.eb) st1→getM m.range st1.b7=some x1→x1.tb=x.tb→Kept st st1→iW st1=lO st.bA m.range m.eb (iW st)→k w X) ?_ ?_
 ·intro w X mA st1 x1 hT h i hg QE kM x7;clear hs oR dq h1;rw [←QE];have hs:=hT.s;have bH:=h.row.mv (Mv.sub fun k ah=>hT.bm k (cJ (p:=1) (by decide) k ah));have pM:=(h.lX.tl _ (kU hg)).1;have hfn:st1.fs≠[]:=fun e=>by
   have h9:=i.keys m.range;rw [hg,e] at h9;simp [getM] at h9
  have abU:=h.oS.m.m.nodup;repeat' first|refine aG ?_;intros
  refine dH (Cu (pM.wide fun k ah=>hT.bm k (cJ (p:=5) (by decide) k ah)) hT.s.has) kQ hT.s.has fun w2 X2 dF=>?_;have cq:=hT.since dF;have h2:=h.since dF hT.bm;clear hs;have hs:=cq.s
  skip
  refine cq.call (LQ (r:=m.range) (s:=wx x1.s.closed x1.m) h2 (cq.fx fun k ah=>ah) cq.s.has) kQ (fun k ah=>ah) ?_;intro _ Ad w3 X3 h3 wT rP dG c3;replace dG:Ft w0 (all own) w3 X3 (all mA):=dG.less fun k ah=>.inl ah;have i3:=i.adv (r:=m.range) (t:=wx x1.s.closed x1.m) abU;obtain⟨mJ,Ds⟩: ∃mJ,mJ= { st1 with fs:=zN m.range (wx x1.s.closed x1.m) st1.fs } :=⟨_,rfl⟩;have PR:st1.mb=mJ.mb:=by rw [Ds]
  have Dt:Kept st mJ:=by rw [Ds];exact⟨kM.bA,kM.told,kM.tl,kM.db⟩
  have ah6:mJ.fs≠[]:=fun e=>by
   have h9:=i3.keys m.range;rw [←Ds,e] at h9;rw [Ds] at h9;have fR:(getM m.range st1.b7).isSome=(getM m.range ([]:List (Int×aO))).isSome:=h9;rw [hg] at fR;simp [getM] at fR
  have afa:(iJ mJ.b7,mJ.fs,mJ.holds)=s5 st.bA m (iW st):=by
   unfold s5;rw [show getM m.range (iW st).1=some (x.s,cont x.m)from hg0];simp only [nJ,ne_eq,not_true_eq_false,if_false];rw [←x7,show getM m.range (iW st1).1=some (x1.s,cont x1.m)by unfold iW;rw [nS,hg];rfl,Ds];simp only [←MN];rfl
  rw [←Ds] at h3 i3;clear hs bH;have hs:=dG.s;have bH:=h3.row.mv (Mv.sub fun k ah=>dG.bm k (cJ (p:=1) (by decide) k ah));repeat' first|refine aG ?_;intros
  refine dG.call (Rk h3 i3 zQ ah6 (dG.fx fun k ah=>ah) dG.s.has) kQ (fun k ah=>ah) ?_;rintro v4 KI w4 X4 ⟨afb,hv4,es,n,ah7,h4,W0,hE0,hU⟩ E8 Di fk c4;have hO:=i3.outs zQ hU;replace fk:Ft w0 (all own) w4 X4 (all afb):=fk.less ah7;have abY:ef w4 X4 KI.heap.size v4 es:=W0.mv (Mv.sub Di);have ajc:=i3.len;have ez:=hO.len;have ah8:w0.heap.size≤KI.heap.size:=af dG.s.kp.size E8;clear hs bH;have hs:=fk.s;have ah9:=abY.own.sl;repeat' first|refine aG ?_;intros
  refine eA (fun n' a w X=> ∃(j:Nat) (s6:Nat→Nat) (v5:Value),a=I j∧n'=es.length-j∧j≤es.length∧Ft w0 (all own) w X (all s6)∧
   cC w s6 nb { mJ with hl:=mJ.hl.drop n,hv:=hv4,high:=xh mJ.high es,q:=mJ.q++(es.take j).filter (fun x=>gn mJ.bA x.aw),qv:=v5 } ∧ef w X KI.heap.size v4 es∧
   (∀(t:Nat) x k,j≤t→es[t]? =some x→x.j7.ownBlock=some k→s6 k=0)∧(∀k,v4.ownBlock=some k→s6 k=0)) es.length
   ⟨0,afb,mJ.qv,rfl,rfl,aL _,fk,by simpa using h4,abY,fun t x k _ hx ah=>hE0 k (.inr ⟨x,aH hx,ah⟩),fun k ah=>hE0 k (.inl ah)⟩ ?_
  clear hs ah9 abY fk h4 hE0;rintro n' a w5 X5 ⟨j,s6,v5,rfl,rfl,hj,fU,h5,W2,hz5,hv5⟩;have hs:=fU.s;have aia:=W2.own.sl;have ti:=h5.row.mv (Mv.sub fun k ah=>fU.bm k (cJ (p:=1) (by decide) k ah));rcases dX es j with⟨cI,x,hx,hd⟩|⟨dV,hd⟩
  rotate_left
  ·repeat' first|refine bQ ?_;intros
   have i5:=i3.ah4 (kg:=hv4) (qv':=v5) hO;rw [ba dV] at h5;exact fU.fin fun wa bD=>⟨rfl,s6,_,fU.oT bD fun k ah=>ah,h5.kp bD fU.bm,i5,⟨Dt.bA,Dt.told,Dt.tl,Dt.db⟩,fun cn=>(ah5 cn).elim,afa⟩
  have ox:=(W2.ws x (aH hx)).sl.one;have gN:es.take (j+1)=es.take j++[x]:=by rw [bg,hx];rfl
  repeat' first|refine bQ ?_;intros
  refine dJ ?_;repeat' first|refine aG ?_;intros
  refine dH (AR (s:=x.aw) ti) kQ fU.s.has fun w6 X6 wO=>?_;have gU:=fU.since wO;have h6:=h5.since wO fU.bm;have hE6:=W2.mv wO.mv;have AS:=ti.mv wO.mv;clear hs ti aia fU h5 W2;have hs:=gU.s;cases hn:gn mJ.bA x.aw
  ·repeat' first|refine aG ?_;intros
   exact en (es.length-(j+1)) zQ ⟨j+1,s6,v5,by simp,rfl,by omega,gU,by rw [gN,ei];simpa [hn] using h6,hE6,fun t y k ht hy ah=>hz5 t y k zQ hy ah,hv5⟩
  repeat' first|refine aG ?_;intros|(with_reducible apply wX);(case hX=>exact hs.has);(case he=>kernel_rfl);(case hk=>rfl);intro acc w X ao ho;obtain⟨_,_,_,rfl⟩:=ho.sl.form;replace hs:=hs.trans ao
  have nv:=gU.since ao;have h7:=h6.since ao gU.bm;have TV:=hE6.mv ao.mv;have Jo:=AS.mv ao.mv;clear AS gU h6 hE6 hs;have YC:ef w X 0 v5 (mJ.q++(es.take j).filter (fun x=>gn mJ.bA x.aw)):=h7.pr.mv (Mv.sub fun k ah=>nv.bm k (cJ (p:=3) (by decide) k ah));have W7:(mJ.q++(es.take j).filter (fun x=>gn mJ.bA x.aw)).length≤mJ.q.length+es.length:=by
   have h9:=eI (fun x:Ev=>gn mJ.bA x.aw) (es.take j);rw [aX] at h9;rw [ae];omega
  generalize hqq:mJ.q++(es.take j).filter (fun x=>gn mJ.bA x.aw)=qq at YC h7 W7 Jo;refine rG (dw:=[x.l]) YC.own nv.s.has (aL _) kQ ho.sl (fun r hr u hu=>by rw [List.mem_singleton.1 hr] at hu;simp only [gp,fW,or_false] at hu;rcases hu with rfl|rfl|rfl|rfl|rfl|rfl|rfl<;>first|rfl|exact ox) (by simp only [aA,bF];omega) (by simp only [aA,bF];omega) fun v8 w8 X8 c8 W8 aib=>?_
  have WL: ∀k,tm v5 qq k→s6 k=3:=fun k ah=>(h7.pr.sub k ah).1;have hx7:=TV.ws x (aH hx);have hxz: ∀k,x.j7.ownBlock=some k→s6 k=0:=fun k ah=>hz5 j x k (bP _) hx ah;have hE8:=YC.push c8 W8 hx7 (aL _) fun y hy g hg gA=>by
   have h9:=WL g (.inr ⟨y,hy,hg⟩);have:=hxz g gA;omega
  have hbv: ∀k,dP v5 k→s6 k=3:=fun k ah=>WL k (.inl ah);have W9: ∀k,tm v8 (qq++[x]) k→s6 k=3∨x.j7.ownBlock=some k∨(w.heap.size≤k∧v8.ownBlock=some k):=fun k ah=>by
   rcases ah with ah|⟨y,hy,ah⟩
   ·rcases aib with h9|⟨g,h9,fR⟩
    ·exact .inl (hbv k (show v5.ownBlock=some k by rw [←h9];exact ah))
    ·have vI:=ah;rw [h9] at vI;cases vI;exact .inr (.inr ⟨fR,ah⟩)
   ·rcases List.mem_append.1 hy with hy|hy
    ·exact .inl (WL k (.inr ⟨y,hy,ah⟩))
    ·rw [List.mem_singleton.1 hy] at ah;exact .inr (.inl ah)
  obtain⟨yA,q1,q2,q3,q4,q5⟩:=LM (own:=s6) (p:=3) (F':=tm v8 (qq++[x])) (by decide) c8 nv.bm hbv fun k ah=>(W9 k ah).imp id fun h9=>h9.imp (hxz k) fun h9=>h9.1;have s4:Ft w0 (all own) w8 X8 (all yA):=(nv.dK c8 (F':=all s6) (fun k ah=>cJ (p:=3) (by decide) k (hbv k ah)) fun k ah=>.inl ah).more fun k ah=>by
   rcases q3 k ah with h9|h9
   ·exact .inl h9
   ·rcases W9 k h9 with fR|fR|fR
    ·exact .inl (cJ (p:=3) (by decide) k fR)
    ·exact .inr ⟨(hE8.sub k h9).1,af ah8 (hx7.ge fR).1⟩
    ·exact .inr ⟨(hE8.sub k h9).1,af nv.s.kp.size fR.1⟩
  have hnq: ∀k,tm v4 es k→ ¬dP v5 k:=fun k ah hb=>by
   rcases ah with ah|⟨y,hy,ah⟩
   ·have:=hv5 k ah;have:=hbv k hb;omega
   ·exact jI (TV.ws y hy) YC.own (by decide) ah hb
  have hE9:=TV.Fl c8 hnq;have abZ:=h7.row.mv (q2 1 (by decide) (by decide));have RU:=abZ.mv (Mv.sub fun k ah=>s4.bm k (cJ (p:=1) (by decide) k ah));clear Jo;have hs:=s4.s;repeat' first|refine aG ?_;intros
  refine AN (o:=11) RU zQ kQ (by simp) W8.sl.one s4.s.has fun w9 X9 c9 hr9=>?_;have h9:cC w9 yA nb { mJ with hl:=mJ.hl.drop n,hv:=hv4,high:=xh mJ.high es,q:=qq++[x],qv:=v8 } :=
   cC.put abZ.1 s4.bm c9 hr9 (h7.oS.mv (q2 2 (by decide) (by decide))) (hE8.tight.mv (Mv.sub q1)) (h7.nz.mv (q2 4 (by decide) (by decide))) (h7.lX.mv (q2 5 (by decide) (by decide))) (h7.tS.mv (q2 6 (by decide) (by decide)))
  have zz:Ft w0 (all own) w9 X9 (all yA):=s4.dK c9 (fun k ah=>by subst ah;exact cJ (p:=1) (by decide) _ abZ.1) fun k ah=>.inl ah;have hEa:=hE9.Fl c9 fun k ah e=>by
   have e:k=nb:=e;rw [e] at ah;rcases ah with ah|⟨y,hy,ah⟩
   ·exact hE9.own.ow.gi RU kQ ah
   ·exact(hE9.ws y hy).ow.gi RU kQ ah
  clear hs RU hr9;have hs:=zz.s;repeat' first|refine aG ?_;intros
  refine en (es.length-(j+1)) zQ ⟨j+1,yA,v8,by simp,rfl,by omega,zz,by rw [gN,ei,←List.append_assoc,hqq];simpa [hn] using h9,hEa,fun t y k ht hy ah=>?_,fun k ah=>?_⟩
  ·have h0:=hz5 t y k zQ hy ah;rcases du (yA k)with fR|fR
   ·exact fR
   exfalso;rcases q3 k zQ with vI|vI
   ·exact vI h0
   ·rcases W9 k vI with Bn|Bn|Bn
    ·omega
    ·obtain⟨Sj,rfl⟩:=List.getElem?_eq_some_iff.1 hy;obtain⟨qB,rfl⟩:=List.getElem?_eq_some_iff.1 hx;exact List.pairwise_iff_getElem.1 TV.ap j t qB Sj zQ k Bn ah
    ·have:=((TV.ws y (aH hy)).ge ah).2;omega
  ·have h0:=hv5 k ah;rcases du (yA k)with fR|fR
   ·exact fR
   exfalso;rcases q3 k zQ with vI|vI
   ·exact vI h0
   ·rcases W9 k vI with Bn|Bn|Bn
    ·omega
    ·exact jI hx7 TV.own (by decide) Bn ah
    ·have:=(TV.own.ge ah).2;omega
 ·intro K hK;refine eA (fun n a w X=> ∃(j:Nat) (mA:Nat→Nat) (st1:dM) (x1:fX),a=I j∧n=m.eb.length-j∧j≤m.eb.length∧Ft w0 (all own) w X (all mA)∧cC w mA nb st1∧fD (b+iZ (m.eb.take j)) st1∧
   getM m.range st1.b7=some x1∧x1.tb=x.tb∧Kept st st1∧lO st.bA m.range m.eb (iW st)=lO st.bA m.range (m.eb.drop j) (iW st1)) m.eb.length ⟨0,own,st,x,rfl,rfl,aL _,dq,h1,i.up zQ,hg,rfl,⟨rfl,rfl,rfl,rfl⟩,rfl⟩ ?_
  clear hT h dq h1 hs oR;rintro n a w X ⟨j,mA,st1,x1,rfl,rfl,hj,hT,h,i1,Bp,QE,kM,x7⟩;have hs:=hT.s;have oR:=gq.mv Bo.eb Rec.mv (hmS hT).1;have hsS:=(hmS hT).2;rcases dX m.eb j with⟨cI,r,hx,hd⟩|⟨dV,hd⟩
  rotate_left
  ·repeat' first|refine bQ ?_;intros
   exact hK _ _ mA st1 x1 hT h (i1.up (by have:=ae9 j;omega)) Bp QE kM (by rw [x7,hd];rfl)
  have afc:getM m.range (iW st1).1=some (x1.s,cont x1.m):=by unfold iW;rw [nS,Bp];rfl
  rw [←QE];have aic:=h.lX.tl _ (kU Bp);have ajC:=hrw j r hx;have ajd:=ae9 (j+1);have hw5: ∀{Xz:XS},(∀k,all mA k→Xz k)→ ∀k,ik mA 5 k→Xz k:=fun hX k ah=>hX k (cJ (p:=5) (by decide) k ah);repeat' first|refine bQ ?_;intros|((with_reducible apply Oy);assumption;(try (case hz=>rfl));(case hr=>exact qR);(try (case hz=>omega));(case ht=>kernel_rfl);(case hs=>kernel_rfl);intros)
  rename_i vr1 vw1 vp1 vq1 vh1 vd1 _ _ _ _ _ _ Sn wu;refine ir (fun (k:Value→Value→World→XS→Prop)=>(∀e w X,e≠0→jM x1.s x1.m x1.s.next r≠0→Ft w0 (all own) w X (all mA)→cC w mA nb st1→k (pT.none.v (.slice none 0 0)) (I e) w X)∧
   ∀(t:pT) Fp (x2:fX) oY S' w X,t=eu x1.s r (cont x1.m)→jM x1.s x1.m x1.s.next r=0→x2.s=ic x1.s r→cont x2.m=lZ x1.s.next r (cont x1.m)→Ft w0 (all own) w X (all Fp)→x2.tb=x1.tb→cC w Fp nb { st1 with b7:=bU m.range x2 st1.b7 } →fD (b+iZ (m.eb.take j)+r.state.eK.length+1) { st1 with b7:=bU m.range x2 st1.b7 } →
    Sl w S' 4 oY (t.writes.map KV.l)→(∀k,S' k→X k∧(Fp k=0∨Fp k=5))→Nv t→k (t.v oY) (I 0) w X) ⟨?_,?_⟩ ?_
  ·intro e w X he cn hT h;have hs:=hT.s;repeat' first|refine bQ ?_;intros
   exact hK _ _ mA st1 x1 hT h (i1.up zQ) Bp QE kM (by
    rw [x7,hd];have hn:A7 st.bA m.range (iW st1) r=none:=by
     unfold A7;rw [afc];rw [KF] at cn;exact if_pos cn
    unfold lO;rw [hn])
  ·intro t Fp x2 oY S' w X Xa Xb ab0 ab1 hT h2b h i2 lD Wq YD;have YE:A7 st.bA m.range (iW st1) r=if t.kind=1 then some (iJ (bU m.range x2 st1.b7),st1.fs,xj st.bA st1.holds ⟨t.gH,t.gb,t.b6,t.aw,t.writes⟩)
     else if t.kind=2∧getM t.child (iJ (bU m.range x2 st1.b7))=none then some (bU t.child (⟨t.child,1,.zero⟩,[]) (iJ (bU m.range x2 st1.b7)),bU t.child t.st st1.fs,st1.holds)
     else some (iJ (bU m.range x2 st1.b7),st1.fs,st1.holds):=by
    unfold A7;rw [afc];rw [KF] at Xb;rw [Fo,ab0,ab1,Xa];simp only [Xb,ne_eq,not_true_eq_false,if_false];rfl
   clear hs hsS oR Sn wu;have hs:=hT.s;have o1:=lD.one;obtain⟨q1,q2,q3,rfl⟩:=lD.form;have bH:=h.row.mv (Mv.sub fun k ah=>hT.bm k (cJ (p:=1) (by decide) k ah));have TC:getM m.range (bU m.range x2 st1.b7)=some x2:=lJ;have YG: ∀{wz:World} {Xz:XS} {Fq:Nat→Nat} {mJ:dM} {x3:fX},Ft w0 (all own) wz Xz (all Fq)→cC wz Fq nb mJ→fD (b+iZ (m.eb.take (j+1))) mJ→getM m.range mJ.b7=some x3→x3.tb=x1.tb→Kept st mJ→A7 st.bA m.range (iW st1) r=some (iW mJ)→
     fY (J1 fun n a w X=> ∃(j:Nat) (mA:Nat→Nat) (st1:dM) (afd:fX),a=I j∧n=m.eb.length-j∧j≤m.eb.length∧Ft w0 (all own) w X (all mA)∧cC w mA nb st1∧fD (b+iZ (m.eb.take j)) st1∧
      getM m.range st1.b7=some afd∧afd.tb=x1.tb∧Kept st st1∧lO st.bA m.range m.eb (iW st)=lO st.bA m.range (m.eb.drop j) (iW st1)) (m.eb.length-j) (I (j+1)) wz Xz:=
    fun hT h i hg QE kM fZ=>en (m.eb.length-(j+1)) zQ ⟨j+1,_,_,_,by simp,rfl,by omega,hT,h,i,hg,QE,kM,by rw [x7,hd];conv=>lhs;unfold lO;rw [fZ]⟩
   have ajD:OP r=r.state.eK.length+2:=rfl;repeat' first|refine bQ ?_;intros
   refine dJ ?_;by_cases uj:t.kind=1
   ·repeat' first|refine bQ ?_;intros
    refine hT.call (Nt (S:=S') (f:=⟨t.gH,t.gb,t.b6,t.aw,t.writes⟩) h i2 zQ (hT.fx fun k ah=>ah) lD Wq YD.w) kQ (fun k ah=>ah) ?_;rintro _ Ad w3 X3 ⟨rfl,Fq,ov3,Wx,hv3,TW,h3,i3⟩ wT rP dG c3;have yB:Ft w0 (all own) w3 X3 (all Fq):=dG.less TW;clear hs;have hs:=yB.s;repeat' first|refine aG ?_;intros
    exact YG yB h3 (i3.up zQ) TC h2b ⟨kM.bA,kM.told,kM.tl,kM.db⟩ (by rw [YE,if_pos uj,←kM.bA];rfl)
   by_cases BG:t.kind=2
   ·repeat' first|refine bQ ?_;intros
    refine np (kt:=3) (et:=111) (.pointer none) (h.lX.mv (Mv.sub fun k ah=>hT.bm k (cJ (p:=5) (by decide) k ah))).map iS kQ kQ (fun v x hg hv=>?_) (fun hg=>?_)
    ·have hv:v=ptr x.tb 0:=hv;subst hv;repeat' first|refine aG ?_;intros
     exact YG hT h (i2.up zQ) TC h2b ⟨kM.bA,kM.told,kM.tl,kM.db⟩ (by rw [YE,if_neg uj,if_neg (by rw [nS,hg];simp)];rfl)
    ·repeat' first|refine aG ?_;intros
     have htc:=YD.c BG;have cn:m.range≠t.child:=fun e=>by rw [←e] at hg;exact absurd (TC.symm.trans hg) (by simp)
     refine hT.call (K0 (gb:=t.st) (id:=t.child) (next:=1) h i2 (hT.fx fun k ah=>ah) ⟨htc.1,htc.2.1⟩ zQ hg htc.2.2) kQ (fun k ah=>ah) ?_;rintro _ Ad w3 X3 ⟨rfl,Fq,x3,TW,h3,i3,aid,aie⟩ wT rP dG c3;have yB:Ft w0 (all own) w3 X3 (all Fq):=dG.less TW;clear hs;have hs:=yB.s;repeat' first|refine aG ?_;intros
     exact YG yB h3 (i3.up zQ) ((mq cn).trans TC) h2b ⟨kM.bA,kM.told,kM.tl,kM.db⟩ (by rw [YE,if_neg uj,if_pos ⟨BG,by rw [nS,hg];rfl⟩];unfold iW;rw [Fo t.child,aid,aie];rfl)
   repeat' first|refine bQ ?_;intros
   exact YG hT h (i2.up zQ) TC h2b ⟨kM.bA,kM.told,kM.tl,kM.db⟩ (by rw [YE,if_neg uj,if_neg (fun h=>BG h.1)];rfl)
  ·intro K2 K3;have adg: ∀{wz:World} {Xz:XS} {R:Value→World→XS→Prop},Ft w0 (all own) wz Xz (all mA)→cC wz mA nb st1→aj S0 wz Xz wz→r.at wz S0 vr1 vw1 vp1 vq1 vh1 vd1→(∀(v:Value) (w:World) (X:XS),(∃e:Int,e≠0∧v= .tuple #[pT.none.v (.slice none 0 0),I e]∧K2 (pT.none.v (.slice none 0 0)) (I e) w X)∨(∃(t:pT) (oY:Value),v= .tuple #[t.v oY,I 0]∧bB.one oY=true∧K2 (t.v oY) (I 0) w X)→R v w X)→
     eC pg (Bs (all own) w0 fun v w'=>v= .tuple #[]∧ ∃dC ko,Gr own dC w0 w'∧cC w' dC nb ko∧fD (b+iZ m.eb) ko∧Kept st ko∧(m.n≠mz st m.range→ko=st)∧iW ko=s5 st.bA m (iW st)) Xz wz true 79 #[ptr x1.tb 0,I x1.s.next,r.v vr1 vw1 vp1 vq1 vh1 vd1] R:=by
    intro wz Xz R hT h hsS hr hR;have hsr:=jv r (aH hx);refine hT.call (TQ (S:=S0) h i1 (hT.fx fun k ah=>ah) hT.s.has Bp hr (fun k ah=>⟨hsS.sub k ah,?_⟩) hsr.1 hsr.2 zQ) kQ (fun k ah=>ah) ?_
    ·have h0:=(Nw k).1 ah;rcases du (mA k)with h9|h9
     ·exact h9
     ·rcases hT.v k (show mA k≠0 by omega)with fR|fR
      ·exact absurd h0.2 fR
      ·omega
    ·rintro v wa w' X' hq hle eH WM c;refine hR v w' X' ?_;rcases hq with⟨e,he,rfl,hn,Xb⟩|⟨Fp,x2,oY,S',rfl,K4,aif,hn,hi,lD,Wq,YD,Xb,ab0,ab1⟩
     ·exact .inl ⟨e,he,rfl,K3.1 e w' X' he Xb (WM.less fun k ah=>.inl ah) hn⟩
     ·exact .inr ⟨_,_,rfl,lD.one,K3.2 _ Fp x2 oY S' w' X' rfl Xb ab0 ab1 (WM.less fun k ah=>K4 k ah) aif hn hi lD (fun k ah=>⟨(Wq k ah).2.elim (fun h9=>c.sub k (hT.bm k h9)) (eH k),(Wq k ah).1⟩) YD⟩
   repeat' first|refine aG ?_;intros
   refine⟨?_,?_⟩;all_goals
    refine dH (yL (aic.1.wide (hw5 hT.bm)) hT.s.has) kQ hT.s.has fun w2 X2 dF=>?_;have cq:=hT.since dF;have h2:=h.since dF hT.bm;have uf:=Rec.at.mv wu (dF.jQ hsS.sub)
   ·refine⟨?_,?_⟩;all_goals
     repeat' first|refine aG ?_;intros
     refine adg cq h2 (hmS cq).2 uf fun v w X hq=>?_;rcases hq with⟨e,he,rfl,hk⟩|⟨t,oY,rfl,o1,hk⟩
    all_goals
     repeat' first|refine aG ?_;intros
     exact hk
   ·repeat' first|refine aG ?_;intros
    refine adg cq h2 (hmS cq).2 uf fun v w X hq=>?_;rcases hq with⟨e,he,rfl,hk⟩|⟨t,oY,rfl,o1,hk⟩;all_goals
     repeat' first|refine aG ?_;intros
     exact hk
theorem OQ {w:World} {A:XS} {nb bx:Nat} {st:dM} {x:Ev} (h:bN w A nb st.l 93) (hb:bN w A bx [ptr nb 0] 26):
  Ct pg 33 #[.agg x.l.toArray,ptr bx 0] w A nX fun v _ _=>v=B (!gn st.bA x.aw):=by
 intro w0 hk;replace h:=h.mv hk.cE;replace hb:=hb.mv hk.cE;apply Fs;unfold xk;have hs:=aj.init w0;repeat' first|refine aG ?_;intros
 refine dH (AR (s:=x.aw) h) kQ hs.has fun w1 X1 ao=>?_;replace hs:=hs.trans ao;cases hn:gn st.bA x.aw;all_goals
  repeat' first|refine aG ?_;intros
  exact ai hs fun wa bD=>rfl
theorem OR {w:World} {A:XS} {nb bx:Nat} {st:dM} {x:fQ} (h:bN w A nb st.l 93) (hb:bN w A bx [ptr nb 0] 26):
  Ct pg 36 #[.agg x.l.toArray,ptr bx 0] w A nX fun v _ _=>v=B (!gn st.bA x.aw):=by
 intro w0 hk;replace h:=h.mv hk.cE;replace hb:=hb.mv hk.cE;apply Fu;unfold xl;have hs:=aj.init w0;repeat' first|refine aG ?_;intros
 refine dH (AR (s:=x.aw) h) kQ hs.has fun w1 X1 ao=>?_;replace hs:=hs.trans ao;cases hn:gn st.bA x.aw;all_goals
  repeat' first|refine aG ?_;intros
  exact ai hs fun wa bD=>rfl
theorem ef.del {w w':World} {X X':XS} {lo:Nat} {v v':Value} {es:List Ev} {p:Ev→Bool} (h:ef w X lo v es) (c:eo (dP v) X w X' w') (ho:Own w' X' lo 69 7 v' ((es.filter p).map Ev.l)):ef w' X' lo v' (es.filter p):=
 ⟨ho,fun x hx=>(h.ws x (List.mem_filter.1 hx).1).dK c fun g hg hb=>jI (h.ws x (List.mem_filter.1 hx).1) h.own (by decide) hg hb,h.ap.sublist List.filter_sublist⟩
def nT (m:gx):Bool:=decide (m.err=0∧m.to=31∧m.kind=14)
def Jp (st:dM) (m:gx):PL:=
 if m.err=0∧m.to=31∧m.kind=9 then s5 st.bA m (iW st)
 else if nT m=true then(iJ st.b7,st.fs,st.holds.filter fun x=>gn (st.bA.later m.aw) x.aw)else iW st
structure adh (st:dM) (m:gx) (ko:dM):Prop where
 told:ko.told=(st.told||nT m)
 tl:ko.tl=st.tl
 bA: ¬ko.bA.cmp st.bA<0
 same:m.kind=9→m.n≠mz st m.range→ko=st
 abs:iW ko=Jp st m
 Fl:nT m=false→ko.bA=st.bA
 db:ko.db=st.db
theorem fD.aih {b:Nat} {st:dM} {s:aO} {qv' Ns:Value} (h:fD b st):fD b { st with told:=true,bA:=st.bA.later s,q:=st.q.filter fun x=>gn (st.bA.later s) x.aw,qv:=qv',holds:=st.holds.filter fun x=>gn (st.bA.later s) x.aw,ov:=Ns } :=by
 have h1:=eI (fun x:Ev=>gn (st.bA.later s) x.aw) st.q;have h2:=eI (fun x:fQ=>gn (st.bA.later s) x.aw) st.holds;refine { h with len:=?_,pr:=?_,W5:=fun x hx=>h.W5 x (List.mem_filter.1 hx).1,nz:=af h2 h.nz }
 ·have:=h.len;simp only;omega
 ·have:=h.pr.ack (s:=s);rw [show(st.q.filter fun x=>gn (st.bA.later s) x.aw).map Ev.e=(st.q.map Ev.e).filter fun e=>gn (st.bA.later s) e.aw by rw [yb];rfl];exact this
theorem Du {w:World} {X S:XS} {own:Nat→Nat} {nb b:Nat} {st:dM} {m:gx} {vk vs vw vp vr vc vh vd:Value} (h:cC w own nb st) (i:fD b st) (hF:FX (all own) X w)
  (hm:m.at w S vk vs vw vp vr vc vh vd) (hS: ∀k,S k→X k∧own k=0) (jv:m.small) (P5:m.lens≤2^62) (oR: ∀r∈m.eb,r.sz) (hb:b+iZ m.eb≤2^21):
  Ct pg 9 #[ptr nb 0,m.v vk vs vw vp vr vc vh vd] w X (all own) fun v wa w'=>v=I 0∧ ∃dC ko,Gr own dC wa w'∧cC w' dC nb ko∧fD (b+iZ m.eb) ko∧adh st m ko:=by
 intro w0 hk;have hT:=hF.ft hk;replace h:=h.kp hk fun k ah=>(hF k ah).1;obtain⟨S0,Nw⟩: ∃S0:XS,∀k,S0 k↔(k<w0.heap.size∧own k=0):=⟨_,fun _=>Iff.rfl⟩;have Bo:m.at w0 S0 vk vs vw vp vr vc vh vd:=hm.mv fun k ah jE=>⟨(Nw k).2 ⟨aN jE hk.size,(hS k ah).2⟩,hk.block k (hS k ah).1⟩;have o1:=Bo.keys.one;have o2:=Bo.seen.one;have o3:=Bo.writes.one;have o4:=Bo.parts.one;have o5:=Bo.ranges.one;have o6:=Bo.eb.one;have o7:=Bo.gF.one;have o8:=Bo.eK.one;have Nx: ∀{wz:World} {Xz:XS},Ft w0 (all own) wz Xz (all own)→cC wz own nb st→nT m=false→ ¬(m.err=0∧m.to=31∧m.kind=9)→ ∀wa,Kp Xz wz wa→I 0=I 0∧ ∃dC ko,Gr own dC w0 wa∧cC wa dC nb ko∧fD (b+iZ m.eb) ko∧adh st m ko:=
  fun hT h hh h9 wa bD=>⟨rfl,own,st,Gr.refl _ _ _,h.kp bD hT.bm,i.up zQ,⟨by rw [hh,Bool.or_false],rfl,rH _,fun _ _=>rfl,by rw [Jp,if_neg h9,hh];rfl,fun _=>rfl,rfl⟩⟩
 apply JN;unfold Al;refine ph rfl hT.s.has fun bx w1 X1 fi ao hrb=>?_;have dq:=hT.since ao;have h1:=h.since ao hT.bm;have sd:m.at w1 S0 vk vs vw vp vr vc vh vd:=Bo.mv (ao.jQ fun k ah=>((Nw k).1 ah).1);have zx: ∀k,S0 k→X1 k:=fun k ah=>ao.sub k ((Nw k).1 ah).1;have jq:=h1.row.mv (Mv.sub fun k ah=>dq.bm k (cJ (p:=1) (by decide) k ah));have hs:=dq.s;refine dJ ?_;repeat' first|refine aG ?_;intros
 refine dH (VJ (sd.mv (Mv.sub zx)) jv P5) kQ dq.s.has fun w2 X2 dF=>?_;have cq:=dq.since dF;have h2:=h1.since dF dq.bm;have pf:=sd.mv (dF.jQ zx);have Aj: ∀k,S0 k→X2 k:=fun k ah=>dF.sub k (zx k ah);have kA:=jq.mv dF.mv;have afe:=hrb.mv dF.mv;clear hs dq h1 jq hrb sd;have hs:=cq.s;by_cases lK:m.err=0∧m.to=31
 rotate_left
 ·repeat' first|refine bQ ?_;intros|refine dj ?_ ?_<;>intros
  all_goals exact cq.fin fun wa bD=>Nx cq h2 (by simp only [nT,decide_eq_false_iff_not];omega) zQ wa bD
 by_cases bD:m.kind=9
 ·repeat' first|refine bQ ?_;intros
  refine cq.call (TT (S:=S0) h2 i (cq.fx fun k ah=>ah) pf (fun k ah=>⟨Aj k ah,((Nw k).1 ah).2⟩) (fun r hr=>⟨jv.eb r hr,oR r hr⟩) hb) kQ (fun k ah=>ah) ?_;rintro _ Ad w3 X3 ⟨rfl,Fq,mJ,TW,h3,i3,Dt,aii,aij⟩ wT rP dG c3;have yB:Ft w0 (all own) w3 X3 (all Fq):=dG.less TW;clear hs;have hs:=yB.s
  skip
  exact yB.fin fun wa OS=>⟨rfl,Fq,mJ,yB.oT OS fun k ah=>ah,h3.kp OS yB.bm,i3,⟨by rw [Dt.told];simp [nT,bD],Dt.tl,by rw [Dt.bA];exact rH _,fun _ cn=>aii cn,by rw [aij,Jp,if_pos ⟨lK.1,lK.2,bD⟩],fun _=>Dt.bA,Dt.db⟩⟩
 by_cases ab2:m.kind=14
 rotate_left
 ·repeat' first|refine bQ ?_;intros
  exact cq.fin fun wa OS=>Nx cq h2 (by simp [nT,ab2]) zQ wa OS
 have hh:nT m=true:=by simp [nT,lK,ab2]
 have j5:own nb=1:=h.row.1;have hp1: ∀{wz:World} {A:XS} {sz:dM},sz.bA=st.bA.later m.aw→bN wz A nb sz.l 93→bN wz A bx [ptr nb 0] 26→ ∀x∈st.q,Ct pg 33 ((.agg x.l.toArray)::[ptr bx 0]).toArray wz (fun k=>k=bx∨k=nb) nX fun v _ _=>v=B (!gn (st.bA.later m.aw) x.aw):=
  fun hz hr hb x _=>by rw [←hz];exact OQ ⟨.inr rfl,hr.2⟩ ⟨.inl rfl,hb.2⟩
 have Tu: ∀{wz:World} {A:XS} {sz:dM},sz.bA=st.bA.later m.aw→bN wz A nb sz.l 93→bN wz A bx [ptr nb 0] 26→ ∀x∈st.holds,Ct pg 36 ((.agg x.l.toArray)::[ptr bx 0]).toArray wz (fun k=>k=bx∨k=nb) nX fun v _ _=>v=B (!gn (st.bA.later m.aw) x.aw):=
  fun hz hr hb x _=>by rw [←hz];exact OR ⟨.inr rfl,hr.2⟩ ⟨.inl rfl,hb.2⟩
 repeat' first|refine bQ ?_;intros
 have Ny: ∀{q:Nat},own bx=q→q≠0→False:=fun e h0=>by
  have h9:=hT.bm bx (show own bx≠0 by rw [e];exact h0);have h9:bx<w0.heap.size:=h9;omega
 have cn:nb≠bx:=fun e=>Ny (q:=1) (by rw [←e];exact j5) (by decide);refine AN (o:=10) kA zQ kQ (by simp) rfl cq.s.has fun w3 X3 c3 pL=>?_;have h3:cC w3 own nb { st with told:=true } :=cC.put j5 cq.bm c3 pL h2.oS h2.pr h2.nz h2.lX h2.tS;have dG:Ft w0 (all own) w3 X3 (all own):=cq.dK c3 (fun k ah=>by subst ah;exact cJ (p:=1) (by decide) _ j5) fun k ah=>.inl ah;have iq:=h3.row.mv (Mv.sub fun k ah=>dG.bm k (cJ (p:=1) (by decide) k ah));have aff:=nC afe c3 (Ne.symm cn);clear hs kA afe pL h2;have hs:=dG.s;repeat' first|refine aG ?_;intros
 refine gh (ui _ _) kQ dG.s.has fun w4 X4 j6=>?_;have fk:=dG.since j6;have h4:=h3.since j6 dG.bm;have th:=iq.mv j6.mv;have afg:=aff.mv j6.mv;clear hs iq aff h3;have hs:=fk.s;repeat' first|refine aG ?_;intros
 refine Je (o:=7) th zQ kQ (by simp) rfl rfl fk.s.has fun w5 X5 c5 hr5=>?_;have h5:cC w5 own nb { st with told:=true,bA:=st.bA.later m.aw } :=cC.put j5 fk.bm c5 hr5 h4.oS h4.pr h4.nz h4.lX h4.tS;have fU:Ft w0 (all own) w5 X5 (all own):=fk.dK c5 (fun k ah=>by subst ah;exact cJ (p:=1) (by decide) _ j5) fun k ah=>.inl ah;have ti:=h5.row.mv (Mv.sub fun k ah=>fU.bm k (cJ (p:=1) (by decide) k ah));have Ik:=nC afg c5 (Ne.symm cn);clear hs th afg hr5 h4;have hs:=fU.s;refine ir (fun (k:World→XS→Prop)=> ∀w X v',Ft w0 (all own) w X (all own)→cC w own nb { st with told:=true,bA:=st.bA.later m.aw,q:=st.q.filter fun x=>gn (st.bA.later m.aw) x.aw,qv:=v' } →bN w X bx [ptr nb 0] 26→k w X) ?_ ?_
 ·clear hs ti Ik h5;intro w X v' fU h5 Ik;have hs:=fU.s;have ti:=h5.row.mv (Mv.sub fun k ah=>fU.bm k (cJ (p:=1) (by decide) k ah));have hX4: ∀k,ik own 4 k→X k:=fun k ah=>fU.bm k (cJ (p:=4) (by decide) k ah);have abW:Own w X 0 102 5 st.ov (st.holds.map fQ.l):=h5.nz.mono hX4;have KP: ∀k,dP st.ov k→own k=4:=fun k ah=>h5.nz.2.2 k ah;have Xc:=Tu rfl ti Ik;repeat' first|refine aG ?_;intros
  refine⟨?_,?_⟩;all_goals
   repeat' first|refine aG ?_;intros
   refine fU.call (Ie (A:=fun k=>k=bx∨k=nb) (cs:=[ptr bx 0]) (p:=fun x=>!gn (st.bA.later m.aw) x.aw) abW fU.s.has (fun k ah=>?_) kQ Xc) kQ (fun k ah=>cJ (p:=4) (by decide) k (KP k ah)) ?_
   ·rcases ah with rfl|rfl
    ·exact⟨Ik.1,fun hb=>Ny (q:=4) (KP _ hb) (by decide)⟩
    ·exact⟨ti.1,fun hb=>by have:=KP _ hb;omega⟩
  all_goals
   rintro v6 Qd w6 X6 ⟨uF,afh⟩ HX LA gU c6;replace gU:Ft w0 (all own) w6 X6 (all own):=gU.less fun k ah=>.inl ah;have v1:=Eb (p:=4) c6 fU.bm KP;have abX:Own w6 (ik own 4) 0 102 5 v6 ((st.holds.filter fun x=>gn (st.bA.later m.aw) x.aw).map fQ.l):=by
    simp only [Bool.not_not] at uF;exact uF.mono fun k ah=>KP k ah
   have LP:=h5.row.mv (v1 1 (by decide) (by decide));have AS:=LP.mv (Mv.sub fun k ah=>gU.bm k (cJ (p:=1) (by decide) k ah));have afi:=nC Ik c6 fun hb=>Ny (q:=4) (KP _ hb) (by decide);clear hs;have hs:=gU.s;repeat' first|refine aG ?_;intros
   refine AN (o:=12) AS zQ kQ (by simp) uF.sl.one gU.s.has fun w7 X7 c7 W6=>?_;have h7:cC w7 own nb { st with told:=true,bA:=st.bA.later m.aw,q:=st.q.filter fun x=>gn (st.bA.later m.aw) x.aw,qv:=v',holds:=st.holds.filter fun x=>gn (st.bA.later m.aw) x.aw,ov:=v6 } :=
    cC.put j5 gU.bm c7 W6 (h5.oS.mv (v1 2 (by decide) (by decide))) (h5.pr.mv (v1 3 (by decide) (by decide))) abX (h5.lX.mv (v1 5 (by decide) (by decide))) (h5.tS.mv (v1 6 (by decide) (by decide)))
   have nv:Ft w0 (all own) w7 X7 (all own):=gU.dK c7 (fun k ah=>by subst ah;exact cJ (p:=1) (by decide) _ j5) fun k ah=>.inl ah;clear hs;have hs:=nv.s
   skip
   exact nv.fin fun wa OS=>⟨rfl,own,_,Gr.refl _ _ _,h7.kp OS nv.bm,i.aih.up zQ,⟨by rw [hh,Bool.or_true],rfl,abO _ _,fun e=>absurd e (by rw [ab2];decide),by rw [Jp,if_neg zQ,if_pos hh];rfl,fun h9=>absurd (hh.symm.trans h9) (by decide),rfl⟩⟩
 ·intro K hK;have Nz: ∀k,ik own 3 k→X5 k:=fun k ah=>fU.bm k (cJ (p:=3) (by decide) k ah);have QF:ef w5 X5 0 st.qv st.q:=h5.pr.mv (Mv.sub Nz);have Qa: ∀k,dP st.qv k→own k=3:=fun k ah=>h5.pr.own.2.2 k ah;have Xc:=hp1 rfl ti Ik;repeat' first|refine aG ?_;intros
  refine⟨?_,?_⟩;all_goals
   repeat' first|refine aG ?_;intros
   refine fU.call (JL (A:=fun k=>k=bx∨k=nb) (cs:=[ptr bx 0]) (p:=fun x=>!gn (st.bA.later m.aw) x.aw) QF.own fU.s.has (fun k ah=>?_) kQ (fun x hx=>(QF.ws x hx).sl.one) Xc) kQ (fun k ah=>cJ (p:=3) (by decide) k (Qa k ah)) ?_
   ·rcases ah with rfl|rfl
    ·exact⟨Ik.1,fun hb=>Ny (q:=3) (Qa _ hb) (by decide)⟩
    ·exact⟨ti.1,fun hb=>by have:=Qa _ hb;omega⟩
  all_goals
   rintro v6 Qd w6 X6 ⟨uF,afh⟩ HX LA gU c6;replace gU:Ft w0 (all own) w6 X6 (all own):=gU.less fun k ah=>.inl ah;have v1:=Eb (p:=3) c6 fU.bm Qa;have K5:ef w6 (ik own 3) 0 v6 (st.q.filter fun x=>gn (st.bA.later m.aw) x.aw):=by
    simp only [Bool.not_not] at uF;have h9:=QF.del (p:=fun x=>gn (st.bA.later m.aw) x.aw) c6 (uF.mono fun k ah=>c6.sub k (Nz k (Qa k ah)));refine h9.tight.mv (Mv.sub fun k ah=>?_);rcases ah with ah|⟨y,hy,ah⟩
    ·exact Qa k (by rw [afh] at ah;exact ah)
    ·exact(h5.pr.ws y (List.mem_filter.1 hy).1).2.2 k ah
   have LP:=h5.row.mv (v1 1 (by decide) (by decide));have AS:=LP.mv (Mv.sub fun k ah=>gU.bm k (cJ (p:=1) (by decide) k ah));have afi:=nC Ik c6 fun hb=>Ny (q:=3) (Qa _ hb) (by decide);clear hs;have hs:=gU.s;repeat' first|refine aG ?_;intros
   refine AN (o:=11) AS zQ kQ (by simp) uF.sl.one gU.s.has fun w7 X7 c7 W6=>?_;have h7:cC w7 own nb { st with told:=true,bA:=st.bA.later m.aw,q:=st.q.filter fun x=>gn (st.bA.later m.aw) x.aw,qv:=v6 } :=
    cC.put j5 gU.bm c7 W6 (h5.oS.mv (v1 2 (by decide) (by decide))) K5 (h5.nz.mv (v1 4 (by decide) (by decide))) (h5.lX.mv (v1 5 (by decide) (by decide))) (h5.tS.mv (v1 6 (by decide) (by decide)))
   have nv:Ft w0 (all own) w7 X7 (all own):=gU.dK c7 (fun k ah=>by subst ah;exact cJ (p:=1) (by decide) _ j5) fun k ah=>.inl ah;exact hK _ _ v6 nv h7 (nC afi c7 (Ne.symm cn))
section
variable {w : World} {X : XS} {own : Nat → Nat} {nb b : Nat} {st : dM}
theorem TX (h:cC w own nb st) (hX: ∀k,all own k→X k):Ct pg 16 #[ptr nb 0] w X nX fun v _ _=>v=st.bA.v:=by
 intro w0 hk;replace h:=h.kp hk hX;have bH:=h.row.mv Mv.aR;apply Il;unfold zA;have hs:=aj.init w0;repeat' first|refine aG ?_;intros|((first|(with_reducible refine ai hs ?_)|(with_reducible refine ai (bE.trans hs) ?_));intro wa hk;rfl)
theorem K6 {r:Int} (h:cC w own nb st) (hX: ∀k,all own k→X k):Ct pg 19 #[ptr nb 0,I r] w X nX fun v _ _=>v=I (mz st r):=by
 intro w0 hk;replace h:=h.kp hk hX;have bH:=h.row.mv Mv.aR;have hT:=h.lX.mv Mv.aR;apply JO;unfold Am;have hs:=aj.init w0;repeat' first|refine aG ?_;intros
 refine np (kt:=3) (et:=111) (.pointer none) hT.map iS kQ kQ (fun v x hg hv=>?_) (fun hg=>?_)
 ·have hv:v=ptr x.tb 0:=hv;subst hv;repeat' first|refine aG ?_;intros
  refine dH (yL (hT.tl _ (kU hg)).1 hs.has) kQ hs.has fun w1 X1 ao=>?_;replace hs:=hs.trans ao;repeat' first|((first|(with_reducible refine ai hs ?_)|(with_reducible refine ai (bE.trans hs) ?_));intro wa hk;(simp [mz,hg]))
 ·repeat' first|refine aG ?_;intros|((first|(with_reducible refine ai hs ?_)|(with_reducible refine ai (bE.trans hs) ?_));intro wa hk;(simp [mz,hg]))
theorem Rl (h:cC w own nb st) (i:fD b st) (hb:b≤2^30) (hX: ∀k,all own k→X k):Ct pg 50 #[ptr nb 0] w X nX fun v wa w'=>Own w' (made wa w') wa.heap.size 3 1 v ((ig (st.fs.map (·.1))).map I1):=by
 intro w0 hk;replace h:=h.kp hk hX;have bH:=h.row.mv Mv.aR;have hM:=h.oS.mv Mv.aR;have hrm:=hM.m.row;have fF:=i.BS;apply GU;unfold yc;have hs:=aj.init w0;repeat' first|refine aG ?_;intros
 refine ep (D7 hM.m i.gH zQ) kQ hs.has ?_;rintro v wa w1 X1 ho hle eH ao;have LR:w0.heap.size≤wa.heap.size:=hle;replace hs:=hs.trans ao
 skip
 exact ai hs fun P9 bD=>((ho.up eH LR).kp bD).tight
theorem xm {r:Int} (h:cC w own nb st) (hX: ∀k,all own k→X k):Ct pg 22 #[ptr nb 0,I r] w X nX fun v _ _=>v= .tuple #[((getM r st.fs).getD .zero).v,B (getM r st.fs).isSome]:=by
 intro w0 hk;replace h:=h.kp hk hX;have bH:=h.row.mv Mv.aR;have hM:=h.oS.mv Mv.aR;have hrm:=hM.m.row;apply Ed;unfold vJ;have hs:=aj.init w0;repeat' first|refine aG ?_;intros
 refine dH (LK (r:=r) hM.m) kQ hs.has fun w1 X1 ao=>?_;replace hs:=hs.trans ao;repeat' first|refine aG ?_;intros|((first|(with_reducible refine ai hs ?_)|(with_reducible refine ai (bE.trans hs) ?_));intro wa hk;rfl)
theorem OT (h:cC w own nb st) (i:fD b st) (hb:b≤2^30) (hX: ∀k,all own k→X k):
  Ct pg 17 #[ptr nb 0] w X nX fun v wa w'=> ∃es,ef w' (made wa w') wa.heap.size v es∧es.map Ev.e=st.q.map Ev.e:=by
 intro w0 hk;replace h:=h.kp hk hX;have bH:=h.row.mv Mv.aR;have QG:=h.pr.mv (X':=aR w0) (w':=w0) Mv.aR;have W7:=i.len;apply Fv;unfold xp;have hs:=aj.init w0;have lD:=QG.own.sl;repeat' first|refine aG ?_;intros
 refine fT (fun n a v w X=> ∃(j:Nat) (es:List Ev),a=I j∧n=st.q.length-j∧j≤st.q.length∧aj (aR w0) w0 X w∧ef w X w0.heap.size v es∧es.map Ev.e=(st.q.take j).map Ev.e) st.q.length ⟨0,[],rfl,rfl,aL _,hs,ef.nil _ _ _,by simp⟩ ?_;clear hs;rintro n a v w X ⟨j,es,rfl,rfl,hj,hs,hE,Ai⟩;have hq:=QG.mv hs.mv;have aik:=hq.own.sl;rcases dX st.q j with⟨cI,x,hx,hd⟩|⟨dV,hd⟩
 rotate_left
 ·repeat' first|refine bQ ?_;intros
  rw [ba dV] at Ai;exact ai hs fun wa bD=>⟨es,hE.fin bD,Ai⟩
 have H7:=hq.ws x (aH hx);have ox:=H7.sl.one;have Ia:es.length=j:=by
  have:=congrArg List.length Ai;simp only [aA,aX] at this;omega
 repeat' first|refine bQ ?_;intros
 refine ep (qf H7.sl (i.W5 x (aH hx))) kQ hs.has ?_;rintro vc wa w1 X1 Sw hle eH ao;have LR:w0.heap.size≤wa.heap.size:=af hs.kp.size hle;have EP:=Sw.up eH (bP _);have oc:=EP.sl.one;have x6:=hE.mv ao.mv;have hEb: ∀k,tm v es k→k<w.heap.size:=fun k ah=>(hE.sub k ah).2;replace hs:=hs.trans ao;clear lD aik ao;have ail:=hs.kp.size;repeat' first|refine aG ?_;intros|(with_reducible apply wX);(case hX=>exact hs.has);(case he=>kernel_rfl);(case hk=>rfl);intro acc w X ao ho;obtain⟨_,_,_,rfl⟩:=ho.sl.form;replace hs:=hs.trans ao
 have sv:=x6.mv ao.mv;have XL:=EP.mv ao.mv;refine rG (dw:=[(⟨vc,x.b6,x.aw,x.writes⟩:Ev).l]) sv.own hs.has (af ail ao.kp.size) kQ ho.sl (fun r hr u hu=>by rw [List.mem_singleton.1 hr] at hu;simp only [gp,fW,or_false] at hu;rcases hu with rfl|rfl|rfl|rfl|rfl|rfl|rfl<;>first|rfl|exact oc) (by simp only [aA,bF];omega) (by simp only [aA,bF];omega) fun v3 w3 X3 c3 Gv ae3=>?_
 have Nk:=sv.push c3 Gv XL LR fun y hy g hg gA=>by
  have h1:=hEb g (.inr ⟨y,hy,hg⟩);have h2:=(XL.ge gA).1;omega
 have dZ:=hs.dK c3 fun k ah hb=>by
  have h1:=(sv.own.ge hb).1;have ah:k<w0.heap.size:=ah;omega
 clear hs;have hs:=dZ;repeat' first|refine aG ?_;intros
 refine eR (st.q.length-(j+1)) zQ ⟨j+1,_,by simp,rfl,by omega,hs,Nk,?_⟩;rw [bg,hx,bp,bp,Ai];rfl
end
def Fw (r:Int) (tl:List (Int×Int)):Int:=tl.foldl (fun z c=>if c.1=r then c.2 else z) 1
theorem K7 {w:World} {X:XS} {own:Nat→Nat} {nb b:Nat} {st:dM} {r:Int} (h:cC w own nb st) (i:fD b st) (hF:FX (all own) X w):
  Ct pg 13 #[ptr nb 0,I r] w X (all own) fun v wa w'=>v=I (if(getM r st.b7).isSome then 0 else 8)∧ ∃dC ko,Gr own dC wa w'∧cC w' dC nb ko∧fD b ko∧Kept st ko∧iW ko=(if(getM r st.b7).isSome then bU r (⟨r,Fw r st.tl,.zero⟩,[]) (iJ st.b7)else iJ st.b7,st.fs,st.holds):=by
 intro w0 hk;have hT:=hF.ft hk;replace h:=h.kp hk fun k ah=>(hF k ah).1;have bH:=h.row.mv (Mv.sub fun k ah=>hT.bm k (cJ (p:=1) (by decide) k ah));have lp:=h.tS.mv (X:=ik own 6) (Y:=aR w0) (w':=w0) (Mv.sub fun k ah=>hT.bm k (cJ (p:=6) (by decide) k ah));have P5:=lp.gw;apply JP;unfold An;have hs:=aj.init w0;repeat' first|refine aG ?_;intros
 refine np (kt:=3) (et:=111) (.pointer none) (h.lX.mv (Mv.sub fun k ah=>hT.bm k (cJ (p:=5) (by decide) k ah))).map iS kQ kQ (fun v x hg hv=>?_) (fun hg=>?_)
 rotate_left
 ·repeat' first|refine aG ?_;intros
  exact hT.fin fun wa bD=>⟨by rw [hg];rfl,own,st,Gr.refl _ _ _,h.kp bD hT.bm,i,⟨rfl,rfl,rfl,rfl⟩,by rw [hg];rfl⟩
 have hv:v=ptr x.tb 0:=hv;subst hv;have hrr:1≤r∧r≤12:=by
  have h9:=i.keys r;rw [hg] at h9;cases fR:getM r st.fs with
  |none=>rw [fR] at h9;cases h9
  |some a=>exact i.gH _ (kU fR)
 repeat' first|refine aG ?_;intros
 refine fT (fun n a b w X=> ∃(j:Nat) (z:Int),z=Fw r (st.tl.take j)∧a=I j∧b=I z∧n=st.tl.length-j∧j≤st.tl.length∧1≤z∧z≤100000000∧aj (aR w0) w0 X w) st.tl.length ⟨0,1,rfl,rfl,rfl,rfl,aL _,by omega,by omega,hs⟩ ?_;clear hs;rintro n a b1 w1 X1 ⟨j,z,lU,rfl,rfl,rfl,hj,SU,K8,ao⟩;have dq:=hT.since ao;have h1:=h.since ao hT.bm;have ajE:=lp.mv ao.mv;have jq:=bH.mv ao.mv;have hs:=ao;rcases dX st.tl j with⟨cI,c,hx,hd⟩|⟨dV,hd⟩
 ·have hc:=i.cur c (aH hx);have hzn:Fw r (st.tl.take (j+1))=if c.1=r then c.2 else Fw r (st.tl.take j):=by rw [bg,hx];simp [Fw]
  repeat' first|refine bQ ?_;intros|refine dj ?_ ?_<;>intros|with_reducible apply dJ
  ·exact eR (st.tl.length-(j+1)) zQ ⟨j+1,_,by rw [hzn];simp [*],by simp,rfl,rfl,by omega,hc.1,hc.2,hs⟩
  ·exact eR (st.tl.length-(j+1)) zQ ⟨j+1,_,by rw [hzn];simp [*],by simp,rfl,rfl,by omega,SU,K8,hs⟩
 clear bH lp;have D6:z=Fw r st.tl:=by rw [lU,ba dV]
 repeat' first|refine bQ ?_;intros
 refine ep (MH r z) kQ dq.s.has ?_;rintro v wa w2 X2 hq hle eH dF;rw [if_neg zQ] at hq;obtain⟨tb,mb,rfl,pM⟩:=hq;have cq:=dq.since dF;have h2:=h1.since dF dq.bm;clear hs;have hs:=cq.s;repeat' first|refine aG ?_;intros
 have hTx:=(pM.exact.wide eH);have mT: ∀k,qx tb mb [] k→w1.heap.size≤k∧X2 k:=fun k ah=>by
  have:=dr.Gw (x:=⟨tb,mb,[],_⟩) pM.exact k ah;exact⟨af hle this.1.1,eH k this.1⟩
 refine sU (kt:=3) (et:=111) (a:=(⟨tb,mb,[],⟨r,z,.zero⟩⟩:fX)) (h2.lX.mv (Mv.sub fun k ah=>cq.bm k (cJ (p:=5) (by decide) k ah))).map BQ rfl (fun _ hk=>hk.elim) iS kQ cq.s.has fun w3 X3 c3 Gn=>?_;have mf:=h1.lX.map.nodup;have Nq:own st.kT=5:=h1.lX.map.x.1;have c13:eo (fun k=>k=st.kT) X1 w1 X3 w3:=(eo.qW dF _).trans c3;obtain⟨dC,q1,q2,q3,q4⟩:=A6 (own:=own) (p:=5) (F':=fun k=>ik own 5 k∨qx tb mb [] k) (by decide) c13 dq.bm (fun k ah=>by have e:k=st.kT:=ah;rw [e];exact Nq) (fun k ah=>ah.imp (fun h=>h) fun h=>(mT k h).1);have abV:lh w3 (ik dC 5) st.kT (bU r (⟨tb,mb,[],⟨r,z,.zero⟩⟩:fX) st.b7):=
  lh.put (w:=w1) (F:=ik own 5) (F1:=X2) (X1:=X2) h2.lX (fun k ah=>⟨cq.bm k (cJ (by decide) k ah),dq.s.has k (dq.bm k (cJ (by decide) k ah))⟩) hTx ⟨by simp,by simp⟩ (fun k ah=>(mT k ah).1) (fun k ah=>ah) c3 Gn (fun k ah=>q1 k (.inl ah)) fun k ah=>q1 k (.inr ah)
 have h3:cC w3 dC nb { st with b7:=bU r (⟨tb,mb,[],⟨r,z,.zero⟩⟩:fX) st.b7 } :=
  ⟨h1.row.mv (q2 1 (by decide) (by decide)),h1.oS.mv (q2 2 (by decide) (by decide)),h1.pr.mv (q2 3 (by decide) (by decide)),h1.nz.mv (q2 4 (by decide) (by decide)),abV,h1.tS.mv (q2 6 (by decide) (by decide))⟩
 have dG:Ft w0 (all own) w3 X3 (all dC):=(cq.dK c3 (F':=all own) (fun k ah=>by subst ah;exact cJ (p:=5) (by decide) _ Nq) fun k ah=>.inl ah).more fun k ah=>by
  rcases q3 k ah with h9|h9|h9
  ·exact .inl h9
  ·exact .inl (cJ (p:=5) (by decide) k h9)
  ·exact .inr ⟨c3.sub k (mT k h9).2,af dq.s.kp.size (mT k h9).1⟩
 clear hs;have hs:=dG.s
 skip
 exact dG.fin fun wa bD=>⟨by rw [hg];rfl,dC,_,dG.oT bD fun k ah=>ah,h3.kp bD dG.bm,i.feed mf hg (b':=b) ⟨qU.nil b,rfl,SU,rfl,by simp⟩ (bP b),⟨rfl,rfl,rfl,rfl⟩,by rw [hg,pI,if_pos rfl,←D6];unfold iW;rw [Fo];rfl⟩
end Go.Proofs.YtfndblbeikocdaaGreat
namespace Go.Proofs.YtfndblbeikocdaaGreat
open Go.Proofs.Tryz renaming prog → pg
open Go.bB Go.Maps Go.Shelf
set_option maxRecDepth 100000
set_option maxHeartbeats 1000000
set_option linter.unusedVariables false
set_option linter.unusedSimpArgs false
attribute [local irreducible] un jn aI aT ld1 ek st1 cA cp mE ea mF wh vy gG ga ab ax ay eW eV eU eC eF gE au fin aM aP aF vS y9 gg ix rr wi wj za zc zd fY iy ru wm wo ze zf
theorem Xd {w:World} {X:XS} {mb:Nat} :Ct pg 47 #[.map (some mb)] w X nX fun v wa w'=> ∃bx,v= .func (.func 95) #[] #[ptr bx 0]∧bN w' (made wa w') bx [.map (some mb)] 90:=by
 intro w0 hk;apply pJ;unfold jS;have hs:=aj.init w0;refine ph rfl hs.has fun bx w1 X1 fi ao bH=>?_;repeat' first|refine aG ?_;intros
 exact ai ao fun wa bD=>⟨bx,rfl,⟨fi,(bH.kp bD).lt⟩,(bH.kp bD).2⟩
theorem QH {w:World} {X A:XS} {mb bx:Nat} {α:Type} {rd:World→XS→Value→α→Prop} {l:List (Int×α)} (h:fL w X A mb Gs rd l) (hb:bN w X bx [.map (some mb)] 90)
  (hs: ∀x∈l,-(2^63)≤x.1∧x.1<2^63) (hl:l.length≤2^40):
  Ct pg 46 #[.func (.func 95) #[] #[ptr bx 0]] w X nX fun v wa w'=>Own w' (made wa w') wa.heap.size 3 1 v ((ig (l.map (·.1))).map I1):=
 Qo h kQ hs hl fun wa hk nn D0 lN=>
  AnyZI.keys_gives (ρ:=Tryz.Qi) { Tryz.agM with } Fence.wide _ trivial rfl zQ bx mb nn D0 wa (hb.kp hk).lt (by have:=(hb.kp hk).2;simp [World.cell?,this]) lN
theorem adL {X:XS} {w:World} {t e k lo:Nat} {v:Value} {z:Int} {i:Nat} {rows:List (List Value)} {N:Value→Prop} (h:Own w X lo e k v rows) (hz:z=i) (hi:i≤rows.length) (ht:pg.underlying t=some (.slice (pg.elem t))) (hs:((pg.info? (pg.elem t)).map (·.size)).isSome=true)
  (n: ∀v',Own w X lo e k v' (rows.take i)→N v'):ab pg X w (Instr.sliceAt t v none (some (.int .i64 z)) none) N:=by
 rcases h.row with⟨rfl,rfl⟩|⟨g,cap,cs,rfl,ez,bH,jk,iK,o9,gN⟩
 ·have h0:i=0:=by simpa using hi
  subst h0;exact zh hz (bP _) ht hs (n _ (Own.nil _ _ _ _ _))
 ·have hr: ∀r∈rows,r.length=k:=h.1;refine zh hz zQ ht hs (n _ (Own.wC (n:=i) bH ez (fun r jt=>hr r (ee jt)) (by rw [aX];omega) zQ iK o9 ?_));have h1:=congrArg (List.take (i*k)) gN;rw [List.take_take,iV (Nat.mul_le_mul_right k hi)] at h1;rw [h1];have Ib:rows.flatten=(rows.take i).flatten++(rows.drop i).flatten:=by rw [←List.flatten_append,List.take_append_drop]
  have hl:((rows.take i).flatten).length=i*k:=by rw [gZ (k:=k) fun r jt=>hr r (ee jt),aX,iV hi]
  rw [Ib,List.take_append_of_le_length zQ,ba zQ]
structure Om where
 kind:Int
 fr:Int
 to:Int
 b6:eh
 range:Int
 aw:aO
 prev:aO
 n:Int
 mx:Int
 writes:List KV
 wv:Value
abbrev Om.l (x:Om):List Value:=[I x.kind,I x.fr,I x.to,I x.b6.iP,I x.b6.lu,I x.b6.sq,I x.range,I 0,I 0,I x.aw.wall,I x.aw.dv,I x.aw.node,I x.prev.wall,I x.prev.dv,I x.prev.node,B false,I x.n,I x.mx,
 .slice none 0 0,.slice none 0 0,x.wv,.slice none 0 0,.slice none 0 0,.slice none 0 0,I 0,I 0,.float .f64 0,.float .f64 0,I 0,I 0,I 0,I 0,I 0,I 0,.slice none 0 0,.slice none 0 0]
theorem TY {x:Om} (h:bB.one x.wv=true): ∀r∈[x.l],∀u∈r,bB.one u=true:=fun r hr u hu=>by
 rw [List.mem_singleton.1 hr] at hu;simp only [gp,fW,or_false] at hu;repeat (rcases hu with hu|hu;· subst hu;first|rfl|exact h)
 subst hu;rfl
def Om.p (x:Om):Om:= { x with wv:=.slice none 0 0 }
structure mK (w:World) (X:XS) (lo:Nat) (v:Value) (l:List Om):Prop where
 own:Own w X lo 49 36 v (l.map Om.l)
 ws: ∀x∈l,Own w X lo 118 4 x.wv (x.writes.map KV.l)
theorem mK.nil (w:World) (X:XS) (lo:Nat):mK w X lo (.slice none 0 0) []:=⟨Own.nil _ _ _ _ _,by simp⟩
theorem mK.mv {w w':World} {X X':XS} {lo:Nat} {v:Value} {l:List Om} (h:mK w X lo v l) (m:Mv X w X' w'):mK w' X' lo v l:=⟨h.own.mv m,fun x hx=>(h.ws x hx).mv m⟩
theorem mK.push {w w':World} {X X':XS} {lo lo2:Nat} {v v':Value} {l:List Om} {x:Om} (h:mK w X lo v l) (c:eo (dP v) X w X' w') (ho:Own w' X' lo 49 36 v' (l.map Om.l++[x.l]))
  (hx:Own w X lo2 118 4 x.wv (x.writes.map KV.l)) (hl:lo≤lo2):mK w' X' lo v' (l++[x]):=by
 refine⟨by rw [bp];exact ho,fun y hy=>?_⟩;rcases List.mem_append.1 hy with hy|hy
 ·exact(h.ws y hy).dK c fun g hg hb=>jI (h.ws y hy) h.own (by decide) hg hb
 ·rw [List.mem_singleton.1 hy];exact(hx.dK c fun g hg hb=>jI hx h.own (by decide) hg hb).low hl
theorem mK.fin {w w0 wa:World} {X:XS} {v:Value} {l:List Om} (h:mK w X w0.heap.size v l) (hk:Kp X w wa):mK wa (made w0 wa) w0.heap.size v l:=⟨(h.own.kp hk).tight,fun x hx=>((h.ws x hx).kp hk).tight⟩
abbrev eT:Value:=.slice none 0 0
def BT:Om:=⟨13,31,32,.zero,0,.zero,.zero,0,0,[],eT⟩
def NA (prev:aO) (e:qG):Om:=⟨12,31,32,e.b6,0,e.aw,prev,0,0,e.writes,eT⟩
def lP (prev:aO):List qG→List Om
 |[]=>[]
 |e::l=>NA prev e::lP e.aw l
theorem Gx: ∀(l:List qG) (prev:aO) (e:qG),lP prev (l++[e])=lP prev l++[NA (jr prev l) e]
 |[],_,_=>rfl
 |a::l,prev,e=>by
  have h:=Gx l a.aw e;have e2:jr prev (a::l)=jr a.aw l:=by
   cases l with
   |nil=>rfl
   |cons b l=>
    unfold jr;rw [List.getLast?_cons_cons];cases hq:(b::l).getLast? with
    |none=>simp at hq
    |some e=>rfl
  simp only [List.cons_append,lP,h,e2]
def lQ (st:dM) (r:Int):Bool:=(getM r st.fs).isSome&&decide (max (st.q.length:Int) 0≥st.room-st.hl.length)&&decide (((getM r st.fs).getD .zero).cmp ((rD st.fs).getD .zero)>0)
def xq (st:dM) (r:Int):Om:=⟨8,31,r,.zero,r,st.seen,.zero,mz st r,if lQ st r then 0 else 8,[],eT⟩
def uN (st:dM):List Om:=(if st.told then lP st.bA ((st.q.take 8).map Ev.e)else [BT])++(ig (st.b7.map (·.1))).map (xq st)
theorem fD.YH {b:Nat} {w:World} {own:Nat→Nat} {nb:Nat} {s:dM} (i:fD b s) (h:cC w own nb s):(s.b7.map (·.1)).Perm (s.fs.map (·.1)):=by
 refine(List.perm_ext_iff_of_nodup h.lX.map.nodup h.oS.m.m.nodup).2 fun r=>?_;have hk:=i.keys r;have key: ∀{α:Type} {l:List (Int×α)},(l.map (·.1)).Nodup→((getM r l).isSome=true↔r∈l.map (·.1)):=fun {α} {l} hn=>by
  constructor
  ·intro h9;cases fR:getM r l with
   |none=>rw [fR] at h9;cases h9
   |some a=>exact List.mem_map.2 ⟨_,kU fR,rfl⟩
  ·intro h9;obtain⟨x,hx,rfl⟩:=List.mem_map.1 h9;rw [nk hn hx];rfl
 rw [←key h.lX.map.nodup,←key h.oS.m.m.nodup,hk]
theorem K9 {w:World} {X:XS} {own:Nat→Nat} {nb b:Nat} {st:dM} (h:cC w own nb st) (i:fD b st) (hb:b≤2^21) (hX: ∀k,all own k→X k):
  Ct pg 14 #[ptr nb 0] w X nX fun v wa w'=> ∃ov l,v= .tuple #[ov,I 0]∧mK w' (made wa w') wa.heap.size ov l∧l.map Om.p=uN st:=by
 intro w0 hk;replace h:=h.kp hk hX;have bH:=h.row.mv Mv.aR;have QG:=h.pr.mv (X':=aR w0) (w':=w0) Mv.aR;have Ee:=h.lX.mv Mv.aR;have hM0:=h.oS.mv Mv.aR;have W7:=i.len;have fF:=i.BS;have oq:=QG.own.sl.one;apply JQ;unfold Ao;have hs:=aj.init w0;repeat' first|refine aG ?_;intros
 refine ir (fun (k:Value→World→XS→Prop)=> ∀v w X l,aj (aR w0) w0 X w→mK w X w0.heap.size v l→l.length≤8→l.map Om.p=(if st.told then lP st.bA ((st.q.take 8).map Ev.e)else [BT])→k v w X) ?_ ?_
 ·intro v w X l hs hO hl8 hl;have jq:=bH.mv hs.mv;repeat' first|refine aG ?_;intros
  refine ep Xd kQ hs.has ?_;rintro _ wa w1 X1 ⟨bx,rfl,fi⟩ hle eH ao;have dq:=(Ee.mv hs.mv).mv ao.mv;have hkr: ∀x∈st.b7,1≤x.1∧x.1≤12:=fun x hx=>by
   have h9:=i.keys x.1;have hg:getM x.1 st.b7=some x.2:=nk Ee.map.nodup hx;rw [hg] at h9;cases fR:getM x.1 st.fs with
   |none=>rw [fR] at h9;cases h9
   |some a=>exact i.gH _ (kU fR)
  have hlen:st.b7.length≤b:=by
   have h9:=(i.YH h).length_eq;simp only [aA] at h9;omega
  refine ep (QH dq.map (fi.mono eH) (fun x hx=>by have:=hkr x hx;omega) zQ) kQ ao.has ?_;rintro kv zr w2 X2 CJ oU lx dF;have BU:=CJ.up (lo:=w0.heap.size) lx (af (af hs.kp.size ao.kp.size) oU);have BG:=BU.sl;have oR:(ig (st.b7.map (·.1))).length≤b:=by rw [(l7 _).length_eq,aA];exact hlen
  have gY: ∀r∈ig (st.b7.map (·.1)),∃x,getM r st.b7=some x:=fun r hr=>by
   obtain⟨x,hx,rfl⟩:=List.mem_map.1 ((l7 _).mem_iff.1 hr);exact⟨x.2,nk Ee.map.nodup hx⟩
  have Gp:=(hO.mv ao.mv).mv dF.mv;replace hs:=(hs.trans ao).trans dF;have hsq:=BG;refine xf BG kQ ?_;generalize hsr:ig (st.b7.map (·.1))=rs at BU oR gY;refine fT (fun n a v w X=> ∃(j:Nat) (l2:List Om),a=I j∧n=rs.length-j∧j≤rs.length∧aj (aR w0) w0 X w∧Own w X w0.heap.size 3 1 kv (rs.map I1)∧mK w X w0.heap.size v l2∧l2.length≤8+j∧
   l2.map Om.p=(if st.told then lP st.bA ((st.q.take 8).map Ev.e)else [BT])++(rs.take j).map (xq st)) rs.length ⟨0,l,rfl,rfl,aL _,hs,BU,Gp,by omega,by simpa using hl⟩ ?_
  clear hs hO Gp jq ao dF dq fi CJ eH lx BU BG hsq;rintro n a v w X ⟨j,l2,rfl,rfl,hj,hs,BU,hO,Z6,TZ⟩;have Wy:=BU.sl;have jq:=bH.mv hs.mv;rcases dX rs j with⟨cI,r,hx,hd⟩|⟨dV,hd⟩
  rotate_left
  ·repeat' first|refine bQ ?_;intros
   rw [ba dV] at TZ;exact ai hs fun wa bD=>⟨v,l2,rfl,hO.fin bD,by rw [TZ,uN,hsr]⟩
  obtain⟨x,hg⟩:=gY r (aH hx);have gN:rs.take (j+1)=rs.take j++[r]:=by rw [bg,hx];rfl
  repeat' first|refine bQ ?_;intros
  refine ir (fun (k:Value→World→XS→Prop)=> ∀w3 X3,aj X w X3 w3→k (.agg (Om.l ⟨8,31,r,.zero,r,st.seen,.zero,mz st r,8,[],eT⟩).toArray) w3 X3) ?_ ?_
  ·intro w3 X3 dZ;have bE:=hs;have M9:=hO.mv dZ.mv;replace hs:=hs.trans dZ;have iq:=bH.mv hs.mv;have QA:=hM0.mv hs.mv;have WL:=(QG.mv hs.mv).own.sl;clear jq
   skip
   refine ir (fun (k:Value→World→XS→Prop)=> ∀w4 X4,aj X3 w3 X4 w4→k (.agg (Om.l ⟨8,31,r,.zero,r,st.seen,.zero,mz st r,if lQ st r then 0 else 8,[],eT⟩).toArray) w4 X4) ?_ ?_
   ·intro w4 X4 j6;have hO4:=M9.mv j6.mv;have YI:=(BU.mv dZ.mv).mv j6.mv;replace hs:=hs.trans j6;have fN:=hs.kp.size;clear dZ j6;repeat' first|refine aG ?_;intros|(with_reducible apply wX);(case hX=>exact hs.has);(case he=>kernel_rfl);(case hk=>rfl);intro acc w X ao ho;obtain⟨_,_,_,rfl⟩:=ho.sl.form;replace hs:=hs.trans ao
    have WT:=hO4.mv ao.mv;refine rG (dw:=[(xq st r).l]) WT.own hs.has (af fN ao.kp.size) kQ ho.sl (TY rfl) (by simp only [aA,bF];omega) (by simp only [aA,bF];omega) fun v6 w6 X6 c6 uF Yz=>?_;have wO:=hs.dK c6 fun k ah hb=>by
     have h1:=(WT.own.ge hb).1;have ah:k<w0.heap.size:=ah;omega
    have hO6:=WT.push c6 uF (Own.nil _ _ w0.heap.size _ _) (bP _);have ab3:=(YI.mv ao.mv).dK c6 fun g hg hb=>jI (YI.mv ao.mv) WT.own (by decide) hg hb;clear hs;have hs:=wO;repeat' first|refine aG ?_;intros
    exact eR (rs.length-(j+1)) zQ ⟨j+1,_,by simp,rfl,by omega,hs,ab3,hO6,by simp only [ae,bF];omega,by rw [bp,TZ,gN];simp [Om.p,xq]⟩
   ·intro K2 K3;repeat' first|refine aG ?_;intros
    refine dH (OO (r:=r) (more:=st.q.length) QA (fun _ hk=>hk) i.gH zQ zQ i.room) kQ hs.has fun w4 X4 j6=>?_;have h9:((getM r st.fs).isSome&&decide (max (st.q.length:Int) 0≥st.room-st.hl.length)&&decide (((getM r st.fs).getD .zero).cmp ((rD st.fs).getD .zero)>0))=lQ st r:=rfl;rw [h9];replace hs:=hs.trans j6;have zZ:=K3 w4 X4 j6;cases hp:lQ st r
    ·rw [hp] at zZ;repeat' first|refine aG ?_;intros
     exact zZ
    ·rw [hp] at zZ;repeat' first|refine aG ?_;intros
     exact zZ
  ·intro K2 K3;have dq:=Ee.mv hs.mv;repeat' first|refine aG ?_;intros
   refine np (kt:=3) (et:=111) (.pointer none) dq.map iS kQ kQ (fun vx x' gA hv=>?_) (fun gA=>absurd (hg.symm.trans gA) (by simp));have hv:vx=ptr x'.tb 0:=hv;subst hv;have hxx:x'=x:=Option.some.inj (gA.symm.trans hg);subst hxx;have nJ:mz st r=x'.s.next:=by simp [mz,hg]
   repeat' first|refine aG ?_;intros
   refine⟨?_,?_⟩;all_goals
    refine dH (yL (dq.tl _ (kU hg)).1 hs.has) kQ hs.has fun w3 X3 dZ=>?_;have afj:=K3 w3 X3 dZ;rw [nJ] at afj;replace hs:=hs.trans dZ;repeat' first|refine aG ?_;intros
    exact afj
 ·intro K hK;repeat' first|refine aG ?_;intros
  rcases Bool.eq_false_or_eq_true st.told with ht|ht
  rotate_left
  ·rw [ht];rw [ht] at hK;repeat' first|refine aG ?_;intros|(with_reducible apply wX);(case hX=>exact hs.has);(case he=>kernel_rfl);(case hk=>rfl);intro acc w X ao ho;obtain⟨_,_,_,rfl⟩:=ho.sl.form;replace hs:=hs.trans ao
   refine rG (dw:=[Om.l BT]) (mK.nil w X w0.heap.size).own hs.has hs.kp.size kQ ho.sl (TY rfl) (by simp) (by simp) fun v3 w3 X3 c3 Gv ae3=>?_;have dZ:=hs.dK c3 fun k _ hb=>by cases hb
   exact hK _ _ _ [BT] dZ ((mK.nil w X w0.heap.size).push c3 Gv (Own.nil _ _ w0.heap.size _ _) (bP _)) (by simp) rfl
  ·rw [ht];rw [ht] at hK;have hsq:=QG.own.sl;repeat' first|refine aG ?_;intros
   obtain⟨q8,hq8⟩: ∃q8,q8=st.q.take 8:=⟨_,rfl⟩;have aim:st.q.take (min st.q.length 8)=q8:=by
    rw [hq8];by_cases h8:st.q.length≤8
    ·rw [iV h8,ba (bP _),ba h8]
    ·rw [Nat.min_eq_right zQ]
   have ajF:q8.length≤8:=by rw [hq8,aX];omega
   have ain: ∀x∈q8,x∈st.q:=fun x hx=>by rw [hq8] at hx;exact ee hx
   refine adL (i:=min st.q.length 8) QG.own zQ (by rw [aA];omega) kQ kQ fun v8 W8=>?_;rw [←pV,aim] at W8;rw [←hq8] at hK;have KH:=W8.sl;clear hsq;repeat' first|refine aG ?_;intros
   refine Bg (fun n a pv v w X=> ∃(j:Nat) (l1:List Om),a=I j∧pv=(jr st.bA ((q8.take j).map Ev.e)).v∧n=q8.length-j∧j≤q8.length∧aj (aR w0) w0 X w∧mK w X w0.heap.size v l1∧l1.length=j∧
    l1.map Om.p=lP st.bA ((q8.take j).map Ev.e)) q8.length ⟨0,[],rfl,rfl,rfl,aL _,hs,mK.nil _ _ _,rfl,rfl⟩ ?_
   clear hs KH;rintro n a pv v w X ⟨j,l1,rfl,rfl,rfl,hj,hs,hO,Z5,TZ⟩;have KH:=(W8.mv hs.mv).sl;rcases dX q8 j with⟨cI,x,hx,hd⟩|⟨dV,hd⟩
   rotate_left
   ·repeat' first|refine bQ ?_;intros
    rw [ba dV] at TZ;exact hK v w X l1 hs hO zQ TZ
   have gN:q8.take (j+1)=q8.take j++[x]:=by rw [bg,hx];rfl
   have hxq:=ain x (aH hx);have H7:=(QG.mv hs.mv).ws x hxq;have ox:=H7.sl.one;repeat' first|refine bQ ?_;intros
   refine ep (qf H7.sl (i.W5 x hxq)) kQ hs.has ?_;rintro vc wa w1 X1 Sw hle eH ao;have LR:w0.heap.size≤wa.heap.size:=af hs.kp.size hle;have EP:=Sw.up eH (bP _);have oc:=EP.sl.one;obtain⟨z1,z2,z3,rfl⟩:=EP.sl.form;have hO1:=hO.mv ao.mv;replace hs:=hs.trans ao;have fN:=hs.kp.size;clear ao KH;repeat' first|refine aG ?_;intros|(with_reducible apply wX);(case hX=>exact hs.has);(case he=>kernel_rfl);(case hk=>rfl);intro acc w X ao ho;obtain⟨_,_,_,rfl⟩:=ho.sl.form;replace hs:=hs.trans ao
   have Gp:=hO1.mv ao.mv;refine rG (dw:=[(⟨12,31,32,x.b6,0,x.aw,jr st.bA ((q8.take j).map Ev.e),0,0,x.writes,.slice z1 z2 z3⟩:Om).l]) Gp.own hs.has (af fN ao.kp.size) kQ ho.sl (TY oc) (by simp only [aA,bF];omega) (by simp only [aA,bF];omega) fun v6 w6 X6 c6 uF Yz=>?_;have wO:=hs.dK c6 fun k ah hb=>by
    have h1:=(Gp.own.ge hb).1;have ah:k<w0.heap.size:=ah;omega
   have hO6:=Gp.push c6 uF (EP.mv ao.mv) LR;clear hs;have hs:=wO;repeat' first|refine aG ?_;intros
   refine zg (q8.length-(j+1)) zQ ⟨j+1,_,by simp,?_,rfl,by omega,hs,hO6,by simp only [ae,bF];omega,?_⟩
   ·rw [gN,bp,List.map_singleton,AQ];rfl
   ·rw [bp,TZ,gN,bp,show List.map Ev.e [x]=[x.e] from rfl,Gx];rfl
end Go.Proofs.YtfndblbeikocdaaGreat
namespace Go.Proofs.YtfndblbeikocdaaGreat
open Go.Proofs.Tryz renaming prog → pg
open Go.bB
set_option maxRecDepth 100000
set_option maxHeartbeats 1000000
set_option linter.unusedVariables false
set_option linter.unusedSimpArgs false
attribute [local irreducible] un jn aI aT ld1 ek st1 cA cp mE ea mF wh vy gG ga ab ax ay eW eV eU eC eF gE au fin aM aP aF vS y9 gg ix rr wi wj za zc zd fY iy ru wm wo ze zf
def BV:Int→List (Int×Int)→Bool
 |_,[]=>true
 |p,c::l=>decide (1≤c.1∧c.1≤12∧1≤c.2∧c.2≤100000000∧p<c.1)&&BV c.1 l
theorem YJ {w:World} {X:XS} {s:aO} {vt:Value} {tl:List (Int×Int)} (h:Sl w X 2 vt (tl.map sZ)) (mH:BV 0 tl=true∧s.may=true):
  Ct pg 65 #[.agg #[I s.wall,I s.dv,I s.node,vt]] w X nX fun v _ _=>v=B true:=by
 intro w0 hk;replace h:=h.mv hk.cE;have gC:=h.gw;apply VY;unfold La;have hs:=aj.init w0;repeat' first|refine aG ?_;intros
 refine eA (fun n a w X=> ∃(i:Nat),a=I (i:Nat)∧n=tl.length-i∧i≤tl.length∧aj (aR w0) w0 X w∧ ∃p:Int,BV p (tl.drop i)=true∧ ∀c,0<i→tl[i-1]? =some c→c.1=p) tl.length ⟨0,rfl,rfl,aL _,hs,0,mH.1,fun c h=>by omega⟩ ?_;clear hs;rintro n a w X ⟨i,rfl,rfl,hi,hs,p,hp,hpc⟩;have ht:=h.mv hs.mv;rcases dX tl i with⟨cI,c,hx,hd⟩|⟨dV,hd⟩
 ·rw [hd] at hp;unfold BV at hp;simp only [aY,decide_eq_true_eq] at hp;obtain⟨⟨p1,p2,p3,p4,p5⟩,p6⟩:=hp;have adi:fY (J1 fun n a w X=> ∃(i:Nat),a=I (i:Nat)∧n=tl.length-i∧i≤tl.length∧aj (aR w0) w0 X w∧ ∃p:Int,BV p (tl.drop i)=true∧ ∀c,0<i→tl[i-1]? =some c→c.1=p) (tl.length-i) (I (i+1)) w X:=
   en (tl.length-(i+1)) zQ ⟨i+1,by simp,rfl,by omega,hs,c.1,p6,fun c' _ DG=>by rw [show i+1-1=i by omega,hx] at DG;cases DG;rfl⟩
  by_cases h0:i=0
  ·subst h0;repeat' first|refine bQ ?_;intros
   exact adi
  ·obtain⟨d,Ww⟩: ∃d,tl[i-1]? =some d:=⟨tl[i-1]'zQ,cd zQ⟩;have hpd:=hpc d zQ Ww;repeat' first|refine bQ ?_;intros
   all_goals exact adi
 ·have hm:=mH.2;repeat' first|refine bQ ?_;intros|((with_reducible refine dI (jf _) ?_ hs.has ?_ ?_);(· kernel_rfl);all_goals (intro _ w X ao;replace hs:=hs.trans ao))
  all_goals exact ai hs fun wa bD=>by first|rfl|(exfalso;simp_all)
theorem YK {w0 w:World} {X:XS} {wb:Nat} {vb:Value} {bs:List Nat} {R:Ending→World→Prop} {N:Value→World→XS→Prop} (hs:aj (aR w0) w0 X w) (hW:Wr w X w0.heap.size wb vb bs) (WI:w0.heap.size≤wb) (hb:bs.length≤2^30) (n:Int)
  (k: ∀xS w' X',aj (aR w0) w0 X' w'→Wr w' X' w0.heap.size wb xS (bs++encI n)→eo (zk wb vb) X w X' w'→N (.tuple #[]) w' X'):eC pg R X w true 113 #[ptr wb 0,I n] N:=by
 refine Ol (kO (n:=n) hW zQ hs.kp.size) kQ hs.has (fun q hq=>?_) fun v wa w' X' hq hle eH kM hc=>?_
 ·rcases hq with rfl|hq
  ·exact hW.box.1
  ·exact hW.ow.2.2 q hq
 ·obtain⟨rfl,xS,Gt⟩:=hq;refine k xS w' X' (hs.dK hc fun q h0 hq=>?_) (Gt.mv (Mv.sub fun q hq=>?_)) hc
  ·have h0:q<w0.heap.size:=h0;rcases hq with rfl|hq
   ·omega
   ·have:=(hW.ow.ge hq).1;omega
  ·rcases hq with(rfl|hq)|hq
   ·exact hc.sub _ hW.box.1
   ·exact hc.sub q (hW.ow.2.2 q hq)
   ·exact eH q hq
theorem Rm {w:World} {X:XS} {s:aO} {vt:Value} {tl:List (Int×Int)} (h:Sl w X 2 vt (tl.map sZ)) (hl:tl.length≤2^20):
  Ct pg 67 #[.agg #[I s.wall,I s.dv,I s.node,vt]] w X nX fun v wa w'=> ∃bs:List Nat,Own w' (made wa w') wa.heap.size 5 1 v (bs.map U1)∧bs.length≤40+20*tl.length:=by
 intro w0 hk;replace h:=h.mv hk.cE;apply OU;unfold Ef;have hs:=aj.init w0;refine ep Bt kQ hs.has ?_;rintro _ wa w1 X1 ⟨wb,rfl,hW⟩ hle eH ao;have WI:w0.heap.size≤wb:=af hle hW.box.1.1;replace hs:=hs.trans ao;have hW1:Wr w1 X1 w0.heap.size wb (.slice none 0 0) []:=⟨hW.box.mono eH,hW.ow.up eH hle⟩;have ht:=h.mv hs.mv;repeat' first|refine aG ?_;intros
 obtain⟨xs,wD⟩: ∃xs:List Int,xs=[s.wall,s.dv,s.node,(tl.length:Int)]:=⟨_,rfl⟩;refine Yf (rows:=xs.map I1) #[I s.wall,I s.dv,I s.node,I tl.length] (I 0) hs.has (bytes:=8) kQ kQ zQ zQ kQ (by rw [wD];simp) (by rw [wD];rfl) (by rw [wD];rfl) fun v2 w2 X2 dF iH=>?_;have iH:=iH.low hs.kp.size;replace hs:=hs.trans dF;have Xe:=hW1.mv dF.mv;have Tq:xs.length=4:=by rw [wD];rfl
 have lD:=iH.sl;clear ht ao dF;refine xf lD kQ ?_;refine eA (fun n a w X=> ∃(i:Nat) (vb:Value) (bs:List Nat),a=I i∧n=xs.length-i∧i≤xs.length∧aj (aR w0) w0 X w∧Wr w X w0.heap.size wb vb bs∧Own w X w0.heap.size 3 1 v2 (xs.map I1)∧bs.length≤10*i) xs.length ⟨0,_,[],rfl,rfl,aL _,hs,Xe,iH,by simp⟩ ?_;clear hs lD Xe iH hW1 hW eH hle;rintro n a w X ⟨i,vb,bs,rfl,rfl,hi,hs,hW,ho,PZ⟩;have lD:=ho.sl;rcases dX xs i with⟨cI,x,hx,hd⟩|⟨dV,hd⟩
 ·repeat' first|refine bQ ?_;intros
  refine YK hs hW WI zQ x fun xS w' X' si Gt c=>?_;have ue:=ho.dK c fun g hg hf=>by
   rcases hf with rfl|hf
   ·exact Own.gi ho hW.box kQ hg
   ·exact jI ho hW.ow (by decide) hg hf
  have H9:=fC x;clear hs;have hs:=si;repeat' first|refine aG ?_;intros
  exact en (xs.length-(i+1)) zQ ⟨i+1,xS,_,by simp,rfl,by omega,hs,Gt,ue,by rw [ae];omega⟩
 have aio:bs.length≤40:=by omega
 have ht:=h.mv hs.mv;repeat' first|refine bQ ?_;intros
 refine eA (fun n a w X=> ∃(j:Nat) (vb:Value) (bs:List Nat),a=I j∧n=tl.length-j∧j≤tl.length∧aj (aR w0) w0 X w∧Wr w X w0.heap.size wb vb bs∧bs.length≤40+20*j) tl.length ⟨0,vb,bs,rfl,rfl,aL _,hs,hW,by omega⟩ ?_;clear hs lD hW ho ht PZ aio hd dV hi;rintro n a w X ⟨j,vb,bs,rfl,rfl,hj,hs,hW,PZ⟩;have ht:=h.mv hs.mv;rcases dX tl j with⟨cI,c,hx,hd⟩|⟨dV,hd⟩
 ·repeat' first|refine bQ ?_;intros
  refine YK hs hW WI zQ c.1 fun xS w' X' si Gt c'=>?_;have H9:=fC c.1;clear hs;have hs:=si;repeat' first|refine aG ?_;intros
  refine YK hs Gt WI (by rw [ae];omega) c.2 fun gI w2 X2 dF Xe c2=>?_;have ajG:=fC c.2;clear hs;have hs:=dF;repeat' first|refine aG ?_;intros
  exact en (tl.length-(j+1)) zQ ⟨j+1,gI,_,by simp,rfl,by omega,hs,Xe,by simp only [ae];omega⟩
 ·repeat' first|refine bQ ?_;intros
  refine ep (HF hW zQ) kQ hs.has ?_;rintro v3 Ad w3 X3 Gv wT rP dZ;have LR:w0.heap.size≤Ad.heap.size:=af hs.kp.size wT;replace hs:=hs.trans dZ
  skip
  exact ai hs fun wa bD=>⟨bs,((Gv.up rP LR).kp bD).tight,by omega⟩
end Go.Proofs.YtfndblbeikocdaaGreat
