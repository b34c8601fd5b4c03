/-
 Part 15 of the proof: what the last text leans on.
-/
import Derived.Test.YtpdkoaklobnegaaGreatH14
open List renaming length_append → ae, append_nil → bZ, mem_singleton → aV, map_append → aT, length → az, mem_cons_of_mem → aZ, cons_append → dX, length_map → aG, sum_append → mw, getElem?_take_of_lt → gw, map_cons → bc, tail_cons → pI, length_take → bp, mem_append_left → bR, map_map → eP, getElem?_cons_succ → mT, map_congr_left → ga, length_cons → aY, length_singleton → fK, take_length → dE, take_of_length_le → bN, nodup_append → lf, nil_append → cT, take_append_drop → jI, map_singleton → vf, sum_singleton → vg
open Option.some renaming inj → bC
open Nat renaming le_trans → ah, le_refl → bf, add_sub_cancel_left → qY
open Bool renaming and_eq_true → aA, false_ne_true → fe
open List.Perm renaming refl → jR
open ByteArray renaming size → jT
set_option linter.unusedVariables false
set_option linter.unusedSimpArgs false
namespace Go.Proofs.YtpdkoaklobnegaaGreat
open Go.Proofs.Tryz renaming prog → pg
open Go.dL
def Ia (dir:ByteArray) (P:List bW→Prop) (m:DM):Prop:=
 m.fs.length≤64∧ ∀ct,∃pre s iL sf,P (pre++[s])∧Good (pre++[s])∧kf iL=none∧ky iL∧mf dir pre s iL sf (m.jH ct)
def wj (dir:ByteArray) (P:List bW→Prop) (m:DM):Prop:=m.dn=true∧Ia dir P m
theorem Ia.imp {dir:ByteArray} {P Q:List bW→Prop} {m:DM} (h:Ia dir P m) (k: ∀l s,P (l++[s])→Q (l++[s])):Ia dir Q m:=
 ⟨h.1,fun ct=>let⟨a,b,c,d,e,f⟩:=h.2 ct;⟨a,b,c,d,k _ _ e,f⟩⟩
theorem wj.imp {dir:ByteArray} {P Q:List bW→Prop} {m:DM} (h:wj dir P m) (k: ∀l,P l→Q l):wj dir Q m:=⟨h.1,h.2.imp fun _ _=>k _⟩
theorem kC {a b:List Nat} (ha:ky a) (hb:ky b):ky (a++b):=fun x hx=>(List.mem_append.1 hx).elim (ha x) (hb x)
theorem Ra (n:Nat):ky (qB n):=by
 intro x hx;unfold qB at hx;simp at hx;omega
theorem SQ {p:List Nat} (h:ky p):ky (cC p):=kC (kC (kC (Ra _) (Ra _)) h) (Ra _)
theorem aa6 {p:List Nat} {k:Nat} (hk:k<(cC p).length) (hp:p.length≤262144):kf ((cC p).take k)=none:=by
 have hl:=lQ p;by_cases h:k<12
 ·exact tD (.inl (by rw [bp];omega))
 ·have e1:im (cC p)=p.length:=by
   unfold cC;simp only [List.append_assoc];exact GC _ zQ _
  have e2:im ((cC p).take k)=p.length:=by
   rw [←e1,Fp,Fp];rw [gw zQ,gw zQ,gw zQ,gw zQ]
  refine tD (.inr (.inr (.inr ?_)));rw [e2,bp];omega
section
variable {dir : ByteArray} {pre : List bW} {s : bW} {iL : List Nat} {sf : Nat} {m : DM}
theorem mf.re {s':bW} {GZ:List Nat} {VW:Nat} {m':DM} (h:mf dir pre s iL sf m) (hk:m'.ks=m.ks) (hb: ∀t∈pre,m'.get (bw dir t.first)=m.get (bw dir t.first)) (hf:s'.first=s.first)
  (hl:m'.get (bw dir s.first)=some (flat s'.bS++GZ,VW)) (hs:VW≤(flat s'.bS++GZ).length):mf dir pre s' GZ VW m':=by
 refine⟨by rw [hk];exact h.nd,?_,fun t ht=>by rw [hb t ht];exact h.body t ht,by rw [hf];exact hl,hs⟩;rw [hk];have e:(pre++[s']).map (fun s=>bw dir s.first)=(pre++[s]).map (fun s=>bw dir s.first):=by simp [hf]
 rw [e];exact h.ks
theorem VX (h:mf dir pre s [] (flat s.bS).length m) (hg:Good (pre++[s])) (hl:m.fs.length≤64):Ia dir (fun l=>l=pre++[s]) m:=by
 refine⟨hl,fun ct=>?_⟩;obtain⟨k,hk,_,h1,h2,h3⟩:=h.jH (ct:=ct) hg;rw [bZ] at hk h3;have jQ:k=0:=by omega
 subst jQ;refine⟨pre,s,[],(flat s.bS).length,rfl,hg,BT,fun x hx=>(by cases hx),h.re h1 (fun t ht=>by rw [h2 t ht,h.body t ht]) rfl ?_ (by simp)⟩;rw [h3,bZ,Nat.add_zero,dE]
theorem J5 (h:mf dir pre s [] (flat s.bS).length m) (hg:Good (pre++[s])) (hl:m.fs.length≤64) (hd:m.dn=true):wj dir (fun l=>l=pre++[s]) m:=⟨hd,VX h hg hl⟩
abbrev bW.plus (s:bW) (p:List Nat):bW:=⟨s.first,s.bS++[p],s.size+(cC p).length⟩
theorem SR {p:List Nat} (h:mf dir pre s (cC p) (flat s.bS).length m) (hg:Good (pre++[s])) (qu:Good (pre++[s.plus p])) (hp:p.length≤262144) (hl:m.fs.length≤64) (hd:m.dn=true):wj dir (fun l=>l=pre++[s]∨l=pre++[s.plus p]) m:=by
 refine⟨hd,hl,fun ct=>?_⟩;have Ib:ky (cC p):=SQ ((qu.ok (s.plus p) (by simp)).pl p (by simp)).2;obtain⟨k,hk,_,h1,h2,h3⟩:=h.jH (ct:=ct) hg;rw [ae] at hk;rw [List.take_append,bN (Nat.le_add_right _ _),qY] at h3;by_cases mQ:k<(cC p).length
 ·refine⟨pre,s,(cC p).take k,(flat s.bS).length+k,.inl rfl,hg,aa6 mQ hp,fun x hx=>Ib x (List.mem_of_mem_take hx),h.re h1 (fun t ht=>by rw [h2 t ht,h.body t ht]) rfl h3 (by rw [ae,bp];omega)⟩
 ·refine⟨pre,s.plus p,[],(flat s.bS).length+k,.inr rfl,qu,BT,fun x hx=>(by cases hx),h.re h1 (fun t ht=>by rw [h2 t ht,h.body t ht]) rfl ?_ ?_⟩
  ·rw [h3,bN zQ,zM,GX,bZ]
  ·rw [zM,GX,bZ,ae];omega
end
theorem zN {m:DM} (hd:m.dn=false) (f:DM→DM):(m.tick.dn=true∧m.write 0 f=(m.tick,12))∨(m.tick.dn=false∧m.write 0 f=(f m.tick,0)):=by
 cases h:m.tick.dn with
 |true=>left;exact⟨rfl,by unfold DM.write;rw [if_neg (by rw [hd];simp),if_neg (by simp),if_pos h]⟩
 |false=>right;exact⟨rfl,by unfold DM.write;rw [if_neg (by rw [hd];simp),if_neg (by simp),if_neg (by rw [h];simp)]⟩
structure lT (x:LD) (pre:List bW) (s:bW):Prop where
 bI:x.L.bI=pre++[s]
 g:Good (pre++[s])
 d:mf x.L.dir pre s [] (flat s.bS).length x.m
 dn:x.m.dn=false
 sz:x.m.sz≤4194304
 fl:x.m.fs.length≤64
 d1:1≤x.L.dir.size
 d2:x.L.dir.size≤11
 r1:64≤x.L.room
 r2:x.L.room≤262144
section
variable {x : LD} {pre : List bW} {s : bW}
theorem lT.last (h:lT x pre s):x.L.last=s:=by unfold LM.last;rw [h.bI];simp
theorem lT.name (h:lT x pre s):x.L.ee=bw x.L.dir s.first:=by unfold LM.ee;rw [h.last]
theorem lT.next (h:lT x pre s):x.L.next=s.first+s.bS.length:=by unfold LM.next;rw [h.last]
theorem VY (m:DM) (n:ByteArray):(m.js n).dn=m.dn:=by unfold DM.js;split<;>rfl
theorem SS (m:DM) (n:ByteArray):(m.js n).fs.length=m.fs.length:=by
 have:(m.js n).ks=m.ks:=by
  unfold DM.js;split
  ·rfl
  ·rename_i y hy;exact JY (by rw [hy];rfl)
 have:=congrArg az this
 rwa [DM.kg,DM.kg] at this
theorem wm (m:DM):m.tick.fs.length=m.fs.length:=by rw [m.mC]
theorem lT.sync (h:lT x pre s):(x.sync.2=12∧wj x.L.dir (fun l=>l=pre++[s]) x.sync.1.m)∨(x.sync.2=0∧lT x.sync.1 pre s∧x.sync.1.L= { x.L with safe:=(x.L.next:Int)-1 } ∧x.sync.1.m.sz=x.m.sz):=by
 have e:x.m.sync x.L.ee=x.m.write 0 (DM.js (bw x.L.dir s.first)):=by
  unfold DM.sync;rw [h.name,if_pos (by rw [h.d.last];rfl)]
 unfold LD.sync;dsimp only;rw [e];rcases zN h.dn (DM.js (bw x.L.dir s.first))with⟨ht,hw⟩|⟨ht,hw⟩
 ·rw [hw];exact .inl ⟨rfl,J5 h.d.tick h.g (by rw [wm];exact h.fl) ht⟩
 ·rw [hw];have hd:=h.d.tick.js h.g;rw [bZ] at hd;exact .inr ⟨rfl,⟨h.bI,h.g,hd,by rw [VY];exact ht,by dsimp only;rw [DM.Cs,x.m.ud];exact h.sz,by dsimp only;rw [SS,wm];exact h.fl,h.d1,h.d2,h.r1,h.r2⟩,rfl,by dsimp only;rw [DM.Cs,x.m.ud]⟩
end
def e7 (l:List bW):List (List Nat):=(l.map (·.bS)).flatten
def kM (l:List bW):Option Nat:=l.head?.map (·.first)
theorem Yw (l:List bW) (s:bW):e7 (l++[s])=e7 l++s.bS:=by simp [e7]
theorem MR (l:List bW) (s:bW) (p:List Nat):e7 (l++[s.plus p])=e7 (l++[s])++[p]:=by simp [e7]
theorem PB (l:List bW) (s s':bW) (h:s'.first=s.first):kM (l++[s'])=kM (l++[s]):=by
 cases l with
 |nil=>simp [kM,h]
 |cons a l=>rfl
theorem aa7 (l:List bW) (s n:bW):kM (l++[s]++[n])=kM (l++[s]):=by
 cases l with
 |nil=>rfl
 |cons a l=>rfl
theorem Ub.plus {s:bW} {p:List Nat} (h:Ub s) (hp:p.length≤262144) (hb:ky p) (hn:s.first+s.bS.length≤99999999):Ub (s.plus p):=by
 refine⟨h.one,⟨h.top.1,by simp;omega⟩,?_,fun q hq=>?_⟩
 ·show s.size+(cC p).length=_
  rw [h.sz,zM,GX,ae]
 ·rcases List.mem_append.1 hq with hq|hq
  ·exact h.pl q hq
  ·simp only [aV] at hq;subst hq;exact⟨hp,hb⟩
theorem Good.plus {pre:List bW} {s:bW} {p:List Nat} (h:Good (pre++[s])) (hp:p.length≤262144) (hb:ky p) (hn:s.first+s.bS.length≤99999999):Good (pre++[s.plus p]):=by
 refine⟨fw.last (s:=s) (s':=s.plus p) rfl h.lk,fun t ht=>?_⟩;rcases List.mem_append.1 ht with ht|ht
 ·exact h.ok t (bR _ ht)
 ·simp only [aV] at ht;subst ht;exact(h.ok s (by simp)).plus hp hb hn
theorem Good.more {pre:List bW} {s:bW} (h:Good (pre++[s])) (hr:s.bS≠[]) (hn:s.first+s.bS.length≤99999999):Good (pre++[s]++[⟨s.first+s.bS.length,[],0⟩]):=by
 refine⟨h.lk.snoc rfl hr,fun t ht=>?_⟩;rcases List.mem_append.1 ht with ht|ht
 ·exact h.ok t ht
 ·simp only [aV] at ht;subst ht;have:=(h.ok s (by simp)).one;exact⟨by simp;omega,⟨by simpa using hn,by simp;omega⟩,by simp [flat],fun p hp=>by cases hp⟩
section
variable {x : LD} {pre : List bW} {s : bW}
theorem lT.fI (h:lT x pre s) (hr:s.bS≠[]) (hn:x.L.next≤99999999):
  ((x.fI x.L.next).2=12∧wj x.L.dir (fun l=>l=pre++[s]) (x.fI x.L.next).1.m∧(x.fI x.L.next).1.L=x.L)∨((x.fI x.L.next).2=3∧(x.fI x.L.next).1=x∧64≤x.m.fs.length)∨
  ((x.fI x.L.next).2=0∧lT (x.fI x.L.next).1 (pre++[s]) ⟨x.L.next,[],0⟩∧(x.fI x.L.next).1.L= { x.L with bI:=x.L.bI++[⟨x.L.next,[],0⟩] } ∧(x.fI x.L.next).1.m.sz=x.m.sz):=by
 have oH:=h.next
 have tN:=List.length_pos_iff.2 hr;have hnk: ¬(x.m.get (bw x.L.dir x.L.next)).isSome=true:=fun e=>by
  have:=h.d.ks.mem_iff.1 (DM.get_some.1 e);obtain⟨t,ht,e2⟩:=List.mem_map.1 this;have ZV:=(h.g.ok t ht).top;have:=Ai zQ zQ e2;rcases List.mem_append.1 ht with ht|ht
  ·have h1:=h.g.lk.J4;rw [aT] at h1;have:=(List.pairwise_append.1 h1).2.2 t.first (List.mem_map.2 ⟨t,ht,rfl⟩) s.first (by simp)
   omega
  ·simp only [aV] at ht;subst ht;omega
 have DE:qD (bw x.L.dir x.L.next)=true:=by
  have:=h.d1;have:=h.d2;simp only [qD,rC,decide_eq_true_eq];omega
 unfold LD.fI;dsimp only;unfold DM.create;rw [if_neg (by simp [DE]),if_neg hnk];by_cases hl:64≤x.m.fs.length
 ·right;left;rw [if_pos hl];have e:x.m.write 3 (fun m=>m.put (bw x.L.dir x.L.next) [] 0)=(x.m,3):=by unfold DM.write;rw [if_neg (by rw [h.dn];simp),if_pos (by simp)]
  rw [e];exact⟨rfl,rfl,hl⟩
 ·rw [if_neg hl];rcases zN h.dn (fun m=>m.put (bw x.L.dir x.L.next) [] 0)with⟨ht,hw⟩|⟨ht,hw⟩
  ·left;rw [hw];exact⟨rfl,J5 h.d.tick h.g (by rw [wm];exact h.fl) ht,rfl⟩
  ·right;right;rw [hw,if_pos rfl];have kU:x.m.tick.get (bw x.L.dir x.L.next)=none:=by
    rw [x.m.lR];cases hq:x.m.get (bw x.L.dir x.L.next)with
    |none=>rfl
    |some y=>rw [hq] at hnk;exact absurd rfl hnk
   have xj:(x.m.tick.put (bw x.L.dir x.L.next) [] 0).ks=x.m.ks++[bw x.L.dir x.L.next]:=by
    show(fC (bw x.L.dir x.L.next) ([],0) x.m.tick.fs).map (·.1)=_
    rw [tE,x.m.mC,if_neg (show¬(getM (bw x.L.dir x.L.next) x.m.fs).isSome=true from hnk)];rfl
   have fU:bw x.L.dir x.L.next ∉ x.m.ks:=fun hm=>hnk (DM.get_some.2 hm)
   have qu:=h.g.more hr zQ;rw [←oH] at qu;have ajT: ∀t∈pre++[s],(x.m.tick.put (bw x.L.dir x.L.next) [] 0).get (bw x.L.dir t.first)=some (flat t.bS,(flat t.bS).length):=fun t ht=>by
    rw [JZ,x.m.lR]
    ·rcases List.mem_append.1 ht with ht|ht
     ·exact h.d.body t ht
     ·simp only [aV] at ht;subst ht;have:=h.d.last
      rwa [bZ] at this
    ·intro e;refine fU (e▸h.d.ks.mem_iff.2 (List.mem_map.2 ⟨t,ht,rfl⟩))
   have eI:(x.m.tick.put (bw x.L.dir x.L.next) [] 0).fs.length=x.m.fs.length+1:=by
    have:=congrArg az xj;rw [ae,DM.kg,DM.kg] at this;exact this
   have ahS:(x.m.tick.put (bw x.L.dir x.L.next) [] 0).sz=x.m.sz:=by
    rw [DM.QO kU,x.m.ud];simp
   refine⟨rfl,⟨by dsimp only;rw [h.bI],qu,⟨?_,?_,ajT,?_,by simp⟩,ht,by dsimp only;rw [ahS];exact h.sz,?_,h.d1,h.d2,h.r1,h.r2⟩,rfl,ahS⟩
   ·dsimp only;rw [xj,lf];exact⟨h.d.nd,by simp,fun a ha b hb e=>fU (by simp at hb;subst hb;exact e▸ha)⟩
   ·dsimp only;rw [xj,aT];exact h.d.ks.append (jR _)
   ·exact mX
   ·dsimp only;rw [eI];omega
theorem lT.aaC (h:lT x pre s) (hn:x.L.next≤99999999):
  (x.room.2=12∧wj x.L.dir (fun l=>l=pre++[s]) x.room.1.m∧x.room.1.L.bI=x.L.bI∧x.room.1.L.dir=x.L.dir∧x.room.1.L.room=x.L.room)∨(x.room.2=3∧lT x.room.1 pre s∧x.room.1.L.dir=x.L.dir∧x.room.1.L.room=x.L.room∧64≤x.m.fs.length∧x.L.room≤s.size)∨
  (x.room.2=0∧ ∃gx s',lT x.room.1 gx s'∧x.room.1.L.next=x.L.next∧x.room.1.L.dir=x.L.dir∧x.room.1.L.room=x.L.room∧x.room.1.m.sz=x.m.sz∧((gx=pre∧s'=s∧ ¬x.L.room≤s.size)∨(gx=pre++[s]∧s'=⟨x.L.next,[],0⟩∧x.L.room≤s.size))):=by
 unfold LD.room;rw [h.last];by_cases hr:x.L.room≤s.size
 ·rw [if_pos hr];have cU:s.bS≠[]:=fun e=>by
   have h1:=(h.g.ok s (by simp)).sz;have h2:=h.r1;rw [e] at h1;simp [flat] at h1;omega
  dsimp only;rcases h.sync with⟨e,hf⟩|⟨e,hu,eL,eS⟩
  ·left;have u9:x.sync.1.L.bI=x.L.bI∧x.sync.1.L.dir=x.L.dir∧x.sync.1.L.room=x.L.room:=by
    unfold LD.sync;dsimp only;split<;>exact⟨rfl,rfl,rfl⟩
   rw [if_pos (by rw [e];simp)];exact⟨e,hf,u9⟩
  ·rw [if_neg (by rw [e];simp)];have oH:x.sync.1.L.next=x.L.next:=by rw [hu.next,h.next]
   have aa8:x.sync.1.L.dir=x.L.dir:=by rw [eL]
   have SL:x.sync.1.L.room=x.L.room:=by rw [eL]
   have Bc:x.sync.1.m.fs.length=x.m.fs.length:=by
    have h1:=h.d.ks.length_eq;have h2:=hu.d.ks.length_eq;rw [DM.kg] at h1 h2;rw [h1,h2];simp
   rw [←oH];rcases hu.fI cU zQ with⟨a,b,c⟩|⟨a,b,c⟩|⟨a,b,c,d⟩
   ·left;rw [aa8] at b;exact⟨a,b,by rw [c,eL],by rw [c,aa8],by rw [c,SL]⟩
   ·right;left;rw [b];exact⟨a,hu,aa8,SL,by omega,hr⟩
   ·right;right;refine⟨a,_,_,b,?_,by rw [c];exact aa8,by rw [c];exact SL,d.trans eS,.inr ⟨rfl,rfl,hr⟩⟩;rw [b.next];simp
 ·rw [if_neg hr];right;right;exact⟨rfl,pre,s,h,rfl,rfl,rfl,rfl,.inl ⟨rfl,rfl,hr⟩⟩
end
section
variable {x : LD} {pre : List bW} {s : bW} {p : List Nat}
structure Lay (x:LD) (pre:List bW) (s:bW) (p:List Nat):Prop where
 bI:x.L.bI=pre++[s.plus p]
 g0:Good (pre++[s])
 g:Good (pre++[s.plus p])
 d:mf x.L.dir pre s (cC p) (flat s.bS).length x.m
 pl:p.length≤262144
 dn:x.m.dn=false
 sz:x.m.sz≤4194304
 fl:x.m.fs.length≤64
 d1:1≤x.L.dir.size
 d2:x.L.dir.size≤11
 r1:64≤x.L.room
 r2:x.L.room≤262144
theorem Lay.last (h:Lay x pre s p):x.L.last=s.plus p:=by unfold LM.last;rw [h.bI];simp
theorem Lay.sync (h:Lay x pre s p):(x.sync.2=12∧wj x.L.dir (fun l=>l=pre++[s]∨l=pre++[s.plus p]) x.sync.1.m)∨(x.sync.2=0∧lT x.sync.1 pre (s.plus p)∧x.sync.1.L.dir=x.L.dir∧x.sync.1.L.room=x.L.room):=by
 have hn:x.L.ee=bw x.L.dir s.first:=by unfold LM.ee;rw [h.last]
 have e:x.m.sync x.L.ee=x.m.write 0 (DM.js (bw x.L.dir s.first)):=by
  unfold DM.sync;rw [hn,if_pos (by rw [h.d.last];rfl)]
 unfold LD.sync;dsimp only;rw [e];rcases zN h.dn (DM.js (bw x.L.dir s.first))with⟨ht,hw⟩|⟨ht,hw⟩
 ·rw [hw];exact .inl ⟨rfl,SR h.d.tick h.g0 h.g h.pl (by rw [wm];exact h.fl) ht⟩
 ·rw [hw];have hd:=h.d.tick.js h.g0;have eI:flat s.bS++cC p=flat (s.plus p).bS:=by show _=flat (s.bS++[p]);rw [zM,GX]
  have pY:mf x.L.dir pre (s.plus p) [] (flat (s.plus p).bS).length (x.m.tick.js (bw x.L.dir s.first)):=by
   refine hd.re rfl (fun _ _=>rfl) rfl ?_ (by simp);rw [hd.last,eI,bZ]
  exact .inr ⟨rfl,⟨h.bI,h.g,pY,by rw [VY];exact ht,by dsimp only;rw [DM.Cs,x.m.ud];exact h.sz,by dsimp only;rw [SS,wm];exact h.fl,h.d1,h.d2,h.r1,h.r2⟩,rfl,rfl⟩
theorem lT.lay (h:lT x pre s) (hp:p.length≤262144) (hb:ky p) (hn:x.L.next≤99999999):
  ((x.lay p).2=12∧wj x.L.dir (fun l=>l=pre++[s]∨l=pre++[s.plus p]) (x.lay p).1.m∧(x.lay p).1.L=x.L)∨((x.lay p).2=11∧(x.lay p).1=x∧4194304<x.m.sz+(cC p).length)∨
  ((x.lay p).2=0∧Lay (x.lay p).1 pre s p∧(x.lay p).1.L=x.L.add p):=by
 have oH:=h.next
 have qu:=h.g.plus hp hb zQ;have hl:=h.d.last;rw [bZ] at hl;have eA:x.m.append (bw x.L.dir s.first) (cC p)=if 4194304-x.m.sz<(cC p).length then(x.m,11)else(x.m.tick.put (bw x.L.dir s.first) (flat s.bS++cC p) (flat s.bS).length,if x.m.tick.dn then 12 else 0):=by
  unfold DM.append;rw [hl,if_neg (by rw [h.dn];simp)]
 unfold LD.lay;dsimp only;rw [h.name];by_cases dU:4194304-x.m.sz<(cC p).length
 ·right;left;rw [if_pos dU] at eA;rw [eA];exact⟨rfl,rfl,by have:=h.sz;omega⟩
 ·rw [if_neg dU] at eA;have cH:x.m.tick.get (bw x.L.dir s.first)=some (flat s.bS,(flat s.bS).length):=by rw [x.m.lR];exact hl
  have hd:mf x.L.dir pre s (cC p) (flat s.bS).length (x.m.tick.put (bw x.L.dir s.first) (flat s.bS++cC p) (flat s.bS).length):=
   h.d.tick.put h.g rfl rfl (by rw [ae];omega)
  have gg:(x.m.tick.put (bw x.L.dir s.first) (flat s.bS++cC p) (flat s.bS).length).dn=x.m.tick.dn:=rfl;have eI:(x.m.tick.put (bw x.L.dir s.first) (flat s.bS++cC p) (flat s.bS).length).fs.length≤64:=by
   have hk:(x.m.tick.put (bw x.L.dir s.first) (flat s.bS++cC p) (flat s.bS).length).ks=x.m.tick.ks:=JY (by rw [cH];rfl);have:=congrArg az hk;rw [DM.kg,DM.kg,wm] at this;rw [this];exact h.fl
  cases ht:x.m.tick.dn with
  |true=>
   left;rw [ht,if_pos rfl] at eA;rw [eA];exact⟨rfl,SR hd h.g qu hp eI (gg.trans ht),rfl⟩
  |false=>
   right;right;rw [ht,if_neg fe] at eA;rw [eA,if_pos rfl];refine⟨rfl,⟨?_,h.g,qu,hd,hp,gg.trans ht,?_,?_,h.d1,h.d2,h.r1,h.r2⟩,rfl⟩
   ·show x.L.bI.dropLast++[⟨x.L.last.first,x.L.last.bS++[p],x.L.last.size+(cC p).length⟩]=_
    rw [h.last,h.bI,List.dropLast_concat]
   ·have:=DM.JD (bs:=flat s.bS++cC p) (s':=(flat s.bS).length) cH;rw [ae,x.m.ud] at this;have:=h.sz;dsimp only;omega
   ·exact eI
structure Kept (x:LD) (pre:List bW) (s:bW) (p:List Nat) (y:LD) (gx:List bW) (s':bW):Prop where
 up:lT y gx s'
 fst:kM (gx++[s'])=kM (pre++[s])
 dir:y.L.dir=x.L.dir
 room:y.L.room=x.L.room
theorem lT.dN (h:lT x pre s) (hp:p.length≤262144) (hb:ky p):
  ((x.dN 0 p).2.2=12∧wj x.L.dir (fun l=>kM l=kM (pre++[s])∧(e7 l=e7 (pre++[s])∨e7 l=e7 (pre++[s])++[p])) (x.dN 0 p).1.m)∨
  ((x.dN 0 p).2.2=0∧(x.dN 0 p).2.1=x.L.next∧ ∃gx s',Kept x pre s p (x.dN 0 p).1 gx s'∧e7 (gx++[s'])=e7 (pre++[s])++[p]∧
   ((gx=pre∧s'=s.plus p∧ ¬x.L.room≤s.size)∨(gx=pre++[s]∧s'=⟨x.L.next,[p],(cC p).length⟩∧x.L.room≤s.size)))∨
  ((x.dN 0 p).2.2≠0∧(x.dN 0 p).2.2≠12∧(∃gx s',Kept x pre s p (x.dN 0 p).1 gx s'∧e7 (gx++[s'])=e7 (pre++[s]))∧(99999999<x.L.next∨(64≤x.m.fs.length∧x.L.room≤s.size)∨4194304<x.m.sz+(cC p).length)):=by
 have oH:=h.next
 have eK:x.dN 0 p=if(x.append p).2.2≠0 then x.append p else((x.append p).1.sync.1,(x.append p).2.1,(x.append p).1.sync.2):=by
  unfold LD.dN;rw [if_neg (by simp)]
 have eA:x.append p=if 99999999<x.L.next then(x,0,1)else if x.room.2≠0 then(x.room.1,0,x.room.2)else if(x.room.1.lay p).2≠0 then((x.room.1.lay p).1,0,(x.room.1.lay p).2)else((x.room.1.lay p).1,x.L.next,0):=by
  unfold LD.append;rw [if_neg zQ]
 by_cases hn:99999999<x.L.next
 ·right;right;rw [if_pos hn] at eA;rw [eA,if_pos (by simp)] at eK;rw [eK];exact⟨by simp,by simp,⟨pre,s,⟨h,rfl,rfl,rfl⟩,rfl⟩,.inl hn⟩
 ·rw [if_neg hn] at eA;rcases h.aaC zQ with⟨a,b,c,d,e⟩|⟨a,b,c,d,e,f⟩|⟨a,gx,s',b,c,d,e,No,f⟩
  ·left;rw [if_pos (by rw [a];simp)] at eA;rw [eA,if_pos (by rw [a];simp)] at eK;rw [eK];exact⟨a,b.imp fun l hl=>by subst hl;exact⟨rfl,.inl rfl⟩⟩
  ·right;right;rw [if_pos (by rw [a];simp)] at eA;rw [eA,if_pos (by rw [a];simp)] at eK;rw [eK];exact⟨by rw [a];simp,by rw [a];simp,⟨pre,s,⟨b,rfl,c,d⟩,rfl⟩,.inr (.inl ⟨e,f⟩)⟩
  ·rw [if_neg (by rw [a];simp)] at eA;have CG:kM (gx++[s'])=kM (pre++[s]):=by
    rcases f with⟨rfl,rfl,_⟩|⟨rfl,rfl,_⟩
    ·rfl
    ·exact aa7 _ _ _
   have qs:e7 (gx++[s'])=e7 (pre++[s]):=by
    rcases f with⟨rfl,rfl,_⟩|⟨rfl,rfl,_⟩
    ·rfl
    ·rw [Yw];simp
   rcases b.lay hp hb (by rw [c];omega)with⟨a1,b1,c1⟩|⟨a1,b1,c1⟩|⟨a1,b1,c1⟩
   ·left;rw [if_pos (by rw [a1];simp)] at eA;rw [eA,if_pos (by rw [a1];simp)] at eK;rw [eK];rw [d] at b1;refine⟨a1,b1.imp fun l hl=>?_⟩;rcases hl with rfl|rfl
    ·exact⟨CG,.inl qs⟩
    ·exact⟨(PB gx s' (s'.plus p) rfl).trans CG,.inr (by rw [MR,qs])⟩
   ·right;right;rw [if_pos (by rw [a1];simp)] at eA;rw [eA,if_pos (by rw [a1];simp)] at eK;rw [eK,b1];exact⟨by rw [a1];simp,by rw [a1];simp,⟨gx,s',⟨b,CG,d,e⟩,qs⟩,.inr (.inr (by rw [←No];exact c1))⟩
   ·rw [if_neg (by rw [a1];simp)] at eA;rw [eA,if_neg (by simp)] at eK;rw [eK];have qX:(x.room.1.lay p).1.L.dir=x.L.dir:=by rw [c1];exact d
    have tN:(x.room.1.lay p).1.L.room=x.L.room:=by rw [c1];exact e
    have Ic:kM (gx++[s'.plus p])=kM (pre++[s]):=(PB gx s' (s'.plus p) rfl).trans CG;have jG:e7 (gx++[s'.plus p])=e7 (pre++[s])++[p]:=by rw [MR,qs]
    rcases b1.sync with⟨a2,b2⟩|⟨a2,b2,c2,d2⟩
    ·left;rw [qX] at b2;refine⟨a2,b2.imp fun l hl=>?_⟩;rcases hl with rfl|rfl
     ·exact⟨CG,.inl qs⟩
     ·exact⟨Ic,.inr jG⟩
    ·right;left;refine⟨a2,rfl,gx,s'.plus p,⟨b2,Ic,c2.trans qX,d2.trans tN⟩,jG,?_⟩;rcases f with⟨rfl,rfl,f⟩|⟨rfl,rfl,f⟩
     ·exact .inl ⟨rfl,rfl,f⟩
     ·exact .inr ⟨rfl,by simp [bW.plus],f⟩
end
section
variable {x : LD} {pre : List bW} {s a : bW}
theorem lT.ajU (h:lT x (a::pre) s):(x.m.remove (bw x.L.dir a.first)=(x.m.tick,12)∧wj x.L.dir (fun l=>l=a::pre++[s]) x.m.tick)∨
  ((x.m.remove (bw x.L.dir a.first)).2=0∧lT ⟨{ x.L with bI:=pre++[s] },(x.m.remove (bw x.L.dir a.first)).1⟩ pre s):=by
 have hg:Good (pre++[s]):=Good.suffix (a:=[a]) h.g;have cU: ∀t∈pre++[s],bw x.L.dir t.first≠bw x.L.dir a.first:=fun t ht e=>by
  have h1:=fw.lt h.g.lk t ht;have h2:=(h.g.ok t (aZ _ ht)).top;have h3:=(h.g.ok a (by simp)).top;have:=Ai zQ zQ e;omega
 have e:x.m.remove (bw x.L.dir a.first)=x.m.write 0 (fun m=>m.del (bw x.L.dir a.first)):=by
  unfold DM.remove;rw [if_pos (by rw [h.d.body a (by simp)];rfl)]
 rw [e];rcases zN h.dn (fun m=>m.del (bw x.L.dir a.first))with⟨ht,hw⟩|⟨ht,hw⟩
 ·rw [hw];exact .inl ⟨rfl,J5 h.d.tick h.g (by rw [wm];exact h.fl) ht⟩
 ·rw [hw];have xj:(x.m.tick.del (bw x.L.dir a.first)).ks=x.m.ks.filter fun k=>decide (k≠bw x.L.dir a.first):=by
   show(mz (bw x.L.dir a.first) x.m.tick.fs).map (·.1)=_
   rw [x.m.mC];unfold mz DM.ks;rw [List.filter_map];rfl
  have we: ∀t∈pre++[s],(x.m.tick.del (bw x.L.dir a.first)).get (bw x.L.dir t.first)=x.m.get (bw x.L.dir t.first):=fun t ht=>by
   rw [←x.m.lR];exact JI (cU t ht)
  refine .inr ⟨rfl,⟨rfl,hg,⟨?_,?_,fun t ht=>?_,?_,by simp⟩,ht,?_,?_,h.d1,h.d2,h.r1,h.r2⟩⟩
  ·dsimp only;rw [xj];exact h.d.nd.filter _
  ·dsimp only;rw [xj];have hp:=(h.d.ks.filter fun k=>decide (k≠bw x.L.dir a.first));rw [dX,bc,List.filter_cons_of_neg (by simp)] at hp;have hf:((pre++[s]).map fun s=>bw x.L.dir s.first).filter (fun k=>decide (k≠bw x.L.dir a.first))=(pre++[s]).map fun s=>bw x.L.dir s.first:=List.filter_eq_self.2 fun k hk=>by
    obtain⟨t,ht,rfl⟩:=List.mem_map.1 hk;simpa using cU t ht
   rw [hf] at hp;exact hp
  ·dsimp only;rw [we t (bR _ ht)];exact h.d.body t (aZ _ ht)
  ·dsimp only;rw [we s (by simp)];exact h.d.last
  ·have:=Ey (fun x:List Nat×Nat=>x.1.length) (bw x.L.dir a.first) x.m.tick.fs;rw [x.m.mC] at this
   show pq _ (mz _ x.m.tick.fs)≤_
   rw [x.m.mC];exact ah this h.sz
  ·have:=congrArg az xj;rw [DM.kg] at this;dsimp only;rw [this];exact ah (List.length_filter_le _ _) (by rw [DM.kg];exact h.fl)
theorem lT.trim {below:Nat} : ∀{K:Nat} {pre:List bW} {x:LD},lT x pre s→
  ((x.trim below K).2=12∧wj x.L.dir (fun l=> ∃a,pre++[s]=a++l∧(a≠[]→ ∀f,kM l=some f→f≤below)) (x.trim below K).1.m)∨
  ((x.trim below K).2=0∧ ∃a gx,pre++[s]=a++(gx++[s])∧(a≠[]→ ∀f,kM (gx++[s])=some f→f≤below)∧lT (x.trim below K).1 gx s∧(x.trim below K).1.L.dir=x.L.dir∧(x.trim below K).1.L.room=x.L.room∧(pre.length<K→s.first≤below→gx=[]))
 |0,pre,x,h=>.inr ⟨rfl,[],pre,rfl,fun e=>absurd rfl e,h,rfl,rfl,fun e=>absurd e (Nat.not_lt_zero _)⟩
 |K+1,pre,x,h=>by
  cases pre with
  |nil=>
   have e:x.trim below (K+1)=(x,0):=by
    unfold LD.trim;rw [h.bI];rfl
   rw [e];exact .inr ⟨rfl,[],[],rfl,fun e=>absurd rfl e,h,rfl,rfl,fun _ _=>rfl⟩
  |cons a pre=>
   obtain⟨t,r,MP⟩: ∃t r,pre++[s]=t::r:=by
    cases pre with
    |nil=>exact⟨s,[],rfl⟩
    |cons u v=>exact⟨u,v++[s],rfl⟩
   have e:x.trim below (K+1)=if t.first≤below then(if(x.m.remove (bw x.L.dir a.first)).2≠0 then(⟨x.L,(x.m.remove (bw x.L.dir a.first)).1⟩,(x.m.remove (bw x.L.dir a.first)).2)else LD.trim ⟨{ x.L with bI:=t::r },(x.m.remove (bw x.L.dir a.first)).1⟩ below K)else(x,0):=by
    conv=>lhs;unfold LD.trim
    rw [h.bI,dX,MP]
   have hft:kM (pre++[s])=some t.first:=by rw [MP];rfl
   by_cases hb:t.first≤below
   ·rw [if_pos hb] at e;rcases h.ajU with⟨e1,h1⟩|⟨e1,h1⟩
    ·rw [e1,if_pos (by simp)] at e;rw [e];exact .inl ⟨rfl,h1.imp fun l hl=>⟨[],by rw [hl];rfl,fun e=>absurd rfl e⟩⟩
    ·rw [if_neg (by rw [e1];simp),←MP] at e;rw [e];rcases lT.trim (below:=below) (K:=K) h1 with⟨e2,h2⟩|⟨e2,b,gx,h3,h4,h5,h6,h7,h8⟩
     ·refine .inl ⟨e2,h2.imp fun l ⟨b,kW,ny⟩=>⟨a::b,by rw [dX,kW];rfl,fun _ f hf=>?_⟩⟩;by_cases E7:b=[]
      ·subst E7;rw [cT] at kW;rw [←kW,hft] at hf;obtain rfl:=bC hf;exact hb
      ·exact ny E7 f hf
     ·refine .inr ⟨e2,a::b,gx,by rw [dX,h3];rfl,fun _ f hf=>?_,h5,h6,h7,fun hk hs=>h8 (by simp at hk;omega) hs⟩;by_cases E7:b=[]
      ·subst E7;rw [cT] at h3;rw [←h3,hft] at hf;obtain rfl:=bC hf;exact hb
      ·exact h4 E7 f hf
   ·rw [if_neg hb] at e;rw [e];refine .inr ⟨rfl,[],a::pre,rfl,fun e=>absurd rfl e,h,rfl,rfl,fun _ hs=>?_⟩;exfalso;have:t.first≤s.first:=by
     have gD:s∈t::r:=by rw [←MP];simp
     rcases List.mem_cons.1 gD with e|hm
     ·rw [e];exact bf _
     ·have hl:fw (t::r):=by rw [←MP];exact fw.suffix (a:=[a]) h.g.lk
      exact Nat.le_of_lt (hl.lt s hm)
    omega
end
theorem VZ: ∀(k u:Nat),u≤k→ky (nv u)
 |0,u,h=>by
  have:u=0:=by omega
  subst this;intro x hx;unfold nv at hx;simp at hx;omega
 |k+1,u,h=>by
  intro x hx;unfold nv at hx;split at hx
  ·simp at hx;omega
  ·rcases List.mem_cons.1 hx with rfl|hx
   ·omega
   ·exact VZ k (u/128) zQ x hx
theorem oO (n:Int):ky (encI n):=VZ _ _ (bf _)
theorem V6 (s:BA):ky (ki s):=kC (oO _) fun x hx=>by
 obtain⟨b,_,rfl⟩:=List.mem_map.1 hx;exact UInt8.toNat_lt b
theorem aep (n:Nat):ky (rG n):=fun x hx=>by
 obtain⟨b,_,rfl⟩:=List.mem_map.1 hx;unfold CN;omega
theorem aeq (v:eQ):ky (kE v):=by
 unfold kE;generalize (if v.may=true then v else eQ.zero)=u;refine kC (oO _) ?_;split
 ·exact aep _
 ·split
  ·exact V6 _
  ·intro x hx;cases hx
theorem J7 (s:bE):ky (je s):=kC (kC (oO _) (oO _)) (oO _)
theorem acY (s:gf):ky (pE s):=kC (kC (oO _) (oO _)) (oO _)
theorem SU (x:KV):ky (cM x):=kC (V6 _) (aeq _)
theorem V7 {α:Type} {f:α→List Nat} {l:List α} (h: ∀x∈l,ky (f x)):ky (fY f l):=kC (oO _) fun x hx=>by
 obtain⟨y,hy,hx⟩:=List.mem_flatten.1 hx;obtain⟨z,hz,rfl⟩:=List.mem_map.1 hy;exact h z hz x hx
theorem Rb (r:fj):ky r.enc:=by
 cases r with
 |A p s t l=>
  show ky (gS _)
  unfold gS;exact kC (oO _) (kC (J7 _) (kC (J7 _) (kC (acY _) (V7 fun x _=>SU x))))
 |B s l=>
  show ky (fT _)
  unfold fT;exact kC (oO _) (kC (J7 _) (V7 fun x _=>SU x))
theorem aer {l:List (List Nat)} (h: ∀p∈l,ky p):ky (flat l):=fun x hx=>by
 obtain⟨y,hy,hx⟩:=List.mem_flatten.1 hx;obtain⟨z,hz,rfl⟩:=List.mem_map.1 hy;exact SQ (h z hz) x hx
theorem mf.As {dir:ByteArray} {pre:List bW} {s:bW} {iL:List Nat} {sf:Nat} {m:DM} (h:mf dir pre s iL sf m) (hg:Good (pre++[s])) (ht:ky iL): ∀n,ky (m.bytes n):=fun n=>by
 cases hq:m.get n with
 |none=>unfold DM.bytes;rw [hq];intro x hx;cases hx
 |some y=>
  have hm:=h.ks.mem_iff.1 (DM.get_some.1 (by rw [hq];rfl));obtain⟨t,pH,rfl⟩:=List.mem_map.1 hm;have hb:ky (flat t.bS):=aer fun p hp=>((hg.ok t pH).pl p hp).2;rcases List.mem_append.1 pH with pH|pH
  ·rw [rM (h.body t pH)];exact hb
  ·simp only [aV] at pH;subst pH;rw [rM h.last];exact kC hb ht
theorem NN {α:Type} {p:α→Bool} {r:α→α→Bool} (ht: ∀a b c,r a b=true→r b c=true→r a c=true): ∀{l:List α} {o:Option α},chain p r o l=true→(∀x∈l,p x=true∧ ∀y,o=some y→r y x=true)∧l.Pairwise fun a b=>r a b=true
 |[],_,_=>by simp
 |x::l,none,h=>by
  simp only [chain,aA] at h;obtain⟨h1,h2⟩:=NN ht h.2;refine⟨fun z hz=>⟨?_,fun y e=>by cases e⟩,List.pairwise_cons.2 ⟨fun z hz=>(h1 z hz).2 x rfl,h2⟩⟩;rcases List.mem_cons.1 hz with rfl|hz
  ·exact h.1
  ·exact(h1 z hz).1
 |x::l,some w,h=>by
  simp only [chain,aA] at h;obtain⟨h1,h2⟩:=NN ht h.2;refine⟨fun z hz=>⟨?_,fun y e=>?_⟩,List.pairwise_cons.2 ⟨fun z hz=>(h1 z hz).2 x rfl,h2⟩⟩
  ·rcases List.mem_cons.1 hz with rfl|hz
   ·exact h.1.1
   ·exact(h1 z hz).1
  ·obtain rfl:=bC e;rcases List.mem_cons.1 hz with rfl|hz
   ·exact h.1.2
   ·exact ht _ _ _ h.1.2 ((h1 z hz).2 x rfl)
theorem PC {l:List KV} (h:sw l=true):Up l∧ ∀x∈l,gI x.key=true∧x.val.may=true∧x.val.kind≠0:=by
 obtain⟨h1,h2⟩:=NN (p:=fun x:KV=>gI x.key&&x.val.may&&decide (x.val.kind≠0)) (r:=fun a b:KV=>jk a.key b.key) (fun a b c h1 h2=>Vs h1 h2) h;refine⟨h2,fun x hx=>?_⟩;have:=(h1 x hx).1;simpa [and_assoc] using this
abbrev AS:=List KV×bE
def nO (a:AS):fj→Option AS
 | .A p st _ l=>if p=a.2 then some (l.foldl iV a.1,st)else none
 | .B st l=>if st=a.2∧l=a.1 then some a else none
def xH:AS→List fj→Option AS
 |a,[]=>some a
 |a,r::l=>(nO a r).bind fun b=>xH b l
theorem CO: ∀(a:AS) (l k:List fj),xH a (l++k)=(xH a l).bind fun b=>xH b k
 |a,[],k=>rfl
 |a,r::l,k=>by
  show(nO a r).bind _=((nO a r).bind _).bind _
  rw [Option.bind_assoc]
  congr 1
  funext b
  exact CO b l k
def SM.as (s:SM):AS:=(s.list,s.high)
def SM.nd (s:SM):Prop:=(s.bF.map (·.1)).Nodup
theorem SM.NO {s:SM} (h:s.nd) (t:gf) (st:bE) (l:List KV):(s.apply t st l).as=(l.foldl iV s.list,st)∧(s.apply t st l).nd:=by
 refine⟨?_,?_⟩
 ·show((s.apply t st l).list,st)=_
  rw [←JJ l h]
  congr 1
 ·show((l.foldl fq s.bF).map (·.1)).Nodup
  have: ∀(l:List KV) (p:List (ByteArray×eQ)),(p.map (·.1)).Nodup→((l.foldl fq p).map (·.1)).Nodup:=by
   intro l
   induction l with
   |nil=>intro p h;exact h
   |cons x l ih=>intro p h;exact ih _ (xx h x)
  exact this l _ h
theorem SV: ∀(l:List KV) (p:List (ByteArray×eQ)),(p.map (·.1)++l.map (·.key)).Nodup→l.foldl rK p=p++l.map fun x=>(x.key,x.val)
 |[],p,_=>by simp
 |x::l,p,h=>by
  have hx:x.key ∉ p.map (·.1):=fun hm=>by
   rw [lf] at h;exact h.2.2 _ hm x.key (by simp) rfl
  have Vp: ∀q:List (ByteArray×eQ),x.key ∉ q.map (·.1)→fC x.key x.val q=q++[(x.key,x.val)]:=by
   intro q
   induction q with
   |nil=>intro _;rfl
   |cons y q ih=>
    intro hq;simp only [bc,List.mem_cons,not_or] at hq;simp only [fC];rw [if_neg (fun e=>hq.1 e.symm),ih hq.2];rfl
  rw [List.foldl_cons]
  show l.foldl rK (fC x.key x.val p)=_
  rw [Vp p hx,SV l _ (by simpa using h)];simp
theorem SM.agJ {s:SM} (hp:s.bF=[]) {st:bE} {l:List KV} (h:Up l):(s.base st l).as=(l,st)∧(s.base st l).nd:=by
 have hk:(l.map (·.key)).Nodup:=by
  rw [List.Nodup,List.pairwise_map];exact h.imp fun qS=>Ls qS
 have e:(s.base st l).bF=l.map fun x=>(x.key,x.val):=by
  show l.foldl rK s.bF=_
  rw [hp,SV l [] (by simpa using hk)];rfl
 have mP:(s.base st l).nd:=by
  unfold SM.nd;rw [e,eP];exact hk
 refine⟨?_,mP⟩
 show((s.base st l).list,st)=_
 obtain⟨u1,u2⟩:=zq mP;rw [Vt u1 h fun x=>by rw [u2,e];exact⟨fun hm=>by
  obtain⟨y,hy,he⟩:=List.mem_map.1 hm;have h1:=congrArg (·.1) he;have h2:=congrArg (·.2) he;simp only at h1 h2;rw [show x=y from KV.ext h1.symm h2.symm];exact hy,fun hm=>List.mem_map.2 ⟨x,hm,rfl⟩⟩]
structure aes (s s':SM):Prop where
 every:s'.every=s.every
 since:s'.since=s.since
 down:s'.down=s.down
theorem BU: ∀(rs:List fj) {s:SM} {a:AS},s.nd→(∀r∈rs,r.ok)→xH s.as rs=some a→ ∃s',AQ (true,s) rs=some (true,s')∧s'.as=a∧s'.nd∧aes s s'
 |[],s,a,hn,_,h=>⟨s,rfl,bC h,hn,⟨rfl,rfl,rfl⟩⟩
 |r::rs,s,a,hn,lz,h=>by
  obtain⟨b,hb,h2⟩:=Option.bind_eq_some_iff.1 (show(nO s.as r).bind (fun b=>xH b rs)=some a from h);have hr:=lz r (by simp);have PD:=fun q hq=>lz q (aZ _ hq);cases r with
  |A p st t l=>
   simp only [nO] at hb;split at hb
   ·rename_i hp;obtain rfl:=bC hb;obtain⟨e1,e2⟩:=SM.NO hn t st l;have hre:s.wg (fj.A p st t l).kj=(s.apply t st l,true):=by
     unfold SM.wg;rw [if_pos (show(fj.A p st t l).kj.kind=11 from rfl),if_pos (show(fj.A p st t l).kj.prev=s.high from hp)];rfl
    obtain⟨s',g1,g2,g3,g4⟩:=BU rs (s:=s.apply t st l) e2 PD (by rw [e1];exact h2);refine⟨s',?_,g2,g3,⟨g4.every,g4.since,g4.down⟩⟩
    show(xG (true,s) _).bind _=_
    unfold xG;rw [if_pos rfl];dsimp only;rw [hre,if_pos rfl];exact g1
   ·cases hb
  |B st l=>
   simp only [nO] at hb;split at hb
   ·rename_i hp;obtain rfl:=bC hb;have hl:l=s.list:=hp.2;have gD:st=s.high:=hp.1;have hre:s.wg (fj.B st l).kj=(s,true):=by
     unfold SM.wg;rw [if_neg (by simp [fj.kj,fg])];have:zK l s.list=true:=by rw [←hl];exact aa0 fun x hx=>((PC hr.may.2.1).2 x hx).2.1
     show(s,decide (st=s.high)&&zK l s.list)=_
     rw [this,decide_eq_true gD];rfl
    obtain⟨s',g1,g2,g3,g4⟩:=BU rs hn PD h2;refine⟨s',?_,g2,g3,g4⟩
    show(xG (true,s) _).bind _=_
    unfold xG;rw [if_pos rfl];dsimp only;rw [hre,if_pos rfl];exact g1
   ·cases hb
theorem ZW: ∀(rs:List fj) {s:SM} {a0 a:AS},s.bF=[]→(∀r∈rs,r.ok)→(∃r∈rs,r.ky=true)→xH a0 rs=some a→ ∃s',AQ (false,s) rs=some (true,s')∧s'.as=a∧s'.nd∧aes s s'
 |[],_,_,_,_,_,⟨_,h,_⟩,_=>absurd h (by simp)
 |r::rs,s,a0,a,hp,lz,hB,h=>by
  obtain⟨b,hb,h2⟩:=Option.bind_eq_some_iff.1 (show(nO a0 r).bind (fun b=>xH b rs)=some a from h);have hr:=lz r (by simp);have PD:=fun q hq=>lz q (aZ _ hq);cases r with
  |A p st t l=>
   have hB2: ∃r∈rs,r.ky=true:=by
    obtain⟨q,hq,hqb⟩:=hB;rcases List.mem_cons.1 hq with rfl|hq
    ·cases hqb
    ·exact⟨q,hq,hqb⟩
   obtain⟨s',g1,g2,g3,g4⟩:=ZW rs (s:=s) hp PD hB2 h2;refine⟨s',?_,g2,g3,g4⟩
   show(xG (false,s) _).bind _=_
   unfold xG;rw [if_neg (by simp)];exact g1
  |B st l=>
   simp only [nO] at hb;split at hb
   ·rename_i hq;obtain rfl:=bC hb;obtain⟨e1,e2⟩:=SM.agJ hp (st:=st) (PC hr.may.2.1).1;have ea:(s.base st l).as=a0:=by rw [e1,hq.1,hq.2]
    obtain⟨s',g1,g2,g3,g4⟩:=BU rs (s:=s.base st l) e2 PD (by rw [ea];exact h2);refine⟨s',?_,g2,g3,⟨g4.every,g4.since,g4.down⟩⟩
    show(xG (false,s) _).bind _=_
    unfold xG;rw [if_neg (by simp)];exact g1
   ·cases hb
structure wo (l:List bW) (f:Nat) (rs:List fj) (a:AS):Prop where
 fst:kM l=some f
 kj:e7 l=rs.map fj.enc
 ok: ∀r∈rs,r.ok
 aa9: ∃a0,xH a0 rs=some a∧(f=1→a0=([],.zero))
 base:f≠1→ ∃r∈rs,r.ky=true
theorem wo.plus {l l':List bW} {f:Nat} {rs:List fj} {a b:AS} {r:fj} (h:wo l f rs a) (hf:kM l'=kM l) (hr:e7 l'=e7 l++[r.enc]) (ok:r.ok) (hs:nO a r=some b):wo l' f (rs++[r]) b:=by
 obtain⟨a0,h1,h2⟩:=h.aa9;refine⟨hf.trans h.fst,by rw [hr,h.kj,aT];rfl,fun q hq=>?_,⟨a0,?_,h2⟩,fun e=>?_⟩
 ·rcases List.mem_append.1 hq with hq|hq
  ·exact h.ok q hq
  ·simp only [aV] at hq;subst hq;exact ok
 ·rw [CO,h1]
  show((nO a r).bind fun b=>xH b [])=_
  rw [hs];rfl
 ·obtain⟨q,hq,hb⟩:=h.base e;exact⟨q,bR _ hq,hb⟩
theorem wo.same {l l':List bW} {f:Nat} {rs:List fj} {a:AS} (h:wo l f rs a) (hf:kM l'=kM l) (hr:e7 l'=e7 l):wo l' f rs a:=
 ⟨hf.trans h.fst,hr.trans h.kj,h.ok,h.aa9,h.base⟩
theorem Ie (a b:List bW):e7 (a++b)=e7 a++e7 b:=by simp [e7]
theorem fw.count: ∀{pre:List bW} {s:bW} {f:Nat},fw (pre++[s])→kM (pre++[s])=some f→s.first+s.bS.length=f+(e7 (pre++[s])).length
 |[],s,f,_,h=>by
  have:s.first=f:=bC h
  simp [e7,this]
 |t::pre,s,f,hl,h=>by
  have hf:t.first=f:=bC h
  obtain⟨u,r,hu⟩: ∃u r,pre++[s]=u::r:=by
   cases pre with
   |nil=>exact⟨s,[],rfl⟩
   |cons u v=>exact⟨u,v++[s],rfl⟩
  have xw:fw (t::(pre++[s])):=hl;have h1:u.first=t.first+t.bS.length:=by rw [hu] at xw;exact xw.1
  have:=fw.count (pre:=pre) (s:=s) (f:=u.first) xw.tail (by rw [hu];rfl);rw [dX,show e7 (t::(pre++[s]))=t.bS++e7 (pre++[s])by simp [e7],ae];omega
theorem wo.trim {a pre:List bW} {s:bW} {f n:Nat} {rs:List fj} {B:fj} {b:AS} (h:wo (a++(pre++[s])) f (rs++[B]) b) (hg:Good (a++(pre++[s]))) (hB:B.ky=true) (hn:n=f+rs.length) (ha:a≠[]→ ∀f',kM (pre++[s])=some f'→f'≤n):
  ∃f' vi,wo (pre++[s]) f' vi b∧vi.length≤rs.length+1:=by
 by_cases ZX:a=[]
 ·subst ZX;exact⟨f,_,h,by simp⟩
 ·have ha:=ha ZX;obtain⟨u,r,hu⟩: ∃u r,pre++[s]=u::r:=by
   cases pre with
   |nil=>exact⟨s,[],rfl⟩
   |cons u v=>exact⟨u,v++[s],rfl⟩
  have hfu:kM (pre++[s])=some u.first:=by rw [hu];rfl
  have h1:=h.kj;rw [Ie] at h1;have Cp:=fw.count (pre:=a++pre) (s:=s) (f:=f) (by simpa using hg.lk) (by simpa using h.fst);have jF:=fw.count (pre:=pre) (s:=s) (f:=u.first) hg.lk.suffix hfu;have hlen:=congrArg az h1;rw [ae,aG,ae] at hlen;rw [show a++pre++[s]=a++(pre++[s])by simp,Ie,ae] at Cp;have Ms:=ha _ hfu;have Zn:(rs++[B]).map fj.enc=((rs++[B]).take (e7 a).length).map fj.enc++((rs++[B]).drop (e7 a).length).map fj.enc:=by rw [←aT,jI]
  have jG:e7 (pre++[s])=((rs++[B]).drop (e7 a).length).map fj.enc:=by
   rw [←h1] at Zn;exact(List.append_inj Zn (by simp at hlen⊢;omega)).2
  have cU:(rs++[B]).drop (e7 a).length≠[]:=fun e=>by
   have:=congrArg az e;simp at this hlen;omega
  have hBm:B∈(rs++[B]).drop (e7 a).length:=by
   have h9:=List.getLast_mem cU;rw [List.getLast_drop] at h9;simpa using h9
  have G6:f<u.first:=by
   cases a with
   |nil=>exact absurd rfl ZX
   |cons t a=>
    have hf:t.first=f:=bC h.fst
    have:=fw.lt hg.lk u (by rw [hu];simp);omega
  have CG:1≤f:=by
   cases a with
   |nil=>exact absurd rfl ZX
   |cons t a=>
    have hf:t.first=f:=bC h.fst
    have:=(hg.ok t (by simp)).one;omega
  obtain⟨a0,h2,h3⟩:=h.aa9;have hh: ∃a1,xH a1 ((rs++[B]).drop (e7 a).length)=some b:=by
   rw [←jI (e7 a).length (rs++[B]),CO] at h2;obtain⟨a1,_,h4⟩:=Option.bind_eq_some_iff.1 h2;exact⟨a1,h4⟩
  obtain⟨a1,h4⟩:=hh;refine⟨u.first,_,⟨hfu,jG,fun q hq=>h.ok q (List.mem_of_mem_drop hq),⟨a1,h4,fun e=>by omega⟩,fun _=>⟨B,hBm,hB⟩⟩,by simp⟩
structure xI (wt:Nat) (s:SM):Prop where
 pi:Cu wt s.bF
 pw:uv s.bF≤wt
 num: ∀y∈s.bF,y.2.num<18446744073709551616
 may:s.high.may=true
theorem xI.up {wt qW:Nat} {s:SM} (h:xI wt s) (hw:wt≤qW):xI qW s:=⟨⟨h.pi.nd,h.pi.zo,ah h.pi.len hw⟩,ah h.pw hw,h.num,h.may⟩
theorem xI.re {wt:Nat} {s s':SM} (h:xI wt s) (ha:s'.as=s.as) (hn:s'.nd):xI wt s':=by
 have hl:s'.list=s.list:=congrArg Prod.fst ha;have hh:s'.high=s.high:=congrArg Prod.snd ha;have hm: ∀y∈s'.bF,y∈s.bF:=fun y hy=>by
  have:=((zq hn).2 ⟨y.1,y.2⟩).2 hy;rw [hl] at this;exact((zq h.pi.nd).2 _).1 this
 have hpw:uv s'.bF≤wt:=by rw [←An hn,hl,An h.pi.nd];exact h.pw
 have hlen:s'.bF.length=s'.list.length:=by
  unfold SM.list;rw [aG,(mK _).length_eq,aG]
 refine⟨⟨hn,fun y hy=>h.pi.zo y (hm y hy),?_⟩,hpw,fun y hy=>h.num y (hm y hy),by rw [hh];exact h.may⟩;rw [hlen,hl];have:=vX s.list;rw [An h.pi.nd] at this;exact ah this h.pw
structure J8 (wt:Nat) (s:SM) (x:LD) (pre:List bW) (sg:bW) (f:Nat) (rs:List fj):Prop where
 up:lT x pre sg
 dir:x.L.dir=jq
 held:wo (pre++[sg]) f rs s.as
 sm:xI wt s
 dn:s.down=false
theorem J8.as {wt:Nat} {s s':SM} {x:LD} {pre:List bW} {sg:bW} {f:Nat} {rs:List fj} (h:J8 wt s x pre sg f rs) (hp:s'.bF=s.bF) (hh:s'.high=s.high) (hd:s'.down=false):J8 wt s' x pre sg f rs:=by
 have ha:s'.as=s.as:=by unfold SM.as;rw [ZF hp,hh]
 exact⟨h.up,h.dir,by rw [ha];exact h.held,h.sm.re ha (by unfold SM.nd;rw [hp];exact h.sm.pi.nd),hd⟩
theorem J8.dN {wt:Nat} {s:SM} {x:LD} {pre:List bW} {sg:bW} {f:Nat} {rs:List fj} {r:fj} {b:AS} (h:J8 wt s x pre sg f rs) (ok:r.ok) (hs:nO s.as r=some b):
  ((x.dN 0 r.enc).2.2=12∧wj jq (fun l=> ∃vi,vi.length≤rs.length+1∧(wo l f vi s.as∨wo l f vi b)) (x.dN 0 r.enc).1.m)∨
  ((x.dN 0 r.enc).2.2=0∧(x.dN 0 r.enc).2.1=f+rs.length∧ ∃gx sj,lT (x.dN 0 r.enc).1 gx sj∧(x.dN 0 r.enc).1.L.dir=jq∧(x.dN 0 r.enc).1.L.room=x.L.room∧wo (gx++[sj]) f (rs++[r]) b∧
   ((gx=pre∧sj=sg.plus r.enc∧ ¬x.L.room≤sg.size)∨(gx=pre++[sg]∧sj=⟨x.L.next,[r.enc],(cC r.enc).length⟩∧x.L.room≤sg.size)))∨
  ((x.dN 0 r.enc).2.2≠0∧(x.dN 0 r.enc).2.2≠12∧(∃gx sj,J8 wt s (x.dN 0 r.enc).1 gx sj f rs∧(x.dN 0 r.enc).1.L.room=x.L.room)∧(99999999<x.L.next∨(64≤x.m.fs.length∧x.L.room≤sg.size)∨4194304<x.m.sz+(cC r.enc).length)):=by
 have NP:=fw.count h.up.g.lk h.held.fst;rw [h.held.kj,aG] at NP;rcases h.up.dN ok.GW (Rb r)with⟨e,hf⟩|⟨e,fm,gx,s',hk,hr,DP⟩|⟨e1,e2,⟨gx,s',hk,hr⟩,hw⟩
 ·left;rw [h.dir] at hf;refine⟨e,hf.imp fun l hl=>?_⟩;rcases hl.2 with h2|h2
  ·exact⟨rs,Nat.le_succ _,.inl (h.held.same hl.1 h2)⟩
  ·exact⟨rs++[r],by simp,.inr (h.held.plus hl.1 h2 ok hs)⟩
 ·right;left;exact⟨e,by rw [fm,h.up.next];exact NP,gx,s',hk.up,hk.dir.trans h.dir,hk.room,h.held.plus hk.fst hr ok hs,DP⟩
 ·right;right;exact⟨e1,e2,⟨gx,s',⟨hk.up,hk.dir.trans h.dir,h.held.same hk.fst hr,h.sm,h.dn⟩,hk.room⟩,hw⟩
theorem fw.has: ∀{l:List bW} {f k:Nat} {p:List Nat},fw l→kM l=some f→(e7 l)[k]? =some p→ ∃(j:Nat) (s:bW),l[j]? =some s∧s.first≤f+k∧(∀(i:Nat) (t:bW),j<i→l[i]? =some t→f+k<t.first)∧s.bS[f+k-s.first]? =some p
 |[],_,_,_,_,h,_=>by cases h
 |s::l,f,k,p,hl,h,hk=>by
  have hf:s.first=f:=bC h
  have hr:e7 (s::l)=s.bS++e7 l:=by simp [e7]
  rw [hr] at hk;by_cases cH:k<s.bS.length
  ·rw [List.getElem?_append_left cH] at hk;refine⟨0,s,rfl,by omega,fun i t hi ht=>?_,by rw [hf,qY];exact hk⟩;cases i with
   |zero=>omega
   |succ i=>
    rw [mT] at ht;cases l with
    |nil=>cases ht
    |cons u r=>
     have h1:=hl.1;have hm:=List.mem_of_getElem? ht;rcases List.mem_cons.1 hm with rfl|hm
     ·omega
     ·have:=hl.tail.lt t hm;omega
  ·rw [List.getElem?_append_right zQ] at hk;cases l with
   |nil=>simp [e7] at hk
   |cons u r=>
    have h1:=hl.1;obtain⟨j,q,h2,h3,h4,h5⟩:=fw.has (l:=u::r) (f:=u.first) hl.tail rfl hk;have e:u.first+(k-s.bS.length)=f+k:=by omega
    rw [e] at h3 h4 h5;exact⟨j+1,q,by rw [mT];exact h2,h3,fun i t hi ht=>by
     cases i with
     |zero=>omega
     |succ i=>rw [mT] at ht;exact h4 i t zQ ht,h5⟩
theorem V8 {pre:List bW} {s:bW} {iL:List Nat} {sf f sz:Nat} {m:DM} {rs:List fj} {a:AS} {every:Int} (h:mf jq pre s iL sf m) (hg:Good (pre++[s])) (ht:kf iL=none) (h0:m.ar=0) (hd:m.dn=false) (dU:m.sz≤4194304) (hr:sz≤262144)
  (hh:wo (pre++[s]) f rs a):
  ∃m' s',LD.uy jq sz m=(⟨⟨jq,sz,pre++[s],(s.first+s.bS.length:Nat)-1⟩,m'⟩,0)∧mf jq pre s [] (flat s.bS).length m'∧m'.ar=0∧m'.dn=false∧Holds ⟨jq,sz,pre++[s],(s.first+s.bS.length:Nat)-1⟩ f rs∧
   AQ (decide ((f:Int)=1),fO every) rs=some (true,s')∧s'.as=a∧s'.nd∧aes (fO every) s':=by
 obtain⟨m',e,h1,h2,h3⟩:=ahQ (room:=sz) h hg ht h0 hd;have NP:=fw.count hg.lk hh.fst;rw [hh.kj,aG] at NP;have eI: ∀t∈pre++[s],(flat t.bS).length≤4194304:=fun t pH=>by
  rcases List.mem_append.1 pH with pH|pH
  ·exact ah (DM.sx (h.body t pH)) dU
  ·simp only [aV] at pH;subst pH;have:=DM.sx h.last;rw [ae] at this;omega
 have Ve:iT ⟨jq,sz,pre++[s],(s.first+s.bS.length:Nat)-1⟩:=by
  refine⟨by simp,(show 1≤jq.size from by decide),(show jq.size≤11 from by decide),fun t pH=>?_,by show sz≤_;omega⟩;have h4:=(hg.ok t pH);have h5:=eI t pH;have h6:=h4.top;rw [h4.sz];omega
 have VS:Holds ⟨jq,sz,pre++[s],(s.first+s.bS.length:Nat)-1⟩ f rs:=by
  refine⟨Ve,?_,?_,fun k r hr=>?_⟩
  ·obtain⟨u,r,hu⟩: ∃u r,pre++[s]=u::r:=by
    cases pre with
    |nil=>exact⟨s,[],rfl⟩
    |cons u v=>exact⟨u,v++[s],rfl⟩
   have hf:=hh.fst;rw [hu] at hf;exact⟨u,r,hu,bC hf⟩
  ·show(⟨jq,sz,pre++[s],_⟩:LM).next=_
   unfold LM.next
   rw [zt];exact NP
  ·exact fw.has hg.lk hh.fst (by rw [hh.kj,List.getElem?_map,hr];rfl)
 obtain⟨a0,g1,g2⟩:=hh.aa9;by_cases CG:f=1
 ·have ea:(fO every).as=a0:=by
   rw [g2 CG];unfold SM.as fO SM.list;simp [fB]
  obtain⟨s',k1,k2,k3,k4⟩:=BU rs (s:=fO every) (a:=a) (by simp [SM.nd,fO]) hh.ok (by rw [ea];exact g1);refine⟨m',s',e,h1,h2,h3,VS,?_,k2,k3,k4⟩;rw [decide_eq_true zQ];exact k1
 ·obtain⟨s',k1,k2,k3,k4⟩:=ZW rs (s:=fO every) (a0:=a0) (a:=a) rfl hh.ok (hh.base CG) g1;refine⟨m',s',e,h1,h2,h3,VS,?_,k2,k3,k4⟩;rw [decide_eq_false zQ];exact k1
end Go.Proofs.YtpdkoaklobnegaaGreat
namespace Go.Proofs.YtpdkoaklobnegaaGreat
open Go.Proofs.Tryz renaming prog → pg
open Go.dL
set_option maxRecDepth 100000
theorem mf.szT {dir:ByteArray} {pre:List bW} {s:bW} {iL:List Nat} {sf:Nat} {m:DM} (h:mf dir pre s iL sf m):m.sz=((pre++[s]).map fun t=>(flat t.bS).length).sum+iL.length:=by
 have e1:m.fs.map (fun x=>x.2.1.length)=m.ks.map fun k=>(m.bytes k).length:=by
  unfold DM.ks;rw [eP];refine ga fun x hx=>?_;have:=pR h.nd (k:=x.1) (a:=x.2) hx
  show x.2.1.length=(m.bytes x.1).length
  unfold DM.bytes DM.get;rw [this];rfl
 have e2:=(h.ks.map fun k=>(m.bytes k).length).sum_nat;rw [←e1,eP,aT,mw] at e2;have e3:pre.map ((fun k=>(m.bytes k).length)∘fun s=>bw dir s.first)=pre.map fun t=>(flat t.bS).length:=ga fun t ht=>by
  show(m.bytes (bw dir t.first)).length=_
  rw [rM (h.body t ht)]
 rw [e3,vf,vg] at e2;have e4:((fun k=>(m.bytes k).length)∘fun s:bW=>bw dir s.first) s=(flat s.bS).length+iL.length:=by
  show(m.bytes (bw dir s.first)).length=_
  rw [rM h.last,ae]
 rw [e4] at e2;rw [aT,mw,vf,vg,Nat.add_assoc];exact e2
theorem mf.sz' {dir:ByteArray} {pre:List bW} {s:bW} {sf:Nat} {m:DM} (h:mf dir pre s [] sf m):m.sz=((pre++[s]).map fun t=>(flat t.bS).length).sum:=h.szT
structure xJ (T:Nat) (pre:List bW) (sg:bW):Prop where
 full: ∀t∈pre,4096≤t.size
 head: ∀t,(pre++[sg]).head? =some t→t.size≤266251
 tail:((pre++[sg]).tail.map (·.size)).sum≤T
theorem ahT {l:List bW} (h: ∀t∈l,4096≤t.size):l.length*4096≤(l.map (·.size)).sum:=by
 induction l with
 |nil=>simp
 |cons t l ih=>
  have h1:=h t (by simp);have h2:=ih fun u hu=>h u (aZ _ hu);simp only [aY,bc,List.sum_cons];omega
theorem xJ.len {T:Nat} {pre:List bW} {sg:bW} (h:xJ T pre sg):pre.length*4096≤T+4096:=by
 cases pre with
 |nil=>simp
 |cons t pre=>
  have h1:=ahT (l:=pre) fun u hu=>h.full u (aZ _ hu);have h2:=h.tail;rw [dX,pI,aT,mw] at h2;rw [aY];omega
theorem xJ.sum {T:Nat} {pre:List bW} {sg:bW} (h:xJ T pre sg):((pre++[sg]).map (·.size)).sum≤T+266251:=by
 cases hp:pre++[sg] with
 |nil=>simp
 |cons t r=>
  have h1:=h.head t (by rw [hp];rfl);have h2:=h.tail;rw [hp,pI] at h2;rw [bc,List.sum_cons];omega
theorem xJ.plus {T:Nat} {pre:List bW} {sg:bW} {p:List Nat} (h:xJ T pre sg) (hp:p.length≤262144) (hs: ¬4096≤sg.size):xJ (T+(cC p).length) pre (sg.plus p):=by
 have hl:=lQ p;refine⟨h.full,fun t ht=>?_,?_⟩
 ·cases pre with
  |nil=>
   obtain rfl:=bC ht
   show sg.size+(cC p).length≤_
   omega
  |cons u r=>exact h.head t ht
 ·have h2:=h.tail;cases pre with
  |nil=>simp
  |cons u r=>
   rw [dX,pI,aT,mw] at h2⊢;simp at h2⊢;omega
theorem xJ.more {T n:Nat} {pre:List bW} {sg:bW} {p:List Nat} (h:xJ T pre sg) (hs:4096≤sg.size):xJ (T+(cC p).length) (pre++[sg]) ⟨n,[p],(cC p).length⟩:=by
 refine⟨fun t ht=>?_,fun t ht=>?_,?_⟩
 ·rcases List.mem_append.1 ht with ht|ht
  ·exact h.full t ht
  ·simp only [aV] at ht;subst ht;exact hs
 ·refine h.head t ?_;cases pre with
  |nil=>exact ht
  |cons u r=>exact ht
 ·have h2:=h.tail;cases pre with
  |nil=>simp
  |cons u r=>
   simp only [dX,pI,aT,mw] at h2⊢;simp at h2⊢;omega
theorem xJ.up {T T':Nat} {pre:List bW} {sg:bW} (h:xJ T pre sg) (hT:T≤T'):xJ T' pre sg:=⟨h.full,h.head,ah h.tail hT⟩
theorem acZ {prev st:bE} {t:gf} {l:List KV} (h: ∀x∈l,gI x.key=true∧x.val.may=true):(gS (en prev st t l)).length≤7*fS l+110:=by
 have h1:=dW (en prev st t l).kind;have h2:=iB prev;have h3:=iB st;have h4:=tF t;have h5:=dW ((l.length:Nat):Int);have h6:=T8 l h;unfold gS en fY at*;simp only [ae] at*;omega
theorem NQ {s:bE} (h:s.may=true):AL s:=by
 unfold bE.may at h;simp only [aA,decide_eq_true_eq] at h;unfold AL Ac;omega
theorem ZY {g:fJ} (ha:ik g.prev g.aP g.cB g.writes=true) (ht:Cn g.cB) (hn: ∀y∈g.writes,y.val.num<18446744073709551616) (hw:fS g.writes≤20000):(fj.A g.prev g.aP g.cB g.writes).ok:=by
 obtain⟨m1,m2,m3⟩:=u3 ha;have hp:g.prev.may=true:=by
  unfold ik at ha;simp only [aA] at ha;exact ha.1.1.1
 refine⟨⟨ha,NQ hp,NQ m1,ht⟩,fun x hx=>⟨?_,(m3 x hx).2,hn x hx⟩,by show g.writes.length≤_;omega,fun x hx=>?_,Sz m3 hw,Rb (.A g.prev g.aP g.cB g.writes)⟩
 ·have:=(m3 x hx).1;unfold gI at this;simp only [aA,decide_eq_true_eq] at this;omega
 ·have:=(m3 x hx).1;unfold gI at this;simp only [aA,decide_eq_true_eq] at this;omega
theorem Rc {wt:Nat} {s:SM} (h:xI wt s) (hw:wt≤20000):(fj.B s.high s.list).ok:=by
 obtain⟨p1,p2,p3,p4⟩:=h.pi.list;have hm: ∀x∈s.list,(x.key,x.val)∈s.bF:=fun x hx=>((zq h.pi.nd).2 x).1 hx;have hwl:fS s.list≤20000:=by rw [An h.pi.nd];exact ah h.pw hw
 refine⟨⟨h.may,p1,NQ h.may⟩,fun x hx=>⟨by have:=p2 x hx;omega,(h.pi.zo _ (hm x hx)).2.1,h.num _ (hm x hx)⟩,by show s.list.length≤_;omega,fun x hx=>by have:=p2 x hx;omega,acG (fun x hx=>⟨(h.pi.zo _ (hm x hx)).1,(h.pi.zo _ (hm x hx)).2.1⟩) hwl,Rb (.B s.high s.list)⟩
structure wq (n wt:Nat) (every:Int) (s:SM) (x:LD) (pre:List bW) (sg:bW) (f:Nat) (rs:List fj):Prop where
 inv:J8 wt s x pre sg f rs
 gl:GL (1+2*n) x
 ev:s.every=every
 si:0≤s.since∧s.since≤n
 dl:s.done.length≤2*n
 rl:rs.length≤2*n
 rm:x.L.room=4096
 wd:xJ (7*wt+122*n) pre sg
section
variable {n wt : Nat} {every : Int} {s : SM} {x : LD} {pre : List bW} {sg : bW} {f : Nat} {rs : List fj}
theorem wq.up {n' qW:Nat} (h:wq n wt every s x pre sg f rs) (hn:n≤n') (hw:wt≤qW):wq n' qW every s x pre sg f rs:=
 ⟨⟨h.inv.up,h.inv.dir,h.inv.held,h.inv.sm.up hw,h.inv.dn⟩,h.gl.up zQ,h.ev,by have:=h.si;omega,by have:=h.dl;omega,by have:=h.rl;omega,h.rm,h.wd.up zQ⟩
theorem wq.fits (h:wq n wt every s x pre sg f rs) (hn:n≤200) (hw:wt≤20000) {p:List Nat} (hp:p.length≤262144): ¬(99999999<x.L.next∨(64≤x.m.fs.length∧x.L.room≤sg.size)∨4194304<x.m.sz+(cC p).length):=by
 have h1:=h.wd.len;have h2:=h.wd.sum;have h3:=lQ p;have h4:=h.inv.up.d.ks.length_eq;rw [DM.kg,aG,ae,fK] at h4;have h5:=h.inv.up.d.sz';have h6:(pre++[sg]).map (fun t=>(flat t.bS).length)=(pre++[sg]).map (·.size):=ga fun t ht=>((h.inv.up.g.ok t ht).sz).symm;rw [h6] at h5;have h7:=(h.gl.qd sg (by rw [h.inv.up.bI];simp)).1;have h8:=h.inv.up.next
 omega
end
theorem PE {Q:eQ→Prop} : ∀(l:List KV) (p:List (ByteArray×eQ)),(∀y∈p,Q y.2)→(∀x∈l,Q x.val)→ ∀y∈l.foldl fq p,Q y.2
 |[],p,h,_=>h
 |x::l,p,h,hl=>by
  refine PE l (fq p x) (fun y hy=>?_) fun z hz=>hl z (aZ _ hz);unfold fq at hy;split at hy
  ·exact h y ((List.filter_sublist).subset hy)
  ·rcases(NK (p:=p) (k:=x.key) (v:=x.val)).2 y hy with hy|rfl
   ·exact h y hy
   ·exact hl x (by simp)
def afP (a:AS) (g:fJ):AS:=if g.asks&&(decide (g.kind=12)&&decide (g.aP.cmp a.2>0)&&decide (g.prev=a.2))then(g.writes.foldl iV a.1,g.aP)else a
section
variable {n wt : Nat} {every : Int} {s : SM} {x : LD} {pre : List bW} {sg : bW} {f : Nat} {rs : List fj}
theorem xI.apply (h:xI wt s) {g:fJ} (ha:ik g.prev g.aP g.cB g.writes=true) (hn: ∀y∈g.writes,y.val.num<18446744073709551616) (z:Int):
  xI (wt+fS g.writes) { s.apply g.cB g.aP g.writes with since:=z } :=by
 obtain⟨m1,m2,m3⟩:=u3 ha;have h1:=JK g.writes h.pi m3;have h2:=Ny g.writes s.bF;have h3:=vX g.writes;have h4:=h.pw;refine⟨⟨h1.nd,h1.zo,ah h1.len zQ⟩,?_,PE (Q:=fun v=>v.num<18446744073709551616) g.writes s.bF h.num hn,m1⟩
 show uv (g.writes.foldl fq s.bF)≤_
 omega
theorem wq.step (h:wq n wt every s x pre sg f rs) (hn:n<200) {g:fJ} (hw:wt+fS g.writes≤20000) (ht:Cn g.cB) (CP: ∀y∈g.writes,y.val.num<18446744073709551616):
  ∃gx sj f' vi,wq (n+1) (wt+fS g.writes) every (mL s x g).1 (mL s x g).2 gx sj f' vi∧(mL s x g).1.as=afP s.as g:=by
 have eF:s.rE g=(decide (g.kind=12)&&decide (g.aP.cmp s.as.2>0)&&decide (g.prev=s.as.2)):=rfl;unfold mL afP;rw [←eF];cases hc:g.asks&&s.rE g with
 |false=>
  rw [if_neg fe,if_neg fe];exact⟨pre,sg,f,rs,h.up zQ zQ,rfl⟩
 |true=>
  rw [if_pos rfl,if_pos rfl];simp only [aA] at hc;obtain⟨ha,hf⟩:=hc;simp only [SM.rE,aA,decide_eq_true_eq] at hf;have rW:=fJ.BP ha hf.1.1;have ok:=ZY rW ht CP zQ;have gD:nO s.as (.A g.prev g.aP g.cB g.writes)=some (g.writes.foldl iV s.as.1,g.aP):=by
   simp only [nO];rw [if_pos (show g.prev=s.as.2 from hf.2)]
  obtain⟨k1,k2⟩:=h.gl.dN (fj.A g.prev g.aP g.cB g.writes).enc;rcases h.inv.dN ok gD with⟨e,_⟩|⟨e,fm,gx,sj,hu,hd,hr,hh,DP⟩|⟨_,_,_,aet⟩
  ·exact absurd e k1
  ·have eK:(fj.A g.prev g.aP g.cB g.writes).enc=gS (en g.prev g.aP g.cB g.writes):=rfl;rw [eK] at e hu hd hr k2 DP;dsimp only;rw [if_pos e];obtain⟨e1,e2⟩:=SM.NO h.inv.sm.pi.nd g.cB g.aP g.writes;have e3:({ s.apply g.cB g.aP g.writes with since:=s.since+1 } :SM).as=(g.writes.foldl iV s.list,g.aP):=e1;have Mq:=h.si;have qX:=h.dl;have tN:=h.rl;have qt:=acZ (prev:=g.prev) (st:=g.aP) (t:=g.cB) (u3 rW).2.2;have eI:=lQ (gS (en g.prev g.aP g.cB g.writes));have wM:=ok.GW;rw [eK] at wM;refine⟨gx,sj,f,_,⟨⟨hu,hd,by rw [e3];exact hh,h.inv.sm.apply rW CP _,h.inv.dn⟩,k2,h.ev,by show 0≤s.since+1∧s.since+1≤_;omega,?_,by simp;omega,hr.trans h.rm,?_⟩,e3⟩
   ·show(s.done++[_]).length≤_
    simp;omega
   ·rw [h.rm] at DP;rcases DP with⟨rfl,rfl,hs⟩|⟨rfl,rfl,hs⟩
    ·exact(h.wd.plus wM hs).up zQ
    ·exact(h.wd.more hs).up zQ
  ·exact absurd aet (h.fits zQ zQ ok.GW)
theorem wq.tick {K:Nat} (h:wq n wt every s x pre sg f rs) (hn:n<200) (hw:wt≤20000) (hK:1000≤K): ∃gx sj f' vi,wq (n+1) wt every (kL s x K).1 (kL s x K).2 gx sj f' vi∧(kL s x K).1.as=s.as:=by
 unfold kL;cases hi:s.idle with
 |true=>
  rw [if_pos rfl];exact⟨pre,sg,f,rs,h.up zQ (bf _),rfl⟩
 |false=>
  rw [if_neg fe];have ok:=Rc h.inv.sm hw;have gD:nO s.as (.B s.high s.list)=some s.as:=by
   simp only [nO];rw [if_pos ⟨rfl,rfl⟩]
  obtain⟨k1,k2⟩:=h.gl.dN (fj.B s.high s.list).enc;rcases h.inv.dN ok gD with⟨e,_⟩|⟨e,fm,gx,sj,hu,hd,hr,hh,DP⟩|⟨_,_,_,aet⟩
  ·exact absurd e k1
  ·have eK:(fj.B s.high s.list).enc=fT (fg s.high s.list):=rfl;have wM:=ok.GW;rw [eK] at e hu hd hr k2 DP fm wM;dsimp only;rw [if_pos e];have eI:=lQ (fT (fg s.high s.list));have gF:=k2.trim (below:=(x.dN 0 (fT (fg s.high s.list))).2.1) (K:=K);have hlen:=k2.len;rw [hu.bI,ae,fK] at hlen;have NP:=fw.count hu.g.lk hh.fst;rw [hh.kj,aG,ae,fK] at NP;rcases hu.trim (below:=(x.dN 0 (fT (fg s.high s.list))).2.1) (K:=K)with⟨e2,_⟩|⟨e2,a,V9,g1,g2,g3,g4,g5,g6⟩
   ·exact absurd e2 gF.1
   ·rw [g1] at hh;have hg:Good (a++(V9++[sj])):=by rw [←g1];exact hu.g
    obtain⟨f',vi,hh2,ahU⟩:=hh.trim hg rfl fm g2;have cU:1≤sj.bS.length:=by
     rcases DP with⟨rfl,rfl,_⟩|⟨rfl,rfl,_⟩
     ·simp [bW.plus]
     ·simp
    have hp2:V9=[]:=g6 zQ zQ;subst hp2;have Mq:=h.si;have qX:=h.dl;have tN:=h.rl;have jo:xI wt { s with since:=0 } :=⟨h.inv.sm.pi,h.inv.sm.pw,h.inv.sm.num,h.inv.sm.may⟩;refine⟨[],sj,f',vi,⟨⟨g3,g4.trans hd,hh2,jo,h.inv.dn⟩,gF.2,h.ev,by show(0:Int)≤0∧(0:Int)≤_;omega,by show s.done.length≤_;omega,by omega,(g5.trans hr).trans h.rm,⟨by simp,fun t ht=>?_,by simp⟩⟩,rfl⟩;obtain rfl:=bC ht;rw [h.rm] at DP;rcases DP with⟨rfl,rfl,hs⟩|⟨rfl,rfl,hs⟩
    ·show sg.size+(cC _).length≤_
     omega
    ·show(cC _).length≤_
     omega
  ·exact absurd aet (h.fits zQ zQ ok.GW)
theorem NR: ∀(rs:List fj) {k:Nat} {x y:Bool×SM},Py k x.2→(∀r∈rs,r.ok)→AQ x rs=some y→Py (k+rs.length) y.2
 |[],k,x,y,h,_,hr=>by obtain rfl:=bC hr;exact h
 |r::rs,k,x,y,h,ok,hr=>by
  obtain⟨z,hz,h2⟩:=Option.bind_eq_some_iff.1 (show(xG x r).bind (fun y=>AQ y rs)=some y from hr);have:=NR rs (h.rep (ok r (by simp)) hz) (fun q hq=>ok q (aZ _ hq)) h2;rw [aY,show k+(rs.length+1)=k+1+rs.length by omega];exact this
theorem wq.open (h:wq n wt every s x pre sg f rs) (hn:n<200) (hw:wt≤20000): ∃m' s' L',LD.uy jq 4096 (x.m.jH [])=(⟨L',m'⟩,0)∧Holds L' f rs∧(∀r∈rs,r.ok)∧rs.length≤2^12∧AQ (decide ((f:Int)=1),fO every) rs=some (true,s')∧
  wq (n+1) wt every s' ⟨L',m'⟩ pre sg f rs∧s'.as=s.as∧(∀n,ky ((x.m.jH []).bytes n))∧(x.m.jH []).fs.length≤64∧(∀y∈(x.m.jH []).fs,y.1.size≤2^40):=by
 have CQ:=h.inv.up;obtain⟨k,hk,_,c1,c2,c3⟩:=CQ.d.jH (ct:=[]) CQ.g;rw [bZ] at hk c3;have jQ:k=0:=by omega
 subst jQ;rw [Nat.add_zero,dE] at c3;have Wa:=CQ.d.re (m':=x.m.jH []) c1 (fun t ht=>by rw [c2 t ht,CQ.d.body t ht]) rfl (GZ:=[]) (by rw [c3,bZ]) (by simp);rw [h.inv.dir] at Wa;have ahV:(x.m.jH []).sz≤4194304:=by rw [Wa.sz',←CQ.d.sz'];exact CQ.sz
 obtain⟨m',s',e,h1,h2,h3,h4,h5,h6,h7,h8⟩:=V8 (sz:=4096) (every:=every) Wa CQ.g BT rfl rfl ahV (by decide) h.inv.held;have eI:(x.m.jH []).fs.length≤64:=by
  have:=congrArg az c1;rw [DM.kg,DM.kg] at this;rw [this];exact CQ.fl
 have tN:=h.rl;have aaU:m'.fs.length≤64:=by
  have q1:=h1.ks.length_eq;have q2:=Wa.ks.length_eq;rw [DM.kg] at q1 q2;omega
 have Wb:m'.sz≤4194304:=by rw [h1.sz',←Wa.sz'];exact ahV
 refine⟨m',s',_,e,h4,h.inv.held.ok,by omega,h5,⟨⟨⟨rfl,CQ.g,h1,h3,Wb,aaU,(show 1≤jq.size from by decide),(show jq.size≤11 from by decide),(by decide:64≤4096),(by decide:4096≤262144)⟩,rfl,by rw [h6];exact h.inv.held,h.inv.sm.re h6 h7,h8.down.trans rfl⟩,?_,h8.every.trans rfl,?_,?_,by omega,rfl,h.wd.up zQ⟩,h6,Wa.As CQ.g (fun b hb=>by cases hb),eI,?_⟩
 ·have hg:=h.gl.up (n':=1+2*(n+1)) zQ;refine⟨⟨h2,h3⟩,by simp,(show 1≤jq.size from by decide),(show jq.size≤11 from by decide),fun t ht=>hg.qd t (by rw [CQ.bI];exact ht),(by decide:4096≤2^40),by have:=hg.len;rw [CQ.bI] at this;exact this⟩
 ·rw [h8.since];show(0:Int)≤0∧(0:Int)≤_;omega
 ·have:=(NR rs (k:=0) (x:=(_,fO every)) ⟨by simp [fO],by simp [fO],by simp [fO]⟩ h.inv.held.ok h5).done
  show s'.done.length≤_
  have e:(true,s').2.done.length≤0+rs.length:=this;dsimp only at e;omega
 ·intro y hy;have hm:y.1∈(x.m.jH []).ks:=List.mem_map.2 ⟨y,hy,rfl⟩;obtain⟨t,_,e9⟩:=List.mem_map.1 (Wa.ks.mem_iff.1 hm);rw [←e9,rC]
  decide
end
end Go.Proofs.YtpdkoaklobnegaaGreat
namespace Go.Proofs.YtpdkoaklobnegaaGreat
open Go.Proofs.Tryz renaming prog → pg
open Go.dL
set_option maxRecDepth 100000
set_option maxHeartbeats 1000000
set_option linter.unusedVariables false
set_option linter.unusedSimpArgs false
attribute [local irreducible] un jn bq aS bb gy dV dD cK lJ ez kV yC xf gU gH aa ay aD eW eV eU eC eF gE ao fin aR aE aJ vS yD jw jA tq A6 A7 yE A8 yF jx jB tt A9 Ba yG Bb
theorem afQ {sz:Nat} (z1:64≤sz) (z2:sz≤262144):lT (x0 sz) [] ⟨1,[],0⟩:=by
 obtain⟨_,g2,g3,g4,g5⟩:=Fu sz;have hL:=aaA sz;have hm:(x0 sz).m=(Cw.create (bw nL 1)).1:=rfl;have we:(x0 sz).m.get (bw nL 1)=some ([],0):=by
  rw [hm];have hn:qD (bw nL 1)=true:=by simp only [qD,rC,decide_eq_true_eq];decide
  have e:Cw.create (bw nL 1)=(Cw.tick.put (bw nL 1) [] 0,0):=by
   unfold DM.create;rw [if_neg (by simp [hn]),if_neg (by simp [DM.get,getM,Cw]),if_neg (by simp [Cw]),VV rfl rfl]
  rw [e];exact mX
 refine⟨by rw [hL];rfl,⟨trivial,fun t ht=>?_⟩,⟨by rw [hm,g4];simp,by rw [hm,g4,hL];exact jR _,fun t ht=>by simp at ht,by rw [hL];exact we,by simp [flat]⟩,by rw [hm];exact g3.dn,by rw [hm,g5];decide,?_,by rw [hL];exact(show 1≤jT nL from by decide),by rw [hL];exact(show jT nL≤11 from by decide),by rw [hL];exact z1,by rw [hL];exact z2⟩
 ·simp at ht;subst ht;exact⟨bf _,⟨by decide,by simp⟩,by simp [flat],fun p hp=>by cases hp⟩
 ·have:=congrArg az g4;rw [DM.kg] at this;rw [hm,this];decide
section
variable {w : World} {X F S : XS} {nb lb db n wt : Nat} {every : Int} {s : SM} {x : LD} {pre : List bW} {sg : bW} {f : Nat} {rs : List fj}
theorem ig.CJ (h:ig w F nb lb db s x.L x.m):Dk w F db x.m:=by
 obtain⟨FN,FG,mb,av,es,hd,h1,h2,h3,FL,FD,sv,bl,g1,g2,g3,g4,g5⟩:=h;exact g5.mono fun k hk=>h2 k (g3 k hk)
end
theorem Re {F1 F2 F' X:XS} {w wa w':World} (h:Dj F1 F2) (hF:FX F2 X w) (hle:w.heap.size≤wa.heap.size) (lN: ∀k,F' k→F1 k∨made wa w' k):Dj F' F2:=fun k a b=>(lN k a).elim (fun a=>h k a b) fun m=>by
 have:=(hF k b).2;have:=m.1;omega
theorem b0 (every:Int):wq 0 0 every (fO every) (x0 4096) [] ⟨1,[],0⟩ 1 []:=by
 have hL:=aaA 4096;refine⟨⟨afQ (by decide) (by decide),by rw [hL],⟨rfl,by simp [e7],by simp,⟨_,rfl,fun _=>?_⟩,fun e=>absurd rfl e⟩,⟨⟨by simp [fO],by simp [fO],by simp [fO]⟩,by simp [fO,uv],by simp [fO],by simp [fO];try decide⟩,rfl⟩,g0.lg,rfl,by simp [fO],by simp [fO],by simp,by rw [hL],⟨by simp,fun t ht=>?_,by simp⟩⟩
 ·simp [SM.as,fO,SM.list,fB]
 ·obtain rfl:=bC ht
  decide
end Go.Proofs.YtpdkoaklobnegaaGreat
