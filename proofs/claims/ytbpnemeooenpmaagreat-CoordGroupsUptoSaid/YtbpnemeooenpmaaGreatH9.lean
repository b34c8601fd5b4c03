/-
 Part 9 of the proof: what the last text leans on.
-/
import Derived.Test.YtbpnemeooenpmaaGreatH8
open List renaming mem_singleton → bw, map_append → bC, range → dI, map_cons → bV, replicate → fz, length_append → au, find?_cons → eb, sum_cons → na, length_map → aH, append_assoc → aI, mem_append_left → bR, length_nil → bI, getLast?_eq_some_getLast → jM, length_cons → bh, pairwise_cons → vE, length_singleton → bu, take_length → yt, dropLast_concat_getLast → oE, pairwise_singleton → rE
open Bool renaming false_eq_true → a8
open Nat renaming lt_of_lt_of_le → aG, zero_le → aF, le_trans → ah, zero_add → eZ, le_refl → ba
open Go.Value renaming cells → aa, string → bB, int → aA
open Option.some renaming inj → iG
open BitVec renaming ofInt → bT
open Go.Op renaming unary → aY
open Go.IntKind renaming bits → mc, signed → jb, wrap → oC
open ByteArray renaming size_append → nw
open UInt8 renaming ofNat → yu
open List.cons renaming injEq → yW
open Go.Builtin renaming len_ → jZ
open Int renaming toNat_of_nonneg → ux
set_option linter.unusedVariables false
set_option linter.unusedSimpArgs false
namespace Go.Proofs.YtbpnemeooenpmaaGreat
open Go.Proofs.Tryz renaming prog → pg
open Go.aV
set_option maxRecDepth 100000
set_option maxHeartbeats 1000000
set_option linter.unusedVariables false
set_option linter.unusedSimpArgs false
attribute [local irreducible] un jn aC aS ld1 dY st1 dt cD kK dC lQ uJ sO fH e7 ae aB aK eW eV eU eC eF gE az fin aP aE aD vS xd gO gW ry uK sP xe xf xg gB gR rz uL sQ xh xi
section
variable {κ : Type} [DecidableEq κ] {α β : Type}
theorem Ui (f:α→β) (k:κ) (l:List (κ×α)):getM k (l.map fun x=>(x.1,f x.2))=(getM k l).map f:=by
 induction l with
 |nil=>rfl
 |cons x l ih=>
  simp only [getM,bV,eb] at ih⊢;by_cases hx:x.1=k
  ·simp [hx]
  ·simp only [hx,decide_false] at ih⊢;exact ih
theorem MN (f:α→β) (k:κ) (a:α) (l:List (κ×α)):(dS k a l).map (fun x=>(x.1,f x.2))=dS k (f a) (l.map fun x=>(x.1,f x.2)):=by
 induction l with
 |nil=>rfl
 |cons x l ih=>
  simp only [dS,bV] at ih⊢;by_cases hx:x.1=k
  ·simp [hx]
  ·simp only [hx,if_false,bV,ih]
theorem aeT (f:α→β) (k:κ) (l:List (κ×α)):(xA k l).map (fun x=>(x.1,f x.2))=xA k (l.map fun x=>(x.1,f x.2)):=by
 unfold xA;rw [List.filter_map];rfl
theorem aeU (f:α→β) (k:κ) (a:α) {l:List (κ×α)} (h: ∀x∈l,x.1=k→f x.2=f a) (hk:(getM k l).isSome=true):(dS k a l).map (fun x=>(x.1,f x.2))=l.map fun x=>(x.1,f x.2):=by
 induction l with
 |nil=>cases hk
 |cons x l ih=>
  simp only [dS];by_cases hx:x.1=k
  ·simp [hx,h x (by simp) hx]
  ·simp only [hx,if_false,bV];rw [ih (fun y hy=>h y (by simp [hy])) (by simpa [getM,eb,hx] using hk)]
theorem zK (k:κ) (a:α) (l:List (κ×α)):(dS k a l).map (·.1)=if(getM k l).isSome then l.map (·.1)else l.map (·.1)++[k]:=by
 induction l with
 |nil=>rfl
 |cons x l ih=>
  simp only [dS];by_cases hx:x.1=k
  ·simp [hx,getM]
  ·have e:getM k (x::l)=getM k l:=by simp [getM,eb,hx]
   rw [if_neg hx,e,bV,ih];split<;>simp
theorem getM_none {k:κ} {l:List (κ×α)} :getM k l=none↔k ∉ l.map (·.1):=by
 induction l with
 |nil=>simp [getM]
 |cons x l ih=>
  by_cases hx:x.1=k
  ·simp [getM,hx]
  ·have e:getM k (x::l)=getM k l:=by simp [getM,eb,hx]
   rw [e,ih];simp [Ne.symm (hx:x.1≠k),eq_comm,hx]
theorem F8 {k:κ} {a:α} {l:List (κ×α)} (h:(l.map (·.1)).Nodup):((dS k a l).map (·.1)).Nodup:=by
 rw [zK];split
 ·exact h
 ·rename_i hn;have jf:getM k l=none:=by cases hg:getM k l with|none=>rfl|some a=>simp [hg] at hn
  rw [List.nodup_append];refine⟨h,by simp,fun a ha b hb e=>?_⟩;simp only [bw] at hb;subst hb;subst e;exact getM_none.1 jf ha
theorem za {k:κ} {a:α} {l:List (κ×α)} :getM k (dS k a l)=some a:=by
 induction l with
 |nil=>simp [dS,getM]
 |cons x l ih=>
  simp only [dS];by_cases hx:x.1=k
  ·simp [hx,getM]
  ·rw [if_neg hx];simpa [getM,eb,hx] using ih
theorem Cn {k j:κ} {a:α} {l:List (κ×α)} (hj:j≠k):getM j (dS k a l)=getM j l:=by
 induction l with
 |nil=>simp [dS,getM,Ne.symm hj]
 |cons x l ih=>
  simp only [dS];by_cases hx:x.1=k
  ·rw [if_pos hx];simp [getM,eb,Ne.symm hj,hx]
  ·rw [if_neg hx];by_cases hxj:x.1=j
   ·simp [getM,hxj]
   ·simpa [getM,eb,hxj] using ih
theorem Sr {R:κ×α→κ×α→Prop} {k:κ} {a:α} {l:List (κ×α)} (hn:(l.map (·.1)).Nodup) (hp:l.Pairwise R) (h: ∀y∈l,y.1≠k→R (k,a) y∧R y (k,a)):(dS k a l).Pairwise R:=by
 induction l with
 |nil=>simp [dS]
 |cons x l ih=>
  have jf:=List.nodup_cons.1 hn;have UJ:=List.pairwise_cons.1 hp;simp only [dS];by_cases hx:x.1=k
  ·rw [if_pos hx,vE];refine⟨fun y hy=>(h y (by simp [hy]) fun e=>jf.1 (List.mem_map.2 ⟨y,hy,e.trans hx.symm⟩)).1,UJ.2⟩
  ·rw [if_neg hx,vE];refine⟨fun y hy=>?_,ih jf.2 UJ.2 fun y hy=>h y (by simp [hy])⟩;rcases jt jf.2 hy with rfl|⟨hy,_⟩
   ·exact(h x (by simp) hx).2
   ·exact UJ.1 y hy
def sx (f:α→Nat) (l:List (κ×α)):Nat:=(l.map fun x=>f x.2).sum
theorem UM {f:α→Nat} {k:κ} {a b:α} {l:List (κ×α)} (h:getM k l=some b):sx f (dS k a l)+f b=sx f l+f a:=by
 induction l with
 |nil=>cases h
 |cons x l ih=>
  simp only [dS];by_cases hx:x.1=k
  ·have:x.2=b:=by simpa [getM,hx] using h
   rw [if_pos hx];simp only [sx,bV,na,this];omega
  ·rw [if_neg hx];have:=ih (by simpa [getM,eb,hx] using h);simp only [sx,bV,na] at this⊢;omega
theorem UL {f:α→Nat} {k:κ} {a:α} {l:List (κ×α)} (h:getM k l=none):sx f (dS k a l)=sx f l+f a:=by
 induction l with
 |nil=>simp [dS,sx]
 |cons x l ih=>
  simp only [dS];by_cases hx:x.1=k
  ·simp [getM,hx] at h
  ·rw [if_neg hx];have:=ih (by simpa [getM,eb,hx] using h);simp only [sx,bV,na] at this⊢;omega
theorem aeV {f:α→Nat} {k:κ} {b:α} {l:List (κ×α)} (h:getM k l=some b):f b≤sx f l:=by
 induction l with
 |nil=>cases h
 |cons x l ih=>
  by_cases hx:x.1=k
  ·have:x.2=b:=by simpa [getM,hx] using h
   simp only [sx,bV,na,this];omega
  ·have:=ih (by simpa [getM,eb,hx] using h);simp only [sx,bV,na] at this⊢;omega
end
structure DM where
 fs:List (ByteArray×(List Nat×Nat))
 wr:Int
 ar:Nat
 dn:Bool
def DM.sz (m:DM):Nat:=sx (fun x=>x.1.length) m.fs
def DM.get (m:DM) (n:ByteArray):Option (List Nat×Nat):=getM n m.fs
def DM.put (m:DM) (n:ByteArray) (bs:List Nat) (s:Nat):DM:= { m with fs:=dS n (bs,s) m.fs }
def DM.del (m:DM) (n:ByteArray):DM:= { m with fs:=xA n m.fs }
def DM.tick (m:DM):DM:=if m.ar=1 then { m with ar:=0,dn:=true } else { m with ar:=m.ar-1,wr:=IntKind.i64.wrap (m.wr+1) }
def DM.write (m:DM) (e:Nat) (f:DM→DM):DM×Nat:=if m.dn then(m,12)else if e≠0 then(m,e)else if m.tick.dn then(m.tick,12)else(f m.tick,0)
def xj (n:ByteArray):Bool:=decide (1≤n.size∧n.size≤20)
def DM.create (m:DM) (n:ByteArray):DM×Nat:=m.write (if¬xj n then 10 else if(m.get n).isSome then 9 else if 64≤m.fs.length then 3 else 0) fun m=>m.put n [] 0
def DM.append (m:DM) (n:ByteArray) (b:List Nat):DM×Nat:=
 if m.dn then(m,12)else match m.get n with
 |none=>(m,8)
 |some (bs,s)=>if 4194304-m.sz<b.length then(m,11)else(m.tick.put n (bs++b) s,if m.tick.dn then 12 else 0)
def DM.zB (n:ByteArray) (m:DM):DM:=match m.get n with
 |none=>m
 |some x=>m.put n x.1 x.1.length
def DM.sync (m:DM) (n:ByteArray):DM×Nat:=m.write (if(m.get n).isSome then 0 else 8) (DM.zB n)
theorem DM.BO (m:DM):m.tick.fs=m.fs:=by unfold DM.tick;split<;>rfl
theorem DM.zo (m:DM) (n:ByteArray):m.tick.get n=m.get n:=by unfold DM.get;rw [m.BO]
theorem DM.Lc (m:DM):m.tick.sz=m.sz:=by unfold DM.sz;rw [m.BO]
theorem DM.WJ {m:DM} {n:ByteArray} {b bs:List Nat} {s s':Nat} (h:m.get n=some (b,s)):(m.put n bs s').sz+b.length=m.sz+bs.length:=UM (f:=fun x:List Nat×Nat=>x.1.length) h
theorem DM.YX {m:DM} {n:ByteArray} {bs:List Nat} {s':Nat} (h:m.get n=none):(m.put n bs s').sz=m.sz+bs.length:=UL (f:=fun x:List Nat×Nat=>x.1.length) h
theorem DM.WK (m:DM) (n:ByteArray):(m.zB n).sz=m.sz:=by
 unfold DM.zB;split
 ·rfl
 ·rename_i x hx;have:=DM.WJ (bs:=x.1) (s':=x.1.length) hx;omega
theorem DM.agF {m:DM} {n:ByteArray} {b:List Nat} {s:Nat} (h:m.get n=some (b,s)):b.length≤m.sz:=aeV (f:=fun x:List Nat×Nat=>x.1.length) h
structure mq where
 b:Nat
 v:Value
 bs:List Nat
 safe:Nat
def mq.er (f:mq):List Nat×Nat:=(f.bs,f.safe)
def Mx:World→XS→Value→mq→Prop:=fun _ _ v f=>v=ptr f.b 0
theorem mr:mU Mx:=fun _ _ _ _ _ _ h _=>h
def apart (x y:ByteArray×mq):Prop:=x.2.b≠y.2.b∧ ∀g,x.2.v.ownBlock=some g→y.2.v.ownBlock≠some g
structure nc (w:World) (F:XS) (db mb:Nat) (l:List (ByteArray×mq)) (m:DM) (z:Nat):Prop where
 fs:m.fs=l.map fun x=>(x.1,x.2.er)
 box:a7 w F db [.map (some mb),I z,I m.wr,I m.ar,B m.dn] 109
 map:dR w F nX mb bB Mx l
 row: ∀x∈l,a7 w F x.2.b [x.2.v,I x.2.safe] 325
 ow: ∀x∈l,Ow w F 5 1 x.2.v (x.2.bs.map U1)
 ap:l.Pairwise apart
 ar:m.ar<2^63
 safe: ∀x∈l,x.2.safe≤x.2.bs.length
def Dk (w:World) (F:XS) (db:Nat) (m:DM):Prop:= ∃mb l,nc w F db mb l m m.sz∧m.sz≤4194304
section
variable {w w' : World} {F F' X X' G A : XS} {db mb z z' : Nat} {l : List (ByteArray × mq)} {m m' : DM} {n : ByteArray} {f : mq}
theorem nc.mv (h:nc w F db mb l m z) (v:Mv F w F' w'):nc w' F' db mb l m z:=
 ⟨h.fs,h.box.mv v,h.map.mv mr v (fun _ h=>h.elim),fun x hx=>(h.row x hx).mv v,fun x hx=>(h.ow x hx).mv v,h.ap,h.ar,h.safe⟩
theorem Dk.mv (h:Dk w F db m) (v:Mv F w F' w'):Dk w' F' db m:=let⟨mb,l,h,hz⟩:=h;⟨mb,l,h.mv v,hz⟩
theorem Dk.mono (h:Dk w F db m) (hs: ∀k,F k→F' k):Dk w F' db m:=h.mv (Mv.sub hs)
theorem nc.get (h:nc w F db mb l m z) (n:ByteArray):m.get n=(getM n l).map mq.er:=by
 unfold DM.get;rw [h.fs];exact Ui mq.er n l
theorem nc.nodup (h:nc w F db mb l m z):(l.map (·.1)).Nodup:=h.map.nodup
theorem nc.len (h:nc w F db mb l m z):m.fs.length=l.length:=by rw [h.fs,aH]
theorem nc.aiX (h:nc w F db mb l m z) (hX: ∀k,F k→X k) (c:ez (· =db) X w X' w') (hr:a7 w' X' db [.map (some mb),I z',I m'.wr,I m'.ar,B m'.dn] 109) (EE:m'.fs=m.fs) (har:m'.ar<2^63):nc w' F db mb l m' z':=by
 have mv: ∀{A:XS},(∀k,A k→F k∧k≠db)→Mv A w F w':=fun hA k hk _=>⟨(hA k hk).1,c.block k (hX k (hA k hk).1) (hA k hk).2⟩;refine⟨EE.trans h.fs,⟨h.box.1,hr.2⟩,?_,fun x hx=>?_,fun x hx=>?_,h.ap,har,h.safe⟩
 ·exact h.map.own.mv mr (mv fun k hk=>by subst hk;exact⟨h.map.x.1,h.map.eA h.box⟩) fun _ h=>h.elim
 ·exact(h.row x hx).own.mv (mv fun k hk=>by subst hk;exact⟨(h.row x hx).1,(h.row x hx).eA h.box kQ⟩)
 ·exact(h.ow x hx).tight.mv (mv fun k hk=>⟨((h.ow x hx).bK hk).1,fun e=>(h.ow x hx).eA h.box kQ (e▸hk)⟩)
theorem akj {α:Type} {R:α→α→Prop} (hs: ∀a b,R a b→R b a) {l:List α} (h:l.Pairwise R) {x y:α} (hx:x∈l) (hy:y∈l) (du:x≠y):R x y:=by
 induction l with
 |nil=>cases hx
 |cons a l ih=>
  have h':=List.pairwise_cons.1 h;rcases List.mem_cons.1 hx with e1|h1
  ·rcases List.mem_cons.1 hy with e2|h2
   ·exact absurd (e1.trans e2.symm) du
   ·rw [e1];exact h'.1 y h2
  ·rcases List.mem_cons.1 hy with e2|h2
   ·rw [e2];exact hs _ _ (h'.1 x h1)
   ·exact ih h'.2 h1 h2
theorem He: ∀a b:ByteArray×mq,apart a b→apart b a:=fun a b h=>⟨Ne.symm h.1,fun g hg jg=>h.2 g jg hg⟩
theorem nc.WL (h:nc w F db mb l m z) (hn:getM n l=some f) {y:ByteArray×mq} (hy:y∈l) (du:y.1≠n):apart (n,f) y:=
 akj He h.ap (ka hn) hy fun e=>du (by rw [←e])
theorem kY.ids {A:XS} : ∀{es:List (gA ByteArray)} {l l':List (ByteArray×mq)},kY w A Mx es l→l'.map (fun x=>(x.1,x.2.b))=l.map (fun x=>(x.1,x.2.b))→kY w A Mx es l'
 |[],[],[],_,_=>trivial
 |[],[],_::_,_,h=>by cases h
 |e::es,x::l,[],_,h=>by cases h
 |e::es,x::l,y::l',⟨h1,h2,h3⟩,h=>by
  simp only [bV,yW,Prod.mk.injEq] at h;exact⟨h1.trans h.1.1.symm,by unfold Mx at h2⊢;rw [h2,h.1.2],kY.ids h3 h.2⟩
 |[],_::_,_,h,_=>h.elim
 |_::_,[],_,h,_=>h.elim
theorem nc.kF (h:nc w F db mb l m z) (hX: ∀k,F k→X k∧k<w.heap.size) (c:ez G X w X' w') (hn:getM n l=some f) (hG: ∀k,G k→k=f.b∨f.v.ownBlock=some k) (WM: ∀k,F k→F' k)
  {v':Value} {WN:List Nat} {s':Nat} (hr:a7 w' F' f.b [v',I s'] 325) (ho:Ow w' F' 5 1 v' (WN.map U1)) (ef:v'.ownBlock=f.v.ownBlock∨ ∃g,v'.ownBlock=some g∧w.heap.size≤g) (hs:s'≤WN.length):
  nc w' F' db mb (dS n ⟨f.b,v',WN,s'⟩ l) (m.put n WN s') z:=by
 have hf:=ka hn;have rf:=h.row _ hf;have of:=h.ow _ hf;have mv: ∀{A:XS},(∀k,A k→F k∧k≠f.b∧f.v.ownBlock≠some k)→Mv A w F' w':=fun hA k hk _=>by
  obtain⟨a1,a2,a3⟩:=hA k hk;exact⟨WM k a1,c.block k (hX k a1).1 fun hg=>(hG k hg).elim a2 a3⟩
 refine⟨?_,?_,?_,fun x hx=>?_,fun x hx=>?_,?_,h.ar,fun x hx=>?_⟩
 ·show dS n (WN,s') m.fs=_
  rw [h.fs,MN mq.er];rfl
 ·exact h.box.own.mv (mv fun k hk=>by subst hk;exact⟨h.box.1,(rf.eA h.box kQ).symm,of.eA h.box kQ⟩)
 ·obtain⟨es,c',h1,h2⟩:=h.map.own.mv mr (mv fun k hk=>by subst hk;exact⟨h.map.x.1,h.map.eA rf,h.map.aeJ of⟩) (A':=nX) fun _ h=>h.elim;refine⟨es,c',h1,kY.ids h2 (aeU mq.b n ⟨f.b,v',WN,s'⟩ (fun x hx e=>?_) (by rw [hn];rfl))⟩;have:getM n l=some x.2:=zz h.nodup (by rw [←e];exact hx);rw [hn] at this;rw [←iG this]
 ·rcases jt h.nodup hx with rfl|⟨hx,du⟩
  ·exact hr
  ·have ha:=h.WL hn hx du;exact(h.row x hx).own.mv (mv fun k hk=>by subst hk;exact⟨(h.row x hx).1,ha.1.symm,of.eA (h.row x hx) kQ⟩)
 ·rcases jt h.nodup hx with rfl|⟨hx,du⟩
  ·exact ho
  ·have ha:=h.WL hn hx du;exact(h.ow x hx).tight.mv (mv fun k hk=>⟨((h.ow x hx).bK hk).1,fun e=>(h.ow x hx).eA rf kQ (e▸hk),fun e=>ha.2 k e hk⟩)
 ·refine Sr h.nodup h.ap fun y hy du=>?_;have ha:=h.WL hn hy du;have key:apart (n,⟨f.b,v',WN,s'⟩) y:=⟨ha.1,fun g hg jg=>by
   rcases ef with e|⟨g',e,dV⟩
   ·exact ha.2 g (e▸hg) jg
   ·have:=(hX g ((h.ow y hy).bK jg).1).2;have:g'=g:=by
     have e2:v'.ownBlock=some g:=hg;rw [e] at e2;exact iG e2
    omega⟩
  exact⟨key,He _ _ key⟩
 ·rcases jt h.nodup hx with rfl|⟨hx,du⟩
  ·exact hs
  ·exact h.safe x hx
theorem nc.new (h:nc w F db mb l m z) (hX: ∀k,F k→X k∧k<w.heap.size) (c:ez G X w X' w') (hn:getM n l=none) (hG: ∀k,G k→k=mb) (WM: ∀k,F k→F' k) {b:Nat} (hb:w.heap.size≤b)
  (hm:dR w' F' nX mb bB Mx (dS n ⟨b,.slice none 0 0,[],0⟩ l)) (hr:a7 w' F' b [.slice none 0 0,I (0:Nat)] 325):
  nc w' F' db mb (dS n ⟨b,.slice none 0 0,[],0⟩ l) (m.put n [] 0) z:=by
 have mv: ∀{A:XS},(∀k,A k→F k∧k≠mb)→Mv A w F' w':=fun hA k hk _=>by
  obtain⟨a1,a2⟩:=hA k hk;exact⟨WM k a1,c.block k (hX k a1).1 fun hg=>a2 (hG k hg)⟩
 refine⟨?_,?_,hm,fun x hx=>?_,fun x hx=>?_,?_,h.ar,fun x hx=>?_⟩
 ·show dS n ([],0) m.fs=_
  rw [h.fs,MN mq.er];rfl
 ·exact h.box.own.mv (mv fun k hk=>by subst hk;exact⟨h.box.1,(h.map.eA h.box).symm⟩)
 ·rcases jt h.nodup hx with rfl|⟨hx,du⟩
  ·exact hr
  ·exact(h.row x hx).own.mv (mv fun k hk=>by subst hk;exact⟨(h.row x hx).1,(h.map.eA (h.row x hx)).symm⟩)
 ·rcases jt h.nodup hx with rfl|⟨hx,du⟩
  ·exact Ow.nil _ _ _ _
  ·exact(h.ow x hx).tight.mv (mv fun k hk=>⟨((h.ow x hx).bK hk).1,fun e=>h.map.aeJ (h.ow x hx) (e▸hk)⟩)
 ·refine Sr h.nodup h.ap fun y hy du=>?_;have key:apart (n,⟨b,.slice none 0 0,[],0⟩) y:=⟨fun e=>by
   have:=(hX _ (h.row y hy).1).2;have e':b=y.2.b:=e;omega,fun g hg=>by cases hg⟩
  exact⟨key,He _ _ key⟩
 ·rcases jt h.nodup hx with rfl|⟨hx,du⟩
  ·exact ba _
  ·exact h.safe x hx
theorem nc.less (h:nc w F db mb l m z) (hX: ∀k,F k→X k) (c:ez (· =mb) X w X' w') (hm:dR w' X' nX mb bB Mx (xA n l)):nc w' F db mb (xA n l) (m.del n) z:=by
 have mv: ∀{A:XS},(∀k,A k→F k∧k≠mb)→Mv A w F w':=fun hA k hk _=>⟨(hA k hk).1,c.block k (hX k (hA k hk).1) (hA k hk).2⟩;have nQ: ∀x∈xA n l,x∈l:=fun x hx=>(List.mem_filter.1 hx).1;refine⟨?_,?_,?_,fun x hx=>?_,fun x hx=>?_,h.ap.filter _,h.ar,fun x hx=>h.safe x (nQ x hx)⟩
 ·show xA n m.fs=_
  rw [h.fs,aeT mq.er]
 ·exact h.box.own.mv (mv fun k hk=>by subst hk;exact⟨h.box.1,(h.map.eA h.box).symm⟩)
 ·obtain⟨es,c',h1,h2⟩:=hm;exact⟨es,c',⟨h.map.x.1,h1.2⟩,h2⟩
 ·exact(h.row x (nQ x hx)).own.mv (mv fun k hk=>by subst hk;exact⟨(h.row x (nQ x hx)).1,(h.map.eA (h.row x (nQ x hx))).symm⟩)
 ·exact(h.ow x (nQ x hx)).tight.mv (mv fun k hk=>⟨((h.ow x (nQ x hx)).bK hk).1,fun e=>h.map.aeJ (h.ow x (nQ x hx)) (e▸hk)⟩)
end
def FX (F X:XS) (w:World):Prop:= ∀k,F k→X k∧k<w.heap.size
theorem FX.kp {F X:XS} {w wa:World} (h:FX F X w) (hk:Kp X w wa):FX F (aR wa) wa:=fun k af=>⟨aG (h k af).2 hk.size,aG (h k af).2 hk.size⟩
theorem FX.mv {F X:XS} {w wa:World} (h:FX F X w) (hk:Kp X w wa):Mv F w F wa:=fun k af _=>⟨af,hk.block k (h k af).1⟩
theorem FX.ft {F X:XS} {w wa:World} (h:FX F X w) (hk:Kp X w wa):Ft wa F wa (aR wa) F:=Ft.init fun k af=>(h.kp hk k af).1
theorem _root_.Go.aV.Ft.fx {w0 w:World} {F0 F G X:XS} (h:Ft w0 F0 w X F) (hG: ∀k,G k→F k):FX G X w:=fun k hk=>⟨h.bK k (hG k hk),h.s.has k (h.bK k (hG k hk))⟩
section
variable {P : Program} {R : Ending → World → Prop} {w w0 : World} {X F F0 G : XS} {db mb z : Nat} {l : List (ByteArray × mq)} {m : DM}
theorem aiY {κ α:Type} [DecidableEq κ] {A:XS} {t ty kt et b:Nat} {kv:κ→Value} {rd:World→XS→Value→α→Prop} {l:List (κ×α)} {N:Value→Prop} (h:dR w X A b kv rd l) (ht:P.underlying t=some (.map kt et))
  (n:N (I l.length)):ae P X w (jZ #[t] ty #[.map (some b)]) N:=by
 obtain⟨es,c,h1,h2⟩:=h;refine E8 (I l.length) (fun wa hk=>?_) n;have hb:=(h1.kp hk).2.1;have hl:es.length=l.length:=by have:=congrArg List.length h2.keys;simpa using this
 simp [jZ,run_underlying ht,getObj,Sem.run,hb,goInt,hl]
theorem acu {t:TypeId} {a b:Int} {N:Value→Prop} (h:N (.int .i64 (IntKind.i64.wrap (a+b)))):ae P X w (binOp .add t (.int .i64 a) (.int .i64 b)) N:=lA h
theorem FA {N:Value→World→XS→Prop} {t o o':Nat} {v:Value} (hT:Ft w0 F0 w X F) (h:nc w G db mb l m z) (hG: ∀k,G k→F k) (m':DM) (z':Nat) (Vy:o'=o) (ht:((P.info? t).map (·.size))=some 1) (ho:o+1≤5) (h1:aV.one v=true)
  (hc:dg [.map (some mb),I z,I m.wr,I m.ar,B m.dn] o [v]=[.map (some mb),I z',I m'.wr,I m'.ar,B m'.dn]) (EE:m'.fs=m.fs) (har:m'.ar<2^63)
  (n: ∀w' X',Ft w0 F0 w' X' F→nc w' G db mb l m' z'→ez (· =db) X w X' w'→N undef w' X'):eU P R X w true (st1 t 1 (ptr db o') v) N:=by
 subst Vy;have hX: ∀k,G k→X k:=fun k hk=>hT.bK k (hG k hk);have hv:v.cells= #[v]:=rr h1;refine By (h.box.mv (Mv.sub hX)) ht ho (by rw [hv];rfl) (by rw [hv];simp [h1]) hT.s.has fun w' X' c hr=>?_;rw [hv] at hr;rw [hc] at hr;exact n w' X' (hT.fM c (fun k hk=>by subst hk;exact hG _ h.box.1) fun k hk=>.inl hk) (h.aiX hX c hr EE har) c
end
theorem Ah {w:World} {X:XS} {mb:Nat} {l:List (ByteArray×mq)} {n:ByteArray} {N:Value→Prop} (hm:dR w X nX mb bB Mx l) (n1: ∀f,getM n l=some f→N (ptr f.b 0)) (n0:getM n l=none→N (.pointer none)):
  ae pg X w (Instr.lookup 107 (.map (some mb)) (.string n) false) N:=
 th (kt:=9) (et:=253) (.pointer none) hm (Gx kQ) kQ kQ (fun v f h1 h2=>by
  have h2:v=ptr f.b 0:=h2;subst h2;exact n1 f h1) n0
theorem My {w:World} {X F:XS} {db mb z:Nat} {l:List (ByteArray×mq)} {m:DM} (h:nc w F db mb l m z) (hF:FX F X w) (iv:m.dn=false):
  Ct pg 210 #[ptr db 0] w X F fun v wa w'=>v=B m.tick.dn∧nc w' F db mb l m.tick z:=by
 intro w0 hk;have h0:=h.mv (hF.mv hk);have hT:=hF.ft hk;clear h;have har:=h0.ar;apply Ly;unfold Ba;have hb:=h0.box.mv (Mv.sub hT.bK);rw [iv] at hb;have EI: ∀k,F k→F k:=fun _ h=>h;refine dx ?_;repeat' first|refine aJ ?_;intros|refine dM ?_ ?_<;>intros|with_reducible apply dx
 ·refine FA hT h0 EI { m with ar:=m.ar-1 } z (o:=3) zQ kQ zQ rfl (by rw [show((m.ar-1:Nat):Int)=(m.ar:Int)-1 by omega];rfl) rfl (by show m.ar-1<_;omega) fun w1 X1 hT h1 c1=>?_;clear hb h0;have hb:=h1.box.mv (Mv.sub hT.bK);repeat' first|refine aJ ?_;intros|refine dM ?_ ?_<;>intros
  ·refine FA hT h1 EI { m with ar:=m.ar-1,dn:=true } z (o:=4) zQ kQ zQ rfl rfl rfl h1.ar fun w1 X1 hT h2 c1=>?_;clear hb h1;have hb:=h2.box.mv (Mv.sub hT.bK);have q':((m.ar-1:Nat):Int)=0:=by assumption
   have nD:m.ar=1:=by omega
   repeat' first|refine aJ ?_;intros|with_reducible apply dx
   refine hT.fin fun wa bk=>⟨by rw [DM.tick,if_pos nD],?_⟩;rw [DM.tick,if_pos nD];rw [show m.ar-1=0 by omega] at h2;exact h2.mv (bk.fi hT.bK)
  ·refine FA hT h1 EI { m with ar:=m.ar-1,dn:=false } z (o:=4) zQ kQ zQ rfl rfl rfl h1.ar fun w1 X1 hT h2 c1=>?_;clear hb h1;have hb:=h2.box.mv (Mv.sub hT.bK);have q': ¬((m.ar-1:Nat):Int)=0:=by assumption
   have nD: ¬m.ar=1:=by omega
   repeat' first|refine aJ ?_;intros|with_reducible apply dx|(with_reducible apply acu)
   refine FA hT h2 EI { m with ar:=m.ar-1,dn:=false,wr:=IntKind.i64.wrap (m.wr+1) } z (o:=2) zQ kQ zQ rfl rfl rfl h2.ar fun w1 X1 hT h3 c1=>?_;clear hb h2;have hb:=h3.box.mv (Mv.sub hT.bK);repeat' first|refine aJ ?_;intros
   refine hT.fin fun wa bk=>⟨by rw [DM.tick,if_neg nD,iv],?_⟩;rw [DM.tick,if_neg nD];have h4:=h3.mv (bk.fi hT.bK);rw [←iv] at h4;exact h4
 ·have nD: ¬m.ar=1:=by omega
  have ha0:m.ar-1=m.ar:=by omega
  repeat' first|refine aJ ?_;intros|(with_reducible apply acu)
  refine FA hT h0 EI { m with wr:=IntKind.i64.wrap (m.wr+1) } z (o:=2) zQ kQ zQ rfl rfl rfl h0.ar fun w1 X1 hT h3 c1=>?_;clear hb h0;have hb:=h3.box.mv (Mv.sub hT.bK);rw [iv] at hb;repeat' first|refine aJ ?_;intros
  refine hT.fin fun wa bk=>⟨by rw [DM.tick,if_neg nD,iv],?_⟩;rw [DM.tick,if_neg nD,ha0];exact h3.mv (bk.fi hT.bK)
theorem Yc (n:ByteArray):Pure pg 185 #[.string n] (B (xj n)):=by
 intro w0;apply Wa;unfold Ka;have hs:=aj.init w0;repeat' first|refine aJ ?_;intros|refine dM ?_ ?_<;>intros|(with_reducible refine eD hs ?_);(simp_all [xj]<;>omega)
theorem OY {w:World} {X:XS} :Ct pg 7 #[] w X nX fun v wa w'=> ∃db,v=ptr db 0∧Dk w' (made wa w') db ⟨[],0,0,false⟩:=by
 intro w0 hk;apply XH;unfold Ml;have hs:=aj.init w0;refine nC (kv:=bB) Mx nX hs.has fun mb w1 X1 hmb ao oL=>?_;replace hs:=hs.trans ao;refine aax kQ ?_;refine nY hs.has fun bx w2 X2 gh bU bJ=>?_;have ir:=oL.mv mr bU.mv (fun _ h=>h.elim) (A':=nX);have hz:=hs.kp.size;refine av (hs.trans bU) fun wa bk=>⟨bx,rfl,mb,[],⟨rfl,⟨⟨by omega,(bJ.kp bk).lt⟩,(bJ.kp bk).2⟩,?_,by simp,by simp,List.Pairwise.nil,by decide,by simp⟩,by decide⟩;exact ir.own.mv mr (Mv.one bk ir.x.1 ⟨hmb,aG ir.x.2 bk.size⟩) fun _ h=>h.elim
theorem W6 {w:World} {X F:XS} {db:Nat} {m:DM} (h:Dk w F db m) (hF:FX F X w):Ct pg 68 #[ptr db 0] w X nX fun v wa w'=>v=B m.dn:=by
 intro w0 hk;obtain⟨mb,l,h0,hz⟩:=h.mv (hF.mv hk);have hb:=h0.box.mv (Mv.sub fun k af=>(hF.kp hk k af).1);apply Lt;unfold AZ;have hs:=aj.init w0;repeat' first|refine aJ ?_;intros|((first|(with_reducible refine av hs ?_)|(with_reducible refine av (bS.trans hs) ?_));intro wa hk;rfl)
theorem aaU {w:World} {X F:XS} {db:Nat} {m:DM} {n:ByteArray} (h:Dk w F db m) (hF:FX F X w):Ct pg 188 #[ptr db 0,.string n] w X nX fun v wa w'=>v=I (if(m.get n).isSome then 0 else 8):=by
 intro w0 hk;obtain⟨mb,l,h0,hz⟩:=h.mv (hF.mv hk);have hX:=fun k af=>(hF.kp hk k af).1;have hb:=h0.box.mv (Mv.sub hX);have hg:=h0.get n;have hm:=h0.map.mv mr (Mv.sub hX) (A':=nX) fun _ h=>h.elim;apply ND;unfold CF;have hs:=aj.init w0;repeat' first|refine aJ ?_;intros
 refine Ah hm (fun f h1=>?_) fun h1=>?_
 ·repeat' first|refine aJ ?_;intros|((first|(with_reducible refine av hs ?_)|(with_reducible refine av (bS.trans hs) ?_));intro wa hk;(rw [hg,h1];rfl))
 ·repeat' first|refine aJ ?_;intros|((first|(with_reducible refine av hs ?_)|(with_reducible refine av (bS.trans hs) ?_));intro wa hk;(rw [hg,h1];rfl))
theorem KG {w:World} {X F A:XS} {db f:Nat} {c:List Value} {m:DM} {e:Nat} {g:DM→DM} (h:Dk w F db m) (hF:FX F X w) (hA: ∀k,A k→X k∧k<w.heap.size∧ ¬F k) (hf:enters pg f=true)
  (hdo:e=0→ ∀w1 X1,Mv A w A w1→(∀k,A k→X1 k)→FX F X1 w1→Dk w1 F db m.tick→Ct pg f c.toArray w1 X1 F fun v wa w'=>v= .tuple #[]∧ ∃F',(∀k,F' k→F k∨made wa w' k)∧Dk w' F' db (g m.tick)):
  Ct pg 186 #[ptr db 0,I e,.func (.func f) #[] c.toArray] w X F fun v wa w'=>v=I (m.write e g).2∧ ∃F',(∀k,F' k→F k∨made wa w' k)∧Dk w' F' db (m.write e g).1:=by
 intro w0 hk;obtain⟨mb,l,h0,hz⟩:=h.mv (hF.mv hk);have hT:=hF.ft hk;have mK:FX F (aR w0) w0:=hF.kp hk;have hAm:Mv A w A w0:=fun k af _=>⟨af,hk.block k (hA k af).1⟩;have hb:=h0.box.mv (Mv.sub hT.bK);have hs:=aj.init w0;have stay: ∀{w1 X1} (m':DM),Ft w0 F w1 X1 F→nc w1 F db mb l m' m'.sz→m'.sz≤4194304→ ∀wa,Kp X1 w1 wa→ ∃F',(∀k,F' k→F k∨made w0 wa k)∧Dk wa F' db m':=fun m' hT h1 hz wa bk=>⟨F,hT.gU bk fun _ h=>h,mb,l,h1.mv (bk.fi hT.bK),hz⟩;have htz:m.tick.sz=m.sz:=by unfold DM.tick DM.sz;split<;>rfl
 apply Kq;unfold Ac;cases iv:m.dn
 ·rw [iv] at hb;repeat' first|refine aJ ?_;intros|refine dM ?_ ?_<;>intros
  ·have he:e≠0:=by omega
   refine hT.fin fun wa bk=>⟨?_,?_⟩
   ·simp [DM.write,iv,he]
   ·simp only [DM.write,iv,he,a8,if_false,ne_eq,not_false_eq_true,if_true];exact stay m hT h0 hz wa bk
  ·have he:e=0:=by omega
   refine hT.call (My h0 mK iv) kQ (fun _ h=>h) fun v wa w2 X2 hq hle fP cW hc=>?_;obtain⟨rfl,h2⟩:=hq;replace cW:Ft w0 F w2 X2 F:=cW.less fun k hk=>.inl hk;rw [←htz] at h2;cases ht:m.tick.dn
   ·repeat' first|refine aJ ?_;intros
    refine cW.call (hdo he w2 X2 (hAm.trans (hc.fi fun k af=>⟨aG (hA k af).2.1 hk.size,(hA k af).2.2⟩)) (fun k af=>hc.sub k (aG (hA k af).2.1 hk.size)) (cW.fx fun _ h=>h) ⟨mb,l,h2,htz▸hz⟩) hf (fun _ h=>h) fun v uQ w3 X3 EW nZ mz dE qY=>?_;obtain⟨rfl,F',DW,hD⟩:=EW;refine dE.fin fun C7 bk=>⟨?_,F',dE.gU bk DW,?_⟩
    ·simp [DM.write,iv,he,ht]
    ·simp only [DM.write,iv,he,ht,a8,if_false,ne_eq,not_true_eq_false];exact hD.mv (bk.fi fun k af=>dE.bK k (DW k af))
   ·repeat' first|refine aJ ?_;intros
    refine cW.fin fun wa bk=>⟨?_,?_⟩
    ·simp [DM.write,iv,he,ht]
    ·simp only [DM.write,iv,he,ht,a8,if_false,ne_eq,not_true_eq_false,if_true];exact stay _ cW h2 (htz▸hz) wa bk
 ·rw [iv] at hb;repeat' first|refine aJ ?_;intros
  refine hT.fin fun wa bk=>⟨?_,?_⟩
  ·simp [DM.write,iv]
  ·simp only [DM.write,iv,if_true];exact stay m hT h0 hz wa bk
section
variable {R : Ending → World → Prop} {w w0 : World} {X F F0 G : XS} {db mb z : Nat} {l : List (ByteArray × mq)} {m : DM} {n : ByteArray} {f : mq} {N : Value → World → XS → Prop}
theorem aaV {o':Nat} {x:Int} {s':Nat} (hT:Ft w0 F0 w X F) (h:nc w G db mb l m z) (hG: ∀k,G k→F k) (hn:getM n l=some f) (ho:o'=1) (hx:x=s') (hs:s'≤f.bs.length)
  (k: ∀w' X',Ft w0 F0 w' X' F→nc w' G db mb (dS n ⟨f.b,f.v,f.bs,s'⟩ l) (m.put n f.bs s') z→N undef w' X'):eU pg R X w true (st1 3 1 (ptr f.b o') (I x)) N:=by
 subst ho;subst hx;have hX: ∀k,G k→X k:=fun k hk=>hT.bK k (hG k hk);have hr:=h.row _ (ka hn);have ho:=h.ow _ (ka hn);refine By (hr.mv (Mv.sub hX)) kQ (by simp) rfl rfl hT.s.has fun w' X' c qp=>?_;have hT':Ft w0 F0 w' X' F:=hT.fM c (fun k hk=>by subst hk;exact hG _ hr.1) fun k hk=>.inl hk;refine k w' X' hT' (h.kF (F':=G) (hT.fx hG) c hn (fun k hk=>.inl hk) (fun _ h=>h) ⟨hr.1,qp.2⟩ ?_ (.inl rfl) hs);exact ho.tight.mv fun k hk hl=>⟨(ho.bK hk).1,c.block k (hX k (ho.bK hk).1) fun e=>ho.eA hr kQ (by rw [←(show k=f.b from e)];exact hk)⟩
theorem acv {vs:Value} {b:List Nat} (hT:Ft w0 F0 w X F) (h:nc w G db mb l m z) (hG: ∀k,G k→F k) (hn:getM n l=some f) (src:Sl w X 1 vs (b.map U1)) (hl:f.bs.length+b.length≤2^40)
  (k: ∀w' X',Ft w0 F0 w' X' (fun k=>F k∨(X' k∧w.heap.size≤k))→(∃v',nc w' (fun k=>G k∨(X' k∧w.heap.size≤k)) db mb (dS n ⟨f.b,v',f.bs++b,f.safe⟩ l) (m.put n (f.bs++b) f.safe) z)→N undef w' X'):
  eV pg R X w true (e7 94 5 1 1 94 f.v vs) fun x w1 X1=>aB pg X1 w1 (aE (ptr f.b 0)) fun p=>ae pg X1 w1 (aS 325 0 0 1 p) fun q=>eU pg R X1 w1 true (st1 94 1 q x) N:=by
 have hX: ∀k,G k→X k:=fun k hk=>hT.bK k (hG k hk);have hr:=h.row _ (ka hn);have ho:=h.ow _ (ka hn);have hsf:=h.safe _ (ka hn);have du:f.v.ownBlock≠some f.b:=ho.eA hr kQ;refine Pb kQ hT.s.has (ho.mono hX) src (by intro r hr u hu;obtain⟨x,_,rfl⟩:=List.mem_map.1 hr;simp only [U1,bw] at hu;subst hu;rfl) (by simp;omega) (by simp;omega) fun v' w1 X1 c uf ef=>?_;have uY:a7 w1 X1 f.b [f.v,I f.safe] 325:=⟨c.sub _ (hX _ hr.1),by rw [c.block _ (hX _ hr.1) fun e=>du e];exact hr.2⟩
 with_reducible apply Ty
 have Sn:fieldInfo pg 325 0=some (0,1):=by kernel_rfl
 refine O8 uY.cells Sn rfl fun o' uI _=>?_;subst uI;have zH:=rr uf.one;refine By uY kQ (by simp) (by rw [zH];rfl) (by rw [zH];simp [uf.one]) c.has fun w' X' c' qp=>?_;rw [zH] at qp;have cc:ez (fun k=>k=f.b∨f.v.ownBlock=some k) X w X' w':=(c.mono fun k _ hk=>.inr hk).trans (c'.mono fun k _ hk=>.inl hk);have Uw:v'.ownBlock≠some f.b:=uf.eA uY kQ;have fP: ∀g,v'.ownBlock=some g→G g∨(X' g∧w.heap.size≤g):=fun g hg=>by
  rcases ef with e|⟨g',e,dV⟩
  ·exact .inl (ho.bK (e▸hg)).1
  ·rw [hg] at e;have:g=g':=iG e;subst this;exact .inr ⟨c'.sub _ (uf.bK hg).1,dV⟩
 have nW:Ow w' (fun k=>G k∨(X' k∧w.heap.size≤k)) 5 1 v' ((f.bs++b).map U1):=by
  rw [bC];exact uf.tight.mv fun k hk hl=>⟨fP k hk,c'.block k (uf.bK hk).1 fun e=>Uw (by rw [←(show k=f.b from e)];exact hk)⟩
 refine k w' X' (hT.fM cc (fun k hk=>?_) fun k hk=>hk) ⟨v',h.kF (F':=fun k=>G k∨(X' k∧w.heap.size≤k)) (hT.fx hG) cc hn (fun k hk=>hk) (fun k hk=>.inl hk) ⟨.inl hr.1,?_⟩ nW ef (by rw [au];have:f.safe≤f.bs.length:=hsf;omega)⟩
 ·rcases hk with rfl|hk
  ·exact hG _ hr.1
  ·exact hG _ (ho.bK hk).1
 ·exact qp.2
end
theorem Tk {w:World} {X F S:XS} {db:Nat} {m:DM} {n:ByteArray} {vb:Value} {b:List Nat} (h:Dk w F db m) (hF:FX F X w) (hb:Sl w S 1 vb (b.map U1)) (hS: ∀k,S k→X k∧ ¬F k) (C8:b.length≤2^30):
  Ct pg 150 #[ptr db 0,.string n,vb] w X F fun v wa w'=>v=I (m.append n b).2∧ ∃F',(∀k,F' k→F k∨made wa w' k)∧Dk w' F' db (m.append n b).1:=by
 intro w0 hk;obtain⟨mb,l,h0,hz⟩:=h.mv (hF.mv hk);have hT:=hF.ft hk;have mK:FX F (aR w0) w0:=hF.kp hk;replace hb:Sl w0 (fun k=>S k∧k<w0.heap.size) 1 vb (b.map U1):=hb.mv fun k af hl=>⟨⟨af,aG hl hk.size⟩,hk.block k (hS k af).1⟩;have gh:=h0.box.mv (Mv.sub hT.bK);have hs:=aj.init w0;have hg:=h0.get n;have hm:=h0.map.mv mr (Mv.sub hT.bK) (A':=nX) fun _ h=>h.elim;apply Ik;unfold yQ;repeat' first|refine aJ ?_;intros
 refine Ah hm (fun f hn=>?_) fun hn=>?_
 ·have oK:m.get n=some (f.bs,f.safe):=by rw [hg,hn];rfl
  have anf:=DM.agF oK;cases iv:m.dn
  ·rw [iv] at gh;repeat' first|refine aJ ?_;intros|refine dM ?_ ?_<;>intros
   ·refine hT.fin fun wa bk=>⟨?_,F,hT.gU bk fun _ h=>h,?_⟩
    ·simp only [DM.append,iv,oK,a8,if_false];rw [if_pos zQ];rfl
    ·simp only [DM.append,iv,oK,a8,if_false];rw [if_pos zQ];exact⟨mb,l,h0.mv (bk.fi hT.bK),hz⟩
   ·have Aw: ¬4194304-m.sz<b.length:=by omega
    refine hT.call (My h0 mK iv) kQ (fun _ h=>h) fun v wa w2 X2 hq hle fP cW hc=>?_;obtain⟨rfl,h2⟩:=hq;replace cW:Ft w0 F w2 X2 F:=cW.less fun k hk=>.inl hk;have qU:=(h2.row _ (ka hn)).mv (Mv.sub cW.bK);repeat' first|refine aJ ?_;intros
    refine acv cW h2 (fun _ h=>h) hn ((hb.mv (hc.fi fun k af=>⟨af.2,(hS k af.1).2⟩)).mono fun k af=>hc.sub k af.2) (show f.bs.length+b.length≤2^40 by omega) fun w3 X3 dE ⟨v',h3⟩=>?_;have Mc:=h3.box.mv (Mv.sub dE.bK);have htz:=m.Lc;repeat' first|refine aJ ?_;intros
    have JM:=DM.WJ (bs:=f.bs++b) (s':=f.safe) ((m.zo n).trans oK);have hlen:(f.bs++b).length=f.bs.length+b.length:=au;refine FA dE h3 (fun _ h=>h) (m.tick.put n (f.bs++b) f.safe) (m.tick.put n (f.bs++b) f.safe).sz (o:=1) zQ kQ zQ rfl (by rw [show(((m.tick.put n (f.bs++b) f.safe).sz:Nat):Int)=(m.sz:Int)+(b.length:Int)by omega];rfl) rfl h3.ar fun w4 X4 fm h4 c4=>?_;have Cp:=h4.box.mv (Mv.sub fm.bK);have fin: ∀wa,Kp X4 w4 wa→ ∃F',(∀k,F' k→F k∨made w0 wa k)∧Dk wa F' db (m.append n b).1:=fun wa bk=>⟨_,fm.gU bk fun _ h=>h,by
     simp only [DM.append,iv,oK,a8,if_false];rw [if_neg Aw];exact⟨mb,_,h4.mv (bk.fi fm.bK),by show(m.tick.put n (f.bs++b) f.safe).sz≤_;omega⟩⟩
    cases ht:m.tick.dn
    ·repeat' first|refine aJ ?_;intros
     refine fm.fin fun wa bk=>⟨?_,fin wa bk⟩;simp only [DM.append,iv,oK,a8,if_false];rw [if_neg Aw];simp [ht]
    ·repeat' first|refine aJ ?_;intros
     refine fm.fin fun wa bk=>⟨?_,fin wa bk⟩;simp only [DM.append,iv,oK,a8,if_false];rw [if_neg Aw];simp [ht]
  ·rw [iv] at gh;repeat' first|refine aJ ?_;intros
   refine hT.fin fun wa bk=>⟨?_,F,hT.gU bk fun _ h=>h,?_⟩
   ·simp [DM.append,iv]
   ·simp only [DM.append,iv,if_true];exact⟨mb,l,h0.mv (bk.fi hT.bK),hz⟩
 ·have oK:m.get n=none:=by rw [hg,hn];rfl
  cases iv:m.dn
  ·rw [iv] at gh;repeat' first|refine aJ ?_;intros
   refine hT.fin fun wa bk=>⟨?_,F,hT.gU bk fun _ h=>h,?_⟩
   ·simp [DM.append,iv,oK]
   ·simp only [DM.append,iv,oK,a8,if_false];exact⟨mb,l,h0.mv (bk.fi hT.bK),hz⟩
  ·rw [iv] at gh;repeat' first|refine aJ ?_;intros
   refine hT.fin fun wa bk=>⟨?_,F,hT.gU bk fun _ h=>h,?_⟩
   ·simp [DM.append,iv]
   ·simp only [DM.append,iv,if_true];exact⟨mb,l,h0.mv (bk.fi hT.bK),hz⟩
theorem WO {w:World} {X F:XS} {db bd bn:Nat} {m:DM} {n:ByteArray} (h:Dk w F db m) (hF:FX F X w) (hd:a7 w X bd [ptr db 0] 51) (hn:a7 w X bn [.string n] 9) (hg:(m.get n).isSome=true):
  Ct pg 211 #[ptr bd 0,ptr bn 0] w X F fun v wa w'=>v= .tuple #[]∧ ∃F',(∀k,F' k→F k∨made wa w' k)∧Dk w' F' db (DM.zB n m):=by
 intro w0 hk;obtain⟨mb,l,h0,hz⟩:=h.mv (hF.mv hk);have hT:=hF.ft hk;replace hd:=hd.mv hk.dD;replace hn:=hn.mv hk.dD;have gh:=h0.box.mv (Mv.sub hT.bK);have hs:=aj.init w0;have oK:=h0.get n;have hm:=h0.map.mv mr (Mv.sub hT.bK) (A':=nX) fun _ h=>h.elim;apply GZ;unfold ym;repeat' first|refine aJ ?_;intros
 refine Ah hm (fun f h1=>?_) fun h1=>?_
 ·repeat' first|refine aJ ?_;intros
  refine Ah hm (fun f' h2=>?_) fun h2=>?_
  ·rw [h1] at h2;cases h2;have hr:=(h0.row _ (ka h1)).mv (Mv.sub hT.bK);have ho:=(h0.ow _ (ka h1)).sl;have amk:m.get n=some (f.bs,f.safe):=by rw [oK,h1];rfl
   repeat' first|refine aJ ?_;intros
   refine aaV hT h0 (fun _ h=>h) h1 (s':=f.bs.length) zQ rfl (ba _) fun w1 X1 dU h3=>?_;refine dU.fin fun wa bk=>⟨rfl,F,dU.gU bk fun _ h=>h,?_⟩;have e:DM.zB n m=m.put n f.bs f.bs.length:=by unfold DM.zB;rw [amk]
   have fL:=m.WK n;rw [e] at fL⊢;exact⟨mb,_,by rw [fL];exact h3.mv (bk.fi dU.bK),by omega⟩
  ·rw [h1] at h2;cases h2
 ·rw [oK,h1] at hg;cases hg
theorem Yd {w:World} {X F:XS} {db:Nat} {m:DM} {n:ByteArray} (h:Dk w F db m) (hF:FX F X w):
  Ct pg 151 #[ptr db 0,.string n] w X F fun v wa w'=>v=I (m.sync n).2∧ ∃F',(∀k,F' k→F k∨made wa w' k)∧Dk w' F' db (m.sync n).1:=by
 intro w0 hk;replace h:=h.mv (hF.mv hk);have hT:=hF.ft hk;have mK:FX F (aR w0) w0:=hF.kp hk;clear hF;apply Lx;unfold A9;refine ta rfl hT.s.has fun bd w1 X1 nz ao qq=>?_;refine ta rfl ao.has fun bn w2 X2 hbn bU hrn=>?_;have zf:=ao.trans bU;have cW:=hT.since zf;have Q8:=qq.since bU;have h2:Dk w2 F db m:=h.mv (zf.fZ fun k af=>(mK k af).1);have hs:=aj.ct bU.has;repeat' first|refine aJ ?_;intros
 refine dp (aaU h2 (cW.fx fun _ h=>h)) kQ hs.has ?_;rintro v wa w3 X3 rfl hle fP ea;have dE:=cW.since ea;have h3:Dk w3 F db m:=h2.mv (ea.fZ cW.bK);have ang:=qq.lt;have aml:=ea.sub _ Q8.1;have amm:=ea.sub _ hrn.1;have Eu:=Q8.since ea;have Hf:=hrn.since ea;have e8:I (if(m.get n).isSome then 0 else 8)=I (((if(m.get n).isSome then 0 else 8:Nat)):Nat):=by split<;>rfl
 rw [e8];refine dE.call (KG (A:=fun k=>k=bd∨k=bn) (g:=DM.zB n) h3 (dE.fx fun _ h=>h) (fun k af=>?_) kQ ?_) kQ (fun _ h=>h) fun v mu w4 X4 hq qg lI fm EK=>?_
 ·rcases af with rfl|rfl
  ·exact⟨aml,Eu.lt,fun hf=>by have:=(mK _ hf).2;omega⟩
  ·exact⟨amm,Hf.lt,fun hf=>by have:=(mK _ hf).2;have:=ao.kp.size;omega⟩
 ·intro he w5 X5 B8 I6 hF5 h5;refine WO h5 hF5 ⟨I6 _ (.inl rfl),?_⟩ ⟨I6 _ (.inr rfl),?_⟩ ?_
  ·rw [(B8 bd (.inl rfl) (Eu.lt)).2];exact Eu.2
  ·rw [(B8 bn (.inr rfl) (Hf.lt)).2];exact Hf.2
  ·rw [m.zo];cases EC:(m.get n).isSome
   ·rw [EC] at he;cases he
   ·rfl
 ·obtain⟨rfl,F',DW,hD⟩:=hq
  skip
  refine fm.fin fun C7 bk=>⟨rfl,F',fm.gU bk DW,hD.mv (bk.fi fun k af=>fm.bK k (DW k af))⟩
theorem Q9 {w:World} {X F:XS} {db bd bn:Nat} {m:DM} {n:ByteArray} (h:Dk w F db m) (hF:FX F X w) (hd:a7 w X bd [ptr db 0] 51) (hn:a7 w X bn [.string n] 9) (hg:m.get n=none):
  Ct pg 187 #[ptr bd 0,ptr bn 0] w X F fun v wa w'=>v= .tuple #[]∧ ∃F',(∀k,F' k→F k∨made wa w' k)∧Dk w' F' db (m.put n [] 0):=by
 intro w0 hk;obtain⟨mb,l,h0,hz⟩:=h.mv (hF.mv hk);have hT:=hF.ft hk;have mK:FX F (aR w0) w0:=hF.kp hk;replace hd:=hd.mv hk.dD;replace hn:=hn.mv hk.dD;have gh:=h0.box.mv (Mv.sub hT.bK);have hs:=aj.init w0;have oK:=h0.get n;have hm:=h0.map.mv mr (Mv.sub hT.bK) (A':=nX) fun _ h=>h.elim;have hgn:getM n l=none:=by
  rw [hg] at oK;cases hq:getM n l with
  |none=>rfl
  |some f=>rw [hq] at oK;cases oK
 apply Ep;unfold vz;repeat' first|refine aJ ?_;intros|(with_reducible apply nY);(case hX=>exact hs.has);intro bx w X gh ao bJ;have bS:=hs.trans ao;replace hs:=aj.ct ao.has
 have oL:=hm.mv mr bS.mv (A':=nX) fun _ h=>h.elim;refine te (kt:=9) (et:=253) (a:=⟨bx,.slice none 0 0,[],0⟩) oL mr (show Mx _ _ (ptr bx 0) ⟨bx,.slice none 0 0,[],0⟩from rfl) (fun _ h=>h.elim) (Gx kQ) kQ bS.has fun w2 X2 c ir=>?_;have dU:=hT.since bS;have R3:bx≠mb:=(oL.eA bJ).symm;have cW:Ft w0 F w2 X2 (fun k=>F k∨k=bx):=(dU.more (F':=fun k=>F k∨k=bx) fun k af=>af.imp id fun e=>by subst e;exact⟨bJ.1,gh⟩).fM c (fun k af=>by subst af;exact .inl h0.map.x.1) fun k af=>.inl af;have AL:ez (· =mb) (aR w0) w0 X2 w2:=(ez.rL bS _).trans c;refine cW.fin fun wa bk=>⟨rfl,_,cW.gU bk fun _ h=>h,?_⟩;have fL:=DM.YX (bs:=[]) (s':=0) hg;have hL:=h0.new (F':=fun k=>F k∨k=bx) mK AL hgn (fun k af=>af) (fun k af=>.inl af) gh (ir.own.mv mr (fun k af hl=>⟨.inl (by subst af;exact h0.map.x.1),rfl⟩) fun _ h=>h.elim) ⟨.inr rfl,by rw [c.block _ bJ.1 R3];exact bJ.2⟩;have amn:(m.put n [] 0).sz=m.sz:=by simpa using fL
 rw [←amn] at hL;exact⟨mb,_,hL.mv (bk.fi cW.bK),by omega⟩
def DM.zp (m:DM) (n:ByteArray):Nat:=if¬xj n then 10 else if(m.get n).isSome then 9 else if 64≤m.fs.length then 3 else 0
theorem Tl {w:World} {X F:XS} {db:Nat} {m:DM} {n:ByteArray} (h:Dk w F db m) (hF:FX F X w):
  Ct pg 130 #[ptr db 0,.string n] w X F fun v wa w'=>v=I (m.create n).2∧ ∃F',(∀k,F' k→F k∨made wa w' k)∧Dk w' F' db (m.create n).1:=by
 intro w0 hk;replace h:=h.mv (hF.mv hk);have hT:=hF.ft hk;have mK:FX F (aR w0) w0:=hF.kp hk;clear hF;obtain⟨mb,l,h0,hz⟩:=id h;apply Ih;unfold yN;refine ta rfl hT.s.has fun bd w1 X1 nz ao qq=>?_;refine ta rfl ao.has fun bn w2 X2 hbn bU hrn=>?_;have zf:=ao.trans bU;have hs:=aj.ct bU.has;have Q8:=qq.since bU;have hX:=fun k af=>zf.sub k (hT.bK k af);have gh:=(h0.box.mv (Mv.sub hT.bK)).since zf;have hm:=(h0.map.mv mr (Mv.sub hT.bK) (A':=nX) fun _ h=>h.elim).mv mr zf.mv (A':=nX) fun _ h=>h.elim;have oK:=h0.get n;have hlen:=h0.len;have key: ∀(w3:World) (X3:XS) (e:Nat),aj X2 w2 X3 w3→m.zp n=e→eC pg (xt F w0 fun v w'=>v=I (m.create n).2∧ ∃F',(∀k,F' k→F k∨made w0 w' k)∧Dk w' F' db (m.create n).1) X3 w3 true 186 #[ptr db 0,I e,.func (.func 187) #[] #[ptr bd 0,ptr bn 0]] fun x w4 X4=>
   fin (xt F w0 fun v w'=>v=I (m.create n).2∧ ∃F',(∀k,F' k→F k∨made w0 w' k)∧Dk w' F' db (m.create n).1) X4 w4 x:=by
  intro w3 X3 e ea he;have aiZ:=zf.trans ea;have dE:=hT.since aiZ;have h3:Dk w3 F db m:=h.mv (aiZ.fZ fun k af=>(mK k af).1);have Eu:=Q8.since ea;have Hf:=hrn.since ea;have em:m.create n=m.write e fun m=>m.put n [] 0:=by rw [←he];rfl
  rw [em];refine dE.call (KG (A:=fun k=>k=bd∨k=bn) (g:=fun m=>m.put n [] 0) h3 (dE.fx fun _ h=>h) (fun k af=>?_) kQ ?_) kQ (fun _ h=>h) fun v mu w4 X4 hq qg lI fm EK=>?_
  ·rcases af with rfl|rfl
   ·exact⟨Eu.1,Eu.lt,fun hf=>by have:=(mK _ hf).2;omega⟩
   ·exact⟨Hf.1,Hf.lt,fun hf=>by have:=(mK _ hf).2;have:=ao.kp.size;omega⟩
  ·intro yG w5 X5 B8 I6 hF5 h5;refine Q9 h5 hF5 ⟨I6 _ (.inl rfl),?_⟩ ⟨I6 _ (.inr rfl),?_⟩ ?_
   ·rw [(B8 bd (.inl rfl) (Eu.lt)).2];exact Eu.2
   ·rw [(B8 bn (.inr rfl) (Hf.lt)).2];exact Hf.2
   ·rw [m.zo];rw [yG] at he;unfold DM.zp at he;cases EC:m.get n with
    |none=>rfl
    |some x=>
     rw [EC] at he;simp at he;exfalso;split at he<;>omega
  ·obtain⟨rfl,F',DW,hD⟩:=hq;exact fm.fin fun C7 bk=>⟨rfl,F',fm.gU bk DW,hD.mv (bk.fi fun k af=>fm.bK k (DW k af))⟩
 refine mm (fun k=> ∀(e:Nat) (w3:World) (X3:XS),aj X2 w2 X3 w3→m.zp n=e→k (I e) w3 X3) ?_ ?_
 ·intro e w3 X3 ea he;have Eu:=Q8.since ea;repeat' first|refine aJ ?_;intros
  exact key w3 X3 e ea he
 ·intro K hK;repeat' first|refine aJ ?_;intros|((with_reducible refine dJ (Yc _) ?_ hs.has ?_ ?_);(· kernel_rfl);all_goals (intro _ w X ao;replace hs:=hs.trans ao))
  ·have Hf:=hrn.since hs;have Eu:=Q8.since hs;have anh:=gh.since hs;have kN:=hm.mv mr hs.mv (A':=nX) fun _ h=>h.elim
   skip
   refine Ah kN (fun f hn=>?_) fun hn=>?_
   ·repeat' first|refine aJ ?_;intros
    exact hK 9 _ _ hs (by simp_all [DM.zp])
   ·repeat' first|refine aJ ?_;intros|refine dM ?_ ?_<;>intros|(refine aiY kN (kt:=9) (et:=253) kQ ?_)
    ·exact hK 3 _ _ hs (by simp only [DM.zp,oK,hn];simp_all<;>omega)
    ·exact hK 0 _ _ hs (by simp only [DM.zp,oK,hn];simp_all<;>omega)
  ·exact hK 10 _ _ hs (by simp_all [DM.zp])
def xr (a b:Int):Int:=IntKind.u32.wrap (bT IntKind.u32.bits a^^^bT IntKind.u32.bits b).toNat
def YY (a b:Int):Int:=IntKind.u8.wrap (bT IntKind.u8.bits a^^^bT IntKind.u8.bits b).toNat
def an (a b:Int):Int:=IntKind.u32.wrap (bT IntKind.u32.bits a&&& bT IntKind.u32.bits b).toNat
def sr (a n:Int):Int:=a.fdiv (2^min n.toNat IntKind.u32.bits)
def ng (a:Int):Int:=IntKind.u32.wrap (-a)
def nt (a:Int):Int:=xr IntKind.u32.max a
def stp (c:Int):Int:=xr (sr c 1) (an 2197175160 (ng (an c 1)))
def it:Nat→Int→Int
 |0,c=>c
 |n+1,c=>stp (it n c)
def Bg (i:Int):Int:=it 8 (IntKind.u32.wrap i)
def aaW (l:List Nat) (c:Int):Int:=l.foldl (fun (c:Int) (x:Nat)=>it 8 (xr c (IntKind.u32.wrap x))) c
def WQ (l:List Nat) (c:Int):Int:=l.foldl (fun (c:Int) (x:Nat)=>xr (sr c 8) (Bg (YY (IntKind.u8.wrap c) x))) c
def NP (l:List Nat):Int:=nt (if l.length<64 then aaW l 4294967295 else WQ l 4294967295)
def crc (l:List Nat):Nat:=(NP l).toNat
def yX (n:Nat):List Nat:=[n % 256,n/256 % 256,n/65536 % 256,n/16777216 % 256]
def kr (p:List Nat):List Nat:=yX p.length++yX (crc (yX p.length))++p++yX (crc p)
theorem wrap32 (n:Int):IntKind.u32.wrap n=n % 4294967296:=by simp [oC,mc,jb]
theorem aeW (a b:Int):0≤xr a b∧xr a b<4294967296:=by unfold xr;rw [wrap32];omega
theorem acw (a b:Int):0≤YY a b∧YY a b<256:=by unfold YY;rw [K1];omega
theorem aaX (l:List Nat):0≤NP l∧NP l<4294967296:=aeW _ _
theorem acx (l:List Nat):((crc l:Nat):Int)=NP l:=ux (aaX l).1
theorem agG (n:Nat):(yX n).length=4:=rfl
theorem PK (p:List Nat):(kr p).length=p.length+12:=by simp only [kr,au,agG];omega
section
variable {P : Program} {R : Ending → World → Prop} {X : XS} {w : World} {m : Bool} {N : Value → Prop} {t : TypeId} {a b : Int}
theorem aaY (h:N (.int .u32 (xr a b))):ae P X w (binOp .xor t (.int .u32 a) (.int .u32 b)) N:=Qk h
theorem akk (h:N (.int .u8 (YY a b))):ae P X w (binOp .xor t (.int .u8 a) (.int .u8 b)) N:=Qk h
theorem ai0 (h:N (.int .u32 (an a b))):ae P X w (binOp .and t (.int .u32 a) (.int .u32 b)) N:=YO h
theorem aeX (hb: ¬b<0) (h:N (.int .u32 (sr a b))):ae P X w (binOp .shr t (.int .u32 a) (.int .u64 b)) N:=E9 hb h
theorem ai1 (h:N (.int .u32 (ng a))):ae P X w (aY .neg (.int .u32 a)) N:=cf (fun wa=>by simp [aY,ng,Op.intArith]) h
theorem ai2 (h:N (.int .u32 (nt a))):ae P X w (aY .xor (.int .u32 a)) N:=cf (fun wa=>by simp [aY,nt,xr,Op.intBits,jb]) h
theorem YZ {k:IntKind} {g o i:Nat} {z:Int} (hz:z=i) (hi:i<P.arrayLen t) (ht:P.underlying t=some (.array (P.arrayLen t) (P.elem t))) (hs:(P.info? (P.elem t)).map (·.size)=some 1) (h:N (ptr g (o+i))):
  ae P X w (Instr.indexAt t (ptr g o) (.int k z)) N:=by
 subst hz;refine cf (v:=ptr g (o+i)) (fun wa=>?_) h
 show(Instr.indexAt t (.pointer (some ⟨g,o,none⟩)) _).run P wa=_
 rw [run_indexAt_array (h:=ht),if_pos zQ];cases hq:P.info? (P.elem t)with
 |none=>simp [hq] at hs
 |some inf=>
  have:inf.size=1:=by simpa [hq] using hs
  simp [sizeOf,typeInfo,hq,this,y8]
end
abbrev U4 (x:Int):Value:=.int .u32 x
theorem Tm {w:World} {X:XS} :Ct pg 256 #[] w X nX fun v wa w'=>v= .agg ((dI 256).map fun i:Nat=>U4 (Bg (i:Int))).toArray:=by
 intro w0 hk;apply QQ;unfold Fm;have hs:=aj.init w0;have hT:Ft w0 nX w0 (aR w0) nX:=Ft.init fun _ h=>h.elim;refine Qo (l:=fz 256 (U4 0)) hs.has kQ fun b w1 X1 hb ao hr=>?_;have dU:Ft w0 nX w1 X1 (fun k=>k=b):=(hT.since ao).more fun k af=>by subst af;exact .inr ⟨hr.1,hb⟩
 refine B2 (fun n a _ _ w X=> ∃i:Nat,a=I (i:Nat)∧n=256-i∧i≤256∧Ft w0 nX w X (fun k=>k=b)∧a7 w X b (((dI i).map fun i:Nat=>U4 (Bg (i:Int)))++fz (256-i) (U4 0)) 385) 256 ⟨0,rfl,rfl,aF _,dU,by simpa using hr⟩ ?_;rintro n a _ _ w X ⟨i,rfl,rfl,hi,cW,qU⟩;repeat' first|refine aJ ?_;intros|refine dM ?_ ?_<;>intros
 ·refine fN (fun n a c w' X'=> ∃j:Nat,a=I (j:Nat)∧c=U4 (it j (IntKind.u32.wrap i))∧n=8-j∧j≤8∧w'=w∧X'=X) 8 ⟨0,rfl,rfl,rfl,aF _,rfl,rfl⟩ ?_;rintro n a c _ _ ⟨j,rfl,rfl,rfl,hj,rfl,rfl⟩;repeat' first|refine aJ ?_;intros|refine dM ?_ ?_<;>intros|(with_reducible apply aeX);omega|(with_reducible apply ai0)|(with_reducible apply ai1)|(with_reducible apply aaY)
  ·exact fJ (8-(j+1)) zQ ⟨j+1,by simp,rfl,rfl,by omega,rfl,rfl⟩
  ·have hj8:j=8:=by omega
   subst hj8;have OZ:pg.arrayLen 385=256:=by kernel_rfl
   refine YZ rfl (by rw [OZ];omega) kQ kQ ?_;rw [eZ];refine By qU kQ (by simp;omega) rfl rfl cW.s.has fun w3 X3 c sT=>?_;have dE:Ft w0 nX w3 X3 (fun k=>k=b):=cW.fM c (fun k af=>af) fun k af=>.inl af;repeat' first|refine aJ ?_;intros
   refine B3 (256-(i+1)) zQ ⟨i+1,by simp,rfl,by omega,dE,?_⟩;have e:dg (((dI i).map fun i:Nat=>U4 (Bg (i:Int)))++fz (256-i) (U4 0)) i (aa (U4 (it 8 (IntKind.u32.wrap (i:Int))))).toList=((dI (i+1)).map fun i:Nat=>U4 (Bg (i:Int)))++fz (256-(i+1)) (U4 0):=by
    have hl:((dI i).map fun i:Nat=>U4 (Bg (i:Int))).length=i:=by simp
    rw [show 256-i=(256-(i+1))+1 by omega,List.replicate_succ];unfold dg;rw [List.take_left' hl,List.range_succ,bC,List.map_singleton,aI,aI];have hd: ∀r:List Value,(((dI i).map fun i:Nat=>U4 (Bg (i:Int)))++U4 0::r).drop (i+1)=r:=fun r=>by
     rw [←List.drop_drop,List.drop_left' hl];rfl
    have h1:(aa (U4 (it 8 (IntKind.u32.wrap (i:Int))))).toList=[U4 (Bg (i:Int))]:=rfl;rw [h1,bu,hd]
   rw [←e];exact sT
 ·have hi6:i=256:=by omega
  subst hi6;have sT:a7 w X b ((dI 256).map fun i:Nat=>U4 (Bg (i:Int))) 385:=by simpa using qU
  have hl:((dI 256).map fun i:Nat=>U4 (Bg (i:Int))).length=256:=by simp
  generalize hL:((dI 256).map fun i:Nat=>U4 (Bg (i:Int)))=L at sT hl⊢;have tE:L.all aV.one=true:=by rw [←hL];simp;intros;rfl
  refine ZJ sT.cells (Mv.refl _ _) kQ hl ?_;refine ach ?_;refine dk.2 ⟨by simpa [aa] using hl,dk.2 ⟨by simpa [aa] using tE,?_⟩⟩;refine acg ?_;refine dk.2 ⟨rfl,?_⟩;rw [List.drop_zero,List.take_of_length_le zQ];exact cW.fin fun wa bk=>rfl
theorem Ss {β:Type} (f:β→Nat→β) (l:List Nat) {i x:Nat} (c:β) (h:l[i]? =some x):(l.take (i+1)).foldl f c=f ((l.take i).foldl f c) x:=by
 rw [List.take_add_one,h];simp
theorem Mz {w:World} {X:XS} {vb:Value} {l:List Nat} (h:Sl w X 1 vb (l.map U1)):Ct pg 184 #[vb] w X nX fun v wa w'=>v=U4 (NP l):=by
 intro w0 hk;replace h:=h.mv hk.dD;have hlen:=h.gy;apply V9;unfold J9;have hs:=aj.init w0;repeat' first|refine aJ ?_;intros|refine dM ?_ ?_<;>intros
 ·have h64:l.length<64:=by omega
  refine B2 (fun n a _ c w X=> ∃i:Nat,a=I (i:Nat)∧c=U4 (aaW (l.take i) 4294967295)∧n=l.length-i∧i≤l.length∧aj (aR w0) w0 X w) l.length ⟨0,rfl,rfl,rfl,aF _,hs⟩ ?_;clear hs;rintro n a _ _ w X ⟨i,rfl,rfl,rfl,hi,hs⟩;rcases ew l i with⟨dy,x,hx,hd⟩|⟨dV,hd⟩
  ·repeat' first|refine bD ?_;intros|(with_reducible apply aaY)
   refine fN (fun n a c w' X'=> ∃j:Nat,a=I (j:Nat)∧c=U4 (it j (xr (aaW (l.take i) 4294967295) (IntKind.u32.wrap x)))∧n=8-j∧j≤8∧w'=w∧X'=X) 8 ⟨0,rfl,rfl,rfl,aF _,rfl,rfl⟩ ?_;rintro n a c _ _ ⟨j,rfl,rfl,rfl,hj,rfl,rfl⟩;repeat' first|refine aJ ?_;intros|refine dM ?_ ?_<;>intros|(with_reducible apply aeX);omega|(with_reducible apply ai0)|(with_reducible apply ai1)|(with_reducible apply aaY)
   ·exact fJ (8-(j+1)) zQ ⟨j+1,by simp,rfl,rfl,by omega,rfl,rfl⟩
   ·have hj8:j=8:=by omega
    subst hj8;refine B3 (l.length-(i+1)) zQ ⟨i+1,by simp,?_,rfl,by omega,hs⟩;unfold aaW;rw [Ss _ l _ hx]
  ·have AY:i=l.length:=by omega
   subst AY;repeat' first|refine bD ?_;intros|(with_reducible apply ai2)|((first|(with_reducible refine av hs ?_)|(with_reducible refine av (bS.trans hs) ?_));intro wa hk;(rw [NP,if_pos h64,yt]))
 ·have h64: ¬l.length<64:=by omega
  refine dp Tm kQ hs.has ?_;rintro _ wa w1 X1 rfl hle fP ao;replace hs:=hs.trans ao;refine Qo (l:=fz 256 (U4 0)) hs.has kQ fun b w2 X2 hb bU hr=>?_;have zf:=hs.trans bU;have hT:Ft w0 nX w2 X2 (fun k=>k=b):=((Ft.init (w:=w0) (F0:=nX) fun _ h=>h.elim).since zf).more fun k af=>by subst af;exact .inr ⟨hr.1,by have:=hs.kp.size;omega⟩
  have hl:((dI 256).map fun i:Nat=>U4 (Bg (i:Int))).length=256:=by simp
  have Nq: ∀i:Nat,i<256→((dI 256).map fun i:Nat=>U4 (Bg (i:Int)))[i]? =some (U4 (Bg (i:Int))):=fun i hi=>by simp [hi]
  have tE:((dI 256).map fun i:Nat=>U4 (Bg (i:Int))).all aV.one=true:=by simp;intros;rfl
  generalize ((dI 256).map fun i:Nat=>U4 (Bg (i:Int)))=L at hl Nq tE⊢;refine By hr kQ (by simp) (by simpa [aa] using hl) (by simpa [aa] using tE) hT.s.has fun w3 X3 c sT=>?_;have dE:Ft w0 nX w3 X3 (fun k=>k=b):=hT.fM c (fun k af=>af) fun k af=>.inl af;have e:dg (fz 256 (U4 0)) 0 (aa (.agg L.toArray)).toList=L:=by
   unfold dg;simp [aa,hl]
  rw [e] at sT;have ea:aj (aR w0) w0 X3 w3:=⟨⟨dE.s.kp.os,dE.s.kp.tape,dE.s.kp.output,dE.s.kp.size,fun k af=>dE.s.kp.block k ⟨af,fun h=>h.elim⟩⟩,fun k af=>dE.s.sub k ⟨af,fun h=>h.elim⟩,dE.s.has⟩;clear hs zf;have hs:=ea;repeat' first|refine aJ ?_;intros
  refine fN (fun n a c w X=> ∃i:Nat,a=I (i:Nat)∧c=U4 (WQ (l.take i) 4294967295)∧n=l.length-i∧i≤l.length∧w=w3∧X=X3) l.length ⟨0,rfl,rfl,rfl,aF _,rfl,rfl⟩ ?_;rintro n a _ _ _ ⟨i,rfl,rfl,rfl,hi,rfl,rfl⟩;rcases ew l i with⟨dy,x,hx,hd⟩|⟨dV,hd⟩
  ·repeat' first|refine bD ?_;intros|(with_reducible apply aeX);omega|(with_reducible apply akk)
   have hrg:=acw (IntKind.u8.wrap (WQ (l.take i) 4294967295)) x;obtain⟨q,hq⟩: ∃q:Nat,YY (IntKind.u8.wrap (WQ (l.take i) 4294967295)) x=(q:Int):=⟨_,(ux hrg.1).symm⟩;have OZ:pg.arrayLen 385=256:=by kernel_rfl
   refine YZ hq (by rw [OZ];omega) kQ kQ ?_;rw [eZ];have hcq:=sT.cells.Ts (Nq q zQ);rw [eZ] at hcq;repeat' first|refine aJ ?_;intros|(with_reducible apply aaY)
   refine fJ (l.length-(i+1)) zQ ⟨i+1,by simp,?_,rfl,by omega,rfl,rfl⟩;unfold WQ;rw [Ss _ l _ hx,←hq];rfl
  ·have AY:i=l.length:=by omega
   subst AY;repeat' first|refine bD ?_;intros|(with_reducible apply ai2)|((first|(with_reducible refine av hs ?_)|(with_reducible refine av (bS.trans hs) ?_));intro wa hk;(rw [NP,if_neg h64,yt]))
theorem aaZ {P:Program} {X:XS} {w:World} {N:Value→Prop} {t:TypeId} {u:Nat} (k:Nat) (hk:k≤32) (h:N (.int .u32 ((u/2^k:Nat):Int))):ae P X w (binOp .shr t (.int .u32 (u:Int)) (.int .u64 (k:Int))) N:=by
 refine E9 zQ ?_;have e:((u:Int)).fdiv (2^min ((k:Int)).toNat IntKind.u32.bits)=((u/2^k:Nat):Int):=by
  rw [show min ((k:Int)).toNat IntKind.u32.bits=k by simp [mc];omega];rw [Int.fdiv_eq_ediv_of_nonneg _ (by exact_mod_cast aF _)]
  norm_cast
 rw [e];exact h
theorem akl (a b c d:Int):Instr.fill (fun i=>some (i*1,1)) ((Array.range (4*1)).map ((aA .u8 0).cells[· % (aA .u8 0).cells.size]!)) [(0,.int .u8 a),(1,.int .u8 b),(2,.int .u8 c),(3,.int .u8 d)]=some #[.int .u8 a,.int .u8 b,.int .u8 c,.int .u8 d]:=by kernel_rfl
theorem Ev {w:World} {X F:XS} {v:Value} {bs:List Nat} {n:Nat} (h:Ow w F 5 1 v (bs.map U1)) (hF:FX F X w) (hl:bs.length≤2^40):
  Ct pg 209 #[v,U4 n] w X F fun r wa w'=> ∃F',(∀k,F' k→F k∨made wa w' k)∧Ow w' F' 5 1 r ((bs++yX n).map U1):=by
 intro w0 hk;replace h:=h.mv (hF.mv hk);have hT:=hF.ft hk;apply Wc;unfold Ke;have hs:=aj.init w0;refine PD kQ kQ ?_;refine aaZ 8 zQ ?_;refine PD kQ kQ ?_;refine aaZ 16 zQ ?_;refine PD kQ kQ ?_;refine aaZ 24 zQ ?_;refine PD kQ kQ ?_;refine Tx (bytes:=1) (rows:=(yX n).map U1) #[.int .u8 (n % 256:Nat),.int .u8 (n/256 % 256:Nat),.int .u8 (n/65536 % 256:Nat),.int .u8 (n/16777216 % 256:Nat)] (.int .u8 0) hT.s.has kQ kQ (by decide) (by decide) (akl _ _ _ _) (by simp) rfl rfl fun s w1 X1 ao ho=>?_;have dU:=hT.since ao;refine Pb kQ ao.has ((h.mv (ao.fZ hT.bK)).mono dU.bK) ho.sl (by intro r hr u hu;obtain⟨x,_,rfl⟩:=List.mem_map.1 hr;simp only [U1,bw] at hu;subst hu;rfl) (by simp [yX];omega) (by simp [yX];omega) fun v' w2 X2 c nW ef=>?_;have Yz: ∀g,v'.ownBlock=some g→F g∨(X2 g∧w1.heap.size≤g):=fun g hg=>by
  rcases ef with e|⟨g',e,dV⟩
  ·exact .inl (h.bK (e▸hg)).1
  ·rw [hg] at e;have:g=g':=iG e;subst this;exact .inr ⟨(nW.bK hg).1,dV⟩
 have cW:Ft w0 F w2 X2 (fun k=>F k∨(X2 k∧w1.heap.size≤k)):=dU.fM c (fun k af=>(h.bK af).1) fun k af=>af;refine cW.fin fun wa bk=>⟨_,cW.gU bk fun _ h=>h,?_⟩;rw [bC];exact nW.tight.mv fun k af IA=>⟨Yz k af,bk.block k (nW.bK af).1⟩
theorem Ft.aeY {w0 w' wa:World} {X' F F':XS} {e k:Nat} {v:Value} {rows:List (List Value)} (h:Ft w0 nX w' X' (fun k=>F k∨made wa w' k)) (ho:Ow w' F' e k v rows) (DW: ∀k,F' k→F k∨made wa w' k):Ow w' (DH w0 X') e k v rows:=
 ho.mono fun k hk=>⟨h.bK k (DW k hk),(h.v k (DW k hk)).elim (fun h=>h.elim) id⟩
theorem Tn {w:World} {X:XS} {vp:Value} {p:List Nat} (h:Sl w X 1 vp (p.map U1)):Ct pg 149 #[vp] w X nX fun v wa w'=>
  if 262144<p.length then v= .tuple #[.slice none 0 0,I 2] else∃vb,v= .tuple #[vb,I 0]∧Ow w' (made wa w') 5 1 vb ((kr p).map U1):=by
 intro w0 hk;replace h:=h.mv hk.dD;have hlen:=h.gy;apply QJ;unfold Fg;have hs:=aj.init w0;repeat' first|refine aJ ?_;intros|refine dM ?_ ?_<;>intros|((first|(with_reducible refine av hs ?_)|(with_reducible refine av (bS.trans hs) ?_));intro wa hk;(dsimp only;rw [if_pos zQ]))
 have hn: ¬262144<p.length:=by omega
 refine acn (e:=5) (k:=1) (c:=p.length+12) (bytes:=1) hs.has kQ (by simp) zQ zQ zQ fun v0 w1 X1 ao ho=>?_;have hT:Ft w0 nX w1 X1 (DH w0 X1):=((Ft.init (w:=w0) (F0:=nX) fun _ h=>h.elim).since ao).Qp;have hO:Ow w1 (DH w0 X1) 5 1 v0 (([]:List Nat).map U1):=(ho.ow.tight).mono fun k af=>⟨(ho.ow.bK af).1,(ho.ge af).1⟩;have I8:IntKind.u32.wrap (p.length:Int)=(p.length:Nat):=by rw [wrap32];omega
 repeat' first|refine aJ ?_;intros
 rw [I8];refine hT.call (Ev hO (hT.fx fun _ h=>h) (by simp)) kQ (fun _ h=>h) fun v1 zF w2 X2 hq hle fP cW hc=>?_;obtain⟨F2,Yz,hO2⟩:=hq;have hO2:=Ft.aeY cW hO2 Yz;replace cW:=cW.Qp;rw [List.nil_append] at hO2;refine dp (Mz (hO2.sl.mono cW.bK)) kQ cW.s.has ?_;rintro _ uQ w3 X3 rfl nZ mz ea;have hO3:Ow w3 (DH w0 X3) 5 1 v1 ((yX p.length).map U1):=(hO2.mv (ea.fZ cW.bK)).mono fun k af=>⟨ea.sub k af.1,af.2⟩;replace cW:=(cW.since ea).Qp;rw [←acx];refine cW.call (Ev hO3 (cW.fx fun _ h=>h) (by simp [yX])) kQ (fun _ h=>h) fun v4 mu w4 X4 hq hle fP fm hc=>?_;obtain⟨F4,hF4,hO4⟩:=hq;have hO4:=Ft.aeY fm hO4 hF4;replace fm:=fm.Qp;have hp4:Sl w4 X4 1 vp (p.map U1):=h.mv fm.kW.mv;refine aj8 fm hO4 kQ hp4 (by intro r hr u hu;obtain⟨x,_,rfl⟩:=List.mem_map.1 hr;simp only [U1,bw] at hu;subst hu;rfl) (by simp [yX];omega) (by simp [yX];omega) fun v5 w5 X5 ff hO5 rU _=>?_;refine dp (Mz (h.mv ff.kW.mv)) kQ ff.s.has ?_;rintro _ Yi w6 X6 rfl PO FK zL;have hO6:Ow w6 (DH w0 X6) 5 1 v5 ((yX p.length++yX (crc (yX p.length))++p).map U1):=by
  rw [bC];exact(hO5.mv (zL.fZ ff.bK)).mono fun k af=>⟨zL.sub k af.1,af.2⟩
 replace ff:=(ff.since zL).Qp;rw [←acx];refine ff.call (Ev hO6 (ff.fx fun _ h=>h) (by simp [yX];omega)) kQ (fun _ h=>h) fun v7 ER w7 X7 hq hle fP kC hc=>?_;obtain⟨F7,hF7,hO7⟩:=hq;have hO7:=Ft.aeY kC hO7 hF7;have ov:=hO7.one
 skip
 refine kC.kW|>fun xz=>av xz fun wa bk=>?_;dsimp only;rw [if_neg hn];refine⟨v7,rfl,?_⟩;exact hO7.mv fun k af hl=>⟨⟨af.2,aG hl bk.size⟩,bk.block k af.1⟩
def uH:Nat→Nat→List Nat
 |0,_=>[]
 |k+1,n=>uH k (n/10)++[48+n % 10]
theorem zq: ∀k n,(uH k n).length=k
 |0,_=>rfl
 |k+1,n=>by rw [uH,au,zq];rfl
def iR (dir:ByteArray) (n:Nat):ByteArray:=dir++⟨#[46]⟩++Eh (uH 8 n)
theorem N8 (dir:ByteArray) (n:Nat):(iR dir n).size=dir.size+9:=by
 unfold iR;rw [nw,nw,Sh,zq];rfl
section
variable {P : Program} {X : XS} {w : World} {N : Value → Prop} {t : TypeId}
theorem ai3 {a b:Nat} (hb:b≠0) (h:N (I ((a % b:Nat):Int))):ae P X w (binOp .rem t (I (a:Int)) (I (b:Int))) N:=by
 refine cf (fun wa=>?_) h;simp [binOp,Op.intDiv,hb];exact(Int.ofNat_tmod a b).symm
theorem ai4 {a b:Nat} (hb:b≠0) (ha:a<2^63) (h:N (I ((a/b:Nat):Int))):ae P X w (binOp .quo t (I (a:Int)) (I (b:Int))) N:=by
 refine cf (fun wa=>?_) h;have h1:(a:Int).tdiv b=((a/b:Nat):Int):=(Int.ofNat_tdiv a b).symm;have h2:a/b≤a:=Nat.div_le_self a b;have h3:IntKind.i64.wrap ((a/b:Nat):Int)=((a/b:Nat):Int):=by
  generalize a/b=q at h2;simp [oC,mc,jb];omega
 have eY: ¬(b:Int)=0:=by omega
 simp only [binOp,Op.intDiv,eY,if_false,h1,h3];simp
end
theorem akm (a:Int):Instr.fill (fun i=>some (i*1,1)) ((Array.range (8*1)).map ((aA .u8 0).cells[· % (aA .u8 0).cells.size]!)) [(0,.int .u8 a),(1,.int .u8 a),(2,.int .u8 a),(3,.int .u8 a),(4,.int .u8 a),(5,.int .u8 a),(6,.int .u8 a),(7,.int .u8 a)]=some #[.int .u8 a,.int .u8 a,.int .u8 a,.int .u8 a,.int .u8 a,.int .u8 a,.int .u8 a,.int .u8 a]:=by kernel_rfl
abbrev U8 (x:Nat):Value:=.int .u8 x
theorem BG {w:World} {X:XS} {dir:ByteArray} {n:Nat} (hd:dir.size≤2^40) (hn:n<2^63):Ct pg 126 #[.string dir,I n] w X nX fun v wa w'=>v= .string (iR dir n):=by
 intro w0 hk;apply XN;unfold Mq;have hs:=aj.init w0;have hT:Ft w0 nX w0 (aR w0) nX:=Ft.init fun _ h=>h.elim;refine Tx (e:=5) (k:=1) (bytes:=1) (rows:=(fz 8 48).map U1) #[.int .u8 48,.int .u8 48,.int .u8 48,.int .u8 48,.int .u8 48,.int .u8 48,.int .u8 48,.int .u8 48] (.int .u8 0) hT.s.has kQ kQ (by decide) (by decide) (akm 48) (by simp) rfl rfl fun s w1 X1 ao ho=>?_;rcases ho.row with⟨_,he⟩|⟨g,cap,cs,rfl,fp,bJ,xv,lD,AN,xw⟩
 ·cases he
 have h8:cs.take 8=(fz 8 48).map U8:=xw;have Yr:8≤cs.length:=by have:((fz 8 48).map U1).length≤cap:=xv;simp at this;omega
 refine agC bJ kQ kQ ao.has fun w2 X2 hc hF=>?_;have dU:Ft w0 nX w1 X1 (fun k=>k=g):=(hT.since ao).more fun k af=>by subst af;exact .inr ⟨bJ.1,fp⟩
 have cW:Ft w0 nX w2 X2 (fun k=>k=g):=dU.fM hc (fun k af=>af) fun k af=>.inl af;refine fN (fun n' a b w X=> ∃(k m:Nat) (tail:List Nat) (cs:List Value),a=I ((k:Int)-1)∧b=I (m:Int)∧n'=k∧k≤8∧m<2^63∧uH 8 n=uH k m++tail∧Gz w X g cs 5∧cs.take 8=(fz k 48++tail).map U8∧8≤cs.length∧Ft w0 nX w X (fun k=>k=g)) 8 ⟨8,n,[],cs,rfl,rfl,rfl,ba _,hn,by simp,hF,by simpa using h8,Yr,cW⟩ ?_;clear h8 Yr hF cW hc;rintro k a b w X ⟨_,m,tail,cs,rfl,rfl,rfl,hk8,hm,Pc,hF,KY,Yr,cW⟩;have dy:(uH k m).length+tail.length=8:=by have:=congrArg List.length Pc;rw [zq,au] at this;exact this.symm
 rw [zq] at dy;cases k with
 |succ k=>
  have yH:cs[k]? =some (U8 48):=by
   have h1:(cs.take 8)[k]? =cs[k]? :=by rw [List.getElem?_take,if_pos zQ]
   rw [←h1,KY,bC,List.getElem?_append_left (by simp)];simp
  have AL:=hF.cells.Ts yH;rw [eZ] at AL;have hz:((k+1:Nat):Int)-1=(k:Nat):=by omega
  have h49:IntKind.u8.wrap (((48:Nat):Int)+IntKind.u8.wrap ((m % 10:Nat):Int))=((48+m % 10:Nat):Int):=by rw [K1,K1];omega
  rw [hz];repeat' first|refine bD ?_;intros
  refine afv rfl (by simp;omega) kQ kQ ?_;rw [Nat.mul_one];refine Zs AL (Mv.refl _ _) kQ rfl ?_;refine ai3 (a:=m) (b:=10) zQ ?_;refine aaz kQ kQ ?_;refine lA ?_;rw [h49];refine afv rfl (by simp;omega) kQ kQ ?_;rw [Nat.mul_one];refine aj9 hF kQ zQ rfl cW.s.has fun w3 X3 c Vc=>?_;have dE:Ft w0 nX w3 X3 (fun k=>k=g):=cW.fM c (fun k af=>af) fun k af=>.inl af;refine ai4 (a:=m) (b:=10) zQ hm ?_;repeat' first|refine aJ ?_;intros
  refine fJ k zQ ⟨k,m/10,(48+m % 10)::tail,_,rfl,rfl,rfl,by omega,by omega,?_,Vc,?_,by rw [List.length_set];exact Yr,dE⟩
  ·rw [Pc,uH,aI];rfl
  ·rw [List.take_set,KY];have e:(fz (k+1) 48++tail)=fz k 48++48::tail:=by rw [List.replicate_succ',aI];rfl
   rw [e,bC,bC,List.set_append_right _ _ (by simp),aH,List.length_replicate,Nat.sub_self];rfl
 |zero=>
  have htl:tail=uH 8 n:=by rw [Pc];rfl
  have amo:cs.take 8=(uH 8 n).map U8:=by rw [KY,←htl];rfl
  have AL:Cells w X g 0 ((uH 8 n).map fun x:Nat=>aA .u8 x):=by
   have h1:=hF.cells.part 0 8;rw [List.drop_zero,amo] at h1;exact h1
  have h2:aj (aR w0) w0 X w:=cW.kW;repeat' first|refine bD ?_;intros
  refine Vx (by show dir.size+1≤_;omega) ?_;refine agD (e:=5) (by simp [zq]) AL kQ kQ kQ cW.s.has fun w4 X4 fq=>?_;replace h2:=h2.trans fq;refine Vx (by rw [nw,Sh,zq];show dir.size+1+8≤_;omega) ?_;exact av h2 fun wa bk=>rfl
theorem Zd {w:World} {X:XS} {dir:ByteArray} {n:Nat} (h1:1≤dir.size) (h2:dir.size≤11) (h3:1≤n) (h4:n≤99999999):Ct pg 67 #[.string dir,I n] w X nX fun v wa w'=>v= .tuple #[.string (iR dir n),I 0]:=by
 intro w0 hk;apply XM;unfold Mp;have hs:=aj.init w0;repeat' first|refine bD ?_;intros|refine dM ?_ ?_<;>intros|(refine dp (BG zQ zQ) kQ hs.has ?_;rintro _ wa w X rfl hle fP ao;replace hs:=hs.trans ao)|((first|(with_reducible refine av hs ?_)|(with_reducible refine av (bS.trans hs) ?_));intro wa hk;rfl)
 rename_i he;subst he;exact absurd h1 (by decide)
structure Jm where
 first:Nat
 gd:List (List Nat)
 size:Nat
structure LM where
 dir:ByteArray
 room:Nat
 eo:List Jm
 safe:Int
def LM.last (L:LM):Jm:=L.eo.getLast?.getD ⟨0,[],0⟩
def LM.next (L:LM):Nat:=L.last.first+L.last.gd.length
def LM.gI (L:LM):ByteArray:=iR L.dir L.last.first
structure LD where
 L:LM
 m:DM
def LD.sync (x:LD):LD×Nat:=let r:=x.m.sync x.L.gI;(⟨if r.2=0 then { x.L with safe:=(x.L.next:Int)-1 } else x.L,r.1⟩,r.2)
def LD.iw (x:LD) (n:Nat):LD×Nat:=let r:=x.m.create (iR x.L.dir n);(⟨if r.2=0 then { x.L with eo:=x.L.eo++[⟨n,[],0⟩] } else x.L,r.1⟩,r.2)
def LD.room (x:LD):LD×Nat:=if x.L.room≤x.L.last.size then(let r:=x.sync;if r.2≠0 then r else r.1.iw x.L.next)else(x,0)
def LM.add (L:LM) (p:List Nat):LM:= { L with eo:=L.eo.dropLast++[⟨L.last.first,L.last.gd++[p],L.last.size+(kr p).length⟩] }
def LD.lay (x:LD) (p:List Nat):LD×Nat:=let r:=x.m.append x.L.gI (kr p);(⟨if r.2=0 then x.L.add p else x.L,r.1⟩,r.2)
def LD.append (x:LD) (p:List Nat):LD×Nat×Nat:=
 if 262144<p.length then(x,0,2)else if 99999999<x.L.next then(x,0,1)else
  let r:=x.room
  if r.2≠0 then(r.1,0,r.2)else
   let q:=r.1.lay p
   if q.2≠0 then(q.1,0,q.2)else(q.1,x.L.next,0)
structure me where
 b:Nat
 first:Nat
 rv:Value
 rs:List (Value×List Nat)
 size:Nat
def me.er (s:me):Jm:=⟨s.first,s.rs.map (·.2),s.size⟩
def WR (x y:me):Prop:=x.b≠y.b∧ ∀g,x.rv.ownBlock=some g→y.rv.ownBlock≠some g
structure yv (w:World) (F:XS) (lb db:Nat) (sv:Value) (bl:List me) (L:LM):Prop where
 eo:L.eo=bl.map me.er
 box:a7 w F lb [ptr db 0,.string L.dir,I L.room,sv,I L.safe] 170
 so:Ow w F 179 1 sv (bl.map fun s=>[ptr s.b 0])
 row: ∀s∈bl,a7 w F s.b [I s.first,s.rv,I s.size] 178
 DX: ∀s∈bl,Ow w F 94 1 s.rv (s.rs.map fun r=>[r.1])
 HR: ∀s∈bl,∀r∈s.rs,Ow w F 5 1 r.1 (r.2.map U1)
 ap:bl.Pairwise WR
theorem yv.mv {w w':World} {F F':XS} {lb db:Nat} {sv:Value} {bl:List me} {L:LM} (h:yv w F lb db sv bl L) (v:Mv F w F' w'):yv w' F' lb db sv bl L:=
 ⟨h.eo,h.box.mv v,h.so.mv v,fun s hs=>(h.row s hs).mv v,fun s hs=>(h.DX s hs).mv v,fun s hs r hr=>(h.HR s hs r hr).mv v,h.ap⟩
def Lg (w:World) (F:XS) (lb db:Nat) (L:LM) (m:DM):Prop:=
 ∃FL FD sv bl,Dj FL FD∧(∀k,FL k→F k)∧(∀k,FD k→F k)∧yv w FL lb db sv bl L∧Dk w FD db m
theorem Lg.mv {w w':World} {F:XS} {lb db:Nat} {L:LM} {m:DM} (h:Lg w F lb db L m) (v:Mv F w F w'):Lg w' F lb db L m:=by
 obtain⟨FL,FD,sv,bl,hd,h1,h2,h3,h4⟩:=h;exact⟨FL,FD,sv,bl,hd,h1,h2,h3.mv fun k hk hl=>⟨hk,(v k (h1 k hk) hl).2⟩,h4.mv fun k hk hl=>⟨hk,(v k (h2 k hk) hl).2⟩⟩
theorem Lg.mono {w:World} {F F':XS} {lb db:Nat} {L:LM} {m:DM} (h:Lg w F lb db L m) (hs: ∀k,F k→F' k):Lg w F' lb db L m:=by
 obtain⟨FL,FD,sv,bl,hd,h1,h2,h3,h4⟩:=h;exact⟨FL,FD,sv,bl,hd,fun k hk=>hs k (h1 k hk),fun k hk=>hs k (h2 k hk),h3,h4⟩
structure qX (L:LM):Prop where
 ne:L.eo≠[]
 d1:1≤L.dir.size
 d2:L.dir.size≤11
 Ai: ∀s∈L.eo,s.first+s.gd.length≤2^40∧s.size≤2^40
 room:L.room≤2^40
theorem LM.vY {L:LM} (h:L.eo≠[]):L.last∈L.eo:=by
 unfold LM.last;rw [jM h];exact List.getLast_mem h
theorem LM.Ra {L:LM} (h:L.eo≠[]):L.eo=L.eo.dropLast++[L.last]:=by
 unfold LM.last;rw [jM h];exact(oE h).symm
theorem qX.next {L:LM} (h:qX L):L.next≤2^40:=(h.Ai _ (LM.vY h.ne)).1
theorem qX.first {L:LM} (h:qX L):L.last.first≤2^40:=by have:=h.next;unfold LM.next at this;omega
theorem yv.last {w:World} {F:XS} {lb db:Nat} {sv:Value} {bl:List me} {L:LM} (h:yv w F lb db sv bl L) (hL:qX L): ∃sZ s,bl=sZ++[s]∧s.er=L.last∧L.eo.dropLast=sZ.map me.er:=by
 have du:bl≠[]:=fun e=>hL.ne (by rw [h.eo,e];rfl);refine⟨bl.dropLast,bl.getLast du,(oE du).symm,?_,?_⟩
 ·unfold LM.last;rw [h.eo,List.getLast?_map,jM du];rfl
 ·rw [h.eo,List.map_dropLast]
section
variable {w : World} {X F : XS} {lb db : Nat} {sv : Value} {bl : List me} {L : LM}
theorem yw {sZ:List me} {s:me} (h:yv w F lb db sv (sZ++[s]) L) (hF:FX F X w):Ct pg 74 #[ptr lb 0] w X nX fun v wa w'=>v=ptr s.b 0:=by
 intro w0 hk;replace h:=h.mv (hF.mv hk);have hX:=fun k af=>(hF.kp hk k af).1;have hb:=h.box.mv (Mv.sub hX);have Pa:=h.so.sl.mono hX;have hlen:=Pa.gy;have LU:(sZ++[s]).length=sZ.length+1:=by simp
 have Nq:(sZ++[s])[sZ.length]? =some s:=by simp
 apply Ps;unfold DL;have hs:=aj.init w0;repeat' first|refine aJ ?_;intros|((first|(with_reducible refine av hs ?_)|(with_reducible refine av (bS.trans hs) ?_));intro wa hk;rfl)
theorem Gp (h:yv w F lb db sv bl L) (hL:qX L) (hF:FX F X w):Ct pg 22 #[ptr lb 0] w X nX fun v wa w'=>v=I L.next:=by
 intro w0 hk;obtain⟨sZ,s,rfl,he,_⟩:=h.last hL;replace h:=h.mv (hF.mv hk);have hX:=fun k af=>(hF.kp hk k af).1;have nr:s∈sZ++[s]:=by simp
 have hb:=(h.row s nr).mv (Mv.sub hX);have hr:=(h.DX s nr).sl.mono hX;have hn:=hL.next
 have nB:L.next=s.first+s.rs.length:=by unfold LM.next;rw [←he];simp [me.er]
 have mK:FX F (aR w0) w0:=hF.kp hk;apply Pq;unfold DJ;have hs:=aj.init w0;refine dp (yw h mK) kQ hs.has ?_;rintro _ wa w1 X1 rfl hle fP ao;replace hs:=hs.trans ao;have rS:=hb.since hs;repeat' first|refine aJ ?_;intros
 refine dp (yw (h.mv (hs.fZ hX)) fun k af=>⟨hs.sub k (hX k af),hs.has k (hs.sub k (hX k af))⟩) kQ hs.has ?_;rintro _ zF w2 X2 rfl qI nV bU;replace hs:=hs.trans bU;have wG:=hb.since hs;have qU:=hr.since hs;clear rS;repeat' first|refine aJ ?_;intros|((first|(with_reducible refine av hs ?_)|(with_reducible refine av (bS.trans hs) ?_));intro wa hk;(rw [nB];simp))
theorem Xm (h:yv w F lb db sv bl L) {s:Jm} {r:List Jm} (hL:L.eo=s::r) (hF:FX F X w):Ct pg 21 #[ptr lb 0] w X nX fun v wa w'=>v=I s.first:=by
 intro w0 hk;have hsg:=h.eo;rw [hL] at hsg;cases bl with
 |nil=>cases hsg
 |cons s' sZ=>
  simp only [bV,yW] at hsg;replace h:=h.mv (hF.mv hk);have hX:=fun k af=>(hF.kp hk k af).1;have hb:=h.box.mv (Mv.sub hX);have wG:=(h.row s' (by simp)).mv (Mv.sub hX);have Pa:=h.so.sl.mono hX;apply NB;unfold CC;have hs:=aj.init w0;repeat' first|refine aJ ?_;intros
  refine afu (i:=0) Pa rfl rfl kQ kQ fun b o hc=>?_;repeat' first|refine aJ ?_;intros|((first|(with_reducible refine av hs ?_)|(with_reducible refine av (bS.trans hs) ?_));intro wa hk;(rw [hsg.1];rfl))
end
structure LW (w:World) (F:XS) (lb db:Nat) (L:LM) (m:DM) (FL FD:XS) (sv:Value) (bl:List me):Prop where
 dj:Dj FL FD
 hL: ∀k,FL k→F k
 hD: ∀k,FD k→F k
 l:yv w FL lb db sv bl L
 d:Dk w FD db m
theorem Lg.lw {w:World} {F:XS} {lb db:Nat} {L:LM} {m:DM} (h:Lg w F lb db L m): ∃FL FD sv bl,LW w F lb db L m FL FD sv bl:=let⟨FL,FD,sv,bl,a,b,c,d,e⟩:=h;⟨FL,FD,sv,bl,a,b,c,d,e⟩
theorem LW.lg {w:World} {F FL FD:XS} {lb db:Nat} {L:LM} {m:DM} {sv:Value} {bl:List me} (h:LW w F lb db L m FL FD sv bl):Lg w F lb db L m:=⟨FL,FD,sv,bl,h.dj,h.hL,h.hD,h.l,h.d⟩
section
variable {w w' wa : World} {X X' F F' FL FD MA : XS} {lb db : Nat} {L : LM} {m m' : DM} {sv : Value} {bl : List me}
theorem LW.mv (h:LW w F lb db L m FL FD sv bl) (v:Mv F w F w'):LW w' F lb db L m FL FD sv bl:=
 ⟨h.dj,h.hL,h.hD,h.l.mv fun k hk hl=>⟨hk,(v k (h.hL k hk) hl).2⟩,h.d.mv fun k hk hl=>⟨hk,(v k (h.hD k hk) hl).2⟩⟩
theorem LW.mono (h:LW w F lb db L m FL FD sv bl) (hs: ∀k,F k→F' k):LW w F' lb db L m FL FD sv bl:=⟨h.dj,fun k hk=>hs k (h.hL k hk),fun k hk=>hs k (h.hD k hk),h.l,h.d⟩
theorem LW.aeZ (h:LW w F lb db L m FL FD sv bl) (hF:FX F X w) (hle:w.heap.size≤wa.heap.size) (c:ez FD X w X' w') (DW: ∀k,MA k→FD k∨made wa w' k) (hd:Dk w' MA db m'):LW w' (fun k=>F k∨made wa w' k) lb db L m' FL MA sv bl:=
 ⟨fun k a b=>(DW k b).elim (h.dj k a) fun hm=>by have:=(hF k (h.hL k a)).2;have:=hm.1;omega,fun k hk=>.inl (h.hL k hk),fun k hk=>(DW k hk).imp (h.hD k) id,
  h.l.mv (c.fi fun k hk=>⟨(hF k (h.hL k hk)).1,fun hf=>h.dj k hk hf⟩),hd⟩
theorem yv.agH {z:Int} (h:yv w FL lb db sv bl L) (hX: ∀k,FL k→X k) (c:ez (· =lb) X w X' w') (hr:a7 w' X' lb [ptr db 0,.string L.dir,I L.room,sv,I z] 170):yv w' FL lb db sv bl { L with safe:=z } :=by
 have mv: ∀{A:XS},(∀k,A k→FL k∧k≠lb)→Mv A w FL w':=fun hA k hk _=>⟨(hA k hk).1,c.block k (hX k (hA k hk).1) (hA k hk).2⟩;refine⟨h.eo,⟨h.box.1,hr.2⟩,?_,fun s hs=>?_,fun s hs=>?_,fun s hs r hr=>?_,h.ap⟩
 ·exact h.so.tight.mv (mv fun k hk=>⟨(h.so.bK hk).1,fun e=>h.so.eA h.box kQ (e▸hk)⟩)
 ·exact(h.row s hs).own.mv (mv fun k hk=>by subst hk;exact⟨(h.row s hs).1,(h.row s hs).eA h.box kQ⟩)
 ·exact(h.DX s hs).tight.mv (mv fun k hk=>⟨((h.DX s hs).bK hk).1,fun e=>(h.DX s hs).eA h.box kQ (e▸hk)⟩)
 ·exact(h.HR s hs r hr).tight.mv (mv fun k hk=>⟨((h.HR s hs r hr).bK hk).1,fun e=>(h.HR s hs r hr).eA h.box kQ (e▸hk)⟩)
end
theorem OP {w:World} {X F:XS} {lb db:Nat} {L:LM} {m:DM} (h:Lg w F lb db L m) (hL:qX L) (hF:FX F X w):
  Ct pg 84 #[ptr lb 0] w X F fun v wa w'=>v=I (LD.sync ⟨L,m⟩).2∧ ∃F',(∀k,F' k→F k∨made wa w' k)∧Lg w' F' lb db (LD.sync ⟨L,m⟩).1.L (LD.sync ⟨L,m⟩).1.m:=by
 intro w0 hk;obtain⟨FL,FD,sv,bl,h⟩:=(h.mv (hF.mv hk)).lw;have hT:=hF.ft hk;have mK:FX F (aR w0) w0:=hF.kp hk;obtain⟨sZ,s,C8,he,_⟩:=h.l.last hL;have hFL:FX FL (aR w0) w0:=fun k af=>mK k (h.hL k af);have hX:=fun k af=>(hFL k af).1;have hb:=h.l.box.mv (Mv.sub hX);have nr:s∈bl:=by rw [C8];simp
 have Vu:=(h.l.row s nr).mv (Mv.sub hX);have tH:s.first=L.last.first:=by rw [←he];rfl
 have hfb:=hL.first
 apply Pt;unfold DN;have hs:=aj.init w0;repeat' first|refine aJ ?_;intros
 refine dp (yw (C8▸h.l) hFL) kQ hs.has ?_;rintro _ wa w1 X1 rfl hle fP ao;replace hs:=hs.trans ao;have ai5:=Vu.since hs;repeat' first|refine aJ ?_;intros
 rw [tH];refine dp (BG (by have:=hL.d2;omega) zQ) kQ hs.has ?_;rintro _ zF w2 X2 rfl qI nV bU;replace hs:=hs.trans bU;have cW:=hT.since hs;have h2:=h.mv (hs.fZ hT.bK);refine cW.call (Yd h2.d (cW.fx h2.hD)) kQ h2.hD fun v uQ w3 X3 hq nZ mz dE qY=>?_;obtain⟨rfl,MA,WT,hD⟩:=hq;have h3:=h2.aeZ (cW.fx fun _ h=>h) nZ qY WT hD;have eS:LD.sync ⟨L,m⟩=(⟨if(m.sync L.gI).2=0 then { L with safe:=(L.next:Int)-1 } else L,(m.sync L.gI).1⟩,(m.sync L.gI).2):=rfl;have eN:L.gI=iR L.dir L.last.first:=rfl
 rw [eS];dsimp only;rw [eN];generalize YJ:m.sync (iR L.dir L.last.first)=ms at h3⊢;have nB:=hL.next
 repeat' first|refine aJ ?_;intros|refine dM ?_ ?_<;>intros|with_reducible apply dx
 ·rename_i hz;have hz:ms.2=0:=by have:(ms.2:Int)=0:=(by assumption);omega
  have ea:=aj.ct dE.s.has;refine dp (Gp h3.l hL (dE.fx h3.hL)) kQ dE.s.has ?_;rintro _ mu w4 X4 rfl qg lI fq;have fm:=dE.since fq;have h4:=h3.mv (fq.fZ dE.bK);have hX4: ∀k,FL k→X4 k:=fun k af=>fm.bK k (h4.hL k af);have Cp:=h4.l.box.mv (Mv.sub hX4);repeat' first|refine aJ ?_;intros
  refine qu (o:=4) Cp zQ kQ (by simp) rfl fm.s.has fun w5 X5 c5 Hm=>?_;have ff:=fm.fM (F':=fun k=>F k∨made uQ w3 k) c5 (fun k af=>by subst af;exact h4.hL _ h4.l.box.1) fun k af=>.inl af;have h5:=h4.l.agH hX4 c5 Hm;refine ff.fin fun wa bk=>⟨rfl,_,ff.gU bk fun _ h=>h,?_⟩;rw [if_pos hz];refine Lg.mv ⟨FL,MA,sv,bl,h4.dj,h4.hL,h4.hD,h5,h4.d.mv (c5.fi fun k af=>⟨fm.bK k (h4.hD k af),fun e=>h4.dj k (by rw [e];exact h4.l.box.1) af⟩)⟩ (bk.fi ff.bK)
 ·have hz: ¬ms.2=0:=by have: ¬(ms.2:Int)=0:=(by assumption);omega
  refine dE.fin fun wa bk=>⟨rfl,_,dE.gU bk fun _ h=>h,?_⟩;rw [if_neg hz];exact(h3.mv (bk.fi dE.bK)).lg
section
variable {w w' wa : World} {X X' F F' FL Aj FD MA G : XS} {lb db : Nat} {L : LM} {m m' : DM} {sv PL : Value} {bl sZ : List me}
theorem yv.agI (h:yv w FL lb db sv bl L) (hX:FX FL X w) (c:ez G X w X' w') (hG: ∀k,G k→k=lb∨sv.ownBlock=some k) (WM: ∀k,FL k→Aj k)
  (hr:a7 w' Aj lb [ptr db 0,.string L.dir,I L.room,PL,I L.safe] 170) (ho:Ow w' Aj 179 1 PL (sZ.map fun s=>[ptr s.b 0]))
  (hn: ∀s∈sZ,s∈bl∨(a7 w' Aj s.b [I s.first,s.rv,I s.size] 178∧Ow w' Aj 94 1 s.rv (s.rs.map fun r=>[r.1])∧ ∀r∈s.rs,Ow w' Aj 5 1 r.1 (r.2.map U1)))
  (Hh:sZ.Pairwise WR):yv w' Aj lb db PL sZ { L with eo:=sZ.map me.er } :=by
 have mv: ∀{A:XS},(∀k,A k→FL k∧k≠lb∧sv.ownBlock≠some k)→Mv A w Aj w':=fun hA k hk _=>by
  obtain⟨a1,a2,a3⟩:=hA k hk;exact⟨WM k a1,c.block k (hX k a1).1 fun hg=>(hG k hg).elim a2 a3⟩
 refine⟨rfl,hr,ho,fun s hs=>?_,fun s hs=>?_,fun s hs r hr=>?_,Hh⟩
 ·rcases hn s hs with hs|hs
  ·exact(h.row s hs).own.mv (mv fun k hk=>by subst hk;exact⟨(h.row s hs).1,(h.row s hs).eA h.box kQ,h.so.eA (h.row s hs) kQ⟩)
  ·exact hs.1
 ·rcases hn s hs with hs|hs
  ·refine(h.DX s hs).tight.mv (mv fun k hk=>⟨((h.DX s hs).bK hk).1,fun e=>(h.DX s hs).eA h.box kQ (e▸hk),fun e=>?_⟩);obtain⟨c1,h1⟩:=(h.DX s hs).tag hk;obtain⟨c2,h2⟩:=h.so.tag e;rw [h1] at h2;simp at h2
  ·exact hs.2.1
 ·rcases hn s hs with hs|hs
  ·refine(h.HR s hs r hr).tight.mv (mv fun k hk=>⟨((h.HR s hs r hr).bK hk).1,fun e=>(h.HR s hs r hr).eA h.box kQ (e▸hk),fun e=>?_⟩);obtain⟨c1,h1⟩:=(h.HR s hs r hr).tag hk;obtain⟨c2,h2⟩:=h.so.tag e;rw [h1] at h2;simp at h2
  ·exact hs.2.2 r hr
abbrev me.more (s:me) (yY pv:Value) (p:List Nat) (z:Nat):me:=⟨s.b,s.first,yY,s.rs++[(pv,p)],z⟩
theorem yv.agJ {s:me} {yY pv:Value} {p:List Nat} {z:Nat} (h:yv w FL lb db sv (bl++[s]) L) (hX:FX FL X w) (c:ez G X w X' w') (hG: ∀k,G k→k=s.b∨s.rv.ownBlock=some k) (WM: ∀k,FL k→Aj k)
  (hr:a7 w' Aj s.b [I s.first,yY,I z] 178) (ho:Ow w' Aj 94 1 yY ((s.rs++[(pv,p)]).map fun r=>[r.1])) (hp:Ow w' Aj 5 1 pv (p.map U1))
  (ef:yY.ownBlock=s.rv.ownBlock∨ ∃g,yY.ownBlock=some g∧w.heap.size≤g):
  yv w' Aj lb db sv (bl++[s.more yY pv p z]) { L with eo:=(bl++[s.more yY pv p z]).map me.er } :=by
 have mX:s∈bl++[s]:=by simp
 have mv: ∀{A:XS},(∀k,A k→FL k∧k≠s.b∧s.rv.ownBlock≠some k)→Mv A w Aj w':=fun hA k hk _=>by
  obtain⟨a1,a2,a3⟩:=hA k hk;exact⟨WM k a1,c.block k (hX k a1).1 fun hg=>(hG k hg).elim a2 a3⟩
 have rs:=h.row s mX;have os:=h.DX s mX;have hold: ∀x∈bl,x∈bl++[s]:=fun x hx=>bR _ hx;have Vs:=List.pairwise_append.1 h.ap;have WL: ∀x∈bl,WR x s:=fun x hx=>Vs.2.2 x hx s (by simp);have ai6: ∀x∈bl++[s],∀r∈x.rs,Ow w' Aj 5 1 r.1 (r.2.map U1):=fun x hx r hr=>by
  refine(h.HR x hx r hr).tight.mv (mv fun k hk=>⟨((h.HR x hx r hr).bK hk).1,fun e=>(h.HR x hx r hr).eA rs kQ (e▸hk),fun e=>?_⟩);obtain⟨c1,h1⟩:=(h.HR x hx r hr).tag hk;obtain⟨c2,h2⟩:=os.tag e;rw [h1] at h2;simp at h2
 refine⟨rfl,?_,?_,fun x hx=>?_,fun x hx=>?_,fun x hx r hr=>?_,?_⟩
 ·exact h.box.own.mv (mv fun k hk=>by subst hk;exact⟨h.box.1,(rs.eA h.box kQ).symm,os.eA h.box kQ⟩)
 ·have:(bl++[s.more yY pv p z]).map (fun s=>[ptr s.b 0])=(bl++[s]).map (fun s=>[ptr s.b 0]):=by simp
  rw [this];refine h.so.tight.mv (mv fun k hk=>⟨(h.so.bK hk).1,fun e=>h.so.eA rs kQ (e▸hk),fun e=>?_⟩);obtain⟨c1,h1⟩:=h.so.tag hk;obtain⟨c2,h2⟩:=os.tag e;rw [h1] at h2;simp at h2
 ·rcases List.mem_append.1 hx with hx|hx
  ·have ha:=WL x hx;have rx:=h.row x (hold x hx);exact rx.own.mv (mv fun k hk=>by subst hk;exact⟨rx.1,ha.1,os.eA rx kQ⟩)
  ·simp only [bw] at hx;subst hx;exact hr
 ·rcases List.mem_append.1 hx with hx|hx
  ·have ha:=WL x hx;have ox:=h.DX x (hold x hx);exact ox.tight.mv (mv fun k hk=>⟨(ox.bK hk).1,fun e=>ox.eA rs kQ (e▸hk),fun e=>ha.2 k hk e⟩)
  ·simp only [bw] at hx;subst hx;exact ho
 ·rcases List.mem_append.1 hx with hx|hx
  ·exact ai6 x (hold x hx) r hr
  ·simp only [bw] at hx;subst hx;rcases List.mem_append.1 hr with hr|hr
   ·exact ai6 s mX r hr
   ·simp only [bw] at hr;subst hr;exact hp
 ·refine List.pairwise_append.2 ⟨Vs.1,rE _ _,fun x hx y hy=>?_⟩;simp only [bw] at hy;subst hy;have ha:=WL x hx;refine⟨ha.1,fun g hg jg=>?_⟩;rcases ef with e|⟨g',e,dV⟩
  ·exact ha.2 g hg (e▸jg)
  ·have:=(hX g ((h.DX x (hold x hx)).bK hg).1).2;have e2:yY.ownBlock=some g:=jg;rw [e] at e2;have:g'=g:=iG e2;omega
end
theorem NZ {w:World} {X F:XS} {lb db n:Nat} {L:LM} {m:DM} (h:Lg w F lb db L m) (nR:L.dir.size≤11) (hn:n≤2^40) (wD:L.eo.length≤2^30) (hF:FX F X w):
  Ct pg 72 #[ptr lb 0,I n] w X F fun v wa w'=>v=I (LD.iw ⟨L,m⟩ n).2∧ ∃F',(∀k,F' k→F k∨made wa w' k)∧Lg w' F' lb db (LD.iw ⟨L,m⟩ n).1.L (LD.iw ⟨L,m⟩ n).1.m:=by
 intro w0 hk;obtain⟨FL,FD,sv,bl,h⟩:=(h.mv (hF.mv hk)).lw;have hT:=hF.ft hk;have mK:FX F (aR w0) w0:=hF.kp hk;have hX:=fun k af=>(mK k (h.hL k af)).1;have hb:=h.l.box.mv (Mv.sub hX);apply Pr;unfold DK;have hs:=aj.init w0;repeat' first|refine aJ ?_;intros
 refine dp (BG zQ zQ) kQ hs.has ?_;rintro _ zF w2 X2 rfl qI nV bU;replace hs:=hs.trans bU;have cW:=hT.since hs;have h2:=h.mv (hs.fZ hT.bK);refine cW.call (Tl h2.d (cW.fx h2.hD)) kQ h2.hD fun v uQ w3 X3 hq nZ mz dE qY=>?_;obtain⟨rfl,MA,WT,hD⟩:=hq;have h3:=h2.aeZ (cW.fx fun _ h=>h) nZ qY WT hD;have eS:LD.iw ⟨L,m⟩ n=(⟨if(m.create (iR L.dir n)).2=0 then { L with eo:=L.eo++[⟨n,[],0⟩] } else L,(m.create (iR L.dir n)).1⟩,(m.create (iR L.dir n)).2):=rfl;rw [eS];dsimp only;generalize YJ:m.create (iR L.dir n)=ms at h3⊢;have hX3: ∀k,FL k→X3 k:=fun k af=>dE.bK k (h3.hL k af);have Mc:=h3.l.box.mv (Mv.sub hX3);have amp:=h3.l.so.mono hX3;have C8:bl.length=L.eo.length:=by rw [h3.l.eo,aH]
 have o3:=h3.l.so.one;clear hs;repeat' first|refine aJ ?_;intros|refine dM ?_ ?_<;>intros|with_reducible apply dx
 ·have hz:ms.2=0:=by have:(ms.2:Int)=0:=(by assumption);omega
  refine nY dE.s.has fun bx w4 X4 gh fq bJ=>?_;have ae0:=amp.mv fq.mv;refine acm (bytes:=8) (row:=[ptr bx 0]) ae0 fq.has kQ rfl rfl rfl (by simp;omega) (by simp;omega) fun PL w5 X5 c5 jU uB=>?_;have Cp:=Mc.since fq;have du: ∀q,cY sv q→q≠lb:=fun q hq e=>ae0.eA Cp kQ (by rw [←e];exact hq);have hb5:a7 w5 X5 lb [ptr db 0,.string L.dir,I L.room,sv,I L.safe] 170:=⟨c5.sub _ Cp.1,by rw [c5.block _ Cp.1 fun hq=>du _ hq rfl];exact Cp.2⟩;repeat' first|refine aJ ?_;intros
  refine qu (o:=3) hb5 zQ kQ (by simp) jU.one c5.has fun w6 X6 c6 IN=>?_;have ae1: ∀q,cY sv q→FL q:=fun q hq=>(h3.l.so.bK hq).1;have cc:ez (fun k=>k=lb∨sv.ownBlock=some k) X3 w3 X6 w6:=((ez.rL fq _).trans (c5.mono fun k _ af=>.inr af)).trans (c6.mono fun k _ af=>.inl af);have eX:Ft w0 F w6 X6 (fun k=>(F k∨made uQ w3 k)∨(X6 k∧w3.heap.size≤k)):=dE.fM cc (fun k af=>by
   rcases af with rfl|af
   ·exact h3.hL _ h3.l.box.1
   ·exact h3.hL _ (ae1 _ af)) fun k af=>af
  have FK: ∀g,PL.ownBlock=some g→FL g∨(X6 g∧w3.heap.size≤g):=fun g hg=>by
   rcases uB with e|⟨g',e,dV⟩
   ·exact .inl (ae1 _ (e.symm.trans hg))
   ·rw [hg] at e;have:g=g':=iG e;subst this;exact .inr ⟨c6.sub _ (jU.bK hg).1,ah fq.kp.size dV⟩
  have amq:PL.ownBlock≠some lb:=jU.eA hb5 kQ;have akn:bx≠lb:=bJ.eA Cp kQ;have ako: ¬cY sv bx:=fun hq=>ae0.eA bJ kQ hq;have hL6:=h3.l.agI (Aj:=fun k=>FL k∨(X6 k∧w3.heap.size≤k)) (PL:=PL) (sZ:=bl++[⟨bx,n,.slice none 0 0,[],0⟩]) (dE.fx h3.hL) cc (fun k af=>af) (fun k af=>.inl af) ⟨.inl h3.l.box.1,IN.2⟩ ?_ ?_ ?_
  ·refine eX.fin fun wa bk=>⟨rfl,_,eX.gU bk fun _ h=>h,?_⟩;rw [if_pos hz];have e:({ L with eo:=(bl++[(⟨bx,n,.slice none 0 0,[],0⟩:me)]).map me.er } :LM)= { L with eo:=L.eo++[⟨n,[],0⟩] } :=by
    rw [bC,←h3.l.eo];rfl
   rw [←e];refine Lg.mv ⟨_,MA,PL,_,?_,?_,?_,hL6,h3.d.mv (cc.fi fun k af=>⟨dE.bK k (h3.hD k af),fun hg=>?_⟩)⟩ (bk.fi eX.bK)
   ·intro k ha eY;rcases ha with ha|ha
    ·exact h3.dj k ha eY
    ·have:=(dE.fx h3.hD k eY).2;omega
   ·exact fun k af=>af.imp (h3.hL k) id
   ·exact fun k af=>.inl (h3.hD k af)
   ·rcases hg with rfl|hg
    ·exact h3.dj _ h3.l.box.1 af
    ·exact h3.dj _ (ae1 _ hg) af
  ·rw [bC];refine jU.tight.mv fun k af hl=>⟨FK k af,c6.block k (jU.bK af).1 fun e=>amq (by rw [←(show k=lb from e)];exact af)⟩
  ·intro s wM;rcases List.mem_append.1 wM with wM|wM
   ·exact .inl wM
   ·simp only [bw] at wM;subst wM;have hb6:w6.heap[bx]? =w4.heap[bx]? :=by
     rw [c6.block bx (c5.sub _ bJ.1) akn,c5.block bx bJ.1 ako]
    exact .inr ⟨⟨.inr ⟨c6.sub _ (c5.sub _ bJ.1),gh⟩,by rw [hb6];exact bJ.2⟩,Ow.nil _ _ _ _,fun r hr=>by cases hr⟩
  ·refine List.pairwise_append.2 ⟨h3.l.ap,rE _ _,fun x hx y hy=>?_⟩;simp only [bw] at hy;subst hy;refine⟨fun e=>?_,fun g hg jg=>by cases jg⟩;have:=(dE.fx h3.hL _ (h3.l.row x hx).1).2;have e':x.b=bx:=e;omega
 ·have hz: ¬ms.2=0:=by have: ¬(ms.2:Int)=0:=(by assumption);omega
  refine dE.fin fun wa bk=>⟨rfl,_,dE.gU bk fun _ h=>h,?_⟩;rw [if_neg hz];exact(h3.mv (bk.fi dE.bK)).lg
theorem qX.safe {L:LM} (h:qX L) (z:Int):qX { L with safe:=z } :=⟨h.ne,h.d1,h.d2,h.Ai,h.room⟩
theorem qX.sync {L:LM} {m:DM} (h:qX L):qX (LD.sync ⟨L,m⟩).1.L:=by
 unfold LD.sync;dsimp only;split
 ·exact h.safe _
 ·exact h
theorem qX.iw {L:LM} {m:DM} {n:Nat} (h:qX L) (hn:n≤2^40):qX (LD.iw ⟨L,m⟩ n).1.L:=by
 unfold LD.iw;dsimp only;split
 ·refine⟨by simp,h.d1,h.d2,fun s hs=>?_,h.room⟩;rcases List.mem_append.1 hs with hs|hs
  ·exact h.Ai s hs
  ·simp only [bw] at hs;subst hs;exact⟨by simpa using hn,by simp⟩
 ·exact h
theorem LD.St (x:LD):x.sync.1.L.eo=x.L.eo:=by unfold LD.sync;dsimp only;split<;>rfl
theorem LD.ae2 (x:LD):x.sync.1.L.dir=x.L.dir:=by unfold LD.sync;dsimp only;split<;>rfl
theorem UU {w:World} {X F S:XS} {lb db:Nat} {L:LM} {m:DM} {vp:Value} {p:List Nat} (h:Lg w F lb db L m) (hL:qX L) (wD:L.eo.length≤2^30) (hF:FX F X w) (hp:Sl w S 1 vp (p.map U1)) (hS: ∀k,S k→X k∧ ¬F k):
  Ct pg 83 #[ptr lb 0,vp] w X F fun v wa w'=>v= .tuple #[I (LD.append ⟨L,m⟩ p).2.1,I (LD.append ⟨L,m⟩ p).2.2]∧
   ∃F',(∀k,F' k→F k∨made wa w' k)∧Lg w' F' lb db (LD.append ⟨L,m⟩ p).1.L (LD.append ⟨L,m⟩ p).1.m:=by
 intro w0 hk;obtain⟨FL,FD,sv,bl,h⟩:=(h.mv (hF.mv hk)).lw;have hT:=hF.ft hk;have mK:FX F (aR w0) w0:=hF.kp hk;have TR:Sl w0 (out F w0) 1 vp (p.map U1):=hp.mv fun k af hl=>⟨⟨aG hl hk.size,(hS k af).2⟩,hk.block k (hS k af).1⟩;have I8:=TR.gy;have ov:=TR.one;have nB:=hL.next
 generalize hr:LD.append ⟨L,m⟩ p=r;unfold LD.append at hr;dsimp only at hr;apply Lu;unfold A6;refine dp (Gp h.l hL (hT.fx h.hL)) kQ hT.s.has ?_;rintro _ wa w1 X1 rfl hle fP ao;have dU:=hT.since ao;have h1:=h.mv (ao.fZ hT.bK);have YM: ∀{w X F'},Ft w0 F w X F'→Sl w X 1 vp (p.map U1):=fun hT=>TR.mv hT.s.mv;have hp1:=YM dU;have stay:r.1=⟨L,m⟩→ ∀wa,Kp X1 w1 wa→ ∃F',(∀k,F' k→F k∨made w0 wa k)∧Lg wa F' lb db r.1.L r.1.m:=fun e wa bk=>⟨F,dU.gU bk fun _ h=>h,by rw [e];exact(h1.mv (bk.fi dU.bK)).lg⟩;repeat' first|refine aJ ?_;intros|refine dM ?_ ?_<;>intros
 ·rw [if_pos zQ] at hr;subst hr;exact dU.fin fun wa bk=>⟨rfl,stay rfl wa bk⟩
 ·rw [if_neg zQ,if_pos zQ] at hr;subst hr;exact dU.fin fun wa bk=>⟨rfl,stay rfl wa bk⟩
 ·rw [if_neg zQ,if_neg zQ] at hr;have ani:p.length≤262144:=by omega
  clear stay;refine mm (fun k=> ∀(w:World) (X F1 FL FD:XS) (sv:Value) (bl:List me) (x:LD),LD.room ⟨L,m⟩=(x,0)→qX x.L→x.L.eo.length≤2^30+1→Ft w0 F w X F1→LW w F1 lb db x.L x.m FL FD sv bl→k w X) ?_ ?_
  ·intro w X F1 FL FD sv bl x hrm Y5 HE cW h2;rw [hrm] at hr;dsimp only at hr;rw [if_neg (by simp)] at hr;obtain⟨sZ,s,rfl,he,hdl⟩:=h2.l.last Y5;refine dp (yw h2.l (cW.fx h2.hL)) kQ cW.s.has ?_;rintro _ uQ w3 X3 rfl nZ mz ea;have dE:=cW.since ea;have h3:=h2.mv (ea.fZ cW.bK);refine dp (Tn (YM dE)) kQ dE.s.has ?_;rintro vq mu w4 X4 hq qg lI fq;rw [if_neg zQ] at hq;obtain⟨vb,rfl,tj⟩:=hq;have fm:=dE.since fq;have h4:=h3.mv (fq.fZ dE.bK);have hX4: ∀k,FL k→X4 k:=fun k af=>fm.bK k (h4.hL k af);have Cp:=h4.l.box.mv (Mv.sub hX4);have nr:s∈sZ++[s]:=by simp
   have anj:=(h4.l.row s nr).mv (Mv.sub hX4);have tH:s.first=x.L.last.first:=by rw [←he];rfl
   have fL:s.size=x.L.last.size:=by rw [←he];rfl
   have hrs:x.L.last.gd=s.rs.map (·.2):=by rw [←he];rfl
   have hfb:=Y5.first
   have nB:=Y5.next
   have hls:=Y5.Ai _ (LM.vY Y5.ne);have B9:s.rs.length=x.L.last.gd.length:=by rw [hrs,aH]
   have iO:=PK p;have ovb:=tj.one;repeat' first|refine aJ ?_;intros
   rw [tH];refine dp (BG (by have:=Y5.d2;omega) zQ) kQ fm.s.has ?_;rintro _ Ys w5 X5 rfl P8 Jb ti;have ff:=fm.since ti;have h5:=h4.mv (ti.fZ fm.bK);have hz4:=fq.kp.size;have amr:Sl w5 (made mu w4) 1 vb ((kr p).map U1):=tj.sl.mv fun k af hl=>⟨af,ti.kp.block k (lI k af)⟩;refine ff.call (Tk h5.d (ff.fx h5.hD) amr (fun k af=>⟨ti.sub k (lI k af),fun hf=>?_⟩) zQ) kQ h5.hD fun v Yi w6 X6 hq PO FK eX hc6=>?_
   ·have:=(dE.fx h3.hD k hf).2;have:=af.1;omega
   obtain⟨rfl,MA,WT,hD⟩:=hq;have h6:=h5.aeZ (ff.fx fun _ h=>h) PO hc6 WT hD;have eL:x.lay p=(⟨if(x.m.append x.L.gI (kr p)).2=0 then x.L.add p else x.L,(x.m.append x.L.gI (kr p)).1⟩,(x.m.append x.L.gI (kr p)).2):=rfl;rw [eL] at hr;dsimp only at hr;have eN:x.L.gI=iR x.L.dir x.L.last.first:=rfl
   rw [eN] at hr;generalize YJ:x.m.append (iR x.L.dir x.L.last.first) (kr p)=ms at hr h6⊢;have Jq: ∀k,FL k→X6 k:=fun k af=>eX.bK k (h6.hL k af);have ams:=(h6.l.row s nr).mv (Mv.sub Jq);have amt:=(h6.l.DX s nr).mono Jq;repeat' first|refine aJ ?_;intros|refine dM ?_ ?_<;>intros
   ·have hz: ¬ms.2=0:=by have: ¬(ms.2:Int)=0:=(by assumption);omega
    rw [if_pos hz,if_neg hz] at hr;subst hr;exact eX.fin fun wa bk=>⟨rfl,_,eX.gU bk fun _ h=>h,(h6.mv (bk.fi eX.bK)).lg⟩
   ·have hz:ms.2=0:=by have:(ms.2:Int)=0:=(by assumption);omega
    rw [if_neg (by simpa using hz),if_pos hz] at hr;subst hr;refine aka eX.s.has kQ (YM eX) (by intro r hr u hu;obtain⟨x,_,rfl⟩:=List.mem_map.1 hr;simp only [U1,bw] at hu;subst hu;rfl) (by simp;omega) (by simp;omega) fun pv w7 X7 gG sN=>?_;have ae3:=amt.mv gG.mv;have WU:=ams.since gG;refine acm (bytes:=24) (row:=[pv]) ae3 gG.has kQ (by have:=rr sN.one;rw [this]) rfl (by simp [sN.one]) (by simp;omega) (by simp;omega) fun yY w8 X8 c8 AO Zy=>?_;have adu: ∀q,cY s.rv q→q≠s.b:=fun q hq e=>ae3.eA WU kQ (by rw [←e];exact hq);have ai7:a7 w8 X8 s.b [I s.first,s.rv,I s.size] 178:=⟨c8.sub _ WU.1,by rw [c8.block _ WU.1 fun hq=>adu _ hq rfl];exact WU.2⟩;repeat' first|refine aJ ?_;intros
    refine qu (o:=1) ai7 zQ kQ (by simp) AO.one c8.has fun w9 X9 c9 ae4=>?_;replace ae4:a7 w9 X9 s.b [I s.first,yY,I s.size] 178:=ae4;repeat' first|refine aJ ?_;intros
    refine qu (o:=2) ae4 zQ kQ (by simp) rfl c9.has fun Me Jo zU aa0=>?_;have lW:(s.size:Int)+((kr p).length:Int)=((s.size+(kr p).length:Nat):Int):=by omega
    replace aa0:a7 Me Jo s.b [I s.first,yY,I ((s.size+(kr p).length:Nat):Int)] 178:=by rw [←lW];exact aa0
    have cc:ez (fun k=>k=s.b∨s.rv.ownBlock=some k) X6 w6 Jo Me:=(((ez.rL gG _).trans (c8.mono fun k _ af=>.inr af)).trans (c9.mono fun k _ af=>.inl af)).trans (zU.mono fun k _ af=>.inl af);have ae5: ∀q,cY s.rv q→FL q:=fun q hq=>((h6.l.DX s nr).bK hq).1;have xE:=eX.fM (F':=fun k=>(F1 k∨made Yi w6 k)∨(Jo k∧w6.heap.size≤k)) cc (fun k af=>by
     rcases af with rfl|af
     ·exact h6.hL _ (h6.l.row s nr).1
     ·exact h6.hL _ (ae5 _ af)) fun k af=>af
    have afr: ∀g,yY.ownBlock=some g→FL g∨(Jo g∧w6.heap.size≤g):=fun g hg=>by
     rcases Zy with e|⟨g',e,dV⟩
     ·exact .inl (ae5 _ (e.symm.trans hg))
     ·rw [hg] at e;have:g=g':=iG e;subst this;exact .inr ⟨zU.sub _ (c9.sub _ (AO.bK hg).1),ah gG.kp.size dV⟩
    have ai8: ∀q,cY yY q→q≠s.b:=fun q hq e=>AO.eA ai7 kQ (by rw [←e];exact hq);have JE: ∀q,cY pv q→X7 q∧w6.heap.size≤q∧Me.heap[q]? =w7.heap[q]? :=fun q hq=>by
     have h1:=(sN.bK hq).1;have hns:q≠s.b:=fun e=>sN.eA WU kQ (by rw [←e];exact hq);have hnr: ¬cY s.rv q:=fun DC=>by
      obtain⟨c1,e1⟩:=sN.tag hq;obtain⟨c2,e2⟩:=ae3.tag DC;rw [e1] at e2;simp at e2
     exact⟨h1.1,h1.2,by rw [zU.block q (c9.sub _ (c8.sub _ h1.1)) hns,c9.block q (c8.sub _ h1.1) hns,c8.block q h1.1 hnr]⟩
    have amu:=h6.l.agJ (Aj:=fun k=>FL k∨(Jo k∧w6.heap.size≤k)) (yY:=yY) (pv:=pv) (p:=p) (z:=s.size+(kr p).length) (eX.fx h6.hL) cc (fun k af=>af) (fun k af=>.inl af) ⟨.inl (h6.l.row s nr).1,aa0.2⟩ ?_ ?_ ?_
    ·refine xE.fin fun wa bk=>⟨rfl,_,xE.gU bk fun _ h=>h,?_⟩;have e:({ x.L with eo:=(sZ++[s.more yY pv p (s.size+(kr p).length)]).map me.er } :LM)=x.L.add p:=by
      unfold LM.add;rw [hdl,bC,←he];simp [me.er]
     rw [←e];refine Lg.mv ⟨_,MA,sv,_,?_,?_,?_,amu,h6.d.mv (cc.fi fun k af=>⟨eX.bK k (h6.hD k af),fun hg=>?_⟩)⟩ (bk.fi xE.bK)
     ·intro k ha eY;rcases ha with ha|ha
      ·exact h6.dj k ha eY
      ·have:=(eX.fx h6.hD k eY).2;omega
     ·exact fun k af=>af.imp (h6.hL k) id
     ·exact fun k af=>.inl (h6.hD k af)
     ·rcases hg with rfl|hg
      ·exact h6.dj _ (h6.l.row s nr).1 af
      ·exact h6.dj _ (ae5 _ hg) af
    ·rw [bC];exact AO.tight.mv fun k af hl=>⟨afr k af,by rw [zU.block k (c9.sub _ (AO.bK af).1) (ai8 k af),c9.block k (AO.bK af).1 (ai8 k af)]⟩
    ·exact sN.tight.mv fun k af hl=>⟨.inr ⟨zU.sub _ (c9.sub _ (c8.sub _ (JE k af).1)),(JE k af).2.1⟩,(JE k af).2.2⟩
    ·rcases Zy with e|⟨g,e,dV⟩
     ·exact .inl e
     ·exact .inr ⟨g,e,ah gG.kp.size dV⟩
  ·intro K hK;obtain⟨sZ,s,rfl,he,hdl⟩:=h1.l.last hL;have JA: ∀k,FL k→X1 k:=fun k af=>dU.bK k (h1.hL k af);have rS:=h1.l.box.mv (Mv.sub JA);have nr:s∈sZ++[s]:=by simp
   have ai5:=(h1.l.row s nr).mv (Mv.sub JA);have fL:s.size=L.last.size:=by rw [←he];rfl
   have hls:=hL.Ai _ (LM.vY hL.ne);have hrm:=hL.room;have eR:LD.room ⟨L,m⟩=if L.room≤L.last.size then(if(LD.sync ⟨L,m⟩).2≠0 then LD.sync ⟨L,m⟩else(LD.sync ⟨L,m⟩).1.iw L.next)else(⟨L,m⟩,0):=rfl
   repeat' first|refine aJ ?_;intros
   refine dp (yw h1.l (dU.fx h1.hL)) kQ dU.s.has ?_;rintro _ zF w2 X2 rfl qI nV bU;have cW:=dU.since bU;have h2:=h1.mv (bU.fZ dU.bK);have ank:=ai5.since bU;repeat' first|refine aJ ?_;intros|refine dM ?_ ?_<;>intros
   ·have dV:L.room≤L.last.size:=by omega
    rw [if_pos dV] at eR;refine cW.call (OP h2.lg hL (cW.fx fun _ h=>h)) kQ (fun _ h=>h) fun v uQ w3 X3 hq nZ mz dE qY=>?_;obtain⟨rfl,F3,Vc,h3⟩:=hq;have hL3:qX (LD.sync ⟨L,m⟩).1.L:=hL.sync;have aa1:=LD.St ⟨L,m⟩;have ai9:=LD.ae2 ⟨L,m⟩;generalize OQ:LD.sync ⟨L,m⟩=y at eR h3 hL3 aa1 ai9⊢;have nm:=dE.less Vc;repeat' first|refine aJ ?_;intros|refine dM ?_ ?_<;>intros
    ·have hz:y.2≠0:=by have: ¬(y.2:Int)=0:=(by assumption);omega
     rw [if_pos hz] at eR;rw [eR,if_pos hz] at hr;subst hr;exact nm.fin fun wa bk=>⟨rfl,F3,nm.gU bk fun _ h=>h,h3.mv (bk.fi nm.bK)⟩
    ·have hz: ¬y.2≠0:=by have:(y.2:Int)=0:=(by assumption);omega
     rw [if_neg hz] at eR;have hy:y.1=⟨y.1.L,y.1.m⟩:=rfl;refine nm.call (NZ (n:=L.next) h3 (by rw [ai9];exact hL.d2) nB (by rw [aa1];exact wD) (nm.fx fun _ h=>h)) kQ (fun _ h=>h) fun v mu w4 X4 hq qg lI fm EK=>?_;obtain⟨rfl,F4,hF4,h4⟩:=hq;have Vd:(LD.iw ⟨y.1.L,y.1.m⟩ L.next).2=0→qX (LD.iw ⟨y.1.L,y.1.m⟩ L.next).1.L:=fun _=>hL3.iw nB;have hl4:(LD.iw ⟨y.1.L,y.1.m⟩ L.next).1.L.eo.length≤2^30+1:=by
      unfold LD.iw;dsimp only;split
      ·simp only [au,bu,aa1];show L.eo.length+1≤_;omega
      ·rw [aa1];show L.eo.length≤_;omega
     rw [hy] at eR;generalize hro:LD.iw ⟨y.1.L,y.1.m⟩ L.next=q at eR h4 Vd hl4⊢
     have np:=fm.less hF4;repeat' first|refine aJ ?_;intros|refine dM ?_ ?_<;>intros
     ·have hz:q.2≠0:=by have: ¬(q.2:Int)=0:=(by assumption);omega
      rw [eR,if_pos hz] at hr;subst hr;exact np.fin fun wa bk=>⟨rfl,F4,np.gU bk fun _ h=>h,h4.mv (bk.fi np.bK)⟩
     ·have hz:q.2=0:=by have:(q.2:Int)=0:=(by assumption);omega
      obtain⟨FL4,FD4,sv4,bl4,h4⟩:=h4.lw;exact hK _ _ _ _ _ _ _ q.1 (by rw [eR,←hz]) (Vd hz) hl4 np h4
   ·have dV: ¬L.room≤L.last.size:=by omega
    rw [if_neg dV] at eR;exact hK _ _ _ _ _ _ _ ⟨L,m⟩ eR hL (by show L.eo.length≤_;omega) cW h2
theorem qX.tail {L:LM} {s t:Jm} {r:List Jm} (h:qX L) (hs:L.eo=s::t::r):qX { L with eo:=t::r } :=
 ⟨by simp,h.d1,h.d2,fun x hx=>h.Ai x (by rw [hs];exact List.mem_cons_of_mem _ hx),h.room⟩
end Go.Proofs.YtbpnemeooenpmaaGreat
namespace Go.Proofs.YtbpnemeooenpmaaGreat
open Go.Proofs.Tryz renaming prog → pg
open Go.aV
def LD.jH (x:LD) (e:Nat) (bs:List Nat):LD×Nat×Nat:=
 if e≠0 then(x,0,e)else
  let r:=x.append bs
  if r.2.2≠0 then r else(r.1.sync.1,r.2.1,r.1.sync.2)
def DM.ks (m:DM):List ByteArray:=m.fs.map (·.1)
theorem DM.get_some {m:DM} {n:ByteArray} :(m.get n).isSome=true↔n∈m.ks:=by
 have h:=getM_none (k:=n) (l:=m.fs)
 show(getM n m.fs).isSome=true↔n∈m.fs.map (·.1)
 cases hg:getM n m.fs with
 |none=>simpa using h.1 hg
 |some x=>
  simp only [Option.isSome_some,true_iff];rcases Classical.em (n∈m.fs.map (·.1))with h'|h'
  ·exact h'
  ·have:=h.2 h';rw [hg] at this;cases this
theorem DM.acy (m:DM):m.ks.length=m.fs.length:=by simp [DM.ks]
structure mf (m:DM):Prop where
 ar:m.ar=0
 dn:m.dn=false
theorem mf.tick {m:DM} (h:mf m):mf m.tick:=by
 unfold DM.tick;rw [if_neg (by rw [h.ar];decide)];exact⟨by simp [h.ar],h.dn⟩
theorem mf.write {m:DM} (h:mf m) (f:DM→DM):m.write 0 f=(f m.tick,0):=by
 unfold DM.write;rw [if_neg (by rw [h.dn];simp),if_neg (by simp),if_neg (by rw [h.tick.dn];simp)]
theorem mf.acz {m:DM} (h:mf m) {e:Nat} (he:e≠0) (f:DM→DM):m.write e f=(m,e):=by
 unfold DM.write;rw [if_neg (by rw [h.dn];simp),if_pos he]
theorem mf.create {m:DM} (h:mf m) {n:ByteArray} (hn:xj n=true) (hk: ¬n∈m.ks):
  (64≤m.fs.length∧m.create n=(m,3))∨(m.fs.length<64∧(m.create n).2=0∧mf (m.create n).1∧(m.create n).1.ks=m.ks++[n]∧(m.create n).1.sz=m.sz):=by
 have hg: ¬(m.get n).isSome=true:=fun e=>hk (DM.get_some.1 e);unfold DM.create;rw [if_neg (by simp [hn]),if_neg hg];by_cases hl:64≤m.fs.length
 ·left;rw [if_pos hl];exact⟨hl,h.acz (by decide) _⟩
 ·right;rw [if_neg hl,h.write];refine⟨by omega,rfl,⟨h.tick.ar,h.tick.dn⟩,?_,?_⟩
  ·show(dS n ([],0) m.tick.fs).map (·.1)=_
   rw [zK,m.BO,if_neg (show¬(getM n m.fs).isSome=true from hg)];rfl
  ·have:m.tick.get n=none:=by rw [m.zo];simpa using hg
   rw [DM.YX this,m.Lc];simp
theorem mf.append {m:DM} (h:mf m) {n:ByteArray} {b:List Nat} (hk:n∈m.ks) (fL:m.sz+b.length≤4194304):
  (m.append n b).2=0∧mf (m.append n b).1∧(m.append n b).1.ks=m.ks∧(m.append n b).1.sz=m.sz+b.length:=by
 have hg:=DM.get_some.2 hk;unfold DM.append;rw [if_neg (by rw [h.dn];simp)];cases hx:m.get n with
 |none=>rw [hx] at hg;cases hg
 |some x=>
  obtain⟨bs,s⟩:=x;dsimp only;rw [if_neg zQ];refine⟨by rw [if_neg (by rw [h.tick.dn];simp)],⟨h.tick.ar,h.tick.dn⟩,?_,?_⟩
  ·show(dS n (bs++b,s) m.tick.fs).map (·.1)=_
   rw [zK,m.BO,if_pos (show(getM n m.fs).isSome=true from hg)];rfl
  ·have:m.tick.get n=some (bs,s):=by rw [m.zo];exact hx
   have:=DM.WJ (bs:=bs++b) (s':=s) this;rw [m.Lc,au] at this;dsimp only;omega
theorem mf.sync {m:DM} (h:mf m) {n:ByteArray} (hk:n∈m.ks):(m.sync n).2=0∧mf (m.sync n).1∧(m.sync n).1.ks=m.ks∧(m.sync n).1.sz=m.sz:=by
 have hg:=DM.get_some.2 hk;unfold DM.sync;rw [if_pos hg,h.write];have hgt:(m.tick.get n).isSome=true:=by rw [m.zo];exact hg
 refine⟨rfl,?_,?_,by dsimp only;rw [DM.WK,m.Lc]⟩
 ·unfold DM.zB;dsimp only;split
  ·exact h.tick
  ·exact⟨h.tick.ar,h.tick.dn⟩
 ·unfold DM.zB;dsimp only;split
  ·unfold DM.ks;rw [m.BO]
  ·rename_i x hx
   show(dS n _ m.tick.fs).map (·.1)=_
   rw [zK,m.BO,if_pos (show(getM n m.fs).isSome=true from hg)];rfl
theorem WV: ∀{k a b:Nat},a<10^k→b<10^k→uH k a=uH k b→a=b
 |0,a,b,ha,hb,_=>by omega
 |k+1,a,b,ha,hb,h=>by
  unfold uH at h;obtain⟨h1,h2⟩:=List.append_inj' h rfl;have:=WV (k:=k) (a:=a/10) (b:=b/10) (by rw [Nat.pow_succ] at ha;omega) (by rw [Nat.pow_succ] at hb;omega) h1;simp at h2;omega
theorem Rb: ∀(k n:Nat),∀x∈uH k n,x<256
 |0,_,x,h=>by cases h
 |k+1,n,x,h=>by
  unfold uH at h;rcases List.mem_append.1 h with h|h
  ·exact Rb k _ x h
  ·simp at h;omega
theorem ae6 {a b:List Nat} (ha: ∀x∈a,x<256) (hb: ∀x∈b,x<256) (h:Eh a=Eh b):a=b:=by
 unfold Eh at h;have h1:(a.map yu)=b.map yu:=by
  have:=congrArg (fun x:ByteArray=>x.data.toList) h;simpa using this
 have h2:=congrArg (List.map UInt8.toNat) h1;simp only [List.map_map] at h2;have e: ∀l:List Nat,(∀x∈l,x<256)→l.map (UInt8.toNat∘yu)=l:=fun l hl=>by
  refine(List.map_congr_left fun x hx=>?_).trans (List.map_id l);have:=hl x hx;simp [UInt8.toNat_ofNat'];omega
 rwa [e a ha,e b hb] at h2
theorem acA {dir:ByteArray} {a b:Nat} (ha:a<10^8) (hb:b<10^8) (h:iR dir a=iR dir b):a=b:=by
 unfold iR at h;have h1:=congrArg (fun x:ByteArray=>x.data.toList) h;simp only [ByteArray.data_append,Array.toList_append] at h1;have h2:=List.append_cancel_left h1;refine WV ha hb (ae6 (Rb _ _) (Rb _ _) ?_);unfold Eh at h2⊢;simp only at h2
 congr 1
 exact Array.toList_inj.1 h2
structure lJ (B c n:Nat) (x:LD):Prop where
 ok:mf x.m
 ne:x.L.eo≠[]
 d1:1≤x.L.dir.size
 d2:x.L.dir.size≤11
 r1:1≤x.L.room
 r2:x.L.room≤2^40
 keys: ∀k∈x.m.ks,∃f∈x.L.eo.map (·.first),k=iR x.L.dir f
 last:x.L.gI∈x.m.ks
 pw:(x.L.eo.map (·.first)).Pairwise (· < ·)
 emp:x.L.last.gd=[]→x.L.last.size=0
 pos: ∀s∈x.L.eo,1≤s.first∧s.first≤1+c∧s.first+s.gd.length≤1+c∧s.size≤B*c
 DE:x.L.next=1+c
 sz:x.m.sz≤B*c
 len:x.L.eo.length≤n
 uh:x.m.ks.length≤64
theorem lJ.lok {B c n:Nat} {x:LD} (h:lJ B c n x) (hb:B*c≤2^30) (hc:c≤2^30):qX x.L:=
 ⟨h.ne,h.d1,h.d2,fun s hs=>by have:=h.pos s hs;omega,h.r2⟩
structure Alike (x y:LD):Prop where
 eo:y.L.eo=x.L.eo
 dir:y.L.dir=x.L.dir
 room:y.L.room=x.L.room
 ks:y.m.ks=x.m.ks
 sz:y.m.sz=x.m.sz
 ok:mf y.m
theorem Alike.refl {x:LD} (h:mf x.m):Alike x x:=⟨rfl,rfl,rfl,rfl,rfl,h⟩
theorem Alike.trans {x y z:LD} (h:Alike x y) (k:Alike y z):Alike x z:=⟨k.eo.trans h.eo,k.dir.trans h.dir,k.room.trans h.room,k.ks.trans h.ks,k.sz.trans h.sz,k.ok⟩
theorem Alike.last {x y:LD} (h:Alike x y):y.L.last=x.L.last:=by unfold LM.last;rw [h.eo]
theorem Alike.gI {x y:LD} (h:Alike x y):y.L.gI=x.L.gI:=by unfold LM.gI;rw [h.last,h.dir]
theorem Alike.next {x y:LD} (h:Alike x y):y.L.next=x.L.next:=by unfold LM.next;rw [h.last]
theorem Alike.inv {B c n:Nat} {x y:LD} (h:Alike x y) (k:lJ B c n x):lJ B c n y:=by
 refine⟨h.ok,by rw [h.eo];exact k.ne,by rw [h.dir];exact k.d1,by rw [h.dir];exact k.d2,by rw [h.room];exact k.r1,by rw [h.room];exact k.r2,?_,?_,by rw [h.eo];exact k.pw,?_,?_,?_,?_,?_,by rw [h.ks];exact k.uh⟩
 ·rw [h.ks,h.eo,h.dir];exact k.keys
 ·rw [h.ks,h.gI];exact k.last
 ·rw [h.last];exact k.emp
 ·rw [h.eo];exact k.pos
 ·rw [h.next];exact k.DE
 ·rw [h.sz];exact k.sz
 ·rw [h.eo];exact k.len
theorem lJ.sync {B c n:Nat} {x:LD} (h:lJ B c n x):x.sync.2=0∧Alike x x.sync.1:=by
 obtain⟨h1,h2,h3,h4⟩:=h.ok.sync h.last;unfold LD.sync;dsimp only;rw [if_pos h1];exact⟨h1,⟨rfl,rfl,rfl,h3,h4,h2⟩⟩
def Full (x:LD):Prop:=64≤x.m.ks.length∧x.L.room≤x.L.last.size
theorem Alike.full {x y:LD} (h:Alike x y) (k:Full x):Full y:=by unfold Full;rw [h.ks,h.room,h.last];exact k
theorem lJ.le_last {B c n:Nat} {x:LD} (h:lJ B c n x) {f:Nat} (hf:f∈x.L.eo.map (·.first)):f≤x.L.last.first:=by
 have h1:=h.pw;rw [LM.Ra h.ne,bC] at h1 hf;obtain⟨_,_,h2⟩:=List.pairwise_append.1 h1;rcases List.mem_append.1 hf with hf|hf
 ·exact Nat.le_of_lt (h2 f hf _ (by simp))
 ·simp at hf;omega
theorem lJ.le_next {B c n:Nat} {x:LD} (h:lJ B c n x) {f:Nat} (hf:f∈x.L.eo.map (·.first)):f≤1+c:=by
 obtain⟨s,hs,rfl⟩:=List.mem_map.1 hf;exact(h.pos s hs).2.1
theorem lJ.iw {B c n:Nat} {x:LD} (h:lJ B c n x) (hr:x.L.last.gd≠[]) (lH:c+2<99999999):
  (64≤x.m.ks.length∧x.iw x.L.next=(x,3))∨(x.m.ks.length<64∧(x.iw x.L.next).2=0∧lJ B c (n+1) (x.iw x.L.next).1):=by
 have hl:1≤x.L.last.gd.length:=by
  cases hq:x.L.last.gd with
  |nil=>exact absurd hq hr
  |cons a b=>simp
 have nB:=h.DE;have JM: ¬iR x.L.dir x.L.next∈x.m.ks:=fun hk=>by
  obtain⟨f,hf,e⟩:=h.keys _ hk;have h1:=h.le_last hf;have h2:=h.le_next hf;have:=acA zQ zQ e;unfold LM.next at this;omega
 have hnm:xj (iR x.L.dir x.L.next)=true:=by
  have:=h.d1;have:=h.d2;simp only [xj,N8,decide_eq_true_eq];omega
 rw [x.m.acy];rcases h.ok.create hnm JM with⟨h1,h2⟩|⟨h1,h2,h3,h4,h5⟩
 ·left;refine⟨h1,?_⟩;unfold LD.iw;rw [h2];rfl
 ·right;refine⟨h1,?_⟩;have xk:(⟨x.L.dir,x.L.room,x.L.eo++[⟨x.L.next,[],0⟩],x.L.safe⟩:LM).last=⟨x.L.next,[],0⟩:=by simp [LM.last]
  unfold LD.iw;dsimp only;rw [if_pos h2];refine⟨h2,⟨h3,by simp,h.d1,h.d2,h.r1,h.r2,?_,?_,?_,?_,?_,?_,?_,?_,by dsimp only;rw [h4,au,x.m.acy];simp;omega⟩⟩
  ·rw [h4];intro k hk;rcases List.mem_append.1 hk with hk|hk
   ·obtain⟨f,hf,e⟩:=h.keys k hk;exact⟨f,by rw [bC];exact bR _ hf,e⟩
   ·simp at hk;exact⟨x.L.next,by simp,hk⟩
  ·rw [h4];unfold LM.gI;rw [xk];simp
  ·rw [bC];refine List.pairwise_append.2 ⟨h.pw,by simp,fun a ha b hb=>?_⟩;simp at hb;subst hb;have:=h.le_last ha;unfold LM.next;omega
  ·intro _;rw [xk]
  ·intro s hs;rcases List.mem_append.1 hs with hs|hs
   ·exact h.pos s hs
   ·simp at hs;subst hs;simp;omega
  ·show(⟨x.L.dir,x.L.room,x.L.eo++[⟨x.L.next,[],0⟩],x.L.safe⟩:LM).last.first+(⟨x.L.dir,x.L.room,x.L.eo++[⟨x.L.next,[],0⟩],x.L.safe⟩:LM).last.gd.length=1+c
   rw [xk];simpa using nB
  ·rw [h5];exact h.sz
  ·simp;exact h.len
theorem lJ.lay {B c n:Nat} {x:LD} {p:List Nat} (h:lJ B c n x) (hp:p.length+12≤B) (hc:B*(c+1)≤4194304):(x.lay p).2=0∧lJ B (c+1) n (x.lay p).1:=by
 have hB:B*(c+1)=B*c+B:=Nat.mul_succ B c;have iO:(kr p).length=p.length+12:=by simp [kr,yX]
 have fL:=h.sz;obtain⟨h1,h2,h3,h4⟩:=h.ok.append (b:=kr p) h.last zQ;have hlm:=LM.vY h.ne;have hle:=LM.Ra h.ne;obtain⟨p1,p2,p3,p4⟩:=h.pos _ hlm;have xk:(x.L.add p).last=⟨x.L.last.first,x.L.last.gd++[p],x.L.last.size+(kr p).length⟩:=by simp [LM.last,LM.add]
 have Sn:(x.L.add p).eo.map (·.first)=x.L.eo.map (·.first):=by
  conv=>rhs;rw [hle]
  simp [LM.add]
 unfold LD.lay;dsimp only;rw [if_pos h1];refine⟨h1,⟨h2,by simp [LM.add],h.d1,h.d2,h.r1,h.r2,?_,?_,?_,?_,?_,?_,?_,?_,by dsimp only;rw [h3];exact h.uh⟩⟩
 ·dsimp only;rw [h3,Sn];exact h.keys
 ·dsimp only;rw [h3];unfold LM.gI;rw [xk];exact h.last
 ·dsimp only;rw [Sn];exact h.pw
 ·dsimp only;rw [xk];intro e;simp at e
 ·dsimp only;intro s hs;rcases List.mem_append.1 hs with hs|hs
  ·have:=h.pos s (by rw [hle];exact bR _ hs);omega
  ·simp only [bw] at hs;subst hs;simp only [au,bh,bI,iO];omega
 ·have:=h.DE;dsimp only;unfold LM.next at this⊢;rw [xk];simp;omega
 ·dsimp only;rw [h4];omega
 ·have:=h.len;rw [hle] at this;simpa [LM.add] using this
theorem lJ.more {B c n n':Nat} {x:LD} (h:lJ B c n x) (hn:n≤n'):lJ B c n' x:= { h with len:=ah h.len hn }
theorem lJ.gd {B c n:Nat} {x:LD} (h:lJ B c n x) (hr:x.L.room≤x.L.last.size):x.L.last.gd≠[]:=fun e=>by
 have:=h.emp e;have:=h.r1;omega
theorem lJ.append {B c n:Nat} {x:LD} {p:List Nat} (h:lJ B c n x) (hp:p.length+12≤B) (hB:B≤262144) (hc:B*(c+1)≤4194304) (lH:c+2<99999999):
  ((x.append p).2.2=0∧(x.append p).2.1=1+c∧lJ B (c+1) (n+1) (x.append p).1)∨((x.append p).2.2=3∧Full x∧Alike x (x.append p).1):=by
 have nB:=h.DE;unfold LD.append;rw [if_neg zQ,if_neg zQ];dsimp only;unfold LD.room;by_cases hr:x.L.room≤x.L.last.size
 ·rw [if_pos hr];obtain⟨h1,h2⟩:=h.sync;dsimp only;rw [if_neg (show¬x.sync.2≠0 from by rw [h1];simp)];have hi:=h2.inv h;rw [←h2.next];rcases hi.iw (hi.gd (by rw [h2.room,h2.last];exact hr)) lH with⟨g1,g2⟩|⟨g1,g2,g3⟩
  ·right;rw [g2];dsimp only;rw [if_pos (by simp)];exact⟨rfl,⟨by rw [←h2.ks];exact g1,hr⟩,h2⟩
  ·left;rw [if_neg (by rw [g2];simp)];obtain⟨k1,k2⟩:=g3.lay hp hc;rw [if_neg (by rw [k1];simp)];exact⟨rfl,by rw [h2.next];exact nB,k2⟩
 ·left;rw [if_neg hr];dsimp only;rw [if_neg (by simp)];obtain⟨k1,k2⟩:=h.lay hp hc;rw [if_neg (by rw [k1];simp)];exact⟨rfl,nB,k2.more zQ⟩
theorem lJ.full {B c n:Nat} {x:LD} {p:List Nat} (h:lJ B c n x) (hf:Full x) (hp:p.length≤262144) (lH:c+2<99999999):(x.append p).2.2=3∧Alike x (x.append p).1:=by
 have nB:=h.DE;unfold LD.append;rw [if_neg zQ,if_neg zQ];dsimp only;unfold LD.room;rw [if_pos hf.2];obtain⟨h1,h2⟩:=h.sync;dsimp only;rw [if_neg (show¬x.sync.2≠0 from by rw [h1];simp)];have hi:=h2.inv h;rw [←h2.next];rcases hi.iw (hi.gd (by rw [h2.room,h2.last];exact hf.2)) lH with⟨g1,g2⟩|⟨g1,g2,g3⟩
 ·rw [g2];dsimp only;rw [if_pos (by simp)];exact⟨rfl,h2⟩
 ·have:=hf.1;rw [h2.ks] at g1;omega
theorem mf.acB {m:DM} (h:mf m) {e:Nat} (he:e≠12) {f:DM→DM} (hf: ∀m,mf m→mf (f m)):(m.write e f).2≠12∧mf (m.write e f).1:=by
 by_cases h0:e=0
 ·subst h0;rw [h.write];exact⟨by simp,hf _ h.tick⟩
 ·rw [h.acz h0];exact⟨he,h⟩
theorem mf.agK {m:DM} (h:mf m) (n:ByteArray):(m.create n).2≠12∧mf (m.create n).1:=by
 unfold DM.create;refine h.acB ?_ fun m hm=>⟨hm.ar,hm.dn⟩;split
 ·decide
 ·split
  ·decide
  ·split<;>decide
theorem mf.akp {m:DM} (h:mf m) (n:ByteArray):(m.sync n).2≠12∧mf (m.sync n).1:=by
 unfold DM.sync;refine h.acB (by split<;>decide) fun m hm=>?_;unfold DM.zB;split
 ·exact hm
 ·exact⟨hm.ar,hm.dn⟩
theorem mf.agL {m:DM} (h:mf m) (n:ByteArray) (b:List Nat):(m.append n b).2≠12∧mf (m.append n b).1:=by
 unfold DM.append;rw [if_neg (by rw [h.dn];simp)];split
 ·exact⟨by simp,h⟩
 ·split
  ·exact⟨by simp,h⟩
  ·refine⟨?_,⟨h.tick.ar,h.tick.dn⟩⟩;dsimp only;rw [if_neg (by rw [h.tick.dn];simp)]
   decide
structure GL (n:Nat) (x:LD):Prop where
 ok:mf x.m
 ne:x.L.eo≠[]
 d1:1≤x.L.dir.size
 d2:x.L.dir.size≤11
 Ai: ∀s∈x.L.eo,s.first+s.gd.length≤n∧s.size≤n*300000
 room:x.L.room≤2^40
 len:x.L.eo.length≤n
theorem GL.up {n n':Nat} {x:LD} (h:GL n x) (hn:n≤n'):GL n' x:=
 ⟨h.ok,h.ne,h.d1,h.d2,fun s hs=>by have:=h.Ai s hs;have:n*300000≤n'*300000:=Nat.mul_le_mul_right _ hn;omega,h.room,ah h.len hn⟩
theorem GL.lok {n:Nat} {x:LD} (h:GL n x) (hn:n≤1000):qX x.L:=
 ⟨h.ne,h.d1,h.d2,fun s hs=>by have:=h.Ai s hs;omega,h.room⟩
theorem GL.sync {n:Nat} {x:LD} (h:GL n x):x.sync.2≠12∧GL n x.sync.1:=by
 obtain⟨h1,h2⟩:=h.ok.akp x.L.gI;unfold LD.sync;dsimp only;refine⟨h1,?_⟩;split
 ·exact⟨h2,h.ne,h.d1,h.d2,h.Ai,h.room,h.len⟩
 ·exact⟨h2,h.ne,h.d1,h.d2,h.Ai,h.room,h.len⟩
theorem GL.iw {n:Nat} {x:LD} (h:GL n x):(x.iw x.L.next).2≠12∧GL (n+1) (x.iw x.L.next).1:=by
 obtain⟨h1,h2⟩:=h.ok.agK (iR x.L.dir x.L.next);have hu:=h.up (n':=n+1) zQ;unfold LD.iw;dsimp only;refine⟨h1,?_⟩;split
 ·refine⟨h2,by simp,h.d1,h.d2,fun s hs=>?_,h.room,by simp;exact h.len⟩;rcases List.mem_append.1 hs with hs|hs
  ·exact hu.Ai s hs
  ·simp only [bw] at hs;subst hs;have:=(h.Ai _ (LM.vY h.ne)).1;have e:x.L.next=x.L.last.first+x.L.last.gd.length:=rfl
   simp only [bI];omega
 ·exact⟨h2,hu.ne,hu.d1,hu.d2,hu.Ai,hu.room,hu.len⟩
theorem GL.akq {n:Nat} {x:LD} (h:GL n x):x.room.2≠12∧GL (n+1) x.room.1:=by
 unfold LD.room;split
 ·dsimp only;obtain⟨h1,h2⟩:=h.sync;split
  ·exact⟨h1,h2.up zQ⟩
  ·have e:x.sync.1.L.next=x.L.next:=by unfold LM.next LM.last;rw [LD.St]
   rw [←e];exact h2.iw
 ·exact⟨by simp,h.up zQ⟩
theorem GL.lay {n:Nat} {x:LD} {p:List Nat} (h:GL n x) (hp:p.length≤262144):(x.lay p).2≠12∧GL (n+1) (x.lay p).1:=by
 obtain⟨h1,h2⟩:=h.ok.agL x.L.gI (kr p);have hu:=h.up (n':=n+1) zQ;have iO:=PK p;unfold LD.lay;dsimp only;refine⟨h1,?_⟩;split
 ·have hle:=LM.Ra h.ne;have hlm:=h.Ai _ (LM.vY h.ne);refine⟨h2,by simp [LM.add],h.d1,h.d2,fun s hs=>?_,h.room,?_⟩
  ·rcases List.mem_append.1 hs with hs|hs
   ·exact hu.Ai s (by rw [hle];exact bR _ hs)
   ·simp only [bw] at hs;subst hs;simp only [au,bh,bI];omega
  ·have:=hu.len;rw [hle] at this;simp only [LM.add,au,bh,bI] at this⊢;omega
 ·exact⟨h2,hu.ne,hu.d1,hu.d2,hu.Ai,hu.room,hu.len⟩
theorem GL.append {n:Nat} {x:LD} (h:GL n x) (p:List Nat):(x.append p).2.2≠12∧GL (n+2) (x.append p).1:=by
 unfold LD.append;split
 ·exact⟨by simp,h.up zQ⟩
 ·split
  ·exact⟨by simp,h.up zQ⟩
  ·obtain⟨h1,h2⟩:=h.akq;dsimp only;split
   ·exact⟨h1,h2.up zQ⟩
   ·obtain⟨h3,h4⟩:=h2.lay (p:=p) zQ;split
    ·exact⟨h3,h4⟩
    ·exact⟨by simp,h4⟩
theorem GL.jH {n:Nat} {x:LD} (h:GL n x) (p:List Nat):(x.jH 0 p).2.2≠12∧GL (n+2) (x.jH 0 p).1:=by
 obtain⟨h1,h2⟩:=h.append p;unfold LD.jH;rw [if_neg (by simp)];dsimp only;split
 ·exact⟨h1,h2⟩
 ·exact h2.sync
end Go.Proofs.YtbpnemeooenpmaaGreat
