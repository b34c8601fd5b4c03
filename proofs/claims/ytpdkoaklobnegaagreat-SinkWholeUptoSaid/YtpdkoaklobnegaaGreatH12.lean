/-
 Part 12 of the proof: what the last text leans on.
-/
import Derived.Test.YtpdkoaklobnegaaGreatH11
open Go.Op renaming bytesLess → bY
open Bool renaming and_eq_true → aA, or_eq_true → fM, or_eq_false_iff → tI, and_eq_false_iff → sZ
open List renaming length_append → ae, length_cons → aY, mem_cons_of_mem → aZ, length_nil → bz, mem_cons → gM, map_cons → bc, mem_singleton → aV, mem_append → kB, pairwise_map → ij, foldl_cons → ib, take_add_one → ca
open Nat renaming le_trans → ah
open Go.ByteArray renaming toList_eq → ey
open UInt8 renaming lt_irrefl → sH
open ByteArray renaming ext → nA
set_option linter.unusedVariables false
set_option linter.unusedSimpArgs false
namespace Go.Proofs.YtpdkoaklobnegaaGreat
open Go.Proofs.Tryz renaming prog → pg
open Go.dL
theorem kP.Vr {m:DM} (h:kP m) {e:Nat} (he:e≠12) {f:DM→DM} (hf: ∀m,kP m→kP (f m)):(m.write e f).2≠12∧kP (m.write e f).1:=by
 by_cases h0:e=0
 ·subst h0;rw [h.write];exact⟨by simp,hf _ h.tick⟩
 ·rw [h.Vf h0];exact⟨he,h⟩
theorem kP.agf {m:DM} (h:kP m) (n:ByteArray):(m.create n).2≠12∧kP (m.create n).1:=by
 unfold DM.create;refine h.Vr ?_ fun m hm=>⟨hm.ar,hm.dn⟩;split
 ·decide
 ·split
  ·decide
  ·split<;>decide
theorem kP.ajK {m:DM} (h:kP m) (n:ByteArray):(m.sync n).2≠12∧kP (m.sync n).1:=by
 unfold DM.sync;refine h.Vr (by split<;>decide) fun m hm=>?_;unfold DM.js;split
 ·exact hm
 ·exact⟨hm.ar,hm.dn⟩
theorem kP.agh {m:DM} (h:kP m) (n:ByteArray):(m.remove n).2≠12∧kP (m.remove n).1:=by
 unfold DM.remove;exact h.Vr (by split<;>decide) fun m hm=>⟨hm.ar,hm.dn⟩
theorem kP.agi {m:DM} (h:kP m) (n:ByteArray) (b:List Nat):(m.append n b).2≠12∧kP (m.append n b).1:=by
 unfold DM.append;rw [if_neg (by rw [h.dn];simp)];split
 ·exact⟨by simp,h⟩
 ·split
  ·exact⟨by simp,h⟩
  ·refine⟨?_,⟨h.tick.ar,h.tick.dn⟩⟩;dsimp only;rw [if_neg (by rw [h.tick.dn];simp)]
   decide
structure GL (n:Nat) (x:LD):Prop where
 ok:kP x.m
 ne:x.L.bI≠[]
 d1:1≤x.L.dir.size
 d2:x.L.dir.size≤11
 qd: ∀s∈x.L.bI,s.first+s.bS.length≤n∧s.size≤n*300000
 room:x.L.room≤2^40
 len:x.L.bI.length≤n
theorem GL.up {n n':Nat} {x:LD} (h:GL n x) (hn:n≤n'):GL n' x:=
 ⟨h.ok,h.ne,h.d1,h.d2,fun s hs=>by have:=h.qd s hs;have:n*300000≤n'*300000:=Nat.mul_le_mul_right _ hn;omega,h.room,ah h.len hn⟩
theorem GL.Fs {n:Nat} {x:LD} (h:GL n x) (hn:n≤1000):iT x.L:=
 ⟨h.ne,h.d1,h.d2,fun s hs=>by have:=h.qd s hs;omega,h.room⟩
theorem GL.sync {n:Nat} {x:LD} (h:GL n x):x.sync.2≠12∧GL n x.sync.1:=by
 obtain⟨h1,h2⟩:=h.ok.ajK x.L.ee;unfold LD.sync;dsimp only;refine⟨h1,?_⟩;split
 ·exact⟨h2,h.ne,h.d1,h.d2,h.qd,h.room,h.len⟩
 ·exact⟨h2,h.ne,h.d1,h.d2,h.qd,h.room,h.len⟩
theorem GL.fI {n:Nat} {x:LD} (h:GL n x):(x.fI x.L.next).2≠12∧GL (n+1) (x.fI x.L.next).1:=by
 obtain⟨h1,h2⟩:=h.ok.agf (bw x.L.dir x.L.next);have hu:=h.up (n':=n+1) zQ;unfold LD.fI;dsimp only;refine⟨h1,?_⟩;split
 ·refine⟨h2,by simp,h.d1,h.d2,fun s hs=>?_,h.room,by simp;exact h.len⟩;rcases List.mem_append.1 hs with hs|hs
  ·exact hu.qd s hs
  ·simp only [aV] at hs;subst hs;have:=(h.qd _ (LM.oJ h.ne)).1;have e:x.L.next=x.L.last.first+x.L.last.bS.length:=rfl
   simp only [bz];omega
 ·exact⟨h2,hu.ne,hu.d1,hu.d2,hu.qd,hu.room,hu.len⟩
theorem GL.aaC {n:Nat} {x:LD} (h:GL n x):x.room.2≠12∧GL (n+1) x.room.1:=by
 unfold LD.room;split
 ·dsimp only;obtain⟨h1,h2⟩:=h.sync;split
  ·exact⟨h1,h2.up zQ⟩
  ·have e:x.sync.1.L.next=x.L.next:=by unfold LM.next LM.last;rw [LD.Su]
   rw [←e];exact h2.fI
 ·exact⟨by simp,h.up zQ⟩
theorem GL.lay {n:Nat} {x:LD} {p:List Nat} (h:GL n x) (hp:p.length≤262144):(x.lay p).2≠12∧GL (n+1) (x.lay p).1:=by
 obtain⟨h1,h2⟩:=h.ok.agi x.L.ee (cC p);have hu:=h.up (n':=n+1) zQ;have eI:=lQ p;unfold LD.lay;dsimp only;refine⟨h1,?_⟩;split
 ·have hle:=LM.QQ h.ne;have hlm:=h.qd _ (LM.oJ h.ne);refine⟨h2,by simp [LM.add],h.d1,h.d2,fun s hs=>?_,h.room,?_⟩
  ·rcases List.mem_append.1 hs with hs|hs
   ·exact hu.qd s (by rw [hle];exact List.mem_append_left _ hs)
   ·simp only [aV] at hs;subst hs;simp only [ae,aY,bz];omega
  ·have:=hu.len;rw [hle] at this;simp only [LM.add,ae,aY,bz] at this⊢;omega
 ·exact⟨h2,hu.ne,hu.d1,hu.d2,hu.qd,hu.room,hu.len⟩
theorem GL.append {n:Nat} {x:LD} (h:GL n x) (p:List Nat):(x.append p).2.2≠12∧GL (n+2) (x.append p).1:=by
 unfold LD.append;split
 ·exact⟨by simp,h.up zQ⟩
 ·split
  ·exact⟨by simp,h.up zQ⟩
  ·obtain⟨h1,h2⟩:=h.aaC;dsimp only;split
   ·exact⟨h1,h2.up zQ⟩
   ·obtain⟨h3,h4⟩:=h2.lay (p:=p) zQ;split
    ·exact⟨h3,h4⟩
    ·exact⟨by simp,h4⟩
theorem GL.dN {n:Nat} {x:LD} (h:GL n x) (p:List Nat):(x.dN 0 p).2.2≠12∧GL (n+2) (x.dN 0 p).1:=by
 obtain⟨h1,h2⟩:=h.append p;unfold LD.dN;rw [if_neg (by simp)];dsimp only;split
 ·exact⟨h1,h2⟩
 ·exact h2.sync
theorem GL.trim {n below:Nat} : ∀{K:Nat} {x:LD},GL n x→(x.trim below K).2≠12∧GL n (x.trim below K).1
 |0,x,h=>⟨by simp [LD.trim],h⟩
 |K+1,x,h=>by
  unfold LD.trim;split
  ·rename_i s t r JE;split
   ·obtain⟨h1,h2⟩:=h.ok.agh (bw x.L.dir s.first);dsimp only;split
    ·exact⟨h1,⟨h2,h.ne,h.d1,h.d2,h.qd,h.room,h.len⟩⟩
    ·have hl:=h.len;rw [JE] at hl;refine GL.trim ⟨h2,by simp,h.d1,h.d2,fun y hy=>h.qd y (by rw [JE];exact aZ _ hy),h.room,?_⟩;simp only [aY] at hl⊢;omega
   ·exact⟨by simp,h⟩
  ·exact⟨by simp,h⟩
theorem Pj: ∀l:List UInt8,bY l l=false
 |[]=>rfl
 |a::l=>by simp [bY,Pj l,sH]
theorem Sv: ∀{a b:List UInt8},bY a b=true→bY b a=false
 |_,[],h=>by simp [bY] at h
 |[],_::_,_=>by simp [bY]
 |a::l,b::m,h=>by
  simp only [bY,fM,aA,decide_eq_true_eq,beq_iff_eq,tI,sZ,decide_eq_false_iff_not] at h⊢;rcases h with h|⟨rfl,h⟩
  ·exact⟨UInt8.not_lt.2 (UInt8.le_of_lt h),.inl (by simp;rintro rfl;exact sH _ h)⟩
  ·exact⟨sH _,.inr (Sv h)⟩
theorem Sw: ∀{a b:List UInt8},bY a b=false→a≠b→bY b a=true
 |[],[],_,h=>absurd rfl h
 |_::_,[],_,_=>by simp [bY]
 |[],_::_,h,_=>by simp [bY] at h
 |a::l,b::m,h,cU=>by
  simp only [bY,fM,aA,decide_eq_true_eq,beq_iff_eq,tI,sZ,decide_eq_false_iff_not] at h⊢;obtain⟨h1,h2⟩:=h;by_cases qS:a=b
  ·subst qS;right;refine⟨rfl,Sw ?_ fun e=>cU (by rw [e])⟩;rcases h2 with h2|h2
   ·simp at h2
   ·exact h2
  ·left;exact UInt8.lt_of_le_of_ne (UInt8.not_lt.1 h1) (Ne.symm qS)
theorem Sx: ∀{a b c:List UInt8},bY a b=true→bY b c=true→bY a c=true
 |[],[],_,h,_=>by simp [bY] at h
 |[],_::_,[],_,h=>by simp [bY] at h
 |[],_::_,_::_,_,_=>by simp [bY]
 |_::_,[],_,h,_=>by simp [bY] at h
 |_::_,_::_,[],_,h=>by simp [bY] at h
 |a::l,b::m,c::r,h1,h2=>by
  simp only [bY,fM,aA,decide_eq_true_eq,beq_iff_eq] at h1 h2⊢;rcases h1 with h1|⟨rfl,h1⟩
  ·rcases h2 with h2|⟨rfl,h2⟩
   ·exact .inl (UInt8.lt_trans h1 h2)
   ·exact .inl h1
  ·rcases h2 with h2|⟨rfl,h2⟩
   ·exact .inl h2
   ·exact .inr ⟨rfl,Sx h1 h2⟩
theorem acD (a:BA):jk a a=false:=Pj _
theorem ad7 {a b:BA} (h:jk a b=true):jk b a=false:=Sv h
theorem Vs {a b c:BA} (h1:jk a b=true) (h2:jk b c=true):jk a c=true:=Sx h1 h2
theorem ad8 {a b:BA} (h:jk a b=false) (cU:a≠b):jk b a=true:=Sw h fun e=>cU (by
 rw [ey,ey] at e;exact nA (Array.toList_inj.1 e))
theorem Ls {a b:BA} (h:jk a b=true):a≠b:=fun e=>by rw [e,acD] at h;cases h
abbrev Up (l:List KV):Prop:=l.Pairwise fun a b=>jk a.key b.key=true
theorem Vt: ∀{l m:List KV},Up l→Up m→(∀x,x∈l↔x∈m)→l=m
 |[],[],_,_,_=>rfl
 |[],b::m,_,_,h=>by have:=(h b).2 (by simp);simp at this
 |a::l,[],_,_,h=>by have:=(h a).1 (by simp);simp at this
 |a::l,b::m,h1,h2,h=>by
  have zU:=List.pairwise_cons.1 h1;have OS:=List.pairwise_cons.1 h2;have qS:a=b:=by
   rcases List.mem_cons.1 ((h a).1 (by simp))with e|ha
   ·exact e
   ·rcases List.mem_cons.1 ((h b).2 (by simp))with e|hb
    ·exact e.symm
    ·have h3:=zU.1 b hb;have h4:=OS.1 a ha;rw [ad7 h3] at h4;cases h4
  subst qS;rw [Vt zU.2 OS.2 fun x=>⟨fun hx=>?_,fun hx=>?_⟩]
  ·rcases List.mem_cons.1 ((h x).1 (aZ _ hx))with e|ZD
   ·subst e;exact absurd rfl (Ls (zU.1 _ hx))
   ·exact ZD
  ·rcases List.mem_cons.1 ((h x).2 (aZ _ hx))with e|ZD
   ·subst e;exact absurd rfl (Ls (OS.1 _ hx))
   ·exact ZD
theorem ad9 (x:KV):iV [] x=if x.val.kind≠0 then [x] else []:=by simp [iV]
theorem agj {y x:KV} {l:List KV} (h:jk y.key x.key=true):iV (y::l) x=y::iV l x:=by simp [iV,h]
theorem agk {y x:KV} {l:List KV} (h:jk y.key x.key=false):iV (y::l) x=(if x.val.kind≠0 then [x] else [])++if y.key=x.key then l else y::l:=by simp [iV,h]
theorem QT {x z:KV} :z∈(if x.val.kind≠0 then [x] else [])↔z=x∧x.val.kind≠0:=by
 split
 ·simp [*]
 ·simp_all
theorem acE {x:KV} {l:List KV} (h:Up l) (hx: ∀z∈l,jk x.key z.key=true):Up ((if x.val.kind≠0 then [x] else [])++l):=by
 split
 ·exact List.pairwise_cons.2 ⟨hx,h⟩
 ·exact h
theorem ZE (x:KV): ∀{l:List KV},Up l→Up (iV l x)∧ ∀z,z∈iV l x↔(z∈l∧z.key≠x.key)∨(z=x∧x.val.kind≠0)
 |[],_=>by
  rw [ad9];refine⟨by split<;>simp,fun z=>?_⟩;rw [QT];simp
 |y::l,h=>by
  have h':=List.pairwise_cons.1 h;cases Mr:jk y.key x.key with
  |true=>
   rw [agj Mr];obtain⟨i1,i2⟩:=ZE x h'.2;refine⟨List.pairwise_cons.2 ⟨fun z hz=>?_,i1⟩,fun z=>?_⟩
   ·rcases(i2 z).1 hz with⟨a,_⟩|⟨rfl,_⟩
    ·exact h'.1 z a
    ·exact Mr
   ·rw [gM,i2,gM];constructor
    ·rintro(rfl|⟨a,b⟩|c)
     ·exact .inl ⟨.inl rfl,Ls Mr⟩
     ·exact .inl ⟨.inr a,b⟩
     ·exact .inr c
    ·rintro(⟨rfl|a,b⟩|c)
     ·exact .inl rfl
     ·exact .inr (.inl ⟨a,b⟩)
     ·exact .inr (.inr c)
  |false=>
   rw [agk Mr];by_cases he:y.key=x.key
   ·rw [if_pos he];refine⟨acE h'.2 fun z hz=>by rw [←he];exact h'.1 z hz,fun z=>?_⟩;rw [kB,QT,gM];constructor
    ·rintro(a|a)
     ·exact .inr a
     ·exact .inl ⟨.inr a,fun e=>Ls (h'.1 z a) (by rw [he,e])⟩
    ·rintro(⟨rfl|a,b⟩|c)
     ·exact absurd he b
     ·exact .inr a
     ·exact .inl c
   ·rw [if_neg he];have hxy:=ad8 Mr he;have ti: ∀z∈y::l,jk x.key z.key=true:=fun z hz=>by
     rcases List.mem_cons.1 hz with rfl|hz
     ·exact hxy
     ·exact Vs hxy (h'.1 z hz)
    refine⟨acE h ti,fun z=>?_⟩;rw [kB,QT];constructor
    ·rintro(a|a)
     ·exact .inr a
     ·exact .inl ⟨a,fun e=>Ls (ti z a) e.symm⟩
    ·rintro(⟨a,b⟩|c)
     ·exact .inr a
     ·exact .inl c
theorem Vu {κ α:Type} [DecidableEq κ] {l:List (κ×α)} (hn:(l.map (·.1)).Nodup) {k:κ} {a:α} :(k,a)∈l↔getM k l=some a:=by
 refine⟨pR hn,fun h=>?_⟩;unfold getM at h;cases hf:l.find? (fun x=>decide (x.1=k))with
 |none=>rw [hf] at h;cases h
 |some y=>
  rw [hf] at h;have h1:=List.find?_some hf;have h2:=List.mem_of_find?_eq_some hf;simp only [decide_eq_true_eq] at h1;simp only [Option.map_some,Option.some.injEq] at h;rw [←h1,←h];exact h2
theorem xx {p:List (ByteArray×eQ)} (h:(p.map (·.1)).Nodup) (x:KV):((fq p x).map (·.1)).Nodup:=by
 unfold fq;split
 ·exact h.sublist ((List.filter_sublist).map _)
 ·exact Pb h
theorem aaD {p:List (ByteArray×eQ)} (h:(p.map (·.1)).Nodup) (x:KV) (k:ByteArray) (v:eQ):(k,v)∈fq p x↔((k,v)∈p∧k≠x.key)∨((⟨k,v⟩:KV)=x∧x.val.kind≠0):=by
 rw [Vu (xx h x),Vu h];unfold fq;by_cases hk:k=x.key
 ·subst hk;split
  ·rename_i h0;rw [QU];simp [h0]
  ·rename_i h0;rw [zp];constructor
   ·intro e;cases e;exact .inr ⟨rfl,h0⟩
   ·rintro(⟨_,b⟩|⟨b,_⟩)
    ·exact absurd rfl b
    ·rw [←b]
 ·have kU: ¬((⟨k,v⟩:KV)=x):=fun e=>hk (by rw [←e]);split
  ·rw [JI hk];simp [hk,kU]
  ·rw [CB hk];simp [hk,kU]
theorem zq {s:SM} (h:(s.bF.map (·.1)).Nodup):Up s.list∧ ∀x,x∈s.list↔(x.key,x.val)∈s.bF:=by
 have zF:=mK (s.bF.map (·.1));constructor
 ·unfold SM.list Up;rw [ij];have mP:(fB (s.bF.map (·.1))).Nodup:=zF.nodup_iff.2 h;have uZ:(fB (s.bF.map (·.1))).Pairwise fun a b=>bl a≤bl b:=by
   unfold fB;rw [ij];refine(List.pairwise_mergeSort Dv Dw _).imp fun qS=>?_;unfold leB at qS;simpa [bl] using qS
  refine(List.pairwise_and_iff.2 ⟨uZ,mP⟩).imp fun qS=>?_
  show jk _ _=true
  unfold jk;rw [ey,ey];exact Cv qS.1 fun e=>qS.2 (nA (Array.toList_inj.1 e))
 ·intro x;constructor
  ·intro hx;obtain⟨k,hk,rfl⟩:=List.mem_map.1 hx;obtain⟨y,hy,rfl⟩:=List.mem_map.1 (zF.mem_iff.1 hk);have:=pR h (k:=y.1) (a:=y.2) hy
   show(y.1,s.get y.1)∈s.bF
   unfold SM.get;rw [this];exact hy
  ·intro hx;have:=pR h hx;refine List.mem_map.2 ⟨x.key,zF.mem_iff.2 (List.mem_map.2 ⟨_,hx,rfl⟩),?_⟩;unfold SM.get;rw [this];rfl
theorem ZF {s s':SM} (h:s'.bF=s.bF):s'.list=s.list:=by
 unfold SM.list SM.get;rw [h]
theorem Yo {s:SM} (h:(s.bF.map (·.1)).Nodup) (x:KV):({ s with bF:=fq s.bF x } :SM).list=iV s.list x:=by
 obtain⟨a1,a2⟩:=zq h;obtain⟨b1,b2⟩:=zq (s:= { s with bF:=fq s.bF x }) (xx h x);obtain⟨c1,c2⟩:=ZE x a1;refine Vt b1 c1 fun z=>?_;rw [b2,c2,a2];exact aaD h x z.key z.val
theorem JJ: ∀(l:List KV) {s:SM},(s.bF.map (·.1)).Nodup→({ s with bF:=l.foldl fq s.bF } :SM).list=l.foldl iV s.list
 |[],s,_=>rfl
 |x::l,s,h=>by
  have ih:=JJ l (s:= { s with bF:=fq s.bF x }) (xx h x);rw [Yo h x] at ih;exact ih
def uv (p:List (ByteArray×eQ)):Nat:=(p.map fun x=>1+x.1.size+x.2.text.size).sum
theorem Pk (f:ByteArray×eQ→Bool): ∀p:List (ByteArray×eQ),uv (p.filter f)≤uv p
 |[]=>by simp [uv]
 |x::p=>by
  have ih:=Pk f p;rw [List.filter_cons];split<;>simp only [uv,bc,List.sum_cons] at ih⊢ <;>omega
theorem ZG (k:ByteArray) (v:eQ): ∀p:List (ByteArray×eQ),uv (fC k v p)≤uv p+(1+k.size+v.text.size)
 |[]=>by simp [uv,fC]
 |x::p=>by
  have ih:=ZG k v p;unfold fC;split<;>simp only [uv,bc,List.sum_cons] at ih⊢ <;>omega
theorem acF (p:List (ByteArray×eQ)) (x:KV):uv (fq p x)≤uv p+(1+x.key.size+x.val.text.size):=by
 unfold fq;split
 ·exact ah (Pk _ p) zQ
 ·exact ZG _ _ p
theorem Ny: ∀(l:List KV) (p:List (ByteArray×eQ)),uv (l.foldl fq p)≤uv p+fS l
 |[],p=>by simp
 |x::l,p=>by
  have ih:=Ny l (fq p x);have h1:=acF p x;have e:fS (x::l)=(1+x.key.size+x.val.text.size)+fS l:=by simp [fS]
  rw [ib,e];omega
theorem JK: ∀(l:List KV) {n:Nat} {p:List (ByteArray×eQ)},Cu n p→(∀x∈l,gI x.key=true∧x.val.may=true)→Cu (n+l.length) (l.foldl fq p)
 |[],n,p,h,_=>h
 |x::l,n,p,h,hl=>by
  have h1:=hl x (by simp);have:=JK l (h.apply h1.1 h1.2) fun y hy=>hl y (aZ _ hy);rw [aY,ib,show n+(l.length+1)=n+1+l.length from by omega];exact this
theorem Sy {α:Type} {p:α→Bool} {r:α→α→Bool} : ∀{l:List α} {o:Option α},chain p r o l=true→ ∀x∈l,p x=true
 |[],_,_,_,hx=>by simp at hx
 |y::l,o,h,x,hx=>by
  have h1:p y=true∧chain p r (some y) l=true:=by
   cases o<;>simp [chain] at h
   ·exact h
   ·exact⟨h.1.1,h.2⟩
  rcases List.mem_cons.1 hx with rfl|hx
  ·exact h1.1
  ·exact Sy h1.2 x hx
theorem u3 {prev st:bE} {t:gf} {l:List KV} (h:ik prev st t l=true):st.may=true∧l.length≤16∧ ∀x∈l,gI x.key=true∧x.val.may=true:=by
 unfold ik at h;simp only [aA,decide_eq_true_eq] at h;have he:=h.2;unfold eG.err at he;dsimp only at he;split at he
 ·simp at he
 ·split at he
  ·simp at he
  ·rename_i h2;split at he
   ·simp at he
   ·rename_i h3;split at he
    ·rename_i h4;simp only [fM,Bool.not_eq_true',not_or,Bool.not_eq_false,rD,aA,decide_eq_true_eq] at h2 h3;have h5:=h3.2.1;have h6:=h3.2.2;refine⟨h2.1,by rw [List.length_map] at h6;omega,fun x hx=>⟨Sy h5 x.key (List.mem_map.2 ⟨x,hx,rfl⟩),?_⟩⟩;exact List.all_eq_true.1 h4 x hx
    ·simp at he
theorem CC {n:Int} (h1:0≤n) (h2:n<8192):(encI n).length≤2:=by
 have hz:qV n<128^2:=by
  unfold qV;rw [if_neg zQ];have:(128:Nat)^2=16384:=by decide
  omega
 exact Nz 2 (qV n) hz
theorem aaE {x:KV} (hk:gI x.key=true) (hv:x.val.may=true):(cM x).length≤7*(1+x.key.size+x.val.text.size):=by
 have ai:1≤x.key.size∧x.key.size≤24:=by
  unfold gI at hk;simp only [aA,decide_eq_true_eq] at hk;omega
 have e1:=nq x.key;have e2:=CC (n:=x.key.size) zQ zQ;have e3:(kE x.val).length≤10+x.val.text.size:=by
  unfold kE;rw [if_pos hv];unfold eQ.may at hv;dsimp only;rw [ae];split
  ·rename_i h1;have e4:=CC (n:=x.val.kind) zQ zQ;have:(rG x.val.num).length=8:=by simp [rG]
   omega
  ·split
   ·rename_i h1 h2;have e4:=CC (n:=x.val.kind) zQ zQ;rw [if_neg zQ,if_neg zQ,if_pos h2] at hv;simp only [aA,decide_eq_true_eq] at hv;have e5:=nq x.val.text;have e6:=CC (n:=x.val.text.size) zQ zQ;omega
   ·rename_i h1 h2;split at hv
    ·rename_i h0;have e4:=CC (n:=x.val.kind) zQ zQ;simp only [bz];omega
    ·cases hv
 unfold cM;rw [ae];omega
theorem T8: ∀l:List KV,(∀x∈l,gI x.key=true∧x.val.may=true)→(l.map cM).flatten.length≤7*fS l
 |[],_=>by simp
 |x::l,h=>by
  have h1:=h x (by simp);have h3:=aaE h1.1 h1.2;have h2:=T8 l fun y hy=>h y (aZ _ hy);have e:fS (x::l)=(1+x.key.size+x.val.text.size)+fS l:=by simp [fS]
  simp only [bc,List.flatten_cons,ae];omega
theorem Sz {prev st:bE} {t:gf} {l:List KV} (h: ∀x∈l,gI x.key=true∧x.val.may=true) (hw:fS l≤20000):(gS (en prev st t l)).length≤262144:=by
 have h1:=dW (en prev st t l).kind;have h2:=iB prev;have h3:=iB st;have h4:=tF t;have h5:=dW ((l.length:Nat):Int);have h6:=T8 l h;unfold gS en fY at*;simp only [ae] at*;omega
theorem acG {st:bE} {l:List KV} (h: ∀x∈l,gI x.key=true∧x.val.may=true) (hw:fS l≤20000):(fT (fg st l)).length≤262144:=by
 have h1:=dW (fg st l).kind;have h2:=iB st;have h5:=dW ((l.length:Nat):Int);have h6:=T8 l h;unfold fT fg fY at*;simp only [ae] at*;omega
theorem MK (a b:List KV):fS (a++b)=fS a+fS b:=by simp [fS]
theorem vX: ∀l:List KV,l.length≤fS l
 |[]=>by simp
 |x::l=>by
  have h1:=vX l;have e:fS (x::l)=(1+x.key.size+x.val.text.size)+fS l:=by simp [fS]
  rw [aY];omega
theorem zI (a b:List fN):jf (a++b)=jf a++jf b:=by simp [jf]
theorem An {s:SM} (h:(s.bF.map (·.1)).Nodup):fS s.list=uv s.bF:=by
 have hp:=(mK (s.bF.map (·.1))).map fun k=>1+k.size+(s.get k).text.size;have hs:=hp.sum_nat;unfold fS SM.list uv;rw [List.map_map];refine Eq.trans (b:=((fB (s.bF.map (·.1))).map fun k=>1+k.size+(s.get k).text.size).sum) rfl ?_;rw [hs,List.map_map]
 congr 1
 refine List.map_congr_left fun y hy=>?_;have:=pR h (k:=y.1) (a:=y.2) hy
 show 1+y.1.size+(s.get y.1).text.size=_
 unfold SM.get;rw [this];rfl
structure vY (n wt:Nat) (s:SM) (x:LD):Prop where
 ev:s.every=3
 si:0≤s.since∧s.since≤n
 dn:s.down=false
 may:s.high.may=true
 dl:s.done.length≤n
 aw:fS (jf s.done)≤wt
 pi:Cu (jf s.done).length s.bF
 pw:uv s.bF≤fS (jf s.done)
 ls:s.list=(jf s.done).foldl iV []
 hi: ∀e,s.done.getLast? =some e→e.aP=s.high
 lg:GL (1+2*n) x
theorem vY.up {n n' wt qW:Nat} {s:SM} {x:LD} (h:vY n wt s x) (hn:n≤n') (hw:wt≤qW):vY n' qW s x:=
 ⟨h.ev,by have:=h.si;omega,h.dn,h.may,ah h.dl hn,ah h.aw hw,h.pi,h.pw,h.ls,h.hi,h.lg.up zQ⟩
theorem vY.log {n wt:Nat} {s:SM} {x y:LD} (h:vY n wt s x) (hy:GL (1+2*n) y):vY n wt s y:=
 ⟨h.ev,h.si,h.dn,h.may,h.dl,h.aw,h.pi,h.pw,h.ls,h.hi,hy⟩
theorem vY.zo {n wt:Nat} {s:SM} {x:LD} (h:vY n wt s x):(∀y∈s.list,gI y.key=true∧y.val.may=true∧y.val.kind≠0)∧fS s.list≤wt∧s.list.length≤wt:=by
 have h1:=An h.pi.nd;have h2:=h.pw;have h3:=h.aw;have h4:=vX s.list;refine⟨fun y hy=>h.pi.zo _ ((zq h.pi.nd).2 y|>.1 hy),by omega,by omega⟩
theorem vY.step {n wt:Nat} {s:SM} {x:LD} (h:vY n wt s x) (g:fJ):vY (n+1) (wt+fS g.writes) (mL s x g).1 (mL s x g).2:=by
 unfold mL;split
 ·rename_i ha;simp only [aA] at ha;obtain⟨ha,hf⟩:=ha;simp only [SM.rE,aA,decide_eq_true_eq] at hf;have rW:=fJ.BP ha hf.1.1;obtain⟨m1,m2,m3⟩:=u3 rW;obtain⟨k1,k2⟩:=h.lg.dN (gS (en g.prev g.aP g.cB g.writes));have k3:GL (1+2*(n+1)) (x.dN 0 (gS (en g.prev g.aP g.cB g.writes))).1:=k2;dsimp only;split
  ·have mP:=h.pi.nd;have e1:jf (s.apply g.cB g.aP g.writes).done=jf s.done++g.writes:=by
    show jf (s.done++[_])=_
    rw [zI];simp [jf]
   have Mq:=h.si;refine⟨h.ev,?_,h.dn,m1,?_,?_,?_,?_,?_,?_,k3⟩
   ·show 0≤s.since+1∧s.since+1≤_;omega
   ·show(s.done++[_]).length≤_
    have:=h.dl;simp;omega
   ·show fS (jf (s.apply g.cB g.aP g.writes).done)≤_
    rw [e1,MK];have:=h.aw;omega
   ·show Cu (jf (s.apply g.cB g.aP g.writes).done).length (g.writes.foldl fq s.bF)
    rw [e1,ae];exact JK g.writes h.pi m3
   ·show uv (g.writes.foldl fq s.bF)≤fS (jf (s.apply g.cB g.aP g.writes).done)
    rw [e1,MK];have:=Ny g.writes s.bF;have:=h.pw;omega
   ·show _=(jf (s.apply g.cB g.aP g.writes).done).foldl iV []
    rw [e1,List.foldl_append,←h.ls,←JJ g.writes mP];exact ZF rfl
   ·intro e he;have xy:(s.done++[(⟨g.cB,g.aP,g.writes⟩:fN)]).getLast? =some e:=he;rw [List.getLast?_append] at xy;simp at xy;rw [←xy];rfl
  ·exact(h.up zQ zQ).log k3
 ·exact h.up zQ zQ
theorem vY.tick {n wt K:Nat} {s:SM} {x:LD} (h:vY n wt s x):vY (n+1) wt (kL s x K).1 (kL s x K).2:=by
 unfold kL;split
 ·exact h.up zQ zQ
 ·obtain⟨k1,k2⟩:=h.lg.dN (fT (fg s.high s.list));have k3:GL (1+2*(n+1)) (x.dN 0 (fT (fg s.high s.list))).1:=k2;dsimp only;split
  ·have h2:=(h.up (n':=n+1) (qW:=wt) zQ zQ).log (k3.trim (below:=(x.dN 0 (fT (fg s.high s.list))).2.1) (K:=K)).2;exact⟨h2.ev,by show(0:Int)≤0∧(0:Int)≤_;omega,h2.dn,h2.may,h2.dl,h2.aw,h2.pi,h2.pw,h2.ls,h2.hi,h2.lg⟩
  ·exact(h.up zQ zQ).log k3
theorem g0:vY 0 0 (fO 3) (x0 4096):=by
 have h:=(Pc (sz:=4096) (by decide) (by decide)).1;refine⟨rfl,by simp [fO],rfl,by simp [fO];decide,by simp [fO],by simp [fO,jf,fS],⟨by simp [fO],by simp [fO],by simp [fO]⟩,by simp [fO,uv],by simp [fO,SM.list,fB,jf],by simp [fO],⟨h.ok,h.ne,h.d1,h.d2,fun s hs=>?_,h.r2,h.len⟩⟩;have:=h.pos s hs;omega
end Go.Proofs.YtpdkoaklobnegaaGreat
namespace Go.Proofs.YtpdkoaklobnegaaGreat
open Go.Proofs.Tryz renaming prog → pg
open Go.dL
set_option maxRecDepth 100000
set_option maxHeartbeats 1000000
set_option linter.unusedVariables false
set_option linter.unusedSimpArgs false
attribute [local irreducible] un jn bq aS bb gy dV dD cK lJ ez kV yC xf gU gH aa ay aD eW eV eU eC eF gE ao fin aR aE aJ vS yD jw jA tq A6 A7 yE A8 yF jx jB tt A9 Ba yG Bb
structure oK where
 kind:Int
 n:Int
 m:fJ
 ct:List Int
abbrev oK.l (o:oK) (vk vs vw vp vr vc vh vd vq:Value):List Value:=[I o.kind,I o.n,I o.m.kind,I o.m.fr,I o.m.to,I o.m.cB.jr,I o.m.cB.mA,I o.m.cB.sq,I o.m.range,I o.m.ku,I o.m.code,
 I o.m.aP.wall,I o.m.aP.fi,I o.m.aP.node,I o.m.prev.wall,I o.m.prev.fi,I o.m.prev.node,B o.m.jW,I o.m.n,I o.m.mx,vk,vs,vw,vp,vr,vc,
 I o.m.state.range.id,I o.m.state.range.ku,.float .f64 o.m.state.range.lo,.float .f64 o.m.state.range.hi,
 I o.m.state.floor.wall,I o.m.state.floor.fi,I o.m.state.floor.node,I o.m.state.closed.wall,I o.m.state.closed.fi,I o.m.state.closed.node,vh,vd,vq]
structure oK.at (w:World) (X:XS) (o:oK) (vk vs vw vp vr vc vh vd vq:Value):Prop where
 m:o.m.at w X vk vs vw vp vr vc vh vd
 p:Sl w X 1 vq (o.ct.map I1)
 nr:o.n<2^63
def oK.rd (w:World) (X:XS) (l:List Value) (o:oK):Prop:= ∃vk vs vw vp vr vc vh vd vq,l=o.l vk vs vw vp vr vc vh vd vq∧o.at w X vk vs vw vp vr vc vh vd vq
theorem oK.mv:GK oK.rd:=fun ⟨vk,vs,vw,vp,vr,vc,vh,vd,vq,h,h1⟩ m=>⟨vk,vs,vw,vp,vr,vc,vh,vd,vq,h,⟨h1.m.mv m,h1.p.mv m,h1.nr⟩⟩
theorem acH {P:Program} {X X0:XS} {w w0:World} {N:Value→Prop} {t:TypeId} {v:Value} {xs:List oK} {i:Nat} {z:Int} {x:oK} (h:ic w0 X0 39 v oK.rd xs) (hr:xs[i]? =some x)
  (hz:z=i) (ht:P.underlying t=some (.slice (P.elem t))) (hs:(P.info? (P.elem t)).map (·.size)=some 39)
  (n: ∀b o vk vs vw vp vr vc vh vd vq,dL.one vk=true→dL.one vs=true→dL.one vw=true→dL.one vp=true→dL.one vr=true→dL.one vc=true→dL.one vh=true→dL.one vd=true→dL.one vq=true→
   Cells w0 X0 b o (x.l vk vs vw vp vr vc vh vd vq)→x.at w0 X0 vk vs vw vp vr vc vh vd vq→N (ptr b o)):aa P X w (dD t 39 v (.int .i64 z)) N:=
 T9 h hr hz ht hs fun b o _ hc ⟨vk,vs,vw,vp,vr,vc,vh,vd,vq,hl,h1⟩=>n b o vk vs vw vp vr vc vh vd vq h1.m.keys.one h1.m.seen.one h1.m.writes.one h1.m.parts.one h1.m.ranges.one h1.m.bS.one h1.m.ia.one h1.m.g8.one h1.p.one (hl▸hc) h1
def nM (l:List oK):Nat:=(l.map fun o=>fS o.m.writes+1).sum
theorem acI {w:World} {X:XS} {a:Value} {xs:List oK} (ha:ic w X 39 a oK.rd xs) (dU: ∀o∈xs,o.m.text):
  Ct pg 22 #[a] w X nX fun v _ _=> ∃b:Bool,v=B b∧(b=true→xs.length≤200∧nM xs≤20000):=by
 intro w0 hk;replace ha:=ic.mv ha oK.mv hk.dm;have lS:=ha.len;apply NA;unfold CD;have hs:=aj.init w0;refine gN (fun n a b w X=> ∃(i:Nat) (s:Int),a=I i∧b=I s∧n=xs.length-i∧i≤xs.length∧(0≤s∧s≤60002∧(s≤20000→(nM (xs.take i):Int)≤s))∧aj (ba w0) w0 X w) xs.length ⟨0,0,rfl,rfl,rfl,Nat.zero_le _,by simp [nM],hs⟩ ?_;clear hs;rintro n a b w X ⟨i,s,rfl,rfl,rfl,hi,hw,hs⟩;rcases ej (xs) i with⟨cH,x,hx,hd⟩|⟨eh,hd⟩
 ·have z1:=dU x (List.mem_of_getElem? hx);have ad3:nM (xs.take (i+1))=nM (xs.take i)+(fS x.m.writes+1):=by rw [ca,hx];simp [nM]
  repeat' first|refine bL ?_;intros|refine de ?_ ?_<;>intros|(with_reducible apply acH);(case h=>assumption);(case hr=>exact hx);(case hz=>rfl);(case ht=>kernel_rfl);(case hs=>kernel_rfl);intros
  ·refine cJ (ad5 (g:=x.m) (fJ.at.mv (oK.at.m (by assumption)) hs.mv) z1) kQ hs.has ?_;rintro _ wa w X ⟨n1,rfl,R9,Zl,hn3⟩ hle fU aq;replace hs:=hs.trans aq;repeat' first|refine aI ?_;intros
   exact gA (xs.length-(i+1)) zQ ⟨i+1,_,by simp,rfl,rfl,by omega,by rw [ad3];omega,hs⟩
  all_goals exact ak hs fun wa aM=>⟨_,rfl,fun h=>by first|(cases h;done)|omega⟩
 ·have jM:i=xs.length:=by omega
  subst jM;rw [List.take_length] at hw;repeat' first|refine bL ?_;intros|refine de ?_ ?_<;>intros
  all_goals first
   |exact ak hs fun wa aM=>⟨true,rfl,fun _=>by omega⟩
   |exact ak hs fun wa aM=>⟨false,rfl,fun h=>by cases h⟩
theorem acJ {l:List oK} {i:Nat} {x:oK} (hx:l[i]? =some x):nM (l.take (i+1))=nM (l.take i)+(fS x.m.writes+1):=by rw [ca,hx];simp [nM]
theorem ZH (l:List oK) (i:Nat):nM (l.take i)≤nM l:=by
 have h:=congrArg nM (List.take_append_drop i l);have e:nM (l.take i++l.drop i)=nM (l.take i)+nM (l.drop i):=by unfold nM;rw [List.map_append,List.sum_append]
 rw [e] at h;omega
end Go.Proofs.YtpdkoaklobnegaaGreat
