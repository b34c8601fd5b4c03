/-
 Part 10 of the proof: what the last text leans on.
-/
import Derived.Test.YtbpnemeooenpmaaGreatH9
open List renaming length_append → av, length_nil → bL, map_append → bC, mem_append_left → bV, mem_singleton → bw, length_cons → ba
open UInt8 renaming ofNat → xe
set_option linter.unusedVariables false
set_option linter.unusedSimpArgs false
namespace Go.Proofs.YtbpnemeooenpmaaGreat
open Go.Proofs.Tryz renaming prog → pg
open Go.aR
def DM.ks (m:DM):List ByteArray:=m.fs.map (·.1)
theorem DM.get_some {m:DM} {n:ByteArray} :(m.get n).isSome=true↔n∈m.ks:=by
 have h:=getM_none (k:=n) (l:=m.fs)
 show(getM n m.fs).isSome=true↔n∈m.fs.map (·.1)
 cases hg:getM n m.fs with
 |none=>simpa using h.1 hg
 |some x=>
  simp only [Option.isSome_some,true_iff];rcases Classical.em (n∈m.fs.map (·.1))with h'|h'
  ·exact h'
  ·have:=h.2 h';rw [hg] at this;cases this
theorem DM.abl (m:DM):m.ks.length=m.fs.length:=by simp [DM.ks]
structure mg (m:DM):Prop where
 ar:m.ar=0
 dn:m.dn=false
theorem mg.tick {m:DM} (h:mg m):mg m.tick:=by
 unfold DM.tick;rw [if_neg (by rw [h.ar];decide)];exact⟨by simp [h.ar],h.dn⟩
theorem mg.write {m:DM} (h:mg m) (f:DM→DM):m.write 0 f=(f m.tick,0):=by
 unfold DM.write;rw [if_neg (by rw [h.dn];simp),if_neg (by simp),if_neg (by rw [h.tick.dn];simp)]
theorem mg.abm {m:DM} (h:mg m) {e:Nat} (he:e≠0) (f:DM→DM):m.write e f=(m,e):=by
 unfold DM.write;rw [if_neg (by rw [h.dn];simp),if_pos he]
theorem mg.create {m:DM} (h:mg m) {n:ByteArray} (hn:xf n=true) (hk: ¬n∈m.ks):
  (64≤m.fs.length∧m.create n=(m,3))∨(m.fs.length<64∧(m.create n).2=0∧mg (m.create n).1∧(m.create n).1.ks=m.ks++[n]∧(m.create n).1.sz=m.sz):=by
 have hg: ¬(m.get n).isSome=true:=fun e=>hk (DM.get_some.1 e);unfold DM.create;rw [if_neg (by simp [hn]),if_neg hg];by_cases hl:64≤m.fs.length
 ·left;rw [if_pos hl];exact⟨hl,h.abm (by decide) _⟩
 ·right;rw [if_neg hl,h.write];refine⟨by omega,rfl,⟨h.tick.ar,h.tick.dn⟩,?_,?_⟩
  ·show(dR n ([],0) m.tick.fs).map (·.1)=_
   rw [zF,m.BH,if_neg (show¬(getM n m.fs).isSome=true from hg)];rfl
  ·have:m.tick.get n=none:=by rw [m.zc];simpa using hg
   rw [DM.Yp this,m.KP];simp
theorem mg.append {m:DM} (h:mg m) {n:ByteArray} {b:List Nat} (hk:n∈m.ks) (fK:m.sz+b.length≤4194304):
  (m.append n b).2=0∧mg (m.append n b).1∧(m.append n b).1.ks=m.ks∧(m.append n b).1.sz=m.sz+b.length:=by
 have hg:=DM.get_some.2 hk;unfold DM.append;rw [if_neg (by rw [h.dn];simp)];cases hx:m.get n with
 |none=>rw [hx] at hg;cases hg
 |some x=>
  obtain⟨bs,s⟩:=x;dsimp only;rw [if_neg zQ];refine⟨by rw [if_neg (by rw [h.tick.dn];simp)],⟨h.tick.ar,h.tick.dn⟩,?_,?_⟩
  ·show(dR n (bs++b,s) m.tick.fs).map (·.1)=_
   rw [zF,m.BH,if_pos (show(getM n m.fs).isSome=true from hg)];rfl
  ·have:m.tick.get n=some (bs,s):=by rw [m.zc];exact hx
   have:=DM.T8 (bs:=bs++b) (s':=s) this;rw [m.KP,av] at this;dsimp only;omega
theorem mg.sync {m:DM} (h:mg m) {n:ByteArray} (hk:n∈m.ks):(m.sync n).2=0∧mg (m.sync n).1∧(m.sync n).1.ks=m.ks∧(m.sync n).1.sz=m.sz:=by
 have hg:=DM.get_some.2 hk;unfold DM.sync;rw [if_pos hg,h.write];have hgt:(m.tick.get n).isSome=true:=by rw [m.zc];exact hg
 refine⟨rfl,?_,?_,by dsimp only;rw [DM.T9,m.KP]⟩
 ·unfold DM.zw;dsimp only;split
  ·exact h.tick
  ·exact⟨h.tick.ar,h.tick.dn⟩
 ·unfold DM.zw;dsimp only;split
  ·unfold DM.ks;rw [m.BH]
  ·rename_i x hx
   show(dR n _ m.tick.fs).map (·.1)=_
   rw [zF,m.BH,if_pos (show(getM n m.fs).isSome=true from hg)];rfl
theorem Ua: ∀{k a b:Nat},a<10^k→b<10^k→uA k a=uA k b→a=b
 |0,a,b,ha,hb,_=>by omega
 |k+1,a,b,ha,hb,h=>by
  unfold uA at h;obtain⟨h1,h2⟩:=List.append_inj' h rfl;have:=Ua (k:=k) (a:=a/10) (b:=b/10) (by rw [Nat.pow_succ] at ha;omega) (by rw [Nat.pow_succ] at hb;omega) h1;simp at h2;omega
theorem PU: ∀(k n:Nat),∀x∈uA k n,x<256
 |0,_,x,h=>by cases h
 |k+1,n,x,h=>by
  unfold uA at h;rcases List.mem_append.1 h with h|h
  ·exact PU k _ x h
  ·simp at h;omega
theorem acW {a b:List Nat} (ha: ∀x∈a,x<256) (hb: ∀x∈b,x<256) (h:D6 a=D6 b):a=b:=by
 unfold D6 at h;have h1:(a.map xe)=b.map xe:=by
  have:=congrArg (fun x:ByteArray=>x.data.toList) h;simpa using this
 have h2:=congrArg (List.map UInt8.toNat) h1;simp only [List.map_map] at h2;have e: ∀l:List Nat,(∀x∈l,x<256)→l.map (UInt8.toNat∘xe)=l:=fun l hl=>by
  refine(List.map_congr_left fun x hx=>?_).trans (List.map_id l);have:=hl x hx;simp [UInt8.toNat_ofNat'];omega
 rwa [e a ha,e b hb] at h2
theorem abn {dir:ByteArray} {a b:Nat} (ha:a<10^8) (hb:b<10^8) (h:iS dir a=iS dir b):a=b:=by
 unfold iS at h;have h1:=congrArg (fun x:ByteArray=>x.data.toList) h;simp only [ByteArray.data_append,Array.toList_append] at h1;have h2:=List.append_cancel_left h1;refine Ua ha hb (acW (PU _ _) (PU _ _) ?_);unfold D6 at h2⊢;simp only at h2
 congr 1
 exact Array.toList_inj.1 h2
structure lK (B c n:Nat) (x:LD):Prop where
 ok:mg x.m
 ne:x.L.eo≠[]
 d1:1≤x.L.dir.size
 d2:x.L.dir.size≤11
 r1:1≤x.L.room
 r2:x.L.room≤2^40
 keys: ∀k∈x.m.ks,∃f∈x.L.eo.map (·.first),k=iS x.L.dir f
 last:x.L.gJ∈x.m.ks
 pw:(x.L.eo.map (·.first)).Pairwise (· < ·)
 emp:x.L.last.fY=[]→x.L.last.size=0
 pos: ∀s∈x.L.eo,1≤s.first∧s.first≤1+c∧s.first+s.fY.length≤1+c∧s.size≤B*c
 C7:x.L.next=1+c
 sz:x.m.sz≤B*c
 len:x.L.eo.length≤n
 ug:x.m.ks.length≤64
theorem lK.lok {B c n:Nat} {x:LD} (h:lK B c n x) (hb:B*c≤2^30) (hc:c≤2^30):qJ x.L:=
 ⟨h.ne,h.d1,h.d2,fun s hs=>by have:=h.pos s hs;omega,h.r2⟩
structure Alike (x y:LD):Prop where
 eo:y.L.eo=x.L.eo
 dir:y.L.dir=x.L.dir
 room:y.L.room=x.L.room
 ks:y.m.ks=x.m.ks
 sz:y.m.sz=x.m.sz
 ok:mg y.m
theorem Alike.refl {x:LD} (h:mg x.m):Alike x x:=⟨rfl,rfl,rfl,rfl,rfl,h⟩
theorem Alike.trans {x y z:LD} (h:Alike x y) (k:Alike y z):Alike x z:=⟨k.eo.trans h.eo,k.dir.trans h.dir,k.room.trans h.room,k.ks.trans h.ks,k.sz.trans h.sz,k.ok⟩
theorem Alike.last {x y:LD} (h:Alike x y):y.L.last=x.L.last:=by unfold LM.last;rw [h.eo]
theorem Alike.gJ {x y:LD} (h:Alike x y):y.L.gJ=x.L.gJ:=by unfold LM.gJ;rw [h.last,h.dir]
theorem Alike.next {x y:LD} (h:Alike x y):y.L.next=x.L.next:=by unfold LM.next;rw [h.last]
theorem Alike.inv {B c n:Nat} {x y:LD} (h:Alike x y) (k:lK B c n x):lK B c n y:=by
 refine⟨h.ok,by rw [h.eo];exact k.ne,by rw [h.dir];exact k.d1,by rw [h.dir];exact k.d2,by rw [h.room];exact k.r1,by rw [h.room];exact k.r2,?_,?_,by rw [h.eo];exact k.pw,?_,?_,?_,?_,?_,by rw [h.ks];exact k.ug⟩
 ·rw [h.ks,h.eo,h.dir];exact k.keys
 ·rw [h.ks,h.gJ];exact k.last
 ·rw [h.last];exact k.emp
 ·rw [h.eo];exact k.pos
 ·rw [h.next];exact k.C7
 ·rw [h.sz];exact k.sz
 ·rw [h.eo];exact k.len
theorem lK.sync {B c n:Nat} {x:LD} (h:lK B c n x):x.sync.2=0∧Alike x x.sync.1:=by
 obtain⟨h1,h2,h3,h4⟩:=h.ok.sync h.last;unfold LD.sync;dsimp only;rw [if_pos h1];exact⟨h1,⟨rfl,rfl,rfl,h3,h4,h2⟩⟩
def Full (x:LD):Prop:=64≤x.m.ks.length∧x.L.room≤x.L.last.size
theorem Alike.full {x y:LD} (h:Alike x y) (k:Full x):Full y:=by unfold Full;rw [h.ks,h.room,h.last];exact k
theorem lK.le_last {B c n:Nat} {x:LD} (h:lK B c n x) {f:Nat} (hf:f∈x.L.eo.map (·.first)):f≤x.L.last.first:=by
 have h1:=h.pw;rw [LM.PV h.ne,bC] at h1 hf;obtain⟨_,_,h2⟩:=List.pairwise_append.1 h1;rcases List.mem_append.1 hf with hf|hf
 ·exact Nat.le_of_lt (h2 f hf _ (by simp))
 ·simp at hf;omega
theorem lK.le_next {B c n:Nat} {x:LD} (h:lK B c n x) {f:Nat} (hf:f∈x.L.eo.map (·.first)):f≤1+c:=by
 obtain⟨s,hs,rfl⟩:=List.mem_map.1 hf;exact(h.pos s hs).2.1
theorem lK.ix {B c n:Nat} {x:LD} (h:lK B c n x) (hr:x.L.last.fY≠[]) (lF:c+2<99999999):
  (64≤x.m.ks.length∧x.ix x.L.next=(x,3))∨(x.m.ks.length<64∧(x.ix x.L.next).2=0∧lK B c (n+1) (x.ix x.L.next).1):=by
 have hl:1≤x.L.last.fY.length:=by
  cases hq:x.L.last.fY with
  |nil=>exact absurd hq hr
  |cons a b=>simp
 have nB:=h.C7;have IE: ¬iS x.L.dir x.L.next∈x.m.ks:=fun hk=>by
  obtain⟨f,hf,e⟩:=h.keys _ hk;have h1:=h.le_last hf;have h2:=h.le_next hf;have:=abn zQ zQ e;unfold LM.next at this;omega
 have hnm:xf (iS x.L.dir x.L.next)=true:=by
  have:=h.d1;have:=h.d2;simp only [xf,Oa,decide_eq_true_eq];omega
 rw [x.m.abl];rcases h.ok.create hnm IE with⟨h1,h2⟩|⟨h1,h2,h3,h4,h5⟩
 ·left;refine⟨h1,?_⟩;unfold LD.ix;rw [h2];rfl
 ·right;refine⟨h1,?_⟩;have xg:(⟨x.L.dir,x.L.room,x.L.eo++[⟨x.L.next,[],0⟩],x.L.safe⟩:LM).last=⟨x.L.next,[],0⟩:=by simp [LM.last]
  unfold LD.ix;dsimp only;rw [if_pos h2];refine⟨h2,⟨h3,by simp,h.d1,h.d2,h.r1,h.r2,?_,?_,?_,?_,?_,?_,?_,?_,by dsimp only;rw [h4,av,x.m.abl];simp;omega⟩⟩
  ·rw [h4];intro k hk;rcases List.mem_append.1 hk with hk|hk
   ·obtain⟨f,hf,e⟩:=h.keys k hk;exact⟨f,by rw [bC];exact bV _ hf,e⟩
   ·simp at hk;exact⟨x.L.next,by simp,hk⟩
  ·rw [h4];unfold LM.gJ;rw [xg];simp
  ·rw [bC];refine List.pairwise_append.2 ⟨h.pw,by simp,fun a ha b hb=>?_⟩;simp at hb;subst hb;have:=h.le_last ha;unfold LM.next;omega
  ·intro _;rw [xg]
  ·intro s hs;rcases List.mem_append.1 hs with hs|hs
   ·exact h.pos s hs
   ·simp at hs;subst hs;simp;omega
  ·show(⟨x.L.dir,x.L.room,x.L.eo++[⟨x.L.next,[],0⟩],x.L.safe⟩:LM).last.first+(⟨x.L.dir,x.L.room,x.L.eo++[⟨x.L.next,[],0⟩],x.L.safe⟩:LM).last.fY.length=1+c
   rw [xg];simpa using nB
  ·rw [h5];exact h.sz
  ·simp;exact h.len
theorem lK.lay {B c n:Nat} {x:LD} {p:List Nat} (h:lK B c n x) (hp:p.length+12≤B) (hc:B*(c+1)≤4194304):(x.lay p).2=0∧lK B (c+1) n (x.lay p).1:=by
 have hB:B*(c+1)=B*c+B:=Nat.mul_succ B c;have iP:(ke p).length=p.length+12:=by simp [ke,yB]
 have fK:=h.sz;obtain⟨h1,h2,h3,h4⟩:=h.ok.append (b:=ke p) h.last zQ;have hlm:=LM.vZ h.ne;have hle:=LM.PV h.ne;obtain⟨p1,p2,p3,p4⟩:=h.pos _ hlm;have xg:(x.L.add p).last=⟨x.L.last.first,x.L.last.fY++[p],x.L.last.size+(ke p).length⟩:=by simp [LM.last,LM.add]
 have Ry:(x.L.add p).eo.map (·.first)=x.L.eo.map (·.first):=by
  conv=>rhs;rw [hle]
  simp [LM.add]
 unfold LD.lay;dsimp only;rw [if_pos h1];refine⟨h1,⟨h2,by simp [LM.add],h.d1,h.d2,h.r1,h.r2,?_,?_,?_,?_,?_,?_,?_,?_,by dsimp only;rw [h3];exact h.ug⟩⟩
 ·dsimp only;rw [h3,Ry];exact h.keys
 ·dsimp only;rw [h3];unfold LM.gJ;rw [xg];exact h.last
 ·dsimp only;rw [Ry];exact h.pw
 ·dsimp only;rw [xg];intro e;simp at e
 ·dsimp only;intro s hs;rcases List.mem_append.1 hs with hs|hs
  ·have:=h.pos s (by rw [hle];exact bV _ hs);omega
  ·simp only [bw] at hs;subst hs;simp only [av,ba,bL,iP];omega
 ·have:=h.C7;dsimp only;unfold LM.next at this⊢;rw [xg];simp;omega
 ·dsimp only;rw [h4];omega
 ·have:=h.len;rw [hle] at this;simpa [LM.add] using this
theorem lK.more {B c n n':Nat} {x:LD} (h:lK B c n x) (hn:n≤n'):lK B c n' x:= { h with len:=Nat.le_trans h.len hn }
theorem lK.fY {B c n:Nat} {x:LD} (h:lK B c n x) (hr:x.L.room≤x.L.last.size):x.L.last.fY≠[]:=fun e=>by
 have:=h.emp e;have:=h.r1;omega
theorem lK.append {B c n:Nat} {x:LD} {p:List Nat} (h:lK B c n x) (hp:p.length+12≤B) (hB:B≤262144) (hc:B*(c+1)≤4194304) (lF:c+2<99999999):
  ((x.append p).2.2=0∧(x.append p).2.1=1+c∧lK B (c+1) (n+1) (x.append p).1)∨((x.append p).2.2=3∧Full x∧Alike x (x.append p).1):=by
 have nB:=h.C7;unfold LD.append;rw [if_neg zQ,if_neg zQ];dsimp only;unfold LD.room;by_cases hr:x.L.room≤x.L.last.size
 ·rw [if_pos hr];obtain⟨h1,h2⟩:=h.sync;dsimp only;rw [if_neg (show¬x.sync.2≠0 from by rw [h1];simp)];have hi:=h2.inv h;rw [←h2.next];rcases hi.ix (hi.fY (by rw [h2.room,h2.last];exact hr)) lF with⟨g1,g2⟩|⟨g1,g2,g3⟩
  ·right;rw [g2];dsimp only;rw [if_pos (by simp)];exact⟨rfl,⟨by rw [←h2.ks];exact g1,hr⟩,h2⟩
  ·left;rw [if_neg (by rw [g2];simp)];obtain⟨k1,k2⟩:=g3.lay hp hc;rw [if_neg (by rw [k1];simp)];exact⟨rfl,by rw [h2.next];exact nB,k2⟩
 ·left;rw [if_neg hr];dsimp only;rw [if_neg (by simp)];obtain⟨k1,k2⟩:=h.lay hp hc;rw [if_neg (by rw [k1];simp)];exact⟨rfl,nB,k2.more zQ⟩
theorem lK.full {B c n:Nat} {x:LD} {p:List Nat} (h:lK B c n x) (hf:Full x) (hp:p.length≤262144) (lF:c+2<99999999):(x.append p).2.2=3∧Alike x (x.append p).1:=by
 have nB:=h.C7;unfold LD.append;rw [if_neg zQ,if_neg zQ];dsimp only;unfold LD.room;rw [if_pos hf.2];obtain⟨h1,h2⟩:=h.sync;dsimp only;rw [if_neg (show¬x.sync.2≠0 from by rw [h1];simp)];have hi:=h2.inv h;rw [←h2.next];rcases hi.ix (hi.fY (by rw [h2.room,h2.last];exact hf.2)) lF with⟨g1,g2⟩|⟨g1,g2,g3⟩
 ·rw [g2];dsimp only;rw [if_pos (by simp)];exact⟨rfl,h2⟩
 ·have:=hf.1;rw [h2.ks] at g1;omega
theorem mg.abo {m:DM} (h:mg m) {e:Nat} (he:e≠12) {f:DM→DM} (hf: ∀m,mg m→mg (f m)):(m.write e f).2≠12∧mg (m.write e f).1:=by
 by_cases h0:e=0
 ·subst h0;rw [h.write];exact⟨by simp,hf _ h.tick⟩
 ·rw [h.abm h0];exact⟨he,h⟩
theorem mg.afK {m:DM} (h:mg m) (n:ByteArray):(m.create n).2≠12∧mg (m.create n).1:=by
 unfold DM.create;refine h.abo ?_ fun m hm=>⟨hm.ar,hm.dn⟩;split
 ·decide
 ·split
  ·decide
  ·split<;>decide
theorem mg.ajh {m:DM} (h:mg m) (n:ByteArray):(m.sync n).2≠12∧mg (m.sync n).1:=by
 unfold DM.sync;refine h.abo (by split<;>decide) fun m hm=>?_;unfold DM.zw;split
 ·exact hm
 ·exact⟨hm.ar,hm.dn⟩
theorem mg.afL {m:DM} (h:mg m) (n:ByteArray) (b:List Nat):(m.append n b).2≠12∧mg (m.append n b).1:=by
 unfold DM.append;rw [if_neg (by rw [h.dn];simp)];split
 ·exact⟨by simp,h⟩
 ·split
  ·exact⟨by simp,h⟩
  ·refine⟨?_,⟨h.tick.ar,h.tick.dn⟩⟩;dsimp only;rw [if_neg (by rw [h.tick.dn];simp)]
   decide
structure GL (n:Nat) (x:LD):Prop where
 ok:mg x.m
 ne:x.L.eo≠[]
 d1:1≤x.L.dir.size
 d2:x.L.dir.size≤11
 zG: ∀s∈x.L.eo,s.first+s.fY.length≤n∧s.size≤n*300000
 room:x.L.room≤2^40
 len:x.L.eo.length≤n
theorem GL.up {n n':Nat} {x:LD} (h:GL n x) (hn:n≤n'):GL n' x:=
 ⟨h.ok,h.ne,h.d1,h.d2,fun s hs=>by have:=h.zG s hs;have:n*300000≤n'*300000:=Nat.mul_le_mul_right _ hn;omega,h.room,Nat.le_trans h.len hn⟩
theorem GL.lok {n:Nat} {x:LD} (h:GL n x) (hn:n≤1000):qJ x.L:=
 ⟨h.ne,h.d1,h.d2,fun s hs=>by have:=h.zG s hs;omega,h.room⟩
theorem GL.sync {n:Nat} {x:LD} (h:GL n x):x.sync.2≠12∧GL n x.sync.1:=by
 obtain⟨h1,h2⟩:=h.ok.ajh x.L.gJ;unfold LD.sync;dsimp only;refine⟨h1,?_⟩;split
 ·exact⟨h2,h.ne,h.d1,h.d2,h.zG,h.room,h.len⟩
 ·exact⟨h2,h.ne,h.d1,h.d2,h.zG,h.room,h.len⟩
theorem GL.ix {n:Nat} {x:LD} (h:GL n x):(x.ix x.L.next).2≠12∧GL (n+1) (x.ix x.L.next).1:=by
 obtain⟨h1,h2⟩:=h.ok.afK (iS x.L.dir x.L.next);have hu:=h.up (n':=n+1) zQ;unfold LD.ix;dsimp only;refine⟨h1,?_⟩;split
 ·refine⟨h2,by simp,h.d1,h.d2,fun s hs=>?_,h.room,by simp;exact h.len⟩;rcases List.mem_append.1 hs with hs|hs
  ·exact hu.zG s hs
  ·simp only [bw] at hs;subst hs;have:=(h.zG _ (LM.vZ h.ne)).1;have e:x.L.next=x.L.last.first+x.L.last.fY.length:=rfl
   simp only [bL];omega
 ·exact⟨h2,hu.ne,hu.d1,hu.d2,hu.zG,hu.room,hu.len⟩
theorem GL.aji {n:Nat} {x:LD} (h:GL n x):x.room.2≠12∧GL (n+1) x.room.1:=by
 unfold LD.room;split
 ·dsimp only;obtain⟨h1,h2⟩:=h.sync;split
  ·exact⟨h1,h2.up zQ⟩
  ·have e:x.sync.1.L.next=x.L.next:=by unfold LM.next LM.last;rw [LD.Rz]
   rw [←e];exact h2.ix
 ·exact⟨by simp,h.up zQ⟩
theorem GL.lay {n:Nat} {x:LD} {p:List Nat} (h:GL n x) (hp:p.length≤262144):(x.lay p).2≠12∧GL (n+1) (x.lay p).1:=by
 obtain⟨h1,h2⟩:=h.ok.afL x.L.gJ (ke p);have hu:=h.up (n':=n+1) zQ;have iP:=Ob p;unfold LD.lay;dsimp only;refine⟨h1,?_⟩;split
 ·have hle:=LM.PV h.ne;have hlm:=h.zG _ (LM.vZ h.ne);refine⟨h2,by simp [LM.add],h.d1,h.d2,fun s hs=>?_,h.room,?_⟩
  ·rcases List.mem_append.1 hs with hs|hs
   ·exact hu.zG s (by rw [hle];exact bV _ hs)
   ·simp only [bw] at hs;subst hs;simp only [av,ba,bL];omega
  ·have:=hu.len;rw [hle] at this;simp only [LM.add,av,ba,bL] at this⊢;omega
 ·exact⟨h2,hu.ne,hu.d1,hu.d2,hu.zG,hu.room,hu.len⟩
theorem GL.append {n:Nat} {x:LD} (h:GL n x) (p:List Nat):(x.append p).2.2≠12∧GL (n+2) (x.append p).1:=by
 unfold LD.append;split
 ·exact⟨by simp,h.up zQ⟩
 ·split
  ·exact⟨by simp,h.up zQ⟩
  ·obtain⟨h1,h2⟩:=h.aji;dsimp only;split
   ·exact⟨h1,h2.up zQ⟩
   ·obtain⟨h3,h4⟩:=h2.lay (p:=p) zQ;split
    ·exact⟨h3,h4⟩
    ·exact⟨by simp,h4⟩
theorem GL.jJ {n:Nat} {x:LD} (h:GL n x) (p:List Nat):(x.jJ 0 p).2.2≠12∧GL (n+2) (x.jJ 0 p).1:=by
 obtain⟨h1,h2⟩:=h.append p;unfold LD.jJ;rw [if_neg (by simp)];dsimp only;split
 ·exact⟨h1,h2⟩
 ·exact h2.sync
end Go.Proofs.YtbpnemeooenpmaaGreat
