/-
 Part 12 of the proof: what the last text leans on.
-/
import Derived.Test.YtbpnemeooenpmaaGreatRows
import Derived.WalkKit
import Derived.ProofKit
import Derived.Deep.Slices
import Derived.Carry
import Derived.Test.YtbpnemeooenpmaaGreatH11
open Go.DataW renaming trod → nL
open List renaming range → dI, getElem?_eq_getElem → bE, map_cons → cf, getElem?_cons_zero → ik
open Nat renaming le_trans → ah, le_refl → bg
open Option.some renaming injEq → az
open Bool renaming and_eq_true → aW
set_option linter.unusedVariables false
set_option linter.unusedSimpArgs false
namespace Go.Proofs.YtbpnemeooenpmaaGreat
open Go.Proofs.Tryz renaming prog → pg
open Go.aR
set_option maxRecDepth 100000
set_option maxHeartbeats 1000000
theorem RJ {α:Type} [Inhabited α] {enc:α→List Value} {k:Nat} (hk: ∀x,(enc x).length=k) (h0:0<k): ∀(l:List α) (t:Nat),t<l.length*k→((l.map enc).flatten)[t]? =some ((enc l[t/k]!)[t % k]!)
 |[],t,h=>by simp at h
 |x::l,t,h=>by
  rw [cf,List.flatten_cons];by_cases ht:t<k
  ·rw [List.getElem?_append_left (by rw [hk];exact ht),Nat.div_eq_of_lt ht,Nat.mod_eq_of_lt ht];have:t<(enc x).length:=by rw [hk];exact ht
   simp [this]
  ·obtain⟨s,rfl⟩: ∃s,t=s+k:=⟨t-k,by omega⟩;rw [List.getElem?_append_right (by rw [hk];omega),hk,Nat.add_sub_cancel,Nat.add_div_right _ h0,Nat.add_mod_right];have hs:s<l.length*k:=by rw [List.length_cons,Nat.succ_mul] at h;omega
   rw [RJ hk h0 l s hs];simp
class Wt (α:Type) where
 wt:α→Nat
 pos: ∀a,1≤wt a
instance:Wt Int:=⟨fun _=>1,fun _=>bg _⟩
def Ud (n:Nat):Nat:=if n<18446744073709551616 then 1 else 1073741824
theorem ac3 (n:Nat):1≤Ud n:=by unfold Ud;split<;>omega
instance:Wt Nat:=⟨Ud,ac3⟩
instance:Wt Bool:=⟨fun _=>1,fun _=>bg _⟩
instance:Wt BA:=⟨fun s=>s.size+1,fun _=>by omega⟩
instance {α:Type} [Wt α]:Wt (List α):=⟨fun l=>(l.map Wt.wt).sum+1,fun _=>by omega⟩
def Da {α:Type} [Wt α] (t:TypeId) (rd:World→XS→List Value→α→Prop):Prop:=
 ∀(H:Type) (enc:TypeId×Value→H) (W:World) (fuel:Nat) (cs:List Value) (x:DataW H×List MemPlace),nL enc pg W 0 (fun _=>true) true fuel t cs=some x→ ∃a,rd W (aV W) cs a∧Wt.wt a≤Rows.uptoBulk x.1
theorem FR {H:Type} (d:DataW H):1≤Rows.uptoBulk d:=by
 cases d with
 |lit l=>cases l<;>simp [Rows.uptoBulk]
 |nil=>simp [Rows.uptoBulk]
 |ptr d=>simp [Rows.uptoBulk]
 |slice elems spare=>simp [Rows.uptoBulk]
 |agg parts=>simp [Rows.uptoBulk]
 |iface t d=>simp [Rows.uptoBulk]
 |map entries=>simp [Rows.uptoBulk]
 |held h=>simp [Rows.uptoBulk]
abbrev rdI:World→XS→List Value→Int→Prop:=fun _ _ cs n=>cs=[I n]
abbrev ag0:World→XS→List Value→Nat→Prop:=fun _ _ cs n=>cs=[.float .f64 n]
abbrev rdS:World→XS→List Value→BA→Prop:=fun _ _ cs n=>cs=[.string n]
abbrev rdL {α:Type} (k:Nat) (rd:World→XS→List Value→α→Prop):World→XS→List Value→List α→Prop:=fun w X cs xs=> ∃v,cs=[v]∧en w X k v rd xs
theorem ag1 {t:TypeId} (ht:pg.underlying t=some (.int .i64)):Da t rdI:=fun H enc W fuel cs x h=>by
 obtain⟨n,rfl,rfl,_⟩:=DataW.trod_int ht h;exact⟨n,rfl,FR _⟩
theorem ac4 {t:TypeId} (ht:pg.underlying t=some (.float .f64)):Da t ag0:=fun H enc W fuel cs x h=>by
 cases fuel with
 |zero=>simp [nL] at h
 |succ n=>
  unfold nL at h;rw [ht] at h;split at h<;>simp_all
  obtain⟨⟨h1,h2⟩,h3⟩:=h;rename_i kk _ b he;subst he;have hb:b<18446744073709551616:=by simpa [Lit.wf] using h2
  show Ud b≤_
  unfold Ud;rw [if_pos hb];exact FR _
theorem ag2 {t:TypeId} (ht:pg.underlying t=some .string):Da t rdS:=fun H enc W fuel cs x h=>by
 obtain⟨s,rfl,rfl,_⟩:=DataW.trod_string ht h;refine⟨s,rfl,?_⟩
 show s.size+1≤s.data.toList.length+1
 rw [Array.length_toList];exact bg _
theorem abw {α H:Type} [Wt α] (f:Nat→α) (D:Nat→DataW H): ∀l:List Nat,(∀i∈l,Wt.wt (f i)≤Rows.uptoBulk (D i))→((l.map f).map Wt.wt).sum≤Rows.uptoBulkAll (l.map D)
 |[],_=>by simp
 |i::l,h=>by
  have h1:=abw f D l fun j hj=>h j (List.mem_cons_of_mem _ hj);have h2:=h i (by simp);simp only [cf,List.sum_cons,Rows.uptoBulkAll];omega
theorem RK {W:World} {a:Addr} {k:Nat} {cs:List Value} (h:W.cells? 0 a k=some cs):cs.length=k∧ ∀j v,cs[j]? =some v→W.cell? (a.add j)=some v:=by
 unfold World.cells? at h;rw [if_pos (Nat.zero_le _)] at h;have key: ∀(l:List Nat) (cs:List Value),(l.mapM (m:=Option) fun i=>W.cell? (a.add i))=some cs→cs.length=l.length∧ ∀(j:Nat) (v:Value),cs[j]? =some v→ ∃i:Nat,l[j]? =some i∧W.cell? (a.add i)=some v:=by
  intro l
  induction l with
  |nil=>intro cs h;simp at h;subst h;simp
  |cons i l ih=>
   intro cs h;simp only [List.mapM_cons,Option.bind_eq_bind,Option.bind_eq_some_iff,Option.pure_def,az] at h;obtain⟨v,hv,vs,Og,rfl⟩:=h;obtain⟨h1,h2⟩:=ih vs Og;refine⟨by simp [h1],fun j u hj=>?_⟩;cases j with
   |zero=>simp only [ik,az] at hj;subst hj;exact⟨i,rfl,hv⟩
   |succ j=>simpa using h2 j u (by simpa using hj)
 obtain⟨h1,h2⟩:=key _ _ h;refine⟨by simpa using h1,fun j v hj=>?_⟩;obtain⟨i,hi,hc⟩:=h2 j v hj;have:i=j:=by
  rw [List.getElem?_range (by simpa using (List.getElem?_eq_some_iff.1 hi).1)] at hi;simpa using hi.symm
 rw [←this];exact hc
theorem Ue (b o n:Nat):(⟨b,o,none⟩:Addr).add n=⟨b,o+n,none⟩:=by
 unfold Addr.add;split
 ·rename_i h;subst h;rfl
 ·rfl
theorem Uf {α:Type} [Wt α] {t e k:Nat} {rd:World→XS→List Value→α→Prop} (ht:pg.underlying t=some (.slice e)) (hk:pg.cellsOf e=k) (h0:0<k) (he:Da e rd):Da t (rdL k rd):=fun H enc W fuel cs x h=>by
 rcases Go.Deep.open_slice ht h with⟨rfl,rfl⟩|⟨a,len,cap,m,n,D,Pl,rfl,_,hlc,lG,hm,rfl,hel⟩
 ·exact⟨[],⟨_,rfl,en.nil _ _ _⟩,FR _⟩
 ·rw [hk] at hel;have hm':m=cap:=by simpa using hm
  have An: ∀i,i<len→ ∃(p:List Value×α),W.cells? 0 (a.add (i*k)) k=some p.1∧rd W (aV W) p.1 p.2∧Wt.wt p.2≤Rows.uptoBulk (D i):=fun i hi=>by
   obtain⟨sN,h1,h2⟩:=hel i zQ;obtain⟨b,h3,h4⟩:=he H enc W n sN _ h2;exact⟨⟨sN,b⟩,h1,h3,h4⟩
  by_cases hl0:len=0
  ·subst hl0;refine⟨[],⟨_,rfl,[],⟨by simp,by simp,some a,cap,rfl,by simp,by simp,by simp,ah lG (by decide)⟩,rfl,by simp⟩,FR _⟩
  obtain⟨p0,_⟩:=An 0 zQ;have:Inhabited (List Value×α):=⟨p0⟩;obtain⟨f,hf⟩:=Go.Deep.choose_lt An
  let row:Nat→List Value:=fun i=>if i<len then(f i).1 else List.replicate k undef
  have bJ: ∀i,(row i).length=k:=fun i=>by
   show(if i<len then(f i).1 else List.replicate k undef).length=k
   split
   ·exact(RK (hf i (by assumption)).1).1
   ·simp
  have FU: ∀i,i<len→row i=(f i).1:=fun i hi=>if_pos hi;obtain⟨b,o,ta,c,ty,fr,hb,hc⟩: ∃b o,a=⟨b,o,none⟩∧ ∃c ty fr,W.heap[b]? =some (.cells c ty fr)∧ ∀i,i<len→ ∀j v,(row i)[j]? =some v→c[o+(i*k+j)]? =some v:=by
   obtain⟨b,o,sp⟩:=a;have h1: ∀i,i<len→ ∀j v,(row i)[j]? =some v→W.cell? (((⟨b,o,sp⟩:Addr).add (i*k)).add j)=some v:=fun i hi j v hj=>by
    rw [FU i hi] at hj;exact(RK (hf i hi).1).2 j v hj
   have hj: ∃v,(row 0)[0]? =some v:=⟨_,bE (by rw [bJ];exact h0)⟩;obtain⟨v,hv⟩:=hj;have h2:=h1 0 zQ 0 v hv;rw [Nat.zero_mul] at h2;change W.cell? ⟨b,o,sp⟩=some v at h2;unfold World.cell? at h2;split at h2
   ·rename_i c ty fr hb;have C6:sp=none:=by
     cases sp with
     |none=>rfl
     |some s=>simp at h2
    subst C6;refine⟨b,o,rfl,c,ty,fr,hb,fun i hi j v hj=>?_⟩;have h3:=h1 i hi j v hj;rw [Ue,Ue] at h3;unfold World.cell? at h3;rw [hb] at h3;simpa [Nat.add_assoc] using h3
   ·cases h2
  subst ta;have dz:b<W.heap.size:=(Array.getElem?_eq_some_iff.1 hb).1;refine⟨(dI len).map fun i=>(f i).2,⟨_,rfl,(dI len).map row,⟨?_,?_,some ⟨b,o,none⟩,cap,?_,fun _=>⟨b,o,rfl,dz,c,ty,fr,hb,fun j v hj=>?_⟩,by simp,by simpa using hlc,ah lG (by decide)⟩,by simp,?_⟩,?_⟩
  ·intro r hr;obtain⟨i,_,rfl⟩:=List.mem_map.1 hr;exact bJ i
  ·have:cap≤2^63-1:=ah lG (by decide);simp;omega
  ·simp
  ·have BY:j<len*k:=by
    have h1:=(List.getElem?_eq_some_iff.1 hj).1;rw [qi (k:=k) (by intro r hr;obtain⟨i,_,rfl⟩:=List.mem_map.1 hr;exact bJ i)] at h1;simpa using h1
   have h2:=RJ bJ h0 (dI len) j (by simpa using BY);rw [hj] at h2;have hd:j/k<len:=by rw [Nat.div_lt_iff_lt_mul h0];exact BY
   have ag3:j % k<k:=Nat.mod_lt _ h0;have hr:(dI len)[j/k]! =j/k:=by simp [hd]
   rw [hr] at h2;have hv:(row (j/k))[j % k]? =some v:=by
    rw [bE (by rw [bJ];exact ag3)];rw [getElem!_pos (row (j/k)) (j % k) (by rw [bJ];exact ag3)] at h2;exact h2.symm
   have:=hc (j/k) hd (j % k) v hv;rw [Nat.mul_comm,Nat.div_add_mod] at this;exact this
  ·intro i r x hr hx;simp only [List.getElem?_map,Option.map_eq_some_iff] at hr hx;obtain⟨i1,h1,rfl⟩:=hr;obtain⟨i2,h2,rfl⟩:=hx;rw [h1] at h2;cases h2;have hi1:i1<len:=List.mem_range.1 (List.mem_of_getElem? h1);rw [FU i1 hi1];exact(hf i1 hi1).2.1
  ·have:=abw (fun i=>(f i).2) D (dI len) fun i hi=>(hf i (List.mem_range.1 hi)).2.2
   show((((dI len).map fun i=>(f i).2).map Wt.wt).sum+1)≤_
   simp only [Rows.uptoBulk];omega
theorem _root_.Go.aR.en.afk {α:Type} {w:World} {X:XS} {k:Nat} {v:Value} {enc:α→List Value} {xs:List α} (h:en w X k v (fun _ _ l x=>l=enc x) xs):Sl w X k v (xs.map enc):=by
 obtain⟨rows,h1,h2,h3⟩:=h;have:rows=xs.map enc:=by
  apply List.ext_getElem (by simpa using h2);intro i hi hj;have hx:i<xs.length:=by simpa using hj
  have:=h3 i rows[i] xs[i] (bE hi) (bE hx);simpa using this
 rw [←this];exact h1
def Zo (P:Program):List Field→Nat→Bool
 |[],_=>true
 |f::l,o=>f.offset==o&&Zo P l (o+P.cellsOf f.type)
def Ug (P:Program) (t:TypeId) (RL:List TypeId):Bool:=match P.underlying t with
 |some (.struct fs)=>fs.toList.map (·.type)==RL&&Zo P fs.toList 0&&P.cellsOf t==(RL.map P.cellsOf).sum
 |_=>false
def Uh {H:Type} (enc:TypeId×Value→H) (W:World) (n:Nat):List TypeId→List Value→List (DataW H)→Prop
 |[],cs,ds=>cs=[]∧ds=[]
 |t::ts,cs,ds=> ∃c1 c2 d ps AK,cs=c1++c2∧ds=d::AK∧nL enc pg W 0 (fun _=>true) true n t c1=some (d,ps)∧Uh enc W n ts c2 AK
theorem Yt {H:Type} {enc:TypeId×Value→H} {W:World} {n:Nat} {cs:List Value} : ∀(l:List Field) (xs:List (DataW H×List MemPlace)) (o:Nat),Zo pg l o=true→cs.length=o+((l.map (·.type)).map pg.cellsOf).sum→
  xs.length=l.length→(∀(i:Nat) (f:Field),l[i]? =some f→nL enc pg W 0 (fun _=>true) true n f.type ((cs.drop f.offset).take (pg.cellsOf f.type))=xs[i]?)→Uh enc W n (l.map (·.type)) (cs.drop o) (xs.map (·.1))
 |[],[],o,_,hl,_,_=>⟨List.drop_of_length_le (by simp at hl;omega),rfl⟩
 |[],x::xs,o,_,_,hx,_=>by simp at hx
 |f::l,[],o,_,_,hx,_=>by simp at hx
 |f::l,x::xs,o,ho,hl,hx,h=>by
  simp only [Zo,aW,beq_iff_eq] at ho;obtain⟨uh,nY⟩:=ho;have h0:=h 0 f rfl;simp only [ik] at h0;refine⟨(cs.drop o).take (pg.cellsOf f.type),cs.drop (o+pg.cellsOf f.type),x.1,x.2,xs.map (·.1),?_,rfl,?_,?_⟩
  ·rw [←List.drop_drop,List.take_append_drop]
  ·rw [←uh];exact h0
  ·refine Yt l xs _ nY ?_ (by simpa using hx) fun i g hg=>?_
   ·simp only [cf,List.sum_cons] at hl;omega
   ·have:=h (i+1) g (by simpa using hg);simpa using this
theorem D7 {t:TypeId} (RL:List TypeId) (mh:Ug pg t RL=true) {H:Type} {enc:TypeId×Value→H} {W:World} {fuel:Nat} {cs:List Value} {x:DataW H×List MemPlace}
  (h:nL enc pg W 0 (fun _=>true) true fuel t cs=some x): ∃n ds,x.1= .agg ds∧Uh enc W n RL cs ds:=by
 unfold Ug at mh;split at mh
 ·rename_i fs EG;simp only [aW,beq_iff_eq] at mh;obtain⟨⟨rfl,h2⟩,h3⟩:=mh;obtain⟨xs,n,_,rfl,hl,hx,hf⟩:=DataW.trod_struct EG h;refine⟨n,_,rfl,?_⟩;have:=Yt (cs:=cs) (enc:=enc) (W:=W) (n:=n) fs.toList xs 0 h2 (by rw [hl,h3];simp) (by simpa using hx) fun i f hi=>hf i f (by simpa using hi);simpa using this
 ·cases mh
theorem qj {α:Type} [Wt α] {t:TypeId} {ts:List TypeId} {rd:World→XS→List Value→α→Prop} (hr:Da t rd) {H:Type} {enc:TypeId×Value→H} {W:World} {n:Nat} {cs:List Value} {ds:List (DataW H)} (h:Uh enc W n (t::ts) cs ds):
  ∃c1 c2 d AK a,cs=c1++c2∧ds=d::AK∧rd W (aV W) c1 a∧Wt.wt a≤Rows.uptoBulk d∧Uh enc W n ts c2 AK:=by
 obtain⟨c1,c2,d,ps,AK,rfl,rfl,h1,h2⟩:=h;obtain⟨a,h3,h4⟩:=hr H enc W n c1 _ h1;exact⟨c1,c2,d,AK,a,rfl,rfl,h3,h4,h2⟩
instance:Wt cx:=⟨fun x=>4,fun _=>by omega⟩
def Ui (n:Int):Prop:= -9223372036854775808≤n∧n<9223372036854775808
instance (n:Int):Decidable (Ui n):=by unfold Ui;infer_instance
def ac5 (x:de):Nat:=if Ui x.gN∧Ui x.ga∧Ui x.sq then 4 else 1073741824
theorem afR (x:de):4≤ac5 x:=by unfold ac5;split<;>omega
instance:Wt de:=⟨ac5,fun x=>ah (by decide) (afR x)⟩
theorem Oh:Da 3 rdI:=ag1 kQ
theorem MK:Da 36 ag0:=ac4 kQ
theorem abx:Da 9 rdS:=ag2 kQ
instance:Wt fR:=⟨fun x=>Wt.wt x.kind+Wt.wt x.num+Wt.wt x.text+1,fun _=>by omega⟩
theorem ag4:Da 62 (fun _ _ cs (x:fR)=>cs=x.l):=fun H enc W fuel cs x h=>by
 obtain⟨n,ds,hx,hf⟩:=D7 [3,36,9] kQ h;obtain⟨_,_,_,_,a0,rfl,rfl,rfl,w0,hf⟩:=qj Oh hf;obtain⟨_,_,_,_,a1,rfl,rfl,rfl,w1,hf⟩:=qj MK hf;obtain⟨_,_,_,_,a2,rfl,rfl,rfl,w2,rfl,rfl⟩:=qj abx hf;refine⟨⟨a0,a1,a2⟩,rfl,?_⟩;rw [hx];simp only [Rows.uptoBulk,Rows.uptoBulkAll,Wt.wt] at*;omega
instance:Wt KV:=⟨fun x=>Wt.wt x.key+Wt.wt x.val+1,fun _=>by omega⟩
instance:Wt kf:=⟨fun x=>Wt.wt x.bF+Wt.wt x.val+1,fun _=>by omega⟩
instance:Wt jq:=⟨fun x=>Wt.wt x.key+Wt.wt x.l8+1,fun _=>by omega⟩
instance:Wt ey:=⟨fun x=>Wt.wt x.dK+Wt.wt x.bF+Wt.wt x.reads+Wt.wt x.writes+1,fun _=>by omega⟩
instance:Wt dq:=⟨fun x=>Wt.wt x.id+Wt.wt x.gx+Wt.wt x.lo+Wt.wt x.hi+1,fun _=>by omega⟩
theorem ag5:Da 38 (fun _ _ cs (x:dq)=>cs=x.l):=fun H enc W fuel cs x h=>by
 obtain⟨n,ds,hx,hf⟩:=D7 [3,3,36,36] kQ h;obtain⟨_,_,_,_,a0,rfl,rfl,rfl,w0,hf⟩:=qj Oh hf;obtain⟨_,_,_,_,a1,rfl,rfl,rfl,w1,hf⟩:=qj Oh hf;obtain⟨_,_,_,_,a2,rfl,rfl,rfl,w2,hf⟩:=qj MK hf;obtain⟨_,_,_,_,a3,rfl,rfl,rfl,w3,rfl,rfl⟩:=qj MK hf;refine⟨⟨a0,a1,a2,a3⟩,rfl,?_⟩;rw [hx];simp only [Rows.uptoBulk,Rows.uptoBulkAll,Wt.wt] at*;omega
instance:Wt State:=⟨fun x=>Wt.wt x.range+Wt.wt x.floor+Wt.wt x.closed+Wt.wt x.fU+Wt.wt x.fB+1,fun _=>by omega⟩
instance:Wt Rec:=⟨fun x=>Wt.wt x.kind+Wt.wt x.dK+Wt.wt x.bF+Wt.wt x.prev+Wt.wt x.kP+Wt.wt x.n+Wt.wt x.vG+Wt.wt x.reads+Wt.wt x.writes+Wt.wt x.parts+Wt.wt x.xp+Wt.wt x.state+1,fun _=>by omega⟩
end Go.Proofs.YtbpnemeooenpmaaGreat
