/-
 Part 15 of the proof: what the last text leans on.
-/
import Derived.Test.YtfndblbeikocdaaGreatRows
import Derived.WalkKit
import Derived.ProofKit
import Derived.Deep.Slices
import Derived.Carry
import Derived.Test.YtfndblbeikocdaaGreatY14
open Go.DataW renaming trod → mY, trod_int → yZ
open List renaming range → cN, getElem?_eq_getElem → bT, map_cons → bB, getElem?_cons_zero → iz
open Nat renaming le_trans → af, le_refl → bK
open Bool renaming and_eq_true → aV
open Option.some renaming injEq → ax
set_option linter.unusedVariables false
set_option linter.unusedSimpArgs false
namespace Go.Proofs.YtfndblbeikocdaaGreat
open Go.Proofs.Tryz renaming prog → pg
open Go.bu
set_option maxRecDepth 100000
set_option maxHeartbeats 1000000
theorem Ph {α:Type} [Inhabited α] {enc:α→List Value} {k:Nat} (hk: ∀x,(enc x).length=k) (h0:0<k): ∀(l:List α) (t:Nat),t<l.length*k→((l.map enc).flatten)[t]? =some ((enc l[t/k]!)[t % k]!)
 |[],t,h=>by simp at h
 |x::l,t,h=>by
  rw [bB,List.flatten_cons];by_cases ht:t<k
  ·rw [List.getElem?_append_left (by rw [hk];exact ht),Nat.div_eq_of_lt ht,Nat.mod_eq_of_lt ht];have:t<(enc x).length:=by rw [hk];exact ht
   simp [this]
  ·obtain⟨s,rfl⟩: ∃s,t=s+k:=⟨t-k,by omega⟩;rw [List.getElem?_append_right (by rw [hk];omega),hk,Nat.add_sub_cancel,Nat.add_div_right _ h0,Nat.add_mod_right];have hs:s<l.length*k:=by rw [List.length_cons,Nat.succ_mul] at h;omega
   rw [Ph hk h0 l s hs];simp
class Wt (α:Type) where
 wt:α→Nat
 pos: ∀a,1≤wt a
instance:Wt Int:=⟨fun _=>1,fun _=>bK _⟩
def Nh (n:Nat):Nat:=if n<18446744073709551616 then 1 else 1073741824
theorem Sa (n:Nat):1≤Nh n:=by unfold Nh;split<;>omega
instance:Wt Nat:=⟨Nh,Sa⟩
instance:Wt Bool:=⟨fun _=>1,fun _=>bK _⟩
instance:Wt BA:=⟨fun s=>s.size+1,fun _=>by omega⟩
instance {α:Type} [Wt α]:Wt (List α):=⟨fun l=>(l.map Wt.wt).sum+1,fun _=>by omega⟩
theorem Sb {α:Type} [Wt α]: ∀l:List α,l.length≤(l.map Wt.wt).sum
 |[]=>by simp
 |x::l=>by have:=Sb l;have:=Wt.pos x;simp;omega
theorem Bh {α:Type} [Wt α] {x:α} : ∀{l:List α},x∈l→Wt.wt x≤(l.map Wt.wt).sum
 |y::l,h=>by
  rcases List.mem_cons.1 h with rfl|h
  ·simp
  ·have:=Bh h;simp;omega
def kW {α:Type} [Wt α] (t:TypeId) (rd:World→XS→List Value→α→Prop):Prop:=
 ∀(H:Type) (enc:TypeId×Value→H) (W:World) (fuel:Nat) (cs:List Value) (x:DataW H×List MemPlace),mY enc pg W 0 (fun _=>true) true fuel t cs=some x→ ∃a,rd W (aS W) cs a∧Wt.wt a≤Rows.uptoBulk x.1
theorem yd {H:Type} (d:DataW H):1≤Rows.uptoBulk d:=by
 cases d with
 |lit l=>cases l<;>simp [Rows.uptoBulk]
 |nil=>simp [Rows.uptoBulk]
 |ptr d=>simp [Rows.uptoBulk]
 |slice elems spare=>simp [Rows.uptoBulk]
 |agg parts=>simp [Rows.uptoBulk]
 |iface t d=>simp [Rows.uptoBulk]
 |map entries=>simp [Rows.uptoBulk]
 |held h=>simp [Rows.uptoBulk]
abbrev rdI:World→XS→List Value→Int→Prop:=fun _ _ cs n=>cs=[I n]
abbrev aeE:World→XS→List Value→Nat→Prop:=fun _ _ cs n=>cs=[.float .f64 n]
abbrev rdB:World→XS→List Value→Bool→Prop:=fun _ _ cs n=>cs=[B n]
abbrev rdS:World→XS→List Value→BA→Prop:=fun _ _ cs n=>cs=[.string n]
abbrev Fv {α:Type} (k:Nat) (rd:World→XS→List Value→α→Prop):World→XS→List Value→List α→Prop:=fun w X cs xs=> ∃v,cs=[v]∧gO w X k v rd xs
theorem Zu {t:TypeId} (ht:pg.underlying t=some (.int .i64)):kW t rdI:=fun H enc W fuel cs x h=>by
 obtain⟨n,rfl,rfl,_⟩:=yZ ht h;exact⟨n,rfl,yd _⟩
theorem aa7 {t:TypeId} (ht:pg.underlying t=some (.float .f64)):kW t aeE:=fun H enc W fuel cs x h=>by
 cases fuel with
 |zero=>simp [mY] at h
 |succ n=>
  unfold mY at h;rw [ht] at h;split at h<;>simp_all
  obtain⟨⟨h1,h2⟩,h3⟩:=h;rename_i kk _ b he;subst he;have hb:b<18446744073709551616:=by simpa [Lit.wf] using h2
  show Nh b≤_
  unfold Nh;rw [if_pos hb];exact yd _
theorem acV {t:TypeId} (ht:pg.underlying t=some .bool):kW t rdB:=fun H enc W fuel cs x h=>by
 obtain⟨n,rfl,rfl⟩:=DataW.trod_bool ht h;exact⟨n,rfl,yd _⟩
theorem aeF {t:TypeId} (ht:pg.underlying t=some .string):kW t rdS:=fun H enc W fuel cs x h=>by
 obtain⟨s,rfl,rfl,_⟩:=DataW.trod_string ht h;refine⟨s,rfl,?_⟩
 show s.size+1≤s.data.toList.length+1
 rw [Array.length_toList];exact bK _
theorem Zw {α H:Type} [Wt α] (f:Nat→α) (D:Nat→DataW H): ∀l:List Nat,(∀i∈l,Wt.wt (f i)≤Rows.uptoBulk (D i))→((l.map f).map Wt.wt).sum≤Rows.uptoBulkAll (l.map D)
 |[],_=>by simp
 |i::l,h=>by
  have h1:=Zw f D l fun j hj=>h j (List.mem_cons_of_mem _ hj);have h2:=h i (by simp);simp only [bB,List.sum_cons,Rows.uptoBulkAll];omega
theorem Pj {W:World} {a:Addr} {k:Nat} {cs:List Value} (h:W.cells? 0 a k=some cs):cs.length=k∧ ∀j v,cs[j]? =some v→W.cell? (a.add j)=some v:=by
 unfold World.cells? at h;rw [if_pos (Nat.zero_le _)] at h;have key: ∀(l:List Nat) (cs:List Value),(l.mapM (m:=Option) fun i=>W.cell? (a.add i))=some cs→cs.length=l.length∧ ∀(j:Nat) (v:Value),cs[j]? =some v→ ∃i:Nat,l[j]? =some i∧W.cell? (a.add i)=some v:=by
  intro l
  induction l with
  |nil=>intro cs h;simp at h;subst h;simp
  |cons i l ih=>
   intro cs h;simp only [List.mapM_cons,Option.bind_eq_bind,Option.bind_eq_some_iff,Option.pure_def,ax] at h;obtain⟨v,hv,vs,Zx,rfl⟩:=h;obtain⟨h1,h2⟩:=ih vs Zx;refine⟨by simp [h1],fun j u hj=>?_⟩;cases j with
   |zero=>simp only [iz,ax] at hj;subst hj;exact⟨i,rfl,hv⟩
   |succ j=>simpa using h2 j u (by simpa using hj)
 obtain⟨h1,h2⟩:=key _ _ h;refine⟨by simpa using h1,fun j v hj=>?_⟩;obtain⟨i,hi,hc⟩:=h2 j v hj;have:i=j:=by
  rw [List.getElem?_range (by simpa using (List.getElem?_eq_some_iff.1 hi).1)] at hi;simpa using hi.symm
 rw [←this];exact hc
theorem Sc (b o n:Nat):(⟨b,o,none⟩:Addr).add n=⟨b,o+n,none⟩:=by
 unfold Addr.add;split
 ·rename_i h;subst h;rfl
 ·rfl
theorem nB {α:Type} [Wt α] {t e k:Nat} {rd:World→XS→List Value→α→Prop} (ht:pg.underlying t=some (.slice e)) (hk:pg.cellsOf e=k) (h0:0<k) (he:kW e rd):kW t (Fv k rd):=fun H enc W fuel cs x h=>by
 rcases Go.Deep.open_slice ht h with⟨rfl,rfl⟩|⟨a,len,cap,m,n,D,Pl,rfl,_,hlc,iB,hm,rfl,JE⟩
 ·exact⟨[],⟨_,rfl,gO.nil _ _ _⟩,yd _⟩
 ·rw [hk] at JE;have hm':m=cap:=by simpa using hm
  have pz: ∀i,i<len→ ∃(p:List Value×α),W.cells? 0 (a.add (i*k)) k=some p.1∧rd W (aS W) p.1 p.2∧Wt.wt p.2≤Rows.uptoBulk (D i):=fun i hi=>by
   obtain⟨rn,h1,h2⟩:=JE i zQ;obtain⟨b,h3,h4⟩:=he H enc W n rn _ h2;exact⟨⟨rn,b⟩,h1,h3,h4⟩
  by_cases hl0:len=0
  ·subst hl0;refine⟨[],⟨_,rfl,[],⟨by simp,by simp,some a,cap,rfl,by simp,by simp,by simp,af iB (by decide)⟩,rfl,by simp⟩,yd _⟩
  obtain⟨p0,_⟩:=pz 0 zQ;have:Inhabited (List Value×α):=⟨p0⟩;obtain⟨f,hf⟩:=Go.Deep.choose_lt pz
  let row:Nat→List Value:=fun i=>if i<len then(f i).1 else List.replicate k undef
  have bE: ∀i,(row i).length=k:=fun i=>by
   show(if i<len then(f i).1 else List.replicate k undef).length=k
   split
   ·exact(Pj (hf i (by assumption)).1).1
   ·simp
  have QA: ∀i,i<len→row i=(f i).1:=fun i hi=>if_pos hi;obtain⟨b,o,xB,c,ty,fr,hb,hc⟩: ∃b o,a=⟨b,o,none⟩∧ ∃c ty fr,W.heap[b]? =some (.cells c ty fr)∧ ∀i,i<len→ ∀j v,(row i)[j]? =some v→c[o+(i*k+j)]? =some v:=by
   obtain⟨b,o,sp⟩:=a;have h1: ∀i,i<len→ ∀j v,(row i)[j]? =some v→W.cell? (((⟨b,o,sp⟩:Addr).add (i*k)).add j)=some v:=fun i hi j v hj=>by
    rw [QA i hi] at hj;exact(Pj (hf i hi).1).2 j v hj
   have hj: ∃v,(row 0)[0]? =some v:=⟨_,bT (by rw [bE];exact h0)⟩;obtain⟨v,hv⟩:=hj;have h2:=h1 0 zQ 0 v hv;rw [Nat.zero_mul] at h2;change W.cell? ⟨b,o,sp⟩=some v at h2;unfold World.cell? at h2;split at h2
   ·rename_i c ty fr hb;have Ox:sp=none:=by
     cases sp with
     |none=>rfl
     |some s=>simp at h2
    subst Ox;refine⟨b,o,rfl,c,ty,fr,hb,fun i hi j v hj=>?_⟩;have h3:=h1 i hi j v hj;rw [Sc,Sc] at h3;unfold World.cell? at h3;rw [hb] at h3;simpa [Nat.add_assoc] using h3
   ·cases h2
  subst xB;have cK:b<W.heap.size:=(Array.getElem?_eq_some_iff.1 hb).1;refine⟨(cN len).map fun i=>(f i).2,⟨_,rfl,(cN len).map row,⟨?_,?_,some ⟨b,o,none⟩,cap,?_,fun _=>⟨b,o,rfl,cK,c,ty,fr,hb,fun j v hj=>?_⟩,by simp,by simpa using hlc,af iB (by decide)⟩,by simp,?_⟩,?_⟩
  ·intro r hr;obtain⟨i,_,rfl⟩:=List.mem_map.1 hr;exact bE i
  ·have:cap≤2^63-1:=af iB (by decide);simp;omega
  ·simp
  ·have rv:j<len*k:=by
    have h1:=(List.getElem?_eq_some_iff.1 hj).1;rw [gQ (k:=k) (by intro r hr;obtain⟨i,_,rfl⟩:=List.mem_map.1 hr;exact bE i)] at h1;simpa using h1
   have h2:=Ph bE h0 (cN len) j (by simpa using rv);rw [hj] at h2;have hd:j/k<len:=by rw [Nat.div_lt_iff_lt_mul h0];exact rv
   have aeG:j % k<k:=Nat.mod_lt _ h0;have hr:(cN len)[j/k]! =j/k:=by simp [hd]
   rw [hr] at h2;have hv:(row (j/k))[j % k]? =some v:=by
    rw [bT (by rw [bE];exact aeG)];rw [getElem!_pos (row (j/k)) (j % k) (by rw [bE];exact aeG)] at h2;exact h2.symm
   have:=hc (j/k) hd (j % k) v hv;rw [Nat.mul_comm,Nat.div_add_mod] at this;exact this
  ·intro i r x hr hx;simp only [List.getElem?_map,Option.map_eq_some_iff] at hr hx;obtain⟨i1,h1,rfl⟩:=hr;obtain⟨i2,h2,rfl⟩:=hx;rw [h1] at h2;cases h2;have hi1:i1<len:=List.mem_range.1 (List.mem_of_getElem? h1);rw [QA i1 hi1];exact(hf i1 hi1).2.1
  ·have:=Zw (fun i=>(f i).2) D (cN len) fun i hi=>(hf i (List.mem_range.1 hi)).2.2
   show((((cN len).map fun i=>(f i).2).map Wt.wt).sum+1)≤_
   simp only [Rows.uptoBulk];omega
theorem _root_.Go.bu.gO.sJ {α:Type} {w:World} {X:XS} {k:Nat} {v:Value} {enc:α→List Value} {xs:List α} (h:gO w X k v (fun _ _ l x=>l=enc x) xs):Sl w X k v (xs.map enc):=by
 obtain⟨rows,h1,h2,h3⟩:=h;have:rows=xs.map enc:=by
  apply List.ext_getElem (by simpa using h2);intro i hi hj;have hx:i<xs.length:=by simpa using hj
  have:=h3 i rows[i] xs[i] (bT hi) (bT hx);simpa using this
 rw [←this];exact h1
def WZ (P:Program):List Field→Nat→Bool
 |[],_=>true
 |f::l,o=>f.offset==o&&WZ P l (o+P.cellsOf f.type)
def Sd (P:Program) (t:TypeId) (Zy:List TypeId):Bool:=match P.underlying t with
 |some (.struct fs)=>fs.toList.map (·.type)==Zy&&WZ P fs.toList 0&&P.cellsOf t==(Zy.map P.cellsOf).sum
 |_=>false
def Se {H:Type} (enc:TypeId×Value→H) (W:World) (n:Nat):List TypeId→List Value→List (DataW H)→Prop
 |[],cs,ds=>cs=[]∧ds=[]
 |t::ts,cs,ds=> ∃c1 c2 d ps Sf,cs=c1++c2∧ds=d::Sf∧mY enc pg W 0 (fun _=>true) true n t c1=some (d,ps)∧Se enc W n ts c2 Sf
theorem VL {H:Type} {enc:TypeId×Value→H} {W:World} {n:Nat} {cs:List Value} : ∀(l:List Field) (xs:List (DataW H×List MemPlace)) (o:Nat),WZ pg l o=true→cs.length=o+((l.map (·.type)).map pg.cellsOf).sum→
  xs.length=l.length→(∀(i:Nat) (f:Field),l[i]? =some f→mY enc pg W 0 (fun _=>true) true n f.type ((cs.drop f.offset).take (pg.cellsOf f.type))=xs[i]?)→Se enc W n (l.map (·.type)) (cs.drop o) (xs.map (·.1))
 |[],[],o,_,hl,_,_=>⟨List.drop_of_length_le (by simp at hl;omega),rfl⟩
 |[],x::xs,o,_,_,hx,_=>by simp at hx
 |f::l,[],o,_,_,hx,_=>by simp at hx
 |f::l,x::xs,o,ho,hl,hx,h=>by
  simp only [WZ,aV,beq_iff_eq] at ho;obtain⟨ll,jb⟩:=ho;have h0:=h 0 f rfl;simp only [iz] at h0;refine⟨(cs.drop o).take (pg.cellsOf f.type),cs.drop (o+pg.cellsOf f.type),x.1,x.2,xs.map (·.1),?_,rfl,?_,?_⟩
  ·rw [←List.drop_drop,List.take_append_drop]
  ·rw [←ll];exact h0
  ·refine VL l xs _ jb ?_ (by simpa using hx) fun i g hg=>?_
   ·simp only [bB,List.sum_cons] at hl;omega
   ·have:=h (i+1) g (by simpa using hg);simpa using this
theorem iw {t:TypeId} (Zy:List TypeId) (ml:Sd pg t Zy=true) {H:Type} {enc:TypeId×Value→H} {W:World} {fuel:Nat} {cs:List Value} {x:DataW H×List MemPlace}
  (h:mY enc pg W 0 (fun _=>true) true fuel t cs=some x): ∃n ds,x.1= .agg ds∧Se enc W n Zy cs ds:=by
 unfold Sd at ml;split at ml
 ·rename_i fs LC;simp only [aV,beq_iff_eq] at ml;obtain⟨⟨rfl,h2⟩,h3⟩:=ml;obtain⟨xs,n,_,rfl,hl,hx,hf⟩:=DataW.trod_struct LC h;refine⟨n,_,rfl,?_⟩;have:=VL (cs:=cs) (enc:=enc) (W:=W) (n:=n) fs.toList xs 0 h2 (by rw [hl,h3];simp) (by simpa using hx) fun i f hi=>hf i f (by simpa using hi);simpa using this
 ·cases ml
theorem cg {α:Type} [Wt α] {t:TypeId} {ts:List TypeId} {rd:World→XS→List Value→α→Prop} (hr:kW t rd) {H:Type} {enc:TypeId×Value→H} {W:World} {n:Nat} {cs:List Value} {ds:List (DataW H)} (h:Se enc W n (t::ts) cs ds):
  ∃c1 c2 d Sf a,cs=c1++c2∧ds=d::Sf∧rd W (aS W) c1 a∧Wt.wt a≤Rows.uptoBulk d∧Se enc W n ts c2 Sf:=by
 obtain⟨c1,c2,d,ps,Sf,rfl,rfl,h1,h2⟩:=h;obtain⟨a,h3,h4⟩:=hr H enc W n c1 _ h1;exact⟨c1,c2,d,Sf,a,rfl,rfl,h3,h4,h2⟩
instance:Wt aK:=⟨fun x=>4,fun _=>by omega⟩
def KU (n:Int):Prop:= -9223372036854775808≤n∧n<9223372036854775808
instance (n:Int):Decidable (KU n):=by unfold KU;infer_instance
def Sg (x:dX):Nat:=if KU x.iH∧KU x.lg∧KU x.sq then 4 else 1073741824
theorem Ni (x:dX):4≤Sg x:=by unfold Sg;split<;>omega
instance:Wt dX:=⟨Sg,fun x=>af (by decide) (Ni x)⟩
abbrev ahB:World→XS→List Value→Int→Prop:=fun _ _ cs n=>cs=[I n]∧KU n
theorem It:kW 3 ahB:=fun H enc W fuel cs x h=>by
 have ht:pg.underlying 3=some (.int .i64):=by kernel_rfl
 obtain⟨n,e,e2,hw⟩:=yZ ht h;subst e;refine⟨n,⟨rfl,?_⟩,yd _⟩;simp only [Lit.wf,aV,decide_eq_true_eq] at hw;have h1:IntKind.i64.min= -9223372036854775808:=by kernel_rfl
 have h2:IntKind.i64.max=9223372036854775807:=by kernel_rfl
 rw [h1,h2] at hw;unfold KU;omega
abbrev acW:World→XS→List Value→aK→Prop:=fun _ _ cs x=>cs=x.l
abbrev af3:World→XS→List Value→dX→Prop:=fun _ _ cs x=>cs=x.l
theorem l9:kW 3 rdI:=Zu kQ
theorem EA:kW 41 aeE:=aa7 kQ
theorem VM:kW 4 rdB:=acV kQ
theorem Ds:kW 9 rdS:=aeF kQ
theorem qo:kW 34 acW:=fun H enc W fuel cs x h=>by
 obtain⟨n,ds,hx,hf⟩:=iw [3,3,3] kQ h;obtain⟨_,_,_,_,a1,rfl,rfl,rfl,w1,hf⟩:=cg l9 hf;obtain⟨_,_,_,_,a2,rfl,rfl,rfl,w2,hf⟩:=cg l9 hf;obtain⟨_,_,_,_,a3,rfl,rfl,rfl,w3,rfl,rfl⟩:=cg l9 hf;refine⟨⟨a1,a2,a3⟩,rfl,?_⟩;rw [hx];simp only [Rows.uptoBulk,Rows.uptoBulkAll,Wt.wt] at*;omega
theorem Sh:kW 32 af3:=fun H enc W fuel cs x h=>by
 obtain⟨n,ds,hx,hf⟩:=iw [3,3,3] kQ h;obtain⟨_,_,_,_,a1,rfl,rfl,⟨rfl,q1⟩,w1,hf⟩:=cg It hf;obtain⟨_,_,_,_,a2,rfl,rfl,⟨rfl,q2⟩,w2,hf⟩:=cg It hf;obtain⟨_,_,_,_,a3,rfl,rfl,⟨rfl,q3⟩,w3,rfl,rfl⟩:=cg It hf;refine⟨⟨a1,a2,a3⟩,rfl,?_⟩;have e:Wt.wt (⟨a1,a2,a3⟩:dX)=4:=if_pos ⟨q1,q2,q3⟩;rw [hx,e];simp only [Rows.uptoBulk,Rows.uptoBulkAll,Wt.wt] at*;omega
instance:Wt mS:=⟨fun x=>Wt.wt x.kind+Wt.wt x.num+Wt.wt x.text+1,fun _=>by omega⟩
theorem Me:kW 116 (fun _ _ cs (x:mS)=>cs=x.l):=fun H enc W fuel cs x h=>by
 obtain⟨n,ds,hx,hf⟩:=iw [3,41,9] kQ h;obtain⟨_,_,_,_,a0,rfl,rfl,rfl,w0,hf⟩:=cg l9 hf;obtain⟨_,_,_,_,a1,rfl,rfl,rfl,w1,hf⟩:=cg EA hf;obtain⟨_,_,_,_,a2,rfl,rfl,rfl,w2,rfl,rfl⟩:=cg Ds hf;refine⟨⟨a0,a1,a2⟩,rfl,?_⟩;rw [hx];simp only [Rows.uptoBulk,Rows.uptoBulkAll,Wt.wt] at*;omega
instance:Wt KV:=⟨fun x=>Wt.wt x.key+Wt.wt x.val+1,fun _=>by omega⟩
theorem af4:kW 118 (fun _ _ cs (x:KV)=>cs=x.l):=fun H enc W fuel cs x h=>by
 obtain⟨n,ds,hx,hf⟩:=iw [9,116] kQ h;obtain⟨_,_,_,_,a0,rfl,rfl,rfl,w0,hf⟩:=cg Ds hf;obtain⟨_,_,_,_,a1,rfl,rfl,rfl,w1,rfl,rfl⟩:=cg Me hf;refine⟨⟨a0,a1⟩,rfl,?_⟩;rw [hx];simp only [Rows.uptoBulk,Rows.uptoBulkAll,Wt.wt] at*;omega
theorem Si:kW 37 (Fv 4 (fun _ _ cs (x:KV)=>cs=x.l)):=nB kQ kQ (by decide) af4
theorem aeH:kW 205 (fun _ _ cs (x:KV)=>cs=x.l):=fun H enc W fuel cs x h=>by
 obtain⟨n,ds,hx,hf⟩:=iw [9,116] kQ h;obtain⟨_,_,_,_,a0,rfl,rfl,rfl,w0,hf⟩:=cg Ds hf;obtain⟨_,_,_,_,a1,rfl,rfl,rfl,w1,rfl,rfl⟩:=cg Me hf;refine⟨⟨a0,a1⟩,rfl,?_⟩;rw [hx];simp only [Rows.uptoBulk,Rows.uptoBulkAll,Wt.wt] at*;omega
theorem acX:kW 71 (Fv 4 (fun _ _ cs (x:KV)=>cs=x.l)):=nB kQ kQ (by decide) aeH
instance:Wt kc:=⟨fun x=>Wt.wt x.aw+Wt.wt x.val+1,fun _=>by omega⟩
theorem aeI:kW 227 (fun _ _ cs (x:kc)=>cs=x.l):=fun H enc W fuel cs x h=>by
 obtain⟨n,ds,hx,hf⟩:=iw [34,116] kQ h;obtain⟨_,_,_,_,a0,rfl,rfl,rfl,w0,hf⟩:=cg qo hf;obtain⟨_,_,_,_,a1,rfl,rfl,rfl,w1,rfl,rfl⟩:=cg Me hf;refine⟨⟨a0,a1⟩,rfl,?_⟩;rw [hx];simp only [Rows.uptoBulk,Rows.uptoBulkAll,Wt.wt] at*;omega
theorem W0:kW 35 (Fv 1 rdS):=nB kQ kQ (by decide) Ds
theorem acY:kW 223 (Fv 6 (fun _ _ cs (x:kc)=>cs=x.l)):=nB kQ kQ (by decide) aeI
theorem W1:kW 38 (Fv 1 rdI):=nB kQ kQ (by decide) l9
instance:Wt iP:=⟨fun x=>Wt.wt x.key+Wt.wt x.jZ+1,fun _=>by omega⟩
theorem acZ:kW 225 iP.rd:=fun H enc W fuel cs x h=>by
 obtain⟨n,ds,hx,hf⟩:=iw [9,223] kQ h;obtain⟨_,_,_,_,a0,rfl,rfl,rfl,w0,hf⟩:=cg Ds hf;obtain⟨_,_,_,_,a1,rfl,rfl,⟨v1,rfl,r1⟩,w1,rfl,rfl⟩:=cg acY hf;refine⟨⟨a0,a1⟩,⟨v1,rfl,r1.sJ⟩,?_⟩;rw [hx];simp only [Rows.uptoBulk,Rows.uptoBulkAll,Wt.wt] at*;omega
theorem aa8:kW 44 (Fv 2 iP.rd):=nB kQ kQ (by decide) acZ
instance:Wt dB:=⟨fun x=>Wt.wt x.bU+Wt.wt x.aw+Wt.wt x.reads+Wt.wt x.writes+1,fun _=>by omega⟩
theorem ac0:kW 182 dB.rd:=fun H enc W fuel cs x h=>by
 obtain⟨n,ds,hx,hf⟩:=iw [32,34,35,37] kQ h;obtain⟨_,_,_,_,a0,rfl,rfl,rfl,w0,hf⟩:=cg Sh hf;obtain⟨_,_,_,_,a1,rfl,rfl,rfl,w1,hf⟩:=cg qo hf;obtain⟨_,_,_,_,a2,rfl,rfl,⟨v2,rfl,r2⟩,w2,hf⟩:=cg W0 hf;obtain⟨_,_,_,_,a3,rfl,rfl,⟨v3,rfl,r3⟩,w3,rfl,rfl⟩:=cg Si hf;refine⟨⟨a0,a1,a2,a3⟩,⟨v2,v3,rfl,r2.sJ,r3.sJ⟩,?_⟩;rw [hx];simp only [Rows.uptoBulk,Rows.uptoBulkAll,Wt.wt] at*;omega
theorem aa9:kW 45 (Fv 8 dB.rd):=nB kQ kQ (by decide) ac0
instance:Wt kX:=⟨fun x=>Wt.wt x.id+Wt.wt x.jD+Wt.wt x.lo+Wt.wt x.hi+1,fun _=>by omega⟩
theorem Zz:kW 43 (fun _ _ cs (x:kX)=>cs=x.l):=fun H enc W fuel cs x h=>by
 obtain⟨n,ds,hx,hf⟩:=iw [3,3,41,41] kQ h;obtain⟨_,_,_,_,a0,rfl,rfl,rfl,w0,hf⟩:=cg l9 hf;obtain⟨_,_,_,_,a1,rfl,rfl,rfl,w1,hf⟩:=cg l9 hf;obtain⟨_,_,_,_,a2,rfl,rfl,rfl,w2,hf⟩:=cg EA hf;obtain⟨_,_,_,_,a3,rfl,rfl,rfl,w3,rfl,rfl⟩:=cg EA hf;refine⟨⟨a0,a1,a2,a3⟩,rfl,?_⟩;rw [hx];simp only [Rows.uptoBulk,Rows.uptoBulkAll,Wt.wt] at*;omega
instance:Wt State:=⟨fun x=>Wt.wt x.range+Wt.wt x.floor+Wt.wt x.closed+Wt.wt x.gG+Wt.wt x.eA+1,fun _=>by omega⟩
theorem Sj:kW 47 State.rd:=fun H enc W fuel cs x h=>by
 obtain⟨n,ds,hx,hf⟩:=iw [43,34,34,44,45] kQ h;obtain⟨_,_,_,_,a0,rfl,rfl,rfl,w0,hf⟩:=cg Zz hf;obtain⟨_,_,_,_,a1,rfl,rfl,rfl,w1,hf⟩:=cg qo hf;obtain⟨_,_,_,_,a2,rfl,rfl,rfl,w2,hf⟩:=cg qo hf;obtain⟨_,_,_,_,a3,rfl,rfl,⟨v3,rfl,r3⟩,w3,hf⟩:=cg aa8 hf;obtain⟨_,_,_,_,a4,rfl,rfl,⟨v4,rfl,r4⟩,w4,rfl,rfl⟩:=cg aa9 hf;refine⟨⟨a0,a1,a2,a3,a4⟩,⟨v3,v4,rfl,r3,r4⟩,?_⟩;rw [hx];simp only [Rows.uptoBulk,Rows.uptoBulkAll,Wt.wt] at*;omega
instance:Wt Rec:=⟨fun x=>Wt.wt x.kind+Wt.wt x.bU+Wt.wt x.aw+Wt.wt x.prev+Wt.wt x.iy+Wt.wt x.n+Wt.wt x.jP+Wt.wt x.reads+Wt.wt x.writes+Wt.wt x.parts+Wt.wt x.qm+Wt.wt x.state+1,fun _=>by omega⟩
theorem aeJ:kW 73 Rec.rd:=fun H enc W fuel cs x h=>by
 obtain⟨n,ds,hx,hf⟩:=iw [3,32,34,34,4,3,41,35,37,38,71,47] kQ h;obtain⟨_,_,_,_,a0,rfl,rfl,rfl,w0,hf⟩:=cg l9 hf;obtain⟨_,_,_,_,a1,rfl,rfl,rfl,w1,hf⟩:=cg Sh hf;obtain⟨_,_,_,_,a2,rfl,rfl,rfl,w2,hf⟩:=cg qo hf;obtain⟨_,_,_,_,a3,rfl,rfl,rfl,w3,hf⟩:=cg qo hf;obtain⟨_,_,_,_,a4,rfl,rfl,rfl,w4,hf⟩:=cg VM hf;obtain⟨_,_,_,_,a5,rfl,rfl,rfl,w5,hf⟩:=cg l9 hf;obtain⟨_,_,_,_,a6,rfl,rfl,rfl,w6,hf⟩:=cg EA hf;obtain⟨_,_,_,_,a7,rfl,rfl,⟨v7,rfl,r7⟩,w7,hf⟩:=cg W0 hf;obtain⟨_,_,_,_,a8,rfl,rfl,⟨v8,rfl,r8⟩,w8,hf⟩:=cg Si hf;obtain⟨_,_,_,_,a9,rfl,rfl,⟨v9,rfl,r9⟩,w9,hf⟩:=cg W1 hf;obtain⟨_,_,_,_,a10,rfl,rfl,⟨v10,rfl,r10⟩,w10,hf⟩:=cg acX hf;obtain⟨_,_,_,_,a11,rfl,rfl,⟨vh,vp,rfl,ahC,ahD⟩,w11,rfl,rfl⟩:=cg Sj hf;refine⟨⟨a0,a1,a2,a3,a4,a5,a6,a7,a8,a9,a10,a11⟩,⟨v7,v8,v9,v10,vh,vp,rfl,r7.sJ,r8.sJ,r9.sJ,r10.sJ,ahC,ahD⟩,?_⟩;rw [hx];simp only [Rows.uptoBulk,Rows.uptoBulkAll,Wt.wt] at*;omega
end Go.Proofs.YtfndblbeikocdaaGreat
