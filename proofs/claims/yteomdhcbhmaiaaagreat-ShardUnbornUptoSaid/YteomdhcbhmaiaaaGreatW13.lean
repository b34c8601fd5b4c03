/-
 Part 13 of the proof: what the last text leans on.
-/
import Derived.Test.YteomdhcbhmaiaaaGreatRows
import Derived.WalkKit
import Derived.ProofKit
import Derived.Deep.Slices
import Derived.Carry
import Derived.Test.YteomdhcbhmaiaaaGreatW12
open Go.DataW renaming trod → kJ, trod_int → vu
open List renaming range → dm, getElem?_eq_getElem → bk, map_cons → bz, getElem?_cons_zero → gq
open Nat renaming le_trans → af, le_refl → bF
open Bool renaming and_eq_true → aO
open Option.some renaming injEq → av
set_option linter.unusedVariables false
set_option linter.unusedSimpArgs false
namespace Go.Proofs.YteomdhcbhmaiaaaGreat
open Go.Proofs.Tryz renaming prog → pg
open Go.aX
set_option maxRecDepth 100000
set_option maxHeartbeats 1000000
theorem KG {α:Type} [Inhabited α] {enc:α→List Value} {k:Nat} (hk: ∀x,(enc x).length=k) (h0:0<k): ∀(l:List α) (t:Nat),t<l.length*k→((l.map enc).flatten)[t]? =some ((enc l[t/k]!)[t % k]!)
 |[],t,h=>by simp at h
 |x::l,t,h=>by
  rw [bz,List.flatten_cons];by_cases ht:t<k
  ·rw [List.getElem?_append_left (by rw [hk];exact ht),Nat.div_eq_of_lt ht,Nat.mod_eq_of_lt ht];have:t<(enc x).length:=by rw [hk];exact ht
   simp [this]
  ·obtain⟨s,rfl⟩: ∃s,t=s+k:=⟨t-k,by omega⟩;rw [List.getElem?_append_right (by rw [hk];omega),hk,Nat.add_sub_cancel,Nat.add_div_right _ h0,Nat.add_mod_right];have hs:s<l.length*k:=by rw [List.length_cons,Nat.succ_mul] at h;omega
   rw [KG hk h0 l s hs];simp
class Wt (α:Type) where
 wt:α→Nat
 pos: ∀a,1≤wt a
instance:Wt Int:=⟨fun _=>1,fun _=>bF _⟩
def Nu (n:Nat):Nat:=if n<18446744073709551616 then 1 else 1073741824
theorem Va (n:Nat):1≤Nu n:=by unfold Nu;split<;>omega
instance:Wt Nat:=⟨Nu,Va⟩
instance:Wt Bool:=⟨fun _=>1,fun _=>bF _⟩
instance:Wt BA:=⟨fun s=>s.size+1,fun _=>by omega⟩
instance {α:Type} [Wt α]:Wt (List α):=⟨fun l=>(l.map Wt.wt).sum+1,fun _=>by omega⟩
theorem TA {α:Type} [Wt α]: ∀l:List α,l.length≤(l.map Wt.wt).sum
 |[]=>by simp
 |x::l=>by have:=TA l;have:=Wt.pos x;simp;omega
theorem xH {α:Type} [Wt α] {x:α} : ∀{l:List α},x∈l→Wt.wt x≤(l.map Wt.wt).sum
 |y::l,h=>by
  rcases List.mem_cons.1 h with rfl|h
  ·simp
  ·have:=xH h;simp;omega
def jt {α:Type} [Wt α] (t:TypeId) (rd:World→XS→List Value→α→Prop):Prop:=
 ∀(H:Type) (enc:TypeId×Value→H) (W:World) (fuel:Nat) (cs:List Value) (x:DataW H×List MemPlace),kJ enc pg W 0 (fun _=>true) true fuel t cs=some x→ ∃a,rd W (aS W) cs a∧Wt.wt a≤Rows.uptoBulk x.1
theorem uC {H:Type} (d:DataW H):1≤Rows.uptoBulk d:=by
 cases d with
 |lit l=>cases l<;>simp [Rows.uptoBulk]
 |nil=>simp [Rows.uptoBulk]
 |ptr d=>simp [Rows.uptoBulk]
 |slice elems spare=>simp [Rows.uptoBulk]
 |agg parts=>simp [Rows.uptoBulk]
 |iface t d=>simp [Rows.uptoBulk]
 |map entries=>simp [Rows.uptoBulk]
 |held h=>simp [Rows.uptoBulk]
abbrev W0:World→XS→List Value→Int→Prop:=fun _ _ cs n=>cs=[I n]
abbrev aag:World→XS→List Value→Nat→Prop:=fun _ _ cs n=>cs=[.float .f64 n]
abbrev rdB:World→XS→List Value→Bool→Prop:=fun _ _ cs n=>cs=[B n]
abbrev rdS:World→XS→List Value→BA→Prop:=fun _ _ cs n=>cs=[.string n]
abbrev BI {α:Type} (k:Nat) (rd:World→XS→List Value→α→Prop):World→XS→List Value→List α→Prop:=fun w X cs xs=> ∃v,cs=[v]∧eE w X k v rd xs
theorem TB {t:TypeId} (ht:pg.underlying t=some (.int .i64)):jt t W0:=fun H enc W fuel cs x h=>by
 obtain⟨n,rfl,rfl,_⟩:=vu ht h;exact⟨n,rfl,uC _⟩
theorem Vb {t:TypeId} (ht:pg.underlying t=some (.float .f64)):jt t aag:=fun H enc W fuel cs x h=>by
 cases fuel with
 |zero=>simp [kJ] at h
 |succ n=>
  unfold kJ at h;rw [ht] at h;split at h<;>simp_all
  obtain⟨⟨h1,h2⟩,h3⟩:=h;rename_i kk _ b he;subst he;have hb:b<18446744073709551616:=by simpa [Lit.wf] using h2
  show Nu b≤_
  unfold Nu;rw [if_pos hb];exact uC _
theorem XP {t:TypeId} (ht:pg.underlying t=some .bool):jt t rdB:=fun H enc W fuel cs x h=>by
 obtain⟨n,rfl,rfl⟩:=DataW.trod_bool ht h;exact⟨n,rfl,uC _⟩
theorem aah {t:TypeId} (ht:pg.underlying t=some .string):jt t rdS:=fun H enc W fuel cs x h=>by
 obtain⟨s,rfl,rfl,_⟩:=DataW.trod_string ht h;refine⟨s,rfl,?_⟩
 show s.size+1≤s.data.toList.length+1
 rw [Array.length_toList];exact bF _
theorem TC {α H:Type} [Wt α] (f:Nat→α) (D:Nat→DataW H): ∀l:List Nat,(∀i∈l,Wt.wt (f i)≤Rows.uptoBulk (D i))→((l.map f).map Wt.wt).sum≤Rows.uptoBulkAll (l.map D)
 |[],_=>by simp
 |i::l,h=>by
  have h1:=TC f D l fun j hj=>h j (List.mem_cons_of_mem _ hj);have h2:=h i (by simp);simp only [bz,List.sum_cons,Rows.uptoBulkAll];omega
theorem KH {W:World} {a:Addr} {k:Nat} {cs:List Value} (h:W.cells? 0 a k=some cs):cs.length=k∧ ∀j v,cs[j]? =some v→W.cell? (a.add j)=some v:=by
 unfold World.cells? at h;rw [if_pos (Nat.zero_le _)] at h;have key: ∀(l:List Nat) (cs:List Value),(l.mapM (m:=Option) fun i=>W.cell? (a.add i))=some cs→cs.length=l.length∧ ∀(j:Nat) (v:Value),cs[j]? =some v→ ∃i:Nat,l[j]? =some i∧W.cell? (a.add i)=some v:=by
  intro l
  induction l with
  |nil=>intro cs h;simp at h;subst h;simp
  |cons i l ih=>
   intro cs h;simp only [List.mapM_cons,Option.bind_eq_bind,Option.bind_eq_some_iff,Option.pure_def,av] at h;obtain⟨v,hv,vs,Te,rfl⟩:=h;obtain⟨h1,h2⟩:=ih vs Te;refine⟨by simp [h1],fun j u hj=>?_⟩;cases j with
   |zero=>simp only [gq,av] at hj;subst hj;exact⟨i,rfl,hv⟩
   |succ j=>simpa using h2 j u (by simpa using hj)
 obtain⟨h1,h2⟩:=key _ _ h;refine⟨by simpa using h1,fun j v hj=>?_⟩;obtain⟨i,hi,hc⟩:=h2 j v hj;have:i=j:=by
  rw [List.getElem?_range (by simpa using (List.getElem?_eq_some_iff.1 hi).1)] at hi;simpa using hi.symm
 rw [←this];exact hc
theorem Nv (b o n:Nat):(⟨b,o,none⟩:Addr).add n=⟨b,o+n,none⟩:=by
 unfold Addr.add;split
 ·rename_i h;subst h;rfl
 ·rfl
theorem kS {α:Type} [Wt α] {t e k:Nat} {rd:World→XS→List Value→α→Prop} (ht:pg.underlying t=some (.slice e)) (hk:pg.cellsOf e=k) (h0:0<k) (he:jt e rd):jt t (BI k rd):=fun H enc W fuel cs x h=>by
 rcases Go.Deep.open_slice ht h with⟨rfl,rfl⟩|⟨a,len,cap,m,n,D,Pl,rfl,_,hlc,oo,hm,rfl,hel⟩
 ·exact⟨[],⟨_,rfl,eE.nil _ _ _⟩,uC _⟩
 ·rw [hk] at hel;have hm':m=cap:=by simpa using hm
  have CC: ∀i,i<len→ ∃(p:List Value×α),W.cells? 0 (a.add (i*k)) k=some p.1∧rd W (aS W) p.1 p.2∧Wt.wt p.2≤Rows.uptoBulk (D i):=fun i hi=>by
   obtain⟨pR,h1,h2⟩:=hel i zQ;obtain⟨b,h3,h4⟩:=he H enc W n pR _ h2;exact⟨⟨pR,b⟩,h1,h3,h4⟩
  by_cases hl0:len=0
  ·subst hl0;refine⟨[],⟨_,rfl,[],⟨by simp,by simp,some a,cap,rfl,by simp,by simp,by simp,af oo (by decide)⟩,rfl,by simp⟩,uC _⟩
  obtain⟨p0,_⟩:=CC 0 zQ;have:Inhabited (List Value×α):=⟨p0⟩;obtain⟨f,hf⟩:=Go.Deep.choose_lt CC
  let row:Nat→List Value:=fun i=>if i<len then(f i).1 else List.replicate k undef
  have bK: ∀i,(row i).length=k:=fun i=>by
   show(if i<len then(f i).1 else List.replicate k undef).length=k
   split
   ·exact(KH (hf i (by assumption)).1).1
   ·simp
  have LQ: ∀i,i<len→row i=(f i).1:=fun i hi=>if_pos hi;obtain⟨b,o,MR,c,ty,fr,hb,hc⟩: ∃b o,a=⟨b,o,none⟩∧ ∃c ty fr,W.heap[b]? =some (.cells c ty fr)∧ ∀i,i<len→ ∀j v,(row i)[j]? =some v→c[o+(i*k+j)]? =some v:=by
   obtain⟨b,o,sp⟩:=a;have h1: ∀i,i<len→ ∀j v,(row i)[j]? =some v→W.cell? (((⟨b,o,sp⟩:Addr).add (i*k)).add j)=some v:=fun i hi j v hj=>by
    rw [LQ i hi] at hj;exact(KH (hf i hi).1).2 j v hj
   have hj: ∃v,(row 0)[0]? =some v:=⟨_,bk (by rw [bK];exact h0)⟩;obtain⟨v,hv⟩:=hj;have h2:=h1 0 zQ 0 v hv;rw [Nat.zero_mul] at h2;change W.cell? ⟨b,o,sp⟩=some v at h2;unfold World.cell? at h2;split at h2
   ·rename_i c ty fr hb;have SU:sp=none:=by
     cases sp with
     |none=>rfl
     |some s=>simp at h2
    subst SU;refine⟨b,o,rfl,c,ty,fr,hb,fun i hi j v hj=>?_⟩;have h3:=h1 i hi j v hj;rw [Nv,Nv] at h3;unfold World.cell? at h3;rw [hb] at h3;simpa [Nat.add_assoc] using h3
   ·cases h2
  subst MR;have dA:b<W.heap.size:=(Array.getElem?_eq_some_iff.1 hb).1;refine⟨(dm len).map fun i=>(f i).2,⟨_,rfl,(dm len).map row,⟨?_,?_,some ⟨b,o,none⟩,cap,?_,fun _=>⟨b,o,rfl,dA,c,ty,fr,hb,fun j v hj=>?_⟩,by simp,by simpa using hlc,af oo (by decide)⟩,by simp,?_⟩,?_⟩
  ·intro r hr;obtain⟨i,_,rfl⟩:=List.mem_map.1 hr;exact bK i
  ·have:cap≤2^63-1:=af oo (by decide);simp;omega
  ·simp
  ·have Ij:j<len*k:=by
    have h1:=(List.getElem?_eq_some_iff.1 hj).1;rw [nI (k:=k) (by intro r hr;obtain⟨i,_,rfl⟩:=List.mem_map.1 hr;exact bK i)] at h1;simpa using h1
   have h2:=KG bK h0 (dm len) j (by simpa using Ij);rw [hj] at h2;have hd:j/k<len:=by rw [Nat.div_lt_iff_lt_mul h0];exact Ij
   have aai:j % k<k:=Nat.mod_lt _ h0;have hr:(dm len)[j/k]! =j/k:=by simp [hd]
   rw [hr] at h2;have hv:(row (j/k))[j % k]? =some v:=by
    rw [bk (by rw [bK];exact aai)];rw [getElem!_pos (row (j/k)) (j % k) (by rw [bK];exact aai)] at h2;exact h2.symm
   have:=hc (j/k) hd (j % k) v hv;rw [Nat.mul_comm,Nat.div_add_mod] at this;exact this
  ·intro i r x hr hx;simp only [List.getElem?_map,Option.map_eq_some_iff] at hr hx;obtain⟨i1,h1,rfl⟩:=hr;obtain⟨i2,h2,rfl⟩:=hx;rw [h1] at h2;cases h2;have hi1:i1<len:=List.mem_range.1 (List.mem_of_getElem? h1);rw [LQ i1 hi1];exact(hf i1 hi1).2.1
  ·have:=TC (fun i=>(f i).2) D (dm len) fun i hi=>(hf i (List.mem_range.1 hi)).2.2
   show((((dm len).map fun i=>(f i).2).map Wt.wt).sum+1)≤_
   simp only [Rows.uptoBulk];omega
theorem _root_.Go.aX.eE.pK {α:Type} {w:World} {X:XS} {k:Nat} {v:Value} {enc:α→List Value} {xs:List α} (h:eE w X k v (fun _ _ l x=>l=enc x) xs):Sl w X k v (xs.map enc):=by
 obtain⟨rows,h1,h2,h3⟩:=h;have:rows=xs.map enc:=by
  apply List.ext_getElem (by simpa using h2);intro i hi hj;have hx:i<xs.length:=by simpa using hj
  have:=h3 i rows[i] xs[i] (bk hi) (bk hx);simpa using this
 rw [←this];exact h1
def RD (P:Program):List Field→Nat→Bool
 |[],_=>true
 |f::l,o=>f.offset==o&&RD P l (o+P.cellsOf f.type)
def Nw (P:Program) (t:TypeId) (Nx:List TypeId):Bool:=match P.underlying t with
 |some (.struct fs)=>fs.toList.map (·.type)==Nx&&RD P fs.toList 0&&P.cellsOf t==(Nx.map P.cellsOf).sum
 |_=>false
def Ny {H:Type} (enc:TypeId×Value→H) (W:World) (n:Nat):List TypeId→List Value→List (DataW H)→Prop
 |[],cs,ds=>cs=[]∧ds=[]
 |t::ts,cs,ds=> ∃c1 c2 d ps Dr,cs=c1++c2∧ds=d::Dr∧kJ enc pg W 0 (fun _=>true) true n t c1=some (d,ps)∧Ny enc W n ts c2 Dr
theorem QJ {H:Type} {enc:TypeId×Value→H} {W:World} {n:Nat} {cs:List Value} : ∀(l:List Field) (xs:List (DataW H×List MemPlace)) (o:Nat),RD pg l o=true→cs.length=o+((l.map (·.type)).map pg.cellsOf).sum→
  xs.length=l.length→(∀(i:Nat) (f:Field),l[i]? =some f→kJ enc pg W 0 (fun _=>true) true n f.type ((cs.drop f.offset).take (pg.cellsOf f.type))=xs[i]?)→Ny enc W n (l.map (·.type)) (cs.drop o) (xs.map (·.1))
 |[],[],o,_,hl,_,_=>⟨List.drop_of_length_le (by simp at hl;omega),rfl⟩
 |[],x::xs,o,_,_,hx,_=>by simp at hx
 |f::l,[],o,_,_,hx,_=>by simp at hx
 |f::l,x::xs,o,ho,hl,hx,h=>by
  simp only [RD,aO,beq_iff_eq] at ho;obtain⟨po,sA⟩:=ho;have h0:=h 0 f rfl;simp only [gq] at h0;refine⟨(cs.drop o).take (pg.cellsOf f.type),cs.drop (o+pg.cellsOf f.type),x.1,x.2,xs.map (·.1),?_,rfl,?_,?_⟩
  ·rw [←List.drop_drop,List.take_append_drop]
  ·rw [←po];exact h0
  ·refine QJ l xs _ sA ?_ (by simpa using hx) fun i g hg=>?_
   ·simp only [bz,List.sum_cons] at hl;omega
   ·have:=h (i+1) g (by simpa using hg);simpa using this
theorem gk {t:TypeId} (Nx:List TypeId) (xv:Nw pg t Nx=true) {H:Type} {enc:TypeId×Value→H} {W:World} {fuel:Nat} {cs:List Value} {x:DataW H×List MemPlace}
  (h:kJ enc pg W 0 (fun _=>true) true fuel t cs=some x): ∃n ds,x.1= .agg ds∧Ny enc W n Nx cs ds:=by
 unfold Nw at xv;split at xv
 ·rename_i fs zo;simp only [aO,beq_iff_eq] at xv;obtain⟨⟨rfl,h2⟩,h3⟩:=xv;obtain⟨xs,n,_,rfl,hl,hx,hf⟩:=DataW.trod_struct zo h;refine⟨n,_,rfl,?_⟩;have:=QJ (cs:=cs) (enc:=enc) (W:=W) (n:=n) fs.toList xs 0 h2 (by rw [hl,h3];simp) (by simpa using hx) fun i f hi=>hf i f (by simpa using hi);simpa using this
 ·cases xv
theorem bD {α:Type} [Wt α] {t:TypeId} {ts:List TypeId} {rd:World→XS→List Value→α→Prop} (hr:jt t rd) {H:Type} {enc:TypeId×Value→H} {W:World} {n:Nat} {cs:List Value} {ds:List (DataW H)} (h:Ny enc W n (t::ts) cs ds):
  ∃c1 c2 d Dr a,cs=c1++c2∧ds=d::Dr∧rd W (aS W) c1 a∧Wt.wt a≤Rows.uptoBulk d∧Ny enc W n ts c2 Dr:=by
 obtain⟨c1,c2,d,ps,Dr,rfl,rfl,h1,h2⟩:=h;obtain⟨a,h3,h4⟩:=hr H enc W n c1 _ h1;exact⟨c1,c2,d,Dr,a,rfl,rfl,h3,h4,h2⟩
instance:Wt bH:=⟨fun x=>4,fun _=>by omega⟩
def GK (n:Int):Prop:= -9223372036854775808≤n∧n<9223372036854775808
instance (n:Int):Decidable (GK n):=by unfold GK;infer_instance
def Nz (x:dB):Nat:=if GK x.gO∧GK x.jO∧GK x.sq then 4 else 1073741824
theorem Jm (x:dB):4≤Nz x:=by unfold Nz;split<;>omega
instance:Wt dB:=⟨Nz,fun x=>af (by decide) (Jm x)⟩
abbrev acV:World→XS→List Value→Int→Prop:=fun _ _ cs n=>cs=[I n]∧GK n
theorem Jn:jt 3 acV:=fun H enc W fuel cs x h=>by
 have ht:pg.underlying 3=some (.int .i64):=by kernel_rfl
 obtain⟨n,e,e2,hw⟩:=vu ht h;subst e;refine⟨n,⟨rfl,?_⟩,uC _⟩;simp only [Lit.wf,aO,decide_eq_true_eq] at hw;have h1:IntKind.i64.min= -9223372036854775808:=by kernel_rfl
 have h2:IntKind.i64.max=9223372036854775807:=by kernel_rfl
 rw [h1,h2] at hw;unfold GK;omega
abbrev XQ:World→XS→List Value→bH→Prop:=fun _ _ cs x=>cs=x.l
abbrev abH:World→XS→List Value→dB→Prop:=fun _ _ cs x=>cs=x.l
theorem jk:jt 3 W0:=TB kQ
theorem xI:jt 23 aag:=Vb kQ
theorem QK:jt 4 rdB:=XP kQ
theorem zB:jt 9 rdS:=aah kQ
theorem nJ:jt 27 XQ:=fun H enc W fuel cs x h=>by
 obtain⟨n,ds,hx,hf⟩:=gk [3,3,3] kQ h;obtain⟨_,_,_,_,a1,rfl,rfl,rfl,w1,hf⟩:=bD jk hf;obtain⟨_,_,_,_,a2,rfl,rfl,rfl,w2,hf⟩:=bD jk hf;obtain⟨_,_,_,_,a3,rfl,rfl,rfl,w3,rfl,rfl⟩:=bD jk hf;refine⟨⟨a1,a2,a3⟩,rfl,?_⟩;rw [hx];simp only [Rows.uptoBulk,Rows.uptoBulkAll,Wt.wt] at*;omega
theorem NA:jt 42 abH:=fun H enc W fuel cs x h=>by
 obtain⟨n,ds,hx,hf⟩:=gk [3,3,3] kQ h;obtain⟨_,_,_,_,a1,rfl,rfl,⟨rfl,q1⟩,w1,hf⟩:=bD Jn hf;obtain⟨_,_,_,_,a2,rfl,rfl,⟨rfl,q2⟩,w2,hf⟩:=bD Jn hf;obtain⟨_,_,_,_,a3,rfl,rfl,⟨rfl,q3⟩,w3,rfl,rfl⟩:=bD Jn hf;refine⟨⟨a1,a2,a3⟩,rfl,?_⟩;have e:Wt.wt (⟨a1,a2,a3⟩:dB)=4:=if_pos ⟨q1,q2,q3⟩;rw [hx,e];simp only [Rows.uptoBulk,Rows.uptoBulkAll,Wt.wt] at*;omega
instance:Wt kF:=⟨fun x=>Wt.wt x.kind+Wt.wt x.num+Wt.wt x.text+1,fun _=>by omega⟩
theorem Ik:jt 69 (fun _ _ cs (x:kF)=>cs=x.l):=fun H enc W fuel cs x h=>by
 obtain⟨n,ds,hx,hf⟩:=gk [3,23,9] kQ h;obtain⟨_,_,_,_,a0,rfl,rfl,rfl,w0,hf⟩:=bD jk hf;obtain⟨_,_,_,_,a1,rfl,rfl,rfl,w1,hf⟩:=bD xI hf;obtain⟨_,_,_,_,a2,rfl,rfl,rfl,w2,rfl,rfl⟩:=bD zB hf;refine⟨⟨a0,a1,a2⟩,rfl,?_⟩;rw [hx];simp only [Rows.uptoBulk,Rows.uptoBulkAll,Wt.wt] at*;omega
instance:Wt KV:=⟨fun x=>Wt.wt x.key+Wt.wt x.val+1,fun _=>by omega⟩
theorem abI:jt 71 (fun _ _ cs (x:KV)=>cs=x.l):=fun H enc W fuel cs x h=>by
 obtain⟨n,ds,hx,hf⟩:=gk [9,69] kQ h;obtain⟨_,_,_,_,a0,rfl,rfl,rfl,w0,hf⟩:=bD zB hf;obtain⟨_,_,_,_,a1,rfl,rfl,rfl,w1,rfl,rfl⟩:=bD Ik hf;refine⟨⟨a0,a1⟩,rfl,?_⟩;rw [hx];simp only [Rows.uptoBulk,Rows.uptoBulkAll,Wt.wt] at*;omega
theorem NB:jt 45 (BI 4 (fun _ _ cs (x:KV)=>cs=x.l)):=kS kQ kQ (by decide) abI
theorem aaj:jt 207 (fun _ _ cs (x:KV)=>cs=x.l):=fun H enc W fuel cs x h=>by
 obtain⟨n,ds,hx,hf⟩:=gk [9,69] kQ h;obtain⟨_,_,_,_,a0,rfl,rfl,rfl,w0,hf⟩:=bD zB hf;obtain⟨_,_,_,_,a1,rfl,rfl,rfl,w1,rfl,rfl⟩:=bD Ik hf;refine⟨⟨a0,a1⟩,rfl,?_⟩;rw [hx];simp only [Rows.uptoBulk,Rows.uptoBulkAll,Wt.wt] at*;omega
theorem XR:jt 89 (BI 4 (fun _ _ cs (x:KV)=>cs=x.l)):=kS kQ kQ (by decide) aaj
instance:Wt fJ:=⟨fun x=>Wt.wt x.bb+Wt.wt x.val+1,fun _=>by omega⟩
theorem aak:jt 131 (fun _ _ cs (x:fJ)=>cs=x.l):=fun H enc W fuel cs x h=>by
 obtain⟨n,ds,hx,hf⟩:=gk [27,69] kQ h;obtain⟨_,_,_,_,a0,rfl,rfl,rfl,w0,hf⟩:=bD nJ hf;obtain⟨_,_,_,_,a1,rfl,rfl,rfl,w1,rfl,rfl⟩:=bD Ik hf;refine⟨⟨a0,a1⟩,rfl,?_⟩;rw [hx];simp only [Rows.uptoBulk,Rows.uptoBulkAll,Wt.wt] at*;omega
theorem RE:jt 43 (BI 1 rdS):=kS kQ kQ (by decide) zB
theorem XT:jt 127 (BI 6 (fun _ _ cs (x:fJ)=>cs=x.l)):=kS kQ kQ (by decide) aak
theorem RF:jt 46 (BI 1 W0):=kS kQ kQ (by decide) jk
instance:Wt fk:=⟨fun x=>Wt.wt x.key+Wt.wt x.eZ+1,fun _=>by omega⟩
theorem XU:jt 129 fk.rd:=fun H enc W fuel cs x h=>by
 obtain⟨n,ds,hx,hf⟩:=gk [9,127] kQ h;obtain⟨_,_,_,_,a0,rfl,rfl,rfl,w0,hf⟩:=bD zB hf;obtain⟨_,_,_,_,a1,rfl,rfl,⟨v1,rfl,r1⟩,w1,rfl,rfl⟩:=bD XT hf;refine⟨⟨a0,a1⟩,⟨v1,rfl,r1.pK⟩,?_⟩;rw [hx];simp only [Rows.uptoBulk,Rows.uptoBulkAll,Wt.wt] at*;omega
theorem Vc:jt 28 (BI 2 fk.rd):=kS kQ kQ (by decide) XU
instance:Wt cx:=⟨fun x=>Wt.wt x.dq+Wt.wt x.bb+Wt.wt x.reads+Wt.wt x.writes+1,fun _=>by omega⟩
theorem XV:jt 65 cx.rd:=fun H enc W fuel cs x h=>by
 obtain⟨n,ds,hx,hf⟩:=gk [42,27,43,45] kQ h;obtain⟨_,_,_,_,a0,rfl,rfl,rfl,w0,hf⟩:=bD NA hf;obtain⟨_,_,_,_,a1,rfl,rfl,rfl,w1,hf⟩:=bD nJ hf;obtain⟨_,_,_,_,a2,rfl,rfl,⟨v2,rfl,r2⟩,w2,hf⟩:=bD RE hf;obtain⟨_,_,_,_,a3,rfl,rfl,⟨v3,rfl,r3⟩,w3,rfl,rfl⟩:=bD NB hf;refine⟨⟨a0,a1,a2,a3⟩,⟨v2,v3,rfl,r2.pK,r3.pK⟩,?_⟩;rw [hx];simp only [Rows.uptoBulk,Rows.uptoBulkAll,Wt.wt] at*;omega
theorem Vd:jt 29 (BI 8 cx.rd):=kS kQ kQ (by decide) XV
instance:Wt ic:=⟨fun x=>Wt.wt x.id+Wt.wt x.gw+Wt.wt x.lo+Wt.wt x.hi+1,fun _=>by omega⟩
theorem TD:jt 25 (fun _ _ cs (x:ic)=>cs=x.l):=fun H enc W fuel cs x h=>by
 obtain⟨n,ds,hx,hf⟩:=gk [3,3,23,23] kQ h;obtain⟨_,_,_,_,a0,rfl,rfl,rfl,w0,hf⟩:=bD jk hf;obtain⟨_,_,_,_,a1,rfl,rfl,rfl,w1,hf⟩:=bD jk hf;obtain⟨_,_,_,_,a2,rfl,rfl,rfl,w2,hf⟩:=bD xI hf;obtain⟨_,_,_,_,a3,rfl,rfl,rfl,w3,rfl,rfl⟩:=bD xI hf;refine⟨⟨a0,a1,a2,a3⟩,rfl,?_⟩;rw [hx];simp only [Rows.uptoBulk,Rows.uptoBulkAll,Wt.wt] at*;omega
instance:Wt State:=⟨fun x=>Wt.wt x.range+Wt.wt x.floor+Wt.wt x.closed+Wt.wt x.dM+Wt.wt x.dh+1,fun _=>by omega⟩
theorem AE:jt 31 State.rd:=fun H enc W fuel cs x h=>by
 obtain⟨n,ds,hx,hf⟩:=gk [25,27,27,28,29] kQ h;obtain⟨_,_,_,_,a0,rfl,rfl,rfl,w0,hf⟩:=bD TD hf;obtain⟨_,_,_,_,a1,rfl,rfl,rfl,w1,hf⟩:=bD nJ hf;obtain⟨_,_,_,_,a2,rfl,rfl,rfl,w2,hf⟩:=bD nJ hf;obtain⟨_,_,_,_,a3,rfl,rfl,⟨v3,rfl,r3⟩,w3,hf⟩:=bD Vc hf;obtain⟨_,_,_,_,a4,rfl,rfl,⟨v4,rfl,r4⟩,w4,rfl,rfl⟩:=bD Vd hf;refine⟨⟨a0,a1,a2,a3,a4⟩,⟨v3,v4,rfl,r3,r4⟩,?_⟩;rw [hx];simp only [Rows.uptoBulk,Rows.uptoBulkAll,Wt.wt] at*;omega
instance:Wt Rec:=⟨fun x=>Wt.wt x.kind+Wt.wt x.dq+Wt.wt x.bb+Wt.wt x.prev+Wt.wt x.iq+Wt.wt x.n+Wt.wt x.jI+Wt.wt x.reads+Wt.wt x.writes+Wt.wt x.parts+Wt.wt x.oM+Wt.wt x.state+1,fun _=>by omega⟩
theorem aal:jt 91 Rec.rd:=fun H enc W fuel cs x h=>by
 obtain⟨n,ds,hx,hf⟩:=gk [3,42,27,27,4,3,23,43,45,46,89,31] kQ h;obtain⟨_,_,_,_,a0,rfl,rfl,rfl,w0,hf⟩:=bD jk hf;obtain⟨_,_,_,_,a1,rfl,rfl,rfl,w1,hf⟩:=bD NA hf;obtain⟨_,_,_,_,a2,rfl,rfl,rfl,w2,hf⟩:=bD nJ hf;obtain⟨_,_,_,_,a3,rfl,rfl,rfl,w3,hf⟩:=bD nJ hf;obtain⟨_,_,_,_,a4,rfl,rfl,rfl,w4,hf⟩:=bD QK hf;obtain⟨_,_,_,_,a5,rfl,rfl,rfl,w5,hf⟩:=bD jk hf;obtain⟨_,_,_,_,a6,rfl,rfl,rfl,w6,hf⟩:=bD xI hf;obtain⟨_,_,_,_,a7,rfl,rfl,⟨v7,rfl,r7⟩,w7,hf⟩:=bD RE hf;obtain⟨_,_,_,_,a8,rfl,rfl,⟨v8,rfl,r8⟩,w8,hf⟩:=bD NB hf;obtain⟨_,_,_,_,a9,rfl,rfl,⟨v9,rfl,r9⟩,w9,hf⟩:=bD RF hf;obtain⟨_,_,_,_,a10,rfl,rfl,⟨v10,rfl,r10⟩,Np,hf⟩:=bD XR hf;obtain⟨_,_,_,_,a11,rfl,rfl,⟨vh,vp,rfl,acW,acX⟩,w11,rfl,rfl⟩:=bD AE hf;refine⟨⟨a0,a1,a2,a3,a4,a5,a6,a7,a8,a9,a10,a11⟩,⟨v7,v8,v9,v10,vh,vp,rfl,r7.pK,r8.pK,r9.pK,r10.pK,acW,acX⟩,?_⟩;rw [hx];simp only [Rows.uptoBulk,Rows.uptoBulkAll,Wt.wt] at*;omega
end Go.Proofs.YteomdhcbhmaiaaaGreat
