/-
 Part 8 of the proof: what the last text leans on.
-/
import Derived.Test.YtpdkoaklobnegaaGreatRows
import Derived.WalkKit
import Derived.ProofKit
import Derived.Deep.Slices
import Derived.Carry
import Derived.Test.YtpdkoaklobnegaaGreatH7
open Go.DataW renaming trod → oS, trod_int → Aj
open List renaming range → dO, getElem?_eq_getElem → bL, map_cons → bh, getElem?_cons_zero → gw
open Nat renaming le_trans → ah, le_refl → bp
open Bool renaming and_eq_true → aG
open Option.some renaming injEq → aC
set_option linter.unusedVariables false
set_option linter.unusedSimpArgs false
namespace Go.Proofs.YtpdkoaklobnegaaGreat
open Go.Proofs.Tryz renaming prog → pg
open Go.fR
set_option maxRecDepth 100000
set_option maxHeartbeats 1000000
theorem Rm {α:Type} [Inhabited α] {enc:α→List Value} {k:Nat} (hk: ∀x,(enc x).length=k) (h0:0<k): ∀(l:List α) (t:Nat),t<l.length*k→((l.map enc).flatten)[t]? =some ((enc l[t/k]!)[t % k]!)
 |[],t,h=>by simp at h
 |x::l,t,h=>by
  rw [bh,List.flatten_cons]
  by_cases ht:t<k
  ·rw [List.getElem?_append_left (by rw [hk];exact ht),Nat.div_eq_of_lt ht,Nat.mod_eq_of_lt ht]
   have:t<(enc x).length:=by rw [hk];exact ht
   simp [this]
  ·obtain⟨s,rfl⟩: ∃s,t=s+k:=⟨t-k,by omega⟩
   rw [List.getElem?_append_right (by rw [hk];omega),hk,Nat.add_sub_cancel,Nat.add_div_right _ h0,Nat.add_mod_right]
   have hs:s<l.length*k:=by rw [List.length_cons,Nat.succ_mul] at h;omega
   rw [Rm hk h0 l s hs]
   simp
class Wt (α:Type) where
 wt:α→Nat
 pos: ∀a,1≤wt a
instance:Wt Int:=⟨fun _=>1,fun _=>bp _⟩
def JS (n:Nat):Nat:=if n<18446744073709551616 then 1 else 1073741824
theorem acX (n:Nat):1≤JS n:=by unfold JS;split<;>omega
theorem aet {n:Nat} (h:JS n≤1048576):n<18446744073709551616:=by
 unfold JS at h
 split at h
 ·assumption
 ·omega
instance:Wt Nat:=⟨JS,acX⟩
instance:Wt Bool:=⟨fun _=>1,fun _=>bp _⟩
instance:Wt BA:=⟨fun s=>s.size+1,fun _=>by omega⟩
instance {α:Type} [Wt α]:Wt (List α):=⟨fun l=>(l.map Wt.wt).sum+1,fun _=>by omega⟩
theorem aa1 {α:Type} [Wt α]: ∀l:List α,l.length≤(l.map Wt.wt).sum
 |[]=>by simp
 |x::l=>by have:=aa1 l;have:=Wt.pos x;simp;omega
theorem vA {α:Type} [Wt α] {x:α} : ∀{l:List α},x∈l→Wt.wt x≤(l.map Wt.wt).sum
 |y::l,h=>by
  rcases List.mem_cons.1 h with rfl|h
  ·simp
  ·have:=vA h;simp;omega
def mS {α:Type} [Wt α] (t:TypeId) (rd:World→XS→List Value→α→Prop):Prop:=
 ∀(H:Type) (enc:TypeId×Value→H) (W:World) (fuel:Nat) (cs:List Value) (x:DataW H×List MemPlace),oS enc pg W 0 (fun _=>true) true fuel t cs=some x→ ∃a,rd W (aW W) cs a∧Wt.wt a≤Rows.uptoBulk x.1
theorem zs {H:Type} (d:DataW H):1≤Rows.uptoBulk d:=by
 cases d with
 |lit l=>cases l<;>simp [Rows.uptoBulk]
 |nil=>simp [Rows.uptoBulk]
 |ptr d=>simp [Rows.uptoBulk]
 |slice elems spare=>simp [Rows.uptoBulk]
 |agg parts=>simp [Rows.uptoBulk]
 |iface t d=>simp [Rows.uptoBulk]
 |map entries=>simp [Rows.uptoBulk]
 |held h=>simp [Rows.uptoBulk]
abbrev rdI:World→XS→List Value→Int→Prop:=fun _ _ cs n=>cs=[I n]
abbrev agb:World→XS→List Value→Nat→Prop:=fun _ _ cs n=>cs=[.float .f64 n]
abbrev rdB:World→XS→List Value→Bool→Prop:=fun _ _ cs n=>cs=[B n]
abbrev rdS:World→XS→List Value→BA→Prop:=fun _ _ cs n=>cs=[.string n]
abbrev Hw {α:Type} (k:Nat) (rd:World→XS→List Value→α→Prop):World→XS→List Value→List α→Prop:=fun w X cs xs=> ∃v,cs=[v]∧iw w X k v rd xs
theorem aa2 {t:TypeId} (ht:pg.underlying t=some (.int .i64)):mS t rdI:=fun H enc W fuel cs x h=>by
 obtain⟨n,rfl,rfl,_⟩:=Aj ht h
 exact⟨n,rfl,zs _⟩
theorem acY {t:TypeId} (ht:pg.underlying t=some (.float .f64)):mS t agb:=fun H enc W fuel cs x h=>by
 cases fuel with
 |zero=>simp [oS] at h
 |succ n=>
  unfold oS at h
  rw [ht] at h
  split at h<;>simp_all
  obtain⟨⟨h1,h2⟩,h3⟩:=h
  rename_i kk _ b he
  subst he
  have hb:b<18446744073709551616:=by simpa [Lit.wf] using h2
  show JS b≤_
  unfold JS
  rw [if_pos hb]
  exact zs _
theorem aeu {t:TypeId} (ht:pg.underlying t=some .bool):mS t rdB:=fun H enc W fuel cs x h=>by
 obtain⟨n,rfl,rfl⟩:=DataW.trod_bool ht h
 exact⟨n,rfl,zs _⟩
theorem agc {t:TypeId} (ht:pg.underlying t=some .string):mS t rdS:=fun H enc W fuel cs x h=>by
 obtain⟨s,rfl,rfl,_⟩:=DataW.trod_string ht h
 refine⟨s,rfl,?_⟩
 show s.size+1≤s.data.toList.length+1
 rw [Array.length_toList];exact bp _
theorem aa3 {α H:Type} [Wt α] (f:Nat→α) (D:Nat→DataW H): ∀l:List Nat,(∀i∈l,Wt.wt (f i)≤Rows.uptoBulk (D i))→((l.map f).map Wt.wt).sum≤Rows.uptoBulkAll (l.map D)
 |[],_=>by simp
 |i::l,h=>by
  have h1:=aa3 f D l fun j hj=>h j (List.mem_cons_of_mem _ hj)
  have h2:=h i (by simp)
  simp only [bh,List.sum_cons,Rows.uptoBulkAll]
  omega
theorem Rn {W:World} {a:Addr} {k:Nat} {cs:List Value} (h:W.cells? 0 a k=some cs):cs.length=k∧ ∀j v,cs[j]? =some v→W.cell? (a.add j)=some v:=by
 unfold World.cells? at h
 rw [if_pos (Nat.zero_le _)] at h
 have key: ∀(l:List Nat) (cs:List Value),(l.mapM (m:=Option) fun i=>W.cell? (a.add i))=some cs→cs.length=l.length∧ ∀(j:Nat) (v:Value),cs[j]? =some v→ ∃i:Nat,l[j]? =some i∧W.cell? (a.add i)=some v:=by
  intro l
  induction l with
  |nil=>intro cs h;simp at h;subst h;simp
  |cons i l ih=>
   intro cs h
   simp only [List.mapM_cons,Option.bind_eq_bind,Option.bind_eq_some_iff,Option.pure_def,aC] at h
   obtain⟨v,hv,vs,Xq,rfl⟩:=h
   obtain⟨h1,h2⟩:=ih vs Xq
   refine⟨by simp [h1],fun j u hj=>?_⟩
   cases j with
   |zero=>simp only [gw,aC] at hj;subst hj;exact⟨i,rfl,hv⟩
   |succ j=>simpa using h2 j u (by simpa using hj)
 obtain⟨h1,h2⟩:=key _ _ h
 refine⟨by simpa using h1,fun j v hj=>?_⟩
 obtain⟨i,hi,hc⟩:=h2 j v hj
 have:i=j:=by
  rw [List.getElem?_range (by simpa using (List.getElem?_eq_some_iff.1 hi).1)] at hi
  simpa using hi.symm
 rw [←this];exact hc
theorem Vj (b o n:Nat):(⟨b,o,none⟩:Addr).add n=⟨b,o+n,none⟩:=by
 unfold Addr.add
 split
 ·rename_i h;subst h;rfl
 ·rfl
theorem pe {α:Type} [Wt α] {t e k:Nat} {rd:World→XS→List Value→α→Prop} (ht:pg.underlying t=some (.slice e)) (hk:pg.cellsOf e=k) (h0:0<k) (he:mS e rd):mS t (Hw k rd):=fun H enc W fuel cs x h=>by
 rcases Go.Deep.open_slice ht h with⟨rfl,rfl⟩|⟨a,len,cap,m,n,D,Pl,rfl,_,hlc,m6,hm,rfl,sL⟩
 ·exact⟨[],⟨_,rfl,iw.nil _ _ _⟩,zs _⟩
 ·rw [hk] at sL
  have hm':m=cap:=by simpa using hm
  have Mb: ∀i,i<len→ ∃(p:List Value×α),W.cells? 0 (a.add (i*k)) k=some p.1∧rd W (aW W) p.1 p.2∧Wt.wt p.2≤Rows.uptoBulk (D i):=fun i hi=>by
   obtain⟨nJ,h1,h2⟩:=sL i (by omega)
   obtain⟨b,h3,h4⟩:=he H enc W n nJ _ h2
   exact⟨⟨nJ,b⟩,h1,h3,h4⟩
  by_cases hl0:len=0
  ·subst hl0
   refine⟨[],⟨_,rfl,[],⟨by simp,by simp,some a,cap,rfl,by simp,by simp,by simp,ah m6 (by decide)⟩,rfl,by simp⟩,zs _⟩
  obtain⟨p0,_⟩:=Mb 0 (by omega)
  have:Inhabited (List Value×α):=⟨p0⟩
  obtain⟨f,hf⟩:=Go.Deep.choose_lt Mb
  let row:Nat→List Value:=fun i=>if i<len then(f i).1 else List.replicate k undef
  have dK: ∀i,(row i).length=k:=fun i=>by
   show(if i<len then(f i).1 else List.replicate k undef).length=k
   split
   ·exact(Rn (hf i (by assumption)).1).1
   ·simp
  have adI: ∀i,i<len→row i=(f i).1:=fun i hi=>if_pos hi
  obtain⟨b,o,rL,c,ty,fr,hb,hc⟩: ∃b o,a=⟨b,o,none⟩∧ ∃c ty fr,W.heap[b]? =some (.cells c ty fr)∧ ∀i,i<len→ ∀j v,(row i)[j]? =some v→c[o+(i*k+j)]? =some v:=by
   obtain⟨b,o,sp⟩:=a
   have h1: ∀i,i<len→ ∀j v,(row i)[j]? =some v→W.cell? (((⟨b,o,sp⟩:Addr).add (i*k)).add j)=some v:=fun i hi j v hj=>by
    rw [adI i hi] at hj
    exact(Rn (hf i hi).1).2 j v hj
   have hj: ∃v,(row 0)[0]? =some v:=⟨_,bL (by rw [dK];exact h0)⟩
   obtain⟨v,hv⟩:=hj
   have h2:=h1 0 (by omega) 0 v hv
   rw [Nat.zero_mul] at h2
   change W.cell? ⟨b,o,sp⟩=some v at h2
   unfold World.cell? at h2
   split at h2
   ·rename_i c ty fr hb
    have Xa:sp=none:=by
     cases sp with
     |none=>rfl
     |some s=>simp at h2
    subst Xa
    refine⟨b,o,rfl,c,ty,fr,hb,fun i hi j v hj=>?_⟩
    have h3:=h1 i hi j v hj
    rw [Vj,Vj] at h3
    unfold World.cell? at h3
    rw [hb] at h3
    simpa [Nat.add_assoc] using h3
   ·cases h2
  subst rL
  have dh:b<W.heap.size:=(Array.getElem?_eq_some_iff.1 hb).1
  refine⟨(dO len).map fun i=>(f i).2,⟨_,rfl,(dO len).map row,⟨?_,?_,some ⟨b,o,none⟩,cap,?_,fun _=>⟨b,o,rfl,dh,c,ty,fr,hb,fun j v hj=>?_⟩,by simp,by simpa using hlc,ah m6 (by decide)⟩,by simp,?_⟩,?_⟩
  ·intro r hr
   obtain⟨i,_,rfl⟩:=List.mem_map.1 hr
   exact dK i
  ·have:cap≤2^63-1:=ah m6 (by decide)
   simp;omega
  ·simp
  ·have D8:j<len*k:=by
    have h1:=(List.getElem?_eq_some_iff.1 hj).1
    rw [tF (k:=k) (by intro r hr;obtain⟨i,_,rfl⟩:=List.mem_map.1 hr;exact dK i)] at h1
    simpa using h1
   have h2:=Rm dK h0 (dO len) j (by simpa using D8)
   rw [hj] at h2
   have hd:j/k<len:=by rw [Nat.div_lt_iff_lt_mul h0];exact D8
   have agd:j % k<k:=Nat.mod_lt _ h0
   have hr:(dO len)[j/k]! =j/k:=by simp [hd]
   rw [hr] at h2
   have hv:(row (j/k))[j % k]? =some v:=by
    rw [bL (by rw [dK];exact agd)]
    rw [getElem!_pos (row (j/k)) (j % k) (by rw [dK];exact agd)] at h2
    exact h2.symm
   have:=hc (j/k) hd (j % k) v hv
   rw [Nat.mul_comm,Nat.div_add_mod] at this
   exact this
  ·intro i r x hr hx
   simp only [List.getElem?_map,Option.map_eq_some_iff] at hr hx
   obtain⟨i1,h1,rfl⟩:=hr
   obtain⟨i2,h2,rfl⟩:=hx
   rw [h1] at h2;cases h2
   have hi1:i1<len:=List.mem_range.1 (List.mem_of_getElem? h1)
   rw [adI i1 hi1]
   exact(hf i1 hi1).2.1
  ·have:=aa3 (fun i=>(f i).2) D (dO len) fun i hi=>(hf i (List.mem_range.1 hi)).2.2
   show((((dO len).map fun i=>(f i).2).map Wt.wt).sum+1)≤_
   simp only [Rows.uptoBulk]
   omega
theorem _root_.Go.fR.iw.uJ {α:Type} {w:World} {X:XS} {k:Nat} {v:Value} {enc:α→List Value} {xs:List α} (h:iw w X k v (fun _ _ l x=>l=enc x) xs):Sl w X k v (xs.map enc):=by
 obtain⟨rows,h1,h2,h3⟩:=h
 have:rows=xs.map enc:=by
  apply List.ext_getElem (by simpa using h2)
  intro i hi hj
  have hx:i<xs.length:=by simpa using hj
  have:=h3 i rows[i] xs[i] (bL hi) (bL hx)
  simpa using this
 rw [←this];exact h1
def Zl (P:Program):List Field→Nat→Bool
 |[],_=>true
 |f::l,o=>f.offset==o&&Zl P l (o+P.cellsOf f.type)
def Vk (P:Program) (t:TypeId) (QL:List TypeId):Bool:=match P.underlying t with
 |some (.struct fs)=>fs.toList.map (·.type)==QL&&Zl P fs.toList 0&&P.cellsOf t==(QL.map P.cellsOf).sum
 |_=>false
def Vl {H:Type} (enc:TypeId×Value→H) (W:World) (n:Nat):List TypeId→List Value→List (DataW H)→Prop
 |[],cs,ds=>cs=[]∧ds=[]
 |t::ts,cs,ds=> ∃c1 c2 d ps IA,cs=c1++c2∧ds=d::IA∧oS enc pg W 0 (fun _=>true) true n t c1=some (d,ps)∧Vl enc W n ts c2 IA
theorem XR {H:Type} {enc:TypeId×Value→H} {W:World} {n:Nat} {cs:List Value} : ∀(l:List Field) (xs:List (DataW H×List MemPlace)) (o:Nat),Zl pg l o=true→cs.length=o+((l.map (·.type)).map pg.cellsOf).sum→
  xs.length=l.length→(∀(i:Nat) (f:Field),l[i]? =some f→oS enc pg W 0 (fun _=>true) true n f.type ((cs.drop f.offset).take (pg.cellsOf f.type))=xs[i]?)→Vl enc W n (l.map (·.type)) (cs.drop o) (xs.map (·.1))
 |[],[],o,_,hl,_,_=>⟨List.drop_of_length_le (by simp at hl;omega),rfl⟩
 |[],x::xs,o,_,_,hx,_=>by simp at hx
 |f::l,[],o,_,_,hx,_=>by simp at hx
 |f::l,x::xs,o,ho,hl,hx,h=>by
  simp only [Zl,aG,beq_iff_eq] at ho
  obtain⟨tj,rE⟩:=ho
  have h0:=h 0 f rfl
  simp only [gw] at h0
  refine⟨(cs.drop o).take (pg.cellsOf f.type),cs.drop (o+pg.cellsOf f.type),x.1,x.2,xs.map (·.1),?_,rfl,?_,?_⟩
  ·rw [←List.drop_drop,List.take_append_drop]
  ·rw [←tj];exact h0
  ·refine XR l xs _ rE ?_ (by simpa using hx) fun i g hg=>?_
   ·simp only [bh,List.sum_cons] at hl;omega
   ·have:=h (i+1) g (by simpa using hg)
    simpa using this
theorem jD {t:TypeId} (QL:List TypeId) (mQ:Vk pg t QL=true) {H:Type} {enc:TypeId×Value→H} {W:World} {fuel:Nat} {cs:List Value} {x:DataW H×List MemPlace}
  (h:oS enc pg W 0 (fun _=>true) true fuel t cs=some x): ∃n ds,x.1= .agg ds∧Vl enc W n QL cs ds:=by
 unfold Vk at mQ
 split at mQ
 ·rename_i fs A5
  simp only [aG,beq_iff_eq] at mQ
  obtain⟨⟨rfl,h2⟩,h3⟩:=mQ
  obtain⟨xs,n,_,rfl,hl,hx,hf⟩:=DataW.trod_struct A5 h
  refine⟨n,_,rfl,?_⟩
  have:=XR (cs:=cs) (enc:=enc) (W:=W) (n:=n) fs.toList xs 0 h2 (by rw [hl,h3];simp) (by simpa using hx) fun i f hi=>hf i f (by simpa using hi)
  simpa using this
 ·cases mQ
theorem ca {α:Type} [Wt α] {t:TypeId} {ts:List TypeId} {rd:World→XS→List Value→α→Prop} (hr:mS t rd) {H:Type} {enc:TypeId×Value→H} {W:World} {n:Nat} {cs:List Value} {ds:List (DataW H)} (h:Vl enc W n (t::ts) cs ds):
  ∃c1 c2 d IA a,cs=c1++c2∧ds=d::IA∧rd W (aW W) c1 a∧Wt.wt a≤Rows.uptoBulk d∧Vl enc W n ts c2 IA:=by
 obtain⟨c1,c2,d,ps,IA,rfl,rfl,h1,h2⟩:=h
 obtain⟨a,h3,h4⟩:=hr H enc W n c1 _ h1
 exact⟨c1,c2,d,IA,a,rfl,rfl,h3,h4,h2⟩
instance:Wt bZ:=⟨fun x=>4,fun _=>by omega⟩
def DT (n:Int):Prop:= -9223372036854775808≤n∧n<9223372036854775808
instance (n:Int):Decidable (DT n):=by unfold DT;infer_instance
def GK (x:gM):Nat:=if DT x.jR∧DT x.nj∧DT x.sq then 4 else 1073741824
theorem Qo (x:gM):4≤GK x:=by unfold GK;split<;>omega
theorem aev {x:gM} (h:GK x≤1048576):DT x.jR∧DT x.nj∧DT x.sq:=by
 unfold GK at h
 split at h
 ·assumption
 ·omega
instance:Wt gM:=⟨GK,fun x=>ah (by decide) (Qo x)⟩
abbrev aiy:World→XS→List Value→Int→Prop:=fun _ _ cs n=>cs=[I n]∧DT n
theorem Qp:mS 3 aiy:=fun H enc W fuel cs x h=>by
 have ht:pg.underlying 3=some (.int .i64):=by kernel_rfl
 obtain⟨n,e,e2,hw⟩:=Aj ht h
 subst e
 refine⟨n,⟨rfl,?_⟩,zs _⟩
 simp only [Lit.wf,aG,decide_eq_true_eq] at hw
 have h1:IntKind.i64.min= -9223372036854775808:=by kernel_rfl
 have h2:IntKind.i64.max=9223372036854775807:=by kernel_rfl
 rw [h1,h2] at hw
 unfold DT
 omega
abbrev aew:World→XS→List Value→bZ→Prop:=fun _ _ cs x=>cs=x.l
abbrev ahn:World→XS→List Value→gM→Prop:=fun _ _ cs x=>cs=x.l
theorem nf:mS 3 rdI:=aa2 (by kernel_rfl)
theorem GM:mS 40 agb:=acY (by kernel_rfl)
theorem XT:mS 4 rdB:=aeu (by kernel_rfl)
theorem Fe:mS 9 rdS:=agc (by kernel_rfl)
theorem sA:mS 35 aew:=fun H enc W fuel cs x h=>by
 obtain⟨n,ds,hx,hf⟩:=jD [3,3,3] (by kernel_rfl) h
 obtain⟨_,_,_,_,a1,rfl,rfl,rfl,w1,hf⟩:=ca nf hf
 obtain⟨_,_,_,_,a2,rfl,rfl,rfl,w2,hf⟩:=ca nf hf
 obtain⟨_,_,_,_,a3,rfl,rfl,rfl,w3,rfl,rfl⟩:=ca nf hf
 refine⟨⟨a1,a2,a3⟩,rfl,?_⟩
 rw [hx];simp only [Rows.uptoBulk,Rows.uptoBulkAll,Wt.wt] at*;omega
theorem Vm:mS 33 ahn:=fun H enc W fuel cs x h=>by
 obtain⟨n,ds,hx,hf⟩:=jD [3,3,3] (by kernel_rfl) h
 obtain⟨_,_,_,_,a1,rfl,rfl,⟨rfl,q1⟩,w1,hf⟩:=ca Qp hf
 obtain⟨_,_,_,_,a2,rfl,rfl,⟨rfl,q2⟩,w2,hf⟩:=ca Qp hf
 obtain⟨_,_,_,_,a3,rfl,rfl,⟨rfl,q3⟩,w3,rfl,rfl⟩:=ca Qp hf
 refine⟨⟨a1,a2,a3⟩,rfl,?_⟩
 have e:Wt.wt (⟨a1,a2,a3⟩:gM)=4:=if_pos ⟨q1,q2,q3⟩
 rw [hx,e];simp only [Rows.uptoBulk,Rows.uptoBulkAll,Wt.wt] at*;omega
instance:Wt fq:=⟨fun x=>Wt.wt x.kind+Wt.wt x.num+Wt.wt x.text+1,fun _=>by omega⟩
theorem OW:mS 51 (fun _ _ cs (x:fq)=>cs=x.l):=fun H enc W fuel cs x h=>by
 obtain⟨n,ds,hx,hf⟩:=jD [3,40,9] (by kernel_rfl) h
 obtain⟨_,_,_,_,a0,rfl,rfl,rfl,w0,hf⟩:=ca nf hf
 obtain⟨_,_,_,_,a1,rfl,rfl,rfl,w1,hf⟩:=ca GM hf
 obtain⟨_,_,_,_,a2,rfl,rfl,rfl,w2,rfl,rfl⟩:=ca Fe hf
 refine⟨⟨a0,a1,a2⟩,rfl,?_⟩
 rw [hx];simp only [Rows.uptoBulk,Rows.uptoBulkAll,Wt.wt] at*;omega
instance:Wt KV:=⟨fun x=>Wt.wt x.key+Wt.wt x.val+1,fun _=>by omega⟩
theorem aho:mS 53 (fun _ _ cs (x:KV)=>cs=x.l):=fun H enc W fuel cs x h=>by
 obtain⟨n,ds,hx,hf⟩:=jD [9,51] (by kernel_rfl) h
 obtain⟨_,_,_,_,a0,rfl,rfl,rfl,w0,hf⟩:=ca Fe hf
 obtain⟨_,_,_,_,a1,rfl,rfl,rfl,w1,rfl,rfl⟩:=ca OW hf
 refine⟨⟨a0,a1⟩,rfl,?_⟩
 rw [hx];simp only [Rows.uptoBulk,Rows.uptoBulkAll,Wt.wt] at*;omega
theorem Vn:mS 23 (Hw 4 (fun _ _ cs (x:KV)=>cs=x.l)):=pe (by kernel_rfl) (by kernel_rfl) (by decide) aho
theorem age:mS 74 (fun _ _ cs (x:KV)=>cs=x.l):=fun H enc W fuel cs x h=>by
 obtain⟨n,ds,hx,hf⟩:=jD [9,51] (by kernel_rfl) h
 obtain⟨_,_,_,_,a0,rfl,rfl,rfl,w0,hf⟩:=ca Fe hf
 obtain⟨_,_,_,_,a1,rfl,rfl,rfl,w1,rfl,rfl⟩:=ca OW hf
 refine⟨⟨a0,a1⟩,rfl,?_⟩
 rw [hx];simp only [Rows.uptoBulk,Rows.uptoBulkAll,Wt.wt] at*;omega
theorem aex:mS 54 (Hw 4 (fun _ _ cs (x:KV)=>cs=x.l)):=pe (by kernel_rfl) (by kernel_rfl) (by decide) age
instance:Wt lV:=⟨fun x=>Wt.wt x.br+Wt.wt x.val+1,fun _=>by omega⟩
theorem agf:mS 337 (fun _ _ cs (x:lV)=>cs=x.l):=fun H enc W fuel cs x h=>by
 obtain⟨n,ds,hx,hf⟩:=jD [35,51] (by kernel_rfl) h
 obtain⟨_,_,_,_,a0,rfl,rfl,rfl,w0,hf⟩:=ca sA hf
 obtain⟨_,_,_,_,a1,rfl,rfl,rfl,w1,rfl,rfl⟩:=ca OW hf
 refine⟨⟨a0,a1⟩,rfl,?_⟩
 rw [hx];simp only [Rows.uptoBulk,Rows.uptoBulkAll,Wt.wt] at*;omega
theorem Zm:mS 36 (Hw 1 rdS):=pe (by kernel_rfl) (by kernel_rfl) (by decide) Fe
theorem aey:mS 286 (Hw 6 (fun _ _ cs (x:lV)=>cs=x.l)):=pe (by kernel_rfl) (by kernel_rfl) (by decide) agf
theorem Zn:mS 22 (Hw 1 rdI):=pe (by kernel_rfl) (by kernel_rfl) (by decide) nf
instance:Wt jO:=⟨fun x=>Wt.wt x.key+Wt.wt x.kn+1,fun _=>by omega⟩
theorem aez:mS 288 jO.rd:=fun H enc W fuel cs x h=>by
 obtain⟨n,ds,hx,hf⟩:=jD [9,286] (by kernel_rfl) h
 obtain⟨_,_,_,_,a0,rfl,rfl,rfl,w0,hf⟩:=ca Fe hf
 obtain⟨_,_,_,_,a1,rfl,rfl,⟨v1,rfl,r1⟩,w1,rfl,rfl⟩:=ca aey hf
 refine⟨⟨a0,a1⟩,⟨v1,rfl,r1.uJ⟩,?_⟩
 rw [hx];simp only [Rows.uptoBulk,Rows.uptoBulkAll,Wt.wt] at*;omega
theorem acZ:mS 43 (Hw 2 jO.rd):=pe (by kernel_rfl) (by kernel_rfl) (by decide) aez
instance:Wt fk:=⟨fun x=>Wt.wt x.dH+Wt.wt x.br+Wt.wt x.reads+Wt.wt x.writes+1,fun _=>by omega⟩
theorem aeA:mS 229 fk.rd:=fun H enc W fuel cs x h=>by
 obtain⟨n,ds,hx,hf⟩:=jD [33,35,36,23] (by kernel_rfl) h
 obtain⟨_,_,_,_,a0,rfl,rfl,rfl,w0,hf⟩:=ca Vm hf
 obtain⟨_,_,_,_,a1,rfl,rfl,rfl,w1,hf⟩:=ca sA hf
 obtain⟨_,_,_,_,a2,rfl,rfl,⟨v2,rfl,r2⟩,w2,hf⟩:=ca Zm hf
 obtain⟨_,_,_,_,a3,rfl,rfl,⟨v3,rfl,r3⟩,w3,rfl,rfl⟩:=ca Vn hf
 refine⟨⟨a0,a1,a2,a3⟩,⟨v2,v3,rfl,r2.uJ,r3.uJ⟩,?_⟩
 rw [hx];simp only [Rows.uptoBulk,Rows.uptoBulkAll,Wt.wt] at*;omega
theorem ac0:mS 44 (Hw 8 fk.rd):=pe (by kernel_rfl) (by kernel_rfl) (by decide) aeA
instance:Wt mn:=⟨fun x=>Wt.wt x.id+Wt.wt x.lf+Wt.wt x.lo+Wt.wt x.hi+1,fun _=>by omega⟩
theorem aa4:mS 42 (fun _ _ cs (x:mn)=>cs=x.l):=fun H enc W fuel cs x h=>by
 obtain⟨n,ds,hx,hf⟩:=jD [3,3,40,40] (by kernel_rfl) h
 obtain⟨_,_,_,_,a0,rfl,rfl,rfl,w0,hf⟩:=ca nf hf
 obtain⟨_,_,_,_,a1,rfl,rfl,rfl,w1,hf⟩:=ca nf hf
 obtain⟨_,_,_,_,a2,rfl,rfl,rfl,w2,hf⟩:=ca GM hf
 obtain⟨_,_,_,_,a3,rfl,rfl,rfl,w3,rfl,rfl⟩:=ca GM hf
 refine⟨⟨a0,a1,a2,a3⟩,rfl,?_⟩
 rw [hx];simp only [Rows.uptoBulk,Rows.uptoBulkAll,Wt.wt] at*;omega
instance:Wt State:=⟨fun x=>Wt.wt x.range+Wt.wt x.floor+Wt.wt x.closed+Wt.wt x.iF+Wt.wt x.iD+1,fun _=>by omega⟩
theorem Vo:mS 46 State.rd:=fun H enc W fuel cs x h=>by
 obtain⟨n,ds,hx,hf⟩:=jD [42,35,35,43,44] (by kernel_rfl) h
 obtain⟨_,_,_,_,a0,rfl,rfl,rfl,w0,hf⟩:=ca aa4 hf
 obtain⟨_,_,_,_,a1,rfl,rfl,rfl,w1,hf⟩:=ca sA hf
 obtain⟨_,_,_,_,a2,rfl,rfl,rfl,w2,hf⟩:=ca sA hf
 obtain⟨_,_,_,_,a3,rfl,rfl,⟨v3,rfl,r3⟩,w3,hf⟩:=ca acZ hf
 obtain⟨_,_,_,_,a4,rfl,rfl,⟨v4,rfl,r4⟩,w4,rfl,rfl⟩:=ca ac0 hf
 refine⟨⟨a0,a1,a2,a3,a4⟩,⟨v3,v4,rfl,r3,r4⟩,?_⟩
 rw [hx];simp only [Rows.uptoBulk,Rows.uptoBulkAll,Wt.wt] at*;omega
instance:Wt Rec:=⟨fun x=>Wt.wt x.kind+Wt.wt x.dH+Wt.wt x.br+Wt.wt x.prev+Wt.wt x.ko+Wt.wt x.n+Wt.wt x.rP+Wt.wt x.reads+Wt.wt x.writes+Wt.wt x.parts+Wt.wt x.bH+Wt.wt x.state+1,fun _=>by omega⟩
theorem agh:mS 117 Rec.rd:=fun H enc W fuel cs x h=>by
 obtain⟨n,ds,hx,hf⟩:=jD [3,33,35,35,4,3,40,36,23,22,54,46] (by kernel_rfl) h
 obtain⟨_,_,_,_,a0,rfl,rfl,rfl,w0,hf⟩:=ca nf hf
 obtain⟨_,_,_,_,a1,rfl,rfl,rfl,w1,hf⟩:=ca Vm hf
 obtain⟨_,_,_,_,a2,rfl,rfl,rfl,w2,hf⟩:=ca sA hf
 obtain⟨_,_,_,_,a3,rfl,rfl,rfl,w3,hf⟩:=ca sA hf
 obtain⟨_,_,_,_,a4,rfl,rfl,rfl,w4,hf⟩:=ca XT hf
 obtain⟨_,_,_,_,a5,rfl,rfl,rfl,w5,hf⟩:=ca nf hf
 obtain⟨_,_,_,_,a6,rfl,rfl,rfl,w6,hf⟩:=ca GM hf
 obtain⟨_,_,_,_,a7,rfl,rfl,⟨v7,rfl,r7⟩,w7,hf⟩:=ca Zm hf
 obtain⟨_,_,_,_,a8,rfl,rfl,⟨v8,rfl,r8⟩,w8,hf⟩:=ca Vn hf
 obtain⟨_,_,_,_,a9,rfl,rfl,⟨v9,rfl,r9⟩,w9,hf⟩:=ca Zn hf
 obtain⟨_,_,_,_,a10,rfl,rfl,⟨v10,rfl,r10⟩,vW,hf⟩:=ca aex hf
 obtain⟨_,_,_,_,a11,rfl,rfl,⟨vh,vp,rfl,aiz,aiA⟩,w11,rfl,rfl⟩:=ca Vo hf
 refine⟨⟨a0,a1,a2,a3,a4,a5,a6,a7,a8,a9,a10,a11⟩,⟨v7,v8,v9,v10,vh,vp,rfl,r7.uJ,r8.uJ,r9.uJ,r10.uJ,aiz,aiA⟩,?_⟩
 rw [hx];simp only [Rows.uptoBulk,Rows.uptoBulkAll,Wt.wt] at*;omega
end Go.Proofs.YtpdkoaklobnegaaGreat
