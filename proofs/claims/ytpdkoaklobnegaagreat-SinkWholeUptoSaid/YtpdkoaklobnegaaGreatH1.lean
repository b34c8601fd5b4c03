/-
 Part 1 of the proof: what the last text leans on.
-/
import Derived.KernelRfl
import Derived.Orders
import Derived.Below
import Derived.Laws.Sem
import Derived.Laws.CopyRow
import Derived.Laws.Entries
import Derived.Laws.Cells
import GoSem.Dispatch
open Option.some renaming injEq → aB
open Go.Region renaming wanted → cf, ready → jc, binds → rn, noSelect → yz
open Bool renaming and_eq_true → aA, not_eq_true' → bV, false_eq_true → bu, or_eq_true → fM, not_eq_false → kS
open List renaming mem_filter → gd, mem_append_left → bR, mem_append_right → dH, mem_cons_of_mem → aZ, range → dG, nil_append → cT, mem_cons → gM, mem_cons_self → ju, cons_append → dX, contains_iff_mem → sQ, all_eq_true → lE
open Go.Act renaming put → lC, eval → kD
open Option renaming bind_some → cN, map_some → bM, isNone_iff_eq_none → gP
open Go.Oper renaming upon → lZ, wp → iS, apart_spec → yA
open Prod.mk renaming injEq → dg
open Nat renaming le_refl → bf, lt_of_lt_of_le → aK, le_trans → ah
open Go.Instr renaming sureAddr → jO, loadAt → iF
open Array renaming getElem?_setIfInBounds_ne → j9, getElem?_eq_none → nj, toList_map → wV, replicate → dz, any_eq_true' → um, setIfInBounds_comm → ql, getElem?_setIfInBounds → dQ
open Go.Deferred renaming ofValue → iy
set_option linter.unusedVariables false
set_option linter.unusedSimpArgs false
namespace Go.dL
theorem qF {p:Prop} (h:p:=by first|assumption|exact bH.cells (by assumption)):p:=h
theorem qO {p:Prop} (h:p:=by first|assumption|exact Own.sl (by assumption)):p:=h
theorem qM {p:Prop} (h:p:=by first|exact mv0|exact mv1 (by assumption)|exact mv2 (by assumption) (by assumption)):p:=h
theorem qN {p:Prop} (h:p:=by simp only [Value.cells,nq1,nq2,nq3,nq4,nq5,nq6,b8,nq7,nq8,nq9,nq0,Nat.reduceAdd,Nat.zero_add];try rfl):p:=h
theorem qE {p:Prop} (h:p:=by repeat' first|with_reducible apply Ui|with_reducible exact Yc|assumption|rfl|exact Sl.one (by assumption)|exact ic.one (by assumption)|exact Sl.one (Own.sl (by assumption))):p:=h
theorem qC {p:Prop} (h:p:=by first|rfl|assumption|exact Sl.one (by assumption)|exact ic.one (by assumption)|exact Sl.one (Own.sl (by assumption))):p:=h
theorem qR {p:Prop} (h:p:=by first|assumption|exact List.getElem?_eq_getElem (by omega)):p:=h
theorem qA {p:Prop} (h:p:=by first|assumption|exact Sl.mv (by assumption) qM|exact lF.mv (by assumption) qM|exact mi.mv (by assumption) qM|exact Rec.at.mv (by assumption) qM|exact Own.sl (by assumption)|exact Cells.mv (by assumption) qM|exact Cells.mv (bH.cells (by assumption)) qM|omega):p:=h
theorem kQ {p:Prop} (h:p:=by kernel_rfl):p:=h
theorem zQ {p:Prop} (h:p:=by omega):p:=h
abbrev Env:=Nat→Value
abbrev XS:=Nat→Prop
def kT (e:Env) (d:Nat) (v:Value):Env:=fun s=>match s==d with
 |true=>v
 |false=>e s
def I8 (e:Env) (d:Option Nat) (v:Value):Env:=match d with
 |some d=>kT e d v
 |none=>e
structure Fr (X:XS) (w w':World):Prop where
 os:w'.os=w.os
 tape:w'.tape=w.tape
 output:w'.output=w.output
 size:w.heap.size≤w'.heap.size
 block: ∀k,k<w.heap.size→ ¬X k→w'.heap[k]? =w.heap[k]?
def nX:XS:=fun _=>False
def Ext (w w':World):Prop:=Fr nX w w'
theorem Fr.refl (X:XS) (w:World):Fr X w w:=⟨rfl,rfl,rfl,bf _,fun _ _ _=>rfl⟩
theorem Fr.trans {X:XS} {a b c:World} (h:Fr X a b) (k:Fr X b c):Fr X a c:=
 ⟨k.os.trans h.os,k.tape.trans h.tape,k.output.trans h.output,ah h.size k.size,
  fun i hi hx=>(k.block i (aK hi h.size) hx).trans (h.block i hi hx)⟩
theorem Fr.mono {X Y:XS} {a b:World} (h:Fr X a b) (hs: ∀k,X k→Y k):Fr Y a b:=
 ⟨h.os,h.tape,h.output,h.size,fun i hi hy=>h.block i hi fun hx=>hy (hs i hx)⟩
theorem Ext.refl (w:World):Ext w w:=Fr.refl _ _
theorem Ext.trans {a b c:World} (h:Ext a b) (k:Ext b c):Ext a c:=Fr.trans h k
theorem Ext.fr {a b:World} (h:Ext a b) (X:XS):Fr X a b:=Fr.mono h (fun _ hf=>hf.elim)
theorem Ext.size {a b:World} (h:Ext a b):a.heap.size≤b.heap.size:=Fr.size h
theorem Ext.block {a b:World} (h:Ext a b) {k:Nat} (hk:k<a.heap.size):b.heap[k]? =a.heap[k]? :=Fr.block h k hk (fun hf=>hf)
theorem Ext.adA {a b:World} (h:RowKit.Below a.heap.size a b):Ext a b:=⟨h.os,h.tape,h.output,h.size,fun k hk _=>h.block k hk⟩
theorem Ext.below {a b:World} (h:Ext a b):RowKit.Below a.heap.size a b:=⟨h.os,h.tape,h.output,Fr.size h,fun _ hk=>h.block hk⟩
theorem Ext.alloc (w:World) (o:Obj):Ext w (w.alloc o):=Ext.adA ((RowKit.Below.refl _ _).alloc (bf _) o)
theorem Ext.drew (w:World):Ext w { w with drawn:=w.drawn+1 } :=⟨rfl,rfl,rfl,bf _,fun _ _ _=>rfl⟩
structure Kp (X:XS) (w w':World):Prop where
 os:w'.os=w.os
 tape:w'.tape=w.tape
 output:w'.output=w.output
 size:w.heap.size≤w'.heap.size
 block: ∀k,X k→w'.heap[k]? =w.heap[k]?
theorem Kp.refl (X:XS) (w:World):Kp X w w:=⟨rfl,rfl,rfl,bf _,fun _ _=>rfl⟩
theorem Kp.trans {X:XS} {a b c:World} (h:Kp X a b) (k:Kp X b c):Kp X a c:=
 ⟨k.os.trans h.os,k.tape.trans h.tape,k.output.trans h.output,ah h.size k.size,fun i hx=>(k.block i hx).trans (h.block i hx)⟩
theorem Kp.less {X Y:XS} {a b:World} (h:Kp X a b) (hs: ∀k,Y k→X k):Kp Y a b:=⟨h.os,h.tape,h.output,h.size,fun i hy=>h.block i (hs i hy)⟩
theorem Fr.kp {X Y:XS} {a b:World} (h:Fr X a b) (hy: ∀k,Y k→k<a.heap.size∧ ¬X k):Kp Y a b:=
 ⟨h.os,h.tape,h.output,h.size,fun i hi=>h.block i (hy i hi).1 (hy i hi).2⟩
theorem Ext.kp {X:XS} {a b:World} (h:Ext a b) (hx: ∀k,X k→k<a.heap.size):Kp X a b:=Fr.kp h fun k hk=>⟨hx k hk,fun hf=>hf⟩
def ba (w:World):XS:=fun k=>k<w.heap.size
theorem Kp.ext {a b:World} (h:Kp (ba a) a b):Ext a b:=⟨h.os,h.tape,h.output,h.size,fun k hk _=>h.block k hk⟩
theorem Ext.ba {a b:World} (h:Ext a b):Kp (ba a) a b:=h.kp fun _ hk=>hk
inductive Ex where
 |t (n:Nat)
 |c (v:Value)
 |s (b off n:Nat)
 |k (b off:Nat)
def ef (v:Value) (off n:Nat):Value:=.agg ((v.cells.toList.drop off).take n).toArray
def cellOf (v:Value) (i:Nat):Value:=v.cells.toList.getD i undef
def Ex.ev (env:Env):Ex→Value
 | .t n=>env n
 | .c v=>v
 | .s b off n=>ef (env b) off n
 | .k b off=>cellOf (env b) off
def Ex.Uj:Ex→Nat→Bool
 | .t n,d=>n==d
 | .c _,_=>false
 | .s b _ _,d=>b==d
 | .k b _,d=>b==d
def look {α:Type} :List (Nat×α)→Nat→Option α
 |[],_=>none
 |(s,e)::r,t=>if s=t then some e else look r t
def Ds (env:Env) (ss:List (Nat×Ex)):Operand→Value
 | .tmp t=>match look ss t with
  |some e=>e.ev env
  |none=>env t
 | .const v=>v
 | .global g=>.pointer (some ⟨g,0,none⟩)
 | .func f=>.func (.func f) #[] #[]
def QE (op:Op) (ty:TypeId):Oper:=⟨none,op,ty, "",#[],none⟩
def vS (s:Sem Value):Sem Next:=do pure (.value (←s))
def Gm (f:Value) (args:Array Value):Sem Next:=do let d←iy f args;invoke d.target d.args
def th (ρ:Operand→Value) (a:Array Operand):Array Value:=(a.toList.map ρ).toArray
def aao (ρ:Operand→Value) (a:Array (Nat×Operand)):Array (Nat×Value):=(a.toList.map fun p=>(p.1,ρ p.2)).toArray
def OK (ρ:Operand→Value) (op:Op) (ty:TypeId):Sem Next:=match op with
 | .call ⟨.value (.func f),args,_⟩=>callFunc f (th ρ args)
 | .call ⟨.value (.tmp t),args,_⟩=>Gm (ρ (.tmp t)) (th ρ args)
 | .call ⟨.builtin .len,args,ts⟩=>vS (Builtin.len_ ts ty (th ρ args))
 | .call ⟨.builtin .cap,args,ts⟩=>vS (Builtin.cap_ ts ty (th ρ args))
 | .call ⟨.builtin .min,args,ts⟩=>vS (Builtin.min_ ts ty (th ρ args))
 | .call ⟨.builtin .max,args,ts⟩=>vS (Builtin.max_ ts ty (th ρ args))
 | .call ⟨.builtin .append,args,ts⟩=>vS (Builtin.append_ ts ty (th ρ args))
 | .call ⟨.builtin .copy,args,ts⟩=>vS (Builtin.copy_ ts ty (th ρ args))
 | .call ⟨.builtin .delete,args,ts⟩=>vS (Builtin.delete_ ts ty (th ρ args))
 | .call ⟨.builtin .clear,args,ts⟩=>vS (Builtin.clear_ ts ty (th ρ args))
 | .call ⟨.builtin .panic,args,_⟩=>vS (Instr.panic ((th ρ args).toList.getD 0 .nilIface))
 | .build t ps=>vS (Instr.build t (aao ρ ps))
 | .buildSlice t n ps=>vS (Instr.buildSlice t n (aao ρ ps))
 | .makeFunc fn a b=>vS (Instr.makeFunc fn (th ρ a) (th ρ b))
 |op=>execOp ρ (QE op ty)
theorem QF (ρ:Operand→Value) (a:Array Operand):th ρ a=a.map ρ:=by
 unfold th;rw [←wV]
theorem af8 (ρ:Operand→Value) (a:Array (Nat×Operand)):aao ρ a=a.map fun p=>(p.1,ρ p.2):=by
 unfold aao;rw [←wV]
theorem aca (ρ:Operand→Value) (hρ: ∀f,ρ (.func f)= .func (.func f) #[] #[]) (op:Op) (ty:TypeId):OK ρ op ty=execOp ρ (QE op ty):=by
 unfold OK;split<;>first
  |rfl
  |(simp [execOp,QE,resolve,invoke,iy,QF,af8,vS,builtin,Gm,hρ];done)
def b8 (l:List Value) (off:Nat) (vs:List Value):List Value:=l.take off++vs++l.drop (off+vs.length)
def Rd (P:Program) (X:XS) (w:World) (s:Sem Next) (v:Value):Prop:= ∀wa,Kp X w wa→s.run P wa= .ok (.value v) wa
def lG (v:Value) (want:Bool):Bool:=match v with
 | .bool b=>b==want
 |_=>false
def dO:Value→Bool
 | .agg _=>true
 |_=>false
def one (v:Value):Bool:=match v with
 | .agg _| .tuple _=>false
 |_=>true
inductive TI where
 |Er (b:Nat)
 |set (d:Nat) (e:Ex)
 |box (b n:Nat) (e:Ex)
 |put (b off n:Nat) (e:Ex)
 |wW (b:Nat) (e:Ex)
 |Uk (b off:Nat) (e:Ex)
 |fill (b n:Nat) (e:Ex)
 |rd (d:Nat) (op:Op) (ty:TypeId) (ss:List (Nat×Ex))
 |AY (d:Option Nat) (op:Op) (ty:TypeId) (ss:List (Nat×Ex)) (m:Bool)
 |Ul (g:Nat) (want:Bool) (d:Nat) (e:Ex)
 |grd (g:Nat) (want:Bool) (d:Nat) (op:Op) (ty:TypeId) (ss:List (Nat×Ex))
 |Um (g:Nat) (want:Bool) (d:Option Nat) (op:Op) (ty:TypeId) (ss:List (Nat×Ex)) (m:Bool)
inductive T where
 |EY (l:List TI)
 |seq (a b:T)
 |ite (e:Ex) (a b:T)
 |iu (id:Nat) (a:T)
 |loop (M C:List Nat) (a:T)
 |exit (id:Nat)
 |ret
 |skip
def grow (X:XS) (w w':World):XS:=fun k=>X k∨(w.heap.size≤k∧k<w'.heap.size)
def Step (m:Bool) (X:XS) (w w':World):Prop:=if m then Fr X w w' else Ext w w'
theorem Step.fr {m:Bool} {X:XS} {w w':World} (h:Step m X w w'):Fr X w w':=by
 unfold Step at h;split at h
 ·exact h
 ·exact h.fr X
theorem Step.fh {m:Bool} {X:XS} {w w':World} (h:Ext w w'):Step m X w w':=by
 unfold Step;split
 ·exact h.fr X
 ·exact h
def jy (P:Program) (m:Bool) (X:XS) (w:World) (next:Value→World→XS→Prop) (gY:List PanicEntry→World→XS→Prop):Result Next→Prop
 | .ok (.value v) w'=>Step m X w w'∧next v w' (grow X w w')
 | .ok .skip w'=>Step m X w w'∧next undef w' (grow X w w')
 | .ok (.enter f args) w'=>w'=w∧Calls P f args w fun
   | .returned v,kq=>Step m X w kq∧next v kq (grow X w kq)
   | .panicked ch,kq=>Step m X w kq∧gY ch kq (grow X w kq)
   | .outgrown,_=>False
 | .halt (.panic v) w'=>Step m X w w'∧gY [{ v,recovered:=false }] w' (grow X w w')
 |_=>False
def bq (b:Bool) (N:Prop):Prop:=match b with
 |true=>N
 |false=>False
theorem dt {b:Bool} {N:Prop} :bq b N↔b=true∧N:=by cases b<;>simp [bq]
def ao (v:Value) (A B:Prop):Prop:=match v with
 | .bool t=>(t=true→A)∧(t=false→B)
 |_=>False
def Un (P:Program) (gY:List PanicEntry→Env→World→XS→Prop) (next:Env→World→XS→Prop) (env:Env) (w:World) (X:XS):TI→Prop
 | .Er b=>bq (dO (env b)) (next env w X)
 | .set d e=>next (kT env d (e.ev env)) w X
 | .box b n e=>bq ((e.ev env).cells.toList.length==n) (next (kT env b (.agg (e.ev env).cells)) w X)
 | .put b off n e=>bq ((e.ev env).cells.toList.length==n) (bq ((e.ev env).cells.toList.all one)
   (next (kT env b (.agg (b8 (env b).cells.toList off (e.ev env).cells.toList).toArray)) w X))
 | .wW b e=>bq (one (e.ev env)) (next (kT env b (.agg #[e.ev env])) w X)
 | .Uk b off e=>bq (one (e.ev env)) (next (kT env b (.agg (b8 (env b).cells.toList off [e.ev env]).toArray)) w X)
 | .fill b n e=>bq ((e.ev env).cells.toList.length==n) (bq ((e.ev env).cells.toList.all one) (next (kT env b (.agg (e.ev env).cells)) w X))
 | .rd d op ty ss=> ∃v,Rd P X w (OK (Ds env ss) op ty) v∧next (kT env d v) w X
 | .AY d op ty ss m=> ∀wa,Kp X w wa→
   jy P m X wa (fun v w' X'=>next (I8 env d v) w' X') (fun ch w' X'=>gY ch env w' X') ((OK (Ds env ss) op ty).run P wa)
 | .Ul g want d e=>next (kT env d (if lG (env g) want then e.ev env else undef)) w X
 | .grd g want d op ty ss=> ∃v,(lG (env g) want=true→Rd P X w (OK (Ds env ss) op ty) v)∧(lG (env g) want=false→v=undef)∧
   next (kT env d v) w X
 | .Um g want d op ty ss m=>
   (lG (env g) want=true→ ∀wa,Kp X w wa→
    jy P m X wa (fun v w' X'=>next (I8 env d v) w' X') (fun ch w' X'=>gY ch env w' X') ((OK (Ds env ss) op ty).run P wa))∧
   (lG (env g) want=false→next (I8 env d undef) w X)
def gv (P:Program) (gY:List PanicEntry→Env→World→XS→Prop) (next:Env→World→XS→Prop):List TI→Env→World→XS→Prop
 |[],env,w,X=>next env w X
 |i::l,env,w,X=>Un P gY (gv P gY next l) env w X i
abbrev oD:=Exit→Env→World→XS→Prop
def oD.Zi (next:Env→World→XS→Prop) (K:oD):oD
 | .normal,e,w,X=>next e w X
 |ex,e,w,X=>K ex e w X
def oD.iu (id:Nat) (K:oD):oD
 | .exit i,e,w,X=>if i=id then K .normal e w X else K (.exit i) e w X
 |ex,e,w,X=>K ex e w X
def B6 (M:List Nat) (s:Nat):Bool:=match M with
 |[]=>false
 |x::r=>x==s||B6 r s
theorem wF {s:Nat} : ∀{M:List Nat},B6 M s=true↔s∈M
 |[]=>by simp [B6]
 |x::r=>by
  simp only [B6,fM,beq_iff_eq,wF (M:=r),gM];exact⟨fun h=>h.imp Eq.symm id,fun h=>h.imp Eq.symm id⟩
def merge (M:List Nat) (e env:Env):Env:=fun s=>match B6 M s with
 |true=>e s
 |false=>env s
def den (P:Program):T→oD→Env→World→XS→Prop
 | .EY l,K,env,w,X=>gv P (fun ch=>K (.panic ch)) (fun e w X=>K .normal e w X) l env w X
 | .seq a b,K,env,w,X=>den P a (oD.Zi (fun e w X=>den P b K e w X) K) env w X
 | .ite e a b,K,env,w,X=>ao (e.ev env) (den P a K env w X) (den P b K env w X)
 | .iu id a,K,env,w,X=>den P a (oD.iu id K) env w X
 | .loop M C a,K,env,w,X=> ∃J:Nat→List Value→World→XS→Prop,(∃n,J n (C.map env) w X)∧
   ∀n (e:Env) w' X',(∀k,X k→X' k)→J n (C.map e) w' X'→den P a (oD.Zi (fun e' kq sR=> ∃m,m<n∧J m (C.map e') kq sR) K) (merge M e env) w' X'
 | .exit id,K,env,w,X=>K (.exit id) env w X
 | .ret,K,env,w,X=>K .ret env w X
 | .skip,K,env,w,X=>K .normal env w X
structure bG where
 n:Nat
 boxes:List (Nat×Nat)
 R6:List Nat
 nk:List Nat
 mat:List Nat
 car:List Nat
def bG.jh (pl:bG) (s:Nat):Bool:=pl.nk.contains s&&decide (s<pl.n)&&(look pl.boxes s).isNone&&!pl.R6.contains s
def bG.lH (pl:bG) (d:Nat):Bool:=decide (d<pl.n)&&(look pl.boxes d).isNone&&!pl.R6.contains d
structure Ptr where
 s:Nat
 b:Nat
 off:Nat
 g:Option (Nat×Bool)
structure CS where
 sig:List (Nat×Ex)
 vQ:List Ptr
 live:List Nat
def CS.start:CS:=⟨[],[],[]⟩
def valOf (pl:bG) (cs:CS):Operand→Option Ex
 | .tmp t=>if pl.jh t then some (.t t)else look cs.sig t
 | .const v=>some (.c v)
 | .global g=>some (.c (.pointer (some ⟨g,0,none⟩)))
 | .func f=>some (.c (.func (.func f) #[] #[]))
def EZ (og:Option (Nat×Bool)):List Ptr→Nat→Option (Nat×Nat)
 |[],_=>none
 |p::r,t=>if p.s=t then(if p.g.isNone||p.g==og then some (p.b,p.off)else none)else EZ og r t
def sS (pl:bG) (cs:CS) (og:Option (Nat×Bool)):Operand→Option (Nat×Nat×List Nat)
 | .tmp t=>match look pl.boxes t with
  |some _=>some (t,0,if cs.live.contains t then [] else [t])
  |none=>if pl.R6.contains t then(EZ og cs.vQ t).map fun (b,off)=>(b,off,[])else none
 |_=>none
def CS.kill (cs:CS) (d:Nat):CS:=
 ⟨cs.sig.filter fun p=>p.1 !=d&&!p.2.Uj d,cs.vQ.filter fun p=>p.b !=d&&p.s !=d&&(match p.g with|some (g,_)=>g !=d|none=>true),cs.live⟩
def CS.Ld (cs:CS) (b:Nat):CS:=⟨cs.sig.filter fun p=>!p.2.Uj b,cs.vQ,cs.live⟩
def CS.bind (cs:CS) (pl:bG) (d:Nat):CS:=let c:=cs.kill d;if pl.jh d then c else { c with sig:=(d,.t d)::c.sig }
def CS.note (cs:CS) (d:Nat) (e:Ex):CS:= { cs with sig:=(d,e)::cs.sig.filter (fun p=>p.1 !=d),vQ:=cs.vQ.filter fun p=>p.s !=d }
def CS.rq (cs:CS) (d b off:Nat) (g:Option (Nat×Bool)):CS:=
 { cs with sig:=cs.sig.filter (fun p=>p.1 !=d),vQ:=⟨d,b,off,g⟩::(cs.vQ.filter fun p=>p.s !=d) }
def CS.kI (cs:CS) (l:List Nat):CS:= { cs with live:=l++cs.live }
def oW (pl:bG) (cs:CS) (d:Nat) (e:Ex):List TI×CS:=
 if pl.jh d||pl.mat.contains d then([.set d e],cs.bind pl d)else([],cs.note d e)
def fieldInfo (P:Program) (S f:Nat):Option (Nat×Nat):=
 match P.underlying S with
 |some (.struct fs)=>(fs[f]?).bind fun x=>(P.info? x.type).map fun i=>(x.offset,i.size)
 |_=>none
def subst (pl:bG) (cs:CS):List Operand→Option (List (Nat×Ex))
 |[]=>some []
 | .tmp t::r=>match valOf pl cs (.tmp t),subst pl cs r with
  |some e,some ss=>some (match e with
   | .t n=>if n=t then ss else(t,e)::ss
   |_=>(t,e)::ss)
  |_,_=>none
 |_::r=>subst pl cs r
def Uo (P:Program) (t:Nat):Bool:=match P.underlying t with
 |some (.slice _)=>true
 |_=>false
def akL (P:Program):Op→Bool
 | .pick .. | .nilCheck _| .binOp .. | .unOp .. | .fieldAddr .. | .field .. | .indexAddr .. | .index .. | .extract .. | .slice .. | .build .. | .makeFunc ..
 | .makeInterface .. | .load .. | .lookup .. | .typeAssert .. | .move _| .assign _=>true
 | .convert s d _=>!Uo P s&&!Uo P d
 | .call { callee:=.builtin b,.. } =>match b with
  | .len| .cap| .min| .max=>true
  |_=>false
 |_=>false
structure CR where
 fl:Bool
 nd:List Nat
 l:List TI
 cs:CS
 rb:List Nat
 sb:List Nat
def Gn:Op→Bool
 | .select .. =>false
 |_=>true
def Dt (P:Program) (pl:bG) (cs:CS) (m:Bool) (o:Oper):Option CR:=
 match subst pl cs o.op.operands.toList with
 |none=>none
 |some ss=>if !Gn o.op then none else
  match o.dst with
  |some d=>if !pl.lH d then none else
   if akL P o.op then some ⟨true,[],[.rd d o.op o.type ss],cs.bind pl d,[],[]⟩else some ⟨false,[],[.AY (some d) o.op o.type ss m],cs.bind pl d,[],[]⟩
  |none=>some ⟨false,[],[.AY none o.op o.type ss m],cs,[],[]⟩
def jP (P:Program) (t:Nat):Option (Bool×Nat):=
 match P.underlying t,P.info? t with
 |some d,some i=>some ((match d with| .struct _| .array _ _=>true|_=>false),i.size)
 |_,_=>none
def Uq (P:Program) (pl:bG) (cs:CS) (sz:Nat) (t:Nat) (e:Ex) (d:Nat):Option CR:=
 match jP P t with
 |some (ag,s)=>if decide (d<pl.n)&&s==sz then some ⟨false,[],[if !ag&&s==1 then .wW d e else .box d sz e],(cs.kill d).kI [d],[],[]⟩else none
 |none=>none
def BL (P:Program) (pl:bG) (cs:CS) (og:Option (Nat×Bool)) (m:Bool) (o:Oper):Option CR:=
 match o.op with
 | .move x| .assign x=>match o.dst,valOf pl cs x with
  |some d,some e=>if pl.lH d then(let r:=oW pl cs d e;some ⟨true,[],r.1,r.2,[],[]⟩)else none
  |_,_=>none
 | .box t x=>match o.dst with
  |some d=>match look pl.boxes d with
   |some sz=>match valOf pl cs x with
    |some e=>Uq P pl cs sz t e d
    |none=>none
   |none=>Dt P pl cs m o
  |none=>none
 | .alloc t=>match o.dst with
  |some d=>match look pl.boxes d with
   |some sz=>match(P.info? t).bind (·.zero)with
    |some z=>Uq P pl cs sz t (.c z) d
    |none=>none
   |none=>Dt P pl cs m o
  |none=>none
 | .fieldAddr S x f=>match sS pl cs og x with
  |some (b,off,nd)=>match o.dst,fieldInfo P S f with
   |some d,some (fo,sz)=>if pl.R6.contains d&&decide (d<pl.n)&&(look pl.boxes d).isNone&&sz !=0 then
     some ⟨true,nd,[],(cs.kI nd).rq d b (off+fo) og,[],[]⟩else none
   |_,_=>none
  |none=>Dt P pl cs m o
 | .load t x=>match sS pl cs og x with
  |some (b,off,nd)=>match o.dst,jP P t,look pl.boxes b with
   |some d,some (ag,sz),some bs=>if pl.lH d&&decide (off+sz≤bs)&&(ag||sz==1)then
     (let r:=oW pl (cs.kI nd) d (if ag then .s b off sz else .k b off);some ⟨true,nd,r.1,r.2,[b],[]⟩)else none
   |_,_,_=>none
  |none=>Dt P pl cs m o
 | .store t x v=>match sS pl cs og x with
  |some (b,off,nd)=>match o.dst,valOf pl cs v,jP P t,look pl.boxes b with
   |none,some e,some (ag,sz),some bs=>if decide (off+sz≤bs)then
     some ⟨false,nd,[if !ag&&sz==1 then .Uk b off e else if off==0&&sz==bs then .fill b sz e else .put b off sz e],(cs.kI nd).Ld b,[],[b]⟩else none
   |_,_,_,_=>none
  |none=>Dt P pl cs m o
 |_=>Dt P pl cs m o
def adB:Op→Bool
 | .fieldAddr .. =>true
 |_=>false
def nx (g:Nat) (want:Bool) (op:Op) (r:CR):Option CR:=
 match r.fl,r.l with
 |true,[]=>if adB op then some r else none
 |true,[.set d e]=>if d=g then none else some { r with l:=[.Ul g want d e] }
 |true,[.rd d op ty ss]=>if d=g then none else some { r with l:=[.grd g want d op ty ss] }
 |false,[.AY d op ty ss m]=>if d=some g then none else some { r with l:=[.Um g want d op ty ss m] }
 |_,_=>none
def zR (P:Program) (pl:bG) (cs:CS) (ops:Array Oper) (m:Bool) (o:Oper):Option CR:=
 match o.guard with
 |none=>BL P pl cs none m o
 |some (j,want)=>match(ops[j]?).bind (·.dst)with
  |none=>none
  |some gs=>match valOf pl cs (.tmp gs)with
   |some (.t g)=>(BL P pl cs (some (g,want)) m o).bind (nx g want o.op)
   |_=>none
def CR.all (r:CR):List TI:=r.nd.map .Er++r.l
def B7 (P:Program) (pl:bG) (ops:Array Oper):List Oper→CS→Option (List TI)
 |[],_=>some []
 |o::r,cs=>match zR P pl cs ops true o with
  |some x=>(B7 P pl ops r x.cs).map (x.all++ ·)
  |none=>none
def waits (o:Oper) (i:Nat):Bool:=o.after.any fun e=>rn .any e&&e.on==i
def aap (ops:Array Oper) (cq:Array Bool) (S:List Nat) (j:Nat):Bool:=!cq.getD j true&&match ops[j]? with
 |some o=>o.after.any fun e=>rn .any e&&S.contains e.on
 |none=>false
def I9 (ops:Array Oper) (cq:Array Bool) (i:Nat):List Nat:=(dG ops.size).foldl (fun S j=>if aap ops cq S j then j::S else S) [i]
def akM (ops:Array Oper) (j:Nat):List Nat:=
 (dG (j+1)).reverse.foldl (fun S k=>if S.contains k then(match ops[k]? with
  |some o=>o.after.toList.foldl (fun S e=>if rn .any e&&!S.contains e.on then e.on::S else S) S
  |none=>S)else S) [j]
def BM (o:Oper):Bool:=match o.op with
 | .extract .. =>true
 | .move .. =>true
 |_=>false
def ldX (pl:bG) (o:Oper):Bool:=match o.op with
 | .load _ (.tmp x)=>(look pl.boxes x).isSome
 |_=>false
def ldB (o:Oper) (rb:List Nat):Bool:=match o.op with
 | .load _ (.tmp x)=>rb.contains x
 |_=>false
def rr (pl:bG) (ops:Array Oper) (j:Nat):Bool:=
 match ops[j]? with
 |some oj=>((dG ops.size).all fun i=>i==j||waits oj i||(match ops[i]? with
  |some oi=>waits oi j||BM oi||ldX pl oi
  |none=>true))||(let B:=akM ops j++I9 ops (dz ops.size false) j;(dG ops.size).all fun i=>B.contains i||(match ops[i]? with
  |some oi=>BM oi||ldX pl oi
  |none=>true))
 |none=>false
def acb (pl:bG) (ops:Array Oper):Nat→Operand→Option Nat
 |0,_=>none
 |n+1,.tmp t=>match look pl.boxes t with
  |some _=>some t
  |none=>match ops.find? (fun o=>o.dst==some t)with
   |some o=>(match o.op with
    | .fieldAddr _ x _=>acb pl ops n x
    |_=>none)
   |none=>none
 |_+1,_=>none
def zh (pl:bG) (ops:Array Oper) (o:Oper):List Nat:=match o.op with
 | .store _ x _=>(acb pl ops 6 x).toList
 |_=>[]
def Le (pl:bG) (ops:Array Oper) (cq:Array Bool) (i:Nat) (rb:List Nat):Bool:=
 match ops[i]? with
 |none=>false
 |some oi=>(match oi.dst with
   |some d=>(look pl.boxes d).isNone
   |none=>true)&&(dG ops.size).all fun j=>j==i||cq.getD j true||match ops[j]? with
   |some oj=>waits oj i||(oi.apart ops oj&&(BM oi||ldB oi rb||!rr pl ops j)&&(zh pl ops oj).all fun b=>!rb.contains b)||(I9 ops cq i).contains j
   |none=>true
def B1 (P:Program) (pl:bG) (ops:Array Oper) (cs:CS) (cq:Array Bool):List Nat→Option (Nat×CR)
 |[]=>none
 |i::r=>match(ops[i]?).bind (zR P pl cs ops (rr pl ops i))with
  |some x=>if x.fl&&Le pl ops cq i x.rb then some (i,x)else B1 P pl ops cs cq r
  |none=>B1 P pl ops cs cq r
def Gp (P:Program) (pl:bG) (o:Oper):Option (Nat×Nat×Bool×Value):=match o.guard,o.op,o.dst with
 |none,.alloc t,some d=>match look pl.boxes d,(P.info? t).bind (·.zero),jP P t with
  |some sz,some z,some (ag,s)=>if decide (d<pl.n)&&s==sz then some (d,sz,!ag&&s==1,z)else none
  |_,_,_=>none
 |_,_,_=>none
def wX:Nat×Nat×Bool×Value→TI
 |(d,sz,one,z)=>if one then .wW d (.c z)else .box d sz (.c z)
def ub (cs:CS) (d:Nat):CS:=(cs.kill d).kI [d]
def aaq (l:List Nat) (i:Nat):Bool:=match l with
 |[x]=>x==i
 |_=>false
def afF (P:Program) (pl:bG) (ops:Array Oper) (cq:Array Bool) (i j:Nat):Option (Nat×Nat×Bool×Value):=
 match(ops[i]?).bind (Gp P pl),(ops[j]?).bind (Gp P pl)with
 |some bi,some bj=>if !(bi.1==bj.1)&&aaq (jc .any ops (cq.setIfInBounds i true)) j&&aaq (jc .any ops (cq.setIfInBounds j true)) i then some bi else none
 |_,_=>none
def sT (P:Program) (pl:bG) (ops:Array Oper):Nat→Array Bool→CS→Option (List TI)
 |0,cq,_=>if(jc .any ops cq).isEmpty then some [] else none
 |fuel+1,cq,cs=>
  match B1 P pl ops cs cq (jc .any ops cq)with
  |some (i,x)=>(sT P pl ops fuel (cq.setIfInBounds i true) x.cs).map (x.all++ ·)
  |none=>match jc .any ops cq with
   |[i]=>match ops[i]? with
    |some o=>match zR P pl cs ops (rr pl ops i) o with
     |some x=>if x.sb.all fun b=>(zh pl ops o).contains b then(sT P pl ops fuel (cq.setIfInBounds i true) x.cs).map (x.all++ ·)else none
     |none=>none
    |none=>none
   |[i,j]=>match afF P pl ops cq i j with
    |some b=>(sT P pl ops fuel (cq.setIfInBounds i true) (ub cs b.1)).map (wX b:: ·)
    |none=>none
   |_=>none
def TI.HM:TI→List Nat
 | .set d _=>[d]
 | .box b _ _=>[b]
 | .wW b _=>[b]
 | .rd d _ _ _=>[d]
 | .AY d _ _ _ _=>d.toList
 | .Ul _ _ d _=>[d]
 | .grd _ _ d _ _ _=>[d]
 | .Um _ _ d _ _ _ _=>d.toList
 |_=>[]
def mG (l:List TI):List Nat:=l.flatMap TI.HM
def TI.wr:TI→List Nat
 | .Er _=>[]
 | .set d _=>[d]
 | .box b _ _=>[b]
 | .put b _ _ _=>[b]
 | .wW b _=>[b]
 | .Uk b _ _=>[b]
 | .fill b _ _=>[b]
 | .rd d _ _ _=>[d]
 | .AY d _ _ _ _=>d.toList
 | .Ul _ _ d _=>[d]
 | .grd _ _ d _ _ _=>[d]
 | .Um _ _ d _ _ _ _=>d.toList
def T.wr:T→List Nat
 | .EY l=>l.flatMap TI.wr
 | .seq a b=>a.wr++b.wr
 | .ite _ a b=>a.wr++b.wr
 | .iu _ a=>a.wr
 | .loop M _ a=>M++a.wr
 |_=>[]
def T.mk:T→List Nat
 | .EY l=>mG l
 | .seq a b=>a.mk++b.mk
 | .ite _ a b=>a.mk++b.mk
 | .iu _ a=>a.mk
 | .loop _ _ a=>a.mk
 |_=>[]
def qm:List Nat→List Nat→List Nat
 |[],acc=>acc
 |x::r,acc=>qm r (if acc.contains x then acc else x::acc)
def kJ (P:Program) (pl:bG):Code→Option T
 | .skip=>some .skip
 | .region _ ops draw=>if draw then(if P.follows .mixedOrders&&yz ops then(sT P pl ops ops.size (dz ops.size false) .start).map .EY else none)else(B7 P pl ops ops.toList .start).map .EY
 | .seq a b=>match kJ P pl a,kJ P pl b with
  |some x,some y=>some (match x,y with
   | .skip,y=>y
   |x,.skip=>x
   |x,y=>.seq x y)
  |_,_=>none
 | .cond c a b=>match valOf pl .start c,kJ P pl a,kJ P pl b with
  |some e,some x,some y=>some (.ite e x y)
  |_,_,_=>none
 | .block id a=>(kJ P pl a).map (.iu id)
 | .loop a=>(kJ P pl a).map fun x=>.loop (qm x.wr []) ((qm x.wr []).filter (B6 pl.car)) x
 | .exit id=>some (.exit id)
 | .ret=>some .ret
 |_=>none
def B8 (P:Program) (pl:bG):List ResultVar→Option (List Ex×List Nat)
 |[]=>some ([],[])
 | .tmp t::r=>if pl.jh t then(B8 P pl r).map fun (l,n)=>(.t t::l,n)else none
 | .cell a t::r=>match look pl.boxes a,jP P t with
  |some bs,some (ag,sz)=>if decide (sz≤bs)&&(ag||sz==1)then(B8 P pl r).map fun (l,n)=>((if ag then .s a 0 sz else .k a 0)::l,a::n)else none
  |_,_=>none
structure FT where
 code:T
 res:List Ex
 live:List Nat
def cF (P:Program) (pl:bG) (fn:Func):Option FT:=
 if fn.ntmps==pl.n then
  match fn.body with
  |some c=>match kJ P pl c,B8 P pl fn.results.toList with
   |some t,some (r,n)=>some ⟨t,r,n⟩
   |_,_=>none
  |none=>none
 else none
def Ur (l:List Ex) (env:Env):Value:=match l with
 |[e]=>e.ev env
 |l=>.tuple (l.map (·.ev env)).toArray
def Us (ft:FT) (R:Ending→World→Prop):oD
 | .normal,e,w,X| .ret,e,w,X=>bq (ft.live.all fun b=>dO (e b)) (∀wa,Kp X w wa→R (.returned (Ur ft.res e)) wa)
 | .panic ch,_,w,X=> ∀wa,Kp X w wa→R (.panicked ch) wa
 |_,_,_,_=>False
def lI (args:Array Value):Env:=fun i=>args.toList.getD i undef
section
variable {P : Program} {ops : Array Oper} {Q : Exit → Act → World → Prop}
def ed (k off:Nat):Value:=.pointer (some ⟨k,off,none⟩)
def ZB (pl:bG) (RB:List Nat) (a:Act):XS:=fun k=> ∃b n,look pl.boxes b=some n∧ ¬b∈RB∧a.tmps[b]? =some (ed k 0)
def YF (P:Program) (pl:bG) (RB:List Nat) (ops:Array Oper) (o:Oper) (v:Value) (a:Act) (w:World):Prop:=
 (cf o (yielded ops a.tmps)=true∧ ∀wa,Fr (ZB pl RB a) w wa→(execOp a.eval o).run P wa= .ok (.value v) wa)∨(cf o (yielded ops a.tmps)=false∧v=undef)
def oE (pl:bG) (sb:List Nat) (a:Act) (w:World) (a':Act) (w':World):Prop:=
 ∀RB,(∀b,b∈sb→ ¬b∈RB)→Fr (ZB pl RB a) w w'∧ ∀k,k<w.heap.size→ZB pl RB a' k→ZB pl RB a k
theorem YF.rel {pl:bG} {RB sb:List Nat} {o:Oper} {v:Value} {a a':Act} {w w':World} (h:YF P pl RB ops o v a w) (hx:oE pl sb a w a' w') (hd: ∀b,b∈sb→ ¬b∈RB)
  (he:execOp a'.eval o=execOp a.eval o) (hw:cf o (yielded ops a'.tmps)=cf o (yielded ops a.tmps)):YF P pl RB ops o v a' w':=by
 obtain⟨h1,h2⟩:=hx RB hd;unfold YF at*;rw [he,hw];refine h.imp (fun ⟨g1,g2⟩=>⟨g1,fun wa ha=>g2 wa ?_⟩) id;exact⟨ha.os.trans h1.os,ha.tape.trans h1.tape,ha.output.trans h1.output,ah h1.size ha.size,
  fun k hk hz=>(ha.block k (aK hk h1.size) (fun zS=>hz (h2 k hk zS))).trans (h1.block k hk hz)⟩
def vR (pl:bG) (sb:List Nat) (a:Act) (w w':World):Prop:=
 ∀b n k,look pl.boxes b=some n→ ¬b∈sb→a.tmps[b]? =some (ed k 0)→w'.heap[k]? =w.heap[k]?
def wY (L:Prop) (pl:bG) (sb:List Nat) (a:Act) (w:World) (a':Act) (w':World):Prop:=(L→oE pl sb a w a' w')∧vR pl sb a w w'
def Yx (P:Program) (ops:Array Oper) (o:Oper) (v:Value) (a:Act) (w:World):Prop:=
 (cf o (yielded ops a.tmps)=true∧(execOp a.eval o).run P w= .ok (.value v) w)∨(cf o (yielded ops a.tmps)=false∧v=undef)
def YL (P:Program) (pl:bG) (x:Nat) (ops:Array Oper) (o:Oper) (v:Value) (a:Act) (w:World):Prop:=
 (cf o (yielded ops a.tmps)=true∧ ∃k n,look pl.boxes x=some n∧a.tmps[x]? =some (ed k 0)∧ ∀wa:World,wa.heap[k]? =w.heap[k]? →(execOp a.eval o).run P wa= .ok (.value v) wa)∨
  (cf o (yielded ops a.tmps)=false∧v=undef)
theorem YF.yx {pl:bG} {RB:List Nat} {o:Oper} {v:Value} {a:Act} {w:World} (h:YF P pl RB ops o v a w):Yx P ops o v a w:=h.imp (fun ⟨g1,g2⟩=>⟨g1,g2 w (Fr.refl _ w)⟩) id
theorem YL.yx {pl:bG} {x:Nat} {o:Oper} {v:Value} {a:Act} {w:World} (h:YL P pl x ops o v a w):Yx P ops o v a w:=h.imp (fun ⟨g1,_,_,_,_,g2⟩=>⟨g1,g2 w rfl⟩) id
def Zj (pl:bG) (ops:Array Oper) (oi oj:Oper) (L:Prop) (sb:List Nat) (Y:Act→World→Prop):Prop:=
 ∀a a' w w',wY L pl sb a w a' w'→execOp a'.eval oi=execOp a.eval oi→cf oi (yielded ops a'.tmps)=cf oi (yielded ops a.tmps)→
  (∀x:Nat,(∀d,oj.dst=some d→d≠x)→a'.tmps[x]? =a.tmps[x]?)→Y a w→Y a' w'
theorem vR.refl (pl:bG) (sb:List Nat) (a:Act) (w:World):vR pl sb a w w:=fun _ _ _ _ _ _=>rfl
theorem vR.Ut {pl:bG} {sb:List Nat} {a:Act} {w w':World} {d:Option Nat} {v:Value} (hd: ∀x,d=some x→look pl.boxes x=none) (h:vR pl sb (a.put d v) w w'):vR pl sb a w w':=by
 intro b n k hb hn hk;refine h b n k hb hn ?_;cases d with
 |none=>exact hk
 |some x=>
  have cU:x≠b:=fun e=>by subst e;rw [hd x rfl] at hb;cases hb
  simpa [lC,j9 cU] using hk
theorem vR.sub {pl:bG} {sb sb':List Nat} {a:Act} {w w':World} (h:vR pl sb a w w') (hs: ∀b,b∈sb→b∈sb'):vR pl sb' a w w':=
 fun b n k hb hn hk=>h b n k hb (fun hm=>hn (hs b hm)) hk
theorem Yx.wpOp {i:Nat} {o:Oper} {v:Value} {a:Act} {w:World} (hi:ops[i]? =some o) (hy:Yx P ops o v a w)
  {K:Act→World→Prop} (h:K (a.put o.dst v) w):wpOp P ops Q i K a w:=by
 unfold Go.wpOp;simp only [hi];rcases hy with⟨hw,hv⟩|⟨hw,rfl⟩
 ·simp only [hw,if_true,iS,hv,lZ];exact .inl h
 ·simp only [hw,bu,if_false];exact h
theorem Uu {pl:bG} {RB:List Nat} {a:Act} {d:Option Nat} {v:Value} (hd: ∀x,d=some x→look pl.boxes x=none):ZB pl RB (a.put d v)=ZB pl RB a:=by
 cases d with
 |none=>rfl
 |some x=>
  have hx:=hd x rfl
  funext k
  simp only [ZB,eq_iff_iff];have key: ∀b n,look pl.boxes b=some n→(a.put (some x) v).tmps[b]? =a.tmps[b]? :=fun b n hb=>by
   have cU:x≠b:=fun e=>by subst e;rw [hx] at hb;cases hb
   simp [lC,j9 cU]
  constructor<;>rintro⟨b,n,h1,h2,h3⟩<;>refine⟨b,n,h1,h2,?_⟩
  ·rwa [key b n h1] at h3
  ·rwa [key b n h1]
theorem oE.Ut {pl:bG} {sb:List Nat} {a a':Act} {w w':World} {d:Option Nat} {v:Value} (hd: ∀x,d=some x→look pl.boxes x=none) (h:oE pl sb (a.put d v) w (a'.put d v) w'):oE pl sb a w a' w':=by
 intro RB zT;have:=h RB zT
 rwa [Uu hd,Uu hd] at this
theorem oE.refl (pl:bG) (sb:List Nat) (a:Act) (w:World) (d:Option Nat) (v:Value) (hd: ∀x,d=some x→look pl.boxes x=none):oE pl sb a w (a.put d v) w:=by
 intro RB _;rw [Uu hd];exact⟨Fr.refl _ _,fun _ _ h=>h⟩
theorem acd {o:Oper} (hp:BM o=true) {ρ:Operand→Value} {v:Value} {w wa:World} (h:(execOp ρ o).run P w= .ok (.value v) w):(execOp ρ o).run P wa= .ok (.value v) wa:=by
 unfold BM at hp;split at hp
 ·rename_i x i ho;simp only [execOp,ho] at h⊢;unfold Instr.extract at h⊢;split at h<;>simp_all
  all_goals (split at h<;>simp_all)
 ·rename_i x ho;simp only [execOp,ho] at h⊢;simp_all
 ·cases hp
theorem YF.pure {pl:bG} {RB:List Nat} {o:Oper} {v:Value} {a a':Act} {w w':World} (h:YF P pl RB ops o v a w) (hp:BM o=true)
  (he:execOp a'.eval o=execOp a.eval o) (hw:cf o (yielded ops a'.tmps)=cf o (yielded ops a.tmps)):YF P pl RB ops o v a' w':=by
 unfold YF at*;rw [he,hw];exact h.imp (fun ⟨g1,g2⟩=>⟨g1,fun wa _=>acd hp (g2 w (Fr.refl _ _))⟩) id
def uU (P:Program) (pl:bG) (ops:Array Oper) (Q:Exit→Act→World→Prop):Nat→Array Bool→Act→World→Prop
 |0,cq,a,w=>jc .any ops cq=[]∧Q .normal a w
 |fuel+1,cq,a,w=>
  (jc .any ops cq=[]→Q .normal a w)∧
  ∀i∈jc .any ops cq,wpOp P ops Q i (fun a' w'=>(∀o,ops[i]? =some o→wY (rr pl ops i=false) pl (zh pl ops o) a w a' w')∧uU P pl ops Q fuel (cq.setIfInBounds i true) a' w') a w
theorem OL {pl:bG} : ∀(fuel:Nat) (cq:Array Bool) (a:Act) (w:World),uU P pl ops Q fuel cq a w→wpAny P .any ops Q fuel cq a w
 |0,_,_,_,h=>h
 |fuel+1,_,_,_,h=>⟨h.1,fun i hi=>wpOp_mono (fun a' w' h'=>OL fuel _ a' w' h'.2) (h.2 i hi)⟩
theorem YF.stb {pl:bG} {RB sb:List Nat} {oi oj:Oper} {v:Value} {L:Prop} (hL:L∨BM oi=true) (hd: ∀b,b∈sb→ ¬b∈RB):Zj pl ops oi oj L sb (YF P pl RB ops oi v):=by
 intro a a' w w' hr e2 e3 _ hy;rcases hL with hl|hp
 ·exact hy.rel (hr.1 hl) hd e2 e3
 ·exact hy.pure hp e2 e3
theorem YL.stb {pl:bG} {x:Nat} {sb:List Nat} {oi oj:Oper} {v:Value} {L:Prop} (hx: ∀d,oj.dst=some d→d≠x) (hd: ¬x∈sb):Zj pl ops oi oj L sb (YL P pl x ops oi v):=by
 intro a a' w w' hr e2 e3 e4 hy;unfold YL at*;rw [e2,e3,e4 x hx];exact hy.imp (fun ⟨g1,k,n,g2,g3,g4⟩=>⟨g1,k,n,g2,g3,fun wa hw=>g4 wa (hw.trans (hr.2 x n k g2 hd g3))⟩) id
theorem ace {pl:bG} {sb:List Nat} {L:Prop} {Y:Act→World→Prop} {j:Nat} {oi oj:Oper} {v:Value} (hj:ops[j]? =some oj) (rW:oi.apart ops oj=true)
  (Mq: ∀cs b,oi.op≠ .select cs b) (hsj: ∀cs b,oj.op≠ .select cs b) (Zk: ∀x,oi.dst=some x→look pl.boxes x=none) (gD:Zj pl ops oi oj L sb Y)
  (hQ: ∀c a w,Q (.panic c) (a.put oi.dst v) w→Q (.panic c) a w) {K:Act→World→Prop} {a:Act} {w:World}
  (hy:Y a w) (h:wpOp P ops Q j (fun a' w'=>wY L pl sb (a.put oi.dst v) w a' w'∧K a' w') (a.put oi.dst v) w):
  wpOp P ops Q j (fun a' w'=>wY L pl sb a w a' w'∧Y a' w'∧K (a'.put oi.dst v) w') a w:=by
 obtain⟨h1,h2,h3⟩:=yA rW;have fin: ∀(a0:Act) (w':World) (u:Value),a0.tmps=a.tmps→wY L pl sb (a.put oi.dst v) w ((a0.put oi.dst v).put oj.dst u) w'→K ((a0.put oi.dst v).put oj.dst u) w'→
   wY L pl sb a w (a0.put oj.dst u) w'∧Y (a0.put oj.dst u) w'∧K ((a0.put oj.dst u).put oi.dst v) w':=by
  intro a0 w' u h0 hr hk;rw [Act.put_comm a0 v u h2] at hr hk;have uo:wY L pl sb a w (a0.put oj.dst u) w':=⟨fun hl:L=>(hr.1 hl).Ut Zk,hr.2.Ut Zk⟩;have e1:execOp a0.eval oi=execOp a.eval oi:=by
   have:a0.eval=a.eval:=by funext x;cases x<;>simp [kD,h0]
   rw [this]
  have e2:=(execOp_put oi Mq a0 oj.dst u h3).trans e1;have e3:cf oi (yielded ops (a0.put oj.dst u).tmps)=cf oi (yielded ops a.tmps):=(wanted_put oi a0 oj.dst u h3).trans (by rw [h0]);refine⟨uo,gD a _ w w' uo e2 e3 (fun x hx=>?_) hy,hk⟩;cases hod:oj.dst with
  |none=>simp [lC,h0]
  |some d=>simp [lC,h0,j9 (hx d hod)]
 unfold wpOp at*;simp only [hj] at*;rw [wanted_put oj a oi.dst v h1] at h;split
 ·rename_i hw;simp only [hw,if_true] at h;rcases h with h|⟨afG,ajB⟩;case inr=>exact .inr ⟨by unfold Oper.asks at*;rw [execOp_put oj hsj a oi.dst v h1] at afG;exact afG,ajB⟩
  refine .inl ?_;unfold iS at*;rw [execOp_put oj hsj a oi.dst v h1] at h;generalize (execOp a.eval oj).run P w=r at*;cases r with
  |ok n w'=>
   cases n<;>simp only [lZ] at h⊢
   case value u=>exact fin a w' u rfl h.1 h.2
   case skip=>exact fin a w' undef rfl h.1 h.2
   case defer d=>
    have e:({ a.put oi.dst v with defers:=d::(a.put oi.dst v).defers } :Act)=({ a with defers:=d::a.defers } :Act).put oi.dst v:=Act.put_defers a oi.dst v d;rw [e] at h;exact fin { a with defers:=d::a.defers } w' undef rfl h.1 h.2
   case enter f args=>
    refine Calls.mono h fun e kq he=>?_;cases e with
    |returned u=>exact fin a kq u rfl he.1 he.2
    |panicked c=>exact hQ _ _ _ he
    |outgrown=>exact he
   case row row args=>exact Rows.mono h fun u kq he=>fin a kq u rfl he.1 he.2
  |halt x w'=>
   cases x<;>simp only [lZ] at h⊢
   case panic u=>exact hQ _ _ _ h
 ·rename_i hw;simp only [hw] at h;exact fin a w undef rfl h.1 h.2
theorem R7 {o:Oper} {i:Nat} :waits o i=true↔ ∃e∈o.after,rn .any e=true∧e.on=i:=by
 unfold waits;rw [um];simp
theorem acf {cq:Array Bool} {i:Nat} : ∀j,j∈I9 ops cq i→j=i∨(cq.getD j true=false∧ ∃oj k,ops[j]? =some oj∧waits oj k=true∧k∈I9 ops cq i):=by
 unfold I9;have key: ∀(l:List Nat) (S:List Nat),(∀j,j∈S→j=i∨(cq.getD j true=false∧ ∃oj k,ops[j]? =some oj∧waits oj k=true∧k∈S))→
   ∀j,j∈l.foldl (fun S j=>if aap ops cq S j then j::S else S) S→j=i∨(cq.getD j true=false∧ ∃oj k,ops[j]? =some oj∧waits oj k=true∧k∈l.foldl (fun S j=>if aap ops cq S j then j::S else S) S):=by
  intro l
  induction l with
  |nil=>intro S hS j hj;exact hS j hj
  |cons x l ih=>
   intro S hS;rw [List.foldl_cons];refine ih _ ?_;split
   ·rename_i hc;simp only [aap,aA,bV] at hc;obtain⟨h1,h2⟩:=hc;intro j hj;rcases List.mem_cons.1 hj with rfl|hj
    ·right;cases ho:ops[j]? with
     |none=>simp [ho] at h2
     |some o=>
      simp only [ho,um,aA,sQ] at h2;obtain⟨e,he,hb,hm⟩:=h2;exact⟨h1,o,e.on,rfl,R7.2 ⟨e,he,hb,rfl⟩,aZ _ hm⟩
    ·rcases hS j hj with h|⟨h,oj,k,h3,h4,h5⟩
     ·exact .inl h
     ·exact .inr ⟨h,oj,k,h3,h4,aZ _ h5⟩
   ·exact hS
 exact key _ _ fun j hj=>.inl (by simpa using hj)
theorem Uv {pl:bG} {Y:Act→World→Prop} {i:Nat} {oi:Oper} {v:Value} (Mr: ∀a w,Y a w→Yx P ops oi v a w) (hi:ops[i]? =some oi) (Ja: ∀(j:Nat) (o:Oper) cs b,ops[j]? =some o→o.op≠ .select cs b)
  (Zk: ∀x,oi.dst=some x→look pl.boxes x=none) (hQ: ∀c a w,Q (.panic c) (a.put oi.dst v) w→Q (.panic c) a w):
  ∀(fuel:Nat) (cq:Array Bool) (a:Act) (w:World) (S:Nat→Prop),S i→
   (∀j,S j→j=i∨(cq.getD j true=false∧ ∃oj k,ops[j]? =some oj∧waits oj k=true∧S k))→
   (∀j oj,ops[j]? =some oj→j≠i→cq.getD j true=false→ ¬S j→oi.apart ops oj=true∧Zj pl ops oi oj (rr pl ops j=false) (zh pl ops oj) Y)→
   i∈jc .any ops cq→Y a w→
   uU P pl ops Q fuel (cq.setIfInBounds i true) (a.put oi.dst v) w→uU P pl ops Q (fuel+1) cq a w:=by
 intro fuel
 induction fuel with
 |zero=>
  intro cq a w S _ hS _ hr hy H;refine⟨fun h=>(by rw [h] at hr;cases hr),fun j hj=>?_⟩;by_cases HN:j=i
  ·subst HN;exact(Mr _ _ hy).wpOp hi ⟨fun _ _=>⟨fun _=>oE.refl pl _ a w _ _ Zk,vR.refl _ _ _ _⟩,H⟩
  ·have:=ready_mono hj HN;rw [H.1] at this;cases this
 |succ fuel ih=>
  intro cq a w S hSi hS afH hr hy H;refine⟨fun h=>(by rw [h] at hr;cases hr),fun j hj=>?_⟩;by_cases HN:j=i
  ·subst HN;exact(Mr _ _ hy).wpOp hi ⟨fun _ _=>⟨fun _=>oE.refl pl _ a w _ _ Zk,vR.refl _ _ _ _⟩,H⟩
  ·have h1:=H.2 j (ready_mono hj HN);obtain⟨ahm,oj,Du,ti⟩:=mem_ready.1 hj;have adC: ¬S j:=by
    intro hjS;rcases hS j hjS with h|⟨_,oj',k,ahn,hwt,hkS⟩
    ·exact HN h
    ·rw [Du] at ahn;cases ahn;obtain⟨e,he,hb,heq⟩:=R7.1 hwt;have h1:=ti e he hb;rw [heq] at h1;have h0:cq.getD k true=false:=by
      rcases hS k hkS with h|h
      ·subst h;exact(mem_ready.1 hr).1
      ·exact h.1
     rcases Nat.lt_or_ge k cq.size with h'|h'
     ·simp [h'] at h0 h1;rw [h0] at h1;cases h1
     ·simp [nj h'] at h1
   obtain⟨rW,akN⟩:=afH j oj Du HN ahm adC;have zU:=wpOp_mono (K':=fun a' w'=>wY (rr pl ops j=false) pl (zh pl ops oj) (a.put oi.dst v) w a' w'∧uU P pl ops Q fuel ((cq.setIfInBounds i true).setIfInBounds j true) a' w')
    (fun a' w' h'=>⟨h'.1 oj Du,h'.2⟩) h1
   have h2:=ace Du rW (fun cs b=>Ja i oi cs b hi) (fun cs b=>Ja j oj cs b Du) Zk akN hQ hy zU;have aho: ∀k ok,ops[k]? =some ok→k≠i→(cq.setIfInBounds j true).getD k true=false→ ¬S k→
     oi.apart ops ok=true∧Zj pl ops oi ok (rr pl ops k=false) (zh pl ops ok) Y:=fun k ok hk hki Ms kU=>by
    refine afH k ok hk hki ?_ kU;by_cases E6:j=k
    ·subst E6;exact ahm
    ·rw [getD_set_ne true E6] at Ms;exact Ms
   have hS': ∀k,S k→k=i∨((cq.setIfInBounds j true).getD k true=false∧ ∃oj k',ops[k]? =some oj∧waits oj k'=true∧S k'):=fun k hk=>by
    rcases hS k hk with h|⟨h,h2⟩
    ·exact .inl h
    ·exact .inr ⟨by rw [getD_set_ne true (fun e=>adC (by rw [e];exact hk))];exact h,h2⟩
   refine wpOp_mono (fun a' w' h3=>⟨fun o ho=>?_,ih (cq.setIfInBounds j true) a' w' S hSi hS' aho (ready_mono hr (Ne.symm HN)) h3.2.1 ?_⟩) h2
   ·rw [Du] at ho;injection ho with ho;subst ho;exact h3.1
   rw [ql _ _ HN];exact h3.2.2
theorem acg {pl:bG} {RB:List Nat} {i:Nat} {oi:Oper} {cq:Array Bool} (hi:ops[i]? =some oi) (h:Le pl ops cq i RB=true): ∀x,oi.dst=some x→look pl.boxes x=none:=by
 simp only [Le,hi,aA] at h;intro x hx;have:=h.1;rw [hx] at this;simpa using this
theorem aar {pl:bG} {RB:List Nat} {i:Nat} {oi:Oper} {cq:Array Bool} (hi:ops[i]? =some oi) (h:Le pl ops cq i RB=true) (j:Nat) (oj:Oper)
  (hj:ops[j]? =some oj) (cU:j≠i) (Ms:cq.getD j true=false) (kU: ¬j∈I9 ops cq i) (hnw:waits oj i=false):
  oi.apart ops oj=true∧(rr pl ops j=false∨BM oi=true∨ldB oi RB=true)∧ ∀b,b∈zh pl ops oj→ ¬b∈RB:=by
 simp only [Le,hi,aA,lE,List.mem_range] at h;have h1:=h.2 j (Array.getElem?_eq_some_iff.1 hj).1;simp only [hj,fM,beq_iff_eq,cU,false_or,Ms,bu,hnw,aA,bV,lE,sQ,kU,or_false] at h1;exact⟨h1.1.1,h1.1.2.elim (fun h=>.inr h) .inl,fun b hb=>by have:=h1.2 b hb;simpa using this⟩
end
def AZ (env:Env):Option (Nat×Bool)→Prop
 |none=>True
 |some (g,want)=>lG (env g) want=true
structure Bk where
 ds:List Deferred
 pins:List (Nat×Value)
structure eH (pl:bG) (ds:Bk) (cs:CS) (env:Env) (X:XS) (w0:World) (a:Act) (w:World):Prop where
 size:a.tmps.size=pl.n
 defers:a.defers=ds.ds
 uV: ∀p,p∈ds.pins→a.tmps[p.1]? =some p.2∧((∃n k,look pl.boxes p.1=some n∧p.2=ed k 0)∨pl.jh p.1=true)
 ext:Kp X w0 w
 sU: ∀k,X k→k<w.heap.size
 nk: ∀s,pl.jh s=true→a.tmps[s]? =some (env s)
 sig: ∀p,p∈cs.sig→a.tmps[p.1]? =some (p.2.ev env)
 box: ∀b n,look pl.boxes b=some n→ ∀cells,env b= .agg cells→ ∃k ty,a.tmps[b]? =some (ed k 0)∧w.heap[k]? =some (.cells cells ty (0,0))∧cells.size=n∧ ¬X k
 inj: ∀b b' n n',look pl.boxes b=some n→look pl.boxes b'=some n'→dO (env b)=true→dO (env b')=true→ ∀k,a.tmps[b]? =some (ed k 0)→a.tmps[b']? =some (ed k 0)→b=b'
 conv: ∀b n,look pl.boxes b=some n→ ∀k,a.tmps[b]? =some (ed k 0)→dO (env b)=true
 live: ∀b,b∈cs.live→(∃n,look pl.boxes b=some n)∧dO (env b)=true
 ptr: ∀p,p∈cs.vQ→(∃n,look pl.boxes p.b=some n)∧(AZ env p.g→dO (env p.b)=true∧ ∃k,a.tmps[p.b]? =some (ed k 0)∧a.tmps[p.s]? =some (ed k p.off))
theorem mX (a:Act) (d:Nat) (v:Value) (s:Nat) (hd:d<a.tmps.size):(a.put (some d) v).tmps[s]? =if s=d then some v else a.tmps[s]? :=by
 simp only [lC,dQ];by_cases h:s=d
 ·subst h;simp [hd]
 ·rw [if_neg (Ne.symm h),if_neg h]
theorem fz (a:Act) (d:Nat) (v:Value) (s:Nat) (h:s≠d):(a.put (some d) v).tmps[s]? =a.tmps[s]? :=by
 simp only [lC,dQ];rw [if_neg (Ne.symm h)]
theorem kh (e:Env) (d:Nat) (v:Value):kT e d v d=v:=by simp [kT]
theorem gG (e:Env) {d s:Nat} (v:Value) (h:s≠d):kT e d v s=e s:=by
 have:(s==d)=false:=by simpa using h
 simp [kT,this]
theorem Uw {e:Ex} {d:Nat} (h:e.Uj d=false) (env:Env) (v:Value):e.ev (kT env d v)=e.ev env:=by
 cases e<;>simp only [Ex.Uj,beq_eq_false_iff_ne,ne_eq] at h<;>simp [Ex.ev,gG,h]
theorem su {v:Value} :dO v=true↔ ∃c,v= .agg c:=by
 cases v<;>simp [dO]
section
variable {P : Program} {pl : bG} {ds : Bk} {cs : CS} {env : Env} {X : XS} {w0 w : World} {a : Act}
theorem pN {s:Nat} (h:pl.jh s=true):s<pl.n∧look pl.boxes s=none∧pl.R6.contains s=false:=by
 simp only [bG.jh,aA,decide_eq_true_eq,gP,bV] at h;exact⟨h.1.1.2,h.1.2,h.2⟩
theorem vL {s:Nat} (h:pl.lH s=true):s<pl.n∧look pl.boxes s=none∧pl.R6.contains s=false:=by
 simp only [bG.lH,aA,decide_eq_true_eq,gP,bV] at h;exact⟨h.1.1,h.1.2,h.2⟩
theorem zi {α:Type} {l:List (Nat×α)} {t:Nat} {e:α} (h:look l t=some e):(t,e)∈l:=by
 induction l with
 |nil=>cases h
 |cons p r ih=>
  obtain⟨s,x⟩:=p;simp only [look] at h;split at h
  ·rename_i hs;injection h with h
   subst hs h;exact ju ..
  ·exact aZ _ (ih h)
theorem eH.eval (h:eH pl ds cs env X w0 a w) {x:Operand} {e:Ex} (hv:valOf pl cs x=some e):a.eval x=e.ev env:=by
 cases x with
 |tmp t=>
  simp only [valOf] at hv;split at hv
  ·rename_i hg;injection hv with hv
   subst hv;simp [kD,h.nk t hg,Ex.ev]
  ·have:=h.sig _ (zi hv);simp only at this;simp [kD,this]
 |const v=>simp only [valOf,aB] at hv;subst hv;rfl
 |global g=>simp only [valOf,aB] at hv;subst hv;rfl
 |func f=>simp only [valOf,aB] at hv;subst hv;rfl
theorem wZ: ∀{l:List Operand} {ss:List (Nat×Ex)},subst pl cs l=some ss→
  (∀t e,look ss t=some e→valOf pl cs (.tmp t)=some e)∧(∀t,.tmp t∈l→look ss t=none→valOf pl cs (.tmp t)=some (.t t))
 |[],ss,h=>by
  simp only [subst,aB] at h;subst h;exact⟨fun t e h=>(by cases h),fun t h=>(by cases h)⟩
 |x::r,ss,h=>by
  cases x with
  |tmp t=>
   simp only [subst] at h;cases hv:valOf pl cs (.tmp t)with
   |none=>simp [hv] at h
   |some e=>
    cases hr:subst pl cs r with
    |none=>simp [hv,hr] at h
    |some ss'=>
     obtain⟨i1,i2⟩:=wZ hr;simp only [hv,hr,aB] at h;have gen: ∀e',e=e'→ss=(t,e')::ss'→(∀u e,look ss u=some e→valOf pl cs (.tmp u)=some e)∧(∀u,.tmp u∈(.tmp t::r)→look ss u=none→valOf pl cs (.tmp u)=some (.t u)):=by
      intro e' he hs;subst hs;refine⟨fun u e2 hu=>?_,fun u hu hn=>?_⟩
      ·simp only [look] at hu;split at hu
       ·rename_i htu;injection hu with hu
        subst htu hu;rw [hv,he]
       ·exact i1 _ _ hu
      ·simp only [look] at hn;split at hn
       ·cases hn
       ·rename_i htu;rcases List.mem_cons.1 hu with h1|h1
        ·injection h1 with h1;exact absurd h1.symm htu
        ·exact i2 u h1 hn
     cases e with
     |t n=>
      simp only at h;split at h
      ·rename_i hnt;subst hnt h;refine⟨i1,fun u hu hn=>?_⟩;rcases List.mem_cons.1 hu with h1|h1
       ·injection h1 with h1;subst h1;exact hv
       ·exact i2 u h1 hn
      ·exact gen _ rfl h.symm
     |c v=>exact gen _ rfl h.symm
     |s b o n=>exact gen _ rfl h.symm
     |k b o=>exact gen _ rfl h.symm
  |const v=>
   obtain⟨i1,i2⟩:=wZ (l:=r) (by simpa only [subst] using h);exact⟨i1,fun u hu hn=>(List.mem_cons.1 hu).elim (fun h1=>by cases h1) fun h1=>i2 u h1 hn⟩
  |global v=>
   obtain⟨i1,i2⟩:=wZ (l:=r) (by simpa only [subst] using h);exact⟨i1,fun u hu hn=>(List.mem_cons.1 hu).elim (fun h1=>by cases h1) fun h1=>i2 u h1 hn⟩
  |func v=>
   obtain⟨i1,i2⟩:=wZ (l:=r) (by simpa only [subst] using h);exact⟨i1,fun u hu hn=>(List.mem_cons.1 hu).elim (fun h1=>by cases h1) fun h1=>i2 u h1 hn⟩
theorem eH.Ds (h:eH pl ds cs env X w0 a w) {l:List Operand} {ss:List (Nat×Ex)} (hs:subst pl cs l=some ss):
  ∀x,x∈l→a.eval x=dL.Ds env ss x:=by
 obtain⟨i1,i2⟩:=wZ hs;intro x hx;cases x with
 |tmp t=>
  simp only [dL.Ds];cases hl:look ss t with
  |some e=>exact h.eval (i1 t e hl)
  |none=>exact h.eval (i2 t hx hl)
 |const v=>rfl
 |global g=>rfl
 |func f=>rfl
theorem ach (ρ:Operand→Value) (o:Oper):execOp ρ o=execOp ρ (QE o.op o.type):=by
 cases o;rfl
theorem aas {op:Op} (h:Gn op=true): ∀cs b,op≠ .select cs b:=by
 intro cs b e;subst e;cases h
theorem eH.exec (h:eH pl ds cs env X w0 a w) {o:Oper} {ss:List (Nat×Ex)} (hs:subst pl cs o.op.operands.toList=some ss) (hn:Gn o.op=true):
  execOp a.eval o=execOp (dL.Ds env ss) (QE o.op o.type):=by
 rw [execOp_congr o (aas hn) fun x hx=>h.Ds hs x (by simpa using hx)];exact ach _ _
theorem eH.step (h:eH pl ds cs env X w0 a w) {X':XS} {eB w':World} (hx:Kp X' eB w') (hX: ∀k,X' k→k<w'.heap.size)
  (hb: ∀k,k<w.heap.size→ ¬X k→w'.heap[k]? =w.heap[k]? ∧ ¬X' k):eH pl ds cs env X' eB a w' where
 size:=h.size
 defers:=h.defers
 uV:=h.uV
 ext:=hx
 sU:=hX
 nk:=h.nk
 sig:=h.sig
 box:=fun b n hn cells hc=>by
  obtain⟨k,ty,h1,h2,h3,h4⟩:=h.box b n hn cells hc;obtain⟨e1,e2⟩:=hb k (Array.getElem?_eq_some_iff.1 h2).1 h4;exact⟨k,ty,h1,e1.trans h2,h3,e2⟩
 inj:=h.inj
 conv:=h.conv
 live:=h.live
 ptr:=h.ptr
theorem eH.fL (h:eH pl ds cs env X w0 a w) {w':World} (hx:Ext w w'):eH pl ds cs env X w0 a w':=
 h.step (h.ext.trans (hx.kp h.sU)) (fun k hk=>aK (h.sU k hk) hx.size) fun _ hk hX=>⟨hx.block hk,hX⟩
theorem eH.Lf (h:eH pl ds cs env X w0 a w) {m:Bool} {w':World} (hs:Step m X w w'):eH pl ds cs env (grow X w w') w' a w':=
 h.step (Kp.refl _ _) (fun k hk=>hk.elim (fun hX=>aK (h.sU k hX) hs.fr.size) (·.2))
  fun k hk hX=>⟨hs.fr.block k hk hX,fun hg=>hg.elim hX fun hg=>by omega⟩
theorem qo {s d:Nat} {n:Nat} (hs:look pl.boxes s=some n) (hd:look pl.boxes d=none):s≠d:=by
 rintro rfl;rw [hs] at hd;cases hd
theorem eH.bind (h:eH pl ds cs env X w0 a w) {d:Nat} (hd:pl.lH d=true) (v:Value) (oY: ∀p,p∈ds.pins→p.1≠d):
  eH pl ds (cs.bind pl d) (kT env d v) X w0 (a.put (some d) v) w:=by
 obtain⟨cH,pX,mP⟩:=vL hd;have dU:d<a.tmps.size:=by rw [h.size];exact cH
 have afI: ∀p,p∈(cs.kill d).sig→(a.put (some d) v).tmps[p.1]? =some (p.2.ev (kT env d v)):=by
  intro p hp;simp only [CS.kill,gd,aA,bne_iff_ne,ne_eq,bV] at hp;rw [fz _ _ _ _ hp.2.1,Uw hp.2.2];exact h.sig p hp.1
 have adD: ∀p,p∈(cs.kill d).vQ→(∃n,look pl.boxes p.b=some n)∧(AZ (kT env d v) p.g→dO (kT env d v p.b)=true∧ ∃k,(a.put (some d) v).tmps[p.b]? =some (ed k 0)∧(a.put (some d) v).tmps[p.s]? =some (ed k p.off)):=by
  intro p hp;simp only [CS.kill,gd,aA,bne_iff_ne,ne_eq] at hp;obtain⟨Ux,⟨hb,hs⟩,hg⟩:=hp;obtain⟨e1,e2⟩:=h.ptr p Ux;refine⟨e1,fun Jb=>?_⟩;have akO:AZ env p.g:=by
   cases hpg:p.g with
   |none=>trivial
   |some x=>
    obtain⟨g,want⟩:=x;rw [hpg] at Jb hg;simp only [AZ] at Jb⊢
    rwa [gG _ _ (by simpa using hg)] at Jb
  obtain⟨e3,k,e4,e5⟩:=e2 akO;rw [gG _ _ hb,fz _ _ _ _ hb,fz _ _ _ _ hs];exact⟨e3,k,e4,e5⟩
 have adE: ∀p,p∈(cs.bind pl d).sig→(a.put (some d) v).tmps[p.1]? =some (p.2.ev (kT env d v)):=by
  intro p hp;simp only [CS.bind] at hp;split at hp
  ·exact afI p hp
  ·rcases List.mem_cons.1 hp with rfl|hp
   ·simp [mX _ _ _ _ dU,Ex.ev,kh]
   ·exact afI p hp
 have hpt:(cs.bind pl d).vQ=(cs.kill d).vQ:=by simp only [CS.bind];split<;>rfl
 have hlv:(cs.bind pl d).live=cs.live:=by simp only [CS.bind];split<;>rfl
 exact {
  size:=by simp [lC,h.size]
  defers:=h.defers
  uV:=fun p hp=>⟨by rw [fz _ _ _ _ (oY p hp)];exact(h.uV p hp).1,(h.uV p hp).2⟩
  ext:=h.ext
  sU:=h.sU
  nk:=fun s hs=>by
   rw [mX _ _ _ _ dU];split
   ·rename_i e;subst e;rw [kh]
   ·rename_i e;rw [gG _ _ e];exact h.nk s hs
  sig:=adE
  box:=fun b n hn cells hc=>by
   have mH:=qo hn pX;rw [gG _ _ mH] at hc;rw [fz _ _ _ _ mH];exact h.box b n hn cells hc
  inj:=fun b b' n n' hb fR h1 h2 k h3 h4=>by
   have mH:=qo hb pX;have Gq:=qo fR pX;rw [gG _ _ mH] at h1;rw [gG _ _ Gq] at h2;rw [fz _ _ _ _ mH] at h3;rw [fz _ _ _ _ Gq] at h4;exact h.inj b b' n n' hb fR h1 h2 k h3 h4
  conv:=fun b n hb k hk=>by
   have mH:=qo hb pX;rw [fz _ _ _ _ mH] at hk;rw [gG _ _ mH];exact h.conv b n hb k hk
  live:=fun b hb=>by
   rw [hlv] at hb;obtain⟨⟨n,hn⟩,hl⟩:=h.live b hb;rw [gG _ _ (qo hn pX)];exact⟨⟨n,hn⟩,hl⟩
  ptr:=by rw [hpt];exact adD }
theorem eH.kI (h:eH pl ds cs env X w0 a w) {nd:List Nat} (hn: ∀b,b∈nd→(∃n,look pl.boxes b=some n)∧dO (env b)=true):
  eH pl ds (cs.kI nd) env X w0 a w:=
 { h with live:=fun b hb=>(List.mem_append.1 hb).elim (hn b) (h.live b) }
theorem eH.other (h:eH pl ds cs env X w0 a w) {d:Nat} (cH:d<pl.n) (pX:look pl.boxes d=none) (Jc:pl.jh d=false) (v:Value) {mY:CS}
  (adE: ∀p,p∈mY.sig→(a.put (some d) v).tmps[p.1]? =some (p.2.ev env)) (hlv:mY.live=cs.live)
  (adD: ∀p,p∈mY.vQ→(∃n,look pl.boxes p.b=some n)∧(AZ env p.g→dO (env p.b)=true∧ ∃k,(a.put (some d) v).tmps[p.b]? =some (ed k 0)∧(a.put (some d) v).tmps[p.s]? =some (ed k p.off))):
  eH pl ds mY env X w0 (a.put (some d) v) w where
 size:=by simp [lC,h.size]
 defers:=h.defers
 uV:=fun p hp=>by
  obtain⟨h1,h2⟩:=h.uV p hp;refine⟨?_,h2⟩;have cU:p.1≠d:=fun e=>by
   rcases h2 with⟨n,_,hn,_⟩|hg
   ·rw [e,pX] at hn;cases hn
   ·rw [e,Jc] at hg;cases hg
  rw [fz _ _ _ _ cU];exact h1
 ext:=h.ext
 sU:=h.sU
 nk:=fun s hs=>by
  rw [fz _ _ _ _ (by rintro rfl;rw [hs] at Jc;cases Jc)];exact h.nk s hs
 sig:=adE
 box:=fun b n hn cells hc=>by
  rw [fz _ _ _ _ (qo hn pX)];exact h.box b n hn cells hc
 inj:=fun b b' n n' hb fR h1 h2 k h3 h4=>by
  rw [fz _ _ _ _ (qo hb pX)] at h3;rw [fz _ _ _ _ (qo fR pX)] at h4;exact h.inj b b' n n' hb fR h1 h2 k h3 h4
 conv:=fun b n hb k hk=>by
  rw [fz _ _ _ _ (qo hb pX)] at hk;exact h.conv b n hb k hk
 live:=fun b hb=>h.live b (hlv▸hb)
 ptr:=adD
theorem eH.note (h:eH pl ds cs env X w0 a w) {d:Nat} (hd:pl.lH d=true) (Jc:pl.jh d=false) (e:Ex):
  eH pl ds (cs.note d e) env X w0 (a.put (some d) (e.ev env)) w:=by
 obtain⟨cH,pX,mP⟩:=vL hd;have dU:d<a.tmps.size:=by rw [h.size];exact cH
 refine h.other cH pX Jc _ ?_ rfl ?_
 ·intro p hp;simp only [CS.note,gM,gd,bne_iff_ne,ne_eq] at hp;rcases hp with rfl|⟨hp,cU⟩
  ·simp [mX _ _ _ _ dU]
  ·rw [fz _ _ _ _ cU];exact h.sig p hp
 ·intro p hp;simp only [CS.note,gd,bne_iff_ne,ne_eq] at hp;obtain⟨⟨n,hn⟩,e2⟩:=h.ptr p hp.1;refine⟨⟨n,hn⟩,fun hg=>?_⟩;obtain⟨e3,k,e4,e5⟩:=e2 hg;refine⟨e3,k,?_,?_⟩
  ·rw [fz _ _ _ _ (qo hn pX)];exact e4
  ·rw [fz _ _ _ _ hp.2];exact e5
theorem eH.oW (h:eH pl ds cs env X w0 a w) {d:Nat} (hd:pl.lH d=true) (e:Ex) {gY:List PanicEntry→Env→World→XS→Prop} {next:Env→World→XS→Prop}
  (hn:gv P gY next (dL.oW pl cs d e).1 env w0 X) (oY: ∀b,b∈mG (dL.oW pl cs d e).1→ ∀p,p∈ds.pins→p.1≠b): ∃dK,eH pl ds (dL.oW pl cs d e).2 dK X w0 (a.put (some d) (e.ev env)) w∧next dK w0 X:=by
 unfold dL.oW at hn oY⊢;split
 ·rename_i hg;rw [if_pos hg] at hn oY;exact⟨_,h.bind hd _ (oY d (by simp [mG,TI.HM])),hn⟩
 ·rename_i hg;rw [if_neg hg] at hn;have Jc:pl.jh d=false:=by
   cases hx:pl.jh d with
   |false=>rfl
   |true=>simp [hx] at hg
  exact⟨env,h.note hd Jc e,hn⟩
theorem eH.derive (h:eH pl ds cs env X w0 a w) {d b off:Nat} {g:Option (Nat×Bool)} (cH:d<pl.n) (pX:look pl.boxes d=none) (Gr:pl.R6.contains d=true)
    (v:Value) (hb: ∃n,look pl.boxes b=some n) (hv:AZ env g→dO (env b)=true∧ ∃k,a.tmps[b]? =some (ed k 0)∧v=ed k off)
 :
    eH pl ds (cs.rq d b off g) env X w0 (a.put (some d) v) w:=by
  have dU:d<a.tmps.size:=by rw [h.size];exact cH
  have Jc:pl.jh d=false:=by
    cases hx:pl.jh d with
    |false=>rfl
    |true=>have:=(pN hx).2.2;rw [Gr] at this;cases this
  refine h.other cH pX Jc _ ?_ rfl ?_
  · intro p hp
    simp only [CS.rq,gd,bne_iff_ne,ne_eq] at hp;rw [fz _ _ _ _ hp.2];exact h.sig p hp.1
  · intro p hp
    rcases List.mem_cons.1 hp with rfl|hp
    · obtain⟨n,hn⟩:=hb
      refine⟨⟨n,hn⟩,fun hg=>?_⟩;obtain⟨e1,k,e2,e3⟩:=hv hg;refine⟨e1,k,?_,?_⟩
      · rw [fz _ _ _ _ (qo hn pX)];exact e2
      · simp [mX _ _ _ _ dU,e3]
    · simp only [gd,bne_iff_ne,ne_eq] at hp
      obtain⟨⟨n,hn⟩,e2⟩:=h.ptr p hp.1;refine⟨⟨n,hn⟩,fun hg=>?_⟩;obtain⟨e3,k,e4,e5⟩:=e2 hg;refine⟨e3,k,?_,?_⟩
      · rw [fz _ _ _ _ (qo hn pX)];exact e4
      · rw [fz _ _ _ _ hp.2];exact e5
theorem adF {d:Nat} {p:Nat×Ex} (hp:p∈(cs.kill d).sig):p∈cs.sig∧p.1≠d∧p.2.Uj d=false:=by
 simpa [CS.kill,gd] using hp
theorem adG {d:Nat} {p:Ptr} (hp:p∈(cs.kill d).vQ):p∈cs.vQ∧p.b≠d∧p.s≠d∧(∀v,AZ (kT env d v) p.g→AZ env p.g):=by
 simp only [CS.kill,gd,aA,bne_iff_ne,ne_eq] at hp;obtain⟨Ux,⟨hb,hs⟩,hg⟩:=hp;refine⟨Ux,hb,hs,fun v Jb=>?_⟩;cases hpg:p.g with
 |none=>trivial
 |some x=>
  obtain⟨g,want⟩:=x;rw [hpg] at Jb hg;simp only [AZ] at Jb⊢
  rwa [gG _ _ (by simpa using hg)] at Jb
theorem eH.aci (h:eH pl ds cs env X w0 a w) {d sz:Nat} (cH:d<pl.n) (hb:look pl.boxes d=some sz) (cells:Array Value) (dU:cells.size=sz) (ty:TypeId) (oY: ∀p,p∈ds.pins→p.1≠d):
  eH pl ds ((cs.kill d).kI [d]) (kT env d (.agg cells)) X w0 (a.put (some d) (ed w.heap.size 0)) (w.alloc (.cells cells ty)):=by
 have hd:d<a.tmps.size:=by rw [h.size];exact cH
 have hg:=h.fL (Ext.alloc w (.cells cells ty));have fresh: ∀b n c,look pl.boxes b=some n→env b= .agg c→a.tmps[b]? ≠some (ed w.heap.size 0):=by
  intro b n c hn hc e;obtain⟨k,ty',h1,h2,_,_⟩:=h.box b n hn c hc;rw [h1] at e;have hk:k=w.heap.size:=by simpa [ed] using e
  subst hk;rw [nj (bf _)] at h2;cases h2
 exact {
  size:=by simp [lC,h.size]
  defers:=h.defers
  uV:=fun p hp=>⟨by rw [fz _ _ _ _ (oY p hp)];exact(h.uV p hp).1,(h.uV p hp).2⟩
  ext:=hg.ext
  sU:=hg.sU
  nk:=fun s hs=>by
   have cU:s≠d:=fun e=>by subst e;have:=(pN hs).2.1;rw [hb] at this;cases this
   rw [fz _ _ _ _ cU,gG _ _ cU];exact h.nk s hs
  sig:=fun p hp=>by
   obtain⟨h1,h2,h3⟩:=adF hp;rw [fz _ _ _ _ h2,Uw h3];exact h.sig p h1
  box:=fun b n hn c hc=>by
   by_cases mH:b=d
   ·subst mH;rw [kh] at hc;injection hc with hc
    subst hc;rw [hb] at hn;injection hn with hn
    refine⟨w.heap.size,ty,by simp [mX _ _ _ _ hd],heap_alloc_new w _,by omega,fun hX=>?_⟩;exact absurd (h.sU _ hX) zQ
   ·rw [gG _ _ mH] at hc;rw [fz _ _ _ _ mH];exact hg.box b n hn c hc
  inj:=fun b b' n n' hn ke h1 h2 k h3 h4=>by
   obtain⟨c,hc⟩:=su.1 h1;obtain⟨c',Jd⟩:=su.1 h2;by_cases mH:b=d<;>by_cases Gq:b'=d
   ·rw [mH,Gq]
   ·subst mH;rw [mX _ _ _ _ hd,if_pos rfl] at h3;rw [fz _ _ _ _ Gq] at h4;rw [gG _ _ Gq] at Jd;rw [←h3] at h4;exact absurd h4 (fresh b' n' c' ke Jd)
   ·subst Gq;rw [mX _ _ _ _ hd,if_pos rfl] at h4;rw [fz _ _ _ _ mH] at h3;rw [gG _ _ mH] at hc;rw [←h4] at h3;exact absurd h3 (fresh b n c hn hc)
   ·rw [gG _ _ mH] at h1;rw [gG _ _ Gq] at h2;rw [fz _ _ _ _ mH] at h3;rw [fz _ _ _ _ Gq] at h4;exact h.inj b b' n n' hn ke h1 h2 k h3 h4
  conv:=fun b n hn k hk=>by
   by_cases mH:b=d
   ·subst mH;rw [kh];rfl
   ·rw [fz _ _ _ _ mH] at hk;rw [gG _ _ mH];exact h.conv b n hn k hk
  live:=fun b fR=>by
   simp only [CS.kI,dX,cT,gM] at fR;rcases fR with rfl|fR
   ·exact⟨⟨sz,hb⟩,by rw [kh];rfl⟩
   ·obtain⟨e1,e2⟩:=h.live b fR;refine⟨e1,?_⟩;by_cases mH:b=d
    ·subst mH;rw [kh];rfl
    ·rw [gG _ _ mH];exact e2
  ptr:=fun p hp=>by
   obtain⟨h1,h2,h3,h4⟩:=adG (env:=env) hp;obtain⟨e1,e2⟩:=h.ptr p h1;refine⟨e1,fun Jb=>?_⟩;obtain⟨e3,k,e4,e5⟩:=e2 (h4 _ Jb);rw [gG _ _ h2,fz _ _ _ _ h2,fz _ _ _ _ h3];exact⟨e3,k,e4,e5⟩ }
theorem eH.store (h:eH pl ds cs env X w0 a w) {b n k:Nat} {ty:TypeId} {cells tj:Array Value} (hb:look pl.boxes b=some n) (hc:env b= .agg cells)
  (ht:a.tmps[b]? =some (ed k 0)) (hk:w.heap[k]? =some (.cells cells ty (0,0))) (hX: ¬X k) (dU:tj.size=n) {w':World} (hw:Fr (· =k) w w') (ai:w'.heap[k]? =some (.cells tj ty (0,0))):
  eH pl ds (cs.Ld b) (kT env b (.agg tj)) X w0 a w':=by
 have hA:dO (env b)=true:=by rw [hc];rfl
 exact {
  size:=h.size
  defers:=h.defers
  uV:=h.uV
  ext:=h.ext.trans (hw.kp fun j hj=>⟨h.sU j hj,fun e=>by subst e;exact hX hj⟩)
  sU:=fun j hj=>aK (h.sU j hj) hw.size
  nk:=fun s hs=>by
   have cU:s≠b:=fun e=>by subst e;have:=(pN hs).2.1;rw [hb] at this;cases this
   rw [gG _ _ cU];exact h.nk s hs
  sig:=fun p hp=>by
   simp only [CS.Ld,gd,bV] at hp;rw [Uw hp.2];exact h.sig p hp.1
  box:=fun b' n' ke c Jd=>by
   by_cases mH:b'=b
   ·subst mH;rw [kh] at Jd;injection Jd with Jd
    subst Jd;rw [hb] at ke;injection ke with ke
    exact⟨k,ty,ht,ai,by omega,hX⟩
   ·rw [gG _ _ mH] at Jd;obtain⟨k2,R8,h1,h2,h3,h4⟩:=h.box b' n' ke c Jd;have mQ:k2≠k:=fun e=>by
     subst e;exact mH (h.inj b' b n' n ke hb (by rw [Jd];rfl) hA k2 h1 ht)
    exact⟨k2,R8,h1,(hw.block k2 (Array.getElem?_eq_some_iff.1 h2).1 mQ).trans h2,h3,h4⟩
  inj:=fun b1 b2 n1 n2 R9 Zl h1 h2 j h3 h4=>by
   have f: ∀b',dO (kT env b (.agg tj) b')=true→dO (env b')=true:=fun b' hh=>by
    by_cases e:b'=b
    ·subst e;exact hA
    ·rwa [gG _ _ e] at hh
   exact h.inj b1 b2 n1 n2 R9 Zl (f b1 h1) (f b2 h2) j h3 h4
  conv:=fun b' n' ke j hj=>by
   by_cases e:b'=b
   ·subst e;rw [kh];rfl
   ·rw [gG _ _ e];exact h.conv b' n' ke j hj
  live:=fun b' fR=>by
   obtain⟨e1,e2⟩:=h.live b' fR;refine⟨e1,?_⟩;by_cases e:b'=b
   ·subst e;rw [kh];rfl
   ·rwa [gG _ _ e]
  ptr:=fun p hp=>by
   obtain⟨e1,e2⟩:=h.ptr p hp;refine⟨e1,fun hg=>?_⟩;have uW:AZ env p.g:=by
    cases hpg:p.g with
    |none=>trivial
    |some x=>
     obtain⟨g,want⟩:=x;rw [hpg] at hg;simp only [AZ] at hg⊢;by_cases e:g=b
     ·subst e;rw [kh] at hg;cases hg
     ·rwa [gG _ _ e] at hg
   obtain⟨e3,k2,e4,e5⟩:=e2 uW;refine⟨?_,k2,e4,e5⟩;by_cases e:p.b=b
   ·rw [e,kh];rfl
   ·rwa [gG _ _ e] }
end
section
variable {P : Program}
theorem vT (k o n:Nat):(⟨k,o,none⟩:Addr).add n=⟨k,o+n,none⟩:=by
 unfold Addr.add;split<;>simp_all
theorem Mt {S f fo sz:Nat} (h:fieldInfo P S f=some (fo,sz)) (hz:sz≠0) (k off:Nat) (w:World):
  (Instr.fieldAt S (ed k off) f).run P w= .ok (ed k (off+fo)) w:=by
 unfold fieldInfo at h;split at h
 ·rename_i fs hu;cases hf:fs[f]? with
  |none=>simp [hf] at h
  |some x=>
   cases hi:P.info? x.type with
   |none=>simp [hf,hi] at h
   |some i=>
    simp only [hf,hi,cN,bM,aB,dg] at h;obtain⟨h1,h2⟩:=h;subst h1 h2;simp [Instr.fieldAt,run_underlying hu,hf,jO,ed,fieldPlace,sizeOf,typeInfo,hi,hz,vT]
 ·cases h
theorem HO {w:World} {k:Nat} {cells:Array Value} {ty:TypeId} (h:w.heap[k]? =some (.cells cells ty (0,0))) (i:Nat):w.cell? ⟨k,i,none⟩=cells[i]? :=by
 simp [World.cell?,h]
theorem OM {t:Nat} {ag:Bool} {sz:Nat} (h:jP P t=some (ag,sz)) (Uy:(ag||sz==1)=true) {w:World} {k:Nat} {cells:Array Value} {ty:TypeId}
  (hk:w.heap[k]? =some (.cells cells ty (0,0))) (off:Nat) (hl:off+sz≤cells.size):
  (iF t (ed k off)).run P w= .ok (if ag then ef (.agg cells) off sz else cellOf (.agg cells) off) w:=by
 unfold jP at h;split at h
 ·rename_i d i hu hi;simp only [aB,dg] at h;obtain⟨h1,h2⟩:=h;subst h2;have vU:(isAgg t).run P w= .ok ag w:=by
   subst h1;cases d<;>simp [isAgg,run_underlying hu]
  cases ag with
  |true=>
   have hc: ∀j v,((cells.toList.drop off).take i.size)[j]? =some v→w.cell? ((⟨k,off,none⟩:Addr).add j)=some v:=by
    intro j v hj;rw [vT,HO hk];rw [List.getElem?_take] at hj;split at hj
    ·rw [List.getElem?_drop] at hj;simpa using hj
    ·cases hj
   have hlen:((cells.toList.drop off).take i.size).length=i.size:=by
    simp;omega
   have hr:=run_loadCells_list (P:=P) w ⟨k,off,none⟩ _ hc;rw [hlen] at hr;simp [iF,jO,ed,loadVar,vU,sizeOf,typeInfo,hi,hr,ef,Value.cells]
  |false=>
   simp only [Bool.false_or,beq_iff_eq] at Uy;have cH:off<cells.size:=by omega
   have hc:w.cell? ⟨k,off,none⟩=some cells[off]:=by rw [HO hk];simp [cH]
   simp [iF,jO,ed,loadVar,vU,hc,cellOf,Value.cells,cH]
 ·cases h
theorem ON (v:Value):one v=v.oneCell':=by cases v<;>rfl
theorem tn {v:Value} (h:one v=true):v.cells= #[v]:=by cases v<;>first|rfl|cases h
theorem Yd {t:Nat} {ag:Bool} {sz:Nat} (h:jP P t=some (ag,sz)):(P.info? t).map (·.size)=some sz:=by
 unfold jP at h;split at h
 ·rename_i d i hu hi;simp only [aB,dg] at h;simp [hi,h.2]
 ·cases h
theorem Mu {t sz:Nat} (h:(P.info? t).map (·.size)=some sz) {w:World} {k:Nat} {cells:Array Value} {ty:TypeId}
  (hk:w.heap[k]? =some (.cells cells ty (0,0))) (off:Nat) (hl:off+sz≤cells.size) (v:Value) (hv:v.cells.size=sz) (h1:v.cells.toList.all one=true):
  (Instr.storeAt t (ed k off) v).run P w= .ok () (w.setRow k (b8 cells.toList off v.cells.toList).toArray):=by
 cases hi:P.info? t with
 |none=>simp [hi] at h
 |some i=>
  simp only [hi,bM,aB] at h;have gD:=run_storeCells_at P k off ty v.cells.toList 0 cells w hk (by simpa [hv] using hl) (fun x hx=>by
   have:=List.all_eq_true.1 h1 x hx
   rwa [ON] at this)
  simp only [Nat.add_zero] at gD;simp [Instr.storeAt,jO,ed,storeVar,sizeOf,typeInfo,hi,h,hv,gD,b8]
end
theorem acj {w:World} {k:Nat} {cells tj:Array Value} {ty:TypeId} (hk:w.heap[k]? =some (.cells cells ty (0,0))):
  Fr (· =k) w (w.setRow k tj)∧(w.setRow k tj).heap[k]? =some (.cells tj ty (0,0)):=by
 refine⟨⟨rfl,rfl,rfl,by simp [World.setRow],fun j _ hj=>?_⟩,setRow_heap w k cells tj ty (0,0) hk⟩;simp only [World.setRow,Array.getElem?_modify];rw [if_neg (fun e=>hj e.symm)]
theorem adH {l vs:List Value} {off:Nat} (h:off+vs.length≤l.length):(b8 l off vs).length=l.length:=by
 simp [b8];omega
section
variable {P : Program} {pl : bG} {ds : Bk} {cs : CS} {env : Env} {X : XS} {w0 w : World} {a : Act}
theorem Je {og:Option (Nat×Bool)} : ∀{l:List Ptr} {t b off:Nat},EZ og l t=some (b,off)→ ∃p,p∈l∧p.s=t∧p.b=b∧p.off=off∧(p.g=none∨p.g=og)
 |[],_,_,_,h=>by cases h
 |p::r,t,b,off,h=>by
  simp only [EZ] at h;split at h
  ·rename_i hs;split at h
   ·rename_i hg;simp only [aB,dg] at h;refine⟨p,ju ..,hs,h.1,h.2,?_⟩;simpa using hg
   ·cases h
  ·obtain⟨q,h1,h2⟩:=Je h;exact⟨q,aZ _ h1,h2⟩
theorem eH.sS (h:eH pl ds cs env X w0 a w) {og:Option (Nat×Bool)} {x:Operand} {b off:Nat} {nd:List Nat} (hp:dL.sS pl cs og x=some (b,off,nd)):
  (∃n,look pl.boxes b=some n)∧(∀b',b'∈nd→ ∃n,look pl.boxes b'=some n)∧
  ((∀b',b'∈nd→dO (env b')=true)→AZ env og→dO (env b)=true∧ ∃k,a.eval x=ed k off∧a.tmps[b]? =some (ed k 0)):=by
 cases x with
 |tmp t=>
  simp only [dL.sS] at hp;split at hp
  ·rename_i n hn;simp only [aB,dg] at hp;obtain⟨rfl,rfl,mP⟩:=hp;refine⟨⟨n,hn⟩,fun b' fR=>?_,fun hl _=>?_⟩
   ·split at mP<;>subst mP
    ·cases fR
    ·rcases List.mem_singleton.1 fR with rfl;exact⟨n,hn⟩
   ·have hA:dO (env t)=true:=by
     split at mP
     ·rename_i hc;exact(h.live t (by simpa using hc)).2
     ·subst mP;exact hl t (List.mem_singleton.2 rfl)
    obtain⟨c,hc⟩:=su.1 hA;obtain⟨k,ty,h1,_⟩:=h.box t n hn c hc;exact⟨hA,k,by simp [kD,h1],h1⟩
  ·split at hp
   ·cases hf:EZ og cs.vQ t with
    |none=>simp [hf] at hp
    |some q=>
     obtain⟨b',amy⟩:=q;simp only [hf,bM,aB,dg] at hp;obtain⟨rfl,rfl,rfl⟩:=hp;obtain⟨p,hp,hs,hb,ho,hg⟩:=Je hf;obtain⟨e1,e2⟩:=h.ptr p hp;subst hs hb ho;refine⟨e1,fun _ fR=>(by cases fR),fun _ Jb=>?_⟩;obtain⟨e3,k,e4,e5⟩:=e2 (hg.elim (fun hg=>by simp [hg,AZ]) (fun hg=>by rw [hg];exact Jb));exact⟨e3,k,by simp [kD,e5],e4⟩
   ·cases hp
 |const v=>cases hp
 |global g=>cases hp
 |func f=>cases hp
theorem Jf {gY:List PanicEntry→Env→World→XS→Prop} {next:Env→World→XS→Prop} : ∀(nd:List Nat) {l:List TI},
  gv P gY next (nd.map .Er++l) env w X→(∀b,b∈nd→dO (env b)=true)∧gv P gY next l env w X
 |[],_,h=>⟨fun _ hb=>(by cases hb),h⟩
 |b::nd,l,h=>by
  obtain⟨h1,h2⟩:dO (env b)=true∧gv P gY next (nd.map .Er++l) env w X:=by simpa only [List.map_cons,dX,gv,Un,dt] using h
  obtain⟨h3,h4⟩:=Jf nd h2;refine⟨fun b' fR=>?_,h4⟩;rcases List.mem_cons.1 fR with rfl|fR
  ·exact h1
  ·exact h3 b' fR
theorem zD {gY:List PanicEntry→Env→World→XS→Prop} {next:Env→World→XS→Prop} : ∀(l l':List TI),gv P gY next (l++l')=gv P gY (gv P gY next l') l
 |[],_=>rfl
 |i::l,l'=>by
  funext env w X
  simp only [dX,gv,zD l l']
inductive Shape (P:Program) (pl:bG) (cs:CS) (og:Option (Nat×Bool)) (m:Bool) (o:Oper):CR→Prop
 |mv (x:Operand) (d:Nat) (e:Ex) (ho:o.op= .move x∨o.op= .assign x) (hd:o.dst=some d) (hv:valOf pl cs x=some e) (hp:pl.lH d=true):
   Shape P pl cs og m o ⟨true,[],(oW pl cs d e).1,(oW pl cs d e).2,[],[]⟩
 |ld (t:TypeId) (x:Operand) (d b off:Nat) (nd:List Nat) (ag:Bool) (sz bs:Nat) (ho:o.op= .load t x) (hd:o.dst=some d) (hx:dL.sS pl cs og x=some (b,off,nd))
   (ht:jP P t=some (ag,sz)) (hb:look pl.boxes b=some bs) (hp:pl.lH d=true) (hl:off+sz≤bs) (ha:(ag||sz==1)=true):
   Shape P pl cs og m o ⟨true,nd,(oW pl (cs.kI nd) d (if ag then .s b off sz else .k b off)).1,(oW pl (cs.kI nd) d (if ag then .s b off sz else .k b off)).2,[b],[]⟩
 |fa (S:TypeId) (x:Operand) (f d b off:Nat) (nd:List Nat) (fo sz:Nat) (ho:o.op= .fieldAddr S x f) (hd:o.dst=some d) (hx:dL.sS pl cs og x=some (b,off,nd))
   (hf:fieldInfo P S f=some (fo,sz)) (Gr:pl.R6.contains d=true) (cH:d<pl.n) (pX:look pl.boxes d=none) (hz:sz≠0):
   Shape P pl cs og m o ⟨true,nd,[],(cs.kI nd).rq d b (off+fo) og,[],[]⟩
 |rd (d:Nat) (ss:List (Nat×Ex)) (hd:o.dst=some d) (hs:subst pl cs o.op.operands.toList=some ss) (hn:Gn o.op=true) (hp:pl.lH d=true):
   Shape P pl cs og m o ⟨true,[],[.rd d o.op o.type ss],cs.bind pl d,[],[]⟩
 |AY (d:Nat) (ss:List (Nat×Ex)) (hd:o.dst=some d) (hs:subst pl cs o.op.operands.toList=some ss) (hn:Gn o.op=true) (hp:pl.lH d=true):
   Shape P pl cs og m o ⟨false,[],[.AY (some d) o.op o.type ss m],cs.bind pl d,[],[]⟩
 |act (ss:List (Nat×Ex)) (hd:o.dst=none) (hs:subst pl cs o.op.operands.toList=some ss) (hn:Gn o.op=true):
   Shape P pl cs og m o ⟨false,[],[.AY none o.op o.type ss m],cs,[],[]⟩
 |bx (t:TypeId) (x:Operand) (d sz:Nat) (e:Ex) (ag:Bool) (ho:o.op= .box t x) (hd:o.dst=some d) (hb:look pl.boxes d=some sz) (hv:valOf pl cs x=some e) (ht:jP P t=some (ag,sz)) (cH:d<pl.n):
   Shape P pl cs og m o ⟨false,[],[if !ag&&sz==1 then .wW d e else .box d sz e],(cs.kill d).kI [d],[],[]⟩
 |al (t:TypeId) (d sz:Nat) (i:TypeInfo) (z:Value) (ag:Bool) (ho:o.op= .alloc t) (hd:o.dst=some d) (hb:look pl.boxes d=some sz) (hi:P.info? t=some i) (hz:i.zero=some z) (ht:jP P t=some (ag,sz)) (cH:d<pl.n):
   Shape P pl cs og m o ⟨false,[],[if !ag&&sz==1 then .wW d (.c z)else .box d sz (.c z)],(cs.kill d).kI [d],[],[]⟩
 |st (t:TypeId) (x v:Operand) (b off:Nat) (nd:List Nat) (sz bs:Nat) (e:Ex) (ag:Bool) (ho:o.op= .store t x v) (hd:o.dst=none) (hx:dL.sS pl cs og x=some (b,off,nd))
   (hv:valOf pl cs v=some e) (ht:jP P t=some (ag,sz)) (hb:look pl.boxes b=some bs) (hl:off+sz≤bs):
   Shape P pl cs og m o ⟨false,nd,[if !ag&&sz==1 then .Uk b off e else if off==0&&sz==bs then .fill b sz e else .put b off sz e],(cs.kI nd).Ld b,[],[b]⟩
theorem uc {m:Bool} {og:Option (Nat×Bool)} {o:Oper} {r:CR} (h:Dt P pl cs m o=some r):Shape P pl cs og m o r:=by
 unfold Dt at h;split at h
 ·cases h
 ·rename_i ss hs;split at h
  ·cases h
  ·rename_i hn;simp only [bV,kS] at hn;split at h
   ·rename_i d hd;split at h
    ·cases h
    ·rename_i hp;simp only [bV,kS] at hp;split at h<;>injection h with h<;>subst h
     ·exact .rd d ss hd hs hn hp
     ·exact .AY d ss hd hs hn hp
   ·rename_i hd;injection h with h
    subst h;exact .act ss hd hs hn
theorem Sa {m:Bool} {og:Option (Nat×Bool)} {o:Oper} {r:CR} {sz d t:Nat} {e:Ex} (h:Uq P pl cs sz t e d=some r)
  (k: ∀ag,d<pl.n→jP P t=some (ag,sz)→Shape P pl cs og m o ⟨false,[],[if !ag&&sz==1 then .wW d e else .box d sz e],(cs.kill d).kI [d],[],[]⟩):Shape P pl cs og m o r:=by
 unfold Uq at h;split at h
 ·rename_i ag s ht;split at h
  ·rename_i hc;simp only [aA,decide_eq_true_eq,beq_iff_eq] at hc;obtain⟨h1,h2⟩:=hc;subst h2;injection h with h
   subst h;exact k ag h1 ht
  ·cases h
 ·cases h
theorem pO {m:Bool} {og:Option (Nat×Bool)} {o:Oper} {r:CR} (h:BL P pl cs og m o=some r):Shape P pl cs og m o r:=by
 unfold BL at h;split at h;case h_1 x ho=>
  split at h
  ·rename_i d e hd hv;split at h
   ·rename_i hp;injection h with h
    subst h;exact .mv x d e (.inl ho) hd hv hp
   ·cases h
  ·cases h
 case h_2 x ho=>
  split at h
  ·rename_i d e hd hv;split at h
   ·rename_i hp;injection h with h
    subst h;exact .mv x d e (.inr ho) hd hv hp
   ·cases h
  ·cases h
 case h_3 t x ho=>
  split at h
  ·rename_i d hd;split at h
   ·rename_i sz hb;split at h
    ·rename_i e hv;exact Sa h fun ag cH ht=>.bx t x d sz e ag ho hd hb hv ht cH
    ·cases h
   ·exact uc h
  ·cases h
 case h_4 t ho=>
  split at h
  ·rename_i d hd;split at h
   ·rename_i sz hb;split at h
    ·rename_i z hz;cases hi:P.info? t with
     |none=>simp [hi] at hz
     |some i=>
      simp only [hi,cN] at hz;exact Sa h fun ag cH ht=>.al t d sz i z ag ho hd hb hi hz ht cH
    ·cases h
   ·exact uc h
  ·cases h
 case h_5 S x f ho=>
  split at h
  ·rename_i b off nd hx;split at h
   ·rename_i d fo sz hd hf;split at h
    ·rename_i hc;simp only [aA,decide_eq_true_eq,gP,bne_iff_ne,ne_eq] at hc;injection h with h
     subst h;exact .fa S x f d b off nd fo sz ho hd hx hf hc.1.1.1 hc.1.1.2 hc.1.2 hc.2
    ·cases h
   ·cases h
  ·exact uc h
 case h_6 t x ho=>
  split at h
  ·rename_i b off nd hx;split at h
   ·rename_i d ag sz bs hd ht hb;split at h
    ·rename_i hc;simp only [aA,decide_eq_true_eq] at hc;injection h with h
     subst h;exact .ld t x d b off nd ag sz bs ho hd hx ht hb hc.1.1 hc.1.2 hc.2
    ·cases h
   ·cases h
  ·exact uc h
 case h_7 t x v ho=>
  split at h
  ·rename_i b off nd hx;split at h
   ·rename_i e ag sz bs hd hv ht hb;split at h
    ·rename_i hc;simp only [decide_eq_true_eq] at hc;injection h with h
     subst h;exact .st t x v b off nd sz bs e ag ho hd hx hv ht hb hc
    ·cases h
   ·cases h
  ·exact uc h
 case h_8=>exact uc h
end
section
variable {P : Program} {pl : bG} {ds : Bk} {cs : CS} {env : Env} {X : XS} {w0 w : World} {a : Act}
theorem eH.zb (h:eH pl ds cs env X w0 a w) {RB:List Nat} {k:Nat} (hz:ZB pl RB a k): ¬X k:=by
 obtain⟨b,n,hb,_,ht⟩:=hz;obtain⟨c,hc⟩:=su.1 (h.conv b n hb k ht);obtain⟨k',ty,e1,_,_,e4⟩:=h.box b n hb c hc;rw [ht] at e1;have:k'=k:=by simpa [ed] using e1.symm
 subst this;exact e4
theorem eH.kp0 (h:eH pl ds cs env X w0 a w) {RB:List Nat} {w':World} (hx:Fr (ZB pl RB a) w w'):Kp X w0 w':=
 h.ext.trans (hx.kp fun k hk=>⟨h.sU k hk,fun hz=>h.zb hz hk⟩)
theorem eH.iu (h:eH pl ds cs env X w0 a w) {b n k:Nat} (hb:look pl.boxes b=some n) (ht:a.tmps[b]? =some (ed k 0)):k<w.heap.size∧ ¬X k:=by
 obtain⟨c,hc⟩:=su.1 (h.conv b n hb k ht);obtain⟨k',ty,e1,e2,_,e4⟩:=h.box b n hb c hc;rw [ht] at e1;have:k'=k:=by simpa [ed] using e1.symm
 subst this;exact⟨(Array.getElem?_eq_some_iff.1 e2).1,e4⟩
theorem eH.adI (h:eH pl ds cs env X w0 a w) {sb:List Nat} {w':World} (hx:Fr X w w'):vR pl sb a w w':=
 fun _ _ _ hb _ hk=>hx.block _ (h.iu hb hk).1 (h.iu hb hk).2
theorem oE.fh {sb:List Nat} {a':Act} {w':World} (hx:Ext w w') (hz: ∀b n,look pl.boxes b=some n→ ∀k,k<w.heap.size→a'.tmps[b]? =some (ed k 0)→a.tmps[b]? =some (ed k 0)):oE pl sb a w a' w':=
 fun _ _=>⟨hx.fr _,fun k hk ⟨b,n,h1,h2,h3⟩=>⟨b,n,h1,h2,hz b n h1 k hk h3⟩⟩
theorem oE.adJ {sb:List Nat} {w':World} {d:Option Nat} {v:Value} (hx:Ext w w') (hd: ∀x,d=some x→look pl.boxes x=none):oE pl sb a w (a.put d v) w':=by
 refine oE.fh hx fun b n hb k _ hk=>?_;cases d with
 |none=>exact hk
 |some x=>rwa [fz _ _ _ _ (qo hb (hd x rfl))] at hk
theorem oE.sub {sb sb':List Nat} {a':Act} {w':World} (h:oE pl sb a w a' w') (hs: ∀b,b∈sb→b∈sb'):oE pl sb' a w a' w':=
 fun RB zT=>h RB fun b hb=>zT b (hs b hb)
theorem Sb {P:Program} {m:Bool} {og:Option (Nat×Bool)} {o:Oper} {r:CR} (hs:Shape P pl cs og m o r) (eI:r.fl=true): ∀x,o.dst=some x→look pl.boxes x=none:=by
 have f: ∀{d:Nat},o.dst=some d→pl.lH d=true→ ∀x,o.dst=some x→look pl.boxes x=none:=fun hd hp x hx=>by
  rw [hd] at hx;injection hx with hx;subst hx;exact(vL hp).2.1
 cases hs with
 |mv x d e ho hd hv hp=>exact f hd hp
 |ld t x d b off nd ag sz bs ho hd hx ht hb hp hl ha=>exact f hd hp
 |fa S x g d b off nd fo sz ho hd hx hf Gr cH pX hz=>intro y hy;rw [hd] at hy;injection hy with hy;subst hy;exact pX
 |rd d ss hd hs hn hp=>exact f hd hp
 |AY=>cases eI
 |act=>cases eI
 |bx=>cases eI
 |al=>cases eI
 |st=>cases eI
theorem Sc {m:Bool} {og:Option (Nat×Bool)} {o:Oper} {r:CR} (hs:Shape P pl cs og m o r) (h:eH pl ds cs env X w0 a w) (hg:AZ env og)
  (hl: ∀b,b∈r.nd→dO (env b)=true) (eI:r.fl=true) {gY:List PanicEntry→Env→World→XS→Prop} {next:Env→World→XS→Prop} (hd:gv P gY next r.l env w0 X) (oY: ∀b,b∈mG r.l→ ∀p,p∈ds.pins→p.1≠b):
  ∃v dK,((∀wa,Fr (ZB pl r.rb a) w wa→(execOp a.eval o).run P wa= .ok (.value v) wa)∧
   ∀b,b∈r.rb→ ∃k n,look pl.boxes b=some n∧a.tmps[b]? =some (ed k 0)∧ ∀wa:World,wa.heap[k]? =w.heap[k]? →(execOp a.eval o).run P wa= .ok (.value v) wa)∧eH pl ds r.cs dK X w0 (a.put o.dst v) w∧next dK w0 X:=by
 cases hs with
 |mv x d e ho ji hv hp=>
  obtain⟨dK,h1,h2⟩:=h.oW hp e hd oY;refine⟨e.ev env,dK,⟨fun wa _=>?_,fun _ hb=>by cases hb⟩,by rw [ji];exact h1,h2⟩;have he:=h.eval hv;rcases ho with ho|ho<;>simp [execOp,ho,he]
 |ld t x d b off nd ag sz bs ho ji hx ht hb hp cH ha=>
  obtain⟨⟨n,hn⟩,mP,hk⟩:=h.sS hx;obtain⟨hA,k,he,jQ⟩:=hk hl hg;obtain⟨cells,hc⟩:=su.1 hA;obtain⟨k',ty,e1,e2,e3,_⟩:=h.box b n hn cells hc;have mQ:k'=k:=by rw [jQ] at e1;simpa [ed] using e1.symm
  subst mQ;have E7:bs=n:=by rw [hb] at hn;injection hn
  subst E7;have h':=h.kI (nd:=nd) fun b' fR=>⟨mP b' fR,hl b' fR⟩;obtain⟨dK,h1,h2⟩:=h'.oW hp _ hd oY;have E8:(if ag then Ex.s b off sz else Ex.k b off).ev env=if ag then ef (.agg cells) off sz else cellOf (.agg cells) off:=by
   cases ag<;>simp [Ex.ev,hc]
  have mR: ∀wa:World,wa.heap[k']? =w.heap[k']? →(execOp a.eval o).run P wa= .ok (.value ((if ag then Ex.s b off sz else Ex.k b off).ev env)) wa:=by
   intro wa xa;have e2':wa.heap[k']? =some (.cells cells ty (0,0)):=xa.trans e2;have:=OM ht ha e2' off zQ;rw [E8];simp [execOp,ho,he,this]
  refine⟨_,dK,⟨fun wa xa=>mR wa ?_,fun b' fR=>?_⟩,by rw [ji];exact h1,h2⟩
  rotate_left
  ·have:=List.mem_singleton.1 fR;subst this;exact⟨k',bs,hn,jQ,mR⟩
  have e2':wa.heap[k']? =some (.cells cells ty (0,0)):=by
   rw [xa.block k' (Array.getElem?_eq_some_iff.1 e2).1 ?_]
   ·exact e2
   ·rintro⟨b2,n2,g1,g2,g3⟩;exact g2 (List.mem_singleton.2 (h.inj b2 b n2 bs g1 hn (h.conv b2 n2 g1 k' g3) hA k' g3 jQ))
  rw [e2',e2]
 |fa S x f d b off nd fo sz ho ji hx hf Gr cH pX hz=>
  obtain⟨⟨n,hn⟩,mP,hk⟩:=h.sS hx;obtain⟨hA,k,he,jQ⟩:=hk hl hg;have h':=h.kI (nd:=nd) fun b' fR=>⟨mP b' fR,hl b' fR⟩;refine⟨ed k (off+fo),env,⟨fun wa _=>?_,fun _ hb=>by cases hb⟩,?_,hd⟩
  ·have:=Mt hf hz k off wa;simp [execOp,ho,he,this]
  ·rw [ji];exact h'.derive cH pX Gr _ ⟨n,hn⟩ fun _=>⟨hA,k,jQ,rfl⟩
 |rd d ss ji Mw hn hp=>
  obtain⟨v,h1,h2⟩:=hd;refine⟨v,_,⟨fun wa xa=>?_,fun _ hb=>by cases hb⟩,by rw [ji];exact h.bind hp v (oY d (by simp [mG,TI.HM])),h2⟩;rw [h.exec Mw hn,←aca _ (fun _=>rfl)];exact h1 wa (h.kp0 xa)
 |AY=>cases eI
 |act=>cases eI
 |bx=>cases eI
 |al=>cases eI
 |st=>cases eI
def xd (pl:bG) (ds:Bk) (env:Env) (X:XS) (a:Act) (w:World):Prop:=
 (∀k,X k→k<w.heap.size)∧ ∀p,p∈ds.pins→a.tmps[p.1]? =some p.2∧(pl.jh p.1=true∨ ∃n k cells ty,p.2=ed k 0∧look pl.boxes p.1=some n∧env p.1= .agg cells∧w.heap[k]? =some (.cells cells ty (0,0))∧cells.size=n∧ ¬X k)
theorem eH.pinned (h:eH pl ds cs env X w0 a w):xd pl ds env X a w:=⟨h.sU,fun p hp=>by
 obtain⟨ht,⟨n,k,hn,hk⟩|hg⟩:=h.uV p hp
 ·refine⟨ht,.inr ?_⟩;rw [hk] at ht;obtain⟨cells,hc⟩:=su.1 (h.conv p.1 n hn _ ht);obtain⟨k',ty,e1,e2,e3,e4⟩:=h.box p.1 n hn cells hc;rw [ht] at e1;have:k=k':=by simpa [ed] using e1
  subst this;exact⟨n,k,cells,ty,hk,hn,hc,e2,e3,e4⟩
 ·exact⟨ht,.inl hg⟩⟩
theorem xd.put {d:Option Nat} {v:Value} (h:xd pl ds env X (a.put d v) w) (hd: ∀x,d=some x→ ∀p,p∈ds.pins→p.1≠x):xd pl ds env X a w:=⟨h.1,fun p hp=>by
 obtain⟨h1,h2⟩:=h.2 p hp;refine⟨?_,h2⟩;cases d with
 |none=>exact h1
 |some x=>rwa [fz _ _ _ _ (hd x rfl p hp)] at h1⟩
theorem OO {m:Bool} {og:Option (Nat×Bool)} {o:Oper} {r:CR} (hs:Shape P pl cs og m o r) (eI:r.fl=true): ∀x,o.dst=some x→pl.jh x=true→x∈mG r.l:=by
 have f: ∀{OP:CS} {d:Nat} {e:Ex},o.dst=some d→ ∀x,o.dst=some x→pl.jh x=true→x∈mG (oW pl OP d e).1:=fun hd x hx hg=>by
  rw [hd] at hx;injection hx with hx;subst hx
  unfold oW;rw [if_pos (by simp [hg])];simp [mG,TI.HM]
 cases hs with
 |mv x d e ho hd hv hp=>exact f hd
 |ld t x d b off nd ag sz bs ho hd hx ht hb hp hl ha=>exact f hd
 |fa S x g d b off nd fo sz ho hd hx hf Gr cH pX hz=>
  intro y hy hg;rw [hd] at hy;injection hy with hy;subst hy
  have:=(pN hg).2.2;rw [Gr] at this;cases this
 |rd d ss hd hs hn hp=>intro y hy _;rw [hd] at hy;injection hy with hy;subst hy;simp [mG,TI.HM]
 |AY=>cases eI
 |act=>cases eI
 |bx=>cases eI
 |al=>cases eI
 |st=>cases eI
theorem Sd {m:Bool} {og:Option (Nat×Bool)} {o:Oper} {r:CR} (hs:Shape P pl cs og m o r) (h:eH pl ds cs env X w0 a w) (hg:AZ env og)
  (hl: ∀b,b∈r.nd→dO (env b)=true) (eI:r.fl=false) {gY:List PanicEntry→Env→World→XS→Prop} {next:Env→World→XS→Prop} (hd:gv P gY next r.l env w0 X)
  {K:Act→World→Prop} {Q:Exit→Act→World→Prop}
  (hK: ∀a' w' dK X' eB,eH pl ds r.cs dK X' eB a' w'→next dK eB X'→wY (m=false) pl r.sb a w a' w'→K a' w')
  (oY: ∀b,b∈mG r.l→ ∀p,p∈ds.pins→p.1≠b)
  (hQ: ∀ch w' dK X' eB,Kp X' eB w'→xd pl ds dK X' a w'→gY ch dK eB X'→Q (.panic ch) a w'):o.wp P a w K Q:=by
 have real: ∀(mY:CS) (ss:List (Nat×Ex)),(∀x,o.dst=some x→look pl.boxes x=none)→subst pl cs o.op.operands.toList=some ss→Gn o.op=true→
   (∀m' w' v,Step m' X w w'→eH pl ds mY (I8 env o.dst v) (grow X w w') w' (a.put o.dst v) w')→r.cs=mY→
   (∀wa,Kp X w0 wa→jy P m X wa (fun v w' X'=>next (I8 env o.dst v) w' X') (fun ch w' X'=>gY ch env w' X') ((OK (Ds env ss) o.op o.type).run P wa))→o.wp P a w K Q:=by
  intro mY ss Uz Mw hn hS jj he;have he:=he w h.ext;unfold iS;rw [h.exec Mw hn,←aca _ (fun _=>rfl)];have gD: ∀w' v,Step m X w w'→wY (m=false) pl r.sb a w (a.put o.dst v) w':=fun w' v hs=>⟨fun hm=>by subst hm;exact oE.adJ hs Uz,h.adI hs.fr⟩;cases hr:(OK (Ds env ss) o.op o.type).run P w with
  |ok n w'=>
   rw [hr] at he;cases n<;>simp only [jy] at he<;>simp only [lZ]
   case value v=>exact hK _ _ _ _ _ (jj▸hS m w' v he.1) he.2 (gD _ _ he.1)
   case skip=>exact hK _ _ _ _ _ (jj▸hS m w' undef he.1) he.2 (gD _ _ he.1)
   case enter f args=>
    obtain⟨rfl,hc⟩:=he;refine hc.mono fun e kq hR=>?_;cases e with
    |returned v=>exact hK _ _ _ _ _ (jj▸hS m kq v hR.1) hR.2 (gD _ _ hR.1)
    |panicked ch=>exact hQ _ _ _ _ _ (Kp.refl _ _) (h.Lf hR.1).pinned hR.2
    |outgrown=>exact hR.elim
  |halt x w'=>
   rw [hr] at he;cases x<;>simp only [jy] at he<;>simp only [lZ]
   case panic v=>exact hQ _ _ _ _ _ (Kp.refl _ _) (h.Lf he.1).pinned he.2
 have boxed: ∀{d sz:Nat} {e:Ex} {ag:Bool},gv P gY next [if !ag&&sz==1 then .wW d e else .box d sz e] env w0 X→
   (e.ev env).cells.size=sz∧next (kT env d (.agg (e.ev env).cells)) w0 X:=by
  intro d sz e ag hd;simp only [gv] at hd;split at hd
  ·rename_i mZ;simp only [aA,bV,beq_iff_eq] at mZ;obtain⟨g1,g2⟩:=dt.1 hd;rw [tn g1];exact⟨by simp [mZ.2],g2⟩
  ·obtain⟨g1,g2⟩:=dt.1 hd;exact⟨by simpa using g1,g2⟩
 have ahp: ∀(t d:Nat) (_:d<pl.n) (cells:Array Value),oE pl [] a w (a.put (some d) (ed w.heap.size 0)) (w.alloc (.cells cells t)):=by
  intro t d cH cells;refine oE.fh (Ext.alloc _ _) fun b n UA k hk mQ=>?_;by_cases e:b=d
  ·subst e;rw [mX _ _ _ _ (by rw [h.size];exact cH),if_pos rfl] at mQ;have:w.heap.size=k:=by simpa [ed] using mQ
   omega
  ·rwa [fz _ _ _ _ e] at mQ
 cases hs with
 |mv=>cases eI
 |ld=>cases eI
 |fa=>cases eI
 |rd=>cases eI
 |AY d ss ji Mw hn hp=>
  refine real (cs.bind pl d) ss (fun x hx=>by rw [ji] at hx;injection hx with hx;subst hx;exact(vL hp).2.1) Mw hn (fun m' w' v gD=>?_) rfl ?_
  ·rw [ji];exact(h.Lf gD).bind hp v (oY d (by simp [mG,TI.HM]))
  ·intro wa xa;have:=hd wa xa;rw [ji];exact this
 |act ss ji Mw hn=>
  refine real cs ss (fun x hx=>by rw [ji] at hx;cases hx) Mw hn (fun m' w' v gD=>?_) rfl ?_
  ·rw [ji];exact h.Lf gD
  ·intro wa xa;have:=hd wa xa;rw [ji];exact this
 |bx t x d sz e ag ho ji hb hv ht cH=>
  have he:=h.eval hv;obtain⟨h1,h2⟩:=boxed hd;have hr:(execOp a.eval o).run P w= .ok (.value (ed w.heap.size 0)) (w.alloc (.cells (e.ev env).cells t)):=by
   simp [execOp,ho,he,Instr.box,newVar,newRow,ed]
  unfold iS;rw [hr];simp only [lZ];rw [ji];exact hK _ _ _ _ _ (h.aci cH hb (e.ev env).cells h1 t (oY d (by split<;>simp [mG,TI.HM]))) h2 ⟨fun _=>ahp t d cH _,h.adI ((Ext.alloc _ _).fr X)⟩
 |al t d sz i z ag ho ji hb hi hz ht cH=>
  obtain⟨h1,h2⟩:=boxed hd;have hr:(execOp a.eval o).run P w= .ok (.value (ed w.heap.size 0)) (w.alloc (.cells z.cells t)):=by
   simp [execOp,ho,Instr.alloc,zeroValue,typeInfo,hi,hz,newVar,newRow,ed]
  unfold iS;rw [hr];simp only [lZ];rw [ji];exact hK _ _ _ _ _ (h.aci cH hb z.cells h1 t (oY d (by split<;>simp [mG,TI.HM]))) h2 ⟨fun _=>ahp t d cH _,h.adI ((Ext.alloc _ _).fr X)⟩
 |st t x v b off nd sz bs e ag ho ji hx hv ht hb cH=>
  obtain⟨⟨n,hn⟩,mP,hk⟩:=h.sS hx;obtain⟨hA,k,he,jQ⟩:=hk hl hg;obtain⟨cells,hc⟩:=su.1 hA;obtain⟨k',ty,e1,e2,e3,e4⟩:=h.box b n hn cells hc;have mQ:k'=k:=by rw [jQ] at e1;simpa [ed] using e1.symm
  subst mQ;have E7:bs=n:=by rw [hb] at hn;injection hn
  subst E7;obtain⟨h1,h2,h3⟩:(e.ev env).cells.size=sz∧(e.ev env).cells.toList.all one=true∧next (kT env b (.agg (b8 (env b).cells.toList off (e.ev env).cells.toList).toArray)) w0 X:=by
   simp only [gv] at hd;split at hd
   ·rename_i mZ;simp only [aA,bV,beq_iff_eq] at mZ;obtain⟨g1,g2⟩:=dt.1 hd;rw [tn g1];exact⟨by simp [mZ.2],by simp [g1],g2⟩
   ·split at hd
    ·rename_i mZ;simp only [aA,beq_iff_eq] at mZ;obtain⟨g1,hd⟩:=dt.1 hd;obtain⟨g2,g3⟩:=dt.1 hd;have g1:(e.ev env).cells.size=sz:=by simpa using g1
     refine⟨g1,g2,?_⟩;have ajC:b8 (env b).cells.toList off (e.ev env).cells.toList=(e.ev env).cells.toList:=by
      unfold b8;rw [hc,mZ.1];have hz:cells.size≤(e.ev env).cells.size:=by omega
      show List.take 0 cells.toList++(e.ev env).cells.toList++List.drop (0+(e.ev env).cells.toList.length) cells.toList=(e.ev env).cells.toList
      rw [List.take_zero,cT,List.drop_eq_nil_of_le (by simpa using hz),List.append_nil]
     rw [ajC];simpa using g3
    ·obtain⟨g1,hd⟩:=dt.1 hd;obtain⟨g2,g3⟩:=dt.1 hd;exact⟨by simpa using g1,g2,g3⟩
  have h':=h.kI (nd:=nd) fun b' fR=>⟨mP b' fR,hl b' fR⟩;have E8:=h.eval hv;have gD:=Mu (Yd ht) e2 off zQ (e.ev env) h1 h2;have hr:(execOp a.eval o).run P w= .ok .skip (w.setRow k' (b8 cells.toList off (e.ev env).cells.toList).toArray):=by
   simp [execOp,ho,he,E8,gD]
  unfold iS;rw [hr];simp only [lZ];rw [ji];obtain⟨f1,f2⟩:=acj (tj:=(b8 cells.toList off (e.ev env).cells.toList).toArray) e2;have dU:((b8 cells.toList off (e.ev env).cells.toList).toArray).size=bs:=by
   simp only [List.size_toArray];rw [adH (by simp;omega)];simpa using e3
  rw [hc] at h3;refine hK _ _ _ _ _ (h'.store hb hc jQ e2 e4 dU f1 f2) h3 ⟨fun _ RB zT=>
   ⟨f1.mono fun j hj=>⟨b,bs,hb,zT b (List.mem_singleton.2 rfl),by rw [hj];exact jQ⟩,fun _ _ hz=>hz⟩,fun b2 n2 k2 g1 g2 g3=>f1.block k2 (h.iu g1 g3).1 fun hj=>?_⟩
  have hj:k2=k':=hj;subst hj;exact g2 (List.mem_singleton.2 (h.inj b2 b n2 bs g1 hn (h.conv b2 n2 g1 _ g3) hA _ g3 jQ))
end
section
variable {P : Program} {pl : bG} {ds : Bk} {cs : CS} {env : Env} {X : XS} {w0 w : World} {a : Act} {ops : Array Oper}
variable {gY : List PanicEntry → Env → World → XS → Prop} {next : Env → World → XS → Prop}
theorem OQ {g:Nat} {want:Bool} {op:Op} {r0 r:CR} (gF:nx g want op r0=some r) (hy:lG (env g) want=true) (hd:gv P gY next r.l env w0 X):
  gv P gY next r0.l env w0 X:=by
 obtain⟨fl,nd,l,c,rb,sb⟩:=r0;unfold nx at gF;dsimp only at gF;split at gF
 ·split at gF
  ·injection gF with e;subst e;exact hd
  ·cases gF
 ·split at gF
  ·cases gF
  ·injection gF with e;subst e
   simpa only [gv,Un,hy,if_true] using hd
 ·split at gF
  ·cases gF
  ·injection gF with e;subst e
   obtain⟨v,h1,_,h2⟩:=hd;exact⟨v,h1 hy,h2⟩
 ·split at gF
  ·cases gF
  ·injection gF with e;subst e
   exact hd.1 hy
 ·cases gF
theorem zE {g:Nat} {want:Bool} {op:Op} {r0 r:CR} (gF:nx g want op r0=some r):r.cs=r0.cs∧r.nd=r0.nd∧r.fl=r0.fl∧r.rb=r0.rb∧r.sb=r0.sb:=by
 obtain⟨fl,nd,l,c,rb,sb⟩:=r0;unfold nx at gF;dsimp only at gF;split at gF<;>(try split at gF)<;>first
  |(cases gF;done)
  |(injection gF with e;subst e;exact⟨rfl,rfl,rfl,rfl,rfl⟩)
theorem Jg {g:Nat} {want:Bool} {op:Op} {r0 r:CR} (gF:nx g want op r0=some r):mG r.l=mG r0.l:=by
 obtain⟨fl,nd,l,c,rb,sb⟩:=r0;unfold nx at gF;dsimp only at gF;split at gF<;>(try split at gF)<;>first
  |(cases gF;done)
  |(injection gF with e;subst e;rfl)
theorem adK (nd:List Nat):mG (nd.map .Er)=[]:=by
 induction nd with
 |nil=>rfl
 |cons b nd ih=>simp only [mG,List.map_cons,List.flatMap_cons,TI.HM,cT] at ih⊢;exact ih
theorem xe (l l':List TI):mG (l++l')=mG l++mG l':=List.flatMap_append
theorem QG (r:CR):mG r.all=mG r.l:=by unfold CR.all;rw [xe,adK,cT]
theorem UB {m:Bool} {g:Nat} {want:Bool} {o:Oper} {r0 r:CR} (hs:Shape P pl cs (some (g,want)) m o r0) (gF:nx g want o.op r0=some r) (h:eH pl ds cs env X w0 a w)
  (hl: ∀b,b∈r0.nd→dO (env b)=true) (kU:lG (env g) want=false) (hd:gv P gY next r.l env w0 X) (oY: ∀b,b∈mG r.l→ ∀p,p∈ds.pins→p.1≠b):
  ∃dK,eH pl ds r.cs dK X w0 (a.put o.dst undef) w∧next dK w0 X:=by
 have ack: ∀(OP:CS) (d:Nat) (e:Ex) (nd rb:List Nat),eH pl ds OP env X w0 a w→o.dst=some d→pl.lH d=true→adB o.op=false→r0=⟨true,nd,(oW pl OP d e).1,(oW pl OP d e).2,rb,[]⟩→
   ∃dK,eH pl ds r.cs dK X w0 (a.put o.dst undef) w∧next dK w0 X:=by
  intro OP d e nd rb h1 ji hp hfa hr;subst hr;unfold nx oW at gF;by_cases mr:(pl.jh d||pl.mat.contains d)=true
  ·simp only [mr,if_true] at gF;split at gF
   ·cases gF
   ·injection gF with e1;subst e1
    simp only [gv,Un,kU,bu,if_false] at hd;exact⟨_,by rw [ji];exact h1.bind hp undef (oY d (by simp [mG,TI.HM])),hd⟩
  ·simp only [mr,hfa,bu,if_false] at gF;cases gF
 cases hs with
 |mv x d e ho ji hv hp=>exact ack cs d e [] [] h ji hp (by rcases ho with ho|ho<;>rw [ho]<;>rfl) rfl
 |ld t x d b off nd ag sz bs ho ji hx ht hb hp cH ha=>
  obtain⟨_,mP,_⟩:=h.sS hx;exact ack (cs.kI nd) d _ nd [b] (h.kI fun b' fR=>⟨mP b' fR,hl b' fR⟩) ji hp (by rw [ho];rfl) rfl
 |fa S x f d b off nd fo sz ho ji hx hf Gr cH pX hz=>
  obtain⟨hb,mP,hk⟩:=h.sS hx;have h':=h.kI (nd:=nd) fun b' fR=>⟨mP b' fR,hl b' fR⟩;unfold nx at gF;simp only [ho,adB,if_true,aB] at gF;subst gF;refine⟨env,?_,hd⟩;rw [ji];exact h'.derive cH pX Gr _ hb fun hg=>by simp only [AZ] at hg;rw [kU] at hg;cases hg
 |rd d ss ji Mw hn hp=>
  unfold nx at gF;dsimp only at gF;split at gF
  ·cases gF
  ·injection gF with e;subst e
   obtain⟨v,_,h1,h2⟩:=hd;have hv:=h1 kU;subst hv;exact⟨_,by rw [ji];exact h.bind hp undef (oY d (by simp [mG,TI.HM])),h2⟩
 |AY d ss ji Mw hn hp=>
  unfold nx at gF;dsimp only at gF;split at gF
  ·cases gF
  ·injection gF with e;subst e
   exact⟨_,by rw [ji];exact h.bind hp undef (oY d (by simp [mG,TI.HM])),hd.2 kU⟩
 |act ss ji Mw hn=>
  unfold nx at gF;dsimp only at gF;split at gF
  ·cases gF
  ·injection gF with e;subst e
   exact⟨_,by rw [ji];exact h,hd.2 kU⟩
 |bx t x d sz e ag=>cases UC:(!ag&&sz==1)<;>(unfold nx at gF;simp only [UC] at gF;cases gF)
 |al t d sz i z ag=>cases UC:(!ag&&sz==1)<;>(unfold nx at gF;simp only [UC] at gF;cases gF)
 |st t x v b off nd sz bs e ag=>
  cases UC:(!ag&&sz==1)<;>cases ajD:(off==0&&sz==bs)<;>(unfold nx at gF;simp only [UC,ajD] at gF;cases gF)
theorem Jh (h:eH pl ds cs env X w0 a w) {o:Oper} {j gs g:Nat} {want:Bool} (hg:o.guard=some (j,want)) (lx:(ops[j]?).bind (·.dst)=some gs)
  (hv:valOf pl cs (.tmp gs)=some (.t g)):cf o (yielded ops a.tmps)=lG (env g) want:=by
 have ht:a.tmps[gs]? =some (env g):=by
  simp only [valOf] at hv;split at hv
  ·rename_i gF;injection hv with hv
   injection hv with hv
   subst hv;exact h.nk _ gF
  ·have:=h.sig _ (zi hv);simpa [Ex.ev] using this
 unfold cf yielded;simp only [hg,lx,cN,ht,lG];cases env g<;>simp
theorem afJ {m:Bool} {o:Oper} {r:CR} (hc:zR P pl cs ops m o=some r) (eI:r.fl=true) (h:eH pl ds cs env X w0 a w) (hd:gv P gY next r.all env w0 X) (oY: ∀b,b∈mG r.l→ ∀p,p∈ds.pins→p.1≠b):
  ∃v dK,(YF P pl r.rb ops o v a w∧ ∀b,b∈r.rb→YL P pl b ops o v a w)∧eH pl ds r.cs dK X w0 (a.put o.dst v) w∧next dK w0 X:=by
 obtain⟨hl,hd⟩:=Jf _ hd;unfold zR at hc;split at hc
 ·rename_i hg;obtain⟨v,dK,h1,h2,h3⟩:=Sc (pO hc) h trivial hl eI hd oY;exact⟨v,dK,⟨.inl ⟨by simp [cf,hg],h1.1⟩,fun b hb=>.inl ⟨by simp [cf,hg],h1.2 b hb⟩⟩,h2,h3⟩
 ·rename_i j want hg;split at hc
  ·cases hc
  ·rename_i gs lx;split at hc
   ·rename_i g hv;have hw:=Jh h hg lx hv;cases pB:BL P pl cs (some (g,want)) m o with
    |none=>rw [pB] at hc;cases hc
    |some r0=>
     rw [pB] at hc;simp only [cN] at hc;obtain⟨e1,e2,e3,e4,e5⟩:=zE hc;cases hy:lG (env g) want with
     |true=>
      obtain⟨v,dK,h1,h2,h3⟩:=Sc (pO pB) h hy (e2▸hl) (e3▸eI) (OQ hc hy hd) (fun b hb=>oY b (by rw [Jg hc];exact hb));exact⟨v,dK,⟨.inl ⟨by rw [hw,hy],e4▸h1.1⟩,fun b hb=>.inl ⟨by rw [hw,hy],h1.2 b (e4▸hb)⟩⟩,e1▸h2,h3⟩
     |false=>
      obtain⟨dK,h1,h2⟩:=UB (pO pB) hc h (e2▸hl) hy hd oY;exact⟨undef,dK,⟨.inr ⟨by rw [hw,hy],rfl⟩,fun _ _=>.inr ⟨by rw [hw,hy],rfl⟩⟩,h1,h2⟩
   ·cases hc
theorem UD {m:Bool} {o:Oper} {r:CR} (hc:zR P pl cs ops m o=some r) (eI:r.fl=true): ∀x,o.dst=some x→look pl.boxes x=none:=by
 unfold zR at hc;split at hc
 ·exact Sb (pO hc) eI
 ·rename_i j want hg;split at hc
  ·cases hc
  ·rename_i gs lx;split at hc
   ·rename_i g hv;cases pB:BL P pl cs (some (g,want)) m o with
    |none=>rw [pB] at hc;cases hc
    |some r0=>
     rw [pB] at hc;simp only [cN] at hc;exact Sb (pO pB) ((zE hc).2.2.1▸eI)
   ·cases hc
theorem af9 {m:Bool} {o:Oper} {r:CR} (hc:zR P pl cs ops m o=some r) (eI:r.fl=true): ∀x,o.dst=some x→pl.jh x=true→x∈mG r.l:=by
 unfold zR at hc;split at hc
 ·exact OO (pO hc) eI
 ·rename_i j want hg;split at hc
  ·cases hc
  ·rename_i gs lx;split at hc
   ·rename_i g hv;cases pB:BL P pl cs (some (g,want)) m o with
    |none=>rw [pB] at hc;cases hc
    |some r0=>
     rw [pB] at hc;simp only [cN] at hc;rw [Jg hc];exact OO (pO pB) ((zE hc).2.2.1▸eI)
   ·cases hc
theorem eH.apart (h:eH pl ds cs env X w0 a w) {m:Bool} {o:Oper} {r:CR} (hc:zR P pl cs ops m o=some r) (eI:r.fl=true) (hm: ∀b,b∈mG r.l→ ∀p,p∈ds.pins→p.1≠b):
  ∀x,o.dst=some x→ ∀p,p∈ds.pins→p.1≠x:=fun x hx p hp e=>by
 rcases(h.uV p hp).2 with⟨n,_,hn,_⟩|hg
 ·rw [e,UD hc eI x hx] at hn;cases hn
 ·exact hm x (af9 hc eI x hx (e▸hg)) p hp e
theorem UE {m:Bool} {o:Oper} {r:CR} (hc:zR P pl cs ops m o=some r) (h:eH pl ds cs env X w0 a w) (hd:gv P gY next r.all env w0 X)
  {K:Act→World→Prop} {Q:Exit→Act→World→Prop}
  (hK: ∀a' w' dK X' eB,eH pl ds r.cs dK X' eB a' w'→next dK eB X'→wY (m=false) pl r.sb a w a' w'→K a' w')
  (oY: ∀b,b∈mG r.l→ ∀p,p∈ds.pins→p.1≠b)
  (hQ: ∀ch w' dK X' eB,Kp X' eB w'→xd pl ds dK X' a w'→gY ch dK eB X'→Q (.panic ch) a w'):
  if cf o (yielded ops a.tmps)=true then o.wp P a w K Q else K (a.put o.dst undef) w:=by
 cases eI:r.fl with
 |true=>
  obtain⟨v,dK,hy,h1,h2⟩:=afJ hc eI h hd oY;rcases hy.1 with⟨hw,hv⟩|⟨hw,hv⟩
  ·rw [if_pos hw];unfold iS;rw [hv w (Fr.refl _ w)];exact hK _ _ _ _ _ h1 h2 ⟨fun _=>oE.refl pl _ a w _ _ (UD hc eI),vR.refl _ _ _ _⟩
  ·rw [if_neg (by rw [hw];simp)];subst hv;exact hK _ _ _ _ _ h1 h2 ⟨fun _=>oE.refl pl _ a w _ _ (UD hc eI),vR.refl _ _ _ _⟩
 |false=>
  obtain⟨hl,hd⟩:=Jf _ hd;unfold zR at hc;split at hc
  ·rename_i hg;rw [if_pos (by simp [cf,hg])];exact Sd (pO hc) h trivial hl eI hd hK oY hQ
  ·rename_i j want hg;split at hc
   ·cases hc
   ·rename_i gs lx;split at hc
    ·rename_i g hv;have hw:=Jh h hg lx hv;cases pB:BL P pl cs (some (g,want)) m o with
     |none=>rw [pB] at hc;cases hc
     |some r0=>
      rw [pB] at hc;simp only [cN] at hc;obtain⟨e1,e2,e3,e4,e5⟩:=zE hc;cases hy:lG (env g) want with
      |true=>
       rw [if_pos (by rw [hw,hy])];exact Sd (pO pB) h hy (e2▸hl) (e3▸eI) (OQ hc hy hd) (e5▸e1▸hK) (fun b hb=>oY b (by rw [Jg hc];exact hb)) hQ
      |false=>
       rw [if_neg (by rw [hw,hy];simp)];obtain⟨dK,h1,h2⟩:=UB (pO pB) hc h (e2▸hl) hy hd oY;refine hK _ _ _ _ _ h1 h2 ⟨fun _=>?_,vR.refl _ _ _ _⟩;refine oE.fh (Ext.refl w) fun b n hb k hk mQ=>?_;cases ji:o.dst with
       |none=>rw [ji] at mQ;exact mQ
       |some x=>
        rw [ji] at mQ;by_cases gT:b=x
        ·subst gT;by_cases cH:b<a.tmps.size
         ·rw [mX _ _ _ _ cH,if_pos rfl] at mQ;cases mQ
         ·rw [nj (by simp [lC];omega)] at mQ;cases mQ
        ·rwa [fz _ _ _ _ gT] at mQ
    ·cases hc
theorem E9 {Q:Exit→Act→World→Prop} (hN: ∀mY a' w' dK X' eB,eH pl ds mY dK X' eB a' w'→next dK eB X'→Q .normal a' w')
  (hQ: ∀ch a' w' dK X' eB,a'.defers=ds.ds→Kp X' eB w'→xd pl ds dK X' a' w'→gY ch dK eB X'→Q (.panic ch) a' w'): ∀(l:List Oper) (cs:CS) (tl:List TI) (env:Env) (X:XS) (w0:World) (a:Act) (w:World),
  B7 P pl ops l cs=some tl→(∀b,b∈mG tl→ ∀p,p∈ds.pins→p.1≠b)→eH pl ds cs env X w0 a w→gv P gY next tl env w0 X→wpList P ops Q l a w
 |[],cs,tl,env,X,w0,a,w,hc,_,h,hd=>by
  simp only [B7,aB] at hc;subst hc;exact hN _ _ _ _ _ _ h hd
 |o::l,cs,tl,env,X,w0,a,w,hc,hm,h,hd=>by
  simp only [B7] at hc;cases hr:zR P pl cs ops true o with
  |none=>simp [hr] at hc
  |some r=>
   cases hs:B7 P pl ops l r.cs with
   |none=>simp [hr,hs] at hc
   |some OR=>
    simp only [hr,hs,bM,aB] at hc;subst hc;rw [zD] at hd;rw [xe,QG] at hm;refine wpList_step fun K hK=>UE hr h hd (fun a' w' dK X' eB h1 h2 _=>hK _ _ (E9 hN hQ l r.cs OR dK X' eB a' w' hs (fun b hb=>hm b (dH _ hb)) h1 h2)) (fun b hb=>hm b (bR _ hb)) ?_;exact fun ch w' dK X' eB hx AJ hp=>hQ ch a w' dK X' eB h.defers hx AJ hp
theorem B9 {cq:Array Bool} : ∀{l:List Nat} {i:Nat} {r:CR},B1 P pl ops cs cq l=some (i,r)→
  i∈l∧r.fl=true∧Le pl ops cq i r.rb=true∧ ∃o,ops[i]? =some o∧zR P pl cs ops (rr pl ops i) o=some r
 |[],_,_,h=>by cases h
 |j::l,i,r,h=>by
  simp only [B1] at h;split at h
  ·rename_i x hx;split at h
   ·rename_i hc;simp only [aB,dg] at h;obtain⟨rfl,rfl⟩:=h;simp only [aA] at hc;cases ho:ops[j]? with
    |none=>simp [ho] at hx
    |some o=>
     simp only [ho,cN] at hx;exact⟨ju ..,hc.1,hc.2,o,rfl,hx⟩
   ·obtain⟨h1,h2⟩:=B9 h;exact⟨aZ _ h1,h2⟩
  ·obtain⟨h1,h2⟩:=B9 h;exact⟨aZ _ h1,h2⟩
theorem Mx {o:Oper} {b:Nat×Nat×Bool×Value} (h:Gp P pl o=some b) (m:Bool):zR P pl cs ops m o=some ⟨false,[],[wX b],ub cs b.1,[],[]⟩:=by
 unfold Gp at h;split at h
 ·rename_i t d hg yB hd;split at h
  ·rename_i sz z ag s h1 h2 h3;split at h
   ·rename_i hc;simp only [aB] at h;subst h;simp only [zR,hg,BL,yB,hd,h1,h2,Uq,h3,hc,if_true,wX,ub]
   ·cases h
  ·cases h
 ·cases h
theorem adL (env:Env) {d d':Nat} (h:d≠d') (v v':Value):kT (kT env d v) d' v'=kT (kT env d' v') d v:=by
 funext s
 by_cases h1:s=d
 ·subst h1;rw [gG _ _ h,kh,kh]
 ·by_cases h2:s=d'
  ·subst h2;rw [kh,gG _ _ (Ne.symm h),kh]
  ·rw [gG _ _ h2,gG _ _ h1,gG _ _ h1,gG _ _ h2]
theorem acm {b b':Nat×Nat×Bool×Value} (cU:b.1≠b'.1) {l:List TI} (h:gv P gY next (wX b::wX b'::l) env w0 X):gv P gY next (wX b'::wX b::l) env w0 X:=by
 obtain⟨d,n,o,z⟩:=b;obtain⟨d',n',o',z'⟩:=b';have cU:d≠d':=cU;cases o<;>cases o'<;>simp only [wX,gv,Un,Ex.ev,dt,if_true,if_false,bu] at h⊢ <;>obtain⟨h1,h2,h3⟩:=h<;>exact⟨h2,h1,by rw [adL _ cU.symm];exact h3⟩
theorem aat {d d':Nat} {dK:Env} {X':XS} {eB:World} {a':Act} {w':World} (h:eH pl ds (ub (ub cs d') d) dK X' eB a' w'):eH pl ds (ub (ub cs d) d') dK X' eB a' w':=by
 refine⟨h.size,h.defers,h.uV,h.ext,h.sU,h.nk,fun p hp=>h.sig p ?_,h.box,h.inj,h.conv,fun b hb=>h.live b ?_,fun p hp=>h.ptr p ?_⟩
 ·simp only [ub,CS.kill,CS.kI,gd] at hp⊢;exact⟨⟨hp.1.1,hp.2⟩,hp.1.2⟩
 ·simp only [ub,CS.kill,CS.kI,List.mem_append,List.mem_singleton] at hb⊢;rcases hb with h|h|h
  ·exact .inr (.inl h)
  ·exact .inl h
  ·exact .inr (.inr h)
 ·simp only [ub,CS.kill,CS.kI,gd] at hp⊢;exact⟨⟨hp.1.1,hp.2⟩,hp.1.2⟩
theorem Zm {l:List Nat} {i:Nat} (h:aaq l i=true):l=[i]:=by
 unfold aaq at h;split at h
 ·rw [beq_iff_eq.1 h]
 ·cases h
theorem UF {i:Nat} {o:Oper} {r:CR} {Q:Exit→Act→World→Prop} (ho:ops[i]? =some o) (hx:zR P pl cs ops (rr pl ops i) o=some r) (hsb:r.sb=[]) (h:eH pl ds cs env X w0 a w) (hd:gv P gY next r.all env w0 X) {cq:Array Bool} {fuel:Nat}
  (oY: ∀b,b∈mG r.l→ ∀p,p∈ds.pins→p.1≠b)
  (hQ: ∀ch a' w' dK X' eB,a'.defers=ds.ds→Kp X' eB w'→xd pl ds dK X' a' w'→gY ch dK eB X'→Q (.panic ch) a' w')
  (hK: ∀a' w' dK X' eB,eH pl ds r.cs dK X' eB a' w'→next dK eB X'→uU P pl ops Q fuel (cq.setIfInBounds i true) a' w'):
  wpOp P ops Q i (fun a' w'=>(∀o,ops[i]? =some o→wY (rr pl ops i=false) pl (zh pl ops o) a w a' w')∧uU P pl ops Q fuel (cq.setIfInBounds i true) a' w') a w:=by
 have Ca:=UE (ops:=ops) (K:=fun a' w'=>(∀o',ops[i]? =some o'→wY (rr pl ops i=false) pl (zh pl ops o') a w a' w')∧uU P pl ops Q fuel (cq.setIfInBounds i true) a' w') (Q:=Q) hx h hd
  (fun a' w' dK X' eB h1 h2 h3=>⟨fun o' HP=>⟨fun zV=>(h3.1 zV).sub fun b hb=>(by rw [hsb] at hb;cases hb),h3.2.sub fun b hb=>(by rw [hsb] at hb;cases hb)⟩,hK a' w' dK X' eB h1 h2⟩)
  oY (fun ch w' dK X' eB hk AJ hp=>hQ ch a w' dK X' eB h.defers hk AJ hp)
 unfold wpOp;simp only [ho] at Ca⊢;split
 ·rename_i hw;rw [if_pos hw] at Ca;exact .inl Ca
 ·rename_i hw;rw [if_neg hw] at Ca;exact Ca
theorem Fa {Q:Exit→Act→World→Prop} (hN: ∀mY a' w' dK X' eB,eH pl ds mY dK X' eB a' w'→next dK eB X'→Q .normal a' w')
  (hQ: ∀ch a' w' dK X' eB,a'.defers=ds.ds→Kp X' eB w'→xd pl ds dK X' a' w'→gY ch dK eB X'→Q (.panic ch) a' w')
  (hQi: ∀c a (d:Option Nat) v w,(∀x,d=some x→ ∀p,p∈ds.pins→p.1≠x)→Q (.panic c) (a.put d v) w→Q (.panic c) a w) (Ja:yz ops=true):
  ∀(fuel:Nat) (cq:Array Bool) (cs:CS) (tl:List TI) (env:Env) (X:XS) (w0:World) (a:Act) (w:World),
  sT P pl ops fuel cq cs=some tl→(∀b,b∈mG tl→ ∀p,p∈ds.pins→p.1≠b)→eH pl ds cs env X w0 a w→gv P gY next tl env w0 X→uU P pl ops Q fuel cq a w
 |0,cq,cs,tl,env,X,w0,a,w,hc,_,h,hd=>by
  simp only [sT] at hc;split at hc
  ·rename_i hr;simp only [aB] at hc;subst hc;exact⟨by simpa using hr,hN _ _ _ _ _ _ h hd⟩
  ·cases hc
 |fuel+1,cq,cs,tl,env,X,w0,a,w,hc,hm,h,hd=>by
  simp only [sT] at hc;split at hc
  ·rename_i i r hf;obtain⟨h1,h2,h3,o,ho,h4⟩:=B9 hf;cases hs:sT P pl ops fuel (cq.setIfInBounds i true) r.cs with
   |none=>simp [hs] at hc
   |some OR=>
    simp only [hs,bM,aB] at hc;subst hc;rw [zD] at hd;rw [xe,QG] at hm;obtain⟨v,dK,hy,hS,hn⟩:=afJ h4 h2 h hd (fun b hb=>hm b (bR _ hb));have Zn: ∀j oj,ops[j]? =some oj→j≠i→cq.getD j true=false→ ¬(j∈I9 ops cq i∨j=i∨(cq.getD j true=false∧ ∃oj,ops[j]? =some oj∧waits oj i=true))→_:=
     fun j oj hj cU Ms kU=>aar ho h3 j oj hj cU Ms (fun hb=>kU (.inl hb)) (by
      cases hw:waits oj i with
      |false=>rfl
      |true=>exact absurd (.inr (.inr ⟨Ms,oj,hj,hw⟩)) kU)
    obtain⟨Y,Mr,hY,gD⟩: ∃Y:Act→World→Prop,(∀a w,Y a w→Yx P ops o v a w)∧Y a w∧ ∀j oj,oj.dst=oj.dst→o.apart ops oj=true→(rr pl ops j=false∨BM o=true∨ldB o r.rb=true)→(∀b,b∈zh pl ops oj→ ¬b∈r.rb)→
      Zj pl ops o oj (rr pl ops j=false) (zh pl ops oj) Y:=by
     cases zV:ldB o r.rb with
     |false=>exact⟨YF P pl r.rb ops o v,fun _ _ h=>h.yx,hy.1,fun j oj _ _ h4 h5=>YF.stb (h4.imp id fun h=>h.elim id fun h=>by cases h) h5⟩
     |true=>
      unfold ldB at zV;split at zV
      ·rename_i t x yB;have hxr:x∈r.rb:=by simpa using zV
       refine⟨YL P pl x ops o v,fun _ _ h=>h.yx,hy.2 x hxr,fun j oj _ rW _ h5=>YL.stb (fun d hd hdx=>?_) fun hm=>h5 x hm hxr⟩;subst hdx;refine(yA rW).2.2 d hd (bR _ (List.mem_filterMap.2 ⟨.tmp d,?_,rfl⟩));simp [yB,Op.operands]
      ·cases zV
    refine Uv Mr ho (Region.noSelect_spec Ja) (acg ho h3) (fun c a' w' hq=>hQi c a' o.dst v w' (h.apart h4 h2 fun b hb=>hm b (bR _ hb)) hq) fuel cq a w
     (fun j=>j∈I9 ops cq i∨j=i∨(cq.getD j true=false∧ ∃oj,ops[j]? =some oj∧waits oj i=true)) (.inr (.inl rfl)) (fun j hj=>?_)
     (fun j oj hj cU Ms kU=>have h:=Zn j oj hj cU Ms kU;⟨h.1,gD j oj rfl h.1 h.2.1 h.2.2⟩) h1 hY ?_
    ·rcases hj with hj|rfl|⟨hu,oj,Du,hw⟩
     ·rcases acf j hj with h|⟨h,oj,k,q1,q2,q3⟩
      ·exact .inl h
      ·exact .inr ⟨h,oj,k,q1,q2,.inl q3⟩
     ·exact .inl rfl
     ·exact .inr ⟨hu,oj,i,Du,hw,.inr (.inl rfl)⟩
    exact Fa hN hQ hQi Ja fuel _ r.cs OR dK X w0 _ w hs (fun b hb=>hm b (dH _ hb)) hS hn
  ·split at hc
   ·rename_i i hr;split at hc
    ·rename_i o ho;split at hc
     ·rename_i r hx;split at hc
      ·rename_i hsb;cases hs:sT P pl ops fuel (cq.setIfInBounds i true) r.cs with
       |none=>simp [hs] at hc
       |some OR=>
        simp only [hs,bM,aB] at hc;subst hc;rw [zD] at hd;rw [xe,QG] at hm;refine⟨fun h0=>(by rw [hr] at h0;cases h0),fun i' l7=>?_⟩;rw [hr] at l7;have hii:=List.mem_singleton.1 l7;subst hii;have pe: ∀b,b∈r.sb→b∈zh pl ops o:=fun b hb=>by have:=List.all_eq_true.1 hsb b hb;simpa using this
        have Ca:=UE (ops:=ops) (K:=fun a' w'=>(∀o',ops[i']? =some o'→wY (rr pl ops i'=false) pl (zh pl ops o') a w a' w')∧uU P pl ops Q fuel (cq.setIfInBounds i' true) a' w') (Q:=Q) hx h hd
         (fun a' w' dK X' eB h1 h2 h3=>⟨fun o' HP=>by rw [ho] at HP;injection HP with HP;subst HP;exact⟨fun zV=>(h3.1 zV).sub pe,h3.2.sub pe⟩,Fa hN hQ hQi Ja fuel _ r.cs OR dK X' eB a' w' hs (fun b hb=>hm b (dH _ hb)) h1 h2⟩)
         (fun b hb=>hm b (bR _ hb)) (fun ch w' dK X' eB hk AJ hp=>hQ ch a w' dK X' eB h.defers hk AJ hp)
        unfold wpOp;simp only [ho] at Ca⊢;split
        ·rename_i hw;rw [if_pos hw] at Ca;exact .inl Ca
        ·rename_i hw;rw [if_neg hw] at Ca;exact Ca
      ·cases hc
     ·cases hc
    ·cases hc
   ·rename_i i j hr;split at hc
    ·rename_i bi hp;cases hs:sT P pl ops fuel (cq.setIfInBounds i true) (ub cs bi.1)with
     |none=>simp [hs] at hc
     |some OR=>
      simp only [hs,bM,aB] at hc;subst hc;have hmc: ∀(i:TI) (l:List TI),mG (i::l)=mG [i]++mG l:=fun i l=>xe [i] l;rw [hmc] at hm;unfold afF at hp;split at hp
      ·rename_i bi' bj UG hbj;split at hp
       ·rename_i hpc;simp only [aB] at hp;subst hp;simp only [aA,bV,beq_eq_false_iff_ne] at hpc;obtain⟨⟨cU,hri⟩,hrj⟩:=hpc;replace hri:=Zm hri;replace hrj:=Zm hrj;obtain⟨oi,hoi,hai⟩:=Option.bind_eq_some_iff.1 UG;obtain⟨oj,Du,haj⟩:=Option.bind_eq_some_iff.1 hbj;have hci:=fun (cs:CS) (m:Bool)=>Mx (cs:=cs) (ops:=ops) hai m;have hcj:=fun (cs:CS) (m:Bool)=>Mx (cs:=cs) (ops:=ops) haj m;refine⟨fun h0=>(by rw [hr] at h0;cases h0),fun i' l7=>?_⟩;rw [hr] at l7;rcases List.mem_cons.1 l7 with rfl|l7
        ·exact UF hoi (hci cs _) rfl h (hd:gv P gY (gv P gY next OR) [wX bi'] env w0 X) (fun b hb=>hm b (bR _ hb)) hQ fun a' w' dK X' eB h1 h2=>Fa hN hQ hQi Ja fuel _ _ OR dK X' eB a' w' hs (fun b hb=>hm b (dH _ hb)) h1 h2
        ·have HN:=List.mem_singleton.1 l7;subst HN;cases fuel with
         |zero=>
          simp only [sT,hri] at hs;cases hs
         |succ f=>
          simp only [sT,hri,B1,Du,cN,hcj,Bool.false_and,bu,if_false,List.all_nil,if_true] at hs;cases bQ:sT P pl ops f ((cq.setIfInBounds i true).setIfInBounds i' true) (ub (ub cs bi'.1) bj.1)with
          |none=>simp [bQ] at hs
          |some UH=>
           simp only [bQ,bM,aB] at hs;have Zo:wX bj::UH=OR:=hs;subst Zo;rw [hmc (wX bj) UH] at hm;have pY:=acm cU hd;refine UF Du (hcj cs _) rfl h (pY:gv P gY (gv P gY next (wX bi'::UH)) [wX bj] env w0 X) (fun b hb=>hm b (dH _ (bR _ hb))) hQ fun a' w' dK X' eB h1 h2=>?_;refine⟨fun h0=>(by rw [hrj] at h0;cases h0),fun k hk=>?_⟩;rw [hrj] at hk;have hki:=List.mem_singleton.1 hk;subst hki;refine UF hoi (hci _ _) rfl h1 (h2:gv P gY (gv P gY next UH) [wX bi'] dK eB X') (fun b hb=>hm b (bR _ hb)) hQ fun a'' kq ajE sR Cb h3 h4=>?_;have hkj:k≠i':=fun e=>by
            subst e;rw [hoi] at Du;cases Du;rw [hai] at haj;cases haj;exact cU rfl
           rw [ql _ _ hkj.symm];exact Fa hN hQ hQi Ja f _ _ UH ajE sR Cb a'' kq bQ (fun b hb=>hm b (dH _ (dH _ hb))) (aat h3) h4
       ·cases hp
      ·cases hp
    ·cases hc
   ·cases hc
end
end Go.dL
