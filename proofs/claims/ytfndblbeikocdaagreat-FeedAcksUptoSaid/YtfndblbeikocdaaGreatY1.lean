/-
 Part 1 of the proof: what the last text leans on.
-/
import Derived.KernelRfl
import Derived.Orders
import Derived.Below
import Derived.Laws.Sem
import Derived.Laws.CopyRow
import Derived.Laws.Entries
import Derived.Laws.Cells
import GoSem.Dispatch
open Option.some renaming injEq → ax
open Go.Region renaming wanted → dO, ready → gg, binds → pZ, noSelect → qJ, noSelect_spec → rW
open Bool renaming and_eq_true → aV, not_eq_true' → dH, false_eq_true → bh, or_eq_true → iM, not_eq_false → uL
open List renaming mem_append_left → bX, mem_filter → fE, mem_append_right → dw, mem_cons_of_mem → bG, range → cN, nil_append → fg, mem_cons → js, mem_cons_self → di, cons_append → qa, contains_iff_mem → rj, all_eq_true → vy
open Go.Act renaming put → ku, eval → rX
open Option renaming map_some → bH, bind_some → cJ, isNone_iff_eq_none → kY
open Go.Oper renaming upon → kT, wp → oQ, apart_spec → qK
open Prod.mk renaming injEq → dr
open Nat renaming le_refl → bK, lt_of_lt_of_le → aI, le_trans → af
open Go.Instr renaming sureAddr → iY, loadAt → gP
open Array renaming replicate → jG, getElem?_setIfInBounds_ne → ji, getElem?_eq_none → mu, toList_map → vz, any_eq_true' → s8, setIfInBounds_comm → px, getElem?_setIfInBounds → eS
open Go.Deferred renaming ofValue → vA
set_option linter.unusedVariables false
set_option linter.unusedSimpArgs false
namespace Go.bu
theorem qF {p:Prop} (h:p:=by first|assumption|exact bI.cells (by assumption)):p:=h
theorem qO {p:Prop} (h:p:=by first|assumption|exact Own.sl (by assumption)):p:=h
theorem qM {p:Prop} (h:p:=by first|exact mv0|exact mv1 (by assumption)|exact mv2 (by assumption) (by assumption)):p:=h
theorem qN {p:Prop} (h:p:=by simp only [Value.cells,nq1,nq2,nq3,nq4,nq5,nq6,cz,nq7,nq8,nq9,nq0,Nat.reduceAdd,Nat.zero_add];try rfl):p:=h
theorem qE {p:Prop} (h:p:=by repeat' first|with_reducible apply QJ|with_reducible exact T9|assumption|rfl|exact Sl.one (by assumption)|exact gO.one (by assumption)|exact Sl.one (Own.sl (by assumption))):p:=h
theorem qC {p:Prop} (h:p:=by first|rfl|assumption|exact Sl.one (by assumption)|exact gO.one (by assumption)|exact Sl.one (Own.sl (by assumption))):p:=h
theorem qR {p:Prop} (h:p:=by first|assumption|exact List.getElem?_eq_getElem (by omega)):p:=h
theorem qA {p:Prop} (h:p:=by first|assumption|exact Sl.mv (by assumption) qM|exact nK.mv (by assumption) qM|exact nL.mv (by assumption) qM|exact Rec.at.mv (by assumption) qM|exact Own.sl (by assumption)|exact Cells.mv (by assumption) qM|exact Cells.mv (bI.cells (by assumption)) qM|omega):p:=h
theorem kQ {p:Prop} (h:p:=by kernel_rfl):p:=h
theorem zQ {p:Prop} (h:p:=by omega):p:=h
abbrev Env:=Nat→Value
abbrev XS:=Nat→Prop
def lE (e:Env) (d:Nat) (v:Value):Env:=fun s=>match s==d with
 |true=>v
 |false=>e s
def Gz (e:Env) (d:Option Nat) (v:Value):Env:=match d with
 |some d=>lE e d v
 |none=>e
structure Fr (X:XS) (w w':World):Prop where
 os:w'.os=w.os
 tape:w'.tape=w.tape
 output:w'.output=w.output
 size:w.heap.size≤w'.heap.size
 block: ∀k,k<w.heap.size→ ¬X k→w'.heap[k]? =w.heap[k]?
def nX:XS:=fun _=>False
def Ext (w w':World):Prop:=Fr nX w w'
theorem Fr.refl (X:XS) (w:World):Fr X w w:=⟨rfl,rfl,rfl,bK _,fun _ _ _=>rfl⟩
theorem Fr.trans {X:XS} {a b c:World} (h:Fr X a b) (k:Fr X b c):Fr X a c:=
 ⟨k.os.trans h.os,k.tape.trans h.tape,k.output.trans h.output,af h.size k.size,
  fun i hi hx=>(k.block i (aI hi h.size) hx).trans (h.block i hi hx)⟩
theorem Fr.mono {X Y:XS} {a b:World} (h:Fr X a b) (hs: ∀k,X k→Y k):Fr Y a b:=
 ⟨h.os,h.tape,h.output,h.size,fun i hi hy=>h.block i hi fun hx=>hy (hs i hx)⟩
theorem Ext.refl (w:World):Ext w w:=Fr.refl _ _
theorem Ext.trans {a b c:World} (h:Ext a b) (k:Ext b c):Ext a c:=Fr.trans h k
theorem Ext.fr {a b:World} (h:Ext a b) (X:XS):Fr X a b:=Fr.mono h (fun _ hf=>hf.elim)
theorem Ext.size {a b:World} (h:Ext a b):a.heap.size≤b.heap.size:=Fr.size h
theorem Ext.block {a b:World} (h:Ext a b) {k:Nat} (hk:k<a.heap.size):b.heap[k]? =a.heap[k]? :=Fr.block h k hk (fun hf=>hf)
theorem Ext.aal {a b:World} (h:RowKit.Below a.heap.size a b):Ext a b:=⟨h.os,h.tape,h.output,h.size,fun k hk _=>h.block k hk⟩
theorem Ext.below {a b:World} (h:Ext a b):RowKit.Below a.heap.size a b:=⟨h.os,h.tape,h.output,Fr.size h,fun _ hk=>h.block hk⟩
theorem Ext.alloc (w:World) (o:Obj):Ext w (w.alloc o):=Ext.aal ((RowKit.Below.refl _ _).alloc (bK _) o)
theorem Ext.drew (w:World):Ext w { w with drawn:=w.drawn+1 } :=⟨rfl,rfl,rfl,bK _,fun _ _ _=>rfl⟩
structure Kp (X:XS) (w w':World):Prop where
 os:w'.os=w.os
 tape:w'.tape=w.tape
 output:w'.output=w.output
 size:w.heap.size≤w'.heap.size
 block: ∀k,X k→w'.heap[k]? =w.heap[k]?
theorem Kp.refl (X:XS) (w:World):Kp X w w:=⟨rfl,rfl,rfl,bK _,fun _ _=>rfl⟩
theorem Kp.trans {X:XS} {a b c:World} (h:Kp X a b) (k:Kp X b c):Kp X a c:=
 ⟨k.os.trans h.os,k.tape.trans h.tape,k.output.trans h.output,af h.size k.size,fun i hx=>(k.block i hx).trans (h.block i hx)⟩
theorem Kp.less {X Y:XS} {a b:World} (h:Kp X a b) (hs: ∀k,Y k→X k):Kp Y a b:=⟨h.os,h.tape,h.output,h.size,fun i hy=>h.block i (hs i hy)⟩
theorem Fr.kp {X Y:XS} {a b:World} (h:Fr X a b) (hy: ∀k,Y k→k<a.heap.size∧ ¬X k):Kp Y a b:=
 ⟨h.os,h.tape,h.output,h.size,fun i hi=>h.block i (hy i hi).1 (hy i hi).2⟩
theorem Ext.kp {X:XS} {a b:World} (h:Ext a b) (hx: ∀k,X k→k<a.heap.size):Kp X a b:=Fr.kp h fun k hk=>⟨hx k hk,fun hf=>hf⟩
def aS (w:World):XS:=fun k=>k<w.heap.size
theorem Kp.ext {a b:World} (h:Kp (aS a) a b):Ext a b:=⟨h.os,h.tape,h.output,h.size,fun k hk _=>h.block k hk⟩
theorem Ext.aS {a b:World} (h:Ext a b):Kp (aS a) a b:=h.kp fun _ hk=>hk
inductive Ex where
 |t (n:Nat)
 |c (v:Value)
 |s (b off n:Nat)
 |k (b off:Nat)
def b7 (v:Value) (off n:Nat):Value:=.agg ((v.cells.toList.drop off).take n).toArray
def cellOf (v:Value) (i:Nat):Value:=v.cells.toList.getD i undef
def Ex.ev (env:Env):Ex→Value
 | .t n=>env n
 | .c v=>v
 | .s b off n=>b7 (env b) off n
 | .k b off=>cellOf (env b) off
def Ex.QK:Ex→Nat→Bool
 | .t n,d=>n==d
 | .c _,_=>false
 | .s b _ _,d=>b==d
 | .k b _,d=>b==d
def look {α:Type} :List (Nat×α)→Nat→Option α
 |[],_=>none
 |(s,e)::r,t=>if s=t then some e else look r t
def GA (env:Env) (ss:List (Nat×Ex)):Operand→Value
 | .tmp t=>match look ss t with
  |some e=>e.ev env
  |none=>env t
 | .const v=>v
 | .global g=>.pointer (some ⟨g,0,none⟩)
 | .func f=>.func (.func f) #[] #[]
def MW (op:Op) (ty:TypeId):Oper:=⟨none,op,ty, "",#[],none⟩
def vS (s:Sem Value):Sem Next:=do pure (.value (←s))
def D4 (f:Value) (args:Array Value):Sem Next:=do let d←vA f args;invoke d.target d.args
def um (ρ:Operand→Value) (a:Array Operand):Array Value:=(a.toList.map ρ).toArray
def Wa (ρ:Operand→Value) (a:Array (Nat×Operand)):Array (Nat×Value):=(a.toList.map fun p=>(p.1,ρ p.2)).toArray
def Of (ρ:Operand→Value) (op:Op) (ty:TypeId):Sem Next:=match op with
 | .call ⟨.value (.func f),args,_⟩=>callFunc f (um ρ args)
 | .call ⟨.value (.tmp t),args,_⟩=>D4 (ρ (.tmp t)) (um ρ args)
 | .call ⟨.builtin .len,args,ts⟩=>vS (Builtin.len_ ts ty (um ρ args))
 | .call ⟨.builtin .cap,args,ts⟩=>vS (Builtin.cap_ ts ty (um ρ args))
 | .call ⟨.builtin .min,args,ts⟩=>vS (Builtin.min_ ts ty (um ρ args))
 | .call ⟨.builtin .max,args,ts⟩=>vS (Builtin.max_ ts ty (um ρ args))
 | .call ⟨.builtin .append,args,ts⟩=>vS (Builtin.append_ ts ty (um ρ args))
 | .call ⟨.builtin .copy,args,ts⟩=>vS (Builtin.copy_ ts ty (um ρ args))
 | .call ⟨.builtin .delete,args,ts⟩=>vS (Builtin.delete_ ts ty (um ρ args))
 | .call ⟨.builtin .clear,args,ts⟩=>vS (Builtin.clear_ ts ty (um ρ args))
 | .call ⟨.builtin .panic,args,_⟩=>vS (Instr.panic ((um ρ args).toList.getD 0 .nilIface))
 | .build t ps=>vS (Instr.build t (Wa ρ ps))
 | .buildSlice t n ps=>vS (Instr.buildSlice t n (Wa ρ ps))
 | .makeFunc fn a b=>vS (Instr.makeFunc fn (um ρ a) (um ρ b))
 |op=>execOp ρ (MW op ty)
theorem acF (ρ:Operand→Value) (a:Array Operand):um ρ a=a.map ρ:=by
 unfold um;rw [←vz]
theorem acG (ρ:Operand→Value) (a:Array (Nat×Operand)):Wa ρ a=a.map fun p=>(p.1,ρ p.2):=by
 unfold Wa;rw [←vz]
theorem Yk (ρ:Operand→Value) (hρ: ∀f,ρ (.func f)= .func (.func f) #[] #[]) (op:Op) (ty:TypeId):Of ρ op ty=execOp ρ (MW op ty):=by
 unfold Of;split<;>first
  |rfl
  |(simp [execOp,MW,resolve,invoke,vA,acF,acG,vS,builtin,D4,hρ];done)
def cz (l:List Value) (off:Nat) (vs:List Value):List Value:=l.take off++vs++l.drop (off+vs.length)
def Rd (P:Program) (X:XS) (w:World) (s:Sem Next) (v:Value):Prop:= ∀wa,Kp X w wa→s.run P wa= .ok (.value v) wa
def ky (v:Value) (want:Bool):Bool:=match v with
 | .bool b=>b==want
 |_=>false
def cd:Value→Bool
 | .agg _=>true
 |_=>false
def one (v:Value):Bool:=match v with
 | .agg _| .tuple _=>false
 |_=>true
inductive TI where
 |Ky (b:Nat)
 |set (d:Nat) (e:Ex)
 |box (b n:Nat) (e:Ex)
 |put (b off n:Nat) (e:Ex)
 |Cr (b:Nat) (e:Ex)
 |QL (b off:Nat) (e:Ex)
 |fill (b n:Nat) (e:Ex)
 |rd (d:Nat) (op:Op) (ty:TypeId) (ss:List (Nat×Ex))
 |zp (d:Option Nat) (op:Op) (ty:TypeId) (ss:List (Nat×Ex)) (m:Bool)
 |QM (g:Nat) (want:Bool) (d:Nat) (e:Ex)
 |Yl (g:Nat) (want:Bool) (d:Nat) (op:Op) (ty:TypeId) (ss:List (Nat×Ex))
 |QN (g:Nat) (want:Bool) (d:Option Nat) (op:Op) (ty:TypeId) (ss:List (Nat×Ex)) (m:Bool)
inductive T where
 |Og (l:List TI)
 |seq (a b:T)
 |ite (e:Ex) (a b:T)
 |alt (a b:T)
 |dK (id:Nat) (a:T)
 |loop (M C:List Nat) (a:T)
 |exit (id:Nat)
 |ret
 |skip
def grow (X:XS) (w w':World):XS:=fun k=>X k∨(w.heap.size≤k∧k<w'.heap.size)
def Step (m:Bool) (X:XS) (w w':World):Prop:=if m then Fr X w w' else Ext w w'
theorem Step.fr {m:Bool} {X:XS} {w w':World} (h:Step m X w w'):Fr X w w':=by
 unfold Step at h;split at h
 ·exact h
 ·exact h.fr X
theorem Step.fk {m:Bool} {X:XS} {w w':World} (h:Ext w w'):Step m X w w':=by
 unfold Step;split
 ·exact h.fr X
 ·exact h
def jt (P:Program) (m:Bool) (X:XS) (w:World) (next:Value→World→XS→Prop) (ik:List PanicEntry→World→XS→Prop):Result Next→Prop
 | .ok (.value v) w'=>Step m X w w'∧next v w' (grow X w w')
 | .ok .skip w'=>Step m X w w'∧next undef w' (grow X w w')
 | .ok (.enter f args) w'=>w'=w∧Calls P f args w fun
   | .returned v,mN=>Step m X w mN∧next v mN (grow X w mN)
   | .panicked ch,mN=>Step m X w mN∧ik ch mN (grow X w mN)
   | .outgrown,_=>False
 | .halt (.panic v) w'=>Step m X w w'∧ik [{ v,recovered:=false }] w' (grow X w w')
 |_=>False
def aF (b:Bool) (N:Prop):Prop:=match b with
 |true=>N
 |false=>False
theorem eQ {b:Bool} {N:Prop} :aF b N↔b=true∧N:=by cases b<;>simp [aF]
def au (v:Value) (A B:Prop):Prop:=match v with
 | .bool t=>(t=true→A)∧(t=false→B)
 |_=>False
def QO (P:Program) (ik:List PanicEntry→Env→World→XS→Prop) (next:Env→World→XS→Prop) (env:Env) (w:World) (X:XS):TI→Prop
 | .Ky b=>aF (cd (env b)) (next env w X)
 | .set d e=>next (lE env d (e.ev env)) w X
 | .box b n e=>aF ((e.ev env).cells.toList.length==n) (next (lE env b (.agg (e.ev env).cells)) w X)
 | .put b off n e=>aF ((e.ev env).cells.toList.length==n) (aF ((e.ev env).cells.toList.all one)
   (next (lE env b (.agg (cz (env b).cells.toList off (e.ev env).cells.toList).toArray)) w X))
 | .Cr b e=>aF (one (e.ev env)) (next (lE env b (.agg #[e.ev env])) w X)
 | .QL b off e=>aF (one (e.ev env)) (next (lE env b (.agg (cz (env b).cells.toList off [e.ev env]).toArray)) w X)
 | .fill b n e=>aF ((e.ev env).cells.toList.length==n) (aF ((e.ev env).cells.toList.all one) (next (lE env b (.agg (e.ev env).cells)) w X))
 | .rd d op ty ss=> ∃v,Rd P X w (Of (GA env ss) op ty) v∧next (lE env d v) w X
 | .zp d op ty ss m=> ∀wa,Kp X w wa→
   jt P m X wa (fun v w' X'=>next (Gz env d v) w' X') (fun ch w' X'=>ik ch env w' X') ((Of (GA env ss) op ty).run P wa)
 | .QM g want d e=>next (lE env d (if ky (env g) want then e.ev env else undef)) w X
 | .Yl g want d op ty ss=> ∃v,(ky (env g) want=true→Rd P X w (Of (GA env ss) op ty) v)∧(ky (env g) want=false→v=undef)∧
   next (lE env d v) w X
 | .QN g want d op ty ss m=>
   (ky (env g) want=true→ ∀wa,Kp X w wa→
    jt P m X wa (fun v w' X'=>next (Gz env d v) w' X') (fun ch w' X'=>ik ch env w' X') ((Of (GA env ss) op ty).run P wa))∧
   (ky (env g) want=false→next (Gz env d undef) w X)
def gH (P:Program) (ik:List PanicEntry→Env→World→XS→Prop) (next:Env→World→XS→Prop):List TI→Env→World→XS→Prop
 |[],env,w,X=>next env w X
 |i::l,env,w,X=>QO P ik (gH P ik next l) env w X i
abbrev na:=Exit→Env→World→XS→Prop
def na.U7 (next:Env→World→XS→Prop) (K:na):na
 | .normal,e,w,X=>next e w X
 |ex,e,w,X=>K ex e w X
def na.dK (id:Nat) (K:na):na
 | .exit i,e,w,X=>if i=id then K .normal e w X else K (.exit i) e w X
 |ex,e,w,X=>K ex e w X
def Jx (M:List Nat) (s:Nat):Bool:=match M with
 |[]=>false
 |x::r=>x==s||Jx r s
theorem MX {s:Nat} : ∀{M:List Nat},Jx M s=true↔s∈M
 |[]=>by simp [Jx]
 |x::r=>by
  simp only [Jx,iM,beq_iff_eq,MX (M:=r),js];exact⟨fun h=>h.imp Eq.symm id,fun h=>h.imp Eq.symm id⟩
def merge (M:List Nat) (e env:Env):Env:=fun s=>match Jx M s with
 |true=>e s
 |false=>env s
def den (P:Program):T→na→Env→World→XS→Prop
 | .Og l,K,env,w,X=>gH P (fun ch=>K (.panic ch)) (fun e w X=>K .normal e w X) l env w X
 | .seq a b,K,env,w,X=>den P a (na.U7 (fun e w X=>den P b K e w X) K) env w X
 | .ite e a b,K,env,w,X=>au (e.ev env) (den P a K env w X) (den P b K env w X)
 | .alt a b,K,env,w,X=>And (den P a K env w X) (den P b K env w X)
 | .dK id a,K,env,w,X=>den P a (na.dK id K) env w X
 | .loop M C a,K,env,w,X=> ∃J:Nat→List Value→World→XS→Prop,(∃n,J n (C.map env) w X)∧
   ∀n (e:Env) w' X',(∀k,X k→X' k)→J n (C.map e) w' X'→den P a (na.U7 (fun e' mN rl=> ∃m,m<n∧J m (C.map e') mN rl) K) (merge M e env) w' X'
 | .exit id,K,env,w,X=>K (.exit id) env w X
 | .ret,K,env,w,X=>K .ret env w X
 | .skip,K,env,w,X=>K .normal env w X
structure bz where
 n:Nat
 boxes:List (Nat×Nat)
 Oh:List Nat
 rY:List Nat
 mat:List Nat
 car:List Nat
def bz.kz (pl:bz) (s:Nat):Bool:=pl.rY.contains s&&decide (s<pl.n)&&(look pl.boxes s).isNone&&!pl.Oh.contains s
def bz.kA (pl:bz) (d:Nat):Bool:=decide (d<pl.n)&&(look pl.boxes d).isNone&&!pl.Oh.contains d
structure Ptr where
 s:Nat
 b:Nat
 off:Nat
 g:Option (Nat×Bool)
structure CS where
 sig:List (Nat×Ex)
 uo:List Ptr
 live:List Nat
def CS.start:CS:=⟨[],[],[]⟩
def valOf (pl:bz) (cs:CS):Operand→Option Ex
 | .tmp t=>if pl.kz t then some (.t t)else look cs.sig t
 | .const v=>some (.c v)
 | .global g=>some (.c (.pointer (some ⟨g,0,none⟩)))
 | .func f=>some (.c (.func (.func f) #[] #[]))
def C6 (og:Option (Nat×Bool)):List Ptr→Nat→Option (Nat×Nat)
 |[],_=>none
 |p::r,t=>if p.s=t then(if p.g.isNone||p.g==og then some (p.b,p.off)else none)else C6 og r t
def rm (pl:bz) (cs:CS) (og:Option (Nat×Bool)):Operand→Option (Nat×Nat×List Nat)
 | .tmp t=>match look pl.boxes t with
  |some _=>some (t,0,if cs.live.contains t then [] else [t])
  |none=>if pl.Oh.contains t then(C6 og cs.uo t).map fun (b,off)=>(b,off,[])else none
 |_=>none
def CS.kill (cs:CS) (d:Nat):CS:=
 ⟨cs.sig.filter fun p=>p.1 !=d&&!p.2.QK d,cs.uo.filter fun p=>p.b !=d&&p.s !=d&&(match p.g with|some (g,_)=>g !=d|none=>true),cs.live⟩
def CS.Ih (cs:CS) (b:Nat):CS:=⟨cs.sig.filter fun p=>!p.2.QK b,cs.uo,cs.live⟩
def CS.bind (cs:CS) (pl:bz) (d:Nat):CS:=let c:=cs.kill d;if pl.kz d then c else { c with sig:=(d,.t d)::c.sig }
def CS.note (cs:CS) (d:Nat) (e:Ex):CS:= { cs with sig:=(d,e)::cs.sig.filter (fun p=>p.1 !=d),uo:=cs.uo.filter fun p=>p.s !=d }
def CS.jP (cs:CS) (d b off:Nat) (g:Option (Nat×Bool)):CS:=
 { cs with sig:=cs.sig.filter (fun p=>p.1 !=d),uo:=⟨d,b,off,g⟩::(cs.uo.filter fun p=>p.s !=d) }
def CS.jQ (cs:CS) (l:List Nat):CS:= { cs with live:=l++cs.live }
def nM (pl:bz) (cs:CS) (d:Nat) (e:Ex):List TI×CS:=
 if pl.kz d||pl.mat.contains d then([.set d e],cs.bind pl d)else([],cs.note d e)
def fieldInfo (P:Program) (S f:Nat):Option (Nat×Nat):=
 match P.underlying S with
 |some (.struct fs)=>(fs[f]?).bind fun x=>(P.info? x.type).map fun i=>(x.offset,i.size)
 |_=>none
def subst (pl:bz) (cs:CS):List Operand→Option (List (Nat×Ex))
 |[]=>some []
 | .tmp t::r=>match valOf pl cs (.tmp t),subst pl cs r with
  |some e,some ss=>some (match e with
   | .t n=>if n=t then ss else(t,e)::ss
   |_=>(t,e)::ss)
  |_,_=>none
 |_::r=>subst pl cs r
def QQ (P:Program) (t:Nat):Bool:=match P.underlying t with
 |some (.slice _)=>true
 |_=>false
def agI (P:Program):Op→Bool
 | .pick .. | .nilCheck _| .binOp .. | .unOp .. | .fieldAddr .. | .field .. | .indexAddr .. | .index .. | .extract .. | .slice .. | .build .. | .makeFunc ..
 | .makeInterface .. | .load .. | .lookup .. | .typeAssert .. | .move _| .assign _=>true
 | .convert s d _=>!QQ P s&&!QQ P d
 | .call { callee:=.builtin b,.. } =>match b with
  | .len| .cap| .min| .max=>true
  |_=>false
 |_=>false
structure CR where
 fl:Bool
 nd:List Nat
 l:List TI
 cs:CS
 rb:List Nat
 sb:List Nat
def D5:Op→Bool
 | .select .. =>false
 |_=>true
def BP (P:Program) (pl:bz) (cs:CS) (m:Bool) (o:Oper):Option CR:=
 match subst pl cs o.op.operands.toList with
 |none=>none
 |some ss=>if !D5 o.op then none else
  match o.dst with
  |some d=>if !pl.kA d then none else
   if agI P o.op then some ⟨true,[],[.rd d o.op o.type ss],cs.bind pl d,[],[]⟩else some ⟨false,[],[.zp (some d) o.op o.type ss m],cs.bind pl d,[],[]⟩
  |none=>some ⟨false,[],[.zp none o.op o.type ss m],cs,[],[]⟩
def iZ (P:Program) (t:Nat):Option (Bool×Nat):=
 match P.underlying t,P.info? t with
 |some d,some i=>some ((match d with| .struct _| .array _ _=>true|_=>false),i.size)
 |_,_=>none
def QR (P:Program) (pl:bz) (cs:CS) (sz:Nat) (t:Nat) (e:Ex) (d:Nat):Option CR:=
 match iZ P t with
 |some (ag,s)=>if decide (d<pl.n)&&s==sz then some ⟨false,[],[if !ag&&s==1 then .Cr d e else .box d sz e],(cs.kill d).jQ [d],[],[]⟩else none
 |none=>none
def Ac (P:Program) (pl:bz) (cs:CS) (og:Option (Nat×Bool)) (m:Bool) (o:Oper):Option CR:=
 match o.op with
 | .move x| .assign x=>match o.dst,valOf pl cs x with
  |some d,some e=>if pl.kA d then(let r:=nM pl cs d e;some ⟨true,[],r.1,r.2,[],[]⟩)else none
  |_,_=>none
 | .box t x=>match o.dst with
  |some d=>match look pl.boxes d with
   |some sz=>match valOf pl cs x with
    |some e=>QR P pl cs sz t e d
    |none=>none
   |none=>BP P pl cs m o
  |none=>none
 | .alloc t=>match o.dst with
  |some d=>match look pl.boxes d with
   |some sz=>match(P.info? t).bind (·.zero)with
    |some z=>QR P pl cs sz t (.c z) d
    |none=>none
   |none=>BP P pl cs m o
  |none=>none
 | .fieldAddr S x f=>match rm pl cs og x with
  |some (b,off,nd)=>match o.dst,fieldInfo P S f with
   |some d,some (fo,sz)=>if pl.Oh.contains d&&decide (d<pl.n)&&(look pl.boxes d).isNone&&sz !=0 then
     some ⟨true,nd,[],(cs.jQ nd).jP d b (off+fo) og,[],[]⟩else none
   |_,_=>none
  |none=>BP P pl cs m o
 | .load t x=>match rm pl cs og x with
  |some (b,off,nd)=>match o.dst,iZ P t,look pl.boxes b with
   |some d,some (ag,sz),some bs=>if pl.kA d&&decide (off+sz≤bs)&&(ag||sz==1)then
     (let r:=nM pl (cs.jQ nd) d (if ag then .s b off sz else .k b off);some ⟨true,nd,r.1,r.2,[b],[]⟩)else none
   |_,_,_=>none
  |none=>BP P pl cs m o
 | .store t x v=>match rm pl cs og x with
  |some (b,off,nd)=>match o.dst,valOf pl cs v,iZ P t,look pl.boxes b with
   |none,some e,some (ag,sz),some bs=>if decide (off+sz≤bs)then
     some ⟨false,nd,[if !ag&&sz==1 then .QL b off e else if off==0&&sz==bs then .fill b sz e else .put b off sz e],(cs.jQ nd).Ih b,[],[b]⟩else none
   |_,_,_,_=>none
  |none=>BP P pl cs m o
 |_=>BP P pl cs m o
def aam:Op→Bool
 | .fieldAddr .. =>true
 |_=>false
def mz (g:Nat) (want:Bool) (op:Op) (r:CR):Option CR:=
 match r.fl,r.l with
 |true,[]=>if aam op then some r else none
 |true,[.set d e]=>if d=g then none else some { r with l:=[.QM g want d e] }
 |true,[.rd d op ty ss]=>if d=g then none else some { r with l:=[.Yl g want d op ty ss] }
 |false,[.zp d op ty ss m]=>if d=some g then none else some { r with l:=[.QN g want d op ty ss m] }
 |_,_=>none
def xm (P:Program) (pl:bz) (cs:CS) (ops:Array Oper) (m:Bool) (o:Oper):Option CR:=
 match o.guard with
 |none=>Ac P pl cs none m o
 |some (j,want)=>match(ops[j]?).bind (·.dst)with
  |none=>none
  |some gs=>match valOf pl cs (.tmp gs)with
   |some (.t g)=>(Ac P pl cs (some (g,want)) m o).bind (mz g want o.op)
   |_=>none
def CR.all (r:CR):List TI:=r.nd.map .Ky++r.l
def Kz (P:Program) (pl:bz) (ops:Array Oper):List Oper→CS→Option (List TI)
 |[],_=>some []
 |o::r,cs=>match xm P pl cs ops true o with
  |some x=>(Kz P pl ops r x.cs).map (x.all++ ·)
  |none=>none
def waits (o:Oper) (i:Nat):Bool:=o.after.any fun e=>pZ .any e&&e.on==i
def Wb (ops:Array Oper) (bJ:Array Bool) (S:List Nat) (j:Nat):Bool:=!bJ.getD j true&&match ops[j]? with
 |some o=>o.after.any fun e=>pZ .any e&&S.contains e.on
 |none=>false
def Cs (ops:Array Oper) (bJ:Array Bool) (i:Nat):List Nat:=(cN ops.size).foldl (fun S j=>if Wb ops bJ S j then j::S else S) [i]
def agJ (ops:Array Oper) (j:Nat):List Nat:=
 (cN (j+1)).reverse.foldl (fun S k=>if S.contains k then(match ops[k]? with
  |some o=>o.after.toList.foldl (fun S e=>if pZ .any e&&!S.contains e.on then e.on::S else S) S
  |none=>S)else S) [j]
def yn (o:Oper):Bool:=match o.op with
 | .extract .. =>true
 | .move .. =>true
 |_=>false
def ldX (pl:bz) (o:Oper):Bool:=match o.op with
 | .load _ (.tmp x)=>(look pl.boxes x).isSome
 |_=>false
def Oi (o:Oper) (rb:List Nat):Bool:=match o.op with
 | .load _ (.tmp x)=>rb.contains x
 |_=>false
def adP (o:Oper):Bool:=match o.op with
 | .alloc _=>true
 |_=>false
def mG (pl:bz) (ops:Array Oper) (j:Nat):Bool:=
 match ops[j]? with
 |some oj=>(match oj.dst with|some d=>pl.mat.contains (1000000+d)|none=>false)||((cN ops.size).all fun i=>i==j||waits oj i||(match ops[i]? with
  |some oi=>waits oi j||yn oi||ldX pl oi||adP oi
  |none=>true))||(let B:=agJ ops j++Cs ops (jG ops.size false) j;(cN ops.size).all fun i=>B.contains i||(match ops[i]? with
  |some oi=>yn oi||ldX pl oi||adP oi
  |none=>true))
 |none=>false
def Ym (pl:bz) (ops:Array Oper):Nat→Operand→Option Nat
 |0,_=>none
 |n+1,.tmp t=>match look pl.boxes t with
  |some _=>some t
  |none=>match ops.find? (fun o=>o.dst==some t)with
   |some o=>(match o.op with
    | .fieldAddr _ x _=>Ym pl ops n x
    |_=>none)
   |none=>none
 |_+1,_=>none
def qL (pl:bz) (ops:Array Oper) (o:Oper):List Nat:=match o.op with
 | .store _ x _=>(Ym pl ops 6 x).toList
 |_=>[]
def Ii (pl:bz) (ops:Array Oper) (bJ:Array Bool) (i:Nat) (rb:List Nat):Bool:=
 match ops[i]? with
 |none=>false
 |some oi=>(match oi.dst with
   |some d=>(look pl.boxes d).isNone
   |none=>true)&&(cN ops.size).all fun j=>j==i||bJ.getD j true||match ops[j]? with
   |some oj=>waits oj i||(oi.apart ops oj&&(yn oi||Oi oi rb||!mG pl ops j)&&(qL pl ops oj).all fun b=>!rb.contains b)||(Cs ops bJ i).contains j
   |none=>true
def x4 (P:Program) (pl:bz) (ops:Array Oper) (cs:CS) (bJ:Array Bool):List Nat→Option (Nat×CR)
 |[]=>none
 |i::r=>match(ops[i]?).bind (xm P pl cs ops (mG pl ops i))with
  |some x=>if x.fl&&Ii pl ops bJ i x.rb then some (i,x)else x4 P pl ops cs bJ r
  |none=>x4 P pl ops cs bJ r
def D6 (P:Program) (pl:bz) (o:Oper):Option (Nat×Nat×Bool×Value):=match o.guard,o.op,o.dst with
 |none,.alloc t,some d=>match look pl.boxes d,(P.info? t).bind (·.zero),iZ P t with
  |some sz,some z,some (ag,s)=>if decide (d<pl.n)&&s==sz then some (d,sz,!ag&&s==1,z)else none
  |_,_,_=>none
 |_,_,_=>none
def vB:Nat×Nat×Bool×Value→TI
 |(d,sz,one,z)=>if one then .Cr d (.c z)else .box d sz (.c z)
def sA (cs:CS) (d:Nat):CS:=(cs.kill d).jQ [d]
def Wc (l:List Nat) (i:Nat):Bool:=match l with
 |[x]=>x==i
 |_=>false
def ab8 (P:Program) (pl:bz) (ops:Array Oper) (bJ:Array Bool) (i j:Nat):Option (Nat×Nat×Bool×Value):=
 match(ops[i]?).bind (D6 P pl),(ops[j]?).bind (D6 P pl)with
 |some bi,some bj=>if !(bi.1==bj.1)&&Wc (gg .any ops (bJ.setIfInBounds i true)) j&&Wc (gg .any ops (bJ.setIfInBounds j true)) i then some bi else none
 |_,_=>none
def sB (P:Program) (pl:bz) (ops:Array Oper):Nat→Array Bool→CS→Option (List TI)
 |0,bJ,_=>if(gg .any ops bJ).isEmpty then some [] else none
 |fuel+1,bJ,cs=>
  match x4 P pl ops cs bJ (gg .any ops bJ)with
  |some (i,x)=>(sB P pl ops fuel (bJ.setIfInBounds i true) x.cs).map (x.all++ ·)
  |none=>match gg .any ops bJ with
   |[i]=>match ops[i]? with
    |some o=>match xm P pl cs ops (mG pl ops i) o with
     |some x=>if x.sb.all fun b=>(qL pl ops o).contains b then(sB P pl ops fuel (bJ.setIfInBounds i true) x.cs).map (x.all++ ·)else none
     |none=>none
    |none=>none
   |[i,j]=>match ab8 P pl ops bJ i j with
    |some b=>(sB P pl ops fuel (bJ.setIfInBounds i true) (sA cs b.1)).map (vB b:: ·)
    |none=>none
   |_=>none
def MY:List Nat→(Nat→Option T)→Option T
 |[],_=>none
 |i::r,f=>match r with
  |[]=>f i
  |j::r=>match f i,MY (j::r) f with
   |some a,some b=>some (.alt a b)
   |_,_=>none
def yH (P:Program) (pl:bz) (ops:Array Oper):Nat→Array Bool→CS→Option T
 |0,bJ,_=>if(gg .any ops bJ).isEmpty then some .skip else none
 |fuel+1,bJ,cs=>
  match x4 P pl ops cs bJ (gg .any ops bJ)with
  |some (i,x)=>(yH P pl ops fuel (bJ.setIfInBounds i true) x.cs).map (.seq (.Og x.all) ·)
  |none=>MY (gg .any ops bJ) fun i=>match ops[i]? with
   |some o=>match xm P pl cs ops (mG pl ops i) o with
    |some x=>if x.sb.all fun b=>(qL pl ops o).contains b then(yH P pl ops fuel (bJ.setIfInBounds i true) x.cs).map (.seq (.Og x.all) ·)else none
    |none=>none
   |none=>none
def TI.Fa:TI→List Nat
 | .set d _=>[d]
 | .box b _ _=>[b]
 | .Cr b _=>[b]
 | .rd d _ _ _=>[d]
 | .zp d _ _ _ _=>d.toList
 | .QM _ _ d _=>[d]
 | .Yl _ _ d _ _ _=>[d]
 | .QN _ _ d _ _ _ _=>d.toList
 |_=>[]
def kU (l:List TI):List Nat:=l.flatMap TI.Fa
def TI.wr:TI→List Nat
 | .Ky _=>[]
 | .set d _=>[d]
 | .box b _ _=>[b]
 | .put b _ _ _=>[b]
 | .Cr b _=>[b]
 | .QL b _ _=>[b]
 | .fill b _ _=>[b]
 | .rd d _ _ _=>[d]
 | .zp d _ _ _ _=>d.toList
 | .QM _ _ d _=>[d]
 | .Yl _ _ d _ _ _=>[d]
 | .QN _ _ d _ _ _ _=>d.toList
def T.wr:T→List Nat
 | .Og l=>l.flatMap TI.wr
 | .seq a b=>a.wr++b.wr
 | .ite _ a b=>a.wr++b.wr
 | .alt a b=>a.wr++b.wr
 | .dK _ a=>a.wr
 | .loop M _ a=>M++a.wr
 |_=>[]
def T.mk:T→List Nat
 | .Og l=>kU l
 | .seq a b=>a.mk++b.mk
 | .ite _ a b=>a.mk++b.mk
 | .alt a b=>a.mk++b.mk
 | .dK _ a=>a.mk
 | .loop _ _ a=>a.mk
 |_=>[]
def py:List Nat→List Nat→List Nat
 |[],acc=>acc
 |x::r,acc=>py r (if acc.contains x then acc else x::acc)
def lj (P:Program) (pl:bz):Code→Option T
 | .skip=>some .skip
 | .region _ ops draw=>if draw then(if P.follows .mixedOrders&&qJ ops then(match sB P pl ops ops.size (jG ops.size false) .start with
  |some l=>some (.Og l)
  |none=>yH P pl ops ops.size (jG ops.size false) .start)else none)else(Kz P pl ops ops.toList .start).map .Og
 | .seq a b=>match lj P pl a,lj P pl b with
  |some x,some y=>some (match x,y with
   | .skip,y=>y
   |x,.skip=>x
   |x,y=>.seq x y)
  |_,_=>none
 | .cond c a b=>match valOf pl .start c,lj P pl a,lj P pl b with
  |some e,some x,some y=>some (.ite e x y)
  |_,_,_=>none
 | .block id a=>(lj P pl a).map (.dK id)
 | .loop a=>(lj P pl a).map fun x=>.loop (py x.wr []) ((py x.wr []).filter (Jx pl.car)) x
 | .exit id=>some (.exit id)
 | .ret=>some .ret
 |_=>none
def Cu (P:Program) (pl:bz):List ResultVar→Option (List Ex×List Nat)
 |[]=>some ([],[])
 | .tmp t::r=>if pl.kz t then(Cu P pl r).map fun (l,n)=>(.t t::l,n)else none
 | .cell a t::r=>match look pl.boxes a,iZ P t with
  |some bs,some (ag,sz)=>if decide (sz≤bs)&&(ag||sz==1)then(Cu P pl r).map fun (l,n)=>((if ag then .s a 0 sz else .k a 0)::l,a::n)else none
  |_,_=>none
structure FT where
 code:T
 res:List Ex
 live:List Nat
def cF (P:Program) (pl:bz) (fn:Func):Option FT:=
 if fn.ntmps==pl.n then
  match fn.body with
  |some c=>match lj P pl c,Cu P pl fn.results.toList with
   |some t,some (r,n)=>some ⟨t,r,n⟩
   |_,_=>none
  |none=>none
 else none
def aan (l:List Ex) (env:Env):Value:=match l with
 |[e]=>e.ev env
 |l=>.tuple (l.map (·.ev env)).toArray
def aao (ft:FT) (R:Ending→World→Prop):na
 | .normal,e,w,X| .ret,e,w,X=>aF (ft.live.all fun b=>cd (e b)) (∀wa,Kp X w wa→R (.returned (aan ft.res e)) wa)
 | .panic ch,_,w,X=> ∀wa,Kp X w wa→R (.panicked ch) wa
 |_,_,_,_=>False
def BQ (args:Array Value):Env:=fun i=>args.toList.getD i undef
section
variable {P : Program} {ops : Array Oper} {Q : Exit → Act → World → Prop}
def gi (k off:Nat):Value:=.pointer (some ⟨k,off,none⟩)
def ZB (pl:bz) (RB:List Nat) (a:Act):XS:=fun k=> ∃b n,look pl.boxes b=some n∧ ¬b∈RB∧a.tmps[b]? =some (gi k 0)
def YF (P:Program) (pl:bz) (RB:List Nat) (ops:Array Oper) (o:Oper) (v:Value) (a:Act) (w:World):Prop:=
 (dO o (yielded ops a.tmps)=true∧ ∀wa,Fr (ZB pl RB a) w wa→(execOp a.eval o).run P wa= .ok (.value v) wa)∨(dO o (yielded ops a.tmps)=false∧v=undef)
def nc (pl:bz) (sb:List Nat) (a:Act) (w:World) (a':Act) (w':World):Prop:=
 ∀RB,(∀b,b∈sb→ ¬b∈RB)→Fr (ZB pl RB a) w w'∧ ∀k,k<w.heap.size→ZB pl RB a' k→ZB pl RB a k
theorem YF.rel {pl:bz} {RB sb:List Nat} {o:Oper} {v:Value} {a a':Act} {w w':World} (h:YF P pl RB ops o v a w) (hx:nc pl sb a w a' w') (hd: ∀b,b∈sb→ ¬b∈RB)
  (he:execOp a'.eval o=execOp a.eval o) (hw:dO o (yielded ops a'.tmps)=dO o (yielded ops a.tmps)):YF P pl RB ops o v a' w':=by
 obtain⟨h1,h2⟩:=hx RB hd;unfold YF at*;rw [he,hw];refine h.imp (fun ⟨g1,g2⟩=>⟨g1,fun wa ha=>g2 wa ?_⟩) id;exact⟨ha.os.trans h1.os,ha.tape.trans h1.tape,ha.output.trans h1.output,af h1.size ha.size,
  fun k hk hz=>(ha.block k (aI hk h1.size) (fun AB=>hz (h2 k hk AB))).trans (h1.block k hk hz)⟩
def uq (pl:bz) (sb:List Nat) (a:Act) (w w':World):Prop:=
 ∀b n k,look pl.boxes b=some n→ ¬b∈sb→a.tmps[b]? =some (gi k 0)→w'.heap[k]? =w.heap[k]?
def uu (L:Prop) (pl:bz) (sb:List Nat) (a:Act) (w:World) (a':Act) (w':World):Prop:=(L→nc pl sb a w a' w')∧uq pl sb a w w'
def Yx (P:Program) (ops:Array Oper) (o:Oper) (v:Value) (a:Act) (w:World):Prop:=
 (dO o (yielded ops a.tmps)=true∧(execOp a.eval o).run P w= .ok (.value v) w)∨(dO o (yielded ops a.tmps)=false∧v=undef)
def YL (P:Program) (pl:bz) (x:Nat) (ops:Array Oper) (o:Oper) (v:Value) (a:Act) (w:World):Prop:=
 (dO o (yielded ops a.tmps)=true∧ ∃k n,look pl.boxes x=some n∧a.tmps[x]? =some (gi k 0)∧ ∀wa:World,wa.heap[k]? =w.heap[k]? →(execOp a.eval o).run P wa= .ok (.value v) wa)∨
  (dO o (yielded ops a.tmps)=false∧v=undef)
theorem YF.yx {pl:bz} {RB:List Nat} {o:Oper} {v:Value} {a:Act} {w:World} (h:YF P pl RB ops o v a w):Yx P ops o v a w:=h.imp (fun ⟨g1,g2⟩=>⟨g1,g2 w (Fr.refl _ w)⟩) id
theorem YL.yx {pl:bz} {x:Nat} {o:Oper} {v:Value} {a:Act} {w:World} (h:YL P pl x ops o v a w):Yx P ops o v a w:=h.imp (fun ⟨g1,_,_,_,_,g2⟩=>⟨g1,g2 w rfl⟩) id
def QS (pl:bz) (ops:Array Oper) (oi oj:Oper) (L:Prop) (sb:List Nat) (Y:Act→World→Prop):Prop:=
 ∀a a' w w',uu L pl sb a w a' w'→execOp a'.eval oi=execOp a.eval oi→dO oi (yielded ops a'.tmps)=dO oi (yielded ops a.tmps)→
  (∀x:Nat,(∀d,oj.dst=some d→d≠x)→a'.tmps[x]? =a.tmps[x]?)→Y a w→Y a' w'
theorem uq.refl (pl:bz) (sb:List Nat) (a:Act) (w:World):uq pl sb a w w:=fun _ _ _ _ _ _=>rfl
theorem uq.QT {pl:bz} {sb:List Nat} {a:Act} {w w':World} {d:Option Nat} {v:Value} (hd: ∀x,d=some x→look pl.boxes x=none) (h:uq pl sb (a.put d v) w w'):uq pl sb a w w':=by
 intro b n k hb hn hk;refine h b n k hb hn ?_;cases d with
 |none=>exact hk
 |some x=>
  have bW:x≠b:=fun e=>by subst e;rw [hd x rfl] at hb;cases hb
  simpa [ku,ji bW] using hk
theorem uq.sub {pl:bz} {sb Yn:List Nat} {a:Act} {w w':World} (h:uq pl sb a w w') (hs: ∀b,b∈sb→b∈Yn):uq pl Yn a w w':=
 fun b n k hb hn hk=>h b n k hb (fun hm=>hn (hs b hm)) hk
theorem Yx.wpOp {i:Nat} {o:Oper} {v:Value} {a:Act} {w:World} (hi:ops[i]? =some o) (hy:Yx P ops o v a w)
  {K:Act→World→Prop} (h:K (a.put o.dst v) w):wpOp P ops Q i K a w:=by
 unfold Go.wpOp;simp only [hi];rcases hy with⟨hw,hv⟩|⟨hw,rfl⟩
 ·simp only [hw,if_true,oQ,hv,kT];exact .inl h
 ·simp only [hw,bh,if_false];exact h
theorem QU {pl:bz} {RB:List Nat} {a:Act} {d:Option Nat} {v:Value} (hd: ∀x,d=some x→look pl.boxes x=none):ZB pl RB (a.put d v)=ZB pl RB a:=by
 cases d with
 |none=>rfl
 |some x=>
  have hx:=hd x rfl
  funext k
  simp only [ZB,eq_iff_iff];have key: ∀b n,look pl.boxes b=some n→(a.put (some x) v).tmps[b]? =a.tmps[b]? :=fun b n hb=>by
   have bW:x≠b:=fun e=>by subst e;rw [hx] at hb;cases hb
   simp [ku,ji bW]
  constructor<;>rintro⟨b,n,h1,h2,h3⟩<;>refine⟨b,n,h1,h2,?_⟩
  ·rwa [key b n h1] at h3
  ·rwa [key b n h1]
theorem nc.QT {pl:bz} {sb:List Nat} {a a':Act} {w w':World} {d:Option Nat} {v:Value} (hd: ∀x,d=some x→look pl.boxes x=none) (h:nc pl sb (a.put d v) w (a'.put d v) w'):nc pl sb a w a' w':=by
 intro RB Yo;have:=h RB Yo
 rwa [QU hd,QU hd] at this
theorem nc.refl (pl:bz) (sb:List Nat) (a:Act) (w:World) (d:Option Nat) (v:Value) (hd: ∀x,d=some x→look pl.boxes x=none):nc pl sb a w (a.put d v) w:=by
 intro RB _;rw [QU hd];exact⟨Fr.refl _ _,fun _ _ h=>h⟩
theorem Yp {o:Oper} (hp:yn o=true) {ρ:Operand→Value} {v:Value} {w wa:World} (h:(execOp ρ o).run P w= .ok (.value v) w):(execOp ρ o).run P wa= .ok (.value v) wa:=by
 unfold yn at hp;split at hp
 ·rename_i x i ho;simp only [execOp,ho] at h⊢;unfold Instr.extract at h⊢;split at h<;>simp_all
  all_goals (split at h<;>simp_all)
 ·rename_i x ho;simp only [execOp,ho] at h⊢;simp_all
 ·cases hp
theorem YF.pure {pl:bz} {RB:List Nat} {o:Oper} {v:Value} {a a':Act} {w w':World} (h:YF P pl RB ops o v a w) (hp:yn o=true)
  (he:execOp a'.eval o=execOp a.eval o) (hw:dO o (yielded ops a'.tmps)=dO o (yielded ops a.tmps)):YF P pl RB ops o v a' w':=by
 unfold YF at*;rw [he,hw];exact h.imp (fun ⟨g1,g2⟩=>⟨g1,fun wa _=>Yp hp (g2 w (Fr.refl _ _))⟩) id
def qu (P:Program) (pl:bz) (ops:Array Oper) (Q:Exit→Act→World→Prop):Nat→Array Bool→Act→World→Prop
 |0,bJ,a,w=>gg .any ops bJ=[]∧Q .normal a w
 |fuel+1,bJ,a,w=>
  (gg .any ops bJ=[]→Q .normal a w)∧
  ∀i∈gg .any ops bJ,wpOp P ops Q i (fun a' w'=>(∀o,ops[i]? =some o→uu (mG pl ops i=false) pl (qL pl ops o) a w a' w')∧qu P pl ops Q fuel (bJ.setIfInBounds i true) a' w') a w
theorem Lt {pl:bz} : ∀(fuel:Nat) (bJ:Array Bool) (a:Act) (w:World),qu P pl ops Q fuel bJ a w→wpAny P .any ops Q fuel bJ a w
 |0,_,_,_,h=>h
 |fuel+1,_,_,_,h=>⟨h.1,fun i hi=>wpOp_mono (fun a' w' h'=>Lt fuel _ a' w' h'.2) (h.2 i hi)⟩
theorem YF.Yq {pl:bz} {RB sb:List Nat} {oi oj:Oper} {v:Value} {L:Prop} (hL:L∨yn oi=true) (hd: ∀b,b∈sb→ ¬b∈RB):QS pl ops oi oj L sb (YF P pl RB ops oi v):=by
 intro a a' w w' hr e2 e3 _ hy;rcases hL with hl|hp
 ·exact hy.rel (hr.1 hl) hd e2 e3
 ·exact hy.pure hp e2 e3
theorem YL.Yq {pl:bz} {x:Nat} {sb:List Nat} {oi oj:Oper} {v:Value} {L:Prop} (hx: ∀d,oj.dst=some d→d≠x) (hd: ¬x∈sb):QS pl ops oi oj L sb (YL P pl x ops oi v):=by
 intro a a' w w' hr e2 e3 e4 hy;unfold YL at*;rw [e2,e3,e4 x hx];exact hy.imp (fun ⟨g1,k,n,g2,g3,g4⟩=>⟨g1,k,n,g2,g3,fun wa hw=>g4 wa (hw.trans (hr.2 x n k g2 hd g3))⟩) id
theorem Yr {pl:bz} {sb:List Nat} {L:Prop} {Y:Act→World→Prop} {j:Nat} {oi oj:Oper} {v:Value} (hj:ops[j]? =some oj) (GB:oi.apart ops oj=true)
  (hsi: ∀cs b,oi.op≠ .select cs b) (hsj: ∀cs b,oj.op≠ .select cs b) (U8: ∀x,oi.dst=some x→look pl.boxes x=none) (fV:QS pl ops oi oj L sb Y)
  (hQ: ∀c a w,Q (.panic c) (a.put oi.dst v) w→Q (.panic c) a w) {K:Act→World→Prop} {a:Act} {w:World}
  (hy:Y a w) (h:wpOp P ops Q j (fun a' w'=>uu L pl sb (a.put oi.dst v) w a' w'∧K a' w') (a.put oi.dst v) w):
  wpOp P ops Q j (fun a' w'=>uu L pl sb a w a' w'∧Y a' w'∧K (a'.put oi.dst v) w') a w:=by
 obtain⟨h1,h2,h3⟩:=qK GB;have fin: ∀(a0:Act) (w':World) (u:Value),a0.tmps=a.tmps→uu L pl sb (a.put oi.dst v) w ((a0.put oi.dst v).put oj.dst u) w'→K ((a0.put oi.dst v).put oj.dst u) w'→
   uu L pl sb a w (a0.put oj.dst u) w'∧Y (a0.put oj.dst u) w'∧K ((a0.put oj.dst u).put oi.dst v) w':=by
  intro a0 w' u h0 hr hk;rw [Act.put_comm a0 v u h2] at hr hk;have jm:uu L pl sb a w (a0.put oj.dst u) w':=⟨fun hl:L=>(hr.1 hl).QT U8,hr.2.QT U8⟩;have e1:execOp a0.eval oi=execOp a.eval oi:=by
   have:a0.eval=a.eval:=by funext x;cases x<;>simp [rX,h0]
   rw [this]
  have e2:=(execOp_put oi hsi a0 oj.dst u h3).trans e1;have e3:dO oi (yielded ops (a0.put oj.dst u).tmps)=dO oi (yielded ops a.tmps):=(wanted_put oi a0 oj.dst u h3).trans (by rw [h0]);refine⟨jm,fV a _ w w' jm e2 e3 (fun x hx=>?_) hy,hk⟩;cases hod:oj.dst with
  |none=>simp [ku,h0]
  |some d=>simp [ku,h0,ji (hx d hod)]
 unfold wpOp at*;simp only [hj] at*;rw [wanted_put oj a oi.dst v h1] at h;split
 ·rename_i hw;simp only [hw,if_true] at h;rcases h with h|⟨ab9,afP⟩;case inr=>exact .inr ⟨by unfold Oper.asks at*;rw [execOp_put oj hsj a oi.dst v h1] at ab9;exact ab9,afP⟩
  refine .inl ?_;unfold oQ at*;rw [execOp_put oj hsj a oi.dst v h1] at h;generalize (execOp a.eval oj).run P w=r at*;cases r with
  |ok n w'=>
   cases n<;>simp only [kT] at h⊢
   case value u=>exact fin a w' u rfl h.1 h.2
   case skip=>exact fin a w' undef rfl h.1 h.2
   case defer d=>
    have e:({ a.put oi.dst v with defers:=d::(a.put oi.dst v).defers } :Act)=({ a with defers:=d::a.defers } :Act).put oi.dst v:=Act.put_defers a oi.dst v d;rw [e] at h;exact fin { a with defers:=d::a.defers } w' undef rfl h.1 h.2
   case enter f args=>
    refine Calls.mono h fun e mN he=>?_;cases e with
    |returned u=>exact fin a mN u rfl he.1 he.2
    |panicked c=>exact hQ _ _ _ he
    |outgrown=>exact he
   case row row args=>exact Rows.mono h fun u mN he=>fin a mN u rfl he.1 he.2
  |halt x w'=>
   cases x<;>simp only [kT] at h⊢
   case panic u=>exact hQ _ _ _ h
 ·rename_i hw;simp only [hw] at h;exact fin a w undef rfl h.1 h.2
theorem Oj {o:Oper} {i:Nat} :waits o i=true↔ ∃e∈o.after,pZ .any e=true∧e.on=i:=by
 unfold waits;rw [s8];simp
theorem Ol {bJ:Array Bool} {i:Nat} : ∀j,j∈Cs ops bJ i→j=i∨(bJ.getD j true=false∧ ∃oj k,ops[j]? =some oj∧waits oj k=true∧k∈Cs ops bJ i):=by
 unfold Cs;have key: ∀(l:List Nat) (S:List Nat),(∀j,j∈S→j=i∨(bJ.getD j true=false∧ ∃oj k,ops[j]? =some oj∧waits oj k=true∧k∈S))→
   ∀j,j∈l.foldl (fun S j=>if Wb ops bJ S j then j::S else S) S→j=i∨(bJ.getD j true=false∧ ∃oj k,ops[j]? =some oj∧waits oj k=true∧k∈l.foldl (fun S j=>if Wb ops bJ S j then j::S else S) S):=by
  intro l
  induction l with
  |nil=>intro S hS j hj;exact hS j hj
  |cons x l ih=>
   intro S hS;rw [List.foldl_cons];refine ih _ ?_;split
   ·rename_i hc;simp only [Wb,aV,dH] at hc;obtain⟨h1,h2⟩:=hc;intro j hj;rcases List.mem_cons.1 hj with rfl|hj
    ·right;cases ho:ops[j]? with
     |none=>simp [ho] at h2
     |some o=>
      simp only [ho,s8,aV,rj] at h2;obtain⟨e,he,hb,hm⟩:=h2;exact⟨h1,o,e.on,rfl,Oj.2 ⟨e,he,hb,rfl⟩,bG _ hm⟩
    ·rcases hS j hj with h|⟨h,oj,k,h3,h4,h5⟩
     ·exact .inl h
     ·exact .inr ⟨h,oj,k,h3,h4,bG _ h5⟩
   ·exact hS
 exact key _ _ fun j hj=>.inl (by simpa using hj)
theorem GC {pl:bz} {Y:Act→World→Prop} {i:Nat} {oi:Oper} {v:Value} (U9: ∀a w,Y a w→Yx P ops oi v a w) (hi:ops[i]? =some oi) (zg: ∀(j:Nat) (o:Oper) cs b,ops[j]? =some o→o.op≠ .select cs b)
  (U8: ∀x,oi.dst=some x→look pl.boxes x=none) (hQ: ∀c a w,Q (.panic c) (a.put oi.dst v) w→Q (.panic c) a w):
  ∀(fuel:Nat) (bJ:Array Bool) (a:Act) (w:World) (S:Nat→Prop),S i→
   (∀j,S j→j=i∨(bJ.getD j true=false∧ ∃oj k,ops[j]? =some oj∧waits oj k=true∧S k))→
   (∀j oj,ops[j]? =some oj→j≠i→bJ.getD j true=false→ ¬S j→oi.apart ops oj=true∧QS pl ops oi oj (mG pl ops j=false) (qL pl ops oj) Y)→
   i∈gg .any ops bJ→Y a w→
   qu P pl ops Q fuel (bJ.setIfInBounds i true) (a.put oi.dst v) w→qu P pl ops Q (fuel+1) bJ a w:=by
 intro fuel
 induction fuel with
 |zero=>
  intro bJ a w S _ hS _ hr hy H;refine⟨fun h=>(by rw [h] at hr;cases hr),fun j hj=>?_⟩;by_cases vC:j=i
  ·subst vC;exact(U9 _ _ hy).wpOp hi ⟨fun _ _=>⟨fun _=>nc.refl pl _ a w _ _ U8,uq.refl _ _ _ _⟩,H⟩
  ·have:=ready_mono hj vC;rw [H.1] at this;cases this
 |succ fuel ih=>
  intro bJ a w S hSi hS aca hr hy H;refine⟨fun h=>(by rw [h] at hr;cases hr),fun j hj=>?_⟩;by_cases vC:j=i
  ·subst vC;exact(U9 _ _ hy).wpOp hi ⟨fun _ _=>⟨fun _=>nc.refl pl _ a w _ _ U8,uq.refl _ _ _ _⟩,H⟩
  ·have h1:=H.2 j (ready_mono hj vC);obtain⟨adQ,oj,AD,pz⟩:=mem_ready.1 hj;have adR: ¬S j:=by
    intro hjS;rcases hS j hjS with h|⟨_,oj',k,adS,hwt,hkS⟩
    ·exact vC h
    ·rw [AD] at adS;cases adS;obtain⟨e,he,hb,heq⟩:=Oj.1 hwt;have h1:=pz e he hb;rw [heq] at h1;have h0:bJ.getD k true=false:=by
      rcases hS k hkS with h|h
      ·subst h;exact(mem_ready.1 hr).1
      ·exact h.1
     rcases Nat.lt_or_ge k bJ.size with h'|h'
     ·simp [h'] at h0 h1;rw [h0] at h1;cases h1
     ·simp [mu h'] at h1
   obtain⟨GB,agK⟩:=aca j oj AD vC adQ adR;have QV:=wpOp_mono (K':=fun a' w'=>uu (mG pl ops j=false) pl (qL pl ops oj) (a.put oi.dst v) w a' w'∧qu P pl ops Q fuel ((bJ.setIfInBounds i true).setIfInBounds j true) a' w')
    (fun a' w' h'=>⟨h'.1 oj AD,h'.2⟩) h1
   have h2:=Yr AD GB (fun cs b=>zg i oi cs b hi) (fun cs b=>zg j oj cs b AD) U8 agK hQ hy QV;have adT: ∀k ok,ops[k]? =some ok→k≠i→(bJ.setIfInBounds j true).getD k true=false→ ¬S k→
     oi.apart ops ok=true∧QS pl ops oi ok (mG pl ops k=false) (qL pl ops ok) Y:=fun k ok hk hki BR s9=>by
    refine aca k ok hk hki ?_ s9;by_cases hjk:j=k
    ·subst hjk;exact adQ
    ·rw [getD_set_ne true hjk] at BR;exact BR
   have Va: ∀k,S k→k=i∨((bJ.setIfInBounds j true).getD k true=false∧ ∃oj k',ops[k]? =some oj∧waits oj k'=true∧S k'):=fun k hk=>by
    rcases hS k hk with h|⟨h,h2⟩
    ·exact .inl h
    ·exact .inr ⟨by rw [getD_set_ne true (fun e=>adR (by rw [e];exact hk))];exact h,h2⟩
   refine wpOp_mono (fun a' w' h3=>⟨fun o ho=>?_,ih (bJ.setIfInBounds j true) a' w' S hSi Va adT (ready_mono hr (Ne.symm vC)) h3.2.1 ?_⟩) h2
   ·rw [AD] at ho;injection ho with ho;subst ho;exact h3.1
   rw [px _ _ vC];exact h3.2.2
theorem On {pl:bz} {RB:List Nat} {i:Nat} {oi:Oper} {bJ:Array Bool} (hi:ops[i]? =some oi) (h:Ii pl ops bJ i RB=true): ∀x,oi.dst=some x→look pl.boxes x=none:=by
 simp only [Ii,hi,aV] at h;intro x hx;have:=h.1;rw [hx] at this;simpa using this
theorem Lu {pl:bz} {RB:List Nat} {i:Nat} {oi:Oper} {bJ:Array Bool} (hi:ops[i]? =some oi) (h:Ii pl ops bJ i RB=true) (j:Nat) (oj:Oper)
  (hj:ops[j]? =some oj) (bW:j≠i) (BR:bJ.getD j true=false) (s9: ¬j∈Cs ops bJ i) (hnw:waits oj i=false):
  oi.apart ops oj=true∧(mG pl ops j=false∨yn oi=true∨Oi oi RB=true)∧ ∀b,b∈qL pl ops oj→ ¬b∈RB:=by
 simp only [Ii,hi,aV,vy,List.mem_range] at h;have h1:=h.2 j (Array.getElem?_eq_some_iff.1 hj).1;simp only [hj,iM,beq_iff_eq,bW,false_or,BR,bh,hnw,aV,dH,vy,rj,s9,or_false] at h1;exact⟨h1.1.1,h1.1.2.elim (fun h=>.inr h) .inl,fun b hb=>by have:=h1.2 b hb;simpa using this⟩
end
def zq (env:Env):Option (Nat×Bool)→Prop
 |none=>True
 |some (g,want)=>ky (env g) want=true
structure Bk where
 ds:List Deferred
 pins:List (Nat×Value)
structure eP (pl:bz) (ds:Bk) (cs:CS) (env:Env) (X:XS) (w0:World) (a:Act) (w:World):Prop where
 size:a.tmps.size=pl.n
 defers:a.defers=ds.ds
 zr: ∀p,p∈ds.pins→a.tmps[p.1]? =some p.2∧((∃n k,look pl.boxes p.1=some n∧p.2=gi k 0)∨pl.kz p.1=true)
 ext:Kp X w0 w
 xp: ∀k,X k→k<w.heap.size
 rY: ∀s,pl.kz s=true→a.tmps[s]? =some (env s)
 sig: ∀p,p∈cs.sig→a.tmps[p.1]? =some (p.2.ev env)
 box: ∀b n,look pl.boxes b=some n→ ∀cells,env b= .agg cells→ ∃k ty,a.tmps[b]? =some (gi k 0)∧w.heap[k]? =some (.cells cells ty (0,0))∧cells.size=n∧ ¬X k
 inj: ∀b b' n n',look pl.boxes b=some n→look pl.boxes b'=some n'→cd (env b)=true→cd (env b')=true→ ∀k,a.tmps[b]? =some (gi k 0)→a.tmps[b']? =some (gi k 0)→b=b'
 conv: ∀b n,look pl.boxes b=some n→ ∀k,a.tmps[b]? =some (gi k 0)→cd (env b)=true
 live: ∀b,b∈cs.live→(∃n,look pl.boxes b=some n)∧cd (env b)=true
 ptr: ∀p,p∈cs.uo→(∃n,look pl.boxes p.b=some n)∧(zq env p.g→cd (env p.b)=true∧ ∃k,a.tmps[p.b]? =some (gi k 0)∧a.tmps[p.s]? =some (gi k p.off))
theorem sC (a:Act) (d:Nat) (v:Value) (s:Nat) (hd:d<a.tmps.size):(a.put (some d) v).tmps[s]? =if s=d then some v else a.tmps[s]? :=by
 simp only [ku,eS];by_cases h:s=d
 ·subst h;simp [hd]
 ·rw [if_neg (Ne.symm h),if_neg h]
theorem fP (a:Act) (d:Nat) (v:Value) (s:Nat) (h:s≠d):(a.put (some d) v).tmps[s]? =a.tmps[s]? :=by
 simp only [ku,eS];rw [if_neg (Ne.symm h)]
theorem jY (e:Env) (d:Nat) (v:Value):lE e d v d=v:=by simp [lE]
theorem ga (e:Env) {d s:Nat} (v:Value) (h:s≠d):lE e d v s=e s:=by
 have:(s==d)=false:=by simpa using h
 simp [lE,this]
theorem QW {e:Ex} {d:Nat} (h:e.QK d=false) (env:Env) (v:Value):e.ev (lE env d v)=e.ev env:=by
 cases e<;>simp only [Ex.QK,beq_eq_false_iff_ne,ne_eq] at h<;>simp [Ex.ev,ga,h]
theorem sD {v:Value} :cd v=true↔ ∃c,v= .agg c:=by
 cases v<;>simp [cd]
section
variable {P : Program} {pl : bz} {ds : Bk} {cs : CS} {env : Env} {X : XS} {w0 w : World} {a : Act}
theorem tD {s:Nat} (h:pl.kz s=true):s<pl.n∧look pl.boxes s=none∧pl.Oh.contains s=false:=by
 simp only [bz.kz,aV,decide_eq_true_eq,kY,dH] at h;exact⟨h.1.1.2,h.1.2,h.2⟩
theorem uf {s:Nat} (h:pl.kA s=true):s<pl.n∧look pl.boxes s=none∧pl.Oh.contains s=false:=by
 simp only [bz.kA,aV,decide_eq_true_eq,kY,dH] at h;exact⟨h.1.1,h.1.2,h.2⟩
theorem D7 {α:Type} {l:List (Nat×α)} {t:Nat} {e:α} (h:look l t=some e):(t,e)∈l:=by
 induction l with
 |nil=>cases h
 |cons p r ih=>
  obtain⟨s,x⟩:=p;simp only [look] at h;split at h
  ·rename_i hs;injection h with h
   subst hs h;exact di ..
  ·exact bG _ (ih h)
theorem eP.eval (h:eP pl ds cs env X w0 a w) {x:Operand} {e:Ex} (hv:valOf pl cs x=some e):a.eval x=e.ev env:=by
 cases x with
 |tmp t=>
  simp only [valOf] at hv;split at hv
  ·rename_i hg;injection hv with hv
   subst hv;simp [rX,h.rY t hg,Ex.ev]
  ·have:=h.sig _ (D7 hv);simp only at this;simp [rX,this]
 |const v=>simp only [valOf,ax] at hv;subst hv;rfl
 |global g=>simp only [valOf,ax] at hv;subst hv;rfl
 |func f=>simp only [valOf,ax] at hv;subst hv;rfl
theorem vD: ∀{l:List Operand} {ss:List (Nat×Ex)},subst pl cs l=some ss→
  (∀t e,look ss t=some e→valOf pl cs (.tmp t)=some e)∧(∀t,.tmp t∈l→look ss t=none→valOf pl cs (.tmp t)=some (.t t))
 |[],ss,h=>by
  simp only [subst,ax] at h;subst h;exact⟨fun t e h=>(by cases h),fun t h=>(by cases h)⟩
 |x::r,ss,h=>by
  cases x with
  |tmp t=>
   simp only [subst] at h;cases hv:valOf pl cs (.tmp t)with
   |none=>simp [hv] at h
   |some e=>
    cases hr:subst pl cs r with
    |none=>simp [hv,hr] at h
    |some ss'=>
     obtain⟨i1,i2⟩:=vD hr;simp only [hv,hr,ax] at h;have gen: ∀e',e=e'→ss=(t,e')::ss'→(∀u e,look ss u=some e→valOf pl cs (.tmp u)=some e)∧(∀u,.tmp u∈(.tmp t::r)→look ss u=none→valOf pl cs (.tmp u)=some (.t u)):=by
      intro e' he hs;subst hs;refine⟨fun u e2 hu=>?_,fun u hu hn=>?_⟩
      ·simp only [look] at hu;split at hu
       ·rename_i htu;injection hu with hu
        subst htu hu;rw [hv,he]
       ·exact i1 _ _ hu
      ·simp only [look] at hn;split at hn
       ·cases hn
       ·rename_i htu;rcases List.mem_cons.1 hu with h1|h1
        ·injection h1 with h1;exact absurd h1.symm htu
        ·exact i2 u h1 hn
     cases e with
     |t n=>
      simp only at h;split at h
      ·rename_i hnt;subst hnt h;refine⟨i1,fun u hu hn=>?_⟩;rcases List.mem_cons.1 hu with h1|h1
       ·injection h1 with h1;subst h1;exact hv
       ·exact i2 u h1 hn
      ·exact gen _ rfl h.symm
     |c v=>exact gen _ rfl h.symm
     |s b o n=>exact gen _ rfl h.symm
     |k b o=>exact gen _ rfl h.symm
  |const v=>
   obtain⟨i1,i2⟩:=vD (l:=r) (by simpa only [subst] using h);exact⟨i1,fun u hu hn=>(List.mem_cons.1 hu).elim (fun h1=>by cases h1) fun h1=>i2 u h1 hn⟩
  |global v=>
   obtain⟨i1,i2⟩:=vD (l:=r) (by simpa only [subst] using h);exact⟨i1,fun u hu hn=>(List.mem_cons.1 hu).elim (fun h1=>by cases h1) fun h1=>i2 u h1 hn⟩
  |func v=>
   obtain⟨i1,i2⟩:=vD (l:=r) (by simpa only [subst] using h);exact⟨i1,fun u hu hn=>(List.mem_cons.1 hu).elim (fun h1=>by cases h1) fun h1=>i2 u h1 hn⟩
theorem eP.GA (h:eP pl ds cs env X w0 a w) {l:List Operand} {ss:List (Nat×Ex)} (hs:subst pl cs l=some ss):
  ∀x,x∈l→a.eval x=bu.GA env ss x:=by
 obtain⟨i1,i2⟩:=vD hs;intro x hx;cases x with
 |tmp t=>
  simp only [bu.GA];cases hl:look ss t with
  |some e=>exact h.eval (i1 t e hl)
  |none=>exact h.eval (i2 t hx hl)
 |const v=>rfl
 |global g=>rfl
 |func f=>rfl
theorem Ys (ρ:Operand→Value) (o:Oper):execOp ρ o=execOp ρ (MW o.op o.type):=by
 cases o;rfl
theorem Wd {op:Op} (h:D5 op=true): ∀cs b,op≠ .select cs b:=by
 intro cs b e;subst e;cases h
theorem eP.exec (h:eP pl ds cs env X w0 a w) {o:Oper} {ss:List (Nat×Ex)} (hs:subst pl cs o.op.operands.toList=some ss) (hn:D5 o.op=true):
  execOp a.eval o=execOp (bu.GA env ss) (MW o.op o.type):=by
 rw [execOp_congr o (Wd hn) fun x hx=>h.GA hs x (by simpa using hx)];exact Ys _ _
theorem eP.step (h:eP pl ds cs env X w0 a w) {X':XS} {eK w':World} (hx:Kp X' eK w') (hX: ∀k,X' k→k<w'.heap.size)
  (hb: ∀k,k<w.heap.size→ ¬X k→w'.heap[k]? =w.heap[k]? ∧ ¬X' k):eP pl ds cs env X' eK a w' where
 size:=h.size
 defers:=h.defers
 zr:=h.zr
 ext:=hx
 xp:=hX
 rY:=h.rY
 sig:=h.sig
 box:=fun b n hn cells hc=>by
  obtain⟨k,ty,h1,h2,h3,h4⟩:=h.box b n hn cells hc;obtain⟨e1,e2⟩:=hb k (Array.getElem?_eq_some_iff.1 h2).1 h4;exact⟨k,ty,h1,e1.trans h2,h3,e2⟩
 inj:=h.inj
 conv:=h.conv
 live:=h.live
 ptr:=h.ptr
theorem eP.nV (h:eP pl ds cs env X w0 a w) {w':World} (hx:Ext w w'):eP pl ds cs env X w0 a w':=
 h.step (h.ext.trans (hx.kp h.xp)) (fun k hk=>aI (h.xp k hk) hx.size) fun _ hk hX=>⟨hx.block hk,hX⟩
theorem eP.Ij (h:eP pl ds cs env X w0 a w) {m:Bool} {w':World} (hs:Step m X w w'):eP pl ds cs env (grow X w w') w' a w':=
 h.step (Kp.refl _ _) (fun k hk=>hk.elim (fun hX=>aI (h.xp k hX) hs.fr.size) (·.2))
  fun k hk hX=>⟨hs.fr.block k hk hX,fun hg=>hg.elim hX fun hg=>by omega⟩
theorem pA {s d:Nat} {n:Nat} (hs:look pl.boxes s=some n) (hd:look pl.boxes d=none):s≠d:=by
 rintro rfl;rw [hs] at hd;cases hd
theorem eP.bind (h:eP pl ds cs env X w0 a w) {d:Nat} (hd:pl.kA d=true) (v:Value) (kV: ∀p,p∈ds.pins→p.1≠d):
  eP pl ds (cs.bind pl d) (lE env d v) X w0 (a.put (some d) v) w:=by
 obtain⟨cK,jU,lQ⟩:=uf hd;have fB:d<a.tmps.size:=by rw [h.size];exact cK
 have acb: ∀p,p∈(cs.kill d).sig→(a.put (some d) v).tmps[p.1]? =some (p.2.ev (lE env d v)):=by
  intro p hp;simp only [CS.kill,fE,aV,bne_iff_ne,ne_eq,dH] at hp;rw [fP _ _ _ _ hp.2.1,QW hp.2.2];exact h.sig p hp.1
 have aap: ∀p,p∈(cs.kill d).uo→(∃n,look pl.boxes p.b=some n)∧(zq (lE env d v) p.g→cd (lE env d v p.b)=true∧ ∃k,(a.put (some d) v).tmps[p.b]? =some (gi k 0)∧(a.put (some d) v).tmps[p.s]? =some (gi k p.off)):=by
  intro p hp;simp only [CS.kill,fE,aV,bne_iff_ne,ne_eq] at hp;obtain⟨Vb,⟨hb,hs⟩,hg⟩:=hp;obtain⟨e1,e2⟩:=h.ptr p Vb;refine⟨e1,fun GD=>?_⟩;have agL:zq env p.g:=by
   cases Yt:p.g with
   |none=>trivial
   |some x=>
    obtain⟨g,want⟩:=x;rw [Yt] at GD hg;simp only [zq] at GD⊢
    rwa [ga _ _ (by simpa using hg)] at GD
  obtain⟨e3,k,e4,e5⟩:=e2 agL;rw [ga _ _ hb,fP _ _ _ _ hb,fP _ _ _ _ hs];exact⟨e3,k,e4,e5⟩
 have aaq: ∀p,p∈(cs.bind pl d).sig→(a.put (some d) v).tmps[p.1]? =some (p.2.ev (lE env d v)):=by
  intro p hp;simp only [CS.bind] at hp;split at hp
  ·exact acb p hp
  ·rcases List.mem_cons.1 hp with rfl|hp
   ·simp [sC _ _ _ _ fB,Ex.ev,jY]
   ·exact acb p hp
 have hpt:(cs.bind pl d).uo=(cs.kill d).uo:=by simp only [CS.bind];split<;>rfl
 have hlv:(cs.bind pl d).live=cs.live:=by simp only [CS.bind];split<;>rfl
 exact {
  size:=by simp [ku,h.size]
  defers:=h.defers
  zr:=fun p hp=>⟨by rw [fP _ _ _ _ (kV p hp)];exact(h.zr p hp).1,(h.zr p hp).2⟩
  ext:=h.ext
  xp:=h.xp
  rY:=fun s hs=>by
   rw [sC _ _ _ _ fB];split
   ·rename_i e;subst e;rw [jY]
   ·rename_i e;rw [ga _ _ e];exact h.rY s hs
  sig:=aaq
  box:=fun b n hn cells hc=>by
   have mA:=pA hn jU;rw [ga _ _ mA] at hc;rw [fP _ _ _ _ mA];exact h.box b n hn cells hc
  inj:=fun b b' n n' hb fF h1 h2 k h3 h4=>by
   have mA:=pA hb jU;have D8:=pA fF jU;rw [ga _ _ mA] at h1;rw [ga _ _ D8] at h2;rw [fP _ _ _ _ mA] at h3;rw [fP _ _ _ _ D8] at h4;exact h.inj b b' n n' hb fF h1 h2 k h3 h4
  conv:=fun b n hb k hk=>by
   have mA:=pA hb jU;rw [fP _ _ _ _ mA] at hk;rw [ga _ _ mA];exact h.conv b n hb k hk
  live:=fun b hb=>by
   rw [hlv] at hb;obtain⟨⟨n,hn⟩,hl⟩:=h.live b hb;rw [ga _ _ (pA hn jU)];exact⟨⟨n,hn⟩,hl⟩
  ptr:=by rw [hpt];exact aap }
theorem eP.jQ (h:eP pl ds cs env X w0 a w) {nd:List Nat} (hn: ∀b,b∈nd→(∃n,look pl.boxes b=some n)∧cd (env b)=true):
  eP pl ds (cs.jQ nd) env X w0 a w:=
 { h with live:=fun b hb=>(List.mem_append.1 hb).elim (hn b) (h.live b) }
theorem eP.other (h:eP pl ds cs env X w0 a w) {d:Nat} (cK:d<pl.n) (jU:look pl.boxes d=none) (Lv:pl.kz d=false) (v:Value) {rn:CS}
  (aaq: ∀p,p∈rn.sig→(a.put (some d) v).tmps[p.1]? =some (p.2.ev env)) (hlv:rn.live=cs.live)
  (aap: ∀p,p∈rn.uo→(∃n,look pl.boxes p.b=some n)∧(zq env p.g→cd (env p.b)=true∧ ∃k,(a.put (some d) v).tmps[p.b]? =some (gi k 0)∧(a.put (some d) v).tmps[p.s]? =some (gi k p.off))):
  eP pl ds rn env X w0 (a.put (some d) v) w where
 size:=by simp [ku,h.size]
 defers:=h.defers
 zr:=fun p hp=>by
  obtain⟨h1,h2⟩:=h.zr p hp;refine⟨?_,h2⟩;have bW:p.1≠d:=fun e=>by
   rcases h2 with⟨n,_,hn,_⟩|hg
   ·rw [e,jU] at hn;cases hn
   ·rw [e,Lv] at hg;cases hg
  rw [fP _ _ _ _ bW];exact h1
 ext:=h.ext
 xp:=h.xp
 rY:=fun s hs=>by
  rw [fP _ _ _ _ (by rintro rfl;rw [hs] at Lv;cases Lv)];exact h.rY s hs
 sig:=aaq
 box:=fun b n hn cells hc=>by
  rw [fP _ _ _ _ (pA hn jU)];exact h.box b n hn cells hc
 inj:=fun b b' n n' hb fF h1 h2 k h3 h4=>by
  rw [fP _ _ _ _ (pA hb jU)] at h3;rw [fP _ _ _ _ (pA fF jU)] at h4;exact h.inj b b' n n' hb fF h1 h2 k h3 h4
 conv:=fun b n hb k hk=>by
  rw [fP _ _ _ _ (pA hb jU)] at hk;exact h.conv b n hb k hk
 live:=fun b hb=>h.live b (hlv▸hb)
 ptr:=aap
theorem eP.note (h:eP pl ds cs env X w0 a w) {d:Nat} (hd:pl.kA d=true) (Lv:pl.kz d=false) (e:Ex):
  eP pl ds (cs.note d e) env X w0 (a.put (some d) (e.ev env)) w:=by
 obtain⟨cK,jU,lQ⟩:=uf hd;have fB:d<a.tmps.size:=by rw [h.size];exact cK
 refine h.other cK jU Lv _ ?_ rfl ?_
 ·intro p hp;simp only [CS.note,js,fE,bne_iff_ne,ne_eq] at hp;rcases hp with rfl|⟨hp,bW⟩
  ·simp [sC _ _ _ _ fB]
  ·rw [fP _ _ _ _ bW];exact h.sig p hp
 ·intro p hp;simp only [CS.note,fE,bne_iff_ne,ne_eq] at hp;obtain⟨⟨n,hn⟩,e2⟩:=h.ptr p hp.1;refine⟨⟨n,hn⟩,fun hg=>?_⟩;obtain⟨e3,k,e4,e5⟩:=e2 hg;refine⟨e3,k,?_,?_⟩
  ·rw [fP _ _ _ _ (pA hn jU)];exact e4
  ·rw [fP _ _ _ _ hp.2];exact e5
theorem eP.nM (h:eP pl ds cs env X w0 a w) {d:Nat} (hd:pl.kA d=true) (e:Ex) {ik:List PanicEntry→Env→World→XS→Prop} {next:Env→World→XS→Prop}
  (hn:gH P ik next (bu.nM pl cs d e).1 env w0 X) (kV: ∀b,b∈kU (bu.nM pl cs d e).1→ ∀p,p∈ds.pins→p.1≠b): ∃dx,eP pl ds (bu.nM pl cs d e).2 dx X w0 (a.put (some d) (e.ev env)) w∧next dx w0 X:=by
 unfold bu.nM at hn kV⊢;split
 ·rename_i hg;rw [if_pos hg] at hn kV;exact⟨_,h.bind hd _ (kV d (by simp [kU,TI.Fa])),hn⟩
 ·rename_i hg;rw [if_neg hg] at hn;have Lv:pl.kz d=false:=by
   cases hx:pl.kz d with
   |false=>rfl
   |true=>simp [hx] at hg
  exact⟨env,h.note hd Lv e,hn⟩
theorem eP.derive (h:eP pl ds cs env X w0 a w) {d b off:Nat} {g:Option (Nat×Bool)} (cK:d<pl.n) (jU:look pl.boxes d=none) (D9:pl.Oh.contains d=true)
    (v:Value) (hb: ∃n,look pl.boxes b=some n) (hv:zq env g→cd (env b)=true∧ ∃k,a.tmps[b]? =some (gi k 0)∧v=gi k off)
 :
    eP pl ds (cs.jP d b off g) env X w0 (a.put (some d) v) w:=by
  have fB:d<a.tmps.size:=by rw [h.size];exact cK
  have Lv:pl.kz d=false:=by
    cases hx:pl.kz d with
    |false=>rfl
    |true=>have:=(tD hx).2.2;rw [D9] at this;cases this
  refine h.other cK jU Lv _ ?_ rfl ?_
  · intro p hp
    simp only [CS.jP,fE,bne_iff_ne,ne_eq] at hp;rw [fP _ _ _ _ hp.2];exact h.sig p hp.1
  · intro p hp
    rcases List.mem_cons.1 hp with rfl|hp
    · obtain⟨n,hn⟩:=hb
      refine⟨⟨n,hn⟩,fun hg=>?_⟩;obtain⟨e1,k,e2,e3⟩:=hv hg;refine⟨e1,k,?_,?_⟩
      · rw [fP _ _ _ _ (pA hn jU)];exact e2
      · simp [sC _ _ _ _ fB,e3]
    · simp only [fE,bne_iff_ne,ne_eq] at hp
      obtain⟨⟨n,hn⟩,e2⟩:=h.ptr p hp.1;refine⟨⟨n,hn⟩,fun hg=>?_⟩;obtain⟨e3,k,e4,e5⟩:=e2 hg;refine⟨e3,k,?_,?_⟩
      · rw [fP _ _ _ _ (pA hn jU)];exact e4
      · rw [fP _ _ _ _ hp.2];exact e5
theorem aar {d:Nat} {p:Nat×Ex} (hp:p∈(cs.kill d).sig):p∈cs.sig∧p.1≠d∧p.2.QK d=false:=by
 simpa [CS.kill,fE] using hp
theorem aas {d:Nat} {p:Ptr} (hp:p∈(cs.kill d).uo):p∈cs.uo∧p.b≠d∧p.s≠d∧(∀v,zq (lE env d v) p.g→zq env p.g):=by
 simp only [CS.kill,fE,aV,bne_iff_ne,ne_eq] at hp;obtain⟨Vb,⟨hb,hs⟩,hg⟩:=hp;refine⟨Vb,hb,hs,fun v GD=>?_⟩;cases Yt:p.g with
 |none=>trivial
 |some x=>
  obtain⟨g,want⟩:=x;rw [Yt] at GD hg;simp only [zq] at GD⊢
  rwa [ga _ _ (by simpa using hg)] at GD
theorem eP.Yu (h:eP pl ds cs env X w0 a w) {d sz:Nat} (cK:d<pl.n) (hb:look pl.boxes d=some sz) (cells:Array Value) (fB:cells.size=sz) (ty:TypeId) (kV: ∀p,p∈ds.pins→p.1≠d):
  eP pl ds ((cs.kill d).jQ [d]) (lE env d (.agg cells)) X w0 (a.put (some d) (gi w.heap.size 0)) (w.alloc (.cells cells ty)):=by
 have hd:d<a.tmps.size:=by rw [h.size];exact cK
 have hg:=h.nV (Ext.alloc w (.cells cells ty));have fresh: ∀b n c,look pl.boxes b=some n→env b= .agg c→a.tmps[b]? ≠some (gi w.heap.size 0):=by
  intro b n c hn hc e;obtain⟨k,ty',h1,h2,_,_⟩:=h.box b n hn c hc;rw [h1] at e;have hk:k=w.heap.size:=by simpa [gi] using e
  subst hk;rw [mu (bK _)] at h2;cases h2
 exact {
  size:=by simp [ku,h.size]
  defers:=h.defers
  zr:=fun p hp=>⟨by rw [fP _ _ _ _ (kV p hp)];exact(h.zr p hp).1,(h.zr p hp).2⟩
  ext:=hg.ext
  xp:=hg.xp
  rY:=fun s hs=>by
   have bW:s≠d:=fun e=>by subst e;have:=(tD hs).2.1;rw [hb] at this;cases this
   rw [fP _ _ _ _ bW,ga _ _ bW];exact h.rY s hs
  sig:=fun p hp=>by
   obtain⟨h1,h2,h3⟩:=aar hp;rw [fP _ _ _ _ h2,QW h3];exact h.sig p h1
  box:=fun b n hn c hc=>by
   by_cases mA:b=d
   ·subst mA;rw [jY] at hc;injection hc with hc
    subst hc;rw [hb] at hn;injection hn with hn
    refine⟨w.heap.size,ty,by simp [sC _ _ _ _ hd],heap_alloc_new w _,by omega,fun hX=>?_⟩;exact absurd (h.xp _ hX) zQ
   ·rw [ga _ _ mA] at hc;rw [fP _ _ _ _ mA];exact hg.box b n hn c hc
  inj:=fun b b' n n' hn j3 h1 h2 k h3 h4=>by
   obtain⟨c,hc⟩:=sD.1 h1;obtain⟨c',C7⟩:=sD.1 h2;by_cases mA:b=d<;>by_cases D8:b'=d
   ·rw [mA,D8]
   ·subst mA;rw [sC _ _ _ _ hd,if_pos rfl] at h3;rw [fP _ _ _ _ D8] at h4;rw [ga _ _ D8] at C7;rw [←h3] at h4;exact absurd h4 (fresh b' n' c' j3 C7)
   ·subst D8;rw [sC _ _ _ _ hd,if_pos rfl] at h4;rw [fP _ _ _ _ mA] at h3;rw [ga _ _ mA] at hc;rw [←h4] at h3;exact absurd h3 (fresh b n c hn hc)
   ·rw [ga _ _ mA] at h1;rw [ga _ _ D8] at h2;rw [fP _ _ _ _ mA] at h3;rw [fP _ _ _ _ D8] at h4;exact h.inj b b' n n' hn j3 h1 h2 k h3 h4
  conv:=fun b n hn k hk=>by
   by_cases mA:b=d
   ·subst mA;rw [jY];rfl
   ·rw [fP _ _ _ _ mA] at hk;rw [ga _ _ mA];exact h.conv b n hn k hk
  live:=fun b fF=>by
   simp only [CS.jQ,qa,fg,js] at fF;rcases fF with rfl|fF
   ·exact⟨⟨sz,hb⟩,by rw [jY];rfl⟩
   ·obtain⟨e1,e2⟩:=h.live b fF;refine⟨e1,?_⟩;by_cases mA:b=d
    ·subst mA;rw [jY];rfl
    ·rw [ga _ _ mA];exact e2
  ptr:=fun p hp=>by
   obtain⟨h1,h2,h3,h4⟩:=aas (env:=env) hp;obtain⟨e1,e2⟩:=h.ptr p h1;refine⟨e1,fun GD=>?_⟩;obtain⟨e3,k,e4,e5⟩:=e2 (h4 _ GD);rw [ga _ _ h2,fP _ _ _ _ h2,fP _ _ _ _ h3];exact⟨e3,k,e4,e5⟩ }
theorem eP.store (h:eP pl ds cs env X w0 a w) {b n k:Nat} {ty:TypeId} {cells tE:Array Value} (hb:look pl.boxes b=some n) (hc:env b= .agg cells)
  (ht:a.tmps[b]? =some (gi k 0)) (hk:w.heap[k]? =some (.cells cells ty (0,0))) (hX: ¬X k) (fB:tE.size=n) {w':World} (hw:Fr (· =k) w w') (ah:w'.heap[k]? =some (.cells tE ty (0,0))):
  eP pl ds (cs.Ih b) (lE env b (.agg tE)) X w0 a w':=by
 have hA:cd (env b)=true:=by rw [hc];rfl
 exact {
  size:=h.size
  defers:=h.defers
  zr:=h.zr
  ext:=h.ext.trans (hw.kp fun j hj=>⟨h.xp j hj,fun e=>by subst e;exact hX hj⟩)
  xp:=fun j hj=>aI (h.xp j hj) hw.size
  rY:=fun s hs=>by
   have bW:s≠b:=fun e=>by subst e;have:=(tD hs).2.1;rw [hb] at this;cases this
   rw [ga _ _ bW];exact h.rY s hs
  sig:=fun p hp=>by
   simp only [CS.Ih,fE,dH] at hp;rw [QW hp.2];exact h.sig p hp.1
  box:=fun b' n' j3 c C7=>by
   by_cases mA:b'=b
   ·subst mA;rw [jY] at C7;injection C7 with C7
    subst C7;rw [hb] at j3;injection j3 with j3
    exact⟨k,ty,ht,ah,by omega,hX⟩
   ·rw [ga _ _ mA] at C7;obtain⟨k2,ty2,h1,h2,h3,h4⟩:=h.box b' n' j3 c C7;have xq:k2≠k:=fun e=>by
     subst e;exact mA (h.inj b' b n' n j3 hb (by rw [C7];rfl) hA k2 h1 ht)
    exact⟨k2,ty2,h1,(hw.block k2 (Array.getElem?_eq_some_iff.1 h2).1 xq).trans h2,h3,h4⟩
  inj:=fun b1 b2 n1 n2 hn1 hn2 h1 h2 j h3 h4=>by
   have f: ∀b',cd (lE env b (.agg tE) b')=true→cd (env b')=true:=fun b' hh=>by
    by_cases e:b'=b
    ·subst e;exact hA
    ·rwa [ga _ _ e] at hh
   exact h.inj b1 b2 n1 n2 hn1 hn2 (f b1 h1) (f b2 h2) j h3 h4
  conv:=fun b' n' j3 j hj=>by
   by_cases e:b'=b
   ·subst e;rw [jY];rfl
   ·rw [ga _ _ e];exact h.conv b' n' j3 j hj
  live:=fun b' fF=>by
   obtain⟨e1,e2⟩:=h.live b' fF;refine⟨e1,?_⟩;by_cases e:b'=b
   ·subst e;rw [jY];rfl
   ·rwa [ga _ _ e]
  ptr:=fun p hp=>by
   obtain⟨e1,e2⟩:=h.ptr p hp;refine⟨e1,fun hg=>?_⟩;have gl:zq env p.g:=by
    cases Yt:p.g with
    |none=>trivial
    |some x=>
     obtain⟨g,want⟩:=x;rw [Yt] at hg;simp only [zq] at hg⊢;by_cases e:g=b
     ·subst e;rw [jY] at hg;cases hg
     ·rwa [ga _ _ e] at hg
   obtain⟨e3,k2,e4,e5⟩:=e2 gl;refine⟨?_,k2,e4,e5⟩;by_cases e:p.b=b
   ·rw [e,jY];rfl
   ·rwa [ga _ _ e] }
end
section
variable {P : Program}
theorem uv (k o n:Nat):(⟨k,o,none⟩:Addr).add n=⟨k,o+n,none⟩:=by
 unfold Addr.add;split<;>simp_all
theorem Jy {S f fo sz:Nat} (h:fieldInfo P S f=some (fo,sz)) (hz:sz≠0) (k off:Nat) (w:World):
  (Instr.fieldAt S (gi k off) f).run P w= .ok (gi k (off+fo)) w:=by
 unfold fieldInfo at h;split at h
 ·rename_i fs hu;cases hf:fs[f]? with
  |none=>simp [hf] at h
  |some x=>
   cases hi:P.info? x.type with
   |none=>simp [hf,hi] at h
   |some i=>
    simp only [hf,hi,cJ,bH,ax,dr] at h;obtain⟨h1,h2⟩:=h;subst h1 h2;simp [Instr.fieldAt,run_underlying hu,hf,iY,gi,fieldPlace,sizeOf,typeInfo,hi,hz,uv]
 ·cases h
theorem Fb {w:World} {k:Nat} {cells:Array Value} {ty:TypeId} (h:w.heap[k]? =some (.cells cells ty (0,0))) (i:Nat):w.cell? ⟨k,i,none⟩=cells[i]? :=by
 simp [World.cell?,h]
theorem Lw {t:Nat} {ag:Bool} {sz:Nat} (h:iZ P t=some (ag,sz)) (Yv:(ag||sz==1)=true) {w:World} {k:Nat} {cells:Array Value} {ty:TypeId}
  (hk:w.heap[k]? =some (.cells cells ty (0,0))) (off:Nat) (hl:off+sz≤cells.size):
  (gP t (gi k off)).run P w= .ok (if ag then b7 (.agg cells) off sz else cellOf (.agg cells) off) w:=by
 unfold iZ at h;split at h
 ·rename_i d i hu hi;simp only [ax,dr] at h;obtain⟨h1,h2⟩:=h;subst h2;have x5:(isAgg t).run P w= .ok ag w:=by
   subst h1;cases d<;>simp [isAgg,run_underlying hu]
  cases ag with
  |true=>
   have hc: ∀j v,((cells.toList.drop off).take i.size)[j]? =some v→w.cell? ((⟨k,off,none⟩:Addr).add j)=some v:=by
    intro j v hj;rw [uv,Fb hk];rw [List.getElem?_take] at hj;split at hj
    ·rw [List.getElem?_drop] at hj;simpa using hj
    ·cases hj
   have hlen:((cells.toList.drop off).take i.size).length=i.size:=by
    simp;omega
   have hr:=run_loadCells_list (P:=P) w ⟨k,off,none⟩ _ hc;rw [hlen] at hr;simp [gP,iY,gi,loadVar,x5,sizeOf,typeInfo,hi,hr,b7,Value.cells]
  |false=>
   simp only [Bool.false_or,beq_iff_eq] at Yv;have cK:off<cells.size:=by omega
   have hc:w.cell? ⟨k,off,none⟩=some cells[off]:=by rw [Fb hk];simp [cK]
   simp [gP,iY,gi,loadVar,x5,hc,cellOf,Value.cells,cK]
 ·cases h
theorem AE (v:Value):one v=v.oneCell':=by cases v<;>rfl
theorem uM {v:Value} (h:one v=true):v.cells= #[v]:=by cases v<;>first|rfl|cases h
theorem Ua {t:Nat} {ag:Bool} {sz:Nat} (h:iZ P t=some (ag,sz)):(P.info? t).map (·.size)=some sz:=by
 unfold iZ at h;split at h
 ·rename_i d i hu hi;simp only [ax,dr] at h;simp [hi,h.2]
 ·cases h
theorem Jz {t sz:Nat} (h:(P.info? t).map (·.size)=some sz) {w:World} {k:Nat} {cells:Array Value} {ty:TypeId}
  (hk:w.heap[k]? =some (.cells cells ty (0,0))) (off:Nat) (hl:off+sz≤cells.size) (v:Value) (hv:v.cells.size=sz) (h1:v.cells.toList.all one=true):
  (Instr.storeAt t (gi k off) v).run P w= .ok () (w.setRow k (cz cells.toList off v.cells.toList).toArray):=by
 cases hi:P.info? t with
 |none=>simp [hi] at h
 |some i=>
  simp only [hi,bH,ax] at h;have fV:=run_storeCells_at P k off ty v.cells.toList 0 cells w hk (by simpa [hv] using hl) (fun x hx=>by
   have:=List.all_eq_true.1 h1 x hx
   rwa [AE] at this)
  simp only [Nat.add_zero] at fV;simp [Instr.storeAt,iY,gi,storeVar,sizeOf,typeInfo,hi,h,hv,fV,cz]
end
theorem Yw {w:World} {k:Nat} {cells tE:Array Value} {ty:TypeId} (hk:w.heap[k]? =some (.cells cells ty (0,0))):
  Fr (· =k) w (w.setRow k tE)∧(w.setRow k tE).heap[k]? =some (.cells tE ty (0,0)):=by
 refine⟨⟨rfl,rfl,rfl,by simp [World.setRow],fun j _ hj=>?_⟩,setRow_heap w k cells tE ty (0,0) hk⟩;simp only [World.setRow,Array.getElem?_modify];rw [if_neg (fun e=>hj e.symm)]
theorem aat {l vs:List Value} {off:Nat} (h:off+vs.length≤l.length):(cz l off vs).length=l.length:=by
 simp [cz];omega
section
variable {P : Program} {pl : bz} {ds : Bk} {cs : CS} {env : Env} {X : XS} {w0 w : World} {a : Act}
theorem GF {og:Option (Nat×Bool)} : ∀{l:List Ptr} {t b off:Nat},C6 og l t=some (b,off)→ ∃p,p∈l∧p.s=t∧p.b=b∧p.off=off∧(p.g=none∨p.g=og)
 |[],_,_,_,h=>by cases h
 |p::r,t,b,off,h=>by
  simp only [C6] at h;split at h
  ·rename_i hs;split at h
   ·rename_i hg;simp only [ax,dr] at h;refine⟨p,di ..,hs,h.1,h.2,?_⟩;simpa using hg
   ·cases h
  ·obtain⟨q,h1,h2⟩:=GF h;exact⟨q,bG _ h1,h2⟩
theorem eP.rm (h:eP pl ds cs env X w0 a w) {og:Option (Nat×Bool)} {x:Operand} {b off:Nat} {nd:List Nat} (hp:bu.rm pl cs og x=some (b,off,nd)):
  (∃n,look pl.boxes b=some n)∧(∀b',b'∈nd→ ∃n,look pl.boxes b'=some n)∧
  ((∀b',b'∈nd→cd (env b')=true)→zq env og→cd (env b)=true∧ ∃k,a.eval x=gi k off∧a.tmps[b]? =some (gi k 0)):=by
 cases x with
 |tmp t=>
  simp only [bu.rm] at hp;split at hp
  ·rename_i n hn;simp only [ax,dr] at hp;obtain⟨rfl,rfl,lQ⟩:=hp;refine⟨⟨n,hn⟩,fun b' fF=>?_,fun hl _=>?_⟩
   ·split at lQ<;>subst lQ
    ·cases fF
    ·rcases List.mem_singleton.1 fF with rfl;exact⟨n,hn⟩
   ·have hA:cd (env t)=true:=by
     split at lQ
     ·rename_i hc;exact(h.live t (by simpa using hc)).2
     ·subst lQ;exact hl t (List.mem_singleton.2 rfl)
    obtain⟨c,hc⟩:=sD.1 hA;obtain⟨k,ty,h1,_⟩:=h.box t n hn c hc;exact⟨hA,k,by simp [rX,h1],h1⟩
  ·split at hp
   ·cases hf:C6 og cs.uo t with
    |none=>simp [hf] at hp
    |some q=>
     obtain⟨b',aix⟩:=q;simp only [hf,bH,ax,dr] at hp;obtain⟨rfl,rfl,rfl⟩:=hp;obtain⟨p,hp,hs,hb,ho,hg⟩:=GF hf;obtain⟨e1,e2⟩:=h.ptr p hp;subst hs hb ho;refine⟨e1,fun _ fF=>(by cases fF),fun _ GD=>?_⟩;obtain⟨e3,k,e4,e5⟩:=e2 (hg.elim (fun hg=>by simp [hg,zq]) (fun hg=>by rw [hg];exact GD));exact⟨e3,k,by simp [rX,e5],e4⟩
   ·cases hp
 |const v=>cases hp
 |global g=>cases hp
 |func f=>cases hp
theorem GG {ik:List PanicEntry→Env→World→XS→Prop} {next:Env→World→XS→Prop} : ∀(nd:List Nat) {l:List TI},
  gH P ik next (nd.map .Ky++l) env w X→(∀b,b∈nd→cd (env b)=true)∧gH P ik next l env w X
 |[],_,h=>⟨fun _ hb=>(by cases hb),h⟩
 |b::nd,l,h=>by
  obtain⟨h1,h2⟩:cd (env b)=true∧gH P ik next (nd.map .Ky++l) env w X:=by simpa only [List.map_cons,qa,gH,QO,eQ] using h
  obtain⟨h3,h4⟩:=GG nd h2;refine⟨fun b' fF=>?_,h4⟩;rcases List.mem_cons.1 fF with rfl|fF
  ·exact h1
  ·exact h3 b' fF
theorem yp {ik:List PanicEntry→Env→World→XS→Prop} {next:Env→World→XS→Prop} : ∀(l l':List TI),gH P ik next (l++l')=gH P ik (gH P ik next l') l
 |[],_=>rfl
 |i::l,l'=>by
  funext env w X
  simp only [qa,gH,yp l l']
inductive Shape (P:Program) (pl:bz) (cs:CS) (og:Option (Nat×Bool)) (m:Bool) (o:Oper):CR→Prop
 |mv (x:Operand) (d:Nat) (e:Ex) (ho:o.op= .move x∨o.op= .assign x) (hd:o.dst=some d) (hv:valOf pl cs x=some e) (hp:pl.kA d=true):
   Shape P pl cs og m o ⟨true,[],(nM pl cs d e).1,(nM pl cs d e).2,[],[]⟩
 |ld (t:TypeId) (x:Operand) (d b off:Nat) (nd:List Nat) (ag:Bool) (sz bs:Nat) (ho:o.op= .load t x) (hd:o.dst=some d) (hx:bu.rm pl cs og x=some (b,off,nd))
   (ht:iZ P t=some (ag,sz)) (hb:look pl.boxes b=some bs) (hp:pl.kA d=true) (hl:off+sz≤bs) (ha:(ag||sz==1)=true):
   Shape P pl cs og m o ⟨true,nd,(nM pl (cs.jQ nd) d (if ag then .s b off sz else .k b off)).1,(nM pl (cs.jQ nd) d (if ag then .s b off sz else .k b off)).2,[b],[]⟩
 |fa (S:TypeId) (x:Operand) (f d b off:Nat) (nd:List Nat) (fo sz:Nat) (ho:o.op= .fieldAddr S x f) (hd:o.dst=some d) (hx:bu.rm pl cs og x=some (b,off,nd))
   (hf:fieldInfo P S f=some (fo,sz)) (D9:pl.Oh.contains d=true) (cK:d<pl.n) (jU:look pl.boxes d=none) (hz:sz≠0):
   Shape P pl cs og m o ⟨true,nd,[],(cs.jQ nd).jP d b (off+fo) og,[],[]⟩
 |rd (d:Nat) (ss:List (Nat×Ex)) (hd:o.dst=some d) (hs:subst pl cs o.op.operands.toList=some ss) (hn:D5 o.op=true) (hp:pl.kA d=true):
   Shape P pl cs og m o ⟨true,[],[.rd d o.op o.type ss],cs.bind pl d,[],[]⟩
 |zp (d:Nat) (ss:List (Nat×Ex)) (hd:o.dst=some d) (hs:subst pl cs o.op.operands.toList=some ss) (hn:D5 o.op=true) (hp:pl.kA d=true):
   Shape P pl cs og m o ⟨false,[],[.zp (some d) o.op o.type ss m],cs.bind pl d,[],[]⟩
 |act (ss:List (Nat×Ex)) (hd:o.dst=none) (hs:subst pl cs o.op.operands.toList=some ss) (hn:D5 o.op=true):
   Shape P pl cs og m o ⟨false,[],[.zp none o.op o.type ss m],cs,[],[]⟩
 |bx (t:TypeId) (x:Operand) (d sz:Nat) (e:Ex) (ag:Bool) (ho:o.op= .box t x) (hd:o.dst=some d) (hb:look pl.boxes d=some sz) (hv:valOf pl cs x=some e) (ht:iZ P t=some (ag,sz)) (cK:d<pl.n):
   Shape P pl cs og m o ⟨false,[],[if !ag&&sz==1 then .Cr d e else .box d sz e],(cs.kill d).jQ [d],[],[]⟩
 |al (t:TypeId) (d sz:Nat) (i:TypeInfo) (z:Value) (ag:Bool) (ho:o.op= .alloc t) (hd:o.dst=some d) (hb:look pl.boxes d=some sz) (hi:P.info? t=some i) (hz:i.zero=some z) (ht:iZ P t=some (ag,sz)) (cK:d<pl.n):
   Shape P pl cs og m o ⟨false,[],[if !ag&&sz==1 then .Cr d (.c z)else .box d sz (.c z)],(cs.kill d).jQ [d],[],[]⟩
 |st (t:TypeId) (x v:Operand) (b off:Nat) (nd:List Nat) (sz bs:Nat) (e:Ex) (ag:Bool) (ho:o.op= .store t x v) (hd:o.dst=none) (hx:bu.rm pl cs og x=some (b,off,nd))
   (hv:valOf pl cs v=some e) (ht:iZ P t=some (ag,sz)) (hb:look pl.boxes b=some bs) (hl:off+sz≤bs):
   Shape P pl cs og m o ⟨false,nd,[if !ag&&sz==1 then .QL b off e else if off==0&&sz==bs then .fill b sz e else .put b off sz e],(cs.jQ nd).Ih b,[],[b]⟩
theorem sE {m:Bool} {og:Option (Nat×Bool)} {o:Oper} {r:CR} (h:BP P pl cs m o=some r):Shape P pl cs og m o r:=by
 unfold BP at h;split at h
 ·cases h
 ·rename_i ss hs;split at h
  ·cases h
  ·rename_i hn;simp only [dH,uL] at hn;split at h
   ·rename_i d hd;split at h
    ·cases h
    ·rename_i hp;simp only [dH,uL] at hp;split at h<;>injection h with h<;>subst h
     ·exact .rd d ss hd hs hn hp
     ·exact .zp d ss hd hs hn hp
   ·rename_i hd;injection h with h
    subst h;exact .act ss hd hs hn
theorem Oo {m:Bool} {og:Option (Nat×Bool)} {o:Oper} {r:CR} {sz d t:Nat} {e:Ex} (h:QR P pl cs sz t e d=some r)
  (k: ∀ag,d<pl.n→iZ P t=some (ag,sz)→Shape P pl cs og m o ⟨false,[],[if !ag&&sz==1 then .Cr d e else .box d sz e],(cs.kill d).jQ [d],[],[]⟩):Shape P pl cs og m o r:=by
 unfold QR at h;split at h
 ·rename_i ag s ht;split at h
  ·rename_i hc;simp only [aV,decide_eq_true_eq,beq_iff_eq] at hc;obtain⟨h1,h2⟩:=hc;subst h2;injection h with h
   subst h;exact k ag h1 ht
  ·cases h
 ·cases h
theorem oR {m:Bool} {og:Option (Nat×Bool)} {o:Oper} {r:CR} (h:Ac P pl cs og m o=some r):Shape P pl cs og m o r:=by
 unfold Ac at h;split at h;case h_1 x ho=>
  split at h
  ·rename_i d e hd hv;split at h
   ·rename_i hp;injection h with h
    subst h;exact .mv x d e (.inl ho) hd hv hp
   ·cases h
  ·cases h
 case h_2 x ho=>
  split at h
  ·rename_i d e hd hv;split at h
   ·rename_i hp;injection h with h
    subst h;exact .mv x d e (.inr ho) hd hv hp
   ·cases h
  ·cases h
 case h_3 t x ho=>
  split at h
  ·rename_i d hd;split at h
   ·rename_i sz hb;split at h
    ·rename_i e hv;exact Oo h fun ag cK ht=>.bx t x d sz e ag ho hd hb hv ht cK
    ·cases h
   ·exact sE h
  ·cases h
 case h_4 t ho=>
  split at h
  ·rename_i d hd;split at h
   ·rename_i sz hb;split at h
    ·rename_i z hz;cases hi:P.info? t with
     |none=>simp [hi] at hz
     |some i=>
      simp only [hi,cJ] at hz;exact Oo h fun ag cK ht=>.al t d sz i z ag ho hd hb hi hz ht cK
    ·cases h
   ·exact sE h
  ·cases h
 case h_5 S x f ho=>
  split at h
  ·rename_i b off nd hx;split at h
   ·rename_i d fo sz hd hf;split at h
    ·rename_i hc;simp only [aV,decide_eq_true_eq,kY,bne_iff_ne,ne_eq] at hc;injection h with h
     subst h;exact .fa S x f d b off nd fo sz ho hd hx hf hc.1.1.1 hc.1.1.2 hc.1.2 hc.2
    ·cases h
   ·cases h
  ·exact sE h
 case h_6 t x ho=>
  split at h
  ·rename_i b off nd hx;split at h
   ·rename_i d ag sz bs hd ht hb;split at h
    ·rename_i hc;simp only [aV,decide_eq_true_eq] at hc;injection h with h
     subst h;exact .ld t x d b off nd ag sz bs ho hd hx ht hb hc.1.1 hc.1.2 hc.2
    ·cases h
   ·cases h
  ·exact sE h
 case h_7 t x v ho=>
  split at h
  ·rename_i b off nd hx;split at h
   ·rename_i e ag sz bs hd hv ht hb;split at h
    ·rename_i hc;simp only [decide_eq_true_eq] at hc;injection h with h
     subst h;exact .st t x v b off nd sz bs e ag ho hd hx hv ht hb hc
    ·cases h
   ·cases h
  ·exact sE h
 case h_8=>exact sE h
end
section
variable {P : Program} {pl : bz} {ds : Bk} {cs : CS} {env : Env} {X : XS} {w0 w : World} {a : Act}
theorem eP.zb (h:eP pl ds cs env X w0 a w) {RB:List Nat} {k:Nat} (hz:ZB pl RB a k): ¬X k:=by
 obtain⟨b,n,hb,_,ht⟩:=hz;obtain⟨c,hc⟩:=sD.1 (h.conv b n hb k ht);obtain⟨k',ty,e1,_,_,e4⟩:=h.box b n hb c hc;rw [ht] at e1;have:k'=k:=by simpa [gi] using e1.symm
 subst this;exact e4
theorem eP.kp0 (h:eP pl ds cs env X w0 a w) {RB:List Nat} {w':World} (hx:Fr (ZB pl RB a) w w'):Kp X w0 w':=
 h.ext.trans (hx.kp fun k hk=>⟨h.xp k hk,fun hz=>h.zb hz hk⟩)
theorem eP.dK (h:eP pl ds cs env X w0 a w) {b n k:Nat} (hb:look pl.boxes b=some n) (ht:a.tmps[b]? =some (gi k 0)):k<w.heap.size∧ ¬X k:=by
 obtain⟨c,hc⟩:=sD.1 (h.conv b n hb k ht);obtain⟨k',ty,e1,e2,_,e4⟩:=h.box b n hb c hc;rw [ht] at e1;have:k'=k:=by simpa [gi] using e1.symm
 subst this;exact⟨(Array.getElem?_eq_some_iff.1 e2).1,e4⟩
theorem eP.aau (h:eP pl ds cs env X w0 a w) {sb:List Nat} {w':World} (hx:Fr X w w'):uq pl sb a w w':=
 fun _ _ _ hb _ hk=>hx.block _ (h.dK hb hk).1 (h.dK hb hk).2
theorem nc.fk {sb:List Nat} {a':Act} {w':World} (hx:Ext w w') (hz: ∀b n,look pl.boxes b=some n→ ∀k,k<w.heap.size→a'.tmps[b]? =some (gi k 0)→a.tmps[b]? =some (gi k 0)):nc pl sb a w a' w':=
 fun _ _=>⟨hx.fr _,fun k hk ⟨b,n,h1,h2,h3⟩=>⟨b,n,h1,h2,hz b n h1 k hk h3⟩⟩
theorem nc.aav {sb:List Nat} {w':World} {d:Option Nat} {v:Value} (hx:Ext w w') (hd: ∀x,d=some x→look pl.boxes x=none):nc pl sb a w (a.put d v) w':=by
 refine nc.fk hx fun b n hb k _ hk=>?_;cases d with
 |none=>exact hk
 |some x=>rwa [fP _ _ _ _ (pA hb (hd x rfl))] at hk
theorem nc.sub {sb Yn:List Nat} {a':Act} {w':World} (h:nc pl sb a w a' w') (hs: ∀b,b∈sb→b∈Yn):nc pl Yn a w a' w':=
 fun RB Yo=>h RB fun b hb=>Yo b (hs b hb)
theorem Oq {P:Program} {m:Bool} {og:Option (Nat×Bool)} {o:Oper} {r:CR} (hs:Shape P pl cs og m o r) (fC:r.fl=true): ∀x,o.dst=some x→look pl.boxes x=none:=by
 have f: ∀{d:Nat},o.dst=some d→pl.kA d=true→ ∀x,o.dst=some x→look pl.boxes x=none:=fun hd hp x hx=>by
  rw [hd] at hx;injection hx with hx;subst hx;exact(uf hp).2.1
 cases hs with
 |mv x d e ho hd hv hp=>exact f hd hp
 |ld t x d b off nd ag sz bs ho hd hx ht hb hp hl ha=>exact f hd hp
 |fa S x g d b off nd fo sz ho hd hx hf D9 cK jU hz=>intro y hy;rw [hd] at hy;injection hy with hy;subst hy;exact jU
 |rd d ss hd hs hn hp=>exact f hd hp
 |zp=>cases fC
 |act=>cases fC
 |bx=>cases fC
 |al=>cases fC
 |st=>cases fC
theorem Ot {m:Bool} {og:Option (Nat×Bool)} {o:Oper} {r:CR} (hs:Shape P pl cs og m o r) (h:eP pl ds cs env X w0 a w) (hg:zq env og)
  (hl: ∀b,b∈r.nd→cd (env b)=true) (fC:r.fl=true) {ik:List PanicEntry→Env→World→XS→Prop} {next:Env→World→XS→Prop} (hd:gH P ik next r.l env w0 X) (kV: ∀b,b∈kU r.l→ ∀p,p∈ds.pins→p.1≠b):
  ∃v dx,((∀wa,Fr (ZB pl r.rb a) w wa→(execOp a.eval o).run P wa= .ok (.value v) wa)∧
   ∀b,b∈r.rb→ ∃k n,look pl.boxes b=some n∧a.tmps[b]? =some (gi k 0)∧ ∀wa:World,wa.heap[k]? =w.heap[k]? →(execOp a.eval o).run P wa= .ok (.value v) wa)∧eP pl ds r.cs dx X w0 (a.put o.dst v) w∧next dx w0 X:=by
 cases hs with
 |mv x d e ho iD hv hp=>
  obtain⟨dx,h1,h2⟩:=h.nM hp e hd kV;refine⟨e.ev env,dx,⟨fun wa _=>?_,fun _ hb=>by cases hb⟩,by rw [iD];exact h1,h2⟩;have he:=h.eval hv;rcases ho with ho|ho<;>simp [execOp,ho,he]
 |ld t x d b off nd ag sz bs ho iD hx ht hb hp cK ha=>
  obtain⟨⟨n,hn⟩,lQ,hk⟩:=h.rm hx;obtain⟨hA,k,he,nS⟩:=hk hl hg;obtain⟨cells,hc⟩:=sD.1 hA;obtain⟨k',ty,e1,e2,e3,_⟩:=h.box b n hn cells hc;have xq:k'=k:=by rw [nS] at e1;simpa [gi] using e1.symm
  subst xq;have Ou:bs=n:=by rw [hb] at hn;injection hn
  subst Ou;have h':=h.jQ (nd:=nd) fun b' fF=>⟨lQ b' fF,hl b' fF⟩;obtain⟨dx,h1,h2⟩:=h'.nM hp _ hd kV;have Yy:(if ag then Ex.s b off sz else Ex.k b off).ev env=if ag then b7 (.agg cells) off sz else cellOf (.agg cells) off:=by
   cases ag<;>simp [Ex.ev,hc]
  have GH: ∀wa:World,wa.heap[k']? =w.heap[k']? →(execOp a.eval o).run P wa= .ok (.value ((if ag then Ex.s b off sz else Ex.k b off).ev env)) wa:=by
   intro wa C8;have e2':wa.heap[k']? =some (.cells cells ty (0,0)):=C8.trans e2;have:=Lw ht ha e2' off zQ;rw [Yy];simp [execOp,ho,he,this]
  refine⟨_,dx,⟨fun wa C8=>GH wa ?_,fun b' fF=>?_⟩,by rw [iD];exact h1,h2⟩
  rotate_left
  ·have:=List.mem_singleton.1 fF;subst this;exact⟨k',bs,hn,nS,GH⟩
  have e2':wa.heap[k']? =some (.cells cells ty (0,0)):=by
   rw [C8.block k' (Array.getElem?_eq_some_iff.1 e2).1 ?_]
   ·exact e2
   ·rintro⟨b2,n2,g1,g2,g3⟩;exact g2 (List.mem_singleton.2 (h.inj b2 b n2 bs g1 hn (h.conv b2 n2 g1 k' g3) hA k' g3 nS))
  rw [e2',e2]
 |fa S x f d b off nd fo sz ho iD hx hf D9 cK jU hz=>
  obtain⟨⟨n,hn⟩,lQ,hk⟩:=h.rm hx;obtain⟨hA,k,he,nS⟩:=hk hl hg;have h':=h.jQ (nd:=nd) fun b' fF=>⟨lQ b' fF,hl b' fF⟩;refine⟨gi k (off+fo),env,⟨fun wa _=>?_,fun _ hb=>by cases hb⟩,?_,hd⟩
  ·have:=Jy hf hz k off wa;simp [execOp,ho,he,this]
  ·rw [iD];exact h'.derive cK jU D9 _ ⟨n,hn⟩ fun _=>⟨hA,k,nS,rfl⟩
 |rd d ss iD JA hn hp=>
  obtain⟨v,h1,h2⟩:=hd;refine⟨v,_,⟨fun wa C8=>?_,fun _ hb=>by cases hb⟩,by rw [iD];exact h.bind hp v (kV d (by simp [kU,TI.Fa])),h2⟩;rw [h.exec JA hn,←Yk _ (fun _=>rfl)];exact h1 wa (h.kp0 C8)
 |zp=>cases fC
 |act=>cases fC
 |bx=>cases fC
 |al=>cases fC
 |st=>cases fC
def ug (pl:bz) (ds:Bk) (env:Env) (X:XS) (a:Act) (w:World):Prop:=
 (∀k,X k→k<w.heap.size)∧ ∀p,p∈ds.pins→a.tmps[p.1]? =some p.2∧(pl.kz p.1=true∨ ∃n k cells ty,p.2=gi k 0∧look pl.boxes p.1=some n∧env p.1= .agg cells∧w.heap[k]? =some (.cells cells ty (0,0))∧cells.size=n∧ ¬X k)
theorem eP.pinned (h:eP pl ds cs env X w0 a w):ug pl ds env X a w:=⟨h.xp,fun p hp=>by
 obtain⟨ht,⟨n,k,hn,hk⟩|hg⟩:=h.zr p hp
 ·refine⟨ht,.inr ?_⟩;rw [hk] at ht;obtain⟨cells,hc⟩:=sD.1 (h.conv p.1 n hn _ ht);obtain⟨k',ty,e1,e2,e3,e4⟩:=h.box p.1 n hn cells hc;rw [ht] at e1;have:k=k':=by simpa [gi] using e1
  subst this;exact⟨n,k,cells,ty,hk,hn,hc,e2,e3,e4⟩
 ·exact⟨ht,.inl hg⟩⟩
theorem ug.put {d:Option Nat} {v:Value} (h:ug pl ds env X (a.put d v) w) (hd: ∀x,d=some x→ ∀p,p∈ds.pins→p.1≠x):ug pl ds env X a w:=⟨h.1,fun p hp=>by
 obtain⟨h1,h2⟩:=h.2 p hp;refine⟨?_,h2⟩;cases d with
 |none=>exact h1
 |some x=>rwa [fP _ _ _ _ (hd x rfl p hp)] at h1⟩
theorem Lx {m:Bool} {og:Option (Nat×Bool)} {o:Oper} {r:CR} (hs:Shape P pl cs og m o r) (fC:r.fl=true): ∀x,o.dst=some x→pl.kz x=true→x∈kU r.l:=by
 have f: ∀{Vc:CS} {d:Nat} {e:Ex},o.dst=some d→ ∀x,o.dst=some x→pl.kz x=true→x∈kU (nM pl Vc d e).1:=fun hd x hx hg=>by
  rw [hd] at hx;injection hx with hx;subst hx
  unfold nM;rw [if_pos (by simp [hg])];simp [kU,TI.Fa]
 cases hs with
 |mv x d e ho hd hv hp=>exact f hd
 |ld t x d b off nd ag sz bs ho hd hx ht hb hp hl ha=>exact f hd
 |fa S x g d b off nd fo sz ho hd hx hf D9 cK jU hz=>
  intro y hy hg;rw [hd] at hy;injection hy with hy;subst hy
  have:=(tD hg).2.2;rw [D9] at this;cases this
 |rd d ss hd hs hn hp=>intro y hy _;rw [hd] at hy;injection hy with hy;subst hy;simp [kU,TI.Fa]
 |zp=>cases fC
 |act=>cases fC
 |bx=>cases fC
 |al=>cases fC
 |st=>cases fC
theorem Ov {m:Bool} {og:Option (Nat×Bool)} {o:Oper} {r:CR} (hs:Shape P pl cs og m o r) (h:eP pl ds cs env X w0 a w) (hg:zq env og)
  (hl: ∀b,b∈r.nd→cd (env b)=true) (fC:r.fl=false) {ik:List PanicEntry→Env→World→XS→Prop} {next:Env→World→XS→Prop} (hd:gH P ik next r.l env w0 X)
  {K:Act→World→Prop} {Q:Exit→Act→World→Prop}
  (hK: ∀a' w' dx X' eK,eP pl ds r.cs dx X' eK a' w'→next dx eK X'→uu (m=false) pl r.sb a w a' w'→K a' w')
  (kV: ∀b,b∈kU r.l→ ∀p,p∈ds.pins→p.1≠b)
  (hQ: ∀ch w' dx X' eK,Kp X' eK w'→ug pl ds dx X' a w'→ik ch dx eK X'→Q (.panic ch) a w'):o.wp P a w K Q:=by
 have real: ∀(rn:CS) (ss:List (Nat×Ex)),(∀x,o.dst=some x→look pl.boxes x=none)→subst pl cs o.op.operands.toList=some ss→D5 o.op=true→
   (∀m' w' v,Step m' X w w'→eP pl ds rn (Gz env o.dst v) (grow X w w') w' (a.put o.dst v) w')→r.cs=rn→
   (∀wa,Kp X w0 wa→jt P m X wa (fun v w' X'=>next (Gz env o.dst v) w' X') (fun ch w' X'=>ik ch env w' X') ((Of (GA env ss) o.op o.type).run P wa))→o.wp P a w K Q:=by
  intro rn ss hdd JA hn hS lR he;have he:=he w h.ext;unfold oQ;rw [h.exec JA hn,←Yk _ (fun _=>rfl)];have fV: ∀w' v,Step m X w w'→uu (m=false) pl r.sb a w (a.put o.dst v) w':=fun w' v hs=>⟨fun hm=>by subst hm;exact nc.aav hs hdd,h.aau hs.fr⟩;cases hr:(Of (GA env ss) o.op o.type).run P w with
  |ok n w'=>
   rw [hr] at he;cases n<;>simp only [jt] at he<;>simp only [kT]
   case value v=>exact hK _ _ _ _ _ (lR▸hS m w' v he.1) he.2 (fV _ _ he.1)
   case skip=>exact hK _ _ _ _ _ (lR▸hS m w' undef he.1) he.2 (fV _ _ he.1)
   case enter f args=>
    obtain⟨rfl,hc⟩:=he;refine hc.mono fun e mN hR=>?_;cases e with
    |returned v=>exact hK _ _ _ _ _ (lR▸hS m mN v hR.1) hR.2 (fV _ _ hR.1)
    |panicked ch=>exact hQ _ _ _ _ _ (Kp.refl _ _) (h.Ij hR.1).pinned hR.2
    |outgrown=>exact hR.elim
  |halt x w'=>
   rw [hr] at he;cases x<;>simp only [jt] at he<;>simp only [kT]
   case panic v=>exact hQ _ _ _ _ _ (Kp.refl _ _) (h.Ij he.1).pinned he.2
 have boxed: ∀{d sz:Nat} {e:Ex} {ag:Bool},gH P ik next [if !ag&&sz==1 then .Cr d e else .box d sz e] env w0 X→
   (e.ev env).cells.size=sz∧next (lE env d (.agg (e.ev env).cells)) w0 X:=by
  intro d sz e ag hd;simp only [gH] at hd;split at hd
  ·rename_i vE;simp only [aV,dH,beq_iff_eq] at vE;obtain⟨g1,g2⟩:=eQ.1 hd;rw [uM g1];exact⟨by simp [vE.2],g2⟩
  ·obtain⟨g1,g2⟩:=eQ.1 hd;exact⟨by simpa using g1,g2⟩
 have adU: ∀(t d:Nat) (_:d<pl.n) (cells:Array Value),nc pl [] a w (a.put (some d) (gi w.heap.size 0)) (w.alloc (.cells cells t)):=by
  intro t d cK cells;refine nc.fk (Ext.alloc _ _) fun b n Yz k hk xq=>?_;by_cases e:b=d
  ·subst e;rw [sC _ _ _ _ (by rw [h.size];exact cK),if_pos rfl] at xq;have:w.heap.size=k:=by simpa [gi] using xq
   omega
  ·rwa [fP _ _ _ _ e] at xq
 cases hs with
 |mv=>cases fC
 |ld=>cases fC
 |fa=>cases fC
 |rd=>cases fC
 |zp d ss iD JA hn hp=>
  refine real (cs.bind pl d) ss (fun x hx=>by rw [iD] at hx;injection hx with hx;subst hx;exact(uf hp).2.1) JA hn (fun m' w' v fV=>?_) rfl ?_
  ·rw [iD];exact(h.Ij fV).bind hp v (kV d (by simp [kU,TI.Fa]))
  ·intro wa C8;have:=hd wa C8;rw [iD];exact this
 |act ss iD JA hn=>
  refine real cs ss (fun x hx=>by rw [iD] at hx;cases hx) JA hn (fun m' w' v fV=>?_) rfl ?_
  ·rw [iD];exact h.Ij fV
  ·intro wa C8;have:=hd wa C8;rw [iD];exact this
 |bx t x d sz e ag ho iD hb hv ht cK=>
  have he:=h.eval hv;obtain⟨h1,h2⟩:=boxed hd;have hr:(execOp a.eval o).run P w= .ok (.value (gi w.heap.size 0)) (w.alloc (.cells (e.ev env).cells t)):=by
   simp [execOp,ho,he,Instr.box,newVar,newRow,gi]
  unfold oQ;rw [hr];simp only [kT];rw [iD];exact hK _ _ _ _ _ (h.Yu cK hb (e.ev env).cells h1 t (kV d (by split<;>simp [kU,TI.Fa]))) h2 ⟨fun _=>adU t d cK _,h.aau ((Ext.alloc _ _).fr X)⟩
 |al t d sz i z ag ho iD hb hi hz ht cK=>
  obtain⟨h1,h2⟩:=boxed hd;have hr:(execOp a.eval o).run P w= .ok (.value (gi w.heap.size 0)) (w.alloc (.cells z.cells t)):=by
   simp [execOp,ho,Instr.alloc,zeroValue,typeInfo,hi,hz,newVar,newRow,gi]
  unfold oQ;rw [hr];simp only [kT];rw [iD];exact hK _ _ _ _ _ (h.Yu cK hb z.cells h1 t (kV d (by split<;>simp [kU,TI.Fa]))) h2 ⟨fun _=>adU t d cK _,h.aau ((Ext.alloc _ _).fr X)⟩
 |st t x v b off nd sz bs e ag ho iD hx hv ht hb cK=>
  obtain⟨⟨n,hn⟩,lQ,hk⟩:=h.rm hx;obtain⟨hA,k,he,nS⟩:=hk hl hg;obtain⟨cells,hc⟩:=sD.1 hA;obtain⟨k',ty,e1,e2,e3,e4⟩:=h.box b n hn cells hc;have xq:k'=k:=by rw [nS] at e1;simpa [gi] using e1.symm
  subst xq;have Ou:bs=n:=by rw [hb] at hn;injection hn
  subst Ou;obtain⟨h1,h2,h3⟩:(e.ev env).cells.size=sz∧(e.ev env).cells.toList.all one=true∧next (lE env b (.agg (cz (env b).cells.toList off (e.ev env).cells.toList).toArray)) w0 X:=by
   simp only [gH] at hd;split at hd
   ·rename_i vE;simp only [aV,dH,beq_iff_eq] at vE;obtain⟨g1,g2⟩:=eQ.1 hd;rw [uM g1];exact⟨by simp [vE.2],by simp [g1],g2⟩
   ·split at hd
    ·rename_i vE;simp only [aV,beq_iff_eq] at vE;obtain⟨g1,hd⟩:=eQ.1 hd;obtain⟨g2,g3⟩:=eQ.1 hd;have g1:(e.ev env).cells.size=sz:=by simpa using g1
     refine⟨g1,g2,?_⟩;have afQ:cz (env b).cells.toList off (e.ev env).cells.toList=(e.ev env).cells.toList:=by
      unfold cz;rw [hc,vE.1];have hz:cells.size≤(e.ev env).cells.size:=by omega
      show List.take 0 cells.toList++(e.ev env).cells.toList++List.drop (0+(e.ev env).cells.toList.length) cells.toList=(e.ev env).cells.toList
      rw [List.take_zero,fg,List.drop_eq_nil_of_le (by simpa using hz),List.append_nil]
     rw [afQ];simpa using g3
    ·obtain⟨g1,hd⟩:=eQ.1 hd;obtain⟨g2,g3⟩:=eQ.1 hd;exact⟨by simpa using g1,g2,g3⟩
  have h':=h.jQ (nd:=nd) fun b' fF=>⟨lQ b' fF,hl b' fF⟩;have Yy:=h.eval hv;have fV:=Jz (Ua ht) e2 off zQ (e.ev env) h1 h2;have hr:(execOp a.eval o).run P w= .ok .skip (w.setRow k' (cz cells.toList off (e.ev env).cells.toList).toArray):=by
   simp [execOp,ho,he,Yy,fV]
  unfold oQ;rw [hr];simp only [kT];rw [iD];obtain⟨f1,f2⟩:=Yw (tE:=(cz cells.toList off (e.ev env).cells.toList).toArray) e2;have fB:((cz cells.toList off (e.ev env).cells.toList).toArray).size=bs:=by
   simp only [List.size_toArray];rw [aat (by simp;omega)];simpa using e3
  rw [hc] at h3;refine hK _ _ _ _ _ (h'.store hb hc nS e2 e4 fB f1 f2) h3 ⟨fun _ RB Yo=>
   ⟨f1.mono fun j hj=>⟨b,bs,hb,Yo b (List.mem_singleton.2 rfl),by rw [hj];exact nS⟩,fun _ _ hz=>hz⟩,fun b2 n2 k2 g1 g2 g3=>f1.block k2 (h.dK g1 g3).1 fun hj=>?_⟩
  have hj:k2=k':=hj;subst hj;exact g2 (List.mem_singleton.2 (h.inj b2 b n2 bs g1 hn (h.conv b2 n2 g1 _ g3) hA _ g3 nS))
end
section
variable {P : Program} {pl : bz} {ds : Bk} {cs : CS} {env : Env} {X : XS} {w0 w : World} {a : Act} {ops : Array Oper}
variable {ik : List PanicEntry → Env → World → XS → Prop} {next : Env → World → XS → Prop}
theorem Ly {g:Nat} {want:Bool} {op:Op} {r0 r:CR} (fv:mz g want op r0=some r) (hy:ky (env g) want=true) (hd:gH P ik next r.l env w0 X):
  gH P ik next r0.l env w0 X:=by
 obtain⟨fl,nd,l,c,rb,sb⟩:=r0;unfold mz at fv;dsimp only at fv;split at fv
 ·split at fv
  ·injection fv with e;subst e;exact hd
  ·cases fv
 ·split at fv
  ·cases fv
  ·injection fv with e;subst e
   simpa only [gH,QO,hy,if_true] using hd
 ·split at fv
  ·cases fv
  ·injection fv with e;subst e
   obtain⟨v,h1,_,h2⟩:=hd;exact⟨v,h1 hy,h2⟩
 ·split at fv
  ·cases fv
  ·injection fv with e;subst e
   exact hd.1 hy
 ·cases fv
theorem yq {g:Nat} {want:Bool} {op:Op} {r0 r:CR} (fv:mz g want op r0=some r):r.cs=r0.cs∧r.nd=r0.nd∧r.fl=r0.fl∧r.rb=r0.rb∧r.sb=r0.sb:=by
 obtain⟨fl,nd,l,c,rb,sb⟩:=r0;unfold mz at fv;dsimp only at fv;split at fv<;>(try split at fv)<;>first
  |(cases fv;done)
  |(injection fv with e;subst e;exact⟨rfl,rfl,rfl,rfl,rfl⟩)
theorem GI {g:Nat} {want:Bool} {op:Op} {r0 r:CR} (fv:mz g want op r0=some r):kU r.l=kU r0.l:=by
 obtain⟨fl,nd,l,c,rb,sb⟩:=r0;unfold mz at fv;dsimp only at fv;split at fv<;>(try split at fv)<;>first
  |(cases fv;done)
  |(injection fv with e;subst e;rfl)
theorem aaw (nd:List Nat):kU (nd.map .Ky)=[]:=by
 induction nd with
 |nil=>rfl
 |cons b nd ih=>simp only [kU,List.map_cons,List.flatMap_cons,TI.Fa,fg] at ih⊢;exact ih
theorem vF (l l':List TI):kU (l++l')=kU l++kU l':=List.flatMap_append
theorem C9 (r:CR):kU r.all=kU r.l:=by unfold CR.all;rw [vF,aaw,fg]
theorem QX {m:Bool} {g:Nat} {want:Bool} {o:Oper} {r0 r:CR} (hs:Shape P pl cs (some (g,want)) m o r0) (fv:mz g want o.op r0=some r) (h:eP pl ds cs env X w0 a w)
  (hl: ∀b,b∈r0.nd→cd (env b)=true) (s9:ky (env g) want=false) (hd:gH P ik next r.l env w0 X) (kV: ∀b,b∈kU r.l→ ∀p,p∈ds.pins→p.1≠b):
  ∃dx,eP pl ds r.cs dx X w0 (a.put o.dst undef) w∧next dx w0 X:=by
 have YA: ∀(Vc:CS) (d:Nat) (e:Ex) (nd rb:List Nat),eP pl ds Vc env X w0 a w→o.dst=some d→pl.kA d=true→aam o.op=false→r0=⟨true,nd,(nM pl Vc d e).1,(nM pl Vc d e).2,rb,[]⟩→
   ∃dx,eP pl ds r.cs dx X w0 (a.put o.dst undef) w∧next dx w0 X:=by
  intro Vc d e nd rb h1 iD hp hfa hr;subst hr;unfold mz nM at fv;by_cases rZ:(pl.kz d||pl.mat.contains d)=true
  ·simp only [rZ,if_true] at fv;split at fv
   ·cases fv
   ·injection fv with e1;subst e1
    simp only [gH,QO,s9,bh,if_false] at hd;exact⟨_,by rw [iD];exact h1.bind hp undef (kV d (by simp [kU,TI.Fa])),hd⟩
  ·simp only [rZ,hfa,bh,if_false] at fv;cases fv
 cases hs with
 |mv x d e ho iD hv hp=>exact YA cs d e [] [] h iD hp (by rcases ho with ho|ho<;>rw [ho]<;>rfl) rfl
 |ld t x d b off nd ag sz bs ho iD hx ht hb hp cK ha=>
  obtain⟨_,lQ,_⟩:=h.rm hx;exact YA (cs.jQ nd) d _ nd [b] (h.jQ fun b' fF=>⟨lQ b' fF,hl b' fF⟩) iD hp (by rw [ho];rfl) rfl
 |fa S x f d b off nd fo sz ho iD hx hf D9 cK jU hz=>
  obtain⟨hb,lQ,hk⟩:=h.rm hx;have h':=h.jQ (nd:=nd) fun b' fF=>⟨lQ b' fF,hl b' fF⟩;unfold mz at fv;simp only [ho,aam,if_true,ax] at fv;subst fv;refine⟨env,?_,hd⟩;rw [iD];exact h'.derive cK jU D9 _ hb fun hg=>by simp only [zq] at hg;rw [s9] at hg;cases hg
 |rd d ss iD JA hn hp=>
  unfold mz at fv;dsimp only at fv;split at fv
  ·cases fv
  ·injection fv with e;subst e
   obtain⟨v,_,h1,h2⟩:=hd;have hv:=h1 s9;subst hv;exact⟨_,by rw [iD];exact h.bind hp undef (kV d (by simp [kU,TI.Fa])),h2⟩
 |zp d ss iD JA hn hp=>
  unfold mz at fv;dsimp only at fv;split at fv
  ·cases fv
  ·injection fv with e;subst e
   exact⟨_,by rw [iD];exact h.bind hp undef (kV d (by simp [kU,TI.Fa])),hd.2 s9⟩
 |act ss iD JA hn=>
  unfold mz at fv;dsimp only at fv;split at fv
  ·cases fv
  ·injection fv with e;subst e
   exact⟨_,by rw [iD];exact h,hd.2 s9⟩
 |bx t x d sz e ag=>cases QY:(!ag&&sz==1)<;>(unfold mz at fv;simp only [QY] at fv;cases fv)
 |al t d sz i z ag=>cases QY:(!ag&&sz==1)<;>(unfold mz at fv;simp only [QY] at fv;cases fv)
 |st t x v b off nd sz bs e ag=>
  cases QY:(!ag&&sz==1)<;>cases afR:(off==0&&sz==bs)<;>(unfold mz at fv;simp only [QY,afR] at fv;cases fv)
theorem GJ (h:eP pl ds cs env X w0 a w) {o:Oper} {j gs g:Nat} {want:Bool} (hg:o.guard=some (j,want)) (zt:(ops[j]?).bind (·.dst)=some gs)
  (hv:valOf pl cs (.tmp gs)=some (.t g)):dO o (yielded ops a.tmps)=ky (env g) want:=by
 have ht:a.tmps[gs]? =some (env g):=by
  simp only [valOf] at hv;split at hv
  ·rename_i fv;injection hv with hv
   injection hv with hv
   subst hv;exact h.rY _ fv
  ·have:=h.sig _ (D7 hv);simpa [Ex.ev] using this
 unfold dO yielded;simp only [hg,zt,cJ,ht,ky];cases env g<;>simp
theorem We {m:Bool} {o:Oper} {r:CR} (hc:xm P pl cs ops m o=some r) (fC:r.fl=true) (h:eP pl ds cs env X w0 a w) (hd:gH P ik next r.all env w0 X) (kV: ∀b,b∈kU r.l→ ∀p,p∈ds.pins→p.1≠b):
  ∃v dx,(YF P pl r.rb ops o v a w∧ ∀b,b∈r.rb→YL P pl b ops o v a w)∧eP pl ds r.cs dx X w0 (a.put o.dst v) w∧next dx w0 X:=by
 obtain⟨hl,hd⟩:=GG _ hd;unfold xm at hc;split at hc
 ·rename_i hg;obtain⟨v,dx,h1,h2,h3⟩:=Ot (oR hc) h trivial hl fC hd kV;exact⟨v,dx,⟨.inl ⟨by simp [dO,hg],h1.1⟩,fun b hb=>.inl ⟨by simp [dO,hg],h1.2 b hb⟩⟩,h2,h3⟩
 ·rename_i j want hg;split at hc
  ·cases hc
  ·rename_i gs zt;split at hc
   ·rename_i g hv;have hw:=GJ h hg zt hv;cases yI:Ac P pl cs (some (g,want)) m o with
    |none=>rw [yI] at hc;cases hc
    |some r0=>
     rw [yI] at hc;simp only [cJ] at hc;obtain⟨e1,e2,e3,e4,e5⟩:=yq hc;cases hy:ky (env g) want with
     |true=>
      obtain⟨v,dx,h1,h2,h3⟩:=Ot (oR yI) h hy (e2▸hl) (e3▸fC) (Ly hc hy hd) (fun b hb=>kV b (by rw [GI hc];exact hb));exact⟨v,dx,⟨.inl ⟨by rw [hw,hy],e4▸h1.1⟩,fun b hb=>.inl ⟨by rw [hw,hy],h1.2 b (e4▸hb)⟩⟩,e1▸h2,h3⟩
     |false=>
      obtain⟨dx,h1,h2⟩:=QX (oR yI) hc h (e2▸hl) hy hd kV;exact⟨undef,dx,⟨.inr ⟨by rw [hw,hy],rfl⟩,fun _ _=>.inr ⟨by rw [hw,hy],rfl⟩⟩,h1,h2⟩
   ·cases hc
theorem QZ {m:Bool} {o:Oper} {r:CR} (hc:xm P pl cs ops m o=some r) (fC:r.fl=true): ∀x,o.dst=some x→look pl.boxes x=none:=by
 unfold xm at hc;split at hc
 ·exact Oq (oR hc) fC
 ·rename_i j want hg;split at hc
  ·cases hc
  ·rename_i gs zt;split at hc
   ·rename_i g hv;cases yI:Ac P pl cs (some (g,want)) m o with
    |none=>rw [yI] at hc;cases hc
    |some r0=>
     rw [yI] at hc;simp only [cJ] at hc;exact Oq (oR yI) ((yq hc).2.2.1▸fC)
   ·cases hc
theorem acH {m:Bool} {o:Oper} {r:CR} (hc:xm P pl cs ops m o=some r) (fC:r.fl=true): ∀x,o.dst=some x→pl.kz x=true→x∈kU r.l:=by
 unfold xm at hc;split at hc
 ·exact Lx (oR hc) fC
 ·rename_i j want hg;split at hc
  ·cases hc
  ·rename_i gs zt;split at hc
   ·rename_i g hv;cases yI:Ac P pl cs (some (g,want)) m o with
    |none=>rw [yI] at hc;cases hc
    |some r0=>
     rw [yI] at hc;simp only [cJ] at hc;rw [GI hc];exact Lx (oR yI) ((yq hc).2.2.1▸fC)
   ·cases hc
theorem eP.apart (h:eP pl ds cs env X w0 a w) {m:Bool} {o:Oper} {r:CR} (hc:xm P pl cs ops m o=some r) (fC:r.fl=true) (hm: ∀b,b∈kU r.l→ ∀p,p∈ds.pins→p.1≠b):
  ∀x,o.dst=some x→ ∀p,p∈ds.pins→p.1≠x:=fun x hx p hp e=>by
 rcases(h.zr p hp).2 with⟨n,_,hn,_⟩|hg
 ·rw [e,QZ hc fC x hx] at hn;cases hn
 ·exact hm x (acH hc fC x hx (e▸hg)) p hp e
theorem Lz {m:Bool} {o:Oper} {r:CR} (hc:xm P pl cs ops m o=some r) (h:eP pl ds cs env X w0 a w) (hd:gH P ik next r.all env w0 X)
  {K:Act→World→Prop} {Q:Exit→Act→World→Prop}
  (hK: ∀a' w' dx X' eK,eP pl ds r.cs dx X' eK a' w'→next dx eK X'→uu (m=false) pl r.sb a w a' w'→K a' w')
  (kV: ∀b,b∈kU r.l→ ∀p,p∈ds.pins→p.1≠b)
  (hQ: ∀ch w' dx X' eK,Kp X' eK w'→ug pl ds dx X' a w'→ik ch dx eK X'→Q (.panic ch) a w'):
  if dO o (yielded ops a.tmps)=true then o.wp P a w K Q else K (a.put o.dst undef) w:=by
 cases fC:r.fl with
 |true=>
  obtain⟨v,dx,hy,h1,h2⟩:=We hc fC h hd kV;rcases hy.1 with⟨hw,hv⟩|⟨hw,hv⟩
  ·rw [if_pos hw];unfold oQ;rw [hv w (Fr.refl _ w)];exact hK _ _ _ _ _ h1 h2 ⟨fun _=>nc.refl pl _ a w _ _ (QZ hc fC),uq.refl _ _ _ _⟩
  ·rw [if_neg (by rw [hw];simp)];subst hv;exact hK _ _ _ _ _ h1 h2 ⟨fun _=>nc.refl pl _ a w _ _ (QZ hc fC),uq.refl _ _ _ _⟩
 |false=>
  obtain⟨hl,hd⟩:=GG _ hd;unfold xm at hc;split at hc
  ·rename_i hg;rw [if_pos (by simp [dO,hg])];exact Ov (oR hc) h trivial hl fC hd hK kV hQ
  ·rename_i j want hg;split at hc
   ·cases hc
   ·rename_i gs zt;split at hc
    ·rename_i g hv;have hw:=GJ h hg zt hv;cases yI:Ac P pl cs (some (g,want)) m o with
     |none=>rw [yI] at hc;cases hc
     |some r0=>
      rw [yI] at hc;simp only [cJ] at hc;obtain⟨e1,e2,e3,e4,e5⟩:=yq hc;cases hy:ky (env g) want with
      |true=>
       rw [if_pos (by rw [hw,hy])];exact Ov (oR yI) h hy (e2▸hl) (e3▸fC) (Ly hc hy hd) (e5▸e1▸hK) (fun b hb=>kV b (by rw [GI hc];exact hb)) hQ
      |false=>
       rw [if_neg (by rw [hw,hy];simp)];obtain⟨dx,h1,h2⟩:=QX (oR yI) hc h (e2▸hl) hy hd kV;refine hK _ _ _ _ _ h1 h2 ⟨fun _=>?_,uq.refl _ _ _ _⟩;refine nc.fk (Ext.refl w) fun b n hb k hk xq=>?_;cases iD:o.dst with
       |none=>rw [iD] at xq;exact xq
       |some x=>
        rw [iD] at xq;by_cases eX:b=x
        ·subst eX;by_cases cK:b<a.tmps.size
         ·rw [sC _ _ _ _ cK,if_pos rfl] at xq;cases xq
         ·rw [mu (by simp [ku];omega)] at xq;cases xq
        ·rwa [fP _ _ _ _ eX] at xq
    ·cases hc
theorem YB {Q:Exit→Act→World→Prop} (hN: ∀rn a' w' dx X' eK,eP pl ds rn dx X' eK a' w'→next dx eK X'→Q .normal a' w')
  (hQ: ∀ch a' w' dx X' eK,a'.defers=ds.ds→Kp X' eK w'→ug pl ds dx X' a' w'→ik ch dx eK X'→Q (.panic ch) a' w'): ∀(l:List Oper) (cs:CS) (tl:List TI) (env:Env) (X:XS) (w0:World) (a:Act) (w:World),
  Kz P pl ops l cs=some tl→(∀b,b∈kU tl→ ∀p,p∈ds.pins→p.1≠b)→eP pl ds cs env X w0 a w→gH P ik next tl env w0 X→wpList P ops Q l a w
 |[],cs,tl,env,X,w0,a,w,hc,_,h,hd=>by
  simp only [Kz,ax] at hc;subst hc;exact hN _ _ _ _ _ _ h hd
 |o::l,cs,tl,env,X,w0,a,w,hc,hm,h,hd=>by
  simp only [Kz] at hc;cases hr:xm P pl cs ops true o with
  |none=>simp [hr] at hc
  |some r=>
   cases hs:Kz P pl ops l r.cs with
   |none=>simp [hr,hs] at hc
   |some yJ=>
    simp only [hr,hs,bH,ax] at hc;subst hc;rw [yp] at hd;rw [vF,C9] at hm;refine wpList_step fun K hK=>Lz hr h hd (fun a' w' dx X' eK h1 h2 _=>hK _ _ (YB hN hQ l r.cs yJ dx X' eK a' w' hs (fun b hb=>hm b (dw _ hb)) h1 h2)) (fun b hb=>hm b (bX _ hb)) ?_;exact fun ch w' dx X' eK hx Ea hp=>hQ ch a w' dx X' eK h.defers hx Ea hp
theorem vG {bJ:Array Bool} : ∀{l:List Nat} {i:Nat} {r:CR},x4 P pl ops cs bJ l=some (i,r)→
  i∈l∧r.fl=true∧Ii pl ops bJ i r.rb=true∧ ∃o,ops[i]? =some o∧xm P pl cs ops (mG pl ops i) o=some r
 |[],_,_,h=>by cases h
 |j::l,i,r,h=>by
  simp only [x4] at h;split at h
  ·rename_i x hx;split at h
   ·rename_i hc;simp only [ax,dr] at h;obtain⟨rfl,rfl⟩:=h;simp only [aV] at hc;cases ho:ops[j]? with
    |none=>simp [ho] at hx
    |some o=>
     simp only [ho,cJ] at hx;exact⟨di ..,hc.1,hc.2,o,rfl,hx⟩
   ·obtain⟨h1,h2⟩:=vG h;exact⟨bG _ h1,h2⟩
  ·obtain⟨h1,h2⟩:=vG h;exact⟨bG _ h1,h2⟩
theorem JB {o:Oper} {b:Nat×Nat×Bool×Value} (h:D6 P pl o=some b) (m:Bool):xm P pl cs ops m o=some ⟨false,[],[vB b],sA cs b.1,[],[]⟩:=by
 unfold D6 at h;split at h
 ·rename_i t d hg YC hd;split at h
  ·rename_i sz z ag s h1 h2 h3;split at h
   ·rename_i hc;simp only [ax] at h;subst h;simp only [xm,hg,Ac,YC,hd,h1,h2,QR,h3,hc,if_true,vB,sA]
   ·cases h
  ·cases h
 ·cases h
theorem aax (env:Env) {d d':Nat} (h:d≠d') (v v':Value):lE (lE env d v) d' v'=lE (lE env d' v') d v:=by
 funext s
 by_cases h1:s=d
 ·subst h1;rw [ga _ _ h,jY,jY]
 ·by_cases h2:s=d'
  ·subst h2;rw [jY,ga _ _ (Ne.symm h),jY]
  ·rw [ga _ _ h2,ga _ _ h1,ga _ _ h1,ga _ _ h2]
theorem YD {b b':Nat×Nat×Bool×Value} (bW:b.1≠b'.1) {l:List TI} (h:gH P ik next (vB b::vB b'::l) env w0 X):gH P ik next (vB b'::vB b::l) env w0 X:=by
 obtain⟨d,n,o,z⟩:=b;obtain⟨d',n',o',z'⟩:=b';have bW:d≠d':=bW;cases o<;>cases o'<;>simp only [vB,gH,QO,Ex.ev,eQ,if_true,if_false,bh] at h⊢ <;>obtain⟨h1,h2,h3⟩:=h<;>exact⟨h2,h1,by rw [aax _ bW.symm];exact h3⟩
theorem Wf {d d':Nat} {dx:Env} {X':XS} {eK:World} {a':Act} {w':World} (h:eP pl ds (sA (sA cs d') d) dx X' eK a' w'):eP pl ds (sA (sA cs d) d') dx X' eK a' w':=by
 refine⟨h.size,h.defers,h.zr,h.ext,h.xp,h.rY,fun p hp=>h.sig p ?_,h.box,h.inj,h.conv,fun b hb=>h.live b ?_,fun p hp=>h.ptr p ?_⟩
 ·simp only [sA,CS.kill,CS.jQ,fE] at hp⊢;exact⟨⟨hp.1.1,hp.2⟩,hp.1.2⟩
 ·simp only [sA,CS.kill,CS.jQ,List.mem_append,List.mem_singleton] at hb⊢;rcases hb with h|h|h
  ·exact .inr (.inl h)
  ·exact .inl h
  ·exact .inr (.inr h)
 ·simp only [sA,CS.kill,CS.jQ,fE] at hp⊢;exact⟨⟨hp.1.1,hp.2⟩,hp.1.2⟩
theorem Vd {l:List Nat} {i:Nat} (h:Wc l i=true):l=[i]:=by
 unfold Wc at h;split at h
 ·rw [beq_iff_eq.1 h]
 ·cases h
theorem Q4 {i:Nat} {o:Oper} {r:CR} {Q:Exit→Act→World→Prop} (ho:ops[i]? =some o) (hx:xm P pl cs ops (mG pl ops i) o=some r) (Da:r.sb=[]) (h:eP pl ds cs env X w0 a w) (hd:gH P ik next r.all env w0 X) {bJ:Array Bool} {fuel:Nat}
  (kV: ∀b,b∈kU r.l→ ∀p,p∈ds.pins→p.1≠b)
  (hQ: ∀ch a' w' dx X' eK,a'.defers=ds.ds→Kp X' eK w'→ug pl ds dx X' a' w'→ik ch dx eK X'→Q (.panic ch) a' w')
  (hK: ∀a' w' dx X' eK,eP pl ds r.cs dx X' eK a' w'→next dx eK X'→qu P pl ops Q fuel (bJ.setIfInBounds i true) a' w'):
  wpOp P ops Q i (fun a' w'=>(∀o,ops[i]? =some o→uu (mG pl ops i=false) pl (qL pl ops o) a w a' w')∧qu P pl ops Q fuel (bJ.setIfInBounds i true) a' w') a w:=by
 have r5:=Lz (ops:=ops) (K:=fun a' w'=>(∀o',ops[i]? =some o'→uu (mG pl ops i=false) pl (qL pl ops o') a w a' w')∧qu P pl ops Q fuel (bJ.setIfInBounds i true) a' w') (Q:=Q) hx h hd
  (fun a' w' dx X' eK h1 h2 h3=>⟨fun o' tF=>⟨fun zu=>(h3.1 zu).sub fun b hb=>(by rw [Da] at hb;cases hb),h3.2.sub fun b hb=>(by rw [Da] at hb;cases hb)⟩,hK a' w' dx X' eK h1 h2⟩)
  kV (fun ch w' dx X' eK hk Ea hp=>hQ ch a w' dx X' eK h.defers hk Ea hp)
 unfold wpOp;simp only [ho] at r5⊢;split
 ·rename_i hw;rw [if_pos hw] at r5;exact .inl r5
 ·rename_i hw;rw [if_neg hw] at r5;exact r5
theorem Db {Q:Exit→Act→World→Prop} (hN: ∀rn a' w' dx X' eK,eP pl ds rn dx X' eK a' w'→next dx eK X'→Q .normal a' w')
  (hQ: ∀ch a' w' dx X' eK,a'.defers=ds.ds→Kp X' eK w'→ug pl ds dx X' a' w'→ik ch dx eK X'→Q (.panic ch) a' w')
  (Fc: ∀c a (d:Option Nat) v w,(∀x,d=some x→ ∀p,p∈ds.pins→p.1≠x)→Q (.panic c) (a.put d v) w→Q (.panic c) a w) (zg:qJ ops=true):
  ∀(fuel:Nat) (bJ:Array Bool) (cs:CS) (tl:List TI) (env:Env) (X:XS) (w0:World) (a:Act) (w:World),
  sB P pl ops fuel bJ cs=some tl→(∀b,b∈kU tl→ ∀p,p∈ds.pins→p.1≠b)→eP pl ds cs env X w0 a w→gH P ik next tl env w0 X→qu P pl ops Q fuel bJ a w
 |0,bJ,cs,tl,env,X,w0,a,w,hc,_,h,hd=>by
  simp only [sB] at hc;split at hc
  ·rename_i hr;simp only [ax] at hc;subst hc;exact⟨by simpa using hr,hN _ _ _ _ _ _ h hd⟩
  ·cases hc
 |fuel+1,bJ,cs,tl,env,X,w0,a,w,hc,hm,h,hd=>by
  simp only [sB] at hc;split at hc
  ·rename_i i r hf;obtain⟨h1,h2,h3,o,ho,h4⟩:=vG hf;cases hs:sB P pl ops fuel (bJ.setIfInBounds i true) r.cs with
   |none=>simp [hs] at hc
   |some yJ=>
    simp only [hs,bH,ax] at hc;subst hc;rw [yp] at hd;rw [vF,C9] at hm;obtain⟨v,dx,hy,hS,hn⟩:=We h4 h2 h hd (fun b hb=>hm b (bX _ hb));have Ox: ∀j oj,ops[j]? =some oj→j≠i→bJ.getD j true=false→ ¬(j∈Cs ops bJ i∨j=i∨(bJ.getD j true=false∧ ∃oj,ops[j]? =some oj∧waits oj i=true))→_:=
     fun j oj hj bW BR s9=>Lu ho h3 j oj hj bW BR (fun hb=>s9 (.inl hb)) (by
      cases hw:waits oj i with
      |false=>rfl
      |true=>exact absurd (.inr (.inr ⟨BR,oj,hj,hw⟩)) s9)
    obtain⟨Y,U9,hY,fV⟩: ∃Y:Act→World→Prop,(∀a w,Y a w→Yx P ops o v a w)∧Y a w∧ ∀j oj,oj.dst=oj.dst→o.apart ops oj=true→(mG pl ops j=false∨yn o=true∨Oi o r.rb=true)→(∀b,b∈qL pl ops oj→ ¬b∈r.rb)→
      QS pl ops o oj (mG pl ops j=false) (qL pl ops oj) Y:=by
     cases zu:Oi o r.rb with
     |false=>exact⟨YF P pl r.rb ops o v,fun _ _ h=>h.yx,hy.1,fun j oj _ _ h4 h5=>YF.Yq (h4.imp id fun h=>h.elim id fun h=>by cases h) h5⟩
     |true=>
      unfold Oi at zu;split at zu
      ·rename_i t x YC;have YE:x∈r.rb:=by simpa using zu
       refine⟨YL P pl x ops o v,fun _ _ h=>h.yx,hy.2 x YE,fun j oj _ GB _ h5=>YL.Yq (fun d hd YG=>?_) fun hm=>h5 x hm YE⟩;subst YG;refine(qK GB).2.2 d hd (bX _ (List.mem_filterMap.2 ⟨.tmp d,?_,rfl⟩));simp [YC,Op.operands]
      ·cases zu
    refine GC U9 ho (rW zg) (On ho h3) (fun c a' w' hq=>Fc c a' o.dst v w' (h.apart h4 h2 fun b hb=>hm b (bX _ hb)) hq) fuel bJ a w
     (fun j=>j∈Cs ops bJ i∨j=i∨(bJ.getD j true=false∧ ∃oj,ops[j]? =some oj∧waits oj i=true)) (.inr (.inl rfl)) (fun j hj=>?_)
     (fun j oj hj bW BR s9=>have h:=Ox j oj hj bW BR s9;⟨h.1,fV j oj rfl h.1 h.2.1 h.2.2⟩) h1 hY ?_
    ·rcases hj with hj|rfl|⟨hu,oj,AD,hw⟩
     ·rcases Ol j hj with h|⟨h,oj,k,q1,q2,q3⟩
      ·exact .inl h
      ·exact .inr ⟨h,oj,k,q1,q2,.inl q3⟩
     ·exact .inl rfl
     ·exact .inr ⟨hu,oj,i,AD,hw,.inr (.inl rfl)⟩
    exact Db hN hQ Fc zg fuel _ r.cs yJ dx X w0 _ w hs (fun b hb=>hm b (dw _ hb)) hS hn
  ·split at hc
   ·rename_i i hr;split at hc
    ·rename_i o ho;split at hc
     ·rename_i r hx;split at hc
      ·rename_i Da;cases hs:sB P pl ops fuel (bJ.setIfInBounds i true) r.cs with
       |none=>simp [hs] at hc
       |some yJ=>
        simp only [hs,bH,ax] at hc;subst hc;rw [yp] at hd;rw [vF,C9] at hm;refine⟨fun h0=>(by rw [hr] at h0;cases h0),fun i' AF=>?_⟩;rw [hr] at AF;have hii:=List.mem_singleton.1 AF;subst hii;have lx: ∀b,b∈r.sb→b∈qL pl ops o:=fun b hb=>by have:=List.all_eq_true.1 Da b hb;simpa using this
        have r5:=Lz (ops:=ops) (K:=fun a' w'=>(∀o',ops[i']? =some o'→uu (mG pl ops i'=false) pl (qL pl ops o') a w a' w')∧qu P pl ops Q fuel (bJ.setIfInBounds i' true) a' w') (Q:=Q) hx h hd
         (fun a' w' dx X' eK h1 h2 h3=>⟨fun o' tF=>by rw [ho] at tF;injection tF with tF;subst tF;exact⟨fun zu=>(h3.1 zu).sub lx,h3.2.sub lx⟩,Db hN hQ Fc zg fuel _ r.cs yJ dx X' eK a' w' hs (fun b hb=>hm b (dw _ hb)) h1 h2⟩)
         (fun b hb=>hm b (bX _ hb)) (fun ch w' dx X' eK hk Ea hp=>hQ ch a w' dx X' eK h.defers hk Ea hp)
        unfold wpOp;simp only [ho] at r5⊢;split
        ·rename_i hw;rw [if_pos hw] at r5;exact .inl r5
        ·rename_i hw;rw [if_neg hw] at r5;exact r5
      ·cases hc
     ·cases hc
    ·cases hc
   ·rename_i i j hr;split at hc
    ·rename_i bi hp;cases hs:sB P pl ops fuel (bJ.setIfInBounds i true) (sA cs bi.1)with
     |none=>simp [hs] at hc
     |some yJ=>
      simp only [hs,bH,ax] at hc;subst hc;have hmc: ∀(i:TI) (l:List TI),kU (i::l)=kU [i]++kU l:=fun i l=>vF [i] l;rw [hmc] at hm;unfold ab8 at hp;split at hp
      ·rename_i bi' bj hbi hbj;split at hp
       ·rename_i hpc;simp only [ax] at hp;subst hp;simp only [aV,dH,beq_eq_false_iff_ne] at hpc;obtain⟨⟨bW,hri⟩,YH⟩:=hpc;replace hri:=Vd hri;replace YH:=Vd YH;obtain⟨oi,hoi,hai⟩:=Option.bind_eq_some_iff.1 hbi;obtain⟨oj,AD,haj⟩:=Option.bind_eq_some_iff.1 hbj;have Q5:=fun (cs:CS) (m:Bool)=>JB (cs:=cs) (ops:=ops) hai m;have hcj:=fun (cs:CS) (m:Bool)=>JB (cs:=cs) (ops:=ops) haj m;refine⟨fun h0=>(by rw [hr] at h0;cases h0),fun i' AF=>?_⟩;rw [hr] at AF;rcases List.mem_cons.1 AF with rfl|AF
        ·exact Q4 hoi (Q5 cs _) rfl h (hd:gH P ik (gH P ik next yJ) [vB bi'] env w0 X) (fun b hb=>hm b (bX _ hb)) hQ fun a' w' dx X' eK h1 h2=>Db hN hQ Fc zg fuel _ _ yJ dx X' eK a' w' hs (fun b hb=>hm b (dw _ hb)) h1 h2
        ·have vC:=List.mem_singleton.1 AF;subst vC;cases fuel with
         |zero=>
          simp only [sB,hri] at hs;cases hs
         |succ f=>
          simp only [sB,hri,x4,AD,cJ,hcj,Bool.false_and,bh,if_false,List.all_nil,if_true] at hs;cases dI:sB P pl ops f ((bJ.setIfInBounds i true).setIfInBounds i' true) (sA (sA cs bi'.1) bj.1)with
          |none=>simp [dI] at hs
          |some Q6=>
           simp only [dI,bH,ax] at hs;have htl:vB bj::Q6=yJ:=hs;subst htl;rw [hmc (vB bj) Q6] at hm;have qw:=YD bW hd;refine Q4 AD (hcj cs _) rfl h (qw:gH P ik (gH P ik next (vB bi'::Q6)) [vB bj] env w0 X) (fun b hb=>hm b (dw _ (bX _ hb))) hQ fun a' w' dx X' eK h1 h2=>?_;refine⟨fun h0=>(by rw [YH] at h0;cases h0),fun k hk=>?_⟩;rw [YH] at hk;have hki:=List.mem_singleton.1 hk;subst hki;refine Q4 hoi (Q5 _ _) rfl h1 (h2:gH P ik (gH P ik next Q6) [vB bi'] dx eK X') (fun b hb=>hm b (bX _ hb)) hQ fun a'' mN afS rl AG h3 h4=>?_;have hkj:k≠i':=fun e=>by
            subst e;rw [hoi] at AD;cases AD;rw [hai] at haj;cases haj;exact bW rfl
           rw [px _ _ hkj.symm];exact Db hN hQ Fc zg f _ _ Q6 afS rl AG a'' mN dI (fun b hb=>hm b (dw _ (dw _ hb))) (Wf h3) h4
       ·cases hp
      ·cases hp
    ·cases hc
   ·cases hc
theorem Oy {P:Program} {f:Nat→Option T} : ∀{l:List Nat} {t:T},MY l f=some t→ ∀i∈l,∃t',f i=some t'∧(∀K env w X,den P t K env w X→den P t' K env w X)∧ ∀b,b∈t'.mk→b∈t.mk
 |[],t,h,i,hi=>by cases hi
 |[j],t,h,i,hi=>by
  have yK:i=j:=List.mem_singleton.1 hi;subst yK;exact⟨t,by simpa [MY] using h,fun _ _ _ _ h=>h,fun _ h=>h⟩
 |j::k::r,t,h,i,hi=>by
  simp only [MY] at h;split at h
  ·rename_i a b ha hb;simp only [ax] at h;subst h;rcases List.mem_cons.1 hi with rfl|hi
   ·exact⟨a,ha,fun _ _ _ _ h=>h.1,fun b hb=>bX _ hb⟩
   ·obtain⟨t',h1,h2,h3⟩:=Oy (l:=k::r) hb i hi;exact⟨t',h1,fun _ _ _ _ h=>h2 _ _ _ _ h.2,fun b hb=>dw _ (h3 b hb)⟩
  ·cases h
theorem KA {K:na} {Q:Exit→Act→World→Prop} (hN: ∀rn a' w' dx X' eK,eP pl ds rn dx X' eK a' w'→K .normal dx eK X'→Q .normal a' w')
  (hQ: ∀ch a' w' dx X' eK,a'.defers=ds.ds→Kp X' eK w'→ug pl ds dx X' a' w'→K (.panic ch) dx eK X'→Q (.panic ch) a' w')
  (Fc: ∀c a (d:Option Nat) v w,(∀x,d=some x→ ∀p,p∈ds.pins→p.1≠x)→Q (.panic c) (a.put d v) w→Q (.panic c) a w) (zg:qJ ops=true):
  ∀(fuel:Nat) (bJ:Array Bool) (cs:CS) (t:T) (env:Env) (X:XS) (w0:World) (a:Act) (w:World),
  yH P pl ops fuel bJ cs=some t→(∀b,b∈t.mk→ ∀p,p∈ds.pins→p.1≠b)→eP pl ds cs env X w0 a w→den P t K env w0 X→qu P pl ops Q fuel bJ a w
 |0,bJ,cs,t,env,X,w0,a,w,hc,_,h,hd=>by
  simp only [yH] at hc;split at hc
  ·rename_i hr;simp only [ax] at hc;subst hc;exact⟨by simpa using hr,hN _ _ _ _ _ _ h hd⟩
  ·cases hc
 |fuel+1,bJ,cs,t,env,X,w0,a,w,hc,hm,h,hd=>by
  simp only [yH] at hc;split at hc
  ·rename_i i r hf;obtain⟨h1,h2,h3,o,ho,h4⟩:=vG hf;cases hs:yH P pl ops fuel (bJ.setIfInBounds i true) r.cs with
   |none=>simp [hs] at hc
   |some yJ=>
    simp only [hs,bH,ax] at hc;subst hc;have hd:gH P (fun ch=>K (.panic ch)) (fun e w X=>den P yJ K e w X) r.all env w0 X:=hd;have hm: ∀b,b∈kU r.l++yJ.mk→ ∀p,p∈ds.pins→p.1≠b:=by
     simp only [T.mk,C9] at hm;exact hm
    obtain⟨v,dx,hy,hS,hn⟩:=We h4 h2 h hd (fun b hb=>hm b (bX _ hb));have Ox: ∀j oj,ops[j]? =some oj→j≠i→bJ.getD j true=false→ ¬(j∈Cs ops bJ i∨j=i∨(bJ.getD j true=false∧ ∃oj,ops[j]? =some oj∧waits oj i=true))→_:=
     fun j oj hj bW BR s9=>Lu ho h3 j oj hj bW BR (fun hb=>s9 (.inl hb)) (by
      cases hw:waits oj i with
      |false=>rfl
      |true=>exact absurd (.inr (.inr ⟨BR,oj,hj,hw⟩)) s9)
    obtain⟨Y,U9,hY,fV⟩: ∃Y:Act→World→Prop,(∀a w,Y a w→Yx P ops o v a w)∧Y a w∧ ∀j oj,oj.dst=oj.dst→o.apart ops oj=true→(mG pl ops j=false∨yn o=true∨Oi o r.rb=true)→(∀b,b∈qL pl ops oj→ ¬b∈r.rb)→
      QS pl ops o oj (mG pl ops j=false) (qL pl ops oj) Y:=by
     cases zu:Oi o r.rb with
     |false=>exact⟨YF P pl r.rb ops o v,fun _ _ h=>h.yx,hy.1,fun j oj _ _ h4 h5=>YF.Yq (h4.imp id fun h=>h.elim id fun h=>by cases h) h5⟩
     |true=>
      unfold Oi at zu;split at zu
      ·rename_i t x YC;have YE:x∈r.rb:=by simpa using zu
       refine⟨YL P pl x ops o v,fun _ _ h=>h.yx,hy.2 x YE,fun j oj _ GB _ h5=>YL.Yq (fun d hd YG=>?_) fun hm=>h5 x hm YE⟩;subst YG;refine(qK GB).2.2 d hd (bX _ (List.mem_filterMap.2 ⟨.tmp d,?_,rfl⟩));simp [YC,Op.operands]
      ·cases zu
    refine GC U9 ho (rW zg) (On ho h3) (fun c a' w' hq=>Fc c a' o.dst v w' (h.apart h4 h2 fun b hb=>hm b (bX _ hb)) hq) fuel bJ a w
     (fun j=>j∈Cs ops bJ i∨j=i∨(bJ.getD j true=false∧ ∃oj,ops[j]? =some oj∧waits oj i=true)) (.inr (.inl rfl)) (fun j hj=>?_)
     (fun j oj hj bW BR s9=>have h:=Ox j oj hj bW BR s9;⟨h.1,fV j oj rfl h.1 h.2.1 h.2.2⟩) h1 hY ?_
    ·rcases hj with hj|rfl|⟨hu,oj,AD,hw⟩
     ·rcases Ol j hj with h|⟨h,oj,k,q1,q2,q3⟩
      ·exact .inl h
      ·exact .inr ⟨h,oj,k,q1,q2,.inl q3⟩
     ·exact .inl rfl
     ·exact .inr ⟨hu,oj,i,AD,hw,.inr (.inl rfl)⟩
    exact KA hN hQ Fc zg fuel _ r.cs yJ dx X w0 _ w hs (fun b hb=>hm b (dw _ hb)) hS hn
  ·refine⟨fun h0=>?_,fun i' AF=>?_⟩
   ·rw [h0] at hc;simp [MY] at hc
   obtain⟨t',h1,h2,h3⟩:=Oy (P:=P) hc i' AF;split at h1
   ·rename_i o ho;split at h1
    ·rename_i r hx;split at h1
     ·rename_i Da;cases hs:yH P pl ops fuel (bJ.setIfInBounds i' true) r.cs with
      |none=>simp [hs] at h1
      |some yJ=>
       simp only [hs,bH,ax] at h1;subst h1;have hd:gH P (fun ch=>K (.panic ch)) (fun e w X=>den P yJ K e w X) r.all env w0 X:=h2 _ _ _ _ hd;have hm: ∀b,b∈kU r.l++yJ.mk→ ∀p,p∈ds.pins→p.1≠b:=fun b hb=>hm b (h3 b (by
        simp only [T.mk,C9];exact hb))
       have lx: ∀b,b∈r.sb→b∈qL pl ops o:=fun b hb=>by have:=List.all_eq_true.1 Da b hb;simpa using this
       have r5:=Lz (ops:=ops) (K:=fun a' w'=>(∀o',ops[i']? =some o'→uu (mG pl ops i'=false) pl (qL pl ops o') a w a' w')∧qu P pl ops Q fuel (bJ.setIfInBounds i' true) a' w') (Q:=Q) hx h hd
        (fun a' w' dx X' eK h1 h2 h3=>⟨fun o' tF=>by rw [ho] at tF;injection tF with tF;subst tF;exact⟨fun zu=>(h3.1 zu).sub lx,h3.2.sub lx⟩,KA hN hQ Fc zg fuel _ r.cs yJ dx X' eK a' w' hs (fun b hb=>hm b (dw _ hb)) h1 h2⟩)
        (fun b hb=>hm b (bX _ hb)) (fun ch w' dx X' eK hk Ea hp=>hQ ch a w' dx X' eK h.defers hk Ea hp)
       unfold wpOp;simp only [ho] at r5⊢;split
       ·rename_i hw;rw [if_pos hw] at r5;exact .inl r5
       ·rename_i hw;rw [if_neg hw] at r5;exact r5
     ·cases h1
    ·cases h1
   ·cases h1
end
end Go.bu
