/-
 Part 1 of the proof: what the last text leans on.
-/
import Derived.KernelRfl
import Derived.Orders
import Derived.Below
import Derived.Laws.Sem
import Derived.Laws.CopyRow
import Derived.Laws.Entries
import Derived.Laws.Cells
import GoSem.Dispatch
open Option.some renaming injEq → az
open Go.Region renaming wanted → bQ, ready → fX, binds → rG, noSelect → sg, noSelect_spec → s8
open Bool renaming and_eq_true → aW, not_eq_true' → cu, false_eq_true → a8, or_eq_true → yz, not_eq_false → wB
open List renaming mem_append_left → bV, mem_filter → fG, mem_append_right → dB, mem_cons_of_mem → bA, range → dI, nil_append → dG, mem_cons → gU, mem_cons_self → iD, cons_append → rH, contains_iff_mem → sJ, all_eq_true → jk
open Go.Act renaming put → kG, eval → fH
open Option renaming map_some → bt, bind_some → cU, isNone_iff_eq_none → fA
open Go.Oper renaming upon → lD, wp → ib, apart_spec → sh
open Prod.mk renaming injEq → cy
open Nat renaming le_refl → bg, lt_of_lt_of_le → aH, le_trans → ah
open Go.Instr renaming sureAddr → iV, loadAt → gI
open Array renaming replicate → dH, getElem?_setIfInBounds_ne → jl, getElem?_eq_none → mS, toList_map → jm, any_eq_true' → uf, setIfInBounds_comm → qB, getElem?_setIfInBounds → dQ
open Go.Deferred renaming ofValue → im
set_option linter.unusedVariables false
set_option linter.unusedSimpArgs false
namespace Go.aR
theorem qF {p:Prop} (h:p:=by first|assumption|exact a7.cells (by assumption)):p:=h
theorem qO {p:Prop} (h:p:=by first|assumption|exact Own.sl (by assumption)):p:=h
theorem qM {p:Prop} (h:p:=by first|exact mv0|exact mv1 (by assumption)|exact mv2 (by assumption) (by assumption)):p:=h
theorem qN {p:Prop} (h:p:=by simp only [Value.cells,nq1,nq2,nq3,nq4,nq5,nq6,cV,nq7,nq8,nq9,nq0,Nat.reduceAdd,Nat.zero_add];try rfl):p:=h
theorem qE {p:Prop} (h:p:=by repeat' first|with_reducible apply TL|with_reducible exact W8|assumption|rfl|exact Sl.one (by assumption)|exact en.one (by assumption)|exact Sl.one (Own.sl (by assumption))):p:=h
theorem qC {p:Prop} (h:p:=by first|rfl|assumption|exact Sl.one (by assumption)|exact en.one (by assumption)|exact Sl.one (Own.sl (by assumption))):p:=h
theorem qR {p:Prop} (h:p:=by first|assumption|exact List.getElem?_eq_getElem (by omega)):p:=h
theorem qA {p:Prop} (h:p:=by first|assumption|exact Sl.mv (by assumption) qM|exact nh.mv (by assumption) qM|exact ni.mv (by assumption) qM|exact Rec.at.mv (by assumption) qM|exact Own.sl (by assumption)|exact Cells.mv (by assumption) qM|exact Cells.mv (a7.cells (by assumption)) qM|omega):p:=h
theorem kQ {p:Prop} (h:p:=by kernel_rfl):p:=h
theorem zQ {p:Prop} (h:p:=by omega):p:=h
abbrev Env:=Nat→Value
abbrev XS:=Nat→Prop
def kI (e:Env) (d:Nat) (v:Value):Env:=fun s=>match s==d with
 |true=>v
 |false=>e s
def Iu (e:Env) (d:Option Nat) (v:Value):Env:=match d with
 |some d=>kI e d v
 |none=>e
structure Fr (X:XS) (w w':World):Prop where
 os:w'.os=w.os
 tape:w'.tape=w.tape
 output:w'.output=w.output
 size:w.heap.size≤w'.heap.size
 block: ∀k,k<w.heap.size→ ¬X k→w'.heap[k]? =w.heap[k]?
def nX:XS:=fun _=>False
def Ext (w w':World):Prop:=Fr nX w w'
theorem Fr.refl (X:XS) (w:World):Fr X w w:=⟨rfl,rfl,rfl,bg _,fun _ _ _=>rfl⟩
theorem Fr.trans {X:XS} {a b c:World} (h:Fr X a b) (k:Fr X b c):Fr X a c:=
 ⟨k.os.trans h.os,k.tape.trans h.tape,k.output.trans h.output,ah h.size k.size,
  fun i hi hx=>(k.block i (aH hi h.size) hx).trans (h.block i hi hx)⟩
theorem Fr.mono {X Y:XS} {a b:World} (h:Fr X a b) (hs: ∀k,X k→Y k):Fr Y a b:=
 ⟨h.os,h.tape,h.output,h.size,fun i hi hy=>h.block i hi fun hx=>hy (hs i hx)⟩
theorem Ext.refl (w:World):Ext w w:=Fr.refl _ _
theorem Ext.trans {a b c:World} (h:Ext a b) (k:Ext b c):Ext a c:=Fr.trans h k
theorem Ext.fr {a b:World} (h:Ext a b) (X:XS):Fr X a b:=Fr.mono h (fun _ hf=>hf.elim)
theorem Ext.size {a b:World} (h:Ext a b):a.heap.size≤b.heap.size:=Fr.size h
theorem Ext.block {a b:World} (h:Ext a b) {k:Nat} (hk:k<a.heap.size):b.heap[k]? =a.heap[k]? :=Fr.block h k hk (fun hf=>hf)
theorem Ext.acK {a b:World} (h:RowKit.Below a.heap.size a b):Ext a b:=⟨h.os,h.tape,h.output,h.size,fun k hk _=>h.block k hk⟩
theorem Ext.below {a b:World} (h:Ext a b):RowKit.Below a.heap.size a b:=⟨h.os,h.tape,h.output,Fr.size h,fun _ hk=>h.block hk⟩
theorem Ext.alloc (w:World) (o:Obj):Ext w (w.alloc o):=Ext.acK ((RowKit.Below.refl _ _).alloc (bg _) o)
theorem Ext.drew (w:World):Ext w { w with drawn:=w.drawn+1 } :=⟨rfl,rfl,rfl,bg _,fun _ _ _=>rfl⟩
structure Kp (X:XS) (w w':World):Prop where
 os:w'.os=w.os
 tape:w'.tape=w.tape
 output:w'.output=w.output
 size:w.heap.size≤w'.heap.size
 block: ∀k,X k→w'.heap[k]? =w.heap[k]?
theorem Kp.refl (X:XS) (w:World):Kp X w w:=⟨rfl,rfl,rfl,bg _,fun _ _=>rfl⟩
theorem Kp.trans {X:XS} {a b c:World} (h:Kp X a b) (k:Kp X b c):Kp X a c:=
 ⟨k.os.trans h.os,k.tape.trans h.tape,k.output.trans h.output,ah h.size k.size,fun i hx=>(k.block i hx).trans (h.block i hx)⟩
theorem Kp.less {X Y:XS} {a b:World} (h:Kp X a b) (hs: ∀k,Y k→X k):Kp Y a b:=⟨h.os,h.tape,h.output,h.size,fun i hy=>h.block i (hs i hy)⟩
theorem Fr.kp {X Y:XS} {a b:World} (h:Fr X a b) (hy: ∀k,Y k→k<a.heap.size∧ ¬X k):Kp Y a b:=
 ⟨h.os,h.tape,h.output,h.size,fun i hi=>h.block i (hy i hi).1 (hy i hi).2⟩
theorem Ext.kp {X:XS} {a b:World} (h:Ext a b) (hx: ∀k,X k→k<a.heap.size):Kp X a b:=Fr.kp h fun k hk=>⟨hx k hk,fun hf=>hf⟩
def aV (w:World):XS:=fun k=>k<w.heap.size
theorem Kp.ext {a b:World} (h:Kp (aV a) a b):Ext a b:=⟨h.os,h.tape,h.output,h.size,fun k hk _=>h.block k hk⟩
theorem Ext.aV {a b:World} (h:Ext a b):Kp (aV a) a b:=h.kp fun _ hk=>hk
inductive Ex where
 |t (n:Nat)
 |c (v:Value)
 |s (b off n:Nat)
 |k (b off:Nat)
def cj (v:Value) (off n:Nat):Value:=.agg ((v.cells.toList.drop off).take n).toArray
def cellOf (v:Value) (i:Nat):Value:=v.cells.toList.getD i undef
def Ex.ev (env:Env):Ex→Value
 | .t n=>env n
 | .c v=>v
 | .s b off n=>cj (env b) off n
 | .k b off=>cellOf (env b) off
def Ex.TM:Ex→Nat→Bool
 | .t n,d=>n==d
 | .c _,_=>false
 | .s b _ _,d=>b==d
 | .k b _,d=>b==d
def look {α:Type} :List (Nat×α)→Nat→Option α
 |[],_=>none
 |(s,e)::r,t=>if s=t then some e else look r t
def Iv (env:Env) (ss:List (Nat×Ex)):Operand→Value
 | .tmp t=>match look ss t with
  |some e=>e.ev env
  |none=>env t
 | .const v=>v
 | .global g=>.pointer (some ⟨g,0,none⟩)
 | .func f=>.func (.func f) #[] #[]
def PS (op:Op) (ty:TypeId):Oper:=⟨none,op,ty, "",#[],none⟩
def vS (s:Sem Value):Sem Next:=do pure (.value (←s))
def FE (f:Value) (args:Array Value):Sem Next:=do let d←im f args;invoke d.target d.args
def vU (ρ:Operand→Value) (a:Array Operand):Array Value:=(a.toList.map ρ).toArray
def Ze (ρ:Operand→Value) (a:Array (Nat×Operand)):Array (Nat×Value):=(a.toList.map fun p=>(p.1,ρ p.2)).toArray
def Rj (ρ:Operand→Value) (op:Op) (ty:TypeId):Sem Next:=match op with
 | .call ⟨.value (.func f),args,_⟩=>callFunc f (vU ρ args)
 | .call ⟨.value (.tmp t),args,_⟩=>FE (ρ (.tmp t)) (vU ρ args)
 | .call ⟨.builtin .len,args,ts⟩=>vS (Builtin.len_ ts ty (vU ρ args))
 | .call ⟨.builtin .cap,args,ts⟩=>vS (Builtin.cap_ ts ty (vU ρ args))
 | .call ⟨.builtin .min,args,ts⟩=>vS (Builtin.min_ ts ty (vU ρ args))
 | .call ⟨.builtin .max,args,ts⟩=>vS (Builtin.max_ ts ty (vU ρ args))
 | .call ⟨.builtin .append,args,ts⟩=>vS (Builtin.append_ ts ty (vU ρ args))
 | .call ⟨.builtin .copy,args,ts⟩=>vS (Builtin.copy_ ts ty (vU ρ args))
 | .call ⟨.builtin .delete,args,ts⟩=>vS (Builtin.delete_ ts ty (vU ρ args))
 | .call ⟨.builtin .clear,args,ts⟩=>vS (Builtin.clear_ ts ty (vU ρ args))
 | .call ⟨.builtin .panic,args,_⟩=>vS (Instr.panic ((vU ρ args).toList.getD 0 .nilIface))
 | .build t ps=>vS (Instr.build t (Ze ρ ps))
 | .buildSlice t n ps=>vS (Instr.buildSlice t n (Ze ρ ps))
 | .makeFunc fn a b=>vS (Instr.makeFunc fn (vU ρ a) (vU ρ b))
 |op=>execOp ρ (PS op ty)
theorem afH (ρ:Operand→Value) (a:Array Operand):vU ρ a=a.map ρ:=by
 unfold vU;rw [←jm]
theorem afI (ρ:Operand→Value) (a:Array (Nat×Operand)):Ze ρ a=a.map fun p=>(p.1,ρ p.2):=by
 unfold Ze;rw [←jm]
theorem abc (ρ:Operand→Value) (hρ: ∀f,ρ (.func f)= .func (.func f) #[] #[]) (op:Op) (ty:TypeId):Rj ρ op ty=execOp ρ (PS op ty):=by
 unfold Rj;split<;>first
  |rfl
  |(simp [execOp,PS,resolve,invoke,im,afH,afI,vS,builtin,FE,hρ];done)
def cV (l:List Value) (off:Nat) (vs:List Value):List Value:=l.take off++vs++l.drop (off+vs.length)
def Rd (P:Program) (X:XS) (w:World) (s:Sem Next) (v:Value):Prop:= ∀wa,Kp X w wa→s.run P wa= .ok (.value v) wa
def lP (v:Value) (want:Bool):Bool:=match v with
 | .bool b=>b==want
 |_=>false
def bH:Value→Bool
 | .agg _=>true
 |_=>false
def one (v:Value):Bool:=match v with
 | .agg _| .tuple _=>false
 |_=>true
inductive TI where
 |uz (b:Nat)
 |set (d:Nat) (e:Ex)
 |box (b n:Nat) (e:Ex)
 |put (b off n:Nat) (e:Ex)
 |wY (b:Nat) (e:Ex)
 |TN (b off:Nat) (e:Ex)
 |fill (b n:Nat) (e:Ex)
 |rd (d:Nat) (op:Op) (ty:TypeId) (ss:List (Nat×Ex))
 |AE (d:Option Nat) (op:Op) (ty:TypeId) (ss:List (Nat×Ex)) (m:Bool)
 |TO (g:Nat) (want:Bool) (d:Nat) (e:Ex)
 |grd (g:Nat) (want:Bool) (d:Nat) (op:Op) (ty:TypeId) (ss:List (Nat×Ex))
 |TP (g:Nat) (want:Bool) (d:Option Nat) (op:Op) (ty:TypeId) (ss:List (Nat×Ex)) (m:Bool)
inductive T where
 |BP (l:List TI)
 |seq (a b:T)
 |ite (e:Ex) (a b:T)
 |alt (a b:T)
 |cZ (id:Nat) (a:T)
 |loop (M C:List Nat) (a:T)
 |exit (id:Nat)
 |ret
 |skip
def grow (X:XS) (w w':World):XS:=fun k=>X k∨(w.heap.size≤k∧k<w'.heap.size)
def Step (m:Bool) (X:XS) (w w':World):Prop:=if m then Fr X w w' else Ext w w'
theorem Step.fr {m:Bool} {X:XS} {w w':World} (h:Step m X w w'):Fr X w w':=by
 unfold Step at h;split at h
 ·exact h
 ·exact h.fr X
theorem Step.eE {m:Bool} {X:XS} {w w':World} (h:Ext w w'):Step m X w w':=by
 unfold Step;split
 ·exact h.fr X
 ·exact h
def iF (P:Program) (m:Bool) (X:XS) (w:World) (next:Value→World→XS→Prop) (gg:List PanicEntry→World→XS→Prop):Result Next→Prop
 | .ok (.value v) w'=>Step m X w w'∧next v w' (grow X w w')
 | .ok .skip w'=>Step m X w w'∧next undef w' (grow X w w')
 | .ok (.enter f args) w'=>w'=w∧Calls P f args w fun
   | .returned v,jg=>Step m X w jg∧next v jg (grow X w jg)
   | .panicked ch,jg=>Step m X w jg∧gg ch jg (grow X w jg)
   | .outgrown,_=>False
 | .halt (.panic v) w'=>Step m X w w'∧gg [{ v,recovered:=false }] w' (grow X w w')
 |_=>False
def aB (b:Bool) (N:Prop):Prop:=match b with
 |true=>N
 |false=>False
theorem dk {b:Bool} {N:Prop} :aB b N↔b=true∧N:=by cases b<;>simp [aB]
def ay (v:Value) (A B:Prop):Prop:=match v with
 | .bool t=>(t=true→A)∧(t=false→B)
 |_=>False
def TQ (P:Program) (gg:List PanicEntry→Env→World→XS→Prop) (next:Env→World→XS→Prop) (env:Env) (w:World) (X:XS):TI→Prop
 | .uz b=>aB (bH (env b)) (next env w X)
 | .set d e=>next (kI env d (e.ev env)) w X
 | .box b n e=>aB ((e.ev env).cells.toList.length==n) (next (kI env b (.agg (e.ev env).cells)) w X)
 | .put b off n e=>aB ((e.ev env).cells.toList.length==n) (aB ((e.ev env).cells.toList.all one)
   (next (kI env b (.agg (cV (env b).cells.toList off (e.ev env).cells.toList).toArray)) w X))
 | .wY b e=>aB (one (e.ev env)) (next (kI env b (.agg #[e.ev env])) w X)
 | .TN b off e=>aB (one (e.ev env)) (next (kI env b (.agg (cV (env b).cells.toList off [e.ev env]).toArray)) w X)
 | .fill b n e=>aB ((e.ev env).cells.toList.length==n) (aB ((e.ev env).cells.toList.all one) (next (kI env b (.agg (e.ev env).cells)) w X))
 | .rd d op ty ss=> ∃v,Rd P X w (Rj (Iv env ss) op ty) v∧next (kI env d v) w X
 | .AE d op ty ss m=> ∀wa,Kp X w wa→
   iF P m X wa (fun v w' X'=>next (Iu env d v) w' X') (fun ch w' X'=>gg ch env w' X') ((Rj (Iv env ss) op ty).run P wa)
 | .TO g want d e=>next (kI env d (if lP (env g) want then e.ev env else undef)) w X
 | .grd g want d op ty ss=> ∃v,(lP (env g) want=true→Rd P X w (Rj (Iv env ss) op ty) v)∧(lP (env g) want=false→v=undef)∧
   next (kI env d v) w X
 | .TP g want d op ty ss m=>
   (lP (env g) want=true→ ∀wa,Kp X w wa→
    iF P m X wa (fun v w' X'=>next (Iu env d v) w' X') (fun ch w' X'=>gg ch env w' X') ((Rj (Iv env ss) op ty).run P wa))∧
   (lP (env g) want=false→next (Iu env d undef) w X)
def fN (P:Program) (gg:List PanicEntry→Env→World→XS→Prop) (next:Env→World→XS→Prop):List TI→Env→World→XS→Prop
 |[],env,w,X=>next env w X
 |i::l,env,w,X=>TQ P gg (fN P gg next l) env w X i
abbrev jH:=Exit→Env→World→XS→Prop
def jH.CT (next:Env→World→XS→Prop) (K:jH):jH
 | .normal,e,w,X=>next e w X
 |ex,e,w,X=>K ex e w X
def jH.cZ (id:Nat) (K:jH):jH
 | .exit i,e,w,X=>if i=id then K .normal e w X else K (.exit i) e w X
 |ex,e,w,X=>K ex e w X
def CU (M:List Nat) (s:Nat):Bool:=match M with
 |[]=>false
 |x::r=>x==s||CU r s
theorem y6 {s:Nat} : ∀{M:List Nat},CU M s=true↔s∈M
 |[]=>by simp [CU]
 |x::r=>by
  simp only [CU,yz,beq_iff_eq,y6 (M:=r),gU];exact⟨fun h=>h.imp Eq.symm id,fun h=>h.imp Eq.symm id⟩
def merge (M:List Nat) (e env:Env):Env:=fun s=>match CU M s with
 |true=>e s
 |false=>env s
def den (P:Program):T→jH→Env→World→XS→Prop
 | .BP l,K,env,w,X=>fN P (fun ch=>K (.panic ch)) (fun e w X=>K .normal e w X) l env w X
 | .seq a b,K,env,w,X=>den P a (jH.CT (fun e w X=>den P b K e w X) K) env w X
 | .ite e a b,K,env,w,X=>ay (e.ev env) (den P a K env w X) (den P b K env w X)
 | .alt a b,K,env,w,X=>And (den P a K env w X) (den P b K env w X)
 | .cZ id a,K,env,w,X=>den P a (jH.cZ id K) env w X
 | .loop M C a,K,env,w,X=> ∃J:Nat→List Value→World→XS→Prop,(∃n,J n (C.map env) w X)∧
   ∀n (e:Env) w' X',(∀k,X k→X' k)→J n (C.map e) w' X'→den P a (jH.CT (fun e' jg sK=> ∃m,m<n∧J m (C.map e') jg sK) K) (merge M e env) w' X'
 | .exit id,K,env,w,X=>K (.exit id) env w X
 | .ret,K,env,w,X=>K .ret env w X
 | .skip,K,env,w,X=>K .normal env w X
structure bp where
 n:Nat
 boxes:List (Nat×Nat)
 Rk:List Nat
 nP:List Nat
 mat:List Nat
 car:List Nat
def bp.ij (pl:bp) (s:Nat):Bool:=pl.nP.contains s&&decide (s<pl.n)&&(look pl.boxes s).isNone&&!pl.Rk.contains s
def bp.kJ (pl:bp) (d:Nat):Bool:=decide (d<pl.n)&&(look pl.boxes d).isNone&&!pl.Rk.contains d
structure Ptr where
 s:Nat
 b:Nat
 off:Nat
 g:Option (Nat×Bool)
structure CS where
 sig:List (Nat×Ex)
 vV:List Ptr
 live:List Nat
def CS.start:CS:=⟨[],[],[]⟩
def valOf (pl:bp) (cs:CS):Operand→Option Ex
 | .tmp t=>if pl.ij t then some (.t t)else look cs.sig t
 | .const v=>some (.c v)
 | .global g=>some (.c (.pointer (some ⟨g,0,none⟩)))
 | .func f=>some (.c (.func (.func f) #[] #[]))
def Ez (og:Option (Nat×Bool)):List Ptr→Nat→Option (Nat×Nat)
 |[],_=>none
 |p::r,t=>if p.s=t then(if p.g.isNone||p.g==og then some (p.b,p.off)else none)else Ez og r t
def sL (pl:bp) (cs:CS) (og:Option (Nat×Bool)):Operand→Option (Nat×Nat×List Nat)
 | .tmp t=>match look pl.boxes t with
  |some _=>some (t,0,if cs.live.contains t then [] else [t])
  |none=>if pl.Rk.contains t then(Ez og cs.vV t).map fun (b,off)=>(b,off,[])else none
 |_=>none
def CS.kill (cs:CS) (d:Nat):CS:=
 ⟨cs.sig.filter fun p=>p.1 !=d&&!p.2.TM d,cs.vV.filter fun p=>p.b !=d&&p.s !=d&&(match p.g with|some (g,_)=>g !=d|none=>true),cs.live⟩
def CS.KM (cs:CS) (b:Nat):CS:=⟨cs.sig.filter fun p=>!p.2.TM b,cs.vV,cs.live⟩
def CS.bind (cs:CS) (pl:bp) (d:Nat):CS:=let c:=cs.kill d;if pl.ij d then c else { c with sig:=(d,.t d)::c.sig }
def CS.note (cs:CS) (d:Nat) (e:Ex):CS:= { cs with sig:=(d,e)::cs.sig.filter (fun p=>p.1 !=d),vV:=cs.vV.filter fun p=>p.s !=d }
def CS.vG (cs:CS) (d b off:Nat) (g:Option (Nat×Bool)):CS:=
 { cs with sig:=cs.sig.filter (fun p=>p.1 !=d),vV:=⟨d,b,off,g⟩::(cs.vV.filter fun p=>p.s !=d) }
def CS.jP (cs:CS) (l:List Nat):CS:= { cs with live:=l++cs.live }
def oG (pl:bp) (cs:CS) (d:Nat) (e:Ex):List TI×CS:=
 if pl.ij d||pl.mat.contains d then([.set d e],cs.bind pl d)else([],cs.note d e)
def fieldInfo (P:Program) (S f:Nat):Option (Nat×Nat):=
 match P.underlying S with
 |some (.struct fs)=>(fs[f]?).bind fun x=>(P.info? x.type).map fun i=>(x.offset,i.size)
 |_=>none
def subst (pl:bp) (cs:CS):List Operand→Option (List (Nat×Ex))
 |[]=>some []
 | .tmp t::r=>match valOf pl cs (.tmp t),subst pl cs r with
  |some e,some ss=>some (match e with
   | .t n=>if n=t then ss else(t,e)::ss
   |_=>(t,e)::ss)
  |_,_=>none
 |_::r=>subst pl cs r
def TR (P:Program) (t:Nat):Bool:=match P.underlying t with
 |some (.slice _)=>true
 |_=>false
def aks (P:Program):Op→Bool
 | .pick .. | .nilCheck _| .binOp .. | .unOp .. | .fieldAddr .. | .field .. | .indexAddr .. | .index .. | .extract .. | .slice .. | .build .. | .makeFunc ..
 | .makeInterface .. | .load .. | .lookup .. | .typeAssert .. | .move _| .assign _=>true
 | .convert s d _=>!TR P s&&!TR P d
 | .call { callee:=.builtin b,.. } =>match b with
  | .len| .cap| .min| .max=>true
  |_=>false
 |_=>false
structure CR where
 fl:Bool
 nd:List Nat
 l:List TI
 cs:CS
 rb:List Nat
 sb:List Nat
def FF:Op→Bool
 | .select .. =>false
 |_=>true
def CV (P:Program) (pl:bp) (cs:CS) (m:Bool) (o:Oper):Option CR:=
 match subst pl cs o.op.operands.toList with
 |none=>none
 |some ss=>if !FF o.op then none else
  match o.dst with
  |some d=>if !pl.kJ d then none else
   if aks P o.op then some ⟨true,[],[.rd d o.op o.type ss],cs.bind pl d,[],[]⟩else some ⟨false,[],[.AE (some d) o.op o.type ss m],cs.bind pl d,[],[]⟩
  |none=>some ⟨false,[],[.AE none o.op o.type ss m],cs,[],[]⟩
def iW (P:Program) (t:Nat):Option (Bool×Nat):=
 match P.underlying t,P.info? t with
 |some d,some i=>some ((match d with| .struct _| .array _ _=>true|_=>false),i.size)
 |_,_=>none
def TS (P:Program) (pl:bp) (cs:CS) (sz:Nat) (t:Nat) (e:Ex) (d:Nat):Option CR:=
 match iW P t with
 |some (ag,s)=>if decide (d<pl.n)&&s==sz then some ⟨false,[],[if !ag&&s==1 then .wY d e else .box d sz e],(cs.kill d).jP [d],[],[]⟩else none
 |none=>none
def Bi (P:Program) (pl:bp) (cs:CS) (og:Option (Nat×Bool)) (m:Bool) (o:Oper):Option CR:=
 match o.op with
 | .move x| .assign x=>match o.dst,valOf pl cs x with
  |some d,some e=>if pl.kJ d then(let r:=oG pl cs d e;some ⟨true,[],r.1,r.2,[],[]⟩)else none
  |_,_=>none
 | .box t x=>match o.dst with
  |some d=>match look pl.boxes d with
   |some sz=>match valOf pl cs x with
    |some e=>TS P pl cs sz t e d
    |none=>none
   |none=>CV P pl cs m o
  |none=>none
 | .alloc t=>match o.dst with
  |some d=>match look pl.boxes d with
   |some sz=>match(P.info? t).bind (·.zero)with
    |some z=>TS P pl cs sz t (.c z) d
    |none=>none
   |none=>CV P pl cs m o
  |none=>none
 | .fieldAddr S x f=>match sL pl cs og x with
  |some (b,off,nd)=>match o.dst,fieldInfo P S f with
   |some d,some (fo,sz)=>if pl.Rk.contains d&&decide (d<pl.n)&&(look pl.boxes d).isNone&&sz !=0 then
     some ⟨true,nd,[],(cs.jP nd).vG d b (off+fo) og,[],[]⟩else none
   |_,_=>none
  |none=>CV P pl cs m o
 | .load t x=>match sL pl cs og x with
  |some (b,off,nd)=>match o.dst,iW P t,look pl.boxes b with
   |some d,some (ag,sz),some bs=>if pl.kJ d&&decide (off+sz≤bs)&&(ag||sz==1)then
     (let r:=oG pl (cs.jP nd) d (if ag then .s b off sz else .k b off);some ⟨true,nd,r.1,r.2,[b],[]⟩)else none
   |_,_,_=>none
  |none=>CV P pl cs m o
 | .store t x v=>match sL pl cs og x with
  |some (b,off,nd)=>match o.dst,valOf pl cs v,iW P t,look pl.boxes b with
   |none,some e,some (ag,sz),some bs=>if decide (off+sz≤bs)then
     some ⟨false,nd,[if !ag&&sz==1 then .TN b off e else if off==0&&sz==bs then .fill b sz e else .put b off sz e],(cs.jP nd).KM b,[],[b]⟩else none
   |_,_,_,_=>none
  |none=>CV P pl cs m o
 |_=>CV P pl cs m o
def acM:Op→Bool
 | .fieldAddr .. =>true
 |_=>false
def mU (g:Nat) (want:Bool) (op:Op) (r:CR):Option CR:=
 match r.fl,r.l with
 |true,[]=>if acM op then some r else none
 |true,[.set d e]=>if d=g then none else some { r with l:=[.TO g want d e] }
 |true,[.rd d op ty ss]=>if d=g then none else some { r with l:=[.grd g want d op ty ss] }
 |false,[.AE d op ty ss m]=>if d=some g then none else some { r with l:=[.TP g want d op ty ss m] }
 |_,_=>none
def yA (P:Program) (pl:bp) (cs:CS) (ops:Array Oper) (m:Bool) (o:Oper):Option CR:=
 match o.guard with
 |none=>Bi P pl cs none m o
 |some (j,want)=>match(ops[j]?).bind (·.dst)with
  |none=>none
  |some gs=>match valOf pl cs (.tmp gs)with
   |some (.t g)=>(Bi P pl cs (some (g,want)) m o).bind (mU g want o.op)
   |_=>none
def CR.all (r:CR):List TI:=r.nd.map .uz++r.l
def FG (P:Program) (pl:bp) (ops:Array Oper):List Oper→CS→Option (List TI)
 |[],_=>some []
 |o::r,cs=>match yA P pl cs ops true o with
  |some x=>(FG P pl ops r x.cs).map (x.all++ ·)
  |none=>none
def waits (o:Oper) (i:Nat):Bool:=o.after.any fun e=>rG .any e&&e.on==i
def Zf (ops:Array Oper) (bI:Array Bool) (S:List Nat) (j:Nat):Bool:=!bI.getD j true&&match ops[j]? with
 |some o=>o.after.any fun e=>rG .any e&&S.contains e.on
 |none=>false
def DZ (ops:Array Oper) (bI:Array Bool) (i:Nat):List Nat:=(dI ops.size).foldl (fun S j=>if Zf ops bI S j then j::S else S) [i]
def akt (ops:Array Oper) (j:Nat):List Nat:=
 (dI (j+1)).reverse.foldl (fun S k=>if S.contains k then(match ops[k]? with
  |some o=>o.after.toList.foldl (fun S e=>if rG .any e&&!S.contains e.on then e.on::S else S) S
  |none=>S)else S) [j]
def zt (o:Oper):Bool:=match o.op with
 | .extract .. =>true
 | .move .. =>true
 |_=>false
def ldX (pl:bp) (o:Oper):Bool:=match o.op with
 | .load _ (.tmp x)=>(look pl.boxes x).isSome
 |_=>false
def Rl (o:Oper) (rb:List Nat):Bool:=match o.op with
 | .load _ (.tmp x)=>rb.contains x
 |_=>false
def agS (o:Oper):Bool:=match o.op with
 | .alloc _=>true
 |_=>false
def nj (pl:bp) (ops:Array Oper) (j:Nat):Bool:=
 match ops[j]? with
 |some oj=>(match oj.dst with|some d=>pl.mat.contains (1000000+d)|none=>false)||pl.mat.contains (2000000+j)||((dI ops.size).all fun i=>i==j||waits oj i||(match ops[i]? with
  |some oi=>waits oi j||zt oi||ldX pl oi||agS oi
  |none=>true))||(let B:=akt ops j++DZ ops (dH ops.size false) j;(dI ops.size).all fun i=>B.contains i||(match ops[i]? with
  |some oi=>zt oi||ldX pl oi||agS oi
  |none=>true))
 |none=>false
def abd (pl:bp) (ops:Array Oper):Nat→Operand→Option Nat
 |0,_=>none
 |n+1,.tmp t=>match look pl.boxes t with
  |some _=>some t
  |none=>match ops.find? (fun o=>o.dst==some t)with
   |some o=>(match o.op with
    | .fieldAddr _ x _=>abd pl ops n x
    |_=>none)
   |none=>none
 |_+1,_=>none
def si (pl:bp) (ops:Array Oper) (o:Oper):List Nat:=match o.op with
 | .store _ x _=>(abd pl ops 6 x).toList
 |_=>[]
def KN (pl:bp) (ops:Array Oper) (bI:Array Bool) (i:Nat) (rb:List Nat):Bool:=
 match ops[i]? with
 |none=>false
 |some oi=>(match oi.dst with
   |some d=>(look pl.boxes d).isNone
   |none=>true)&&(dI ops.size).all fun j=>j==i||bI.getD j true||match ops[j]? with
   |some oj=>waits oj i||(oi.apart ops oj&&(zt oi||Rl oi rb||!nj pl ops j)&&(si pl ops oj).all fun b=>!rb.contains b)||(DZ ops bI i).contains j
   |none=>true
def y7 (P:Program) (pl:bp) (ops:Array Oper) (cs:CS) (bI:Array Bool):List Nat→Option (Nat×CR)
 |[]=>none
 |i::r=>match(ops[i]?).bind (yA P pl cs ops (nj pl ops i))with
  |some x=>if x.fl&&KN pl ops bI i x.rb then some (i,x)else y7 P pl ops cs bI r
  |none=>y7 P pl ops cs bI r
def FH (P:Program) (pl:bp) (o:Oper):Option (Nat×Nat×Bool×Value):=match o.guard,o.op,o.dst with
 |none,.alloc t,some d=>match look pl.boxes d,(P.info? t).bind (·.zero),iW P t with
  |some sz,some z,some (ag,s)=>if decide (d<pl.n)&&s==sz then some (d,sz,!ag&&s==1,z)else none
  |_,_,_=>none
 |_,_,_=>none
def wZ:Nat×Nat×Bool×Value→TI
 |(d,sz,one,z)=>if one then .wY d (.c z)else .box d sz (.c z)
def tU (cs:CS) (d:Nat):CS:=(cs.kill d).jP [d]
def Zg (l:List Nat) (i:Nat):Bool:=match l with
 |[x]=>x==i
 |_=>false
def afe (P:Program) (pl:bp) (ops:Array Oper) (bI:Array Bool) (i j:Nat):Option (Nat×Nat×Bool×Value):=
 match(ops[i]?).bind (FH P pl),(ops[j]?).bind (FH P pl)with
 |some bi,some bj=>if !(bi.1==bj.1)&&Zg (fX .any ops (bI.setIfInBounds i true)) j&&Zg (fX .any ops (bI.setIfInBounds j true)) i then some bi else none
 |_,_=>none
def tV (P:Program) (pl:bp) (ops:Array Oper):Nat→Array Bool→CS→Option (List TI)
 |0,bI,_=>if(fX .any ops bI).isEmpty then some [] else none
 |fuel+1,bI,cs=>
  match y7 P pl ops cs bI (fX .any ops bI)with
  |some (i,x)=>(tV P pl ops fuel (bI.setIfInBounds i true) x.cs).map (x.all++ ·)
  |none=>match fX .any ops bI with
   |[i]=>match ops[i]? with
    |some o=>match yA P pl cs ops (nj pl ops i) o with
     |some x=>if x.sb.all fun b=>(si pl ops o).contains b then(tV P pl ops fuel (bI.setIfInBounds i true) x.cs).map (x.all++ ·)else none
     |none=>none
    |none=>none
   |[i,j]=>match afe P pl ops bI i j with
    |some b=>(tV P pl ops fuel (bI.setIfInBounds i true) (tU cs b.1)).map (wZ b:: ·)
    |none=>none
   |_=>none
def PT:List Nat→(Nat→Option T)→Option T
 |[],_=>none
 |i::r,f=>match r with
  |[]=>f i
  |j::r=>match f i,PT (j::r) f with
   |some a,some b=>some (.alt a b)
   |_,_=>none
def zD (P:Program) (pl:bp) (ops:Array Oper):Nat→Array Bool→CS→Option T
 |0,bI,_=>if(fX .any ops bI).isEmpty then some .skip else none
 |fuel+1,bI,cs=>
  match y7 P pl ops cs bI (fX .any ops bI)with
  |some (i,x)=>(zD P pl ops fuel (bI.setIfInBounds i true) x.cs).map (.seq (.BP x.all) ·)
  |none=>PT (fX .any ops bI) fun i=>match ops[i]? with
   |some o=>match yA P pl cs ops (nj pl ops i) o with
    |some x=>if x.sb.all fun b=>(si pl ops o).contains b then(zD P pl ops fuel (bI.setIfInBounds i true) x.cs).map (.seq (.BP x.all) ·)else none
    |none=>none
   |none=>none
def TI.Hi:TI→List Nat
 | .set d _=>[d]
 | .box b _ _=>[b]
 | .wY b _=>[b]
 | .rd d _ _ _=>[d]
 | .AE d _ _ _ _=>d.toList
 | .TO _ _ d _=>[d]
 | .grd _ _ d _ _ _=>[d]
 | .TP _ _ d _ _ _ _=>d.toList
 |_=>[]
def lE (l:List TI):List Nat:=l.flatMap TI.Hi
def TI.wr:TI→List Nat
 | .uz _=>[]
 | .set d _=>[d]
 | .box b _ _=>[b]
 | .put b _ _ _=>[b]
 | .wY b _=>[b]
 | .TN b _ _=>[b]
 | .fill b _ _=>[b]
 | .rd d _ _ _=>[d]
 | .AE d _ _ _ _=>d.toList
 | .TO _ _ d _=>[d]
 | .grd _ _ d _ _ _=>[d]
 | .TP _ _ d _ _ _ _=>d.toList
def T.wr:T→List Nat
 | .BP l=>l.flatMap TI.wr
 | .seq a b=>a.wr++b.wr
 | .ite _ a b=>a.wr++b.wr
 | .alt a b=>a.wr++b.wr
 | .cZ _ a=>a.wr
 | .loop M _ a=>M++a.wr
 |_=>[]
def T.mk:T→List Nat
 | .BP l=>lE l
 | .seq a b=>a.mk++b.mk
 | .ite _ a b=>a.mk++b.mk
 | .alt a b=>a.mk++b.mk
 | .cZ _ a=>a.mk
 | .loop _ _ a=>a.mk
 |_=>[]
def qD:List Nat→List Nat→List Nat
 |[],acc=>acc
 |x::r,acc=>qD r (if acc.contains x then acc else x::acc)
def iq (P:Program) (pl:bp):Code→Option T
 | .skip=>some .skip
 | .region _ ops draw=>if draw then(if P.follows .mixedOrders&&sg ops then(match tV P pl ops ops.size (dH ops.size false) .start with
  |some l=>some (.BP l)
  |none=>zD P pl ops ops.size (dH ops.size false) .start)else none)else(FG P pl ops ops.toList .start).map .BP
 | .seq a b=>match iq P pl a,iq P pl b with
  |some x,some y=>some (match x,y with
   | .skip,y=>y
   |x,.skip=>x
   |x,y=>.seq x y)
  |_,_=>none
 | .cond c a b=>match valOf pl .start c,iq P pl a,iq P pl b with
  |some e,some x,some y=>some (.ite e x y)
  |_,_,_=>none
 | .block id a=>(iq P pl a).map (.cZ id)
 | .loop a=>(iq P pl a).map fun x=>.loop (qD x.wr []) ((qD x.wr []).filter (CU pl.car)) x
 | .exit id=>some (.exit id)
 | .ret=>some .ret
 |_=>none
def Al (P:Program) (pl:bp):List ResultVar→Option (List Ex×List Nat)
 |[]=>some ([],[])
 | .tmp t::r=>if pl.ij t then(Al P pl r).map fun (l,n)=>(.t t::l,n)else none
 | .cell a t::r=>match look pl.boxes a,iW P t with
  |some bs,some (ag,sz)=>if decide (sz≤bs)&&(ag||sz==1)then(Al P pl r).map fun (l,n)=>((if ag then .s a 0 sz else .k a 0)::l,a::n)else none
  |_,_=>none
structure FT where
 code:T
 res:List Ex
 live:List Nat
def cF (P:Program) (pl:bp) (fn:Func):Option FT:=
 if fn.ntmps==pl.n then
  match fn.body with
  |some c=>match iq P pl c,Al P pl fn.results.toList with
   |some t,some (r,n)=>some ⟨t,r,n⟩
   |_,_=>none
  |none=>none
 else none
def MG (l:List Ex) (env:Env):Value:=match l with
 |[e]=>e.ev env
 |l=>.tuple (l.map (·.ev env)).toArray
def FI (ft:FT) (R:Ending→World→Prop):jH
 | .normal,e,w,X| .ret,e,w,X=>aB (ft.live.all fun b=>bH (e b)) (∀wa,Kp X w wa→R (.returned (MG ft.res e)) wa)
 | .panic ch,_,w,X=> ∀wa,Kp X w wa→R (.panicked ch) wa
 |_,_,_,_=>False
def kA (args:Array Value):Env:=fun i=>args.toList.getD i undef
section
variable {P : Program} {ops : Array Oper} {Q : Exit → Act → World → Prop}
def dT (k off:Nat):Value:=.pointer (some ⟨k,off,none⟩)
def ZB (pl:bp) (RB:List Nat) (a:Act):XS:=fun k=> ∃b n,look pl.boxes b=some n∧ ¬b∈RB∧a.tmps[b]? =some (dT k 0)
def YF (P:Program) (pl:bp) (RB:List Nat) (ops:Array Oper) (o:Oper) (v:Value) (a:Act) (w:World):Prop:=
 (bQ o (yielded ops a.tmps)=true∧ ∀wa,Fr (ZB pl RB a) w wa→(execOp a.eval o).run P wa= .ok (.value v) wa)∨(bQ o (yielded ops a.tmps)=false∧v=undef)
def nQ (pl:bp) (sb:List Nat) (a:Act) (w:World) (a':Act) (w':World):Prop:=
 ∀RB,(∀b,b∈sb→ ¬b∈RB)→Fr (ZB pl RB a) w w'∧ ∀k,k<w.heap.size→ZB pl RB a' k→ZB pl RB a k
theorem YF.rel {pl:bp} {RB sb:List Nat} {o:Oper} {v:Value} {a a':Act} {w w':World} (h:YF P pl RB ops o v a w) (hx:nQ pl sb a w a' w') (hd: ∀b,b∈sb→ ¬b∈RB)
  (he:execOp a'.eval o=execOp a.eval o) (hw:bQ o (yielded ops a'.tmps)=bQ o (yielded ops a.tmps)):YF P pl RB ops o v a' w':=by
 obtain⟨h1,h2⟩:=hx RB hd;unfold YF at*;rw [he,hw];refine h.imp (fun ⟨g1,g2⟩=>⟨g1,fun wa ha=>g2 wa ?_⟩) id;exact⟨ha.os.trans h1.os,ha.tape.trans h1.tape,ha.output.trans h1.output,ah h1.size ha.size,
  fun k hk hz=>(ha.block k (aH hk h1.size) (fun CW=>hz (h2 k hk CW))).trans (h1.block k hk hz)⟩
def vW (pl:bp) (sb:List Nat) (a:Act) (w w':World):Prop:=
 ∀b n k,look pl.boxes b=some n→ ¬b∈sb→a.tmps[b]? =some (dT k 0)→w'.heap[k]? =w.heap[k]?
def vX (L:Prop) (pl:bp) (sb:List Nat) (a:Act) (w:World) (a':Act) (w':World):Prop:=(L→nQ pl sb a w a' w')∧vW pl sb a w w'
def Yx (P:Program) (ops:Array Oper) (o:Oper) (v:Value) (a:Act) (w:World):Prop:=
 (bQ o (yielded ops a.tmps)=true∧(execOp a.eval o).run P w= .ok (.value v) w)∨(bQ o (yielded ops a.tmps)=false∧v=undef)
def YL (P:Program) (pl:bp) (x:Nat) (ops:Array Oper) (o:Oper) (v:Value) (a:Act) (w:World):Prop:=
 (bQ o (yielded ops a.tmps)=true∧ ∃k n,look pl.boxes x=some n∧a.tmps[x]? =some (dT k 0)∧ ∀wa:World,wa.heap[k]? =w.heap[k]? →(execOp a.eval o).run P wa= .ok (.value v) wa)∨
  (bQ o (yielded ops a.tmps)=false∧v=undef)
theorem YF.yx {pl:bp} {RB:List Nat} {o:Oper} {v:Value} {a:Act} {w:World} (h:YF P pl RB ops o v a w):Yx P ops o v a w:=h.imp (fun ⟨g1,g2⟩=>⟨g1,g2 w (Fr.refl _ w)⟩) id
theorem YL.yx {pl:bp} {x:Nat} {o:Oper} {v:Value} {a:Act} {w:World} (h:YL P pl x ops o v a w):Yx P ops o v a w:=h.imp (fun ⟨g1,_,_,_,_,g2⟩=>⟨g1,g2 w rfl⟩) id
def TT (pl:bp) (ops:Array Oper) (oi oj:Oper) (L:Prop) (sb:List Nat) (Y:Act→World→Prop):Prop:=
 ∀a a' w w',vX L pl sb a w a' w'→execOp a'.eval oi=execOp a.eval oi→bQ oi (yielded ops a'.tmps)=bQ oi (yielded ops a.tmps)→
  (∀x:Nat,(∀d,oj.dst=some d→d≠x)→a'.tmps[x]? =a.tmps[x]?)→Y a w→Y a' w'
theorem vW.refl (pl:bp) (sb:List Nat) (a:Act) (w:World):vW pl sb a w w:=fun _ _ _ _ _ _=>rfl
theorem vW.TU {pl:bp} {sb:List Nat} {a:Act} {w w':World} {d:Option Nat} {v:Value} (hd: ∀x,d=some x→look pl.boxes x=none) (h:vW pl sb (a.put d v) w w'):vW pl sb a w w':=by
 intro b n k hb hn hk;refine h b n k hb hn ?_;cases d with
 |none=>exact hk
 |some x=>
  have du:x≠b:=fun e=>by subst e;rw [hd x rfl] at hb;cases hb
  simpa [kG,jl du] using hk
theorem vW.sub {pl:bp} {sb sb':List Nat} {a:Act} {w w':World} (h:vW pl sb a w w') (hs: ∀b,b∈sb→b∈sb'):vW pl sb' a w w':=
 fun b n k hb hn hk=>h b n k hb (fun hm=>hn (hs b hm)) hk
theorem Yx.wpOp {i:Nat} {o:Oper} {v:Value} {a:Act} {w:World} (hi:ops[i]? =some o) (hy:Yx P ops o v a w)
  {K:Act→World→Prop} (h:K (a.put o.dst v) w):wpOp P ops Q i K a w:=by
 unfold Go.wpOp;simp only [hi];rcases hy with⟨hw,hv⟩|⟨hw,rfl⟩
 ·simp only [hw,if_true,ib,hv,lD];exact .inl h
 ·simp only [hw,a8,if_false];exact h
theorem TV {pl:bp} {RB:List Nat} {a:Act} {d:Option Nat} {v:Value} (hd: ∀x,d=some x→look pl.boxes x=none):ZB pl RB (a.put d v)=ZB pl RB a:=by
 cases d with
 |none=>rfl
 |some x=>
  have hx:=hd x rfl
  funext k
  simp only [ZB,eq_iff_iff];have key: ∀b n,look pl.boxes b=some n→(a.put (some x) v).tmps[b]? =a.tmps[b]? :=fun b n hb=>by
   have du:x≠b:=fun e=>by subst e;rw [hx] at hb;cases hb
   simp [kG,jl du]
  constructor<;>rintro⟨b,n,h1,h2,h3⟩<;>refine⟨b,n,h1,h2,?_⟩
  ·rwa [key b n h1] at h3
  ·rwa [key b n h1]
theorem nQ.TU {pl:bp} {sb:List Nat} {a a':Act} {w w':World} {d:Option Nat} {v:Value} (hd: ∀x,d=some x→look pl.boxes x=none) (h:nQ pl sb (a.put d v) w (a'.put d v) w'):nQ pl sb a w a' w':=by
 intro RB hRB;have:=h RB hRB
 rwa [TV hd,TV hd] at this
theorem nQ.refl (pl:bp) (sb:List Nat) (a:Act) (w:World) (d:Option Nat) (v:Value) (hd: ∀x,d=some x→look pl.boxes x=none):nQ pl sb a w (a.put d v) w:=by
 intro RB _;rw [TV hd];exact⟨Fr.refl _ _,fun _ _ h=>h⟩
theorem abe {o:Oper} (hp:zt o=true) {ρ:Operand→Value} {v:Value} {w wa:World} (h:(execOp ρ o).run P w= .ok (.value v) w):(execOp ρ o).run P wa= .ok (.value v) wa:=by
 unfold zt at hp;split at hp
 ·rename_i x i ho;simp only [execOp,ho] at h⊢;unfold Instr.extract at h⊢;split at h<;>simp_all
  all_goals (split at h<;>simp_all)
 ·rename_i x ho;simp only [execOp,ho] at h⊢;simp_all
 ·cases hp
theorem YF.pure {pl:bp} {RB:List Nat} {o:Oper} {v:Value} {a a':Act} {w w':World} (h:YF P pl RB ops o v a w) (hp:zt o=true)
  (he:execOp a'.eval o=execOp a.eval o) (hw:bQ o (yielded ops a'.tmps)=bQ o (yielded ops a.tmps)):YF P pl RB ops o v a' w':=by
 unfold YF at*;rw [he,hw];exact h.imp (fun ⟨g1,g2⟩=>⟨g1,fun wa _=>abe hp (g2 w (Fr.refl _ _))⟩) id
def rQ (P:Program) (pl:bp) (ops:Array Oper) (Q:Exit→Act→World→Prop):Nat→Array Bool→Act→World→Prop
 |0,bI,a,w=>fX .any ops bI=[]∧Q .normal a w
 |fuel+1,bI,a,w=>
  (fX .any ops bI=[]→Q .normal a w)∧
  ∀i∈fX .any ops bI,wpOp P ops Q i (fun a' w'=>(∀o,ops[i]? =some o→vX (nj pl ops i=false) pl (si pl ops o) a w a' w')∧rQ P pl ops Q fuel (bI.setIfInBounds i true) a' w') a w
theorem NV {pl:bp} : ∀(fuel:Nat) (bI:Array Bool) (a:Act) (w:World),rQ P pl ops Q fuel bI a w→wpAny P .any ops Q fuel bI a w
 |0,_,_,_,h=>h
 |fuel+1,_,_,_,h=>⟨h.1,fun i hi=>wpOp_mono (fun a' w' h'=>NV fuel _ a' w' h'.2) (h.2 i hi)⟩
theorem YF.stb {pl:bp} {RB sb:List Nat} {oi oj:Oper} {v:Value} {L:Prop} (hL:L∨zt oi=true) (hd: ∀b,b∈sb→ ¬b∈RB):TT pl ops oi oj L sb (YF P pl RB ops oi v):=by
 intro a a' w w' hr e2 e3 _ hy;rcases hL with hl|hp
 ·exact hy.rel (hr.1 hl) hd e2 e3
 ·exact hy.pure hp e2 e3
theorem YL.stb {pl:bp} {x:Nat} {sb:List Nat} {oi oj:Oper} {v:Value} {L:Prop} (hx: ∀d,oj.dst=some d→d≠x) (hd: ¬x∈sb):TT pl ops oi oj L sb (YL P pl x ops oi v):=by
 intro a a' w w' hr e2 e3 e4 hy;unfold YL at*;rw [e2,e3,e4 x hx];exact hy.imp (fun ⟨g1,k,n,g2,g3,g4⟩=>⟨g1,k,n,g2,g3,fun wa hw=>g4 wa (hw.trans (hr.2 x n k g2 hd g3))⟩) id
theorem abf {pl:bp} {sb:List Nat} {L:Prop} {Y:Act→World→Prop} {j:Nat} {oi oj:Oper} {v:Value} (hj:ops[j]? =some oj) (Hj:oi.apart ops oj=true)
  (hsi: ∀cs b,oi.op≠ .select cs b) (hsj: ∀cs b,oj.op≠ .select cs b) (Ym: ∀x,oi.dst=some x→look pl.boxes x=none) (ed:TT pl ops oi oj L sb Y)
  (hQ: ∀c a w,Q (.panic c) (a.put oi.dst v) w→Q (.panic c) a w) {K:Act→World→Prop} {a:Act} {w:World}
  (hy:Y a w) (h:wpOp P ops Q j (fun a' w'=>vX L pl sb (a.put oi.dst v) w a' w'∧K a' w') (a.put oi.dst v) w):
  wpOp P ops Q j (fun a' w'=>vX L pl sb a w a' w'∧Y a' w'∧K (a'.put oi.dst v) w') a w:=by
 obtain⟨h1,h2,h3⟩:=sh Hj;have fin: ∀(a0:Act) (w':World) (u:Value),a0.tmps=a.tmps→vX L pl sb (a.put oi.dst v) w ((a0.put oi.dst v).put oj.dst u) w'→K ((a0.put oi.dst v).put oj.dst u) w'→
   vX L pl sb a w (a0.put oj.dst u) w'∧Y (a0.put oj.dst u) w'∧K ((a0.put oj.dst u).put oi.dst v) w':=by
  intro a0 w' u h0 hr hk;rw [Act.put_comm a0 v u h2] at hr hk;have qq:vX L pl sb a w (a0.put oj.dst u) w':=⟨fun hl:L=>(hr.1 hl).TU Ym,hr.2.TU Ym⟩;have e1:execOp a0.eval oi=execOp a.eval oi:=by
   have:a0.eval=a.eval:=by funext x;cases x<;>simp [fH,h0]
   rw [this]
  have e2:=(execOp_put oi hsi a0 oj.dst u h3).trans e1;have e3:bQ oi (yielded ops (a0.put oj.dst u).tmps)=bQ oi (yielded ops a.tmps):=(wanted_put oi a0 oj.dst u h3).trans (by rw [h0]);refine⟨qq,ed a _ w w' qq e2 e3 (fun x hx=>?_) hy,hk⟩;cases hod:oj.dst with
  |none=>simp [kG,h0]
  |some d=>simp [kG,h0,jl (hx d hod)]
 unfold wpOp at*;simp only [hj] at*;rw [wanted_put oj a oi.dst v h1] at h;split
 ·rename_i hw;simp only [hw,if_true] at h;rcases h with h|⟨aff,ajd⟩;case inr=>exact .inr ⟨by unfold Oper.asks at*;rw [execOp_put oj hsj a oi.dst v h1] at aff;exact aff,ajd⟩
  refine .inl ?_;unfold ib at*;rw [execOp_put oj hsj a oi.dst v h1] at h;generalize (execOp a.eval oj).run P w=r at*;cases r with
  |ok n w'=>
   cases n<;>simp only [lD] at h⊢
   case value u=>exact fin a w' u rfl h.1 h.2
   case skip=>exact fin a w' undef rfl h.1 h.2
   case defer d=>
    have e:({ a.put oi.dst v with defers:=d::(a.put oi.dst v).defers } :Act)=({ a with defers:=d::a.defers } :Act).put oi.dst v:=Act.put_defers a oi.dst v d;rw [e] at h;exact fin { a with defers:=d::a.defers } w' undef rfl h.1 h.2
   case enter f args=>
    refine Calls.mono h fun e jg he=>?_;cases e with
    |returned u=>exact fin a jg u rfl he.1 he.2
    |panicked c=>exact hQ _ _ _ he
    |outgrown=>exact he
   case row row args=>exact Rows.mono h fun u jg he=>fin a jg u rfl he.1 he.2
  |halt x w'=>
   cases x<;>simp only [lD] at h⊢
   case panic u=>exact hQ _ _ _ h
 ·rename_i hw;simp only [hw] at h;exact fin a w undef rfl h.1 h.2
theorem Rm {o:Oper} {i:Nat} :waits o i=true↔ ∃e∈o.after,rG .any e=true∧e.on=i:=by
 unfold waits;rw [uf];simp
theorem Rn {bI:Array Bool} {i:Nat} : ∀j,j∈DZ ops bI i→j=i∨(bI.getD j true=false∧ ∃oj k,ops[j]? =some oj∧waits oj k=true∧k∈DZ ops bI i):=by
 unfold DZ;have key: ∀(l:List Nat) (S:List Nat),(∀j,j∈S→j=i∨(bI.getD j true=false∧ ∃oj k,ops[j]? =some oj∧waits oj k=true∧k∈S))→
   ∀j,j∈l.foldl (fun S j=>if Zf ops bI S j then j::S else S) S→j=i∨(bI.getD j true=false∧ ∃oj k,ops[j]? =some oj∧waits oj k=true∧k∈l.foldl (fun S j=>if Zf ops bI S j then j::S else S) S):=by
  intro l
  induction l with
  |nil=>intro S hS j hj;exact hS j hj
  |cons x l ih=>
   intro S hS;rw [List.foldl_cons];refine ih _ ?_;split
   ·rename_i hc;simp only [Zf,aW,cu] at hc;obtain⟨h1,h2⟩:=hc;intro j hj;rcases List.mem_cons.1 hj with rfl|hj
    ·right;cases ho:ops[j]? with
     |none=>simp [ho] at h2
     |some o=>
      simp only [ho,uf,aW,sJ] at h2;obtain⟨e,he,hb,hm⟩:=h2;exact⟨h1,o,e.on,rfl,Rm.2 ⟨e,he,hb,rfl⟩,bA _ hm⟩
    ·rcases hS j hj with h|⟨h,oj,k,h3,h4,h5⟩
     ·exact .inl h
     ·exact .inr ⟨h,oj,k,h3,h4,bA _ h5⟩
   ·exact hS
 exact key _ _ fun j hj=>.inl (by simpa using hj)
theorem Iw {pl:bp} {Y:Act→World→Prop} {i:Nat} {oi:Oper} {v:Value} (NW: ∀a w,Y a w→Yx P ops oi v a w) (hi:ops[i]? =some oi) (Am: ∀(j:Nat) (o:Oper) cs b,ops[j]? =some o→o.op≠ .select cs b)
  (Ym: ∀x,oi.dst=some x→look pl.boxes x=none) (hQ: ∀c a w,Q (.panic c) (a.put oi.dst v) w→Q (.panic c) a w):
  ∀(fuel:Nat) (bI:Array Bool) (a:Act) (w:World) (S:Nat→Prop),S i→
   (∀j,S j→j=i∨(bI.getD j true=false∧ ∃oj k,ops[j]? =some oj∧waits oj k=true∧S k))→
   (∀j oj,ops[j]? =some oj→j≠i→bI.getD j true=false→ ¬S j→oi.apart ops oj=true∧TT pl ops oi oj (nj pl ops j=false) (si pl ops oj) Y)→
   i∈fX .any ops bI→Y a w→
   rQ P pl ops Q fuel (bI.setIfInBounds i true) (a.put oi.dst v) w→rQ P pl ops Q (fuel+1) bI a w:=by
 intro fuel
 induction fuel with
 |zero=>
  intro bI a w S _ hS _ hr hy H;refine⟨fun h=>(by rw [h] at hr;cases hr),fun j hj=>?_⟩;by_cases Ix:j=i
  ·subst Ix;exact(NW _ _ hy).wpOp hi ⟨fun _ _=>⟨fun _=>nQ.refl pl _ a w _ _ Ym,vW.refl _ _ _ _⟩,H⟩
  ·have:=ready_mono hj Ix;rw [H.1] at this;cases this
 |succ fuel ih=>
  intro bI a w S hSi hS afg hr hy H;refine⟨fun h=>(by rw [h] at hr;cases hr),fun j hj=>?_⟩;by_cases Ix:j=i
  ·subst Ix;exact(NW _ _ hy).wpOp hi ⟨fun _ _=>⟨fun _=>nQ.refl pl _ a w _ _ Ym,vW.refl _ _ _ _⟩,H⟩
  ·have h1:=H.2 j (ready_mono hj Ix);obtain⟨agT,oj,BQ,An⟩:=mem_ready.1 hj;have agU: ¬S j:=by
    intro hjS;rcases hS j hjS with h|⟨_,oj',k,agV,hwt,hkS⟩
    ·exact Ix h
    ·rw [BQ] at agV;cases agV;obtain⟨e,he,hb,heq⟩:=Rm.1 hwt;have h1:=An e he hb;rw [heq] at h1;have h0:bI.getD k true=false:=by
      rcases hS k hkS with h|h
      ·subst h;exact(mem_ready.1 hr).1
      ·exact h.1
     rcases Nat.lt_or_ge k bI.size with h'|h'
     ·simp [h'] at h0 h1;rw [h0] at h1;cases h1
     ·simp [mS h'] at h1
   obtain⟨Hj,aku⟩:=afg j oj BQ Ix agT agU;have Iy:=wpOp_mono (K':=fun a' w'=>vX (nj pl ops j=false) pl (si pl ops oj) (a.put oi.dst v) w a' w'∧rQ P pl ops Q fuel ((bI.setIfInBounds i true).setIfInBounds j true) a' w')
    (fun a' w' h'=>⟨h'.1 oj BQ,h'.2⟩) h1
   have h2:=abf BQ Hj (fun cs b=>Am i oi cs b hi) (fun cs b=>Am j oj cs b BQ) Ym aku hQ hy Iy;have agW: ∀k ok,ops[k]? =some ok→k≠i→(bI.setIfInBounds j true).getD k true=false→ ¬S k→
     oi.apart ops ok=true∧TT pl ops oi ok (nj pl ops k=false) (si pl ops ok) Y:=fun k ok hk hki CX ka=>by
    refine afg k ok hk hki ?_ ka;by_cases hjk:j=k
    ·subst hjk;exact agT
    ·rw [getD_set_ne true hjk] at CX;exact CX
   have hS': ∀k,S k→k=i∨((bI.setIfInBounds j true).getD k true=false∧ ∃oj k',ops[k]? =some oj∧waits oj k'=true∧S k'):=fun k hk=>by
    rcases hS k hk with h|⟨h,h2⟩
    ·exact .inl h
    ·exact .inr ⟨by rw [getD_set_ne true (fun e=>agU (by rw [e];exact hk))];exact h,h2⟩
   refine wpOp_mono (fun a' w' h3=>⟨fun o ho=>?_,ih (bI.setIfInBounds j true) a' w' S hSi hS' agW (ready_mono hr (Ne.symm Ix)) h3.2.1 ?_⟩) h2
   ·rw [BQ] at ho;injection ho with ho;subst ho;exact h3.1
   rw [qB _ _ Ix];exact h3.2.2
theorem Ro {pl:bp} {RB:List Nat} {i:Nat} {oi:Oper} {bI:Array Bool} (hi:ops[i]? =some oi) (h:KN pl ops bI i RB=true): ∀x,oi.dst=some x→look pl.boxes x=none:=by
 simp only [KN,hi,aW] at h;intro x hx;have:=h.1;rw [hx] at this;simpa using this
theorem NX {pl:bp} {RB:List Nat} {i:Nat} {oi:Oper} {bI:Array Bool} (hi:ops[i]? =some oi) (h:KN pl ops bI i RB=true) (j:Nat) (oj:Oper)
  (hj:ops[j]? =some oj) (du:j≠i) (CX:bI.getD j true=false) (ka: ¬j∈DZ ops bI i) (hnw:waits oj i=false):
  oi.apart ops oj=true∧(nj pl ops j=false∨zt oi=true∨Rl oi RB=true)∧ ∀b,b∈si pl ops oj→ ¬b∈RB:=by
 simp only [KN,hi,aW,jk,List.mem_range] at h;have h1:=h.2 j (Array.getElem?_eq_some_iff.1 hj).1;simp only [hj,yz,beq_iff_eq,du,false_or,CX,a8,hnw,aW,cu,jk,sJ,ka,or_false] at h1;exact⟨h1.1.1,h1.1.2.elim (fun h=>.inr h) .inl,fun b hb=>by have:=h1.2 b hb;simpa using this⟩
end
def AF (env:Env):Option (Nat×Bool)→Prop
 |none=>True
 |some (g,want)=>lP (env g) want=true
structure Bk where
 ds:List Deferred
 pins:List (Nat×Value)
structure ek (pl:bp) (ds:Bk) (cs:CS) (env:Env) (X:XS) (w0:World) (a:Act) (w:World):Prop where
 size:a.tmps.size=pl.n
 defers:a.defers=ds.ds
 wC: ∀p,p∈ds.pins→a.tmps[p.1]? =some p.2∧((∃n k,look pl.boxes p.1=some n∧p.2=dT k 0)∨pl.ij p.1=true)
 ext:Kp X w0 w
 sM: ∀k,X k→k<w.heap.size
 nP: ∀s,pl.ij s=true→a.tmps[s]? =some (env s)
 sig: ∀p,p∈cs.sig→a.tmps[p.1]? =some (p.2.ev env)
 box: ∀b n,look pl.boxes b=some n→ ∀cells,env b= .agg cells→ ∃k ty,a.tmps[b]? =some (dT k 0)∧w.heap[k]? =some (.cells cells ty (0,0))∧cells.size=n∧ ¬X k
 inj: ∀b b' n n',look pl.boxes b=some n→look pl.boxes b'=some n'→bH (env b)=true→bH (env b')=true→ ∀k,a.tmps[b]? =some (dT k 0)→a.tmps[b']? =some (dT k 0)→b=b'
 conv: ∀b n,look pl.boxes b=some n→ ∀k,a.tmps[b]? =some (dT k 0)→bH (env b)=true
 live: ∀b,b∈cs.live→(∃n,look pl.boxes b=some n)∧bH (env b)=true
 ptr: ∀p,p∈cs.vV→(∃n,look pl.boxes p.b=some n)∧(AF env p.g→bH (env p.b)=true∧ ∃k,a.tmps[p.b]? =some (dT k 0)∧a.tmps[p.s]? =some (dT k p.off))
theorem tW (a:Act) (d:Nat) (v:Value) (s:Nat) (hd:d<a.tmps.size):(a.put (some d) v).tmps[s]? =if s=d then some v else a.tmps[s]? :=by
 simp only [kG,dQ];by_cases h:s=d
 ·subst h;simp [hd]
 ·rw [if_neg (Ne.symm h),if_neg h]
theorem eG (a:Act) (d:Nat) (v:Value) (s:Nat) (h:s≠d):(a.put (some d) v).tmps[s]? =a.tmps[s]? :=by
 simp only [kG,dQ];rw [if_neg (Ne.symm h)]
theorem jX (e:Env) (d:Nat) (v:Value):kI e d v d=v:=by simp [kI]
theorem fV (e:Env) {d s:Nat} (v:Value) (h:s≠d):kI e d v s=e s:=by
 have:(s==d)=false:=by simpa using h
 simp [kI,this]
theorem TW {e:Ex} {d:Nat} (h:e.TM d=false) (env:Env) (v:Value):e.ev (kI env d v)=e.ev env:=by
 cases e<;>simp only [Ex.TM,beq_eq_false_iff_ne,ne_eq] at h<;>simp [Ex.ev,fV,h]
theorem qG {v:Value} :bH v=true↔ ∃c,v= .agg c:=by
 cases v<;>simp [bH]
section
variable {P : Program} {pl : bp} {ds : Bk} {cs : CS} {env : Env} {X : XS} {w0 w : World} {a : Act}
theorem nz {s:Nat} (h:pl.ij s=true):s<pl.n∧look pl.boxes s=none∧pl.Rk.contains s=false:=by
 simp only [bp.ij,aW,decide_eq_true_eq,fA,cu] at h;exact⟨h.1.1.2,h.1.2,h.2⟩
theorem vH {s:Nat} (h:pl.kJ s=true):s<pl.n∧look pl.boxes s=none∧pl.Rk.contains s=false:=by
 simp only [bp.kJ,aW,decide_eq_true_eq,fA,cu] at h;exact⟨h.1.1,h.1.2,h.2⟩
theorem y8 {α:Type} {l:List (Nat×α)} {t:Nat} {e:α} (h:look l t=some e):(t,e)∈l:=by
 induction l with
 |nil=>cases h
 |cons p r ih=>
  obtain⟨s,x⟩:=p;simp only [look] at h;split at h
  ·rename_i hs;injection h with h
   subst hs h;exact iD ..
  ·exact bA _ (ih h)
theorem ek.eval (h:ek pl ds cs env X w0 a w) {x:Operand} {e:Ex} (hv:valOf pl cs x=some e):a.eval x=e.ev env:=by
 cases x with
 |tmp t=>
  simp only [valOf] at hv;split at hv
  ·rename_i hg;injection hv with hv
   subst hv;simp [fH,h.nP t hg,Ex.ev]
  ·have:=h.sig _ (y8 hv);simp only at this;simp [fH,this]
 |const v=>simp only [valOf,az] at hv;subst hv;rfl
 |global g=>simp only [valOf,az] at hv;subst hv;rfl
 |func f=>simp only [valOf,az] at hv;subst hv;rfl
theorem xa: ∀{l:List Operand} {ss:List (Nat×Ex)},subst pl cs l=some ss→
  (∀t e,look ss t=some e→valOf pl cs (.tmp t)=some e)∧(∀t,.tmp t∈l→look ss t=none→valOf pl cs (.tmp t)=some (.t t))
 |[],ss,h=>by
  simp only [subst,az] at h;subst h;exact⟨fun t e h=>(by cases h),fun t h=>(by cases h)⟩
 |x::r,ss,h=>by
  cases x with
  |tmp t=>
   simp only [subst] at h;cases hv:valOf pl cs (.tmp t)with
   |none=>simp [hv] at h
   |some e=>
    cases hr:subst pl cs r with
    |none=>simp [hv,hr] at h
    |some ss'=>
     obtain⟨i1,i2⟩:=xa hr;simp only [hv,hr,az] at h;have gen: ∀e',e=e'→ss=(t,e')::ss'→(∀u e,look ss u=some e→valOf pl cs (.tmp u)=some e)∧(∀u,.tmp u∈(.tmp t::r)→look ss u=none→valOf pl cs (.tmp u)=some (.t u)):=by
      intro e' he hs;subst hs;refine⟨fun u e2 hu=>?_,fun u hu hn=>?_⟩
      ·simp only [look] at hu;split at hu
       ·rename_i htu;injection hu with hu
        subst htu hu;rw [hv,he]
       ·exact i1 _ _ hu
      ·simp only [look] at hn;split at hn
       ·cases hn
       ·rename_i htu;rcases List.mem_cons.1 hu with h1|h1
        ·injection h1 with h1;exact absurd h1.symm htu
        ·exact i2 u h1 hn
     cases e with
     |t n=>
      simp only at h;split at h
      ·rename_i hnt;subst hnt h;refine⟨i1,fun u hu hn=>?_⟩;rcases List.mem_cons.1 hu with h1|h1
       ·injection h1 with h1;subst h1;exact hv
       ·exact i2 u h1 hn
      ·exact gen _ rfl h.symm
     |c v=>exact gen _ rfl h.symm
     |s b o n=>exact gen _ rfl h.symm
     |k b o=>exact gen _ rfl h.symm
  |const v=>
   obtain⟨i1,i2⟩:=xa (l:=r) (by simpa only [subst] using h);exact⟨i1,fun u hu hn=>(List.mem_cons.1 hu).elim (fun h1=>by cases h1) fun h1=>i2 u h1 hn⟩
  |global v=>
   obtain⟨i1,i2⟩:=xa (l:=r) (by simpa only [subst] using h);exact⟨i1,fun u hu hn=>(List.mem_cons.1 hu).elim (fun h1=>by cases h1) fun h1=>i2 u h1 hn⟩
  |func v=>
   obtain⟨i1,i2⟩:=xa (l:=r) (by simpa only [subst] using h);exact⟨i1,fun u hu hn=>(List.mem_cons.1 hu).elim (fun h1=>by cases h1) fun h1=>i2 u h1 hn⟩
theorem ek.Iv (h:ek pl ds cs env X w0 a w) {l:List Operand} {ss:List (Nat×Ex)} (hs:subst pl cs l=some ss):
  ∀x,x∈l→a.eval x=aR.Iv env ss x:=by
 obtain⟨i1,i2⟩:=xa hs;intro x hx;cases x with
 |tmp t=>
  simp only [aR.Iv];cases hl:look ss t with
  |some e=>exact h.eval (i1 t e hl)
  |none=>exact h.eval (i2 t hx hl)
 |const v=>rfl
 |global g=>rfl
 |func f=>rfl
theorem abg (ρ:Operand→Value) (o:Oper):execOp ρ o=execOp ρ (PS o.op o.type):=by
 cases o;rfl
theorem Zh {op:Op} (h:FF op=true): ∀cs b,op≠ .select cs b:=by
 intro cs b e;subst e;cases h
theorem ek.exec (h:ek pl ds cs env X w0 a w) {o:Oper} {ss:List (Nat×Ex)} (hs:subst pl cs o.op.operands.toList=some ss) (hn:FF o.op=true):
  execOp a.eval o=execOp (aR.Iv env ss) (PS o.op o.type):=by
 rw [execOp_congr o (Zh hn) fun x hx=>h.Iv hs x (by simpa using hx)];exact abg _ _
theorem ek.step (h:ek pl ds cs env X w0 a w) {X':XS} {dX w':World} (hx:Kp X' dX w') (hX: ∀k,X' k→k<w'.heap.size)
  (hb: ∀k,k<w.heap.size→ ¬X k→w'.heap[k]? =w.heap[k]? ∧ ¬X' k):ek pl ds cs env X' dX a w' where
 size:=h.size
 defers:=h.defers
 wC:=h.wC
 ext:=hx
 sM:=hX
 nP:=h.nP
 sig:=h.sig
 box:=fun b n hn cells hc=>by
  obtain⟨k,ty,h1,h2,h3,h4⟩:=h.box b n hn cells hc;obtain⟨e1,e2⟩:=hb k (Array.getElem?_eq_some_iff.1 h2).1 h4;exact⟨k,ty,h1,e1.trans h2,h3,e2⟩
 inj:=h.inj
 conv:=h.conv
 live:=h.live
 ptr:=h.ptr
theorem ek.gX (h:ek pl ds cs env X w0 a w) {w':World} (hx:Ext w w'):ek pl ds cs env X w0 a w':=
 h.step (h.ext.trans (hx.kp h.sM)) (fun k hk=>aH (h.sM k hk) hx.size) fun _ hk hX=>⟨hx.block hk,hX⟩
theorem ek.KO (h:ek pl ds cs env X w0 a w) {m:Bool} {w':World} (hs:Step m X w w'):ek pl ds cs env (grow X w w') w' a w':=
 h.step (Kp.refl _ _) (fun k hk=>hk.elim (fun hX=>aH (h.sM k hX) hs.fr.size) (·.2))
  fun k hk hX=>⟨hs.fr.block k hk hX,fun hg=>hg.elim hX fun hg=>by omega⟩
theorem qH {s d:Nat} {n:Nat} (hs:look pl.boxes s=some n) (hd:look pl.boxes d=none):s≠d:=by
 rintro rfl;rw [hs] at hd;cases hd
theorem ek.bind (h:ek pl ds cs env X w0 a w) {d:Nat} (hd:pl.kJ d=true) (v:Value) (oK: ∀p,p∈ds.pins→p.1≠d):
  ek pl ds (cs.bind pl d) (kI env d v) X w0 (a.put (some d) v) w:=by
 obtain⟨dz,kK,rR⟩:=vH hd;have fK:d<a.tmps.size:=by rw [h.size];exact dz
 have afh: ∀p,p∈(cs.kill d).sig→(a.put (some d) v).tmps[p.1]? =some (p.2.ev (kI env d v)):=by
  intro p hp;simp only [CS.kill,fG,aW,bne_iff_ne,ne_eq,cu] at hp;rw [eG _ _ _ _ hp.2.1,TW hp.2.2];exact h.sig p hp.1
 have acN: ∀p,p∈(cs.kill d).vV→(∃n,look pl.boxes p.b=some n)∧(AF (kI env d v) p.g→bH (kI env d v p.b)=true∧ ∃k,(a.put (some d) v).tmps[p.b]? =some (dT k 0)∧(a.put (some d) v).tmps[p.s]? =some (dT k p.off)):=by
  intro p hp;simp only [CS.kill,fG,aW,bne_iff_ne,ne_eq] at hp;obtain⟨TX,⟨hb,hs⟩,hg⟩:=hp;obtain⟨e1,e2⟩:=h.ptr p TX;refine⟨e1,fun EA=>?_⟩;have akv:AF env p.g:=by
   cases hpg:p.g with
   |none=>trivial
   |some x=>
    obtain⟨g,want⟩:=x;rw [hpg] at EA hg;simp only [AF] at EA⊢
    rwa [fV _ _ (by simpa using hg)] at EA
  obtain⟨e3,k,e4,e5⟩:=e2 akv;rw [fV _ _ hb,eG _ _ _ _ hb,eG _ _ _ _ hs];exact⟨e3,k,e4,e5⟩
 have acO: ∀p,p∈(cs.bind pl d).sig→(a.put (some d) v).tmps[p.1]? =some (p.2.ev (kI env d v)):=by
  intro p hp;simp only [CS.bind] at hp;split at hp
  ·exact afh p hp
  ·rcases List.mem_cons.1 hp with rfl|hp
   ·simp [tW _ _ _ _ fK,Ex.ev,jX]
   ·exact afh p hp
 have hpt:(cs.bind pl d).vV=(cs.kill d).vV:=by simp only [CS.bind];split<;>rfl
 have hlv:(cs.bind pl d).live=cs.live:=by simp only [CS.bind];split<;>rfl
 exact {
  size:=by simp [kG,h.size]
  defers:=h.defers
  wC:=fun p hp=>⟨by rw [eG _ _ _ _ (oK p hp)];exact(h.wC p hp).1,(h.wC p hp).2⟩
  ext:=h.ext
  sM:=h.sM
  nP:=fun s hs=>by
   rw [tW _ _ _ _ fK];split
   ·rename_i e;subst e;rw [jX]
   ·rename_i e;rw [fV _ _ e];exact h.nP s hs
  sig:=acO
  box:=fun b n hn cells hc=>by
   have nA:=qH hn kK;rw [fV _ _ nA] at hc;rw [eG _ _ _ _ nA];exact h.box b n hn cells hc
  inj:=fun b b' n n' hb eY h1 h2 k h3 h4=>by
   have nA:=qH hb kK;have FJ:=qH eY kK;rw [fV _ _ nA] at h1;rw [fV _ _ FJ] at h2;rw [eG _ _ _ _ nA] at h3;rw [eG _ _ _ _ FJ] at h4;exact h.inj b b' n n' hb eY h1 h2 k h3 h4
  conv:=fun b n hb k hk=>by
   have nA:=qH hb kK;rw [eG _ _ _ _ nA] at hk;rw [fV _ _ nA];exact h.conv b n hb k hk
  live:=fun b hb=>by
   rw [hlv] at hb;obtain⟨⟨n,hn⟩,hl⟩:=h.live b hb;rw [fV _ _ (qH hn kK)];exact⟨⟨n,hn⟩,hl⟩
  ptr:=by rw [hpt];exact acN }
theorem ek.jP (h:ek pl ds cs env X w0 a w) {nd:List Nat} (hn: ∀b,b∈nd→(∃n,look pl.boxes b=some n)∧bH (env b)=true):
  ek pl ds (cs.jP nd) env X w0 a w:=
 { h with live:=fun b hb=>(List.mem_append.1 hb).elim (hn b) (h.live b) }
theorem ek.other (h:ek pl ds cs env X w0 a w) {d:Nat} (dz:d<pl.n) (kK:look pl.boxes d=none) (Hk:pl.ij d=false) (v:Value) {sN:CS}
  (acO: ∀p,p∈sN.sig→(a.put (some d) v).tmps[p.1]? =some (p.2.ev env)) (hlv:sN.live=cs.live)
  (acN: ∀p,p∈sN.vV→(∃n,look pl.boxes p.b=some n)∧(AF env p.g→bH (env p.b)=true∧ ∃k,(a.put (some d) v).tmps[p.b]? =some (dT k 0)∧(a.put (some d) v).tmps[p.s]? =some (dT k p.off))):
  ek pl ds sN env X w0 (a.put (some d) v) w where
 size:=by simp [kG,h.size]
 defers:=h.defers
 wC:=fun p hp=>by
  obtain⟨h1,h2⟩:=h.wC p hp;refine⟨?_,h2⟩;have du:p.1≠d:=fun e=>by
   rcases h2 with⟨n,_,hn,_⟩|hg
   ·rw [e,kK] at hn;cases hn
   ·rw [e,Hk] at hg;cases hg
  rw [eG _ _ _ _ du];exact h1
 ext:=h.ext
 sM:=h.sM
 nP:=fun s hs=>by
  rw [eG _ _ _ _ (by rintro rfl;rw [hs] at Hk;cases Hk)];exact h.nP s hs
 sig:=acO
 box:=fun b n hn cells hc=>by
  rw [eG _ _ _ _ (qH hn kK)];exact h.box b n hn cells hc
 inj:=fun b b' n n' hb eY h1 h2 k h3 h4=>by
  rw [eG _ _ _ _ (qH hb kK)] at h3;rw [eG _ _ _ _ (qH eY kK)] at h4;exact h.inj b b' n n' hb eY h1 h2 k h3 h4
 conv:=fun b n hb k hk=>by
  rw [eG _ _ _ _ (qH hb kK)] at hk;exact h.conv b n hb k hk
 live:=fun b hb=>h.live b (hlv▸hb)
 ptr:=acN
theorem ek.note (h:ek pl ds cs env X w0 a w) {d:Nat} (hd:pl.kJ d=true) (Hk:pl.ij d=false) (e:Ex):
  ek pl ds (cs.note d e) env X w0 (a.put (some d) (e.ev env)) w:=by
 obtain⟨dz,kK,rR⟩:=vH hd;have fK:d<a.tmps.size:=by rw [h.size];exact dz
 refine h.other dz kK Hk _ ?_ rfl ?_
 ·intro p hp;simp only [CS.note,gU,fG,bne_iff_ne,ne_eq] at hp;rcases hp with rfl|⟨hp,du⟩
  ·simp [tW _ _ _ _ fK]
  ·rw [eG _ _ _ _ du];exact h.sig p hp
 ·intro p hp;simp only [CS.note,fG,bne_iff_ne,ne_eq] at hp;obtain⟨⟨n,hn⟩,e2⟩:=h.ptr p hp.1;refine⟨⟨n,hn⟩,fun hg=>?_⟩;obtain⟨e3,k,e4,e5⟩:=e2 hg;refine⟨e3,k,?_,?_⟩
  ·rw [eG _ _ _ _ (qH hn kK)];exact e4
  ·rw [eG _ _ _ _ hp.2];exact e5
theorem ek.oG (h:ek pl ds cs env X w0 a w) {d:Nat} (hd:pl.kJ d=true) (e:Ex) {gg:List PanicEntry→Env→World→XS→Prop} {next:Env→World→XS→Prop}
  (hn:fN P gg next (aR.oG pl cs d e).1 env w0 X) (oK: ∀b,b∈lE (aR.oG pl cs d e).1→ ∀p,p∈ds.pins→p.1≠b): ∃dv,ek pl ds (aR.oG pl cs d e).2 dv X w0 (a.put (some d) (e.ev env)) w∧next dv w0 X:=by
 unfold aR.oG at hn oK⊢;split
 ·rename_i hg;rw [if_pos hg] at hn oK;exact⟨_,h.bind hd _ (oK d (by simp [lE,TI.Hi])),hn⟩
 ·rename_i hg;rw [if_neg hg] at hn;have Hk:pl.ij d=false:=by
   cases hx:pl.ij d with
   |false=>rfl
   |true=>simp [hx] at hg
  exact⟨env,h.note hd Hk e,hn⟩
theorem ek.derive (h:ek pl ds cs env X w0 a w) {d b off:Nat} {g:Option (Nat×Bool)} (dz:d<pl.n) (kK:look pl.boxes d=none) (FK:pl.Rk.contains d=true)
    (v:Value) (hb: ∃n,look pl.boxes b=some n) (hv:AF env g→bH (env b)=true∧ ∃k,a.tmps[b]? =some (dT k 0)∧v=dT k off)
 :
    ek pl ds (cs.vG d b off g) env X w0 (a.put (some d) v) w:=by
  have fK:d<a.tmps.size:=by rw [h.size];exact dz
  have Hk:pl.ij d=false:=by
    cases hx:pl.ij d with
    |false=>rfl
    |true=>have:=(nz hx).2.2;rw [FK] at this;cases this
  refine h.other dz kK Hk _ ?_ rfl ?_
  · intro p hp
    simp only [CS.vG,fG,bne_iff_ne,ne_eq] at hp;rw [eG _ _ _ _ hp.2];exact h.sig p hp.1
  · intro p hp
    rcases List.mem_cons.1 hp with rfl|hp
    · obtain⟨n,hn⟩:=hb
      refine⟨⟨n,hn⟩,fun hg=>?_⟩;obtain⟨e1,k,e2,e3⟩:=hv hg;refine⟨e1,k,?_,?_⟩
      · rw [eG _ _ _ _ (qH hn kK)];exact e2
      · simp [tW _ _ _ _ fK,e3]
    · simp only [fG,bne_iff_ne,ne_eq] at hp
      obtain⟨⟨n,hn⟩,e2⟩:=h.ptr p hp.1;refine⟨⟨n,hn⟩,fun hg=>?_⟩;obtain⟨e3,k,e4,e5⟩:=e2 hg;refine⟨e3,k,?_,?_⟩
      · rw [eG _ _ _ _ (qH hn kK)];exact e4
      · rw [eG _ _ _ _ hp.2];exact e5
theorem acP {d:Nat} {p:Nat×Ex} (hp:p∈(cs.kill d).sig):p∈cs.sig∧p.1≠d∧p.2.TM d=false:=by
 simpa [CS.kill,fG] using hp
theorem acQ {d:Nat} {p:Ptr} (hp:p∈(cs.kill d).vV):p∈cs.vV∧p.b≠d∧p.s≠d∧(∀v,AF (kI env d v) p.g→AF env p.g):=by
 simp only [CS.kill,fG,aW,bne_iff_ne,ne_eq] at hp;obtain⟨TX,⟨hb,hs⟩,hg⟩:=hp;refine⟨TX,hb,hs,fun v EA=>?_⟩;cases hpg:p.g with
 |none=>trivial
 |some x=>
  obtain⟨g,want⟩:=x;rw [hpg] at EA hg;simp only [AF] at EA⊢
  rwa [fV _ _ (by simpa using hg)] at EA
theorem ek.abh (h:ek pl ds cs env X w0 a w) {d sz:Nat} (dz:d<pl.n) (hb:look pl.boxes d=some sz) (cells:Array Value) (fK:cells.size=sz) (ty:TypeId) (oK: ∀p,p∈ds.pins→p.1≠d):
  ek pl ds ((cs.kill d).jP [d]) (kI env d (.agg cells)) X w0 (a.put (some d) (dT w.heap.size 0)) (w.alloc (.cells cells ty)):=by
 have hd:d<a.tmps.size:=by rw [h.size];exact dz
 have hg:=h.gX (Ext.alloc w (.cells cells ty));have fresh: ∀b n c,look pl.boxes b=some n→env b= .agg c→a.tmps[b]? ≠some (dT w.heap.size 0):=by
  intro b n c hn hc e;obtain⟨k,ty',h1,h2,_,_⟩:=h.box b n hn c hc;rw [h1] at e;have hk:k=w.heap.size:=by simpa [dT] using e
  subst hk;rw [mS (bg _)] at h2;cases h2
 exact {
  size:=by simp [kG,h.size]
  defers:=h.defers
  wC:=fun p hp=>⟨by rw [eG _ _ _ _ (oK p hp)];exact(h.wC p hp).1,(h.wC p hp).2⟩
  ext:=hg.ext
  sM:=hg.sM
  nP:=fun s hs=>by
   have du:s≠d:=fun e=>by subst e;have:=(nz hs).2.1;rw [hb] at this;cases this
   rw [eG _ _ _ _ du,fV _ _ du];exact h.nP s hs
  sig:=fun p hp=>by
   obtain⟨h1,h2,h3⟩:=acP hp;rw [eG _ _ _ _ h2,TW h3];exact h.sig p h1
  box:=fun b n hn c hc=>by
   by_cases nA:b=d
   ·subst nA;rw [jX] at hc;injection hc with hc
    subst hc;rw [hb] at hn;injection hn with hn
    refine⟨w.heap.size,ty,by simp [tW _ _ _ _ hd],heap_alloc_new w _,by omega,fun hX=>?_⟩;exact absurd (h.sM _ hX) zQ
   ·rw [fV _ _ nA] at hc;rw [eG _ _ _ _ nA];exact hg.box b n hn c hc
  inj:=fun b b' n n' hn jh h1 h2 k h3 h4=>by
   obtain⟨c,hc⟩:=qG.1 h1;obtain⟨c',CY⟩:=qG.1 h2;by_cases nA:b=d<;>by_cases FJ:b'=d
   ·rw [nA,FJ]
   ·subst nA;rw [tW _ _ _ _ hd,if_pos rfl] at h3;rw [eG _ _ _ _ FJ] at h4;rw [fV _ _ FJ] at CY;rw [←h3] at h4;exact absurd h4 (fresh b' n' c' jh CY)
   ·subst FJ;rw [tW _ _ _ _ hd,if_pos rfl] at h4;rw [eG _ _ _ _ nA] at h3;rw [fV _ _ nA] at hc;rw [←h4] at h3;exact absurd h3 (fresh b n c hn hc)
   ·rw [fV _ _ nA] at h1;rw [fV _ _ FJ] at h2;rw [eG _ _ _ _ nA] at h3;rw [eG _ _ _ _ FJ] at h4;exact h.inj b b' n n' hn jh h1 h2 k h3 h4
  conv:=fun b n hn k hk=>by
   by_cases nA:b=d
   ·subst nA;rw [jX];rfl
   ·rw [eG _ _ _ _ nA] at hk;rw [fV _ _ nA];exact h.conv b n hn k hk
  live:=fun b eY=>by
   simp only [CS.jP,rH,dG,gU] at eY;rcases eY with rfl|eY
   ·exact⟨⟨sz,hb⟩,by rw [jX];rfl⟩
   ·obtain⟨e1,e2⟩:=h.live b eY;refine⟨e1,?_⟩;by_cases nA:b=d
    ·subst nA;rw [jX];rfl
    ·rw [fV _ _ nA];exact e2
  ptr:=fun p hp=>by
   obtain⟨h1,h2,h3,h4⟩:=acQ (env:=env) hp;obtain⟨e1,e2⟩:=h.ptr p h1;refine⟨e1,fun EA=>?_⟩;obtain⟨e3,k,e4,e5⟩:=e2 (h4 _ EA);rw [fV _ _ h2,eG _ _ _ _ h2,eG _ _ _ _ h3];exact⟨e3,k,e4,e5⟩ }
theorem ek.store (h:ek pl ds cs env X w0 a w) {b n k:Nat} {ty:TypeId} {cells rS:Array Value} (hb:look pl.boxes b=some n) (hc:env b= .agg cells)
  (ht:a.tmps[b]? =some (dT k 0)) (hk:w.heap[k]? =some (.cells cells ty (0,0))) (hX: ¬X k) (fK:rS.size=n) {w':World} (hw:Fr (· =k) w w') (af:w'.heap[k]? =some (.cells rS ty (0,0))):
  ek pl ds (cs.KM b) (kI env b (.agg rS)) X w0 a w':=by
 have hA:bH (env b)=true:=by rw [hc];rfl
 exact {
  size:=h.size
  defers:=h.defers
  wC:=h.wC
  ext:=h.ext.trans (hw.kp fun j hj=>⟨h.sM j hj,fun e=>by subst e;exact hX hj⟩)
  sM:=fun j hj=>aH (h.sM j hj) hw.size
  nP:=fun s hs=>by
   have du:s≠b:=fun e=>by subst e;have:=(nz hs).2.1;rw [hb] at this;cases this
   rw [fV _ _ du];exact h.nP s hs
  sig:=fun p hp=>by
   simp only [CS.KM,fG,cu] at hp;rw [TW hp.2];exact h.sig p hp.1
  box:=fun b' n' jh c CY=>by
   by_cases nA:b'=b
   ·subst nA;rw [jX] at CY;injection CY with CY
    subst CY;rw [hb] at jh;injection jh with jh
    exact⟨k,ty,ht,af,by omega,hX⟩
   ·rw [fV _ _ nA] at CY;obtain⟨k2,Yn,h1,h2,h3,h4⟩:=h.box b' n' jh c CY;have wD:k2≠k:=fun e=>by
     subst e;exact nA (h.inj b' b n' n jh hb (by rw [CY];rfl) hA k2 h1 ht)
    exact⟨k2,Yn,h1,(hw.block k2 (Array.getElem?_eq_some_iff.1 h2).1 wD).trans h2,h3,h4⟩
  inj:=fun b1 b2 n1 n2 hn1 hn2 h1 h2 j h3 h4=>by
   have f: ∀b',bH (kI env b (.agg rS) b')=true→bH (env b')=true:=fun b' hh=>by
    by_cases e:b'=b
    ·subst e;exact hA
    ·rwa [fV _ _ e] at hh
   exact h.inj b1 b2 n1 n2 hn1 hn2 (f b1 h1) (f b2 h2) j h3 h4
  conv:=fun b' n' jh j hj=>by
   by_cases e:b'=b
   ·subst e;rw [jX];rfl
   ·rw [fV _ _ e];exact h.conv b' n' jh j hj
  live:=fun b' eY=>by
   obtain⟨e1,e2⟩:=h.live b' eY;refine⟨e1,?_⟩;by_cases e:b'=b
   ·subst e;rw [jX];rfl
   ·rwa [fV _ _ e]
  ptr:=fun p hp=>by
   obtain⟨e1,e2⟩:=h.ptr p hp;refine⟨e1,fun hg=>?_⟩;have ji:AF env p.g:=by
    cases hpg:p.g with
    |none=>trivial
    |some x=>
     obtain⟨g,want⟩:=x;rw [hpg] at hg;simp only [AF] at hg⊢;by_cases e:g=b
     ·subst e;rw [jX] at hg;cases hg
     ·rwa [fV _ _ e] at hg
   obtain⟨e3,k2,e4,e5⟩:=e2 ji;refine⟨?_,k2,e4,e5⟩;by_cases e:p.b=b
   ·rw [e,jX];rfl
   ·rwa [fV _ _ e] }
end
section
variable {P : Program}
theorem y9 (k o n:Nat):(⟨k,o,none⟩:Addr).add n=⟨k,o+n,none⟩:=by
 unfold Addr.add;split<;>simp_all
theorem LJ {S f fo sz:Nat} (h:fieldInfo P S f=some (fo,sz)) (hz:sz≠0) (k off:Nat) (w:World):
  (Instr.fieldAt S (dT k off) f).run P w= .ok (dT k (off+fo)) w:=by
 unfold fieldInfo at h;split at h
 ·rename_i fs hu;cases hf:fs[f]? with
  |none=>simp [hf] at h
  |some x=>
   cases hi:P.info? x.type with
   |none=>simp [hf,hi] at h
   |some i=>
    simp only [hf,hi,cU,bt,az,cy] at h;obtain⟨h1,h2⟩:=h;subst h1 h2;simp [Instr.fieldAt,run_underlying hu,hf,iV,dT,fieldPlace,sizeOf,typeInfo,hi,hz,y9]
 ·cases h
theorem Hl {w:World} {k:Nat} {cells:Array Value} {ty:TypeId} (h:w.heap[k]? =some (.cells cells ty (0,0))) (i:Nat):w.cell? ⟨k,i,none⟩=cells[i]? :=by
 simp [World.cell?,h]
theorem NY {t:Nat} {ag:Bool} {sz:Nat} (h:iW P t=some (ag,sz)) (hag:(ag||sz==1)=true) {w:World} {k:Nat} {cells:Array Value} {ty:TypeId}
  (hk:w.heap[k]? =some (.cells cells ty (0,0))) (off:Nat) (hl:off+sz≤cells.size):
  (gI t (dT k off)).run P w= .ok (if ag then cj (.agg cells) off sz else cellOf (.agg cells) off) w:=by
 unfold iW at h;split at h
 ·rename_i d i hu hi;simp only [az,cy] at h;obtain⟨h1,h2⟩:=h;subst h2;have za:(isAgg t).run P w= .ok ag w:=by
   subst h1;cases d<;>simp [isAgg,run_underlying hu]
  cases ag with
  |true=>
   have hc: ∀j v,((cells.toList.drop off).take i.size)[j]? =some v→w.cell? ((⟨k,off,none⟩:Addr).add j)=some v:=by
    intro j v hj;rw [y9,Hl hk];rw [List.getElem?_take] at hj;split at hj
    ·rw [List.getElem?_drop] at hj;simpa using hj
    ·cases hj
   have hlen:((cells.toList.drop off).take i.size).length=i.size:=by
    simp;omega
   have hr:=run_loadCells_list (P:=P) w ⟨k,off,none⟩ _ hc;rw [hlen] at hr;simp [gI,iV,dT,loadVar,za,sizeOf,typeInfo,hi,hr,cj,Value.cells]
  |false=>
   simp only [Bool.false_or,beq_iff_eq] at hag;have dz:off<cells.size:=by omega
   have hc:w.cell? ⟨k,off,none⟩=some cells[off]:=by rw [Hl hk];simp [dz]
   simp [gI,iV,dT,loadVar,za,hc,cellOf,Value.cells,dz]
 ·cases h
theorem EB (v:Value):one v=v.oneCell':=by cases v<;>rfl
theorem rz {v:Value} (h:one v=true):v.cells= #[v]:=by cases v<;>first|rfl|cases h
theorem W9 {t:Nat} {ag:Bool} {sz:Nat} (h:iW P t=some (ag,sz)):(P.info? t).map (·.size)=some sz:=by
 unfold iW at h;split at h
 ·rename_i d i hu hi;simp only [az,cy] at h;simp [hi,h.2]
 ·cases h
theorem LK {t sz:Nat} (h:(P.info? t).map (·.size)=some sz) {w:World} {k:Nat} {cells:Array Value} {ty:TypeId}
  (hk:w.heap[k]? =some (.cells cells ty (0,0))) (off:Nat) (hl:off+sz≤cells.size) (v:Value) (hv:v.cells.size=sz) (h1:v.cells.toList.all one=true):
  (Instr.storeAt t (dT k off) v).run P w= .ok () (w.setRow k (cV cells.toList off v.cells.toList).toArray):=by
 cases hi:P.info? t with
 |none=>simp [hi] at h
 |some i=>
  simp only [hi,bt,az] at h;have ed:=run_storeCells_at P k off ty v.cells.toList 0 cells w hk (by simpa [hv] using hl) (fun x hx=>by
   have:=List.all_eq_true.1 h1 x hx
   rwa [EB] at this)
  simp only [Nat.add_zero] at ed;simp [Instr.storeAt,iV,dT,storeVar,sizeOf,typeInfo,hi,h,hv,ed,cV]
end
theorem abi {w:World} {k:Nat} {cells rS:Array Value} {ty:TypeId} (hk:w.heap[k]? =some (.cells cells ty (0,0))):
  Fr (· =k) w (w.setRow k rS)∧(w.setRow k rS).heap[k]? =some (.cells rS ty (0,0)):=by
 refine⟨⟨rfl,rfl,rfl,by simp [World.setRow],fun j _ hj=>?_⟩,setRow_heap w k cells rS ty (0,0) hk⟩;simp only [World.setRow,Array.getElem?_modify];rw [if_neg (fun e=>hj e.symm)]
theorem acR {l vs:List Value} {off:Nat} (h:off+vs.length≤l.length):(cV l off vs).length=l.length:=by
 simp [cV];omega
section
variable {P : Program} {pl : bp} {ds : Bk} {cs : CS} {env : Env} {X : XS} {w0 w : World} {a : Act}
theorem Iz {og:Option (Nat×Bool)} : ∀{l:List Ptr} {t b off:Nat},Ez og l t=some (b,off)→ ∃p,p∈l∧p.s=t∧p.b=b∧p.off=off∧(p.g=none∨p.g=og)
 |[],_,_,_,h=>by cases h
 |p::r,t,b,off,h=>by
  simp only [Ez] at h;split at h
  ·rename_i hs;split at h
   ·rename_i hg;simp only [az,cy] at h;refine⟨p,iD ..,hs,h.1,h.2,?_⟩;simpa using hg
   ·cases h
  ·obtain⟨q,h1,h2⟩:=Iz h;exact⟨q,bA _ h1,h2⟩
theorem ek.sL (h:ek pl ds cs env X w0 a w) {og:Option (Nat×Bool)} {x:Operand} {b off:Nat} {nd:List Nat} (hp:aR.sL pl cs og x=some (b,off,nd)):
  (∃n,look pl.boxes b=some n)∧(∀b',b'∈nd→ ∃n,look pl.boxes b'=some n)∧
  ((∀b',b'∈nd→bH (env b')=true)→AF env og→bH (env b)=true∧ ∃k,a.eval x=dT k off∧a.tmps[b]? =some (dT k 0)):=by
 cases x with
 |tmp t=>
  simp only [aR.sL] at hp;split at hp
  ·rename_i n hn;simp only [az,cy] at hp;obtain⟨rfl,rfl,rR⟩:=hp;refine⟨⟨n,hn⟩,fun b' eY=>?_,fun hl _=>?_⟩
   ·split at rR<;>subst rR
    ·cases eY
    ·rcases List.mem_singleton.1 eY with rfl;exact⟨n,hn⟩
   ·have hA:bH (env t)=true:=by
     split at rR
     ·rename_i hc;exact(h.live t (by simpa using hc)).2
     ·subst rR;exact hl t (List.mem_singleton.2 rfl)
    obtain⟨c,hc⟩:=qG.1 hA;obtain⟨k,ty,h1,_⟩:=h.box t n hn c hc;exact⟨hA,k,by simp [fH,h1],h1⟩
  ·split at hp
   ·cases hf:Ez og cs.vV t with
    |none=>simp [hf] at hp
    |some q=>
     obtain⟨b',amK⟩:=q;simp only [hf,bt,az,cy] at hp;obtain⟨rfl,rfl,rfl⟩:=hp;obtain⟨p,hp,hs,hb,ho,hg⟩:=Iz hf;obtain⟨e1,e2⟩:=h.ptr p hp;subst hs hb ho;refine⟨e1,fun _ eY=>(by cases eY),fun _ EA=>?_⟩;obtain⟨e3,k,e4,e5⟩:=e2 (hg.elim (fun hg=>by simp [hg,AF]) (fun hg=>by rw [hg];exact EA));exact⟨e3,k,by simp [fH,e5],e4⟩
   ·cases hp
 |const v=>cases hp
 |global g=>cases hp
 |func f=>cases hp
theorem IA {gg:List PanicEntry→Env→World→XS→Prop} {next:Env→World→XS→Prop} : ∀(nd:List Nat) {l:List TI},
  fN P gg next (nd.map .uz++l) env w X→(∀b,b∈nd→bH (env b)=true)∧fN P gg next l env w X
 |[],_,h=>⟨fun _ hb=>(by cases hb),h⟩
 |b::nd,l,h=>by
  obtain⟨h1,h2⟩:bH (env b)=true∧fN P gg next (nd.map .uz++l) env w X:=by simpa only [List.map_cons,rH,fN,TQ,dk] using h
  obtain⟨h3,h4⟩:=IA nd h2;refine⟨fun b' eY=>?_,h4⟩;rcases List.mem_cons.1 eY with rfl|eY
  ·exact h1
  ·exact h3 b' eY
theorem zu {gg:List PanicEntry→Env→World→XS→Prop} {next:Env→World→XS→Prop} : ∀(l l':List TI),fN P gg next (l++l')=fN P gg (fN P gg next l') l
 |[],_=>rfl
 |i::l,l'=>by
  funext env w X
  simp only [rH,fN,zu l l']
inductive Shape (P:Program) (pl:bp) (cs:CS) (og:Option (Nat×Bool)) (m:Bool) (o:Oper):CR→Prop
 |mv (x:Operand) (d:Nat) (e:Ex) (ho:o.op= .move x∨o.op= .assign x) (hd:o.dst=some d) (hv:valOf pl cs x=some e) (hp:pl.kJ d=true):
   Shape P pl cs og m o ⟨true,[],(oG pl cs d e).1,(oG pl cs d e).2,[],[]⟩
 |ld (t:TypeId) (x:Operand) (d b off:Nat) (nd:List Nat) (ag:Bool) (sz bs:Nat) (ho:o.op= .load t x) (hd:o.dst=some d) (hx:aR.sL pl cs og x=some (b,off,nd))
   (ht:iW P t=some (ag,sz)) (hb:look pl.boxes b=some bs) (hp:pl.kJ d=true) (hl:off+sz≤bs) (ha:(ag||sz==1)=true):
   Shape P pl cs og m o ⟨true,nd,(oG pl (cs.jP nd) d (if ag then .s b off sz else .k b off)).1,(oG pl (cs.jP nd) d (if ag then .s b off sz else .k b off)).2,[b],[]⟩
 |fa (S:TypeId) (x:Operand) (f d b off:Nat) (nd:List Nat) (fo sz:Nat) (ho:o.op= .fieldAddr S x f) (hd:o.dst=some d) (hx:aR.sL pl cs og x=some (b,off,nd))
   (hf:fieldInfo P S f=some (fo,sz)) (FK:pl.Rk.contains d=true) (dz:d<pl.n) (kK:look pl.boxes d=none) (hz:sz≠0):
   Shape P pl cs og m o ⟨true,nd,[],(cs.jP nd).vG d b (off+fo) og,[],[]⟩
 |rd (d:Nat) (ss:List (Nat×Ex)) (hd:o.dst=some d) (hs:subst pl cs o.op.operands.toList=some ss) (hn:FF o.op=true) (hp:pl.kJ d=true):
   Shape P pl cs og m o ⟨true,[],[.rd d o.op o.type ss],cs.bind pl d,[],[]⟩
 |AE (d:Nat) (ss:List (Nat×Ex)) (hd:o.dst=some d) (hs:subst pl cs o.op.operands.toList=some ss) (hn:FF o.op=true) (hp:pl.kJ d=true):
   Shape P pl cs og m o ⟨false,[],[.AE (some d) o.op o.type ss m],cs.bind pl d,[],[]⟩
 |act (ss:List (Nat×Ex)) (hd:o.dst=none) (hs:subst pl cs o.op.operands.toList=some ss) (hn:FF o.op=true):
   Shape P pl cs og m o ⟨false,[],[.AE none o.op o.type ss m],cs,[],[]⟩
 |bx (t:TypeId) (x:Operand) (d sz:Nat) (e:Ex) (ag:Bool) (ho:o.op= .box t x) (hd:o.dst=some d) (hb:look pl.boxes d=some sz) (hv:valOf pl cs x=some e) (ht:iW P t=some (ag,sz)) (dz:d<pl.n):
   Shape P pl cs og m o ⟨false,[],[if !ag&&sz==1 then .wY d e else .box d sz e],(cs.kill d).jP [d],[],[]⟩
 |al (t:TypeId) (d sz:Nat) (i:TypeInfo) (z:Value) (ag:Bool) (ho:o.op= .alloc t) (hd:o.dst=some d) (hb:look pl.boxes d=some sz) (hi:P.info? t=some i) (hz:i.zero=some z) (ht:iW P t=some (ag,sz)) (dz:d<pl.n):
   Shape P pl cs og m o ⟨false,[],[if !ag&&sz==1 then .wY d (.c z)else .box d sz (.c z)],(cs.kill d).jP [d],[],[]⟩
 |st (t:TypeId) (x v:Operand) (b off:Nat) (nd:List Nat) (sz bs:Nat) (e:Ex) (ag:Bool) (ho:o.op= .store t x v) (hd:o.dst=none) (hx:aR.sL pl cs og x=some (b,off,nd))
   (hv:valOf pl cs v=some e) (ht:iW P t=some (ag,sz)) (hb:look pl.boxes b=some bs) (hl:off+sz≤bs):
   Shape P pl cs og m o ⟨false,nd,[if !ag&&sz==1 then .TN b off e else if off==0&&sz==bs then .fill b sz e else .put b off sz e],(cs.jP nd).KM b,[],[b]⟩
theorem tX {m:Bool} {og:Option (Nat×Bool)} {o:Oper} {r:CR} (h:CV P pl cs m o=some r):Shape P pl cs og m o r:=by
 unfold CV at h;split at h
 ·cases h
 ·rename_i ss hs;split at h
  ·cases h
  ·rename_i hn;simp only [cu,wB] at hn;split at h
   ·rename_i d hd;split at h
    ·cases h
    ·rename_i hp;simp only [cu,wB] at hp;split at h<;>injection h with h<;>subst h
     ·exact .rd d ss hd hs hn hp
     ·exact .AE d ss hd hs hn hp
   ·rename_i hd;injection h with h
    subst h;exact .act ss hd hs hn
theorem Rp {m:Bool} {og:Option (Nat×Bool)} {o:Oper} {r:CR} {sz d t:Nat} {e:Ex} (h:TS P pl cs sz t e d=some r)
  (k: ∀ag,d<pl.n→iW P t=some (ag,sz)→Shape P pl cs og m o ⟨false,[],[if !ag&&sz==1 then .wY d e else .box d sz e],(cs.kill d).jP [d],[],[]⟩):Shape P pl cs og m o r:=by
 unfold TS at h;split at h
 ·rename_i ag s ht;split at h
  ·rename_i hc;simp only [aW,decide_eq_true_eq,beq_iff_eq] at hc;obtain⟨h1,h2⟩:=hc;subst h2;injection h with h
   subst h;exact k ag h1 ht
  ·cases h
 ·cases h
theorem qg {m:Bool} {og:Option (Nat×Bool)} {o:Oper} {r:CR} (h:Bi P pl cs og m o=some r):Shape P pl cs og m o r:=by
 unfold Bi at h;split at h;case h_1 x ho=>
  split at h
  ·rename_i d e hd hv;split at h
   ·rename_i hp;injection h with h
    subst h;exact .mv x d e (.inl ho) hd hv hp
   ·cases h
  ·cases h
 case h_2 x ho=>
  split at h
  ·rename_i d e hd hv;split at h
   ·rename_i hp;injection h with h
    subst h;exact .mv x d e (.inr ho) hd hv hp
   ·cases h
  ·cases h
 case h_3 t x ho=>
  split at h
  ·rename_i d hd;split at h
   ·rename_i sz hb;split at h
    ·rename_i e hv;exact Rp h fun ag dz ht=>.bx t x d sz e ag ho hd hb hv ht dz
    ·cases h
   ·exact tX h
  ·cases h
 case h_4 t ho=>
  split at h
  ·rename_i d hd;split at h
   ·rename_i sz hb;split at h
    ·rename_i z hz;cases hi:P.info? t with
     |none=>simp [hi] at hz
     |some i=>
      simp only [hi,cU] at hz;exact Rp h fun ag dz ht=>.al t d sz i z ag ho hd hb hi hz ht dz
    ·cases h
   ·exact tX h
  ·cases h
 case h_5 S x f ho=>
  split at h
  ·rename_i b off nd hx;split at h
   ·rename_i d fo sz hd hf;split at h
    ·rename_i hc;simp only [aW,decide_eq_true_eq,fA,bne_iff_ne,ne_eq] at hc;injection h with h
     subst h;exact .fa S x f d b off nd fo sz ho hd hx hf hc.1.1.1 hc.1.1.2 hc.1.2 hc.2
    ·cases h
   ·cases h
  ·exact tX h
 case h_6 t x ho=>
  split at h
  ·rename_i b off nd hx;split at h
   ·rename_i d ag sz bs hd ht hb;split at h
    ·rename_i hc;simp only [aW,decide_eq_true_eq] at hc;injection h with h
     subst h;exact .ld t x d b off nd ag sz bs ho hd hx ht hb hc.1.1 hc.1.2 hc.2
    ·cases h
   ·cases h
  ·exact tX h
 case h_7 t x v ho=>
  split at h
  ·rename_i b off nd hx;split at h
   ·rename_i e ag sz bs hd hv ht hb;split at h
    ·rename_i hc;simp only [decide_eq_true_eq] at hc;injection h with h
     subst h;exact .st t x v b off nd sz bs e ag ho hd hx hv ht hb hc
    ·cases h
   ·cases h
  ·exact tX h
 case h_8=>exact tX h
end
section
variable {P : Program} {pl : bp} {ds : Bk} {cs : CS} {env : Env} {X : XS} {w0 w : World} {a : Act}
theorem ek.zb (h:ek pl ds cs env X w0 a w) {RB:List Nat} {k:Nat} (hz:ZB pl RB a k): ¬X k:=by
 obtain⟨b,n,hb,_,ht⟩:=hz;obtain⟨c,hc⟩:=qG.1 (h.conv b n hb k ht);obtain⟨k',ty,e1,_,_,e4⟩:=h.box b n hb c hc;rw [ht] at e1;have:k'=k:=by simpa [dT] using e1.symm
 subst this;exact e4
theorem ek.kp0 (h:ek pl ds cs env X w0 a w) {RB:List Nat} {w':World} (hx:Fr (ZB pl RB a) w w'):Kp X w0 w':=
 h.ext.trans (hx.kp fun k hk=>⟨h.sM k hk,fun hz=>h.zb hz hk⟩)
theorem ek.cZ (h:ek pl ds cs env X w0 a w) {b n k:Nat} (hb:look pl.boxes b=some n) (ht:a.tmps[b]? =some (dT k 0)):k<w.heap.size∧ ¬X k:=by
 obtain⟨c,hc⟩:=qG.1 (h.conv b n hb k ht);obtain⟨k',ty,e1,e2,_,e4⟩:=h.box b n hb c hc;rw [ht] at e1;have:k'=k:=by simpa [dT] using e1.symm
 subst this;exact⟨(Array.getElem?_eq_some_iff.1 e2).1,e4⟩
theorem ek.acS (h:ek pl ds cs env X w0 a w) {sb:List Nat} {w':World} (hx:Fr X w w'):vW pl sb a w w':=
 fun _ _ _ hb _ hk=>hx.block _ (h.cZ hb hk).1 (h.cZ hb hk).2
theorem nQ.eE {sb:List Nat} {a':Act} {w':World} (hx:Ext w w') (hz: ∀b n,look pl.boxes b=some n→ ∀k,k<w.heap.size→a'.tmps[b]? =some (dT k 0)→a.tmps[b]? =some (dT k 0)):nQ pl sb a w a' w':=
 fun _ _=>⟨hx.fr _,fun k hk ⟨b,n,h1,h2,h3⟩=>⟨b,n,h1,h2,hz b n h1 k hk h3⟩⟩
theorem nQ.acT {sb:List Nat} {w':World} {d:Option Nat} {v:Value} (hx:Ext w w') (hd: ∀x,d=some x→look pl.boxes x=none):nQ pl sb a w (a.put d v) w':=by
 refine nQ.eE hx fun b n hb k _ hk=>?_;cases d with
 |none=>exact hk
 |some x=>rwa [eG _ _ _ _ (qH hb (hd x rfl))] at hk
theorem nQ.sub {sb sb':List Nat} {a':Act} {w':World} (h:nQ pl sb a w a' w') (hs: ∀b,b∈sb→b∈sb'):nQ pl sb' a w a' w':=
 fun RB hRB=>h RB fun b hb=>hRB b (hs b hb)
theorem Rq {P:Program} {m:Bool} {og:Option (Nat×Bool)} {o:Oper} {r:CR} (hs:Shape P pl cs og m o r) (iP:r.fl=true): ∀x,o.dst=some x→look pl.boxes x=none:=by
 have f: ∀{d:Nat},o.dst=some d→pl.kJ d=true→ ∀x,o.dst=some x→look pl.boxes x=none:=fun hd hp x hx=>by
  rw [hd] at hx;injection hx with hx;subst hx;exact(vH hp).2.1
 cases hs with
 |mv x d e ho hd hv hp=>exact f hd hp
 |ld t x d b off nd ag sz bs ho hd hx ht hb hp hl ha=>exact f hd hp
 |fa S x g d b off nd fo sz ho hd hx hf FK dz kK hz=>intro y hy;rw [hd] at hy;injection hy with hy;subst hy;exact kK
 |rd d ss hd hs hn hp=>exact f hd hp
 |AE=>cases iP
 |act=>cases iP
 |bx=>cases iP
 |al=>cases iP
 |st=>cases iP
theorem Rr {m:Bool} {og:Option (Nat×Bool)} {o:Oper} {r:CR} (hs:Shape P pl cs og m o r) (h:ek pl ds cs env X w0 a w) (hg:AF env og)
  (hl: ∀b,b∈r.nd→bH (env b)=true) (iP:r.fl=true) {gg:List PanicEntry→Env→World→XS→Prop} {next:Env→World→XS→Prop} (hd:fN P gg next r.l env w0 X) (oK: ∀b,b∈lE r.l→ ∀p,p∈ds.pins→p.1≠b):
  ∃v dv,((∀wa,Fr (ZB pl r.rb a) w wa→(execOp a.eval o).run P wa= .ok (.value v) wa)∧
   ∀b,b∈r.rb→ ∃k n,look pl.boxes b=some n∧a.tmps[b]? =some (dT k 0)∧ ∀wa:World,wa.heap[k]? =w.heap[k]? →(execOp a.eval o).run P wa= .ok (.value v) wa)∧ek pl ds r.cs dv X w0 (a.put o.dst v) w∧next dv w0 X:=by
 cases hs with
 |mv x d e ho iw hv hp=>
  obtain⟨dv,h1,h2⟩:=h.oG hp e hd oK;refine⟨e.ev env,dv,⟨fun wa _=>?_,fun _ hb=>by cases hb⟩,by rw [iw];exact h1,h2⟩;have he:=h.eval hv;rcases ho with ho|ho<;>simp [execOp,ho,he]
 |ld t x d b off nd ag sz bs ho iw hx ht hb hp dz ha=>
  obtain⟨⟨n,hn⟩,rR,hk⟩:=h.sL hx;obtain⟨hA,k,he,kE⟩:=hk hl hg;obtain⟨cells,hc⟩:=qG.1 hA;obtain⟨k',ty,e1,e2,e3,_⟩:=h.box b n hn cells hc;have wD:k'=k:=by rw [kE] at e1;simpa [dT] using e1.symm
  subst wD;have hbn:bs=n:=by rw [hb] at hn;injection hn
  subst hbn;have h':=h.jP (nd:=nd) fun b' eY=>⟨rR b' eY,hl b' eY⟩;obtain⟨dv,h1,h2⟩:=h'.oG hp _ hd oK;have CZ:(if ag then Ex.s b off sz else Ex.k b off).ev env=if ag then cj (.agg cells) off sz else cellOf (.agg cells) off:=by
   cases ag<;>simp [Ex.ev,hc]
  have jI: ∀wa:World,wa.heap[k']? =w.heap[k']? →(execOp a.eval o).run P wa= .ok (.value ((if ag then Ex.s b off sz else Ex.k b off).ev env)) wa:=by
   intro wa EC;have e2':wa.heap[k']? =some (.cells cells ty (0,0)):=EC.trans e2;have:=NY ht ha e2' off zQ;rw [CZ];simp [execOp,ho,he,this]
  refine⟨_,dv,⟨fun wa EC=>jI wa ?_,fun b' eY=>?_⟩,by rw [iw];exact h1,h2⟩
  rotate_left
  ·have:=List.mem_singleton.1 eY;subst this;exact⟨k',bs,hn,kE,jI⟩
  have e2':wa.heap[k']? =some (.cells cells ty (0,0)):=by
   rw [EC.block k' (Array.getElem?_eq_some_iff.1 e2).1 ?_]
   ·exact e2
   ·rintro⟨b2,n2,g1,g2,g3⟩;exact g2 (List.mem_singleton.2 (h.inj b2 b n2 bs g1 hn (h.conv b2 n2 g1 k' g3) hA k' g3 kE))
  rw [e2',e2]
 |fa S x f d b off nd fo sz ho iw hx hf FK dz kK hz=>
  obtain⟨⟨n,hn⟩,rR,hk⟩:=h.sL hx;obtain⟨hA,k,he,kE⟩:=hk hl hg;have h':=h.jP (nd:=nd) fun b' eY=>⟨rR b' eY,hl b' eY⟩;refine⟨dT k (off+fo),env,⟨fun wa _=>?_,fun _ hb=>by cases hb⟩,?_,hd⟩
  ·have:=LJ hf hz k off wa;simp [execOp,ho,he,this]
  ·rw [iw];exact h'.derive dz kK FK _ ⟨n,hn⟩ fun _=>⟨hA,k,kE,rfl⟩
 |rd d ss iw LL hn hp=>
  obtain⟨v,h1,h2⟩:=hd;refine⟨v,_,⟨fun wa EC=>?_,fun _ hb=>by cases hb⟩,by rw [iw];exact h.bind hp v (oK d (by simp [lE,TI.Hi])),h2⟩;rw [h.exec LL hn,←abc _ (fun _=>rfl)];exact h1 wa (h.kp0 EC)
 |AE=>cases iP
 |act=>cases iP
 |bx=>cases iP
 |al=>cases iP
 |st=>cases iP
def vI (pl:bp) (ds:Bk) (env:Env) (X:XS) (a:Act) (w:World):Prop:=
 (∀k,X k→k<w.heap.size)∧ ∀p,p∈ds.pins→a.tmps[p.1]? =some p.2∧(pl.ij p.1=true∨ ∃n k cells ty,p.2=dT k 0∧look pl.boxes p.1=some n∧env p.1= .agg cells∧w.heap[k]? =some (.cells cells ty (0,0))∧cells.size=n∧ ¬X k)
theorem ek.pinned (h:ek pl ds cs env X w0 a w):vI pl ds env X a w:=⟨h.sM,fun p hp=>by
 obtain⟨ht,⟨n,k,hn,hk⟩|hg⟩:=h.wC p hp
 ·refine⟨ht,.inr ?_⟩;rw [hk] at ht;obtain⟨cells,hc⟩:=qG.1 (h.conv p.1 n hn _ ht);obtain⟨k',ty,e1,e2,e3,e4⟩:=h.box p.1 n hn cells hc;rw [ht] at e1;have:k=k':=by simpa [dT] using e1
  subst this;exact⟨n,k,cells,ty,hk,hn,hc,e2,e3,e4⟩
 ·exact⟨ht,.inl hg⟩⟩
theorem vI.put {d:Option Nat} {v:Value} (h:vI pl ds env X (a.put d v) w) (hd: ∀x,d=some x→ ∀p,p∈ds.pins→p.1≠x):vI pl ds env X a w:=⟨h.1,fun p hp=>by
 obtain⟨h1,h2⟩:=h.2 p hp;refine⟨?_,h2⟩;cases d with
 |none=>exact h1
 |some x=>rwa [eG _ _ _ _ (hd x rfl p hp)] at h1⟩
theorem NZ {m:Bool} {og:Option (Nat×Bool)} {o:Oper} {r:CR} (hs:Shape P pl cs og m o r) (iP:r.fl=true): ∀x,o.dst=some x→pl.ij x=true→x∈lE r.l:=by
 have f: ∀{Rs:CS} {d:Nat} {e:Ex},o.dst=some d→ ∀x,o.dst=some x→pl.ij x=true→x∈lE (oG pl Rs d e).1:=fun hd x hx hg=>by
  rw [hd] at hx;injection hx with hx;subst hx
  unfold oG;rw [if_pos (by simp [hg])];simp [lE,TI.Hi]
 cases hs with
 |mv x d e ho hd hv hp=>exact f hd
 |ld t x d b off nd ag sz bs ho hd hx ht hb hp hl ha=>exact f hd
 |fa S x g d b off nd fo sz ho hd hx hf FK dz kK hz=>
  intro y hy hg;rw [hd] at hy;injection hy with hy;subst hy
  have:=(nz hg).2.2;rw [FK] at this;cases this
 |rd d ss hd hs hn hp=>intro y hy _;rw [hd] at hy;injection hy with hy;subst hy;simp [lE,TI.Hi]
 |AE=>cases iP
 |act=>cases iP
 |bx=>cases iP
 |al=>cases iP
 |st=>cases iP
theorem Rt {m:Bool} {og:Option (Nat×Bool)} {o:Oper} {r:CR} (hs:Shape P pl cs og m o r) (h:ek pl ds cs env X w0 a w) (hg:AF env og)
  (hl: ∀b,b∈r.nd→bH (env b)=true) (iP:r.fl=false) {gg:List PanicEntry→Env→World→XS→Prop} {next:Env→World→XS→Prop} (hd:fN P gg next r.l env w0 X)
  {K:Act→World→Prop} {Q:Exit→Act→World→Prop}
  (hK: ∀a' w' dv X' dX,ek pl ds r.cs dv X' dX a' w'→next dv dX X'→vX (m=false) pl r.sb a w a' w'→K a' w')
  (oK: ∀b,b∈lE r.l→ ∀p,p∈ds.pins→p.1≠b)
  (hQ: ∀ch w' dv X' dX,Kp X' dX w'→vI pl ds dv X' a w'→gg ch dv dX X'→Q (.panic ch) a w'):o.wp P a w K Q:=by
 have real: ∀(sN:CS) (ss:List (Nat×Ex)),(∀x,o.dst=some x→look pl.boxes x=none)→subst pl cs o.op.operands.toList=some ss→FF o.op=true→
   (∀m' w' v,Step m' X w w'→ek pl ds sN (Iu env o.dst v) (grow X w w') w' (a.put o.dst v) w')→r.cs=sN→
   (∀wa,Kp X w0 wa→iF P m X wa (fun v w' X'=>next (Iu env o.dst v) w' X') (fun ch w' X'=>gg ch env w' X') ((Rj (Iv env ss) o.op o.type).run P wa))→o.wp P a w K Q:=by
  intro sN ss TY LL hn hS jz he;have he:=he w h.ext;unfold ib;rw [h.exec LL hn,←abc _ (fun _=>rfl)];have ed: ∀w' v,Step m X w w'→vX (m=false) pl r.sb a w (a.put o.dst v) w':=fun w' v hs=>⟨fun hm=>by subst hm;exact nQ.acT hs TY,h.acS hs.fr⟩;cases hr:(Rj (Iv env ss) o.op o.type).run P w with
  |ok n w'=>
   rw [hr] at he;cases n<;>simp only [iF] at he<;>simp only [lD]
   case value v=>exact hK _ _ _ _ _ (jz▸hS m w' v he.1) he.2 (ed _ _ he.1)
   case skip=>exact hK _ _ _ _ _ (jz▸hS m w' undef he.1) he.2 (ed _ _ he.1)
   case enter f args=>
    obtain⟨rfl,hc⟩:=he;refine hc.mono fun e jg hR=>?_;cases e with
    |returned v=>exact hK _ _ _ _ _ (jz▸hS m jg v hR.1) hR.2 (ed _ _ hR.1)
    |panicked ch=>exact hQ _ _ _ _ _ (Kp.refl _ _) (h.KO hR.1).pinned hR.2
    |outgrown=>exact hR.elim
  |halt x w'=>
   rw [hr] at he;cases x<;>simp only [iF] at he<;>simp only [lD]
   case panic v=>exact hQ _ _ _ _ _ (Kp.refl _ _) (h.KO he.1).pinned he.2
 have boxed: ∀{d sz:Nat} {e:Ex} {ag:Bool},fN P gg next [if !ag&&sz==1 then .wY d e else .box d sz e] env w0 X→
   (e.ev env).cells.size=sz∧next (kI env d (.agg (e.ev env).cells)) w0 X:=by
  intro d sz e ag hd;simp only [fN] at hd;split at hd
  ·rename_i mK;simp only [aW,cu,beq_iff_eq] at mK;obtain⟨g1,g2⟩:=dk.1 hd;rw [rz g1];exact⟨by simp [mK.2],g2⟩
  ·obtain⟨g1,g2⟩:=dk.1 hd;exact⟨by simpa using g1,g2⟩
 have agX: ∀(t d:Nat) (_:d<pl.n) (cells:Array Value),nQ pl [] a w (a.put (some d) (dT w.heap.size 0)) (w.alloc (.cells cells t)):=by
  intro t d dz cells;refine nQ.eE (Ext.alloc _ _) fun b n Ru k hk wD=>?_;by_cases e:b=d
  ·subst e;rw [tW _ _ _ _ (by rw [h.size];exact dz),if_pos rfl] at wD;have:w.heap.size=k:=by simpa [dT] using wD
   omega
  ·rwa [eG _ _ _ _ e] at wD
 cases hs with
 |mv=>cases iP
 |ld=>cases iP
 |fa=>cases iP
 |rd=>cases iP
 |AE d ss iw LL hn hp=>
  refine real (cs.bind pl d) ss (fun x hx=>by rw [iw] at hx;injection hx with hx;subst hx;exact(vH hp).2.1) LL hn (fun m' w' v ed=>?_) rfl ?_
  ·rw [iw];exact(h.KO ed).bind hp v (oK d (by simp [lE,TI.Hi]))
  ·intro wa EC;have:=hd wa EC;rw [iw];exact this
 |act ss iw LL hn=>
  refine real cs ss (fun x hx=>by rw [iw] at hx;cases hx) LL hn (fun m' w' v ed=>?_) rfl ?_
  ·rw [iw];exact h.KO ed
  ·intro wa EC;have:=hd wa EC;rw [iw];exact this
 |bx t x d sz e ag ho iw hb hv ht dz=>
  have he:=h.eval hv;obtain⟨h1,h2⟩:=boxed hd;have hr:(execOp a.eval o).run P w= .ok (.value (dT w.heap.size 0)) (w.alloc (.cells (e.ev env).cells t)):=by
   simp [execOp,ho,he,Instr.box,newVar,newRow,dT]
  unfold ib;rw [hr];simp only [lD];rw [iw];exact hK _ _ _ _ _ (h.abh dz hb (e.ev env).cells h1 t (oK d (by split<;>simp [lE,TI.Hi]))) h2 ⟨fun _=>agX t d dz _,h.acS ((Ext.alloc _ _).fr X)⟩
 |al t d sz i z ag ho iw hb hi hz ht dz=>
  obtain⟨h1,h2⟩:=boxed hd;have hr:(execOp a.eval o).run P w= .ok (.value (dT w.heap.size 0)) (w.alloc (.cells z.cells t)):=by
   simp [execOp,ho,Instr.alloc,zeroValue,typeInfo,hi,hz,newVar,newRow,dT]
  unfold ib;rw [hr];simp only [lD];rw [iw];exact hK _ _ _ _ _ (h.abh dz hb z.cells h1 t (oK d (by split<;>simp [lE,TI.Hi]))) h2 ⟨fun _=>agX t d dz _,h.acS ((Ext.alloc _ _).fr X)⟩
 |st t x v b off nd sz bs e ag ho iw hx hv ht hb dz=>
  obtain⟨⟨n,hn⟩,rR,hk⟩:=h.sL hx;obtain⟨hA,k,he,kE⟩:=hk hl hg;obtain⟨cells,hc⟩:=qG.1 hA;obtain⟨k',ty,e1,e2,e3,e4⟩:=h.box b n hn cells hc;have wD:k'=k:=by rw [kE] at e1;simpa [dT] using e1.symm
  subst wD;have hbn:bs=n:=by rw [hb] at hn;injection hn
  subst hbn;obtain⟨h1,h2,h3⟩:(e.ev env).cells.size=sz∧(e.ev env).cells.toList.all one=true∧next (kI env b (.agg (cV (env b).cells.toList off (e.ev env).cells.toList).toArray)) w0 X:=by
   simp only [fN] at hd;split at hd
   ·rename_i mK;simp only [aW,cu,beq_iff_eq] at mK;obtain⟨g1,g2⟩:=dk.1 hd;rw [rz g1];exact⟨by simp [mK.2],by simp [g1],g2⟩
   ·split at hd
    ·rename_i mK;simp only [aW,beq_iff_eq] at mK;obtain⟨g1,hd⟩:=dk.1 hd;obtain⟨g2,g3⟩:=dk.1 hd;have g1:(e.ev env).cells.size=sz:=by simpa using g1
     refine⟨g1,g2,?_⟩;have aje:cV (env b).cells.toList off (e.ev env).cells.toList=(e.ev env).cells.toList:=by
      unfold cV;rw [hc,mK.1];have hz:cells.size≤(e.ev env).cells.size:=by omega
      show List.take 0 cells.toList++(e.ev env).cells.toList++List.drop (0+(e.ev env).cells.toList.length) cells.toList=(e.ev env).cells.toList
      rw [List.take_zero,dG,List.drop_eq_nil_of_le (by simpa using hz),List.append_nil]
     rw [aje];simpa using g3
    ·obtain⟨g1,hd⟩:=dk.1 hd;obtain⟨g2,g3⟩:=dk.1 hd;exact⟨by simpa using g1,g2,g3⟩
  have h':=h.jP (nd:=nd) fun b' eY=>⟨rR b' eY,hl b' eY⟩;have CZ:=h.eval hv;have ed:=LK (W9 ht) e2 off zQ (e.ev env) h1 h2;have hr:(execOp a.eval o).run P w= .ok .skip (w.setRow k' (cV cells.toList off (e.ev env).cells.toList).toArray):=by
   simp [execOp,ho,he,CZ,ed]
  unfold ib;rw [hr];simp only [lD];rw [iw];obtain⟨f1,f2⟩:=abi (rS:=(cV cells.toList off (e.ev env).cells.toList).toArray) e2;have fK:((cV cells.toList off (e.ev env).cells.toList).toArray).size=bs:=by
   simp only [List.size_toArray];rw [acR (by simp;omega)];simpa using e3
  rw [hc] at h3;refine hK _ _ _ _ _ (h'.store hb hc kE e2 e4 fK f1 f2) h3 ⟨fun _ RB hRB=>
   ⟨f1.mono fun j hj=>⟨b,bs,hb,hRB b (List.mem_singleton.2 rfl),by rw [hj];exact kE⟩,fun _ _ hz=>hz⟩,fun b2 n2 k2 g1 g2 g3=>f1.block k2 (h.cZ g1 g3).1 fun hj=>?_⟩
  have hj:k2=k':=hj;subst hj;exact g2 (List.mem_singleton.2 (h.inj b2 b n2 bs g1 hn (h.conv b2 n2 g1 _ g3) hA _ g3 kE))
end
section
variable {P : Program} {pl : bp} {ds : Bk} {cs : CS} {env : Env} {X : XS} {w0 w : World} {a : Act} {ops : Array Oper}
variable {gg : List PanicEntry → Env → World → XS → Prop} {next : Env → World → XS → Prop}
theorem N7 {g:Nat} {want:Bool} {op:Op} {r0 r:CR} (fe:mU g want op r0=some r) (hy:lP (env g) want=true) (hd:fN P gg next r.l env w0 X):
  fN P gg next r0.l env w0 X:=by
 obtain⟨fl,nd,l,c,rb,sb⟩:=r0;unfold mU at fe;dsimp only at fe;split at fe
 ·split at fe
  ·injection fe with e;subst e;exact hd
  ·cases fe
 ·split at fe
  ·cases fe
  ·injection fe with e;subst e
   simpa only [fN,TQ,hy,if_true] using hd
 ·split at fe
  ·cases fe
  ·injection fe with e;subst e
   obtain⟨v,h1,_,h2⟩:=hd;exact⟨v,h1 hy,h2⟩
 ·split at fe
  ·cases fe
  ·injection fe with e;subst e
   exact hd.1 hy
 ·cases fe
theorem zv {g:Nat} {want:Bool} {op:Op} {r0 r:CR} (fe:mU g want op r0=some r):r.cs=r0.cs∧r.nd=r0.nd∧r.fl=r0.fl∧r.rb=r0.rb∧r.sb=r0.sb:=by
 obtain⟨fl,nd,l,c,rb,sb⟩:=r0;unfold mU at fe;dsimp only at fe;split at fe<;>(try split at fe)<;>first
  |(cases fe;done)
  |(injection fe with e;subst e;exact⟨rfl,rfl,rfl,rfl,rfl⟩)
theorem IB {g:Nat} {want:Bool} {op:Op} {r0 r:CR} (fe:mU g want op r0=some r):lE r.l=lE r0.l:=by
 obtain⟨fl,nd,l,c,rb,sb⟩:=r0;unfold mU at fe;dsimp only at fe;split at fe<;>(try split at fe)<;>first
  |(cases fe;done)
  |(injection fe with e;subst e;rfl)
theorem acU (nd:List Nat):lE (nd.map .uz)=[]:=by
 induction nd with
 |nil=>rfl
 |cons b nd ih=>simp only [lE,List.map_cons,List.flatMap_cons,TI.Hi,dG] at ih⊢;exact ih
theorem xc (l l':List TI):lE (l++l')=lE l++lE l':=List.flatMap_append
theorem ED (r:CR):lE r.all=lE r.l:=by unfold CR.all;rw [xc,acU,dG]
theorem TZ {m:Bool} {g:Nat} {want:Bool} {o:Oper} {r0 r:CR} (hs:Shape P pl cs (some (g,want)) m o r0) (fe:mU g want o.op r0=some r) (h:ek pl ds cs env X w0 a w)
  (hl: ∀b,b∈r0.nd→bH (env b)=true) (ka:lP (env g) want=false) (hd:fN P gg next r.l env w0 X) (oK: ∀b,b∈lE r.l→ ∀p,p∈ds.pins→p.1≠b):
  ∃dv,ek pl ds r.cs dv X w0 (a.put o.dst undef) w∧next dv w0 X:=by
 have abj: ∀(Rs:CS) (d:Nat) (e:Ex) (nd rb:List Nat),ek pl ds Rs env X w0 a w→o.dst=some d→pl.kJ d=true→acM o.op=false→r0=⟨true,nd,(oG pl Rs d e).1,(oG pl Rs d e).2,rb,[]⟩→
   ∃dv,ek pl ds r.cs dv X w0 (a.put o.dst undef) w∧next dv w0 X:=by
  intro Rs d e nd rb h1 iw hp hfa hr;subst hr;unfold mU oG at fe;by_cases oL:(pl.ij d||pl.mat.contains d)=true
  ·simp only [oL,if_true] at fe;split at fe
   ·cases fe
   ·injection fe with e1;subst e1
    simp only [fN,TQ,ka,a8,if_false] at hd;exact⟨_,by rw [iw];exact h1.bind hp undef (oK d (by simp [lE,TI.Hi])),hd⟩
  ·simp only [oL,hfa,a8,if_false] at fe;cases fe
 cases hs with
 |mv x d e ho iw hv hp=>exact abj cs d e [] [] h iw hp (by rcases ho with ho|ho<;>rw [ho]<;>rfl) rfl
 |ld t x d b off nd ag sz bs ho iw hx ht hb hp dz ha=>
  obtain⟨_,rR,_⟩:=h.sL hx;exact abj (cs.jP nd) d _ nd [b] (h.jP fun b' eY=>⟨rR b' eY,hl b' eY⟩) iw hp (by rw [ho];rfl) rfl
 |fa S x f d b off nd fo sz ho iw hx hf FK dz kK hz=>
  obtain⟨hb,rR,hk⟩:=h.sL hx;have h':=h.jP (nd:=nd) fun b' eY=>⟨rR b' eY,hl b' eY⟩;unfold mU at fe;simp only [ho,acM,if_true,az] at fe;subst fe;refine⟨env,?_,hd⟩;rw [iw];exact h'.derive dz kK FK _ hb fun hg=>by simp only [AF] at hg;rw [ka] at hg;cases hg
 |rd d ss iw LL hn hp=>
  unfold mU at fe;dsimp only at fe;split at fe
  ·cases fe
  ·injection fe with e;subst e
   obtain⟨v,_,h1,h2⟩:=hd;have hv:=h1 ka;subst hv;exact⟨_,by rw [iw];exact h.bind hp undef (oK d (by simp [lE,TI.Hi])),h2⟩
 |AE d ss iw LL hn hp=>
  unfold mU at fe;dsimp only at fe;split at fe
  ·cases fe
  ·injection fe with e;subst e
   exact⟨_,by rw [iw];exact h.bind hp undef (oK d (by simp [lE,TI.Hi])),hd.2 ka⟩
 |act ss iw LL hn=>
  unfold mU at fe;dsimp only at fe;split at fe
  ·cases fe
  ·injection fe with e;subst e
   exact⟨_,by rw [iw];exact h,hd.2 ka⟩
 |bx t x d sz e ag=>cases T5:(!ag&&sz==1)<;>(unfold mU at fe;simp only [T5] at fe;cases fe)
 |al t d sz i z ag=>cases T5:(!ag&&sz==1)<;>(unfold mU at fe;simp only [T5] at fe;cases fe)
 |st t x v b off nd sz bs e ag=>
  cases T5:(!ag&&sz==1)<;>cases ajf:(off==0&&sz==bs)<;>(unfold mU at fe;simp only [T5,ajf] at fe;cases fe)
theorem IC (h:ek pl ds cs env X w0 a w) {o:Oper} {j gs g:Nat} {want:Bool} (hg:o.guard=some (j,want)) (EE:(ops[j]?).bind (·.dst)=some gs)
  (hv:valOf pl cs (.tmp gs)=some (.t g)):bQ o (yielded ops a.tmps)=lP (env g) want:=by
 have ht:a.tmps[gs]? =some (env g):=by
  simp only [valOf] at hv;split at hv
  ·rename_i fe;injection hv with hv
   injection hv with hv
   subst hv;exact h.nP _ fe
  ·have:=h.sig _ (y8 hv);simpa [Ex.ev] using this
 unfold bQ yielded;simp only [hg,EE,cU,ht,lP];cases env g<;>simp
theorem Zi {m:Bool} {o:Oper} {r:CR} (hc:yA P pl cs ops m o=some r) (iP:r.fl=true) (h:ek pl ds cs env X w0 a w) (hd:fN P gg next r.all env w0 X) (oK: ∀b,b∈lE r.l→ ∀p,p∈ds.pins→p.1≠b):
  ∃v dv,(YF P pl r.rb ops o v a w∧ ∀b,b∈r.rb→YL P pl b ops o v a w)∧ek pl ds r.cs dv X w0 (a.put o.dst v) w∧next dv w0 X:=by
 obtain⟨hl,hd⟩:=IA _ hd;unfold yA at hc;split at hc
 ·rename_i hg;obtain⟨v,dv,h1,h2,h3⟩:=Rr (qg hc) h trivial hl iP hd oK;exact⟨v,dv,⟨.inl ⟨by simp [bQ,hg],h1.1⟩,fun b hb=>.inl ⟨by simp [bQ,hg],h1.2 b hb⟩⟩,h2,h3⟩
 ·rename_i j want hg;split at hc
  ·cases hc
  ·rename_i gs EE;split at hc
   ·rename_i g hv;have hw:=IC h hg EE hv;cases qI:Bi P pl cs (some (g,want)) m o with
    |none=>rw [qI] at hc;cases hc
    |some r0=>
     rw [qI] at hc;simp only [cU] at hc;obtain⟨e1,e2,e3,e4,e5⟩:=zv hc;cases hy:lP (env g) want with
     |true=>
      obtain⟨v,dv,h1,h2,h3⟩:=Rr (qg qI) h hy (e2▸hl) (e3▸iP) (N7 hc hy hd) (fun b hb=>oK b (by rw [IB hc];exact hb));exact⟨v,dv,⟨.inl ⟨by rw [hw,hy],e4▸h1.1⟩,fun b hb=>.inl ⟨by rw [hw,hy],h1.2 b (e4▸hb)⟩⟩,e1▸h2,h3⟩
     |false=>
      obtain⟨dv,h1,h2⟩:=TZ (qg qI) hc h (e2▸hl) hy hd oK;exact⟨undef,dv,⟨.inr ⟨by rw [hw,hy],rfl⟩,fun _ _=>.inr ⟨by rw [hw,hy],rfl⟩⟩,h1,h2⟩
   ·cases hc
theorem T6 {m:Bool} {o:Oper} {r:CR} (hc:yA P pl cs ops m o=some r) (iP:r.fl=true): ∀x,o.dst=some x→look pl.boxes x=none:=by
 unfold yA at hc;split at hc
 ·exact Rq (qg hc) iP
 ·rename_i j want hg;split at hc
  ·cases hc
  ·rename_i gs EE;split at hc
   ·rename_i g hv;cases qI:Bi P pl cs (some (g,want)) m o with
    |none=>rw [qI] at hc;cases hc
    |some r0=>
     rw [qI] at hc;simp only [cU] at hc;exact Rq (qg qI) ((zv hc).2.2.1▸iP)
   ·cases hc
theorem afJ {m:Bool} {o:Oper} {r:CR} (hc:yA P pl cs ops m o=some r) (iP:r.fl=true): ∀x,o.dst=some x→pl.ij x=true→x∈lE r.l:=by
 unfold yA at hc;split at hc
 ·exact NZ (qg hc) iP
 ·rename_i j want hg;split at hc
  ·cases hc
  ·rename_i gs EE;split at hc
   ·rename_i g hv;cases qI:Bi P pl cs (some (g,want)) m o with
    |none=>rw [qI] at hc;cases hc
    |some r0=>
     rw [qI] at hc;simp only [cU] at hc;rw [IB hc];exact NZ (qg qI) ((zv hc).2.2.1▸iP)
   ·cases hc
theorem ek.apart (h:ek pl ds cs env X w0 a w) {m:Bool} {o:Oper} {r:CR} (hc:yA P pl cs ops m o=some r) (iP:r.fl=true) (hm: ∀b,b∈lE r.l→ ∀p,p∈ds.pins→p.1≠b):
  ∀x,o.dst=some x→ ∀p,p∈ds.pins→p.1≠x:=fun x hx p hp e=>by
 rcases(h.wC p hp).2 with⟨n,_,hn,_⟩|hg
 ·rw [e,T6 hc iP x hx] at hn;cases hn
 ·exact hm x (afJ hc iP x hx (e▸hg)) p hp e
theorem N8 {m:Bool} {o:Oper} {r:CR} (hc:yA P pl cs ops m o=some r) (h:ek pl ds cs env X w0 a w) (hd:fN P gg next r.all env w0 X)
  {K:Act→World→Prop} {Q:Exit→Act→World→Prop}
  (hK: ∀a' w' dv X' dX,ek pl ds r.cs dv X' dX a' w'→next dv dX X'→vX (m=false) pl r.sb a w a' w'→K a' w')
  (oK: ∀b,b∈lE r.l→ ∀p,p∈ds.pins→p.1≠b)
  (hQ: ∀ch w' dv X' dX,Kp X' dX w'→vI pl ds dv X' a w'→gg ch dv dX X'→Q (.panic ch) a w'):
  if bQ o (yielded ops a.tmps)=true then o.wp P a w K Q else K (a.put o.dst undef) w:=by
 cases iP:r.fl with
 |true=>
  obtain⟨v,dv,hy,h1,h2⟩:=Zi hc iP h hd oK;rcases hy.1 with⟨hw,hv⟩|⟨hw,hv⟩
  ·rw [if_pos hw];unfold ib;rw [hv w (Fr.refl _ w)];exact hK _ _ _ _ _ h1 h2 ⟨fun _=>nQ.refl pl _ a w _ _ (T6 hc iP),vW.refl _ _ _ _⟩
  ·rw [if_neg (by rw [hw];simp)];subst hv;exact hK _ _ _ _ _ h1 h2 ⟨fun _=>nQ.refl pl _ a w _ _ (T6 hc iP),vW.refl _ _ _ _⟩
 |false=>
  obtain⟨hl,hd⟩:=IA _ hd;unfold yA at hc;split at hc
  ·rename_i hg;rw [if_pos (by simp [bQ,hg])];exact Rt (qg hc) h trivial hl iP hd hK oK hQ
  ·rename_i j want hg;split at hc
   ·cases hc
   ·rename_i gs EE;split at hc
    ·rename_i g hv;have hw:=IC h hg EE hv;cases qI:Bi P pl cs (some (g,want)) m o with
     |none=>rw [qI] at hc;cases hc
     |some r0=>
      rw [qI] at hc;simp only [cU] at hc;obtain⟨e1,e2,e3,e4,e5⟩:=zv hc;cases hy:lP (env g) want with
      |true=>
       rw [if_pos (by rw [hw,hy])];exact Rt (qg qI) h hy (e2▸hl) (e3▸iP) (N7 hc hy hd) (e5▸e1▸hK) (fun b hb=>oK b (by rw [IB hc];exact hb)) hQ
      |false=>
       rw [if_neg (by rw [hw,hy];simp)];obtain⟨dv,h1,h2⟩:=TZ (qg qI) hc h (e2▸hl) hy hd oK;refine hK _ _ _ _ _ h1 h2 ⟨fun _=>?_,vW.refl _ _ _ _⟩;refine nQ.eE (Ext.refl w) fun b n hb k hk wD=>?_;cases iw:o.dst with
       |none=>rw [iw] at wD;exact wD
       |some x=>
        rw [iw] at wD;by_cases gh:b=x
        ·subst gh;by_cases dz:b<a.tmps.size
         ·rw [tW _ _ _ _ dz,if_pos rfl] at wD;cases wD
         ·rw [mS (by simp [kG];omega)] at wD;cases wD
        ·rwa [eG _ _ _ _ gh] at wD
    ·cases hc
theorem N9 {Q:Exit→Act→World→Prop} (hN: ∀sN a' w' dv X' dX,ek pl ds sN dv X' dX a' w'→next dv dX X'→Q .normal a' w')
  (hQ: ∀ch a' w' dv X' dX,a'.defers=ds.ds→Kp X' dX w'→vI pl ds dv X' a' w'→gg ch dv dX X'→Q (.panic ch) a' w'): ∀(l:List Oper) (cs:CS) (tl:List TI) (env:Env) (X:XS) (w0:World) (a:Act) (w:World),
  FG P pl ops l cs=some tl→(∀b,b∈lE tl→ ∀p,p∈ds.pins→p.1≠b)→ek pl ds cs env X w0 a w→fN P gg next tl env w0 X→wpList P ops Q l a w
 |[],cs,tl,env,X,w0,a,w,hc,_,h,hd=>by
  simp only [FG,az] at hc;subst hc;exact hN _ _ _ _ _ _ h hd
 |o::l,cs,tl,env,X,w0,a,w,hc,hm,h,hd=>by
  simp only [FG] at hc;cases hr:yA P pl cs ops true o with
  |none=>simp [hr] at hc
  |some r=>
   cases hs:FG P pl ops l r.cs with
   |none=>simp [hr,hs] at hc
   |some zE=>
    simp only [hr,hs,bt,az] at hc;subst hc;rw [zu] at hd;rw [xc,ED] at hm;refine wpList_step fun K hK=>N8 hr h hd (fun a' w' dv X' dX h1 h2 _=>hK _ _ (N9 hN hQ l r.cs zE dv X' dX a' w' hs (fun b hb=>hm b (dB _ hb)) h1 h2)) (fun b hb=>hm b (bV _ hb)) ?_;exact fun ch w' dv X' dX hx vY hp=>hQ ch a w' dv X' dX h.defers hx vY hp
theorem xd {bI:Array Bool} : ∀{l:List Nat} {i:Nat} {r:CR},y7 P pl ops cs bI l=some (i,r)→
  i∈l∧r.fl=true∧KN pl ops bI i r.rb=true∧ ∃o,ops[i]? =some o∧yA P pl cs ops (nj pl ops i) o=some r
 |[],_,_,h=>by cases h
 |j::l,i,r,h=>by
  simp only [y7] at h;split at h
  ·rename_i x hx;split at h
   ·rename_i hc;simp only [az,cy] at h;obtain⟨rfl,rfl⟩:=h;simp only [aW] at hc;cases ho:ops[j]? with
    |none=>simp [ho] at hx
    |some o=>
     simp only [ho,cU] at hx;exact⟨iD ..,hc.1,hc.2,o,rfl,hx⟩
   ·obtain⟨h1,h2⟩:=xd h;exact⟨bA _ h1,h2⟩
  ·obtain⟨h1,h2⟩:=xd h;exact⟨bA _ h1,h2⟩
theorem LN {o:Oper} {b:Nat×Nat×Bool×Value} (h:FH P pl o=some b) (m:Bool):yA P pl cs ops m o=some ⟨false,[],[wZ b],tU cs b.1,[],[]⟩:=by
 unfold FH at h;split at h
 ·rename_i t d hg sO hd;split at h
  ·rename_i sz z ag s h1 h2 h3;split at h
   ·rename_i hc;simp only [az] at h;subst h;simp only [yA,hg,Bi,sO,hd,h1,h2,TS,h3,hc,if_true,wZ,tU]
   ·cases h
  ·cases h
 ·cases h
theorem acV (env:Env) {d d':Nat} (h:d≠d') (v v':Value):kI (kI env d v) d' v'=kI (kI env d' v') d v:=by
 funext s
 by_cases h1:s=d
 ·subst h1;rw [fV _ _ h,jX,jX]
 ·by_cases h2:s=d'
  ·subst h2;rw [jX,fV _ _ (Ne.symm h),jX]
  ·rw [fV _ _ h2,fV _ _ h1,fV _ _ h1,fV _ _ h2]
theorem abk {b b':Nat×Nat×Bool×Value} (du:b.1≠b'.1) {l:List TI} (h:fN P gg next (wZ b::wZ b'::l) env w0 X):fN P gg next (wZ b'::wZ b::l) env w0 X:=by
 obtain⟨d,n,o,z⟩:=b;obtain⟨d',n',o',z'⟩:=b';have du:d≠d':=du;cases o<;>cases o'<;>simp only [wZ,fN,TQ,Ex.ev,dk,if_true,if_false,a8] at h⊢ <;>obtain⟨h1,h2,h3⟩:=h<;>exact⟨h2,h1,by rw [acV _ du.symm];exact h3⟩
theorem Zj {d d':Nat} {dv:Env} {X':XS} {dX:World} {a':Act} {w':World} (h:ek pl ds (tU (tU cs d') d) dv X' dX a' w'):ek pl ds (tU (tU cs d) d') dv X' dX a' w':=by
 refine⟨h.size,h.defers,h.wC,h.ext,h.sM,h.nP,fun p hp=>h.sig p ?_,h.box,h.inj,h.conv,fun b hb=>h.live b ?_,fun p hp=>h.ptr p ?_⟩
 ·simp only [tU,CS.kill,CS.jP,fG] at hp⊢;exact⟨⟨hp.1.1,hp.2⟩,hp.1.2⟩
 ·simp only [tU,CS.kill,CS.jP,List.mem_append,List.mem_singleton] at hb⊢;rcases hb with h|h|h
  ·exact .inr (.inl h)
  ·exact .inl h
  ·exact .inr (.inr h)
 ·simp only [tU,CS.kill,CS.jP,fG] at hp⊢;exact⟨⟨hp.1.1,hp.2⟩,hp.1.2⟩
theorem Yo {l:List Nat} {i:Nat} (h:Zg l i=true):l=[i]:=by
 unfold Zg at h;split at h
 ·rw [beq_iff_eq.1 h]
 ·cases h
theorem ID {i:Nat} {o:Oper} {r:CR} {Q:Exit→Act→World→Prop} (ho:ops[i]? =some o) (hx:yA P pl cs ops (nj pl ops i) o=some r) (Rv:r.sb=[]) (h:ek pl ds cs env X w0 a w) (hd:fN P gg next r.all env w0 X) {bI:Array Bool} {fuel:Nat}
  (oK: ∀b,b∈lE r.l→ ∀p,p∈ds.pins→p.1≠b)
  (hQ: ∀ch a' w' dv X' dX,a'.defers=ds.ds→Kp X' dX w'→vI pl ds dv X' a' w'→gg ch dv dX X'→Q (.panic ch) a' w')
  (hK: ∀a' w' dv X' dX,ek pl ds r.cs dv X' dX a' w'→next dv dX X'→rQ P pl ops Q fuel (bI.setIfInBounds i true) a' w'):
  wpOp P ops Q i (fun a' w'=>(∀o,ops[i]? =some o→vX (nj pl ops i=false) pl (si pl ops o) a w a' w')∧rQ P pl ops Q fuel (bI.setIfInBounds i true) a' w') a w:=by
 have jo:=N8 (ops:=ops) (K:=fun a' w'=>(∀o',ops[i]? =some o'→vX (nj pl ops i=false) pl (si pl ops o') a w a' w')∧rQ P pl ops Q fuel (bI.setIfInBounds i true) a' w') (Q:=Q) hx h hd
  (fun a' w' dv X' dX h1 h2 h3=>⟨fun o' uJ=>⟨fun AG=>(h3.1 AG).sub fun b hb=>(by rw [Rv] at hb;cases hb),h3.2.sub fun b hb=>(by rw [Rv] at hb;cases hb)⟩,hK a' w' dv X' dX h1 h2⟩)
  oK (fun ch w' dv X' dX hk vY hp=>hQ ch a w' dv X' dX h.defers hk vY hp)
 unfold wpOp;simp only [ho] at jo⊢;split
 ·rename_i hw;rw [if_pos hw] at jo;exact .inl jo
 ·rename_i hw;rw [if_neg hw] at jo;exact jo
theorem EF {Q:Exit→Act→World→Prop} (hN: ∀sN a' w' dv X' dX,ek pl ds sN dv X' dX a' w'→next dv dX X'→Q .normal a' w')
  (hQ: ∀ch a' w' dv X' dX,a'.defers=ds.ds→Kp X' dX w'→vI pl ds dv X' a' w'→gg ch dv dX X'→Q (.panic ch) a' w')
  (Hm: ∀c a (d:Option Nat) v w,(∀x,d=some x→ ∀p,p∈ds.pins→p.1≠x)→Q (.panic c) (a.put d v) w→Q (.panic c) a w) (Am:sg ops=true):
  ∀(fuel:Nat) (bI:Array Bool) (cs:CS) (tl:List TI) (env:Env) (X:XS) (w0:World) (a:Act) (w:World),
  tV P pl ops fuel bI cs=some tl→(∀b,b∈lE tl→ ∀p,p∈ds.pins→p.1≠b)→ek pl ds cs env X w0 a w→fN P gg next tl env w0 X→rQ P pl ops Q fuel bI a w
 |0,bI,cs,tl,env,X,w0,a,w,hc,_,h,hd=>by
  simp only [tV] at hc;split at hc
  ·rename_i hr;simp only [az] at hc;subst hc;exact⟨by simpa using hr,hN _ _ _ _ _ _ h hd⟩
  ·cases hc
 |fuel+1,bI,cs,tl,env,X,w0,a,w,hc,hm,h,hd=>by
  simp only [tV] at hc;split at hc
  ·rename_i i r hf;obtain⟨h1,h2,h3,o,ho,h4⟩:=xd hf;cases hs:tV P pl ops fuel (bI.setIfInBounds i true) r.cs with
   |none=>simp [hs] at hc
   |some zE=>
    simp only [hs,bt,az] at hc;subst hc;rw [zu] at hd;rw [xc,ED] at hm;obtain⟨v,dv,hy,hS,hn⟩:=Zi h4 h2 h hd (fun b hb=>hm b (bV _ hb));have C6: ∀j oj,ops[j]? =some oj→j≠i→bI.getD j true=false→ ¬(j∈DZ ops bI i∨j=i∨(bI.getD j true=false∧ ∃oj,ops[j]? =some oj∧waits oj i=true))→_:=
     fun j oj hj du CX ka=>NX ho h3 j oj hj du CX (fun hb=>ka (.inl hb)) (by
      cases hw:waits oj i with
      |false=>rfl
      |true=>exact absurd (.inr (.inr ⟨CX,oj,hj,hw⟩)) ka)
    obtain⟨Y,NW,hY,ed⟩: ∃Y:Act→World→Prop,(∀a w,Y a w→Yx P ops o v a w)∧Y a w∧ ∀j oj,oj.dst=oj.dst→o.apart ops oj=true→(nj pl ops j=false∨zt o=true∨Rl o r.rb=true)→(∀b,b∈si pl ops oj→ ¬b∈r.rb)→
      TT pl ops o oj (nj pl ops j=false) (si pl ops oj) Y:=by
     cases AG:Rl o r.rb with
     |false=>exact⟨YF P pl r.rb ops o v,fun _ _ h=>h.yx,hy.1,fun j oj _ _ h4 h5=>YF.stb (h4.imp id fun h=>h.elim id fun h=>by cases h) h5⟩
     |true=>
      unfold Rl at AG;split at AG
      ·rename_i t x sO;have hxr:x∈r.rb:=by simpa using AG
       refine⟨YL P pl x ops o v,fun _ _ h=>h.yx,hy.2 x hxr,fun j oj _ Hj _ h5=>YL.stb (fun d hd hdx=>?_) fun hm=>h5 x hm hxr⟩;subst hdx;refine(sh Hj).2.2 d hd (bV _ (List.mem_filterMap.2 ⟨.tmp d,?_,rfl⟩));simp [sO,Op.operands]
      ·cases AG
    refine Iw NW ho (s8 Am) (Ro ho h3) (fun c a' w' hq=>Hm c a' o.dst v w' (h.apart h4 h2 fun b hb=>hm b (bV _ hb)) hq) fuel bI a w
     (fun j=>j∈DZ ops bI i∨j=i∨(bI.getD j true=false∧ ∃oj,ops[j]? =some oj∧waits oj i=true)) (.inr (.inl rfl)) (fun j hj=>?_)
     (fun j oj hj du CX ka=>have h:=C6 j oj hj du CX ka;⟨h.1,ed j oj rfl h.1 h.2.1 h.2.2⟩) h1 hY ?_
    ·rcases hj with hj|rfl|⟨hu,oj,BQ,hw⟩
     ·rcases Rn j hj with h|⟨h,oj,k,q1,q2,q3⟩
      ·exact .inl h
      ·exact .inr ⟨h,oj,k,q1,q2,.inl q3⟩
     ·exact .inl rfl
     ·exact .inr ⟨hu,oj,i,BQ,hw,.inr (.inl rfl)⟩
    exact EF hN hQ Hm Am fuel _ r.cs zE dv X w0 _ w hs (fun b hb=>hm b (dB _ hb)) hS hn
  ·split at hc
   ·rename_i i hr;split at hc
    ·rename_i o ho;split at hc
     ·rename_i r hx;split at hc
      ·rename_i Rv;cases hs:tV P pl ops fuel (bI.setIfInBounds i true) r.cs with
       |none=>simp [hs] at hc
       |some zE=>
        simp only [hs,bt,az] at hc;subst hc;rw [zu] at hd;rw [xc,ED] at hm;refine⟨fun h0=>(by rw [hr] at h0;cases h0),fun i' AH=>?_⟩;rw [hr] at AH;have hii:=List.mem_singleton.1 AH;subst hii;have nR: ∀b,b∈r.sb→b∈si pl ops o:=fun b hb=>by have:=List.all_eq_true.1 Rv b hb;simpa using this
        have jo:=N8 (ops:=ops) (K:=fun a' w'=>(∀o',ops[i']? =some o'→vX (nj pl ops i'=false) pl (si pl ops o') a w a' w')∧rQ P pl ops Q fuel (bI.setIfInBounds i' true) a' w') (Q:=Q) hx h hd
         (fun a' w' dv X' dX h1 h2 h3=>⟨fun o' uJ=>by rw [ho] at uJ;injection uJ with uJ;subst uJ;exact⟨fun AG=>(h3.1 AG).sub nR,h3.2.sub nR⟩,EF hN hQ Hm Am fuel _ r.cs zE dv X' dX a' w' hs (fun b hb=>hm b (dB _ hb)) h1 h2⟩)
         (fun b hb=>hm b (bV _ hb)) (fun ch w' dv X' dX hk vY hp=>hQ ch a w' dv X' dX h.defers hk vY hp)
        unfold wpOp;simp only [ho] at jo⊢;split
        ·rename_i hw;rw [if_pos hw] at jo;exact .inl jo
        ·rename_i hw;rw [if_neg hw] at jo;exact jo
      ·cases hc
     ·cases hc
    ·cases hc
   ·rename_i i j hr;split at hc
    ·rename_i bi hp;cases hs:tV P pl ops fuel (bI.setIfInBounds i true) (tU cs bi.1)with
     |none=>simp [hs] at hc
     |some zE=>
      simp only [hs,bt,az] at hc;subst hc;have hmc: ∀(i:TI) (l:List TI),lE (i::l)=lE [i]++lE l:=fun i l=>xc [i] l;rw [hmc] at hm;unfold afe at hp;split at hp
      ·rename_i bi' bj hbi hbj;split at hp
       ·rename_i hpc;simp only [az] at hp;subst hp;simp only [aW,cu,beq_eq_false_iff_ne] at hpc;obtain⟨⟨du,hri⟩,hrj⟩:=hpc;replace hri:=Yo hri;replace hrj:=Yo hrj;obtain⟨oi,hoi,hai⟩:=Option.bind_eq_some_iff.1 hbi;obtain⟨oj,BQ,haj⟩:=Option.bind_eq_some_iff.1 hbj;have Rw:=fun (cs:CS) (m:Bool)=>LN (cs:=cs) (ops:=ops) hai m;have hcj:=fun (cs:CS) (m:Bool)=>LN (cs:=cs) (ops:=ops) haj m;refine⟨fun h0=>(by rw [hr] at h0;cases h0),fun i' AH=>?_⟩;rw [hr] at AH;rcases List.mem_cons.1 AH with rfl|AH
        ·exact ID hoi (Rw cs _) rfl h (hd:fN P gg (fN P gg next zE) [wZ bi'] env w0 X) (fun b hb=>hm b (bV _ hb)) hQ fun a' w' dv X' dX h1 h2=>EF hN hQ Hm Am fuel _ _ zE dv X' dX a' w' hs (fun b hb=>hm b (dB _ hb)) h1 h2
        ·have Ix:=List.mem_singleton.1 AH;subst Ix;cases fuel with
         |zero=>
          simp only [tV,hri] at hs;cases hs
         |succ f=>
          simp only [tV,hri,y7,BQ,cU,hcj,Bool.false_and,a8,if_false,List.all_nil,if_true] at hs;cases bT:tV P pl ops f ((bI.setIfInBounds i true).setIfInBounds i' true) (tU (tU cs bi'.1) bj.1)with
          |none=>simp [bT] at hs
          |some T7=>
           simp only [bT,bt,az] at hs;have htl:wZ bj::T7=zE:=hs;subst htl;rw [hmc (wZ bj) T7] at hm;have nS:=abk du hd;refine ID BQ (hcj cs _) rfl h (nS:fN P gg (fN P gg next (wZ bi'::T7)) [wZ bj] env w0 X) (fun b hb=>hm b (dB _ (bV _ hb))) hQ fun a' w' dv X' dX h1 h2=>?_;refine⟨fun h0=>(by rw [hrj] at h0;cases h0),fun k hk=>?_⟩;rw [hrj] at hk;have hki:=List.mem_singleton.1 hk;subst hki;refine ID hoi (Rw _ _) rfl h1 (h2:fN P gg (fN P gg next T7) [wZ bi'] dv dX X') (fun b hb=>hm b (bV _ hb)) hQ fun a'' jg ajg sK BR h3 h4=>?_;have hkj:k≠i':=fun e=>by
            subst e;rw [hoi] at BQ;cases BQ;rw [hai] at haj;cases haj;exact du rfl
           rw [qB _ _ hkj.symm];exact EF hN hQ Hm Am f _ _ T7 ajg sK BR a'' jg bT (fun b hb=>hm b (dB _ (dB _ hb))) (Zj h3) h4
       ·cases hp
      ·cases hp
    ·cases hc
   ·cases hc
theorem Rx {P:Program} {f:Nat→Option T} : ∀{l:List Nat} {t:T},PT l f=some t→ ∀i∈l,∃t',f i=some t'∧(∀K env w X,den P t K env w X→den P t' K env w X)∧ ∀b,b∈t'.mk→b∈t.mk
 |[],t,h,i,hi=>by cases hi
 |[j],t,h,i,hi=>by
  have hij:i=j:=List.mem_singleton.1 hi;subst hij;exact⟨t,by simpa [PT] using h,fun _ _ _ _ h=>h,fun _ h=>h⟩
 |j::k::r,t,h,i,hi=>by
  simp only [PT] at h;split at h
  ·rename_i a b ha hb;simp only [az] at h;subst h;rcases List.mem_cons.1 hi with rfl|hi
   ·exact⟨a,ha,fun _ _ _ _ h=>h.1,fun b hb=>bV _ hb⟩
   ·obtain⟨t',h1,h2,h3⟩:=Rx (l:=k::r) hb i hi;exact⟨t',h1,fun _ _ _ _ h=>h2 _ _ _ _ h.2,fun b hb=>dB _ (h3 b hb)⟩
  ·cases h
theorem MH {K:jH} {Q:Exit→Act→World→Prop} (hN: ∀sN a' w' dv X' dX,ek pl ds sN dv X' dX a' w'→K .normal dv dX X'→Q .normal a' w')
  (hQ: ∀ch a' w' dv X' dX,a'.defers=ds.ds→Kp X' dX w'→vI pl ds dv X' a' w'→K (.panic ch) dv dX X'→Q (.panic ch) a' w')
  (Hm: ∀c a (d:Option Nat) v w,(∀x,d=some x→ ∀p,p∈ds.pins→p.1≠x)→Q (.panic c) (a.put d v) w→Q (.panic c) a w) (Am:sg ops=true):
  ∀(fuel:Nat) (bI:Array Bool) (cs:CS) (t:T) (env:Env) (X:XS) (w0:World) (a:Act) (w:World),
  zD P pl ops fuel bI cs=some t→(∀b,b∈t.mk→ ∀p,p∈ds.pins→p.1≠b)→ek pl ds cs env X w0 a w→den P t K env w0 X→rQ P pl ops Q fuel bI a w
 |0,bI,cs,t,env,X,w0,a,w,hc,_,h,hd=>by
  simp only [zD] at hc;split at hc
  ·rename_i hr;simp only [az] at hc;subst hc;exact⟨by simpa using hr,hN _ _ _ _ _ _ h hd⟩
  ·cases hc
 |fuel+1,bI,cs,t,env,X,w0,a,w,hc,hm,h,hd=>by
  simp only [zD] at hc;split at hc
  ·rename_i i r hf;obtain⟨h1,h2,h3,o,ho,h4⟩:=xd hf;cases hs:zD P pl ops fuel (bI.setIfInBounds i true) r.cs with
   |none=>simp [hs] at hc
   |some zE=>
    simp only [hs,bt,az] at hc;subst hc;have hd:fN P (fun ch=>K (.panic ch)) (fun e w X=>den P zE K e w X) r.all env w0 X:=hd;have hm: ∀b,b∈lE r.l++zE.mk→ ∀p,p∈ds.pins→p.1≠b:=by
     simp only [T.mk,ED] at hm;exact hm
    obtain⟨v,dv,hy,hS,hn⟩:=Zi h4 h2 h hd (fun b hb=>hm b (bV _ hb));have C6: ∀j oj,ops[j]? =some oj→j≠i→bI.getD j true=false→ ¬(j∈DZ ops bI i∨j=i∨(bI.getD j true=false∧ ∃oj,ops[j]? =some oj∧waits oj i=true))→_:=
     fun j oj hj du CX ka=>NX ho h3 j oj hj du CX (fun hb=>ka (.inl hb)) (by
      cases hw:waits oj i with
      |false=>rfl
      |true=>exact absurd (.inr (.inr ⟨CX,oj,hj,hw⟩)) ka)
    obtain⟨Y,NW,hY,ed⟩: ∃Y:Act→World→Prop,(∀a w,Y a w→Yx P ops o v a w)∧Y a w∧ ∀j oj,oj.dst=oj.dst→o.apart ops oj=true→(nj pl ops j=false∨zt o=true∨Rl o r.rb=true)→(∀b,b∈si pl ops oj→ ¬b∈r.rb)→
      TT pl ops o oj (nj pl ops j=false) (si pl ops oj) Y:=by
     cases AG:Rl o r.rb with
     |false=>exact⟨YF P pl r.rb ops o v,fun _ _ h=>h.yx,hy.1,fun j oj _ _ h4 h5=>YF.stb (h4.imp id fun h=>h.elim id fun h=>by cases h) h5⟩
     |true=>
      unfold Rl at AG;split at AG
      ·rename_i t x sO;have hxr:x∈r.rb:=by simpa using AG
       refine⟨YL P pl x ops o v,fun _ _ h=>h.yx,hy.2 x hxr,fun j oj _ Hj _ h5=>YL.stb (fun d hd hdx=>?_) fun hm=>h5 x hm hxr⟩;subst hdx;refine(sh Hj).2.2 d hd (bV _ (List.mem_filterMap.2 ⟨.tmp d,?_,rfl⟩));simp [sO,Op.operands]
      ·cases AG
    refine Iw NW ho (s8 Am) (Ro ho h3) (fun c a' w' hq=>Hm c a' o.dst v w' (h.apart h4 h2 fun b hb=>hm b (bV _ hb)) hq) fuel bI a w
     (fun j=>j∈DZ ops bI i∨j=i∨(bI.getD j true=false∧ ∃oj,ops[j]? =some oj∧waits oj i=true)) (.inr (.inl rfl)) (fun j hj=>?_)
     (fun j oj hj du CX ka=>have h:=C6 j oj hj du CX ka;⟨h.1,ed j oj rfl h.1 h.2.1 h.2.2⟩) h1 hY ?_
    ·rcases hj with hj|rfl|⟨hu,oj,BQ,hw⟩
     ·rcases Rn j hj with h|⟨h,oj,k,q1,q2,q3⟩
      ·exact .inl h
      ·exact .inr ⟨h,oj,k,q1,q2,.inl q3⟩
     ·exact .inl rfl
     ·exact .inr ⟨hu,oj,i,BQ,hw,.inr (.inl rfl)⟩
    exact MH hN hQ Hm Am fuel _ r.cs zE dv X w0 _ w hs (fun b hb=>hm b (dB _ hb)) hS hn
  ·refine⟨fun h0=>?_,fun i' AH=>?_⟩
   ·rw [h0] at hc;simp [PT] at hc
   obtain⟨t',h1,h2,h3⟩:=Rx (P:=P) hc i' AH;split at h1
   ·rename_i o ho;split at h1
    ·rename_i r hx;split at h1
     ·rename_i Rv;cases hs:zD P pl ops fuel (bI.setIfInBounds i' true) r.cs with
      |none=>simp [hs] at h1
      |some zE=>
       simp only [hs,bt,az] at h1;subst h1;have hd:fN P (fun ch=>K (.panic ch)) (fun e w X=>den P zE K e w X) r.all env w0 X:=h2 _ _ _ _ hd;have hm: ∀b,b∈lE r.l++zE.mk→ ∀p,p∈ds.pins→p.1≠b:=fun b hb=>hm b (h3 b (by
        simp only [T.mk,ED];exact hb))
       have nR: ∀b,b∈r.sb→b∈si pl ops o:=fun b hb=>by have:=List.all_eq_true.1 Rv b hb;simpa using this
       have jo:=N8 (ops:=ops) (K:=fun a' w'=>(∀o',ops[i']? =some o'→vX (nj pl ops i'=false) pl (si pl ops o') a w a' w')∧rQ P pl ops Q fuel (bI.setIfInBounds i' true) a' w') (Q:=Q) hx h hd
        (fun a' w' dv X' dX h1 h2 h3=>⟨fun o' uJ=>by rw [ho] at uJ;injection uJ with uJ;subst uJ;exact⟨fun AG=>(h3.1 AG).sub nR,h3.2.sub nR⟩,MH hN hQ Hm Am fuel _ r.cs zE dv X' dX a' w' hs (fun b hb=>hm b (dB _ hb)) h1 h2⟩)
        (fun b hb=>hm b (bV _ hb)) (fun ch w' dv X' dX hk vY hp=>hQ ch a w' dv X' dX h.defers hk vY hp)
       unfold wpOp;simp only [ho] at jo⊢;split
       ·rename_i hw;rw [if_pos hw] at jo;exact .inl jo
       ·rename_i hw;rw [if_neg hw] at jo;exact jo
     ·cases h1
    ·cases h1
   ·cases h1
end
end Go.aR
