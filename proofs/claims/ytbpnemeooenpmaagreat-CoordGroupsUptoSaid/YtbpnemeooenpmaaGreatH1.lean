/-
 Part 1 of the proof: what the last text leans on.
-/
import Derived.KernelRfl
import Derived.Orders
import Derived.Below
import Derived.Laws.Sem
import Derived.Laws.CopyRow
import Derived.Laws.Entries
import Derived.Laws.Cells
import GoSem.Dispatch
open Option.some renaming injEq → ay
open Go.Region renaming wanted → bQ, ready → fY, binds → rF, noSelect → sf, noSelect_spec → s7
open Bool renaming and_eq_true → aW, not_eq_true' → cu, false_eq_true → a8, or_eq_true → yy, not_eq_false → wA
open List renaming mem_append_left → bR, mem_filter → fE, mem_append_right → dA, mem_cons_of_mem → bz, range → dI, nil_append → dG, mem_cons → gS, mem_cons_self → iB, cons_append → rG, contains_iff_mem → sI, all_eq_true → ji
open Go.Act renaming put → kD, eval → fG
open Option renaming map_some → bq, bind_some → cU, isNone_iff_eq_none → fA
open Go.Oper renaming upon → lB, wp → hU, apart_spec → sg
open Prod.mk renaming injEq → cx
open Nat renaming le_refl → ba, lt_of_lt_of_le → aG, le_trans → ah
open Go.Instr renaming sureAddr → iU, loadAt → gH
open Array renaming replicate → dH, getElem?_setIfInBounds_ne → jj, getElem?_eq_none → mR, toList_map → jk, any_eq_true' → ue, setIfInBounds_comm → qz, getElem?_setIfInBounds → dQ
open Go.Deferred renaming ofValue → ik
set_option linter.unusedVariables false
set_option linter.unusedSimpArgs false
namespace Go.aV
theorem qF {p:Prop} (h:p:=by first|assumption|exact a7.cells (by assumption)):p:=h
theorem qO {p:Prop} (h:p:=by first|assumption|exact Own.sl (by assumption)):p:=h
theorem qM {p:Prop} (h:p:=by first|exact mv0|exact mv1 (by assumption)|exact mv2 (by assumption) (by assumption)):p:=h
theorem qN {p:Prop} (h:p:=by simp only [Value.cells,nq1,nq2,nq3,nq4,nq5,nq6,dg,nq7,nq8,nq9,nq0,Nat.reduceAdd,Nat.zero_add];try rfl):p:=h
theorem qE {p:Prop} (h:p:=by repeat' first|with_reducible apply TE|with_reducible exact WW|assumption|rfl|exact Sl.one (by assumption)|exact en.one (by assumption)|exact Sl.one (Own.sl (by assumption))):p:=h
theorem qC {p:Prop} (h:p:=by first|rfl|assumption|exact Sl.one (by assumption)|exact en.one (by assumption)|exact Sl.one (Own.sl (by assumption))):p:=h
theorem qR {p:Prop} (h:p:=by first|assumption|exact List.getElem?_eq_getElem (by omega)):p:=h
theorem qA {p:Prop} (h:p:=by first|assumption|exact Sl.mv (by assumption) qM|exact nf.mv (by assumption) qM|exact nh.mv (by assumption) qM|exact Rec.at.mv (by assumption) qM|exact Own.sl (by assumption)|exact Cells.mv (by assumption) qM|exact Cells.mv (a7.cells (by assumption)) qM|omega):p:=h
theorem kQ {p:Prop} (h:p:=by kernel_rfl):p:=h
theorem zQ {p:Prop} (h:p:=by omega):p:=h
abbrev Env:=Nat→Value
abbrev XS:=Nat→Prop
def kF (e:Env) (d:Nat) (v:Value):Env:=fun s=>match s==d with
 |true=>v
 |false=>e s
def Iq (e:Env) (d:Option Nat) (v:Value):Env:=match d with
 |some d=>kF e d v
 |none=>e
structure Fr (X:XS) (w w':World):Prop where
 os:w'.os=w.os
 tape:w'.tape=w.tape
 output:w'.output=w.output
 size:w.heap.size≤w'.heap.size
 block: ∀k,k<w.heap.size→ ¬X k→w'.heap[k]? =w.heap[k]?
def nX:XS:=fun _=>False
def Ext (w w':World):Prop:=Fr nX w w'
theorem Fr.refl (X:XS) (w:World):Fr X w w:=⟨rfl,rfl,rfl,ba _,fun _ _ _=>rfl⟩
theorem Fr.trans {X:XS} {a b c:World} (h:Fr X a b) (k:Fr X b c):Fr X a c:=
 ⟨k.os.trans h.os,k.tape.trans h.tape,k.output.trans h.output,ah h.size k.size,
  fun i hi hx=>(k.block i (aG hi h.size) hx).trans (h.block i hi hx)⟩
theorem Fr.mono {X Y:XS} {a b:World} (h:Fr X a b) (hs: ∀k,X k→Y k):Fr Y a b:=
 ⟨h.os,h.tape,h.output,h.size,fun i hi hy=>h.block i hi fun hx=>hy (hs i hx)⟩
theorem Ext.refl (w:World):Ext w w:=Fr.refl _ _
theorem Ext.trans {a b c:World} (h:Ext a b) (k:Ext b c):Ext a c:=Fr.trans h k
theorem Ext.fr {a b:World} (h:Ext a b) (X:XS):Fr X a b:=Fr.mono h (fun _ hf=>hf.elim)
theorem Ext.size {a b:World} (h:Ext a b):a.heap.size≤b.heap.size:=Fr.size h
theorem Ext.block {a b:World} (h:Ext a b) {k:Nat} (hk:k<a.heap.size):b.heap[k]? =a.heap[k]? :=Fr.block h k hk (fun hf=>hf)
theorem Ext.acC {a b:World} (h:RowKit.Below a.heap.size a b):Ext a b:=⟨h.os,h.tape,h.output,h.size,fun k hk _=>h.block k hk⟩
theorem Ext.below {a b:World} (h:Ext a b):RowKit.Below a.heap.size a b:=⟨h.os,h.tape,h.output,Fr.size h,fun _ hk=>h.block hk⟩
theorem Ext.alloc (w:World) (o:Obj):Ext w (w.alloc o):=Ext.acC ((RowKit.Below.refl _ _).alloc (ba _) o)
theorem Ext.drew (w:World):Ext w { w with drawn:=w.drawn+1 } :=⟨rfl,rfl,rfl,ba _,fun _ _ _=>rfl⟩
structure Kp (X:XS) (w w':World):Prop where
 os:w'.os=w.os
 tape:w'.tape=w.tape
 output:w'.output=w.output
 size:w.heap.size≤w'.heap.size
 block: ∀k,X k→w'.heap[k]? =w.heap[k]?
theorem Kp.refl (X:XS) (w:World):Kp X w w:=⟨rfl,rfl,rfl,ba _,fun _ _=>rfl⟩
theorem Kp.trans {X:XS} {a b c:World} (h:Kp X a b) (k:Kp X b c):Kp X a c:=
 ⟨k.os.trans h.os,k.tape.trans h.tape,k.output.trans h.output,ah h.size k.size,fun i hx=>(k.block i hx).trans (h.block i hx)⟩
theorem Kp.less {X Y:XS} {a b:World} (h:Kp X a b) (hs: ∀k,Y k→X k):Kp Y a b:=⟨h.os,h.tape,h.output,h.size,fun i hy=>h.block i (hs i hy)⟩
theorem Fr.kp {X Y:XS} {a b:World} (h:Fr X a b) (hy: ∀k,Y k→k<a.heap.size∧ ¬X k):Kp Y a b:=
 ⟨h.os,h.tape,h.output,h.size,fun i hi=>h.block i (hy i hi).1 (hy i hi).2⟩
theorem Ext.kp {X:XS} {a b:World} (h:Ext a b) (hx: ∀k,X k→k<a.heap.size):Kp X a b:=Fr.kp h fun k hk=>⟨hx k hk,fun hf=>hf⟩
def aR (w:World):XS:=fun k=>k<w.heap.size
theorem Kp.ext {a b:World} (h:Kp (aR a) a b):Ext a b:=⟨h.os,h.tape,h.output,h.size,fun k hk _=>h.block k hk⟩
theorem Ext.aR {a b:World} (h:Ext a b):Kp (aR a) a b:=h.kp fun _ hk=>hk
inductive Ex where
 |t (n:Nat)
 |c (v:Value)
 |s (b off n:Nat)
 |k (b off:Nat)
def cq (v:Value) (off n:Nat):Value:=.agg ((v.cells.toList.drop off).take n).toArray
def cellOf (v:Value) (i:Nat):Value:=v.cells.toList.getD i undef
def Ex.ev (env:Env):Ex→Value
 | .t n=>env n
 | .c v=>v
 | .s b off n=>cq (env b) off n
 | .k b off=>cellOf (env b) off
def Ex.TF:Ex→Nat→Bool
 | .t n,d=>n==d
 | .c _,_=>false
 | .s b _ _,d=>b==d
 | .k b _,d=>b==d
def look {α:Type} :List (Nat×α)→Nat→Option α
 |[],_=>none
 |(s,e)::r,t=>if s=t then some e else look r t
def Ir (env:Env) (ss:List (Nat×Ex)):Operand→Value
 | .tmp t=>match look ss t with
  |some e=>e.ev env
  |none=>env t
 | .const v=>v
 | .global g=>.pointer (some ⟨g,0,none⟩)
 | .func f=>.func (.func f) #[] #[]
def PM (op:Op) (ty:TypeId):Oper:=⟨none,op,ty, "",#[],none⟩
def vS (s:Sem Value):Sem Next:=do pure (.value (←s))
def FB (f:Value) (args:Array Value):Sem Next:=do let d←ik f args;invoke d.target d.args
def vT (ρ:Operand→Value) (a:Array Operand):Array Value:=(a.toList.map ρ).toArray
def Y6 (ρ:Operand→Value) (a:Array (Nat×Operand)):Array (Nat×Value):=(a.toList.map fun p=>(p.1,ρ p.2)).toArray
def Rc (ρ:Operand→Value) (op:Op) (ty:TypeId):Sem Next:=match op with
 | .call ⟨.value (.func f),args,_⟩=>callFunc f (vT ρ args)
 | .call ⟨.value (.tmp t),args,_⟩=>FB (ρ (.tmp t)) (vT ρ args)
 | .call ⟨.builtin .len,args,ts⟩=>vS (Builtin.len_ ts ty (vT ρ args))
 | .call ⟨.builtin .cap,args,ts⟩=>vS (Builtin.cap_ ts ty (vT ρ args))
 | .call ⟨.builtin .min,args,ts⟩=>vS (Builtin.min_ ts ty (vT ρ args))
 | .call ⟨.builtin .max,args,ts⟩=>vS (Builtin.max_ ts ty (vT ρ args))
 | .call ⟨.builtin .append,args,ts⟩=>vS (Builtin.append_ ts ty (vT ρ args))
 | .call ⟨.builtin .copy,args,ts⟩=>vS (Builtin.copy_ ts ty (vT ρ args))
 | .call ⟨.builtin .delete,args,ts⟩=>vS (Builtin.delete_ ts ty (vT ρ args))
 | .call ⟨.builtin .clear,args,ts⟩=>vS (Builtin.clear_ ts ty (vT ρ args))
 | .call ⟨.builtin .panic,args,_⟩=>vS (Instr.panic ((vT ρ args).toList.getD 0 .nilIface))
 | .build t ps=>vS (Instr.build t (Y6 ρ ps))
 | .buildSlice t n ps=>vS (Instr.buildSlice t n (Y6 ρ ps))
 | .makeFunc fn a b=>vS (Instr.makeFunc fn (vT ρ a) (vT ρ b))
 |op=>execOp ρ (PM op ty)
theorem afA (ρ:Operand→Value) (a:Array Operand):vT ρ a=a.map ρ:=by
 unfold vT;rw [←jk]
theorem afB (ρ:Operand→Value) (a:Array (Nat×Operand)):Y6 ρ a=a.map fun p=>(p.1,ρ p.2):=by
 unfold Y6;rw [←jk]
theorem aa4 (ρ:Operand→Value) (hρ: ∀f,ρ (.func f)= .func (.func f) #[] #[]) (op:Op) (ty:TypeId):Rc ρ op ty=execOp ρ (PM op ty):=by
 unfold Rc;split<;>first
  |rfl
  |(simp [execOp,PM,resolve,invoke,ik,afA,afB,vS,builtin,FB,hρ];done)
def dg (l:List Value) (off:Nat) (vs:List Value):List Value:=l.take off++vs++l.drop (off+vs.length)
def Rd (P:Program) (X:XS) (w:World) (s:Sem Next) (v:Value):Prop:= ∀wa,Kp X w wa→s.run P wa= .ok (.value v) wa
def lN (v:Value) (want:Bool):Bool:=match v with
 | .bool b=>b==want
 |_=>false
def bP:Value→Bool
 | .agg _=>true
 |_=>false
def one (v:Value):Bool:=match v with
 | .agg _| .tuple _=>false
 |_=>true
inductive TI where
 |uy (b:Nat)
 |set (d:Nat) (e:Ex)
 |box (b n:Nat) (e:Ex)
 |put (b off n:Nat) (e:Ex)
 |wX (b:Nat) (e:Ex)
 |TG (b off:Nat) (e:Ex)
 |fill (b n:Nat) (e:Ex)
 |rd (d:Nat) (op:Op) (ty:TypeId) (ss:List (Nat×Ex))
 |AD (d:Option Nat) (op:Op) (ty:TypeId) (ss:List (Nat×Ex)) (m:Bool)
 |TH (g:Nat) (want:Bool) (d:Nat) (e:Ex)
 |grd (g:Nat) (want:Bool) (d:Nat) (op:Op) (ty:TypeId) (ss:List (Nat×Ex))
 |TJ (g:Nat) (want:Bool) (d:Option Nat) (op:Op) (ty:TypeId) (ss:List (Nat×Ex)) (m:Bool)
inductive T where
 |BP (l:List TI)
 |seq (a b:T)
 |ite (e:Ex) (a b:T)
 |alt (a b:T)
 |cY (id:Nat) (a:T)
 |loop (M C:List Nat) (a:T)
 |exit (id:Nat)
 |ret
 |skip
def grow (X:XS) (w w':World):XS:=fun k=>X k∨(w.heap.size≤k∧k<w'.heap.size)
def Step (m:Bool) (X:XS) (w w':World):Prop:=if m then Fr X w w' else Ext w w'
theorem Step.fr {m:Bool} {X:XS} {w w':World} (h:Step m X w w'):Fr X w w':=by
 unfold Step at h;split at h
 ·exact h
 ·exact h.fr X
theorem Step.eE {m:Bool} {X:XS} {w w':World} (h:Ext w w'):Step m X w w':=by
 unfold Step;split
 ·exact h.fr X
 ·exact h
def iE (P:Program) (m:Bool) (X:XS) (w:World) (next:Value→World→XS→Prop) (gg:List PanicEntry→World→XS→Prop):Result Next→Prop
 | .ok (.value v) w'=>Step m X w w'∧next v w' (grow X w w')
 | .ok .skip w'=>Step m X w w'∧next undef w' (grow X w w')
 | .ok (.enter f args) w'=>w'=w∧Calls P f args w fun
   | .returned v,je=>Step m X w je∧next v je (grow X w je)
   | .panicked ch,je=>Step m X w je∧gg ch je (grow X w je)
   | .outgrown,_=>False
 | .halt (.panic v) w'=>Step m X w w'∧gg [{ v,recovered:=false }] w' (grow X w w')
 |_=>False
def aC (b:Bool) (N:Prop):Prop:=match b with
 |true=>N
 |false=>False
theorem dk {b:Bool} {N:Prop} :aC b N↔b=true∧N:=by cases b<;>simp [aC]
def az (v:Value) (A B:Prop):Prop:=match v with
 | .bool t=>(t=true→A)∧(t=false→B)
 |_=>False
def TK (P:Program) (gg:List PanicEntry→Env→World→XS→Prop) (next:Env→World→XS→Prop) (env:Env) (w:World) (X:XS):TI→Prop
 | .uy b=>aC (bP (env b)) (next env w X)
 | .set d e=>next (kF env d (e.ev env)) w X
 | .box b n e=>aC ((e.ev env).cells.toList.length==n) (next (kF env b (.agg (e.ev env).cells)) w X)
 | .put b off n e=>aC ((e.ev env).cells.toList.length==n) (aC ((e.ev env).cells.toList.all one)
   (next (kF env b (.agg (dg (env b).cells.toList off (e.ev env).cells.toList).toArray)) w X))
 | .wX b e=>aC (one (e.ev env)) (next (kF env b (.agg #[e.ev env])) w X)
 | .TG b off e=>aC (one (e.ev env)) (next (kF env b (.agg (dg (env b).cells.toList off [e.ev env]).toArray)) w X)
 | .fill b n e=>aC ((e.ev env).cells.toList.length==n) (aC ((e.ev env).cells.toList.all one) (next (kF env b (.agg (e.ev env).cells)) w X))
 | .rd d op ty ss=> ∃v,Rd P X w (Rc (Ir env ss) op ty) v∧next (kF env d v) w X
 | .AD d op ty ss m=> ∀wa,Kp X w wa→
   iE P m X wa (fun v w' X'=>next (Iq env d v) w' X') (fun ch w' X'=>gg ch env w' X') ((Rc (Ir env ss) op ty).run P wa)
 | .TH g want d e=>next (kF env d (if lN (env g) want then e.ev env else undef)) w X
 | .grd g want d op ty ss=> ∃v,(lN (env g) want=true→Rd P X w (Rc (Ir env ss) op ty) v)∧(lN (env g) want=false→v=undef)∧
   next (kF env d v) w X
 | .TJ g want d op ty ss m=>
   (lN (env g) want=true→ ∀wa,Kp X w wa→
    iE P m X wa (fun v w' X'=>next (Iq env d v) w' X') (fun ch w' X'=>gg ch env w' X') ((Rc (Ir env ss) op ty).run P wa))∧
   (lN (env g) want=false→next (Iq env d undef) w X)
def fO (P:Program) (gg:List PanicEntry→Env→World→XS→Prop) (next:Env→World→XS→Prop):List TI→Env→World→XS→Prop
 |[],env,w,X=>next env w X
 |i::l,env,w,X=>TK P gg (fO P gg next l) env w X i
abbrev jF:=Exit→Env→World→XS→Prop
def jF.CT (next:Env→World→XS→Prop) (K:jF):jF
 | .normal,e,w,X=>next e w X
 |ex,e,w,X=>K ex e w X
def jF.cY (id:Nat) (K:jF):jF
 | .exit i,e,w,X=>if i=id then K .normal e w X else K (.exit i) e w X
 |ex,e,w,X=>K ex e w X
def CU (M:List Nat) (s:Nat):Bool:=match M with
 |[]=>false
 |x::r=>x==s||CU r s
theorem yZ {s:Nat} : ∀{M:List Nat},CU M s=true↔s∈M
 |[]=>by simp [CU]
 |x::r=>by
  simp only [CU,yy,beq_iff_eq,yZ (M:=r),gS];exact⟨fun h=>h.imp Eq.symm id,fun h=>h.imp Eq.symm id⟩
def merge (M:List Nat) (e env:Env):Env:=fun s=>match CU M s with
 |true=>e s
 |false=>env s
def den (P:Program):T→jF→Env→World→XS→Prop
 | .BP l,K,env,w,X=>fO P (fun ch=>K (.panic ch)) (fun e w X=>K .normal e w X) l env w X
 | .seq a b,K,env,w,X=>den P a (jF.CT (fun e w X=>den P b K e w X) K) env w X
 | .ite e a b,K,env,w,X=>az (e.ev env) (den P a K env w X) (den P b K env w X)
 | .alt a b,K,env,w,X=>And (den P a K env w X) (den P b K env w X)
 | .cY id a,K,env,w,X=>den P a (jF.cY id K) env w X
 | .loop M C a,K,env,w,X=> ∃J:Nat→List Value→World→XS→Prop,(∃n,J n (C.map env) w X)∧
   ∀n (e:Env) w' X',(∀k,X k→X' k)→J n (C.map e) w' X'→den P a (jF.CT (fun e' je sJ=> ∃m,m<n∧J m (C.map e') je sJ) K) (merge M e env) w' X'
 | .exit id,K,env,w,X=>K (.exit id) env w X
 | .ret,K,env,w,X=>K .ret env w X
 | .skip,K,env,w,X=>K .normal env w X
structure br where
 n:Nat
 boxes:List (Nat×Nat)
 Re:List Nat
 nO:List Nat
 mat:List Nat
 car:List Nat
def br.ic (pl:br) (s:Nat):Bool:=pl.nO.contains s&&decide (s<pl.n)&&(look pl.boxes s).isNone&&!pl.Re.contains s
def br.kG (pl:br) (d:Nat):Bool:=decide (d<pl.n)&&(look pl.boxes d).isNone&&!pl.Re.contains d
structure Ptr where
 s:Nat
 b:Nat
 off:Nat
 g:Option (Nat×Bool)
structure CS where
 sig:List (Nat×Ex)
 vU:List Ptr
 live:List Nat
def CS.start:CS:=⟨[],[],[]⟩
def valOf (pl:br) (cs:CS):Operand→Option Ex
 | .tmp t=>if pl.ic t then some (.t t)else look cs.sig t
 | .const v=>some (.c v)
 | .global g=>some (.c (.pointer (some ⟨g,0,none⟩)))
 | .func f=>some (.c (.func (.func f) #[] #[]))
def Ew (og:Option (Nat×Bool)):List Ptr→Nat→Option (Nat×Nat)
 |[],_=>none
 |p::r,t=>if p.s=t then(if p.g.isNone||p.g==og then some (p.b,p.off)else none)else Ew og r t
def sK (pl:br) (cs:CS) (og:Option (Nat×Bool)):Operand→Option (Nat×Nat×List Nat)
 | .tmp t=>match look pl.boxes t with
  |some _=>some (t,0,if cs.live.contains t then [] else [t])
  |none=>if pl.Re.contains t then(Ew og cs.vU t).map fun (b,off)=>(b,off,[])else none
 |_=>none
def CS.kill (cs:CS) (d:Nat):CS:=
 ⟨cs.sig.filter fun p=>p.1 !=d&&!p.2.TF d,cs.vU.filter fun p=>p.b !=d&&p.s !=d&&(match p.g with|some (g,_)=>g !=d|none=>true),cs.live⟩
def CS.KH (cs:CS) (b:Nat):CS:=⟨cs.sig.filter fun p=>!p.2.TF b,cs.vU,cs.live⟩
def CS.bind (cs:CS) (pl:br) (d:Nat):CS:=let c:=cs.kill d;if pl.ic d then c else { c with sig:=(d,.t d)::c.sig }
def CS.note (cs:CS) (d:Nat) (e:Ex):CS:= { cs with sig:=(d,e)::cs.sig.filter (fun p=>p.1 !=d),vU:=cs.vU.filter fun p=>p.s !=d }
def CS.vF (cs:CS) (d b off:Nat) (g:Option (Nat×Bool)):CS:=
 { cs with sig:=cs.sig.filter (fun p=>p.1 !=d),vU:=⟨d,b,off,g⟩::(cs.vU.filter fun p=>p.s !=d) }
def CS.jN (cs:CS) (l:List Nat):CS:= { cs with live:=l++cs.live }
def oF (pl:br) (cs:CS) (d:Nat) (e:Ex):List TI×CS:=
 if pl.ic d||pl.mat.contains d then([.set d e],cs.bind pl d)else([],cs.note d e)
def fieldInfo (P:Program) (S f:Nat):Option (Nat×Nat):=
 match P.underlying S with
 |some (.struct fs)=>(fs[f]?).bind fun x=>(P.info? x.type).map fun i=>(x.offset,i.size)
 |_=>none
def subst (pl:br) (cs:CS):List Operand→Option (List (Nat×Ex))
 |[]=>some []
 | .tmp t::r=>match valOf pl cs (.tmp t),subst pl cs r with
  |some e,some ss=>some (match e with
   | .t n=>if n=t then ss else(t,e)::ss
   |_=>(t,e)::ss)
  |_,_=>none
 |_::r=>subst pl cs r
def TL (P:Program) (t:Nat):Bool:=match P.underlying t with
 |some (.slice _)=>true
 |_=>false
def akr (P:Program):Op→Bool
 | .pick .. | .nilCheck _| .binOp .. | .unOp .. | .fieldAddr .. | .field .. | .indexAddr .. | .index .. | .extract .. | .slice .. | .build .. | .makeFunc ..
 | .makeInterface .. | .load .. | .lookup .. | .typeAssert .. | .move _| .assign _=>true
 | .convert s d _=>!TL P s&&!TL P d
 | .call { callee:=.builtin b,.. } =>match b with
  | .len| .cap| .min| .max=>true
  |_=>false
 |_=>false
structure CR where
 fl:Bool
 nd:List Nat
 l:List TI
 cs:CS
 rb:List Nat
 sb:List Nat
def FC:Op→Bool
 | .select .. =>false
 |_=>true
def CV (P:Program) (pl:br) (cs:CS) (m:Bool) (o:Oper):Option CR:=
 match subst pl cs o.op.operands.toList with
 |none=>none
 |some ss=>if !FC o.op then none else
  match o.dst with
  |some d=>if !pl.kG d then none else
   if akr P o.op then some ⟨true,[],[.rd d o.op o.type ss],cs.bind pl d,[],[]⟩else some ⟨false,[],[.AD (some d) o.op o.type ss m],cs.bind pl d,[],[]⟩
  |none=>some ⟨false,[],[.AD none o.op o.type ss m],cs,[],[]⟩
def iV (P:Program) (t:Nat):Option (Bool×Nat):=
 match P.underlying t,P.info? t with
 |some d,some i=>some ((match d with| .struct _| .array _ _=>true|_=>false),i.size)
 |_,_=>none
def TM (P:Program) (pl:br) (cs:CS) (sz:Nat) (t:Nat) (e:Ex) (d:Nat):Option CR:=
 match iV P t with
 |some (ag,s)=>if decide (d<pl.n)&&s==sz then some ⟨false,[],[if !ag&&s==1 then .wX d e else .box d sz e],(cs.kill d).jN [d],[],[]⟩else none
 |none=>none
def Bh (P:Program) (pl:br) (cs:CS) (og:Option (Nat×Bool)) (m:Bool) (o:Oper):Option CR:=
 match o.op with
 | .move x| .assign x=>match o.dst,valOf pl cs x with
  |some d,some e=>if pl.kG d then(let r:=oF pl cs d e;some ⟨true,[],r.1,r.2,[],[]⟩)else none
  |_,_=>none
 | .box t x=>match o.dst with
  |some d=>match look pl.boxes d with
   |some sz=>match valOf pl cs x with
    |some e=>TM P pl cs sz t e d
    |none=>none
   |none=>CV P pl cs m o
  |none=>none
 | .alloc t=>match o.dst with
  |some d=>match look pl.boxes d with
   |some sz=>match(P.info? t).bind (·.zero)with
    |some z=>TM P pl cs sz t (.c z) d
    |none=>none
   |none=>CV P pl cs m o
  |none=>none
 | .fieldAddr S x f=>match sK pl cs og x with
  |some (b,off,nd)=>match o.dst,fieldInfo P S f with
   |some d,some (fo,sz)=>if pl.Re.contains d&&decide (d<pl.n)&&(look pl.boxes d).isNone&&sz !=0 then
     some ⟨true,nd,[],(cs.jN nd).vF d b (off+fo) og,[],[]⟩else none
   |_,_=>none
  |none=>CV P pl cs m o
 | .load t x=>match sK pl cs og x with
  |some (b,off,nd)=>match o.dst,iV P t,look pl.boxes b with
   |some d,some (ag,sz),some bs=>if pl.kG d&&decide (off+sz≤bs)&&(ag||sz==1)then
     (let r:=oF pl (cs.jN nd) d (if ag then .s b off sz else .k b off);some ⟨true,nd,r.1,r.2,[b],[]⟩)else none
   |_,_,_=>none
  |none=>CV P pl cs m o
 | .store t x v=>match sK pl cs og x with
  |some (b,off,nd)=>match o.dst,valOf pl cs v,iV P t,look pl.boxes b with
   |none,some e,some (ag,sz),some bs=>if decide (off+sz≤bs)then
     some ⟨false,nd,[if !ag&&sz==1 then .TG b off e else if off==0&&sz==bs then .fill b sz e else .put b off sz e],(cs.jN nd).KH b,[],[b]⟩else none
   |_,_,_,_=>none
  |none=>CV P pl cs m o
 |_=>CV P pl cs m o
def acD:Op→Bool
 | .fieldAddr .. =>true
 |_=>false
def mS (g:Nat) (want:Bool) (op:Op) (r:CR):Option CR:=
 match r.fl,r.l with
 |true,[]=>if acD op then some r else none
 |true,[.set d e]=>if d=g then none else some { r with l:=[.TH g want d e] }
 |true,[.rd d op ty ss]=>if d=g then none else some { r with l:=[.grd g want d op ty ss] }
 |false,[.AD d op ty ss m]=>if d=some g then none else some { r with l:=[.TJ g want d op ty ss m] }
 |_,_=>none
def yz (P:Program) (pl:br) (cs:CS) (ops:Array Oper) (m:Bool) (o:Oper):Option CR:=
 match o.guard with
 |none=>Bh P pl cs none m o
 |some (j,want)=>match(ops[j]?).bind (·.dst)with
  |none=>none
  |some gs=>match valOf pl cs (.tmp gs)with
   |some (.t g)=>(Bh P pl cs (some (g,want)) m o).bind (mS g want o.op)
   |_=>none
def CR.all (r:CR):List TI:=r.nd.map .uy++r.l
def FE (P:Program) (pl:br) (ops:Array Oper):List Oper→CS→Option (List TI)
 |[],_=>some []
 |o::r,cs=>match yz P pl cs ops true o with
  |some x=>(FE P pl ops r x.cs).map (x.all++ ·)
  |none=>none
def waits (o:Oper) (i:Nat):Bool:=o.after.any fun e=>rF .any e&&e.on==i
def Y7 (ops:Array Oper) (bH:Array Bool) (S:List Nat) (j:Nat):Bool:=!bH.getD j true&&match ops[j]? with
 |some o=>o.after.any fun e=>rF .any e&&S.contains e.on
 |none=>false
def DY (ops:Array Oper) (bH:Array Bool) (i:Nat):List Nat:=(dI ops.size).foldl (fun S j=>if Y7 ops bH S j then j::S else S) [i]
def aks (ops:Array Oper) (j:Nat):List Nat:=
 (dI (j+1)).reverse.foldl (fun S k=>if S.contains k then(match ops[k]? with
  |some o=>o.after.toList.foldl (fun S e=>if rF .any e&&!S.contains e.on then e.on::S else S) S
  |none=>S)else S) [j]
def zr (o:Oper):Bool:=match o.op with
 | .extract .. =>true
 | .move .. =>true
 |_=>false
def ldX (pl:br) (o:Oper):Bool:=match o.op with
 | .load _ (.tmp x)=>(look pl.boxes x).isSome
 |_=>false
def Rf (o:Oper) (rb:List Nat):Bool:=match o.op with
 | .load _ (.tmp x)=>rb.contains x
 |_=>false
def agN (o:Oper):Bool:=match o.op with
 | .alloc _=>true
 |_=>false
def ni (pl:br) (ops:Array Oper) (j:Nat):Bool:=
 match ops[j]? with
 |some oj=>(match oj.dst with|some d=>pl.mat.contains (1000000+d)|none=>false)||pl.mat.contains (2000000+j)||((dI ops.size).all fun i=>i==j||waits oj i||(match ops[i]? with
  |some oi=>waits oi j||zr oi||ldX pl oi||agN oi
  |none=>true))||(let B:=aks ops j++DY ops (dH ops.size false) j;(dI ops.size).all fun i=>B.contains i||(match ops[i]? with
  |some oi=>zr oi||ldX pl oi||agN oi
  |none=>true))
 |none=>false
def aa5 (pl:br) (ops:Array Oper):Nat→Operand→Option Nat
 |0,_=>none
 |n+1,.tmp t=>match look pl.boxes t with
  |some _=>some t
  |none=>match ops.find? (fun o=>o.dst==some t)with
   |some o=>(match o.op with
    | .fieldAddr _ x _=>aa5 pl ops n x
    |_=>none)
   |none=>none
 |_+1,_=>none
def sh (pl:br) (ops:Array Oper) (o:Oper):List Nat:=match o.op with
 | .store _ x _=>(aa5 pl ops 6 x).toList
 |_=>[]
def KI (pl:br) (ops:Array Oper) (bH:Array Bool) (i:Nat) (rb:List Nat):Bool:=
 match ops[i]? with
 |none=>false
 |some oi=>(match oi.dst with
   |some d=>(look pl.boxes d).isNone
   |none=>true)&&(dI ops.size).all fun j=>j==i||bH.getD j true||match ops[j]? with
   |some oj=>waits oj i||(oi.apart ops oj&&(zr oi||Rf oi rb||!ni pl ops j)&&(sh pl ops oj).all fun b=>!rb.contains b)||(DY ops bH i).contains j
   |none=>true
def y6 (P:Program) (pl:br) (ops:Array Oper) (cs:CS) (bH:Array Bool):List Nat→Option (Nat×CR)
 |[]=>none
 |i::r=>match(ops[i]?).bind (yz P pl cs ops (ni pl ops i))with
  |some x=>if x.fl&&KI pl ops bH i x.rb then some (i,x)else y6 P pl ops cs bH r
  |none=>y6 P pl ops cs bH r
def FF (P:Program) (pl:br) (o:Oper):Option (Nat×Nat×Bool×Value):=match o.guard,o.op,o.dst with
 |none,.alloc t,some d=>match look pl.boxes d,(P.info? t).bind (·.zero),iV P t with
  |some sz,some z,some (ag,s)=>if decide (d<pl.n)&&s==sz then some (d,sz,!ag&&s==1,z)else none
  |_,_,_=>none
 |_,_,_=>none
def wY:Nat×Nat×Bool×Value→TI
 |(d,sz,one,z)=>if one then .wX d (.c z)else .box d sz (.c z)
def tS (cs:CS) (d:Nat):CS:=(cs.kill d).jN [d]
def Y8 (l:List Nat) (i:Nat):Bool:=match l with
 |[x]=>x==i
 |_=>false
def ae7 (P:Program) (pl:br) (ops:Array Oper) (bH:Array Bool) (i j:Nat):Option (Nat×Nat×Bool×Value):=
 match(ops[i]?).bind (FF P pl),(ops[j]?).bind (FF P pl)with
 |some bi,some bj=>if !(bi.1==bj.1)&&Y8 (fY .any ops (bH.setIfInBounds i true)) j&&Y8 (fY .any ops (bH.setIfInBounds j true)) i then some bi else none
 |_,_=>none
def tU (P:Program) (pl:br) (ops:Array Oper):Nat→Array Bool→CS→Option (List TI)
 |0,bH,_=>if(fY .any ops bH).isEmpty then some [] else none
 |fuel+1,bH,cs=>
  match y6 P pl ops cs bH (fY .any ops bH)with
  |some (i,x)=>(tU P pl ops fuel (bH.setIfInBounds i true) x.cs).map (x.all++ ·)
  |none=>match fY .any ops bH with
   |[i]=>match ops[i]? with
    |some o=>match yz P pl cs ops (ni pl ops i) o with
     |some x=>if x.sb.all fun b=>(sh pl ops o).contains b then(tU P pl ops fuel (bH.setIfInBounds i true) x.cs).map (x.all++ ·)else none
     |none=>none
    |none=>none
   |[i,j]=>match ae7 P pl ops bH i j with
    |some b=>(tU P pl ops fuel (bH.setIfInBounds i true) (tS cs b.1)).map (wY b:: ·)
    |none=>none
   |_=>none
def PN:List Nat→(Nat→Option T)→Option T
 |[],_=>none
 |i::r,f=>match r with
  |[]=>f i
  |j::r=>match f i,PN (j::r) f with
   |some a,some b=>some (.alt a b)
   |_,_=>none
def zC (P:Program) (pl:br) (ops:Array Oper):Nat→Array Bool→CS→Option T
 |0,bH,_=>if(fY .any ops bH).isEmpty then some .skip else none
 |fuel+1,bH,cs=>
  match y6 P pl ops cs bH (fY .any ops bH)with
  |some (i,x)=>(zC P pl ops fuel (bH.setIfInBounds i true) x.cs).map (.seq (.BP x.all) ·)
  |none=>PN (fY .any ops bH) fun i=>match ops[i]? with
   |some o=>match yz P pl cs ops (ni pl ops i) o with
    |some x=>if x.sb.all fun b=>(sh pl ops o).contains b then(zC P pl ops fuel (bH.setIfInBounds i true) x.cs).map (.seq (.BP x.all) ·)else none
    |none=>none
   |none=>none
def TI.Hg:TI→List Nat
 | .set d _=>[d]
 | .box b _ _=>[b]
 | .wX b _=>[b]
 | .rd d _ _ _=>[d]
 | .AD d _ _ _ _=>d.toList
 | .TH _ _ d _=>[d]
 | .grd _ _ d _ _ _=>[d]
 | .TJ _ _ d _ _ _ _=>d.toList
 |_=>[]
def lC (l:List TI):List Nat:=l.flatMap TI.Hg
def TI.wr:TI→List Nat
 | .uy _=>[]
 | .set d _=>[d]
 | .box b _ _=>[b]
 | .put b _ _ _=>[b]
 | .wX b _=>[b]
 | .TG b _ _=>[b]
 | .fill b _ _=>[b]
 | .rd d _ _ _=>[d]
 | .AD d _ _ _ _=>d.toList
 | .TH _ _ d _=>[d]
 | .grd _ _ d _ _ _=>[d]
 | .TJ _ _ d _ _ _ _=>d.toList
def T.wr:T→List Nat
 | .BP l=>l.flatMap TI.wr
 | .seq a b=>a.wr++b.wr
 | .ite _ a b=>a.wr++b.wr
 | .alt a b=>a.wr++b.wr
 | .cY _ a=>a.wr
 | .loop M _ a=>M++a.wr
 |_=>[]
def T.mk:T→List Nat
 | .BP l=>lC l
 | .seq a b=>a.mk++b.mk
 | .ite _ a b=>a.mk++b.mk
 | .alt a b=>a.mk++b.mk
 | .cY _ a=>a.mk
 | .loop _ _ a=>a.mk
 |_=>[]
def qB:List Nat→List Nat→List Nat
 |[],acc=>acc
 |x::r,acc=>qB r (if acc.contains x then acc else x::acc)
def il (P:Program) (pl:br):Code→Option T
 | .skip=>some .skip
 | .region _ ops draw=>if draw then(if P.follows .mixedOrders&&sf ops then(match tU P pl ops ops.size (dH ops.size false) .start with
  |some l=>some (.BP l)
  |none=>zC P pl ops ops.size (dH ops.size false) .start)else none)else(FE P pl ops ops.toList .start).map .BP
 | .seq a b=>match il P pl a,il P pl b with
  |some x,some y=>some (match x,y with
   | .skip,y=>y
   |x,.skip=>x
   |x,y=>.seq x y)
  |_,_=>none
 | .cond c a b=>match valOf pl .start c,il P pl a,il P pl b with
  |some e,some x,some y=>some (.ite e x y)
  |_,_,_=>none
 | .block id a=>(il P pl a).map (.cY id)
 | .loop a=>(il P pl a).map fun x=>.loop (qB x.wr []) ((qB x.wr []).filter (CU pl.car)) x
 | .exit id=>some (.exit id)
 | .ret=>some .ret
 |_=>none
def Ak (P:Program) (pl:br):List ResultVar→Option (List Ex×List Nat)
 |[]=>some ([],[])
 | .tmp t::r=>if pl.ic t then(Ak P pl r).map fun (l,n)=>(.t t::l,n)else none
 | .cell a t::r=>match look pl.boxes a,iV P t with
  |some bs,some (ag,sz)=>if decide (sz≤bs)&&(ag||sz==1)then(Ak P pl r).map fun (l,n)=>((if ag then .s a 0 sz else .k a 0)::l,a::n)else none
  |_,_=>none
structure FT where
 code:T
 res:List Ex
 live:List Nat
def cF (P:Program) (pl:br) (fn:Func):Option FT:=
 if fn.ntmps==pl.n then
  match fn.body with
  |some c=>match il P pl c,Ak P pl fn.results.toList with
   |some t,some (r,n)=>some ⟨t,r,n⟩
   |_,_=>none
  |none=>none
 else none
def MB (l:List Ex) (env:Env):Value:=match l with
 |[e]=>e.ev env
 |l=>.tuple (l.map (·.ev env)).toArray
def FG (ft:FT) (R:Ending→World→Prop):jF
 | .normal,e,w,X| .ret,e,w,X=>aC (ft.live.all fun b=>bP (e b)) (∀wa,Kp X w wa→R (.returned (MB ft.res e)) wa)
 | .panic ch,_,w,X=> ∀wa,Kp X w wa→R (.panicked ch) wa
 |_,_,_,_=>False
def ku (args:Array Value):Env:=fun i=>args.toList.getD i undef
section
variable {P : Program} {ops : Array Oper} {Q : Exit → Act → World → Prop}
def dT (k off:Nat):Value:=.pointer (some ⟨k,off,none⟩)
def ZB (pl:br) (RB:List Nat) (a:Act):XS:=fun k=> ∃b n,look pl.boxes b=some n∧ ¬b∈RB∧a.tmps[b]? =some (dT k 0)
def YF (P:Program) (pl:br) (RB:List Nat) (ops:Array Oper) (o:Oper) (v:Value) (a:Act) (w:World):Prop:=
 (bQ o (yielded ops a.tmps)=true∧ ∀wa,Fr (ZB pl RB a) w wa→(execOp a.eval o).run P wa= .ok (.value v) wa)∨(bQ o (yielded ops a.tmps)=false∧v=undef)
def nP (pl:br) (sb:List Nat) (a:Act) (w:World) (a':Act) (w':World):Prop:=
 ∀RB,(∀b,b∈sb→ ¬b∈RB)→Fr (ZB pl RB a) w w'∧ ∀k,k<w.heap.size→ZB pl RB a' k→ZB pl RB a k
theorem YF.rel {pl:br} {RB sb:List Nat} {o:Oper} {v:Value} {a a':Act} {w w':World} (h:YF P pl RB ops o v a w) (hx:nP pl sb a w a' w') (hd: ∀b,b∈sb→ ¬b∈RB)
  (he:execOp a'.eval o=execOp a.eval o) (hw:bQ o (yielded ops a'.tmps)=bQ o (yielded ops a.tmps)):YF P pl RB ops o v a' w':=by
 obtain⟨h1,h2⟩:=hx RB hd;unfold YF at*;rw [he,hw];refine h.imp (fun ⟨g1,g2⟩=>⟨g1,fun wa ha=>g2 wa ?_⟩) id;exact⟨ha.os.trans h1.os,ha.tape.trans h1.tape,ha.output.trans h1.output,ah h1.size ha.size,
  fun k hk hz=>(ha.block k (aG hk h1.size) (fun CW=>hz (h2 k hk CW))).trans (h1.block k hk hz)⟩
def vV (pl:br) (sb:List Nat) (a:Act) (w w':World):Prop:=
 ∀b n k,look pl.boxes b=some n→ ¬b∈sb→a.tmps[b]? =some (dT k 0)→w'.heap[k]? =w.heap[k]?
def vW (L:Prop) (pl:br) (sb:List Nat) (a:Act) (w:World) (a':Act) (w':World):Prop:=(L→nP pl sb a w a' w')∧vV pl sb a w w'
def Yx (P:Program) (ops:Array Oper) (o:Oper) (v:Value) (a:Act) (w:World):Prop:=
 (bQ o (yielded ops a.tmps)=true∧(execOp a.eval o).run P w= .ok (.value v) w)∨(bQ o (yielded ops a.tmps)=false∧v=undef)
def YL (P:Program) (pl:br) (x:Nat) (ops:Array Oper) (o:Oper) (v:Value) (a:Act) (w:World):Prop:=
 (bQ o (yielded ops a.tmps)=true∧ ∃k n,look pl.boxes x=some n∧a.tmps[x]? =some (dT k 0)∧ ∀wa:World,wa.heap[k]? =w.heap[k]? →(execOp a.eval o).run P wa= .ok (.value v) wa)∨
  (bQ o (yielded ops a.tmps)=false∧v=undef)
theorem YF.yx {pl:br} {RB:List Nat} {o:Oper} {v:Value} {a:Act} {w:World} (h:YF P pl RB ops o v a w):Yx P ops o v a w:=h.imp (fun ⟨g1,g2⟩=>⟨g1,g2 w (Fr.refl _ w)⟩) id
theorem YL.yx {pl:br} {x:Nat} {o:Oper} {v:Value} {a:Act} {w:World} (h:YL P pl x ops o v a w):Yx P ops o v a w:=h.imp (fun ⟨g1,_,_,_,_,g2⟩=>⟨g1,g2 w rfl⟩) id
def TN (pl:br) (ops:Array Oper) (oi oj:Oper) (L:Prop) (sb:List Nat) (Y:Act→World→Prop):Prop:=
 ∀a a' w w',vW L pl sb a w a' w'→execOp a'.eval oi=execOp a.eval oi→bQ oi (yielded ops a'.tmps)=bQ oi (yielded ops a.tmps)→
  (∀x:Nat,(∀d,oj.dst=some d→d≠x)→a'.tmps[x]? =a.tmps[x]?)→Y a w→Y a' w'
theorem vV.refl (pl:br) (sb:List Nat) (a:Act) (w:World):vV pl sb a w w:=fun _ _ _ _ _ _=>rfl
theorem vV.TO {pl:br} {sb:List Nat} {a:Act} {w w':World} {d:Option Nat} {v:Value} (hd: ∀x,d=some x→look pl.boxes x=none) (h:vV pl sb (a.put d v) w w'):vV pl sb a w w':=by
 intro b n k hb hn hk;refine h b n k hb hn ?_;cases d with
 |none=>exact hk
 |some x=>
  have du:x≠b:=fun e=>by subst e;rw [hd x rfl] at hb;cases hb
  simpa [kD,jj du] using hk
theorem vV.sub {pl:br} {sb sb':List Nat} {a:Act} {w w':World} (h:vV pl sb a w w') (hs: ∀b,b∈sb→b∈sb'):vV pl sb' a w w':=
 fun b n k hb hn hk=>h b n k hb (fun hm=>hn (hs b hm)) hk
theorem Yx.wpOp {i:Nat} {o:Oper} {v:Value} {a:Act} {w:World} (hi:ops[i]? =some o) (hy:Yx P ops o v a w)
  {K:Act→World→Prop} (h:K (a.put o.dst v) w):wpOp P ops Q i K a w:=by
 unfold Go.wpOp;simp only [hi];rcases hy with⟨hw,hv⟩|⟨hw,rfl⟩
 ·simp only [hw,if_true,hU,hv,lB];exact .inl h
 ·simp only [hw,a8,if_false];exact h
theorem TP {pl:br} {RB:List Nat} {a:Act} {d:Option Nat} {v:Value} (hd: ∀x,d=some x→look pl.boxes x=none):ZB pl RB (a.put d v)=ZB pl RB a:=by
 cases d with
 |none=>rfl
 |some x=>
  have hx:=hd x rfl
  funext k
  simp only [ZB,eq_iff_iff];have key: ∀b n,look pl.boxes b=some n→(a.put (some x) v).tmps[b]? =a.tmps[b]? :=fun b n hb=>by
   have du:x≠b:=fun e=>by subst e;rw [hx] at hb;cases hb
   simp [kD,jj du]
  constructor<;>rintro⟨b,n,h1,h2,h3⟩<;>refine⟨b,n,h1,h2,?_⟩
  ·rwa [key b n h1] at h3
  ·rwa [key b n h1]
theorem nP.TO {pl:br} {sb:List Nat} {a a':Act} {w w':World} {d:Option Nat} {v:Value} (hd: ∀x,d=some x→look pl.boxes x=none) (h:nP pl sb (a.put d v) w (a'.put d v) w'):nP pl sb a w a' w':=by
 intro RB hRB;have:=h RB hRB
 rwa [TP hd,TP hd] at this
theorem nP.refl (pl:br) (sb:List Nat) (a:Act) (w:World) (d:Option Nat) (v:Value) (hd: ∀x,d=some x→look pl.boxes x=none):nP pl sb a w (a.put d v) w:=by
 intro RB _;rw [TP hd];exact⟨Fr.refl _ _,fun _ _ h=>h⟩
theorem aa6 {o:Oper} (hp:zr o=true) {ρ:Operand→Value} {v:Value} {w wa:World} (h:(execOp ρ o).run P w= .ok (.value v) w):(execOp ρ o).run P wa= .ok (.value v) wa:=by
 unfold zr at hp;split at hp
 ·rename_i x i ho;simp only [execOp,ho] at h⊢;unfold Instr.extract at h⊢;split at h<;>simp_all
  all_goals (split at h<;>simp_all)
 ·rename_i x ho;simp only [execOp,ho] at h⊢;simp_all
 ·cases hp
theorem YF.pure {pl:br} {RB:List Nat} {o:Oper} {v:Value} {a a':Act} {w w':World} (h:YF P pl RB ops o v a w) (hp:zr o=true)
  (he:execOp a'.eval o=execOp a.eval o) (hw:bQ o (yielded ops a'.tmps)=bQ o (yielded ops a.tmps)):YF P pl RB ops o v a' w':=by
 unfold YF at*;rw [he,hw];exact h.imp (fun ⟨g1,g2⟩=>⟨g1,fun wa _=>aa6 hp (g2 w (Fr.refl _ _))⟩) id
def rP (P:Program) (pl:br) (ops:Array Oper) (Q:Exit→Act→World→Prop):Nat→Array Bool→Act→World→Prop
 |0,bH,a,w=>fY .any ops bH=[]∧Q .normal a w
 |fuel+1,bH,a,w=>
  (fY .any ops bH=[]→Q .normal a w)∧
  ∀i∈fY .any ops bH,wpOp P ops Q i (fun a' w'=>(∀o,ops[i]? =some o→vW (ni pl ops i=false) pl (sh pl ops o) a w a' w')∧rP P pl ops Q fuel (bH.setIfInBounds i true) a' w') a w
theorem NQ {pl:br} : ∀(fuel:Nat) (bH:Array Bool) (a:Act) (w:World),rP P pl ops Q fuel bH a w→wpAny P .any ops Q fuel bH a w
 |0,_,_,_,h=>h
 |fuel+1,_,_,_,h=>⟨h.1,fun i hi=>wpOp_mono (fun a' w' h'=>NQ fuel _ a' w' h'.2) (h.2 i hi)⟩
theorem YF.stb {pl:br} {RB sb:List Nat} {oi oj:Oper} {v:Value} {L:Prop} (hL:L∨zr oi=true) (hd: ∀b,b∈sb→ ¬b∈RB):TN pl ops oi oj L sb (YF P pl RB ops oi v):=by
 intro a a' w w' hr e2 e3 _ hy;rcases hL with hl|hp
 ·exact hy.rel (hr.1 hl) hd e2 e3
 ·exact hy.pure hp e2 e3
theorem YL.stb {pl:br} {x:Nat} {sb:List Nat} {oi oj:Oper} {v:Value} {L:Prop} (hx: ∀d,oj.dst=some d→d≠x) (hd: ¬x∈sb):TN pl ops oi oj L sb (YL P pl x ops oi v):=by
 intro a a' w w' hr e2 e3 e4 hy;unfold YL at*;rw [e2,e3,e4 x hx];exact hy.imp (fun ⟨g1,k,n,g2,g3,g4⟩=>⟨g1,k,n,g2,g3,fun wa hw=>g4 wa (hw.trans (hr.2 x n k g2 hd g3))⟩) id
theorem aa7 {pl:br} {sb:List Nat} {L:Prop} {Y:Act→World→Prop} {j:Nat} {oi oj:Oper} {v:Value} (hj:ops[j]? =some oj) (Hh:oi.apart ops oj=true)
  (hsi: ∀cs b,oi.op≠ .select cs b) (hsj: ∀cs b,oj.op≠ .select cs b) (Ye: ∀x,oi.dst=some x→look pl.boxes x=none) (ed:TN pl ops oi oj L sb Y)
  (hQ: ∀c a w,Q (.panic c) (a.put oi.dst v) w→Q (.panic c) a w) {K:Act→World→Prop} {a:Act} {w:World}
  (hy:Y a w) (h:wpOp P ops Q j (fun a' w'=>vW L pl sb (a.put oi.dst v) w a' w'∧K a' w') (a.put oi.dst v) w):
  wpOp P ops Q j (fun a' w'=>vW L pl sb a w a' w'∧Y a' w'∧K (a'.put oi.dst v) w') a w:=by
 obtain⟨h1,h2,h3⟩:=sg Hh;have fin: ∀(a0:Act) (w':World) (u:Value),a0.tmps=a.tmps→vW L pl sb (a.put oi.dst v) w ((a0.put oi.dst v).put oj.dst u) w'→K ((a0.put oi.dst v).put oj.dst u) w'→
   vW L pl sb a w (a0.put oj.dst u) w'∧Y (a0.put oj.dst u) w'∧K ((a0.put oj.dst u).put oi.dst v) w':=by
  intro a0 w' u h0 hr hk;rw [Act.put_comm a0 v u h2] at hr hk;have qp:vW L pl sb a w (a0.put oj.dst u) w':=⟨fun hl:L=>(hr.1 hl).TO Ye,hr.2.TO Ye⟩;have e1:execOp a0.eval oi=execOp a.eval oi:=by
   have:a0.eval=a.eval:=by funext x;cases x<;>simp [fG,h0]
   rw [this]
  have e2:=(execOp_put oi hsi a0 oj.dst u h3).trans e1;have e3:bQ oi (yielded ops (a0.put oj.dst u).tmps)=bQ oi (yielded ops a.tmps):=(wanted_put oi a0 oj.dst u h3).trans (by rw [h0]);refine⟨qp,ed a _ w w' qp e2 e3 (fun x hx=>?_) hy,hk⟩;cases hod:oj.dst with
  |none=>simp [kD,h0]
  |some d=>simp [kD,h0,jj (hx d hod)]
 unfold wpOp at*;simp only [hj] at*;rw [wanted_put oj a oi.dst v h1] at h;split
 ·rename_i hw;simp only [hw,if_true] at h;rcases h with h|⟨ae8,ajc⟩;case inr=>exact .inr ⟨by unfold Oper.asks at*;rw [execOp_put oj hsj a oi.dst v h1] at ae8;exact ae8,ajc⟩
  refine .inl ?_;unfold hU at*;rw [execOp_put oj hsj a oi.dst v h1] at h;generalize (execOp a.eval oj).run P w=r at*;cases r with
  |ok n w'=>
   cases n<;>simp only [lB] at h⊢
   case value u=>exact fin a w' u rfl h.1 h.2
   case skip=>exact fin a w' undef rfl h.1 h.2
   case defer d=>
    have e:({ a.put oi.dst v with defers:=d::(a.put oi.dst v).defers } :Act)=({ a with defers:=d::a.defers } :Act).put oi.dst v:=Act.put_defers a oi.dst v d;rw [e] at h;exact fin { a with defers:=d::a.defers } w' undef rfl h.1 h.2
   case enter f args=>
    refine Calls.mono h fun e je he=>?_;cases e with
    |returned u=>exact fin a je u rfl he.1 he.2
    |panicked c=>exact hQ _ _ _ he
    |outgrown=>exact he
   case row row args=>exact Rows.mono h fun u je he=>fin a je u rfl he.1 he.2
  |halt x w'=>
   cases x<;>simp only [lB] at h⊢
   case panic u=>exact hQ _ _ _ h
 ·rename_i hw;simp only [hw] at h;exact fin a w undef rfl h.1 h.2
theorem Rg {o:Oper} {i:Nat} :waits o i=true↔ ∃e∈o.after,rF .any e=true∧e.on=i:=by
 unfold waits;rw [ue];simp
theorem Rh {bH:Array Bool} {i:Nat} : ∀j,j∈DY ops bH i→j=i∨(bH.getD j true=false∧ ∃oj k,ops[j]? =some oj∧waits oj k=true∧k∈DY ops bH i):=by
 unfold DY;have key: ∀(l:List Nat) (S:List Nat),(∀j,j∈S→j=i∨(bH.getD j true=false∧ ∃oj k,ops[j]? =some oj∧waits oj k=true∧k∈S))→
   ∀j,j∈l.foldl (fun S j=>if Y7 ops bH S j then j::S else S) S→j=i∨(bH.getD j true=false∧ ∃oj k,ops[j]? =some oj∧waits oj k=true∧k∈l.foldl (fun S j=>if Y7 ops bH S j then j::S else S) S):=by
  intro l
  induction l with
  |nil=>intro S hS j hj;exact hS j hj
  |cons x l ih=>
   intro S hS;rw [List.foldl_cons];refine ih _ ?_;split
   ·rename_i hc;simp only [Y7,aW,cu] at hc;obtain⟨h1,h2⟩:=hc;intro j hj;rcases List.mem_cons.1 hj with rfl|hj
    ·right;cases ho:ops[j]? with
     |none=>simp [ho] at h2
     |some o=>
      simp only [ho,ue,aW,sI] at h2;obtain⟨e,he,hb,hm⟩:=h2;exact⟨h1,o,e.on,rfl,Rg.2 ⟨e,he,hb,rfl⟩,bz _ hm⟩
    ·rcases hS j hj with h|⟨h,oj,k,h3,h4,h5⟩
     ·exact .inl h
     ·exact .inr ⟨h,oj,k,h3,h4,bz _ h5⟩
   ·exact hS
 exact key _ _ fun j hj=>.inl (by simpa using hj)
theorem Is {pl:br} {Y:Act→World→Prop} {i:Nat} {oi:Oper} {v:Value} (NR: ∀a w,Y a w→Yx P ops oi v a w) (hi:ops[i]? =some oi) (Al: ∀(j:Nat) (o:Oper) cs b,ops[j]? =some o→o.op≠ .select cs b)
  (Ye: ∀x,oi.dst=some x→look pl.boxes x=none) (hQ: ∀c a w,Q (.panic c) (a.put oi.dst v) w→Q (.panic c) a w):
  ∀(fuel:Nat) (bH:Array Bool) (a:Act) (w:World) (S:Nat→Prop),S i→
   (∀j,S j→j=i∨(bH.getD j true=false∧ ∃oj k,ops[j]? =some oj∧waits oj k=true∧S k))→
   (∀j oj,ops[j]? =some oj→j≠i→bH.getD j true=false→ ¬S j→oi.apart ops oj=true∧TN pl ops oi oj (ni pl ops j=false) (sh pl ops oj) Y)→
   i∈fY .any ops bH→Y a w→
   rP P pl ops Q fuel (bH.setIfInBounds i true) (a.put oi.dst v) w→rP P pl ops Q (fuel+1) bH a w:=by
 intro fuel
 induction fuel with
 |zero=>
  intro bH a w S _ hS _ hr hy H;refine⟨fun h=>(by rw [h] at hr;cases hr),fun j hj=>?_⟩;by_cases It:j=i
  ·subst It;exact(NR _ _ hy).wpOp hi ⟨fun _ _=>⟨fun _=>nP.refl pl _ a w _ _ Ye,vV.refl _ _ _ _⟩,H⟩
  ·have:=ready_mono hj It;rw [H.1] at this;cases this
 |succ fuel ih=>
  intro bH a w S hSi hS ae9 hr hy H;refine⟨fun h=>(by rw [h] at hr;cases hr),fun j hj=>?_⟩;by_cases It:j=i
  ·subst It;exact(NR _ _ hy).wpOp hi ⟨fun _ _=>⟨fun _=>nP.refl pl _ a w _ _ Ye,vV.refl _ _ _ _⟩,H⟩
  ·have h1:=H.2 j (ready_mono hj It);obtain⟨agO,oj,BQ,Am⟩:=mem_ready.1 hj;have agP: ¬S j:=by
    intro hjS;rcases hS j hjS with h|⟨_,oj',k,agQ,hwt,hkS⟩
    ·exact It h
    ·rw [BQ] at agQ;cases agQ;obtain⟨e,he,hb,heq⟩:=Rg.1 hwt;have h1:=Am e he hb;rw [heq] at h1;have h0:bH.getD k true=false:=by
      rcases hS k hkS with h|h
      ·subst h;exact(mem_ready.1 hr).1
      ·exact h.1
     rcases Nat.lt_or_ge k bH.size with h'|h'
     ·simp [h'] at h0 h1;rw [h0] at h1;cases h1
     ·simp [mR h'] at h1
   obtain⟨Hh,akt⟩:=ae9 j oj BQ It agO agP;have Iu:=wpOp_mono (K':=fun a' w'=>vW (ni pl ops j=false) pl (sh pl ops oj) (a.put oi.dst v) w a' w'∧rP P pl ops Q fuel ((bH.setIfInBounds i true).setIfInBounds j true) a' w')
    (fun a' w' h'=>⟨h'.1 oj BQ,h'.2⟩) h1
   have h2:=aa7 BQ Hh (fun cs b=>Al i oi cs b hi) (fun cs b=>Al j oj cs b BQ) Ye akt hQ hy Iu;have agR: ∀k ok,ops[k]? =some ok→k≠i→(bH.setIfInBounds j true).getD k true=false→ ¬S k→
     oi.apart ops ok=true∧TN pl ops oi ok (ni pl ops k=false) (sh pl ops ok) Y:=fun k ok hk hki CX lP=>by
    refine ae9 k ok hk hki ?_ lP;by_cases hjk:j=k
    ·subst hjk;exact agO
    ·rw [getD_set_ne true hjk] at CX;exact CX
   have hS': ∀k,S k→k=i∨((bH.setIfInBounds j true).getD k true=false∧ ∃oj k',ops[k]? =some oj∧waits oj k'=true∧S k'):=fun k hk=>by
    rcases hS k hk with h|⟨h,h2⟩
    ·exact .inl h
    ·exact .inr ⟨by rw [getD_set_ne true (fun e=>agP (by rw [e];exact hk))];exact h,h2⟩
   refine wpOp_mono (fun a' w' h3=>⟨fun o ho=>?_,ih (bH.setIfInBounds j true) a' w' S hSi hS' agR (ready_mono hr (Ne.symm It)) h3.2.1 ?_⟩) h2
   ·rw [BQ] at ho;injection ho with ho;subst ho;exact h3.1
   rw [qz _ _ It];exact h3.2.2
theorem Ri {pl:br} {RB:List Nat} {i:Nat} {oi:Oper} {bH:Array Bool} (hi:ops[i]? =some oi) (h:KI pl ops bH i RB=true): ∀x,oi.dst=some x→look pl.boxes x=none:=by
 simp only [KI,hi,aW] at h;intro x hx;have:=h.1;rw [hx] at this;simpa using this
theorem NS {pl:br} {RB:List Nat} {i:Nat} {oi:Oper} {bH:Array Bool} (hi:ops[i]? =some oi) (h:KI pl ops bH i RB=true) (j:Nat) (oj:Oper)
  (hj:ops[j]? =some oj) (du:j≠i) (CX:bH.getD j true=false) (lP: ¬j∈DY ops bH i) (hnw:waits oj i=false):
  oi.apart ops oj=true∧(ni pl ops j=false∨zr oi=true∨Rf oi RB=true)∧ ∀b,b∈sh pl ops oj→ ¬b∈RB:=by
 simp only [KI,hi,aW,ji,List.mem_range] at h;have h1:=h.2 j (Array.getElem?_eq_some_iff.1 hj).1;simp only [hj,yy,beq_iff_eq,du,false_or,CX,a8,hnw,aW,cu,ji,sI,lP,or_false] at h1;exact⟨h1.1.1,h1.1.2.elim (fun h=>.inr h) .inl,fun b hb=>by have:=h1.2 b hb;simpa using this⟩
end
def AE (env:Env):Option (Nat×Bool)→Prop
 |none=>True
 |some (g,want)=>lN (env g) want=true
structure Bk where
 ds:List Deferred
 pins:List (Nat×Value)
structure ek (pl:br) (ds:Bk) (cs:CS) (env:Env) (X:XS) (w0:World) (a:Act) (w:World):Prop where
 size:a.tmps.size=pl.n
 defers:a.defers=ds.ds
 wB: ∀p,p∈ds.pins→a.tmps[p.1]? =some p.2∧((∃n k,look pl.boxes p.1=some n∧p.2=dT k 0)∨pl.ic p.1=true)
 ext:Kp X w0 w
 sL: ∀k,X k→k<w.heap.size
 nO: ∀s,pl.ic s=true→a.tmps[s]? =some (env s)
 sig: ∀p,p∈cs.sig→a.tmps[p.1]? =some (p.2.ev env)
 box: ∀b n,look pl.boxes b=some n→ ∀cells,env b= .agg cells→ ∃k ty,a.tmps[b]? =some (dT k 0)∧w.heap[k]? =some (.cells cells ty (0,0))∧cells.size=n∧ ¬X k
 inj: ∀b b' n n',look pl.boxes b=some n→look pl.boxes b'=some n'→bP (env b)=true→bP (env b')=true→ ∀k,a.tmps[b]? =some (dT k 0)→a.tmps[b']? =some (dT k 0)→b=b'
 conv: ∀b n,look pl.boxes b=some n→ ∀k,a.tmps[b]? =some (dT k 0)→bP (env b)=true
 live: ∀b,b∈cs.live→(∃n,look pl.boxes b=some n)∧bP (env b)=true
 ptr: ∀p,p∈cs.vU→(∃n,look pl.boxes p.b=some n)∧(AE env p.g→bP (env p.b)=true∧ ∃k,a.tmps[p.b]? =some (dT k 0)∧a.tmps[p.s]? =some (dT k p.off))
theorem tV (a:Act) (d:Nat) (v:Value) (s:Nat) (hd:d<a.tmps.size):(a.put (some d) v).tmps[s]? =if s=d then some v else a.tmps[s]? :=by
 simp only [kD,dQ];by_cases h:s=d
 ·subst h;simp [hd]
 ·rw [if_neg (Ne.symm h),if_neg h]
theorem eG (a:Act) (d:Nat) (v:Value) (s:Nat) (h:s≠d):(a.put (some d) v).tmps[s]? =a.tmps[s]? :=by
 simp only [kD,dQ];rw [if_neg (Ne.symm h)]
theorem jV (e:Env) (d:Nat) (v:Value):kF e d v d=v:=by simp [kF]
theorem fW (e:Env) {d s:Nat} (v:Value) (h:s≠d):kF e d v s=e s:=by
 have:(s==d)=false:=by simpa using h
 simp [kF,this]
theorem TQ {e:Ex} {d:Nat} (h:e.TF d=false) (env:Env) (v:Value):e.ev (kF env d v)=e.ev env:=by
 cases e<;>simp only [Ex.TF,beq_eq_false_iff_ne,ne_eq] at h<;>simp [Ex.ev,fW,h]
theorem qD {v:Value} :bP v=true↔ ∃c,v= .agg c:=by
 cases v<;>simp [bP]
section
variable {P : Program} {pl : br} {ds : Bk} {cs : CS} {env : Env} {X : XS} {w0 w : World} {a : Act}
theorem ny {s:Nat} (h:pl.ic s=true):s<pl.n∧look pl.boxes s=none∧pl.Re.contains s=false:=by
 simp only [br.ic,aW,decide_eq_true_eq,fA,cu] at h;exact⟨h.1.1.2,h.1.2,h.2⟩
theorem vG {s:Nat} (h:pl.kG s=true):s<pl.n∧look pl.boxes s=none∧pl.Re.contains s=false:=by
 simp only [br.kG,aW,decide_eq_true_eq,fA,cu] at h;exact⟨h.1.1,h.1.2,h.2⟩
theorem y7 {α:Type} {l:List (Nat×α)} {t:Nat} {e:α} (h:look l t=some e):(t,e)∈l:=by
 induction l with
 |nil=>cases h
 |cons p r ih=>
  obtain⟨s,x⟩:=p;simp only [look] at h;split at h
  ·rename_i hs;injection h with h
   subst hs h;exact iB ..
  ·exact bz _ (ih h)
theorem ek.eval (h:ek pl ds cs env X w0 a w) {x:Operand} {e:Ex} (hv:valOf pl cs x=some e):a.eval x=e.ev env:=by
 cases x with
 |tmp t=>
  simp only [valOf] at hv;split at hv
  ·rename_i hg;injection hv with hv
   subst hv;simp [fG,h.nO t hg,Ex.ev]
  ·have:=h.sig _ (y7 hv);simp only at this;simp [fG,this]
 |const v=>simp only [valOf,ay] at hv;subst hv;rfl
 |global g=>simp only [valOf,ay] at hv;subst hv;rfl
 |func f=>simp only [valOf,ay] at hv;subst hv;rfl
theorem wZ: ∀{l:List Operand} {ss:List (Nat×Ex)},subst pl cs l=some ss→
  (∀t e,look ss t=some e→valOf pl cs (.tmp t)=some e)∧(∀t,.tmp t∈l→look ss t=none→valOf pl cs (.tmp t)=some (.t t))
 |[],ss,h=>by
  simp only [subst,ay] at h;subst h;exact⟨fun t e h=>(by cases h),fun t h=>(by cases h)⟩
 |x::r,ss,h=>by
  cases x with
  |tmp t=>
   simp only [subst] at h;cases hv:valOf pl cs (.tmp t)with
   |none=>simp [hv] at h
   |some e=>
    cases hr:subst pl cs r with
    |none=>simp [hv,hr] at h
    |some ss'=>
     obtain⟨i1,i2⟩:=wZ hr;simp only [hv,hr,ay] at h;have gen: ∀e',e=e'→ss=(t,e')::ss'→(∀u e,look ss u=some e→valOf pl cs (.tmp u)=some e)∧(∀u,.tmp u∈(.tmp t::r)→look ss u=none→valOf pl cs (.tmp u)=some (.t u)):=by
      intro e' he hs;subst hs;refine⟨fun u e2 hu=>?_,fun u hu hn=>?_⟩
      ·simp only [look] at hu;split at hu
       ·rename_i htu;injection hu with hu
        subst htu hu;rw [hv,he]
       ·exact i1 _ _ hu
      ·simp only [look] at hn;split at hn
       ·cases hn
       ·rename_i htu;rcases List.mem_cons.1 hu with h1|h1
        ·injection h1 with h1;exact absurd h1.symm htu
        ·exact i2 u h1 hn
     cases e with
     |t n=>
      simp only at h;split at h
      ·rename_i hnt;subst hnt h;refine⟨i1,fun u hu hn=>?_⟩;rcases List.mem_cons.1 hu with h1|h1
       ·injection h1 with h1;subst h1;exact hv
       ·exact i2 u h1 hn
      ·exact gen _ rfl h.symm
     |c v=>exact gen _ rfl h.symm
     |s b o n=>exact gen _ rfl h.symm
     |k b o=>exact gen _ rfl h.symm
  |const v=>
   obtain⟨i1,i2⟩:=wZ (l:=r) (by simpa only [subst] using h);exact⟨i1,fun u hu hn=>(List.mem_cons.1 hu).elim (fun h1=>by cases h1) fun h1=>i2 u h1 hn⟩
  |global v=>
   obtain⟨i1,i2⟩:=wZ (l:=r) (by simpa only [subst] using h);exact⟨i1,fun u hu hn=>(List.mem_cons.1 hu).elim (fun h1=>by cases h1) fun h1=>i2 u h1 hn⟩
  |func v=>
   obtain⟨i1,i2⟩:=wZ (l:=r) (by simpa only [subst] using h);exact⟨i1,fun u hu hn=>(List.mem_cons.1 hu).elim (fun h1=>by cases h1) fun h1=>i2 u h1 hn⟩
theorem ek.Ir (h:ek pl ds cs env X w0 a w) {l:List Operand} {ss:List (Nat×Ex)} (hs:subst pl cs l=some ss):
  ∀x,x∈l→a.eval x=aV.Ir env ss x:=by
 obtain⟨i1,i2⟩:=wZ hs;intro x hx;cases x with
 |tmp t=>
  simp only [aV.Ir];cases hl:look ss t with
  |some e=>exact h.eval (i1 t e hl)
  |none=>exact h.eval (i2 t hx hl)
 |const v=>rfl
 |global g=>rfl
 |func f=>rfl
theorem aa8 (ρ:Operand→Value) (o:Oper):execOp ρ o=execOp ρ (PM o.op o.type):=by
 cases o;rfl
theorem Y9 {op:Op} (h:FC op=true): ∀cs b,op≠ .select cs b:=by
 intro cs b e;subst e;cases h
theorem ek.exec (h:ek pl ds cs env X w0 a w) {o:Oper} {ss:List (Nat×Ex)} (hs:subst pl cs o.op.operands.toList=some ss) (hn:FC o.op=true):
  execOp a.eval o=execOp (aV.Ir env ss) (PM o.op o.type):=by
 rw [execOp_congr o (Y9 hn) fun x hx=>h.Ir hs x (by simpa using hx)];exact aa8 _ _
theorem ek.step (h:ek pl ds cs env X w0 a w) {X':XS} {dX w':World} (hx:Kp X' dX w') (hX: ∀k,X' k→k<w'.heap.size)
  (hb: ∀k,k<w.heap.size→ ¬X k→w'.heap[k]? =w.heap[k]? ∧ ¬X' k):ek pl ds cs env X' dX a w' where
 size:=h.size
 defers:=h.defers
 wB:=h.wB
 ext:=hx
 sL:=hX
 nO:=h.nO
 sig:=h.sig
 box:=fun b n hn cells hc=>by
  obtain⟨k,ty,h1,h2,h3,h4⟩:=h.box b n hn cells hc;obtain⟨e1,e2⟩:=hb k (Array.getElem?_eq_some_iff.1 h2).1 h4;exact⟨k,ty,h1,e1.trans h2,h3,e2⟩
 inj:=h.inj
 conv:=h.conv
 live:=h.live
 ptr:=h.ptr
theorem ek.gU (h:ek pl ds cs env X w0 a w) {w':World} (hx:Ext w w'):ek pl ds cs env X w0 a w':=
 h.step (h.ext.trans (hx.kp h.sL)) (fun k hk=>aG (h.sL k hk) hx.size) fun _ hk hX=>⟨hx.block hk,hX⟩
theorem ek.KJ (h:ek pl ds cs env X w0 a w) {m:Bool} {w':World} (hs:Step m X w w'):ek pl ds cs env (grow X w w') w' a w':=
 h.step (Kp.refl _ _) (fun k hk=>hk.elim (fun hX=>aG (h.sL k hX) hs.fr.size) (·.2))
  fun k hk hX=>⟨hs.fr.block k hk hX,fun hg=>hg.elim hX fun hg=>by omega⟩
theorem qG {s d:Nat} {n:Nat} (hs:look pl.boxes s=some n) (hd:look pl.boxes d=none):s≠d:=by
 rintro rfl;rw [hs] at hd;cases hd
theorem ek.bind (h:ek pl ds cs env X w0 a w) {d:Nat} (hd:pl.kG d=true) (v:Value) (oJ: ∀p,p∈ds.pins→p.1≠d):
  ek pl ds (cs.bind pl d) (kF env d v) X w0 (a.put (some d) v) w:=by
 obtain⟨dy,kH,rQ⟩:=vG hd;have fL:d<a.tmps.size:=by rw [h.size];exact dy
 have afa: ∀p,p∈(cs.kill d).sig→(a.put (some d) v).tmps[p.1]? =some (p.2.ev (kF env d v)):=by
  intro p hp;simp only [CS.kill,fE,aW,bne_iff_ne,ne_eq,cu] at hp;rw [eG _ _ _ _ hp.2.1,TQ hp.2.2];exact h.sig p hp.1
 have acE: ∀p,p∈(cs.kill d).vU→(∃n,look pl.boxes p.b=some n)∧(AE (kF env d v) p.g→bP (kF env d v p.b)=true∧ ∃k,(a.put (some d) v).tmps[p.b]? =some (dT k 0)∧(a.put (some d) v).tmps[p.s]? =some (dT k p.off)):=by
  intro p hp;simp only [CS.kill,fE,aW,bne_iff_ne,ne_eq] at hp;obtain⟨TR,⟨hb,hs⟩,hg⟩:=hp;obtain⟨e1,e2⟩:=h.ptr p TR;refine⟨e1,fun Ey=>?_⟩;have aku:AE env p.g:=by
   cases hpg:p.g with
   |none=>trivial
   |some x=>
    obtain⟨g,want⟩:=x;rw [hpg] at Ey hg;simp only [AE] at Ey⊢
    rwa [fW _ _ (by simpa using hg)] at Ey
  obtain⟨e3,k,e4,e5⟩:=e2 aku;rw [fW _ _ hb,eG _ _ _ _ hb,eG _ _ _ _ hs];exact⟨e3,k,e4,e5⟩
 have acF: ∀p,p∈(cs.bind pl d).sig→(a.put (some d) v).tmps[p.1]? =some (p.2.ev (kF env d v)):=by
  intro p hp;simp only [CS.bind] at hp;split at hp
  ·exact afa p hp
  ·rcases List.mem_cons.1 hp with rfl|hp
   ·simp [tV _ _ _ _ fL,Ex.ev,jV]
   ·exact afa p hp
 have hpt:(cs.bind pl d).vU=(cs.kill d).vU:=by simp only [CS.bind];split<;>rfl
 have hlv:(cs.bind pl d).live=cs.live:=by simp only [CS.bind];split<;>rfl
 exact {
  size:=by simp [kD,h.size]
  defers:=h.defers
  wB:=fun p hp=>⟨by rw [eG _ _ _ _ (oJ p hp)];exact(h.wB p hp).1,(h.wB p hp).2⟩
  ext:=h.ext
  sL:=h.sL
  nO:=fun s hs=>by
   rw [tV _ _ _ _ fL];split
   ·rename_i e;subst e;rw [jV]
   ·rename_i e;rw [fW _ _ e];exact h.nO s hs
  sig:=acF
  box:=fun b n hn cells hc=>by
   have nz:=qG hn kH;rw [fW _ _ nz] at hc;rw [eG _ _ _ _ nz];exact h.box b n hn cells hc
  inj:=fun b b' n n' hb eY h1 h2 k h3 h4=>by
   have nz:=qG hb kH;have FH:=qG eY kH;rw [fW _ _ nz] at h1;rw [fW _ _ FH] at h2;rw [eG _ _ _ _ nz] at h3;rw [eG _ _ _ _ FH] at h4;exact h.inj b b' n n' hb eY h1 h2 k h3 h4
  conv:=fun b n hb k hk=>by
   have nz:=qG hb kH;rw [eG _ _ _ _ nz] at hk;rw [fW _ _ nz];exact h.conv b n hb k hk
  live:=fun b hb=>by
   rw [hlv] at hb;obtain⟨⟨n,hn⟩,hl⟩:=h.live b hb;rw [fW _ _ (qG hn kH)];exact⟨⟨n,hn⟩,hl⟩
  ptr:=by rw [hpt];exact acE }
theorem ek.jN (h:ek pl ds cs env X w0 a w) {nd:List Nat} (hn: ∀b,b∈nd→(∃n,look pl.boxes b=some n)∧bP (env b)=true):
  ek pl ds (cs.jN nd) env X w0 a w:=
 { h with live:=fun b hb=>(List.mem_append.1 hb).elim (hn b) (h.live b) }
theorem ek.other (h:ek pl ds cs env X w0 a w) {d:Nat} (dy:d<pl.n) (kH:look pl.boxes d=none) (Hi:pl.ic d=false) (v:Value) {sM:CS}
  (acF: ∀p,p∈sM.sig→(a.put (some d) v).tmps[p.1]? =some (p.2.ev env)) (hlv:sM.live=cs.live)
  (acE: ∀p,p∈sM.vU→(∃n,look pl.boxes p.b=some n)∧(AE env p.g→bP (env p.b)=true∧ ∃k,(a.put (some d) v).tmps[p.b]? =some (dT k 0)∧(a.put (some d) v).tmps[p.s]? =some (dT k p.off))):
  ek pl ds sM env X w0 (a.put (some d) v) w where
 size:=by simp [kD,h.size]
 defers:=h.defers
 wB:=fun p hp=>by
  obtain⟨h1,h2⟩:=h.wB p hp;refine⟨?_,h2⟩;have du:p.1≠d:=fun e=>by
   rcases h2 with⟨n,_,hn,_⟩|hg
   ·rw [e,kH] at hn;cases hn
   ·rw [e,Hi] at hg;cases hg
  rw [eG _ _ _ _ du];exact h1
 ext:=h.ext
 sL:=h.sL
 nO:=fun s hs=>by
  rw [eG _ _ _ _ (by rintro rfl;rw [hs] at Hi;cases Hi)];exact h.nO s hs
 sig:=acF
 box:=fun b n hn cells hc=>by
  rw [eG _ _ _ _ (qG hn kH)];exact h.box b n hn cells hc
 inj:=fun b b' n n' hb eY h1 h2 k h3 h4=>by
  rw [eG _ _ _ _ (qG hb kH)] at h3;rw [eG _ _ _ _ (qG eY kH)] at h4;exact h.inj b b' n n' hb eY h1 h2 k h3 h4
 conv:=fun b n hb k hk=>by
  rw [eG _ _ _ _ (qG hb kH)] at hk;exact h.conv b n hb k hk
 live:=fun b hb=>h.live b (hlv▸hb)
 ptr:=acE
theorem ek.note (h:ek pl ds cs env X w0 a w) {d:Nat} (hd:pl.kG d=true) (Hi:pl.ic d=false) (e:Ex):
  ek pl ds (cs.note d e) env X w0 (a.put (some d) (e.ev env)) w:=by
 obtain⟨dy,kH,rQ⟩:=vG hd;have fL:d<a.tmps.size:=by rw [h.size];exact dy
 refine h.other dy kH Hi _ ?_ rfl ?_
 ·intro p hp;simp only [CS.note,gS,fE,bne_iff_ne,ne_eq] at hp;rcases hp with rfl|⟨hp,du⟩
  ·simp [tV _ _ _ _ fL]
  ·rw [eG _ _ _ _ du];exact h.sig p hp
 ·intro p hp;simp only [CS.note,fE,bne_iff_ne,ne_eq] at hp;obtain⟨⟨n,hn⟩,e2⟩:=h.ptr p hp.1;refine⟨⟨n,hn⟩,fun hg=>?_⟩;obtain⟨e3,k,e4,e5⟩:=e2 hg;refine⟨e3,k,?_,?_⟩
  ·rw [eG _ _ _ _ (qG hn kH)];exact e4
  ·rw [eG _ _ _ _ hp.2];exact e5
theorem ek.oF (h:ek pl ds cs env X w0 a w) {d:Nat} (hd:pl.kG d=true) (e:Ex) {gg:List PanicEntry→Env→World→XS→Prop} {next:Env→World→XS→Prop}
  (hn:fO P gg next (aV.oF pl cs d e).1 env w0 X) (oJ: ∀b,b∈lC (aV.oF pl cs d e).1→ ∀p,p∈ds.pins→p.1≠b): ∃dv,ek pl ds (aV.oF pl cs d e).2 dv X w0 (a.put (some d) (e.ev env)) w∧next dv w0 X:=by
 unfold aV.oF at hn oJ⊢;split
 ·rename_i hg;rw [if_pos hg] at hn oJ;exact⟨_,h.bind hd _ (oJ d (by simp [lC,TI.Hg])),hn⟩
 ·rename_i hg;rw [if_neg hg] at hn;have Hi:pl.ic d=false:=by
   cases hx:pl.ic d with
   |false=>rfl
   |true=>simp [hx] at hg
  exact⟨env,h.note hd Hi e,hn⟩
theorem ek.derive (h:ek pl ds cs env X w0 a w) {d b off:Nat} {g:Option (Nat×Bool)} (dy:d<pl.n) (kH:look pl.boxes d=none) (FI:pl.Re.contains d=true)
    (v:Value) (hb: ∃n,look pl.boxes b=some n) (hv:AE env g→bP (env b)=true∧ ∃k,a.tmps[b]? =some (dT k 0)∧v=dT k off)
 :
    ek pl ds (cs.vF d b off g) env X w0 (a.put (some d) v) w:=by
  have fL:d<a.tmps.size:=by rw [h.size];exact dy
  have Hi:pl.ic d=false:=by
    cases hx:pl.ic d with
    |false=>rfl
    |true=>have:=(ny hx).2.2;rw [FI] at this;cases this
  refine h.other dy kH Hi _ ?_ rfl ?_
  · intro p hp
    simp only [CS.vF,fE,bne_iff_ne,ne_eq] at hp;rw [eG _ _ _ _ hp.2];exact h.sig p hp.1
  · intro p hp
    rcases List.mem_cons.1 hp with rfl|hp
    · obtain⟨n,hn⟩:=hb
      refine⟨⟨n,hn⟩,fun hg=>?_⟩;obtain⟨e1,k,e2,e3⟩:=hv hg;refine⟨e1,k,?_,?_⟩
      · rw [eG _ _ _ _ (qG hn kH)];exact e2
      · simp [tV _ _ _ _ fL,e3]
    · simp only [fE,bne_iff_ne,ne_eq] at hp
      obtain⟨⟨n,hn⟩,e2⟩:=h.ptr p hp.1;refine⟨⟨n,hn⟩,fun hg=>?_⟩;obtain⟨e3,k,e4,e5⟩:=e2 hg;refine⟨e3,k,?_,?_⟩
      · rw [eG _ _ _ _ (qG hn kH)];exact e4
      · rw [eG _ _ _ _ hp.2];exact e5
theorem acG {d:Nat} {p:Nat×Ex} (hp:p∈(cs.kill d).sig):p∈cs.sig∧p.1≠d∧p.2.TF d=false:=by
 simpa [CS.kill,fE] using hp
theorem acH {d:Nat} {p:Ptr} (hp:p∈(cs.kill d).vU):p∈cs.vU∧p.b≠d∧p.s≠d∧(∀v,AE (kF env d v) p.g→AE env p.g):=by
 simp only [CS.kill,fE,aW,bne_iff_ne,ne_eq] at hp;obtain⟨TR,⟨hb,hs⟩,hg⟩:=hp;refine⟨TR,hb,hs,fun v Ey=>?_⟩;cases hpg:p.g with
 |none=>trivial
 |some x=>
  obtain⟨g,want⟩:=x;rw [hpg] at Ey hg;simp only [AE] at Ey⊢
  rwa [fW _ _ (by simpa using hg)] at Ey
theorem ek.aa9 (h:ek pl ds cs env X w0 a w) {d sz:Nat} (dy:d<pl.n) (hb:look pl.boxes d=some sz) (cells:Array Value) (fL:cells.size=sz) (ty:TypeId) (oJ: ∀p,p∈ds.pins→p.1≠d):
  ek pl ds ((cs.kill d).jN [d]) (kF env d (.agg cells)) X w0 (a.put (some d) (dT w.heap.size 0)) (w.alloc (.cells cells ty)):=by
 have hd:d<a.tmps.size:=by rw [h.size];exact dy
 have hg:=h.gU (Ext.alloc w (.cells cells ty));have fresh: ∀b n c,look pl.boxes b=some n→env b= .agg c→a.tmps[b]? ≠some (dT w.heap.size 0):=by
  intro b n c hn hc e;obtain⟨k,ty',h1,h2,_,_⟩:=h.box b n hn c hc;rw [h1] at e;have hk:k=w.heap.size:=by simpa [dT] using e
  subst hk;rw [mR (ba _)] at h2;cases h2
 exact {
  size:=by simp [kD,h.size]
  defers:=h.defers
  wB:=fun p hp=>⟨by rw [eG _ _ _ _ (oJ p hp)];exact(h.wB p hp).1,(h.wB p hp).2⟩
  ext:=hg.ext
  sL:=hg.sL
  nO:=fun s hs=>by
   have du:s≠d:=fun e=>by subst e;have:=(ny hs).2.1;rw [hb] at this;cases this
   rw [eG _ _ _ _ du,fW _ _ du];exact h.nO s hs
  sig:=fun p hp=>by
   obtain⟨h1,h2,h3⟩:=acG hp;rw [eG _ _ _ _ h2,TQ h3];exact h.sig p h1
  box:=fun b n hn c hc=>by
   by_cases nz:b=d
   ·subst nz;rw [jV] at hc;injection hc with hc
    subst hc;rw [hb] at hn;injection hn with hn
    refine⟨w.heap.size,ty,by simp [tV _ _ _ _ hd],heap_alloc_new w _,by omega,fun hX=>?_⟩;exact absurd (h.sL _ hX) zQ
   ·rw [fW _ _ nz] at hc;rw [eG _ _ _ _ nz];exact hg.box b n hn c hc
  inj:=fun b b' n n' hn jf h1 h2 k h3 h4=>by
   obtain⟨c,hc⟩:=qD.1 h1;obtain⟨c',CY⟩:=qD.1 h2;by_cases nz:b=d<;>by_cases FH:b'=d
   ·rw [nz,FH]
   ·subst nz;rw [tV _ _ _ _ hd,if_pos rfl] at h3;rw [eG _ _ _ _ FH] at h4;rw [fW _ _ FH] at CY;rw [←h3] at h4;exact absurd h4 (fresh b' n' c' jf CY)
   ·subst FH;rw [tV _ _ _ _ hd,if_pos rfl] at h4;rw [eG _ _ _ _ nz] at h3;rw [fW _ _ nz] at hc;rw [←h4] at h3;exact absurd h3 (fresh b n c hn hc)
   ·rw [fW _ _ nz] at h1;rw [fW _ _ FH] at h2;rw [eG _ _ _ _ nz] at h3;rw [eG _ _ _ _ FH] at h4;exact h.inj b b' n n' hn jf h1 h2 k h3 h4
  conv:=fun b n hn k hk=>by
   by_cases nz:b=d
   ·subst nz;rw [jV];rfl
   ·rw [eG _ _ _ _ nz] at hk;rw [fW _ _ nz];exact h.conv b n hn k hk
  live:=fun b eY=>by
   simp only [CS.jN,rG,dG,gS] at eY;rcases eY with rfl|eY
   ·exact⟨⟨sz,hb⟩,by rw [jV];rfl⟩
   ·obtain⟨e1,e2⟩:=h.live b eY;refine⟨e1,?_⟩;by_cases nz:b=d
    ·subst nz;rw [jV];rfl
    ·rw [fW _ _ nz];exact e2
  ptr:=fun p hp=>by
   obtain⟨h1,h2,h3,h4⟩:=acH (env:=env) hp;obtain⟨e1,e2⟩:=h.ptr p h1;refine⟨e1,fun Ey=>?_⟩;obtain⟨e3,k,e4,e5⟩:=e2 (h4 _ Ey);rw [fW _ _ h2,eG _ _ _ _ h2,eG _ _ _ _ h3];exact⟨e3,k,e4,e5⟩ }
theorem ek.store (h:ek pl ds cs env X w0 a w) {b n k:Nat} {ty:TypeId} {cells rR:Array Value} (hb:look pl.boxes b=some n) (hc:env b= .agg cells)
  (ht:a.tmps[b]? =some (dT k 0)) (hk:w.heap[k]? =some (.cells cells ty (0,0))) (hX: ¬X k) (fL:rR.size=n) {w':World} (hw:Fr (· =k) w w') (af:w'.heap[k]? =some (.cells rR ty (0,0))):
  ek pl ds (cs.KH b) (kF env b (.agg rR)) X w0 a w':=by
 have hA:bP (env b)=true:=by rw [hc];rfl
 exact {
  size:=h.size
  defers:=h.defers
  wB:=h.wB
  ext:=h.ext.trans (hw.kp fun j hj=>⟨h.sL j hj,fun e=>by subst e;exact hX hj⟩)
  sL:=fun j hj=>aG (h.sL j hj) hw.size
  nO:=fun s hs=>by
   have du:s≠b:=fun e=>by subst e;have:=(ny hs).2.1;rw [hb] at this;cases this
   rw [fW _ _ du];exact h.nO s hs
  sig:=fun p hp=>by
   simp only [CS.KH,fE,cu] at hp;rw [TQ hp.2];exact h.sig p hp.1
  box:=fun b' n' jf c CY=>by
   by_cases nz:b'=b
   ·subst nz;rw [jV] at CY;injection CY with CY
    subst CY;rw [hb] at jf;injection jf with jf
    exact⟨k,ty,ht,af,by omega,hX⟩
   ·rw [fW _ _ nz] at CY;obtain⟨k2,Yf,h1,h2,h3,h4⟩:=h.box b' n' jf c CY;have wC:k2≠k:=fun e=>by
     subst e;exact nz (h.inj b' b n' n jf hb (by rw [CY];rfl) hA k2 h1 ht)
    exact⟨k2,Yf,h1,(hw.block k2 (Array.getElem?_eq_some_iff.1 h2).1 wC).trans h2,h3,h4⟩
  inj:=fun b1 b2 n1 n2 hn1 hn2 h1 h2 j h3 h4=>by
   have f: ∀b',bP (kF env b (.agg rR) b')=true→bP (env b')=true:=fun b' hh=>by
    by_cases e:b'=b
    ·subst e;exact hA
    ·rwa [fW _ _ e] at hh
   exact h.inj b1 b2 n1 n2 hn1 hn2 (f b1 h1) (f b2 h2) j h3 h4
  conv:=fun b' n' jf j hj=>by
   by_cases e:b'=b
   ·subst e;rw [jV];rfl
   ·rw [fW _ _ e];exact h.conv b' n' jf j hj
  live:=fun b' eY=>by
   obtain⟨e1,e2⟩:=h.live b' eY;refine⟨e1,?_⟩;by_cases e:b'=b
   ·subst e;rw [jV];rfl
   ·rwa [fW _ _ e]
  ptr:=fun p hp=>by
   obtain⟨e1,e2⟩:=h.ptr p hp;refine⟨e1,fun hg=>?_⟩;have jg:AE env p.g:=by
    cases hpg:p.g with
    |none=>trivial
    |some x=>
     obtain⟨g,want⟩:=x;rw [hpg] at hg;simp only [AE] at hg⊢;by_cases e:g=b
     ·subst e;rw [jV] at hg;cases hg
     ·rwa [fW _ _ e] at hg
   obtain⟨e3,k2,e4,e5⟩:=e2 jg;refine⟨?_,k2,e4,e5⟩;by_cases e:p.b=b
   ·rw [e,jV];rfl
   ·rwa [fW _ _ e] }
end
section
variable {P : Program}
theorem y8 (k o n:Nat):(⟨k,o,none⟩:Addr).add n=⟨k,o+n,none⟩:=by
 unfold Addr.add;split<;>simp_all
theorem LF {S f fo sz:Nat} (h:fieldInfo P S f=some (fo,sz)) (hz:sz≠0) (k off:Nat) (w:World):
  (Instr.fieldAt S (dT k off) f).run P w= .ok (dT k (off+fo)) w:=by
 unfold fieldInfo at h;split at h
 ·rename_i fs hu;cases hf:fs[f]? with
  |none=>simp [hf] at h
  |some x=>
   cases hi:P.info? x.type with
   |none=>simp [hf,hi] at h
   |some i=>
    simp only [hf,hi,cU,bq,ay,cx] at h;obtain⟨h1,h2⟩:=h;subst h1 h2;simp [Instr.fieldAt,run_underlying hu,hf,iU,dT,fieldPlace,sizeOf,typeInfo,hi,hz,y8]
 ·cases h
theorem Hj {w:World} {k:Nat} {cells:Array Value} {ty:TypeId} (h:w.heap[k]? =some (.cells cells ty (0,0))) (i:Nat):w.cell? ⟨k,i,none⟩=cells[i]? :=by
 simp [World.cell?,h]
theorem NT {t:Nat} {ag:Bool} {sz:Nat} (h:iV P t=some (ag,sz)) (hag:(ag||sz==1)=true) {w:World} {k:Nat} {cells:Array Value} {ty:TypeId}
  (hk:w.heap[k]? =some (.cells cells ty (0,0))) (off:Nat) (hl:off+sz≤cells.size):
  (gH t (dT k off)).run P w= .ok (if ag then cq (.agg cells) off sz else cellOf (.agg cells) off) w:=by
 unfold iV at h;split at h
 ·rename_i d i hu hi;simp only [ay,cx] at h;obtain⟨h1,h2⟩:=h;subst h2;have y9:(isAgg t).run P w= .ok ag w:=by
   subst h1;cases d<;>simp [isAgg,run_underlying hu]
  cases ag with
  |true=>
   have hc: ∀j v,((cells.toList.drop off).take i.size)[j]? =some v→w.cell? ((⟨k,off,none⟩:Addr).add j)=some v:=by
    intro j v hj;rw [y8,Hj hk];rw [List.getElem?_take] at hj;split at hj
    ·rw [List.getElem?_drop] at hj;simpa using hj
    ·cases hj
   have hlen:((cells.toList.drop off).take i.size).length=i.size:=by
    simp;omega
   have hr:=run_loadCells_list (P:=P) w ⟨k,off,none⟩ _ hc;rw [hlen] at hr;simp [gH,iU,dT,loadVar,y9,sizeOf,typeInfo,hi,hr,cq,Value.cells]
  |false=>
   simp only [Bool.false_or,beq_iff_eq] at hag;have dy:off<cells.size:=by omega
   have hc:w.cell? ⟨k,off,none⟩=some cells[off]:=by rw [Hj hk];simp [dy]
   simp [gH,iU,dT,loadVar,y9,hc,cellOf,Value.cells,dy]
 ·cases h
theorem Ez (v:Value):one v=v.oneCell':=by cases v<;>rfl
theorem rr {v:Value} (h:one v=true):v.cells= #[v]:=by cases v<;>first|rfl|cases h
theorem WX {t:Nat} {ag:Bool} {sz:Nat} (h:iV P t=some (ag,sz)):(P.info? t).map (·.size)=some sz:=by
 unfold iV at h;split at h
 ·rename_i d i hu hi;simp only [ay,cx] at h;simp [hi,h.2]
 ·cases h
theorem LG {t sz:Nat} (h:(P.info? t).map (·.size)=some sz) {w:World} {k:Nat} {cells:Array Value} {ty:TypeId}
  (hk:w.heap[k]? =some (.cells cells ty (0,0))) (off:Nat) (hl:off+sz≤cells.size) (v:Value) (hv:v.cells.size=sz) (h1:v.cells.toList.all one=true):
  (Instr.storeAt t (dT k off) v).run P w= .ok () (w.setRow k (dg cells.toList off v.cells.toList).toArray):=by
 cases hi:P.info? t with
 |none=>simp [hi] at h
 |some i=>
  simp only [hi,bq,ay] at h;have ed:=run_storeCells_at P k off ty v.cells.toList 0 cells w hk (by simpa [hv] using hl) (fun x hx=>by
   have:=List.all_eq_true.1 h1 x hx
   rwa [Ez] at this)
  simp only [Nat.add_zero] at ed;simp [Instr.storeAt,iU,dT,storeVar,sizeOf,typeInfo,hi,h,hv,ed,dg]
end
theorem aba {w:World} {k:Nat} {cells rR:Array Value} {ty:TypeId} (hk:w.heap[k]? =some (.cells cells ty (0,0))):
  Fr (· =k) w (w.setRow k rR)∧(w.setRow k rR).heap[k]? =some (.cells rR ty (0,0)):=by
 refine⟨⟨rfl,rfl,rfl,by simp [World.setRow],fun j _ hj=>?_⟩,setRow_heap w k cells rR ty (0,0) hk⟩;simp only [World.setRow,Array.getElem?_modify];rw [if_neg (fun e=>hj e.symm)]
theorem acI {l vs:List Value} {off:Nat} (h:off+vs.length≤l.length):(dg l off vs).length=l.length:=by
 simp [dg];omega
section
variable {P : Program} {pl : br} {ds : Bk} {cs : CS} {env : Env} {X : XS} {w0 w : World} {a : Act}
theorem Iv {og:Option (Nat×Bool)} : ∀{l:List Ptr} {t b off:Nat},Ew og l t=some (b,off)→ ∃p,p∈l∧p.s=t∧p.b=b∧p.off=off∧(p.g=none∨p.g=og)
 |[],_,_,_,h=>by cases h
 |p::r,t,b,off,h=>by
  simp only [Ew] at h;split at h
  ·rename_i hs;split at h
   ·rename_i hg;simp only [ay,cx] at h;refine⟨p,iB ..,hs,h.1,h.2,?_⟩;simpa using hg
   ·cases h
  ·obtain⟨q,h1,h2⟩:=Iv h;exact⟨q,bz _ h1,h2⟩
theorem ek.sK (h:ek pl ds cs env X w0 a w) {og:Option (Nat×Bool)} {x:Operand} {b off:Nat} {nd:List Nat} (hp:aV.sK pl cs og x=some (b,off,nd)):
  (∃n,look pl.boxes b=some n)∧(∀b',b'∈nd→ ∃n,look pl.boxes b'=some n)∧
  ((∀b',b'∈nd→bP (env b')=true)→AE env og→bP (env b)=true∧ ∃k,a.eval x=dT k off∧a.tmps[b]? =some (dT k 0)):=by
 cases x with
 |tmp t=>
  simp only [aV.sK] at hp;split at hp
  ·rename_i n hn;simp only [ay,cx] at hp;obtain⟨rfl,rfl,rQ⟩:=hp;refine⟨⟨n,hn⟩,fun b' eY=>?_,fun hl _=>?_⟩
   ·split at rQ<;>subst rQ
    ·cases eY
    ·rcases List.mem_singleton.1 eY with rfl;exact⟨n,hn⟩
   ·have hA:bP (env t)=true:=by
     split at rQ
     ·rename_i hc;exact(h.live t (by simpa using hc)).2
     ·subst rQ;exact hl t (List.mem_singleton.2 rfl)
    obtain⟨c,hc⟩:=qD.1 hA;obtain⟨k,ty,h1,_⟩:=h.box t n hn c hc;exact⟨hA,k,by simp [fG,h1],h1⟩
  ·split at hp
   ·cases hf:Ew og cs.vU t with
    |none=>simp [hf] at hp
    |some q=>
     obtain⟨b',amI⟩:=q;simp only [hf,bq,ay,cx] at hp;obtain⟨rfl,rfl,rfl⟩:=hp;obtain⟨p,hp,hs,hb,ho,hg⟩:=Iv hf;obtain⟨e1,e2⟩:=h.ptr p hp;subst hs hb ho;refine⟨e1,fun _ eY=>(by cases eY),fun _ Ey=>?_⟩;obtain⟨e3,k,e4,e5⟩:=e2 (hg.elim (fun hg=>by simp [hg,AE]) (fun hg=>by rw [hg];exact Ey));exact⟨e3,k,by simp [fG,e5],e4⟩
   ·cases hp
 |const v=>cases hp
 |global g=>cases hp
 |func f=>cases hp
theorem Iw {gg:List PanicEntry→Env→World→XS→Prop} {next:Env→World→XS→Prop} : ∀(nd:List Nat) {l:List TI},
  fO P gg next (nd.map .uy++l) env w X→(∀b,b∈nd→bP (env b)=true)∧fO P gg next l env w X
 |[],_,h=>⟨fun _ hb=>(by cases hb),h⟩
 |b::nd,l,h=>by
  obtain⟨h1,h2⟩:bP (env b)=true∧fO P gg next (nd.map .uy++l) env w X:=by simpa only [List.map_cons,rG,fO,TK,dk] using h
  obtain⟨h3,h4⟩:=Iw nd h2;refine⟨fun b' eY=>?_,h4⟩;rcases List.mem_cons.1 eY with rfl|eY
  ·exact h1
  ·exact h3 b' eY
theorem zt {gg:List PanicEntry→Env→World→XS→Prop} {next:Env→World→XS→Prop} : ∀(l l':List TI),fO P gg next (l++l')=fO P gg (fO P gg next l') l
 |[],_=>rfl
 |i::l,l'=>by
  funext env w X
  simp only [rG,fO,zt l l']
inductive Shape (P:Program) (pl:br) (cs:CS) (og:Option (Nat×Bool)) (m:Bool) (o:Oper):CR→Prop
 |mv (x:Operand) (d:Nat) (e:Ex) (ho:o.op= .move x∨o.op= .assign x) (hd:o.dst=some d) (hv:valOf pl cs x=some e) (hp:pl.kG d=true):
   Shape P pl cs og m o ⟨true,[],(oF pl cs d e).1,(oF pl cs d e).2,[],[]⟩
 |ld (t:TypeId) (x:Operand) (d b off:Nat) (nd:List Nat) (ag:Bool) (sz bs:Nat) (ho:o.op= .load t x) (hd:o.dst=some d) (hx:aV.sK pl cs og x=some (b,off,nd))
   (ht:iV P t=some (ag,sz)) (hb:look pl.boxes b=some bs) (hp:pl.kG d=true) (hl:off+sz≤bs) (ha:(ag||sz==1)=true):
   Shape P pl cs og m o ⟨true,nd,(oF pl (cs.jN nd) d (if ag then .s b off sz else .k b off)).1,(oF pl (cs.jN nd) d (if ag then .s b off sz else .k b off)).2,[b],[]⟩
 |fa (S:TypeId) (x:Operand) (f d b off:Nat) (nd:List Nat) (fo sz:Nat) (ho:o.op= .fieldAddr S x f) (hd:o.dst=some d) (hx:aV.sK pl cs og x=some (b,off,nd))
   (hf:fieldInfo P S f=some (fo,sz)) (FI:pl.Re.contains d=true) (dy:d<pl.n) (kH:look pl.boxes d=none) (hz:sz≠0):
   Shape P pl cs og m o ⟨true,nd,[],(cs.jN nd).vF d b (off+fo) og,[],[]⟩
 |rd (d:Nat) (ss:List (Nat×Ex)) (hd:o.dst=some d) (hs:subst pl cs o.op.operands.toList=some ss) (hn:FC o.op=true) (hp:pl.kG d=true):
   Shape P pl cs og m o ⟨true,[],[.rd d o.op o.type ss],cs.bind pl d,[],[]⟩
 |AD (d:Nat) (ss:List (Nat×Ex)) (hd:o.dst=some d) (hs:subst pl cs o.op.operands.toList=some ss) (hn:FC o.op=true) (hp:pl.kG d=true):
   Shape P pl cs og m o ⟨false,[],[.AD (some d) o.op o.type ss m],cs.bind pl d,[],[]⟩
 |act (ss:List (Nat×Ex)) (hd:o.dst=none) (hs:subst pl cs o.op.operands.toList=some ss) (hn:FC o.op=true):
   Shape P pl cs og m o ⟨false,[],[.AD none o.op o.type ss m],cs,[],[]⟩
 |bx (t:TypeId) (x:Operand) (d sz:Nat) (e:Ex) (ag:Bool) (ho:o.op= .box t x) (hd:o.dst=some d) (hb:look pl.boxes d=some sz) (hv:valOf pl cs x=some e) (ht:iV P t=some (ag,sz)) (dy:d<pl.n):
   Shape P pl cs og m o ⟨false,[],[if !ag&&sz==1 then .wX d e else .box d sz e],(cs.kill d).jN [d],[],[]⟩
 |al (t:TypeId) (d sz:Nat) (i:TypeInfo) (z:Value) (ag:Bool) (ho:o.op= .alloc t) (hd:o.dst=some d) (hb:look pl.boxes d=some sz) (hi:P.info? t=some i) (hz:i.zero=some z) (ht:iV P t=some (ag,sz)) (dy:d<pl.n):
   Shape P pl cs og m o ⟨false,[],[if !ag&&sz==1 then .wX d (.c z)else .box d sz (.c z)],(cs.kill d).jN [d],[],[]⟩
 |st (t:TypeId) (x v:Operand) (b off:Nat) (nd:List Nat) (sz bs:Nat) (e:Ex) (ag:Bool) (ho:o.op= .store t x v) (hd:o.dst=none) (hx:aV.sK pl cs og x=some (b,off,nd))
   (hv:valOf pl cs v=some e) (ht:iV P t=some (ag,sz)) (hb:look pl.boxes b=some bs) (hl:off+sz≤bs):
   Shape P pl cs og m o ⟨false,nd,[if !ag&&sz==1 then .TG b off e else if off==0&&sz==bs then .fill b sz e else .put b off sz e],(cs.jN nd).KH b,[],[b]⟩
theorem tW {m:Bool} {og:Option (Nat×Bool)} {o:Oper} {r:CR} (h:CV P pl cs m o=some r):Shape P pl cs og m o r:=by
 unfold CV at h;split at h
 ·cases h
 ·rename_i ss hs;split at h
  ·cases h
  ·rename_i hn;simp only [cu,wA] at hn;split at h
   ·rename_i d hd;split at h
    ·cases h
    ·rename_i hp;simp only [cu,wA] at hp;split at h<;>injection h with h<;>subst h
     ·exact .rd d ss hd hs hn hp
     ·exact .AD d ss hd hs hn hp
   ·rename_i hd;injection h with h
    subst h;exact .act ss hd hs hn
theorem Rj {m:Bool} {og:Option (Nat×Bool)} {o:Oper} {r:CR} {sz d t:Nat} {e:Ex} (h:TM P pl cs sz t e d=some r)
  (k: ∀ag,d<pl.n→iV P t=some (ag,sz)→Shape P pl cs og m o ⟨false,[],[if !ag&&sz==1 then .wX d e else .box d sz e],(cs.kill d).jN [d],[],[]⟩):Shape P pl cs og m o r:=by
 unfold TM at h;split at h
 ·rename_i ag s ht;split at h
  ·rename_i hc;simp only [aW,decide_eq_true_eq,beq_iff_eq] at hc;obtain⟨h1,h2⟩:=hc;subst h2;injection h with h
   subst h;exact k ag h1 ht
  ·cases h
 ·cases h
theorem qe {m:Bool} {og:Option (Nat×Bool)} {o:Oper} {r:CR} (h:Bh P pl cs og m o=some r):Shape P pl cs og m o r:=by
 unfold Bh at h;split at h;case h_1 x ho=>
  split at h
  ·rename_i d e hd hv;split at h
   ·rename_i hp;injection h with h
    subst h;exact .mv x d e (.inl ho) hd hv hp
   ·cases h
  ·cases h
 case h_2 x ho=>
  split at h
  ·rename_i d e hd hv;split at h
   ·rename_i hp;injection h with h
    subst h;exact .mv x d e (.inr ho) hd hv hp
   ·cases h
  ·cases h
 case h_3 t x ho=>
  split at h
  ·rename_i d hd;split at h
   ·rename_i sz hb;split at h
    ·rename_i e hv;exact Rj h fun ag dy ht=>.bx t x d sz e ag ho hd hb hv ht dy
    ·cases h
   ·exact tW h
  ·cases h
 case h_4 t ho=>
  split at h
  ·rename_i d hd;split at h
   ·rename_i sz hb;split at h
    ·rename_i z hz;cases hi:P.info? t with
     |none=>simp [hi] at hz
     |some i=>
      simp only [hi,cU] at hz;exact Rj h fun ag dy ht=>.al t d sz i z ag ho hd hb hi hz ht dy
    ·cases h
   ·exact tW h
  ·cases h
 case h_5 S x f ho=>
  split at h
  ·rename_i b off nd hx;split at h
   ·rename_i d fo sz hd hf;split at h
    ·rename_i hc;simp only [aW,decide_eq_true_eq,fA,bne_iff_ne,ne_eq] at hc;injection h with h
     subst h;exact .fa S x f d b off nd fo sz ho hd hx hf hc.1.1.1 hc.1.1.2 hc.1.2 hc.2
    ·cases h
   ·cases h
  ·exact tW h
 case h_6 t x ho=>
  split at h
  ·rename_i b off nd hx;split at h
   ·rename_i d ag sz bs hd ht hb;split at h
    ·rename_i hc;simp only [aW,decide_eq_true_eq] at hc;injection h with h
     subst h;exact .ld t x d b off nd ag sz bs ho hd hx ht hb hc.1.1 hc.1.2 hc.2
    ·cases h
   ·cases h
  ·exact tW h
 case h_7 t x v ho=>
  split at h
  ·rename_i b off nd hx;split at h
   ·rename_i e ag sz bs hd hv ht hb;split at h
    ·rename_i hc;simp only [decide_eq_true_eq] at hc;injection h with h
     subst h;exact .st t x v b off nd sz bs e ag ho hd hx hv ht hb hc
    ·cases h
   ·cases h
  ·exact tW h
 case h_8=>exact tW h
end
section
variable {P : Program} {pl : br} {ds : Bk} {cs : CS} {env : Env} {X : XS} {w0 w : World} {a : Act}
theorem ek.zb (h:ek pl ds cs env X w0 a w) {RB:List Nat} {k:Nat} (hz:ZB pl RB a k): ¬X k:=by
 obtain⟨b,n,hb,_,ht⟩:=hz;obtain⟨c,hc⟩:=qD.1 (h.conv b n hb k ht);obtain⟨k',ty,e1,_,_,e4⟩:=h.box b n hb c hc;rw [ht] at e1;have:k'=k:=by simpa [dT] using e1.symm
 subst this;exact e4
theorem ek.kp0 (h:ek pl ds cs env X w0 a w) {RB:List Nat} {w':World} (hx:Fr (ZB pl RB a) w w'):Kp X w0 w':=
 h.ext.trans (hx.kp fun k hk=>⟨h.sL k hk,fun hz=>h.zb hz hk⟩)
theorem ek.cY (h:ek pl ds cs env X w0 a w) {b n k:Nat} (hb:look pl.boxes b=some n) (ht:a.tmps[b]? =some (dT k 0)):k<w.heap.size∧ ¬X k:=by
 obtain⟨c,hc⟩:=qD.1 (h.conv b n hb k ht);obtain⟨k',ty,e1,e2,_,e4⟩:=h.box b n hb c hc;rw [ht] at e1;have:k'=k:=by simpa [dT] using e1.symm
 subst this;exact⟨(Array.getElem?_eq_some_iff.1 e2).1,e4⟩
theorem ek.acJ (h:ek pl ds cs env X w0 a w) {sb:List Nat} {w':World} (hx:Fr X w w'):vV pl sb a w w':=
 fun _ _ _ hb _ hk=>hx.block _ (h.cY hb hk).1 (h.cY hb hk).2
theorem nP.eE {sb:List Nat} {a':Act} {w':World} (hx:Ext w w') (hz: ∀b n,look pl.boxes b=some n→ ∀k,k<w.heap.size→a'.tmps[b]? =some (dT k 0)→a.tmps[b]? =some (dT k 0)):nP pl sb a w a' w':=
 fun _ _=>⟨hx.fr _,fun k hk ⟨b,n,h1,h2,h3⟩=>⟨b,n,h1,h2,hz b n h1 k hk h3⟩⟩
theorem nP.acK {sb:List Nat} {w':World} {d:Option Nat} {v:Value} (hx:Ext w w') (hd: ∀x,d=some x→look pl.boxes x=none):nP pl sb a w (a.put d v) w':=by
 refine nP.eE hx fun b n hb k _ hk=>?_;cases d with
 |none=>exact hk
 |some x=>rwa [eG _ _ _ _ (qG hb (hd x rfl))] at hk
theorem nP.sub {sb sb':List Nat} {a':Act} {w':World} (h:nP pl sb a w a' w') (hs: ∀b,b∈sb→b∈sb'):nP pl sb' a w a' w':=
 fun RB hRB=>h RB fun b hb=>hRB b (hs b hb)
theorem Rk {P:Program} {m:Bool} {og:Option (Nat×Bool)} {o:Oper} {r:CR} (hs:Shape P pl cs og m o r) (iO:r.fl=true): ∀x,o.dst=some x→look pl.boxes x=none:=by
 have f: ∀{d:Nat},o.dst=some d→pl.kG d=true→ ∀x,o.dst=some x→look pl.boxes x=none:=fun hd hp x hx=>by
  rw [hd] at hx;injection hx with hx;subst hx;exact(vG hp).2.1
 cases hs with
 |mv x d e ho hd hv hp=>exact f hd hp
 |ld t x d b off nd ag sz bs ho hd hx ht hb hp hl ha=>exact f hd hp
 |fa S x g d b off nd fo sz ho hd hx hf FI dy kH hz=>intro y hy;rw [hd] at hy;injection hy with hy;subst hy;exact kH
 |rd d ss hd hs hn hp=>exact f hd hp
 |AD=>cases iO
 |act=>cases iO
 |bx=>cases iO
 |al=>cases iO
 |st=>cases iO
theorem Rl {m:Bool} {og:Option (Nat×Bool)} {o:Oper} {r:CR} (hs:Shape P pl cs og m o r) (h:ek pl ds cs env X w0 a w) (hg:AE env og)
  (hl: ∀b,b∈r.nd→bP (env b)=true) (iO:r.fl=true) {gg:List PanicEntry→Env→World→XS→Prop} {next:Env→World→XS→Prop} (hd:fO P gg next r.l env w0 X) (oJ: ∀b,b∈lC r.l→ ∀p,p∈ds.pins→p.1≠b):
  ∃v dv,((∀wa,Fr (ZB pl r.rb a) w wa→(execOp a.eval o).run P wa= .ok (.value v) wa)∧
   ∀b,b∈r.rb→ ∃k n,look pl.boxes b=some n∧a.tmps[b]? =some (dT k 0)∧ ∀wa:World,wa.heap[k]? =w.heap[k]? →(execOp a.eval o).run P wa= .ok (.value v) wa)∧ek pl ds r.cs dv X w0 (a.put o.dst v) w∧next dv w0 X:=by
 cases hs with
 |mv x d e ho iu hv hp=>
  obtain⟨dv,h1,h2⟩:=h.oF hp e hd oJ;refine⟨e.ev env,dv,⟨fun wa _=>?_,fun _ hb=>by cases hb⟩,by rw [iu];exact h1,h2⟩;have he:=h.eval hv;rcases ho with ho|ho<;>simp [execOp,ho,he]
 |ld t x d b off nd ag sz bs ho iu hx ht hb hp dy ha=>
  obtain⟨⟨n,hn⟩,rQ,hk⟩:=h.sK hx;obtain⟨hA,k,he,kB⟩:=hk hl hg;obtain⟨cells,hc⟩:=qD.1 hA;obtain⟨k',ty,e1,e2,e3,_⟩:=h.box b n hn cells hc;have wC:k'=k:=by rw [kB] at e1;simpa [dT] using e1.symm
  subst wC;have hbn:bs=n:=by rw [hb] at hn;injection hn
  subst hbn;have h':=h.jN (nd:=nd) fun b' eY=>⟨rQ b' eY,hl b' eY⟩;obtain⟨dv,h1,h2⟩:=h'.oF hp _ hd oJ;have CZ:(if ag then Ex.s b off sz else Ex.k b off).ev env=if ag then cq (.agg cells) off sz else cellOf (.agg cells) off:=by
   cases ag<;>simp [Ex.ev,hc]
  have jG: ∀wa:World,wa.heap[k']? =w.heap[k']? →(execOp a.eval o).run P wa= .ok (.value ((if ag then Ex.s b off sz else Ex.k b off).ev env)) wa:=by
   intro wa EA;have e2':wa.heap[k']? =some (.cells cells ty (0,0)):=EA.trans e2;have:=NT ht ha e2' off zQ;rw [CZ];simp [execOp,ho,he,this]
  refine⟨_,dv,⟨fun wa EA=>jG wa ?_,fun b' eY=>?_⟩,by rw [iu];exact h1,h2⟩
  rotate_left
  ·have:=List.mem_singleton.1 eY;subst this;exact⟨k',bs,hn,kB,jG⟩
  have e2':wa.heap[k']? =some (.cells cells ty (0,0)):=by
   rw [EA.block k' (Array.getElem?_eq_some_iff.1 e2).1 ?_]
   ·exact e2
   ·rintro⟨b2,n2,g1,g2,g3⟩;exact g2 (List.mem_singleton.2 (h.inj b2 b n2 bs g1 hn (h.conv b2 n2 g1 k' g3) hA k' g3 kB))
  rw [e2',e2]
 |fa S x f d b off nd fo sz ho iu hx hf FI dy kH hz=>
  obtain⟨⟨n,hn⟩,rQ,hk⟩:=h.sK hx;obtain⟨hA,k,he,kB⟩:=hk hl hg;have h':=h.jN (nd:=nd) fun b' eY=>⟨rQ b' eY,hl b' eY⟩;refine⟨dT k (off+fo),env,⟨fun wa _=>?_,fun _ hb=>by cases hb⟩,?_,hd⟩
  ·have:=LF hf hz k off wa;simp [execOp,ho,he,this]
  ·rw [iu];exact h'.derive dy kH FI _ ⟨n,hn⟩ fun _=>⟨hA,k,kB,rfl⟩
 |rd d ss iu LH hn hp=>
  obtain⟨v,h1,h2⟩:=hd;refine⟨v,_,⟨fun wa EA=>?_,fun _ hb=>by cases hb⟩,by rw [iu];exact h.bind hp v (oJ d (by simp [lC,TI.Hg])),h2⟩;rw [h.exec LH hn,←aa4 _ (fun _=>rfl)];exact h1 wa (h.kp0 EA)
 |AD=>cases iO
 |act=>cases iO
 |bx=>cases iO
 |al=>cases iO
 |st=>cases iO
def vH (pl:br) (ds:Bk) (env:Env) (X:XS) (a:Act) (w:World):Prop:=
 (∀k,X k→k<w.heap.size)∧ ∀p,p∈ds.pins→a.tmps[p.1]? =some p.2∧(pl.ic p.1=true∨ ∃n k cells ty,p.2=dT k 0∧look pl.boxes p.1=some n∧env p.1= .agg cells∧w.heap[k]? =some (.cells cells ty (0,0))∧cells.size=n∧ ¬X k)
theorem ek.pinned (h:ek pl ds cs env X w0 a w):vH pl ds env X a w:=⟨h.sL,fun p hp=>by
 obtain⟨ht,⟨n,k,hn,hk⟩|hg⟩:=h.wB p hp
 ·refine⟨ht,.inr ?_⟩;rw [hk] at ht;obtain⟨cells,hc⟩:=qD.1 (h.conv p.1 n hn _ ht);obtain⟨k',ty,e1,e2,e3,e4⟩:=h.box p.1 n hn cells hc;rw [ht] at e1;have:k=k':=by simpa [dT] using e1
  subst this;exact⟨n,k,cells,ty,hk,hn,hc,e2,e3,e4⟩
 ·exact⟨ht,.inl hg⟩⟩
theorem vH.put {d:Option Nat} {v:Value} (h:vH pl ds env X (a.put d v) w) (hd: ∀x,d=some x→ ∀p,p∈ds.pins→p.1≠x):vH pl ds env X a w:=⟨h.1,fun p hp=>by
 obtain⟨h1,h2⟩:=h.2 p hp;refine⟨?_,h2⟩;cases d with
 |none=>exact h1
 |some x=>rwa [eG _ _ _ _ (hd x rfl p hp)] at h1⟩
theorem NU {m:Bool} {og:Option (Nat×Bool)} {o:Oper} {r:CR} (hs:Shape P pl cs og m o r) (iO:r.fl=true): ∀x,o.dst=some x→pl.ic x=true→x∈lC r.l:=by
 have f: ∀{Rm:CS} {d:Nat} {e:Ex},o.dst=some d→ ∀x,o.dst=some x→pl.ic x=true→x∈lC (oF pl Rm d e).1:=fun hd x hx hg=>by
  rw [hd] at hx;injection hx with hx;subst hx
  unfold oF;rw [if_pos (by simp [hg])];simp [lC,TI.Hg]
 cases hs with
 |mv x d e ho hd hv hp=>exact f hd
 |ld t x d b off nd ag sz bs ho hd hx ht hb hp hl ha=>exact f hd
 |fa S x g d b off nd fo sz ho hd hx hf FI dy kH hz=>
  intro y hy hg;rw [hd] at hy;injection hy with hy;subst hy
  have:=(ny hg).2.2;rw [FI] at this;cases this
 |rd d ss hd hs hn hp=>intro y hy _;rw [hd] at hy;injection hy with hy;subst hy;simp [lC,TI.Hg]
 |AD=>cases iO
 |act=>cases iO
 |bx=>cases iO
 |al=>cases iO
 |st=>cases iO
theorem Rn {m:Bool} {og:Option (Nat×Bool)} {o:Oper} {r:CR} (hs:Shape P pl cs og m o r) (h:ek pl ds cs env X w0 a w) (hg:AE env og)
  (hl: ∀b,b∈r.nd→bP (env b)=true) (iO:r.fl=false) {gg:List PanicEntry→Env→World→XS→Prop} {next:Env→World→XS→Prop} (hd:fO P gg next r.l env w0 X)
  {K:Act→World→Prop} {Q:Exit→Act→World→Prop}
  (hK: ∀a' w' dv X' dX,ek pl ds r.cs dv X' dX a' w'→next dv dX X'→vW (m=false) pl r.sb a w a' w'→K a' w')
  (oJ: ∀b,b∈lC r.l→ ∀p,p∈ds.pins→p.1≠b)
  (hQ: ∀ch w' dv X' dX,Kp X' dX w'→vH pl ds dv X' a w'→gg ch dv dX X'→Q (.panic ch) a w'):o.wp P a w K Q:=by
 have real: ∀(sM:CS) (ss:List (Nat×Ex)),(∀x,o.dst=some x→look pl.boxes x=none)→subst pl cs o.op.operands.toList=some ss→FC o.op=true→
   (∀m' w' v,Step m' X w w'→ek pl ds sM (Iq env o.dst v) (grow X w w') w' (a.put o.dst v) w')→r.cs=sM→
   (∀wa,Kp X w0 wa→iE P m X wa (fun v w' X'=>next (Iq env o.dst v) w' X') (fun ch w' X'=>gg ch env w' X') ((Rc (Ir env ss) o.op o.type).run P wa))→o.wp P a w K Q:=by
  intro sM ss TS LH hn hS jx he;have he:=he w h.ext;unfold hU;rw [h.exec LH hn,←aa4 _ (fun _=>rfl)];have ed: ∀w' v,Step m X w w'→vW (m=false) pl r.sb a w (a.put o.dst v) w':=fun w' v hs=>⟨fun hm=>by subst hm;exact nP.acK hs TS,h.acJ hs.fr⟩;cases hr:(Rc (Ir env ss) o.op o.type).run P w with
  |ok n w'=>
   rw [hr] at he;cases n<;>simp only [iE] at he<;>simp only [lB]
   case value v=>exact hK _ _ _ _ _ (jx▸hS m w' v he.1) he.2 (ed _ _ he.1)
   case skip=>exact hK _ _ _ _ _ (jx▸hS m w' undef he.1) he.2 (ed _ _ he.1)
   case enter f args=>
    obtain⟨rfl,hc⟩:=he;refine hc.mono fun e je hR=>?_;cases e with
    |returned v=>exact hK _ _ _ _ _ (jx▸hS m je v hR.1) hR.2 (ed _ _ hR.1)
    |panicked ch=>exact hQ _ _ _ _ _ (Kp.refl _ _) (h.KJ hR.1).pinned hR.2
    |outgrown=>exact hR.elim
  |halt x w'=>
   rw [hr] at he;cases x<;>simp only [iE] at he<;>simp only [lB]
   case panic v=>exact hQ _ _ _ _ _ (Kp.refl _ _) (h.KJ he.1).pinned he.2
 have boxed: ∀{d sz:Nat} {e:Ex} {ag:Bool},fO P gg next [if !ag&&sz==1 then .wX d e else .box d sz e] env w0 X→
   (e.ev env).cells.size=sz∧next (kF env d (.agg (e.ev env).cells)) w0 X:=by
  intro d sz e ag hd;simp only [fO] at hd;split at hd
  ·rename_i mJ;simp only [aW,cu,beq_iff_eq] at mJ;obtain⟨g1,g2⟩:=dk.1 hd;rw [rr g1];exact⟨by simp [mJ.2],g2⟩
  ·obtain⟨g1,g2⟩:=dk.1 hd;exact⟨by simpa using g1,g2⟩
 have agS: ∀(t d:Nat) (_:d<pl.n) (cells:Array Value),nP pl [] a w (a.put (some d) (dT w.heap.size 0)) (w.alloc (.cells cells t)):=by
  intro t d dy cells;refine nP.eE (Ext.alloc _ _) fun b n Ro k hk wC=>?_;by_cases e:b=d
  ·subst e;rw [tV _ _ _ _ (by rw [h.size];exact dy),if_pos rfl] at wC;have:w.heap.size=k:=by simpa [dT] using wC
   omega
  ·rwa [eG _ _ _ _ e] at wC
 cases hs with
 |mv=>cases iO
 |ld=>cases iO
 |fa=>cases iO
 |rd=>cases iO
 |AD d ss iu LH hn hp=>
  refine real (cs.bind pl d) ss (fun x hx=>by rw [iu] at hx;injection hx with hx;subst hx;exact(vG hp).2.1) LH hn (fun m' w' v ed=>?_) rfl ?_
  ·rw [iu];exact(h.KJ ed).bind hp v (oJ d (by simp [lC,TI.Hg]))
  ·intro wa EA;have:=hd wa EA;rw [iu];exact this
 |act ss iu LH hn=>
  refine real cs ss (fun x hx=>by rw [iu] at hx;cases hx) LH hn (fun m' w' v ed=>?_) rfl ?_
  ·rw [iu];exact h.KJ ed
  ·intro wa EA;have:=hd wa EA;rw [iu];exact this
 |bx t x d sz e ag ho iu hb hv ht dy=>
  have he:=h.eval hv;obtain⟨h1,h2⟩:=boxed hd;have hr:(execOp a.eval o).run P w= .ok (.value (dT w.heap.size 0)) (w.alloc (.cells (e.ev env).cells t)):=by
   simp [execOp,ho,he,Instr.box,newVar,newRow,dT]
  unfold hU;rw [hr];simp only [lB];rw [iu];exact hK _ _ _ _ _ (h.aa9 dy hb (e.ev env).cells h1 t (oJ d (by split<;>simp [lC,TI.Hg]))) h2 ⟨fun _=>agS t d dy _,h.acJ ((Ext.alloc _ _).fr X)⟩
 |al t d sz i z ag ho iu hb hi hz ht dy=>
  obtain⟨h1,h2⟩:=boxed hd;have hr:(execOp a.eval o).run P w= .ok (.value (dT w.heap.size 0)) (w.alloc (.cells z.cells t)):=by
   simp [execOp,ho,Instr.alloc,zeroValue,typeInfo,hi,hz,newVar,newRow,dT]
  unfold hU;rw [hr];simp only [lB];rw [iu];exact hK _ _ _ _ _ (h.aa9 dy hb z.cells h1 t (oJ d (by split<;>simp [lC,TI.Hg]))) h2 ⟨fun _=>agS t d dy _,h.acJ ((Ext.alloc _ _).fr X)⟩
 |st t x v b off nd sz bs e ag ho iu hx hv ht hb dy=>
  obtain⟨⟨n,hn⟩,rQ,hk⟩:=h.sK hx;obtain⟨hA,k,he,kB⟩:=hk hl hg;obtain⟨cells,hc⟩:=qD.1 hA;obtain⟨k',ty,e1,e2,e3,e4⟩:=h.box b n hn cells hc;have wC:k'=k:=by rw [kB] at e1;simpa [dT] using e1.symm
  subst wC;have hbn:bs=n:=by rw [hb] at hn;injection hn
  subst hbn;obtain⟨h1,h2,h3⟩:(e.ev env).cells.size=sz∧(e.ev env).cells.toList.all one=true∧next (kF env b (.agg (dg (env b).cells.toList off (e.ev env).cells.toList).toArray)) w0 X:=by
   simp only [fO] at hd;split at hd
   ·rename_i mJ;simp only [aW,cu,beq_iff_eq] at mJ;obtain⟨g1,g2⟩:=dk.1 hd;rw [rr g1];exact⟨by simp [mJ.2],by simp [g1],g2⟩
   ·split at hd
    ·rename_i mJ;simp only [aW,beq_iff_eq] at mJ;obtain⟨g1,hd⟩:=dk.1 hd;obtain⟨g2,g3⟩:=dk.1 hd;have g1:(e.ev env).cells.size=sz:=by simpa using g1
     refine⟨g1,g2,?_⟩;have ajd:dg (env b).cells.toList off (e.ev env).cells.toList=(e.ev env).cells.toList:=by
      unfold dg;rw [hc,mJ.1];have hz:cells.size≤(e.ev env).cells.size:=by omega
      show List.take 0 cells.toList++(e.ev env).cells.toList++List.drop (0+(e.ev env).cells.toList.length) cells.toList=(e.ev env).cells.toList
      rw [List.take_zero,dG,List.drop_eq_nil_of_le (by simpa using hz),List.append_nil]
     rw [ajd];simpa using g3
    ·obtain⟨g1,hd⟩:=dk.1 hd;obtain⟨g2,g3⟩:=dk.1 hd;exact⟨by simpa using g1,g2,g3⟩
  have h':=h.jN (nd:=nd) fun b' eY=>⟨rQ b' eY,hl b' eY⟩;have CZ:=h.eval hv;have ed:=LG (WX ht) e2 off zQ (e.ev env) h1 h2;have hr:(execOp a.eval o).run P w= .ok .skip (w.setRow k' (dg cells.toList off (e.ev env).cells.toList).toArray):=by
   simp [execOp,ho,he,CZ,ed]
  unfold hU;rw [hr];simp only [lB];rw [iu];obtain⟨f1,f2⟩:=aba (rR:=(dg cells.toList off (e.ev env).cells.toList).toArray) e2;have fL:((dg cells.toList off (e.ev env).cells.toList).toArray).size=bs:=by
   simp only [List.size_toArray];rw [acI (by simp;omega)];simpa using e3
  rw [hc] at h3;refine hK _ _ _ _ _ (h'.store hb hc kB e2 e4 fL f1 f2) h3 ⟨fun _ RB hRB=>
   ⟨f1.mono fun j hj=>⟨b,bs,hb,hRB b (List.mem_singleton.2 rfl),by rw [hj];exact kB⟩,fun _ _ hz=>hz⟩,fun b2 n2 k2 g1 g2 g3=>f1.block k2 (h.cY g1 g3).1 fun hj=>?_⟩
  have hj:k2=k':=hj;subst hj;exact g2 (List.mem_singleton.2 (h.inj b2 b n2 bs g1 hn (h.conv b2 n2 g1 _ g3) hA _ g3 kB))
end
section
variable {P : Program} {pl : br} {ds : Bk} {cs : CS} {env : Env} {X : XS} {w0 w : World} {a : Act} {ops : Array Oper}
variable {gg : List PanicEntry → Env → World → XS → Prop} {next : Env → World → XS → Prop}
theorem NV {g:Nat} {want:Bool} {op:Op} {r0 r:CR} (fe:mS g want op r0=some r) (hy:lN (env g) want=true) (hd:fO P gg next r.l env w0 X):
  fO P gg next r0.l env w0 X:=by
 obtain⟨fl,nd,l,c,rb,sb⟩:=r0;unfold mS at fe;dsimp only at fe;split at fe
 ·split at fe
  ·injection fe with e;subst e;exact hd
  ·cases fe
 ·split at fe
  ·cases fe
  ·injection fe with e;subst e
   simpa only [fO,TK,hy,if_true] using hd
 ·split at fe
  ·cases fe
  ·injection fe with e;subst e
   obtain⟨v,h1,_,h2⟩:=hd;exact⟨v,h1 hy,h2⟩
 ·split at fe
  ·cases fe
  ·injection fe with e;subst e
   exact hd.1 hy
 ·cases fe
theorem zu {g:Nat} {want:Bool} {op:Op} {r0 r:CR} (fe:mS g want op r0=some r):r.cs=r0.cs∧r.nd=r0.nd∧r.fl=r0.fl∧r.rb=r0.rb∧r.sb=r0.sb:=by
 obtain⟨fl,nd,l,c,rb,sb⟩:=r0;unfold mS at fe;dsimp only at fe;split at fe<;>(try split at fe)<;>first
  |(cases fe;done)
  |(injection fe with e;subst e;exact⟨rfl,rfl,rfl,rfl,rfl⟩)
theorem Ix {g:Nat} {want:Bool} {op:Op} {r0 r:CR} (fe:mS g want op r0=some r):lC r.l=lC r0.l:=by
 obtain⟨fl,nd,l,c,rb,sb⟩:=r0;unfold mS at fe;dsimp only at fe;split at fe<;>(try split at fe)<;>first
  |(cases fe;done)
  |(injection fe with e;subst e;rfl)
theorem acM (nd:List Nat):lC (nd.map .uy)=[]:=by
 induction nd with
 |nil=>rfl
 |cons b nd ih=>simp only [lC,List.map_cons,List.flatMap_cons,TI.Hg,dG] at ih⊢;exact ih
theorem xa (l l':List TI):lC (l++l')=lC l++lC l':=List.flatMap_append
theorem EB (r:CR):lC r.all=lC r.l:=by unfold CR.all;rw [xa,acM,dG]
theorem TT {m:Bool} {g:Nat} {want:Bool} {o:Oper} {r0 r:CR} (hs:Shape P pl cs (some (g,want)) m o r0) (fe:mS g want o.op r0=some r) (h:ek pl ds cs env X w0 a w)
  (hl: ∀b,b∈r0.nd→bP (env b)=true) (lP:lN (env g) want=false) (hd:fO P gg next r.l env w0 X) (oJ: ∀b,b∈lC r.l→ ∀p,p∈ds.pins→p.1≠b):
  ∃dv,ek pl ds r.cs dv X w0 (a.put o.dst undef) w∧next dv w0 X:=by
 have abb: ∀(Rm:CS) (d:Nat) (e:Ex) (nd rb:List Nat),ek pl ds Rm env X w0 a w→o.dst=some d→pl.kG d=true→acD o.op=false→r0=⟨true,nd,(oF pl Rm d e).1,(oF pl Rm d e).2,rb,[]⟩→
   ∃dv,ek pl ds r.cs dv X w0 (a.put o.dst undef) w∧next dv w0 X:=by
  intro Rm d e nd rb h1 iu hp hfa hr;subst hr;unfold mS oF at fe;by_cases oK:(pl.ic d||pl.mat.contains d)=true
  ·simp only [oK,if_true] at fe;split at fe
   ·cases fe
   ·injection fe with e1;subst e1
    simp only [fO,TK,lP,a8,if_false] at hd;exact⟨_,by rw [iu];exact h1.bind hp undef (oJ d (by simp [lC,TI.Hg])),hd⟩
  ·simp only [oK,hfa,a8,if_false] at fe;cases fe
 cases hs with
 |mv x d e ho iu hv hp=>exact abb cs d e [] [] h iu hp (by rcases ho with ho|ho<;>rw [ho]<;>rfl) rfl
 |ld t x d b off nd ag sz bs ho iu hx ht hb hp dy ha=>
  obtain⟨_,rQ,_⟩:=h.sK hx;exact abb (cs.jN nd) d _ nd [b] (h.jN fun b' eY=>⟨rQ b' eY,hl b' eY⟩) iu hp (by rw [ho];rfl) rfl
 |fa S x f d b off nd fo sz ho iu hx hf FI dy kH hz=>
  obtain⟨hb,rQ,hk⟩:=h.sK hx;have h':=h.jN (nd:=nd) fun b' eY=>⟨rQ b' eY,hl b' eY⟩;unfold mS at fe;simp only [ho,acD,if_true,ay] at fe;subst fe;refine⟨env,?_,hd⟩;rw [iu];exact h'.derive dy kH FI _ hb fun hg=>by simp only [AE] at hg;rw [lP] at hg;cases hg
 |rd d ss iu LH hn hp=>
  unfold mS at fe;dsimp only at fe;split at fe
  ·cases fe
  ·injection fe with e;subst e
   obtain⟨v,_,h1,h2⟩:=hd;have hv:=h1 lP;subst hv;exact⟨_,by rw [iu];exact h.bind hp undef (oJ d (by simp [lC,TI.Hg])),h2⟩
 |AD d ss iu LH hn hp=>
  unfold mS at fe;dsimp only at fe;split at fe
  ·cases fe
  ·injection fe with e;subst e
   exact⟨_,by rw [iu];exact h.bind hp undef (oJ d (by simp [lC,TI.Hg])),hd.2 lP⟩
 |act ss iu LH hn=>
  unfold mS at fe;dsimp only at fe;split at fe
  ·cases fe
  ·injection fe with e;subst e
   exact⟨_,by rw [iu];exact h,hd.2 lP⟩
 |bx t x d sz e ag=>cases TU:(!ag&&sz==1)<;>(unfold mS at fe;simp only [TU] at fe;cases fe)
 |al t d sz i z ag=>cases TU:(!ag&&sz==1)<;>(unfold mS at fe;simp only [TU] at fe;cases fe)
 |st t x v b off nd sz bs e ag=>
  cases TU:(!ag&&sz==1)<;>cases aje:(off==0&&sz==bs)<;>(unfold mS at fe;simp only [TU,aje] at fe;cases fe)
theorem Iy (h:ek pl ds cs env X w0 a w) {o:Oper} {j gs g:Nat} {want:Bool} (hg:o.guard=some (j,want)) (EC:(ops[j]?).bind (·.dst)=some gs)
  (hv:valOf pl cs (.tmp gs)=some (.t g)):bQ o (yielded ops a.tmps)=lN (env g) want:=by
 have ht:a.tmps[gs]? =some (env g):=by
  simp only [valOf] at hv;split at hv
  ·rename_i fe;injection hv with hv
   injection hv with hv
   subst hv;exact h.nO _ fe
  ·have:=h.sig _ (y7 hv);simpa [Ex.ev] using this
 unfold bQ yielded;simp only [hg,EC,cU,ht,lN];cases env g<;>simp
theorem Za {m:Bool} {o:Oper} {r:CR} (hc:yz P pl cs ops m o=some r) (iO:r.fl=true) (h:ek pl ds cs env X w0 a w) (hd:fO P gg next r.all env w0 X) (oJ: ∀b,b∈lC r.l→ ∀p,p∈ds.pins→p.1≠b):
  ∃v dv,(YF P pl r.rb ops o v a w∧ ∀b,b∈r.rb→YL P pl b ops o v a w)∧ek pl ds r.cs dv X w0 (a.put o.dst v) w∧next dv w0 X:=by
 obtain⟨hl,hd⟩:=Iw _ hd;unfold yz at hc;split at hc
 ·rename_i hg;obtain⟨v,dv,h1,h2,h3⟩:=Rl (qe hc) h trivial hl iO hd oJ;exact⟨v,dv,⟨.inl ⟨by simp [bQ,hg],h1.1⟩,fun b hb=>.inl ⟨by simp [bQ,hg],h1.2 b hb⟩⟩,h2,h3⟩
 ·rename_i j want hg;split at hc
  ·cases hc
  ·rename_i gs EC;split at hc
   ·rename_i g hv;have hw:=Iy h hg EC hv;cases qH:Bh P pl cs (some (g,want)) m o with
    |none=>rw [qH] at hc;cases hc
    |some r0=>
     rw [qH] at hc;simp only [cU] at hc;obtain⟨e1,e2,e3,e4,e5⟩:=zu hc;cases hy:lN (env g) want with
     |true=>
      obtain⟨v,dv,h1,h2,h3⟩:=Rl (qe qH) h hy (e2▸hl) (e3▸iO) (NV hc hy hd) (fun b hb=>oJ b (by rw [Ix hc];exact hb));exact⟨v,dv,⟨.inl ⟨by rw [hw,hy],e4▸h1.1⟩,fun b hb=>.inl ⟨by rw [hw,hy],h1.2 b (e4▸hb)⟩⟩,e1▸h2,h3⟩
     |false=>
      obtain⟨dv,h1,h2⟩:=TT (qe qH) hc h (e2▸hl) hy hd oJ;exact⟨undef,dv,⟨.inr ⟨by rw [hw,hy],rfl⟩,fun _ _=>.inr ⟨by rw [hw,hy],rfl⟩⟩,h1,h2⟩
   ·cases hc
theorem TV {m:Bool} {o:Oper} {r:CR} (hc:yz P pl cs ops m o=some r) (iO:r.fl=true): ∀x,o.dst=some x→look pl.boxes x=none:=by
 unfold yz at hc;split at hc
 ·exact Rk (qe hc) iO
 ·rename_i j want hg;split at hc
  ·cases hc
  ·rename_i gs EC;split at hc
   ·rename_i g hv;cases qH:Bh P pl cs (some (g,want)) m o with
    |none=>rw [qH] at hc;cases hc
    |some r0=>
     rw [qH] at hc;simp only [cU] at hc;exact Rk (qe qH) ((zu hc).2.2.1▸iO)
   ·cases hc
theorem afC {m:Bool} {o:Oper} {r:CR} (hc:yz P pl cs ops m o=some r) (iO:r.fl=true): ∀x,o.dst=some x→pl.ic x=true→x∈lC r.l:=by
 unfold yz at hc;split at hc
 ·exact NU (qe hc) iO
 ·rename_i j want hg;split at hc
  ·cases hc
  ·rename_i gs EC;split at hc
   ·rename_i g hv;cases qH:Bh P pl cs (some (g,want)) m o with
    |none=>rw [qH] at hc;cases hc
    |some r0=>
     rw [qH] at hc;simp only [cU] at hc;rw [Ix hc];exact NU (qe qH) ((zu hc).2.2.1▸iO)
   ·cases hc
theorem ek.apart (h:ek pl ds cs env X w0 a w) {m:Bool} {o:Oper} {r:CR} (hc:yz P pl cs ops m o=some r) (iO:r.fl=true) (hm: ∀b,b∈lC r.l→ ∀p,p∈ds.pins→p.1≠b):
  ∀x,o.dst=some x→ ∀p,p∈ds.pins→p.1≠x:=fun x hx p hp e=>by
 rcases(h.wB p hp).2 with⟨n,_,hn,_⟩|hg
 ·rw [e,TV hc iO x hx] at hn;cases hn
 ·exact hm x (afC hc iO x hx (e▸hg)) p hp e
theorem NW {m:Bool} {o:Oper} {r:CR} (hc:yz P pl cs ops m o=some r) (h:ek pl ds cs env X w0 a w) (hd:fO P gg next r.all env w0 X)
  {K:Act→World→Prop} {Q:Exit→Act→World→Prop}
  (hK: ∀a' w' dv X' dX,ek pl ds r.cs dv X' dX a' w'→next dv dX X'→vW (m=false) pl r.sb a w a' w'→K a' w')
  (oJ: ∀b,b∈lC r.l→ ∀p,p∈ds.pins→p.1≠b)
  (hQ: ∀ch w' dv X' dX,Kp X' dX w'→vH pl ds dv X' a w'→gg ch dv dX X'→Q (.panic ch) a w'):
  if bQ o (yielded ops a.tmps)=true then o.wp P a w K Q else K (a.put o.dst undef) w:=by
 cases iO:r.fl with
 |true=>
  obtain⟨v,dv,hy,h1,h2⟩:=Za hc iO h hd oJ;rcases hy.1 with⟨hw,hv⟩|⟨hw,hv⟩
  ·rw [if_pos hw];unfold hU;rw [hv w (Fr.refl _ w)];exact hK _ _ _ _ _ h1 h2 ⟨fun _=>nP.refl pl _ a w _ _ (TV hc iO),vV.refl _ _ _ _⟩
  ·rw [if_neg (by rw [hw];simp)];subst hv;exact hK _ _ _ _ _ h1 h2 ⟨fun _=>nP.refl pl _ a w _ _ (TV hc iO),vV.refl _ _ _ _⟩
 |false=>
  obtain⟨hl,hd⟩:=Iw _ hd;unfold yz at hc;split at hc
  ·rename_i hg;rw [if_pos (by simp [bQ,hg])];exact Rn (qe hc) h trivial hl iO hd hK oJ hQ
  ·rename_i j want hg;split at hc
   ·cases hc
   ·rename_i gs EC;split at hc
    ·rename_i g hv;have hw:=Iy h hg EC hv;cases qH:Bh P pl cs (some (g,want)) m o with
     |none=>rw [qH] at hc;cases hc
     |some r0=>
      rw [qH] at hc;simp only [cU] at hc;obtain⟨e1,e2,e3,e4,e5⟩:=zu hc;cases hy:lN (env g) want with
      |true=>
       rw [if_pos (by rw [hw,hy])];exact Rn (qe qH) h hy (e2▸hl) (e3▸iO) (NV hc hy hd) (e5▸e1▸hK) (fun b hb=>oJ b (by rw [Ix hc];exact hb)) hQ
      |false=>
       rw [if_neg (by rw [hw,hy];simp)];obtain⟨dv,h1,h2⟩:=TT (qe qH) hc h (e2▸hl) hy hd oJ;refine hK _ _ _ _ _ h1 h2 ⟨fun _=>?_,vV.refl _ _ _ _⟩;refine nP.eE (Ext.refl w) fun b n hb k hk wC=>?_;cases iu:o.dst with
       |none=>rw [iu] at wC;exact wC
       |some x=>
        rw [iu] at wC;by_cases gh:b=x
        ·subst gh;by_cases dy:b<a.tmps.size
         ·rw [tV _ _ _ _ dy,if_pos rfl] at wC;cases wC
         ·rw [mR (by simp [kD];omega)] at wC;cases wC
        ·rwa [eG _ _ _ _ gh] at wC
    ·cases hc
theorem NX {Q:Exit→Act→World→Prop} (hN: ∀sM a' w' dv X' dX,ek pl ds sM dv X' dX a' w'→next dv dX X'→Q .normal a' w')
  (hQ: ∀ch a' w' dv X' dX,a'.defers=ds.ds→Kp X' dX w'→vH pl ds dv X' a' w'→gg ch dv dX X'→Q (.panic ch) a' w'): ∀(l:List Oper) (cs:CS) (tl:List TI) (env:Env) (X:XS) (w0:World) (a:Act) (w:World),
  FE P pl ops l cs=some tl→(∀b,b∈lC tl→ ∀p,p∈ds.pins→p.1≠b)→ek pl ds cs env X w0 a w→fO P gg next tl env w0 X→wpList P ops Q l a w
 |[],cs,tl,env,X,w0,a,w,hc,_,h,hd=>by
  simp only [FE,ay] at hc;subst hc;exact hN _ _ _ _ _ _ h hd
 |o::l,cs,tl,env,X,w0,a,w,hc,hm,h,hd=>by
  simp only [FE] at hc;cases hr:yz P pl cs ops true o with
  |none=>simp [hr] at hc
  |some r=>
   cases hs:FE P pl ops l r.cs with
   |none=>simp [hr,hs] at hc
   |some zD=>
    simp only [hr,hs,bq,ay] at hc;subst hc;rw [zt] at hd;rw [xa,EB] at hm;refine wpList_step fun K hK=>NW hr h hd (fun a' w' dv X' dX h1 h2 _=>hK _ _ (NX hN hQ l r.cs zD dv X' dX a' w' hs (fun b hb=>hm b (dA _ hb)) h1 h2)) (fun b hb=>hm b (bR _ hb)) ?_;exact fun ch w' dv X' dX hx vX hp=>hQ ch a w' dv X' dX h.defers hx vX hp
theorem xc {bH:Array Bool} : ∀{l:List Nat} {i:Nat} {r:CR},y6 P pl ops cs bH l=some (i,r)→
  i∈l∧r.fl=true∧KI pl ops bH i r.rb=true∧ ∃o,ops[i]? =some o∧yz P pl cs ops (ni pl ops i) o=some r
 |[],_,_,h=>by cases h
 |j::l,i,r,h=>by
  simp only [y6] at h;split at h
  ·rename_i x hx;split at h
   ·rename_i hc;simp only [ay,cx] at h;obtain⟨rfl,rfl⟩:=h;simp only [aW] at hc;cases ho:ops[j]? with
    |none=>simp [ho] at hx
    |some o=>
     simp only [ho,cU] at hx;exact⟨iB ..,hc.1,hc.2,o,rfl,hx⟩
   ·obtain⟨h1,h2⟩:=xc h;exact⟨bz _ h1,h2⟩
  ·obtain⟨h1,h2⟩:=xc h;exact⟨bz _ h1,h2⟩
theorem LI {o:Oper} {b:Nat×Nat×Bool×Value} (h:FF P pl o=some b) (m:Bool):yz P pl cs ops m o=some ⟨false,[],[wY b],tS cs b.1,[],[]⟩:=by
 unfold FF at h;split at h
 ·rename_i t d hg sN hd;split at h
  ·rename_i sz z ag s h1 h2 h3;split at h
   ·rename_i hc;simp only [ay] at h;subst h;simp only [yz,hg,Bh,sN,hd,h1,h2,TM,h3,hc,if_true,wY,tS]
   ·cases h
  ·cases h
 ·cases h
theorem acN (env:Env) {d d':Nat} (h:d≠d') (v v':Value):kF (kF env d v) d' v'=kF (kF env d' v') d v:=by
 funext s
 by_cases h1:s=d
 ·subst h1;rw [fW _ _ h,jV,jV]
 ·by_cases h2:s=d'
  ·subst h2;rw [jV,fW _ _ (Ne.symm h),jV]
  ·rw [fW _ _ h2,fW _ _ h1,fW _ _ h1,fW _ _ h2]
theorem abc {b b':Nat×Nat×Bool×Value} (du:b.1≠b'.1) {l:List TI} (h:fO P gg next (wY b::wY b'::l) env w0 X):fO P gg next (wY b'::wY b::l) env w0 X:=by
 obtain⟨d,n,o,z⟩:=b;obtain⟨d',n',o',z'⟩:=b';have du:d≠d':=du;cases o<;>cases o'<;>simp only [wY,fO,TK,Ex.ev,dk,if_true,if_false,a8] at h⊢ <;>obtain⟨h1,h2,h3⟩:=h<;>exact⟨h2,h1,by rw [acN _ du.symm];exact h3⟩
theorem Zb {d d':Nat} {dv:Env} {X':XS} {dX:World} {a':Act} {w':World} (h:ek pl ds (tS (tS cs d') d) dv X' dX a' w'):ek pl ds (tS (tS cs d) d') dv X' dX a' w':=by
 refine⟨h.size,h.defers,h.wB,h.ext,h.sL,h.nO,fun p hp=>h.sig p ?_,h.box,h.inj,h.conv,fun b hb=>h.live b ?_,fun p hp=>h.ptr p ?_⟩
 ·simp only [tS,CS.kill,CS.jN,fE] at hp⊢;exact⟨⟨hp.1.1,hp.2⟩,hp.1.2⟩
 ·simp only [tS,CS.kill,CS.jN,List.mem_append,List.mem_singleton] at hb⊢;rcases hb with h|h|h
  ·exact .inr (.inl h)
  ·exact .inl h
  ·exact .inr (.inr h)
 ·simp only [tS,CS.kill,CS.jN,fE] at hp⊢;exact⟨⟨hp.1.1,hp.2⟩,hp.1.2⟩
theorem Yg {l:List Nat} {i:Nat} (h:Y8 l i=true):l=[i]:=by
 unfold Y8 at h;split at h
 ·rw [beq_iff_eq.1 h]
 ·cases h
theorem Iz {i:Nat} {o:Oper} {r:CR} {Q:Exit→Act→World→Prop} (ho:ops[i]? =some o) (hx:yz P pl cs ops (ni pl ops i) o=some r) (Rp:r.sb=[]) (h:ek pl ds cs env X w0 a w) (hd:fO P gg next r.all env w0 X) {bH:Array Bool} {fuel:Nat}
  (oJ: ∀b,b∈lC r.l→ ∀p,p∈ds.pins→p.1≠b)
  (hQ: ∀ch a' w' dv X' dX,a'.defers=ds.ds→Kp X' dX w'→vH pl ds dv X' a' w'→gg ch dv dX X'→Q (.panic ch) a' w')
  (hK: ∀a' w' dv X' dX,ek pl ds r.cs dv X' dX a' w'→next dv dX X'→rP P pl ops Q fuel (bH.setIfInBounds i true) a' w'):
  wpOp P ops Q i (fun a' w'=>(∀o,ops[i]? =some o→vW (ni pl ops i=false) pl (sh pl ops o) a w a' w')∧rP P pl ops Q fuel (bH.setIfInBounds i true) a' w') a w:=by
 have jl:=NW (ops:=ops) (K:=fun a' w'=>(∀o',ops[i]? =some o'→vW (ni pl ops i=false) pl (sh pl ops o') a w a' w')∧rP P pl ops Q fuel (bH.setIfInBounds i true) a' w') (Q:=Q) hx h hd
  (fun a' w' dv X' dX h1 h2 h3=>⟨fun o' uI=>⟨fun AF=>(h3.1 AF).sub fun b hb=>(by rw [Rp] at hb;cases hb),h3.2.sub fun b hb=>(by rw [Rp] at hb;cases hb)⟩,hK a' w' dv X' dX h1 h2⟩)
  oJ (fun ch w' dv X' dX hk vX hp=>hQ ch a w' dv X' dX h.defers hk vX hp)
 unfold wpOp;simp only [ho] at jl⊢;split
 ·rename_i hw;rw [if_pos hw] at jl;exact .inl jl
 ·rename_i hw;rw [if_neg hw] at jl;exact jl
theorem ED {Q:Exit→Act→World→Prop} (hN: ∀sM a' w' dv X' dX,ek pl ds sM dv X' dX a' w'→next dv dX X'→Q .normal a' w')
  (hQ: ∀ch a' w' dv X' dX,a'.defers=ds.ds→Kp X' dX w'→vH pl ds dv X' a' w'→gg ch dv dX X'→Q (.panic ch) a' w')
  (Hk: ∀c a (d:Option Nat) v w,(∀x,d=some x→ ∀p,p∈ds.pins→p.1≠x)→Q (.panic c) (a.put d v) w→Q (.panic c) a w) (Al:sf ops=true):
  ∀(fuel:Nat) (bH:Array Bool) (cs:CS) (tl:List TI) (env:Env) (X:XS) (w0:World) (a:Act) (w:World),
  tU P pl ops fuel bH cs=some tl→(∀b,b∈lC tl→ ∀p,p∈ds.pins→p.1≠b)→ek pl ds cs env X w0 a w→fO P gg next tl env w0 X→rP P pl ops Q fuel bH a w
 |0,bH,cs,tl,env,X,w0,a,w,hc,_,h,hd=>by
  simp only [tU] at hc;split at hc
  ·rename_i hr;simp only [ay] at hc;subst hc;exact⟨by simpa using hr,hN _ _ _ _ _ _ h hd⟩
  ·cases hc
 |fuel+1,bH,cs,tl,env,X,w0,a,w,hc,hm,h,hd=>by
  simp only [tU] at hc;split at hc
  ·rename_i i r hf;obtain⟨h1,h2,h3,o,ho,h4⟩:=xc hf;cases hs:tU P pl ops fuel (bH.setIfInBounds i true) r.cs with
   |none=>simp [hs] at hc
   |some zD=>
    simp only [hs,bq,ay] at hc;subst hc;rw [zt] at hd;rw [xa,EB] at hm;obtain⟨v,dv,hy,hS,hn⟩:=Za h4 h2 h hd (fun b hb=>hm b (bR _ hb));have C6: ∀j oj,ops[j]? =some oj→j≠i→bH.getD j true=false→ ¬(j∈DY ops bH i∨j=i∨(bH.getD j true=false∧ ∃oj,ops[j]? =some oj∧waits oj i=true))→_:=
     fun j oj hj du CX lP=>NS ho h3 j oj hj du CX (fun hb=>lP (.inl hb)) (by
      cases hw:waits oj i with
      |false=>rfl
      |true=>exact absurd (.inr (.inr ⟨CX,oj,hj,hw⟩)) lP)
    obtain⟨Y,NR,hY,ed⟩: ∃Y:Act→World→Prop,(∀a w,Y a w→Yx P ops o v a w)∧Y a w∧ ∀j oj,oj.dst=oj.dst→o.apart ops oj=true→(ni pl ops j=false∨zr o=true∨Rf o r.rb=true)→(∀b,b∈sh pl ops oj→ ¬b∈r.rb)→
      TN pl ops o oj (ni pl ops j=false) (sh pl ops oj) Y:=by
     cases AF:Rf o r.rb with
     |false=>exact⟨YF P pl r.rb ops o v,fun _ _ h=>h.yx,hy.1,fun j oj _ _ h4 h5=>YF.stb (h4.imp id fun h=>h.elim id fun h=>by cases h) h5⟩
     |true=>
      unfold Rf at AF;split at AF
      ·rename_i t x sN;have hxr:x∈r.rb:=by simpa using AF
       refine⟨YL P pl x ops o v,fun _ _ h=>h.yx,hy.2 x hxr,fun j oj _ Hh _ h5=>YL.stb (fun d hd hdx=>?_) fun hm=>h5 x hm hxr⟩;subst hdx;refine(sg Hh).2.2 d hd (bR _ (List.mem_filterMap.2 ⟨.tmp d,?_,rfl⟩));simp [sN,Op.operands]
      ·cases AF
    refine Is NR ho (s7 Al) (Ri ho h3) (fun c a' w' hq=>Hk c a' o.dst v w' (h.apart h4 h2 fun b hb=>hm b (bR _ hb)) hq) fuel bH a w
     (fun j=>j∈DY ops bH i∨j=i∨(bH.getD j true=false∧ ∃oj,ops[j]? =some oj∧waits oj i=true)) (.inr (.inl rfl)) (fun j hj=>?_)
     (fun j oj hj du CX lP=>have h:=C6 j oj hj du CX lP;⟨h.1,ed j oj rfl h.1 h.2.1 h.2.2⟩) h1 hY ?_
    ·rcases hj with hj|rfl|⟨hu,oj,BQ,hw⟩
     ·rcases Rh j hj with h|⟨h,oj,k,q1,q2,q3⟩
      ·exact .inl h
      ·exact .inr ⟨h,oj,k,q1,q2,.inl q3⟩
     ·exact .inl rfl
     ·exact .inr ⟨hu,oj,i,BQ,hw,.inr (.inl rfl)⟩
    exact ED hN hQ Hk Al fuel _ r.cs zD dv X w0 _ w hs (fun b hb=>hm b (dA _ hb)) hS hn
  ·split at hc
   ·rename_i i hr;split at hc
    ·rename_i o ho;split at hc
     ·rename_i r hx;split at hc
      ·rename_i Rp;cases hs:tU P pl ops fuel (bH.setIfInBounds i true) r.cs with
       |none=>simp [hs] at hc
       |some zD=>
        simp only [hs,bq,ay] at hc;subst hc;rw [zt] at hd;rw [xa,EB] at hm;refine⟨fun h0=>(by rw [hr] at h0;cases h0),fun i' AG=>?_⟩;rw [hr] at AG;have hii:=List.mem_singleton.1 AG;subst hii;have nQ: ∀b,b∈r.sb→b∈sh pl ops o:=fun b hb=>by have:=List.all_eq_true.1 Rp b hb;simpa using this
        have jl:=NW (ops:=ops) (K:=fun a' w'=>(∀o',ops[i']? =some o'→vW (ni pl ops i'=false) pl (sh pl ops o') a w a' w')∧rP P pl ops Q fuel (bH.setIfInBounds i' true) a' w') (Q:=Q) hx h hd
         (fun a' w' dv X' dX h1 h2 h3=>⟨fun o' uI=>by rw [ho] at uI;injection uI with uI;subst uI;exact⟨fun AF=>(h3.1 AF).sub nQ,h3.2.sub nQ⟩,ED hN hQ Hk Al fuel _ r.cs zD dv X' dX a' w' hs (fun b hb=>hm b (dA _ hb)) h1 h2⟩)
         (fun b hb=>hm b (bR _ hb)) (fun ch w' dv X' dX hk vX hp=>hQ ch a w' dv X' dX h.defers hk vX hp)
        unfold wpOp;simp only [ho] at jl⊢;split
        ·rename_i hw;rw [if_pos hw] at jl;exact .inl jl
        ·rename_i hw;rw [if_neg hw] at jl;exact jl
      ·cases hc
     ·cases hc
    ·cases hc
   ·rename_i i j hr;split at hc
    ·rename_i bi hp;cases hs:tU P pl ops fuel (bH.setIfInBounds i true) (tS cs bi.1)with
     |none=>simp [hs] at hc
     |some zD=>
      simp only [hs,bq,ay] at hc;subst hc;have hmc: ∀(i:TI) (l:List TI),lC (i::l)=lC [i]++lC l:=fun i l=>xa [i] l;rw [hmc] at hm;unfold ae7 at hp;split at hp
      ·rename_i bi' bj hbi hbj;split at hp
       ·rename_i hpc;simp only [ay] at hp;subst hp;simp only [aW,cu,beq_eq_false_iff_ne] at hpc;obtain⟨⟨du,hri⟩,hrj⟩:=hpc;replace hri:=Yg hri;replace hrj:=Yg hrj;obtain⟨oi,hoi,hai⟩:=Option.bind_eq_some_iff.1 hbi;obtain⟨oj,BQ,haj⟩:=Option.bind_eq_some_iff.1 hbj;have Rq:=fun (cs:CS) (m:Bool)=>LI (cs:=cs) (ops:=ops) hai m;have hcj:=fun (cs:CS) (m:Bool)=>LI (cs:=cs) (ops:=ops) haj m;refine⟨fun h0=>(by rw [hr] at h0;cases h0),fun i' AG=>?_⟩;rw [hr] at AG;rcases List.mem_cons.1 AG with rfl|AG
        ·exact Iz hoi (Rq cs _) rfl h (hd:fO P gg (fO P gg next zD) [wY bi'] env w0 X) (fun b hb=>hm b (bR _ hb)) hQ fun a' w' dv X' dX h1 h2=>ED hN hQ Hk Al fuel _ _ zD dv X' dX a' w' hs (fun b hb=>hm b (dA _ hb)) h1 h2
        ·have It:=List.mem_singleton.1 AG;subst It;cases fuel with
         |zero=>
          simp only [tU,hri] at hs;cases hs
         |succ f=>
          simp only [tU,hri,y6,BQ,cU,hcj,Bool.false_and,a8,if_false,List.all_nil,if_true] at hs;cases bU:tU P pl ops f ((bH.setIfInBounds i true).setIfInBounds i' true) (tS (tS cs bi'.1) bj.1)with
          |none=>simp [bU] at hs
          |some TW=>
           simp only [bU,bq,ay] at hs;have htl:wY bj::TW=zD:=hs;subst htl;rw [hmc (wY bj) TW] at hm;have nR:=abc du hd;refine Iz BQ (hcj cs _) rfl h (nR:fO P gg (fO P gg next (wY bi'::TW)) [wY bj] env w0 X) (fun b hb=>hm b (dA _ (bR _ hb))) hQ fun a' w' dv X' dX h1 h2=>?_;refine⟨fun h0=>(by rw [hrj] at h0;cases h0),fun k hk=>?_⟩;rw [hrj] at hk;have hki:=List.mem_singleton.1 hk;subst hki;refine Iz hoi (Rq _ _) rfl h1 (h2:fO P gg (fO P gg next TW) [wY bi'] dv dX X') (fun b hb=>hm b (bR _ hb)) hQ fun a'' je ajf sJ BR h3 h4=>?_;have hkj:k≠i':=fun e=>by
            subst e;rw [hoi] at BQ;cases BQ;rw [hai] at haj;cases haj;exact du rfl
           rw [qz _ _ hkj.symm];exact ED hN hQ Hk Al f _ _ TW ajf sJ BR a'' je bU (fun b hb=>hm b (dA _ (dA _ hb))) (Zb h3) h4
       ·cases hp
      ·cases hp
    ·cases hc
   ·cases hc
theorem Rr {P:Program} {f:Nat→Option T} : ∀{l:List Nat} {t:T},PN l f=some t→ ∀i∈l,∃t',f i=some t'∧(∀K env w X,den P t K env w X→den P t' K env w X)∧ ∀b,b∈t'.mk→b∈t.mk
 |[],t,h,i,hi=>by cases hi
 |[j],t,h,i,hi=>by
  have hij:i=j:=List.mem_singleton.1 hi;subst hij;exact⟨t,by simpa [PN] using h,fun _ _ _ _ h=>h,fun _ h=>h⟩
 |j::k::r,t,h,i,hi=>by
  simp only [PN] at h;split at h
  ·rename_i a b ha hb;simp only [ay] at h;subst h;rcases List.mem_cons.1 hi with rfl|hi
   ·exact⟨a,ha,fun _ _ _ _ h=>h.1,fun b hb=>bR _ hb⟩
   ·obtain⟨t',h1,h2,h3⟩:=Rr (l:=k::r) hb i hi;exact⟨t',h1,fun _ _ _ _ h=>h2 _ _ _ _ h.2,fun b hb=>dA _ (h3 b hb)⟩
  ·cases h
theorem MC {K:jF} {Q:Exit→Act→World→Prop} (hN: ∀sM a' w' dv X' dX,ek pl ds sM dv X' dX a' w'→K .normal dv dX X'→Q .normal a' w')
  (hQ: ∀ch a' w' dv X' dX,a'.defers=ds.ds→Kp X' dX w'→vH pl ds dv X' a' w'→K (.panic ch) dv dX X'→Q (.panic ch) a' w')
  (Hk: ∀c a (d:Option Nat) v w,(∀x,d=some x→ ∀p,p∈ds.pins→p.1≠x)→Q (.panic c) (a.put d v) w→Q (.panic c) a w) (Al:sf ops=true):
  ∀(fuel:Nat) (bH:Array Bool) (cs:CS) (t:T) (env:Env) (X:XS) (w0:World) (a:Act) (w:World),
  zC P pl ops fuel bH cs=some t→(∀b,b∈t.mk→ ∀p,p∈ds.pins→p.1≠b)→ek pl ds cs env X w0 a w→den P t K env w0 X→rP P pl ops Q fuel bH a w
 |0,bH,cs,t,env,X,w0,a,w,hc,_,h,hd=>by
  simp only [zC] at hc;split at hc
  ·rename_i hr;simp only [ay] at hc;subst hc;exact⟨by simpa using hr,hN _ _ _ _ _ _ h hd⟩
  ·cases hc
 |fuel+1,bH,cs,t,env,X,w0,a,w,hc,hm,h,hd=>by
  simp only [zC] at hc;split at hc
  ·rename_i i r hf;obtain⟨h1,h2,h3,o,ho,h4⟩:=xc hf;cases hs:zC P pl ops fuel (bH.setIfInBounds i true) r.cs with
   |none=>simp [hs] at hc
   |some zD=>
    simp only [hs,bq,ay] at hc;subst hc;have hd:fO P (fun ch=>K (.panic ch)) (fun e w X=>den P zD K e w X) r.all env w0 X:=hd;have hm: ∀b,b∈lC r.l++zD.mk→ ∀p,p∈ds.pins→p.1≠b:=by
     simp only [T.mk,EB] at hm;exact hm
    obtain⟨v,dv,hy,hS,hn⟩:=Za h4 h2 h hd (fun b hb=>hm b (bR _ hb));have C6: ∀j oj,ops[j]? =some oj→j≠i→bH.getD j true=false→ ¬(j∈DY ops bH i∨j=i∨(bH.getD j true=false∧ ∃oj,ops[j]? =some oj∧waits oj i=true))→_:=
     fun j oj hj du CX lP=>NS ho h3 j oj hj du CX (fun hb=>lP (.inl hb)) (by
      cases hw:waits oj i with
      |false=>rfl
      |true=>exact absurd (.inr (.inr ⟨CX,oj,hj,hw⟩)) lP)
    obtain⟨Y,NR,hY,ed⟩: ∃Y:Act→World→Prop,(∀a w,Y a w→Yx P ops o v a w)∧Y a w∧ ∀j oj,oj.dst=oj.dst→o.apart ops oj=true→(ni pl ops j=false∨zr o=true∨Rf o r.rb=true)→(∀b,b∈sh pl ops oj→ ¬b∈r.rb)→
      TN pl ops o oj (ni pl ops j=false) (sh pl ops oj) Y:=by
     cases AF:Rf o r.rb with
     |false=>exact⟨YF P pl r.rb ops o v,fun _ _ h=>h.yx,hy.1,fun j oj _ _ h4 h5=>YF.stb (h4.imp id fun h=>h.elim id fun h=>by cases h) h5⟩
     |true=>
      unfold Rf at AF;split at AF
      ·rename_i t x sN;have hxr:x∈r.rb:=by simpa using AF
       refine⟨YL P pl x ops o v,fun _ _ h=>h.yx,hy.2 x hxr,fun j oj _ Hh _ h5=>YL.stb (fun d hd hdx=>?_) fun hm=>h5 x hm hxr⟩;subst hdx;refine(sg Hh).2.2 d hd (bR _ (List.mem_filterMap.2 ⟨.tmp d,?_,rfl⟩));simp [sN,Op.operands]
      ·cases AF
    refine Is NR ho (s7 Al) (Ri ho h3) (fun c a' w' hq=>Hk c a' o.dst v w' (h.apart h4 h2 fun b hb=>hm b (bR _ hb)) hq) fuel bH a w
     (fun j=>j∈DY ops bH i∨j=i∨(bH.getD j true=false∧ ∃oj,ops[j]? =some oj∧waits oj i=true)) (.inr (.inl rfl)) (fun j hj=>?_)
     (fun j oj hj du CX lP=>have h:=C6 j oj hj du CX lP;⟨h.1,ed j oj rfl h.1 h.2.1 h.2.2⟩) h1 hY ?_
    ·rcases hj with hj|rfl|⟨hu,oj,BQ,hw⟩
     ·rcases Rh j hj with h|⟨h,oj,k,q1,q2,q3⟩
      ·exact .inl h
      ·exact .inr ⟨h,oj,k,q1,q2,.inl q3⟩
     ·exact .inl rfl
     ·exact .inr ⟨hu,oj,i,BQ,hw,.inr (.inl rfl)⟩
    exact MC hN hQ Hk Al fuel _ r.cs zD dv X w0 _ w hs (fun b hb=>hm b (dA _ hb)) hS hn
  ·refine⟨fun h0=>?_,fun i' AG=>?_⟩
   ·rw [h0] at hc;simp [PN] at hc
   obtain⟨t',h1,h2,h3⟩:=Rr (P:=P) hc i' AG;split at h1
   ·rename_i o ho;split at h1
    ·rename_i r hx;split at h1
     ·rename_i Rp;cases hs:zC P pl ops fuel (bH.setIfInBounds i' true) r.cs with
      |none=>simp [hs] at h1
      |some zD=>
       simp only [hs,bq,ay] at h1;subst h1;have hd:fO P (fun ch=>K (.panic ch)) (fun e w X=>den P zD K e w X) r.all env w0 X:=h2 _ _ _ _ hd;have hm: ∀b,b∈lC r.l++zD.mk→ ∀p,p∈ds.pins→p.1≠b:=fun b hb=>hm b (h3 b (by
        simp only [T.mk,EB];exact hb))
       have nQ: ∀b,b∈r.sb→b∈sh pl ops o:=fun b hb=>by have:=List.all_eq_true.1 Rp b hb;simpa using this
       have jl:=NW (ops:=ops) (K:=fun a' w'=>(∀o',ops[i']? =some o'→vW (ni pl ops i'=false) pl (sh pl ops o') a w a' w')∧rP P pl ops Q fuel (bH.setIfInBounds i' true) a' w') (Q:=Q) hx h hd
        (fun a' w' dv X' dX h1 h2 h3=>⟨fun o' uI=>by rw [ho] at uI;injection uI with uI;subst uI;exact⟨fun AF=>(h3.1 AF).sub nQ,h3.2.sub nQ⟩,MC hN hQ Hk Al fuel _ r.cs zD dv X' dX a' w' hs (fun b hb=>hm b (dA _ hb)) h1 h2⟩)
        (fun b hb=>hm b (bR _ hb)) (fun ch w' dv X' dX hk vX hp=>hQ ch a w' dv X' dX h.defers hk vX hp)
       unfold wpOp;simp only [ho] at jl⊢;split
       ·rename_i hw;rw [if_pos hw] at jl;exact .inl jl
       ·rename_i hw;rw [if_neg hw] at jl;exact jl
     ·cases h1
    ·cases h1
   ·cases h1
end
end Go.aV
