/-
 Part 1 of the proof: what the last text leans on.
-/
import Derived.KernelRfl
import Derived.Orders
import Derived.Below
import Derived.Laws.Sem
import Derived.Laws.CopyRow
import Derived.Laws.Entries
import Derived.Laws.Cells
import GoSem.Dispatch
open Option.some renaming injEq → az
open Go.Region renaming wanted → dS, ready → gk, binds → qJ, noSelect → rJ, noSelect_spec → sJ
open Bool renaming and_eq_true → aY, not_eq_true' → dL, false_eq_true → bc, or_eq_true → iU, not_eq_false → vn
open List renaming mem_append_left → ck, mem_filter → fO, mem_append_right → dz, mem_cons_of_mem → bK, range → dg, nil_append → eB, mem_cons → gp, mem_cons_self → dt, cons_append → qK, contains_iff_mem → r5, all_eq_true → vU
open Go.Act renaming put → kG, eval → sK
open Option renaming map_some → bL, bind_some → cU, isNone_iff_eq_none → lr
open Go.Oper renaming upon → lk, wp → pD, apart_spec → rK
open Prod.mk renaming injEq → dx
open Nat renaming le_refl → bP, lt_of_lt_of_le → aN, le_trans → af
open Go.Instr renaming sureAddr → jd, loadAt → gX
open Array renaming replicate → jK, getElem?_setIfInBounds_ne → jl, getElem?_eq_none → mO, toList_map → vV, any_eq_true' → tG, setIfInBounds_comm → pZ, getElem?_setIfInBounds → ff
open Go.Deferred renaming ofValue → vW
set_option linter.unusedVariables false
set_option linter.unusedSimpArgs false
namespace Go.bB
theorem qF {p:Prop} (h:p:=by first|assumption|exact bN.cells (by assumption)):p:=h
theorem qO {p:Prop} (h:p:=by first|assumption|exact Own.sl (by assumption)):p:=h
theorem qM {p:Prop} (h:p:=by first|exact mv0|exact mv1 (by assumption)|exact mv2 (by assumption) (by assumption)):p:=h
theorem qN {p:Prop} (h:p:=by simp only [Value.cells,nq1,nq2,nq3,nq4,nq5,nq6,cH,nq7,nq8,nq9,nq0,Nat.reduceAdd,Nat.zero_add];try rfl):p:=h
theorem qE {p:Prop} (h:p:=by repeat' first|with_reducible apply R0|with_reducible exact Vr|assumption|rfl|exact Sl.one (by assumption)|exact gq.one (by assumption)|exact Sl.one (Own.sl (by assumption))):p:=h
theorem qC {p:Prop} (h:p:=by first|rfl|assumption|exact Sl.one (by assumption)|exact gq.one (by assumption)|exact Sl.one (Own.sl (by assumption))):p:=h
theorem qR {p:Prop} (h:p:=by first|assumption|exact List.getElem?_eq_getElem (by omega)):p:=h
theorem qA {p:Prop} (h:p:=by first|assumption|exact Sl.mv (by assumption) qM|exact kH.mv (by assumption) qM|exact lA.mv (by assumption) qM|exact Rec.at.mv (by assumption) qM|exact Own.sl (by assumption)|exact Cells.mv (by assumption) qM|exact Cells.mv (bN.cells (by assumption)) qM|omega):p:=h
theorem kQ {p:Prop} (h:p:=by kernel_rfl):p:=h
theorem zQ {p:Prop} (h:p:=by omega):p:=h
abbrev Env:=Nat→Value
abbrev XS:=Nat→Prop
def lR (e:Env) (d:Nat) (v:Value):Env:=fun s=>match s==d with
 |true=>v
 |false=>e s
def Hj (e:Env) (d:Option Nat) (v:Value):Env:=match d with
 |some d=>lR e d v
 |none=>e
structure Fr (X:XS) (w w':World):Prop where
 os:w'.os=w.os
 tape:w'.tape=w.tape
 output:w'.output=w.output
 size:w.heap.size≤w'.heap.size
 block: ∀k,k<w.heap.size→ ¬X k→w'.heap[k]? =w.heap[k]?
def nX:XS:=fun _=>False
def Ext (w w':World):Prop:=Fr nX w w'
theorem Fr.refl (X:XS) (w:World):Fr X w w:=⟨rfl,rfl,rfl,bP _,fun _ _ _=>rfl⟩
theorem Fr.trans {X:XS} {a b c:World} (h:Fr X a b) (k:Fr X b c):Fr X a c:=
 ⟨k.os.trans h.os,k.tape.trans h.tape,k.output.trans h.output,af h.size k.size,
  fun i hi hx=>(k.block i (aN hi h.size) hx).trans (h.block i hi hx)⟩
theorem Fr.mono {X Y:XS} {a b:World} (h:Fr X a b) (hs: ∀k,X k→Y k):Fr Y a b:=
 ⟨h.os,h.tape,h.output,h.size,fun i hi hy=>h.block i hi fun hx=>hy (hs i hx)⟩
theorem Ext.refl (w:World):Ext w w:=Fr.refl _ _
theorem Ext.trans {a b c:World} (h:Ext a b) (k:Ext b c):Ext a c:=Fr.trans h k
theorem Ext.fr {a b:World} (h:Ext a b) (X:XS):Fr X a b:=Fr.mono h (fun _ hf=>hf.elim)
theorem Ext.size {a b:World} (h:Ext a b):a.heap.size≤b.heap.size:=Fr.size h
theorem Ext.block {a b:World} (h:Ext a b) {k:Nat} (hk:k<a.heap.size):b.heap[k]? =a.heap[k]? :=Fr.block h k hk (fun hf=>hf)
theorem Ext.aa5 {a b:World} (h:RowKit.Below a.heap.size a b):Ext a b:=⟨h.os,h.tape,h.output,h.size,fun k hk _=>h.block k hk⟩
theorem Ext.below {a b:World} (h:Ext a b):RowKit.Below a.heap.size a b:=⟨h.os,h.tape,h.output,Fr.size h,fun _ hk=>h.block hk⟩
theorem Ext.alloc (w:World) (o:Obj):Ext w (w.alloc o):=Ext.aa5 ((RowKit.Below.refl _ _).alloc (bP _) o)
theorem Ext.drew (w:World):Ext w { w with drawn:=w.drawn+1 } :=⟨rfl,rfl,rfl,bP _,fun _ _ _=>rfl⟩
structure Kp (X:XS) (w w':World):Prop where
 os:w'.os=w.os
 tape:w'.tape=w.tape
 output:w'.output=w.output
 size:w.heap.size≤w'.heap.size
 block: ∀k,X k→w'.heap[k]? =w.heap[k]?
theorem Kp.refl (X:XS) (w:World):Kp X w w:=⟨rfl,rfl,rfl,bP _,fun _ _=>rfl⟩
theorem Kp.trans {X:XS} {a b c:World} (h:Kp X a b) (k:Kp X b c):Kp X a c:=
 ⟨k.os.trans h.os,k.tape.trans h.tape,k.output.trans h.output,af h.size k.size,fun i hx=>(k.block i hx).trans (h.block i hx)⟩
theorem Kp.less {X Y:XS} {a b:World} (h:Kp X a b) (hs: ∀k,Y k→X k):Kp Y a b:=⟨h.os,h.tape,h.output,h.size,fun i hy=>h.block i (hs i hy)⟩
theorem Fr.kp {X Y:XS} {a b:World} (h:Fr X a b) (hy: ∀k,Y k→k<a.heap.size∧ ¬X k):Kp Y a b:=
 ⟨h.os,h.tape,h.output,h.size,fun i hi=>h.block i (hy i hi).1 (hy i hi).2⟩
theorem Ext.kp {X:XS} {a b:World} (h:Ext a b) (hx: ∀k,X k→k<a.heap.size):Kp X a b:=Fr.kp h fun k hk=>⟨hx k hk,fun hf=>hf⟩
def aR (w:World):XS:=fun k=>k<w.heap.size
theorem Kp.ext {a b:World} (h:Kp (aR a) a b):Ext a b:=⟨h.os,h.tape,h.output,h.size,fun k hk _=>h.block k hk⟩
theorem Ext.aR {a b:World} (h:Ext a b):Kp (aR a) a b:=h.kp fun _ hk=>hk
inductive Ex where
 |t (n:Nat)
 |c (v:Value)
 |s (b off n:Nat)
 |k (b off:Nat)
def cj (v:Value) (off n:Nat):Value:=.agg ((v.cells.toList.drop off).take n).toArray
def cellOf (v:Value) (i:Nat):Value:=v.cells.toList.getD i undef
def Ex.ev (env:Env):Ex→Value
 | .t n=>env n
 | .c v=>v
 | .s b off n=>cj (env b) off n
 | .k b off=>cellOf (env b) off
def Ex.R1:Ex→Nat→Bool
 | .t n,d=>n==d
 | .c _,_=>false
 | .s b _ _,d=>b==d
 | .k b _,d=>b==d
def look {α:Type} :List (Nat×α)→Nat→Option α
 |[],_=>none
 |(s,e)::r,t=>if s=t then some e else look r t
def Hk (env:Env) (ss:List (Nat×Ex)):Operand→Value
 | .tmp t=>match look ss t with
  |some e=>e.ev env
  |none=>env t
 | .const v=>v
 | .global g=>.pointer (some ⟨g,0,none⟩)
 | .func f=>.func (.func f) #[] #[]
def Oc (op:Op) (ty:TypeId):Oper:=⟨none,op,ty, "",#[],none⟩
def vS (s:Sem Value):Sem Next:=do pure (.value (←s))
def EG (f:Value) (args:Array Value):Sem Next:=do let d←vW f args;invoke d.target d.args
def uR (ρ:Operand→Value) (a:Array Operand):Array Value:=(a.toList.map ρ).toArray
def Xy (ρ:Operand→Value) (a:Array (Nat×Operand)):Array (Nat×Value):=(a.toList.map fun p=>(p.1,ρ p.2)).toArray
def PB (ρ:Operand→Value) (op:Op) (ty:TypeId):Sem Next:=match op with
 | .call ⟨.value (.func f),args,_⟩=>callFunc f (uR ρ args)
 | .call ⟨.value (.tmp t),args,_⟩=>EG (ρ (.tmp t)) (uR ρ args)
 | .call ⟨.builtin .len,args,ts⟩=>vS (Builtin.len_ ts ty (uR ρ args))
 | .call ⟨.builtin .cap,args,ts⟩=>vS (Builtin.cap_ ts ty (uR ρ args))
 | .call ⟨.builtin .min,args,ts⟩=>vS (Builtin.min_ ts ty (uR ρ args))
 | .call ⟨.builtin .max,args,ts⟩=>vS (Builtin.max_ ts ty (uR ρ args))
 | .call ⟨.builtin .append,args,ts⟩=>vS (Builtin.append_ ts ty (uR ρ args))
 | .call ⟨.builtin .copy,args,ts⟩=>vS (Builtin.copy_ ts ty (uR ρ args))
 | .call ⟨.builtin .delete,args,ts⟩=>vS (Builtin.delete_ ts ty (uR ρ args))
 | .call ⟨.builtin .clear,args,ts⟩=>vS (Builtin.clear_ ts ty (uR ρ args))
 | .call ⟨.builtin .panic,args,_⟩=>vS (Instr.panic ((uR ρ args).toList.getD 0 .nilIface))
 | .build t ps=>vS (Instr.build t (Xy ρ ps))
 | .buildSlice t n ps=>vS (Instr.buildSlice t n (Xy ρ ps))
 | .makeFunc fn a b=>vS (Instr.makeFunc fn (uR ρ a) (uR ρ b))
 |op=>execOp ρ (Oc op ty)
theorem ado (ρ:Operand→Value) (a:Array Operand):uR ρ a=a.map ρ:=by
 unfold uR;rw [←vV]
theorem adp (ρ:Operand→Value) (a:Array (Nat×Operand)):Xy ρ a=a.map fun p=>(p.1,ρ p.2):=by
 unfold Xy;rw [←vV]
theorem ZH (ρ:Operand→Value) (hρ: ∀f,ρ (.func f)= .func (.func f) #[] #[]) (op:Op) (ty:TypeId):PB ρ op ty=execOp ρ (Oc op ty):=by
 unfold PB;split<;>first
  |rfl
  |(simp [execOp,Oc,resolve,invoke,vW,ado,adp,vS,builtin,EG,hρ];done)
def cH (l:List Value) (off:Nat) (vs:List Value):List Value:=l.take off++vs++l.drop (off+vs.length)
def Rd (P:Program) (X:XS) (w:World) (s:Sem Next) (v:Value):Prop:= ∀wa,Kp X w wa→s.run P wa= .ok (.value v) wa
def kI (v:Value) (want:Bool):Bool:=match v with
 | .bool b=>b==want
 |_=>false
def cu:Value→Bool
 | .agg _=>true
 |_=>false
def one (v:Value):Bool:=match v with
 | .agg _| .tuple _=>false
 |_=>true
inductive TI where
 |Lo (b:Nat)
 |set (d:Nat) (e:Ex)
 |box (b n:Nat) (e:Ex)
 |put (b off n:Nat) (e:Ex)
 |C5 (b:Nat) (e:Ex)
 |R2 (b off:Nat) (e:Ex)
 |fill (b n:Nat) (e:Ex)
 |rd (d:Nat) (op:Op) (ty:TypeId) (ss:List (Nat×Ex))
 |zP (d:Option Nat) (op:Op) (ty:TypeId) (ss:List (Nat×Ex)) (m:Bool)
 |R3 (g:Nat) (want:Bool) (d:Nat) (e:Ex)
 |ZI (g:Nat) (want:Bool) (d:Nat) (op:Op) (ty:TypeId) (ss:List (Nat×Ex))
 |R4 (g:Nat) (want:Bool) (d:Option Nat) (op:Op) (ty:TypeId) (ss:List (Nat×Ex)) (m:Bool)
inductive T where
 |PC (l:List TI)
 |seq (a b:T)
 |ite (e:Ex) (a b:T)
 |alt (a b:T)
 |dP (id:Nat) (a:T)
 |loop (M C:List Nat) (a:T)
 |exit (id:Nat)
 |ret
 |skip
def grow (X:XS) (w w':World):XS:=fun k=>X k∨(w.heap.size≤k∧k<w'.heap.size)
def Step (m:Bool) (X:XS) (w w':World):Prop:=if m then Fr X w w' else Ext w w'
theorem Step.fr {m:Bool} {X:XS} {w w':World} (h:Step m X w w'):Fr X w w':=by
 unfold Step at h;split at h
 ·exact h
 ·exact h.fr X
theorem Step.fG {m:Bool} {X:XS} {w w':World} (h:Ext w w'):Step m X w w':=by
 unfold Step;split
 ·exact h.fr X
 ·exact h
def jy (P:Program) (m:Bool) (X:XS) (w:World) (next:Value→World→XS→Prop) (iA:List PanicEntry→World→XS→Prop):Result Next→Prop
 | .ok (.value v) w'=>Step m X w w'∧next v w' (grow X w w')
 | .ok .skip w'=>Step m X w w'∧next undef w' (grow X w w')
 | .ok (.enter f args) w'=>w'=w∧Calls P f args w fun
   | .returned v,nj=>Step m X w nj∧next v nj (grow X w nj)
   | .panicked ch,nj=>Step m X w nj∧iA ch nj (grow X w nj)
   | .outgrown,_=>False
 | .halt (.panic v) w'=>Step m X w w'∧iA [{ v,recovered:=false }] w' (grow X w w')
 |_=>False
def aI (b:Bool) (N:Prop):Prop:=match b with
 |true=>N
 |false=>False
theorem fe {b:Bool} {N:Prop} :aI b N↔b=true∧N:=by cases b<;>simp [aI]
def au (v:Value) (A B:Prop):Prop:=match v with
 | .bool t=>(t=true→A)∧(t=false→B)
 |_=>False
def R5 (P:Program) (iA:List PanicEntry→Env→World→XS→Prop) (next:Env→World→XS→Prop) (env:Env) (w:World) (X:XS):TI→Prop
 | .Lo b=>aI (cu (env b)) (next env w X)
 | .set d e=>next (lR env d (e.ev env)) w X
 | .box b n e=>aI ((e.ev env).cells.toList.length==n) (next (lR env b (.agg (e.ev env).cells)) w X)
 | .put b off n e=>aI ((e.ev env).cells.toList.length==n) (aI ((e.ev env).cells.toList.all one)
   (next (lR env b (.agg (cH (env b).cells.toList off (e.ev env).cells.toList).toArray)) w X))
 | .C5 b e=>aI (one (e.ev env)) (next (lR env b (.agg #[e.ev env])) w X)
 | .R2 b off e=>aI (one (e.ev env)) (next (lR env b (.agg (cH (env b).cells.toList off [e.ev env]).toArray)) w X)
 | .fill b n e=>aI ((e.ev env).cells.toList.length==n) (aI ((e.ev env).cells.toList.all one) (next (lR env b (.agg (e.ev env).cells)) w X))
 | .rd d op ty ss=> ∃v,Rd P X w (PB (Hk env ss) op ty) v∧next (lR env d v) w X
 | .zP d op ty ss m=> ∀wa,Kp X w wa→
   jy P m X wa (fun v w' X'=>next (Hj env d v) w' X') (fun ch w' X'=>iA ch env w' X') ((PB (Hk env ss) op ty).run P wa)
 | .R3 g want d e=>next (lR env d (if kI (env g) want then e.ev env else undef)) w X
 | .ZI g want d op ty ss=> ∃v,(kI (env g) want=true→Rd P X w (PB (Hk env ss) op ty) v)∧(kI (env g) want=false→v=undef)∧
   next (lR env d v) w X
 | .R4 g want d op ty ss m=>
   (kI (env g) want=true→ ∀wa,Kp X w wa→
    jy P m X wa (fun v w' X'=>next (Hj env d v) w' X') (fun ch w' X'=>iA ch env w' X') ((PB (Hk env ss) op ty).run P wa))∧
   (kI (env g) want=false→next (Hj env d undef) w X)
def gP (P:Program) (iA:List PanicEntry→Env→World→XS→Prop) (next:Env→World→XS→Prop):List TI→Env→World→XS→Prop
 |[],env,w,X=>next env w X
 |i::l,env,w,X=>R5 P iA (gP P iA next l) env w X i
abbrev nF:=Exit→Env→World→XS→Prop
def nF.Wn (next:Env→World→XS→Prop) (K:nF):nF
 | .normal,e,w,X=>next e w X
 |ex,e,w,X=>K ex e w X
def nF.dP (id:Nat) (K:nF):nF
 | .exit i,e,w,X=>if i=id then K .normal e w X else K (.exit i) e w X
 |ex,e,w,X=>K ex e w X
def Kr (M:List Nat) (s:Nat):Bool:=match M with
 |[]=>false
 |x::r=>x==s||Kr r s
theorem Od {s:Nat} : ∀{M:List Nat},Kr M s=true↔s∈M
 |[]=>by simp [Kr]
 |x::r=>by
  simp only [Kr,iU,beq_iff_eq,Od (M:=r),gp];exact⟨fun h=>h.imp Eq.symm id,fun h=>h.imp Eq.symm id⟩
def merge (M:List Nat) (e env:Env):Env:=fun s=>match Kr M s with
 |true=>e s
 |false=>env s
def den (P:Program):T→nF→Env→World→XS→Prop
 | .PC l,K,env,w,X=>gP P (fun ch=>K (.panic ch)) (fun e w X=>K .normal e w X) l env w X
 | .seq a b,K,env,w,X=>den P a (nF.Wn (fun e w X=>den P b K e w X) K) env w X
 | .ite e a b,K,env,w,X=>au (e.ev env) (den P a K env w X) (den P b K env w X)
 | .alt a b,K,env,w,X=>And (den P a K env w X) (den P b K env w X)
 | .dP id a,K,env,w,X=>den P a (nF.dP id K) env w X
 | .loop M C a,K,env,w,X=> ∃J:Nat→List Value→World→XS→Prop,(∃n,J n (C.map env) w X)∧
   ∀n (e:Env) w' X',(∀k,X k→X' k)→J n (C.map e) w' X'→den P a (nF.Wn (fun e' nj r6=> ∃m,m<n∧J m (C.map e') nj r6) K) (merge M e env) w' X'
 | .exit id,K,env,w,X=>K (.exit id) env w X
 | .ret,K,env,w,X=>K .ret env w X
 | .skip,K,env,w,X=>K .normal env w X
structure bu where
 n:Nat
 boxes:List (Nat×Nat)
 PD:List Nat
 sL:List Nat
 mat:List Nat
 car:List Nat
def bu.kJ (pl:bu) (s:Nat):Bool:=pl.sL.contains s&&decide (s<pl.n)&&(look pl.boxes s).isNone&&!pl.PD.contains s
def bu.kK (pl:bu) (d:Nat):Bool:=decide (d<pl.n)&&(look pl.boxes d).isNone&&!pl.PD.contains d
structure Ptr where
 s:Nat
 b:Nat
 off:Nat
 g:Option (Nat×Bool)
structure CS where
 sig:List (Nat×Ex)
 uT:List Ptr
 live:List Nat
def CS.start:CS:=⟨[],[],[]⟩
def valOf (pl:bu) (cs:CS):Operand→Option Ex
 | .tmp t=>if pl.kJ t then some (.t t)else look cs.sig t
 | .const v=>some (.c v)
 | .global g=>some (.c (.pointer (some ⟨g,0,none⟩)))
 | .func f=>some (.c (.func (.func f) #[] #[]))
def DF (og:Option (Nat×Bool)):List Ptr→Nat→Option (Nat×Nat)
 |[],_=>none
 |p::r,t=>if p.s=t then(if p.g.isNone||p.g==og then some (p.b,p.off)else none)else DF og r t
def sa (pl:bu) (cs:CS) (og:Option (Nat×Bool)):Operand→Option (Nat×Nat×List Nat)
 | .tmp t=>match look pl.boxes t with
  |some _=>some (t,0,if cs.live.contains t then [] else [t])
  |none=>if pl.PD.contains t then(DF og cs.uT t).map fun (b,off)=>(b,off,[])else none
 |_=>none
def CS.kill (cs:CS) (d:Nat):CS:=
 ⟨cs.sig.filter fun p=>p.1 !=d&&!p.2.R1 d,cs.uT.filter fun p=>p.b !=d&&p.s !=d&&(match p.g with|some (g,_)=>g !=d|none=>true),cs.live⟩
def CS.I4 (cs:CS) (b:Nat):CS:=⟨cs.sig.filter fun p=>!p.2.R1 b,cs.uT,cs.live⟩
def CS.bind (cs:CS) (pl:bu) (d:Nat):CS:=let c:=cs.kill d;if pl.kJ d then c else { c with sig:=(d,.t d)::c.sig }
def CS.note (cs:CS) (d:Nat) (e:Ex):CS:= { cs with sig:=(d,e)::cs.sig.filter (fun p=>p.1 !=d),uT:=cs.uT.filter fun p=>p.s !=d }
def CS.jV (cs:CS) (d b off:Nat) (g:Option (Nat×Bool)):CS:=
 { cs with sig:=cs.sig.filter (fun p=>p.1 !=d),uT:=⟨d,b,off,g⟩::(cs.uT.filter fun p=>p.s !=d) }
def CS.jW (cs:CS) (l:List Nat):CS:= { cs with live:=l++cs.live }
def od (pl:bu) (cs:CS) (d:Nat) (e:Ex):List TI×CS:=
 if pl.kJ d||pl.mat.contains d then([.set d e],cs.bind pl d)else([],cs.note d e)
def fieldInfo (P:Program) (S f:Nat):Option (Nat×Nat):=
 match P.underlying S with
 |some (.struct fs)=>(fs[f]?).bind fun x=>(P.info? x.type).map fun i=>(x.offset,i.size)
 |_=>none
def subst (pl:bu) (cs:CS):List Operand→Option (List (Nat×Ex))
 |[]=>some []
 | .tmp t::r=>match valOf pl cs (.tmp t),subst pl cs r with
  |some e,some ss=>some (match e with
   | .t n=>if n=t then ss else(t,e)::ss
   |_=>(t,e)::ss)
  |_,_=>none
 |_::r=>subst pl cs r
def R6 (P:Program) (t:Nat):Bool:=match P.underlying t with
 |some (.slice _)=>true
 |_=>false
def aht (P:Program):Op→Bool
 | .pick .. | .nilCheck _| .binOp .. | .unOp .. | .fieldAddr .. | .field .. | .indexAddr .. | .index .. | .extract .. | .slice .. | .build .. | .makeFunc ..
 | .makeInterface .. | .load .. | .lookup .. | .typeAssert .. | .move _| .assign _=>true
 | .convert s d _=>!R6 P s&&!R6 P d
 | .call { callee:=.builtin b,.. } =>match b with
  | .len| .cap| .min| .max=>true
  |_=>false
 |_=>false
structure CR where
 fl:Bool
 nd:List Nat
 l:List TI
 cs:CS
 rb:List Nat
 sb:List Nat
def EH:Op→Bool
 | .select .. =>false
 |_=>true
def Co (P:Program) (pl:bu) (cs:CS) (m:Bool) (o:Oper):Option CR:=
 match subst pl cs o.op.operands.toList with
 |none=>none
 |some ss=>if !EH o.op then none else
  match o.dst with
  |some d=>if !pl.kK d then none else
   if aht P o.op then some ⟨true,[],[.rd d o.op o.type ss],cs.bind pl d,[],[]⟩else some ⟨false,[],[.zP (some d) o.op o.type ss m],cs.bind pl d,[],[]⟩
  |none=>some ⟨false,[],[.zP none o.op o.type ss m],cs,[],[]⟩
def je (P:Program) (t:Nat):Option (Bool×Nat):=
 match P.underlying t,P.info? t with
 |some d,some i=>some ((match d with| .struct _| .array _ _=>true|_=>false),i.size)
 |_,_=>none
def R7 (P:Program) (pl:bu) (cs:CS) (sz:Nat) (t:Nat) (e:Ex) (d:Nat):Option CR:=
 match je P t with
 |some (ag,s)=>if decide (d<pl.n)&&s==sz then some ⟨false,[],[if !ag&&s==1 then .C5 d e else .box d sz e],(cs.kill d).jW [d],[],[]⟩else none
 |none=>none
def AG (P:Program) (pl:bu) (cs:CS) (og:Option (Nat×Bool)) (m:Bool) (o:Oper):Option CR:=
 match o.op with
 | .move x| .assign x=>match o.dst,valOf pl cs x with
  |some d,some e=>if pl.kK d then(let r:=od pl cs d e;some ⟨true,[],r.1,r.2,[],[]⟩)else none
  |_,_=>none
 | .box t x=>match o.dst with
  |some d=>match look pl.boxes d with
   |some sz=>match valOf pl cs x with
    |some e=>R7 P pl cs sz t e d
    |none=>none
   |none=>Co P pl cs m o
  |none=>none
 | .alloc t=>match o.dst with
  |some d=>match look pl.boxes d with
   |some sz=>match(P.info? t).bind (·.zero)with
    |some z=>R7 P pl cs sz t (.c z) d
    |none=>none
   |none=>Co P pl cs m o
  |none=>none
 | .fieldAddr S x f=>match sa pl cs og x with
  |some (b,off,nd)=>match o.dst,fieldInfo P S f with
   |some d,some (fo,sz)=>if pl.PD.contains d&&decide (d<pl.n)&&(look pl.boxes d).isNone&&sz !=0 then
     some ⟨true,nd,[],(cs.jW nd).jV d b (off+fo) og,[],[]⟩else none
   |_,_=>none
  |none=>Co P pl cs m o
 | .load t x=>match sa pl cs og x with
  |some (b,off,nd)=>match o.dst,je P t,look pl.boxes b with
   |some d,some (ag,sz),some bs=>if pl.kK d&&decide (off+sz≤bs)&&(ag||sz==1)then
     (let r:=od pl (cs.jW nd) d (if ag then .s b off sz else .k b off);some ⟨true,nd,r.1,r.2,[b],[]⟩)else none
   |_,_,_=>none
  |none=>Co P pl cs m o
 | .store t x v=>match sa pl cs og x with
  |some (b,off,nd)=>match o.dst,valOf pl cs v,je P t,look pl.boxes b with
   |none,some e,some (ag,sz),some bs=>if decide (off+sz≤bs)then
     some ⟨false,nd,[if !ag&&sz==1 then .R2 b off e else if off==0&&sz==bs then .fill b sz e else .put b off sz e],(cs.jW nd).I4 b,[],[b]⟩else none
   |_,_,_,_=>none
  |none=>Co P pl cs m o
 |_=>Co P pl cs m o
def aa6:Op→Bool
 | .fieldAddr .. =>true
 |_=>false
def mR (g:Nat) (want:Bool) (op:Op) (r:CR):Option CR:=
 match r.fl,r.l with
 |true,[]=>if aa6 op then some r else none
 |true,[.set d e]=>if d=g then none else some { r with l:=[.R3 g want d e] }
 |true,[.rd d op ty ss]=>if d=g then none else some { r with l:=[.ZI g want d op ty ss] }
 |false,[.zP d op ty ss m]=>if d=some g then none else some { r with l:=[.R4 g want d op ty ss m] }
 |_,_=>none
def xN (P:Program) (pl:bu) (cs:CS) (ops:Array Oper) (m:Bool) (o:Oper):Option CR:=
 match o.guard with
 |none=>AG P pl cs none m o
 |some (j,want)=>match(ops[j]?).bind (·.dst)with
  |none=>none
  |some gs=>match valOf pl cs (.tmp gs)with
   |some (.t g)=>(AG P pl cs (some (g,want)) m o).bind (mR g want o.op)
   |_=>none
def CR.all (r:CR):List TI:=r.nd.map .Lo++r.l
def Lp (P:Program) (pl:bu) (ops:Array Oper):List Oper→CS→Option (List TI)
 |[],_=>some []
 |o::r,cs=>match xN P pl cs ops true o with
  |some x=>(Lp P pl ops r x.cs).map (x.all++ ·)
  |none=>none
def waits (o:Oper) (i:Nat):Bool:=o.after.any fun e=>qJ .any e&&e.on==i
def XB (ops:Array Oper) (bO:Array Bool) (S:List Nat) (j:Nat):Bool:=!bO.getD j true&&match ops[j]? with
 |some o=>o.after.any fun e=>qJ .any e&&S.contains e.on
 |none=>false
def C6 (ops:Array Oper) (bO:Array Bool) (i:Nat):List Nat:=(dg ops.size).foldl (fun S j=>if XB ops bO S j then j::S else S) [i]
def ahu (ops:Array Oper) (j:Nat):List Nat:=
 (dg (j+1)).reverse.foldl (fun S k=>if S.contains k then(match ops[k]? with
  |some o=>o.after.toList.foldl (fun S e=>if qJ .any e&&!S.contains e.on then e.on::S else S) S
  |none=>S)else S) [j]
def yI (o:Oper):Bool:=match o.op with
 | .extract .. =>true
 | .move .. =>true
 |_=>false
def ldX (pl:bu) (o:Oper):Bool:=match o.op with
 | .load _ (.tmp x)=>(look pl.boxes x).isSome
 |_=>false
def PE (o:Oper) (rb:List Nat):Bool:=match o.op with
 | .load _ (.tmp x)=>rb.contains x
 |_=>false
def aet (o:Oper):Bool:=match o.op with
 | .alloc _=>true
 |_=>false
def mX (pl:bu) (ops:Array Oper) (j:Nat):Bool:=
 match ops[j]? with
 |some oj=>(match oj.dst with|some d=>pl.mat.contains (1000000+d)|none=>false)||((dg ops.size).all fun i=>i==j||waits oj i||(match ops[i]? with
  |some oi=>waits oi j||yI oi||ldX pl oi||aet oi
  |none=>true))||(let B:=ahu ops j++C6 ops (jK ops.size false) j;(dg ops.size).all fun i=>B.contains i||(match ops[i]? with
  |some oi=>yI oi||ldX pl oi||aet oi
  |none=>true))
 |none=>false
def ZJ (pl:bu) (ops:Array Oper):Nat→Operand→Option Nat
 |0,_=>none
 |n+1,.tmp t=>match look pl.boxes t with
  |some _=>some t
  |none=>match ops.find? (fun o=>o.dst==some t)with
   |some o=>(match o.op with
    | .fieldAddr _ x _=>ZJ pl ops n x
    |_=>none)
   |none=>none
 |_+1,_=>none
def rL (pl:bu) (ops:Array Oper) (o:Oper):List Nat:=match o.op with
 | .store _ x _=>(ZJ pl ops 6 x).toList
 |_=>[]
def I5 (pl:bu) (ops:Array Oper) (bO:Array Bool) (i:Nat) (rb:List Nat):Bool:=
 match ops[i]? with
 |none=>false
 |some oi=>(match oi.dst with
   |some d=>(look pl.boxes d).isNone
   |none=>true)&&(dg ops.size).all fun j=>j==i||bO.getD j true||match ops[j]? with
   |some oj=>waits oj i||(oi.apart ops oj&&(yI oi||PE oi rb||!mX pl ops j)&&(rL pl ops oj).all fun b=>!rb.contains b)||(C6 ops bO i).contains j
   |none=>true
def yl (P:Program) (pl:bu) (ops:Array Oper) (cs:CS) (bO:Array Bool):List Nat→Option (Nat×CR)
 |[]=>none
 |i::r=>match(ops[i]?).bind (xN P pl cs ops (mX pl ops i))with
  |some x=>if x.fl&&I5 pl ops bO i x.rb then some (i,x)else yl P pl ops cs bO r
  |none=>yl P pl ops cs bO r
def EI (P:Program) (pl:bu) (o:Oper):Option (Nat×Nat×Bool×Value):=match o.guard,o.op,o.dst with
 |none,.alloc t,some d=>match look pl.boxes d,(P.info? t).bind (·.zero),je P t with
  |some sz,some z,some (ag,s)=>if decide (d<pl.n)&&s==sz then some (d,sz,!ag&&s==1,z)else none
  |_,_,_=>none
 |_,_,_=>none
def vX:Nat×Nat×Bool×Value→TI
 |(d,sz,one,z)=>if one then .C5 d (.c z)else .box d sz (.c z)
def ta (cs:CS) (d:Nat):CS:=(cs.kill d).jW [d]
def XC (l:List Nat) (i:Nat):Bool:=match l with
 |[x]=>x==i
 |_=>false
def acS (P:Program) (pl:bu) (ops:Array Oper) (bO:Array Bool) (i j:Nat):Option (Nat×Nat×Bool×Value):=
 match(ops[i]?).bind (EI P pl),(ops[j]?).bind (EI P pl)with
 |some bi,some bj=>if !(bi.1==bj.1)&&XC (gk .any ops (bO.setIfInBounds i true)) j&&XC (gk .any ops (bO.setIfInBounds j true)) i then some bi else none
 |_,_=>none
def tc (P:Program) (pl:bu) (ops:Array Oper):Nat→Array Bool→CS→Option (List TI)
 |0,bO,_=>if(gk .any ops bO).isEmpty then some [] else none
 |fuel+1,bO,cs=>
  match yl P pl ops cs bO (gk .any ops bO)with
  |some (i,x)=>(tc P pl ops fuel (bO.setIfInBounds i true) x.cs).map (x.all++ ·)
  |none=>match gk .any ops bO with
   |[i]=>match ops[i]? with
    |some o=>match xN P pl cs ops (mX pl ops i) o with
     |some x=>if x.sb.all fun b=>(rL pl ops o).contains b then(tc P pl ops fuel (bO.setIfInBounds i true) x.cs).map (x.all++ ·)else none
     |none=>none
    |none=>none
   |[i,j]=>match acS P pl ops bO i j with
    |some b=>(tc P pl ops fuel (bO.setIfInBounds i true) (ta cs b.1)).map (vX b:: ·)
    |none=>none
   |_=>none
def Oe:List Nat→(Nat→Option T)→Option T
 |[],_=>none
 |i::r,f=>match r with
  |[]=>f i
  |j::r=>match f i,Oe (j::r) f with
   |some a,some b=>some (.alt a b)
   |_,_=>none
def y5 (P:Program) (pl:bu) (ops:Array Oper):Nat→Array Bool→CS→Option T
 |0,bO,_=>if(gk .any ops bO).isEmpty then some .skip else none
 |fuel+1,bO,cs=>
  match yl P pl ops cs bO (gk .any ops bO)with
  |some (i,x)=>(y5 P pl ops fuel (bO.setIfInBounds i true) x.cs).map (.seq (.PC x.all) ·)
  |none=>Oe (gk .any ops bO) fun i=>match ops[i]? with
   |some o=>match xN P pl cs ops (mX pl ops i) o with
    |some x=>if x.sb.all fun b=>(rL pl ops o).contains b then(y5 P pl ops fuel (bO.setIfInBounds i true) x.cs).map (.seq (.PC x.all) ·)else none
    |none=>none
   |none=>none
def TI.FW:TI→List Nat
 | .set d _=>[d]
 | .box b _ _=>[b]
 | .C5 b _=>[b]
 | .rd d _ _ _=>[d]
 | .zP d _ _ _ _=>d.toList
 | .R3 _ _ d _=>[d]
 | .ZI _ _ d _ _ _=>[d]
 | .R4 _ _ d _ _ _ _=>d.toList
 |_=>[]
def ll (l:List TI):List Nat:=l.flatMap TI.FW
def TI.wr:TI→List Nat
 | .Lo _=>[]
 | .set d _=>[d]
 | .box b _ _=>[b]
 | .put b _ _ _=>[b]
 | .C5 b _=>[b]
 | .R2 b _ _=>[b]
 | .fill b _ _=>[b]
 | .rd d _ _ _=>[d]
 | .zP d _ _ _ _=>d.toList
 | .R3 _ _ d _=>[d]
 | .ZI _ _ d _ _ _=>[d]
 | .R4 _ _ d _ _ _ _=>d.toList
def T.wr:T→List Nat
 | .PC l=>l.flatMap TI.wr
 | .seq a b=>a.wr++b.wr
 | .ite _ a b=>a.wr++b.wr
 | .alt a b=>a.wr++b.wr
 | .dP _ a=>a.wr
 | .loop M _ a=>M++a.wr
 |_=>[]
def T.mk:T→List Nat
 | .PC l=>ll l
 | .seq a b=>a.mk++b.mk
 | .ite _ a b=>a.mk++b.mk
 | .alt a b=>a.mk++b.mk
 | .dP _ a=>a.mk
 | .loop _ _ a=>a.mk
 |_=>[]
def qa:List Nat→List Nat→List Nat
 |[],acc=>acc
 |x::r,acc=>qa r (if acc.contains x then acc else x::acc)
def lB (P:Program) (pl:bu):Code→Option T
 | .skip=>some .skip
 | .region _ ops draw=>if draw then(if P.follows .mixedOrders&&rJ ops then(match tc P pl ops ops.size (jK ops.size false) .start with
  |some l=>some (.PC l)
  |none=>y5 P pl ops ops.size (jK ops.size false) .start)else none)else(Lp P pl ops ops.toList .start).map .PC
 | .seq a b=>match lB P pl a,lB P pl b with
  |some x,some y=>some (match x,y with
   | .skip,y=>y
   |x,.skip=>x
   |x,y=>.seq x y)
  |_,_=>none
 | .cond c a b=>match valOf pl .start c,lB P pl a,lB P pl b with
  |some e,some x,some y=>some (.ite e x y)
  |_,_,_=>none
 | .block id a=>(lB P pl a).map (.dP id)
 | .loop a=>(lB P pl a).map fun x=>.loop (qa x.wr []) ((qa x.wr []).filter (Kr pl.car)) x
 | .exit id=>some (.exit id)
 | .ret=>some .ret
 |_=>none
def C7 (P:Program) (pl:bu):List ResultVar→Option (List Ex×List Nat)
 |[]=>some ([],[])
 | .tmp t::r=>if pl.kJ t then(C7 P pl r).map fun (l,n)=>(.t t::l,n)else none
 | .cell a t::r=>match look pl.boxes a,je P t with
  |some bs,some (ag,sz)=>if decide (sz≤bs)&&(ag||sz==1)then(C7 P pl r).map fun (l,n)=>((if ag then .s a 0 sz else .k a 0)::l,a::n)else none
  |_,_=>none
structure FT where
 code:T
 res:List Ex
 live:List Nat
def cF (P:Program) (pl:bu) (fn:Func):Option FT:=
 if fn.ntmps==pl.n then
  match fn.body with
  |some c=>match lB P pl c,C7 P pl fn.results.toList with
   |some t,some (r,n)=>some ⟨t,r,n⟩
   |_,_=>none
  |none=>none
 else none
def aa7 (l:List Ex) (env:Env):Value:=match l with
 |[e]=>e.ev env
 |l=>.tuple (l.map (·.ev env)).toArray
def aa8 (ft:FT) (R:Ending→World→Prop):nF
 | .normal,e,w,X| .ret,e,w,X=>aI (ft.live.all fun b=>cu (e b)) (∀wa,Kp X w wa→R (.returned (aa7 ft.res e)) wa)
 | .panic ch,_,w,X=> ∀wa,Kp X w wa→R (.panicked ch) wa
 |_,_,_,_=>False
def Cp (args:Array Value):Env:=fun i=>args.toList.getD i undef
section
variable {P : Program} {ops : Array Oper} {Q : Exit → Act → World → Prop}
def gu (k off:Nat):Value:=.pointer (some ⟨k,off,none⟩)
def ZB (pl:bu) (RB:List Nat) (a:Act):XS:=fun k=> ∃b n,look pl.boxes b=some n∧ ¬b∈RB∧a.tmps[b]? =some (gu k 0)
def YF (P:Program) (pl:bu) (RB:List Nat) (ops:Array Oper) (o:Oper) (v:Value) (a:Act) (w:World):Prop:=
 (dS o (yielded ops a.tmps)=true∧ ∀wa,Fr (ZB pl RB a) w wa→(execOp a.eval o).run P wa= .ok (.value v) wa)∨(dS o (yielded ops a.tmps)=false∧v=undef)
def nG (pl:bu) (sb:List Nat) (a:Act) (w:World) (a':Act) (w':World):Prop:=
 ∀RB,(∀b,b∈sb→ ¬b∈RB)→Fr (ZB pl RB a) w w'∧ ∀k,k<w.heap.size→ZB pl RB a' k→ZB pl RB a k
theorem YF.rel {pl:bu} {RB sb:List Nat} {o:Oper} {v:Value} {a a':Act} {w w':World} (h:YF P pl RB ops o v a w) (hx:nG pl sb a w a' w') (hd: ∀b,b∈sb→ ¬b∈RB)
  (he:execOp a'.eval o=execOp a.eval o) (hw:dS o (yielded ops a'.tmps)=dS o (yielded ops a.tmps)):YF P pl RB ops o v a' w':=by
 obtain⟨h1,h2⟩:=hx RB hd;unfold YF at*;rw [he,hw];refine h.imp (fun ⟨g1,g2⟩=>⟨g1,fun wa ha=>g2 wa ?_⟩) id;exact⟨ha.os.trans h1.os,ha.tape.trans h1.tape,ha.output.trans h1.output,af h1.size ha.size,
  fun k hk hz=>(ha.block k (aN hk h1.size) (fun A9=>hz (h2 k hk A9))).trans (h1.block k hk hz)⟩
def uU (pl:bu) (sb:List Nat) (a:Act) (w w':World):Prop:=
 ∀b n k,look pl.boxes b=some n→ ¬b∈sb→a.tmps[b]? =some (gu k 0)→w'.heap[k]? =w.heap[k]?
def uV (L:Prop) (pl:bu) (sb:List Nat) (a:Act) (w:World) (a':Act) (w':World):Prop:=(L→nG pl sb a w a' w')∧uU pl sb a w w'
def Yx (P:Program) (ops:Array Oper) (o:Oper) (v:Value) (a:Act) (w:World):Prop:=
 (dS o (yielded ops a.tmps)=true∧(execOp a.eval o).run P w= .ok (.value v) w)∨(dS o (yielded ops a.tmps)=false∧v=undef)
def YL (P:Program) (pl:bu) (x:Nat) (ops:Array Oper) (o:Oper) (v:Value) (a:Act) (w:World):Prop:=
 (dS o (yielded ops a.tmps)=true∧ ∃k n,look pl.boxes x=some n∧a.tmps[x]? =some (gu k 0)∧ ∀wa:World,wa.heap[k]? =w.heap[k]? →(execOp a.eval o).run P wa= .ok (.value v) wa)∨
  (dS o (yielded ops a.tmps)=false∧v=undef)
theorem YF.yx {pl:bu} {RB:List Nat} {o:Oper} {v:Value} {a:Act} {w:World} (h:YF P pl RB ops o v a w):Yx P ops o v a w:=h.imp (fun ⟨g1,g2⟩=>⟨g1,g2 w (Fr.refl _ w)⟩) id
theorem YL.yx {pl:bu} {x:Nat} {o:Oper} {v:Value} {a:Act} {w:World} (h:YL P pl x ops o v a w):Yx P ops o v a w:=h.imp (fun ⟨g1,_,_,_,_,g2⟩=>⟨g1,g2 w rfl⟩) id
def R8 (pl:bu) (ops:Array Oper) (oi oj:Oper) (L:Prop) (sb:List Nat) (Y:Act→World→Prop):Prop:=
 ∀a a' w w',uV L pl sb a w a' w'→execOp a'.eval oi=execOp a.eval oi→dS oi (yielded ops a'.tmps)=dS oi (yielded ops a.tmps)→
  (∀x:Nat,(∀d,oj.dst=some d→d≠x)→a'.tmps[x]? =a.tmps[x]?)→Y a w→Y a' w'
theorem uU.refl (pl:bu) (sb:List Nat) (a:Act) (w:World):uU pl sb a w w:=fun _ _ _ _ _ _=>rfl
theorem uU.R9 {pl:bu} {sb:List Nat} {a:Act} {w w':World} {d:Option Nat} {v:Value} (hd: ∀x,d=some x→look pl.boxes x=none) (h:uU pl sb (a.put d v) w w'):uU pl sb a w w':=by
 intro b n k hb hn hk;refine h b n k hb hn ?_;cases d with
 |none=>exact hk
 |some x=>
  have cn:x≠b:=fun e=>by subst e;rw [hd x rfl] at hb;cases hb
  simpa [kG,jl cn] using hk
theorem uU.sub {pl:bu} {sb ZK:List Nat} {a:Act} {w w':World} (h:uU pl sb a w w') (hs: ∀b,b∈sb→b∈ZK):uU pl ZK a w w':=
 fun b n k hb hn hk=>h b n k hb (fun hm=>hn (hs b hm)) hk
theorem Yx.wpOp {i:Nat} {o:Oper} {v:Value} {a:Act} {w:World} (hi:ops[i]? =some o) (hy:Yx P ops o v a w)
  {K:Act→World→Prop} (h:K (a.put o.dst v) w):wpOp P ops Q i K a w:=by
 unfold Go.wpOp;simp only [hi];rcases hy with⟨hw,hv⟩|⟨hw,rfl⟩
 ·simp only [hw,if_true,pD,hv,lk];exact .inl h
 ·simp only [hw,bc,if_false];exact h
theorem Sa {pl:bu} {RB:List Nat} {a:Act} {d:Option Nat} {v:Value} (hd: ∀x,d=some x→look pl.boxes x=none):ZB pl RB (a.put d v)=ZB pl RB a:=by
 cases d with
 |none=>rfl
 |some x=>
  have hx:=hd x rfl
  funext k
  simp only [ZB,eq_iff_iff];have key: ∀b n,look pl.boxes b=some n→(a.put (some x) v).tmps[b]? =a.tmps[b]? :=fun b n hb=>by
   have cn:x≠b:=fun e=>by subst e;rw [hx] at hb;cases hb
   simp [kG,jl cn]
  constructor<;>rintro⟨b,n,h1,h2,h3⟩<;>refine⟨b,n,h1,h2,?_⟩
  ·rwa [key b n h1] at h3
  ·rwa [key b n h1]
theorem nG.R9 {pl:bu} {sb:List Nat} {a a':Act} {w w':World} {d:Option Nat} {v:Value} (hd: ∀x,d=some x→look pl.boxes x=none) (h:nG pl sb (a.put d v) w (a'.put d v) w'):nG pl sb a w a' w':=by
 intro RB ZL;have:=h RB ZL
 rwa [Sa hd,Sa hd] at this
theorem nG.refl (pl:bu) (sb:List Nat) (a:Act) (w:World) (d:Option Nat) (v:Value) (hd: ∀x,d=some x→look pl.boxes x=none):nG pl sb a w (a.put d v) w:=by
 intro RB _;rw [Sa hd];exact⟨Fr.refl _ _,fun _ _ h=>h⟩
theorem ZM {o:Oper} (hp:yI o=true) {ρ:Operand→Value} {v:Value} {w wa:World} (h:(execOp ρ o).run P w= .ok (.value v) w):(execOp ρ o).run P wa= .ok (.value v) wa:=by
 unfold yI at hp;split at hp
 ·rename_i x i ho;simp only [execOp,ho] at h⊢;unfold Instr.extract at h⊢;split at h<;>simp_all
  all_goals (split at h<;>simp_all)
 ·rename_i x ho;simp only [execOp,ho] at h⊢;simp_all
 ·cases hp
theorem YF.pure {pl:bu} {RB:List Nat} {o:Oper} {v:Value} {a a':Act} {w w':World} (h:YF P pl RB ops o v a w) (hp:yI o=true)
  (he:execOp a'.eval o=execOp a.eval o) (hw:dS o (yielded ops a'.tmps)=dS o (yielded ops a.tmps)):YF P pl RB ops o v a' w':=by
 unfold YF at*;rw [he,hw];exact h.imp (fun ⟨g1,g2⟩=>⟨g1,fun wa _=>ZM hp (g2 w (Fr.refl _ _))⟩) id
def rn (P:Program) (pl:bu) (ops:Array Oper) (Q:Exit→Act→World→Prop):Nat→Array Bool→Act→World→Prop
 |0,bO,a,w=>gk .any ops bO=[]∧Q .normal a w
 |fuel+1,bO,a,w=>
  (gk .any ops bO=[]→Q .normal a w)∧
  ∀i∈gk .any ops bO,wpOp P ops Q i (fun a' w'=>(∀o,ops[i]? =some o→uV (mX pl ops i=false) pl (rL pl ops o) a w a' w')∧rn P pl ops Q fuel (bO.setIfInBounds i true) a' w') a w
theorem Mw {pl:bu} : ∀(fuel:Nat) (bO:Array Bool) (a:Act) (w:World),rn P pl ops Q fuel bO a w→wpAny P .any ops Q fuel bO a w
 |0,_,_,_,h=>h
 |fuel+1,_,_,_,h=>⟨h.1,fun i hi=>wpOp_mono (fun a' w' h'=>Mw fuel _ a' w' h'.2) (h.2 i hi)⟩
theorem YF.ZN {pl:bu} {RB sb:List Nat} {oi oj:Oper} {v:Value} {L:Prop} (hL:L∨yI oi=true) (hd: ∀b,b∈sb→ ¬b∈RB):R8 pl ops oi oj L sb (YF P pl RB ops oi v):=by
 intro a a' w w' hr e2 e3 _ hy;rcases hL with hl|hp
 ·exact hy.rel (hr.1 hl) hd e2 e3
 ·exact hy.pure hp e2 e3
theorem YL.ZN {pl:bu} {x:Nat} {sb:List Nat} {oi oj:Oper} {v:Value} {L:Prop} (hx: ∀d,oj.dst=some d→d≠x) (hd: ¬x∈sb):R8 pl ops oi oj L sb (YL P pl x ops oi v):=by
 intro a a' w w' hr e2 e3 e4 hy;unfold YL at*;rw [e2,e3,e4 x hx];exact hy.imp (fun ⟨g1,k,n,g2,g3,g4⟩=>⟨g1,k,n,g2,g3,fun wa hw=>g4 wa (hw.trans (hr.2 x n k g2 hd g3))⟩) id
theorem ZO {pl:bu} {sb:List Nat} {L:Prop} {Y:Act→World→Prop} {j:Nat} {oi oj:Oper} {v:Value} (hj:ops[j]? =some oj) (Hl:oi.apart ops oj=true)
  (hsi: ∀cs b,oi.op≠ .select cs b) (hsj: ∀cs b,oj.op≠ .select cs b) (Wo: ∀x,oi.dst=some x→look pl.boxes x=none) (fZ:R8 pl ops oi oj L sb Y)
  (hQ: ∀c a w,Q (.panic c) (a.put oi.dst v) w→Q (.panic c) a w) {K:Act→World→Prop} {a:Act} {w:World}
  (hy:Y a w) (h:wpOp P ops Q j (fun a' w'=>uV L pl sb (a.put oi.dst v) w a' w'∧K a' w') (a.put oi.dst v) w):
  wpOp P ops Q j (fun a' w'=>uV L pl sb a w a' w'∧Y a' w'∧K (a'.put oi.dst v) w') a w:=by
 obtain⟨h1,h2,h3⟩:=rK Hl;have fin: ∀(a0:Act) (w':World) (u:Value),a0.tmps=a.tmps→uV L pl sb (a.put oi.dst v) w ((a0.put oi.dst v).put oj.dst u) w'→K ((a0.put oi.dst v).put oj.dst u) w'→
   uV L pl sb a w (a0.put oj.dst u) w'∧Y (a0.put oj.dst u) w'∧K ((a0.put oj.dst u).put oi.dst v) w':=by
  intro a0 w' u h0 hr hk;rw [Act.put_comm a0 v u h2] at hr hk;have jt:uV L pl sb a w (a0.put oj.dst u) w':=⟨fun hl:L=>(hr.1 hl).R9 Wo,hr.2.R9 Wo⟩;have e1:execOp a0.eval oi=execOp a.eval oi:=by
   have:a0.eval=a.eval:=by funext x;cases x<;>simp [sK,h0]
   rw [this]
  have e2:=(execOp_put oi hsi a0 oj.dst u h3).trans e1;have e3:dS oi (yielded ops (a0.put oj.dst u).tmps)=dS oi (yielded ops a.tmps):=(wanted_put oi a0 oj.dst u h3).trans (by rw [h0]);refine⟨jt,fZ a _ w w' jt e2 e3 (fun x hx=>?_) hy,hk⟩;cases hod:oj.dst with
  |none=>simp [kG,h0]
  |some d=>simp [kG,h0,jl (hx d hod)]
 unfold wpOp at*;simp only [hj] at*;rw [wanted_put oj a oi.dst v h1] at h;split
 ·rename_i hw;simp only [hw,if_true] at h;rcases h with h|⟨acT,agz⟩;case inr=>exact .inr ⟨by unfold Oper.asks at*;rw [execOp_put oj hsj a oi.dst v h1] at acT;exact acT,agz⟩
  refine .inl ?_;unfold pD at*;rw [execOp_put oj hsj a oi.dst v h1] at h;generalize (execOp a.eval oj).run P w=r at*;cases r with
  |ok n w'=>
   cases n<;>simp only [lk] at h⊢
   case value u=>exact fin a w' u rfl h.1 h.2
   case skip=>exact fin a w' undef rfl h.1 h.2
   case defer d=>
    have e:({ a.put oi.dst v with defers:=d::(a.put oi.dst v).defers } :Act)=({ a with defers:=d::a.defers } :Act).put oi.dst v:=Act.put_defers a oi.dst v d;rw [e] at h;exact fin { a with defers:=d::a.defers } w' undef rfl h.1 h.2
   case enter f args=>
    refine Calls.mono h fun e nj he=>?_;cases e with
    |returned u=>exact fin a nj u rfl he.1 he.2
    |panicked c=>exact hQ _ _ _ he
    |outgrown=>exact he
   case row row args=>exact Rows.mono h fun u nj he=>fin a nj u rfl he.1 he.2
  |halt x w'=>
   cases x<;>simp only [lk] at h⊢
   case panic u=>exact hQ _ _ _ h
 ·rename_i hw;simp only [hw] at h;exact fin a w undef rfl h.1 h.2
theorem PF {o:Oper} {i:Nat} :waits o i=true↔ ∃e∈o.after,qJ .any e=true∧e.on=i:=by
 unfold waits;rw [tG];simp
theorem PG {bO:Array Bool} {i:Nat} : ∀j,j∈C6 ops bO i→j=i∨(bO.getD j true=false∧ ∃oj k,ops[j]? =some oj∧waits oj k=true∧k∈C6 ops bO i):=by
 unfold C6;have key: ∀(l:List Nat) (S:List Nat),(∀j,j∈S→j=i∨(bO.getD j true=false∧ ∃oj k,ops[j]? =some oj∧waits oj k=true∧k∈S))→
   ∀j,j∈l.foldl (fun S j=>if XB ops bO S j then j::S else S) S→j=i∨(bO.getD j true=false∧ ∃oj k,ops[j]? =some oj∧waits oj k=true∧k∈l.foldl (fun S j=>if XB ops bO S j then j::S else S) S):=by
  intro l
  induction l with
  |nil=>intro S hS j hj;exact hS j hj
  |cons x l ih=>
   intro S hS;rw [List.foldl_cons];refine ih _ ?_;split
   ·rename_i hc;simp only [XB,aY,dL] at hc;obtain⟨h1,h2⟩:=hc;intro j hj;rcases List.mem_cons.1 hj with rfl|hj
    ·right;cases ho:ops[j]? with
     |none=>simp [ho] at h2
     |some o=>
      simp only [ho,tG,aY,r5] at h2;obtain⟨e,he,hb,hm⟩:=h2;exact⟨h1,o,e.on,rfl,PF.2 ⟨e,he,hb,rfl⟩,bK _ hm⟩
    ·rcases hS j hj with h|⟨h,oj,k,h3,h4,h5⟩
     ·exact .inl h
     ·exact .inr ⟨h,oj,k,h3,h4,bK _ h5⟩
   ·exact hS
 exact key _ _ fun j hj=>.inl (by simpa using hj)
theorem Hm {pl:bu} {Y:Act→World→Prop} {i:Nat} {oi:Oper} {v:Value} (Wp: ∀a w,Y a w→Yx P ops oi v a w) (hi:ops[i]? =some oi) (zI: ∀(j:Nat) (o:Oper) cs b,ops[j]? =some o→o.op≠ .select cs b)
  (Wo: ∀x,oi.dst=some x→look pl.boxes x=none) (hQ: ∀c a w,Q (.panic c) (a.put oi.dst v) w→Q (.panic c) a w):
  ∀(fuel:Nat) (bO:Array Bool) (a:Act) (w:World) (S:Nat→Prop),S i→
   (∀j,S j→j=i∨(bO.getD j true=false∧ ∃oj k,ops[j]? =some oj∧waits oj k=true∧S k))→
   (∀j oj,ops[j]? =some oj→j≠i→bO.getD j true=false→ ¬S j→oi.apart ops oj=true∧R8 pl ops oi oj (mX pl ops j=false) (rL pl ops oj) Y)→
   i∈gk .any ops bO→Y a w→
   rn P pl ops Q fuel (bO.setIfInBounds i true) (a.put oi.dst v) w→rn P pl ops Q (fuel+1) bO a w:=by
 intro fuel
 induction fuel with
 |zero=>
  intro bO a w S _ hS _ hr hy H;refine⟨fun h=>(by rw [h] at hr;cases hr),fun j hj=>?_⟩;by_cases vY:j=i
  ·subst vY;exact(Wp _ _ hy).wpOp hi ⟨fun _ _=>⟨fun _=>nG.refl pl _ a w _ _ Wo,uU.refl _ _ _ _⟩,H⟩
  ·have:=ready_mono hj vY;rw [H.1] at this;cases this
 |succ fuel ih=>
  intro bO a w S hSi hS acU hr hy H;refine⟨fun h=>(by rw [h] at hr;cases hr),fun j hj=>?_⟩;by_cases vY:j=i
  ·subst vY;exact(Wp _ _ hy).wpOp hi ⟨fun _ _=>⟨fun _=>nG.refl pl _ a w _ _ Wo,uU.refl _ _ _ _⟩,H⟩
  ·have h1:=H.2 j (ready_mono hj vY);obtain⟨aeu,oj,Ba,qb⟩:=mem_ready.1 hj;have aev: ¬S j:=by
    intro hjS;rcases hS j hjS with h|⟨_,oj',k,aew,hwt,hkS⟩
    ·exact vY h
    ·rw [Ba] at aew;cases aew;obtain⟨e,he,hb,heq⟩:=PF.1 hwt;have h1:=qb e he hb;rw [heq] at h1;have h0:bO.getD k true=false:=by
      rcases hS k hkS with h|h
      ·subst h;exact(mem_ready.1 hr).1
      ·exact h.1
     rcases Nat.lt_or_ge k bO.size with h'|h'
     ·simp [h'] at h0 h1;rw [h0] at h1;cases h1
     ·simp [mO h'] at h1
   obtain⟨Hl,ahv⟩:=acU j oj Ba vY aeu aev;have Sb:=wpOp_mono (K':=fun a' w'=>uV (mX pl ops j=false) pl (rL pl ops oj) (a.put oi.dst v) w a' w'∧rn P pl ops Q fuel ((bO.setIfInBounds i true).setIfInBounds j true) a' w')
    (fun a' w' h'=>⟨h'.1 oj Ba,h'.2⟩) h1
   have h2:=ZO Ba Hl (fun cs b=>zI i oi cs b hi) (fun cs b=>zI j oj cs b Ba) Wo ahv hQ hy Sb;have aex: ∀k ok,ops[k]? =some ok→k≠i→(bO.setIfInBounds j true).getD k true=false→ ¬S k→
     oi.apart ops ok=true∧R8 pl ops oi ok (mX pl ops k=false) (rL pl ops ok) Y:=fun k ok hk hki Cq tH=>by
    refine acU k ok hk hki ?_ tH;by_cases hjk:j=k
    ·subst hjk;exact aeu
    ·rw [getD_set_ne true hjk] at Cq;exact Cq
   have Wq: ∀k,S k→k=i∨((bO.setIfInBounds j true).getD k true=false∧ ∃oj k',ops[k]? =some oj∧waits oj k'=true∧S k'):=fun k hk=>by
    rcases hS k hk with h|⟨h,h2⟩
    ·exact .inl h
    ·exact .inr ⟨by rw [getD_set_ne true (fun e=>aev (by rw [e];exact hk))];exact h,h2⟩
   refine wpOp_mono (fun a' w' h3=>⟨fun o ho=>?_,ih (bO.setIfInBounds j true) a' w' S hSi Wq aex (ready_mono hr (Ne.symm vY)) h3.2.1 ?_⟩) h2
   ·rw [Ba] at ho;injection ho with ho;subst ho;exact h3.1
   rw [pZ _ _ vY];exact h3.2.2
theorem PH {pl:bu} {RB:List Nat} {i:Nat} {oi:Oper} {bO:Array Bool} (hi:ops[i]? =some oi) (h:I5 pl ops bO i RB=true): ∀x,oi.dst=some x→look pl.boxes x=none:=by
 simp only [I5,hi,aY] at h;intro x hx;have:=h.1;rw [hx] at this;simpa using this
theorem Mx {pl:bu} {RB:List Nat} {i:Nat} {oi:Oper} {bO:Array Bool} (hi:ops[i]? =some oi) (h:I5 pl ops bO i RB=true) (j:Nat) (oj:Oper)
  (hj:ops[j]? =some oj) (cn:j≠i) (Cq:bO.getD j true=false) (tH: ¬j∈C6 ops bO i) (hnw:waits oj i=false):
  oi.apart ops oj=true∧(mX pl ops j=false∨yI oi=true∨PE oi RB=true)∧ ∀b,b∈rL pl ops oj→ ¬b∈RB:=by
 simp only [I5,hi,aY,vU,List.mem_range] at h;have h1:=h.2 j (Array.getElem?_eq_some_iff.1 hj).1;simp only [hj,iU,beq_iff_eq,cn,false_or,Cq,bc,hnw,aY,dL,vU,r5,tH,or_false] at h1;exact⟨h1.1.1,h1.1.2.elim (fun h=>.inr h) .inl,fun b hb=>by have:=h1.2 b hb;simpa using this⟩
end
def zR (env:Env):Option (Nat×Bool)→Prop
 |none=>True
 |some (g,want)=>kI (env g) want=true
structure Bk where
 ds:List Deferred
 pins:List (Nat×Value)
structure e7 (pl:bu) (ds:Bk) (cs:CS) (env:Env) (X:XS) (w0:World) (a:Act) (w:World):Prop where
 size:a.tmps.size=pl.n
 defers:a.defers=ds.ds
 zS: ∀p,p∈ds.pins→a.tmps[p.1]? =some p.2∧((∃n k,look pl.boxes p.1=some n∧p.2=gu k 0)∨pl.kJ p.1=true)
 ext:Kp X w0 w
 xO: ∀k,X k→k<w.heap.size
 sL: ∀s,pl.kJ s=true→a.tmps[s]? =some (env s)
 sig: ∀p,p∈cs.sig→a.tmps[p.1]? =some (p.2.ev env)
 box: ∀b n,look pl.boxes b=some n→ ∀cells,env b= .agg cells→ ∃k ty,a.tmps[b]? =some (gu k 0)∧w.heap[k]? =some (.cells cells ty (0,0))∧cells.size=n∧ ¬X k
 inj: ∀b b' n n',look pl.boxes b=some n→look pl.boxes b'=some n'→cu (env b)=true→cu (env b')=true→ ∀k,a.tmps[b]? =some (gu k 0)→a.tmps[b']? =some (gu k 0)→b=b'
 conv: ∀b n,look pl.boxes b=some n→ ∀k,a.tmps[b]? =some (gu k 0)→cu (env b)=true
 live: ∀b,b∈cs.live→(∃n,look pl.boxes b=some n)∧cu (env b)=true
 ptr: ∀p,p∈cs.uT→(∃n,look pl.boxes p.b=some n)∧(zR env p.g→cu (env p.b)=true∧ ∃k,a.tmps[p.b]? =some (gu k 0)∧a.tmps[p.s]? =some (gu k p.off))
theorem td (a:Act) (d:Nat) (v:Value) (s:Nat) (hd:d<a.tmps.size):(a.put (some d) v).tmps[s]? =if s=d then some v else a.tmps[s]? :=by
 simp only [kG,ff];by_cases h:s=d
 ·subst h;simp [hd]
 ·rw [if_neg (Ne.symm h),if_neg h]
theorem fS (a:Act) (d:Nat) (v:Value) (s:Nat) (h:s≠d):(a.put (some d) v).tmps[s]? =a.tmps[s]? :=by
 simp only [kG,ff];rw [if_neg (Ne.symm h)]
theorem ka (e:Env) (d:Nat) (v:Value):lR e d v d=v:=by simp [lR]
theorem gf (e:Env) {d s:Nat} (v:Value) (h:s≠d):lR e d v s=e s:=by
 have:(s==d)=false:=by simpa using h
 simp [lR,this]
theorem Sc {e:Ex} {d:Nat} (h:e.R1 d=false) (env:Env) (v:Value):e.ev (lR env d v)=e.ev env:=by
 cases e<;>simp only [Ex.R1,beq_eq_false_iff_ne,ne_eq] at h<;>simp [Ex.ev,gf,h]
theorem te {v:Value} :cu v=true↔ ∃c,v= .agg c:=by
 cases v<;>simp [cu]
section
variable {P : Program} {pl : bu} {ds : Bk} {cs : CS} {env : Env} {X : XS} {w0 w : World} {a : Act}
theorem uc {s:Nat} (h:pl.kJ s=true):s<pl.n∧look pl.boxes s=none∧pl.PD.contains s=false:=by
 simp only [bu.kJ,aY,decide_eq_true_eq,lr,dL] at h;exact⟨h.1.1.2,h.1.2,h.2⟩
theorem uK {s:Nat} (h:pl.kK s=true):s<pl.n∧look pl.boxes s=none∧pl.PD.contains s=false:=by
 simp only [bu.kK,aY,decide_eq_true_eq,lr,dL] at h;exact⟨h.1.1,h.1.2,h.2⟩
theorem EJ {α:Type} {l:List (Nat×α)} {t:Nat} {e:α} (h:look l t=some e):(t,e)∈l:=by
 induction l with
 |nil=>cases h
 |cons p r ih=>
  obtain⟨s,x⟩:=p;simp only [look] at h;split at h
  ·rename_i hs;injection h with h
   subst hs h;exact dt ..
  ·exact bK _ (ih h)
theorem e7.eval (h:e7 pl ds cs env X w0 a w) {x:Operand} {e:Ex} (hv:valOf pl cs x=some e):a.eval x=e.ev env:=by
 cases x with
 |tmp t=>
  simp only [valOf] at hv;split at hv
  ·rename_i hg;injection hv with hv
   subst hv;simp [sK,h.sL t hg,Ex.ev]
  ·have:=h.sig _ (EJ hv);simp only at this;simp [sK,this]
 |const v=>simp only [valOf,az] at hv;subst hv;rfl
 |global g=>simp only [valOf,az] at hv;subst hv;rfl
 |func f=>simp only [valOf,az] at hv;subst hv;rfl
theorem vZ: ∀{l:List Operand} {ss:List (Nat×Ex)},subst pl cs l=some ss→
  (∀t e,look ss t=some e→valOf pl cs (.tmp t)=some e)∧(∀t,.tmp t∈l→look ss t=none→valOf pl cs (.tmp t)=some (.t t))
 |[],ss,h=>by
  simp only [subst,az] at h;subst h;exact⟨fun t e h=>(by cases h),fun t h=>(by cases h)⟩
 |x::r,ss,h=>by
  cases x with
  |tmp t=>
   simp only [subst] at h;cases hv:valOf pl cs (.tmp t)with
   |none=>simp [hv] at h
   |some e=>
    cases hr:subst pl cs r with
    |none=>simp [hv,hr] at h
    |some ss'=>
     obtain⟨i1,i2⟩:=vZ hr;simp only [hv,hr,az] at h;have gen: ∀e',e=e'→ss=(t,e')::ss'→(∀u e,look ss u=some e→valOf pl cs (.tmp u)=some e)∧(∀u,.tmp u∈(.tmp t::r)→look ss u=none→valOf pl cs (.tmp u)=some (.t u)):=by
      intro e' he hs;subst hs;refine⟨fun u e2 hu=>?_,fun u hu hn=>?_⟩
      ·simp only [look] at hu;split at hu
       ·rename_i htu;injection hu with hu
        subst htu hu;rw [hv,he]
       ·exact i1 _ _ hu
      ·simp only [look] at hn;split at hn
       ·cases hn
       ·rename_i htu;rcases List.mem_cons.1 hu with h1|h1
        ·injection h1 with h1;exact absurd h1.symm htu
        ·exact i2 u h1 hn
     cases e with
     |t n=>
      simp only at h;split at h
      ·rename_i hnt;subst hnt h;refine⟨i1,fun u hu hn=>?_⟩;rcases List.mem_cons.1 hu with h1|h1
       ·injection h1 with h1;subst h1;exact hv
       ·exact i2 u h1 hn
      ·exact gen _ rfl h.symm
     |c v=>exact gen _ rfl h.symm
     |s b o n=>exact gen _ rfl h.symm
     |k b o=>exact gen _ rfl h.symm
  |const v=>
   obtain⟨i1,i2⟩:=vZ (l:=r) (by simpa only [subst] using h);exact⟨i1,fun u hu hn=>(List.mem_cons.1 hu).elim (fun h1=>by cases h1) fun h1=>i2 u h1 hn⟩
  |global v=>
   obtain⟨i1,i2⟩:=vZ (l:=r) (by simpa only [subst] using h);exact⟨i1,fun u hu hn=>(List.mem_cons.1 hu).elim (fun h1=>by cases h1) fun h1=>i2 u h1 hn⟩
  |func v=>
   obtain⟨i1,i2⟩:=vZ (l:=r) (by simpa only [subst] using h);exact⟨i1,fun u hu hn=>(List.mem_cons.1 hu).elim (fun h1=>by cases h1) fun h1=>i2 u h1 hn⟩
theorem e7.Hk (h:e7 pl ds cs env X w0 a w) {l:List Operand} {ss:List (Nat×Ex)} (hs:subst pl cs l=some ss):
  ∀x,x∈l→a.eval x=bB.Hk env ss x:=by
 obtain⟨i1,i2⟩:=vZ hs;intro x hx;cases x with
 |tmp t=>
  simp only [bB.Hk];cases hl:look ss t with
  |some e=>exact h.eval (i1 t e hl)
  |none=>exact h.eval (i2 t hx hl)
 |const v=>rfl
 |global g=>rfl
 |func f=>rfl
theorem ZP (ρ:Operand→Value) (o:Oper):execOp ρ o=execOp ρ (Oc o.op o.type):=by
 cases o;rfl
theorem XD {op:Op} (h:EH op=true): ∀cs b,op≠ .select cs b:=by
 intro cs b e;subst e;cases h
theorem e7.exec (h:e7 pl ds cs env X w0 a w) {o:Oper} {ss:List (Nat×Ex)} (hs:subst pl cs o.op.operands.toList=some ss) (hn:EH o.op=true):
  execOp a.eval o=execOp (bB.Hk env ss) (Oc o.op o.type):=by
 rw [execOp_congr o (XD hn) fun x hx=>h.Hk hs x (by simpa using hx)];exact ZP _ _
theorem e7.step (h:e7 pl ds cs env X w0 a w) {X':XS} {eX w':World} (hx:Kp X' eX w') (hX: ∀k,X' k→k<w'.heap.size)
  (hb: ∀k,k<w.heap.size→ ¬X k→w'.heap[k]? =w.heap[k]? ∧ ¬X' k):e7 pl ds cs env X' eX a w' where
 size:=h.size
 defers:=h.defers
 zS:=h.zS
 ext:=hx
 xO:=hX
 sL:=h.sL
 sig:=h.sig
 box:=fun b n hn cells hc=>by
  obtain⟨k,ty,h1,h2,h3,h4⟩:=h.box b n hn cells hc;obtain⟨e1,e2⟩:=hb k (Array.getElem?_eq_some_iff.1 h2).1 h4;exact⟨k,ty,h1,e1.trans h2,h3,e2⟩
 inj:=h.inj
 conv:=h.conv
 live:=h.live
 ptr:=h.ptr
theorem e7.oT (h:e7 pl ds cs env X w0 a w) {w':World} (hx:Ext w w'):e7 pl ds cs env X w0 a w':=
 h.step (h.ext.trans (hx.kp h.xO)) (fun k hk=>aN (h.xO k hk) hx.size) fun _ hk hX=>⟨hx.block hk,hX⟩
theorem e7.I6 (h:e7 pl ds cs env X w0 a w) {m:Bool} {w':World} (hs:Step m X w w'):e7 pl ds cs env (grow X w w') w' a w':=
 h.step (Kp.refl _ _) (fun k hk=>hk.elim (fun hX=>aN (h.xO k hX) hs.fr.size) (·.2))
  fun k hk hX=>⟨hs.fr.block k hk hX,fun hg=>hg.elim hX fun hg=>by omega⟩
theorem qc {s d:Nat} {n:Nat} (hs:look pl.boxes s=some n) (hd:look pl.boxes d=none):s≠d:=by
 rintro rfl;rw [hs] at hd;cases hd
theorem e7.bind (h:e7 pl ds cs env X w0 a w) {d:Nat} (hd:pl.kK d=true) (v:Value) (lp: ∀p,p∈ds.pins→p.1≠d):
  e7 pl ds (cs.bind pl d) (lR env d v) X w0 (a.put (some d) v) w:=by
 obtain⟨cI,j5,mf⟩:=uK hd;have fN:d<a.tmps.size:=by rw [h.size];exact cI
 have acV: ∀p,p∈(cs.kill d).sig→(a.put (some d) v).tmps[p.1]? =some (p.2.ev (lR env d v)):=by
  intro p hp;simp only [CS.kill,fO,aY,bne_iff_ne,ne_eq,dL] at hp;rw [fS _ _ _ _ hp.2.1,Sc hp.2.2];exact h.sig p hp.1
 have aa9: ∀p,p∈(cs.kill d).uT→(∃n,look pl.boxes p.b=some n)∧(zR (lR env d v) p.g→cu (lR env d v p.b)=true∧ ∃k,(a.put (some d) v).tmps[p.b]? =some (gu k 0)∧(a.put (some d) v).tmps[p.s]? =some (gu k p.off)):=by
  intro p hp;simp only [CS.kill,fO,aY,bne_iff_ne,ne_eq] at hp;obtain⟨Ws,⟨hb,hs⟩,hg⟩:=hp;obtain⟨e1,e2⟩:=h.ptr p Ws;refine⟨e1,fun Hn=>?_⟩;have ahw:zR env p.g:=by
   cases ZQ:p.g with
   |none=>trivial
   |some x=>
    obtain⟨g,want⟩:=x;rw [ZQ] at Hn hg;simp only [zR] at Hn⊢
    rwa [gf _ _ (by simpa using hg)] at Hn
  obtain⟨e3,k,e4,e5⟩:=e2 ahw;rw [gf _ _ hb,fS _ _ _ _ hb,fS _ _ _ _ hs];exact⟨e3,k,e4,e5⟩
 have aba: ∀p,p∈(cs.bind pl d).sig→(a.put (some d) v).tmps[p.1]? =some (p.2.ev (lR env d v)):=by
  intro p hp;simp only [CS.bind] at hp;split at hp
  ·exact acV p hp
  ·rcases List.mem_cons.1 hp with rfl|hp
   ·simp [td _ _ _ _ fN,Ex.ev,ka]
   ·exact acV p hp
 have hpt:(cs.bind pl d).uT=(cs.kill d).uT:=by simp only [CS.bind];split<;>rfl
 have hlv:(cs.bind pl d).live=cs.live:=by simp only [CS.bind];split<;>rfl
 exact {
  size:=by simp [kG,h.size]
  defers:=h.defers
  zS:=fun p hp=>⟨by rw [fS _ _ _ _ (lp p hp)];exact(h.zS p hp).1,(h.zS p hp).2⟩
  ext:=h.ext
  xO:=h.xO
  sL:=fun s hs=>by
   rw [td _ _ _ _ fN];split
   ·rename_i e;subst e;rw [ka]
   ·rename_i e;rw [gf _ _ e];exact h.sL s hs
  sig:=aba
  box:=fun b n hn cells hc=>by
   have mS:=qc hn j5;rw [gf _ _ mS] at hc;rw [fS _ _ _ _ mS];exact h.box b n hn cells hc
  inj:=fun b b' n n' hb fP h1 h2 k h3 h4=>by
   have mS:=qc hb j5;have EK:=qc fP j5;rw [gf _ _ mS] at h1;rw [gf _ _ EK] at h2;rw [fS _ _ _ _ mS] at h3;rw [fS _ _ _ _ EK] at h4;exact h.inj b b' n n' hb fP h1 h2 k h3 h4
  conv:=fun b n hb k hk=>by
   have mS:=qc hb j5;rw [fS _ _ _ _ mS] at hk;rw [gf _ _ mS];exact h.conv b n hb k hk
  live:=fun b hb=>by
   rw [hlv] at hb;obtain⟨⟨n,hn⟩,hl⟩:=h.live b hb;rw [gf _ _ (qc hn j5)];exact⟨⟨n,hn⟩,hl⟩
  ptr:=by rw [hpt];exact aa9 }
theorem e7.jW (h:e7 pl ds cs env X w0 a w) {nd:List Nat} (hn: ∀b,b∈nd→(∃n,look pl.boxes b=some n)∧cu (env b)=true):
  e7 pl ds (cs.jW nd) env X w0 a w:=
 { h with live:=fun b hb=>(List.mem_append.1 hb).elim (hn b) (h.live b) }
theorem e7.other (h:e7 pl ds cs env X w0 a w) {d:Nat} (cI:d<pl.n) (j5:look pl.boxes d=none) (My:pl.kJ d=false) (v:Value) {sc:CS}
  (aba: ∀p,p∈sc.sig→(a.put (some d) v).tmps[p.1]? =some (p.2.ev env)) (hlv:sc.live=cs.live)
  (aa9: ∀p,p∈sc.uT→(∃n,look pl.boxes p.b=some n)∧(zR env p.g→cu (env p.b)=true∧ ∃k,(a.put (some d) v).tmps[p.b]? =some (gu k 0)∧(a.put (some d) v).tmps[p.s]? =some (gu k p.off))):
  e7 pl ds sc env X w0 (a.put (some d) v) w where
 size:=by simp [kG,h.size]
 defers:=h.defers
 zS:=fun p hp=>by
  obtain⟨h1,h2⟩:=h.zS p hp;refine⟨?_,h2⟩;have cn:p.1≠d:=fun e=>by
   rcases h2 with⟨n,_,hn,_⟩|hg
   ·rw [e,j5] at hn;cases hn
   ·rw [e,My] at hg;cases hg
  rw [fS _ _ _ _ cn];exact h1
 ext:=h.ext
 xO:=h.xO
 sL:=fun s hs=>by
  rw [fS _ _ _ _ (by rintro rfl;rw [hs] at My;cases My)];exact h.sL s hs
 sig:=aba
 box:=fun b n hn cells hc=>by
  rw [fS _ _ _ _ (qc hn j5)];exact h.box b n hn cells hc
 inj:=fun b b' n n' hb fP h1 h2 k h3 h4=>by
  rw [fS _ _ _ _ (qc hb j5)] at h3;rw [fS _ _ _ _ (qc fP j5)] at h4;exact h.inj b b' n n' hb fP h1 h2 k h3 h4
 conv:=fun b n hb k hk=>by
  rw [fS _ _ _ _ (qc hb j5)] at hk;exact h.conv b n hb k hk
 live:=fun b hb=>h.live b (hlv▸hb)
 ptr:=aa9
theorem e7.note (h:e7 pl ds cs env X w0 a w) {d:Nat} (hd:pl.kK d=true) (My:pl.kJ d=false) (e:Ex):
  e7 pl ds (cs.note d e) env X w0 (a.put (some d) (e.ev env)) w:=by
 obtain⟨cI,j5,mf⟩:=uK hd;have fN:d<a.tmps.size:=by rw [h.size];exact cI
 refine h.other cI j5 My _ ?_ rfl ?_
 ·intro p hp;simp only [CS.note,gp,fO,bne_iff_ne,ne_eq] at hp;rcases hp with rfl|⟨hp,cn⟩
  ·simp [td _ _ _ _ fN]
  ·rw [fS _ _ _ _ cn];exact h.sig p hp
 ·intro p hp;simp only [CS.note,fO,bne_iff_ne,ne_eq] at hp;obtain⟨⟨n,hn⟩,e2⟩:=h.ptr p hp.1;refine⟨⟨n,hn⟩,fun hg=>?_⟩;obtain⟨e3,k,e4,e5⟩:=e2 hg;refine⟨e3,k,?_,?_⟩
  ·rw [fS _ _ _ _ (qc hn j5)];exact e4
  ·rw [fS _ _ _ _ hp.2];exact e5
theorem e7.od (h:e7 pl ds cs env X w0 a w) {d:Nat} (hd:pl.kK d=true) (e:Ex) {iA:List PanicEntry→Env→World→XS→Prop} {next:Env→World→XS→Prop}
  (hn:gP P iA next (bB.od pl cs d e).1 env w0 X) (lp: ∀b,b∈ll (bB.od pl cs d e).1→ ∀p,p∈ds.pins→p.1≠b): ∃dA,e7 pl ds (bB.od pl cs d e).2 dA X w0 (a.put (some d) (e.ev env)) w∧next dA w0 X:=by
 unfold bB.od at hn lp⊢;split
 ·rename_i hg;rw [if_pos hg] at hn lp;exact⟨_,h.bind hd _ (lp d (by simp [ll,TI.FW])),hn⟩
 ·rename_i hg;rw [if_neg hg] at hn;have My:pl.kJ d=false:=by
   cases hx:pl.kJ d with
   |false=>rfl
   |true=>simp [hx] at hg
  exact⟨env,h.note hd My e,hn⟩
theorem e7.derive (h:e7 pl ds cs env X w0 a w) {d b off:Nat} {g:Option (Nat×Bool)} (cI:d<pl.n) (j5:look pl.boxes d=none) (EL:pl.PD.contains d=true)
    (v:Value) (hb: ∃n,look pl.boxes b=some n) (hv:zR env g→cu (env b)=true∧ ∃k,a.tmps[b]? =some (gu k 0)∧v=gu k off)
 :
    e7 pl ds (cs.jV d b off g) env X w0 (a.put (some d) v) w:=by
  have fN:d<a.tmps.size:=by rw [h.size];exact cI
  have My:pl.kJ d=false:=by
    cases hx:pl.kJ d with
    |false=>rfl
    |true=>have:=(uc hx).2.2;rw [EL] at this;cases this
  refine h.other cI j5 My _ ?_ rfl ?_
  · intro p hp
    simp only [CS.jV,fO,bne_iff_ne,ne_eq] at hp;rw [fS _ _ _ _ hp.2];exact h.sig p hp.1
  · intro p hp
    rcases List.mem_cons.1 hp with rfl|hp
    · obtain⟨n,hn⟩:=hb
      refine⟨⟨n,hn⟩,fun hg=>?_⟩;obtain⟨e1,k,e2,e3⟩:=hv hg;refine⟨e1,k,?_,?_⟩
      · rw [fS _ _ _ _ (qc hn j5)];exact e2
      · simp [td _ _ _ _ fN,e3]
    · simp only [fO,bne_iff_ne,ne_eq] at hp
      obtain⟨⟨n,hn⟩,e2⟩:=h.ptr p hp.1;refine⟨⟨n,hn⟩,fun hg=>?_⟩;obtain⟨e3,k,e4,e5⟩:=e2 hg;refine⟨e3,k,?_,?_⟩
      · rw [fS _ _ _ _ (qc hn j5)];exact e4
      · rw [fS _ _ _ _ hp.2];exact e5
theorem abb {d:Nat} {p:Nat×Ex} (hp:p∈(cs.kill d).sig):p∈cs.sig∧p.1≠d∧p.2.R1 d=false:=by
 simpa [CS.kill,fO] using hp
theorem abc {d:Nat} {p:Ptr} (hp:p∈(cs.kill d).uT):p∈cs.uT∧p.b≠d∧p.s≠d∧(∀v,zR (lR env d v) p.g→zR env p.g):=by
 simp only [CS.kill,fO,aY,bne_iff_ne,ne_eq] at hp;obtain⟨Ws,⟨hb,hs⟩,hg⟩:=hp;refine⟨Ws,hb,hs,fun v Hn=>?_⟩;cases ZQ:p.g with
 |none=>trivial
 |some x=>
  obtain⟨g,want⟩:=x;rw [ZQ] at Hn hg;simp only [zR] at Hn⊢
  rwa [gf _ _ (by simpa using hg)] at Hn
theorem e7.ZR (h:e7 pl ds cs env X w0 a w) {d sz:Nat} (cI:d<pl.n) (hb:look pl.boxes d=some sz) (cells:Array Value) (fN:cells.size=sz) (ty:TypeId) (lp: ∀p,p∈ds.pins→p.1≠d):
  e7 pl ds ((cs.kill d).jW [d]) (lR env d (.agg cells)) X w0 (a.put (some d) (gu w.heap.size 0)) (w.alloc (.cells cells ty)):=by
 have hd:d<a.tmps.size:=by rw [h.size];exact cI
 have hg:=h.oT (Ext.alloc w (.cells cells ty));have fresh: ∀b n c,look pl.boxes b=some n→env b= .agg c→a.tmps[b]? ≠some (gu w.heap.size 0):=by
  intro b n c hn hc e;obtain⟨k,ty',h1,h2,_,_⟩:=h.box b n hn c hc;rw [h1] at e;have hk:k=w.heap.size:=by simpa [gu] using e
  subst hk;rw [mO (bP _)] at h2;cases h2
 exact {
  size:=by simp [kG,h.size]
  defers:=h.defers
  zS:=fun p hp=>⟨by rw [fS _ _ _ _ (lp p hp)];exact(h.zS p hp).1,(h.zS p hp).2⟩
  ext:=hg.ext
  xO:=hg.xO
  sL:=fun s hs=>by
   have cn:s≠d:=fun e=>by subst e;have:=(uc hs).2.1;rw [hb] at this;cases this
   rw [fS _ _ _ _ cn,gf _ _ cn];exact h.sL s hs
  sig:=fun p hp=>by
   obtain⟨h1,h2,h3⟩:=abb hp;rw [fS _ _ _ _ h2,Sc h3];exact h.sig p h1
  box:=fun b n hn c hc=>by
   by_cases mS:b=d
   ·subst mS;rw [ka] at hc;injection hc with hc
    subst hc;rw [hb] at hn;injection hn with hn
    refine⟨w.heap.size,ty,by simp [td _ _ _ _ hd],heap_alloc_new w _,by omega,fun hX=>?_⟩;exact absurd (h.xO _ hX) zQ
   ·rw [gf _ _ mS] at hc;rw [fS _ _ _ _ mS];exact hg.box b n hn c hc
  inj:=fun b b' n n' hn kd h1 h2 k h3 h4=>by
   obtain⟨c,hc⟩:=te.1 h1;obtain⟨c',DG⟩:=te.1 h2;by_cases mS:b=d<;>by_cases EK:b'=d
   ·rw [mS,EK]
   ·subst mS;rw [td _ _ _ _ hd,if_pos rfl] at h3;rw [fS _ _ _ _ EK] at h4;rw [gf _ _ EK] at DG;rw [←h3] at h4;exact absurd h4 (fresh b' n' c' kd DG)
   ·subst EK;rw [td _ _ _ _ hd,if_pos rfl] at h4;rw [fS _ _ _ _ mS] at h3;rw [gf _ _ mS] at hc;rw [←h4] at h3;exact absurd h3 (fresh b n c hn hc)
   ·rw [gf _ _ mS] at h1;rw [gf _ _ EK] at h2;rw [fS _ _ _ _ mS] at h3;rw [fS _ _ _ _ EK] at h4;exact h.inj b b' n n' hn kd h1 h2 k h3 h4
  conv:=fun b n hn k hk=>by
   by_cases mS:b=d
   ·subst mS;rw [ka];rfl
   ·rw [fS _ _ _ _ mS] at hk;rw [gf _ _ mS];exact h.conv b n hn k hk
  live:=fun b fP=>by
   simp only [CS.jW,qK,eB,gp] at fP;rcases fP with rfl|fP
   ·exact⟨⟨sz,hb⟩,by rw [ka];rfl⟩
   ·obtain⟨e1,e2⟩:=h.live b fP;refine⟨e1,?_⟩;by_cases mS:b=d
    ·subst mS;rw [ka];rfl
    ·rw [gf _ _ mS];exact e2
  ptr:=fun p hp=>by
   obtain⟨h1,h2,h3,h4⟩:=abc (env:=env) hp;obtain⟨e1,e2⟩:=h.ptr p h1;refine⟨e1,fun Hn=>?_⟩;obtain⟨e3,k,e4,e5⟩:=e2 (h4 _ Hn);rw [gf _ _ h2,fS _ _ _ _ h2,fS _ _ _ _ h3];exact⟨e3,k,e4,e5⟩ }
theorem e7.store (h:e7 pl ds cs env X w0 a w) {b n k:Nat} {ty:TypeId} {cells ud:Array Value} (hb:look pl.boxes b=some n) (hc:env b= .agg cells)
  (ht:a.tmps[b]? =some (gu k 0)) (hk:w.heap[k]? =some (.cells cells ty (0,0))) (hX: ¬X k) (fN:ud.size=n) {w':World} (hw:Fr (· =k) w w') (ah:w'.heap[k]? =some (.cells ud ty (0,0))):
  e7 pl ds (cs.I4 b) (lR env b (.agg ud)) X w0 a w':=by
 have hA:cu (env b)=true:=by rw [hc];rfl
 exact {
  size:=h.size
  defers:=h.defers
  zS:=h.zS
  ext:=h.ext.trans (hw.kp fun j hj=>⟨h.xO j hj,fun e=>by subst e;exact hX hj⟩)
  xO:=fun j hj=>aN (h.xO j hj) hw.size
  sL:=fun s hs=>by
   have cn:s≠b:=fun e=>by subst e;have:=(uc hs).2.1;rw [hb] at this;cases this
   rw [gf _ _ cn];exact h.sL s hs
  sig:=fun p hp=>by
   simp only [CS.I4,fO,dL] at hp;rw [Sc hp.2];exact h.sig p hp.1
  box:=fun b' n' kd c DG=>by
   by_cases mS:b'=b
   ·subst mS;rw [ka] at DG;injection DG with DG
    subst DG;rw [hb] at kd;injection kd with kd
    exact⟨k,ty,ht,ah,by omega,hX⟩
   ·rw [gf _ _ mS] at DG;obtain⟨k2,ty2,h1,h2,h3,h4⟩:=h.box b' n' kd c DG;have xP:k2≠k:=fun e=>by
     subst e;exact mS (h.inj b' b n' n kd hb (by rw [DG];rfl) hA k2 h1 ht)
    exact⟨k2,ty2,h1,(hw.block k2 (Array.getElem?_eq_some_iff.1 h2).1 xP).trans h2,h3,h4⟩
  inj:=fun b1 b2 n1 n2 hn1 hn2 h1 h2 j h3 h4=>by
   have f: ∀b',cu (lR env b (.agg ud) b')=true→cu (env b')=true:=fun b' hh=>by
    by_cases e:b'=b
    ·subst e;exact hA
    ·rwa [gf _ _ e] at hh
   exact h.inj b1 b2 n1 n2 hn1 hn2 (f b1 h1) (f b2 h2) j h3 h4
  conv:=fun b' n' kd j hj=>by
   by_cases e:b'=b
   ·subst e;rw [ka];rfl
   ·rw [gf _ _ e];exact h.conv b' n' kd j hj
  live:=fun b' fP=>by
   obtain⟨e1,e2⟩:=h.live b' fP;refine⟨e1,?_⟩;by_cases e:b'=b
   ·subst e;rw [ka];rfl
   ·rwa [gf _ _ e]
  ptr:=fun p hp=>by
   obtain⟨e1,e2⟩:=h.ptr p hp;refine⟨e1,fun hg=>?_⟩;have gA:zR env p.g:=by
    cases ZQ:p.g with
    |none=>trivial
    |some x=>
     obtain⟨g,want⟩:=x;rw [ZQ] at hg;simp only [zR] at hg⊢;by_cases e:g=b
     ·subst e;rw [ka] at hg;cases hg
     ·rwa [gf _ _ e] at hg
   obtain⟨e3,k2,e4,e5⟩:=e2 gA;refine⟨?_,k2,e4,e5⟩;by_cases e:p.b=b
   ·rw [e,ka];rfl
   ·rwa [gf _ _ e] }
end
section
variable {P : Program}
theorem uW (k o n:Nat):(⟨k,o,none⟩:Addr).add n=⟨k,o+n,none⟩:=by
 unfold Addr.add;split<;>simp_all
theorem Ks {S f fo sz:Nat} (h:fieldInfo P S f=some (fo,sz)) (hz:sz≠0) (k off:Nat) (w:World):
  (Instr.fieldAt S (gu k off) f).run P w= .ok (gu k (off+fo)) w:=by
 unfold fieldInfo at h;split at h
 ·rename_i fs hu;cases hf:fs[f]? with
  |none=>simp [hf] at h
  |some x=>
   cases hi:P.info? x.type with
   |none=>simp [hf,hi] at h
   |some i=>
    simp only [hf,hi,cU,bL,az,dx] at h;obtain⟨h1,h2⟩:=h;subst h1 h2;simp [Instr.fieldAt,run_underlying hu,hf,jd,gu,fieldPlace,sizeOf,typeInfo,hi,hz,uW]
 ·cases h
theorem FY {w:World} {k:Nat} {cells:Array Value} {ty:TypeId} (h:w.heap[k]? =some (.cells cells ty (0,0))) (i:Nat):w.cell? ⟨k,i,none⟩=cells[i]? :=by
 simp [World.cell?,h]
theorem Mz {t:Nat} {ag:Bool} {sz:Nat} (h:je P t=some (ag,sz)) (ZS:(ag||sz==1)=true) {w:World} {k:Nat} {cells:Array Value} {ty:TypeId}
  (hk:w.heap[k]? =some (.cells cells ty (0,0))) (off:Nat) (hl:off+sz≤cells.size):
  (gX t (gu k off)).run P w= .ok (if ag then cj (.agg cells) off sz else cellOf (.agg cells) off) w:=by
 unfold je at h;split at h
 ·rename_i d i hu hi;simp only [az,dx] at h;obtain⟨h1,h2⟩:=h;subst h2;have ym:(isAgg t).run P w= .ok ag w:=by
   subst h1;cases d<;>simp [isAgg,run_underlying hu]
  cases ag with
  |true=>
   have hc: ∀j v,((cells.toList.drop off).take i.size)[j]? =some v→w.cell? ((⟨k,off,none⟩:Addr).add j)=some v:=by
    intro j v hj;rw [uW,FY hk];rw [List.getElem?_take] at hj;split at hj
    ·rw [List.getElem?_drop] at hj;simpa using hj
    ·cases hj
   have hlen:((cells.toList.drop off).take i.size).length=i.size:=by
    simp;omega
   have hr:=run_loadCells_list (P:=P) w ⟨k,off,none⟩ _ hc;rw [hlen] at hr;simp [gX,jd,gu,loadVar,ym,sizeOf,typeInfo,hi,hr,cj,Value.cells]
  |false=>
   simp only [Bool.false_or,beq_iff_eq] at ZS;have cI:off<cells.size:=by omega
   have hc:w.cell? ⟨k,off,none⟩=some cells[off]:=by rw [FY hk];simp [cI]
   simp [gX,jd,gu,loadVar,ym,hc,cellOf,Value.cells,cI]
 ·cases h
theorem Bb (v:Value):one v=v.oneCell':=by cases v<;>rfl
theorem vu {v:Value} (h:one v=true):v.cells= #[v]:=by cases v<;>first|rfl|cases h
theorem Vs {t:Nat} {ag:Bool} {sz:Nat} (h:je P t=some (ag,sz)):(P.info? t).map (·.size)=some sz:=by
 unfold je at h;split at h
 ·rename_i d i hu hi;simp only [az,dx] at h;simp [hi,h.2]
 ·cases h
theorem Kt {t sz:Nat} (h:(P.info? t).map (·.size)=some sz) {w:World} {k:Nat} {cells:Array Value} {ty:TypeId}
  (hk:w.heap[k]? =some (.cells cells ty (0,0))) (off:Nat) (hl:off+sz≤cells.size) (v:Value) (hv:v.cells.size=sz) (h1:v.cells.toList.all one=true):
  (Instr.storeAt t (gu k off) v).run P w= .ok () (w.setRow k (cH cells.toList off v.cells.toList).toArray):=by
 cases hi:P.info? t with
 |none=>simp [hi] at h
 |some i=>
  simp only [hi,bL,az] at h;have fZ:=run_storeCells_at P k off ty v.cells.toList 0 cells w hk (by simpa [hv] using hl) (fun x hx=>by
   have:=List.all_eq_true.1 h1 x hx
   rwa [Bb] at this)
  simp only [Nat.add_zero] at fZ;simp [Instr.storeAt,jd,gu,storeVar,sizeOf,typeInfo,hi,h,hv,fZ,cH]
end
theorem ZT {w:World} {k:Nat} {cells ud:Array Value} {ty:TypeId} (hk:w.heap[k]? =some (.cells cells ty (0,0))):
  Fr (· =k) w (w.setRow k ud)∧(w.setRow k ud).heap[k]? =some (.cells ud ty (0,0)):=by
 refine⟨⟨rfl,rfl,rfl,by simp [World.setRow],fun j _ hj=>?_⟩,setRow_heap w k cells ud ty (0,0) hk⟩;simp only [World.setRow,Array.getElem?_modify];rw [if_neg (fun e=>hj e.symm)]
theorem abd {l vs:List Value} {off:Nat} (h:off+vs.length≤l.length):(cH l off vs).length=l.length:=by
 simp [cH];omega
section
variable {P : Program} {pl : bu} {ds : Bk} {cs : CS} {env : Env} {X : XS} {w0 w : World} {a : Act}
theorem Ho {og:Option (Nat×Bool)} : ∀{l:List Ptr} {t b off:Nat},DF og l t=some (b,off)→ ∃p,p∈l∧p.s=t∧p.b=b∧p.off=off∧(p.g=none∨p.g=og)
 |[],_,_,_,h=>by cases h
 |p::r,t,b,off,h=>by
  simp only [DF] at h;split at h
  ·rename_i hs;split at h
   ·rename_i hg;simp only [az,dx] at h;refine⟨p,dt ..,hs,h.1,h.2,?_⟩;simpa using hg
   ·cases h
  ·obtain⟨q,h1,h2⟩:=Ho h;exact⟨q,bK _ h1,h2⟩
theorem e7.sa (h:e7 pl ds cs env X w0 a w) {og:Option (Nat×Bool)} {x:Operand} {b off:Nat} {nd:List Nat} (hp:bB.sa pl cs og x=some (b,off,nd)):
  (∃n,look pl.boxes b=some n)∧(∀b',b'∈nd→ ∃n,look pl.boxes b'=some n)∧
  ((∀b',b'∈nd→cu (env b')=true)→zR env og→cu (env b)=true∧ ∃k,a.eval x=gu k off∧a.tmps[b]? =some (gu k 0)):=by
 cases x with
 |tmp t=>
  simp only [bB.sa] at hp;split at hp
  ·rename_i n hn;simp only [az,dx] at hp;obtain⟨rfl,rfl,mf⟩:=hp;refine⟨⟨n,hn⟩,fun b' fP=>?_,fun hl _=>?_⟩
   ·split at mf<;>subst mf
    ·cases fP
    ·rcases List.mem_singleton.1 fP with rfl;exact⟨n,hn⟩
   ·have hA:cu (env t)=true:=by
     split at mf
     ·rename_i hc;exact(h.live t (by simpa using hc)).2
     ·subst mf;exact hl t (List.mem_singleton.2 rfl)
    obtain⟨c,hc⟩:=te.1 hA;obtain⟨k,ty,h1,_⟩:=h.box t n hn c hc;exact⟨hA,k,by simp [sK,h1],h1⟩
  ·split at hp
   ·cases hf:DF og cs.uT t with
    |none=>simp [hf] at hp
    |some q=>
     obtain⟨b',ajg⟩:=q;simp only [hf,bL,az,dx] at hp;obtain⟨rfl,rfl,rfl⟩:=hp;obtain⟨p,hp,hs,hb,ho,hg⟩:=Ho hf;obtain⟨e1,e2⟩:=h.ptr p hp;subst hs hb ho;refine⟨e1,fun _ fP=>(by cases fP),fun _ Hn=>?_⟩;obtain⟨e3,k,e4,e5⟩:=e2 (hg.elim (fun hg=>by simp [hg,zR]) (fun hg=>by rw [hg];exact Hn));exact⟨e3,k,by simp [sK,e5],e4⟩
   ·cases hp
 |const v=>cases hp
 |global g=>cases hp
 |func f=>cases hp
theorem Hp {iA:List PanicEntry→Env→World→XS→Prop} {next:Env→World→XS→Prop} : ∀(nd:List Nat) {l:List TI},
  gP P iA next (nd.map .Lo++l) env w X→(∀b,b∈nd→cu (env b)=true)∧gP P iA next l env w X
 |[],_,h=>⟨fun _ hb=>(by cases hb),h⟩
 |b::nd,l,h=>by
  obtain⟨h1,h2⟩:cu (env b)=true∧gP P iA next (nd.map .Lo++l) env w X:=by simpa only [List.map_cons,qK,gP,R5,fe] using h
  obtain⟨h3,h4⟩:=Hp nd h2;refine⟨fun b' fP=>?_,h4⟩;rcases List.mem_cons.1 fP with rfl|fP
  ·exact h1
  ·exact h3 b' fP
theorem yJ {iA:List PanicEntry→Env→World→XS→Prop} {next:Env→World→XS→Prop} : ∀(l l':List TI),gP P iA next (l++l')=gP P iA (gP P iA next l') l
 |[],_=>rfl
 |i::l,l'=>by
  funext env w X
  simp only [qK,gP,yJ l l']
inductive Shape (P:Program) (pl:bu) (cs:CS) (og:Option (Nat×Bool)) (m:Bool) (o:Oper):CR→Prop
 |mv (x:Operand) (d:Nat) (e:Ex) (ho:o.op= .move x∨o.op= .assign x) (hd:o.dst=some d) (hv:valOf pl cs x=some e) (hp:pl.kK d=true):
   Shape P pl cs og m o ⟨true,[],(od pl cs d e).1,(od pl cs d e).2,[],[]⟩
 |ld (t:TypeId) (x:Operand) (d b off:Nat) (nd:List Nat) (ag:Bool) (sz bs:Nat) (ho:o.op= .load t x) (hd:o.dst=some d) (hx:bB.sa pl cs og x=some (b,off,nd))
   (ht:je P t=some (ag,sz)) (hb:look pl.boxes b=some bs) (hp:pl.kK d=true) (hl:off+sz≤bs) (ha:(ag||sz==1)=true):
   Shape P pl cs og m o ⟨true,nd,(od pl (cs.jW nd) d (if ag then .s b off sz else .k b off)).1,(od pl (cs.jW nd) d (if ag then .s b off sz else .k b off)).2,[b],[]⟩
 |fa (S:TypeId) (x:Operand) (f d b off:Nat) (nd:List Nat) (fo sz:Nat) (ho:o.op= .fieldAddr S x f) (hd:o.dst=some d) (hx:bB.sa pl cs og x=some (b,off,nd))
   (hf:fieldInfo P S f=some (fo,sz)) (EL:pl.PD.contains d=true) (cI:d<pl.n) (j5:look pl.boxes d=none) (hz:sz≠0):
   Shape P pl cs og m o ⟨true,nd,[],(cs.jW nd).jV d b (off+fo) og,[],[]⟩
 |rd (d:Nat) (ss:List (Nat×Ex)) (hd:o.dst=some d) (hs:subst pl cs o.op.operands.toList=some ss) (hn:EH o.op=true) (hp:pl.kK d=true):
   Shape P pl cs og m o ⟨true,[],[.rd d o.op o.type ss],cs.bind pl d,[],[]⟩
 |zP (d:Nat) (ss:List (Nat×Ex)) (hd:o.dst=some d) (hs:subst pl cs o.op.operands.toList=some ss) (hn:EH o.op=true) (hp:pl.kK d=true):
   Shape P pl cs og m o ⟨false,[],[.zP (some d) o.op o.type ss m],cs.bind pl d,[],[]⟩
 |act (ss:List (Nat×Ex)) (hd:o.dst=none) (hs:subst pl cs o.op.operands.toList=some ss) (hn:EH o.op=true):
   Shape P pl cs og m o ⟨false,[],[.zP none o.op o.type ss m],cs,[],[]⟩
 |bx (t:TypeId) (x:Operand) (d sz:Nat) (e:Ex) (ag:Bool) (ho:o.op= .box t x) (hd:o.dst=some d) (hb:look pl.boxes d=some sz) (hv:valOf pl cs x=some e) (ht:je P t=some (ag,sz)) (cI:d<pl.n):
   Shape P pl cs og m o ⟨false,[],[if !ag&&sz==1 then .C5 d e else .box d sz e],(cs.kill d).jW [d],[],[]⟩
 |al (t:TypeId) (d sz:Nat) (i:TypeInfo) (z:Value) (ag:Bool) (ho:o.op= .alloc t) (hd:o.dst=some d) (hb:look pl.boxes d=some sz) (hi:P.info? t=some i) (hz:i.zero=some z) (ht:je P t=some (ag,sz)) (cI:d<pl.n):
   Shape P pl cs og m o ⟨false,[],[if !ag&&sz==1 then .C5 d (.c z)else .box d sz (.c z)],(cs.kill d).jW [d],[],[]⟩
 |st (t:TypeId) (x v:Operand) (b off:Nat) (nd:List Nat) (sz bs:Nat) (e:Ex) (ag:Bool) (ho:o.op= .store t x v) (hd:o.dst=none) (hx:bB.sa pl cs og x=some (b,off,nd))
   (hv:valOf pl cs v=some e) (ht:je P t=some (ag,sz)) (hb:look pl.boxes b=some bs) (hl:off+sz≤bs):
   Shape P pl cs og m o ⟨false,nd,[if !ag&&sz==1 then .R2 b off e else if off==0&&sz==bs then .fill b sz e else .put b off sz e],(cs.jW nd).I4 b,[],[b]⟩
theorem tf {m:Bool} {og:Option (Nat×Bool)} {o:Oper} {r:CR} (h:Co P pl cs m o=some r):Shape P pl cs og m o r:=by
 unfold Co at h;split at h
 ·cases h
 ·rename_i ss hs;split at h
  ·cases h
  ·rename_i hn;simp only [dL,vn] at hn;split at h
   ·rename_i d hd;split at h
    ·cases h
    ·rename_i hp;simp only [dL,vn] at hp;split at h<;>injection h with h<;>subst h
     ·exact .rd d ss hd hs hn hp
     ·exact .zP d ss hd hs hn hp
   ·rename_i hd;injection h with h
    subst h;exact .act ss hd hs hn
theorem PI {m:Bool} {og:Option (Nat×Bool)} {o:Oper} {r:CR} {sz d t:Nat} {e:Ex} (h:R7 P pl cs sz t e d=some r)
  (k: ∀ag,d<pl.n→je P t=some (ag,sz)→Shape P pl cs og m o ⟨false,[],[if !ag&&sz==1 then .C5 d e else .box d sz e],(cs.kill d).jW [d],[],[]⟩):Shape P pl cs og m o r:=by
 unfold R7 at h;split at h
 ·rename_i ag s ht;split at h
  ·rename_i hc;simp only [aY,decide_eq_true_eq,beq_iff_eq] at hc;obtain⟨h1,h2⟩:=hc;subst h2;injection h with h
   subst h;exact k ag h1 ht
  ·cases h
 ·cases h
theorem pE {m:Bool} {og:Option (Nat×Bool)} {o:Oper} {r:CR} (h:AG P pl cs og m o=some r):Shape P pl cs og m o r:=by
 unfold AG at h;split at h;case h_1 x ho=>
  split at h
  ·rename_i d e hd hv;split at h
   ·rename_i hp;injection h with h
    subst h;exact .mv x d e (.inl ho) hd hv hp
   ·cases h
  ·cases h
 case h_2 x ho=>
  split at h
  ·rename_i d e hd hv;split at h
   ·rename_i hp;injection h with h
    subst h;exact .mv x d e (.inr ho) hd hv hp
   ·cases h
  ·cases h
 case h_3 t x ho=>
  split at h
  ·rename_i d hd;split at h
   ·rename_i sz hb;split at h
    ·rename_i e hv;exact PI h fun ag cI ht=>.bx t x d sz e ag ho hd hb hv ht cI
    ·cases h
   ·exact tf h
  ·cases h
 case h_4 t ho=>
  split at h
  ·rename_i d hd;split at h
   ·rename_i sz hb;split at h
    ·rename_i z hz;cases hi:P.info? t with
     |none=>simp [hi] at hz
     |some i=>
      simp only [hi,cU] at hz;exact PI h fun ag cI ht=>.al t d sz i z ag ho hd hb hi hz ht cI
    ·cases h
   ·exact tf h
  ·cases h
 case h_5 S x f ho=>
  split at h
  ·rename_i b off nd hx;split at h
   ·rename_i d fo sz hd hf;split at h
    ·rename_i hc;simp only [aY,decide_eq_true_eq,lr,bne_iff_ne,ne_eq] at hc;injection h with h
     subst h;exact .fa S x f d b off nd fo sz ho hd hx hf hc.1.1.1 hc.1.1.2 hc.1.2 hc.2
    ·cases h
   ·cases h
  ·exact tf h
 case h_6 t x ho=>
  split at h
  ·rename_i b off nd hx;split at h
   ·rename_i d ag sz bs hd ht hb;split at h
    ·rename_i hc;simp only [aY,decide_eq_true_eq] at hc;injection h with h
     subst h;exact .ld t x d b off nd ag sz bs ho hd hx ht hb hc.1.1 hc.1.2 hc.2
    ·cases h
   ·cases h
  ·exact tf h
 case h_7 t x v ho=>
  split at h
  ·rename_i b off nd hx;split at h
   ·rename_i e ag sz bs hd hv ht hb;split at h
    ·rename_i hc;simp only [decide_eq_true_eq] at hc;injection h with h
     subst h;exact .st t x v b off nd sz bs e ag ho hd hx hv ht hb hc
    ·cases h
   ·cases h
  ·exact tf h
 case h_8=>exact tf h
end
section
variable {P : Program} {pl : bu} {ds : Bk} {cs : CS} {env : Env} {X : XS} {w0 w : World} {a : Act}
theorem e7.zb (h:e7 pl ds cs env X w0 a w) {RB:List Nat} {k:Nat} (hz:ZB pl RB a k): ¬X k:=by
 obtain⟨b,n,hb,_,ht⟩:=hz;obtain⟨c,hc⟩:=te.1 (h.conv b n hb k ht);obtain⟨k',ty,e1,_,_,e4⟩:=h.box b n hb c hc;rw [ht] at e1;have:k'=k:=by simpa [gu] using e1.symm
 subst this;exact e4
theorem e7.kp0 (h:e7 pl ds cs env X w0 a w) {RB:List Nat} {w':World} (hx:Fr (ZB pl RB a) w w'):Kp X w0 w':=
 h.ext.trans (hx.kp fun k hk=>⟨h.xO k hk,fun hz=>h.zb hz hk⟩)
theorem e7.dP (h:e7 pl ds cs env X w0 a w) {b n k:Nat} (hb:look pl.boxes b=some n) (ht:a.tmps[b]? =some (gu k 0)):k<w.heap.size∧ ¬X k:=by
 obtain⟨c,hc⟩:=te.1 (h.conv b n hb k ht);obtain⟨k',ty,e1,e2,_,e4⟩:=h.box b n hb c hc;rw [ht] at e1;have:k'=k:=by simpa [gu] using e1.symm
 subst this;exact⟨(Array.getElem?_eq_some_iff.1 e2).1,e4⟩
theorem e7.abe (h:e7 pl ds cs env X w0 a w) {sb:List Nat} {w':World} (hx:Fr X w w'):uU pl sb a w w':=
 fun _ _ _ hb _ hk=>hx.block _ (h.dP hb hk).1 (h.dP hb hk).2
theorem nG.fG {sb:List Nat} {a':Act} {w':World} (hx:Ext w w') (hz: ∀b n,look pl.boxes b=some n→ ∀k,k<w.heap.size→a'.tmps[b]? =some (gu k 0)→a.tmps[b]? =some (gu k 0)):nG pl sb a w a' w':=
 fun _ _=>⟨hx.fr _,fun k hk ⟨b,n,h1,h2,h3⟩=>⟨b,n,h1,h2,hz b n h1 k hk h3⟩⟩
theorem nG.abf {sb:List Nat} {w':World} {d:Option Nat} {v:Value} (hx:Ext w w') (hd: ∀x,d=some x→look pl.boxes x=none):nG pl sb a w (a.put d v) w':=by
 refine nG.fG hx fun b n hb k _ hk=>?_;cases d with
 |none=>exact hk
 |some x=>rwa [fS _ _ _ _ (qc hb (hd x rfl))] at hk
theorem nG.sub {sb ZK:List Nat} {a':Act} {w':World} (h:nG pl sb a w a' w') (hs: ∀b,b∈sb→b∈ZK):nG pl ZK a w a' w':=
 fun RB ZL=>h RB fun b hb=>ZL b (hs b hb)
theorem PJ {P:Program} {m:Bool} {og:Option (Nat×Bool)} {o:Oper} {r:CR} (hs:Shape P pl cs og m o r) (fF:r.fl=true): ∀x,o.dst=some x→look pl.boxes x=none:=by
 have f: ∀{d:Nat},o.dst=some d→pl.kK d=true→ ∀x,o.dst=some x→look pl.boxes x=none:=fun hd hp x hx=>by
  rw [hd] at hx;injection hx with hx;subst hx;exact(uK hp).2.1
 cases hs with
 |mv x d e ho hd hv hp=>exact f hd hp
 |ld t x d b off nd ag sz bs ho hd hx ht hb hp hl ha=>exact f hd hp
 |fa S x g d b off nd fo sz ho hd hx hf EL cI j5 hz=>intro y hy;rw [hd] at hy;injection hy with hy;subst hy;exact j5
 |rd d ss hd hs hn hp=>exact f hd hp
 |zP=>cases fF
 |act=>cases fF
 |bx=>cases fF
 |al=>cases fF
 |st=>cases fF
theorem PK {m:Bool} {og:Option (Nat×Bool)} {o:Oper} {r:CR} (hs:Shape P pl cs og m o r) (h:e7 pl ds cs env X w0 a w) (hg:zR env og)
  (hl: ∀b,b∈r.nd→cu (env b)=true) (fF:r.fl=true) {iA:List PanicEntry→Env→World→XS→Prop} {next:Env→World→XS→Prop} (hd:gP P iA next r.l env w0 X) (lp: ∀b,b∈ll r.l→ ∀p,p∈ds.pins→p.1≠b):
  ∃v dA,((∀wa,Fr (ZB pl r.rb a) w wa→(execOp a.eval o).run P wa= .ok (.value v) wa)∧
   ∀b,b∈r.rb→ ∃k n,look pl.boxes b=some n∧a.tmps[b]? =some (gu k 0)∧ ∀wa:World,wa.heap[k]? =w.heap[k]? →(execOp a.eval o).run P wa= .ok (.value v) wa)∧e7 pl ds r.cs dA X w0 (a.put o.dst v) w∧next dA w0 X:=by
 cases hs with
 |mv x d e ho iL hv hp=>
  obtain⟨dA,h1,h2⟩:=h.od hp e hd lp;refine⟨e.ev env,dA,⟨fun wa _=>?_,fun _ hb=>by cases hb⟩,by rw [iL];exact h1,h2⟩;have he:=h.eval hv;rcases ho with ho|ho<;>simp [execOp,ho,he]
 |ld t x d b off nd ag sz bs ho iL hx ht hb hp cI ha=>
  obtain⟨⟨n,hn⟩,mf,hk⟩:=h.sa hx;obtain⟨hA,k,he,oP⟩:=hk hl hg;obtain⟨cells,hc⟩:=te.1 hA;obtain⟨k',ty,e1,e2,e3,_⟩:=h.box b n hn cells hc;have xP:k'=k:=by rw [oP] at e1;simpa [gu] using e1.symm
  subst xP;have PM:bs=n:=by rw [hb] at hn;injection hn
  subst PM;have h':=h.jW (nd:=nd) fun b' fP=>⟨mf b' fP,hl b' fP⟩;obtain⟨dA,h1,h2⟩:=h'.od hp _ hd lp;have ZU:(if ag then Ex.s b off sz else Ex.k b off).ev env=if ag then cj (.agg cells) off sz else cellOf (.agg cells) off:=by
   cases ag<;>simp [Ex.ev,hc]
  have Hq: ∀wa:World,wa.heap[k']? =w.heap[k']? →(execOp a.eval o).run P wa= .ok (.value ((if ag then Ex.s b off sz else Ex.k b off).ev env)) wa:=by
   intro wa DH;have e2':wa.heap[k']? =some (.cells cells ty (0,0)):=DH.trans e2;have:=Mz ht ha e2' off zQ;rw [ZU];simp [execOp,ho,he,this]
  refine⟨_,dA,⟨fun wa DH=>Hq wa ?_,fun b' fP=>?_⟩,by rw [iL];exact h1,h2⟩
  rotate_left
  ·have:=List.mem_singleton.1 fP;subst this;exact⟨k',bs,hn,oP,Hq⟩
  have e2':wa.heap[k']? =some (.cells cells ty (0,0)):=by
   rw [DH.block k' (Array.getElem?_eq_some_iff.1 e2).1 ?_]
   ·exact e2
   ·rintro⟨b2,n2,g1,g2,g3⟩;exact g2 (List.mem_singleton.2 (h.inj b2 b n2 bs g1 hn (h.conv b2 n2 g1 k' g3) hA k' g3 oP))
  rw [e2',e2]
 |fa S x f d b off nd fo sz ho iL hx hf EL cI j5 hz=>
  obtain⟨⟨n,hn⟩,mf,hk⟩:=h.sa hx;obtain⟨hA,k,he,oP⟩:=hk hl hg;have h':=h.jW (nd:=nd) fun b' fP=>⟨mf b' fP,hl b' fP⟩;refine⟨gu k (off+fo),env,⟨fun wa _=>?_,fun _ hb=>by cases hb⟩,?_,hd⟩
  ·have:=Ks hf hz k off wa;simp [execOp,ho,he,this]
  ·rw [iL];exact h'.derive cI j5 EL _ ⟨n,hn⟩ fun _=>⟨hA,k,oP,rfl⟩
 |rd d ss iL Ku hn hp=>
  obtain⟨v,h1,h2⟩:=hd;refine⟨v,_,⟨fun wa DH=>?_,fun _ hb=>by cases hb⟩,by rw [iL];exact h.bind hp v (lp d (by simp [ll,TI.FW])),h2⟩;rw [h.exec Ku hn,←ZH _ (fun _=>rfl)];exact h1 wa (h.kp0 DH)
 |zP=>cases fF
 |act=>cases fF
 |bx=>cases fF
 |al=>cases fF
 |st=>cases fF
def uL (pl:bu) (ds:Bk) (env:Env) (X:XS) (a:Act) (w:World):Prop:=
 (∀k,X k→k<w.heap.size)∧ ∀p,p∈ds.pins→a.tmps[p.1]? =some p.2∧(pl.kJ p.1=true∨ ∃n k cells ty,p.2=gu k 0∧look pl.boxes p.1=some n∧env p.1= .agg cells∧w.heap[k]? =some (.cells cells ty (0,0))∧cells.size=n∧ ¬X k)
theorem e7.pinned (h:e7 pl ds cs env X w0 a w):uL pl ds env X a w:=⟨h.xO,fun p hp=>by
 obtain⟨ht,⟨n,k,hn,hk⟩|hg⟩:=h.zS p hp
 ·refine⟨ht,.inr ?_⟩;rw [hk] at ht;obtain⟨cells,hc⟩:=te.1 (h.conv p.1 n hn _ ht);obtain⟨k',ty,e1,e2,e3,e4⟩:=h.box p.1 n hn cells hc;rw [ht] at e1;have:k=k':=by simpa [gu] using e1
  subst this;exact⟨n,k,cells,ty,hk,hn,hc,e2,e3,e4⟩
 ·exact⟨ht,.inl hg⟩⟩
theorem uL.put {d:Option Nat} {v:Value} (h:uL pl ds env X (a.put d v) w) (hd: ∀x,d=some x→ ∀p,p∈ds.pins→p.1≠x):uL pl ds env X a w:=⟨h.1,fun p hp=>by
 obtain⟨h1,h2⟩:=h.2 p hp;refine⟨?_,h2⟩;cases d with
 |none=>exact h1
 |some x=>rwa [fS _ _ _ _ (hd x rfl p hp)] at h1⟩
theorem MA {m:Bool} {og:Option (Nat×Bool)} {o:Oper} {r:CR} (hs:Shape P pl cs og m o r) (fF:r.fl=true): ∀x,o.dst=some x→pl.kJ x=true→x∈ll r.l:=by
 have f: ∀{Wu:CS} {d:Nat} {e:Ex},o.dst=some d→ ∀x,o.dst=some x→pl.kJ x=true→x∈ll (od pl Wu d e).1:=fun hd x hx hg=>by
  rw [hd] at hx;injection hx with hx;subst hx
  unfold od;rw [if_pos (by simp [hg])];simp [ll,TI.FW]
 cases hs with
 |mv x d e ho hd hv hp=>exact f hd
 |ld t x d b off nd ag sz bs ho hd hx ht hb hp hl ha=>exact f hd
 |fa S x g d b off nd fo sz ho hd hx hf EL cI j5 hz=>
  intro y hy hg;rw [hd] at hy;injection hy with hy;subst hy
  have:=(uc hg).2.2;rw [EL] at this;cases this
 |rd d ss hd hs hn hp=>intro y hy _;rw [hd] at hy;injection hy with hy;subst hy;simp [ll,TI.FW]
 |zP=>cases fF
 |act=>cases fF
 |bx=>cases fF
 |al=>cases fF
 |st=>cases fF
theorem PN {m:Bool} {og:Option (Nat×Bool)} {o:Oper} {r:CR} (hs:Shape P pl cs og m o r) (h:e7 pl ds cs env X w0 a w) (hg:zR env og)
  (hl: ∀b,b∈r.nd→cu (env b)=true) (fF:r.fl=false) {iA:List PanicEntry→Env→World→XS→Prop} {next:Env→World→XS→Prop} (hd:gP P iA next r.l env w0 X)
  {K:Act→World→Prop} {Q:Exit→Act→World→Prop}
  (hK: ∀a' w' dA X' eX,e7 pl ds r.cs dA X' eX a' w'→next dA eX X'→uV (m=false) pl r.sb a w a' w'→K a' w')
  (lp: ∀b,b∈ll r.l→ ∀p,p∈ds.pins→p.1≠b)
  (hQ: ∀ch w' dA X' eX,Kp X' eX w'→uL pl ds dA X' a w'→iA ch dA eX X'→Q (.panic ch) a w'):o.wp P a w K Q:=by
 have real: ∀(sc:CS) (ss:List (Nat×Ex)),(∀x,o.dst=some x→look pl.boxes x=none)→subst pl cs o.op.operands.toList=some ss→EH o.op=true→
   (∀m' w' v,Step m' X w w'→e7 pl ds sc (Hj env o.dst v) (grow X w w') w' (a.put o.dst v) w')→r.cs=sc→
   (∀wa,Kp X w0 wa→jy P m X wa (fun v w' X'=>next (Hj env o.dst v) w' X') (fun ch w' X'=>iA ch env w' X') ((PB (Hk env ss) o.op o.type).run P wa))→o.wp P a w K Q:=by
  intro sc ss hdd Ku hn hS mg he;have he:=he w h.ext;unfold pD;rw [h.exec Ku hn,←ZH _ (fun _=>rfl)];have fZ: ∀w' v,Step m X w w'→uV (m=false) pl r.sb a w (a.put o.dst v) w':=fun w' v hs=>⟨fun hm=>by subst hm;exact nG.abf hs hdd,h.abe hs.fr⟩;cases hr:(PB (Hk env ss) o.op o.type).run P w with
  |ok n w'=>
   rw [hr] at he;cases n<;>simp only [jy] at he<;>simp only [lk]
   case value v=>exact hK _ _ _ _ _ (mg▸hS m w' v he.1) he.2 (fZ _ _ he.1)
   case skip=>exact hK _ _ _ _ _ (mg▸hS m w' undef he.1) he.2 (fZ _ _ he.1)
   case enter f args=>
    obtain⟨rfl,hc⟩:=he;refine hc.mono fun e nj hR=>?_;cases e with
    |returned v=>exact hK _ _ _ _ _ (mg▸hS m nj v hR.1) hR.2 (fZ _ _ hR.1)
    |panicked ch=>exact hQ _ _ _ _ _ (Kp.refl _ _) (h.I6 hR.1).pinned hR.2
    |outgrown=>exact hR.elim
  |halt x w'=>
   rw [hr] at he;cases x<;>simp only [jy] at he<;>simp only [lk]
   case panic v=>exact hQ _ _ _ _ _ (Kp.refl _ _) (h.I6 he.1).pinned he.2
 have boxed: ∀{d sz:Nat} {e:Ex} {ag:Bool},gP P iA next [if !ag&&sz==1 then .C5 d e else .box d sz e] env w0 X→
   (e.ev env).cells.size=sz∧next (lR env d (.agg (e.ev env).cells)) w0 X:=by
  intro d sz e ag hd;simp only [gP] at hd;split at hd
  ·rename_i wc;simp only [aY,dL,beq_iff_eq] at wc;obtain⟨g1,g2⟩:=fe.1 hd;rw [vu g1];exact⟨by simp [wc.2],g2⟩
  ·obtain⟨g1,g2⟩:=fe.1 hd;exact⟨by simpa using g1,g2⟩
 have aey: ∀(t d:Nat) (_:d<pl.n) (cells:Array Value),nG pl [] a w (a.put (some d) (gu w.heap.size 0)) (w.alloc (.cells cells t)):=by
  intro t d cI cells;refine nG.fG (Ext.alloc _ _) fun b n hbb k hk xP=>?_;by_cases e:b=d
  ·subst e;rw [td _ _ _ _ (by rw [h.size];exact cI),if_pos rfl] at xP;have:w.heap.size=k:=by simpa [gu] using xP
   omega
  ·rwa [fS _ _ _ _ e] at xP
 cases hs with
 |mv=>cases fF
 |ld=>cases fF
 |fa=>cases fF
 |rd=>cases fF
 |zP d ss iL Ku hn hp=>
  refine real (cs.bind pl d) ss (fun x hx=>by rw [iL] at hx;injection hx with hx;subst hx;exact(uK hp).2.1) Ku hn (fun m' w' v fZ=>?_) rfl ?_
  ·rw [iL];exact(h.I6 fZ).bind hp v (lp d (by simp [ll,TI.FW]))
  ·intro wa DH;have:=hd wa DH;rw [iL];exact this
 |act ss iL Ku hn=>
  refine real cs ss (fun x hx=>by rw [iL] at hx;cases hx) Ku hn (fun m' w' v fZ=>?_) rfl ?_
  ·rw [iL];exact h.I6 fZ
  ·intro wa DH;have:=hd wa DH;rw [iL];exact this
 |bx t x d sz e ag ho iL hb hv ht cI=>
  have he:=h.eval hv;obtain⟨h1,h2⟩:=boxed hd;have hr:(execOp a.eval o).run P w= .ok (.value (gu w.heap.size 0)) (w.alloc (.cells (e.ev env).cells t)):=by
   simp [execOp,ho,he,Instr.box,newVar,newRow,gu]
  unfold pD;rw [hr];simp only [lk];rw [iL];exact hK _ _ _ _ _ (h.ZR cI hb (e.ev env).cells h1 t (lp d (by split<;>simp [ll,TI.FW]))) h2 ⟨fun _=>aey t d cI _,h.abe ((Ext.alloc _ _).fr X)⟩
 |al t d sz i z ag ho iL hb hi hz ht cI=>
  obtain⟨h1,h2⟩:=boxed hd;have hr:(execOp a.eval o).run P w= .ok (.value (gu w.heap.size 0)) (w.alloc (.cells z.cells t)):=by
   simp [execOp,ho,Instr.alloc,zeroValue,typeInfo,hi,hz,newVar,newRow,gu]
  unfold pD;rw [hr];simp only [lk];rw [iL];exact hK _ _ _ _ _ (h.ZR cI hb z.cells h1 t (lp d (by split<;>simp [ll,TI.FW]))) h2 ⟨fun _=>aey t d cI _,h.abe ((Ext.alloc _ _).fr X)⟩
 |st t x v b off nd sz bs e ag ho iL hx hv ht hb cI=>
  obtain⟨⟨n,hn⟩,mf,hk⟩:=h.sa hx;obtain⟨hA,k,he,oP⟩:=hk hl hg;obtain⟨cells,hc⟩:=te.1 hA;obtain⟨k',ty,e1,e2,e3,e4⟩:=h.box b n hn cells hc;have xP:k'=k:=by rw [oP] at e1;simpa [gu] using e1.symm
  subst xP;have PM:bs=n:=by rw [hb] at hn;injection hn
  subst PM;obtain⟨h1,h2,h3⟩:(e.ev env).cells.size=sz∧(e.ev env).cells.toList.all one=true∧next (lR env b (.agg (cH (env b).cells.toList off (e.ev env).cells.toList).toArray)) w0 X:=by
   simp only [gP] at hd;split at hd
   ·rename_i wc;simp only [aY,dL,beq_iff_eq] at wc;obtain⟨g1,g2⟩:=fe.1 hd;rw [vu g1];exact⟨by simp [wc.2],by simp [g1],g2⟩
   ·split at hd
    ·rename_i wc;simp only [aY,beq_iff_eq] at wc;obtain⟨g1,hd⟩:=fe.1 hd;obtain⟨g2,g3⟩:=fe.1 hd;have g1:(e.ev env).cells.size=sz:=by simpa using g1
     refine⟨g1,g2,?_⟩;have agA:cH (env b).cells.toList off (e.ev env).cells.toList=(e.ev env).cells.toList:=by
      unfold cH;rw [hc,wc.1];have hz:cells.size≤(e.ev env).cells.size:=by omega
      show List.take 0 cells.toList++(e.ev env).cells.toList++List.drop (0+(e.ev env).cells.toList.length) cells.toList=(e.ev env).cells.toList
      rw [List.take_zero,eB,List.drop_eq_nil_of_le (by simpa using hz),List.append_nil]
     rw [agA];simpa using g3
    ·obtain⟨g1,hd⟩:=fe.1 hd;obtain⟨g2,g3⟩:=fe.1 hd;exact⟨by simpa using g1,g2,g3⟩
  have h':=h.jW (nd:=nd) fun b' fP=>⟨mf b' fP,hl b' fP⟩;have ZU:=h.eval hv;have fZ:=Kt (Vs ht) e2 off zQ (e.ev env) h1 h2;have hr:(execOp a.eval o).run P w= .ok .skip (w.setRow k' (cH cells.toList off (e.ev env).cells.toList).toArray):=by
   simp [execOp,ho,he,ZU,fZ]
  unfold pD;rw [hr];simp only [lk];rw [iL];obtain⟨f1,f2⟩:=ZT (ud:=(cH cells.toList off (e.ev env).cells.toList).toArray) e2;have fN:((cH cells.toList off (e.ev env).cells.toList).toArray).size=bs:=by
   simp only [List.size_toArray];rw [abd (by simp;omega)];simpa using e3
  rw [hc] at h3;refine hK _ _ _ _ _ (h'.store hb hc oP e2 e4 fN f1 f2) h3 ⟨fun _ RB ZL=>
   ⟨f1.mono fun j hj=>⟨b,bs,hb,ZL b (List.mem_singleton.2 rfl),by rw [hj];exact oP⟩,fun _ _ hz=>hz⟩,fun b2 n2 k2 g1 g2 g3=>f1.block k2 (h.dP g1 g3).1 fun hj=>?_⟩
  have hj:k2=k':=hj;subst hj;exact g2 (List.mem_singleton.2 (h.inj b2 b n2 bs g1 hn (h.conv b2 n2 g1 _ g3) hA _ g3 oP))
end
section
variable {P : Program} {pl : bu} {ds : Bk} {cs : CS} {env : Env} {X : XS} {w0 w : World} {a : Act} {ops : Array Oper}
variable {iA : List PanicEntry → Env → World → XS → Prop} {next : Env → World → XS → Prop}
theorem MB {g:Nat} {want:Bool} {op:Op} {r0 r:CR} (fJ:mR g want op r0=some r) (hy:kI (env g) want=true) (hd:gP P iA next r.l env w0 X):
  gP P iA next r0.l env w0 X:=by
 obtain⟨fl,nd,l,c,rb,sb⟩:=r0;unfold mR at fJ;dsimp only at fJ;split at fJ
 ·split at fJ
  ·injection fJ with e;subst e;exact hd
  ·cases fJ
 ·split at fJ
  ·cases fJ
  ·injection fJ with e;subst e
   simpa only [gP,R5,hy,if_true] using hd
 ·split at fJ
  ·cases fJ
  ·injection fJ with e;subst e
   obtain⟨v,h1,_,h2⟩:=hd;exact⟨v,h1 hy,h2⟩
 ·split at fJ
  ·cases fJ
  ·injection fJ with e;subst e
   exact hd.1 hy
 ·cases fJ
theorem yK {g:Nat} {want:Bool} {op:Op} {r0 r:CR} (fJ:mR g want op r0=some r):r.cs=r0.cs∧r.nd=r0.nd∧r.fl=r0.fl∧r.rb=r0.rb∧r.sb=r0.sb:=by
 obtain⟨fl,nd,l,c,rb,sb⟩:=r0;unfold mR at fJ;dsimp only at fJ;split at fJ<;>(try split at fJ)<;>first
  |(cases fJ;done)
  |(injection fJ with e;subst e;exact⟨rfl,rfl,rfl,rfl,rfl⟩)
theorem Hr {g:Nat} {want:Bool} {op:Op} {r0 r:CR} (fJ:mR g want op r0=some r):ll r.l=ll r0.l:=by
 obtain⟨fl,nd,l,c,rb,sb⟩:=r0;unfold mR at fJ;dsimp only at fJ;split at fJ<;>(try split at fJ)<;>first
  |(cases fJ;done)
  |(injection fJ with e;subst e;rfl)
theorem abg (nd:List Nat):ll (nd.map .Lo)=[]:=by
 induction nd with
 |nil=>rfl
 |cons b nd ih=>simp only [ll,List.map_cons,List.flatMap_cons,TI.FW,eB] at ih⊢;exact ih
theorem we (l l':List TI):ll (l++l')=ll l++ll l':=List.flatMap_append
theorem DI (r:CR):ll r.all=ll r.l:=by unfold CR.all;rw [we,abg,eB]
theorem Sd {m:Bool} {g:Nat} {want:Bool} {o:Oper} {r0 r:CR} (hs:Shape P pl cs (some (g,want)) m o r0) (fJ:mR g want o.op r0=some r) (h:e7 pl ds cs env X w0 a w)
  (hl: ∀b,b∈r0.nd→cu (env b)=true) (tH:kI (env g) want=false) (hd:gP P iA next r.l env w0 X) (lp: ∀b,b∈ll r.l→ ∀p,p∈ds.pins→p.1≠b):
  ∃dA,e7 pl ds r.cs dA X w0 (a.put o.dst undef) w∧next dA w0 X:=by
 have ZV: ∀(Wu:CS) (d:Nat) (e:Ex) (nd rb:List Nat),e7 pl ds Wu env X w0 a w→o.dst=some d→pl.kK d=true→aa6 o.op=false→r0=⟨true,nd,(od pl Wu d e).1,(od pl Wu d e).2,rb,[]⟩→
   ∃dA,e7 pl ds r.cs dA X w0 (a.put o.dst undef) w∧next dA w0 X:=by
  intro Wu d e nd rb h1 iL hp hfa hr;subst hr;unfold mR od at fJ;by_cases sM:(pl.kJ d||pl.mat.contains d)=true
  ·simp only [sM,if_true] at fJ;split at fJ
   ·cases fJ
   ·injection fJ with e1;subst e1
    simp only [gP,R5,tH,bc,if_false] at hd;exact⟨_,by rw [iL];exact h1.bind hp undef (lp d (by simp [ll,TI.FW])),hd⟩
  ·simp only [sM,hfa,bc,if_false] at fJ;cases fJ
 cases hs with
 |mv x d e ho iL hv hp=>exact ZV cs d e [] [] h iL hp (by rcases ho with ho|ho<;>rw [ho]<;>rfl) rfl
 |ld t x d b off nd ag sz bs ho iL hx ht hb hp cI ha=>
  obtain⟨_,mf,_⟩:=h.sa hx;exact ZV (cs.jW nd) d _ nd [b] (h.jW fun b' fP=>⟨mf b' fP,hl b' fP⟩) iL hp (by rw [ho];rfl) rfl
 |fa S x f d b off nd fo sz ho iL hx hf EL cI j5 hz=>
  obtain⟨hb,mf,hk⟩:=h.sa hx;have h':=h.jW (nd:=nd) fun b' fP=>⟨mf b' fP,hl b' fP⟩;unfold mR at fJ;simp only [ho,aa6,if_true,az] at fJ;subst fJ;refine⟨env,?_,hd⟩;rw [iL];exact h'.derive cI j5 EL _ hb fun hg=>by simp only [zR] at hg;rw [tH] at hg;cases hg
 |rd d ss iL Ku hn hp=>
  unfold mR at fJ;dsimp only at fJ;split at fJ
  ·cases fJ
  ·injection fJ with e;subst e
   obtain⟨v,_,h1,h2⟩:=hd;have hv:=h1 tH;subst hv;exact⟨_,by rw [iL];exact h.bind hp undef (lp d (by simp [ll,TI.FW])),h2⟩
 |zP d ss iL Ku hn hp=>
  unfold mR at fJ;dsimp only at fJ;split at fJ
  ·cases fJ
  ·injection fJ with e;subst e
   exact⟨_,by rw [iL];exact h.bind hp undef (lp d (by simp [ll,TI.FW])),hd.2 tH⟩
 |act ss iL Ku hn=>
  unfold mR at fJ;dsimp only at fJ;split at fJ
  ·cases fJ
  ·injection fJ with e;subst e
   exact⟨_,by rw [iL];exact h,hd.2 tH⟩
 |bx t x d sz e ag=>cases Se:(!ag&&sz==1)<;>(unfold mR at fJ;simp only [Se] at fJ;cases fJ)
 |al t d sz i z ag=>cases Se:(!ag&&sz==1)<;>(unfold mR at fJ;simp only [Se] at fJ;cases fJ)
 |st t x v b off nd sz bs e ag=>
  cases Se:(!ag&&sz==1)<;>cases agB:(off==0&&sz==bs)<;>(unfold mR at fJ;simp only [Se,agB] at fJ;cases fJ)
theorem Hs (h:e7 pl ds cs env X w0 a w) {o:Oper} {j gs g:Nat} {want:Bool} (hg:o.guard=some (j,want)) (zT:(ops[j]?).bind (·.dst)=some gs)
  (hv:valOf pl cs (.tmp gs)=some (.t g)):dS o (yielded ops a.tmps)=kI (env g) want:=by
 have ht:a.tmps[gs]? =some (env g):=by
  simp only [valOf] at hv;split at hv
  ·rename_i fJ;injection hv with hv
   injection hv with hv
   subst hv;exact h.sL _ fJ
  ·have:=h.sig _ (EJ hv);simpa [Ex.ev] using this
 unfold dS yielded;simp only [hg,zT,cU,ht,kI];cases env g<;>simp
theorem XE {m:Bool} {o:Oper} {r:CR} (hc:xN P pl cs ops m o=some r) (fF:r.fl=true) (h:e7 pl ds cs env X w0 a w) (hd:gP P iA next r.all env w0 X) (lp: ∀b,b∈ll r.l→ ∀p,p∈ds.pins→p.1≠b):
  ∃v dA,(YF P pl r.rb ops o v a w∧ ∀b,b∈r.rb→YL P pl b ops o v a w)∧e7 pl ds r.cs dA X w0 (a.put o.dst v) w∧next dA w0 X:=by
 obtain⟨hl,hd⟩:=Hp _ hd;unfold xN at hc;split at hc
 ·rename_i hg;obtain⟨v,dA,h1,h2,h3⟩:=PK (pE hc) h trivial hl fF hd lp;exact⟨v,dA,⟨.inl ⟨by simp [dS,hg],h1.1⟩,fun b hb=>.inl ⟨by simp [dS,hg],h1.2 b hb⟩⟩,h2,h3⟩
 ·rename_i j want hg;split at hc
  ·cases hc
  ·rename_i gs zT;split at hc
   ·rename_i g hv;have hw:=Hs h hg zT hv;cases y6:AG P pl cs (some (g,want)) m o with
    |none=>rw [y6] at hc;cases hc
    |some r0=>
     rw [y6] at hc;simp only [cU] at hc;obtain⟨e1,e2,e3,e4,e5⟩:=yK hc;cases hy:kI (env g) want with
     |true=>
      obtain⟨v,dA,h1,h2,h3⟩:=PK (pE y6) h hy (e2▸hl) (e3▸fF) (MB hc hy hd) (fun b hb=>lp b (by rw [Hr hc];exact hb));exact⟨v,dA,⟨.inl ⟨by rw [hw,hy],e4▸h1.1⟩,fun b hb=>.inl ⟨by rw [hw,hy],h1.2 b (e4▸hb)⟩⟩,e1▸h2,h3⟩
     |false=>
      obtain⟨dA,h1,h2⟩:=Sd (pE y6) hc h (e2▸hl) hy hd lp;exact⟨undef,dA,⟨.inr ⟨by rw [hw,hy],rfl⟩,fun _ _=>.inr ⟨by rw [hw,hy],rfl⟩⟩,h1,h2⟩
   ·cases hc
theorem Sf {m:Bool} {o:Oper} {r:CR} (hc:xN P pl cs ops m o=some r) (fF:r.fl=true): ∀x,o.dst=some x→look pl.boxes x=none:=by
 unfold xN at hc;split at hc
 ·exact PJ (pE hc) fF
 ·rename_i j want hg;split at hc
  ·cases hc
  ·rename_i gs zT;split at hc
   ·rename_i g hv;cases y6:AG P pl cs (some (g,want)) m o with
    |none=>rw [y6] at hc;cases hc
    |some r0=>
     rw [y6] at hc;simp only [cU] at hc;exact PJ (pE y6) ((yK hc).2.2.1▸fF)
   ·cases hc
theorem adq {m:Bool} {o:Oper} {r:CR} (hc:xN P pl cs ops m o=some r) (fF:r.fl=true): ∀x,o.dst=some x→pl.kJ x=true→x∈ll r.l:=by
 unfold xN at hc;split at hc
 ·exact MA (pE hc) fF
 ·rename_i j want hg;split at hc
  ·cases hc
  ·rename_i gs zT;split at hc
   ·rename_i g hv;cases y6:AG P pl cs (some (g,want)) m o with
    |none=>rw [y6] at hc;cases hc
    |some r0=>
     rw [y6] at hc;simp only [cU] at hc;rw [Hr hc];exact MA (pE y6) ((yK hc).2.2.1▸fF)
   ·cases hc
theorem e7.apart (h:e7 pl ds cs env X w0 a w) {m:Bool} {o:Oper} {r:CR} (hc:xN P pl cs ops m o=some r) (fF:r.fl=true) (hm: ∀b,b∈ll r.l→ ∀p,p∈ds.pins→p.1≠b):
  ∀x,o.dst=some x→ ∀p,p∈ds.pins→p.1≠x:=fun x hx p hp e=>by
 rcases(h.zS p hp).2 with⟨n,_,hn,_⟩|hg
 ·rw [e,Sf hc fF x hx] at hn;cases hn
 ·exact hm x (adq hc fF x hx (e▸hg)) p hp e
theorem MC {m:Bool} {o:Oper} {r:CR} (hc:xN P pl cs ops m o=some r) (h:e7 pl ds cs env X w0 a w) (hd:gP P iA next r.all env w0 X)
  {K:Act→World→Prop} {Q:Exit→Act→World→Prop}
  (hK: ∀a' w' dA X' eX,e7 pl ds r.cs dA X' eX a' w'→next dA eX X'→uV (m=false) pl r.sb a w a' w'→K a' w')
  (lp: ∀b,b∈ll r.l→ ∀p,p∈ds.pins→p.1≠b)
  (hQ: ∀ch w' dA X' eX,Kp X' eX w'→uL pl ds dA X' a w'→iA ch dA eX X'→Q (.panic ch) a w'):
  if dS o (yielded ops a.tmps)=true then o.wp P a w K Q else K (a.put o.dst undef) w:=by
 cases fF:r.fl with
 |true=>
  obtain⟨v,dA,hy,h1,h2⟩:=XE hc fF h hd lp;rcases hy.1 with⟨hw,hv⟩|⟨hw,hv⟩
  ·rw [if_pos hw];unfold pD;rw [hv w (Fr.refl _ w)];exact hK _ _ _ _ _ h1 h2 ⟨fun _=>nG.refl pl _ a w _ _ (Sf hc fF),uU.refl _ _ _ _⟩
  ·rw [if_neg (by rw [hw];simp)];subst hv;exact hK _ _ _ _ _ h1 h2 ⟨fun _=>nG.refl pl _ a w _ _ (Sf hc fF),uU.refl _ _ _ _⟩
 |false=>
  obtain⟨hl,hd⟩:=Hp _ hd;unfold xN at hc;split at hc
  ·rename_i hg;rw [if_pos (by simp [dS,hg])];exact PN (pE hc) h trivial hl fF hd hK lp hQ
  ·rename_i j want hg;split at hc
   ·cases hc
   ·rename_i gs zT;split at hc
    ·rename_i g hv;have hw:=Hs h hg zT hv;cases y6:AG P pl cs (some (g,want)) m o with
     |none=>rw [y6] at hc;cases hc
     |some r0=>
      rw [y6] at hc;simp only [cU] at hc;obtain⟨e1,e2,e3,e4,e5⟩:=yK hc;cases hy:kI (env g) want with
      |true=>
       rw [if_pos (by rw [hw,hy])];exact PN (pE y6) h hy (e2▸hl) (e3▸fF) (MB hc hy hd) (e5▸e1▸hK) (fun b hb=>lp b (by rw [Hr hc];exact hb)) hQ
      |false=>
       rw [if_neg (by rw [hw,hy];simp)];obtain⟨dA,h1,h2⟩:=Sd (pE y6) hc h (e2▸hl) hy hd lp;refine hK _ _ _ _ _ h1 h2 ⟨fun _=>?_,uU.refl _ _ _ _⟩;refine nG.fG (Ext.refl w) fun b n hb k hk xP=>?_;cases iL:o.dst with
       |none=>rw [iL] at xP;exact xP
       |some x=>
        rw [iL] at xP;by_cases fi:b=x
        ·subst fi;by_cases cI:b<a.tmps.size
         ·rw [td _ _ _ _ cI,if_pos rfl] at xP;cases xP
         ·rw [mO (by simp [kG];omega)] at xP;cases xP
        ·rwa [fS _ _ _ _ fi] at xP
    ·cases hc
theorem ZW {Q:Exit→Act→World→Prop} (hN: ∀sc a' w' dA X' eX,e7 pl ds sc dA X' eX a' w'→next dA eX X'→Q .normal a' w')
  (hQ: ∀ch a' w' dA X' eX,a'.defers=ds.ds→Kp X' eX w'→uL pl ds dA X' a' w'→iA ch dA eX X'→Q (.panic ch) a' w'): ∀(l:List Oper) (cs:CS) (tl:List TI) (env:Env) (X:XS) (w0:World) (a:Act) (w:World),
  Lp P pl ops l cs=some tl→(∀b,b∈ll tl→ ∀p,p∈ds.pins→p.1≠b)→e7 pl ds cs env X w0 a w→gP P iA next tl env w0 X→wpList P ops Q l a w
 |[],cs,tl,env,X,w0,a,w,hc,_,h,hd=>by
  simp only [Lp,az] at hc;subst hc;exact hN _ _ _ _ _ _ h hd
 |o::l,cs,tl,env,X,w0,a,w,hc,hm,h,hd=>by
  simp only [Lp] at hc;cases hr:xN P pl cs ops true o with
  |none=>simp [hr] at hc
  |some r=>
   cases hs:Lp P pl ops l r.cs with
   |none=>simp [hr,hs] at hc
   |some y7=>
    simp only [hr,hs,bL,az] at hc;subst hc;rw [yJ] at hd;rw [we,DI] at hm;refine wpList_step fun K hK=>MC hr h hd (fun a' w' dA X' eX h1 h2 _=>hK _ _ (ZW hN hQ l r.cs y7 dA X' eX a' w' hs (fun b hb=>hm b (dz _ hb)) h1 h2)) (fun b hb=>hm b (ck _ hb)) ?_;exact fun ch w' dA X' eX hx EM hp=>hQ ch a w' dA X' eX h.defers hx EM hp
theorem wg {bO:Array Bool} : ∀{l:List Nat} {i:Nat} {r:CR},yl P pl ops cs bO l=some (i,r)→
  i∈l∧r.fl=true∧I5 pl ops bO i r.rb=true∧ ∃o,ops[i]? =some o∧xN P pl cs ops (mX pl ops i) o=some r
 |[],_,_,h=>by cases h
 |j::l,i,r,h=>by
  simp only [yl] at h;split at h
  ·rename_i x hx;split at h
   ·rename_i hc;simp only [az,dx] at h;obtain⟨rfl,rfl⟩:=h;simp only [aY] at hc;cases ho:ops[j]? with
    |none=>simp [ho] at hx
    |some o=>
     simp only [ho,cU] at hx;exact⟨dt ..,hc.1,hc.2,o,rfl,hx⟩
   ·obtain⟨h1,h2⟩:=wg h;exact⟨bK _ h1,h2⟩
  ·obtain⟨h1,h2⟩:=wg h;exact⟨bK _ h1,h2⟩
theorem Kv {o:Oper} {b:Nat×Nat×Bool×Value} (h:EI P pl o=some b) (m:Bool):xN P pl cs ops m o=some ⟨false,[],[vX b],ta cs b.1,[],[]⟩:=by
 unfold EI at h;split at h
 ·rename_i t d hg ZX hd;split at h
  ·rename_i sz z ag s h1 h2 h3;split at h
   ·rename_i hc;simp only [az] at h;subst h;simp only [xN,hg,AG,ZX,hd,h1,h2,R7,h3,hc,if_true,vX,ta]
   ·cases h
  ·cases h
 ·cases h
theorem abh (env:Env) {d d':Nat} (h:d≠d') (v v':Value):lR (lR env d v) d' v'=lR (lR env d' v') d v:=by
 funext s
 by_cases h1:s=d
 ·subst h1;rw [gf _ _ h,ka,ka]
 ·by_cases h2:s=d'
  ·subst h2;rw [ka,gf _ _ (Ne.symm h),ka]
  ·rw [gf _ _ h2,gf _ _ h1,gf _ _ h1,gf _ _ h2]
theorem ZY {b b':Nat×Nat×Bool×Value} (cn:b.1≠b'.1) {l:List TI} (h:gP P iA next (vX b::vX b'::l) env w0 X):gP P iA next (vX b'::vX b::l) env w0 X:=by
 obtain⟨d,n,o,z⟩:=b;obtain⟨d',n',o',z'⟩:=b';have cn:d≠d':=cn;cases o<;>cases o'<;>simp only [vX,gP,R5,Ex.ev,fe,if_true,if_false,bc] at h⊢ <;>obtain⟨h1,h2,h3⟩:=h<;>exact⟨h2,h1,by rw [abh _ cn.symm];exact h3⟩
theorem XF {d d':Nat} {dA:Env} {X':XS} {eX:World} {a':Act} {w':World} (h:e7 pl ds (ta (ta cs d') d) dA X' eX a' w'):e7 pl ds (ta (ta cs d) d') dA X' eX a' w':=by
 refine⟨h.size,h.defers,h.zS,h.ext,h.xO,h.sL,fun p hp=>h.sig p ?_,h.box,h.inj,h.conv,fun b hb=>h.live b ?_,fun p hp=>h.ptr p ?_⟩
 ·simp only [ta,CS.kill,CS.jW,fO] at hp⊢;exact⟨⟨hp.1.1,hp.2⟩,hp.1.2⟩
 ·simp only [ta,CS.kill,CS.jW,List.mem_append,List.mem_singleton] at hb⊢;rcases hb with h|h|h
  ·exact .inr (.inl h)
  ·exact .inl h
  ·exact .inr (.inr h)
 ·simp only [ta,CS.kill,CS.jW,fO] at hp⊢;exact⟨⟨hp.1.1,hp.2⟩,hp.1.2⟩
theorem Wv {l:List Nat} {i:Nat} (h:XC l i=true):l=[i]:=by
 unfold XC at h;split at h
 ·rw [beq_iff_eq.1 h]
 ·cases h
theorem Sg {i:Nat} {o:Oper} {r:CR} {Q:Exit→Act→World→Prop} (ho:ops[i]? =some o) (hx:xN P pl cs ops (mX pl ops i) o=some r) (DJ:r.sb=[]) (h:e7 pl ds cs env X w0 a w) (hd:gP P iA next r.all env w0 X) {bO:Array Bool} {fuel:Nat}
  (lp: ∀b,b∈ll r.l→ ∀p,p∈ds.pins→p.1≠b)
  (hQ: ∀ch a' w' dA X' eX,a'.defers=ds.ds→Kp X' eX w'→uL pl ds dA X' a' w'→iA ch dA eX X'→Q (.panic ch) a' w')
  (hK: ∀a' w' dA X' eX,e7 pl ds r.cs dA X' eX a' w'→next dA eX X'→rn P pl ops Q fuel (bO.setIfInBounds i true) a' w'):
  wpOp P ops Q i (fun a' w'=>(∀o,ops[i]? =some o→uV (mX pl ops i=false) pl (rL pl ops o) a w a' w')∧rn P pl ops Q fuel (bO.setIfInBounds i true) a' w') a w:=by
 have sN:=MC (ops:=ops) (K:=fun a' w'=>(∀o',ops[i]? =some o'→uV (mX pl ops i=false) pl (rL pl ops o') a w a' w')∧rn P pl ops Q fuel (bO.setIfInBounds i true) a' w') (Q:=Q) hx h hd
  (fun a' w' dA X' eX h1 h2 h3=>⟨fun o' ue=>⟨fun tI=>(h3.1 tI).sub fun b hb=>(by rw [DJ] at hb;cases hb),h3.2.sub fun b hb=>(by rw [DJ] at hb;cases hb)⟩,hK a' w' dA X' eX h1 h2⟩)
  lp (fun ch w' dA X' eX hk EM hp=>hQ ch a w' dA X' eX h.defers hk EM hp)
 unfold wpOp;simp only [ho] at sN⊢;split
 ·rename_i hw;rw [if_pos hw] at sN;exact .inl sN
 ·rename_i hw;rw [if_neg hw] at sN;exact sN
theorem DK {Q:Exit→Act→World→Prop} (hN: ∀sc a' w' dA X' eX,e7 pl ds sc dA X' eX a' w'→next dA eX X'→Q .normal a' w')
  (hQ: ∀ch a' w' dA X' eX,a'.defers=ds.ds→Kp X' eX w'→uL pl ds dA X' a' w'→iA ch dA eX X'→Q (.panic ch) a' w')
  (FZ: ∀c a (d:Option Nat) v w,(∀x,d=some x→ ∀p,p∈ds.pins→p.1≠x)→Q (.panic c) (a.put d v) w→Q (.panic c) a w) (zI:rJ ops=true):
  ∀(fuel:Nat) (bO:Array Bool) (cs:CS) (tl:List TI) (env:Env) (X:XS) (w0:World) (a:Act) (w:World),
  tc P pl ops fuel bO cs=some tl→(∀b,b∈ll tl→ ∀p,p∈ds.pins→p.1≠b)→e7 pl ds cs env X w0 a w→gP P iA next tl env w0 X→rn P pl ops Q fuel bO a w
 |0,bO,cs,tl,env,X,w0,a,w,hc,_,h,hd=>by
  simp only [tc] at hc;split at hc
  ·rename_i hr;simp only [az] at hc;subst hc;exact⟨by simpa using hr,hN _ _ _ _ _ _ h hd⟩
  ·cases hc
 |fuel+1,bO,cs,tl,env,X,w0,a,w,hc,hm,h,hd=>by
  simp only [tc] at hc;split at hc
  ·rename_i i r hf;obtain⟨h1,h2,h3,o,ho,h4⟩:=wg hf;cases hs:tc P pl ops fuel (bO.setIfInBounds i true) r.cs with
   |none=>simp [hs] at hc
   |some y7=>
    simp only [hs,bL,az] at hc;subst hc;rw [yJ] at hd;rw [we,DI] at hm;obtain⟨v,dA,hy,hS,hn⟩:=XE h4 h2 h hd (fun b hb=>hm b (ck _ hb));have PO: ∀j oj,ops[j]? =some oj→j≠i→bO.getD j true=false→ ¬(j∈C6 ops bO i∨j=i∨(bO.getD j true=false∧ ∃oj,ops[j]? =some oj∧waits oj i=true))→_:=
     fun j oj hj cn Cq tH=>Mx ho h3 j oj hj cn Cq (fun hb=>tH (.inl hb)) (by
      cases hw:waits oj i with
      |false=>rfl
      |true=>exact absurd (.inr (.inr ⟨Cq,oj,hj,hw⟩)) tH)
    obtain⟨Y,Wp,hY,fZ⟩: ∃Y:Act→World→Prop,(∀a w,Y a w→Yx P ops o v a w)∧Y a w∧ ∀j oj,oj.dst=oj.dst→o.apart ops oj=true→(mX pl ops j=false∨yI o=true∨PE o r.rb=true)→(∀b,b∈rL pl ops oj→ ¬b∈r.rb)→
      R8 pl ops o oj (mX pl ops j=false) (rL pl ops oj) Y:=by
     cases tI:PE o r.rb with
     |false=>exact⟨YF P pl r.rb ops o v,fun _ _ h=>h.yx,hy.1,fun j oj _ _ h4 h5=>YF.ZN (h4.imp id fun h=>h.elim id fun h=>by cases h) h5⟩
     |true=>
      unfold PE at tI;split at tI
      ·rename_i t x ZX;have ZZ:x∈r.rb:=by simpa using tI
       refine⟨YL P pl x ops o v,fun _ _ h=>h.yx,hy.2 x ZZ,fun j oj _ Hl _ h5=>YL.ZN (fun d hd Ww=>?_) fun hm=>h5 x hm ZZ⟩;subst Ww;refine(rK Hl).2.2 d hd (ck _ (List.mem_filterMap.2 ⟨.tmp d,?_,rfl⟩));simp [ZX,Op.operands]
      ·cases tI
    refine Hm Wp ho (sJ zI) (PH ho h3) (fun c a' w' hq=>FZ c a' o.dst v w' (h.apart h4 h2 fun b hb=>hm b (ck _ hb)) hq) fuel bO a w
     (fun j=>j∈C6 ops bO i∨j=i∨(bO.getD j true=false∧ ∃oj,ops[j]? =some oj∧waits oj i=true)) (.inr (.inl rfl)) (fun j hj=>?_)
     (fun j oj hj cn Cq tH=>have h:=PO j oj hj cn Cq tH;⟨h.1,fZ j oj rfl h.1 h.2.1 h.2.2⟩) h1 hY ?_
    ·rcases hj with hj|rfl|⟨hu,oj,Ba,hw⟩
     ·rcases PG j hj with h|⟨h,oj,k,q1,q2,q3⟩
      ·exact .inl h
      ·exact .inr ⟨h,oj,k,q1,q2,.inl q3⟩
     ·exact .inl rfl
     ·exact .inr ⟨hu,oj,i,Ba,hw,.inr (.inl rfl)⟩
    exact DK hN hQ FZ zI fuel _ r.cs y7 dA X w0 _ w hs (fun b hb=>hm b (dz _ hb)) hS hn
  ·split at hc
   ·rename_i i hr;split at hc
    ·rename_i o ho;split at hc
     ·rename_i r hx;split at hc
      ·rename_i DJ;cases hs:tc P pl ops fuel (bO.setIfInBounds i true) r.cs with
       |none=>simp [hs] at hc
       |some y7=>
        simp only [hs,bL,az] at hc;subst hc;rw [yJ] at hd;rw [we,DI] at hm;refine⟨fun h0=>(by rw [hr] at h0;cases h0),fun i' Bc=>?_⟩;rw [hr] at Bc;have hii:=List.mem_singleton.1 Bc;subst hii;have lH: ∀b,b∈r.sb→b∈rL pl ops o:=fun b hb=>by have:=List.all_eq_true.1 DJ b hb;simpa using this
        have sN:=MC (ops:=ops) (K:=fun a' w'=>(∀o',ops[i']? =some o'→uV (mX pl ops i'=false) pl (rL pl ops o') a w a' w')∧rn P pl ops Q fuel (bO.setIfInBounds i' true) a' w') (Q:=Q) hx h hd
         (fun a' w' dA X' eX h1 h2 h3=>⟨fun o' ue=>by rw [ho] at ue;injection ue with ue;subst ue;exact⟨fun tI=>(h3.1 tI).sub lH,h3.2.sub lH⟩,DK hN hQ FZ zI fuel _ r.cs y7 dA X' eX a' w' hs (fun b hb=>hm b (dz _ hb)) h1 h2⟩)
         (fun b hb=>hm b (ck _ hb)) (fun ch w' dA X' eX hk EM hp=>hQ ch a w' dA X' eX h.defers hk EM hp)
        unfold wpOp;simp only [ho] at sN⊢;split
        ·rename_i hw;rw [if_pos hw] at sN;exact .inl sN
        ·rename_i hw;rw [if_neg hw] at sN;exact sN
      ·cases hc
     ·cases hc
    ·cases hc
   ·rename_i i j hr;split at hc
    ·rename_i bi hp;cases hs:tc P pl ops fuel (bO.setIfInBounds i true) (ta cs bi.1)with
     |none=>simp [hs] at hc
     |some y7=>
      simp only [hs,bL,az] at hc;subst hc;have hmc: ∀(i:TI) (l:List TI),ll (i::l)=ll [i]++ll l:=fun i l=>we [i] l;rw [hmc] at hm;unfold acS at hp;split at hp
      ·rename_i bi' bj hbi hbj;split at hp
       ·rename_i hpc;simp only [az] at hp;subst hp;simp only [aY,dL,beq_eq_false_iff_ne] at hpc;obtain⟨⟨cn,hri⟩,Z4⟩:=hpc;replace hri:=Wv hri;replace Z4:=Wv Z4;obtain⟨oi,hoi,hai⟩:=Option.bind_eq_some_iff.1 hbi;obtain⟨oj,Ba,haj⟩:=Option.bind_eq_some_iff.1 hbj;have Sh:=fun (cs:CS) (m:Bool)=>Kv (cs:=cs) (ops:=ops) hai m;have hcj:=fun (cs:CS) (m:Bool)=>Kv (cs:=cs) (ops:=ops) haj m;refine⟨fun h0=>(by rw [hr] at h0;cases h0),fun i' Bc=>?_⟩;rw [hr] at Bc;rcases List.mem_cons.1 Bc with rfl|Bc
        ·exact Sg hoi (Sh cs _) rfl h (hd:gP P iA (gP P iA next y7) [vX bi'] env w0 X) (fun b hb=>hm b (ck _ hb)) hQ fun a' w' dA X' eX h1 h2=>DK hN hQ FZ zI fuel _ _ y7 dA X' eX a' w' hs (fun b hb=>hm b (dz _ hb)) h1 h2
        ·have vY:=List.mem_singleton.1 Bc;subst vY;cases fuel with
         |zero=>
          simp only [tc,hri] at hs;cases hs
         |succ f=>
          simp only [tc,hri,yl,Ba,cU,hcj,Bool.false_and,bc,if_false,List.all_nil,if_true] at hs;cases dF:tc P pl ops f ((bO.setIfInBounds i true).setIfInBounds i' true) (ta (ta cs bi'.1) bj.1)with
          |none=>simp [dF] at hs
          |some Si=>
           simp only [dF,bL,az] at hs;have Sj:vX bj::Si=y7:=hs;subst Sj;rw [hmc (vX bj) Si] at hm;have rq:=ZY cn hd;refine Sg Ba (hcj cs _) rfl h (rq:gP P iA (gP P iA next (vX bi'::Si)) [vX bj] env w0 X) (fun b hb=>hm b (dz _ (ck _ hb))) hQ fun a' w' dA X' eX h1 h2=>?_;refine⟨fun h0=>(by rw [Z4] at h0;cases h0),fun k hk=>?_⟩;rw [Z4] at hk;have hki:=List.mem_singleton.1 hk;subst hki;refine Sg hoi (Sh _ _) rfl h1 (h2:gP P iA (gP P iA next Si) [vX bi'] dA eX X') (fun b hb=>hm b (ck _ hb)) hQ fun a'' nj agC r6 Bd h3 h4=>?_;have hkj:k≠i':=fun e=>by
            subst e;rw [hoi] at Ba;cases Ba;rw [hai] at haj;cases haj;exact cn rfl
           rw [pZ _ _ hkj.symm];exact DK hN hQ FZ zI f _ _ Si agC r6 Bd a'' nj dF (fun b hb=>hm b (dz _ (dz _ hb))) (XF h3) h4
       ·cases hp
      ·cases hp
    ·cases hc
   ·cases hc
theorem PQ {P:Program} {f:Nat→Option T} : ∀{l:List Nat} {t:T},Oe l f=some t→ ∀i∈l,∃t',f i=some t'∧(∀K env w X,den P t K env w X→den P t' K env w X)∧ ∀b,b∈t'.mk→b∈t.mk
 |[],t,h,i,hi=>by cases hi
 |[j],t,h,i,hi=>by
  have y8:i=j:=List.mem_singleton.1 hi;subst y8;exact⟨t,by simpa [Oe] using h,fun _ _ _ _ h=>h,fun _ h=>h⟩
 |j::k::r,t,h,i,hi=>by
  simp only [Oe] at h;split at h
  ·rename_i a b ha hb;simp only [az] at h;subst h;rcases List.mem_cons.1 hi with rfl|hi
   ·exact⟨a,ha,fun _ _ _ _ h=>h.1,fun b hb=>ck _ hb⟩
   ·obtain⟨t',h1,h2,h3⟩:=PQ (l:=k::r) hb i hi;exact⟨t',h1,fun _ _ _ _ h=>h2 _ _ _ _ h.2,fun b hb=>dz _ (h3 b hb)⟩
  ·cases h
theorem Lq {K:nF} {Q:Exit→Act→World→Prop} (hN: ∀sc a' w' dA X' eX,e7 pl ds sc dA X' eX a' w'→K .normal dA eX X'→Q .normal a' w')
  (hQ: ∀ch a' w' dA X' eX,a'.defers=ds.ds→Kp X' eX w'→uL pl ds dA X' a' w'→K (.panic ch) dA eX X'→Q (.panic ch) a' w')
  (FZ: ∀c a (d:Option Nat) v w,(∀x,d=some x→ ∀p,p∈ds.pins→p.1≠x)→Q (.panic c) (a.put d v) w→Q (.panic c) a w) (zI:rJ ops=true):
  ∀(fuel:Nat) (bO:Array Bool) (cs:CS) (t:T) (env:Env) (X:XS) (w0:World) (a:Act) (w:World),
  y5 P pl ops fuel bO cs=some t→(∀b,b∈t.mk→ ∀p,p∈ds.pins→p.1≠b)→e7 pl ds cs env X w0 a w→den P t K env w0 X→rn P pl ops Q fuel bO a w
 |0,bO,cs,t,env,X,w0,a,w,hc,_,h,hd=>by
  simp only [y5] at hc;split at hc
  ·rename_i hr;simp only [az] at hc;subst hc;exact⟨by simpa using hr,hN _ _ _ _ _ _ h hd⟩
  ·cases hc
 |fuel+1,bO,cs,t,env,X,w0,a,w,hc,hm,h,hd=>by
  simp only [y5] at hc;split at hc
  ·rename_i i r hf;obtain⟨h1,h2,h3,o,ho,h4⟩:=wg hf;cases hs:y5 P pl ops fuel (bO.setIfInBounds i true) r.cs with
   |none=>simp [hs] at hc
   |some y7=>
    simp only [hs,bL,az] at hc;subst hc;have hd:gP P (fun ch=>K (.panic ch)) (fun e w X=>den P y7 K e w X) r.all env w0 X:=hd;have hm: ∀b,b∈ll r.l++y7.mk→ ∀p,p∈ds.pins→p.1≠b:=by
     simp only [T.mk,DI] at hm;exact hm
    obtain⟨v,dA,hy,hS,hn⟩:=XE h4 h2 h hd (fun b hb=>hm b (ck _ hb));have PO: ∀j oj,ops[j]? =some oj→j≠i→bO.getD j true=false→ ¬(j∈C6 ops bO i∨j=i∨(bO.getD j true=false∧ ∃oj,ops[j]? =some oj∧waits oj i=true))→_:=
     fun j oj hj cn Cq tH=>Mx ho h3 j oj hj cn Cq (fun hb=>tH (.inl hb)) (by
      cases hw:waits oj i with
      |false=>rfl
      |true=>exact absurd (.inr (.inr ⟨Cq,oj,hj,hw⟩)) tH)
    obtain⟨Y,Wp,hY,fZ⟩: ∃Y:Act→World→Prop,(∀a w,Y a w→Yx P ops o v a w)∧Y a w∧ ∀j oj,oj.dst=oj.dst→o.apart ops oj=true→(mX pl ops j=false∨yI o=true∨PE o r.rb=true)→(∀b,b∈rL pl ops oj→ ¬b∈r.rb)→
      R8 pl ops o oj (mX pl ops j=false) (rL pl ops oj) Y:=by
     cases tI:PE o r.rb with
     |false=>exact⟨YF P pl r.rb ops o v,fun _ _ h=>h.yx,hy.1,fun j oj _ _ h4 h5=>YF.ZN (h4.imp id fun h=>h.elim id fun h=>by cases h) h5⟩
     |true=>
      unfold PE at tI;split at tI
      ·rename_i t x ZX;have ZZ:x∈r.rb:=by simpa using tI
       refine⟨YL P pl x ops o v,fun _ _ h=>h.yx,hy.2 x ZZ,fun j oj _ Hl _ h5=>YL.ZN (fun d hd Ww=>?_) fun hm=>h5 x hm ZZ⟩;subst Ww;refine(rK Hl).2.2 d hd (ck _ (List.mem_filterMap.2 ⟨.tmp d,?_,rfl⟩));simp [ZX,Op.operands]
      ·cases tI
    refine Hm Wp ho (sJ zI) (PH ho h3) (fun c a' w' hq=>FZ c a' o.dst v w' (h.apart h4 h2 fun b hb=>hm b (ck _ hb)) hq) fuel bO a w
     (fun j=>j∈C6 ops bO i∨j=i∨(bO.getD j true=false∧ ∃oj,ops[j]? =some oj∧waits oj i=true)) (.inr (.inl rfl)) (fun j hj=>?_)
     (fun j oj hj cn Cq tH=>have h:=PO j oj hj cn Cq tH;⟨h.1,fZ j oj rfl h.1 h.2.1 h.2.2⟩) h1 hY ?_
    ·rcases hj with hj|rfl|⟨hu,oj,Ba,hw⟩
     ·rcases PG j hj with h|⟨h,oj,k,q1,q2,q3⟩
      ·exact .inl h
      ·exact .inr ⟨h,oj,k,q1,q2,.inl q3⟩
     ·exact .inl rfl
     ·exact .inr ⟨hu,oj,i,Ba,hw,.inr (.inl rfl)⟩
    exact Lq hN hQ FZ zI fuel _ r.cs y7 dA X w0 _ w hs (fun b hb=>hm b (dz _ hb)) hS hn
  ·refine⟨fun h0=>?_,fun i' Bc=>?_⟩
   ·rw [h0] at hc;simp [Oe] at hc
   obtain⟨t',h1,h2,h3⟩:=PQ (P:=P) hc i' Bc;split at h1
   ·rename_i o ho;split at h1
    ·rename_i r hx;split at h1
     ·rename_i DJ;cases hs:y5 P pl ops fuel (bO.setIfInBounds i' true) r.cs with
      |none=>simp [hs] at h1
      |some y7=>
       simp only [hs,bL,az] at h1;subst h1;have hd:gP P (fun ch=>K (.panic ch)) (fun e w X=>den P y7 K e w X) r.all env w0 X:=h2 _ _ _ _ hd;have hm: ∀b,b∈ll r.l++y7.mk→ ∀p,p∈ds.pins→p.1≠b:=fun b hb=>hm b (h3 b (by
        simp only [T.mk,DI];exact hb))
       have lH: ∀b,b∈r.sb→b∈rL pl ops o:=fun b hb=>by have:=List.all_eq_true.1 DJ b hb;simpa using this
       have sN:=MC (ops:=ops) (K:=fun a' w'=>(∀o',ops[i']? =some o'→uV (mX pl ops i'=false) pl (rL pl ops o') a w a' w')∧rn P pl ops Q fuel (bO.setIfInBounds i' true) a' w') (Q:=Q) hx h hd
        (fun a' w' dA X' eX h1 h2 h3=>⟨fun o' ue=>by rw [ho] at ue;injection ue with ue;subst ue;exact⟨fun tI=>(h3.1 tI).sub lH,h3.2.sub lH⟩,Lq hN hQ FZ zI fuel _ r.cs y7 dA X' eX a' w' hs (fun b hb=>hm b (dz _ hb)) h1 h2⟩)
        (fun b hb=>hm b (ck _ hb)) (fun ch w' dA X' eX hk EM hp=>hQ ch a w' dA X' eX h.defers hk EM hp)
       unfold wpOp;simp only [ho] at sN⊢;split
       ·rename_i hw;rw [if_pos hw] at sN;exact .inl sN
       ·rename_i hw;rw [if_neg hw] at sN;exact sN
     ·cases h1
    ·cases h1
   ·cases h1
end
end Go.bB
