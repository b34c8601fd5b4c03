/-
 Part 1 of the proof: what the last text leans on.
-/
import Derived.KernelRfl
import Derived.Orders
import Derived.Below
import Derived.Laws.Sem
import Derived.Laws.CopyRow
import Derived.Laws.Entries
import Derived.Laws.Cells
import GoSem.Dispatch
open Option.some renaming injEq → av
open Go.Region renaming wanted → bT, ready → fj, binds → nB, noSelect → oz, noSelect_spec → oY
open Bool renaming and_eq_true → aO, not_eq_true' → bX, false_eq_true → aU, or_eq_true → tI, not_eq_false → rO
open List renaming mem_append_left → bC, mem_filter → eD, mem_append_right → cU, mem_cons_of_mem → dc, range → dm, nil_append → dG, mem_cons → qc, mem_cons_self → eY, cons_append → nC, contains_iff_mem → oJ, all_eq_true → sh
open Go.Act renaming put → jc, eval → ix
open Option renaming map_some → bc, bind_some → dd, isNone_iff_eq_none → fu
open Go.Oper renaming upon → jq, wp → ib, apart_spec → oA
open Prod.mk renaming injEq → da
open Nat renaming le_refl → bF, lt_of_lt_of_le → aA, le_trans → af
open Go.Instr renaming sureAddr → gR, loadAt → fN
open Array renaming replicate → de, getElem?_setIfInBounds_ne → ig, getElem?_eq_none → kf, toList_map → si, any_eq_true' → pQ, setIfInBounds_comm → mM, getElem?_setIfInBounds → dr
open Go.Deferred renaming ofValue → ij
set_option linter.unusedVariables false
set_option linter.unusedSimpArgs false
namespace Go.aX
theorem qF {p:Prop} (h:p:=by first|assumption|exact bq.cells (by assumption)):p:=h
theorem qO {p:Prop} (h:p:=by first|assumption|exact Own.sl (by assumption)):p:=h
theorem qM {p:Prop} (h:p:=by first|exact mv0|exact mv1 (by assumption)|exact mv2 (by assumption) (by assumption)):p:=h
theorem qN {p:Prop} (h:p:=by simp only [Value.cells,nq1,nq2,nq3,nq4,nq5,nq6,cP,nq7,nq8,nq9,nq0,Nat.reduceAdd,Nat.zero_add];try rfl):p:=h
theorem qE {p:Prop} (h:p:=by repeat' first|with_reducible apply Mx|with_reducible exact Pw|assumption|rfl|exact Sl.one (by assumption)|exact eE.one (by assumption)|exact Sl.one (Own.sl (by assumption))):p:=h
theorem qC {p:Prop} (h:p:=by first|rfl|assumption|exact Sl.one (by assumption)|exact eE.one (by assumption)|exact Sl.one (Own.sl (by assumption))):p:=h
theorem qR {p:Prop} (h:p:=by first|assumption|exact List.getElem?_eq_getElem (by omega)):p:=h
theorem qA {p:Prop} (h:p:=by first|assumption|exact Sl.mv (by assumption) qM|exact ga.mv (by assumption) qM|exact gb.mv (by assumption) qM|exact Rec.at.mv (by assumption) qM|exact Own.sl (by assumption)|exact Cells.mv (by assumption) qM|exact Cells.mv (bq.cells (by assumption)) qM|omega):p:=h
theorem kQ {p:Prop} (h:p:=by kernel_rfl):p:=h
theorem zQ {p:Prop} (h:p:=by omega):p:=h
abbrev Env:=Nat→Value
abbrev XS:=Nat→Prop
def jd (e:Env) (d:Nat) (v:Value):Env:=fun s=>match s==d with
 |true=>v
 |false=>e s
def Cx (e:Env) (d:Option Nat) (v:Value):Env:=match d with
 |some d=>jd e d v
 |none=>e
structure Fr (X:XS) (w w':World):Prop where
 os:w'.os=w.os
 tape:w'.tape=w.tape
 output:w'.output=w.output
 size:w.heap.size≤w'.heap.size
 block: ∀k,k<w.heap.size→ ¬X k→w'.heap[k]? =w.heap[k]?
def nX:XS:=fun _=>False
def Ext (w w':World):Prop:=Fr nX w w'
theorem Fr.refl (X:XS) (w:World):Fr X w w:=⟨rfl,rfl,rfl,bF _,fun _ _ _=>rfl⟩
theorem Fr.trans {X:XS} {a b c:World} (h:Fr X a b) (k:Fr X b c):Fr X a c:=
 ⟨k.os.trans h.os,k.tape.trans h.tape,k.output.trans h.output,af h.size k.size,
  fun i hi hx=>(k.block i (aA hi h.size) hx).trans (h.block i hi hx)⟩
theorem Fr.mono {X Y:XS} {a b:World} (h:Fr X a b) (hs: ∀k,X k→Y k):Fr Y a b:=
 ⟨h.os,h.tape,h.output,h.size,fun i hi hy=>h.block i hi fun hx=>hy (hs i hx)⟩
theorem Ext.refl (w:World):Ext w w:=Fr.refl _ _
theorem Ext.trans {a b c:World} (h:Ext a b) (k:Ext b c):Ext a c:=Fr.trans h k
theorem Ext.fr {a b:World} (h:Ext a b) (X:XS):Fr X a b:=Fr.mono h (fun _ hf=>hf.elim)
theorem Ext.size {a b:World} (h:Ext a b):a.heap.size≤b.heap.size:=Fr.size h
theorem Ext.block {a b:World} (h:Ext a b) {k:Nat} (hk:k<a.heap.size):b.heap[k]? =a.heap[k]? :=Fr.block h k hk (fun hf=>hf)
theorem Ext.Ut {a b:World} (h:RowKit.Below a.heap.size a b):Ext a b:=⟨h.os,h.tape,h.output,h.size,fun k hk _=>h.block k hk⟩
theorem Ext.below {a b:World} (h:Ext a b):RowKit.Below a.heap.size a b:=⟨h.os,h.tape,h.output,Fr.size h,fun _ hk=>h.block hk⟩
theorem Ext.alloc (w:World) (o:Obj):Ext w (w.alloc o):=Ext.Ut ((RowKit.Below.refl _ _).alloc (bF _) o)
theorem Ext.drew (w:World):Ext w { w with drawn:=w.drawn+1 } :=⟨rfl,rfl,rfl,bF _,fun _ _ _=>rfl⟩
structure Kp (X:XS) (w w':World):Prop where
 os:w'.os=w.os
 tape:w'.tape=w.tape
 output:w'.output=w.output
 size:w.heap.size≤w'.heap.size
 block: ∀k,X k→w'.heap[k]? =w.heap[k]?
theorem Kp.refl (X:XS) (w:World):Kp X w w:=⟨rfl,rfl,rfl,bF _,fun _ _=>rfl⟩
theorem Kp.trans {X:XS} {a b c:World} (h:Kp X a b) (k:Kp X b c):Kp X a c:=
 ⟨k.os.trans h.os,k.tape.trans h.tape,k.output.trans h.output,af h.size k.size,fun i hx=>(k.block i hx).trans (h.block i hx)⟩
theorem Kp.less {X Y:XS} {a b:World} (h:Kp X a b) (hs: ∀k,Y k→X k):Kp Y a b:=⟨h.os,h.tape,h.output,h.size,fun i hy=>h.block i (hs i hy)⟩
theorem Fr.kp {X Y:XS} {a b:World} (h:Fr X a b) (hy: ∀k,Y k→k<a.heap.size∧ ¬X k):Kp Y a b:=
 ⟨h.os,h.tape,h.output,h.size,fun i hi=>h.block i (hy i hi).1 (hy i hi).2⟩
theorem Ext.kp {X:XS} {a b:World} (h:Ext a b) (hx: ∀k,X k→k<a.heap.size):Kp X a b:=Fr.kp h fun k hk=>⟨hx k hk,fun hf=>hf⟩
def aS (w:World):XS:=fun k=>k<w.heap.size
theorem Kp.ext {a b:World} (h:Kp (aS a) a b):Ext a b:=⟨h.os,h.tape,h.output,h.size,fun k hk _=>h.block k hk⟩
theorem Ext.aS {a b:World} (h:Ext a b):Kp (aS a) a b:=h.kp fun _ hk=>hk
inductive Ex where
 |t (n:Nat)
 |c (v:Value)
 |s (b off n:Nat)
 |k (b off:Nat)
def bV (v:Value) (off n:Nat):Value:=.agg ((v.cells.toList.drop off).take n).toArray
def cellOf (v:Value) (i:Nat):Value:=v.cells.toList.getD i undef
def Ex.ev (env:Env):Ex→Value
 | .t n=>env n
 | .c v=>v
 | .s b off n=>bV (env b) off n
 | .k b off=>cellOf (env b) off
def Ex.My:Ex→Nat→Bool
 | .t n,d=>n==d
 | .c _,_=>false
 | .s b _ _,d=>b==d
 | .k b _,d=>b==d
def look {α:Type} :List (Nat×α)→Nat→Option α
 |[],_=>none
 |(s,e)::r,t=>if s=t then some e else look r t
def Cy (env:Env) (ss:List (Nat×Ex)):Operand→Value
 | .tmp t=>match look ss t with
  |some e=>e.ev env
  |none=>env t
 | .const v=>v
 | .global g=>.pointer (some ⟨g,0,none⟩)
 | .func f=>.func (.func f) #[] #[]
def Jb (op:Op) (ty:TypeId):Oper:=⟨none,op,ty, "",#[],none⟩
def vS (s:Sem Value):Sem Next:=do pure (.value (←s))
def Ai (f:Value) (args:Array Value):Sem Next:=do let d←ij f args;invoke d.target d.args
def ry (ρ:Operand→Value) (a:Array Operand):Array Value:=(a.toList.map ρ).toArray
def Rb (ρ:Operand→Value) (a:Array (Nat×Operand)):Array (Nat×Value):=(a.toList.map fun p=>(p.1,ρ p.2)).toArray
def Ki (ρ:Operand→Value) (op:Op) (ty:TypeId):Sem Next:=match op with
 | .call ⟨.value (.func f),args,_⟩=>callFunc f (ry ρ args)
 | .call ⟨.value (.tmp t),args,_⟩=>Ai (ρ (.tmp t)) (ry ρ args)
 | .call ⟨.builtin .len,args,ts⟩=>vS (Builtin.len_ ts ty (ry ρ args))
 | .call ⟨.builtin .cap,args,ts⟩=>vS (Builtin.cap_ ts ty (ry ρ args))
 | .call ⟨.builtin .min,args,ts⟩=>vS (Builtin.min_ ts ty (ry ρ args))
 | .call ⟨.builtin .max,args,ts⟩=>vS (Builtin.max_ ts ty (ry ρ args))
 | .call ⟨.builtin .append,args,ts⟩=>vS (Builtin.append_ ts ty (ry ρ args))
 | .call ⟨.builtin .copy,args,ts⟩=>vS (Builtin.copy_ ts ty (ry ρ args))
 | .call ⟨.builtin .delete,args,ts⟩=>vS (Builtin.delete_ ts ty (ry ρ args))
 | .call ⟨.builtin .clear,args,ts⟩=>vS (Builtin.clear_ ts ty (ry ρ args))
 | .call ⟨.builtin .panic,args,_⟩=>vS (Instr.panic ((ry ρ args).toList.getD 0 .nilIface))
 | .build t ps=>vS (Instr.build t (Rb ρ ps))
 | .buildSlice t n ps=>vS (Instr.buildSlice t n (Rb ρ ps))
 | .makeFunc fn a b=>vS (Instr.makeFunc fn (ry ρ a) (ry ρ b))
 |op=>execOp ρ (Jb op ty)
theorem Xz (ρ:Operand→Value) (a:Array Operand):ry ρ a=a.map ρ:=by
 unfold ry;rw [←si]
theorem XA (ρ:Operand→Value) (a:Array (Nat×Operand)):Rb ρ a=a.map fun p=>(p.1,ρ p.2):=by
 unfold Rb;rw [←si]
theorem SD (ρ:Operand→Value) (hρ: ∀f,ρ (.func f)= .func (.func f) #[] #[]) (op:Op) (ty:TypeId):Ki ρ op ty=execOp ρ (Jb op ty):=by
 unfold Ki;split<;>first
  |rfl
  |(simp [execOp,Jb,resolve,invoke,ij,Xz,XA,vS,builtin,Ai,hρ];done)
def cP (l:List Value) (off:Nat) (vs:List Value):List Value:=l.take off++vs++l.drop (off+vs.length)
def Rd (P:Program) (X:XS) (w:World) (s:Sem Next) (v:Value):Prop:= ∀wa,Kp X w wa→s.run P wa= .ok (.value v) wa
def jw (v:Value) (want:Bool):Bool:=match v with
 | .bool b=>b==want
 |_=>false
def bP:Value→Bool
 | .agg _=>true
 |_=>false
def one (v:Value):Bool:=match v with
 | .agg _| .tuple _=>false
 |_=>true
inductive TI where
 |yP (b:Nat)
 |set (d:Nat) (e:Ex)
 |box (b n:Nat) (e:Ex)
 |put (b off n:Nat) (e:Ex)
 |sj (b:Nat) (e:Ex)
 |Mz (b off:Nat) (e:Ex)
 |fill (b n:Nat) (e:Ex)
 |rd (d:Nat) (op:Op) (ty:TypeId) (ss:List (Nat×Ex))
 |vO (d:Option Nat) (op:Op) (ty:TypeId) (ss:List (Nat×Ex)) (m:Bool)
 |MA (g:Nat) (want:Bool) (d:Nat) (e:Ex)
 |SE (g:Nat) (want:Bool) (d:Nat) (op:Op) (ty:TypeId) (ss:List (Nat×Ex))
 |MB (g:Nat) (want:Bool) (d:Option Nat) (op:Op) (ty:TypeId) (ss:List (Nat×Ex)) (m:Bool)
inductive T where
 |Cz (l:List TI)
 |seq (a b:T)
 |ite (e:Ex) (a b:T)
 |alt (a b:T)
 |fV (id:Nat) (a:T)
 |loop (M C:List Nat) (a:T)
 |exit (id:Nat)
 |ret
 |skip
def grow (X:XS) (w w':World):XS:=fun k=>X k∨(w.heap.size≤k∧k<w'.heap.size)
def Step (m:Bool) (X:XS) (w w':World):Prop:=if m then Fr X w w' else Ext w w'
theorem Step.fr {m:Bool} {X:XS} {w w':World} (h:Step m X w w'):Fr X w w':=by
 unfold Step at h;split at h
 ·exact h
 ·exact h.fr X
theorem Step.ej {m:Bool} {X:XS} {w w':World} (h:Ext w w'):Step m X w w':=by
 unfold Step;split
 ·exact h.fr X
 ·exact h
def iy (P:Program) (m:Bool) (X:XS) (w:World) (next:Value→World→XS→Prop) (fI:List PanicEntry→World→XS→Prop):Result Next→Prop
 | .ok (.value v) w'=>Step m X w w'∧next v w' (grow X w w')
 | .ok .skip w'=>Step m X w w'∧next undef w' (grow X w w')
 | .ok (.enter f args) w'=>w'=w∧Calls P f args w fun
   | .returned v,iH=>Step m X w iH∧next v iH (grow X w iH)
   | .panicked ch,iH=>Step m X w iH∧fI ch iH (grow X w iH)
   | .outgrown,_=>False
 | .halt (.panic v) w'=>Step m X w w'∧fI [{ v,recovered:=false }] w' (grow X w w')
 |_=>False
def aC (b:Bool) (N:Prop):Prop:=match b with
 |true=>N
 |false=>False
theorem cX {b:Bool} {N:Prop} :aC b N↔b=true∧N:=by cases b<;>simp [aC]
def au (v:Value) (A B:Prop):Prop:=match v with
 | .bool t=>(t=true→A)∧(t=false→B)
 |_=>False
def MC (P:Program) (fI:List PanicEntry→Env→World→XS→Prop) (next:Env→World→XS→Prop) (env:Env) (w:World) (X:XS):TI→Prop
 | .yP b=>aC (bP (env b)) (next env w X)
 | .set d e=>next (jd env d (e.ev env)) w X
 | .box b n e=>aC ((e.ev env).cells.toList.length==n) (next (jd env b (.agg (e.ev env).cells)) w X)
 | .put b off n e=>aC ((e.ev env).cells.toList.length==n) (aC ((e.ev env).cells.toList.all one)
   (next (jd env b (.agg (cP (env b).cells.toList off (e.ev env).cells.toList).toArray)) w X))
 | .sj b e=>aC (one (e.ev env)) (next (jd env b (.agg #[e.ev env])) w X)
 | .Mz b off e=>aC (one (e.ev env)) (next (jd env b (.agg (cP (env b).cells.toList off [e.ev env]).toArray)) w X)
 | .fill b n e=>aC ((e.ev env).cells.toList.length==n) (aC ((e.ev env).cells.toList.all one) (next (jd env b (.agg (e.ev env).cells)) w X))
 | .rd d op ty ss=> ∃v,Rd P X w (Ki (Cy env ss) op ty) v∧next (jd env d v) w X
 | .vO d op ty ss m=> ∀wa,Kp X w wa→
   iy P m X wa (fun v w' X'=>next (Cx env d v) w' X') (fun ch w' X'=>fI ch env w' X') ((Ki (Cy env ss) op ty).run P wa)
 | .MA g want d e=>next (jd env d (if jw (env g) want then e.ev env else undef)) w X
 | .SE g want d op ty ss=> ∃v,(jw (env g) want=true→Rd P X w (Ki (Cy env ss) op ty) v)∧(jw (env g) want=false→v=undef)∧
   next (jd env d v) w X
 | .MB g want d op ty ss m=>
   (jw (env g) want=true→ ∀wa,Kp X w wa→
    iy P m X wa (fun v w' X'=>next (Cx env d v) w' X') (fun ch w' X'=>fI ch env w' X') ((Ki (Cy env ss) op ty).run P wa))∧
   (jw (env g) want=false→next (Cx env d undef) w X)
def fg (P:Program) (fI:List PanicEntry→Env→World→XS→Prop) (next:Env→World→XS→Prop):List TI→Env→World→XS→Prop
 |[],env,w,X=>next env w X
 |i::l,env,w,X=>MC P fI (fg P fI next l) env w X i
abbrev kL:=Exit→Env→World→XS→Prop
def kL.Qn (next:Env→World→XS→Prop) (K:kL):kL
 | .normal,e,w,X=>next e w X
 |ex,e,w,X=>K ex e w X
def kL.fV (id:Nat) (K:kL):kL
 | .exit i,e,w,X=>if i=id then K .normal e w X else K (.exit i) e w X
 |ex,e,w,X=>K ex e w X
def zj (M:List Nat) (s:Nat):Bool:=match M with
 |[]=>false
 |x::r=>x==s||zj r s
theorem wT {s:Nat} : ∀{M:List Nat},zj M s=true↔s∈M
 |[]=>by simp [zj]
 |x::r=>by
  simp only [zj,tI,beq_iff_eq,wT (M:=r),qc];exact⟨fun h=>h.imp Eq.symm id,fun h=>h.imp Eq.symm id⟩
def merge (M:List Nat) (e env:Env):Env:=fun s=>match zj M s with
 |true=>e s
 |false=>env s
def den (P:Program):T→kL→Env→World→XS→Prop
 | .Cz l,K,env,w,X=>fg P (fun ch=>K (.panic ch)) (fun e w X=>K .normal e w X) l env w X
 | .seq a b,K,env,w,X=>den P a (kL.Qn (fun e w X=>den P b K e w X) K) env w X
 | .ite e a b,K,env,w,X=>au (e.ev env) (den P a K env w X) (den P b K env w X)
 | .alt a b,K,env,w,X=>And (den P a K env w X) (den P b K env w X)
 | .fV id a,K,env,w,X=>den P a (kL.fV id K) env w X
 | .loop M C a,K,env,w,X=> ∃J:Nat→List Value→World→XS→Prop,(∃n,J n (C.map env) w X)∧
   ∀n (e:Env) w' X',(∀k,X k→X' k)→J n (C.map e) w' X'→den P a (kL.Qn (fun e' iH oK=> ∃m,m<n∧J m (C.map e') iH oK) K) (merge M e env) w' X'
 | .exit id,K,env,w,X=>K (.exit id) env w X
 | .ret,K,env,w,X=>K .ret env w X
 | .skip,K,env,w,X=>K .normal env w X
structure ba where
 n:Nat
 boxes:List (Nat×Nat)
 Kj:List Nat
 lx:List Nat
 Wp:List Nat
 YU:List Nat
def ba.gS (pl:ba) (s:Nat):Bool:=pl.lx.contains s&&decide (s<pl.n)&&(look pl.boxes s).isNone&&!pl.Kj.contains s
def ba.je (pl:ba) (d:Nat):Bool:=decide (d<pl.n)&&(look pl.boxes d).isNone&&!pl.Kj.contains d
structure Ptr where
 s:Nat
 b:Nat
 off:Nat
 g:Option (Nat×Bool)
structure CS where
 sig:List (Nat×Ex)
 rz:List Ptr
 live:List Nat
def CS.start:CS:=⟨[],[],[]⟩
def valOf (pl:ba) (cs:CS):Operand→Option Ex
 | .tmp t=>if pl.gS t then some (.t t)else look cs.sig t
 | .const v=>some (.c v)
 | .global g=>some (.c (.pointer (some ⟨g,0,none⟩)))
 | .func f=>some (.c (.func (.func f) #[] #[]))
def zk (og:Option (Nat×Bool)):List Ptr→Nat→Option (Nat×Nat)
 |[],_=>none
 |p::r,t=>if p.s=t then(if p.g.isNone||p.g==og then some (p.b,p.off)else none)else zk og r t
def oL (pl:ba) (cs:CS) (og:Option (Nat×Bool)):Operand→Option (Nat×Nat×List Nat)
 | .tmp t=>match look pl.boxes t with
  |some _=>some (t,0,if cs.live.contains t then [] else [t])
  |none=>if pl.Kj.contains t then(zk og cs.rz t).map fun (b,off)=>(b,off,[])else none
 |_=>none
def CS.kill (cs:CS) (d:Nat):CS:=
 ⟨cs.sig.filter fun p=>p.1 !=d&&!p.2.My d,cs.rz.filter fun p=>p.b !=d&&p.s !=d&&(match p.g with|some (g,_)=>g !=d|none=>true),cs.live⟩
def CS.Ez (cs:CS) (b:Nat):CS:=⟨cs.sig.filter fun p=>!p.2.My b,cs.rz,cs.live⟩
def CS.bind (cs:CS) (pl:ba) (d:Nat):CS:=let c:=cs.kill d;if pl.gS d then c else { c with sig:=(d,.t d)::c.sig }
def CS.note (cs:CS) (d:Nat) (e:Ex):CS:= { cs with sig:=(d,e)::cs.sig.filter (fun p=>p.1 !=d),rz:=cs.rz.filter fun p=>p.s !=d }
def CS.jI (cs:CS) (d b off:Nat) (g:Option (Nat×Bool)):CS:=
 { cs with sig:=cs.sig.filter (fun p=>p.1 !=d),rz:=⟨d,b,off,g⟩::(cs.rz.filter fun p=>p.s !=d) }
def CS.iE (cs:CS) (l:List Nat):CS:= { cs with live:=l++cs.live }
def kZ (pl:ba) (cs:CS) (d:Nat) (e:Ex):List TI×CS:=
 if pl.gS d||pl.Wp.contains d then([.set d e],cs.bind pl d)else([],cs.note d e)
def fieldInfo (P:Program) (S f:Nat):Option (Nat×Nat):=
 match P.underlying S with
 |some (.struct fs)=>(fs[f]?).bind fun x=>(P.info? x.type).map fun i=>(x.offset,i.size)
 |_=>none
def subst (pl:ba) (cs:CS):List Operand→Option (List (Nat×Ex))
 |[]=>some []
 | .tmp t::r=>match valOf pl cs (.tmp t),subst pl cs r with
  |some e,some ss=>some (match e with
   | .t n=>if n=t then ss else(t,e)::ss
   |_=>(t,e)::ss)
  |_,_=>none
 |_::r=>subst pl cs r
def MD (P:Program) (t:Nat):Bool:=match P.underlying t with
 |some (.slice _)=>true
 |_=>false
def acr (P:Program):Op→Bool
 | .pick .. | .nilCheck _| .binOp .. | .unOp .. | .fieldAddr .. | .field .. | .indexAddr .. | .index .. | .extract .. | .slice .. | .build .. | .makeFunc ..
 | .makeInterface .. | .load .. | .lookup .. | .typeAssert .. | .move _| .assign _=>true
 | .convert s d _=>!MD P s&&!MD P d
 | .call { callee:=.builtin b,.. } =>match b with
  | .len| .cap| .min| .max=>true
  |_=>false
 |_=>false
structure CR where
 fl:Bool
 nd:List Nat
 l:List TI
 cs:CS
 rb:List Nat
 sb:List Nat
def Aj:Op→Bool
 | .select .. =>false
 |_=>true
def yb (P:Program) (pl:ba) (cs:CS) (m:Bool) (o:Oper):Option CR:=
 match subst pl cs o.op.operands.toList with
 |none=>none
 |some ss=>if !Aj o.op then none else
  match o.dst with
  |some d=>if !pl.je d then none else
   if acr P o.op then some ⟨true,[],[.rd d o.op o.type ss],cs.bind pl d,[],[]⟩else some ⟨false,[],[.vO (some d) o.op o.type ss m],cs.bind pl d,[],[]⟩
  |none=>some ⟨false,[],[.vO none o.op o.type ss m],cs,[],[]⟩
def gT (P:Program) (t:Nat):Option (Bool×Nat):=
 match P.underlying t,P.info? t with
 |some d,some i=>some ((match d with| .struct _| .array _ _=>true|_=>false),i.size)
 |_,_=>none
def ME (P:Program) (pl:ba) (cs:CS) (sz:Nat) (t:Nat) (e:Ex) (d:Nat):Option CR:=
 match gT P t with
 |some (ag,s)=>if decide (d<pl.n)&&s==sz then some ⟨false,[],[if !ag&&s==1 then .sj d e else .box d sz e],(cs.kill d).iE [d],[],[]⟩else none
 |none=>none
def wF (P:Program) (pl:ba) (cs:CS) (og:Option (Nat×Bool)) (m:Bool) (o:Oper):Option CR:=
 match o.op with
 | .move x| .assign x=>match o.dst,valOf pl cs x with
  |some d,some e=>if pl.je d then(let r:=kZ pl cs d e;some ⟨true,[],r.1,r.2,[],[]⟩)else none
  |_,_=>none
 | .box t x=>match o.dst with
  |some d=>match look pl.boxes d with
   |some sz=>match valOf pl cs x with
    |some e=>ME P pl cs sz t e d
    |none=>none
   |none=>yb P pl cs m o
  |none=>none
 | .alloc t=>match o.dst with
  |some d=>match look pl.boxes d with
   |some sz=>match(P.info? t).bind (·.zero)with
    |some z=>ME P pl cs sz t (.c z) d
    |none=>none
   |none=>yb P pl cs m o
  |none=>none
 | .fieldAddr S x f=>match oL pl cs og x with
  |some (b,off,nd)=>match o.dst,fieldInfo P S f with
   |some d,some (fo,sz)=>if pl.Kj.contains d&&decide (d<pl.n)&&(look pl.boxes d).isNone&&sz !=0 then
     some ⟨true,nd,[],(cs.iE nd).jI d b (off+fo) og,[],[]⟩else none
   |_,_=>none
  |none=>yb P pl cs m o
 | .load t x=>match oL pl cs og x with
  |some (b,off,nd)=>match o.dst,gT P t,look pl.boxes b with
   |some d,some (ag,sz),some bs=>if pl.je d&&decide (off+sz≤bs)&&(ag||sz==1)then
     (let r:=kZ pl (cs.iE nd) d (if ag then .s b off sz else .k b off);some ⟨true,nd,r.1,r.2,[b],[]⟩)else none
   |_,_,_=>none
  |none=>yb P pl cs m o
 | .store t x v=>match oL pl cs og x with
  |some (b,off,nd)=>match o.dst,valOf pl cs v,gT P t,look pl.boxes b with
   |none,some e,some (ag,sz),some bs=>if decide (off+sz≤bs)then
     some ⟨false,nd,[if !ag&&sz==1 then .Mz b off e else if off==0&&sz==bs then .fill b sz e else .put b off sz e],(cs.iE nd).Ez b,[],[b]⟩else none
   |_,_,_,_=>none
  |none=>yb P pl cs m o
 |_=>yb P pl cs m o
def Uu:Op→Bool
 | .fieldAddr .. =>true
 |_=>false
def kg (g:Nat) (want:Bool) (op:Op) (r:CR):Option CR:=
 match r.fl,r.l with
 |true,[]=>if Uu op then some r else none
 |true,[.set d e]=>if d=g then none else some { r with l:=[.MA g want d e] }
 |true,[.rd d op ty ss]=>if d=g then none else some { r with l:=[.SE g want d op ty ss] }
 |false,[.vO d op ty ss m]=>if d=some g then none else some { r with l:=[.MB g want d op ty ss m] }
 |_,_=>none
def tJ (P:Program) (pl:ba) (cs:CS) (ops:Array Oper) (m:Bool) (o:Oper):Option CR:=
 match o.guard with
 |none=>wF P pl cs none m o
 |some (j,want)=>match(ops[j]?).bind (·.dst)with
  |none=>none
  |some gs=>match valOf pl cs (.tmp gs)with
   |some (.t g)=>(wF P pl cs (some (g,want)) m o).bind (kg g want o.op)
   |_=>none
def CR.all (r:CR):List TI:=r.nd.map .yP++r.l
def Ak (P:Program) (pl:ba) (ops:Array Oper):List Oper→CS→Option (List TI)
 |[],_=>some []
 |o::r,cs=>match tJ P pl cs ops true o with
  |some x=>(Ak P pl ops r x.cs).map (x.all++ ·)
  |none=>none
def waits (o:Oper) (i:Nat):Bool:=o.after.any fun e=>nB .any e&&e.on==i
def Rc (ops:Array Oper) (bg:Array Bool) (S:List Nat) (j:Nat):Bool:=!bg.getD j true&&match ops[j]? with
 |some o=>o.after.any fun e=>nB .any e&&S.contains e.on
 |none=>false
def yQ (ops:Array Oper) (bg:Array Bool) (i:Nat):List Nat:=(dm ops.size).foldl (fun S j=>if Rc ops bg S j then j::S else S) [i]
def acs (ops:Array Oper) (j:Nat):List Nat:=
 (dm (j+1)).reverse.foldl (fun S k=>if S.contains k then(match ops[k]? with
  |some o=>o.after.toList.foldl (fun S e=>if nB .any e&&!S.contains e.on then e.on::S else S) S
  |none=>S)else S) [j]
def uQ (o:Oper):Bool:=match o.op with
 | .extract .. =>true
 | .move .. =>true
 |_=>false
def ldX (pl:ba) (o:Oper):Bool:=match o.op with
 | .load _ (.tmp x)=>(look pl.boxes x).isSome
 |_=>false
def Kk (o:Oper) (rb:List Nat):Bool:=match o.op with
 | .load _ (.tmp x)=>rb.contains x
 |_=>false
def YV (o:Oper):Bool:=match o.op with
 | .alloc _=>true
 |_=>false
def kn (pl:ba) (ops:Array Oper) (j:Nat):Bool:=
 match ops[j]? with
 |some oj=>(match oj.dst with|some d=>pl.Wp.contains (1000000+d)|none=>false)||pl.Wp.contains (2000000+j)||((dm ops.size).all fun i=>i==j||waits oj i||(match ops[i]? with
  |some oi=>waits oi j||uQ oi||ldX pl oi||YV oi
  |none=>true))||(let B:=acs ops j++yQ ops (de ops.size false) j;(dm ops.size).all fun i=>B.contains i||(match ops[i]? with
  |some oi=>uQ oi||ldX pl oi||YV oi
  |none=>true))
 |none=>false
def SF (pl:ba) (ops:Array Oper):Nat→Operand→Option Nat
 |0,_=>none
 |n+1,.tmp t=>match look pl.boxes t with
  |some _=>some t
  |none=>match ops.find? (fun o=>o.dst==some t)with
   |some o=>(match o.op with
    | .fieldAddr _ x _=>SF pl ops n x
    |_=>none)
   |none=>none
 |_+1,_=>none
def oB (pl:ba) (ops:Array Oper) (o:Oper):List Nat:=match o.op with
 | .store _ x _=>(SF pl ops 6 x).toList
 |_=>[]
def EA (pl:ba) (ops:Array Oper) (bg:Array Bool) (i:Nat) (rb:List Nat):Bool:=
 match ops[i]? with
 |none=>false
 |some oi=>(match oi.dst with
   |some d=>(look pl.boxes d).isNone
   |none=>true)&&(dm ops.size).all fun j=>j==i||bg.getD j true||match ops[j]? with
   |some oj=>waits oj i||(oi.apart ops oj&&(uQ oi||Kk oi rb||!kn pl ops j)&&(oB pl ops oj).all fun b=>!rb.contains b)||(yQ ops bg i).contains j
   |none=>true
def uq (P:Program) (pl:ba) (ops:Array Oper) (cs:CS) (bg:Array Bool):List Nat→Option (Nat×CR)
 |[]=>none
 |i::r=>match(ops[i]?).bind (tJ P pl cs ops (kn pl ops i))with
  |some x=>if x.fl&&EA pl ops bg i x.rb then some (i,x)else uq P pl ops cs bg r
  |none=>uq P pl ops cs bg r
def Al (P:Program) (pl:ba) (o:Oper):Option (Nat×Nat×Bool×Value):=match o.guard,o.op,o.dst with
 |none,.alloc t,some d=>match look pl.boxes d,(P.info? t).bind (·.zero),gT P t with
  |some sz,some z,some (ag,s)=>if decide (d<pl.n)&&s==sz then some (d,sz,!ag&&s==1,z)else none
  |_,_,_=>none
 |_,_,_=>none
def sk:Nat×Nat×Bool×Value→TI
 |(d,sz,one,z)=>if one then .sj d (.c z)else .box d sz (.c z)
def pE (cs:CS) (d:Nat):CS:=(cs.kill d).iE [d]
def Re (l:List Nat) (i:Nat):Bool:=match l with
 |[x]=>x==i
 |_=>false
def Wq (P:Program) (pl:ba) (ops:Array Oper) (bg:Array Bool) (i j:Nat):Option (Nat×Nat×Bool×Value):=
 match(ops[i]?).bind (Al P pl),(ops[j]?).bind (Al P pl)with
 |some bi,some bj=>if !(bi.1==bj.1)&&Re (fj .any ops (bg.setIfInBounds i true)) j&&Re (fj .any ops (bg.setIfInBounds j true)) i then some bi else none
 |_,_=>none
def pF (P:Program) (pl:ba) (ops:Array Oper):Nat→Array Bool→CS→Option (List TI)
 |0,bg,_=>if(fj .any ops bg).isEmpty then some [] else none
 |fuel+1,bg,cs=>
  match uq P pl ops cs bg (fj .any ops bg)with
  |some (i,x)=>(pF P pl ops fuel (bg.setIfInBounds i true) x.cs).map (x.all++ ·)
  |none=>match fj .any ops bg with
   |[i]=>match ops[i]? with
    |some o=>match tJ P pl cs ops (kn pl ops i) o with
     |some x=>if x.sb.all fun b=>(oB pl ops o).contains b then(pF P pl ops fuel (bg.setIfInBounds i true) x.cs).map (x.all++ ·)else none
     |none=>none
    |none=>none
   |[i,j]=>match Wq P pl ops bg i j with
    |some b=>(pF P pl ops fuel (bg.setIfInBounds i true) (pE cs b.1)).map (sk b:: ·)
    |none=>none
   |_=>none
def Jc:List Nat→(Nat→Option T)→Option T
 |[],_=>none
 |i::r,f=>match r with
  |[]=>f i
  |j::r=>match f i,Jc (j::r) f with
   |some a,some b=>some (.alt a b)
   |_,_=>none
def uX (P:Program) (pl:ba) (ops:Array Oper):Nat→Array Bool→CS→Option T
 |0,bg,_=>if(fj .any ops bg).isEmpty then some .skip else none
 |fuel+1,bg,cs=>
  match uq P pl ops cs bg (fj .any ops bg)with
  |some (i,x)=>(uX P pl ops fuel (bg.setIfInBounds i true) x.cs).map (.seq (.Cz x.all) ·)
  |none=>Jc (fj .any ops bg) fun i=>match ops[i]? with
   |some o=>match tJ P pl cs ops (kn pl ops i) o with
    |some x=>if x.sb.all fun b=>(oB pl ops o).contains b then(uX P pl ops fuel (bg.setIfInBounds i true) x.cs).map (.seq (.Cz x.all) ·)else none
    |none=>none
   |none=>none
def TI.Bs:TI→List Nat
 | .set d _=>[d]
 | .box b _ _=>[b]
 | .sj b _=>[b]
 | .rd d _ _ _=>[d]
 | .vO d _ _ _ _=>d.toList
 | .MA _ _ d _=>[d]
 | .SE _ _ d _ _ _=>[d]
 | .MB _ _ d _ _ _ _=>d.toList
 |_=>[]
def jr (l:List TI):List Nat:=l.flatMap TI.Bs
def TI.wr:TI→List Nat
 | .yP _=>[]
 | .set d _=>[d]
 | .box b _ _=>[b]
 | .put b _ _ _=>[b]
 | .sj b _=>[b]
 | .Mz b _ _=>[b]
 | .fill b _ _=>[b]
 | .rd d _ _ _=>[d]
 | .vO d _ _ _ _=>d.toList
 | .MA _ _ d _=>[d]
 | .SE _ _ d _ _ _=>[d]
 | .MB _ _ d _ _ _ _=>d.toList
def T.wr:T→List Nat
 | .Cz l=>l.flatMap TI.wr
 | .seq a b=>a.wr++b.wr
 | .ite _ a b=>a.wr++b.wr
 | .alt a b=>a.wr++b.wr
 | .fV _ a=>a.wr
 | .loop M _ a=>M++a.wr
 |_=>[]
def T.mk:T→List Nat
 | .Cz l=>jr l
 | .seq a b=>a.mk++b.mk
 | .ite _ a b=>a.mk++b.mk
 | .alt a b=>a.mk++b.mk
 | .fV _ a=>a.mk
 | .loop _ _ a=>a.mk
 |_=>[]
def mN:List Nat→List Nat→List Nat
 |[],acc=>acc
 |x::r,acc=>mN r (if acc.contains x then acc else x::acc)
def iX (P:Program) (pl:ba):Code→Option T
 | .skip=>some .skip
 | .region _ ops draw=>if draw then(if P.follows .mixedOrders&&oz ops then(match pF P pl ops ops.size (de ops.size false) .start with
  |some l=>some (.Cz l)
  |none=>uX P pl ops ops.size (de ops.size false) .start)else none)else(Ak P pl ops ops.toList .start).map .Cz
 | .seq a b=>match iX P pl a,iX P pl b with
  |some x,some y=>some (match x,y with
   | .skip,y=>y
   |x,.skip=>x
   |x,y=>.seq x y)
  |_,_=>none
 | .cond c a b=>match valOf pl .start c,iX P pl a,iX P pl b with
  |some e,some x,some y=>some (.ite e x y)
  |_,_,_=>none
 | .block id a=>(iX P pl a).map (.fV id)
 | .loop a=>(iX P pl a).map fun x=>.loop (mN x.wr []) ((mN x.wr []).filter (zj pl.YU)) x
 | .exit id=>some (.exit id)
 | .ret=>some .ret
 |_=>none
def wY (P:Program) (pl:ba):List ResultVar→Option (List Ex×List Nat)
 |[]=>some ([],[])
 | .tmp t::r=>if pl.gS t then(wY P pl r).map fun (l,n)=>(.t t::l,n)else none
 | .cell a t::r=>match look pl.boxes a,gT P t with
  |some bs,some (ag,sz)=>if decide (sz≤bs)&&(ag||sz==1)then(wY P pl r).map fun (l,n)=>((if ag then .s a 0 sz else .k a 0)::l,a::n)else none
  |_,_=>none
structure FT where
 code:T
 res:List Ex
 live:List Nat
def cF (P:Program) (pl:ba) (fn:Func):Option FT:=
 if fn.ntmps==pl.n then
  match fn.body with
  |some c=>match iX P pl c,wY P pl fn.results.toList with
   |some t,some (r,n)=>some ⟨t,r,n⟩
   |_,_=>none
  |none=>none
 else none
def MF (l:List Ex) (env:Env):Value:=match l with
 |[e]=>e.ev env
 |l=>.tuple (l.map (·.ev env)).toArray
def MG (ft:FT) (R:Ending→World→Prop):kL
 | .normal,e,w,X| .ret,e,w,X=>aC (ft.live.all fun b=>bP (e b)) (∀wa,Kp X w wa→R (.returned (MF ft.res e)) wa)
 | .panic ch,_,w,X=> ∀wa,Kp X w wa→R (.panicked ch) wa
 |_,_,_,_=>False
def jJ (args:Array Value):Env:=fun i=>args.toList.getD i undef
section
variable {P : Program} {ops : Array Oper} {Q : Exit → Act → World → Prop}
def dV (k off:Nat):Value:=.pointer (some ⟨k,off,none⟩)
def ZB (pl:ba) (RB:List Nat) (a:Act):XS:=fun k=> ∃b n,look pl.boxes b=some n∧ ¬b∈RB∧a.tmps[b]? =some (dV k 0)
def YF (P:Program) (pl:ba) (RB:List Nat) (ops:Array Oper) (o:Oper) (v:Value) (a:Act) (w:World):Prop:=
 (bT o (yielded ops a.tmps)=true∧ ∀wa,Fr (ZB pl RB a) w wa→(execOp a.eval o).run P wa= .ok (.value v) wa)∨(bT o (yielded ops a.tmps)=false∧v=undef)
def kM (pl:ba) (sb:List Nat) (a:Act) (w:World) (a':Act) (w':World):Prop:=
 ∀RB,(∀b,b∈sb→ ¬b∈RB)→Fr (ZB pl RB a) w w'∧ ∀k,k<w.heap.size→ZB pl RB a' k→ZB pl RB a k
theorem YF.rel {pl:ba} {RB sb:List Nat} {o:Oper} {v:Value} {a a':Act} {w w':World} (h:YF P pl RB ops o v a w) (hx:kM pl sb a w a' w') (hd: ∀b,b∈sb→ ¬b∈RB)
  (he:execOp a'.eval o=execOp a.eval o) (hw:bT o (yielded ops a'.tmps)=bT o (yielded ops a.tmps)):YF P pl RB ops o v a' w':=by
 obtain⟨h1,h2⟩:=hx RB hd;unfold YF at*;rw [he,hw];refine h.imp (fun ⟨g1,g2⟩=>⟨g1,fun wa ha=>g2 wa ?_⟩) id;exact⟨ha.os.trans h1.os,ha.tape.trans h1.tape,ha.output.trans h1.output,af h1.size ha.size,
  fun k hk hz=>(ha.block k (aA hk h1.size) (fun Hy=>hz (h2 k hk Hy))).trans (h1.block k hk hz)⟩
def rA (pl:ba) (sb:List Nat) (a:Act) (w w':World):Prop:=
 ∀b n k,look pl.boxes b=some n→ ¬b∈sb→a.tmps[b]? =some (dV k 0)→w'.heap[k]? =w.heap[k]?
def rB (L:Prop) (pl:ba) (sb:List Nat) (a:Act) (w:World) (a':Act) (w':World):Prop:=(L→kM pl sb a w a' w')∧rA pl sb a w w'
def Yx (P:Program) (ops:Array Oper) (o:Oper) (v:Value) (a:Act) (w:World):Prop:=
 (bT o (yielded ops a.tmps)=true∧(execOp a.eval o).run P w= .ok (.value v) w)∨(bT o (yielded ops a.tmps)=false∧v=undef)
def YL (P:Program) (pl:ba) (x:Nat) (ops:Array Oper) (o:Oper) (v:Value) (a:Act) (w:World):Prop:=
 (bT o (yielded ops a.tmps)=true∧ ∃k n,look pl.boxes x=some n∧a.tmps[x]? =some (dV k 0)∧ ∀wa:World,wa.heap[k]? =w.heap[k]? →(execOp a.eval o).run P wa= .ok (.value v) wa)∨
  (bT o (yielded ops a.tmps)=false∧v=undef)
theorem YF.yx {pl:ba} {RB:List Nat} {o:Oper} {v:Value} {a:Act} {w:World} (h:YF P pl RB ops o v a w):Yx P ops o v a w:=h.imp (fun ⟨g1,g2⟩=>⟨g1,g2 w (Fr.refl _ w)⟩) id
theorem YL.yx {pl:ba} {x:Nat} {o:Oper} {v:Value} {a:Act} {w:World} (h:YL P pl x ops o v a w):Yx P ops o v a w:=h.imp (fun ⟨g1,_,_,_,_,g2⟩=>⟨g1,g2 w rfl⟩) id
def MH (pl:ba) (ops:Array Oper) (oi oj:Oper) (L:Prop) (sb:List Nat) (Y:Act→World→Prop):Prop:=
 ∀a a' w w',rB L pl sb a w a' w'→execOp a'.eval oi=execOp a.eval oi→bT oi (yielded ops a'.tmps)=bT oi (yielded ops a.tmps)→
  (∀x:Nat,(∀d,oj.dst=some d→d≠x)→a'.tmps[x]? =a.tmps[x]?)→Y a w→Y a' w'
theorem rA.refl (pl:ba) (sb:List Nat) (a:Act) (w:World):rA pl sb a w w:=fun _ _ _ _ _ _=>rfl
theorem rA.MI {pl:ba} {sb:List Nat} {a:Act} {w w':World} {d:Option Nat} {v:Value} (hd: ∀x,d=some x→look pl.boxes x=none) (h:rA pl sb (a.put d v) w w'):rA pl sb a w w':=by
 intro b n k hb hn hk;refine h b n k hb hn ?_;cases d with
 |none=>exact hk
 |some x=>
  have dO:x≠b:=fun e=>by subst e;rw [hd x rfl] at hb;cases hb
  simpa [jc,ig dO] using hk
theorem rA.sub {pl:ba} {sb SG:List Nat} {a:Act} {w w':World} (h:rA pl sb a w w') (hs: ∀b,b∈sb→b∈SG):rA pl SG a w w':=
 fun b n k hb hn hk=>h b n k hb (fun hm=>hn (hs b hm)) hk
theorem Yx.wpOp {i:Nat} {o:Oper} {v:Value} {a:Act} {w:World} (hi:ops[i]? =some o) (hy:Yx P ops o v a w)
  {K:Act→World→Prop} (h:K (a.put o.dst v) w):wpOp P ops Q i K a w:=by
 unfold Go.wpOp;simp only [hi];rcases hy with⟨hw,hv⟩|⟨hw,rfl⟩
 ·simp only [hw,if_true,ib,hv,jq];exact .inl h
 ·simp only [hw,aU,if_false];exact h
theorem MJ {pl:ba} {RB:List Nat} {a:Act} {d:Option Nat} {v:Value} (hd: ∀x,d=some x→look pl.boxes x=none):ZB pl RB (a.put d v)=ZB pl RB a:=by
 cases d with
 |none=>rfl
 |some x=>
  have hx:=hd x rfl
  funext k
  simp only [ZB,eq_iff_iff];have key: ∀b n,look pl.boxes b=some n→(a.put (some x) v).tmps[b]? =a.tmps[b]? :=fun b n hb=>by
   have dO:x≠b:=fun e=>by subst e;rw [hx] at hb;cases hb
   simp [jc,ig dO]
  constructor<;>rintro⟨b,n,h1,h2,h3⟩<;>refine⟨b,n,h1,h2,?_⟩
  ·rwa [key b n h1] at h3
  ·rwa [key b n h1]
theorem kM.MI {pl:ba} {sb:List Nat} {a a':Act} {w w':World} {d:Option Nat} {v:Value} (hd: ∀x,d=some x→look pl.boxes x=none) (h:kM pl sb (a.put d v) w (a'.put d v) w'):kM pl sb a w a' w':=by
 intro RB SH;have:=h RB SH
 rwa [MJ hd,MJ hd] at this
theorem kM.refl (pl:ba) (sb:List Nat) (a:Act) (w:World) (d:Option Nat) (v:Value) (hd: ∀x,d=some x→look pl.boxes x=none):kM pl sb a w (a.put d v) w:=by
 intro RB _;rw [MJ hd];exact⟨Fr.refl _ _,fun _ _ h=>h⟩
theorem SI {o:Oper} (hp:uQ o=true) {ρ:Operand→Value} {v:Value} {w wa:World} (h:(execOp ρ o).run P w= .ok (.value v) w):(execOp ρ o).run P wa= .ok (.value v) wa:=by
 unfold uQ at hp;split at hp
 ·rename_i x i ho;simp only [execOp,ho] at h⊢;unfold Instr.extract at h⊢;split at h<;>simp_all
  all_goals (split at h<;>simp_all)
 ·rename_i x ho;simp only [execOp,ho] at h⊢;simp_all
 ·cases hp
theorem YF.pure {pl:ba} {RB:List Nat} {o:Oper} {v:Value} {a a':Act} {w w':World} (h:YF P pl RB ops o v a w) (hp:uQ o=true)
  (he:execOp a'.eval o=execOp a.eval o) (hw:bT o (yielded ops a'.tmps)=bT o (yielded ops a.tmps)):YF P pl RB ops o v a' w':=by
 unfold YF at*;rw [he,hw];exact h.imp (fun ⟨g1,g2⟩=>⟨g1,fun wa _=>SI hp (g2 w (Fr.refl _ _))⟩) id
def oa (P:Program) (pl:ba) (ops:Array Oper) (Q:Exit→Act→World→Prop):Nat→Array Bool→Act→World→Prop
 |0,bg,a,w=>fj .any ops bg=[]∧Q .normal a w
 |fuel+1,bg,a,w=>
  (fj .any ops bg=[]→Q .normal a w)∧
  ∀i∈fj .any ops bg,wpOp P ops Q i (fun a' w'=>(∀o,ops[i]? =some o→rB (kn pl ops i=false) pl (oB pl ops o) a w a' w')∧oa P pl ops Q fuel (bg.setIfInBounds i true) a' w') a w
theorem Hz {pl:ba} : ∀(fuel:Nat) (bg:Array Bool) (a:Act) (w:World),oa P pl ops Q fuel bg a w→wpAny P .any ops Q fuel bg a w
 |0,_,_,_,h=>h
 |fuel+1,_,_,_,h=>⟨h.1,fun i hi=>wpOp_mono (fun a' w' h'=>Hz fuel _ a' w' h'.2) (h.2 i hi)⟩
theorem YF.SJ {pl:ba} {RB sb:List Nat} {oi oj:Oper} {v:Value} {L:Prop} (hL:L∨uQ oi=true) (hd: ∀b,b∈sb→ ¬b∈RB):MH pl ops oi oj L sb (YF P pl RB ops oi v):=by
 intro a a' w w' hr e2 e3 _ hy;rcases hL with hl|hp
 ·exact hy.rel (hr.1 hl) hd e2 e3
 ·exact hy.pure hp e2 e3
theorem YL.SJ {pl:ba} {x:Nat} {sb:List Nat} {oi oj:Oper} {v:Value} {L:Prop} (hx: ∀d,oj.dst=some d→d≠x) (hd: ¬x∈sb):MH pl ops oi oj L sb (YL P pl x ops oi v):=by
 intro a a' w w' hr e2 e3 e4 hy;unfold YL at*;rw [e2,e3,e4 x hx];exact hy.imp (fun ⟨g1,k,n,g2,g3,g4⟩=>⟨g1,k,n,g2,g3,fun wa hw=>g4 wa (hw.trans (hr.2 x n k g2 hd g3))⟩) id
theorem SK {pl:ba} {sb:List Nat} {L:Prop} {Y:Act→World→Prop} {j:Nat} {oi oj:Oper} {v:Value} (hj:ops[j]? =some oj) (Fw:oi.apart ops oj=true)
  (hsi: ∀cs b,oi.op≠ .select cs b) (hsj: ∀cs b,oj.op≠ .select cs b) (Qo: ∀x,oi.dst=some x→look pl.boxes x=none) (fv:MH pl ops oi oj L sb Y)
  (hQ: ∀c a w,Q (.panic c) (a.put oi.dst v) w→Q (.panic c) a w) {K:Act→World→Prop} {a:Act} {w:World}
  (hy:Y a w) (h:wpOp P ops Q j (fun a' w'=>rB L pl sb (a.put oi.dst v) w a' w'∧K a' w') (a.put oi.dst v) w):
  wpOp P ops Q j (fun a' w'=>rB L pl sb a w a' w'∧Y a' w'∧K (a'.put oi.dst v) w') a w:=by
 obtain⟨h1,h2,h3⟩:=oA Fw;have fin: ∀(a0:Act) (w':World) (u:Value),a0.tmps=a.tmps→rB L pl sb (a.put oi.dst v) w ((a0.put oi.dst v).put oj.dst u) w'→K ((a0.put oi.dst v).put oj.dst u) w'→
   rB L pl sb a w (a0.put oj.dst u) w'∧Y (a0.put oj.dst u) w'∧K ((a0.put oj.dst u).put oi.dst v) w':=by
  intro a0 w' u h0 hr hk;rw [Act.put_comm a0 v u h2] at hr hk;have HA:rB L pl sb a w (a0.put oj.dst u) w':=⟨fun hl:L=>(hr.1 hl).MI Qo,hr.2.MI Qo⟩;have e1:execOp a0.eval oi=execOp a.eval oi:=by
   have:a0.eval=a.eval:=by funext x;cases x<;>simp [ix,h0]
   rw [this]
  have e2:=(execOp_put oi hsi a0 oj.dst u h3).trans e1;have e3:bT oi (yielded ops (a0.put oj.dst u).tmps)=bT oi (yielded ops a.tmps):=(wanted_put oi a0 oj.dst u h3).trans (by rw [h0]);refine⟨HA,fv a _ w w' HA e2 e3 (fun x hx=>?_) hy,hk⟩;cases hod:oj.dst with
  |none=>simp [jc,h0]
  |some d=>simp [jc,h0,ig (hx d hod)]
 unfold wpOp at*;simp only [hj] at*;rw [wanted_put oj a oi.dst v h1] at h;split
 ·rename_i hw;simp only [hw,if_true] at h;rcases h with h|⟨Ws,aby⟩;case inr=>exact .inr ⟨by unfold Oper.asks at*;rw [execOp_put oj hsj a oi.dst v h1] at Ws;exact Ws,aby⟩
  refine .inl ?_;unfold ib at*;rw [execOp_put oj hsj a oi.dst v h1] at h;generalize (execOp a.eval oj).run P w=r at*;cases r with
  |ok n w'=>
   cases n<;>simp only [jq] at h⊢
   case value u=>exact fin a w' u rfl h.1 h.2
   case skip=>exact fin a w' undef rfl h.1 h.2
   case defer d=>
    have e:({ a.put oi.dst v with defers:=d::(a.put oi.dst v).defers } :Act)=({ a with defers:=d::a.defers } :Act).put oi.dst v:=Act.put_defers a oi.dst v d;rw [e] at h;exact fin { a with defers:=d::a.defers } w' undef rfl h.1 h.2
   case enter f args=>
    refine Calls.mono h fun e iH he=>?_;cases e with
    |returned u=>exact fin a iH u rfl he.1 he.2
    |panicked c=>exact hQ _ _ _ he
    |outgrown=>exact he
   case row row args=>exact Rows.mono h fun u iH he=>fin a iH u rfl he.1 he.2
  |halt x w'=>
   cases x<;>simp only [jq] at h⊢
   case panic u=>exact hQ _ _ _ h
 ·rename_i hw;simp only [hw] at h;exact fin a w undef rfl h.1 h.2
theorem Kl {o:Oper} {i:Nat} :waits o i=true↔ ∃e∈o.after,nB .any e=true∧e.on=i:=by
 unfold waits;rw [pQ];simp
theorem Km {bg:Array Bool} {i:Nat} : ∀j,j∈yQ ops bg i→j=i∨(bg.getD j true=false∧ ∃oj k,ops[j]? =some oj∧waits oj k=true∧k∈yQ ops bg i):=by
 unfold yQ;have key: ∀(l:List Nat) (S:List Nat),(∀j,j∈S→j=i∨(bg.getD j true=false∧ ∃oj k,ops[j]? =some oj∧waits oj k=true∧k∈S))→
   ∀j,j∈l.foldl (fun S j=>if Rc ops bg S j then j::S else S) S→j=i∨(bg.getD j true=false∧ ∃oj k,ops[j]? =some oj∧waits oj k=true∧k∈l.foldl (fun S j=>if Rc ops bg S j then j::S else S) S):=by
  intro l
  induction l with
  |nil=>intro S hS j hj;exact hS j hj
  |cons x l ih=>
   intro S hS;rw [List.foldl_cons];refine ih _ ?_;split
   ·rename_i hc;simp only [Rc,aO,bX] at hc;obtain⟨h1,h2⟩:=hc;intro j hj;rcases List.mem_cons.1 hj with rfl|hj
    ·right;cases ho:ops[j]? with
     |none=>simp [ho] at h2
     |some o=>
      simp only [ho,pQ,aO,oJ] at h2;obtain⟨e,he,hb,hm⟩:=h2;exact⟨h1,o,e.on,rfl,Kl.2 ⟨e,he,hb,rfl⟩,dc _ hm⟩
    ·rcases hS j hj with h|⟨h,oj,k,h3,h4,h5⟩
     ·exact .inl h
     ·exact .inr ⟨h,oj,k,h3,h4,dc _ h5⟩
   ·exact hS
 exact key _ _ fun j hj=>.inl (by simpa using hj)
theorem CA {pl:ba} {Y:Act→World→Prop} {i:Nat} {oi:Oper} {v:Value} (Qp: ∀a w,Y a w→Yx P ops oi v a w) (hi:ops[i]? =some oi) (vG: ∀(j:Nat) (o:Oper) cs b,ops[j]? =some o→o.op≠ .select cs b)
  (Qo: ∀x,oi.dst=some x→look pl.boxes x=none) (hQ: ∀c a w,Q (.panic c) (a.put oi.dst v) w→Q (.panic c) a w):
  ∀(fuel:Nat) (bg:Array Bool) (a:Act) (w:World) (S:Nat→Prop),S i→
   (∀j,S j→j=i∨(bg.getD j true=false∧ ∃oj k,ops[j]? =some oj∧waits oj k=true∧S k))→
   (∀j oj,ops[j]? =some oj→j≠i→bg.getD j true=false→ ¬S j→oi.apart ops oj=true∧MH pl ops oi oj (kn pl ops j=false) (oB pl ops oj) Y)→
   i∈fj .any ops bg→Y a w→
   oa P pl ops Q fuel (bg.setIfInBounds i true) (a.put oi.dst v) w→oa P pl ops Q (fuel+1) bg a w:=by
 intro fuel
 induction fuel with
 |zero=>
  intro bg a w S _ hS _ hr hy H;refine⟨fun h=>(by rw [h] at hr;cases hr),fun j hj=>?_⟩;by_cases CB:j=i
  ·subst CB;exact(Qp _ _ hy).wpOp hi ⟨fun _ _=>⟨fun _=>kM.refl pl _ a w _ _ Qo,rA.refl _ _ _ _⟩,H⟩
  ·have:=ready_mono hj CB;rw [H.1] at this;cases this
 |succ fuel ih=>
  intro bg a w S hSi hS Wu hr hy H;refine⟨fun h=>(by rw [h] at hr;cases hr),fun j hj=>?_⟩;by_cases CB:j=i
  ·subst CB;exact(Qp _ _ hy).wpOp hi ⟨fun _ _=>⟨fun _=>kM.refl pl _ a w _ _ Qo,rA.refl _ _ _ _⟩,H⟩
  ·have h1:=H.2 j (ready_mono hj CB);obtain⟨YW,oj,wZ,CC⟩:=mem_ready.1 hj;have YX: ¬S j:=by
    intro hjS;rcases hS j hjS with h|⟨_,oj',k,YY,hwt,hkS⟩
    ·exact CB h
    ·rw [wZ] at YY;cases YY;obtain⟨e,he,hb,heq⟩:=Kl.1 hwt;have h1:=CC e he hb;rw [heq] at h1;have h0:bg.getD k true=false:=by
      rcases hS k hkS with h|h
      ·subst h;exact(mem_ready.1 hr).1
      ·exact h.1
     rcases Nat.lt_or_ge k bg.size with h'|h'
     ·simp [h'] at h0 h1;rw [h0] at h1;cases h1
     ·simp [kf h'] at h1
   obtain⟨Fw,acu⟩:=Wu j oj wZ CB YW YX;have Qq:=wpOp_mono (K':=fun a' w'=>rB (kn pl ops j=false) pl (oB pl ops oj) (a.put oi.dst v) w a' w'∧oa P pl ops Q fuel ((bg.setIfInBounds i true).setIfInBounds j true) a' w')
    (fun a' w' h'=>⟨h'.1 oj wZ,h'.2⟩) h1
   have h2:=SK wZ Fw (fun cs b=>vG i oi cs b hi) (fun cs b=>vG j oj cs b wZ) Qo acu hQ hy Qq;have YZ: ∀k ok,ops[k]? =some ok→k≠i→(bg.setIfInBounds j true).getD k true=false→ ¬S k→
     oi.apart ops ok=true∧MH pl ops oi ok (kn pl ops k=false) (oB pl ops ok) Y:=fun k ok hk Y9 yc iz=>by
    refine Wu k ok hk Y9 ?_ iz;by_cases Wv:j=k
    ·subst Wv;exact YW
    ·rw [getD_set_ne true Wv] at yc;exact yc
   have hS': ∀k,S k→k=i∨((bg.setIfInBounds j true).getD k true=false∧ ∃oj k',ops[k]? =some oj∧waits oj k'=true∧S k'):=fun k hk=>by
    rcases hS k hk with h|⟨h,h2⟩
    ·exact .inl h
    ·exact .inr ⟨by rw [getD_set_ne true (fun e=>YX (by rw [e];exact hk))];exact h,h2⟩
   refine wpOp_mono (fun a' w' h3=>⟨fun o ho=>?_,ih (bg.setIfInBounds j true) a' w' S hSi hS' YZ (ready_mono hr (Ne.symm CB)) h3.2.1 ?_⟩) h2
   ·rw [wZ] at ho;injection ho with ho;subst ho;exact h3.1
   rw [mM _ _ CB];exact h3.2.2
theorem Kn {pl:ba} {RB:List Nat} {i:Nat} {oi:Oper} {bg:Array Bool} (hi:ops[i]? =some oi) (h:EA pl ops bg i RB=true): ∀x,oi.dst=some x→look pl.boxes x=none:=by
 simp only [EA,hi,aO] at h;intro x hx;have:=h.1;rw [hx] at this;simpa using this
theorem HB {pl:ba} {RB:List Nat} {i:Nat} {oi:Oper} {bg:Array Bool} (hi:ops[i]? =some oi) (h:EA pl ops bg i RB=true) (j:Nat) (oj:Oper)
  (hj:ops[j]? =some oj) (dO:j≠i) (yc:bg.getD j true=false) (iz: ¬j∈yQ ops bg i) (Za:waits oj i=false):
  oi.apart ops oj=true∧(kn pl ops j=false∨uQ oi=true∨Kk oi RB=true)∧ ∀b,b∈oB pl ops oj→ ¬b∈RB:=by
 simp only [EA,hi,aO,sh,List.mem_range] at h;have h1:=h.2 j (Array.getElem?_eq_some_iff.1 hj).1;simp only [hj,tI,beq_iff_eq,dO,false_or,yc,aU,Za,aO,bX,sh,oJ,iz,or_false] at h1;exact⟨h1.1.1,h1.1.2.elim (fun h=>.inr h) .inl,fun b hb=>by have:=h1.2 b hb;simpa using this⟩
end
def vP (env:Env):Option (Nat×Bool)→Prop
 |none=>True
 |some (g,want)=>jw (env g) want=true
structure Bk where
 ds:List Deferred
 pins:List (Nat×Value)
structure dQ (pl:ba) (ds:Bk) (cs:CS) (env:Env) (X:XS) (w0:World) (a:Act) (w:World):Prop where
 size:a.tmps.size=pl.n
 defers:a.defers=ds.ds
 rP: ∀p,p∈ds.pins→a.tmps[p.1]? =some p.2∧((∃n k,look pl.boxes p.1=some n∧p.2=dV k 0)∨pl.gS p.1=true)
 ext:Kp X w0 w
 oZ: ∀k,X k→k<w.heap.size
 lx: ∀s,pl.gS s=true→a.tmps[s]? =some (env s)
 sig: ∀p,p∈cs.sig→a.tmps[p.1]? =some (p.2.ev env)
 box: ∀b n,look pl.boxes b=some n→ ∀cells,env b= .agg cells→ ∃k ty,a.tmps[b]? =some (dV k 0)∧w.heap[k]? =some (.cells cells ty (0,0))∧cells.size=n∧ ¬X k
 inj: ∀b b' n n',look pl.boxes b=some n→look pl.boxes b'=some n'→bP (env b)=true→bP (env b')=true→ ∀k,a.tmps[b]? =some (dV k 0)→a.tmps[b']? =some (dV k 0)→b=b'
 conv: ∀b n,look pl.boxes b=some n→ ∀k,a.tmps[b]? =some (dV k 0)→bP (env b)=true
 live: ∀b,b∈cs.live→(∃n,look pl.boxes b=some n)∧bP (env b)=true
 ptr: ∀p,p∈cs.rz→(∃n,look pl.boxes p.b=some n)∧(vP env p.g→bP (env p.b)=true∧ ∃k,a.tmps[p.b]? =some (dV k 0)∧a.tmps[p.s]? =some (dV k p.off))
theorem pG (a:Act) (d:Nat) (v:Value) (s:Nat) (hd:d<a.tmps.size):(a.put (some d) v).tmps[s]? =if s=d then some v else a.tmps[s]? :=by
 simp only [jc,dr];by_cases h:s=d
 ·subst h;simp [hd]
 ·rw [if_neg (Ne.symm h),if_neg h]
theorem eb (a:Act) (d:Nat) (v:Value) (s:Nat) (h:s≠d):(a.put (some d) v).tmps[s]? =a.tmps[s]? :=by
 simp only [jc,dr];rw [if_neg (Ne.symm h)]
theorem iK (e:Env) (d:Nat) (v:Value):jd e d v d=v:=by simp [jd]
theorem fi (e:Env) {d s:Nat} (v:Value) (h:s≠d):jd e d v s=e s:=by
 have:(s==d)=false:=by simpa using h
 simp [jd,this]
theorem MK {e:Ex} {d:Nat} (h:e.My d=false) (env:Env) (v:Value):e.ev (jd env d v)=e.ev env:=by
 cases e<;>simp only [Ex.My,beq_eq_false_iff_ne,ne_eq] at h<;>simp [Ex.ev,fi,h]
theorem oq {v:Value} :bP v=true↔ ∃c,v= .agg c:=by
 cases v<;>simp [bP]
section
variable {P : Program} {pl : ba} {ds : Bk} {cs : CS} {env : Env} {X : XS} {w0 w : World} {a : Act}
theorem lY {s:Nat} (h:pl.gS s=true):s<pl.n∧look pl.boxes s=none∧pl.Kj.contains s=false:=by
 simp only [ba.gS,aO,decide_eq_true_eq,fu,bX] at h;exact⟨h.1.1.2,h.1.2,h.2⟩
theorem qH {s:Nat} (h:pl.je s=true):s<pl.n∧look pl.boxes s=none∧pl.Kj.contains s=false:=by
 simp only [ba.je,aO,decide_eq_true_eq,fu,bX] at h;exact⟨h.1.1,h.1.2,h.2⟩
theorem uu {α:Type} {l:List (Nat×α)} {t:Nat} {e:α} (h:look l t=some e):(t,e)∈l:=by
 induction l with
 |nil=>cases h
 |cons p r ih=>
  obtain⟨s,x⟩:=p;simp only [look] at h;split at h
  ·rename_i hs;injection h with h
   subst hs h;exact eY ..
  ·exact dc _ (ih h)
theorem dQ.eval (h:dQ pl ds cs env X w0 a w) {x:Operand} {e:Ex} (hv:valOf pl cs x=some e):a.eval x=e.ev env:=by
 cases x with
 |tmp t=>
  simp only [valOf] at hv;split at hv
  ·rename_i hg;injection hv with hv
   subst hv;simp [ix,h.lx t hg,Ex.ev]
  ·have:=h.sig _ (uu hv);simp only at this;simp [ix,this]
 |const v=>simp only [valOf,av] at hv;subst hv;rfl
 |global g=>simp only [valOf,av] at hv;subst hv;rfl
 |func f=>simp only [valOf,av] at hv;subst hv;rfl
theorem sm: ∀{l:List Operand} {ss:List (Nat×Ex)},subst pl cs l=some ss→
  (∀t e,look ss t=some e→valOf pl cs (.tmp t)=some e)∧(∀t,.tmp t∈l→look ss t=none→valOf pl cs (.tmp t)=some (.t t))
 |[],ss,h=>by
  simp only [subst,av] at h;subst h;exact⟨fun t e h=>(by cases h),fun t h=>(by cases h)⟩
 |x::r,ss,h=>by
  cases x with
  |tmp t=>
   simp only [subst] at h;cases hv:valOf pl cs (.tmp t)with
   |none=>simp [hv] at h
   |some e=>
    cases hr:subst pl cs r with
    |none=>simp [hv,hr] at h
    |some ss'=>
     obtain⟨i1,i2⟩:=sm hr;simp only [hv,hr,av] at h;have gen: ∀e',e=e'→ss=(t,e')::ss'→(∀u e,look ss u=some e→valOf pl cs (.tmp u)=some e)∧(∀u,.tmp u∈(.tmp t::r)→look ss u=none→valOf pl cs (.tmp u)=some (.t u)):=by
      intro e' he hs;subst hs;refine⟨fun u e2 hu=>?_,fun u hu hn=>?_⟩
      ·simp only [look] at hu;split at hu
       ·rename_i Zb;injection hu with hu
        subst Zb hu;rw [hv,he]
       ·exact i1 _ _ hu
      ·simp only [look] at hn;split at hn
       ·cases hn
       ·rename_i Zb;rcases List.mem_cons.1 hu with h1|h1
        ·injection h1 with h1;exact absurd h1.symm Zb
        ·exact i2 u h1 hn
     cases e with
     |t n=>
      simp only at h;split at h
      ·rename_i Ww;subst Ww h;refine⟨i1,fun u hu hn=>?_⟩;rcases List.mem_cons.1 hu with h1|h1
       ·injection h1 with h1;subst h1;exact hv
       ·exact i2 u h1 hn
      ·exact gen _ rfl h.symm
     |c v=>exact gen _ rfl h.symm
     |s b o n=>exact gen _ rfl h.symm
     |k b o=>exact gen _ rfl h.symm
  |const v=>
   obtain⟨i1,i2⟩:=sm (l:=r) (by simpa only [subst] using h);exact⟨i1,fun u hu hn=>(List.mem_cons.1 hu).elim (fun h1=>by cases h1) fun h1=>i2 u h1 hn⟩
  |global v=>
   obtain⟨i1,i2⟩:=sm (l:=r) (by simpa only [subst] using h);exact⟨i1,fun u hu hn=>(List.mem_cons.1 hu).elim (fun h1=>by cases h1) fun h1=>i2 u h1 hn⟩
  |func v=>
   obtain⟨i1,i2⟩:=sm (l:=r) (by simpa only [subst] using h);exact⟨i1,fun u hu hn=>(List.mem_cons.1 hu).elim (fun h1=>by cases h1) fun h1=>i2 u h1 hn⟩
theorem dQ.Cy (h:dQ pl ds cs env X w0 a w) {l:List Operand} {ss:List (Nat×Ex)} (hs:subst pl cs l=some ss):
  ∀x,x∈l→a.eval x=aX.Cy env ss x:=by
 obtain⟨i1,i2⟩:=sm hs;intro x hx;cases x with
 |tmp t=>
  simp only [aX.Cy];cases hl:look ss t with
  |some e=>exact h.eval (i1 t e hl)
  |none=>exact h.eval (i2 t hx hl)
 |const v=>rfl
 |global g=>rfl
 |func f=>rfl
theorem SL (ρ:Operand→Value) (o:Oper):execOp ρ o=execOp ρ (Jb o.op o.type):=by
 cases o;rfl
theorem Rf {op:Op} (h:Aj op=true): ∀cs b,op≠ .select cs b:=by
 intro cs b e;subst e;cases h
theorem dQ.exec (h:dQ pl ds cs env X w0 a w) {o:Oper} {ss:List (Nat×Ex)} (hs:subst pl cs o.op.operands.toList=some ss) (hn:Aj o.op=true):
  execOp a.eval o=execOp (aX.Cy env ss) (Jb o.op o.type):=by
 rw [execOp_congr o (Rf hn) fun x hx=>h.Cy hs x (by simpa using hx)];exact SL _ _
theorem dQ.step (h:dQ pl ds cs env X w0 a w) {X':XS} {dF w':World} (hx:Kp X' dF w') (hX: ∀k,X' k→k<w'.heap.size)
  (hb: ∀k,k<w.heap.size→ ¬X k→w'.heap[k]? =w.heap[k]? ∧ ¬X' k):dQ pl ds cs env X' dF a w' where
 size:=h.size
 defers:=h.defers
 rP:=h.rP
 ext:=hx
 oZ:=hX
 lx:=h.lx
 sig:=h.sig
 box:=fun b n hn cells hc=>by
  obtain⟨k,ty,h1,h2,h3,h4⟩:=h.box b n hn cells hc;obtain⟨e1,e2⟩:=hb k (Array.getElem?_eq_some_iff.1 h2).1 h4;exact⟨k,ty,h1,e1.trans h2,h3,e2⟩
 inj:=h.inj
 conv:=h.conv
 live:=h.live
 ptr:=h.ptr
theorem dQ.jf (h:dQ pl ds cs env X w0 a w) {w':World} (hx:Ext w w'):dQ pl ds cs env X w0 a w':=
 h.step (h.ext.trans (hx.kp h.oZ)) (fun k hk=>aA (h.oZ k hk) hx.size) fun _ hk hX=>⟨hx.block hk,hX⟩
theorem dQ.EB (h:dQ pl ds cs env X w0 a w) {m:Bool} {w':World} (hs:Step m X w w'):dQ pl ds cs env (grow X w w') w' a w':=
 h.step (Kp.refl _ _) (fun k hk=>hk.elim (fun hX=>aA (h.oZ k hX) hs.fr.size) (·.2))
  fun k hk hX=>⟨hs.fr.block k hk hX,fun hg=>hg.elim hX fun hg=>by omega⟩
theorem mO {s d:Nat} {n:Nat} (hs:look pl.boxes s=some n) (hd:look pl.boxes d=none):s≠d:=by
 rintro rfl;rw [hs] at hd;cases hd
theorem dQ.bind (h:dQ pl ds cs env X w0 a w) {d:Nat} (hd:pl.je d=true) (v:Value) (lq: ∀p,p∈ds.pins→p.1≠d):
  dQ pl ds (cs.bind pl d) (jd env d v) X w0 (a.put (some d) v) w:=by
 obtain⟨dA,mP,su⟩:=qH hd;have gy:d<a.tmps.size:=by rw [h.size];exact dA
 have Wx: ∀p,p∈(cs.kill d).sig→(a.put (some d) v).tmps[p.1]? =some (p.2.ev (jd env d v)):=by
  intro p hp;simp only [CS.kill,eD,aO,bne_iff_ne,ne_eq,bX] at hp;rw [eb _ _ _ _ hp.2.1,MK hp.2.2];exact h.sig p hp.1
 have Uv: ∀p,p∈(cs.kill d).rz→(∃n,look pl.boxes p.b=some n)∧(vP (jd env d v) p.g→bP (jd env d v p.b)=true∧ ∃k,(a.put (some d) v).tmps[p.b]? =some (dV k 0)∧(a.put (some d) v).tmps[p.s]? =some (dV k p.off)):=by
  intro p hp;simp only [CS.kill,eD,aO,bne_iff_ne,ne_eq] at hp;obtain⟨ML,⟨hb,hs⟩,hg⟩:=hp;obtain⟨e1,e2⟩:=h.ptr p ML;refine⟨e1,fun CD=>?_⟩;have acv:vP env p.g:=by
   cases SM:p.g with
   |none=>trivial
   |some x=>
    obtain⟨g,want⟩:=x;rw [SM] at CD hg;simp only [vP] at CD⊢
    rwa [fi _ _ (by simpa using hg)] at CD
  obtain⟨e3,k,e4,e5⟩:=e2 acv;rw [fi _ _ hb,eb _ _ _ _ hb,eb _ _ _ _ hs];exact⟨e3,k,e4,e5⟩
 have Uw: ∀p,p∈(cs.bind pl d).sig→(a.put (some d) v).tmps[p.1]? =some (p.2.ev (jd env d v)):=by
  intro p hp;simp only [CS.bind] at hp;split at hp
  ·exact Wx p hp
  ·rcases List.mem_cons.1 hp with rfl|hp
   ·simp [pG _ _ _ _ gy,Ex.ev,iK]
   ·exact Wx p hp
 have hpt:(cs.bind pl d).rz=(cs.kill d).rz:=by simp only [CS.bind];split<;>rfl
 have Zc:(cs.bind pl d).live=cs.live:=by simp only [CS.bind];split<;>rfl
 exact {
  size:=by simp [jc,h.size]
  defers:=h.defers
  rP:=fun p hp=>⟨by rw [eb _ _ _ _ (lq p hp)];exact(h.rP p hp).1,(h.rP p hp).2⟩
  ext:=h.ext
  oZ:=h.oZ
  lx:=fun s hs=>by
   rw [pG _ _ _ _ gy];split
   ·rename_i e;subst e;rw [iK]
   ·rename_i e;rw [fi _ _ e];exact h.lx s hs
  sig:=Uw
  box:=fun b n hn cells hc=>by
   have kE:=mO hn mP;rw [fi _ _ kE] at hc;rw [eb _ _ _ _ kE];exact h.box b n hn cells hc
  inj:=fun b b' n n' hb fp h1 h2 k h3 h4=>by
   have kE:=mO hb mP;have Am:=mO fp mP;rw [fi _ _ kE] at h1;rw [fi _ _ Am] at h2;rw [eb _ _ _ _ kE] at h3;rw [eb _ _ _ _ Am] at h4;exact h.inj b b' n n' hb fp h1 h2 k h3 h4
  conv:=fun b n hb k hk=>by
   have kE:=mO hb mP;rw [eb _ _ _ _ kE] at hk;rw [fi _ _ kE];exact h.conv b n hb k hk
  live:=fun b hb=>by
   rw [Zc] at hb;obtain⟨⟨n,hn⟩,hl⟩:=h.live b hb;rw [fi _ _ (mO hn mP)];exact⟨⟨n,hn⟩,hl⟩
  ptr:=by rw [hpt];exact Uv }
theorem dQ.iE (h:dQ pl ds cs env X w0 a w) {nd:List Nat} (hn: ∀b,b∈nd→(∃n,look pl.boxes b=some n)∧bP (env b)=true):
  dQ pl ds (cs.iE nd) env X w0 a w:=
 { h with live:=fun b hb=>(List.mem_append.1 hb).elim (hn b) (h.live b) }
theorem dQ.other (h:dQ pl ds cs env X w0 a w) {d:Nat} (dA:d<pl.n) (mP:look pl.boxes d=none) (HC:pl.gS d=false) (v:Value) {pR:CS}
  (Uw: ∀p,p∈pR.sig→(a.put (some d) v).tmps[p.1]? =some (p.2.ev env)) (Zc:pR.live=cs.live)
  (Uv: ∀p,p∈pR.rz→(∃n,look pl.boxes p.b=some n)∧(vP env p.g→bP (env p.b)=true∧ ∃k,(a.put (some d) v).tmps[p.b]? =some (dV k 0)∧(a.put (some d) v).tmps[p.s]? =some (dV k p.off))):
  dQ pl ds pR env X w0 (a.put (some d) v) w where
 size:=by simp [jc,h.size]
 defers:=h.defers
 rP:=fun p hp=>by
  obtain⟨h1,h2⟩:=h.rP p hp;refine⟨?_,h2⟩;have dO:p.1≠d:=fun e=>by
   rcases h2 with⟨n,_,hn,_⟩|hg
   ·rw [e,mP] at hn;cases hn
   ·rw [e,HC] at hg;cases hg
  rw [eb _ _ _ _ dO];exact h1
 ext:=h.ext
 oZ:=h.oZ
 lx:=fun s hs=>by
  rw [eb _ _ _ _ (by rintro rfl;rw [hs] at HC;cases HC)];exact h.lx s hs
 sig:=Uw
 box:=fun b n hn cells hc=>by
  rw [eb _ _ _ _ (mO hn mP)];exact h.box b n hn cells hc
 inj:=fun b b' n n' hb fp h1 h2 k h3 h4=>by
  rw [eb _ _ _ _ (mO hb mP)] at h3;rw [eb _ _ _ _ (mO fp mP)] at h4;exact h.inj b b' n n' hb fp h1 h2 k h3 h4
 conv:=fun b n hb k hk=>by
  rw [eb _ _ _ _ (mO hb mP)] at hk;exact h.conv b n hb k hk
 live:=fun b hb=>h.live b (Zc▸hb)
 ptr:=Uv
theorem dQ.note (h:dQ pl ds cs env X w0 a w) {d:Nat} (hd:pl.je d=true) (HC:pl.gS d=false) (e:Ex):
  dQ pl ds (cs.note d e) env X w0 (a.put (some d) (e.ev env)) w:=by
 obtain⟨dA,mP,su⟩:=qH hd;have gy:d<a.tmps.size:=by rw [h.size];exact dA
 refine h.other dA mP HC _ ?_ rfl ?_
 ·intro p hp;simp only [CS.note,qc,eD,bne_iff_ne,ne_eq] at hp;rcases hp with rfl|⟨hp,dO⟩
  ·simp [pG _ _ _ _ gy]
  ·rw [eb _ _ _ _ dO];exact h.sig p hp
 ·intro p hp;simp only [CS.note,eD,bne_iff_ne,ne_eq] at hp;obtain⟨⟨n,hn⟩,e2⟩:=h.ptr p hp.1;refine⟨⟨n,hn⟩,fun hg=>?_⟩;obtain⟨e3,k,e4,e5⟩:=e2 hg;refine⟨e3,k,?_,?_⟩
  ·rw [eb _ _ _ _ (mO hn mP)];exact e4
  ·rw [eb _ _ _ _ hp.2];exact e5
theorem dQ.kZ (h:dQ pl ds cs env X w0 a w) {d:Nat} (hd:pl.je d=true) (e:Ex) {fI:List PanicEntry→Env→World→XS→Prop} {next:Env→World→XS→Prop}
  (hn:fg P fI next (aX.kZ pl cs d e).1 env w0 X) (lq: ∀b,b∈jr (aX.kZ pl cs d e).1→ ∀p,p∈ds.pins→p.1≠b): ∃cQ,dQ pl ds (aX.kZ pl cs d e).2 cQ X w0 (a.put (some d) (e.ev env)) w∧next cQ w0 X:=by
 unfold aX.kZ at hn lq⊢;split
 ·rename_i hg;rw [if_pos hg] at hn lq;exact⟨_,h.bind hd _ (lq d (by simp [jr,TI.Bs])),hn⟩
 ·rename_i hg;rw [if_neg hg] at hn;have HC:pl.gS d=false:=by
   cases hx:pl.gS d with
   |false=>rfl
   |true=>simp [hx] at hg
  exact⟨env,h.note hd HC e,hn⟩
theorem dQ.derive (h:dQ pl ds cs env X w0 a w) {d b off:Nat} {g:Option (Nat×Bool)} (dA:d<pl.n) (mP:look pl.boxes d=none) (An:pl.Kj.contains d=true)
    (v:Value) (hb: ∃n,look pl.boxes b=some n) (hv:vP env g→bP (env b)=true∧ ∃k,a.tmps[b]? =some (dV k 0)∧v=dV k off)
 :
    dQ pl ds (cs.jI d b off g) env X w0 (a.put (some d) v) w:=by
  have gy:d<a.tmps.size:=by rw [h.size];exact dA
  have HC:pl.gS d=false:=by
    cases hx:pl.gS d with
    |false=>rfl
    |true=>have:=(lY hx).2.2;rw [An] at this;cases this
  refine h.other dA mP HC _ ?_ rfl ?_
  · intro p hp
    simp only [CS.jI,eD,bne_iff_ne,ne_eq] at hp;rw [eb _ _ _ _ hp.2];exact h.sig p hp.1
  · intro p hp
    rcases List.mem_cons.1 hp with rfl|hp
    · obtain⟨n,hn⟩:=hb
      refine⟨⟨n,hn⟩,fun hg=>?_⟩;obtain⟨e1,k,e2,e3⟩:=hv hg;refine⟨e1,k,?_,?_⟩
      · rw [eb _ _ _ _ (mO hn mP)];exact e2
      · simp [pG _ _ _ _ gy,e3]
    · simp only [eD,bne_iff_ne,ne_eq] at hp
      obtain⟨⟨n,hn⟩,e2⟩:=h.ptr p hp.1;refine⟨⟨n,hn⟩,fun hg=>?_⟩;obtain⟨e3,k,e4,e5⟩:=e2 hg;refine⟨e3,k,?_,?_⟩
      · rw [eb _ _ _ _ (mO hn mP)];exact e4
      · rw [eb _ _ _ _ hp.2];exact e5
theorem Ux {d:Nat} {p:Nat×Ex} (hp:p∈(cs.kill d).sig):p∈cs.sig∧p.1≠d∧p.2.My d=false:=by
 simpa [CS.kill,eD] using hp
theorem Uy {d:Nat} {p:Ptr} (hp:p∈(cs.kill d).rz):p∈cs.rz∧p.b≠d∧p.s≠d∧(∀v,vP (jd env d v) p.g→vP env p.g):=by
 simp only [CS.kill,eD,aO,bne_iff_ne,ne_eq] at hp;obtain⟨ML,⟨hb,hs⟩,hg⟩:=hp;refine⟨ML,hb,hs,fun v CD=>?_⟩;cases SM:p.g with
 |none=>trivial
 |some x=>
  obtain⟨g,want⟩:=x;rw [SM] at CD hg;simp only [vP] at CD⊢
  rwa [fi _ _ (by simpa using hg)] at CD
theorem dQ.SN (h:dQ pl ds cs env X w0 a w) {d sz:Nat} (dA:d<pl.n) (hb:look pl.boxes d=some sz) (cells:Array Value) (gy:cells.size=sz) (ty:TypeId) (lq: ∀p,p∈ds.pins→p.1≠d):
  dQ pl ds ((cs.kill d).iE [d]) (jd env d (.agg cells)) X w0 (a.put (some d) (dV w.heap.size 0)) (w.alloc (.cells cells ty)):=by
 have hd:d<a.tmps.size:=by rw [h.size];exact dA
 have hg:=h.jf (Ext.alloc w (.cells cells ty));have fresh: ∀b n c,look pl.boxes b=some n→env b= .agg c→a.tmps[b]? ≠some (dV w.heap.size 0):=by
  intro b n c hn hc e;obtain⟨k,ty',h1,h2,_,_⟩:=h.box b n hn c hc;rw [h1] at e;have hk:k=w.heap.size:=by simpa [dV] using e
  subst hk;rw [kf (bF _)] at h2;cases h2
 exact {
  size:=by simp [jc,h.size]
  defers:=h.defers
  rP:=fun p hp=>⟨by rw [eb _ _ _ _ (lq p hp)];exact(h.rP p hp).1,(h.rP p hp).2⟩
  ext:=hg.ext
  oZ:=hg.oZ
  lx:=fun s hs=>by
   have dO:s≠d:=fun e=>by subst e;have:=(lY hs).2.1;rw [hb] at this;cases this
   rw [eb _ _ _ _ dO,fi _ _ dO];exact h.lx s hs
  sig:=fun p hp=>by
   obtain⟨h1,h2,h3⟩:=Ux hp;rw [eb _ _ _ _ h2,MK h3];exact h.sig p h1
  box:=fun b n hn c hc=>by
   by_cases kE:b=d
   ·subst kE;rw [iK] at hc;injection hc with hc
    subst hc;rw [hb] at hn;injection hn with hn
    refine⟨w.heap.size,ty,by simp [pG _ _ _ _ hd],heap_alloc_new w _,by omega,fun hX=>?_⟩;exact absurd (h.oZ _ hX) zQ
   ·rw [fi _ _ kE] at hc;rw [eb _ _ _ _ kE];exact hg.box b n hn c hc
  inj:=fun b b' n n' hn jE h1 h2 k h3 h4=>by
   obtain⟨c,hc⟩:=oq.1 h1;obtain⟨c',CE⟩:=oq.1 h2;by_cases kE:b=d<;>by_cases Am:b'=d
   ·rw [kE,Am]
   ·subst kE;rw [pG _ _ _ _ hd,if_pos rfl] at h3;rw [eb _ _ _ _ Am] at h4;rw [fi _ _ Am] at CE;rw [←h3] at h4;exact absurd h4 (fresh b' n' c' jE CE)
   ·subst Am;rw [pG _ _ _ _ hd,if_pos rfl] at h4;rw [eb _ _ _ _ kE] at h3;rw [fi _ _ kE] at hc;rw [←h4] at h3;exact absurd h3 (fresh b n c hn hc)
   ·rw [fi _ _ kE] at h1;rw [fi _ _ Am] at h2;rw [eb _ _ _ _ kE] at h3;rw [eb _ _ _ _ Am] at h4;exact h.inj b b' n n' hn jE h1 h2 k h3 h4
  conv:=fun b n hn k hk=>by
   by_cases kE:b=d
   ·subst kE;rw [iK];rfl
   ·rw [eb _ _ _ _ kE] at hk;rw [fi _ _ kE];exact h.conv b n hn k hk
  live:=fun b fp=>by
   simp only [CS.iE,nC,dG,qc] at fp;rcases fp with rfl|fp
   ·exact⟨⟨sz,hb⟩,by rw [iK];rfl⟩
   ·obtain⟨e1,e2⟩:=h.live b fp;refine⟨e1,?_⟩;by_cases kE:b=d
    ·subst kE;rw [iK];rfl
    ·rw [fi _ _ kE];exact e2
  ptr:=fun p hp=>by
   obtain⟨h1,h2,h3,h4⟩:=Uy (env:=env) hp;obtain⟨e1,e2⟩:=h.ptr p h1;refine⟨e1,fun CD=>?_⟩;obtain⟨e3,k,e4,e5⟩:=e2 (h4 _ CD);rw [fi _ _ h2,eb _ _ _ _ h2,eb _ _ _ _ h3];exact⟨e3,k,e4,e5⟩ }
theorem dQ.store (h:dQ pl ds cs env X w0 a w) {b n k:Nat} {ty:TypeId} {cells pa:Array Value} (hb:look pl.boxes b=some n) (hc:env b= .agg cells)
  (ht:a.tmps[b]? =some (dV k 0)) (hk:w.heap[k]? =some (.cells cells ty (0,0))) (hX: ¬X k) (gy:pa.size=n) {w':World} (hw:Fr (· =k) w w') (ae:w'.heap[k]? =some (.cells pa ty (0,0))):
  dQ pl ds (cs.Ez b) (jd env b (.agg pa)) X w0 a w':=by
 have hA:bP (env b)=true:=by rw [hc];rfl
 exact {
  size:=h.size
  defers:=h.defers
  rP:=h.rP
  ext:=h.ext.trans (hw.kp fun j hj=>⟨h.oZ j hj,fun e=>by subst e;exact hX hj⟩)
  oZ:=fun j hj=>aA (h.oZ j hj) hw.size
  lx:=fun s hs=>by
   have dO:s≠b:=fun e=>by subst e;have:=(lY hs).2.1;rw [hb] at this;cases this
   rw [fi _ _ dO];exact h.lx s hs
  sig:=fun p hp=>by
   simp only [CS.Ez,eD,bX] at hp;rw [MK hp.2];exact h.sig p hp.1
  box:=fun b' n' jE c CE=>by
   by_cases kE:b'=b
   ·subst kE;rw [iK] at CE;injection CE with CE
    subst CE;rw [hb] at jE;injection jE with jE
    exact⟨k,ty,ht,ae,by omega,hX⟩
   ·rw [fi _ _ kE] at CE;obtain⟨k2,ty2,h1,h2,h3,h4⟩:=h.box b' n' jE c CE;have tK:k2≠k:=fun e=>by
     subst e;exact kE (h.inj b' b n' n jE hb (by rw [CE];rfl) hA k2 h1 ht)
    exact⟨k2,ty2,h1,(hw.block k2 (Array.getElem?_eq_some_iff.1 h2).1 tK).trans h2,h3,h4⟩
  inj:=fun b1 b2 n1 n2 qh Bt h1 h2 j h3 h4=>by
   have f: ∀b',bP (jd env b (.agg pa) b')=true→bP (env b')=true:=fun b' hh=>by
    by_cases e:b'=b
    ·subst e;exact hA
    ·rwa [fi _ _ e] at hh
   exact h.inj b1 b2 n1 n2 qh Bt (f b1 h1) (f b2 h2) j h3 h4
  conv:=fun b' n' jE j hj=>by
   by_cases e:b'=b
   ·subst e;rw [iK];rfl
   ·rw [fi _ _ e];exact h.conv b' n' jE j hj
  live:=fun b' fp=>by
   obtain⟨e1,e2⟩:=h.live b' fp;refine⟨e1,?_⟩;by_cases e:b'=b
   ·subst e;rw [iK];rfl
   ·rwa [fi _ _ e]
  ptr:=fun p hp=>by
   obtain⟨e1,e2⟩:=h.ptr p hp;refine⟨e1,fun hg=>?_⟩;have qi:vP env p.g:=by
    cases SM:p.g with
    |none=>trivial
    |some x=>
     obtain⟨g,want⟩:=x;rw [SM] at hg;simp only [vP] at hg⊢;by_cases e:g=b
     ·subst e;rw [iK] at hg;cases hg
     ·rwa [fi _ _ e] at hg
   obtain⟨e3,k2,e4,e5⟩:=e2 qi;refine⟨?_,k2,e4,e5⟩;by_cases e:p.b=b
   ·rw [e,iK];rfl
   ·rwa [fi _ _ e] }
end
section
variable {P : Program}
theorem uv (k o n:Nat):(⟨k,o,none⟩:Addr).add n=⟨k,o+n,none⟩:=by
 unfold Addr.add;split<;>simp_all
theorem Fx {S f fo sz:Nat} (h:fieldInfo P S f=some (fo,sz)) (hz:sz≠0) (k off:Nat) (w:World):
  (Instr.fieldAt S (dV k off) f).run P w= .ok (dV k (off+fo)) w:=by
 unfold fieldInfo at h;split at h
 ·rename_i fs hu;cases hf:fs[f]? with
  |none=>simp [hf] at h
  |some x=>
   cases hi:P.info? x.type with
   |none=>simp [hf,hi] at h
   |some i=>
    simp only [hf,hi,dd,bc,av,da] at h;obtain⟨h1,h2⟩:=h;subst h1 h2;simp [Instr.fieldAt,run_underlying hu,hf,gR,dV,fieldPlace,sizeOf,typeInfo,hi,hz,uv]
 ·cases h
theorem Bu {w:World} {k:Nat} {cells:Array Value} {ty:TypeId} (h:w.heap[k]? =some (.cells cells ty (0,0))) (i:Nat):w.cell? ⟨k,i,none⟩=cells[i]? :=by
 simp [World.cell?,h]
theorem HD {t:Nat} {ag:Bool} {sz:Nat} (h:gT P t=some (ag,sz)) (hag:(ag||sz==1)=true) {w:World} {k:Nat} {cells:Array Value} {ty:TypeId}
  (hk:w.heap[k]? =some (.cells cells ty (0,0))) (off:Nat) (hl:off+sz≤cells.size):
  (fN t (dV k off)).run P w= .ok (if ag then bV (.agg cells) off sz else cellOf (.agg cells) off) w:=by
 unfold gT at h;split at h
 ·rename_i d i hu hi;simp only [av,da] at h;obtain⟨h1,h2⟩:=h;subst h2;have ux:(isAgg t).run P w= .ok ag w:=by
   subst h1;cases d<;>simp [isAgg,run_underlying hu]
  cases ag with
  |true=>
   have hc: ∀j v,((cells.toList.drop off).take i.size)[j]? =some v→w.cell? ((⟨k,off,none⟩:Addr).add j)=some v:=by
    intro j v hj;rw [uv,Bu hk];rw [List.getElem?_take] at hj;split at hj
    ·rw [List.getElem?_drop] at hj;simpa using hj
    ·cases hj
   have hlen:((cells.toList.drop off).take i.size).length=i.size:=by
    simp;omega
   have hr:=run_loadCells_list (P:=P) w ⟨k,off,none⟩ _ hc;rw [hlen] at hr;simp [fN,gR,dV,loadVar,ux,sizeOf,typeInfo,hi,hr,bV,Value.cells]
  |false=>
   simp only [Bool.false_or,beq_iff_eq] at hag;have dA:off<cells.size:=by omega
   have hc:w.cell? ⟨k,off,none⟩=some cells[off]:=by rw [Bu hk];simp [dA]
   simp [fN,gR,dV,loadVar,ux,hc,cellOf,Value.cells,dA]
 ·cases h
theorem HE (v:Value):one v=v.oneCell':=by cases v<;>rfl
theorem ns {v:Value} (h:one v=true):v.cells= #[v]:=by cases v<;>first|rfl|cases h
theorem Px {t:Nat} {ag:Bool} {sz:Nat} (h:gT P t=some (ag,sz)):(P.info? t).map (·.size)=some sz:=by
 unfold gT at h;split at h
 ·rename_i d i hu hi;simp only [av,da] at h;simp [hi,h.2]
 ·cases h
theorem Fy {t sz:Nat} (h:(P.info? t).map (·.size)=some sz) {w:World} {k:Nat} {cells:Array Value} {ty:TypeId}
  (hk:w.heap[k]? =some (.cells cells ty (0,0))) (off:Nat) (hl:off+sz≤cells.size) (v:Value) (hv:v.cells.size=sz) (h1:v.cells.toList.all one=true):
  (Instr.storeAt t (dV k off) v).run P w= .ok () (w.setRow k (cP cells.toList off v.cells.toList).toArray):=by
 cases hi:P.info? t with
 |none=>simp [hi] at h
 |some i=>
  simp only [hi,bc,av] at h;have fv:=run_storeCells_at P k off ty v.cells.toList 0 cells w hk (by simpa [hv] using hl) (fun x hx=>by
   have:=List.all_eq_true.1 h1 x hx
   rwa [HE] at this)
  simp only [Nat.add_zero] at fv;simp [Instr.storeAt,gR,dV,storeVar,sizeOf,typeInfo,hi,h,hv,fv,cP]
end
theorem SO {w:World} {k:Nat} {cells pa:Array Value} {ty:TypeId} (hk:w.heap[k]? =some (.cells cells ty (0,0))):
  Fr (· =k) w (w.setRow k pa)∧(w.setRow k pa).heap[k]? =some (.cells pa ty (0,0)):=by
 refine⟨⟨rfl,rfl,rfl,by simp [World.setRow],fun j _ hj=>?_⟩,setRow_heap w k cells pa ty (0,0) hk⟩;simp only [World.setRow,Array.getElem?_modify];rw [if_neg (fun e=>hj e.symm)]
theorem Uz {l vs:List Value} {off:Nat} (h:off+vs.length≤l.length):(cP l off vs).length=l.length:=by
 simp [cP];omega
section
variable {P : Program} {pl : ba} {ds : Bk} {cs : CS} {env : Env} {X : XS} {w0 w : World} {a : Act}
theorem CF {og:Option (Nat×Bool)} : ∀{l:List Ptr} {t b off:Nat},zk og l t=some (b,off)→ ∃p,p∈l∧p.s=t∧p.b=b∧p.off=off∧(p.g=none∨p.g=og)
 |[],_,_,_,h=>by cases h
 |p::r,t,b,off,h=>by
  simp only [zk] at h;split at h
  ·rename_i hs;split at h
   ·rename_i hg;simp only [av,da] at h;refine⟨p,eY ..,hs,h.1,h.2,?_⟩;simpa using hg
   ·cases h
  ·obtain⟨q,h1,h2⟩:=CF h;exact⟨q,dc _ h1,h2⟩
theorem dQ.oL (h:dQ pl ds cs env X w0 a w) {og:Option (Nat×Bool)} {x:Operand} {b off:Nat} {nd:List Nat} (hp:aX.oL pl cs og x=some (b,off,nd)):
  (∃n,look pl.boxes b=some n)∧(∀b',b'∈nd→ ∃n,look pl.boxes b'=some n)∧
  ((∀b',b'∈nd→bP (env b')=true)→vP env og→bP (env b)=true∧ ∃k,a.eval x=dV k off∧a.tmps[b]? =some (dV k 0)):=by
 cases x with
 |tmp t=>
  simp only [aX.oL] at hp;split at hp
  ·rename_i n hn;simp only [av,da] at hp;obtain⟨rfl,rfl,su⟩:=hp;refine⟨⟨n,hn⟩,fun b' fp=>?_,fun hl _=>?_⟩
   ·split at su<;>subst su
    ·cases fp
    ·rcases List.mem_singleton.1 fp with rfl;exact⟨n,hn⟩
   ·have hA:bP (env t)=true:=by
     split at su
     ·rename_i hc;exact(h.live t (by simpa using hc)).2
     ·subst su;exact hl t (List.mem_singleton.2 rfl)
    obtain⟨c,hc⟩:=oq.1 hA;obtain⟨k,ty,h1,_⟩:=h.box t n hn c hc;exact⟨hA,k,by simp [ix,h1],h1⟩
  ·split at hp
   ·cases hf:zk og cs.rz t with
    |none=>simp [hf] at hp
    |some q=>
     obtain⟨b',adL⟩:=q;simp only [hf,bc,av,da] at hp;obtain⟨rfl,rfl,rfl⟩:=hp;obtain⟨p,hp,hs,hb,ho,hg⟩:=CF hf;obtain⟨e1,e2⟩:=h.ptr p hp;subst hs hb ho;refine⟨e1,fun _ fp=>(by cases fp),fun _ CD=>?_⟩;obtain⟨e3,k,e4,e5⟩:=e2 (hg.elim (fun hg=>by simp [hg,vP]) (fun hg=>by rw [hg];exact CD));exact⟨e3,k,by simp [ix,e5],e4⟩
   ·cases hp
 |const v=>cases hp
 |global g=>cases hp
 |func f=>cases hp
theorem CG {fI:List PanicEntry→Env→World→XS→Prop} {next:Env→World→XS→Prop} : ∀(nd:List Nat) {l:List TI},
  fg P fI next (nd.map .yP++l) env w X→(∀b,b∈nd→bP (env b)=true)∧fg P fI next l env w X
 |[],_,h=>⟨fun _ hb=>(by cases hb),h⟩
 |b::nd,l,h=>by
  obtain⟨h1,h2⟩:bP (env b)=true∧fg P fI next (nd.map .yP++l) env w X:=by simpa only [List.map_cons,nC,fg,MC,cX] using h
  obtain⟨h3,h4⟩:=CG nd h2;refine⟨fun b' fp=>?_,h4⟩;rcases List.mem_cons.1 fp with rfl|fp
  ·exact h1
  ·exact h3 b' fp
theorem uR {fI:List PanicEntry→Env→World→XS→Prop} {next:Env→World→XS→Prop} : ∀(l l':List TI),fg P fI next (l++l')=fg P fI (fg P fI next l') l
 |[],_=>rfl
 |i::l,l'=>by
  funext env w X
  simp only [nC,fg,uR l l']
inductive Shape (P:Program) (pl:ba) (cs:CS) (og:Option (Nat×Bool)) (m:Bool) (o:Oper):CR→Prop
 |mv (x:Operand) (d:Nat) (e:Ex) (ho:o.op= .move x∨o.op= .assign x) (hd:o.dst=some d) (hv:valOf pl cs x=some e) (hp:pl.je d=true):
   Shape P pl cs og m o ⟨true,[],(kZ pl cs d e).1,(kZ pl cs d e).2,[],[]⟩
 |ld (t:TypeId) (x:Operand) (d b off:Nat) (nd:List Nat) (ag:Bool) (sz bs:Nat) (ho:o.op= .load t x) (hd:o.dst=some d) (hx:aX.oL pl cs og x=some (b,off,nd))
   (ht:gT P t=some (ag,sz)) (hb:look pl.boxes b=some bs) (hp:pl.je d=true) (hl:off+sz≤bs) (ha:(ag||sz==1)=true):
   Shape P pl cs og m o ⟨true,nd,(kZ pl (cs.iE nd) d (if ag then .s b off sz else .k b off)).1,(kZ pl (cs.iE nd) d (if ag then .s b off sz else .k b off)).2,[b],[]⟩
 |fa (S:TypeId) (x:Operand) (f d b off:Nat) (nd:List Nat) (fo sz:Nat) (ho:o.op= .fieldAddr S x f) (hd:o.dst=some d) (hx:aX.oL pl cs og x=some (b,off,nd))
   (hf:fieldInfo P S f=some (fo,sz)) (An:pl.Kj.contains d=true) (dA:d<pl.n) (mP:look pl.boxes d=none) (hz:sz≠0):
   Shape P pl cs og m o ⟨true,nd,[],(cs.iE nd).jI d b (off+fo) og,[],[]⟩
 |rd (d:Nat) (ss:List (Nat×Ex)) (hd:o.dst=some d) (hs:subst pl cs o.op.operands.toList=some ss) (hn:Aj o.op=true) (hp:pl.je d=true):
   Shape P pl cs og m o ⟨true,[],[.rd d o.op o.type ss],cs.bind pl d,[],[]⟩
 |vO (d:Nat) (ss:List (Nat×Ex)) (hd:o.dst=some d) (hs:subst pl cs o.op.operands.toList=some ss) (hn:Aj o.op=true) (hp:pl.je d=true):
   Shape P pl cs og m o ⟨false,[],[.vO (some d) o.op o.type ss m],cs.bind pl d,[],[]⟩
 |act (ss:List (Nat×Ex)) (hd:o.dst=none) (hs:subst pl cs o.op.operands.toList=some ss) (hn:Aj o.op=true):
   Shape P pl cs og m o ⟨false,[],[.vO none o.op o.type ss m],cs,[],[]⟩
 |bx (t:TypeId) (x:Operand) (d sz:Nat) (e:Ex) (ag:Bool) (ho:o.op= .box t x) (hd:o.dst=some d) (hb:look pl.boxes d=some sz) (hv:valOf pl cs x=some e) (ht:gT P t=some (ag,sz)) (dA:d<pl.n):
   Shape P pl cs og m o ⟨false,[],[if !ag&&sz==1 then .sj d e else .box d sz e],(cs.kill d).iE [d],[],[]⟩
 |al (t:TypeId) (d sz:Nat) (i:TypeInfo) (z:Value) (ag:Bool) (ho:o.op= .alloc t) (hd:o.dst=some d) (hb:look pl.boxes d=some sz) (hi:P.info? t=some i) (hz:i.zero=some z) (ht:gT P t=some (ag,sz)) (dA:d<pl.n):
   Shape P pl cs og m o ⟨false,[],[if !ag&&sz==1 then .sj d (.c z)else .box d sz (.c z)],(cs.kill d).iE [d],[],[]⟩
 |st (t:TypeId) (x v:Operand) (b off:Nat) (nd:List Nat) (sz bs:Nat) (e:Ex) (ag:Bool) (ho:o.op= .store t x v) (hd:o.dst=none) (hx:aX.oL pl cs og x=some (b,off,nd))
   (hv:valOf pl cs v=some e) (ht:gT P t=some (ag,sz)) (hb:look pl.boxes b=some bs) (hl:off+sz≤bs):
   Shape P pl cs og m o ⟨false,nd,[if !ag&&sz==1 then .Mz b off e else if off==0&&sz==bs then .fill b sz e else .put b off sz e],(cs.iE nd).Ez b,[],[b]⟩
theorem pH {m:Bool} {og:Option (Nat×Bool)} {o:Oper} {r:CR} (h:yb P pl cs m o=some r):Shape P pl cs og m o r:=by
 unfold yb at h;split at h
 ·cases h
 ·rename_i ss hs;split at h
  ·cases h
  ·rename_i hn;simp only [bX,rO] at hn;split at h
   ·rename_i d hd;split at h
    ·cases h
    ·rename_i hp;simp only [bX,rO] at hp;split at h<;>injection h with h<;>subst h
     ·exact .rd d ss hd hs hn hp
     ·exact .vO d ss hd hs hn hp
   ·rename_i hd;injection h with h
    subst h;exact .act ss hd hs hn
theorem Ko {m:Bool} {og:Option (Nat×Bool)} {o:Oper} {r:CR} {sz d t:Nat} {e:Ex} (h:ME P pl cs sz t e d=some r)
  (k: ∀ag,d<pl.n→gT P t=some (ag,sz)→Shape P pl cs og m o ⟨false,[],[if !ag&&sz==1 then .sj d e else .box d sz e],(cs.kill d).iE [d],[],[]⟩):Shape P pl cs og m o r:=by
 unfold ME at h;split at h
 ·rename_i ag s ht;split at h
  ·rename_i hc;simp only [aO,decide_eq_true_eq,beq_iff_eq] at hc;obtain⟨h1,h2⟩:=hc;subst h2;injection h with h
   subst h;exact k ag h1 ht
  ·cases h
 ·cases h
theorem lZ {m:Bool} {og:Option (Nat×Bool)} {o:Oper} {r:CR} (h:wF P pl cs og m o=some r):Shape P pl cs og m o r:=by
 unfold wF at h;split at h;case h_1 x ho=>
  split at h
  ·rename_i d e hd hv;split at h
   ·rename_i hp;injection h with h
    subst h;exact .mv x d e (.inl ho) hd hv hp
   ·cases h
  ·cases h
 case h_2 x ho=>
  split at h
  ·rename_i d e hd hv;split at h
   ·rename_i hp;injection h with h
    subst h;exact .mv x d e (.inr ho) hd hv hp
   ·cases h
  ·cases h
 case h_3 t x ho=>
  split at h
  ·rename_i d hd;split at h
   ·rename_i sz hb;split at h
    ·rename_i e hv;exact Ko h fun ag dA ht=>.bx t x d sz e ag ho hd hb hv ht dA
    ·cases h
   ·exact pH h
  ·cases h
 case h_4 t ho=>
  split at h
  ·rename_i d hd;split at h
   ·rename_i sz hb;split at h
    ·rename_i z hz;cases hi:P.info? t with
     |none=>simp [hi] at hz
     |some i=>
      simp only [hi,dd] at hz;exact Ko h fun ag dA ht=>.al t d sz i z ag ho hd hb hi hz ht dA
    ·cases h
   ·exact pH h
  ·cases h
 case h_5 S x f ho=>
  split at h
  ·rename_i b off nd hx;split at h
   ·rename_i d fo sz hd hf;split at h
    ·rename_i hc;simp only [aO,decide_eq_true_eq,fu,bne_iff_ne,ne_eq] at hc;injection h with h
     subst h;exact .fa S x f d b off nd fo sz ho hd hx hf hc.1.1.1 hc.1.1.2 hc.1.2 hc.2
    ·cases h
   ·cases h
  ·exact pH h
 case h_6 t x ho=>
  split at h
  ·rename_i b off nd hx;split at h
   ·rename_i d ag sz bs hd ht hb;split at h
    ·rename_i hc;simp only [aO,decide_eq_true_eq] at hc;injection h with h
     subst h;exact .ld t x d b off nd ag sz bs ho hd hx ht hb hc.1.1 hc.1.2 hc.2
    ·cases h
   ·cases h
  ·exact pH h
 case h_7 t x v ho=>
  split at h
  ·rename_i b off nd hx;split at h
   ·rename_i e ag sz bs hd hv ht hb;split at h
    ·rename_i hc;simp only [decide_eq_true_eq] at hc;injection h with h
     subst h;exact .st t x v b off nd sz bs e ag ho hd hx hv ht hb hc
    ·cases h
   ·cases h
  ·exact pH h
 case h_8=>exact pH h
end
section
variable {P : Program} {pl : ba} {ds : Bk} {cs : CS} {env : Env} {X : XS} {w0 w : World} {a : Act}
theorem dQ.zb (h:dQ pl ds cs env X w0 a w) {RB:List Nat} {k:Nat} (hz:ZB pl RB a k): ¬X k:=by
 obtain⟨b,n,hb,_,ht⟩:=hz;obtain⟨c,hc⟩:=oq.1 (h.conv b n hb k ht);obtain⟨k',ty,e1,_,_,e4⟩:=h.box b n hb c hc;rw [ht] at e1;have:k'=k:=by simpa [dV] using e1.symm
 subst this;exact e4
theorem dQ.kp0 (h:dQ pl ds cs env X w0 a w) {RB:List Nat} {w':World} (hx:Fr (ZB pl RB a) w w'):Kp X w0 w':=
 h.ext.trans (hx.kp fun k hk=>⟨h.oZ k hk,fun hz=>h.zb hz hk⟩)
theorem dQ.fV (h:dQ pl ds cs env X w0 a w) {b n k:Nat} (hb:look pl.boxes b=some n) (ht:a.tmps[b]? =some (dV k 0)):k<w.heap.size∧ ¬X k:=by
 obtain⟨c,hc⟩:=oq.1 (h.conv b n hb k ht);obtain⟨k',ty,e1,e2,_,e4⟩:=h.box b n hb c hc;rw [ht] at e1;have:k'=k:=by simpa [dV] using e1.symm
 subst this;exact⟨(Array.getElem?_eq_some_iff.1 e2).1,e4⟩
theorem dQ.UA (h:dQ pl ds cs env X w0 a w) {sb:List Nat} {w':World} (hx:Fr X w w'):rA pl sb a w w':=
 fun _ _ _ hb _ hk=>hx.block _ (h.fV hb hk).1 (h.fV hb hk).2
theorem kM.ej {sb:List Nat} {a':Act} {w':World} (hx:Ext w w') (hz: ∀b n,look pl.boxes b=some n→ ∀k,k<w.heap.size→a'.tmps[b]? =some (dV k 0)→a.tmps[b]? =some (dV k 0)):kM pl sb a w a' w':=
 fun _ _=>⟨hx.fr _,fun k hk ⟨b,n,h1,h2,h3⟩=>⟨b,n,h1,h2,hz b n h1 k hk h3⟩⟩
theorem kM.UB {sb:List Nat} {w':World} {d:Option Nat} {v:Value} (hx:Ext w w') (hd: ∀x,d=some x→look pl.boxes x=none):kM pl sb a w (a.put d v) w':=by
 refine kM.ej hx fun b n hb k _ hk=>?_;cases d with
 |none=>exact hk
 |some x=>rwa [eb _ _ _ _ (mO hb (hd x rfl))] at hk
theorem kM.sub {sb SG:List Nat} {a':Act} {w':World} (h:kM pl sb a w a' w') (hs: ∀b,b∈sb→b∈SG):kM pl SG a w a' w':=
 fun RB SH=>h RB fun b hb=>SH b (hs b hb)
theorem Kq {P:Program} {m:Bool} {og:Option (Nat×Bool)} {o:Oper} {r:CR} (hs:Shape P pl cs og m o r) (gL:r.fl=true): ∀x,o.dst=some x→look pl.boxes x=none:=by
 have f: ∀{d:Nat},o.dst=some d→pl.je d=true→ ∀x,o.dst=some x→look pl.boxes x=none:=fun hd hp x hx=>by
  rw [hd] at hx;injection hx with hx;subst hx;exact(qH hp).2.1
 cases hs with
 |mv x d e ho hd hv hp=>exact f hd hp
 |ld t x d b off nd ag sz bs ho hd hx ht hb hp hl ha=>exact f hd hp
 |fa S x g d b off nd fo sz ho hd hx hf An dA mP hz=>intro y hy;rw [hd] at hy;injection hy with hy;subst hy;exact mP
 |rd d ss hd hs hn hp=>exact f hd hp
 |vO=>cases gL
 |act=>cases gL
 |bx=>cases gL
 |al=>cases gL
 |st=>cases gL
theorem Kr {m:Bool} {og:Option (Nat×Bool)} {o:Oper} {r:CR} (hs:Shape P pl cs og m o r) (h:dQ pl ds cs env X w0 a w) (hg:vP env og)
  (hl: ∀b,b∈r.nd→bP (env b)=true) (gL:r.fl=true) {fI:List PanicEntry→Env→World→XS→Prop} {next:Env→World→XS→Prop} (hd:fg P fI next r.l env w0 X) (lq: ∀b,b∈jr r.l→ ∀p,p∈ds.pins→p.1≠b):
  ∃v cQ,((∀wa,Fr (ZB pl r.rb a) w wa→(execOp a.eval o).run P wa= .ok (.value v) wa)∧
   ∀b,b∈r.rb→ ∃k n,look pl.boxes b=some n∧a.tmps[b]? =some (dV k 0)∧ ∀wa:World,wa.heap[k]? =w.heap[k]? →(execOp a.eval o).run P wa= .ok (.value v) wa)∧dQ pl ds r.cs cQ X w0 (a.put o.dst v) w∧next cQ w0 X:=by
 cases hs with
 |mv x d e ho gz hv hp=>
  obtain⟨cQ,h1,h2⟩:=h.kZ hp e hd lq;refine⟨e.ev env,cQ,⟨fun wa _=>?_,fun _ hb=>by cases hb⟩,by rw [gz];exact h1,h2⟩;have he:=h.eval hv;rcases ho with ho|ho<;>simp [execOp,ho,he]
 |ld t x d b off nd ag sz bs ho gz hx ht hb hp dA ha=>
  obtain⟨⟨n,hn⟩,su,hk⟩:=h.oL hx;obtain⟨hA,k,he,js⟩:=hk hl hg;obtain⟨cells,hc⟩:=oq.1 hA;obtain⟨k',ty,e1,e2,e3,_⟩:=h.box b n hn cells hc;have tK:k'=k:=by rw [js] at e1;simpa [dV] using e1.symm
  subst tK;have SP:bs=n:=by rw [hb] at hn;injection hn
  subst SP;have h':=h.iE (nd:=nd) fun b' fp=>⟨su b' fp,hl b' fp⟩;obtain⟨cQ,h1,h2⟩:=h'.kZ hp _ hd lq;have CH:(if ag then Ex.s b off sz else Ex.k b off).ev env=if ag then bV (.agg cells) off sz else cellOf (.agg cells) off:=by
   cases ag<;>simp [Ex.ev,hc]
  have yR: ∀wa:World,wa.heap[k']? =w.heap[k']? →(execOp a.eval o).run P wa= .ok (.value ((if ag then Ex.s b off sz else Ex.k b off).ev env)) wa:=by
   intro wa xa;have Zd:wa.heap[k']? =some (.cells cells ty (0,0)):=xa.trans e2;have:=HD ht ha Zd off zQ;rw [CH];simp [execOp,ho,he,this]
  refine⟨_,cQ,⟨fun wa xa=>yR wa ?_,fun b' fp=>?_⟩,by rw [gz];exact h1,h2⟩
  rotate_left
  ·have:=List.mem_singleton.1 fp;subst this;exact⟨k',bs,hn,js,yR⟩
  have Zd:wa.heap[k']? =some (.cells cells ty (0,0)):=by
   rw [xa.block k' (Array.getElem?_eq_some_iff.1 e2).1 ?_]
   ·exact e2
   ·rintro⟨b2,n2,g1,g2,g3⟩;exact g2 (List.mem_singleton.2 (h.inj b2 b n2 bs g1 hn (h.conv b2 n2 g1 k' g3) hA k' g3 js))
  rw [Zd,e2]
 |fa S x f d b off nd fo sz ho gz hx hf An dA mP hz=>
  obtain⟨⟨n,hn⟩,su,hk⟩:=h.oL hx;obtain⟨hA,k,he,js⟩:=hk hl hg;have h':=h.iE (nd:=nd) fun b' fp=>⟨su b' fp,hl b' fp⟩;refine⟨dV k (off+fo),env,⟨fun wa _=>?_,fun _ hb=>by cases hb⟩,?_,hd⟩
  ·have:=Fx hf hz k off wa;simp [execOp,ho,he,this]
  ·rw [gz];exact h'.derive dA mP An _ ⟨n,hn⟩ fun _=>⟨hA,k,js,rfl⟩
 |rd d ss gz vQ hn hp=>
  obtain⟨v,h1,h2⟩:=hd;refine⟨v,_,⟨fun wa xa=>?_,fun _ hb=>by cases hb⟩,by rw [gz];exact h.bind hp v (lq d (by simp [jr,TI.Bs])),h2⟩;rw [h.exec vQ hn,←SD _ (fun _=>rfl)];exact h1 wa (h.kp0 xa)
 |vO=>cases gL
 |act=>cases gL
 |bx=>cases gL
 |al=>cases gL
 |st=>cases gL
def qI (pl:ba) (ds:Bk) (env:Env) (X:XS) (a:Act) (w:World):Prop:=
 (∀k,X k→k<w.heap.size)∧ ∀p,p∈ds.pins→a.tmps[p.1]? =some p.2∧(pl.gS p.1=true∨ ∃n k cells ty,p.2=dV k 0∧look pl.boxes p.1=some n∧env p.1= .agg cells∧w.heap[k]? =some (.cells cells ty (0,0))∧cells.size=n∧ ¬X k)
theorem dQ.pinned (h:dQ pl ds cs env X w0 a w):qI pl ds env X a w:=⟨h.oZ,fun p hp=>by
 obtain⟨ht,⟨n,k,hn,hk⟩|hg⟩:=h.rP p hp
 ·refine⟨ht,.inr ?_⟩;rw [hk] at ht;obtain⟨cells,hc⟩:=oq.1 (h.conv p.1 n hn _ ht);obtain⟨k',ty,e1,e2,e3,e4⟩:=h.box p.1 n hn cells hc;rw [ht] at e1;have:k=k':=by simpa [dV] using e1
  subst this;exact⟨n,k,cells,ty,hk,hn,hc,e2,e3,e4⟩
 ·exact⟨ht,.inl hg⟩⟩
theorem qI.put {d:Option Nat} {v:Value} (h:qI pl ds env X (a.put d v) w) (hd: ∀x,d=some x→ ∀p,p∈ds.pins→p.1≠x):qI pl ds env X a w:=⟨h.1,fun p hp=>by
 obtain⟨h1,h2⟩:=h.2 p hp;refine⟨?_,h2⟩;cases d with
 |none=>exact h1
 |some x=>rwa [eb _ _ _ _ (hd x rfl p hp)] at h1⟩
theorem HF {m:Bool} {og:Option (Nat×Bool)} {o:Oper} {r:CR} (hs:Shape P pl cs og m o r) (gL:r.fl=true): ∀x,o.dst=some x→pl.gS x=true→x∈jr r.l:=by
 have f: ∀{CI:CS} {d:Nat} {e:Ex},o.dst=some d→ ∀x,o.dst=some x→pl.gS x=true→x∈jr (kZ pl CI d e).1:=fun hd x hx hg=>by
  rw [hd] at hx;injection hx with hx;subst hx
  unfold kZ;rw [if_pos (by simp [hg])];simp [jr,TI.Bs]
 cases hs with
 |mv x d e ho hd hv hp=>exact f hd
 |ld t x d b off nd ag sz bs ho hd hx ht hb hp hl ha=>exact f hd
 |fa S x g d b off nd fo sz ho hd hx hf An dA mP hz=>
  intro y hy hg;rw [hd] at hy;injection hy with hy;subst hy
  have:=(lY hg).2.2;rw [An] at this;cases this
 |rd d ss hd hs hn hp=>intro y hy _;rw [hd] at hy;injection hy with hy;subst hy;simp [jr,TI.Bs]
 |vO=>cases gL
 |act=>cases gL
 |bx=>cases gL
 |al=>cases gL
 |st=>cases gL
theorem Ks {m:Bool} {og:Option (Nat×Bool)} {o:Oper} {r:CR} (hs:Shape P pl cs og m o r) (h:dQ pl ds cs env X w0 a w) (hg:vP env og)
  (hl: ∀b,b∈r.nd→bP (env b)=true) (gL:r.fl=false) {fI:List PanicEntry→Env→World→XS→Prop} {next:Env→World→XS→Prop} (hd:fg P fI next r.l env w0 X)
  {K:Act→World→Prop} {Q:Exit→Act→World→Prop}
  (hK: ∀a' w' cQ X' dF,dQ pl ds r.cs cQ X' dF a' w'→next cQ dF X'→rB (m=false) pl r.sb a w a' w'→K a' w')
  (lq: ∀b,b∈jr r.l→ ∀p,p∈ds.pins→p.1≠b)
  (hQ: ∀ch w' cQ X' dF,Kp X' dF w'→qI pl ds cQ X' a w'→fI ch cQ dF X'→Q (.panic ch) a w'):o.wp P a w K Q:=by
 have real: ∀(pR:CS) (ss:List (Nat×Ex)),(∀x,o.dst=some x→look pl.boxes x=none)→subst pl cs o.op.operands.toList=some ss→Aj o.op=true→
   (∀m' w' v,Step m' X w w'→dQ pl ds pR (Cx env o.dst v) (grow X w w') w' (a.put o.dst v) w')→r.cs=pR→
   (∀wa,Kp X w0 wa→iy P m X wa (fun v w' X'=>next (Cx env o.dst v) w' X') (fun ch w' X'=>fI ch env w' X') ((Ki (Cy env ss) o.op o.type).run P wa))→o.wp P a w K Q:=by
  intro pR ss SQ vQ hn hS jZ he;have he:=he w h.ext;unfold ib;rw [h.exec vQ hn,←SD _ (fun _=>rfl)];have fv: ∀w' v,Step m X w w'→rB (m=false) pl r.sb a w (a.put o.dst v) w':=fun w' v hs=>⟨fun hm=>by subst hm;exact kM.UB hs SQ,h.UA hs.fr⟩;cases hr:(Ki (Cy env ss) o.op o.type).run P w with
  |ok n w'=>
   rw [hr] at he;cases n<;>simp only [iy] at he<;>simp only [jq]
   case value v=>exact hK _ _ _ _ _ (jZ▸hS m w' v he.1) he.2 (fv _ _ he.1)
   case skip=>exact hK _ _ _ _ _ (jZ▸hS m w' undef he.1) he.2 (fv _ _ he.1)
   case enter f args=>
    obtain⟨rfl,hc⟩:=he;refine hc.mono fun e iH hR=>?_;cases e with
    |returned v=>exact hK _ _ _ _ _ (jZ▸hS m iH v hR.1) hR.2 (fv _ _ hR.1)
    |panicked ch=>exact hQ _ _ _ _ _ (Kp.refl _ _) (h.EB hR.1).pinned hR.2
    |outgrown=>exact hR.elim
  |halt x w'=>
   rw [hr] at he;cases x<;>simp only [iy] at he<;>simp only [jq]
   case panic v=>exact hQ _ _ _ _ _ (Kp.refl _ _) (h.EB he.1).pinned he.2
 have boxed: ∀{d sz:Nat} {e:Ex} {ag:Bool},fg P fI next [if !ag&&sz==1 then .sj d e else .box d sz e] env w0 X→
   (e.ev env).cells.size=sz∧next (jd env d (.agg (e.ev env).cells)) w0 X:=by
  intro d sz e ag hd;simp only [fg] at hd;split at hd
  ·rename_i lF;simp only [aO,bX,beq_iff_eq] at lF;obtain⟨g1,g2⟩:=cX.1 hd;rw [ns g1];exact⟨by simp [lF.2],g2⟩
  ·obtain⟨g1,g2⟩:=cX.1 hd;exact⟨by simpa using g1,g2⟩
 have Ze: ∀(t d:Nat) (_:d<pl.n) (cells:Array Value),kM pl [] a w (a.put (some d) (dV w.heap.size 0)) (w.alloc (.cells cells t)):=by
  intro t d dA cells;refine kM.ej (Ext.alloc _ _) fun b n hbb k hk tK=>?_;by_cases e:b=d
  ·subst e;rw [pG _ _ _ _ (by rw [h.size];exact dA),if_pos rfl] at tK;have:w.heap.size=k:=by simpa [dV] using tK
   omega
  ·rwa [eb _ _ _ _ e] at tK
 cases hs with
 |mv=>cases gL
 |ld=>cases gL
 |fa=>cases gL
 |rd=>cases gL
 |vO d ss gz vQ hn hp=>
  refine real (cs.bind pl d) ss (fun x hx=>by rw [gz] at hx;injection hx with hx;subst hx;exact(qH hp).2.1) vQ hn (fun m' w' v fv=>?_) rfl ?_
  ·rw [gz];exact(h.EB fv).bind hp v (lq d (by simp [jr,TI.Bs]))
  ·intro wa xa;have:=hd wa xa;rw [gz];exact this
 |act ss gz vQ hn=>
  refine real cs ss (fun x hx=>by rw [gz] at hx;cases hx) vQ hn (fun m' w' v fv=>?_) rfl ?_
  ·rw [gz];exact h.EB fv
  ·intro wa xa;have:=hd wa xa;rw [gz];exact this
 |bx t x d sz e ag ho gz hb hv ht dA=>
  have he:=h.eval hv;obtain⟨h1,h2⟩:=boxed hd;have hr:(execOp a.eval o).run P w= .ok (.value (dV w.heap.size 0)) (w.alloc (.cells (e.ev env).cells t)):=by
   simp [execOp,ho,he,Instr.box,newVar,newRow,dV]
  unfold ib;rw [hr];simp only [jq];rw [gz];exact hK _ _ _ _ _ (h.SN dA hb (e.ev env).cells h1 t (lq d (by split<;>simp [jr,TI.Bs]))) h2 ⟨fun _=>Ze t d dA _,h.UA ((Ext.alloc _ _).fr X)⟩
 |al t d sz i z ag ho gz hb hi hz ht dA=>
  obtain⟨h1,h2⟩:=boxed hd;have hr:(execOp a.eval o).run P w= .ok (.value (dV w.heap.size 0)) (w.alloc (.cells z.cells t)):=by
   simp [execOp,ho,Instr.alloc,zeroValue,typeInfo,hi,hz,newVar,newRow,dV]
  unfold ib;rw [hr];simp only [jq];rw [gz];exact hK _ _ _ _ _ (h.SN dA hb z.cells h1 t (lq d (by split<;>simp [jr,TI.Bs]))) h2 ⟨fun _=>Ze t d dA _,h.UA ((Ext.alloc _ _).fr X)⟩
 |st t x v b off nd sz bs e ag ho gz hx hv ht hb dA=>
  obtain⟨⟨n,hn⟩,su,hk⟩:=h.oL hx;obtain⟨hA,k,he,js⟩:=hk hl hg;obtain⟨cells,hc⟩:=oq.1 hA;obtain⟨k',ty,e1,e2,e3,e4⟩:=h.box b n hn cells hc;have tK:k'=k:=by rw [js] at e1;simpa [dV] using e1.symm
  subst tK;have SP:bs=n:=by rw [hb] at hn;injection hn
  subst SP;obtain⟨h1,h2,h3⟩:(e.ev env).cells.size=sz∧(e.ev env).cells.toList.all one=true∧next (jd env b (.agg (cP (env b).cells.toList off (e.ev env).cells.toList).toArray)) w0 X:=by
   simp only [fg] at hd;split at hd
   ·rename_i lF;simp only [aO,bX,beq_iff_eq] at lF;obtain⟨g1,g2⟩:=cX.1 hd;rw [ns g1];exact⟨by simp [lF.2],by simp [g1],g2⟩
   ·split at hd
    ·rename_i lF;simp only [aO,beq_iff_eq] at lF;obtain⟨g1,hd⟩:=cX.1 hd;obtain⟨g2,g3⟩:=cX.1 hd;have g1:(e.ev env).cells.size=sz:=by simpa using g1
     refine⟨g1,g2,?_⟩;have abz:cP (env b).cells.toList off (e.ev env).cells.toList=(e.ev env).cells.toList:=by
      unfold cP;rw [hc,lF.1];have hz:cells.size≤(e.ev env).cells.size:=by omega
      show List.take 0 cells.toList++(e.ev env).cells.toList++List.drop (0+(e.ev env).cells.toList.length) cells.toList=(e.ev env).cells.toList
      rw [List.take_zero,dG,List.drop_eq_nil_of_le (by simpa using hz),List.append_nil]
     rw [abz];simpa using g3
    ·obtain⟨g1,hd⟩:=cX.1 hd;obtain⟨g2,g3⟩:=cX.1 hd;exact⟨by simpa using g1,g2,g3⟩
  have h':=h.iE (nd:=nd) fun b' fp=>⟨su b' fp,hl b' fp⟩;have CH:=h.eval hv;have fv:=Fy (Px ht) e2 off zQ (e.ev env) h1 h2;have hr:(execOp a.eval o).run P w= .ok .skip (w.setRow k' (cP cells.toList off (e.ev env).cells.toList).toArray):=by
   simp [execOp,ho,he,CH,fv]
  unfold ib;rw [hr];simp only [jq];rw [gz];obtain⟨f1,f2⟩:=SO (pa:=(cP cells.toList off (e.ev env).cells.toList).toArray) e2;have gy:((cP cells.toList off (e.ev env).cells.toList).toArray).size=bs:=by
   simp only [List.size_toArray];rw [Uz (by simp;omega)];simpa using e3
  rw [hc] at h3;refine hK _ _ _ _ _ (h'.store hb hc js e2 e4 gy f1 f2) h3 ⟨fun _ RB SH=>
   ⟨f1.mono fun j hj=>⟨b,bs,hb,SH b (List.mem_singleton.2 rfl),by rw [hj];exact js⟩,fun _ _ hz=>hz⟩,fun b2 n2 k2 g1 g2 g3=>f1.block k2 (h.fV g1 g3).1 fun hj=>?_⟩
  have hj:k2=k':=hj;subst hj;exact g2 (List.mem_singleton.2 (h.inj b2 b n2 bs g1 hn (h.conv b2 n2 g1 _ g3) hA _ g3 js))
end
section
variable {P : Program} {pl : ba} {ds : Bk} {cs : CS} {env : Env} {X : XS} {w0 w : World} {a : Act} {ops : Array Oper}
variable {fI : List PanicEntry → Env → World → XS → Prop} {next : Env → World → XS → Prop}
theorem HG {g:Nat} {want:Bool} {op:Op} {r0 r:CR} (ez:kg g want op r0=some r) (hy:jw (env g) want=true) (hd:fg P fI next r.l env w0 X):
  fg P fI next r0.l env w0 X:=by
 obtain⟨fl,nd,l,c,rb,sb⟩:=r0;unfold kg at ez;dsimp only at ez;split at ez
 ·split at ez
  ·injection ez with e;subst e;exact hd
  ·cases ez
 ·split at ez
  ·cases ez
  ·injection ez with e;subst e
   simpa only [fg,MC,hy,if_true] using hd
 ·split at ez
  ·cases ez
  ·injection ez with e;subst e
   obtain⟨v,h1,_,h2⟩:=hd;exact⟨v,h1 hy,h2⟩
 ·split at ez
  ·cases ez
  ·injection ez with e;subst e
   exact hd.1 hy
 ·cases ez
theorem uT {g:Nat} {want:Bool} {op:Op} {r0 r:CR} (ez:kg g want op r0=some r):r.cs=r0.cs∧r.nd=r0.nd∧r.fl=r0.fl∧r.rb=r0.rb∧r.sb=r0.sb:=by
 obtain⟨fl,nd,l,c,rb,sb⟩:=r0;unfold kg at ez;dsimp only at ez;split at ez<;>(try split at ez)<;>first
  |(cases ez;done)
  |(injection ez with e;subst e;exact⟨rfl,rfl,rfl,rfl,rfl⟩)
theorem CJ {g:Nat} {want:Bool} {op:Op} {r0 r:CR} (ez:kg g want op r0=some r):jr r.l=jr r0.l:=by
 obtain⟨fl,nd,l,c,rb,sb⟩:=r0;unfold kg at ez;dsimp only at ez;split at ez<;>(try split at ez)<;>first
  |(cases ez;done)
  |(injection ez with e;subst e;rfl)
theorem UC (nd:List Nat):jr (nd.map .yP)=[]:=by
 induction nd with
 |nil=>rfl
 |cons b nd ih=>simp only [jr,List.map_cons,List.flatMap_cons,TI.Bs,dG] at ih⊢;exact ih
theorem sw (l l':List TI):jr (l++l')=jr l++jr l':=List.flatMap_append
theorem zl (r:CR):jr r.all=jr r.l:=by unfold CR.all;rw [sw,UC,dG]
theorem MM {m:Bool} {g:Nat} {want:Bool} {o:Oper} {r0 r:CR} (hs:Shape P pl cs (some (g,want)) m o r0) (ez:kg g want o.op r0=some r) (h:dQ pl ds cs env X w0 a w)
  (hl: ∀b,b∈r0.nd→bP (env b)=true) (iz:jw (env g) want=false) (hd:fg P fI next r.l env w0 X) (lq: ∀b,b∈jr r.l→ ∀p,p∈ds.pins→p.1≠b):
  ∃cQ,dQ pl ds r.cs cQ X w0 (a.put o.dst undef) w∧next cQ w0 X:=by
 have SR: ∀(CI:CS) (d:Nat) (e:Ex) (nd rb:List Nat),dQ pl ds CI env X w0 a w→o.dst=some d→pl.je d=true→Uu o.op=false→r0=⟨true,nd,(kZ pl CI d e).1,(kZ pl CI d e).2,rb,[]⟩→
   ∃cQ,dQ pl ds r.cs cQ X w0 (a.put o.dst undef) w∧next cQ w0 X:=by
  intro CI d e nd rb h1 gz hp hfa hr;subst hr;unfold kg kZ at ez;by_cases pc:(pl.gS d||pl.Wp.contains d)=true
  ·simp only [pc,if_true] at ez;split at ez
   ·cases ez
   ·injection ez with e1;subst e1
    simp only [fg,MC,iz,aU,if_false] at hd;exact⟨_,by rw [gz];exact h1.bind hp undef (lq d (by simp [jr,TI.Bs])),hd⟩
  ·simp only [pc,hfa,aU,if_false] at ez;cases ez
 cases hs with
 |mv x d e ho gz hv hp=>exact SR cs d e [] [] h gz hp (by rcases ho with ho|ho<;>rw [ho]<;>rfl) rfl
 |ld t x d b off nd ag sz bs ho gz hx ht hb hp dA ha=>
  obtain⟨_,su,_⟩:=h.oL hx;exact SR (cs.iE nd) d _ nd [b] (h.iE fun b' fp=>⟨su b' fp,hl b' fp⟩) gz hp (by rw [ho];rfl) rfl
 |fa S x f d b off nd fo sz ho gz hx hf An dA mP hz=>
  obtain⟨hb,su,hk⟩:=h.oL hx;have h':=h.iE (nd:=nd) fun b' fp=>⟨su b' fp,hl b' fp⟩;unfold kg at ez;simp only [ho,Uu,if_true,av] at ez;subst ez;refine⟨env,?_,hd⟩;rw [gz];exact h'.derive dA mP An _ hb fun hg=>by simp only [vP] at hg;rw [iz] at hg;cases hg
 |rd d ss gz vQ hn hp=>
  unfold kg at ez;dsimp only at ez;split at ez
  ·cases ez
  ·injection ez with e;subst e
   obtain⟨v,_,h1,h2⟩:=hd;have hv:=h1 iz;subst hv;exact⟨_,by rw [gz];exact h.bind hp undef (lq d (by simp [jr,TI.Bs])),h2⟩
 |vO d ss gz vQ hn hp=>
  unfold kg at ez;dsimp only at ez;split at ez
  ·cases ez
  ·injection ez with e;subst e
   exact⟨_,by rw [gz];exact h.bind hp undef (lq d (by simp [jr,TI.Bs])),hd.2 iz⟩
 |act ss gz vQ hn=>
  unfold kg at ez;dsimp only at ez;split at ez
  ·cases ez
  ·injection ez with e;subst e
   exact⟨_,by rw [gz];exact h,hd.2 iz⟩
 |bx t x d sz e ag=>cases MN:(!ag&&sz==1)<;>(unfold kg at ez;simp only [MN] at ez;cases ez)
 |al t d sz i z ag=>cases MN:(!ag&&sz==1)<;>(unfold kg at ez;simp only [MN] at ez;cases ez)
 |st t x v b off nd sz bs e ag=>
  cases MN:(!ag&&sz==1)<;>cases abA:(off==0&&sz==bs)<;>(unfold kg at ez;simp only [MN,abA] at ez;cases ez)
theorem CK (h:dQ pl ds cs env X w0 a w) {o:Oper} {j gs g:Nat} {want:Bool} (hg:o.guard=some (j,want)) (xd:(ops[j]?).bind (·.dst)=some gs)
  (hv:valOf pl cs (.tmp gs)=some (.t g)):bT o (yielded ops a.tmps)=jw (env g) want:=by
 have ht:a.tmps[gs]? =some (env g):=by
  simp only [valOf] at hv;split at hv
  ·rename_i ez;injection hv with hv
   injection hv with hv
   subst hv;exact h.lx _ ez
  ·have:=h.sig _ (uu hv);simpa [Ex.ev] using this
 unfold bT yielded;simp only [hg,xd,dd,ht,jw];cases env g<;>simp
theorem Rg {m:Bool} {o:Oper} {r:CR} (hc:tJ P pl cs ops m o=some r) (gL:r.fl=true) (h:dQ pl ds cs env X w0 a w) (hd:fg P fI next r.all env w0 X) (lq: ∀b,b∈jr r.l→ ∀p,p∈ds.pins→p.1≠b):
  ∃v cQ,(YF P pl r.rb ops o v a w∧ ∀b,b∈r.rb→YL P pl b ops o v a w)∧dQ pl ds r.cs cQ X w0 (a.put o.dst v) w∧next cQ w0 X:=by
 obtain⟨hl,hd⟩:=CG _ hd;unfold tJ at hc;split at hc
 ·rename_i hg;obtain⟨v,cQ,h1,h2,h3⟩:=Kr (lZ hc) h trivial hl gL hd lq;exact⟨v,cQ,⟨.inl ⟨by simp [bT,hg],h1.1⟩,fun b hb=>.inl ⟨by simp [bT,hg],h1.2 b hb⟩⟩,h2,h3⟩
 ·rename_i j want hg;split at hc
  ·cases hc
  ·rename_i gs xd;split at hc
   ·rename_i g hv;have hw:=CK h hg xd hv;cases pS:wF P pl cs (some (g,want)) m o with
    |none=>rw [pS] at hc;cases hc
    |some r0=>
     rw [pS] at hc;simp only [dd] at hc;obtain⟨e1,e2,e3,e4,e5⟩:=uT hc;cases hy:jw (env g) want with
     |true=>
      obtain⟨v,cQ,h1,h2,h3⟩:=Kr (lZ pS) h hy (e2▸hl) (e3▸gL) (HG hc hy hd) (fun b hb=>lq b (by rw [CJ hc];exact hb));exact⟨v,cQ,⟨.inl ⟨by rw [hw,hy],e4▸h1.1⟩,fun b hb=>.inl ⟨by rw [hw,hy],h1.2 b (e4▸hb)⟩⟩,e1▸h2,h3⟩
     |false=>
      obtain⟨cQ,h1,h2⟩:=MM (lZ pS) hc h (e2▸hl) hy hd lq;exact⟨undef,cQ,⟨.inr ⟨by rw [hw,hy],rfl⟩,fun _ _=>.inr ⟨by rw [hw,hy],rfl⟩⟩,h1,h2⟩
   ·cases hc
theorem MO {m:Bool} {o:Oper} {r:CR} (hc:tJ P pl cs ops m o=some r) (gL:r.fl=true): ∀x,o.dst=some x→look pl.boxes x=none:=by
 unfold tJ at hc;split at hc
 ·exact Kq (lZ hc) gL
 ·rename_i j want hg;split at hc
  ·cases hc
  ·rename_i gs xd;split at hc
   ·rename_i g hv;cases pS:wF P pl cs (some (g,want)) m o with
    |none=>rw [pS] at hc;cases hc
    |some r0=>
     rw [pS] at hc;simp only [dd] at hc;exact Kq (lZ pS) ((uT hc).2.2.1▸gL)
   ·cases hc
theorem XB {m:Bool} {o:Oper} {r:CR} (hc:tJ P pl cs ops m o=some r) (gL:r.fl=true): ∀x,o.dst=some x→pl.gS x=true→x∈jr r.l:=by
 unfold tJ at hc;split at hc
 ·exact HF (lZ hc) gL
 ·rename_i j want hg;split at hc
  ·cases hc
  ·rename_i gs xd;split at hc
   ·rename_i g hv;cases pS:wF P pl cs (some (g,want)) m o with
    |none=>rw [pS] at hc;cases hc
    |some r0=>
     rw [pS] at hc;simp only [dd] at hc;rw [CJ hc];exact HF (lZ pS) ((uT hc).2.2.1▸gL)
   ·cases hc
theorem dQ.apart (h:dQ pl ds cs env X w0 a w) {m:Bool} {o:Oper} {r:CR} (hc:tJ P pl cs ops m o=some r) (gL:r.fl=true) (hm: ∀b,b∈jr r.l→ ∀p,p∈ds.pins→p.1≠b):
  ∀x,o.dst=some x→ ∀p,p∈ds.pins→p.1≠x:=fun x hx p hp e=>by
 rcases(h.rP p hp).2 with⟨n,_,hn,_⟩|hg
 ·rw [e,MO hc gL x hx] at hn;cases hn
 ·exact hm x (XB hc gL x hx (e▸hg)) p hp e
theorem HH {m:Bool} {o:Oper} {r:CR} (hc:tJ P pl cs ops m o=some r) (h:dQ pl ds cs env X w0 a w) (hd:fg P fI next r.all env w0 X)
  {K:Act→World→Prop} {Q:Exit→Act→World→Prop}
  (hK: ∀a' w' cQ X' dF,dQ pl ds r.cs cQ X' dF a' w'→next cQ dF X'→rB (m=false) pl r.sb a w a' w'→K a' w')
  (lq: ∀b,b∈jr r.l→ ∀p,p∈ds.pins→p.1≠b)
  (hQ: ∀ch w' cQ X' dF,Kp X' dF w'→qI pl ds cQ X' a w'→fI ch cQ dF X'→Q (.panic ch) a w'):
  if bT o (yielded ops a.tmps)=true then o.wp P a w K Q else K (a.put o.dst undef) w:=by
 cases gL:r.fl with
 |true=>
  obtain⟨v,cQ,hy,h1,h2⟩:=Rg hc gL h hd lq;rcases hy.1 with⟨hw,hv⟩|⟨hw,hv⟩
  ·rw [if_pos hw];unfold ib;rw [hv w (Fr.refl _ w)];exact hK _ _ _ _ _ h1 h2 ⟨fun _=>kM.refl pl _ a w _ _ (MO hc gL),rA.refl _ _ _ _⟩
  ·rw [if_neg (by rw [hw];simp)];subst hv;exact hK _ _ _ _ _ h1 h2 ⟨fun _=>kM.refl pl _ a w _ _ (MO hc gL),rA.refl _ _ _ _⟩
 |false=>
  obtain⟨hl,hd⟩:=CG _ hd;unfold tJ at hc;split at hc
  ·rename_i hg;rw [if_pos (by simp [bT,hg])];exact Ks (lZ hc) h trivial hl gL hd hK lq hQ
  ·rename_i j want hg;split at hc
   ·cases hc
   ·rename_i gs xd;split at hc
    ·rename_i g hv;have hw:=CK h hg xd hv;cases pS:wF P pl cs (some (g,want)) m o with
     |none=>rw [pS] at hc;cases hc
     |some r0=>
      rw [pS] at hc;simp only [dd] at hc;obtain⟨e1,e2,e3,e4,e5⟩:=uT hc;cases hy:jw (env g) want with
      |true=>
       rw [if_pos (by rw [hw,hy])];exact Ks (lZ pS) h hy (e2▸hl) (e3▸gL) (HG hc hy hd) (e5▸e1▸hK) (fun b hb=>lq b (by rw [CJ hc];exact hb)) hQ
      |false=>
       rw [if_neg (by rw [hw,hy];simp)];obtain⟨cQ,h1,h2⟩:=MM (lZ pS) hc h (e2▸hl) hy hd lq;refine hK _ _ _ _ _ h1 h2 ⟨fun _=>?_,rA.refl _ _ _ _⟩;refine kM.ej (Ext.refl w) fun b n hb k hk tK=>?_;cases gz:o.dst with
       |none=>rw [gz] at tK;exact tK
       |some x=>
        rw [gz] at tK;by_cases fB:b=x
        ·subst fB;by_cases dA:b<a.tmps.size
         ·rw [pG _ _ _ _ dA,if_pos rfl] at tK;cases tK
         ·rw [kf (by simp [jc];omega)] at tK;cases tK
        ·rwa [eb _ _ _ _ fB] at tK
    ·cases hc
theorem HI {Q:Exit→Act→World→Prop} (hN: ∀pR a' w' cQ X' dF,dQ pl ds pR cQ X' dF a' w'→next cQ dF X'→Q .normal a' w')
  (hQ: ∀ch a' w' cQ X' dF,a'.defers=ds.ds→Kp X' dF w'→qI pl ds cQ X' a' w'→fI ch cQ dF X'→Q (.panic ch) a' w'): ∀(l:List Oper) (cs:CS) (tl:List TI) (env:Env) (X:XS) (w0:World) (a:Act) (w:World),
  Ak P pl ops l cs=some tl→(∀b,b∈jr tl→ ∀p,p∈ds.pins→p.1≠b)→dQ pl ds cs env X w0 a w→fg P fI next tl env w0 X→wpList P ops Q l a w
 |[],cs,tl,env,X,w0,a,w,hc,_,h,hd=>by
  simp only [Ak,av] at hc;subst hc;exact hN _ _ _ _ _ _ h hd
 |o::l,cs,tl,env,X,w0,a,w,hc,hm,h,hd=>by
  simp only [Ak] at hc;cases hr:tJ P pl cs ops true o with
  |none=>simp [hr] at hc
  |some r=>
   cases hs:Ak P pl ops l r.cs with
   |none=>simp [hr,hs] at hc
   |some uY=>
    simp only [hr,hs,bc,av] at hc;subst hc;rw [uR] at hd;rw [sw,zl] at hm;refine wpList_step fun K hK=>HH hr h hd (fun a' w' cQ X' dF h1 h2 _=>hK _ _ (HI hN hQ l r.cs uY cQ X' dF a' w' hs (fun b hb=>hm b (cU _ hb)) h1 h2)) (fun b hb=>hm b (bC _ hb)) ?_;exact fun ch w' cQ X' dF hx vH hp=>hQ ch a w' cQ X' dF h.defers hx vH hp
theorem sx {bg:Array Bool} : ∀{l:List Nat} {i:Nat} {r:CR},uq P pl ops cs bg l=some (i,r)→
  i∈l∧r.fl=true∧EA pl ops bg i r.rb=true∧ ∃o,ops[i]? =some o∧tJ P pl cs ops (kn pl ops i) o=some r
 |[],_,_,h=>by cases h
 |j::l,i,r,h=>by
  simp only [uq] at h;split at h
  ·rename_i x hx;split at h
   ·rename_i hc;simp only [av,da] at h;obtain⟨rfl,rfl⟩:=h;simp only [aO] at hc;cases ho:ops[j]? with
    |none=>simp [ho] at hx
    |some o=>
     simp only [ho,dd] at hx;exact⟨eY ..,hc.1,hc.2,o,rfl,hx⟩
   ·obtain⟨h1,h2⟩:=sx h;exact⟨dc _ h1,h2⟩
  ·obtain⟨h1,h2⟩:=sx h;exact⟨dc _ h1,h2⟩
theorem Fz {o:Oper} {b:Nat×Nat×Bool×Value} (h:Al P pl o=some b) (m:Bool):tJ P pl cs ops m o=some ⟨false,[],[sk b],pE cs b.1,[],[]⟩:=by
 unfold Al at h;split at h
 ·rename_i t d hg xe hd;split at h
  ·rename_i sz z ag s h1 h2 h3;split at h
   ·rename_i hc;simp only [av] at h;subst h;simp only [tJ,hg,wF,xe,hd,h1,h2,ME,h3,hc,if_true,sk,pE]
   ·cases h
  ·cases h
 ·cases h
theorem UD (env:Env) {d d':Nat} (h:d≠d') (v v':Value):jd (jd env d v) d' v'=jd (jd env d' v') d v:=by
 funext s
 by_cases h1:s=d
 ·subst h1;rw [fi _ _ h,iK,iK]
 ·by_cases h2:s=d'
  ·subst h2;rw [iK,fi _ _ (Ne.symm h),iK]
  ·rw [fi _ _ h2,fi _ _ h1,fi _ _ h1,fi _ _ h2]
theorem SS {b b':Nat×Nat×Bool×Value} (dO:b.1≠b'.1) {l:List TI} (h:fg P fI next (sk b::sk b'::l) env w0 X):fg P fI next (sk b'::sk b::l) env w0 X:=by
 obtain⟨d,n,o,z⟩:=b;obtain⟨d',n',o',z'⟩:=b';have dO:d≠d':=dO;cases o<;>cases o'<;>simp only [sk,fg,MC,Ex.ev,cX,if_true,if_false,aU] at h⊢ <;>obtain⟨h1,h2,h3⟩:=h<;>exact⟨h2,h1,by rw [UD _ dO.symm];exact h3⟩
theorem Rh {d d':Nat} {cQ:Env} {X':XS} {dF:World} {a':Act} {w':World} (h:dQ pl ds (pE (pE cs d') d) cQ X' dF a' w'):dQ pl ds (pE (pE cs d) d') cQ X' dF a' w':=by
 refine⟨h.size,h.defers,h.rP,h.ext,h.oZ,h.lx,fun p hp=>h.sig p ?_,h.box,h.inj,h.conv,fun b hb=>h.live b ?_,fun p hp=>h.ptr p ?_⟩
 ·simp only [pE,CS.kill,CS.iE,eD] at hp⊢;exact⟨⟨hp.1.1,hp.2⟩,hp.1.2⟩
 ·simp only [pE,CS.kill,CS.iE,List.mem_append,List.mem_singleton] at hb⊢;rcases hb with h|h|h
  ·exact .inr (.inl h)
  ·exact .inl h
  ·exact .inr (.inr h)
 ·simp only [pE,CS.kill,CS.iE,eD] at hp⊢;exact⟨⟨hp.1.1,hp.2⟩,hp.1.2⟩
theorem Qr {l:List Nat} {i:Nat} (h:Re l i=true):l=[i]:=by
 unfold Re at h;split at h
 ·rw [beq_iff_eq.1 h]
 ·cases h
theorem MP {i:Nat} {o:Oper} {r:CR} {Q:Exit→Act→World→Prop} (ho:ops[i]? =some o) (hx:tJ P pl cs ops (kn pl ops i) o=some r) (Kt:r.sb=[]) (h:dQ pl ds cs env X w0 a w) (hd:fg P fI next r.all env w0 X) {bg:Array Bool} {fuel:Nat}
  (lq: ∀b,b∈jr r.l→ ∀p,p∈ds.pins→p.1≠b)
  (hQ: ∀ch a' w' cQ X' dF,a'.defers=ds.ds→Kp X' dF w'→qI pl ds cQ X' a' w'→fI ch cQ dF X'→Q (.panic ch) a' w')
  (hK: ∀a' w' cQ X' dF,dQ pl ds r.cs cQ X' dF a' w'→next cQ dF X'→oa P pl ops Q fuel (bg.setIfInBounds i true) a' w'):
  wpOp P ops Q i (fun a' w'=>(∀o,ops[i]? =some o→rB (kn pl ops i=false) pl (oB pl ops o) a w a' w')∧oa P pl ops Q fuel (bg.setIfInBounds i true) a' w') a w:=by
 have pd:=HH (ops:=ops) (K:=fun a' w'=>(∀o',ops[i]? =some o'→rB (kn pl ops i=false) pl (oB pl ops o') a w a' w')∧oa P pl ops Q fuel (bg.setIfInBounds i true) a' w') (Q:=Q) hx h hd
  (fun a' w' cQ X' dF h1 h2 h3=>⟨fun o' vR=>⟨fun uZ=>(h3.1 uZ).sub fun b hb=>(by rw [Kt] at hb;cases hb),h3.2.sub fun b hb=>(by rw [Kt] at hb;cases hb)⟩,hK a' w' cQ X' dF h1 h2⟩)
  lq (fun ch w' cQ X' dF hk vH hp=>hQ ch a w' cQ X' dF h.defers hk vH hp)
 unfold wpOp;simp only [ho] at pd⊢;split
 ·rename_i hw;rw [if_pos hw] at pd;exact .inl pd
 ·rename_i hw;rw [if_neg hw] at pd;exact pd
theorem zm {Q:Exit→Act→World→Prop} (hN: ∀pR a' w' cQ X' dF,dQ pl ds pR cQ X' dF a' w'→next cQ dF X'→Q .normal a' w')
  (hQ: ∀ch a' w' cQ X' dF,a'.defers=ds.ds→Kp X' dF w'→qI pl ds cQ X' a' w'→fI ch cQ dF X'→Q (.panic ch) a' w')
  (Bv: ∀c a (d:Option Nat) v w,(∀x,d=some x→ ∀p,p∈ds.pins→p.1≠x)→Q (.panic c) (a.put d v) w→Q (.panic c) a w) (vG:oz ops=true):
  ∀(fuel:Nat) (bg:Array Bool) (cs:CS) (tl:List TI) (env:Env) (X:XS) (w0:World) (a:Act) (w:World),
  pF P pl ops fuel bg cs=some tl→(∀b,b∈jr tl→ ∀p,p∈ds.pins→p.1≠b)→dQ pl ds cs env X w0 a w→fg P fI next tl env w0 X→oa P pl ops Q fuel bg a w
 |0,bg,cs,tl,env,X,w0,a,w,hc,_,h,hd=>by
  simp only [pF] at hc;split at hc
  ·rename_i hr;simp only [av] at hc;subst hc;exact⟨by simpa using hr,hN _ _ _ _ _ _ h hd⟩
  ·cases hc
 |fuel+1,bg,cs,tl,env,X,w0,a,w,hc,hm,h,hd=>by
  simp only [pF] at hc;split at hc
  ·rename_i i r hf;obtain⟨h1,h2,h3,o,ho,h4⟩:=sx hf;cases hs:pF P pl ops fuel (bg.setIfInBounds i true) r.cs with
   |none=>simp [hs] at hc
   |some uY=>
    simp only [hs,bc,av] at hc;subst hc;rw [uR] at hd;rw [sw,zl] at hm;obtain⟨v,cQ,hy,hS,hn⟩:=Rg h4 h2 h hd (fun b hb=>hm b (bC _ hb));have SU: ∀j oj,ops[j]? =some oj→j≠i→bg.getD j true=false→ ¬(j∈yQ ops bg i∨j=i∨(bg.getD j true=false∧ ∃oj,ops[j]? =some oj∧waits oj i=true))→_:=
     fun j oj hj dO yc iz=>HB ho h3 j oj hj dO yc (fun hb=>iz (.inl hb)) (by
      cases hw:waits oj i with
      |false=>rfl
      |true=>exact absurd (.inr (.inr ⟨yc,oj,hj,hw⟩)) iz)
    obtain⟨Y,Qp,hY,fv⟩: ∃Y:Act→World→Prop,(∀a w,Y a w→Yx P ops o v a w)∧Y a w∧ ∀j oj,oj.dst=oj.dst→o.apart ops oj=true→(kn pl ops j=false∨uQ o=true∨Kk o r.rb=true)→(∀b,b∈oB pl ops oj→ ¬b∈r.rb)→
      MH pl ops o oj (kn pl ops j=false) (oB pl ops oj) Y:=by
     cases uZ:Kk o r.rb with
     |false=>exact⟨YF P pl r.rb ops o v,fun _ _ h=>h.yx,hy.1,fun j oj _ _ h4 h5=>YF.SJ (h4.imp id fun h=>h.elim id fun h=>by cases h) h5⟩
     |true=>
      unfold Kk at uZ;split at uZ
      ·rename_i t x xe;have SV:x∈r.rb:=by simpa using uZ
       refine⟨YL P pl x ops o v,fun _ _ h=>h.yx,hy.2 x SV,fun j oj _ Fw _ h5=>YL.SJ (fun d hd Zf=>?_) fun hm=>h5 x hm SV⟩;subst Zf;refine(oA Fw).2.2 d hd (bC _ (List.mem_filterMap.2 ⟨.tmp d,?_,rfl⟩));simp [xe,Op.operands]
      ·cases uZ
    refine CA Qp ho (oY vG) (Kn ho h3) (fun c a' w' hq=>Bv c a' o.dst v w' (h.apart h4 h2 fun b hb=>hm b (bC _ hb)) hq) fuel bg a w
     (fun j=>j∈yQ ops bg i∨j=i∨(bg.getD j true=false∧ ∃oj,ops[j]? =some oj∧waits oj i=true)) (.inr (.inl rfl)) (fun j hj=>?_)
     (fun j oj hj dO yc iz=>have h:=SU j oj hj dO yc iz;⟨h.1,fv j oj rfl h.1 h.2.1 h.2.2⟩) h1 hY ?_
    ·rcases hj with hj|rfl|⟨hu,oj,wZ,hw⟩
     ·rcases Km j hj with h|⟨h,oj,k,q1,q2,q3⟩
      ·exact .inl h
      ·exact .inr ⟨h,oj,k,q1,q2,.inl q3⟩
     ·exact .inl rfl
     ·exact .inr ⟨hu,oj,i,wZ,hw,.inr (.inl rfl)⟩
    exact zm hN hQ Bv vG fuel _ r.cs uY cQ X w0 _ w hs (fun b hb=>hm b (cU _ hb)) hS hn
  ·split at hc
   ·rename_i i hr;split at hc
    ·rename_i o ho;split at hc
     ·rename_i r hx;split at hc
      ·rename_i Kt;cases hs:pF P pl ops fuel (bg.setIfInBounds i true) r.cs with
       |none=>simp [hs] at hc
       |some uY=>
        simp only [hs,bc,av] at hc;subst hc;rw [uR] at hd;rw [sw,zl] at hm;refine⟨fun h0=>(by rw [hr] at h0;cases h0),fun i' xf=>?_⟩;rw [hr] at xf;have hii:=List.mem_singleton.1 xf;subst hii;have ko: ∀b,b∈r.sb→b∈oB pl ops o:=fun b hb=>by have:=List.all_eq_true.1 Kt b hb;simpa using this
        have pd:=HH (ops:=ops) (K:=fun a' w'=>(∀o',ops[i']? =some o'→rB (kn pl ops i'=false) pl (oB pl ops o') a w a' w')∧oa P pl ops Q fuel (bg.setIfInBounds i' true) a' w') (Q:=Q) hx h hd
         (fun a' w' cQ X' dF h1 h2 h3=>⟨fun o' vR=>by rw [ho] at vR;injection vR with vR;subst vR;exact⟨fun uZ=>(h3.1 uZ).sub ko,h3.2.sub ko⟩,zm hN hQ Bv vG fuel _ r.cs uY cQ X' dF a' w' hs (fun b hb=>hm b (cU _ hb)) h1 h2⟩)
         (fun b hb=>hm b (bC _ hb)) (fun ch w' cQ X' dF hk vH hp=>hQ ch a w' cQ X' dF h.defers hk vH hp)
        unfold wpOp;simp only [ho] at pd⊢;split
        ·rename_i hw;rw [if_pos hw] at pd;exact .inl pd
        ·rename_i hw;rw [if_neg hw] at pd;exact pd
      ·cases hc
     ·cases hc
    ·cases hc
   ·rename_i i j hr;split at hc
    ·rename_i bi hp;cases hs:pF P pl ops fuel (bg.setIfInBounds i true) (pE cs bi.1)with
     |none=>simp [hs] at hc
     |some uY=>
      simp only [hs,bc,av] at hc;subst hc;have hmc: ∀(i:TI) (l:List TI),jr (i::l)=jr [i]++jr l:=fun i l=>sw [i] l;rw [hmc] at hm;unfold Wq at hp;split at hp
      ·rename_i Wy bj hbi hbj;split at hp
       ·rename_i hpc;simp only [av] at hp;subst hp;simp only [aO,bX,beq_eq_false_iff_ne] at hpc;obtain⟨⟨dO,Wz⟩,WA⟩:=hpc;replace Wz:=Qr Wz;replace WA:=Qr WA;obtain⟨oi,Zg,hai⟩:=Option.bind_eq_some_iff.1 hbi;obtain⟨oj,wZ,Zh⟩:=Option.bind_eq_some_iff.1 hbj;have SX:=fun (cs:CS) (m:Bool)=>Fz (cs:=cs) (ops:=ops) hai m;have hcj:=fun (cs:CS) (m:Bool)=>Fz (cs:=cs) (ops:=ops) Zh m;refine⟨fun h0=>(by rw [hr] at h0;cases h0),fun i' xf=>?_⟩;rw [hr] at xf;rcases List.mem_cons.1 xf with rfl|xf
        ·exact MP Zg (SX cs _) rfl h (hd:fg P fI (fg P fI next uY) [sk Wy] env w0 X) (fun b hb=>hm b (bC _ hb)) hQ fun a' w' cQ X' dF h1 h2=>zm hN hQ Bv vG fuel _ _ uY cQ X' dF a' w' hs (fun b hb=>hm b (cU _ hb)) h1 h2
        ·have CB:=List.mem_singleton.1 xf;subst CB;cases fuel with
         |zero=>
          simp only [pF,Wz] at hs;cases hs
         |succ f=>
          simp only [pF,Wz,uq,wZ,dd,hcj,Bool.false_and,aU,if_false,List.all_nil,if_true] at hs;cases dJ:pF P pl ops f ((bg.setIfInBounds i true).setIfInBounds i' true) (pE (pE cs Wy.1) bj.1)with
          |none=>simp [dJ] at hs
          |some MQ=>
           simp only [dJ,bc,av] at hs;have Zi:sk bj::MQ=uY:=hs;subst Zi;rw [hmc (sk bj) MQ] at hm;have rQ:=SS dO hd;refine MP wZ (hcj cs _) rfl h (rQ:fg P fI (fg P fI next (sk Wy::MQ)) [sk bj] env w0 X) (fun b hb=>hm b (cU _ (bC _ hb))) hQ fun a' w' cQ X' dF h1 h2=>?_;refine⟨fun h0=>(by rw [WA] at h0;cases h0),fun k hk=>?_⟩;rw [WA] at hk;have Y9:=List.mem_singleton.1 hk;subst Y9;refine MP Zg (SX _ _) rfl h1 (h2:fg P fI (fg P fI next MQ) [sk Wy] cQ dF X') (fun b hb=>hm b (bC _ hb)) hQ fun a'' iH abB oK xg h3 h4=>?_;have Zj:k≠i':=fun e=>by
            subst e;rw [Zg] at wZ;cases wZ;rw [hai] at Zh;cases Zh;exact dO rfl
           rw [mM _ _ Zj.symm];exact zm hN hQ Bv vG f _ _ MQ abB oK xg a'' iH dJ (fun b hb=>hm b (cU _ (cU _ hb))) (Rh h3) h4
       ·cases hp
      ·cases hp
    ·cases hc
   ·cases hc
theorem Ku {P:Program} {f:Nat→Option T} : ∀{l:List Nat} {t:T},Jc l f=some t→ ∀i∈l,∃t',f i=some t'∧(∀K env w X,den P t K env w X→den P t' K env w X)∧ ∀b,b∈t'.mk→b∈t.mk
 |[],t,h,i,hi=>by cases hi
 |[j],t,h,i,hi=>by
  have WB:i=j:=List.mem_singleton.1 hi;subst WB;exact⟨t,by simpa [Jc] using h,fun _ _ _ _ h=>h,fun _ h=>h⟩
 |j::k::r,t,h,i,hi=>by
  simp only [Jc] at h;split at h
  ·rename_i a b ha hb;simp only [av] at h;subst h;rcases List.mem_cons.1 hi with rfl|hi
   ·exact⟨a,ha,fun _ _ _ _ h=>h.1,fun b hb=>bC _ hb⟩
   ·obtain⟨t',h1,h2,h3⟩:=Ku (l:=k::r) hb i hi;exact⟨t',h1,fun _ _ _ _ h=>h2 _ _ _ _ h.2,fun b hb=>cU _ (h3 b hb)⟩
  ·cases h
theorem Gx {K:kL} {Q:Exit→Act→World→Prop} (hN: ∀pR a' w' cQ X' dF,dQ pl ds pR cQ X' dF a' w'→K .normal cQ dF X'→Q .normal a' w')
  (hQ: ∀ch a' w' cQ X' dF,a'.defers=ds.ds→Kp X' dF w'→qI pl ds cQ X' a' w'→K (.panic ch) cQ dF X'→Q (.panic ch) a' w')
  (Bv: ∀c a (d:Option Nat) v w,(∀x,d=some x→ ∀p,p∈ds.pins→p.1≠x)→Q (.panic c) (a.put d v) w→Q (.panic c) a w) (vG:oz ops=true):
  ∀(fuel:Nat) (bg:Array Bool) (cs:CS) (t:T) (env:Env) (X:XS) (w0:World) (a:Act) (w:World),
  uX P pl ops fuel bg cs=some t→(∀b,b∈t.mk→ ∀p,p∈ds.pins→p.1≠b)→dQ pl ds cs env X w0 a w→den P t K env w0 X→oa P pl ops Q fuel bg a w
 |0,bg,cs,t,env,X,w0,a,w,hc,_,h,hd=>by
  simp only [uX] at hc;split at hc
  ·rename_i hr;simp only [av] at hc;subst hc;exact⟨by simpa using hr,hN _ _ _ _ _ _ h hd⟩
  ·cases hc
 |fuel+1,bg,cs,t,env,X,w0,a,w,hc,hm,h,hd=>by
  simp only [uX] at hc;split at hc
  ·rename_i i r hf;obtain⟨h1,h2,h3,o,ho,h4⟩:=sx hf;cases hs:uX P pl ops fuel (bg.setIfInBounds i true) r.cs with
   |none=>simp [hs] at hc
   |some uY=>
    simp only [hs,bc,av] at hc;subst hc;have hd:fg P (fun ch=>K (.panic ch)) (fun e w X=>den P uY K e w X) r.all env w0 X:=hd;have hm: ∀b,b∈jr r.l++uY.mk→ ∀p,p∈ds.pins→p.1≠b:=by
     simp only [T.mk,zl] at hm;exact hm
    obtain⟨v,cQ,hy,hS,hn⟩:=Rg h4 h2 h hd (fun b hb=>hm b (bC _ hb));have SU: ∀j oj,ops[j]? =some oj→j≠i→bg.getD j true=false→ ¬(j∈yQ ops bg i∨j=i∨(bg.getD j true=false∧ ∃oj,ops[j]? =some oj∧waits oj i=true))→_:=
     fun j oj hj dO yc iz=>HB ho h3 j oj hj dO yc (fun hb=>iz (.inl hb)) (by
      cases hw:waits oj i with
      |false=>rfl
      |true=>exact absurd (.inr (.inr ⟨yc,oj,hj,hw⟩)) iz)
    obtain⟨Y,Qp,hY,fv⟩: ∃Y:Act→World→Prop,(∀a w,Y a w→Yx P ops o v a w)∧Y a w∧ ∀j oj,oj.dst=oj.dst→o.apart ops oj=true→(kn pl ops j=false∨uQ o=true∨Kk o r.rb=true)→(∀b,b∈oB pl ops oj→ ¬b∈r.rb)→
      MH pl ops o oj (kn pl ops j=false) (oB pl ops oj) Y:=by
     cases uZ:Kk o r.rb with
     |false=>exact⟨YF P pl r.rb ops o v,fun _ _ h=>h.yx,hy.1,fun j oj _ _ h4 h5=>YF.SJ (h4.imp id fun h=>h.elim id fun h=>by cases h) h5⟩
     |true=>
      unfold Kk at uZ;split at uZ
      ·rename_i t x xe;have SV:x∈r.rb:=by simpa using uZ
       refine⟨YL P pl x ops o v,fun _ _ h=>h.yx,hy.2 x SV,fun j oj _ Fw _ h5=>YL.SJ (fun d hd Zf=>?_) fun hm=>h5 x hm SV⟩;subst Zf;refine(oA Fw).2.2 d hd (bC _ (List.mem_filterMap.2 ⟨.tmp d,?_,rfl⟩));simp [xe,Op.operands]
      ·cases uZ
    refine CA Qp ho (oY vG) (Kn ho h3) (fun c a' w' hq=>Bv c a' o.dst v w' (h.apart h4 h2 fun b hb=>hm b (bC _ hb)) hq) fuel bg a w
     (fun j=>j∈yQ ops bg i∨j=i∨(bg.getD j true=false∧ ∃oj,ops[j]? =some oj∧waits oj i=true)) (.inr (.inl rfl)) (fun j hj=>?_)
     (fun j oj hj dO yc iz=>have h:=SU j oj hj dO yc iz;⟨h.1,fv j oj rfl h.1 h.2.1 h.2.2⟩) h1 hY ?_
    ·rcases hj with hj|rfl|⟨hu,oj,wZ,hw⟩
     ·rcases Km j hj with h|⟨h,oj,k,q1,q2,q3⟩
      ·exact .inl h
      ·exact .inr ⟨h,oj,k,q1,q2,.inl q3⟩
     ·exact .inl rfl
     ·exact .inr ⟨hu,oj,i,wZ,hw,.inr (.inl rfl)⟩
    exact Gx hN hQ Bv vG fuel _ r.cs uY cQ X w0 _ w hs (fun b hb=>hm b (cU _ hb)) hS hn
  ·refine⟨fun h0=>?_,fun i' xf=>?_⟩
   ·rw [h0] at hc;simp [Jc] at hc
   obtain⟨t',h1,h2,h3⟩:=Ku (P:=P) hc i' xf;split at h1
   ·rename_i o ho;split at h1
    ·rename_i r hx;split at h1
     ·rename_i Kt;cases hs:uX P pl ops fuel (bg.setIfInBounds i' true) r.cs with
      |none=>simp [hs] at h1
      |some uY=>
       simp only [hs,bc,av] at h1;subst h1;have hd:fg P (fun ch=>K (.panic ch)) (fun e w X=>den P uY K e w X) r.all env w0 X:=h2 _ _ _ _ hd;have hm: ∀b,b∈jr r.l++uY.mk→ ∀p,p∈ds.pins→p.1≠b:=fun b hb=>hm b (h3 b (by
        simp only [T.mk,zl];exact hb))
       have ko: ∀b,b∈r.sb→b∈oB pl ops o:=fun b hb=>by have:=List.all_eq_true.1 Kt b hb;simpa using this
       have pd:=HH (ops:=ops) (K:=fun a' w'=>(∀o',ops[i']? =some o'→rB (kn pl ops i'=false) pl (oB pl ops o') a w a' w')∧oa P pl ops Q fuel (bg.setIfInBounds i' true) a' w') (Q:=Q) hx h hd
        (fun a' w' cQ X' dF h1 h2 h3=>⟨fun o' vR=>by rw [ho] at vR;injection vR with vR;subst vR;exact⟨fun uZ=>(h3.1 uZ).sub ko,h3.2.sub ko⟩,Gx hN hQ Bv vG fuel _ r.cs uY cQ X' dF a' w' hs (fun b hb=>hm b (cU _ hb)) h1 h2⟩)
        (fun b hb=>hm b (bC _ hb)) (fun ch w' cQ X' dF hk vH hp=>hQ ch a w' cQ X' dF h.defers hk vH hp)
       unfold wpOp;simp only [ho] at pd⊢;split
       ·rename_i hw;rw [if_pos hw] at pd;exact .inl pd
       ·rename_i hw;rw [if_neg hw] at pd;exact pd
     ·cases h1
    ·cases h1
   ·cases h1
end
end Go.aX
