/- Part 1 of the proof. -/
import Derived.KernelRfl
import Derived.Orders
import Derived.Below
import Derived.Laws.Sem
import Derived.Laws.CopyRow
import Derived.Laws.Entries
import Derived.Laws.Cells
import GoSem.Dispatch
import Derived.Laws.Rows
import Derived.Laws.Pointers
set_option linter.all false
open Option.some renaming injEq → aj
open Go.Region renaming wanted → cJ, ready → iC, binds → uT, noSelect → wh, noSelect_spec → xm
open Bool renaming and_eq_true → aB, not_eq_true' → de, false_eq_true → aU, or_eq_true → ot, not_eq_false → Af
open List renaming mem_append_left → bP, mem_append_right → dJ, mem_filter → iA, range → dA, mem_cons_of_mem → bX, mem_append → rU, mem_cons → ic, cons_append → jT, getD → pR, contains_iff_mem → wD, all_eq_true → lf, nil_append → cI, flatMap_cons → Ag, mem_cons_self → zd, getElem?_eq_none → wE
open Option renaming map_some → aY, bind_some → cQ, isNone_iff_eq_none → nR
open Go.Act renaming put → nq, eval → xn
open Go.Oper renaming upon → nL, wp → tn, apart_spec → wj
open Prod.mk renaming injEq → cV
open Go.Op renaming intCmp → sI, floatCmp → pF, stringOp → wF, bytesLess → ct, intArith → AB
open Nat renaming le_refl → au, lt_of_lt_of_le → aw, le_trans → ad
open Array renaming replicate → dg, getElem?_setIfInBounds_ne → lh, getElem?_eq_none → pS, toList_map → nr, any_eq_true' → yy, setIfInBounds_comm → tO, getElem?_setIfInBounds → dS, getElem?_append → kB, getElem?_replicate → jz
open Go.Instr renaming sureAddr → oZ, loadAt → ji, extract → gz
open BitVec renaming ofInt → aF
open Go.Deferred renaming ofValue → lj
namespace Go.aK
theorem kS {α:Type _} {a b:α} (h:a=b:=by kernel_rfl):some a=some b:=congrArg some h
variable {p : Prop}
theorem qF (h:p:=by first|assumption|exact aG.cells (by assumption)):p:=h
theorem qO (h:p:=by first|assumption|exact Own.sl (by assumption)):p:=h
theorem qM (h:p:=by first|exact mv0|exact mv1 (by assumption)|exact mv2 (by assumption) (by assumption)):p:=h
theorem qN (h:p:=by simp only[Value.cells,nq1,nq2,nq3,nq4,nq5,nq6,bO,nq7,nq8,nq9,nq0,Nat.reduceAdd,Nat.zero_add];try rfl):p:=h
theorem qE (h:p:=by(repeat' first|with_reducible apply J7|with_reducible exact Nx|assumption|rfl|exact Sl.one (by assumption)|exact fp.one (by assumption)|exact Sl.one (Own.sl (by assumption)));done):p:=h
theorem qC (h:p:=by first|rfl|assumption|exact Sl.one (by assumption)|exact fp.one (by assumption)|exact Sl.one (Own.sl (by assumption))):p:=h
theorem qR (h:p:=by first|assumption|exact List.getElem?_eq_getElem (by omega)):p:=h
theorem qA (h:p:=by first|assumption|exact Sl.mv (by assumption) qM|exact qx.mv (by assumption) qM|exact qy.mv (by assumption) qM|exact Rec.at.mv (by assumption) qM|exact Own.sl (by assumption)|exact Cells.mv (by assumption) qM|exact Cells.mv (aG.cells (by assumption)) qM|omega):p:=h
theorem kQ (h:p:=by kernel_rfl):p:=h
theorem zQ (h:p:=by omega):p:=h
theorem aQ (h:p:=by assumption):p:=h
theorem dQ (h:p:=by decide):p:=h
theorem gQ (h:p:=by grind):p:=h
theorem oQ (h:p:=by simp;omega):p:=h
theorem sQ (h:p:=by simp):p:=h
abbrev Env:=Nat->Value
abbrev XS:=Nat->Prop
def jO (e:Env) (d:Nat) (v:Value):Env:=λs=>match s==d with
 |true=>v
 |false=>e s
def J8 (e:Env) (d:Option Nat) (v:Value):Env:=match d with
 |some d=>jO e d v
 |none=>e
structure Fr (X:XS) (w w':World):Prop where
 os:w'.os=w.os
 tape:w'.tape=w.tape
 output:w'.output=w.output
 size:w.heap.size<=w'.heap.size
 block: ∀k,k<w.heap.size-> ¬X k->w'.heap[k]? =w.heap[k]?
def nX:XS:=λ_=>False
def Ext (w w':World):Prop:=Fr nX w w'
theorem Fr.refl (X:XS) (w:World):Fr X w w:=⟨rfl,rfl,rfl,au _,λ_ _ _=>rfl⟩
variable {b c : World} {X : XS}
theorem Fr.trans {a:World} (h:Fr X a b) (k:Fr X b c):Fr X a c:=
 ⟨k.os.trans h.os,k.tape.trans h.tape,k.output.trans h.output,ad h.size k.size,
  λi hi hx=>(k.block i (aw hi h.size) hx).trans (h.block i hi hx)⟩
variable {Y : XS}
def Fr.mono {a:World} (h:Fr X a b) (hs: ∀k,X k->Y k):Fr Y a b:=
 ⟨h.os,h.tape,h.output,h.size,λi hi hy=>h.block i hi λhx=>hy (hs i hx)⟩
theorem Ext.refl (w:World):Ext w w:=Fr.refl _ _
theorem Ext.trans {a:World} (h:Ext a b) (k:Ext b c):Ext a c:=Fr.trans h k
theorem Ext.fr {a:World} (h:Ext a b) (X:XS):Fr X a b:=Fr.mono h (λ_ hf=>hf.elim)
theorem Ext.size {a:World} (h:Ext a b):a.heap.size<=b.heap.size:=Fr.size h
variable {k : Nat}
theorem Ext.block {a:World} (h:Ext a b) (hk:k<a.heap.size):b.heap[k]? =a.heap[k]? :=Fr.block h k hk (λhf=>hf)
def Ext.agH {a:World} (h:RowKit.Below a.heap.size a b):Ext a b:=⟨h.os,h.tape,h.output,h.size,λk hk _=>h.block k hk⟩
def Ext.below {a:World} (h:Ext a b):RowKit.Below a.heap.size a b:=⟨h.os,h.tape,h.output,Fr.size h,λ_ hk=>h.block hk⟩
theorem Ext.alloc (w:World) (o:Obj):Ext w (w.alloc o):=Ext.agH ((RowKit.Below.refl _ _).alloc (au _) o)
def Ext.drew (w:World):Ext w { w with drawn:=w.drawn+1 } :=⟨rfl,rfl,rfl,au _,λ_ _ _=>rfl⟩
structure Kp (X:XS) (w w':World):Prop where
 os:w'.os=w.os
 tape:w'.tape=w.tape
 output:w'.output=w.output
 size:w.heap.size<=w'.heap.size
 block: ∀k,X k->w'.heap[k]? =w.heap[k]?
theorem Kp.refl (X:XS) (w:World):Kp X w w:=⟨rfl,rfl,rfl,au _,λ_ _=>rfl⟩
theorem Kp.trans {a:World} (h:Kp X a b) (k:Kp X b c):Kp X a c:=
 ⟨k.os.trans h.os,k.tape.trans h.tape,k.output.trans h.output,ad h.size k.size,λi hx=>(k.block i hx).trans (h.block i hx)⟩
theorem Kp.less {a:World} (h:Kp X a b) (hs: ∀k,Y k->X k):Kp Y a b:=⟨h.os,h.tape,h.output,h.size,λi hy=>h.block i (hs i hy)⟩
theorem Fr.kp {a:World} (h:Fr X a b) (hy: ∀k,Y k->k<a.heap.size/\ ¬X k):Kp Y a b:=
 ⟨h.os,h.tape,h.output,h.size,λi hi=>h.block i (hy i hi).1 (hy i hi).2⟩
theorem Ext.kp {a:World} (h:Ext a b) (hx: ∀k,X k->k<a.heap.size):Kp X a b:=Fr.kp h λk hk=>⟨hx k hk,λhf=>hf⟩
def bI (w:World):XS:=λk=>k<w.heap.size
def Kp.ext {a:World} (h:Kp (bI a) a b):Ext a b:=⟨h.os,h.tape,h.output,h.size,λk hk _=>h.block k hk⟩
def Ext.bI {a:World} (h:Ext a b):Kp (bI a) a b:=h.kp λ_ hk=>hk
inductive Ex where
 |t (n:Nat)
 |c (v:Value)
 |s (b off n:Nat)
 |k (b off:Nat)
def yg (v:Value) (off n:Nat):Value:=.agg ((v.cells.toList.drop off).take n).toArray
def cellOf (v:Value) (i:Nat):Value:=v.cells.toList.getD i undef
def Ex.ev (env:Env):Ex->Value
 | .t n=>env n
 | .c v=>v
 | .s b off n=>yg (env b) off n
 | .k b off=>cellOf (env b) off
def Ex.Wf:Ex->Nat->Bool
 | .t n,d=>n==d
 | .c _,_=>false
 | .s b _ _,d=>b==d
 | .k b _,d=>b==d
def look {α:Type} :List (Nat×α)->Nat->Option α
 |[],_=>none
 |(s,e)::r,t=>if s=t then some e else look r t
def Fy (env:Env) (ss:List (Nat×Ex)):Operand->Value
 | .tmp t=>match look ss t with
  |some e=>e.ev env
  |none=>env t
 | .const v=>v
 | .global g=>.pointer (some ⟨g,0,none⟩)
 | .func f=>.func (.func f) #[] #[]
def Wg (op:Op) (ty:TypeId):Oper:=⟨none,op,ty, "",#[],none⟩
def vS (s:Sem Value):Sem Next:=do pure (.value (<-s))
def H8 (f:Value) (args:Array Value):Sem Next:=do let d<-lj f args;invoke d.target d.args
def xp (ρ:Operand->Value) (a:Array Operand):Array Value:=(a.toList.map ρ).toArray
def ab8 (ρ:Operand->Value) (a:Array (Nat×Operand)):Array (Nat×Value):=(a.toList.map λp=>(p.1,ρ p.2)).toArray
def PJ (ρ:Operand->Value) (op:Op) (ty:TypeId):Sem Next:=match op with
 | .call ⟨.value (.func f),args,_⟩=>callFunc f (xp ρ args)
 | .call ⟨.value (.tmp t),args,_⟩=>H8 (ρ (.tmp t)) (xp ρ args)
 | .call ⟨.builtin .len,args,ts⟩=>vS (Builtin.len_ ts ty (xp ρ args))
 | .call ⟨.builtin .cap,args,ts⟩=>vS (Builtin.cap_ ts ty (xp ρ args))
 | .call ⟨.builtin .min,args,ts⟩=>vS (Builtin.min_ ts ty (xp ρ args))
 | .call ⟨.builtin .max,args,ts⟩=>vS (Builtin.max_ ts ty (xp ρ args))
 | .call ⟨.builtin .append,args,ts⟩=>vS (Builtin.append_ ts ty (xp ρ args))
 | .call ⟨.builtin .copy,args,ts⟩=>vS (Builtin.copy_ ts ty (xp ρ args))
 | .call ⟨.builtin .delete,args,ts⟩=>vS (Builtin.delete_ ts ty (xp ρ args))
 | .call ⟨.builtin .clear,args,ts⟩=>vS (Builtin.clear_ ts ty (xp ρ args))
 | .call ⟨.builtin .panic,args,_⟩=>vS (Instr.panic ((xp ρ args).toList.getD 0 .nilIface))
 | .build t ps=>vS (Instr.build t (ab8 ρ ps))
 | .buildSlice t n ps=>vS (Instr.buildSlice t n (ab8 ρ ps))
 | .makeFunc fn a b=>vS (Instr.makeFunc fn (xp ρ a) (xp ρ b))
 |op=>execOp ρ (Wg op ty)
theorem RR (ρ:Operand->Value) (a:Array Operand):xp ρ a=a.map ρ:=by
 unfold xp;rw[<-nr]
theorem ajR (ρ:Operand->Value) (a:Array (Nat×Operand)):ab8 ρ a=a.map λp=>(p.1,ρ p.2):=by
 unfold ab8;rw[<-nr]
theorem aeX (ρ:Operand->Value) (hρ: ∀f,ρ (.func f)= .func (.func f) #[] #[]) (op:Op) (ty:TypeId):PJ ρ op ty=execOp ρ (Wg op ty):=by
 unfold PJ;split<;>first
  |rfl
  |(simp[execOp,Wg,resolve,invoke,lj,RR,ajR,vS,builtin,H8,hρ];done)
def bO (l:List Value) (off:Nat) (vs:List Value):List Value:=l.take off++vs++l.drop (off+vs.length)
def Rd (P:Program) (X:XS) (w:World) (s:Sem Next) (v:Value):Prop:= ∀wa,Kp X w wa->s.run P wa= .ok (.value v) wa
def oe (v:Value) (want:Bool):Bool:=match v with
 | .bool b=>b==want
 |_=>false
def dI:Value->Bool
 | .agg _=>true
 |_=>false
def one (v:Value):Bool:=match v with
 | .agg _| .tuple _=>false
 |_=>true
inductive TI where
 |zI (b:Nat)
 |set (d:Nat) (e:Ex)
 |box (b n:Nat) (e:Ex)
 |put (b off n:Nat) (e:Ex)
 |BM (b:Nat) (e:Ex)
 |Wh (b off:Nat) (e:Ex)
 |fill (b n:Nat) (e:Ex)
 |rd (d:Nat) (op:Op) (ty:TypeId) (ss:List (Nat×Ex))
 |Dw (d:Option Nat) (op:Op) (ty:TypeId) (ss:List (Nat×Ex)) (m:Bool)
 |Wi (g:Nat) (want:Bool) (d:Nat) (e:Ex)
 |grd (g:Nat) (want:Bool) (d:Nat) (op:Op) (ty:TypeId) (ss:List (Nat×Ex))
 |Wj (g:Nat) (want:Bool) (d:Option Nat) (op:Op) (ty:TypeId) (ss:List (Nat×Ex)) (m:Bool)
inductive T where
 |Bo (l:List TI)
 |seq (a b:T)
 |ite (e:Ex) (a b:T)
 |alt (a b:T)
 |fc (id:Nat) (a:T)
 |loop (M C:List Nat) (a:T)
 |exit (id:Nat)
 |ret
 |skip
def grow (X:XS) (w w':World):XS:=λk=>X k\/(w.heap.size<=k/\k<w'.heap.size)
def Step (m:Bool) (X:XS) (w w':World):Prop:=if m then Fr X w w' else Ext w w'
variable {w w' : World} {m : Bool}
theorem Step.fr (h:Step m X w w'):Fr X w w':=by
 unfold Step at h;split at h
 ·exact h
 ·exact h.fr X
theorem Step.eP (h:Ext w w'):Step m X w w':=by
 unfold Step;split
 ·exact h.fr X
 omega
def jA (P:Program) (m:Bool) (X:XS) (w:World) (next:Value->World->XS->Prop) (iY:List PanicEntry->World->XS->Prop):Result Next->Prop
 | .ok (.value v) w'=>Step m X w w'/\next v w' (grow X w w')
 | .ok .skip w'=>Step m X w w'/\next undef w' (grow X w w')
 | .ok (.enter f args) w'=>w'=w/\Calls P f args w fun
   | .returned v,mq=>Step m X w mq/\next v mq (grow X w mq)
   | .panicked ch,mq=>Step m X w mq/\iY ch mq (grow X w mq)
   | .outgrown,_=>False
 | .halt (.panic v) w'=>Step m X w w'/\iY [{ v,recovered:=false }] w' (grow X w w')
 |_=>False
def jc (b:Bool) (N:Prop):Prop:=match b with
 |true=>N
 |false=>False
theorem dO {b:Bool} {N:Prop} :jc b N↔b=true/\N:=by cases b<;>simp[jc]
def me (v:Value) (A B:Prop):Prop:=match v with
 | .bool t=>(t=true->A)/\(t=false->B)
 |_=>False
def Wk (P:Program) (iY:List PanicEntry->Env->World->XS->Prop) (next:Env->World->XS->Prop) (env:Env) (w:World) (X:XS):TI->Prop
 | .zI b=>jc (dI (env b)) (next env w X)
 | .set d e=>next (jO env d (e.ev env)) w X
 | .box b n e=>jc ((e.ev env).cells.toList.length==n) (next (jO env b (.agg (e.ev env).cells)) w X)
 | .put b off n e=>jc ((e.ev env).cells.toList.length==n) (jc ((e.ev env).cells.toList.all one)
   (next (jO env b (.agg (bO (env b).cells.toList off (e.ev env).cells.toList).toArray)) w X))
 | .BM b e=>jc (one (e.ev env)) (next (jO env b (.agg #[e.ev env])) w X)
 | .Wh b off e=>jc (one (e.ev env)) (next (jO env b (.agg (bO (env b).cells.toList off [e.ev env]).toArray)) w X)
 | .fill b n e=>jc ((e.ev env).cells.toList.length==n) (jc ((e.ev env).cells.toList.all one) (next (jO env b (.agg (e.ev env).cells)) w X))
 | .rd d op ty ss=> ∃v,Rd P X w (PJ (Fy env ss) op ty) v/\next (jO env d v) w X
 | .Dw d op ty ss m=> ∀wa,Kp X w wa->
   jA P m X wa (λv w' X'=>next (J8 env d v) w' X') (λch w' X'=>iY ch env w' X') ((PJ (Fy env ss) op ty).run P wa)
 | .Wi g want d e=>next (jO env d (if oe (env g) want then e.ev env else undef)) w X
 | .grd g want d op ty ss=> ∃v,(oe (env g) want=true->Rd P X w (PJ (Fy env ss) op ty) v)/\(oe (env g) want=false->v=undef)/\
   next (jO env d v) w X
 | .Wj g want d op ty ss m=>
   (oe (env g) want=true-> ∀wa,Kp X w wa->
    jA P m X wa (λv w' X'=>next (J8 env d v) w' X') (λch w' X'=>iY ch env w' X') ((PJ (Fy env ss) op ty).run P wa))/\
   (oe (env g) want=false->next (J8 env d undef) w X)
def hU (P:Program) (iY:List PanicEntry->Env->World->XS->Prop) (next:Env->World->XS->Prop):List TI->Env->World->XS->Prop
 |[],env,w,X=>next env w X
 |i::l,env,w,X=>Wk P iY (hU P iY next l) env w X i
abbrev lA:=Exit->Env->World->XS->Prop
def lA.Fz (next:Env->World->XS->Prop) (K:lA):lA
 | .normal,e,w,X=>next e w X
 |ex,e,w,X=>K ex e w X
def lA.fc (id:Nat) (K:lA):lA
 | .exit i,e,w,X=>if i=id then K .normal e w X else K (.exit i) e w X
 |ex,e,w,X=>K ex e w X
def yz (M:List Nat) (s:Nat):Bool:=match M with
 |[]=>false
 |x::r=>x==s||yz r s
variable {s : Nat}
theorem Ah: ∀{M:List Nat},yz M s=true↔s∈M
 |[]=>by simp[yz]
 |x::r=>by
  simp only[yz,ot,beq_iff_eq,Ah (M:=r),ic]
  grind
def merge (M:List Nat) (e env:Env):Env:=λs=>match yz M s with
 |true=>e s
 |false=>env s
def den (P:Program):T->lA->Env->World->XS->Prop
 | .Bo l,K,env,w,X=>hU P (λch=>K (.panic ch)) (λe w X=>K .normal e w X) l env w X
 | .seq a b,K,env,w,X=>den P a (lA.Fz (λe w X=>den P b K e w X) K) env w X
 | .ite e a b,K,env,w,X=>me (e.ev env) (den P a K env w X) (den P b K env w X)
 | .alt a b,K,env,w,X=>And (den P a K env w X) (den P b K env w X)
 | .fc id a,K,env,w,X=>den P a (lA.fc id K) env w X
 | .loop M C a,K,env,w,X=> ∃J:Nat->List Value->World->XS->Prop,(∃n,J n (C.map env) w X)/\
   ∀n (e:Env) w' X',(∀k,X k->X' k)->J n (C.map e) w' X'->den P a (lA.Fz (λe' mq wG=> ∃m,m<n/\J m (C.map e') mq wG) K) (merge M e env) w' X'
 | .exit id,K,env,w,X=>K (.exit id) env w X
 | .ret,K,env,w,X=>K .ret env w X
 | .skip,K,env,w,X=>K .normal env w X
structure gx where
 n:Nat
 boxes:List (Nat×Nat)
 Tk:List Nat
 qz:List Nat
 mat:List Nat
 car:List Nat
def gx.j7 (pl:gx) (s:Nat):Bool:=pl.qz.contains s&&decide (s<pl.n)&&(look pl.boxes s).isNone&&!pl.Tk.contains s
def gx.nu (pl:gx) (d:Nat):Bool:=decide (d<pl.n)&&(look pl.boxes d).isNone&&!pl.Tk.contains d
structure Ptr where
 s:Nat
 b:Nat
 off:Nat
 g:Option (Nat×Bool)
structure CS where
 sig:List (Nat×Ex)
 zJ:List Ptr
 live:List Nat
def CS.start:CS:=⟨[],[],[]⟩
def valOf (pl:gx) (cs:CS):Operand->Option Ex
 | .tmp t=>if pl.j7 t then some (.t t)else look cs.sig t
 | .const v=>some (.c v)
 | .global g=>some (.c (.pointer (some ⟨g,0,none⟩)))
 | .func f=>some (.c (.func (.func f) #[] #[]))
def G7 (og:Option (Nat×Bool)):List Ptr->Nat->Option (Nat×Nat)
 |[],_=>none
 |p::r,t=>if p.s=t then(if p.g.isNone||p.g==og then some (p.b,p.off)else none)else G7 og r t
def wH (pl:gx) (cs:CS) (og:Option (Nat×Bool)):Operand->Option (Nat×Nat×List Nat)
 | .tmp t=>match look pl.boxes t with
  |some _=>some (t,0,if cs.live.contains t then [] else [t])
  |none=>if pl.Tk.contains t then(G7 og cs.zJ t).map λ(b,off)=>(b,off,[])else none
 |_=>none
def CS.kill (cs:CS) (d:Nat):CS:=
 ⟨cs.sig.filter λp=>p.1 !=d&&!p.2.Wf d,cs.zJ.filter λp=>p.b !=d&&p.s !=d&&(match p.g with|some (g,_)=>g !=d|none=>true),cs.live⟩
def CS.Mw (cs:CS) (b:Nat):CS:=⟨cs.sig.filter λp=>!p.2.Wf b,cs.zJ,cs.live⟩
def CS.bind (cs:CS) (pl:gx) (d:Nat):CS:=let c:=cs.kill d;if pl.j7 d then c else { c with sig:=(d,.t d)::c.sig }
def CS.note (cs:CS) (d:Nat) (e:Ex):CS:= { cs with sig:=(d,e)::cs.sig.filter (λp=>p.1 !=d),zJ:=cs.zJ.filter λp=>p.s !=d }
def CS.rV (cs:CS) (d b off:Nat) (g:Option (Nat×Bool)):CS:=
 { cs with sig:=cs.sig.filter (λp=>p.1 !=d),zJ:=⟨d,b,off,g⟩::(cs.zJ.filter λp=>p.s !=d) }
def CS.mf (cs:CS) (l:List Nat):CS:= { cs with live:=l++cs.live }
def rW (pl:gx) (cs:CS) (d:Nat) (e:Ex):List TI×CS:=
 if pl.j7 d||pl.mat.contains d then([.set d e],cs.bind pl d)else([],cs.note d e)
def fieldInfo (P:Program) (S f:Nat):Option (Nat×Nat):=
 match P.underlying S with
 |some (.struct fs)=>(fs[f]?).bind λx=>(P.info? x.type).map λi=>(x.offset,i.size)
 |_=>none
def subst (pl:gx) (cs:CS):List Operand->Option (List (Nat×Ex))
 |[]=>some []
 | .tmp t::r=>match valOf pl cs (.tmp t),subst pl cs r with
  |some e,some ss=>some (match e with
   | .t n=>if n=t then ss else(t,e)::ss
   |_=>(t,e)::ss)
  |_,_=>none
 |_::r=>subst pl cs r
def Wl (P:Program) (t:Nat):Bool:=match P.underlying t with
 |some (.slice _)=>true
 |_=>false
def apE (P:Program):Op->Bool
 | .pick .. | .nilCheck _| .binOp .. | .unOp .. | .fieldAddr .. | .field .. | .indexAddr .. | .index .. | .extract .. | .slice .. | .build .. | .makeFunc ..
 | .makeInterface .. | .load .. | .lookup .. | .typeAssert .. | .move _| .assign _=>true
 | .convert s d _=>!Wl P s&&!Wl P d
 | .call { callee:=.builtin b,.. } =>match b with
  | .len| .cap| .min| .max=>true
  |_=>false
 |_=>false
structure CR where
 fl:Bool
 nd:List Nat
 l:List TI
 cs:CS
 rb:List Nat
 sb:List Nat
def H9:Op->Bool
 | .select .. =>false
 |_=>true
def FA (P:Program) (pl:gx) (cs:CS) (m:Bool) (o:Oper):Option CR:=
 match subst pl cs o.op.operands.toList with
 |none=>none
 |some ss=>if !H9 o.op then none else
  match o.dst with
  |some d=>if !pl.nu d then none else
   if apE P o.op then some ⟨true,[],[.rd d o.op o.type ss],cs.bind pl d,[],[]⟩else some ⟨false,[],[.Dw (some d) o.op o.type ss m],cs.bind pl d,[],[]⟩
  |none=>some ⟨false,[],[.Dw none o.op o.type ss m],cs,[],[]⟩
def kM (P:Program) (t:Nat):Option (Bool×Nat):=
 match P.underlying t,P.info? t with
 |some d,some i=>some ((match d with| .struct _| .array _ _=>true|_=>false),i.size)
 |_,_=>none
def Wm (P:Program) (pl:gx) (cs:CS) (sz:Nat) (t:Nat) (e:Ex) (d:Nat):Option CR:=
 match kM P t with
 |some (ag,s)=>if decide (d<pl.n)&&s==sz then some ⟨false,[],[if !ag&&s==1 then .BM d e else .box d sz e],(cs.kill d).mf [d],[],[]⟩else none
 |none=>none
def DK (P:Program) (pl:gx) (cs:CS) (og:Option (Nat×Bool)) (m:Bool) (o:Oper):Option CR:=
 match o.op with
 | .move x| .assign x=>match o.dst,valOf pl cs x with
  |some d,some e=>if pl.nu d then(let r:=rW pl cs d e;some ⟨true,[],r.1,r.2,[],[]⟩)else none
  |_,_=>none
 | .box t x=>match o.dst with
  |some d=>match look pl.boxes d with
   |some sz=>match valOf pl cs x with
    |some e=>Wm P pl cs sz t e d
    |none=>none
   |none=>FA P pl cs m o
  |none=>none
 | .alloc t=>match o.dst with
  |some d=>match look pl.boxes d with
   |some sz=>match(P.info? t).bind (·.zero)with
    |some z=>Wm P pl cs sz t (.c z) d
    |none=>none
   |none=>FA P pl cs m o
  |none=>none
 | .fieldAddr S x f=>match wH pl cs og x with
  |some (b,off,nd)=>match o.dst,fieldInfo P S f with
   |some d,some (fo,sz)=>if pl.Tk.contains d&&decide (d<pl.n)&&(look pl.boxes d).isNone&&sz !=0 then
     some ⟨true,nd,[],(cs.mf nd).rV d b (off+fo) og,[],[]⟩else none
   |_,_=>none
  |none=>FA P pl cs m o
 | .load t x=>match wH pl cs og x with
  |some (b,off,nd)=>match o.dst,kM P t,look pl.boxes b with
   |some d,some (ag,sz),some bs=>if pl.nu d&&decide (off+sz<=bs)&&(ag||sz==1)then
     (let r:=rW pl (cs.mf nd) d (if ag then .s b off sz else .k b off);some ⟨true,nd,r.1,r.2,[b],[]⟩)else none
   |_,_,_=>none
  |none=>FA P pl cs m o
 | .store t x v=>match wH pl cs og x with
  |some (b,off,nd)=>match o.dst,valOf pl cs v,kM P t,look pl.boxes b with
   |none,some e,some (ag,sz),some bs=>if decide (off+sz<=bs)then
     some ⟨false,nd,[if !ag&&sz==1 then .Wh b off e else if off==0&&sz==bs then .fill b sz e else .put b off sz e],(cs.mf nd).Mw b,[],[b]⟩else none
   |_,_,_,_=>none
  |none=>FA P pl cs m o
 |_=>FA P pl cs m o
def agI:Op->Bool
 | .fieldAddr .. =>true
 |_=>false
def qh (g:Nat) (want:Bool) (op:Op) (r:CR):Option CR:=
 match r.fl,r.l with
 |true,[]=>if agI op then some r else none
 |true,[.set d e]=>if d=g then none else some { r with l:=[.Wi g want d e] }
 |true,[.rd d op ty ss]=>if d=g then none else some { r with l:=[.grd g want d op ty ss] }
 |false,[.Dw d op ty ss m]=>if d=some g then none else some { r with l:=[.Wj g want d op ty ss m] }
 |_,_=>none
def Bp (P:Program) (pl:gx) (cs:CS) (ops:Array Oper) (m:Bool) (o:Oper):Option CR:=
 match o.guard with
 |none=>DK P pl cs none m o
 |some (j,want)=>match(ops[j]?).bind (·.dst)with
  |none=>none
  |some gs=>match valOf pl cs (.tmp gs)with
   |some (.t g)=>(DK P pl cs (some (g,want)) m o).bind (qh g want o.op)
   |_=>none
def CR.all (r:CR):List TI:=r.nd.map .zI++r.l
def Ia (P:Program) (pl:gx) (ops:Array Oper):List Oper->CS->Option (List TI)
 |[],_=>some []
 |o::r,cs=>match Bp P pl cs ops true o with
  |some x=>(Ia P pl ops r x.cs).map (x.all++ ·)
  |none=>none
def waits (o:Oper) (i:Nat):Bool:=o.after.any λe=>uT .any e&&e.on==i
def ab9 (ops:Array Oper) (bG:Array Bool) (S:List Nat) (j:Nat):Bool:=!bG.getD j true&&match ops[j]? with
 |some o=>o.after.any λe=>uT .any e&&S.contains e.on
 |none=>false
def Gp (ops:Array Oper) (bG:Array Bool) (i:Nat):List Nat:=(dA ops.size).foldl (λS j=>if ab9 ops bG S j then j::S else S) [i]
def apF (ops:Array Oper) (j:Nat):List Nat:=
 (dA (j+1)).reverse.foldl (λS k=>if S.contains k then(match ops[k]? with
  |some o=>o.after.toList.foldl (λS e=>if uT .any e&&!S.contains e.on then e.on::S else S) S
  |none=>S)else S) [j]
def Cb (o:Oper):Bool:=match o.op with
 | .extract .. =>true
 | .move .. =>true
 |_=>false
def ldX (pl:gx) (o:Oper):Bool:=match o.op with
 | .load _ (.tmp x)=>(look pl.boxes x).isSome
 |_=>false
def Tl (o:Oper) (rb:List Nat):Bool:=match o.op with
 | .load _ (.tmp x)=>rb.contains x
 |_=>false
def alj (o:Oper):Bool:=match o.op with
 | .alloc _=>true
 |_=>false
def qB (pl:gx) (ops:Array Oper) (j:Nat):Bool:=
 match ops[j]? with
 |some oj=>(match oj.dst with|some d=>pl.mat.contains (1000000+d)|none=>false)||pl.mat.contains (2000000+j)||((dA ops.size).all λi=>i==j||waits oj i||(match ops[i]? with
  |some oi=>waits oi j||Cb oi||ldX pl oi||alj oi
  |none=>true))||(let B:=apF ops j++Gp ops (dg ops.size false) j;(dA ops.size).all λi=>B.contains i||(match ops[i]? with
  |some oi=>Cb oi||ldX pl oi||alj oi
  |none=>true))
 |none=>false
def aeY (pl:gx) (ops:Array Oper):Nat->Operand->Option Nat
 |0,_=>none
 |n+1,.tmp t=>match look pl.boxes t with
  |some _=>some t
  |none=>match ops.find? (λo=>o.dst==some t)with
   |some o=>(match o.op with
    | .fieldAddr _ x _=>aeY pl ops n x
    |_=>none)
   |none=>none
 |_+1,_=>none
def wo (pl:gx) (ops:Array Oper) (o:Oper):List Nat:=match o.op with
 | .store _ x _=>(aeY pl ops 6 x).toList
 |_=>[]
def Mx (pl:gx) (ops:Array Oper) (bG:Array Bool) (i:Nat) (rb:List Nat):Bool:=
 match ops[i]? with
 |none=>false
 |some oi=>(match oi.dst with
   |some d=>(look pl.boxes d).isNone
   |none=>true)&&(dA ops.size).all λj=>j==i||bG.getD j true||match ops[j]? with
   |some oj=>waits oj i||(oi.apart ops oj&&(Cb oi||Tl oi rb||!qB pl ops j)&&(wo pl ops oj).all λb=>!rb.contains b)||(Gp ops bG i).contains j
   |none=>true
def BN (P:Program) (pl:gx) (ops:Array Oper) (cs:CS) (bG:Array Bool):List Nat->Option (Nat×CR)
 |[]=>none
 |i::r=>match(ops[i]?).bind (Bp P pl cs ops (qB pl ops i))with
  |some x=>if x.fl&&Mx pl ops bG i x.rb then some (i,x)else BN P pl ops cs bG r
  |none=>BN P pl ops cs bG r
def Ib (P:Program) (pl:gx) (o:Oper):Option (Nat×Nat×Bool×Value):=match o.guard,o.op,o.dst with
 |none,.alloc t,some d=>match look pl.boxes d,(P.info? t).bind (·.zero),kM P t with
  |some sz,some z,some (ag,s)=>if decide (d<pl.n)&&s==sz then some (d,sz,!ag&&s==1,z)else none
  |_,_,_=>none
 |_,_,_=>none
def AD:Nat×Nat×Bool×Value->TI
 |(d,sz,one,z)=>if one then .BM d (.c z)else .box d sz (.c z)
def yh (cs:CS) (d:Nat):CS:=(cs.kill d).mf [d]
def aca (l:List Nat) (i:Nat):Bool:=match l with
 |[x]=>x==i
 |_=>false
def ajf (P:Program) (pl:gx) (ops:Array Oper) (bG:Array Bool) (i j:Nat):Option (Nat×Nat×Bool×Value):=
 match(ops[i]?).bind (Ib P pl),(ops[j]?).bind (Ib P pl)with
 |some bi,some bj=>if !(bi.1==bj.1)&&aca (iC .any ops (bG.setIfInBounds i true)) j&&aca (iC .any ops (bG.setIfInBounds j true)) i then some bi else none
 |_,_=>none
def yi (P:Program) (pl:gx) (ops:Array Oper):Nat->Array Bool->CS->Option (List TI)
 |0,bG,_=>if(iC .any ops bG).isEmpty then some [] else none
 |fuel+1,bG,cs=>
  match BN P pl ops cs bG (iC .any ops bG)with
  |some (i,x)=>(yi P pl ops fuel (bG.setIfInBounds i true) x.cs).map (x.all++ ·)
  |none=>match iC .any ops bG with
   |[i]=>match ops[i]? with
    |some o=>match Bp P pl cs ops (qB pl ops i) o with
     |some x=>if x.sb.all λb=>(wo pl ops o).contains b then(yi P pl ops fuel (bG.setIfInBounds i true) x.cs).map (x.all++ ·)else none
     |none=>none
    |none=>none
   |[i,j]=>match ajf P pl ops bG i j with
    |some b=>(yi P pl ops fuel (bG.setIfInBounds i true) (yh cs b.1)).map (AD b:: ·)
    |none=>none
   |_=>none
def RU:List Nat->(Nat->Option T)->Option T
 |[],_=>none
 |i::r,f=>match r with
  |[]=>f i
  |j::r=>match f i,RU (j::r) f with
   |some a,some b=>some (.alt a b)
   |_,_=>none
def Cp (P:Program) (pl:gx) (ops:Array Oper):Nat->Array Bool->CS->Option T
 |0,bG,_=>if(iC .any ops bG).isEmpty then some .skip else none
 |fuel+1,bG,cs=>
  match BN P pl ops cs bG (iC .any ops bG)with
  |some (i,x)=>(Cp P pl ops fuel (bG.setIfInBounds i true) x.cs).map (.seq (.Bo x.all) ·)
  |none=>RU (iC .any ops bG) λi=>match ops[i]? with
   |some o=>match Bp P pl cs ops (qB pl ops i) o with
    |some x=>if x.sb.all λb=>(wo pl ops o).contains b then(Cp P pl ops fuel (bG.setIfInBounds i true) x.cs).map (.seq (.Bo x.all) ·)else none
    |none=>none
   |none=>none
def TI.J9:TI->List Nat
 | .set d _=>[d]
 | .box b _ _=>[b]
 | .BM b _=>[b]
 | .rd d _ _ _=>[d]
 | .Dw d _ _ _ _=>d.toList
 | .Wi _ _ d _=>[d]
 | .grd _ _ d _ _ _=>[d]
 | .Wj _ _ d _ _ _ _=>d.toList
 |_=>[]
def ou (l:List TI):List Nat:=l.flatMap TI.J9
def TI.wr:TI->List Nat
 | .zI _=>[]
 | .set d _=>[d]
 | .box b _ _=>[b]
 | .put b _ _ _=>[b]
 | .BM b _=>[b]
 | .Wh b _ _=>[b]
 | .fill b _ _=>[b]
 | .rd d _ _ _=>[d]
 | .Dw d _ _ _ _=>d.toList
 | .Wi _ _ d _=>[d]
 | .grd _ _ d _ _ _=>[d]
 | .Wj _ _ d _ _ _ _=>d.toList
def T.wr:T->List Nat
 | .Bo l=>l.flatMap TI.wr
 | .seq a b=>a.wr++b.wr
 | .ite _ a b=>a.wr++b.wr
 | .alt a b=>a.wr++b.wr
 | .fc _ a=>a.wr
 | .loop M _ a=>M++a.wr
 |_=>[]
def T.mk:T->List Nat
 | .Bo l=>ou l
 | .seq a b=>a.mk++b.mk
 | .ite _ a b=>a.mk++b.mk
 | .alt a b=>a.mk++b.mk
 | .fc _ a=>a.mk
 | .loop _ _ a=>a.mk
 |_=>[]
def tP:List Nat->List Nat->List Nat
 |[],acc=>acc
 |x::r,acc=>tP r (if acc.contains x then acc else x::acc)
def jJ (P:Program) (pl:gx):Code->Option T
 | .skip=>some .skip
 | .region _ ops draw=>if draw then(if P.follows .mixedOrders&&wh ops then(match yi P pl ops ops.size (dg ops.size false) .start with
  |some l=>some (.Bo l)
  |none=>Cp P pl ops ops.size (dg ops.size false) .start)else none)else(Ia P pl ops ops.toList .start).map .Bo
 | .seq a b=>match jJ P pl a,jJ P pl b with
  |some x,some y=>some (match x,y with
   | .skip,y=>y
   |x,.skip=>x
   |x,y=>.seq x y)
  |_,_=>none
 | .cond c a b=>match valOf pl .start c,jJ P pl a,jJ P pl b with
  |some e,some x,some y=>some (.ite e x y)
  |_,_,_=>none
 | .block id a=>(jJ P pl a).map (.fc id)
 | .loop a=>(jJ P pl a).map λx=>.loop (tP x.wr []) ((tP x.wr []).filter (yz pl.car)) x
 | .exit id=>some (.exit id)
 | .ret=>some .ret
 |_=>none
def Eh (P:Program) (pl:gx):List ResultVar->Option (List Ex×List Nat)
 |[]=>some ([],[])
 | .tmp t::r=>if pl.j7 t then(Eh P pl r).map λ(l,n)=>(.t t::l,n)else none
 | .cell a t::r=>match look pl.boxes a,kM P t with
  |some bs,some (ag,sz)=>if decide (sz<=bs)&&(ag||sz==1)then(Eh P pl r).map λ(l,n)=>((if ag then .s a 0 sz else .k a 0)::l,a::n)else none
  |_,_=>none
structure FT where
 code:T
 res:List Ex
 live:List Nat
def cF (P:Program) (pl:gx) (fn:Func):Option FT:=
 if fn.ntmps==pl.n then
  match fn.body with
  |some c=>match jJ P pl c,Eh P pl fn.results.toList with
   |some t,some (r,n)=>some ⟨t,r,n⟩
   |_,_=>none
  |none=>none
 else none
def Wn (l:List Ex) (env:Env):Value:=match l with
 |[e]=>e.ev env
 |l=>.tuple (l.map (·.ev env)).toArray
def Ox (ft:FT) (R:Ending->World->Prop):lA
 | .normal,e,w,X| .ret,e,w,X=>jc (ft.live.all λb=>dI (e b)) (∀wa,Kp X w wa->R (.returned (Wn ft.res e)) wa)
 | .panic ch,_,w,X=> ∀wa,Kp X w wa->R (.panicked ch) wa
 |_,_,_,_=>False
def mV (args:Array Value):Env:=λi=>args.toList.getD i undef
variable {P : Program} {ops : Array Oper} {Q : Exit -> Act -> World -> Prop} {a a' : Act} {v : Value} {o oi oj : Oper} {sb sb' : List Nat} {pl : gx} {K : Act -> World -> Prop} {i j : Nat} {L : Prop} {bG : Array Bool}
def ez (k off:Nat):Value:=.pointer (some ⟨k,off,none⟩)
def ZB (pl:gx) (RB:List Nat) (a:Act):XS:=λk=> ∃b n,look pl.boxes b=some n/\ ¬b∈RB/\a.tmps[b]? =some (ez k 0)
def YF (P:Program) (pl:gx) (RB:List Nat) (ops:Array Oper) (o:Oper) (v:Value) (a:Act) (w:World):Prop:=
 (cJ o (yielded ops a.tmps)=true/\ ∀wa,Fr (ZB pl RB a) w wa->(execOp a.eval o).run P wa= .ok (.value v) wa)\/(cJ o (yielded ops a.tmps)=false/\v=undef)
def rz (pl:gx) (sb:List Nat) (a:Act) (w:World) (a':Act) (w':World):Prop:=
 ∀RB,(∀b,b∈sb-> ¬b∈RB)->Fr (ZB pl RB a) w w'/\ ∀k,k<w.heap.size->ZB pl RB a' k->ZB pl RB a k
theorem YF.rel {RB:List Nat} (h:YF P pl RB ops o v a w) (hx:rz pl sb a w a' w') (hd: ∀b,b∈sb-> ¬b∈RB)
  (he:execOp a'.eval o=execOp a.eval o) (hw:cJ o (yielded ops a'.tmps)=cJ o (yielded ops a.tmps)):YF P pl RB ops o v a' w':=by
 obtain⟨h1,h2⟩:=hx RB hd;unfold YF at*;rw[he,hw];refine h.imp (λ⟨g1,g2⟩=>⟨g1,λwa ha=>g2 wa ?_⟩) id;exact⟨ha.os.trans h1.os,ha.tape.trans h1.tape,ha.output.trans h1.output,ad h1.size ha.size,
  λk hk hz=>(ha.block k (aw hk h1.size) (λsK=>hz (h2 k hk sK))).trans (h1.block k hk hz)⟩
def zK (pl:gx) (sb:List Nat) (a:Act) (w w':World):Prop:=
 ∀b n k,look pl.boxes b=some n-> ¬b∈sb->a.tmps[b]? =some (ez k 0)->w'.heap[k]? =w.heap[k]?
def zL (L:Prop) (pl:gx) (sb:List Nat) (a:Act) (w:World) (a':Act) (w':World):Prop:=(L->rz pl sb a w a' w')/\zK pl sb a w w'
def Yx (P:Program) (ops:Array Oper) (o:Oper) (v:Value) (a:Act) (w:World):Prop:=
 (cJ o (yielded ops a.tmps)=true/\(execOp a.eval o).run P w= .ok (.value v) w)\/(cJ o (yielded ops a.tmps)=false/\v=undef)
def YL (P:Program) (pl:gx) (x:Nat) (ops:Array Oper) (o:Oper) (v:Value) (a:Act) (w:World):Prop:=
 (cJ o (yielded ops a.tmps)=true/\ ∃k n,look pl.boxes x=some n/\a.tmps[x]? =some (ez k 0)/\ ∀wa:World,wa.heap[k]? =w.heap[k]? ->(execOp a.eval o).run P wa= .ok (.value v) wa)\/
  (cJ o (yielded ops a.tmps)=false/\v=undef)
def YF.yx {RB:List Nat} (h:YF P pl RB ops o v a w):Yx P ops o v a w:=h.imp (λ⟨g1,g2⟩=>⟨g1,g2 w (Fr.refl _ w)⟩) id
def YL.yx {x:Nat} (h:YL P pl x ops o v a w):Yx P ops o v a w:=h.imp (λ⟨g1,_,_,_,_,g2⟩=>⟨g1,g2 w rfl⟩) id
def Wo (pl:gx) (ops:Array Oper) (oi oj:Oper) (L:Prop) (sb:List Nat) (Y:Act->World->Prop):Prop:=
 ∀a a' w w',zL L pl sb a w a' w'->execOp a'.eval oi=execOp a.eval oi->cJ oi (yielded ops a'.tmps)=cJ oi (yielded ops a.tmps)->
  (∀x:Nat,(∀d,oj.dst=some d->d≠x)->a'.tmps[x]? =a.tmps[x]?)->Y a w->Y a' w'
theorem zK.refl (pl:gx) (sb:List Nat) (a:Act) (w:World):zK pl sb a w w:=λ_ _ _ _ _ _=>rfl
theorem zK.Wp {d:Option Nat} (hd: ∀x,d=some x->look pl.boxes x=none) (h:zK pl sb (a.put d v) w w'):zK pl sb a w w':=by
 intro b n k hb hn hk;refine h b n k hb hn ?_;cases d with
 |none=>exact hk
 |some x=>
  have cA:x≠b:=λe=>by grind
  simpa [nq,lh cA] using hk
theorem zK.sub (h:zK pl sb a w w') (hs: ∀b,b∈sb->b∈sb'):zK pl sb' a w w':=
 λb n k hb hn hk=>h b n k hb (λhm=>hn (hs b hm)) hk
theorem Yx.wpOp (hi:ops[i]? =some o) (hy:Yx P ops o v a w)
 (h:K (a.put o.dst v) w):wpOp P ops Q i K a w:=by
  unfold Go.wpOp;simp only[hi];rcases hy with⟨hw,hv⟩|⟨hw,rfl⟩
  · simp only[hw,if_true,tn,hv,nL];exact .inl h
  grind
theorem Wq {RB:List Nat} {d:Option Nat} (hd: ∀x,d=some x->look pl.boxes x=none):ZB pl RB (a.put d v)=ZB pl RB a:=by
 cases d with
 |none=>rfl
 |some x=>
  have hx:=hd x rfl
  funext k
  simp only[ZB,eq_iff_iff];have key: ∀b n,look pl.boxes b=some n->(a.put (some x) v).tmps[b]? =a.tmps[b]? :=λb n hb=>by
   have cA:x≠b:=λe=>by grind
   simp[nq,lh cA]
  constructor<;>rintro⟨b,n,h1,h2,h3⟩<;>refine⟨b,n,h1,h2,?_⟩
  ·grind
  grind
theorem rz.Wp {d:Option Nat} (hd: ∀x,d=some x->look pl.boxes x=none) (h:rz pl sb (a.put d v) w (a'.put d v) w'):rz pl sb a w a' w':=by
 intro RB Ka;have:=h RB Ka
 rwa [Wq hd,Wq hd] at this
theorem rz.refl (pl:gx) (sb:List Nat) (a:Act) (w:World) (d:Option Nat) (v:Value) (hd: ∀x,d=some x->look pl.boxes x=none):rz pl sb a w (a.put d v) w:=by
 intro RB _;rw[Wq hd]
 grind [Fr.refl]
theorem aeZ (hp:Cb o=true) {ρ:Operand->Value} {wa:World} (h:(execOp ρ o).run P w= .ok (.value v) w):(execOp ρ o).run P wa= .ok (.value v) wa:=by
 unfold Cb at hp;split at hp
 ·rename_i x i ho;simp only[execOp,ho] at h⊢;unfold gz at h⊢;split at h<;>simp_all
  all_goals (split at h<;>simp_all)
 ·rename_i x ho;simp only[execOp,ho] at h⊢;simp_all
 ·cases hp
theorem YF.pure {RB:List Nat} (h:YF P pl RB ops o v a w) (hp:Cb o=true)
  (he:execOp a'.eval o=execOp a.eval o) (hw:cJ o (yielded ops a'.tmps)=cJ o (yielded ops a.tmps)):YF P pl RB ops o v a' w':=by
 unfold YF at*;rw[he,hw];exact h.imp (λ⟨g1,g2⟩=>⟨g1,λwa _=>aeZ hp (g2 w (Fr.refl _ _))⟩) id
def vK (P:Program) (pl:gx) (ops:Array Oper) (Q:Exit->Act->World->Prop):Nat->Array Bool->Act->World->Prop
 |0,bG,a,w=>iC .any ops bG=[]/\Q .normal a w
 |fuel+1,bG,a,w=>
  (iC .any ops bG=[]->Q .normal a w)/\
  ∀i∈iC .any ops bG,wpOp P ops Q i (λa' w'=>(∀o,ops[i]? =some o->zL (qB pl ops i=false) pl (wo pl ops o) a w a' w')/\vK P pl ops Q fuel (bG.setIfInBounds i true) a' w') a w
theorem PK: ∀(fuel:Nat) (bG:Array Bool) (a:Act) (w:World),vK P pl ops Q fuel bG a w->wpAny P .any ops Q fuel bG a w
 |0,_,_,_,h=>h
 |fuel+1,_,_,_,h=>⟨h.1,λi hi=>wpOp_mono (λa' w' h'=>PK fuel _ a' w' h'.2) (h.2 i hi)⟩
theorem YF.stb {RB:List Nat} (hL:L\/Cb oi=true) (hd: ∀b,b∈sb-> ¬b∈RB):Wo pl ops oi oj L sb (YF P pl RB ops oi v):=by
 intro a a' w w' hr e2 e3 _ hy;rcases hL with hl|hp
 ·exact hy.rel (hr.1 hl) hd e2 e3
 ·exact hy.pure hp e2 e3
theorem YL.stb {x:Nat} (hx: ∀d,oj.dst=some d->d≠x) (hd: ¬x∈sb):Wo pl ops oi oj L sb (YL P pl x ops oi v):=by
 intro a a' w w' hr e2 e3 e4 hy;unfold YL at*;rw[e2,e3,e4 x hx];exact hy.imp (λ⟨g1,k,n,g2,g3,g4⟩=>⟨g1,k,n,g2,g3,λwa hw=>g4 wa (hw.trans (hr.2 x n k g2 hd g3))⟩) id
theorem ae0 {Y:Act->World->Prop} (hj:ops[j]? =some oj) (Kb:oi.apart ops oj=true)
  (hsi: ∀cs b,oi.op≠ .select cs b) (hsj: ∀cs b,oj.op≠ .select cs b) (hdi: ∀x,oi.dst=some x->look pl.boxes x=none) (fN:Wo pl ops oi oj L sb Y)
  (hQ: ∀c a w,Q (.panic c) (a.put oi.dst v) w->Q (.panic c) a w)
  (hy:Y a w) (h:wpOp P ops Q j (λa' w'=>zL L pl sb (a.put oi.dst v) w a' w'/\K a' w') (a.put oi.dst v) w):
  wpOp P ops Q j (λa' w'=>zL L pl sb a w a' w'/\Y a' w'/\K (a'.put oi.dst v) w') a w:=by
 obtain⟨h1,h2,h3⟩:=wj Kb;have fin: ∀(a0:Act) (w':World) (u:Value),a0.tmps=a.tmps->zL L pl sb (a.put oi.dst v) w ((a0.put oi.dst v).put oj.dst u) w'->K ((a0.put oi.dst v).put oj.dst u) w'->
   zL L pl sb a w (a0.put oj.dst u) w'/\Y (a0.put oj.dst u) w'/\K ((a0.put oj.dst u).put oi.dst v) w':=by
  intro a0 w' u h0 hr hk;rw[Act.put_comm a0 v u h2] at hr hk;have jP:zL L pl sb a w (a0.put oj.dst u) w':=⟨λhl:L=>(hr.1 hl).Wp hdi,hr.2.Wp hdi⟩;have e1:execOp a0.eval oi=execOp a.eval oi:=by
   have:a0.eval=a.eval:=by funext x;cases x<;>simp[xn,h0]
   rw[this]
  have e2:=(execOp_put oi hsi a0 oj.dst u h3).trans e1;have e3:cJ oi (yielded ops (a0.put oj.dst u).tmps)=cJ oi (yielded ops a.tmps):=(wanted_put oi a0 oj.dst u h3).trans (by rw[h0]);refine⟨jP,fN a _ w w' jP e2 e3 (λx hx=>?_) hy,hk⟩;cases hod:oj.dst with
  |none=>simp[nq,h0]
  |some d=>simp[nq,h0,lh (hx d hod)]
 unfold wpOp at*;simp only[hj] at*;rw[wanted_put oj a oi.dst v h1] at h;split
 ·rename_i hw;simp only[hw,if_true] at h;rcases h with h|⟨aoc,aod⟩;case inr=>exact .inr ⟨by unfold Oper.asks at*;rw[execOp_put oj hsj a oi.dst v h1] at aoc;omega,aod⟩
  refine .inl ?_;unfold tn at*;rw[execOp_put oj hsj a oi.dst v h1] at h;generalize (execOp a.eval oj).run P w=r at*;cases r with
  |ok n w'=>
   cases n<;>simp only[nL] at h⊢
   case value u=>exact fin a w' u rfl h.1 h.2
   case skip=>exact fin a w' undef rfl h.1 h.2
   case defer d=>
    have e:({ a.put oi.dst v with defers:=d::(a.put oi.dst v).defers } :Act)=({ a with defers:=d::a.defers } :Act).put oi.dst v:=Act.put_defers a oi.dst v d;rw[e] at h;exact fin { a with defers:=d::a.defers } w' undef rfl h.1 h.2
   case enter f args=>
    refine Calls.mono h λe mq he=>?_;cases e with
    |returned u=>exact fin a mq u rfl he.1 he.2
    |panicked c=>exact hQ _ _ _ he
    |outgrown=>exact he
   case row row args=>exact Rows.mono h λu mq he=>fin a mq u rfl he.1 he.2
  |halt x w'=>
   cases x<;>simp only[nL] at h⊢
   case panic u=>exact hQ _ _ _ h
 ·rename_i hw;simp only[hw] at h;exact fin a w undef rfl h.1 h.2
theorem Tm:waits o i=true↔ ∃e∈o.after,uT .any e=true/\e.on=i:=by
 unfold waits;rw[yy];simp
theorem Tn: ∀j,j∈Gp ops bG i->j=i\/(bG.getD j true=false/\ ∃oj k,ops[j]? =some oj/\waits oj k=true/\k∈Gp ops bG i):=by
 unfold Gp;have key: ∀(l:List Nat) (S:List Nat),(∀j,j∈S->j=i\/(bG.getD j true=false/\ ∃oj k,ops[j]? =some oj/\waits oj k=true/\k∈S))->
   ∀j,j∈l.foldl (λS j=>if ab9 ops bG S j then j::S else S) S->j=i\/(bG.getD j true=false/\ ∃oj k,ops[j]? =some oj/\waits oj k=true/\k∈l.foldl (λS j=>if ab9 ops bG S j then j::S else S) S):=by
  intro l
  induction l with
  |nil=>intro S hS j hj;exact hS j hj
  |cons x l ih=>
   intro S hS;rw[List.foldl_cons];refine ih _ ?_;split
   ·rename_i hc;simp only[ab9,aB,de] at hc;obtain⟨h1,h2⟩:=hc;intro j hj;rcases List.mem_cons.1 hj with rfl|hj
    ·right;cases ho:ops[j]? with
     |none=>simp[ho] at h2
     |some o=>
      simp only[ho,yy,aB,wD] at h2;obtain⟨e,he,hb,hm⟩:=h2;exact⟨h1,o,e.on,rfl,Tm.2 ⟨e,he,hb,rfl⟩,bX _ hm⟩
    ·rcases hS j hj with h|⟨h,oj,k,h3,h4,h5⟩
     ·omega
     ·exact .inr ⟨h,oj,k,h3,h4,bX _ h5⟩
   omega
 exact key _ _ λj hj=>.inl (by simpa using hj)
theorem Kc {Y:Act->World->Prop} (PL: ∀a w,Y a w->Yx P ops oi v a w) (hi:ops[i]? =some oi) (Da: ∀(j:Nat) (o:Oper) cs b,ops[j]? =some o->o.op≠ .select cs b)
  (hdi: ∀x,oi.dst=some x->look pl.boxes x=none) (hQ: ∀c a w,Q (.panic c) (a.put oi.dst v) w->Q (.panic c) a w):
  ∀(fuel:Nat) (bG:Array Bool) (a:Act) (w:World) (S:Nat->Prop),S i->
   (∀j,S j->j=i\/(bG.getD j true=false/\ ∃oj k,ops[j]? =some oj/\waits oj k=true/\S k))->
   (∀j oj,ops[j]? =some oj->j≠i->bG.getD j true=false-> ¬S j->oi.apart ops oj=true/\Wo pl ops oi oj (qB pl ops j=false) (wo pl ops oj) Y)->
   i∈iC .any ops bG->Y a w->
   vK P pl ops Q fuel (bG.setIfInBounds i true) (a.put oi.dst v) w->vK P pl ops Q (fuel+1) bG a w:=by
 intro fuel
 induction fuel with
 |zero=>
  intro bG a w S _ hS _ hr hy H;refine⟨λh=>(by rw[h] at hr;cases hr),λj hj=>?_⟩;by_cases Kd:j=i
  ·subst Kd;exact(PL _ _ hy).wpOp hi ⟨λ_ _=>⟨λ_=>rz.refl pl _ a w _ _ hdi,zK.refl _ _ _ _⟩,H⟩
  ·have:=ready_mono hj Kd;rw[H.1] at this;cases this
 |succ fuel ih=>
  intro bG a w S hSi hS ajg hr hy H;refine⟨λh=>(by rw[h] at hr;cases hr),λj hj=>?_⟩;by_cases Kd:j=i
  ·subst Kd;exact(PL _ _ hy).wpOp hi ⟨λ_ _=>⟨λ_=>rz.refl pl _ a w _ _ hdi,zK.refl _ _ _ _⟩,H⟩
  ·have h1:=H.2 j (ready_mono hj Kd);obtain⟨apG,oj,Ei,RV⟩:=mem_ready.1 hj;have alk: ¬S j:=by
    intro hjS;rcases hS j hjS with h|⟨_,oj',k,alm,hwt,hkS⟩
    ·omega
    ·rw[Ei] at alm;cases alm;obtain⟨e,he,hb,heq⟩:=Tm.1 hwt;have h1:=RV e he hb;rw[heq] at h1;have h0:bG.getD k true=false:=by
      rcases hS k hkS with h|h
      ·subst h;exact(mem_ready.1 hr).1
      ·exact h.1
     rcases Nat.lt_or_ge k bG.size with h'|h'
     ·simp[h'] at h0 h1;rw[h0] at h1;cases h1
     ·simp[pS h'] at h1
   obtain⟨Kb,apH⟩:=ajg j oj Ei Kd apG alk;have Ke:=wpOp_mono (K':=λa' w'=>zL (qB pl ops j=false) pl (wo pl ops oj) (a.put oi.dst v) w a' w'/\vK P pl ops Q fuel ((bG.setIfInBounds i true).setIfInBounds j true) a' w')
    (λa' w' h'=>⟨h'.1 oj Ei,h'.2⟩) h1
   have h2:=ae0 Ei Kb (λcs b=>Da i oi cs b hi) (λcs b=>Da j oj cs b Ei) hdi apH hQ hy Ke;have alo: ∀k ok,ops[k]? =some ok->k≠i->(bG.setIfInBounds j true).getD k true=false-> ¬S k->
     oi.apart ops ok=true/\Wo pl ops oi ok (qB pl ops k=false) (wo pl ops ok) Y:=λk ok hk hki G8 lR=>by
    refine ajg k ok hk hki ?_ lR;by_cases Kf:j=k
    ·subst Kf;omega
    ·rw[getD_set_ne true Kf] at G8;omega
   have hS': ∀k,S k->k=i\/((bG.setIfInBounds j true).getD k true=false/\ ∃oj k',ops[k]? =some oj/\waits oj k'=true/\S k'):=λk hk=>by
    rcases hS k hk with h|⟨h,h2⟩
    ·omega
    ·exact .inr ⟨by rw[getD_set_ne true (λe=>alk (by rw[e];exact hk))];exact h,h2⟩
   refine wpOp_mono (λa' w' h3=>⟨λo ho=>?_,ih (bG.setIfInBounds j true) a' w' S hSi hS' alo (ready_mono hr (Ne.symm Kd)) h3.2.1 ?_⟩) h2
   ·rw[Ei] at ho;injection ho with ho;subst ho;exact h3.1
   rw[tO _ _ Kd];exact h3.2.2
theorem To {RB:List Nat} (hi:ops[i]? =some oi) (h:Mx pl ops bG i RB=true): ∀x,oi.dst=some x->look pl.boxes x=none:=by
 simp only[Mx,hi,aB] at h;intro x hx;have:=h.1;rw[hx] at this;simpa using this
theorem PM {RB:List Nat} (hi:ops[i]? =some oi) (h:Mx pl ops bG i RB=true) (j:Nat) (oj:Oper)
  (hj:ops[j]? =some oj) (cA:j≠i) (G8:bG.getD j true=false) (lR: ¬j∈Gp ops bG i) (hnw:waits oj i=false):
  oi.apart ops oj=true/\(qB pl ops j=false\/Cb oi=true\/Tl oi RB=true)/\ ∀b,b∈wo pl ops oj-> ¬b∈RB:=by
 simp only[Mx,hi,aB,lf,List.mem_range] at h;have h1:=h.2 j (Array.getElem?_eq_some_iff.1 hj).1;simp only[hj,ot,beq_iff_eq,cA,false_or,G8,aU,hnw,aB,de,lf,wD,lR,or_false] at h1;exact⟨h1.1.1,h1.1.2.elim (λh=>.inr h) .inl,λb hb=>by have:=h1.2 b hb;simpa using this⟩
def Dx (env:Env):Option (Nat×Bool)->Prop
 |none=>True
 |some (g,want)=>oe (env g) want=true
structure Bk where
 ds:List Deferred
 pins:List (Nat×Value)
structure fF (pl:gx) (ds:Bk) (cs:CS) (env:Env) (X:XS) (w0:World) (a:Act) (w:World):Prop where
 size:a.tmps.size=pl.n
 defers:a.defers=ds.ds
 Ai: ∀p,p∈ds.pins->a.tmps[p.1]? =some p.2/\((∃n k,look pl.boxes p.1=some n/\p.2=ez k 0)\/pl.j7 p.1=true)
 ext:Kp X w0 w
 xq: ∀k,X k->k<w.heap.size
 qz: ∀s,pl.j7 s=true->a.tmps[s]? =some (env s)
 sig: ∀p,p∈cs.sig->a.tmps[p.1]? =some (p.2.ev env)
 box: ∀b n,look pl.boxes b=some n-> ∀cells,env b= .agg cells-> ∃k ty,a.tmps[b]? =some (ez k 0)/\w.heap[k]? =some (.cells cells ty (0,0))/\cells.size=n/\ ¬X k
 inj: ∀b b' n n',look pl.boxes b=some n->look pl.boxes b'=some n'->dI (env b)=true->dI (env b')=true-> ∀k,a.tmps[b]? =some (ez k 0)->a.tmps[b']? =some (ez k 0)->b=b'
 conv: ∀b n,look pl.boxes b=some n-> ∀k,a.tmps[b]? =some (ez k 0)->dI (env b)=true
 live: ∀b,b∈cs.live->(∃n,look pl.boxes b=some n)/\dI (env b)=true
 ptr: ∀p,p∈cs.zJ->(∃n,look pl.boxes p.b=some n)/\(Dx env p.g->dI (env p.b)=true/\ ∃k,a.tmps[p.b]? =some (ez k 0)/\a.tmps[p.s]? =some (ez k p.off))
theorem rq (a:Act) (d:Nat) (v:Value) (s:Nat) (hd:d<a.tmps.size):(a.put (some d) v).tmps[s]? =if s=d then some v else a.tmps[s]? :=by
 simp only[nq,dS]
 grind
theorem gq (a:Act) (d:Nat) (v:Value) (s:Nat) (h:s≠d):(a.put (some d) v).tmps[s]? =a.tmps[s]? :=by
 simp only[nq,dS]
 grind
theorem mA (e:Env) (d:Nat) (v:Value):jO e d v d=v:=by simp[jO]
variable {d : Nat}
theorem iO (e:Env) (v:Value) (h:s≠d):jO e d v s=e s:=by grind [jO]
variable {e : Ex}
theorem Ws (h:e.Wf d=false) (env:Env) (v:Value):e.ev (jO env d v)=e.ev env:=by
 cases e<;>simp only[Ex.Wf,beq_eq_false_iff_ne,ne_eq] at h<;>simp[Ex.ev,iO,h]
theorem vX:dI v=true↔ ∃c,v= .agg c:=by
 cases v<;>simp[dI]
variable {ds : Bk} {cs : CS} {env : Env} {w0 ey : World} {n off sz t : Nat} {ss : List (Nat × Ex)} {op : Op} {X' : XS} {nd : List Nat} {next : Env -> World -> XS -> Prop} {iY : List PanicEntry -> Env -> World -> XS -> Prop} {cells ze : Array Value} {ty : TypeId}
theorem tp (h:pl.j7 s=true):s<pl.n/\look pl.boxes s=none/\pl.Tk.contains s=false:=by
 simp only[gx.j7,aB,decide_eq_true_eq,nR,de] at h
 grind
theorem zC (h:pl.nu s=true):s<pl.n/\look pl.boxes s=none/\pl.Tk.contains s=false:=by
 simp only[gx.nu,aB,decide_eq_true_eq,nR,de] at h
 grind
theorem BO {α:Type} {l:List (Nat×α)} {e:α} (h:look l t=some e):(t,e)∈l:=by
 induction l with
 |nil=>cases h
 |cons p r ih=>
  grind [look]
theorem fF.eval (h:fF pl ds cs env X w0 a w) {x:Operand} (hv:valOf pl cs x=some e):a.eval x=e.ev env:=by
 cases x with
 |tmp t=>
  simp only[valOf] at hv;split at hv
  ·rename_i hg;injection hv with hv
   subst hv;simp[xn,h.qz t hg,Ex.ev]
  ·have:=h.sig _ (BO hv);simp only at this;simp[xn,this]
 |const v=>simp only[valOf,aj] at hv;subst hv;rfl
 |global g=>simp only[valOf,aj] at hv;subst hv;rfl
 |func f=>simp only[valOf,aj] at hv;subst hv;rfl
theorem AE: ∀{l:List Operand} {ss:List (Nat×Ex)},subst pl cs l=some ss->
  (∀t e,look ss t=some e->valOf pl cs (.tmp t)=some e)/\(∀t,.tmp t∈l->look ss t=none->valOf pl cs (.tmp t)=some (.t t))
 |[],ss,h=>by
  simp only[subst,aj] at h;subst h;exact⟨λt e h=>(by cases h),λt h=>(by cases h)⟩
 |x::r,ss,h=>by
  cases x with
  |tmp t=>
   simp only[subst] at h;cases hv:valOf pl cs (.tmp t)with
   |none=>simp[hv] at h
   |some e=>
    cases hr:subst pl cs r with
    |none=>simp[hv,hr] at h
    |some ss'=>
     obtain⟨i1,i2⟩:=AE hr;simp only[hv,hr,aj] at h;have gen: ∀e',e=e'->ss=(t,e')::ss'->(∀u e,look ss u=some e->valOf pl cs (.tmp u)=some e)/\(∀u,.tmp u∈(.tmp t::r)->look ss u=none->valOf pl cs (.tmp u)=some (.t u)):=by
      intro e' he hs;subst hs;refine⟨λu e2 hu=>?_,λu hu hn=>?_⟩
      ·simp only[look] at hu;split at hu
       ·rename_i htu;injection hu with hu
        subst htu hu;rw[hv,he]
       ·exact i1 _ _ hu
      ·simp only[look] at hn;split at hn
       ·cases hn
       ·rename_i htu;rcases List.mem_cons.1 hu with h1|h1
        ·injection h1 with h1;exact absurd h1.symm htu
        ·exact i2 u h1 hn
     cases e with
     |t n=>
      simp only at h;split at h
      ·rename_i hnt;subst hnt h;refine⟨i1,λu hu hn=>?_⟩;rcases List.mem_cons.1 hu with h1|h1
       ·injection h1 with h1;subst h1;exact hv
       ·exact i2 u h1 hn
      ·exact gen _ rfl h.symm
     |c v=>exact gen _ rfl h.symm
     |s b o n=>exact gen _ rfl h.symm
     |k b o=>exact gen _ rfl h.symm
  |const v=>
   obtain⟨i1,i2⟩:=AE (l:=r) (by simpa only [subst] using h);exact⟨i1,λu hu hn=>(List.mem_cons.1 hu).elim (λh1=>by cases h1) λh1=>i2 u h1 hn⟩
  |global v=>
   obtain⟨i1,i2⟩:=AE (l:=r) (by simpa only [subst] using h);exact⟨i1,λu hu hn=>(List.mem_cons.1 hu).elim (λh1=>by cases h1) λh1=>i2 u h1 hn⟩
  |func v=>
   obtain⟨i1,i2⟩:=AE (l:=r) (by simpa only [subst] using h);exact⟨i1,λu hu hn=>(List.mem_cons.1 hu).elim (λh1=>by cases h1) λh1=>i2 u h1 hn⟩
theorem fF.Fy (h:fF pl ds cs env X w0 a w) {l:List Operand} (hs:subst pl cs l=some ss):
  ∀x,x∈l->a.eval x=aK.Fy env ss x:=by
 obtain⟨i1,i2⟩:=AE hs;intro x hx;cases x with
 |tmp t=>
  simp only[aK.Fy];cases hl:look ss t with
  |some e=>exact h.eval (i1 t e hl)
  |none=>exact h.eval (i2 t hx hl)
 |const v=>rfl
 |global g=>rfl
 |func f=>rfl
theorem acb (h:H9 op=true): ∀cs b,op≠ .select cs b:=by
 intro cs b e;subst e;cases h
theorem fF.exec (h:fF pl ds cs env X w0 a w) (hs:subst pl cs o.op.operands.toList=some ss) (hn:H9 o.op=true):
  execOp a.eval o=execOp (aK.Fy env ss) (Wg o.op o.type):=by
 rw[execOp_congr o (acb hn) λx hx=>h.Fy hs x gQ];rfl
theorem fF.step (h:fF pl ds cs env X w0 a w) (hx:Kp X' ey w') (hX: ∀k,X' k->k<w'.heap.size)
  (hb: ∀k,k<w.heap.size-> ¬X k->w'.heap[k]? =w.heap[k]? /\ ¬X' k):fF pl ds cs env X' ey a w' where
 size:=h.size
 defers:=h.defers
 Ai:=h.Ai
 ext:=hx
 xq:=hX
 qz:=h.qz
 sig:=h.sig
 box:=λb n hn cells hc=>by
  obtain⟨k,ty,h1,h2,h3,h4⟩:=h.box b n hn cells hc;obtain⟨e1,e2⟩:=hb k (Array.getElem?_eq_some_iff.1 h2).1 h4;exact⟨k,ty,h1,e1.trans h2,h3,e2⟩
 inj:=h.inj
 conv:=h.conv
 live:=h.live
 ptr:=h.ptr
def fF.js (h:fF pl ds cs env X w0 a w) (hx:Ext w w'):fF pl ds cs env X w0 a w':=
 h.step (h.ext.trans (hx.kp h.xq)) (λk hk=>aw (h.xq k hk) hx.size) λ_ hk hX=>⟨hx.block hk,hX⟩
theorem fF.My (h:fF pl ds cs env X w0 a w) (hs:Step m X w w'):fF pl ds cs env (grow X w w') w' a w':=
 h.step (Kp.refl _ _) (λk hk=>hk.elim (λhX=>aw (h.xq k hX) hs.fr.size) (·.2))
  λk hk hX=>⟨hs.fr.block k hk hX,λhg=>hg.elim hX λhg=>by omega⟩
theorem tQ (hs:look pl.boxes s=some n) (hd:look pl.boxes d=none):s≠d:=by grind
theorem fF.bind (h:fF pl ds cs env X w0 a w) (hd:pl.nu d=true) (v:Value) (qU: ∀p,p∈ds.pins->p.1≠d):
  fF pl ds (cs.bind pl d) (jO env d v) X w0 (a.put (some d) v) w:=by
 obtain⟨cD,lJ,tR⟩:=zC hd;have gh:d<a.tmps.size:=by rw[h.size];exact cD
 have ajh: ∀p,p∈(cs.kill d).sig->(a.put (some d) v).tmps[p.1]? =some (p.2.ev (jO env d v)):=by
  intro p hp;simp only[CS.kill,iA,aB,bne_iff_ne,ne_eq,de] at hp;rw[gq _ _ _ _ hp.2.1,Ws hp.2.2];exact h.sig p hp.1
 have alp: ∀p,p∈(cs.kill d).zJ->(∃n,look pl.boxes p.b=some n)/\(Dx (jO env d v) p.g->dI (jO env d v p.b)=true/\ ∃k,(a.put (some d) v).tmps[p.b]? =some (ez k 0)/\(a.put (some d) v).tmps[p.s]? =some (ez k p.off)):=by
  intro p hp;simp only[CS.kill,iA,aB,bne_iff_ne,ne_eq] at hp;obtain⟨hp0,⟨hb,hs⟩,hg⟩:=hp;obtain⟨e1,e2⟩:=h.ptr p hp0;refine⟨e1,λPN=>?_⟩;have apI:Dx env p.g:=by
   cases PO:p.g with
   |none=>trivial
   |some x=>
    obtain⟨g,want⟩:=x;rw[PO] at PN hg;simp only[Dx] at PN⊢
    rwa [iO _ _ gQ] at PN
  obtain⟨e3,k,e4,e5⟩:=e2 apI;rw[iO _ _ hb,gq _ _ _ _ hb,gq _ _ _ _ hs];exact⟨e3,k,e4,e5⟩
 have agJ: ∀p,p∈(cs.bind pl d).sig->(a.put (some d) v).tmps[p.1]? =some (p.2.ev (jO env d v)):=by
  intro p hp;simp only[CS.bind] at hp;split at hp
  ·exact ajh p hp
  ·rcases List.mem_cons.1 hp with rfl|hp
   ·simp[rq _ _ _ _ gh,Ex.ev,mA]
   ·exact ajh p hp
 have hpt:(cs.bind pl d).zJ=(cs.kill d).zJ:=by simp only[CS.bind];split<;>rfl
 have hlv:(cs.bind pl d).live=cs.live:=by simp only[CS.bind];split<;>rfl
 exact {
  size:=by simp[nq,h.size]
  defers:=h.defers
  Ai:=λp hp=>⟨by rw[gq _ _ _ _ (qU p hp)];exact(h.Ai p hp).1,(h.Ai p hp).2⟩
  ext:=h.ext
  xq:=h.xq
  qz:=λs hs=>by
   rw[rq _ _ _ _ gh];split
   ·rename_i e;subst e;rw[mA]
   ·rename_i e;rw[iO _ _ e];exact h.qz s hs
  sig:=agJ
  box:=λb n hn cells hc=>by
   have pG:=tQ hn lJ;rw[iO _ _ pG] at hc;rw[gq _ _ _ _ pG];exact h.box b n hn cells hc
  inj:=λb b' n n' hb dZ h1 h2 k h3 h4=>by
   have pG:=tQ hb lJ;have Kg:=tQ dZ lJ;rw[iO _ _ pG] at h1;rw[iO _ _ Kg] at h2;rw[gq _ _ _ _ pG] at h3;rw[gq _ _ _ _ Kg] at h4;exact h.inj b b' n n' hb dZ h1 h2 k h3 h4
  conv:=λb n hb k hk=>by
   have pG:=tQ hb lJ;rw[gq _ _ _ _ pG] at hk;rw[iO _ _ pG];exact h.conv b n hb k hk
  live:=λb hb=>by
   rw[hlv] at hb;obtain⟨⟨n,hn⟩,hl⟩:=h.live b hb;rw[iO _ _ (tQ hn lJ)];exact⟨⟨n,hn⟩,hl⟩
  ptr:=by rw[hpt];omega }
theorem fF.mf (h:fF pl ds cs env X w0 a w) (hn: ∀b,b∈nd->(∃n,look pl.boxes b=some n)/\dI (env b)=true):
  fF pl ds (cs.mf nd) env X w0 a w:=
 { h with live:=λb hb=>(List.mem_append.1 hb).elim (hn b) (h.live b) }
theorem fF.other (h:fF pl ds cs env X w0 a w) (cD:d<pl.n) (lJ:look pl.boxes d=none) (PQ:pl.j7 d=false) (v:Value) {pH:CS}
  (agJ: ∀p,p∈pH.sig->(a.put (some d) v).tmps[p.1]? =some (p.2.ev env)) (hlv:pH.live=cs.live)
  (alp: ∀p,p∈pH.zJ->(∃n,look pl.boxes p.b=some n)/\(Dx env p.g->dI (env p.b)=true/\ ∃k,(a.put (some d) v).tmps[p.b]? =some (ez k 0)/\(a.put (some d) v).tmps[p.s]? =some (ez k p.off))):
  fF pl ds pH env X w0 (a.put (some d) v) w where
 size:=by simp[nq,h.size]
 defers:=h.defers
 Ai:=λp hp=>by
  obtain⟨h1,h2⟩:=h.Ai p hp;refine⟨?_,h2⟩;have cA:p.1≠d:=λe=>by
   rcases h2 with⟨n,_,hn,_⟩|hg
   ·rw[e,lJ] at hn;cases hn
   ·rw[e,PQ] at hg;cases hg
  rw[gq _ _ _ _ cA];exact h1
 ext:=h.ext
 xq:=h.xq
 qz:=λs hs=>by
  rw[gq _ _ _ _ gQ];exact h.qz s hs
 sig:=agJ
 box:=λb n hn cells hc=>by
  rw[gq _ _ _ _ (tQ hn lJ)];exact h.box b n hn cells hc
 inj:=λb b' n n' hb dZ h1 h2 k h3 h4=>by
  rw[gq _ _ _ _ (tQ hb lJ)] at h3;rw[gq _ _ _ _ (tQ dZ lJ)] at h4;exact h.inj b b' n n' hb dZ h1 h2 k h3 h4
 conv:=λb n hb k hk=>by
  rw[gq _ _ _ _ (tQ hb lJ)] at hk;exact h.conv b n hb k hk
 live:=λb hb=>h.live b (hlv▸hb)
 ptr:=alp
theorem fF.note (h:fF pl ds cs env X w0 a w) (hd:pl.nu d=true) (PQ:pl.j7 d=false) (e:Ex):
  fF pl ds (cs.note d e) env X w0 (a.put (some d) (e.ev env)) w:=by
 obtain⟨cD,lJ,tR⟩:=zC hd;have gh:d<a.tmps.size:=by rw[h.size];exact cD
 refine h.other cD lJ PQ _ ?_ rfl ?_
 ·intro p hp;simp only[CS.note,ic,iA,bne_iff_ne,ne_eq] at hp;rcases hp with rfl|⟨hp,cA⟩
  ·simp[rq _ _ _ _ gh]
  ·rw[gq _ _ _ _ cA];exact h.sig p hp
 ·intro p hp;simp only[CS.note,iA,bne_iff_ne,ne_eq] at hp;obtain⟨⟨n,hn⟩,e2⟩:=h.ptr p hp.1;refine⟨⟨n,hn⟩,λhg=>?_⟩;obtain⟨e3,k,e4,e5⟩:=e2 hg;refine⟨e3,k,?_,?_⟩
  ·rw[gq _ _ _ _ (tQ hn lJ)];exact e4
  ·rw[gq _ _ _ _ hp.2];exact e5
theorem fF.rW (h:fF pl ds cs env X w0 a w) (hd:pl.nu d=true) (e:Ex)
  (hn:hU P iY next (aK.rW pl cs d e).1 env w0 X) (qU: ∀b,b∈ou (aK.rW pl cs d e).1-> ∀p,p∈ds.pins->p.1≠b): ∃dz,fF pl ds (aK.rW pl cs d e).2 dz X w0 (a.put (some d) (e.ev env)) w/\next dz w0 X:=by
 unfold aK.rW at hn qU⊢;split
 ·rename_i hg;rw[if_pos hg] at hn qU;exact⟨_,h.bind hd _ (qU d (by simp[ou,TI.J9])),hn⟩
 ·rename_i hg;rw[if_neg hg] at hn;have PQ:pl.j7 d=false:=by
   cases hx:pl.j7 d with
   |false=>rfl
   |true=>grind
  exact⟨env,h.note hd PQ e,hn⟩
theorem fF.derive (h:fF pl ds cs env X w0 a w) {b:Nat} {g:Option (Nat×Bool)} (cD:d<pl.n) (lJ:look pl.boxes d=none) (Oy:pl.Tk.contains d=true)
    (v:Value) (hb: ∃n,look pl.boxes b=some n) (hv:Dx env g->dI (env b)=true/\ ∃k,a.tmps[b]? =some (ez k 0)/\v=ez k off)
 :
    fF pl ds (cs.rV d b off g) env X w0 (a.put (some d) v) w:=by
  have gh:d<a.tmps.size:=by rw[h.size];exact cD
  have PQ:pl.j7 d=false:=by
    cases hx:pl.j7 d with
    |false=>rfl
    |true=>have:=(tp hx).2.2;grind
  refine h.other cD lJ PQ _ ?_ rfl ?_
  · intro p hp
    simp only[CS.rV,iA,bne_iff_ne,ne_eq] at hp;rw[gq _ _ _ _ hp.2];exact h.sig p hp.1
  · intro p hp
    rcases List.mem_cons.1 hp with rfl|hp
    · obtain⟨n,hn⟩:=hb
      refine⟨⟨n,hn⟩,λhg=>?_⟩;obtain⟨e1,k,e2,e3⟩:=hv hg;refine⟨e1,k,?_,?_⟩
      · rw[gq _ _ _ _ (tQ hn lJ)];exact e2
      · simp[rq _ _ _ _ gh,e3]
    · simp only[iA,bne_iff_ne,ne_eq] at hp
      obtain⟨⟨n,hn⟩,e2⟩:=h.ptr p hp.1;refine⟨⟨n,hn⟩,λhg=>?_⟩;obtain⟨e3,k,e4,e5⟩:=e2 hg;refine⟨e3,k,?_,?_⟩
      · rw[gq _ _ _ _ (tQ hn lJ)];exact e4
      · rw[gq _ _ _ _ hp.2];exact e5
theorem agK {p:Nat×Ex} (hp:p∈(cs.kill d).sig):p∈cs.sig/\p.1≠d/\p.2.Wf d=false:=by grind [CS.kill]
theorem agL {p:Ptr} (hp:p∈(cs.kill d).zJ):p∈cs.zJ/\p.b≠d/\p.s≠d/\(∀v,Dx (jO env d v) p.g->Dx env p.g):=by
 simp only[CS.kill,iA,aB,bne_iff_ne,ne_eq] at hp;obtain⟨hp0,⟨hb,hs⟩,hg⟩:=hp;refine⟨hp0,hb,hs,λv PN=>?_⟩;cases PO:p.g with
 |none=>trivial
 |some x=>
  grind [Dx,iO]
theorem fF.ae1 (h:fF pl ds cs env X w0 a w) (cD:d<pl.n) (hb:look pl.boxes d=some sz) (cells:Array Value) (gh:cells.size=sz) (ty:TypeId) (qU: ∀p,p∈ds.pins->p.1≠d):
  fF pl ds ((cs.kill d).mf [d]) (jO env d (.agg cells)) X w0 (a.put (some d) (ez w.heap.size 0)) (w.alloc (.cells cells ty)):=by
 have hd:d<a.tmps.size:=by rw[h.size];exact cD
 have hg:=h.js (Ext.alloc w (.cells cells ty));have fresh: ∀b n c,look pl.boxes b=some n->env b= .agg c->a.tmps[b]? ≠some (ez w.heap.size 0):=by
  intro b n c hn hc e;obtain⟨k,ty',h1,h2,_,_⟩:=h.box b n hn c hc;rw[h1] at e;have hk:k=w.heap.size:=by simpa [ez] using e
  subst hk;rw[pS (au _)] at h2;cases h2
 exact {
  size:=by simp[nq,h.size]
  defers:=h.defers
  Ai:=λp hp=>⟨by rw[gq _ _ _ _ (qU p hp)];exact(h.Ai p hp).1,(h.Ai p hp).2⟩
  ext:=hg.ext
  xq:=hg.xq
  qz:=λs hs=>by
   have cA:s≠d:=λe=>by subst e;have:=(tp hs).2.1;grind
   rw[gq _ _ _ _ cA,iO _ _ cA];exact h.qz s hs
  sig:=λp hp=>by
   obtain⟨h1,h2,h3⟩:=agK hp;rw[gq _ _ _ _ h2,Ws h3];exact h.sig p h1
  box:=λb n hn c hc=>by
   by_cases pG:b=d
   ·subst pG;rw[mA] at hc;injection hc with hc
    subst hc;rw[hb] at hn;injection hn with hn
    refine⟨w.heap.size,ty,by simp[rq _ _ _ _ hd],heap_alloc_new w _,by omega,λhX=>?_⟩;exact absurd (h.xq _ hX) zQ
   ·rw[iO _ _ pG] at hc;rw[gq _ _ _ _ pG];exact hg.box b n hn c hc
  inj:=λb b' n n' hn mr h1 h2 k h3 h4=>by
   obtain⟨c,hc⟩:=vX.1 h1;obtain⟨c',Cq⟩:=vX.1 h2;by_cases pG:b=d<;>by_cases Kg:b'=d
   ·omega
   ·subst pG;rw[rq _ _ _ _ hd,if_pos rfl] at h3;rw[gq _ _ _ _ Kg] at h4;rw[iO _ _ Kg] at Cq;rw[<-h3] at h4;exact absurd h4 (fresh b' n' c' mr Cq)
   ·subst Kg;rw[rq _ _ _ _ hd,if_pos rfl] at h4;rw[gq _ _ _ _ pG] at h3;rw[iO _ _ pG] at hc;rw[<-h4] at h3;exact absurd h3 (fresh b n c hn hc)
   ·rw[iO _ _ pG] at h1;rw[iO _ _ Kg] at h2;rw[gq _ _ _ _ pG] at h3;rw[gq _ _ _ _ Kg] at h4;exact h.inj b b' n n' hn mr h1 h2 k h3 h4
  conv:=λb n hn k hk=>by
   by_cases pG:b=d
   ·subst pG;rw[mA];rfl
   ·rw[gq _ _ _ _ pG] at hk;rw[iO _ _ pG];exact h.conv b n hn k hk
  live:=λb dZ=>by
   simp only[CS.mf,jT,cI,ic] at dZ;rcases dZ with rfl|dZ
   ·exact⟨⟨sz,hb⟩,by rw[mA];rfl⟩
   ·obtain⟨e1,e2⟩:=h.live b dZ;refine⟨e1,?_⟩;by_cases pG:b=d
    ·subst pG;rw[mA];rfl
    ·rw[iO _ _ pG];exact e2
  ptr:=λp hp=>by
   obtain⟨h1,h2,h3,h4⟩:=agL (env:=env) hp;obtain⟨e1,e2⟩:=h.ptr p h1;refine⟨e1,λPN=>?_⟩;obtain⟨e3,k,e4,e5⟩:=e2 (h4 _ PN);rw[iO _ _ h2,gq _ _ _ _ h2,gq _ _ _ _ h3];exact⟨e3,k,e4,e5⟩ }
theorem fF.store (h:fF pl ds cs env X w0 a w) {b:Nat} (hb:look pl.boxes b=some n) (hc:env b= .agg cells)
  (ht:a.tmps[b]? =some (ez k 0)) (hk:w.heap[k]? =some (.cells cells ty (0,0))) (hX: ¬X k) (gh:ze.size=n) (hw:Fr (· =k) w w') (ah:w'.heap[k]? =some (.cells ze ty (0,0))):
  fF pl ds (cs.Mw b) (jO env b (.agg ze)) X w0 a w':=by
 have hA:dI (env b)=true:=by rw[hc];rfl
 exact {
  size:=h.size
  defers:=h.defers
  Ai:=h.Ai
  ext:=h.ext.trans (hw.kp λj hj=>⟨h.xq j hj,λe=>by grind⟩)
  xq:=λj hj=>aw (h.xq j hj) hw.size
  qz:=λs hs=>by
   have cA:s≠b:=λe=>by subst e;have:=(tp hs).2.1;grind
   rw[iO _ _ cA];exact h.qz s hs
  sig:=λp hp=>by
   simp only[CS.Mw,iA,de] at hp;rw[Ws hp.2];exact h.sig p hp.1
  box:=λb' n' mr c Cq=>by
   by_cases pG:b'=b
   ·subst pG;rw[mA] at Cq;injection Cq with Cq
    subst Cq;rw[hb] at mr;injection mr with mr
    exact⟨k,ty,ht,ah,by omega,hX⟩
   ·rw[iO _ _ pG] at Cq;obtain⟨k2,Ny,h1,h2,h3,h4⟩:=h.box b' n' mr c Cq;have si:k2≠k:=λe=>by
     subst e;exact pG (h.inj b' b n' n mr hb gQ hA k2 h1 ht)
    exact⟨k2,Ny,h1,(hw.block k2 (Array.getElem?_eq_some_iff.1 h2).1 si).trans h2,h3,h4⟩
  inj:=λb1 b2 n1 n2 wI hn2 h1 h2 j h3 h4=>by
   have f: ∀b',dI (jO env b (.agg ze) b')=true->dI (env b')=true:=λb' hh=>by
    by_cases e:b'=b
    ·grind
    ·rwa [iO _ _ e] at hh
   exact h.inj b1 b2 n1 n2 wI hn2 (f b1 h1) (f b2 h2) j h3 h4
  conv:=λb' n' mr j hj=>by
   by_cases e:b'=b
   ·subst e;rw[mA];rfl
   ·rw[iO _ _ e];exact h.conv b' n' mr j hj
  live:=λb' dZ=>by
   obtain⟨e1,e2⟩:=h.live b' dZ;refine⟨e1,?_⟩;by_cases e:b'=b
   ·subst e;rw[mA];rfl
   ·rwa [iO _ _ e]
  ptr:=λp hp=>by
   obtain⟨e1,e2⟩:=h.ptr p hp;refine⟨e1,λhg=>?_⟩;have rA:Dx env p.g:=by
    cases PO:p.g with
    |none=>trivial
    |some x=>
     obtain⟨g,want⟩:=x;rw[PO] at hg;simp only[Dx] at hg⊢;by_cases e:g=b
     ·subst e;rw[mA] at hg;cases hg
     ·rwa [iO _ _ e] at hg
   obtain⟨e3,k2,e4,e5⟩:=e2 rA;refine⟨?_,k2,e4,e5⟩;by_cases e:p.b=b
   ·rw[e,mA];rfl
   ·rwa [iO _ _ e] }
variable {ag : Bool}
theorem zM (k o n:Nat):(⟨k,o,none⟩:Addr).add n=⟨k,o+n,none⟩:=by grind [Addr.add]
theorem Nz {S f fo:Nat} (h:fieldInfo P S f=some (fo,sz)) (hz:sz≠0) (k off:Nat) (w:World):
  (Instr.fieldAt S (ez k off) f).run P w= .ok (ez k (off+fo)) w:=by
 unfold fieldInfo at h;split at h
 ·rename_i fs hu;cases hf:fs[f]? with
  |none=>grind
  |some x=>
   cases hi:P.info? x.type with
   |none=>grind
   |some i=>
    simp only[hf,hi,cQ,aY,aj,cV] at h;obtain⟨h1,h2⟩:=h;subst h1 h2;simp[Instr.fieldAt,run_underlying hu,hf,oZ,ez,fieldPlace,sizeOf,typeInfo,hi,hz,zM]
 ·cases h
theorem Jk (h:w.heap[k]? =some (.cells cells ty (0,0))) (i:Nat):w.cell? ⟨k,i,none⟩=cells[i]? :=by
 simp[World.cell?,h]
theorem PR (h:kM P t=some (ag,sz)) (Wu:(ag||sz==1)=true)
  (hk:w.heap[k]? =some (.cells cells ty (0,0))) (off:Nat) (hl:off+sz<=cells.size):
  (ji t (ez k off)).run P w= .ok (if ag then yg (.agg cells) off sz else cellOf (.agg cells) off) w:=by
 unfold kM at h;split at h
 ·rename_i d i hu hi;simp only[aj,cV] at h;obtain⟨h1,h2⟩:=h;subst h2;have BP:(isAgg t).run P w= .ok ag w:=by
   subst h1;cases d<;>simp[isAgg,run_underlying hu]
  cases ag with
  |true=>
   have hc: ∀j v,((cells.toList.drop off).take i.size)[j]? =some v->w.cell? ((⟨k,off,none⟩:Addr).add j)=some v:=by
    intro j v hj;rw[zM,Jk hk];rw[List.getElem?_take] at hj;split at hj
    ·rw[List.getElem?_drop] at hj;simpa using hj
    ·cases hj
   have hlen:((cells.toList.drop off).take i.size).length=i.size:=by
    simp;omega
   have hr:=run_loadCells_list (P:=P) w ⟨k,off,none⟩ _ hc;rw[hlen] at hr;simp[ji,oZ,ez,loadVar,BP,sizeOf,typeInfo,hi,hr,yg,Value.cells]
  |false=>
   simp only[Bool.false_or,beq_iff_eq] at Wu;have cD:off<cells.size:=by omega
   have hc:w.cell? ⟨k,off,none⟩=some cells[off]:=by rw[Jk hk];simp[cD]
   simp[ji,oZ,ez,loadVar,BP,hc,cellOf,Value.cells,cD]
 ·cases h
theorem PS (v:Value):one v=v.oneCell':=by rfl
theorem sL (h:one v=true):v.cells= #[v]:=by cases v<;>first|rfl|cases h
theorem aaq (h:kM P t=some (ag,sz)):(P.info? t).map (·.size)=some sz:=by
 unfold kM at h
 grind
theorem NA (h:(P.info? t).map (·.size)=some sz)
  (hk:w.heap[k]? =some (.cells cells ty (0,0))) (off:Nat) (hl:off+sz<=cells.size) (v:Value) (hv:v.cells.size=sz) (h1:v.cells.toList.all one=true):
  (Instr.storeAt t (ez k off) v).run P w= .ok () (w.setRow k (bO cells.toList off v.cells.toList).toArray):=by
 cases hi:P.info? t with
 |none=>grind
 |some i=>
  simp only[hi,aY,aj] at h;have fN:=run_storeCells_at P k off ty v.cells.toList 0 cells w hk (by simpa [hv] using hl) (λx hx=>by
   have:=List.all_eq_true.1 h1 x hx;assumption)
  simp only[Nat.add_zero] at fN;simp[Instr.storeAt,oZ,ez,storeVar,sizeOf,typeInfo,hi,h,hv,fN,bO]
theorem ae2 (hk:w.heap[k]? =some (.cells cells ty (0,0))):
  Fr (· =k) w (w.setRow k ze)/\(w.setRow k ze).heap[k]? =some (.cells ze ty (0,0)):=by
 refine⟨⟨rfl,rfl,rfl,by simp[World.setRow],λj _ hj=>?_⟩,setRow_heap w k cells ze ty (0,0) hk⟩;simp only[World.setRow,Array.getElem?_modify]
 grind
theorem agM {l vs:List Value} (h:off+vs.length<=l.length):(bO l off vs).length=l.length:=by
 simp[bO];omega
variable {og : Option (Nat × Bool)} {r : CR}
theorem Kh: ∀{l:List Ptr} {t b off:Nat},G7 og l t=some (b,off)-> ∃p,p∈l/\p.s=t/\p.b=b/\p.off=off/\(p.g=none\/p.g=og)
 |[],_,_,_,h=>by cases h
 |p::r,t,b,off,h=>by
  simp only[G7] at h;split at h
  ·simp_all
  ·obtain⟨q,h1,h2⟩:=Kh h
   grind
theorem fF.wH (h:fF pl ds cs env X w0 a w) {x:Operand} {b:Nat} (hp:aK.wH pl cs og x=some (b,off,nd)):
  (∃n,look pl.boxes b=some n)/\(∀b',b'∈nd-> ∃n,look pl.boxes b'=some n)/\
  ((∀b',b'∈nd->dI (env b')=true)->Dx env og->dI (env b)=true/\ ∃k,a.eval x=ez k off/\a.tmps[b]? =some (ez k 0)):=by
 cases x with
 |tmp t=>
  simp only[aK.wH] at hp;split at hp
  ·rename_i n hn;simp only[aj,cV] at hp;obtain⟨rfl,rfl,tR⟩:=hp;refine⟨⟨n,hn⟩,λb' dZ=>?_,λhl _=>?_⟩
   ·grind
   ·have hA:dI (env t)=true:=by
     split at tR
     ·rename_i hc;exact(h.live t gQ).2
     ·grind
    obtain⟨c,hc⟩:=vX.1 hA;obtain⟨k,ty,h1,_⟩:=h.box t n hn c hc;exact⟨hA,k,by simp[xn,h1],h1⟩
  ·split at hp
   ·cases hf:G7 og cs.zJ t with
    |none=>grind
    |some q=>
     obtain⟨b',aso⟩:=q;simp only[hf,aY,aj,cV] at hp;obtain⟨rfl,rfl,rfl⟩:=hp;obtain⟨p,hp,hs,hb,ho,hg⟩:=Kh hf;obtain⟨e1,e2⟩:=h.ptr p hp;subst hs hb ho;refine⟨e1,λ_ dZ=>(by cases dZ),λ_ PN=>?_⟩;obtain⟨e3,k,e4,e5⟩:=e2 (hg.elim (λhg=>by simp[hg,Dx]) (λhg=>by grind));exact⟨e3,k,by simp[xn,e5],e4⟩
   ·cases hp
 |const v=>cases hp
 |global g=>cases hp
 |func f=>cases hp
theorem Ki: ∀(nd:List Nat) {l:List TI},
  hU P iY next (nd.map .zI++l) env w X->(∀b,b∈nd->dI (env b)=true)/\hU P iY next l env w X
 |[],_,h=>⟨λ_ hb=>(by cases hb),h⟩
 |b::nd,l,h=>by
  obtain⟨h1,h2⟩:dI (env b)=true/\hU P iY next (nd.map .zI++l) env w X:=by simpa only [List.map_cons,jT,hU,Wk,dO] using h
  obtain⟨h3,h4⟩:=Ki nd h2;refine⟨λb' dZ=>?_,h4⟩;rcases List.mem_cons.1 dZ with rfl|dZ
  ·exact h1
  ·exact h3 b' dZ
theorem Cc: ∀(l l':List TI),hU P iY next (l++l')=hU P iY (hU P iY next l') l
 |[],_=>rfl
 |i::l,l'=>by
  funext env w X
  simp only[jT,hU,Cc l l']
inductive Shape (P:Program) (pl:gx) (cs:CS) (og:Option (Nat×Bool)) (m:Bool) (o:Oper):CR->Prop
 |mv (x:Operand) (d:Nat) (e:Ex) (ho:o.op= .move x\/o.op= .assign x) (hd:o.dst=some d) (hv:valOf pl cs x=some e) (hp:pl.nu d=true):
   Shape P pl cs og m o ⟨true,[],(rW pl cs d e).1,(rW pl cs d e).2,[],[]⟩
 |ld (t:TypeId) (x:Operand) (d b off:Nat) (nd:List Nat) (ag:Bool) (sz bs:Nat) (ho:o.op= .load t x) (hd:o.dst=some d) (hx:aK.wH pl cs og x=some (b,off,nd))
   (ht:kM P t=some (ag,sz)) (hb:look pl.boxes b=some bs) (hp:pl.nu d=true) (hl:off+sz<=bs) (ha:(ag||sz==1)=true):
   Shape P pl cs og m o ⟨true,nd,(rW pl (cs.mf nd) d (if ag then .s b off sz else .k b off)).1,(rW pl (cs.mf nd) d (if ag then .s b off sz else .k b off)).2,[b],[]⟩
 |fa (S:TypeId) (x:Operand) (f d b off:Nat) (nd:List Nat) (fo sz:Nat) (ho:o.op= .fieldAddr S x f) (hd:o.dst=some d) (hx:aK.wH pl cs og x=some (b,off,nd))
   (hf:fieldInfo P S f=some (fo,sz)) (Oy:pl.Tk.contains d=true) (cD:d<pl.n) (lJ:look pl.boxes d=none) (hz:sz≠0):
   Shape P pl cs og m o ⟨true,nd,[],(cs.mf nd).rV d b (off+fo) og,[],[]⟩
 |rd (d:Nat) (ss:List (Nat×Ex)) (hd:o.dst=some d) (hs:subst pl cs o.op.operands.toList=some ss) (hn:H9 o.op=true) (hp:pl.nu d=true):
   Shape P pl cs og m o ⟨true,[],[.rd d o.op o.type ss],cs.bind pl d,[],[]⟩
 |Dw (d:Nat) (ss:List (Nat×Ex)) (hd:o.dst=some d) (hs:subst pl cs o.op.operands.toList=some ss) (hn:H9 o.op=true) (hp:pl.nu d=true):
   Shape P pl cs og m o ⟨false,[],[.Dw (some d) o.op o.type ss m],cs.bind pl d,[],[]⟩
 |act (ss:List (Nat×Ex)) (hd:o.dst=none) (hs:subst pl cs o.op.operands.toList=some ss) (hn:H9 o.op=true):
   Shape P pl cs og m o ⟨false,[],[.Dw none o.op o.type ss m],cs,[],[]⟩
 |bx (t:TypeId) (x:Operand) (d sz:Nat) (e:Ex) (ag:Bool) (ho:o.op= .box t x) (hd:o.dst=some d) (hb:look pl.boxes d=some sz) (hv:valOf pl cs x=some e) (ht:kM P t=some (ag,sz)) (cD:d<pl.n):
   Shape P pl cs og m o ⟨false,[],[if !ag&&sz==1 then .BM d e else .box d sz e],(cs.kill d).mf [d],[],[]⟩
 |al (t:TypeId) (d sz:Nat) (i:TypeInfo) (z:Value) (ag:Bool) (ho:o.op= .alloc t) (hd:o.dst=some d) (hb:look pl.boxes d=some sz) (hi:P.info? t=some i) (hz:i.zero=some z) (ht:kM P t=some (ag,sz)) (cD:d<pl.n):
   Shape P pl cs og m o ⟨false,[],[if !ag&&sz==1 then .BM d (.c z)else .box d sz (.c z)],(cs.kill d).mf [d],[],[]⟩
 |st (t:TypeId) (x v:Operand) (b off:Nat) (nd:List Nat) (sz bs:Nat) (e:Ex) (ag:Bool) (ho:o.op= .store t x v) (hd:o.dst=none) (hx:aK.wH pl cs og x=some (b,off,nd))
   (hv:valOf pl cs v=some e) (ht:kM P t=some (ag,sz)) (hb:look pl.boxes b=some bs) (hl:off+sz<=bs):
   Shape P pl cs og m o ⟨false,nd,[if !ag&&sz==1 then .Wh b off e else if off==0&&sz==bs then .fill b sz e else .put b off sz e],(cs.mf nd).Mw b,[],[b]⟩
theorem yj (h:FA P pl cs m o=some r):Shape P pl cs og m o r:=by
 unfold FA at h;split at h
 ·cases h
 ·rename_i ss hs;split at h
  ·cases h
  ·rename_i hn;simp only[de,Af] at hn;split at h
   ·rename_i d hd;split at h
    ·cases h
    ·rename_i hp;simp only[de,Af] at hp;split at h<;>injection h with h<;>subst h
     ·exact .rd d ss hd hs hn hp
     ·exact .Dw d ss hd hs hn hp
   ·rename_i hd;injection h with h
    subst h;exact .act ss hd hs hn
theorem Tp (h:Wm P pl cs sz t e d=some r)
  (k: ∀ag,d<pl.n->kM P t=some (ag,sz)->Shape P pl cs og m o ⟨false,[],[if !ag&&sz==1 then .BM d e else .box d sz e],(cs.kill d).mf [d],[],[]⟩):Shape P pl cs og m o r:=by
 unfold Wm at h;split at h
 ·rename_i ag s ht;split at h
  ·grind
  ·cases h
 ·cases h
theorem tq (h:DK P pl cs og m o=some r):Shape P pl cs og m o r:=by
 unfold DK at h;split at h;case h_1 x ho=>
  split at h
  ·rename_i d e hd hv;split at h
   ·rename_i hp;injection h with h
    subst h;exact .mv x d e (.inl ho) hd hv hp
   ·cases h
  ·cases h
 case h_2 x ho=>
  split at h
  ·rename_i d e hd hv;split at h
   ·rename_i hp;injection h with h
    subst h;exact .mv x d e (.inr ho) hd hv hp
   ·cases h
  ·cases h
 case h_3 t x ho=>
  split at h
  ·rename_i d hd;split at h
   ·rename_i sz hb;split at h
    ·rename_i e hv;exact Tp h λag cD ht=>.bx t x d sz e ag ho hd hb hv ht cD
    ·cases h
   ·exact yj h
  ·cases h
 case h_4 t ho=>
  split at h
  ·rename_i d hd;split at h
   ·rename_i sz hb;split at h
    ·rename_i z hz;cases hi:P.info? t with
     |none=>grind
     |some i=>
      simp only[hi,cQ] at hz;exact Tp h λag cD ht=>.al t d sz i z ag ho hd hb hi hz ht cD
    ·cases h
   ·exact yj h
  ·cases h
 case h_5 S x f ho=>
  split at h
  ·rename_i b off nd hx;split at h
   ·rename_i d fo sz hd hf;split at h
    ·rename_i hc;simp only[aB,decide_eq_true_eq,nR,bne_iff_ne,ne_eq] at hc;injection h with h
     subst h;exact .fa S x f d b off nd fo sz ho hd hx hf hc.1.1.1 hc.1.1.2 hc.1.2 hc.2
    ·cases h
   ·cases h
  ·exact yj h
 case h_6 t x ho=>
  split at h
  ·rename_i b off nd hx;split at h
   ·rename_i d ag sz bs hd ht hb;split at h
    ·rename_i hc;simp only[aB,decide_eq_true_eq] at hc;injection h with h
     subst h;exact .ld t x d b off nd ag sz bs ho hd hx ht hb hc.1.1 hc.1.2 hc.2
    ·cases h
   ·cases h
  ·exact yj h
 case h_7 t x v ho=>
  split at h
  ·rename_i b off nd hx;split at h
   ·rename_i e ag sz bs hd hv ht hb;split at h
    ·rename_i hc;simp only[decide_eq_true_eq] at hc;injection h with h
     subst h;exact .st t x v b off nd sz bs e ag ho hd hx hv ht hb hc
    ·cases h
   ·cases h
  ·exact yj h
 grind [yj]
theorem fF.zb (h:fF pl ds cs env X w0 a w) {RB:List Nat} (hz:ZB pl RB a k): ¬X k:=by
 obtain⟨b,n,hb,_,ht⟩:=hz;obtain⟨c,hc⟩:=vX.1 (h.conv b n hb k ht);obtain⟨k',ty,e1,_,_,e4⟩:=h.box b n hb c hc;rw[ht] at e1;have:k'=k:=by simpa [ez] using e1.symm
 grind
def fF.kp0 (h:fF pl ds cs env X w0 a w) {RB:List Nat} (hx:Fr (ZB pl RB a) w w'):Kp X w0 w':=
 h.ext.trans (hx.kp λk hk=>⟨h.xq k hk,λhz=>h.zb hz hk⟩)
theorem fF.fc (h:fF pl ds cs env X w0 a w) {b:Nat} (hb:look pl.boxes b=some n) (ht:a.tmps[b]? =some (ez k 0)):k<w.heap.size/\ ¬X k:=by
 obtain⟨c,hc⟩:=vX.1 (h.conv b n hb k ht);obtain⟨k',ty,e1,e2,_,e4⟩:=h.box b n hb c hc;rw[ht] at e1;have:k'=k:=by simpa [ez] using e1.symm
 grind
def fF.agN (h:fF pl ds cs env X w0 a w) (hx:Fr X w w'):zK pl sb a w w':=
 λ_ _ _ hb _ hk=>hx.block _ (h.fc hb hk).1 (h.fc hb hk).2
theorem rz.eP (hx:Ext w w') (hz: ∀b n,look pl.boxes b=some n-> ∀k,k<w.heap.size->a'.tmps[b]? =some (ez k 0)->a.tmps[b]? =some (ez k 0)):rz pl sb a w a' w':=
 λ_ _=>⟨hx.fr _,λk hk ⟨b,n,h1,h2,h3⟩=>⟨b,n,h1,h2,hz b n h1 k hk h3⟩⟩
theorem rz.agO {d:Option Nat} (hx:Ext w w') (hd: ∀x,d=some x->look pl.boxes x=none):rz pl sb a w (a.put d v) w':=by
 refine rz.eP hx λb n hb k _ hk=>?_;cases d with
 |none=>exact hk
 |some x=>rwa [gq _ _ _ _ (tQ hb (hd x rfl))] at hk
theorem rz.sub (h:rz pl sb a w a' w') (hs: ∀b,b∈sb->b∈sb'):rz pl sb' a w a' w':=
 λRB Ka=>h RB λb hb=>Ka b (hs b hb)
theorem Tq (hs:Shape P pl cs og m o r) (iQ:r.fl=true): ∀x,o.dst=some x->look pl.boxes x=none:=by
 have f: ∀{d:Nat},o.dst=some d->pl.nu d=true-> ∀x,o.dst=some x->look pl.boxes x=none:=λhd hp x hx=>by
  rw[hd] at hx;injection hx with hx;subst hx;exact(zC hp).2.1
 cases hs with
 |mv x d e ho hd hv hp=>grind
 |ld t x d b off nd ag sz bs ho hd hx ht hb hp hl ha=>grind
 |fa S x g d b off nd fo sz ho hd hx hf Oy cD lJ hz=>grind
 |rd d ss hd hs hn hp=>grind
 |Dw=>cases iQ
 |act=>cases iQ
 |bx=>cases iQ
 |al=>cases iQ
 |st=>cases iQ
theorem Tr (hs:Shape P pl cs og m o r) (h:fF pl ds cs env X w0 a w) (hg:Dx env og)
  (hl: ∀b,b∈r.nd->dI (env b)=true) (iQ:r.fl=true) (hd:hU P iY next r.l env w0 X) (qU: ∀b,b∈ou r.l-> ∀p,p∈ds.pins->p.1≠b):
  ∃v dz,((∀wa,Fr (ZB pl r.rb a) w wa->(execOp a.eval o).run P wa= .ok (.value v) wa)/\
   ∀b,b∈r.rb-> ∃k n,look pl.boxes b=some n/\a.tmps[b]? =some (ez k 0)/\ ∀wa:World,wa.heap[k]? =w.heap[k]? ->(execOp a.eval o).run P wa= .ok (.value v) wa)/\fF pl ds r.cs dz X w0 (a.put o.dst v) w/\next dz w0 X:=by
 cases hs with
 |mv x d e ho kq hv hp=>
  obtain⟨dz,h1,h2⟩:=h.rW hp e hd qU;refine⟨e.ev env,dz,⟨λwa _=>?_,λ_ hb=>by cases hb⟩,by grind,h2⟩;have he:=h.eval hv;rcases ho with ho|ho<;>simp[execOp,ho,he]
 |ld t x d b off nd ag sz bs ho kq hx ht hb hp cD ha=>
  obtain⟨⟨n,hn⟩,tR,hk⟩:=h.wH hx;obtain⟨hA,k,he,ix⟩:=hk hl hg;obtain⟨cells,hc⟩:=vX.1 hA;obtain⟨k',ty,e1,e2,e3,_⟩:=h.box b n hn cells hc;have si:k'=k:=by rw[ix] at e1;simpa [ez] using e1.symm
  subst si;have hbn:bs=n:=by rw[hb] at hn;injection hn
  subst hbn;have h':=h.mf (nd:=nd) λb' dZ=>⟨tR b' dZ,hl b' dZ⟩;obtain⟨dz,h1,h2⟩:=h'.rW hp _ hd qU;have Ts:(if ag then Ex.s b off sz else Ex.k b off).ev env=if ag then yg (.agg cells) off sz else cellOf (.agg cells) off:=by
   cases ag<;>simp[Ex.ev,hc]
  have nU: ∀wa:World,wa.heap[k']? =w.heap[k']? ->(execOp a.eval o).run P wa= .ok (.value ((if ag then Ex.s b off sz else Ex.k b off).ev env)) wa:=by
   intro wa G9;have e2':wa.heap[k']? =some (.cells cells ty (0,0)):=G9.trans e2;have:=PR ht ha e2' off zQ;rw[Ts];simp[execOp,ho,he,this]
  refine⟨_,dz,⟨λwa G9=>nU wa ?_,λb' dZ=>?_⟩,by rw[kq];exact h1,h2⟩
  rotate_left
  ·have:=List.mem_singleton.1 dZ;subst this;exact⟨k',bs,hn,ix,nU⟩
  have e2':wa.heap[k']? =some (.cells cells ty (0,0)):=by
   rw[G9.block k' (Array.getElem?_eq_some_iff.1 e2).1 ?_]
   ·exact e2
   ·rintro⟨b2,n2,g1,g2,g3⟩;exact g2 (List.mem_singleton.2 (h.inj b2 b n2 bs g1 hn (h.conv b2 n2 g1 k' g3) hA k' g3 ix))
  rw[e2',e2]
 |fa S x f d b off nd fo sz ho kq hx hf Oy cD lJ hz=>
  obtain⟨⟨n,hn⟩,tR,hk⟩:=h.wH hx;obtain⟨hA,k,he,ix⟩:=hk hl hg;have h':=h.mf (nd:=nd) λb' dZ=>⟨tR b' dZ,hl b' dZ⟩;refine⟨ez k (off+fo),env,⟨λwa _=>?_,λ_ hb=>by cases hb⟩,?_,hd⟩
  ·have:=Nz hf hz k off wa;simp[execOp,ho,he,this]
  ·rw[kq];exact h'.derive cD lJ Oy _ ⟨n,hn⟩ λ_=>⟨hA,k,ix,rfl⟩
 |rd d ss kq NB hn hp=>
  obtain⟨v,h1,h2⟩:=hd;refine⟨v,_,⟨λwa G9=>?_,λ_ hb=>by cases hb⟩,by rw[kq];exact h.bind hp v (qU d (by simp[ou,TI.J9])),h2⟩;rw[h.exec NB hn,<-aeX _ (λ_=>rfl)];exact h1 wa (h.kp0 G9)
 |Dw=>cases iQ
 |act=>cases iQ
 |bx=>cases iQ
 |al=>cases iQ
 |st=>cases iQ
def zD (pl:gx) (ds:Bk) (env:Env) (X:XS) (a:Act) (w:World):Prop:=
 (∀k,X k->k<w.heap.size)/\ ∀p,p∈ds.pins->a.tmps[p.1]? =some p.2/\(pl.j7 p.1=true\/ ∃n k cells ty,p.2=ez k 0/\look pl.boxes p.1=some n/\env p.1= .agg cells/\w.heap[k]? =some (.cells cells ty (0,0))/\cells.size=n/\ ¬X k)
theorem fF.pinned (h:fF pl ds cs env X w0 a w):zD pl ds env X a w:=⟨h.xq,λp hp=>by
 obtain⟨ht,⟨n,k,hn,hk⟩|hg⟩:=h.Ai p hp
 ·refine⟨ht,.inr ?_⟩;rw[hk] at ht;obtain⟨cells,hc⟩:=vX.1 (h.conv p.1 n hn _ ht);obtain⟨k',ty,e1,e2,e3,e4⟩:=h.box p.1 n hn cells hc;rw[ht] at e1;have:k=k':=by simpa [ez] using e1
  subst this;exact⟨n,k,cells,ty,hk,hn,hc,e2,e3,e4⟩
 grind⟩
theorem zD.put {d:Option Nat} (h:zD pl ds env X (a.put d v) w) (hd: ∀x,d=some x-> ∀p,p∈ds.pins->p.1≠x):zD pl ds env X a w:=⟨h.1,λp hp=>by
 obtain⟨h1,h2⟩:=h.2 p hp;refine⟨?_,h2⟩;cases d with
 |none=>exact h1
 |some x=>rwa [gq _ _ _ _ (hd x rfl p hp)] at h1⟩
theorem PT (hs:Shape P pl cs og m o r) (iQ:r.fl=true): ∀x,o.dst=some x->pl.j7 x=true->x∈ou r.l:=by
 have f: ∀{NC:CS} {d:Nat} {e:Ex},o.dst=some d-> ∀x,o.dst=some x->pl.j7 x=true->x∈ou (rW pl NC d e).1:=λhd x hx hg=>by
  rw[hd] at hx;injection hx with hx;subst hx
  unfold rW;rw[if_pos (by simp[hg])];simp[ou,TI.J9]
 cases hs with
 |mv x d e ho hd hv hp=>exact f hd
 |ld t x d b off nd ag sz bs ho hd hx ht hb hp hl ha=>exact f hd
 |fa S x g d b off nd fo sz ho hd hx hf Oy cD lJ hz=>
  intro y hy hg;rw[hd] at hy;injection hy with hy;subst hy
  have:=(tp hg).2.2
  grind
 |rd d ss hd hs hn hp=>intro y hy _;rw[hd] at hy;injection hy with hy;subst hy;simp[ou,TI.J9]
 |Dw=>cases iQ
 |act=>cases iQ
 |bx=>cases iQ
 |al=>cases iQ
 |st=>cases iQ
theorem Tt (hs:Shape P pl cs og m o r) (h:fF pl ds cs env X w0 a w) (hg:Dx env og)
  (hl: ∀b,b∈r.nd->dI (env b)=true) (iQ:r.fl=false) (hd:hU P iY next r.l env w0 X)

  (hK: ∀a' w' dz X' ey,fF pl ds r.cs dz X' ey a' w'->next dz ey X'->zL (m=false) pl r.sb a w a' w'->K a' w')
  (qU: ∀b,b∈ou r.l-> ∀p,p∈ds.pins->p.1≠b)
  (hQ: ∀ch w' dz X' ey,Kp X' ey w'->zD pl ds dz X' a w'->iY ch dz ey X'->Q (.panic ch) a w'):o.wp P a w K Q:=by
 have real: ∀(pH:CS) (ss:List (Nat×Ex)),(∀x,o.dst=some x->look pl.boxes x=none)->subst pl cs o.op.operands.toList=some ss->H9 o.op=true->
   (∀m' w' v,Step m' X w w'->fF pl ds pH (J8 env o.dst v) (grow X w w') w' (a.put o.dst v) w')->r.cs=pH->
   (∀wa,Kp X w0 wa->jA P m X wa (λv w' X'=>next (J8 env o.dst v) w' X') (λch w' X'=>iY ch env w' X') ((PJ (Fy env ss) o.op o.type).run P wa))->o.wp P a w K Q:=by
  intro pH ss Jl NB hn hS jm he;have he:=he w h.ext;unfold tn;rw[h.exec NB hn,<-aeX _ (λ_=>rfl)];have fN: ∀w' v,Step m X w w'->zL (m=false) pl r.sb a w (a.put o.dst v) w':=λw' v hs=>⟨λhm=>by subst hm;exact rz.agO hs Jl,h.agN hs.fr⟩;cases hr:(PJ (Fy env ss) o.op o.type).run P w with
  |ok n w'=>
   rw[hr] at he;cases n<;>simp only[jA] at he<;>simp only[nL]
   case value v=>exact hK _ _ _ _ _ (jm▸hS m w' v he.1) he.2 (fN _ _ he.1)
   case skip=>exact hK _ _ _ _ _ (jm▸hS m w' undef he.1) he.2 (fN _ _ he.1)
   case enter f args=>
    obtain⟨rfl,hc⟩:=he;refine hc.mono λe mq hR=>?_;cases e with
    |returned v=>exact hK _ _ _ _ _ (jm▸hS m mq v hR.1) hR.2 (fN _ _ hR.1)
    |panicked ch=>exact hQ _ _ _ _ _ (Kp.refl _ _) (h.My hR.1).pinned hR.2
    |outgrown=>exact hR.elim
  |halt x w'=>
   rw[hr] at he;cases x<;>simp only[jA] at he<;>simp only[nL]
   case panic v=>exact hQ _ _ _ _ _ (Kp.refl _ _) (h.My he.1).pinned he.2
 have boxed: ∀{d sz:Nat} {e:Ex} {ag:Bool},hU P iY next [if !ag&&sz==1 then .BM d e else .box d sz e] env w0 X->
   (e.ev env).cells.size=sz/\next (jO env d (.agg (e.ev env).cells)) w0 X:=by
  intro d sz e ag hd;simp only[hU] at hd;split at hd
  ·rename_i sM;simp only[aB,de,beq_iff_eq] at sM;obtain⟨g1,g2⟩:=dO.1 hd;rw[sL g1];exact⟨by simp[sM.2],g2⟩
  ·obtain⟨g1,g2⟩:=dO.1 hd;exact⟨by simpa using g1,g2⟩
 have Ic: ∀(t d:Nat) (_:d<pl.n) (cells:Array Value),rz pl [] a w (a.put (some d) (ez w.heap.size 0)) (w.alloc (.cells cells t)):=by
  intro t d cD cells;refine rz.eP (Ext.alloc _ _) λb n Wv k hk si=>?_;by_cases e:b=d
  ·subst e;rw[rq _ _ _ _ (by rw[h.size];omega),if_pos rfl] at si;have:w.heap.size=k:=by simpa [ez] using si
   omega
  ·rwa [gq _ _ _ _ e] at si
 cases hs with
 |mv=>cases iQ
 |ld=>cases iQ
 |fa=>cases iQ
 |rd=>cases iQ
 |Dw d ss kq NB hn hp=>
  refine real (cs.bind pl d) ss (λx hx=>by rw[kq] at hx;injection hx with hx;subst hx;exact(zC hp).2.1) NB hn (λm' w' v fN=>?_) rfl ?_
  ·rw[kq];exact(h.My fN).bind hp v (qU d (by simp[ou,TI.J9]))
  ·intro wa G9;have:=hd wa G9;rw[kq];exact this
 |act ss kq NB hn=>
  refine real cs ss (λx hx=>by rw[kq] at hx;cases hx) NB hn (λm' w' v fN=>?_) rfl ?_
  ·rw[kq];exact h.My fN
  ·intro wa G9;have:=hd wa G9;rw[kq];exact this
 |bx t x d sz e ag ho kq hb hv ht cD=>
  have he:=h.eval hv;obtain⟨h1,h2⟩:=boxed hd;have hr:(execOp a.eval o).run P w= .ok (.value (ez w.heap.size 0)) (w.alloc (.cells (e.ev env).cells t)):=by
   simp[execOp,ho,he,Instr.box,newVar,newRow,ez]
  unfold tn;rw[hr];simp only[nL];rw[kq];exact hK _ _ _ _ _ (h.ae1 cD hb (e.ev env).cells h1 t (qU d (by split<;>simp[ou,TI.J9]))) h2 ⟨λ_=>Ic t d cD _,h.agN ((Ext.alloc _ _).fr X)⟩
 |al t d sz i z ag ho kq hb hi hz ht cD=>
  obtain⟨h1,h2⟩:=boxed hd;have hr:(execOp a.eval o).run P w= .ok (.value (ez w.heap.size 0)) (w.alloc (.cells z.cells t)):=by
   simp[execOp,ho,Instr.alloc,zeroValue,typeInfo,hi,hz,newVar,newRow,ez]
  unfold tn;rw[hr];simp only[nL];rw[kq];exact hK _ _ _ _ _ (h.ae1 cD hb z.cells h1 t (qU d (by split<;>simp[ou,TI.J9]))) h2 ⟨λ_=>Ic t d cD _,h.agN ((Ext.alloc _ _).fr X)⟩
 |st t x v b off nd sz bs e ag ho kq hx hv ht hb cD=>
  obtain⟨⟨n,hn⟩,tR,hk⟩:=h.wH hx;obtain⟨hA,k,he,ix⟩:=hk hl hg;obtain⟨cells,hc⟩:=vX.1 hA;obtain⟨k',ty,e1,e2,e3,e4⟩:=h.box b n hn cells hc;have si:k'=k:=by rw[ix] at e1;simpa [ez] using e1.symm
  subst si;have hbn:bs=n:=by rw[hb] at hn;injection hn
  subst hbn;obtain⟨h1,h2,h3⟩:(e.ev env).cells.size=sz/\(e.ev env).cells.toList.all one=true/\next (jO env b (.agg (bO (env b).cells.toList off (e.ev env).cells.toList).toArray)) w0 X:=by
   simp only[hU] at hd;split at hd
   ·rename_i sM;simp only[aB,de,beq_iff_eq] at sM;obtain⟨g1,g2⟩:=dO.1 hd;rw[sL g1];exact⟨by simp[sM.2],by simp[g1],g2⟩
   ·split at hd
    ·rename_i sM;simp only[aB,beq_iff_eq] at sM;obtain⟨g1,hd⟩:=dO.1 hd;obtain⟨g2,g3⟩:=dO.1 hd;have g1:(e.ev env).cells.size=sz:=by simpa using g1
     refine⟨g1,g2,?_⟩;have aoe:bO (env b).cells.toList off (e.ev env).cells.toList=(e.ev env).cells.toList:=by
      unfold bO;rw[hc,sM.1];have hz:cells.size<=(e.ev env).cells.size:=by omega
      show List.take 0 cells.toList++(e.ev env).cells.toList++List.drop (0+(e.ev env).cells.toList.length) cells.toList=(e.ev env).cells.toList
      rw[List.take_zero,cI,List.drop_eq_nil_of_le (by simpa using hz),List.append_nil]
     rw[aoe];omega
    ·obtain⟨g1,hd⟩:=dO.1 hd;obtain⟨g2,g3⟩:=dO.1 hd;exact⟨by simpa using g1,g2,g3⟩
  have h':=h.mf (nd:=nd) λb' dZ=>⟨tR b' dZ,hl b' dZ⟩;have fN:=NA (aaq ht) e2 off zQ (e.ev env) h1 h2;have hr:(execOp a.eval o).run P w= .ok .skip (w.setRow k' (bO cells.toList off (e.ev env).cells.toList).toArray):=by
   simp[execOp,ho,he,(h.eval hv),fN]
  unfold tn;rw[hr];simp only[nL];rw[kq];obtain⟨f1,f2⟩:=ae2 (ze:=(bO cells.toList off (e.ev env).cells.toList).toArray) e2;have gh:((bO cells.toList off (e.ev env).cells.toList).toArray).size=bs:=by
   simp only[List.size_toArray];rw[agM oQ];simpa using e3
  rw[hc] at h3;refine hK _ _ _ _ _ (h'.store hb hc ix e2 e4 gh f1 f2) h3 ⟨λ_ RB Ka=>
   ⟨f1.mono λj hj=>⟨b,bs,hb,Ka b (List.mem_singleton.2 rfl),by rw[hj];omega⟩,λ_ _ hz=>hz⟩,λb2 n2 k2 g1 g2 g3=>f1.block k2 (h.fc g1 g3).1 λhj=>?_⟩
  have hj:k2=k':=hj;subst hj;exact g2 (List.mem_singleton.2 (h.inj b2 b n2 bs g1 hn (h.conv b2 n2 g1 _ g3) hA _ g3 ix))
variable {r0 : CR} {want : Bool} {d' g : Nat}
theorem PU (gW:qh g want op r0=some r) (hy:oe (env g) want=true) (hd:hU P iY next r.l env w0 X):
  hU P iY next r0.l env w0 X:=by
 obtain⟨fl,nd,l,c,rb,sb⟩:=r0;unfold qh at gW;dsimp only at gW;split at gW
 ·grind
 ·split at gW
  ·cases gW
  ·injection gW with e;subst e
   simpa only [hU,Wk,hy,if_true] using hd
 ·split at gW
  ·cases gW
  ·injection gW with e;subst e
   obtain⟨v,h1,_,h2⟩:=hd;exact⟨v,h1 hy,h2⟩
 ·split at gW
  ·cases gW
  ·injection gW with e;subst e
   exact hd.1 hy
 ·cases gW
theorem Cd (gW:qh g want op r0=some r):r.cs=r0.cs/\r.nd=r0.nd/\r.fl=r0.fl/\r.rb=r0.rb/\r.sb=r0.sb:=by
 obtain⟨fl,nd,l,c,rb,sb⟩:=r0;unfold qh at gW;dsimp only at gW;split at gW<;>grind<;>grind
theorem Kj (gW:qh g want op r0=some r):ou r.l=ou r0.l:=by
 obtain⟨fl,nd,l,c,rb,sb⟩:=r0;unfold qh at gW;dsimp only at gW;split at gW<;>(try split at gW)<;>first
  |(cases gW;done)
  |(injection gW with e;subst e;rfl)
theorem agP (nd:List Nat):ou (nd.map .zI)=[]:=by
 induction nd with
 |nil=>rfl
 |cons b nd ih=>assumption
theorem AF (l l':List TI):ou (l++l')=ou l++ou l':=List.flatMap_append
theorem Ha (r:CR):ou r.all=ou r.l:=by grind [CR.all,AF,agP]
theorem Ww (hs:Shape P pl cs (some (g,want)) m o r0) (gW:qh g want o.op r0=some r) (h:fF pl ds cs env X w0 a w)
  (hl: ∀b,b∈r0.nd->dI (env b)=true) (lR:oe (env g) want=false) (hd:hU P iY next r.l env w0 X) (qU: ∀b,b∈ou r.l-> ∀p,p∈ds.pins->p.1≠b):
  ∃dz,fF pl ds r.cs dz X w0 (a.put o.dst undef) w/\next dz w0 X:=by
 have ae3: ∀(NC:CS) (d:Nat) (e:Ex) (nd rb:List Nat),fF pl ds NC env X w0 a w->o.dst=some d->pl.nu d=true->agI o.op=false->r0=⟨true,nd,(rW pl NC d e).1,(rW pl NC d e).2,rb,[]⟩->
   ∃dz,fF pl ds r.cs dz X w0 (a.put o.dst undef) w/\next dz w0 X:=by
  intro NC d e nd rb h1 kq hp hfa hr;subst hr;unfold qh rW at gW;by_cases pI:(pl.j7 d||pl.mat.contains d)=true
  ·simp only[pI,if_true] at gW;split at gW
   ·cases gW
   ·injection gW with e1;subst e1
    simp only[hU,Wk,lR,aU,if_false] at hd;exact⟨_,by rw[kq];exact h1.bind hp undef (qU d (by simp[ou,TI.J9])),hd⟩
  ·simp only[pI,hfa,aU,if_false] at gW;cases gW
 cases hs with
 |mv x d e ho kq hv hp=>exact ae3 cs d e [] [] h kq hp (by rcases ho with ho|ho<;>rw[ho]<;>rfl) rfl
 |ld t x d b off nd ag sz bs ho kq hx ht hb hp cD ha=>
  obtain⟨_,tR,_⟩:=h.wH hx;exact ae3 (cs.mf nd) d _ nd [b] (h.mf λb' dZ=>⟨tR b' dZ,hl b' dZ⟩) kq hp (by rw[ho];rfl) rfl
 |fa S x f d b off nd fo sz ho kq hx hf Oy cD lJ hz=>
  obtain⟨hb,tR,hk⟩:=h.wH hx;have h':=h.mf (nd:=nd) λb' dZ=>⟨tR b' dZ,hl b' dZ⟩;unfold qh at gW;simp only[ho,agI,if_true,aj] at gW;subst gW;refine⟨env,?_,hd⟩;rw[kq];exact h'.derive cD lJ Oy _ hb λhg=>by simp only[Dx] at hg;simp_all
 |rd d ss kq NB hn hp=>
  unfold qh at gW;dsimp only at gW;split at gW
  ·cases gW
  ·injection gW with e;subst e
   obtain⟨v,_,h1,h2⟩:=hd;have hv:=h1 lR;subst hv;exact⟨_,by rw[kq];exact h.bind hp undef (qU d (by simp[ou,TI.J9])),h2⟩
 |Dw d ss kq NB hn hp=>
  unfold qh at gW;dsimp only at gW;split at gW
  ·cases gW
  ·injection gW with e;subst e
   exact⟨_,by rw[kq];exact h.bind hp undef (qU d (by simp[ou,TI.J9])),hd.2 lR⟩
 |act ss kq NB hn=>
  unfold qh at gW;dsimp only at gW;split at gW
  ·cases gW
  ·injection gW with e;subst e
   exact⟨_,by rw[kq];exact h,hd.2 lR⟩
 |bx t x d sz e ag=>cases Wx:(!ag&&sz==1)<;>(unfold qh at gW;simp only[Wx] at gW;cases gW)
 |al t d sz i z ag=>cases Wx:(!ag&&sz==1)<;>(unfold qh at gW;simp only[Wx] at gW;cases gW)
 |st t x v b off nd sz bs e ag=>
  cases Wx:(!ag&&sz==1)<;>cases aof:(off==0&&sz==bs)<;>(unfold qh at gW;simp only[Wx,aof] at gW;cases gW)
theorem Kk (h:fF pl ds cs env X w0 a w) {gs:Nat} (hg:o.guard=some (j,want)) (lx:(ops[j]?).bind (·.dst)=some gs)
  (hv:valOf pl cs (.tmp gs)=some (.t g)):cJ o (yielded ops a.tmps)=oe (env g) want:=by
 have ht:a.tmps[gs]? =some (env g):=by
  simp only[valOf] at hv;split at hv
  ·rename_i gW;injection hv with hv
   injection hv with hv
   subst hv;exact h.qz _ gW
  ·have:=h.sig _ (BO hv);assumption
 unfold cJ yielded;simp only[hg,lx,cQ,ht,oe];cases env g<;>simp
theorem acd (hc:Bp P pl cs ops m o=some r) (iQ:r.fl=true) (h:fF pl ds cs env X w0 a w) (hd:hU P iY next r.all env w0 X) (qU: ∀b,b∈ou r.l-> ∀p,p∈ds.pins->p.1≠b):
  ∃v dz,(YF P pl r.rb ops o v a w/\ ∀b,b∈r.rb->YL P pl b ops o v a w)/\fF pl ds r.cs dz X w0 (a.put o.dst v) w/\next dz w0 X:=by
 obtain⟨hl,hd⟩:=Ki _ hd;unfold Bp at hc;split at hc
 ·rename_i hg;obtain⟨v,dz,h1,h2,h3⟩:=Tr (tq hc) h trivial hl iQ hd qU;exact⟨v,dz,⟨.inl ⟨by simp[cJ,hg],h1.1⟩,λb hb=>.inl ⟨by simp[cJ,hg],h1.2 b hb⟩⟩,h2,h3⟩
 ·rename_i j want hg;split at hc
  ·cases hc
  ·rename_i gs lx;split at hc
   ·rename_i g hv;have hw:=Kk h hg lx hv;cases wJ:DK P pl cs (some (g,want)) m o with
    |none=>rw[wJ] at hc;cases hc
    |some r0=>
     rw[wJ] at hc;simp only[cQ] at hc;obtain⟨e1,e2,e3,e4,e5⟩:=Cd hc;cases hy:oe (env g) want with
     |true=>
      obtain⟨v,dz,h1,h2,h3⟩:=Tr (tq wJ) h hy (e2▸hl) (e3▸iQ) (PU hc hy hd) (λb hb=>qU b (by rw[Kj hc];exact hb));exact⟨v,dz,⟨.inl ⟨by rw[hw,hy],e4▸h1.1⟩,λb hb=>.inl ⟨by rw[hw,hy],h1.2 b (e4▸hb)⟩⟩,e1▸h2,h3⟩
     |false=>
      obtain⟨dz,h1,h2⟩:=Ww (tq wJ) hc h (e2▸hl) hy hd qU;exact⟨undef,dz,⟨.inr ⟨by rw[hw,hy],rfl⟩,λ_ _=>.inr ⟨by rw[hw,hy],rfl⟩⟩,h1,h2⟩
   ·cases hc
theorem Wy (hc:Bp P pl cs ops m o=some r) (iQ:r.fl=true): ∀x,o.dst=some x->look pl.boxes x=none:=by
 unfold Bp at hc;split at hc
 ·exact Tq (tq hc) iQ
 ·rename_i j want hg;split at hc
  ·cases hc
  ·rename_i gs lx;split at hc
   ·rename_i g hv;cases wJ:DK P pl cs (some (g,want)) m o with
    |none=>grind
    |some r0=>
     rw[wJ] at hc;simp only[cQ] at hc;exact Tq (tq wJ) ((Cd hc).2.2.1▸iQ)
   ·cases hc
theorem ajS (hc:Bp P pl cs ops m o=some r) (iQ:r.fl=true): ∀x,o.dst=some x->pl.j7 x=true->x∈ou r.l:=by
 unfold Bp at hc;split at hc
 ·exact PT (tq hc) iQ
 ·rename_i j want hg;split at hc
  ·cases hc
  ·rename_i gs lx;split at hc
   ·rename_i g hv;cases wJ:DK P pl cs (some (g,want)) m o with
    |none=>grind
    |some r0=>
     rw[wJ] at hc;simp only[cQ] at hc;rw[Kj hc];exact PT (tq wJ) ((Cd hc).2.2.1▸iQ)
   ·cases hc
theorem fF.apart (h:fF pl ds cs env X w0 a w) (hc:Bp P pl cs ops m o=some r) (iQ:r.fl=true) (hm: ∀b,b∈ou r.l-> ∀p,p∈ds.pins->p.1≠b):
  ∀x,o.dst=some x-> ∀p,p∈ds.pins->p.1≠x:=λx hx p hp e=>by
 rcases(h.Ai p hp).2 with⟨n,_,hn,_⟩|hg
 ·rw[e,Wy hc iQ x hx] at hn;cases hn
 ·exact hm x (ajS hc iQ x hx (e▸hg)) p hp e
theorem PV (hc:Bp P pl cs ops m o=some r) (h:fF pl ds cs env X w0 a w) (hd:hU P iY next r.all env w0 X)

  (hK: ∀a' w' dz X' ey,fF pl ds r.cs dz X' ey a' w'->next dz ey X'->zL (m=false) pl r.sb a w a' w'->K a' w')
  (qU: ∀b,b∈ou r.l-> ∀p,p∈ds.pins->p.1≠b)
  (hQ: ∀ch w' dz X' ey,Kp X' ey w'->zD pl ds dz X' a w'->iY ch dz ey X'->Q (.panic ch) a w'):
  if cJ o (yielded ops a.tmps)=true then o.wp P a w K Q else K (a.put o.dst undef) w:=by
 cases iQ:r.fl with
 |true=>
  obtain⟨v,dz,hy,h1,h2⟩:=acd hc iQ h hd qU;rcases hy.1 with⟨hw,hv⟩|⟨hw,hv⟩
  ·rw[if_pos hw];unfold tn;rw[hv w (Fr.refl _ w)];exact hK _ _ _ _ _ h1 h2 ⟨λ_=>rz.refl pl _ a w _ _ (Wy hc iQ),zK.refl _ _ _ _⟩
  ·rw[if_neg gQ];subst hv;exact hK _ _ _ _ _ h1 h2 ⟨λ_=>rz.refl pl _ a w _ _ (Wy hc iQ),zK.refl _ _ _ _⟩
 |false=>
  obtain⟨hl,hd⟩:=Ki _ hd;unfold Bp at hc;split at hc
  ·rename_i hg;rw[if_pos (by simp[cJ,hg])];exact Tt (tq hc) h trivial hl iQ hd hK qU hQ
  ·rename_i j want hg;split at hc
   ·cases hc
   ·rename_i gs lx;split at hc
    ·rename_i g hv;have hw:=Kk h hg lx hv;cases wJ:DK P pl cs (some (g,want)) m o with
     |none=>rw[wJ] at hc;cases hc
     |some r0=>
      rw[wJ] at hc;simp only[cQ] at hc;obtain⟨e1,e2,e3,e4,e5⟩:=Cd hc;cases hy:oe (env g) want with
      |true=>
       rw[if_pos (by rw[hw,hy])];exact Tt (tq wJ) h hy (e2▸hl) (e3▸iQ) (PU hc hy hd) (e5▸e1▸hK) (λb hb=>qU b (by rw[Kj hc];exact hb)) hQ
      |false=>
       rw[if_neg gQ];obtain⟨dz,h1,h2⟩:=Ww (tq wJ) hc h (e2▸hl) hy hd qU;refine hK _ _ _ _ _ h1 h2 ⟨λ_=>?_,zK.refl _ _ _ _⟩;refine rz.eP (Ext.refl w) λb n hb k hk si=>?_;cases kq:o.dst with
       |none=>rw[kq] at si;exact si
       |some x=>
        rw[kq] at si;by_cases fY:b=x
        ·subst fY;by_cases cD:b<a.tmps.size
         ·rw[rq _ _ _ _ cD,if_pos rfl] at si;cases si
         ·rw[pS (by simp[nq];omega)] at si;cases si
        ·rwa [gq _ _ _ _ fY] at si
    ·cases hc
theorem PW (hN: ∀pH a' w' dz X' ey,fF pl ds pH dz X' ey a' w'->next dz ey X'->Q .normal a' w')
  (hQ: ∀ch a' w' dz X' ey,a'.defers=ds.ds->Kp X' ey w'->zD pl ds dz X' a' w'->iY ch dz ey X'->Q (.panic ch) a' w'): ∀(l:List Oper) (cs:CS) (tl:List TI) (env:Env) (X:XS) (w0:World) (a:Act) (w:World),
  Ia P pl ops l cs=some tl->(∀b,b∈ou tl-> ∀p,p∈ds.pins->p.1≠b)->fF pl ds cs env X w0 a w->hU P iY next tl env w0 X->wpList P ops Q l a w
 |[],cs,tl,env,X,w0,a,w,hc,_,h,hd=>by
  simp only[Ia,aj] at hc;subst hc;exact hN _ _ _ _ _ _ h hd
 |o::l,cs,tl,env,X,w0,a,w,hc,hm,h,hd=>by
  simp only[Ia] at hc;cases hr:Bp P pl cs ops true o with
  |none=>grind
  |some r=>
   cases hs:Ia P pl ops l r.cs with
   |none=>grind
   |some Cr=>
    simp only[hr,hs,aY,aj] at hc;subst hc;rw[Cc] at hd;rw[AF,Ha] at hm;refine wpList_step λK hK=>PV hr h hd (λa' w' dz X' ey h1 h2 _=>hK _ _ (PW hN hQ l r.cs Cr dz X' ey a' w' hs (λb hb=>hm b (dJ _ hb)) h1 h2)) (λb hb=>hm b (bP _ hb)) ?_;exact λch w' dz X' ey hx AG hp=>hQ ch a w' dz X' ey h.defers hx AG hp
theorem AH: ∀{l:List Nat} {i:Nat} {r:CR},BN P pl ops cs bG l=some (i,r)->
  i∈l/\r.fl=true/\Mx pl ops bG i r.rb=true/\ ∃o,ops[i]? =some o/\Bp P pl cs ops (qB pl ops i) o=some r
 |[],_,_,h=>by cases h
 |j::l,i,r,h=>by
  simp only[BN] at h;split at h
  ·rename_i x hx;split at h
   ·rename_i hc;simp only[aj,cV] at h;obtain⟨rfl,rfl⟩:=h
    grind
   ·obtain⟨h1,h2⟩:=AH h;simp_all
  ·obtain⟨h1,h2⟩:=AH h;simp_all
theorem ND {b:Nat×Nat×Bool×Value} (h:Ib P pl o=some b) (m:Bool):Bp P pl cs ops m o=some ⟨false,[],[AD b],yh cs b.1,[],[]⟩:=by
 unfold Ib at h;split at h
 ·rename_i t d hg wK hd;split at h
  ·rename_i sz z ag s h1 h2 h3;split at h
   ·rename_i hc;simp only[aj] at h;subst h;simp only[Bp,hg,DK,wK,hd,h1,h2,Wm,h3,hc,if_true,AD,yh]
   ·cases h
  ·cases h
 ·cases h
theorem agQ (env:Env) (h:d≠d') (v v':Value):jO (jO env d v) d' v'=jO (jO env d' v') d v:=by
 funext s
 by_cases h1:s=d
 ·grind [iO,mA]
 ·by_cases h2:s=d'
  ·subst h2;rw[mA,iO _ _ (Ne.symm h),mA]
  grind [iO]
theorem ae4 {b b':Nat×Nat×Bool×Value} (cA:b.1≠b'.1) {l:List TI} (h:hU P iY next (AD b::AD b'::l) env w0 X):hU P iY next (AD b'::AD b::l) env w0 X:=by
 obtain⟨d,n,o,z⟩:=b;obtain⟨d',n',o',z'⟩:=b';have cA:d≠d':=cA;cases o<;>cases o'<;>simp only[AD,hU,Wk,Ex.ev,dO,if_true,if_false,aU] at h⊢ <;>obtain⟨h1,h2,h3⟩:=h<;>grind [agQ]
theorem ace {dz:Env} (h:fF pl ds (yh (yh cs d') d) dz X' ey a' w'):fF pl ds (yh (yh cs d) d') dz X' ey a' w':=by
 refine⟨h.size,h.defers,h.Ai,h.ext,h.xq,h.qz,λp hp=>h.sig p ?_,h.box,h.inj,h.conv,λb hb=>h.live b ?_,λp hp=>h.ptr p ?_⟩
 ·simp only[yh,CS.kill,CS.mf,iA] at hp⊢
  grind
 ·simp only[yh,CS.kill,CS.mf,rU,List.mem_singleton] at hb⊢
  grind
 ·simp only[yh,CS.kill,CS.mf,iA] at hp⊢
  grind
theorem abr {l:List Nat} (h:aca l i=true):l=[i]:=by
 unfold aca at h
 grind
theorem Wz (ho:ops[i]? =some o) (hx:Bp P pl cs ops (qB pl ops i) o=some r) (Tu:r.sb=[]) (h:fF pl ds cs env X w0 a w) (hd:hU P iY next r.all env w0 X) {fuel:Nat}
  (qU: ∀b,b∈ou r.l-> ∀p,p∈ds.pins->p.1≠b)
  (hQ: ∀ch a' w' dz X' ey,a'.defers=ds.ds->Kp X' ey w'->zD pl ds dz X' a' w'->iY ch dz ey X'->Q (.panic ch) a' w')
  (hK: ∀a' w' dz X' ey,fF pl ds r.cs dz X' ey a' w'->next dz ey X'->vK P pl ops Q fuel (bG.setIfInBounds i true) a' w'):
  wpOp P ops Q i (λa' w'=>(∀o,ops[i]? =some o->zL (qB pl ops i=false) pl (wo pl ops o) a w a' w')/\vK P pl ops Q fuel (bG.setIfInBounds i true) a' w') a w:=by
 have Ej:=PV (ops:=ops) (K:=λa' w'=>(∀o',ops[i]? =some o'->zL (qB pl ops i=false) pl (wo pl ops o') a w a' w')/\vK P pl ops Q fuel (bG.setIfInBounds i true) a' w') (Q:=Q) hx h hd
  (λa' w' dz X' ey h1 h2 h3=>⟨λo' vL=>⟨λyA=>(h3.1 yA).sub λb hb=>(by rw[Tu] at hb;cases hb),h3.2.sub λb hb=>(by rw[Tu] at hb;cases hb)⟩,hK a' w' dz X' ey h1 h2⟩)
  qU (λch w' dz X' ey hk AG hp=>hQ ch a w' dz X' ey h.defers hk AG hp)
 unfold wpOp;simp only[ho] at Ej⊢;split
 ·grind
 grind
theorem Hb (hN: ∀pH a' w' dz X' ey,fF pl ds pH dz X' ey a' w'->next dz ey X'->Q .normal a' w')
  (hQ: ∀ch a' w' dz X' ey,a'.defers=ds.ds->Kp X' ey w'->zD pl ds dz X' a' w'->iY ch dz ey X'->Q (.panic ch) a' w')
  (Jm: ∀c a (d:Option Nat) v w,(∀x,d=some x-> ∀p,p∈ds.pins->p.1≠x)->Q (.panic c) (a.put d v) w->Q (.panic c) a w) (Da:wh ops=true):
  ∀(fuel:Nat) (bG:Array Bool) (cs:CS) (tl:List TI) (env:Env) (X:XS) (w0:World) (a:Act) (w:World),
  yi P pl ops fuel bG cs=some tl->(∀b,b∈ou tl-> ∀p,p∈ds.pins->p.1≠b)->fF pl ds cs env X w0 a w->hU P iY next tl env w0 X->vK P pl ops Q fuel bG a w
 |0,bG,cs,tl,env,X,w0,a,w,hc,_,h,hd=>by
  simp only[yi] at hc;split at hc
  ·rename_i hr;simp only[aj] at hc;subst hc;exact⟨by simpa using hr,hN _ _ _ _ _ _ h hd⟩
  ·cases hc
 |fuel+1,bG,cs,tl,env,X,w0,a,w,hc,hm,h,hd=>by
  simp only[yi] at hc;split at hc
  ·rename_i i r hf;obtain⟨h1,h2,h3,o,ho,h4⟩:=AH hf;cases hs:yi P pl ops fuel (bG.setIfInBounds i true) r.cs with
   |none=>simp[hs] at hc
   |some Cr=>
    simp only[hs,aY,aj] at hc;subst hc;rw[Cc] at hd;rw[AF,Ha] at hm;obtain⟨v,dz,hy,hS,hn⟩:=acd h4 h2 h hd (λb hb=>hm b (bP _ hb));have Ek: ∀j oj,ops[j]? =some oj->j≠i->bG.getD j true=false-> ¬(j∈Gp ops bG i\/j=i\/(bG.getD j true=false/\ ∃oj,ops[j]? =some oj/\waits oj i=true))->_:=
     λj oj hj cA G8 lR=>PM ho h3 j oj hj cA G8 (λhb=>lR (.inl hb)) (by
      cases hw:waits oj i with
      |false=>rfl
      |true=>exact absurd (.inr (.inr ⟨G8,oj,hj,hw⟩)) lR)
    obtain⟨Y,PL,hY,fN⟩: ∃Y:Act->World->Prop,(∀a w,Y a w->Yx P ops o v a w)/\Y a w/\ ∀j oj,oj.dst=oj.dst->o.apart ops oj=true->(qB pl ops j=false\/Cb o=true\/Tl o r.rb=true)->(∀b,b∈wo pl ops oj-> ¬b∈r.rb)->
      Wo pl ops o oj (qB pl ops j=false) (wo pl ops oj) Y:=by
     cases yA:Tl o r.rb with
     |false=>exact⟨YF P pl r.rb ops o v,λ_ _ h=>h.yx,hy.1,λj oj _ _ h4 h5=>YF.stb (h4.imp id λh=>h.elim id λh=>by cases h) h5⟩
     |true=>
      unfold Tl at yA;split at yA
      ·rename_i t x wK;have hxr:x∈r.rb:=by simpa using yA
       refine⟨YL P pl x ops o v,λ_ _ h=>h.yx,hy.2 x hxr,λj oj _ Kb _ h5=>YL.stb (λd hd hdx=>?_) λhm=>h5 x hm hxr⟩;subst hdx;refine(wj Kb).2.2 d hd (bP _ (List.mem_filterMap.2 ⟨.tmp d,?_,rfl⟩));simp[wK,Op.operands]
      ·cases yA
    refine Kc PL ho (xm Da) (To ho h3) (λc a' w' hq=>Jm c a' o.dst v w' (h.apart h4 h2 λb hb=>hm b (bP _ hb)) hq) fuel bG a w
     (λj=>j∈Gp ops bG i\/j=i\/(bG.getD j true=false/\ ∃oj,ops[j]? =some oj/\waits oj i=true)) (.inr (.inl rfl)) (λj hj=>?_)
     (λj oj hj cA G8 lR=>have h:=Ek j oj hj cA G8 lR;⟨h.1,fN j oj rfl h.1 h.2.1 h.2.2⟩) h1 hY ?_
    ·rcases hj with hj|rfl|⟨hu,oj,Ei,hw⟩
     ·rcases Tn j hj with h|⟨h,oj,k,q1,q2,q3⟩
      ·exact .inl h
      ·exact .inr ⟨h,oj,k,q1,q2,.inl q3⟩
     ·exact .inl rfl
     ·exact .inr ⟨hu,oj,i,Ei,hw,.inr (.inl rfl)⟩
    exact Hb hN hQ Jm Da fuel _ r.cs Cr dz X w0 _ w hs (λb hb=>hm b (dJ _ hb)) hS hn
  ·split at hc
   ·rename_i i hr;split at hc
    ·rename_i o ho;split at hc
     ·rename_i r hx;split at hc
      ·rename_i Tu;cases hs:yi P pl ops fuel (bG.setIfInBounds i true) r.cs with
       |none=>simp[hs] at hc
       |some Cr=>
        simp only[hs,aY,aj] at hc;subst hc;rw[Cc] at hd;rw[AF,Ha] at hm;refine⟨λh0=>(by rw[hr] at h0;cases h0),λi' Dy=>?_⟩;rw[hr] at Dy;have hii:=List.mem_singleton.1 Dy;subst hii;have rB: ∀b,b∈r.sb->b∈wo pl ops o:=λb hb=>by have:=List.all_eq_true.1 Tu b hb;simpa using this
        have Ej:=PV (ops:=ops) (K:=λa' w'=>(∀o',ops[i']? =some o'->zL (qB pl ops i'=false) pl (wo pl ops o') a w a' w')/\vK P pl ops Q fuel (bG.setIfInBounds i' true) a' w') (Q:=Q) hx h hd
         (λa' w' dz X' ey h1 h2 h3=>⟨λo' vL=>by rw[ho] at vL;injection vL with vL;subst vL;exact⟨λyA=>(h3.1 yA).sub rB,h3.2.sub rB⟩,Hb hN hQ Jm Da fuel _ r.cs Cr dz X' ey a' w' hs (λb hb=>hm b (dJ _ hb)) h1 h2⟩)
         (λb hb=>hm b (bP _ hb)) (λch w' dz X' ey hk AG hp=>hQ ch a w' dz X' ey h.defers hk AG hp)
        unfold wpOp;simp only[ho] at Ej⊢;split
        ·rename_i hw;rw[if_pos hw] at Ej;exact .inl Ej
        ·rename_i hw;rw[if_neg hw] at Ej;omega
      ·cases hc
     ·cases hc
    ·cases hc
   ·rename_i i j hr;split at hc
    ·rename_i bi hp;cases hs:yi P pl ops fuel (bG.setIfInBounds i true) (yh cs bi.1)with
     |none=>simp[hs] at hc
     |some Cr=>
      simp only[hs,aY,aj] at hc;subst hc;have hmc: ∀(i:TI) (l:List TI),ou (i::l)=ou [i]++ou l:=λi l=>AF [i] l;rw[hmc] at hm;unfold ajf at hp;split at hp
      ·rename_i bi' bj PX hbj;split at hp
       ·rename_i hpc;simp only[aj] at hp;subst hp;simp only[aB,de,beq_eq_false_iff_ne] at hpc;obtain⟨⟨cA,hri⟩,hrj⟩:=hpc;replace hri:=abr hri;replace hrj:=abr hrj;obtain⟨oi,hoi,hai⟩:=Option.bind_eq_some_iff.1 PX;obtain⟨oj,Ei,haj⟩:=Option.bind_eq_some_iff.1 hbj;have hci:=λ(cs:CS) (m:Bool)=>ND (cs:=cs) (ops:=ops) hai m;have hcj:=λ(cs:CS) (m:Bool)=>ND (cs:=cs) (ops:=ops) haj m;refine⟨λh0=>(by rw[hr] at h0;cases h0),λi' Dy=>?_⟩;rw[hr] at Dy;rcases List.mem_cons.1 Dy with rfl|Dy
        ·exact Wz hoi (hci cs _) rfl h (hd:hU P iY (hU P iY next Cr) [AD bi'] env w0 X) (λb hb=>hm b (bP _ hb)) hQ λa' w' dz X' ey h1 h2=>Hb hN hQ Jm Da fuel _ _ Cr dz X' ey a' w' hs (λb hb=>hm b (dJ _ hb)) h1 h2
        ·have Kd:=List.mem_singleton.1 Dy;subst Kd;cases fuel with
         |zero=>
          simp only[yi,hri] at hs;cases hs
         |succ f=>
          simp only[yi,hri,BN,Ei,cQ,hcj,Bool.false_and,aU,if_false,List.all_nil,if_true] at hs;cases bp:yi P pl ops f ((bG.setIfInBounds i true).setIfInBounds i' true) (yh (yh cs bi'.1) bj.1)with
          |none=>simp[bp] at hs
          |some WB=>
           simp only[bp,aY,aj] at hs;have htl:AD bj::WB=Cr:=hs;subst htl;rw[hmc (AD bj) WB] at hm;refine Wz Ei (hcj cs _) rfl h ((ae4 cA hd):hU P iY (hU P iY next (AD bi'::WB)) [AD bj] env w0 X) (λb hb=>hm b (dJ _ (bP _ hb))) hQ λa' w' dz X' ey h1 h2=>?_;refine⟨λh0=>(by rw[hrj] at h0;cases h0),λk hk=>?_⟩;rw[hrj] at hk;have hki:=List.mem_singleton.1 hk;subst hki;refine Wz hoi (hci _ _) rfl h1 (h2:hU P iY (hU P iY next WB) [AD bi'] dz ey X') (λb hb=>hm b (bP _ hb)) hQ λa'' mq aog wG El h3 h4=>?_;have hkj:k≠i':=λe=>by
            subst e;rw[hoi] at Ei;cases Ei;rw[hai] at haj;cases haj;omega
           rw[tO _ _ hkj.symm];exact Hb hN hQ Jm Da f _ _ WB aog wG El a'' mq bp (λb hb=>hm b (dJ _ (dJ _ hb))) (ace h3) h4
       ·cases hp
      ·cases hp
    ·cases hc
   ·cases hc
theorem Tv {f:Nat->Option T} : ∀{l:List Nat} {t:T},RU l f=some t-> ∀i∈l,∃t',f i=some t'/\(∀K env w X,den P t K env w X->den P t' K env w X)/\ ∀b,b∈t'.mk->b∈t.mk
 |[],t,h,i,hi=>by cases hi
 |[j],t,h,i,hi=>by grind [RU]
 |j::k::r,t,h,i,hi=>by
  simp only[RU] at h;split at h
  ·rename_i a b ha hb;simp only[aj] at h;subst h;rcases List.mem_cons.1 hi with rfl|hi
   ·exact⟨a,ha,λ_ _ _ _ h=>h.1,λb hb=>bP _ hb⟩
   ·obtain⟨t',h1,h2,h3⟩:=Tv (l:=k::r) hb i hi;exact⟨t',h1,λ_ _ _ _ h=>h2 _ _ _ _ h.2,λb hb=>dJ _ (h3 b hb)⟩
  ·cases h
theorem Oz {K:lA} (hN: ∀pH a' w' dz X' ey,fF pl ds pH dz X' ey a' w'->K .normal dz ey X'->Q .normal a' w')
  (hQ: ∀ch a' w' dz X' ey,a'.defers=ds.ds->Kp X' ey w'->zD pl ds dz X' a' w'->K (.panic ch) dz ey X'->Q (.panic ch) a' w')
  (Jm: ∀c a (d:Option Nat) v w,(∀x,d=some x-> ∀p,p∈ds.pins->p.1≠x)->Q (.panic c) (a.put d v) w->Q (.panic c) a w) (Da:wh ops=true):
  ∀(fuel:Nat) (bG:Array Bool) (cs:CS) (t:T) (env:Env) (X:XS) (w0:World) (a:Act) (w:World),
  Cp P pl ops fuel bG cs=some t->(∀b,b∈t.mk-> ∀p,p∈ds.pins->p.1≠b)->fF pl ds cs env X w0 a w->den P t K env w0 X->vK P pl ops Q fuel bG a w
 |0,bG,cs,t,env,X,w0,a,w,hc,_,h,hd=>by
  simp only[Cp] at hc;split at hc
  ·rename_i hr;simp only[aj] at hc;subst hc;exact⟨by simpa using hr,hN _ _ _ _ _ _ h hd⟩
  ·cases hc
 |fuel+1,bG,cs,t,env,X,w0,a,w,hc,hm,h,hd=>by
  simp only[Cp] at hc;split at hc
  ·rename_i i r hf;obtain⟨h1,h2,h3,o,ho,h4⟩:=AH hf;cases hs:Cp P pl ops fuel (bG.setIfInBounds i true) r.cs with
   |none=>simp[hs] at hc
   |some Cr=>
    simp only[hs,aY,aj] at hc;subst hc;have hd:hU P (λch=>K (.panic ch)) (λe w X=>den P Cr K e w X) r.all env w0 X:=hd;have hm: ∀b,b∈ou r.l++Cr.mk-> ∀p,p∈ds.pins->p.1≠b:=by
     simp only[T.mk,Ha] at hm;exact hm
    obtain⟨v,dz,hy,hS,hn⟩:=acd h4 h2 h hd (λb hb=>hm b (bP _ hb));have Ek: ∀j oj,ops[j]? =some oj->j≠i->bG.getD j true=false-> ¬(j∈Gp ops bG i\/j=i\/(bG.getD j true=false/\ ∃oj,ops[j]? =some oj/\waits oj i=true))->_:=
     λj oj hj cA G8 lR=>PM ho h3 j oj hj cA G8 (λhb=>lR (.inl hb)) (by
      cases hw:waits oj i with
      |false=>rfl
      |true=>exact absurd (.inr (.inr ⟨G8,oj,hj,hw⟩)) lR)
    obtain⟨Y,PL,hY,fN⟩: ∃Y:Act->World->Prop,(∀a w,Y a w->Yx P ops o v a w)/\Y a w/\ ∀j oj,oj.dst=oj.dst->o.apart ops oj=true->(qB pl ops j=false\/Cb o=true\/Tl o r.rb=true)->(∀b,b∈wo pl ops oj-> ¬b∈r.rb)->
      Wo pl ops o oj (qB pl ops j=false) (wo pl ops oj) Y:=by
     cases yA:Tl o r.rb with
     |false=>exact⟨YF P pl r.rb ops o v,λ_ _ h=>h.yx,hy.1,λj oj _ _ h4 h5=>YF.stb (h4.imp id λh=>h.elim id λh=>by cases h) h5⟩
     |true=>
      unfold Tl at yA;split at yA
      ·rename_i t x wK;have hxr:x∈r.rb:=by simpa using yA
       refine⟨YL P pl x ops o v,λ_ _ h=>h.yx,hy.2 x hxr,λj oj _ Kb _ h5=>YL.stb (λd hd hdx=>?_) λhm=>h5 x hm hxr⟩;subst hdx;refine(wj Kb).2.2 d hd (bP _ (List.mem_filterMap.2 ⟨.tmp d,?_,rfl⟩));simp[wK,Op.operands]
      ·cases yA
    refine Kc PL ho (xm Da) (To ho h3) (λc a' w' hq=>Jm c a' o.dst v w' (h.apart h4 h2 λb hb=>hm b (bP _ hb)) hq) fuel bG a w
     (λj=>j∈Gp ops bG i\/j=i\/(bG.getD j true=false/\ ∃oj,ops[j]? =some oj/\waits oj i=true)) (.inr (.inl rfl)) (λj hj=>?_)
     (λj oj hj cA G8 lR=>have h:=Ek j oj hj cA G8 lR;⟨h.1,fN j oj rfl h.1 h.2.1 h.2.2⟩) h1 hY ?_
    ·rcases hj with hj|rfl|⟨hu,oj,Ei,hw⟩
     ·rcases Tn j hj with h|⟨h,oj,k,q1,q2,q3⟩
      ·exact .inl h
      ·exact .inr ⟨h,oj,k,q1,q2,.inl q3⟩
     ·exact .inl rfl
     ·exact .inr ⟨hu,oj,i,Ei,hw,.inr (.inl rfl)⟩
    exact Oz hN hQ Jm Da fuel _ r.cs Cr dz X w0 _ w hs (λb hb=>hm b (dJ _ hb)) hS hn
  ·refine⟨λh0=>?_,λi' Dy=>?_⟩
   ·rw[h0] at hc;simp[RU] at hc
   obtain⟨t',h1,h2,h3⟩:=Tv (P:=P) hc i' Dy;split at h1
   ·rename_i o ho;split at h1
    ·rename_i r hx;split at h1
     ·rename_i Tu;cases hs:Cp P pl ops fuel (bG.setIfInBounds i' true) r.cs with
      |none=>simp[hs] at h1
      |some Cr=>
       simp only[hs,aY,aj] at h1;subst h1;have hd:hU P (λch=>K (.panic ch)) (λe w X=>den P Cr K e w X) r.all env w0 X:=h2 _ _ _ _ hd;have hm: ∀b,b∈ou r.l++Cr.mk-> ∀p,p∈ds.pins->p.1≠b:=λb hb=>hm b (h3 b (by
        simp only[T.mk,Ha];exact hb))
       have rB: ∀b,b∈r.sb->b∈wo pl ops o:=λb hb=>by have:=List.all_eq_true.1 Tu b hb;simpa using this
       have Ej:=PV (ops:=ops) (K:=λa' w'=>(∀o',ops[i']? =some o'->zL (qB pl ops i'=false) pl (wo pl ops o') a w a' w')/\vK P pl ops Q fuel (bG.setIfInBounds i' true) a' w') (Q:=Q) hx h hd
        (λa' w' dz X' ey h1 h2 h3=>⟨λo' vL=>by rw[ho] at vL;injection vL with vL;subst vL;exact⟨λyA=>(h3.1 yA).sub rB,h3.2.sub rB⟩,Oz hN hQ Jm Da fuel _ r.cs Cr dz X' ey a' w' hs (λb hb=>hm b (dJ _ hb)) h1 h2⟩)
        (λb hb=>hm b (bP _ hb)) (λch w' dz X' ey hk AG hp=>hQ ch a w' dz X' ey h.defers hk AG hp)
       unfold wpOp;simp only[ho] at Ej⊢;split
       ·rename_i hw;rw[if_pos hw] at Ej;exact .inl Ej
       ·rename_i hw;rw[if_neg hw] at Ej;omega
     ·cases h1
    ·cases h1
   ·cases h1
variable {M : List Nat}
theorem Em: ∀k,X k->grow X w w' k:=λ_ h=>.inl h
theorem Tw {n n':Value->World->XS->Prop} {p p':List PanicEntry->World->XS->Prop} {r:Result Next} (h:jA P m X w n p r)
  (hn: ∀v w' X',(∀k,X k->X' k)->n v w' X'->n' v w' X') (hp: ∀c w' X',(∀k,X k->X' k)->p c w' X'->p' c w' X'):jA P m X w n' p' r:=by
 cases r with
 |ok x w'=>
  cases x<;>simp only[jA] at h⊢
  case value v=>grind [Em]
  case skip=>grind [Em]
  case enter f args=>
   refine⟨h.1,h.2.mono λe mq he=>?_⟩;cases e with
   |returned v=>grind [Em]
   |panicked c=>grind [Em]
   |outgrown=>exact he
 |halt x w'=>
  cases x<;>simp only[jA] at h⊢
  grind [Em]
def ajT (h: ¬s=d):jO env d v s=env s:=iO _ _ h
theorem agR {d:Option Nat} (h: ¬s∈d.toList):J8 env d v s=env s:=by
 cases d with
 |none=>rfl
 |some d=>exact iO _ _ gQ
theorem Ie: ∀(l:List TI) {iY OA:List PanicEntry->Env->World->XS->Prop} {next next':Env->World->XS->Prop} {env:Env} {w:World} {X:XS},
  hU P iY next l env w X->
  (∀e w' X',(∀k,X k->X' k)->(∀s,¬s∈l.flatMap TI.wr->e s=env s)->next e w' X'->next' e w' X')->
  (∀c e w' X',(∀k,X k->X' k)->(∀s,¬s∈l.flatMap TI.wr->e s=env s)->iY c e w' X'->OA c e w' X')->hU P OA next' l env w X
 |[],_,_,_,_,_,_,_,h,hn,_=>hn _ _ _ (λ_ h=>h) (λ_ _=>rfl) h
 |i::l,iY,OA,next,next',env,w,X,h,hn,hp=>by
  have step: ∀(xt:Env) (w1:World) (X1:XS),(∀k,X k->X1 k)->(∀s,¬s∈i.wr->xt s=env s)->hU P iY next l xt w1 X1->hU P OA next' l xt w1 X1:=by
   intro xt w1 X1 Kl he1 h1;refine Ie l h1 (λe w' X' hX he hq=>hn e w' X' (λk hk=>hX k (Kl k hk)) (λs hs=>?_) hq) (λc e w' X' hX he hq=>hp c e w' X' (λk hk=>hX k (Kl k hk)) (λs hs=>?_) hq)
   ·simp only[Ag,rU,not_or] at hs
    grind
   ·simp only[Ag,rU,not_or] at hs
    grind
  have pst: ∀c w1 X1,(∀k,X k->X1 k)->iY c env w1 X1->OA c env w1 X1:=λc w1 X1 Kl hq=>hp c env w1 X1 Kl (λ_ _=>rfl) hq;have st1: ∀(d:Nat) (v:Value) (w1:World) (X1:XS),i.wr=[d]->(∀k,X k->X1 k)->hU P iY next l (jO env d v) w1 X1->hU P OA next' l (jO env d v) w1 X1:=
   λd v w1 X1 hw Kl h1=>step _ _ _ Kl (λs hs=>ajT (by rw[hw] at hs;simpa using hs)) h1
  have stO: ∀(d:Option Nat) (v:Value) (w1:World) (X1:XS),i.wr=d.toList->(∀k,X k->X1 k)->hU P iY next l (J8 env d v) w1 X1->hU P OA next' l (J8 env d v) w1 X1:=
   λd v w1 X1 hw Kl h1=>step _ _ _ Kl (λs hs=>agR (by rw[hw] at hs;exact hs)) h1
  cases i with
  |zI b=>exact dO.2 ⟨(dO.1 h).1,step _ _ _ (λ_ h=>h) (λ_ _=>rfl) (dO.1 h).2⟩
  |set d e=>exact st1 d _ _ _ rfl (λ_ h=>h) h
  |box b n e=>exact dO.2 ⟨(dO.1 h).1,st1 b _ _ _ rfl (λ_ h=>h) (dO.1 h).2⟩
  |put b off n e=>
   have h2:=dO.1 (dO.1 h).2;exact dO.2 ⟨(dO.1 h).1,dO.2 ⟨h2.1,st1 b _ _ _ rfl (λ_ h=>h) h2.2⟩⟩
  |BM b e=>exact dO.2 ⟨(dO.1 h).1,st1 b _ _ _ rfl (λ_ h=>h) (dO.1 h).2⟩
  |Wh b off e=>exact dO.2 ⟨(dO.1 h).1,st1 b _ _ _ rfl (λ_ h=>h) (dO.1 h).2⟩
  |fill b n e=>
   have h2:=dO.1 (dO.1 h).2;exact dO.2 ⟨(dO.1 h).1,dO.2 ⟨h2.1,st1 b _ _ _ rfl (λ_ h=>h) h2.2⟩⟩
  |rd d op ty ss=>
   obtain⟨v,h1,h2⟩:=h;exact⟨v,h1,st1 d _ _ _ rfl (λ_ h=>h) h2⟩
  |Dw d op ty ss m=>exact λwa G9=>Tw (h wa G9) (λv w' X' hX hq=>stO d v w' X' rfl hX hq) (λc w' X' hX hq=>pst c w' X' hX hq)
  |Wi g want d e=>exact st1 d _ _ _ rfl (λ_ h=>h) h
  |grd g want d op ty ss=>
   obtain⟨v,h1,h2,h3⟩:=h;exact⟨v,h1,h2,st1 d _ _ _ rfl (λ_ h=>h) h3⟩
  |Wj g want d op ty ss m=>
   exact⟨λhg wa G9=>Tw (h.1 hg wa G9) (λv w' X' hX hq=>stO d v w' X' rfl hX hq) (λc w' X' hX hq=>pst c w' X' hX hq),λhg=>stO d _ _ _ rfl (λ_ h=>h) (h.2 hg)⟩
theorem WC {e:Env} (h:s∈M):merge M e env s=e s:=by simp[merge,Ah.2 h]
theorem FB {e:Env} (h: ¬s∈M):merge M e env s=env s:=by
 have:yz M s=false:=by
  cases hx:yz M s with
  |false=>rfl
  |true=>exact absurd (Ah.1 hx) h
 simp[merge,this]
theorem mL: ∀(t:T) {K K':lA} {env:Env} {w:World} {X:XS},den P t K env w X->
  (∀ex e w' X',(∀k,X k->X' k)->(∀s,¬s∈t.wr->e s=env s)->K ex e w' X'->K' ex e w' X')->den P t K' env w X
 | .Bo l,K,K',env,w,X,h,hk=>Ie l h (λe w' X' hX he hq=>hk _ e w' X' hX he hq) (λc e w' X' hX he hq=>hk _ e w' X' hX he hq)
 | .seq a b,K,K',env,w,X,h,hk=>by
  refine mL a (K:=lA.Fz (λe w X=>den P b K e w X) K) h λex e w' X' hX he hq=>?_;have Aj: ∀s,¬s∈(T.seq a b).wr->e s=env s:=λs hs=>he s (λhc=>hs (bP _ hc));cases ex with
  |normal=>
   refine mL b (K:=K) hq λex2 e2 w2 X2 hX2 he2 zh=>hk ex2 e2 w2 X2 (λk hk=>hX2 k (hX k hk)) (λs hs=>?_) zh;rw[he2 s (λhc=>hs (dJ _ hc)),Aj s hs]
  |exit i=>exact hk _ e w' X' hX Aj hq
  |goto i=>exact hk _ e w' X' hX Aj hq
  |ret=>exact hk _ e w' X' hX Aj hq
  |panic c=>exact hk _ e w' X' hX Aj hq
  |outgrown=>exact hk _ e w' X' hX Aj hq
 | .ite c a b,K,K',env,w,X,h,hk=>by
  simp only[den,me] at h⊢;split at h
  ·refine⟨λht=>mL a (h.1 ht) λex e w' X' hX he hq=>hk ex e w' X' hX (λs hs=>he s (λhc=>hs (bP _ hc))) hq,
    λht=>mL b (h.2 ht) λex e w' X' hX he hq=>hk ex e w' X' hX (λs hs=>he s (λhc=>hs (dJ _ hc))) hq⟩
  omega
 | .alt a b,K,K',env,w,X,h,hk=>by
  exact⟨mL a h.1 λex e w' X' hX he hq=>hk ex e w' X' hX (λs hs=>he s (λhc=>hs (bP _ hc))) hq,
   mL b h.2 λex e w' X' hX he hq=>hk ex e w' X' hX (λs hs=>he s (λhc=>hs (dJ _ hc))) hq⟩
 | .fc id a,K,K',env,w,X,h,hk=>by
  refine mL a (K:=lA.fc id K) h λex e w' X' hX he hq=>?_;cases ex with
  |exit i=>
   simp only[lA.fc] at hq⊢;split
   ·rename_i hi;rw[if_pos hi] at hq;exact hk _ e w' X' hX he hq
   ·rename_i hi;rw[if_neg hi] at hq;exact hk _ e w' X' hX he hq
  |normal=>exact hk _ e w' X' hX he hq
  |goto i=>exact hk _ e w' X' hX he hq
  |ret=>exact hk _ e w' X' hX he hq
  |panic c=>exact hk _ e w' X' hX he hq
  |outgrown=>exact hk _ e w' X' hX he hq
 | .loop M C a,K,K',env,w,X,h,hk=>by
  obtain⟨J,h0,hJ⟩:=h;refine⟨J,h0,λn e w' X' hX hj=>?_⟩;refine mL a (K:=lA.Fz (λe' mq wG=> ∃m,m<n/\J m (C.map e') mq wG) K) (hJ n e w' X' hX hj) λex e2 w2 X2 hX2 he2 hq=>?_;have rB: ∀k,X k->X2 k:=λk hk=>hX2 k (hX k hk);have Aj: ∀s,¬s∈(T.loop M C a).wr->e2 s=env s:=λs hs=>by
   simp only[T.wr,rU,not_or] at hs;rw[he2 s hs.2];exact FB hs.1
  cases ex with
  |normal=>exact hq
  |exit i=>exact hk _ e2 w2 X2 rB Aj hq
  |goto i=>exact hk _ e2 w2 X2 rB Aj hq
  |ret=>exact hk _ e2 w2 X2 rB Aj hq
  |panic c=>exact hk _ e2 w2 X2 rB Aj hq
  |outgrown=>exact hk _ e2 w2 X2 rB Aj hq
 | .exit id,K,K',env,w,X,h,hk=>hk _ _ _ _ (λ_ h=>h) (λ_ _=>rfl) h
 | .ret,K,K',env,w,X,h,hk=>hk _ _ _ _ (λ_ h=>h) (λ_ _=>rfl) h
 | .skip,K,K',env,w,X,h,hk=>hk _ _ _ _ (λ_ h=>h) (λ_ _=>rfl) h
theorem agS {c:Code} (I:Nat->Act->World->Prop) (h₀: ∃n,I n a w)
  (round: ∀n a w,I n a w->c.wp P (Exit.then (λa' w'=> ∃m,m<n/\I m a' w') Q) a w):(Code.loop c).wp P Q a w:=by
 intro b k cs;have key: ∀n a w,I n a w-> ∃e a' w',Q e a' w'/\Arrives P (lone (b.at a (.code c:: .inLoop c::k)) cs w) b k cs e a' w':=by
  intro n
  induction n using Nat.strongRecOn with
  |_ n ih=>
   intro a w hI;obtain⟨e,a₁,w₁,hq,Km⟩:=round n a w hI b (.inLoop c::k) cs;cases e with
   |normal=>
    obtain⟨m,cD,hI₁⟩:=hq;obtain⟨e₂,a₂,w₂,hq₂,harr₂⟩:=ih m cD a₁ w₁ hI₁;exact⟨e₂,a₂,w₂,hq₂,.of_steps (Steps.trans Km (.one step_inLoop)) harr₂⟩
   |exit id=>exact⟨_,a₁,w₁,hq,.pass (x:=.inLoop c) rfl (λ_ _=>.inl sQ) Km⟩
   |goto l=>exact⟨_,a₁,w₁,hq,.pass (x:=.inLoop c) rfl (λ_ _=>.inl sQ) Km⟩
   |ret=>exact⟨_,a₁,w₁,hq,.pass (x:=.inLoop c) rfl (λ_ _=>.inl sQ) Km⟩
   |panic ch=>exact⟨_,a₁,w₁,hq,.pass (x:=.inLoop c) rfl (λ_ _=>.inl sQ) Km⟩
   |outgrown=>exact⟨_,a₁,w₁,hq,.pass (x:=.inLoop c) rfl (λ_ _=>.inl sQ) Km⟩
 obtain⟨n,h₀⟩:=h₀;obtain⟨e,a',w',hq,Km⟩:=key n a w h₀;exact⟨e,a',w',hq,.of_steps (.one step_loop) Km⟩
def QP (pl:gx) (ds:Bk) (K:lA):Exit->Act->World->Prop
 | .panic ch,a,w=>a.defers=ds.ds/\ ∃env X w0,Kp X w0 w/\K (.panic ch) env w0 X/\zD pl ds env X a w
 | .outgrown,_,_=>False
 |e,a,w=> ∃env X w0,fF pl ds .start env X w0 a w/\K e env w0 X
variable {fn : Func} {R : Ending -> World -> Prop} {args : Array Value} {f : FuncId}
theorem fF.drop (h:fF pl ds cs env X w0 a w):fF pl ds .start env X w0 a w:=
 { h with sig:=λ_ hp=>(by cases hp),live:=λ_ hp=>(by cases hp),ptr:=λ_ hp=>(by cases hp) }
theorem PY: ∀(l acc:List Nat) (s:Nat),(s∈l\/s∈acc)->s∈tP l acc
 |[],acc,s,h=>h.elim (λh=>by cases h) id
 |x::r,acc,s,h=>by
  simp only[tP];refine PY r _ s ?_;rcases h with h|h
  ·rcases List.mem_cons.1 h with rfl|h
   ·right;split
    ·rename_i hc;simpa using hc
    ·exact zd ..
   ·exact .inl h
  ·right;split
   ·exact h
   ·exact bX _ h
theorem QP.mono {K K':lA} (h: ∀ex e w X,K ex e w X->K' ex e w X) (ex:Exit) (a:Act) (w:World) (hq:QP pl ds K ex a w):QP pl ds K' ex a w:=by
 cases ex<;>simp only[QP] at hq⊢
 case panic ch=>grind
 all_goals grind
theorem Mz: ∀(c:Code) (t:T) (K:lA) (env:Env) (X:XS) (w0:World) (a:Act) (w:World),
  jJ P pl c=some t->(∀b,b∈t.mk-> ∀p,p∈ds.pins->p.1≠b)->fF pl ds .start env X w0 a w->den P t K env w0 X->c.wp P (QP pl ds K) a w:=by
 intro c
 induction c with
 |skip=>
  intro t K env X w0 a w hc hm h hd;simp only[jJ,aj] at hc;subst hc;exact wp_skip ⟨env,X,w0,h,hd⟩
 |region id ops draw=>
  intro t K env X w0 a w hc hm h hd;have hN: ∀pH a' w' dz X' ey,fF pl ds pH dz X' ey a' w'->(λe w X=>K .normal e w X) dz ey X'->QP pl ds K .normal a' w':=
   λpH a' w' dz X' ey h1 h2=>⟨dz,X',ey,h1.drop,h2⟩
  have hQ: ∀ch a' w' dz X' ey,a'.defers=ds.ds->Kp X' ey w'->zD pl ds dz X' a' w'->(λch=>K (.panic ch)) ch dz ey X'->QP pl ds K (.panic ch) a' w':=
   λch a' w' dz X' ey h0 h1 AG h2=>⟨h0,dz,X',ey,h1,h2,AG⟩
  simp only[jJ] at hc;split at hc
  ·rename_i Kn;subst Kn;split at hc
   ·rename_i Hc;simp only[aB] at Hc;refine wp_region_any Hc.1 (PK (pl:=pl) _ _ _ _ ?_);have Jm: ∀c a (d:Option Nat) v w,(∀x,d=some x-> ∀p,p∈ds.pins->p.1≠x)->QP pl ds K (.panic c) (a.put d v) w->QP pl ds K (.panic c) a w:=λc a d v w hd hq=>by
     obtain⟨h1,e,X',ey,h2,h3,h4⟩:=hq;exact⟨by cases d<;>exact h1,e,X',ey,h2,h3,h4.put hd⟩
    split at hc
    ·rename_i tl hl;simp only[aj] at hc;subst hc;exact Hb hN hQ Jm Hc.2 _ _ _ tl env X w0 _ _ hl hm (h.js (Ext.drew w)) hd
    ·exact Oz hN hQ Jm Hc.2 _ _ _ t env X w0 _ _ hc hm (h.js (Ext.drew w)) hd
   ·cases hc
  ·rename_i Kn;simp only[Bool.not_eq_true] at Kn;subst Kn;cases hl:Ia P pl ops ops.toList .start with
   |none=>grind
   |some tl=>
    simp only[hl,aY,aj] at hc;subst hc;exact wp_region_list (PW hN hQ ops.toList .start tl env X w0 a w hl hm h hd)
 |seq x y ihx ihy=>
  intro t K env X w0 a w hc hm h hd;simp only[jJ] at hc;cases hx:jJ P pl x with
  |none=>simp[hx] at hc
  |some tx=>
   cases hy:jJ P pl y with
   |none=>simp[hx,hy] at hc
   |some ty=>
    simp only[hx,hy,aj] at hc;have Ko:den P (.seq tx ty) K env w0 X:=by
     subst hc;split at hd
     ·exact hd
     ·show den P tx (lA.Fz (λe w X=>den P .skip K e w X) K) env w0 X
      refine mL tx hd λex e w' X' _ _ hq=>?_;cases ex<;>exact hq
     ·exact hd
    have En: ∀b,b∈tx.mk\/b∈ty.mk-> ∀p,p∈ds.pins->p.1≠b:=λb hb=>hm b (by
     rw[<-hc];split
     ·exact hb.resolve_left (λh=>by cases h)
     ·exact hb.resolve_right (λh=>by cases h)
     ·exact List.mem_append.2 hb)
    refine wp_seq (wp_mono (ihx tx _ env X w0 a w hx (λb hb=>En b (.inl hb)) h Ko) λex a' w' hq=>?_);cases ex with
    |normal=>
     obtain⟨e,X',ey,h1,h2⟩:=hq;exact ihy ty K e X' ey a' w' hy (λb hb=>En b (.inr hb)) h1 h2
    |exit i=>exact hq
    |goto i=>exact hq
    |ret=>exact hq
    |panic c=>exact hq
    |outgrown=>exact hq
 |cond c x y ihx ihy=>
  intro t K env X w0 a w hc hm h hd;simp only[jJ] at hc;cases hv:valOf pl .start c with
  |none=>simp[hv] at hc
  |some e=>
   cases hx:jJ P pl x with
   |none=>simp[hv,hx] at hc
   |some tx=>
    cases hy:jJ P pl y with
    |none=>simp[hv,hx,hy] at hc
    |some ty=>
     simp only[hv,hx,hy,aj] at hc;subst hc;have he:=h.eval hv;simp only[den,me] at hd;split at hd
     ·rename_i b hb;rw[hb] at he;exact wp_cond_split he (λht=>ihx tx K env X w0 a w hx (λb hb=>hm b (bP _ hb)) h (hd.1 ht)) (λht=>ihy ty K env X w0 a w hy (λb hb=>hm b (dJ _ hb)) h (hd.2 ht))
     ·exact hd.elim
 |block id x ih=>
  intro t K env X w0 a w hc hm h hd;simp only[jJ] at hc;cases hx:jJ P pl x with
  |none=>simp[hx] at hc
  |some tx=>
   simp only[hx,aY,aj] at hc;subst hc;refine wp_block (wp_mono (ih tx _ env X w0 a w hx hm h hd) λex a' w' hq=>?_);cases ex with
   |exit i=>
    obtain⟨e,X',ey,h1,h2⟩:=hq;simp only[Exit.inBlock,lA.fc] at h2⊢;split
    ·rename_i hi;rw[if_pos hi] at h2;exact⟨e,X',ey,h1,h2⟩
    ·rename_i hi;rw[if_neg hi] at h2;exact⟨e,X',ey,h1,h2⟩
   |normal=>exact hq
   |goto i=>exact hq
   |ret=>exact hq
   |panic c=>exact hq
   |outgrown=>exact hq
 |loop x ih=>
  intro t K env X w0 a w hc hm h hd;simp only[jJ] at hc;cases hx:jJ P pl x with
  |none=>simp[hx] at hc
  |some tx=>
   simp only[hx,aY,aj] at hc;subst hc;obtain⟨J,⟨n0,h0⟩,hJ⟩:=hd;refine agS (λn a w=> ∃e X' ey,fF pl ds .start (merge (tP tx.wr []) e env) X' ey a w/\(∀k,X k->X' k)/\J n (((tP tx.wr []).filter (yz pl.car)).map e) ey X') ⟨n0,env,X,w0,?_,λ_ h=>h,h0⟩ ?_
   ·have:merge (tP tx.wr []) env env=env:=by
     funext s
     by_cases hs:s∈tP tx.wr []
     ·exact WC hs
     ·exact FB hs
    rw[this];exact h
   ·rintro n a w ⟨e,X',ey,h1,h2,h3⟩;have tD:=mL tx (K':=λex e' mq wG=>lA.Fz (λe' mq wG=> ∃m,m<n/\J m (((tP tx.wr []).filter (yz pl.car)).map e') mq wG) K ex e' mq wG/\(∀k,X' k->wG k)/\ ∀s,¬s∈tx.wr->e' s=merge (tP tx.wr []) e env s) (hJ n e ey X' h2 h3)
     λex e' w' wG hX he hq=>⟨hq,hX,he⟩
    refine wp_mono (ih tx _ _ X' ey a w hx hm h1 tD) λex a' w' hq=>?_;cases ex with
    |normal=>
     obtain⟨e',wG,El,g1,⟨m,hm,g2⟩,g3,g4⟩:=hq;refine⟨m,hm,e',wG,El,?_,λk hk=>g3 k (h2 k hk),g2⟩;have:merge (tP tx.wr []) e' env=e':=by
      funext s
      by_cases hs:s∈tP tx.wr []
      ·exact WC hs
      ·rw[FB hs,g4 s λhc=>hs (PY _ _ _ (.inl hc)),FB hs]
     rw[this];exact g1
    |exit i=>obtain⟨e',wG,El,g1,g2,_⟩:=hq;exact⟨e',wG,El,g1,g2⟩
    |goto i=>obtain⟨e',wG,El,g1,g2,_⟩:=hq;exact⟨e',wG,El,g1,g2⟩
    |ret=>obtain⟨e',wG,El,g1,g2,_⟩:=hq;exact⟨e',wG,El,g1,g2⟩
    |panic c=>obtain⟨g0,e',wG,El,g1,⟨g2,_⟩,g3⟩:=hq;exact⟨g0,e',wG,El,g1,g2,g3⟩
    |outgrown=>exact hq
 |exit id=>
  intro t K env X w0 a w hc hm h hd;simp only[jJ,aj] at hc;subst hc;exact wp_exit ⟨env,X,w0,h,hd⟩
 |ret=>
  intro t K env X w0 a w hc hm h hd;simp only[jJ,aj] at hc;subst hc;exact wp_ret ⟨env,X,w0,h,hd⟩
 |rangeFunc=>intro t K env X w0 a w hc;cases hc
 |scope=>intro t K env X w0 a w hc;cases hc
 |label=>intro t K env X w0 a w hc;cases hc
 |goto=>intro t K env X w0 a w hc;cases hc
 |refuse=>intro t K env X w0 a w hc;cases hc
def acf (tmps:Array Value):ResultVar->Sem Value
 | .tmp t=>pure (tmps.getD t undef)
 | .cell c t=>do loadVar t (<-asAddr (tmps.getD c undef))
theorem WD (h:fF pl ds cs env X w0 a w): ∀(l:List ResultVar) (es:List Ex) (nd:List Nat),
  Eh P pl l=some (es,nd)->(∀b,b∈nd->dI (env b)=true)->
  (l.mapM (acf a.tmps)).run P w=Result.ok (es.map (·.ev env)) w
 |[],es,nd,hc,_=>by
  simp only[Eh,aj,cV] at hc;simp_all
 | .tmp t::r,es,nd,hc,hl=>by
  simp only[Eh] at hc;split at hc
  ·rename_i hg;cases hr:Eh P pl r with
   |none=>grind
   |some x=>
    obtain⟨es',nd'⟩:=x;simp only[hr,aY,aj,cV] at hc;obtain⟨rfl,rfl⟩:=hc;have ih:=WD h r es' nd' hr hl;simp[List.mapM_cons,acf,ih,h.qz t hg,Ex.ev]
  ·cases hc
 | .cell c t::r,es,nd,hc,hl=>by
  simp only[Eh] at hc;split at hc
  ·rename_i bs ag sz hb ht;split at hc
   ·rename_i sM;simp only[aB,decide_eq_true_eq] at sM;cases hr:Eh P pl r with
    |none=>grind
    |some x=>
     obtain⟨es',nd'⟩:=x;simp only[hr,aY,aj,cV] at hc;obtain⟨rfl,rfl⟩:=hc;have ih:=WD h r es' nd' hr λb hb=>hl b (bX _ hb);obtain⟨cells,qi⟩:=vX.1 (hl c (zd ..));obtain⟨k,ty,e1,e2,e3,_⟩:=h.box c bs hb cells qi;have hld:=PR ht sM.2 e2 0 zQ;have apJ:(loadVar t ⟨k,0,none⟩).run P w= .ok (if ag then yg (.agg cells) 0 sz else cellOf (.agg cells) 0) w:=by
      simpa [ji,oZ,ez] using hld
     have Ts:(if ag then Ex.s c 0 sz else Ex.k c 0).ev env=if ag then yg (.agg cells) 0 sz else cellOf (.agg cells) 0:=by
      cases ag<;>simp[Ex.ev,qi]
     simp[List.mapM_cons,acf,ih,e1,ez,asAddr,apJ,Ts]
   ·cases hc
  ·cases hc
theorem MA (h:fF pl ds cs env X w0 a w) {es:List Ex}
  (hc:Eh P pl fn.results.toList=some (es,nd)) (hl: ∀b,b∈nd->dI (env b)=true):(results fn a.tmps).run P w= .ok (Wn es env) w:=by
 have hr:=WD h _ _ _ hc hl;have hf:results fn a.tmps=(do let vs<-fn.results.mapM (acf a.tmps);pure (if h:vs.size=1 then vs[0] else .tuple vs)):=by
  unfold results
  congr 2
 rw[hf,Array.mapM_eq_mapM_toList];simp only[Sem.run_bind,Sem.run_map,hr,Result.andThen_ok,Sem.run_pure]
 congr 1
 match es with
 |[]=>rfl
 |[e]=>rfl
 |e::e'::r=>simp[Wn]
def OB (P:Program) (o:Option FT) (R:Ending->World->Prop) (args:Array Value) (w:World):Prop:=match o with
 |some ft=>den P ft.code (Ox ft R) (mV args) w (bI w)
 |none=>False
theorem WE {ft:FT} (hf:P.funcs[f]? =some fn)
  (hc:cF P pl fn=some ft) (aji:args.size<=pl.n) (zN:(pl.boxes.all λp=>decide (args.size<=p.1))=true)
  (h:den P ft.code (Ox ft R) (mV args) w (bI w)):Calls P f args w R:=by
 unfold cF at hc;split at hc
 ·rename_i hn;have mr:fn.ntmps=pl.n:=by simpa using hn
  split at hc
  ·rename_i c hb;split at hc
   ·rename_i t r nd ajj OC;injection hc with hc
    subst hc;refine calls_of_wp hf hb (wp_mono (Mz (pl:=pl) (ds:=⟨[],[]⟩) c t (Ox ⟨t,r,nd⟩ R) (mV args) (bI w) w _ w ajj (λ_ _ _ hp=>by cases hp) ?_ h) λex a' w' hq=>?_)
    ·have acg:(args++dg (fn.ntmps-args.size) undef).size=pl.n:=by simp;omega
     have Db: ∀s,s<pl.n->(args++dg (fn.ntmps-args.size) undef)[s]? =some (mV args s):=by
      intro s hs;rw[kB];split
      ·rename_i h1;simp[mV,pR,h1]
      ·rename_i h1;rw[jz,if_pos zQ];simp only[mV,pR];rw[wE (by simpa using h1)];rfl
     have Kq: ∀b n,look pl.boxes b=some n->mV args b=undef:=by
      intro b n hb;have h1:=List.all_eq_true.1 zN _ (BO hb);simp only[decide_eq_true_eq] at h1;simp only[mV,pR];rw[wE zQ];rfl
     exact {
      size:=acg
      defers:=rfl
      Ai:=λ_ hp=>(by cases hp)
      ext:=Kp.refl _ _
      xq:=λ_ hk=>hk
      qz:=λs hs=>Db s (tp hs).1
      sig:=λ_ hp=>(by cases hp)
      box:=λb n hb cells hc=>by rw[Kq b n hb] at hc;cases hc
      inj:=λb b' n n' hb dZ h1=>by rw[Kq b n hb] at h1;cases h1
      conv:=λb n hb k hk=>by
       have h1:=List.all_eq_true.1 zN _ (BO hb);simp only[decide_eq_true_eq] at h1;rw[kB,if_neg zQ,jz] at hk;split at hk
       ·cases hk
       ·cases hk
      live:=λ_ hp=>(by cases hp)
      ptr:=λ_ hp=>(by cases hp) }
    ·cases ex with
     |normal=>
      obtain⟨e,X',ey,h1,hq⟩:=hq;obtain⟨h2,h3⟩:=dO.1 hq;exact⟨h1.defers,_,MA h1 OC (List.all_eq_true.1 h2),h3 w' h1.ext⟩
     |ret=>
      obtain⟨e,X',ey,h1,hq⟩:=hq;obtain⟨h2,h3⟩:=dO.1 hq;exact⟨h1.defers,_,MA h1 OC (List.all_eq_true.1 h2),h3 w' h1.ext⟩
     |panic ch=>
      obtain⟨h0,e,X',ey,h1,h2,_⟩:=hq;exact⟨h0,h2 w' h1⟩
     |exit i=>obtain⟨e,X',ey,h1,h2⟩:=hq;exact h2
     |goto i=>obtain⟨e,X',ey,h1,h2⟩:=hq;exact h2
     |outgrown=>exact hq.elim
   ·cases hc
  ·cases hc
 ·cases hc
theorem Gq {V:Prop} (hf:P.funcs[f]? =some fn)
  (hs:(decide (args.size<=pl.n)&&pl.boxes.all λp=>decide (args.size<=p.1))=true) (hv:V=OB P (cF P pl fn) R args w) (h:V):Calls P f args w R:=by
 subst hv;unfold OB at h;simp only[aB,decide_eq_true_eq] at hs;split at h
 ·rename_i ft hc;exact WE hf hc hs.1 hs.2 h
 ·exact h.elim
def lK (P:Program) (X:XS) (w:World) (s:Sem Next) (N:Value->Prop):Prop:= ∃v,Rd P X w s v/\N v
def aV (P:Program) (X:XS) (w:World) (s:Sem Value) (N:Value->Prop):Prop:=lK P X w (vS s) N
def lB (P:Program) (X:XS) (w:World) (g:Value) (want:Bool) (s:Sem Next) (N:Value->Prop):Prop:=
 ∃v,(oe g want=true->Rd P X w s v)/\(oe g want=false->v=undef)/\N v
def pT (g:Value) (want:Bool) (v:Value):Value:=if oe g want then v else undef
def iu (c a b:Value):Sem Next:=do pure (.value (if<-asBool c then a else b))
def bu (x:Value):Sem Next:=execOp (λ_=>x) (Wg (.nilCheck (.tmp 0)) 0)
def eB (op:BinOp) (t:TypeId) (xo yo:Operand) (x y:Value):Sem Value:=do eqGuard op t xo yo x y;binOp op t x y
def uS (s:Sem Unit):Sem Next:=do s;pure .skip
def pn (R:Ending->World->Prop):List PanicEntry->World->XS->Prop:=λch w X=> ∀wa,Kp X w wa->R (.panicked ch) wa
def eW (P:Program) (R:Ending->World->Prop) (X:XS) (w:World) (m:Bool) (s:Sem Next) (N:Value->World->XS->Prop):Prop:=
 ∀wa,Kp X w wa->jA P m X wa N (pn R) (s.run P wa)
def eV (P:Program) (R:Ending->World->Prop) (X:XS) (w:World) (m:Bool) (s:Sem Value) (N:Value->World->XS->Prop):Prop:=eW P R X w m (vS s) N
def eU (P:Program) (R:Ending->World->Prop) (X:XS) (w:World) (m:Bool) (s:Sem Unit) (N:Value->World->XS->Prop):Prop:=eW P R X w m (uS s) N
def eC (P:Program) (R:Ending->World->Prop) (X:XS) (w:World) (m:Bool) (f:FuncId) (args:Array Value) (N:Value->World->XS->Prop):Prop:=eW P R X w m (callFunc f args) N
def eF (P:Program) (R:Ending->World->Prop) (X:XS) (w:World) (m:Bool) (f:Value) (args:Array Value) (N:Value->World->XS->Prop):Prop:=eW P R X w m (H8 f args) N
def gE (g:Value) (want:Bool) (A B:Prop):Prop:=(oe g want=true->A)/\(oe g want=false->B)
def fin (R:Ending->World->Prop) (X:XS) (w:World) (v:Value):Prop:= ∀wa,Kp X w wa->R (.returned v) wa
abbrev JT:=Nat->List Value->World->XS->Prop
def Eo (J:JT) (n:Nat) (vs:List Value) (w:World) (X:XS):Prop:= ∃m,m<n/\J m vs w X
def PZ (X:XS) (w:World) (vs:List Value) (C:List Nat) (B:JT->Nat->Env->World->XS->Prop):Prop:=
 ∃J:JT,(∃n,J n vs w X)/\ ∀n (e:Env) w' X',(∀k,X k->X' k)->J n (C.map e) w' X'->B J n e w' X'
variable {P : Program} {R : Ending -> World -> Prop} {X : XS} {w : World} {m : Bool}
variable {N : Value -> Prop}
theorem Hd {s:Sem Value} (v:Value) (h: ∀wa,Kp X w wa->s.run P wa= .ok v wa) (k:N v):aV P X w s N:=
 ⟨v,λwa hk=>by simp[vS,h wa hk],k⟩
def bF {s:Sem Value} (h: ∀wa,s.run P wa= .ok v wa) (k:N v):aV P X w s N:=
 Hd v (λwa _=>h wa) k
def WG {s:Sem Next} (h: ∀wa,s.run P wa= .ok (.value v) wa) (k:N v):lK P X w s N:=
 ⟨v,λwa _=>h wa,k⟩
theorem D9 {α:Type} [BEq α] [LawfulBEq α] [DecidableEq α] (a b:α):(a==b)=decide (a=b):=by grind
variable {xo yo : Operand}
section
variable {t : TypeId} {k : IntKind} {a b : Int}
theorem ajU (h:N (.bool (decide (a<b)))):aV P X w (binOp .lss t (.int k a) (.int k b)) N:=bF (λwa=>by simp[binOp,sI]) h
theorem ajV (h:N (.bool (decide (a<=b)))):aV P X w (binOp .leq t (.int k a) (.int k b)) N:=bF (λwa=>by simp[binOp,sI]) h
theorem ajW (h:N (.bool (decide (a>b)))):aV P X w (binOp .gtr t (.int k a) (.int k b)) N:=bF (λwa=>by simp[binOp,sI]) h
theorem ajX (h:N (.bool (decide (a>=b)))):aV P X w (binOp .geq t (.int k a) (.int k b)) N:=bF (λwa=>by simp[binOp,sI]) h
theorem nK (h:N (.int k (k.wrap (a+b)))):aV P X w (binOp .add t (.int k a) (.int k b)) N:=bF (λwa=>by simp[binOp,AB]) h
theorem abt (h:N (.int k (k.wrap (a-b)))):aV P X w (binOp .sub t (.int k a) (.int k b)) N:=bF (λwa=>by simp[binOp,AB]) h
theorem RW (h:N (.int k (k.wrap (a*b)))):aV P X w (binOp .mul t (.int k a) (.int k b)) N:=bF (λwa=>by simp[binOp,AB]) h
theorem RX (h:N (.bool (decide (a=b)))):aV P X w (eB .eql t xo yo (.int k a) (.int k b)) N:=
 bF (λwa=>by simp[eB,eqGuard,binOp,sI,D9]) h
theorem ajY (h:N (.bool (decide (a≠b)))):aV P X w (eB .neq t xo yo (.int k a) (.int k b)) N:=
 bF (λwa=>by simp[eB,eqGuard,binOp,sI,bne,D9]) h
end
section
variable {t : TypeId} {a b : ByteArray}
theorem agT (h:N (.bool (decide (a.toList=b.toList)))):aV P X w (eB .eql t xo yo (.string a) (.string b)) N:=
 bF (λwa=>by simp[eB,eqGuard,binOp,wF,D9]) h
theorem agU (h:N (.bool (decide (a.toList≠b.toList)))):aV P X w (eB .neq t xo yo (.string a) (.string b)) N:=
 bF (λwa=>by simp[eB,eqGuard,binOp,wF,D9]) h
theorem agV (h:N (.bool (ct a.toList b.toList))):aV P X w (binOp .lss t (.string a) (.string b)) N:=
 bF (λwa=>by rfl) h
theorem agW (h:N (.bool (!ct a.toList b.toList))):aV P X w (binOp .geq t (.string a) (.string b)) N:=
 bF (λwa=>by rfl) h
theorem agX (h:N (.bool (ct a.toList b.toList||decide (a.toList=b.toList)))):aV P X w (binOp .leq t (.string a) (.string b)) N:=
 bF (λwa=>by simp[binOp,wF,D9]) h
theorem agY (h:N (.bool (!(ct a.toList b.toList||decide (a.toList=b.toList))))):aV P X w (binOp .gtr t (.string a) (.string b)) N:=
 bF (λwa=>by simp[binOp,wF,D9]) h
end
section
variable {t : TypeId} {k : FloatKind} {a b : Nat}
theorem agZ (h:N (.bool (k.format.order a b==some .lt))):aV P X w (binOp .lss t (.float k a) (.float k b)) N:=bF (λwa=>by simp[binOp,pF]) h
theorem ag0 (h:N (.bool (k.format.order a b==some .lt||k.format.order a b==some .eq))):aV P X w (binOp .leq t (.float k a) (.float k b)) N:=
 bF (λwa=>by simp[binOp,pF]) h
theorem ag1 (h:N (.bool (k.format.order a b==some .gt))):aV P X w (binOp .gtr t (.float k a) (.float k b)) N:=bF (λwa=>by simp[binOp,pF]) h
theorem ag2 (h:N (.bool (k.format.order a b==some .gt||k.format.order a b==some .eq))):aV P X w (binOp .geq t (.float k a) (.float k b)) N:=
 bF (λwa=>by simp[binOp,pF]) h
theorem ag3 (h:N (.bool (k.format.order a b==some .eq))):aV P X w (eB .eql t xo yo (.float k a) (.float k b)) N:=
 bF (λwa=>by simp[eB,eqGuard,binOp,pF]) h
theorem ag4 (h:N (.bool (k.format.order a b !=some .eq))):aV P X w (eB .neq t xo yo (.float k a) (.float k b)) N:=
 bF (λwa=>by simp[eB,eqGuard,binOp,pF]) h
end
section
variable {t : TypeId} {k k2 : IntKind} {a b : Int}
theorem Ea (hb: ¬b<0) (h:N (.int k (a.fdiv (2^min b.toNat k.bits)))):aV P X w (binOp .shr t (.int k a) (.int k2 b)) N:=
 bF (λwa=>by simp[binOp,Op.shift,hb]) h
theorem RY (hb: ¬b<0) (h:N (.int k (k.wrap (a*2^min b.toNat k.bits)))):aV P X w (binOp .shl t (.int k a) (.int k2 b)) N:=
 bF (λwa=>by simp[binOp,Op.shift,hb]) h
theorem RZ (h:N (.int k (k.wrap (aF k.bits a^^^aF k.bits b).toNat))):aV P X w (binOp .xor t (.int k a) (.int k b)) N:=
 bF (λwa=>by simp[binOp,Op.intBits]) h
theorem MB (h:N (.int k (k.wrap (aF k.bits a&&& aF k.bits b).toNat))):aV P X w (binOp .and t (.int k a) (.int k b)) N:=
 bF (λwa=>by simp[binOp,Op.intBits]) h
end
variable {x y : Value} {A : Prop}
section
variable {b c : Bool} {g : Value}
theorem abu (h:N (.bool (!b))):aV P X w (Op.unary .not (.bool b)) N:=bF (λwa=>by rfl) h
theorem WH (h:N (if b then x else y)):lK P X w (iu (.bool b) x y) N:=WG (λwa=>by rfl) h
def Kr (h:N x):lK P X w (iu (.bool true) x y) N:=WH h
def Ks (h:N y):lK P X w (iu (.bool false) x y) N:=WH h
theorem MC {s:Sem Next} (h:lK P X w s N):lB P X w (.bool want) want s N:=by
 obtain⟨v,hv,hn⟩:=h;exact⟨v,λ_=>hv,λhf=>absurd hf (by simp[oe]),hn⟩
theorem WI {s:Sem Next} (h:N undef):lB P X w (.bool (!want)) want s N:=
 ⟨undef,λhf=>absurd hf (by cases want<;>simp[oe]),λ_=>rfl,h⟩
def ag5 {s:Sem Next} (h:lK P X w s N):lB P X w (.bool true) true s N:=MC h
def ag6 {s:Sem Next} (h:lK P X w s N):lB P X w (.bool false) false s N:=MC h
def Tx {s:Sem Next} (h:N undef):lB P X w (.bool false) true s N:=WI (want:=true) h
def ae5 {s:Sem Next} (h:N undef):lB P X w (.bool true) false s N:=WI (want:=false) h
def ajZ {B:Prop} (h:b=true->A) (k:b=false->B):me (.bool b) A B:=⟨h,k⟩
theorem ach {B:Prop} (h:b=want->A) (k:b=!want->B):gE (.bool b) want A B:=
 ⟨λe=>h (by simpa [oe] using e),λe=>k (by revert e;cases b<;>cases want<;>simp[oe])⟩
def alq {B:Prop} (h:A):gE (.bool true) true A B:=ach (λ_=>h) sQ
def apK {B:Prop} (h:A):gE (.bool false) false A B:=ach (λ_=>h) sQ
def aoh {B:Prop} (h:B):gE (.bool true) false A B:=ach sQ (λ_=>h)
def ajk {B:Prop} (h:B):gE (.bool false) true A B:=ach sQ (λ_=>h)
theorem NG {vs:Array Value} (hi:vs[i]? =some v) (h:N v):aV P X w (gz (.tuple vs) i) N:=
 bF (λwa=>by simp[gz,hi]) h
def aj0 {a:Addr} (h:N (.pointer (some a))):lK P X w (bu (.pointer (some a))) N:=
 WG (λ_=>rfl) h
theorem WJ {t e:TypeId} {p:Option Addr} (ht:P.underlying t=some (.pointer e)) (h:N (.bool p.isNone)):
  aV P X w (eB .eql t xo yo (.pointer p) (.pointer none)) N:=by
 refine bF (λwa=>?_) h;have hp:P.pointee t=e:=by simp[Program.pointee,ht]
 have:=run_equal_pointer_nil (P:=P) (w:=wa) t p gQ;simp[eB,eqGuard,binOp,this]
end
theorem alr {N:Value->World->XS->Prop} (Q:Value->World->World->Prop)
  (hf: ∀wa,(callFunc f args).run P wa= .ok (.enter f args) wa)
  (h: ∀wa,Kp X w wa->Calls P f args wa λe w'=> ∃v,e= .returned v/\Ext wa w'/\Q v wa w')
  (k: ∀v wa w',Kp X w wa->Ext wa w'->Q v wa w'->N v w' (grow X wa w')):eC P R X w m f args N:=by
 intro wa hk;unfold jA;rw[hf wa];refine⟨rfl,(h wa hk).mono ?_⟩
 grind [Step.eP]
end Go.aK