/- Part 1 of the proof. -/
import Derived.KernelRfl
import Derived.Orders
import Derived.Below
import Derived.Laws.Sem
import Derived.Laws.CopyRow
import Derived.Laws.Entries
import Derived.Laws.Cells
import GoSem.Dispatch
import Derived.Laws.Rows
import Derived.Laws.Pointers
set_option linter.all false
open Option.some renaming injEq → aj
open Go.Region renaming wanted → cG, ready → iy, binds → uQ, noSelect → vV, noSelect_spec → xi
open Bool renaming and_eq_true → aF, not_eq_true' → cX, false_eq_true → aW, or_eq_true → oh, not_eq_false → Ag
open List renaming mem_append_left → bM, mem_append_right → dE, mem_filter → iw, range → dx, mem_cons_of_mem → bG, mem_append → rV, mem_cons → ic, cons_append → jW, getD → pR, contains_iff_mem → wz, all_eq_true → lp, nil_append → cC, flatMap_cons → jA, mem_cons_self → lQ, getElem?_eq_none → wA
open Option renaming map_some → aY, bind_some → cM, isNone_iff_eq_none → nO
open Go.Act renaming put → nj, eval → xj
open Go.Oper renaming upon → nJ, wp → tj, apart_spec → vW
open Prod.mk renaming injEq → cP
open Go.Op renaming intCmp → sJ, floatCmp → pC, stringOp → wB, bytesLess → bW, intArith → AE
open Nat renaming le_refl → au, lt_of_lt_of_le → av, le_trans → ad
open Array renaming replicate → cZ, getElem?_setIfInBounds_ne → lq, getElem?_eq_none → pS, toList_map → nk, any_eq_true' → yy, setIfInBounds_comm → tN, getElem?_setIfInBounds → dL, getElem?_append → kD, getElem?_replicate → jB
open Go.Instr renaming sureAddr → oX, loadAt → jm, extract → gD
open BitVec renaming ofInt → aC
open Go.Deferred renaming ofValue → lr
namespace Go.aL
theorem kS {α:Type _} {a b:α} (h:a=b:=by kernel_rfl):some a=some b:=congrArg some h
variable {p : Prop}
theorem qF (h:p:=by first|assumption|exact aH.cells (by assumption)):p:=h
theorem qO (h:p:=by first|assumption|exact Own.sl (by assumption)):p:=h
theorem qM (h:p:=by first|exact mv0|exact mv1 (by assumption)|exact mv2 (by assumption) (by assumption)):p:=h
theorem qN (h:p:=by simp only[Value.cells,nq1,nq2,nq3,nq4,nq5,nq6,dr,nq7,nq8,nq9,nq0,Nat.reduceAdd,Nat.zero_add];try rfl):p:=h
theorem qE (h:p:=by(repeat' first|with_reducible apply Kk|with_reducible exact NA|assumption|rfl|exact Sl.one (by assumption)|exact fg.one (by assumption)|exact Sl.one (Own.sl (by assumption)));done):p:=h
theorem qC (h:p:=by first|rfl|assumption|exact Sl.one (by assumption)|exact fg.one (by assumption)|exact Sl.one (Own.sl (by assumption))):p:=h
theorem qR (h:p:=by first|assumption|exact List.getElem?_eq_getElem (by omega)):p:=h
theorem qA (h:p:=by first|assumption|exact Sl.mv (by assumption) qM|exact qw.mv (by assumption) qM|exact qx.mv (by assumption) qM|exact Rec.at.mv (by assumption) qM|exact Own.sl (by assumption)|exact Cells.mv (by assumption) qM|exact Cells.mv (aH.cells (by assumption)) qM|omega):p:=h
theorem kQ (h:p:=by kernel_rfl):p:=h
theorem zQ (h:p:=by omega):p:=h
theorem aQ (h:p:=by assumption):p:=h
theorem dQ (h:p:=by decide):p:=h
theorem gQ (h:p:=by grind):p:=h
theorem oQ (h:p:=by simp;omega):p:=h
theorem sQ (h:p:=by simp):p:=h
abbrev Env:=Nat->Value
abbrev XS:=Nat->Prop
def jR (e:Env) (d:Nat) (v:Value):Env:=λs=>match s==d with
 |true=>v
 |false=>e s
def Kl (e:Env) (d:Option Nat) (v:Value):Env:=match d with
 |some d=>jR e d v
 |none=>e
structure Fr (X:XS) (w w':World):Prop where
 os:w'.os=w.os
 tape:w'.tape=w.tape
 output:w'.output=w.output
 size:w.heap.size<=w'.heap.size
 block: ∀k,k<w.heap.size-> ¬X k->w'.heap[k]? =w.heap[k]?
def nX:XS:=λ_=>False
def Ext (w w':World):Prop:=Fr nX w w'
theorem Fr.refl (X:XS) (w:World):Fr X w w:=⟨rfl,rfl,rfl,au _,λ_ _ _=>rfl⟩
variable {b c : World} {X : XS}
theorem Fr.trans {a:World} (h:Fr X a b) (k:Fr X b c):Fr X a c:=
 ⟨k.os.trans h.os,k.tape.trans h.tape,k.output.trans h.output,ad h.size k.size,
  λi hi hx=>(k.block i (av hi h.size) hx).trans (h.block i hi hx)⟩
variable {Y : XS}
def Fr.mono {a:World} (h:Fr X a b) (hs: ∀k,X k->Y k):Fr Y a b:=
 ⟨h.os,h.tape,h.output,h.size,λi hi hy=>h.block i hi λhx=>hy (hs i hx)⟩
theorem Ext.refl (w:World):Ext w w:=Fr.refl _ _
theorem Ext.trans {a:World} (h:Ext a b) (k:Ext b c):Ext a c:=Fr.trans h k
theorem Ext.fr {a:World} (h:Ext a b) (X:XS):Fr X a b:=Fr.mono h (λ_ hf=>hf.elim)
theorem Ext.size {a:World} (h:Ext a b):a.heap.size<=b.heap.size:=Fr.size h
variable {k : Nat}
theorem Ext.block {a:World} (h:Ext a b) (hk:k<a.heap.size):b.heap[k]? =a.heap[k]? :=Fr.block h k hk (λhf=>hf)
def Ext.agU {a:World} (h:RowKit.Below a.heap.size a b):Ext a b:=⟨h.os,h.tape,h.output,h.size,λk hk _=>h.block k hk⟩
def Ext.below {a:World} (h:Ext a b):RowKit.Below a.heap.size a b:=⟨h.os,h.tape,h.output,Fr.size h,λ_ hk=>h.block hk⟩
theorem Ext.alloc (w:World) (o:Obj):Ext w (w.alloc o):=Ext.agU ((RowKit.Below.refl _ _).alloc (au _) o)
def Ext.drew (w:World):Ext w { w with drawn:=w.drawn+1 } :=⟨rfl,rfl,rfl,au _,λ_ _ _=>rfl⟩
structure Kp (X:XS) (w w':World):Prop where
 os:w'.os=w.os
 tape:w'.tape=w.tape
 output:w'.output=w.output
 size:w.heap.size<=w'.heap.size
 block: ∀k,X k->w'.heap[k]? =w.heap[k]?
theorem Kp.refl (X:XS) (w:World):Kp X w w:=⟨rfl,rfl,rfl,au _,λ_ _=>rfl⟩
theorem Kp.trans {a:World} (h:Kp X a b) (k:Kp X b c):Kp X a c:=
 ⟨k.os.trans h.os,k.tape.trans h.tape,k.output.trans h.output,ad h.size k.size,λi hx=>(k.block i hx).trans (h.block i hx)⟩
theorem Kp.less {a:World} (h:Kp X a b) (hs: ∀k,Y k->X k):Kp Y a b:=⟨h.os,h.tape,h.output,h.size,λi hy=>h.block i (hs i hy)⟩
theorem Fr.kp {a:World} (h:Fr X a b) (hy: ∀k,Y k->k<a.heap.size/\ ¬X k):Kp Y a b:=
 ⟨h.os,h.tape,h.output,h.size,λi hi=>h.block i (hy i hi).1 (hy i hi).2⟩
theorem Ext.kp {a:World} (h:Ext a b) (hx: ∀k,X k->k<a.heap.size):Kp X a b:=Fr.kp h λk hk=>⟨hx k hk,λhf=>hf⟩
def bK (w:World):XS:=λk=>k<w.heap.size
def Kp.ext {a:World} (h:Kp (bK a) a b):Ext a b:=⟨h.os,h.tape,h.output,h.size,λk hk _=>h.block k hk⟩
def Ext.bK {a:World} (h:Ext a b):Kp (bK a) a b:=h.kp λ_ hk=>hk
inductive Ex where
 |t (n:Nat)
 |c (v:Value)
 |s (b off n:Nat)
 |k (b off:Nat)
def yh (v:Value) (off n:Nat):Value:=.agg ((v.cells.toList.drop off).take n).toArray
def cellOf (v:Value) (i:Nat):Value:=v.cells.toList.getD i undef
def Ex.ev (env:Env):Ex->Value
 | .t n=>env n
 | .c v=>v
 | .s b off n=>yh (env b) off n
 | .k b off=>cellOf (env b) off
def Ex.Wx:Ex->Nat->Bool
 | .t n,d=>n==d
 | .c _,_=>false
 | .s b _ _,d=>b==d
 | .k b _,d=>b==d
def look {α:Type} :List (Nat×α)->Nat->Option α
 |[],_=>none
 |(s,e)::r,t=>if s=t then some e else look r t
def FF (env:Env) (ss:List (Nat×Ex)):Operand->Value
 | .tmp t=>match look ss t with
  |some e=>e.ev env
  |none=>env t
 | .const v=>v
 | .global g=>.pointer (some ⟨g,0,none⟩)
 | .func f=>.func (.func f) #[] #[]
def Wy (op:Op) (ty:TypeId):Oper:=⟨none,op,ty, "",#[],none⟩
def vS (s:Sem Value):Sem Next:=do pure (.value (<-s))
def H8 (f:Value) (args:Array Value):Sem Next:=do let d<-lr f args;invoke d.target d.args
def xk (ρ:Operand->Value) (a:Array Operand):Array Value:=(a.toList.map ρ).toArray
def acu (ρ:Operand->Value) (a:Array (Nat×Operand)):Array (Nat×Value):=(a.toList.map λp=>(p.1,ρ p.2)).toArray
def PX (ρ:Operand->Value) (op:Op) (ty:TypeId):Sem Next:=match op with
 | .call ⟨.value (.func f),args,_⟩=>callFunc f (xk ρ args)
 | .call ⟨.value (.tmp t),args,_⟩=>H8 (ρ (.tmp t)) (xk ρ args)
 | .call ⟨.builtin .len,args,ts⟩=>vS (Builtin.len_ ts ty (xk ρ args))
 | .call ⟨.builtin .cap,args,ts⟩=>vS (Builtin.cap_ ts ty (xk ρ args))
 | .call ⟨.builtin .min,args,ts⟩=>vS (Builtin.min_ ts ty (xk ρ args))
 | .call ⟨.builtin .max,args,ts⟩=>vS (Builtin.max_ ts ty (xk ρ args))
 | .call ⟨.builtin .append,args,ts⟩=>vS (Builtin.append_ ts ty (xk ρ args))
 | .call ⟨.builtin .copy,args,ts⟩=>vS (Builtin.copy_ ts ty (xk ρ args))
 | .call ⟨.builtin .delete,args,ts⟩=>vS (Builtin.delete_ ts ty (xk ρ args))
 | .call ⟨.builtin .clear,args,ts⟩=>vS (Builtin.clear_ ts ty (xk ρ args))
 | .call ⟨.builtin .panic,args,_⟩=>vS (Instr.panic ((xk ρ args).toList.getD 0 .nilIface))
 | .build t ps=>vS (Instr.build t (acu ρ ps))
 | .buildSlice t n ps=>vS (Instr.buildSlice t n (acu ρ ps))
 | .makeFunc fn a b=>vS (Instr.makeFunc fn (xk ρ a) (xk ρ b))
 |op=>execOp ρ (Wy op ty)
theorem Sc (ρ:Operand->Value) (a:Array Operand):xk ρ a=a.map ρ:=by
 unfold xk;rw[<-nk]
theorem aj9 (ρ:Operand->Value) (a:Array (Nat×Operand)):acu ρ a=a.map λp=>(p.1,ρ p.2):=by
 unfold acu;rw[<-nk]
theorem afd (ρ:Operand->Value) (hρ: ∀f,ρ (.func f)= .func (.func f) #[] #[]) (op:Op) (ty:TypeId):PX ρ op ty=execOp ρ (Wy op ty):=by
 unfold PX;split<;>first
  |rfl
  |(simp[execOp,Wy,resolve,invoke,lr,Sc,aj9,vS,builtin,H8,hρ];done)
def dr (l:List Value) (off:Nat) (vs:List Value):List Value:=l.take off++vs++l.drop (off+vs.length)
def Rd (P:Program) (X:XS) (w:World) (s:Sem Next) (v:Value):Prop:= ∀wa,Kp X w wa->s.run P wa= .ok (.value v) wa
def nZ (v:Value) (want:Bool):Bool:=match v with
 | .bool b=>b==want
 |_=>false
def gy:Value->Bool
 | .agg _=>true
 |_=>false
def one (v:Value):Bool:=match v with
 | .agg _| .tuple _=>false
 |_=>true
inductive TI where
 |zJ (b:Nat)
 |set (d:Nat) (e:Ex)
 |box (b n:Nat) (e:Ex)
 |put (b off n:Nat) (e:Ex)
 |BU (b:Nat) (e:Ex)
 |Wz (b off:Nat) (e:Ex)
 |fill (b n:Nat) (e:Ex)
 |rd (d:Nat) (op:Op) (ty:TypeId) (ss:List (Nat×Ex))
 |DB (d:Option Nat) (op:Op) (ty:TypeId) (ss:List (Nat×Ex)) (m:Bool)
 |WB (g:Nat) (want:Bool) (d:Nat) (e:Ex)
 |grd (g:Nat) (want:Bool) (d:Nat) (op:Op) (ty:TypeId) (ss:List (Nat×Ex))
 |WC (g:Nat) (want:Bool) (d:Option Nat) (op:Op) (ty:TypeId) (ss:List (Nat×Ex)) (m:Bool)
inductive T where
 |Bw (l:List TI)
 |seq (a b:T)
 |ite (e:Ex) (a b:T)
 |alt (a b:T)
 |eT (id:Nat) (a:T)
 |loop (M C:List Nat) (a:T)
 |exit (id:Nat)
 |ret
 |skip
def grow (X:XS) (w w':World):XS:=λk=>X k\/(w.heap.size<=k/\k<w'.heap.size)
def Step (m:Bool) (X:XS) (w w':World):Prop:=if m then Fr X w w' else Ext w w'
variable {w w' : World} {m : Bool}
theorem Step.fr (h:Step m X w w'):Fr X w w':=by
 unfold Step at h;split at h
 ·exact h
 ·exact h.fr X
theorem Step.eZ (h:Ext w w'):Step m X w w':=by
 unfold Step;split
 ·exact h.fr X
 omega
def jP (P:Program) (m:Bool) (X:XS) (w:World) (next:Value->World->XS->Prop) (jc:List PanicEntry->World->XS->Prop):Result Next->Prop
 | .ok (.value v) w'=>Step m X w w'/\next v w' (grow X w w')
 | .ok .skip w'=>Step m X w w'/\next undef w' (grow X w w')
 | .ok (.enter f args) w'=>w'=w/\Calls P f args w fun
   | .returned v,mi=>Step m X w mi/\next v mi (grow X w mi)
   | .panicked ch,mi=>Step m X w mi/\jc ch mi (grow X w mi)
   | .outgrown,_=>False
 | .halt (.panic v) w'=>Step m X w w'/\jc [{ v,recovered:=false }] w' (grow X w w')
 |_=>False
def jk (b:Bool) (N:Prop):Prop:=match b with
 |true=>N
 |false=>False
theorem dJ {b:Bool} {N:Prop} :jk b N↔b=true/\N:=by cases b<;>simp[jk]
def mR (v:Value) (A B:Prop):Prop:=match v with
 | .bool t=>(t=true->A)/\(t=false->B)
 |_=>False
def WD (P:Program) (jc:List PanicEntry->Env->World->XS->Prop) (next:Env->World->XS->Prop) (env:Env) (w:World) (X:XS):TI->Prop
 | .zJ b=>jk (gy (env b)) (next env w X)
 | .set d e=>next (jR env d (e.ev env)) w X
 | .box b n e=>jk ((e.ev env).cells.toList.length==n) (next (jR env b (.agg (e.ev env).cells)) w X)
 | .put b off n e=>jk ((e.ev env).cells.toList.length==n) (jk ((e.ev env).cells.toList.all one)
   (next (jR env b (.agg (dr (env b).cells.toList off (e.ev env).cells.toList).toArray)) w X))
 | .BU b e=>jk (one (e.ev env)) (next (jR env b (.agg #[e.ev env])) w X)
 | .Wz b off e=>jk (one (e.ev env)) (next (jR env b (.agg (dr (env b).cells.toList off [e.ev env]).toArray)) w X)
 | .fill b n e=>jk ((e.ev env).cells.toList.length==n) (jk ((e.ev env).cells.toList.all one) (next (jR env b (.agg (e.ev env).cells)) w X))
 | .rd d op ty ss=> ∃v,Rd P X w (PX (FF env ss) op ty) v/\next (jR env d v) w X
 | .DB d op ty ss m=> ∀wa,Kp X w wa->
   jP P m X wa (λv w' X'=>next (Kl env d v) w' X') (λch w' X'=>jc ch env w' X') ((PX (FF env ss) op ty).run P wa)
 | .WB g want d e=>next (jR env d (if nZ (env g) want then e.ev env else undef)) w X
 | .grd g want d op ty ss=> ∃v,(nZ (env g) want=true->Rd P X w (PX (FF env ss) op ty) v)/\(nZ (env g) want=false->v=undef)/\
   next (jR env d v) w X
 | .WC g want d op ty ss m=>
   (nZ (env g) want=true-> ∀wa,Kp X w wa->
    jP P m X wa (λv w' X'=>next (Kl env d v) w' X') (λch w' X'=>jc ch env w' X') ((PX (FF env ss) op ty).run P wa))/\
   (nZ (env g) want=false->next (Kl env d undef) w X)
def hU (P:Program) (jc:List PanicEntry->Env->World->XS->Prop) (next:Env->World->XS->Prop):List TI->Env->World->XS->Prop
 |[],env,w,X=>next env w X
 |i::l,env,w,X=>WD P jc (hU P jc next l) env w X i
abbrev lD:=Exit->Env->World->XS->Prop
def lD.FG (next:Env->World->XS->Prop) (K:lD):lD
 | .normal,e,w,X=>next e w X
 |ex,e,w,X=>K ex e w X
def lD.eT (id:Nat) (K:lD):lD
 | .exit i,e,w,X=>if i=id then K .normal e w X else K (.exit i) e w X
 |ex,e,w,X=>K ex e w X
def yz (M:List Nat) (s:Nat):Bool:=match M with
 |[]=>false
 |x::r=>x==s||yz r s
variable {s : Nat}
theorem Ah: ∀{M:List Nat},yz M s=true↔s∈M
 |[]=>by simp[yz]
 |x::r=>by
  simp only[yz,oh,beq_iff_eq,Ah (M:=r),ic]
  grind
def merge (M:List Nat) (e env:Env):Env:=λs=>match yz M s with
 |true=>e s
 |false=>env s
def den (P:Program):T->lD->Env->World->XS->Prop
 | .Bw l,K,env,w,X=>hU P (λch=>K (.panic ch)) (λe w X=>K .normal e w X) l env w X
 | .seq a b,K,env,w,X=>den P a (lD.FG (λe w X=>den P b K e w X) K) env w X
 | .ite e a b,K,env,w,X=>mR (e.ev env) (den P a K env w X) (den P b K env w X)
 | .alt a b,K,env,w,X=>And (den P a K env w X) (den P b K env w X)
 | .eT id a,K,env,w,X=>den P a (lD.eT id K) env w X
 | .loop M C a,K,env,w,X=> ∃J:Nat->List Value->World->XS->Prop,(∃n,J n (C.map env) w X)/\
   ∀n (e:Env) w' X',(∀k,X k->X' k)->J n (C.map e) w' X'->den P a (lD.FG (λe' mi wC=> ∃m,m<n/\J m (C.map e') mi wC) K) (merge M e env) w' X'
 | .exit id,K,env,w,X=>K (.exit id) env w X
 | .ret,K,env,w,X=>K .ret env w X
 | .skip,K,env,w,X=>K .normal env w X
structure gC where
 n:Nat
 boxes:List (Nat×Nat)
 TE:List Nat
 qy:List Nat
 mat:List Nat
 car:List Nat
def gC.j8 (pl:gC) (s:Nat):Bool:=pl.qy.contains s&&decide (s<pl.n)&&(look pl.boxes s).isNone&&!pl.TE.contains s
def gC.np (pl:gC) (d:Nat):Bool:=decide (d<pl.n)&&(look pl.boxes d).isNone&&!pl.TE.contains d
structure Ptr where
 s:Nat
 b:Nat
 off:Nat
 g:Option (Nat×Bool)
structure CS where
 sig:List (Nat×Ex)
 zK:List Ptr
 live:List Nat
def CS.start:CS:=⟨[],[],[]⟩
def valOf (pl:gC) (cs:CS):Operand->Option Ex
 | .tmp t=>if pl.j8 t then some (.t t)else look cs.sig t
 | .const v=>some (.c v)
 | .global g=>some (.c (.pointer (some ⟨g,0,none⟩)))
 | .func f=>some (.c (.func (.func f) #[] #[]))
def Hj (og:Option (Nat×Bool)):List Ptr->Nat->Option (Nat×Nat)
 |[],_=>none
 |p::r,t=>if p.s=t then(if p.g.isNone||p.g==og then some (p.b,p.off)else none)else Hj og r t
def wD (pl:gC) (cs:CS) (og:Option (Nat×Bool)):Operand->Option (Nat×Nat×List Nat)
 | .tmp t=>match look pl.boxes t with
  |some _=>some (t,0,if cs.live.contains t then [] else [t])
  |none=>if pl.TE.contains t then(Hj og cs.zK t).map λ(b,off)=>(b,off,[])else none
 |_=>none
def CS.kill (cs:CS) (d:Nat):CS:=
 ⟨cs.sig.filter λp=>p.1 !=d&&!p.2.Wx d,cs.zK.filter λp=>p.b !=d&&p.s !=d&&(match p.g with|some (g,_)=>g !=d|none=>true),cs.live⟩
def CS.MC (cs:CS) (b:Nat):CS:=⟨cs.sig.filter λp=>!p.2.Wx b,cs.zK,cs.live⟩
def CS.bind (cs:CS) (pl:gC) (d:Nat):CS:=let c:=cs.kill d;if pl.j8 d then c else { c with sig:=(d,.t d)::c.sig }
def CS.note (cs:CS) (d:Nat) (e:Ex):CS:= { cs with sig:=(d,e)::cs.sig.filter (λp=>p.1 !=d),zK:=cs.zK.filter λp=>p.s !=d }
def CS.rW (cs:CS) (d b off:Nat) (g:Option (Nat×Bool)):CS:=
 { cs with sig:=cs.sig.filter (λp=>p.1 !=d),zK:=⟨d,b,off,g⟩::(cs.zK.filter λp=>p.s !=d) }
def CS.l9 (cs:CS) (l:List Nat):CS:= { cs with live:=l++cs.live }
def rX (pl:gC) (cs:CS) (d:Nat) (e:Ex):List TI×CS:=
 if pl.j8 d||pl.mat.contains d then([.set d e],cs.bind pl d)else([],cs.note d e)
def fieldInfo (P:Program) (S f:Nat):Option (Nat×Nat):=
 match P.underlying S with
 |some (.struct fs)=>(fs[f]?).bind λx=>(P.info? x.type).map λi=>(x.offset,i.size)
 |_=>none
def subst (pl:gC) (cs:CS):List Operand->Option (List (Nat×Ex))
 |[]=>some []
 | .tmp t::r=>match valOf pl cs (.tmp t),subst pl cs r with
  |some e,some ss=>some (match e with
   | .t n=>if n=t then ss else(t,e)::ss
   |_=>(t,e)::ss)
  |_,_=>none
 |_::r=>subst pl cs r
def WE (P:Program) (t:Nat):Bool:=match P.underlying t with
 |some (.slice _)=>true
 |_=>false
def apU (P:Program):Op->Bool
 | .pick .. | .nilCheck _| .binOp .. | .unOp .. | .fieldAddr .. | .field .. | .indexAddr .. | .index .. | .extract .. | .slice .. | .build .. | .makeFunc ..
 | .makeInterface .. | .load .. | .lookup .. | .typeAssert .. | .move _| .assign _=>true
 | .convert s d _=>!WE P s&&!WE P d
 | .call { callee:=.builtin b,.. } =>match b with
  | .len| .cap| .min| .max=>true
  |_=>false
 |_=>false
structure CR where
 fl:Bool
 nd:List Nat
 l:List TI
 cs:CS
 rb:List Nat
 sb:List Nat
def H9:Op->Bool
 | .select .. =>false
 |_=>true
def FH (P:Program) (pl:gC) (cs:CS) (m:Bool) (o:Oper):Option CR:=
 match subst pl cs o.op.operands.toList with
 |none=>none
 |some ss=>if !H9 o.op then none else
  match o.dst with
  |some d=>if !pl.np d then none else
   if apU P o.op then some ⟨true,[],[.rd d o.op o.type ss],cs.bind pl d,[],[]⟩else some ⟨false,[],[.DB (some d) o.op o.type ss m],cs.bind pl d,[],[]⟩
  |none=>some ⟨false,[],[.DB none o.op o.type ss m],cs,[],[]⟩
def kP (P:Program) (t:Nat):Option (Bool×Nat):=
 match P.underlying t,P.info? t with
 |some d,some i=>some ((match d with| .struct _| .array _ _=>true|_=>false),i.size)
 |_,_=>none
def WG (P:Program) (pl:gC) (cs:CS) (sz:Nat) (t:Nat) (e:Ex) (d:Nat):Option CR:=
 match kP P t with
 |some (ag,s)=>if decide (d<pl.n)&&s==sz then some ⟨false,[],[if !ag&&s==1 then .BU d e else .box d sz e],(cs.kill d).l9 [d],[],[]⟩else none
 |none=>none
def DR (P:Program) (pl:gC) (cs:CS) (og:Option (Nat×Bool)) (m:Bool) (o:Oper):Option CR:=
 match o.op with
 | .move x| .assign x=>match o.dst,valOf pl cs x with
  |some d,some e=>if pl.np d then(let r:=rX pl cs d e;some ⟨true,[],r.1,r.2,[],[]⟩)else none
  |_,_=>none
 | .box t x=>match o.dst with
  |some d=>match look pl.boxes d with
   |some sz=>match valOf pl cs x with
    |some e=>WG P pl cs sz t e d
    |none=>none
   |none=>FH P pl cs m o
  |none=>none
 | .alloc t=>match o.dst with
  |some d=>match look pl.boxes d with
   |some sz=>match(P.info? t).bind (·.zero)with
    |some z=>WG P pl cs sz t (.c z) d
    |none=>none
   |none=>FH P pl cs m o
  |none=>none
 | .fieldAddr S x f=>match wD pl cs og x with
  |some (b,off,nd)=>match o.dst,fieldInfo P S f with
   |some d,some (fo,sz)=>if pl.TE.contains d&&decide (d<pl.n)&&(look pl.boxes d).isNone&&sz !=0 then
     some ⟨true,nd,[],(cs.l9 nd).rW d b (off+fo) og,[],[]⟩else none
   |_,_=>none
  |none=>FH P pl cs m o
 | .load t x=>match wD pl cs og x with
  |some (b,off,nd)=>match o.dst,kP P t,look pl.boxes b with
   |some d,some (ag,sz),some bs=>if pl.np d&&decide (off+sz<=bs)&&(ag||sz==1)then
     (let r:=rX pl (cs.l9 nd) d (if ag then .s b off sz else .k b off);some ⟨true,nd,r.1,r.2,[b],[]⟩)else none
   |_,_,_=>none
  |none=>FH P pl cs m o
 | .store t x v=>match wD pl cs og x with
  |some (b,off,nd)=>match o.dst,valOf pl cs v,kP P t,look pl.boxes b with
   |none,some e,some (ag,sz),some bs=>if decide (off+sz<=bs)then
     some ⟨false,nd,[if !ag&&sz==1 then .Wz b off e else if off==0&&sz==bs then .fill b sz e else .put b off sz e],(cs.l9 nd).MC b,[],[b]⟩else none
   |_,_,_,_=>none
  |none=>FH P pl cs m o
 |_=>FH P pl cs m o
def agV:Op->Bool
 | .fieldAddr .. =>true
 |_=>false
def qf (g:Nat) (want:Bool) (op:Op) (r:CR):Option CR:=
 match r.fl,r.l with
 |true,[]=>if agV op then some r else none
 |true,[.set d e]=>if d=g then none else some { r with l:=[.WB g want d e] }
 |true,[.rd d op ty ss]=>if d=g then none else some { r with l:=[.grd g want d op ty ss] }
 |false,[.DB d op ty ss m]=>if d=some g then none else some { r with l:=[.WC g want d op ty ss m] }
 |_,_=>none
def Bx (P:Program) (pl:gC) (cs:CS) (ops:Array Oper) (m:Bool) (o:Oper):Option CR:=
 match o.guard with
 |none=>DR P pl cs none m o
 |some (j,want)=>match(ops[j]?).bind (·.dst)with
  |none=>none
  |some gs=>match valOf pl cs (.tmp gs)with
   |some (.t g)=>(DR P pl cs (some (g,want)) m o).bind (qf g want o.op)
   |_=>none
def CR.all (r:CR):List TI:=r.nd.map .zJ++r.l
def Ia (P:Program) (pl:gC) (ops:Array Oper):List Oper->CS->Option (List TI)
 |[],_=>some []
 |o::r,cs=>match Bx P pl cs ops true o with
  |some x=>(Ia P pl ops r x.cs).map (x.all++ ·)
  |none=>none
def waits (o:Oper) (i:Nat):Bool:=o.after.any λe=>uQ .any e&&e.on==i
def acv (ops:Array Oper) (bH:Array Bool) (S:List Nat) (j:Nat):Bool:=!bH.getD j true&&match ops[j]? with
 |some o=>o.after.any λe=>uQ .any e&&S.contains e.on
 |none=>false
def GB (ops:Array Oper) (bH:Array Bool) (i:Nat):List Nat:=(dx ops.size).foldl (λS j=>if acv ops bH S j then j::S else S) [i]
def apV (ops:Array Oper) (j:Nat):List Nat:=
 (dx (j+1)).reverse.foldl (λS k=>if S.contains k then(match ops[k]? with
  |some o=>o.after.toList.foldl (λS e=>if uQ .any e&&!S.contains e.on then e.on::S else S) S
  |none=>S)else S) [j]
def Cj (o:Oper):Bool:=match o.op with
 | .extract .. =>true
 | .move .. =>true
 |_=>false
def ldX (pl:gC) (o:Oper):Bool:=match o.op with
 | .load _ (.tmp x)=>(look pl.boxes x).isSome
 |_=>false
def TF (o:Oper) (rb:List Nat):Bool:=match o.op with
 | .load _ (.tmp x)=>rb.contains x
 |_=>false
def alD (o:Oper):Bool:=match o.op with
 | .alloc _=>true
 |_=>false
def qz (pl:gC) (ops:Array Oper) (j:Nat):Bool:=
 match ops[j]? with
 |some oj=>(match oj.dst with|some d=>pl.mat.contains (1000000+d)|none=>false)||pl.mat.contains (2000000+j)||((dx ops.size).all λi=>i==j||waits oj i||(match ops[i]? with
  |some oi=>waits oi j||Cj oi||ldX pl oi||alD oi
  |none=>true))||(let B:=apV ops j++GB ops (cZ ops.size false) j;(dx ops.size).all λi=>B.contains i||(match ops[i]? with
  |some oi=>Cj oi||ldX pl oi||alD oi
  |none=>true))
 |none=>false
def afe (pl:gC) (ops:Array Oper):Nat->Operand->Option Nat
 |0,_=>none
 |n+1,.tmp t=>match look pl.boxes t with
  |some _=>some t
  |none=>match ops.find? (λo=>o.dst==some t)with
   |some o=>(match o.op with
    | .fieldAddr _ x _=>afe pl ops n x
    |_=>none)
   |none=>none
 |_+1,_=>none
def vX (pl:gC) (ops:Array Oper) (o:Oper):List Nat:=match o.op with
 | .store _ x _=>(afe pl ops 6 x).toList
 |_=>[]
def MD (pl:gC) (ops:Array Oper) (bH:Array Bool) (i:Nat) (rb:List Nat):Bool:=
 match ops[i]? with
 |none=>false
 |some oi=>(match oi.dst with
   |some d=>(look pl.boxes d).isNone
   |none=>true)&&(dx ops.size).all λj=>j==i||bH.getD j true||match ops[j]? with
   |some oj=>waits oj i||(oi.apart ops oj&&(Cj oi||TF oi rb||!qz pl ops j)&&(vX pl ops oj).all λb=>!rb.contains b)||(GB ops bH i).contains j
   |none=>true
def BV (P:Program) (pl:gC) (ops:Array Oper) (cs:CS) (bH:Array Bool):List Nat->Option (Nat×CR)
 |[]=>none
 |i::r=>match(ops[i]?).bind (Bx P pl cs ops (qz pl ops i))with
  |some x=>if x.fl&&MD pl ops bH i x.rb then some (i,x)else BV P pl ops cs bH r
  |none=>BV P pl ops cs bH r
def Ib (P:Program) (pl:gC) (o:Oper):Option (Nat×Nat×Bool×Value):=match o.guard,o.op,o.dst with
 |none,.alloc t,some d=>match look pl.boxes d,(P.info? t).bind (·.zero),kP P t with
  |some sz,some z,some (ag,s)=>if decide (d<pl.n)&&s==sz then some (d,sz,!ag&&s==1,z)else none
  |_,_,_=>none
 |_,_,_=>none
def AF:Nat×Nat×Bool×Value->TI
 |(d,sz,one,z)=>if one then .BU d (.c z)else .box d sz (.c z)
def yi (cs:CS) (d:Nat):CS:=(cs.kill d).l9 [d]
def acw (l:List Nat) (i:Nat):Bool:=match l with
 |[x]=>x==i
 |_=>false
def aju (P:Program) (pl:gC) (ops:Array Oper) (bH:Array Bool) (i j:Nat):Option (Nat×Nat×Bool×Value):=
 match(ops[i]?).bind (Ib P pl),(ops[j]?).bind (Ib P pl)with
 |some bi,some bj=>if !(bi.1==bj.1)&&acw (iy .any ops (bH.setIfInBounds i true)) j&&acw (iy .any ops (bH.setIfInBounds j true)) i then some bi else none
 |_,_=>none
def yj (P:Program) (pl:gC) (ops:Array Oper):Nat->Array Bool->CS->Option (List TI)
 |0,bH,_=>if(iy .any ops bH).isEmpty then some [] else none
 |fuel+1,bH,cs=>
  match BV P pl ops cs bH (iy .any ops bH)with
  |some (i,x)=>(yj P pl ops fuel (bH.setIfInBounds i true) x.cs).map (x.all++ ·)
  |none=>match iy .any ops bH with
   |[i]=>match ops[i]? with
    |some o=>match Bx P pl cs ops (qz pl ops i) o with
     |some x=>if x.sb.all λb=>(vX pl ops o).contains b then(yj P pl ops fuel (bH.setIfInBounds i true) x.cs).map (x.all++ ·)else none
     |none=>none
    |none=>none
   |[i,j]=>match aju P pl ops bH i j with
    |some b=>(yj P pl ops fuel (bH.setIfInBounds i true) (yi cs b.1)).map (AF b:: ·)
    |none=>none
   |_=>none
def Sd:List Nat->(Nat->Option T)->Option T
 |[],_=>none
 |i::r,f=>match r with
  |[]=>f i
  |j::r=>match f i,Sd (j::r) f with
   |some a,some b=>some (.alt a b)
   |_,_=>none
def Cx (P:Program) (pl:gC) (ops:Array Oper):Nat->Array Bool->CS->Option T
 |0,bH,_=>if(iy .any ops bH).isEmpty then some .skip else none
 |fuel+1,bH,cs=>
  match BV P pl ops cs bH (iy .any ops bH)with
  |some (i,x)=>(Cx P pl ops fuel (bH.setIfInBounds i true) x.cs).map (.seq (.Bw x.all) ·)
  |none=>Sd (iy .any ops bH) λi=>match ops[i]? with
   |some o=>match Bx P pl cs ops (qz pl ops i) o with
    |some x=>if x.sb.all λb=>(vX pl ops o).contains b then(Cx P pl ops fuel (bH.setIfInBounds i true) x.cs).map (.seq (.Bw x.all) ·)else none
    |none=>none
   |none=>none
def TI.Km:TI->List Nat
 | .set d _=>[d]
 | .box b _ _=>[b]
 | .BU b _=>[b]
 | .rd d _ _ _=>[d]
 | .DB d _ _ _ _=>d.toList
 | .WB _ _ d _=>[d]
 | .grd _ _ d _ _ _=>[d]
 | .WC _ _ d _ _ _ _=>d.toList
 |_=>[]
def oq (l:List TI):List Nat:=l.flatMap TI.Km
def TI.wr:TI->List Nat
 | .zJ _=>[]
 | .set d _=>[d]
 | .box b _ _=>[b]
 | .put b _ _ _=>[b]
 | .BU b _=>[b]
 | .Wz b _ _=>[b]
 | .fill b _ _=>[b]
 | .rd d _ _ _=>[d]
 | .DB d _ _ _ _=>d.toList
 | .WB _ _ d _=>[d]
 | .grd _ _ d _ _ _=>[d]
 | .WC _ _ d _ _ _ _=>d.toList
def T.wr:T->List Nat
 | .Bw l=>l.flatMap TI.wr
 | .seq a b=>a.wr++b.wr
 | .ite _ a b=>a.wr++b.wr
 | .alt a b=>a.wr++b.wr
 | .eT _ a=>a.wr
 | .loop M _ a=>M++a.wr
 |_=>[]
def T.mk:T->List Nat
 | .Bw l=>oq l
 | .seq a b=>a.mk++b.mk
 | .ite _ a b=>a.mk++b.mk
 | .alt a b=>a.mk++b.mk
 | .eT _ a=>a.mk
 | .loop _ _ a=>a.mk
 |_=>[]
def tO:List Nat->List Nat->List Nat
 |[],acc=>acc
 |x::r,acc=>tO r (if acc.contains x then acc else x::acc)
def jM (P:Program) (pl:gC):Code->Option T
 | .skip=>some .skip
 | .region _ ops draw=>if draw then(if P.follows .mixedOrders&&vV ops then(match yj P pl ops ops.size (cZ ops.size false) .start with
  |some l=>some (.Bw l)
  |none=>Cx P pl ops ops.size (cZ ops.size false) .start)else none)else(Ia P pl ops ops.toList .start).map .Bw
 | .seq a b=>match jM P pl a,jM P pl b with
  |some x,some y=>some (match x,y with
   | .skip,y=>y
   |x,.skip=>x
   |x,y=>.seq x y)
  |_,_=>none
 | .cond c a b=>match valOf pl .start c,jM P pl a,jM P pl b with
  |some e,some x,some y=>some (.ite e x y)
  |_,_,_=>none
 | .block id a=>(jM P pl a).map (.eT id)
 | .loop a=>(jM P pl a).map λx=>.loop (tO x.wr []) ((tO x.wr []).filter (yz pl.car)) x
 | .exit id=>some (.exit id)
 | .ret=>some .ret
 |_=>none
def El (P:Program) (pl:gC):List ResultVar->Option (List Ex×List Nat)
 |[]=>some ([],[])
 | .tmp t::r=>if pl.j8 t then(El P pl r).map λ(l,n)=>(.t t::l,n)else none
 | .cell a t::r=>match look pl.boxes a,kP P t with
  |some bs,some (ag,sz)=>if decide (sz<=bs)&&(ag||sz==1)then(El P pl r).map λ(l,n)=>((if ag then .s a 0 sz else .k a 0)::l,a::n)else none
  |_,_=>none
structure FT where
 code:T
 res:List Ex
 live:List Nat
def cF (P:Program) (pl:gC) (fn:Func):Option FT:=
 if fn.ntmps==pl.n then
  match fn.body with
  |some c=>match jM P pl c,El P pl fn.results.toList with
   |some t,some (r,n)=>some ⟨t,r,n⟩
   |_,_=>none
  |none=>none
 else none
def WH (l:List Ex) (env:Env):Value:=match l with
 |[e]=>e.ev env
 |l=>.tuple (l.map (·.ev env)).toArray
def OJ (ft:FT) (R:Ending->World->Prop):lD
 | .normal,e,w,X| .ret,e,w,X=>jk (ft.live.all λb=>gy (e b)) (∀wa,Kp X w wa->R (.returned (WH ft.res e)) wa)
 | .panic ch,_,w,X=> ∀wa,Kp X w wa->R (.panicked ch) wa
 |_,_,_,_=>False
def mS (args:Array Value):Env:=λi=>args.toList.getD i undef
variable {P : Program} {ops : Array Oper} {Q : Exit -> Act -> World -> Prop} {a a' : Act} {v : Value} {o oi oj : Oper} {sb sb' : List Nat} {pl : gC} {K : Act -> World -> Prop} {i j : Nat} {L : Prop} {bH : Array Bool}
def ej (k off:Nat):Value:=.pointer (some ⟨k,off,none⟩)
def ZB (pl:gC) (RB:List Nat) (a:Act):XS:=λk=> ∃b n,look pl.boxes b=some n/\ ¬b∈RB/\a.tmps[b]? =some (ej k 0)
def YF (P:Program) (pl:gC) (RB:List Nat) (ops:Array Oper) (o:Oper) (v:Value) (a:Act) (w:World):Prop:=
 (cG o (yielded ops a.tmps)=true/\ ∀wa,Fr (ZB pl RB a) w wa->(execOp a.eval o).run P wa= .ok (.value v) wa)\/(cG o (yielded ops a.tmps)=false/\v=undef)
def ru (pl:gC) (sb:List Nat) (a:Act) (w:World) (a':Act) (w':World):Prop:=
 ∀RB,(∀b,b∈sb-> ¬b∈RB)->Fr (ZB pl RB a) w w'/\ ∀k,k<w.heap.size->ZB pl RB a' k->ZB pl RB a k
theorem YF.rel {RB:List Nat} (h:YF P pl RB ops o v a w) (hx:ru pl sb a w a' w') (hd: ∀b,b∈sb-> ¬b∈RB)
  (he:execOp a'.eval o=execOp a.eval o) (hw:cG o (yielded ops a'.tmps)=cG o (yielded ops a.tmps)):YF P pl RB ops o v a' w':=by
 obtain⟨h1,h2⟩:=hx RB hd;unfold YF at*;rw[he,hw];refine h.imp (λ⟨g1,g2⟩=>⟨g1,λwa ha=>g2 wa ?_⟩) id;exact⟨ha.os.trans h1.os,ha.tape.trans h1.tape,ha.output.trans h1.output,ad h1.size ha.size,
  λk hk hz=>(ha.block k (av hk h1.size) (λuC=>hz (h2 k hk uC))).trans (h1.block k hk hz)⟩
def zL (pl:gC) (sb:List Nat) (a:Act) (w w':World):Prop:=
 ∀b n k,look pl.boxes b=some n-> ¬b∈sb->a.tmps[b]? =some (ej k 0)->w'.heap[k]? =w.heap[k]?
def zM (L:Prop) (pl:gC) (sb:List Nat) (a:Act) (w:World) (a':Act) (w':World):Prop:=(L->ru pl sb a w a' w')/\zL pl sb a w w'
def Yx (P:Program) (ops:Array Oper) (o:Oper) (v:Value) (a:Act) (w:World):Prop:=
 (cG o (yielded ops a.tmps)=true/\(execOp a.eval o).run P w= .ok (.value v) w)\/(cG o (yielded ops a.tmps)=false/\v=undef)
def YL (P:Program) (pl:gC) (x:Nat) (ops:Array Oper) (o:Oper) (v:Value) (a:Act) (w:World):Prop:=
 (cG o (yielded ops a.tmps)=true/\ ∃k n,look pl.boxes x=some n/\a.tmps[x]? =some (ej k 0)/\ ∀wa:World,wa.heap[k]? =w.heap[k]? ->(execOp a.eval o).run P wa= .ok (.value v) wa)\/
  (cG o (yielded ops a.tmps)=false/\v=undef)
def YF.yx {RB:List Nat} (h:YF P pl RB ops o v a w):Yx P ops o v a w:=h.imp (λ⟨g1,g2⟩=>⟨g1,g2 w (Fr.refl _ w)⟩) id
def YL.yx {x:Nat} (h:YL P pl x ops o v a w):Yx P ops o v a w:=h.imp (λ⟨g1,_,_,_,_,g2⟩=>⟨g1,g2 w rfl⟩) id
def WI (pl:gC) (ops:Array Oper) (oi oj:Oper) (L:Prop) (sb:List Nat) (Y:Act->World->Prop):Prop:=
 ∀a a' w w',zM L pl sb a w a' w'->execOp a'.eval oi=execOp a.eval oi->cG oi (yielded ops a'.tmps)=cG oi (yielded ops a.tmps)->
  (∀x:Nat,(∀d,oj.dst=some d->d≠x)->a'.tmps[x]? =a.tmps[x]?)->Y a w->Y a' w'
theorem zL.refl (pl:gC) (sb:List Nat) (a:Act) (w:World):zL pl sb a w w:=λ_ _ _ _ _ _=>rfl
theorem zL.WJ {d:Option Nat} (hd: ∀x,d=some x->look pl.boxes x=none) (h:zL pl sb (a.put d v) w w'):zL pl sb a w w':=by
 intro b n k hb hn hk;refine h b n k hb hn ?_;cases d with
 |none=>exact hk
 |some x=>
  have ct:x≠b:=λe=>by grind
  simpa [nj,lq ct] using hk
theorem zL.sub (h:zL pl sb a w w') (hs: ∀b,b∈sb->b∈sb'):zL pl sb' a w w':=
 λb n k hb hn hk=>h b n k hb (λhm=>hn (hs b hm)) hk
theorem Yx.wpOp (hi:ops[i]? =some o) (hy:Yx P ops o v a w)
 (h:K (a.put o.dst v) w):wpOp P ops Q i K a w:=by
  unfold Go.wpOp;simp only[hi];rcases hy with⟨hw,hv⟩|⟨hw,rfl⟩
  · simp only[hw,if_true,tj,hv,nJ];exact .inl h
  grind
theorem WK {RB:List Nat} {d:Option Nat} (hd: ∀x,d=some x->look pl.boxes x=none):ZB pl RB (a.put d v)=ZB pl RB a:=by
 cases d with
 |none=>rfl
 |some x=>
  have hx:=hd x rfl
  funext k
  simp only[ZB,eq_iff_iff];have key: ∀b n,look pl.boxes b=some n->(a.put (some x) v).tmps[b]? =a.tmps[b]? :=λb n hb=>by
   have ct:x≠b:=λe=>by grind
   simp[nj,lq ct]
  constructor<;>rintro⟨b,n,h1,h2,h3⟩<;>refine⟨b,n,h1,h2,?_⟩
  ·grind
  grind
theorem ru.WJ {d:Option Nat} (hd: ∀x,d=some x->look pl.boxes x=none) (h:ru pl sb (a.put d v) w (a'.put d v) w'):ru pl sb a w a' w':=by
 intro RB Kn;have:=h RB Kn
 rwa [WK hd,WK hd] at this
theorem ru.refl (pl:gC) (sb:List Nat) (a:Act) (w:World) (d:Option Nat) (v:Value) (hd: ∀x,d=some x->look pl.boxes x=none):ru pl sb a w (a.put d v) w:=by
 intro RB _;rw[WK hd]
 grind [Fr.refl]
theorem aff (hp:Cj o=true) {ρ:Operand->Value} {wa:World} (h:(execOp ρ o).run P w= .ok (.value v) w):(execOp ρ o).run P wa= .ok (.value v) wa:=by
 unfold Cj at hp;split at hp
 ·rename_i x i ho;simp only[execOp,ho] at h⊢;unfold gD at h⊢;split at h<;>simp_all
  all_goals (split at h<;>simp_all)
 ·rename_i x ho;simp only[execOp,ho] at h⊢;simp_all
 ·cases hp
theorem YF.pure {RB:List Nat} (h:YF P pl RB ops o v a w) (hp:Cj o=true)
  (he:execOp a'.eval o=execOp a.eval o) (hw:cG o (yielded ops a'.tmps)=cG o (yielded ops a.tmps)):YF P pl RB ops o v a' w':=by
 unfold YF at*;rw[he,hw];exact h.imp (λ⟨g1,g2⟩=>⟨g1,λwa _=>aff hp (g2 w (Fr.refl _ _))⟩) id
def vF (P:Program) (pl:gC) (ops:Array Oper) (Q:Exit->Act->World->Prop):Nat->Array Bool->Act->World->Prop
 |0,bH,a,w=>iy .any ops bH=[]/\Q .normal a w
 |fuel+1,bH,a,w=>
  (iy .any ops bH=[]->Q .normal a w)/\
  ∀i∈iy .any ops bH,wpOp P ops Q i (λa' w'=>(∀o,ops[i]? =some o->zM (qz pl ops i=false) pl (vX pl ops o) a w a' w')/\vF P pl ops Q fuel (bH.setIfInBounds i true) a' w') a w
theorem PY: ∀(fuel:Nat) (bH:Array Bool) (a:Act) (w:World),vF P pl ops Q fuel bH a w->wpAny P .any ops Q fuel bH a w
 |0,_,_,_,h=>h
 |fuel+1,_,_,_,h=>⟨h.1,λi hi=>wpOp_mono (λa' w' h'=>PY fuel _ a' w' h'.2) (h.2 i hi)⟩
theorem YF.stb {RB:List Nat} (hL:L\/Cj oi=true) (hd: ∀b,b∈sb-> ¬b∈RB):WI pl ops oi oj L sb (YF P pl RB ops oi v):=by
 intro a a' w w' hr e2 e3 _ hy;rcases hL with hl|hp
 ·exact hy.rel (hr.1 hl) hd e2 e3
 ·exact hy.pure hp e2 e3
theorem YL.stb {x:Nat} (hx: ∀d,oj.dst=some d->d≠x) (hd: ¬x∈sb):WI pl ops oi oj L sb (YL P pl x ops oi v):=by
 intro a a' w w' hr e2 e3 e4 hy;unfold YL at*;rw[e2,e3,e4 x hx];exact hy.imp (λ⟨g1,k,n,g2,g3,g4⟩=>⟨g1,k,n,g2,g3,λwa hw=>g4 wa (hw.trans (hr.2 x n k g2 hd g3))⟩) id
theorem afg {Y:Act->World->Prop} (hj:ops[j]? =some oj) (Ko:oi.apart ops oj=true)
  (hsi: ∀cs b,oi.op≠ .select cs b) (hsj: ∀cs b,oj.op≠ .select cs b) (hdi: ∀x,oi.dst=some x->look pl.boxes x=none) (fP:WI pl ops oi oj L sb Y)
  (hQ: ∀c a w,Q (.panic c) (a.put oi.dst v) w->Q (.panic c) a w)
  (hy:Y a w) (h:wpOp P ops Q j (λa' w'=>zM L pl sb (a.put oi.dst v) w a' w'/\K a' w') (a.put oi.dst v) w):
  wpOp P ops Q j (λa' w'=>zM L pl sb a w a' w'/\Y a' w'/\K (a'.put oi.dst v) w') a w:=by
 obtain⟨h1,h2,h3⟩:=vW Ko;have fin: ∀(a0:Act) (w':World) (u:Value),a0.tmps=a.tmps->zM L pl sb (a.put oi.dst v) w ((a0.put oi.dst v).put oj.dst u) w'->K ((a0.put oi.dst v).put oj.dst u) w'->
   zM L pl sb a w (a0.put oj.dst u) w'/\Y (a0.put oj.dst u) w'/\K ((a0.put oj.dst u).put oi.dst v) w':=by
  intro a0 w' u h0 hr hk;rw[Act.put_comm a0 v u h2] at hr hk;have jS:zM L pl sb a w (a0.put oj.dst u) w':=⟨λhl:L=>(hr.1 hl).WJ hdi,hr.2.WJ hdi⟩;have e1:execOp a0.eval oi=execOp a.eval oi:=by
   have:a0.eval=a.eval:=by funext x;cases x<;>simp[xj,h0]
   rw[this]
  have e2:=(execOp_put oi hsi a0 oj.dst u h3).trans e1;have e3:cG oi (yielded ops (a0.put oj.dst u).tmps)=cG oi (yielded ops a.tmps):=(wanted_put oi a0 oj.dst u h3).trans (by rw[h0]);refine⟨jS,fP a _ w w' jS e2 e3 (λx hx=>?_) hy,hk⟩;cases hod:oj.dst with
  |none=>simp[nj,h0]
  |some d=>simp[nj,h0,lq (hx d hod)]
 unfold wpOp at*;simp only[hj] at*;rw[wanted_put oj a oi.dst v h1] at h;split
 ·rename_i hw;simp only[hw,if_true] at h;rcases h with h|⟨aos,aot⟩;case inr=>exact .inr ⟨by unfold Oper.asks at*;rw[execOp_put oj hsj a oi.dst v h1] at aos;omega,aot⟩
  refine .inl ?_;unfold tj at*;rw[execOp_put oj hsj a oi.dst v h1] at h;generalize (execOp a.eval oj).run P w=r at*;cases r with
  |ok n w'=>
   cases n<;>simp only[nJ] at h⊢
   case value u=>exact fin a w' u rfl h.1 h.2
   case skip=>exact fin a w' undef rfl h.1 h.2
   case defer d=>
    have e:({ a.put oi.dst v with defers:=d::(a.put oi.dst v).defers } :Act)=({ a with defers:=d::a.defers } :Act).put oi.dst v:=Act.put_defers a oi.dst v d;rw[e] at h;exact fin { a with defers:=d::a.defers } w' undef rfl h.1 h.2
   case enter f args=>
    refine Calls.mono h λe mi he=>?_;cases e with
    |returned u=>exact fin a mi u rfl he.1 he.2
    |panicked c=>exact hQ _ _ _ he
    |outgrown=>exact he
   case row row args=>exact Rows.mono h λu mi he=>fin a mi u rfl he.1 he.2
  |halt x w'=>
   cases x<;>simp only[nJ] at h⊢
   case panic u=>exact hQ _ _ _ h
 ·rename_i hw;simp only[hw] at h;exact fin a w undef rfl h.1 h.2
theorem TG:waits o i=true↔ ∃e∈o.after,uQ .any e=true/\e.on=i:=by
 unfold waits;rw[yy];simp
theorem TH: ∀j,j∈GB ops bH i->j=i\/(bH.getD j true=false/\ ∃oj k,ops[j]? =some oj/\waits oj k=true/\k∈GB ops bH i):=by
 unfold GB;have key: ∀(l:List Nat) (S:List Nat),(∀j,j∈S->j=i\/(bH.getD j true=false/\ ∃oj k,ops[j]? =some oj/\waits oj k=true/\k∈S))->
   ∀j,j∈l.foldl (λS j=>if acv ops bH S j then j::S else S) S->j=i\/(bH.getD j true=false/\ ∃oj k,ops[j]? =some oj/\waits oj k=true/\k∈l.foldl (λS j=>if acv ops bH S j then j::S else S) S):=by
  intro l
  induction l with
  |nil=>intro S hS j hj;exact hS j hj
  |cons x l ih=>
   intro S hS;rw[List.foldl_cons];refine ih _ ?_;split
   ·rename_i hc;simp only[acv,aF,cX] at hc;obtain⟨h1,h2⟩:=hc;intro j hj;rcases List.mem_cons.1 hj with rfl|hj
    ·right;cases ho:ops[j]? with
     |none=>simp[ho] at h2
     |some o=>
      simp only[ho,yy,aF,wz] at h2;obtain⟨e,he,hb,hm⟩:=h2;exact⟨h1,o,e.on,rfl,TG.2 ⟨e,he,hb,rfl⟩,bG _ hm⟩
    ·rcases hS j hj with h|⟨h,oj,k,h3,h4,h5⟩
     ·omega
     ·exact .inr ⟨h,oj,k,h3,h4,bG _ h5⟩
   omega
 exact key _ _ λj hj=>.inl (by simpa using hj)
theorem Kq {Y:Act->World->Prop} (PZ: ∀a w,Y a w->Yx P ops oi v a w) (hi:ops[i]? =some oi) (De: ∀(j:Nat) (o:Oper) cs b,ops[j]? =some o->o.op≠ .select cs b)
  (hdi: ∀x,oi.dst=some x->look pl.boxes x=none) (hQ: ∀c a w,Q (.panic c) (a.put oi.dst v) w->Q (.panic c) a w):
  ∀(fuel:Nat) (bH:Array Bool) (a:Act) (w:World) (S:Nat->Prop),S i->
   (∀j,S j->j=i\/(bH.getD j true=false/\ ∃oj k,ops[j]? =some oj/\waits oj k=true/\S k))->
   (∀j oj,ops[j]? =some oj->j≠i->bH.getD j true=false-> ¬S j->oi.apart ops oj=true/\WI pl ops oi oj (qz pl ops j=false) (vX pl ops oj) Y)->
   i∈iy .any ops bH->Y a w->
   vF P pl ops Q fuel (bH.setIfInBounds i true) (a.put oi.dst v) w->vF P pl ops Q (fuel+1) bH a w:=by
 intro fuel
 induction fuel with
 |zero=>
  intro bH a w S _ hS _ hr hy H;refine⟨λh=>(by rw[h] at hr;cases hr),λj hj=>?_⟩;by_cases Kr:j=i
  ·subst Kr;exact(PZ _ _ hy).wpOp hi ⟨λ_ _=>⟨λ_=>ru.refl pl _ a w _ _ hdi,zL.refl _ _ _ _⟩,H⟩
  ·have:=ready_mono hj Kr;rw[H.1] at this;cases this
 |succ fuel ih=>
  intro bH a w S hSi hS ajv hr hy H;refine⟨λh=>(by rw[h] at hr;cases hr),λj hj=>?_⟩;by_cases Kr:j=i
  ·subst Kr;exact(PZ _ _ hy).wpOp hi ⟨λ_ _=>⟨λ_=>ru.refl pl _ a w _ _ hdi,zL.refl _ _ _ _⟩,H⟩
  ·have h1:=H.2 j (ready_mono hj Kr);obtain⟨apW,oj,Em,Se⟩:=mem_ready.1 hj;have alE: ¬S j:=by
    intro hjS;rcases hS j hjS with h|⟨_,oj',k,alF,hwt,hkS⟩
    ·omega
    ·rw[Em] at alF;cases alF;obtain⟨e,he,hb,heq⟩:=TG.1 hwt;have h1:=Se e he hb;rw[heq] at h1;have h0:bH.getD k true=false:=by
      rcases hS k hkS with h|h
      ·subst h;exact(mem_ready.1 hr).1
      ·exact h.1
     rcases Nat.lt_or_ge k bH.size with h'|h'
     ·simp[h'] at h0 h1;rw[h0] at h1;cases h1
     ·simp[pS h'] at h1
   obtain⟨Ko,apX⟩:=ajv j oj Em Kr apW alE;have Ks:=wpOp_mono (K':=λa' w'=>zM (qz pl ops j=false) pl (vX pl ops oj) (a.put oi.dst v) w a' w'/\vF P pl ops Q fuel ((bH.setIfInBounds i true).setIfInBounds j true) a' w')
    (λa' w' h'=>⟨h'.1 oj Em,h'.2⟩) h1
   have h2:=afg Em Ko (λcs b=>De i oi cs b hi) (λcs b=>De j oj cs b Em) hdi apX hQ hy Ks;have alG: ∀k ok,ops[k]? =some ok->k≠i->(bH.setIfInBounds j true).getD k true=false-> ¬S k->
     oi.apart ops ok=true/\WI pl ops oi ok (qz pl ops k=false) (vX pl ops ok) Y:=λk ok hk hki Hk qg=>by
    refine ajv k ok hk hki ?_ qg;by_cases Kt:j=k
    ·subst Kt;omega
    ·rw[getD_set_ne true Kt] at Hk;omega
   have hS': ∀k,S k->k=i\/((bH.setIfInBounds j true).getD k true=false/\ ∃oj k',ops[k]? =some oj/\waits oj k'=true/\S k'):=λk hk=>by
    rcases hS k hk with h|⟨h,h2⟩
    ·omega
    ·exact .inr ⟨by rw[getD_set_ne true (λe=>alE (by rw[e];exact hk))];exact h,h2⟩
   refine wpOp_mono (λa' w' h3=>⟨λo ho=>?_,ih (bH.setIfInBounds j true) a' w' S hSi hS' alG (ready_mono hr (Ne.symm Kr)) h3.2.1 ?_⟩) h2
   ·rw[Em] at ho;injection ho with ho;subst ho;exact h3.1
   rw[tN _ _ Kr];exact h3.2.2
theorem TJ {RB:List Nat} (hi:ops[i]? =some oi) (h:MD pl ops bH i RB=true): ∀x,oi.dst=some x->look pl.boxes x=none:=by
 simp only[MD,hi,aF] at h;intro x hx;have:=h.1;rw[hx] at this;simpa using this
theorem P0 {RB:List Nat} (hi:ops[i]? =some oi) (h:MD pl ops bH i RB=true) (j:Nat) (oj:Oper)
  (hj:ops[j]? =some oj) (ct:j≠i) (Hk:bH.getD j true=false) (qg: ¬j∈GB ops bH i) (hnw:waits oj i=false):
  oi.apart ops oj=true/\(qz pl ops j=false\/Cj oi=true\/TF oi RB=true)/\ ∀b,b∈vX pl ops oj-> ¬b∈RB:=by
 simp only[MD,hi,aF,lp,List.mem_range] at h;have h1:=h.2 j (Array.getElem?_eq_some_iff.1 hj).1;simp only[hj,oh,beq_iff_eq,ct,false_or,Hk,aW,hnw,aF,cX,lp,wz,qg,or_false] at h1;exact⟨h1.1.1,h1.1.2.elim (λh=>.inr h) .inl,λb hb=>by have:=h1.2 b hb;simpa using this⟩
def DC (env:Env):Option (Nat×Bool)->Prop
 |none=>True
 |some (g,want)=>nZ (env g) want=true
structure Bk where
 ds:List Deferred
 pins:List (Nat×Value)
structure fE (pl:gC) (ds:Bk) (cs:CS) (env:Env) (X:XS) (w0:World) (a:Act) (w:World):Prop where
 size:a.tmps.size=pl.n
 defers:a.defers=ds.ds
 Ai: ∀p,p∈ds.pins->a.tmps[p.1]? =some p.2/\((∃n k,look pl.boxes p.1=some n/\p.2=ej k 0)\/pl.j8 p.1=true)
 ext:Kp X w0 w
 xl: ∀k,X k->k<w.heap.size
 qy: ∀s,pl.j8 s=true->a.tmps[s]? =some (env s)
 sig: ∀p,p∈cs.sig->a.tmps[p.1]? =some (p.2.ev env)
 box: ∀b n,look pl.boxes b=some n-> ∀cells,env b= .agg cells-> ∃k ty,a.tmps[b]? =some (ej k 0)/\w.heap[k]? =some (.cells cells ty (0,0))/\cells.size=n/\ ¬X k
 inj: ∀b b' n n',look pl.boxes b=some n->look pl.boxes b'=some n'->gy (env b)=true->gy (env b')=true-> ∀k,a.tmps[b]? =some (ej k 0)->a.tmps[b']? =some (ej k 0)->b=b'
 conv: ∀b n,look pl.boxes b=some n-> ∀k,a.tmps[b]? =some (ej k 0)->gy (env b)=true
 live: ∀b,b∈cs.live->(∃n,look pl.boxes b=some n)/\gy (env b)=true
 ptr: ∀p,p∈cs.zK->(∃n,look pl.boxes p.b=some n)/\(DC env p.g->gy (env p.b)=true/\ ∃k,a.tmps[p.b]? =some (ej k 0)/\a.tmps[p.s]? =some (ej k p.off))
theorem rl (a:Act) (d:Nat) (v:Value) (s:Nat) (hd:d<a.tmps.size):(a.put (some d) v).tmps[s]? =if s=d then some v else a.tmps[s]? :=by
 simp only[nj,dL]
 grind
theorem gp (a:Act) (d:Nat) (v:Value) (s:Nat) (h:s≠d):(a.put (some d) v).tmps[s]? =a.tmps[s]? :=by
 simp only[nj,dL]
 grind
theorem mu (e:Env) (d:Nat) (v:Value):jR e d v d=v:=by simp[jR]
variable {d : Nat}
theorem iM (e:Env) (v:Value) (h:s≠d):jR e d v s=e s:=by grind [jR]
variable {e : Ex}
theorem WL (h:e.Wx d=false) (env:Env) (v:Value):e.ev (jR env d v)=e.ev env:=by
 cases e<;>simp only[Ex.Wx,beq_eq_false_iff_ne,ne_eq] at h<;>simp[Ex.ev,iM,h]
theorem vQ:gy v=true↔ ∃c,v= .agg c:=by
 cases v<;>simp[gy]
variable {ds : Bk} {cs : CS} {env : Env} {w0 eh : World} {n off sz t : Nat} {ss : List (Nat × Ex)} {op : Op} {X' : XS} {nd : List Nat} {next : Env -> World -> XS -> Prop} {jc : List PanicEntry -> Env -> World -> XS -> Prop} {cells za : Array Value} {ty : TypeId}
theorem tn (h:pl.j8 s=true):s<pl.n/\look pl.boxes s=none/\pl.TE.contains s=false:=by
 simp only[gC.j8,aF,decide_eq_true_eq,nO,cX] at h
 grind
theorem zC (h:pl.np s=true):s<pl.n/\look pl.boxes s=none/\pl.TE.contains s=false:=by
 simp only[gC.np,aF,decide_eq_true_eq,nO,cX] at h
 grind
theorem BW {α:Type} {l:List (Nat×α)} {e:α} (h:look l t=some e):(t,e)∈l:=by
 induction l with
 |nil=>cases h
 |cons p r ih=>
  grind [look]
theorem fE.eval (h:fE pl ds cs env X w0 a w) {x:Operand} (hv:valOf pl cs x=some e):a.eval x=e.ev env:=by
 cases x with
 |tmp t=>
  simp only[valOf] at hv;split at hv
  ·rename_i hg;injection hv with hv
   subst hv;simp[xj,h.qy t hg,Ex.ev]
  ·have:=h.sig _ (BW hv);simp only at this;simp[xj,this]
 |const v=>simp only[valOf,aj] at hv;subst hv;rfl
 |global g=>simp only[valOf,aj] at hv;subst hv;rfl
 |func f=>simp only[valOf,aj] at hv;subst hv;rfl
theorem AG: ∀{l:List Operand} {ss:List (Nat×Ex)},subst pl cs l=some ss->
  (∀t e,look ss t=some e->valOf pl cs (.tmp t)=some e)/\(∀t,.tmp t∈l->look ss t=none->valOf pl cs (.tmp t)=some (.t t))
 |[],ss,h=>by
  simp only[subst,aj] at h;subst h;exact⟨λt e h=>(by cases h),λt h=>(by cases h)⟩
 |x::r,ss,h=>by
  cases x with
  |tmp t=>
   simp only[subst] at h;cases hv:valOf pl cs (.tmp t)with
   |none=>simp[hv] at h
   |some e=>
    cases hr:subst pl cs r with
    |none=>simp[hv,hr] at h
    |some ss'=>
     obtain⟨i1,i2⟩:=AG hr;simp only[hv,hr,aj] at h;have gen: ∀e',e=e'->ss=(t,e')::ss'->(∀u e,look ss u=some e->valOf pl cs (.tmp u)=some e)/\(∀u,.tmp u∈(.tmp t::r)->look ss u=none->valOf pl cs (.tmp u)=some (.t u)):=by
      intro e' he hs;subst hs;refine⟨λu e2 hu=>?_,λu hu hn=>?_⟩
      ·simp only[look] at hu;split at hu
       ·rename_i htu;injection hu with hu
        subst htu hu;rw[hv,he]
       ·exact i1 _ _ hu
      ·simp only[look] at hn;split at hn
       ·cases hn
       ·rename_i htu;rcases List.mem_cons.1 hu with h1|h1
        ·injection h1 with h1;exact absurd h1.symm htu
        ·exact i2 u h1 hn
     cases e with
     |t n=>
      simp only at h;split at h
      ·rename_i hnt;subst hnt h;refine⟨i1,λu hu hn=>?_⟩;rcases List.mem_cons.1 hu with h1|h1
       ·injection h1 with h1;subst h1;exact hv
       ·exact i2 u h1 hn
      ·exact gen _ rfl h.symm
     |c v=>exact gen _ rfl h.symm
     |s b o n=>exact gen _ rfl h.symm
     |k b o=>exact gen _ rfl h.symm
  |const v=>
   obtain⟨i1,i2⟩:=AG (l:=r) (by simpa only [subst] using h);exact⟨i1,λu hu hn=>(List.mem_cons.1 hu).elim (λh1=>by cases h1) λh1=>i2 u h1 hn⟩
  |global v=>
   obtain⟨i1,i2⟩:=AG (l:=r) (by simpa only [subst] using h);exact⟨i1,λu hu hn=>(List.mem_cons.1 hu).elim (λh1=>by cases h1) λh1=>i2 u h1 hn⟩
  |func v=>
   obtain⟨i1,i2⟩:=AG (l:=r) (by simpa only [subst] using h);exact⟨i1,λu hu hn=>(List.mem_cons.1 hu).elim (λh1=>by cases h1) λh1=>i2 u h1 hn⟩
theorem fE.FF (h:fE pl ds cs env X w0 a w) {l:List Operand} (hs:subst pl cs l=some ss):
  ∀x,x∈l->a.eval x=aL.FF env ss x:=by
 obtain⟨i1,i2⟩:=AG hs;intro x hx;cases x with
 |tmp t=>
  simp only[aL.FF];cases hl:look ss t with
  |some e=>exact h.eval (i1 t e hl)
  |none=>exact h.eval (i2 t hx hl)
 |const v=>rfl
 |global g=>rfl
 |func f=>rfl
theorem acx (h:H9 op=true): ∀cs b,op≠ .select cs b:=by
 intro cs b e;subst e;cases h
theorem fE.exec (h:fE pl ds cs env X w0 a w) (hs:subst pl cs o.op.operands.toList=some ss) (hn:H9 o.op=true):
  execOp a.eval o=execOp (aL.FF env ss) (Wy o.op o.type):=by
 rw[execOp_congr o (acx hn) λx hx=>h.FF hs x gQ];rfl
theorem fE.step (h:fE pl ds cs env X w0 a w) (hx:Kp X' eh w') (hX: ∀k,X' k->k<w'.heap.size)
  (hb: ∀k,k<w.heap.size-> ¬X k->w'.heap[k]? =w.heap[k]? /\ ¬X' k):fE pl ds cs env X' eh a w' where
 size:=h.size
 defers:=h.defers
 Ai:=h.Ai
 ext:=hx
 xl:=hX
 qy:=h.qy
 sig:=h.sig
 box:=λb n hn cells hc=>by
  obtain⟨k,ty,h1,h2,h3,h4⟩:=h.box b n hn cells hc;obtain⟨e1,e2⟩:=hb k (Array.getElem?_eq_some_iff.1 h2).1 h4;exact⟨k,ty,h1,e1.trans h2,h3,e2⟩
 inj:=h.inj
 conv:=h.conv
 live:=h.live
 ptr:=h.ptr
def fE.ju (h:fE pl ds cs env X w0 a w) (hx:Ext w w'):fE pl ds cs env X w0 a w':=
 h.step (h.ext.trans (hx.kp h.xl)) (λk hk=>av (h.xl k hk) hx.size) λ_ hk hX=>⟨hx.block hk,hX⟩
theorem fE.ME (h:fE pl ds cs env X w0 a w) (hs:Step m X w w'):fE pl ds cs env (grow X w w') w' a w':=
 h.step (Kp.refl _ _) (λk hk=>hk.elim (λhX=>av (h.xl k hX) hs.fr.size) (·.2))
  λk hk hX=>⟨hs.fr.block k hk hX,λhg=>hg.elim hX λhg=>by omega⟩
theorem tP (hs:look pl.boxes s=some n) (hd:look pl.boxes d=none):s≠d:=by grind
theorem fE.bind (h:fE pl ds cs env X w0 a w) (hd:pl.np d=true) (v:Value) (qT: ∀p,p∈ds.pins->p.1≠d):
  fE pl ds (cs.bind pl d) (jR env d v) X w0 (a.put (some d) v) w:=by
 obtain⟨cB,lJ,ry⟩:=zC hd;have gd:d<a.tmps.size:=by rw[h.size];exact cB
 have ajw: ∀p,p∈(cs.kill d).sig->(a.put (some d) v).tmps[p.1]? =some (p.2.ev (jR env d v)):=by
  intro p hp;simp only[CS.kill,iw,aF,bne_iff_ne,ne_eq,cX] at hp;rw[gp _ _ _ _ hp.2.1,WL hp.2.2];exact h.sig p hp.1
 have alH: ∀p,p∈(cs.kill d).zK->(∃n,look pl.boxes p.b=some n)/\(DC (jR env d v) p.g->gy (jR env d v p.b)=true/\ ∃k,(a.put (some d) v).tmps[p.b]? =some (ej k 0)/\(a.put (some d) v).tmps[p.s]? =some (ej k p.off)):=by
  intro p hp;simp only[CS.kill,iw,aF,bne_iff_ne,ne_eq] at hp;obtain⟨hp0,⟨hb,hs⟩,hg⟩:=hp;obtain⟨e1,e2⟩:=h.ptr p hp0;refine⟨e1,λWM=>?_⟩;have apY:DC env p.g:=by
   cases P1:p.g with
   |none=>trivial
   |some x=>
    obtain⟨g,want⟩:=x;rw[P1] at WM hg;simp only[DC] at WM⊢
    rwa [iM _ _ gQ] at WM
  obtain⟨e3,k,e4,e5⟩:=e2 apY;rw[iM _ _ hb,gp _ _ _ _ hb,gp _ _ _ _ hs];exact⟨e3,k,e4,e5⟩
 have agW: ∀p,p∈(cs.bind pl d).sig->(a.put (some d) v).tmps[p.1]? =some (p.2.ev (jR env d v)):=by
  intro p hp;simp only[CS.bind] at hp;split at hp
  ·exact ajw p hp
  ·rcases List.mem_cons.1 hp with rfl|hp
   ·simp[rl _ _ _ _ gd,Ex.ev,mu]
   ·exact ajw p hp
 have hpt:(cs.bind pl d).zK=(cs.kill d).zK:=by simp only[CS.bind];split<;>rfl
 have hlv:(cs.bind pl d).live=cs.live:=by simp only[CS.bind];split<;>rfl
 exact {
  size:=by simp[nj,h.size]
  defers:=h.defers
  Ai:=λp hp=>⟨by rw[gp _ _ _ _ (qT p hp)];exact(h.Ai p hp).1,(h.Ai p hp).2⟩
  ext:=h.ext
  xl:=h.xl
  qy:=λs hs=>by
   rw[rl _ _ _ _ gd];split
   ·rename_i e;subst e;rw[mu]
   ·rename_i e;rw[iM _ _ e];exact h.qy s hs
  sig:=agW
  box:=λb n hn cells hc=>by
   have pD:=tP hn lJ;rw[iM _ _ pD] at hc;rw[gp _ _ _ _ pD];exact h.box b n hn cells hc
  inj:=λb b' n n' hb dT h1 h2 k h3 h4=>by
   have pD:=tP hb lJ;have Ku:=tP dT lJ;rw[iM _ _ pD] at h1;rw[iM _ _ Ku] at h2;rw[gp _ _ _ _ pD] at h3;rw[gp _ _ _ _ Ku] at h4;exact h.inj b b' n n' hb dT h1 h2 k h3 h4
  conv:=λb n hb k hk=>by
   have pD:=tP hb lJ;rw[gp _ _ _ _ pD] at hk;rw[iM _ _ pD];exact h.conv b n hb k hk
  live:=λb hb=>by
   rw[hlv] at hb;obtain⟨⟨n,hn⟩,hl⟩:=h.live b hb;rw[iM _ _ (tP hn lJ)];exact⟨⟨n,hn⟩,hl⟩
  ptr:=by rw[hpt];omega }
theorem fE.l9 (h:fE pl ds cs env X w0 a w) (hn: ∀b,b∈nd->(∃n,look pl.boxes b=some n)/\gy (env b)=true):
  fE pl ds (cs.l9 nd) env X w0 a w:=
 { h with live:=λb hb=>(List.mem_append.1 hb).elim (hn b) (h.live b) }
theorem fE.other (h:fE pl ds cs env X w0 a w) (cB:d<pl.n) (lJ:look pl.boxes d=none) (P2:pl.j8 d=false) (v:Value) {pE:CS}
  (agW: ∀p,p∈pE.sig->(a.put (some d) v).tmps[p.1]? =some (p.2.ev env)) (hlv:pE.live=cs.live)
  (alH: ∀p,p∈pE.zK->(∃n,look pl.boxes p.b=some n)/\(DC env p.g->gy (env p.b)=true/\ ∃k,(a.put (some d) v).tmps[p.b]? =some (ej k 0)/\(a.put (some d) v).tmps[p.s]? =some (ej k p.off))):
  fE pl ds pE env X w0 (a.put (some d) v) w where
 size:=by simp[nj,h.size]
 defers:=h.defers
 Ai:=λp hp=>by
  obtain⟨h1,h2⟩:=h.Ai p hp;refine⟨?_,h2⟩;have ct:p.1≠d:=λe=>by
   rcases h2 with⟨n,_,hn,_⟩|hg
   ·rw[e,lJ] at hn;cases hn
   ·rw[e,P2] at hg;cases hg
  rw[gp _ _ _ _ ct];exact h1
 ext:=h.ext
 xl:=h.xl
 qy:=λs hs=>by
  rw[gp _ _ _ _ gQ];exact h.qy s hs
 sig:=agW
 box:=λb n hn cells hc=>by
  rw[gp _ _ _ _ (tP hn lJ)];exact h.box b n hn cells hc
 inj:=λb b' n n' hb dT h1 h2 k h3 h4=>by
  rw[gp _ _ _ _ (tP hb lJ)] at h3;rw[gp _ _ _ _ (tP dT lJ)] at h4;exact h.inj b b' n n' hb dT h1 h2 k h3 h4
 conv:=λb n hb k hk=>by
  rw[gp _ _ _ _ (tP hb lJ)] at hk;exact h.conv b n hb k hk
 live:=λb hb=>h.live b (hlv▸hb)
 ptr:=alH
theorem fE.note (h:fE pl ds cs env X w0 a w) (hd:pl.np d=true) (P2:pl.j8 d=false) (e:Ex):
  fE pl ds (cs.note d e) env X w0 (a.put (some d) (e.ev env)) w:=by
 obtain⟨cB,lJ,ry⟩:=zC hd;have gd:d<a.tmps.size:=by rw[h.size];exact cB
 refine h.other cB lJ P2 _ ?_ rfl ?_
 ·intro p hp;simp only[CS.note,ic,iw,bne_iff_ne,ne_eq] at hp;rcases hp with rfl|⟨hp,ct⟩
  ·simp[rl _ _ _ _ gd]
  ·rw[gp _ _ _ _ ct];exact h.sig p hp
 ·intro p hp;simp only[CS.note,iw,bne_iff_ne,ne_eq] at hp;obtain⟨⟨n,hn⟩,e2⟩:=h.ptr p hp.1;refine⟨⟨n,hn⟩,λhg=>?_⟩;obtain⟨e3,k,e4,e5⟩:=e2 hg;refine⟨e3,k,?_,?_⟩
  ·rw[gp _ _ _ _ (tP hn lJ)];exact e4
  ·rw[gp _ _ _ _ hp.2];exact e5
theorem fE.rX (h:fE pl ds cs env X w0 a w) (hd:pl.np d=true) (e:Ex)
  (hn:hU P jc next (aL.rX pl cs d e).1 env w0 X) (qT: ∀b,b∈oq (aL.rX pl cs d e).1-> ∀p,p∈ds.pins->p.1≠b): ∃dt,fE pl ds (aL.rX pl cs d e).2 dt X w0 (a.put (some d) (e.ev env)) w/\next dt w0 X:=by
 unfold aL.rX at hn qT⊢;split
 ·rename_i hg;rw[if_pos hg] at hn qT;exact⟨_,h.bind hd _ (qT d (by simp[oq,TI.Km])),hn⟩
 ·rename_i hg;rw[if_neg hg] at hn;have P2:pl.j8 d=false:=by
   cases hx:pl.j8 d with
   |false=>rfl
   |true=>grind
  exact⟨env,h.note hd P2 e,hn⟩
theorem fE.derive (h:fE pl ds cs env X w0 a w) {b:Nat} {g:Option (Nat×Bool)} (cB:d<pl.n) (lJ:look pl.boxes d=none) (OK:pl.TE.contains d=true)
    (v:Value) (hb: ∃n,look pl.boxes b=some n) (hv:DC env g->gy (env b)=true/\ ∃k,a.tmps[b]? =some (ej k 0)/\v=ej k off)
 :
    fE pl ds (cs.rW d b off g) env X w0 (a.put (some d) v) w:=by
  have gd:d<a.tmps.size:=by rw[h.size];exact cB
  have P2:pl.j8 d=false:=by
    cases hx:pl.j8 d with
    |false=>rfl
    |true=>have:=(tn hx).2.2;grind
  refine h.other cB lJ P2 _ ?_ rfl ?_
  · intro p hp
    simp only[CS.rW,iw,bne_iff_ne,ne_eq] at hp;rw[gp _ _ _ _ hp.2];exact h.sig p hp.1
  · intro p hp
    rcases List.mem_cons.1 hp with rfl|hp
    · obtain⟨n,hn⟩:=hb
      refine⟨⟨n,hn⟩,λhg=>?_⟩;obtain⟨e1,k,e2,e3⟩:=hv hg;refine⟨e1,k,?_,?_⟩
      · rw[gp _ _ _ _ (tP hn lJ)];exact e2
      · simp[rl _ _ _ _ gd,e3]
    · simp only[iw,bne_iff_ne,ne_eq] at hp
      obtain⟨⟨n,hn⟩,e2⟩:=h.ptr p hp.1;refine⟨⟨n,hn⟩,λhg=>?_⟩;obtain⟨e3,k,e4,e5⟩:=e2 hg;refine⟨e3,k,?_,?_⟩
      · rw[gp _ _ _ _ (tP hn lJ)];exact e4
      · rw[gp _ _ _ _ hp.2];exact e5
theorem agX {p:Nat×Ex} (hp:p∈(cs.kill d).sig):p∈cs.sig/\p.1≠d/\p.2.Wx d=false:=by grind [CS.kill]
theorem agY {p:Ptr} (hp:p∈(cs.kill d).zK):p∈cs.zK/\p.b≠d/\p.s≠d/\(∀v,DC (jR env d v) p.g->DC env p.g):=by
 simp only[CS.kill,iw,aF,bne_iff_ne,ne_eq] at hp;obtain⟨hp0,⟨hb,hs⟩,hg⟩:=hp;refine⟨hp0,hb,hs,λv WM=>?_⟩;cases P1:p.g with
 |none=>trivial
 |some x=>
  grind [DC,iM]
theorem fE.afh (h:fE pl ds cs env X w0 a w) (cB:d<pl.n) (hb:look pl.boxes d=some sz) (cells:Array Value) (gd:cells.size=sz) (ty:TypeId) (qT: ∀p,p∈ds.pins->p.1≠d):
  fE pl ds ((cs.kill d).l9 [d]) (jR env d (.agg cells)) X w0 (a.put (some d) (ej w.heap.size 0)) (w.alloc (.cells cells ty)):=by
 have hd:d<a.tmps.size:=by rw[h.size];exact cB
 have hg:=h.ju (Ext.alloc w (.cells cells ty));have fresh: ∀b n c,look pl.boxes b=some n->env b= .agg c->a.tmps[b]? ≠some (ej w.heap.size 0):=by
  intro b n c hn hc e;obtain⟨k,ty',h1,h2,_,_⟩:=h.box b n hn c hc;rw[h1] at e;have hk:k=w.heap.size:=by simpa [ej] using e
  subst hk;rw[pS (au _)] at h2;cases h2
 exact {
  size:=by simp[nj,h.size]
  defers:=h.defers
  Ai:=λp hp=>⟨by rw[gp _ _ _ _ (qT p hp)];exact(h.Ai p hp).1,(h.Ai p hp).2⟩
  ext:=hg.ext
  xl:=hg.xl
  qy:=λs hs=>by
   have ct:s≠d:=λe=>by subst e;have:=(tn hs).2.1;grind
   rw[gp _ _ _ _ ct,iM _ _ ct];exact h.qy s hs
  sig:=λp hp=>by
   obtain⟨h1,h2,h3⟩:=agX hp;rw[gp _ _ _ _ h2,WL h3];exact h.sig p h1
  box:=λb n hn c hc=>by
   by_cases pD:b=d
   ·subst pD;rw[mu] at hc;injection hc with hc
    subst hc;rw[hb] at hn;injection hn with hn
    refine⟨w.heap.size,ty,by simp[rl _ _ _ _ hd],heap_alloc_new w _,by omega,λhX=>?_⟩;exact absurd (h.xl _ hX) zQ
   ·rw[iM _ _ pD] at hc;rw[gp _ _ _ _ pD];exact hg.box b n hn c hc
  inj:=λb b' n n' hn mj h1 h2 k h3 h4=>by
   obtain⟨c,hc⟩:=vQ.1 h1;obtain⟨c',Cy⟩:=vQ.1 h2;by_cases pD:b=d<;>by_cases Ku:b'=d
   ·omega
   ·subst pD;rw[rl _ _ _ _ hd,if_pos rfl] at h3;rw[gp _ _ _ _ Ku] at h4;rw[iM _ _ Ku] at Cy;rw[<-h3] at h4;exact absurd h4 (fresh b' n' c' mj Cy)
   ·subst Ku;rw[rl _ _ _ _ hd,if_pos rfl] at h4;rw[gp _ _ _ _ pD] at h3;rw[iM _ _ pD] at hc;rw[<-h4] at h3;exact absurd h3 (fresh b n c hn hc)
   ·rw[iM _ _ pD] at h1;rw[iM _ _ Ku] at h2;rw[gp _ _ _ _ pD] at h3;rw[gp _ _ _ _ Ku] at h4;exact h.inj b b' n n' hn mj h1 h2 k h3 h4
  conv:=λb n hn k hk=>by
   by_cases pD:b=d
   ·subst pD;rw[mu];rfl
   ·rw[gp _ _ _ _ pD] at hk;rw[iM _ _ pD];exact h.conv b n hn k hk
  live:=λb dT=>by
   simp only[CS.l9,jW,cC,ic] at dT;rcases dT with rfl|dT
   ·exact⟨⟨sz,hb⟩,by rw[mu];rfl⟩
   ·obtain⟨e1,e2⟩:=h.live b dT;refine⟨e1,?_⟩;by_cases pD:b=d
    ·subst pD;rw[mu];rfl
    ·rw[iM _ _ pD];exact e2
  ptr:=λp hp=>by
   obtain⟨h1,h2,h3,h4⟩:=agY (env:=env) hp;obtain⟨e1,e2⟩:=h.ptr p h1;refine⟨e1,λWM=>?_⟩;obtain⟨e3,k,e4,e5⟩:=e2 (h4 _ WM);rw[iM _ _ h2,gp _ _ _ _ h2,gp _ _ _ _ h3];exact⟨e3,k,e4,e5⟩ }
theorem fE.store (h:fE pl ds cs env X w0 a w) {b:Nat} (hb:look pl.boxes b=some n) (hc:env b= .agg cells)
  (ht:a.tmps[b]? =some (ej k 0)) (hk:w.heap[k]? =some (.cells cells ty (0,0))) (hX: ¬X k) (gd:za.size=n) (hw:Fr (· =k) w w') (af:w'.heap[k]? =some (.cells za ty (0,0))):
  fE pl ds (cs.MC b) (jR env b (.agg za)) X w0 a w':=by
 have hA:gy (env b)=true:=by rw[hc];rfl
 exact {
  size:=h.size
  defers:=h.defers
  Ai:=h.Ai
  ext:=h.ext.trans (hw.kp λj hj=>⟨h.xl j hj,λe=>by grind⟩)
  xl:=λj hj=>av (h.xl j hj) hw.size
  qy:=λs hs=>by
   have ct:s≠b:=λe=>by subst e;have:=(tn hs).2.1;grind
   rw[iM _ _ ct];exact h.qy s hs
  sig:=λp hp=>by
   simp only[CS.MC,iw,cX] at hp;rw[WL hp.2];exact h.sig p hp.1
  box:=λb' n' mj c Cy=>by
   by_cases pD:b'=b
   ·subst pD;rw[mu] at Cy;injection Cy with Cy
    subst Cy;rw[hb] at mj;injection mj with mj
    exact⟨k,ty,ht,af,by omega,hX⟩
   ·rw[iM _ _ pD] at Cy;obtain⟨k2,NB,h1,h2,h3,h4⟩:=h.box b' n' mj c Cy;have sj:k2≠k:=λe=>by
     subst e;exact pD (h.inj b' b n' n mj hb gQ hA k2 h1 ht)
    exact⟨k2,NB,h1,(hw.block k2 (Array.getElem?_eq_some_iff.1 h2).1 sj).trans h2,h3,h4⟩
  inj:=λb1 b2 n1 n2 wE hn2 h1 h2 j h3 h4=>by
   have f: ∀b',gy (jR env b (.agg za) b')=true->gy (env b')=true:=λb' hh=>by
    by_cases e:b'=b
    ·grind
    ·rwa [iM _ _ e] at hh
   exact h.inj b1 b2 n1 n2 wE hn2 (f b1 h1) (f b2 h2) j h3 h4
  conv:=λb' n' mj j hj=>by
   by_cases e:b'=b
   ·subst e;rw[mu];rfl
   ·rw[iM _ _ e];exact h.conv b' n' mj j hj
  live:=λb' dT=>by
   obtain⟨e1,e2⟩:=h.live b' dT;refine⟨e1,?_⟩;by_cases e:b'=b
   ·subst e;rw[mu];rfl
   ·rwa [iM _ _ e]
  ptr:=λp hp=>by
   obtain⟨e1,e2⟩:=h.ptr p hp;refine⟨e1,λhg=>?_⟩;have rz:DC env p.g:=by
    cases P1:p.g with
    |none=>trivial
    |some x=>
     obtain⟨g,want⟩:=x;rw[P1] at hg;simp only[DC] at hg⊢;by_cases e:g=b
     ·subst e;rw[mu] at hg;cases hg
     ·rwa [iM _ _ e] at hg
   obtain⟨e3,k2,e4,e5⟩:=e2 rz;refine⟨?_,k2,e4,e5⟩;by_cases e:p.b=b
   ·rw[e,mu];rfl
   ·rwa [iM _ _ e] }
variable {ag : Bool}
theorem zN (k o n:Nat):(⟨k,o,none⟩:Addr).add n=⟨k,o+n,none⟩:=by grind [Addr.add]
theorem NC {S f fo:Nat} (h:fieldInfo P S f=some (fo,sz)) (hz:sz≠0) (k off:Nat) (w:World):
  (Instr.fieldAt S (ej k off) f).run P w= .ok (ej k (off+fo)) w:=by
 unfold fieldInfo at h;split at h
 ·rename_i fs hu;cases hf:fs[f]? with
  |none=>grind
  |some x=>
   cases hi:P.info? x.type with
   |none=>grind
   |some i=>
    simp only[hf,hi,cM,aY,aj,cP] at h;obtain⟨h1,h2⟩:=h;subst h1 h2;simp[Instr.fieldAt,run_underlying hu,hf,oX,ej,fieldPlace,sizeOf,typeInfo,hi,hz,zN]
 ·cases h
theorem Jj (h:w.heap[k]? =some (.cells cells ty (0,0))) (i:Nat):w.cell? ⟨k,i,none⟩=cells[i]? :=by
 simp[World.cell?,h]
theorem P3 (h:kP P t=some (ag,sz)) (WN:(ag||sz==1)=true)
  (hk:w.heap[k]? =some (.cells cells ty (0,0))) (off:Nat) (hl:off+sz<=cells.size):
  (jm t (ej k off)).run P w= .ok (if ag then yh (.agg cells) off sz else cellOf (.agg cells) off) w:=by
 unfold kP at h;split at h
 ·rename_i d i hu hi;simp only[aj,cP] at h;obtain⟨h1,h2⟩:=h;subst h2;have BX:(isAgg t).run P w= .ok ag w:=by
   subst h1;cases d<;>simp[isAgg,run_underlying hu]
  cases ag with
  |true=>
   have hc: ∀j v,((cells.toList.drop off).take i.size)[j]? =some v->w.cell? ((⟨k,off,none⟩:Addr).add j)=some v:=by
    intro j v hj;rw[zN,Jj hk];rw[List.getElem?_take] at hj;split at hj
    ·rw[List.getElem?_drop] at hj;simpa using hj
    ·cases hj
   have hlen:((cells.toList.drop off).take i.size).length=i.size:=by
    simp;omega
   have hr:=run_loadCells_list (P:=P) w ⟨k,off,none⟩ _ hc;rw[hlen] at hr;simp[jm,oX,ej,loadVar,BX,sizeOf,typeInfo,hi,hr,yh,Value.cells]
  |false=>
   simp only[Bool.false_or,beq_iff_eq] at WN;have cB:off<cells.size:=by omega
   have hc:w.cell? ⟨k,off,none⟩=some cells[off]:=by rw[Jj hk];simp[cB]
   simp[jm,oX,ej,loadVar,BX,hc,cellOf,Value.cells,cB]
 ·cases h
theorem P4 (v:Value):one v=v.oneCell':=by rfl
theorem sL (h:one v=true):v.cells= #[v]:=by cases v<;>first|rfl|cases h
theorem aaF (h:kP P t=some (ag,sz)):(P.info? t).map (·.size)=some sz:=by
 unfold kP at h
 grind
theorem ND (h:(P.info? t).map (·.size)=some sz)
  (hk:w.heap[k]? =some (.cells cells ty (0,0))) (off:Nat) (hl:off+sz<=cells.size) (v:Value) (hv:v.cells.size=sz) (h1:v.cells.toList.all one=true):
  (Instr.storeAt t (ej k off) v).run P w= .ok () (w.setRow k (dr cells.toList off v.cells.toList).toArray):=by
 cases hi:P.info? t with
 |none=>grind
 |some i=>
  simp only[hi,aY,aj] at h;have fP:=run_storeCells_at P k off ty v.cells.toList 0 cells w hk (by simpa [hv] using hl) (λx hx=>by
   have:=List.all_eq_true.1 h1 x hx;assumption)
  simp only[Nat.add_zero] at fP;simp[Instr.storeAt,oX,ej,storeVar,sizeOf,typeInfo,hi,h,hv,fP,dr]
theorem afi (hk:w.heap[k]? =some (.cells cells ty (0,0))):
  Fr (· =k) w (w.setRow k za)/\(w.setRow k za).heap[k]? =some (.cells za ty (0,0)):=by
 refine⟨⟨rfl,rfl,rfl,by simp[World.setRow],λj _ hj=>?_⟩,setRow_heap w k cells za ty (0,0) hk⟩;simp only[World.setRow,Array.getElem?_modify]
 grind
theorem agZ {l vs:List Value} (h:off+vs.length<=l.length):(dr l off vs).length=l.length:=by
 simp[dr];omega
variable {og : Option (Nat × Bool)} {r : CR}
theorem Kv: ∀{l:List Ptr} {t b off:Nat},Hj og l t=some (b,off)-> ∃p,p∈l/\p.s=t/\p.b=b/\p.off=off/\(p.g=none\/p.g=og)
 |[],_,_,_,h=>by cases h
 |p::r,t,b,off,h=>by
  simp only[Hj] at h;split at h
  ·simp_all
  ·obtain⟨q,h1,h2⟩:=Kv h
   grind
theorem fE.wD (h:fE pl ds cs env X w0 a w) {x:Operand} {b:Nat} (hp:aL.wD pl cs og x=some (b,off,nd)):
  (∃n,look pl.boxes b=some n)/\(∀b',b'∈nd-> ∃n,look pl.boxes b'=some n)/\
  ((∀b',b'∈nd->gy (env b')=true)->DC env og->gy (env b)=true/\ ∃k,a.eval x=ej k off/\a.tmps[b]? =some (ej k 0)):=by
 cases x with
 |tmp t=>
  simp only[aL.wD] at hp;split at hp
  ·rename_i n hn;simp only[aj,cP] at hp;obtain⟨rfl,rfl,ry⟩:=hp;refine⟨⟨n,hn⟩,λb' dT=>?_,λhl _=>?_⟩
   ·grind
   ·have hA:gy (env t)=true:=by
     split at ry
     ·rename_i hc;exact(h.live t gQ).2
     ·grind
    obtain⟨c,hc⟩:=vQ.1 hA;obtain⟨k,ty,h1,_⟩:=h.box t n hn c hc;exact⟨hA,k,by simp[xj,h1],h1⟩
  ·split at hp
   ·cases hf:Hj og cs.zK t with
    |none=>grind
    |some q=>
     obtain⟨b',asx⟩:=q;simp only[hf,aY,aj,cP] at hp;obtain⟨rfl,rfl,rfl⟩:=hp;obtain⟨p,hp,hs,hb,ho,hg⟩:=Kv hf;obtain⟨e1,e2⟩:=h.ptr p hp;subst hs hb ho;refine⟨e1,λ_ dT=>(by cases dT),λ_ WM=>?_⟩;obtain⟨e3,k,e4,e5⟩:=e2 (hg.elim (λhg=>by simp[hg,DC]) (λhg=>by grind));exact⟨e3,k,by simp[xj,e5],e4⟩
   ·cases hp
 |const v=>cases hp
 |global g=>cases hp
 |func f=>cases hp
theorem Kw: ∀(nd:List Nat) {l:List TI},
  hU P jc next (nd.map .zJ++l) env w X->(∀b,b∈nd->gy (env b)=true)/\hU P jc next l env w X
 |[],_,h=>⟨λ_ hb=>(by cases hb),h⟩
 |b::nd,l,h=>by
  obtain⟨h1,h2⟩:gy (env b)=true/\hU P jc next (nd.map .zJ++l) env w X:=by simpa only [List.map_cons,jW,hU,WD,dJ] using h
  obtain⟨h3,h4⟩:=Kw nd h2;refine⟨λb' dT=>?_,h4⟩;rcases List.mem_cons.1 dT with rfl|dT
  ·exact h1
  ·exact h3 b' dT
theorem Ck: ∀(l l':List TI),hU P jc next (l++l')=hU P jc (hU P jc next l') l
 |[],_=>rfl
 |i::l,l'=>by
  funext env w X
  simp only[jW,hU,Ck l l']
inductive Shape (P:Program) (pl:gC) (cs:CS) (og:Option (Nat×Bool)) (m:Bool) (o:Oper):CR->Prop
 |mv (x:Operand) (d:Nat) (e:Ex) (ho:o.op= .move x\/o.op= .assign x) (hd:o.dst=some d) (hv:valOf pl cs x=some e) (hp:pl.np d=true):
   Shape P pl cs og m o ⟨true,[],(rX pl cs d e).1,(rX pl cs d e).2,[],[]⟩
 |ld (t:TypeId) (x:Operand) (d b off:Nat) (nd:List Nat) (ag:Bool) (sz bs:Nat) (ho:o.op= .load t x) (hd:o.dst=some d) (hx:aL.wD pl cs og x=some (b,off,nd))
   (ht:kP P t=some (ag,sz)) (hb:look pl.boxes b=some bs) (hp:pl.np d=true) (hl:off+sz<=bs) (ha:(ag||sz==1)=true):
   Shape P pl cs og m o ⟨true,nd,(rX pl (cs.l9 nd) d (if ag then .s b off sz else .k b off)).1,(rX pl (cs.l9 nd) d (if ag then .s b off sz else .k b off)).2,[b],[]⟩
 |fa (S:TypeId) (x:Operand) (f d b off:Nat) (nd:List Nat) (fo sz:Nat) (ho:o.op= .fieldAddr S x f) (hd:o.dst=some d) (hx:aL.wD pl cs og x=some (b,off,nd))
   (hf:fieldInfo P S f=some (fo,sz)) (OK:pl.TE.contains d=true) (cB:d<pl.n) (lJ:look pl.boxes d=none) (hz:sz≠0):
   Shape P pl cs og m o ⟨true,nd,[],(cs.l9 nd).rW d b (off+fo) og,[],[]⟩
 |rd (d:Nat) (ss:List (Nat×Ex)) (hd:o.dst=some d) (hs:subst pl cs o.op.operands.toList=some ss) (hn:H9 o.op=true) (hp:pl.np d=true):
   Shape P pl cs og m o ⟨true,[],[.rd d o.op o.type ss],cs.bind pl d,[],[]⟩
 |DB (d:Nat) (ss:List (Nat×Ex)) (hd:o.dst=some d) (hs:subst pl cs o.op.operands.toList=some ss) (hn:H9 o.op=true) (hp:pl.np d=true):
   Shape P pl cs og m o ⟨false,[],[.DB (some d) o.op o.type ss m],cs.bind pl d,[],[]⟩
 |act (ss:List (Nat×Ex)) (hd:o.dst=none) (hs:subst pl cs o.op.operands.toList=some ss) (hn:H9 o.op=true):
   Shape P pl cs og m o ⟨false,[],[.DB none o.op o.type ss m],cs,[],[]⟩
 |bx (t:TypeId) (x:Operand) (d sz:Nat) (e:Ex) (ag:Bool) (ho:o.op= .box t x) (hd:o.dst=some d) (hb:look pl.boxes d=some sz) (hv:valOf pl cs x=some e) (ht:kP P t=some (ag,sz)) (cB:d<pl.n):
   Shape P pl cs og m o ⟨false,[],[if !ag&&sz==1 then .BU d e else .box d sz e],(cs.kill d).l9 [d],[],[]⟩
 |al (t:TypeId) (d sz:Nat) (i:TypeInfo) (z:Value) (ag:Bool) (ho:o.op= .alloc t) (hd:o.dst=some d) (hb:look pl.boxes d=some sz) (hi:P.info? t=some i) (hz:i.zero=some z) (ht:kP P t=some (ag,sz)) (cB:d<pl.n):
   Shape P pl cs og m o ⟨false,[],[if !ag&&sz==1 then .BU d (.c z)else .box d sz (.c z)],(cs.kill d).l9 [d],[],[]⟩
 |st (t:TypeId) (x v:Operand) (b off:Nat) (nd:List Nat) (sz bs:Nat) (e:Ex) (ag:Bool) (ho:o.op= .store t x v) (hd:o.dst=none) (hx:aL.wD pl cs og x=some (b,off,nd))
   (hv:valOf pl cs v=some e) (ht:kP P t=some (ag,sz)) (hb:look pl.boxes b=some bs) (hl:off+sz<=bs):
   Shape P pl cs og m o ⟨false,nd,[if !ag&&sz==1 then .Wz b off e else if off==0&&sz==bs then .fill b sz e else .put b off sz e],(cs.l9 nd).MC b,[],[b]⟩
theorem yk (h:FH P pl cs m o=some r):Shape P pl cs og m o r:=by
 unfold FH at h;split at h
 ·cases h
 ·rename_i ss hs;split at h
  ·cases h
  ·rename_i hn;simp only[cX,Ag] at hn;split at h
   ·rename_i d hd;split at h
    ·cases h
    ·rename_i hp;simp only[cX,Ag] at hp;split at h<;>injection h with h<;>subst h
     ·exact .rd d ss hd hs hn hp
     ·exact .DB d ss hd hs hn hp
   ·rename_i hd;injection h with h
    subst h;exact .act ss hd hs hn
theorem TL (h:WG P pl cs sz t e d=some r)
  (k: ∀ag,d<pl.n->kP P t=some (ag,sz)->Shape P pl cs og m o ⟨false,[],[if !ag&&sz==1 then .BU d e else .box d sz e],(cs.kill d).l9 [d],[],[]⟩):Shape P pl cs og m o r:=by
 unfold WG at h;split at h
 ·rename_i ag s ht;split at h
  ·grind
  ·cases h
 ·cases h
theorem tp (h:DR P pl cs og m o=some r):Shape P pl cs og m o r:=by
 unfold DR at h;split at h;case h_1 x ho=>
  split at h
  ·rename_i d e hd hv;split at h
   ·rename_i hp;injection h with h
    subst h;exact .mv x d e (.inl ho) hd hv hp
   ·cases h
  ·cases h
 case h_2 x ho=>
  split at h
  ·rename_i d e hd hv;split at h
   ·rename_i hp;injection h with h
    subst h;exact .mv x d e (.inr ho) hd hv hp
   ·cases h
  ·cases h
 case h_3 t x ho=>
  split at h
  ·rename_i d hd;split at h
   ·rename_i sz hb;split at h
    ·rename_i e hv;exact TL h λag cB ht=>.bx t x d sz e ag ho hd hb hv ht cB
    ·cases h
   ·exact yk h
  ·cases h
 case h_4 t ho=>
  split at h
  ·rename_i d hd;split at h
   ·rename_i sz hb;split at h
    ·rename_i z hz;cases hi:P.info? t with
     |none=>grind
     |some i=>
      simp only[hi,cM] at hz;exact TL h λag cB ht=>.al t d sz i z ag ho hd hb hi hz ht cB
    ·cases h
   ·exact yk h
  ·cases h
 case h_5 S x f ho=>
  split at h
  ·rename_i b off nd hx;split at h
   ·rename_i d fo sz hd hf;split at h
    ·rename_i hc;simp only[aF,decide_eq_true_eq,nO,bne_iff_ne,ne_eq] at hc;injection h with h
     subst h;exact .fa S x f d b off nd fo sz ho hd hx hf hc.1.1.1 hc.1.1.2 hc.1.2 hc.2
    ·cases h
   ·cases h
  ·exact yk h
 case h_6 t x ho=>
  split at h
  ·rename_i b off nd hx;split at h
   ·rename_i d ag sz bs hd ht hb;split at h
    ·rename_i hc;simp only[aF,decide_eq_true_eq] at hc;injection h with h
     subst h;exact .ld t x d b off nd ag sz bs ho hd hx ht hb hc.1.1 hc.1.2 hc.2
    ·cases h
   ·cases h
  ·exact yk h
 case h_7 t x v ho=>
  split at h
  ·rename_i b off nd hx;split at h
   ·rename_i e ag sz bs hd hv ht hb;split at h
    ·rename_i hc;simp only[decide_eq_true_eq] at hc;injection h with h
     subst h;exact .st t x v b off nd sz bs e ag ho hd hx hv ht hb hc
    ·cases h
   ·cases h
  ·exact yk h
 grind [yk]
theorem fE.zb (h:fE pl ds cs env X w0 a w) {RB:List Nat} (hz:ZB pl RB a k): ¬X k:=by
 obtain⟨b,n,hb,_,ht⟩:=hz;obtain⟨c,hc⟩:=vQ.1 (h.conv b n hb k ht);obtain⟨k',ty,e1,_,_,e4⟩:=h.box b n hb c hc;rw[ht] at e1;have:k'=k:=by simpa [ej] using e1.symm
 grind
def fE.kp0 (h:fE pl ds cs env X w0 a w) {RB:List Nat} (hx:Fr (ZB pl RB a) w w'):Kp X w0 w':=
 h.ext.trans (hx.kp λk hk=>⟨h.xl k hk,λhz=>h.zb hz hk⟩)
theorem fE.eT (h:fE pl ds cs env X w0 a w) {b:Nat} (hb:look pl.boxes b=some n) (ht:a.tmps[b]? =some (ej k 0)):k<w.heap.size/\ ¬X k:=by
 obtain⟨c,hc⟩:=vQ.1 (h.conv b n hb k ht);obtain⟨k',ty,e1,e2,_,e4⟩:=h.box b n hb c hc;rw[ht] at e1;have:k'=k:=by simpa [ej] using e1.symm
 grind
def fE.ag0 (h:fE pl ds cs env X w0 a w) (hx:Fr X w w'):zL pl sb a w w':=
 λ_ _ _ hb _ hk=>hx.block _ (h.eT hb hk).1 (h.eT hb hk).2
theorem ru.eZ (hx:Ext w w') (hz: ∀b n,look pl.boxes b=some n-> ∀k,k<w.heap.size->a'.tmps[b]? =some (ej k 0)->a.tmps[b]? =some (ej k 0)):ru pl sb a w a' w':=
 λ_ _=>⟨hx.fr _,λk hk ⟨b,n,h1,h2,h3⟩=>⟨b,n,h1,h2,hz b n h1 k hk h3⟩⟩
theorem ru.ag1 {d:Option Nat} (hx:Ext w w') (hd: ∀x,d=some x->look pl.boxes x=none):ru pl sb a w (a.put d v) w':=by
 refine ru.eZ hx λb n hb k _ hk=>?_;cases d with
 |none=>exact hk
 |some x=>rwa [gp _ _ _ _ (tP hb (hd x rfl))] at hk
theorem ru.sub (h:ru pl sb a w a' w') (hs: ∀b,b∈sb->b∈sb'):ru pl sb' a w a' w':=
 λRB Kn=>h RB λb hb=>Kn b (hs b hb)
theorem TM (hs:Shape P pl cs og m o r) (iP:r.fl=true): ∀x,o.dst=some x->look pl.boxes x=none:=by
 have f: ∀{d:Nat},o.dst=some d->pl.np d=true-> ∀x,o.dst=some x->look pl.boxes x=none:=λhd hp x hx=>by
  rw[hd] at hx;injection hx with hx;subst hx;exact(zC hp).2.1
 cases hs with
 |mv x d e ho hd hv hp=>grind
 |ld t x d b off nd ag sz bs ho hd hx ht hb hp hl ha=>grind
 |fa S x g d b off nd fo sz ho hd hx hf OK cB lJ hz=>grind
 |rd d ss hd hs hn hp=>grind
 |DB=>cases iP
 |act=>cases iP
 |bx=>cases iP
 |al=>cases iP
 |st=>cases iP
theorem TN (hs:Shape P pl cs og m o r) (h:fE pl ds cs env X w0 a w) (hg:DC env og)
  (hl: ∀b,b∈r.nd->gy (env b)=true) (iP:r.fl=true) (hd:hU P jc next r.l env w0 X) (qT: ∀b,b∈oq r.l-> ∀p,p∈ds.pins->p.1≠b):
  ∃v dt,((∀wa,Fr (ZB pl r.rb a) w wa->(execOp a.eval o).run P wa= .ok (.value v) wa)/\
   ∀b,b∈r.rb-> ∃k n,look pl.boxes b=some n/\a.tmps[b]? =some (ej k 0)/\ ∀wa:World,wa.heap[k]? =w.heap[k]? ->(execOp a.eval o).run P wa= .ok (.value v) wa)/\fE pl ds r.cs dt X w0 (a.put o.dst v) w/\next dt w0 X:=by
 cases hs with
 |mv x d e ho ku hv hp=>
  obtain⟨dt,h1,h2⟩:=h.rX hp e hd qT;refine⟨e.ev env,dt,⟨λwa _=>?_,λ_ hb=>by cases hb⟩,by grind,h2⟩;have he:=h.eval hv;rcases ho with ho|ho<;>simp[execOp,ho,he]
 |ld t x d b off nd ag sz bs ho ku hx ht hb hp cB ha=>
  obtain⟨⟨n,hn⟩,ry,hk⟩:=h.wD hx;obtain⟨hA,k,he,ik⟩:=hk hl hg;obtain⟨cells,hc⟩:=vQ.1 hA;obtain⟨k',ty,e1,e2,e3,_⟩:=h.box b n hn cells hc;have sj:k'=k:=by rw[ik] at e1;simpa [ej] using e1.symm
  subst sj;have hbn:bs=n:=by rw[hb] at hn;injection hn
  subst hbn;have h':=h.l9 (nd:=nd) λb' dT=>⟨ry b' dT,hl b' dT⟩;obtain⟨dt,h1,h2⟩:=h'.rX hp _ hd qT;have TO:(if ag then Ex.s b off sz else Ex.k b off).ev env=if ag then yh (.agg cells) off sz else cellOf (.agg cells) off:=by
   cases ag<;>simp[Ex.ev,hc]
  have nQ: ∀wa:World,wa.heap[k']? =w.heap[k']? ->(execOp a.eval o).run P wa= .ok (.value ((if ag then Ex.s b off sz else Ex.k b off).ev env)) wa:=by
   intro wa Hl;have e2':wa.heap[k']? =some (.cells cells ty (0,0)):=Hl.trans e2;have:=P3 ht ha e2' off zQ;rw[TO];simp[execOp,ho,he,this]
  refine⟨_,dt,⟨λwa Hl=>nQ wa ?_,λb' dT=>?_⟩,by rw[ku];exact h1,h2⟩
  rotate_left
  ·have:=List.mem_singleton.1 dT;subst this;exact⟨k',bs,hn,ik,nQ⟩
  have e2':wa.heap[k']? =some (.cells cells ty (0,0)):=by
   rw[Hl.block k' (Array.getElem?_eq_some_iff.1 e2).1 ?_]
   ·exact e2
   ·rintro⟨b2,n2,g1,g2,g3⟩;exact g2 (List.mem_singleton.2 (h.inj b2 b n2 bs g1 hn (h.conv b2 n2 g1 k' g3) hA k' g3 ik))
  rw[e2',e2]
 |fa S x f d b off nd fo sz ho ku hx hf OK cB lJ hz=>
  obtain⟨⟨n,hn⟩,ry,hk⟩:=h.wD hx;obtain⟨hA,k,he,ik⟩:=hk hl hg;have h':=h.l9 (nd:=nd) λb' dT=>⟨ry b' dT,hl b' dT⟩;refine⟨ej k (off+fo),env,⟨λwa _=>?_,λ_ hb=>by cases hb⟩,?_,hd⟩
  ·have:=NC hf hz k off wa;simp[execOp,ho,he,this]
  ·rw[ku];exact h'.derive cB lJ OK _ ⟨n,hn⟩ λ_=>⟨hA,k,ik,rfl⟩
 |rd d ss ku NG hn hp=>
  obtain⟨v,h1,h2⟩:=hd;refine⟨v,_,⟨λwa Hl=>?_,λ_ hb=>by cases hb⟩,by rw[ku];exact h.bind hp v (qT d (by simp[oq,TI.Km])),h2⟩;rw[h.exec NG hn,<-afd _ (λ_=>rfl)];exact h1 wa (h.kp0 Hl)
 |DB=>cases iP
 |act=>cases iP
 |bx=>cases iP
 |al=>cases iP
 |st=>cases iP
def zD (pl:gC) (ds:Bk) (env:Env) (X:XS) (a:Act) (w:World):Prop:=
 (∀k,X k->k<w.heap.size)/\ ∀p,p∈ds.pins->a.tmps[p.1]? =some p.2/\(pl.j8 p.1=true\/ ∃n k cells ty,p.2=ej k 0/\look pl.boxes p.1=some n/\env p.1= .agg cells/\w.heap[k]? =some (.cells cells ty (0,0))/\cells.size=n/\ ¬X k)
theorem fE.pinned (h:fE pl ds cs env X w0 a w):zD pl ds env X a w:=⟨h.xl,λp hp=>by
 obtain⟨ht,⟨n,k,hn,hk⟩|hg⟩:=h.Ai p hp
 ·refine⟨ht,.inr ?_⟩;rw[hk] at ht;obtain⟨cells,hc⟩:=vQ.1 (h.conv p.1 n hn _ ht);obtain⟨k',ty,e1,e2,e3,e4⟩:=h.box p.1 n hn cells hc;rw[ht] at e1;have:k=k':=by simpa [ej] using e1
  subst this;exact⟨n,k,cells,ty,hk,hn,hc,e2,e3,e4⟩
 grind⟩
theorem zD.put {d:Option Nat} (h:zD pl ds env X (a.put d v) w) (hd: ∀x,d=some x-> ∀p,p∈ds.pins->p.1≠x):zD pl ds env X a w:=⟨h.1,λp hp=>by
 obtain⟨h1,h2⟩:=h.2 p hp;refine⟨?_,h2⟩;cases d with
 |none=>exact h1
 |some x=>rwa [gp _ _ _ _ (hd x rfl p hp)] at h1⟩
theorem P5 (hs:Shape P pl cs og m o r) (iP:r.fl=true): ∀x,o.dst=some x->pl.j8 x=true->x∈oq r.l:=by
 have f: ∀{WO:CS} {d:Nat} {e:Ex},o.dst=some d-> ∀x,o.dst=some x->pl.j8 x=true->x∈oq (rX pl WO d e).1:=λhd x hx hg=>by
  rw[hd] at hx;injection hx with hx;subst hx
  unfold rX;rw[if_pos (by simp[hg])];simp[oq,TI.Km]
 cases hs with
 |mv x d e ho hd hv hp=>exact f hd
 |ld t x d b off nd ag sz bs ho hd hx ht hb hp hl ha=>exact f hd
 |fa S x g d b off nd fo sz ho hd hx hf OK cB lJ hz=>
  intro y hy hg;rw[hd] at hy;injection hy with hy;subst hy
  have:=(tn hg).2.2
  grind
 |rd d ss hd hs hn hp=>intro y hy _;rw[hd] at hy;injection hy with hy;subst hy;simp[oq,TI.Km]
 |DB=>cases iP
 |act=>cases iP
 |bx=>cases iP
 |al=>cases iP
 |st=>cases iP
theorem TP (hs:Shape P pl cs og m o r) (h:fE pl ds cs env X w0 a w) (hg:DC env og)
  (hl: ∀b,b∈r.nd->gy (env b)=true) (iP:r.fl=false) (hd:hU P jc next r.l env w0 X)

  (hK: ∀a' w' dt X' eh,fE pl ds r.cs dt X' eh a' w'->next dt eh X'->zM (m=false) pl r.sb a w a' w'->K a' w')
  (qT: ∀b,b∈oq r.l-> ∀p,p∈ds.pins->p.1≠b)
  (hQ: ∀ch w' dt X' eh,Kp X' eh w'->zD pl ds dt X' a w'->jc ch dt eh X'->Q (.panic ch) a w'):o.wp P a w K Q:=by
 have real: ∀(pE:CS) (ss:List (Nat×Ex)),(∀x,o.dst=some x->look pl.boxes x=none)->subst pl cs o.op.operands.toList=some ss->H9 o.op=true->
   (∀m' w' v,Step m' X w w'->fE pl ds pE (Kl env o.dst v) (grow X w w') w' (a.put o.dst v) w')->r.cs=pE->
   (∀wa,Kp X w0 wa->jP P m X wa (λv w' X'=>next (Kl env o.dst v) w' X') (λch w' X'=>jc ch env w' X') ((PX (FF env ss) o.op o.type).run P wa))->o.wp P a w K Q:=by
  intro pE ss Jk NG hn hS iN he;have he:=he w h.ext;unfold tj;rw[h.exec NG hn,<-afd _ (λ_=>rfl)];have fP: ∀w' v,Step m X w w'->zM (m=false) pl r.sb a w (a.put o.dst v) w':=λw' v hs=>⟨λhm=>by subst hm;exact ru.ag1 hs Jk,h.ag0 hs.fr⟩;cases hr:(PX (FF env ss) o.op o.type).run P w with
  |ok n w'=>
   rw[hr] at he;cases n<;>simp only[jP] at he<;>simp only[nJ]
   case value v=>exact hK _ _ _ _ _ (iN▸hS m w' v he.1) he.2 (fP _ _ he.1)
   case skip=>exact hK _ _ _ _ _ (iN▸hS m w' undef he.1) he.2 (fP _ _ he.1)
   case enter f args=>
    obtain⟨rfl,hc⟩:=he;refine hc.mono λe mi hR=>?_;cases e with
    |returned v=>exact hK _ _ _ _ _ (iN▸hS m mi v hR.1) hR.2 (fP _ _ hR.1)
    |panicked ch=>exact hQ _ _ _ _ _ (Kp.refl _ _) (h.ME hR.1).pinned hR.2
    |outgrown=>exact hR.elim
  |halt x w'=>
   rw[hr] at he;cases x<;>simp only[jP] at he<;>simp only[nJ]
   case panic v=>exact hQ _ _ _ _ _ (Kp.refl _ _) (h.ME he.1).pinned he.2
 have boxed: ∀{d sz:Nat} {e:Ex} {ag:Bool},hU P jc next [if !ag&&sz==1 then .BU d e else .box d sz e] env w0 X->
   (e.ev env).cells.size=sz/\next (jR env d (.agg (e.ev env).cells)) w0 X:=by
  intro d sz e ag hd;simp only[hU] at hd;split at hd
  ·rename_i sM;simp only[aF,cX,beq_iff_eq] at sM;obtain⟨g1,g2⟩:=dJ.1 hd;rw[sL g1];exact⟨by simp[sM.2],g2⟩
  ·obtain⟨g1,g2⟩:=dJ.1 hd;exact⟨by simpa using g1,g2⟩
 have Ic: ∀(t d:Nat) (_:d<pl.n) (cells:Array Value),ru pl [] a w (a.put (some d) (ej w.heap.size 0)) (w.alloc (.cells cells t)):=by
  intro t d cB cells;refine ru.eZ (Ext.alloc _ _) λb n WQ k hk sj=>?_;by_cases e:b=d
  ·subst e;rw[rl _ _ _ _ (by rw[h.size];omega),if_pos rfl] at sj;have:w.heap.size=k:=by simpa [ej] using sj
   omega
  ·rwa [gp _ _ _ _ e] at sj
 cases hs with
 |mv=>cases iP
 |ld=>cases iP
 |fa=>cases iP
 |rd=>cases iP
 |DB d ss ku NG hn hp=>
  refine real (cs.bind pl d) ss (λx hx=>by rw[ku] at hx;injection hx with hx;subst hx;exact(zC hp).2.1) NG hn (λm' w' v fP=>?_) rfl ?_
  ·rw[ku];exact(h.ME fP).bind hp v (qT d (by simp[oq,TI.Km]))
  ·intro wa Hl;have:=hd wa Hl;rw[ku];exact this
 |act ss ku NG hn=>
  refine real cs ss (λx hx=>by rw[ku] at hx;cases hx) NG hn (λm' w' v fP=>?_) rfl ?_
  ·rw[ku];exact h.ME fP
  ·intro wa Hl;have:=hd wa Hl;rw[ku];exact this
 |bx t x d sz e ag ho ku hb hv ht cB=>
  have he:=h.eval hv;obtain⟨h1,h2⟩:=boxed hd;have hr:(execOp a.eval o).run P w= .ok (.value (ej w.heap.size 0)) (w.alloc (.cells (e.ev env).cells t)):=by
   simp[execOp,ho,he,Instr.box,newVar,newRow,ej]
  unfold tj;rw[hr];simp only[nJ];rw[ku];exact hK _ _ _ _ _ (h.afh cB hb (e.ev env).cells h1 t (qT d (by split<;>simp[oq,TI.Km]))) h2 ⟨λ_=>Ic t d cB _,h.ag0 ((Ext.alloc _ _).fr X)⟩
 |al t d sz i z ag ho ku hb hi hz ht cB=>
  obtain⟨h1,h2⟩:=boxed hd;have hr:(execOp a.eval o).run P w= .ok (.value (ej w.heap.size 0)) (w.alloc (.cells z.cells t)):=by
   simp[execOp,ho,Instr.alloc,zeroValue,typeInfo,hi,hz,newVar,newRow,ej]
  unfold tj;rw[hr];simp only[nJ];rw[ku];exact hK _ _ _ _ _ (h.afh cB hb z.cells h1 t (qT d (by split<;>simp[oq,TI.Km]))) h2 ⟨λ_=>Ic t d cB _,h.ag0 ((Ext.alloc _ _).fr X)⟩
 |st t x v b off nd sz bs e ag ho ku hx hv ht hb cB=>
  obtain⟨⟨n,hn⟩,ry,hk⟩:=h.wD hx;obtain⟨hA,k,he,ik⟩:=hk hl hg;obtain⟨cells,hc⟩:=vQ.1 hA;obtain⟨k',ty,e1,e2,e3,e4⟩:=h.box b n hn cells hc;have sj:k'=k:=by rw[ik] at e1;simpa [ej] using e1.symm
  subst sj;have hbn:bs=n:=by rw[hb] at hn;injection hn
  subst hbn;obtain⟨h1,h2,h3⟩:(e.ev env).cells.size=sz/\(e.ev env).cells.toList.all one=true/\next (jR env b (.agg (dr (env b).cells.toList off (e.ev env).cells.toList).toArray)) w0 X:=by
   simp only[hU] at hd;split at hd
   ·rename_i sM;simp only[aF,cX,beq_iff_eq] at sM;obtain⟨g1,g2⟩:=dJ.1 hd;rw[sL g1];exact⟨by simp[sM.2],by simp[g1],g2⟩
   ·split at hd
    ·rename_i sM;simp only[aF,beq_iff_eq] at sM;obtain⟨g1,hd⟩:=dJ.1 hd;obtain⟨g2,g3⟩:=dJ.1 hd;have g1:(e.ev env).cells.size=sz:=by simpa using g1
     refine⟨g1,g2,?_⟩;have aou:dr (env b).cells.toList off (e.ev env).cells.toList=(e.ev env).cells.toList:=by
      unfold dr;rw[hc,sM.1];have hz:cells.size<=(e.ev env).cells.size:=by omega
      show List.take 0 cells.toList++(e.ev env).cells.toList++List.drop (0+(e.ev env).cells.toList.length) cells.toList=(e.ev env).cells.toList
      rw[List.take_zero,cC,List.drop_eq_nil_of_le (by simpa using hz),List.append_nil]
     rw[aou];omega
    ·obtain⟨g1,hd⟩:=dJ.1 hd;obtain⟨g2,g3⟩:=dJ.1 hd;exact⟨by simpa using g1,g2,g3⟩
  have h':=h.l9 (nd:=nd) λb' dT=>⟨ry b' dT,hl b' dT⟩;have fP:=ND (aaF ht) e2 off zQ (e.ev env) h1 h2;have hr:(execOp a.eval o).run P w= .ok .skip (w.setRow k' (dr cells.toList off (e.ev env).cells.toList).toArray):=by
   simp[execOp,ho,he,(h.eval hv),fP]
  unfold tj;rw[hr];simp only[nJ];rw[ku];obtain⟨f1,f2⟩:=afi (za:=(dr cells.toList off (e.ev env).cells.toList).toArray) e2;have gd:((dr cells.toList off (e.ev env).cells.toList).toArray).size=bs:=by
   simp only[List.size_toArray];rw[agZ oQ];simpa using e3
  rw[hc] at h3;refine hK _ _ _ _ _ (h'.store hb hc ik e2 e4 gd f1 f2) h3 ⟨λ_ RB Kn=>
   ⟨f1.mono λj hj=>⟨b,bs,hb,Kn b (List.mem_singleton.2 rfl),by rw[hj];omega⟩,λ_ _ hz=>hz⟩,λb2 n2 k2 g1 g2 g3=>f1.block k2 (h.eT g1 g3).1 λhj=>?_⟩
  have hj:k2=k':=hj;subst hj;exact g2 (List.mem_singleton.2 (h.inj b2 b n2 bs g1 hn (h.conv b2 n2 g1 _ g3) hA _ g3 ik))
variable {r0 : CR} {want : Bool} {d' g : Nat}
theorem P6 (gX:qf g want op r0=some r) (hy:nZ (env g) want=true) (hd:hU P jc next r.l env w0 X):
  hU P jc next r0.l env w0 X:=by
 obtain⟨fl,nd,l,c,rb,sb⟩:=r0;unfold qf at gX;dsimp only at gX;split at gX
 ·grind
 ·split at gX
  ·cases gX
  ·injection gX with e;subst e
   simpa only [hU,WD,hy,if_true] using hd
 ·split at gX
  ·cases gX
  ·injection gX with e;subst e
   obtain⟨v,h1,_,h2⟩:=hd;exact⟨v,h1 hy,h2⟩
 ·split at gX
  ·cases gX
  ·injection gX with e;subst e
   exact hd.1 hy
 ·cases gX
theorem Cl (gX:qf g want op r0=some r):r.cs=r0.cs/\r.nd=r0.nd/\r.fl=r0.fl/\r.rb=r0.rb/\r.sb=r0.sb:=by
 obtain⟨fl,nd,l,c,rb,sb⟩:=r0;unfold qf at gX;dsimp only at gX;split at gX<;>grind<;>grind
theorem Ky (gX:qf g want op r0=some r):oq r.l=oq r0.l:=by
 obtain⟨fl,nd,l,c,rb,sb⟩:=r0;unfold qf at gX;dsimp only at gX;split at gX<;>(try split at gX)<;>first
  |(cases gX;done)
  |(injection gX with e;subst e;rfl)
theorem ag2 (nd:List Nat):oq (nd.map .zJ)=[]:=by
 induction nd with
 |nil=>rfl
 |cons b nd ih=>assumption
theorem AH (l l':List TI):oq (l++l')=oq l++oq l':=List.flatMap_append
theorem Hm (r:CR):oq r.all=oq r.l:=by grind [CR.all,AH,ag2]
theorem WR (hs:Shape P pl cs (some (g,want)) m o r0) (gX:qf g want o.op r0=some r) (h:fE pl ds cs env X w0 a w)
  (hl: ∀b,b∈r0.nd->gy (env b)=true) (qg:nZ (env g) want=false) (hd:hU P jc next r.l env w0 X) (qT: ∀b,b∈oq r.l-> ∀p,p∈ds.pins->p.1≠b):
  ∃dt,fE pl ds r.cs dt X w0 (a.put o.dst undef) w/\next dt w0 X:=by
 have afj: ∀(WO:CS) (d:Nat) (e:Ex) (nd rb:List Nat),fE pl ds WO env X w0 a w->o.dst=some d->pl.np d=true->agV o.op=false->r0=⟨true,nd,(rX pl WO d e).1,(rX pl WO d e).2,rb,[]⟩->
   ∃dt,fE pl ds r.cs dt X w0 (a.put o.dst undef) w/\next dt w0 X:=by
  intro WO d e nd rb h1 ku hp hfa hr;subst hr;unfold qf rX at gX;by_cases pF:(pl.j8 d||pl.mat.contains d)=true
  ·simp only[pF,if_true] at gX;split at gX
   ·cases gX
   ·injection gX with e1;subst e1
    simp only[hU,WD,qg,aW,if_false] at hd;exact⟨_,by rw[ku];exact h1.bind hp undef (qT d (by simp[oq,TI.Km])),hd⟩
  ·simp only[pF,hfa,aW,if_false] at gX;cases gX
 cases hs with
 |mv x d e ho ku hv hp=>exact afj cs d e [] [] h ku hp (by rcases ho with ho|ho<;>rw[ho]<;>rfl) rfl
 |ld t x d b off nd ag sz bs ho ku hx ht hb hp cB ha=>
  obtain⟨_,ry,_⟩:=h.wD hx;exact afj (cs.l9 nd) d _ nd [b] (h.l9 λb' dT=>⟨ry b' dT,hl b' dT⟩) ku hp (by rw[ho];rfl) rfl
 |fa S x f d b off nd fo sz ho ku hx hf OK cB lJ hz=>
  obtain⟨hb,ry,hk⟩:=h.wD hx;have h':=h.l9 (nd:=nd) λb' dT=>⟨ry b' dT,hl b' dT⟩;unfold qf at gX;simp only[ho,agV,if_true,aj] at gX;subst gX;refine⟨env,?_,hd⟩;rw[ku];exact h'.derive cB lJ OK _ hb λhg=>by simp only[DC] at hg;simp_all
 |rd d ss ku NG hn hp=>
  unfold qf at gX;dsimp only at gX;split at gX
  ·cases gX
  ·injection gX with e;subst e
   obtain⟨v,_,h1,h2⟩:=hd;have hv:=h1 qg;subst hv;exact⟨_,by rw[ku];exact h.bind hp undef (qT d (by simp[oq,TI.Km])),h2⟩
 |DB d ss ku NG hn hp=>
  unfold qf at gX;dsimp only at gX;split at gX
  ·cases gX
  ·injection gX with e;subst e
   exact⟨_,by rw[ku];exact h.bind hp undef (qT d (by simp[oq,TI.Km])),hd.2 qg⟩
 |act ss ku NG hn=>
  unfold qf at gX;dsimp only at gX;split at gX
  ·cases gX
  ·injection gX with e;subst e
   exact⟨_,by rw[ku];exact h,hd.2 qg⟩
 |bx t x d sz e ag=>cases WT:(!ag&&sz==1)<;>(unfold qf at gX;simp only[WT] at gX;cases gX)
 |al t d sz i z ag=>cases WT:(!ag&&sz==1)<;>(unfold qf at gX;simp only[WT] at gX;cases gX)
 |st t x v b off nd sz bs e ag=>
  cases WT:(!ag&&sz==1)<;>cases aov:(off==0&&sz==bs)<;>(unfold qf at gX;simp only[WT,aov] at gX;cases gX)
theorem Kz (h:fE pl ds cs env X w0 a w) {gs:Nat} (hg:o.guard=some (j,want)) (ml:(ops[j]?).bind (·.dst)=some gs)
  (hv:valOf pl cs (.tmp gs)=some (.t g)):cG o (yielded ops a.tmps)=nZ (env g) want:=by
 have ht:a.tmps[gs]? =some (env g):=by
  simp only[valOf] at hv;split at hv
  ·rename_i gX;injection hv with hv
   injection hv with hv
   subst hv;exact h.qy _ gX
  ·have:=h.sig _ (BW hv);assumption
 unfold cG yielded;simp only[hg,ml,cM,ht,nZ];cases env g<;>simp
theorem acy (hc:Bx P pl cs ops m o=some r) (iP:r.fl=true) (h:fE pl ds cs env X w0 a w) (hd:hU P jc next r.all env w0 X) (qT: ∀b,b∈oq r.l-> ∀p,p∈ds.pins->p.1≠b):
  ∃v dt,(YF P pl r.rb ops o v a w/\ ∀b,b∈r.rb->YL P pl b ops o v a w)/\fE pl ds r.cs dt X w0 (a.put o.dst v) w/\next dt w0 X:=by
 obtain⟨hl,hd⟩:=Kw _ hd;unfold Bx at hc;split at hc
 ·rename_i hg;obtain⟨v,dt,h1,h2,h3⟩:=TN (tp hc) h trivial hl iP hd qT;exact⟨v,dt,⟨.inl ⟨by simp[cG,hg],h1.1⟩,λb hb=>.inl ⟨by simp[cG,hg],h1.2 b hb⟩⟩,h2,h3⟩
 ·rename_i j want hg;split at hc
  ·cases hc
  ·rename_i gs ml;split at hc
   ·rename_i g hv;have hw:=Kz h hg ml hv;cases wF:DR P pl cs (some (g,want)) m o with
    |none=>rw[wF] at hc;cases hc
    |some r0=>
     rw[wF] at hc;simp only[cM] at hc;obtain⟨e1,e2,e3,e4,e5⟩:=Cl hc;cases hy:nZ (env g) want with
     |true=>
      obtain⟨v,dt,h1,h2,h3⟩:=TN (tp wF) h hy (e2▸hl) (e3▸iP) (P6 hc hy hd) (λb hb=>qT b (by rw[Ky hc];exact hb));exact⟨v,dt,⟨.inl ⟨by rw[hw,hy],e4▸h1.1⟩,λb hb=>.inl ⟨by rw[hw,hy],h1.2 b (e4▸hb)⟩⟩,e1▸h2,h3⟩
     |false=>
      obtain⟨dt,h1,h2⟩:=WR (tp wF) hc h (e2▸hl) hy hd qT;exact⟨undef,dt,⟨.inr ⟨by rw[hw,hy],rfl⟩,λ_ _=>.inr ⟨by rw[hw,hy],rfl⟩⟩,h1,h2⟩
   ·cases hc
theorem WU (hc:Bx P pl cs ops m o=some r) (iP:r.fl=true): ∀x,o.dst=some x->look pl.boxes x=none:=by
 unfold Bx at hc;split at hc
 ·exact TM (tp hc) iP
 ·rename_i j want hg;split at hc
  ·cases hc
  ·rename_i gs ml;split at hc
   ·rename_i g hv;cases wF:DR P pl cs (some (g,want)) m o with
    |none=>grind
    |some r0=>
     rw[wF] at hc;simp only[cM] at hc;exact TM (tp wF) ((Cl hc).2.2.1▸iP)
   ·cases hc
theorem aka (hc:Bx P pl cs ops m o=some r) (iP:r.fl=true): ∀x,o.dst=some x->pl.j8 x=true->x∈oq r.l:=by
 unfold Bx at hc;split at hc
 ·exact P5 (tp hc) iP
 ·rename_i j want hg;split at hc
  ·cases hc
  ·rename_i gs ml;split at hc
   ·rename_i g hv;cases wF:DR P pl cs (some (g,want)) m o with
    |none=>grind
    |some r0=>
     rw[wF] at hc;simp only[cM] at hc;rw[Ky hc];exact P5 (tp wF) ((Cl hc).2.2.1▸iP)
   ·cases hc
theorem fE.apart (h:fE pl ds cs env X w0 a w) (hc:Bx P pl cs ops m o=some r) (iP:r.fl=true) (hm: ∀b,b∈oq r.l-> ∀p,p∈ds.pins->p.1≠b):
  ∀x,o.dst=some x-> ∀p,p∈ds.pins->p.1≠x:=λx hx p hp e=>by
 rcases(h.Ai p hp).2 with⟨n,_,hn,_⟩|hg
 ·rw[e,WU hc iP x hx] at hn;cases hn
 ·exact hm x (aka hc iP x hx (e▸hg)) p hp e
theorem P7 (hc:Bx P pl cs ops m o=some r) (h:fE pl ds cs env X w0 a w) (hd:hU P jc next r.all env w0 X)

  (hK: ∀a' w' dt X' eh,fE pl ds r.cs dt X' eh a' w'->next dt eh X'->zM (m=false) pl r.sb a w a' w'->K a' w')
  (qT: ∀b,b∈oq r.l-> ∀p,p∈ds.pins->p.1≠b)
  (hQ: ∀ch w' dt X' eh,Kp X' eh w'->zD pl ds dt X' a w'->jc ch dt eh X'->Q (.panic ch) a w'):
  if cG o (yielded ops a.tmps)=true then o.wp P a w K Q else K (a.put o.dst undef) w:=by
 cases iP:r.fl with
 |true=>
  obtain⟨v,dt,hy,h1,h2⟩:=acy hc iP h hd qT;rcases hy.1 with⟨hw,hv⟩|⟨hw,hv⟩
  ·rw[if_pos hw];unfold tj;rw[hv w (Fr.refl _ w)];exact hK _ _ _ _ _ h1 h2 ⟨λ_=>ru.refl pl _ a w _ _ (WU hc iP),zL.refl _ _ _ _⟩
  ·rw[if_neg gQ];subst hv;exact hK _ _ _ _ _ h1 h2 ⟨λ_=>ru.refl pl _ a w _ _ (WU hc iP),zL.refl _ _ _ _⟩
 |false=>
  obtain⟨hl,hd⟩:=Kw _ hd;unfold Bx at hc;split at hc
  ·rename_i hg;rw[if_pos (by simp[cG,hg])];exact TP (tp hc) h trivial hl iP hd hK qT hQ
  ·rename_i j want hg;split at hc
   ·cases hc
   ·rename_i gs ml;split at hc
    ·rename_i g hv;have hw:=Kz h hg ml hv;cases wF:DR P pl cs (some (g,want)) m o with
     |none=>rw[wF] at hc;cases hc
     |some r0=>
      rw[wF] at hc;simp only[cM] at hc;obtain⟨e1,e2,e3,e4,e5⟩:=Cl hc;cases hy:nZ (env g) want with
      |true=>
       rw[if_pos (by rw[hw,hy])];exact TP (tp wF) h hy (e2▸hl) (e3▸iP) (P6 hc hy hd) (e5▸e1▸hK) (λb hb=>qT b (by rw[Ky hc];exact hb)) hQ
      |false=>
       rw[if_neg gQ];obtain⟨dt,h1,h2⟩:=WR (tp wF) hc h (e2▸hl) hy hd qT;refine hK _ _ _ _ _ h1 h2 ⟨λ_=>?_,zL.refl _ _ _ _⟩;refine ru.eZ (Ext.refl w) λb n hb k hk sj=>?_;cases ku:o.dst with
       |none=>rw[ku] at sj;exact sj
       |some x=>
        rw[ku] at sj;by_cases gr:b=x
        ·subst gr;by_cases cB:b<a.tmps.size
         ·rw[rl _ _ _ _ cB,if_pos rfl] at sj;cases sj
         ·rw[pS (by simp[nj];omega)] at sj;cases sj
        ·rwa [gp _ _ _ _ gr] at sj
    ·cases hc
theorem P8 (hN: ∀pE a' w' dt X' eh,fE pl ds pE dt X' eh a' w'->next dt eh X'->Q .normal a' w')
  (hQ: ∀ch a' w' dt X' eh,a'.defers=ds.ds->Kp X' eh w'->zD pl ds dt X' a' w'->jc ch dt eh X'->Q (.panic ch) a' w'): ∀(l:List Oper) (cs:CS) (tl:List TI) (env:Env) (X:XS) (w0:World) (a:Act) (w:World),
  Ia P pl ops l cs=some tl->(∀b,b∈oq tl-> ∀p,p∈ds.pins->p.1≠b)->fE pl ds cs env X w0 a w->hU P jc next tl env w0 X->wpList P ops Q l a w
 |[],cs,tl,env,X,w0,a,w,hc,_,h,hd=>by
  simp only[Ia,aj] at hc;subst hc;exact hN _ _ _ _ _ _ h hd
 |o::l,cs,tl,env,X,w0,a,w,hc,hm,h,hd=>by
  simp only[Ia] at hc;cases hr:Bx P pl cs ops true o with
  |none=>grind
  |some r=>
   cases hs:Ia P pl ops l r.cs with
   |none=>grind
   |some Cz=>
    simp only[hr,hs,aY,aj] at hc;subst hc;rw[Ck] at hd;rw[AH,Hm] at hm;refine wpList_step λK hK=>P7 hr h hd (λa' w' dt X' eh h1 h2 _=>hK _ _ (P8 hN hQ l r.cs Cz dt X' eh a' w' hs (λb hb=>hm b (dE _ hb)) h1 h2)) (λb hb=>hm b (bM _ hb)) ?_;exact λch w' dt X' eh hx AI hp=>hQ ch a w' dt X' eh h.defers hx AI hp
theorem AJ: ∀{l:List Nat} {i:Nat} {r:CR},BV P pl ops cs bH l=some (i,r)->
  i∈l/\r.fl=true/\MD pl ops bH i r.rb=true/\ ∃o,ops[i]? =some o/\Bx P pl cs ops (qz pl ops i) o=some r
 |[],_,_,h=>by cases h
 |j::l,i,r,h=>by
  simp only[BV] at h;split at h
  ·rename_i x hx;split at h
   ·rename_i hc;simp only[aj,cP] at h;obtain⟨rfl,rfl⟩:=h
    grind
   ·obtain⟨h1,h2⟩:=AJ h;simp_all
  ·obtain⟨h1,h2⟩:=AJ h;simp_all
theorem NH {b:Nat×Nat×Bool×Value} (h:Ib P pl o=some b) (m:Bool):Bx P pl cs ops m o=some ⟨false,[],[AF b],yi cs b.1,[],[]⟩:=by
 unfold Ib at h;split at h
 ·rename_i t d hg wG hd;split at h
  ·rename_i sz z ag s h1 h2 h3;split at h
   ·rename_i hc;simp only[aj] at h;subst h;simp only[Bx,hg,DR,wG,hd,h1,h2,WG,h3,hc,if_true,AF,yi]
   ·cases h
  ·cases h
 ·cases h
theorem ag3 (env:Env) (h:d≠d') (v v':Value):jR (jR env d v) d' v'=jR (jR env d' v') d v:=by
 funext s
 by_cases h1:s=d
 ·grind [iM,mu]
 ·by_cases h2:s=d'
  ·subst h2;rw[mu,iM _ _ (Ne.symm h),mu]
  grind [iM]
theorem afk {b b':Nat×Nat×Bool×Value} (ct:b.1≠b'.1) {l:List TI} (h:hU P jc next (AF b::AF b'::l) env w0 X):hU P jc next (AF b'::AF b::l) env w0 X:=by
 obtain⟨d,n,o,z⟩:=b;obtain⟨d',n',o',z'⟩:=b';have ct:d≠d':=ct;cases o<;>cases o'<;>simp only[AF,hU,WD,Ex.ev,dJ,if_true,if_false,aW] at h⊢ <;>obtain⟨h1,h2,h3⟩:=h<;>grind [ag3]
theorem acz {dt:Env} (h:fE pl ds (yi (yi cs d') d) dt X' eh a' w'):fE pl ds (yi (yi cs d) d') dt X' eh a' w':=by
 refine⟨h.size,h.defers,h.Ai,h.ext,h.xl,h.qy,λp hp=>h.sig p ?_,h.box,h.inj,h.conv,λb hb=>h.live b ?_,λp hp=>h.ptr p ?_⟩
 ·simp only[yi,CS.kill,CS.l9,iw] at hp⊢
  grind
 ·simp only[yi,CS.kill,CS.l9,rV,List.mem_singleton] at hb⊢
  grind
 ·simp only[yi,CS.kill,CS.l9,iw] at hp⊢
  grind
theorem abI {l:List Nat} (h:acw l i=true):l=[i]:=by
 unfold acw at h
 grind
theorem WV (ho:ops[i]? =some o) (hx:Bx P pl cs ops (qz pl ops i) o=some r) (TQ:r.sb=[]) (h:fE pl ds cs env X w0 a w) (hd:hU P jc next r.all env w0 X) {fuel:Nat}
  (qT: ∀b,b∈oq r.l-> ∀p,p∈ds.pins->p.1≠b)
  (hQ: ∀ch a' w' dt X' eh,a'.defers=ds.ds->Kp X' eh w'->zD pl ds dt X' a' w'->jc ch dt eh X'->Q (.panic ch) a' w')
  (hK: ∀a' w' dt X' eh,fE pl ds r.cs dt X' eh a' w'->next dt eh X'->vF P pl ops Q fuel (bH.setIfInBounds i true) a' w'):
  wpOp P ops Q i (λa' w'=>(∀o,ops[i]? =some o->zM (qz pl ops i=false) pl (vX pl ops o) a w a' w')/\vF P pl ops Q fuel (bH.setIfInBounds i true) a' w') a w:=by
 have En:=P7 (ops:=ops) (K:=λa' w'=>(∀o',ops[i]? =some o'->zM (qz pl ops i=false) pl (vX pl ops o') a w a' w')/\vF P pl ops Q fuel (bH.setIfInBounds i true) a' w') (Q:=Q) hx h hd
  (λa' w' dt X' eh h1 h2 h3=>⟨λo' vG=>⟨λyA=>(h3.1 yA).sub λb hb=>(by rw[TQ] at hb;cases hb),h3.2.sub λb hb=>(by rw[TQ] at hb;cases hb)⟩,hK a' w' dt X' eh h1 h2⟩)
  qT (λch w' dt X' eh hk AI hp=>hQ ch a w' dt X' eh h.defers hk AI hp)
 unfold wpOp;simp only[ho] at En⊢;split
 ·grind
 grind
theorem Hn (hN: ∀pE a' w' dt X' eh,fE pl ds pE dt X' eh a' w'->next dt eh X'->Q .normal a' w')
  (hQ: ∀ch a' w' dt X' eh,a'.defers=ds.ds->Kp X' eh w'->zD pl ds dt X' a' w'->jc ch dt eh X'->Q (.panic ch) a' w')
  (Jl: ∀c a (d:Option Nat) v w,(∀x,d=some x-> ∀p,p∈ds.pins->p.1≠x)->Q (.panic c) (a.put d v) w->Q (.panic c) a w) (De:vV ops=true):
  ∀(fuel:Nat) (bH:Array Bool) (cs:CS) (tl:List TI) (env:Env) (X:XS) (w0:World) (a:Act) (w:World),
  yj P pl ops fuel bH cs=some tl->(∀b,b∈oq tl-> ∀p,p∈ds.pins->p.1≠b)->fE pl ds cs env X w0 a w->hU P jc next tl env w0 X->vF P pl ops Q fuel bH a w
 |0,bH,cs,tl,env,X,w0,a,w,hc,_,h,hd=>by
  simp only[yj] at hc;split at hc
  ·rename_i hr;simp only[aj] at hc;subst hc;exact⟨by simpa using hr,hN _ _ _ _ _ _ h hd⟩
  ·cases hc
 |fuel+1,bH,cs,tl,env,X,w0,a,w,hc,hm,h,hd=>by
  simp only[yj] at hc;split at hc
  ·rename_i i r hf;obtain⟨h1,h2,h3,o,ho,h4⟩:=AJ hf;cases hs:yj P pl ops fuel (bH.setIfInBounds i true) r.cs with
   |none=>simp[hs] at hc
   |some Cz=>
    simp only[hs,aY,aj] at hc;subst hc;rw[Ck] at hd;rw[AH,Hm] at hm;obtain⟨v,dt,hy,hS,hn⟩:=acy h4 h2 h hd (λb hb=>hm b (bM _ hb));have Eo: ∀j oj,ops[j]? =some oj->j≠i->bH.getD j true=false-> ¬(j∈GB ops bH i\/j=i\/(bH.getD j true=false/\ ∃oj,ops[j]? =some oj/\waits oj i=true))->_:=
     λj oj hj ct Hk qg=>P0 ho h3 j oj hj ct Hk (λhb=>qg (.inl hb)) (by
      cases hw:waits oj i with
      |false=>rfl
      |true=>exact absurd (.inr (.inr ⟨Hk,oj,hj,hw⟩)) qg)
    obtain⟨Y,PZ,hY,fP⟩: ∃Y:Act->World->Prop,(∀a w,Y a w->Yx P ops o v a w)/\Y a w/\ ∀j oj,oj.dst=oj.dst->o.apart ops oj=true->(qz pl ops j=false\/Cj o=true\/TF o r.rb=true)->(∀b,b∈vX pl ops oj-> ¬b∈r.rb)->
      WI pl ops o oj (qz pl ops j=false) (vX pl ops oj) Y:=by
     cases yA:TF o r.rb with
     |false=>exact⟨YF P pl r.rb ops o v,λ_ _ h=>h.yx,hy.1,λj oj _ _ h4 h5=>YF.stb (h4.imp id λh=>h.elim id λh=>by cases h) h5⟩
     |true=>
      unfold TF at yA;split at yA
      ·rename_i t x wG;have hxr:x∈r.rb:=by simpa using yA
       refine⟨YL P pl x ops o v,λ_ _ h=>h.yx,hy.2 x hxr,λj oj _ Ko _ h5=>YL.stb (λd hd hdx=>?_) λhm=>h5 x hm hxr⟩;subst hdx;refine(vW Ko).2.2 d hd (bM _ (List.mem_filterMap.2 ⟨.tmp d,?_,rfl⟩));simp[wG,Op.operands]
      ·cases yA
    refine Kq PZ ho (xi De) (TJ ho h3) (λc a' w' hq=>Jl c a' o.dst v w' (h.apart h4 h2 λb hb=>hm b (bM _ hb)) hq) fuel bH a w
     (λj=>j∈GB ops bH i\/j=i\/(bH.getD j true=false/\ ∃oj,ops[j]? =some oj/\waits oj i=true)) (.inr (.inl rfl)) (λj hj=>?_)
     (λj oj hj ct Hk qg=>have h:=Eo j oj hj ct Hk qg;⟨h.1,fP j oj rfl h.1 h.2.1 h.2.2⟩) h1 hY ?_
    ·rcases hj with hj|rfl|⟨hu,oj,Em,hw⟩
     ·rcases TH j hj with h|⟨h,oj,k,q1,q2,q3⟩
      ·exact .inl h
      ·exact .inr ⟨h,oj,k,q1,q2,.inl q3⟩
     ·exact .inl rfl
     ·exact .inr ⟨hu,oj,i,Em,hw,.inr (.inl rfl)⟩
    exact Hn hN hQ Jl De fuel _ r.cs Cz dt X w0 _ w hs (λb hb=>hm b (dE _ hb)) hS hn
  ·split at hc
   ·rename_i i hr;split at hc
    ·rename_i o ho;split at hc
     ·rename_i r hx;split at hc
      ·rename_i TQ;cases hs:yj P pl ops fuel (bH.setIfInBounds i true) r.cs with
       |none=>simp[hs] at hc
       |some Cz=>
        simp only[hs,aY,aj] at hc;subst hc;rw[Ck] at hd;rw[AH,Hm] at hm;refine⟨λh0=>(by rw[hr] at h0;cases h0),λi' Ep=>?_⟩;rw[hr] at Ep;have hii:=List.mem_singleton.1 Ep;subst hii;have rA: ∀b,b∈r.sb->b∈vX pl ops o:=λb hb=>by have:=List.all_eq_true.1 TQ b hb;simpa using this
        have En:=P7 (ops:=ops) (K:=λa' w'=>(∀o',ops[i']? =some o'->zM (qz pl ops i'=false) pl (vX pl ops o') a w a' w')/\vF P pl ops Q fuel (bH.setIfInBounds i' true) a' w') (Q:=Q) hx h hd
         (λa' w' dt X' eh h1 h2 h3=>⟨λo' vG=>by rw[ho] at vG;injection vG with vG;subst vG;exact⟨λyA=>(h3.1 yA).sub rA,h3.2.sub rA⟩,Hn hN hQ Jl De fuel _ r.cs Cz dt X' eh a' w' hs (λb hb=>hm b (dE _ hb)) h1 h2⟩)
         (λb hb=>hm b (bM _ hb)) (λch w' dt X' eh hk AI hp=>hQ ch a w' dt X' eh h.defers hk AI hp)
        unfold wpOp;simp only[ho] at En⊢;split
        ·rename_i hw;rw[if_pos hw] at En;exact .inl En
        ·rename_i hw;rw[if_neg hw] at En;omega
      ·cases hc
     ·cases hc
    ·cases hc
   ·rename_i i j hr;split at hc
    ·rename_i bi hp;cases hs:yj P pl ops fuel (bH.setIfInBounds i true) (yi cs bi.1)with
     |none=>simp[hs] at hc
     |some Cz=>
      simp only[hs,aY,aj] at hc;subst hc;have hmc: ∀(i:TI) (l:List TI),oq (i::l)=oq [i]++oq l:=λi l=>AH [i] l;rw[hmc] at hm;unfold aju at hp;split at hp
      ·rename_i bi' bj P9 hbj;split at hp
       ·rename_i hpc;simp only[aj] at hp;subst hp;simp only[aF,cX,beq_eq_false_iff_ne] at hpc;obtain⟨⟨ct,hri⟩,hrj⟩:=hpc;replace hri:=abI hri;replace hrj:=abI hrj;obtain⟨oi,hoi,hai⟩:=Option.bind_eq_some_iff.1 P9;obtain⟨oj,Em,haj⟩:=Option.bind_eq_some_iff.1 hbj;have hci:=λ(cs:CS) (m:Bool)=>NH (cs:=cs) (ops:=ops) hai m;have hcj:=λ(cs:CS) (m:Bool)=>NH (cs:=cs) (ops:=ops) haj m;refine⟨λh0=>(by rw[hr] at h0;cases h0),λi' Ep=>?_⟩;rw[hr] at Ep;rcases List.mem_cons.1 Ep with rfl|Ep
        ·exact WV hoi (hci cs _) rfl h (hd:hU P jc (hU P jc next Cz) [AF bi'] env w0 X) (λb hb=>hm b (bM _ hb)) hQ λa' w' dt X' eh h1 h2=>Hn hN hQ Jl De fuel _ _ Cz dt X' eh a' w' hs (λb hb=>hm b (dE _ hb)) h1 h2
        ·have Kr:=List.mem_singleton.1 Ep;subst Kr;cases fuel with
         |zero=>
          simp only[yj,hri] at hs;cases hs
         |succ f=>
          simp only[yj,hri,BV,Em,cM,hcj,Bool.false_and,aW,if_false,List.all_nil,if_true] at hs;cases bB:yj P pl ops f ((bH.setIfInBounds i true).setIfInBounds i' true) (yi (yi cs bi'.1) bj.1)with
          |none=>simp[bB] at hs
          |some WW=>
           simp only[bB,aY,aj] at hs;have htl:AF bj::WW=Cz:=hs;subst htl;rw[hmc (AF bj) WW] at hm;refine WV Em (hcj cs _) rfl h ((afk ct hd):hU P jc (hU P jc next (AF bi'::WW)) [AF bj] env w0 X) (λb hb=>hm b (dE _ (bM _ hb))) hQ λa' w' dt X' eh h1 h2=>?_;refine⟨λh0=>(by rw[hrj] at h0;cases h0),λk hk=>?_⟩;rw[hrj] at hk;have hki:=List.mem_singleton.1 hk;subst hki;refine WV hoi (hci _ _) rfl h1 (h2:hU P jc (hU P jc next WW) [AF bi'] dt eh X') (λb hb=>hm b (bM _ hb)) hQ λa'' mi aow wC Er h3 h4=>?_;have hkj:k≠i':=λe=>by
            subst e;rw[hoi] at Em;cases Em;rw[hai] at haj;cases haj;omega
           rw[tN _ _ hkj.symm];exact Hn hN hQ Jl De f _ _ WW aow wC Er a'' mi bB (λb hb=>hm b (dE _ (dE _ hb))) (acz h3) h4
       ·cases hp
      ·cases hp
    ·cases hc
   ·cases hc
theorem TR {f:Nat->Option T} : ∀{l:List Nat} {t:T},Sd l f=some t-> ∀i∈l,∃t',f i=some t'/\(∀K env w X,den P t K env w X->den P t' K env w X)/\ ∀b,b∈t'.mk->b∈t.mk
 |[],t,h,i,hi=>by cases hi
 |[j],t,h,i,hi=>by grind [Sd]
 |j::k::r,t,h,i,hi=>by
  simp only[Sd] at h;split at h
  ·rename_i a b ha hb;simp only[aj] at h;subst h;rcases List.mem_cons.1 hi with rfl|hi
   ·exact⟨a,ha,λ_ _ _ _ h=>h.1,λb hb=>bM _ hb⟩
   ·obtain⟨t',h1,h2,h3⟩:=TR (l:=k::r) hb i hi;exact⟨t',h1,λ_ _ _ _ h=>h2 _ _ _ _ h.2,λb hb=>dE _ (h3 b hb)⟩
  ·cases h
theorem OL {K:lD} (hN: ∀pE a' w' dt X' eh,fE pl ds pE dt X' eh a' w'->K .normal dt eh X'->Q .normal a' w')
  (hQ: ∀ch a' w' dt X' eh,a'.defers=ds.ds->Kp X' eh w'->zD pl ds dt X' a' w'->K (.panic ch) dt eh X'->Q (.panic ch) a' w')
  (Jl: ∀c a (d:Option Nat) v w,(∀x,d=some x-> ∀p,p∈ds.pins->p.1≠x)->Q (.panic c) (a.put d v) w->Q (.panic c) a w) (De:vV ops=true):
  ∀(fuel:Nat) (bH:Array Bool) (cs:CS) (t:T) (env:Env) (X:XS) (w0:World) (a:Act) (w:World),
  Cx P pl ops fuel bH cs=some t->(∀b,b∈t.mk-> ∀p,p∈ds.pins->p.1≠b)->fE pl ds cs env X w0 a w->den P t K env w0 X->vF P pl ops Q fuel bH a w
 |0,bH,cs,t,env,X,w0,a,w,hc,_,h,hd=>by
  simp only[Cx] at hc;split at hc
  ·rename_i hr;simp only[aj] at hc;subst hc;exact⟨by simpa using hr,hN _ _ _ _ _ _ h hd⟩
  ·cases hc
 |fuel+1,bH,cs,t,env,X,w0,a,w,hc,hm,h,hd=>by
  simp only[Cx] at hc;split at hc
  ·rename_i i r hf;obtain⟨h1,h2,h3,o,ho,h4⟩:=AJ hf;cases hs:Cx P pl ops fuel (bH.setIfInBounds i true) r.cs with
   |none=>simp[hs] at hc
   |some Cz=>
    simp only[hs,aY,aj] at hc;subst hc;have hd:hU P (λch=>K (.panic ch)) (λe w X=>den P Cz K e w X) r.all env w0 X:=hd;have hm: ∀b,b∈oq r.l++Cz.mk-> ∀p,p∈ds.pins->p.1≠b:=by
     simp only[T.mk,Hm] at hm;exact hm
    obtain⟨v,dt,hy,hS,hn⟩:=acy h4 h2 h hd (λb hb=>hm b (bM _ hb));have Eo: ∀j oj,ops[j]? =some oj->j≠i->bH.getD j true=false-> ¬(j∈GB ops bH i\/j=i\/(bH.getD j true=false/\ ∃oj,ops[j]? =some oj/\waits oj i=true))->_:=
     λj oj hj ct Hk qg=>P0 ho h3 j oj hj ct Hk (λhb=>qg (.inl hb)) (by
      cases hw:waits oj i with
      |false=>rfl
      |true=>exact absurd (.inr (.inr ⟨Hk,oj,hj,hw⟩)) qg)
    obtain⟨Y,PZ,hY,fP⟩: ∃Y:Act->World->Prop,(∀a w,Y a w->Yx P ops o v a w)/\Y a w/\ ∀j oj,oj.dst=oj.dst->o.apart ops oj=true->(qz pl ops j=false\/Cj o=true\/TF o r.rb=true)->(∀b,b∈vX pl ops oj-> ¬b∈r.rb)->
      WI pl ops o oj (qz pl ops j=false) (vX pl ops oj) Y:=by
     cases yA:TF o r.rb with
     |false=>exact⟨YF P pl r.rb ops o v,λ_ _ h=>h.yx,hy.1,λj oj _ _ h4 h5=>YF.stb (h4.imp id λh=>h.elim id λh=>by cases h) h5⟩
     |true=>
      unfold TF at yA;split at yA
      ·rename_i t x wG;have hxr:x∈r.rb:=by simpa using yA
       refine⟨YL P pl x ops o v,λ_ _ h=>h.yx,hy.2 x hxr,λj oj _ Ko _ h5=>YL.stb (λd hd hdx=>?_) λhm=>h5 x hm hxr⟩;subst hdx;refine(vW Ko).2.2 d hd (bM _ (List.mem_filterMap.2 ⟨.tmp d,?_,rfl⟩));simp[wG,Op.operands]
      ·cases yA
    refine Kq PZ ho (xi De) (TJ ho h3) (λc a' w' hq=>Jl c a' o.dst v w' (h.apart h4 h2 λb hb=>hm b (bM _ hb)) hq) fuel bH a w
     (λj=>j∈GB ops bH i\/j=i\/(bH.getD j true=false/\ ∃oj,ops[j]? =some oj/\waits oj i=true)) (.inr (.inl rfl)) (λj hj=>?_)
     (λj oj hj ct Hk qg=>have h:=Eo j oj hj ct Hk qg;⟨h.1,fP j oj rfl h.1 h.2.1 h.2.2⟩) h1 hY ?_
    ·rcases hj with hj|rfl|⟨hu,oj,Em,hw⟩
     ·rcases TH j hj with h|⟨h,oj,k,q1,q2,q3⟩
      ·exact .inl h
      ·exact .inr ⟨h,oj,k,q1,q2,.inl q3⟩
     ·exact .inl rfl
     ·exact .inr ⟨hu,oj,i,Em,hw,.inr (.inl rfl)⟩
    exact OL hN hQ Jl De fuel _ r.cs Cz dt X w0 _ w hs (λb hb=>hm b (dE _ hb)) hS hn
  ·refine⟨λh0=>?_,λi' Ep=>?_⟩
   ·rw[h0] at hc;simp[Sd] at hc
   obtain⟨t',h1,h2,h3⟩:=TR (P:=P) hc i' Ep;split at h1
   ·rename_i o ho;split at h1
    ·rename_i r hx;split at h1
     ·rename_i TQ;cases hs:Cx P pl ops fuel (bH.setIfInBounds i' true) r.cs with
      |none=>simp[hs] at h1
      |some Cz=>
       simp only[hs,aY,aj] at h1;subst h1;have hd:hU P (λch=>K (.panic ch)) (λe w X=>den P Cz K e w X) r.all env w0 X:=h2 _ _ _ _ hd;have hm: ∀b,b∈oq r.l++Cz.mk-> ∀p,p∈ds.pins->p.1≠b:=λb hb=>hm b (h3 b (by
        simp only[T.mk,Hm];exact hb))
       have rA: ∀b,b∈r.sb->b∈vX pl ops o:=λb hb=>by have:=List.all_eq_true.1 TQ b hb;simpa using this
       have En:=P7 (ops:=ops) (K:=λa' w'=>(∀o',ops[i']? =some o'->zM (qz pl ops i'=false) pl (vX pl ops o') a w a' w')/\vF P pl ops Q fuel (bH.setIfInBounds i' true) a' w') (Q:=Q) hx h hd
        (λa' w' dt X' eh h1 h2 h3=>⟨λo' vG=>by rw[ho] at vG;injection vG with vG;subst vG;exact⟨λyA=>(h3.1 yA).sub rA,h3.2.sub rA⟩,OL hN hQ Jl De fuel _ r.cs Cz dt X' eh a' w' hs (λb hb=>hm b (dE _ hb)) h1 h2⟩)
        (λb hb=>hm b (bM _ hb)) (λch w' dt X' eh hk AI hp=>hQ ch a w' dt X' eh h.defers hk AI hp)
       unfold wpOp;simp only[ho] at En⊢;split
       ·rename_i hw;rw[if_pos hw] at En;exact .inl En
       ·rename_i hw;rw[if_neg hw] at En;omega
     ·cases h1
    ·cases h1
   ·cases h1
variable {M : List Nat}
theorem Es: ∀k,X k->grow X w w' k:=λ_ h=>.inl h
theorem TS {n n':Value->World->XS->Prop} {p p':List PanicEntry->World->XS->Prop} {r:Result Next} (h:jP P m X w n p r)
  (hn: ∀v w' X',(∀k,X k->X' k)->n v w' X'->n' v w' X') (hp: ∀c w' X',(∀k,X k->X' k)->p c w' X'->p' c w' X'):jP P m X w n' p' r:=by
 cases r with
 |ok x w'=>
  cases x<;>simp only[jP] at h⊢
  case value v=>grind [Es]
  case skip=>grind [Es]
  case enter f args=>
   refine⟨h.1,h.2.mono λe mi he=>?_⟩;cases e with
   |returned v=>grind [Es]
   |panicked c=>grind [Es]
   |outgrown=>exact he
 |halt x w'=>
  cases x<;>simp only[jP] at h⊢
  grind [Es]
def akb (h: ¬s=d):jR env d v s=env s:=iM _ _ h
theorem ag4 {d:Option Nat} (h: ¬s∈d.toList):Kl env d v s=env s:=by
 cases d with
 |none=>rfl
 |some d=>exact iM _ _ gQ
theorem Ie: ∀(l:List TI) {jc OM:List PanicEntry->Env->World->XS->Prop} {next next':Env->World->XS->Prop} {env:Env} {w:World} {X:XS},
  hU P jc next l env w X->
  (∀e w' X',(∀k,X k->X' k)->(∀s,¬s∈l.flatMap TI.wr->e s=env s)->next e w' X'->next' e w' X')->
  (∀c e w' X',(∀k,X k->X' k)->(∀s,¬s∈l.flatMap TI.wr->e s=env s)->jc c e w' X'->OM c e w' X')->hU P OM next' l env w X
 |[],_,_,_,_,_,_,_,h,hn,_=>hn _ _ _ (λ_ h=>h) (λ_ _=>rfl) h
 |i::l,jc,OM,next,next',env,w,X,h,hn,hp=>by
  have step: ∀(xm:Env) (w1:World) (X1:XS),(∀k,X k->X1 k)->(∀s,¬s∈i.wr->xm s=env s)->hU P jc next l xm w1 X1->hU P OM next' l xm w1 X1:=by
   intro xm w1 X1 KA he1 h1;refine Ie l h1 (λe w' X' hX he hq=>hn e w' X' (λk hk=>hX k (KA k hk)) (λs hs=>?_) hq) (λc e w' X' hX he hq=>hp c e w' X' (λk hk=>hX k (KA k hk)) (λs hs=>?_) hq)
   ·simp only[jA,rV,not_or] at hs
    grind
   ·simp only[jA,rV,not_or] at hs
    grind
  have pst: ∀c w1 X1,(∀k,X k->X1 k)->jc c env w1 X1->OM c env w1 X1:=λc w1 X1 KA hq=>hp c env w1 X1 KA (λ_ _=>rfl) hq;have st1: ∀(d:Nat) (v:Value) (w1:World) (X1:XS),i.wr=[d]->(∀k,X k->X1 k)->hU P jc next l (jR env d v) w1 X1->hU P OM next' l (jR env d v) w1 X1:=
   λd v w1 X1 hw KA h1=>step _ _ _ KA (λs hs=>akb (by rw[hw] at hs;simpa using hs)) h1
  have stO: ∀(d:Option Nat) (v:Value) (w1:World) (X1:XS),i.wr=d.toList->(∀k,X k->X1 k)->hU P jc next l (Kl env d v) w1 X1->hU P OM next' l (Kl env d v) w1 X1:=
   λd v w1 X1 hw KA h1=>step _ _ _ KA (λs hs=>ag4 (by rw[hw] at hs;exact hs)) h1
  cases i with
  |zJ b=>exact dJ.2 ⟨(dJ.1 h).1,step _ _ _ (λ_ h=>h) (λ_ _=>rfl) (dJ.1 h).2⟩
  |set d e=>exact st1 d _ _ _ rfl (λ_ h=>h) h
  |box b n e=>exact dJ.2 ⟨(dJ.1 h).1,st1 b _ _ _ rfl (λ_ h=>h) (dJ.1 h).2⟩
  |put b off n e=>
   have h2:=dJ.1 (dJ.1 h).2;exact dJ.2 ⟨(dJ.1 h).1,dJ.2 ⟨h2.1,st1 b _ _ _ rfl (λ_ h=>h) h2.2⟩⟩
  |BU b e=>exact dJ.2 ⟨(dJ.1 h).1,st1 b _ _ _ rfl (λ_ h=>h) (dJ.1 h).2⟩
  |Wz b off e=>exact dJ.2 ⟨(dJ.1 h).1,st1 b _ _ _ rfl (λ_ h=>h) (dJ.1 h).2⟩
  |fill b n e=>
   have h2:=dJ.1 (dJ.1 h).2;exact dJ.2 ⟨(dJ.1 h).1,dJ.2 ⟨h2.1,st1 b _ _ _ rfl (λ_ h=>h) h2.2⟩⟩
  |rd d op ty ss=>
   obtain⟨v,h1,h2⟩:=h;exact⟨v,h1,st1 d _ _ _ rfl (λ_ h=>h) h2⟩
  |DB d op ty ss m=>exact λwa Hl=>TS (h wa Hl) (λv w' X' hX hq=>stO d v w' X' rfl hX hq) (λc w' X' hX hq=>pst c w' X' hX hq)
  |WB g want d e=>exact st1 d _ _ _ rfl (λ_ h=>h) h
  |grd g want d op ty ss=>
   obtain⟨v,h1,h2,h3⟩:=h;exact⟨v,h1,h2,st1 d _ _ _ rfl (λ_ h=>h) h3⟩
  |WC g want d op ty ss m=>
   exact⟨λhg wa Hl=>TS (h.1 hg wa Hl) (λv w' X' hX hq=>stO d v w' X' rfl hX hq) (λc w' X' hX hq=>pst c w' X' hX hq),λhg=>stO d _ _ _ rfl (λ_ h=>h) (h.2 hg)⟩
theorem WX {e:Env} (h:s∈M):merge M e env s=e s:=by simp[merge,Ah.2 h]
theorem FJ {e:Env} (h: ¬s∈M):merge M e env s=env s:=by
 have:yz M s=false:=by
  cases hx:yz M s with
  |false=>rfl
  |true=>exact absurd (Ah.1 hx) h
 simp[merge,this]
theorem mH: ∀(t:T) {K K':lD} {env:Env} {w:World} {X:XS},den P t K env w X->
  (∀ex e w' X',(∀k,X k->X' k)->(∀s,¬s∈t.wr->e s=env s)->K ex e w' X'->K' ex e w' X')->den P t K' env w X
 | .Bw l,K,K',env,w,X,h,hk=>Ie l h (λe w' X' hX he hq=>hk _ e w' X' hX he hq) (λc e w' X' hX he hq=>hk _ e w' X' hX he hq)
 | .seq a b,K,K',env,w,X,h,hk=>by
  refine mH a (K:=lD.FG (λe w X=>den P b K e w X) K) h λex e w' X' hX he hq=>?_;have Aj: ∀s,¬s∈(T.seq a b).wr->e s=env s:=λs hs=>he s (λhc=>hs (bM _ hc));cases ex with
  |normal=>
   refine mH b (K:=K) hq λex2 e2 w2 X2 hX2 he2 zc=>hk ex2 e2 w2 X2 (λk hk=>hX2 k (hX k hk)) (λs hs=>?_) zc;rw[he2 s (λhc=>hs (dE _ hc)),Aj s hs]
  |exit i=>exact hk _ e w' X' hX Aj hq
  |goto i=>exact hk _ e w' X' hX Aj hq
  |ret=>exact hk _ e w' X' hX Aj hq
  |panic c=>exact hk _ e w' X' hX Aj hq
  |outgrown=>exact hk _ e w' X' hX Aj hq
 | .ite c a b,K,K',env,w,X,h,hk=>by
  simp only[den,mR] at h⊢;split at h
  ·refine⟨λht=>mH a (h.1 ht) λex e w' X' hX he hq=>hk ex e w' X' hX (λs hs=>he s (λhc=>hs (bM _ hc))) hq,
    λht=>mH b (h.2 ht) λex e w' X' hX he hq=>hk ex e w' X' hX (λs hs=>he s (λhc=>hs (dE _ hc))) hq⟩
  omega
 | .alt a b,K,K',env,w,X,h,hk=>by
  exact⟨mH a h.1 λex e w' X' hX he hq=>hk ex e w' X' hX (λs hs=>he s (λhc=>hs (bM _ hc))) hq,
   mH b h.2 λex e w' X' hX he hq=>hk ex e w' X' hX (λs hs=>he s (λhc=>hs (dE _ hc))) hq⟩
 | .eT id a,K,K',env,w,X,h,hk=>by
  refine mH a (K:=lD.eT id K) h λex e w' X' hX he hq=>?_;cases ex with
  |exit i=>
   simp only[lD.eT] at hq⊢;split
   ·rename_i hi;rw[if_pos hi] at hq;exact hk _ e w' X' hX he hq
   ·rename_i hi;rw[if_neg hi] at hq;exact hk _ e w' X' hX he hq
  |normal=>exact hk _ e w' X' hX he hq
  |goto i=>exact hk _ e w' X' hX he hq
  |ret=>exact hk _ e w' X' hX he hq
  |panic c=>exact hk _ e w' X' hX he hq
  |outgrown=>exact hk _ e w' X' hX he hq
 | .loop M C a,K,K',env,w,X,h,hk=>by
  obtain⟨J,h0,hJ⟩:=h;refine⟨J,h0,λn e w' X' hX hj=>?_⟩;refine mH a (K:=lD.FG (λe' mi wC=> ∃m,m<n/\J m (C.map e') mi wC) K) (hJ n e w' X' hX hj) λex e2 w2 X2 hX2 he2 hq=>?_;have rA: ∀k,X k->X2 k:=λk hk=>hX2 k (hX k hk);have Aj: ∀s,¬s∈(T.loop M C a).wr->e2 s=env s:=λs hs=>by
   simp only[T.wr,rV,not_or] at hs;rw[he2 s hs.2];exact FJ hs.1
  cases ex with
  |normal=>exact hq
  |exit i=>exact hk _ e2 w2 X2 rA Aj hq
  |goto i=>exact hk _ e2 w2 X2 rA Aj hq
  |ret=>exact hk _ e2 w2 X2 rA Aj hq
  |panic c=>exact hk _ e2 w2 X2 rA Aj hq
  |outgrown=>exact hk _ e2 w2 X2 rA Aj hq
 | .exit id,K,K',env,w,X,h,hk=>hk _ _ _ _ (λ_ h=>h) (λ_ _=>rfl) h
 | .ret,K,K',env,w,X,h,hk=>hk _ _ _ _ (λ_ h=>h) (λ_ _=>rfl) h
 | .skip,K,K',env,w,X,h,hk=>hk _ _ _ _ (λ_ h=>h) (λ_ _=>rfl) h
theorem ag5 {c:Code} (I:Nat->Act->World->Prop) (h₀: ∃n,I n a w)
  (round: ∀n a w,I n a w->c.wp P (Exit.then (λa' w'=> ∃m,m<n/\I m a' w') Q) a w):(Code.loop c).wp P Q a w:=by
 intro b k cs;have key: ∀n a w,I n a w-> ∃e a' w',Q e a' w'/\Arrives P (lone (b.at a (.code c:: .inLoop c::k)) cs w) b k cs e a' w':=by
  intro n
  induction n using Nat.strongRecOn with
  |_ n ih=>
   intro a w hI;obtain⟨e,a₁,w₁,hq,KB⟩:=round n a w hI b (.inLoop c::k) cs;cases e with
   |normal=>
    obtain⟨m,cB,hI₁⟩:=hq;obtain⟨e₂,a₂,w₂,hq₂,harr₂⟩:=ih m cB a₁ w₁ hI₁;exact⟨e₂,a₂,w₂,hq₂,.of_steps (Steps.trans KB (.one step_inLoop)) harr₂⟩
   |exit id=>exact⟨_,a₁,w₁,hq,.pass (x:=.inLoop c) rfl (λ_ _=>.inl sQ) KB⟩
   |goto l=>exact⟨_,a₁,w₁,hq,.pass (x:=.inLoop c) rfl (λ_ _=>.inl sQ) KB⟩
   |ret=>exact⟨_,a₁,w₁,hq,.pass (x:=.inLoop c) rfl (λ_ _=>.inl sQ) KB⟩
   |panic ch=>exact⟨_,a₁,w₁,hq,.pass (x:=.inLoop c) rfl (λ_ _=>.inl sQ) KB⟩
   |outgrown=>exact⟨_,a₁,w₁,hq,.pass (x:=.inLoop c) rfl (λ_ _=>.inl sQ) KB⟩
 obtain⟨n,h₀⟩:=h₀;obtain⟨e,a',w',hq,KB⟩:=key n a w h₀;exact⟨e,a',w',hq,.of_steps (.one step_loop) KB⟩
def QP (pl:gC) (ds:Bk) (K:lD):Exit->Act->World->Prop
 | .panic ch,a,w=>a.defers=ds.ds/\ ∃env X w0,Kp X w0 w/\K (.panic ch) env w0 X/\zD pl ds env X a w
 | .outgrown,_,_=>False
 |e,a,w=> ∃env X w0,fE pl ds .start env X w0 a w/\K e env w0 X
variable {fn : Func} {R : Ending -> World -> Prop} {args : Array Value} {f : FuncId}
theorem fE.drop (h:fE pl ds cs env X w0 a w):fE pl ds .start env X w0 a w:=
 { h with sig:=λ_ hp=>(by cases hp),live:=λ_ hp=>(by cases hp),ptr:=λ_ hp=>(by cases hp) }
theorem Qa: ∀(l acc:List Nat) (s:Nat),(s∈l\/s∈acc)->s∈tO l acc
 |[],acc,s,h=>h.elim (λh=>by cases h) id
 |x::r,acc,s,h=>by
  simp only[tO];refine Qa r _ s ?_;rcases h with h|h
  ·rcases List.mem_cons.1 h with rfl|h
   ·right;split
    ·rename_i hc;simpa using hc
    ·exact lQ ..
   ·exact .inl h
  ·right;split
   ·exact h
   ·exact bG _ h
theorem QP.mono {K K':lD} (h: ∀ex e w X,K ex e w X->K' ex e w X) (ex:Exit) (a:Act) (w:World) (hq:QP pl ds K ex a w):QP pl ds K' ex a w:=by
 cases ex<;>simp only[QP] at hq⊢
 case panic ch=>grind
 all_goals grind
theorem MF: ∀(c:Code) (t:T) (K:lD) (env:Env) (X:XS) (w0:World) (a:Act) (w:World),
  jM P pl c=some t->(∀b,b∈t.mk-> ∀p,p∈ds.pins->p.1≠b)->fE pl ds .start env X w0 a w->den P t K env w0 X->c.wp P (QP pl ds K) a w:=by
 intro c
 induction c with
 |skip=>
  intro t K env X w0 a w hc hm h hd;simp only[jM,aj] at hc;subst hc;exact wp_skip ⟨env,X,w0,h,hd⟩
 |region id ops draw=>
  intro t K env X w0 a w hc hm h hd;have hN: ∀pE a' w' dt X' eh,fE pl ds pE dt X' eh a' w'->(λe w X=>K .normal e w X) dt eh X'->QP pl ds K .normal a' w':=
   λpE a' w' dt X' eh h1 h2=>⟨dt,X',eh,h1.drop,h2⟩
  have hQ: ∀ch a' w' dt X' eh,a'.defers=ds.ds->Kp X' eh w'->zD pl ds dt X' a' w'->(λch=>K (.panic ch)) ch dt eh X'->QP pl ds K (.panic ch) a' w':=
   λch a' w' dt X' eh h0 h1 AI h2=>⟨h0,dt,X',eh,h1,h2,AI⟩
  simp only[jM] at hc;split at hc
  ·rename_i KC;subst KC;split at hc
   ·rename_i Ho;simp only[aF] at Ho;refine wp_region_any Ho.1 (PY (pl:=pl) _ _ _ _ ?_);have Jl: ∀c a (d:Option Nat) v w,(∀x,d=some x-> ∀p,p∈ds.pins->p.1≠x)->QP pl ds K (.panic c) (a.put d v) w->QP pl ds K (.panic c) a w:=λc a d v w hd hq=>by
     obtain⟨h1,e,X',eh,h2,h3,h4⟩:=hq;exact⟨by cases d<;>exact h1,e,X',eh,h2,h3,h4.put hd⟩
    split at hc
    ·rename_i tl hl;simp only[aj] at hc;subst hc;exact Hn hN hQ Jl Ho.2 _ _ _ tl env X w0 _ _ hl hm (h.ju (Ext.drew w)) hd
    ·exact OL hN hQ Jl Ho.2 _ _ _ t env X w0 _ _ hc hm (h.ju (Ext.drew w)) hd
   ·cases hc
  ·rename_i KC;simp only[Bool.not_eq_true] at KC;subst KC;cases hl:Ia P pl ops ops.toList .start with
   |none=>grind
   |some tl=>
    simp only[hl,aY,aj] at hc;subst hc;exact wp_region_list (P8 hN hQ ops.toList .start tl env X w0 a w hl hm h hd)
 |seq x y ihx ihy=>
  intro t K env X w0 a w hc hm h hd;simp only[jM] at hc;cases hx:jM P pl x with
  |none=>simp[hx] at hc
  |some tx=>
   cases hy:jM P pl y with
   |none=>simp[hx,hy] at hc
   |some ty=>
    simp only[hx,hy,aj] at hc;have KD:den P (.seq tx ty) K env w0 X:=by
     subst hc;split at hd
     ·exact hd
     ·show den P tx (lD.FG (λe w X=>den P .skip K e w X) K) env w0 X
      refine mH tx hd λex e w' X' _ _ hq=>?_;cases ex<;>exact hq
     ·exact hd
    have hmm: ∀b,b∈tx.mk\/b∈ty.mk-> ∀p,p∈ds.pins->p.1≠b:=λb hb=>hm b (by
     rw[<-hc];split
     ·exact hb.resolve_left (λh=>by cases h)
     ·exact hb.resolve_right (λh=>by cases h)
     ·exact List.mem_append.2 hb)
    refine wp_seq (wp_mono (ihx tx _ env X w0 a w hx (λb hb=>hmm b (.inl hb)) h KD) λex a' w' hq=>?_);cases ex with
    |normal=>
     obtain⟨e,X',eh,h1,h2⟩:=hq;exact ihy ty K e X' eh a' w' hy (λb hb=>hmm b (.inr hb)) h1 h2
    |exit i=>exact hq
    |goto i=>exact hq
    |ret=>exact hq
    |panic c=>exact hq
    |outgrown=>exact hq
 |cond c x y ihx ihy=>
  intro t K env X w0 a w hc hm h hd;simp only[jM] at hc;cases hv:valOf pl .start c with
  |none=>simp[hv] at hc
  |some e=>
   cases hx:jM P pl x with
   |none=>simp[hv,hx] at hc
   |some tx=>
    cases hy:jM P pl y with
    |none=>simp[hv,hx,hy] at hc
    |some ty=>
     simp only[hv,hx,hy,aj] at hc;subst hc;have he:=h.eval hv;simp only[den,mR] at hd;split at hd
     ·rename_i b hb;rw[hb] at he;exact wp_cond_split he (λht=>ihx tx K env X w0 a w hx (λb hb=>hm b (bM _ hb)) h (hd.1 ht)) (λht=>ihy ty K env X w0 a w hy (λb hb=>hm b (dE _ hb)) h (hd.2 ht))
     ·exact hd.elim
 |block id x ih=>
  intro t K env X w0 a w hc hm h hd;simp only[jM] at hc;cases hx:jM P pl x with
  |none=>simp[hx] at hc
  |some tx=>
   simp only[hx,aY,aj] at hc;subst hc;refine wp_block (wp_mono (ih tx _ env X w0 a w hx hm h hd) λex a' w' hq=>?_);cases ex with
   |exit i=>
    obtain⟨e,X',eh,h1,h2⟩:=hq;simp only[Exit.inBlock,lD.eT] at h2⊢;split
    ·rename_i hi;rw[if_pos hi] at h2;exact⟨e,X',eh,h1,h2⟩
    ·rename_i hi;rw[if_neg hi] at h2;exact⟨e,X',eh,h1,h2⟩
   |normal=>exact hq
   |goto i=>exact hq
   |ret=>exact hq
   |panic c=>exact hq
   |outgrown=>exact hq
 |loop x ih=>
  intro t K env X w0 a w hc hm h hd;simp only[jM] at hc;cases hx:jM P pl x with
  |none=>simp[hx] at hc
  |some tx=>
   simp only[hx,aY,aj] at hc;subst hc;obtain⟨J,⟨n0,h0⟩,hJ⟩:=hd;refine ag5 (λn a w=> ∃e X' eh,fE pl ds .start (merge (tO tx.wr []) e env) X' eh a w/\(∀k,X k->X' k)/\J n (((tO tx.wr []).filter (yz pl.car)).map e) eh X') ⟨n0,env,X,w0,?_,λ_ h=>h,h0⟩ ?_
   ·have:merge (tO tx.wr []) env env=env:=by
     funext s
     by_cases hs:s∈tO tx.wr []
     ·exact WX hs
     ·exact FJ hs
    rw[this];exact h
   ·rintro n a w ⟨e,X',eh,h1,h2,h3⟩;have sk:=mH tx (K':=λex e' mi wC=>lD.FG (λe' mi wC=> ∃m,m<n/\J m (((tO tx.wr []).filter (yz pl.car)).map e') mi wC) K ex e' mi wC/\(∀k,X' k->wC k)/\ ∀s,¬s∈tx.wr->e' s=merge (tO tx.wr []) e env s) (hJ n e eh X' h2 h3)
     λex e' w' wC hX he hq=>⟨hq,hX,he⟩
    refine wp_mono (ih tx _ _ X' eh a w hx hm h1 sk) λex a' w' hq=>?_;cases ex with
    |normal=>
     obtain⟨e',wC,Er,g1,⟨m,hm,g2⟩,g3,g4⟩:=hq;refine⟨m,hm,e',wC,Er,?_,λk hk=>g3 k (h2 k hk),g2⟩;have:merge (tO tx.wr []) e' env=e':=by
      funext s
      by_cases hs:s∈tO tx.wr []
      ·exact WX hs
      ·rw[FJ hs,g4 s λhc=>hs (Qa _ _ _ (.inl hc)),FJ hs]
     rw[this];exact g1
    |exit i=>obtain⟨e',wC,Er,g1,g2,_⟩:=hq;exact⟨e',wC,Er,g1,g2⟩
    |goto i=>obtain⟨e',wC,Er,g1,g2,_⟩:=hq;exact⟨e',wC,Er,g1,g2⟩
    |ret=>obtain⟨e',wC,Er,g1,g2,_⟩:=hq;exact⟨e',wC,Er,g1,g2⟩
    |panic c=>obtain⟨g0,e',wC,Er,g1,⟨g2,_⟩,g3⟩:=hq;exact⟨g0,e',wC,Er,g1,g2,g3⟩
    |outgrown=>exact hq
 |exit id=>
  intro t K env X w0 a w hc hm h hd;simp only[jM,aj] at hc;subst hc;exact wp_exit ⟨env,X,w0,h,hd⟩
 |ret=>
  intro t K env X w0 a w hc hm h hd;simp only[jM,aj] at hc;subst hc;exact wp_ret ⟨env,X,w0,h,hd⟩
 |rangeFunc=>intro t K env X w0 a w hc;cases hc
 |scope=>intro t K env X w0 a w hc;cases hc
 |label=>intro t K env X w0 a w hc;cases hc
 |goto=>intro t K env X w0 a w hc;cases hc
 |refuse=>intro t K env X w0 a w hc;cases hc
def acA (tmps:Array Value):ResultVar->Sem Value
 | .tmp t=>pure (tmps.getD t undef)
 | .cell c t=>do loadVar t (<-asAddr (tmps.getD c undef))
theorem WY (h:fE pl ds cs env X w0 a w): ∀(l:List ResultVar) (es:List Ex) (nd:List Nat),
  El P pl l=some (es,nd)->(∀b,b∈nd->gy (env b)=true)->
  (l.mapM (acA a.tmps)).run P w=Result.ok (es.map (·.ev env)) w
 |[],es,nd,hc,_=>by
  simp only[El,aj,cP] at hc;simp_all
 | .tmp t::r,es,nd,hc,hl=>by
  simp only[El] at hc;split at hc
  ·rename_i hg;cases hr:El P pl r with
   |none=>grind
   |some x=>
    obtain⟨es',nd'⟩:=x;simp only[hr,aY,aj,cP] at hc;obtain⟨rfl,rfl⟩:=hc;have ih:=WY h r es' nd' hr hl;simp[List.mapM_cons,acA,ih,h.qy t hg,Ex.ev]
  ·cases hc
 | .cell c t::r,es,nd,hc,hl=>by
  simp only[El] at hc;split at hc
  ·rename_i bs ag sz hb ht;split at hc
   ·rename_i sM;simp only[aF,decide_eq_true_eq] at sM;cases hr:El P pl r with
    |none=>grind
    |some x=>
     obtain⟨es',nd'⟩:=x;simp only[hr,aY,aj,cP] at hc;obtain⟨rfl,rfl⟩:=hc;have ih:=WY h r es' nd' hr λb hb=>hl b (bG _ hb);obtain⟨cells,pG⟩:=vQ.1 (hl c (lQ ..));obtain⟨k,ty,e1,e2,e3,_⟩:=h.box c bs hb cells pG;have hld:=P3 ht sM.2 e2 0 zQ;have apZ:(loadVar t ⟨k,0,none⟩).run P w= .ok (if ag then yh (.agg cells) 0 sz else cellOf (.agg cells) 0) w:=by
      simpa [jm,oX,ej] using hld
     have TO:(if ag then Ex.s c 0 sz else Ex.k c 0).ev env=if ag then yh (.agg cells) 0 sz else cellOf (.agg cells) 0:=by
      cases ag<;>simp[Ex.ev,pG]
     simp[List.mapM_cons,acA,ih,e1,ej,asAddr,apZ,TO]
   ·cases hc
  ·cases hc
theorem MG (h:fE pl ds cs env X w0 a w) {es:List Ex}
  (hc:El P pl fn.results.toList=some (es,nd)) (hl: ∀b,b∈nd->gy (env b)=true):(results fn a.tmps).run P w= .ok (WH es env) w:=by
 have hr:=WY h _ _ _ hc hl;have hf:results fn a.tmps=(do let vs<-fn.results.mapM (acA a.tmps);pure (if h:vs.size=1 then vs[0] else .tuple vs)):=by
  unfold results
  congr 2
 rw[hf,Array.mapM_eq_mapM_toList];simp only[Sem.run_bind,Sem.run_map,hr,Result.andThen_ok,Sem.run_pure]
 congr 1
 match es with
 |[]=>rfl
 |[e]=>rfl
 |e::e'::r=>simp[WH]
def ON (P:Program) (o:Option FT) (R:Ending->World->Prop) (args:Array Value) (w:World):Prop:=match o with
 |some ft=>den P ft.code (OJ ft R) (mS args) w (bK w)
 |none=>False
theorem WZ {ft:FT} (hf:P.funcs[f]? =some fn)
  (hc:cF P pl fn=some ft) (ajx:args.size<=pl.n) (zO:(pl.boxes.all λp=>decide (args.size<=p.1))=true)
  (h:den P ft.code (OJ ft R) (mS args) w (bK w)):Calls P f args w R:=by
 unfold cF at hc;split at hc
 ·rename_i hn;have mj:fn.ntmps=pl.n:=by simpa using hn
  split at hc
  ·rename_i c hb;split at hc
   ·rename_i t r nd ajy OO;injection hc with hc
    subst hc;refine calls_of_wp hf hb (wp_mono (MF (pl:=pl) (ds:=⟨[],[]⟩) c t (OJ ⟨t,r,nd⟩ R) (mS args) (bK w) w _ w ajy (λ_ _ _ hp=>by cases hp) ?_ h) λex a' w' hq=>?_)
    ·have acB:(args++cZ (fn.ntmps-args.size) undef).size=pl.n:=by simp;omega
     have Df: ∀s,s<pl.n->(args++cZ (fn.ntmps-args.size) undef)[s]? =some (mS args s):=by
      intro s hs;rw[kD];split
      ·rename_i h1;simp[mS,pR,h1]
      ·rename_i h1;rw[jB,if_pos zQ];simp only[mS,pR];rw[wA (by simpa using h1)];rfl
     have KE: ∀b n,look pl.boxes b=some n->mS args b=undef:=by
      intro b n hb;have h1:=List.all_eq_true.1 zO _ (BW hb);simp only[decide_eq_true_eq] at h1;simp only[mS,pR];rw[wA zQ];rfl
     exact {
      size:=acB
      defers:=rfl
      Ai:=λ_ hp=>(by cases hp)
      ext:=Kp.refl _ _
      xl:=λ_ hk=>hk
      qy:=λs hs=>Df s (tn hs).1
      sig:=λ_ hp=>(by cases hp)
      box:=λb n hb cells hc=>by rw[KE b n hb] at hc;cases hc
      inj:=λb b' n n' hb dT h1=>by rw[KE b n hb] at h1;cases h1
      conv:=λb n hb k hk=>by
       have h1:=List.all_eq_true.1 zO _ (BW hb);simp only[decide_eq_true_eq] at h1;rw[kD,if_neg zQ,jB] at hk;split at hk
       ·cases hk
       ·cases hk
      live:=λ_ hp=>(by cases hp)
      ptr:=λ_ hp=>(by cases hp) }
    ·cases ex with
     |normal=>
      obtain⟨e,X',eh,h1,hq⟩:=hq;obtain⟨h2,h3⟩:=dJ.1 hq;exact⟨h1.defers,_,MG h1 OO (List.all_eq_true.1 h2),h3 w' h1.ext⟩
     |ret=>
      obtain⟨e,X',eh,h1,hq⟩:=hq;obtain⟨h2,h3⟩:=dJ.1 hq;exact⟨h1.defers,_,MG h1 OO (List.all_eq_true.1 h2),h3 w' h1.ext⟩
     |panic ch=>
      obtain⟨h0,e,X',eh,h1,h2,_⟩:=hq;exact⟨h0,h2 w' h1⟩
     |exit i=>obtain⟨e,X',eh,h1,h2⟩:=hq;exact h2
     |goto i=>obtain⟨e,X',eh,h1,h2⟩:=hq;exact h2
     |outgrown=>exact hq.elim
   ·cases hc
  ·cases hc
 ·cases hc
theorem GC {V:Prop} (hf:P.funcs[f]? =some fn)
  (hs:(decide (args.size<=pl.n)&&pl.boxes.all λp=>decide (args.size<=p.1))=true) (hv:V=ON P (cF P pl fn) R args w) (h:V):Calls P f args w R:=by
 subst hv;unfold ON at h;simp only[aF,decide_eq_true_eq] at hs;split at h
 ·rename_i ft hc;exact WZ hf hc hs.1 hs.2 h
 ·exact h.elim
def lR (P:Program) (X:XS) (w:World) (s:Sem Next) (N:Value->Prop):Prop:= ∃v,Rd P X w s v/\N v
def aX (P:Program) (X:XS) (w:World) (s:Sem Value) (N:Value->Prop):Prop:=lR P X w (vS s) N
def lS (P:Program) (X:XS) (w:World) (g:Value) (want:Bool) (s:Sem Next) (N:Value->Prop):Prop:=
 ∃v,(nZ g want=true->Rd P X w s v)/\(nZ g want=false->v=undef)/\N v
def pT (g:Value) (want:Bool) (v:Value):Value:=if nZ g want then v else undef
def iE (c a b:Value):Sem Next:=do pure (.value (if<-asBool c then a else b))
def bu (x:Value):Sem Next:=execOp (λ_=>x) (Wy (.nilCheck (.tmp 0)) 0)
def dG (op:BinOp) (t:TypeId) (xo yo:Operand) (x y:Value):Sem Value:=do eqGuard op t xo yo x y;binOp op t x y
def uS (s:Sem Unit):Sem Next:=do s;pure .skip
def pn (R:Ending->World->Prop):List PanicEntry->World->XS->Prop:=λch w X=> ∀wa,Kp X w wa->R (.panicked ch) wa
def eW (P:Program) (R:Ending->World->Prop) (X:XS) (w:World) (m:Bool) (s:Sem Next) (N:Value->World->XS->Prop):Prop:=
 ∀wa,Kp X w wa->jP P m X wa N (pn R) (s.run P wa)
def eV (P:Program) (R:Ending->World->Prop) (X:XS) (w:World) (m:Bool) (s:Sem Value) (N:Value->World->XS->Prop):Prop:=eW P R X w m (vS s) N
def eU (P:Program) (R:Ending->World->Prop) (X:XS) (w:World) (m:Bool) (s:Sem Unit) (N:Value->World->XS->Prop):Prop:=eW P R X w m (uS s) N
def eC (P:Program) (R:Ending->World->Prop) (X:XS) (w:World) (m:Bool) (f:FuncId) (args:Array Value) (N:Value->World->XS->Prop):Prop:=eW P R X w m (callFunc f args) N
def eF (P:Program) (R:Ending->World->Prop) (X:XS) (w:World) (m:Bool) (f:Value) (args:Array Value) (N:Value->World->XS->Prop):Prop:=eW P R X w m (H8 f args) N
def gE (g:Value) (want:Bool) (A B:Prop):Prop:=(nZ g want=true->A)/\(nZ g want=false->B)
def fin (R:Ending->World->Prop) (X:XS) (w:World) (v:Value):Prop:= ∀wa,Kp X w wa->R (.returned v) wa
abbrev JT:=Nat->List Value->World->XS->Prop
def Et (J:JT) (n:Nat) (vs:List Value) (w:World) (X:XS):Prop:= ∃m,m<n/\J m vs w X
def Qb (X:XS) (w:World) (vs:List Value) (C:List Nat) (B:JT->Nat->Env->World->XS->Prop):Prop:=
 ∃J:JT,(∃n,J n vs w X)/\ ∀n (e:Env) w' X',(∀k,X k->X' k)->J n (C.map e) w' X'->B J n e w' X'
variable {P : Program} {R : Ending -> World -> Prop} {X : XS} {w : World} {m : Bool}
variable {N : Value -> Prop}
theorem Hp {s:Sem Value} (v:Value) (h: ∀wa,Kp X w wa->s.run P wa= .ok v wa) (k:N v):aX P X w s N:=
 ⟨v,λwa hk=>by simp[vS,h wa hk],k⟩
def bF {s:Sem Value} (h: ∀wa,s.run P wa= .ok v wa) (k:N v):aX P X w s N:=
 Hp v (λwa _=>h wa) k
def W4 {s:Sem Next} (h: ∀wa,s.run P wa= .ok (.value v) wa) (k:N v):lR P X w s N:=
 ⟨v,λwa _=>h wa,k⟩
theorem Ee {α:Type} [BEq α] [LawfulBEq α] [DecidableEq α] (a b:α):(a==b)=decide (a=b):=by grind
variable {xo yo : Operand}
section
variable {t : TypeId} {k : IntKind} {a b : Int}
theorem akc (h:N (.bool (decide (a<b)))):aX P X w (binOp .lss t (.int k a) (.int k b)) N:=bF (λwa=>by simp[binOp,sJ]) h
theorem akd (h:N (.bool (decide (a<=b)))):aX P X w (binOp .leq t (.int k a) (.int k b)) N:=bF (λwa=>by simp[binOp,sJ]) h
theorem ake (h:N (.bool (decide (a>b)))):aX P X w (binOp .gtr t (.int k a) (.int k b)) N:=bF (λwa=>by simp[binOp,sJ]) h
theorem akf (h:N (.bool (decide (a>=b)))):aX P X w (binOp .geq t (.int k a) (.int k b)) N:=bF (λwa=>by simp[binOp,sJ]) h
theorem nI (h:N (.int k (k.wrap (a+b)))):aX P X w (binOp .add t (.int k a) (.int k b)) N:=bF (λwa=>by simp[binOp,AE]) h
theorem abJ (h:N (.int k (k.wrap (a-b)))):aX P X w (binOp .sub t (.int k a) (.int k b)) N:=bF (λwa=>by simp[binOp,AE]) h
theorem Sf (h:N (.int k (k.wrap (a*b)))):aX P X w (binOp .mul t (.int k a) (.int k b)) N:=bF (λwa=>by simp[binOp,AE]) h
theorem Sg (h:N (.bool (decide (a=b)))):aX P X w (dG .eql t xo yo (.int k a) (.int k b)) N:=
 bF (λwa=>by simp[dG,eqGuard,binOp,sJ,Ee]) h
theorem akg (h:N (.bool (decide (a≠b)))):aX P X w (dG .neq t xo yo (.int k a) (.int k b)) N:=
 bF (λwa=>by simp[dG,eqGuard,binOp,sJ,bne,Ee]) h
end
section
variable {t : TypeId} {a b : ByteArray}
theorem ag6 (h:N (.bool (decide (a.toList=b.toList)))):aX P X w (dG .eql t xo yo (.string a) (.string b)) N:=
 bF (λwa=>by simp[dG,eqGuard,binOp,wB,Ee]) h
theorem ag7 (h:N (.bool (decide (a.toList≠b.toList)))):aX P X w (dG .neq t xo yo (.string a) (.string b)) N:=
 bF (λwa=>by simp[dG,eqGuard,binOp,wB,Ee]) h
theorem ag8 (h:N (.bool (bW a.toList b.toList))):aX P X w (binOp .lss t (.string a) (.string b)) N:=
 bF (λwa=>by rfl) h
theorem ag9 (h:N (.bool (!bW a.toList b.toList))):aX P X w (binOp .geq t (.string a) (.string b)) N:=
 bF (λwa=>by rfl) h
theorem aha (h:N (.bool (bW a.toList b.toList||decide (a.toList=b.toList)))):aX P X w (binOp .leq t (.string a) (.string b)) N:=
 bF (λwa=>by simp[binOp,wB,Ee]) h
theorem ahb (h:N (.bool (!(bW a.toList b.toList||decide (a.toList=b.toList))))):aX P X w (binOp .gtr t (.string a) (.string b)) N:=
 bF (λwa=>by simp[binOp,wB,Ee]) h
end
section
variable {t : TypeId} {k : FloatKind} {a b : Nat}
theorem ahc (h:N (.bool (k.format.order a b==some .lt))):aX P X w (binOp .lss t (.float k a) (.float k b)) N:=bF (λwa=>by simp[binOp,pC]) h
theorem ahd (h:N (.bool (k.format.order a b==some .lt||k.format.order a b==some .eq))):aX P X w (binOp .leq t (.float k a) (.float k b)) N:=
 bF (λwa=>by simp[binOp,pC]) h
theorem ahe (h:N (.bool (k.format.order a b==some .gt))):aX P X w (binOp .gtr t (.float k a) (.float k b)) N:=bF (λwa=>by simp[binOp,pC]) h
theorem ahf (h:N (.bool (k.format.order a b==some .gt||k.format.order a b==some .eq))):aX P X w (binOp .geq t (.float k a) (.float k b)) N:=
 bF (λwa=>by simp[binOp,pC]) h
theorem ahg (h:N (.bool (k.format.order a b==some .eq))):aX P X w (dG .eql t xo yo (.float k a) (.float k b)) N:=
 bF (λwa=>by simp[dG,eqGuard,binOp,pC]) h
theorem ahh (h:N (.bool (k.format.order a b !=some .eq))):aX P X w (dG .neq t xo yo (.float k a) (.float k b)) N:=
 bF (λwa=>by simp[dG,eqGuard,binOp,pC]) h
end
section
variable {t : TypeId} {k k2 : IntKind} {a b : Int}
theorem Ef (hb: ¬b<0) (h:N (.int k (a.fdiv (2^min b.toNat k.bits)))):aX P X w (binOp .shr t (.int k a) (.int k2 b)) N:=
 bF (λwa=>by simp[binOp,Op.shift,hb]) h
theorem Sh (hb: ¬b<0) (h:N (.int k (k.wrap (a*2^min b.toNat k.bits)))):aX P X w (binOp .shl t (.int k a) (.int k2 b)) N:=
 bF (λwa=>by simp[binOp,Op.shift,hb]) h
theorem Si (h:N (.int k (k.wrap (aC k.bits a^^^aC k.bits b).toNat))):aX P X w (binOp .xor t (.int k a) (.int k b)) N:=
 bF (λwa=>by simp[binOp,Op.intBits]) h
theorem MH (h:N (.int k (k.wrap (aC k.bits a&&& aC k.bits b).toNat))):aX P X w (binOp .and t (.int k a) (.int k b)) N:=
 bF (λwa=>by simp[binOp,Op.intBits]) h
end
variable {x y : Value} {A : Prop}
section
variable {b c : Bool} {g : Value}
theorem abK (h:N (.bool (!b))):aX P X w (Op.unary .not (.bool b)) N:=bF (λwa=>by rfl) h
theorem W5 (h:N (if b then x else y)):lR P X w (iE (.bool b) x y) N:=W4 (λwa=>by rfl) h
def KF (h:N x):lR P X w (iE (.bool true) x y) N:=W5 h
def KG (h:N y):lR P X w (iE (.bool false) x y) N:=W5 h
theorem MI {s:Sem Next} (h:lR P X w s N):lS P X w (.bool want) want s N:=by
 obtain⟨v,hv,hn⟩:=h;exact⟨v,λ_=>hv,λhf=>absurd hf (by simp[nZ]),hn⟩
theorem W6 {s:Sem Next} (h:N undef):lS P X w (.bool (!want)) want s N:=
 ⟨undef,λhf=>absurd hf (by cases want<;>simp[nZ]),λ_=>rfl,h⟩
def ahi {s:Sem Next} (h:lR P X w s N):lS P X w (.bool true) true s N:=MI h
def ahj {s:Sem Next} (h:lR P X w s N):lS P X w (.bool false) false s N:=MI h
def TT {s:Sem Next} (h:N undef):lS P X w (.bool false) true s N:=W6 (want:=true) h
def afl {s:Sem Next} (h:N undef):lS P X w (.bool true) false s N:=W6 (want:=false) h
def akh {B:Prop} (h:b=true->A) (k:b=false->B):mR (.bool b) A B:=⟨h,k⟩
theorem acC {B:Prop} (h:b=want->A) (k:b=!want->B):gE (.bool b) want A B:=
 ⟨λe=>h (by simpa [nZ] using e),λe=>k (by revert e;cases b<;>cases want<;>simp[nZ])⟩
def alI {B:Prop} (h:A):gE (.bool true) true A B:=acC (λ_=>h) sQ
def ap0 {B:Prop} (h:A):gE (.bool false) false A B:=acC (λ_=>h) sQ
def aox {B:Prop} (h:B):gE (.bool true) false A B:=acC sQ (λ_=>h)
def ajz {B:Prop} (h:B):gE (.bool false) true A B:=acC sQ (λ_=>h)
theorem NI {vs:Array Value} (hi:vs[i]? =some v) (h:N v):aX P X w (gD (.tuple vs) i) N:=
 bF (λwa=>by simp[gD,hi]) h
def aki {a:Addr} (h:N (.pointer (some a))):lR P X w (bu (.pointer (some a))) N:=
 W4 (λ_=>rfl) h
theorem W7 {t e:TypeId} {p:Option Addr} (ht:P.underlying t=some (.pointer e)) (h:N (.bool p.isNone)):
  aX P X w (dG .eql t xo yo (.pointer p) (.pointer none)) N:=by
 refine bF (λwa=>?_) h;have hp:P.pointee t=e:=by simp[Program.pointee,ht]
 have:=run_equal_pointer_nil (P:=P) (w:=wa) t p gQ;simp[dG,eqGuard,binOp,this]
end
theorem alJ {N:Value->World->XS->Prop} (Q:Value->World->World->Prop)
  (hf: ∀wa,(callFunc f args).run P wa= .ok (.enter f args) wa)
  (h: ∀wa,Kp X w wa->Calls P f args wa λe w'=> ∃v,e= .returned v/\Ext wa w'/\Q v wa w')
  (k: ∀v wa w',Kp X w wa->Ext wa w'->Q v wa w'->N v w' (grow X wa w')):eC P R X w m f args N:=by
 intro wa hk;unfold jP;rw[hf wa];refine⟨rfl,(h wa hk).mono ?_⟩
 grind [Step.eZ]
end Go.aL