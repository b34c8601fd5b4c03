/-
 Part 1 of the proof: what the last text leans on.
-/
import Derived.KernelRfl
import Derived.Orders
import Derived.Below
import Derived.Laws.Sem
import Derived.Laws.CopyRow
import Derived.Laws.Entries
import Derived.Laws.Cells
import GoSem.Dispatch
import Derived.Laws.Rows
import Derived.Laws.Pointers
open Option.some renaming injEq → ah
open Go.Region renaming wanted → bU, ready → iA, binds → vj, noSelect → wu, noSelect_spec → xp
open Bool renaming and_eq_true → aD, not_eq_true' → cB, false_eq_true → aY, or_eq_true → oP, not_eq_false → Af
open List renaming mem_append_left → bJ, mem_append_right → dF, mem_filter → iy, range → dD, mem_cons_of_mem → bQ, mem_append → sy, mem_cons → lQ, cons_append → j8, getD → qt, contains_iff_mem → wJ, all_eq_true → j9, nil_append → cx, flatMap_cons → Ag, mem_cons_self → zh, getElem?_eq_none → wK
open Option renaming map_some → aX, bind_some → cJ, isNone_iff_eq_none → iH
open Go.Act renaming put → nM, eval → lj
open Go.Oper renaming upon → oE, wp → kC, apart_spec → wy
open Prod.mk renaming injEq → cD
open Go.Op renaming intCmp → sZ, floatCmp → qa, stringOp → wL, bytesLess → bY, intArith → Ay
open Nat renaming le_refl → aq, lt_of_lt_of_le → av, le_trans → ad
open Array renaming replicate → cZ, getElem?_setIfInBounds_ne → lF, getElem?_eq_none → qu, toList_map → lG, any_eq_true' → yA, setIfInBounds_comm → ug, getElem?_setIfInBounds → dR, getElem?_append → kN, getElem?_replicate → jH
open Go.Instr renaming sureAddr → pG, loadAt → js, extract → gx
open BitVec renaming ofInt → aF
open Go.Deferred renaming ofValue → ka
set_option linter.unusedVariables false
set_option linter.unusedSimpArgs false
namespace Go.aG
theorem kS {α:Type _} {a b:α} (h:a=b:=by kernel_rfl):some a=some b:=congrArg some h
variable {p : Prop}
theorem qF (h:p:=by first|assumption|exact aK.cells (by assumption)):p:=h
theorem qO (h:p:=by first|assumption|exact Own.sl (by assumption)):p:=h
theorem qM (h:p:=by first|exact mv0|exact mv1 (by assumption)|exact mv2 (by assumption) (by assumption)):p:=h
theorem qN (h:p:=by simp only[Value.cells,nq1,nq2,nq3,nq4,nq5,nq6,cY,nq7,nq8,nq9,nq0,Nat.reduceAdd,Nat.zero_add];try rfl):p:=h
theorem qE (h:p:=by repeat' first|with_reducible apply Wp|with_reducible exact aas|assumption|rfl|exact Sl.one (by assumption)|exact eQ.one (by assumption)|exact Sl.one (Own.sl (by assumption))):p:=h
theorem qC (h:p:=by first|rfl|assumption|exact Sl.one (by assumption)|exact eQ.one (by assumption)|exact Sl.one (Own.sl (by assumption))):p:=h
theorem qR (h:p:=by first|assumption|exact List.getElem?_eq_getElem (by omega)):p:=h
theorem qA (h:p:=by first|assumption|exact Sl.mv (by assumption) qM|exact qX.mv (by assumption) qM|exact qY.mv (by assumption) qM|exact Rec.at.mv (by assumption) qM|exact Own.sl (by assumption)|exact Cells.mv (by assumption) qM|exact Cells.mv (aK.cells (by assumption)) qM|omega):p:=h
theorem kQ (h:p:=by kernel_rfl):p:=h
theorem zQ (h:p:=by omega):p:=h
theorem aQ (h:p:=by assumption):p:=h
theorem dQ (h:p:=by decide):p:=h
theorem gQ (h:p:=by grind):p:=h
theorem oQ (h:p:=by simp;omega):p:=h
theorem sQ (h:p:=by simp):p:=h
abbrev Env:=Nat->Value
abbrev XS:=Nat->Prop
def jY (e:Env) (d:Nat) (v:Value):Env:=λs=>match s==d with
 |true=>v
 |false=>e s
def KC (e:Env) (d:Option Nat) (v:Value):Env:=match d with
 |some d=>jY e d v
 |none=>e
structure Fr (X:XS) (w w':World):Prop where
 os:w'.os=w.os
 tape:w'.tape=w.tape
 output:w'.output=w.output
 size:w.heap.size<=w'.heap.size
 block: ∀k,k<w.heap.size-> ¬X k->w'.heap[k]? =w.heap[k]?
def nX:XS:=λ_=>False
def Ext (w w':World):Prop:=Fr nX w w'
theorem Fr.refl (X:XS) (w:World):Fr X w w:=⟨rfl,rfl,rfl,aq _,λ_ _ _=>rfl⟩
variable {b c : World} {X : XS}
theorem Fr.trans {a:World} (h:Fr X a b) (k:Fr X b c):Fr X a c:=
 ⟨k.os.trans h.os,k.tape.trans h.tape,k.output.trans h.output,ad h.size k.size,
  λi hi hx=>(k.block i (av hi h.size) hx).trans (h.block i hi hx)⟩
variable {Y : XS}
theorem Fr.mono {a:World} (h:Fr X a b) (hs: ∀k,X k->Y k):Fr Y a b:=
 ⟨h.os,h.tape,h.output,h.size,λi hi hy=>h.block i hi λhx=>hy (hs i hx)⟩
theorem Ext.refl (w:World):Ext w w:=Fr.refl _ _
theorem Ext.trans {a:World} (h:Ext a b) (k:Ext b c):Ext a c:=Fr.trans h k
theorem Ext.fr {a:World} (h:Ext a b) (X:XS):Fr X a b:=Fr.mono h (λ_ hf=>hf.elim)
theorem Ext.size {a:World} (h:Ext a b):a.heap.size<=b.heap.size:=Fr.size h
variable {k : Nat}
theorem Ext.block {a:World} (h:Ext a b) (hk:k<a.heap.size):b.heap[k]? =a.heap[k]? :=Fr.block h k hk (λhf=>hf)
theorem Ext.agB {a:World} (h:RowKit.Below a.heap.size a b):Ext a b:=⟨h.os,h.tape,h.output,h.size,λk hk _=>h.block k hk⟩
theorem Ext.below {a:World} (h:Ext a b):RowKit.Below a.heap.size a b:=⟨h.os,h.tape,h.output,Fr.size h,λ_ hk=>h.block hk⟩
theorem Ext.alloc (w:World) (o:Obj):Ext w (w.alloc o):=Ext.agB ((RowKit.Below.refl _ _).alloc (aq _) o)
theorem Ext.drew (w:World):Ext w { w with drawn:=w.drawn+1 } :=⟨rfl,rfl,rfl,aq _,λ_ _ _=>rfl⟩
structure Kp (X:XS) (w w':World):Prop where
 os:w'.os=w.os
 tape:w'.tape=w.tape
 output:w'.output=w.output
 size:w.heap.size<=w'.heap.size
 block: ∀k,X k->w'.heap[k]? =w.heap[k]?
theorem Kp.refl (X:XS) (w:World):Kp X w w:=⟨rfl,rfl,rfl,aq _,λ_ _=>rfl⟩
theorem Kp.trans {a:World} (h:Kp X a b) (k:Kp X b c):Kp X a c:=
 ⟨k.os.trans h.os,k.tape.trans h.tape,k.output.trans h.output,ad h.size k.size,λi hx=>(k.block i hx).trans (h.block i hx)⟩
theorem Kp.less {a:World} (h:Kp X a b) (hs: ∀k,Y k->X k):Kp Y a b:=⟨h.os,h.tape,h.output,h.size,λi hy=>h.block i (hs i hy)⟩
theorem Fr.kp {a:World} (h:Fr X a b) (hy: ∀k,Y k->k<a.heap.size/\ ¬X k):Kp Y a b:=
 ⟨h.os,h.tape,h.output,h.size,λi hi=>h.block i (hy i hi).1 (hy i hi).2⟩
theorem Ext.kp {a:World} (h:Ext a b) (hx: ∀k,X k->k<a.heap.size):Kp X a b:=Fr.kp h λk hk=>⟨hx k hk,λhf=>hf⟩
def bV (w:World):XS:=λk=>k<w.heap.size
theorem Kp.ext {a:World} (h:Kp (bV a) a b):Ext a b:=⟨h.os,h.tape,h.output,h.size,λk hk _=>h.block k hk⟩
theorem Ext.bV {a:World} (h:Ext a b):Kp (bV a) a b:=h.kp λ_ hk=>hk
inductive Ex where
 |t (n:Nat)
 |c (v:Value)
 |s (b off n:Nat)
 |k (b off:Nat)
def fD (v:Value) (off n:Nat):Value:=.agg ((v.cells.toList.drop off).take n).toArray
def cellOf (v:Value) (i:Nat):Value:=v.cells.toList.getD i undef
def Ex.ev (env:Env):Ex->Value
 | .t n=>env n
 | .c v=>v
 | .s b off n=>fD (env b) off n
 | .k b off=>cellOf (env b) off
def Ex.Wq:Ex->Nat->Bool
 | .t n,d=>n==d
 | .c _,_=>false
 | .s b _ _,d=>b==d
 | .k b _,d=>b==d
def look {α:Type} :List (Nat×α)->Nat->Option α
 |[],_=>none
 |(s,e)::r,t=>if s=t then some e else look r t
def Gi (env:Env) (ss:List (Nat×Ex)):Operand->Value
 | .tmp t=>match look ss t with
  |some e=>e.ev env
  |none=>env t
 | .const v=>v
 | .global g=>.pointer (some ⟨g,0,none⟩)
 | .func f=>.func (.func f) #[] #[]
def Ws (op:Op) (ty:TypeId):Oper:=⟨none,op,ty, "",#[],none⟩
def vS (s:Sem Value):Sem Next:=do pure (.value (<-s))
def II (f:Value) (args:Array Value):Sem Next:=do let d<-ka f args;invoke d.target d.args
def xq (ρ:Operand->Value) (a:Array Operand):Array Value:=(a.toList.map ρ).toArray
def ab8 (ρ:Operand->Value) (a:Array (Nat×Operand)):Array (Nat×Value):=(a.toList.map λp=>(p.1,ρ p.2)).toArray
def P4 (ρ:Operand->Value) (op:Op) (ty:TypeId):Sem Next:=match op with
 | .call ⟨.value (.func f),args,_⟩=>callFunc f (xq ρ args)
 | .call ⟨.value (.tmp t),args,_⟩=>II (ρ (.tmp t)) (xq ρ args)
 | .call ⟨.builtin .len,args,ts⟩=>vS (Builtin.len_ ts ty (xq ρ args))
 | .call ⟨.builtin .cap,args,ts⟩=>vS (Builtin.cap_ ts ty (xq ρ args))
 | .call ⟨.builtin .min,args,ts⟩=>vS (Builtin.min_ ts ty (xq ρ args))
 | .call ⟨.builtin .max,args,ts⟩=>vS (Builtin.max_ ts ty (xq ρ args))
 | .call ⟨.builtin .append,args,ts⟩=>vS (Builtin.append_ ts ty (xq ρ args))
 | .call ⟨.builtin .copy,args,ts⟩=>vS (Builtin.copy_ ts ty (xq ρ args))
 | .call ⟨.builtin .delete,args,ts⟩=>vS (Builtin.delete_ ts ty (xq ρ args))
 | .call ⟨.builtin .clear,args,ts⟩=>vS (Builtin.clear_ ts ty (xq ρ args))
 | .call ⟨.builtin .panic,args,_⟩=>vS (Instr.panic ((xq ρ args).toList.getD 0 .nilIface))
 | .build t ps=>vS (Instr.build t (ab8 ρ ps))
 | .buildSlice t n ps=>vS (Instr.buildSlice t n (ab8 ρ ps))
 | .makeFunc fn a b=>vS (Instr.makeFunc fn (xq ρ a) (xq ρ b))
 |op=>execOp ρ (Ws op ty)
theorem Sc (ρ:Operand->Value) (a:Array Operand):xq ρ a=a.map ρ:=by
 unfold xq;rw[<-lG]
theorem ajB (ρ:Operand->Value) (a:Array (Nat×Operand)):ab8 ρ a=a.map λp=>(p.1,ρ p.2):=by
 unfold ab8;rw[<-lG]
theorem aeU (ρ:Operand->Value) (hρ: ∀f,ρ (.func f)= .func (.func f) #[] #[]) (op:Op) (ty:TypeId):P4 ρ op ty=execOp ρ (Ws op ty):=by
 unfold P4;split<;>first
  |rfl
  |(simp[execOp,Ws,resolve,invoke,ka,Sc,ajB,vS,builtin,II,hρ];done)
def cY (l:List Value) (off:Nat) (vs:List Value):List Value:=l.take off++vs++l.drop (off+vs.length)
def Rd (P:Program) (X:XS) (w:World) (s:Sem Next) (v:Value):Prop:= ∀wa,Kp X w wa->s.run P wa= .ok (.value v) wa
def oM (v:Value) (want:Bool):Bool:=match v with
 | .bool b=>b==want
 |_=>false
def cU:Value->Bool
 | .agg _=>true
 |_=>false
def one (v:Value):Bool:=match v with
 | .agg _| .tuple _=>false
 |_=>true
inductive TI where
 |yS (b:Nat)
 |set (d:Nat) (e:Ex)
 |box (b n:Nat) (e:Ex)
 |put (b off n:Nat) (e:Ex)
 |Az (b:Nat) (e:Ex)
 |Wu (b off:Nat) (e:Ex)
 |fill (b n:Nat) (e:Ex)
 |rd (d:Nat) (op:Op) (ty:TypeId) (ss:List (Nat×Ex))
 |D2 (d:Option Nat) (op:Op) (ty:TypeId) (ss:List (Nat×Ex)) (m:Bool)
 |Wv (g:Nat) (want:Bool) (d:Nat) (e:Ex)
 |grd (g:Nat) (want:Bool) (d:Nat) (op:Op) (ty:TypeId) (ss:List (Nat×Ex))
 |Ww (g:Nat) (want:Bool) (d:Option Nat) (op:Op) (ty:TypeId) (ss:List (Nat×Ex)) (m:Bool)
inductive T where
 |BV (l:List TI)
 |seq (a b:T)
 |ite (e:Ex) (a b:T)
 |alt (a b:T)
 |ga (id:Nat) (a:T)
 |loop (M C:List Nat) (a:T)
 |exit (id:Nat)
 |ret
 |skip
def grow (X:XS) (w w':World):XS:=λk=>X k\/(w.heap.size<=k/\k<w'.heap.size)
def Step (m:Bool) (X:XS) (w w':World):Prop:=if m then Fr X w w' else Ext w w'
variable {w w' : World}
theorem Step.fr {m:Bool} (h:Step m X w w'):Fr X w w':=by
 unfold Step at h;split at h
 ·exact h
 ·exact h.fr X
theorem Step.fc {m:Bool} (h:Ext w w'):Step m X w w':=by
 unfold Step;split
 ·exact h.fr X
 omega
def jV (P:Program) (m:Bool) (X:XS) (w:World) (next:Value->World->XS->Prop) (iE:List PanicEntry->World->XS->Prop):Result Next->Prop
 | .ok (.value v) w'=>Step m X w w'/\next v w' (grow X w w')
 | .ok .skip w'=>Step m X w w'/\next undef w' (grow X w w')
 | .ok (.enter f args) w'=>w'=w/\Calls P f args w fun
   | .returned v,lC=>Step m X w lC/\next v lC (grow X w lC)
   | .panicked ch,lC=>Step m X w lC/\iE ch lC (grow X w lC)
   | .outgrown,_=>False
 | .halt (.panic v) w'=>Step m X w w'/\iE [{ v,recovered:=false }] w' (grow X w w')
 |_=>False
def jq (b:Bool) (N:Prop):Prop:=match b with
 |true=>N
 |false=>False
theorem di {b:Bool} {N:Prop} :jq b N↔b=true/\N:=by cases b<;>simp[jq]
def mE (v:Value) (A B:Prop):Prop:=match v with
 | .bool t=>(t=true->A)/\(t=false->B)
 |_=>False
def Wx (P:Program) (iE:List PanicEntry->Env->World->XS->Prop) (next:Env->World->XS->Prop) (env:Env) (w:World) (X:XS):TI->Prop
 | .yS b=>jq (cU (env b)) (next env w X)
 | .set d e=>next (jY env d (e.ev env)) w X
 | .box b n e=>jq ((e.ev env).cells.toList.length==n) (next (jY env b (.agg (e.ev env).cells)) w X)
 | .put b off n e=>jq ((e.ev env).cells.toList.length==n) (jq ((e.ev env).cells.toList.all one)
   (next (jY env b (.agg (cY (env b).cells.toList off (e.ev env).cells.toList).toArray)) w X))
 | .Az b e=>jq (one (e.ev env)) (next (jY env b (.agg #[e.ev env])) w X)
 | .Wu b off e=>jq (one (e.ev env)) (next (jY env b (.agg (cY (env b).cells.toList off [e.ev env]).toArray)) w X)
 | .fill b n e=>jq ((e.ev env).cells.toList.length==n) (jq ((e.ev env).cells.toList.all one) (next (jY env b (.agg (e.ev env).cells)) w X))
 | .rd d op ty ss=> ∃v,Rd P X w (P4 (Gi env ss) op ty) v/\next (jY env d v) w X
 | .D2 d op ty ss m=> ∀wa,Kp X w wa->
   jV P m X wa (λv w' X'=>next (KC env d v) w' X') (λch w' X'=>iE ch env w' X') ((P4 (Gi env ss) op ty).run P wa)
 | .Wv g want d e=>next (jY env d (if oM (env g) want then e.ev env else undef)) w X
 | .grd g want d op ty ss=> ∃v,(oM (env g) want=true->Rd P X w (P4 (Gi env ss) op ty) v)/\(oM (env g) want=false->v=undef)/\
   next (jY env d v) w X
 | .Ww g want d op ty ss m=>
   (oM (env g) want=true-> ∀wa,Kp X w wa->
    jV P m X wa (λv w' X'=>next (KC env d v) w' X') (λch w' X'=>iE ch env w' X') ((P4 (Gi env ss) op ty).run P wa))/\
   (oM (env g) want=false->next (KC env d undef) w X)
def gP (P:Program) (iE:List PanicEntry->Env->World->XS->Prop) (next:Env->World->XS->Prop):List TI->Env->World->XS->Prop
 |[],env,w,X=>next env w X
 |i::l,env,w,X=>Wx P iE (gP P iE next l) env w X i
abbrev lR:=Exit->Env->World->XS->Prop
def lR.Gj (next:Env->World->XS->Prop) (K:lR):lR
 | .normal,e,w,X=>next e w X
 |ex,e,w,X=>K ex e w X
def lR.ga (id:Nat) (K:lR):lR
 | .exit i,e,w,X=>if i=id then K .normal e w X else K (.exit i) e w X
 |ex,e,w,X=>K ex e w X
def yB (M:List Nat) (s:Nat):Bool:=match M with
 |[]=>false
 |x::r=>x==s||yB r s
variable {s : Nat}
theorem yh: ∀{M:List Nat},yB M s=true↔s∈M
 |[]=>by simp[yB]
 |x::r=>by
  simp only[yB,oP,beq_iff_eq,yh (M:=r),lQ]
  grind
def merge (M:List Nat) (e env:Env):Env:=λs=>match yB M s with
 |true=>e s
 |false=>env s
def den (P:Program):T->lR->Env->World->XS->Prop
 | .BV l,K,env,w,X=>gP P (λch=>K (.panic ch)) (λe w X=>K .normal e w X) l env w X
 | .seq a b,K,env,w,X=>den P a (lR.Gj (λe w X=>den P b K e w X) K) env w X
 | .ite e a b,K,env,w,X=>mE (e.ev env) (den P a K env w X) (den P b K env w X)
 | .alt a b,K,env,w,X=>And (den P a K env w X) (den P b K env w X)
 | .ga id a,K,env,w,X=>den P a (lR.ga id K) env w X
 | .loop M C a,K,env,w,X=> ∃J:Nat->List Value->World->XS->Prop,(∃n,J n (C.map env) w X)/\
   ∀n (e:Env) w' X',(∀k,X k->X' k)->J n (C.map e) w' X'->den P a (lR.Gj (λe' lC wM=> ∃m,m<n/\J m (C.map e') lC wM) K) (merge M e env) w' X'
 | .exit id,K,env,w,X=>K (.exit id) env w X
 | .ret,K,env,w,X=>K .ret env w X
 | .skip,K,env,w,X=>K .normal env w X
structure gz where
 n:Nat
 boxes:List (Nat×Nat)
 Tt:List Nat
 qv:List Nat
 mat:List Nat
 car:List Nat
def gz.jx (pl:gz) (s:Nat):Bool:=pl.qv.contains s&&decide (s<pl.n)&&(look pl.boxes s).isNone&&!pl.Tt.contains s
def gz.nN (pl:gz) (d:Nat):Bool:=decide (d<pl.n)&&(look pl.boxes d).isNone&&!pl.Tt.contains d
structure Ptr where
 s:Nat
 b:Nat
 off:Nat
 g:Option (Nat×Bool)
structure CS where
 sig:List (Nat×Ex)
 zK:List Ptr
 live:List Nat
def CS.start:CS:=⟨[],[],[]⟩
def valOf (pl:gz) (cs:CS):Operand->Option Ex
 | .tmp t=>if pl.jx t then some (.t t)else look cs.sig t
 | .const v=>some (.c v)
 | .global g=>some (.c (.pointer (some ⟨g,0,none⟩)))
 | .func f=>some (.c (.func (.func f) #[] #[]))
def HI (og:Option (Nat×Bool)):List Ptr->Nat->Option (Nat×Nat)
 |[],_=>none
 |p::r,t=>if p.s=t then(if p.g.isNone||p.g==og then some (p.b,p.off)else none)else HI og r t
def wN (pl:gz) (cs:CS) (og:Option (Nat×Bool)):Operand->Option (Nat×Nat×List Nat)
 | .tmp t=>match look pl.boxes t with
  |some _=>some (t,0,if cs.live.contains t then [] else [t])
  |none=>if pl.Tt.contains t then(HI og cs.zK t).map λ(b,off)=>(b,off,[])else none
 |_=>none
def CS.kill (cs:CS) (d:Nat):CS:=
 ⟨cs.sig.filter λp=>p.1 !=d&&!p.2.Wq d,cs.zK.filter λp=>p.b !=d&&p.s !=d&&(match p.g with|some (g,_)=>g !=d|none=>true),cs.live⟩
def CS.M8 (cs:CS) (b:Nat):CS:=⟨cs.sig.filter λp=>!p.2.Wq b,cs.zK,cs.live⟩
def CS.bind (cs:CS) (pl:gz) (d:Nat):CS:=let c:=cs.kill d;if pl.jx d then c else { c with sig:=(d,.t d)::c.sig }
def CS.note (cs:CS) (d:Nat) (e:Ex):CS:= { cs with sig:=(d,e)::cs.sig.filter (λp=>p.1 !=d),zK:=cs.zK.filter λp=>p.s !=d }
def CS.tZ (cs:CS) (d b off:Nat) (g:Option (Nat×Bool)):CS:=
 { cs with sig:=cs.sig.filter (λp=>p.1 !=d),zK:=⟨d,b,off,g⟩::(cs.zK.filter λp=>p.s !=d) }
def CS.mF (cs:CS) (l:List Nat):CS:= { cs with live:=l++cs.live }
def sA (pl:gz) (cs:CS) (d:Nat) (e:Ex):List TI×CS:=
 if pl.jx d||pl.mat.contains d then([.set d e],cs.bind pl d)else([],cs.note d e)
def fieldInfo (P:Program) (S f:Nat):Option (Nat×Nat):=
 match P.underlying S with
 |some (.struct fs)=>(fs[f]?).bind λx=>(P.info? x.type).map λi=>(x.offset,i.size)
 |_=>none
def subst (pl:gz) (cs:CS):List Operand->Option (List (Nat×Ex))
 |[]=>some []
 | .tmp t::r=>match valOf pl cs (.tmp t),subst pl cs r with
  |some e,some ss=>some (match e with
   | .t n=>if n=t then ss else(t,e)::ss
   |_=>(t,e)::ss)
  |_,_=>none
 |_::r=>subst pl cs r
def Wy (P:Program) (t:Nat):Bool:=match P.underlying t with
 |some (.slice _)=>true
 |_=>false
def apa (P:Program):Op->Bool
 | .pick .. | .nilCheck _| .binOp .. | .unOp .. | .fieldAddr .. | .field .. | .indexAddr .. | .index .. | .extract .. | .slice .. | .build .. | .makeFunc ..
 | .makeInterface .. | .load .. | .lookup .. | .typeAssert .. | .move _| .assign _=>true
 | .convert s d _=>!Wy P s&&!Wy P d
 | .call { callee:=.builtin b,.. } =>match b with
  | .len| .cap| .min| .max=>true
  |_=>false
 |_=>false
structure CR where
 fl:Bool
 nd:List Nat
 l:List TI
 cs:CS
 rb:List Nat
 sb:List Nat
def IJ:Op->Bool
 | .select .. =>false
 |_=>true
def Gk (P:Program) (pl:gz) (cs:CS) (m:Bool) (o:Oper):Option CR:=
 match subst pl cs o.op.operands.toList with
 |none=>none
 |some ss=>if !IJ o.op then none else
  match o.dst with
  |some d=>if !pl.nN d then none else
   if apa P o.op then some ⟨true,[],[.rd d o.op o.type ss],cs.bind pl d,[],[]⟩else some ⟨false,[],[.D2 (some d) o.op o.type ss m],cs.bind pl d,[],[]⟩
  |none=>some ⟨false,[],[.D2 none o.op o.type ss m],cs,[],[]⟩
def lp (P:Program) (t:Nat):Option (Bool×Nat):=
 match P.underlying t,P.info? t with
 |some d,some i=>some ((match d with| .struct _| .array _ _=>true|_=>false),i.size)
 |_,_=>none
def Wz (P:Program) (pl:gz) (cs:CS) (sz:Nat) (t:Nat) (e:Ex) (d:Nat):Option CR:=
 match lp P t with
 |some (ag,s)=>if decide (d<pl.n)&&s==sz then some ⟨false,[],[if !ag&&s==1 then .Az d e else .box d sz e],(cs.kill d).mF [d],[],[]⟩else none
 |none=>none
def Ek (P:Program) (pl:gz) (cs:CS) (og:Option (Nat×Bool)) (m:Bool) (o:Oper):Option CR:=
 match o.op with
 | .move x| .assign x=>match o.dst,valOf pl cs x with
  |some d,some e=>if pl.nN d then(let r:=sA pl cs d e;some ⟨true,[],r.1,r.2,[],[]⟩)else none
  |_,_=>none
 | .box t x=>match o.dst with
  |some d=>match look pl.boxes d with
   |some sz=>match valOf pl cs x with
    |some e=>Wz P pl cs sz t e d
    |none=>none
   |none=>Gk P pl cs m o
  |none=>none
 | .alloc t=>match o.dst with
  |some d=>match look pl.boxes d with
   |some sz=>match(P.info? t).bind (·.zero)with
    |some z=>Wz P pl cs sz t (.c z) d
    |none=>none
   |none=>Gk P pl cs m o
  |none=>none
 | .fieldAddr S x f=>match wN pl cs og x with
  |some (b,off,nd)=>match o.dst,fieldInfo P S f with
   |some d,some (fo,sz)=>if pl.Tt.contains d&&decide (d<pl.n)&&(look pl.boxes d).isNone&&sz !=0 then
     some ⟨true,nd,[],(cs.mF nd).tZ d b (off+fo) og,[],[]⟩else none
   |_,_=>none
  |none=>Gk P pl cs m o
 | .load t x=>match wN pl cs og x with
  |some (b,off,nd)=>match o.dst,lp P t,look pl.boxes b with
   |some d,some (ag,sz),some bs=>if pl.nN d&&decide (off+sz<=bs)&&(ag||sz==1)then
     (let r:=sA pl (cs.mF nd) d (if ag then .s b off sz else .k b off);some ⟨true,nd,r.1,r.2,[b],[]⟩)else none
   |_,_,_=>none
  |none=>Gk P pl cs m o
 | .store t x v=>match wN pl cs og x with
  |some (b,off,nd)=>match o.dst,valOf pl cs v,lp P t,look pl.boxes b with
   |none,some e,some (ag,sz),some bs=>if decide (off+sz<=bs)then
     some ⟨false,nd,[if !ag&&sz==1 then .Wu b off e else if off==0&&sz==bs then .fill b sz e else .put b off sz e],(cs.mF nd).M8 b,[],[b]⟩else none
   |_,_,_,_=>none
  |none=>Gk P pl cs m o
 |_=>Gk P pl cs m o
def agC:Op->Bool
 | .fieldAddr .. =>true
 |_=>false
def qJ (g:Nat) (want:Bool) (op:Op) (r:CR):Option CR:=
 match r.fl,r.l with
 |true,[]=>if agC op then some r else none
 |true,[.set d e]=>if d=g then none else some { r with l:=[.Wv g want d e] }
 |true,[.rd d op ty ss]=>if d=g then none else some { r with l:=[.grd g want d op ty ss] }
 |false,[.D2 d op ty ss m]=>if d=some g then none else some { r with l:=[.Ww g want d op ty ss m] }
 |_,_=>none
def BW (P:Program) (pl:gz) (cs:CS) (ops:Array Oper) (m:Bool) (o:Oper):Option CR:=
 match o.guard with
 |none=>Ek P pl cs none m o
 |some (j,want)=>match(ops[j]?).bind (·.dst)with
  |none=>none
  |some gs=>match valOf pl cs (.tmp gs)with
   |some (.t g)=>(Ek P pl cs (some (g,want)) m o).bind (qJ g want o.op)
   |_=>none
def CR.all (r:CR):List TI:=r.nd.map .yS++r.l
def EO (P:Program) (pl:gz) (ops:Array Oper):List Oper->CS->Option (List TI)
 |[],_=>some []
 |o::r,cs=>match BW P pl cs ops true o with
  |some x=>(EO P pl ops r x.cs).map (x.all++ ·)
  |none=>none
def waits (o:Oper) (i:Nat):Bool:=o.after.any λe=>vj .any e&&e.on==i
def ab9 (ops:Array Oper) (bC:Array Bool) (S:List Nat) (j:Nat):Bool:=!bC.getD j true&&match ops[j]? with
 |some o=>o.after.any λe=>vj .any e&&S.contains e.on
 |none=>false
def G1 (ops:Array Oper) (bC:Array Bool) (i:Nat):List Nat:=(dD ops.size).foldl (λS j=>if ab9 ops bC S j then j::S else S) [i]
def apb (ops:Array Oper) (j:Nat):List Nat:=
 (dD (j+1)).reverse.foldl (λS k=>if S.contains k then(match ops[k]? with
  |some o=>o.after.toList.foldl (λS e=>if vj .any e&&!S.contains e.on then e.on::S else S) S
  |none=>S)else S) [j]
def CD (o:Oper):Bool:=match o.op with
 | .extract .. =>true
 | .move .. =>true
 |_=>false
def ldX (pl:gz) (o:Oper):Bool:=match o.op with
 | .load _ (.tmp x)=>(look pl.boxes x).isSome
 |_=>false
def Tu (o:Oper) (rb:List Nat):Bool:=match o.op with
 | .load _ (.tmp x)=>rb.contains x
 |_=>false
def ak4 (o:Oper):Bool:=match o.op with
 | .alloc _=>true
 |_=>false
def qZ (pl:gz) (ops:Array Oper) (j:Nat):Bool:=
 match ops[j]? with
 |some oj=>(match oj.dst with|some d=>pl.mat.contains (1000000+d)|none=>false)||pl.mat.contains (2000000+j)||((dD ops.size).all λi=>i==j||waits oj i||(match ops[i]? with
  |some oi=>waits oi j||CD oi||ldX pl oi||ak4 oi
  |none=>true))||(let B:=apb ops j++G1 ops (cZ ops.size false) j;(dD ops.size).all λi=>B.contains i||(match ops[i]? with
  |some oi=>CD oi||ldX pl oi||ak4 oi
  |none=>true))
 |none=>false
def aeV (pl:gz) (ops:Array Oper):Nat->Operand->Option Nat
 |0,_=>none
 |n+1,.tmp t=>match look pl.boxes t with
  |some _=>some t
  |none=>match ops.find? (λo=>o.dst==some t)with
   |some o=>(match o.op with
    | .fieldAddr _ x _=>aeV pl ops n x
    |_=>none)
   |none=>none
 |_+1,_=>none
def wz (pl:gz) (ops:Array Oper) (o:Oper):List Nat:=match o.op with
 | .store _ x _=>(aeV pl ops 6 x).toList
 |_=>[]
def M9 (pl:gz) (ops:Array Oper) (bC:Array Bool) (i:Nat) (rb:List Nat):Bool:=
 match ops[i]? with
 |none=>false
 |some oi=>(match oi.dst with
   |some d=>(look pl.boxes d).isNone
   |none=>true)&&(dD ops.size).all λj=>j==i||bC.getD j true||match ops[j]? with
   |some oj=>waits oj i||(oi.apart ops oj&&(CD oi||Tu oi rb||!qZ pl ops j)&&(wz pl ops oj).all λb=>!rb.contains b)||(G1 ops bC i).contains j
   |none=>true
def Cd (P:Program) (pl:gz) (ops:Array Oper) (cs:CS) (bC:Array Bool):List Nat->Option (Nat×CR)
 |[]=>none
 |i::r=>match(ops[i]?).bind (BW P pl cs ops (qZ pl ops i))with
  |some x=>if x.fl&&M9 pl ops bC i x.rb then some (i,x)else Cd P pl ops cs bC r
  |none=>Cd P pl ops cs bC r
def IK (P:Program) (pl:gz) (o:Oper):Option (Nat×Nat×Bool×Value):=match o.guard,o.op,o.dst with
 |none,.alloc t,some d=>match look pl.boxes d,(P.info? t).bind (·.zero),lp P t with
  |some sz,some z,some (ag,s)=>if decide (d<pl.n)&&s==sz then some (d,sz,!ag&&s==1,z)else none
  |_,_,_=>none
 |_,_,_=>none
def AA:Nat×Nat×Bool×Value->TI
 |(d,sz,one,z)=>if one then .Az d (.c z)else .box d sz (.c z)
def yi (cs:CS) (d:Nat):CS:=(cs.kill d).mF [d]
def aca (l:List Nat) (i:Nat):Bool:=match l with
 |[x]=>x==i
 |_=>false
def ai5 (P:Program) (pl:gz) (ops:Array Oper) (bC:Array Bool) (i j:Nat):Option (Nat×Nat×Bool×Value):=
 match(ops[i]?).bind (IK P pl),(ops[j]?).bind (IK P pl)with
 |some bi,some bj=>if !(bi.1==bj.1)&&aca (iA .any ops (bC.setIfInBounds i true)) j&&aca (iA .any ops (bC.setIfInBounds j true)) i then some bi else none
 |_,_=>none
def yj (P:Program) (pl:gz) (ops:Array Oper):Nat->Array Bool->CS->Option (List TI)
 |0,bC,_=>if(iA .any ops bC).isEmpty then some [] else none
 |fuel+1,bC,cs=>
  match Cd P pl ops cs bC (iA .any ops bC)with
  |some (i,x)=>(yj P pl ops fuel (bC.setIfInBounds i true) x.cs).map (x.all++ ·)
  |none=>match iA .any ops bC with
   |[i]=>match ops[i]? with
    |some o=>match BW P pl cs ops (qZ pl ops i) o with
     |some x=>if x.sb.all λb=>(wz pl ops o).contains b then(yj P pl ops fuel (bC.setIfInBounds i true) x.cs).map (x.all++ ·)else none
     |none=>none
    |none=>none
   |[i,j]=>match ai5 P pl ops bC i j with
    |some b=>(yj P pl ops fuel (bC.setIfInBounds i true) (yi cs b.1)).map (AA b:: ·)
    |none=>none
   |_=>none
def Sd:List Nat->(Nat->Option T)->Option T
 |[],_=>none
 |i::r,f=>match r with
  |[]=>f i
  |j::r=>match f i,Sd (j::r) f with
   |some a,some b=>some (.alt a b)
   |_,_=>none
def CP (P:Program) (pl:gz) (ops:Array Oper):Nat->Array Bool->CS->Option T
 |0,bC,_=>if(iA .any ops bC).isEmpty then some .skip else none
 |fuel+1,bC,cs=>
  match Cd P pl ops cs bC (iA .any ops bC)with
  |some (i,x)=>(CP P pl ops fuel (bC.setIfInBounds i true) x.cs).map (.seq (.BV x.all) ·)
  |none=>Sd (iA .any ops bC) λi=>match ops[i]? with
   |some o=>match BW P pl cs ops (qZ pl ops i) o with
    |some x=>if x.sb.all λb=>(wz pl ops o).contains b then(CP P pl ops fuel (bC.setIfInBounds i true) x.cs).map (.seq (.BV x.all) ·)else none
    |none=>none
   |none=>none
def TI.KD:TI->List Nat
 | .set d _=>[d]
 | .box b _ _=>[b]
 | .Az b _=>[b]
 | .rd d _ _ _=>[d]
 | .D2 d _ _ _ _=>d.toList
 | .Wv _ _ d _=>[d]
 | .grd _ _ d _ _ _=>[d]
 | .Ww _ _ d _ _ _ _=>d.toList
 |_=>[]
def oR (l:List TI):List Nat:=l.flatMap TI.KD
def TI.wr:TI->List Nat
 | .yS _=>[]
 | .set d _=>[d]
 | .box b _ _=>[b]
 | .put b _ _ _=>[b]
 | .Az b _=>[b]
 | .Wu b _ _=>[b]
 | .fill b _ _=>[b]
 | .rd d _ _ _=>[d]
 | .D2 d _ _ _ _=>d.toList
 | .Wv _ _ d _=>[d]
 | .grd _ _ d _ _ _=>[d]
 | .Ww _ _ d _ _ _ _=>d.toList
def T.wr:T->List Nat
 | .BV l=>l.flatMap TI.wr
 | .seq a b=>a.wr++b.wr
 | .ite _ a b=>a.wr++b.wr
 | .alt a b=>a.wr++b.wr
 | .ga _ a=>a.wr
 | .loop M _ a=>M++a.wr
 |_=>[]
def T.mk:T->List Nat
 | .BV l=>oR l
 | .seq a b=>a.mk++b.mk
 | .ite _ a b=>a.mk++b.mk
 | .alt a b=>a.mk++b.mk
 | .ga _ a=>a.mk
 | .loop _ _ a=>a.mk
 |_=>[]
def ui:List Nat->List Nat->List Nat
 |[],acc=>acc
 |x::r,acc=>ui r (if acc.contains x then acc else x::acc)
def jT (P:Program) (pl:gz):Code->Option T
 | .skip=>some .skip
 | .region _ ops draw=>if draw then(if P.follows .mixedOrders&&wu ops then(match yj P pl ops ops.size (cZ ops.size false) .start with
  |some l=>some (.BV l)
  |none=>CP P pl ops ops.size (cZ ops.size false) .start)else none)else(EO P pl ops ops.toList .start).map .BV
 | .seq a b=>match jT P pl a,jT P pl b with
  |some x,some y=>some (match x,y with
   | .skip,y=>y
   |x,.skip=>x
   |x,y=>.seq x y)
  |_,_=>none
 | .cond c a b=>match valOf pl .start c,jT P pl a,jT P pl b with
  |some e,some x,some y=>some (.ite e x y)
  |_,_,_=>none
 | .block id a=>(jT P pl a).map (.ga id)
 | .loop a=>(jT P pl a).map λx=>.loop (ui x.wr []) ((ui x.wr []).filter (yB pl.car)) x
 | .exit id=>some (.exit id)
 | .ret=>some .ret
 |_=>none
def DB (P:Program) (pl:gz):List ResultVar->Option (List Ex×List Nat)
 |[]=>some ([],[])
 | .tmp t::r=>if pl.jx t then(DB P pl r).map λ(l,n)=>(.t t::l,n)else none
 | .cell a t::r=>match look pl.boxes a,lp P t with
  |some bs,some (ag,sz)=>if decide (sz<=bs)&&(ag||sz==1)then(DB P pl r).map λ(l,n)=>((if ag then .s a 0 sz else .k a 0)::l,a::n)else none
  |_,_=>none
structure FT where
 code:T
 res:List Ex
 live:List Nat
def cF (P:Program) (pl:gz) (fn:Func):Option FT:=
 if fn.ntmps==pl.n then
  match fn.body with
  |some c=>match jT P pl c,DB P pl fn.results.toList with
   |some t,some (r,n)=>some ⟨t,r,n⟩
   |_,_=>none
  |none=>none
 else none
def Se (l:List Ex) (env:Env):Value:=match l with
 |[e]=>e.ev env
 |l=>.tuple (l.map (·.ev env)).toArray
def KE (ft:FT) (R:Ending->World->Prop):lR
 | .normal,e,w,X| .ret,e,w,X=>jq (ft.live.all λb=>cU (e b)) (∀wa,Kp X w wa->R (.returned (Se ft.res e)) wa)
 | .panic ch,_,w,X=> ∀wa,Kp X w wa->R (.panicked ch) wa
 |_,_,_,_=>False
def mG (args:Array Value):Env:=λi=>args.toList.getD i undef
variable {P : Program} {ops : Array Oper} {Q : Exit -> Act -> World -> Prop} {a a' : Act} {o oi oj : Oper} {sb sb' : List Nat} {pl : gz} {K : Act -> World -> Prop} {i j : Nat} {L : Prop} {bC : Array Bool}
def dE (k off:Nat):Value:=.pointer (some ⟨k,off,none⟩)
def ZB (pl:gz) (RB:List Nat) (a:Act):XS:=λk=> ∃b n,look pl.boxes b=some n/\ ¬b∈RB/\a.tmps[b]? =some (dE k 0)
def YF (P:Program) (pl:gz) (RB:List Nat) (ops:Array Oper) (o:Oper) (v:Value) (a:Act) (w:World):Prop:=
 (bU o (yielded ops a.tmps)=true/\ ∀wa,Fr (ZB pl RB a) w wa->(execOp a.eval o).run P wa= .ok (.value v) wa)\/(bU o (yielded ops a.tmps)=false/\v=undef)
def rP (pl:gz) (sb:List Nat) (a:Act) (w:World) (a':Act) (w':World):Prop:=
 ∀RB,(∀b,b∈sb-> ¬b∈RB)->Fr (ZB pl RB a) w w'/\ ∀k,k<w.heap.size->ZB pl RB a' k->ZB pl RB a k
theorem YF.rel {RB:List Nat} {v:Value} (h:YF P pl RB ops o v a w) (hx:rP pl sb a w a' w') (hd: ∀b,b∈sb-> ¬b∈RB)
  (he:execOp a'.eval o=execOp a.eval o) (hw:bU o (yielded ops a'.tmps)=bU o (yielded ops a.tmps)):YF P pl RB ops o v a' w':=by
 obtain⟨h1,h2⟩:=hx RB hd;unfold YF at*;rw[he,hw];refine h.imp (λ⟨g1,g2⟩=>⟨g1,λwa ha=>g2 wa ?_⟩) id;exact⟨ha.os.trans h1.os,ha.tape.trans h1.tape,ha.output.trans h1.output,ad h1.size ha.size,
  λk hk hz=>(ha.block k (av hk h1.size) (λxt=>hz (h2 k hk xt))).trans (h1.block k hk hz)⟩
def zL (pl:gz) (sb:List Nat) (a:Act) (w w':World):Prop:=
 ∀b n k,look pl.boxes b=some n-> ¬b∈sb->a.tmps[b]? =some (dE k 0)->w'.heap[k]? =w.heap[k]?
def zM (L:Prop) (pl:gz) (sb:List Nat) (a:Act) (w:World) (a':Act) (w':World):Prop:=(L->rP pl sb a w a' w')/\zL pl sb a w w'
def Yx (P:Program) (ops:Array Oper) (o:Oper) (v:Value) (a:Act) (w:World):Prop:=
 (bU o (yielded ops a.tmps)=true/\(execOp a.eval o).run P w= .ok (.value v) w)\/(bU o (yielded ops a.tmps)=false/\v=undef)
def YL (P:Program) (pl:gz) (x:Nat) (ops:Array Oper) (o:Oper) (v:Value) (a:Act) (w:World):Prop:=
 (bU o (yielded ops a.tmps)=true/\ ∃k n,look pl.boxes x=some n/\a.tmps[x]? =some (dE k 0)/\ ∀wa:World,wa.heap[k]? =w.heap[k]? ->(execOp a.eval o).run P wa= .ok (.value v) wa)\/
  (bU o (yielded ops a.tmps)=false/\v=undef)
theorem YF.yx {RB:List Nat} {v:Value} (h:YF P pl RB ops o v a w):Yx P ops o v a w:=h.imp (λ⟨g1,g2⟩=>⟨g1,g2 w (Fr.refl _ w)⟩) id
theorem YL.yx {x:Nat} {v:Value} (h:YL P pl x ops o v a w):Yx P ops o v a w:=h.imp (λ⟨g1,_,_,_,_,g2⟩=>⟨g1,g2 w rfl⟩) id
def WB (pl:gz) (ops:Array Oper) (oi oj:Oper) (L:Prop) (sb:List Nat) (Y:Act->World->Prop):Prop:=
 ∀a a' w w',zM L pl sb a w a' w'->execOp a'.eval oi=execOp a.eval oi->bU oi (yielded ops a'.tmps)=bU oi (yielded ops a.tmps)->
  (∀x:Nat,(∀d,oj.dst=some d->d≠x)->a'.tmps[x]? =a.tmps[x]?)->Y a w->Y a' w'
theorem zL.refl (pl:gz) (sb:List Nat) (a:Act) (w:World):zL pl sb a w w:=λ_ _ _ _ _ _=>rfl
theorem zL.WC {d:Option Nat} {v:Value} (hd: ∀x,d=some x->look pl.boxes x=none) (h:zL pl sb (a.put d v) w w'):zL pl sb a w w':=by
 intro b n k hb hn hk;refine h b n k hb hn ?_;cases d with
 |none=>exact hk
 |some x=>
  have cj:x≠b:=λe=>by grind
  simpa [nM,lF cj] using hk
theorem zL.sub (h:zL pl sb a w w') (hs: ∀b,b∈sb->b∈sb'):zL pl sb' a w w':=
 λb n k hb hn hk=>h b n k hb (λhm=>hn (hs b hm)) hk
theorem Yx.wpOp {v:Value} (hi:ops[i]? =some o) (hy:Yx P ops o v a w)
 (h:K (a.put o.dst v) w):wpOp P ops Q i K a w:=by
  unfold Go.wpOp;simp only[hi];rcases hy with⟨hw,hv⟩|⟨hw,rfl⟩
  · simp only[hw,if_true,kC,hv,oE];exact .inl h
  grind
theorem WD {RB:List Nat} {d:Option Nat} {v:Value} (hd: ∀x,d=some x->look pl.boxes x=none):ZB pl RB (a.put d v)=ZB pl RB a:=by
 cases d with
 |none=>rfl
 |some x=>
  have hx:=hd x rfl
  funext k
  simp only[ZB,eq_iff_iff];have key: ∀b n,look pl.boxes b=some n->(a.put (some x) v).tmps[b]? =a.tmps[b]? :=λb n hb=>by
   have cj:x≠b:=λe=>by grind
   simp[nM,lF cj]
  constructor<;>rintro⟨b,n,h1,h2,h3⟩<;>refine⟨b,n,h1,h2,?_⟩
  ·grind
  grind
theorem rP.WC {d:Option Nat} {v:Value} (hd: ∀x,d=some x->look pl.boxes x=none) (h:rP pl sb (a.put d v) w (a'.put d v) w'):rP pl sb a w a' w':=by
 intro RB KF;have:=h RB KF
 rwa [WD hd,WD hd] at this
theorem rP.refl (pl:gz) (sb:List Nat) (a:Act) (w:World) (d:Option Nat) (v:Value) (hd: ∀x,d=some x->look pl.boxes x=none):rP pl sb a w (a.put d v) w:=by
 intro RB _;rw[WD hd]
 grind [Fr.refl]
theorem aeW (hp:CD o=true) {ρ:Operand->Value} {v:Value} {wa:World} (h:(execOp ρ o).run P w= .ok (.value v) w):(execOp ρ o).run P wa= .ok (.value v) wa:=by
 unfold CD at hp;split at hp
 ·rename_i x i ho;simp only[execOp,ho] at h⊢;unfold gx at h⊢;split at h<;>simp_all
  all_goals (split at h<;>simp_all)
 ·rename_i x ho;simp only[execOp,ho] at h⊢;simp_all
 ·cases hp
theorem YF.pure {RB:List Nat} {v:Value} (h:YF P pl RB ops o v a w) (hp:CD o=true)
  (he:execOp a'.eval o=execOp a.eval o) (hw:bU o (yielded ops a'.tmps)=bU o (yielded ops a.tmps)):YF P pl RB ops o v a' w':=by
 unfold YF at*;rw[he,hw];exact h.imp (λ⟨g1,g2⟩=>⟨g1,λwa _=>aeW hp (g2 w (Fr.refl _ _))⟩) id
def vP (P:Program) (pl:gz) (ops:Array Oper) (Q:Exit->Act->World->Prop):Nat->Array Bool->Act->World->Prop
 |0,bC,a,w=>iA .any ops bC=[]/\Q .normal a w
 |fuel+1,bC,a,w=>
  (iA .any ops bC=[]->Q .normal a w)/\
  ∀i∈iA .any ops bC,wpOp P ops Q i (λa' w'=>(∀o,ops[i]? =some o->zM (qZ pl ops i=false) pl (wz pl ops o) a w a' w')/\vP P pl ops Q fuel (bC.setIfInBounds i true) a' w') a w
theorem P5: ∀(fuel:Nat) (bC:Array Bool) (a:Act) (w:World),vP P pl ops Q fuel bC a w->wpAny P .any ops Q fuel bC a w
 |0,_,_,_,h=>h
 |fuel+1,_,_,_,h=>⟨h.1,λi hi=>wpOp_mono (λa' w' h'=>P5 fuel _ a' w' h'.2) (h.2 i hi)⟩
theorem YF.stb {RB:List Nat} {v:Value} (hL:L\/CD oi=true) (hd: ∀b,b∈sb-> ¬b∈RB):WB pl ops oi oj L sb (YF P pl RB ops oi v):=by
 intro a a' w w' hr e2 e3 _ hy;rcases hL with hl|hp
 ·exact hy.rel (hr.1 hl) hd e2 e3
 ·exact hy.pure hp e2 e3
theorem YL.stb {x:Nat} {v:Value} (hx: ∀d,oj.dst=some d->d≠x) (hd: ¬x∈sb):WB pl ops oi oj L sb (YL P pl x ops oi v):=by
 intro a a' w w' hr e2 e3 e4 hy;unfold YL at*;rw[e2,e3,e4 x hx];exact hy.imp (λ⟨g1,k,n,g2,g3,g4⟩=>⟨g1,k,n,g2,g3,λwa hw=>g4 wa (hw.trans (hr.2 x n k g2 hd g3))⟩) id
theorem aeX {Y:Act->World->Prop} {v:Value} (hj:ops[j]? =some oj) (KG:oi.apart ops oj=true)
  (hsi: ∀cs b,oi.op≠ .select cs b) (hsj: ∀cs b,oj.op≠ .select cs b) (hdi: ∀x,oi.dst=some x->look pl.boxes x=none) (fE:WB pl ops oi oj L sb Y)
  (hQ: ∀c a w,Q (.panic c) (a.put oi.dst v) w->Q (.panic c) a w)
  (hy:Y a w) (h:wpOp P ops Q j (λa' w'=>zM L pl sb (a.put oi.dst v) w a' w'/\K a' w') (a.put oi.dst v) w):
  wpOp P ops Q j (λa' w'=>zM L pl sb a w a' w'/\Y a' w'/\K (a'.put oi.dst v) w') a w:=by
 obtain⟨h1,h2,h3⟩:=wy KG;have fin: ∀(a0:Act) (w':World) (u:Value),a0.tmps=a.tmps->zM L pl sb (a.put oi.dst v) w ((a0.put oi.dst v).put oj.dst u) w'->K ((a0.put oi.dst v).put oj.dst u) w'->
   zM L pl sb a w (a0.put oj.dst u) w'/\Y (a0.put oj.dst u) w'/\K ((a0.put oj.dst u).put oi.dst v) w':=by
  intro a0 w' u h0 hr hk;rw[Act.put_comm a0 v u h2] at hr hk;have jZ:zM L pl sb a w (a0.put oj.dst u) w':=⟨λhl:L=>(hr.1 hl).WC hdi,hr.2.WC hdi⟩;have e1:execOp a0.eval oi=execOp a.eval oi:=by
   have:a0.eval=a.eval:=by funext x;cases x<;>simp[lj,h0]
   rw[this]
  have e2:=(execOp_put oi hsi a0 oj.dst u h3).trans e1;have e3:bU oi (yielded ops (a0.put oj.dst u).tmps)=bU oi (yielded ops a.tmps):=(wanted_put oi a0 oj.dst u h3).trans (by rw[h0]);refine⟨jZ,fE a _ w w' jZ e2 e3 (λx hx=>?_) hy,hk⟩;cases hod:oj.dst with
  |none=>simp[nM,h0]
  |some d=>simp[nM,h0,lF (hx d hod)]
 unfold wpOp at*;simp only[hj] at*;rw[wanted_put oj a oi.dst v h1] at h;split
 ·rename_i hw;simp only[hw,if_true] at h;rcases h with h|⟨anP,anQ⟩;case inr=>exact .inr ⟨by unfold Oper.asks at*;rw[execOp_put oj hsj a oi.dst v h1] at anP;omega,anQ⟩
  refine .inl ?_;unfold kC at*;rw[execOp_put oj hsj a oi.dst v h1] at h;generalize (execOp a.eval oj).run P w=r at*;cases r with
  |ok n w'=>
   cases n<;>simp only[oE] at h⊢
   case value u=>exact fin a w' u rfl h.1 h.2
   case skip=>exact fin a w' undef rfl h.1 h.2
   case defer d=>
    have e:({ a.put oi.dst v with defers:=d::(a.put oi.dst v).defers } :Act)=({ a with defers:=d::a.defers } :Act).put oi.dst v:=Act.put_defers a oi.dst v d;rw[e] at h;exact fin { a with defers:=d::a.defers } w' undef rfl h.1 h.2
   case enter f args=>
    refine Calls.mono h λe lC he=>?_;cases e with
    |returned u=>exact fin a lC u rfl he.1 he.2
    |panicked c=>exact hQ _ _ _ he
    |outgrown=>exact he
   case row row args=>exact Rows.mono h λu lC he=>fin a lC u rfl he.1 he.2
  |halt x w'=>
   cases x<;>simp only[oE] at h⊢
   case panic u=>exact hQ _ _ _ h
 ·rename_i hw;simp only[hw] at h;exact fin a w undef rfl h.1 h.2
theorem Tv:waits o i=true↔ ∃e∈o.after,vj .any e=true/\e.on=i:=by
 unfold waits;rw[yA];simp
theorem Tw: ∀j,j∈G1 ops bC i->j=i\/(bC.getD j true=false/\ ∃oj k,ops[j]? =some oj/\waits oj k=true/\k∈G1 ops bC i):=by
 unfold G1;have key: ∀(l:List Nat) (S:List Nat),(∀j,j∈S->j=i\/(bC.getD j true=false/\ ∃oj k,ops[j]? =some oj/\waits oj k=true/\k∈S))->
   ∀j,j∈l.foldl (λS j=>if ab9 ops bC S j then j::S else S) S->j=i\/(bC.getD j true=false/\ ∃oj k,ops[j]? =some oj/\waits oj k=true/\k∈l.foldl (λS j=>if ab9 ops bC S j then j::S else S) S):=by
  intro l
  induction l with
  |nil=>intro S hS j hj;exact hS j hj
  |cons x l ih=>
   intro S hS;rw[List.foldl_cons];refine ih _ ?_;split
   ·rename_i hc;simp only[ab9,aD,cB] at hc;obtain⟨h1,h2⟩:=hc;intro j hj;rcases List.mem_cons.1 hj with rfl|hj
    ·right;cases ho:ops[j]? with
     |none=>simp[ho] at h2
     |some o=>
      simp only[ho,yA,aD,wJ] at h2;obtain⟨e,he,hb,hm⟩:=h2;exact⟨h1,o,e.on,rfl,Tv.2 ⟨e,he,hb,rfl⟩,bQ _ hm⟩
    ·rcases hS j hj with h|⟨h,oj,k,h3,h4,h5⟩
     ·omega
     ·exact .inr ⟨h,oj,k,h3,h4,bQ _ h5⟩
   omega
 exact key _ _ λj hj=>.inl (by simpa using hj)
theorem KH {Y:Act->World->Prop} {v:Value} (P6: ∀a w,Y a w->Yx P ops oi v a w) (hi:ops[i]? =some oi) (DC: ∀(j:Nat) (o:Oper) cs b,ops[j]? =some o->o.op≠ .select cs b)
  (hdi: ∀x,oi.dst=some x->look pl.boxes x=none) (hQ: ∀c a w,Q (.panic c) (a.put oi.dst v) w->Q (.panic c) a w):
  ∀(fuel:Nat) (bC:Array Bool) (a:Act) (w:World) (S:Nat->Prop),S i->
   (∀j,S j->j=i\/(bC.getD j true=false/\ ∃oj k,ops[j]? =some oj/\waits oj k=true/\S k))->
   (∀j oj,ops[j]? =some oj->j≠i->bC.getD j true=false-> ¬S j->oi.apart ops oj=true/\WB pl ops oi oj (qZ pl ops j=false) (wz pl ops oj) Y)->
   i∈iA .any ops bC->Y a w->
   vP P pl ops Q fuel (bC.setIfInBounds i true) (a.put oi.dst v) w->vP P pl ops Q (fuel+1) bC a w:=by
 intro fuel
 induction fuel with
 |zero=>
  intro bC a w S _ hS _ hr hy H;refine⟨λh=>(by rw[h] at hr;cases hr),λj hj=>?_⟩;by_cases KI:j=i
  ·subst KI;exact(P6 _ _ hy).wpOp hi ⟨λ_ _=>⟨λ_=>rP.refl pl _ a w _ _ hdi,zL.refl _ _ _ _⟩,H⟩
  ·have:=ready_mono hj KI;rw[H.1] at this;cases this
 |succ fuel ih=>
  intro bC a w S hSi hS ai6 hr hy H;refine⟨λh=>(by rw[h] at hr;cases hr),λj hj=>?_⟩;by_cases KI:j=i
  ·subst KI;exact(P6 _ _ hy).wpOp hi ⟨λ_ _=>⟨λ_=>rP.refl pl _ a w _ _ hdi,zL.refl _ _ _ _⟩,H⟩
  ·have h1:=H.2 j (ready_mono hj KI);obtain⟨apc,oj,EP,acb⟩:=mem_ready.1 hj;have ak5: ¬S j:=by
    intro hjS;rcases hS j hjS with h|⟨_,oj',k,ak6,hwt,hkS⟩
    ·omega
    ·rw[EP] at ak6;cases ak6;obtain⟨e,he,hb,heq⟩:=Tv.1 hwt;have h1:=acb e he hb;rw[heq] at h1;have h0:bC.getD k true=false:=by
      rcases hS k hkS with h|h
      ·subst h;exact(mem_ready.1 hr).1
      ·exact h.1
     rcases Nat.lt_or_ge k bC.size with h'|h'
     ·simp[h'] at h0 h1;rw[h0] at h1;cases h1
     ·simp[qu h'] at h1
   obtain⟨KG,apd⟩:=ai6 j oj EP KI apc ak5;have KJ:=wpOp_mono (K':=λa' w'=>zM (qZ pl ops j=false) pl (wz pl ops oj) (a.put oi.dst v) w a' w'/\vP P pl ops Q fuel ((bC.setIfInBounds i true).setIfInBounds j true) a' w')
    (λa' w' h'=>⟨h'.1 oj EP,h'.2⟩) h1
   have h2:=aeX EP KG (λcs b=>DC i oi cs b hi) (λcs b=>DC j oj cs b EP) hdi apd hQ hy KJ;have ak7: ∀k ok,ops[k]? =some ok->k≠i->(bC.setIfInBounds j true).getD k true=false-> ¬S k->
     oi.apart ops ok=true/\WB pl ops oi ok (qZ pl ops k=false) (wz pl ops ok) Y:=λk ok hk hki HJ kO=>by
    refine ai6 k ok hk hki ?_ kO;by_cases KK:j=k
    ·subst KK;omega
    ·rw[getD_set_ne true KK] at HJ;omega
   have hS': ∀k,S k->k=i\/((bC.setIfInBounds j true).getD k true=false/\ ∃oj k',ops[k]? =some oj/\waits oj k'=true/\S k'):=λk hk=>by
    rcases hS k hk with h|⟨h,h2⟩
    ·omega
    ·exact .inr ⟨by rw[getD_set_ne true (λe=>ak5 (by rw[e];exact hk))];exact h,h2⟩
   refine wpOp_mono (λa' w' h3=>⟨λo ho=>?_,ih (bC.setIfInBounds j true) a' w' S hSi hS' ak7 (ready_mono hr (Ne.symm KI)) h3.2.1 ?_⟩) h2
   ·rw[EP] at ho;injection ho with ho;subst ho;exact h3.1
   rw[ug _ _ KI];exact h3.2.2
theorem Tx {RB:List Nat} (hi:ops[i]? =some oi) (h:M9 pl ops bC i RB=true): ∀x,oi.dst=some x->look pl.boxes x=none:=by
 simp only[M9,hi,aD] at h;intro x hx;have:=h.1;rw[hx] at this;simpa using this
theorem P7 {RB:List Nat} (hi:ops[i]? =some oi) (h:M9 pl ops bC i RB=true) (j:Nat) (oj:Oper)
  (hj:ops[j]? =some oj) (cj:j≠i) (HJ:bC.getD j true=false) (kO: ¬j∈G1 ops bC i) (hnw:waits oj i=false):
  oi.apart ops oj=true/\(qZ pl ops j=false\/CD oi=true\/Tu oi RB=true)/\ ∀b,b∈wz pl ops oj-> ¬b∈RB:=by
 simp only[M9,hi,aD,j9,List.mem_range] at h;have h1:=h.2 j (Array.getElem?_eq_some_iff.1 hj).1;simp only[hj,oP,beq_iff_eq,cj,false_or,HJ,aY,hnw,aD,cB,j9,wJ,kO,or_false] at h1;exact⟨h1.1.1,h1.1.2.elim (λh=>.inr h) .inl,λb hb=>by have:=h1.2 b hb;simpa using this⟩
def D3 (env:Env):Option (Nat×Bool)->Prop
 |none=>True
 |some (g,want)=>oM (env g) want=true
structure Bk where
 ds:List Deferred
 pins:List (Nat×Value)
structure fw (pl:gz) (ds:Bk) (cs:CS) (env:Env) (X:XS) (w0:World) (a:Act) (w:World):Prop where
 size:a.tmps.size=pl.n
 defers:a.defers=ds.ds
 Ah: ∀p,p∈ds.pins->a.tmps[p.1]? =some p.2/\((∃n k,look pl.boxes p.1=some n/\p.2=dE k 0)\/pl.jx p.1=true)
 ext:Kp X w0 w
 wO: ∀k,X k->k<w.heap.size
 qv: ∀s,pl.jx s=true->a.tmps[s]? =some (env s)
 sig: ∀p,p∈cs.sig->a.tmps[p.1]? =some (p.2.ev env)
 box: ∀b n,look pl.boxes b=some n-> ∀cells,env b= .agg cells-> ∃k ty,a.tmps[b]? =some (dE k 0)/\w.heap[k]? =some (.cells cells ty (0,0))/\cells.size=n/\ ¬X k
 inj: ∀b b' n n',look pl.boxes b=some n->look pl.boxes b'=some n'->cU (env b)=true->cU (env b')=true-> ∀k,a.tmps[b]? =some (dE k 0)->a.tmps[b']? =some (dE k 0)->b=b'
 conv: ∀b n,look pl.boxes b=some n-> ∀k,a.tmps[b]? =some (dE k 0)->cU (env b)=true
 live: ∀b,b∈cs.live->(∃n,look pl.boxes b=some n)/\cU (env b)=true
 ptr: ∀p,p∈cs.zK->(∃n,look pl.boxes p.b=some n)/\(D3 env p.g->cU (env p.b)=true/\ ∃k,a.tmps[p.b]? =some (dE k 0)/\a.tmps[p.s]? =some (dE k p.off))
theorem rL (a:Act) (d:Nat) (v:Value) (s:Nat) (hd:d<a.tmps.size):(a.put (some d) v).tmps[s]? =if s=d then some v else a.tmps[s]? :=by
 simp only[nM,dR]
 grind
theorem fX (a:Act) (d:Nat) (v:Value) (s:Nat) (h:s≠d):(a.put (some d) v).tmps[s]? =a.tmps[s]? :=by
 simp only[nM,dR]
 grind
theorem mS (e:Env) (d:Nat) (v:Value):jY e d v d=v:=by simp[jY]
variable {d : Nat}
theorem iO (e:Env) (v:Value) (h:s≠d):jY e d v s=e s:=by grind [jY]
variable {e : Ex}
theorem WE (h:e.Wq d=false) (env:Env) (v:Value):e.ev (jY env d v)=e.ev env:=by
 cases e<;>simp only[Ex.Wq,beq_eq_false_iff_ne,ne_eq] at h<;>simp[Ex.ev,iO,h]
theorem uj {v:Value} :cU v=true↔ ∃c,v= .agg c:=by
 cases v<;>simp[cU]
variable {ds : Bk} {cs : CS} {env : Env} {w0 dZ : World} {n off t : Nat} {ss : List (Nat × Ex)} {X' : XS} {nd : List Nat} {xu : Array Value} {ty : TypeId}
theorem rC (h:pl.jx s=true):s<pl.n/\look pl.boxes s=none/\pl.Tt.contains s=false:=by
 simp only[gz.jx,aD,decide_eq_true_eq,iH,cB] at h
 grind
theorem zC (h:pl.nN s=true):s<pl.n/\look pl.boxes s=none/\pl.Tt.contains s=false:=by
 simp only[gz.nN,aD,decide_eq_true_eq,iH,cB] at h
 grind
theorem Ce {α:Type} {l:List (Nat×α)} {e:α} (h:look l t=some e):(t,e)∈l:=by
 induction l with
 |nil=>cases h
 |cons p r ih=>
  grind [look]
theorem fw.eval (h:fw pl ds cs env X w0 a w) {x:Operand} (hv:valOf pl cs x=some e):a.eval x=e.ev env:=by
 cases x with
 |tmp t=>
  simp only[valOf] at hv;split at hv
  ·rename_i hg;injection hv with hv
   subst hv;simp[lj,h.qv t hg,Ex.ev]
  ·have:=h.sig _ (Ce hv);simp only at this;simp[lj,this]
 |const v=>simp only[valOf,ah] at hv;subst hv;rfl
 |global g=>simp only[valOf,ah] at hv;subst hv;rfl
 |func f=>simp only[valOf,ah] at hv;subst hv;rfl
theorem AB: ∀{l:List Operand} {ss:List (Nat×Ex)},subst pl cs l=some ss->
  (∀t e,look ss t=some e->valOf pl cs (.tmp t)=some e)/\(∀t,.tmp t∈l->look ss t=none->valOf pl cs (.tmp t)=some (.t t))
 |[],ss,h=>by
  simp only[subst,ah] at h;subst h;exact⟨λt e h=>(by cases h),λt h=>(by cases h)⟩
 |x::r,ss,h=>by
  cases x with
  |tmp t=>
   simp only[subst] at h;cases hv:valOf pl cs (.tmp t)with
   |none=>simp[hv] at h
   |some e=>
    cases hr:subst pl cs r with
    |none=>simp[hv,hr] at h
    |some ss'=>
     obtain⟨i1,i2⟩:=AB hr;simp only[hv,hr,ah] at h;have gen: ∀e',e=e'->ss=(t,e')::ss'->(∀u e,look ss u=some e->valOf pl cs (.tmp u)=some e)/\(∀u,.tmp u∈(.tmp t::r)->look ss u=none->valOf pl cs (.tmp u)=some (.t u)):=by
      intro e' he hs;subst hs;refine⟨λu e2 hu=>?_,λu hu hn=>?_⟩
      ·simp only[look] at hu;split at hu
       ·rename_i htu;injection hu with hu
        subst htu hu;rw[hv,he]
       ·exact i1 _ _ hu
      ·simp only[look] at hn;split at hn
       ·cases hn
       ·rename_i htu;rcases List.mem_cons.1 hu with h1|h1
        ·injection h1 with h1;exact absurd h1.symm htu
        ·exact i2 u h1 hn
     cases e with
     |t n=>
      simp only at h;split at h
      ·rename_i hnt;subst hnt h;refine⟨i1,λu hu hn=>?_⟩;rcases List.mem_cons.1 hu with h1|h1
       ·injection h1 with h1;subst h1;exact hv
       ·exact i2 u h1 hn
      ·exact gen _ rfl h.symm
     |c v=>exact gen _ rfl h.symm
     |s b o n=>exact gen _ rfl h.symm
     |k b o=>exact gen _ rfl h.symm
  |const v=>
   obtain⟨i1,i2⟩:=AB (l:=r) (by simpa only [subst] using h);exact⟨i1,λu hu hn=>(List.mem_cons.1 hu).elim (λh1=>by cases h1) λh1=>i2 u h1 hn⟩
  |global v=>
   obtain⟨i1,i2⟩:=AB (l:=r) (by simpa only [subst] using h);exact⟨i1,λu hu hn=>(List.mem_cons.1 hu).elim (λh1=>by cases h1) λh1=>i2 u h1 hn⟩
  |func v=>
   obtain⟨i1,i2⟩:=AB (l:=r) (by simpa only [subst] using h);exact⟨i1,λu hu hn=>(List.mem_cons.1 hu).elim (λh1=>by cases h1) λh1=>i2 u h1 hn⟩
theorem fw.Gi (h:fw pl ds cs env X w0 a w) {l:List Operand} (hs:subst pl cs l=some ss):
  ∀x,x∈l->a.eval x=aG.Gi env ss x:=by
 obtain⟨i1,i2⟩:=AB hs;intro x hx;cases x with
 |tmp t=>
  simp only[aG.Gi];cases hl:look ss t with
  |some e=>exact h.eval (i1 t e hl)
  |none=>exact h.eval (i2 t hx hl)
 |const v=>rfl
 |global g=>rfl
 |func f=>rfl
theorem acd {op:Op} (h:IJ op=true): ∀cs b,op≠ .select cs b:=by
 intro cs b e;subst e;cases h
theorem fw.exec (h:fw pl ds cs env X w0 a w) (hs:subst pl cs o.op.operands.toList=some ss) (hn:IJ o.op=true):
  execOp a.eval o=execOp (aG.Gi env ss) (Ws o.op o.type):=by
 rw[execOp_congr o (acd hn) λx hx=>h.Gi hs x gQ];rfl
theorem fw.step (h:fw pl ds cs env X w0 a w) (hx:Kp X' dZ w') (hX: ∀k,X' k->k<w'.heap.size)
  (hb: ∀k,k<w.heap.size-> ¬X k->w'.heap[k]? =w.heap[k]? /\ ¬X' k):fw pl ds cs env X' dZ a w' where
 size:=h.size
 defers:=h.defers
 Ah:=h.Ah
 ext:=hx
 wO:=hX
 qv:=h.qv
 sig:=h.sig
 box:=λb n hn cells hc=>by
  obtain⟨k,ty,h1,h2,h3,h4⟩:=h.box b n hn cells hc;obtain⟨e1,e2⟩:=hb k (Array.getElem?_eq_some_iff.1 h2).1 h4;exact⟨k,ty,h1,e1.trans h2,h3,e2⟩
 inj:=h.inj
 conv:=h.conv
 live:=h.live
 ptr:=h.ptr
theorem fw.jC (h:fw pl ds cs env X w0 a w) (hx:Ext w w'):fw pl ds cs env X w0 a w':=
 h.step (h.ext.trans (hx.kp h.wO)) (λk hk=>av (h.wO k hk) hx.size) λ_ hk hX=>⟨hx.block hk,hX⟩
theorem fw.Na (h:fw pl ds cs env X w0 a w) {m:Bool} (hs:Step m X w w'):fw pl ds cs env (grow X w w') w' a w':=
 h.step (Kp.refl _ _) (λk hk=>hk.elim (λhX=>av (h.wO k hX) hs.fr.size) (·.2))
  λk hk hX=>⟨hs.fr.block k hk hX,λhg=>hg.elim hX λhg=>by omega⟩
theorem um (hs:look pl.boxes s=some n) (hd:look pl.boxes d=none):s≠d:=by grind
theorem fw.bind (h:fw pl ds cs env X w0 a w) (hd:pl.nN d=true) (v:Value) (rD: ∀p,p∈ds.pins->p.1≠d):
  fw pl ds (cs.bind pl d) (jY env d v) X w0 (a.put (some d) v) w:=by
 obtain⟨cC,l8,tc⟩:=zC hd;have gd:d<a.tmps.size:=by rw[h.size];exact cC
 have ai7: ∀p,p∈(cs.kill d).sig->(a.put (some d) v).tmps[p.1]? =some (p.2.ev (jY env d v)):=by
  intro p hp;simp only[CS.kill,iy,aD,bne_iff_ne,ne_eq,cB] at hp;rw[fX _ _ _ _ hp.2.1,WE hp.2.2];exact h.sig p hp.1
 have ak8: ∀p,p∈(cs.kill d).zK->(∃n,look pl.boxes p.b=some n)/\(D3 (jY env d v) p.g->cU (jY env d v p.b)=true/\ ∃k,(a.put (some d) v).tmps[p.b]? =some (dE k 0)/\(a.put (some d) v).tmps[p.s]? =some (dE k p.off)):=by
  intro p hp;simp only[CS.kill,iy,aD,bne_iff_ne,ne_eq] at hp;obtain⟨hp0,⟨hb,hs⟩,hg⟩:=hp;obtain⟨e1,e2⟩:=h.ptr p hp0;refine⟨e1,λWG=>?_⟩;have ape:D3 env p.g:=by
   cases P8:p.g with
   |none=>trivial
   |some x=>
    obtain⟨g,want⟩:=x;rw[P8] at WG hg;simp only[D3] at WG⊢
    rwa [iO _ _ gQ] at WG
  obtain⟨e3,k,e4,e5⟩:=e2 ape;rw[iO _ _ hb,fX _ _ _ _ hb,fX _ _ _ _ hs];exact⟨e3,k,e4,e5⟩
 have agD: ∀p,p∈(cs.bind pl d).sig->(a.put (some d) v).tmps[p.1]? =some (p.2.ev (jY env d v)):=by
  intro p hp;simp only[CS.bind] at hp;split at hp
  ·exact ai7 p hp
  ·rcases List.mem_cons.1 hp with rfl|hp
   ·simp[rL _ _ _ _ gd,Ex.ev,mS]
   ·exact ai7 p hp
 have hpt:(cs.bind pl d).zK=(cs.kill d).zK:=by simp only[CS.bind];split<;>rfl
 have hlv:(cs.bind pl d).live=cs.live:=by simp only[CS.bind];split<;>rfl
 exact {
  size:=by simp[nM,h.size]
  defers:=h.defers
  Ah:=λp hp=>⟨by rw[fX _ _ _ _ (rD p hp)];exact(h.Ah p hp).1,(h.Ah p hp).2⟩
  ext:=h.ext
  wO:=h.wO
  qv:=λs hs=>by
   rw[rL _ _ _ _ gd];split
   ·rename_i e;subst e;rw[mS]
   ·rename_i e;rw[iO _ _ e];exact h.qv s hs
  sig:=agD
  box:=λb n hn cells hc=>by
   have qd:=um hn l8;rw[iO _ _ qd] at hc;rw[fX _ _ _ _ qd];exact h.box b n hn cells hc
  inj:=λb b' n n' hb dU h1 h2 k h3 h4=>by
   have qd:=um hb l8;have KL:=um dU l8;rw[iO _ _ qd] at h1;rw[iO _ _ KL] at h2;rw[fX _ _ _ _ qd] at h3;rw[fX _ _ _ _ KL] at h4;exact h.inj b b' n n' hb dU h1 h2 k h3 h4
  conv:=λb n hb k hk=>by
   have qd:=um hb l8;rw[fX _ _ _ _ qd] at hk;rw[iO _ _ qd];exact h.conv b n hb k hk
  live:=λb hb=>by
   rw[hlv] at hb;obtain⟨⟨n,hn⟩,hl⟩:=h.live b hb;rw[iO _ _ (um hn l8)];exact⟨⟨n,hn⟩,hl⟩
  ptr:=by rw[hpt];omega }
theorem fw.mF (h:fw pl ds cs env X w0 a w) (hn: ∀b,b∈nd->(∃n,look pl.boxes b=some n)/\cU (env b)=true):
  fw pl ds (cs.mF nd) env X w0 a w:=
 { h with live:=λb hb=>(List.mem_append.1 hb).elim (hn b) (h.live b) }
theorem fw.other (h:fw pl ds cs env X w0 a w) (cC:d<pl.n) (l8:look pl.boxes d=none) (P9:pl.jx d=false) (v:Value) {qe:CS}
  (agD: ∀p,p∈qe.sig->(a.put (some d) v).tmps[p.1]? =some (p.2.ev env)) (hlv:qe.live=cs.live)
  (ak8: ∀p,p∈qe.zK->(∃n,look pl.boxes p.b=some n)/\(D3 env p.g->cU (env p.b)=true/\ ∃k,(a.put (some d) v).tmps[p.b]? =some (dE k 0)/\(a.put (some d) v).tmps[p.s]? =some (dE k p.off))):
  fw pl ds qe env X w0 (a.put (some d) v) w where
 size:=by simp[nM,h.size]
 defers:=h.defers
 Ah:=λp hp=>by
  obtain⟨h1,h2⟩:=h.Ah p hp;refine⟨?_,h2⟩;have cj:p.1≠d:=λe=>by
   rcases h2 with⟨n,_,hn,_⟩|hg
   ·rw[e,l8] at hn;cases hn
   ·rw[e,P9] at hg;cases hg
  rw[fX _ _ _ _ cj];exact h1
 ext:=h.ext
 wO:=h.wO
 qv:=λs hs=>by
  rw[fX _ _ _ _ gQ];exact h.qv s hs
 sig:=agD
 box:=λb n hn cells hc=>by
  rw[fX _ _ _ _ (um hn l8)];exact h.box b n hn cells hc
 inj:=λb b' n n' hb dU h1 h2 k h3 h4=>by
  rw[fX _ _ _ _ (um hb l8)] at h3;rw[fX _ _ _ _ (um dU l8)] at h4;exact h.inj b b' n n' hb dU h1 h2 k h3 h4
 conv:=λb n hb k hk=>by
  rw[fX _ _ _ _ (um hb l8)] at hk;exact h.conv b n hb k hk
 live:=λb hb=>h.live b (hlv▸hb)
 ptr:=ak8
theorem fw.note (h:fw pl ds cs env X w0 a w) (hd:pl.nN d=true) (P9:pl.jx d=false) (e:Ex):
  fw pl ds (cs.note d e) env X w0 (a.put (some d) (e.ev env)) w:=by
 obtain⟨cC,l8,tc⟩:=zC hd;have gd:d<a.tmps.size:=by rw[h.size];exact cC
 refine h.other cC l8 P9 _ ?_ rfl ?_
 ·intro p hp;simp only[CS.note,lQ,iy,bne_iff_ne,ne_eq] at hp;rcases hp with rfl|⟨hp,cj⟩
  ·simp[rL _ _ _ _ gd]
  ·rw[fX _ _ _ _ cj];exact h.sig p hp
 ·intro p hp;simp only[CS.note,iy,bne_iff_ne,ne_eq] at hp;obtain⟨⟨n,hn⟩,e2⟩:=h.ptr p hp.1;refine⟨⟨n,hn⟩,λhg=>?_⟩;obtain⟨e3,k,e4,e5⟩:=e2 hg;refine⟨e3,k,?_,?_⟩
  ·rw[fX _ _ _ _ (um hn l8)];exact e4
  ·rw[fX _ _ _ _ hp.2];exact e5
theorem fw.sA (h:fw pl ds cs env X w0 a w) (hd:pl.nN d=true) (e:Ex) {iE:List PanicEntry->Env->World->XS->Prop} {next:Env->World->XS->Prop}
  (hn:gP P iE next (aG.sA pl cs d e).1 env w0 X) (rD: ∀b,b∈oR (aG.sA pl cs d e).1-> ∀p,p∈ds.pins->p.1≠b): ∃dx,fw pl ds (aG.sA pl cs d e).2 dx X w0 (a.put (some d) (e.ev env)) w/\next dx w0 X:=by
 unfold aG.sA at hn rD⊢;split
 ·rename_i hg;rw[if_pos hg] at hn rD;exact⟨_,h.bind hd _ (rD d (by simp[oR,TI.KD])),hn⟩
 ·rename_i hg;rw[if_neg hg] at hn;have P9:pl.jx d=false:=by
   cases hx:pl.jx d with
   |false=>rfl
   |true=>grind
  exact⟨env,h.note hd P9 e,hn⟩
theorem fw.derive (h:fw pl ds cs env X w0 a w) {b:Nat} {g:Option (Nat×Bool)} (cC:d<pl.n) (l8:look pl.boxes d=none) (O1:pl.Tt.contains d=true)
    (v:Value) (hb: ∃n,look pl.boxes b=some n) (hv:D3 env g->cU (env b)=true/\ ∃k,a.tmps[b]? =some (dE k 0)/\v=dE k off)
 :
    fw pl ds (cs.tZ d b off g) env X w0 (a.put (some d) v) w:=by
  have gd:d<a.tmps.size:=by rw[h.size];exact cC
  have P9:pl.jx d=false:=by
    cases hx:pl.jx d with
    |false=>rfl
    |true=>have:=(rC hx).2.2;grind
  refine h.other cC l8 P9 _ ?_ rfl ?_
  · intro p hp
    simp only[CS.tZ,iy,bne_iff_ne,ne_eq] at hp;rw[fX _ _ _ _ hp.2];exact h.sig p hp.1
  · intro p hp
    rcases List.mem_cons.1 hp with rfl|hp
    · obtain⟨n,hn⟩:=hb
      refine⟨⟨n,hn⟩,λhg=>?_⟩;obtain⟨e1,k,e2,e3⟩:=hv hg;refine⟨e1,k,?_,?_⟩
      · rw[fX _ _ _ _ (um hn l8)];exact e2
      · simp[rL _ _ _ _ gd,e3]
    · simp only[iy,bne_iff_ne,ne_eq] at hp
      obtain⟨⟨n,hn⟩,e2⟩:=h.ptr p hp.1;refine⟨⟨n,hn⟩,λhg=>?_⟩;obtain⟨e3,k,e4,e5⟩:=e2 hg;refine⟨e3,k,?_,?_⟩
      · rw[fX _ _ _ _ (um hn l8)];exact e4
      · rw[fX _ _ _ _ hp.2];exact e5
theorem agE {p:Nat×Ex} (hp:p∈(cs.kill d).sig):p∈cs.sig/\p.1≠d/\p.2.Wq d=false:=by grind [CS.kill]
theorem agF {p:Ptr} (hp:p∈(cs.kill d).zK):p∈cs.zK/\p.b≠d/\p.s≠d/\(∀v,D3 (jY env d v) p.g->D3 env p.g):=by
 simp only[CS.kill,iy,aD,bne_iff_ne,ne_eq] at hp;obtain⟨hp0,⟨hb,hs⟩,hg⟩:=hp;refine⟨hp0,hb,hs,λv WG=>?_⟩;cases P8:p.g with
 |none=>trivial
 |some x=>
  grind [D3,iO]
theorem fw.aeY (h:fw pl ds cs env X w0 a w) {sz:Nat} (cC:d<pl.n) (hb:look pl.boxes d=some sz) (cells:Array Value) (gd:cells.size=sz) (ty:TypeId) (rD: ∀p,p∈ds.pins->p.1≠d):
  fw pl ds ((cs.kill d).mF [d]) (jY env d (.agg cells)) X w0 (a.put (some d) (dE w.heap.size 0)) (w.alloc (.cells cells ty)):=by
 have hd:d<a.tmps.size:=by rw[h.size];exact cC
 have hg:=h.jC (Ext.alloc w (.cells cells ty));have fresh: ∀b n c,look pl.boxes b=some n->env b= .agg c->a.tmps[b]? ≠some (dE w.heap.size 0):=by
  intro b n c hn hc e;obtain⟨k,ty',h1,h2,_,_⟩:=h.box b n hn c hc;rw[h1] at e;have hk:k=w.heap.size:=by simpa [dE] using e
  subst hk;rw[qu (aq _)] at h2;cases h2
 exact {
  size:=by simp[nM,h.size]
  defers:=h.defers
  Ah:=λp hp=>⟨by rw[fX _ _ _ _ (rD p hp)];exact(h.Ah p hp).1,(h.Ah p hp).2⟩
  ext:=hg.ext
  wO:=hg.wO
  qv:=λs hs=>by
   have cj:s≠d:=λe=>by subst e;have:=(rC hs).2.1;grind
   rw[fX _ _ _ _ cj,iO _ _ cj];exact h.qv s hs
  sig:=λp hp=>by
   obtain⟨h1,h2,h3⟩:=agE hp;rw[fX _ _ _ _ h2,WE h3];exact h.sig p h1
  box:=λb n hn c hc=>by
   by_cases qd:b=d
   ·subst qd;rw[mS] at hc;injection hc with hc
    subst hc;rw[hb] at hn;injection hn with hn
    refine⟨w.heap.size,ty,by simp[rL _ _ _ _ hd],heap_alloc_new w _,by omega,λhX=>?_⟩;exact absurd (h.wO _ hX) zQ
   ·rw[iO _ _ qd] at hc;rw[fX _ _ _ _ qd];exact hg.box b n hn c hc
  inj:=λb b' n n' hn l9 h1 h2 k h3 h4=>by
   obtain⟨c,hc⟩:=uj.1 h1;obtain⟨c',CT⟩:=uj.1 h2;by_cases qd:b=d<;>by_cases KL:b'=d
   ·omega
   ·subst qd;rw[rL _ _ _ _ hd,if_pos rfl] at h3;rw[fX _ _ _ _ KL] at h4;rw[iO _ _ KL] at CT;rw[<-h3] at h4;exact absurd h4 (fresh b' n' c' l9 CT)
   ·subst KL;rw[rL _ _ _ _ hd,if_pos rfl] at h4;rw[fX _ _ _ _ qd] at h3;rw[iO _ _ qd] at hc;rw[<-h4] at h3;exact absurd h3 (fresh b n c hn hc)
   ·rw[iO _ _ qd] at h1;rw[iO _ _ KL] at h2;rw[fX _ _ _ _ qd] at h3;rw[fX _ _ _ _ KL] at h4;exact h.inj b b' n n' hn l9 h1 h2 k h3 h4
  conv:=λb n hn k hk=>by
   by_cases qd:b=d
   ·subst qd;rw[mS];rfl
   ·rw[fX _ _ _ _ qd] at hk;rw[iO _ _ qd];exact h.conv b n hn k hk
  live:=λb dU=>by
   simp only[CS.mF,j8,cx,lQ] at dU;rcases dU with rfl|dU
   ·exact⟨⟨sz,hb⟩,by rw[mS];rfl⟩
   ·obtain⟨e1,e2⟩:=h.live b dU;refine⟨e1,?_⟩;by_cases qd:b=d
    ·subst qd;rw[mS];rfl
    ·rw[iO _ _ qd];exact e2
  ptr:=λp hp=>by
   obtain⟨h1,h2,h3,h4⟩:=agF (env:=env) hp;obtain⟨e1,e2⟩:=h.ptr p h1;refine⟨e1,λWG=>?_⟩;obtain⟨e3,k,e4,e5⟩:=e2 (h4 _ WG);rw[iO _ _ h2,fX _ _ _ _ h2,fX _ _ _ _ h3];exact⟨e3,k,e4,e5⟩ }
theorem fw.store (h:fw pl ds cs env X w0 a w) {b:Nat} {cells:Array Value} (hb:look pl.boxes b=some n) (hc:env b= .agg cells)
  (ht:a.tmps[b]? =some (dE k 0)) (hk:w.heap[k]? =some (.cells cells ty (0,0))) (hX: ¬X k) (gd:xu.size=n) (hw:Fr (· =k) w w') (af:w'.heap[k]? =some (.cells xu ty (0,0))):
  fw pl ds (cs.M8 b) (jY env b (.agg xu)) X w0 a w':=by
 have hA:cU (env b)=true:=by rw[hc];rfl
 exact {
  size:=h.size
  defers:=h.defers
  Ah:=h.Ah
  ext:=h.ext.trans (hw.kp λj hj=>⟨h.wO j hj,λe=>by grind⟩)
  wO:=λj hj=>av (h.wO j hj) hw.size
  qv:=λs hs=>by
   have cj:s≠b:=λe=>by subst e;have:=(rC hs).2.1;grind
   rw[iO _ _ cj];exact h.qv s hs
  sig:=λp hp=>by
   simp only[CS.M8,iy,cB] at hp;rw[WE hp.2];exact h.sig p hp.1
  box:=λb' n' l9 c CT=>by
   by_cases qd:b'=b
   ·subst qd;rw[mS] at CT;injection CT with CT
    subst CT;rw[hb] at l9;injection l9 with l9
    exact⟨k,ty,ht,af,by omega,hX⟩
   ·rw[iO _ _ qd] at CT;obtain⟨k2,N8,h1,h2,h3,h4⟩:=h.box b' n' l9 c CT;have sI:k2≠k:=λe=>by
     subst e;exact qd (h.inj b' b n' n l9 hb gQ hA k2 h1 ht)
    exact⟨k2,N8,h1,(hw.block k2 (Array.getElem?_eq_some_iff.1 h2).1 sI).trans h2,h3,h4⟩
  inj:=λb1 b2 n1 n2 wP WH h1 h2 j h3 h4=>by
   have f: ∀b',cU (jY env b (.agg xu) b')=true->cU (env b')=true:=λb' hh=>by
    by_cases e:b'=b
    ·grind
    ·rwa [iO _ _ e] at hh
   exact h.inj b1 b2 n1 n2 wP WH (f b1 h1) (f b2 h2) j h3 h4
  conv:=λb' n' l9 j hj=>by
   by_cases e:b'=b
   ·subst e;rw[mS];rfl
   ·rw[iO _ _ e];exact h.conv b' n' l9 j hj
  live:=λb' dU=>by
   obtain⟨e1,e2⟩:=h.live b' dU;refine⟨e1,?_⟩;by_cases e:b'=b
   ·subst e;rw[mS];rfl
   ·rwa [iO _ _ e]
  ptr:=λp hp=>by
   obtain⟨e1,e2⟩:=h.ptr p hp;refine⟨e1,λhg=>?_⟩;have rQ:D3 env p.g:=by
    cases P8:p.g with
    |none=>trivial
    |some x=>
     obtain⟨g,want⟩:=x;rw[P8] at hg;simp only[D3] at hg⊢;by_cases e:g=b
     ·subst e;rw[mS] at hg;cases hg
     ·rwa [iO _ _ e] at hg
   obtain⟨e3,k2,e4,e5⟩:=e2 rQ;refine⟨?_,k2,e4,e5⟩;by_cases e:p.b=b
   ·rw[e,mS];rfl
   ·rwa [iO _ _ e] }
variable {ag : Bool}
theorem zN (k o n:Nat):(⟨k,o,none⟩:Addr).add n=⟨k,o+n,none⟩:=by grind [Addr.add]
theorem N9 {S f fo sz:Nat} (h:fieldInfo P S f=some (fo,sz)) (hz:sz≠0) (k off:Nat) (w:World):
  (Instr.fieldAt S (dE k off) f).run P w= .ok (dE k (off+fo)) w:=by
 unfold fieldInfo at h;split at h
 ·rename_i fs hu;cases hf:fs[f]? with
  |none=>grind
  |some x=>
   cases hi:P.info? x.type with
   |none=>grind
   |some i=>
    simp only[hf,hi,cJ,aX,ah,cD] at h;obtain⟨h1,h2⟩:=h;subst h1 h2;simp[Instr.fieldAt,run_underlying hu,hf,pG,dE,fieldPlace,sizeOf,typeInfo,hi,hz,zN]
 ·cases h
theorem JN {cells:Array Value} (h:w.heap[k]? =some (.cells cells ty (0,0))) (i:Nat):w.cell? ⟨k,i,none⟩=cells[i]? :=by
 simp[World.cell?,h]
theorem Qa {sz:Nat} (h:lp P t=some (ag,sz)) (WI:(ag||sz==1)=true) {cells:Array Value}
  (hk:w.heap[k]? =some (.cells cells ty (0,0))) (off:Nat) (hl:off+sz<=cells.size):
  (js t (dE k off)).run P w= .ok (if ag then fD (.agg cells) off sz else cellOf (.agg cells) off) w:=by
 unfold lp at h;split at h
 ·rename_i d i hu hi;simp only[ah,cD] at h;obtain⟨h1,h2⟩:=h;subst h2;have Cf:(isAgg t).run P w= .ok ag w:=by
   subst h1;cases d<;>simp[isAgg,run_underlying hu]
  cases ag with
  |true=>
   have hc: ∀j v,((cells.toList.drop off).take i.size)[j]? =some v->w.cell? ((⟨k,off,none⟩:Addr).add j)=some v:=by
    intro j v hj;rw[zN,JN hk];rw[List.getElem?_take] at hj;split at hj
    ·rw[List.getElem?_drop] at hj;simpa using hj
    ·cases hj
   have hlen:((cells.toList.drop off).take i.size).length=i.size:=by
    simp;omega
   have hr:=run_loadCells_list (P:=P) w ⟨k,off,none⟩ _ hc;rw[hlen] at hr;simp[js,pG,dE,loadVar,Cf,sizeOf,typeInfo,hi,hr,fD,Value.cells]
  |false=>
   simp only[Bool.false_or,beq_iff_eq] at WI;have cC:off<cells.size:=by omega
   have hc:w.cell? ⟨k,off,none⟩=some cells[off]:=by rw[JN hk];simp[cC]
   simp[js,pG,dE,loadVar,Cf,hc,cellOf,Value.cells,cC]
 ·cases h
theorem Qb (v:Value):one v=v.oneCell':=by rfl
theorem td {v:Value} (h:one v=true):v.cells= #[v]:=by cases v<;>first|rfl|cases h
theorem aat {sz:Nat} (h:lp P t=some (ag,sz)):(P.info? t).map (·.size)=some sz:=by
 unfold lp at h
 grind
theorem Oa {sz:Nat} (h:(P.info? t).map (·.size)=some sz) {cells:Array Value}
  (hk:w.heap[k]? =some (.cells cells ty (0,0))) (off:Nat) (hl:off+sz<=cells.size) (v:Value) (hv:v.cells.size=sz) (h1:v.cells.toList.all one=true):
  (Instr.storeAt t (dE k off) v).run P w= .ok () (w.setRow k (cY cells.toList off v.cells.toList).toArray):=by
 cases hi:P.info? t with
 |none=>grind
 |some i=>
  simp only[hi,aX,ah] at h;have fE:=run_storeCells_at P k off ty v.cells.toList 0 cells w hk (by simpa [hv] using hl) (λx hx=>by
   have:=List.all_eq_true.1 h1 x hx;assumption)
  simp only[Nat.add_zero] at fE;simp[Instr.storeAt,pG,dE,storeVar,sizeOf,typeInfo,hi,h,hv,fE,cY]
theorem aeZ {cells:Array Value} (hk:w.heap[k]? =some (.cells cells ty (0,0))):
  Fr (· =k) w (w.setRow k xu)/\(w.setRow k xu).heap[k]? =some (.cells xu ty (0,0)):=by
 refine⟨⟨rfl,rfl,rfl,by simp[World.setRow],λj _ hj=>?_⟩,setRow_heap w k cells xu ty (0,0) hk⟩;simp only[World.setRow,Array.getElem?_modify]
 grind
theorem agG {l vs:List Value} (h:off+vs.length<=l.length):(cY l off vs).length=l.length:=by
 simp[cY];omega
variable {og : Option (Nat × Bool)} {r : CR}
theorem KM: ∀{l:List Ptr} {t b off:Nat},HI og l t=some (b,off)-> ∃p,p∈l/\p.s=t/\p.b=b/\p.off=off/\(p.g=none\/p.g=og)
 |[],_,_,_,h=>by cases h
 |p::r,t,b,off,h=>by
  simp only[HI] at h;split at h
  ·simp_all
  ·obtain⟨q,h1,h2⟩:=KM h
   grind
theorem fw.wN (h:fw pl ds cs env X w0 a w) {x:Operand} {b:Nat} (hp:aG.wN pl cs og x=some (b,off,nd)):
  (∃n,look pl.boxes b=some n)/\(∀b',b'∈nd-> ∃n,look pl.boxes b'=some n)/\
  ((∀b',b'∈nd->cU (env b')=true)->D3 env og->cU (env b)=true/\ ∃k,a.eval x=dE k off/\a.tmps[b]? =some (dE k 0)):=by
 cases x with
 |tmp t=>
  simp only[aG.wN] at hp;split at hp
  ·rename_i n hn;simp only[ah,cD] at hp;obtain⟨rfl,rfl,tc⟩:=hp;refine⟨⟨n,hn⟩,λb' dU=>?_,λhl _=>?_⟩
   ·grind
   ·have hA:cU (env t)=true:=by
     split at tc
     ·rename_i hc;exact(h.live t gQ).2
     ·grind
    obtain⟨c,hc⟩:=uj.1 hA;obtain⟨k,ty,h1,_⟩:=h.box t n hn c hc;exact⟨hA,k,by simp[lj,h1],h1⟩
  ·split at hp
   ·cases hf:HI og cs.zK t with
    |none=>grind
    |some q=>
     obtain⟨b',arI⟩:=q;simp only[hf,aX,ah,cD] at hp;obtain⟨rfl,rfl,rfl⟩:=hp;obtain⟨p,hp,hs,hb,ho,hg⟩:=KM hf;obtain⟨e1,e2⟩:=h.ptr p hp;subst hs hb ho;refine⟨e1,λ_ dU=>(by cases dU),λ_ WG=>?_⟩;obtain⟨e3,k,e4,e5⟩:=e2 (hg.elim (λhg=>by simp[hg,D3]) (λhg=>by grind));exact⟨e3,k,by simp[lj,e5],e4⟩
   ·cases hp
 |const v=>cases hp
 |global g=>cases hp
 |func f=>cases hp
theorem KN {iE:List PanicEntry->Env->World->XS->Prop} {next:Env->World->XS->Prop} : ∀(nd:List Nat) {l:List TI},
  gP P iE next (nd.map .yS++l) env w X->(∀b,b∈nd->cU (env b)=true)/\gP P iE next l env w X
 |[],_,h=>⟨λ_ hb=>(by cases hb),h⟩
 |b::nd,l,h=>by
  obtain⟨h1,h2⟩:cU (env b)=true/\gP P iE next (nd.map .yS++l) env w X:=by simpa only [List.map_cons,j8,gP,Wx,di] using h
  obtain⟨h3,h4⟩:=KN nd h2;refine⟨λb' dU=>?_,h4⟩;rcases List.mem_cons.1 dU with rfl|dU
  ·exact h1
  ·exact h3 b' dU
theorem CE {iE:List PanicEntry->Env->World->XS->Prop} {next:Env->World->XS->Prop} : ∀(l l':List TI),gP P iE next (l++l')=gP P iE (gP P iE next l') l
 |[],_=>rfl
 |i::l,l'=>by
  funext env w X
  simp only[j8,gP,CE l l']
inductive Shape (P:Program) (pl:gz) (cs:CS) (og:Option (Nat×Bool)) (m:Bool) (o:Oper):CR->Prop
 |mv (x:Operand) (d:Nat) (e:Ex) (ho:o.op= .move x\/o.op= .assign x) (hd:o.dst=some d) (hv:valOf pl cs x=some e) (hp:pl.nN d=true):
   Shape P pl cs og m o ⟨true,[],(sA pl cs d e).1,(sA pl cs d e).2,[],[]⟩
 |ld (t:TypeId) (x:Operand) (d b off:Nat) (nd:List Nat) (ag:Bool) (sz bs:Nat) (ho:o.op= .load t x) (hd:o.dst=some d) (hx:aG.wN pl cs og x=some (b,off,nd))
   (ht:lp P t=some (ag,sz)) (hb:look pl.boxes b=some bs) (hp:pl.nN d=true) (hl:off+sz<=bs) (ha:(ag||sz==1)=true):
   Shape P pl cs og m o ⟨true,nd,(sA pl (cs.mF nd) d (if ag then .s b off sz else .k b off)).1,(sA pl (cs.mF nd) d (if ag then .s b off sz else .k b off)).2,[b],[]⟩
 |fa (S:TypeId) (x:Operand) (f d b off:Nat) (nd:List Nat) (fo sz:Nat) (ho:o.op= .fieldAddr S x f) (hd:o.dst=some d) (hx:aG.wN pl cs og x=some (b,off,nd))
   (hf:fieldInfo P S f=some (fo,sz)) (O1:pl.Tt.contains d=true) (cC:d<pl.n) (l8:look pl.boxes d=none) (hz:sz≠0):
   Shape P pl cs og m o ⟨true,nd,[],(cs.mF nd).tZ d b (off+fo) og,[],[]⟩
 |rd (d:Nat) (ss:List (Nat×Ex)) (hd:o.dst=some d) (hs:subst pl cs o.op.operands.toList=some ss) (hn:IJ o.op=true) (hp:pl.nN d=true):
   Shape P pl cs og m o ⟨true,[],[.rd d o.op o.type ss],cs.bind pl d,[],[]⟩
 |D2 (d:Nat) (ss:List (Nat×Ex)) (hd:o.dst=some d) (hs:subst pl cs o.op.operands.toList=some ss) (hn:IJ o.op=true) (hp:pl.nN d=true):
   Shape P pl cs og m o ⟨false,[],[.D2 (some d) o.op o.type ss m],cs.bind pl d,[],[]⟩
 |act (ss:List (Nat×Ex)) (hd:o.dst=none) (hs:subst pl cs o.op.operands.toList=some ss) (hn:IJ o.op=true):
   Shape P pl cs og m o ⟨false,[],[.D2 none o.op o.type ss m],cs,[],[]⟩
 |bx (t:TypeId) (x:Operand) (d sz:Nat) (e:Ex) (ag:Bool) (ho:o.op= .box t x) (hd:o.dst=some d) (hb:look pl.boxes d=some sz) (hv:valOf pl cs x=some e) (ht:lp P t=some (ag,sz)) (cC:d<pl.n):
   Shape P pl cs og m o ⟨false,[],[if !ag&&sz==1 then .Az d e else .box d sz e],(cs.kill d).mF [d],[],[]⟩
 |al (t:TypeId) (d sz:Nat) (i:TypeInfo) (z:Value) (ag:Bool) (ho:o.op= .alloc t) (hd:o.dst=some d) (hb:look pl.boxes d=some sz) (hi:P.info? t=some i) (hz:i.zero=some z) (ht:lp P t=some (ag,sz)) (cC:d<pl.n):
   Shape P pl cs og m o ⟨false,[],[if !ag&&sz==1 then .Az d (.c z)else .box d sz (.c z)],(cs.kill d).mF [d],[],[]⟩
 |st (t:TypeId) (x v:Operand) (b off:Nat) (nd:List Nat) (sz bs:Nat) (e:Ex) (ag:Bool) (ho:o.op= .store t x v) (hd:o.dst=none) (hx:aG.wN pl cs og x=some (b,off,nd))
   (hv:valOf pl cs v=some e) (ht:lp P t=some (ag,sz)) (hb:look pl.boxes b=some bs) (hl:off+sz<=bs):
   Shape P pl cs og m o ⟨false,nd,[if !ag&&sz==1 then .Wu b off e else if off==0&&sz==bs then .fill b sz e else .put b off sz e],(cs.mF nd).M8 b,[],[b]⟩
theorem yk {m:Bool} (h:Gk P pl cs m o=some r):Shape P pl cs og m o r:=by
 unfold Gk at h;split at h
 ·cases h
 ·rename_i ss hs;split at h
  ·cases h
  ·rename_i hn;simp only[cB,Af] at hn;split at h
   ·rename_i d hd;split at h
    ·cases h
    ·rename_i hp;simp only[cB,Af] at hp;split at h<;>injection h with h<;>subst h
     ·exact .rd d ss hd hs hn hp
     ·exact .D2 d ss hd hs hn hp
   ·rename_i hd;injection h with h
    subst h;exact .act ss hd hs hn
theorem Ty {m:Bool} {sz:Nat} (h:Wz P pl cs sz t e d=some r)
  (k: ∀ag,d<pl.n->lp P t=some (ag,sz)->Shape P pl cs og m o ⟨false,[],[if !ag&&sz==1 then .Az d e else .box d sz e],(cs.kill d).mF [d],[],[]⟩):Shape P pl cs og m o r:=by
 unfold Wz at h;split at h
 ·rename_i ag s ht;split at h
  ·grind
  ·cases h
 ·cases h
theorem tJ {m:Bool} (h:Ek P pl cs og m o=some r):Shape P pl cs og m o r:=by
 unfold Ek at h;split at h;case h_1 x ho=>
  split at h
  ·rename_i d e hd hv;split at h
   ·rename_i hp;injection h with h
    subst h;exact .mv x d e (.inl ho) hd hv hp
   ·cases h
  ·cases h
 case h_2 x ho=>
  split at h
  ·rename_i d e hd hv;split at h
   ·rename_i hp;injection h with h
    subst h;exact .mv x d e (.inr ho) hd hv hp
   ·cases h
  ·cases h
 case h_3 t x ho=>
  split at h
  ·rename_i d hd;split at h
   ·rename_i sz hb;split at h
    ·rename_i e hv;exact Ty h λag cC ht=>.bx t x d sz e ag ho hd hb hv ht cC
    ·cases h
   ·exact yk h
  ·cases h
 case h_4 t ho=>
  split at h
  ·rename_i d hd;split at h
   ·rename_i sz hb;split at h
    ·rename_i z hz;cases hi:P.info? t with
     |none=>grind
     |some i=>
      simp only[hi,cJ] at hz;exact Ty h λag cC ht=>.al t d sz i z ag ho hd hb hi hz ht cC
    ·cases h
   ·exact yk h
  ·cases h
 case h_5 S x f ho=>
  split at h
  ·rename_i b off nd hx;split at h
   ·rename_i d fo sz hd hf;split at h
    ·rename_i hc;simp only[aD,decide_eq_true_eq,iH,bne_iff_ne,ne_eq] at hc;injection h with h
     subst h;exact .fa S x f d b off nd fo sz ho hd hx hf hc.1.1.1 hc.1.1.2 hc.1.2 hc.2
    ·cases h
   ·cases h
  ·exact yk h
 case h_6 t x ho=>
  split at h
  ·rename_i b off nd hx;split at h
   ·rename_i d ag sz bs hd ht hb;split at h
    ·rename_i hc;simp only[aD,decide_eq_true_eq] at hc;injection h with h
     subst h;exact .ld t x d b off nd ag sz bs ho hd hx ht hb hc.1.1 hc.1.2 hc.2
    ·cases h
   ·cases h
  ·exact yk h
 case h_7 t x v ho=>
  split at h
  ·rename_i b off nd hx;split at h
   ·rename_i e ag sz bs hd hv ht hb;split at h
    ·rename_i hc;simp only[decide_eq_true_eq] at hc;injection h with h
     subst h;exact .st t x v b off nd sz bs e ag ho hd hx hv ht hb hc
    ·cases h
   ·cases h
  ·exact yk h
 grind [yk]
theorem fw.zb (h:fw pl ds cs env X w0 a w) {RB:List Nat} (hz:ZB pl RB a k): ¬X k:=by
 obtain⟨b,n,hb,_,ht⟩:=hz;obtain⟨c,hc⟩:=uj.1 (h.conv b n hb k ht);obtain⟨k',ty,e1,_,_,e4⟩:=h.box b n hb c hc;rw[ht] at e1;have:k'=k:=by simpa [dE] using e1.symm
 grind
theorem fw.kp0 (h:fw pl ds cs env X w0 a w) {RB:List Nat} (hx:Fr (ZB pl RB a) w w'):Kp X w0 w':=
 h.ext.trans (hx.kp λk hk=>⟨h.wO k hk,λhz=>h.zb hz hk⟩)
theorem fw.ga (h:fw pl ds cs env X w0 a w) {b:Nat} (hb:look pl.boxes b=some n) (ht:a.tmps[b]? =some (dE k 0)):k<w.heap.size/\ ¬X k:=by
 obtain⟨c,hc⟩:=uj.1 (h.conv b n hb k ht);obtain⟨k',ty,e1,e2,_,e4⟩:=h.box b n hb c hc;rw[ht] at e1;have:k'=k:=by simpa [dE] using e1.symm
 grind
theorem fw.agH (h:fw pl ds cs env X w0 a w) (hx:Fr X w w'):zL pl sb a w w':=
 λ_ _ _ hb _ hk=>hx.block _ (h.ga hb hk).1 (h.ga hb hk).2
theorem rP.fc (hx:Ext w w') (hz: ∀b n,look pl.boxes b=some n-> ∀k,k<w.heap.size->a'.tmps[b]? =some (dE k 0)->a.tmps[b]? =some (dE k 0)):rP pl sb a w a' w':=
 λ_ _=>⟨hx.fr _,λk hk ⟨b,n,h1,h2,h3⟩=>⟨b,n,h1,h2,hz b n h1 k hk h3⟩⟩
theorem rP.agI {d:Option Nat} {v:Value} (hx:Ext w w') (hd: ∀x,d=some x->look pl.boxes x=none):rP pl sb a w (a.put d v) w':=by
 refine rP.fc hx λb n hb k _ hk=>?_;cases d with
 |none=>exact hk
 |some x=>rwa [fX _ _ _ _ (um hb (hd x rfl))] at hk
theorem rP.sub (h:rP pl sb a w a' w') (hs: ∀b,b∈sb->b∈sb'):rP pl sb' a w a' w':=
 λRB KF=>h RB λb hb=>KF b (hs b hb)
theorem Tz {m:Bool} (hs:Shape P pl cs og m o r) (iR:r.fl=true): ∀x,o.dst=some x->look pl.boxes x=none:=by
 have f: ∀{d:Nat},o.dst=some d->pl.nN d=true-> ∀x,o.dst=some x->look pl.boxes x=none:=λhd hp x hx=>by
  rw[hd] at hx;injection hx with hx;subst hx;exact(zC hp).2.1
 cases hs with
 |mv x d e ho hd hv hp=>grind
 |ld t x d b off nd ag sz bs ho hd hx ht hb hp hl ha=>grind
 |fa S x g d b off nd fo sz ho hd hx hf O1 cC l8 hz=>grind
 |rd d ss hd hs hn hp=>grind
 |D2=>cases iR
 |act=>cases iR
 |bx=>cases iR
 |al=>cases iR
 |st=>cases iR
theorem TA {m:Bool} (hs:Shape P pl cs og m o r) (h:fw pl ds cs env X w0 a w) (hg:D3 env og)
  (hl: ∀b,b∈r.nd->cU (env b)=true) (iR:r.fl=true) {iE:List PanicEntry->Env->World->XS->Prop} {next:Env->World->XS->Prop} (hd:gP P iE next r.l env w0 X) (rD: ∀b,b∈oR r.l-> ∀p,p∈ds.pins->p.1≠b):
  ∃v dx,((∀wa,Fr (ZB pl r.rb a) w wa->(execOp a.eval o).run P wa= .ok (.value v) wa)/\
   ∀b,b∈r.rb-> ∃k n,look pl.boxes b=some n/\a.tmps[b]? =some (dE k 0)/\ ∀wa:World,wa.heap[k]? =w.heap[k]? ->(execOp a.eval o).run P wa= .ok (.value v) wa)/\fw pl ds r.cs dx X w0 (a.put o.dst v) w/\next dx w0 X:=by
 cases hs with
 |mv x d e ho kG hv hp=>
  obtain⟨dx,h1,h2⟩:=h.sA hp e hd rD;refine⟨e.ev env,dx,⟨λwa _=>?_,λ_ hb=>by cases hb⟩,by grind,h2⟩;have he:=h.eval hv;rcases ho with ho|ho<;>simp[execOp,ho,he]
 |ld t x d b off nd ag sz bs ho kG hx ht hb hp cC ha=>
  obtain⟨⟨n,hn⟩,tc,hk⟩:=h.wN hx;obtain⟨hA,k,he,iw⟩:=hk hl hg;obtain⟨cells,hc⟩:=uj.1 hA;obtain⟨k',ty,e1,e2,e3,_⟩:=h.box b n hn cells hc;have sI:k'=k:=by rw[iw] at e1;simpa [dE] using e1.symm
  subst sI;have hbn:bs=n:=by rw[hb] at hn;injection hn
  subst hbn;have h':=h.mF (nd:=nd) λb' dU=>⟨tc b' dU,hl b' dU⟩;obtain⟨dx,h1,h2⟩:=h'.sA hp _ hd rD;have KO:(if ag then Ex.s b off sz else Ex.k b off).ev env=if ag then fD (.agg cells) off sz else cellOf (.agg cells) off:=by
   cases ag<;>simp[Ex.ev,hc]
  have nD: ∀wa:World,wa.heap[k']? =w.heap[k']? ->(execOp a.eval o).run P wa= .ok (.value ((if ag then Ex.s b off sz else Ex.k b off).ev env)) wa:=by
   intro wa HK;have e2':wa.heap[k']? =some (.cells cells ty (0,0)):=HK.trans e2;have:=Qa ht ha e2' off zQ;rw[KO];simp[execOp,ho,he,this]
  refine⟨_,dx,⟨λwa HK=>nD wa ?_,λb' dU=>?_⟩,by rw[kG];exact h1,h2⟩
  rotate_left
  ·have:=List.mem_singleton.1 dU;subst this;exact⟨k',bs,hn,iw,nD⟩
  have e2':wa.heap[k']? =some (.cells cells ty (0,0)):=by
   rw[HK.block k' (Array.getElem?_eq_some_iff.1 e2).1 ?_]
   ·exact e2
   ·rintro⟨b2,n2,g1,g2,g3⟩;exact g2 (List.mem_singleton.2 (h.inj b2 b n2 bs g1 hn (h.conv b2 n2 g1 k' g3) hA k' g3 iw))
  rw[e2',e2]
 |fa S x f d b off nd fo sz ho kG hx hf O1 cC l8 hz=>
  obtain⟨⟨n,hn⟩,tc,hk⟩:=h.wN hx;obtain⟨hA,k,he,iw⟩:=hk hl hg;have h':=h.mF (nd:=nd) λb' dU=>⟨tc b' dU,hl b' dU⟩;refine⟨dE k (off+fo),env,⟨λwa _=>?_,λ_ hb=>by cases hb⟩,?_,hd⟩
  ·have:=N9 hf hz k off wa;simp[execOp,ho,he,this]
  ·rw[kG];exact h'.derive cC l8 O1 _ ⟨n,hn⟩ λ_=>⟨hA,k,iw,rfl⟩
 |rd d ss kG Ob hn hp=>
  obtain⟨v,h1,h2⟩:=hd;refine⟨v,_,⟨λwa HK=>?_,λ_ hb=>by cases hb⟩,by rw[kG];exact h.bind hp v (rD d (by simp[oR,TI.KD])),h2⟩;rw[h.exec Ob hn,<-aeU _ (λ_=>rfl)];exact h1 wa (h.kp0 HK)
 |D2=>cases iR
 |act=>cases iR
 |bx=>cases iR
 |al=>cases iR
 |st=>cases iR
def zD (pl:gz) (ds:Bk) (env:Env) (X:XS) (a:Act) (w:World):Prop:=
 (∀k,X k->k<w.heap.size)/\ ∀p,p∈ds.pins->a.tmps[p.1]? =some p.2/\(pl.jx p.1=true\/ ∃n k cells ty,p.2=dE k 0/\look pl.boxes p.1=some n/\env p.1= .agg cells/\w.heap[k]? =some (.cells cells ty (0,0))/\cells.size=n/\ ¬X k)
theorem fw.pinned (h:fw pl ds cs env X w0 a w):zD pl ds env X a w:=⟨h.wO,λp hp=>by
 obtain⟨ht,⟨n,k,hn,hk⟩|hg⟩:=h.Ah p hp
 ·refine⟨ht,.inr ?_⟩;rw[hk] at ht;obtain⟨cells,hc⟩:=uj.1 (h.conv p.1 n hn _ ht);obtain⟨k',ty,e1,e2,e3,e4⟩:=h.box p.1 n hn cells hc;rw[ht] at e1;have:k=k':=by simpa [dE] using e1
  subst this;exact⟨n,k,cells,ty,hk,hn,hc,e2,e3,e4⟩
 grind⟩
theorem zD.put {d:Option Nat} {v:Value} (h:zD pl ds env X (a.put d v) w) (hd: ∀x,d=some x-> ∀p,p∈ds.pins->p.1≠x):zD pl ds env X a w:=⟨h.1,λp hp=>by
 obtain⟨h1,h2⟩:=h.2 p hp;refine⟨?_,h2⟩;cases d with
 |none=>exact h1
 |some x=>rwa [fX _ _ _ _ (hd x rfl p hp)] at h1⟩
theorem Qc {m:Bool} (hs:Shape P pl cs og m o r) (iR:r.fl=true): ∀x,o.dst=some x->pl.jx x=true->x∈oR r.l:=by
 have f: ∀{TB:CS} {d:Nat} {e:Ex},o.dst=some d-> ∀x,o.dst=some x->pl.jx x=true->x∈oR (sA pl TB d e).1:=λhd x hx hg=>by
  rw[hd] at hx;injection hx with hx;subst hx
  unfold sA;rw[if_pos (by simp[hg])];simp[oR,TI.KD]
 cases hs with
 |mv x d e ho hd hv hp=>exact f hd
 |ld t x d b off nd ag sz bs ho hd hx ht hb hp hl ha=>exact f hd
 |fa S x g d b off nd fo sz ho hd hx hf O1 cC l8 hz=>
  intro y hy hg;rw[hd] at hy;injection hy with hy;subst hy
  have:=(rC hg).2.2
  grind
 |rd d ss hd hs hn hp=>intro y hy _;rw[hd] at hy;injection hy with hy;subst hy;simp[oR,TI.KD]
 |D2=>cases iR
 |act=>cases iR
 |bx=>cases iR
 |al=>cases iR
 |st=>cases iR
theorem TC {m:Bool} (hs:Shape P pl cs og m o r) (h:fw pl ds cs env X w0 a w) (hg:D3 env og)
  (hl: ∀b,b∈r.nd->cU (env b)=true) (iR:r.fl=false) {iE:List PanicEntry->Env->World->XS->Prop} {next:Env->World->XS->Prop} (hd:gP P iE next r.l env w0 X)

  (hK: ∀a' w' dx X' dZ,fw pl ds r.cs dx X' dZ a' w'->next dx dZ X'->zM (m=false) pl r.sb a w a' w'->K a' w')
  (rD: ∀b,b∈oR r.l-> ∀p,p∈ds.pins->p.1≠b)
  (hQ: ∀ch w' dx X' dZ,Kp X' dZ w'->zD pl ds dx X' a w'->iE ch dx dZ X'->Q (.panic ch) a w'):o.wp P a w K Q:=by
 have real: ∀(qe:CS) (ss:List (Nat×Ex)),(∀x,o.dst=some x->look pl.boxes x=none)->subst pl cs o.op.operands.toList=some ss->IJ o.op=true->
   (∀m' w' v,Step m' X w w'->fw pl ds qe (KC env o.dst v) (grow X w w') w' (a.put o.dst v) w')->r.cs=qe->
   (∀wa,Kp X w0 wa->jV P m X wa (λv w' X'=>next (KC env o.dst v) w' X') (λch w' X'=>iE ch env w' X') ((P4 (Gi env ss) o.op o.type).run P wa))->o.wp P a w K Q:=by
  intro qe ss Gl Ob hn hS jD he;have he:=he w h.ext;unfold kC;rw[h.exec Ob hn,<-aeU _ (λ_=>rfl)];have fE: ∀w' v,Step m X w w'->zM (m=false) pl r.sb a w (a.put o.dst v) w':=λw' v hs=>⟨λhm=>by subst hm;exact rP.agI hs Gl,h.agH hs.fr⟩;cases hr:(P4 (Gi env ss) o.op o.type).run P w with
  |ok n w'=>
   rw[hr] at he;cases n<;>simp only[jV] at he<;>simp only[oE]
   case value v=>exact hK _ _ _ _ _ (jD▸hS m w' v he.1) he.2 (fE _ _ he.1)
   case skip=>exact hK _ _ _ _ _ (jD▸hS m w' undef he.1) he.2 (fE _ _ he.1)
   case enter f args=>
    obtain⟨rfl,hc⟩:=he;refine hc.mono λe lC hR=>?_;cases e with
    |returned v=>exact hK _ _ _ _ _ (jD▸hS m lC v hR.1) hR.2 (fE _ _ hR.1)
    |panicked ch=>exact hQ _ _ _ _ _ (Kp.refl _ _) (h.Na hR.1).pinned hR.2
    |outgrown=>exact hR.elim
  |halt x w'=>
   rw[hr] at he;cases x<;>simp only[jV] at he<;>simp only[oE]
   case panic v=>exact hQ _ _ _ _ _ (Kp.refl _ _) (h.Na he.1).pinned he.2
 have boxed: ∀{d sz:Nat} {e:Ex} {ag:Bool},gP P iE next [if !ag&&sz==1 then .Az d e else .box d sz e] env w0 X->
   (e.ev env).cells.size=sz/\next (jY env d (.agg (e.ev env).cells)) w0 X:=by
  intro d sz e ag hd;simp only[gP] at hd;split at hd
  ·rename_i qf;simp only[aD,cB,beq_iff_eq] at qf;obtain⟨g1,g2⟩:=di.1 hd;rw[td g1];exact⟨by simp[qf.2],g2⟩
  ·obtain⟨g1,g2⟩:=di.1 hd;exact⟨by simpa using g1,g2⟩
 have IL: ∀(t d:Nat) (_:d<pl.n) (cells:Array Value),rP pl [] a w (a.put (some d) (dE w.heap.size 0)) (w.alloc (.cells cells t)):=by
  intro t d cC cells;refine rP.fc (Ext.alloc _ _) λb n WJ k hk sI=>?_;by_cases e:b=d
  ·subst e;rw[rL _ _ _ _ (by rw[h.size];omega),if_pos rfl] at sI;have:w.heap.size=k:=by simpa [dE] using sI
   omega
  ·rwa [fX _ _ _ _ e] at sI
 cases hs with
 |mv=>cases iR
 |ld=>cases iR
 |fa=>cases iR
 |rd=>cases iR
 |D2 d ss kG Ob hn hp=>
  refine real (cs.bind pl d) ss (λx hx=>by rw[kG] at hx;injection hx with hx;subst hx;exact(zC hp).2.1) Ob hn (λm' w' v fE=>?_) rfl ?_
  ·rw[kG];exact(h.Na fE).bind hp v (rD d (by simp[oR,TI.KD]))
  ·intro wa HK;have:=hd wa HK;rw[kG];exact this
 |act ss kG Ob hn=>
  refine real cs ss (λx hx=>by rw[kG] at hx;cases hx) Ob hn (λm' w' v fE=>?_) rfl ?_
  ·rw[kG];exact h.Na fE
  ·intro wa HK;have:=hd wa HK;rw[kG];exact this
 |bx t x d sz e ag ho kG hb hv ht cC=>
  have he:=h.eval hv;obtain⟨h1,h2⟩:=boxed hd;have hr:(execOp a.eval o).run P w= .ok (.value (dE w.heap.size 0)) (w.alloc (.cells (e.ev env).cells t)):=by
   simp[execOp,ho,he,Instr.box,newVar,newRow,dE]
  unfold kC;rw[hr];simp only[oE];rw[kG];exact hK _ _ _ _ _ (h.aeY cC hb (e.ev env).cells h1 t (rD d (by split<;>simp[oR,TI.KD]))) h2 ⟨λ_=>IL t d cC _,h.agH ((Ext.alloc _ _).fr X)⟩
 |al t d sz i z ag ho kG hb hi hz ht cC=>
  obtain⟨h1,h2⟩:=boxed hd;have hr:(execOp a.eval o).run P w= .ok (.value (dE w.heap.size 0)) (w.alloc (.cells z.cells t)):=by
   simp[execOp,ho,Instr.alloc,zeroValue,typeInfo,hi,hz,newVar,newRow,dE]
  unfold kC;rw[hr];simp only[oE];rw[kG];exact hK _ _ _ _ _ (h.aeY cC hb z.cells h1 t (rD d (by split<;>simp[oR,TI.KD]))) h2 ⟨λ_=>IL t d cC _,h.agH ((Ext.alloc _ _).fr X)⟩
 |st t x v b off nd sz bs e ag ho kG hx hv ht hb cC=>
  obtain⟨⟨n,hn⟩,tc,hk⟩:=h.wN hx;obtain⟨hA,k,he,iw⟩:=hk hl hg;obtain⟨cells,hc⟩:=uj.1 hA;obtain⟨k',ty,e1,e2,e3,e4⟩:=h.box b n hn cells hc;have sI:k'=k:=by rw[iw] at e1;simpa [dE] using e1.symm
  subst sI;have hbn:bs=n:=by rw[hb] at hn;injection hn
  subst hbn;obtain⟨h1,h2,h3⟩:(e.ev env).cells.size=sz/\(e.ev env).cells.toList.all one=true/\next (jY env b (.agg (cY (env b).cells.toList off (e.ev env).cells.toList).toArray)) w0 X:=by
   simp only[gP] at hd;split at hd
   ·rename_i qf;simp only[aD,cB,beq_iff_eq] at qf;obtain⟨g1,g2⟩:=di.1 hd;rw[td g1];exact⟨by simp[qf.2],by simp[g1],g2⟩
   ·split at hd
    ·rename_i qf;simp only[aD,beq_iff_eq] at qf;obtain⟨g1,hd⟩:=di.1 hd;obtain⟨g2,g3⟩:=di.1 hd;have g1:(e.ev env).cells.size=sz:=by simpa using g1
     refine⟨g1,g2,?_⟩;have anR:cY (env b).cells.toList off (e.ev env).cells.toList=(e.ev env).cells.toList:=by
      unfold cY;rw[hc,qf.1];have hz:cells.size<=(e.ev env).cells.size:=by omega
      show List.take 0 cells.toList++(e.ev env).cells.toList++List.drop (0+(e.ev env).cells.toList.length) cells.toList=(e.ev env).cells.toList
      rw[List.take_zero,cx,List.drop_eq_nil_of_le (by simpa using hz),List.append_nil]
     rw[anR];omega
    ·obtain⟨g1,hd⟩:=di.1 hd;obtain⟨g2,g3⟩:=di.1 hd;exact⟨by simpa using g1,g2,g3⟩
  have h':=h.mF (nd:=nd) λb' dU=>⟨tc b' dU,hl b' dU⟩;have fE:=Oa (aat ht) e2 off zQ (e.ev env) h1 h2;have hr:(execOp a.eval o).run P w= .ok .skip (w.setRow k' (cY cells.toList off (e.ev env).cells.toList).toArray):=by
   simp[execOp,ho,he,(h.eval hv),fE]
  unfold kC;rw[hr];simp only[oE];rw[kG];obtain⟨f1,f2⟩:=aeZ (xu:=(cY cells.toList off (e.ev env).cells.toList).toArray) e2;have gd:((cY cells.toList off (e.ev env).cells.toList).toArray).size=bs:=by
   simp only[List.size_toArray];rw[agG oQ];simpa using e3
  rw[hc] at h3;refine hK _ _ _ _ _ (h'.store hb hc iw e2 e4 gd f1 f2) h3 ⟨λ_ RB KF=>
   ⟨f1.mono λj hj=>⟨b,bs,hb,KF b (List.mem_singleton.2 rfl),by rw[hj];omega⟩,λ_ _ hz=>hz⟩,λb2 n2 k2 g1 g2 g3=>f1.block k2 (h.ga g1 g3).1 λhj=>?_⟩
  have hj:k2=k':=hj;subst hj;exact g2 (List.mem_singleton.2 (h.inj b2 b n2 bs g1 hn (h.conv b2 n2 g1 _ g3) hA _ g3 iw))
variable {r0 : CR} {want : Bool} {d' g : Nat}
section
variable {iE : List PanicEntry -> Env -> World -> XS -> Prop} {next : Env -> World -> XS -> Prop}
theorem Qd {op:Op} (gW:qJ g want op r0=some r) (hy:oM (env g) want=true) (hd:gP P iE next r.l env w0 X):
  gP P iE next r0.l env w0 X:=by
 obtain⟨fl,nd,l,c,rb,sb⟩:=r0;unfold qJ at gW;dsimp only at gW;split at gW
 ·grind
 ·split at gW
  ·cases gW
  ·injection gW with e;subst e
   simpa only [gP,Wx,hy,if_true] using hd
 ·split at gW
  ·cases gW
  ·injection gW with e;subst e
   obtain⟨v,h1,_,h2⟩:=hd;exact⟨v,h1 hy,h2⟩
 ·split at gW
  ·cases gW
  ·injection gW with e;subst e
   exact hd.1 hy
 ·cases gW
theorem CF {op:Op} (gW:qJ g want op r0=some r):r.cs=r0.cs/\r.nd=r0.nd/\r.fl=r0.fl/\r.rb=r0.rb/\r.sb=r0.sb:=by
 obtain⟨fl,nd,l,c,rb,sb⟩:=r0;unfold qJ at gW;dsimp only at gW;split at gW<;>grind<;>grind
theorem KP {op:Op} (gW:qJ g want op r0=some r):oR r.l=oR r0.l:=by
 obtain⟨fl,nd,l,c,rb,sb⟩:=r0;unfold qJ at gW;dsimp only at gW;split at gW<;>(try split at gW)<;>first
  |(cases gW;done)
  |(injection gW with e;subst e;rfl)
theorem agJ (nd:List Nat):oR (nd.map .yS)=[]:=by
 induction nd with
 |nil=>rfl
 |cons b nd ih=>assumption
theorem AD (l l':List TI):oR (l++l')=oR l++oR l':=List.flatMap_append
theorem HL (r:CR):oR r.all=oR r.l:=by grind [CR.all,AD,agJ]
theorem WK {m:Bool} (hs:Shape P pl cs (some (g,want)) m o r0) (gW:qJ g want o.op r0=some r) (h:fw pl ds cs env X w0 a w)
  (hl: ∀b,b∈r0.nd->cU (env b)=true) (kO:oM (env g) want=false) (hd:gP P iE next r.l env w0 X) (rD: ∀b,b∈oR r.l-> ∀p,p∈ds.pins->p.1≠b):
  ∃dx,fw pl ds r.cs dx X w0 (a.put o.dst undef) w/\next dx w0 X:=by
 have ae0: ∀(TB:CS) (d:Nat) (e:Ex) (nd rb:List Nat),fw pl ds TB env X w0 a w->o.dst=some d->pl.nN d=true->agC o.op=false->r0=⟨true,nd,(sA pl TB d e).1,(sA pl TB d e).2,rb,[]⟩->
   ∃dx,fw pl ds r.cs dx X w0 (a.put o.dst undef) w/\next dx w0 X:=by
  intro TB d e nd rb h1 kG hp hfa hr;subst hr;unfold qJ sA at gW;by_cases qg:(pl.jx d||pl.mat.contains d)=true
  ·simp only[qg,if_true] at gW;split at gW
   ·cases gW
   ·injection gW with e1;subst e1
    simp only[gP,Wx,kO,aY,if_false] at hd;exact⟨_,by rw[kG];exact h1.bind hp undef (rD d (by simp[oR,TI.KD])),hd⟩
  ·simp only[qg,hfa,aY,if_false] at gW;cases gW
 cases hs with
 |mv x d e ho kG hv hp=>exact ae0 cs d e [] [] h kG hp (by rcases ho with ho|ho<;>rw[ho]<;>rfl) rfl
 |ld t x d b off nd ag sz bs ho kG hx ht hb hp cC ha=>
  obtain⟨_,tc,_⟩:=h.wN hx;exact ae0 (cs.mF nd) d _ nd [b] (h.mF λb' dU=>⟨tc b' dU,hl b' dU⟩) kG hp (by rw[ho];rfl) rfl
 |fa S x f d b off nd fo sz ho kG hx hf O1 cC l8 hz=>
  obtain⟨hb,tc,hk⟩:=h.wN hx;have h':=h.mF (nd:=nd) λb' dU=>⟨tc b' dU,hl b' dU⟩;unfold qJ at gW;simp only[ho,agC,if_true,ah] at gW;subst gW;refine⟨env,?_,hd⟩;rw[kG];exact h'.derive cC l8 O1 _ hb λhg=>by simp only[D3] at hg;simp_all
 |rd d ss kG Ob hn hp=>
  unfold qJ at gW;dsimp only at gW;split at gW
  ·cases gW
  ·injection gW with e;subst e
   obtain⟨v,_,h1,h2⟩:=hd;have hv:=h1 kO;subst hv;exact⟨_,by rw[kG];exact h.bind hp undef (rD d (by simp[oR,TI.KD])),h2⟩
 |D2 d ss kG Ob hn hp=>
  unfold qJ at gW;dsimp only at gW;split at gW
  ·cases gW
  ·injection gW with e;subst e
   exact⟨_,by rw[kG];exact h.bind hp undef (rD d (by simp[oR,TI.KD])),hd.2 kO⟩
 |act ss kG Ob hn=>
  unfold qJ at gW;dsimp only at gW;split at gW
  ·cases gW
  ·injection gW with e;subst e
   exact⟨_,by rw[kG];exact h,hd.2 kO⟩
 |bx t x d sz e ag=>cases WL:(!ag&&sz==1)<;>(unfold qJ at gW;simp only[WL] at gW;cases gW)
 |al t d sz i z ag=>cases WL:(!ag&&sz==1)<;>(unfold qJ at gW;simp only[WL] at gW;cases gW)
 |st t x v b off nd sz bs e ag=>
  cases WL:(!ag&&sz==1)<;>cases anS:(off==0&&sz==bs)<;>(unfold qJ at gW;simp only[WL,anS] at gW;cases gW)
theorem KQ (h:fw pl ds cs env X w0 a w) {gs:Nat} (hg:o.guard=some (j,want)) (mN:(ops[j]?).bind (·.dst)=some gs)
  (hv:valOf pl cs (.tmp gs)=some (.t g)):bU o (yielded ops a.tmps)=oM (env g) want:=by
 have ht:a.tmps[gs]? =some (env g):=by
  simp only[valOf] at hv;split at hv
  ·rename_i gW;injection hv with hv
   injection hv with hv
   subst hv;exact h.qv _ gW
  ·have:=h.sig _ (Ce hv);assumption
 unfold bU yielded;simp only[hg,mN,cJ,ht,oM];cases env g<;>simp
theorem ace {m:Bool} (hc:BW P pl cs ops m o=some r) (iR:r.fl=true) (h:fw pl ds cs env X w0 a w) (hd:gP P iE next r.all env w0 X) (rD: ∀b,b∈oR r.l-> ∀p,p∈ds.pins->p.1≠b):
  ∃v dx,(YF P pl r.rb ops o v a w/\ ∀b,b∈r.rb->YL P pl b ops o v a w)/\fw pl ds r.cs dx X w0 (a.put o.dst v) w/\next dx w0 X:=by
 obtain⟨hl,hd⟩:=KN _ hd;unfold BW at hc;split at hc
 ·rename_i hg;obtain⟨v,dx,h1,h2,h3⟩:=TA (tJ hc) h trivial hl iR hd rD;exact⟨v,dx,⟨.inl ⟨by simp[bU,hg],h1.1⟩,λb hb=>.inl ⟨by simp[bU,hg],h1.2 b hb⟩⟩,h2,h3⟩
 ·rename_i j want hg;split at hc
  ·cases hc
  ·rename_i gs mN;split at hc
   ·rename_i g hv;have hw:=KQ h hg mN hv;cases uo:Ek P pl cs (some (g,want)) m o with
    |none=>rw[uo] at hc;cases hc
    |some r0=>
     rw[uo] at hc;simp only[cJ] at hc;obtain⟨e1,e2,e3,e4,e5⟩:=CF hc;cases hy:oM (env g) want with
     |true=>
      obtain⟨v,dx,h1,h2,h3⟩:=TA (tJ uo) h hy (e2▸hl) (e3▸iR) (Qd hc hy hd) (λb hb=>rD b (by rw[KP hc];exact hb));exact⟨v,dx,⟨.inl ⟨by rw[hw,hy],e4▸h1.1⟩,λb hb=>.inl ⟨by rw[hw,hy],h1.2 b (e4▸hb)⟩⟩,e1▸h2,h3⟩
     |false=>
      obtain⟨dx,h1,h2⟩:=WK (tJ uo) hc h (e2▸hl) hy hd rD;exact⟨undef,dx,⟨.inr ⟨by rw[hw,hy],rfl⟩,λ_ _=>.inr ⟨by rw[hw,hy],rfl⟩⟩,h1,h2⟩
   ·cases hc
theorem WM {m:Bool} (hc:BW P pl cs ops m o=some r) (iR:r.fl=true): ∀x,o.dst=some x->look pl.boxes x=none:=by
 unfold BW at hc;split at hc
 ·exact Tz (tJ hc) iR
 ·rename_i j want hg;split at hc
  ·cases hc
  ·rename_i gs mN;split at hc
   ·rename_i g hv;cases uo:Ek P pl cs (some (g,want)) m o with
    |none=>grind
    |some r0=>
     rw[uo] at hc;simp only[cJ] at hc;exact Tz (tJ uo) ((CF hc).2.2.1▸iR)
   ·cases hc
theorem ajC {m:Bool} (hc:BW P pl cs ops m o=some r) (iR:r.fl=true): ∀x,o.dst=some x->pl.jx x=true->x∈oR r.l:=by
 unfold BW at hc;split at hc
 ·exact Qc (tJ hc) iR
 ·rename_i j want hg;split at hc
  ·cases hc
  ·rename_i gs mN;split at hc
   ·rename_i g hv;cases uo:Ek P pl cs (some (g,want)) m o with
    |none=>grind
    |some r0=>
     rw[uo] at hc;simp only[cJ] at hc;rw[KP hc];exact Qc (tJ uo) ((CF hc).2.2.1▸iR)
   ·cases hc
theorem fw.apart (h:fw pl ds cs env X w0 a w) {m:Bool} (hc:BW P pl cs ops m o=some r) (iR:r.fl=true) (hm: ∀b,b∈oR r.l-> ∀p,p∈ds.pins->p.1≠b):
  ∀x,o.dst=some x-> ∀p,p∈ds.pins->p.1≠x:=λx hx p hp e=>by
 rcases(h.Ah p hp).2 with⟨n,_,hn,_⟩|hg
 ·rw[e,WM hc iR x hx] at hn;cases hn
 ·exact hm x (ajC hc iR x hx (e▸hg)) p hp e
theorem Qe {m:Bool} (hc:BW P pl cs ops m o=some r) (h:fw pl ds cs env X w0 a w) (hd:gP P iE next r.all env w0 X)

  (hK: ∀a' w' dx X' dZ,fw pl ds r.cs dx X' dZ a' w'->next dx dZ X'->zM (m=false) pl r.sb a w a' w'->K a' w')
  (rD: ∀b,b∈oR r.l-> ∀p,p∈ds.pins->p.1≠b)
  (hQ: ∀ch w' dx X' dZ,Kp X' dZ w'->zD pl ds dx X' a w'->iE ch dx dZ X'->Q (.panic ch) a w'):
  if bU o (yielded ops a.tmps)=true then o.wp P a w K Q else K (a.put o.dst undef) w:=by
 cases iR:r.fl with
 |true=>
  obtain⟨v,dx,hy,h1,h2⟩:=ace hc iR h hd rD;rcases hy.1 with⟨hw,hv⟩|⟨hw,hv⟩
  ·rw[if_pos hw];unfold kC;rw[hv w (Fr.refl _ w)];exact hK _ _ _ _ _ h1 h2 ⟨λ_=>rP.refl pl _ a w _ _ (WM hc iR),zL.refl _ _ _ _⟩
  ·rw[if_neg gQ];subst hv;exact hK _ _ _ _ _ h1 h2 ⟨λ_=>rP.refl pl _ a w _ _ (WM hc iR),zL.refl _ _ _ _⟩
 |false=>
  obtain⟨hl,hd⟩:=KN _ hd;unfold BW at hc;split at hc
  ·rename_i hg;rw[if_pos (by simp[bU,hg])];exact TC (tJ hc) h trivial hl iR hd hK rD hQ
  ·rename_i j want hg;split at hc
   ·cases hc
   ·rename_i gs mN;split at hc
    ·rename_i g hv;have hw:=KQ h hg mN hv;cases uo:Ek P pl cs (some (g,want)) m o with
     |none=>rw[uo] at hc;cases hc
     |some r0=>
      rw[uo] at hc;simp only[cJ] at hc;obtain⟨e1,e2,e3,e4,e5⟩:=CF hc;cases hy:oM (env g) want with
      |true=>
       rw[if_pos (by rw[hw,hy])];exact TC (tJ uo) h hy (e2▸hl) (e3▸iR) (Qd hc hy hd) (e5▸e1▸hK) (λb hb=>rD b (by rw[KP hc];exact hb)) hQ
      |false=>
       rw[if_neg gQ];obtain⟨dx,h1,h2⟩:=WK (tJ uo) hc h (e2▸hl) hy hd rD;refine hK _ _ _ _ _ h1 h2 ⟨λ_=>?_,zL.refl _ _ _ _⟩;refine rP.fc (Ext.refl w) λb n hb k hk sI=>?_;cases kG:o.dst with
       |none=>rw[kG] at sI;exact sI
       |some x=>
        rw[kG] at sI;by_cases gq:b=x
        ·subst gq;by_cases cC:b<a.tmps.size
         ·rw[rL _ _ _ _ cC,if_pos rfl] at sI;cases sI
         ·rw[qu (by simp[nM];omega)] at sI;cases sI
        ·rwa [fX _ _ _ _ gq] at sI
    ·cases hc
theorem KR (hN: ∀qe a' w' dx X' dZ,fw pl ds qe dx X' dZ a' w'->next dx dZ X'->Q .normal a' w')
  (hQ: ∀ch a' w' dx X' dZ,a'.defers=ds.ds->Kp X' dZ w'->zD pl ds dx X' a' w'->iE ch dx dZ X'->Q (.panic ch) a' w'): ∀(l:List Oper) (cs:CS) (tl:List TI) (env:Env) (X:XS) (w0:World) (a:Act) (w:World),
  EO P pl ops l cs=some tl->(∀b,b∈oR tl-> ∀p,p∈ds.pins->p.1≠b)->fw pl ds cs env X w0 a w->gP P iE next tl env w0 X->wpList P ops Q l a w
 |[],cs,tl,env,X,w0,a,w,hc,_,h,hd=>by
  simp only[EO,ah] at hc;subst hc;exact hN _ _ _ _ _ _ h hd
 |o::l,cs,tl,env,X,w0,a,w,hc,hm,h,hd=>by
  simp only[EO] at hc;cases hr:BW P pl cs ops true o with
  |none=>grind
  |some r=>
   cases hs:EO P pl ops l r.cs with
   |none=>grind
   |some CU=>
    simp only[hr,hs,aX,ah] at hc;subst hc;rw[CE] at hd;rw[AD,HL] at hm;refine wpList_step λK hK=>Qe hr h hd (λa' w' dx X' dZ h1 h2 _=>hK _ _ (KR hN hQ l r.cs CU dx X' dZ a' w' hs (λb hb=>hm b (dF _ hb)) h1 h2)) (λb hb=>hm b (bJ _ hb)) ?_;exact λch w' dx X' dZ hx xv hp=>hQ ch a w' dx X' dZ h.defers hx xv hp
theorem AE: ∀{l:List Nat} {i:Nat} {r:CR},Cd P pl ops cs bC l=some (i,r)->
  i∈l/\r.fl=true/\M9 pl ops bC i r.rb=true/\ ∃o,ops[i]? =some o/\BW P pl cs ops (qZ pl ops i) o=some r
 |[],_,_,h=>by cases h
 |j::l,i,r,h=>by
  simp only[Cd] at h;split at h
  ·rename_i x hx;split at h
   ·rename_i hc;simp only[ah,cD] at h;obtain⟨rfl,rfl⟩:=h
    grind
   ·obtain⟨h1,h2⟩:=AE h;simp_all
  ·obtain⟨h1,h2⟩:=AE h;simp_all
theorem Oc {b:Nat×Nat×Bool×Value} (h:IK P pl o=some b) (m:Bool):BW P pl cs ops m o=some ⟨false,[],[AA b],yi cs b.1,[],[]⟩:=by
 unfold IK at h;split at h
 ·rename_i t d hg wQ hd;split at h
  ·rename_i sz z ag s h1 h2 h3;split at h
   ·rename_i hc;simp only[ah] at h;subst h;simp only[BW,hg,Ek,wQ,hd,h1,h2,Wz,h3,hc,if_true,AA,yi]
   ·cases h
  ·cases h
 ·cases h
theorem agK (env:Env) (h:d≠d') (v v':Value):jY (jY env d v) d' v'=jY (jY env d' v') d v:=by
 funext s
 by_cases h1:s=d
 ·grind [iO,mS]
 ·by_cases h2:s=d'
  ·subst h2;rw[mS,iO _ _ (Ne.symm h),mS]
  grind [iO]
theorem ae1 {b b':Nat×Nat×Bool×Value} (cj:b.1≠b'.1) {l:List TI} (h:gP P iE next (AA b::AA b'::l) env w0 X):gP P iE next (AA b'::AA b::l) env w0 X:=by
 obtain⟨d,n,o,z⟩:=b;obtain⟨d',n',o',z'⟩:=b';have cj:d≠d':=cj;cases o<;>cases o'<;>simp only[AA,gP,Wx,Ex.ev,di,if_true,if_false,aY] at h⊢ <;>obtain⟨h1,h2,h3⟩:=h<;>grind [agK]
theorem acf {dx:Env} (h:fw pl ds (yi (yi cs d') d) dx X' dZ a' w'):fw pl ds (yi (yi cs d) d') dx X' dZ a' w':=by
 refine⟨h.size,h.defers,h.Ah,h.ext,h.wO,h.qv,λp hp=>h.sig p ?_,h.box,h.inj,h.conv,λb hb=>h.live b ?_,λp hp=>h.ptr p ?_⟩
 ·simp only[yi,CS.kill,CS.mF,iy] at hp⊢
  grind
 ·simp only[yi,CS.kill,CS.mF,sy,List.mem_singleton] at hb⊢
  grind
 ·simp only[yi,CS.kill,CS.mF,iy] at hp⊢
  grind
theorem abt {l:List Nat} (h:aca l i=true):l=[i]:=by
 unfold aca at h
 grind
theorem WN (ho:ops[i]? =some o) (hx:BW P pl cs ops (qZ pl ops i) o=some r) (TD:r.sb=[]) (h:fw pl ds cs env X w0 a w) (hd:gP P iE next r.all env w0 X) {fuel:Nat}
  (rD: ∀b,b∈oR r.l-> ∀p,p∈ds.pins->p.1≠b)
  (hQ: ∀ch a' w' dx X' dZ,a'.defers=ds.ds->Kp X' dZ w'->zD pl ds dx X' a' w'->iE ch dx dZ X'->Q (.panic ch) a' w')
  (hK: ∀a' w' dx X' dZ,fw pl ds r.cs dx X' dZ a' w'->next dx dZ X'->vP P pl ops Q fuel (bC.setIfInBounds i true) a' w'):
  wpOp P ops Q i (λa' w'=>(∀o,ops[i]? =some o->zM (qZ pl ops i=false) pl (wz pl ops o) a w a' w')/\vP P pl ops Q fuel (bC.setIfInBounds i true) a' w') a w:=by
 have ER:=Qe (ops:=ops) (K:=λa' w'=>(∀o',ops[i]? =some o'->zM (qZ pl ops i=false) pl (wz pl ops o') a w a' w')/\vP P pl ops Q fuel (bC.setIfInBounds i true) a' w') (Q:=Q) hx h hd
  (λa' w' dx X' dZ h1 h2 h3=>⟨λo' vQ=>⟨λzi=>(h3.1 zi).sub λb hb=>(by rw[TD] at hb;cases hb),h3.2.sub λb hb=>(by rw[TD] at hb;cases hb)⟩,hK a' w' dx X' dZ h1 h2⟩)
  rD (λch w' dx X' dZ hk xv hp=>hQ ch a w' dx X' dZ h.defers hk xv hp)
 unfold wpOp;simp only[ho] at ER⊢;split
 ·grind
 grind
theorem HM (hN: ∀qe a' w' dx X' dZ,fw pl ds qe dx X' dZ a' w'->next dx dZ X'->Q .normal a' w')
  (hQ: ∀ch a' w' dx X' dZ,a'.defers=ds.ds->Kp X' dZ w'->zD pl ds dx X' a' w'->iE ch dx dZ X'->Q (.panic ch) a' w')
  (JO: ∀c a (d:Option Nat) v w,(∀x,d=some x-> ∀p,p∈ds.pins->p.1≠x)->Q (.panic c) (a.put d v) w->Q (.panic c) a w) (DC:wu ops=true):
  ∀(fuel:Nat) (bC:Array Bool) (cs:CS) (tl:List TI) (env:Env) (X:XS) (w0:World) (a:Act) (w:World),
  yj P pl ops fuel bC cs=some tl->(∀b,b∈oR tl-> ∀p,p∈ds.pins->p.1≠b)->fw pl ds cs env X w0 a w->gP P iE next tl env w0 X->vP P pl ops Q fuel bC a w
 |0,bC,cs,tl,env,X,w0,a,w,hc,_,h,hd=>by
  simp only[yj] at hc;split at hc
  ·rename_i hr;simp only[ah] at hc;subst hc;exact⟨by simpa using hr,hN _ _ _ _ _ _ h hd⟩
  ·cases hc
 |fuel+1,bC,cs,tl,env,X,w0,a,w,hc,hm,h,hd=>by
  simp only[yj] at hc;split at hc
  ·rename_i i r hf;obtain⟨h1,h2,h3,o,ho,h4⟩:=AE hf;cases hs:yj P pl ops fuel (bC.setIfInBounds i true) r.cs with
   |none=>simp[hs] at hc
   |some CU=>
    simp only[hs,aX,ah] at hc;subst hc;rw[CE] at hd;rw[AD,HL] at hm;obtain⟨v,dx,hy,hS,hn⟩:=ace h4 h2 h hd (λb hb=>hm b (bJ _ hb));have Gm: ∀j oj,ops[j]? =some oj->j≠i->bC.getD j true=false-> ¬(j∈G1 ops bC i\/j=i\/(bC.getD j true=false/\ ∃oj,ops[j]? =some oj/\waits oj i=true))->_:=
     λj oj hj cj HJ kO=>P7 ho h3 j oj hj cj HJ (λhb=>kO (.inl hb)) (by
      cases hw:waits oj i with
      |false=>rfl
      |true=>exact absurd (.inr (.inr ⟨HJ,oj,hj,hw⟩)) kO)
    obtain⟨Y,P6,hY,fE⟩: ∃Y:Act->World->Prop,(∀a w,Y a w->Yx P ops o v a w)/\Y a w/\ ∀j oj,oj.dst=oj.dst->o.apart ops oj=true->(qZ pl ops j=false\/CD o=true\/Tu o r.rb=true)->(∀b,b∈wz pl ops oj-> ¬b∈r.rb)->
      WB pl ops o oj (qZ pl ops j=false) (wz pl ops oj) Y:=by
     cases zi:Tu o r.rb with
     |false=>exact⟨YF P pl r.rb ops o v,λ_ _ h=>h.yx,hy.1,λj oj _ _ h4 h5=>YF.stb (h4.imp id λh=>h.elim id λh=>by cases h) h5⟩
     |true=>
      unfold Tu at zi;split at zi
      ·rename_i t x wQ;have hxr:x∈r.rb:=by simpa using zi
       refine⟨YL P pl x ops o v,λ_ _ h=>h.yx,hy.2 x hxr,λj oj _ KG _ h5=>YL.stb (λd hd hdx=>?_) λhm=>h5 x hm hxr⟩;subst hdx;refine(wy KG).2.2 d hd (bJ _ (List.mem_filterMap.2 ⟨.tmp d,?_,rfl⟩));simp[wQ,Op.operands]
      ·cases zi
    refine KH P6 ho (xp DC) (Tx ho h3) (λc a' w' hq=>JO c a' o.dst v w' (h.apart h4 h2 λb hb=>hm b (bJ _ hb)) hq) fuel bC a w
     (λj=>j∈G1 ops bC i\/j=i\/(bC.getD j true=false/\ ∃oj,ops[j]? =some oj/\waits oj i=true)) (.inr (.inl rfl)) (λj hj=>?_)
     (λj oj hj cj HJ kO=>have h:=Gm j oj hj cj HJ kO;⟨h.1,fE j oj rfl h.1 h.2.1 h.2.2⟩) h1 hY ?_
    ·rcases hj with hj|rfl|⟨hu,oj,EP,hw⟩
     ·rcases Tw j hj with h|⟨h,oj,k,q1,q2,q3⟩
      ·exact .inl h
      ·exact .inr ⟨h,oj,k,q1,q2,.inl q3⟩
     ·exact .inl rfl
     ·exact .inr ⟨hu,oj,i,EP,hw,.inr (.inl rfl)⟩
    exact HM hN hQ JO DC fuel _ r.cs CU dx X w0 _ w hs (λb hb=>hm b (dF _ hb)) hS hn
  ·split at hc
   ·rename_i i hr;split at hc
    ·rename_i o ho;split at hc
     ·rename_i r hx;split at hc
      ·rename_i TD;cases hs:yj P pl ops fuel (bC.setIfInBounds i true) r.cs with
       |none=>simp[hs] at hc
       |some CU=>
        simp only[hs,aX,ah] at hc;subst hc;rw[CE] at hd;rw[AD,HL] at hm;refine⟨λh0=>(by rw[hr] at h0;cases h0),λi' ES=>?_⟩;rw[hr] at ES;have hii:=List.mem_singleton.1 ES;subst hii;have rR: ∀b,b∈r.sb->b∈wz pl ops o:=λb hb=>by have:=List.all_eq_true.1 TD b hb;simpa using this
        have ER:=Qe (ops:=ops) (K:=λa' w'=>(∀o',ops[i']? =some o'->zM (qZ pl ops i'=false) pl (wz pl ops o') a w a' w')/\vP P pl ops Q fuel (bC.setIfInBounds i' true) a' w') (Q:=Q) hx h hd
         (λa' w' dx X' dZ h1 h2 h3=>⟨λo' vQ=>by rw[ho] at vQ;injection vQ with vQ;subst vQ;exact⟨λzi=>(h3.1 zi).sub rR,h3.2.sub rR⟩,HM hN hQ JO DC fuel _ r.cs CU dx X' dZ a' w' hs (λb hb=>hm b (dF _ hb)) h1 h2⟩)
         (λb hb=>hm b (bJ _ hb)) (λch w' dx X' dZ hk xv hp=>hQ ch a w' dx X' dZ h.defers hk xv hp)
        unfold wpOp;simp only[ho] at ER⊢;split
        ·rename_i hw;rw[if_pos hw] at ER;exact .inl ER
        ·rename_i hw;rw[if_neg hw] at ER;omega
      ·cases hc
     ·cases hc
    ·cases hc
   ·rename_i i j hr;split at hc
    ·rename_i bi hp;cases hs:yj P pl ops fuel (bC.setIfInBounds i true) (yi cs bi.1)with
     |none=>simp[hs] at hc
     |some CU=>
      simp only[hs,aX,ah] at hc;subst hc;have hmc: ∀(i:TI) (l:List TI),oR (i::l)=oR [i]++oR l:=λi l=>AD [i] l;rw[hmc] at hm;unfold ai5 at hp;split at hp
      ·rename_i bi' bj Qf hbj;split at hp
       ·rename_i hpc;simp only[ah] at hp;subst hp;simp only[aD,cB,beq_eq_false_iff_ne] at hpc;obtain⟨⟨cj,hri⟩,hrj⟩:=hpc;replace hri:=abt hri;replace hrj:=abt hrj;obtain⟨oi,hoi,hai⟩:=Option.bind_eq_some_iff.1 Qf;obtain⟨oj,EP,haj⟩:=Option.bind_eq_some_iff.1 hbj;have TE:=λ(cs:CS) (m:Bool)=>Oc (cs:=cs) (ops:=ops) hai m;have hcj:=λ(cs:CS) (m:Bool)=>Oc (cs:=cs) (ops:=ops) haj m;refine⟨λh0=>(by rw[hr] at h0;cases h0),λi' ES=>?_⟩;rw[hr] at ES;rcases List.mem_cons.1 ES with rfl|ES
        ·exact WN hoi (TE cs _) rfl h (hd:gP P iE (gP P iE next CU) [AA bi'] env w0 X) (λb hb=>hm b (bJ _ hb)) hQ λa' w' dx X' dZ h1 h2=>HM hN hQ JO DC fuel _ _ CU dx X' dZ a' w' hs (λb hb=>hm b (dF _ hb)) h1 h2
        ·have KI:=List.mem_singleton.1 ES;subst KI;cases fuel with
         |zero=>
          simp only[yj,hri] at hs;cases hs
         |succ f=>
          simp only[yj,hri,Cd,EP,cJ,hcj,Bool.false_and,aY,if_false,List.all_nil,if_true] at hs;cases bm:yj P pl ops f ((bC.setIfInBounds i true).setIfInBounds i' true) (yi (yi cs bi'.1) bj.1)with
          |none=>simp[bm] at hs
          |some WO=>
           simp only[bm,aX,ah] at hs;have htl:AA bj::WO=CU:=hs;subst htl;rw[hmc (AA bj) WO] at hm;refine WN EP (hcj cs _) rfl h ((ae1 cj hd):gP P iE (gP P iE next (AA bi'::WO)) [AA bj] env w0 X) (λb hb=>hm b (dF _ (bJ _ hb))) hQ λa' w' dx X' dZ h1 h2=>?_;refine⟨λh0=>(by rw[hrj] at h0;cases h0),λk hk=>?_⟩;rw[hrj] at hk;have hki:=List.mem_singleton.1 hk;subst hki;refine WN hoi (TE _ _) rfl h1 (h2:gP P iE (gP P iE next WO) [AA bi'] dx dZ X') (λb hb=>hm b (bJ _ hb)) hQ λa'' lC anU wM ET h3 h4=>?_;have hkj:k≠i':=λe=>by
            subst e;rw[hoi] at EP;cases EP;rw[hai] at haj;cases haj;omega
           rw[ug _ _ hkj.symm];exact HM hN hQ JO DC f _ _ WO anU wM ET a'' lC bm (λb hb=>hm b (dF _ (dF _ hb))) (acf h3) h4
       ·cases hp
      ·cases hp
    ·cases hc
   ·cases hc
theorem TF {f:Nat->Option T} : ∀{l:List Nat} {t:T},Sd l f=some t-> ∀i∈l,∃t',f i=some t'/\(∀K env w X,den P t K env w X->den P t' K env w X)/\ ∀b,b∈t'.mk->b∈t.mk
 |[],t,h,i,hi=>by cases hi
 |[j],t,h,i,hi=>by grind [Sd]
 |j::k::r,t,h,i,hi=>by
  simp only[Sd] at h;split at h
  ·rename_i a b ha hb;simp only[ah] at h;subst h;rcases List.mem_cons.1 hi with rfl|hi
   ·exact⟨a,ha,λ_ _ _ _ h=>h.1,λb hb=>bJ _ hb⟩
   ·obtain⟨t',h1,h2,h3⟩:=TF (l:=k::r) hb i hi;exact⟨t',h1,λ_ _ _ _ h=>h2 _ _ _ _ h.2,λb hb=>dF _ (h3 b hb)⟩
  ·cases h
theorem O2 {K:lR} (hN: ∀qe a' w' dx X' dZ,fw pl ds qe dx X' dZ a' w'->K .normal dx dZ X'->Q .normal a' w')
  (hQ: ∀ch a' w' dx X' dZ,a'.defers=ds.ds->Kp X' dZ w'->zD pl ds dx X' a' w'->K (.panic ch) dx dZ X'->Q (.panic ch) a' w')
  (JO: ∀c a (d:Option Nat) v w,(∀x,d=some x-> ∀p,p∈ds.pins->p.1≠x)->Q (.panic c) (a.put d v) w->Q (.panic c) a w) (DC:wu ops=true):
  ∀(fuel:Nat) (bC:Array Bool) (cs:CS) (t:T) (env:Env) (X:XS) (w0:World) (a:Act) (w:World),
  CP P pl ops fuel bC cs=some t->(∀b,b∈t.mk-> ∀p,p∈ds.pins->p.1≠b)->fw pl ds cs env X w0 a w->den P t K env w0 X->vP P pl ops Q fuel bC a w
 |0,bC,cs,t,env,X,w0,a,w,hc,_,h,hd=>by
  simp only[CP] at hc;split at hc
  ·rename_i hr;simp only[ah] at hc;subst hc;exact⟨by simpa using hr,hN _ _ _ _ _ _ h hd⟩
  ·cases hc
 |fuel+1,bC,cs,t,env,X,w0,a,w,hc,hm,h,hd=>by
  simp only[CP] at hc;split at hc
  ·rename_i i r hf;obtain⟨h1,h2,h3,o,ho,h4⟩:=AE hf;cases hs:CP P pl ops fuel (bC.setIfInBounds i true) r.cs with
   |none=>simp[hs] at hc
   |some CU=>
    simp only[hs,aX,ah] at hc;subst hc;have hd:gP P (λch=>K (.panic ch)) (λe w X=>den P CU K e w X) r.all env w0 X:=hd;have hm: ∀b,b∈oR r.l++CU.mk-> ∀p,p∈ds.pins->p.1≠b:=by
     simp only[T.mk,HL] at hm;exact hm
    obtain⟨v,dx,hy,hS,hn⟩:=ace h4 h2 h hd (λb hb=>hm b (bJ _ hb));have Gm: ∀j oj,ops[j]? =some oj->j≠i->bC.getD j true=false-> ¬(j∈G1 ops bC i\/j=i\/(bC.getD j true=false/\ ∃oj,ops[j]? =some oj/\waits oj i=true))->_:=
     λj oj hj cj HJ kO=>P7 ho h3 j oj hj cj HJ (λhb=>kO (.inl hb)) (by
      cases hw:waits oj i with
      |false=>rfl
      |true=>exact absurd (.inr (.inr ⟨HJ,oj,hj,hw⟩)) kO)
    obtain⟨Y,P6,hY,fE⟩: ∃Y:Act->World->Prop,(∀a w,Y a w->Yx P ops o v a w)/\Y a w/\ ∀j oj,oj.dst=oj.dst->o.apart ops oj=true->(qZ pl ops j=false\/CD o=true\/Tu o r.rb=true)->(∀b,b∈wz pl ops oj-> ¬b∈r.rb)->
      WB pl ops o oj (qZ pl ops j=false) (wz pl ops oj) Y:=by
     cases zi:Tu o r.rb with
     |false=>exact⟨YF P pl r.rb ops o v,λ_ _ h=>h.yx,hy.1,λj oj _ _ h4 h5=>YF.stb (h4.imp id λh=>h.elim id λh=>by cases h) h5⟩
     |true=>
      unfold Tu at zi;split at zi
      ·rename_i t x wQ;have hxr:x∈r.rb:=by simpa using zi
       refine⟨YL P pl x ops o v,λ_ _ h=>h.yx,hy.2 x hxr,λj oj _ KG _ h5=>YL.stb (λd hd hdx=>?_) λhm=>h5 x hm hxr⟩;subst hdx;refine(wy KG).2.2 d hd (bJ _ (List.mem_filterMap.2 ⟨.tmp d,?_,rfl⟩));simp[wQ,Op.operands]
      ·cases zi
    refine KH P6 ho (xp DC) (Tx ho h3) (λc a' w' hq=>JO c a' o.dst v w' (h.apart h4 h2 λb hb=>hm b (bJ _ hb)) hq) fuel bC a w
     (λj=>j∈G1 ops bC i\/j=i\/(bC.getD j true=false/\ ∃oj,ops[j]? =some oj/\waits oj i=true)) (.inr (.inl rfl)) (λj hj=>?_)
     (λj oj hj cj HJ kO=>have h:=Gm j oj hj cj HJ kO;⟨h.1,fE j oj rfl h.1 h.2.1 h.2.2⟩) h1 hY ?_
    ·rcases hj with hj|rfl|⟨hu,oj,EP,hw⟩
     ·rcases Tw j hj with h|⟨h,oj,k,q1,q2,q3⟩
      ·exact .inl h
      ·exact .inr ⟨h,oj,k,q1,q2,.inl q3⟩
     ·exact .inl rfl
     ·exact .inr ⟨hu,oj,i,EP,hw,.inr (.inl rfl)⟩
    exact O2 hN hQ JO DC fuel _ r.cs CU dx X w0 _ w hs (λb hb=>hm b (dF _ hb)) hS hn
  ·refine⟨λh0=>?_,λi' ES=>?_⟩
   ·rw[h0] at hc;simp[Sd] at hc
   obtain⟨t',h1,h2,h3⟩:=TF (P:=P) hc i' ES;split at h1
   ·rename_i o ho;split at h1
    ·rename_i r hx;split at h1
     ·rename_i TD;cases hs:CP P pl ops fuel (bC.setIfInBounds i' true) r.cs with
      |none=>simp[hs] at h1
      |some CU=>
       simp only[hs,aX,ah] at h1;subst h1;have hd:gP P (λch=>K (.panic ch)) (λe w X=>den P CU K e w X) r.all env w0 X:=h2 _ _ _ _ hd;have hm: ∀b,b∈oR r.l++CU.mk-> ∀p,p∈ds.pins->p.1≠b:=λb hb=>hm b (h3 b (by
        simp only[T.mk,HL];exact hb))
       have rR: ∀b,b∈r.sb->b∈wz pl ops o:=λb hb=>by have:=List.all_eq_true.1 TD b hb;simpa using this
       have ER:=Qe (ops:=ops) (K:=λa' w'=>(∀o',ops[i']? =some o'->zM (qZ pl ops i'=false) pl (wz pl ops o') a w a' w')/\vP P pl ops Q fuel (bC.setIfInBounds i' true) a' w') (Q:=Q) hx h hd
        (λa' w' dx X' dZ h1 h2 h3=>⟨λo' vQ=>by rw[ho] at vQ;injection vQ with vQ;subst vQ;exact⟨λzi=>(h3.1 zi).sub rR,h3.2.sub rR⟩,O2 hN hQ JO DC fuel _ r.cs CU dx X' dZ a' w' hs (λb hb=>hm b (dF _ hb)) h1 h2⟩)
        (λb hb=>hm b (bJ _ hb)) (λch w' dx X' dZ hk xv hp=>hQ ch a w' dx X' dZ h.defers hk xv hp)
       unfold wpOp;simp only[ho] at ER⊢;split
       ·rename_i hw;rw[if_pos hw] at ER;exact .inl ER
       ·rename_i hw;rw[if_neg hw] at ER;omega
     ·cases h1
    ·cases h1
   ·cases h1
end
variable {M : List Nat}
theorem EU: ∀k,X k->grow X w w' k:=λ_ h=>.inl h
theorem TG {m:Bool} {n n':Value->World->XS->Prop} {p p':List PanicEntry->World->XS->Prop} {r:Result Next} (h:jV P m X w n p r)
  (hn: ∀v w' X',(∀k,X k->X' k)->n v w' X'->n' v w' X') (hp: ∀c w' X',(∀k,X k->X' k)->p c w' X'->p' c w' X'):jV P m X w n' p' r:=by
 cases r with
 |ok x w'=>
  cases x<;>simp only[jV] at h⊢
  case value v=>grind [EU]
  case skip=>grind [EU]
  case enter f args=>
   refine⟨h.1,h.2.mono λe lC he=>?_⟩;cases e with
   |returned v=>grind [EU]
   |panicked c=>grind [EU]
   |outgrown=>exact he
 |halt x w'=>
  cases x<;>simp only[jV] at h⊢
  grind [EU]
theorem ajD {v:Value} (h: ¬s=d):jY env d v s=env s:=iO _ _ h
theorem agL {d:Option Nat} {v:Value} (h: ¬s∈d.toList):KC env d v s=env s:=by
 cases d with
 |none=>rfl
 |some d=>exact iO _ _ gQ
theorem Qg: ∀(l:List TI) {iE O3:List PanicEntry->Env->World->XS->Prop} {next next':Env->World->XS->Prop} {env:Env} {w:World} {X:XS},
  gP P iE next l env w X->
  (∀e w' X',(∀k,X k->X' k)->(∀s,¬s∈l.flatMap TI.wr->e s=env s)->next e w' X'->next' e w' X')->
  (∀c e w' X',(∀k,X k->X' k)->(∀s,¬s∈l.flatMap TI.wr->e s=env s)->iE c e w' X'->O3 c e w' X')->gP P O3 next' l env w X
 |[],_,_,_,_,_,_,_,h,hn,_=>hn _ _ _ (λ_ h=>h) (λ_ _=>rfl) h
 |i::l,iE,O3,next,next',env,w,X,h,hn,hp=>by
  have step: ∀(sR:Env) (w1:World) (X1:XS),(∀k,X k->X1 k)->(∀s,¬s∈i.wr->sR s=env s)->gP P iE next l sR w1 X1->gP P O3 next' l sR w1 X1:=by
   intro sR w1 X1 KS he1 h1;refine Qg l h1 (λe w' X' hX he hq=>hn e w' X' (λk hk=>hX k (KS k hk)) (λs hs=>?_) hq) (λc e w' X' hX he hq=>hp c e w' X' (λk hk=>hX k (KS k hk)) (λs hs=>?_) hq)
   ·simp only[Ag,sy,not_or] at hs
    grind
   ·simp only[Ag,sy,not_or] at hs
    grind
  have pst: ∀c w1 X1,(∀k,X k->X1 k)->iE c env w1 X1->O3 c env w1 X1:=λc w1 X1 KS hq=>hp c env w1 X1 KS (λ_ _=>rfl) hq;have st1: ∀(d:Nat) (v:Value) (w1:World) (X1:XS),i.wr=[d]->(∀k,X k->X1 k)->gP P iE next l (jY env d v) w1 X1->gP P O3 next' l (jY env d v) w1 X1:=
   λd v w1 X1 hw KS h1=>step _ _ _ KS (λs hs=>ajD (by rw[hw] at hs;simpa using hs)) h1
  have stO: ∀(d:Option Nat) (v:Value) (w1:World) (X1:XS),i.wr=d.toList->(∀k,X k->X1 k)->gP P iE next l (KC env d v) w1 X1->gP P O3 next' l (KC env d v) w1 X1:=
   λd v w1 X1 hw KS h1=>step _ _ _ KS (λs hs=>agL (by rw[hw] at hs;exact hs)) h1
  cases i with
  |yS b=>exact di.2 ⟨(di.1 h).1,step _ _ _ (λ_ h=>h) (λ_ _=>rfl) (di.1 h).2⟩
  |set d e=>exact st1 d _ _ _ rfl (λ_ h=>h) h
  |box b n e=>exact di.2 ⟨(di.1 h).1,st1 b _ _ _ rfl (λ_ h=>h) (di.1 h).2⟩
  |put b off n e=>
   have h2:=di.1 (di.1 h).2;exact di.2 ⟨(di.1 h).1,di.2 ⟨h2.1,st1 b _ _ _ rfl (λ_ h=>h) h2.2⟩⟩
  |Az b e=>exact di.2 ⟨(di.1 h).1,st1 b _ _ _ rfl (λ_ h=>h) (di.1 h).2⟩
  |Wu b off e=>exact di.2 ⟨(di.1 h).1,st1 b _ _ _ rfl (λ_ h=>h) (di.1 h).2⟩
  |fill b n e=>
   have h2:=di.1 (di.1 h).2;exact di.2 ⟨(di.1 h).1,di.2 ⟨h2.1,st1 b _ _ _ rfl (λ_ h=>h) h2.2⟩⟩
  |rd d op ty ss=>
   obtain⟨v,h1,h2⟩:=h;exact⟨v,h1,st1 d _ _ _ rfl (λ_ h=>h) h2⟩
  |D2 d op ty ss m=>exact λwa HK=>TG (h wa HK) (λv w' X' hX hq=>stO d v w' X' rfl hX hq) (λc w' X' hX hq=>pst c w' X' hX hq)
  |Wv g want d e=>exact st1 d _ _ _ rfl (λ_ h=>h) h
  |grd g want d op ty ss=>
   obtain⟨v,h1,h2,h3⟩:=h;exact⟨v,h1,h2,st1 d _ _ _ rfl (λ_ h=>h) h3⟩
  |Ww g want d op ty ss m=>
   exact⟨λhg wa HK=>TG (h.1 hg wa HK) (λv w' X' hX hq=>stO d v w' X' rfl hX hq) (λc w' X' hX hq=>pst c w' X' hX hq),λhg=>stO d _ _ _ rfl (λ_ h=>h) (h.2 hg)⟩
theorem WQ {e:Env} (h:s∈M):merge M e env s=e s:=by simp[merge,yh.2 h]
theorem Gn {e:Env} (h: ¬s∈M):merge M e env s=env s:=by
 have:yB M s=false:=by
  cases hx:yB M s with
  |false=>rfl
  |true=>exact absurd (yh.1 hx) h
 simp[merge,this]
theorem mc: ∀(t:T) {K K':lR} {env:Env} {w:World} {X:XS},den P t K env w X->
  (∀ex e w' X',(∀k,X k->X' k)->(∀s,¬s∈t.wr->e s=env s)->K ex e w' X'->K' ex e w' X')->den P t K' env w X
 | .BV l,K,K',env,w,X,h,hk=>Qg l h (λe w' X' hX he hq=>hk _ e w' X' hX he hq) (λc e w' X' hX he hq=>hk _ e w' X' hX he hq)
 | .seq a b,K,K',env,w,X,h,hk=>by
  refine mc a (K:=lR.Gj (λe w X=>den P b K e w X) K) h λex e w' X' hX he hq=>?_;have Ai: ∀s,¬s∈(T.seq a b).wr->e s=env s:=λs hs=>he s (λhc=>hs (bJ _ hc));cases ex with
  |normal=>
   refine mc b (K:=K) hq λex2 e2 w2 X2 hX2 he2 CV=>hk ex2 e2 w2 X2 (λk hk=>hX2 k (hX k hk)) (λs hs=>?_) CV;rw[he2 s (λhc=>hs (dF _ hc)),Ai s hs]
  |exit i=>exact hk _ e w' X' hX Ai hq
  |goto i=>exact hk _ e w' X' hX Ai hq
  |ret=>exact hk _ e w' X' hX Ai hq
  |panic c=>exact hk _ e w' X' hX Ai hq
  |outgrown=>exact hk _ e w' X' hX Ai hq
 | .ite c a b,K,K',env,w,X,h,hk=>by
  simp only[den,mE] at h⊢;split at h
  ·refine⟨λht=>mc a (h.1 ht) λex e w' X' hX he hq=>hk ex e w' X' hX (λs hs=>he s (λhc=>hs (bJ _ hc))) hq,
    λht=>mc b (h.2 ht) λex e w' X' hX he hq=>hk ex e w' X' hX (λs hs=>he s (λhc=>hs (dF _ hc))) hq⟩
  omega
 | .alt a b,K,K',env,w,X,h,hk=>by
  exact⟨mc a h.1 λex e w' X' hX he hq=>hk ex e w' X' hX (λs hs=>he s (λhc=>hs (bJ _ hc))) hq,
   mc b h.2 λex e w' X' hX he hq=>hk ex e w' X' hX (λs hs=>he s (λhc=>hs (dF _ hc))) hq⟩
 | .ga id a,K,K',env,w,X,h,hk=>by
  refine mc a (K:=lR.ga id K) h λex e w' X' hX he hq=>?_;cases ex with
  |exit i=>
   simp only[lR.ga] at hq⊢;split
   ·rename_i hi;rw[if_pos hi] at hq;exact hk _ e w' X' hX he hq
   ·rename_i hi;rw[if_neg hi] at hq;exact hk _ e w' X' hX he hq
  |normal=>exact hk _ e w' X' hX he hq
  |goto i=>exact hk _ e w' X' hX he hq
  |ret=>exact hk _ e w' X' hX he hq
  |panic c=>exact hk _ e w' X' hX he hq
  |outgrown=>exact hk _ e w' X' hX he hq
 | .loop M C a,K,K',env,w,X,h,hk=>by
  obtain⟨J,h0,hJ⟩:=h;refine⟨J,h0,λn e w' X' hX hj=>?_⟩;refine mc a (K:=lR.Gj (λe' lC wM=> ∃m,m<n/\J m (C.map e') lC wM) K) (hJ n e w' X' hX hj) λex e2 w2 X2 hX2 he2 hq=>?_;have rR: ∀k,X k->X2 k:=λk hk=>hX2 k (hX k hk);have Ai: ∀s,¬s∈(T.loop M C a).wr->e2 s=env s:=λs hs=>by
   simp only[T.wr,sy,not_or] at hs;rw[he2 s hs.2];exact Gn hs.1
  cases ex with
  |normal=>exact hq
  |exit i=>exact hk _ e2 w2 X2 rR Ai hq
  |goto i=>exact hk _ e2 w2 X2 rR Ai hq
  |ret=>exact hk _ e2 w2 X2 rR Ai hq
  |panic c=>exact hk _ e2 w2 X2 rR Ai hq
  |outgrown=>exact hk _ e2 w2 X2 rR Ai hq
 | .exit id,K,K',env,w,X,h,hk=>hk _ _ _ _ (λ_ h=>h) (λ_ _=>rfl) h
 | .ret,K,K',env,w,X,h,hk=>hk _ _ _ _ (λ_ h=>h) (λ_ _=>rfl) h
 | .skip,K,K',env,w,X,h,hk=>hk _ _ _ _ (λ_ h=>h) (λ_ _=>rfl) h
theorem agM {c:Code} (I:Nat->Act->World->Prop) (h₀: ∃n,I n a w)
  (round: ∀n a w,I n a w->c.wp P (Exit.then (λa' w'=> ∃m,m<n/\I m a' w') Q) a w):(Code.loop c).wp P Q a w:=by
 intro b k cs;have key: ∀n a w,I n a w-> ∃e a' w',Q e a' w'/\Arrives P (lone (b.at a (.code c:: .inLoop c::k)) cs w) b k cs e a' w':=by
  intro n
  induction n using Nat.strongRecOn with
  |_ n ih=>
   intro a w hI;obtain⟨e,a₁,w₁,hq,KT⟩:=round n a w hI b (.inLoop c::k) cs;cases e with
   |normal=>
    obtain⟨m,cC,hI₁⟩:=hq;obtain⟨e₂,a₂,w₂,hq₂,harr₂⟩:=ih m cC a₁ w₁ hI₁;exact⟨e₂,a₂,w₂,hq₂,.of_steps (Steps.trans KT (.one step_inLoop)) harr₂⟩
   |exit id=>exact⟨_,a₁,w₁,hq,.pass (x:=.inLoop c) rfl (λ_ _=>.inl sQ) KT⟩
   |goto l=>exact⟨_,a₁,w₁,hq,.pass (x:=.inLoop c) rfl (λ_ _=>.inl sQ) KT⟩
   |ret=>exact⟨_,a₁,w₁,hq,.pass (x:=.inLoop c) rfl (λ_ _=>.inl sQ) KT⟩
   |panic ch=>exact⟨_,a₁,w₁,hq,.pass (x:=.inLoop c) rfl (λ_ _=>.inl sQ) KT⟩
   |outgrown=>exact⟨_,a₁,w₁,hq,.pass (x:=.inLoop c) rfl (λ_ _=>.inl sQ) KT⟩
 obtain⟨n,h₀⟩:=h₀;obtain⟨e,a',w',hq,KT⟩:=key n a w h₀;exact⟨e,a',w',hq,.of_steps (.one step_loop) KT⟩
def QP (pl:gz) (ds:Bk) (K:lR):Exit->Act->World->Prop
 | .panic ch,a,w=>a.defers=ds.ds/\ ∃env X w0,Kp X w0 w/\K (.panic ch) env w0 X/\zD pl ds env X a w
 | .outgrown,_,_=>False
 |e,a,w=> ∃env X w0,fw pl ds .start env X w0 a w/\K e env w0 X
variable {fn : Func} {R : Ending -> World -> Prop} {args : Array Value} {f : FuncId}
theorem fw.drop (h:fw pl ds cs env X w0 a w):fw pl ds .start env X w0 a w:=
 { h with sig:=λ_ hp=>(by cases hp),live:=λ_ hp=>(by cases hp),ptr:=λ_ hp=>(by cases hp) }
theorem Qh: ∀(l acc:List Nat) (s:Nat),(s∈l\/s∈acc)->s∈ui l acc
 |[],acc,s,h=>h.elim (λh=>by cases h) id
 |x::r,acc,s,h=>by
  simp only[ui];refine Qh r _ s ?_;rcases h with h|h
  ·rcases List.mem_cons.1 h with rfl|h
   ·right;split
    ·rename_i hc;simpa using hc
    ·exact zh ..
   ·exact .inl h
  ·right;split
   ·exact h
   ·exact bQ _ h
theorem QP.mono {K K':lR} (h: ∀ex e w X,K ex e w X->K' ex e w X) (ex:Exit) (a:Act) (w:World) (hq:QP pl ds K ex a w):QP pl ds K' ex a w:=by
 cases ex<;>simp only[QP] at hq⊢
 case panic ch=>grind
 all_goals grind
theorem HN: ∀(c:Code) (t:T) (K:lR) (env:Env) (X:XS) (w0:World) (a:Act) (w:World),
  jT P pl c=some t->(∀b,b∈t.mk-> ∀p,p∈ds.pins->p.1≠b)->fw pl ds .start env X w0 a w->den P t K env w0 X->c.wp P (QP pl ds K) a w:=by
 intro c
 induction c with
 |skip=>
  intro t K env X w0 a w hc hm h hd;simp only[jT,ah] at hc;subst hc;exact wp_skip ⟨env,X,w0,h,hd⟩
 |region id ops draw=>
  intro t K env X w0 a w hc hm h hd;have hN: ∀qe a' w' dx X' dZ,fw pl ds qe dx X' dZ a' w'->(λe w X=>K .normal e w X) dx dZ X'->QP pl ds K .normal a' w':=
   λqe a' w' dx X' dZ h1 h2=>⟨dx,X',dZ,h1.drop,h2⟩
  have hQ: ∀ch a' w' dx X' dZ,a'.defers=ds.ds->Kp X' dZ w'->zD pl ds dx X' a' w'->(λch=>K (.panic ch)) ch dx dZ X'->QP pl ds K (.panic ch) a' w':=
   λch a' w' dx X' dZ h0 h1 xv h2=>⟨h0,dx,X',dZ,h1,h2,xv⟩
  simp only[jT] at hc;split at hc
  ·rename_i KU;subst KU;split at hc
   ·rename_i HO;simp only[aD] at HO;refine wp_region_any HO.1 (P5 (pl:=pl) _ _ _ _ ?_);have JO: ∀c a (d:Option Nat) v w,(∀x,d=some x-> ∀p,p∈ds.pins->p.1≠x)->QP pl ds K (.panic c) (a.put d v) w->QP pl ds K (.panic c) a w:=λc a d v w hd hq=>by
     obtain⟨h1,e,X',dZ,h2,h3,h4⟩:=hq;exact⟨by cases d<;>exact h1,e,X',dZ,h2,h3,h4.put hd⟩
    split at hc
    ·rename_i tl hl;simp only[ah] at hc;subst hc;exact HM hN hQ JO HO.2 _ _ _ tl env X w0 _ _ hl hm (h.jC (Ext.drew w)) hd
    ·exact O2 hN hQ JO HO.2 _ _ _ t env X w0 _ _ hc hm (h.jC (Ext.drew w)) hd
   ·cases hc
  ·rename_i KU;simp only[Bool.not_eq_true] at KU;subst KU;cases hl:EO P pl ops ops.toList .start with
   |none=>grind
   |some tl=>
    simp only[hl,aX,ah] at hc;subst hc;exact wp_region_list (KR hN hQ ops.toList .start tl env X w0 a w hl hm h hd)
 |seq x y ihx ihy=>
  intro t K env X w0 a w hc hm h hd;simp only[jT] at hc;cases hx:jT P pl x with
  |none=>simp[hx] at hc
  |some tx=>
   cases hy:jT P pl y with
   |none=>simp[hx,hy] at hc
   |some ty=>
    simp only[hx,hy,ah] at hc;have KW:den P (.seq tx ty) K env w0 X:=by
     subst hc;split at hd
     ·exact hd
     ·show den P tx (lR.Gj (λe w X=>den P .skip K e w X) K) env w0 X
      refine mc tx hd λex e w' X' _ _ hq=>?_;cases ex<;>exact hq
     ·exact hd
    have hmm: ∀b,b∈tx.mk\/b∈ty.mk-> ∀p,p∈ds.pins->p.1≠b:=λb hb=>hm b (by
     rw[<-hc];split
     ·exact hb.resolve_left (λh=>by cases h)
     ·exact hb.resolve_right (λh=>by cases h)
     ·exact List.mem_append.2 hb)
    refine wp_seq (wp_mono (ihx tx _ env X w0 a w hx (λb hb=>hmm b (.inl hb)) h KW) λex a' w' hq=>?_);cases ex with
    |normal=>
     obtain⟨e,X',dZ,h1,h2⟩:=hq;exact ihy ty K e X' dZ a' w' hy (λb hb=>hmm b (.inr hb)) h1 h2
    |exit i=>exact hq
    |goto i=>exact hq
    |ret=>exact hq
    |panic c=>exact hq
    |outgrown=>exact hq
 |cond c x y ihx ihy=>
  intro t K env X w0 a w hc hm h hd;simp only[jT] at hc;cases hv:valOf pl .start c with
  |none=>simp[hv] at hc
  |some e=>
   cases hx:jT P pl x with
   |none=>simp[hv,hx] at hc
   |some tx=>
    cases hy:jT P pl y with
    |none=>simp[hv,hx,hy] at hc
    |some ty=>
     simp only[hv,hx,hy,ah] at hc;subst hc;have he:=h.eval hv;simp only[den,mE] at hd;split at hd
     ·rename_i b hb;rw[hb] at he;exact wp_cond_split he (λht=>ihx tx K env X w0 a w hx (λb hb=>hm b (bJ _ hb)) h (hd.1 ht)) (λht=>ihy ty K env X w0 a w hy (λb hb=>hm b (dF _ hb)) h (hd.2 ht))
     ·exact hd.elim
 |block id x ih=>
  intro t K env X w0 a w hc hm h hd;simp only[jT] at hc;cases hx:jT P pl x with
  |none=>simp[hx] at hc
  |some tx=>
   simp only[hx,aX,ah] at hc;subst hc;refine wp_block (wp_mono (ih tx _ env X w0 a w hx hm h hd) λex a' w' hq=>?_);cases ex with
   |exit i=>
    obtain⟨e,X',dZ,h1,h2⟩:=hq;simp only[Exit.inBlock,lR.ga] at h2⊢;split
    ·rename_i hi;rw[if_pos hi] at h2;exact⟨e,X',dZ,h1,h2⟩
    ·rename_i hi;rw[if_neg hi] at h2;exact⟨e,X',dZ,h1,h2⟩
   |normal=>exact hq
   |goto i=>exact hq
   |ret=>exact hq
   |panic c=>exact hq
   |outgrown=>exact hq
 |loop x ih=>
  intro t K env X w0 a w hc hm h hd;simp only[jT] at hc;cases hx:jT P pl x with
  |none=>simp[hx] at hc
  |some tx=>
   simp only[hx,aX,ah] at hc;subst hc;obtain⟨J,⟨n0,h0⟩,hJ⟩:=hd;refine agM (λn a w=> ∃e X' dZ,fw pl ds .start (merge (ui tx.wr []) e env) X' dZ a w/\(∀k,X k->X' k)/\J n (((ui tx.wr []).filter (yB pl.car)).map e) dZ X') ⟨n0,env,X,w0,?_,λ_ h=>h,h0⟩ ?_
   ·have:merge (ui tx.wr []) env env=env:=by
     funext s
     by_cases hs:s∈ui tx.wr []
     ·exact WQ hs
     ·exact Gn hs
    rw[this];exact h
   ·rintro n a w ⟨e,X',dZ,h1,h2,h3⟩;have qh:=mc tx (K':=λex e' lC wM=>lR.Gj (λe' lC wM=> ∃m,m<n/\J m (((ui tx.wr []).filter (yB pl.car)).map e') lC wM) K ex e' lC wM/\(∀k,X' k->wM k)/\ ∀s,¬s∈tx.wr->e' s=merge (ui tx.wr []) e env s) (hJ n e dZ X' h2 h3)
     λex e' w' wM hX he hq=>⟨hq,hX,he⟩
    refine wp_mono (ih tx _ _ X' dZ a w hx hm h1 qh) λex a' w' hq=>?_;cases ex with
    |normal=>
     obtain⟨e',wM,ET,g1,⟨m,hm,g2⟩,g3,g4⟩:=hq;refine⟨m,hm,e',wM,ET,?_,λk hk=>g3 k (h2 k hk),g2⟩;have:merge (ui tx.wr []) e' env=e':=by
      funext s
      by_cases hs:s∈ui tx.wr []
      ·exact WQ hs
      ·rw[Gn hs,g4 s λhc=>hs (Qh _ _ _ (.inl hc)),Gn hs]
     rw[this];exact g1
    |exit i=>obtain⟨e',wM,ET,g1,g2,_⟩:=hq;exact⟨e',wM,ET,g1,g2⟩
    |goto i=>obtain⟨e',wM,ET,g1,g2,_⟩:=hq;exact⟨e',wM,ET,g1,g2⟩
    |ret=>obtain⟨e',wM,ET,g1,g2,_⟩:=hq;exact⟨e',wM,ET,g1,g2⟩
    |panic c=>obtain⟨g0,e',wM,ET,g1,⟨g2,_⟩,g3⟩:=hq;exact⟨g0,e',wM,ET,g1,g2,g3⟩
    |outgrown=>exact hq
 |exit id=>
  intro t K env X w0 a w hc hm h hd;simp only[jT,ah] at hc;subst hc;exact wp_exit ⟨env,X,w0,h,hd⟩
 |ret=>
  intro t K env X w0 a w hc hm h hd;simp only[jT,ah] at hc;subst hc;exact wp_ret ⟨env,X,w0,h,hd⟩
 |rangeFunc=>intro t K env X w0 a w hc;cases hc
 |scope=>intro t K env X w0 a w hc;cases hc
 |label=>intro t K env X w0 a w hc;cases hc
 |goto=>intro t K env X w0 a w hc;cases hc
 |refuse=>intro t K env X w0 a w hc;cases hc
def acg (tmps:Array Value):ResultVar->Sem Value
 | .tmp t=>pure (tmps.getD t undef)
 | .cell c t=>do loadVar t (<-asAddr (tmps.getD c undef))
theorem WR (h:fw pl ds cs env X w0 a w): ∀(l:List ResultVar) (es:List Ex) (nd:List Nat),
  DB P pl l=some (es,nd)->(∀b,b∈nd->cU (env b)=true)->
  (l.mapM (acg a.tmps)).run P w=Result.ok (es.map (·.ev env)) w
 |[],es,nd,hc,_=>by
  simp only[DB,ah,cD] at hc;simp_all
 | .tmp t::r,es,nd,hc,hl=>by
  simp only[DB] at hc;split at hc
  ·rename_i hg;cases hr:DB P pl r with
   |none=>grind
   |some x=>
    obtain⟨es',nd'⟩:=x;simp only[hr,aX,ah,cD] at hc;obtain⟨rfl,rfl⟩:=hc;have ih:=WR h r es' nd' hr hl;simp[List.mapM_cons,acg,ih,h.qv t hg,Ex.ev]
  ·cases hc
 | .cell c t::r,es,nd,hc,hl=>by
  simp only[DB] at hc;split at hc
  ·rename_i bs ag sz hb ht;split at hc
   ·rename_i qf;simp only[aD,decide_eq_true_eq] at qf;cases hr:DB P pl r with
    |none=>grind
    |some x=>
     obtain⟨es',nd'⟩:=x;simp only[hr,aX,ah,cD] at hc;obtain⟨rfl,rfl⟩:=hc;have ih:=WR h r es' nd' hr λb hb=>hl b (bQ _ hb);obtain⟨cells,qi⟩:=uj.1 (hl c (zh ..));obtain⟨k,ty,e1,e2,e3,_⟩:=h.box c bs hb cells qi;have hld:=Qa ht qf.2 e2 0 zQ;have apf:(loadVar t ⟨k,0,none⟩).run P w= .ok (if ag then fD (.agg cells) 0 sz else cellOf (.agg cells) 0) w:=by
      simpa [js,pG,dE] using hld
     have KO:(if ag then Ex.s c 0 sz else Ex.k c 0).ev env=if ag then fD (.agg cells) 0 sz else cellOf (.agg cells) 0:=by
      cases ag<;>simp[Ex.ev,qi]
     simp[List.mapM_cons,acg,ih,e1,dE,asAddr,apf,KO]
   ·cases hc
  ·cases hc
theorem HP (h:fw pl ds cs env X w0 a w) {es:List Ex}
  (hc:DB P pl fn.results.toList=some (es,nd)) (hl: ∀b,b∈nd->cU (env b)=true):(results fn a.tmps).run P w= .ok (Se es env) w:=by
 have hr:=WR h _ _ _ hc hl;have hf:results fn a.tmps=(do let vs<-fn.results.mapM (acg a.tmps);pure (if h:vs.size=1 then vs[0] else .tuple vs)):=by
  unfold results
  congr 2
 rw[hf,Array.mapM_eq_mapM_toList];simp only[Sem.run_bind,Sem.run_map,hr,Result.andThen_ok,Sem.run_pure]
 congr 1
 match es with
 |[]=>rfl
 |[e]=>rfl
 |e::e'::r=>simp[Se]
def G4 (P:Program) (o:Option FT) (R:Ending->World->Prop) (args:Array Value) (w:World):Prop:=match o with
 |some ft=>den P ft.code (KE ft R) (mG args) w (bV w)
 |none=>False
theorem WT {ft:FT} (hf:P.funcs[f]? =some fn)
  (hc:cF P pl fn=some ft) (ai8:args.size<=pl.n) (wA:(pl.boxes.all λp=>decide (args.size<=p.1))=true)
  (h:den P ft.code (KE ft R) (mG args) w (bV w)):Calls P f args w R:=by
 unfold cF at hc;split at hc
 ·rename_i hn;have l9:fn.ntmps=pl.n:=by simpa using hn
  split at hc
  ·rename_i c hb;split at hc
   ·rename_i t r nd ai9 IM;injection hc with hc
    subst hc;refine calls_of_wp hf hb (wp_mono (HN (pl:=pl) (ds:=⟨[],[]⟩) c t (KE ⟨t,r,nd⟩ R) (mG args) (bV w) w _ w ai9 (λ_ _ _ hp=>by cases hp) ?_ h) λex a' w' hq=>?_)
    ·have ach:(args++cZ (fn.ntmps-args.size) undef).size=pl.n:=by simp;omega
     have DD: ∀s,s<pl.n->(args++cZ (fn.ntmps-args.size) undef)[s]? =some (mG args s):=by
      intro s hs;rw[kN];split
      ·rename_i h1;simp[mG,qt,h1]
      ·rename_i h1;rw[jH,if_pos zQ];simp only[mG,qt];rw[wK (by simpa using h1)];rfl
     have KX: ∀b n,look pl.boxes b=some n->mG args b=undef:=by
      intro b n hb;have h1:=List.all_eq_true.1 wA _ (Ce hb);simp only[decide_eq_true_eq] at h1;simp only[mG,qt];rw[wK zQ];rfl
     exact {
      size:=ach
      defers:=rfl
      Ah:=λ_ hp=>(by cases hp)
      ext:=Kp.refl _ _
      wO:=λ_ hk=>hk
      qv:=λs hs=>DD s (rC hs).1
      sig:=λ_ hp=>(by cases hp)
      box:=λb n hb cells hc=>by rw[KX b n hb] at hc;cases hc
      inj:=λb b' n n' hb dU h1=>by rw[KX b n hb] at h1;cases h1
      conv:=λb n hb k hk=>by
       have h1:=List.all_eq_true.1 wA _ (Ce hb);simp only[decide_eq_true_eq] at h1;rw[kN,if_neg zQ,jH] at hk;split at hk
       ·cases hk
       ·cases hk
      live:=λ_ hp=>(by cases hp)
      ptr:=λ_ hp=>(by cases hp) }
    ·cases ex with
     |normal=>
      obtain⟨e,X',dZ,h1,hq⟩:=hq;obtain⟨h2,h3⟩:=di.1 hq;exact⟨h1.defers,_,HP h1 IM (List.all_eq_true.1 h2),h3 w' h1.ext⟩
     |ret=>
      obtain⟨e,X',dZ,h1,hq⟩:=hq;obtain⟨h2,h3⟩:=di.1 hq;exact⟨h1.defers,_,HP h1 IM (List.all_eq_true.1 h2),h3 w' h1.ext⟩
     |panic ch=>
      obtain⟨h0,e,X',dZ,h1,h2,_⟩:=hq;exact⟨h0,h2 w' h1⟩
     |exit i=>obtain⟨e,X',dZ,h1,h2⟩:=hq;exact h2
     |goto i=>obtain⟨e,X',dZ,h1,h2⟩:=hq;exact h2
     |outgrown=>exact hq.elim
   ·cases hc
  ·cases hc
 ·cases hc
theorem G5 {V:Prop} (hf:P.funcs[f]? =some fn)
  (hs:(decide (args.size<=pl.n)&&pl.boxes.all λp=>decide (args.size<=p.1))=true) (hv:V=G4 P (cF P pl fn) R args w) (h:V):Calls P f args w R:=by
 subst hv;unfold G4 at h;simp only[aD,decide_eq_true_eq] at hs;split at h
 ·rename_i ft hc;exact WT hf hc hs.1 hs.2 h
 ·exact h.elim
def nO (P:Program) (X:XS) (w:World) (s:Sem Next) (N:Value->Prop):Prop:= ∃v,Rd P X w s v/\N v
def aZ (P:Program) (X:XS) (w:World) (s:Sem Value) (N:Value->Prop):Prop:=nO P X w (vS s) N
def nQ (P:Program) (X:XS) (w:World) (g:Value) (want:Bool) (s:Sem Next) (N:Value->Prop):Prop:=
 ∃v,(oM g want=true->Rd P X w s v)/\(oM g want=false->v=undef)/\N v
def vu (g:Value) (want:Bool) (v:Value):Value:=if oM g want then v else undef
def iM (c a b:Value):Sem Next:=do pure (.value (if<-asBool c then a else b))
def bq (x:Value):Sem Next:=execOp (λ_=>x) (Ws (.nilCheck (.tmp 0)) 0)
def de (op:BinOp) (t:TypeId) (xo yo:Operand) (x y:Value):Sem Value:=do eqGuard op t xo yo x y;binOp op t x y
def uS (s:Sem Unit):Sem Next:=do s;pure .skip
def pn (R:Ending->World->Prop):List PanicEntry->World->XS->Prop:=λch w X=> ∀wa,Kp X w wa->R (.panicked ch) wa
def eW (P:Program) (R:Ending->World->Prop) (X:XS) (w:World) (m:Bool) (s:Sem Next) (N:Value->World->XS->Prop):Prop:=
 ∀wa,Kp X w wa->jV P m X wa N (pn R) (s.run P wa)
def eV (P:Program) (R:Ending->World->Prop) (X:XS) (w:World) (m:Bool) (s:Sem Value) (N:Value->World->XS->Prop):Prop:=eW P R X w m (vS s) N
def eU (P:Program) (R:Ending->World->Prop) (X:XS) (w:World) (m:Bool) (s:Sem Unit) (N:Value->World->XS->Prop):Prop:=eW P R X w m (uS s) N
def eC (P:Program) (R:Ending->World->Prop) (X:XS) (w:World) (m:Bool) (f:FuncId) (args:Array Value) (N:Value->World->XS->Prop):Prop:=eW P R X w m (callFunc f args) N
def eF (P:Program) (R:Ending->World->Prop) (X:XS) (w:World) (m:Bool) (f:Value) (args:Array Value) (N:Value->World->XS->Prop):Prop:=eW P R X w m (II f args) N
def gE (g:Value) (want:Bool) (A B:Prop):Prop:=(oM g want=true->A)/\(oM g want=false->B)
def fin (R:Ending->World->Prop) (X:XS) (w:World) (v:Value):Prop:= ∀wa,Kp X w wa->R (.returned v) wa
abbrev JT:=Nat->List Value->World->XS->Prop
def EV (J:JT) (n:Nat) (vs:List Value) (w:World) (X:XS):Prop:= ∃m,m<n/\J m vs w X
def Qi (X:XS) (w:World) (vs:List Value) (C:List Nat) (B:JT->Nat->Env->World->XS->Prop):Prop:=
 ∃J:JT,(∃n,J n vs w X)/\ ∀n (e:Env) w' X',(∀k,X k->X' k)->J n (C.map e) w' X'->B J n e w' X'
variable {P : Program} {R : Ending -> World -> Prop} {X : XS} {w : World} {m : Bool}
variable {N : Value -> Prop}
theorem HQ {s:Sem Value} (v:Value) (h: ∀wa,Kp X w wa->s.run P wa= .ok v wa) (k:N v):aZ P X w s N:=
 ⟨v,λwa hk=>by simp[vS,h wa hk],k⟩
theorem bA {s:Sem Value} {v:Value} (h: ∀wa,s.run P wa= .ok v wa) (k:N v):aZ P X w s N:=
 HQ v (λwa _=>h wa) k
theorem WU {s:Sem Next} {v:Value} (h: ∀wa,s.run P wa= .ok (.value v) wa) (k:N v):nO P X w s N:=
 ⟨v,λwa _=>h wa,k⟩
theorem EH {α:Type} [BEq α] [LawfulBEq α] [DecidableEq α] (a b:α):(a==b)=decide (a=b):=by grind
variable {xo yo : Operand}
section
variable {t : TypeId} {k : IntKind} {a b : Int}
theorem ajE (h:N (.bool (decide (a<b)))):aZ P X w (binOp .lss t (.int k a) (.int k b)) N:=bA (λwa=>by simp[binOp,sZ]) h
theorem ajF (h:N (.bool (decide (a<=b)))):aZ P X w (binOp .leq t (.int k a) (.int k b)) N:=bA (λwa=>by simp[binOp,sZ]) h
theorem ajG (h:N (.bool (decide (a>b)))):aZ P X w (binOp .gtr t (.int k a) (.int k b)) N:=bA (λwa=>by simp[binOp,sZ]) h
theorem ajH (h:N (.bool (decide (a>=b)))):aZ P X w (binOp .geq t (.int k a) (.int k b)) N:=bA (λwa=>by simp[binOp,sZ]) h
theorem oD (h:N (.int k (k.wrap (a+b)))):aZ P X w (binOp .add t (.int k a) (.int k b)) N:=bA (λwa=>by simp[binOp,Ay]) h
theorem abu (h:N (.int k (k.wrap (a-b)))):aZ P X w (binOp .sub t (.int k a) (.int k b)) N:=bA (λwa=>by simp[binOp,Ay]) h
theorem Sf (h:N (.int k (k.wrap (a*b)))):aZ P X w (binOp .mul t (.int k a) (.int k b)) N:=bA (λwa=>by simp[binOp,Ay]) h
theorem ajI (h:N (.bool (decide (a=b)))):aZ P X w (de .eql t xo yo (.int k a) (.int k b)) N:=
 bA (λwa=>by simp[de,eqGuard,binOp,sZ,EH]) h
theorem ajJ (h:N (.bool (decide (a≠b)))):aZ P X w (de .neq t xo yo (.int k a) (.int k b)) N:=
 bA (λwa=>by simp[de,eqGuard,binOp,sZ,bne,EH]) h
end
section
variable {t : TypeId} {a b : ByteArray}
theorem agN (h:N (.bool (decide (a.toList=b.toList)))):aZ P X w (de .eql t xo yo (.string a) (.string b)) N:=
 bA (λwa=>by simp[de,eqGuard,binOp,wL,EH]) h
theorem agO (h:N (.bool (decide (a.toList≠b.toList)))):aZ P X w (de .neq t xo yo (.string a) (.string b)) N:=
 bA (λwa=>by simp[de,eqGuard,binOp,wL,EH]) h
theorem agP (h:N (.bool (bY a.toList b.toList))):aZ P X w (binOp .lss t (.string a) (.string b)) N:=
 bA (λwa=>by rfl) h
theorem agQ (h:N (.bool (!bY a.toList b.toList))):aZ P X w (binOp .geq t (.string a) (.string b)) N:=
 bA (λwa=>by rfl) h
theorem agR (h:N (.bool (bY a.toList b.toList||decide (a.toList=b.toList)))):aZ P X w (binOp .leq t (.string a) (.string b)) N:=
 bA (λwa=>by simp[binOp,wL,EH]) h
theorem agS (h:N (.bool (!(bY a.toList b.toList||decide (a.toList=b.toList))))):aZ P X w (binOp .gtr t (.string a) (.string b)) N:=
 bA (λwa=>by simp[binOp,wL,EH]) h
end
section
variable {t : TypeId} {k : FloatKind} {a b : Nat}
theorem agT (h:N (.bool (k.format.order a b==some .lt))):aZ P X w (binOp .lss t (.float k a) (.float k b)) N:=bA (λwa=>by simp[binOp,qa]) h
theorem agU (h:N (.bool (k.format.order a b==some .lt||k.format.order a b==some .eq))):aZ P X w (binOp .leq t (.float k a) (.float k b)) N:=
 bA (λwa=>by simp[binOp,qa]) h
theorem agV (h:N (.bool (k.format.order a b==some .gt))):aZ P X w (binOp .gtr t (.float k a) (.float k b)) N:=bA (λwa=>by simp[binOp,qa]) h
theorem agW (h:N (.bool (k.format.order a b==some .gt||k.format.order a b==some .eq))):aZ P X w (binOp .geq t (.float k a) (.float k b)) N:=
 bA (λwa=>by simp[binOp,qa]) h
theorem agX (h:N (.bool (k.format.order a b==some .eq))):aZ P X w (de .eql t xo yo (.float k a) (.float k b)) N:=
 bA (λwa=>by simp[de,eqGuard,binOp,qa]) h
theorem agY (h:N (.bool (k.format.order a b !=some .eq))):aZ P X w (de .neq t xo yo (.float k a) (.float k b)) N:=
 bA (λwa=>by simp[de,eqGuard,binOp,qa]) h
end
section
variable {t : TypeId} {k k2 : IntKind} {a b : Int}
theorem EI (hb: ¬b<0) (h:N (.int k (a.fdiv (2^min b.toNat k.bits)))):aZ P X w (binOp .shr t (.int k a) (.int k2 b)) N:=
 bA (λwa=>by simp[binOp,Op.shift,hb]) h
theorem Sg (hb: ¬b<0) (h:N (.int k (k.wrap (a*2^min b.toNat k.bits)))):aZ P X w (binOp .shl t (.int k a) (.int k2 b)) N:=
 bA (λwa=>by simp[binOp,Op.shift,hb]) h
theorem Sh (h:N (.int k (k.wrap (aF k.bits a^^^aF k.bits b).toNat))):aZ P X w (binOp .xor t (.int k a) (.int k b)) N:=
 bA (λwa=>by simp[binOp,Op.intBits]) h
theorem Nb (h:N (.int k (k.wrap (aF k.bits a&&& aF k.bits b).toNat))):aZ P X w (binOp .and t (.int k a) (.int k b)) N:=
 bA (λwa=>by simp[binOp,Op.intBits]) h
end
variable {y : Value} {A : Prop}
section
variable {b c : Bool} {g : Value}
theorem abv (h:N (.bool (!b))):aZ P X w (Op.unary .not (.bool b)) N:=bA (λwa=>by rfl) h
theorem WV {x:Value} (h:N (if b then x else y)):nO P X w (iM (.bool b) x y) N:=WU (λwa=>by rfl) h
theorem ae2 {x:Value} (h:N x):nO P X w (iM (.bool true) x y) N:=WV h
theorem ae3 {x:Value} (h:N y):nO P X w (iM (.bool false) x y) N:=WV h
theorem Nc {s:Sem Next} (h:nO P X w s N):nQ P X w (.bool want) want s N:=by
 obtain⟨v,hv,hn⟩:=h;exact⟨v,λ_=>hv,λhf=>absurd hf (by simp[oM]),hn⟩
theorem WW {s:Sem Next} (h:N undef):nQ P X w (.bool (!want)) want s N:=
 ⟨undef,λhf=>absurd hf (by cases want<;>simp[oM]),λ_=>rfl,h⟩
theorem agZ {s:Sem Next} (h:nO P X w s N):nQ P X w (.bool true) true s N:=Nc h
theorem ag0 {s:Sem Next} (h:nO P X w s N):nQ P X w (.bool false) false s N:=Nc h
theorem ae4 {s:Sem Next} (h:N undef):nQ P X w (.bool false) true s N:=WW (want:=true) h
theorem ae5 {s:Sem Next} (h:N undef):nQ P X w (.bool true) false s N:=WW (want:=false) h
theorem ajK {B:Prop} (h:b=true->A) (k:b=false->B):mE (.bool b) A B:=⟨h,k⟩
theorem aci {B:Prop} (h:b=want->A) (k:b=!want->B):gE (.bool b) want A B:=
 ⟨λe=>h (by simpa [oM] using e),λe=>k (by revert e;cases b<;>cases want<;>simp[oM])⟩
theorem apg {B:Prop} (h:A):gE (.bool true) true A B:=aci (λ_=>h) sQ
theorem aph {B:Prop} (h:A):gE (.bool false) false A B:=aci (λ_=>h) sQ
theorem anV {B:Prop} (h:B):gE (.bool true) false A B:=aci sQ (λ_=>h)
theorem anW {B:Prop} (h:B):gE (.bool false) true A B:=aci sQ (λ_=>h)
theorem Od {vs:Array Value} {v:Value} (hi:vs[i]? =some v) (h:N v):aZ P X w (gx (.tuple vs) i) N:=
 bA (λwa=>by simp[gx,hi]) h
theorem ajL {a:Addr} (h:N (.pointer (some a))):nO P X w (bq (.pointer (some a))) N:=
 WU (λ_=>rfl) h
theorem WX {t e:TypeId} {p:Option Addr} (ht:P.underlying t=some (.pointer e)) (h:N (.bool p.isNone)):
  aZ P X w (de .eql t xo yo (.pointer p) (.pointer none)) N:=by
 refine bA (λwa=>?_) h;have hp:P.pointee t=e:=by simp[Program.pointee,ht]
 have:=run_equal_pointer_nil (P:=P) (w:=wa) t p gQ;simp[de,eqGuard,binOp,this]
end
theorem ak9 {N:Value->World->XS->Prop} (Q:Value->World->World->Prop)
  (hf: ∀wa,(callFunc f args).run P wa= .ok (.enter f args) wa)
  (h: ∀wa,Kp X w wa->Calls P f args wa λe w'=> ∃v,e= .returned v/\Ext wa w'/\Q v wa w')
  (k: ∀v wa w',Kp X w wa->Ext wa w'->Q v wa w'->N v w' (grow X wa w')):eC P R X w m f args N:=by
 intro wa hk;unfold jV;rw[hf wa];refine⟨rfl,(h wa hk).mono ?_⟩
 grind [Step.fc]
end Go.aG