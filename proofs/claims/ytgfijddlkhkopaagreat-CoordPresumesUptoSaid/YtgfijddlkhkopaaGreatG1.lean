/- Part 1 of the proof. -/
import Derived.KernelRfl
import Derived.Orders
import Derived.Below
import Derived.Laws.Sem
import Derived.Laws.CopyRow
import Derived.Laws.Entries
import Derived.Laws.Cells
import GoSem.Dispatch
import Derived.Laws.Rows
import Derived.Laws.Pointers
set_option linter.all false
open Option.some renaming injEq → aj
open Go.Region renaming wanted → cE, ready → iB, binds → vH, noSelect → wK, noSelect_spec → xH
open Bool renaming and_eq_true → aC, not_eq_true' → cW, false_eq_true → aW, or_eq_true → oL, not_eq_false → AT
open List renaming mem_append_left → bz, mem_append_right → dG, mem_filter → iz, range → dw, mem_cons_of_mem → bS, mem_append → sk, mem_cons → ij, cons_append → j5, getD → qd, contains_iff_mem → wX, all_eq_true → lA, nil_append → cB, flatMap_cons → AU, mem_cons_self → zK, getElem?_eq_none → wY
open Option renaming map_some → ba, bind_some → cL, isNone_iff_eq_none → oA
open Go.Act renaming put → nG, eval → xI
open Go.Oper renaming upon → oe, wp → tH, apart_spec → wL
open Prod.mk renaming injEq → cN
open Go.Op renaming intCmp → tc, floatCmp → pQ, stringOp → wZ, bytesLess → bY, intArith → Bf
open Nat renaming le_refl → au, lt_of_lt_of_le → aw, le_trans → ad
open Array renaming replicate → cY, getElem?_setIfInBounds_ne → lB, getElem?_eq_none → qe, toList_map → nH, any_eq_true' → yY, setIfInBounds_comm → uj, getElem?_setIfInBounds → dK, getElem?_append → kJ, getElem?_replicate → jF
open Go.Instr renaming sureAddr → px, loadAt → jv, extract → gB
open BitVec renaming ofInt → aF
open Go.Deferred renaming ofValue → lC
namespace Go.aJ
theorem kS {α:Type _} {a b:α} (h:a=b:=by kernel_rfl):some a=some b:=congrArg some h
variable {p : Prop}
theorem qF (h:p:=by first|assumption|exact aI.cells (by assumption)):p:=h
theorem qO (h:p:=by first|assumption|exact Own.sl (by assumption)):p:=h
theorem qM (h:p:=by first|exact mv0|exact mv1 (by assumption)|exact mv2 (by assumption) (by assumption)):p:=h
theorem qN (h:p:=by simp only[Value.cells,nq1,nq2,nq3,nq4,nq5,nq6,dr,nq7,nq8,nq9,nq0,Nat.reduceAdd,Nat.zero_add];try rfl):p:=h
theorem qE (h:p:=by(repeat' first|with_reducible apply Xl|with_reducible exact abg|assumption|rfl|exact Sl.one (by assumption)|exact fh.one (by assumption)|exact Sl.one (Own.sl (by assumption)));done):p:=h
theorem qC (h:p:=by first|rfl|assumption|exact Sl.one (by assumption)|exact fh.one (by assumption)|exact Sl.one (Own.sl (by assumption))):p:=h
theorem qR (h:p:=by first|assumption|exact List.getElem?_eq_getElem (by omega)):p:=h
theorem qA (h:p:=by first|assumption|exact Sl.mv (by assumption) qM|exact qK.mv (by assumption) qM|exact qL.mv (by assumption) qM|exact Rec.at.mv (by assumption) qM|exact Own.sl (by assumption)|exact Cells.mv (by assumption) qM|exact Cells.mv (aI.cells (by assumption)) qM|omega):p:=h
theorem kQ (h:p:=by kernel_rfl):p:=h
theorem zQ (h:p:=by omega):p:=h
theorem aQ (h:p:=by assumption):p:=h
theorem dQ (h:p:=by decide):p:=h
theorem gQ (h:p:=by grind):p:=h
theorem oQ (h:p:=by simp;omega):p:=h
theorem sQ (h:p:=by simp):p:=h
abbrev Env:=Nat->Value
abbrev XS:=Nat->Prop
def jT (e:Env) (d:Nat) (v:Value):Env:=λs=>match s==d with
 |true=>v
 |false=>e s
def K4 (e:Env) (d:Option Nat) (v:Value):Env:=match d with
 |some d=>jT e d v
 |none=>e
structure Fr (X:XS) (w w':World):Prop where
 os:w'.os=w.os
 tape:w'.tape=w.tape
 output:w'.output=w.output
 size:w.heap.size<=w'.heap.size
 block: ∀k,k<w.heap.size-> ¬X k->w'.heap[k]? =w.heap[k]?
def nX:XS:=λ_=>False
def Ext (w w':World):Prop:=Fr nX w w'
theorem Fr.refl (X:XS) (w:World):Fr X w w:=⟨rfl,rfl,rfl,au _,λ_ _ _=>rfl⟩
variable {b c : World} {X : XS}
theorem Fr.trans {a:World} (h:Fr X a b) (k:Fr X b c):Fr X a c:=
 ⟨k.os.trans h.os,k.tape.trans h.tape,k.output.trans h.output,ad h.size k.size,
  λi hi hx=>(k.block i (aw hi h.size) hx).trans (h.block i hi hx)⟩
variable {Y : XS}
def Fr.mono {a:World} (h:Fr X a b) (hs: ∀k,X k->Y k):Fr Y a b:=
 ⟨h.os,h.tape,h.output,h.size,λi hi hy=>h.block i hi λhx=>hy (hs i hx)⟩
theorem Ext.refl (w:World):Ext w w:=Fr.refl _ _
theorem Ext.trans {a:World} (h:Ext a b) (k:Ext b c):Ext a c:=Fr.trans h k
theorem Ext.fr {a:World} (h:Ext a b) (X:XS):Fr X a b:=Fr.mono h (λ_ hf=>hf.elim)
theorem Ext.size {a:World} (h:Ext a b):a.heap.size<=b.heap.size:=Fr.size h
variable {k : Nat}
theorem Ext.block {a:World} (h:Ext a b) (hk:k<a.heap.size):b.heap[k]? =a.heap[k]? :=Fr.block h k hk (λhf=>hf)
def Ext.ahz {a:World} (h:RowKit.Below a.heap.size a b):Ext a b:=⟨h.os,h.tape,h.output,h.size,λk hk _=>h.block k hk⟩
def Ext.below {a:World} (h:Ext a b):RowKit.Below a.heap.size a b:=⟨h.os,h.tape,h.output,Fr.size h,λ_ hk=>h.block hk⟩
theorem Ext.alloc (w:World) (o:Obj):Ext w (w.alloc o):=Ext.ahz ((RowKit.Below.refl _ _).alloc (au _) o)
def Ext.drew (w:World):Ext w { w with drawn:=w.drawn+1 } :=⟨rfl,rfl,rfl,au _,λ_ _ _=>rfl⟩
structure Kp (X:XS) (w w':World):Prop where
 os:w'.os=w.os
 tape:w'.tape=w.tape
 output:w'.output=w.output
 size:w.heap.size<=w'.heap.size
 block: ∀k,X k->w'.heap[k]? =w.heap[k]?
theorem Kp.refl (X:XS) (w:World):Kp X w w:=⟨rfl,rfl,rfl,au _,λ_ _=>rfl⟩
theorem Kp.trans {a:World} (h:Kp X a b) (k:Kp X b c):Kp X a c:=
 ⟨k.os.trans h.os,k.tape.trans h.tape,k.output.trans h.output,ad h.size k.size,λi hx=>(k.block i hx).trans (h.block i hx)⟩
theorem Kp.less {a:World} (h:Kp X a b) (hs: ∀k,Y k->X k):Kp Y a b:=⟨h.os,h.tape,h.output,h.size,λi hy=>h.block i (hs i hy)⟩
theorem Fr.kp {a:World} (h:Fr X a b) (hy: ∀k,Y k->k<a.heap.size/\ ¬X k):Kp Y a b:=
 ⟨h.os,h.tape,h.output,h.size,λi hi=>h.block i (hy i hi).1 (hy i hi).2⟩
theorem Ext.kp {a:World} (h:Ext a b) (hx: ∀k,X k->k<a.heap.size):Kp X a b:=Fr.kp h λk hk=>⟨hx k hk,λhf=>hf⟩
def bN (w:World):XS:=λk=>k<w.heap.size
def Kp.ext {a:World} (h:Kp (bN a) a b):Ext a b:=⟨h.os,h.tape,h.output,h.size,λk hk _=>h.block k hk⟩
def Ext.bN {a:World} (h:Ext a b):Kp (bN a) a b:=h.kp λ_ hk=>hk
inductive Ex where
 |t (n:Nat)
 |c (v:Value)
 |s (b off n:Nat)
 |k (b off:Nat)
def yK (v:Value) (off n:Nat):Value:=.agg ((v.cells.toList.drop off).take n).toArray
def cellOf (v:Value) (i:Nat):Value:=v.cells.toList.getD i undef
def Ex.ev (env:Env):Ex->Value
 | .t n=>env n
 | .c v=>v
 | .s b off n=>yK (env b) off n
 | .k b off=>cellOf (env b) off
def Ex.Xm:Ex->Nat->Bool
 | .t n,d=>n==d
 | .c _,_=>false
 | .s b _ _,d=>b==d
 | .k b _,d=>b==d
def look {α:Type} :List (Nat×α)->Nat->Option α
 |[],_=>none
 |(s,e)::r,t=>if s=t then some e else look r t
def Gr (env:Env) (ss:List (Nat×Ex)):Operand->Value
 | .tmp t=>match look ss t with
  |some e=>e.ev env
  |none=>env t
 | .const v=>v
 | .global g=>.pointer (some ⟨g,0,none⟩)
 | .func f=>.func (.func f) #[] #[]
def Xn (op:Op) (ty:TypeId):Oper:=⟨none,op,ty, "",#[],none⟩
def vS (s:Sem Value):Sem Next:=do pure (.value (<-s))
def IM (f:Value) (args:Array Value):Sem Next:=do let d<-lC f args;invoke d.target d.args
def xJ (ρ:Operand->Value) (a:Array Operand):Array Value:=(a.toList.map ρ).toArray
def adb (ρ:Operand->Value) (a:Array (Nat×Operand)):Array (Nat×Value):=(a.toList.map λp=>(p.1,ρ p.2)).toArray
def QA (ρ:Operand->Value) (op:Op) (ty:TypeId):Sem Next:=match op with
 | .call ⟨.value (.func f),args,_⟩=>callFunc f (xJ ρ args)
 | .call ⟨.value (.tmp t),args,_⟩=>IM (ρ (.tmp t)) (xJ ρ args)
 | .call ⟨.builtin .len,args,ts⟩=>vS (Builtin.len_ ts ty (xJ ρ args))
 | .call ⟨.builtin .cap,args,ts⟩=>vS (Builtin.cap_ ts ty (xJ ρ args))
 | .call ⟨.builtin .min,args,ts⟩=>vS (Builtin.min_ ts ty (xJ ρ args))
 | .call ⟨.builtin .max,args,ts⟩=>vS (Builtin.max_ ts ty (xJ ρ args))
 | .call ⟨.builtin .append,args,ts⟩=>vS (Builtin.append_ ts ty (xJ ρ args))
 | .call ⟨.builtin .copy,args,ts⟩=>vS (Builtin.copy_ ts ty (xJ ρ args))
 | .call ⟨.builtin .delete,args,ts⟩=>vS (Builtin.delete_ ts ty (xJ ρ args))
 | .call ⟨.builtin .clear,args,ts⟩=>vS (Builtin.clear_ ts ty (xJ ρ args))
 | .call ⟨.builtin .panic,args,_⟩=>vS (Instr.panic ((xJ ρ args).toList.getD 0 .nilIface))
 | .build t ps=>vS (Instr.build t (adb ρ ps))
 | .buildSlice t n ps=>vS (Instr.buildSlice t n (adb ρ ps))
 | .makeFunc fn a b=>vS (Instr.makeFunc fn (xJ ρ a) (xJ ρ b))
 |op=>execOp ρ (Xn op ty)
theorem SQ (ρ:Operand->Value) (a:Array Operand):xJ ρ a=a.map ρ:=by
 unfold xJ;rw[<-nH]
theorem akS (ρ:Operand->Value) (a:Array (Nat×Operand)):adb ρ a=a.map λp=>(p.1,ρ p.2):=by
 unfold adb;rw[<-nH]
theorem afQ (ρ:Operand->Value) (hρ: ∀f,ρ (.func f)= .func (.func f) #[] #[]) (op:Op) (ty:TypeId):QA ρ op ty=execOp ρ (Xn op ty):=by
 unfold QA;split<;>first
  |rfl
  |(simp[execOp,Xn,resolve,invoke,lC,SQ,akS,vS,builtin,IM,hρ];done)
def dr (l:List Value) (off:Nat) (vs:List Value):List Value:=l.take off++vs++l.drop (off+vs.length)
def Rd (P:Program) (X:XS) (w:World) (s:Sem Next) (v:Value):Prop:= ∀wa,Kp X w wa->s.run P wa= .ok (.value v) wa
def oH (v:Value) (want:Bool):Bool:=match v with
 | .bool b=>b==want
 |_=>false
def gx:Value->Bool
 | .agg _=>true
 |_=>false
def one (v:Value):Bool:=match v with
 | .agg _| .tuple _=>false
 |_=>true
inductive TI where
 |Ar (b:Nat)
 |set (d:Nat) (e:Ex)
 |box (b n:Nat) (e:Ex)
 |put (b off n:Nat) (e:Ex)
 |Cv (b:Nat) (e:Ex)
 |Xo (b off:Nat) (e:Ex)
 |fill (b n:Nat) (e:Ex)
 |rd (d:Nat) (op:Op) (ty:TypeId) (ss:List (Nat×Ex))
 |Eg (d:Option Nat) (op:Op) (ty:TypeId) (ss:List (Nat×Ex)) (m:Bool)
 |Xp (g:Nat) (want:Bool) (d:Nat) (e:Ex)
 |grd (g:Nat) (want:Bool) (d:Nat) (op:Op) (ty:TypeId) (ss:List (Nat×Ex))
 |Xq (g:Nat) (want:Bool) (d:Option Nat) (op:Op) (ty:TypeId) (ss:List (Nat×Ex)) (m:Bool)
inductive T where
 |B9 (l:List TI)
 |seq (a b:T)
 |ite (e:Ex) (a b:T)
 |alt (a b:T)
 |cU (id:Nat) (a:T)
 |loop (M C:List Nat) (a:T)
 |exit (id:Nat)
 |ret
 |skip
def grow (X:XS) (w w':World):XS:=λk=>X k\/(w.heap.size<=k/\k<w'.heap.size)
def Step (m:Bool) (X:XS) (w w':World):Prop:=if m then Fr X w w' else Ext w w'
variable {w w' : World} {m : Bool}
theorem Step.fr (h:Step m X w w'):Fr X w w':=by
 unfold Step at h;split at h
 ·exact h
 ·exact h.fr X
theorem Step.fb (h:Ext w w'):Step m X w w':=by
 unfold Step;split
 ·exact h.fr X
 omega
def jS (P:Program) (m:Bool) (X:XS) (w:World) (next:Value->World->XS->Prop) (jd:List PanicEntry->World->XS->Prop):Result Next->Prop
 | .ok (.value v) w'=>Step m X w w'/\next v w' (grow X w w')
 | .ok .skip w'=>Step m X w w'/\next undef w' (grow X w w')
 | .ok (.enter f args) w'=>w'=w/\Calls P f args w fun
   | .returned v,mD=>Step m X w mD/\next v mD (grow X w mD)
   | .panicked ch,mD=>Step m X w mD/\jd ch mD (grow X w mD)
   | .outgrown,_=>False
 | .halt (.panic v) w'=>Step m X w w'/\jd [{ v,recovered:=false }] w' (grow X w w')
 |_=>False
def jg (b:Bool) (N:Prop):Prop:=match b with
 |true=>N
 |false=>False
theorem dJ {b:Bool} {N:Prop} :jg b N↔b=true/\N:=by cases b<;>simp[jg]
def np (v:Value) (A B:Prop):Prop:=match v with
 | .bool t=>(t=true->A)/\(t=false->B)
 |_=>False
def Xr (P:Program) (jd:List PanicEntry->Env->World->XS->Prop) (next:Env->World->XS->Prop) (env:Env) (w:World) (X:XS):TI->Prop
 | .Ar b=>jg (gx (env b)) (next env w X)
 | .set d e=>next (jT env d (e.ev env)) w X
 | .box b n e=>jg ((e.ev env).cells.toList.length==n) (next (jT env b (.agg (e.ev env).cells)) w X)
 | .put b off n e=>jg ((e.ev env).cells.toList.length==n) (jg ((e.ev env).cells.toList.all one)
   (next (jT env b (.agg (dr (env b).cells.toList off (e.ev env).cells.toList).toArray)) w X))
 | .Cv b e=>jg (one (e.ev env)) (next (jT env b (.agg #[e.ev env])) w X)
 | .Xo b off e=>jg (one (e.ev env)) (next (jT env b (.agg (dr (env b).cells.toList off [e.ev env]).toArray)) w X)
 | .fill b n e=>jg ((e.ev env).cells.toList.length==n) (jg ((e.ev env).cells.toList.all one) (next (jT env b (.agg (e.ev env).cells)) w X))
 | .rd d op ty ss=> ∃v,Rd P X w (QA (Gr env ss) op ty) v/\next (jT env d v) w X
 | .Eg d op ty ss m=> ∀wa,Kp X w wa->
   jS P m X wa (λv w' X'=>next (K4 env d v) w' X') (λch w' X'=>jd ch env w' X') ((QA (Gr env ss) op ty).run P wa)
 | .Xp g want d e=>next (jT env d (if oH (env g) want then e.ev env else undef)) w X
 | .grd g want d op ty ss=> ∃v,(oH (env g) want=true->Rd P X w (QA (Gr env ss) op ty) v)/\(oH (env g) want=false->v=undef)/\
   next (jT env d v) w X
 | .Xq g want d op ty ss m=>
   (oH (env g) want=true-> ∀wa,Kp X w wa->
    jS P m X wa (λv w' X'=>next (K4 env d v) w' X') (λch w' X'=>jd ch env w' X') ((QA (Gr env ss) op ty).run P wa))/\
   (oH (env g) want=false->next (K4 env d undef) w X)
def ia (P:Program) (jd:List PanicEntry->Env->World->XS->Prop) (next:Env->World->XS->Prop):List TI->Env->World->XS->Prop
 |[],env,w,X=>next env w X
 |i::l,env,w,X=>Xr P jd (ia P jd next l) env w X i
abbrev lO:=Exit->Env->World->XS->Prop
def lO.Gs (next:Env->World->XS->Prop) (K:lO):lO
 | .normal,e,w,X=>next e w X
 |ex,e,w,X=>K ex e w X
def lO.cU (id:Nat) (K:lO):lO
 | .exit i,e,w,X=>if i=id then K .normal e w X else K (.exit i) e w X
 |ex,e,w,X=>K ex e w X
def yZ (M:List Nat) (s:Nat):Bool:=match M with
 |[]=>false
 |x::r=>x==s||yZ r s
variable {s : Nat}
theorem AV: ∀{M:List Nat},yZ M s=true↔s∈M
 |[]=>by simp[yZ]
 |x::r=>by
  simp only[yZ,oL,beq_iff_eq,AV (M:=r),ij]
  grind
def merge (M:List Nat) (e env:Env):Env:=λs=>match yZ M s with
 |true=>e s
 |false=>env s
def den (P:Program):T->lO->Env->World->XS->Prop
 | .B9 l,K,env,w,X=>ia P (λch=>K (.panic ch)) (λe w X=>K .normal e w X) l env w X
 | .seq a b,K,env,w,X=>den P a (lO.Gs (λe w X=>den P b K e w X) K) env w X
 | .ite e a b,K,env,w,X=>np (e.ev env) (den P a K env w X) (den P b K env w X)
 | .alt a b,K,env,w,X=>And (den P a K env w X) (den P b K env w X)
 | .cU id a,K,env,w,X=>den P a (lO.cU id K) env w X
 | .loop M C a,K,env,w,X=> ∃J:Nat->List Value->World->XS->Prop,(∃n,J n (C.map env) w X)/\
   ∀n (e:Env) w' X',(∀k,X k->X' k)->J n (C.map e) w' X'->den P a (lO.Gs (λe' mD xa=> ∃m,m<n/\J m (C.map e') mD xa) K) (merge M e env) w' X'
 | .exit id,K,env,w,X=>K (.exit id) env w X
 | .ret,K,env,w,X=>K .ret env w X
 | .skip,K,env,w,X=>K .normal env w X
structure gz where
 n:Nat
 boxes:List (Nat×Nat)
 Ue:List Nat
 qP:List Nat
 mat:List Nat
 car:List Nat
def gz.kf (pl:gz) (s:Nat):Bool:=pl.qP.contains s&&decide (s<pl.n)&&(look pl.boxes s).isNone&&!pl.Ue.contains s
def gz.nI (pl:gz) (d:Nat):Bool:=decide (d<pl.n)&&(look pl.boxes d).isNone&&!pl.Ue.contains d
structure Ptr where
 s:Nat
 b:Nat
 off:Nat
 g:Option (Nat×Bool)
structure CS where
 sig:List (Nat×Ex)
 As:List Ptr
 live:List Nat
def CS.start:CS:=⟨[],[],[]⟩
def valOf (pl:gz) (cs:CS):Operand->Option Ex
 | .tmp t=>if pl.kf t then some (.t t)else look cs.sig t
 | .const v=>some (.c v)
 | .global g=>some (.c (.pointer (some ⟨g,0,none⟩)))
 | .func f=>some (.c (.func (.func f) #[] #[]))
def HT (og:Option (Nat×Bool)):List Ptr->Nat->Option (Nat×Nat)
 |[],_=>none
 |p::r,t=>if p.s=t then(if p.g.isNone||p.g==og then some (p.b,p.off)else none)else HT og r t
def xc (pl:gz) (cs:CS) (og:Option (Nat×Bool)):Operand->Option (Nat×Nat×List Nat)
 | .tmp t=>match look pl.boxes t with
  |some _=>some (t,0,if cs.live.contains t then [] else [t])
  |none=>if pl.Ue.contains t then(HT og cs.As t).map λ(b,off)=>(b,off,[])else none
 |_=>none
def CS.kill (cs:CS) (d:Nat):CS:=
 ⟨cs.sig.filter λp=>p.1 !=d&&!p.2.Xm d,cs.As.filter λp=>p.b !=d&&p.s !=d&&(match p.g with|some (g,_)=>g !=d|none=>true),cs.live⟩
def CS.Nf (cs:CS) (b:Nat):CS:=⟨cs.sig.filter λp=>!p.2.Xm b,cs.As,cs.live⟩
def CS.bind (cs:CS) (pl:gz) (d:Nat):CS:=let c:=cs.kill d;if pl.kf d then c else { c with sig:=(d,.t d)::c.sig }
def CS.note (cs:CS) (d:Nat) (e:Ex):CS:= { cs with sig:=(d,e)::cs.sig.filter (λp=>p.1 !=d),As:=cs.As.filter λp=>p.s !=d }
def CS.su (cs:CS) (d b off:Nat) (g:Option (Nat×Bool)):CS:=
 { cs with sig:=cs.sig.filter (λp=>p.1 !=d),As:=⟨d,b,off,g⟩::(cs.As.filter λp=>p.s !=d) }
def CS.my (cs:CS) (l:List Nat):CS:= { cs with live:=l++cs.live }
def sw (pl:gz) (cs:CS) (d:Nat) (e:Ex):List TI×CS:=
 if pl.kf d||pl.mat.contains d then([.set d e],cs.bind pl d)else([],cs.note d e)
def fieldInfo (P:Program) (S f:Nat):Option (Nat×Nat):=
 match P.underlying S with
 |some (.struct fs)=>(fs[f]?).bind λx=>(P.info? x.type).map λi=>(x.offset,i.size)
 |_=>none
def subst (pl:gz) (cs:CS):List Operand->Option (List (Nat×Ex))
 |[]=>some []
 | .tmp t::r=>match valOf pl cs (.tmp t),subst pl cs r with
  |some e,some ss=>some (match e with
   | .t n=>if n=t then ss else(t,e)::ss
   |_=>(t,e)::ss)
  |_,_=>none
 |_::r=>subst pl cs r
def Xs (P:Program) (t:Nat):Bool:=match P.underlying t with
 |some (.slice _)=>true
 |_=>false
def aqB (P:Program):Op->Bool
 | .pick .. | .nilCheck _| .binOp .. | .unOp .. | .fieldAddr .. | .field .. | .indexAddr .. | .index .. | .extract .. | .slice .. | .build .. | .makeFunc ..
 | .makeInterface .. | .load .. | .lookup .. | .typeAssert .. | .move _| .assign _=>true
 | .convert s d _=>!Xs P s&&!Xs P d
 | .call { callee:=.builtin b,.. } =>match b with
  | .len| .cap| .min| .max=>true
  |_=>false
 |_=>false
structure CR where
 fl:Bool
 nd:List Nat
 l:List TI
 cs:CS
 rb:List Nat
 sb:List Nat
def IN:Op->Bool
 | .select .. =>false
 |_=>true
def Gt (P:Program) (pl:gz) (cs:CS) (m:Bool) (o:Oper):Option CR:=
 match subst pl cs o.op.operands.toList with
 |none=>none
 |some ss=>if !IN o.op then none else
  match o.dst with
  |some d=>if !pl.nI d then none else
   if aqB P o.op then some ⟨true,[],[.rd d o.op o.type ss],cs.bind pl d,[],[]⟩else some ⟨false,[],[.Eg (some d) o.op o.type ss m],cs.bind pl d,[],[]⟩
  |none=>some ⟨false,[],[.Eg none o.op o.type ss m],cs,[],[]⟩
def lf (P:Program) (t:Nat):Option (Bool×Nat):=
 match P.underlying t,P.info? t with
 |some d,some i=>some ((match d with| .struct _| .array _ _=>true|_=>false),i.size)
 |_,_=>none
def Xt (P:Program) (pl:gz) (cs:CS) (sz:Nat) (t:Nat) (e:Ex) (d:Nat):Option CR:=
 match lf P t with
 |some (ag,s)=>if decide (d<pl.n)&&s==sz then some ⟨false,[],[if !ag&&s==1 then .Cv d e else .box d sz e],(cs.kill d).my [d],[],[]⟩else none
 |none=>none
def Ev (P:Program) (pl:gz) (cs:CS) (og:Option (Nat×Bool)) (m:Bool) (o:Oper):Option CR:=
 match o.op with
 | .move x| .assign x=>match o.dst,valOf pl cs x with
  |some d,some e=>if pl.nI d then(let r:=sw pl cs d e;some ⟨true,[],r.1,r.2,[],[]⟩)else none
  |_,_=>none
 | .box t x=>match o.dst with
  |some d=>match look pl.boxes d with
   |some sz=>match valOf pl cs x with
    |some e=>Xt P pl cs sz t e d
    |none=>none
   |none=>Gt P pl cs m o
  |none=>none
 | .alloc t=>match o.dst with
  |some d=>match look pl.boxes d with
   |some sz=>match(P.info? t).bind (·.zero)with
    |some z=>Xt P pl cs sz t (.c z) d
    |none=>none
   |none=>Gt P pl cs m o
  |none=>none
 | .fieldAddr S x f=>match xc pl cs og x with
  |some (b,off,nd)=>match o.dst,fieldInfo P S f with
   |some d,some (fo,sz)=>if pl.Ue.contains d&&decide (d<pl.n)&&(look pl.boxes d).isNone&&sz !=0 then
     some ⟨true,nd,[],(cs.my nd).su d b (off+fo) og,[],[]⟩else none
   |_,_=>none
  |none=>Gt P pl cs m o
 | .load t x=>match xc pl cs og x with
  |some (b,off,nd)=>match o.dst,lf P t,look pl.boxes b with
   |some d,some (ag,sz),some bs=>if pl.nI d&&decide (off+sz<=bs)&&(ag||sz==1)then
     (let r:=sw pl (cs.my nd) d (if ag then .s b off sz else .k b off);some ⟨true,nd,r.1,r.2,[b],[]⟩)else none
   |_,_,_=>none
  |none=>Gt P pl cs m o
 | .store t x v=>match xc pl cs og x with
  |some (b,off,nd)=>match o.dst,valOf pl cs v,lf P t,look pl.boxes b with
   |none,some e,some (ag,sz),some bs=>if decide (off+sz<=bs)then
     some ⟨false,nd,[if !ag&&sz==1 then .Xo b off e else if off==0&&sz==bs then .fill b sz e else .put b off sz e],(cs.my nd).Nf b,[],[b]⟩else none
   |_,_,_,_=>none
  |none=>Gt P pl cs m o
 |_=>Gt P pl cs m o
def ahA:Op->Bool
 | .fieldAddr .. =>true
 |_=>false
def qq (g:Nat) (want:Bool) (op:Op) (r:CR):Option CR:=
 match r.fl,r.l with
 |true,[]=>if ahA op then some r else none
 |true,[.set d e]=>if d=g then none else some { r with l:=[.Xp g want d e] }
 |true,[.rd d op ty ss]=>if d=g then none else some { r with l:=[.grd g want d op ty ss] }
 |false,[.Eg d op ty ss m]=>if d=some g then none else some { r with l:=[.Xq g want d op ty ss m] }
 |_,_=>none
def Ca (P:Program) (pl:gz) (cs:CS) (ops:Array Oper) (m:Bool) (o:Oper):Option CR:=
 match o.guard with
 |none=>Ev P pl cs none m o
 |some (j,want)=>match(ops[j]?).bind (·.dst)with
  |none=>none
  |some gs=>match valOf pl cs (.tmp gs)with
   |some (.t g)=>(Ev P pl cs (some (g,want)) m o).bind (qq g want o.op)
   |_=>none
def CR.all (r:CR):List TI:=r.nd.map .Ar++r.l
def IP (P:Program) (pl:gz) (ops:Array Oper):List Oper->CS->Option (List TI)
 |[],_=>some []
 |o::r,cs=>match Ca P pl cs ops true o with
  |some x=>(IP P pl ops r x.cs).map (x.all++ ·)
  |none=>none
def waits (o:Oper) (i:Nat):Bool:=o.after.any λe=>vH .any e&&e.on==i
def ade (ops:Array Oper) (bE:Array Bool) (S:List Nat) (j:Nat):Bool:=!bE.getD j true&&match ops[j]? with
 |some o=>o.after.any λe=>vH .any e&&S.contains e.on
 |none=>false
def Hi (ops:Array Oper) (bE:Array Bool) (i:Nat):List Nat:=(dw ops.size).foldl (λS j=>if ade ops bE S j then j::S else S) [i]
def aqC (ops:Array Oper) (j:Nat):List Nat:=
 (dw (j+1)).reverse.foldl (λS k=>if S.contains k then(match ops[k]? with
  |some o=>o.after.toList.foldl (λS e=>if vH .any e&&!S.contains e.on then e.on::S else S) S
  |none=>S)else S) [j]
def C2 (o:Oper):Bool:=match o.op with
 | .extract .. =>true
 | .move .. =>true
 |_=>false
def ldX (pl:gz) (o:Oper):Bool:=match o.op with
 | .load _ (.tmp x)=>(look pl.boxes x).isSome
 |_=>false
def Uf (o:Oper) (rb:List Nat):Bool:=match o.op with
 | .load _ (.tmp x)=>rb.contains x
 |_=>false
def amk (o:Oper):Bool:=match o.op with
 | .alloc _=>true
 |_=>false
def qQ (pl:gz) (ops:Array Oper) (j:Nat):Bool:=
 match ops[j]? with
 |some oj=>(match oj.dst with|some d=>pl.mat.contains (1000000+d)|none=>false)||pl.mat.contains (2000000+j)||((dw ops.size).all λi=>i==j||waits oj i||(match ops[i]? with
  |some oi=>waits oi j||C2 oi||ldX pl oi||amk oi
  |none=>true))||(let B:=aqC ops j++Hi ops (cY ops.size false) j;(dw ops.size).all λi=>B.contains i||(match ops[i]? with
  |some oi=>C2 oi||ldX pl oi||amk oi
  |none=>true))
 |none=>false
def afR (pl:gz) (ops:Array Oper):Nat->Operand->Option Nat
 |0,_=>none
 |n+1,.tmp t=>match look pl.boxes t with
  |some _=>some t
  |none=>match ops.find? (λo=>o.dst==some t)with
   |some o=>(match o.op with
    | .fieldAddr _ x _=>afR pl ops n x
    |_=>none)
   |none=>none
 |_+1,_=>none
def wM (pl:gz) (ops:Array Oper) (o:Oper):List Nat:=match o.op with
 | .store _ x _=>(afR pl ops 6 x).toList
 |_=>[]
def Ng (pl:gz) (ops:Array Oper) (bE:Array Bool) (i:Nat) (rb:List Nat):Bool:=
 match ops[i]? with
 |none=>false
 |some oi=>(match oi.dst with
   |some d=>(look pl.boxes d).isNone
   |none=>true)&&(dw ops.size).all λj=>j==i||bE.getD j true||match ops[j]? with
   |some oj=>waits oj i||(oi.apart ops oj&&(C2 oi||Uf oi rb||!qQ pl ops j)&&(wM pl ops oj).all λb=>!rb.contains b)||(Hi ops bE i).contains j
   |none=>true
def Cw (P:Program) (pl:gz) (ops:Array Oper) (cs:CS) (bE:Array Bool):List Nat->Option (Nat×CR)
 |[]=>none
 |i::r=>match(ops[i]?).bind (Ca P pl cs ops (qQ pl ops i))with
  |some x=>if x.fl&&Ng pl ops bE i x.rb then some (i,x)else Cw P pl ops cs bE r
  |none=>Cw P pl ops cs bE r
def IQ (P:Program) (pl:gz) (o:Oper):Option (Nat×Nat×Bool×Value):=match o.guard,o.op,o.dst with
 |none,.alloc t,some d=>match look pl.boxes d,(P.info? t).bind (·.zero),lf P t with
  |some sz,some z,some (ag,s)=>if decide (d<pl.n)&&s==sz then some (d,sz,!ag&&s==1,z)else none
  |_,_,_=>none
 |_,_,_=>none
def Bg:Nat×Nat×Bool×Value->TI
 |(d,sz,one,z)=>if one then .Cv d (.c z)else .box d sz (.c z)
def yL (cs:CS) (d:Nat):CS:=(cs.kill d).my [d]
def adf (l:List Nat) (i:Nat):Bool:=match l with
 |[x]=>x==i
 |_=>false
def akh (P:Program) (pl:gz) (ops:Array Oper) (bE:Array Bool) (i j:Nat):Option (Nat×Nat×Bool×Value):=
 match(ops[i]?).bind (IQ P pl),(ops[j]?).bind (IQ P pl)with
 |some bi,some bj=>if !(bi.1==bj.1)&&adf (iB .any ops (bE.setIfInBounds i true)) j&&adf (iB .any ops (bE.setIfInBounds j true)) i then some bi else none
 |_,_=>none
def yM (P:Program) (pl:gz) (ops:Array Oper):Nat->Array Bool->CS->Option (List TI)
 |0,bE,_=>if(iB .any ops bE).isEmpty then some [] else none
 |fuel+1,bE,cs=>
  match Cw P pl ops cs bE (iB .any ops bE)with
  |some (i,x)=>(yM P pl ops fuel (bE.setIfInBounds i true) x.cs).map (x.all++ ·)
  |none=>match iB .any ops bE with
   |[i]=>match ops[i]? with
    |some o=>match Ca P pl cs ops (qQ pl ops i) o with
     |some x=>if x.sb.all λb=>(wM pl ops o).contains b then(yM P pl ops fuel (bE.setIfInBounds i true) x.cs).map (x.all++ ·)else none
     |none=>none
    |none=>none
   |[i,j]=>match akh P pl ops bE i j with
    |some b=>(yM P pl ops fuel (bE.setIfInBounds i true) (yL cs b.1)).map (Bg b:: ·)
    |none=>none
   |_=>none
def SR:List Nat->(Nat->Option T)->Option T
 |[],_=>none
 |i::r,f=>match r with
  |[]=>f i
  |j::r=>match f i,SR (j::r) f with
   |some a,some b=>some (.alt a b)
   |_,_=>none
def Di (P:Program) (pl:gz) (ops:Array Oper):Nat->Array Bool->CS->Option T
 |0,bE,_=>if(iB .any ops bE).isEmpty then some .skip else none
 |fuel+1,bE,cs=>
  match Cw P pl ops cs bE (iB .any ops bE)with
  |some (i,x)=>(Di P pl ops fuel (bE.setIfInBounds i true) x.cs).map (.seq (.B9 x.all) ·)
  |none=>SR (iB .any ops bE) λi=>match ops[i]? with
   |some o=>match Ca P pl cs ops (qQ pl ops i) o with
    |some x=>if x.sb.all λb=>(wM pl ops o).contains b then(Di P pl ops fuel (bE.setIfInBounds i true) x.cs).map (.seq (.B9 x.all) ·)else none
    |none=>none
   |none=>none
def TI.K5:TI->List Nat
 | .set d _=>[d]
 | .box b _ _=>[b]
 | .Cv b _=>[b]
 | .rd d _ _ _=>[d]
 | .Eg d _ _ _ _=>d.toList
 | .Xp _ _ d _=>[d]
 | .grd _ _ d _ _ _=>[d]
 | .Xq _ _ d _ _ _ _=>d.toList
 |_=>[]
def oM (l:List TI):List Nat:=l.flatMap TI.K5
def TI.wr:TI->List Nat
 | .Ar _=>[]
 | .set d _=>[d]
 | .box b _ _=>[b]
 | .put b _ _ _=>[b]
 | .Cv b _=>[b]
 | .Xo b _ _=>[b]
 | .fill b _ _=>[b]
 | .rd d _ _ _=>[d]
 | .Eg d _ _ _ _=>d.toList
 | .Xp _ _ d _=>[d]
 | .grd _ _ d _ _ _=>[d]
 | .Xq _ _ d _ _ _ _=>d.toList
def T.wr:T->List Nat
 | .B9 l=>l.flatMap TI.wr
 | .seq a b=>a.wr++b.wr
 | .ite _ a b=>a.wr++b.wr
 | .alt a b=>a.wr++b.wr
 | .cU _ a=>a.wr
 | .loop M _ a=>M++a.wr
 |_=>[]
def T.mk:T->List Nat
 | .B9 l=>oM l
 | .seq a b=>a.mk++b.mk
 | .ite _ a b=>a.mk++b.mk
 | .alt a b=>a.mk++b.mk
 | .cU _ a=>a.mk
 | .loop _ _ a=>a.mk
 |_=>[]
def um:List Nat->List Nat->List Nat
 |[],acc=>acc
 |x::r,acc=>um r (if acc.contains x then acc else x::acc)
def jP (P:Program) (pl:gz):Code->Option T
 | .skip=>some .skip
 | .region _ ops draw=>if draw then(if P.follows .mixedOrders&&wK ops then(match yM P pl ops ops.size (cY ops.size false) .start with
  |some l=>some (.B9 l)
  |none=>Di P pl ops ops.size (cY ops.size false) .start)else none)else(IP P pl ops ops.toList .start).map .B9
 | .seq a b=>match jP P pl a,jP P pl b with
  |some x,some y=>some (match x,y with
   | .skip,y=>y
   |x,.skip=>x
   |x,y=>.seq x y)
  |_,_=>none
 | .cond c a b=>match valOf pl .start c,jP P pl a,jP P pl b with
  |some e,some x,some y=>some (.ite e x y)
  |_,_,_=>none
 | .block id a=>(jP P pl a).map (.cU id)
 | .loop a=>(jP P pl a).map λx=>.loop (um x.wr []) ((um x.wr []).filter (yZ pl.car)) x
 | .exit id=>some (.exit id)
 | .ret=>some .ret
 |_=>none
def E3 (P:Program) (pl:gz):List ResultVar->Option (List Ex×List Nat)
 |[]=>some ([],[])
 | .tmp t::r=>if pl.kf t then(E3 P pl r).map λ(l,n)=>(.t t::l,n)else none
 | .cell a t::r=>match look pl.boxes a,lf P t with
  |some bs,some (ag,sz)=>if decide (sz<=bs)&&(ag||sz==1)then(E3 P pl r).map λ(l,n)=>((if ag then .s a 0 sz else .k a 0)::l,a::n)else none
  |_,_=>none
structure FT where
 code:T
 res:List Ex
 live:List Nat
def cF (P:Program) (pl:gz) (fn:Func):Option FT:=
 if fn.ntmps==pl.n then
  match fn.body with
  |some c=>match jP P pl c,E3 P pl fn.results.toList with
   |some t,some (r,n)=>some ⟨t,r,n⟩
   |_,_=>none
  |none=>none
 else none
def Xu (l:List Ex) (env:Env):Value:=match l with
 |[e]=>e.ev env
 |l=>.tuple (l.map (·.ev env)).toArray
def Pk (ft:FT) (R:Ending->World->Prop):lO
 | .normal,e,w,X| .ret,e,w,X=>jg (ft.live.all λb=>gx (e b)) (∀wa,Kp X w wa->R (.returned (Xu ft.res e)) wa)
 | .panic ch,_,w,X=> ∀wa,Kp X w wa->R (.panicked ch) wa
 |_,_,_,_=>False
def nq (args:Array Value):Env:=λi=>args.toList.getD i undef
variable {P : Program} {ops : Array Oper} {Q : Exit -> Act -> World -> Prop} {a a' : Act} {v : Value} {o oi oj : Oper} {sb sb' : List Nat} {pl : gz} {K : Act -> World -> Prop} {i j : Nat} {L : Prop} {bE : Array Bool}
def eB (k off:Nat):Value:=.pointer (some ⟨k,off,none⟩)
def ZB (pl:gz) (RB:List Nat) (a:Act):XS:=λk=> ∃b n,look pl.boxes b=some n/\ ¬b∈RB/\a.tmps[b]? =some (eB k 0)
def YF (P:Program) (pl:gz) (RB:List Nat) (ops:Array Oper) (o:Oper) (v:Value) (a:Act) (w:World):Prop:=
 (cE o (yielded ops a.tmps)=true/\ ∀wa,Fr (ZB pl RB a) w wa->(execOp a.eval o).run P wa= .ok (.value v) wa)\/(cE o (yielded ops a.tmps)=false/\v=undef)
def rI (pl:gz) (sb:List Nat) (a:Act) (w:World) (a':Act) (w':World):Prop:=
 ∀RB,(∀b,b∈sb-> ¬b∈RB)->Fr (ZB pl RB a) w w'/\ ∀k,k<w.heap.size->ZB pl RB a' k->ZB pl RB a k
theorem YF.rel {RB:List Nat} (h:YF P pl RB ops o v a w) (hx:rI pl sb a w a' w') (hd: ∀b,b∈sb-> ¬b∈RB)
  (he:execOp a'.eval o=execOp a.eval o) (hw:cE o (yielded ops a'.tmps)=cE o (yielded ops a.tmps)):YF P pl RB ops o v a' w':=by
 obtain⟨h1,h2⟩:=hx RB hd;unfold YF at*;rw[he,hw];refine h.imp (λ⟨g1,g2⟩=>⟨g1,λwa ha=>g2 wa ?_⟩) id;exact⟨ha.os.trans h1.os,ha.tape.trans h1.tape,ha.output.trans h1.output,ad h1.size ha.size,
  λk hk hz=>(ha.block k (aw hk h1.size) (λuX=>hz (h2 k hk uX))).trans (h1.block k hk hz)⟩
def Au (pl:gz) (sb:List Nat) (a:Act) (w w':World):Prop:=
 ∀b n k,look pl.boxes b=some n-> ¬b∈sb->a.tmps[b]? =some (eB k 0)->w'.heap[k]? =w.heap[k]?
def Av (L:Prop) (pl:gz) (sb:List Nat) (a:Act) (w:World) (a':Act) (w':World):Prop:=(L->rI pl sb a w a' w')/\Au pl sb a w w'
def Yx (P:Program) (ops:Array Oper) (o:Oper) (v:Value) (a:Act) (w:World):Prop:=
 (cE o (yielded ops a.tmps)=true/\(execOp a.eval o).run P w= .ok (.value v) w)\/(cE o (yielded ops a.tmps)=false/\v=undef)
def YL (P:Program) (pl:gz) (x:Nat) (ops:Array Oper) (o:Oper) (v:Value) (a:Act) (w:World):Prop:=
 (cE o (yielded ops a.tmps)=true/\ ∃k n,look pl.boxes x=some n/\a.tmps[x]? =some (eB k 0)/\ ∀wa:World,wa.heap[k]? =w.heap[k]? ->(execOp a.eval o).run P wa= .ok (.value v) wa)\/
  (cE o (yielded ops a.tmps)=false/\v=undef)
def YF.yx {RB:List Nat} (h:YF P pl RB ops o v a w):Yx P ops o v a w:=h.imp (λ⟨g1,g2⟩=>⟨g1,g2 w (Fr.refl _ w)⟩) id
def YL.yx {x:Nat} (h:YL P pl x ops o v a w):Yx P ops o v a w:=h.imp (λ⟨g1,_,_,_,_,g2⟩=>⟨g1,g2 w rfl⟩) id
def Xv (pl:gz) (ops:Array Oper) (oi oj:Oper) (L:Prop) (sb:List Nat) (Y:Act->World->Prop):Prop:=
 ∀a a' w w',Av L pl sb a w a' w'->execOp a'.eval oi=execOp a.eval oi->cE oi (yielded ops a'.tmps)=cE oi (yielded ops a.tmps)->
  (∀x:Nat,(∀d,oj.dst=some d->d≠x)->a'.tmps[x]? =a.tmps[x]?)->Y a w->Y a' w'
theorem Au.refl (pl:gz) (sb:List Nat) (a:Act) (w:World):Au pl sb a w w:=λ_ _ _ _ _ _=>rfl
theorem Au.Xw {d:Option Nat} (hd: ∀x,d=some x->look pl.boxes x=none) (h:Au pl sb (a.put d v) w w'):Au pl sb a w w':=by
 intro b n k hb hn hk;refine h b n k hb hn ?_;cases d with
 |none=>exact hk
 |some x=>
  have bU:x≠b:=λe=>by grind
  simpa [nG,lB bU] using hk
theorem Au.sub (h:Au pl sb a w w') (hs: ∀b,b∈sb->b∈sb'):Au pl sb' a w w':=
 λb n k hb hn hk=>h b n k hb (λhm=>hn (hs b hm)) hk
theorem Yx.wpOp (hi:ops[i]? =some o) (hy:Yx P ops o v a w)
 (h:K (a.put o.dst v) w):wpOp P ops Q i K a w:=by
  unfold Go.wpOp;simp only[hi];rcases hy with⟨hw,hv⟩|⟨hw,rfl⟩
  · simp only[hw,if_true,tH,hv,oe];exact .inl h
  grind
theorem Xx {RB:List Nat} {d:Option Nat} (hd: ∀x,d=some x->look pl.boxes x=none):ZB pl RB (a.put d v)=ZB pl RB a:=by
 cases d with
 |none=>rfl
 |some x=>
  have hx:=hd x rfl
  funext k
  simp only[ZB,eq_iff_iff];have key: ∀b n,look pl.boxes b=some n->(a.put (some x) v).tmps[b]? =a.tmps[b]? :=λb n hb=>by
   have bU:x≠b:=λe=>by grind
   simp[nG,lB bU]
  constructor<;>rintro⟨b,n,h1,h2,h3⟩<;>refine⟨b,n,h1,h2,?_⟩
  ·grind
  grind
theorem rI.Xw {d:Option Nat} (hd: ∀x,d=some x->look pl.boxes x=none) (h:rI pl sb (a.put d v) w (a'.put d v) w'):rI pl sb a w a' w':=by
 intro RB K6;have:=h RB K6
 rwa [Xx hd,Xx hd] at this
theorem rI.refl (pl:gz) (sb:List Nat) (a:Act) (w:World) (d:Option Nat) (v:Value) (hd: ∀x,d=some x->look pl.boxes x=none):rI pl sb a w (a.put d v) w:=by
 intro RB _;rw[Xx hd]
 grind [Fr.refl]
theorem afS (hp:C2 o=true) {ρ:Operand->Value} {wa:World} (h:(execOp ρ o).run P w= .ok (.value v) w):(execOp ρ o).run P wa= .ok (.value v) wa:=by
 unfold C2 at hp;split at hp
 ·rename_i x i ho;simp only[execOp,ho] at h⊢;unfold gB at h⊢;split at h<;>simp_all
  all_goals (split at h<;>simp_all)
 ·rename_i x ho;simp only[execOp,ho] at h⊢;simp_all
 ·cases hp
theorem YF.pure {RB:List Nat} (h:YF P pl RB ops o v a w) (hp:C2 o=true)
  (he:execOp a'.eval o=execOp a.eval o) (hw:cE o (yielded ops a'.tmps)=cE o (yielded ops a.tmps)):YF P pl RB ops o v a' w':=by
 unfold YF at*;rw[he,hw];exact h.imp (λ⟨g1,g2⟩=>⟨g1,λwa _=>afS hp (g2 w (Fr.refl _ _))⟩) id
def wj (P:Program) (pl:gz) (ops:Array Oper) (Q:Exit->Act->World->Prop):Nat->Array Bool->Act->World->Prop
 |0,bE,a,w=>iB .any ops bE=[]/\Q .normal a w
 |fuel+1,bE,a,w=>
  (iB .any ops bE=[]->Q .normal a w)/\
  ∀i∈iB .any ops bE,wpOp P ops Q i (λa' w'=>(∀o,ops[i]? =some o->Av (qQ pl ops i=false) pl (wM pl ops o) a w a' w')/\wj P pl ops Q fuel (bE.setIfInBounds i true) a' w') a w
theorem QB: ∀(fuel:Nat) (bE:Array Bool) (a:Act) (w:World),wj P pl ops Q fuel bE a w->wpAny P .any ops Q fuel bE a w
 |0,_,_,_,h=>h
 |fuel+1,_,_,_,h=>⟨h.1,λi hi=>wpOp_mono (λa' w' h'=>QB fuel _ a' w' h'.2) (h.2 i hi)⟩
theorem YF.stb {RB:List Nat} (hL:L\/C2 oi=true) (hd: ∀b,b∈sb-> ¬b∈RB):Xv pl ops oi oj L sb (YF P pl RB ops oi v):=by
 intro a a' w w' hr e2 e3 _ hy;rcases hL with hl|hp
 ·exact hy.rel (hr.1 hl) hd e2 e3
 ·exact hy.pure hp e2 e3
theorem YL.stb {x:Nat} (hx: ∀d,oj.dst=some d->d≠x) (hd: ¬x∈sb):Xv pl ops oi oj L sb (YL P pl x ops oi v):=by
 intro a a' w w' hr e2 e3 e4 hy;unfold YL at*;rw[e2,e3,e4 x hx];exact hy.imp (λ⟨g1,k,n,g2,g3,g4⟩=>⟨g1,k,n,g2,g3,λwa hw=>g4 wa (hw.trans (hr.2 x n k g2 hd g3))⟩) id
theorem afT {Y:Act->World->Prop} (hj:ops[j]? =some oj) (K7:oi.apart ops oj=true)
  (hsi: ∀cs b,oi.op≠ .select cs b) (hsj: ∀cs b,oj.op≠ .select cs b) (hdi: ∀x,oi.dst=some x->look pl.boxes x=none) (fO:Xv pl ops oi oj L sb Y)
  (hQ: ∀c a w,Q (.panic c) (a.put oi.dst v) w->Q (.panic c) a w)
  (hy:Y a w) (h:wpOp P ops Q j (λa' w'=>Av L pl sb (a.put oi.dst v) w a' w'/\K a' w') (a.put oi.dst v) w):
  wpOp P ops Q j (λa' w'=>Av L pl sb a w a' w'/\Y a' w'/\K (a'.put oi.dst v) w') a w:=by
 obtain⟨h1,h2,h3⟩:=wL K7;have fin: ∀(a0:Act) (w':World) (u:Value),a0.tmps=a.tmps->Av L pl sb (a.put oi.dst v) w ((a0.put oi.dst v).put oj.dst u) w'->K ((a0.put oi.dst v).put oj.dst u) w'->
   Av L pl sb a w (a0.put oj.dst u) w'/\Y (a0.put oj.dst u) w'/\K ((a0.put oj.dst u).put oi.dst v) w':=by
  intro a0 w' u h0 hr hk;rw[Act.put_comm a0 v u h2] at hr hk;have jU:Av L pl sb a w (a0.put oj.dst u) w':=⟨λhl:L=>(hr.1 hl).Xw hdi,hr.2.Xw hdi⟩;have e1:execOp a0.eval oi=execOp a.eval oi:=by
   have:a0.eval=a.eval:=by funext x;cases x<;>simp[xI,h0]
   rw[this]
  have e2:=(execOp_put oi hsi a0 oj.dst u h3).trans e1;have e3:cE oi (yielded ops (a0.put oj.dst u).tmps)=cE oi (yielded ops a.tmps):=(wanted_put oi a0 oj.dst u h3).trans (by rw[h0]);refine⟨jU,fO a _ w w' jU e2 e3 (λx hx=>?_) hy,hk⟩;cases hod:oj.dst with
  |none=>simp[nG,h0]
  |some d=>simp[nG,h0,lB (hx d hod)]
 unfold wpOp at*;simp only[hj] at*;rw[wanted_put oj a oi.dst v h1] at h;split
 ·rename_i hw;simp only[hw,if_true] at h;rcases h with h|⟨apc,apd⟩;case inr=>exact .inr ⟨by unfold Oper.asks at*;rw[execOp_put oj hsj a oi.dst v h1] at apc;omega,apd⟩
  refine .inl ?_;unfold tH at*;rw[execOp_put oj hsj a oi.dst v h1] at h;generalize (execOp a.eval oj).run P w=r at*;cases r with
  |ok n w'=>
   cases n<;>simp only[oe] at h⊢
   case value u=>exact fin a w' u rfl h.1 h.2
   case skip=>exact fin a w' undef rfl h.1 h.2
   case defer d=>
    have e:({ a.put oi.dst v with defers:=d::(a.put oi.dst v).defers } :Act)=({ a with defers:=d::a.defers } :Act).put oi.dst v:=Act.put_defers a oi.dst v d;rw[e] at h;exact fin { a with defers:=d::a.defers } w' undef rfl h.1 h.2
   case enter f args=>
    refine Calls.mono h λe mD he=>?_;cases e with
    |returned u=>exact fin a mD u rfl he.1 he.2
    |panicked c=>exact hQ _ _ _ he
    |outgrown=>exact he
   case row row args=>exact Rows.mono h λu mD he=>fin a mD u rfl he.1 he.2
  |halt x w'=>
   cases x<;>simp only[oe] at h⊢
   case panic u=>exact hQ _ _ _ h
 ·rename_i hw;simp only[hw] at h;exact fin a w undef rfl h.1 h.2
theorem Ug:waits o i=true↔ ∃e∈o.after,vH .any e=true/\e.on=i:=by
 unfold waits;rw[yY];simp
theorem Uh: ∀j,j∈Hi ops bE i->j=i\/(bE.getD j true=false/\ ∃oj k,ops[j]? =some oj/\waits oj k=true/\k∈Hi ops bE i):=by
 unfold Hi;have key: ∀(l:List Nat) (S:List Nat),(∀j,j∈S->j=i\/(bE.getD j true=false/\ ∃oj k,ops[j]? =some oj/\waits oj k=true/\k∈S))->
   ∀j,j∈l.foldl (λS j=>if ade ops bE S j then j::S else S) S->j=i\/(bE.getD j true=false/\ ∃oj k,ops[j]? =some oj/\waits oj k=true/\k∈l.foldl (λS j=>if ade ops bE S j then j::S else S) S):=by
  intro l
  induction l with
  |nil=>intro S hS j hj;exact hS j hj
  |cons x l ih=>
   intro S hS;rw[List.foldl_cons];refine ih _ ?_;split
   ·rename_i hc;simp only[ade,aC,cW] at hc;obtain⟨h1,h2⟩:=hc;intro j hj;rcases List.mem_cons.1 hj with rfl|hj
    ·right;cases ho:ops[j]? with
     |none=>simp[ho] at h2
     |some o=>
      simp only[ho,yY,aC,wX] at h2;obtain⟨e,he,hb,hm⟩:=h2;exact⟨h1,o,e.on,rfl,Ug.2 ⟨e,he,hb,rfl⟩,bS _ hm⟩
    ·rcases hS j hj with h|⟨h,oj,k,h3,h4,h5⟩
     ·omega
     ·exact .inr ⟨h,oj,k,h3,h4,bS _ h5⟩
   omega
 exact key _ _ λj hj=>.inl (by simpa using hj)
theorem K8 {Y:Act->World->Prop} (QC: ∀a w,Y a w->Yx P ops oi v a w) (hi:ops[i]? =some oi) (DV: ∀(j:Nat) (o:Oper) cs b,ops[j]? =some o->o.op≠ .select cs b)
  (hdi: ∀x,oi.dst=some x->look pl.boxes x=none) (hQ: ∀c a w,Q (.panic c) (a.put oi.dst v) w->Q (.panic c) a w):
  ∀(fuel:Nat) (bE:Array Bool) (a:Act) (w:World) (S:Nat->Prop),S i->
   (∀j,S j->j=i\/(bE.getD j true=false/\ ∃oj k,ops[j]? =some oj/\waits oj k=true/\S k))->
   (∀j oj,ops[j]? =some oj->j≠i->bE.getD j true=false-> ¬S j->oi.apart ops oj=true/\Xv pl ops oi oj (qQ pl ops j=false) (wM pl ops oj) Y)->
   i∈iB .any ops bE->Y a w->
   wj P pl ops Q fuel (bE.setIfInBounds i true) (a.put oi.dst v) w->wj P pl ops Q (fuel+1) bE a w:=by
 intro fuel
 induction fuel with
 |zero=>
  intro bE a w S _ hS _ hr hy H;refine⟨λh=>(by rw[h] at hr;cases hr),λj hj=>?_⟩;by_cases K9:j=i
  ·subst K9;exact(QC _ _ hy).wpOp hi ⟨λ_ _=>⟨λ_=>rI.refl pl _ a w _ _ hdi,Au.refl _ _ _ _⟩,H⟩
  ·have:=ready_mono hj K9;rw[H.1] at this;cases this
 |succ fuel ih=>
  intro bE a w S hSi hS aki hr hy H;refine⟨λh=>(by rw[h] at hr;cases hr),λj hj=>?_⟩;by_cases K9:j=i
  ·subst K9;exact(QC _ _ hy).wpOp hi ⟨λ_ _=>⟨λ_=>rI.refl pl _ a w _ _ hdi,Au.refl _ _ _ _⟩,H⟩
  ·have h1:=H.2 j (ready_mono hj K9);obtain⟨aqD,oj,E4,SS⟩:=mem_ready.1 hj;have aml: ¬S j:=by
    intro hjS;rcases hS j hjS with h|⟨_,oj',k,amm,hwt,hkS⟩
    ·omega
    ·rw[E4] at amm;cases amm;obtain⟨e,he,hb,heq⟩:=Ug.1 hwt;have h1:=SS e he hb;rw[heq] at h1;have h0:bE.getD k true=false:=by
      rcases hS k hkS with h|h
      ·subst h;exact(mem_ready.1 hr).1
      ·exact h.1
     rcases Nat.lt_or_ge k bE.size with h'|h'
     ·simp[h'] at h0 h1;rw[h0] at h1;cases h1
     ·simp[qe h'] at h1
   obtain⟨K7,aqE⟩:=aki j oj E4 K9 aqD aml;have La:=wpOp_mono (K':=λa' w'=>Av (qQ pl ops j=false) pl (wM pl ops oj) (a.put oi.dst v) w a' w'/\wj P pl ops Q fuel ((bE.setIfInBounds i true).setIfInBounds j true) a' w')
    (λa' w' h'=>⟨h'.1 oj E4,h'.2⟩) h1
   have h2:=afT E4 K7 (λcs b=>DV i oi cs b hi) (λcs b=>DV j oj cs b E4) hdi aqE hQ hy La;have amn: ∀k ok,ops[k]? =some ok->k≠i->(bE.setIfInBounds j true).getD k true=false-> ¬S k->
     oi.apart ops ok=true/\Xv pl ops oi ok (qQ pl ops k=false) (wM pl ops ok) Y:=λk ok hk hki HU qs=>by
    refine aki k ok hk hki ?_ qs;by_cases Lb:j=k
    ·subst Lb;omega
    ·rw[getD_set_ne true Lb] at HU;omega
   have hS': ∀k,S k->k=i\/((bE.setIfInBounds j true).getD k true=false/\ ∃oj k',ops[k]? =some oj/\waits oj k'=true/\S k'):=λk hk=>by
    rcases hS k hk with h|⟨h,h2⟩
    ·omega
    ·exact .inr ⟨by rw[getD_set_ne true (λe=>aml (by rw[e];exact hk))];exact h,h2⟩
   refine wpOp_mono (λa' w' h3=>⟨λo ho=>?_,ih (bE.setIfInBounds j true) a' w' S hSi hS' amn (ready_mono hr (Ne.symm K9)) h3.2.1 ?_⟩) h2
   ·rw[E4] at ho;injection ho with ho;subst ho;exact h3.1
   rw[uj _ _ K9];exact h3.2.2
theorem Ui {RB:List Nat} (hi:ops[i]? =some oi) (h:Ng pl ops bE i RB=true): ∀x,oi.dst=some x->look pl.boxes x=none:=by
 simp only[Ng,hi,aC] at h;intro x hx;have:=h.1;rw[hx] at this;simpa using this
theorem QD {RB:List Nat} (hi:ops[i]? =some oi) (h:Ng pl ops bE i RB=true) (j:Nat) (oj:Oper)
  (hj:ops[j]? =some oj) (bU:j≠i) (HU:bE.getD j true=false) (qs: ¬j∈Hi ops bE i) (hnw:waits oj i=false):
  oi.apart ops oj=true/\(qQ pl ops j=false\/C2 oi=true\/Uf oi RB=true)/\ ∀b,b∈wM pl ops oj-> ¬b∈RB:=by
 simp only[Ng,hi,aC,lA,List.mem_range] at h;have h1:=h.2 j (Array.getElem?_eq_some_iff.1 hj).1;simp only[hj,oL,beq_iff_eq,bU,false_or,HU,aW,hnw,aC,cW,lA,wX,qs,or_false] at h1;exact⟨h1.1.1,h1.1.2.elim (λh=>.inr h) .inl,λb hb=>by have:=h1.2 b hb;simpa using this⟩
def Eh (env:Env):Option (Nat×Bool)->Prop
 |none=>True
 |some (g,want)=>oH (env g) want=true
structure Bk where
 ds:List Deferred
 pins:List (Nat×Value)
structure fB (pl:gz) (ds:Bk) (cs:CS) (env:Env) (X:XS) (w0:World) (a:Act) (w:World):Prop where
 size:a.tmps.size=pl.n
 defers:a.defers=ds.ds
 AW: ∀p,p∈ds.pins->a.tmps[p.1]? =some p.2/\((∃n k,look pl.boxes p.1=some n/\p.2=eB k 0)\/pl.kf p.1=true)
 ext:Kp X w0 w
 xK: ∀k,X k->k<w.heap.size
 qP: ∀s,pl.kf s=true->a.tmps[s]? =some (env s)
 sig: ∀p,p∈cs.sig->a.tmps[p.1]? =some (p.2.ev env)
 box: ∀b n,look pl.boxes b=some n-> ∀cells,env b= .agg cells-> ∃k ty,a.tmps[b]? =some (eB k 0)/\w.heap[k]? =some (.cells cells ty (0,0))/\cells.size=n/\ ¬X k
 inj: ∀b b' n n',look pl.boxes b=some n->look pl.boxes b'=some n'->gx (env b)=true->gx (env b')=true-> ∀k,a.tmps[b]? =some (eB k 0)->a.tmps[b']? =some (eB k 0)->b=b'
 conv: ∀b n,look pl.boxes b=some n-> ∀k,a.tmps[b]? =some (eB k 0)->gx (env b)=true
 live: ∀b,b∈cs.live->(∃n,look pl.boxes b=some n)/\gx (env b)=true
 ptr: ∀p,p∈cs.As->(∃n,look pl.boxes p.b=some n)/\(Eh env p.g->gx (env p.b)=true/\ ∃k,a.tmps[p.b]? =some (eB k 0)/\a.tmps[p.s]? =some (eB k p.off))
theorem rE (a:Act) (d:Nat) (v:Value) (s:Nat) (hd:d<a.tmps.size):(a.put (some d) v).tmps[s]? =if s=d then some v else a.tmps[s]? :=by
 simp only[nG,dK]
 grind
theorem gh (a:Act) (d:Nat) (v:Value) (s:Nat) (h:s≠d):(a.put (some d) v).tmps[s]? =a.tmps[s]? :=by
 simp only[nG,dK]
 grind
theorem mJ (e:Env) (d:Nat) (v:Value):jT e d v d=v:=by simp[jT]
variable {d : Nat}
theorem iP (e:Env) (v:Value) (h:s≠d):jT e d v s=e s:=by grind [jT]
variable {e : Ex}
theorem Xy (h:e.Xm d=false) (env:Env) (v:Value):e.ev (jT env d v)=e.ev env:=by
 cases e<;>simp only[Ex.Xm,beq_eq_false_iff_ne,ne_eq] at h<;>simp[Ex.ev,iP,h]
theorem wG:gx v=true↔ ∃c,v= .agg c:=by
 cases v<;>simp[gx]
variable {ds : Bk} {cs : CS} {env : Env} {w0 eu : World} {n off sz t : Nat} {ss : List (Nat × Ex)} {op : Op} {X' : XS} {nd : List Nat} {next : Env -> World -> XS -> Prop} {jd : List PanicEntry -> Env -> World -> XS -> Prop} {cells zL : Array Value} {ty : TypeId}
theorem tI (h:pl.kf s=true):s<pl.n/\look pl.boxes s=none/\pl.Ue.contains s=false:=by
 simp only[gz.kf,aC,decide_eq_true_eq,oA,cW] at h
 grind
theorem Ai (h:pl.nI s=true):s<pl.n/\look pl.boxes s=none/\pl.Ue.contains s=false:=by
 simp only[gz.nI,aC,decide_eq_true_eq,oA,cW] at h
 grind
theorem Cx {α:Type} {l:List (Nat×α)} {e:α} (h:look l t=some e):(t,e)∈l:=by
 induction l with
 |nil=>cases h
 |cons p r ih=>
  grind [look]
theorem fB.eval (h:fB pl ds cs env X w0 a w) {x:Operand} (hv:valOf pl cs x=some e):a.eval x=e.ev env:=by
 cases x with
 |tmp t=>
  simp only[valOf] at hv;split at hv
  ·rename_i hg;injection hv with hv
   subst hv;simp[xI,h.qP t hg,Ex.ev]
  ·have:=h.sig _ (Cx hv);simp only at this;simp[xI,this]
 |const v=>simp only[valOf,aj] at hv;subst hv;rfl
 |global g=>simp only[valOf,aj] at hv;subst hv;rfl
 |func f=>simp only[valOf,aj] at hv;subst hv;rfl
theorem Bh: ∀{l:List Operand} {ss:List (Nat×Ex)},subst pl cs l=some ss->
  (∀t e,look ss t=some e->valOf pl cs (.tmp t)=some e)/\(∀t,.tmp t∈l->look ss t=none->valOf pl cs (.tmp t)=some (.t t))
 |[],ss,h=>by
  simp only[subst,aj] at h;subst h;exact⟨λt e h=>(by cases h),λt h=>(by cases h)⟩
 |x::r,ss,h=>by
  cases x with
  |tmp t=>
   simp only[subst] at h;cases hv:valOf pl cs (.tmp t)with
   |none=>simp[hv] at h
   |some e=>
    cases hr:subst pl cs r with
    |none=>simp[hv,hr] at h
    |some ss'=>
     obtain⟨i1,i2⟩:=Bh hr;simp only[hv,hr,aj] at h;have gen: ∀e',e=e'->ss=(t,e')::ss'->(∀u e,look ss u=some e->valOf pl cs (.tmp u)=some e)/\(∀u,.tmp u∈(.tmp t::r)->look ss u=none->valOf pl cs (.tmp u)=some (.t u)):=by
      intro e' he hs;subst hs;refine⟨λu e2 hu=>?_,λu hu hn=>?_⟩
      ·simp only[look] at hu;split at hu
       ·rename_i htu;injection hu with hu
        subst htu hu;rw[hv,he]
       ·exact i1 _ _ hu
      ·simp only[look] at hn;split at hn
       ·cases hn
       ·rename_i htu;rcases List.mem_cons.1 hu with h1|h1
        ·injection h1 with h1;exact absurd h1.symm htu
        ·exact i2 u h1 hn
     cases e with
     |t n=>
      simp only at h;split at h
      ·rename_i hnt;subst hnt h;refine⟨i1,λu hu hn=>?_⟩;rcases List.mem_cons.1 hu with h1|h1
       ·injection h1 with h1;subst h1;exact hv
       ·exact i2 u h1 hn
      ·exact gen _ rfl h.symm
     |c v=>exact gen _ rfl h.symm
     |s b o n=>exact gen _ rfl h.symm
     |k b o=>exact gen _ rfl h.symm
  |const v=>
   obtain⟨i1,i2⟩:=Bh (l:=r) (by simpa only [subst] using h);exact⟨i1,λu hu hn=>(List.mem_cons.1 hu).elim (λh1=>by cases h1) λh1=>i2 u h1 hn⟩
  |global v=>
   obtain⟨i1,i2⟩:=Bh (l:=r) (by simpa only [subst] using h);exact⟨i1,λu hu hn=>(List.mem_cons.1 hu).elim (λh1=>by cases h1) λh1=>i2 u h1 hn⟩
  |func v=>
   obtain⟨i1,i2⟩:=Bh (l:=r) (by simpa only [subst] using h);exact⟨i1,λu hu hn=>(List.mem_cons.1 hu).elim (λh1=>by cases h1) λh1=>i2 u h1 hn⟩
theorem fB.Gr (h:fB pl ds cs env X w0 a w) {l:List Operand} (hs:subst pl cs l=some ss):
  ∀x,x∈l->a.eval x=aJ.Gr env ss x:=by
 obtain⟨i1,i2⟩:=Bh hs;intro x hx;cases x with
 |tmp t=>
  simp only[aJ.Gr];cases hl:look ss t with
  |some e=>exact h.eval (i1 t e hl)
  |none=>exact h.eval (i2 t hx hl)
 |const v=>rfl
 |global g=>rfl
 |func f=>rfl
theorem adg (h:IN op=true): ∀cs b,op≠ .select cs b:=by
 intro cs b e;subst e;cases h
theorem fB.exec (h:fB pl ds cs env X w0 a w) (hs:subst pl cs o.op.operands.toList=some ss) (hn:IN o.op=true):
  execOp a.eval o=execOp (aJ.Gr env ss) (Xn o.op o.type):=by
 rw[execOp_congr o (adg hn) λx hx=>h.Gr hs x gQ];rfl
theorem fB.step (h:fB pl ds cs env X w0 a w) (hx:Kp X' eu w') (hX: ∀k,X' k->k<w'.heap.size)
  (hb: ∀k,k<w.heap.size-> ¬X k->w'.heap[k]? =w.heap[k]? /\ ¬X' k):fB pl ds cs env X' eu a w' where
 size:=h.size
 defers:=h.defers
 AW:=h.AW
 ext:=hx
 xK:=hX
 qP:=h.qP
 sig:=h.sig
 box:=λb n hn cells hc=>by
  obtain⟨k,ty,h1,h2,h3,h4⟩:=h.box b n hn cells hc;obtain⟨e1,e2⟩:=hb k (Array.getElem?_eq_some_iff.1 h2).1 h4;exact⟨k,ty,h1,e1.trans h2,h3,e2⟩
 inj:=h.inj
 conv:=h.conv
 live:=h.live
 ptr:=h.ptr
def fB.jz (h:fB pl ds cs env X w0 a w) (hx:Ext w w'):fB pl ds cs env X w0 a w':=
 h.step (h.ext.trans (hx.kp h.xK)) (λk hk=>aw (h.xK k hk) hx.size) λ_ hk hX=>⟨hx.block hk,hX⟩
theorem fB.Nh (h:fB pl ds cs env X w0 a w) (hs:Step m X w w'):fB pl ds cs env (grow X w w') w' a w':=
 h.step (Kp.refl _ _) (λk hk=>hk.elim (λhX=>aw (h.xK k hX) hs.fr.size) (·.2))
  λk hk hX=>⟨hs.fr.block k hk hX,λhg=>hg.elim hX λhg=>by omega⟩
theorem uo (hs:look pl.boxes s=some n) (hd:look pl.boxes d=none):s≠d:=by grind
theorem fB.bind (h:fB pl ds cs env X w0 a w) (hd:pl.nI d=true) (v:Value) (rn: ∀p,p∈ds.pins->p.1≠d):
  fB pl ds (cs.bind pl d) (jT env d v) X w0 (a.put (some d) v) w:=by
 obtain⟨cx,lV,py⟩:=Ai hd;have gf:d<a.tmps.size:=by rw[h.size];exact cx
 have akj: ∀p,p∈(cs.kill d).sig->(a.put (some d) v).tmps[p.1]? =some (p.2.ev (jT env d v)):=by
  intro p hp;simp only[CS.kill,iz,aC,bne_iff_ne,ne_eq,cW] at hp;rw[gh _ _ _ _ hp.2.1,Xy hp.2.2];exact h.sig p hp.1
 have amo: ∀p,p∈(cs.kill d).As->(∃n,look pl.boxes p.b=some n)/\(Eh (jT env d v) p.g->gx (jT env d v p.b)=true/\ ∃k,(a.put (some d) v).tmps[p.b]? =some (eB k 0)/\(a.put (some d) v).tmps[p.s]? =some (eB k p.off)):=by
  intro p hp;simp only[CS.kill,iz,aC,bne_iff_ne,ne_eq] at hp;obtain⟨hp0,⟨hb,hs⟩,hg⟩:=hp;obtain⟨e1,e2⟩:=h.ptr p hp0;refine⟨e1,λXz=>?_⟩;have aqF:Eh env p.g:=by
   cases QE:p.g with
   |none=>trivial
   |some x=>
    obtain⟨g,want⟩:=x;rw[QE] at Xz hg;simp only[Eh] at Xz⊢
    rwa [iP _ _ gQ] at Xz
  obtain⟨e3,k,e4,e5⟩:=e2 aqF;rw[iP _ _ hb,gh _ _ _ _ hb,gh _ _ _ _ hs];exact⟨e3,k,e4,e5⟩
 have ahB: ∀p,p∈(cs.bind pl d).sig->(a.put (some d) v).tmps[p.1]? =some (p.2.ev (jT env d v)):=by
  intro p hp;simp only[CS.bind] at hp;split at hp
  ·exact akj p hp
  ·rcases List.mem_cons.1 hp with rfl|hp
   ·simp[rE _ _ _ _ gf,Ex.ev,mJ]
   ·exact akj p hp
 have hpt:(cs.bind pl d).As=(cs.kill d).As:=by simp only[CS.bind];split<;>rfl
 have hlv:(cs.bind pl d).live=cs.live:=by simp only[CS.bind];split<;>rfl
 exact {
  size:=by simp[nG,h.size]
  defers:=h.defers
  AW:=λp hp=>⟨by rw[gh _ _ _ _ (rn p hp)];exact(h.AW p hp).1,(h.AW p hp).2⟩
  ext:=h.ext
  xK:=h.xK
  qP:=λs hs=>by
   rw[rE _ _ _ _ gf];split
   ·rename_i e;subst e;rw[mJ]
   ·rename_i e;rw[iP _ _ e];exact h.qP s hs
  sig:=ahB
  box:=λb n hn cells hc=>by
   have pR:=uo hn lV;rw[iP _ _ pR] at hc;rw[gh _ _ _ _ pR];exact h.box b n hn cells hc
  inj:=λb b' n n' hb dW h1 h2 k h3 h4=>by
   have pR:=uo hb lV;have Lc:=uo dW lV;rw[iP _ _ pR] at h1;rw[iP _ _ Lc] at h2;rw[gh _ _ _ _ pR] at h3;rw[gh _ _ _ _ Lc] at h4;exact h.inj b b' n n' hb dW h1 h2 k h3 h4
  conv:=λb n hb k hk=>by
   have pR:=uo hb lV;rw[gh _ _ _ _ pR] at hk;rw[iP _ _ pR];exact h.conv b n hb k hk
  live:=λb hb=>by
   rw[hlv] at hb;obtain⟨⟨n,hn⟩,hl⟩:=h.live b hb;rw[iP _ _ (uo hn lV)];exact⟨⟨n,hn⟩,hl⟩
  ptr:=by rw[hpt];omega }
theorem fB.my (h:fB pl ds cs env X w0 a w) (hn: ∀b,b∈nd->(∃n,look pl.boxes b=some n)/\gx (env b)=true):
  fB pl ds (cs.my nd) env X w0 a w:=
 { h with live:=λb hb=>(List.mem_append.1 hb).elim (hn b) (h.live b) }
theorem fB.other (h:fB pl ds cs env X w0 a w) (cx:d<pl.n) (lV:look pl.boxes d=none) (QF:pl.kf d=false) (v:Value) {oh:CS}
  (ahB: ∀p,p∈oh.sig->(a.put (some d) v).tmps[p.1]? =some (p.2.ev env)) (hlv:oh.live=cs.live)
  (amo: ∀p,p∈oh.As->(∃n,look pl.boxes p.b=some n)/\(Eh env p.g->gx (env p.b)=true/\ ∃k,(a.put (some d) v).tmps[p.b]? =some (eB k 0)/\(a.put (some d) v).tmps[p.s]? =some (eB k p.off))):
  fB pl ds oh env X w0 (a.put (some d) v) w where
 size:=by simp[nG,h.size]
 defers:=h.defers
 AW:=λp hp=>by
  obtain⟨h1,h2⟩:=h.AW p hp;refine⟨?_,h2⟩;have bU:p.1≠d:=λe=>by
   rcases h2 with⟨n,_,hn,_⟩|hg
   ·rw[e,lV] at hn;cases hn
   ·rw[e,QF] at hg;cases hg
  rw[gh _ _ _ _ bU];exact h1
 ext:=h.ext
 xK:=h.xK
 qP:=λs hs=>by
  rw[gh _ _ _ _ gQ];exact h.qP s hs
 sig:=ahB
 box:=λb n hn cells hc=>by
  rw[gh _ _ _ _ (uo hn lV)];exact h.box b n hn cells hc
 inj:=λb b' n n' hb dW h1 h2 k h3 h4=>by
  rw[gh _ _ _ _ (uo hb lV)] at h3;rw[gh _ _ _ _ (uo dW lV)] at h4;exact h.inj b b' n n' hb dW h1 h2 k h3 h4
 conv:=λb n hb k hk=>by
  rw[gh _ _ _ _ (uo hb lV)] at hk;exact h.conv b n hb k hk
 live:=λb hb=>h.live b (hlv▸hb)
 ptr:=amo
theorem fB.note (h:fB pl ds cs env X w0 a w) (hd:pl.nI d=true) (QF:pl.kf d=false) (e:Ex):
  fB pl ds (cs.note d e) env X w0 (a.put (some d) (e.ev env)) w:=by
 obtain⟨cx,lV,py⟩:=Ai hd;have gf:d<a.tmps.size:=by rw[h.size];exact cx
 refine h.other cx lV QF _ ?_ rfl ?_
 ·intro p hp;simp only[CS.note,ij,iz,bne_iff_ne,ne_eq] at hp;rcases hp with rfl|⟨hp,bU⟩
  ·simp[rE _ _ _ _ gf]
  ·rw[gh _ _ _ _ bU];exact h.sig p hp
 ·intro p hp;simp only[CS.note,iz,bne_iff_ne,ne_eq] at hp;obtain⟨⟨n,hn⟩,e2⟩:=h.ptr p hp.1;refine⟨⟨n,hn⟩,λhg=>?_⟩;obtain⟨e3,k,e4,e5⟩:=e2 hg;refine⟨e3,k,?_,?_⟩
  ·rw[gh _ _ _ _ (uo hn lV)];exact e4
  ·rw[gh _ _ _ _ hp.2];exact e5
theorem fB.sw (h:fB pl ds cs env X w0 a w) (hd:pl.nI d=true) (e:Ex)
  (hn:ia P jd next (aJ.sw pl cs d e).1 env w0 X) (rn: ∀b,b∈oM (aJ.sw pl cs d e).1-> ∀p,p∈ds.pins->p.1≠b): ∃dt,fB pl ds (aJ.sw pl cs d e).2 dt X w0 (a.put (some d) (e.ev env)) w/\next dt w0 X:=by
 unfold aJ.sw at hn rn⊢;split
 ·rename_i hg;rw[if_pos hg] at hn rn;exact⟨_,h.bind hd _ (rn d (by simp[oM,TI.K5])),hn⟩
 ·rename_i hg;rw[if_neg hg] at hn;have QF:pl.kf d=false:=by
   cases hx:pl.kf d with
   |false=>rfl
   |true=>grind
  exact⟨env,h.note hd QF e,hn⟩
theorem fB.derive (h:fB pl ds cs env X w0 a w) {b:Nat} {g:Option (Nat×Bool)} (cx:d<pl.n) (lV:look pl.boxes d=none) (Pm:pl.Ue.contains d=true)
    (v:Value) (hb: ∃n,look pl.boxes b=some n) (hv:Eh env g->gx (env b)=true/\ ∃k,a.tmps[b]? =some (eB k 0)/\v=eB k off)
 :
    fB pl ds (cs.su d b off g) env X w0 (a.put (some d) v) w:=by
  have gf:d<a.tmps.size:=by rw[h.size];exact cx
  have QF:pl.kf d=false:=by
    cases hx:pl.kf d with
    |false=>rfl
    |true=>have:=(tI hx).2.2;grind
  refine h.other cx lV QF _ ?_ rfl ?_
  · intro p hp
    simp only[CS.su,iz,bne_iff_ne,ne_eq] at hp;rw[gh _ _ _ _ hp.2];exact h.sig p hp.1
  · intro p hp
    rcases List.mem_cons.1 hp with rfl|hp
    · obtain⟨n,hn⟩:=hb
      refine⟨⟨n,hn⟩,λhg=>?_⟩;obtain⟨e1,k,e2,e3⟩:=hv hg;refine⟨e1,k,?_,?_⟩
      · rw[gh _ _ _ _ (uo hn lV)];exact e2
      · simp[rE _ _ _ _ gf,e3]
    · simp only[iz,bne_iff_ne,ne_eq] at hp
      obtain⟨⟨n,hn⟩,e2⟩:=h.ptr p hp.1;refine⟨⟨n,hn⟩,λhg=>?_⟩;obtain⟨e3,k,e4,e5⟩:=e2 hg;refine⟨e3,k,?_,?_⟩
      · rw[gh _ _ _ _ (uo hn lV)];exact e4
      · rw[gh _ _ _ _ hp.2];exact e5
theorem ahC {p:Nat×Ex} (hp:p∈(cs.kill d).sig):p∈cs.sig/\p.1≠d/\p.2.Xm d=false:=by grind [CS.kill]
theorem ahD {p:Ptr} (hp:p∈(cs.kill d).As):p∈cs.As/\p.b≠d/\p.s≠d/\(∀v,Eh (jT env d v) p.g->Eh env p.g):=by
 simp only[CS.kill,iz,aC,bne_iff_ne,ne_eq] at hp;obtain⟨hp0,⟨hb,hs⟩,hg⟩:=hp;refine⟨hp0,hb,hs,λv Xz=>?_⟩;cases QE:p.g with
 |none=>trivial
 |some x=>
  grind [Eh,iP]
theorem fB.afU (h:fB pl ds cs env X w0 a w) (cx:d<pl.n) (hb:look pl.boxes d=some sz) (cells:Array Value) (gf:cells.size=sz) (ty:TypeId) (rn: ∀p,p∈ds.pins->p.1≠d):
  fB pl ds ((cs.kill d).my [d]) (jT env d (.agg cells)) X w0 (a.put (some d) (eB w.heap.size 0)) (w.alloc (.cells cells ty)):=by
 have hd:d<a.tmps.size:=by rw[h.size];exact cx
 have hg:=h.jz (Ext.alloc w (.cells cells ty));have fresh: ∀b n c,look pl.boxes b=some n->env b= .agg c->a.tmps[b]? ≠some (eB w.heap.size 0):=by
  intro b n c hn hc e;obtain⟨k,ty',h1,h2,_,_⟩:=h.box b n hn c hc;rw[h1] at e;have hk:k=w.heap.size:=by simpa [eB] using e
  subst hk;rw[qe (au _)] at h2;cases h2
 exact {
  size:=by simp[nG,h.size]
  defers:=h.defers
  AW:=λp hp=>⟨by rw[gh _ _ _ _ (rn p hp)];exact(h.AW p hp).1,(h.AW p hp).2⟩
  ext:=hg.ext
  xK:=hg.xK
  qP:=λs hs=>by
   have bU:s≠d:=λe=>by subst e;have:=(tI hs).2.1;grind
   rw[gh _ _ _ _ bU,iP _ _ bU];exact h.qP s hs
  sig:=λp hp=>by
   obtain⟨h1,h2,h3⟩:=ahC hp;rw[gh _ _ _ _ h2,Xy h3];exact h.sig p h1
  box:=λb n hn c hc=>by
   by_cases pR:b=d
   ·subst pR;rw[mJ] at hc;injection hc with hc
    subst hc;rw[hb] at hn;injection hn with hn
    refine⟨w.heap.size,ty,by simp[rE _ _ _ _ hd],heap_alloc_new w _,by omega,λhX=>?_⟩;exact absurd (h.xK _ hX) zQ
   ·rw[iP _ _ pR] at hc;rw[gh _ _ _ _ pR];exact hg.box b n hn c hc
  inj:=λb b' n n' hn mE h1 h2 k h3 h4=>by
   obtain⟨c,hc⟩:=wG.1 h1;obtain⟨c',AX⟩:=wG.1 h2;by_cases pR:b=d<;>by_cases Lc:b'=d
   ·omega
   ·subst pR;rw[rE _ _ _ _ hd,if_pos rfl] at h3;rw[gh _ _ _ _ Lc] at h4;rw[iP _ _ Lc] at AX;rw[<-h3] at h4;exact absurd h4 (fresh b' n' c' mE AX)
   ·subst Lc;rw[rE _ _ _ _ hd,if_pos rfl] at h4;rw[gh _ _ _ _ pR] at h3;rw[iP _ _ pR] at hc;rw[<-h4] at h3;exact absurd h3 (fresh b n c hn hc)
   ·rw[iP _ _ pR] at h1;rw[iP _ _ Lc] at h2;rw[gh _ _ _ _ pR] at h3;rw[gh _ _ _ _ Lc] at h4;exact h.inj b b' n n' hn mE h1 h2 k h3 h4
  conv:=λb n hn k hk=>by
   by_cases pR:b=d
   ·subst pR;rw[mJ];rfl
   ·rw[gh _ _ _ _ pR] at hk;rw[iP _ _ pR];exact h.conv b n hn k hk
  live:=λb dW=>by
   simp only[CS.my,j5,cB,ij] at dW;rcases dW with rfl|dW
   ·exact⟨⟨sz,hb⟩,by rw[mJ];rfl⟩
   ·obtain⟨e1,e2⟩:=h.live b dW;refine⟨e1,?_⟩;by_cases pR:b=d
    ·subst pR;rw[mJ];rfl
    ·rw[iP _ _ pR];exact e2
  ptr:=λp hp=>by
   obtain⟨h1,h2,h3,h4⟩:=ahD (env:=env) hp;obtain⟨e1,e2⟩:=h.ptr p h1;refine⟨e1,λXz=>?_⟩;obtain⟨e3,k,e4,e5⟩:=e2 (h4 _ Xz);rw[iP _ _ h2,gh _ _ _ _ h2,gh _ _ _ _ h3];exact⟨e3,k,e4,e5⟩ }
theorem fB.store (h:fB pl ds cs env X w0 a w) {b:Nat} (hb:look pl.boxes b=some n) (hc:env b= .agg cells)
  (ht:a.tmps[b]? =some (eB k 0)) (hk:w.heap[k]? =some (.cells cells ty (0,0))) (hX: ¬X k) (gf:zL.size=n) (hw:Fr (· =k) w w') (ah:w'.heap[k]? =some (.cells zL ty (0,0))):
  fB pl ds (cs.Nf b) (jT env b (.agg zL)) X w0 a w':=by
 have hA:gx (env b)=true:=by rw[hc];rfl
 exact {
  size:=h.size
  defers:=h.defers
  AW:=h.AW
  ext:=h.ext.trans (hw.kp λj hj=>⟨h.xK j hj,λe=>by grind⟩)
  xK:=λj hj=>aw (h.xK j hj) hw.size
  qP:=λs hs=>by
   have bU:s≠b:=λe=>by subst e;have:=(tI hs).2.1;grind
   rw[iP _ _ bU];exact h.qP s hs
  sig:=λp hp=>by
   simp only[CS.Nf,iz,cW] at hp;rw[Xy hp.2];exact h.sig p hp.1
  box:=λb' n' mE c AX=>by
   by_cases pR:b'=b
   ·subst pR;rw[mJ] at AX;injection AX with AX
    subst AX;rw[hb] at mE;injection mE with mE
    exact⟨k,ty,ht,ah,by omega,hX⟩
   ·rw[iP _ _ pR] at AX;obtain⟨k2,Om,h1,h2,h3,h4⟩:=h.box b' n' mE c AX;have sF:k2≠k:=λe=>by
     subst e;exact pR (h.inj b' b n' n mE hb gQ hA k2 h1 ht)
    exact⟨k2,Om,h1,(hw.block k2 (Array.getElem?_eq_some_iff.1 h2).1 sF).trans h2,h3,h4⟩
  inj:=λb1 b2 n1 n2 xd hn2 h1 h2 j h3 h4=>by
   have f: ∀b',gx (jT env b (.agg zL) b')=true->gx (env b')=true:=λb' hh=>by
    by_cases e:b'=b
    ·grind
    ·rwa [iP _ _ e] at hh
   exact h.inj b1 b2 n1 n2 xd hn2 (f b1 h1) (f b2 h2) j h3 h4
  conv:=λb' n' mE j hj=>by
   by_cases e:b'=b
   ·subst e;rw[mJ];rfl
   ·rw[iP _ _ e];exact h.conv b' n' mE j hj
  live:=λb' dW=>by
   obtain⟨e1,e2⟩:=h.live b' dW;refine⟨e1,?_⟩;by_cases e:b'=b
   ·subst e;rw[mJ];rfl
   ·rwa [iP _ _ e]
  ptr:=λp hp=>by
   obtain⟨e1,e2⟩:=h.ptr p hp;refine⟨e1,λhg=>?_⟩;have rJ:Eh env p.g:=by
    cases QE:p.g with
    |none=>trivial
    |some x=>
     obtain⟨g,want⟩:=x;rw[QE] at hg;simp only[Eh] at hg⊢;by_cases e:g=b
     ·subst e;rw[mJ] at hg;cases hg
     ·rwa [iP _ _ e] at hg
   obtain⟨e3,k2,e4,e5⟩:=e2 rJ;refine⟨?_,k2,e4,e5⟩;by_cases e:p.b=b
   ·rw[e,mJ];rfl
   ·rwa [iP _ _ e] }
variable {ag : Bool}
theorem Aw (k o n:Nat):(⟨k,o,none⟩:Addr).add n=⟨k,o+n,none⟩:=by grind [Addr.add]
theorem On {S f fo:Nat} (h:fieldInfo P S f=some (fo,sz)) (hz:sz≠0) (k off:Nat) (w:World):
  (Instr.fieldAt S (eB k off) f).run P w= .ok (eB k (off+fo)) w:=by
 unfold fieldInfo at h;split at h
 ·rename_i fs hu;cases hf:fs[f]? with
  |none=>grind
  |some x=>
   cases hi:P.info? x.type with
   |none=>grind
   |some i=>
    simp only[hf,hi,cL,ba,aj,cN] at h;obtain⟨h1,h2⟩:=h;subst h1 h2;simp[Instr.fieldAt,run_underlying hu,hf,px,eB,fieldPlace,sizeOf,typeInfo,hi,hz,Aw]
 ·cases h
theorem JU (h:w.heap[k]? =some (.cells cells ty (0,0))) (i:Nat):w.cell? ⟨k,i,none⟩=cells[i]? :=by
 simp[World.cell?,h]
theorem QG (h:lf P t=some (ag,sz)) (XA:(ag||sz==1)=true)
  (hk:w.heap[k]? =some (.cells cells ty (0,0))) (off:Nat) (hl:off+sz<=cells.size):
  (jv t (eB k off)).run P w= .ok (if ag then yK (.agg cells) off sz else cellOf (.agg cells) off) w:=by
 unfold lf at h;split at h
 ·rename_i d i hu hi;simp only[aj,cN] at h;obtain⟨h1,h2⟩:=h;subst h2;have Cy:(isAgg t).run P w= .ok ag w:=by
   subst h1;cases d<;>simp[isAgg,run_underlying hu]
  cases ag with
  |true=>
   have hc: ∀j v,((cells.toList.drop off).take i.size)[j]? =some v->w.cell? ((⟨k,off,none⟩:Addr).add j)=some v:=by
    intro j v hj;rw[Aw,JU hk];rw[List.getElem?_take] at hj;split at hj
    ·rw[List.getElem?_drop] at hj;simpa using hj
    ·cases hj
   have hlen:((cells.toList.drop off).take i.size).length=i.size:=by
    simp;omega
   have hr:=run_loadCells_list (P:=P) w ⟨k,off,none⟩ _ hc;rw[hlen] at hr;simp[jv,px,eB,loadVar,Cy,sizeOf,typeInfo,hi,hr,yK,Value.cells]
  |false=>
   simp only[Bool.false_or,beq_iff_eq] at XA;have cx:off<cells.size:=by omega
   have hc:w.cell? ⟨k,off,none⟩=some cells[off]:=by rw[JU hk];simp[cx]
   simp[jv,px,eB,loadVar,Cy,hc,cellOf,Value.cells,cx]
 ·cases h
theorem QH (v:Value):one v=v.oneCell':=by rfl
theorem tg (h:one v=true):v.cells= #[v]:=by cases v<;>first|rfl|cases h
theorem abh (h:lf P t=some (ag,sz)):(P.info? t).map (·.size)=some sz:=by
 unfold lf at h
 grind
theorem Oo (h:(P.info? t).map (·.size)=some sz)
  (hk:w.heap[k]? =some (.cells cells ty (0,0))) (off:Nat) (hl:off+sz<=cells.size) (v:Value) (hv:v.cells.size=sz) (h1:v.cells.toList.all one=true):
  (Instr.storeAt t (eB k off) v).run P w= .ok () (w.setRow k (dr cells.toList off v.cells.toList).toArray):=by
 cases hi:P.info? t with
 |none=>grind
 |some i=>
  simp only[hi,ba,aj] at h;have fO:=run_storeCells_at P k off ty v.cells.toList 0 cells w hk (by simpa [hv] using hl) (λx hx=>by
   have:=List.all_eq_true.1 h1 x hx;assumption)
  simp only[Nat.add_zero] at fO;simp[Instr.storeAt,px,eB,storeVar,sizeOf,typeInfo,hi,h,hv,fO,dr]
theorem afV (hk:w.heap[k]? =some (.cells cells ty (0,0))):
  Fr (· =k) w (w.setRow k zL)/\(w.setRow k zL).heap[k]? =some (.cells zL ty (0,0)):=by
 refine⟨⟨rfl,rfl,rfl,by simp[World.setRow],λj _ hj=>?_⟩,setRow_heap w k cells zL ty (0,0) hk⟩;simp only[World.setRow,Array.getElem?_modify]
 grind
theorem ahE {l vs:List Value} (h:off+vs.length<=l.length):(dr l off vs).length=l.length:=by
 simp[dr];omega
variable {og : Option (Nat × Bool)} {r : CR}
theorem Ld: ∀{l:List Ptr} {t b off:Nat},HT og l t=some (b,off)-> ∃p,p∈l/\p.s=t/\p.b=b/\p.off=off/\(p.g=none\/p.g=og)
 |[],_,_,_,h=>by cases h
 |p::r,t,b,off,h=>by
  simp only[HT] at h;split at h
  ·simp_all
  ·obtain⟨q,h1,h2⟩:=Ld h
   grind
theorem fB.xc (h:fB pl ds cs env X w0 a w) {x:Operand} {b:Nat} (hp:aJ.xc pl cs og x=some (b,off,nd)):
  (∃n,look pl.boxes b=some n)/\(∀b',b'∈nd-> ∃n,look pl.boxes b'=some n)/\
  ((∀b',b'∈nd->gx (env b')=true)->Eh env og->gx (env b)=true/\ ∃k,a.eval x=eB k off/\a.tmps[b]? =some (eB k 0)):=by
 cases x with
 |tmp t=>
  simp only[aJ.xc] at hp;split at hp
  ·rename_i n hn;simp only[aj,cN] at hp;obtain⟨rfl,rfl,py⟩:=hp;refine⟨⟨n,hn⟩,λb' dW=>?_,λhl _=>?_⟩
   ·grind
   ·have hA:gx (env t)=true:=by
     split at py
     ·rename_i hc;exact(h.live t gQ).2
     ·grind
    obtain⟨c,hc⟩:=wG.1 hA;obtain⟨k,ty,h1,_⟩:=h.box t n hn c hc;exact⟨hA,k,by simp[xI,h1],h1⟩
  ·split at hp
   ·cases hf:HT og cs.As t with
    |none=>grind
    |some q=>
     obtain⟨b',atj⟩:=q;simp only[hf,ba,aj,cN] at hp;obtain⟨rfl,rfl,rfl⟩:=hp;obtain⟨p,hp,hs,hb,ho,hg⟩:=Ld hf;obtain⟨e1,e2⟩:=h.ptr p hp;subst hs hb ho;refine⟨e1,λ_ dW=>(by cases dW),λ_ Xz=>?_⟩;obtain⟨e3,k,e4,e5⟩:=e2 (hg.elim (λhg=>by simp[hg,Eh]) (λhg=>by grind));exact⟨e3,k,by simp[xI,e5],e4⟩
   ·cases hp
 |const v=>cases hp
 |global g=>cases hp
 |func f=>cases hp
theorem Le: ∀(nd:List Nat) {l:List TI},
  ia P jd next (nd.map .Ar++l) env w X->(∀b,b∈nd->gx (env b)=true)/\ia P jd next l env w X
 |[],_,h=>⟨λ_ hb=>(by cases hb),h⟩
 |b::nd,l,h=>by
  obtain⟨h1,h2⟩:gx (env b)=true/\ia P jd next (nd.map .Ar++l) env w X:=by simpa only [List.map_cons,j5,ia,Xr,dJ] using h
  obtain⟨h3,h4⟩:=Le nd h2;refine⟨λb' dW=>?_,h4⟩;rcases List.mem_cons.1 dW with rfl|dW
  ·exact h1
  ·exact h3 b' dW
theorem C3: ∀(l l':List TI),ia P jd next (l++l')=ia P jd (ia P jd next l') l
 |[],_=>rfl
 |i::l,l'=>by
  funext env w X
  simp only[j5,ia,C3 l l']
inductive Shape (P:Program) (pl:gz) (cs:CS) (og:Option (Nat×Bool)) (m:Bool) (o:Oper):CR->Prop
 |mv (x:Operand) (d:Nat) (e:Ex) (ho:o.op= .move x\/o.op= .assign x) (hd:o.dst=some d) (hv:valOf pl cs x=some e) (hp:pl.nI d=true):
   Shape P pl cs og m o ⟨true,[],(sw pl cs d e).1,(sw pl cs d e).2,[],[]⟩
 |ld (t:TypeId) (x:Operand) (d b off:Nat) (nd:List Nat) (ag:Bool) (sz bs:Nat) (ho:o.op= .load t x) (hd:o.dst=some d) (hx:aJ.xc pl cs og x=some (b,off,nd))
   (ht:lf P t=some (ag,sz)) (hb:look pl.boxes b=some bs) (hp:pl.nI d=true) (hl:off+sz<=bs) (ha:(ag||sz==1)=true):
   Shape P pl cs og m o ⟨true,nd,(sw pl (cs.my nd) d (if ag then .s b off sz else .k b off)).1,(sw pl (cs.my nd) d (if ag then .s b off sz else .k b off)).2,[b],[]⟩
 |fa (S:TypeId) (x:Operand) (f d b off:Nat) (nd:List Nat) (fo sz:Nat) (ho:o.op= .fieldAddr S x f) (hd:o.dst=some d) (hx:aJ.xc pl cs og x=some (b,off,nd))
   (hf:fieldInfo P S f=some (fo,sz)) (Pm:pl.Ue.contains d=true) (cx:d<pl.n) (lV:look pl.boxes d=none) (hz:sz≠0):
   Shape P pl cs og m o ⟨true,nd,[],(cs.my nd).su d b (off+fo) og,[],[]⟩
 |rd (d:Nat) (ss:List (Nat×Ex)) (hd:o.dst=some d) (hs:subst pl cs o.op.operands.toList=some ss) (hn:IN o.op=true) (hp:pl.nI d=true):
   Shape P pl cs og m o ⟨true,[],[.rd d o.op o.type ss],cs.bind pl d,[],[]⟩
 |Eg (d:Nat) (ss:List (Nat×Ex)) (hd:o.dst=some d) (hs:subst pl cs o.op.operands.toList=some ss) (hn:IN o.op=true) (hp:pl.nI d=true):
   Shape P pl cs og m o ⟨false,[],[.Eg (some d) o.op o.type ss m],cs.bind pl d,[],[]⟩
 |act (ss:List (Nat×Ex)) (hd:o.dst=none) (hs:subst pl cs o.op.operands.toList=some ss) (hn:IN o.op=true):
   Shape P pl cs og m o ⟨false,[],[.Eg none o.op o.type ss m],cs,[],[]⟩
 |bx (t:TypeId) (x:Operand) (d sz:Nat) (e:Ex) (ag:Bool) (ho:o.op= .box t x) (hd:o.dst=some d) (hb:look pl.boxes d=some sz) (hv:valOf pl cs x=some e) (ht:lf P t=some (ag,sz)) (cx:d<pl.n):
   Shape P pl cs og m o ⟨false,[],[if !ag&&sz==1 then .Cv d e else .box d sz e],(cs.kill d).my [d],[],[]⟩
 |al (t:TypeId) (d sz:Nat) (i:TypeInfo) (z:Value) (ag:Bool) (ho:o.op= .alloc t) (hd:o.dst=some d) (hb:look pl.boxes d=some sz) (hi:P.info? t=some i) (hz:i.zero=some z) (ht:lf P t=some (ag,sz)) (cx:d<pl.n):
   Shape P pl cs og m o ⟨false,[],[if !ag&&sz==1 then .Cv d (.c z)else .box d sz (.c z)],(cs.kill d).my [d],[],[]⟩
 |st (t:TypeId) (x v:Operand) (b off:Nat) (nd:List Nat) (sz bs:Nat) (e:Ex) (ag:Bool) (ho:o.op= .store t x v) (hd:o.dst=none) (hx:aJ.xc pl cs og x=some (b,off,nd))
   (hv:valOf pl cs v=some e) (ht:lf P t=some (ag,sz)) (hb:look pl.boxes b=some bs) (hl:off+sz<=bs):
   Shape P pl cs og m o ⟨false,nd,[if !ag&&sz==1 then .Xo b off e else if off==0&&sz==bs then .fill b sz e else .put b off sz e],(cs.my nd).Nf b,[],[b]⟩
theorem yN (h:Gt P pl cs m o=some r):Shape P pl cs og m o r:=by
 unfold Gt at h;split at h
 ·cases h
 ·rename_i ss hs;split at h
  ·cases h
  ·rename_i hn;simp only[cW,AT] at hn;split at h
   ·rename_i d hd;split at h
    ·cases h
    ·rename_i hp;simp only[cW,AT] at hp;split at h<;>injection h with h<;>subst h
     ·exact .rd d ss hd hs hn hp
     ·exact .Eg d ss hd hs hn hp
   ·rename_i hd;injection h with h
    subst h;exact .act ss hd hs hn
theorem Uj (h:Xt P pl cs sz t e d=some r)
  (k: ∀ag,d<pl.n->lf P t=some (ag,sz)->Shape P pl cs og m o ⟨false,[],[if !ag&&sz==1 then .Cv d e else .box d sz e],(cs.kill d).my [d],[],[]⟩):Shape P pl cs og m o r:=by
 unfold Xt at h;split at h
 ·rename_i ag s ht;split at h
  ·grind
  ·cases h
 ·cases h
theorem tJ (h:Ev P pl cs og m o=some r):Shape P pl cs og m o r:=by
 unfold Ev at h;split at h;case h_1 x ho=>
  split at h
  ·rename_i d e hd hv;split at h
   ·rename_i hp;injection h with h
    subst h;exact .mv x d e (.inl ho) hd hv hp
   ·cases h
  ·cases h
 case h_2 x ho=>
  split at h
  ·rename_i d e hd hv;split at h
   ·rename_i hp;injection h with h
    subst h;exact .mv x d e (.inr ho) hd hv hp
   ·cases h
  ·cases h
 case h_3 t x ho=>
  split at h
  ·rename_i d hd;split at h
   ·rename_i sz hb;split at h
    ·rename_i e hv;exact Uj h λag cx ht=>.bx t x d sz e ag ho hd hb hv ht cx
    ·cases h
   ·exact yN h
  ·cases h
 case h_4 t ho=>
  split at h
  ·rename_i d hd;split at h
   ·rename_i sz hb;split at h
    ·rename_i z hz;cases hi:P.info? t with
     |none=>grind
     |some i=>
      simp only[hi,cL] at hz;exact Uj h λag cx ht=>.al t d sz i z ag ho hd hb hi hz ht cx
    ·cases h
   ·exact yN h
  ·cases h
 case h_5 S x f ho=>
  split at h
  ·rename_i b off nd hx;split at h
   ·rename_i d fo sz hd hf;split at h
    ·rename_i hc;simp only[aC,decide_eq_true_eq,oA,bne_iff_ne,ne_eq] at hc;injection h with h
     subst h;exact .fa S x f d b off nd fo sz ho hd hx hf hc.1.1.1 hc.1.1.2 hc.1.2 hc.2
    ·cases h
   ·cases h
  ·exact yN h
 case h_6 t x ho=>
  split at h
  ·rename_i b off nd hx;split at h
   ·rename_i d ag sz bs hd ht hb;split at h
    ·rename_i hc;simp only[aC,decide_eq_true_eq] at hc;injection h with h
     subst h;exact .ld t x d b off nd ag sz bs ho hd hx ht hb hc.1.1 hc.1.2 hc.2
    ·cases h
   ·cases h
  ·exact yN h
 case h_7 t x v ho=>
  split at h
  ·rename_i b off nd hx;split at h
   ·rename_i e ag sz bs hd hv ht hb;split at h
    ·rename_i hc;simp only[decide_eq_true_eq] at hc;injection h with h
     subst h;exact .st t x v b off nd sz bs e ag ho hd hx hv ht hb hc
    ·cases h
   ·cases h
  ·exact yN h
 grind [yN]
theorem fB.zb (h:fB pl ds cs env X w0 a w) {RB:List Nat} (hz:ZB pl RB a k): ¬X k:=by
 obtain⟨b,n,hb,_,ht⟩:=hz;obtain⟨c,hc⟩:=wG.1 (h.conv b n hb k ht);obtain⟨k',ty,e1,_,_,e4⟩:=h.box b n hb c hc;rw[ht] at e1;have:k'=k:=by simpa [eB] using e1.symm
 grind
def fB.kp0 (h:fB pl ds cs env X w0 a w) {RB:List Nat} (hx:Fr (ZB pl RB a) w w'):Kp X w0 w':=
 h.ext.trans (hx.kp λk hk=>⟨h.xK k hk,λhz=>h.zb hz hk⟩)
theorem fB.cU (h:fB pl ds cs env X w0 a w) {b:Nat} (hb:look pl.boxes b=some n) (ht:a.tmps[b]? =some (eB k 0)):k<w.heap.size/\ ¬X k:=by
 obtain⟨c,hc⟩:=wG.1 (h.conv b n hb k ht);obtain⟨k',ty,e1,e2,_,e4⟩:=h.box b n hb c hc;rw[ht] at e1;have:k'=k:=by simpa [eB] using e1.symm
 grind
def fB.ahF (h:fB pl ds cs env X w0 a w) (hx:Fr X w w'):Au pl sb a w w':=
 λ_ _ _ hb _ hk=>hx.block _ (h.cU hb hk).1 (h.cU hb hk).2
theorem rI.fb (hx:Ext w w') (hz: ∀b n,look pl.boxes b=some n-> ∀k,k<w.heap.size->a'.tmps[b]? =some (eB k 0)->a.tmps[b]? =some (eB k 0)):rI pl sb a w a' w':=
 λ_ _=>⟨hx.fr _,λk hk ⟨b,n,h1,h2,h3⟩=>⟨b,n,h1,h2,hz b n h1 k hk h3⟩⟩
theorem rI.ahG {d:Option Nat} (hx:Ext w w') (hd: ∀x,d=some x->look pl.boxes x=none):rI pl sb a w (a.put d v) w':=by
 refine rI.fb hx λb n hb k _ hk=>?_;cases d with
 |none=>exact hk
 |some x=>rwa [gh _ _ _ _ (uo hb (hd x rfl))] at hk
theorem rI.sub (h:rI pl sb a w a' w') (hs: ∀b,b∈sb->b∈sb'):rI pl sb' a w a' w':=
 λRB K6=>h RB λb hb=>K6 b (hs b hb)
theorem Uk (hs:Shape P pl cs og m o r) (iT:r.fl=true): ∀x,o.dst=some x->look pl.boxes x=none:=by
 have f: ∀{d:Nat},o.dst=some d->pl.nI d=true-> ∀x,o.dst=some x->look pl.boxes x=none:=λhd hp x hx=>by
  rw[hd] at hx;injection hx with hx;subst hx;exact(Ai hp).2.1
 cases hs with
 |mv x d e ho hd hv hp=>grind
 |ld t x d b off nd ag sz bs ho hd hx ht hb hp hl ha=>grind
 |fa S x g d b off nd fo sz ho hd hx hf Pm cx lV hz=>grind
 |rd d ss hd hs hn hp=>grind
 |Eg=>cases iT
 |act=>cases iT
 |bx=>cases iT
 |al=>cases iT
 |st=>cases iT
theorem Ul (hs:Shape P pl cs og m o r) (h:fB pl ds cs env X w0 a w) (hg:Eh env og)
  (hl: ∀b,b∈r.nd->gx (env b)=true) (iT:r.fl=true) (hd:ia P jd next r.l env w0 X) (rn: ∀b,b∈oM r.l-> ∀p,p∈ds.pins->p.1≠b):
  ∃v dt,((∀wa,Fr (ZB pl r.rb a) w wa->(execOp a.eval o).run P wa= .ok (.value v) wa)/\
   ∀b,b∈r.rb-> ∃k n,look pl.boxes b=some n/\a.tmps[b]? =some (eB k 0)/\ ∀wa:World,wa.heap[k]? =w.heap[k]? ->(execOp a.eval o).run P wa= .ok (.value v) wa)/\fB pl ds r.cs dt X w0 (a.put o.dst v) w/\next dt w0 X:=by
 cases hs with
 |mv x d e ho kC hv hp=>
  obtain⟨dt,h1,h2⟩:=h.sw hp e hd rn;refine⟨e.ev env,dt,⟨λwa _=>?_,λ_ hb=>by cases hb⟩,by grind,h2⟩;have he:=h.eval hv;rcases ho with ho|ho<;>simp[execOp,ho,he]
 |ld t x d b off nd ag sz bs ho kC hx ht hb hp cx ha=>
  obtain⟨⟨n,hn⟩,py,hk⟩:=h.xc hx;obtain⟨hA,k,he,iq⟩:=hk hl hg;obtain⟨cells,hc⟩:=wG.1 hA;obtain⟨k',ty,e1,e2,e3,_⟩:=h.box b n hn cells hc;have sF:k'=k:=by rw[iq] at e1;simpa [eB] using e1.symm
  subst sF;have hbn:bs=n:=by rw[hb] at hn;injection hn
  subst hbn;have h':=h.my (nd:=nd) λb' dW=>⟨py b' dW,hl b' dW⟩;obtain⟨dt,h1,h2⟩:=h'.sw hp _ hd rn;have Um:(if ag then Ex.s b off sz else Ex.k b off).ev env=if ag then yK (.agg cells) off sz else cellOf (.agg cells) off:=by
   cases ag<;>simp[Ex.ev,hc]
  have oB: ∀wa:World,wa.heap[k']? =w.heap[k']? ->(execOp a.eval o).run P wa= .ok (.value ((if ag then Ex.s b off sz else Ex.k b off).ev env)) wa:=by
   intro wa HV;have e2':wa.heap[k']? =some (.cells cells ty (0,0)):=HV.trans e2;have:=QG ht ha e2' off zQ;rw[Um];simp[execOp,ho,he,this]
  refine⟨_,dt,⟨λwa HV=>oB wa ?_,λb' dW=>?_⟩,by rw[kC];exact h1,h2⟩
  rotate_left
  ·have:=List.mem_singleton.1 dW;subst this;exact⟨k',bs,hn,iq,oB⟩
  have e2':wa.heap[k']? =some (.cells cells ty (0,0)):=by
   rw[HV.block k' (Array.getElem?_eq_some_iff.1 e2).1 ?_]
   ·exact e2
   ·rintro⟨b2,n2,g1,g2,g3⟩;exact g2 (List.mem_singleton.2 (h.inj b2 b n2 bs g1 hn (h.conv b2 n2 g1 k' g3) hA k' g3 iq))
  rw[e2',e2]
 |fa S x f d b off nd fo sz ho kC hx hf Pm cx lV hz=>
  obtain⟨⟨n,hn⟩,py,hk⟩:=h.xc hx;obtain⟨hA,k,he,iq⟩:=hk hl hg;have h':=h.my (nd:=nd) λb' dW=>⟨py b' dW,hl b' dW⟩;refine⟨eB k (off+fo),env,⟨λwa _=>?_,λ_ hb=>by cases hb⟩,?_,hd⟩
  ·have:=On hf hz k off wa;simp[execOp,ho,he,this]
  ·rw[kC];exact h'.derive cx lV Pm _ ⟨n,hn⟩ λ_=>⟨hA,k,iq,rfl⟩
 |rd d ss kC Oq hn hp=>
  obtain⟨v,h1,h2⟩:=hd;refine⟨v,_,⟨λwa HV=>?_,λ_ hb=>by cases hb⟩,by rw[kC];exact h.bind hp v (rn d (by simp[oM,TI.K5])),h2⟩;rw[h.exec Oq hn,<-afQ _ (λ_=>rfl)];exact h1 wa (h.kp0 HV)
 |Eg=>cases iT
 |act=>cases iT
 |bx=>cases iT
 |al=>cases iT
 |st=>cases iT
def Aj (pl:gz) (ds:Bk) (env:Env) (X:XS) (a:Act) (w:World):Prop:=
 (∀k,X k->k<w.heap.size)/\ ∀p,p∈ds.pins->a.tmps[p.1]? =some p.2/\(pl.kf p.1=true\/ ∃n k cells ty,p.2=eB k 0/\look pl.boxes p.1=some n/\env p.1= .agg cells/\w.heap[k]? =some (.cells cells ty (0,0))/\cells.size=n/\ ¬X k)
theorem fB.pinned (h:fB pl ds cs env X w0 a w):Aj pl ds env X a w:=⟨h.xK,λp hp=>by
 obtain⟨ht,⟨n,k,hn,hk⟩|hg⟩:=h.AW p hp
 ·refine⟨ht,.inr ?_⟩;rw[hk] at ht;obtain⟨cells,hc⟩:=wG.1 (h.conv p.1 n hn _ ht);obtain⟨k',ty,e1,e2,e3,e4⟩:=h.box p.1 n hn cells hc;rw[ht] at e1;have:k=k':=by simpa [eB] using e1
  subst this;exact⟨n,k,cells,ty,hk,hn,hc,e2,e3,e4⟩
 grind⟩
theorem Aj.put {d:Option Nat} (h:Aj pl ds env X (a.put d v) w) (hd: ∀x,d=some x-> ∀p,p∈ds.pins->p.1≠x):Aj pl ds env X a w:=⟨h.1,λp hp=>by
 obtain⟨h1,h2⟩:=h.2 p hp;refine⟨?_,h2⟩;cases d with
 |none=>exact h1
 |some x=>rwa [gh _ _ _ _ (hd x rfl p hp)] at h1⟩
theorem QI (hs:Shape P pl cs og m o r) (iT:r.fl=true): ∀x,o.dst=some x->pl.kf x=true->x∈oM r.l:=by
 have f: ∀{XB:CS} {d:Nat} {e:Ex},o.dst=some d-> ∀x,o.dst=some x->pl.kf x=true->x∈oM (sw pl XB d e).1:=λhd x hx hg=>by
  rw[hd] at hx;injection hx with hx;subst hx
  unfold sw;rw[if_pos (by simp[hg])];simp[oM,TI.K5]
 cases hs with
 |mv x d e ho hd hv hp=>exact f hd
 |ld t x d b off nd ag sz bs ho hd hx ht hb hp hl ha=>exact f hd
 |fa S x g d b off nd fo sz ho hd hx hf Pm cx lV hz=>
  intro y hy hg;rw[hd] at hy;injection hy with hy;subst hy
  have:=(tI hg).2.2
  grind
 |rd d ss hd hs hn hp=>intro y hy _;rw[hd] at hy;injection hy with hy;subst hy;simp[oM,TI.K5]
 |Eg=>cases iT
 |act=>cases iT
 |bx=>cases iT
 |al=>cases iT
 |st=>cases iT
theorem Un (hs:Shape P pl cs og m o r) (h:fB pl ds cs env X w0 a w) (hg:Eh env og)
  (hl: ∀b,b∈r.nd->gx (env b)=true) (iT:r.fl=false) (hd:ia P jd next r.l env w0 X)

  (hK: ∀a' w' dt X' eu,fB pl ds r.cs dt X' eu a' w'->next dt eu X'->Av (m=false) pl r.sb a w a' w'->K a' w')
  (rn: ∀b,b∈oM r.l-> ∀p,p∈ds.pins->p.1≠b)
  (hQ: ∀ch w' dt X' eu,Kp X' eu w'->Aj pl ds dt X' a w'->jd ch dt eu X'->Q (.panic ch) a w'):o.wp P a w K Q:=by
 have real: ∀(oh:CS) (ss:List (Nat×Ex)),(∀x,o.dst=some x->look pl.boxes x=none)->subst pl cs o.op.operands.toList=some ss->IN o.op=true->
   (∀m' w' v,Step m' X w w'->fB pl ds oh (K4 env o.dst v) (grow X w w') w' (a.put o.dst v) w')->r.cs=oh->
   (∀wa,Kp X w0 wa->jS P m X wa (λv w' X'=>next (K4 env o.dst v) w' X') (λch w' X'=>jd ch env w' X') ((QA (Gr env ss) o.op o.type).run P wa))->o.wp P a w K Q:=by
  intro oh ss JV Oq hn hS jG he;have he:=he w h.ext;unfold tH;rw[h.exec Oq hn,<-afQ _ (λ_=>rfl)];have fO: ∀w' v,Step m X w w'->Av (m=false) pl r.sb a w (a.put o.dst v) w':=λw' v hs=>⟨λhm=>by subst hm;exact rI.ahG hs JV,h.ahF hs.fr⟩;cases hr:(QA (Gr env ss) o.op o.type).run P w with
  |ok n w'=>
   rw[hr] at he;cases n<;>simp only[jS] at he<;>simp only[oe]
   case value v=>exact hK _ _ _ _ _ (jG▸hS m w' v he.1) he.2 (fO _ _ he.1)
   case skip=>exact hK _ _ _ _ _ (jG▸hS m w' undef he.1) he.2 (fO _ _ he.1)
   case enter f args=>
    obtain⟨rfl,hc⟩:=he;refine hc.mono λe mD hR=>?_;cases e with
    |returned v=>exact hK _ _ _ _ _ (jG▸hS m mD v hR.1) hR.2 (fO _ _ hR.1)
    |panicked ch=>exact hQ _ _ _ _ _ (Kp.refl _ _) (h.Nh hR.1).pinned hR.2
    |outgrown=>exact hR.elim
  |halt x w'=>
   rw[hr] at he;cases x<;>simp only[jS] at he<;>simp only[oe]
   case panic v=>exact hQ _ _ _ _ _ (Kp.refl _ _) (h.Nh he.1).pinned he.2
 have boxed: ∀{d sz:Nat} {e:Ex} {ag:Bool},ia P jd next [if !ag&&sz==1 then .Cv d e else .box d sz e] env w0 X->
   (e.ev env).cells.size=sz/\next (jT env d (.agg (e.ev env).cells)) w0 X:=by
  intro d sz e ag hd;simp only[ia] at hd;split at hd
  ·rename_i th;simp only[aC,cW,beq_iff_eq] at th;obtain⟨g1,g2⟩:=dJ.1 hd;rw[tg g1];exact⟨by simp[th.2],g2⟩
  ·obtain⟨g1,g2⟩:=dJ.1 hd;exact⟨by simpa using g1,g2⟩
 have IS: ∀(t d:Nat) (_:d<pl.n) (cells:Array Value),rI pl [] a w (a.put (some d) (eB w.heap.size 0)) (w.alloc (.cells cells t)):=by
  intro t d cx cells;refine rI.fb (Ext.alloc _ _) λb n XC k hk sF=>?_;by_cases e:b=d
  ·subst e;rw[rE _ _ _ _ (by rw[h.size];omega),if_pos rfl] at sF;have:w.heap.size=k:=by simpa [eB] using sF
   omega
  ·rwa [gh _ _ _ _ e] at sF
 cases hs with
 |mv=>cases iT
 |ld=>cases iT
 |fa=>cases iT
 |rd=>cases iT
 |Eg d ss kC Oq hn hp=>
  refine real (cs.bind pl d) ss (λx hx=>by rw[kC] at hx;injection hx with hx;subst hx;exact(Ai hp).2.1) Oq hn (λm' w' v fO=>?_) rfl ?_
  ·rw[kC];exact(h.Nh fO).bind hp v (rn d (by simp[oM,TI.K5]))
  ·intro wa HV;have:=hd wa HV;rw[kC];exact this
 |act ss kC Oq hn=>
  refine real cs ss (λx hx=>by rw[kC] at hx;cases hx) Oq hn (λm' w' v fO=>?_) rfl ?_
  ·rw[kC];exact h.Nh fO
  ·intro wa HV;have:=hd wa HV;rw[kC];exact this
 |bx t x d sz e ag ho kC hb hv ht cx=>
  have he:=h.eval hv;obtain⟨h1,h2⟩:=boxed hd;have hr:(execOp a.eval o).run P w= .ok (.value (eB w.heap.size 0)) (w.alloc (.cells (e.ev env).cells t)):=by
   simp[execOp,ho,he,Instr.box,newVar,newRow,eB]
  unfold tH;rw[hr];simp only[oe];rw[kC];exact hK _ _ _ _ _ (h.afU cx hb (e.ev env).cells h1 t (rn d (by split<;>simp[oM,TI.K5]))) h2 ⟨λ_=>IS t d cx _,h.ahF ((Ext.alloc _ _).fr X)⟩
 |al t d sz i z ag ho kC hb hi hz ht cx=>
  obtain⟨h1,h2⟩:=boxed hd;have hr:(execOp a.eval o).run P w= .ok (.value (eB w.heap.size 0)) (w.alloc (.cells z.cells t)):=by
   simp[execOp,ho,Instr.alloc,zeroValue,typeInfo,hi,hz,newVar,newRow,eB]
  unfold tH;rw[hr];simp only[oe];rw[kC];exact hK _ _ _ _ _ (h.afU cx hb z.cells h1 t (rn d (by split<;>simp[oM,TI.K5]))) h2 ⟨λ_=>IS t d cx _,h.ahF ((Ext.alloc _ _).fr X)⟩
 |st t x v b off nd sz bs e ag ho kC hx hv ht hb cx=>
  obtain⟨⟨n,hn⟩,py,hk⟩:=h.xc hx;obtain⟨hA,k,he,iq⟩:=hk hl hg;obtain⟨cells,hc⟩:=wG.1 hA;obtain⟨k',ty,e1,e2,e3,e4⟩:=h.box b n hn cells hc;have sF:k'=k:=by rw[iq] at e1;simpa [eB] using e1.symm
  subst sF;have hbn:bs=n:=by rw[hb] at hn;injection hn
  subst hbn;obtain⟨h1,h2,h3⟩:(e.ev env).cells.size=sz/\(e.ev env).cells.toList.all one=true/\next (jT env b (.agg (dr (env b).cells.toList off (e.ev env).cells.toList).toArray)) w0 X:=by
   simp only[ia] at hd;split at hd
   ·rename_i th;simp only[aC,cW,beq_iff_eq] at th;obtain⟨g1,g2⟩:=dJ.1 hd;rw[tg g1];exact⟨by simp[th.2],by simp[g1],g2⟩
   ·split at hd
    ·rename_i th;simp only[aC,beq_iff_eq] at th;obtain⟨g1,hd⟩:=dJ.1 hd;obtain⟨g2,g3⟩:=dJ.1 hd;have g1:(e.ev env).cells.size=sz:=by simpa using g1
     refine⟨g1,g2,?_⟩;have ape:dr (env b).cells.toList off (e.ev env).cells.toList=(e.ev env).cells.toList:=by
      unfold dr;rw[hc,th.1];have hz:cells.size<=(e.ev env).cells.size:=by omega
      show List.take 0 cells.toList++(e.ev env).cells.toList++List.drop (0+(e.ev env).cells.toList.length) cells.toList=(e.ev env).cells.toList
      rw[List.take_zero,cB,List.drop_eq_nil_of_le (by simpa using hz),List.append_nil]
     rw[ape];omega
    ·obtain⟨g1,hd⟩:=dJ.1 hd;obtain⟨g2,g3⟩:=dJ.1 hd;exact⟨by simpa using g1,g2,g3⟩
  have h':=h.my (nd:=nd) λb' dW=>⟨py b' dW,hl b' dW⟩;have fO:=Oo (abh ht) e2 off zQ (e.ev env) h1 h2;have hr:(execOp a.eval o).run P w= .ok .skip (w.setRow k' (dr cells.toList off (e.ev env).cells.toList).toArray):=by
   simp[execOp,ho,he,(h.eval hv),fO]
  unfold tH;rw[hr];simp only[oe];rw[kC];obtain⟨f1,f2⟩:=afV (zL:=(dr cells.toList off (e.ev env).cells.toList).toArray) e2;have gf:((dr cells.toList off (e.ev env).cells.toList).toArray).size=bs:=by
   simp only[List.size_toArray];rw[ahE oQ];simpa using e3
  rw[hc] at h3;refine hK _ _ _ _ _ (h'.store hb hc iq e2 e4 gf f1 f2) h3 ⟨λ_ RB K6=>
   ⟨f1.mono λj hj=>⟨b,bs,hb,K6 b (List.mem_singleton.2 rfl),by rw[hj];omega⟩,λ_ _ hz=>hz⟩,λb2 n2 k2 g1 g2 g3=>f1.block k2 (h.cU g1 g3).1 λhj=>?_⟩
  have hj:k2=k':=hj;subst hj;exact g2 (List.mem_singleton.2 (h.inj b2 b n2 bs g1 hn (h.conv b2 n2 g1 _ g3) hA _ g3 iq))
variable {r0 : CR} {want : Bool} {d' g : Nat}
theorem QJ (gY:qq g want op r0=some r) (hy:oH (env g) want=true) (hd:ia P jd next r.l env w0 X):
  ia P jd next r0.l env w0 X:=by
 obtain⟨fl,nd,l,c,rb,sb⟩:=r0;unfold qq at gY;dsimp only at gY;split at gY
 ·grind
 ·split at gY
  ·cases gY
  ·injection gY with e;subst e
   simpa only [ia,Xr,hy,if_true] using hd
 ·split at gY
  ·cases gY
  ·injection gY with e;subst e
   obtain⟨v,h1,_,h2⟩:=hd;exact⟨v,h1 hy,h2⟩
 ·split at gY
  ·cases gY
  ·injection gY with e;subst e
   exact hd.1 hy
 ·cases gY
theorem C4 (gY:qq g want op r0=some r):r.cs=r0.cs/\r.nd=r0.nd/\r.fl=r0.fl/\r.rb=r0.rb/\r.sb=r0.sb:=by
 obtain⟨fl,nd,l,c,rb,sb⟩:=r0;unfold qq at gY;dsimp only at gY;split at gY<;>grind<;>grind
theorem Lf (gY:qq g want op r0=some r):oM r.l=oM r0.l:=by
 obtain⟨fl,nd,l,c,rb,sb⟩:=r0;unfold qq at gY;dsimp only at gY;split at gY<;>(try split at gY)<;>first
  |(cases gY;done)
  |(injection gY with e;subst e;rfl)
theorem ahH (nd:List Nat):oM (nd.map .Ar)=[]:=by
 induction nd with
 |nil=>rfl
 |cons b nd ih=>assumption
theorem Bi (l l':List TI):oM (l++l')=oM l++oM l':=List.flatMap_append
theorem HW (r:CR):oM r.all=oM r.l:=by grind [CR.all,Bi,ahH]
theorem XD (hs:Shape P pl cs (some (g,want)) m o r0) (gY:qq g want o.op r0=some r) (h:fB pl ds cs env X w0 a w)
  (hl: ∀b,b∈r0.nd->gx (env b)=true) (qs:oH (env g) want=false) (hd:ia P jd next r.l env w0 X) (rn: ∀b,b∈oM r.l-> ∀p,p∈ds.pins->p.1≠b):
  ∃dt,fB pl ds r.cs dt X w0 (a.put o.dst undef) w/\next dt w0 X:=by
 have afW: ∀(XB:CS) (d:Nat) (e:Ex) (nd rb:List Nat),fB pl ds XB env X w0 a w->o.dst=some d->pl.nI d=true->ahA o.op=false->r0=⟨true,nd,(sw pl XB d e).1,(sw pl XB d e).2,rb,[]⟩->
   ∃dt,fB pl ds r.cs dt X w0 (a.put o.dst undef) w/\next dt w0 X:=by
  intro XB d e nd rb h1 kC hp hfa hr;subst hr;unfold qq sw at gY;by_cases pS:(pl.kf d||pl.mat.contains d)=true
  ·simp only[pS,if_true] at gY;split at gY
   ·cases gY
   ·injection gY with e1;subst e1
    simp only[ia,Xr,qs,aW,if_false] at hd;exact⟨_,by rw[kC];exact h1.bind hp undef (rn d (by simp[oM,TI.K5])),hd⟩
  ·simp only[pS,hfa,aW,if_false] at gY;cases gY
 cases hs with
 |mv x d e ho kC hv hp=>exact afW cs d e [] [] h kC hp (by rcases ho with ho|ho<;>rw[ho]<;>rfl) rfl
 |ld t x d b off nd ag sz bs ho kC hx ht hb hp cx ha=>
  obtain⟨_,py,_⟩:=h.xc hx;exact afW (cs.my nd) d _ nd [b] (h.my λb' dW=>⟨py b' dW,hl b' dW⟩) kC hp (by rw[ho];rfl) rfl
 |fa S x f d b off nd fo sz ho kC hx hf Pm cx lV hz=>
  obtain⟨hb,py,hk⟩:=h.xc hx;have h':=h.my (nd:=nd) λb' dW=>⟨py b' dW,hl b' dW⟩;unfold qq at gY;simp only[ho,ahA,if_true,aj] at gY;subst gY;refine⟨env,?_,hd⟩;rw[kC];exact h'.derive cx lV Pm _ hb λhg=>by simp only[Eh] at hg;simp_all
 |rd d ss kC Oq hn hp=>
  unfold qq at gY;dsimp only at gY;split at gY
  ·cases gY
  ·injection gY with e;subst e
   obtain⟨v,_,h1,h2⟩:=hd;have hv:=h1 qs;subst hv;exact⟨_,by rw[kC];exact h.bind hp undef (rn d (by simp[oM,TI.K5])),h2⟩
 |Eg d ss kC Oq hn hp=>
  unfold qq at gY;dsimp only at gY;split at gY
  ·cases gY
  ·injection gY with e;subst e
   exact⟨_,by rw[kC];exact h.bind hp undef (rn d (by simp[oM,TI.K5])),hd.2 qs⟩
 |act ss kC Oq hn=>
  unfold qq at gY;dsimp only at gY;split at gY
  ·cases gY
  ·injection gY with e;subst e
   exact⟨_,by rw[kC];exact h,hd.2 qs⟩
 |bx t x d sz e ag=>cases XE:(!ag&&sz==1)<;>(unfold qq at gY;simp only[XE] at gY;cases gY)
 |al t d sz i z ag=>cases XE:(!ag&&sz==1)<;>(unfold qq at gY;simp only[XE] at gY;cases gY)
 |st t x v b off nd sz bs e ag=>
  cases XE:(!ag&&sz==1)<;>cases apf:(off==0&&sz==bs)<;>(unfold qq at gY;simp only[XE,apf] at gY;cases gY)
theorem Lh (h:fB pl ds cs env X w0 a w) {gs:Nat} (hg:o.guard=some (j,want)) (mF:(ops[j]?).bind (·.dst)=some gs)
  (hv:valOf pl cs (.tmp gs)=some (.t g)):cE o (yielded ops a.tmps)=oH (env g) want:=by
 have ht:a.tmps[gs]? =some (env g):=by
  simp only[valOf] at hv;split at hv
  ·rename_i gY;injection hv with hv
   injection hv with hv
   subst hv;exact h.qP _ gY
  ·have:=h.sig _ (Cx hv);assumption
 unfold cE yielded;simp only[hg,mF,cL,ht,oH];cases env g<;>simp
theorem adh (hc:Ca P pl cs ops m o=some r) (iT:r.fl=true) (h:fB pl ds cs env X w0 a w) (hd:ia P jd next r.all env w0 X) (rn: ∀b,b∈oM r.l-> ∀p,p∈ds.pins->p.1≠b):
  ∃v dt,(YF P pl r.rb ops o v a w/\ ∀b,b∈r.rb->YL P pl b ops o v a w)/\fB pl ds r.cs dt X w0 (a.put o.dst v) w/\next dt w0 X:=by
 obtain⟨hl,hd⟩:=Le _ hd;unfold Ca at hc;split at hc
 ·rename_i hg;obtain⟨v,dt,h1,h2,h3⟩:=Ul (tJ hc) h trivial hl iT hd rn;exact⟨v,dt,⟨.inl ⟨by simp[cE,hg],h1.1⟩,λb hb=>.inl ⟨by simp[cE,hg],h1.2 b hb⟩⟩,h2,h3⟩
 ·rename_i j want hg;split at hc
  ·cases hc
  ·rename_i gs mF;split at hc
   ·rename_i g hv;have hw:=Lh h hg mF hv;cases xe:Ev P pl cs (some (g,want)) m o with
    |none=>rw[xe] at hc;cases hc
    |some r0=>
     rw[xe] at hc;simp only[cL] at hc;obtain⟨e1,e2,e3,e4,e5⟩:=C4 hc;cases hy:oH (env g) want with
     |true=>
      obtain⟨v,dt,h1,h2,h3⟩:=Ul (tJ xe) h hy (e2▸hl) (e3▸iT) (QJ hc hy hd) (λb hb=>rn b (by rw[Lf hc];exact hb));exact⟨v,dt,⟨.inl ⟨by rw[hw,hy],e4▸h1.1⟩,λb hb=>.inl ⟨by rw[hw,hy],h1.2 b (e4▸hb)⟩⟩,e1▸h2,h3⟩
     |false=>
      obtain⟨dt,h1,h2⟩:=XD (tJ xe) hc h (e2▸hl) hy hd rn;exact⟨undef,dt,⟨.inr ⟨by rw[hw,hy],rfl⟩,λ_ _=>.inr ⟨by rw[hw,hy],rfl⟩⟩,h1,h2⟩
   ·cases hc
theorem XF (hc:Ca P pl cs ops m o=some r) (iT:r.fl=true): ∀x,o.dst=some x->look pl.boxes x=none:=by
 unfold Ca at hc;split at hc
 ·exact Uk (tJ hc) iT
 ·rename_i j want hg;split at hc
  ·cases hc
  ·rename_i gs mF;split at hc
   ·rename_i g hv;cases xe:Ev P pl cs (some (g,want)) m o with
    |none=>grind
    |some r0=>
     rw[xe] at hc;simp only[cL] at hc;exact Uk (tJ xe) ((C4 hc).2.2.1▸iT)
   ·cases hc
theorem akT (hc:Ca P pl cs ops m o=some r) (iT:r.fl=true): ∀x,o.dst=some x->pl.kf x=true->x∈oM r.l:=by
 unfold Ca at hc;split at hc
 ·exact QI (tJ hc) iT
 ·rename_i j want hg;split at hc
  ·cases hc
  ·rename_i gs mF;split at hc
   ·rename_i g hv;cases xe:Ev P pl cs (some (g,want)) m o with
    |none=>grind
    |some r0=>
     rw[xe] at hc;simp only[cL] at hc;rw[Lf hc];exact QI (tJ xe) ((C4 hc).2.2.1▸iT)
   ·cases hc
theorem fB.apart (h:fB pl ds cs env X w0 a w) (hc:Ca P pl cs ops m o=some r) (iT:r.fl=true) (hm: ∀b,b∈oM r.l-> ∀p,p∈ds.pins->p.1≠b):
  ∀x,o.dst=some x-> ∀p,p∈ds.pins->p.1≠x:=λx hx p hp e=>by
 rcases(h.AW p hp).2 with⟨n,_,hn,_⟩|hg
 ·rw[e,XF hc iT x hx] at hn;cases hn
 ·exact hm x (akT hc iT x hx (e▸hg)) p hp e
theorem QK (hc:Ca P pl cs ops m o=some r) (h:fB pl ds cs env X w0 a w) (hd:ia P jd next r.all env w0 X)

  (hK: ∀a' w' dt X' eu,fB pl ds r.cs dt X' eu a' w'->next dt eu X'->Av (m=false) pl r.sb a w a' w'->K a' w')
  (rn: ∀b,b∈oM r.l-> ∀p,p∈ds.pins->p.1≠b)
  (hQ: ∀ch w' dt X' eu,Kp X' eu w'->Aj pl ds dt X' a w'->jd ch dt eu X'->Q (.panic ch) a w'):
  if cE o (yielded ops a.tmps)=true then o.wp P a w K Q else K (a.put o.dst undef) w:=by
 cases iT:r.fl with
 |true=>
  obtain⟨v,dt,hy,h1,h2⟩:=adh hc iT h hd rn;rcases hy.1 with⟨hw,hv⟩|⟨hw,hv⟩
  ·rw[if_pos hw];unfold tH;rw[hv w (Fr.refl _ w)];exact hK _ _ _ _ _ h1 h2 ⟨λ_=>rI.refl pl _ a w _ _ (XF hc iT),Au.refl _ _ _ _⟩
  ·rw[if_neg gQ];subst hv;exact hK _ _ _ _ _ h1 h2 ⟨λ_=>rI.refl pl _ a w _ _ (XF hc iT),Au.refl _ _ _ _⟩
 |false=>
  obtain⟨hl,hd⟩:=Le _ hd;unfold Ca at hc;split at hc
  ·rename_i hg;rw[if_pos (by simp[cE,hg])];exact Un (tJ hc) h trivial hl iT hd hK rn hQ
  ·rename_i j want hg;split at hc
   ·cases hc
   ·rename_i gs mF;split at hc
    ·rename_i g hv;have hw:=Lh h hg mF hv;cases xe:Ev P pl cs (some (g,want)) m o with
     |none=>rw[xe] at hc;cases hc
     |some r0=>
      rw[xe] at hc;simp only[cL] at hc;obtain⟨e1,e2,e3,e4,e5⟩:=C4 hc;cases hy:oH (env g) want with
      |true=>
       rw[if_pos (by rw[hw,hy])];exact Un (tJ xe) h hy (e2▸hl) (e3▸iT) (QJ hc hy hd) (e5▸e1▸hK) (λb hb=>rn b (by rw[Lf hc];exact hb)) hQ
      |false=>
       rw[if_neg gQ];obtain⟨dt,h1,h2⟩:=XD (tJ xe) hc h (e2▸hl) hy hd rn;refine hK _ _ _ _ _ h1 h2 ⟨λ_=>?_,Au.refl _ _ _ _⟩;refine rI.fb (Ext.refl w) λb n hb k hk sF=>?_;cases kC:o.dst with
       |none=>rw[kC] at sF;exact sF
       |some x=>
        rw[kC] at sF;by_cases fY:b=x
        ·subst fY;by_cases cx:b<a.tmps.size
         ·rw[rE _ _ _ _ cx,if_pos rfl] at sF;cases sF
         ·rw[qe (by simp[nG];omega)] at sF;cases sF
        ·rwa [gh _ _ _ _ fY] at sF
    ·cases hc
theorem QL (hN: ∀oh a' w' dt X' eu,fB pl ds oh dt X' eu a' w'->next dt eu X'->Q .normal a' w')
  (hQ: ∀ch a' w' dt X' eu,a'.defers=ds.ds->Kp X' eu w'->Aj pl ds dt X' a' w'->jd ch dt eu X'->Q (.panic ch) a' w'): ∀(l:List Oper) (cs:CS) (tl:List TI) (env:Env) (X:XS) (w0:World) (a:Act) (w:World),
  IP P pl ops l cs=some tl->(∀b,b∈oM tl-> ∀p,p∈ds.pins->p.1≠b)->fB pl ds cs env X w0 a w->ia P jd next tl env w0 X->wpList P ops Q l a w
 |[],cs,tl,env,X,w0,a,w,hc,_,h,hd=>by
  simp only[IP,aj] at hc;subst hc;exact hN _ _ _ _ _ _ h hd
 |o::l,cs,tl,env,X,w0,a,w,hc,hm,h,hd=>by
  simp only[IP] at hc;cases hr:Ca P pl cs ops true o with
  |none=>grind
  |some r=>
   cases hs:IP P pl ops l r.cs with
   |none=>grind
   |some Dl=>
    simp only[hr,hs,ba,aj] at hc;subst hc;rw[C3] at hd;rw[Bi,HW] at hm;refine wpList_step λK hK=>QK hr h hd (λa' w' dt X' eu h1 h2 _=>hK _ _ (QL hN hQ l r.cs Dl dt X' eu a' w' hs (λb hb=>hm b (dG _ hb)) h1 h2)) (λb hb=>hm b (bz _ hb)) ?_;exact λch w' dt X' eu hx Bj hp=>hQ ch a w' dt X' eu h.defers hx Bj hp
theorem Bl: ∀{l:List Nat} {i:Nat} {r:CR},Cw P pl ops cs bE l=some (i,r)->
  i∈l/\r.fl=true/\Ng pl ops bE i r.rb=true/\ ∃o,ops[i]? =some o/\Ca P pl cs ops (qQ pl ops i) o=some r
 |[],_,_,h=>by cases h
 |j::l,i,r,h=>by
  simp only[Cw] at h;split at h
  ·rename_i x hx;split at h
   ·rename_i hc;simp only[aj,cN] at h;obtain⟨rfl,rfl⟩:=h
    grind
   ·obtain⟨h1,h2⟩:=Bl h;simp_all
  ·obtain⟨h1,h2⟩:=Bl h;simp_all
theorem Ot {b:Nat×Nat×Bool×Value} (h:IQ P pl o=some b) (m:Bool):Ca P pl cs ops m o=some ⟨false,[],[Bg b],yL cs b.1,[],[]⟩:=by
 unfold IQ at h;split at h
 ·rename_i t d hg xf hd;split at h
  ·rename_i sz z ag s h1 h2 h3;split at h
   ·rename_i hc;simp only[aj] at h;subst h;simp only[Ca,hg,Ev,xf,hd,h1,h2,Xt,h3,hc,if_true,Bg,yL]
   ·cases h
  ·cases h
 ·cases h
theorem ahI (env:Env) (h:d≠d') (v v':Value):jT (jT env d v) d' v'=jT (jT env d' v') d v:=by
 funext s
 by_cases h1:s=d
 ·grind [iP,mJ]
 ·by_cases h2:s=d'
  ·subst h2;rw[mJ,iP _ _ (Ne.symm h),mJ]
  grind [iP]
theorem afX {b b':Nat×Nat×Bool×Value} (bU:b.1≠b'.1) {l:List TI} (h:ia P jd next (Bg b::Bg b'::l) env w0 X):ia P jd next (Bg b'::Bg b::l) env w0 X:=by
 obtain⟨d,n,o,z⟩:=b;obtain⟨d',n',o',z'⟩:=b';have bU:d≠d':=bU;cases o<;>cases o'<;>simp only[Bg,ia,Xr,Ex.ev,dJ,if_true,if_false,aW] at h⊢ <;>obtain⟨h1,h2,h3⟩:=h<;>grind [ahI]
theorem adi {dt:Env} (h:fB pl ds (yL (yL cs d') d) dt X' eu a' w'):fB pl ds (yL (yL cs d) d') dt X' eu a' w':=by
 refine⟨h.size,h.defers,h.AW,h.ext,h.xK,h.qP,λp hp=>h.sig p ?_,h.box,h.inj,h.conv,λb hb=>h.live b ?_,λp hp=>h.ptr p ?_⟩
 ·simp only[yL,CS.kill,CS.my,iz] at hp⊢
  grind
 ·simp only[yL,CS.kill,CS.my,sk,List.mem_singleton] at hb⊢
  grind
 ·simp only[yL,CS.kill,CS.my,iz] at hp⊢
  grind
theorem acn {l:List Nat} (h:adf l i=true):l=[i]:=by
 unfold adf at h
 grind
theorem XG (ho:ops[i]? =some o) (hx:Ca P pl cs ops (qQ pl ops i) o=some r) (Uo:r.sb=[]) (h:fB pl ds cs env X w0 a w) (hd:ia P jd next r.all env w0 X) {fuel:Nat}
  (rn: ∀b,b∈oM r.l-> ∀p,p∈ds.pins->p.1≠b)
  (hQ: ∀ch a' w' dt X' eu,a'.defers=ds.ds->Kp X' eu w'->Aj pl ds dt X' a' w'->jd ch dt eu X'->Q (.panic ch) a' w')
  (hK: ∀a' w' dt X' eu,fB pl ds r.cs dt X' eu a' w'->next dt eu X'->wj P pl ops Q fuel (bE.setIfInBounds i true) a' w'):
  wpOp P ops Q i (λa' w'=>(∀o,ops[i]? =some o->Av (qQ pl ops i=false) pl (wM pl ops o) a w a' w')/\wj P pl ops Q fuel (bE.setIfInBounds i true) a' w') a w:=by
 have E5:=QK (ops:=ops) (K:=λa' w'=>(∀o',ops[i]? =some o'->Av (qQ pl ops i=false) pl (wM pl ops o') a w a' w')/\wj P pl ops Q fuel (bE.setIfInBounds i true) a' w') (Q:=Q) hx h hd
  (λa' w' dt X' eu h1 h2 h3=>⟨λo' wo=>⟨λzM=>(h3.1 zM).sub λb hb=>(by rw[Uo] at hb;cases hb),h3.2.sub λb hb=>(by rw[Uo] at hb;cases hb)⟩,hK a' w' dt X' eu h1 h2⟩)
  rn (λch w' dt X' eu hk Bj hp=>hQ ch a w' dt X' eu h.defers hk Bj hp)
 unfold wpOp;simp only[ho] at E5⊢;split
 ·grind
 grind
theorem HX (hN: ∀oh a' w' dt X' eu,fB pl ds oh dt X' eu a' w'->next dt eu X'->Q .normal a' w')
  (hQ: ∀ch a' w' dt X' eu,a'.defers=ds.ds->Kp X' eu w'->Aj pl ds dt X' a' w'->jd ch dt eu X'->Q (.panic ch) a' w')
  (JW: ∀c a (d:Option Nat) v w,(∀x,d=some x-> ∀p,p∈ds.pins->p.1≠x)->Q (.panic c) (a.put d v) w->Q (.panic c) a w) (DV:wK ops=true):
  ∀(fuel:Nat) (bE:Array Bool) (cs:CS) (tl:List TI) (env:Env) (X:XS) (w0:World) (a:Act) (w:World),
  yM P pl ops fuel bE cs=some tl->(∀b,b∈oM tl-> ∀p,p∈ds.pins->p.1≠b)->fB pl ds cs env X w0 a w->ia P jd next tl env w0 X->wj P pl ops Q fuel bE a w
 |0,bE,cs,tl,env,X,w0,a,w,hc,_,h,hd=>by
  simp only[yM] at hc;split at hc
  ·rename_i hr;simp only[aj] at hc;subst hc;exact⟨by simpa using hr,hN _ _ _ _ _ _ h hd⟩
  ·cases hc
 |fuel+1,bE,cs,tl,env,X,w0,a,w,hc,hm,h,hd=>by
  simp only[yM] at hc;split at hc
  ·rename_i i r hf;obtain⟨h1,h2,h3,o,ho,h4⟩:=Bl hf;cases hs:yM P pl ops fuel (bE.setIfInBounds i true) r.cs with
   |none=>simp[hs] at hc
   |some Dl=>
    simp only[hs,ba,aj] at hc;subst hc;rw[C3] at hd;rw[Bi,HW] at hm;obtain⟨v,dt,hy,hS,hn⟩:=adh h4 h2 h hd (λb hb=>hm b (bz _ hb));have E6: ∀j oj,ops[j]? =some oj->j≠i->bE.getD j true=false-> ¬(j∈Hi ops bE i\/j=i\/(bE.getD j true=false/\ ∃oj,ops[j]? =some oj/\waits oj i=true))->_:=
     λj oj hj bU HU qs=>QD ho h3 j oj hj bU HU (λhb=>qs (.inl hb)) (by
      cases hw:waits oj i with
      |false=>rfl
      |true=>exact absurd (.inr (.inr ⟨HU,oj,hj,hw⟩)) qs)
    obtain⟨Y,QC,hY,fO⟩: ∃Y:Act->World->Prop,(∀a w,Y a w->Yx P ops o v a w)/\Y a w/\ ∀j oj,oj.dst=oj.dst->o.apart ops oj=true->(qQ pl ops j=false\/C2 o=true\/Uf o r.rb=true)->(∀b,b∈wM pl ops oj-> ¬b∈r.rb)->
      Xv pl ops o oj (qQ pl ops j=false) (wM pl ops oj) Y:=by
     cases zM:Uf o r.rb with
     |false=>exact⟨YF P pl r.rb ops o v,λ_ _ h=>h.yx,hy.1,λj oj _ _ h4 h5=>YF.stb (h4.imp id λh=>h.elim id λh=>by cases h) h5⟩
     |true=>
      unfold Uf at zM;split at zM
      ·rename_i t x xf;have hxr:x∈r.rb:=by simpa using zM
       refine⟨YL P pl x ops o v,λ_ _ h=>h.yx,hy.2 x hxr,λj oj _ K7 _ h5=>YL.stb (λd hd hdx=>?_) λhm=>h5 x hm hxr⟩;subst hdx;refine(wL K7).2.2 d hd (bz _ (List.mem_filterMap.2 ⟨.tmp d,?_,rfl⟩));simp[xf,Op.operands]
      ·cases zM
    refine K8 QC ho (xH DV) (Ui ho h3) (λc a' w' hq=>JW c a' o.dst v w' (h.apart h4 h2 λb hb=>hm b (bz _ hb)) hq) fuel bE a w
     (λj=>j∈Hi ops bE i\/j=i\/(bE.getD j true=false/\ ∃oj,ops[j]? =some oj/\waits oj i=true)) (.inr (.inl rfl)) (λj hj=>?_)
     (λj oj hj bU HU qs=>have h:=E6 j oj hj bU HU qs;⟨h.1,fO j oj rfl h.1 h.2.1 h.2.2⟩) h1 hY ?_
    ·rcases hj with hj|rfl|⟨hu,oj,E4,hw⟩
     ·rcases Uh j hj with h|⟨h,oj,k,q1,q2,q3⟩
      ·exact .inl h
      ·exact .inr ⟨h,oj,k,q1,q2,.inl q3⟩
     ·exact .inl rfl
     ·exact .inr ⟨hu,oj,i,E4,hw,.inr (.inl rfl)⟩
    exact HX hN hQ JW DV fuel _ r.cs Dl dt X w0 _ w hs (λb hb=>hm b (dG _ hb)) hS hn
  ·split at hc
   ·rename_i i hr;split at hc
    ·rename_i o ho;split at hc
     ·rename_i r hx;split at hc
      ·rename_i Uo;cases hs:yM P pl ops fuel (bE.setIfInBounds i true) r.cs with
       |none=>simp[hs] at hc
       |some Dl=>
        simp only[hs,ba,aj] at hc;subst hc;rw[C3] at hd;rw[Bi,HW] at hm;refine⟨λh0=>(by rw[hr] at h0;cases h0),λi' E7=>?_⟩;rw[hr] at E7;have hii:=List.mem_singleton.1 E7;subst hii;have rK: ∀b,b∈r.sb->b∈wM pl ops o:=λb hb=>by have:=List.all_eq_true.1 Uo b hb;simpa using this
        have E5:=QK (ops:=ops) (K:=λa' w'=>(∀o',ops[i']? =some o'->Av (qQ pl ops i'=false) pl (wM pl ops o') a w a' w')/\wj P pl ops Q fuel (bE.setIfInBounds i' true) a' w') (Q:=Q) hx h hd
         (λa' w' dt X' eu h1 h2 h3=>⟨λo' wo=>by rw[ho] at wo;injection wo with wo;subst wo;exact⟨λzM=>(h3.1 zM).sub rK,h3.2.sub rK⟩,HX hN hQ JW DV fuel _ r.cs Dl dt X' eu a' w' hs (λb hb=>hm b (dG _ hb)) h1 h2⟩)
         (λb hb=>hm b (bz _ hb)) (λch w' dt X' eu hk Bj hp=>hQ ch a w' dt X' eu h.defers hk Bj hp)
        unfold wpOp;simp only[ho] at E5⊢;split
        ·rename_i hw;rw[if_pos hw] at E5;exact .inl E5
        ·rename_i hw;rw[if_neg hw] at E5;omega
      ·cases hc
     ·cases hc
    ·cases hc
   ·rename_i i j hr;split at hc
    ·rename_i bi hp;cases hs:yM P pl ops fuel (bE.setIfInBounds i true) (yL cs bi.1)with
     |none=>simp[hs] at hc
     |some Dl=>
      simp only[hs,ba,aj] at hc;subst hc;have hmc: ∀(i:TI) (l:List TI),oM (i::l)=oM [i]++oM l:=λi l=>Bi [i] l;rw[hmc] at hm;unfold akh at hp;split at hp
      ·rename_i bi' bj QM hbj;split at hp
       ·rename_i hpc;simp only[aj] at hp;subst hp;simp only[aC,cW,beq_eq_false_iff_ne] at hpc;obtain⟨⟨bU,hri⟩,hrj⟩:=hpc;replace hri:=acn hri;replace hrj:=acn hrj;obtain⟨oi,hoi,hai⟩:=Option.bind_eq_some_iff.1 QM;obtain⟨oj,E4,haj⟩:=Option.bind_eq_some_iff.1 hbj;have hci:=λ(cs:CS) (m:Bool)=>Ot (cs:=cs) (ops:=ops) hai m;have hcj:=λ(cs:CS) (m:Bool)=>Ot (cs:=cs) (ops:=ops) haj m;refine⟨λh0=>(by rw[hr] at h0;cases h0),λi' E7=>?_⟩;rw[hr] at E7;rcases List.mem_cons.1 E7 with rfl|E7
        ·exact XG hoi (hci cs _) rfl h (hd:ia P jd (ia P jd next Dl) [Bg bi'] env w0 X) (λb hb=>hm b (bz _ hb)) hQ λa' w' dt X' eu h1 h2=>HX hN hQ JW DV fuel _ _ Dl dt X' eu a' w' hs (λb hb=>hm b (dG _ hb)) h1 h2
        ·have K9:=List.mem_singleton.1 E7;subst K9;cases fuel with
         |zero=>
          simp only[yM,hri] at hs;cases hs
         |succ f=>
          simp only[yM,hri,Cw,E4,cL,hcj,Bool.false_and,aW,if_false,List.all_nil,if_true] at hs;cases bA:yM P pl ops f ((bE.setIfInBounds i true).setIfInBounds i' true) (yL (yL cs bi'.1) bj.1)with
          |none=>simp[bA] at hs
          |some XH=>
           simp only[bA,ba,aj] at hs;have htl:Bg bj::XH=Dl:=hs;subst htl;rw[hmc (Bg bj) XH] at hm;refine XG E4 (hcj cs _) rfl h ((afX bU hd):ia P jd (ia P jd next (Bg bi'::XH)) [Bg bj] env w0 X) (λb hb=>hm b (dG _ (bz _ hb))) hQ λa' w' dt X' eu h1 h2=>?_;refine⟨λh0=>(by rw[hrj] at h0;cases h0),λk hk=>?_⟩;rw[hrj] at hk;have hki:=List.mem_singleton.1 hk;subst hki;refine XG hoi (hci _ _) rfl h1 (h2:ia P jd (ia P jd next XH) [Bg bi'] dt eu X') (λb hb=>hm b (bz _ hb)) hQ λa'' mD apg xa E8 h3 h4=>?_;have hkj:k≠i':=λe=>by
            subst e;rw[hoi] at E4;cases E4;rw[hai] at haj;cases haj;omega
           rw[uj _ _ hkj.symm];exact HX hN hQ JW DV f _ _ XH apg xa E8 a'' mD bA (λb hb=>hm b (dG _ (dG _ hb))) (adi h3) h4
       ·cases hp
      ·cases hp
    ·cases hc
   ·cases hc
theorem Up {f:Nat->Option T} : ∀{l:List Nat} {t:T},SR l f=some t-> ∀i∈l,∃t',f i=some t'/\(∀K env w X,den P t K env w X->den P t' K env w X)/\ ∀b,b∈t'.mk->b∈t.mk
 |[],t,h,i,hi=>by cases hi
 |[j],t,h,i,hi=>by grind [SR]
 |j::k::r,t,h,i,hi=>by
  simp only[SR] at h;split at h
  ·rename_i a b ha hb;simp only[aj] at h;subst h;rcases List.mem_cons.1 hi with rfl|hi
   ·exact⟨a,ha,λ_ _ _ _ h=>h.1,λb hb=>bz _ hb⟩
   ·obtain⟨t',h1,h2,h3⟩:=Up (l:=k::r) hb i hi;exact⟨t',h1,λ_ _ _ _ h=>h2 _ _ _ _ h.2,λb hb=>dG _ (h3 b hb)⟩
  ·cases h
theorem Pn {K:lO} (hN: ∀oh a' w' dt X' eu,fB pl ds oh dt X' eu a' w'->K .normal dt eu X'->Q .normal a' w')
  (hQ: ∀ch a' w' dt X' eu,a'.defers=ds.ds->Kp X' eu w'->Aj pl ds dt X' a' w'->K (.panic ch) dt eu X'->Q (.panic ch) a' w')
  (JW: ∀c a (d:Option Nat) v w,(∀x,d=some x-> ∀p,p∈ds.pins->p.1≠x)->Q (.panic c) (a.put d v) w->Q (.panic c) a w) (DV:wK ops=true):
  ∀(fuel:Nat) (bE:Array Bool) (cs:CS) (t:T) (env:Env) (X:XS) (w0:World) (a:Act) (w:World),
  Di P pl ops fuel bE cs=some t->(∀b,b∈t.mk-> ∀p,p∈ds.pins->p.1≠b)->fB pl ds cs env X w0 a w->den P t K env w0 X->wj P pl ops Q fuel bE a w
 |0,bE,cs,t,env,X,w0,a,w,hc,_,h,hd=>by
  simp only[Di] at hc;split at hc
  ·rename_i hr;simp only[aj] at hc;subst hc;exact⟨by simpa using hr,hN _ _ _ _ _ _ h hd⟩
  ·cases hc
 |fuel+1,bE,cs,t,env,X,w0,a,w,hc,hm,h,hd=>by
  simp only[Di] at hc;split at hc
  ·rename_i i r hf;obtain⟨h1,h2,h3,o,ho,h4⟩:=Bl hf;cases hs:Di P pl ops fuel (bE.setIfInBounds i true) r.cs with
   |none=>simp[hs] at hc
   |some Dl=>
    simp only[hs,ba,aj] at hc;subst hc;have hd:ia P (λch=>K (.panic ch)) (λe w X=>den P Dl K e w X) r.all env w0 X:=hd;have hm: ∀b,b∈oM r.l++Dl.mk-> ∀p,p∈ds.pins->p.1≠b:=by
     simp only[T.mk,HW] at hm;exact hm
    obtain⟨v,dt,hy,hS,hn⟩:=adh h4 h2 h hd (λb hb=>hm b (bz _ hb));have E6: ∀j oj,ops[j]? =some oj->j≠i->bE.getD j true=false-> ¬(j∈Hi ops bE i\/j=i\/(bE.getD j true=false/\ ∃oj,ops[j]? =some oj/\waits oj i=true))->_:=
     λj oj hj bU HU qs=>QD ho h3 j oj hj bU HU (λhb=>qs (.inl hb)) (by
      cases hw:waits oj i with
      |false=>rfl
      |true=>exact absurd (.inr (.inr ⟨HU,oj,hj,hw⟩)) qs)
    obtain⟨Y,QC,hY,fO⟩: ∃Y:Act->World->Prop,(∀a w,Y a w->Yx P ops o v a w)/\Y a w/\ ∀j oj,oj.dst=oj.dst->o.apart ops oj=true->(qQ pl ops j=false\/C2 o=true\/Uf o r.rb=true)->(∀b,b∈wM pl ops oj-> ¬b∈r.rb)->
      Xv pl ops o oj (qQ pl ops j=false) (wM pl ops oj) Y:=by
     cases zM:Uf o r.rb with
     |false=>exact⟨YF P pl r.rb ops o v,λ_ _ h=>h.yx,hy.1,λj oj _ _ h4 h5=>YF.stb (h4.imp id λh=>h.elim id λh=>by cases h) h5⟩
     |true=>
      unfold Uf at zM;split at zM
      ·rename_i t x xf;have hxr:x∈r.rb:=by simpa using zM
       refine⟨YL P pl x ops o v,λ_ _ h=>h.yx,hy.2 x hxr,λj oj _ K7 _ h5=>YL.stb (λd hd hdx=>?_) λhm=>h5 x hm hxr⟩;subst hdx;refine(wL K7).2.2 d hd (bz _ (List.mem_filterMap.2 ⟨.tmp d,?_,rfl⟩));simp[xf,Op.operands]
      ·cases zM
    refine K8 QC ho (xH DV) (Ui ho h3) (λc a' w' hq=>JW c a' o.dst v w' (h.apart h4 h2 λb hb=>hm b (bz _ hb)) hq) fuel bE a w
     (λj=>j∈Hi ops bE i\/j=i\/(bE.getD j true=false/\ ∃oj,ops[j]? =some oj/\waits oj i=true)) (.inr (.inl rfl)) (λj hj=>?_)
     (λj oj hj bU HU qs=>have h:=E6 j oj hj bU HU qs;⟨h.1,fO j oj rfl h.1 h.2.1 h.2.2⟩) h1 hY ?_
    ·rcases hj with hj|rfl|⟨hu,oj,E4,hw⟩
     ·rcases Uh j hj with h|⟨h,oj,k,q1,q2,q3⟩
      ·exact .inl h
      ·exact .inr ⟨h,oj,k,q1,q2,.inl q3⟩
     ·exact .inl rfl
     ·exact .inr ⟨hu,oj,i,E4,hw,.inr (.inl rfl)⟩
    exact Pn hN hQ JW DV fuel _ r.cs Dl dt X w0 _ w hs (λb hb=>hm b (dG _ hb)) hS hn
  ·refine⟨λh0=>?_,λi' E7=>?_⟩
   ·rw[h0] at hc;simp[SR] at hc
   obtain⟨t',h1,h2,h3⟩:=Up (P:=P) hc i' E7;split at h1
   ·rename_i o ho;split at h1
    ·rename_i r hx;split at h1
     ·rename_i Uo;cases hs:Di P pl ops fuel (bE.setIfInBounds i' true) r.cs with
      |none=>simp[hs] at h1
      |some Dl=>
       simp only[hs,ba,aj] at h1;subst h1;have hd:ia P (λch=>K (.panic ch)) (λe w X=>den P Dl K e w X) r.all env w0 X:=h2 _ _ _ _ hd;have hm: ∀b,b∈oM r.l++Dl.mk-> ∀p,p∈ds.pins->p.1≠b:=λb hb=>hm b (h3 b (by
        simp only[T.mk,HW];exact hb))
       have rK: ∀b,b∈r.sb->b∈wM pl ops o:=λb hb=>by have:=List.all_eq_true.1 Uo b hb;simpa using this
       have E5:=QK (ops:=ops) (K:=λa' w'=>(∀o',ops[i']? =some o'->Av (qQ pl ops i'=false) pl (wM pl ops o') a w a' w')/\wj P pl ops Q fuel (bE.setIfInBounds i' true) a' w') (Q:=Q) hx h hd
        (λa' w' dt X' eu h1 h2 h3=>⟨λo' wo=>by rw[ho] at wo;injection wo with wo;subst wo;exact⟨λzM=>(h3.1 zM).sub rK,h3.2.sub rK⟩,Pn hN hQ JW DV fuel _ r.cs Dl dt X' eu a' w' hs (λb hb=>hm b (dG _ hb)) h1 h2⟩)
        (λb hb=>hm b (bz _ hb)) (λch w' dt X' eu hk Bj hp=>hQ ch a w' dt X' eu h.defers hk Bj hp)
       unfold wpOp;simp only[ho] at E5⊢;split
       ·rename_i hw;rw[if_pos hw] at E5;exact .inl E5
       ·rename_i hw;rw[if_neg hw] at E5;omega
     ·cases h1
    ·cases h1
   ·cases h1
variable {M : List Nat}
theorem E9: ∀k,X k->grow X w w' k:=λ_ h=>.inl h
theorem Uq {n n':Value->World->XS->Prop} {p p':List PanicEntry->World->XS->Prop} {r:Result Next} (h:jS P m X w n p r)
  (hn: ∀v w' X',(∀k,X k->X' k)->n v w' X'->n' v w' X') (hp: ∀c w' X',(∀k,X k->X' k)->p c w' X'->p' c w' X'):jS P m X w n' p' r:=by
 cases r with
 |ok x w'=>
  cases x<;>simp only[jS] at h⊢
  case value v=>grind [E9]
  case skip=>grind [E9]
  case enter f args=>
   refine⟨h.1,h.2.mono λe mD he=>?_⟩;cases e with
   |returned v=>grind [E9]
   |panicked c=>grind [E9]
   |outgrown=>exact he
 |halt x w'=>
  cases x<;>simp only[jS] at h⊢
  grind [E9]
def akU (h: ¬s=d):jT env d v s=env s:=iP _ _ h
theorem ahJ {d:Option Nat} (h: ¬s∈d.toList):K4 env d v s=env s:=by
 cases d with
 |none=>rfl
 |some d=>exact iP _ _ gQ
theorem IT: ∀(l:List TI) {jd Po:List PanicEntry->Env->World->XS->Prop} {next next':Env->World->XS->Prop} {env:Env} {w:World} {X:XS},
  ia P jd next l env w X->
  (∀e w' X',(∀k,X k->X' k)->(∀s,¬s∈l.flatMap TI.wr->e s=env s)->next e w' X'->next' e w' X')->
  (∀c e w' X',(∀k,X k->X' k)->(∀s,¬s∈l.flatMap TI.wr->e s=env s)->jd c e w' X'->Po c e w' X')->ia P Po next' l env w X
 |[],_,_,_,_,_,_,_,h,hn,_=>hn _ _ _ (λ_ h=>h) (λ_ _=>rfl) h
 |i::l,jd,Po,next,next',env,w,X,h,hn,hp=>by
  have step: ∀(xL:Env) (w1:World) (X1:XS),(∀k,X k->X1 k)->(∀s,¬s∈i.wr->xL s=env s)->ia P jd next l xL w1 X1->ia P Po next' l xL w1 X1:=by
   intro xL w1 X1 Li he1 h1;refine IT l h1 (λe w' X' hX he hq=>hn e w' X' (λk hk=>hX k (Li k hk)) (λs hs=>?_) hq) (λc e w' X' hX he hq=>hp c e w' X' (λk hk=>hX k (Li k hk)) (λs hs=>?_) hq)
   ·simp only[AU,sk,not_or] at hs
    grind
   ·simp only[AU,sk,not_or] at hs
    grind
  have pst: ∀c w1 X1,(∀k,X k->X1 k)->jd c env w1 X1->Po c env w1 X1:=λc w1 X1 Li hq=>hp c env w1 X1 Li (λ_ _=>rfl) hq;have st1: ∀(d:Nat) (v:Value) (w1:World) (X1:XS),i.wr=[d]->(∀k,X k->X1 k)->ia P jd next l (jT env d v) w1 X1->ia P Po next' l (jT env d v) w1 X1:=
   λd v w1 X1 hw Li h1=>step _ _ _ Li (λs hs=>akU (by rw[hw] at hs;simpa using hs)) h1
  have stO: ∀(d:Option Nat) (v:Value) (w1:World) (X1:XS),i.wr=d.toList->(∀k,X k->X1 k)->ia P jd next l (K4 env d v) w1 X1->ia P Po next' l (K4 env d v) w1 X1:=
   λd v w1 X1 hw Li h1=>step _ _ _ Li (λs hs=>ahJ (by rw[hw] at hs;exact hs)) h1
  cases i with
  |Ar b=>exact dJ.2 ⟨(dJ.1 h).1,step _ _ _ (λ_ h=>h) (λ_ _=>rfl) (dJ.1 h).2⟩
  |set d e=>exact st1 d _ _ _ rfl (λ_ h=>h) h
  |box b n e=>exact dJ.2 ⟨(dJ.1 h).1,st1 b _ _ _ rfl (λ_ h=>h) (dJ.1 h).2⟩
  |put b off n e=>
   have h2:=dJ.1 (dJ.1 h).2;exact dJ.2 ⟨(dJ.1 h).1,dJ.2 ⟨h2.1,st1 b _ _ _ rfl (λ_ h=>h) h2.2⟩⟩
  |Cv b e=>exact dJ.2 ⟨(dJ.1 h).1,st1 b _ _ _ rfl (λ_ h=>h) (dJ.1 h).2⟩
  |Xo b off e=>exact dJ.2 ⟨(dJ.1 h).1,st1 b _ _ _ rfl (λ_ h=>h) (dJ.1 h).2⟩
  |fill b n e=>
   have h2:=dJ.1 (dJ.1 h).2;exact dJ.2 ⟨(dJ.1 h).1,dJ.2 ⟨h2.1,st1 b _ _ _ rfl (λ_ h=>h) h2.2⟩⟩
  |rd d op ty ss=>
   obtain⟨v,h1,h2⟩:=h;exact⟨v,h1,st1 d _ _ _ rfl (λ_ h=>h) h2⟩
  |Eg d op ty ss m=>exact λwa HV=>Uq (h wa HV) (λv w' X' hX hq=>stO d v w' X' rfl hX hq) (λc w' X' hX hq=>pst c w' X' hX hq)
  |Xp g want d e=>exact st1 d _ _ _ rfl (λ_ h=>h) h
  |grd g want d op ty ss=>
   obtain⟨v,h1,h2,h3⟩:=h;exact⟨v,h1,h2,st1 d _ _ _ rfl (λ_ h=>h) h3⟩
  |Xq g want d op ty ss m=>
   exact⟨λhg wa HV=>Uq (h.1 hg wa HV) (λv w' X' hX hq=>stO d v w' X' rfl hX hq) (λc w' X' hX hq=>pst c w' X' hX hq),λhg=>stO d _ _ _ rfl (λ_ h=>h) (h.2 hg)⟩
theorem XI {e:Env} (h:s∈M):merge M e env s=e s:=by simp[merge,AV.2 h]
theorem Gu {e:Env} (h: ¬s∈M):merge M e env s=env s:=by
 have:yZ M s=false:=by
  cases hx:yZ M s with
  |false=>rfl
  |true=>exact absurd (AV.1 hx) h
 simp[merge,this]
theorem mV: ∀(t:T) {K K':lO} {env:Env} {w:World} {X:XS},den P t K env w X->
  (∀ex e w' X',(∀k,X k->X' k)->(∀s,¬s∈t.wr->e s=env s)->K ex e w' X'->K' ex e w' X')->den P t K' env w X
 | .B9 l,K,K',env,w,X,h,hk=>IT l h (λe w' X' hX he hq=>hk _ e w' X' hX he hq) (λc e w' X' hX he hq=>hk _ e w' X' hX he hq)
 | .seq a b,K,K',env,w,X,h,hk=>by
  refine mV a (K:=lO.Gs (λe w X=>den P b K e w X) K) h λex e w' X' hX he hq=>?_;have AY: ∀s,¬s∈(T.seq a b).wr->e s=env s:=λs hs=>he s (λhc=>hs (bz _ hc));cases ex with
  |normal=>
   refine mV b (K:=K) hq λex2 e2 w2 X2 hX2 he2 zN=>hk ex2 e2 w2 X2 (λk hk=>hX2 k (hX k hk)) (λs hs=>?_) zN;rw[he2 s (λhc=>hs (dG _ hc)),AY s hs]
  |exit i=>exact hk _ e w' X' hX AY hq
  |goto i=>exact hk _ e w' X' hX AY hq
  |ret=>exact hk _ e w' X' hX AY hq
  |panic c=>exact hk _ e w' X' hX AY hq
  |outgrown=>exact hk _ e w' X' hX AY hq
 | .ite c a b,K,K',env,w,X,h,hk=>by
  simp only[den,np] at h⊢;split at h
  ·refine⟨λht=>mV a (h.1 ht) λex e w' X' hX he hq=>hk ex e w' X' hX (λs hs=>he s (λhc=>hs (bz _ hc))) hq,
    λht=>mV b (h.2 ht) λex e w' X' hX he hq=>hk ex e w' X' hX (λs hs=>he s (λhc=>hs (dG _ hc))) hq⟩
  omega
 | .alt a b,K,K',env,w,X,h,hk=>by
  exact⟨mV a h.1 λex e w' X' hX he hq=>hk ex e w' X' hX (λs hs=>he s (λhc=>hs (bz _ hc))) hq,
   mV b h.2 λex e w' X' hX he hq=>hk ex e w' X' hX (λs hs=>he s (λhc=>hs (dG _ hc))) hq⟩
 | .cU id a,K,K',env,w,X,h,hk=>by
  refine mV a (K:=lO.cU id K) h λex e w' X' hX he hq=>?_;cases ex with
  |exit i=>
   simp only[lO.cU] at hq⊢;split
   ·rename_i hi;rw[if_pos hi] at hq;exact hk _ e w' X' hX he hq
   ·rename_i hi;rw[if_neg hi] at hq;exact hk _ e w' X' hX he hq
  |normal=>exact hk _ e w' X' hX he hq
  |goto i=>exact hk _ e w' X' hX he hq
  |ret=>exact hk _ e w' X' hX he hq
  |panic c=>exact hk _ e w' X' hX he hq
  |outgrown=>exact hk _ e w' X' hX he hq
 | .loop M C a,K,K',env,w,X,h,hk=>by
  obtain⟨J,h0,hJ⟩:=h;refine⟨J,h0,λn e w' X' hX hj=>?_⟩;refine mV a (K:=lO.Gs (λe' mD xa=> ∃m,m<n/\J m (C.map e') mD xa) K) (hJ n e w' X' hX hj) λex e2 w2 X2 hX2 he2 hq=>?_;have rK: ∀k,X k->X2 k:=λk hk=>hX2 k (hX k hk);have AY: ∀s,¬s∈(T.loop M C a).wr->e2 s=env s:=λs hs=>by
   simp only[T.wr,sk,not_or] at hs;rw[he2 s hs.2];exact Gu hs.1
  cases ex with
  |normal=>exact hq
  |exit i=>exact hk _ e2 w2 X2 rK AY hq
  |goto i=>exact hk _ e2 w2 X2 rK AY hq
  |ret=>exact hk _ e2 w2 X2 rK AY hq
  |panic c=>exact hk _ e2 w2 X2 rK AY hq
  |outgrown=>exact hk _ e2 w2 X2 rK AY hq
 | .exit id,K,K',env,w,X,h,hk=>hk _ _ _ _ (λ_ h=>h) (λ_ _=>rfl) h
 | .ret,K,K',env,w,X,h,hk=>hk _ _ _ _ (λ_ h=>h) (λ_ _=>rfl) h
 | .skip,K,K',env,w,X,h,hk=>hk _ _ _ _ (λ_ h=>h) (λ_ _=>rfl) h
theorem ahK {c:Code} (I:Nat->Act->World->Prop) (h₀: ∃n,I n a w)
  (round: ∀n a w,I n a w->c.wp P (Exit.then (λa' w'=> ∃m,m<n/\I m a' w') Q) a w):(Code.loop c).wp P Q a w:=by
 intro b k cs;have key: ∀n a w,I n a w-> ∃e a' w',Q e a' w'/\Arrives P (lone (b.at a (.code c:: .inLoop c::k)) cs w) b k cs e a' w':=by
  intro n
  induction n using Nat.strongRecOn with
  |_ n ih=>
   intro a w hI;obtain⟨e,a₁,w₁,hq,Lj⟩:=round n a w hI b (.inLoop c::k) cs;cases e with
   |normal=>
    obtain⟨m,cx,hI₁⟩:=hq;obtain⟨e₂,a₂,w₂,hq₂,harr₂⟩:=ih m cx a₁ w₁ hI₁;exact⟨e₂,a₂,w₂,hq₂,.of_steps (Steps.trans Lj (.one step_inLoop)) harr₂⟩
   |exit id=>exact⟨_,a₁,w₁,hq,.pass (x:=.inLoop c) rfl (λ_ _=>.inl sQ) Lj⟩
   |goto l=>exact⟨_,a₁,w₁,hq,.pass (x:=.inLoop c) rfl (λ_ _=>.inl sQ) Lj⟩
   |ret=>exact⟨_,a₁,w₁,hq,.pass (x:=.inLoop c) rfl (λ_ _=>.inl sQ) Lj⟩
   |panic ch=>exact⟨_,a₁,w₁,hq,.pass (x:=.inLoop c) rfl (λ_ _=>.inl sQ) Lj⟩
   |outgrown=>exact⟨_,a₁,w₁,hq,.pass (x:=.inLoop c) rfl (λ_ _=>.inl sQ) Lj⟩
 obtain⟨n,h₀⟩:=h₀;obtain⟨e,a',w',hq,Lj⟩:=key n a w h₀;exact⟨e,a',w',hq,.of_steps (.one step_loop) Lj⟩
def QP (pl:gz) (ds:Bk) (K:lO):Exit->Act->World->Prop
 | .panic ch,a,w=>a.defers=ds.ds/\ ∃env X w0,Kp X w0 w/\K (.panic ch) env w0 X/\Aj pl ds env X a w
 | .outgrown,_,_=>False
 |e,a,w=> ∃env X w0,fB pl ds .start env X w0 a w/\K e env w0 X
variable {fn : Func} {R : Ending -> World -> Prop} {args : Array Value} {f : FuncId}
theorem fB.drop (h:fB pl ds cs env X w0 a w):fB pl ds .start env X w0 a w:=
 { h with sig:=λ_ hp=>(by cases hp),live:=λ_ hp=>(by cases hp),ptr:=λ_ hp=>(by cases hp) }
theorem QN: ∀(l acc:List Nat) (s:Nat),(s∈l\/s∈acc)->s∈um l acc
 |[],acc,s,h=>h.elim (λh=>by cases h) id
 |x::r,acc,s,h=>by
  simp only[um];refine QN r _ s ?_;rcases h with h|h
  ·rcases List.mem_cons.1 h with rfl|h
   ·right;split
    ·rename_i hc;simpa using hc
    ·exact zK ..
   ·exact .inl h
  ·right;split
   ·exact h
   ·exact bS _ h
theorem QP.mono {K K':lO} (h: ∀ex e w X,K ex e w X->K' ex e w X) (ex:Exit) (a:Act) (w:World) (hq:QP pl ds K ex a w):QP pl ds K' ex a w:=by
 cases ex<;>simp only[QP] at hq⊢
 case panic ch=>grind
 all_goals grind
theorem Ni: ∀(c:Code) (t:T) (K:lO) (env:Env) (X:XS) (w0:World) (a:Act) (w:World),
  jP P pl c=some t->(∀b,b∈t.mk-> ∀p,p∈ds.pins->p.1≠b)->fB pl ds .start env X w0 a w->den P t K env w0 X->c.wp P (QP pl ds K) a w:=by
 intro c
 induction c with
 |skip=>
  intro t K env X w0 a w hc hm h hd;simp only[jP,aj] at hc;subst hc;exact wp_skip ⟨env,X,w0,h,hd⟩
 |region id ops draw=>
  intro t K env X w0 a w hc hm h hd;have hN: ∀oh a' w' dt X' eu,fB pl ds oh dt X' eu a' w'->(λe w X=>K .normal e w X) dt eu X'->QP pl ds K .normal a' w':=
   λoh a' w' dt X' eu h1 h2=>⟨dt,X',eu,h1.drop,h2⟩
  have hQ: ∀ch a' w' dt X' eu,a'.defers=ds.ds->Kp X' eu w'->Aj pl ds dt X' a' w'->(λch=>K (.panic ch)) ch dt eu X'->QP pl ds K (.panic ch) a' w':=
   λch a' w' dt X' eu h0 h1 Bj h2=>⟨h0,dt,X',eu,h1,h2,Bj⟩
  simp only[jP] at hc;split at hc
  ·rename_i Lk;subst Lk;split at hc
   ·rename_i HY;simp only[aC] at HY;refine wp_region_any HY.1 (QB (pl:=pl) _ _ _ _ ?_);have JW: ∀c a (d:Option Nat) v w,(∀x,d=some x-> ∀p,p∈ds.pins->p.1≠x)->QP pl ds K (.panic c) (a.put d v) w->QP pl ds K (.panic c) a w:=λc a d v w hd hq=>by
     obtain⟨h1,e,X',eu,h2,h3,h4⟩:=hq;exact⟨by cases d<;>exact h1,e,X',eu,h2,h3,h4.put hd⟩
    split at hc
    ·rename_i tl hl;simp only[aj] at hc;subst hc;exact HX hN hQ JW HY.2 _ _ _ tl env X w0 _ _ hl hm (h.jz (Ext.drew w)) hd
    ·exact Pn hN hQ JW HY.2 _ _ _ t env X w0 _ _ hc hm (h.jz (Ext.drew w)) hd
   ·cases hc
  ·rename_i Lk;simp only[Bool.not_eq_true] at Lk;subst Lk;cases hl:IP P pl ops ops.toList .start with
   |none=>grind
   |some tl=>
    simp only[hl,ba,aj] at hc;subst hc;exact wp_region_list (QL hN hQ ops.toList .start tl env X w0 a w hl hm h hd)
 |seq x y ihx ihy=>
  intro t K env X w0 a w hc hm h hd;simp only[jP] at hc;cases hx:jP P pl x with
  |none=>simp[hx] at hc
  |some tx=>
   cases hy:jP P pl y with
   |none=>simp[hx,hy] at hc
   |some ty=>
    simp only[hx,hy,aj] at hc;have Ll:den P (.seq tx ty) K env w0 X:=by
     subst hc;split at hd
     ·exact hd
     ·show den P tx (lO.Gs (λe w X=>den P .skip K e w X) K) env w0 X
      refine mV tx hd λex e w' X' _ _ hq=>?_;cases ex<;>exact hq
     ·exact hd
    have hmm: ∀b,b∈tx.mk\/b∈ty.mk-> ∀p,p∈ds.pins->p.1≠b:=λb hb=>hm b (by
     rw[<-hc];split
     ·exact hb.resolve_left (λh=>by cases h)
     ·exact hb.resolve_right (λh=>by cases h)
     ·exact List.mem_append.2 hb)
    refine wp_seq (wp_mono (ihx tx _ env X w0 a w hx (λb hb=>hmm b (.inl hb)) h Ll) λex a' w' hq=>?_);cases ex with
    |normal=>
     obtain⟨e,X',eu,h1,h2⟩:=hq;exact ihy ty K e X' eu a' w' hy (λb hb=>hmm b (.inr hb)) h1 h2
    |exit i=>exact hq
    |goto i=>exact hq
    |ret=>exact hq
    |panic c=>exact hq
    |outgrown=>exact hq
 |cond c x y ihx ihy=>
  intro t K env X w0 a w hc hm h hd;simp only[jP] at hc;cases hv:valOf pl .start c with
  |none=>simp[hv] at hc
  |some e=>
   cases hx:jP P pl x with
   |none=>simp[hv,hx] at hc
   |some tx=>
    cases hy:jP P pl y with
    |none=>simp[hv,hx,hy] at hc
    |some ty=>
     simp only[hv,hx,hy,aj] at hc;subst hc;have he:=h.eval hv;simp only[den,np] at hd;split at hd
     ·rename_i b hb;rw[hb] at he;exact wp_cond_split he (λht=>ihx tx K env X w0 a w hx (λb hb=>hm b (bz _ hb)) h (hd.1 ht)) (λht=>ihy ty K env X w0 a w hy (λb hb=>hm b (dG _ hb)) h (hd.2 ht))
     ·exact hd.elim
 |block id x ih=>
  intro t K env X w0 a w hc hm h hd;simp only[jP] at hc;cases hx:jP P pl x with
  |none=>simp[hx] at hc
  |some tx=>
   simp only[hx,ba,aj] at hc;subst hc;refine wp_block (wp_mono (ih tx _ env X w0 a w hx hm h hd) λex a' w' hq=>?_);cases ex with
   |exit i=>
    obtain⟨e,X',eu,h1,h2⟩:=hq;simp only[Exit.inBlock,lO.cU] at h2⊢;split
    ·rename_i hi;rw[if_pos hi] at h2;exact⟨e,X',eu,h1,h2⟩
    ·rename_i hi;rw[if_neg hi] at h2;exact⟨e,X',eu,h1,h2⟩
   |normal=>exact hq
   |goto i=>exact hq
   |ret=>exact hq
   |panic c=>exact hq
   |outgrown=>exact hq
 |loop x ih=>
  intro t K env X w0 a w hc hm h hd;simp only[jP] at hc;cases hx:jP P pl x with
  |none=>simp[hx] at hc
  |some tx=>
   simp only[hx,ba,aj] at hc;subst hc;obtain⟨J,⟨n0,h0⟩,hJ⟩:=hd;refine ahK (λn a w=> ∃e X' eu,fB pl ds .start (merge (um tx.wr []) e env) X' eu a w/\(∀k,X k->X' k)/\J n (((um tx.wr []).filter (yZ pl.car)).map e) eu X') ⟨n0,env,X,w0,?_,λ_ h=>h,h0⟩ ?_
   ·have:merge (um tx.wr []) env env=env:=by
     funext s
     by_cases hs:s∈um tx.wr []
     ·exact XI hs
     ·exact Gu hs
    rw[this];exact h
   ·rintro n a w ⟨e,X',eu,h1,h2,h3⟩;have sG:=mV tx (K':=λex e' mD xa=>lO.Gs (λe' mD xa=> ∃m,m<n/\J m (((um tx.wr []).filter (yZ pl.car)).map e') mD xa) K ex e' mD xa/\(∀k,X' k->xa k)/\ ∀s,¬s∈tx.wr->e' s=merge (um tx.wr []) e env s) (hJ n e eu X' h2 h3)
     λex e' w' xa hX he hq=>⟨hq,hX,he⟩
    refine wp_mono (ih tx _ _ X' eu a w hx hm h1 sG) λex a' w' hq=>?_;cases ex with
    |normal=>
     obtain⟨e',xa,E8,g1,⟨m,hm,g2⟩,g3,g4⟩:=hq;refine⟨m,hm,e',xa,E8,?_,λk hk=>g3 k (h2 k hk),g2⟩;have:merge (um tx.wr []) e' env=e':=by
      funext s
      by_cases hs:s∈um tx.wr []
      ·exact XI hs
      ·rw[Gu hs,g4 s λhc=>hs (QN _ _ _ (.inl hc)),Gu hs]
     rw[this];exact g1
    |exit i=>obtain⟨e',xa,E8,g1,g2,_⟩:=hq;exact⟨e',xa,E8,g1,g2⟩
    |goto i=>obtain⟨e',xa,E8,g1,g2,_⟩:=hq;exact⟨e',xa,E8,g1,g2⟩
    |ret=>obtain⟨e',xa,E8,g1,g2,_⟩:=hq;exact⟨e',xa,E8,g1,g2⟩
    |panic c=>obtain⟨g0,e',xa,E8,g1,⟨g2,_⟩,g3⟩:=hq;exact⟨g0,e',xa,E8,g1,g2,g3⟩
    |outgrown=>exact hq
 |exit id=>
  intro t K env X w0 a w hc hm h hd;simp only[jP,aj] at hc;subst hc;exact wp_exit ⟨env,X,w0,h,hd⟩
 |ret=>
  intro t K env X w0 a w hc hm h hd;simp only[jP,aj] at hc;subst hc;exact wp_ret ⟨env,X,w0,h,hd⟩
 |rangeFunc=>intro t K env X w0 a w hc;cases hc
 |scope=>intro t K env X w0 a w hc;cases hc
 |label=>intro t K env X w0 a w hc;cases hc
 |goto=>intro t K env X w0 a w hc;cases hc
 |refuse=>intro t K env X w0 a w hc;cases hc
def adj (tmps:Array Value):ResultVar->Sem Value
 | .tmp t=>pure (tmps.getD t undef)
 | .cell c t=>do loadVar t (<-asAddr (tmps.getD c undef))
theorem XJ (h:fB pl ds cs env X w0 a w): ∀(l:List ResultVar) (es:List Ex) (nd:List Nat),
  E3 P pl l=some (es,nd)->(∀b,b∈nd->gx (env b)=true)->
  (l.mapM (adj a.tmps)).run P w=Result.ok (es.map (·.ev env)) w
 |[],es,nd,hc,_=>by
  simp only[E3,aj,cN] at hc;simp_all
 | .tmp t::r,es,nd,hc,hl=>by
  simp only[E3] at hc;split at hc
  ·rename_i hg;cases hr:E3 P pl r with
   |none=>grind
   |some x=>
    obtain⟨es',nd'⟩:=x;simp only[hr,ba,aj,cN] at hc;obtain⟨rfl,rfl⟩:=hc;have ih:=XJ h r es' nd' hr hl;simp[List.mapM_cons,adj,ih,h.qP t hg,Ex.ev]
  ·cases hc
 | .cell c t::r,es,nd,hc,hl=>by
  simp only[E3] at hc;split at hc
  ·rename_i bs ag sz hb ht;split at hc
   ·rename_i th;simp only[aC,decide_eq_true_eq] at th;cases hr:E3 P pl r with
    |none=>grind
    |some x=>
     obtain⟨es',nd'⟩:=x;simp only[hr,ba,aj,cN] at hc;obtain⟨rfl,rfl⟩:=hc;have ih:=XJ h r es' nd' hr λb hb=>hl b (bS _ hb);obtain⟨cells,pz⟩:=wG.1 (hl c (zK ..));obtain⟨k,ty,e1,e2,e3,_⟩:=h.box c bs hb cells pz;have hld:=QG ht th.2 e2 0 zQ;have aqG:(loadVar t ⟨k,0,none⟩).run P w= .ok (if ag then yK (.agg cells) 0 sz else cellOf (.agg cells) 0) w:=by
      simpa [jv,px,eB] using hld
     have Um:(if ag then Ex.s c 0 sz else Ex.k c 0).ev env=if ag then yK (.agg cells) 0 sz else cellOf (.agg cells) 0:=by
      cases ag<;>simp[Ex.ev,pz]
     simp[List.mapM_cons,adj,ih,e1,eB,asAddr,aqG,Um]
   ·cases hc
  ·cases hc
theorem Nj (h:fB pl ds cs env X w0 a w) {es:List Ex}
  (hc:E3 P pl fn.results.toList=some (es,nd)) (hl: ∀b,b∈nd->gx (env b)=true):(results fn a.tmps).run P w= .ok (Xu es env) w:=by
 have hr:=XJ h _ _ _ hc hl;have hf:results fn a.tmps=(do let vs<-fn.results.mapM (adj a.tmps);pure (if h:vs.size=1 then vs[0] else .tuple vs)):=by
  unfold results
  congr 2
 rw[hf,Array.mapM_eq_mapM_toList];simp only[Sem.run_bind,Sem.run_map,hr,Result.andThen_ok,Sem.run_pure]
 congr 1
 match es with
 |[]=>rfl
 |[e]=>rfl
 |e::e'::r=>simp[Xu]
def Pp (P:Program) (o:Option FT) (R:Ending->World->Prop) (args:Array Value) (w:World):Prop:=match o with
 |some ft=>den P ft.code (Pk ft R) (nq args) w (bN w)
 |none=>False
theorem XK {ft:FT} (hf:P.funcs[f]? =some fn)
  (hc:cF P pl fn=some ft) (akk:args.size<=pl.n) (Ax:(pl.boxes.all λp=>decide (args.size<=p.1))=true)
  (h:den P ft.code (Pk ft R) (nq args) w (bN w)):Calls P f args w R:=by
 unfold cF at hc;split at hc
 ·rename_i hn;have mE:fn.ntmps=pl.n:=by simpa using hn
  split at hc
  ·rename_i c hb;split at hc
   ·rename_i t r nd akl Pq;injection hc with hc
    subst hc;refine calls_of_wp hf hb (wp_mono (Ni (pl:=pl) (ds:=⟨[],[]⟩) c t (Pk ⟨t,r,nd⟩ R) (nq args) (bN w) w _ w akl (λ_ _ _ hp=>by cases hp) ?_ h) λex a' w' hq=>?_)
    ·have adk:(args++cY (fn.ntmps-args.size) undef).size=pl.n:=by simp;omega
     have DW: ∀s,s<pl.n->(args++cY (fn.ntmps-args.size) undef)[s]? =some (nq args s):=by
      intro s hs;rw[kJ];split
      ·rename_i h1;simp[nq,qd,h1]
      ·rename_i h1;rw[jF,if_pos zQ];simp only[nq,qd];rw[wY (by simpa using h1)];rfl
     have Lm: ∀b n,look pl.boxes b=some n->nq args b=undef:=by
      intro b n hb;have h1:=List.all_eq_true.1 Ax _ (Cx hb);simp only[decide_eq_true_eq] at h1;simp only[nq,qd];rw[wY zQ];rfl
     exact {
      size:=adk
      defers:=rfl
      AW:=λ_ hp=>(by cases hp)
      ext:=Kp.refl _ _
      xK:=λ_ hk=>hk
      qP:=λs hs=>DW s (tI hs).1
      sig:=λ_ hp=>(by cases hp)
      box:=λb n hb cells hc=>by rw[Lm b n hb] at hc;cases hc
      inj:=λb b' n n' hb dW h1=>by rw[Lm b n hb] at h1;cases h1
      conv:=λb n hb k hk=>by
       have h1:=List.all_eq_true.1 Ax _ (Cx hb);simp only[decide_eq_true_eq] at h1;rw[kJ,if_neg zQ,jF] at hk;split at hk
       ·cases hk
       ·cases hk
      live:=λ_ hp=>(by cases hp)
      ptr:=λ_ hp=>(by cases hp) }
    ·cases ex with
     |normal=>
      obtain⟨e,X',eu,h1,hq⟩:=hq;obtain⟨h2,h3⟩:=dJ.1 hq;exact⟨h1.defers,_,Nj h1 Pq (List.all_eq_true.1 h2),h3 w' h1.ext⟩
     |ret=>
      obtain⟨e,X',eu,h1,hq⟩:=hq;obtain⟨h2,h3⟩:=dJ.1 hq;exact⟨h1.defers,_,Nj h1 Pq (List.all_eq_true.1 h2),h3 w' h1.ext⟩
     |panic ch=>
      obtain⟨h0,e,X',eu,h1,h2,_⟩:=hq;exact⟨h0,h2 w' h1⟩
     |exit i=>obtain⟨e,X',eu,h1,h2⟩:=hq;exact h2
     |goto i=>obtain⟨e,X',eu,h1,h2⟩:=hq;exact h2
     |outgrown=>exact hq.elim
   ·cases hc
  ·cases hc
 ·cases hc
theorem Hj {V:Prop} (hf:P.funcs[f]? =some fn)
  (hs:(decide (args.size<=pl.n)&&pl.boxes.all λp=>decide (args.size<=p.1))=true) (hv:V=Pp P (cF P pl fn) R args w) (h:V):Calls P f args w R:=by
 subst hv;unfold Pp at h;simp only[aC,decide_eq_true_eq] at hs;split at h
 ·rename_i ft hc;exact XK hf hc hs.1 hs.2 h
 ·exact h.elim
def lW (P:Program) (X:XS) (w:World) (s:Sem Next) (N:Value->Prop):Prop:= ∃v,Rd P X w s v/\N v
def aX (P:Program) (X:XS) (w:World) (s:Sem Value) (N:Value->Prop):Prop:=lW P X w (vS s) N
def lP (P:Program) (X:XS) (w:World) (g:Value) (want:Bool) (s:Sem Next) (N:Value->Prop):Prop:=
 ∃v,(oH g want=true->Rd P X w s v)/\(oH g want=false->v=undef)/\N v
def pA (g:Value) (want:Bool) (v:Value):Value:=if oH g want then v else undef
def ix (c a b:Value):Sem Next:=do pure (.value (if<-asBool c then a else b))
def cj (x:Value):Sem Next:=execOp (λ_=>x) (Xn (.nilCheck (.tmp 0)) 0)
def eP (op:BinOp) (t:TypeId) (xo yo:Operand) (x y:Value):Sem Value:=do eqGuard op t xo yo x y;binOp op t x y
def uS (s:Sem Unit):Sem Next:=do s;pure .skip
def pn (R:Ending->World->Prop):List PanicEntry->World->XS->Prop:=λch w X=> ∀wa,Kp X w wa->R (.panicked ch) wa
def eW (P:Program) (R:Ending->World->Prop) (X:XS) (w:World) (m:Bool) (s:Sem Next) (N:Value->World->XS->Prop):Prop:=
 ∀wa,Kp X w wa->jS P m X wa N (pn R) (s.run P wa)
def eV (P:Program) (R:Ending->World->Prop) (X:XS) (w:World) (m:Bool) (s:Sem Value) (N:Value->World->XS->Prop):Prop:=eW P R X w m (vS s) N
def eU (P:Program) (R:Ending->World->Prop) (X:XS) (w:World) (m:Bool) (s:Sem Unit) (N:Value->World->XS->Prop):Prop:=eW P R X w m (uS s) N
def eC (P:Program) (R:Ending->World->Prop) (X:XS) (w:World) (m:Bool) (f:FuncId) (args:Array Value) (N:Value->World->XS->Prop):Prop:=eW P R X w m (callFunc f args) N
def eF (P:Program) (R:Ending->World->Prop) (X:XS) (w:World) (m:Bool) (f:Value) (args:Array Value) (N:Value->World->XS->Prop):Prop:=eW P R X w m (IM f args) N
def gE (g:Value) (want:Bool) (A B:Prop):Prop:=(oH g want=true->A)/\(oH g want=false->B)
def fin (R:Ending->World->Prop) (X:XS) (w:World) (v:Value):Prop:= ∀wa,Kp X w wa->R (.returned v) wa
abbrev JT:=Nat->List Value->World->XS->Prop
def Fa (J:JT) (n:Nat) (vs:List Value) (w:World) (X:XS):Prop:= ∃m,m<n/\J m vs w X
def QO (X:XS) (w:World) (vs:List Value) (C:List Nat) (B:JT->Nat->Env->World->XS->Prop):Prop:=
 ∃J:JT,(∃n,J n vs w X)/\ ∀n (e:Env) w' X',(∀k,X k->X' k)->J n (C.map e) w' X'->B J n e w' X'
variable {P : Program} {R : Ending -> World -> Prop} {X : XS} {w : World} {m : Bool}
variable {N : Value -> Prop}
theorem HZ {s:Sem Value} (v:Value) (h: ∀wa,Kp X w wa->s.run P wa= .ok v wa) (k:N v):aX P X w s N:=
 ⟨v,λwa hk=>by simp[vS,h wa hk],k⟩
def bB {s:Sem Value} (h: ∀wa,s.run P wa= .ok v wa) (k:N v):aX P X w s N:=
 HZ v (λwa _=>h wa) k
def XM {s:Sem Next} (h: ∀wa,s.run P wa= .ok (.value v) wa) (k:N v):lW P X w s N:=
 ⟨v,λwa _=>h wa,k⟩
theorem ES {α:Type} [BEq α] [LawfulBEq α] [DecidableEq α] (a b:α):(a==b)=decide (a=b):=by grind
variable {xo yo : Operand}
section
variable {t : TypeId} {k : IntKind} {a b : Int}
theorem aco (h:N (.bool (decide (a<b)))):aX P X w (binOp .lss t (.int k a) (.int k b)) N:=bB (λwa=>by simp[binOp,tc]) h
theorem akV (h:N (.bool (decide (a<=b)))):aX P X w (binOp .leq t (.int k a) (.int k b)) N:=bB (λwa=>by simp[binOp,tc]) h
theorem akW (h:N (.bool (decide (a>b)))):aX P X w (binOp .gtr t (.int k a) (.int k b)) N:=bB (λwa=>by simp[binOp,tc]) h
theorem akX (h:N (.bool (decide (a>=b)))):aX P X w (binOp .geq t (.int k a) (.int k b)) N:=bB (λwa=>by simp[binOp,tc]) h
theorem od (h:N (.int k (k.wrap (a+b)))):aX P X w (binOp .add t (.int k a) (.int k b)) N:=bB (λwa=>by simp[binOp,Bf]) h
theorem acp (h:N (.int k (k.wrap (a-b)))):aX P X w (binOp .sub t (.int k a) (.int k b)) N:=bB (λwa=>by simp[binOp,Bf]) h
theorem SU (h:N (.int k (k.wrap (a*b)))):aX P X w (binOp .mul t (.int k a) (.int k b)) N:=bB (λwa=>by simp[binOp,Bf]) h
theorem SV (h:N (.bool (decide (a=b)))):aX P X w (eP .eql t xo yo (.int k a) (.int k b)) N:=
 bB (λwa=>by simp[eP,eqGuard,binOp,tc,ES]) h
theorem akY (h:N (.bool (decide (a≠b)))):aX P X w (eP .neq t xo yo (.int k a) (.int k b)) N:=
 bB (λwa=>by simp[eP,eqGuard,binOp,tc,bne,ES]) h
end
section
variable {t : TypeId} {a b : ByteArray}
theorem ahL (h:N (.bool (decide (a.toList=b.toList)))):aX P X w (eP .eql t xo yo (.string a) (.string b)) N:=
 bB (λwa=>by simp[eP,eqGuard,binOp,wZ,ES]) h
theorem ahM (h:N (.bool (decide (a.toList≠b.toList)))):aX P X w (eP .neq t xo yo (.string a) (.string b)) N:=
 bB (λwa=>by simp[eP,eqGuard,binOp,wZ,ES]) h
theorem ahN (h:N (.bool (bY a.toList b.toList))):aX P X w (binOp .lss t (.string a) (.string b)) N:=
 bB (λwa=>by rfl) h
theorem ahO (h:N (.bool (!bY a.toList b.toList))):aX P X w (binOp .geq t (.string a) (.string b)) N:=
 bB (λwa=>by rfl) h
theorem ahP (h:N (.bool (bY a.toList b.toList||decide (a.toList=b.toList)))):aX P X w (binOp .leq t (.string a) (.string b)) N:=
 bB (λwa=>by simp[binOp,wZ,ES]) h
theorem ahQ (h:N (.bool (!(bY a.toList b.toList||decide (a.toList=b.toList))))):aX P X w (binOp .gtr t (.string a) (.string b)) N:=
 bB (λwa=>by simp[binOp,wZ,ES]) h
end
section
variable {t : TypeId} {k : FloatKind} {a b : Nat}
theorem ahR (h:N (.bool (k.format.order a b==some .lt))):aX P X w (binOp .lss t (.float k a) (.float k b)) N:=bB (λwa=>by simp[binOp,pQ]) h
theorem ahS (h:N (.bool (k.format.order a b==some .lt||k.format.order a b==some .eq))):aX P X w (binOp .leq t (.float k a) (.float k b)) N:=
 bB (λwa=>by simp[binOp,pQ]) h
theorem ahT (h:N (.bool (k.format.order a b==some .gt))):aX P X w (binOp .gtr t (.float k a) (.float k b)) N:=bB (λwa=>by simp[binOp,pQ]) h
theorem ahU (h:N (.bool (k.format.order a b==some .gt||k.format.order a b==some .eq))):aX P X w (binOp .geq t (.float k a) (.float k b)) N:=
 bB (λwa=>by simp[binOp,pQ]) h
theorem ahV (h:N (.bool (k.format.order a b==some .eq))):aX P X w (eP .eql t xo yo (.float k a) (.float k b)) N:=
 bB (λwa=>by simp[eP,eqGuard,binOp,pQ]) h
theorem ahW (h:N (.bool (k.format.order a b !=some .eq))):aX P X w (eP .neq t xo yo (.float k a) (.float k b)) N:=
 bB (λwa=>by simp[eP,eqGuard,binOp,pQ]) h
end
section
variable {t : TypeId} {k k2 : IntKind} {a b : Int}
theorem ET (hb: ¬b<0) (h:N (.int k (a.fdiv (2^min b.toNat k.bits)))):aX P X w (binOp .shr t (.int k a) (.int k2 b)) N:=
 bB (λwa=>by simp[binOp,Op.shift,hb]) h
theorem SX (hb: ¬b<0) (h:N (.int k (k.wrap (a*2^min b.toNat k.bits)))):aX P X w (binOp .shl t (.int k a) (.int k2 b)) N:=
 bB (λwa=>by simp[binOp,Op.shift,hb]) h
theorem SY (h:N (.int k (k.wrap (aF k.bits a^^^aF k.bits b).toNat))):aX P X w (binOp .xor t (.int k a) (.int k b)) N:=
 bB (λwa=>by simp[binOp,Op.intBits]) h
theorem Nk (h:N (.int k (k.wrap (aF k.bits a&&& aF k.bits b).toNat))):aX P X w (binOp .and t (.int k a) (.int k b)) N:=
 bB (λwa=>by simp[binOp,Op.intBits]) h
end
variable {x y : Value} {A : Prop}
section
variable {b c : Bool} {g : Value}
theorem SZ (h:N (.bool (!b))):aX P X w (Op.unary .not (.bool b)) N:=bB (λwa=>by rfl) h
theorem XN (h:N (if b then x else y)):lW P X w (ix (.bool b) x y) N:=XM (λwa=>by rfl) h
def Gv (h:N x):lW P X w (ix (.bool true) x y) N:=XN h
def Gw (h:N y):lW P X w (ix (.bool false) x y) N:=XN h
theorem Nl {s:Sem Next} (h:lW P X w s N):lP P X w (.bool want) want s N:=by
 obtain⟨v,hv,hn⟩:=h;exact⟨v,λ_=>hv,λhf=>absurd hf (by simp[oH]),hn⟩
theorem XO {s:Sem Next} (h:N undef):lP P X w (.bool (!want)) want s N:=
 ⟨undef,λhf=>absurd hf (by cases want<;>simp[oH]),λ_=>rfl,h⟩
def ahX {s:Sem Next} (h:lW P X w s N):lP P X w (.bool true) true s N:=Nl h
def ahY {s:Sem Next} (h:lW P X w s N):lP P X w (.bool false) false s N:=Nl h
def Ln {s:Sem Next} (h:N undef):lP P X w (.bool false) true s N:=XO (want:=true) h
def afY {s:Sem Next} (h:N undef):lP P X w (.bool true) false s N:=XO (want:=false) h
def acq {B:Prop} (h:b=true->A) (k:b=false->B):np (.bool b) A B:=⟨h,k⟩
theorem adl {B:Prop} (h:b=want->A) (k:b=!want->B):gE (.bool b) want A B:=
 ⟨λe=>h (by simpa [oH] using e),λe=>k (by revert e;cases b<;>cases want<;>simp[oH])⟩
def amp {B:Prop} (h:A):gE (.bool true) true A B:=adl (λ_=>h) sQ
def aqH {B:Prop} (h:A):gE (.bool false) false A B:=adl (λ_=>h) sQ
def aph {B:Prop} (h:B):gE (.bool true) false A B:=adl sQ (λ_=>h)
def akm {B:Prop} (h:B):gE (.bool false) true A B:=adl sQ (λ_=>h)
theorem Ou {vs:Array Value} (hi:vs[i]? =some v) (h:N v):aX P X w (gB (.tuple vs) i) N:=
 bB (λwa=>by simp[gB,hi]) h
def akZ {a:Addr} (h:N (.pointer (some a))):lW P X w (cj (.pointer (some a))) N:=
 XM (λ_=>rfl) h
theorem XP {t e:TypeId} {p:Option Addr} (ht:P.underlying t=some (.pointer e)) (h:N (.bool p.isNone)):
  aX P X w (eP .eql t xo yo (.pointer p) (.pointer none)) N:=by
 refine bB (λwa=>?_) h;have hp:P.pointee t=e:=by simp[Program.pointee,ht]
 have:=run_equal_pointer_nil (P:=P) (w:=wa) t p gQ;simp[eP,eqGuard,binOp,this]
end
theorem amq {N:Value->World->XS->Prop} (Q:Value->World->World->Prop)
  (hf: ∀wa,(callFunc f args).run P wa= .ok (.enter f args) wa)
  (h: ∀wa,Kp X w wa->Calls P f args wa λe w'=> ∃v,e= .returned v/\Ext wa w'/\Q v wa w')
  (k: ∀v wa w',Kp X w wa->Ext wa w'->Q v wa w'->N v w' (grow X wa w')):eC P R X w m f args N:=by
 intro wa hk;unfold jS;rw[hf wa];refine⟨rfl,(h wa hk).mono ?_⟩
 grind [Step.fb]
end Go.aJ