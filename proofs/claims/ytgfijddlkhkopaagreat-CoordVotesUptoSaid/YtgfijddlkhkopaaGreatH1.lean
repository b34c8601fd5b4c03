/- Part 1 of the proof. -/
import Derived.KernelRfl
import Derived.Orders
import Derived.Below
import Derived.Laws.Sem
import Derived.Laws.CopyRow
import Derived.Laws.Entries
import Derived.Laws.Cells
import GoSem.Dispatch
import Derived.Laws.Rows
import Derived.Laws.Pointers
set_option linter.all false
open Option.some renaming injEq → aj
open Go.Region renaming wanted → cP, ready → iC, binds → vH, noSelect → wL, noSelect_spec → xE
open Bool renaming and_eq_true → aA, not_eq_true' → de, false_eq_true → aW, or_eq_true → o9, not_eq_false → Ap
open List renaming mem_append_left → bq, mem_append_right → cC, mem_filter → iB, range → dy, mem_cons_of_mem → bG, mem_append → sG, mem_cons → il, cons_append → j8, getD → qt, contains_iff_mem → wW, all_eq_true → lG, nil_append → bp, flatMap_cons → Ar, mem_cons_self → mj, getElem?_eq_none → wX
open Option renaming map_some → aZ, bind_some → cW, isNone_iff_eq_none → oM
open Go.Act renaming put → nO, eval → xF
open Go.Oper renaming upon → oH, wp → tG, apart_spec → wM
open Prod.mk renaming injEq → cY
open Go.Op renaming intCmp → te, floatCmp → qe, stringOp → wY, bytesLess → cB, intArith → AO
open Nat renaming le_refl → au, lt_of_lt_of_le → aw, le_trans → ad
open Array renaming replicate → dh, getElem?_setIfInBounds_ne → lH, getElem?_eq_none → qu, toList_map → nQ, any_eq_true' → yO, setIfInBounds_comm → uq, getElem?_setIfInBounds → dR, getElem?_append → kR, getElem?_replicate → jH
open Go.Instr renaming sureAddr → pL, loadAt → ju, extract → gB
open BitVec renaming ofInt → aF
open Go.Deferred renaming ofValue → lI
namespace Go.aK
theorem kS {α:Type _} {a b:α} (h:a=b:=by kernel_rfl):some a=some b:=congrArg some h
variable {p : Prop}
theorem qF (h:p:=by first|assumption|exact aH.cells (by assumption)):p:=h
theorem qO (h:p:=by first|assumption|exact Own.sl (by assumption)):p:=h
theorem qM (h:p:=by first|exact mv0|exact mv1 (by assumption)|exact mv2 (by assumption) (by assumption)):p:=h
theorem qN (h:p:=by simp only[Value.cells,nq1,nq2,nq3,nq4,nq5,nq6,bM,nq7,nq8,nq9,nq0,Nat.reduceAdd,Nat.zero_add];try rfl):p:=h
theorem qE (h:p:=by(repeat' first|with_reducible apply Wy|with_reducible exact aaG|assumption|rfl|exact Sl.one (by assumption)|exact eY.one (by assumption)|exact Sl.one (Own.sl (by assumption)));done):p:=h
theorem qC (h:p:=by first|rfl|assumption|exact Sl.one (by assumption)|exact eY.one (by assumption)|exact Sl.one (Own.sl (by assumption))):p:=h
theorem qR (h:p:=by first|assumption|exact List.getElem?_eq_getElem (by omega)):p:=h
theorem qA (h:p:=by first|assumption|exact Sl.mv (by assumption) qM|exact qZ.mv (by assumption) qM|exact ri.mv (by assumption) qM|exact Rec.at.mv (by assumption) qM|exact Own.sl (by assumption)|exact Cells.mv (by assumption) qM|exact Cells.mv (aH.cells (by assumption)) qM|omega):p:=h
theorem kQ (h:p:=by kernel_rfl):p:=h
theorem zQ (h:p:=by omega):p:=h
theorem aQ (h:p:=by assumption):p:=h
theorem dQ (h:p:=by decide):p:=h
theorem gQ (h:p:=by grind):p:=h
theorem oQ (h:p:=by simp;omega):p:=h
theorem sQ (h:p:=by simp):p:=h
abbrev Env:=Nat->Value
abbrev XS:=Nat->Prop
def jX (e:Env) (d:Nat) (v:Value):Env:=λs=>match s==d with
 |true=>v
 |false=>e s
def KE (e:Env) (d:Option Nat) (v:Value):Env:=match d with
 |some d=>jX e d v
 |none=>e
structure Fr (X:XS) (w w':World):Prop where
 os:w'.os=w.os
 tape:w'.tape=w.tape
 output:w'.output=w.output
 size:w.heap.size<=w'.heap.size
 block: ∀k,k<w.heap.size-> ¬X k->w'.heap[k]? =w.heap[k]?
def nX:XS:=λ_=>False
def Ext (w w':World):Prop:=Fr nX w w'
theorem Fr.refl (X:XS) (w:World):Fr X w w:=⟨rfl,rfl,rfl,au _,λ_ _ _=>rfl⟩
variable {b c : World} {X : XS}
theorem Fr.trans {a:World} (h:Fr X a b) (k:Fr X b c):Fr X a c:=
 ⟨k.os.trans h.os,k.tape.trans h.tape,k.output.trans h.output,ad h.size k.size,
  λi hi hx=>(k.block i (aw hi h.size) hx).trans (h.block i hi hx)⟩
variable {Y : XS}
def Fr.mono {a:World} (h:Fr X a b) (hs: ∀k,X k->Y k):Fr Y a b:=
 ⟨h.os,h.tape,h.output,h.size,λi hi hy=>h.block i hi λhx=>hy (hs i hx)⟩
theorem Ext.refl (w:World):Ext w w:=Fr.refl _ _
theorem Ext.trans {a:World} (h:Ext a b) (k:Ext b c):Ext a c:=Fr.trans h k
theorem Ext.fr {a:World} (h:Ext a b) (X:XS):Fr X a b:=Fr.mono h (λ_ hf=>hf.elim)
theorem Ext.size {a:World} (h:Ext a b):a.heap.size<=b.heap.size:=Fr.size h
variable {k : Nat}
theorem Ext.block {a:World} (h:Ext a b) (hk:k<a.heap.size):b.heap[k]? =a.heap[k]? :=Fr.block h k hk (λhf=>hf)
def Ext.agZ {a:World} (h:RowKit.Below a.heap.size a b):Ext a b:=⟨h.os,h.tape,h.output,h.size,λk hk _=>h.block k hk⟩
def Ext.below {a:World} (h:Ext a b):RowKit.Below a.heap.size a b:=⟨h.os,h.tape,h.output,Fr.size h,λ_ hk=>h.block hk⟩
theorem Ext.alloc (w:World) (o:Obj):Ext w (w.alloc o):=Ext.agZ ((RowKit.Below.refl _ _).alloc (au _) o)
def Ext.drew (w:World):Ext w { w with drawn:=w.drawn+1 } :=⟨rfl,rfl,rfl,au _,λ_ _ _=>rfl⟩
structure Kp (X:XS) (w w':World):Prop where
 os:w'.os=w.os
 tape:w'.tape=w.tape
 output:w'.output=w.output
 size:w.heap.size<=w'.heap.size
 block: ∀k,X k->w'.heap[k]? =w.heap[k]?
theorem Kp.refl (X:XS) (w:World):Kp X w w:=⟨rfl,rfl,rfl,au _,λ_ _=>rfl⟩
theorem Kp.trans {a:World} (h:Kp X a b) (k:Kp X b c):Kp X a c:=
 ⟨k.os.trans h.os,k.tape.trans h.tape,k.output.trans h.output,ad h.size k.size,λi hx=>(k.block i hx).trans (h.block i hx)⟩
theorem Kp.less {a:World} (h:Kp X a b) (hs: ∀k,Y k->X k):Kp Y a b:=⟨h.os,h.tape,h.output,h.size,λi hy=>h.block i (hs i hy)⟩
theorem Fr.kp {a:World} (h:Fr X a b) (hy: ∀k,Y k->k<a.heap.size/\ ¬X k):Kp Y a b:=
 ⟨h.os,h.tape,h.output,h.size,λi hi=>h.block i (hy i hi).1 (hy i hi).2⟩
theorem Ext.kp {a:World} (h:Ext a b) (hx: ∀k,X k->k<a.heap.size):Kp X a b:=Fr.kp h λk hk=>⟨hx k hk,λhf=>hf⟩
def bP (w:World):XS:=λk=>k<w.heap.size
def Kp.ext {a:World} (h:Kp (bP a) a b):Ext a b:=⟨h.os,h.tape,h.output,h.size,λk hk _=>h.block k hk⟩
def Ext.bP {a:World} (h:Ext a b):Kp (bP a) a b:=h.kp λ_ hk=>hk
inductive Ex where
 |t (n:Nat)
 |c (v:Value)
 |s (b off n:Nat)
 |k (b off:Nat)
def yz (v:Value) (off n:Nat):Value:=.agg ((v.cells.toList.drop off).take n).toArray
def cellOf (v:Value) (i:Nat):Value:=v.cells.toList.getD i undef
def Ex.ev (env:Env):Ex->Value
 | .t n=>env n
 | .c v=>v
 | .s b off n=>yz (env b) off n
 | .k b off=>cellOf (env b) off
def Ex.Wz:Ex->Nat->Bool
 | .t n,d=>n==d
 | .c _,_=>false
 | .s b _ _,d=>b==d
 | .k b _,d=>b==d
def look {α:Type} :List (Nat×α)->Nat->Option α
 |[],_=>none
 |(s,e)::r,t=>if s=t then some e else look r t
def Ga (env:Env) (ss:List (Nat×Ex)):Operand->Value
 | .tmp t=>match look ss t with
  |some e=>e.ev env
  |none=>env t
 | .const v=>v
 | .global g=>.pointer (some ⟨g,0,none⟩)
 | .func f=>.func (.func f) #[] #[]
def WB (op:Op) (ty:TypeId):Oper:=⟨none,op,ty, "",#[],none⟩
def vS (s:Sem Value):Sem Next:=do pure (.value (<-s))
def Iv (f:Value) (args:Array Value):Sem Next:=do let d<-lI f args;invoke d.target d.args
def xG (ρ:Operand->Value) (a:Array Operand):Array Value:=(a.toList.map ρ).toArray
def acx (ρ:Operand->Value) (a:Array (Nat×Operand)):Array (Nat×Value):=(a.toList.map λp=>(p.1,ρ p.2)).toArray
def P6 (ρ:Operand->Value) (op:Op) (ty:TypeId):Sem Next:=match op with
 | .call ⟨.value (.func f),args,_⟩=>callFunc f (xG ρ args)
 | .call ⟨.value (.tmp t),args,_⟩=>Iv (ρ (.tmp t)) (xG ρ args)
 | .call ⟨.builtin .len,args,ts⟩=>vS (Builtin.len_ ts ty (xG ρ args))
 | .call ⟨.builtin .cap,args,ts⟩=>vS (Builtin.cap_ ts ty (xG ρ args))
 | .call ⟨.builtin .min,args,ts⟩=>vS (Builtin.min_ ts ty (xG ρ args))
 | .call ⟨.builtin .max,args,ts⟩=>vS (Builtin.max_ ts ty (xG ρ args))
 | .call ⟨.builtin .append,args,ts⟩=>vS (Builtin.append_ ts ty (xG ρ args))
 | .call ⟨.builtin .copy,args,ts⟩=>vS (Builtin.copy_ ts ty (xG ρ args))
 | .call ⟨.builtin .delete,args,ts⟩=>vS (Builtin.delete_ ts ty (xG ρ args))
 | .call ⟨.builtin .clear,args,ts⟩=>vS (Builtin.clear_ ts ty (xG ρ args))
 | .call ⟨.builtin .panic,args,_⟩=>vS (Instr.panic ((xG ρ args).toList.getD 0 .nilIface))
 | .build t ps=>vS (Instr.build t (acx ρ ps))
 | .buildSlice t n ps=>vS (Instr.buildSlice t n (acx ρ ps))
 | .makeFunc fn a b=>vS (Instr.makeFunc fn (xG ρ a) (xG ρ b))
 |op=>execOp ρ (WB op ty)
theorem Sd (ρ:Operand->Value) (a:Array Operand):xG ρ a=a.map ρ:=by
 unfold xG;rw[<-nQ]
theorem aj4 (ρ:Operand->Value) (a:Array (Nat×Operand)):acx ρ a=a.map λp=>(p.1,ρ p.2):=by
 unfold acx;rw[<-nQ]
theorem afg (ρ:Operand->Value) (hρ: ∀f,ρ (.func f)= .func (.func f) #[] #[]) (op:Op) (ty:TypeId):P6 ρ op ty=execOp ρ (WB op ty):=by
 unfold P6;split<;>first
  |rfl
  |(simp[execOp,WB,resolve,invoke,lI,Sd,aj4,vS,builtin,Iv,hρ];done)
def bM (l:List Value) (off:Nat) (vs:List Value):List Value:=l.take off++vs++l.drop (off+vs.length)
def Rd (P:Program) (X:XS) (w:World) (s:Sem Next) (v:Value):Prop:= ∀wa,Kp X w wa->s.run P wa= .ok (.value v) wa
def oV (v:Value) (want:Bool):Bool:=match v with
 | .bool b=>b==want
 |_=>false
def dE:Value->Bool
 | .agg _=>true
 |_=>false
def one (v:Value):Bool:=match v with
 | .agg _| .tuple _=>false
 |_=>true
inductive TI where
 |zY (b:Nat)
 |set (d:Nat) (e:Ex)
 |box (b n:Nat) (e:Ex)
 |put (b off n:Nat) (e:Ex)
 |Cb (b:Nat) (e:Ex)
 |WC (b off:Nat) (e:Ex)
 |fill (b n:Nat) (e:Ex)
 |rd (d:Nat) (op:Op) (ty:TypeId) (ss:List (Nat×Ex))
 |DU (d:Option Nat) (op:Op) (ty:TypeId) (ss:List (Nat×Ex)) (m:Bool)
 |WD (g:Nat) (want:Bool) (d:Nat) (e:Ex)
 |grd (g:Nat) (want:Bool) (d:Nat) (op:Op) (ty:TypeId) (ss:List (Nat×Ex))
 |WE (g:Nat) (want:Bool) (d:Option Nat) (op:Op) (ty:TypeId) (ss:List (Nat×Ex)) (m:Bool)
inductive T where
 |BO (l:List TI)
 |seq (a b:T)
 |ite (e:Ex) (a b:T)
 |alt (a b:T)
 |fv (id:Nat) (a:T)
 |loop (M C:List Nat) (a:T)
 |exit (id:Nat)
 |ret
 |skip
def grow (X:XS) (w w':World):XS:=λk=>X k\/(w.heap.size<=k/\k<w'.heap.size)
def Step (m:Bool) (X:XS) (w w':World):Prop:=if m then Fr X w w' else Ext w w'
variable {w w' : World} {m : Bool}
theorem Step.fr (h:Step m X w w'):Fr X w w':=by
 unfold Step at h;split at h
 ·exact h
 ·exact h.fr X
theorem Step.fc (h:Ext w w'):Step m X w w':=by
 unfold Step;split
 ·exact h.fr X
 omega
def jV (P:Program) (m:Bool) (X:XS) (w:World) (next:Value->World->XS->Prop) (jg:List PanicEntry->World->XS->Prop):Result Next->Prop
 | .ok (.value v) w'=>Step m X w w'/\next v w' (grow X w w')
 | .ok .skip w'=>Step m X w w'/\next undef w' (grow X w w')
 | .ok (.enter f args) w'=>w'=w/\Calls P f args w fun
   | .returned v,mJ=>Step m X w mJ/\next v mJ (grow X w mJ)
   | .panicked ch,mJ=>Step m X w mJ/\jg ch mJ (grow X w mJ)
   | .outgrown,_=>False
 | .halt (.panic v) w'=>Step m X w w'/\jg [{ v,recovered:=false }] w' (grow X w w')
 |_=>False
def jh (b:Bool) (N:Prop):Prop:=match b with
 |true=>N
 |false=>False
theorem dM {b:Bool} {N:Prop} :jh b N↔b=true/\N:=by cases b<;>simp[jh]
def nB (v:Value) (A B:Prop):Prop:=match v with
 | .bool t=>(t=true->A)/\(t=false->B)
 |_=>False
def WG (P:Program) (jg:List PanicEntry->Env->World->XS->Prop) (next:Env->World->XS->Prop) (env:Env) (w:World) (X:XS):TI->Prop
 | .zY b=>jh (dE (env b)) (next env w X)
 | .set d e=>next (jX env d (e.ev env)) w X
 | .box b n e=>jh ((e.ev env).cells.toList.length==n) (next (jX env b (.agg (e.ev env).cells)) w X)
 | .put b off n e=>jh ((e.ev env).cells.toList.length==n) (jh ((e.ev env).cells.toList.all one)
   (next (jX env b (.agg (bM (env b).cells.toList off (e.ev env).cells.toList).toArray)) w X))
 | .Cb b e=>jh (one (e.ev env)) (next (jX env b (.agg #[e.ev env])) w X)
 | .WC b off e=>jh (one (e.ev env)) (next (jX env b (.agg (bM (env b).cells.toList off [e.ev env]).toArray)) w X)
 | .fill b n e=>jh ((e.ev env).cells.toList.length==n) (jh ((e.ev env).cells.toList.all one) (next (jX env b (.agg (e.ev env).cells)) w X))
 | .rd d op ty ss=> ∃v,Rd P X w (P6 (Ga env ss) op ty) v/\next (jX env d v) w X
 | .DU d op ty ss m=> ∀wa,Kp X w wa->
   jV P m X wa (λv w' X'=>next (KE env d v) w' X') (λch w' X'=>jg ch env w' X') ((P6 (Ga env ss) op ty).run P wa)
 | .WD g want d e=>next (jX env d (if oV (env g) want then e.ev env else undef)) w X
 | .grd g want d op ty ss=> ∃v,(oV (env g) want=true->Rd P X w (P6 (Ga env ss) op ty) v)/\(oV (env g) want=false->v=undef)/\
   next (jX env d v) w X
 | .WE g want d op ty ss m=>
   (oV (env g) want=true-> ∀wa,Kp X w wa->
    jV P m X wa (λv w' X'=>next (KE env d v) w' X') (λch w' X'=>jg ch env w' X') ((P6 (Ga env ss) op ty).run P wa))/\
   (oV (env g) want=false->next (KE env d undef) w X)
def ij (P:Program) (jg:List PanicEntry->Env->World->XS->Prop) (next:Env->World->XS->Prop):List TI->Env->World->XS->Prop
 |[],env,w,X=>next env w X
 |i::l,env,w,X=>WG P jg (ij P jg next l) env w X i
abbrev lY:=Exit->Env->World->XS->Prop
def lY.Gb (next:Env->World->XS->Prop) (K:lY):lY
 | .normal,e,w,X=>next e w X
 |ex,e,w,X=>K ex e w X
def lY.fv (id:Nat) (K:lY):lY
 | .exit i,e,w,X=>if i=id then K .normal e w X else K (.exit i) e w X
 |ex,e,w,X=>K ex e w X
def yP (M:List Nat) (s:Nat):Bool:=match M with
 |[]=>false
 |x::r=>x==s||yP r s
variable {s : Nat}
theorem As: ∀{M:List Nat},yP M s=true↔s∈M
 |[]=>by simp[yP]
 |x::r=>by
  simp only[yP,o9,beq_iff_eq,As (M:=r),il]
  grind
def merge (M:List Nat) (e env:Env):Env:=λs=>match yP M s with
 |true=>e s
 |false=>env s
def den (P:Program):T->lY->Env->World->XS->Prop
 | .BO l,K,env,w,X=>ij P (λch=>K (.panic ch)) (λe w X=>K .normal e w X) l env w X
 | .seq a b,K,env,w,X=>den P a (lY.Gb (λe w X=>den P b K e w X) K) env w X
 | .ite e a b,K,env,w,X=>nB (e.ev env) (den P a K env w X) (den P b K env w X)
 | .alt a b,K,env,w,X=>And (den P a K env w X) (den P b K env w X)
 | .fv id a,K,env,w,X=>den P a (lY.fv id K) env w X
 | .loop M C a,K,env,w,X=> ∃J:Nat->List Value->World->XS->Prop,(∃n,J n (C.map env) w X)/\
   ∀n (e:Env) w' X',(∀k,X k->X' k)->J n (C.map e) w' X'->den P a (lY.Gb (λe' mJ wZ=> ∃m,m<n/\J m (C.map e') mJ wZ) K) (merge M e env) w' X'
 | .exit id,K,env,w,X=>K (.exit id) env w X
 | .ret,K,env,w,X=>K .ret env w X
 | .skip,K,env,w,X=>K .normal env w X
structure gA where
 n:Nat
 boxes:List (Nat×Nat)
 TA:List Nat
 rj:List Nat
 mat:List Nat
 car:List Nat
def gA.km (pl:gA) (s:Nat):Bool:=pl.rj.contains s&&decide (s<pl.n)&&(look pl.boxes s).isNone&&!pl.TA.contains s
def gA.nR (pl:gA) (d:Nat):Bool:=decide (d<pl.n)&&(look pl.boxes d).isNone&&!pl.TA.contains d
structure Ptr where
 s:Nat
 b:Nat
 off:Nat
 g:Option (Nat×Bool)
structure CS where
 sig:List (Nat×Ex)
 zZ:List Ptr
 live:List Nat
def CS.start:CS:=⟨[],[],[]⟩
def valOf (pl:gA) (cs:CS):Operand->Option Ex
 | .tmp t=>if pl.km t then some (.t t)else look cs.sig t
 | .const v=>some (.c v)
 | .global g=>some (.c (.pointer (some ⟨g,0,none⟩)))
 | .func f=>some (.c (.func (.func f) #[] #[]))
def HF (og:Option (Nat×Bool)):List Ptr->Nat->Option (Nat×Nat)
 |[],_=>none
 |p::r,t=>if p.s=t then(if p.g.isNone||p.g==og then some (p.b,p.off)else none)else HF og r t
def xa (pl:gA) (cs:CS) (og:Option (Nat×Bool)):Operand->Option (Nat×Nat×List Nat)
 | .tmp t=>match look pl.boxes t with
  |some _=>some (t,0,if cs.live.contains t then [] else [t])
  |none=>if pl.TA.contains t then(HF og cs.zZ t).map λ(b,off)=>(b,off,[])else none
 |_=>none
def CS.kill (cs:CS) (d:Nat):CS:=
 ⟨cs.sig.filter λp=>p.1 !=d&&!p.2.Wz d,cs.zZ.filter λp=>p.b !=d&&p.s !=d&&(match p.g with|some (g,_)=>g !=d|none=>true),cs.live⟩
def CS.MS (cs:CS) (b:Nat):CS:=⟨cs.sig.filter λp=>!p.2.Wz b,cs.zZ,cs.live⟩
def CS.bind (cs:CS) (pl:gA) (d:Nat):CS:=let c:=cs.kill d;if pl.km d then c else { c with sig:=(d,.t d)::c.sig }
def CS.note (cs:CS) (d:Nat) (e:Ex):CS:= { cs with sig:=(d,e)::cs.sig.filter (λp=>p.1 !=d),zZ:=cs.zZ.filter λp=>p.s !=d }
def CS.uf (cs:CS) (d b off:Nat) (g:Option (Nat×Bool)):CS:=
 { cs with sig:=cs.sig.filter (λp=>p.1 !=d),zZ:=⟨d,b,off,g⟩::(cs.zZ.filter λp=>p.s !=d) }
def CS.mC (cs:CS) (l:List Nat):CS:= { cs with live:=l++cs.live }
def sH (pl:gA) (cs:CS) (d:Nat) (e:Ex):List TI×CS:=
 if pl.km d||pl.mat.contains d then([.set d e],cs.bind pl d)else([],cs.note d e)
def fieldInfo (P:Program) (S f:Nat):Option (Nat×Nat):=
 match P.underlying S with
 |some (.struct fs)=>(fs[f]?).bind λx=>(P.info? x.type).map λi=>(x.offset,i.size)
 |_=>none
def subst (pl:gA) (cs:CS):List Operand->Option (List (Nat×Ex))
 |[]=>some []
 | .tmp t::r=>match valOf pl cs (.tmp t),subst pl cs r with
  |some e,some ss=>some (match e with
   | .t n=>if n=t then ss else(t,e)::ss
   |_=>(t,e)::ss)
  |_,_=>none
 |_::r=>subst pl cs r
def WH (P:Program) (t:Nat):Bool:=match P.underlying t with
 |some (.slice _)=>true
 |_=>false
def apD (P:Program):Op->Bool
 | .pick .. | .nilCheck _| .binOp .. | .unOp .. | .fieldAddr .. | .field .. | .indexAddr .. | .index .. | .extract .. | .slice .. | .build .. | .makeFunc ..
 | .makeInterface .. | .load .. | .lookup .. | .typeAssert .. | .move _| .assign _=>true
 | .convert s d _=>!WH P s&&!WH P d
 | .call { callee:=.builtin b,.. } =>match b with
  | .len| .cap| .min| .max=>true
  |_=>false
 |_=>false
structure CR where
 fl:Bool
 nd:List Nat
 l:List TI
 cs:CS
 rb:List Nat
 sb:List Nat
def Iw:Op->Bool
 | .select .. =>false
 |_=>true
def Gc (P:Program) (pl:gA) (cs:CS) (m:Bool) (o:Oper):Option CR:=
 match subst pl cs o.op.operands.toList with
 |none=>none
 |some ss=>if !Iw o.op then none else
  match o.dst with
  |some d=>if !pl.nR d then none else
   if apD P o.op then some ⟨true,[],[.rd d o.op o.type ss],cs.bind pl d,[],[]⟩else some ⟨false,[],[.DU (some d) o.op o.type ss m],cs.bind pl d,[],[]⟩
  |none=>some ⟨false,[],[.DU none o.op o.type ss m],cs,[],[]⟩
def lv (P:Program) (t:Nat):Option (Bool×Nat):=
 match P.underlying t,P.info? t with
 |some d,some i=>some ((match d with| .struct _| .array _ _=>true|_=>false),i.size)
 |_,_=>none
def WI (P:Program) (pl:gA) (cs:CS) (sz:Nat) (t:Nat) (e:Ex) (d:Nat):Option CR:=
 match lv P t with
 |some (ag,s)=>if decide (d<pl.n)&&s==sz then some ⟨false,[],[if !ag&&s==1 then .Cb d e else .box d sz e],(cs.kill d).mC [d],[],[]⟩else none
 |none=>none
def Eb (P:Program) (pl:gA) (cs:CS) (og:Option (Nat×Bool)) (m:Bool) (o:Oper):Option CR:=
 match o.op with
 | .move x| .assign x=>match o.dst,valOf pl cs x with
  |some d,some e=>if pl.nR d then(let r:=sH pl cs d e;some ⟨true,[],r.1,r.2,[],[]⟩)else none
  |_,_=>none
 | .box t x=>match o.dst with
  |some d=>match look pl.boxes d with
   |some sz=>match valOf pl cs x with
    |some e=>WI P pl cs sz t e d
    |none=>none
   |none=>Gc P pl cs m o
  |none=>none
 | .alloc t=>match o.dst with
  |some d=>match look pl.boxes d with
   |some sz=>match(P.info? t).bind (·.zero)with
    |some z=>WI P pl cs sz t (.c z) d
    |none=>none
   |none=>Gc P pl cs m o
  |none=>none
 | .fieldAddr S x f=>match xa pl cs og x with
  |some (b,off,nd)=>match o.dst,fieldInfo P S f with
   |some d,some (fo,sz)=>if pl.TA.contains d&&decide (d<pl.n)&&(look pl.boxes d).isNone&&sz !=0 then
     some ⟨true,nd,[],(cs.mC nd).uf d b (off+fo) og,[],[]⟩else none
   |_,_=>none
  |none=>Gc P pl cs m o
 | .load t x=>match xa pl cs og x with
  |some (b,off,nd)=>match o.dst,lv P t,look pl.boxes b with
   |some d,some (ag,sz),some bs=>if pl.nR d&&decide (off+sz<=bs)&&(ag||sz==1)then
     (let r:=sH pl (cs.mC nd) d (if ag then .s b off sz else .k b off);some ⟨true,nd,r.1,r.2,[b],[]⟩)else none
   |_,_,_=>none
  |none=>Gc P pl cs m o
 | .store t x v=>match xa pl cs og x with
  |some (b,off,nd)=>match o.dst,valOf pl cs v,lv P t,look pl.boxes b with
   |none,some e,some (ag,sz),some bs=>if decide (off+sz<=bs)then
     some ⟨false,nd,[if !ag&&sz==1 then .WC b off e else if off==0&&sz==bs then .fill b sz e else .put b off sz e],(cs.mC nd).MS b,[],[b]⟩else none
   |_,_,_,_=>none
  |none=>Gc P pl cs m o
 |_=>Gc P pl cs m o
def ag0:Op->Bool
 | .fieldAddr .. =>true
 |_=>false
def qH (g:Nat) (want:Bool) (op:Op) (r:CR):Option CR:=
 match r.fl,r.l with
 |true,[]=>if ag0 op then some r else none
 |true,[.set d e]=>if d=g then none else some { r with l:=[.WD g want d e] }
 |true,[.rd d op ty ss]=>if d=g then none else some { r with l:=[.grd g want d op ty ss] }
 |false,[.DU d op ty ss m]=>if d=some g then none else some { r with l:=[.WE g want d op ty ss m] }
 |_,_=>none
def BP (P:Program) (pl:gA) (cs:CS) (ops:Array Oper) (m:Bool) (o:Oper):Option CR:=
 match o.guard with
 |none=>Eb P pl cs none m o
 |some (j,want)=>match(ops[j]?).bind (·.dst)with
  |none=>none
  |some gs=>match valOf pl cs (.tmp gs)with
   |some (.t g)=>(Eb P pl cs (some (g,want)) m o).bind (qH g want o.op)
   |_=>none
def CR.all (r:CR):List TI:=r.nd.map .zY++r.l
def Ix (P:Program) (pl:gA) (ops:Array Oper):List Oper->CS->Option (List TI)
 |[],_=>some []
 |o::r,cs=>match BP P pl cs ops true o with
  |some x=>(Ix P pl ops r x.cs).map (x.all++ ·)
  |none=>none
def waits (o:Oper) (i:Nat):Bool:=o.after.any λe=>vH .any e&&e.on==i
def acy (ops:Array Oper) (bN:Array Bool) (S:List Nat) (j:Nat):Bool:=!bN.getD j true&&match ops[j]? with
 |some o=>o.after.any λe=>vH .any e&&S.contains e.on
 |none=>false
def G5 (ops:Array Oper) (bN:Array Bool) (i:Nat):List Nat:=(dy ops.size).foldl (λS j=>if acy ops bN S j then j::S else S) [i]
def apE (ops:Array Oper) (j:Nat):List Nat:=
 (dy (j+1)).reverse.foldl (λS k=>if S.contains k then(match ops[k]? with
  |some o=>o.after.toList.foldl (λS e=>if vH .any e&&!S.contains e.on then e.on::S else S) S
  |none=>S)else S) [j]
def CE (o:Oper):Bool:=match o.op with
 | .extract .. =>true
 | .move .. =>true
 |_=>false
def ldX (pl:gA) (o:Oper):Bool:=match o.op with
 | .load _ (.tmp x)=>(look pl.boxes x).isSome
 |_=>false
def TB (o:Oper) (rb:List Nat):Bool:=match o.op with
 | .load _ (.tmp x)=>rb.contains x
 |_=>false
def alx (o:Oper):Bool:=match o.op with
 | .alloc _=>true
 |_=>false
def rl (pl:gA) (ops:Array Oper) (j:Nat):Bool:=
 match ops[j]? with
 |some oj=>(match oj.dst with|some d=>pl.mat.contains (1000000+d)|none=>false)||pl.mat.contains (2000000+j)||((dy ops.size).all λi=>i==j||waits oj i||(match ops[i]? with
  |some oi=>waits oi j||CE oi||ldX pl oi||alx oi
  |none=>true))||(let B:=apE ops j++G5 ops (dh ops.size false) j;(dy ops.size).all λi=>B.contains i||(match ops[i]? with
  |some oi=>CE oi||ldX pl oi||alx oi
  |none=>true))
 |none=>false
def afh (pl:gA) (ops:Array Oper):Nat->Operand->Option Nat
 |0,_=>none
 |n+1,.tmp t=>match look pl.boxes t with
  |some _=>some t
  |none=>match ops.find? (λo=>o.dst==some t)with
   |some o=>(match o.op with
    | .fieldAddr _ x _=>afh pl ops n x
    |_=>none)
   |none=>none
 |_+1,_=>none
def wN (pl:gA) (ops:Array Oper) (o:Oper):List Nat:=match o.op with
 | .store _ x _=>(afh pl ops 6 x).toList
 |_=>[]
def MT (pl:gA) (ops:Array Oper) (bN:Array Bool) (i:Nat) (rb:List Nat):Bool:=
 match ops[i]? with
 |none=>false
 |some oi=>(match oi.dst with
   |some d=>(look pl.boxes d).isNone
   |none=>true)&&(dy ops.size).all λj=>j==i||bN.getD j true||match ops[j]? with
   |some oj=>waits oj i||(oi.apart ops oj&&(CE oi||TB oi rb||!rl pl ops j)&&(wN pl ops oj).all λb=>!rb.contains b)||(G5 ops bN i).contains j
   |none=>true
def Cc (P:Program) (pl:gA) (ops:Array Oper) (cs:CS) (bN:Array Bool):List Nat->Option (Nat×CR)
 |[]=>none
 |i::r=>match(ops[i]?).bind (BP P pl cs ops (rl pl ops i))with
  |some x=>if x.fl&&MT pl ops bN i x.rb then some (i,x)else Cc P pl ops cs bN r
  |none=>Cc P pl ops cs bN r
def Iy (P:Program) (pl:gA) (o:Oper):Option (Nat×Nat×Bool×Value):=match o.guard,o.op,o.dst with
 |none,.alloc t,some d=>match look pl.boxes d,(P.info? t).bind (·.zero),lv P t with
  |some sz,some z,some (ag,s)=>if decide (d<pl.n)&&s==sz then some (d,sz,!ag&&s==1,z)else none
  |_,_,_=>none
 |_,_,_=>none
def AP:Nat×Nat×Bool×Value->TI
 |(d,sz,one,z)=>if one then .Cb d (.c z)else .box d sz (.c z)
def yA (cs:CS) (d:Nat):CS:=(cs.kill d).mC [d]
def acz (l:List Nat) (i:Nat):Bool:=match l with
 |[x]=>x==i
 |_=>false
def ajy (P:Program) (pl:gA) (ops:Array Oper) (bN:Array Bool) (i j:Nat):Option (Nat×Nat×Bool×Value):=
 match(ops[i]?).bind (Iy P pl),(ops[j]?).bind (Iy P pl)with
 |some bi,some bj=>if !(bi.1==bj.1)&&acz (iC .any ops (bN.setIfInBounds i true)) j&&acz (iC .any ops (bN.setIfInBounds j true)) i then some bi else none
 |_,_=>none
def yB (P:Program) (pl:gA) (ops:Array Oper):Nat->Array Bool->CS->Option (List TI)
 |0,bN,_=>if(iC .any ops bN).isEmpty then some [] else none
 |fuel+1,bN,cs=>
  match Cc P pl ops cs bN (iC .any ops bN)with
  |some (i,x)=>(yB P pl ops fuel (bN.setIfInBounds i true) x.cs).map (x.all++ ·)
  |none=>match iC .any ops bN with
   |[i]=>match ops[i]? with
    |some o=>match BP P pl cs ops (rl pl ops i) o with
     |some x=>if x.sb.all λb=>(wN pl ops o).contains b then(yB P pl ops fuel (bN.setIfInBounds i true) x.cs).map (x.all++ ·)else none
     |none=>none
    |none=>none
   |[i,j]=>match ajy P pl ops bN i j with
    |some b=>(yB P pl ops fuel (bN.setIfInBounds i true) (yA cs b.1)).map (AP b:: ·)
    |none=>none
   |_=>none
def Se:List Nat->(Nat->Option T)->Option T
 |[],_=>none
 |i::r,f=>match r with
  |[]=>f i
  |j::r=>match f i,Se (j::r) f with
   |some a,some b=>some (.alt a b)
   |_,_=>none
def CZ (P:Program) (pl:gA) (ops:Array Oper):Nat->Array Bool->CS->Option T
 |0,bN,_=>if(iC .any ops bN).isEmpty then some .skip else none
 |fuel+1,bN,cs=>
  match Cc P pl ops cs bN (iC .any ops bN)with
  |some (i,x)=>(CZ P pl ops fuel (bN.setIfInBounds i true) x.cs).map (.seq (.BO x.all) ·)
  |none=>Se (iC .any ops bN) λi=>match ops[i]? with
   |some o=>match BP P pl cs ops (rl pl ops i) o with
    |some x=>if x.sb.all λb=>(wN pl ops o).contains b then(CZ P pl ops fuel (bN.setIfInBounds i true) x.cs).map (.seq (.BO x.all) ·)else none
    |none=>none
   |none=>none
def TI.KF:TI->List Nat
 | .set d _=>[d]
 | .box b _ _=>[b]
 | .Cb b _=>[b]
 | .rd d _ _ _=>[d]
 | .DU d _ _ _ _=>d.toList
 | .WD _ _ d _=>[d]
 | .grd _ _ d _ _ _=>[d]
 | .WE _ _ d _ _ _ _=>d.toList
 |_=>[]
def pa (l:List TI):List Nat:=l.flatMap TI.KF
def TI.wr:TI->List Nat
 | .zY _=>[]
 | .set d _=>[d]
 | .box b _ _=>[b]
 | .put b _ _ _=>[b]
 | .Cb b _=>[b]
 | .WC b _ _=>[b]
 | .fill b _ _=>[b]
 | .rd d _ _ _=>[d]
 | .DU d _ _ _ _=>d.toList
 | .WD _ _ d _=>[d]
 | .grd _ _ d _ _ _=>[d]
 | .WE _ _ d _ _ _ _=>d.toList
def T.wr:T->List Nat
 | .BO l=>l.flatMap TI.wr
 | .seq a b=>a.wr++b.wr
 | .ite _ a b=>a.wr++b.wr
 | .alt a b=>a.wr++b.wr
 | .fv _ a=>a.wr
 | .loop M _ a=>M++a.wr
 |_=>[]
def T.mk:T->List Nat
 | .BO l=>pa l
 | .seq a b=>a.mk++b.mk
 | .ite _ a b=>a.mk++b.mk
 | .alt a b=>a.mk++b.mk
 | .fv _ a=>a.mk
 | .loop _ _ a=>a.mk
 |_=>[]
def uu:List Nat->List Nat->List Nat
 |[],acc=>acc
 |x::r,acc=>uu r (if acc.contains x then acc else x::acc)
def jR (P:Program) (pl:gA):Code->Option T
 | .skip=>some .skip
 | .region _ ops draw=>if draw then(if P.follows .mixedOrders&&wL ops then(match yB P pl ops ops.size (dh ops.size false) .start with
  |some l=>some (.BO l)
  |none=>CZ P pl ops ops.size (dh ops.size false) .start)else none)else(Ix P pl ops ops.toList .start).map .BO
 | .seq a b=>match jR P pl a,jR P pl b with
  |some x,some y=>some (match x,y with
   | .skip,y=>y
   |x,.skip=>x
   |x,y=>.seq x y)
  |_,_=>none
 | .cond c a b=>match valOf pl .start c,jR P pl a,jR P pl b with
  |some e,some x,some y=>some (.ite e x y)
  |_,_,_=>none
 | .block id a=>(jR P pl a).map (.fv id)
 | .loop a=>(jR P pl a).map λx=>.loop (uu x.wr []) ((uu x.wr []).filter (yP pl.car)) x
 | .exit id=>some (.exit id)
 | .ret=>some .ret
 |_=>none
def EF (P:Program) (pl:gA):List ResultVar->Option (List Ex×List Nat)
 |[]=>some ([],[])
 | .tmp t::r=>if pl.km t then(EF P pl r).map λ(l,n)=>(.t t::l,n)else none
 | .cell a t::r=>match look pl.boxes a,lv P t with
  |some bs,some (ag,sz)=>if decide (sz<=bs)&&(ag||sz==1)then(EF P pl r).map λ(l,n)=>((if ag then .s a 0 sz else .k a 0)::l,a::n)else none
  |_,_=>none
structure FT where
 code:T
 res:List Ex
 live:List Nat
def cF (P:Program) (pl:gA) (fn:Func):Option FT:=
 if fn.ntmps==pl.n then
  match fn.body with
  |some c=>match jR P pl c,EF P pl fn.results.toList with
   |some t,some (r,n)=>some ⟨t,r,n⟩
   |_,_=>none
  |none=>none
 else none
def WJ (l:List Ex) (env:Env):Value:=match l with
 |[e]=>e.ev env
 |l=>.tuple (l.map (·.ev env)).toArray
def OV (ft:FT) (R:Ending->World->Prop):lY
 | .normal,e,w,X| .ret,e,w,X=>jh (ft.live.all λb=>dE (e b)) (∀wa,Kp X w wa->R (.returned (WJ ft.res e)) wa)
 | .panic ch,_,w,X=> ∀wa,Kp X w wa->R (.panicked ch) wa
 |_,_,_,_=>False
def nC (args:Array Value):Env:=λi=>args.toList.getD i undef
variable {P : Program} {ops : Array Oper} {Q : Exit -> Act -> World -> Prop} {a a' : Act} {v : Value} {o oi oj : Oper} {sb sb' : List Nat} {pl : gA} {K : Act -> World -> Prop} {i j : Nat} {L : Prop} {bN : Array Bool}
def eI (k off:Nat):Value:=.pointer (some ⟨k,off,none⟩)
def ZB (pl:gA) (RB:List Nat) (a:Act):XS:=λk=> ∃b n,look pl.boxes b=some n/\ ¬b∈RB/\a.tmps[b]? =some (eI k 0)
def YF (P:Program) (pl:gA) (RB:List Nat) (ops:Array Oper) (o:Oper) (v:Value) (a:Act) (w:World):Prop:=
 (cP o (yielded ops a.tmps)=true/\ ∀wa,Fr (ZB pl RB a) w wa->(execOp a.eval o).run P wa= .ok (.value v) wa)\/(cP o (yielded ops a.tmps)=false/\v=undef)
def rU (pl:gA) (sb:List Nat) (a:Act) (w:World) (a':Act) (w':World):Prop:=
 ∀RB,(∀b,b∈sb-> ¬b∈RB)->Fr (ZB pl RB a) w w'/\ ∀k,k<w.heap.size->ZB pl RB a' k->ZB pl RB a k
theorem YF.rel {RB:List Nat} (h:YF P pl RB ops o v a w) (hx:rU pl sb a w a' w') (hd: ∀b,b∈sb-> ¬b∈RB)
  (he:execOp a'.eval o=execOp a.eval o) (hw:cP o (yielded ops a'.tmps)=cP o (yielded ops a.tmps)):YF P pl RB ops o v a' w':=by
 obtain⟨h1,h2⟩:=hx RB hd;unfold YF at*;rw[he,hw];refine h.imp (λ⟨g1,g2⟩=>⟨g1,λwa ha=>g2 wa ?_⟩) id;exact⟨ha.os.trans h1.os,ha.tape.trans h1.tape,ha.output.trans h1.output,ad h1.size ha.size,
  λk hk hz=>(ha.block k (aw hk h1.size) (λtg=>hz (h2 k hk tg))).trans (h1.block k hk hz)⟩
def z6 (pl:gA) (sb:List Nat) (a:Act) (w w':World):Prop:=
 ∀b n k,look pl.boxes b=some n-> ¬b∈sb->a.tmps[b]? =some (eI k 0)->w'.heap[k]? =w.heap[k]?
def z7 (L:Prop) (pl:gA) (sb:List Nat) (a:Act) (w:World) (a':Act) (w':World):Prop:=(L->rU pl sb a w a' w')/\z6 pl sb a w w'
def Yx (P:Program) (ops:Array Oper) (o:Oper) (v:Value) (a:Act) (w:World):Prop:=
 (cP o (yielded ops a.tmps)=true/\(execOp a.eval o).run P w= .ok (.value v) w)\/(cP o (yielded ops a.tmps)=false/\v=undef)
def YL (P:Program) (pl:gA) (x:Nat) (ops:Array Oper) (o:Oper) (v:Value) (a:Act) (w:World):Prop:=
 (cP o (yielded ops a.tmps)=true/\ ∃k n,look pl.boxes x=some n/\a.tmps[x]? =some (eI k 0)/\ ∀wa:World,wa.heap[k]? =w.heap[k]? ->(execOp a.eval o).run P wa= .ok (.value v) wa)\/
  (cP o (yielded ops a.tmps)=false/\v=undef)
def YF.yx {RB:List Nat} (h:YF P pl RB ops o v a w):Yx P ops o v a w:=h.imp (λ⟨g1,g2⟩=>⟨g1,g2 w (Fr.refl _ w)⟩) id
def YL.yx {x:Nat} (h:YL P pl x ops o v a w):Yx P ops o v a w:=h.imp (λ⟨g1,_,_,_,_,g2⟩=>⟨g1,g2 w rfl⟩) id
def WK (pl:gA) (ops:Array Oper) (oi oj:Oper) (L:Prop) (sb:List Nat) (Y:Act->World->Prop):Prop:=
 ∀a a' w w',z7 L pl sb a w a' w'->execOp a'.eval oi=execOp a.eval oi->cP oi (yielded ops a'.tmps)=cP oi (yielded ops a.tmps)->
  (∀x:Nat,(∀d,oj.dst=some d->d≠x)->a'.tmps[x]? =a.tmps[x]?)->Y a w->Y a' w'
theorem z6.refl (pl:gA) (sb:List Nat) (a:Act) (w:World):z6 pl sb a w w:=λ_ _ _ _ _ _=>rfl
theorem z6.WL {d:Option Nat} (hd: ∀x,d=some x->look pl.boxes x=none) (h:z6 pl sb (a.put d v) w w'):z6 pl sb a w w':=by
 intro b n k hb hn hk;refine h b n k hb hn ?_;cases d with
 |none=>exact hk
 |some x=>
  have cu:x≠b:=λe=>by grind
  simpa [nO,lH cu] using hk
theorem z6.sub (h:z6 pl sb a w w') (hs: ∀b,b∈sb->b∈sb'):z6 pl sb' a w w':=
 λb n k hb hn hk=>h b n k hb (λhm=>hn (hs b hm)) hk
theorem Yx.wpOp (hi:ops[i]? =some o) (hy:Yx P ops o v a w)
 (h:K (a.put o.dst v) w):wpOp P ops Q i K a w:=by
  unfold Go.wpOp;simp only[hi];rcases hy with⟨hw,hv⟩|⟨hw,rfl⟩
  · simp only[hw,if_true,tG,hv,oH];exact .inl h
  grind
theorem WM {RB:List Nat} {d:Option Nat} (hd: ∀x,d=some x->look pl.boxes x=none):ZB pl RB (a.put d v)=ZB pl RB a:=by
 cases d with
 |none=>rfl
 |some x=>
  have hx:=hd x rfl
  funext k
  simp only[ZB,eq_iff_iff];have key: ∀b n,look pl.boxes b=some n->(a.put (some x) v).tmps[b]? =a.tmps[b]? :=λb n hb=>by
   have cu:x≠b:=λe=>by grind
   simp[nO,lH cu]
  constructor<;>rintro⟨b,n,h1,h2,h3⟩<;>refine⟨b,n,h1,h2,?_⟩
  ·grind
  grind
theorem rU.WL {d:Option Nat} (hd: ∀x,d=some x->look pl.boxes x=none) (h:rU pl sb (a.put d v) w (a'.put d v) w'):rU pl sb a w a' w':=by
 intro RB KG;have:=h RB KG
 rwa [WM hd,WM hd] at this
theorem rU.refl (pl:gA) (sb:List Nat) (a:Act) (w:World) (d:Option Nat) (v:Value) (hd: ∀x,d=some x->look pl.boxes x=none):rU pl sb a w (a.put d v) w:=by
 intro RB _;rw[WM hd]
 grind [Fr.refl]
theorem afi (hp:CE o=true) {ρ:Operand->Value} {wa:World} (h:(execOp ρ o).run P w= .ok (.value v) w):(execOp ρ o).run P wa= .ok (.value v) wa:=by
 unfold CE at hp;split at hp
 ·rename_i x i ho;simp only[execOp,ho] at h⊢;unfold gB at h⊢;split at h<;>simp_all
  all_goals (split at h<;>simp_all)
 ·rename_i x ho;simp only[execOp,ho] at h⊢;simp_all
 ·cases hp
theorem YF.pure {RB:List Nat} (h:YF P pl RB ops o v a w) (hp:CE o=true)
  (he:execOp a'.eval o=execOp a.eval o) (hw:cP o (yielded ops a'.tmps)=cP o (yielded ops a.tmps)):YF P pl RB ops o v a' w':=by
 unfold YF at*;rw[he,hw];exact h.imp (λ⟨g1,g2⟩=>⟨g1,λwa _=>afi hp (g2 w (Fr.refl _ _))⟩) id
def wh (P:Program) (pl:gA) (ops:Array Oper) (Q:Exit->Act->World->Prop):Nat->Array Bool->Act->World->Prop
 |0,bN,a,w=>iC .any ops bN=[]/\Q .normal a w
 |fuel+1,bN,a,w=>
  (iC .any ops bN=[]->Q .normal a w)/\
  ∀i∈iC .any ops bN,wpOp P ops Q i (λa' w'=>(∀o,ops[i]? =some o->z7 (rl pl ops i=false) pl (wN pl ops o) a w a' w')/\wh P pl ops Q fuel (bN.setIfInBounds i true) a' w') a w
theorem P7: ∀(fuel:Nat) (bN:Array Bool) (a:Act) (w:World),wh P pl ops Q fuel bN a w->wpAny P .any ops Q fuel bN a w
 |0,_,_,_,h=>h
 |fuel+1,_,_,_,h=>⟨h.1,λi hi=>wpOp_mono (λa' w' h'=>P7 fuel _ a' w' h'.2) (h.2 i hi)⟩
theorem YF.stb {RB:List Nat} (hL:L\/CE oi=true) (hd: ∀b,b∈sb-> ¬b∈RB):WK pl ops oi oj L sb (YF P pl RB ops oi v):=by
 intro a a' w w' hr e2 e3 _ hy;rcases hL with hl|hp
 ·exact hy.rel (hr.1 hl) hd e2 e3
 ·exact hy.pure hp e2 e3
theorem YL.stb {x:Nat} (hx: ∀d,oj.dst=some d->d≠x) (hd: ¬x∈sb):WK pl ops oi oj L sb (YL P pl x ops oi v):=by
 intro a a' w w' hr e2 e3 e4 hy;unfold YL at*;rw[e2,e3,e4 x hx];exact hy.imp (λ⟨g1,k,n,g2,g3,g4⟩=>⟨g1,k,n,g2,g3,λwa hw=>g4 wa (hw.trans (hr.2 x n k g2 hd g3))⟩) id
theorem afj {Y:Act->World->Prop} (hj:ops[j]? =some oj) (KH:oi.apart ops oj=true)
  (hsi: ∀cs b,oi.op≠ .select cs b) (hsj: ∀cs b,oj.op≠ .select cs b) (hdi: ∀x,oi.dst=some x->look pl.boxes x=none) (fQ:WK pl ops oi oj L sb Y)
  (hQ: ∀c a w,Q (.panic c) (a.put oi.dst v) w->Q (.panic c) a w)
  (hy:Y a w) (h:wpOp P ops Q j (λa' w'=>z7 L pl sb (a.put oi.dst v) w a' w'/\K a' w') (a.put oi.dst v) w):
  wpOp P ops Q j (λa' w'=>z7 L pl sb a w a' w'/\Y a' w'/\K (a'.put oi.dst v) w') a w:=by
 obtain⟨h1,h2,h3⟩:=wM KH;have fin: ∀(a0:Act) (w':World) (u:Value),a0.tmps=a.tmps->z7 L pl sb (a.put oi.dst v) w ((a0.put oi.dst v).put oj.dst u) w'->K ((a0.put oi.dst v).put oj.dst u) w'->
   z7 L pl sb a w (a0.put oj.dst u) w'/\Y (a0.put oj.dst u) w'/\K ((a0.put oj.dst u).put oi.dst v) w':=by
  intro a0 w' u h0 hr hk;rw[Act.put_comm a0 v u h2] at hr hk;have jY:z7 L pl sb a w (a0.put oj.dst u) w':=⟨λhl:L=>(hr.1 hl).WL hdi,hr.2.WL hdi⟩;have e1:execOp a0.eval oi=execOp a.eval oi:=by
   have:a0.eval=a.eval:=by funext x;cases x<;>simp[xF,h0]
   rw[this]
  have e2:=(execOp_put oi hsi a0 oj.dst u h3).trans e1;have e3:cP oi (yielded ops (a0.put oj.dst u).tmps)=cP oi (yielded ops a.tmps):=(wanted_put oi a0 oj.dst u h3).trans (by rw[h0]);refine⟨jY,fQ a _ w w' jY e2 e3 (λx hx=>?_) hy,hk⟩;cases hod:oj.dst with
  |none=>simp[nO,h0]
  |some d=>simp[nO,h0,lH (hx d hod)]
 unfold wpOp at*;simp only[hj] at*;rw[wanted_put oj a oi.dst v h1] at h;split
 ·rename_i hw;simp only[hw,if_true] at h;rcases h with h|⟨aoh,aoi⟩;case inr=>exact .inr ⟨by unfold Oper.asks at*;rw[execOp_put oj hsj a oi.dst v h1] at aoh;omega,aoi⟩
  refine .inl ?_;unfold tG at*;rw[execOp_put oj hsj a oi.dst v h1] at h;generalize (execOp a.eval oj).run P w=r at*;cases r with
  |ok n w'=>
   cases n<;>simp only[oH] at h⊢
   case value u=>exact fin a w' u rfl h.1 h.2
   case skip=>exact fin a w' undef rfl h.1 h.2
   case defer d=>
    have e:({ a.put oi.dst v with defers:=d::(a.put oi.dst v).defers } :Act)=({ a with defers:=d::a.defers } :Act).put oi.dst v:=Act.put_defers a oi.dst v d;rw[e] at h;exact fin { a with defers:=d::a.defers } w' undef rfl h.1 h.2
   case enter f args=>
    refine Calls.mono h λe mJ he=>?_;cases e with
    |returned u=>exact fin a mJ u rfl he.1 he.2
    |panicked c=>exact hQ _ _ _ he
    |outgrown=>exact he
   case row row args=>exact Rows.mono h λu mJ he=>fin a mJ u rfl he.1 he.2
  |halt x w'=>
   cases x<;>simp only[oH] at h⊢
   case panic u=>exact hQ _ _ _ h
 ·rename_i hw;simp only[hw] at h;exact fin a w undef rfl h.1 h.2
theorem TC:waits o i=true↔ ∃e∈o.after,vH .any e=true/\e.on=i:=by
 unfold waits;rw[yO];simp
theorem TD: ∀j,j∈G5 ops bN i->j=i\/(bN.getD j true=false/\ ∃oj k,ops[j]? =some oj/\waits oj k=true/\k∈G5 ops bN i):=by
 unfold G5;have key: ∀(l:List Nat) (S:List Nat),(∀j,j∈S->j=i\/(bN.getD j true=false/\ ∃oj k,ops[j]? =some oj/\waits oj k=true/\k∈S))->
   ∀j,j∈l.foldl (λS j=>if acy ops bN S j then j::S else S) S->j=i\/(bN.getD j true=false/\ ∃oj k,ops[j]? =some oj/\waits oj k=true/\k∈l.foldl (λS j=>if acy ops bN S j then j::S else S) S):=by
  intro l
  induction l with
  |nil=>intro S hS j hj;exact hS j hj
  |cons x l ih=>
   intro S hS;rw[List.foldl_cons];refine ih _ ?_;split
   ·rename_i hc;simp only[acy,aA,de] at hc;obtain⟨h1,h2⟩:=hc;intro j hj;rcases List.mem_cons.1 hj with rfl|hj
    ·right;cases ho:ops[j]? with
     |none=>simp[ho] at h2
     |some o=>
      simp only[ho,yO,aA,wW] at h2;obtain⟨e,he,hb,hm⟩:=h2;exact⟨h1,o,e.on,rfl,TC.2 ⟨e,he,hb,rfl⟩,bG _ hm⟩
    ·rcases hS j hj with h|⟨h,oj,k,h3,h4,h5⟩
     ·omega
     ·exact .inr ⟨h,oj,k,h3,h4,bG _ h5⟩
   omega
 exact key _ _ λj hj=>.inl (by simpa using hj)
theorem KI {Y:Act->World->Prop} (P8: ∀a w,Y a w->Yx P ops oi v a w) (hi:ops[i]? =some oi) (DA: ∀(j:Nat) (o:Oper) cs b,ops[j]? =some o->o.op≠ .select cs b)
  (hdi: ∀x,oi.dst=some x->look pl.boxes x=none) (hQ: ∀c a w,Q (.panic c) (a.put oi.dst v) w->Q (.panic c) a w):
  ∀(fuel:Nat) (bN:Array Bool) (a:Act) (w:World) (S:Nat->Prop),S i->
   (∀j,S j->j=i\/(bN.getD j true=false/\ ∃oj k,ops[j]? =some oj/\waits oj k=true/\S k))->
   (∀j oj,ops[j]? =some oj->j≠i->bN.getD j true=false-> ¬S j->oi.apart ops oj=true/\WK pl ops oi oj (rl pl ops j=false) (wN pl ops oj) Y)->
   i∈iC .any ops bN->Y a w->
   wh P pl ops Q fuel (bN.setIfInBounds i true) (a.put oi.dst v) w->wh P pl ops Q (fuel+1) bN a w:=by
 intro fuel
 induction fuel with
 |zero=>
  intro bN a w S _ hS _ hr hy H;refine⟨λh=>(by rw[h] at hr;cases hr),λj hj=>?_⟩;by_cases EG:j=i
  ·subst EG;exact(P8 _ _ hy).wpOp hi ⟨λ_ _=>⟨λ_=>rU.refl pl _ a w _ _ hdi,z6.refl _ _ _ _⟩,H⟩
  ·have:=ready_mono hj EG;rw[H.1] at this;cases this
 |succ fuel ih=>
  intro bN a w S hSi hS ajz hr hy H;refine⟨λh=>(by rw[h] at hr;cases hr),λj hj=>?_⟩;by_cases EG:j=i
  ·subst EG;exact(P8 _ _ hy).wpOp hi ⟨λ_ _=>⟨λ_=>rU.refl pl _ a w _ _ hdi,z6.refl _ _ _ _⟩,H⟩
  ·have h1:=H.2 j (ready_mono hj EG);obtain⟨apF,oj,EH,Sf⟩:=mem_ready.1 hj;have aly: ¬S j:=by
    intro hjS;rcases hS j hjS with h|⟨_,oj',k,alz,hwt,hkS⟩
    ·omega
    ·rw[EH] at alz;cases alz;obtain⟨e,he,hb,heq⟩:=TC.1 hwt;have h1:=Sf e he hb;rw[heq] at h1;have h0:bN.getD k true=false:=by
      rcases hS k hkS with h|h
      ·subst h;exact(mem_ready.1 hr).1
      ·exact h.1
     rcases Nat.lt_or_ge k bN.size with h'|h'
     ·simp[h'] at h0 h1;rw[h0] at h1;cases h1
     ·simp[qu h'] at h1
   obtain⟨KH,apG⟩:=ajz j oj EH EG apF aly;have KJ:=wpOp_mono (K':=λa' w'=>z7 (rl pl ops j=false) pl (wN pl ops oj) (a.put oi.dst v) w a' w'/\wh P pl ops Q fuel ((bN.setIfInBounds i true).setIfInBounds j true) a' w')
    (λa' w' h'=>⟨h'.1 oj EH,h'.2⟩) h1
   have h2:=afj EH KH (λcs b=>DA i oi cs b hi) (λcs b=>DA j oj cs b EH) hdi apG hQ hy KJ;have alA: ∀k ok,ops[k]? =some ok->k≠i->(bN.setIfInBounds j true).getD k true=false-> ¬S k->
     oi.apart ops ok=true/\WK pl ops oi ok (rl pl ops k=false) (wN pl ops ok) Y:=λk ok hk hki EI pc=>by
    refine ajz k ok hk hki ?_ pc;by_cases KK:j=k
    ·subst KK;omega
    ·rw[getD_set_ne true KK] at EI;omega
   have hS': ∀k,S k->k=i\/((bN.setIfInBounds j true).getD k true=false/\ ∃oj k',ops[k]? =some oj/\waits oj k'=true/\S k'):=λk hk=>by
    rcases hS k hk with h|⟨h,h2⟩
    ·omega
    ·exact .inr ⟨by rw[getD_set_ne true (λe=>aly (by rw[e];exact hk))];exact h,h2⟩
   refine wpOp_mono (λa' w' h3=>⟨λo ho=>?_,ih (bN.setIfInBounds j true) a' w' S hSi hS' alA (ready_mono hr (Ne.symm EG)) h3.2.1 ?_⟩) h2
   ·rw[EH] at ho;injection ho with ho;subst ho;exact h3.1
   rw[uq _ _ EG];exact h3.2.2
theorem TE {RB:List Nat} (hi:ops[i]? =some oi) (h:MT pl ops bN i RB=true): ∀x,oi.dst=some x->look pl.boxes x=none:=by
 simp only[MT,hi,aA] at h;intro x hx;have:=h.1;rw[hx] at this;simpa using this
theorem P9 {RB:List Nat} (hi:ops[i]? =some oi) (h:MT pl ops bN i RB=true) (j:Nat) (oj:Oper)
  (hj:ops[j]? =some oj) (cu:j≠i) (EI:bN.getD j true=false) (pc: ¬j∈G5 ops bN i) (hnw:waits oj i=false):
  oi.apart ops oj=true/\(rl pl ops j=false\/CE oi=true\/TB oi RB=true)/\ ∀b,b∈wN pl ops oj-> ¬b∈RB:=by
 simp only[MT,hi,aA,lG,List.mem_range] at h;have h1:=h.2 j (Array.getElem?_eq_some_iff.1 hj).1;simp only[hj,o9,beq_iff_eq,cu,false_or,EI,aW,hnw,aA,de,lG,wW,pc,or_false] at h1;exact⟨h1.1.1,h1.1.2.elim (λh=>.inr h) .inl,λb hb=>by have:=h1.2 b hb;simpa using this⟩
def DV (env:Env):Option (Nat×Bool)->Prop
 |none=>True
 |some (g,want)=>oV (env g) want=true
structure Bk where
 ds:List Deferred
 pins:List (Nat×Value)
structure fH (pl:gA) (ds:Bk) (cs:CS) (env:Env) (X:XS) (w0:World) (a:Act) (w:World):Prop where
 size:a.tmps.size=pl.n
 defers:a.defers=ds.ds
 Au: ∀p,p∈ds.pins->a.tmps[p.1]? =some p.2/\((∃n k,look pl.boxes p.1=some n/\p.2=eI k 0)\/pl.km p.1=true)
 ext:Kp X w0 w
 xH: ∀k,X k->k<w.heap.size
 rj: ∀s,pl.km s=true->a.tmps[s]? =some (env s)
 sig: ∀p,p∈cs.sig->a.tmps[p.1]? =some (p.2.ev env)
 box: ∀b n,look pl.boxes b=some n-> ∀cells,env b= .agg cells-> ∃k ty,a.tmps[b]? =some (eI k 0)/\w.heap[k]? =some (.cells cells ty (0,0))/\cells.size=n/\ ¬X k
 inj: ∀b b' n n',look pl.boxes b=some n->look pl.boxes b'=some n'->dE (env b)=true->dE (env b')=true-> ∀k,a.tmps[b]? =some (eI k 0)->a.tmps[b']? =some (eI k 0)->b=b'
 conv: ∀b n,look pl.boxes b=some n-> ∀k,a.tmps[b]? =some (eI k 0)->dE (env b)=true
 live: ∀b,b∈cs.live->(∃n,look pl.boxes b=some n)/\dE (env b)=true
 ptr: ∀p,p∈cs.zZ->(∃n,look pl.boxes p.b=some n)/\(DV env p.g->dE (env p.b)=true/\ ∃k,a.tmps[p.b]? =some (eI k 0)/\a.tmps[p.s]? =some (eI k p.off))
theorem rQ (a:Act) (d:Nat) (v:Value) (s:Nat) (hd:d<a.tmps.size):(a.put (some d) v).tmps[s]? =if s=d then some v else a.tmps[s]? :=by
 simp only[nO,dR]
 grind
theorem gv (a:Act) (d:Nat) (v:Value) (s:Nat) (h:s≠d):(a.put (some d) v).tmps[s]? =a.tmps[s]? :=by
 simp only[nO,dR]
 grind
theorem mU (e:Env) (d:Nat) (v:Value):jX e d v d=v:=by simp[jX]
variable {d : Nat}
theorem iR (e:Env) (v:Value) (h:s≠d):jX e d v s=e s:=by grind [jX]
variable {e : Ex}
theorem WN (h:e.Wz d=false) (env:Env) (v:Value):e.ev (jX env d v)=e.ev env:=by
 cases e<;>simp only[Ex.Wz,beq_eq_false_iff_ne,ne_eq] at h<;>simp[Ex.ev,iR,h]
theorem wH:dE v=true↔ ∃c,v= .agg c:=by
 cases v<;>simp[dE]
variable {ds : Bk} {cs : CS} {env : Env} {w0 eH : World} {n off sz t : Nat} {ss : List (Nat × Ex)} {op : Op} {X' : XS} {nd : List Nat} {next : Env -> World -> XS -> Prop} {jg : List PanicEntry -> Env -> World -> XS -> Prop} {cells zu : Array Value} {ty : TypeId}
theorem tH (h:pl.km s=true):s<pl.n/\look pl.boxes s=none/\pl.TA.contains s=false:=by
 simp only[gA.km,aA,decide_eq_true_eq,oM,de] at h
 grind
theorem zS (h:pl.nR s=true):s<pl.n/\look pl.boxes s=none/\pl.TA.contains s=false:=by
 simp only[gA.nR,aA,decide_eq_true_eq,oM,de] at h
 grind
theorem Cd {α:Type} {l:List (Nat×α)} {e:α} (h:look l t=some e):(t,e)∈l:=by
 induction l with
 |nil=>cases h
 |cons p r ih=>
  grind [look]
theorem fH.eval (h:fH pl ds cs env X w0 a w) {x:Operand} (hv:valOf pl cs x=some e):a.eval x=e.ev env:=by
 cases x with
 |tmp t=>
  simp only[valOf] at hv;split at hv
  ·rename_i hg;injection hv with hv
   subst hv;simp[xF,h.rj t hg,Ex.ev]
  ·have:=h.sig _ (Cd hv);simp only at this;simp[xF,this]
 |const v=>simp only[valOf,aj] at hv;subst hv;rfl
 |global g=>simp only[valOf,aj] at hv;subst hv;rfl
 |func f=>simp only[valOf,aj] at hv;subst hv;rfl
theorem AQ: ∀{l:List Operand} {ss:List (Nat×Ex)},subst pl cs l=some ss->
  (∀t e,look ss t=some e->valOf pl cs (.tmp t)=some e)/\(∀t,.tmp t∈l->look ss t=none->valOf pl cs (.tmp t)=some (.t t))
 |[],ss,h=>by
  simp only[subst,aj] at h;subst h;exact⟨λt e h=>(by cases h),λt h=>(by cases h)⟩
 |x::r,ss,h=>by
  cases x with
  |tmp t=>
   simp only[subst] at h;cases hv:valOf pl cs (.tmp t)with
   |none=>simp[hv] at h
   |some e=>
    cases hr:subst pl cs r with
    |none=>simp[hv,hr] at h
    |some ss'=>
     obtain⟨i1,i2⟩:=AQ hr;simp only[hv,hr,aj] at h;have gen: ∀e',e=e'->ss=(t,e')::ss'->(∀u e,look ss u=some e->valOf pl cs (.tmp u)=some e)/\(∀u,.tmp u∈(.tmp t::r)->look ss u=none->valOf pl cs (.tmp u)=some (.t u)):=by
      intro e' he hs;subst hs;refine⟨λu e2 hu=>?_,λu hu hn=>?_⟩
      ·simp only[look] at hu;split at hu
       ·rename_i htu;injection hu with hu
        subst htu hu;rw[hv,he]
       ·exact i1 _ _ hu
      ·simp only[look] at hn;split at hn
       ·cases hn
       ·rename_i htu;rcases List.mem_cons.1 hu with h1|h1
        ·injection h1 with h1;exact absurd h1.symm htu
        ·exact i2 u h1 hn
     cases e with
     |t n=>
      simp only at h;split at h
      ·rename_i hnt;subst hnt h;refine⟨i1,λu hu hn=>?_⟩;rcases List.mem_cons.1 hu with h1|h1
       ·injection h1 with h1;subst h1;exact hv
       ·exact i2 u h1 hn
      ·exact gen _ rfl h.symm
     |c v=>exact gen _ rfl h.symm
     |s b o n=>exact gen _ rfl h.symm
     |k b o=>exact gen _ rfl h.symm
  |const v=>
   obtain⟨i1,i2⟩:=AQ (l:=r) (by simpa only [subst] using h);exact⟨i1,λu hu hn=>(List.mem_cons.1 hu).elim (λh1=>by cases h1) λh1=>i2 u h1 hn⟩
  |global v=>
   obtain⟨i1,i2⟩:=AQ (l:=r) (by simpa only [subst] using h);exact⟨i1,λu hu hn=>(List.mem_cons.1 hu).elim (λh1=>by cases h1) λh1=>i2 u h1 hn⟩
  |func v=>
   obtain⟨i1,i2⟩:=AQ (l:=r) (by simpa only [subst] using h);exact⟨i1,λu hu hn=>(List.mem_cons.1 hu).elim (λh1=>by cases h1) λh1=>i2 u h1 hn⟩
theorem fH.Ga (h:fH pl ds cs env X w0 a w) {l:List Operand} (hs:subst pl cs l=some ss):
  ∀x,x∈l->a.eval x=aK.Ga env ss x:=by
 obtain⟨i1,i2⟩:=AQ hs;intro x hx;cases x with
 |tmp t=>
  simp only[aK.Ga];cases hl:look ss t with
  |some e=>exact h.eval (i1 t e hl)
  |none=>exact h.eval (i2 t hx hl)
 |const v=>rfl
 |global g=>rfl
 |func f=>rfl
theorem acA (h:Iw op=true): ∀cs b,op≠ .select cs b:=by
 intro cs b e;subst e;cases h
theorem fH.exec (h:fH pl ds cs env X w0 a w) (hs:subst pl cs o.op.operands.toList=some ss) (hn:Iw o.op=true):
  execOp a.eval o=execOp (aK.Ga env ss) (WB o.op o.type):=by
 rw[execOp_congr o (acA hn) λx hx=>h.Ga hs x gQ];rfl
theorem fH.step (h:fH pl ds cs env X w0 a w) (hx:Kp X' eH w') (hX: ∀k,X' k->k<w'.heap.size)
  (hb: ∀k,k<w.heap.size-> ¬X k->w'.heap[k]? =w.heap[k]? /\ ¬X' k):fH pl ds cs env X' eH a w' where
 size:=h.size
 defers:=h.defers
 Au:=h.Au
 ext:=hx
 xH:=hX
 rj:=h.rj
 sig:=h.sig
 box:=λb n hn cells hc=>by
  obtain⟨k,ty,h1,h2,h3,h4⟩:=h.box b n hn cells hc;obtain⟨e1,e2⟩:=hb k (Array.getElem?_eq_some_iff.1 h2).1 h4;exact⟨k,ty,h1,e1.trans h2,h3,e2⟩
 inj:=h.inj
 conv:=h.conv
 live:=h.live
 ptr:=h.ptr
def fH.jv (h:fH pl ds cs env X w0 a w) (hx:Ext w w'):fH pl ds cs env X w0 a w':=
 h.step (h.ext.trans (hx.kp h.xH)) (λk hk=>aw (h.xH k hk) hx.size) λ_ hk hX=>⟨hx.block hk,hX⟩
theorem fH.MU (h:fH pl ds cs env X w0 a w) (hs:Step m X w w'):fH pl ds cs env (grow X w w') w' a w':=
 h.step (Kp.refl _ _) (λk hk=>hk.elim (λhX=>aw (h.xH k hX) hs.fr.size) (·.2))
  λk hk hX=>⟨hs.fr.block k hk hX,λhg=>hg.elim hX λhg=>by omega⟩
theorem uv (hs:look pl.boxes s=some n) (hd:look pl.boxes d=none):s≠d:=by grind
theorem fH.bind (h:fH pl ds cs env X w0 a w) (hd:pl.nR d=true) (v:Value) (rF: ∀p,p∈ds.pins->p.1≠d):
  fH pl ds (cs.bind pl d) (jX env d v) X w0 (a.put (some d) v) w:=by
 obtain⟨cI,kZ,qf⟩:=zS hd;have gh:d<a.tmps.size:=by rw[h.size];exact cI
 have ajA: ∀p,p∈(cs.kill d).sig->(a.put (some d) v).tmps[p.1]? =some (p.2.ev (jX env d v)):=by
  intro p hp;simp only[CS.kill,iB,aA,bne_iff_ne,ne_eq,de] at hp;rw[gv _ _ _ _ hp.2.1,WN hp.2.2];exact h.sig p hp.1
 have alB: ∀p,p∈(cs.kill d).zZ->(∃n,look pl.boxes p.b=some n)/\(DV (jX env d v) p.g->dE (jX env d v p.b)=true/\ ∃k,(a.put (some d) v).tmps[p.b]? =some (eI k 0)/\(a.put (some d) v).tmps[p.s]? =some (eI k p.off)):=by
  intro p hp;simp only[CS.kill,iB,aA,bne_iff_ne,ne_eq] at hp;obtain⟨hp0,⟨hb,hs⟩,hg⟩:=hp;obtain⟨e1,e2⟩:=h.ptr p hp0;refine⟨e1,λWO=>?_⟩;have apH:DV env p.g:=by
   cases Qa:p.g with
   |none=>trivial
   |some x=>
    obtain⟨g,want⟩:=x;rw[Qa] at WO hg;simp only[DV] at WO⊢
    rwa [iR _ _ gQ] at WO
  obtain⟨e3,k,e4,e5⟩:=e2 apH;rw[iR _ _ hb,gv _ _ _ _ hb,gv _ _ _ _ hs];exact⟨e3,k,e4,e5⟩
 have ag1: ∀p,p∈(cs.bind pl d).sig->(a.put (some d) v).tmps[p.1]? =some (p.2.ev (jX env d v)):=by
  intro p hp;simp only[CS.bind] at hp;split at hp
  ·exact ajA p hp
  ·rcases List.mem_cons.1 hp with rfl|hp
   ·simp[rQ _ _ _ _ gh,Ex.ev,mU]
   ·exact ajA p hp
 have hpt:(cs.bind pl d).zZ=(cs.kill d).zZ:=by simp only[CS.bind];split<;>rfl
 have hlv:(cs.bind pl d).live=cs.live:=by simp only[CS.bind];split<;>rfl
 exact {
  size:=by simp[nO,h.size]
  defers:=h.defers
  Au:=λp hp=>⟨by rw[gv _ _ _ _ (rF p hp)];exact(h.Au p hp).1,(h.Au p hp).2⟩
  ext:=h.ext
  xH:=h.xH
  rj:=λs hs=>by
   rw[rQ _ _ _ _ gh];split
   ·rename_i e;subst e;rw[mU]
   ·rename_i e;rw[iR _ _ e];exact h.rj s hs
  sig:=ag1
  box:=λb n hn cells hc=>by
   have qg:=uv hn kZ;rw[iR _ _ qg] at hc;rw[gv _ _ _ _ qg];exact h.box b n hn cells hc
  inj:=λb b' n n' hb dO h1 h2 k h3 h4=>by
   have qg:=uv hb kZ;have KL:=uv dO kZ;rw[iR _ _ qg] at h1;rw[iR _ _ KL] at h2;rw[gv _ _ _ _ qg] at h3;rw[gv _ _ _ _ KL] at h4;exact h.inj b b' n n' hb dO h1 h2 k h3 h4
  conv:=λb n hb k hk=>by
   have qg:=uv hb kZ;rw[gv _ _ _ _ qg] at hk;rw[iR _ _ qg];exact h.conv b n hb k hk
  live:=λb hb=>by
   rw[hlv] at hb;obtain⟨⟨n,hn⟩,hl⟩:=h.live b hb;rw[iR _ _ (uv hn kZ)];exact⟨⟨n,hn⟩,hl⟩
  ptr:=by rw[hpt];omega }
theorem fH.mC (h:fH pl ds cs env X w0 a w) (hn: ∀b,b∈nd->(∃n,look pl.boxes b=some n)/\dE (env b)=true):
  fH pl ds (cs.mC nd) env X w0 a w:=
 { h with live:=λb hb=>(List.mem_append.1 hb).elim (hn b) (h.live b) }
theorem fH.other (h:fH pl ds cs env X w0 a w) (cI:d<pl.n) (kZ:look pl.boxes d=none) (Qb:pl.km d=false) (v:Value) {qh:CS}
  (ag1: ∀p,p∈qh.sig->(a.put (some d) v).tmps[p.1]? =some (p.2.ev env)) (hlv:qh.live=cs.live)
  (alB: ∀p,p∈qh.zZ->(∃n,look pl.boxes p.b=some n)/\(DV env p.g->dE (env p.b)=true/\ ∃k,(a.put (some d) v).tmps[p.b]? =some (eI k 0)/\(a.put (some d) v).tmps[p.s]? =some (eI k p.off))):
  fH pl ds qh env X w0 (a.put (some d) v) w where
 size:=by simp[nO,h.size]
 defers:=h.defers
 Au:=λp hp=>by
  obtain⟨h1,h2⟩:=h.Au p hp;refine⟨?_,h2⟩;have cu:p.1≠d:=λe=>by
   rcases h2 with⟨n,_,hn,_⟩|hg
   ·rw[e,kZ] at hn;cases hn
   ·rw[e,Qb] at hg;cases hg
  rw[gv _ _ _ _ cu];exact h1
 ext:=h.ext
 xH:=h.xH
 rj:=λs hs=>by
  rw[gv _ _ _ _ gQ];exact h.rj s hs
 sig:=ag1
 box:=λb n hn cells hc=>by
  rw[gv _ _ _ _ (uv hn kZ)];exact h.box b n hn cells hc
 inj:=λb b' n n' hb dO h1 h2 k h3 h4=>by
  rw[gv _ _ _ _ (uv hb kZ)] at h3;rw[gv _ _ _ _ (uv dO kZ)] at h4;exact h.inj b b' n n' hb dO h1 h2 k h3 h4
 conv:=λb n hb k hk=>by
  rw[gv _ _ _ _ (uv hb kZ)] at hk;exact h.conv b n hb k hk
 live:=λb hb=>h.live b (hlv▸hb)
 ptr:=alB
theorem fH.note (h:fH pl ds cs env X w0 a w) (hd:pl.nR d=true) (Qb:pl.km d=false) (e:Ex):
  fH pl ds (cs.note d e) env X w0 (a.put (some d) (e.ev env)) w:=by
 obtain⟨cI,kZ,qf⟩:=zS hd;have gh:d<a.tmps.size:=by rw[h.size];exact cI
 refine h.other cI kZ Qb _ ?_ rfl ?_
 ·intro p hp;simp only[CS.note,il,iB,bne_iff_ne,ne_eq] at hp;rcases hp with rfl|⟨hp,cu⟩
  ·simp[rQ _ _ _ _ gh]
  ·rw[gv _ _ _ _ cu];exact h.sig p hp
 ·intro p hp;simp only[CS.note,iB,bne_iff_ne,ne_eq] at hp;obtain⟨⟨n,hn⟩,e2⟩:=h.ptr p hp.1;refine⟨⟨n,hn⟩,λhg=>?_⟩;obtain⟨e3,k,e4,e5⟩:=e2 hg;refine⟨e3,k,?_,?_⟩
  ·rw[gv _ _ _ _ (uv hn kZ)];exact e4
  ·rw[gv _ _ _ _ hp.2];exact e5
theorem fH.sH (h:fH pl ds cs env X w0 a w) (hd:pl.nR d=true) (e:Ex)
  (hn:ij P jg next (aK.sH pl cs d e).1 env w0 X) (rF: ∀b,b∈pa (aK.sH pl cs d e).1-> ∀p,p∈ds.pins->p.1≠b): ∃dx,fH pl ds (aK.sH pl cs d e).2 dx X w0 (a.put (some d) (e.ev env)) w/\next dx w0 X:=by
 unfold aK.sH at hn rF⊢;split
 ·rename_i hg;rw[if_pos hg] at hn rF;exact⟨_,h.bind hd _ (rF d (by simp[pa,TI.KF])),hn⟩
 ·rename_i hg;rw[if_neg hg] at hn;have Qb:pl.km d=false:=by
   cases hx:pl.km d with
   |false=>rfl
   |true=>grind
  exact⟨env,h.note hd Qb e,hn⟩
theorem fH.derive (h:fH pl ds cs env X w0 a w) {b:Nat} {g:Option (Nat×Bool)} (cI:d<pl.n) (kZ:look pl.boxes d=none) (OW:pl.TA.contains d=true)
    (v:Value) (hb: ∃n,look pl.boxes b=some n) (hv:DV env g->dE (env b)=true/\ ∃k,a.tmps[b]? =some (eI k 0)/\v=eI k off)
 :
    fH pl ds (cs.uf d b off g) env X w0 (a.put (some d) v) w:=by
  have gh:d<a.tmps.size:=by rw[h.size];exact cI
  have Qb:pl.km d=false:=by
    cases hx:pl.km d with
    |false=>rfl
    |true=>have:=(tH hx).2.2;grind
  refine h.other cI kZ Qb _ ?_ rfl ?_
  · intro p hp
    simp only[CS.uf,iB,bne_iff_ne,ne_eq] at hp;rw[gv _ _ _ _ hp.2];exact h.sig p hp.1
  · intro p hp
    rcases List.mem_cons.1 hp with rfl|hp
    · obtain⟨n,hn⟩:=hb
      refine⟨⟨n,hn⟩,λhg=>?_⟩;obtain⟨e1,k,e2,e3⟩:=hv hg;refine⟨e1,k,?_,?_⟩
      · rw[gv _ _ _ _ (uv hn kZ)];exact e2
      · simp[rQ _ _ _ _ gh,e3]
    · simp only[iB,bne_iff_ne,ne_eq] at hp
      obtain⟨⟨n,hn⟩,e2⟩:=h.ptr p hp.1;refine⟨⟨n,hn⟩,λhg=>?_⟩;obtain⟨e3,k,e4,e5⟩:=e2 hg;refine⟨e3,k,?_,?_⟩
      · rw[gv _ _ _ _ (uv hn kZ)];exact e4
      · rw[gv _ _ _ _ hp.2];exact e5
theorem ag2 {p:Nat×Ex} (hp:p∈(cs.kill d).sig):p∈cs.sig/\p.1≠d/\p.2.Wz d=false:=by grind [CS.kill]
theorem ag3 {p:Ptr} (hp:p∈(cs.kill d).zZ):p∈cs.zZ/\p.b≠d/\p.s≠d/\(∀v,DV (jX env d v) p.g->DV env p.g):=by
 simp only[CS.kill,iB,aA,bne_iff_ne,ne_eq] at hp;obtain⟨hp0,⟨hb,hs⟩,hg⟩:=hp;refine⟨hp0,hb,hs,λv WO=>?_⟩;cases Qa:p.g with
 |none=>trivial
 |some x=>
  grind [DV,iR]
theorem fH.afk (h:fH pl ds cs env X w0 a w) (cI:d<pl.n) (hb:look pl.boxes d=some sz) (cells:Array Value) (gh:cells.size=sz) (ty:TypeId) (rF: ∀p,p∈ds.pins->p.1≠d):
  fH pl ds ((cs.kill d).mC [d]) (jX env d (.agg cells)) X w0 (a.put (some d) (eI w.heap.size 0)) (w.alloc (.cells cells ty)):=by
 have hd:d<a.tmps.size:=by rw[h.size];exact cI
 have hg:=h.jv (Ext.alloc w (.cells cells ty));have fresh: ∀b n c,look pl.boxes b=some n->env b= .agg c->a.tmps[b]? ≠some (eI w.heap.size 0):=by
  intro b n c hn hc e;obtain⟨k,ty',h1,h2,_,_⟩:=h.box b n hn c hc;rw[h1] at e;have hk:k=w.heap.size:=by simpa [eI] using e
  subst hk;rw[qu (au _)] at h2;cases h2
 exact {
  size:=by simp[nO,h.size]
  defers:=h.defers
  Au:=λp hp=>⟨by rw[gv _ _ _ _ (rF p hp)];exact(h.Au p hp).1,(h.Au p hp).2⟩
  ext:=hg.ext
  xH:=hg.xH
  rj:=λs hs=>by
   have cu:s≠d:=λe=>by subst e;have:=(tH hs).2.1;grind
   rw[gv _ _ _ _ cu,iR _ _ cu];exact h.rj s hs
  sig:=λp hp=>by
   obtain⟨h1,h2,h3⟩:=ag2 hp;rw[gv _ _ _ _ h2,WN h3];exact h.sig p h1
  box:=λb n hn c hc=>by
   by_cases qg:b=d
   ·subst qg;rw[mU] at hc;injection hc with hc
    subst hc;rw[hb] at hn;injection hn with hn
    refine⟨w.heap.size,ty,by simp[rQ _ _ _ _ hd],heap_alloc_new w _,by omega,λhX=>?_⟩;exact absurd (h.xH _ hX) zQ
   ·rw[iR _ _ qg] at hc;rw[gv _ _ _ _ qg];exact hg.box b n hn c hc
  inj:=λb b' n n' hn mL h1 h2 k h3 h4=>by
   obtain⟨c,hc⟩:=wH.1 h1;obtain⟨c',AR⟩:=wH.1 h2;by_cases qg:b=d<;>by_cases KL:b'=d
   ·omega
   ·subst qg;rw[rQ _ _ _ _ hd,if_pos rfl] at h3;rw[gv _ _ _ _ KL] at h4;rw[iR _ _ KL] at AR;rw[<-h3] at h4;exact absurd h4 (fresh b' n' c' mL AR)
   ·subst KL;rw[rQ _ _ _ _ hd,if_pos rfl] at h4;rw[gv _ _ _ _ qg] at h3;rw[iR _ _ qg] at hc;rw[<-h4] at h3;exact absurd h3 (fresh b n c hn hc)
   ·rw[iR _ _ qg] at h1;rw[iR _ _ KL] at h2;rw[gv _ _ _ _ qg] at h3;rw[gv _ _ _ _ KL] at h4;exact h.inj b b' n n' hn mL h1 h2 k h3 h4
  conv:=λb n hn k hk=>by
   by_cases qg:b=d
   ·subst qg;rw[mU];rfl
   ·rw[gv _ _ _ _ qg] at hk;rw[iR _ _ qg];exact h.conv b n hn k hk
  live:=λb dO=>by
   simp only[CS.mC,j8,bp,il] at dO;rcases dO with rfl|dO
   ·exact⟨⟨sz,hb⟩,by rw[mU];rfl⟩
   ·obtain⟨e1,e2⟩:=h.live b dO;refine⟨e1,?_⟩;by_cases qg:b=d
    ·subst qg;rw[mU];rfl
    ·rw[iR _ _ qg];exact e2
  ptr:=λp hp=>by
   obtain⟨h1,h2,h3,h4⟩:=ag3 (env:=env) hp;obtain⟨e1,e2⟩:=h.ptr p h1;refine⟨e1,λWO=>?_⟩;obtain⟨e3,k,e4,e5⟩:=e2 (h4 _ WO);rw[iR _ _ h2,gv _ _ _ _ h2,gv _ _ _ _ h3];exact⟨e3,k,e4,e5⟩ }
theorem fH.store (h:fH pl ds cs env X w0 a w) {b:Nat} (hb:look pl.boxes b=some n) (hc:env b= .agg cells)
  (ht:a.tmps[b]? =some (eI k 0)) (hk:w.heap[k]? =some (.cells cells ty (0,0))) (hX: ¬X k) (gh:zu.size=n) (hw:Fr (· =k) w w') (ah:w'.heap[k]? =some (.cells zu ty (0,0))):
  fH pl ds (cs.MS b) (jX env b (.agg zu)) X w0 a w':=by
 have hA:dE (env b)=true:=by rw[hc];rfl
 exact {
  size:=h.size
  defers:=h.defers
  Au:=h.Au
  ext:=h.ext.trans (hw.kp λj hj=>⟨h.xH j hj,λe=>by grind⟩)
  xH:=λj hj=>aw (h.xH j hj) hw.size
  rj:=λs hs=>by
   have cu:s≠b:=λe=>by subst e;have:=(tH hs).2.1;grind
   rw[iR _ _ cu];exact h.rj s hs
  sig:=λp hp=>by
   simp only[CS.MS,iB,de] at hp;rw[WN hp.2];exact h.sig p hp.1
  box:=λb' n' mL c AR=>by
   by_cases qg:b'=b
   ·subst qg;rw[mU] at AR;injection AR with AR
    subst AR;rw[hb] at mL;injection mL with mL
    exact⟨k,ty,ht,ah,by omega,hX⟩
   ·rw[iR _ _ qg] at AR;obtain⟨k2,NS,h1,h2,h3,h4⟩:=h.box b' n' mL c AR;have sP:k2≠k:=λe=>by
     subst e;exact qg (h.inj b' b n' n mL hb gQ hA k2 h1 ht)
    exact⟨k2,NS,h1,(hw.block k2 (Array.getElem?_eq_some_iff.1 h2).1 sP).trans h2,h3,h4⟩
  inj:=λb1 b2 n1 n2 xc hn2 h1 h2 j h3 h4=>by
   have f: ∀b',dE (jX env b (.agg zu) b')=true->dE (env b')=true:=λb' hh=>by
    by_cases e:b'=b
    ·grind
    ·rwa [iR _ _ e] at hh
   exact h.inj b1 b2 n1 n2 xc hn2 (f b1 h1) (f b2 h2) j h3 h4
  conv:=λb' n' mL j hj=>by
   by_cases e:b'=b
   ·subst e;rw[mU];rfl
   ·rw[iR _ _ e];exact h.conv b' n' mL j hj
  live:=λb' dO=>by
   obtain⟨e1,e2⟩:=h.live b' dO;refine⟨e1,?_⟩;by_cases e:b'=b
   ·subst e;rw[mU];rfl
   ·rwa [iR _ _ e]
  ptr:=λp hp=>by
   obtain⟨e1,e2⟩:=h.ptr p hp;refine⟨e1,λhg=>?_⟩;have mN:DV env p.g:=by
    cases Qa:p.g with
    |none=>trivial
    |some x=>
     obtain⟨g,want⟩:=x;rw[Qa] at hg;simp only[DV] at hg⊢;by_cases e:g=b
     ·subst e;rw[mU] at hg;cases hg
     ·rwa [iR _ _ e] at hg
   obtain⟨e3,k2,e4,e5⟩:=e2 mN;refine⟨?_,k2,e4,e5⟩;by_cases e:p.b=b
   ·rw[e,mU];rfl
   ·rwa [iR _ _ e] }
variable {ag : Bool}
theorem z8 (k o n:Nat):(⟨k,o,none⟩:Addr).add n=⟨k,o+n,none⟩:=by grind [Addr.add]
theorem NT {S f fo:Nat} (h:fieldInfo P S f=some (fo,sz)) (hz:sz≠0) (k off:Nat) (w:World):
  (Instr.fieldAt S (eI k off) f).run P w= .ok (eI k (off+fo)) w:=by
 unfold fieldInfo at h;split at h
 ·rename_i fs hu;cases hf:fs[f]? with
  |none=>grind
  |some x=>
   cases hi:P.info? x.type with
   |none=>grind
   |some i=>
    simp only[hf,hi,cW,aZ,aj,cY] at h;obtain⟨h1,h2⟩:=h;subst h1 h2;simp[Instr.fieldAt,run_underlying hu,hf,pL,eI,fieldPlace,sizeOf,typeInfo,hi,hz,z8]
 ·cases h
theorem JC (h:w.heap[k]? =some (.cells cells ty (0,0))) (i:Nat):w.cell? ⟨k,i,none⟩=cells[i]? :=by
 simp[World.cell?,h]
theorem Qc (h:lv P t=some (ag,sz)) (WQ:(ag||sz==1)=true)
  (hk:w.heap[k]? =some (.cells cells ty (0,0))) (off:Nat) (hl:off+sz<=cells.size):
  (ju t (eI k off)).run P w= .ok (if ag then yz (.agg cells) off sz else cellOf (.agg cells) off) w:=by
 unfold lv at h;split at h
 ·rename_i d i hu hi;simp only[aj,cY] at h;obtain⟨h1,h2⟩:=h;subst h2;have Ce:(isAgg t).run P w= .ok ag w:=by
   subst h1;cases d<;>simp[isAgg,run_underlying hu]
  cases ag with
  |true=>
   have hc: ∀j v,((cells.toList.drop off).take i.size)[j]? =some v->w.cell? ((⟨k,off,none⟩:Addr).add j)=some v:=by
    intro j v hj;rw[z8,JC hk];rw[List.getElem?_take] at hj;split at hj
    ·rw[List.getElem?_drop] at hj;simpa using hj
    ·cases hj
   have hlen:((cells.toList.drop off).take i.size).length=i.size:=by
    simp;omega
   have hr:=run_loadCells_list (P:=P) w ⟨k,off,none⟩ _ hc;rw[hlen] at hr;simp[ju,pL,eI,loadVar,Ce,sizeOf,typeInfo,hi,hr,yz,Value.cells]
  |false=>
   simp only[Bool.false_or,beq_iff_eq] at WQ;have cI:off<cells.size:=by omega
   have hc:w.cell? ⟨k,off,none⟩=some cells[off]:=by rw[JC hk];simp[cI]
   simp[ju,pL,eI,loadVar,Ce,hc,cellOf,Value.cells,cI]
 ·cases h
theorem Qd (v:Value):one v=v.oneCell':=by rfl
theorem rG (h:one v=true):v.cells= #[v]:=by cases v<;>first|rfl|cases h
theorem aaH (h:lv P t=some (ag,sz)):(P.info? t).map (·.size)=some sz:=by
 unfold lv at h
 grind
theorem NU (h:(P.info? t).map (·.size)=some sz)
  (hk:w.heap[k]? =some (.cells cells ty (0,0))) (off:Nat) (hl:off+sz<=cells.size) (v:Value) (hv:v.cells.size=sz) (h1:v.cells.toList.all one=true):
  (Instr.storeAt t (eI k off) v).run P w= .ok () (w.setRow k (bM cells.toList off v.cells.toList).toArray):=by
 cases hi:P.info? t with
 |none=>grind
 |some i=>
  simp only[hi,aZ,aj] at h;have fQ:=run_storeCells_at P k off ty v.cells.toList 0 cells w hk (by simpa [hv] using hl) (λx hx=>by
   have:=List.all_eq_true.1 h1 x hx;assumption)
  simp only[Nat.add_zero] at fQ;simp[Instr.storeAt,pL,eI,storeVar,sizeOf,typeInfo,hi,h,hv,fQ,bM]
theorem afl (hk:w.heap[k]? =some (.cells cells ty (0,0))):
  Fr (· =k) w (w.setRow k zu)/\(w.setRow k zu).heap[k]? =some (.cells zu ty (0,0)):=by
 refine⟨⟨rfl,rfl,rfl,by simp[World.setRow],λj _ hj=>?_⟩,setRow_heap w k cells zu ty (0,0) hk⟩;simp only[World.setRow,Array.getElem?_modify]
 grind
theorem EJ {l vs:List Value} (h:off+vs.length<=l.length):(bM l off vs).length=l.length:=by
 simp[bM];omega
variable {og : Option (Nat × Bool)} {r : CR}
theorem KM: ∀{l:List Ptr} {t b off:Nat},HF og l t=some (b,off)-> ∃p,p∈l/\p.s=t/\p.b=b/\p.off=off/\(p.g=none\/p.g=og)
 |[],_,_,_,h=>by cases h
 |p::r,t,b,off,h=>by
  simp only[HF] at h;split at h
  ·simp_all
  ·obtain⟨q,h1,h2⟩:=KM h
   grind
theorem fH.xa (h:fH pl ds cs env X w0 a w) {x:Operand} {b:Nat} (hp:aK.xa pl cs og x=some (b,off,nd)):
  (∃n,look pl.boxes b=some n)/\(∀b',b'∈nd-> ∃n,look pl.boxes b'=some n)/\
  ((∀b',b'∈nd->dE (env b')=true)->DV env og->dE (env b)=true/\ ∃k,a.eval x=eI k off/\a.tmps[b]? =some (eI k 0)):=by
 cases x with
 |tmp t=>
  simp only[aK.xa] at hp;split at hp
  ·rename_i n hn;simp only[aj,cY] at hp;obtain⟨rfl,rfl,qf⟩:=hp;refine⟨⟨n,hn⟩,λb' dO=>?_,λhl _=>?_⟩
   ·grind
   ·have hA:dE (env t)=true:=by
     split at qf
     ·rename_i hc;exact(h.live t gQ).2
     ·grind
    obtain⟨c,hc⟩:=wH.1 hA;obtain⟨k,ty,h1,_⟩:=h.box t n hn c hc;exact⟨hA,k,by simp[xF,h1],h1⟩
  ·split at hp
   ·cases hf:HF og cs.zZ t with
    |none=>grind
    |some q=>
     obtain⟨b',asg⟩:=q;simp only[hf,aZ,aj,cY] at hp;obtain⟨rfl,rfl,rfl⟩:=hp;obtain⟨p,hp,hs,hb,ho,hg⟩:=KM hf;obtain⟨e1,e2⟩:=h.ptr p hp;subst hs hb ho;refine⟨e1,λ_ dO=>(by cases dO),λ_ WO=>?_⟩;obtain⟨e3,k,e4,e5⟩:=e2 (hg.elim (λhg=>by simp[hg,DV]) (λhg=>by grind));exact⟨e3,k,by simp[xF,e5],e4⟩
   ·cases hp
 |const v=>cases hp
 |global g=>cases hp
 |func f=>cases hp
theorem KN: ∀(nd:List Nat) {l:List TI},
  ij P jg next (nd.map .zY++l) env w X->(∀b,b∈nd->dE (env b)=true)/\ij P jg next l env w X
 |[],_,h=>⟨λ_ hb=>(by cases hb),h⟩
 |b::nd,l,h=>by
  obtain⟨h1,h2⟩:dE (env b)=true/\ij P jg next (nd.map .zY++l) env w X:=by simpa only [List.map_cons,j8,ij,WG,dM] using h
  obtain⟨h3,h4⟩:=KN nd h2;refine⟨λb' dO=>?_,h4⟩;rcases List.mem_cons.1 dO with rfl|dO
  ·exact h1
  ·exact h3 b' dO
theorem CF: ∀(l l':List TI),ij P jg next (l++l')=ij P jg (ij P jg next l') l
 |[],_=>rfl
 |i::l,l'=>by
  funext env w X
  simp only[j8,ij,CF l l']
inductive Shape (P:Program) (pl:gA) (cs:CS) (og:Option (Nat×Bool)) (m:Bool) (o:Oper):CR->Prop
 |mv (x:Operand) (d:Nat) (e:Ex) (ho:o.op= .move x\/o.op= .assign x) (hd:o.dst=some d) (hv:valOf pl cs x=some e) (hp:pl.nR d=true):
   Shape P pl cs og m o ⟨true,[],(sH pl cs d e).1,(sH pl cs d e).2,[],[]⟩
 |ld (t:TypeId) (x:Operand) (d b off:Nat) (nd:List Nat) (ag:Bool) (sz bs:Nat) (ho:o.op= .load t x) (hd:o.dst=some d) (hx:aK.xa pl cs og x=some (b,off,nd))
   (ht:lv P t=some (ag,sz)) (hb:look pl.boxes b=some bs) (hp:pl.nR d=true) (hl:off+sz<=bs) (ha:(ag||sz==1)=true):
   Shape P pl cs og m o ⟨true,nd,(sH pl (cs.mC nd) d (if ag then .s b off sz else .k b off)).1,(sH pl (cs.mC nd) d (if ag then .s b off sz else .k b off)).2,[b],[]⟩
 |fa (S:TypeId) (x:Operand) (f d b off:Nat) (nd:List Nat) (fo sz:Nat) (ho:o.op= .fieldAddr S x f) (hd:o.dst=some d) (hx:aK.xa pl cs og x=some (b,off,nd))
   (hf:fieldInfo P S f=some (fo,sz)) (OW:pl.TA.contains d=true) (cI:d<pl.n) (kZ:look pl.boxes d=none) (hz:sz≠0):
   Shape P pl cs og m o ⟨true,nd,[],(cs.mC nd).uf d b (off+fo) og,[],[]⟩
 |rd (d:Nat) (ss:List (Nat×Ex)) (hd:o.dst=some d) (hs:subst pl cs o.op.operands.toList=some ss) (hn:Iw o.op=true) (hp:pl.nR d=true):
   Shape P pl cs og m o ⟨true,[],[.rd d o.op o.type ss],cs.bind pl d,[],[]⟩
 |DU (d:Nat) (ss:List (Nat×Ex)) (hd:o.dst=some d) (hs:subst pl cs o.op.operands.toList=some ss) (hn:Iw o.op=true) (hp:pl.nR d=true):
   Shape P pl cs og m o ⟨false,[],[.DU (some d) o.op o.type ss m],cs.bind pl d,[],[]⟩
 |act (ss:List (Nat×Ex)) (hd:o.dst=none) (hs:subst pl cs o.op.operands.toList=some ss) (hn:Iw o.op=true):
   Shape P pl cs og m o ⟨false,[],[.DU none o.op o.type ss m],cs,[],[]⟩
 |bx (t:TypeId) (x:Operand) (d sz:Nat) (e:Ex) (ag:Bool) (ho:o.op= .box t x) (hd:o.dst=some d) (hb:look pl.boxes d=some sz) (hv:valOf pl cs x=some e) (ht:lv P t=some (ag,sz)) (cI:d<pl.n):
   Shape P pl cs og m o ⟨false,[],[if !ag&&sz==1 then .Cb d e else .box d sz e],(cs.kill d).mC [d],[],[]⟩
 |al (t:TypeId) (d sz:Nat) (i:TypeInfo) (z:Value) (ag:Bool) (ho:o.op= .alloc t) (hd:o.dst=some d) (hb:look pl.boxes d=some sz) (hi:P.info? t=some i) (hz:i.zero=some z) (ht:lv P t=some (ag,sz)) (cI:d<pl.n):
   Shape P pl cs og m o ⟨false,[],[if !ag&&sz==1 then .Cb d (.c z)else .box d sz (.c z)],(cs.kill d).mC [d],[],[]⟩
 |st (t:TypeId) (x v:Operand) (b off:Nat) (nd:List Nat) (sz bs:Nat) (e:Ex) (ag:Bool) (ho:o.op= .store t x v) (hd:o.dst=none) (hx:aK.xa pl cs og x=some (b,off,nd))
   (hv:valOf pl cs v=some e) (ht:lv P t=some (ag,sz)) (hb:look pl.boxes b=some bs) (hl:off+sz<=bs):
   Shape P pl cs og m o ⟨false,nd,[if !ag&&sz==1 then .WC b off e else if off==0&&sz==bs then .fill b sz e else .put b off sz e],(cs.mC nd).MS b,[],[b]⟩
theorem yC (h:Gc P pl cs m o=some r):Shape P pl cs og m o r:=by
 unfold Gc at h;split at h
 ·cases h
 ·rename_i ss hs;split at h
  ·cases h
  ·rename_i hn;simp only[de,Ap] at hn;split at h
   ·rename_i d hd;split at h
    ·cases h
    ·rename_i hp;simp only[de,Ap] at hp;split at h<;>injection h with h<;>subst h
     ·exact .rd d ss hd hs hn hp
     ·exact .DU d ss hd hs hn hp
   ·rename_i hd;injection h with h
    subst h;exact .act ss hd hs hn
theorem TF (h:WI P pl cs sz t e d=some r)
  (k: ∀ag,d<pl.n->lv P t=some (ag,sz)->Shape P pl cs og m o ⟨false,[],[if !ag&&sz==1 then .Cb d e else .box d sz e],(cs.kill d).mC [d],[],[]⟩):Shape P pl cs og m o r:=by
 unfold WI at h;split at h
 ·rename_i ag s ht;split at h
  ·grind
  ·cases h
 ·cases h
theorem tI (h:Eb P pl cs og m o=some r):Shape P pl cs og m o r:=by
 unfold Eb at h;split at h;case h_1 x ho=>
  split at h
  ·rename_i d e hd hv;split at h
   ·rename_i hp;injection h with h
    subst h;exact .mv x d e (.inl ho) hd hv hp
   ·cases h
  ·cases h
 case h_2 x ho=>
  split at h
  ·rename_i d e hd hv;split at h
   ·rename_i hp;injection h with h
    subst h;exact .mv x d e (.inr ho) hd hv hp
   ·cases h
  ·cases h
 case h_3 t x ho=>
  split at h
  ·rename_i d hd;split at h
   ·rename_i sz hb;split at h
    ·rename_i e hv;exact TF h λag cI ht=>.bx t x d sz e ag ho hd hb hv ht cI
    ·cases h
   ·exact yC h
  ·cases h
 case h_4 t ho=>
  split at h
  ·rename_i d hd;split at h
   ·rename_i sz hb;split at h
    ·rename_i z hz;cases hi:P.info? t with
     |none=>grind
     |some i=>
      simp only[hi,cW] at hz;exact TF h λag cI ht=>.al t d sz i z ag ho hd hb hi hz ht cI
    ·cases h
   ·exact yC h
  ·cases h
 case h_5 S x f ho=>
  split at h
  ·rename_i b off nd hx;split at h
   ·rename_i d fo sz hd hf;split at h
    ·rename_i hc;simp only[aA,decide_eq_true_eq,oM,bne_iff_ne,ne_eq] at hc;injection h with h
     subst h;exact .fa S x f d b off nd fo sz ho hd hx hf hc.1.1.1 hc.1.1.2 hc.1.2 hc.2
    ·cases h
   ·cases h
  ·exact yC h
 case h_6 t x ho=>
  split at h
  ·rename_i b off nd hx;split at h
   ·rename_i d ag sz bs hd ht hb;split at h
    ·rename_i hc;simp only[aA,decide_eq_true_eq] at hc;injection h with h
     subst h;exact .ld t x d b off nd ag sz bs ho hd hx ht hb hc.1.1 hc.1.2 hc.2
    ·cases h
   ·cases h
  ·exact yC h
 case h_7 t x v ho=>
  split at h
  ·rename_i b off nd hx;split at h
   ·rename_i e ag sz bs hd hv ht hb;split at h
    ·rename_i hc;simp only[decide_eq_true_eq] at hc;injection h with h
     subst h;exact .st t x v b off nd sz bs e ag ho hd hx hv ht hb hc
    ·cases h
   ·cases h
  ·exact yC h
 grind [yC]
theorem fH.zb (h:fH pl ds cs env X w0 a w) {RB:List Nat} (hz:ZB pl RB a k): ¬X k:=by
 obtain⟨b,n,hb,_,ht⟩:=hz;obtain⟨c,hc⟩:=wH.1 (h.conv b n hb k ht);obtain⟨k',ty,e1,_,_,e4⟩:=h.box b n hb c hc;rw[ht] at e1;have:k'=k:=by simpa [eI] using e1.symm
 grind
def fH.kp0 (h:fH pl ds cs env X w0 a w) {RB:List Nat} (hx:Fr (ZB pl RB a) w w'):Kp X w0 w':=
 h.ext.trans (hx.kp λk hk=>⟨h.xH k hk,λhz=>h.zb hz hk⟩)
theorem fH.fv (h:fH pl ds cs env X w0 a w) {b:Nat} (hb:look pl.boxes b=some n) (ht:a.tmps[b]? =some (eI k 0)):k<w.heap.size/\ ¬X k:=by
 obtain⟨c,hc⟩:=wH.1 (h.conv b n hb k ht);obtain⟨k',ty,e1,e2,_,e4⟩:=h.box b n hb c hc;rw[ht] at e1;have:k'=k:=by simpa [eI] using e1.symm
 grind
def fH.ag4 (h:fH pl ds cs env X w0 a w) (hx:Fr X w w'):z6 pl sb a w w':=
 λ_ _ _ hb _ hk=>hx.block _ (h.fv hb hk).1 (h.fv hb hk).2
theorem rU.fc (hx:Ext w w') (hz: ∀b n,look pl.boxes b=some n-> ∀k,k<w.heap.size->a'.tmps[b]? =some (eI k 0)->a.tmps[b]? =some (eI k 0)):rU pl sb a w a' w':=
 λ_ _=>⟨hx.fr _,λk hk ⟨b,n,h1,h2,h3⟩=>⟨b,n,h1,h2,hz b n h1 k hk h3⟩⟩
theorem rU.ag5 {d:Option Nat} (hx:Ext w w') (hd: ∀x,d=some x->look pl.boxes x=none):rU pl sb a w (a.put d v) w':=by
 refine rU.fc hx λb n hb k _ hk=>?_;cases d with
 |none=>exact hk
 |some x=>rwa [gv _ _ _ _ (uv hb (hd x rfl))] at hk
theorem rU.sub (h:rU pl sb a w a' w') (hs: ∀b,b∈sb->b∈sb'):rU pl sb' a w a' w':=
 λRB KG=>h RB λb hb=>KG b (hs b hb)
theorem TG (hs:Shape P pl cs og m o r) (iP:r.fl=true): ∀x,o.dst=some x->look pl.boxes x=none:=by
 have f: ∀{d:Nat},o.dst=some d->pl.nR d=true-> ∀x,o.dst=some x->look pl.boxes x=none:=λhd hp x hx=>by
  rw[hd] at hx;injection hx with hx;subst hx;exact(zS hp).2.1
 cases hs with
 |mv x d e ho hd hv hp=>grind
 |ld t x d b off nd ag sz bs ho hd hx ht hb hp hl ha=>grind
 |fa S x g d b off nd fo sz ho hd hx hf OW cI kZ hz=>grind
 |rd d ss hd hs hn hp=>grind
 |DU=>cases iP
 |act=>cases iP
 |bx=>cases iP
 |al=>cases iP
 |st=>cases iP
theorem TH (hs:Shape P pl cs og m o r) (h:fH pl ds cs env X w0 a w) (hg:DV env og)
  (hl: ∀b,b∈r.nd->dE (env b)=true) (iP:r.fl=true) (hd:ij P jg next r.l env w0 X) (rF: ∀b,b∈pa r.l-> ∀p,p∈ds.pins->p.1≠b):
  ∃v dx,((∀wa,Fr (ZB pl r.rb a) w wa->(execOp a.eval o).run P wa= .ok (.value v) wa)/\
   ∀b,b∈r.rb-> ∃k n,look pl.boxes b=some n/\a.tmps[b]? =some (eI k 0)/\ ∀wa:World,wa.heap[k]? =w.heap[k]? ->(execOp a.eval o).run P wa= .ok (.value v) wa)/\fH pl ds r.cs dx X w0 (a.put o.dst v) w/\next dx w0 X:=by
 cases hs with
 |mv x d e ho kI hv hp=>
  obtain⟨dx,h1,h2⟩:=h.sH hp e hd rF;refine⟨e.ev env,dx,⟨λwa _=>?_,λ_ hb=>by cases hb⟩,by grind,h2⟩;have he:=h.eval hv;rcases ho with ho|ho<;>simp[execOp,ho,he]
 |ld t x d b off nd ag sz bs ho kI hx ht hb hp cI ha=>
  obtain⟨⟨n,hn⟩,qf,hk⟩:=h.xa hx;obtain⟨hA,k,he,iy⟩:=hk hl hg;obtain⟨cells,hc⟩:=wH.1 hA;obtain⟨k',ty,e1,e2,e3,_⟩:=h.box b n hn cells hc;have sP:k'=k:=by rw[iy] at e1;simpa [eI] using e1.symm
  subst sP;have TJ:bs=n:=by rw[hb] at hn;injection hn
  subst TJ;have h':=h.mC (nd:=nd) λb' dO=>⟨qf b' dO,hl b' dO⟩;obtain⟨dx,h1,h2⟩:=h'.sH hp _ hd rF;have TL:(if ag then Ex.s b off sz else Ex.k b off).ev env=if ag then yz (.agg cells) off sz else cellOf (.agg cells) off:=by
   cases ag<;>simp[Ex.ev,hc]
  have oN: ∀wa:World,wa.heap[k']? =w.heap[k']? ->(execOp a.eval o).run P wa= .ok (.value ((if ag then Ex.s b off sz else Ex.k b off).ev env)) wa:=by
   intro wa HG;have e2':wa.heap[k']? =some (.cells cells ty (0,0)):=HG.trans e2;have:=Qc ht ha e2' off zQ;rw[TL];simp[execOp,ho,he,this]
  refine⟨_,dx,⟨λwa HG=>oN wa ?_,λb' dO=>?_⟩,by rw[kI];exact h1,h2⟩
  rotate_left
  ·have:=List.mem_singleton.1 dO;subst this;exact⟨k',bs,hn,iy,oN⟩
  have e2':wa.heap[k']? =some (.cells cells ty (0,0)):=by
   rw[HG.block k' (Array.getElem?_eq_some_iff.1 e2).1 ?_]
   ·exact e2
   ·rintro⟨b2,n2,g1,g2,g3⟩;exact g2 (List.mem_singleton.2 (h.inj b2 b n2 bs g1 hn (h.conv b2 n2 g1 k' g3) hA k' g3 iy))
  rw[e2',e2]
 |fa S x f d b off nd fo sz ho kI hx hf OW cI kZ hz=>
  obtain⟨⟨n,hn⟩,qf,hk⟩:=h.xa hx;obtain⟨hA,k,he,iy⟩:=hk hl hg;have h':=h.mC (nd:=nd) λb' dO=>⟨qf b' dO,hl b' dO⟩;refine⟨eI k (off+fo),env,⟨λwa _=>?_,λ_ hb=>by cases hb⟩,?_,hd⟩
  ·have:=NT hf hz k off wa;simp[execOp,ho,he,this]
  ·rw[kI];exact h'.derive cI kZ OW _ ⟨n,hn⟩ λ_=>⟨hA,k,iy,rfl⟩
 |rd d ss kI NV hn hp=>
  obtain⟨v,h1,h2⟩:=hd;refine⟨v,_,⟨λwa HG=>?_,λ_ hb=>by cases hb⟩,by rw[kI];exact h.bind hp v (rF d (by simp[pa,TI.KF])),h2⟩;rw[h.exec NV hn,<-afg _ (λ_=>rfl)];exact h1 wa (h.kp0 HG)
 |DU=>cases iP
 |act=>cases iP
 |bx=>cases iP
 |al=>cases iP
 |st=>cases iP
def zT (pl:gA) (ds:Bk) (env:Env) (X:XS) (a:Act) (w:World):Prop:=
 (∀k,X k->k<w.heap.size)/\ ∀p,p∈ds.pins->a.tmps[p.1]? =some p.2/\(pl.km p.1=true\/ ∃n k cells ty,p.2=eI k 0/\look pl.boxes p.1=some n/\env p.1= .agg cells/\w.heap[k]? =some (.cells cells ty (0,0))/\cells.size=n/\ ¬X k)
theorem fH.pinned (h:fH pl ds cs env X w0 a w):zT pl ds env X a w:=⟨h.xH,λp hp=>by
 obtain⟨ht,⟨n,k,hn,hk⟩|hg⟩:=h.Au p hp
 ·refine⟨ht,.inr ?_⟩;rw[hk] at ht;obtain⟨cells,hc⟩:=wH.1 (h.conv p.1 n hn _ ht);obtain⟨k',ty,e1,e2,e3,e4⟩:=h.box p.1 n hn cells hc;rw[ht] at e1;have:k=k':=by simpa [eI] using e1
  subst this;exact⟨n,k,cells,ty,hk,hn,hc,e2,e3,e4⟩
 grind⟩
theorem zT.put {d:Option Nat} (h:zT pl ds env X (a.put d v) w) (hd: ∀x,d=some x-> ∀p,p∈ds.pins->p.1≠x):zT pl ds env X a w:=⟨h.1,λp hp=>by
 obtain⟨h1,h2⟩:=h.2 p hp;refine⟨?_,h2⟩;cases d with
 |none=>exact h1
 |some x=>rwa [gv _ _ _ _ (hd x rfl p hp)] at h1⟩
theorem Qe (hs:Shape P pl cs og m o r) (iP:r.fl=true): ∀x,o.dst=some x->pl.km x=true->x∈pa r.l:=by
 have f: ∀{WR:CS} {d:Nat} {e:Ex},o.dst=some d-> ∀x,o.dst=some x->pl.km x=true->x∈pa (sH pl WR d e).1:=λhd x hx hg=>by
  rw[hd] at hx;injection hx with hx;subst hx
  unfold sH;rw[if_pos (by simp[hg])];simp[pa,TI.KF]
 cases hs with
 |mv x d e ho hd hv hp=>exact f hd
 |ld t x d b off nd ag sz bs ho hd hx ht hb hp hl ha=>exact f hd
 |fa S x g d b off nd fo sz ho hd hx hf OW cI kZ hz=>
  intro y hy hg;rw[hd] at hy;injection hy with hy;subst hy
  have:=(tH hg).2.2
  grind
 |rd d ss hd hs hn hp=>intro y hy _;rw[hd] at hy;injection hy with hy;subst hy;simp[pa,TI.KF]
 |DU=>cases iP
 |act=>cases iP
 |bx=>cases iP
 |al=>cases iP
 |st=>cases iP
theorem TM (hs:Shape P pl cs og m o r) (h:fH pl ds cs env X w0 a w) (hg:DV env og)
  (hl: ∀b,b∈r.nd->dE (env b)=true) (iP:r.fl=false) (hd:ij P jg next r.l env w0 X)

  (hK: ∀a' w' dx X' eH,fH pl ds r.cs dx X' eH a' w'->next dx eH X'->z7 (m=false) pl r.sb a w a' w'->K a' w')
  (rF: ∀b,b∈pa r.l-> ∀p,p∈ds.pins->p.1≠b)
  (hQ: ∀ch w' dx X' eH,Kp X' eH w'->zT pl ds dx X' a w'->jg ch dx eH X'->Q (.panic ch) a w'):o.wp P a w K Q:=by
 have real: ∀(qh:CS) (ss:List (Nat×Ex)),(∀x,o.dst=some x->look pl.boxes x=none)->subst pl cs o.op.operands.toList=some ss->Iw o.op=true->
   (∀m' w' v,Step m' X w w'->fH pl ds qh (KE env o.dst v) (grow X w w') w' (a.put o.dst v) w')->r.cs=qh->
   (∀wa,Kp X w0 wa->jV P m X wa (λv w' X'=>next (KE env o.dst v) w' X') (λch w' X'=>jg ch env w' X') ((P6 (Ga env ss) o.op o.type).run P wa))->o.wp P a w K Q:=by
  intro qh ss JD NV hn hS jS he;have he:=he w h.ext;unfold tG;rw[h.exec NV hn,<-afg _ (λ_=>rfl)];have fQ: ∀w' v,Step m X w w'->z7 (m=false) pl r.sb a w (a.put o.dst v) w':=λw' v hs=>⟨λhm=>by subst hm;exact rU.ag5 hs JD,h.ag4 hs.fr⟩;cases hr:(P6 (Ga env ss) o.op o.type).run P w with
  |ok n w'=>
   rw[hr] at he;cases n<;>simp only[jV] at he<;>simp only[oH]
   case value v=>exact hK _ _ _ _ _ (jS▸hS m w' v he.1) he.2 (fQ _ _ he.1)
   case skip=>exact hK _ _ _ _ _ (jS▸hS m w' undef he.1) he.2 (fQ _ _ he.1)
   case enter f args=>
    obtain⟨rfl,hc⟩:=he;refine hc.mono λe mJ hR=>?_;cases e with
    |returned v=>exact hK _ _ _ _ _ (jS▸hS m mJ v hR.1) hR.2 (fQ _ _ hR.1)
    |panicked ch=>exact hQ _ _ _ _ _ (Kp.refl _ _) (h.MU hR.1).pinned hR.2
    |outgrown=>exact hR.elim
  |halt x w'=>
   rw[hr] at he;cases x<;>simp only[jV] at he<;>simp only[oH]
   case panic v=>exact hQ _ _ _ _ _ (Kp.refl _ _) (h.MU he.1).pinned he.2
 have boxed: ∀{d sz:Nat} {e:Ex} {ag:Bool},ij P jg next [if !ag&&sz==1 then .Cb d e else .box d sz e] env w0 X->
   (e.ev env).cells.size=sz/\next (jX env d (.agg (e.ev env).cells)) w0 X:=by
  intro d sz e ag hd;simp only[ij] at hd;split at hd
  ·rename_i th;simp only[aA,de,beq_iff_eq] at th;obtain⟨g1,g2⟩:=dM.1 hd;rw[rG g1];exact⟨by simp[th.2],g2⟩
  ·obtain⟨g1,g2⟩:=dM.1 hd;exact⟨by simpa using g1,g2⟩
 have Iz: ∀(t d:Nat) (_:d<pl.n) (cells:Array Value),rU pl [] a w (a.put (some d) (eI w.heap.size 0)) (w.alloc (.cells cells t)):=by
  intro t d cI cells;refine rU.fc (Ext.alloc _ _) λb n WT k hk sP=>?_;by_cases e:b=d
  ·subst e;rw[rQ _ _ _ _ (by rw[h.size];omega),if_pos rfl] at sP;have:w.heap.size=k:=by simpa [eI] using sP
   omega
  ·rwa [gv _ _ _ _ e] at sP
 cases hs with
 |mv=>cases iP
 |ld=>cases iP
 |fa=>cases iP
 |rd=>cases iP
 |DU d ss kI NV hn hp=>
  refine real (cs.bind pl d) ss (λx hx=>by rw[kI] at hx;injection hx with hx;subst hx;exact(zS hp).2.1) NV hn (λm' w' v fQ=>?_) rfl ?_
  ·rw[kI];exact(h.MU fQ).bind hp v (rF d (by simp[pa,TI.KF]))
  ·intro wa HG;have:=hd wa HG;rw[kI];exact this
 |act ss kI NV hn=>
  refine real cs ss (λx hx=>by rw[kI] at hx;cases hx) NV hn (λm' w' v fQ=>?_) rfl ?_
  ·rw[kI];exact h.MU fQ
  ·intro wa HG;have:=hd wa HG;rw[kI];exact this
 |bx t x d sz e ag ho kI hb hv ht cI=>
  have he:=h.eval hv;obtain⟨h1,h2⟩:=boxed hd;have hr:(execOp a.eval o).run P w= .ok (.value (eI w.heap.size 0)) (w.alloc (.cells (e.ev env).cells t)):=by
   simp[execOp,ho,he,Instr.box,newVar,newRow,eI]
  unfold tG;rw[hr];simp only[oH];rw[kI];exact hK _ _ _ _ _ (h.afk cI hb (e.ev env).cells h1 t (rF d (by split<;>simp[pa,TI.KF]))) h2 ⟨λ_=>Iz t d cI _,h.ag4 ((Ext.alloc _ _).fr X)⟩
 |al t d sz i z ag ho kI hb hi hz ht cI=>
  obtain⟨h1,h2⟩:=boxed hd;have hr:(execOp a.eval o).run P w= .ok (.value (eI w.heap.size 0)) (w.alloc (.cells z.cells t)):=by
   simp[execOp,ho,Instr.alloc,zeroValue,typeInfo,hi,hz,newVar,newRow,eI]
  unfold tG;rw[hr];simp only[oH];rw[kI];exact hK _ _ _ _ _ (h.afk cI hb z.cells h1 t (rF d (by split<;>simp[pa,TI.KF]))) h2 ⟨λ_=>Iz t d cI _,h.ag4 ((Ext.alloc _ _).fr X)⟩
 |st t x v b off nd sz bs e ag ho kI hx hv ht hb cI=>
  obtain⟨⟨n,hn⟩,qf,hk⟩:=h.xa hx;obtain⟨hA,k,he,iy⟩:=hk hl hg;obtain⟨cells,hc⟩:=wH.1 hA;obtain⟨k',ty,e1,e2,e3,e4⟩:=h.box b n hn cells hc;have sP:k'=k:=by rw[iy] at e1;simpa [eI] using e1.symm
  subst sP;have TJ:bs=n:=by rw[hb] at hn;injection hn
  subst TJ;obtain⟨h1,h2,h3⟩:(e.ev env).cells.size=sz/\(e.ev env).cells.toList.all one=true/\next (jX env b (.agg (bM (env b).cells.toList off (e.ev env).cells.toList).toArray)) w0 X:=by
   simp only[ij] at hd;split at hd
   ·rename_i th;simp only[aA,de,beq_iff_eq] at th;obtain⟨g1,g2⟩:=dM.1 hd;rw[rG g1];exact⟨by simp[th.2],by simp[g1],g2⟩
   ·split at hd
    ·rename_i th;simp only[aA,beq_iff_eq] at th;obtain⟨g1,hd⟩:=dM.1 hd;obtain⟨g2,g3⟩:=dM.1 hd;have g1:(e.ev env).cells.size=sz:=by simpa using g1
     refine⟨g1,g2,?_⟩;have aoj:bM (env b).cells.toList off (e.ev env).cells.toList=(e.ev env).cells.toList:=by
      unfold bM;rw[hc,th.1];have hz:cells.size<=(e.ev env).cells.size:=by omega
      show List.take 0 cells.toList++(e.ev env).cells.toList++List.drop (0+(e.ev env).cells.toList.length) cells.toList=(e.ev env).cells.toList
      rw[List.take_zero,bp,List.drop_eq_nil_of_le (by simpa using hz),List.append_nil]
     rw[aoj];omega
    ·obtain⟨g1,hd⟩:=dM.1 hd;obtain⟨g2,g3⟩:=dM.1 hd;exact⟨by simpa using g1,g2,g3⟩
  have h':=h.mC (nd:=nd) λb' dO=>⟨qf b' dO,hl b' dO⟩;have fQ:=NU (aaH ht) e2 off zQ (e.ev env) h1 h2;have hr:(execOp a.eval o).run P w= .ok .skip (w.setRow k' (bM cells.toList off (e.ev env).cells.toList).toArray):=by
   simp[execOp,ho,he,(h.eval hv),fQ]
  unfold tG;rw[hr];simp only[oH];rw[kI];obtain⟨f1,f2⟩:=afl (zu:=(bM cells.toList off (e.ev env).cells.toList).toArray) e2;have gh:((bM cells.toList off (e.ev env).cells.toList).toArray).size=bs:=by
   simp only[List.size_toArray];rw[EJ oQ];simpa using e3
  rw[hc] at h3;refine hK _ _ _ _ _ (h'.store hb hc iy e2 e4 gh f1 f2) h3 ⟨λ_ RB KG=>
   ⟨f1.mono λj hj=>⟨b,bs,hb,KG b (List.mem_singleton.2 rfl),by rw[hj];omega⟩,λ_ _ hz=>hz⟩,λb2 n2 k2 g1 g2 g3=>f1.block k2 (h.fv g1 g3).1 λhj=>?_⟩
  have hj:k2=k':=hj;subst hj;exact g2 (List.mem_singleton.2 (h.inj b2 b n2 bs g1 hn (h.conv b2 n2 g1 _ g3) hA _ g3 iy))
variable {r0 : CR} {want : Bool} {d' g : Nat}
theorem Qf (hU:qH g want op r0=some r) (hy:oV (env g) want=true) (hd:ij P jg next r.l env w0 X):
  ij P jg next r0.l env w0 X:=by
 obtain⟨fl,nd,l,c,rb,sb⟩:=r0;unfold qH at hU;dsimp only at hU;split at hU
 ·grind
 ·split at hU
  ·cases hU
  ·injection hU with e;subst e
   simpa only [ij,WG,hy,if_true] using hd
 ·split at hU
  ·cases hU
  ·injection hU with e;subst e
   obtain⟨v,h1,_,h2⟩:=hd;exact⟨v,h1 hy,h2⟩
 ·split at hU
  ·cases hU
  ·injection hU with e;subst e
   exact hd.1 hy
 ·cases hU
theorem CG (hU:qH g want op r0=some r):r.cs=r0.cs/\r.nd=r0.nd/\r.fl=r0.fl/\r.rb=r0.rb/\r.sb=r0.sb:=by
 obtain⟨fl,nd,l,c,rb,sb⟩:=r0;unfold qH at hU;dsimp only at hU;split at hU<;>grind<;>grind
theorem KO (hU:qH g want op r0=some r):pa r.l=pa r0.l:=by
 obtain⟨fl,nd,l,c,rb,sb⟩:=r0;unfold qH at hU;dsimp only at hU;split at hU<;>(try split at hU)<;>first
  |(cases hU;done)
  |(injection hU with e;subst e;rfl)
theorem ag6 (nd:List Nat):pa (nd.map .zY)=[]:=by
 induction nd with
 |nil=>rfl
 |cons b nd ih=>assumption
theorem AS (l l':List TI):pa (l++l')=pa l++pa l':=List.flatMap_append
theorem HH (r:CR):pa r.all=pa r.l:=by grind [CR.all,AS,ag6]
theorem WU (hs:Shape P pl cs (some (g,want)) m o r0) (hU:qH g want o.op r0=some r) (h:fH pl ds cs env X w0 a w)
  (hl: ∀b,b∈r0.nd->dE (env b)=true) (pc:oV (env g) want=false) (hd:ij P jg next r.l env w0 X) (rF: ∀b,b∈pa r.l-> ∀p,p∈ds.pins->p.1≠b):
  ∃dx,fH pl ds r.cs dx X w0 (a.put o.dst undef) w/\next dx w0 X:=by
 have afm: ∀(WR:CS) (d:Nat) (e:Ex) (nd rb:List Nat),fH pl ds WR env X w0 a w->o.dst=some d->pl.nR d=true->ag0 o.op=false->r0=⟨true,nd,(sH pl WR d e).1,(sH pl WR d e).2,rb,[]⟩->
   ∃dx,fH pl ds r.cs dx X w0 (a.put o.dst undef) w/\next dx w0 X:=by
  intro WR d e nd rb h1 kI hp hfa hr;subst hr;unfold qH sH at hU;by_cases qi:(pl.km d||pl.mat.contains d)=true
  ·simp only[qi,if_true] at hU;split at hU
   ·cases hU
   ·injection hU with e1;subst e1
    simp only[ij,WG,pc,aW,if_false] at hd;exact⟨_,by rw[kI];exact h1.bind hp undef (rF d (by simp[pa,TI.KF])),hd⟩
  ·simp only[qi,hfa,aW,if_false] at hU;cases hU
 cases hs with
 |mv x d e ho kI hv hp=>exact afm cs d e [] [] h kI hp (by rcases ho with ho|ho<;>rw[ho]<;>rfl) rfl
 |ld t x d b off nd ag sz bs ho kI hx ht hb hp cI ha=>
  obtain⟨_,qf,_⟩:=h.xa hx;exact afm (cs.mC nd) d _ nd [b] (h.mC λb' dO=>⟨qf b' dO,hl b' dO⟩) kI hp (by rw[ho];rfl) rfl
 |fa S x f d b off nd fo sz ho kI hx hf OW cI kZ hz=>
  obtain⟨hb,qf,hk⟩:=h.xa hx;have h':=h.mC (nd:=nd) λb' dO=>⟨qf b' dO,hl b' dO⟩;unfold qH at hU;simp only[ho,ag0,if_true,aj] at hU;subst hU;refine⟨env,?_,hd⟩;rw[kI];exact h'.derive cI kZ OW _ hb λhg=>by simp only[DV] at hg;simp_all
 |rd d ss kI NV hn hp=>
  unfold qH at hU;dsimp only at hU;split at hU
  ·cases hU
  ·injection hU with e;subst e
   obtain⟨v,_,h1,h2⟩:=hd;have hv:=h1 pc;subst hv;exact⟨_,by rw[kI];exact h.bind hp undef (rF d (by simp[pa,TI.KF])),h2⟩
 |DU d ss kI NV hn hp=>
  unfold qH at hU;dsimp only at hU;split at hU
  ·cases hU
  ·injection hU with e;subst e
   exact⟨_,by rw[kI];exact h.bind hp undef (rF d (by simp[pa,TI.KF])),hd.2 pc⟩
 |act ss kI NV hn=>
  unfold qH at hU;dsimp only at hU;split at hU
  ·cases hU
  ·injection hU with e;subst e
   exact⟨_,by rw[kI];exact h,hd.2 pc⟩
 |bx t x d sz e ag=>cases WV:(!ag&&sz==1)<;>(unfold qH at hU;simp only[WV] at hU;cases hU)
 |al t d sz i z ag=>cases WV:(!ag&&sz==1)<;>(unfold qH at hU;simp only[WV] at hU;cases hU)
 |st t x v b off nd sz bs e ag=>
  cases WV:(!ag&&sz==1)<;>cases aok:(off==0&&sz==bs)<;>(unfold qH at hU;simp only[WV,aok] at hU;cases hU)
theorem KP (h:fH pl ds cs env X w0 a w) {gs:Nat} (hg:o.guard=some (j,want)) (mO:(ops[j]?).bind (·.dst)=some gs)
  (hv:valOf pl cs (.tmp gs)=some (.t g)):cP o (yielded ops a.tmps)=oV (env g) want:=by
 have ht:a.tmps[gs]? =some (env g):=by
  simp only[valOf] at hv;split at hv
  ·rename_i hU;injection hv with hv
   injection hv with hv
   subst hv;exact h.rj _ hU
  ·have:=h.sig _ (Cd hv);assumption
 unfold cP yielded;simp only[hg,mO,cW,ht,oV];cases env g<;>simp
theorem acB (hc:BP P pl cs ops m o=some r) (iP:r.fl=true) (h:fH pl ds cs env X w0 a w) (hd:ij P jg next r.all env w0 X) (rF: ∀b,b∈pa r.l-> ∀p,p∈ds.pins->p.1≠b):
  ∃v dx,(YF P pl r.rb ops o v a w/\ ∀b,b∈r.rb->YL P pl b ops o v a w)/\fH pl ds r.cs dx X w0 (a.put o.dst v) w/\next dx w0 X:=by
 obtain⟨hl,hd⟩:=KN _ hd;unfold BP at hc;split at hc
 ·rename_i hg;obtain⟨v,dx,h1,h2,h3⟩:=TH (tI hc) h trivial hl iP hd rF;exact⟨v,dx,⟨.inl ⟨by simp[cP,hg],h1.1⟩,λb hb=>.inl ⟨by simp[cP,hg],h1.2 b hb⟩⟩,h2,h3⟩
 ·rename_i j want hg;split at hc
  ·cases hc
  ·rename_i gs mO;split at hc
   ·rename_i g hv;have hw:=KP h hg mO hv;cases xd:Eb P pl cs (some (g,want)) m o with
    |none=>rw[xd] at hc;cases hc
    |some r0=>
     rw[xd] at hc;simp only[cW] at hc;obtain⟨e1,e2,e3,e4,e5⟩:=CG hc;cases hy:oV (env g) want with
     |true=>
      obtain⟨v,dx,h1,h2,h3⟩:=TH (tI xd) h hy (e2▸hl) (e3▸iP) (Qf hc hy hd) (λb hb=>rF b (by rw[KO hc];exact hb));exact⟨v,dx,⟨.inl ⟨by rw[hw,hy],e4▸h1.1⟩,λb hb=>.inl ⟨by rw[hw,hy],h1.2 b (e4▸hb)⟩⟩,e1▸h2,h3⟩
     |false=>
      obtain⟨dx,h1,h2⟩:=WU (tI xd) hc h (e2▸hl) hy hd rF;exact⟨undef,dx,⟨.inr ⟨by rw[hw,hy],rfl⟩,λ_ _=>.inr ⟨by rw[hw,hy],rfl⟩⟩,h1,h2⟩
   ·cases hc
theorem WW (hc:BP P pl cs ops m o=some r) (iP:r.fl=true): ∀x,o.dst=some x->look pl.boxes x=none:=by
 unfold BP at hc;split at hc
 ·exact TG (tI hc) iP
 ·rename_i j want hg;split at hc
  ·cases hc
  ·rename_i gs mO;split at hc
   ·rename_i g hv;cases xd:Eb P pl cs (some (g,want)) m o with
    |none=>grind
    |some r0=>
     rw[xd] at hc;simp only[cW] at hc;exact TG (tI xd) ((CG hc).2.2.1▸iP)
   ·cases hc
theorem aj5 (hc:BP P pl cs ops m o=some r) (iP:r.fl=true): ∀x,o.dst=some x->pl.km x=true->x∈pa r.l:=by
 unfold BP at hc;split at hc
 ·exact Qe (tI hc) iP
 ·rename_i j want hg;split at hc
  ·cases hc
  ·rename_i gs mO;split at hc
   ·rename_i g hv;cases xd:Eb P pl cs (some (g,want)) m o with
    |none=>grind
    |some r0=>
     rw[xd] at hc;simp only[cW] at hc;rw[KO hc];exact Qe (tI xd) ((CG hc).2.2.1▸iP)
   ·cases hc
theorem fH.apart (h:fH pl ds cs env X w0 a w) (hc:BP P pl cs ops m o=some r) (iP:r.fl=true) (hm: ∀b,b∈pa r.l-> ∀p,p∈ds.pins->p.1≠b):
  ∀x,o.dst=some x-> ∀p,p∈ds.pins->p.1≠x:=λx hx p hp e=>by
 rcases(h.Au p hp).2 with⟨n,_,hn,_⟩|hg
 ·rw[e,WW hc iP x hx] at hn;cases hn
 ·exact hm x (aj5 hc iP x hx (e▸hg)) p hp e
theorem Qg (hc:BP P pl cs ops m o=some r) (h:fH pl ds cs env X w0 a w) (hd:ij P jg next r.all env w0 X)

  (hK: ∀a' w' dx X' eH,fH pl ds r.cs dx X' eH a' w'->next dx eH X'->z7 (m=false) pl r.sb a w a' w'->K a' w')
  (rF: ∀b,b∈pa r.l-> ∀p,p∈ds.pins->p.1≠b)
  (hQ: ∀ch w' dx X' eH,Kp X' eH w'->zT pl ds dx X' a w'->jg ch dx eH X'->Q (.panic ch) a w'):
  if cP o (yielded ops a.tmps)=true then o.wp P a w K Q else K (a.put o.dst undef) w:=by
 cases iP:r.fl with
 |true=>
  obtain⟨v,dx,hy,h1,h2⟩:=acB hc iP h hd rF;rcases hy.1 with⟨hw,hv⟩|⟨hw,hv⟩
  ·rw[if_pos hw];unfold tG;rw[hv w (Fr.refl _ w)];exact hK _ _ _ _ _ h1 h2 ⟨λ_=>rU.refl pl _ a w _ _ (WW hc iP),z6.refl _ _ _ _⟩
  ·rw[if_neg gQ];subst hv;exact hK _ _ _ _ _ h1 h2 ⟨λ_=>rU.refl pl _ a w _ _ (WW hc iP),z6.refl _ _ _ _⟩
 |false=>
  obtain⟨hl,hd⟩:=KN _ hd;unfold BP at hc;split at hc
  ·rename_i hg;rw[if_pos (by simp[cP,hg])];exact TM (tI hc) h trivial hl iP hd hK rF hQ
  ·rename_i j want hg;split at hc
   ·cases hc
   ·rename_i gs mO;split at hc
    ·rename_i g hv;have hw:=KP h hg mO hv;cases xd:Eb P pl cs (some (g,want)) m o with
     |none=>rw[xd] at hc;cases hc
     |some r0=>
      rw[xd] at hc;simp only[cW] at hc;obtain⟨e1,e2,e3,e4,e5⟩:=CG hc;cases hy:oV (env g) want with
      |true=>
       rw[if_pos (by rw[hw,hy])];exact TM (tI xd) h hy (e2▸hl) (e3▸iP) (Qf hc hy hd) (e5▸e1▸hK) (λb hb=>rF b (by rw[KO hc];exact hb)) hQ
      |false=>
       rw[if_neg gQ];obtain⟨dx,h1,h2⟩:=WU (tI xd) hc h (e2▸hl) hy hd rF;refine hK _ _ _ _ _ h1 h2 ⟨λ_=>?_,z6.refl _ _ _ _⟩;refine rU.fc (Ext.refl w) λb n hb k hk sP=>?_;cases kI:o.dst with
       |none=>rw[kI] at sP;exact sP
       |some x=>
        rw[kI] at sP;by_cases gn:b=x
        ·subst gn;by_cases cI:b<a.tmps.size
         ·rw[rQ _ _ _ _ cI,if_pos rfl] at sP;cases sP
         ·rw[qu (by simp[nO];omega)] at sP;cases sP
        ·rwa [gv _ _ _ _ gn] at sP
    ·cases hc
theorem Qh (hN: ∀qh a' w' dx X' eH,fH pl ds qh dx X' eH a' w'->next dx eH X'->Q .normal a' w')
  (hQ: ∀ch a' w' dx X' eH,a'.defers=ds.ds->Kp X' eH w'->zT pl ds dx X' a' w'->jg ch dx eH X'->Q (.panic ch) a' w'): ∀(l:List Oper) (cs:CS) (tl:List TI) (env:Env) (X:XS) (w0:World) (a:Act) (w:World),
  Ix P pl ops l cs=some tl->(∀b,b∈pa tl-> ∀p,p∈ds.pins->p.1≠b)->fH pl ds cs env X w0 a w->ij P jg next tl env w0 X->wpList P ops Q l a w
 |[],cs,tl,env,X,w0,a,w,hc,_,h,hd=>by
  simp only[Ix,aj] at hc;subst hc;exact hN _ _ _ _ _ _ h hd
 |o::l,cs,tl,env,X,w0,a,w,hc,hm,h,hd=>by
  simp only[Ix] at hc;cases hr:BP P pl cs ops true o with
  |none=>grind
  |some r=>
   cases hs:Ix P pl ops l r.cs with
   |none=>grind
   |some C2=>
    simp only[hr,hs,aZ,aj] at hc;subst hc;rw[CF] at hd;rw[AS,HH] at hm;refine wpList_step λK hK=>Qg hr h hd (λa' w' dx X' eH h1 h2 _=>hK _ _ (Qh hN hQ l r.cs C2 dx X' eH a' w' hs (λb hb=>hm b (cC _ hb)) h1 h2)) (λb hb=>hm b (bq _ hb)) ?_;exact λch w' dx X' eH hx AT hp=>hQ ch a w' dx X' eH h.defers hx AT hp
theorem AU: ∀{l:List Nat} {i:Nat} {r:CR},Cc P pl ops cs bN l=some (i,r)->
  i∈l/\r.fl=true/\MT pl ops bN i r.rb=true/\ ∃o,ops[i]? =some o/\BP P pl cs ops (rl pl ops i) o=some r
 |[],_,_,h=>by cases h
 |j::l,i,r,h=>by
  simp only[Cc] at h;split at h
  ·rename_i x hx;split at h
   ·rename_i hc;simp only[aj,cY] at h;obtain⟨rfl,rfl⟩:=h
    grind
   ·obtain⟨h1,h2⟩:=AU h;simp_all
  ·obtain⟨h1,h2⟩:=AU h;simp_all
theorem NW {b:Nat×Nat×Bool×Value} (h:Iy P pl o=some b) (m:Bool):BP P pl cs ops m o=some ⟨false,[],[AP b],yA cs b.1,[],[]⟩:=by
 unfold Iy at h;split at h
 ·rename_i t d hg xe hd;split at h
  ·rename_i sz z ag s h1 h2 h3;split at h
   ·rename_i hc;simp only[aj] at h;subst h;simp only[BP,hg,Eb,xe,hd,h1,h2,WI,h3,hc,if_true,AP,yA]
   ·cases h
  ·cases h
 ·cases h
theorem ag7 (env:Env) (h:d≠d') (v v':Value):jX (jX env d v) d' v'=jX (jX env d' v') d v:=by
 funext s
 by_cases h1:s=d
 ·grind [iR,mU]
 ·by_cases h2:s=d'
  ·subst h2;rw[mU,iR _ _ (Ne.symm h),mU]
  grind [iR]
theorem afn {b b':Nat×Nat×Bool×Value} (cu:b.1≠b'.1) {l:List TI} (h:ij P jg next (AP b::AP b'::l) env w0 X):ij P jg next (AP b'::AP b::l) env w0 X:=by
 obtain⟨d,n,o,z⟩:=b;obtain⟨d',n',o',z'⟩:=b';have cu:d≠d':=cu;cases o<;>cases o'<;>simp only[AP,ij,WG,Ex.ev,dM,if_true,if_false,aW] at h⊢ <;>obtain⟨h1,h2,h3⟩:=h<;>grind [ag7]
theorem acC {dx:Env} (h:fH pl ds (yA (yA cs d') d) dx X' eH a' w'):fH pl ds (yA (yA cs d) d') dx X' eH a' w':=by
 refine⟨h.size,h.defers,h.Au,h.ext,h.xH,h.rj,λp hp=>h.sig p ?_,h.box,h.inj,h.conv,λb hb=>h.live b ?_,λp hp=>h.ptr p ?_⟩
 ·simp only[yA,CS.kill,CS.mC,iB] at hp⊢
  grind
 ·simp only[yA,CS.kill,CS.mC,sG,List.mem_singleton] at hb⊢
  grind
 ·simp only[yA,CS.kill,CS.mC,iB] at hp⊢
  grind
theorem abK {l:List Nat} (h:acz l i=true):l=[i]:=by
 unfold acz at h
 grind
theorem WX (ho:ops[i]? =some o) (hx:BP P pl cs ops (rl pl ops i) o=some r) (TN:r.sb=[]) (h:fH pl ds cs env X w0 a w) (hd:ij P jg next r.all env w0 X) {fuel:Nat}
  (rF: ∀b,b∈pa r.l-> ∀p,p∈ds.pins->p.1≠b)
  (hQ: ∀ch a' w' dx X' eH,a'.defers=ds.ds->Kp X' eH w'->zT pl ds dx X' a' w'->jg ch dx eH X'->Q (.panic ch) a' w')
  (hK: ∀a' w' dx X' eH,fH pl ds r.cs dx X' eH a' w'->next dx eH X'->wh P pl ops Q fuel (bN.setIfInBounds i true) a' w'):
  wpOp P ops Q i (λa' w'=>(∀o,ops[i]? =some o->z7 (rl pl ops i=false) pl (wN pl ops o) a w a' w')/\wh P pl ops Q fuel (bN.setIfInBounds i true) a' w') a w:=by
 have wO:=Qg (ops:=ops) (K:=λa' w'=>(∀o',ops[i]? =some o'->z7 (rl pl ops i=false) pl (wN pl ops o') a w a' w')/\wh P pl ops Q fuel (bN.setIfInBounds i true) a' w') (Q:=Q) hx h hd
  (λa' w' dx X' eH h1 h2 h3=>⟨λo' wj=>⟨λzw=>(h3.1 zw).sub λb hb=>(by rw[TN] at hb;cases hb),h3.2.sub λb hb=>(by rw[TN] at hb;cases hb)⟩,hK a' w' dx X' eH h1 h2⟩)
  rF (λch w' dx X' eH hk AT hp=>hQ ch a w' dx X' eH h.defers hk AT hp)
 unfold wpOp;simp only[ho] at wO⊢;split
 ·grind
 grind
theorem HI (hN: ∀qh a' w' dx X' eH,fH pl ds qh dx X' eH a' w'->next dx eH X'->Q .normal a' w')
  (hQ: ∀ch a' w' dx X' eH,a'.defers=ds.ds->Kp X' eH w'->zT pl ds dx X' a' w'->jg ch dx eH X'->Q (.panic ch) a' w')
  (JE: ∀c a (d:Option Nat) v w,(∀x,d=some x-> ∀p,p∈ds.pins->p.1≠x)->Q (.panic c) (a.put d v) w->Q (.panic c) a w) (DA:wL ops=true):
  ∀(fuel:Nat) (bN:Array Bool) (cs:CS) (tl:List TI) (env:Env) (X:XS) (w0:World) (a:Act) (w:World),
  yB P pl ops fuel bN cs=some tl->(∀b,b∈pa tl-> ∀p,p∈ds.pins->p.1≠b)->fH pl ds cs env X w0 a w->ij P jg next tl env w0 X->wh P pl ops Q fuel bN a w
 |0,bN,cs,tl,env,X,w0,a,w,hc,_,h,hd=>by
  simp only[yB] at hc;split at hc
  ·rename_i hr;simp only[aj] at hc;subst hc;exact⟨by simpa using hr,hN _ _ _ _ _ _ h hd⟩
  ·cases hc
 |fuel+1,bN,cs,tl,env,X,w0,a,w,hc,hm,h,hd=>by
  simp only[yB] at hc;split at hc
  ·rename_i i r hf;obtain⟨h1,h2,h3,o,ho,h4⟩:=AU hf;cases hs:yB P pl ops fuel (bN.setIfInBounds i true) r.cs with
   |none=>simp[hs] at hc
   |some C2=>
    simp only[hs,aZ,aj] at hc;subst hc;rw[CF] at hd;rw[AS,HH] at hm;obtain⟨v,dx,hy,hS,hn⟩:=acB h4 h2 h hd (λb hb=>hm b (bq _ hb));have EK: ∀j oj,ops[j]? =some oj->j≠i->bN.getD j true=false-> ¬(j∈G5 ops bN i\/j=i\/(bN.getD j true=false/\ ∃oj,ops[j]? =some oj/\waits oj i=true))->_:=
     λj oj hj cu EI pc=>P9 ho h3 j oj hj cu EI (λhb=>pc (.inl hb)) (by
      cases hw:waits oj i with
      |false=>rfl
      |true=>exact absurd (.inr (.inr ⟨EI,oj,hj,hw⟩)) pc)
    obtain⟨Y,P8,hY,fQ⟩: ∃Y:Act->World->Prop,(∀a w,Y a w->Yx P ops o v a w)/\Y a w/\ ∀j oj,oj.dst=oj.dst->o.apart ops oj=true->(rl pl ops j=false\/CE o=true\/TB o r.rb=true)->(∀b,b∈wN pl ops oj-> ¬b∈r.rb)->
      WK pl ops o oj (rl pl ops j=false) (wN pl ops oj) Y:=by
     cases zw:TB o r.rb with
     |false=>exact⟨YF P pl r.rb ops o v,λ_ _ h=>h.yx,hy.1,λj oj _ _ h4 h5=>YF.stb (h4.imp id λh=>h.elim id λh=>by cases h) h5⟩
     |true=>
      unfold TB at zw;split at zw
      ·rename_i t x xe;have hxr:x∈r.rb:=by simpa using zw
       refine⟨YL P pl x ops o v,λ_ _ h=>h.yx,hy.2 x hxr,λj oj _ KH _ h5=>YL.stb (λd hd hdx=>?_) λhm=>h5 x hm hxr⟩;subst hdx;refine(wM KH).2.2 d hd (bq _ (List.mem_filterMap.2 ⟨.tmp d,?_,rfl⟩));simp[xe,Op.operands]
      ·cases zw
    refine KI P8 ho (xE DA) (TE ho h3) (λc a' w' hq=>JE c a' o.dst v w' (h.apart h4 h2 λb hb=>hm b (bq _ hb)) hq) fuel bN a w
     (λj=>j∈G5 ops bN i\/j=i\/(bN.getD j true=false/\ ∃oj,ops[j]? =some oj/\waits oj i=true)) (.inr (.inl rfl)) (λj hj=>?_)
     (λj oj hj cu EI pc=>have h:=EK j oj hj cu EI pc;⟨h.1,fQ j oj rfl h.1 h.2.1 h.2.2⟩) h1 hY ?_
    ·rcases hj with hj|rfl|⟨hu,oj,EH,hw⟩
     ·rcases TD j hj with h|⟨h,oj,k,q1,q2,q3⟩
      ·exact .inl h
      ·exact .inr ⟨h,oj,k,q1,q2,.inl q3⟩
     ·exact .inl rfl
     ·exact .inr ⟨hu,oj,i,EH,hw,.inr (.inl rfl)⟩
    exact HI hN hQ JE DA fuel _ r.cs C2 dx X w0 _ w hs (λb hb=>hm b (cC _ hb)) hS hn
  ·split at hc
   ·rename_i i hr;split at hc
    ·rename_i o ho;split at hc
     ·rename_i r hx;split at hc
      ·rename_i TN;cases hs:yB P pl ops fuel (bN.setIfInBounds i true) r.cs with
       |none=>simp[hs] at hc
       |some C2=>
        simp only[hs,aZ,aj] at hc;subst hc;rw[CF] at hd;rw[AS,HH] at hm;refine⟨λh0=>(by rw[hr] at h0;cases h0),λi' EL=>?_⟩;rw[hr] at EL;have hii:=List.mem_singleton.1 EL;subst hii;have qv: ∀b,b∈r.sb->b∈wN pl ops o:=λb hb=>by have:=List.all_eq_true.1 TN b hb;simpa using this
        have wO:=Qg (ops:=ops) (K:=λa' w'=>(∀o',ops[i']? =some o'->z7 (rl pl ops i'=false) pl (wN pl ops o') a w a' w')/\wh P pl ops Q fuel (bN.setIfInBounds i' true) a' w') (Q:=Q) hx h hd
         (λa' w' dx X' eH h1 h2 h3=>⟨λo' wj=>by rw[ho] at wj;injection wj with wj;subst wj;exact⟨λzw=>(h3.1 zw).sub qv,h3.2.sub qv⟩,HI hN hQ JE DA fuel _ r.cs C2 dx X' eH a' w' hs (λb hb=>hm b (cC _ hb)) h1 h2⟩)
         (λb hb=>hm b (bq _ hb)) (λch w' dx X' eH hk AT hp=>hQ ch a w' dx X' eH h.defers hk AT hp)
        unfold wpOp;simp only[ho] at wO⊢;split
        ·rename_i hw;rw[if_pos hw] at wO;exact .inl wO
        ·rename_i hw;rw[if_neg hw] at wO;omega
      ·cases hc
     ·cases hc
    ·cases hc
   ·rename_i i j hr;split at hc
    ·rename_i bi hp;cases hs:yB P pl ops fuel (bN.setIfInBounds i true) (yA cs bi.1)with
     |none=>simp[hs] at hc
     |some C2=>
      simp only[hs,aZ,aj] at hc;subst hc;have hmc: ∀(i:TI) (l:List TI),pa (i::l)=pa [i]++pa l:=λi l=>AS [i] l;rw[hmc] at hm;unfold ajy at hp;split at hp
      ·rename_i bi' bj Qi hbj;split at hp
       ·rename_i hpc;simp only[aj] at hp;subst hp;simp only[aA,de,beq_eq_false_iff_ne] at hpc;obtain⟨⟨cu,hri⟩,hrj⟩:=hpc;replace hri:=abK hri;replace hrj:=abK hrj;obtain⟨oi,hoi,hai⟩:=Option.bind_eq_some_iff.1 Qi;obtain⟨oj,EH,haj⟩:=Option.bind_eq_some_iff.1 hbj;have hci:=λ(cs:CS) (m:Bool)=>NW (cs:=cs) (ops:=ops) hai m;have hcj:=λ(cs:CS) (m:Bool)=>NW (cs:=cs) (ops:=ops) haj m;refine⟨λh0=>(by rw[hr] at h0;cases h0),λi' EL=>?_⟩;rw[hr] at EL;rcases List.mem_cons.1 EL with rfl|EL
        ·exact WX hoi (hci cs _) rfl h (hd:ij P jg (ij P jg next C2) [AP bi'] env w0 X) (λb hb=>hm b (bq _ hb)) hQ λa' w' dx X' eH h1 h2=>HI hN hQ JE DA fuel _ _ C2 dx X' eH a' w' hs (λb hb=>hm b (cC _ hb)) h1 h2
        ·have EG:=List.mem_singleton.1 EL;subst EG;cases fuel with
         |zero=>
          simp only[yB,hri] at hs;cases hs
         |succ f=>
          simp only[yB,hri,Cc,EH,cW,hcj,Bool.false_and,aW,if_false,List.all_nil,if_true] at hs;cases bH:yB P pl ops f ((bN.setIfInBounds i true).setIfInBounds i' true) (yA (yA cs bi'.1) bj.1)with
          |none=>simp[bH] at hs
          |some WY=>
           simp only[bH,aZ,aj] at hs;have htl:AP bj::WY=C2:=hs;subst htl;rw[hmc (AP bj) WY] at hm;refine WX EH (hcj cs _) rfl h ((afn cu hd):ij P jg (ij P jg next (AP bi'::WY)) [AP bj] env w0 X) (λb hb=>hm b (cC _ (bq _ hb))) hQ λa' w' dx X' eH h1 h2=>?_;refine⟨λh0=>(by rw[hrj] at h0;cases h0),λk hk=>?_⟩;rw[hrj] at hk;have hki:=List.mem_singleton.1 hk;subst hki;refine WX hoi (hci _ _) rfl h1 (h2:ij P jg (ij P jg next WY) [AP bi'] dx eH X') (λb hb=>hm b (bq _ hb)) hQ λa'' mJ aol wZ EM h3 h4=>?_;have hkj:k≠i':=λe=>by
            subst e;rw[hoi] at EH;cases EH;rw[hai] at haj;cases haj;omega
           rw[uq _ _ hkj.symm];exact HI hN hQ JE DA f _ _ WY aol wZ EM a'' mJ bH (λb hb=>hm b (cC _ (cC _ hb))) (acC h3) h4
       ·cases hp
      ·cases hp
    ·cases hc
   ·cases hc
theorem TO {f:Nat->Option T} : ∀{l:List Nat} {t:T},Se l f=some t-> ∀i∈l,∃t',f i=some t'/\(∀K env w X,den P t K env w X->den P t' K env w X)/\ ∀b,b∈t'.mk->b∈t.mk
 |[],t,h,i,hi=>by cases hi
 |[j],t,h,i,hi=>by grind [Se]
 |j::k::r,t,h,i,hi=>by
  simp only[Se] at h;split at h
  ·rename_i a b ha hb;simp only[aj] at h;subst h;rcases List.mem_cons.1 hi with rfl|hi
   ·exact⟨a,ha,λ_ _ _ _ h=>h.1,λb hb=>bq _ hb⟩
   ·obtain⟨t',h1,h2,h3⟩:=TO (l:=k::r) hb i hi;exact⟨t',h1,λ_ _ _ _ h=>h2 _ _ _ _ h.2,λb hb=>cC _ (h3 b hb)⟩
  ·cases h
theorem OX {K:lY} (hN: ∀qh a' w' dx X' eH,fH pl ds qh dx X' eH a' w'->K .normal dx eH X'->Q .normal a' w')
  (hQ: ∀ch a' w' dx X' eH,a'.defers=ds.ds->Kp X' eH w'->zT pl ds dx X' a' w'->K (.panic ch) dx eH X'->Q (.panic ch) a' w')
  (JE: ∀c a (d:Option Nat) v w,(∀x,d=some x-> ∀p,p∈ds.pins->p.1≠x)->Q (.panic c) (a.put d v) w->Q (.panic c) a w) (DA:wL ops=true):
  ∀(fuel:Nat) (bN:Array Bool) (cs:CS) (t:T) (env:Env) (X:XS) (w0:World) (a:Act) (w:World),
  CZ P pl ops fuel bN cs=some t->(∀b,b∈t.mk-> ∀p,p∈ds.pins->p.1≠b)->fH pl ds cs env X w0 a w->den P t K env w0 X->wh P pl ops Q fuel bN a w
 |0,bN,cs,t,env,X,w0,a,w,hc,_,h,hd=>by
  simp only[CZ] at hc;split at hc
  ·rename_i hr;simp only[aj] at hc;subst hc;exact⟨by simpa using hr,hN _ _ _ _ _ _ h hd⟩
  ·cases hc
 |fuel+1,bN,cs,t,env,X,w0,a,w,hc,hm,h,hd=>by
  simp only[CZ] at hc;split at hc
  ·rename_i i r hf;obtain⟨h1,h2,h3,o,ho,h4⟩:=AU hf;cases hs:CZ P pl ops fuel (bN.setIfInBounds i true) r.cs with
   |none=>simp[hs] at hc
   |some C2=>
    simp only[hs,aZ,aj] at hc;subst hc;have hd:ij P (λch=>K (.panic ch)) (λe w X=>den P C2 K e w X) r.all env w0 X:=hd;have hm: ∀b,b∈pa r.l++C2.mk-> ∀p,p∈ds.pins->p.1≠b:=by
     simp only[T.mk,HH] at hm;exact hm
    obtain⟨v,dx,hy,hS,hn⟩:=acB h4 h2 h hd (λb hb=>hm b (bq _ hb));have EK: ∀j oj,ops[j]? =some oj->j≠i->bN.getD j true=false-> ¬(j∈G5 ops bN i\/j=i\/(bN.getD j true=false/\ ∃oj,ops[j]? =some oj/\waits oj i=true))->_:=
     λj oj hj cu EI pc=>P9 ho h3 j oj hj cu EI (λhb=>pc (.inl hb)) (by
      cases hw:waits oj i with
      |false=>rfl
      |true=>exact absurd (.inr (.inr ⟨EI,oj,hj,hw⟩)) pc)
    obtain⟨Y,P8,hY,fQ⟩: ∃Y:Act->World->Prop,(∀a w,Y a w->Yx P ops o v a w)/\Y a w/\ ∀j oj,oj.dst=oj.dst->o.apart ops oj=true->(rl pl ops j=false\/CE o=true\/TB o r.rb=true)->(∀b,b∈wN pl ops oj-> ¬b∈r.rb)->
      WK pl ops o oj (rl pl ops j=false) (wN pl ops oj) Y:=by
     cases zw:TB o r.rb with
     |false=>exact⟨YF P pl r.rb ops o v,λ_ _ h=>h.yx,hy.1,λj oj _ _ h4 h5=>YF.stb (h4.imp id λh=>h.elim id λh=>by cases h) h5⟩
     |true=>
      unfold TB at zw;split at zw
      ·rename_i t x xe;have hxr:x∈r.rb:=by simpa using zw
       refine⟨YL P pl x ops o v,λ_ _ h=>h.yx,hy.2 x hxr,λj oj _ KH _ h5=>YL.stb (λd hd hdx=>?_) λhm=>h5 x hm hxr⟩;subst hdx;refine(wM KH).2.2 d hd (bq _ (List.mem_filterMap.2 ⟨.tmp d,?_,rfl⟩));simp[xe,Op.operands]
      ·cases zw
    refine KI P8 ho (xE DA) (TE ho h3) (λc a' w' hq=>JE c a' o.dst v w' (h.apart h4 h2 λb hb=>hm b (bq _ hb)) hq) fuel bN a w
     (λj=>j∈G5 ops bN i\/j=i\/(bN.getD j true=false/\ ∃oj,ops[j]? =some oj/\waits oj i=true)) (.inr (.inl rfl)) (λj hj=>?_)
     (λj oj hj cu EI pc=>have h:=EK j oj hj cu EI pc;⟨h.1,fQ j oj rfl h.1 h.2.1 h.2.2⟩) h1 hY ?_
    ·rcases hj with hj|rfl|⟨hu,oj,EH,hw⟩
     ·rcases TD j hj with h|⟨h,oj,k,q1,q2,q3⟩
      ·exact .inl h
      ·exact .inr ⟨h,oj,k,q1,q2,.inl q3⟩
     ·exact .inl rfl
     ·exact .inr ⟨hu,oj,i,EH,hw,.inr (.inl rfl)⟩
    exact OX hN hQ JE DA fuel _ r.cs C2 dx X w0 _ w hs (λb hb=>hm b (cC _ hb)) hS hn
  ·refine⟨λh0=>?_,λi' EL=>?_⟩
   ·rw[h0] at hc;simp[Se] at hc
   obtain⟨t',h1,h2,h3⟩:=TO (P:=P) hc i' EL;split at h1
   ·rename_i o ho;split at h1
    ·rename_i r hx;split at h1
     ·rename_i TN;cases hs:CZ P pl ops fuel (bN.setIfInBounds i' true) r.cs with
      |none=>simp[hs] at h1
      |some C2=>
       simp only[hs,aZ,aj] at h1;subst h1;have hd:ij P (λch=>K (.panic ch)) (λe w X=>den P C2 K e w X) r.all env w0 X:=h2 _ _ _ _ hd;have hm: ∀b,b∈pa r.l++C2.mk-> ∀p,p∈ds.pins->p.1≠b:=λb hb=>hm b (h3 b (by
        simp only[T.mk,HH];exact hb))
       have qv: ∀b,b∈r.sb->b∈wN pl ops o:=λb hb=>by have:=List.all_eq_true.1 TN b hb;simpa using this
       have wO:=Qg (ops:=ops) (K:=λa' w'=>(∀o',ops[i']? =some o'->z7 (rl pl ops i'=false) pl (wN pl ops o') a w a' w')/\wh P pl ops Q fuel (bN.setIfInBounds i' true) a' w') (Q:=Q) hx h hd
        (λa' w' dx X' eH h1 h2 h3=>⟨λo' wj=>by rw[ho] at wj;injection wj with wj;subst wj;exact⟨λzw=>(h3.1 zw).sub qv,h3.2.sub qv⟩,OX hN hQ JE DA fuel _ r.cs C2 dx X' eH a' w' hs (λb hb=>hm b (cC _ hb)) h1 h2⟩)
        (λb hb=>hm b (bq _ hb)) (λch w' dx X' eH hk AT hp=>hQ ch a w' dx X' eH h.defers hk AT hp)
       unfold wpOp;simp only[ho] at wO⊢;split
       ·rename_i hw;rw[if_pos hw] at wO;exact .inl wO
       ·rename_i hw;rw[if_neg hw] at wO;omega
     ·cases h1
    ·cases h1
   ·cases h1
variable {M : List Nat}
theorem EN: ∀k,X k->grow X w w' k:=λ_ h=>.inl h
theorem TP {n n':Value->World->XS->Prop} {p p':List PanicEntry->World->XS->Prop} {r:Result Next} (h:jV P m X w n p r)
  (hn: ∀v w' X',(∀k,X k->X' k)->n v w' X'->n' v w' X') (hp: ∀c w' X',(∀k,X k->X' k)->p c w' X'->p' c w' X'):jV P m X w n' p' r:=by
 cases r with
 |ok x w'=>
  cases x<;>simp only[jV] at h⊢
  case value v=>grind [EN]
  case skip=>grind [EN]
  case enter f args=>
   refine⟨h.1,h.2.mono λe mJ he=>?_⟩;cases e with
   |returned v=>grind [EN]
   |panicked c=>grind [EN]
   |outgrown=>exact he
 |halt x w'=>
  cases x<;>simp only[jV] at h⊢
  grind [EN]
def aj6 (h: ¬s=d):jX env d v s=env s:=iR _ _ h
theorem ag8 {d:Option Nat} (h: ¬s∈d.toList):KE env d v s=env s:=by
 cases d with
 |none=>rfl
 |some d=>exact iR _ _ gQ
theorem IA: ∀(l:List TI) {jg OY:List PanicEntry->Env->World->XS->Prop} {next next':Env->World->XS->Prop} {env:Env} {w:World} {X:XS},
  ij P jg next l env w X->
  (∀e w' X',(∀k,X k->X' k)->(∀s,¬s∈l.flatMap TI.wr->e s=env s)->next e w' X'->next' e w' X')->
  (∀c e w' X',(∀k,X k->X' k)->(∀s,¬s∈l.flatMap TI.wr->e s=env s)->jg c e w' X'->OY c e w' X')->ij P OY next' l env w X
 |[],_,_,_,_,_,_,_,h,hn,_=>hn _ _ _ (λ_ h=>h) (λ_ _=>rfl) h
 |i::l,jg,OY,next,next',env,w,X,h,hn,hp=>by
  have step: ∀(xI:Env) (w1:World) (X1:XS),(∀k,X k->X1 k)->(∀s,¬s∈i.wr->xI s=env s)->ij P jg next l xI w1 X1->ij P OY next' l xI w1 X1:=by
   intro xI w1 X1 KQ he1 h1;refine IA l h1 (λe w' X' hX he hq=>hn e w' X' (λk hk=>hX k (KQ k hk)) (λs hs=>?_) hq) (λc e w' X' hX he hq=>hp c e w' X' (λk hk=>hX k (KQ k hk)) (λs hs=>?_) hq)
   ·simp only[Ar,sG,not_or] at hs
    grind
   ·simp only[Ar,sG,not_or] at hs
    grind
  have pst: ∀c w1 X1,(∀k,X k->X1 k)->jg c env w1 X1->OY c env w1 X1:=λc w1 X1 KQ hq=>hp c env w1 X1 KQ (λ_ _=>rfl) hq;have st1: ∀(d:Nat) (v:Value) (w1:World) (X1:XS),i.wr=[d]->(∀k,X k->X1 k)->ij P jg next l (jX env d v) w1 X1->ij P OY next' l (jX env d v) w1 X1:=
   λd v w1 X1 hw KQ h1=>step _ _ _ KQ (λs hs=>aj6 (by rw[hw] at hs;simpa using hs)) h1
  have stO: ∀(d:Option Nat) (v:Value) (w1:World) (X1:XS),i.wr=d.toList->(∀k,X k->X1 k)->ij P jg next l (KE env d v) w1 X1->ij P OY next' l (KE env d v) w1 X1:=
   λd v w1 X1 hw KQ h1=>step _ _ _ KQ (λs hs=>ag8 (by rw[hw] at hs;exact hs)) h1
  cases i with
  |zY b=>exact dM.2 ⟨(dM.1 h).1,step _ _ _ (λ_ h=>h) (λ_ _=>rfl) (dM.1 h).2⟩
  |set d e=>exact st1 d _ _ _ rfl (λ_ h=>h) h
  |box b n e=>exact dM.2 ⟨(dM.1 h).1,st1 b _ _ _ rfl (λ_ h=>h) (dM.1 h).2⟩
  |put b off n e=>
   have h2:=dM.1 (dM.1 h).2;exact dM.2 ⟨(dM.1 h).1,dM.2 ⟨h2.1,st1 b _ _ _ rfl (λ_ h=>h) h2.2⟩⟩
  |Cb b e=>exact dM.2 ⟨(dM.1 h).1,st1 b _ _ _ rfl (λ_ h=>h) (dM.1 h).2⟩
  |WC b off e=>exact dM.2 ⟨(dM.1 h).1,st1 b _ _ _ rfl (λ_ h=>h) (dM.1 h).2⟩
  |fill b n e=>
   have h2:=dM.1 (dM.1 h).2;exact dM.2 ⟨(dM.1 h).1,dM.2 ⟨h2.1,st1 b _ _ _ rfl (λ_ h=>h) h2.2⟩⟩
  |rd d op ty ss=>
   obtain⟨v,h1,h2⟩:=h;exact⟨v,h1,st1 d _ _ _ rfl (λ_ h=>h) h2⟩
  |DU d op ty ss m=>exact λwa HG=>TP (h wa HG) (λv w' X' hX hq=>stO d v w' X' rfl hX hq) (λc w' X' hX hq=>pst c w' X' hX hq)
  |WD g want d e=>exact st1 d _ _ _ rfl (λ_ h=>h) h
  |grd g want d op ty ss=>
   obtain⟨v,h1,h2,h3⟩:=h;exact⟨v,h1,h2,st1 d _ _ _ rfl (λ_ h=>h) h3⟩
  |WE g want d op ty ss m=>
   exact⟨λhg wa HG=>TP (h.1 hg wa HG) (λv w' X' hX hq=>stO d v w' X' rfl hX hq) (λc w' X' hX hq=>pst c w' X' hX hq),λhg=>stO d _ _ _ rfl (λ_ h=>h) (h.2 hg)⟩
theorem WZ {e:Env} (h:s∈M):merge M e env s=e s:=by simp[merge,As.2 h]
theorem Ge {e:Env} (h: ¬s∈M):merge M e env s=env s:=by
 have:yP M s=false:=by
  cases hx:yP M s with
  |false=>rfl
  |true=>exact absurd (As.1 hx) h
 simp[merge,this]
theorem nj: ∀(t:T) {K K':lY} {env:Env} {w:World} {X:XS},den P t K env w X->
  (∀ex e w' X',(∀k,X k->X' k)->(∀s,¬s∈t.wr->e s=env s)->K ex e w' X'->K' ex e w' X')->den P t K' env w X
 | .BO l,K,K',env,w,X,h,hk=>IA l h (λe w' X' hX he hq=>hk _ e w' X' hX he hq) (λc e w' X' hX he hq=>hk _ e w' X' hX he hq)
 | .seq a b,K,K',env,w,X,h,hk=>by
  refine nj a (K:=lY.Gb (λe w X=>den P b K e w X) K) h λex e w' X' hX he hq=>?_;have yQ: ∀s,¬s∈(T.seq a b).wr->e s=env s:=λs hs=>he s (λhc=>hs (bq _ hc));cases ex with
  |normal=>
   refine nj b (K:=K) hq λex2 e2 w2 X2 hX2 he2 zx=>hk ex2 e2 w2 X2 (λk hk=>hX2 k (hX k hk)) (λs hs=>?_) zx;rw[he2 s (λhc=>hs (cC _ hc)),yQ s hs]
  |exit i=>exact hk _ e w' X' hX yQ hq
  |goto i=>exact hk _ e w' X' hX yQ hq
  |ret=>exact hk _ e w' X' hX yQ hq
  |panic c=>exact hk _ e w' X' hX yQ hq
  |outgrown=>exact hk _ e w' X' hX yQ hq
 | .ite c a b,K,K',env,w,X,h,hk=>by
  simp only[den,nB] at h⊢;split at h
  ·refine⟨λht=>nj a (h.1 ht) λex e w' X' hX he hq=>hk ex e w' X' hX (λs hs=>he s (λhc=>hs (bq _ hc))) hq,
    λht=>nj b (h.2 ht) λex e w' X' hX he hq=>hk ex e w' X' hX (λs hs=>he s (λhc=>hs (cC _ hc))) hq⟩
  omega
 | .alt a b,K,K',env,w,X,h,hk=>by
  exact⟨nj a h.1 λex e w' X' hX he hq=>hk ex e w' X' hX (λs hs=>he s (λhc=>hs (bq _ hc))) hq,
   nj b h.2 λex e w' X' hX he hq=>hk ex e w' X' hX (λs hs=>he s (λhc=>hs (cC _ hc))) hq⟩
 | .fv id a,K,K',env,w,X,h,hk=>by
  refine nj a (K:=lY.fv id K) h λex e w' X' hX he hq=>?_;cases ex with
  |exit i=>
   simp only[lY.fv] at hq⊢;split
   ·rename_i hi;rw[if_pos hi] at hq;exact hk _ e w' X' hX he hq
   ·rename_i hi;rw[if_neg hi] at hq;exact hk _ e w' X' hX he hq
  |normal=>exact hk _ e w' X' hX he hq
  |goto i=>exact hk _ e w' X' hX he hq
  |ret=>exact hk _ e w' X' hX he hq
  |panic c=>exact hk _ e w' X' hX he hq
  |outgrown=>exact hk _ e w' X' hX he hq
 | .loop M C a,K,K',env,w,X,h,hk=>by
  obtain⟨J,h0,hJ⟩:=h;refine⟨J,h0,λn e w' X' hX hj=>?_⟩;refine nj a (K:=lY.Gb (λe' mJ wZ=> ∃m,m<n/\J m (C.map e') mJ wZ) K) (hJ n e w' X' hX hj) λex e2 w2 X2 hX2 he2 hq=>?_;have qv: ∀k,X k->X2 k:=λk hk=>hX2 k (hX k hk);have yQ: ∀s,¬s∈(T.loop M C a).wr->e2 s=env s:=λs hs=>by
   simp only[T.wr,sG,not_or] at hs;rw[he2 s hs.2];exact Ge hs.1
  cases ex with
  |normal=>exact hq
  |exit i=>exact hk _ e2 w2 X2 qv yQ hq
  |goto i=>exact hk _ e2 w2 X2 qv yQ hq
  |ret=>exact hk _ e2 w2 X2 qv yQ hq
  |panic c=>exact hk _ e2 w2 X2 qv yQ hq
  |outgrown=>exact hk _ e2 w2 X2 qv yQ hq
 | .exit id,K,K',env,w,X,h,hk=>hk _ _ _ _ (λ_ h=>h) (λ_ _=>rfl) h
 | .ret,K,K',env,w,X,h,hk=>hk _ _ _ _ (λ_ h=>h) (λ_ _=>rfl) h
 | .skip,K,K',env,w,X,h,hk=>hk _ _ _ _ (λ_ h=>h) (λ_ _=>rfl) h
theorem ag9 {c:Code} (I:Nat->Act->World->Prop) (h₀: ∃n,I n a w)
  (round: ∀n a w,I n a w->c.wp P (Exit.then (λa' w'=> ∃m,m<n/\I m a' w') Q) a w):(Code.loop c).wp P Q a w:=by
 intro b k cs;have key: ∀n a w,I n a w-> ∃e a' w',Q e a' w'/\Arrives P (lone (b.at a (.code c:: .inLoop c::k)) cs w) b k cs e a' w':=by
  intro n
  induction n using Nat.strongRecOn with
  |_ n ih=>
   intro a w hI;obtain⟨e,a₁,w₁,hq,KR⟩:=round n a w hI b (.inLoop c::k) cs;cases e with
   |normal=>
    obtain⟨m,cI,hI₁⟩:=hq;obtain⟨e₂,a₂,w₂,hq₂,harr₂⟩:=ih m cI a₁ w₁ hI₁;exact⟨e₂,a₂,w₂,hq₂,.of_steps (Steps.trans KR (.one step_inLoop)) harr₂⟩
   |exit id=>exact⟨_,a₁,w₁,hq,.pass (x:=.inLoop c) rfl (λ_ _=>.inl sQ) KR⟩
   |goto l=>exact⟨_,a₁,w₁,hq,.pass (x:=.inLoop c) rfl (λ_ _=>.inl sQ) KR⟩
   |ret=>exact⟨_,a₁,w₁,hq,.pass (x:=.inLoop c) rfl (λ_ _=>.inl sQ) KR⟩
   |panic ch=>exact⟨_,a₁,w₁,hq,.pass (x:=.inLoop c) rfl (λ_ _=>.inl sQ) KR⟩
   |outgrown=>exact⟨_,a₁,w₁,hq,.pass (x:=.inLoop c) rfl (λ_ _=>.inl sQ) KR⟩
 obtain⟨n,h₀⟩:=h₀;obtain⟨e,a',w',hq,KR⟩:=key n a w h₀;exact⟨e,a',w',hq,.of_steps (.one step_loop) KR⟩
def QP (pl:gA) (ds:Bk) (K:lY):Exit->Act->World->Prop
 | .panic ch,a,w=>a.defers=ds.ds/\ ∃env X w0,Kp X w0 w/\K (.panic ch) env w0 X/\zT pl ds env X a w
 | .outgrown,_,_=>False
 |e,a,w=> ∃env X w0,fH pl ds .start env X w0 a w/\K e env w0 X
variable {fn : Func} {R : Ending -> World -> Prop} {args : Array Value} {f : FuncId}
theorem fH.drop (h:fH pl ds cs env X w0 a w):fH pl ds .start env X w0 a w:=
 { h with sig:=λ_ hp=>(by cases hp),live:=λ_ hp=>(by cases hp),ptr:=λ_ hp=>(by cases hp) }
theorem Qj: ∀(l acc:List Nat) (s:Nat),(s∈l\/s∈acc)->s∈uu l acc
 |[],acc,s,h=>h.elim (λh=>by cases h) id
 |x::r,acc,s,h=>by
  simp only[uu];refine Qj r _ s ?_;rcases h with h|h
  ·rcases List.mem_cons.1 h with rfl|h
   ·right;split
    ·rename_i hc;simpa using hc
    ·exact mj ..
   ·exact .inl h
  ·right;split
   ·exact h
   ·exact bG _ h
theorem QP.mono {K K':lY} (h: ∀ex e w X,K ex e w X->K' ex e w X) (ex:Exit) (a:Act) (w:World) (hq:QP pl ds K ex a w):QP pl ds K' ex a w:=by
 cases ex<;>simp only[QP] at hq⊢
 case panic ch=>grind
 all_goals grind
theorem MV: ∀(c:Code) (t:T) (K:lY) (env:Env) (X:XS) (w0:World) (a:Act) (w:World),
  jR P pl c=some t->(∀b,b∈t.mk-> ∀p,p∈ds.pins->p.1≠b)->fH pl ds .start env X w0 a w->den P t K env w0 X->c.wp P (QP pl ds K) a w:=by
 intro c
 induction c with
 |skip=>
  intro t K env X w0 a w hc hm h hd;simp only[jR,aj] at hc;subst hc;exact wp_skip ⟨env,X,w0,h,hd⟩
 |region id ops draw=>
  intro t K env X w0 a w hc hm h hd;have hN: ∀qh a' w' dx X' eH,fH pl ds qh dx X' eH a' w'->(λe w X=>K .normal e w X) dx eH X'->QP pl ds K .normal a' w':=
   λqh a' w' dx X' eH h1 h2=>⟨dx,X',eH,h1.drop,h2⟩
  have hQ: ∀ch a' w' dx X' eH,a'.defers=ds.ds->Kp X' eH w'->zT pl ds dx X' a' w'->(λch=>K (.panic ch)) ch dx eH X'->QP pl ds K (.panic ch) a' w':=
   λch a' w' dx X' eH h0 h1 AT h2=>⟨h0,dx,X',eH,h1,h2,AT⟩
  simp only[jR] at hc;split at hc
  ·rename_i KS;subst KS;split at hc
   ·rename_i HJ;simp only[aA] at HJ;refine wp_region_any HJ.1 (P7 (pl:=pl) _ _ _ _ ?_);have JE: ∀c a (d:Option Nat) v w,(∀x,d=some x-> ∀p,p∈ds.pins->p.1≠x)->QP pl ds K (.panic c) (a.put d v) w->QP pl ds K (.panic c) a w:=λc a d v w hd hq=>by
     obtain⟨h1,e,X',eH,h2,h3,h4⟩:=hq;exact⟨by cases d<;>exact h1,e,X',eH,h2,h3,h4.put hd⟩
    split at hc
    ·rename_i tl hl;simp only[aj] at hc;subst hc;exact HI hN hQ JE HJ.2 _ _ _ tl env X w0 _ _ hl hm (h.jv (Ext.drew w)) hd
    ·exact OX hN hQ JE HJ.2 _ _ _ t env X w0 _ _ hc hm (h.jv (Ext.drew w)) hd
   ·cases hc
  ·rename_i KS;simp only[Bool.not_eq_true] at KS;subst KS;cases hl:Ix P pl ops ops.toList .start with
   |none=>grind
   |some tl=>
    simp only[hl,aZ,aj] at hc;subst hc;exact wp_region_list (Qh hN hQ ops.toList .start tl env X w0 a w hl hm h hd)
 |seq x y ihx ihy=>
  intro t K env X w0 a w hc hm h hd;simp only[jR] at hc;cases hx:jR P pl x with
  |none=>simp[hx] at hc
  |some tx=>
   cases hy:jR P pl y with
   |none=>simp[hx,hy] at hc
   |some ty=>
    simp only[hx,hy,aj] at hc;have KT:den P (.seq tx ty) K env w0 X:=by
     subst hc;split at hd
     ·exact hd
     ·show den P tx (lY.Gb (λe w X=>den P .skip K e w X) K) env w0 X
      refine nj tx hd λex e w' X' _ _ hq=>?_;cases ex<;>exact hq
     ·exact hd
    have hmm: ∀b,b∈tx.mk\/b∈ty.mk-> ∀p,p∈ds.pins->p.1≠b:=λb hb=>hm b (by
     rw[<-hc];split
     ·exact hb.resolve_left (λh=>by cases h)
     ·exact hb.resolve_right (λh=>by cases h)
     ·exact List.mem_append.2 hb)
    refine wp_seq (wp_mono (ihx tx _ env X w0 a w hx (λb hb=>hmm b (.inl hb)) h KT) λex a' w' hq=>?_);cases ex with
    |normal=>
     obtain⟨e,X',eH,h1,h2⟩:=hq;exact ihy ty K e X' eH a' w' hy (λb hb=>hmm b (.inr hb)) h1 h2
    |exit i=>exact hq
    |goto i=>exact hq
    |ret=>exact hq
    |panic c=>exact hq
    |outgrown=>exact hq
 |cond c x y ihx ihy=>
  intro t K env X w0 a w hc hm h hd;simp only[jR] at hc;cases hv:valOf pl .start c with
  |none=>simp[hv] at hc
  |some e=>
   cases hx:jR P pl x with
   |none=>simp[hv,hx] at hc
   |some tx=>
    cases hy:jR P pl y with
    |none=>simp[hv,hx,hy] at hc
    |some ty=>
     simp only[hv,hx,hy,aj] at hc;subst hc;have he:=h.eval hv;simp only[den,nB] at hd;split at hd
     ·rename_i b hb;rw[hb] at he;exact wp_cond_split he (λht=>ihx tx K env X w0 a w hx (λb hb=>hm b (bq _ hb)) h (hd.1 ht)) (λht=>ihy ty K env X w0 a w hy (λb hb=>hm b (cC _ hb)) h (hd.2 ht))
     ·exact hd.elim
 |block id x ih=>
  intro t K env X w0 a w hc hm h hd;simp only[jR] at hc;cases hx:jR P pl x with
  |none=>simp[hx] at hc
  |some tx=>
   simp only[hx,aZ,aj] at hc;subst hc;refine wp_block (wp_mono (ih tx _ env X w0 a w hx hm h hd) λex a' w' hq=>?_);cases ex with
   |exit i=>
    obtain⟨e,X',eH,h1,h2⟩:=hq;simp only[Exit.inBlock,lY.fv] at h2⊢;split
    ·rename_i hi;rw[if_pos hi] at h2;exact⟨e,X',eH,h1,h2⟩
    ·rename_i hi;rw[if_neg hi] at h2;exact⟨e,X',eH,h1,h2⟩
   |normal=>exact hq
   |goto i=>exact hq
   |ret=>exact hq
   |panic c=>exact hq
   |outgrown=>exact hq
 |loop x ih=>
  intro t K env X w0 a w hc hm h hd;simp only[jR] at hc;cases hx:jR P pl x with
  |none=>simp[hx] at hc
  |some tx=>
   simp only[hx,aZ,aj] at hc;subst hc;obtain⟨J,⟨n0,h0⟩,hJ⟩:=hd;refine ag9 (λn a w=> ∃e X' eH,fH pl ds .start (merge (uu tx.wr []) e env) X' eH a w/\(∀k,X k->X' k)/\J n (((uu tx.wr []).filter (yP pl.car)).map e) eH X') ⟨n0,env,X,w0,?_,λ_ h=>h,h0⟩ ?_
   ·have:merge (uu tx.wr []) env env=env:=by
     funext s
     by_cases hs:s∈uu tx.wr []
     ·exact WZ hs
     ·exact Ge hs
    rw[this];exact h
   ·rintro n a w ⟨e,X',eH,h1,h2,h3⟩;have rH:=nj tx (K':=λex e' mJ wZ=>lY.Gb (λe' mJ wZ=> ∃m,m<n/\J m (((uu tx.wr []).filter (yP pl.car)).map e') mJ wZ) K ex e' mJ wZ/\(∀k,X' k->wZ k)/\ ∀s,¬s∈tx.wr->e' s=merge (uu tx.wr []) e env s) (hJ n e eH X' h2 h3)
     λex e' w' wZ hX he hq=>⟨hq,hX,he⟩
    refine wp_mono (ih tx _ _ X' eH a w hx hm h1 rH) λex a' w' hq=>?_;cases ex with
    |normal=>
     obtain⟨e',wZ,EM,g1,⟨m,hm,g2⟩,g3,g4⟩:=hq;refine⟨m,hm,e',wZ,EM,?_,λk hk=>g3 k (h2 k hk),g2⟩;have:merge (uu tx.wr []) e' env=e':=by
      funext s
      by_cases hs:s∈uu tx.wr []
      ·exact WZ hs
      ·rw[Ge hs,g4 s λhc=>hs (Qj _ _ _ (.inl hc)),Ge hs]
     rw[this];exact g1
    |exit i=>obtain⟨e',wZ,EM,g1,g2,_⟩:=hq;exact⟨e',wZ,EM,g1,g2⟩
    |goto i=>obtain⟨e',wZ,EM,g1,g2,_⟩:=hq;exact⟨e',wZ,EM,g1,g2⟩
    |ret=>obtain⟨e',wZ,EM,g1,g2,_⟩:=hq;exact⟨e',wZ,EM,g1,g2⟩
    |panic c=>obtain⟨g0,e',wZ,EM,g1,⟨g2,_⟩,g3⟩:=hq;exact⟨g0,e',wZ,EM,g1,g2,g3⟩
    |outgrown=>exact hq
 |exit id=>
  intro t K env X w0 a w hc hm h hd;simp only[jR,aj] at hc;subst hc;exact wp_exit ⟨env,X,w0,h,hd⟩
 |ret=>
  intro t K env X w0 a w hc hm h hd;simp only[jR,aj] at hc;subst hc;exact wp_ret ⟨env,X,w0,h,hd⟩
 |rangeFunc=>intro t K env X w0 a w hc;cases hc
 |scope=>intro t K env X w0 a w hc;cases hc
 |label=>intro t K env X w0 a w hc;cases hc
 |goto=>intro t K env X w0 a w hc;cases hc
 |refuse=>intro t K env X w0 a w hc;cases hc
def acD (tmps:Array Value):ResultVar->Sem Value
 | .tmp t=>pure (tmps.getD t undef)
 | .cell c t=>do loadVar t (<-asAddr (tmps.getD c undef))
theorem W4 (h:fH pl ds cs env X w0 a w): ∀(l:List ResultVar) (es:List Ex) (nd:List Nat),
  EF P pl l=some (es,nd)->(∀b,b∈nd->dE (env b)=true)->
  (l.mapM (acD a.tmps)).run P w=Result.ok (es.map (·.ev env)) w
 |[],es,nd,hc,_=>by
  simp only[EF,aj,cY] at hc;simp_all
 | .tmp t::r,es,nd,hc,hl=>by
  simp only[EF] at hc;split at hc
  ·rename_i hg;cases hr:EF P pl r with
   |none=>grind
   |some x=>
    obtain⟨oI,nd'⟩:=x;simp only[hr,aZ,aj,cY] at hc;obtain⟨rfl,rfl⟩:=hc;have ih:=W4 h r oI nd' hr hl;simp[List.mapM_cons,acD,ih,h.rj t hg,Ex.ev]
  ·cases hc
 | .cell c t::r,es,nd,hc,hl=>by
  simp only[EF] at hc;split at hc
  ·rename_i bs ag sz hb ht;split at hc
   ·rename_i th;simp only[aA,decide_eq_true_eq] at th;cases hr:EF P pl r with
    |none=>grind
    |some x=>
     obtain⟨oI,nd'⟩:=x;simp only[hr,aZ,aj,cY] at hc;obtain⟨rfl,rfl⟩:=hc;have ih:=W4 h r oI nd' hr λb hb=>hl b (bG _ hb);obtain⟨cells,qI⟩:=wH.1 (hl c (mj ..));obtain⟨k,ty,e1,e2,e3,_⟩:=h.box c bs hb cells qI;have hld:=Qc ht th.2 e2 0 zQ;have apI:(loadVar t ⟨k,0,none⟩).run P w= .ok (if ag then yz (.agg cells) 0 sz else cellOf (.agg cells) 0) w:=by
      simpa [ju,pL,eI] using hld
     have TL:(if ag then Ex.s c 0 sz else Ex.k c 0).ev env=if ag then yz (.agg cells) 0 sz else cellOf (.agg cells) 0:=by
      cases ag<;>simp[Ex.ev,qI]
     simp[List.mapM_cons,acD,ih,e1,eI,asAddr,apI,TL]
   ·cases hc
  ·cases hc
theorem MW (h:fH pl ds cs env X w0 a w) {es:List Ex}
  (hc:EF P pl fn.results.toList=some (es,nd)) (hl: ∀b,b∈nd->dE (env b)=true):(results fn a.tmps).run P w= .ok (WJ es env) w:=by
 have hr:=W4 h _ _ _ hc hl;have hf:results fn a.tmps=(do let vs<-fn.results.mapM (acD a.tmps);pure (if h:vs.size=1 then vs[0] else .tuple vs)):=by
  unfold results
  congr 2
 rw[hf,Array.mapM_eq_mapM_toList];simp only[Sem.run_bind,Sem.run_map,hr,Result.andThen_ok,Sem.run_pure]
 congr 1
 match es with
 |[]=>rfl
 |[e]=>rfl
 |e::e'::r=>simp[WJ]
def OZ (P:Program) (o:Option FT) (R:Ending->World->Prop) (args:Array Value) (w:World):Prop:=match o with
 |some ft=>den P ft.code (OV ft R) (nC args) w (bP w)
 |none=>False
theorem W5 {ft:FT} (hf:P.funcs[f]? =some fn)
  (hc:cF P pl fn=some ft) (ajB:args.size<=pl.n) (xJ:(pl.boxes.all λp=>decide (args.size<=p.1))=true)
  (h:den P ft.code (OV ft R) (nC args) w (bP w)):Calls P f args w R:=by
 unfold cF at hc;split at hc
 ·rename_i hn;have mL:fn.ntmps=pl.n:=by simpa using hn
  split at hc
  ·rename_i c hb;split at hc
   ·rename_i t r nd ajC O1;injection hc with hc
    subst hc;refine calls_of_wp hf hb (wp_mono (MV (pl:=pl) (ds:=⟨[],[]⟩) c t (OV ⟨t,r,nd⟩ R) (nC args) (bP w) w _ w ajC (λ_ _ _ hp=>by cases hp) ?_ h) λex a' w' hq=>?_)
    ·have acE:(args++dh (fn.ntmps-args.size) undef).size=pl.n:=by simp;omega
     have DB: ∀s,s<pl.n->(args++dh (fn.ntmps-args.size) undef)[s]? =some (nC args s):=by
      intro s hs;rw[kR];split
      ·rename_i h1;simp[nC,qt,h1]
      ·rename_i h1;rw[jH,if_pos zQ];simp only[nC,qt];rw[wX (by simpa using h1)];rfl
     have KU: ∀b n,look pl.boxes b=some n->nC args b=undef:=by
      intro b n hb;have h1:=List.all_eq_true.1 xJ _ (Cd hb);simp only[decide_eq_true_eq] at h1;simp only[nC,qt];rw[wX zQ];rfl
     exact {
      size:=acE
      defers:=rfl
      Au:=λ_ hp=>(by cases hp)
      ext:=Kp.refl _ _
      xH:=λ_ hk=>hk
      rj:=λs hs=>DB s (tH hs).1
      sig:=λ_ hp=>(by cases hp)
      box:=λb n hb cells hc=>by rw[KU b n hb] at hc;cases hc
      inj:=λb b' n n' hb dO h1=>by rw[KU b n hb] at h1;cases h1
      conv:=λb n hb k hk=>by
       have h1:=List.all_eq_true.1 xJ _ (Cd hb);simp only[decide_eq_true_eq] at h1;rw[kR,if_neg zQ,jH] at hk;split at hk
       ·cases hk
       ·cases hk
      live:=λ_ hp=>(by cases hp)
      ptr:=λ_ hp=>(by cases hp) }
    ·cases ex with
     |normal=>
      obtain⟨e,X',eH,h1,hq⟩:=hq;obtain⟨h2,h3⟩:=dM.1 hq;exact⟨h1.defers,_,MW h1 O1 (List.all_eq_true.1 h2),h3 w' h1.ext⟩
     |ret=>
      obtain⟨e,X',eH,h1,hq⟩:=hq;obtain⟨h2,h3⟩:=dM.1 hq;exact⟨h1.defers,_,MW h1 O1 (List.all_eq_true.1 h2),h3 w' h1.ext⟩
     |panic ch=>
      obtain⟨h0,e,X',eH,h1,h2,_⟩:=hq;exact⟨h0,h2 w' h1⟩
     |exit i=>obtain⟨e,X',eH,h1,h2⟩:=hq;exact h2
     |goto i=>obtain⟨e,X',eH,h1,h2⟩:=hq;exact h2
     |outgrown=>exact hq.elim
   ·cases hc
  ·cases hc
 ·cases hc
theorem G6 {V:Prop} (hf:P.funcs[f]? =some fn)
  (hs:(decide (args.size<=pl.n)&&pl.boxes.all λp=>decide (args.size<=p.1))=true) (hv:V=OZ P (cF P pl fn) R args w) (h:V):Calls P f args w R:=by
 subst hv;unfold OZ at h;simp only[aA,decide_eq_true_eq] at hs;split at h
 ·rename_i ft hc;exact W5 hf hc hs.1 hs.2 h
 ·exact h.elim
def nU (P:Program) (X:XS) (w:World) (s:Sem Next) (N:Value->Prop):Prop:= ∃v,Rd P X w s v/\N v
def aY (P:Program) (X:XS) (w:World) (s:Sem Value) (N:Value->Prop):Prop:=nU P X w (vS s) N
def nV (P:Program) (X:XS) (w:World) (g:Value) (want:Bool) (s:Sem Next) (N:Value->Prop):Prop:=
 ∃v,(oV g want=true->Rd P X w s v)/\(oV g want=false->v=undef)/\N v
def zf (g:Value) (want:Bool) (v:Value):Value:=if oV g want then v else undef
def jl (c a b:Value):Sem Next:=do pure (.value (if<-asBool c then a else b))
def bC (x:Value):Sem Next:=execOp (λ_=>x) (WB (.nilCheck (.tmp 0)) 0)
def dF (op:BinOp) (t:TypeId) (xo yo:Operand) (x y:Value):Sem Value:=do eqGuard op t xo yo x y;binOp op t x y
def uS (s:Sem Unit):Sem Next:=do s;pure .skip
def pn (R:Ending->World->Prop):List PanicEntry->World->XS->Prop:=λch w X=> ∀wa,Kp X w wa->R (.panicked ch) wa
def eW (P:Program) (R:Ending->World->Prop) (X:XS) (w:World) (m:Bool) (s:Sem Next) (N:Value->World->XS->Prop):Prop:=
 ∀wa,Kp X w wa->jV P m X wa N (pn R) (s.run P wa)
def eV (P:Program) (R:Ending->World->Prop) (X:XS) (w:World) (m:Bool) (s:Sem Value) (N:Value->World->XS->Prop):Prop:=eW P R X w m (vS s) N
def eU (P:Program) (R:Ending->World->Prop) (X:XS) (w:World) (m:Bool) (s:Sem Unit) (N:Value->World->XS->Prop):Prop:=eW P R X w m (uS s) N
def eC (P:Program) (R:Ending->World->Prop) (X:XS) (w:World) (m:Bool) (f:FuncId) (args:Array Value) (N:Value->World->XS->Prop):Prop:=eW P R X w m (callFunc f args) N
def eF (P:Program) (R:Ending->World->Prop) (X:XS) (w:World) (m:Bool) (f:Value) (args:Array Value) (N:Value->World->XS->Prop):Prop:=eW P R X w m (Iv f args) N
def gE (g:Value) (want:Bool) (A B:Prop):Prop:=(oV g want=true->A)/\(oV g want=false->B)
def fin (R:Ending->World->Prop) (X:XS) (w:World) (v:Value):Prop:= ∀wa,Kp X w wa->R (.returned v) wa
abbrev JT:=Nat->List Value->World->XS->Prop
def EO (J:JT) (n:Nat) (vs:List Value) (w:World) (X:XS):Prop:= ∃m,m<n/\J m vs w X
def Qk (X:XS) (w:World) (vs:List Value) (C:List Nat) (B:JT->Nat->Env->World->XS->Prop):Prop:=
 ∃J:JT,(∃n,J n vs w X)/\ ∀n (e:Env) w' X',(∀k,X k->X' k)->J n (C.map e) w' X'->B J n e w' X'
variable {P : Program} {R : Ending -> World -> Prop} {X : XS} {w : World} {m : Bool}
variable {N : Value -> Prop}
theorem HK {s:Sem Value} (v:Value) (h: ∀wa,Kp X w wa->s.run P wa= .ok v wa) (k:N v):aY P X w s N:=
 ⟨v,λwa hk=>by simp[vS,h wa hk],k⟩
def bK {s:Sem Value} (h: ∀wa,s.run P wa= .ok v wa) (k:N v):aY P X w s N:=
 HK v (λwa _=>h wa) k
def W6 {s:Sem Next} (h: ∀wa,s.run P wa= .ok (.value v) wa) (k:N v):nU P X w s N:=
 ⟨v,λwa _=>h wa,k⟩
theorem Ey {α:Type} [BEq α] [LawfulBEq α] [DecidableEq α] (a b:α):(a==b)=decide (a=b):=by grind
variable {xo yo : Operand}
section
variable {t : TypeId} {k : IntKind} {a b : Int}
theorem abL (h:N (.bool (decide (a<b)))):aY P X w (binOp .lss t (.int k a) (.int k b)) N:=bK (λwa=>by simp[binOp,te]) h
theorem aj7 (h:N (.bool (decide (a<=b)))):aY P X w (binOp .leq t (.int k a) (.int k b)) N:=bK (λwa=>by simp[binOp,te]) h
theorem aj8 (h:N (.bool (decide (a>b)))):aY P X w (binOp .gtr t (.int k a) (.int k b)) N:=bK (λwa=>by simp[binOp,te]) h
theorem aj9 (h:N (.bool (decide (a>=b)))):aY P X w (binOp .geq t (.int k a) (.int k b)) N:=bK (λwa=>by simp[binOp,te]) h
theorem oG (h:N (.int k (k.wrap (a+b)))):aY P X w (binOp .add t (.int k a) (.int k b)) N:=bK (λwa=>by simp[binOp,AO]) h
theorem abM (h:N (.int k (k.wrap (a-b)))):aY P X w (binOp .sub t (.int k a) (.int k b)) N:=bK (λwa=>by simp[binOp,AO]) h
theorem Sg (h:N (.int k (k.wrap (a*b)))):aY P X w (binOp .mul t (.int k a) (.int k b)) N:=bK (λwa=>by simp[binOp,AO]) h
theorem abN (h:N (.bool (decide (a=b)))):aY P X w (dF .eql t xo yo (.int k a) (.int k b)) N:=
 bK (λwa=>by simp[dF,eqGuard,binOp,te,Ey]) h
theorem aka (h:N (.bool (decide (a≠b)))):aY P X w (dF .neq t xo yo (.int k a) (.int k b)) N:=
 bK (λwa=>by simp[dF,eqGuard,binOp,te,bne,Ey]) h
end
section
variable {t : TypeId} {a b : ByteArray}
theorem aha (h:N (.bool (decide (a.toList=b.toList)))):aY P X w (dF .eql t xo yo (.string a) (.string b)) N:=
 bK (λwa=>by simp[dF,eqGuard,binOp,wY,Ey]) h
theorem ahb (h:N (.bool (decide (a.toList≠b.toList)))):aY P X w (dF .neq t xo yo (.string a) (.string b)) N:=
 bK (λwa=>by simp[dF,eqGuard,binOp,wY,Ey]) h
theorem ahc (h:N (.bool (cB a.toList b.toList))):aY P X w (binOp .lss t (.string a) (.string b)) N:=
 bK (λwa=>by rfl) h
theorem ahd (h:N (.bool (!cB a.toList b.toList))):aY P X w (binOp .geq t (.string a) (.string b)) N:=
 bK (λwa=>by rfl) h
theorem ahe (h:N (.bool (cB a.toList b.toList||decide (a.toList=b.toList)))):aY P X w (binOp .leq t (.string a) (.string b)) N:=
 bK (λwa=>by simp[binOp,wY,Ey]) h
theorem ahf (h:N (.bool (!(cB a.toList b.toList||decide (a.toList=b.toList))))):aY P X w (binOp .gtr t (.string a) (.string b)) N:=
 bK (λwa=>by simp[binOp,wY,Ey]) h
end
section
variable {t : TypeId} {k : FloatKind} {a b : Nat}
theorem ahg (h:N (.bool (k.format.order a b==some .lt))):aY P X w (binOp .lss t (.float k a) (.float k b)) N:=bK (λwa=>by simp[binOp,qe]) h
theorem ahh (h:N (.bool (k.format.order a b==some .lt||k.format.order a b==some .eq))):aY P X w (binOp .leq t (.float k a) (.float k b)) N:=
 bK (λwa=>by simp[binOp,qe]) h
theorem ahi (h:N (.bool (k.format.order a b==some .gt))):aY P X w (binOp .gtr t (.float k a) (.float k b)) N:=bK (λwa=>by simp[binOp,qe]) h
theorem ahj (h:N (.bool (k.format.order a b==some .gt||k.format.order a b==some .eq))):aY P X w (binOp .geq t (.float k a) (.float k b)) N:=
 bK (λwa=>by simp[binOp,qe]) h
theorem ahk (h:N (.bool (k.format.order a b==some .eq))):aY P X w (dF .eql t xo yo (.float k a) (.float k b)) N:=
 bK (λwa=>by simp[dF,eqGuard,binOp,qe]) h
theorem ahl (h:N (.bool (k.format.order a b !=some .eq))):aY P X w (dF .neq t xo yo (.float k a) (.float k b)) N:=
 bK (λwa=>by simp[dF,eqGuard,binOp,qe]) h
end
section
variable {t : TypeId} {k k2 : IntKind} {a b : Int}
theorem Ez (hb: ¬b<0) (h:N (.int k (a.fdiv (2^min b.toNat k.bits)))):aY P X w (binOp .shr t (.int k a) (.int k2 b)) N:=
 bK (λwa=>by simp[binOp,Op.shift,hb]) h
theorem Sh (hb: ¬b<0) (h:N (.int k (k.wrap (a*2^min b.toNat k.bits)))):aY P X w (binOp .shl t (.int k a) (.int k2 b)) N:=
 bK (λwa=>by simp[binOp,Op.shift,hb]) h
theorem Si (h:N (.int k (k.wrap (aF k.bits a^^^aF k.bits b).toNat))):aY P X w (binOp .xor t (.int k a) (.int k b)) N:=
 bK (λwa=>by simp[binOp,Op.intBits]) h
theorem MX (h:N (.int k (k.wrap (aF k.bits a&&& aF k.bits b).toNat))):aY P X w (binOp .and t (.int k a) (.int k b)) N:=
 bK (λwa=>by simp[binOp,Op.intBits]) h
end
variable {x y : Value} {A : Prop}
section
variable {b c : Bool} {g : Value}
theorem abO (h:N (.bool (!b))):aY P X w (Op.unary .not (.bool b)) N:=bK (λwa=>by rfl) h
theorem W7 (h:N (if b then x else y)):nU P X w (jl (.bool b) x y) N:=W6 (λwa=>by rfl) h
def TQ (h:N x):nU P X w (jl (.bool true) x y) N:=W7 h
def TR (h:N y):nU P X w (jl (.bool false) x y) N:=W7 h
theorem MY {s:Sem Next} (h:nU P X w s N):nV P X w (.bool want) want s N:=by
 obtain⟨v,hv,hn⟩:=h;exact⟨v,λ_=>hv,λhf=>absurd hf (by simp[oV]),hn⟩
theorem W8 {s:Sem Next} (h:N undef):nV P X w (.bool (!want)) want s N:=
 ⟨undef,λhf=>absurd hf (by cases want<;>simp[oV]),λ_=>rfl,h⟩
def ahm {s:Sem Next} (h:nU P X w s N):nV P X w (.bool true) true s N:=MY h
def ahn {s:Sem Next} (h:nU P X w s N):nV P X w (.bool false) false s N:=MY h
def TS {s:Sem Next} (h:N undef):nV P X w (.bool false) true s N:=W8 (want:=true) h
def afo {s:Sem Next} (h:N undef):nV P X w (.bool true) false s N:=W8 (want:=false) h
def abP {B:Prop} (h:b=true->A) (k:b=false->B):nB (.bool b) A B:=⟨h,k⟩
theorem acF {B:Prop} (h:b=want->A) (k:b=!want->B):gE (.bool b) want A B:=
 ⟨λe=>h (by simpa [oV] using e),λe=>k (by revert e;cases b<;>cases want<;>simp[oV])⟩
def apJ {B:Prop} (h:A):gE (.bool true) true A B:=acF (λ_=>h) sQ
def apK {B:Prop} (h:A):gE (.bool false) false A B:=acF (λ_=>h) sQ
def aom {B:Prop} (h:B):gE (.bool true) false A B:=acF sQ (λ_=>h)
def aon {B:Prop} (h:B):gE (.bool false) true A B:=acF sQ (λ_=>h)
theorem NY {vs:Array Value} (hi:vs[i]? =some v) (h:N v):aY P X w (gB (.tuple vs) i) N:=
 bK (λwa=>by simp[gB,hi]) h
def akb {a:Addr} (h:N (.pointer (some a))):nU P X w (bC (.pointer (some a))) N:=
 W6 (λ_=>rfl) h
theorem W9 {t e:TypeId} {p:Option Addr} (ht:P.underlying t=some (.pointer e)) (h:N (.bool p.isNone)):
  aY P X w (dF .eql t xo yo (.pointer p) (.pointer none)) N:=by
 refine bK (λwa=>?_) h;have hp:P.pointee t=e:=by simp[Program.pointee,ht]
 have:=run_equal_pointer_nil (P:=P) (w:=wa) t p gQ;simp[dF,eqGuard,binOp,this]
end
theorem alC {N:Value->World->XS->Prop} (Q:Value->World->World->Prop)
  (hf: ∀wa,(callFunc f args).run P wa= .ok (.enter f args) wa)
  (h: ∀wa,Kp X w wa->Calls P f args wa λe w'=> ∃v,e= .returned v/\Ext wa w'/\Q v wa w')
  (k: ∀v wa w',Kp X w wa->Ext wa w'->Q v wa w'->N v w' (grow X wa w')):eC P R X w m f args N:=by
 intro wa hk;unfold jV;rw[hf wa];refine⟨rfl,(h wa hk).mono ?_⟩
 grind [Step.fc]
end Go.aK