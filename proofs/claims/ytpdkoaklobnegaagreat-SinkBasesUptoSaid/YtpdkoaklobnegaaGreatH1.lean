/-
 Part 1 of the proof: what the last text leans on.
-/
import Derived.Orders
import Derived.Below
import Derived.Laws.Sem
import Derived.Laws.CopyRow
import Derived.Laws.Entries
import Derived.Laws.Cells
import GoSem.Dispatch
import Derived.Laws.Rows
import Derived.Laws.Pointers
import Derived.Deep.MidRow
import Derived.Laws.StructEq
import Derived.Maps.AppendAt
import Derived.Laws.OwnMore
import Derived.Great.BuildSlice
import Derived.Maps.RangeRun
import Derived.Laws.FloatArith
open Option.some renaming injEq → aC
open Bool renaming and_eq_true → aG, not_eq_true' → bW, false_eq_true → bA, or_eq_true → gH, not_eq_false → kc
open Go.Result renaming andThen_ok → bw
open Go.Sem renaming run_bind → bO, run_pure → ck, run → sO
open Go.Region renaming wanted → cf, ready → jI, binds → rN, noSelect → yu
open Option renaming map_some → bN, bind_some → dv, isNone_iff_eq_none → ib
open Nat renaming le_trans → ah, le_refl → bp, lt_of_lt_of_le → aU, zero_add → fH, mod_eq_of_lt → fe
open Prod.mk renaming injEq → dB
open Go.Value renaming int → aA, cells → ad, ownBlock → im, agg → aJ
open List renaming mem_filter → gI, mem_append_left → bU, mem_append_right → dX, mem_cons_of_mem → bm, nil_append → cV, map_cons → bh, toList_toArray → fY, getElem?_eq_getElem → bL, mem_cons → jq, range → dO, mem_cons_self → ll, length_cons → bC, cons_append → ef, mem_append → jV, mem_singleton → bo, getD → ly, drop_of_length_le → hP, drop_eq_getElem_cons → kf, getElem?_take → jT, take_zero → tA, append_nil → cp, flatMap_cons → qL, foldl_cons → g9, contains_iff_mem → s7, all_eq_true → mA, getElem?_drop → fu, drop_eq_nil_of_le → sF, getElem?_eq_none → jX, getElem?_cons_zero → gw, flatten_cons → dg, eq_nil_of_length_eq_zero → fQ, length_append → ae, findIdx?_cons → jd, getElem?_map → dQ, map_append → bq, nodup_append → lI
open Go.Act renaming put → my, eval → lp
open Go.Instr renaming loadAt → jJ, checkKey → iV, buildSlice → ig, sureAddr → lJ, fill → oQ, sameBits → lK, findNow → nZ, extract → aE, fieldAt → qB, storeAt → qD, box → de, findKey → qG, build → wW, sameNow → uV, findAsking → rO, makeMap → kR, mapUpdate → gJ, range → wX, entry → mB, index → wY, keyThatStays → vg
open Go.Op renaming bytesLess → b7, intCmp → pL, stringOp → nH, floatCmp → pN, equalIn → qP, unary → aY, eqFields → s8, intArith → wZ
open Go.Oper renaming upon → mN, wp → jA, apart_spec → yv
open PUnit renaming unit → lL
open Array renaming getElem?_setIfInBounds → eB, replicate → ew, length_toList → dy, getElem?_setIfInBounds_ne → kD, getElem?_eq_none → nR, range → xa, toList_map → xd, any_eq_true' → uL, setIfInBounds_comm → qQ, getElem?_append → jY, getElem?_replicate → jv
open Go.Builtin renaming len_ → kg, delete_ → jW, min_ → lG, append_ → ey, min2 → Bv
open BitVec renaming ofInt → aP
open Go.ByteArray renaming toList_eq → fD
open ForInStep renaming yield → pj
open Go.Deferred renaming ofValue → iW
open Go.World renaming ownsRow_lit → wI
namespace Go.fR
theorem qF {p:Prop} (h:p:=by first|assumption|exact bJ.cells (by assumption)):p:=h
theorem qO {p:Prop} (h:p:=by first|assumption|exact Own.sl (by assumption)):p:=h
theorem qM {p:Prop} (h:p:=by first|exact mv0|exact mv1 (by assumption)|exact mv2 (by assumption) (by assumption)):p:=h
theorem qN {p:Prop} (h:p:=by simp only [Value.cells,nq1,nq2,nq3,nq4,nq5,nq6,cd,nq7,nq8,nq9,nq0,Nat.reduceAdd,Nat.zero_add];try rfl):p:=h
theorem qE {p:Prop} (h:p:=by repeat' first|with_reducible apply Sy|with_reducible exact VY|assumption|rfl|exact Sl.one (by assumption)|exact iw.one (by assumption)|exact Sl.one (Own.sl (by assumption))):p:=h
theorem qC {p:Prop} (h:p:=by first|rfl|assumption|exact Sl.one (by assumption)|exact iw.one (by assumption)|exact Sl.one (Own.sl (by assumption))):p:=h
theorem qR {p:Prop} (h:p:=by first|assumption|exact List.getElem?_eq_getElem (by omega)):p:=h
theorem qA {p:Prop} (h:p:=by first|assumption|exact Sl.mv (by assumption) qM|exact mC.mv (by assumption) qM|exact mW.mv (by assumption) qM|exact Rec.at.mv (by assumption) qM|exact Own.sl (by assumption)|exact Cells.mv (by assumption) qM|exact Cells.mv (bJ.cells (by assumption)) qM|omega):p:=h
abbrev Env:=Nat→Value
abbrev XS:=Nat→Prop
def lM (e:Env) (d:Nat) (v:Value):Env:=fun s=>match s==d with
 |true=>v
 |false=>e s
def H3 (e:Env) (d:Option Nat) (v:Value):Env:=match d with
 |some d=>lM e d v
 |none=>e
structure Fr (X:XS) (w w':World):Prop where
 os:w'.os=w.os
 tape:w'.tape=w.tape
 output:w'.output=w.output
 size:w.heap.size≤w'.heap.size
 block: ∀k,k<w.heap.size→ ¬X k→w'.heap[k]? =w.heap[k]?
def nX:XS:=fun _=>False
def Ext (w w':World):Prop:=Fr nX w w'
theorem Fr.refl (X:XS) (w:World):Fr X w w:=⟨rfl,rfl,rfl,bp _,fun _ _ _=>rfl⟩
theorem Fr.trans {X:XS} {a b c:World} (h:Fr X a b) (k:Fr X b c):Fr X a c:=
 ⟨k.os.trans h.os,k.tape.trans h.tape,k.output.trans h.output,ah h.size k.size,
  fun i hi hx=>(k.block i (aU hi h.size) hx).trans (h.block i hi hx)⟩
theorem Fr.mono {X Y:XS} {a b:World} (h:Fr X a b) (hs: ∀k,X k→Y k):Fr Y a b:=
 ⟨h.os,h.tape,h.output,h.size,fun i hi hy=>h.block i hi fun hx=>hy (hs i hx)⟩
theorem Ext.refl (w:World):Ext w w:=Fr.refl _ _
theorem Ext.trans {a b c:World} (h:Ext a b) (k:Ext b c):Ext a c:=Fr.trans h k
theorem Ext.fr {a b:World} (h:Ext a b) (X:XS):Fr X a b:=Fr.mono h (fun _ hf=>hf.elim)
theorem Ext.size {a b:World} (h:Ext a b):a.heap.size≤b.heap.size:=Fr.size h
theorem Ext.block {a b:World} (h:Ext a b) {k:Nat} (hk:k<a.heap.size):b.heap[k]? =a.heap[k]? :=Fr.block h k hk (fun hf=>hf)
theorem Ext.abk {a b:World} (h:RowKit.Below a.heap.size a b):Ext a b:=⟨h.os,h.tape,h.output,h.size,fun k hk _=>h.block k hk⟩
theorem Ext.below {a b:World} (h:Ext a b):RowKit.Below a.heap.size a b:=⟨h.os,h.tape,h.output,Fr.size h,fun _ hk=>h.block hk⟩
theorem Ext.alloc (w:World) (o:Obj):Ext w (w.alloc o):=Ext.abk ((RowKit.Below.refl _ _).alloc (bp _) o)
theorem Ext.drew (w:World):Ext w { w with drawn:=w.drawn+1 } :=⟨rfl,rfl,rfl,bp _,fun _ _ _=>rfl⟩
structure Kp (X:XS) (w w':World):Prop where
 os:w'.os=w.os
 tape:w'.tape=w.tape
 output:w'.output=w.output
 size:w.heap.size≤w'.heap.size
 block: ∀k,X k→w'.heap[k]? =w.heap[k]?
theorem Kp.refl (X:XS) (w:World):Kp X w w:=⟨rfl,rfl,rfl,bp _,fun _ _=>rfl⟩
theorem Kp.trans {X:XS} {a b c:World} (h:Kp X a b) (k:Kp X b c):Kp X a c:=
 ⟨k.os.trans h.os,k.tape.trans h.tape,k.output.trans h.output,ah h.size k.size,fun i hx=>(k.block i hx).trans (h.block i hx)⟩
theorem Kp.less {X Y:XS} {a b:World} (h:Kp X a b) (hs: ∀k,Y k→X k):Kp Y a b:=⟨h.os,h.tape,h.output,h.size,fun i hy=>h.block i (hs i hy)⟩
theorem Fr.kp {X Y:XS} {a b:World} (h:Fr X a b) (hy: ∀k,Y k→k<a.heap.size∧ ¬X k):Kp Y a b:=
 ⟨h.os,h.tape,h.output,h.size,fun i hi=>h.block i (hy i hi).1 (hy i hi).2⟩
theorem Ext.kp {X:XS} {a b:World} (h:Ext a b) (hx: ∀k,X k→k<a.heap.size):Kp X a b:=Fr.kp h fun k hk=>⟨hx k hk,fun hf=>hf⟩
def aW (w:World):XS:=fun k=>k<w.heap.size
theorem Kp.ext {a b:World} (h:Kp (aW a) a b):Ext a b:=⟨h.os,h.tape,h.output,h.size,fun k hk _=>h.block k hk⟩
theorem Ext.aW {a b:World} (h:Ext a b):Kp (aW a) a b:=h.kp fun _ hk=>hk
inductive Ex where
 |t (n:Nat)
 |c (v:Value)
 |s (b off n:Nat)
 |k (b off:Nat)
def eQ (v:Value) (off n:Nat):Value:=.agg ((v.cells.toList.drop off).take n).toArray
def cellOf (v:Value) (i:Nat):Value:=v.cells.toList.getD i undef
def Ex.ev (env:Env):Ex→Value
 | .t n=>env n
 | .c v=>v
 | .s b off n=>eQ (env b) off n
 | .k b off=>cellOf (env b) off
def Ex.Sz:Ex→Nat→Bool
 | .t n,d=>n==d
 | .c _,_=>false
 | .s b _ _,d=>b==d
 | .k b _,d=>b==d
def look {α:Type} :List (Nat×α)→Nat→Option α
 |[],_=>none
 |(s,e)::r,t=>if s=t then some e else look r t
def Cy (env:Env) (ss:List (Nat×Ex)):Operand→Value
 | .tmp t=>match look ss t with
  |some e=>e.ev env
  |none=>env t
 | .const v=>v
 | .global g=>.pointer (some ⟨g,0,none⟩)
 | .func f=>.func (.func f) #[] #[]
def Ph (op:Op) (ty:TypeId):Oper:=⟨none,op,ty, "",#[],none⟩
def vS (s:Sem Value):Sem Next:=do pure (.value (←s))
def Fg (f:Value) (args:Array Value):Sem Next:=do let d←iW f args;invoke d.target d.args
def tB (ρ:Operand→Value) (a:Array Operand):Array Value:=(a.toList.map ρ).toArray
def Yg (ρ:Operand→Value) (a:Array (Nat×Operand)):Array (Nat×Value):=(a.toList.map fun p=>(p.1,ρ p.2)).toArray
def Nh (ρ:Operand→Value) (op:Op) (ty:TypeId):Sem Next:=match op with
 | .call ⟨.value (.func f),args,_⟩=>callFunc f (tB ρ args)
 | .call ⟨.value (.tmp t),args,_⟩=>Fg (ρ (.tmp t)) (tB ρ args)
 | .call ⟨.builtin .len,args,ts⟩=>vS (kg ts ty (tB ρ args))
 | .call ⟨.builtin .cap,args,ts⟩=>vS (Builtin.cap_ ts ty (tB ρ args))
 | .call ⟨.builtin .min,args,ts⟩=>vS (lG ts ty (tB ρ args))
 | .call ⟨.builtin .max,args,ts⟩=>vS (Builtin.max_ ts ty (tB ρ args))
 | .call ⟨.builtin .append,args,ts⟩=>vS (ey ts ty (tB ρ args))
 | .call ⟨.builtin .copy,args,ts⟩=>vS (Builtin.copy_ ts ty (tB ρ args))
 | .call ⟨.builtin .delete,args,ts⟩=>vS (jW ts ty (tB ρ args))
 | .call ⟨.builtin .clear,args,ts⟩=>vS (Builtin.clear_ ts ty (tB ρ args))
 | .call ⟨.builtin .panic,args,_⟩=>vS (Instr.panic ((tB ρ args).toList.getD 0 .nilIface))
 | .build t ps=>vS (wW t (Yg ρ ps))
 | .buildSlice t n ps=>vS (ig t n (Yg ρ ps))
 | .makeFunc fn a b=>vS (Instr.makeFunc fn (tB ρ a) (tB ρ b))
 |op=>execOp ρ (Ph op ty)
theorem Pj (ρ:Operand→Value) (a:Array Operand):tB ρ a=a.map ρ:=by
 unfold tB;rw [←xd]
theorem adQ (ρ:Operand→Value) (a:Array (Nat×Operand)):Yg ρ a=a.map fun p=>(p.1,ρ p.2):=by
 unfold Yg;rw [←xd]
theorem ZW (ρ:Operand→Value) (hρ: ∀f,ρ (.func f)= .func (.func f) #[] #[]) (op:Op) (ty:TypeId):Nh ρ op ty=execOp ρ (Ph op ty):=by
 unfold Nh
 split<;>first
  |rfl
  |(simp [execOp,Ph,resolve,invoke,iW,Pj,adQ,vS,builtin,Fg,hρ];done)
def cd (l:List Value) (off:Nat) (vs:List Value):List Value:=l.take off++vs++l.drop (off+vs.length)
def Rd (P:Program) (X:XS) (w:World) (s:Sem Next) (v:Value):Prop:= ∀wa,Kp X w wa→s.run P wa= .ok (.value v) wa
def mX (v:Value) (want:Bool):Bool:=match v with
 | .bool b=>b==want
 |_=>false
def ez:Value→Bool
 | .agg _=>true
 |_=>false
def one (v:Value):Bool:=match v with
 | .agg _| .tuple _=>false
 |_=>true
inductive TI where
 |Dq (b:Nat)
 |set (d:Nat) (e:Ex)
 |box (b n:Nat) (e:Ex)
 |put (b off n:Nat) (e:Ex)
 |xe (b:Nat) (e:Ex)
 |SA (b off:Nat) (e:Ex)
 |fill (b n:Nat) (e:Ex)
 |rd (d:Nat) (op:Op) (ty:TypeId) (ss:List (Nat×Ex))
 |Av (d:Option Nat) (op:Op) (ty:TypeId) (ss:List (Nat×Ex)) (m:Bool)
 |SB (g:Nat) (want:Bool) (d:Nat) (e:Ex)
 |ZX (g:Nat) (want:Bool) (d:Nat) (op:Op) (ty:TypeId) (ss:List (Nat×Ex))
 |SC (g:Nat) (want:Bool) (d:Option Nat) (op:Op) (ty:TypeId) (ss:List (Nat×Ex)) (m:Bool)
inductive T where
 |DW (l:List TI)
 |seq (a b:T)
 |ite (e:Ex) (a b:T)
 |jw (id:Nat) (a:T)
 |loop (M C:List Nat) (a:T)
 |exit (id:Nat)
 |ret
 |skip
def grow (X:XS) (w w':World):XS:=fun k=>X k∨(w.heap.size≤k∧k<w'.heap.size)
def Step (m:Bool) (X:XS) (w w':World):Prop:=if m then Fr X w w' else Ext w w'
theorem Step.fr {m:Bool} {X:XS} {w w':World} (h:Step m X w w'):Fr X w w':=by
 unfold Step at h;split at h
 ·exact h
 ·exact h.fr X
theorem Step.fE {m:Bool} {X:XS} {w w':World} (h:Ext w w'):Step m X w w':=by
 unfold Step;split
 ·exact h.fr X
 ·exact h
def kh (P:Program) (m:Bool) (X:XS) (w:World) (next:Value→World→XS→Prop) (iX:List PanicEntry→World→XS→Prop):Result Next→Prop
 | .ok (.value v) w'=>Step m X w w'∧next v w' (grow X w w')
 | .ok .skip w'=>Step m X w w'∧next undef w' (grow X w w')
 | .ok (.enter f args) w'=>w'=w∧Calls P f args w fun
   | .returned v,kW=>Step m X w kW∧next v kW (grow X w kW)
   | .panicked ch,kW=>Step m X w kW∧iX ch kW (grow X w kW)
   | .outgrown,_=>False
 | .halt (.panic v) w'=>Step m X w w'∧iX [{ v,recovered:=false }] w' (grow X w w')
 |_=>False
def bz (b:Bool) (N:Prop):Prop:=match b with
 |true=>N
 |false=>False
theorem dF {b:Bool} {N:Prop} :bz b N↔b=true∧N:=by cases b<;>simp [bz]
def ao (v:Value) (A B:Prop):Prop:=match v with
 | .bool t=>(t=true→A)∧(t=false→B)
 |_=>False
def SD (P:Program) (iX:List PanicEntry→Env→World→XS→Prop) (next:Env→World→XS→Prop) (env:Env) (w:World) (X:XS):TI→Prop
 | .Dq b=>bz (ez (env b)) (next env w X)
 | .set d e=>next (lM env d (e.ev env)) w X
 | .box b n e=>bz ((e.ev env).cells.toList.length==n) (next (lM env b (.agg (e.ev env).cells)) w X)
 | .put b off n e=>bz ((e.ev env).cells.toList.length==n) (bz ((e.ev env).cells.toList.all one)
   (next (lM env b (.agg (cd (env b).cells.toList off (e.ev env).cells.toList).toArray)) w X))
 | .xe b e=>bz (one (e.ev env)) (next (lM env b (.agg #[e.ev env])) w X)
 | .SA b off e=>bz (one (e.ev env)) (next (lM env b (.agg (cd (env b).cells.toList off [e.ev env]).toArray)) w X)
 | .fill b n e=>bz ((e.ev env).cells.toList.length==n) (bz ((e.ev env).cells.toList.all one) (next (lM env b (.agg (e.ev env).cells)) w X))
 | .rd d op ty ss=> ∃v,Rd P X w (Nh (Cy env ss) op ty) v∧next (lM env d v) w X
 | .Av d op ty ss m=> ∀wa,Kp X w wa→
   kh P m X wa (fun v w' X'=>next (H3 env d v) w' X') (fun ch w' X'=>iX ch env w' X') ((Nh (Cy env ss) op ty).run P wa)
 | .SB g want d e=>next (lM env d (if mX (env g) want then e.ev env else undef)) w X
 | .ZX g want d op ty ss=> ∃v,(mX (env g) want=true→Rd P X w (Nh (Cy env ss) op ty) v)∧(mX (env g) want=false→v=undef)∧
   next (lM env d v) w X
 | .SC g want d op ty ss m=>
   (mX (env g) want=true→ ∀wa,Kp X w wa→
    kh P m X wa (fun v w' X'=>next (H3 env d v) w' X') (fun ch w' X'=>iX ch env w' X') ((Nh (Cy env ss) op ty).run P wa))∧
   (mX (env g) want=false→next (H3 env d undef) w X)
def gO (P:Program) (iX:List PanicEntry→Env→World→XS→Prop) (next:Env→World→XS→Prop):List TI→Env→World→XS→Prop
 |[],env,w,X=>next env w X
 |i::l,env,w,X=>SD P iX (gO P iX next l) env w X i
abbrev oT:=Exit→Env→World→XS→Prop
def oT.W4 (next:Env→World→XS→Prop) (K:oT):oT
 | .normal,e,w,X=>next e w X
 |ex,e,w,X=>K ex e w X
def oT.jw (id:Nat) (K:oT):oT
 | .exit i,e,w,X=>if i=id then K .normal e w X else K (.exit i) e w X
 |ex,e,w,X=>K ex e w X
def Bw (M:List Nat) (s:Nat):Bool:=match M with
 |[]=>false
 |x::r=>x==s||Bw r s
theorem wJ {s:Nat} : ∀{M:List Nat},Bw M s=true↔s∈M
 |[]=>by simp [Bw]
 |x::r=>by
  simp only [Bw,gH,beq_iff_eq,wJ (M:=r),jq]
  exact⟨fun h=>h.imp Eq.symm id,fun h=>h.imp Eq.symm id⟩
def merge (M:List Nat) (e env:Env):Env:=fun s=>match Bw M s with
 |true=>e s
 |false=>env s
def den (P:Program):T→oT→Env→World→XS→Prop
 | .DW l,K,env,w,X=>gO P (fun ch=>K (.panic ch)) (fun e w X=>K .normal e w X) l env w X
 | .seq a b,K,env,w,X=>den P a (oT.W4 (fun e w X=>den P b K e w X) K) env w X
 | .ite e a b,K,env,w,X=>ao (e.ev env) (den P a K env w X) (den P b K env w X)
 | .jw id a,K,env,w,X=>den P a (oT.jw id K) env w X
 | .loop M C a,K,env,w,X=> ∃J:Nat→List Value→World→XS→Prop,(∃n,J n (C.map env) w X)∧
   ∀n (e:Env) w' X',(∀k,X k→X' k)→J n (C.map e) w' X'→den P a (oT.W4 (fun e' kW s9=> ∃m,m<n∧J m (C.map e') kW s9) K) (merge M e env) w' X'
 | .exit id,K,env,w,X=>K (.exit id) env w X
 | .ret,K,env,w,X=>K .ret env w X
 | .skip,K,env,w,X=>K .normal env w X
structure bI where
 n:Nat
 boxes:List (Nat×Nat)
 QA:List Nat
 nS:List Nat
 mat:List Nat
 car:List Nat
def bI.jM (pl:bI) (s:Nat):Bool:=pl.nS.contains s&&decide (s<pl.n)&&(look pl.boxes s).isNone&&!pl.QA.contains s
def bI.mD (pl:bI) (d:Nat):Bool:=decide (d<pl.n)&&(look pl.boxes d).isNone&&!pl.QA.contains d
structure Ptr where
 s:Nat
 b:Nat
 off:Nat
 g:Option (Nat×Bool)
structure CS where
 sig:List (Nat×Ex)
 wh:List Ptr
 live:List Nat
def CS.start:CS:=⟨[],[],[]⟩
def valOf (pl:bI) (cs:CS):Operand→Option Ex
 | .tmp t=>if pl.jM t then some (.t t)else look cs.sig t
 | .const v=>some (.c v)
 | .global g=>some (.c (.pointer (some ⟨g,0,none⟩)))
 | .func f=>some (.c (.func (.func f) #[] #[]))
def DX (og:Option (Nat×Bool)):List Ptr→Nat→Option (Nat×Nat)
 |[],_=>none
 |p::r,t=>if p.s=t then(if p.g.isNone||p.g==og then some (p.b,p.off)else none)else DX og r t
def ta (pl:bI) (cs:CS) (og:Option (Nat×Bool)):Operand→Option (Nat×Nat×List Nat)
 | .tmp t=>match look pl.boxes t with
  |some _=>some (t,0,if cs.live.contains t then [] else [t])
  |none=>if pl.QA.contains t then(DX og cs.wh t).map fun (b,off)=>(b,off,[])else none
 |_=>none
def CS.kill (cs:CS) (d:Nat):CS:=
 ⟨cs.sig.filter fun p=>p.1 !=d&&!p.2.Sz d,cs.wh.filter fun p=>p.b !=d&&p.s !=d&&(match p.g with|some (g,_)=>g !=d|none=>true),cs.live⟩
def CS.Ka (cs:CS) (b:Nat):CS:=⟨cs.sig.filter fun p=>!p.2.Sz b,cs.wh,cs.live⟩
def CS.bind (cs:CS) (pl:bI) (d:Nat):CS:=let c:=cs.kill d;if pl.jM d then c else { c with sig:=(d,.t d)::c.sig }
def CS.note (cs:CS) (d:Nat) (e:Ex):CS:= { cs with sig:=(d,e)::cs.sig.filter (fun p=>p.1 !=d),wh:=cs.wh.filter fun p=>p.s !=d }
def CS.rP (cs:CS) (d b off:Nat) (g:Option (Nat×Bool)):CS:=
 { cs with sig:=cs.sig.filter (fun p=>p.1 !=d),wh:=⟨d,b,off,g⟩::(cs.wh.filter fun p=>p.s !=d) }
def CS.lz (cs:CS) (l:List Nat):CS:= { cs with live:=l++cs.live }
def po (pl:bI) (cs:CS) (d:Nat) (e:Ex):List TI×CS:=
 if pl.jM d||pl.mat.contains d then([.set d e],cs.bind pl d)else([],cs.note d e)
def fieldInfo (P:Program) (S f:Nat):Option (Nat×Nat):=
 match P.underlying S with
 |some (.struct fs)=>(fs[f]?).bind fun x=>(P.info? x.type).map fun i=>(x.offset,i.size)
 |_=>none
def subst (pl:bI) (cs:CS):List Operand→Option (List (Nat×Ex))
 |[]=>some []
 | .tmp t::r=>match valOf pl cs (.tmp t),subst pl cs r with
  |some e,some ss=>some (match e with
   | .t n=>if n=t then ss else(t,e)::ss
   |_=>(t,e)::ss)
  |_,_=>none
 |_::r=>subst pl cs r
def SE (P:Program) (t:Nat):Bool:=match P.underlying t with
 |some (.slice _)=>true
 |_=>false
def ahB (P:Program):Op→Bool
 | .pick .. | .nilCheck _| .binOp .. | .unOp .. | .fieldAddr .. | .field .. | .indexAddr .. | .index .. | .extract .. | .slice .. | .build .. | .makeFunc ..
 | .makeInterface .. | .load .. | .lookup .. | .typeAssert .. | .move _| .assign _=>true
 | .convert s d _=>!SE P s&&!SE P d
 | .call { callee:=.builtin b,.. } =>match b with
  | .len| .cap| .min| .max=>true
  |_=>false
 |_=>false
structure CR where
 fl:Bool
 nd:List Nat
 l:List TI
 cs:CS
 rb:List Nat
 sb:List Nat
def Fh:Op→Bool
 | .select .. =>false
 |_=>true
def Cz (P:Program) (pl:bI) (cs:CS) (m:Bool) (o:Oper):Option CR:=
 match subst pl cs o.op.operands.toList with
 |none=>none
 |some ss=>if !Fh o.op then none else
  match o.dst with
  |some d=>if !pl.mD d then none else
   if ahB P o.op then some ⟨true,[],[.rd d o.op o.type ss],cs.bind pl d,[],[]⟩else some ⟨false,[],[.Av (some d) o.op o.type ss m],cs.bind pl d,[],[]⟩
  |none=>some ⟨false,[],[.Av none o.op o.type ss m],cs,[],[]⟩
def ki (P:Program) (t:Nat):Option (Bool×Nat):=
 match P.underlying t,P.info? t with
 |some d,some i=>some ((match d with| .struct _| .array _ _=>true|_=>false),i.size)
 |_,_=>none
def SF (P:Program) (pl:bI) (cs:CS) (sz:Nat) (t:Nat) (e:Ex) (d:Nat):Option CR:=
 match ki P t with
 |some (ag,s)=>if decide (d<pl.n)&&s==sz then some ⟨false,[],[if !ag&&s==1 then .xe d e else .box d sz e],(cs.kill d).lz [d],[],[]⟩else none
 |none=>none
def Ba (P:Program) (pl:bI) (cs:CS) (og:Option (Nat×Bool)) (m:Bool) (o:Oper):Option CR:=
 match o.op with
 | .move x| .assign x=>match o.dst,valOf pl cs x with
  |some d,some e=>if pl.mD d then(let r:=po pl cs d e;some ⟨true,[],r.1,r.2,[],[]⟩)else none
  |_,_=>none
 | .box t x=>match o.dst with
  |some d=>match look pl.boxes d with
   |some sz=>match valOf pl cs x with
    |some e=>SF P pl cs sz t e d
    |none=>none
   |none=>Cz P pl cs m o
  |none=>none
 | .alloc t=>match o.dst with
  |some d=>match look pl.boxes d with
   |some sz=>match(P.info? t).bind (·.zero)with
    |some z=>SF P pl cs sz t (.c z) d
    |none=>none
   |none=>Cz P pl cs m o
  |none=>none
 | .fieldAddr S x f=>match ta pl cs og x with
  |some (b,off,nd)=>match o.dst,fieldInfo P S f with
   |some d,some (fo,sz)=>if pl.QA.contains d&&decide (d<pl.n)&&(look pl.boxes d).isNone&&sz !=0 then
     some ⟨true,nd,[],(cs.lz nd).rP d b (off+fo) og,[],[]⟩else none
   |_,_=>none
  |none=>Cz P pl cs m o
 | .load t x=>match ta pl cs og x with
  |some (b,off,nd)=>match o.dst,ki P t,look pl.boxes b with
   |some d,some (ag,sz),some bs=>if pl.mD d&&decide (off+sz≤bs)&&(ag||sz==1)then
     (let r:=po pl (cs.lz nd) d (if ag then .s b off sz else .k b off);some ⟨true,nd,r.1,r.2,[b],[]⟩)else none
   |_,_,_=>none
  |none=>Cz P pl cs m o
 | .store t x v=>match ta pl cs og x with
  |some (b,off,nd)=>match o.dst,valOf pl cs v,ki P t,look pl.boxes b with
   |none,some e,some (ag,sz),some bs=>if decide (off+sz≤bs)then
     some ⟨false,nd,[if !ag&&sz==1 then .SA b off e else if off==0&&sz==bs then .fill b sz e else .put b off sz e],(cs.lz nd).Ka b,[],[b]⟩else none
   |_,_,_,_=>none
  |none=>Cz P pl cs m o
 |_=>Cz P pl cs m o
def abl:Op→Bool
 | .fieldAddr .. =>true
 |_=>false
def ob (g:Nat) (want:Bool) (op:Op) (r:CR):Option CR:=
 match r.fl,r.l with
 |true,[]=>if abl op then some r else none
 |true,[.set d e]=>if d=g then none else some { r with l:=[.SB g want d e] }
 |true,[.rd d op ty ss]=>if d=g then none else some { r with l:=[.ZX g want d op ty ss] }
 |false,[.Av d op ty ss m]=>if d=some g then none else some { r with l:=[.SC g want d op ty ss m] }
 |_,_=>none
def zD (P:Program) (pl:bI) (cs:CS) (ops:Array Oper) (m:Bool) (o:Oper):Option CR:=
 match o.guard with
 |none=>Ba P pl cs none m o
 |some (j,want)=>match(ops[j]?).bind (·.dst)with
  |none=>none
  |some gs=>match valOf pl cs (.tmp gs)with
   |some (.t g)=>(Ba P pl cs (some (g,want)) m o).bind (ob g want o.op)
   |_=>none
def CR.all (r:CR):List TI:=r.nd.map .Dq++r.l
def Bx (P:Program) (pl:bI) (ops:Array Oper):List Oper→CS→Option (List TI)
 |[],_=>some []
 |o::r,cs=>match zD P pl cs ops true o with
  |some x=>(Bx P pl ops r x.cs).map (x.all++ ·)
  |none=>none
def waits (o:Oper) (i:Nat):Bool:=o.after.any fun e=>rN .any e&&e.on==i
def Yh (ops:Array Oper) (ct:Array Bool) (S:List Nat) (j:Nat):Bool:=!ct.getD j true&&match ops[j]? with
 |some o=>o.after.any fun e=>rN .any e&&S.contains e.on
 |none=>false
def H4 (ops:Array Oper) (ct:Array Bool) (i:Nat):List Nat:=(dO ops.size).foldl (fun S j=>if Yh ops ct S j then j::S else S) [i]
def ahC (ops:Array Oper) (j:Nat):List Nat:=
 (dO (j+1)).reverse.foldl (fun S k=>if S.contains k then(match ops[k]? with
  |some o=>o.after.toList.foldl (fun S e=>if rN .any e&&!S.contains e.on then e.on::S else S) S
  |none=>S)else S) [j]
def Bb (o:Oper):Bool:=match o.op with
 | .extract .. =>true
 | .move .. =>true
 |_=>false
def ldX (pl:bI) (o:Oper):Bool:=match o.op with
 | .load _ (.tmp x)=>(look pl.boxes x).isSome
 |_=>false
def ZY (o:Oper) (rb:List Nat):Bool:=match o.op with
 | .load _ (.tmp x)=>rb.contains x
 |_=>false
def rQ (pl:bI) (ops:Array Oper) (j:Nat):Bool:=
 match ops[j]? with
 |some oj=>((dO ops.size).all fun i=>i==j||waits oj i||(match ops[i]? with
  |some oi=>waits oi j||Bb oi||ldX pl oi
  |none=>true))||(let B:=ahC ops j++H4 ops (ew ops.size false) j;(dO ops.size).all fun i=>B.contains i||(match ops[i]? with
  |some oi=>Bb oi||ldX pl oi
  |none=>true))
 |none=>false
def ZZ (pl:bI) (ops:Array Oper):Nat→Operand→Option Nat
 |0,_=>none
 |n+1,.tmp t=>match look pl.boxes t with
  |some _=>some t
  |none=>match ops.find? (fun o=>o.dst==some t)with
   |some o=>(match o.op with
    | .fieldAddr _ x _=>ZZ pl ops n x
    |_=>none)
   |none=>none
 |_+1,_=>none
def y6 (pl:bI) (ops:Array Oper) (o:Oper):List Nat:=match o.op with
 | .store _ x _=>(ZZ pl ops 6 x).toList
 |_=>[]
def Kb (pl:bI) (ops:Array Oper) (ct:Array Bool) (i:Nat) (rb:List Nat):Bool:=
 match ops[i]? with
 |none=>false
 |some oi=>(match oi.dst with
   |some d=>(look pl.boxes d).isNone
   |none=>true)&&(dO ops.size).all fun j=>j==i||ct.getD j true||match ops[j]? with
   |some oj=>waits oj i||(oi.apart ops oj&&(Bb oi||ZY oi rb||!rQ pl ops j)&&(y6 pl ops oj).all fun b=>!rb.contains b)||(H4 ops ct i).contains j
   |none=>true
def Bq (P:Program) (pl:bI) (ops:Array Oper) (cs:CS) (ct:Array Bool):List Nat→Option (Nat×CR)
 |[]=>none
 |i::r=>match(ops[i]?).bind (zD P pl cs ops (rQ pl ops i))with
  |some x=>if x.fl&&Kb pl ops ct i x.rb then some (i,x)else Bq P pl ops cs ct r
  |none=>Bq P pl ops cs ct r
def Fi (P:Program) (pl:bI) (o:Oper):Option (Nat×Nat×Bool×Value):=match o.guard,o.op,o.dst with
 |none,.alloc t,some d=>match look pl.boxes d,(P.info? t).bind (·.zero),ki P t with
  |some sz,some z,some (ag,s)=>if decide (d<pl.n)&&s==sz then some (d,sz,!ag&&s==1,z)else none
  |_,_,_=>none
 |_,_,_=>none
def xf:Nat×Nat×Bool×Value→TI
 |(d,sz,one,z)=>if one then .xe d (.c z)else .box d sz (.c z)
def uo (cs:CS) (d:Nat):CS:=(cs.kill d).lz [d]
def Yi (l:List Nat) (i:Nat):Bool:=match l with
 |[x]=>x==i
 |_=>false
def ado (P:Program) (pl:bI) (ops:Array Oper) (ct:Array Bool) (i j:Nat):Option (Nat×Nat×Bool×Value):=
 match(ops[i]?).bind (Fi P pl),(ops[j]?).bind (Fi P pl)with
 |some bi,some bj=>if !(bi.1==bj.1)&&Yi (jI .any ops (ct.setIfInBounds i true)) j&&Yi (jI .any ops (ct.setIfInBounds j true)) i then some bi else none
 |_,_=>none
def tc (P:Program) (pl:bI) (ops:Array Oper):Nat→Array Bool→CS→Option (List TI)
 |0,ct,_=>if(jI .any ops ct).isEmpty then some [] else none
 |fuel+1,ct,cs=>
  match Bq P pl ops cs ct (jI .any ops ct)with
  |some (i,x)=>(tc P pl ops fuel (ct.setIfInBounds i true) x.cs).map (x.all++ ·)
  |none=>match jI .any ops ct with
   |[i]=>match ops[i]? with
    |some o=>match zD P pl cs ops (rQ pl ops i) o with
     |some x=>if x.sb.all fun b=>(y6 pl ops o).contains b then(tc P pl ops fuel (ct.setIfInBounds i true) x.cs).map (x.all++ ·)else none
     |none=>none
    |none=>none
   |[i,j]=>match ado P pl ops ct i j with
    |some b=>(tc P pl ops fuel (ct.setIfInBounds i true) (uo cs b.1)).map (xf b:: ·)
    |none=>none
   |_=>none
def TI.GU:TI→List Nat
 | .set d _=>[d]
 | .box b _ _=>[b]
 | .xe b _=>[b]
 | .rd d _ _ _=>[d]
 | .Av d _ _ _ _=>d.toList
 | .SB _ _ d _=>[d]
 | .ZX _ _ d _ _ _=>[d]
 | .SC _ _ d _ _ _ _=>d.toList
 |_=>[]
def nq (l:List TI):List Nat:=l.flatMap TI.GU
def TI.wr:TI→List Nat
 | .Dq _=>[]
 | .set d _=>[d]
 | .box b _ _=>[b]
 | .put b _ _ _=>[b]
 | .xe b _=>[b]
 | .SA b _ _=>[b]
 | .fill b _ _=>[b]
 | .rd d _ _ _=>[d]
 | .Av d _ _ _ _=>d.toList
 | .SB _ _ d _=>[d]
 | .ZX _ _ d _ _ _=>[d]
 | .SC _ _ d _ _ _ _=>d.toList
def T.wr:T→List Nat
 | .DW l=>l.flatMap TI.wr
 | .seq a b=>a.wr++b.wr
 | .ite _ a b=>a.wr++b.wr
 | .jw _ a=>a.wr
 | .loop M _ a=>M++a.wr
 |_=>[]
def T.mk:T→List Nat
 | .DW l=>nq l
 | .seq a b=>a.mk++b.mk
 | .ite _ a b=>a.mk++b.mk
 | .jw _ a=>a.mk
 | .loop _ _ a=>a.mk
 |_=>[]
def qS:List Nat→List Nat→List Nat
 |[],acc=>acc
 |x::r,acc=>qS r (if acc.contains x then acc else x::acc)
def lA (P:Program) (pl:bI):Code→Option T
 | .skip=>some .skip
 | .region _ ops draw=>if draw then(if P.follows .mixedOrders&&yu ops then(tc P pl ops ops.size (ew ops.size false) .start).map .DW else none)else(Bx P pl ops ops.toList .start).map .DW
 | .seq a b=>match lA P pl a,lA P pl b with
  |some x,some y=>some (match x,y with
   | .skip,y=>y
   |x,.skip=>x
   |x,y=>.seq x y)
  |_,_=>none
 | .cond c a b=>match valOf pl .start c,lA P pl a,lA P pl b with
  |some e,some x,some y=>some (.ite e x y)
  |_,_,_=>none
 | .block id a=>(lA P pl a).map (.jw id)
 | .loop a=>(lA P pl a).map fun x=>.loop (qS x.wr []) ((qS x.wr []).filter (Bw pl.car)) x
 | .exit id=>some (.exit id)
 | .ret=>some .ret
 |_=>none
def By (P:Program) (pl:bI):List ResultVar→Option (List Ex×List Nat)
 |[]=>some ([],[])
 | .tmp t::r=>if pl.jM t then(By P pl r).map fun (l,n)=>(.t t::l,n)else none
 | .cell a t::r=>match look pl.boxes a,ki P t with
  |some bs,some (ag,sz)=>if decide (sz≤bs)&&(ag||sz==1)then(By P pl r).map fun (l,n)=>((if ag then .s a 0 sz else .k a 0)::l,a::n)else none
  |_,_=>none
structure FT where
 code:T
 res:List Ex
 live:List Nat
def cF (P:Program) (pl:bI) (fn:Func):Option FT:=
 if fn.ntmps==pl.n then
  match fn.body with
  |some c=>match lA P pl c,By P pl fn.results.toList with
   |some t,some (r,n)=>some ⟨t,r,n⟩
   |_,_=>none
  |none=>none
 else none
def SG (l:List Ex) (env:Env):Value:=match l with
 |[e]=>e.ev env
 |l=>.tuple (l.map (·.ev env)).toArray
def SH (ft:FT) (R:Ending→World→Prop):oT
 | .normal,e,w,X| .ret,e,w,X=>bz (ft.live.all fun b=>ez (e b)) (∀wa,Kp X w wa→R (.returned (SG ft.res e)) wa)
 | .panic ch,_,w,X=> ∀wa,Kp X w wa→R (.panicked ch) wa
 |_,_,_,_=>False
def mE (args:Array Value):Env:=fun i=>args.toList.getD i undef
section
variable {P : Program} {ops : Array Oper} {Q : Exit → Act → World → Prop}
def fz (k off:Nat):Value:=.pointer (some ⟨k,off,none⟩)
def ZB (pl:bI) (RB:List Nat) (a:Act):XS:=fun k=> ∃b n,look pl.boxes b=some n∧ ¬b∈RB∧a.tmps[b]? =some (fz k 0)
def YF (P:Program) (pl:bI) (RB:List Nat) (ops:Array Oper) (o:Oper) (v:Value) (a:Act) (w:World):Prop:=
 (cf o (yielded ops a.tmps)=true∧ ∀wa,Fr (ZB pl RB a) w wa→(execOp a.eval o).run P wa= .ok (.value v) wa)∨(cf o (yielded ops a.tmps)=false∧v=undef)
def oU (pl:bI) (sb:List Nat) (a:Act) (w:World) (a':Act) (w':World):Prop:=
 ∀RB,(∀b,b∈sb→ ¬b∈RB)→Fr (ZB pl RB a) w w'∧ ∀k,k<w.heap.size→ZB pl RB a' k→ZB pl RB a k
theorem YF.rel {pl:bI} {RB sb:List Nat} {o:Oper} {v:Value} {a a':Act} {w w':World} (h:YF P pl RB ops o v a w) (hx:oU pl sb a w a' w') (hd: ∀b,b∈sb→ ¬b∈RB)
  (he:execOp a'.eval o=execOp a.eval o) (hw:cf o (yielded ops a'.tmps)=cf o (yielded ops a.tmps)):YF P pl RB ops o v a' w':=by
 obtain⟨h1,h2⟩:=hx RB hd
 unfold YF at*
 rw [he,hw]
 refine h.imp (fun ⟨g1,g2⟩=>⟨g1,fun wa ha=>g2 wa ?_⟩) id
 exact⟨ha.os.trans h1.os,ha.tape.trans h1.tape,ha.output.trans h1.output,ah h1.size ha.size,
  fun k hk hz=>(ha.block k (aU hk h1.size) (fun zE=>hz (h2 k hk zE))).trans (h1.block k hk hz)⟩
def wj (pl:bI) (sb:List Nat) (a:Act) (w w':World):Prop:=
 ∀b n k,look pl.boxes b=some n→ ¬b∈sb→a.tmps[b]? =some (fz k 0)→w'.heap[k]? =w.heap[k]?
def xg (L:Prop) (pl:bI) (sb:List Nat) (a:Act) (w:World) (a':Act) (w':World):Prop:=(L→oU pl sb a w a' w')∧wj pl sb a w w'
def Yx (P:Program) (ops:Array Oper) (o:Oper) (v:Value) (a:Act) (w:World):Prop:=
 (cf o (yielded ops a.tmps)=true∧(execOp a.eval o).run P w= .ok (.value v) w)∨(cf o (yielded ops a.tmps)=false∧v=undef)
def YL (P:Program) (pl:bI) (x:Nat) (ops:Array Oper) (o:Oper) (v:Value) (a:Act) (w:World):Prop:=
 (cf o (yielded ops a.tmps)=true∧ ∃k n,look pl.boxes x=some n∧a.tmps[x]? =some (fz k 0)∧ ∀wa:World,wa.heap[k]? =w.heap[k]? →(execOp a.eval o).run P wa= .ok (.value v) wa)∨
  (cf o (yielded ops a.tmps)=false∧v=undef)
theorem YF.yx {pl:bI} {RB:List Nat} {o:Oper} {v:Value} {a:Act} {w:World} (h:YF P pl RB ops o v a w):Yx P ops o v a w:=h.imp (fun ⟨g1,g2⟩=>⟨g1,g2 w (Fr.refl _ w)⟩) id
theorem YL.yx {pl:bI} {x:Nat} {o:Oper} {v:Value} {a:Act} {w:World} (h:YL P pl x ops o v a w):Yx P ops o v a w:=h.imp (fun ⟨g1,_,_,_,_,g2⟩=>⟨g1,g2 w rfl⟩) id
def W5 (pl:bI) (ops:Array Oper) (oi oj:Oper) (L:Prop) (sb:List Nat) (Y:Act→World→Prop):Prop:=
 ∀a a' w w',xg L pl sb a w a' w'→execOp a'.eval oi=execOp a.eval oi→cf oi (yielded ops a'.tmps)=cf oi (yielded ops a.tmps)→
  (∀x:Nat,(∀d,oj.dst=some d→d≠x)→a'.tmps[x]? =a.tmps[x]?)→Y a w→Y a' w'
theorem wj.refl (pl:bI) (sb:List Nat) (a:Act) (w:World):wj pl sb a w w:=fun _ _ _ _ _ _=>rfl
theorem wj.SI {pl:bI} {sb:List Nat} {a:Act} {w w':World} {d:Option Nat} {v:Value} (hd: ∀x,d=some x→look pl.boxes x=none) (h:wj pl sb (a.put d v) w w'):wj pl sb a w w':=by
 intro b n k hb hn hk
 refine h b n k hb hn ?_
 cases d with
 |none=>exact hk
 |some x=>
  have dr:x≠b:=fun e=>by subst e;rw [hd x rfl] at hb;cases hb
  simpa [my,kD dr] using hk
theorem wj.sub {pl:bI} {sb Z3:List Nat} {a:Act} {w w':World} (h:wj pl sb a w w') (hs: ∀b,b∈sb→b∈Z3):wj pl Z3 a w w':=
 fun b n k hb hn hk=>h b n k hb (fun hm=>hn (hs b hm)) hk
theorem Yx.wpOp {i:Nat} {o:Oper} {v:Value} {a:Act} {w:World} (hi:ops[i]? =some o) (hy:Yx P ops o v a w)
  {K:Act→World→Prop} (h:K (a.put o.dst v) w):wpOp P ops Q i K a w:=by
 unfold Go.wpOp
 simp only [hi]
 rcases hy with⟨hw,hv⟩|⟨hw,rfl⟩
 ·simp only [hw,if_true,jA,hv,mN];exact .inl h
 ·simp only [hw,bA,if_false];exact h
theorem SJ {pl:bI} {RB:List Nat} {a:Act} {d:Option Nat} {v:Value} (hd: ∀x,d=some x→look pl.boxes x=none):ZB pl RB (a.put d v)=ZB pl RB a:=by
 cases d with
 |none=>rfl
 |some x=>
  have hx:=hd x rfl
  funext k
  simp only [ZB,eq_iff_iff]
  have key: ∀b n,look pl.boxes b=some n→(a.put (some x) v).tmps[b]? =a.tmps[b]? :=fun b n hb=>by
   have dr:x≠b:=fun e=>by subst e;rw [hx] at hb;cases hb
   simp [my,kD dr]
  constructor<;>rintro⟨b,n,h1,h2,h3⟩<;>refine⟨b,n,h1,h2,?_⟩
  ·rwa [key b n h1] at h3
  ·rwa [key b n h1]
theorem oU.SI {pl:bI} {sb:List Nat} {a a':Act} {w w':World} {d:Option Nat} {v:Value} (hd: ∀x,d=some x→look pl.boxes x=none) (h:oU pl sb (a.put d v) w (a'.put d v) w'):oU pl sb a w a' w':=by
 intro RB zF
 have:=h RB zF
 rwa [SJ hd,SJ hd] at this
theorem oU.refl (pl:bI) (sb:List Nat) (a:Act) (w:World) (d:Option Nat) (v:Value) (hd: ∀x,d=some x→look pl.boxes x=none):oU pl sb a w (a.put d v) w:=by
 intro RB _
 rw [SJ hd]
 exact⟨Fr.refl _ _,fun _ _ h=>h⟩
theorem Z4 {o:Oper} (hp:Bb o=true) {ρ:Operand→Value} {v:Value} {w wa:World} (h:(execOp ρ o).run P w= .ok (.value v) w):(execOp ρ o).run P wa= .ok (.value v) wa:=by
 unfold Bb at hp
 split at hp
 ·rename_i x i ho
  simp only [execOp,ho] at h⊢
  unfold aE at h⊢
  split at h<;>simp_all
  all_goals (split at h<;>simp_all)
 ·rename_i x ho
  simp only [execOp,ho] at h⊢
  simp_all
 ·cases hp
theorem YF.pure {pl:bI} {RB:List Nat} {o:Oper} {v:Value} {a a':Act} {w w':World} (h:YF P pl RB ops o v a w) (hp:Bb o=true)
  (he:execOp a'.eval o=execOp a.eval o) (hw:cf o (yielded ops a'.tmps)=cf o (yielded ops a.tmps)):YF P pl RB ops o v a' w':=by
 unfold YF at*
 rw [he,hw]
 exact h.imp (fun ⟨g1,g2⟩=>⟨g1,fun wa _=>Z4 hp (g2 w (Fr.refl _ _))⟩) id
def vi (P:Program) (pl:bI) (ops:Array Oper) (Q:Exit→Act→World→Prop):Nat→Array Bool→Act→World→Prop
 |0,ct,a,w=>jI .any ops ct=[]∧Q .normal a w
 |fuel+1,ct,a,w=>
  (jI .any ops ct=[]→Q .normal a w)∧
  ∀i∈jI .any ops ct,wpOp P ops Q i (fun a' w'=>(∀o,ops[i]? =some o→xg (rQ pl ops i=false) pl (y6 pl ops o) a w a' w')∧vi P pl ops Q fuel (ct.setIfInBounds i true) a' w') a w
theorem Ni {pl:bI} : ∀(fuel:Nat) (ct:Array Bool) (a:Act) (w:World),vi P pl ops Q fuel ct a w→wpAny P .any ops Q fuel ct a w
 |0,_,_,_,h=>h
 |fuel+1,_,_,_,h=>⟨h.1,fun i hi=>wpOp_mono (fun a' w' h'=>Ni fuel _ a' w' h'.2) (h.2 i hi)⟩
theorem YF.stb {pl:bI} {RB sb:List Nat} {oi oj:Oper} {v:Value} {L:Prop} (hL:L∨Bb oi=true) (hd: ∀b,b∈sb→ ¬b∈RB):W5 pl ops oi oj L sb (YF P pl RB ops oi v):=by
 intro a a' w w' hr e2 e3 _ hy
 rcases hL with hl|hp
 ·exact hy.rel (hr.1 hl) hd e2 e3
 ·exact hy.pure hp e2 e3
theorem YL.stb {pl:bI} {x:Nat} {sb:List Nat} {oi oj:Oper} {v:Value} {L:Prop} (hx: ∀d,oj.dst=some d→d≠x) (hd: ¬x∈sb):W5 pl ops oi oj L sb (YL P pl x ops oi v):=by
 intro a a' w w' hr e2 e3 e4 hy
 unfold YL at*
 rw [e2,e3,e4 x hx]
 exact hy.imp (fun ⟨g1,k,n,g2,g3,g4⟩=>⟨g1,k,n,g2,g3,fun wa hw=>g4 wa (hw.trans (hr.2 x n k g2 hd g3))⟩) id
theorem Z5 {pl:bI} {sb:List Nat} {L:Prop} {Y:Act→World→Prop} {j:Nat} {oi oj:Oper} {v:Value} (hj:ops[j]? =some oj) (vj:oi.apart ops oj=true)
  (QB: ∀cs b,oi.op≠ .select cs b) (hsj: ∀cs b,oj.op≠ .select cs b) (W6: ∀x,oi.dst=some x→look pl.boxes x=none) (ix:W5 pl ops oi oj L sb Y)
  (hQ: ∀c a w,Q (.panic c) (a.put oi.dst v) w→Q (.panic c) a w) {K:Act→World→Prop} {a:Act} {w:World}
  (hy:Y a w) (h:wpOp P ops Q j (fun a' w'=>xg L pl sb (a.put oi.dst v) w a' w'∧K a' w') (a.put oi.dst v) w):
  wpOp P ops Q j (fun a' w'=>xg L pl sb a w a' w'∧Y a' w'∧K (a'.put oi.dst v) w') a w:=by
 obtain⟨h1,h2,h3⟩:=yv vj
 have fin: ∀(a0:Act) (w':World) (u:Value),a0.tmps=a.tmps→xg L pl sb (a.put oi.dst v) w ((a0.put oi.dst v).put oj.dst u) w'→K ((a0.put oi.dst v).put oj.dst u) w'→
   xg L pl sb a w (a0.put oj.dst u) w'∧Y (a0.put oj.dst u) w'∧K ((a0.put oj.dst u).put oi.dst v) w':=by
  intro a0 w' u h0 hr hk
  rw [Act.put_comm a0 v u h2] at hr hk
  have Aw:xg L pl sb a w (a0.put oj.dst u) w':=⟨fun hl:L=>(hr.1 hl).SI W6,hr.2.SI W6⟩
  have e1:execOp a0.eval oi=execOp a.eval oi:=by
   have:a0.eval=a.eval:=by funext x;cases x<;>simp [lp,h0]
   rw [this]
  have e2:=(execOp_put oi QB a0 oj.dst u h3).trans e1
  have e3:cf oi (yielded ops (a0.put oj.dst u).tmps)=cf oi (yielded ops a.tmps):=(wanted_put oi a0 oj.dst u h3).trans (by rw [h0])
  refine⟨Aw,ix a _ w w' Aw e2 e3 (fun x hx=>?_) hy,hk⟩
  cases hod:oj.dst with
  |none=>simp [my,h0]
  |some d=>simp [my,h0,kD (hx d hod)]
 unfold wpOp at*
 simp only [hj] at*
 rw [wanted_put oj a oi.dst v h1] at h
 split
 ·rename_i hw
  simp only [hw,if_true] at h
  rcases h with h|⟨adp,agJ⟩
  case inr=>exact .inr ⟨by unfold Oper.asks at*;rw [execOp_put oj hsj a oi.dst v h1] at adp;exact adp,agJ⟩
  refine .inl ?_
  unfold jA at*
  rw [execOp_put oj hsj a oi.dst v h1] at h
  generalize (execOp a.eval oj).run P w=r at*
  cases r with
  |ok n w'=>
   cases n<;>simp only [mN] at h⊢
   case value u=>exact fin a w' u rfl h.1 h.2
   case skip=>exact fin a w' undef rfl h.1 h.2
   case defer d=>
    have e:({ a.put oi.dst v with defers:=d::(a.put oi.dst v).defers } :Act)=({ a with defers:=d::a.defers } :Act).put oi.dst v:=Act.put_defers a oi.dst v d
    rw [e] at h
    exact fin { a with defers:=d::a.defers } w' undef rfl h.1 h.2
   case enter f args=>
    refine Calls.mono h fun e kW he=>?_
    cases e with
    |returned u=>exact fin a kW u rfl he.1 he.2
    |panicked c=>exact hQ _ _ _ he
    |outgrown=>exact he
   case row row args=>exact Rows.mono h fun u kW he=>fin a kW u rfl he.1 he.2
  |halt x w'=>
   cases x<;>simp only [mN] at h⊢
   case panic u=>exact hQ _ _ _ h
 ·rename_i hw
  simp only [hw] at h
  exact fin a w undef rfl h.1 h.2
theorem QC {o:Oper} {i:Nat} :waits o i=true↔ ∃e∈o.after,rN .any e=true∧e.on=i:=by
 unfold waits;rw [uL];simp
theorem Z6 {ct:Array Bool} {i:Nat} : ∀j,j∈H4 ops ct i→j=i∨(ct.getD j true=false∧ ∃oj k,ops[j]? =some oj∧waits oj k=true∧k∈H4 ops ct i):=by
 unfold H4
 have key: ∀(l:List Nat) (S:List Nat),(∀j,j∈S→j=i∨(ct.getD j true=false∧ ∃oj k,ops[j]? =some oj∧waits oj k=true∧k∈S))→
   ∀j,j∈l.foldl (fun S j=>if Yh ops ct S j then j::S else S) S→j=i∨(ct.getD j true=false∧ ∃oj k,ops[j]? =some oj∧waits oj k=true∧k∈l.foldl (fun S j=>if Yh ops ct S j then j::S else S) S):=by
  intro l
  induction l with
  |nil=>intro S hS j hj;exact hS j hj
  |cons x l ih=>
   intro S hS
   rw [g9]
   refine ih _ ?_
   split
   ·rename_i hc
    simp only [Yh,aG,bW] at hc
    obtain⟨h1,h2⟩:=hc
    intro j hj
    rcases List.mem_cons.1 hj with rfl|hj
    ·right
     cases ho:ops[j]? with
     |none=>simp [ho] at h2
     |some o=>
      simp only [ho,uL,aG,s7] at h2
      obtain⟨e,he,hb,hm⟩:=h2
      exact⟨h1,o,e.on,rfl,QC.2 ⟨e,he,hb,rfl⟩,bm _ hm⟩
    ·rcases hS j hj with h|⟨h,oj,k,h3,h4,h5⟩
     ·exact .inl h
     ·exact .inr ⟨h,oj,k,h3,h4,bm _ h5⟩
   ·exact hS
 exact key _ _ fun j hj=>.inl (by simpa using hj)
theorem SK {pl:bI} {Y:Act→World→Prop} {i:Nat} {oi:Oper} {v:Value} (Le: ∀a w,Y a w→Yx P ops oi v a w) (hi:ops[i]? =some oi) (H5: ∀(j:Nat) (o:Oper) cs b,ops[j]? =some o→o.op≠ .select cs b)
  (W6: ∀x,oi.dst=some x→look pl.boxes x=none) (hQ: ∀c a w,Q (.panic c) (a.put oi.dst v) w→Q (.panic c) a w):
  ∀(fuel:Nat) (ct:Array Bool) (a:Act) (w:World) (S:Nat→Prop),S i→
   (∀j,S j→j=i∨(ct.getD j true=false∧ ∃oj k,ops[j]? =some oj∧waits oj k=true∧S k))→
   (∀j oj,ops[j]? =some oj→j≠i→ct.getD j true=false→ ¬S j→oi.apart ops oj=true∧W5 pl ops oi oj (rQ pl ops j=false) (y6 pl ops oj) Y)→
   i∈jI .any ops ct→Y a w→
   vi P pl ops Q fuel (ct.setIfInBounds i true) (a.put oi.dst v) w→vi P pl ops Q (fuel+1) ct a w:=by
 intro fuel
 induction fuel with
 |zero=>
  intro ct a w S _ hS _ hr hy H
  refine⟨fun h=>(by rw [h] at hr;cases hr),fun j hj=>?_⟩
  by_cases GV:j=i
  ·subst GV;exact(Le _ _ hy).wpOp hi ⟨fun _ _=>⟨fun _=>oU.refl pl _ a w _ _ W6,wj.refl _ _ _ _⟩,H⟩
  ·have:=ready_mono hj GV
   rw [H.1] at this
   cases this
 |succ fuel ih=>
  intro ct a w S hSi hS adq hr hy H
  refine⟨fun h=>(by rw [h] at hr;cases hr),fun j hj=>?_⟩
  by_cases GV:j=i
  ·subst GV;exact(Le _ _ hy).wpOp hi ⟨fun _ _=>⟨fun _=>oU.refl pl _ a w _ _ W6,wj.refl _ _ _ _⟩,H⟩
  ·have h1:=H.2 j (ready_mono hj GV)
   obtain⟨aeS,oj,CA,Mb⟩:=mem_ready.1 hj
   have abm: ¬S j:=by
    intro hjS
    rcases hS j hjS with h|⟨_,oj',k,aeT,hwt,hkS⟩
    ·exact GV h
    ·rw [CA] at aeT;cases aeT
     obtain⟨e,he,hb,heq⟩:=QC.1 hwt
     have h1:=Mb e he hb
     rw [heq] at h1
     have h0:ct.getD k true=false:=by
      rcases hS k hkS with h|h
      ·subst h;exact(mem_ready.1 hr).1
      ·exact h.1
     rcases Nat.lt_or_ge k ct.size with h'|h'
     ·simp [h'] at h0 h1;rw [h0] at h1;cases h1
     ·simp [nR h'] at h1
   obtain⟨vj,ahD⟩:=adq j oj CA GV aeS abm
   have zG:=wpOp_mono (K':=fun a' w'=>xg (rQ pl ops j=false) pl (y6 pl ops oj) (a.put oi.dst v) w a' w'∧vi P pl ops Q fuel ((ct.setIfInBounds i true).setIfInBounds j true) a' w')
    (fun a' w' h'=>⟨h'.1 oj CA,h'.2⟩) h1
   have h2:=Z5 CA vj (fun cs b=>H5 i oi cs b hi) (fun cs b=>H5 j oj cs b CA) W6 ahD hQ hy zG
   have aeU: ∀k ok,ops[k]? =some ok→k≠i→(ct.setIfInBounds j true).getD k true=false→ ¬S k→
     oi.apart ops ok=true∧W5 pl ops oi ok (rQ pl ops k=false) (y6 pl ops ok) Y:=fun k ok hk hki Lf m4=>by
    refine adq k ok hk hki ?_ m4
    by_cases H6:j=k
    ·subst H6;exact aeS
    ·rw [getD_set_ne true H6] at Lf;exact Lf
   have hS': ∀k,S k→k=i∨((ct.setIfInBounds j true).getD k true=false∧ ∃oj k',ops[k]? =some oj∧waits oj k'=true∧S k'):=fun k hk=>by
    rcases hS k hk with h|⟨h,h2⟩
    ·exact .inl h
    ·exact .inr ⟨by rw [getD_set_ne true (fun e=>abm (by rw [e];exact hk))];exact h,h2⟩
   refine wpOp_mono (fun a' w' h3=>⟨fun o ho=>?_,ih (ct.setIfInBounds j true) a' w' S hSi hS' aeU (ready_mono hr (Ne.symm GV)) h3.2.1 ?_⟩) h2
   ·rw [CA] at ho;injection ho with ho;subst ho;exact h3.1
   rw [qQ _ _ GV]
   exact h3.2.2
theorem Z7 {pl:bI} {RB:List Nat} {i:Nat} {oi:Oper} {ct:Array Bool} (hi:ops[i]? =some oi) (h:Kb pl ops ct i RB=true): ∀x,oi.dst=some x→look pl.boxes x=none:=by
 simp only [Kb,hi,aG] at h
 intro x hx
 have:=h.1
 rw [hx] at this
 simpa using this
theorem Yj {pl:bI} {RB:List Nat} {i:Nat} {oi:Oper} {ct:Array Bool} (hi:ops[i]? =some oi) (h:Kb pl ops ct i RB=true) (j:Nat) (oj:Oper)
  (hj:ops[j]? =some oj) (dr:j≠i) (Lf:ct.getD j true=false) (m4: ¬j∈H4 ops ct i) (hnw:waits oj i=false):
  oi.apart ops oj=true∧(rQ pl ops j=false∨Bb oi=true∨ZY oi RB=true)∧ ∀b,b∈y6 pl ops oj→ ¬b∈RB:=by
 simp only [Kb,hi,aG,mA,List.mem_range] at h
 have h1:=h.2 j (Array.getElem?_eq_some_iff.1 hj).1
 simp only [hj,gH,beq_iff_eq,dr,false_or,Lf,bA,hnw,aG,bW,mA,s7,m4,or_false] at h1
 exact⟨h1.1.1,h1.1.2.elim (fun h=>.inr h) .inl,fun b hb=>by have:=h1.2 b hb;simpa using this⟩
end
def Ax (env:Env):Option (Nat×Bool)→Prop
 |none=>True
 |some (g,want)=>mX (env g) want=true
structure Bk where
 ds:List Deferred
 pins:List (Nat×Value)
structure fm (pl:bI) (ds:Bk) (cs:CS) (env:Env) (X:XS) (w0:World) (a:Act) (w:World):Prop where
 size:a.tmps.size=pl.n
 defers:a.defers=ds.ds
 vm: ∀p,p∈ds.pins→a.tmps[p.1]? =some p.2∧((∃n k,look pl.boxes p.1=some n∧p.2=fz k 0)∨pl.jM p.1=true)
 ext:Kp X w0 w
 tC: ∀k,X k→k<w.heap.size
 nS: ∀s,pl.jM s=true→a.tmps[s]? =some (env s)
 sig: ∀p,p∈cs.sig→a.tmps[p.1]? =some (p.2.ev env)
 box: ∀b n,look pl.boxes b=some n→ ∀cells,env b= .agg cells→ ∃k ty,a.tmps[b]? =some (fz k 0)∧w.heap[k]? =some (.cells cells ty (0,0))∧cells.size=n∧ ¬X k
 inj: ∀b b' n n',look pl.boxes b=some n→look pl.boxes b'=some n'→ez (env b)=true→ez (env b')=true→ ∀k,a.tmps[b]? =some (fz k 0)→a.tmps[b']? =some (fz k 0)→b=b'
 conv: ∀b n,look pl.boxes b=some n→ ∀k,a.tmps[b]? =some (fz k 0)→ez (env b)=true
 live: ∀b,b∈cs.live→(∃n,look pl.boxes b=some n)∧ez (env b)=true
 ptr: ∀p,p∈cs.wh→(∃n,look pl.boxes p.b=some n)∧(Ax env p.g→ez (env p.b)=true∧ ∃k,a.tmps[p.b]? =some (fz k 0)∧a.tmps[p.s]? =some (fz k p.off))
theorem nI (a:Act) (d:Nat) (v:Value) (s:Nat) (hd:d<a.tmps.size):(a.put (some d) v).tmps[s]? =if s=d then some v else a.tmps[s]? :=by
 simp only [my,eB]
 by_cases h:s=d
 ·subst h;simp [hd]
 ·rw [if_neg (Ne.symm h),if_neg h]
theorem fS (a:Act) (d:Nat) (v:Value) (s:Nat) (h:s≠d):(a.put (some d) v).tmps[s]? =a.tmps[s]? :=by
 simp only [my,eB]
 rw [if_neg (Ne.symm h)]
theorem kS (e:Env) (d:Nat) (v:Value):lM e d v d=v:=by simp [lM]
theorem gY (e:Env) {d s:Nat} (v:Value) (h:s≠d):lM e d v s=e s:=by
 have:(s==d)=false:=by simpa using h
 simp [lM,this]
theorem SL {e:Ex} {d:Nat} (h:e.Sz d=false) (env:Env) (v:Value):e.ev (lM env d v)=e.ev env:=by
 cases e<;>simp only [Ex.Sz,beq_eq_false_iff_ne,ne_eq] at h<;>simp [Ex.ev,gY,h]
theorem sP {v:Value} :ez v=true↔ ∃c,v= .agg c:=by
 cases v<;>simp [ez]
section
variable {P : Program} {pl : bI} {ds : Bk} {cs : CS} {env : Env} {X : XS} {w0 w : World} {a : Act}
theorem qe {s:Nat} (h:pl.jM s=true):s<pl.n∧look pl.boxes s=none∧pl.QA.contains s=false:=by
 simp only [bI.jM,aG,decide_eq_true_eq,ib,bW] at h
 exact⟨h.1.1.2,h.1.2,h.2⟩
theorem we {s:Nat} (h:pl.mD s=true):s<pl.n∧look pl.boxes s=none∧pl.QA.contains s=false:=by
 simp only [bI.mD,aG,decide_eq_true_eq,ib,bW] at h
 exact⟨h.1.1,h.1.2,h.2⟩
theorem y7 {α:Type} {l:List (Nat×α)} {t:Nat} {e:α} (h:look l t=some e):(t,e)∈l:=by
 induction l with
 |nil=>cases h
 |cons p r ih=>
  obtain⟨s,x⟩:=p
  simp only [look] at h
  split at h
  ·rename_i hs
   injection h with h
   subst hs h
   exact ll ..
  ·exact bm _ (ih h)
theorem fm.eval (h:fm pl ds cs env X w0 a w) {x:Operand} {e:Ex} (hv:valOf pl cs x=some e):a.eval x=e.ev env:=by
 cases x with
 |tmp t=>
  simp only [valOf] at hv
  split at hv
  ·rename_i hg
   injection hv with hv
   subst hv
   simp [lp,h.nS t hg,Ex.ev]
  ·have:=h.sig _ (y7 hv)
   simp only at this
   simp [lp,this]
 |const v=>simp only [valOf,aC] at hv;subst hv;rfl
 |global g=>simp only [valOf,aC] at hv;subst hv;rfl
 |func f=>simp only [valOf,aC] at hv;subst hv;rfl
theorem xh: ∀{l:List Operand} {ss:List (Nat×Ex)},subst pl cs l=some ss→
  (∀t e,look ss t=some e→valOf pl cs (.tmp t)=some e)∧(∀t,.tmp t∈l→look ss t=none→valOf pl cs (.tmp t)=some (.t t))
 |[],ss,h=>by
  simp only [subst,aC] at h
  subst h
  exact⟨fun t e h=>(by cases h),fun t h=>(by cases h)⟩
 |x::r,ss,h=>by
  cases x with
  |tmp t=>
   simp only [subst] at h
   cases hv:valOf pl cs (.tmp t)with
   |none=>simp [hv] at h
   |some e=>
    cases hr:subst pl cs r with
    |none=>simp [hv,hr] at h
    |some ss'=>
     obtain⟨i1,i2⟩:=xh hr
     simp only [hv,hr,aC] at h
     have gen: ∀e',e=e'→ss=(t,e')::ss'→(∀u e,look ss u=some e→valOf pl cs (.tmp u)=some e)∧(∀u,.tmp u∈(.tmp t::r)→look ss u=none→valOf pl cs (.tmp u)=some (.t u)):=by
      intro e' he hs
      subst hs
      refine⟨fun u e2 hu=>?_,fun u hu hn=>?_⟩
      ·simp only [look] at hu
       split at hu
       ·rename_i htu
        injection hu with hu
        subst htu hu
        rw [hv,he]
       ·exact i1 _ _ hu
      ·simp only [look] at hn
       split at hn
       ·cases hn
       ·rename_i htu
        rcases List.mem_cons.1 hu with h1|h1
        ·injection h1 with h1;exact absurd h1.symm htu
        ·exact i2 u h1 hn
     cases e with
     |t n=>
      simp only at h
      split at h
      ·rename_i hnt
       subst hnt h
       refine⟨i1,fun u hu hn=>?_⟩
       rcases List.mem_cons.1 hu with h1|h1
       ·injection h1 with h1;subst h1;exact hv
       ·exact i2 u h1 hn
      ·exact gen _ rfl h.symm
     |c v=>exact gen _ rfl h.symm
     |s b o n=>exact gen _ rfl h.symm
     |k b o=>exact gen _ rfl h.symm
  |const v=>
   obtain⟨i1,i2⟩:=xh (l:=r) (by simpa only [subst] using h)
   exact⟨i1,fun u hu hn=>(List.mem_cons.1 hu).elim (fun h1=>by cases h1) fun h1=>i2 u h1 hn⟩
  |global v=>
   obtain⟨i1,i2⟩:=xh (l:=r) (by simpa only [subst] using h)
   exact⟨i1,fun u hu hn=>(List.mem_cons.1 hu).elim (fun h1=>by cases h1) fun h1=>i2 u h1 hn⟩
  |func v=>
   obtain⟨i1,i2⟩:=xh (l:=r) (by simpa only [subst] using h)
   exact⟨i1,fun u hu hn=>(List.mem_cons.1 hu).elim (fun h1=>by cases h1) fun h1=>i2 u h1 hn⟩
theorem fm.Cy (h:fm pl ds cs env X w0 a w) {l:List Operand} {ss:List (Nat×Ex)} (hs:subst pl cs l=some ss):
  ∀x,x∈l→a.eval x=fR.Cy env ss x:=by
 obtain⟨i1,i2⟩:=xh hs
 intro x hx
 cases x with
 |tmp t=>
  simp only [fR.Cy]
  cases hl:look ss t with
  |some e=>exact h.eval (i1 t e hl)
  |none=>exact h.eval (i2 t hx hl)
 |const v=>rfl
 |global g=>rfl
 |func f=>rfl
theorem Z8 (ρ:Operand→Value) (o:Oper):execOp ρ o=execOp ρ (Ph o.op o.type):=by
 cases o;rfl
theorem Yk {op:Op} (h:Fh op=true): ∀cs b,op≠ .select cs b:=by
 intro cs b e
 subst e
 cases h
theorem fm.exec (h:fm pl ds cs env X w0 a w) {o:Oper} {ss:List (Nat×Ex)} (hs:subst pl cs o.op.operands.toList=some ss) (hn:Fh o.op=true):
  execOp a.eval o=execOp (fR.Cy env ss) (Ph o.op o.type):=by
 rw [execOp_congr o (Yk hn) fun x hx=>h.Cy hs x (by simpa using hx)]
 exact Z8 _ _
theorem fm.step (h:fm pl ds cs env X w0 a w) {X':XS} {fi w':World} (hx:Kp X' fi w') (hX: ∀k,X' k→k<w'.heap.size)
  (hb: ∀k,k<w.heap.size→ ¬X k→w'.heap[k]? =w.heap[k]? ∧ ¬X' k):fm pl ds cs env X' fi a w' where
 size:=h.size
 defers:=h.defers
 vm:=h.vm
 ext:=hx
 tC:=hX
 nS:=h.nS
 sig:=h.sig
 box:=fun b n hn cells hc=>by
  obtain⟨k,ty,h1,h2,h3,h4⟩:=h.box b n hn cells hc
  obtain⟨e1,e2⟩:=hb k (Array.getElem?_eq_some_iff.1 h2).1 h4
  exact⟨k,ty,h1,e1.trans h2,h3,e2⟩
 inj:=h.inj
 conv:=h.conv
 live:=h.live
 ptr:=h.ptr
theorem fm.gK (h:fm pl ds cs env X w0 a w) {w':World} (hx:Ext w w'):fm pl ds cs env X w0 a w':=
 h.step (h.ext.trans (hx.kp h.tC)) (fun k hk=>aU (h.tC k hk) hx.size) fun _ hk hX=>⟨hx.block hk,hX⟩
theorem fm.Kc (h:fm pl ds cs env X w0 a w) {m:Bool} {w':World} (hs:Step m X w w'):fm pl ds cs env (grow X w w') w' a w':=
 h.step (Kp.refl _ _) (fun k hk=>hk.elim (fun hX=>aU (h.tC k hX) hs.fr.size) (·.2))
  fun k hk hX=>⟨hs.fr.block k hk hX,fun hg=>hg.elim hX fun hg=>by omega⟩
theorem qT {s d:Nat} {n:Nat} (hs:look pl.boxes s=some n) (hd:look pl.boxes d=none):s≠d:=by
 rintro rfl;rw [hs] at hd;cases hd
theorem fm.bind (h:fm pl ds cs env X w0 a w) {d:Nat} (hd:pl.mD d=true) (v:Value) (px: ∀p,p∈ds.pins→p.1≠d):
  fm pl ds (cs.bind pl d) (lM env d v) X w0 (a.put (some d) v) w:=by
 obtain⟨dh,qp,py⟩:=we hd
 have eu:d<a.tmps.size:=by rw [h.size];exact dh
 have adr: ∀p,p∈(cs.kill d).sig→(a.put (some d) v).tmps[p.1]? =some (p.2.ev (lM env d v)):=by
  intro p hp
  simp only [CS.kill,gI,aG,bne_iff_ne,ne_eq,bW] at hp
  rw [fS _ _ _ _ hp.2.1,SL hp.2.2]
  exact h.sig p hp.1
 have abn: ∀p,p∈(cs.kill d).wh→(∃n,look pl.boxes p.b=some n)∧(Ax (lM env d v) p.g→ez (lM env d v p.b)=true∧ ∃k,(a.put (some d) v).tmps[p.b]? =some (fz k 0)∧(a.put (some d) v).tmps[p.s]? =some (fz k p.off)):=by
  intro p hp
  simp only [CS.kill,gI,aG,bne_iff_ne,ne_eq] at hp
  obtain⟨Lh,⟨hb,hs⟩,hg⟩:=hp
  obtain⟨e1,e2⟩:=h.ptr p Lh
  refine⟨e1,fun H7=>?_⟩
  have ahE:Ax env p.g:=by
   cases Z9:p.g with
   |none=>trivial
   |some x=>
    obtain⟨g,want⟩:=x
    rw [Z9] at H7 hg
    simp only [Ax] at H7⊢
    rwa [gY _ _ (by simpa using hg)] at H7
  obtain⟨e3,k,e4,e5⟩:=e2 ahE
  rw [gY _ _ hb,fS _ _ _ _ hb,fS _ _ _ _ hs]
  exact⟨e3,k,e4,e5⟩
 have abo: ∀p,p∈(cs.bind pl d).sig→(a.put (some d) v).tmps[p.1]? =some (p.2.ev (lM env d v)):=by
  intro p hp
  simp only [CS.bind] at hp
  split at hp
  ·exact adr p hp
  ·rcases List.mem_cons.1 hp with rfl|hp
   ·simp [nI _ _ _ _ eu,Ex.ev,kS]
   ·exact adr p hp
 have hpt:(cs.bind pl d).wh=(cs.kill d).wh:=by simp only [CS.bind];split<;>rfl
 have hlv:(cs.bind pl d).live=cs.live:=by simp only [CS.bind];split<;>rfl
 exact {
  size:=by simp [my,h.size]
  defers:=h.defers
  vm:=fun p hp=>⟨by rw [fS _ _ _ _ (px p hp)];exact(h.vm p hp).1,(h.vm p hp).2⟩
  ext:=h.ext
  tC:=h.tC
  nS:=fun s hs=>by
   rw [nI _ _ _ _ eu]
   split
   ·rename_i e;subst e;rw [kS]
   ·rename_i e;rw [gY _ _ e];exact h.nS s hs
  sig:=abo
  box:=fun b n hn cells hc=>by
   have nr:=qT hn qp
   rw [gY _ _ nr] at hc
   rw [fS _ _ _ _ nr]
   exact h.box b n hn cells hc
  inj:=fun b b' n n' hb gC h1 h2 k h3 h4=>by
   have nr:=qT hb qp
   have Fj:=qT gC qp
   rw [gY _ _ nr] at h1
   rw [gY _ _ Fj] at h2
   rw [fS _ _ _ _ nr] at h3
   rw [fS _ _ _ _ Fj] at h4
   exact h.inj b b' n n' hb gC h1 h2 k h3 h4
  conv:=fun b n hb k hk=>by
   have nr:=qT hb qp
   rw [fS _ _ _ _ nr] at hk
   rw [gY _ _ nr]
   exact h.conv b n hb k hk
  live:=fun b hb=>by
   rw [hlv] at hb
   obtain⟨⟨n,hn⟩,hl⟩:=h.live b hb
   rw [gY _ _ (qT hn qp)]
   exact⟨⟨n,hn⟩,hl⟩
  ptr:=by rw [hpt];exact abn }
theorem fm.lz (h:fm pl ds cs env X w0 a w) {nd:List Nat} (hn: ∀b,b∈nd→(∃n,look pl.boxes b=some n)∧ez (env b)=true):
  fm pl ds (cs.lz nd) env X w0 a w:=
 { h with live:=fun b hb=>(List.mem_append.1 hb).elim (hn b) (h.live b) }
theorem fm.other (h:fm pl ds cs env X w0 a w) {d:Nat} (dh:d<pl.n) (qp:look pl.boxes d=none) (H8:pl.jM d=false) (v:Value) {nJ:CS}
  (abo: ∀p,p∈nJ.sig→(a.put (some d) v).tmps[p.1]? =some (p.2.ev env)) (hlv:nJ.live=cs.live)
  (abn: ∀p,p∈nJ.wh→(∃n,look pl.boxes p.b=some n)∧(Ax env p.g→ez (env p.b)=true∧ ∃k,(a.put (some d) v).tmps[p.b]? =some (fz k 0)∧(a.put (some d) v).tmps[p.s]? =some (fz k p.off))):
  fm pl ds nJ env X w0 (a.put (some d) v) w where
 size:=by simp [my,h.size]
 defers:=h.defers
 vm:=fun p hp=>by
  obtain⟨h1,h2⟩:=h.vm p hp
  refine⟨?_,h2⟩
  have dr:p.1≠d:=fun e=>by
   rcases h2 with⟨n,_,hn,_⟩|hg
   ·rw [e,qp] at hn;cases hn
   ·rw [e,H8] at hg;cases hg
  rw [fS _ _ _ _ dr];exact h1
 ext:=h.ext
 tC:=h.tC
 nS:=fun s hs=>by
  rw [fS _ _ _ _ (by rintro rfl;rw [hs] at H8;cases H8)]
  exact h.nS s hs
 sig:=abo
 box:=fun b n hn cells hc=>by
  rw [fS _ _ _ _ (qT hn qp)]
  exact h.box b n hn cells hc
 inj:=fun b b' n n' hb gC h1 h2 k h3 h4=>by
  rw [fS _ _ _ _ (qT hb qp)] at h3
  rw [fS _ _ _ _ (qT gC qp)] at h4
  exact h.inj b b' n n' hb gC h1 h2 k h3 h4
 conv:=fun b n hb k hk=>by
  rw [fS _ _ _ _ (qT hb qp)] at hk
  exact h.conv b n hb k hk
 live:=fun b hb=>h.live b (hlv▸hb)
 ptr:=abn
theorem fm.note (h:fm pl ds cs env X w0 a w) {d:Nat} (hd:pl.mD d=true) (H8:pl.jM d=false) (e:Ex):
  fm pl ds (cs.note d e) env X w0 (a.put (some d) (e.ev env)) w:=by
 obtain⟨dh,qp,py⟩:=we hd
 have eu:d<a.tmps.size:=by rw [h.size];exact dh
 refine h.other dh qp H8 _ ?_ rfl ?_
 ·intro p hp
  simp only [CS.note,jq,gI,bne_iff_ne,ne_eq] at hp
  rcases hp with rfl|⟨hp,dr⟩
  ·simp [nI _ _ _ _ eu]
  ·rw [fS _ _ _ _ dr];exact h.sig p hp
 ·intro p hp
  simp only [CS.note,gI,bne_iff_ne,ne_eq] at hp
  obtain⟨⟨n,hn⟩,e2⟩:=h.ptr p hp.1
  refine⟨⟨n,hn⟩,fun hg=>?_⟩
  obtain⟨e3,k,e4,e5⟩:=e2 hg
  refine⟨e3,k,?_,?_⟩
  ·rw [fS _ _ _ _ (qT hn qp)];exact e4
  ·rw [fS _ _ _ _ hp.2];exact e5
theorem fm.po (h:fm pl ds cs env X w0 a w) {d:Nat} (hd:pl.mD d=true) (e:Ex) {iX:List PanicEntry→Env→World→XS→Prop} {next:Env→World→XS→Prop}
  (hn:gO P iX next (fR.po pl cs d e).1 env w0 X) (px: ∀b,b∈nq (fR.po pl cs d e).1→ ∀p,p∈ds.pins→p.1≠b): ∃dT,fm pl ds (fR.po pl cs d e).2 dT X w0 (a.put (some d) (e.ev env)) w∧next dT w0 X:=by
 unfold fR.po at hn px⊢
 split
 ·rename_i hg
  rw [if_pos hg] at hn px
  exact⟨_,h.bind hd _ (px d (by simp [nq,TI.GU])),hn⟩
 ·rename_i hg
  rw [if_neg hg] at hn
  have H8:pl.jM d=false:=by
   cases hx:pl.jM d with
   |false=>rfl
   |true=>simp [hx] at hg
  exact⟨env,h.note hd H8 e,hn⟩
theorem fm.derive (h:fm pl ds cs env X w0 a w) {d b off:Nat} {g:Option (Nat×Bool)} (dh:d<pl.n) (qp:look pl.boxes d=none) (Fk:pl.QA.contains d=true)
    (v:Value) (hb: ∃n,look pl.boxes b=some n) (hv:Ax env g→ez (env b)=true∧ ∃k,a.tmps[b]? =some (fz k 0)∧v=fz k off)
 :
    fm pl ds (cs.rP d b off g) env X w0 (a.put (some d) v) w:=by
  have eu:d<a.tmps.size:=by rw [h.size];exact dh
  have H8:pl.jM d=false:=by
    cases hx:pl.jM d with
    |false=>rfl
    |true=>have:=(qe hx).2.2;rw [Fk] at this;cases this
  refine h.other dh qp H8 _ ?_ rfl ?_
  · intro p hp
    simp only [CS.rP,gI,bne_iff_ne,ne_eq] at hp
    rw [fS _ _ _ _ hp.2];exact h.sig p hp.1
  · intro p hp
    rcases List.mem_cons.1 hp with rfl|hp
    · obtain⟨n,hn⟩:=hb
      refine⟨⟨n,hn⟩,fun hg=>?_⟩
      obtain⟨e1,k,e2,e3⟩:=hv hg
      refine⟨e1,k,?_,?_⟩
      · rw [fS _ _ _ _ (qT hn qp)];exact e2
      · simp [nI _ _ _ _ eu,e3]
    · simp only [gI,bne_iff_ne,ne_eq] at hp
      obtain⟨⟨n,hn⟩,e2⟩:=h.ptr p hp.1
      refine⟨⟨n,hn⟩,fun hg=>?_⟩
      obtain⟨e3,k,e4,e5⟩:=e2 hg
      refine⟨e3,k,?_,?_⟩
      · rw [fS _ _ _ _ (qT hn qp)];exact e4
      · rw [fS _ _ _ _ hp.2];exact e5
theorem abp {d:Nat} {p:Nat×Ex} (hp:p∈(cs.kill d).sig):p∈cs.sig∧p.1≠d∧p.2.Sz d=false:=by
 simpa [CS.kill,gI] using hp
theorem abq {d:Nat} {p:Ptr} (hp:p∈(cs.kill d).wh):p∈cs.wh∧p.b≠d∧p.s≠d∧(∀v,Ax (lM env d v) p.g→Ax env p.g):=by
 simp only [CS.kill,gI,aG,bne_iff_ne,ne_eq] at hp
 obtain⟨Lh,⟨hb,hs⟩,hg⟩:=hp
 refine⟨Lh,hb,hs,fun v H7=>?_⟩
 cases Z9:p.g with
 |none=>trivial
 |some x=>
  obtain⟨g,want⟩:=x
  rw [Z9] at H7 hg
  simp only [Ax] at H7⊢
  rwa [gY _ _ (by simpa using hg)] at H7
theorem fm.aaa (h:fm pl ds cs env X w0 a w) {d sz:Nat} (dh:d<pl.n) (hb:look pl.boxes d=some sz) (cells:Array Value) (eu:cells.size=sz) (ty:TypeId) (px: ∀p,p∈ds.pins→p.1≠d):
  fm pl ds ((cs.kill d).lz [d]) (lM env d (.agg cells)) X w0 (a.put (some d) (fz w.heap.size 0)) (w.alloc (.cells cells ty)):=by
 have hd:d<a.tmps.size:=by rw [h.size];exact dh
 have hg:=h.gK (Ext.alloc w (.cells cells ty))
 have fresh: ∀b n c,look pl.boxes b=some n→env b= .agg c→a.tmps[b]? ≠some (fz w.heap.size 0):=by
  intro b n c hn hc e
  obtain⟨k,ty',h1,h2,_,_⟩:=h.box b n hn c hc
  rw [h1] at e
  have hk:k=w.heap.size:=by simpa [fz] using e
  subst hk
  rw [nR (bp _)] at h2
  cases h2
 exact {
  size:=by simp [my,h.size]
  defers:=h.defers
  vm:=fun p hp=>⟨by rw [fS _ _ _ _ (px p hp)];exact(h.vm p hp).1,(h.vm p hp).2⟩
  ext:=hg.ext
  tC:=hg.tC
  nS:=fun s hs=>by
   have dr:s≠d:=fun e=>by subst e;have:=(qe hs).2.1;rw [hb] at this;cases this
   rw [fS _ _ _ _ dr,gY _ _ dr]
   exact h.nS s hs
  sig:=fun p hp=>by
   obtain⟨h1,h2,h3⟩:=abp hp
   rw [fS _ _ _ _ h2,SL h3]
   exact h.sig p h1
  box:=fun b n hn c hc=>by
   by_cases nr:b=d
   ·subst nr
    rw [kS] at hc
    injection hc with hc
    subst hc
    rw [hb] at hn
    injection hn with hn
    refine⟨w.heap.size,ty,by simp [nI _ _ _ _ hd],heap_alloc_new w _,by omega,fun hX=>?_⟩
    exact absurd (h.tC _ hX) (by omega)
   ·rw [gY _ _ nr] at hc
    rw [fS _ _ _ _ nr]
    exact hg.box b n hn c hc
  inj:=fun b b' n n' hn kN h1 h2 k h3 h4=>by
   obtain⟨c,hc⟩:=sP.1 h1
   obtain⟨c',H9⟩:=sP.1 h2
   by_cases nr:b=d<;>by_cases Fj:b'=d
   ·rw [nr,Fj]
   ·subst nr
    rw [nI _ _ _ _ hd,if_pos rfl] at h3
    rw [fS _ _ _ _ Fj] at h4
    rw [gY _ _ Fj] at H9
    rw [←h3] at h4
    exact absurd h4 (fresh b' n' c' kN H9)
   ·subst Fj
    rw [nI _ _ _ _ hd,if_pos rfl] at h4
    rw [fS _ _ _ _ nr] at h3
    rw [gY _ _ nr] at hc
    rw [←h4] at h3
    exact absurd h3 (fresh b n c hn hc)
   ·rw [gY _ _ nr] at h1
    rw [gY _ _ Fj] at h2
    rw [fS _ _ _ _ nr] at h3
    rw [fS _ _ _ _ Fj] at h4
    exact h.inj b b' n n' hn kN h1 h2 k h3 h4
  conv:=fun b n hn k hk=>by
   by_cases nr:b=d
   ·subst nr;rw [kS];rfl
   ·rw [fS _ _ _ _ nr] at hk
    rw [gY _ _ nr]
    exact h.conv b n hn k hk
  live:=fun b gC=>by
   simp only [CS.lz,ef,cV,jq] at gC
   rcases gC with rfl|gC
   ·exact⟨⟨sz,hb⟩,by rw [kS];rfl⟩
   ·obtain⟨e1,e2⟩:=h.live b gC
    refine⟨e1,?_⟩
    by_cases nr:b=d
    ·subst nr;rw [kS];rfl
    ·rw [gY _ _ nr];exact e2
  ptr:=fun p hp=>by
   obtain⟨h1,h2,h3,h4⟩:=abq (env:=env) hp
   obtain⟨e1,e2⟩:=h.ptr p h1
   refine⟨e1,fun H7=>?_⟩
   obtain⟨e3,k,e4,e5⟩:=e2 (h4 _ H7)
   rw [gY _ _ h2,fS _ _ _ _ h2,fS _ _ _ _ h3]
   exact⟨e3,k,e4,e5⟩ }
theorem fm.store (h:fm pl ds cs env X w0 a w) {b n k:Nat} {ty:TypeId} {cells vn:Array Value} (hb:look pl.boxes b=some n) (hc:env b= .agg cells)
  (ht:a.tmps[b]? =some (fz k 0)) (hk:w.heap[k]? =some (.cells cells ty (0,0))) (hX: ¬X k) (eu:vn.size=n) {w':World} (hw:Fr (· =k) w w') (ai:w'.heap[k]? =some (.cells vn ty (0,0))):
  fm pl ds (cs.Ka b) (lM env b (.agg vn)) X w0 a w':=by
 have hA:ez (env b)=true:=by rw [hc];rfl
 exact {
  size:=h.size
  defers:=h.defers
  vm:=h.vm
  ext:=h.ext.trans (hw.kp fun j hj=>⟨h.tC j hj,fun e=>by subst e;exact hX hj⟩)
  tC:=fun j hj=>aU (h.tC j hj) hw.size
  nS:=fun s hs=>by
   have dr:s≠b:=fun e=>by subst e;have:=(qe hs).2.1;rw [hb] at this;cases this
   rw [gY _ _ dr]
   exact h.nS s hs
  sig:=fun p hp=>by
   simp only [CS.Ka,gI,bW] at hp
   rw [SL hp.2]
   exact h.sig p hp.1
  box:=fun b' n' kN c H9=>by
   by_cases nr:b'=b
   ·subst nr
    rw [kS] at H9
    injection H9 with H9
    subst H9
    rw [hb] at kN
    injection kN with kN
    exact⟨k,ty,ht,ai,by omega,hX⟩
   ·rw [gY _ _ nr] at H9
    obtain⟨k2,ty2,h1,h2,h3,h4⟩:=h.box b' n' kN c H9
    have nC:k2≠k:=fun e=>by
     subst e
     exact nr (h.inj b' b n' n kN hb (by rw [H9];rfl) hA k2 h1 ht)
    exact⟨k2,ty2,h1,(hw.block k2 (Array.getElem?_eq_some_iff.1 h2).1 nC).trans h2,h3,h4⟩
  inj:=fun b1 b2 n1 n2 W7 W8 h1 h2 j h3 h4=>by
   have f: ∀b',ez (lM env b (.agg vn) b')=true→ez (env b')=true:=fun b' hh=>by
    by_cases e:b'=b
    ·subst e;exact hA
    ·rwa [gY _ _ e] at hh
   exact h.inj b1 b2 n1 n2 W7 W8 (f b1 h1) (f b2 h2) j h3 h4
  conv:=fun b' n' kN j hj=>by
   by_cases e:b'=b
   ·subst e;rw [kS];rfl
   ·rw [gY _ _ e];exact h.conv b' n' kN j hj
  live:=fun b' gC=>by
   obtain⟨e1,e2⟩:=h.live b' gC
   refine⟨e1,?_⟩
   by_cases e:b'=b
   ·subst e;rw [kS];rfl
   ·rwa [gY _ _ e]
  ptr:=fun p hp=>by
   obtain⟨e1,e2⟩:=h.ptr p hp
   refine⟨e1,fun hg=>?_⟩
   have vt:Ax env p.g:=by
    cases Z9:p.g with
    |none=>trivial
    |some x=>
     obtain⟨g,want⟩:=x
     rw [Z9] at hg
     simp only [Ax] at hg⊢
     by_cases e:g=b
     ·subst e;rw [kS] at hg;cases hg
     ·rwa [gY _ _ e] at hg
   obtain⟨e3,k2,e4,e5⟩:=e2 vt
   refine⟨?_,k2,e4,e5⟩
   by_cases e:p.b=b
   ·rw [e,kS];rfl
   ·rwa [gY _ _ e] }
end
section
variable {P : Program}
theorem wm (k o n:Nat):(⟨k,o,none⟩:Addr).add n=⟨k,o+n,none⟩:=by
 unfold Addr.add;split<;>simp_all
theorem Li {S f fo sz:Nat} (h:fieldInfo P S f=some (fo,sz)) (hz:sz≠0) (k off:Nat) (w:World):
  (qB S (fz k off) f).run P w= .ok (fz k (off+fo)) w:=by
 unfold fieldInfo at h
 split at h
 ·rename_i fs hu
  cases hf:fs[f]? with
  |none=>simp [hf] at h
  |some x=>
   cases hi:P.info? x.type with
   |none=>simp [hf,hi] at h
   |some i=>
    simp only [hf,hi,dv,bN,aC,dB] at h
    obtain⟨h1,h2⟩:=h
    subst h1 h2
    simp [qB,run_underlying hu,hf,lJ,fz,fieldPlace,sizeOf,typeInfo,hi,hz,wm]
 ·cases h
theorem GW {w:World} {k:Nat} {cells:Array Value} {ty:TypeId} (h:w.heap[k]? =some (.cells cells ty (0,0))) (i:Nat):w.cell? ⟨k,i,none⟩=cells[i]? :=by
 simp [World.cell?,h]
theorem Nj {t:Nat} {ag:Bool} {sz:Nat} (h:ki P t=some (ag,sz)) (hag:(ag||sz==1)=true) {w:World} {k:Nat} {cells:Array Value} {ty:TypeId}
  (hk:w.heap[k]? =some (.cells cells ty (0,0))) (off:Nat) (hl:off+sz≤cells.size):
  (jJ t (fz k off)).run P w= .ok (if ag then eQ (.agg cells) off sz else cellOf (.agg cells) off) w:=by
 unfold ki at h
 split at h
 ·rename_i d i hu hi
  simp only [aC,dB] at h
  obtain⟨h1,h2⟩:=h
  subst h2
  have wo:(isAgg t).run P w= .ok ag w:=by
   subst h1
   cases d<;>simp [isAgg,run_underlying hu]
  cases ag with
  |true=>
   have hc: ∀j v,((cells.toList.drop off).take i.size)[j]? =some v→w.cell? ((⟨k,off,none⟩:Addr).add j)=some v:=by
    intro j v hj
    rw [wm,GW hk]
    rw [jT] at hj
    split at hj
    ·rw [fu] at hj
     simpa using hj
    ·cases hj
   have hlen:((cells.toList.drop off).take i.size).length=i.size:=by
    simp;omega
   have hr:=run_loadCells_list (P:=P) w ⟨k,off,none⟩ _ hc
   rw [hlen] at hr
   simp [jJ,lJ,fz,loadVar,wo,sizeOf,typeInfo,hi,hr,eQ,ad]
  |false=>
   simp only [Bool.false_or,beq_iff_eq] at hag
   have dh:off<cells.size:=by omega
   have hc:w.cell? ⟨k,off,none⟩=some cells[off]:=by rw [GW hk];simp [dh]
   simp [jJ,lJ,fz,loadVar,wo,hc,cellOf,ad,dh]
 ·cases h
theorem Nk (v:Value):one v=v.oneCell':=by cases v<;>rfl
theorem tD {v:Value} (h:one v=true):v.cells= #[v]:=by cases v<;>first|rfl|cases h
theorem VZ {t:Nat} {ag:Bool} {sz:Nat} (h:ki P t=some (ag,sz)):(P.info? t).map (·.size)=some sz:=by
 unfold ki at h
 split at h
 ·rename_i d i hu hi
  simp only [aC,dB] at h
  simp [hi,h.2]
 ·cases h
theorem Lj {t sz:Nat} (h:(P.info? t).map (·.size)=some sz) {w:World} {k:Nat} {cells:Array Value} {ty:TypeId}
  (hk:w.heap[k]? =some (.cells cells ty (0,0))) (off:Nat) (hl:off+sz≤cells.size) (v:Value) (hv:v.cells.size=sz) (h1:v.cells.toList.all one=true):
  (qD t (fz k off) v).run P w= .ok () (w.setRow k (cd cells.toList off v.cells.toList).toArray):=by
 cases hi:P.info? t with
 |none=>simp [hi] at h
 |some i=>
  simp only [hi,bN,aC] at h
  have ix:=run_storeCells_at P k off ty v.cells.toList 0 cells w hk (by simpa [hv] using hl) (fun x hx=>by
   have:=List.all_eq_true.1 h1 x hx
   rwa [Nk] at this)
  simp only [Nat.add_zero] at ix
  simp [qD,lJ,fz,storeVar,sizeOf,typeInfo,hi,h,hv,ix,cd]
end
theorem aab {w:World} {k:Nat} {cells vn:Array Value} {ty:TypeId} (hk:w.heap[k]? =some (.cells cells ty (0,0))):
  Fr (· =k) w (w.setRow k vn)∧(w.setRow k vn).heap[k]? =some (.cells vn ty (0,0)):=by
 refine⟨⟨rfl,rfl,rfl,by simp [World.setRow],fun j _ hj=>?_⟩,setRow_heap w k cells vn ty (0,0) hk⟩
 simp only [World.setRow,Array.getElem?_modify]
 rw [if_neg (fun e=>hj e.symm)]
theorem abr {l vs:List Value} {off:Nat} (h:off+vs.length≤l.length):(cd l off vs).length=l.length:=by
 simp [cd];omega
section
variable {P : Program} {pl : bI} {ds : Bk} {cs : CS} {env : Env} {X : XS} {w0 w : World} {a : Act}
theorem Ia {og:Option (Nat×Bool)} : ∀{l:List Ptr} {t b off:Nat},DX og l t=some (b,off)→ ∃p,p∈l∧p.s=t∧p.b=b∧p.off=off∧(p.g=none∨p.g=og)
 |[],_,_,_,h=>by cases h
 |p::r,t,b,off,h=>by
  simp only [DX] at h
  split at h
  ·rename_i hs
   split at h
   ·rename_i hg
    simp only [aC,dB] at h
    refine⟨p,ll ..,hs,h.1,h.2,?_⟩
    simpa using hg
   ·cases h
  ·obtain⟨q,h1,h2⟩:=Ia h
   exact⟨q,bm _ h1,h2⟩
theorem fm.ta (h:fm pl ds cs env X w0 a w) {og:Option (Nat×Bool)} {x:Operand} {b off:Nat} {nd:List Nat} (hp:fR.ta pl cs og x=some (b,off,nd)):
  (∃n,look pl.boxes b=some n)∧(∀b',b'∈nd→ ∃n,look pl.boxes b'=some n)∧
  ((∀b',b'∈nd→ez (env b')=true)→Ax env og→ez (env b)=true∧ ∃k,a.eval x=fz k off∧a.tmps[b]? =some (fz k 0)):=by
 cases x with
 |tmp t=>
  simp only [fR.ta] at hp
  split at hp
  ·rename_i n hn
   simp only [aC,dB] at hp
   obtain⟨rfl,rfl,py⟩:=hp
   refine⟨⟨n,hn⟩,fun b' gC=>?_,fun hl _=>?_⟩
   ·split at py<;>subst py
    ·cases gC
    ·rcases List.mem_singleton.1 gC with rfl
     exact⟨n,hn⟩
   ·have hA:ez (env t)=true:=by
     split at py
     ·rename_i hc
      exact(h.live t (by simpa using hc)).2
     ·subst py
      exact hl t (List.mem_singleton.2 rfl)
    obtain⟨c,hc⟩:=sP.1 hA
    obtain⟨k,ty,h1,_⟩:=h.box t n hn c hc
    exact⟨hA,k,by simp [lp,h1],h1⟩
  ·split at hp
   ·cases hf:DX og cs.wh t with
    |none=>simp [hf] at hp
    |some q=>
     obtain⟨b',ajd⟩:=q
     simp only [hf,bN,aC,dB] at hp
     obtain⟨rfl,rfl,rfl⟩:=hp
     obtain⟨p,hp,hs,hb,ho,hg⟩:=Ia hf
     obtain⟨e1,e2⟩:=h.ptr p hp
     subst hs hb ho
     refine⟨e1,fun _ gC=>(by cases gC),fun _ H7=>?_⟩
     obtain⟨e3,k,e4,e5⟩:=e2 (hg.elim (fun hg=>by simp [hg,Ax]) (fun hg=>by rw [hg];exact H7))
     exact⟨e3,k,by simp [lp,e5],e4⟩
   ·cases hp
 |const v=>cases hp
 |global g=>cases hp
 |func f=>cases hp
theorem Ib {iX:List PanicEntry→Env→World→XS→Prop} {next:Env→World→XS→Prop} : ∀(nd:List Nat) {l:List TI},
  gO P iX next (nd.map .Dq++l) env w X→(∀b,b∈nd→ez (env b)=true)∧gO P iX next l env w X
 |[],_,h=>⟨fun _ hb=>(by cases hb),h⟩
 |b::nd,l,h=>by
  obtain⟨h1,h2⟩:ez (env b)=true∧gO P iX next (nd.map .Dq++l) env w X:=by simpa only [bh,ef,gO,SD,dF] using h
  obtain⟨h3,h4⟩:=Ib nd h2
  refine⟨fun b' gC=>?_,h4⟩
  rcases List.mem_cons.1 gC with rfl|gC
  ·exact h1
  ·exact h3 b' gC
theorem zu {iX:List PanicEntry→Env→World→XS→Prop} {next:Env→World→XS→Prop} : ∀(l l':List TI),gO P iX next (l++l')=gO P iX (gO P iX next l') l
 |[],_=>rfl
 |i::l,l'=>by
  funext env w X
  simp only [ef,gO,zu l l']
inductive Shape (P:Program) (pl:bI) (cs:CS) (og:Option (Nat×Bool)) (m:Bool) (o:Oper):CR→Prop
 |mv (x:Operand) (d:Nat) (e:Ex) (ho:o.op= .move x∨o.op= .assign x) (hd:o.dst=some d) (hv:valOf pl cs x=some e) (hp:pl.mD d=true):
   Shape P pl cs og m o ⟨true,[],(po pl cs d e).1,(po pl cs d e).2,[],[]⟩
 |ld (t:TypeId) (x:Operand) (d b off:Nat) (nd:List Nat) (ag:Bool) (sz bs:Nat) (ho:o.op= .load t x) (hd:o.dst=some d) (hx:fR.ta pl cs og x=some (b,off,nd))
   (ht:ki P t=some (ag,sz)) (hb:look pl.boxes b=some bs) (hp:pl.mD d=true) (hl:off+sz≤bs) (ha:(ag||sz==1)=true):
   Shape P pl cs og m o ⟨true,nd,(po pl (cs.lz nd) d (if ag then .s b off sz else .k b off)).1,(po pl (cs.lz nd) d (if ag then .s b off sz else .k b off)).2,[b],[]⟩
 |fa (S:TypeId) (x:Operand) (f d b off:Nat) (nd:List Nat) (fo sz:Nat) (ho:o.op= .fieldAddr S x f) (hd:o.dst=some d) (hx:fR.ta pl cs og x=some (b,off,nd))
   (hf:fieldInfo P S f=some (fo,sz)) (Fk:pl.QA.contains d=true) (dh:d<pl.n) (qp:look pl.boxes d=none) (hz:sz≠0):
   Shape P pl cs og m o ⟨true,nd,[],(cs.lz nd).rP d b (off+fo) og,[],[]⟩
 |rd (d:Nat) (ss:List (Nat×Ex)) (hd:o.dst=some d) (hs:subst pl cs o.op.operands.toList=some ss) (hn:Fh o.op=true) (hp:pl.mD d=true):
   Shape P pl cs og m o ⟨true,[],[.rd d o.op o.type ss],cs.bind pl d,[],[]⟩
 |Av (d:Nat) (ss:List (Nat×Ex)) (hd:o.dst=some d) (hs:subst pl cs o.op.operands.toList=some ss) (hn:Fh o.op=true) (hp:pl.mD d=true):
   Shape P pl cs og m o ⟨false,[],[.Av (some d) o.op o.type ss m],cs.bind pl d,[],[]⟩
 |act (ss:List (Nat×Ex)) (hd:o.dst=none) (hs:subst pl cs o.op.operands.toList=some ss) (hn:Fh o.op=true):
   Shape P pl cs og m o ⟨false,[],[.Av none o.op o.type ss m],cs,[],[]⟩
 |bx (t:TypeId) (x:Operand) (d sz:Nat) (e:Ex) (ag:Bool) (ho:o.op= .box t x) (hd:o.dst=some d) (hb:look pl.boxes d=some sz) (hv:valOf pl cs x=some e) (ht:ki P t=some (ag,sz)) (dh:d<pl.n):
   Shape P pl cs og m o ⟨false,[],[if !ag&&sz==1 then .xe d e else .box d sz e],(cs.kill d).lz [d],[],[]⟩
 |al (t:TypeId) (d sz:Nat) (i:TypeInfo) (z:Value) (ag:Bool) (ho:o.op= .alloc t) (hd:o.dst=some d) (hb:look pl.boxes d=some sz) (hi:P.info? t=some i) (hz:i.zero=some z) (ht:ki P t=some (ag,sz)) (dh:d<pl.n):
   Shape P pl cs og m o ⟨false,[],[if !ag&&sz==1 then .xe d (.c z)else .box d sz (.c z)],(cs.kill d).lz [d],[],[]⟩
 |st (t:TypeId) (x v:Operand) (b off:Nat) (nd:List Nat) (sz bs:Nat) (e:Ex) (ag:Bool) (ho:o.op= .store t x v) (hd:o.dst=none) (hx:fR.ta pl cs og x=some (b,off,nd))
   (hv:valOf pl cs v=some e) (ht:ki P t=some (ag,sz)) (hb:look pl.boxes b=some bs) (hl:off+sz≤bs):
   Shape P pl cs og m o ⟨false,nd,[if !ag&&sz==1 then .SA b off e else if off==0&&sz==bs then .fill b sz e else .put b off sz e],(cs.lz nd).Ka b,[],[b]⟩
theorem uq {m:Bool} {og:Option (Nat×Bool)} {o:Oper} {r:CR} (h:Cz P pl cs m o=some r):Shape P pl cs og m o r:=by
 unfold Cz at h
 split at h
 ·cases h
 ·rename_i ss hs
  split at h
  ·cases h
  ·rename_i hn
   simp only [bW,kc] at hn
   split at h
   ·rename_i d hd
    split at h
    ·cases h
    ·rename_i hp
     simp only [bW,kc] at hp
     split at h<;>injection h with h<;>subst h
     ·exact .rd d ss hd hs hn hp
     ·exact .Av d ss hd hs hn hp
   ·rename_i hd
    injection h with h
    subst h
    exact .act ss hd hs hn
theorem QD {m:Bool} {og:Option (Nat×Bool)} {o:Oper} {r:CR} {sz d t:Nat} {e:Ex} (h:SF P pl cs sz t e d=some r)
  (k: ∀ag,d<pl.n→ki P t=some (ag,sz)→Shape P pl cs og m o ⟨false,[],[if !ag&&sz==1 then .xe d e else .box d sz e],(cs.kill d).lz [d],[],[]⟩):Shape P pl cs og m o r:=by
 unfold SF at h
 split at h
 ·rename_i ag s ht
  split at h
  ·rename_i hc
   simp only [aG,decide_eq_true_eq,beq_iff_eq] at hc
   obtain⟨h1,h2⟩:=hc
   subst h2
   injection h with h
   subst h
   exact k ag h1 ht
  ·cases h
 ·cases h
theorem qf {m:Bool} {og:Option (Nat×Bool)} {o:Oper} {r:CR} (h:Ba P pl cs og m o=some r):Shape P pl cs og m o r:=by
 unfold Ba at h
 split at h
 case h_1 x ho=>
  split at h
  ·rename_i d e hd hv
   split at h
   ·rename_i hp
    injection h with h
    subst h
    exact .mv x d e (.inl ho) hd hv hp
   ·cases h
  ·cases h
 case h_2 x ho=>
  split at h
  ·rename_i d e hd hv
   split at h
   ·rename_i hp
    injection h with h
    subst h
    exact .mv x d e (.inr ho) hd hv hp
   ·cases h
  ·cases h
 case h_3 t x ho=>
  split at h
  ·rename_i d hd
   split at h
   ·rename_i sz hb
    split at h
    ·rename_i e hv
     exact QD h fun ag dh ht=>.bx t x d sz e ag ho hd hb hv ht dh
    ·cases h
   ·exact uq h
  ·cases h
 case h_4 t ho=>
  split at h
  ·rename_i d hd
   split at h
   ·rename_i sz hb
    split at h
    ·rename_i z hz
     cases hi:P.info? t with
     |none=>simp [hi] at hz
     |some i=>
      simp only [hi,dv] at hz
      exact QD h fun ag dh ht=>.al t d sz i z ag ho hd hb hi hz ht dh
    ·cases h
   ·exact uq h
  ·cases h
 case h_5 S x f ho=>
  split at h
  ·rename_i b off nd hx
   split at h
   ·rename_i d fo sz hd hf
    split at h
    ·rename_i hc
     simp only [aG,decide_eq_true_eq,ib,bne_iff_ne,ne_eq] at hc
     injection h with h
     subst h
     exact .fa S x f d b off nd fo sz ho hd hx hf hc.1.1.1 hc.1.1.2 hc.1.2 hc.2
    ·cases h
   ·cases h
  ·exact uq h
 case h_6 t x ho=>
  split at h
  ·rename_i b off nd hx
   split at h
   ·rename_i d ag sz bs hd ht hb
    split at h
    ·rename_i hc
     simp only [aG,decide_eq_true_eq] at hc
     injection h with h
     subst h
     exact .ld t x d b off nd ag sz bs ho hd hx ht hb hc.1.1 hc.1.2 hc.2
    ·cases h
   ·cases h
  ·exact uq h
 case h_7 t x v ho=>
  split at h
  ·rename_i b off nd hx
   split at h
   ·rename_i e ag sz bs hd hv ht hb
    split at h
    ·rename_i hc
     simp only [decide_eq_true_eq] at hc
     injection h with h
     subst h
     exact .st t x v b off nd sz bs e ag ho hd hx hv ht hb hc
    ·cases h
   ·cases h
  ·exact uq h
 case h_8=>exact uq h
end
section
variable {P : Program} {pl : bI} {ds : Bk} {cs : CS} {env : Env} {X : XS} {w0 w : World} {a : Act}
theorem fm.zb (h:fm pl ds cs env X w0 a w) {RB:List Nat} {k:Nat} (hz:ZB pl RB a k): ¬X k:=by
 obtain⟨b,n,hb,_,ht⟩:=hz
 obtain⟨c,hc⟩:=sP.1 (h.conv b n hb k ht)
 obtain⟨k',ty,e1,_,_,e4⟩:=h.box b n hb c hc
 rw [ht] at e1
 have:k'=k:=by simpa [fz] using e1.symm
 subst this
 exact e4
theorem fm.kp0 (h:fm pl ds cs env X w0 a w) {RB:List Nat} {w':World} (hx:Fr (ZB pl RB a) w w'):Kp X w0 w':=
 h.ext.trans (hx.kp fun k hk=>⟨h.tC k hk,fun hz=>h.zb hz hk⟩)
theorem fm.jw (h:fm pl ds cs env X w0 a w) {b n k:Nat} (hb:look pl.boxes b=some n) (ht:a.tmps[b]? =some (fz k 0)):k<w.heap.size∧ ¬X k:=by
 obtain⟨c,hc⟩:=sP.1 (h.conv b n hb k ht)
 obtain⟨k',ty,e1,e2,_,e4⟩:=h.box b n hb c hc
 rw [ht] at e1
 have:k'=k:=by simpa [fz] using e1.symm
 subst this
 exact⟨(Array.getElem?_eq_some_iff.1 e2).1,e4⟩
theorem fm.abt (h:fm pl ds cs env X w0 a w) {sb:List Nat} {w':World} (hx:Fr X w w'):wj pl sb a w w':=
 fun _ _ _ hb _ hk=>hx.block _ (h.jw hb hk).1 (h.jw hb hk).2
theorem oU.fE {sb:List Nat} {a':Act} {w':World} (hx:Ext w w') (hz: ∀b n,look pl.boxes b=some n→ ∀k,k<w.heap.size→a'.tmps[b]? =some (fz k 0)→a.tmps[b]? =some (fz k 0)):oU pl sb a w a' w':=
 fun _ _=>⟨hx.fr _,fun k hk ⟨b,n,h1,h2,h3⟩=>⟨b,n,h1,h2,hz b n h1 k hk h3⟩⟩
theorem oU.abu {sb:List Nat} {w':World} {d:Option Nat} {v:Value} (hx:Ext w w') (hd: ∀x,d=some x→look pl.boxes x=none):oU pl sb a w (a.put d v) w':=by
 refine oU.fE hx fun b n hb k _ hk=>?_
 cases d with
 |none=>exact hk
 |some x=>rwa [fS _ _ _ _ (qT hb (hd x rfl))] at hk
theorem oU.sub {sb Z3:List Nat} {a':Act} {w':World} (h:oU pl sb a w a' w') (hs: ∀b,b∈sb→b∈Z3):oU pl Z3 a w a' w':=
 fun RB zF=>h RB fun b hb=>zF b (hs b hb)
theorem QE {P:Program} {m:Bool} {og:Option (Nat×Bool)} {o:Oper} {r:CR} (hs:Shape P pl cs og m o r) (iq:r.fl=true): ∀x,o.dst=some x→look pl.boxes x=none:=by
 have f: ∀{d:Nat},o.dst=some d→pl.mD d=true→ ∀x,o.dst=some x→look pl.boxes x=none:=fun hd hp x hx=>by
  rw [hd] at hx;injection hx with hx;subst hx;exact(we hp).2.1
 cases hs with
 |mv x d e ho hd hv hp=>exact f hd hp
 |ld t x d b off nd ag sz bs ho hd hx ht hb hp hl ha=>exact f hd hp
 |fa S x g d b off nd fo sz ho hd hx hf Fk dh qp hz=>intro y hy;rw [hd] at hy;injection hy with hy;subst hy;exact qp
 |rd d ss hd hs hn hp=>exact f hd hp
 |Av=>cases iq
 |act=>cases iq
 |bx=>cases iq
 |al=>cases iq
 |st=>cases iq
theorem QF {m:Bool} {og:Option (Nat×Bool)} {o:Oper} {r:CR} (hs:Shape P pl cs og m o r) (h:fm pl ds cs env X w0 a w) (hg:Ax env og)
  (hl: ∀b,b∈r.nd→ez (env b)=true) (iq:r.fl=true) {iX:List PanicEntry→Env→World→XS→Prop} {next:Env→World→XS→Prop} (hd:gO P iX next r.l env w0 X) (px: ∀b,b∈nq r.l→ ∀p,p∈ds.pins→p.1≠b):
  ∃v dT,((∀wa,Fr (ZB pl r.rb a) w wa→(execOp a.eval o).run P wa= .ok (.value v) wa)∧
   ∀b,b∈r.rb→ ∃k n,look pl.boxes b=some n∧a.tmps[b]? =some (fz k 0)∧ ∀wa:World,wa.heap[k]? =w.heap[k]? →(execOp a.eval o).run P wa= .ok (.value v) wa)∧fm pl ds r.cs dT X w0 (a.put o.dst v) w∧next dT w0 X:=by
 cases hs with
 |mv x d e ho jN hv hp=>
  obtain⟨dT,h1,h2⟩:=h.po hp e hd px
  refine⟨e.ev env,dT,⟨fun wa _=>?_,fun _ hb=>by cases hb⟩,by rw [jN];exact h1,h2⟩
  have he:=h.eval hv
  rcases ho with ho|ho<;>simp [execOp,ho,he]
 |ld t x d b off nd ag sz bs ho jN hx ht hb hp dh ha=>
  obtain⟨⟨n,hn⟩,py,hk⟩:=h.ta hx
  obtain⟨hA,k,he,kX⟩:=hk hl hg
  obtain⟨cells,hc⟩:=sP.1 hA
  obtain⟨k',ty,e1,e2,e3,_⟩:=h.box b n hn cells hc
  have nC:k'=k:=by rw [kX] at e1;simpa [fz] using e1.symm
  subst nC
  have DY:bs=n:=by rw [hb] at hn;injection hn
  subst DY
  have h':=h.lz (nd:=nd) fun b' gC=>⟨py b' gC,hl b' gC⟩
  obtain⟨dT,h1,h2⟩:=h'.po hp _ hd px
  have DZ:(if ag then Ex.s b off sz else Ex.k b off).ev env=if ag then eQ (.agg cells) off sz else cellOf (.agg cells) off:=by
   cases ag<;>simp [Ex.ev,hc]
  have oy: ∀wa:World,wa.heap[k']? =w.heap[k']? →(execOp a.eval o).run P wa= .ok (.value ((if ag then Ex.s b off sz else Ex.k b off).ev env)) wa:=by
   intro wa xi
   have e2':wa.heap[k']? =some (.cells cells ty (0,0)):=xi.trans e2
   have:=Nj ht ha e2' off (by omega)
   rw [DZ]
   simp [execOp,ho,he,this]
  refine⟨_,dT,⟨fun wa xi=>oy wa ?_,fun b' gC=>?_⟩,by rw [jN];exact h1,h2⟩
  rotate_left
  ·have:=List.mem_singleton.1 gC;subst this
   exact⟨k',bs,hn,kX,oy⟩
  have e2':wa.heap[k']? =some (.cells cells ty (0,0)):=by
   rw [xi.block k' (Array.getElem?_eq_some_iff.1 e2).1 ?_]
   ·exact e2
   ·rintro⟨b2,n2,g1,g2,g3⟩
    exact g2 (List.mem_singleton.2 (h.inj b2 b n2 bs g1 hn (h.conv b2 n2 g1 k' g3) hA k' g3 kX))
  rw [e2',e2]
 |fa S x f d b off nd fo sz ho jN hx hf Fk dh qp hz=>
  obtain⟨⟨n,hn⟩,py,hk⟩:=h.ta hx
  obtain⟨hA,k,he,kX⟩:=hk hl hg
  have h':=h.lz (nd:=nd) fun b' gC=>⟨py b' gC,hl b' gC⟩
  refine⟨fz k (off+fo),env,⟨fun wa _=>?_,fun _ hb=>by cases hb⟩,?_,hd⟩
  ·have:=Li hf hz k off wa
   simp [execOp,ho,he,this]
  ·rw [jN]
   exact h'.derive dh qp Fk _ ⟨n,hn⟩ fun _=>⟨hA,k,kX,rfl⟩
 |rd d ss jN Lk hn hp=>
  obtain⟨v,h1,h2⟩:=hd
  refine⟨v,_,⟨fun wa xi=>?_,fun _ hb=>by cases hb⟩,by rw [jN];exact h.bind hp v (px d (by simp [nq,TI.GU])),h2⟩
  rw [h.exec Lk hn,←ZW _ (fun _=>rfl)]
  exact h1 wa (h.kp0 xi)
 |Av=>cases iq
 |act=>cases iq
 |bx=>cases iq
 |al=>cases iq
 |st=>cases iq
def xj (pl:bI) (ds:Bk) (env:Env) (X:XS) (a:Act) (w:World):Prop:=
 ∀p,p∈ds.pins→a.tmps[p.1]? =some p.2∧(pl.jM p.1=true∨ ∃n k cells ty,p.2=fz k 0∧look pl.boxes p.1=some n∧env p.1= .agg cells∧w.heap[k]? =some (.cells cells ty (0,0))∧cells.size=n∧ ¬X k)
theorem fm.pinned (h:fm pl ds cs env X w0 a w):xj pl ds env X a w:=fun p hp=>by
 obtain⟨ht,⟨n,k,hn,hk⟩|hg⟩:=h.vm p hp
 ·refine⟨ht,.inr ?_⟩
  rw [hk] at ht
  obtain⟨cells,hc⟩:=sP.1 (h.conv p.1 n hn _ ht)
  obtain⟨k',ty,e1,e2,e3,e4⟩:=h.box p.1 n hn cells hc
  rw [ht] at e1
  have:k=k':=by simpa [fz] using e1
  subst this
  exact⟨n,k,cells,ty,hk,hn,hc,e2,e3,e4⟩
 ·exact⟨ht,.inl hg⟩
theorem xj.put {d:Option Nat} {v:Value} (h:xj pl ds env X (a.put d v) w) (hd: ∀x,d=some x→ ∀p,p∈ds.pins→p.1≠x):xj pl ds env X a w:=fun p hp=>by
 obtain⟨h1,h2⟩:=h p hp
 refine⟨?_,h2⟩
 cases d with
 |none=>exact h1
 |some x=>rwa [fS _ _ _ _ (hd x rfl p hp)] at h1
theorem Nl {m:Bool} {og:Option (Nat×Bool)} {o:Oper} {r:CR} (hs:Shape P pl cs og m o r) (iq:r.fl=true): ∀x,o.dst=some x→pl.jM x=true→x∈nq r.l:=by
 have f: ∀{Nm:CS} {d:Nat} {e:Ex},o.dst=some d→ ∀x,o.dst=some x→pl.jM x=true→x∈nq (po pl Nm d e).1:=fun hd x hx hg=>by
  rw [hd] at hx;injection hx with hx;subst hx
  unfold po
  rw [if_pos (by simp [hg])]
  simp [nq,TI.GU]
 cases hs with
 |mv x d e ho hd hv hp=>exact f hd
 |ld t x d b off nd ag sz bs ho hd hx ht hb hp hl ha=>exact f hd
 |fa S x g d b off nd fo sz ho hd hx hf Fk dh qp hz=>
  intro y hy hg
  rw [hd] at hy;injection hy with hy;subst hy
  have:=(qe hg).2.2
  rw [Fk] at this;cases this
 |rd d ss hd hs hn hp=>intro y hy _;rw [hd] at hy;injection hy with hy;subst hy;simp [nq,TI.GU]
 |Av=>cases iq
 |act=>cases iq
 |bx=>cases iq
 |al=>cases iq
 |st=>cases iq
theorem QG {m:Bool} {og:Option (Nat×Bool)} {o:Oper} {r:CR} (hs:Shape P pl cs og m o r) (h:fm pl ds cs env X w0 a w) (hg:Ax env og)
  (hl: ∀b,b∈r.nd→ez (env b)=true) (iq:r.fl=false) {iX:List PanicEntry→Env→World→XS→Prop} {next:Env→World→XS→Prop} (hd:gO P iX next r.l env w0 X)
  {K:Act→World→Prop} {Q:Exit→Act→World→Prop}
  (hK: ∀a' w' dT X' fi,fm pl ds r.cs dT X' fi a' w'→next dT fi X'→xg (m=false) pl r.sb a w a' w'→K a' w')
  (px: ∀b,b∈nq r.l→ ∀p,p∈ds.pins→p.1≠b)
  (hQ: ∀ch w' dT X' fi,Kp X' fi w'→xj pl ds dT X' a w'→iX ch dT fi X'→Q (.panic ch) a w'):o.wp P a w K Q:=by
 have real: ∀(nJ:CS) (ss:List (Nat×Ex)),(∀x,o.dst=some x→look pl.boxes x=none)→subst pl cs o.op.operands.toList=some ss→Fh o.op=true→
   (∀m' w' v,Step m' X w w'→fm pl ds nJ (H3 env o.dst v) (grow X w w') w' (a.put o.dst v) w')→r.cs=nJ→
   (∀wa,Kp X w0 wa→kh P m X wa (fun v w' X'=>next (H3 env o.dst v) w' X') (fun ch w' X'=>iX ch env w' X') ((Nh (Cy env ss) o.op o.type).run P wa))→o.wp P a w K Q:=by
  intro nJ ss SN Lk hn hS kj he
  have he:=he w h.ext
  unfold jA
  rw [h.exec Lk hn,←ZW _ (fun _=>rfl)]
  have ix: ∀w' v,Step m X w w'→xg (m=false) pl r.sb a w (a.put o.dst v) w':=fun w' v hs=>⟨fun hm=>by subst hm;exact oU.abu hs SN,h.abt hs.fr⟩
  cases hr:(Nh (Cy env ss) o.op o.type).run P w with
  |ok n w'=>
   rw [hr] at he
   cases n<;>simp only [kh] at he<;>simp only [mN]
   case value v=>exact hK _ _ _ _ _ (kj▸hS m w' v he.1) he.2 (ix _ _ he.1)
   case skip=>exact hK _ _ _ _ _ (kj▸hS m w' undef he.1) he.2 (ix _ _ he.1)
   case enter f args=>
    obtain⟨rfl,hc⟩:=he
    refine hc.mono fun e kW hR=>?_
    cases e with
    |returned v=>exact hK _ _ _ _ _ (kj▸hS m kW v hR.1) hR.2 (ix _ _ hR.1)
    |panicked ch=>exact hQ _ _ _ _ _ (Kp.refl _ _) (h.Kc hR.1).pinned hR.2
    |outgrown=>exact hR.elim
  |halt x w'=>
   rw [hr] at he
   cases x<;>simp only [kh] at he<;>simp only [mN]
   case panic v=>exact hQ _ _ _ _ _ (Kp.refl _ _) (h.Kc he.1).pinned he.2
 have boxed: ∀{d sz:Nat} {e:Ex} {ag:Bool},gO P iX next [if !ag&&sz==1 then .xe d e else .box d sz e] env w0 X→
   (e.ev env).cells.size=sz∧next (lM env d (.agg (e.ev env).cells)) w0 X:=by
  intro d sz e ag hd
  simp only [gO] at hd
  split at hd
  ·rename_i nK
   simp only [aG,bW,beq_iff_eq] at nK
   obtain⟨g1,g2⟩:=dF.1 hd
   rw [tD g1]
   exact⟨by simp [nK.2],g2⟩
  ·obtain⟨g1,g2⟩:=dF.1 hd
   exact⟨by simpa using g1,g2⟩
 have aeV: ∀(t d:Nat) (_:d<pl.n) (cells:Array Value),oU pl [] a w (a.put (some d) (fz w.heap.size 0)) (w.alloc (.cells cells t)):=by
  intro t d dh cells
  refine oU.fE (Ext.alloc _ _) fun b n SO k hk nC=>?_
  by_cases e:b=d
  ·subst e
   rw [nI _ _ _ _ (by rw [h.size];exact dh),if_pos rfl] at nC
   have:w.heap.size=k:=by simpa [fz] using nC
   omega
  ·rwa [fS _ _ _ _ e] at nC
 cases hs with
 |mv=>cases iq
 |ld=>cases iq
 |fa=>cases iq
 |rd=>cases iq
 |Av d ss jN Lk hn hp=>
  refine real (cs.bind pl d) ss (fun x hx=>by rw [jN] at hx;injection hx with hx;subst hx;exact(we hp).2.1) Lk hn (fun m' w' v ix=>?_) rfl ?_
  ·rw [jN];exact(h.Kc ix).bind hp v (px d (by simp [nq,TI.GU]))
  ·intro wa xi
   have:=hd wa xi
   rw [jN];exact this
 |act ss jN Lk hn=>
  refine real cs ss (fun x hx=>by rw [jN] at hx;cases hx) Lk hn (fun m' w' v ix=>?_) rfl ?_
  ·rw [jN];exact h.Kc ix
  ·intro wa xi
   have:=hd wa xi
   rw [jN];exact this
 |bx t x d sz e ag ho jN hb hv ht dh=>
  have he:=h.eval hv
  obtain⟨h1,h2⟩:=boxed hd
  have hr:(execOp a.eval o).run P w= .ok (.value (fz w.heap.size 0)) (w.alloc (.cells (e.ev env).cells t)):=by
   simp [execOp,ho,he,de,newVar,newRow,fz]
  unfold jA
  rw [hr]
  simp only [mN]
  rw [jN]
  exact hK _ _ _ _ _ (h.aaa dh hb (e.ev env).cells h1 t (px d (by split<;>simp [nq,TI.GU]))) h2 ⟨fun _=>aeV t d dh _,h.abt ((Ext.alloc _ _).fr X)⟩
 |al t d sz i z ag ho jN hb hi hz ht dh=>
  obtain⟨h1,h2⟩:=boxed hd
  have hr:(execOp a.eval o).run P w= .ok (.value (fz w.heap.size 0)) (w.alloc (.cells z.cells t)):=by
   simp [execOp,ho,Instr.alloc,zeroValue,typeInfo,hi,hz,newVar,newRow,fz]
  unfold jA
  rw [hr]
  simp only [mN]
  rw [jN]
  exact hK _ _ _ _ _ (h.aaa dh hb z.cells h1 t (px d (by split<;>simp [nq,TI.GU]))) h2 ⟨fun _=>aeV t d dh _,h.abt ((Ext.alloc _ _).fr X)⟩
 |st t x v b off nd sz bs e ag ho jN hx hv ht hb dh=>
  obtain⟨⟨n,hn⟩,py,hk⟩:=h.ta hx
  obtain⟨hA,k,he,kX⟩:=hk hl hg
  obtain⟨cells,hc⟩:=sP.1 hA
  obtain⟨k',ty,e1,e2,e3,e4⟩:=h.box b n hn cells hc
  have nC:k'=k:=by rw [kX] at e1;simpa [fz] using e1.symm
  subst nC
  have DY:bs=n:=by rw [hb] at hn;injection hn
  subst DY
  obtain⟨h1,h2,h3⟩:(e.ev env).cells.size=sz∧(e.ev env).cells.toList.all one=true∧next (lM env b (.agg (cd (env b).cells.toList off (e.ev env).cells.toList).toArray)) w0 X:=by
   simp only [gO] at hd
   split at hd
   ·rename_i nK
    simp only [aG,bW,beq_iff_eq] at nK
    obtain⟨g1,g2⟩:=dF.1 hd
    rw [tD g1]
    exact⟨by simp [nK.2],by simp [g1],g2⟩
   ·split at hd
    ·rename_i nK
     simp only [aG,beq_iff_eq] at nK
     obtain⟨g1,hd⟩:=dF.1 hd
     obtain⟨g2,g3⟩:=dF.1 hd
     have g1:(e.ev env).cells.size=sz:=by simpa using g1
     refine⟨g1,g2,?_⟩
     have agK:cd (env b).cells.toList off (e.ev env).cells.toList=(e.ev env).cells.toList:=by
      unfold cd
      rw [hc,nK.1]
      have hz:cells.size≤(e.ev env).cells.size:=by omega
      show List.take 0 cells.toList++(e.ev env).cells.toList++List.drop (0+(e.ev env).cells.toList.length) cells.toList=(e.ev env).cells.toList
      rw [tA,cV,sF (by simpa using hz),cp]
     rw [agK]
     simpa using g3
    ·obtain⟨g1,hd⟩:=dF.1 hd
     obtain⟨g2,g3⟩:=dF.1 hd
     exact⟨by simpa using g1,g2,g3⟩
  have h':=h.lz (nd:=nd) fun b' gC=>⟨py b' gC,hl b' gC⟩
  have DZ:=h.eval hv
  have ix:=Lj (VZ ht) e2 off (by omega) (e.ev env) h1 h2
  have hr:(execOp a.eval o).run P w= .ok .skip (w.setRow k' (cd cells.toList off (e.ev env).cells.toList).toArray):=by
   simp [execOp,ho,he,DZ,ix]
  unfold jA
  rw [hr]
  simp only [mN]
  rw [jN]
  obtain⟨f1,f2⟩:=aab (vn:=(cd cells.toList off (e.ev env).cells.toList).toArray) e2
  have eu:((cd cells.toList off (e.ev env).cells.toList).toArray).size=bs:=by
   simp only [List.size_toArray]
   rw [abr (by simp;omega)]
   simpa using e3
  rw [hc] at h3
  refine hK _ _ _ _ _ (h'.store hb hc kX e2 e4 eu f1 f2) h3 ⟨fun _ RB zF=>
   ⟨f1.mono fun j hj=>⟨b,bs,hb,zF b (List.mem_singleton.2 rfl),by rw [hj];exact kX⟩,fun _ _ hz=>hz⟩,fun b2 n2 k2 g1 g2 g3=>f1.block k2 (h.jw g1 g3).1 fun hj=>?_⟩
  have hj:k2=k':=hj
  subst hj
  exact g2 (List.mem_singleton.2 (h.inj b2 b n2 bs g1 hn (h.conv b2 n2 g1 _ g3) hA _ g3 kX))
end
section
variable {P : Program} {pl : bI} {ds : Bk} {cs : CS} {env : Env} {X : XS} {w0 w : World} {a : Act} {ops : Array Oper}
variable {iX : List PanicEntry → Env → World → XS → Prop} {next : Env → World → XS → Prop}
theorem Nn {g:Nat} {want:Bool} {op:Op} {r0 r:CR} (gV:ob g want op r0=some r) (hy:mX (env g) want=true) (hd:gO P iX next r.l env w0 X):
  gO P iX next r0.l env w0 X:=by
 obtain⟨fl,nd,l,c,rb,sb⟩:=r0
 unfold ob at gV
 dsimp only at gV
 split at gV
 ·split at gV
  ·injection gV with e;subst e;exact hd
  ·cases gV
 ·split at gV
  ·cases gV
  ·injection gV with e;subst e
   simpa only [gO,SD,hy,if_true] using hd
 ·split at gV
  ·cases gV
  ·injection gV with e;subst e
   obtain⟨v,h1,_,h2⟩:=hd
   exact⟨v,h1 hy,h2⟩
 ·split at gV
  ·cases gV
  ·injection gV with e;subst e
   exact hd.1 hy
 ·cases gV
theorem zv {g:Nat} {want:Bool} {op:Op} {r0 r:CR} (gV:ob g want op r0=some r):r.cs=r0.cs∧r.nd=r0.nd∧r.fl=r0.fl∧r.rb=r0.rb∧r.sb=r0.sb:=by
 obtain⟨fl,nd,l,c,rb,sb⟩:=r0
 unfold ob at gV
 dsimp only at gV
 split at gV<;>(try split at gV)<;>first
  |(cases gV;done)
  |(injection gV with e;subst e;exact⟨rfl,rfl,rfl,rfl,rfl⟩)
theorem Ic {g:Nat} {want:Bool} {op:Op} {r0 r:CR} (gV:ob g want op r0=some r):nq r.l=nq r0.l:=by
 obtain⟨fl,nd,l,c,rb,sb⟩:=r0
 unfold ob at gV
 dsimp only at gV
 split at gV<;>(try split at gV)<;>first
  |(cases gV;done)
  |(injection gV with e;subst e;rfl)
theorem abv (nd:List Nat):nq (nd.map .Dq)=[]:=by
 induction nd with
 |nil=>rfl
 |cons b nd ih=>simp only [nq,bh,qL,TI.GU,cV] at ih⊢;exact ih
theorem xk (l l':List TI):nq (l++l')=nq l++nq l':=List.flatMap_append
theorem Pk (r:CR):nq r.all=nq r.l:=by unfold CR.all;rw [xk,abv,cV]
theorem SP {m:Bool} {g:Nat} {want:Bool} {o:Oper} {r0 r:CR} (hs:Shape P pl cs (some (g,want)) m o r0) (gV:ob g want o.op r0=some r) (h:fm pl ds cs env X w0 a w)
  (hl: ∀b,b∈r0.nd→ez (env b)=true) (m4:mX (env g) want=false) (hd:gO P iX next r.l env w0 X) (px: ∀b,b∈nq r.l→ ∀p,p∈ds.pins→p.1≠b):
  ∃dT,fm pl ds r.cs dT X w0 (a.put o.dst undef) w∧next dT w0 X:=by
 have aac: ∀(Nm:CS) (d:Nat) (e:Ex) (nd rb:List Nat),fm pl ds Nm env X w0 a w→o.dst=some d→pl.mD d=true→abl o.op=false→r0=⟨true,nd,(po pl Nm d e).1,(po pl Nm d e).2,rb,[]⟩→
   ∃dT,fm pl ds r.cs dT X w0 (a.put o.dst undef) w∧next dT w0 X:=by
  intro Nm d e nd rb h1 jN hp hfa hr
  subst hr
  unfold ob po at gV
  by_cases m5:(pl.jM d||pl.mat.contains d)=true
  ·simp only [m5,if_true] at gV
   split at gV
   ·cases gV
   ·injection gV with e1;subst e1
    simp only [gO,SD,m4,bA,if_false] at hd
    exact⟨_,by rw [jN];exact h1.bind hp undef (px d (by simp [nq,TI.GU])),hd⟩
  ·simp only [m5,hfa,bA,if_false] at gV
   cases gV
 cases hs with
 |mv x d e ho jN hv hp=>exact aac cs d e [] [] h jN hp (by rcases ho with ho|ho<;>rw [ho]<;>rfl) rfl
 |ld t x d b off nd ag sz bs ho jN hx ht hb hp dh ha=>
  obtain⟨_,py,_⟩:=h.ta hx
  exact aac (cs.lz nd) d _ nd [b] (h.lz fun b' gC=>⟨py b' gC,hl b' gC⟩) jN hp (by rw [ho];rfl) rfl
 |fa S x f d b off nd fo sz ho jN hx hf Fk dh qp hz=>
  obtain⟨hb,py,hk⟩:=h.ta hx
  have h':=h.lz (nd:=nd) fun b' gC=>⟨py b' gC,hl b' gC⟩
  unfold ob at gV
  simp only [ho,abl,if_true,aC] at gV
  subst gV
  refine⟨env,?_,hd⟩
  rw [jN]
  exact h'.derive dh qp Fk _ hb fun hg=>by simp only [Ax] at hg;rw [m4] at hg;cases hg
 |rd d ss jN Lk hn hp=>
  unfold ob at gV
  dsimp only at gV
  split at gV
  ·cases gV
  ·injection gV with e;subst e
   obtain⟨v,_,h1,h2⟩:=hd
   have hv:=h1 m4
   subst hv
   exact⟨_,by rw [jN];exact h.bind hp undef (px d (by simp [nq,TI.GU])),h2⟩
 |Av d ss jN Lk hn hp=>
  unfold ob at gV
  dsimp only at gV
  split at gV
  ·cases gV
  ·injection gV with e;subst e
   exact⟨_,by rw [jN];exact h.bind hp undef (px d (by simp [nq,TI.GU])),hd.2 m4⟩
 |act ss jN Lk hn=>
  unfold ob at gV
  dsimp only at gV
  split at gV
  ·cases gV
  ·injection gV with e;subst e
   exact⟨_,by rw [jN];exact h,hd.2 m4⟩
 |bx t x d sz e ag=>cases SQ:(!ag&&sz==1)<;>(unfold ob at gV;simp only [SQ] at gV;cases gV)
 |al t d sz i z ag=>cases SQ:(!ag&&sz==1)<;>(unfold ob at gV;simp only [SQ] at gV;cases gV)
 |st t x v b off nd sz bs e ag=>
  cases SQ:(!ag&&sz==1)<;>cases agL:(off==0&&sz==bs)<;>(unfold ob at gV;simp only [SQ,agL] at gV;cases gV)
theorem Ie (h:fm pl ds cs env X w0 a w) {o:Oper} {j gs g:Nat} {want:Bool} (hg:o.guard=some (j,want)) (mm:(ops[j]?).bind (·.dst)=some gs)
  (hv:valOf pl cs (.tmp gs)=some (.t g)):cf o (yielded ops a.tmps)=mX (env g) want:=by
 have ht:a.tmps[gs]? =some (env g):=by
  simp only [valOf] at hv
  split at hv
  ·rename_i gV
   injection hv with hv
   injection hv with hv
   subst hv
   exact h.nS _ gV
  ·have:=h.sig _ (y7 hv)
   simpa [Ex.ev] using this
 unfold cf yielded
 simp only [hg,mm,dv,ht,mX]
 cases env g<;>simp
theorem ads {m:Bool} {o:Oper} {r:CR} (hc:zD P pl cs ops m o=some r) (iq:r.fl=true) (h:fm pl ds cs env X w0 a w) (hd:gO P iX next r.all env w0 X) (px: ∀b,b∈nq r.l→ ∀p,p∈ds.pins→p.1≠b):
  ∃v dT,(YF P pl r.rb ops o v a w∧ ∀b,b∈r.rb→YL P pl b ops o v a w)∧fm pl ds r.cs dT X w0 (a.put o.dst v) w∧next dT w0 X:=by
 obtain⟨hl,hd⟩:=Ib _ hd
 unfold zD at hc
 split at hc
 ·rename_i hg
  obtain⟨v,dT,h1,h2,h3⟩:=QF (qf hc) h trivial hl iq hd px
  exact⟨v,dT,⟨.inl ⟨by simp [cf,hg],h1.1⟩,fun b hb=>.inl ⟨by simp [cf,hg],h1.2 b hb⟩⟩,h2,h3⟩
 ·rename_i j want hg
  split at hc
  ·cases hc
  ·rename_i gs mm
   split at hc
   ·rename_i g hv
    have hw:=Ie h hg mm hv
    cases sG:Ba P pl cs (some (g,want)) m o with
    |none=>rw [sG] at hc;cases hc
    |some r0=>
     rw [sG] at hc
     simp only [dv] at hc
     obtain⟨e1,e2,e3,e4,e5⟩:=zv hc
     cases hy:mX (env g) want with
     |true=>
      obtain⟨v,dT,h1,h2,h3⟩:=QF (qf sG) h hy (e2▸hl) (e3▸iq) (Nn hc hy hd) (fun b hb=>px b (by rw [Ic hc];exact hb))
      exact⟨v,dT,⟨.inl ⟨by rw [hw,hy],e4▸h1.1⟩,fun b hb=>.inl ⟨by rw [hw,hy],h1.2 b (e4▸hb)⟩⟩,e1▸h2,h3⟩
     |false=>
      obtain⟨dT,h1,h2⟩:=SP (qf sG) hc h (e2▸hl) hy hd px
      exact⟨undef,dT,⟨.inr ⟨by rw [hw,hy],rfl⟩,fun _ _=>.inr ⟨by rw [hw,hy],rfl⟩⟩,h1,h2⟩
   ·cases hc
theorem SR {m:Bool} {o:Oper} {r:CR} (hc:zD P pl cs ops m o=some r) (iq:r.fl=true): ∀x,o.dst=some x→look pl.boxes x=none:=by
 unfold zD at hc
 split at hc
 ·exact QE (qf hc) iq
 ·rename_i j want hg
  split at hc
  ·cases hc
  ·rename_i gs mm
   split at hc
   ·rename_i g hv
    cases sG:Ba P pl cs (some (g,want)) m o with
    |none=>rw [sG] at hc;cases hc
    |some r0=>
     rw [sG] at hc
     simp only [dv] at hc
     exact QE (qf sG) ((zv hc).2.2.1▸iq)
   ·cases hc
theorem adR {m:Bool} {o:Oper} {r:CR} (hc:zD P pl cs ops m o=some r) (iq:r.fl=true): ∀x,o.dst=some x→pl.jM x=true→x∈nq r.l:=by
 unfold zD at hc
 split at hc
 ·exact Nl (qf hc) iq
 ·rename_i j want hg
  split at hc
  ·cases hc
  ·rename_i gs mm
   split at hc
   ·rename_i g hv
    cases sG:Ba P pl cs (some (g,want)) m o with
    |none=>rw [sG] at hc;cases hc
    |some r0=>
     rw [sG] at hc
     simp only [dv] at hc
     rw [Ic hc]
     exact Nl (qf sG) ((zv hc).2.2.1▸iq)
   ·cases hc
theorem fm.apart (h:fm pl ds cs env X w0 a w) {m:Bool} {o:Oper} {r:CR} (hc:zD P pl cs ops m o=some r) (iq:r.fl=true) (hm: ∀b,b∈nq r.l→ ∀p,p∈ds.pins→p.1≠b):
  ∀x,o.dst=some x→ ∀p,p∈ds.pins→p.1≠x:=fun x hx p hp e=>by
 rcases(h.vm p hp).2 with⟨n,_,hn,_⟩|hg
 ·rw [e,SR hc iq x hx] at hn;cases hn
 ·exact hm x (adR hc iq x hx (e▸hg)) p hp e
theorem SS {m:Bool} {o:Oper} {r:CR} (hc:zD P pl cs ops m o=some r) (h:fm pl ds cs env X w0 a w) (hd:gO P iX next r.all env w0 X)
  {K:Act→World→Prop} {Q:Exit→Act→World→Prop}
  (hK: ∀a' w' dT X' fi,fm pl ds r.cs dT X' fi a' w'→next dT fi X'→xg (m=false) pl r.sb a w a' w'→K a' w')
  (px: ∀b,b∈nq r.l→ ∀p,p∈ds.pins→p.1≠b)
  (hQ: ∀ch w' dT X' fi,Kp X' fi w'→xj pl ds dT X' a w'→iX ch dT fi X'→Q (.panic ch) a w'):
  if cf o (yielded ops a.tmps)=true then o.wp P a w K Q else K (a.put o.dst undef) w:=by
 cases iq:r.fl with
 |true=>
  obtain⟨v,dT,hy,h1,h2⟩:=ads hc iq h hd px
  rcases hy.1 with⟨hw,hv⟩|⟨hw,hv⟩
  ·rw [if_pos hw]
   unfold jA
   rw [hv w (Fr.refl _ w)]
   exact hK _ _ _ _ _ h1 h2 ⟨fun _=>oU.refl pl _ a w _ _ (SR hc iq),wj.refl _ _ _ _⟩
  ·rw [if_neg (by rw [hw];simp)]
   subst hv
   exact hK _ _ _ _ _ h1 h2 ⟨fun _=>oU.refl pl _ a w _ _ (SR hc iq),wj.refl _ _ _ _⟩
 |false=>
  obtain⟨hl,hd⟩:=Ib _ hd
  unfold zD at hc
  split at hc
  ·rename_i hg
   rw [if_pos (by simp [cf,hg])]
   exact QG (qf hc) h trivial hl iq hd hK px hQ
  ·rename_i j want hg
   split at hc
   ·cases hc
   ·rename_i gs mm
    split at hc
    ·rename_i g hv
     have hw:=Ie h hg mm hv
     cases sG:Ba P pl cs (some (g,want)) m o with
     |none=>rw [sG] at hc;cases hc
     |some r0=>
      rw [sG] at hc
      simp only [dv] at hc
      obtain⟨e1,e2,e3,e4,e5⟩:=zv hc
      cases hy:mX (env g) want with
      |true=>
       rw [if_pos (by rw [hw,hy])]
       exact QG (qf sG) h hy (e2▸hl) (e3▸iq) (Nn hc hy hd) (e5▸e1▸hK) (fun b hb=>px b (by rw [Ic hc];exact hb)) hQ
      |false=>
       rw [if_neg (by rw [hw,hy];simp)]
       obtain⟨dT,h1,h2⟩:=SP (qf sG) hc h (e2▸hl) hy hd px
       refine hK _ _ _ _ _ h1 h2 ⟨fun _=>?_,wj.refl _ _ _ _⟩
       refine oU.fE (Ext.refl w) fun b n hb k hk nC=>?_
       cases jN:o.dst with
       |none=>rw [jN] at nC;exact nC
       |some x=>
        rw [jN] at nC
        by_cases iH:b=x
        ·subst iH
         by_cases dh:b<a.tmps.size
         ·rw [nI _ _ _ _ dh,if_pos rfl] at nC;cases nC
         ·rw [nR (by simp [my];omega)] at nC;cases nC
        ·rwa [fS _ _ _ _ iH] at nC
    ·cases hc
theorem D3 {Q:Exit→Act→World→Prop} (hN: ∀nJ a' w' dT X' fi,fm pl ds nJ dT X' fi a' w'→next dT fi X'→Q .normal a' w')
  (hQ: ∀ch a' w' dT X' fi,a'.defers=ds.ds→Kp X' fi w'→xj pl ds dT X' a' w'→iX ch dT fi X'→Q (.panic ch) a' w'): ∀(l:List Oper) (cs:CS) (tl:List TI) (env:Env) (X:XS) (w0:World) (a:Act) (w:World),
  Bx P pl ops l cs=some tl→(∀b,b∈nq tl→ ∀p,p∈ds.pins→p.1≠b)→fm pl ds cs env X w0 a w→gO P iX next tl env w0 X→wpList P ops Q l a w
 |[],cs,tl,env,X,w0,a,w,hc,_,h,hd=>by
  simp only [Bx,aC] at hc
  subst hc
  exact hN _ _ _ _ _ _ h hd
 |o::l,cs,tl,env,X,w0,a,w,hc,hm,h,hd=>by
  simp only [Bx] at hc
  cases hr:zD P pl cs ops true o with
  |none=>simp [hr] at hc
  |some r=>
   cases hs:Bx P pl ops l r.cs with
   |none=>simp [hr,hs] at hc
   |some No=>
    simp only [hr,hs,bN,aC] at hc
    subst hc
    rw [zu] at hd
    rw [xk,Pk] at hm
    refine wpList_step fun K hK=>SS hr h hd (fun a' w' dT X' fi h1 h2 _=>hK _ _ (D3 hN hQ l r.cs No dT X' fi a' w' hs (fun b hb=>hm b (dX _ hb)) h1 h2)) (fun b hb=>hm b (bU _ hb)) ?_
    exact fun ch w' dT X' fi hx Bz hp=>hQ ch a w' dT X' fi h.defers hx Bz hp
theorem BC {ct:Array Bool} : ∀{l:List Nat} {i:Nat} {r:CR},Bq P pl ops cs ct l=some (i,r)→
  i∈l∧r.fl=true∧Kb pl ops ct i r.rb=true∧ ∃o,ops[i]? =some o∧zD P pl cs ops (rQ pl ops i) o=some r
 |[],_,_,h=>by cases h
 |j::l,i,r,h=>by
  simp only [Bq] at h
  split at h
  ·rename_i x hx
   split at h
   ·rename_i hc
    simp only [aC,dB] at h
    obtain⟨rfl,rfl⟩:=h
    simp only [aG] at hc
    cases ho:ops[j]? with
    |none=>simp [ho] at hx
    |some o=>
     simp only [ho,dv] at hx
     exact⟨ll ..,hc.1,hc.2,o,rfl,hx⟩
   ·obtain⟨h1,h2⟩:=BC h
    exact⟨bm _ h1,h2⟩
  ·obtain⟨h1,h2⟩:=BC h
   exact⟨bm _ h1,h2⟩
theorem Ll {o:Oper} {b:Nat×Nat×Bool×Value} (h:Fi P pl o=some b) (m:Bool):zD P pl cs ops m o=some ⟨false,[],[xf b],uo cs b.1,[],[]⟩:=by
 unfold Fi at h
 split at h
 ·rename_i t d hg yw hd
  split at h
  ·rename_i sz z ag s h1 h2 h3
   split at h
   ·rename_i hc
    simp only [aC] at h
    subst h
    simp only [zD,hg,Ba,yw,hd,h1,h2,SF,h3,hc,if_true,xf,uo]
   ·cases h
  ·cases h
 ·cases h
theorem abw (env:Env) {d d':Nat} (h:d≠d') (v v':Value):lM (lM env d v) d' v'=lM (lM env d' v') d v:=by
 funext s
 by_cases h1:s=d
 ·subst h1;rw [gY _ _ h,kS,kS]
 ·by_cases h2:s=d'
  ·subst h2;rw [kS,gY _ _ (Ne.symm h),kS]
  ·rw [gY _ _ h2,gY _ _ h1,gY _ _ h1,gY _ _ h2]
theorem aad {b b':Nat×Nat×Bool×Value} (dr:b.1≠b'.1) {l:List TI} (h:gO P iX next (xf b::xf b'::l) env w0 X):gO P iX next (xf b'::xf b::l) env w0 X:=by
 obtain⟨d,n,o,z⟩:=b
 obtain⟨d',n',o',z'⟩:=b'
 have dr:d≠d':=dr
 cases o<;>cases o'<;>simp only [xf,gO,SD,Ex.ev,dF,if_true,if_false,bA] at h⊢ <;>obtain⟨h1,h2,h3⟩:=h<;>exact⟨h2,h1,by rw [abw _ dr.symm];exact h3⟩
theorem Yl {d d':Nat} {dT:Env} {X':XS} {fi:World} {a':Act} {w':World} (h:fm pl ds (uo (uo cs d') d) dT X' fi a' w'):fm pl ds (uo (uo cs d) d') dT X' fi a' w':=by
 refine⟨h.size,h.defers,h.vm,h.ext,h.tC,h.nS,fun p hp=>h.sig p ?_,h.box,h.inj,h.conv,fun b hb=>h.live b ?_,fun p hp=>h.ptr p ?_⟩
 ·simp only [uo,CS.kill,CS.lz,gI] at hp⊢
  exact⟨⟨hp.1.1,hp.2⟩,hp.1.2⟩
 ·simp only [uo,CS.kill,CS.lz,jV,bo] at hb⊢
  rcases hb with h|h|h
  ·exact .inr (.inl h)
  ·exact .inl h
  ·exact .inr (.inr h)
 ·simp only [uo,CS.kill,CS.lz,gI] at hp⊢
  exact⟨⟨hp.1.1,hp.2⟩,hp.1.2⟩
theorem W9 {l:List Nat} {i:Nat} (h:Yi l i=true):l=[i]:=by
 unfold Yi at h
 split at h
 ·rw [beq_iff_eq.1 h]
 ·cases h
theorem SU {i:Nat} {o:Oper} {r:CR} {Q:Exit→Act→World→Prop} (ho:ops[i]? =some o) (hx:zD P pl cs ops (rQ pl ops i) o=some r) (hsb:r.sb=[]) (h:fm pl ds cs env X w0 a w) (hd:gO P iX next r.all env w0 X) {ct:Array Bool} {fuel:Nat}
  (px: ∀b,b∈nq r.l→ ∀p,p∈ds.pins→p.1≠b)
  (hQ: ∀ch a' w' dT X' fi,a'.defers=ds.ds→Kp X' fi w'→xj pl ds dT X' a' w'→iX ch dT fi X'→Q (.panic ch) a' w')
  (hK: ∀a' w' dT X' fi,fm pl ds r.cs dT X' fi a' w'→next dT fi X'→vi P pl ops Q fuel (ct.setIfInBounds i true) a' w'):
  wpOp P ops Q i (fun a' w'=>(∀o,ops[i]? =some o→xg (rQ pl ops i=false) pl (y6 pl ops o) a w a' w')∧vi P pl ops Q fuel (ct.setIfInBounds i true) a' w') a w:=by
 have BD:=SS (ops:=ops) (K:=fun a' w'=>(∀o',ops[i]? =some o'→xg (rQ pl ops i=false) pl (y6 pl ops o') a w a' w')∧vi P pl ops Q fuel (ct.setIfInBounds i true) a' w') (Q:=Q) hx h hd
  (fun a' w' dT X' fi h1 h2 h3=>⟨fun o' Ig=>⟨fun BE=>(h3.1 BE).sub fun b hb=>(by rw [hsb] at hb;cases hb),h3.2.sub fun b hb=>(by rw [hsb] at hb;cases hb)⟩,hK a' w' dT X' fi h1 h2⟩)
  px (fun ch w' dT X' fi hk Bz hp=>hQ ch a w' dT X' fi h.defers hk Bz hp)
 unfold wpOp
 simp only [ho] at BD⊢
 split
 ·rename_i hw
  rw [if_pos hw] at BD
  exact .inl BD
 ·rename_i hw
  rw [if_neg hw] at BD
  exact BD
theorem D4 {Q:Exit→Act→World→Prop} (hN: ∀nJ a' w' dT X' fi,fm pl ds nJ dT X' fi a' w'→next dT fi X'→Q .normal a' w')
  (hQ: ∀ch a' w' dT X' fi,a'.defers=ds.ds→Kp X' fi w'→xj pl ds dT X' a' w'→iX ch dT fi X'→Q (.panic ch) a' w')
  (hQi: ∀c a (d:Option Nat) v w,(∀x,d=some x→ ∀p,p∈ds.pins→p.1≠x)→Q (.panic c) (a.put d v) w→Q (.panic c) a w) (H5:yu ops=true):
  ∀(fuel:Nat) (ct:Array Bool) (cs:CS) (tl:List TI) (env:Env) (X:XS) (w0:World) (a:Act) (w:World),
  tc P pl ops fuel ct cs=some tl→(∀b,b∈nq tl→ ∀p,p∈ds.pins→p.1≠b)→fm pl ds cs env X w0 a w→gO P iX next tl env w0 X→vi P pl ops Q fuel ct a w
 |0,ct,cs,tl,env,X,w0,a,w,hc,_,h,hd=>by
  simp only [tc] at hc
  split at hc
  ·rename_i hr
   simp only [aC] at hc
   subst hc
   exact⟨by simpa using hr,hN _ _ _ _ _ _ h hd⟩
  ·cases hc
 |fuel+1,ct,cs,tl,env,X,w0,a,w,hc,hm,h,hd=>by
  simp only [tc] at hc
  split at hc
  ·rename_i i r hf
   obtain⟨h1,h2,h3,o,ho,h4⟩:=BC hf
   cases hs:tc P pl ops fuel (ct.setIfInBounds i true) r.cs with
   |none=>simp [hs] at hc
   |some No=>
    simp only [hs,bN,aC] at hc
    subst hc
    rw [zu] at hd
    rw [xk,Pk] at hm
    obtain⟨v,dT,hy,hS,hn⟩:=ads h4 h2 h hd (fun b hb=>hm b (bU _ hb))
    have Xa: ∀j oj,ops[j]? =some oj→j≠i→ct.getD j true=false→ ¬(j∈H4 ops ct i∨j=i∨(ct.getD j true=false∧ ∃oj,ops[j]? =some oj∧waits oj i=true))→_:=
     fun j oj hj dr Lf m4=>Yj ho h3 j oj hj dr Lf (fun hb=>m4 (.inl hb)) (by
      cases hw:waits oj i with
      |false=>rfl
      |true=>exact absurd (.inr (.inr ⟨Lf,oj,hj,hw⟩)) m4)
    obtain⟨Y,Le,hY,ix⟩: ∃Y:Act→World→Prop,(∀a w,Y a w→Yx P ops o v a w)∧Y a w∧ ∀j oj,oj.dst=oj.dst→o.apart ops oj=true→(rQ pl ops j=false∨Bb o=true∨ZY o r.rb=true)→(∀b,b∈y6 pl ops oj→ ¬b∈r.rb)→
      W5 pl ops o oj (rQ pl ops j=false) (y6 pl ops oj) Y:=by
     cases BE:ZY o r.rb with
     |false=>exact⟨YF P pl r.rb ops o v,fun _ _ h=>h.yx,hy.1,fun j oj _ _ h4 h5=>YF.stb (h4.imp id fun h=>h.elim id fun h=>by cases h) h5⟩
     |true=>
      unfold ZY at BE
      split at BE
      ·rename_i t x yw
       have hxr:x∈r.rb:=by simpa using BE
       refine⟨YL P pl x ops o v,fun _ _ h=>h.yx,hy.2 x hxr,fun j oj _ vj _ h5=>YL.stb (fun d hd hdx=>?_) fun hm=>h5 x hm hxr⟩
       subst hdx
       refine(yv vj).2.2 d hd (bU _ (List.mem_filterMap.2 ⟨.tmp d,?_,rfl⟩))
       simp [yw,Op.operands]
      ·cases BE
    refine SK Le ho (Region.noSelect_spec H5) (Z7 ho h3) (fun c a' w' hq=>hQi c a' o.dst v w' (h.apart h4 h2 fun b hb=>hm b (bU _ hb)) hq) fuel ct a w
     (fun j=>j∈H4 ops ct i∨j=i∨(ct.getD j true=false∧ ∃oj,ops[j]? =some oj∧waits oj i=true)) (.inr (.inl rfl)) (fun j hj=>?_)
     (fun j oj hj dr Lf m4=>have h:=Xa j oj hj dr Lf m4;⟨h.1,ix j oj rfl h.1 h.2.1 h.2.2⟩) h1 hY ?_
    ·rcases hj with hj|rfl|⟨hu,oj,CA,hw⟩
     ·rcases Z6 j hj with h|⟨h,oj,k,q1,q2,q3⟩
      ·exact .inl h
      ·exact .inr ⟨h,oj,k,q1,q2,.inl q3⟩
     ·exact .inl rfl
     ·exact .inr ⟨hu,oj,i,CA,hw,.inr (.inl rfl)⟩
    exact D4 hN hQ hQi H5 fuel _ r.cs No dT X w0 _ w hs (fun b hb=>hm b (dX _ hb)) hS hn
  ·split at hc
   ·rename_i i hr
    split at hc
    ·rename_i o ho
     split at hc
     ·rename_i r hx
      split at hc
      ·rename_i hsb
       cases hs:tc P pl ops fuel (ct.setIfInBounds i true) r.cs with
       |none=>simp [hs] at hc
       |some No=>
        simp only [hs,bN,aC] at hc
        subst hc
        rw [zu] at hd
        rw [xk,Pk] at hm
        refine⟨fun h0=>(by rw [hr] at h0;cases h0),fun i' D5=>?_⟩
        rw [hr] at D5
        have hii:=List.mem_singleton.1 D5
        subst hii
        have pC: ∀b,b∈r.sb→b∈y6 pl ops o:=fun b hb=>by have:=List.all_eq_true.1 hsb b hb;simpa using this
        have BD:=SS (ops:=ops) (K:=fun a' w'=>(∀o',ops[i']? =some o'→xg (rQ pl ops i'=false) pl (y6 pl ops o') a w a' w')∧vi P pl ops Q fuel (ct.setIfInBounds i' true) a' w') (Q:=Q) hx h hd
         (fun a' w' dT X' fi h1 h2 h3=>⟨fun o' Ig=>by rw [ho] at Ig;injection Ig with Ig;subst Ig;exact⟨fun BE=>(h3.1 BE).sub pC,h3.2.sub pC⟩,D4 hN hQ hQi H5 fuel _ r.cs No dT X' fi a' w' hs (fun b hb=>hm b (dX _ hb)) h1 h2⟩)
         (fun b hb=>hm b (bU _ hb)) (fun ch w' dT X' fi hk Bz hp=>hQ ch a w' dT X' fi h.defers hk Bz hp)
        unfold wpOp
        simp only [ho] at BD⊢
        split
        ·rename_i hw
         rw [if_pos hw] at BD
         exact .inl BD
        ·rename_i hw
         rw [if_neg hw] at BD
         exact BD
      ·cases hc
     ·cases hc
    ·cases hc
   ·rename_i i j hr
    split at hc
    ·rename_i bi hp
     cases hs:tc P pl ops fuel (ct.setIfInBounds i true) (uo cs bi.1)with
     |none=>simp [hs] at hc
     |some No=>
      simp only [hs,bN,aC] at hc
      subst hc
      have hmc: ∀(i:TI) (l:List TI),nq (i::l)=nq [i]++nq l:=fun i l=>xk [i] l
      rw [hmc] at hm
      unfold ado at hp
      split at hp
      ·rename_i bi' bj SV hbj
       split at hp
       ·rename_i hpc
        simp only [aC] at hp
        subst hp
        simp only [aG,bW,beq_eq_false_iff_ne] at hpc
        obtain⟨⟨dr,hri⟩,hrj⟩:=hpc
        replace hri:=W9 hri
        replace hrj:=W9 hrj
        obtain⟨oi,hoi,hai⟩:=Option.bind_eq_some_iff.1 SV
        obtain⟨oj,CA,haj⟩:=Option.bind_eq_some_iff.1 hbj
        have hci:=fun (cs:CS) (m:Bool)=>Ll (cs:=cs) (ops:=ops) hai m
        have hcj:=fun (cs:CS) (m:Bool)=>Ll (cs:=cs) (ops:=ops) haj m
        refine⟨fun h0=>(by rw [hr] at h0;cases h0),fun i' D5=>?_⟩
        rw [hr] at D5
        rcases List.mem_cons.1 D5 with rfl|D5
        ·exact SU hoi (hci cs _) rfl h (hd:gO P iX (gO P iX next No) [xf bi'] env w0 X) (fun b hb=>hm b (bU _ hb)) hQ fun a' w' dT X' fi h1 h2=>D4 hN hQ hQi H5 fuel _ _ No dT X' fi a' w' hs (fun b hb=>hm b (dX _ hb)) h1 h2
        ·have GV:=List.mem_singleton.1 D5
         subst GV
         cases fuel with
         |zero=>
          simp only [tc,hri] at hs
          cases hs
         |succ f=>
          simp only [tc,hri,Bq,CA,dv,hcj,Bool.false_and,bA,if_false,List.all_nil,if_true] at hs
          cases b6:tc P pl ops f ((ct.setIfInBounds i true).setIfInBounds i' true) (uo (uo cs bi'.1) bj.1)with
          |none=>simp [b6] at hs
          |some SW=>
           simp only [b6,bN,aC] at hs
           have htl:xf bj::SW=No:=hs
           subst htl
           rw [hmc (xf bj) SW] at hm
           have pO:=aad dr hd
           refine SU CA (hcj cs _) rfl h (pO:gO P iX (gO P iX next (xf bi'::SW)) [xf bj] env w0 X) (fun b hb=>hm b (dX _ (bU _ hb))) hQ fun a' w' dT X' fi h1 h2=>?_
           refine⟨fun h0=>(by rw [hrj] at h0;cases h0),fun k hk=>?_⟩
           rw [hrj] at hk
           have hki:=List.mem_singleton.1 hk
           subst hki
           refine SU hoi (hci _ _) rfl h1 (h2:gO P iX (gO P iX next SW) [xf bi'] dT fi X') (fun b hb=>hm b (bU _ hb)) hQ fun a'' kW agM s9 BF h3 h4=>?_
           have hkj:k≠i':=fun e=>by
            subst e
            rw [hoi] at CA;cases CA
            rw [hai] at haj;cases haj
            exact dr rfl
           rw [qQ _ _ hkj.symm]
           exact D4 hN hQ hQi H5 f _ _ SW agM s9 BF a'' kW b6 (fun b hb=>hm b (dX _ (dX _ hb))) (Yl h3) h4
       ·cases hp
      ·cases hp
    ·cases hc
   ·cases hc
end
section
variable {P : Program}
theorem BG {X:XS} {w w':World} : ∀k,X k→grow X w w' k:=fun _ h=>.inl h
theorem QH {m:Bool} {X:XS} {w:World} {n n':Value→World→XS→Prop} {p p':List PanicEntry→World→XS→Prop} {r:Result Next} (h:kh P m X w n p r)
  (hn: ∀v w' X',(∀k,X k→X' k)→n v w' X'→n' v w' X') (hp: ∀c w' X',(∀k,X k→X' k)→p c w' X'→p' c w' X'):kh P m X w n' p' r:=by
 cases r with
 |ok x w'=>
  cases x<;>simp only [kh] at h⊢
  case value v=>exact⟨h.1,hn _ _ _ BG h.2⟩
  case skip=>exact⟨h.1,hn _ _ _ BG h.2⟩
  case enter f args=>
   refine⟨h.1,h.2.mono fun e kW he=>?_⟩
   cases e with
   |returned v=>exact⟨he.1,hn _ _ _ BG he.2⟩
   |panicked c=>exact⟨he.1,hp _ _ _ BG he.2⟩
   |outgrown=>exact he
 |halt x w'=>
  cases x<;>simp only [kh] at h⊢
  case panic v=>exact⟨h.1,hp _ _ _ BG h.2⟩
theorem adS {env:Env} {d s:Nat} {v:Value} (h: ¬s=d):lM env d v s=env s:=gY _ _ h
theorem abx {env:Env} {d:Option Nat} {s:Nat} {v:Value} (h: ¬s∈d.toList):H3 env d v s=env s:=by
 cases d with
 |none=>rfl
 |some d=>exact gY _ _ (by simpa using h)
theorem Np: ∀(l:List TI) {iX Mc:List PanicEntry→Env→World→XS→Prop} {next next':Env→World→XS→Prop} {env:Env} {w:World} {X:XS},
  gO P iX next l env w X→
  (∀e w' X',(∀k,X k→X' k)→(∀s,¬s∈l.flatMap TI.wr→e s=env s)→next e w' X'→next' e w' X')→
  (∀c e w' X',(∀k,X k→X' k)→(∀s,¬s∈l.flatMap TI.wr→e s=env s)→iX c e w' X'→Mc c e w' X')→gO P Mc next' l env w X
 |[],_,_,_,_,_,_,_,h,hn,_=>hn _ _ _ (fun _ h=>h) (fun _ _=>rfl) h
 |i::l,iX,Mc,next,next',env,w,X,h,hn,hp=>by
  have step: ∀(sT:Env) (w1:World) (X1:XS),(∀k,X k→X1 k)→(∀s,¬s∈i.wr→sT s=env s)→gO P iX next l sT w1 X1→gO P Mc next' l sT w1 X1:=by
   intro sT w1 X1 Ih Nq h1
   refine Np l h1 (fun e w' X' hX he hq=>hn e w' X' (fun k hk=>hX k (Ih k hk)) (fun s hs=>?_) hq) (fun c e w' X' hX he hq=>hp c e w' X' (fun k hk=>hX k (Ih k hk)) (fun s hs=>?_) hq)
   ·simp only [qL,jV,not_or] at hs
    rw [he s hs.2,Nq s hs.1]
   ·simp only [qL,jV,not_or] at hs
    rw [he s hs.2,Nq s hs.1]
  have pst: ∀c w1 X1,(∀k,X k→X1 k)→iX c env w1 X1→Mc c env w1 X1:=fun c w1 X1 Ih hq=>hp c env w1 X1 Ih (fun _ _=>rfl) hq
  have eo: ∀(d:Nat) (v:Value) (w1:World) (X1:XS),i.wr=[d]→(∀k,X k→X1 k)→gO P iX next l (lM env d v) w1 X1→gO P Mc next' l (lM env d v) w1 X1:=
   fun d v w1 X1 hw Ih h1=>step _ _ _ Ih (fun s hs=>adS (by rw [hw] at hs;simpa using hs)) h1
  have stO: ∀(d:Option Nat) (v:Value) (w1:World) (X1:XS),i.wr=d.toList→(∀k,X k→X1 k)→gO P iX next l (H3 env d v) w1 X1→gO P Mc next' l (H3 env d v) w1 X1:=
   fun d v w1 X1 hw Ih h1=>step _ _ _ Ih (fun s hs=>abx (by rw [hw] at hs;exact hs)) h1
  cases i with
  |Dq b=>exact dF.2 ⟨(dF.1 h).1,step _ _ _ (fun _ h=>h) (fun _ _=>rfl) (dF.1 h).2⟩
  |set d e=>exact eo d _ _ _ rfl (fun _ h=>h) h
  |box b n e=>exact dF.2 ⟨(dF.1 h).1,eo b _ _ _ rfl (fun _ h=>h) (dF.1 h).2⟩
  |put b off n e=>
   have h2:=dF.1 (dF.1 h).2
   exact dF.2 ⟨(dF.1 h).1,dF.2 ⟨h2.1,eo b _ _ _ rfl (fun _ h=>h) h2.2⟩⟩
  |xe b e=>exact dF.2 ⟨(dF.1 h).1,eo b _ _ _ rfl (fun _ h=>h) (dF.1 h).2⟩
  |SA b off e=>exact dF.2 ⟨(dF.1 h).1,eo b _ _ _ rfl (fun _ h=>h) (dF.1 h).2⟩
  |fill b n e=>
   have h2:=dF.1 (dF.1 h).2
   exact dF.2 ⟨(dF.1 h).1,dF.2 ⟨h2.1,eo b _ _ _ rfl (fun _ h=>h) h2.2⟩⟩
  |rd d op ty ss=>
   obtain⟨v,h1,h2⟩:=h
   exact⟨v,h1,eo d _ _ _ rfl (fun _ h=>h) h2⟩
  |Av d op ty ss m=>exact fun wa xi=>QH (h wa xi) (fun v w' X' hX hq=>stO d v w' X' rfl hX hq) (fun c w' X' hX hq=>pst c w' X' hX hq)
  |SB g want d e=>exact eo d _ _ _ rfl (fun _ h=>h) h
  |ZX g want d op ty ss=>
   obtain⟨v,h1,h2,h3⟩:=h
   exact⟨v,h1,h2,eo d _ _ _ rfl (fun _ h=>h) h3⟩
  |SC g want d op ty ss m=>
   exact⟨fun hg wa xi=>QH (h.1 hg wa xi) (fun v w' X' hX hq=>stO d v w' X' rfl hX hq) (fun c w' X' hX hq=>pst c w' X' hX hq),fun hg=>stO d _ _ _ rfl (fun _ h=>h) (h.2 hg)⟩
theorem SX {M:List Nat} {e env:Env} {s:Nat} (h:s∈M):merge M e env s=e s:=by simp [merge,wJ.2 h]
theorem CB {M:List Nat} {e env:Env} {s:Nat} (h: ¬s∈M):merge M e env s=env s:=by
 have:Bw M s=false:=by
  cases hx:Bw M s with
  |false=>rfl
  |true=>exact absurd (wJ.1 hx) h
 simp [merge,this]
theorem oK: ∀(t:T) {K K':oT} {env:Env} {w:World} {X:XS},den P t K env w X→
  (∀ex e w' X',(∀k,X k→X' k)→(∀s,¬s∈t.wr→e s=env s)→K ex e w' X'→K' ex e w' X')→den P t K' env w X
 | .DW l,K,K',env,w,X,h,hk=>Np l h (fun e w' X' hX he hq=>hk _ e w' X' hX he hq) (fun c e w' X' hX he hq=>hk _ e w' X' hX he hq)
 | .seq a b,K,K',env,w,X,h,hk=>by
  refine oK a (K:=oT.W4 (fun e w X=>den P b K e w X) K) h fun ex e w' X' hX he hq=>?_
  have xl: ∀s,¬s∈(T.seq a b).wr→e s=env s:=fun s hs=>he s (fun hc=>hs (bU _ hc))
  cases ex with
  |normal=>
   refine oK b (K:=K) hq fun ex2 e2 w2 X2 hX2 Nr Ns=>hk ex2 e2 w2 X2 (fun k hk=>hX2 k (hX k hk)) (fun s hs=>?_) Ns
   rw [Nr s (fun hc=>hs (dX _ hc)),xl s hs]
  |exit i=>exact hk _ e w' X' hX xl hq
  |goto i=>exact hk _ e w' X' hX xl hq
  |ret=>exact hk _ e w' X' hX xl hq
  |panic c=>exact hk _ e w' X' hX xl hq
  |outgrown=>exact hk _ e w' X' hX xl hq
 | .ite c a b,K,K',env,w,X,h,hk=>by
  simp only [den,ao] at h⊢
  split at h
  ·refine⟨fun ht=>oK a (h.1 ht) fun ex e w' X' hX he hq=>hk ex e w' X' hX (fun s hs=>he s (fun hc=>hs (bU _ hc))) hq,
    fun ht=>oK b (h.2 ht) fun ex e w' X' hX he hq=>hk ex e w' X' hX (fun s hs=>he s (fun hc=>hs (dX _ hc))) hq⟩
  ·exact h
 | .jw id a,K,K',env,w,X,h,hk=>by
  refine oK a (K:=oT.jw id K) h fun ex e w' X' hX he hq=>?_
  cases ex with
  |exit i=>
   simp only [oT.jw] at hq⊢
   split
   ·rename_i hi;rw [if_pos hi] at hq;exact hk _ e w' X' hX he hq
   ·rename_i hi;rw [if_neg hi] at hq;exact hk _ e w' X' hX he hq
  |normal=>exact hk _ e w' X' hX he hq
  |goto i=>exact hk _ e w' X' hX he hq
  |ret=>exact hk _ e w' X' hX he hq
  |panic c=>exact hk _ e w' X' hX he hq
  |outgrown=>exact hk _ e w' X' hX he hq
 | .loop M C a,K,K',env,w,X,h,hk=>by
  obtain⟨J,h0,hJ⟩:=h
  refine⟨J,h0,fun n e w' X' hX hj=>?_⟩
  refine oK a (K:=oT.W4 (fun e' kW s9=> ∃m,m<n∧J m (C.map e') kW s9) K) (hJ n e w' X' hX hj) fun ex e2 w2 X2 hX2 Nr hq=>?_
  have pC: ∀k,X k→X2 k:=fun k hk=>hX2 k (hX k hk)
  have xl: ∀s,¬s∈(T.loop M C a).wr→e2 s=env s:=fun s hs=>by
   simp only [T.wr,jV,not_or] at hs
   rw [Nr s hs.2]
   exact CB hs.1
  cases ex with
  |normal=>exact hq
  |exit i=>exact hk _ e2 w2 X2 pC xl hq
  |goto i=>exact hk _ e2 w2 X2 pC xl hq
  |ret=>exact hk _ e2 w2 X2 pC xl hq
  |panic c=>exact hk _ e2 w2 X2 pC xl hq
  |outgrown=>exact hk _ e2 w2 X2 pC xl hq
 | .exit id,K,K',env,w,X,h,hk=>hk _ _ _ _ (fun _ h=>h) (fun _ _=>rfl) h
 | .ret,K,K',env,w,X,h,hk=>hk _ _ _ _ (fun _ h=>h) (fun _ _=>rfl) h
 | .skip,K,K',env,w,X,h,hk=>hk _ _ _ _ (fun _ h=>h) (fun _ _=>rfl) h
theorem aby {Q:Exit→Act→World→Prop} {a:Act} {w:World} {c:Code} (I:Nat→Act→World→Prop) (h₀: ∃n,I n a w)
  (round: ∀n a w,I n a w→c.wp P (Exit.then (fun a' w'=> ∃m,m<n∧I m a' w') Q) a w):(Code.loop c).wp P Q a w:=by
 intro b k cs
 have key: ∀n a w,I n a w→ ∃e a' w',Q e a' w'∧Arrives P (lone (b.at a (.code c:: .inLoop c::k)) cs w) b k cs e a' w':=by
  intro n
  induction n using Nat.strongRecOn with
  |_ n ih=>
   intro a w hI
   obtain⟨e,a₁,w₁,hq,Ii⟩:=round n a w hI b (.inLoop c::k) cs
   cases e with
   |normal=>
    obtain⟨m,dh,hI₁⟩:=hq
    obtain⟨e₂,a₂,w₂,hq₂,harr₂⟩:=ih m dh a₁ w₁ hI₁
    exact⟨e₂,a₂,w₂,hq₂,.of_steps (Steps.trans Ii (.one step_inLoop)) harr₂⟩
   |exit id=>exact⟨_,a₁,w₁,hq,.pass (x:=.inLoop c) rfl (fun _ _=>.inl (by simp)) Ii⟩
   |goto l=>exact⟨_,a₁,w₁,hq,.pass (x:=.inLoop c) rfl (fun _ _=>.inl (by simp)) Ii⟩
   |ret=>exact⟨_,a₁,w₁,hq,.pass (x:=.inLoop c) rfl (fun _ _=>.inl (by simp)) Ii⟩
   |panic ch=>exact⟨_,a₁,w₁,hq,.pass (x:=.inLoop c) rfl (fun _ _=>.inl (by simp)) Ii⟩
   |outgrown=>exact⟨_,a₁,w₁,hq,.pass (x:=.inLoop c) rfl (fun _ _=>.inl (by simp)) Ii⟩
 obtain⟨n,h₀⟩:=h₀
 obtain⟨e,a',w',hq,Ii⟩:=key n a w h₀
 exact⟨e,a',w',hq,.of_steps (.one step_loop) Ii⟩
end
def QP (pl:bI) (ds:Bk) (K:oT):Exit→Act→World→Prop
 | .panic ch,a,w=>a.defers=ds.ds∧ ∃env X w0,Kp X w0 w∧K (.panic ch) env w0 X∧xj pl ds env X a w
 | .outgrown,_,_=>False
 |e,a,w=> ∃env X w0,fm pl ds .start env X w0 a w∧K e env w0 X
section
variable {P : Program} {pl : bI} {ds : Bk}
theorem fm.drop {cs:CS} {env:Env} {X:XS} {w0 w:World} {a:Act} (h:fm pl ds cs env X w0 a w):fm pl ds .start env X w0 a w:=
 { h with sig:=fun _ hp=>(by cases hp),live:=fun _ hp=>(by cases hp),ptr:=fun _ hp=>(by cases hp) }
theorem Nt: ∀(l acc:List Nat) (s:Nat),(s∈l∨s∈acc)→s∈qS l acc
 |[],acc,s,h=>h.elim (fun h=>by cases h) id
 |x::r,acc,s,h=>by
  simp only [qS]
  refine Nt r _ s ?_
  rcases h with h|h
  ·rcases List.mem_cons.1 h with rfl|h
   ·right
    split
    ·rename_i hc;simpa using hc
    ·exact ll ..
   ·exact .inl h
  ·right
   split
   ·exact h
   ·exact bm _ h
theorem QP.mono {K K':oT} (h: ∀ex e w X,K ex e w X→K' ex e w X) (ex:Exit) (a:Act) (w:World) (hq:QP pl ds K ex a w):QP pl ds K' ex a w:=by
 cases ex<;>simp only [QP] at hq⊢
 case panic ch=>obtain⟨h1,env,X,w0,h2,h3,h4⟩:=hq;exact⟨h1,env,X,w0,h2,h _ _ _ _ h3,h4⟩
 all_goals (obtain⟨env,X,w0,h2,h3⟩:=hq;exact⟨env,X,w0,h2,h _ _ _ _ h3⟩)
theorem Kd: ∀(c:Code) (t:T) (K:oT) (env:Env) (X:XS) (w0:World) (a:Act) (w:World),
  lA P pl c=some t→(∀b,b∈t.mk→ ∀p,p∈ds.pins→p.1≠b)→fm pl ds .start env X w0 a w→den P t K env w0 X→c.wp P (QP pl ds K) a w:=by
 intro c
 induction c with
 |skip=>
  intro t K env X w0 a w hc hm h hd
  simp only [lA,aC] at hc
  subst hc
  exact wp_skip ⟨env,X,w0,h,hd⟩
 |region id ops draw=>
  intro t K env X w0 a w hc hm h hd
  have hN: ∀nJ a' w' dT X' fi,fm pl ds nJ dT X' fi a' w'→(fun e w X=>K .normal e w X) dT fi X'→QP pl ds K .normal a' w':=
   fun nJ a' w' dT X' fi h1 h2=>⟨dT,X',fi,h1.drop,h2⟩
  have hQ: ∀ch a' w' dT X' fi,a'.defers=ds.ds→Kp X' fi w'→xj pl ds dT X' a' w'→(fun ch=>K (.panic ch)) ch dT fi X'→QP pl ds K (.panic ch) a' w':=
   fun ch a' w' dT X' fi h0 h1 Bz h2=>⟨h0,dT,X',fi,h1,h2,Bz⟩
  simp only [lA] at hc
  split at hc
  ·rename_i Ij
   subst Ij
   split at hc
   ·rename_i SY
    simp only [aG] at SY
    cases hl:tc P pl ops ops.size (ew ops.size false) .start with
    |none=>simp [hl] at hc
    |some tl=>
     simp only [hl,bN,aC] at hc
     subst hc
     refine wp_region_any SY.1 (Ni (pl:=pl) _ _ _ _ ?_)
     refine D4 hN hQ (fun c a d v w hd hq=>?_) SY.2 _ _ _ tl env X w0 _ _ hl hm (h.gK (Ext.drew w)) hd
     obtain⟨h1,e,X',fi,h2,h3,h4⟩:=hq
     exact⟨by cases d<;>exact h1,e,X',fi,h2,h3,h4.put hd⟩
   ·cases hc
  ·rename_i Ij
   simp only [Bool.not_eq_true] at Ij
   subst Ij
   cases hl:Bx P pl ops ops.toList .start with
   |none=>simp [hl] at hc
   |some tl=>
    simp only [hl,bN,aC] at hc
    subst hc
    exact wp_region_list (D3 hN hQ ops.toList .start tl env X w0 a w hl hm h hd)
 |seq x y ihx ihy=>
  intro t K env X w0 a w hc hm h hd
  simp only [lA] at hc
  cases hx:lA P pl x with
  |none=>simp [hx] at hc
  |some tx=>
   cases hy:lA P pl y with
   |none=>simp [hx,hy] at hc
   |some ty=>
    simp only [hx,hy,aC] at hc
    have Lm:den P (.seq tx ty) K env w0 X:=by
     subst hc
     split at hd
     ·exact hd
     ·show den P tx (oT.W4 (fun e w X=>den P .skip K e w X) K) env w0 X
      refine oK tx hd fun ex e w' X' _ _ hq=>?_
      cases ex<;>exact hq
     ·exact hd
    have hmm: ∀b,b∈tx.mk∨b∈ty.mk→ ∀p,p∈ds.pins→p.1≠b:=fun b hb=>hm b (by
     rw [←hc]
     split
     ·exact hb.resolve_left (fun h=>by cases h)
     ·exact hb.resolve_right (fun h=>by cases h)
     ·exact List.mem_append.2 hb)
    refine wp_seq (wp_mono (ihx tx _ env X w0 a w hx (fun b hb=>hmm b (.inl hb)) h Lm) fun ex a' w' hq=>?_)
    cases ex with
    |normal=>
     obtain⟨e,X',fi,h1,h2⟩:=hq
     exact ihy ty K e X' fi a' w' hy (fun b hb=>hmm b (.inr hb)) h1 h2
    |exit i=>exact hq
    |goto i=>exact hq
    |ret=>exact hq
    |panic c=>exact hq
    |outgrown=>exact hq
 |cond c x y ihx ihy=>
  intro t K env X w0 a w hc hm h hd
  simp only [lA] at hc
  cases hv:valOf pl .start c with
  |none=>simp [hv] at hc
  |some e=>
   cases hx:lA P pl x with
   |none=>simp [hv,hx] at hc
   |some tx=>
    cases hy:lA P pl y with
    |none=>simp [hv,hx,hy] at hc
    |some ty=>
     simp only [hv,hx,hy,aC] at hc
     subst hc
     have he:=h.eval hv
     simp only [den,ao] at hd
     split at hd
     ·rename_i b hb
      rw [hb] at he
      exact wp_cond_split he (fun ht=>ihx tx K env X w0 a w hx (fun b hb=>hm b (bU _ hb)) h (hd.1 ht)) (fun ht=>ihy ty K env X w0 a w hy (fun b hb=>hm b (dX _ hb)) h (hd.2 ht))
     ·exact hd.elim
 |block id x ih=>
  intro t K env X w0 a w hc hm h hd
  simp only [lA] at hc
  cases hx:lA P pl x with
  |none=>simp [hx] at hc
  |some tx=>
   simp only [hx,bN,aC] at hc
   subst hc
   refine wp_block (wp_mono (ih tx _ env X w0 a w hx hm h hd) fun ex a' w' hq=>?_)
   cases ex with
   |exit i=>
    obtain⟨e,X',fi,h1,h2⟩:=hq
    simp only [Exit.inBlock,oT.jw] at h2⊢
    split
    ·rename_i hi;rw [if_pos hi] at h2;exact⟨e,X',fi,h1,h2⟩
    ·rename_i hi;rw [if_neg hi] at h2;exact⟨e,X',fi,h1,h2⟩
   |normal=>exact hq
   |goto i=>exact hq
   |ret=>exact hq
   |panic c=>exact hq
   |outgrown=>exact hq
 |loop x ih=>
  intro t K env X w0 a w hc hm h hd
  simp only [lA] at hc
  cases hx:lA P pl x with
  |none=>simp [hx] at hc
  |some tx=>
   simp only [hx,bN,aC] at hc
   subst hc
   obtain⟨J,⟨n0,h0⟩,hJ⟩:=hd
   refine aby (fun n a w=> ∃e X' fi,fm pl ds .start (merge (qS tx.wr []) e env) X' fi a w∧(∀k,X k→X' k)∧J n (((qS tx.wr []).filter (Bw pl.car)).map e) fi X') ⟨n0,env,X,w0,?_,fun _ h=>h,h0⟩ ?_
   ·have:merge (qS tx.wr []) env env=env:=by
     funext s
     by_cases hs:s∈qS tx.wr []
     ·exact SX hs
     ·exact CB hs
    rw [this];exact h
   ·rintro n a w ⟨e,X',fi,h1,h2,h3⟩
    have Ln:=hJ n e fi X' h2 h3
    have pO:=oK tx (K':=fun ex e' kW s9=>oT.W4 (fun e' kW s9=> ∃m,m<n∧J m (((qS tx.wr []).filter (Bw pl.car)).map e') kW s9) K ex e' kW s9∧(∀k,X' k→s9 k)∧ ∀s,¬s∈tx.wr→e' s=merge (qS tx.wr []) e env s) Ln
     fun ex e' w' s9 hX he hq=>⟨hq,hX,he⟩
    refine wp_mono (ih tx _ _ X' fi a w hx hm h1 pO) fun ex a' w' hq=>?_
    cases ex with
    |normal=>
     obtain⟨e',s9,BF,g1,⟨m,hm,g2⟩,g3,g4⟩:=hq
     refine⟨m,hm,e',s9,BF,?_,fun k hk=>g3 k (h2 k hk),g2⟩
     have:merge (qS tx.wr []) e' env=e':=by
      funext s
      by_cases hs:s∈qS tx.wr []
      ·exact SX hs
      ·rw [CB hs,g4 s fun hc=>hs (Nt _ _ _ (.inl hc)),CB hs]
     rw [this];exact g1
    |exit i=>obtain⟨e',s9,BF,g1,g2,_⟩:=hq;exact⟨e',s9,BF,g1,g2⟩
    |goto i=>obtain⟨e',s9,BF,g1,g2,_⟩:=hq;exact⟨e',s9,BF,g1,g2⟩
    |ret=>obtain⟨e',s9,BF,g1,g2,_⟩:=hq;exact⟨e',s9,BF,g1,g2⟩
    |panic c=>obtain⟨g0,e',s9,BF,g1,⟨g2,_⟩,g3⟩:=hq;exact⟨g0,e',s9,BF,g1,g2,g3⟩
    |outgrown=>exact hq
 |exit id=>
  intro t K env X w0 a w hc hm h hd
  simp only [lA,aC] at hc
  subst hc
  exact wp_exit ⟨env,X,w0,h,hd⟩
 |ret=>
  intro t K env X w0 a w hc hm h hd
  simp only [lA,aC] at hc
  subst hc
  exact wp_ret ⟨env,X,w0,h,hd⟩
 |rangeFunc=>intro t K env X w0 a w hc;cases hc
 |scope=>intro t K env X w0 a w hc;cases hc
 |label=>intro t K env X w0 a w hc;cases hc
 |goto=>intro t K env X w0 a w hc;cases hc
 |refuse=>intro t K env X w0 a w hc;cases hc
def Ym (tmps:Array Value):ResultVar→Sem Value
 | .tmp t=>pure (tmps.getD t undef)
 | .cell c t=>do loadVar t (←asAddr (tmps.getD c undef))
theorem SZ {env:Env} {X:XS} {w0 w:World} {a:Act} {cs:CS} (h:fm pl ds cs env X w0 a w): ∀(l:List ResultVar) (es:List Ex) (nd:List Nat),
  By P pl l=some (es,nd)→(∀b,b∈nd→ez (env b)=true)→
  (l.mapM (Ym a.tmps)).run P w=Result.ok (es.map (·.ev env)) w
 |[],es,nd,hc,_=>by
  simp only [By,aC,dB] at hc
  rw [←hc.1]
  rfl
 | .tmp t::r,es,nd,hc,hl=>by
  simp only [By] at hc
  split at hc
  ·rename_i hg
   cases hr:By P pl r with
   |none=>simp [hr] at hc
   |some x=>
    obtain⟨Ay,nd'⟩:=x
    simp only [hr,bN,aC,dB] at hc
    obtain⟨rfl,rfl⟩:=hc
    have ih:=SZ h r Ay nd' hr hl
    simp [List.mapM_cons,Ym,ih,h.nS t hg,Ex.ev]
  ·cases hc
 | .cell c t::r,es,nd,hc,hl=>by
  simp only [By] at hc
  split at hc
  ·rename_i bs ag sz hb ht
   split at hc
   ·rename_i nK
    simp only [aG,decide_eq_true_eq] at nK
    cases hr:By P pl r with
    |none=>simp [hr] at hc
    |some x=>
     obtain⟨Ay,nd'⟩:=x
     simp only [hr,bN,aC,dB] at hc
     obtain⟨rfl,rfl⟩:=hc
     have ih:=SZ h r Ay nd' hr fun b hb=>hl b (bm _ hb)
     obtain⟨cells,D6⟩:=sP.1 (hl c (ll ..))
     obtain⟨k,ty,e1,e2,e3,_⟩:=h.box c bs hb cells D6
     have hld:=Nj ht nK.2 e2 0 (by omega)
     have ahF:(loadVar t ⟨k,0,none⟩).run P w= .ok (if ag then eQ (.agg cells) 0 sz else cellOf (.agg cells) 0) w:=by
      simpa [jJ,lJ,fz] using hld
     have DZ:(if ag then Ex.s c 0 sz else Ex.k c 0).ev env=if ag then eQ (.agg cells) 0 sz else cellOf (.agg cells) 0:=by
      cases ag<;>simp [Ex.ev,D6]
     simp [List.mapM_cons,Ym,ih,e1,fz,asAddr,ahF,DZ]
   ·cases hc
  ·cases hc
theorem Ke {env:Env} {X:XS} {w0 w:World} {a:Act} {cs:CS} (h:fm pl ds cs env X w0 a w) {fn:Func} {es:List Ex} {nd:List Nat}
  (hc:By P pl fn.results.toList=some (es,nd)) (hl: ∀b,b∈nd→ez (env b)=true):(results fn a.tmps).run P w= .ok (SG es env) w:=by
 have hr:=SZ h _ _ _ hc hl
 have hf:results fn a.tmps=(do let vs←fn.results.mapM (Ym a.tmps);pure (if h:vs.size=1 then vs[0] else .tuple vs)):=by
  unfold results
  congr 2
 rw [hf,Array.mapM_eq_mapM_toList]
 simp only [bO,Sem.run_map,hr,bw,ck]
 congr 1
 match es with
 |[]=>rfl
 |[e]=>rfl
 |e::e'::r=>simp [SG]
def Md (P:Program) (o:Option FT) (R:Ending→World→Prop) (args:Array Value) (w:World):Prop:=match o with
 |some ft=>den P ft.code (SH ft R) (mE args) w (aW w)
 |none=>False
theorem S3 {f:FuncId} {fn:Func} {pl:bI} {ft:FT} {args:Array Value} {w:World} {R:Ending→World→Prop} (hf:P.funcs[f]? =some fn)
  (hc:cF P pl fn=some ft) (adt:args.size≤pl.n) (wq:(pl.boxes.all fun p=>decide (args.size≤p.1))=true)
  (h:den P ft.code (SH ft R) (mE args) w (aW w)):Calls P f args w R:=by
 unfold cF at hc
 split at hc
 ·rename_i hn
  have kN:fn.ntmps=pl.n:=by simpa using hn
  split at hc
  ·rename_i c hb
   split at hc
   ·rename_i t r nd agN Ik
    injection hc with hc
    subst hc
    refine calls_of_wp hf hb (wp_mono (Kd (pl:=pl) (ds:=⟨[],[]⟩) c t (SH ⟨t,r,nd⟩ R) (mE args) (aW w) w _ w agN (fun _ _ _ hp=>by cases hp) ?_ h) fun ex a' w' hq=>?_)
    ·have Yn:(args++ew (fn.ntmps-args.size) undef).size=pl.n:=by simp;omega
     have wu: ∀s,s<pl.n→(args++ew (fn.ntmps-args.size) undef)[s]? =some (mE args s):=by
      intro s hs
      rw [jY]
      split
      ·rename_i h1
       simp [mE,ly,h1]
      ·rename_i h1
       rw [jv,if_pos (by omega)]
       simp only [mE,ly]
       rw [jX (by simpa using h1)]
       rfl
     have Il: ∀b n,look pl.boxes b=some n→mE args b=undef:=by
      intro b n hb
      have h1:=List.all_eq_true.1 wq _ (y7 hb)
      simp only [decide_eq_true_eq] at h1
      simp only [mE,ly]
      rw [jX (by simpa using h1)]
      rfl
     exact {
      size:=Yn
      defers:=rfl
      vm:=fun _ hp=>(by cases hp)
      ext:=Kp.refl _ _
      tC:=fun _ hk=>hk
      nS:=fun s hs=>wu s (qe hs).1
      sig:=fun _ hp=>(by cases hp)
      box:=fun b n hb cells hc=>by rw [Il b n hb] at hc;cases hc
      inj:=fun b b' n n' hb gC h1=>by rw [Il b n hb] at h1;cases h1
      conv:=fun b n hb k hk=>by
       have h1:=List.all_eq_true.1 wq _ (y7 hb)
       simp only [decide_eq_true_eq] at h1
       rw [jY,if_neg (by omega),jv] at hk
       split at hk
       ·cases hk
       ·cases hk
      live:=fun _ hp=>(by cases hp)
      ptr:=fun _ hp=>(by cases hp) }
    ·cases ex with
     |normal=>
      obtain⟨e,X',fi,h1,hq⟩:=hq
      obtain⟨h2,h3⟩:=dF.1 hq
      exact⟨h1.defers,_,Ke h1 Ik (List.all_eq_true.1 h2),h3 w' h1.ext⟩
     |ret=>
      obtain⟨e,X',fi,h1,hq⟩:=hq
      obtain⟨h2,h3⟩:=dF.1 hq
      exact⟨h1.defers,_,Ke h1 Ik (List.all_eq_true.1 h2),h3 w' h1.ext⟩
     |panic ch=>
      obtain⟨h0,e,X',fi,h1,h2,_⟩:=hq
      exact⟨h0,h2 w' h1⟩
     |exit i=>obtain⟨e,X',fi,h1,h2⟩:=hq;exact h2
     |goto i=>obtain⟨e,X',fi,h1,h2⟩:=hq;exact h2
     |outgrown=>exact hq.elim
   ·cases hc
  ·cases hc
 ·cases hc
theorem aO {f:FuncId} {fn:Func} {pl:bI} {args:Array Value} {w:World} {R:Ending→World→Prop} {V:Prop} (hf:P.funcs[f]? =some fn)
  (hs:(decide (args.size≤pl.n)&&pl.boxes.all fun p=>decide (args.size≤p.1))=true) (hv:V=Md P (cF P pl fn) R args w) (h:V):Calls P f args w R:=by
 subst hv
 unfold Md at h
 simp only [aG,decide_eq_true_eq] at hs
 split at h
 ·rename_i ft hc
  exact S3 hf hc hs.1 hs.2 h
 ·exact h.elim
end
def ay (P:Program) (X:XS) (w:World) (s:Sem Next) (N:Value→Prop):Prop:= ∃v,Rd P X w s v∧N v
def aa (P:Program) (X:XS) (w:World) (s:Sem Value) (N:Value→Prop):Prop:=ay P X w (vS s) N
def aF (P:Program) (X:XS) (w:World) (g:Value) (want:Bool) (s:Sem Next) (N:Value→Prop):Prop:=
 ∃v,(mX g want=true→Rd P X w s v)∧(mX g want=false→v=undef)∧N v
def aL (g:Value) (want:Bool) (v:Value):Value:=if mX g want then v else undef
def aN (c a b:Value):Sem Next:=do pure (.value (if←asBool c then a else b))
def aH (x:Value):Sem Next:=execOp (fun _=>x) (Ph (.nilCheck (.tmp 0)) 0)
def aI (op:BinOp) (t:TypeId) (xo yo:Operand) (x y:Value):Sem Value:=do eqGuard op t xo yo x y;binOp op t x y
def uS (s:Sem Unit):Sem Next:=do s;pure .skip
def pn (R:Ending→World→Prop):List PanicEntry→World→XS→Prop:=fun ch w X=> ∀wa,Kp X w wa→R (.panicked ch) wa
def eW (P:Program) (R:Ending→World→Prop) (X:XS) (w:World) (m:Bool) (s:Sem Next) (N:Value→World→XS→Prop):Prop:=
 ∀wa,Kp X w wa→kh P m X wa N (pn R) (s.run P wa)
def eV (P:Program) (R:Ending→World→Prop) (X:XS) (w:World) (m:Bool) (s:Sem Value) (N:Value→World→XS→Prop):Prop:=eW P R X w m (vS s) N
def eU (P:Program) (R:Ending→World→Prop) (X:XS) (w:World) (m:Bool) (s:Sem Unit) (N:Value→World→XS→Prop):Prop:=eW P R X w m (uS s) N
def eC (P:Program) (R:Ending→World→Prop) (X:XS) (w:World) (m:Bool) (f:FuncId) (args:Array Value) (N:Value→World→XS→Prop):Prop:=eW P R X w m (callFunc f args) N
def eF (P:Program) (R:Ending→World→Prop) (X:XS) (w:World) (m:Bool) (f:Value) (args:Array Value) (N:Value→World→XS→Prop):Prop:=eW P R X w m (Fg f args) N
def gE (g:Value) (want:Bool) (A B:Prop):Prop:=(mX g want=true→A)∧(mX g want=false→B)
def fin (R:Ending→World→Prop) (X:XS) (w:World) (v:Value):Prop:= ∀wa,Kp X w wa→R (.returned v) wa
abbrev JT:=Nat→List Value→World→XS→Prop
def zH (J:JT) (n:Nat) (vs:List Value) (w:World) (X:XS):Prop:= ∃m,m<n∧J m vs w X
def QI (X:XS) (w:World) (vs:List Value) (C:List Nat) (B:JT→Nat→Env→World→XS→Prop):Prop:=
 ∃J:JT,(∃n,J n vs w X)∧ ∀n (e:Env) w' X',(∀k,X k→X' k)→J n (C.map e) w' X'→B J n e w' X'
variable {P : Program} {R : Ending → World → Prop} {X : XS} {w : World} {m : Bool}
theorem D7 {s:Sem Value} {N:Value→Prop} (v:Value) (h: ∀wa,Kp X w wa→s.run P wa= .ok v wa) (k:N v):aa P X w s N:=
 ⟨v,fun wa hk=>by simp [vS,h wa hk],k⟩
theorem b9 {s:Sem Value} {N:Value→Prop} {v:Value} (h: ∀wa,s.run P wa= .ok v wa) (k:N v):aa P X w s N:=
 D7 v (fun wa _=>h wa) k
theorem S5 {s:Sem Next} {N:Value→Prop} {v:Value} (h: ∀wa,s.run P wa= .ok (.value v) wa) (k:N v):ay P X w s N:=
 ⟨v,fun wa _=>h wa,k⟩
theorem Br {α:Type} [BEq α] [LawfulBEq α] [DecidableEq α] (a b:α):(a==b)=decide (a=b):=by
 by_cases h:a=b<;>simp [h]
section
variable {N : Value → Prop} {t : TypeId} {k : IntKind} {a b : Int} {xo yo : Operand}
theorem adT (h:N (.bool (decide (a<b)))):aa P X w (binOp .lss t (.int k a) (.int k b)) N:=b9 (fun wa=>by simp [binOp,pL]) h
theorem adU (h:N (.bool (decide (a≤b)))):aa P X w (binOp .leq t (.int k a) (.int k b)) N:=b9 (fun wa=>by simp [binOp,pL]) h
theorem adV (h:N (.bool (decide (a>b)))):aa P X w (binOp .gtr t (.int k a) (.int k b)) N:=b9 (fun wa=>by simp [binOp,pL]) h
theorem adW (h:N (.bool (decide (a≥b)))):aa P X w (binOp .geq t (.int k a) (.int k b)) N:=b9 (fun wa=>by simp [binOp,pL]) h
theorem Pm (h:N (.int k (k.wrap (a+b)))):aa P X w (binOp .add t (.int k a) (.int k b)) N:=b9 (fun wa=>by simp [binOp,wZ]) h
theorem Xb (h:N (.int k (k.wrap (a-b)))):aa P X w (binOp .sub t (.int k a) (.int k b)) N:=b9 (fun wa=>by simp [binOp,wZ]) h
theorem Pn (h:N (.int k (k.wrap (a*b)))):aa P X w (binOp .mul t (.int k a) (.int k b)) N:=b9 (fun wa=>by simp [binOp,wZ]) h
theorem Xc (h:N (.bool (decide (a=b)))):aa P X w (aI .eql t xo yo (.int k a) (.int k b)) N:=
 b9 (fun wa=>by simp [aI,eqGuard,binOp,pL,Br]) h
theorem adX (h:N (.bool (decide (a≠b)))):aa P X w (aI .neq t xo yo (.int k a) (.int k b)) N:=
 b9 (fun wa=>by simp [aI,eqGuard,binOp,pL,bne,Br]) h
end
section
variable {N : Value → Prop} {t : TypeId} {a b : ByteArray} {xo yo : Operand}
theorem abz (h:N (.bool (decide (a.toList=b.toList)))):aa P X w (aI .eql t xo yo (.string a) (.string b)) N:=
 b9 (fun wa=>by simp [aI,eqGuard,binOp,nH,Br]) h
theorem abA (h:N (.bool (decide (a.toList≠b.toList)))):aa P X w (aI .neq t xo yo (.string a) (.string b)) N:=
 b9 (fun wa=>by simp [aI,eqGuard,binOp,nH,Br]) h
theorem abB (h:N (.bool (b7 a.toList b.toList))):aa P X w (binOp .lss t (.string a) (.string b)) N:=
 b9 (fun wa=>by simp [binOp,nH]) h
theorem abC (h:N (.bool (!b7 a.toList b.toList))):aa P X w (binOp .geq t (.string a) (.string b)) N:=
 b9 (fun wa=>by simp [binOp,nH]) h
theorem abD (h:N (.bool (b7 a.toList b.toList||decide (a.toList=b.toList)))):aa P X w (binOp .leq t (.string a) (.string b)) N:=
 b9 (fun wa=>by simp [binOp,nH,Br]) h
theorem abE (h:N (.bool (!(b7 a.toList b.toList||decide (a.toList=b.toList))))):aa P X w (binOp .gtr t (.string a) (.string b)) N:=
 b9 (fun wa=>by simp [binOp,nH,Br]) h
end
section
variable {N : Value → Prop} {t : TypeId} {k : FloatKind} {a b : Nat} {xo yo : Operand}
theorem abF (h:N (.bool (k.format.order a b==some .lt))):aa P X w (binOp .lss t (.float k a) (.float k b)) N:=b9 (fun wa=>by simp [binOp,pN]) h
theorem abG (h:N (.bool (k.format.order a b==some .lt||k.format.order a b==some .eq))):aa P X w (binOp .leq t (.float k a) (.float k b)) N:=
 b9 (fun wa=>by simp [binOp,pN]) h
theorem abH (h:N (.bool (k.format.order a b==some .gt))):aa P X w (binOp .gtr t (.float k a) (.float k b)) N:=b9 (fun wa=>by simp [binOp,pN]) h
theorem abI (h:N (.bool (k.format.order a b==some .gt||k.format.order a b==some .eq))):aa P X w (binOp .geq t (.float k a) (.float k b)) N:=
 b9 (fun wa=>by simp [binOp,pN]) h
theorem abJ (h:N (.bool (k.format.order a b !=some .eq))):aa P X w (aI .neq t xo yo (.float k a) (.float k b)) N:=
 b9 (fun wa=>by simp [aI,eqGuard,binOp,pN]) h
end
section
variable {N : Value → Prop} {t : TypeId} {k k2 : IntKind} {a b : Int}
theorem Bs (hb: ¬b<0) (h:N (.int k (a.fdiv (2^min b.toNat k.bits)))):aa P X w (binOp .shr t (.int k a) (.int k2 b)) N:=
 b9 (fun wa=>by simp [binOp,Op.shift,hb]) h
theorem Kf (hb: ¬b<0) (h:N (.int k (k.wrap (a*2^min b.toNat k.bits)))):aa P X w (binOp .shl t (.int k a) (.int k2 b)) N:=
 b9 (fun wa=>by simp [binOp,Op.shift,hb]) h
theorem Po (h:N (.int k (k.wrap (aP k.bits a^^^aP k.bits b).toNat))):aa P X w (binOp .xor t (.int k a) (.int k b)) N:=
 b9 (fun wa=>by simp [binOp,Op.intBits]) h
theorem Kg (h:N (.int k (k.wrap (aP k.bits a&&& aP k.bits b).toNat))):aa P X w (binOp .and t (.int k a) (.int k b)) N:=
 b9 (fun wa=>by simp [binOp,Op.intBits]) h
end
section
variable {N : Value → Prop} {b c : Bool} {g : Value}
theorem Xd (h:N (.bool (!b))):aa P X w (aY .not (.bool b)) N:=b9 (fun wa=>by simp [aY]) h
theorem S7 {x y:Value} (h:N (if b then x else y)):ay P X w (aN (.bool b) x y) N:=S5 (fun wa=>by simp [aN,asBool]) h
theorem bE {x y:Value} (h:N x):ay P X w (aN (.bool true) x y) N:=S7 h
theorem bt {x y:Value} (h:N y):ay P X w (aN (.bool false) x y) N:=S7 h
theorem Kh {s:Sem Next} {want:Bool} (h:ay P X w s N):aF P X w (.bool want) want s N:=by
 obtain⟨v,hv,hn⟩:=h
 exact⟨v,fun _=>hv,fun hf=>absurd hf (by simp [mX]),hn⟩
theorem S8 {s:Sem Next} {want:Bool} (h:N undef):aF P X w (.bool (!want)) want s N:=
 ⟨undef,fun hf=>absurd hf (by cases want<;>simp [mX]),fun _=>rfl,h⟩
theorem rR {s:Sem Next} (h:ay P X w s N):aF P X w (.bool true) true s N:=Kh h
theorem iB {s:Sem Next} (h:ay P X w s N):aF P X w (.bool false) false s N:=Kh h
theorem cu {s:Sem Next} (h:N undef):aF P X w (.bool false) true s N:=S8 (want:=true) h
theorem dW {s:Sem Next} (h:N undef):aF P X w (.bool true) false s N:=S8 (want:=false) h
theorem Xe {A B:Prop} (h:b=true→A) (k:b=false→B):ao (.bool b) A B:=⟨h,k⟩
theorem Yo {want:Bool} {A B:Prop} (h:b=want→A) (k:b=!want→B):gE (.bool b) want A B:=
 ⟨fun e=>h (by simpa [mX] using e),fun e=>k (by revert e;cases b<;>cases want<;>simp [mX])⟩
theorem pD {A B:Prop} (h:A):gE (.bool true) true A B:=Yo (fun _=>h) (by simp)
theorem oz {A B:Prop} (h:A):gE (.bool false) false A B:=Yo (fun _=>h) (by simp)
theorem pP {A B:Prop} (h:B):gE (.bool true) false A B:=Yo (by simp) (fun _=>h)
theorem oA {A B:Prop} (h:B):gE (.bool false) true A B:=Yo (by simp) (fun _=>h)
theorem V3 {vs:Array Value} {i:Nat} {v:Value} (hi:vs[i]? =some v) (h:N v):aa P X w (aE (.tuple vs) i) N:=
 b9 (fun wa=>by simp [aE,hi]) h
theorem adY {a:Addr} (h:N (.pointer (some a))):ay P X w (aH (.pointer (some a))) N:=
 S5 (fun _=>rfl) h
theorem S9 {t e:TypeId} {xo yo:Operand} {p:Option Addr} (ht:P.underlying t=some (.pointer e)) (h:N (.bool p.isNone)):
  aa P X w (aI .eql t xo yo (.pointer p) (.pointer none)) N:=by
 refine b9 (fun wa=>?_) h
 have hp:P.pointee t=e:=by simp [Program.pointee,ht]
 have:=run_equal_pointer_nil (P:=P) (w:=wa) t p (by rw [hp];exact ht)
 simp [aI,eqGuard,binOp,this]
end
theorem aeW {f:FuncId} {args:Array Value} {N:Value→World→XS→Prop} (Q:Value→World→World→Prop)
  (hf: ∀wa,(callFunc f args).run P wa= .ok (.enter f args) wa)
  (h: ∀wa,Kp X w wa→Calls P f args wa fun e w'=> ∃v,e= .returned v∧Ext wa w'∧Q v wa w')
  (k: ∀v wa w',Kp X w wa→Ext wa w'→Q v wa w'→N v w' (grow X wa w')):eC P R X w m f args N:=by
 intro wa hk
 unfold kh;rw [hf wa]
 refine⟨rfl,(h wa hk).mono ?_⟩
 rintro e w' ⟨v,rfl,hx,hq⟩
 exact⟨Step.fE hx,k v wa w' hk hx hq⟩
structure aj (X:XS) (w:World) (X':XS) (w':World):Prop where
 kp:Kp X w w'
 sub: ∀k,X k→X' k
 has: ∀k,X' k→k<w'.heap.size
theorem aj.init (w:World):aj (aW w) w (aW w) w:=⟨Kp.refl _ _,fun _ h=>h,fun _ h=>h⟩
theorem aj.trans {X Y Z:XS} {a b c:World} (h:aj X a Y b) (k:aj Y b Z c):aj X a Z c:=
 ⟨h.kp.trans (k.kp.less h.sub),fun i hi=>k.sub i (h.sub i hi),k.has⟩
theorem aj.fE {X:XS} {w wa w':World} (hX: ∀k,X k→k<w.heap.size) (hk:Kp X w wa) (hx:Ext wa w'):aj X w (grow X wa w') w':=
 ⟨hk.trans (hx.kp fun k h=>aU (hX k h) hk.size),fun _ h=>.inl h,
  fun k h=>h.elim (fun h=>aU (hX k h) (ah hk.size hx.size)) (fun h=>h.2)⟩
theorem aj.ext {w w':World} {X:XS} (h:aj (aW w) w X w') {wa:World} (hk:Kp X w' wa):Ext w wa:=(h.kp.trans (hk.less h.sub)).ext
variable {P : Program} {R : Ending → World → Prop} {X : XS} {w : World} {m : Bool}
def Pure (P:Program) (f:FuncId) (args:Array Value) (v:Value):Prop:=
 ∀w,Calls P f args w fun e w'=>e= .returned v∧Ext w w'
def agO (P:Program) (f:FuncId) (args:Array Value) (w:World) (Q:Value→World→Prop):Prop:=
 Calls P f args w fun e w'=> ∃v,e= .returned v∧Ext w w'∧Q v w'
def enters (P:Program) (f:FuncId):Bool:=match P.funcs[f]? with
 |some fn=>!(fn.name== "runtime.NumGoroutine")&&fn.body.isSome
 |none=>false
theorem rS {f:FuncId} (h:enters P f=true) (args:Array Value) (w:World):(callFunc f args).run P w= .ok (.enter f args) w:=by
 unfold enters at h
 split at h
 ·rename_i fn hf
  simp only [aG,bW] at h
  obtain⟨c,hb⟩:=Option.isSome_iff_exists.1 h.2
  have hn: ¬fn.name= "runtime.NumGoroutine" :=by simpa using h.1
  simp [callFunc,hf,hn,hb]
 ·cases h
theorem Ta {f:FuncId} {args:Array Value} {N:Value→World→XS→Prop} {Q:Value→World→World→Prop}
  (hf:enters P f=true) (hX: ∀k,X k→k<w.heap.size)
  (h: ∀wa,Kp X w wa→agO P f args wa (Q · wa))
  (k: ∀v wa w' X',Kp X w wa→Ext wa w'→(∀k,wa.heap.size≤k→k<w'.heap.size→X' k)→Q v wa w'→aj X w X' w'→N v w' X'):
  eC P R X w m f args N:=by
 refine aeW Q (rS hf args) (fun wa hk=>?_) fun v wa w' hk hx hq=>k v wa w' _ hk hx (fun k h1 h2=>.inr ⟨h1,h2⟩) hq (aj.fE hX hk hx)
 refine(h wa hk).mono ?_
 rintro e w' ⟨v,he,hx,hq⟩
 exact⟨v,he,hx,hq⟩
theorem Xf {f:FuncId} {args:Array Value} {v:Value} {N:Value→World→XS→Prop}
  (hf:enters P f=true) (hX: ∀k,X k→k<w.heap.size) (h:Pure P f args v)
  (k: ∀w' X',aj X w X' w'→N v w' X'):eC P R X w m f args N:=by
 refine Ta (Q:=fun u _ _=>u=v) hf hX (fun wa _=>(h wa).mono ?_) fun u wa w' X' _ _ _ hq hs=>hq▸k w' X' hs
 rintro e w' ⟨he,hx⟩
 exact⟨v,he,hx,rfl⟩
theorem xm {f:FuncId} {args:Array Value} {v:Value} {N:Value→World→XS→Prop} (hf: ∀wa,(callFunc f args).run P wa= .ok (.value v) wa)
  (hX: ∀k,X k→k<w.heap.size) (k: ∀w' X',aj X w X' w'→N v w' X'):eC P R X w m f args N:=by
 intro wa hk
 unfold kh;rw [hf wa]
 exact⟨Step.fE (Ext.refl _),k _ _ (aj.fE hX hk (Ext.refl _))⟩
theorem fI {w0:World} {u v:Value} (hs:aj (aW w0) w0 X w) (h:u=v):fin (fun e w'=>e= .returned v∧Ext w0 w') X w u:=
 fun _ hk=>⟨by rw [h],hs.ext hk⟩
variable {P : Program} {R : Ending → World → Prop} {X : XS} {w : World} {m : Bool} {N : Value → Prop}
abbrev ptr (b o:Nat):Value:=.pointer (some ⟨b,o,none⟩)
def Cells (w:World) (X:XS) (b o:Nat) (l:List Value):Prop:=
 X b∧ ∃cs t fr,w.heap[b]? =some (.cells cs t fr)∧ ∀j v,l[j]? =some v→cs[o+j]? =some v
theorem Cells.kp {b o:Nat} {l:List Value} (h:Cells w X b o l) {w':World} (hk:Kp X w w'):Cells w' X b o l:=by
 obtain⟨hx,cs,t,fr,hb,hc⟩:=h
 exact⟨hx,cs,t,fr,by rw [hk.block b hx];exact hb,hc⟩
theorem Cells.mono {b o:Nat} {l:List Value} {Y:XS} (h:Cells w X b o l) (hs: ∀k,X k→Y k):Cells w Y b o l:=⟨hs _ h.1,h.2⟩
theorem Cells.since {b o:Nat} {l:List Value} {Y:XS} {w':World} (h:Cells w X b o l) (hs:aj X w Y w'):Cells w' Y b o l:=(h.kp hs.kp).mono hs.sub
theorem Cells.range {b o:Nat} {l:List Value} (h:Cells w X b o l):w.rangeAt b o l:=by
 obtain⟨_,cs,t,fr,hb,hc⟩:=h
 intro j v hj
 rw [cell_of_row w b (o+j) cs t fr hb]
 exact hc j v hj
theorem Cells.lt {b o:Nat} {l:List Value} (h:Cells w X b o l):b<w.heap.size:=by
 obtain⟨_,cs,t,fr,hb,_⟩:=h
 exact(Array.getElem?_eq_some_iff.1 hb).1
theorem Cells.part {b o:Nat} {l:List Value} (h:Cells w X b o l) (i n:Nat):Cells w X b (o+i) ((l.drop i).take n):=by
 obtain⟨hx,cs,t,fr,hb,hc⟩:=h
 refine⟨hx,cs,t,fr,hb,fun j v hj=>?_⟩
 rw [jT] at hj
 split at hj
 ·rw [fu] at hj
  rw [Nat.add_assoc];exact hc _ v hj
 ·cases hj
theorem aae {t:TypeId} {b o:Nat} {v:Value} {l:List Value} (h:Cells w X b o (v::l)) (hi:ki P t=some (false,1)) (k:N v):
  aa P X w (jJ t (ptr b o)) N:=by
 refine D7 v (fun wa hk=>?_) k
 have hc:wa.cell? ⟨b,o,none⟩=some v:=(h.kp hk).range 0 v rfl
 unfold ki at hi
 split at hi
 ·rename_i d i hu D5
  simp only [aC,dB] at hi
  have wo:(isAgg t).run P wa= .ok false wa:=by
   cases d<;>simp_all [isAgg,run_underlying hu]
  simp [jJ,lJ,loadVar,wo,hc]
 ·cases hi
theorem aaf {t:TypeId} {b o n:Nat} {l:List Value} (h:Cells w X b o l) (hi:ki P t=some (true,n)) (hn:l.length=n) (k:N (.agg l.toArray)):
  aa P X w (jJ t (ptr b o)) N:=by
 refine D7 _ (fun wa hk=>?_) k
 unfold ki at hi
 split at hi
 ·rename_i d i hu D5
  simp only [aC,dB] at hi
  exact run_loadAt_mid wa b o t l d (h.kp hk).range hu (by cases d<;>simp_all) (by simp [D5,hi.2,hn])
 ·cases hi
theorem Dr {S f fo sz b o:Nat} (h:fieldInfo P S f=some (fo,sz)) (hz:sz≠0) (k:N (ptr b (o+fo))):aa P X w (qB S (ptr b o) f) N:=
 b9 (fun wa=>Li h hz b o wa) k
theorem aag {t:TypeId} {parts:Array (Nat×Value)} (cells:Array Value) (h:P.built t parts.toList=some cells) (k:N (.agg cells)):
  aa P X w (wW t parts) N:=
 b9 (fun wa=>run_build wa t parts cells h) k
theorem abK {t ty:TypeId} {s:ByteArray} (ht:P.underlying t=some .string) (k:N (.int .i64 s.size)):aa P X w (kg #[t] ty #[.string s]) N:=
 b9 (fun wa=>by simp [kg,run_underlying ht,goInt]) k
def Sl (w:World) (X:XS) (k:Nat) (v:Value) (rows:List (List Value)):Prop:=
 (∀r∈rows,r.length=k)∧rows.length≤2^63-1∧
 ∃base cap,v= .slice base rows.length cap∧(rows≠[]→ ∃b o,base=some ⟨b,o,none⟩∧Cells w X b o rows.flatten)∧
  (base=none→cap=0)∧rows.length≤cap∧cap≤2^63-1
theorem Sl.mono {k:Nat} {v:Value} {rows:List (List Value)} {Y:XS} (h:Sl w X k v rows) (hs: ∀k,X k→Y k):Sl w Y k v rows:=by
 obtain⟨h1,h2,base,cap,hv,hc,hr⟩:=h
 exact⟨h1,h2,base,cap,hv,fun dr=>let⟨b,o,hb,kj⟩:=hc dr;⟨b,o,hb,kj.mono hs⟩,hr⟩
theorem Sl.kp {k:Nat} {v:Value} {rows:List (List Value)} {w':World} (h:Sl w X k v rows) (hk:Kp X w w'):Sl w' X k v rows:=by
 obtain⟨h1,h2,base,cap,hv,hc,hr⟩:=h
 exact⟨h1,h2,base,cap,hv,fun dr=>let⟨b,o,hb,kj⟩:=hc dr;⟨b,o,hb,kj.kp hk⟩,hr⟩
theorem Sl.since {k:Nat} {v:Value} {rows:List (List Value)} {Y:XS} {w':World} (h:Sl w X k v rows) (hs:aj X w Y w'):Sl w' Y k v rows:=
 (h.kp hs.kp).mono hs.sub
theorem Sl.aW {k:Nat} {v:Value} {rows:List (List Value)} (h:Sl w X k v rows):Sl w (aW w) k v rows:=by
 obtain⟨h1,h2,base,cap,hv,hc,hr⟩:=h
 exact⟨h1,h2,base,cap,hv,fun dr=>let⟨b,o,hb,kj⟩:=hc dr;⟨b,o,hb,kj.lt,kj.2⟩,hr⟩
theorem Sl.nil (w:World) (X:XS) (k:Nat):Sl w X k (.slice none 0 0) []:=⟨by simp,by simp,none,0,rfl,by simp,by simp,by simp,by simp⟩
theorem Sl.one {k:Nat} {v:Value} {rows:List (List Value)} (h:Sl w X k v rows):one v=true:=by
 obtain⟨_,_,_,_,rfl,_⟩:=h;rfl
theorem Im {k:Nat} : ∀{rows:List (List Value)},(∀r∈rows,r.length=k)→ ∀{i:Nat} {r:List Value},rows[i]? =some r→
  (rows.flatten.drop (i*k)).take k=r
 |[],_,i,r,h=>by simp at h
 |x::rest,hl,0,r,h=>by
  simp only [gw,aC] at h;subst h
  have:=hl x (by simp)
  simp [this.symm]
 |x::rest,hl,i+1,r,h=>by
  have hx:=hl x (by simp)
  rw [dg,List.drop_append,hx,sF (by rw [hx];exact Nat.le_mul_of_pos_left k (Nat.succ_pos i))]
  have:(i+1)*k-k=i*k:=by rw [Nat.succ_mul];omega
  rw [this,cV]
  exact Im (fun r hr=>hl r (by simp [hr])) (by simpa using h)
theorem abL {t:TypeId} {xs ys:Array Value} {xo yo:Operand} {b:Bool} (hm:P.eqGuardType P.depth t=false)
  (h: ∀wa,(qP 10000 t (.agg xs) (.agg ys)).run P wa= .ok b wa) (k:N (.bool b)):aa P X w (aI .eql t xo yo (.agg xs) (.agg ys)) N:=by
 refine b9 (fun wa=>?_) k
 simp [aI,run_eqGuard_agg wa .eql t xo yo xs ys hm,run_eql_struct,h]
theorem abM {t:TypeId} {xs ys:Array Value} {xo yo:Operand} {b:Bool} (hm:P.eqGuardType P.depth t=false)
  (h: ∀wa,(qP 10000 t (.agg xs) (.agg ys)).run P wa= .ok b wa) (k:N (.bool (!b))):aa P X w (aI .neq t xo yo (.agg xs) (.agg ys)) N:=by
 refine b9 (fun wa=>?_) k
 simp [aI,run_eqGuard_agg wa .neq t xo yo xs ys hm,binOp,Op.equal,Op.maxDepth,h]
theorem wrap_i64 {a:Int} (h1: -(2^63)≤a) (h2:a<2^63):IntKind.i64.wrap a=a:=by
 simp only [IntKind.wrap]
 first
  |omega
  |(simp [IntKind.bits,IntKind.signed];omega)
variable {P : Program} {R : Ending → World → Prop} {X : XS} {w : World} {m : Bool}
structure Grown (X:XS) (w:World) (X':XS) (w':World) (row:Option Nat):Prop where
 os:w'.os=w.os
 tape:w'.tape=w.tape
 output:w'.output=w.output
 size:w.heap.size≤w'.heap.size
 block: ∀k,X k→some k≠row→w'.heap[k]? =w.heap[k]?
 sub: ∀k,X k→X' k
 has: ∀k,X' k→k<w'.heap.size
theorem aj.grown {X0 Y:XS} {w0 w':World} {row:Option Nat} (h:aj X0 w0 X w) (g:Grown X w Y w' row) (hr: ∀k,X0 k→some k≠row):aj X0 w0 Y w':=
 ⟨⟨g.os.trans h.kp.os,g.tape.trans h.kp.tape,g.output.trans h.kp.output,ah h.kp.size g.size,
  fun k hk=>(g.block k (h.sub k hk) (hr k hk)).trans (h.kp.block k hk)⟩,fun k hk=>g.sub k (h.sub k hk),g.has⟩
theorem Grown.since {Y:XS} {w':World} {row:Option Nat} {F:XS} (g:Grown X w Y w' row) (hf: ∀k,F k→X k) (hr: ∀k,F k→some k≠row):aj F w Y w':=
 ⟨⟨g.os,g.tape,g.output,g.size,fun k hk=>g.block k (hf k hk) (hr k hk)⟩,fun k hk=>g.sub k (hf k hk),g.has⟩
def Own (w:World) (X:XS) (lo e k:Nat) (v:Value) (rows:List (List Value)):Prop:=
 (∀r∈rows,r.length=k)∧w.ownsRow lo e k v rows.length rows.flatten∧ ∀g,v.ownBlock=some g→X g
theorem Own.nil (w:World) (X:XS) (lo e k:Nat):Own w X lo e k (.slice none 0 0) []:=⟨by simp,World.ownsRow_nil w lo e k,by simp [im]⟩
theorem Own.sl {lo e k:Nat} {v:Value} {rows:List (List Value)} (h:Own w X lo e k v rows):Sl w X k v rows:=by
 obtain⟨h1,h2,h3⟩:=h
 rcases h2.2 with⟨rfl,hn⟩|⟨g,cap,cur,rfl,hb,hg,tE,m6,kj,ht⟩
 ·have:rows=[]:=fQ hn
  subst this;exact Sl.nil w X k
 ·have hm:cap≤2^63-1:=m6
  refine⟨h1,ah tE hm,_,cap,rfl,fun _=>⟨g,0,rfl,h3 g rfl,cur,e,(0,0),hg,fun j v hj=>?_⟩,by simp,tE,hm⟩
  rw [←ht,jT] at hj
  split at hj
  ·simpa using hj
  ·cases hj
theorem Own.kp {lo e k:Nat} {v:Value} {rows:List (List Value)} {w':World} (h:Own w X lo e k v rows) (hk:Kp X w w'):Own w' X lo e k v rows:=by
 obtain⟨h1,h2,h3⟩:=h
 refine⟨h1,⟨h2.1,?_⟩,h3⟩
 rcases h2.2 with h|⟨g,cap,cur,rfl,hb,hg,hr⟩
 ·exact .inl h
 ·exact .inr ⟨g,cap,cur,rfl,hb,by rw [hk.block g (h3 g rfl)];exact hg,hr⟩
theorem Own.mono {lo e k:Nat} {v:Value} {rows:List (List Value)} {Y:XS} (h:Own w X lo e k v rows) (hs: ∀k,X k→Y k):Own w Y lo e k v rows:=
 ⟨h.1,h.2.1,fun g hg=>hs g (h.2.2 g hg)⟩
theorem Own.since {lo e k:Nat} {v:Value} {rows:List (List Value)} {Y:XS} {w':World} (h:Own w X lo e k v rows) (hs:aj X w Y w'):Own w' Y lo e k v rows:=
 (h.kp hs.kp).mono hs.sub
theorem Own.low {lo lo' e k:Nat} {v:Value} {rows:List (List Value)} (h:Own w X lo e k v rows) (hl:lo'≤lo):Own w X lo' e k v rows:=by
 obtain⟨h1,h2,h3⟩:=h
 refine⟨h1,⟨h2.1,?_⟩,h3⟩
 rcases h2.2 with h|⟨g,cap,cur,rfl,hb,hr⟩
 ·exact .inl h
 ·exact .inr ⟨g,cap,cur,rfl,ah hl hb,hr⟩
theorem Own.ge {lo e k:Nat} {v:Value} {rows:List (List Value)} (h:Own w X lo e k v rows) {g:Nat} (hg:v.ownBlock=some g):lo≤g∧g<w.heap.size:=h.2.1.lt g hg
theorem Own.tight {lo e k:Nat} {v:Value} {rows:List (List Value)} (h:Own w X lo e k v rows):Own w (fun g=>lo≤g∧g<w.heap.size) lo e k v rows:=
 ⟨h.1,h.2.1,fun _ hg=>h.ge hg⟩
theorem tF {k:Nat} : ∀{rows:List (List Value)},(∀r∈rows,r.length=k)→rows.flatten.length=rows.length*k
 |[],_=>by simp
 |r::rs,h=>by
  rw [dg,ae,h r (by simp),tF fun r hr=>h r (by simp [hr]),bC,Nat.succ_mul,Nat.add_comm]
theorem BH {t e len:Nat} {parts:Array (Nat×Value)} {k:Nat} {rows:List (List Value)} {N:Value→World→XS→Prop} (cells:Array Value) (z:Value)
  (hX: ∀k,X k→k<w.heap.size) (hu:P.underlying t=some (.slice e)) (hz:(P.info? e).bind (fun i=>i.zero.map fun z=>(i.size,z))=some (k,z))
  (Io:0<len*k) (Nu:len*k≤2^24)
  (h:oQ (fun i=>some (i*k,k)) ((xa (len*k)).map (z.cells[· % z.cells.size]!)) parts.toList=some cells)
  (Fl: ∀r∈rows,r.length=k) (hlen:rows.length=len) (hc:cells.toList=rows.flatten)
  (n: ∀v w' X',aj X w X' w'→Own w' X' w.heap.size e k v rows→N v w' X'):eV P R X w m (ig t len parts) N:=by
 intro wa hk
 cases hq:P.info? e with
 |none=>simp [hq] at hz
 |some ie=>
  cases qq:ie.zero with
  |none=>simp [hq,qq] at hz
  |some z'=>
   simp only [hq,qq,dv,bN,aC,dB] at hz
   obtain⟨rfl,rfl⟩:=hz
   have hr:=run_buildSlice (P:=P) wa t e len parts cells ie z' hu hq qq (by omega) (by omega) h
   unfold kh
   simp only [vS,bO,hr,bw,ck]
   have hx:Ext wa (wa.alloc (.cells cells e)):=Ext.alloc _ _
   have kj:cells.size=len*ie.size:=by
    have:=congrArg List.length hc
    simp only [dy] at this
    rw [this,tF Fl,hlen]
   have agP:0<ie.size:=Nat.pos_of_ne_zero fun e=>by simp [e] at Io
   have hle:len≤2^24:=ah (Nat.le_mul_of_pos_right len agP) Nu
   have GX:=wI (e:=e) (base:=w.heap.size) (size:=ie.size) wa cells len hk.size (by simp only [maxLen];omega) kj
   refine⟨Step.fE hx,n _ _ _ (aj.fE hX hk hx) ⟨Fl,by rw [hlen,←hc];exact GX,fun g hg=>?_⟩⟩
   simp only [im,aC] at hg
   subst hg
   exact .inr ⟨bp _,by simp⟩
theorem aah {t e k:Nat} {N:Value→World→XS→Prop} (hX: ∀k,X k→k<w.heap.size) (hu:P.underlying t=some (.slice e)) (hz:(P.info? e).map (·.size)=some k)
  (n: ∀v w' X',aj X w X' w'→Own w' X' w.heap.size e k v []→N v w' X'):eV P R X w m (ig t 0 #[]) N:=by
 intro wa hk
 cases hq:P.info? e with
 |none=>simp [hq] at hz
 |some ie=>
  unfold kh
  have hr:(ig t 0 #[]).run P wa= .ok (.slice (some ⟨wa.heap.size,0,none⟩) 0 0) (wa.alloc (.cells #[] e)):=by
   simp [ig,run_underlying hu,sizeOf,typeInfo,hq,oQ,newRow]
   have xp: ∀f:Nat→Value,Array.map f (xa 0)= #[]:=fun f=>Array.eq_empty_of_size_eq_zero (by simp)
   rw [xp]
  simp only [vS,bO,hr,bw,ck]
  have hx:Ext wa (wa.alloc (.cells #[] e)):=Ext.alloc _ _
  have GX:=wI (e:=e) (base:=w.heap.size) (size:=k) wa #[] 0 hk.size (by simp [maxLen]) (by simp)
  refine⟨Step.fE hx,n _ _ _ (aj.fE hX hk hx) ⟨by simp,GX,fun g hg=>?_⟩⟩
  simp only [im,aC] at hg
  subst hg
  exact .inr ⟨bp _,by simp⟩
theorem Sl.src {k:Nat} {v:Value} {rows:List (List Value)} (h:Sl w X k v rows):
  v= .slice none 0 0∧rows=[]∨ ∃a cap,v= .slice (some a) rows.length cap∧ ∀j u,rows.flatten[j]? =some u→w.cell? (a.add j)=some u:=by
 obtain⟨h1,h2,base,cap,rfl,hc,hn,hle,_⟩:=h
 cases base with
 |none=>
  cases rows with
  |nil=>exact .inl ⟨by simp [hn rfl],rfl⟩
  |cons r rs=>obtain⟨_,_,hh,_⟩:=hc (by simp);cases hh
 |some a=>
  refine .inr ⟨a,cap,rfl,fun j u hj=>?_⟩
  cases rows with
  |nil=>simp at hj
  |cons r rs=>
   obtain⟨b,o,hb,kj⟩:=hc (by simp)
   cases hb
   rw [wm];exact kj.range j u hj
theorem zI {t ty e k bytes lo:Nat} {v s:Value} {rows eD:List (List Value)} {N:Value→World→XS→Prop} (z:Value)
  (hu:P.underlying t=some (.slice e)) (hi:(P.info? e).bind (fun i=>i.zero.map fun z=>(i.size,i.bytes,z))=some (k,bytes,z)) (vu:z.cells.size=k) (kX:0<k)
  (hX: ∀k,X k→k<w.heap.size) (fT:lo≤w.heap.size) (own:Own w X lo e k v rows) (src:Sl w X k s eD) (h1: ∀r∈eD,∀u∈r,one u=true)
  (hb:(rows.length+eD.length)*bytes≤140737488355328) (hl:rows.length+eD.length≤2^63-1)
  (n: ∀v' w' X',Grown X w X' w' v.ownBlock→Own w' X' lo e k v' (rows++eD)→(v'.ownBlock=v.ownBlock∨ ∃g,v'.ownBlock=some g∧w.heap.size≤g)→N v' w' X'):
  eV P R X w true (ey #[t,t] ty #[v,s]) N:=by
 intro wa hk
 have own:=own.kp hk
 have src:=src.kp hk
 cases hq:P.info? e with
 |none=>simp [hq] at hi
 |some ie=>
  cases qq:ie.zero with
  |none=>simp [hq,qq] at hi
  |some z'=>
   simp only [hq,qq,dv,bN,aC,dB] at hi
   obtain⟨rfl,rfl,rfl⟩:=hi
   unfold kh
   rcases src.src with⟨rfl,rfl⟩|⟨a,cap,rfl,CC⟩
   ·have hr:=run_append_owned_none (P:=P) (w:=wa) lo t ty e ie ie.size hu hq v rows.length rows.flatten own.2.1
    simp only [vS,bO,hr,bw,ck]
    have hx:=Ext.refl wa
    have hs:=aj.fE hX hk hx
    refine⟨Step.fE hx,n _ _ _ ⟨hs.kp.os,hs.kp.tape,hs.kp.output,hs.kp.size,fun k h _=>hs.kp.block k h,hs.sub,hs.has⟩ ?_ (.inl rfl)⟩
    rw [cp]
    exact own.mono (fun k h=>Or.inl h)
   ·have td:eD.flatten.length=eD.length*ie.size:=tF src.1
    obtain⟨v',w',hr,GX,hg,_,gQ⟩:=run_append_own_at (P:=P) wa lo t ty e ie z' ie.size ie.bytes hu hq qq rfl rfl vu kX v rows.length rows.flatten own.2.1
     a eD.length cap eD.flatten td CC (fun u hu=>by
      obtain⟨r,hr,hur⟩:=List.mem_flatten.1 hu
      rw [←Nk];exact h1 r hr u hur) hl hb (ah fT hk.size)
    simp only [vS,bO,hr,bw,ck]
    have hgb: ∀k,k<wa.heap.size→some k≠v.ownBlock→w'.heap[k]? =wa.heap[k]? :=hg.block
    refine⟨⟨hg.os,hg.tape,hg.output,hg.size,fun k tG pz=>hg.block k tG fun e=>pz (own.2.2 k e.symm)⟩,n _ _ _ ?_ ⟨?_,?_,?_⟩ ?_⟩
    ·exact⟨hg.os.trans hk.os,hg.tape.trans hk.tape,hg.output.trans hk.output,ah hk.size hg.size,
      fun k hx dr=>(hg.block k (aU (hX k hx) hk.size) dr).trans (hk.block k hx),fun k h=>.inl h,
      fun k h=>h.elim (fun h=>aU (hX k h) (ah hk.size hg.size)) (fun h=>h.2)⟩
    ·intro r hr
     rcases List.mem_append.1 hr with h|h
     ·exact own.1 r h
     ·exact src.1 r h
    ·rw [ae,List.flatten_append];exact GX
    ·intro g Lo
     rcases gQ with h|h
     ·exact .inl (own.2.2 g (h▸Lo))
     ·rw [Lo] at h;cases h
      exact .inr ⟨bp _,(GX.lt _ Lo).2⟩
    ·rcases gQ with h|h
     ·exact .inl h
     ·exact .inr ⟨_,h,hk.size⟩
theorem Me {t e:TypeId} (ht:P.underlying t=some (.slice e)) (d:Nat) (base:Option Addr) (n c:Nat) (w:World):
  (qP (d+1) t (.slice base n c) (.slice none 0 0)).run P w= .ok base.isNone w:=by
 cases base<;>simp [qP,run_underlying ht]
theorem Tb {t e:TypeId} {xo yo:Operand} {base:Option Addr} {n c:Nat} {N:Value→Prop} (ht:P.underlying t=some (.slice e)) (h:N (.bool base.isNone)):
  aa P X w (aI .eql t xo yo (.slice base n c) (.slice none 0 0)) N:=by
 refine b9 (fun wa=>?_) h
 have:(Op.equal t (.slice base n c) (.slice none 0 0)).run P wa= .ok base.isNone wa:=Me ht 9999 base n c wa
 simp [aI,eqGuard,binOp,this]
def Ki (P:Program):List Field→Nat→Bool
 |[],_=>true
 |f::r,i=>f.name != "_" &&(match P.underlying f.type with|some (.int _)=>true|_=>false)&&f.offset==i&&Ki P r (i+1)
theorem Az (w:World) (d:Nat) (as bs:List Int): ∀(fs:List Field) (i:Nat),Ki P fs i=true→as.length=i+fs.length→bs.length=i+fs.length→
  (s8 (d+1) (as.map (aA .i64)).toArray (bs.map (aA .i64)).toArray fs).run P w= .ok (decide (as.drop i=bs.drop i)) w
 |[],i,_,ha,hb=>by
  simp only [List.length_nil,Nat.add_zero] at ha hb
  rw [hP (by omega),hP (by omega)];simp [s8]
 |f::r,i,h,ha,hb=>by
  simp only [Ki,aG,bne_iff_ne,ne_eq,beq_iff_eq] at h
  obtain⟨⟨⟨hn,hu⟩,ho⟩,hr⟩:=h
  simp only [bC] at ha hb
  have hia:i<as.length:=by omega
  have hib:i<bs.length:=by omega
  cases hd:P.underlying f.type with
  |none=>simp [hd] at hu
  |some ty=>
   cases ty<;>simp only [hd,bA] at hu
   rename_i q
   have wo:(isAgg f.type).run P w= .ok false w:=by simp [isAgg,run_underlying hd]
   have Tc:(part f.type (as.map (aA .i64)).toArray f.offset).run P w= .ok (.int .i64 as[i]) w:=by
    simp [part,wo,ho,hia]
   have Lp:(part f.type (bs.map (aA .i64)).toArray f.offset).run P w= .ok (.int .i64 bs[i]) w:=by
    simp [part,wo,ho,hib]
   have ih:=Az w d as bs r (i+1) hr (by omega) (by omega)
   have hk:(as.drop i=bs.drop i)↔(as[i]=bs[i]∧as.drop (i+1)=bs.drop (i+1)):=by
    rw [kf hia,kf hib,List.cons.injEq]
   simp only [hk]
   clear hk
   by_cases he:as[i]=bs[i]
   ·simp [s8,hn,Tc,Lp,run_equalIn_int w d f.type .i64 q _ _ hd,he,ih]
   ·simp [s8,hn,Tc,Lp,run_equalIn_int w d f.type .i64 q _ _ hd,he]
def jE (P:Program) (t n:Nat):Bool:=match P.underlying t with
 |some (.struct fs)=>fs.toList.length==n&&Ki P fs.toList 0&&!P.stoodInHeld t&&!P.eqGuardType P.depth t
 |_=>false
theorem y8 {t n:Nat} (h:jE P t n=true) (as bs:List Int) (ha:as.length=n) (hb:bs.length=n) (w:World):
  (qP 10000 t (.agg (as.map (aA .i64)).toArray) (.agg (bs.map (aA .i64)).toArray)).run P w= .ok (decide (as=bs)) w:=by
 unfold jE at h
 split at h
 ·rename_i fs hu
  simp only [aG,beq_iff_eq,bW] at h
  have hf:P.fieldsOf t=fs:=by simp [Program.fieldsOf,hu]
  rw [run_equalIn_struct w 9999 t _ _ (by rw [hf];exact hu) h.1.2,hf]
  have:=Az (P:=P) w 9998 as bs fs.toList 0 h.1.1.2 (by rw [ha,h.1.1.1];omega) (by rw [hb,h.1.1.1];omega)
  simpa using this
 ·cases h
theorem CD {t n:Nat} (h:jE P t n=true):P.eqGuardType P.depth t=false:=by
 unfold jE at h
 split at h
 ·simp only [aG,bW] at h;exact h.2
 ·cases h
theorem abN {N:Value→Prop} {t:TypeId} {a b c a' b' c':Int} {xo yo:Operand} (h:jE P t 3=true) (k:N (.bool (decide (a=a'∧b=b'∧c=c')))):
  aa P X w (aI .eql t xo yo (.agg #[.int .i64 a,.int .i64 b,.int .i64 c]) (.agg #[.int .i64 a',.int .i64 b',.int .i64 c'])) N:=
 abL (b:=decide (a=a'∧b=b'∧c=c')) (CD h) (fun wa=>by
  have:=y8 h [a,b,c] [a',b',c'] rfl rfl wa
  simpa using this) k
theorem abO {N:Value→Prop} {t:TypeId} {a b c a' b' c':Int} {xo yo:Operand} (h:jE P t 3=true) (k:N (.bool (!decide (a=a'∧b=b'∧c=c')))):
  aa P X w (aI .neq t xo yo (.agg #[.int .i64 a,.int .i64 b,.int .i64 c]) (.agg #[.int .i64 a',.int .i64 b',.int .i64 c'])) N:=
 abM (b:=decide (a=a'∧b=b'∧c=c')) (CD h) (fun wa=>by
  have:=y8 h [a,b,c] [a',b',c'] rfl rfl wa
  simpa using this) k
theorem Xg {t:TypeId} {v:Value} {N:Value→World→XS→Prop} (hX: ∀k,X k→k<w.heap.size)
  (n: ∀b w' X',w.heap.size≤b→aj X w X' w'→X' b→w'.heap[b]? =some (.cells v.cells.toList.toArray t (0,0))→N (ptr b 0) w' X'):eV P R X w m (de t v) N:=by
 intro wa hk
 unfold kh
 have hr:(de t v).run P wa= .ok (ptr wa.heap.size 0) (wa.alloc (.cells v.cells t)):=by simp [de,newVar,newRow]
 simp only [vS,bO,hr,bw,ck]
 have hx:Ext wa (wa.alloc (.cells v.cells t)):=Ext.alloc _ _
 exact⟨Step.fE hx,n _ _ _ hk.size (aj.fE hX hk hx) (.inr ⟨bp _,by simp⟩) (by simpa using heap_alloc_new wa _)⟩
def bJ (w:World) (X:XS) (b:Nat) (cs:List Value) (ty:TypeId):Prop:=X b∧w.heap[b]? =some (.cells cs.toArray ty (0,0))
theorem bJ.kp {b:Nat} {cs:List Value} {ty:TypeId} {w':World} (h:bJ w X b cs ty) (hk:Kp X w w'):bJ w' X b cs ty:=⟨h.1,by rw [hk.block b h.1];exact h.2⟩
theorem bJ.mono {b:Nat} {cs:List Value} {ty:TypeId} {Y:XS} (h:bJ w X b cs ty) (hs: ∀k,X k→Y k):bJ w Y b cs ty:=⟨hs _ h.1,h.2⟩
theorem bJ.since {b:Nat} {cs:List Value} {ty:TypeId} {Y:XS} {w':World} (h:bJ w X b cs ty) (hs:aj X w Y w'):bJ w' Y b cs ty:=(h.kp hs.kp).mono hs.sub
theorem bJ.cells {b:Nat} {cs:List Value} {ty:TypeId} (h:bJ w X b cs ty):Cells w X b 0 cs:=⟨h.1,_,_,_,h.2,fun j v hj=>by simpa using hj⟩
theorem abP {t sz b o:Nat} {cs:List Value} {ty:TypeId} {v:Value} {N:Value→World→XS→Prop} (h:bJ w X b cs ty) (ht:(P.info? t).map (·.size)=some sz)
  (hl:o+sz≤cs.length) (hv:v.cells.size=sz) (h1:v.cells.toList.all one=true) (hX: ∀k,X k→k<w.heap.size)
  (n: ∀w' X',Grown X w X' w' (some b)→bJ w' X' b (cd cs o v.cells.toList) ty→N undef w' X'):eU P R X w true (qD t (ptr b o) v) N:=by
 intro wa hk
 have hb:=(h.kp hk).2
 unfold kh
 have hr:=Lj (P:=P) ht hb o (by simpa using hl) v hv h1
 simp only [fz] at hr
 simp only [uS,bO,hr,bw,ck]
 have eu:(wa.setRow b (cd cs o v.cells.toList).toArray).heap.size=wa.heap.size:=by simp
 refine⟨⟨rfl,rfl,rfl,by rw [eu];exact bp _,fun k _ hx=>setRow_other wa b k _ fun e=>hx (e▸h.1)⟩,n _ _ ?_ ⟨.inl h.1,setRow_heap wa b _ _ ty _ hb⟩⟩
 refine⟨hk.os,hk.tape,hk.output,by rw [eu];exact hk.size,fun k hx dr=>?_,fun k h=>.inl h,fun k h=>?_⟩
 ·rw [setRow_other wa b k _ (fun e=>dr (by rw [e])),hk.block k hx]
 ·rw [eu]
  exact h.elim (fun h=>aU (hX k h) hk.size) (fun h=>by have:=h.2;rwa [eu] at this)
variable {P : Program} {α : Type}
end Go.fR
set_option linter.unusedSectionVars false
set_option linter.unusedSimpArgs false
namespace Go.fR
variable {P : Program} {R : Ending → World → Prop} {X : XS} {w : World} {m : Bool} {κ : Type} [DecidableEq κ]
abbrev ke (κ:Type):=κ×Value×Nat
def pQ (kv:κ→Value) (x:ke κ):MapEntry:=⟨kv x.1,x.2.1,x.2.2⟩
def rT (k:κ):List (ke κ)→Nat→Option (Nat×Value)
 |[],_=>none
 |x::r,i=>if k=x.1 then some (i,x.2.1)else rT k r (i+1)
structure xq (P:Program) (kt:TypeId) (kv:κ→Value):Prop where
 bz: ∀e k w,(iV e 10000 kt (kv k)).run P w= .ok () w
 find: ∀k (l:List (ke κ)) w,(qG kt (kv k) (l.map (pQ kv))).run P w= .ok (rT k l 0) w
 same: ∀k,lK 10000 (kv k) (kv k)=true
theorem Ip (a b:ByteArray):(a==b)=decide (a=b):=by
 rw [beq_toListBytes]
 have:a.toList=b.toList↔a=b:=by
  constructor
  ·intro h
   rw [fD,fD] at h
   obtain⟨⟨x⟩⟩:=a;obtain⟨⟨y⟩⟩:=b
   simpa using h
  ·intro h;rw [h]
 by_cases h:a=b
 ·simp [h]
 ·simp [h,this]
theorem Hz {kt:TypeId} (h:P.underlying kt=some .string) (e:Bool) (n:Nat) (k:ByteArray) (w:World):
  (iV e (n+1) kt (.string k)).run P w= .ok () w:=by simp [iV,run_underlying h]
theorem Mf {kt:TypeId} {fs:Array Field} (h:P.underlying kt=some (.struct fs)) (e:Bool) (n:Nat) (cs:Array Value) (w:World)
  (hr:(forIn fs lL fun f (_:PUnit)=>(if f.name≠ "_" then(do
    let v←part f.type cs f.offset
    iV e n f.type v
    pure (pj lL))
   else pure (pj lL):Sem (ForInStep PUnit))).run P w= .ok lL w):
  (iV e (n+1) kt (.agg cs)).run P w= .ok () w:=by
 simp only [iV,bO,run_underlying h,bw]
 exact(congrArg (fun r=>r.andThen fun _ w'=>sO P (Pure.pure ()) w') hr).trans rfl
theorem rU {kt:TypeId} (h:P.underlying kt=some .string):xq P kt (fun s:ByteArray=>Value.string s) where
 bz e k w:=Hz h e 9999 k w
 find k l w:=by
  have: ∀(l:List (ke ByteArray)) (i:Nat),nZ .string (.string k) (l.map (pQ fun s=>Value.string s)) i=some (rT k l i):=by
   intro l
   induction l with
   |nil=>intro i;rfl
   |cons x r ih=>
    intro i
    by_cases hk:k=x.1
    ·simp [nZ,pQ,uV,rT,hk,Ip]
    ·simp [nZ,pQ,uV,rT,hk,ih,Ip]
  simp [qG,run_underlying h,this]
 same k:=by simp [lK,Ip]
theorem AA (w:World) (e:Bool) (d:Nat) (as:List Int): ∀(fs:List Field) (i:Nat),Ki P fs i=true→as.length=i+fs.length→
  (forIn fs lL fun f (_:PUnit)=>(if f.name≠ "_" then(do
    let v←part f.type (as.map (aA .i64)).toArray f.offset
    iV e (d+1) f.type v
    pure (pj lL))
   else pure (pj lL):Sem (ForInStep PUnit))).run P w= .ok lL w
 |[],i,_,_=>by simp
 |f::r,i,h,ha=>by
  simp only [Ki,aG,bne_iff_ne,ne_eq,beq_iff_eq] at h
  obtain⟨⟨⟨hn,hu⟩,ho⟩,hr⟩:=h
  simp only [bC] at ha
  have hia:i<as.length:=by omega
  cases hd:P.underlying f.type with
  |none=>simp [hd] at hu
  |some ty=>
   cases ty<;>simp only [hd,bA] at hu
   rename_i q
   have wo:(isAgg f.type).run P w= .ok false w:=by simp [isAgg,run_underlying hd]
   have Tc:(part f.type (as.map (aA .i64)).toArray f.offset).run P w= .ok (.int .i64 as[i]) w:=by
    simp [part,wo,ho,hia]
   have hck:(iV e (d+1) f.type (.int .i64 as[i])).run P w= .ok () w:=by
    simp [iV,run_underlying hd]
   have ih:=AA w e d as r (i+1) hr (by omega)
   rw [List.forIn_cons]
   simp only [ne_eq,hn,not_false_eq_true,if_true,bO,Tc,hck,bw,ck]
   exact ih
theorem RE (d:Nat) (as:List Int):lK (d+1) (.agg (as.map (aA .i64)).toArray) (.agg (as.map (aA .i64)).toArray)=true:=by
 have: ∀l:List Int,((l.map (aA .i64)).zip (l.map (aA .i64))).all (fun (x,y)=>lK d x y)=true:=by
  intro l
  induction l with
  |nil=>rfl
  |cons x r ih=>
   simp only [bh,List.zip_cons_cons,List.all_cons,ih,Bool.and_true]
   cases d<;>simp [lK]
 simp [lK,this]
theorem abQ {kt n:Nat} (h:jE P kt n=true) (as:κ→List Int) (hlen: ∀k,(as k).length=n) (ahG: ∀a b,as a=as b→a=b):
  xq P kt (fun k:κ=>aJ ((as k).map (aA .i64)).toArray) where
 bz e k w:=by
  have h0:=h
  unfold jE at h
  split at h
  ·rename_i fs hu
   simp only [aG,beq_iff_eq,bW] at h
   have hr:=AA (P:=P) w e 9998 (as k) fs.toList 0 h.1.1.2 (by rw [hlen,h.1.1.1];omega)
   rw [Array.forIn_toList] at hr
   exact Mf hu e 9999 _ w hr
  ·cases h
 find k l w:=by
  have h0:=h
  unfold jE at h0
  split at h0
  ·rename_i fs hu
   have ahH: ∀(l:List (ke κ)) (i:Nat),(rO kt (.agg ((as k).map (aA .i64)).toArray) (l.map (pQ fun k=>aJ ((as k).map (aA .i64)).toArray)) i).run P w= .ok (rT k l i) w:=by
    intro l
    induction l with
    |nil=>intro i;simp [rO,rT]
    |cons x r ih=>
     intro i
     have he:=y8 h (as k) (as x.1) (hlen _) (hlen _) w
     simp only [bh,rO,pQ,Op.equal,Op.maxDepth,bO,he,bw,rT]
     by_cases hk:k=x.1
     ·subst hk;simp
     ·have: ¬as k=as x.1:=fun e=>hk (ahG _ _ e)
      simp only [this,decide_false,bA,if_false,hk]
      exact ih _
   cases l with
   |nil=>simp [qG,run_underlying hu,nZ,rT]
   |cons x r=>
    have:=ahH (x::r) 0
    simp only [qG,bO,run_underlying hu,bw]
    simp only [bh,nZ,pQ,uV] at this⊢
    exact this
  ·cases h0
 same k:=RE 9999 (as k)
def mY (w:World) (X:XS) (b:Nat) (kv:κ→Value) (es:List (ke κ)) (clock:Nat):Prop:=
 X b∧w.heap[b]? =some (.map (es.map (pQ kv)).toArray clock)∧(es.map (·.1)).Nodup∧(es.map (·.2.2)).Nodup∧ ∀x∈es,x.2.2<clock
theorem mY.kp {b:Nat} {kv:κ→Value} {es:List (ke κ)} {c:Nat} {w':World} (h:mY w X b kv es c) (hk:Kp X w w'):mY w' X b kv es c:=
 ⟨h.1,by rw [hk.block b h.1];exact h.2.1,h.2.2⟩
theorem mY.mono {b:Nat} {kv:κ→Value} {es:List (ke κ)} {c:Nat} {Y:XS} (h:mY w X b kv es c) (hs: ∀k,X k→Y k):mY w Y b kv es c:=⟨hs _ h.1,h.2⟩
theorem mY.since {b:Nat} {kv:κ→Value} {es:List (ke κ)} {c:Nat} {Y:XS} {w':World} (h:mY w X b kv es c) (hs:aj X w Y w'):mY w' Y b kv es c:=
 (h.kp hs.kp).mono hs.sub
def Ds (k:κ) (es:List (ke κ)):Option Value:=(es.find? fun x=>decide (x.1=k)).map (·.2.1)
theorem Mg (k:κ): ∀(es:List (ke κ)) (i:Nat),rT k es i=(es.findIdx? fun x=>decide (x.1=k)).bind fun j=>(es[j]?).map fun x=>(i+j,x.2.1)
 |[],i=>rfl
 |x::r,i=>by
  unfold rT
  by_cases h:k=x.1
  ·simp [h,jd]
  ·rw [if_neg h,Mg k r (i+1)]
   have h': ¬x.1=k:=fun e=>h e.symm
   simp only [jd,h',decide_false,bA,if_false]
   cases r.findIdx? fun x=>decide (x.1=k)with
   |none=>rfl
   |some j=>simp [Nat.add_assoc,Nat.add_comm 1 j]
theorem QJ (k:κ): ∀(es:List (ke κ)) (i:Nat),(rT k es i).map (·.2)=Ds k es
 |[],i=>rfl
 |x::r,i=>by
  unfold rT Ds
  by_cases h:k=x.1
  ·simp [h]
  ·have h': ¬x.1=k:=fun e=>h e.symm
   rw [if_neg h,QJ k r (i+1)]
   simp [Ds,h']
theorem Yp {t kt et b c:Nat} {kv:κ→Value} {es:List (ke κ)} {k:κ} {N:Value→Prop} (z:Value) (h:mY w X b kv es c) (K:xq P kt kv)
  (ht:P.underlying t=some (.map kt et)) (hz:(P.info? et).bind (·.zero)=some z)
  (n:N (.tuple #[(Ds k es).getD z,.bool (Ds k es).isSome])):aa P X w (Instr.lookup t (.map (some b)) (kv k) true) N:=by
 refine D7 _ (fun wa hk=>?_) n
 have hb:=(h.kp hk).2.1
 cases hi:P.info? et with
 |none=>simp [hi] at hz
 |some inf=>
  have zE:inf.zero=some z:=by simpa [hi] using hz
  have hg:=QJ k es 0
  simp only [Instr.lookup,bO,run_underlying ht,bw,getObj,sO,hb,K.bz,fY,K.find]
  cases hf:rT k es 0 with
  |none=>
   rw [hf] at hg
   simp only [Option.map_none] at hg
   simp [zeroValue,typeInfo,hi,zE,←hg,K.find,hf]
  |some r=>
   rw [hf] at hg
   simp only [bN] at hg
   simp [←hg,K.find,hf]
theorem Yq {t:TypeId} {kv:κ→Value} {N:Value→World→XS→Prop} (hX: ∀k,X k→k<w.heap.size)
  (n: ∀b w' X',w.heap.size≤b→aj X w X' w'→mY w' X' b kv [] 0→N (.map (some b)) w' X'):eV P R X w m (kR t none) N:=by
 intro wa hk
 unfold kh
 have hr:(kR t none).run P wa= .ok (.map (some wa.heap.size)) (wa.alloc (.map #[] 0)):=by simp [kR]
 simp only [vS,bO,hr,bw,ck]
 have hx:Ext wa (wa.alloc (.map #[] 0)):=Ext.alloc _ _
 exact⟨Step.fE hx,n _ _ _ hk.size (aj.fE hX hk hx) ⟨.inr ⟨bp _,by simp⟩,by simpa using heap_alloc_new wa _,by simp,by simp,by simp⟩⟩
open Go.ChangeMaps (setBlock)
theorem Iq {b:Nat} {o:Obj} {wa:World} (hX: ∀k,X k→k<w.heap.size) (hk:Kp X w wa):Grown X w (grow X wa (setBlock wa b o)) (setBlock wa b o) (some b):=by
 have hs:(setBlock wa b o).heap.size=wa.heap.size:=by simp [setBlock]
 refine⟨hk.os,hk.tape,hk.output,by rw [hs];exact hk.size,fun k hx dr=>?_,fun k h=>.inl h,fun k h=>?_⟩
 ·rw [←hk.block k hx]
  have:b≠k:=fun e=>dr (by rw [e])
  simp [setBlock,eB,this]
 ·rw [hs]
  exact h.elim (fun h=>aU (hX k h) hk.size) (fun h=>by have:=h.2;rwa [hs] at this)
theorem Td {b:Nat} {o:Obj} {wa:World} (hb:X b):Fr X wa (setBlock wa b o):=by
 refine⟨rfl,rfl,rfl,by simp [setBlock],fun k _ hx=>?_⟩
 have:b≠k:=fun e=>hx (e▸hb)
 simp [setBlock,eB,this]
theorem Nv {b:Nat} {o:Obj} {wa:World} (hb:b<wa.heap.size):(setBlock wa b o).heap[b]? =some o:=by
 simp [setBlock,eB,hb]
theorem run_setObj_map {wa:World} {b:Nat} {es:Array MapEntry} {c:Nat} (hb:wa.heap[b]? =some (.map es c)) (o:Obj):(setObj b o).run P wa= .ok () (setBlock wa b o):=by
 simp [setObj,sO,hb,setBlock]
def BI (k:κ) (v:Value) (c:Nat) (es:List (ke κ)):List (ke κ)×Nat:=
 match es.findIdx? fun x=>decide (x.1=k)with
 |some i=>(es.modify i fun x=>(x.1,v,x.2.2),c)
 |none=>(es++[(k,v,c)],c+1)
theorem y9 {β γ:Type} (g:β→γ) (f:β→β) (hf: ∀x,g (f x)=g x): ∀(l:List β) (i:Nat),(l.modify i f).map g=l.map g
 |[],i=>by simp
 |x::r,0=>by simp [hf]
 |x::r,i+1=>by simp [y9 g f hf r i]
theorem mem_modify {β:Type} {f:β→β} : ∀{l:List β} {i:Nat} {y:β},y∈l.modify i f→ ∃x∈l,y=x∨y=f x
 |[],i,y,h=>by simp at h
 |x::r,0,y,h=>by
  simp only [List.modify_zero_cons,jq] at h
  rcases h with h|h
  ·exact⟨x,by simp,.inr h⟩
  ·exact⟨y,by simp [h],.inl rfl⟩
 |x::r,i+1,y,h=>by
  simp only [List.modify_succ_cons,jq] at h
  rcases h with h|h
  ·exact⟨x,by simp,.inl h⟩
  ·obtain⟨z,hz,he⟩:=mem_modify h
   exact⟨z,by simp [hz],he⟩
theorem aeX {t kt et b c:Nat} {kv:κ→Value} {es:List (ke κ)} {k:κ} {v:Value} {N:Value→World→XS→Prop} (h:mY w X b kv es c) (K:xq P kt kv)
  (ht:P.underlying t=some (.map kt et)) (hX: ∀k,X k→k<w.heap.size)
  (n: ∀w' X',Grown X w X' w' (some b)→mY w' X' b kv (BI k v c es).1 (BI k v c es).2→N undef w' X'):
  eU P R X w true (gJ t (.map (some b)) (kv k) v) N:=by
 intro wa hk
 have hM:=h.kp hk
 have hb:=hM.2.1
 have dh:b<wa.heap.size:=(Array.getElem?_eq_some_iff.1 hb).1
 unfold kh
 have hr:(gJ t (.map (some b)) (kv k) v).run P wa= .ok () (setBlock wa b (.map ((BI k v c es).1.map (pQ kv)).toArray (BI k v c es).2)):=by
  simp only [gJ,bO,run_underlying ht,bw,getObj,sO,hb,K.bz,fY,K.find,Mg]
  unfold BI
  cases hf:es.findIdx? fun x=>decide (x.1=k)with
  |none=>simp [run_setObj_map hb,pQ]
  |some j=>
   have hj:=List.findIdx?_eq_some_iff_getElem.1 hf
   obtain⟨D8,H6,_⟩:=hj
   have aeY:es[j].1=k:=by simpa using H6
   simp only [dv,bL D8,bN,fH,bO]
   have ix:(vg (((es.map (pQ kv)).toArray[j]?).map (·.key)|>.getD (kv k)) (kv k)).run P wa= .ok (kv k) wa:=by
    simp [vg,D8,pQ,aeY,K.same]
   rw [ix]
   simp only [bw,run_setObj_map hb]
   congr 3
   rw [List.modify_toArray]
   congr 1
   apply List.ext_getElem?
   intro q
   simp only [List.getElem?_modify,dQ]
   by_cases hq:j=q
   ·subst hq;simp [bL D8,pQ,aeY]
   ·simp [hq]
 simp only [uS,bO,hr,bw,ck]
 refine⟨Td hM.1,n _ _ (Iq hX hk) ⟨.inl h.1,Nv dh,?_,?_,?_⟩⟩
 ·unfold BI
  cases hf:es.findIdx? fun x=>decide (x.1=k)with
  |none=>
   simp only [bq,bh,List.map_nil]
   rw [lI]
   refine⟨h.2.2.1,by simp,fun a ha y hy=>?_⟩
   simp only [bo] at hy
   subst hy
   rintro rfl
   obtain⟨x,hx,rfl⟩:=List.mem_map.1 ha
   have:=List.findIdx?_eq_none_iff.1 hf x hx
   simp at this
  |some j=>simp only;rw [y9 (fun x:ke κ=>x.1) (fun x=>(x.1,v,x.2.2)) (fun _=>rfl)];exact h.2.2.1
 ·unfold BI
  cases hf:es.findIdx? fun x=>decide (x.1=k)with
  |none=>
   simp only [bq,bh,List.map_nil]
   rw [lI]
   refine⟨h.2.2.2.1,by simp,fun a ha y hy=>?_⟩
   simp only [bo] at hy
   subst hy
   rintro rfl
   obtain⟨x,hx,he⟩:=List.mem_map.1 ha
   have:=h.2.2.2.2 x hx
   omega
  |some j=>simp only;rw [y9 (fun x:ke κ=>x.2.2) (fun x=>(x.1,v,x.2.2)) (fun _=>rfl)];exact h.2.2.2.1
 ·unfold BI
  cases hf:es.findIdx? fun x=>decide (x.1=k)with
  |none=>
   intro x hx
   rcases List.mem_append.1 hx with hx|hx
   ·have:=h.2.2.2.2 x hx;show x.2.2<c+1;omega
   ·simp only [bo] at hx;subst hx;exact Nat.lt_succ_self c
  |some j=>
   intro x hx
   obtain⟨y,hy,rfl|rfl⟩:=mem_modify hx
   ·exact h.2.2.2.2 _ hy
   ·exact h.2.2.2.2 y hy
def Mh (k:κ) (es:List (ke κ)):List (ke κ):=match es.findIdx? fun x=>decide (x.1=k)with
 |some i=>es.eraseIdx i
 |none=>es
theorem aai {t kt et tk ty b c:Nat} {kv:κ→Value} {es:List (ke κ)} {k:κ} {N:Value→World→XS→Prop} (h:mY w X b kv es c) (K:xq P kt kv)
  (ht:P.underlying t=some (.map kt et)) (hX: ∀k,X k→k<w.heap.size)
  (n: ∀w' X',Grown X w X' w' (some b)→mY w' X' b kv (Mh k es) c→N (.tuple #[]) w' X'):
  eV P R X w true (jW #[t,tk] ty #[.map (some b),kv k]) N:=by
 intro wa hk
 have hM:=h.kp hk
 have hb:=hM.2.1
 have dh:b<wa.heap.size:=(Array.getElem?_eq_some_iff.1 hb).1
 unfold kh
 have pC:(Mh k es).Sublist es:=by
  unfold Mh;split
  ·exact List.eraseIdx_sublist _ _
  ·exact List.Sublist.refl _
 have hr:(jW #[t,tk] ty #[.map (some b),kv k]).run P wa= .ok (.tuple #[]) (setBlock wa b (.map ((Mh k es).map (pQ kv)).toArray c)):=by
  have e0:(#[t,tk]:Array TypeId)[0]? =some t:=rfl
  have e1:(#[Value.map (some b),kv k]:Array Value)[0]? =some (.map (some b)):=rfl
  have e2:(#[Value.map (some b),kv k]:Array Value)[1]? =some (kv k):=rfl
  simp only [jW,e0,e1,e2,bO,run_underlying ht,bw,getObj,sO,hb,K.bz,fY,K.find,Mg]
  unfold Mh
  cases hf:es.findIdx? fun x=>decide (x.1=k)with
  |none=>simp [run_setObj_map hb]
  |some j=>
   obtain⟨D8,_,_⟩:=List.findIdx?_eq_some_iff_getElem.1 hf
   simp only [dv,bL D8,bN,fH,run_setObj_map hb,bw,ck]
   simp [Array.eraseIdxIfInBounds,D8,Go.ChangeMaps.map_eraseIdx,run_setObj_map hb]
 simp only [vS,bO,hr,bw,ck]
 exact⟨Td hM.1,n _ _ (Iq hX hk) ⟨.inl h.1,Nv dh,h.2.2.1.sublist (pC.map _),h.2.2.2.1.sublist (pC.map _),fun x hx=>h.2.2.2.2 x (pC.subset hx)⟩⟩
def xt (w:World) (X:XS) (r b:Nat) (kv:κ→Value) (es:List (ke κ)) (c:Nat) (left:List (ke κ)):Prop:=
 mY w X b kv es c∧X r∧r≠b∧ ∃seen:Array Nat,w.heap[r]? =some (.mapIter (some b) c seen c)∧left=es.filter (fun x=>!seen.contains x.2.2)
theorem xt.kp {r b:Nat} {kv:κ→Value} {es left:List (ke κ)} {c:Nat} {w':World} (h:xt w X r b kv es c left) (hk:Kp X w w'):xt w' X r b kv es c left:=
 ⟨h.1.kp hk,h.2.1,h.2.2.1,let⟨s,hs,hl⟩:=h.2.2.2;⟨s,by rw [hk.block r h.2.1];exact hs,hl⟩⟩
theorem xt.mono {r b:Nat} {kv:κ→Value} {es left:List (ke κ)} {c:Nat} {Y:XS} (h:xt w X r b kv es c left) (hs: ∀k,X k→Y k):xt w Y r b kv es c left:=
 ⟨h.1.mono hs,hs _ h.2.1,h.2.2⟩
theorem xt.since {r b:Nat} {kv:κ→Value} {es left:List (ke κ)} {c:Nat} {Y:XS} {w':World} (h:xt w X r b kv es c left) (hs:aj X w Y w'):xt w' Y r b kv es c left:=
 (h.kp hs.kp).mono hs.sub
theorem abR {t kt et b c:Nat} {kv:κ→Value} {es:List (ke κ)} {N:Value→World→XS→Prop} (h:mY w X b kv es c) (ht:P.underlying t=some (.map kt et))
  (hX: ∀k,X k→k<w.heap.size) (n: ∀r w' X',w.heap.size≤r→aj X w X' w'→xt w' X' r b kv es c es→N (ptr r 0) w' X'):
  eV P R X w m (wX t (.map (some b))) N:=by
 intro wa hk
 have hM:=h.kp hk
 have hb:=hM.2.1
 have dh:b<wa.heap.size:=(Array.getElem?_eq_some_iff.1 hb).1
 unfold kh
 have hr:(wX t (.map (some b))).run P wa= .ok (ptr wa.heap.size 0) (wa.alloc (.mapIter (some b) c #[] c)):=by
  simp [wX,run_underlying ht,getObj,sO,hb]
 simp only [vS,bO,hr,bw,ck]
 have hx:Ext wa (wa.alloc (.mapIter (some b) c #[] c)):=Ext.alloc _ _
 have hs:=aj.fE hX hk hx
 exact⟨Step.fE hx,n _ _ _ hk.size hs ⟨h.since hs,.inr ⟨bp _,by simp⟩,by omega,#[],heap_alloc_new wa _,(List.filter_eq_self.2 (by simp)).symm⟩⟩
theorem adZ {ty r b c:Nat} {kv:κ→Value} {es left:List (ke κ)} {N:Value→World→XS→Prop} (h:xt w X r b kv es c left) (hX: ∀k,X k→k<w.heap.size)
  (n0:left=[]→ ∀w' X',aj X w X' w'→N (.tuple #[.bool false]) w' X')
  (n1: ∀x∈left,∀w' X',Grown X w X' w' (some r)→xt w' X' r b kv es c (left.filter fun y=>decide (y.2.2≠x.2.2))→
   (∀wa,Kp X' w' wa→(mB (ptr r 0)).run P wa= .ok (.tuple #[kv x.1,x.2.1]) wa)→N (.tuple #[.bool true,kv x.1,x.2.1]) w' X'):
  eV P R X w true (Instr.next (ptr r 0) false ty) N:=by
 intro wa hk
 obtain⟨hM,hXr,GY,seen,hr,Yr⟩:=h.kp hk
 have hb:=hM.2.1
 have BJ:r<wa.heap.size:=(Array.getElem?_eq_some_iff.1 hr).1
 unfold kh
 have hold: ∀x∈((es.map (pQ kv)).toArray).toList,x.born<c:=by
  intro x hx
  simp only [fY,List.mem_map] at hx
  obtain⟨y,hy,rfl⟩:=hx
  exact hM.2.2.2.2 y hy
 have fT:(leftOf (es.map (pQ kv)).toArray seen).toList=left.map (pQ kv):=by
  rw [Yr]
  simp only [leftOf,Array.toList_filter,fY,List.filter_map]
  rfl
 rcases run_next_at (P:=P) wa ty r b c c seen _ c hr hb hold (bp _)with⟨hz,oy⟩|⟨e,he,w1,GZ,oy⟩
 ·simp only [vS,bO,oy,bw,ck]
  have h0:left=[]:=by
   have:left.map (pQ kv)=[]:=by rw [←fT];exact fQ (by simpa using hz)
   simpa using this
  exact⟨Step.fE (Ext.refl _),n0 h0 _ _ (aj.fE hX hk (Ext.refl _))⟩
 ·rw [fT] at he
  obtain⟨x,hx,rfl⟩:=List.mem_map.1 he
  simp only [vS,bO,oy,bw,ck]
  have xu:Kp X w w1:=by
   rcases GZ with rfl|rfl
   ·exact hk
   ·exact⟨hk.os,hk.tape,hk.output,hk.size,hk.block⟩
  have aeZ:r<w1.heap.size:=by rcases GZ with rfl|rfl<;>exact BJ
  have mF:w1.heap[b]? =some (.map (es.map (pQ kv)).toArray c):=by rcases GZ with rfl|rfl<;>exact hb
  have ahI:Fr X wa w1:=by rcases GZ with rfl|rfl<;>exact⟨rfl,rfl,rfl,bp _,fun _ _ _=>rfl⟩
  have pR: ∀o,(setBlock w1 r o).heap[b]? =some (.map (es.map (pQ kv)).toArray c):=by
   intro o
   rw [←mF]
   simp [setBlock,eB,GY]
  have mm:w1.heap.size=wa.heap.size:=by rcases GZ with rfl|rfl<;>rfl
  have agQ:grow X wa (setBlock w1 r (.mapIter (some b) c (seen.push x.2.2) c))=grow X w1 (setBlock w1 r (.mapIter (some b) c (seen.push x.2.2) c)):=by
   unfold grow;rw [mm]
  have hG:=Iq (o:=.mapIter (some b) c (seen.push x.2.2) c) (b:=r) hX xu
  have Te:xt (setBlock w1 r (.mapIter (some b) c (seen.push x.2.2) c)) (grow X w1 (setBlock w1 r (.mapIter (some b) c (seen.push x.2.2) c))) r b kv es c (left.filter fun y=>decide (y.2.2≠x.2.2)):=by
   refine⟨⟨.inl hM.1,pR _,hM.2.2⟩,.inl hXr,GY,seen.push x.2.2,Nv aeZ,?_⟩
   rw [Yr,List.filter_filter]
   congr 1
   funext y
   by_cases hy:y.2.2=x.2.2<;>simp [hy,Array.contains_push,Bool.beq_eq_decide_eq]
  show Fr X wa _∧N _ _ (grow X wa _)
  refine⟨ahI.trans (Td hXr),?_⟩
  show N (.tuple #[.bool true,kv x.1,x.2.1]) (setBlock w1 r (.mapIter (some b) c (seen.push x.2.2) c)) (grow X wa (setBlock w1 r (.mapIter (some b) c (seen.push x.2.2) c)))
  rw [agQ]
  refine n1 x hx _ _ hG Te fun wb sH=>?_
  have ahJ:=Te.kp sH
  have hxe:x∈es:=by rw [Yr] at hx;exact(List.mem_filter.1 hx).1
  exact run_entry_at (P:=P) wb r b c seen (es.map (pQ kv)).toArray c (pQ kv x) (by rw [sH.block r (.inl hXr)];exact Nv aeZ) ahJ.1.2.1 (by rw [fY];exact List.mem_map.2 ⟨x,hxe,rfl⟩)
   (by rw [fY,List.map_map];exact hM.2.2.2.1)
theorem abS {r:Nat} {k v:Value} {N:Value→World→XS→Prop} (hX: ∀k,X k→k<w.heap.size)
  (h: ∀wa,Kp X w wa→(mB (ptr r 0)).run P wa= .ok (.tuple #[k,v]) wa) (n: ∀w' X',aj X w X' w'→N (.tuple #[k,v]) w' X'):
  eV P R X w m (mB (ptr r 0)) N:=by
 intro wa hk
 unfold kh
 simp only [vS,bO,h wa hk,bw,ck]
 exact⟨Step.fE (Ext.refl _),n _ _ (aj.fE hX hk (Ext.refl _))⟩
variable {P : Program} {R : Ending → World → Prop} {X : XS} {w : World} {m : Bool} {N : Value → Prop}
def un (e:Value) (M:Value→Prop):Prop:=M e
def jn {α:Type} (r:α) (B:α→Prop):Prop:=B r
def aQ (S f _fo _sz:Nat) (x:Value):Sem Value:=qB S x f
def aX (t:TypeId) (x:Value):Sem Value:=jJ t x
def gL (t:TypeId) (_n:Nat) (x:Value):Sem Value:=jJ t x
def eo (t:TypeId) (_n:Nat) (x v:Value):Sem Unit:=qD t x v
def dx (t:TypeId) (_k:Nat) (v i:Value):Sem Value:=Instr.indexAt t v i
def cr (t ty:TypeId) (v:Value):Sem Value:=kg #[t] ty #[v]
def nu (t ty:TypeId) (v:Value):Sem Value:=kg #[t] ty #[v]
def fF (t:TypeId) (_cells:Array Value) (parts:Array (Nat×Value)):Sem Value:=wW t parts
def mO (_k:IntKind) (src dst:TypeId) (x:Value):Sem Value:=convert src dst x
def BK (src dst:TypeId) (x:Value):Sem Value:=convert src dst x
def AB (t _n _e:Nat) (x i:Value):Sem Value:=wY t x i
def jc (t _e _k len:Nat) (parts:Array (Nat×Value)):Sem Value:=ig t len parts
def iS (t _e _k _bytes ty:Nat) (v s:Value):Sem Value:=ey #[t,t] ty #[v,s]
def Xh (S f _fo _sz:Nat) (x:Value):Sem Value:=Instr.field S x f
abbrev I (x:Int):Value:=.int .i64 x
abbrev B (x:Bool):Value:=.bool x
def BL (X:XS) (w:World) (F:JT→Nat→World→XS→Prop):Prop:=QI X w [] [] fun J n _ w X=>F J n w X
def jB (X:XS) (w:World) (v1:Value) (c1:Nat) (F:JT→Nat→Value→World→XS→Prop):Prop:=QI X w [v1] [c1] fun J n e w X=>F J n (e c1) w X
def lq (X:XS) (w:World) (v1 v2:Value) (c1 c2:Nat) (F:JT→Nat→Value→Value→World→XS→Prop):Prop:=
 QI X w [v1,v2] [c1,c2] fun J n e w X=>F J n (e c1) (e c2) w X
def wK (X:XS) (w:World) (v1 v2 v3:Value) (c1 c2 c3:Nat) (F:JT→Nat→Value→Value→Value→World→XS→Prop):Prop:=
 QI X w [v1,v2,v3] [c1,c2,c3] fun J n e w X=>F J n (e c1) (e c2) (e c3) w X
def D9 (X:XS) (w:World) (v1 v2 v3 v4:Value) (c1 c2 c3 c4:Nat) (F:JT→Nat→Value→Value→Value→Value→World→XS→Prop):Prop:=
 QI X w [v1,v2,v3,v4] [c1,c2,c3,c4] fun J n e w X=>F J n (e c1) (e c2) (e c3) (e c4) w X
def Ea (X:XS) (w:World) (v1 v2 v3 v4 v5:Value) (c1 c2 c3 c4 c5:Nat) (F:JT→Nat→Value→Value→Value→Value→Value→World→XS→Prop):Prop:=
 QI X w [v1,v2,v3,v4,v5] [c1,c2,c3,c4,c5] fun J n e w X=>F J n (e c1) (e c2) (e c3) (e c4) (e c5) w X
def Eb (X:XS) (w:World) (v1 v2 v3 v4 v5 v6:Value) (c1 c2 c3 c4 c5 c6:Nat) (F:JT→Nat→Value→Value→Value→Value→Value→Value→World→XS→Prop):Prop:=
 QI X w [v1,v2,v3,v4,v5,v6] [c1,c2,c3,c4,c5,c6] fun J n e w X=>F J n (e c1) (e c2) (e c3) (e c4) (e c5) (e c6) w X
def Ec (X:XS) (w:World) (v1 v2 v3 v4 v5 v6 v7:Value) (c1 c2 c3 c4 c5 c6 c7:Nat) (F:JT→Nat→Value→Value→Value→Value→Value→Value→Value→World→XS→Prop):Prop:=
 QI X w [v1,v2,v3,v4,v5,v6,v7] [c1,c2,c3,c4,c5,c6,c7] fun J n e w X=>F J n (e c1) (e c2) (e c3) (e c4) (e c5) (e c6) (e c7) w X
def BM (J:JT) (n:Nat) (w:World) (X:XS):Prop:=zH J n [] w X
def jC (J:JT) (n:Nat) (a:Value) (w:World) (X:XS):Prop:=zH J n [a] w X
def lr (J:JT) (n:Nat) (a b:Value) (w:World) (X:XS):Prop:=zH J n [a,b] w X
def wL (J:JT) (n:Nat) (a b c:Value) (w:World) (X:XS):Prop:=zH J n [a,b,c] w X
def Ed (J:JT) (n:Nat) (a b c d:Value) (w:World) (X:XS):Prop:=zH J n [a,b,c,d] w X
def Ee (J:JT) (n:Nat) (a b c d f:Value) (w:World) (X:XS):Prop:=zH J n [a,b,c,d,f] w X
def Ef (J:JT) (n:Nat) (a b c d f g:Value) (w:World) (X:XS):Prop:=zH J n [a,b,c,d,f,g] w X
def Eg (J:JT) (n:Nat) (a b c d f g h:Value) (w:World) (X:XS):Prop:=zH J n [a,b,c,d,f,g,h] w X
def J0 (I:Nat→World→XS→Prop):JT:=fun n _ w X=>I n w X
def J1 (I:Nat→Value→World→XS→Prop):JT:=fun n vs w X=>match vs with
 |[a]=>I n a w X
 |_=>False
def J2 (I:Nat→Value→Value→World→XS→Prop):JT:=fun n vs w X=>match vs with
 |[a,b]=>I n a b w X
 |_=>False
def J3 (I:Nat→Value→Value→Value→World→XS→Prop):JT:=fun n vs w X=>match vs with
 |[a,b,c]=>I n a b c w X
 |_=>False
theorem ae0 {F} (I:Nat→World→XS→Prop) (n:Nat) (h0:I n w X)
  (h: ∀n w' X',I n w' X'→F (J0 I) n w' X'):BL X w F:=⟨J0 I,⟨n,h0⟩,fun n _ w' X' _ hj=>h n w' X' hj⟩
theorem fK {v1 c1 F} (I:Nat→Value→World→XS→Prop) (n:Nat) (h0:I n v1 w X)
  (h: ∀n a w' X',I n a w' X'→F (J1 I) n a w' X'):jB X w v1 c1 F:=⟨J1 I,⟨n,h0⟩,fun n e w' X' _ hj=>h n (e c1) w' X' hj⟩
theorem iN {v1 v2 c1 c2 F} (I:Nat→Value→Value→World→XS→Prop) (n:Nat) (h0:I n v1 v2 w X)
  (h: ∀n a b w' X',I n a b w' X'→F (J2 I) n a b w' X'):lq X w v1 v2 c1 c2 F:=⟨J2 I,⟨n,h0⟩,fun n e w' X' _ hj=>h n (e c1) (e c2) w' X' hj⟩
theorem Eh {v1 v2 v3 c1 c2 c3 F} (I:Nat→Value→Value→Value→World→XS→Prop) (n:Nat) (h0:I n v1 v2 v3 w X)
  (h: ∀n a b c w' X',I n a b c w' X'→F (J3 I) n a b c w' X'):wK X w v1 v2 v3 c1 c2 c3 F:=⟨J3 I,⟨n,h0⟩,fun n e w' X' _ hj=>h n (e c1) (e c2) (e c3) w' X' hj⟩
theorem ae1 {I n} (k:Nat) (hk:k<n) (h:I k w X):BM (J0 I) n w X:=⟨k,hk,h⟩
theorem ga {I n a} (k:Nat) (hk:k<n) (h:I k a w X):jC (J1 I) n a w X:=⟨k,hk,h⟩
theorem iC {I n a b} (k:Nat) (hk:k<n) (h:I k a b w X):lr (J2 I) n a b w X:=⟨k,hk,h⟩
theorem BN {I n a b c} (k:Nat) (hk:k<n) (h:I k a b c w X):wL (J3 I) n a b c w X:=⟨k,hk,h⟩
theorem dY {α:Type} {r:α} {F:α→Prop} (h:F r):jn r F:=h
theorem fV {α:Type} {r:α} {F:α→Prop} (Q:α→Prop) (h:Q r) (k: ∀c,Q c→F c):jn r F:=k r h
theorem gP {l:List Value} {i:Nat} {a:Value} {M:Value→Prop} (h:l[i]? =some a) (k:M a):un (cellOf (.agg l.toArray) i) M:=by
 have:cellOf (.agg l.toArray) i=a:=by simp [cellOf,ad,ly,h]
 unfold un;rw [this];exact k
theorem aaj {l:List Value} {o n:Nat} {M:Value→Prop} (k:M (.agg ((l.drop o).take n).toArray)):un (eQ (.agg l.toArray) o n) M:=by
 have:eQ (.agg l.toArray) o n= .agg ((l.drop o).take n).toArray:=by simp [eQ,ad]
 unfold un;rw [this];exact k
theorem ff {c:Array Value} {M:Value→Prop} (k:M (.agg c)):un (.agg (ad (.agg c))) M:=k
theorem dz {v:Value} {M:Value→Prop} (k:M v):un (aL (.bool true) true v) M:=k
theorem dG {v:Value} {M:Value→Prop} (k:M v):un (aL (.bool false) false v) M:=k
theorem fb {v:Value} {M:Value→Prop} (k:M undef):un (aL (.bool true) false v) M:=k
theorem cL {v:Value} {M:Value→Prop} (k:M undef):un (aL (.bool false) true v) M:=k
theorem oR {v:Value} {q:Bool} {M:Value→Prop} (k:M undef):un (aL undef q v) M:=by
 have:aL undef q v=undef:=by cases q<;>rfl
 unfold un;rw [this];exact k
theorem eh {b:Bool} {A:Prop} (h:b=true) (k:A):bz b A:=by subst h;exact k
theorem aD {A C:Prop} (h:A):ao (.bool true) A C:=⟨fun _=>h,fun h=>absurd h (by simp)⟩
theorem ak {A C:Prop} (h:C):ao (.bool false) A C:=⟨fun h=>absurd h (by simp),fun _=>h⟩
theorem pS {s:Sem Next} {want:Bool} (h:N undef):aF P X w undef want s N:=by
 have e:mX undef want=false:=by cases want<;>rfl
 unfold aF
 exact⟨undef,fun hf=>absurd (e.symm.trans hf) (by simp),fun _=>rfl,h⟩
theorem cM {s:Sem Value} (h:aa P X w s N):aF P X w (.bool true) true (vS s) N:=Kh h
theorem cD {s:Sem Value} (h:aa P X w s N):aF P X w (.bool false) false (vS s) N:=Kh h
section
variable {t : TypeId} {k : IntKind} {a b : Int} {xo yo : Operand}
theorem kE (hT:a<b→N (.bool true)) (hF: ¬a<b→N (.bool false)):aa P X w (binOp .lss t (.int k a) (.int k b)) N:=
 adT (by by_cases h:a<b;(· rw [decide_eq_true h];exact hT h);(· rw [decide_eq_false h];exact hF h))
theorem jK (hT:a≤b→N (.bool true)) (hF: ¬a≤b→N (.bool false)):aa P X w (binOp .leq t (.int k a) (.int k b)) N:=
 adU (by by_cases h:a≤b;(· rw [decide_eq_true h];exact hT h);(· rw [decide_eq_false h];exact hF h))
theorem kF (hT:a>b→N (.bool true)) (hF: ¬a>b→N (.bool false)):aa P X w (binOp .gtr t (.int k a) (.int k b)) N:=
 adV (by by_cases h:a>b;(· rw [decide_eq_true h];exact hT h);(· rw [decide_eq_false h];exact hF h))
theorem mG (hT:a≥b→N (.bool true)) (hF: ¬a≥b→N (.bool false)):aa P X w (binOp .geq t (.int k a) (.int k b)) N:=
 adW (by by_cases h:a≥b;(· rw [decide_eq_true h];exact hT h);(· rw [decide_eq_false h];exact hF h))
theorem gF (hT:a=b→N (.bool true)) (hF: ¬a=b→N (.bool false)):aa P X w (aI .eql t xo yo (.int k a) (.int k b)) N:=
 Xc (by by_cases h:a=b;(· rw [decide_eq_true h];exact hT h);(· rw [decide_eq_false h];exact hF h))
theorem kG (hT: ¬a=b→N (.bool true)) (hF:a=b→N (.bool false)):aa P X w (aI .neq t xo yo (.int k a) (.int k b)) N:=
 adX (by by_cases h:a=b;(· rw [decide_eq_false (fun hn=>hn h)];exact hF h);(· rw [decide_eq_true h];exact hT h))
theorem dC (h:a<b) (k':N (.bool true)):aa P X w (binOp .lss t (.int k a) (.int k b)) N:=kE (fun _=>k') (fun hn=>absurd h hn)
theorem dm (h: ¬a<b) (k':N (.bool false)):aa P X w (binOp .lss t (.int k a) (.int k b)) N:=kE (fun hn=>absurd hn h) (fun _=>k')
theorem ae2 (h: ¬a≤b) (k':N (.bool false)):aa P X w (binOp .leq t (.int k a) (.int k b)) N:=jK (fun hn=>absurd hn h) (fun _=>k')
theorem BO (h:a>b) (k':N (.bool true)):aa P X w (binOp .gtr t (.int k a) (.int k b)) N:=kF (fun _=>k') (fun hn=>absurd h hn)
theorem lN (h: ¬a>b) (k':N (.bool false)):aa P X w (binOp .gtr t (.int k a) (.int k b)) N:=kF (fun hn=>absurd hn h) (fun _=>k')
theorem Nw (h:a≥b) (k':N (.bool true)):aa P X w (binOp .geq t (.int k a) (.int k b)) N:=mG (fun _=>k') (fun hn=>absurd h hn)
theorem Ei (h: ¬a≥b) (k':N (.bool false)):aa P X w (binOp .geq t (.int k a) (.int k b)) N:=mG (fun hn=>absurd hn h) (fun _=>k')
theorem m7 (h:a=b) (k':N (.bool true)):aa P X w (aI .eql t xo yo (.int k a) (.int k b)) N:=gF (fun _=>k') (fun hn=>absurd h hn)
theorem qU (h: ¬a=b) (k':N (.bool false)):aa P X w (aI .eql t xo yo (.int k a) (.int k b)) N:=gF (fun hn=>absurd hn h) (fun _=>k')
theorem xv (h: ¬a=b) (k':N (.bool true)):aa P X w (aI .neq t xo yo (.int k a) (.int k b)) N:=kG (fun _=>k') (fun hn=>absurd hn h)
theorem fL (h:a=b) (k':N (.bool false)):aa P X w (aI .neq t xo yo (.int k a) (.int k b)) N:=kG (fun hn=>absurd h hn) (fun _=>k')
theorem cx (h1: -(2^63)≤a+b) (h2:a+b<2^63) (h:N (.int .i64 (a+b))):aa P X w (binOp .add t (.int .i64 a) (.int .i64 b)) N:=
 Pm (by rw [wrap_i64 h1 h2];exact h)
theorem kY (h1: -(2^63)≤a-b) (h2:a-b<2^63) (h:N (.int .i64 (a-b))):aa P X w (binOp .sub t (.int .i64 a) (.int .i64 b)) N:=
 Xb (by rw [wrap_i64 h1 h2];exact h)
theorem agR (h1: -(2^63)≤a*b) (h2:a*b<2^63) (h:N (.int .i64 (a*b))):aa P X w (binOp .mul t (.int .i64 a) (.int .i64 b)) N:=
 Pn (by rw [wrap_i64 h1 h2];exact h)
end
theorem Fm {a b:ByteArray} :a.toList=b.toList↔a=b:=by
 constructor
 ·intro h
  rw [fD,fD] at h
  obtain⟨⟨x⟩⟩:=a;obtain⟨⟨y⟩⟩:=b
  simpa using h
 ·intro h;rw [h]
def kO (a b:ByteArray):Bool:=b7 a.toList b.toList
section
variable {t : TypeId} {a b : ByteArray} {xo yo : Operand}
theorem zJ (hT:a=b→N (.bool true)) (hF: ¬a=b→N (.bool false)):aa P X w (aI .eql t xo yo (.string a) (.string b)) N:=
 abz (by simp only [Fm];by_cases h:a=b;(· rw [decide_eq_true h];exact hT h);(· rw [decide_eq_false h];exact hF h))
theorem aak (hT: ¬a=b→N (.bool true)) (hF:a=b→N (.bool false)):aa P X w (aI .neq t xo yo (.string a) (.string b)) N:=
 abA (by simp only [ne_eq,Fm];by_cases h:a=b;(· rw [decide_eq_false (fun hn=>hn h)];exact hF h);(· rw [decide_eq_true h];exact hT h))
theorem ae3 (hT:kO a b=true→N (.bool true)) (hF:kO a b=false→N (.bool false)):aa P X w (binOp .lss t (.string a) (.string b)) N:=
 abB (by unfold kO at hT hF;cases h:b7 a.toList b.toList;(· exact hF h);(· exact hT h))
theorem Tf (hT:kO a b=false→N (.bool true)) (hF:kO a b=true→N (.bool false)):aa P X w (binOp .geq t (.string a) (.string b)) N:=
 abC (by unfold kO at hT hF;cases h:b7 a.toList b.toList;(· exact hT h);(· exact hF h))
theorem ae4 (hT:kO a b=true∨a=b→N (.bool true)) (hF:kO a b=false→ ¬a=b→N (.bool false)):aa P X w (binOp .leq t (.string a) (.string b)) N:=
 abD (by
  unfold kO at hT hF;simp only [Fm]
  cases h:b7 a.toList b.toList
  ·by_cases h2:a=b
   ·simp only [h2,decide_true,Bool.or_true];exact hT (.inr h2)
   ·simp only [h2,decide_false,Bool.or_false];exact hF h h2
  ·simp only [Bool.true_or];exact hT (.inl h))
theorem ae5 (hT:kO a b=false→ ¬a=b→N (.bool true)) (hF:kO a b=true∨a=b→N (.bool false)):aa P X w (binOp .gtr t (.string a) (.string b)) N:=
 abE (by
  unfold kO at hT hF;simp only [Fm]
  cases h:b7 a.toList b.toList
  ·by_cases h2:a=b
   ·simp only [h2,decide_true,Bool.or_true,Bool.not_true];exact hF (.inr h2)
   ·simp only [h2,decide_false,Bool.or_false,Bool.not_false];exact hT h h2
  ·simp only [Bool.true_or,Bool.not_true];exact hF (.inl h))
end
def Ir (a b:Nat):Bool:=FloatKind.f64.format.order a b==some .lt
def CE (a b:Nat):Bool:=FloatKind.f64.format.order a b==some .eq
def Nx (a b:Nat):Bool:=FloatKind.f64.format.order a b==some .gt
section
variable {t : TypeId} {a b : Nat} {xo yo : Operand}
theorem Tg (hT:Ir a b=true→N (.bool true)) (hF:Ir a b=false→N (.bool false)):aa P X w (binOp .lss t (.float .f64 a) (.float .f64 b)) N:=
 abF (by unfold Ir at hT hF;cases h:(FloatKind.f64.format.order a b==some .lt);(· exact hF h);(· exact hT h))
theorem ae6 (hT:Nx a b=true→N (.bool true)) (hF:Nx a b=false→N (.bool false)):aa P X w (binOp .gtr t (.float .f64 a) (.float .f64 b)) N:=
 abH (by unfold Nx at hT hF;cases h:(FloatKind.f64.format.order a b==some .gt);(· exact hF h);(· exact hT h))
theorem ae7 (hT:Ir a b=true∨CE a b=true→N (.bool true)) (hF:Ir a b=false→CE a b=false→N (.bool false)):aa P X w (binOp .leq t (.float .f64 a) (.float .f64 b)) N:=
 abG (by
  unfold Ir CE at hT hF
  cases h:(FloatKind.f64.format.order a b==some .lt)
  ·cases h2:(FloatKind.f64.format.order a b==some .eq)
   ·exact hF h h2
   ·exact hT (.inr h2)
  ·exact hT (.inl h))
theorem ae8 (hT:Nx a b=true∨CE a b=true→N (.bool true)) (hF:Nx a b=false→CE a b=false→N (.bool false)):aa P X w (binOp .geq t (.float .f64 a) (.float .f64 b)) N:=
 abI (by
  unfold Nx CE at hT hF
  cases h:(FloatKind.f64.format.order a b==some .gt)
  ·cases h2:(FloatKind.f64.format.order a b==some .eq)
   ·exact hF h h2
   ·exact hT (.inr h2)
  ·exact hT (.inl h))
theorem ae9 (hT:CE a b=false→N (.bool true)) (hF:CE a b=true→N (.bool false)):aa P X w (aI .neq t xo yo (.float .f64 a) (.float .f64 b)) N:=
 abJ (by
  unfold CE at hT hF
  show N (.bool (!(FloatKind.f64.format.order a b==some .eq)))
  cases h:(FloatKind.f64.format.order a b==some .eq)
  ·exact hT h
  ·exact hF h)
end
theorem eY (h:N (.bool false)):aa P X w (aY .not (.bool true)) N:=Xd h
theorem gv (h:N (.bool true)):aa P X w (aY .not (.bool false)) N:=Xd h
section
variable {t : TypeId} {xo yo : Operand} {a b c a' b' c' : Int}
theorem Is (h:jE P t 3=true) (hT:a=a'→b=b'→c=c'→N (.bool true)) (hF: ¬(a=a'∧b=b'∧c=c')→N (.bool false)):
  aa P X w (aI .eql t xo yo (.agg #[.int .i64 a,.int .i64 b,.int .i64 c]) (.agg #[.int .i64 a',.int .i64 b',.int .i64 c'])) N:=
 abN h (by by_cases hc:a=a'∧b=b'∧c=c';(· rw [decide_eq_true hc];exact hT hc.1 hc.2.1 hc.2.2);(· rw [decide_eq_false hc];exact hF hc))
theorem afa (h:jE P t 3=true) (hT: ¬(a=a'∧b=b'∧c=c')→N (.bool true)) (hF:a=a'→b=b'→c=c'→N (.bool false)):
  aa P X w (aI .neq t xo yo (.agg #[.int .i64 a,.int .i64 b,.int .i64 c]) (.agg #[.int .i64 a',.int .i64 b',.int .i64 c'])) N:=
 abO h (by by_cases hc:a=a'∧b=b'∧c=c';(· rw [decide_eq_true hc];exact hF hc.1 hc.2.1 hc.2.2);(· rw [decide_eq_false hc];exact hT hc))
end
theorem agS {t:TypeId} {b o:Nat} {v:Value} {l:List Value} (h:Cells w X b o l) (hi:ki P t=some (false,1)) (hl:l[0]? =some v) (k:N v):
  aa P X w (aX t (ptr b o)) N:=by
 cases l with
 |nil=>cases hl
 |cons x r=>
  simp only [gw,aC] at hl;subst hl
  exact aae h hi k
theorem rV {t ty:TypeId} {s:ByteArray} (ht:P.underlying t=some .string) (k:N (.int .i64 s.size)):aa P X w (nu t ty (.string s)) N:=abK ht k
theorem gg {t:TypeId} {parts:Array (Nat×Value)} {cells:Array Value} (h:P.built t parts.toList=some cells) (k:N (.agg cells)):
  aa P X w (fF t cells parts) N:=aag cells h k
theorem aK {a:Addr} (h:N (.pointer (some a))):ay P X w (aH (.pointer (some a))) N:=adY h
theorem dU {f:FuncId} {args:Array Value} {b:Bool} {N:Value→World→XS→Prop}
  (h:Pure P f args (.bool b)) (hf:enters P f=true) (hX: ∀k,X k→k<w.heap.size)
  (hT:b=true→ ∀w' X',aj X w X' w'→N (.bool true) w' X') (hF:b=false→ ∀w' X',aj X w X' w'→N (.bool false) w' X'):
  eC P R X w m f args N:=Xf hf hX h (by
  cases b
  ·exact hF rfl
  ·exact hT rfl)
theorem iO {f:FuncId} {args:Array Value} {v:Value} {N:Value→World→XS→Prop}
  (h:Pure P f args v) (hf:enters P f=true) (hX: ∀k,X k→k<w.heap.size)
  (k: ∀w' X',aj X w X' w'→N v w' X'):eC P R X w m f args N:=Xf hf hX h k
structure fO (F X:XS) (w:World) (X':XS) (w':World):Prop where
 os:w'.os=w.os
 tape:w'.tape=w.tape
 output:w'.output=w.output
 size:w.heap.size≤w'.heap.size
 block: ∀k,X k→ ¬F k→w'.heap[k]? =w.heap[k]?
 sub: ∀k,X k→X' k
 has: ∀k,X' k→k<w'.heap.size
theorem fO.since {F Y X':XS} {w':World} (c:fO F X w X' w') (hY: ∀k,Y k→X k∧ ¬F k):aj Y w X' w':=
 ⟨⟨c.os,c.tape,c.output,c.size,fun k hk=>c.block k (hY k hk).1 (hY k hk).2⟩,fun k hk=>c.sub k (hY k hk).1,c.has⟩
theorem aj.ej {F X0 X':XS} {w0 w':World} (h:aj X0 w0 X w) (c:fO F X w X' w') (hd: ∀k,X0 k→ ¬F k):aj X0 w0 X' w':=
 ⟨⟨c.os.trans h.kp.os,c.tape.trans h.kp.tape,c.output.trans h.kp.output,ah h.kp.size c.size,
  fun k hk=>(c.block k (h.sub k hk) (hd k hk)).trans (h.kp.block k hk)⟩,fun k hk=>c.sub k (h.sub k hk),c.has⟩
theorem fO.agT {F:XS} {wa w':World} (hX: ∀k,X k→k<w.heap.size) (hk:Kp X w wa) (hf:Fr F wa w'):fO F X w (grow X wa w') w':=
 ⟨hf.os.trans hk.os,hf.tape.trans hk.tape,hf.output.trans hk.output,ah hk.size hf.size,
  fun k hx hn=>(hf.block k (aU (hX k hx) hk.size) hn).trans (hk.block k hx),fun _ h=>.inl h,
  fun k h=>h.elim (fun h=>aU (hX k h) (ah hk.size hf.size)) (fun h=>h.2)⟩
theorem fO.tH {X':XS} {w':World} (h:aj X w X' w') (F:XS):fO F X w X' w':=
 ⟨h.kp.os,h.kp.tape,h.kp.output,h.kp.size,fun k hk _=>h.kp.block k hk,h.sub,h.has⟩
theorem Grown.ej {X':XS} {w':World} {row:Option Nat} (g:Grown X w X' w' row):fO (fun k=>some k=row) X w X' w':=
 ⟨g.os,g.tape,g.output,g.size,fun k hk hn=>g.block k hk hn,g.sub,g.has⟩
theorem fO.trans {F X' s9:XS} {w' kW:World} (a:fO F X w X' w') (b:fO F X' w' s9 kW):fO F X w s9 kW:=
 ⟨b.os.trans a.os,b.tape.trans a.tape,b.output.trans a.output,ah a.size b.size,
  fun k hk hn=>(b.block k (a.sub k hk) hn).trans (a.block k hk hn),fun k hk=>b.sub k (a.sub k hk),b.has⟩
theorem fO.mono {F G X':XS} {w':World} (a:fO F X w X' w') (h: ∀k,X k→F k→G k):fO G X w X' w':=
 ⟨a.os,a.tape,a.output,a.size,fun k hk hn=>a.block k hk fun hf=>hn (h k hk hf),a.sub,a.has⟩
def made (w w':World):XS:=fun g=>w.heap.size≤g∧g<w'.heap.size
def out (F:XS) (w:World):XS:=fun k=>k<w.heap.size∧ ¬F k
def Ny (F:XS) (w0:World) (Q:Value→World→Prop):Ending→World→Prop:=fun e w'=> ∃v,e= .returned v∧Fr F w0 w'∧Q v w'
def Ct (P:Program) (f:FuncId) (args:Array Value) (w:World) (X F:XS) (Q:Value→World→World→Prop):Prop:=
 ∀wa,Kp X w wa→Calls P f args wa (Ny F wa fun v w'=>Q v wa w')
theorem Ct.mono {f:FuncId} {args:Array Value} {F:XS} {Q Q':Value→World→World→Prop} (h:Ct P f args w X F Q) (k: ∀v wa w',Kp X w wa→Q v wa w'→Q' v wa w'):Ct P f args w X F Q':=
 fun wa hk=>(h wa hk).mono fun _ _ ⟨v,he,hf,hq⟩=>⟨v,he,hf,k v wa _ hk hq⟩
theorem dk {f:FuncId} {args:Array Value} {N:Value→World→XS→Prop} {Q:Value→World→World→Prop}
  (h:Ct P f args w X nX Q) (hf:enters P f=true) (hX: ∀k,X k→k<w.heap.size)
  (k: ∀v wa w' X',Q v wa w'→w.heap.size≤wa.heap.size→(∀k,made wa w' k→X' k)→aj X w X' w'→N v w' X'):eC P R X w m f args N:=
 Ta (Q:=Q) hf hX h fun v wa w' X' hk _ hn hq hs=>k v wa w' X' hq hk.size (fun g hg=>hn g hg.1 hg.2) hs
theorem xw {f:FuncId} {args:Array Value} {N:Value→World→XS→Prop} {F:XS} {Q:Value→World→World→Prop}
  (h:Ct P f args w X F Q) (hf:enters P f=true) (hX: ∀k,X k→k<w.heap.size) (hF: ∀k,F k→X k)
  (k: ∀v wa w' X',Q v wa w'→w.heap.size≤wa.heap.size→(∀k,made wa w' k→X' k)→Kp X w wa→fO F X w X' w'→N v w' X'):eC P R X w true f args N:=by
 intro wa hk
 unfold kh;rw [rS hf args wa]
 refine⟨rfl,(h wa hk).mono ?_⟩
 rintro e w' ⟨v,rfl,Ej,hq⟩
 exact⟨Ej.mono hF,k v wa w' _ hq hk.size (fun g hg=>.inr hg) hk (fO.agT hX hk Ej)⟩
theorem aq {w0:World} {v:Value} {Q:Value→World→Prop} (hs:aj (aW w0) w0 X w) (h: ∀wa,Kp X w wa→Q v wa):fin (Ny nX w0 Q) X w v:=
 fun _ hk=>⟨v,rfl,hs.ext hk,h _ hk⟩
theorem Xi {w0:World} {v:Value} {F:XS} {Q:Value→World→Prop} (hs:aj (out F w0) w0 X w) (h: ∀wa,Kp X w wa→Q v wa):fin (Ny F w0 Q) X w v:=
 fun _ hk=>⟨v,rfl,⟨hk.os.trans hs.kp.os,hk.tape.trans hs.kp.tape,hk.output.trans hs.kp.output,ah hs.kp.size hk.size,
  fun k hl hn=>(hk.block k (hs.sub k ⟨hl,hn⟩)).trans (hs.kp.block k ⟨hl,hn⟩)⟩,h _ hk⟩
theorem aj.out (F:XS) (w:World):aj (out F w) w (aW w) w:=⟨Kp.refl _ _,fun _ h=>h.1,fun _ h=>h⟩
theorem Own.up {w' wa:World} {X':XS} {lo e k:Nat} {v:Value} {rows:List (List Value)} (h:Own w' (made wa w') wa.heap.size e k v rows) (hU: ∀k,made wa w' k→X' k) (hl:lo≤wa.heap.size):
  Own w' X' lo e k v rows:=(h.mono hU).low hl
theorem Own.ej {F X':XS} {w':World} {lo e k:Nat} {v:Value} {rows:List (List Value)} (h:Own w X lo e k v rows) (c:fO F X w X' w') (hd: ∀g,v.ownBlock=some g→ ¬F g):Own w' X' lo e k v rows:=by
 obtain⟨h1,h2,h3⟩:=h
 refine⟨h1,⟨h2.1,?_⟩,fun g hg=>c.sub g (h3 g hg)⟩
 rcases h2.2 with h|⟨g,cap,cur,rfl,hb,hg,hr⟩
 ·exact .inl h
 ·exact .inr ⟨g,cap,cur,rfl,hb,by rw [c.block g (h3 g rfl) (hd g rfl)];exact hg,hr⟩
theorem Sl.sub {k:Nat} {v:Value} {rows:List (List Value)} {Y:XS} (h:Sl w X k v rows) (hs: ∀k,X k→k<w.heap.size→Y k):Sl w Y k v rows:=by
 obtain⟨h1,h2,base,cap,hv,hc,hr⟩:=h
 exact⟨h1,h2,base,cap,hv,fun dr=>let⟨b,o,hb,kj⟩:=hc dr;⟨b,o,hb,hs _ kj.1 kj.lt,kj.2⟩,hr⟩
theorem Sl.len {k:Nat} {v:Value} {rows:List (List Value)} (h:Sl w X k v rows):rows.length≤2^63-1:=h.2.1
theorem Sl.gW {α:Type} {enc:α→List Value} {k:Nat} {v:Value} {xs:List α} (h:Sl w X k v (xs.map enc)):xs.length≤2^63-1:=by have:=h.2.1;simpa using this
theorem Cells.sub {b o:Nat} {l:List Value} {Y:XS} (h:Cells w X b o l) (hs: ∀k,X k→k<w.heap.size→Y k):Cells w Y b o l:=⟨hs _ h.1 h.lt,h.2⟩
theorem Cells.aW {b o:Nat} {l:List Value} (h:Cells w X b o l):Cells w (aW w) b o l:=⟨h.lt,h.2⟩
variable {P : Program} {R : Ending → World → Prop} {X Y Z : XS} {w w' kW : World} {m : Bool} {N : Value → Prop} {α : Type}
def Mv (X:XS) (w:World) (Y:XS) (w':World):Prop:= ∀k,X k→k<w.heap.size→Y k∧w'.heap[k]? =w.heap[k]?
theorem Mv.trans (a:Mv X w Y w') (b:Mv Y w' Z kW):Mv X w Z kW:=fun k hk hl=>by
 obtain⟨h1,h2⟩:=a k hk hl
 have yy:k<w'.heap.size:=by
  have:w'.heap[k]? =some w.heap[k]:=by rw [h2];exact Array.getElem?_eq_getElem hl
  exact(Array.getElem?_eq_some_iff.1 this).1
 obtain⟨h3,h4⟩:=b k h1 yy
 exact⟨h3,h4.trans h2⟩
theorem aj.mv (h:aj X w Y w'):Mv X w Y w':=fun k hk _=>⟨h.sub k hk,h.kp.block k hk⟩
theorem _root_.Go.fR.Kp.mv (h:Kp X w w'):Mv X w X w':=fun k hk _=>⟨hk,h.block k hk⟩
theorem Mv.aW:Mv X w (aW w) w:=fun _ _ hl=>⟨hl,rfl⟩
theorem _root_.Go.fR.Kp.dA (h:Kp X w w'):Mv X w (aW w') w':=h.mv.trans Mv.aW
theorem Mv.out {F:XS} (h: ∀k,X k→ ¬F k):Mv X w (fR.out F w) w:=fun k hk hl=>⟨⟨hl,h k hk⟩,rfl⟩
theorem Mv.sub (h: ∀k,X k→Y k):Mv X w Y w:=fun k hk _=>⟨h k hk,rfl⟩
theorem Ext.mv (h:Ext w w'):Mv (fR.aW w) w (fR.aW w') w':=fun _ _ hl=>⟨aU hl h.size,h.block hl⟩
theorem fO.mv {F A:XS} (c:fO F X w Y w') (h: ∀k,A k→X k∧ ¬F k):Mv A w Y w':=fun k hk _=>⟨c.sub k (h k hk).1,c.block k (h k hk).1 (h k hk).2⟩
theorem Cells.mv {b o:Nat} {l:List Value} (h:Cells w X b o l) (v:Mv X w Y w'):Cells w' Y b o l:=by
 have hl:=h.lt
 obtain⟨hx,cs,t,fr,hb,hc⟩:=h
 obtain⟨h1,h2⟩:=v b hx hl
 exact⟨h1,cs,t,fr,by rw [h2];exact hb,hc⟩
theorem Sl.mv {k:Nat} {v:Value} {rows:List (List Value)} (h:Sl w X k v rows) (m:Mv X w Y w'):Sl w' Y k v rows:=by
 obtain⟨h1,h2,base,cap,hv,hc,hr⟩:=h
 exact⟨h1,h2,base,cap,hv,fun dr=>let⟨b,o,hb,kj⟩:=hc dr;⟨b,o,hb,kj.mv m⟩,hr⟩
theorem Sl.form {k:Nat} {v:Value} {rows:List (List Value)} (h:Sl w X k v rows): ∃b n c,v= .slice b n c:=let⟨_,_,b,c,hv,_⟩:=h;⟨b,_,c,hv⟩
theorem bJ.mv {b:Nat} {cs:List Value} {ty:TypeId} (h:bJ w X b cs ty) (m:Mv X w Y w'):bJ w' Y b cs ty:=by
 obtain⟨h1,h2⟩:=m b h.1 (Array.getElem?_eq_some_iff.1 h.2).1
 exact⟨h1,by rw [h2];exact h.2⟩
theorem mY.mv {κ:Type} {b:Nat} {kv:κ→Value} {es:List (ke κ)} {c:Nat} (h:mY w X b kv es c) (m:Mv X w Y w'):mY w' Y b kv es c:=by
 obtain⟨h1,h2⟩:=m b h.1 (Array.getElem?_eq_some_iff.1 h.2.1).1
 exact⟨h1,by rw [h2];exact h.2.1,h.2.2⟩
theorem Own.mv {lo e k:Nat} {v:Value} {rows:List (List Value)} (h:Own w X lo e k v rows) (m:Mv X w Y w'):Own w' Y lo e k v rows:=by
 obtain⟨h1,h2,h3⟩:=h
 refine⟨h1,⟨h2.1,?_⟩,fun g hg=>(m g (h3 g hg) (h2.lt g hg).2).1⟩
 rcases h2.2 with h|⟨g,cap,cur,rfl,hb,hg,hr⟩
 ·exact .inl h
 ·exact .inr ⟨g,cap,cur,rfl,hb,by rw [(m g (h3 g rfl) (Array.getElem?_eq_some_iff.1 hg).1).2];exact hg,hr⟩
def iw (w:World) (X:XS) (k:Nat) (v:Value) (rd:World→XS→List Value→α→Prop) (xs:List α):Prop:=
 ∃rows,Sl w X k v rows∧rows.length=xs.length∧ ∀(i:Nat) l x,rows[i]? =some l→xs[i]? =some x→rd w X l x
def Fo (rd:World→XS→List Value→α→Prop):Prop:= ∀{X Y:XS} {w w':World} {l:List Value} {x:α},rd w X l x→Mv X w Y w'→rd w' Y l x
theorem iw.mv {k:Nat} {v:Value} {rd:World→XS→List Value→α→Prop} {xs:List α} (h:iw w X k v rd xs) (hm:Fo rd) (m:Mv X w Y w'):iw w' Y k v rd xs:=by
 obtain⟨rows,h1,h2,h3⟩:=h
 exact⟨rows,h1.mv m,h2,fun i l x hl hx=>hm (h3 i l x hl hx) m⟩
theorem iw.nil {rd:World→XS→List Value→α→Prop} (w:World) (X:XS) (k:Nat):iw w X k (.slice none 0 0) rd []:=⟨[],Sl.nil w X k,rfl,by simp⟩
theorem iw.one {k:Nat} {v:Value} {rd:World→XS→List Value→α→Prop} {xs:List α} (h:iw w X k v rd xs):one v=true:=let⟨_,h1,_⟩:=h;h1.one
theorem iw.len {k:Nat} {v:Value} {rd:World→XS→List Value→α→Prop} {xs:List α} (h:iw w X k v rd xs):xs.length≤2^63-1:=by
 obtain⟨_,h1,h2,_⟩:=h;rw [←h2];exact h1.2.1
theorem Mv.refl (X:XS) (w:World):Mv X w X w:=fun _ hk _=>⟨hk,rfl⟩
theorem mv0:Mv X w X w:=Mv.refl _ _
theorem mv1 (h:aj X w Y w'):Mv X w Y w':=h.mv
theorem nq1 {l:List Value} :l.toArray.toList=l:=rfl
theorem nq2 {i:Nat} {a:Value} {l:List Value} :(a::l).take (i+1)=a::l.take i:=rfl
theorem nq3 {i:Nat} {a:Value} {l:List Value} :(a::l).drop (i+1)=l.drop i:=rfl
theorem nq4 {l:List Value} :l.take 0=[]:=rfl
theorem nq5 {l:List Value} :l.drop 0=l:=rfl
theorem nq6 {i:Nat} :([]:List Value).take i=[]:=List.take_nil
theorem nq7 {a:Value} {l:List Value} :(a::l).length=l.length+1:=rfl
theorem nq8:([]:List Value).length=0:=rfl
theorem nq9 {a:Value} {l m:List Value} :a::l++m=a::(l++m):=rfl
theorem nq0 {l:List Value} :[]++l=l:=rfl
theorem mv2 (h:aj X w Y w') (h':aj Y w' Z kW):Mv X w Z kW:=(h.trans h').mv
theorem Cells.Ys {b o fo:Nat} {v:Value} {l:List Value} (h:Cells w X b o l) (hl:l[fo]? =some v):Cells w X b (o+fo) [v]:=by
 have hp:=h.part fo 1
 have:(l.drop fo).take 1=[v]:=by
  obtain⟨dh,rfl⟩:=List.getElem?_eq_some_iff.1 hl
  rw [kf dh,List.take_succ_cons,tA]
 rw [this] at hp;exact hp
section
variable {w0 : World} {X0 : XS}
theorem gx {S f fo sz b o:Nat} {l l':List Value} (h:Cells w0 X0 b o l) (hf:fieldInfo P S f=some (fo,sz)) (hz:(sz !=0)=true) (hl:(l.drop fo).take sz=l')
  (k: ∀o',o'=o+fo→Cells w0 X0 b o' l'→N (ptr b o')):aa P X w (aQ S f fo sz (ptr b o)) N:=
 Dr hf (by simpa using hz) (k _ rfl (hl▸h.part fo sz))
theorem aM {S f fo b o:Nat} {v:Value} {l:List Value} (h:Cells w0 X0 b o l) (hf:fieldInfo P S f=some (fo,1)) (hl:l[fo]? =some v)
  (k: ∀o',o'=o+fo→Cells w0 X0 b o' [v]→N (ptr b o')):aa P X w (aQ S f fo 1 (ptr b o)) N:=
 Dr hf (by omega) (k _ rfl (h.Ys hl))
theorem aZ {t:TypeId} {b o:Nat} {v:Value} {l:List Value} (h:Cells w0 X0 b o l) (m:Mv X0 w0 X w) (hi:ki P t=some (false,1)) (hl:l[0]? =some v) (k:N v):
  aa P X w (aX t (ptr b o)) N:=agS (h.mv m) hi hl k
theorem fP {t:TypeId} {b o n:Nat} {l:List Value} (h:Cells w0 X0 b o l) (m:Mv X0 w0 X w) (hi:ki P t=some (true,n)) (hn:l.length=n) (k:N (.agg l.toArray)):
  aa P X w (gL t n (ptr b o)) N:=aaf (h.mv m) hi hn k
theorem bS {enc:α→List Value} {t ty:TypeId} {k:Nat} {v:Value} {xs:List α} (h:Sl w0 X0 k v (xs.map enc))
  (ht:P.underlying t=some (.slice (P.elem t))) (n:N (.int .i64 xs.length)):aa P X w (cr t ty v) N:=by
 obtain⟨_,_,base,cap,rfl,_⟩:=h
 exact b9 (fun wa=>run_len_slice wa t ty base _ cap ht) (by rw [List.length_map];exact n)
theorem nL {t ty:TypeId} {k:Nat} {v:Value} {rd:World→XS→List Value→α→Prop} {xs:List α} (h:iw w0 X0 k v rd xs)
  (ht:P.underlying t=some (.slice (P.elem t))) (n:N (.int .i64 xs.length)):aa P X w (cr t ty v) N:=by
 obtain⟨rows,⟨_,_,base,cap,rfl,_⟩,h2,_⟩:=h
 exact b9 (fun wa=>run_len_slice wa t ty base _ cap ht) (by rw [h2];exact n)
theorem Nz {t:TypeId} {k:Nat} {v:Value} {rows:List (List Value)} {i:Nat} {z:Int} {r:List Value} (h:Sl w0 X0 k v rows) (hr:rows[i]? =some r) (hz:z=i)
  (ht:P.underlying t=some (.slice (P.elem t))) (hs:(P.info? (P.elem t)).map (·.size)=some k)
  (n: ∀b o,Cells w0 X0 b o r→N (ptr b o)):aa P X w (Instr.indexAt t v (.int .i64 z)) N:=by
 obtain⟨h1,_,base,cap,rfl,hc,_⟩:=h
 have hi:i<rows.length:=(List.getElem?_eq_some_iff.1 hr).1
 obtain⟨b,o,rfl,kj⟩:=hc (by intro e;subst e;simp at hi)
 have hp:=kj.part (i*k) k
 rw [Im h1 hr] at hp
 refine b9 (fun wa=>?_) (n b (o+i*k) hp)
 subst hz
 rw [run_indexAt_slice (h:=ht),if_pos (by omega)]
 cases hq:P.info? (P.elem t)with
 |none=>simp [hq] at hs
 |some inf=>
  have:inf.size=k:=by simpa [hq] using hs
  simp [sizeOf,typeInfo,hq,this,wm]
theorem e7 {enc:α→List Value} {t:TypeId} {k:Nat} {v:Value} {xs:List α} {i:Nat} {z:Int} {x:α} (h:Sl w0 X0 k v (xs.map enc)) (hr:xs[i]? =some x)
  (hz:z=i) (ht:P.underlying t=some (.slice (P.elem t))) (hs:(P.info? (P.elem t)).map (·.size)=some k)
  (n: ∀b o,Cells w0 X0 b o (enc x)→N (ptr b o)):aa P X w (dx t k v (.int .i64 z)) N:=
 Nz h (i:=i) (by rw [dQ,hr];rfl) hz ht hs n
theorem Sp {t:TypeId} {k:Nat} {v:Value} {rd:World→XS→List Value→α→Prop} {xs:List α} {i:Nat} {z:Int} {x:α} (h:iw w0 X0 k v rd xs) (hr:xs[i]? =some x)
  (hz:z=i) (ht:P.underlying t=some (.slice (P.elem t))) (hs:(P.info? (P.elem t)).map (·.size)=some k)
  (n: ∀b o l,Cells w0 X0 b o l→rd w0 X0 l x→N (ptr b o)):aa P X w (dx t k v (.int .i64 z)) N:=by
 obtain⟨rows,h1,h2,h3⟩:=h
 have hi:i<rows.length:=by rw [h2];exact(List.getElem?_eq_some_iff.1 hr).1
 have hl:rows[i]? =some rows[i]:=bL hi
 exact Nz h1 hl hz ht hs fun b o hc=>n b o _ hc (h3 i _ _ hl hr)
theorem Th {t:TypeId} {xo yo:Operand} {k:Nat} {v:Value} {rows:List (List Value)} (h:Sl w0 X0 k v rows) (ht:P.underlying t=some (.slice (P.elem t)))
  (hT:v= .slice none 0 0→rows=[]→N (.bool true)) (hF:N (.bool false)):aa P X w (aI .eql t xo yo v (.slice none 0 0)) N:=by
 rcases h.src with⟨rfl,hr⟩|⟨a,cap,rfl,_⟩
 ·exact Tb ht (hT rfl hr)
 ·exact Tb ht hF
end
theorem Pp {xs:List α} {i:Nat} (h:i<xs.length): ∃x,xs[i]? =some x∧xs.drop i=x::xs.drop (i+1):=
 ⟨xs[i],bL h,kf h⟩
theorem fh (xs:List α) (i:Nat):(i<xs.length∧ ∃x,xs[i]? =some x∧xs.drop i=x::xs.drop (i+1))∨(xs.length≤i∧xs.drop i=[]):=by
 rcases Nat.lt_or_ge i xs.length with h|h
 ·exact .inl ⟨h,Pp h⟩
 ·exact .inr ⟨h,hP h⟩
theorem ji {l l':List Value} {o n:Nat} {M:Value→Prop} (hl:(l.drop o).take n=l') (k:M (.agg l'.toArray)):un (eQ (.agg l.toArray) o n) M:=
 aaj (hl▸k)
theorem CF {l l' cs:List Value} {o:Nat} {M:Value→Prop} (hl:cd l o cs=l') (k:M (.agg l'.toArray)):
  un (aJ (List.toArray (cd l o cs))) M:=by subst hl;exact k
theorem Sy {v:Value} {l:List Value} (h:one v=true) (k:l.all one=true):(v::l).all one=true:=by simp [h,k]
theorem VY:List.all ([]:List Value) one=true:=rfl
theorem fj {l:List Value} {A:Prop} (h:l.all one=true) (k:A):bz (List.all (Array.toList (ad (.agg l.toArray))) one) A:=eh h k
theorem Ek {l:List Value} {A:Prop} (h:l.all one=true) (k:A):bz (List.all l one) A:=eh h k
theorem fp {l:List Value} {i:Nat} {v:Value} (hi:l[i]? =some v) (h:N v):aa P X w (aE (.tuple l.toArray) i) N:=V3 (by simpa using hi) h
theorem gZ {f:FuncId} {args:Array Value} {b:Bool} {N:Value→World→XS→Prop}
  (h:Ct P f args w X nX fun v _ _=>v= .bool b) (hf:enters P f=true) (hX: ∀k,X k→k<w.heap.size)
  (hT:b=true→ ∀w' X',aj X w X' w'→N (.bool true) w' X') (hF:b=false→ ∀w' X',aj X w X' w'→N (.bool false) w' X'):eC P R X w m f args N:=by
 refine dk h hf hX fun v wa w' X' hv _ _ hs=>?_
 subst hv
 cases b
 ·exact hF rfl w' X' hs
 ·exact hT rfl w' X' hs
theorem dt {f:FuncId} {args:Array Value} {u:Value} {N:Value→World→XS→Prop}
  (h:Ct P f args w X nX fun v _ _=>v=u) (hf:enters P f=true) (hX: ∀k,X k→k<w.heap.size)
  (k: ∀w' X',aj X w X' w'→N u w' X'):eC P R X w m f args N:=by
 refine dk h hf hX fun v wa w' X' hv _ _ hs=>?_
 subst hv;exact k w' X' hs
theorem Yt {t ty:TypeId} {a b:Int} (h:N (.int .i64 (min a b))):aa P X w (lG #[t,t] ty #[.int .i64 a,.int .i64 b]) N:=
 b9 (fun wa=>by
  simp only [lG,List.foldlM]
  by_cases hc:b<a
  ·have:min a b=b:=by omega
   simp [Bv,hc,this]
  ·have:min a b=a:=by omega
   simp [Bv,hc,this]) h
theorem pq {src dst:TypeId} {k q:IntKind} {n:Int} (hs:(P.underlying src).isSome=true) (hd:P.underlying dst=some (.int k))
  (h:N (.int k (k.wrap n))):aa P X w (mO k src dst (.int q n)) N:=b9 (fun wa=>by
   have e:P.intKind dst=k:=by simp [Program.intKind,hd]
   have:=run_convert_int (P:=P) wa src dst q n hs (by rw [e];exact hd)
   rw [e] at this;exact this) h
theorem agU {src dst:TypeId} {q:IntKind} {n:Int} (hs:(P.underlying src).isSome=true) (hd:P.underlying dst=some (.float .f64))
  (h:N (.float .f64 (floatOfInt .f64 n))):aa P X w (BK src dst (.int q n)) N:=b9 (fun wa=>run_convert_int_float wa src dst q .f64 n hs hd) h
theorem adu {t e:TypeId} {n:Nat} {l:List Value} {z:Int} {i:Nat} {v:Value} (ht:P.underlying t=some (.array n e)) (he:ki P e=some (false,1)) (hz:z=i) (hn:i<n) (hl:l[i]? =some v)
  (k:N v):aa P X w (AB t n e (.agg l.toArray) (.int .i64 z)) N:=by
 subst hz
 unfold ki at he
 split at he
 ·rename_i d q hu D5
  simp only [aC,dB] at he
  refine b9 (v:=v) (fun wa=>?_) k
  have wo:(isAgg e).run P wa= .ok false wa:=by cases d<;>simp_all [isAgg,run_underlying hu]
  simp [AB,wY,asIntOf,run_underlying ht,hn,sizeOf,typeInfo,D5,he.2,part,wo,hl]
 ·cases he
theorem agV {op:BinOp} {t:TypeId} {x y r:Nat} (h:floatBits op .f64 x y=some r) (k:N (.float .f64 r)):aa P X w (binOp op t (.float .f64 x) (.float .f64 y)) N:=
 b9 (fun wa=>run_float_arith wa op t .f64 x y r h) k
theorem It (s:ByteArray):s.size=s.data.toList.length:=by rw [dy];rfl
theorem adv {t:TypeId} {s:ByteArray} {z:Int} {i:Nat} {b:UInt8} (hb:s.data.toList[i]? =some b) (hz:z=i) (ht:P.underlying t=some .string) (k:N (.int .u8 b.toNat)):
  aa P X w (wY t (.string s) (.int .i64 z)) N:=by
 subst hz
 have hi:i<s.data.toList.length:=(List.getElem?_eq_some_iff.1 hb).1
 have D5:i<s.size:=by rw [It];exact hi
 refine b9 (v:=.int .u8 b.toNat) (fun wa=>?_) k
 rw [run_index_string wa t s .i64 i ht,dif_pos (by omega)]
 have:s[i]=b:=by
  have h2:s.data.toList[i]=b:=(List.getElem?_eq_some_iff.1 hb).2
  rw [←h2];rfl
 simp [this]
theorem Ti (f:Ieee.Format) (s:Bool) (m:Nat) (p:Int):(f.read (f.nearest s m p)).isNaN=false:=by
 have hle: ∃r,f.nearest s m p=f.word s r∧r≤f.infRung:=by
  unfold Ieee.Format.nearest
  split
  ·exact⟨0,rfl,Nat.zero_le _⟩
  ·exact⟨_,rfl,Nat.min_le_right _ _⟩
 obtain⟨r,hr,hle⟩:=hle
 have dh:=f.infRung_lt
 have hm:f.word s r % f.signWeight=r:=by
  unfold Ieee.Format.word
  split
  ·rw [Nat.add_mod_left,fe (by omega)]
  ·rw [fe (by omega)]
 rw [hr]
 unfold Ieee.Format.read
 simp only [hm]
 split
 ·rfl
 ·split
  ·rfl
  ·split
   ·rfl
   ·omega
def chain (p:α→Bool) (r:α→α→Bool):Option α→List α→Bool
 |_,[]=>true
 |none,x::l=>p x&&chain p r (some x) l
 |some y,x::l=>p x&&r y x&&chain p r (some x) l
def pT (xs:List α) (i:Nat):Option α:=if i=0 then none else xs[i-1]?
theorem oL {xs:List α} {i:Nat} {x:α} (h:xs[i]? =some x):pT xs (i+1)=some x:=by simp [pT,h]
theorem Kj {xs:List α} {i:Nat} (h:i<xs.length):(i=0∧pT xs i=none)∨(0<i∧ ∃y,xs[i-1]? =some y∧pT xs i=some y):=by
 by_cases h0:i=0
 ·exact .inl ⟨h0,by simp [pT,h0]⟩
 ·have:xs[i-1]? =some xs[i-1]:=bL (by omega)
  exact .inr ⟨by omega,_,this,by simp [pT,h0,this]⟩
variable {P : Program} {R : Ending → World → Prop} {X : XS} {w : World} {m : Bool}
theorem foldl_set (l:List Value): ∀(n:Nat) (cs:Array Value),n+l.length≤cs.size→
  ((l.zipIdx n).foldl (fun (cs:Array Value) (p:Value×Nat)=>cs.setIfInBounds p.2 p.1) cs).toList=cs.toList.take n++l++cs.toList.drop (n+l.length):=by
 induction l with
 |nil=>intro n cs h;simp
 |cons x r ih=>
  intro n cs h
  simp only [bC] at h
  simp only [List.zipIdx_cons,g9]
  rw [ih (n+1) _ (by simp;omega)]
  have hn:n<cs.toList.length:=by simp;omega
  simp only [Array.toList_setIfInBounds,bC]
  rw [List.take_set,List.drop_set_of_lt (by omega)]
  have:(cs.toList.take (n+1)).set n x=cs.toList.take n++[x]:=by
   rw [List.take_add_one,bL hn]
   simp only [Option.toList_some]
   rw [List.set_append_right _ _ (by simp;omega)]
   have hm:(cs.toList.take n).length=n:=by rw [List.length_take];omega
   rw [hm,Nat.sub_self,List.set_cons_zero]
  rw [this]
  simp only [List.append_assoc,ef,cV]
  rw [show n+1+r.length=n+(r.length+1)by omega]
theorem Fp {k:Nat} {cs:Array Value} {x:Value} (hx:x.cells.size=k) (hc:cs.size=k):
  oQ (fun i=>some (i*k,k)) cs [(0,x)]=some x.cells:=by
 unfold oQ
 simp only [Nat.zero_mul,fH,hx,ne_eq,not_true_eq_false,decide_false,hc,Nat.lt_irrefl,gt_iff_lt,Bool.or_self,bA,if_false]
 unfold oQ
 simp only [aC]
 apply Array.ext'
 have:=foldl_set x.cells.toList 0 cs (by simp;omega)
 rw [←Array.toList_zipIdx,Array.foldl_toList] at this
 simp only [fH,tA,cV,dy] at this
 rw [hP (by simp;omega),cp] at this
 exact this
def jw (v:Value):XS:=fun g=>v.ownBlock=some g
def oV (P:Program) (t e k bytes:Nat):Bool:=match P.underlying t,P.info? e with
 |some (.slice e'),some i=>e'==e&&i.size==k&&i.bytes==bytes&&(match i.zero with|some z=>z.cells.size==k|none=>false)&&decide (0<k)&&decide (k≤2^20)
 |_,_=>false
theorem nx {t e k bytes:Nat} (h:oV P t e k bytes=true):P.underlying t=some (.slice e)∧0<k∧k≤2^20∧
  ∃z:Value,(P.info? e).bind (fun i=>i.zero.map fun z=>(i.size,i.bytes,z))=some (k,bytes,z)∧(P.info? e).bind (fun i=>i.zero.map fun z=>(i.size,z))=some (k,z)∧z.cells.size=k:=by
 unfold oV at h
 split at h
 ·rename_i e' i hu hi
  simp only [aG,beq_iff_eq,decide_eq_true_eq] at h
  obtain⟨⟨⟨⟨⟨rfl,h2⟩,h3⟩,h4⟩,h5⟩,h6⟩:=h
  cases hz:i.zero with
  |none=>simp [hz] at h4
  |some z=>
   simp only [hz,beq_iff_eq] at h4
   exact⟨hu,h5,h6,z,by simp [hi,hz,h2,h3],by simp [hi,hz,h2],h4⟩
 ·cases h
section
variable {w0 : World} {X0 : XS} {t ty e k bytes : Nat} {v x s : Value} {rows eD : List (List Value)} {row : List Value} {N : Value → World → XS → Prop}
theorem aal (own:Own w X w0.heap.size e k v rows) (hs:aj X0 w0 X w) (h0: ∀k,X0 k→k<w0.heap.size) (he:oV P t e k bytes=true) (hx:x.cells.toList=row) (hk:(row.length==k)=true)
  (h1:row.all one=true) (hb:(rows.length+1)*bytes≤140737488355328) (hl:rows.length+1≤2^63-1)
  (n: ∀v' w' X',aj X0 w0 X' w'→Own w' X' w0.heap.size e k v' (rows++[row])→fO (jw v) X w X' w'→(v'.ownBlock=v.ownBlock∨ ∃g,v'.ownBlock=some g∧w.heap.size≤g)→N v' w' X'):
  eV P R X w m (jc t e k 1 #[(0,x)]) fun s w1 X1=>eV P R X1 w1 true (iS t e k bytes ty v s) N:=by
 obtain⟨hu,kX,xu,z,hi,hz,vu⟩:=nx he
 have ai:row.length=k:=by simpa using hk
 have G3:x.cells.size=k:=by rw [←ai,←hx,dy]
 refine BH (rows:=[row]) x.cells z hs.has hu hz (by omega) (by omega) ?_ (by simpa using ai) rfl (by simpa using hx) fun s w1 X1 au vy=>?_
 ·simp only [Nat.one_mul]
  exact Fp G3 (by simp)
 ·have fT:w0.heap.size≤w1.heap.size:=ah hs.kp.size au.kp.size
  refine zI (eD:=[row]) z hu hi vu kX au.has fT (own.since au) vy.sl (by simpa using h1) (by simpa using hb) (by simpa using hl) fun v2 w2 X2 hg ho gQ=>?_
  have hd: ∀g,v.ownBlock=some g→w0.heap.size≤g:=fun g hg=>(own.ge hg).1
  refine n v2 w2 X2 ((hs.trans au).grown hg fun g hg0 he=>?_) ho ?_ ?_
  ·have:=hd g he.symm;have:=h0 g hg0;omega
  ·exact(fO.tH au (jw v)).trans (hg.ej.mono fun k _ hk=>hk.symm)
  ·rcases gQ with h|⟨g,h,eI⟩
   ·exact .inl h
   ·exact .inr ⟨g,h,ah au.kp.size eI⟩
theorem ad0 {l:List Value} (own:Own w X w0.heap.size e k v rows) (hs:aj X0 w0 X w) (h0: ∀k,X0 k→k<w0.heap.size) (he:oV P t e k bytes=true) (hk:(l.length==k)=true)
  (h1:l.all one=true) (hb:(rows.length+1)*bytes≤140737488355328) (hl:rows.length+1≤2^63-1)
  (n: ∀v' w' X',aj X0 w0 X' w'→Own w' X' w0.heap.size e k v' (rows++[l])→fO (jw v) X w X' w'→(v'.ownBlock=v.ownBlock∨ ∃g,v'.ownBlock=some g∧w.heap.size≤g)→N v' w' X'):
  eV P R X w m (jc t e k 1 #[(0,.agg l.toArray)]) fun s w1 X1=>eV P R X1 w1 true (iS t e k bytes ty v s) N:=aal own hs h0 he rfl hk h1 hb hl n
theorem Kk (own:Own w X w0.heap.size e k v rows) (hs:aj X0 w0 X w) (h0: ∀k,X0 k→k<w0.heap.size) (he:oV P t e k bytes=true) (hk:(k==1)=true)
  (ho:one x=true) (hb:(rows.length+1)*bytes≤140737488355328) (hl:rows.length+1≤2^63-1)
  (n: ∀v' w' X',aj X0 w0 X' w'→Own w' X' w0.heap.size e k v' (rows++[[x]])→fO (jw v) X w X' w'→(v'.ownBlock=v.ownBlock∨ ∃g,v'.ownBlock=some g∧w.heap.size≤g)→N v' w' X'):
  eV P R X w m (jc t e k 1 #[(0,x)]) fun s w1 X1=>eV P R X1 w1 true (iS t e k bytes ty v s) N:=by
 refine aal (row:=[x]) own hs h0 he ?_ (by simpa using (beq_iff_eq.1 hk).symm) (by simpa using ho) hb hl n
 cases x<;>first|rfl|cases ho
theorem zK (own:Own w X w0.heap.size e k v rows) (hs:aj X0 w0 X w) (h0: ∀k,X0 k→k<w0.heap.size) (he:oV P t e k bytes=true) (src:Sl w X k s eD) (h1: ∀r∈eD,∀u∈r,one u=true)
  (hb:(rows.length+eD.length)*bytes≤140737488355328) (hl:rows.length+eD.length≤2^63-1)
  (n: ∀v' w' X',aj X0 w0 X' w'→Own w' X' w0.heap.size e k v' (rows++eD)→fO (jw v) X w X' w'→(v'.ownBlock=v.ownBlock∨ ∃g,v'.ownBlock=some g∧w.heap.size≤g)→N v' w' X'):
  eV P R X w true (iS t e k bytes ty v s) N:=by
 obtain⟨hu,kX,xu,z,hi,hz,vu⟩:=nx he
 refine zI (eD:=eD) z hu hi vu kX hs.has hs.kp.size own src h1 hb hl fun v2 w2 X2 hg ho gQ=>?_
 have hd: ∀g,v.ownBlock=some g→w0.heap.size≤g:=fun g hg=>(own.ge hg).1
 refine n v2 w2 X2 (hs.grown hg fun g hg0 he=>?_) ho (hg.ej.mono fun k _ hk=>hk.symm) gQ
 have:=hd g he.symm;have:=h0 g hg0;omega
theorem CG (hX: ∀k,X k→k<w.heap.size) (hu:P.underlying t=some (.slice e)) (hz:(P.info? e).map (·.size)=some k)
  (n: ∀v w' X',aj X w X' w'→Own w' X' w.heap.size e k v []→N v w' X'):eV P R X w m (jc t e k 0 #[]) N:=aah hX hu hz n
end
theorem adw {t e k bytes len:Nat} {parts:Array (Nat×Value)} {rows:List (List Value)} {N:Value→World→XS→Prop} (cells:Array Value) (z:Value) (hX: ∀k,X k→k<w.heap.size) (he:oV P t e k bytes=true)
  (hz:(P.info? e).bind (·.zero)=some z) (Io:0<len*k) (Nu:len*k≤2^24)
  (h:oQ (fun i=>some (i*k,k)) ((xa (len*k)).map (z.cells[· % z.cells.size]!)) parts.toList=some cells)
  (Fl: ∀r∈rows,r.length=k) (hlen:rows.length=len) (hc:cells.toList=rows.flatten)
  (n: ∀v w' X',aj X w X' w'→Own w' X' w.heap.size e k v rows→N v w' X'):eV P R X w m (jc t e k len parts) N:=by
 obtain⟨hu,kX,xu,z',hi,zE,vu⟩:=nx he
 have:z'=z:=by
  cases hq:P.info? e with
  |none=>simp [hq] at hz
  |some ie=>cases qq:ie.zero<;>simp_all
 subst this
 exact BH cells z' hX hu zE Io Nu h Fl hlen hc n
end Go.fR
