/- Part 2 of the proof. -/
import Derived.Deep.MidRow
import Derived.Laws.StructEq
import Derived.Maps.AppendAt
import Derived.Laws.OwnMore
import Derived.Great.BuildSlice
import Derived.Maps.RangeRun
import Derived.KernelRfl
import Derived.Laws.FloatArith
import Derived.Laws.Slices
import Derived.Laws.Pointers
import Derived.Test.YtgfijddlkhkopaaGreatH1
set_option linter.all false
open Go.Result renaming andThen_ok → aN
open Go.Sem renaming run_bind → bu, run_pure → bU, run → tP
open Go.Value renaming int → ay, cells → ba, agg → ep, ownBlock → iv, string → aP
open Nat renaming le_trans → ad, lt_of_lt_of_le → aw, le_refl → au, zero_add → fj, one_mul → BC, mod_eq_of_lt → fz
open Bool renaming false_eq_true → aW, and_eq_true → aA, not_eq_true' → de
open Option.some renaming injEq → aj
open Go.Instr renaming checkKey → gU, lookup → bO, fill → rS, sameBits → nv, mapUpdate → cR, entry → qq, loadAt → ju, buildSlice → jq, box → ct, extract → gB, findKey → um, findNow → kH, makeMap → gf, range → xu, indexAt → zl, index → BD, findAsking → BE, keyThatStays → zJ
open Array renaming toList → dm, getElem?_setIfInBounds → dR, range → BF, length_toList → fB
open PUnit renaming unit → ny
open List renaming toList_toArray → cX, getElem?_eq_getElem → aS, all → aV, length_cons → aJ, findIdx?_cons → my, find?_cons → fO, length → bB, drop_eq_getElem_cons → lu, map_cons → bh, filter_cons → eP, getElem_map → rz, mem_singleton → ax, getElem?_take → iM, flatten_cons → dd, nil_append → bp, length_append → aa, drop_of_length_le → kz, map_append → aC, nodup_append → AJ, getElem?_cons_zero → j5, getElem_of_mem → za
open Option renaming map_some → aZ, bind_some → cW, map_none → B5
open Prod.mk renaming injEq → cY
open Go.Builtin renaming len_ → kf, delete_ → sM, append_ → fp, min_ → kg, min2 → FF
open Go.Op renaming equalIn → uN, bytesLess → cB, eqFields → xv
open Go.ByteArray renaming toList_eq → oZ
open ForInStep renaming yield → sN
open Go.World renaming ownsRow_lit → AK
namespace Go.aK
structure ai (X:XS) (w:World) (X':XS) (w':World):Prop where
 kp:Kp X w w'
 sub: ∀k,X k->X' k
 has: ∀k,X' k->k<w'.heap.size
def ai.init (w:World):ai (bP w) w (bP w) w:=⟨Kp.refl _ _,λ_ h=>h,λ_ h=>h⟩
variable {X Y : XS}
theorem ai.trans {Z:XS} {a b c:World} (h:ai X a Y b) (k:ai Y b Z c):ai X a Z c:=
 ⟨h.kp.trans (k.kp.less h.sub),λi hi=>k.sub i (h.sub i hi),k.has⟩
variable {w w' wa : World}
theorem ai.fc (hX: ∀k,X k->k<w.heap.size) (hk:Kp X w wa) (hx:Ext wa w'):ai X w (grow X wa w') w':=
 ⟨hk.trans (hx.kp λk h=>aw (hX k h) hk.size),λ_ h=>.inl h,
  λk h=>h.elim (λh=>aw (hX k h) (ad hk.size hx.size)) (λh=>h.2)⟩
def ai.ext (h:ai (bP w) w X w') (hk:Kp X w' wa):Ext w wa:=(h.kp.trans (hk.less h.sub)).ext
variable {P : Program} {R : Ending -> World -> Prop} {X : XS} {w : World} {m : Bool}
def Pure (P:Program) (f:FuncId) (args:Array Value) (v:Value):Prop:=
 ∀w,Calls P f args w λe w'=>e= .returned v/\Ext w w'
def aoJ (P:Program) (f:FuncId) (args:Array Value) (w:World) (Q:Value->World->Prop):Prop:=
 Calls P f args w λe w'=> ∃v,e= .returned v/\Ext w w'/\Q v w'
def enters (P:Program) (f:FuncId):Bool:=match P.funcs[f]? with
 |some fn=>!(fn.name== "runtime.NumGoroutine")&&fn.body.isSome
 |none=>false
variable {f : FuncId}
theorem pG (h:enters P f=true) (args:Array Value) (w:World):(callFunc f args).run P w= .ok (.enter f args) w:=by
 unfold enters at h;split at h
 ·rename_i fn hf;simp only[aA,de] at h;obtain⟨c,hb⟩:=Option.isSome_iff_exists.1 h.2;have hn: ¬fn.name= "runtime.NumGoroutine" :=by simpa using h.1
  simp[callFunc,hf,hn,hb]
 ·cases h
variable {N : Value -> World -> XS -> Prop} {args : Array Value}
theorem Ze {Q:Value->World->World->Prop}
  (hf:enters P f=true) (hX: ∀k,X k->k<w.heap.size)
  (h: ∀wa,Kp X w wa->aoJ P f args wa (Q · wa))
  (k: ∀v wa w' X',Kp X w wa->Ext wa w'->(∀k,wa.heap.size<=k->k<w'.heap.size->X' k)->Q v wa w'->ai X w X' w'->N v w' X'):
  eC P R X w m f args N:=by
 refine alC Q (pG hf args) (λwa hk=>?_) λv wa w' hk hx hq=>k v wa w' _ hk hx (λk h1 h2=>.inr ⟨h1,h2⟩) hq (ai.fc hX hk hx);refine(h wa hk).mono ?_;simp_all
variable {v : Value}
theorem acj
  (hf:enters P f=true) (hX: ∀k,X k->k<w.heap.size) (h:Pure P f args v)
  (k: ∀w' X',ai X w X' w'->N v w' X'):eC P R X w m f args N:=by
 refine Ze (Q:=λu _ _=>u=v) hf hX (λwa _=>(h wa).mono ?_) λu wa w' X' _ _ _ hq hs=>hq▸k w' X' hs
 grind
theorem FG (hf: ∀wa,(callFunc f args).run P wa= .ok (.value v) wa)
  (hX: ∀k,X k->k<w.heap.size) (k: ∀w' X',ai X w X' w'->N v w' X'):eC P R X w m f args N:=by
 intro wa hk;unfold jV;rw[hf wa];exact⟨Step.fc (Ext.refl _),k _ _ (ai.fc hX hk (Ext.refl _))⟩
variable {w0 : World}
theorem fE {u:Value} (hs:ai (bP w0) w0 X w) (h:u=v):fin (λe w'=>e= .returned v/\Ext w0 w') X w u:=
 λ_ hk=>⟨by rw[h],hs.ext hk⟩
variable {P : Program} {R : Ending -> World -> Prop} {X : XS} {w : World} {m : Bool} {N : Value -> Prop}
abbrev ptr (b o:Nat):Value:=.pointer (some ⟨b,o,none⟩)
def Cells (w:World) (X:XS) (b o:Nat) (l:List Value):Prop:=
 X b/\ ∃cs t fr,w.heap[b]? =some (.cells cs t fr)/\ ∀j v,l[j]? =some v->cs[o+j]? =some v
variable {l : List Value} {b o : Nat}
theorem Cells.kp (h:Cells w X b o l) (hk:Kp X w w'):Cells w' X b o l:=by
 obtain⟨hx,cs,t,fr,hb,hc⟩:=h;exact⟨hx,cs,t,fr,by rw[hk.block b hx];exact hb,hc⟩
def Cells.mono (h:Cells w X b o l) (hs: ∀k,X k->Y k):Cells w Y b o l:=⟨hs _ h.1,h.2⟩
def Cells.since (h:Cells w X b o l) (hs:ai X w Y w'):Cells w' Y b o l:=(h.kp hs.kp).mono hs.sub
theorem Cells.range (h:Cells w X b o l):w.rangeAt b o l:=by
 obtain⟨_,cs,t,fr,hb,hc⟩:=h;intro j v hj;rw[cell_of_row w b (o+j) cs t fr hb];exact hc j v hj
theorem Cells.lt (h:Cells w X b o l):b<w.heap.size:=by
 obtain⟨_,cs,t,fr,hb,_⟩:=h
 grind
theorem Cells.part (h:Cells w X b o l) (i n:Nat):Cells w X b (o+i) ((l.drop i).take n):=by
 obtain⟨hx,cs,t,fr,hb,hc⟩:=h;refine⟨hx,cs,t,fr,hb,λj v hj=>?_⟩;rw[iM] at hj;split at hj
 ·rw[List.getElem?_drop] at hj;rw[Nat.add_assoc];exact hc _ v hj
 ·cases hj
variable {t : TypeId}
theorem af9 (h:Cells w X b o (v::l)) (hi:lv P t=some (false,1)) (k:N v):
  aY P X w (ju t (ptr b o)) N:=by
 refine HK v (λwa hk=>?_) k;have hc:wa.cell? ⟨b,o,none⟩=some v:=(h.kp hk).range 0 v rfl;unfold lv at hi;split at hi
 ·rename_i d i hu EL;simp only[aj,cY] at hi;have Ce:(isAgg t).run P wa= .ok false wa:=by
   cases d<;>simp_all [isAgg,run_underlying hu]
  simp[ju,Instr.sureAddr,loadVar,Ce,hc]
 ·cases hi
variable {n : Nat}
theorem aga (h:Cells w X b o l) (hi:lv P t=some (true,n)) (hn:l.length=n) (k:N (.agg l.toArray)):
  aY P X w (ju t (ptr b o)) N:=by
 refine HK _ (λwa hk=>?_) k;unfold lv at hi;split at hi
 ·rename_i d i hu EL;simp only[aj,cY] at hi;exact run_loadAt_mid wa b o t l d (h.kp hk).range hu gQ gQ
 ·cases hi
variable {sz : Nat}
def Hm {S f fo:Nat} (h:fieldInfo P S f=some (fo,sz)) (hz:sz≠0) (k:N (ptr b (o+fo))):aY P X w (Instr.fieldAt S (ptr b o) f) N:=
 bK (λwa=>NT h hz b o wa) k
variable {parts : Array (Nat × Value)}
def agb (cells:Array Value) (h:P.built t parts.toList=some cells) (k:N (.agg cells)):
  aY P X w (Instr.build t parts) N:=
 bK (λwa=>run_build wa t parts cells h) k
variable {ty : TypeId}
theorem aiu {s:ByteArray} (ht:P.underlying t=some .string) (k:N (.int .i64 s.size)):aY P X w (kf #[t] ty #[.string s]) N:=
 bK (λwa=>by simp[kf,run_underlying ht,goInt]) k
def Sl (w:World) (X:XS) (k:Nat) (v:Value) (rows:List (List Value)):Prop:=
 (∀r∈rows,r.length=k)/\rows.length<=2^63-1/\
 ∃base cap,v= .slice base rows.length cap/\(rows≠[]-> ∃b o,base=some ⟨b,o,none⟩/\Cells w X b o rows.flatten)/\
  (base=none->cap=0)/\rows.length<=cap/\cap<=2^63-1
variable {rows : List (List Value)} {k : Nat}
theorem Sl.mono (h:Sl w X k v rows) (hs: ∀k,X k->Y k):Sl w Y k v rows:=by
 obtain⟨h1,h2,base,cap,hv,hc,hr⟩:=h;exact⟨h1,h2,base,cap,hv,λcu=>let⟨b,o,hb,jS⟩:=hc cu;⟨b,o,hb,jS.mono hs⟩,hr⟩
theorem Sl.kp (h:Sl w X k v rows) (hk:Kp X w w'):Sl w' X k v rows:=by
 obtain⟨h1,h2,base,cap,hv,hc,hr⟩:=h;exact⟨h1,h2,base,cap,hv,λcu=>let⟨b,o,hb,jS⟩:=hc cu;⟨b,o,hb,jS.kp hk⟩,hr⟩
def Sl.since (h:Sl w X k v rows) (hs:ai X w Y w'):Sl w' Y k v rows:=
 (h.kp hs.kp).mono hs.sub
theorem Sl.bP (h:Sl w X k v rows):Sl w (bP w) k v rows:=by
 obtain⟨h1,h2,base,cap,hv,hc,hr⟩:=h;exact⟨h1,h2,base,cap,hv,λcu=>let⟨b,o,hb,jS⟩:=hc cu;⟨b,o,hb,jS.lt,jS.2⟩,hr⟩
theorem Sl.nil (w:World) (X:XS) (k:Nat):Sl w X k (.slice none 0 0) []:=⟨by simp,by simp,none,0,rfl,by simp,by simp,by simp,by simp⟩
theorem Sl.one (h:Sl w X k v rows):one v=true:=by
 obtain⟨_,_,_,_,rfl,_⟩:=h;rfl
theorem Mf: ∀{rows:List (List Value)},(∀r∈rows,r.length=k)-> ∀{i:Nat} {r:List Value},rows[i]? =some r->
  (rows.flatten.drop (i*k)).take k=r
 |[],_,i,r,h=>by simp at h
 |x::rest,hl,0,r,h=>by simp_all
 |x::rest,hl,i+1,r,h=>by
  have hx:=hl x sQ;rw[dd,List.drop_append,hx,List.drop_eq_nil_of_le gQ];have:(i+1)*k-k=i*k:=by rw[Nat.succ_mul];omega
  rw[this,bp];exact Mf (λr hr=>hl r (by simp[hr])) gQ
theorem akR (h:Sl w X k v rows) (ht:P.underlying t=some (.slice (P.elem t)))
  (n:N (.int .i64 rows.length)):aY P X w (kf #[t] ty #[v]) N:=by
 obtain⟨_,_,base,cap,rfl,_⟩:=h;exact bK (λwa=>run_len_slice wa t ty base rows.length cap ht) n
def aiv {α:Type} {enc:α->List Value} {xs:List α} (h:Sl w X k v (xs.map enc))
  (ht:P.underlying t=some (.slice (P.elem t))) (n:N (.int .i64 xs.length)):aY P X w (kf #[t] ty #[v]) N:=
 akR h ht gQ
variable {xo yo : Operand} {xs ys : Array Value}
theorem aiw {b:Bool} (hm:P.eqGuardType P.depth t=false)
  (h: ∀wa,(uN 10000 t (.agg xs) (.agg ys)).run P wa= .ok b wa) (k:N (.bool b)):aY P X w (dF .eql t xo yo (.agg xs) (.agg ys)) N:=by
 refine bK (λwa=>?_) k;simp[dF,run_eqGuard_agg wa .eql t xo yo xs ys hm,run_eql_struct,h]
theorem aix {b:Bool} (hm:P.eqGuardType P.depth t=false)
  (h: ∀wa,(uN 10000 t (.agg xs) (.agg ys)).run P wa= .ok b wa) (k:N (.bool (!b))):aY P X w (dF .neq t xo yo (.agg xs) (.agg ys)) N:=by
 refine bK (λwa=>?_) k;simp[dF,run_eqGuard_agg wa .neq t xo yo xs ys hm,binOp,Op.equal,Op.maxDepth,h]
variable {a : Int}
theorem wrap_i64 (h1: -(2^63)<=a) (h2:a<2^63):IntKind.i64.wrap a=a:=by
 simp only[IntKind.wrap];first
  |omega
  |(simp[IntKind.bits,IntKind.signed];omega)
variable {P : Program} {R : Ending -> World -> Prop} {X : XS} {w : World} {m : Bool}
structure Grown (X:XS) (w:World) (X':XS) (w':World) (row:Option Nat):Prop where
 os:w'.os=w.os
 tape:w'.tape=w.tape
 output:w'.output=w.output
 size:w.heap.size<=w'.heap.size
 block: ∀k,X k->some k≠row->w'.heap[k]? =w.heap[k]?
 sub: ∀k,X k->X' k
 has: ∀k,X' k->k<w'.heap.size
variable {row : Option Nat}
def ai.grown {X0:XS} (h:ai X0 w0 X w) (g:Grown X w Y w' row) (hr: ∀k,X0 k->some k≠row):ai X0 w0 Y w':=
 ⟨⟨g.os.trans h.kp.os,g.tape.trans h.kp.tape,g.output.trans h.kp.output,ad h.kp.size g.size,
  λk hk=>(g.block k (h.sub k hk) (hr k hk)).trans (h.kp.block k hk)⟩,λk hk=>g.sub k (h.sub k hk),g.has⟩
def Grown.since {F:XS} (g:Grown X w Y w' row) (hf: ∀k,F k->X k) (hr: ∀k,F k->some k≠row):ai F w Y w':=
 ⟨⟨g.os,g.tape,g.output,g.size,λk hk=>g.block k (hf k hk) (hr k hk)⟩,λk hk=>g.sub k (hf k hk),g.has⟩
def Own (w:World) (X:XS) (lo e k:Nat) (v:Value) (rows:List (List Value)):Prop:=
 (∀r∈rows,r.length=k)/\w.ownsRow lo e k v rows.length rows.flatten/\ ∀g,v.ownBlock=some g->X g
theorem Own.nil (w:World) (X:XS) (lo e k:Nat):Own w X lo e k (.slice none 0 0) []:=⟨by simp,World.ownsRow_nil w lo e k,by simp[iv]⟩
variable {e lo : Nat}
theorem Own.sl (h:Own w X lo e k v rows):Sl w X k v rows:=by
 obtain⟨h1,h2,h3⟩:=h;rcases h2.2 with⟨rfl,hn⟩|⟨g,cap,cur,rfl,hb,hg,ql,iq,jS,ht⟩
 ·grind [Sl.nil]
 ·have hm:cap<=2^63-1:=iq;refine⟨h1,ad ql hm,_,cap,rfl,λ_=>⟨g,0,rfl,h3 g rfl,cur,e,(0,0),hg,λj v hj=>?_⟩,by simp,ql,hm⟩;rw[<-ht,iM] at hj;split at hj
  ·simpa using hj
  ·cases hj
theorem Own.kp (h:Own w X lo e k v rows) (hk:Kp X w w'):Own w' X lo e k v rows:=by
 obtain⟨h1,h2,h3⟩:=h;refine⟨h1,⟨h2.1,?_⟩,h3⟩;rcases h2.2 with h|⟨g,cap,cur,rfl,hb,hg,hr⟩
 ·exact .inl h
 ·exact .inr ⟨g,cap,cur,rfl,hb,by rw[hk.block g (h3 g rfl)];exact hg,hr⟩
def Own.mono (h:Own w X lo e k v rows) (hs: ∀k,X k->Y k):Own w Y lo e k v rows:=
 ⟨h.1,h.2.1,λg hg=>hs g (h.2.2 g hg)⟩
def Own.since (h:Own w X lo e k v rows) (hs:ai X w Y w'):Own w' Y lo e k v rows:=
 (h.kp hs.kp).mono hs.sub
theorem Own.low {lo':Nat} (h:Own w X lo e k v rows) (hl:lo'<=lo):Own w X lo' e k v rows:=by
 obtain⟨h1,h2,h3⟩:=h;refine⟨h1,⟨h2.1,?_⟩,h3⟩;rcases h2.2 with h|⟨g,cap,cur,rfl,hb,hr⟩
 ·exact .inl h
 ·exact .inr ⟨g,cap,cur,rfl,ad hl hb,hr⟩
def Own.ge (h:Own w X lo e k v rows) {g:Nat} (hg:v.ownBlock=some g):lo<=g/\g<w.heap.size:=h.2.1.lt g hg
def Own.tight (h:Own w X lo e k v rows):Own w (λg=>lo<=g/\g<w.heap.size) lo e k v rows:=
 ⟨h.1,h.2.1,λ_ hg=>h.ge hg⟩
theorem kK: ∀{rows:List (List Value)},(∀r∈rows,r.length=k)->rows.flatten.length=rows.length*k
 |[],_=>by simp
 |r::rs,h=>by
  rw[dd,aa,h r sQ,kK λr hr=>h r (by simp[hr]),aJ,Nat.succ_mul,Nat.add_comm]
theorem Cs {t len:Nat} {N:Value->World->XS->Prop} (cells:Array Value) (z:Value)
  (hX: ∀k,X k->k<w.heap.size) (hu:P.underlying t=some (.slice e)) (hz:(P.info? e).bind (λi=>i.zero.map λz=>(i.size,z))=some (k,z))
  (Yr:0<len*k) (Rq:len*k<=2^24)
  (h:rS (λi=>some (i*k,k)) ((BF (len*k)).map (z.cells[· % z.cells.size]!)) parts.toList=some cells)
  (CW: ∀r∈rows,r.length=k) (hlen:rows.length=len) (hc:cells.toList=rows.flatten)
  (n: ∀v w' X',ai X w X' w'->Own w' X' w.heap.size e k v rows->N v w' X'):eV P R X w m (jq t len parts) N:=by
 intro wa hk;cases hq:P.info? e with
 |none=>grind
 |some ie=>
  cases ua:ie.zero with
  |none=>grind
  |some z'=>
   simp only[hq,ua,cW,aZ,aj,cY] at hz;obtain⟨rfl,rfl⟩:=hz;have hr:=run_buildSlice (P:=P) wa t e len parts cells ie z' hu hq ua zQ zQ h;unfold jV;simp only[vS,bu,hr,aN,bU];have hx:Ext wa (wa.alloc (.cells cells e)):=Ext.alloc _ _;have jS:cells.size=len*ie.size:=by
    have:=congrArg bB hc;simp only[fB] at this;rw[this,kK CW,hlen]
   have aoK:0<ie.size:=Nat.pos_of_ne_zero λe=>by grind
   have hle:len<=2^24:=ad (Nat.le_mul_of_pos_right len aoK) Rq;have uA:=AK (e:=e) (base:=w.heap.size) (size:=ie.size) wa cells len hk.size (by simp only[maxLen];omega) jS;refine⟨Step.fc hx,n _ _ _ (ai.fc hX hk hx) ⟨CW,by grind,λg hg=>?_⟩⟩;simp only[iv,aj] at hg;subst hg;exact .inr ⟨au _,by simp⟩
theorem agc {t:Nat} {N:Value->World->XS->Prop} (hX: ∀k,X k->k<w.heap.size) (hu:P.underlying t=some (.slice e)) (hz:(P.info? e).map (·.size)=some k)
  (n: ∀v w' X',ai X w X' w'->Own w' X' w.heap.size e k v []->N v w' X'):eV P R X w m (jq t 0 #[]) N:=by
 intro wa hk;cases hq:P.info? e with
 |none=>grind
 |some ie=>
  unfold jV;have hr:(jq t 0 #[]).run P wa= .ok (.slice (some ⟨wa.heap.size,0,none⟩) 0 0) (wa.alloc (.cells #[] e)):=by
   simp[jq,run_underlying hu,sizeOf,typeInfo,hq,rS,newRow];have K3: ∀f:Nat->Value,Array.map f (BF 0)= #[]:=λf=>Array.eq_empty_of_size_eq_zero sQ;rw[K3]
  simp only[vS,bu,hr,aN,bU];have hx:Ext wa (wa.alloc (.cells #[] e)):=Ext.alloc _ _;have uA:=AK (e:=e) (base:=w.heap.size) (size:=k) wa #[] 0 hk.size zQ sQ;refine⟨Step.fc hx,n _ _ _ (ai.fc hX hk hx) ⟨by simp,uA,λg hg=>?_⟩⟩;simp only[iv,aj] at hg;subst hg;exact .inr ⟨au _,by simp⟩
theorem Sl.src (h:Sl w X k v rows):
  v= .slice none 0 0/\rows=[]\/ ∃a cap,v= .slice (some a) rows.length cap/\ ∀j u,rows.flatten[j]? =some u->w.cell? (a.add j)=some u:=by
 obtain⟨h1,h2,base,cap,rfl,hc,hn,hle,_⟩:=h;cases base with
 |none=>
  grind
 |some a=>
  refine .inr ⟨a,cap,rfl,λj u hj=>?_⟩;cases rows with
  |nil=>simp at hj
  |cons r rs=>
   obtain⟨b,o,hb,jS⟩:=hc sQ;cases hb;rw[z8];exact jS.range j u hj
theorem Dq {t ty bytes:Nat} {s:Value} {du:List (List Value)} {N:Value->World->XS->Prop} (z:Value)
  (hu:P.underlying t=some (.slice e)) (hi:(P.info? e).bind (λi=>i.zero.map λz=>(i.size,i.bytes,z))=some (k,bytes,z)) (vC:z.cells.size=k) (iy:0<k)
  (hX: ∀k,X k->k<w.heap.size) (gr:lo<=w.heap.size) (own:Own w X lo e k v rows) (src:Sl w X k s du) (h1: ∀r∈du,∀u∈r,one u=true)
  (hb:(rows.length+du.length)*bytes<=140737488355328) (hl:rows.length+du.length<=2^63-1)
  (n: ∀v' w' X',Grown X w X' w' v.ownBlock->Own w' X' lo e k v' (rows++du)->(v'.ownBlock=v.ownBlock\/ ∃g,v'.ownBlock=some g/\w.heap.size<=g)->N v' w' X'):
  eV P R X w true (fp #[t,t] ty #[v,s]) N:=by
 intro wa hk;have own:=own.kp hk;have src:=src.kp hk;cases hq:P.info? e with
 |none=>grind
 |some ie=>
  cases ua:ie.zero with
  |none=>grind
  |some z'=>
   simp only[hq,ua,cW,aZ,aj,cY] at hi;obtain⟨rfl,rfl,rfl⟩:=hi;unfold jV;rcases src.src with⟨rfl,rfl⟩|⟨a,cap,rfl,CX⟩
   ·have hr:=run_append_owned_none (P:=P) (w:=wa) lo t ty e ie ie.size hu hq v rows.length rows.flatten own.2.1;simp only[vS,bu,hr,aN,bU];have hx:=Ext.refl wa;have hs:=ai.fc hX hk hx;refine⟨Step.fc hx,n _ _ _ ⟨hs.kp.os,hs.kp.tape,hs.kp.output,hs.kp.size,λk h _=>hs.kp.block k h,hs.sub,hs.has⟩ ?_ (.inl rfl)⟩;rw[List.append_nil];exact own.mono (λk h=>Or.inl h)
   ·have sO:du.flatten.length=du.length*ie.size:=kK src.1;obtain⟨v',w',hr,uA,hg,_,dc⟩:=run_append_own_at (P:=P) wa lo t ty e ie z' ie.size ie.bytes hu hq ua rfl rfl vC iy v rows.length rows.flatten own.2.1
     a du.length cap du.flatten sO CX (λu hu=>by
      obtain⟨r,hr,hur⟩:=List.mem_flatten.1 hu;rw[<-Qd];exact h1 r hr u hur) hl hb (ad gr hk.size)
    simp only[vS,bu,hr,aN,bU];refine⟨⟨hg.os,hg.tape,hg.output,hg.size,λk uF nL=>hg.block k uF λe=>nL (own.2.2 k e.symm)⟩,n _ _ _ ?_ ⟨?_,?_,?_⟩ ?_⟩
    ·exact⟨hg.os.trans hk.os,hg.tape.trans hk.tape,hg.output.trans hk.output,ad hk.size hg.size,
      λk hx cu=>(hg.block k (aw (hX k hx) hk.size) cu).trans (hk.block k hx),λk h=>.inl h,
      λk h=>h.elim (λh=>aw (hX k h) (ad hk.size hg.size)) (λh=>h.2)⟩
    ·intro r hr;rcases List.mem_append.1 hr with h|h
     ·exact own.1 r h
     ·exact src.1 r h
    ·rw[aa,List.flatten_append];omega
    ·intro g J0;rcases dc with h|h
     ·exact .inl (own.2.2 g (h▸J0))
     ·rw[J0] at h;cases h;exact .inr ⟨au _,(uA.lt _ J0).2⟩
    ·rcases dc with h|h
     ·exact .inl h
     ·exact .inr ⟨_,h,hk.size⟩
theorem PB {e:TypeId} (ht:P.underlying t=some (.slice e)) (d:Nat) (base:Option Addr) (n c:Nat) (w:World):
  (uN (d+1) t (.slice base n c) (.slice none 0 0)).run P w= .ok base.isNone w:=by
 cases base<;>simp[uN,run_underlying ht]
theorem Zf {e:TypeId} {base:Option Addr} {c:Nat} {N:Value->Prop} (ht:P.underlying t=some (.slice e)) (h:N (.bool base.isNone)):
  aY P X w (dF .eql t xo yo (.slice base n c) (.slice none 0 0)) N:=by
 refine bK (λwa=>?_) h;have:(Op.equal t (.slice base n c) (.slice none 0 0)).run P wa= .ok base.isNone wa:=PB ht 9999 base n c wa;simp[dF,eqGuard,binOp,this]
def Ni (P:Program):List Field->Nat->Bool
 |[],_=>true
 |f::r,i=>f.name != "_" &&(match P.underlying f.type with|some (.int _)=>true|_=>false)&&f.offset==i&&Ni P r (i+1)
theorem D7 (w:World) (d:Nat) (as bs:List Int): ∀(fs:List Field) (i:Nat),Ni P fs i=true->as.length=i+fs.length->bs.length=i+fs.length->
  (xv (d+1) (as.map (ay .i64)).toArray (bs.map (ay .i64)).toArray fs).run P w= .ok (decide (as.drop i=bs.drop i)) w
 |[],i,_,ha,hb=>by
  simp only[List.length_nil,Nat.add_zero] at ha hb;rw[kz zQ,kz zQ];simp[xv]
 |f::r,i,h,ha,hb=>by
  simp only[Ni,aA,bne_iff_ne,ne_eq,beq_iff_eq] at h;obtain⟨⟨⟨hn,hu⟩,ho⟩,hr⟩:=h;simp only[aJ] at ha hb;have hia:i<as.length:=by omega
  have hib:i<bs.length:=by omega
  cases hd:P.underlying f.type with
  |none=>simp[hd] at hu
  |some ty=>
   cases ty<;>simp only[hd,aW] at hu
   rename_i q;have Ce:(isAgg f.type).run P w= .ok false w:=by simp[isAgg,run_underlying hd]
   have Zg:(part f.type (as.map (ay .i64)).toArray f.offset).run P w= .ok (.int .i64 as[i]) w:=by
    simp[part,Ce,ho,hia]
   have H5:(part f.type (bs.map (ay .i64)).toArray f.offset).run P w= .ok (.int .i64 bs[i]) w:=by
    simp[part,Ce,ho,hib]
   have ih:=D7 w d as bs r (i+1) hr zQ zQ;have hk:(as.drop i=bs.drop i)↔(as[i]=bs[i]/\as.drop (i+1)=bs.drop (i+1)):=by
    rw[lu hia,lu hib,List.cons.injEq]
   simp only[hk];clear hk;by_cases he:as[i]=bs[i]
   ·simp[xv,hn,Zg,H5,run_equalIn_int w d f.type .i64 q _ _ hd,he,ih]
   ·simp[xv,hn,Zg,H5,run_equalIn_int w d f.type .i64 q _ _ hd,he]
def j6 (P:Program) (t n:Nat):Bool:=match P.underlying t with
 |some (.struct fs)=>fs.toList.length==n&&Ni P fs.toList 0&&!P.stoodInHeld t&&!P.eqGuardType P.depth t
 |_=>false
theorem Cu {t:Nat} (h:j6 P t n=true) (as bs:List Int) (ha:as.length=n) (hb:bs.length=n) (w:World):
  (uN 10000 t (.agg (as.map (ay .i64)).toArray) (.agg (bs.map (ay .i64)).toArray)).run P w= .ok (decide (as=bs)) w:=by
 unfold j6 at h;split at h
 ·rename_i fs hu;simp only[aA,beq_iff_eq,de] at h;have hf:P.fieldsOf t=fs:=by simp[Program.fieldsOf,hu]
  rw[run_equalIn_struct w 9999 t _ _ gQ h.1.2,hf];have:=D7 (P:=P) w 9998 as bs fs.toList 0 h.1.1.2 zQ zQ;assumption
 ·cases h
theorem GJ {t:Nat} (h:j6 P t n=true):P.eqGuardType P.depth t=false:=by
 unfold j6 at h
 grind
variable {a' b' c c' : Int}
theorem aiy {N:Value->Prop} {b:Int} (h:j6 P t 3=true) (k:N (.bool (decide (a=a'/\b=b'/\c=c')))):
  aY P X w (dF .eql t xo yo (.agg #[.int .i64 a,.int .i64 b,.int .i64 c]) (.agg #[.int .i64 a',.int .i64 b',.int .i64 c'])) N:=
 aiw (b:=decide (a=a'/\b=b'/\c=c')) (GJ h) (λwa=>by
  have:=Cu h [a,b,c] [a',b',c'] rfl rfl wa;simpa using this) k
theorem aiz {N:Value->Prop} {b:Int} (h:j6 P t 3=true) (k:N (.bool (!decide (a=a'/\b=b'/\c=c')))):
  aY P X w (dF .neq t xo yo (.agg #[.int .i64 a,.int .i64 b,.int .i64 c]) (.agg #[.int .i64 a',.int .i64 b',.int .i64 c'])) N:=
 aix (b:=decide (a=a'/\b=b'/\c=c')) (GJ h) (λwa=>by
  have:=Cu h [a,b,c] [a',b',c'] rfl rfl wa;simpa using this) k
theorem ack {N:Value->World->XS->Prop} (hX: ∀k,X k->k<w.heap.size)
  (n: ∀b w' X',w.heap.size<=b->ai X w X' w'->X' b->w'.heap[b]? =some (.cells v.cells.toList.toArray t (0,0))->N (ptr b 0) w' X'):eV P R X w m (ct t v) N:=by
 intro wa hk;unfold jV;have hr:(ct t v).run P wa= .ok (ptr wa.heap.size 0) (wa.alloc (.cells v.cells t)):=by simp[ct,newVar,newRow]
 simp only[vS,bu,hr,aN,bU];have hx:Ext wa (wa.alloc (.cells v.cells t)):=Ext.alloc _ _;exact⟨Step.fc hx,n _ _ _ hk.size (ai.fc hX hk hx) (.inr ⟨au _,by simp⟩) (by simpa using heap_alloc_new wa _)⟩
def aH (w:World) (X:XS) (b:Nat) (cs:List Value) (ty:TypeId):Prop:=X b/\w.heap[b]? =some (.cells cs.toArray ty (0,0))
variable {cs : List Value}
theorem aH.kp (h:aH w X b cs ty) (hk:Kp X w w'):aH w' X b cs ty:=⟨h.1,by rw[hk.block b h.1];exact h.2⟩
def aH.mono (h:aH w X b cs ty) (hs: ∀k,X k->Y k):aH w Y b cs ty:=⟨hs _ h.1,h.2⟩
def aH.since (h:aH w X b cs ty) (hs:ai X w Y w'):aH w' Y b cs ty:=(h.kp hs.kp).mono hs.sub
theorem aH.cells (h:aH w X b cs ty):Cells w X b 0 cs:=⟨h.1,_,_,_,h.2,λj v hj=>by grind⟩
theorem aiA {t:Nat} {N:Value->World->XS->Prop} (h:aH w X b cs ty) (ht:(P.info? t).map (·.size)=some sz)
  (hl:o+sz<=cs.length) (hv:v.cells.size=sz) (h1:v.cells.toList.all one=true) (hX: ∀k,X k->k<w.heap.size)
  (n: ∀w' X',Grown X w X' w' (some b)->aH w' X' b (bM cs o v.cells.toList) ty->N undef w' X'):eU P R X w true (Instr.storeAt t (ptr b o) v) N:=by
 intro wa hk;have hb:=(h.kp hk).2;unfold jV;have hr:=NU (P:=P) ht hb o zQ v hv h1;simp only[eI] at hr;simp only[uS,bu,hr,aN,bU];have gh:(wa.setRow b (bM cs o v.cells.toList).toArray).heap.size=wa.heap.size:=by simp
 refine⟨⟨rfl,rfl,rfl,by omega,λk _ hx=>setRow_other wa b k _ λe=>hx (e▸h.1)⟩,n _ _ ?_ ⟨.inl h.1,setRow_heap wa b _ _ ty _ hb⟩⟩;refine⟨hk.os,hk.tape,hk.output,by rw[gh];exact hk.size,λk hx cu=>?_,λk h=>.inl h,λk h=>?_⟩
 ·rw[setRow_other wa b k _ (λe=>cu (by rw[e])),hk.block k hx]
 ·rw[gh];exact h.elim (λh=>aw (hX k h) hk.size) (λh=>by omega)
variable {P : Program} {α : Type}
end Go.aK
namespace Go.aK
variable {P : Program} {R : Ending -> World -> Prop} {X : XS} {w : World} {m : Bool} {κ : Type} [DecidableEq κ]
abbrev jy (κ:Type):=κ×Value×Nat
def lS (kv:κ->Value) (x:jy κ):MapEntry:=⟨kv x.1,x.2.1,x.2.2⟩
def tv (k:κ):List (jy κ)->Nat->Option (Nat×Value)
 |[],_=>none
 |x::r,i=>if k=x.1 then some (i,x.2.1)else tv k r (i+1)
structure xw (P:Program) (kt:TypeId) (kv:κ->Value):Prop where
 jh: ∀e k w,(gU e 10000 kt (kv k)).run P w= .ok () w
 find: ∀k (l:List (jy κ)) w,(um kt (kv k) (l.map (lS kv))).run P w= .ok (tv k l 0) w
 same: ∀k,nv 10000 (kv k) (kv k)=true
theorem Mg (a b:ByteArray):(a==b)=decide (a=b):=by
 rw[beq_toListBytes];have:a.toList=b.toList↔a=b:=by
  constructor
  ·intro h;rw[oZ,oZ] at h;obtain⟨⟨x⟩⟩:=a;simp_all
  ·grind
 grind
theorem Kq {kt:TypeId} (h:P.underlying kt=some .string) (e:Bool) (n:Nat) (k:ByteArray) (w:World):
  (gU e (n+1) kt (.string k)).run P w= .ok () w:=by simp[gU,run_underlying h]
theorem PC {kt:TypeId} {fs:Array Field} (h:P.underlying kt=some (.struct fs)) (e:Bool) (n:Nat) (cs:Array Value) (w:World)
  (hr:(forIn fs ny λf (_:PUnit)=>(if f.name≠ "_" then(do
    let v<-part f.type cs f.offset
    gU e n f.type v
    pure (sN ny))
   else pure (sN ny):Sem (ForInStep PUnit))).run P w= .ok ny w):
  (gU e (n+1) kt (.agg cs)).run P w= .ok () w:=by
 simp only[gU,bu,run_underlying h,aN];exact(congrArg (λr=>r.andThen λ_ w'=>tP P (Pure.pure ()) w') hr).trans rfl
theorem I2 {kt:TypeId} (h:P.underlying kt=some .string):xw P kt (λs:ByteArray=>aP s) where
 jh e k w:=Kq h e 9999 k w
 find k l w:=by
  have: ∀(l:List (jy ByteArray)) (i:Nat),kH .string (.string k) (l.map (lS λs=>aP s)) i=some (tv k l i):=by
   intro l
   induction l with
   |nil=>intro i;rfl
   |cons x r ih=>
    intro i;by_cases hk:k=x.1
    ·simp[kH,lS,Instr.sameNow,tv,hk,Mg]
    ·simp[kH,lS,Instr.sameNow,tv,hk,ih,Mg]
  simp[um,run_underlying h,this]
 same k:=by simp[nv,Mg]
theorem D8 (w:World) (e:Bool) (d:Nat) (as:List Int): ∀(fs:List Field) (i:Nat),Ni P fs i=true->as.length=i+fs.length->
  (forIn fs ny λf (_:PUnit)=>(if f.name≠ "_" then(do
    let v<-part f.type (as.map (ay .i64)).toArray f.offset
    gU e (d+1) f.type v
    pure (sN ny))
   else pure (sN ny):Sem (ForInStep PUnit))).run P w= .ok ny w
 |[],i,_,_=>by simp
 |f::r,i,h,ha=>by
  simp only[Ni,aA,bne_iff_ne,ne_eq,beq_iff_eq] at h;obtain⟨⟨⟨hn,hu⟩,ho⟩,hr⟩:=h;simp only[aJ] at ha;have hia:i<as.length:=by omega
  cases hd:P.underlying f.type with
  |none=>simp[hd] at hu
  |some ty=>
   cases ty<;>simp only[hd,aW] at hu
   rename_i q;have Ce:(isAgg f.type).run P w= .ok false w:=by simp[isAgg,run_underlying hd]
   have Zg:(part f.type (as.map (ay .i64)).toArray f.offset).run P w= .ok (.int .i64 as[i]) w:=by
    simp[part,Ce,ho,hia]
   have A9:(gU e (d+1) f.type (.int .i64 as[i])).run P w= .ok () w:=by
    simp[gU,run_underlying hd]
   have ih:=D8 w e d as r (i+1) hr zQ;rw[List.forIn_cons];simp only[ne_eq,hn,not_false_eq_true,if_true,bu,Zg,A9,aN,bU];exact ih
theorem Vu (d:Nat) (as:List Int):nv (d+1) (.agg (as.map (ay .i64)).toArray) (.agg (as.map (ay .i64)).toArray)=true:=by
 have: ∀l:List Int,((l.map (ay .i64)).zip (l.map (ay .i64))).all (λ(x,y)=>nv d x y)=true:=by
  intro l
  induction l with
  |nil=>rfl
  |cons x r ih=>
   simp only[bh,List.zip_cons_cons,List.all_cons,ih,Bool.and_true]
   grind [nv]
 simp[nv,this]
variable {kt n : Nat}
theorem aiB (h:j6 P kt n=true) (as:κ->List Int) (hlen: ∀k,(as k).length=n) (aqV: ∀a b,as a=as b->a=b):
  xw P kt (λk:κ=>ep ((as k).map (ay .i64)).toArray) where
 jh e k w:=by
  unfold j6 at h;split at h
  ·rename_i fs hu;simp only[aA,beq_iff_eq,de] at h;have hr:=D8 (P:=P) w e 9998 (as k) fs.toList 0 h.1.1.2 gQ;rw[Array.forIn_toList] at hr;exact PC hu e 9999 _ w hr
  ·cases h
 find k l w:=by
  have h0:=h;unfold j6 at h0;split at h0
  ·rename_i fs hu;have aqW: ∀(l:List (jy κ)) (i:Nat),(BE kt (.agg ((as k).map (ay .i64)).toArray) (l.map (lS λk=>ep ((as k).map (ay .i64)).toArray)) i).run P w= .ok (tv k l i) w:=by
    intro l
    induction l with
    |nil=>intro i;rfl
    |cons x r ih=>
     intro i;simp only[bh,BE,lS,Op.equal,Op.maxDepth,bu,(Cu h (as k) (as x.1) (hlen _) (hlen _) w),aN,tv];by_cases hk:k=x.1
     ·subst hk;simp
     ·have: ¬as k=as x.1:=λe=>hk (aqV _ _ e);simp only[this,decide_false,aW,if_false,hk];exact ih _
   cases l with
   |nil=>simp[um,run_underlying hu,kH,tv]
   |cons x r=>
    have:=aqW (x::r) 0;simp only[um,bu,run_underlying hu,aN];assumption
  ·cases h0
 same k:=Vu 9999 (as k)
def mH (w:World) (X:XS) (b:Nat) (kv:κ->Value) (es:List (jy κ)) (clock:Nat):Prop:=
 X b/\w.heap[b]? =some (.map (es.map (lS kv)).toArray clock)/\(es.map (·.1)).Nodup/\(es.map (·.2.2)).Nodup/\ ∀x∈es,x.2.2<clock
variable {w' : World} {b c : Nat}
theorem mH.kp {kv:κ->Value} {es:List (jy κ)} (h:mH w X b kv es c) (hk:Kp X w w'):mH w' X b kv es c:=
 ⟨h.1,by rw[hk.block b h.1];exact h.2.1,h.2.2⟩
variable {Y : XS}
def mH.mono {kv:κ->Value} {es:List (jy κ)} (h:mH w X b kv es c) (hs: ∀k,X k->Y k):mH w Y b kv es c:=⟨hs _ h.1,h.2⟩
def mH.since {kv:κ->Value} {es:List (jy κ)} (h:mH w X b kv es c) (hs:ai X w Y w'):mH w' Y b kv es c:=
 (h.kp hs.kp).mono hs.sub
def Hn (k:κ) (es:List (jy κ)):Option Value:=(es.find? λx=>decide (x.1=k)).map (·.2.1)
theorem PD (k:κ): ∀(es:List (jy κ)) (i:Nat),tv k es i=(es.findIdx? λx=>decide (x.1=k)).bind λj=>(es[j]?).map λx=>(i+j,x.2.1)
 |[],i=>rfl
 |x::r,i=>by
  unfold tv;by_cases h:k=x.1
  ·grind
  ·rw[if_neg h,PD k r (i+1)];have h': ¬x.1=k:=λe=>h e.symm;simp only[my,h',decide_false,aW,if_false];cases r.findIdx? λx=>decide (x.1=k)with
   |none=>rfl
   |some j=>simp[Nat.add_assoc,Nat.add_comm 1 j]
theorem UP (k:κ): ∀(es:List (jy κ)) (i:Nat),(tv k es i).map (·.2)=Hn k es
 |[],i=>rfl
 |x::r,i=>by
  unfold tv Hn;by_cases h:k=x.1
  ·simp[h]
  ·have h': ¬x.1=k:=λe=>h e.symm;rw[if_neg h,UP k r (i+1)];simp[Hn,h']
variable {et : Nat}
theorem aem {t:Nat} {kv:κ->Value} {es:List (jy κ)} {k:κ} {N:Value->Prop} (z:Value) (h:mH w X b kv es c) (K:xw P kt kv)
  (ht:P.underlying t=some (.map kt et)) (hz:(P.info? et).bind (·.zero)=some z)
  (n:N (.tuple #[(Hn k es).getD z,.bool (Hn k es).isSome])):aY P X w (bO t (.map (some b)) (kv k) true) N:=by
 refine HK _ (λwa hk=>?_) n;cases hi:P.info? et with
 |none=>grind
 |some inf=>
  have tg:inf.zero=some z:=by simpa [hi] using hz
  have hg:=UP k es 0;simp only[bO,bu,run_underlying ht,aN,getObj,tP,((h.kp hk).2.1),K.jh,cX,K.find];cases hf:tv k es 0 with
  |none=>
   rw[hf] at hg;simp only[B5] at hg;simp[zeroValue,typeInfo,hi,tg,<-hg,K.find,hf]
  |some r=>
   rw[hf] at hg;simp only[aZ] at hg;simp[<-hg,K.find,hf]
variable {N : Value -> World -> XS -> Prop} {t : TypeId}
theorem aen {kv:κ->Value} (hX: ∀k,X k->k<w.heap.size)
  (n: ∀b w' X',w.heap.size<=b->ai X w X' w'->mH w' X' b kv [] 0->N (.map (some b)) w' X'):eV P R X w m (gf t none) N:=by
 intro wa hk;unfold jV;have hr:(gf t none).run P wa= .ok (.map (some wa.heap.size)) (wa.alloc (.map #[] 0)):=by simp[gf]
 simp only[vS,bu,hr,aN,bU];have hx:Ext wa (wa.alloc (.map #[] 0)):=Ext.alloc _ _;exact⟨Step.fc hx,n _ _ _ hk.size (ai.fc hX hk hx) ⟨.inr ⟨au _,by simp⟩,by simpa using heap_alloc_new wa _,by simp,by simp,by simp⟩⟩
open Go.ChangeMaps (setBlock)
variable {wa : World}
theorem Mh {o:Obj} (hX: ∀k,X k->k<w.heap.size) (hk:Kp X w wa):Grown X w (grow X wa (setBlock wa b o)) (setBlock wa b o) (some b):=by
 have hs:(setBlock wa b o).heap.size=wa.heap.size:=by simp[setBlock]
 refine⟨hk.os,hk.tape,hk.output,by rw[hs];exact hk.size,λk hx cu=>?_,λk h=>.inl h,λk h=>?_⟩
 ·rw[<-hk.block k hx];have:b≠k:=λe=>cu (by rw[e]);simp[setBlock,dR,this]
 ·rw[hs];exact h.elim (λh=>aw (hX k h) hk.size) (λh=>by omega)
theorem Zh {o:Obj} (hb:X b):Fr X wa (setBlock wa b o):=by
 refine⟨rfl,rfl,rfl,by simp[setBlock],λk _ hx=>?_⟩;have:b≠k:=λe=>hx (e▸hb);simp[setBlock,dR,this]
theorem KY {o:Obj} (hb:b<wa.heap.size):(setBlock wa b o).heap[b]? =some o:=by
 simp[setBlock,dR,hb]
theorem run_setObj_map {es:Array MapEntry} (hb:wa.heap[b]? =some (.map es c)) (o:Obj):(setObj b o).run P wa= .ok () (setBlock wa b o):=by
 simp[setObj,tP,hb,setBlock]
def Ho (k:κ) (v:Value) (c:Nat) (es:List (jy κ)):List (jy κ)×Nat:=
 match es.findIdx? λx=>decide (x.1=k)with
 |some i=>(es.modify i λx=>(x.1,v,x.2.2),c)
 |none=>(es++[(k,v,c)],c+1)
theorem Cv {β γ:Type} (g:β->γ) (f:β->β) (hf: ∀x,g (f x)=g x): ∀(l:List β) (i:Nat),(l.modify i f).map g=l.map g
 |[],i=>by simp
 |x::r,0=>by simp[hf]
 |x::r,i+1=>by simp[Cv g f hf r i]
theorem mem_modify {β:Type} {f:β->β} : ∀{l:List β} {i:Nat} {y:β},y∈l.modify i f-> ∃x∈l,y=x\/y=f x
 |[],i,y,h=>by simp at h
 |x::r,0,y,h=>by grind
 |x::r,i+1,y,h=>by
  simp only[List.modify_succ_cons,List.mem_cons] at h;rcases h with h|h
  ·grind
  ·obtain⟨z,hz,he⟩:=mem_modify h
   grind
variable {v : Value}
theorem agd {t:Nat} {kv:κ->Value} {es:List (jy κ)} {k:κ} (h:mH w X b kv es c) (K:xw P kt kv)
  (ht:P.underlying t=some (.map kt et)) (hX: ∀k,X k->k<w.heap.size)
  (n: ∀w' X',Grown X w X' w' (some b)->mH w' X' b kv (Ho k v c es).1 (Ho k v c es).2->N undef w' X'):
  eU P R X w true (cR t (.map (some b)) (kv k) v) N:=by
 intro wa hk;have hM:=h.kp hk;have hb:=hM.2.1;have cI:b<wa.heap.size:=(Array.getElem?_eq_some_iff.1 hb).1;unfold jV;have hr:(cR t (.map (some b)) (kv k) v).run P wa= .ok () (setBlock wa b (.map ((Ho k v c es).1.map (lS kv)).toArray (Ho k v c es).2)):=by
  simp only[cR,bu,run_underlying ht,aN,getObj,tP,hb,K.jh,cX,K.find,PD];unfold Ho;cases hf:es.findIdx? λx=>decide (x.1=k)with
  |none=>simp[run_setObj_map hb,lS]
  |some j=>
   have hj:=List.findIdx?_eq_some_iff_getElem.1 hf;obtain⟨D4,KK,_⟩:=hj;have amS:es[j].1=k:=by simpa using KK
   simp only[cW,aS D4,aZ,fj,bu];have fQ:(zJ (((es.map (lS kv)).toArray[j]?).map (·.key)|>.getD (kv k)) (kv k)).run P wa= .ok (kv k) wa:=by
    simp[zJ,D4,lS,amS,K.same]
   rw[fQ];simp only[aN,run_setObj_map hb]
   congr 3
   rw[List.modify_toArray]
   congr 1
   apply List.ext_getElem?;intro q;simp only[List.getElem?_modify,List.getElem?_map];by_cases hq:j=q
   ·subst hq;simp[aS D4,lS,amS]
   ·simp[hq]
 simp only[uS,bu,hr,aN,bU];refine⟨Zh hM.1,n _ _ (Mh hX hk) ⟨.inl h.1,KY cI,?_,?_,?_⟩⟩
 ·unfold Ho;cases hf:es.findIdx? λx=>decide (x.1=k)with
  |none=>
   simp only[aC,bh,List.map_nil];rw[AJ];refine⟨h.2.2.1,by simp,λa ha y hy=>?_⟩;simp only[ax] at hy;subst hy;rintro rfl;obtain⟨x,hx,rfl⟩:=List.mem_map.1 ha;have:=List.findIdx?_eq_none_iff.1 hf x hx;simp at this
  |some j=>simp only;rw[Cv (λx:jy κ=>x.1) (λx=>(x.1,v,x.2.2)) (λ_=>rfl)];exact h.2.2.1
 ·unfold Ho;cases hf:es.findIdx? λx=>decide (x.1=k)with
  |none=>
   simp only[aC,bh,List.map_nil];rw[AJ];refine⟨h.2.2.2.1,by simp,λa ha y hy=>?_⟩;simp only[ax] at hy;subst hy;rintro rfl;obtain⟨x,hx,he⟩:=List.mem_map.1 ha;have:=h.2.2.2.2 x hx;omega
  |some j=>simp only;rw[Cv (λx:jy κ=>x.2.2) (λx=>(x.1,v,x.2.2)) (λ_=>rfl)];exact h.2.2.2.1
 ·unfold Ho;cases hf:es.findIdx? λx=>decide (x.1=k)with
  |none=>
   intro x hx;rcases List.mem_append.1 hx with hx|hx
   ·have:=h.2.2.2.2 x hx;grind
   ·simp only[ax] at hx;grind
  |some j=>
   intro x hx;obtain⟨y,hy,rfl|rfl⟩:=mem_modify hx
   ·exact h.2.2.2.2 _ hy
   ·exact h.2.2.2.2 y hy
def PE (k:κ) (es:List (jy κ)):List (jy κ):=match es.findIdx? λx=>decide (x.1=k)with
 |some i=>es.eraseIdx i
 |none=>es
theorem agf {t tk ty:Nat} {kv:κ->Value} {es:List (jy κ)} {k:κ} (h:mH w X b kv es c) (K:xw P kt kv)
  (ht:P.underlying t=some (.map kt et)) (hX: ∀k,X k->k<w.heap.size)
  (n: ∀w' X',Grown X w X' w' (some b)->mH w' X' b kv (PE k es) c->N (.tuple #[]) w' X'):
  eV P R X w true (sM #[t,tk] ty #[.map (some b),kv k]) N:=by
 intro wa hk;have hM:=h.kp hk;have hb:=hM.2.1;have cI:b<wa.heap.size:=(Array.getElem?_eq_some_iff.1 hb).1;unfold jV;have qv:(PE k es).Sublist es:=by
  unfold PE;split
  ·grind
  ·grind
 have hr:(sM #[t,tk] ty #[.map (some b),kv k]).run P wa= .ok (.tuple #[]) (setBlock wa b (.map ((PE k es).map (lS kv)).toArray c)):=by
  have e0:(#[t,tk]:Array TypeId)[0]? =some t:=rfl;have e1:(#[Value.map (some b),kv k]:Array Value)[0]? =some (.map (some b)):=rfl;have e2:(#[Value.map (some b),kv k]:Array Value)[1]? =some (kv k):=rfl;simp only[sM,e0,e1,e2,bu,run_underlying ht,aN,getObj,tP,hb,K.jh,cX,K.find,PD];unfold PE;cases hf:es.findIdx? λx=>decide (x.1=k)with
  |none=>simp[run_setObj_map hb]
  |some j=>
   obtain⟨D4,_,_⟩:=List.findIdx?_eq_some_iff_getElem.1 hf;simp only[cW,aS D4,aZ,fj,run_setObj_map hb,aN,bU];simp[Array.eraseIdxIfInBounds,D4,Go.ChangeMaps.map_eraseIdx,run_setObj_map hb]
 simp only[vS,bu,hr,aN,bU];exact⟨Zh hM.1,n _ _ (Mh hX hk) ⟨.inl h.1,KY cI,h.2.2.1.sublist (qv.map _),h.2.2.2.1.sublist (qv.map _),λx hx=>h.2.2.2.2 x (qv.subset hx)⟩⟩
def BG (w:World) (X:XS) (r b:Nat) (kv:κ->Value) (es:List (jy κ)) (c:Nat) (left:List (jy κ)):Prop:=
 mH w X b kv es c/\X r/\r≠b/\ ∃seen:Array Nat,w.heap[r]? =some (.mapIter (some b) c seen c)/\left=es.filter (λx=>!seen.contains x.2.2)
variable {r : Nat}
theorem BG.kp {kv:κ->Value} {es left:List (jy κ)} (h:BG w X r b kv es c left) (hk:Kp X w w'):BG w' X r b kv es c left:=
 ⟨h.1.kp hk,h.2.1,h.2.2.1,let⟨s,hs,hl⟩:=h.2.2.2;⟨s,by rw[hk.block r h.2.1];exact hs,hl⟩⟩
def BG.mono {kv:κ->Value} {es left:List (jy κ)} (h:BG w X r b kv es c left) (hs: ∀k,X k->Y k):BG w Y r b kv es c left:=
 ⟨h.1.mono hs,hs _ h.2.1,h.2.2⟩
def BG.since {kv:κ->Value} {es left:List (jy κ)} (h:BG w X r b kv es c left) (hs:ai X w Y w'):BG w' Y r b kv es c left:=
 (h.kp hs.kp).mono hs.sub
theorem aiC {t:Nat} {kv:κ->Value} {es:List (jy κ)} (h:mH w X b kv es c) (ht:P.underlying t=some (.map kt et))
  (hX: ∀k,X k->k<w.heap.size) (n: ∀r w' X',w.heap.size<=r->ai X w X' w'->BG w' X' r b kv es c es->N (ptr r 0) w' X'):
  eV P R X w m (xu t (.map (some b))) N:=by
 intro wa hk;have hb:=(h.kp hk).2.1;have cI:b<wa.heap.size:=(Array.getElem?_eq_some_iff.1 hb).1;unfold jV;have hr:(xu t (.map (some b))).run P wa= .ok (ptr wa.heap.size 0) (wa.alloc (.mapIter (some b) c #[] c)):=by
  simp[xu,run_underlying ht,getObj,tP,hb]
 simp only[vS,bu,hr,aN,bU];have hx:Ext wa (wa.alloc (.mapIter (some b) c #[] c)):=Ext.alloc _ _;have hs:=ai.fc hX hk hx;exact⟨Step.fc hx,n _ _ _ hk.size hs ⟨h.since hs,.inr ⟨au _,by simp⟩,by omega,#[],heap_alloc_new wa _,(List.filter_eq_self.2 sQ).symm⟩⟩
theorem akS {ty:Nat} {kv:κ->Value} {es left:List (jy κ)} (h:BG w X r b kv es c left) (hX: ∀k,X k->k<w.heap.size)
  (n0:left=[]-> ∀w' X',ai X w X' w'->N (.tuple #[.bool false]) w' X')
  (n1: ∀x∈left,∀w' X',Grown X w X' w' (some r)->BG w' X' r b kv es c (left.filter λy=>decide (y.2.2≠x.2.2))->
   (∀wa,Kp X' w' wa->(qq (ptr r 0)).run P wa= .ok (.tuple #[kv x.1,x.2.1]) wa)->N (.tuple #[.bool true,kv x.1,x.2.1]) w' X'):
  eV P R X w true (Instr.next (ptr r 0) false ty) N:=by
 intro wa hk;obtain⟨hM,hXr,N7,seen,hr,aeo⟩:=h.kp hk;have hb:=hM.2.1;have pM:r<wa.heap.size:=(Array.getElem?_eq_some_iff.1 hr).1;unfold jV;have hold: ∀x∈((es.map (lS kv)).toArray).toList,x.born<c:=by
  intro x hx;simp only[cX,List.mem_map] at hx;obtain⟨y,hy,rfl⟩:=hx;exact hM.2.2.2.2 y hy
 have gr:(leftOf (es.map (lS kv)).toArray seen).toList=left.map (lS kv):=by
  rw[aeo];simp only[leftOf,Array.toList_filter,cX,List.filter_map];rfl
 rcases run_next_at (P:=P) wa ty r b c c seen _ c hr hb hold (au _)with⟨hz,oN⟩|⟨e,he,w1,EP,oN⟩
 ·simp only[vS,bu,oN,aN,bU];have h0:left=[]:=by
   have:left.map (lS kv)=[]:=by rw[<-gr];exact List.eq_nil_of_length_eq_zero (by simpa using hz)
   simpa using this
  exact⟨Step.fc (Ext.refl _),n0 h0 _ _ (ai.fc hX hk (Ext.refl _))⟩
 ·rw[gr] at he;obtain⟨x,hx,rfl⟩:=List.mem_map.1 he;simp only[vS,bu,oN,aN,bU];have By:Kp X w w1:=by
   rcases EP with rfl|rfl
   ·exact hk
   ·exact⟨hk.os,hk.tape,hk.output,hk.size,hk.block⟩
  have Lf:r<w1.heap.size:=by rcases EP with rfl|rfl<;>exact pM
  have mc:w1.heap[b]? =some (.map (es.map (lS kv)).toArray c):=by rcases EP with rfl|rfl<;>exact hb
  have aqX:Fr X wa w1:=by rcases EP with rfl|rfl<;>exact⟨rfl,rfl,rfl,au _,λ_ _ _=>rfl⟩
  have wA: ∀o,(setBlock w1 r o).heap[b]? =some (.map (es.map (lS kv)).toArray c):=by
   intro o;rw[<-mc];simp[setBlock,dR,N7]
  have mO:w1.heap.size=wa.heap.size:=by rcases EP with rfl|rfl<;>rfl
  have aek:grow X wa (setBlock w1 r (.mapIter (some b) c (seen.push x.2.2) c))=grow X w1 (setBlock w1 r (.mapIter (some b) c (seen.push x.2.2) c)):=by
   unfold grow;rw[mO]
  have hG:=Mh (o:=.mapIter (some b) c (seen.push x.2.2) c) (b:=r) hX By;have N1:BG (setBlock w1 r (.mapIter (some b) c (seen.push x.2.2) c)) (grow X w1 (setBlock w1 r (.mapIter (some b) c (seen.push x.2.2) c))) r b kv es c (left.filter λy=>decide (y.2.2≠x.2.2)):=by
   refine⟨⟨.inl hM.1,wA _,hM.2.2⟩,.inl hXr,N7,seen.push x.2.2,KY Lf,?_⟩;rw[aeo,List.filter_filter]
   congr 1
   funext y
   by_cases hy:y.2.2=x.2.2<;>simp[hy,Array.contains_push,Bool.beq_eq_decide_eq]
  show Fr X wa _/\N _ _ (grow X wa _)
  refine⟨aqX.trans (Zh hXr),?_⟩
  show N (.tuple #[.bool true,kv x.1,x.2.1]) (setBlock w1 r (.mapIter (some b) c (seen.push x.2.2) c)) (grow X wa (setBlock w1 r (.mapIter (some b) c (seen.push x.2.2) c)))
  rw[aek];refine n1 x hx _ _ hG N1 λwb pS=>?_;have hxe:x∈es:=by rw[aeo] at hx;exact(List.mem_filter.1 hx).1
  exact run_entry_at (P:=P) wb r b c seen (es.map (lS kv)).toArray c (lS kv x) (by rw[pS.block r (.inl hXr)];exact KY Lf) (N1.kp pS).1.2.1 (by rw[cX];exact List.mem_map.2 ⟨x,hxe,rfl⟩)
   (by rw[cX,List.map_map];exact hM.2.2.2.1)
theorem aiD {k:Value} (hX: ∀k,X k->k<w.heap.size)
  (h: ∀wa,Kp X w wa->(qq (ptr r 0)).run P wa= .ok (.tuple #[k,v]) wa) (n: ∀w' X',ai X w X' w'->N (.tuple #[k,v]) w' X'):
  eV P R X w m (qq (ptr r 0)) N:=by
 intro wa hk;unfold jV;simp only[vS,bu,h wa hk,aN,bU];exact⟨Step.fc (Ext.refl _),n _ _ (ai.fc hX hk (Ext.refl _))⟩
variable {P : Program} {R : Ending -> World -> Prop} {X : XS} {w : World} {m : Bool} {N : Value -> Prop}
def un (e:Value) (M:Value->Prop):Prop:=M e
def jn {α:Type} (r:α) (B:α->Prop):Prop:=B r
def ji (S f _fo _sz:Nat) (x:Value):Sem Value:=Instr.fieldAt S x f
def ld1 (t:TypeId) (x:Value):Sem Value:=ju t x
def jt (t:TypeId) (_n:Nat) (x:Value):Sem Value:=ju t x
def st1 (t:TypeId) (_n:Nat) (x v:Value):Sem Unit:=Instr.storeAt t x v
def nW (t:TypeId) (_k:Nat) (v i:Value):Sem Value:=zl t v i
def mP (t ty:TypeId) (v:Value):Sem Value:=kf #[t] ty #[v]
def pN (t ty:TypeId) (v:Value):Sem Value:=kf #[t] ty #[v]
def sR (t:TypeId) (_cells:Array Value) (parts:Array (Nat×Value)):Sem Value:=Instr.build t parts
def qj (_k:IntKind) (src dst:TypeId) (x:Value):Sem Value:=convert src dst x
def JG (src dst:TypeId) (x:Value):Sem Value:=convert src dst x
def ET (t _n _e:Nat) (x i:Value):Sem Value:=BD t x i
def gT (t _e _k len:Nat) (parts:Array (Nat×Value)):Sem Value:=jq t len parts
def rY (t _e _k _bytes ty:Nat) (v s:Value):Sem Value:=fp #[t,t] ty #[v,s]
def fdV (S f _fo _sz:Nat) (x:Value):Sem Value:=Instr.field S x f
abbrev I (x:Int):Value:=.int .i64 x
abbrev B (x:Bool):Value:=.bool x
def N9 (X:XS) (w:World) (F:JT->Nat->World->XS->Prop):Prop:=Qk X w [] [] λJ n _ w X=>F J n w X
def JH (X:XS) (w:World) (v1:Value) (c1:Nat) (F:JT->Nat->Value->World->XS->Prop):Prop:=Qk X w [v1] [c1] λJ n e w X=>F J n (e c1) w X
def JI (X:XS) (w:World) (v1 v2:Value) (c1 c2:Nat) (F:JT->Nat->Value->Value->World->XS->Prop):Prop:=
 Qk X w [v1,v2] [c1,c2] λJ n e w X=>F J n (e c1) (e c2) w X
def HP (X:XS) (w:World) (v1 v2 v3:Value) (c1 c2 c3:Nat) (F:JT->Nat->Value->Value->Value->World->XS->Prop):Prop:=
 Qk X w [v1,v2,v3] [c1,c2,c3] λJ n e w X=>F J n (e c1) (e c2) (e c3) w X
def JJ (X:XS) (w:World) (v1 v2 v3 v4:Value) (c1 c2 c3 c4:Nat) (F:JT->Nat->Value->Value->Value->Value->World->XS->Prop):Prop:=
 Qk X w [v1,v2,v3,v4] [c1,c2,c3,c4] λJ n e w X=>F J n (e c1) (e c2) (e c3) (e c4) w X
def JK (X:XS) (w:World) (v1 v2 v3 v4 v5:Value) (c1 c2 c3 c4 c5:Nat) (F:JT->Nat->Value->Value->Value->Value->Value->World->XS->Prop):Prop:=
 Qk X w [v1,v2,v3,v4,v5] [c1,c2,c3,c4,c5] λJ n e w X=>F J n (e c1) (e c2) (e c3) (e c4) (e c5) w X
def Oa (X:XS) (w:World) (v1 v2 v3 v4 v5 v6:Value) (c1 c2 c3 c4 c5 c6:Nat) (F:JT->Nat->Value->Value->Value->Value->Value->Value->World->XS->Prop):Prop:=
 Qk X w [v1,v2,v3,v4,v5,v6] [c1,c2,c3,c4,c5,c6] λJ n e w X=>F J n (e c1) (e c2) (e c3) (e c4) (e c5) (e c6) w X
def Ob (X:XS) (w:World) (v1 v2 v3 v4 v5 v6 v7:Value) (c1 c2 c3 c4 c5 c6 c7:Nat) (F:JT->Nat->Value->Value->Value->Value->Value->Value->Value->World->XS->Prop):Prop:=
 Qk X w [v1,v2,v3,v4,v5,v6,v7] [c1,c2,c3,c4,c5,c6,c7] λJ n e w X=>F J n (e c1) (e c2) (e c3) (e c4) (e c5) (e c6) (e c7) w X
def JL (X:XS) (w:World) (v1 v2 v3 v4 v5 v6 v7 v8:Value) (c1 c2 c3 c4 c5 c6 c7 c8:Nat) (F:JT->Nat->Value->Value->Value->Value->Value->Value->Value->Value->World->XS->Prop):Prop:=
 Qk X w [v1,v2,v3,v4,v5,v6,v7,v8] [c1,c2,c3,c4,c5,c6,c7,c8] λJ n e w X=>F J n (e c1) (e c2) (e c3) (e c4) (e c5) (e c6) (e c7) (e c8) w X
def Oc (J:JT) (n:Nat) (w:World) (X:XS):Prop:=EO J n [] w X
def Gi (J:JT) (n:Nat) (a:Value) (w:World) (X:XS):Prop:=EO J n [a] w X
def Gj (J:JT) (n:Nat) (a b:Value) (w:World) (X:XS):Prop:=EO J n [a,b] w X
def JM (J:JT) (n:Nat) (a b c:Value) (w:World) (X:XS):Prop:=EO J n [a,b,c] w X
def JN (J:JT) (n:Nat) (a b c d:Value) (w:World) (X:XS):Prop:=EO J n [a,b,c,d] w X
def JO (J:JT) (n:Nat) (a b c d f:Value) (w:World) (X:XS):Prop:=EO J n [a,b,c,d,f] w X
def Od (J:JT) (n:Nat) (a b c d f g:Value) (w:World) (X:XS):Prop:=EO J n [a,b,c,d,f,g] w X
def Oe (J:JT) (n:Nat) (a b c d f g h:Value) (w:World) (X:XS):Prop:=EO J n [a,b,c,d,f,g,h] w X
def JP (J:JT) (n:Nat) (a b c d f g h i:Value) (w:World) (X:XS):Prop:=EO J n [a,b,c,d,f,g,h,i] w X
def J1 (I:Nat->Value->World->XS->Prop):JT:=λn vs w X=>match vs with
 |[a]=>I n a w X
 |_=>False
def J2 (I:Nat->Value->Value->World->XS->Prop):JT:=λn vs w X=>match vs with
 |[a,b]=>I n a b w X
 |_=>False
def J3 (I:Nat->Value->Value->Value->World->XS->Prop):JT:=λn vs w X=>match vs with
 |[a,b,c]=>I n a b c w X
 |_=>False
def J4 (I:Nat->Value->Value->Value->Value->World->XS->Prop):JT:=λn vs w X=>match vs with
 |[a,b,c,d]=>I n a b c d w X
 |_=>False
def J5 (I:Nat->Value->Value->Value->Value->Value->World->XS->Prop):JT:=λn vs w X=>match vs with
 |[a,b,c,d,f]=>I n a b c d f w X
 |_=>False
def J8 (I:Nat->Value->Value->Value->Value->Value->Value->Value->Value->World->XS->Prop):JT:=λn vs w X=>match vs with
 |[a,b,c,d,f,g,h,i]=>I n a b c d f g h i w X
 |_=>False
def fY {v1 c1 F} (I:Nat->Value->World->XS->Prop) (n:Nat) (h0:I n v1 w X)
  (h: ∀n a w' X',I n a w' X'->F (J1 I) n a w' X'):JH X w v1 c1 F:=⟨J1 I,⟨n,h0⟩,λn e w' X' _ hj=>h n (e c1) w' X' hj⟩
def gM {v1 v2 c1 c2 F} (I:Nat->Value->Value->World->XS->Prop) (n:Nat) (h0:I n v1 v2 w X)
  (h: ∀n a b w' X',I n a b w' X'->F (J2 I) n a b w' X'):JI X w v1 v2 c1 c2 F:=⟨J2 I,⟨n,h0⟩,λn e w' X' _ hj=>h n (e c1) (e c2) w' X' hj⟩
def Bc {v1 v2 v3 c1 c2 c3 F} (I:Nat->Value->Value->Value->World->XS->Prop) (n:Nat) (h0:I n v1 v2 v3 w X)
  (h: ∀n a b c w' X',I n a b c w' X'->F (J3 I) n a b c w' X'):HP X w v1 v2 v3 c1 c2 c3 F:=⟨J3 I,⟨n,h0⟩,λn e w' X' _ hj=>h n (e c1) (e c2) (e c3) w' X' hj⟩
def Xn {v1 v2 v3 v4 c1 c2 c3 c4 F} (I:Nat->Value->Value->Value->Value->World->XS->Prop) (n:Nat) (h0:I n v1 v2 v3 v4 w X)
  (h: ∀n a b c d w' X',I n a b c d w' X'->F (J4 I) n a b c d w' X'):JJ X w v1 v2 v3 v4 c1 c2 c3 c4 F:=
 ⟨J4 I,⟨n,h0⟩,λn e w' X' _ hj=>h n (e c1) (e c2) (e c3) (e c4) w' X' hj⟩
def amT {v1 v2 v3 v4 v5 c1 c2 c3 c4 c5 F} (I:Nat->Value->Value->Value->Value->Value->World->XS->Prop) (n:Nat) (h0:I n v1 v2 v3 v4 v5 w X)
  (h: ∀n a b c d f w' X',I n a b c d f w' X'->F (J5 I) n a b c d f w' X'):JK X w v1 v2 v3 v4 v5 c1 c2 c3 c4 c5 F:=
 ⟨J5 I,⟨n,h0⟩,λn e w' X' _ hj=>h n (e c1) (e c2) (e c3) (e c4) (e c5) w' X' hj⟩
def amI {v1 v2 v3 v4 v5 v6 v7 v8 c1 c2 c3 c4 c5 c6 c7 c8 F} (I:Nat->Value->Value->Value->Value->Value->Value->Value->Value->World->XS->Prop) (n:Nat) (h0:I n v1 v2 v3 v4 v5 v6 v7 v8 w X)
  (h: ∀n a b c d f g h' i' w' X',I n a b c d f g h' i' w' X'->F (J8 I) n a b c d f g h' i' w' X'):JL X w v1 v2 v3 v4 v5 v6 v7 v8 c1 c2 c3 c4 c5 c6 c7 c8 F:=
 ⟨J8 I,⟨n,h0⟩,λn e w' X' _ hj=>h n (e c1) (e c2) (e c3) (e c4) (e c5) (e c6) (e c7) (e c8) w' X' hj⟩
def ey {I n a} (k:Nat) (hk:k<n) (h:I k a w X):Gi (J1 I) n a w X:=⟨k,hk,h⟩
def fG {I n a b} (k:Nat) (hk:k<n) (h:I k a b w X):Gj (J2 I) n a b w X:=⟨k,hk,h⟩
def xV {I n a b c} (k:Nat) (hk:k<n) (h:I k a b c w X):JM (J3 I) n a b c w X:=⟨k,hk,h⟩
def E3 {I n a b c d} (k:Nat) (hk:k<n) (h:I k a b c d w X):JN (J4 I) n a b c d w X:=⟨k,hk,h⟩
def amU {I n a b c d f} (k:Nat) (hk:k<n) (h:I k a b c d f w X):JO (J5 I) n a b c d f w X:=⟨k,hk,h⟩
def amO {I n a b c d f g h' i'} (k:Nat) (hk:k<n) (h:I k a b c d f g h' i' w X):JP (J8 I) n a b c d f g h' i' w X:=⟨k,hk,h⟩
def cK {α:Type} {r:α} {F:α->Prop} (h:F r):jn r F:=h
def ib {α:Type} {r:α} {F:α->Prop} (Q:α->Prop) (h:Q r) (k: ∀c,Q c->F c):jn r F:=k r h
variable {M : Value -> Prop}
def adV {e:Value} (e':Value) (h:e=e') (k:M e'):un e M:=h▸k
variable {a : Value} {i : Nat} {l : List Value}
theorem Ih (h:l[i]? =some a) (k:M a):un (cellOf (.agg l.toArray) i) M:=by
 have:cellOf (.agg l.toArray) i=a:=by simp[cellOf,ba,List.getD,h]
 unfold un;grind
variable {o : Nat}
theorem agh (k:M (.agg ((l.drop o).take n).toArray)):un (yz (.agg l.toArray) o n) M:=by
 have:yz (.agg l.toArray) o n= .agg ((l.drop o).take n).toArray:=by simp[yz,ba]
 assumption
def Ym {c:Array Value} (k:M (.agg c)):un (.agg (ba (.agg c))) M:=k
def aci (k:M v):un (zf (.bool true) true v) M:=k
def akT (k:M v):un (zf (.bool false) false v) M:=k
def aiE (k:M undef):un (zf (.bool true) false v) M:=k
def Y8 (k:M undef):un (zf (.bool false) true v) M:=k
theorem akU {q:Bool} (k:M undef):un (zf undef q v) M:=by
 have:zf undef q v=undef:=by rfl
 assumption
variable {A : Prop}
theorem I0 {b:Bool} (h:b=true) (k:A):jh b A:=by subst h;exact k
variable {C : Prop}
def ab3 (h:A):nB (.bool true) A C:=⟨λ_=>h,λh=>absurd h sQ⟩
def SJ (h:C):nB (.bool false) A C:=⟨λh=>absurd h sQ,λ_=>h⟩
theorem amV {s:Sem Next} {want:Bool} (h:N undef):nV P X w undef want s N:=by
 have e:oV undef want=false:=by rfl
 grind [nV]
variable {s : Sem Value}
def Y9 (h:aY P X w s N):nV P X w (.bool true) true (vS s) N:=MY h
def aiF (h:aY P X w s N):nV P X w (.bool false) false (vS s) N:=MY h
variable {xo yo : Operand}
section
variable {k : IntKind} {a b : Int}
def aep (hT:a<b->N (.bool true)) (hF: ¬a<b->N (.bool false)):aY P X w (binOp .lss t (.int k a) (.int k b)) N:=
 abL gQ
def ajT (hT:a<=b->N (.bool true)) (hF: ¬a<=b->N (.bool false)):aY P X w (binOp .leq t (.int k a) (.int k b)) N:=
 aj7 gQ
def aeq (hT:a>b->N (.bool true)) (hF: ¬a>b->N (.bool false)):aY P X w (binOp .gtr t (.int k a) (.int k b)) N:=
 aj8 gQ
def aer (hT:a>=b->N (.bool true)) (hF: ¬a>=b->N (.bool false)):aY P X w (binOp .geq t (.int k a) (.int k b)) N:=
 aj9 gQ
def aes (hT:a=b->N (.bool true)) (hF: ¬a=b->N (.bool false)):aY P X w (dF .eql t xo yo (.int k a) (.int k b)) N:=
 abN gQ
def aet (hT: ¬a=b->N (.bool true)) (hF:a=b->N (.bool false)):aY P X w (dF .neq t xo yo (.int k a) (.int k b)) N:=
 aka gQ
def amW (h:a<b) (k':N (.bool true)):aY P X w (binOp .lss t (.int k a) (.int k b)) N:=aep (λ_=>k') (λhn=>absurd h hn)
def amX (h: ¬a<b) (k':N (.bool false)):aY P X w (binOp .lss t (.int k a) (.int k b)) N:=aep (λhn=>absurd hn h) (λ_=>k')
def amY (h: ¬a<=b) (k':N (.bool false)):aY P X w (binOp .leq t (.int k a) (.int k b)) N:=ajT (λhn=>absurd hn h) (λ_=>k')
def amZ (h:a>b) (k':N (.bool true)):aY P X w (binOp .gtr t (.int k a) (.int k b)) N:=aeq (λ_=>k') (λhn=>absurd h hn)
def am0 (h: ¬a>b) (k':N (.bool false)):aY P X w (binOp .gtr t (.int k a) (.int k b)) N:=aeq (λhn=>absurd hn h) (λ_=>k')
def am1 (h:a>=b) (k':N (.bool true)):aY P X w (binOp .geq t (.int k a) (.int k b)) N:=aer (λ_=>k') (λhn=>absurd h hn)
def am2 (h: ¬a>=b) (k':N (.bool false)):aY P X w (binOp .geq t (.int k a) (.int k b)) N:=aer (λhn=>absurd hn h) (λ_=>k')
def am3 (h:a=b) (k':N (.bool true)):aY P X w (dF .eql t xo yo (.int k a) (.int k b)) N:=aes (λ_=>k') (λhn=>absurd h hn)
def am4 (h: ¬a=b) (k':N (.bool false)):aY P X w (dF .eql t xo yo (.int k a) (.int k b)) N:=aes (λhn=>absurd hn h) (λ_=>k')
def am5 (h: ¬a=b) (k':N (.bool true)):aY P X w (dF .neq t xo yo (.int k a) (.int k b)) N:=aet (λ_=>k') (λhn=>absurd hn h)
def am6 (h:a=b) (k':N (.bool false)):aY P X w (dF .neq t xo yo (.int k a) (.int k b)) N:=aet (λhn=>absurd h hn) (λ_=>k')
theorem ajU (h1: -(2^63)<=a+b) (h2:a+b<2^63) (h:N (.int .i64 (a+b))):aY P X w (binOp .add t (.int .i64 a) (.int .i64 b)) N:=
 oG (by rw[wrap_i64 h1 h2];exact h)
theorem aoL (h1: -(2^63)<=a-b) (h2:a-b<2^63) (h:N (.int .i64 (a-b))):aY P X w (binOp .sub t (.int .i64 a) (.int .i64 b)) N:=
 abM (by rw[wrap_i64 h1 h2];exact h)
theorem aou (h1: -(2^63)<=a*b) (h2:a*b<2^63) (h:N (.int .i64 (a*b))):aY P X w (binOp .mul t (.int .i64 a) (.int .i64 b)) N:=
 Sg (by rw[wrap_i64 h1 h2];exact h)
end
theorem I3 {a b:ByteArray} :a.toList=b.toList↔a=b:=by
 constructor
 ·intro h;rw[oZ,oZ] at h;obtain⟨⟨x⟩⟩:=a;simp_all
 grind
def zK (a b:ByteArray):Bool:=cB a.toList b.toList
section
variable {a b : ByteArray}
theorem am7 (hT:a=b->N (.bool true)) (hF: ¬a=b->N (.bool false)):aY P X w (dF .eql t xo yo (.string a) (.string b)) N:=
 aha (by grind [I3])
theorem am8 (hT: ¬a=b->N (.bool true)) (hF:a=b->N (.bool false)):aY P X w (dF .neq t xo yo (.string a) (.string b)) N:=
 ahb (by simp only[ne_eq,I3];by_cases h:a=b;(· grind);(grind))
theorem am9 (hT:zK a b=true->N (.bool true)) (hF:zK a b=false->N (.bool false)):aY P X w (binOp .lss t (.string a) (.string b)) N:=
 ahc (by unfold zK at hT hF;cases h:cB a.toList b.toList;(· exact hF h);(grind))
theorem ana (hT:zK a b=false->N (.bool true)) (hF:zK a b=true->N (.bool false)):aY P X w (binOp .geq t (.string a) (.string b)) N:=
 ahd (by unfold zK at hT hF;cases h:cB a.toList b.toList;(· exact hT h);(grind))
theorem anb (hT:zK a b=true\/a=b->N (.bool true)) (hF:zK a b=false-> ¬a=b->N (.bool false)):aY P X w (binOp .leq t (.string a) (.string b)) N:=
 ahe (by
  unfold zK at hT hF;simp only[I3];cases h:cB a.toList b.toList
  ·by_cases h2:a=b
   ·grind
   grind
  grind)
theorem anc (hT:zK a b=false-> ¬a=b->N (.bool true)) (hF:zK a b=true\/a=b->N (.bool false)):aY P X w (binOp .gtr t (.string a) (.string b)) N:=
 ahf (by
  unfold zK at hT hF;simp only[I3];cases h:cB a.toList b.toList
  ·by_cases h2:a=b
   ·grind
   grind
  grind)
end
def qT (a b:Nat):Bool:=FloatKind.f64.format.order a b==some .lt
def pY (a b:Nat):Bool:=FloatKind.f64.format.order a b==some .eq
def J6 (a b:Nat):Bool:=FloatKind.f64.format.order a b==some .gt
section
variable {a : Nat}
theorem ane (hT:qT a b=true->N (.bool true)) (hF:qT a b=false->N (.bool false)):aY P X w (binOp .lss t (.float .f64 a) (.float .f64 b)) N:=
 ahg (by grind [qT])
theorem anf (hT:J6 a b=true->N (.bool true)) (hF:J6 a b=false->N (.bool false)):aY P X w (binOp .gtr t (.float .f64 a) (.float .f64 b)) N:=
 ahi (by grind [J6])
theorem ang (hT:qT a b=true\/pY a b=true->N (.bool true)) (hF:qT a b=false->pY a b=false->N (.bool false)):aY P X w (binOp .leq t (.float .f64 a) (.float .f64 b)) N:=
 ahh (by grind [qT,pY])
theorem anh (hT:J6 a b=true\/pY a b=true->N (.bool true)) (hF:J6 a b=false->pY a b=false->N (.bool false)):aY P X w (binOp .geq t (.float .f64 a) (.float .f64 b)) N:=
 ahj (by grind [J6,pY])
theorem ani (hT:pY a b=true->N (.bool true)) (hF:pY a b=false->N (.bool false)):aY P X w (dF .eql t xo yo (.float .f64 a) (.float .f64 b)) N:=
 ahk (by grind [pY])
theorem anj (hT:pY a b=false->N (.bool true)) (hF:pY a b=true->N (.bool false)):aY P X w (dF .neq t xo yo (.float .f64 a) (.float .f64 b)) N:=
 ahl (by grind [pY])
end
def Yl (h:N (.bool false)):aY P X w (Op.unary .not (.bool true)) N:=abO h
def afJ (h:N (.bool true)):aY P X w (Op.unary .not (.bool false)) N:=abO h
section
variable {a b c a' b' c' : Int}
def YS (h:j6 P t 3=true) (hT:a=a'->b=b'->c=c'->N (.bool true)) (hF: ¬(a=a'/\b=b'/\c=c')->N (.bool false)):
  aY P X w (dF .eql t xo yo (.agg #[.int .i64 a,.int .i64 b,.int .i64 c]) (.agg #[.int .i64 a',.int .i64 b',.int .i64 c'])) N:=
 aiy h gQ
def ank (h:j6 P t 3=true) (hT: ¬(a=a'/\b=b'/\c=c')->N (.bool true)) (hF:a=a'->b=b'->c=c'->N (.bool false)):
  aY P X w (dF .neq t xo yo (.agg #[.int .i64 a,.int .i64 b,.int .i64 c]) (.agg #[.int .i64 a',.int .i64 b',.int .i64 c'])) N:=
 aiz h gQ
end
theorem aoM (h:Cells w X b o l) (hi:lv P t=some (false,1)) (hl:l[0]? =some v) (k:N v):
  aY P X w (ld1 t (ptr b o)) N:=by
 cases l with
 |nil=>cases hl
 |cons x r=>
  simp only[j5,aj] at hl;subst hl;exact af9 h hi k
variable {k : Nat} {ty : TypeId}
def amJ {α:Type} {enc:α->List Value} {xs:List α} (h:Sl w X k v (xs.map enc))
  (ht:P.underlying t=some (.slice (P.elem t))) (n:N (.int .i64 xs.length)):aY P X w (mP t ty v) N:=aiv h ht n
def aoN {s:ByteArray} (ht:P.underlying t=some .string) (k:N (.int .i64 s.size)):aY P X w (pN t ty (.string s)) N:=aiu ht k
variable {parts : Array (Nat × Value)}
def aeu {cells:Array Value} (h:P.built t parts.toList=some cells) (k:N (.agg cells)):
  aY P X w (sR t cells parts) N:=agb cells h k
def I4 {a:Addr} (h:N (.pointer (some a))):nU P X w (bC (.pointer (some a))) N:=akb h
def ajI {vs:Array Value} (hi:vs[i]? =some v) (h:N v):aY P X w (gB (.tuple vs) i) N:=NY hi h
variable {args : Array Value} {f : FuncId}
theorem Nj {b:Bool} {N:Value->World->XS->Prop}
  (h:Pure P f args (.bool b)) (hf:enters P f=true) (hX: ∀k,X k->k<w.heap.size)
  (hT:b=true-> ∀w' X',ai X w X' w'->N (.bool true) w' X') (hF:b=false-> ∀w' X',ai X w X' w'->N (.bool false) w' X'):
  eC P R X w m f args N:=acj hf hX h (by
  cases b
  ·exact hF rfl
  grind)
def sk {N:Value->World->XS->Prop}
  (h:Pure P f args v) (hf:enters P f=true) (hX: ∀k,X k->k<w.heap.size)
  (k: ∀w' X',ai X w X' w'->N v w' X'):eC P R X w m f args N:=acj hf hX h k
structure dY (F X:XS) (w:World) (X':XS) (w':World):Prop where
 os:w'.os=w.os
 tape:w'.tape=w.tape
 output:w'.output=w.output
 size:w.heap.size<=w'.heap.size
 block: ∀k,X k-> ¬F k->w'.heap[k]? =w.heap[k]?
 sub: ∀k,X k->X' k
 has: ∀k,X' k->k<w'.heap.size
variable {F X' : XS}
def dY.since (c:dY F X w X' w') (hY: ∀k,Y k->X k/\ ¬F k):ai Y w X' w':=
 ⟨⟨c.os,c.tape,c.output,c.size,λk hk=>c.block k (hY k hk).1 (hY k hk).2⟩,λk hk=>c.sub k (hY k hk).1,c.has⟩
variable {w0 : World} {X0 : XS}
def ai.dT (h:ai X0 w0 X w) (c:dY F X w X' w') (hd: ∀k,X0 k-> ¬F k):ai X0 w0 X' w':=
 ⟨⟨c.os.trans h.kp.os,c.tape.trans h.kp.tape,c.output.trans h.kp.output,ad h.kp.size c.size,
  λk hk=>(c.block k (h.sub k hk) (hd k hk)).trans (h.kp.block k hk)⟩,λk hk=>c.sub k (h.sub k hk),c.has⟩
def dY.aev (hX: ∀k,X k->k<w.heap.size) (hk:Kp X w wa) (hf:Fr F wa w'):dY F X w (grow X wa w') w':=
 ⟨hf.os.trans hk.os,hf.tape.trans hk.tape,hf.output.trans hk.output,ad hk.size hf.size,
  λk hx hn=>(hf.block k (aw (hX k hx) hk.size) hn).trans (hk.block k hx),λ_ h=>.inl h,
  λk h=>h.elim (λh=>aw (hX k h) (ad hk.size hf.size)) (λh=>h.2)⟩
def dY.oh (h:ai X w X' w') (F:XS):dY F X w X' w':=
 ⟨h.kp.os,h.kp.tape,h.kp.output,h.kp.size,λk hk _=>h.kp.block k hk,h.sub,h.has⟩
def Grown.dT {row:Option Nat} (g:Grown X w X' w' row):dY (λk=>some k=row) X w X' w':=
 ⟨g.os,g.tape,g.output,g.size,λk hk hn=>g.block k hk hn,g.sub,g.has⟩
variable {mJ : World}
theorem dY.trans {wZ:XS} (a:dY F X w X' w') (b:dY F X' w' wZ mJ):dY F X w wZ mJ:=
 ⟨b.os.trans a.os,b.tape.trans a.tape,b.output.trans a.output,ad a.size b.size,
  λk hk hn=>(b.block k (a.sub k hk) hn).trans (a.block k hk hn),λk hk=>b.sub k (a.sub k hk),b.has⟩
def dY.mono {G:XS} (a:dY F X w X' w') (h: ∀k,X k->F k->G k):dY G X w X' w':=
 ⟨a.os,a.tape,a.output,a.size,λk hk hn=>a.block k hk λhf=>hn (h k hk hf),a.sub,a.has⟩
def made (w w':World):XS:=λg=>w.heap.size<=g/\g<w'.heap.size
def out (F:XS) (w:World):XS:=λk=>k<w.heap.size/\ ¬F k
def vy (F:XS) (w0:World) (Q:Value->World->Prop):Ending->World->Prop:=λe w'=> ∃v,e= .returned v/\Fr F w0 w'/\Q v w'
def Ct (P:Program) (f:FuncId) (args:Array Value) (w:World) (X F:XS) (Q:Value->World->World->Prop):Prop:=
 ∀wa,Kp X w wa->Calls P f args wa (vy F wa λv w'=>Q v wa w')
variable {Q : Value -> World -> World -> Prop}
def Ct.mono {Q':Value->World->World->Prop} (h:Ct P f args w X F Q) (k: ∀v wa w',Kp X w wa->Q v wa w'->Q' v wa w'):Ct P f args w X F Q':=
 λwa hk=>(h wa hk).mono λ_ _ ⟨v,he,hf,hq⟩=>⟨v,he,hf,k v wa _ hk hq⟩
def cM {N:Value->World->XS->Prop}
  (h:Ct P f args w X nX Q) (hf:enters P f=true) (hX: ∀k,X k->k<w.heap.size)
  (k: ∀v wa w' X',Q v wa w'->w.heap.size<=wa.heap.size->(∀k,made wa w' k->X' k)->ai X w X' w'->N v w' X'):eC P R X w m f args N:=
 Ze (Q:=Q) hf hX h λv wa w' X' hk _ hn hq hs=>k v wa w' X' hq hk.size (λg hg=>hn g hg.1 hg.2) hs
theorem xQ {N:Value->World->XS->Prop}
  (h:Ct P f args w X F Q) (hf:enters P f=true) (hX: ∀k,X k->k<w.heap.size) (hF: ∀k,F k->X k)
  (k: ∀v wa w' X',Q v wa w'->w.heap.size<=wa.heap.size->(∀k,made wa w' k->X' k)->Kp X w wa->dY F X w X' w'->N v w' X'):eC P R X w true f args N:=by
 intro wa hk;unfold jV;rw[pG hf args wa];refine⟨rfl,(h wa hk).mono ?_⟩;rintro e w' ⟨v,rfl,wD,hq⟩;exact⟨wD.mono hF,k v wa w' _ hq hk.size (λg hg=>.inr hg) hk (dY.aev hX hk wD)⟩
def cH {Q:Value->World->Prop} (hs:ai (bP w0) w0 X w) (h: ∀wa,Kp X w wa->Q v wa):fin (vy nX w0 Q) X w v:=
 λ_ hk=>⟨v,rfl,hs.ext hk,h _ hk⟩
def acm {Q:Value->World->Prop} (hs:ai (out F w0) w0 X w) (h: ∀wa,Kp X w wa->Q v wa):fin (vy F w0 Q) X w v:=
 λ_ hk=>⟨v,rfl,⟨hk.os.trans hs.kp.os,hk.tape.trans hs.kp.tape,hk.output.trans hs.kp.output,ad hs.kp.size hk.size,
  λk hl hn=>(hk.block k (hs.sub k ⟨hl,hn⟩)).trans (hs.kp.block k ⟨hl,hn⟩)⟩,h _ hk⟩
def ai.out (F:XS) (w:World):ai (out F w) w (bP w) w:=⟨Kp.refl _ _,λ_ h=>h.1,λ_ h=>h⟩
variable {rows : List (List Value)} {e lo : Nat}
def Own.up (h:Own w' (made wa w') wa.heap.size e k v rows) (gC: ∀k,made wa w' k->X' k) (hl:lo<=wa.heap.size):
  Own w' X' lo e k v rows:=(h.mono gC).low hl
theorem Own.dT (h:Own w X lo e k v rows) (c:dY F X w X' w') (hd: ∀g,v.ownBlock=some g-> ¬F g):Own w' X' lo e k v rows:=by
 obtain⟨h1,h2,h3⟩:=h;refine⟨h1,⟨h2.1,?_⟩,λg hg=>c.sub g (h3 g hg)⟩;rcases h2.2 with h|⟨g,cap,cur,rfl,hb,hg,hr⟩
 ·exact .inl h
 ·exact .inr ⟨g,cap,cur,rfl,hb,by rw[c.block g (h3 g rfl) (hd g rfl)];exact hg,hr⟩
theorem Sl.sub (h:Sl w X k v rows) (hs: ∀k,X k->k<w.heap.size->Y k):Sl w Y k v rows:=by
 obtain⟨h1,h2,base,cap,hv,hc,hr⟩:=h;exact⟨h1,h2,base,cap,hv,λcu=>let⟨b,o,hb,jS⟩:=hc cu;⟨b,o,hb,hs _ jS.1 jS.lt,jS.2⟩,hr⟩
def Sl.len (h:Sl w X k v rows):rows.length<=2^63-1:=h.2.1
theorem Sl.gV {α:Type} {enc:α->List Value} {xs:List α} (h:Sl w X k v (xs.map enc)):xs.length<=2^63-1:=by have:=h.2.1;grind
theorem Cells.sub (h:Cells w X b o l) (hs: ∀k,X k->k<w.heap.size->Y k):Cells w Y b o l:=⟨hs _ h.1 h.lt,h.2⟩
def Cells.bP (h:Cells w X b o l):Cells w (bP w) b o l:=⟨h.lt,h.2⟩
abbrev SP:=Program->(Ending->World->Prop)->XS->World->Prop
def cr (s:Sem Value) (N:Value->SP):SP:=λP R X w=>aY P X w s λv=>N v P R X w
def sV (s:Sem Next) (N:Value->SP):SP:=λP R X w=>nU P X w s λv=>N v P R X w
def rM (g:Value) (want:Bool) (s:Sem Next) (N:Value->SP):SP:=λP R X w=>nV P X w g want s λv=>N v P R X w
def GK (e:Value) (M:Value->SP):SP:=λP R X w=>un e λv=>M v P R X w
def xx (m:Bool) (s:Sem Value) (N:Value->SP):SP:=λP R X w=>eV P R X w m s λv w X=>N v P R X w
def ZcU (m:Bool) (s:Sem Unit) (N:Value->SP):SP:=λP R X w=>eU P R X w m s λv w X=>N v P R X w
def xy (f:FuncId) (args:Array Value) (N:Value->SP):SP:=λP R X w=>eC P R X w true f args λv w X=>N v P R X w
def lF (f:FuncId) (args:Array Value) (N:Value->SP):SP:=λP R X w=>eC P R X w false f args λv w X=>N v P R X w
def Dr (m:Bool) (f:Value) (args:Array Value) (N:Value->SP):SP:=λP R X w=>eF P R X w m f args λv w X=>N v P R X w
def ZcE (g:Value) (want:Bool) (A B:SP):SP:=λP R X w=>gE g want (A P R X w) (B P R X w)
def aO (v:Value):SP:=λ_ R X w=>fin R X w v
def mS (b:Bool) (A:SP):SP:=λP R X w=>jh b (A P R X w)
def iw (c:Value) (A B:SP):SP:=λP R X w=>nB c (A P R X w) (B P R X w)
def lp (A B:SP):SP:=λP R X w=>And (A P R X w) (B P R X w)
def ZcR (R':Ending->World->Prop) (A:SP):SP:=λP _ X w=>A P R' X w
def OH (a:Value) (n:Nat) (N:Value->SP):SP:=λP R X w=>aY P X w (gB a n) λv=>N v P R X w
def kj (t:TypeId) (x:Value) (N:Value->SP):SP:=λP R X w=>aY P X w (ld1 t x) λv=>N v P R X w
def j7 (op:BinOp) (t:TypeId) (x y:Value) (N:Value->SP):SP:=λP R X w=>aY P X w (binOp op t x y) λv=>N v P R X w
def UQ (op:BinOp) (t:TypeId) (n:Nat) (x c:Value) (N:Value->SP):SP:=λP R X w=>aY P X w (dF op t (.tmp n) (.const c) x c) λv=>N v P R X w
def BH (op:BinOp) (t:TypeId) (n m:Nat) (x y:Value) (N:Value->SP):SP:=λP R X w=>aY P X w (dF op t (.tmp n) (.tmp m) x y) λv=>N v P R X w
def sW (S f o z:Nat) (x:Value) (N:Value->SP):SP:=λP R X w=>aY P X w (ji S f o z x) λv=>N v P R X w
def Zck (t ty:TypeId) (v:Value) (N:Value->SP):SP:=λP R X w=>aY P X w (mP t ty v) λv=>N v P R X w
def uO (t:TypeId) (k:Nat) (v i:Value) (N:Value->SP):SP:=λP R X w=>aY P X w (nW t k v i) λv=>N v P R X w
def oL (op:BinOp) (t:TypeId) (x y:Value) (A B:SP):SP:=λP R X w=>aY P X w (binOp op t x y) λv=>nB v (A P R X w) (B P R X w)
def Zic (op:BinOp) (t:TypeId) (n:Nat) (x c:Value) (A B:SP):SP:=λP R X w=>aY P X w (dF op t (.tmp n) (.const c) x c) λv=>nB v (A P R X w) (B P R X w)
def BI (op:BinOp) (t:TypeId) (n m:Nat) (x y:Value) (A B:SP):SP:=λP R X w=>aY P X w (dF op t (.tmp n) (.tmp m) x y) λv=>nB v (A P R X w) (B P R X w)
def yk (S f o z:Nat) (x:Value) (t:TypeId) (N:Value->SP):SP:=λP R X w=>aY P X w (ji S f o z x) λa=>aY P X w (ld1 t a) λv=>N v P R X w
def Zcn (S f o z:Nat) (x:Value) (t:TypeId) (N:Value->SP):SP:=λP R X w=>nU P X w (bC x) λy=>aY P X w (ji S f o z y) λa=>aY P X w (ld1 t a) λv=>N v P R X w
def Zcs (S f o z:Nat) (x:Value) (t:TypeId) (n:Nat) (v:Value) (A:SP):SP:=λP R X w=>aY P X w (ji S f o z x) λa=>eU P R X w true (st1 t n a v) λ_ w X=>A P R X w
def jC (S f o z:Nat) (x:Value) (t:TypeId) (n:Nat) (v:Value) (A:SP):SP:=λP R X w=>nU P X w (bC x) λy=>aY P X w (ji S f o z y) λa=>eU P R X w true (st1 t n a v) λ_ w X=>A P R X w
def zm (t:TypeId) (k:Nat) (v i:Value) (S f o z:Nat) (t':TypeId) (N:Value->SP):SP:=λP R X w=>aY P X w (nW t k v i) λx=>aY P X w (ji S f o z x) λa=>aY P X w (ld1 t' a) λv=>N v P R X w
def jD (t:TypeId) (k:Nat) (v i:Value) (t':TypeId) (N:Value->SP):SP:=λP R X w=>aY P X w (nW t k v i) λx=>aY P X w (ld1 t' x) λv=>N v P R X w
def lO (a:Value) (N:Value->Value->SP):SP:=λP R X w=>aY P X w (gB a 0) λx=>aY P X w (gB a 1) λy=>N x y P R X w
def Ds (g v:Value) (s:Value->Sem Value) (N:Value->SP):SP:=λP R X w=>un (zf g true v) λu=>nV P X w g true (vS (s u)) λy=>nU P X w (jl g y (.bool false)) λv=>N v P R X w
def uP (g v:Value) (op:BinOp) (t:TypeId) (n:Nat) (c:Value) (N:Value->SP):SP:=λP R X w=>un (zf g true v) λu=>nV P X w g true (vS (dF op t (.tmp n) (.const c) u c)) λy=>nU P X w (jl g y (.bool false)) λv=>N v P R X w
def pZ (g v:Value) (op:BinOp) (t:TypeId) (z:Value) (N:Value->SP):SP:=λP R X w=>un (zf g true v) λu=>nV P X w g true (vS (binOp op t u z)) λy=>nU P X w (jl g y (.bool false)) λv=>N v P R X w
def Rr (g v:Value) (s:Value->Sem Value) (N:Value->SP):SP:=λP R X w=>un (zf g false v) λu=>nV P X w g false (vS (s u)) λy=>nU P X w (jl g (.bool true) y) λv=>N v P R X w
def Hp (g v:Value) (op:BinOp) (t:TypeId) (n:Nat) (c:Value) (N:Value->SP):SP:=λP R X w=>un (zf g false v) λu=>nV P X w g false (vS (dF op t (.tmp n) (.const c) u c)) λy=>nU P X w (jl g (.bool true) y) λv=>N v P R X w
def Hq (g v:Value) (op:BinOp) (t:TypeId) (z:Value) (N:Value->SP):SP:=λP R X w=>un (zf g false v) λu=>nV P X w g false (vS (binOp op t u z)) λy=>nU P X w (jl g (.bool true) y) λv=>N v P R X w
def fS (y:Value) (n:Nat) (N:Value->SP):SP:=λP R X w=>un (ep (ba y)) λu=>jh (bB (dm (ba y))==n) (jh (aV (dm (ba y)) one) (N u P R X w))
def Cw (t:TypeId) (n:Nat) (x:Value) (N:Value->SP):SP:=λP R X w=>aY P X w (jt t n x) λy=>un (ep (ba y)) λu=>jh (bB (dm (ba y))==n) (jh (aV (dm (ba y)) one) (N u P R X w))
def lP (x:Value) (A B:SP):SP:=λP R X w=>aY P X w (Op.unary UnOp.not x) λv=>nB v (A P R X w) (B P R X w)
def wS (g:Value) (want:Bool) (f:FuncId) (args:Array Value) (k:Value->SP):SP:=λP R X w=>gE g want (eC P R X w true f args λv w X=>k v P R X w) (k undef P R X w)
def uQ (l:Array Value):SP:=λ_ R X w=>fin R X w (.tuple l)
def lQ (r:SP) (B:(SP)->SP):SP:=λP R X w=>jn (α:=World->XS->Prop) (λw X=>r P R X w) λc=>B (λ_ _ X w=>c w X) P R X w
def kA (r:Value->SP) (B:(Value->SP)->SP):SP:=λP R X w=>jn (α:=Value->World->XS->Prop) (λv0 w X=>r v0 P R X w) λc=>B (λv0 _ _ X w=>c v0 w X) P R X w
def uo (r:Value->SP) (B:(Value->SP)->SP):SP:=λP R X w=>jn (α:=Value->Prop) (λv0=>r v0 P R X w) λc=>B (λv0 _ _ _ _=>c v0) P R X w
def PF (r:Value->Value->SP) (B:(Value->Value->SP)->SP):SP:=λP R X w=>jn (α:=Value->Value->World->XS->Prop) (λv0 v1 w X=>r v0 v1 P R X w) λc=>B (λv0 v1 _ _ X w=>c v0 v1 w X) P R X w
def Wp (r:Value->Value->SP) (B:(Value->Value->SP)->SP):SP:=λP R X w=>jn (α:=Value->Value->Prop) (λv0 v1=>r v0 v1 P R X w) λc=>B (λv0 v1 _ _ _ _=>c v0 v1) P R X w
def aew (r:Value->Value->Value->SP) (B:(Value->Value->Value->SP)->SP):SP:=λP R X w=>jn (α:=Value->Value->Value->World->XS->Prop) (λv0 v1 v2 w X=>r v0 v1 v2 P R X w) λc=>B (λv0 v1 v2 _ _ X w=>c v0 v1 v2 w X) P R X w
def Ah (v0:Value) (c0:Nat) (F:(Value->SP)->Value->SP):SP:=λP R X w=>JH X w v0 c0 λJ n e0 w X=>F (λa0 _ _ X w=>Gi J n a0 w X) e0 P R X w
def su (v0 v1:Value) (c0 c1:Nat) (F:(Value->Value->SP)->Value->Value->SP):SP:=λP R X w=>JI X w v0 v1 c0 c1 λJ n e0 e1 w X=>F (λa0 a1 _ _ X w=>Gj J n a0 a1 w X) e0 e1 P R X w
def FH (v0 v1 v2:Value) (c0 c1 c2:Nat) (F:(Value->Value->Value->SP)->Value->Value->Value->SP):SP:=λP R X w=>HP X w v0 v1 v2 c0 c1 c2 λJ n e0 e1 e2 w X=>F (λa0 a1 a2 _ _ X w=>JM J n a0 a1 a2 w X) e0 e1 e2 P R X w
def Zi (v0 v1 v2 v3:Value) (c0 c1 c2 c3:Nat) (F:(Value->Value->Value->Value->SP)->Value->Value->Value->Value->SP):SP:=λP R X w=>JJ X w v0 v1 v2 v3 c0 c1 c2 c3 λJ n e0 e1 e2 e3 w X=>F (λa0 a1 a2 a3 _ _ X w=>JN J n a0 a1 a2 a3 w X) e0 e1 e2 e3 P R X w
def aiG (v0 v1 v2 v3 v4:Value) (c0 c1 c2 c3 c4:Nat) (F:(Value->Value->Value->Value->Value->SP)->Value->Value->Value->Value->Value->SP):SP:=λP R X w=>JK X w v0 v1 v2 v3 v4 c0 c1 c2 c3 c4 λJ n e0 e1 e2 e3 e4 w X=>F (λa0 a1 a2 a3 a4 _ _ X w=>JO J n a0 a1 a2 a3 a4 w X) e0 e1 e2 e3 e4 P R X w
def aiH (v0 v1 v2 v3 v4 v5 v6 v7:Value) (c0 c1 c2 c3 c4 c5 c6 c7:Nat) (F:(Value->Value->Value->Value->Value->Value->Value->Value->SP)->Value->Value->Value->Value->Value->Value->Value->Value->SP):SP:=λP R X w=>JL X w v0 v1 v2 v3 v4 v5 v6 v7 c0 c1 c2 c3 c4 c5 c6 c7 λJ n e0 e1 e2 e3 e4 e5 e6 e7 w X=>F (λa0 a1 a2 a3 a4 a5 a6 a7 _ _ X w=>JP J n a0 a1 a2 a3 a4 a5 a6 a7 w X) e0 e1 e2 e3 e4 e5 e6 e7 P R X w
def oC (l:List Value) (k:Nat) (y:Value) (n:Nat) (N:Value->SP):SP:=λP R X w=>un (ep (List.toArray (bM l k (dm (ba y))))) λu=>jh (bB (dm (ba y))==n) (jh (aV (dm (ba y)) one) (N u P R X w))
def ae:=I 0
def bE:=λa=>Value.float .f64 a
def qU:=λa b c d=>rM a b (vS c) d
def Zq3:=λa b c d=>GK (zf a b c) d
def iD:=λa b c=>GK (cellOf a b) c
def Zq5:=λa b=>Value.slice none a b
def mz:=λa b c d e (f:Value->Value->SP)=>sV a λx=>sW b c d e x (f x)
def eh:=λa b=>mS (dE a) b
def dw:=I 1
def qs:=λa b c d=>j7 .add a b c d
def bD:=B false
def l8:=λa b c d e f=>Zic .eql a b c d e f
def gW:=λa b c d e (f:Value->Sem Value) (g:Value->Value->SP)=>qU a b c λx=>qU d e (f x) (g x)
def lz:=λa b c d=>GK (yz a b c) d
def jr:=λa b c d=>sV (jl a b c) d
def bA:=λa b c=>xy a #[b] c
def gF:=λa b c d=>cr (sR a b c) d
def je:=λa b c d e=>jr a b c λx=>iw x d e
def dI:=λa b c d e f=>Zcn a b c 1 d e f
def SX:=λa b c d e=>oL .lss a b c d e
def ej:=λa b=>xx true a b
def sw:=λa b c d (e:Value->Value->SP)=>iD a b λx=>iD c d (e x)
def iT:=λa b c d e (f:Value->Value->SP)=>jr a b c λx=>Zq3 x d e (f x)
def cG:=λa b c d=>xy a #[b,c] d
def aiI:=λa=>Zq5 0 a
def bz:=aiI 0
def aiJ:=λa b c=>qs a b dw c
def jN:=λa b c d e f g (h:Value->Value->Value->SP)=>mz a b c d e λx y=>cG f g y (h x y)
def kB:=λa b c d e f (g:Value->Value->SP)=>uO a b c d λx=>Cw e f x (g x)
def dL:=B true
def dG:=λa b c=>Zck a 3 b c
def rA:=λa b c d (e:Value->SP)=>lz a b c λx=>mS d (e x)
def fb:=λa b c=>Zq3 a true b c
def dZ:=λa b c=>Zq3 a false b c
def cQ:=λa b=>aiJ 3 a b
def eZ:=λa b=>ZcU true a b
def I5:=λa b c d (e:Value->(Value->SP)->Value->SP)=>dG a b λx=>Ah c d (e x)
def pB:=λa b c d e=>l8 3 a b c d e
def fV:=λa b c d=>SX 3 a b c d
def aiK:=λa b c d e=>dI a 0 b c d e
def dH:=λa b c d=>aiK a 0 b c d
def fF:=λa b=>uQ #[a,b]
def kN:=λa b c d=>cR a b (.string c) d
def pC:=λa b (c:Value->Value->SP)=>sV a λx=>kj b x (c x)
def iG:=λa b c d e f=>Zic .neq a b c d e f
def fW:=Value.pointer none
def kh:=λa b c d e f g h i=>pB a b c d (pB e f g h i)
def fX:=uQ #[]
def lA:=λa b (c:Value->Sem Value) (d:Value->Value->SP) e=>kA (λx=>qU a b (c x) (d x)) e
def yl:=λa b c d e f=>dF a b c (.const d) e f
def vT:=aP { data:= #[] }
def gJ:=λa=>dm (ba a)
def gK:=λa b c d e=>eh a (lz b c d e)
def sx:=λa b c d e f g h i j k=>gW a b c d e (λx=>yl f g h i x j) k
def gR:=λa b c=>gF a b #[] c
def jO:=λa b c d e f g h=>ej (rY a b c d e f g) h
def js:=λa b c d e=>UQ .eql a b c d e
def sy:=λa b c (d:Value->Value->Value->SP)=>cG a b c λx=>lO x (d x)
def fK:=λa b c d=>j7 a 3 b c d
def tQ:=λa b c d e=>rA a b c d λx=>fF x e
def oR:=λa b c d (e:Value->(Value->SP)->Value->SP) f=>I5 a b c d λx y z=>fV z x (e x y z) f
def tR:=λa b c d e f g (h:Value->Value->SP)=>ej a λx=>jO b c d e f g x (h x)
def gg:=λa b c d e=>xy a #[b,c,d] e
def ik:=λa=>ay IntKind.u64 a
def sA:=λa b c d e f g h (i:Value->Value->Value->Value->SP)=>sw a b c d λx y=>sw e f g h (i x y)
def sY:=λa b c d e f (g:Value->(Value->Value->SP)->Value->Value->SP)=>dG a b λx=>su c d e f (g x)
def gx:=λa b c d e=>dI a 1 b c d e
def kO:=λa b=>GK (.agg a) b
def iH:=λa b c d=>wS a b c #[d]
def tS:=λa b (c:Value->Value->SP) (d:Value->(Value->SP)->SP)=>fb a b λx=>kA (c x) (d x)
def vU:=λa b c d e (f:Value->Sem Value) g h i (j:Value->Value->Value->SP)=>qU a b c λx=>gW d e (f x) g h i (j x)
def jW:=λa b=>bA 236 a b
theorem cz {p q:Prop} (h:q) (e:p=q:=by dsimp only [ae,bE,qU,Zq3,iD,Zq5,mz,eh,dw,qs,bD,l8,gW,lz,jr,bA,gF,je,dI,SX,ej,sw,iT,cG,aiI,bz,aiJ,jN,kB,dL,dG,rA,fb,dZ,cQ,eZ,I5,pB,fV,aiK,dH,fF,kN,pC,iG,fW,kh,fX,lA,yl,vT,gJ,gK,sx,gR,jO,js,sy,fK,tQ,oR,tR,gg,ik,sA,sY,gx,kO,iH,tS,vU,jW,oC,cr,sV,rM,GK,xx,ZcU,xy,Dr,ZcE,aO,mS,iw,lp,ZcR,OH,kj,j7,UQ,BH,sW,Zck,uO,lF,oL,Zic,BI,yk,Zcn,Zcs,jC,zm,jD,lO,uQ,Ds,uP,pZ,Rr,Hp,Hq,fS,Cw,lP,wS,lQ,kA,uo,PF,Wp,aew,Ah,su,FH,Zi,aiG,aiH];try exact rfl):p:=e.symm▸h
variable {R : Ending -> World -> Prop} {w : World} {P : Program}
theorem ar3 {fn:Func} (hf:P.funcs[f]? =some fn) (pl:gA) {V:Prop} (h:V)
  (hs:(decide (args.size<=pl.n)&&pl.boxes.all λp=>decide (args.size<=p.1))=true:=by kernel_rfl) (hv:V=OZ P (cF P pl fn) R args w:=by kernel_rfl):Calls P f args w R:=
 G6 hf hs hv h
variable {P : Program} {R : Ending -> World -> Prop} {X Y Z : XS} {w w' mJ : World} {m : Bool} {N : Value -> Prop} {α : Type}
def Mv (X:XS) (w:World) (Y:XS) (w':World):Prop:= ∀k,X k->k<w.heap.size->Y k/\w'.heap[k]? =w.heap[k]?
theorem Mv.trans (a:Mv X w Y w') (b:Mv Y w' Z mJ):Mv X w Z mJ:=λk hk hl=>by
 obtain⟨h1,h2⟩:=a k hk hl;have A8:k<w'.heap.size:=by
  have:w'.heap[k]? =some w.heap[k]:=by rw[h2];exact Array.getElem?_eq_getElem hl
  exact(Array.getElem?_eq_some_iff.1 this).1
 obtain⟨h3,h4⟩:=b k h1 A8
 grind
def ai.mv (h:ai X w Y w'):Mv X w Y w':=λk hk _=>⟨h.sub k hk,h.kp.block k hk⟩
def _root_.Go.aK.Kp.mv (h:Kp X w w'):Mv X w X w':=λk hk _=>⟨hk,h.block k hk⟩
def Mv.bP:Mv X w (bP w) w:=λ_ _ hl=>⟨hl,rfl⟩
def _root_.Go.aK.Kp.cE (h:Kp X w w'):Mv X w (bP w') w':=h.mv.trans Mv.bP
def Mv.out (h: ∀k,X k-> ¬F k):Mv X w (aK.out F w) w:=λk hk hl=>⟨⟨hl,h k hk⟩,rfl⟩
theorem Mv.sub (h: ∀k,X k->Y k):Mv X w Y w:=λk hk _=>⟨h k hk,rfl⟩
def Ext.mv (h:Ext w w'):Mv (aK.bP w) w (aK.bP w') w':=λ_ _ hl=>⟨aw hl h.size,h.block hl⟩
def dY.mv {A:XS} (c:dY F X w Y w') (h: ∀k,A k->X k/\ ¬F k):Mv A w Y w':=λk hk _=>⟨c.sub k (h k hk).1,c.block k (h k hk).1 (h k hk).2⟩
theorem Cells.mv (h:Cells w X b o l) (v:Mv X w Y w'):Cells w' Y b o l:=by
 have hl:=h.lt;obtain⟨hx,cs,t,fr,hb,hc⟩:=h;obtain⟨h1,h2⟩:=v b hx hl;exact⟨h1,cs,t,fr,by grind,hc⟩
theorem Sl.mv (h:Sl w X k v rows) (m:Mv X w Y w'):Sl w' Y k v rows:=by
 obtain⟨h1,h2,base,cap,hv,hc,hr⟩:=h;exact⟨h1,h2,base,cap,hv,λcu=>let⟨b,o,hb,jS⟩:=hc cu;⟨b,o,hb,jS.mv m⟩,hr⟩
def Sl.form (h:Sl w X k v rows): ∃b n c,v= .slice b n c:=let⟨_,_,b,c,hv,_⟩:=h;⟨b,_,c,hv⟩
variable {cs : List Value}
theorem aH.mv (h:aH w X b cs ty) (m:Mv X w Y w'):aH w' Y b cs ty:=by
 obtain⟨h1,h2⟩:=m b h.1 (Array.getElem?_eq_some_iff.1 h.2).1;exact⟨h1,by rw[h2];exact h.2⟩
theorem mH.mv {κ:Type} {kv:κ->Value} {es:List (jy κ)} (h:mH w X b kv es c) (m:Mv X w Y w'):mH w' Y b kv es c:=by
 obtain⟨h1,h2⟩:=m b h.1 (Array.getElem?_eq_some_iff.1 h.2.1).1;exact⟨h1,by rw[h2];exact h.2.1,h.2.2⟩
theorem Own.mv (h:Own w X lo e k v rows) (m:Mv X w Y w'):Own w' Y lo e k v rows:=by
 obtain⟨h1,h2,h3⟩:=h;refine⟨h1,⟨h2.1,?_⟩,λg hg=>(m g (h3 g hg) (h2.lt g hg).2).1⟩;rcases h2.2 with h|⟨g,cap,cur,rfl,hb,hg,hr⟩
 ·exact .inl h
 ·exact .inr ⟨g,cap,cur,rfl,hb,by rw[(m g (h3 g rfl) (Array.getElem?_eq_some_iff.1 hg).1).2];exact hg,hr⟩
def eY (w:World) (X:XS) (k:Nat) (v:Value) (rd:World->XS->List Value->α->Prop) (xs:List α):Prop:=
 ∃rows,Sl w X k v rows/\rows.length=xs.length/\ ∀(i:Nat) l x,rows[i]? =some l->xs[i]? =some x->rd w X l x
def GF (rd:World->XS->List Value->α->Prop):Prop:= ∀{X Y:XS} {w w':World} {l:List Value} {x:α},rd w X l x->Mv X w Y w'->rd w' Y l x
theorem eY.mv {rd:World->XS->List Value->α->Prop} {xs:List α} (h:eY w X k v rd xs) (hm:GF rd) (m:Mv X w Y w'):eY w' Y k v rd xs:=by
 obtain⟨rows,h1,h2,h3⟩:=h;exact⟨rows,h1.mv m,h2,λi l x hl hx=>hm (h3 i l x hl hx) m⟩
theorem eY.nil {rd:World->XS->List Value->α->Prop} (w:World) (X:XS) (k:Nat):eY w X k (.slice none 0 0) rd []:=⟨[],Sl.nil w X k,rfl,by simp⟩
theorem eY.one {rd:World->XS->List Value->α->Prop} {xs:List α} (h:eY w X k v rd xs):one v=true:=let⟨_,h1,_⟩:=h;h1.one
theorem eY.len {rd:World->XS->List Value->α->Prop} {xs:List α} (h:eY w X k v rd xs):xs.length<=2^63-1:=by
 obtain⟨_,h1,h2,_⟩:=h;rw[<-h2];exact h1.2.1
theorem Mv.refl (X:XS) (w:World):Mv X w X w:=λ_ hk _=>⟨hk,rfl⟩
def mv0:Mv X w X w:=Mv.refl _ _
def mv1 (h:ai X w Y w'):Mv X w Y w':=h.mv
theorem nq1:l.toArray.toList=l:=rfl
theorem nq2:(a::l).take (i+1)=a::l.take i:=rfl
theorem nq3:(a::l).drop (i+1)=l.drop i:=rfl
theorem nq4:l.take 0=[]:=rfl
theorem nq5:l.drop 0=l:=rfl
theorem nq6:([]:List Value).take i=[]:=List.take_nil
theorem nq7:(a::l).length=l.length+1:=rfl
theorem nq8:([]:List Value).length=0:=rfl
theorem nq9 {m:List Value} :a::l++m=a::(l++m):=rfl
theorem nq0:[]++l=l:=rfl
def mv2 (h:ai X w Y w') (h':ai Y w' Z mJ):Mv X w Z mJ:=(h.trans h').mv
variable {fo : Nat}
theorem Cells.Wq (h:Cells w X b o l) (hl:l[fo]? =some v):Cells w X b (o+fo) [v]:=by
 have hp:=h.part fo 1;have:(l.drop fo).take 1=[v]:=by
  obtain⟨cI,rfl⟩:=List.getElem?_eq_some_iff.1 hl;rw[lu cI,List.take_succ_cons,List.take_zero]
 grind
variable {l' : List Value} {S : Nat} {z : Int}
def aoO {f sz:Nat} (h:Cells w0 X0 b o l) (hf:fieldInfo P S f=some (fo,sz)) (hz:(sz !=0)=true) (hl:(l.drop fo).take sz=l')
  (k: ∀o',o'=o+fo->Cells w0 X0 b o' l'->N (ptr b o')):aY P X w (ji S f fo sz (ptr b o)) N:=
 Hm hf gQ (k _ rfl (hl▸h.part fo sz))
def Rs {f:Nat} (h:Cells w0 X0 b o l) (hf:fieldInfo P S f=some (fo,1)) (hl:l[fo]? =some v)
  (k: ∀o',o'=o+fo->Cells w0 X0 b o' [v]->N (ptr b o')):aY P X w (ji S f fo 1 (ptr b o)) N:=
 Hm hf zQ (k _ rfl (h.Wq hl))
def aex (h:Cells w0 X0 b o l) (m:Mv X0 w0 X w) (hi:lv P t=some (false,1)) (hl:l[0]? =some v) (k:N v):
  aY P X w (ld1 t (ptr b o)) N:=aoM (h.mv m) hi hl k
def ac9 (h:Cells w0 X0 b o l) (m:Mv X0 w0 X w) (hi:lv P t=some (true,n)) (hn:l.length=n) (k:N (.agg l.toArray)):
  aY P X w (jt t n (ptr b o)) N:=aga (h.mv m) hi hn k
theorem aoP {enc:α->List Value} {xs:List α} (h:Sl w0 X0 k v (xs.map enc))
  (ht:P.underlying t=some (.slice (P.elem t))) (n:N (.int .i64 xs.length)):aY P X w (mP t ty v) N:=by
 obtain⟨_,_,base,cap,rfl,_⟩:=h;exact bK (λwa=>run_len_slice wa t ty base _ cap ht) (by rw[List.length_map];exact n)
theorem aoQ {rd:World->XS->List Value->α->Prop} {xs:List α} (h:eY w0 X0 k v rd xs)
  (ht:P.underlying t=some (.slice (P.elem t))) (n:N (.int .i64 xs.length)):aY P X w (mP t ty v) N:=by
 obtain⟨rows,⟨_,_,base,cap,rfl,_⟩,h2,_⟩:=h;exact bK (λwa=>run_len_slice wa t ty base _ cap ht) (by rw[h2];exact n)
theorem Rt {r:List Value} (h:Sl w0 X0 k v rows) (hr:rows[i]? =some r) (hz:z=i)
  (ht:P.underlying t=some (.slice (P.elem t))) (hs:(P.info? (P.elem t)).map (·.size)=some k)
  (n: ∀b o,Cells w0 X0 b o r->N (ptr b o)):aY P X w (zl t v (.int .i64 z)) N:=by
 obtain⟨h1,_,base,cap,rfl,hc,_⟩:=h;have hi:i<rows.length:=(List.getElem?_eq_some_iff.1 hr).1;obtain⟨b,o,rfl,jS⟩:=hc gQ;have hp:=jS.part (i*k) k;rw[Mf h1 hr] at hp;refine bK (λwa=>?_) (n b (o+i*k) hp);subst hz;rw[run_indexAt_slice (h:=ht),if_pos zQ];cases hq:P.info? (P.elem t)with
 |none=>grind
 |some inf=>
  have:inf.size=k:=by simpa [hq] using hs
  simp[sizeOf,typeInfo,hq,this,z8]
def aeh {enc:α->List Value} {xs:List α} {x:α} (h:Sl w0 X0 k v (xs.map enc)) (hr:xs[i]? =some x)
  (hz:z=i) (ht:P.underlying t=some (.slice (P.elem t))) (hs:(P.info? (P.elem t)).map (·.size)=some k)
  (n: ∀b o,Cells w0 X0 b o (enc x)->N (ptr b o)):aY P X w (nW t k v (.int .i64 z)) N:=
 Rt h (i:=i) gQ hz ht hs n
theorem Gl {rd:World->XS->List Value->α->Prop} {xs:List α} {x:α} (h:eY w0 X0 k v rd xs) (hr:xs[i]? =some x)
  (hz:z=i) (ht:P.underlying t=some (.slice (P.elem t))) (hs:(P.info? (P.elem t)).map (·.size)=some k)
  (n: ∀b o l,Cells w0 X0 b o l->rd w0 X0 l x->N (ptr b o)):aY P X w (nW t k v (.int .i64 z)) N:=by
 obtain⟨rows,h1,h2,h3⟩:=h;have hi:i<rows.length:=by rw[h2];exact(List.getElem?_eq_some_iff.1 hr).1
 have hl:rows[i]? =some rows[i]:=aS hi;exact Rt h1 hl hz ht hs λb o hc=>n b o _ hc (h3 i _ _ hl hr)
theorem anl (h:Sl w0 X0 k v rows) (ht:P.underlying t=some (.slice (P.elem t)))
  (hT:v= .slice none 0 0->rows=[]->N (.bool true)) (hF:N (.bool false)):aY P X w (dF .eql t xo yo v (.slice none 0 0)) N:=by
 rcases h.src with⟨rfl,hr⟩|⟨a,cap,rfl,_⟩
 ·exact Zf ht (hT rfl hr)
 ·exact Zf ht hF
def acn {xs:List α} (h:i<xs.length): ∃x,xs[i]? =some x/\xs.drop i=x::xs.drop (i+1):=
 ⟨xs[i],aS h,lu h⟩
theorem dB (xs:List α) (i:Nat):(i<xs.length/\ ∃x,xs[i]? =some x/\xs.drop i=x::xs.drop (i+1))\/(xs.length<=i/\xs.drop i=[]):=by
 rcases Nat.lt_or_ge i xs.length with h|h
 ·simp_all
 simp_all
def aoR (hl:(l.drop o).take n=l') (k:M (.agg l'.toArray)):un (yz (.agg l.toArray) o n) M:=
 agh (hl▸k)
theorem aoS (hl:bM l o cs=l') (k:M (.agg l'.toArray)):
  un (ep (List.toArray (bM l o cs))) M:=by subst hl;exact k
theorem Wy (h:one v=true) (k:l.all one=true):(v::l).all one=true:=by simp[h,k]
def aaG:aV ([]:List Value) one=true:=rfl
def anm (h:l.all one=true) (k:A):jh (aV (dm (ba (.agg l.toArray))) one) A:=I0 h k
def ann (h:l.all one=true) (k:A):jh (aV l one) A:=I0 h k
def Wi (hi:l[i]? =some v) (h:N v):aY P X w (gB (.tuple l.toArray) i) N:=NY gQ h
theorem HS {b:Bool} {N:Value->World->XS->Prop}
  (h:Ct P f args w X nX λv _ _=>v= .bool b) (hf:enters P f=true) (hX: ∀k,X k->k<w.heap.size)
  (hT:b=true-> ∀w' X',ai X w X' w'->N (.bool true) w' X') (hF:b=false-> ∀w' X',ai X w X' w'->N (.bool false) w' X'):eC P R X w m f args N:=by
 refine cM h hf hX λv wa w' X' hv _ _ hs=>?_;subst hv;cases b
 ·grind
 grind
theorem ff {u:Value} {N:Value->World->XS->Prop}
  (h:Ct P f args w X nX λv _ _=>v=u) (hf:enters P f=true) (hX: ∀k,X k->k<w.heap.size)
  (k: ∀w' X',ai X w X' w'->N u w' X'):eC P R X w m f args N:=by
 refine cM h hf hX λv wa w' X' hv _ _ hs=>?_
 grind
theorem ano {N:Value->World->XS->Prop}
  (h:Ct P f args w X nX λv _ _=> ∃n:Int,v= .int .i64 n) (hf:enters P f=true) (hX: ∀k,X k->k<w.heap.size)
  (k: ∀(n:Int) w' X',ai X w X' w'->N (.int .i64 n) w' X'):eC P R X w m f args N:=by
 refine cM h hf hX λv wa w' X' hv _ _ hs=>?_
 grind
theorem aoT {a b:Int} (h:N (.int .i64 (min a b))):aY P X w (kg #[t,t] ty #[.int .i64 a,.int .i64 b]) N:=
 bK (λwa=>by
  simp only[kg,List.foldlM];by_cases hc:b<a
  ·have:min a b=b:=by omega
   simp[FF,hc,this]
  ·have:min a b=a:=by omega
   simp[FF,hc,this]) h
variable {q : IntKind} {dst src : TypeId}
theorem aey {k:IntKind} {n:Int} (hs:(P.underlying src).isSome=true) (hd:P.underlying dst=some (.int k))
  (h:N (.int k (k.wrap n))):aY P X w (qj k src dst (.int q n)) N:=bK (λwa=>by
   have e:P.intKind dst=k:=by simp[Program.intKind,hd]
   have:=run_convert_int (P:=P) wa src dst q n hs gQ;rw[e] at this;exact this) h
def aoU {n:Int} (hs:(P.underlying src).isSome=true) (hd:P.underlying dst=some (.float .f64))
  (h:N (.float .f64 (floatOfInt .f64 n))):aY P X w (JG src dst (.int q n)) N:=bK (λwa=>run_convert_int_float wa src dst q .f64 n hs hd) h
theorem aoV {e:TypeId} (ht:P.underlying t=some (.array n e)) (he:lv P e=some (false,1)) (hz:z=i) (hn:i<n) (hl:l[i]? =some v)
  (k:N v):aY P X w (ET t n e (.agg l.toArray) (.int .i64 z)) N:=by
 subst hz;unfold lv at he;split at he
 ·rename_i d q hu EL;simp only[aj,cY] at he;refine bK (v:=v) (λwa=>?_) k;have Ce:(isAgg e).run P wa= .ok false wa:=by cases d<;>simp_all [isAgg,run_underlying hu]
  simp[ET,BD,asIntOf,run_underlying ht,hn,sizeOf,typeInfo,EL,he.2,part,Ce,hl]
 ·cases he
def aoW {op:BinOp} {x y:Nat} (h:floatBits op .f64 x y=some r) (k:N (.float .f64 r)):aY P X w (binOp op t (.float .f64 x) (.float .f64 y)) N:=
 bK (λwa=>run_float_arith wa op t .f64 x y r h) k
theorem Lr (s:ByteArray):s.size=s.data.toList.length:=by rfl
theorem aoX {s:ByteArray} {b:UInt8} (hb:s.data.toList[i]? =some b) (hz:z=i) (ht:P.underlying t=some .string) (k:N (.int .u8 b.toNat)):
  aY P X w (BD t (.string s) (.int .i64 z)) N:=by
 subst hz;have hi:i<s.data.toList.length:=(List.getElem?_eq_some_iff.1 hb).1;have EL:i<s.size:=by rw[Lr];exact hi
 refine bK (v:=.int .u8 b.toNat) (λwa=>?_) k;rw[run_index_string wa t s .i64 i ht,dif_pos zQ];have:s[i]=b:=by
  have h2:s.data.toList[i]=b:=(List.getElem?_eq_some_iff.1 hb).2;rw[<-h2];rfl
 simp[this]
theorem Zj (f:Ieee.Format) (s:Bool) (m:Nat) (p:Int):(f.read (f.nearest s m p)).isNaN=false:=by
 have hle: ∃r,f.nearest s m p=f.word s r/\r<=f.infRung:=by
  unfold Ieee.Format.nearest;split
  ·grind
  ·exact⟨_,rfl,Nat.min_le_right _ _⟩
 obtain⟨r,hr,hle⟩:=hle;have cI:=f.infRung_lt;have hm:f.word s r % f.signWeight=r:=by
  unfold Ieee.Format.word;split
  ·rw[Nat.add_mod_left,fz zQ]
  ·rw[fz zQ]
 rw[hr];unfold Ieee.Format.read;simp only[hm];split
 ·rfl
 ·split
  ·rfl
  ·split
   ·rfl
   ·omega
def chain (p:α->Bool) (r:α->α->Bool):Option α->List α->Bool
 |_,[]=>true
 |none,x::l=>p x&&chain p r (some x) l
 |some y,x::l=>p x&&r y x&&chain p r (some x) l
def uR (xs:List α) (i:Nat):Option α:=if i=0 then none else xs[i-1]?
theorem rN {xs:List α} {x:α} (h:xs[i]? =some x):uR xs (i+1)=some x:=by assumption
theorem Nk {xs:List α} (h:i<xs.length):(i=0/\uR xs i=none)\/(0<i/\ ∃y,xs[i-1]? =some y/\uR xs i=some y):=by
 by_cases h0:i=0
 ·grind [uR]
 ·have:xs[i-1]? =some xs[i-1]:=aS zQ
  grind [uR]
variable {P : Program} {R : Ending -> World -> Prop} {X : XS} {w : World} {m : Bool}
theorem foldl_set (l:List Value): ∀(n:Nat) (cs:Array Value),n+l.length<=cs.size->
  ((l.zipIdx n).foldl (λ(cs:Array Value) (p:Value×Nat)=>cs.setIfInBounds p.2 p.1) cs).toList=cs.toList.take n++l++cs.toList.drop (n+l.length):=by
 induction l with
 |nil=>intro n cs h;simp
 |cons x r ih=>
  intro n cs h;simp only[aJ] at h;simp only[List.zipIdx_cons,List.foldl_cons];rw[ih (n+1) _ oQ];have hn:n<cs.toList.length:=by simp;omega
  simp only[Array.toList_setIfInBounds,aJ];rw[List.take_set,List.drop_set_of_lt zQ];have:(cs.toList.take (n+1)).set n x=cs.toList.take n++[x]:=by
   rw[List.take_add_one,aS hn];simp only[Option.toList_some];rw[List.set_append_right _ _ oQ];have hm:(cs.toList.take n).length=n:=by rw[List.length_take];omega
   rw[hm,Nat.sub_self,List.set_cons_zero]
  rw[this];simp only[List.append_assoc,List.cons_append,bp]
  grind
variable {x : Value}
theorem FI {cs:Array Value} (hx:x.cells.size=k) (hc:cs.size=k):
  rS (λi=>some (i*k,k)) cs [(0,x)]=some x.cells:=by
 unfold rS;simp only[Nat.zero_mul,fj,hx,ne_eq,not_true_eq_false,decide_false,hc,Nat.lt_irrefl,gt_iff_lt,Bool.or_self,aW,if_false];unfold rS;simp only[aj];apply Array.ext';have:=foldl_set x.cells.toList 0 cs oQ;rw[<-Array.toList_zipIdx,Array.foldl_toList] at this;simp_all
def fv (v:Value):XS:=λg=>v.ownBlock=some g
def oD (P:Program) (t e k bytes:Nat):Bool:=match P.underlying t,P.info? e with
 |some (.slice e'),some i=>e'==e&&i.size==k&&i.bytes==bytes&&(match i.zero with|some z=>z.cells.size==k|none=>false)&&decide (0<k)&&decide (k<=2^20)
 |_,_=>false
variable {bytes : Nat}
theorem mI {t:Nat} (h:oD P t e k bytes=true):P.underlying t=some (.slice e)/\0<k/\k<=2^20/\
  ∃z:Value,(P.info? e).bind (λi=>i.zero.map λz=>(i.size,i.bytes,z))=some (k,bytes,z)/\(P.info? e).bind (λi=>i.zero.map λz=>(i.size,z))=some (k,z)/\z.cells.size=k:=by
 unfold oD at h;split at h
 ·rename_i e' i hu hi;simp only[aA,beq_iff_eq,decide_eq_true_eq] at h;obtain⟨⟨⟨⟨⟨rfl,h2⟩,h3⟩,h4⟩,h5⟩,h6⟩:=h;cases hz:i.zero with
  |none=>grind
  |some z=>
   simp_all
 ·cases h
section
variable {t ty : Nat} {s : Value} {du : List (List Value)} {row : List Value} {N : Value -> World -> XS -> Prop}
theorem agi (own:Own w X w0.heap.size e k v rows) (hs:ai X0 w0 X w) (h0: ∀k,X0 k->k<w0.heap.size) (he:oD P t e k bytes=true) (hx:x.cells.toList=row) (hk:(row.length==k)=true)
  (h1:row.all one=true) (hb:(rows.length+1)*bytes<=140737488355328) (hl:rows.length+1<=2^63-1)
  (n: ∀v' w' X',ai X0 w0 X' w'->Own w' X' w0.heap.size e k v' (rows++[row])->dY (fv v) X w X' w'->(v'.ownBlock=v.ownBlock\/ ∃g,v'.ownBlock=some g/\w.heap.size<=g)->N v' w' X'):
  eV P R X w m (gT t e k 1 #[(0,x)]) λs w1 X1=>eV P R X1 w1 true (rY t e k bytes ty v s) N:=by
 obtain⟨hu,iy,By,z,hi,hz,vC⟩:=mI he;have ah:row.length=k:=by simpa using hk
 have J7:x.cells.size=k:=by rw[<-ah,<-hx,fB]
 refine Cs (rows:=[row]) x.cells z hs.has hu hz zQ zQ ?_ (by simpa using ah) rfl gQ λs w1 X1 aB zF=>?_
 ·simp only[BC];exact FI J7 sQ
 ·have gr:w0.heap.size<=w1.heap.size:=ad hs.kp.size aB.kp.size;refine Dq (du:=[row]) z hu hi vC iy aB.has gr (own.since aB) zF.sl (by simpa using h1) zQ zQ λv2 w2 X2 hg ho dc=>?_;have hd: ∀g,v.ownBlock=some g->w0.heap.size<=g:=λg hg=>(own.ge hg).1;refine n v2 w2 X2 ((hs.trans aB).grown hg λg hg0 he=>?_) ho ?_ ?_
  ·have:=hd g he.symm;have:=h0 g hg0;omega
  ·exact(dY.oh aB (fv v)).trans (hg.dT.mono λk _ hk=>hk.symm)
  ·rcases dc with h|⟨g,h,dC⟩
   ·exact .inl h
   ·exact .inr ⟨g,h,ad aB.kp.size dC⟩
def akV (own:Own w X w0.heap.size e k v rows) (hs:ai X0 w0 X w) (h0: ∀k,X0 k->k<w0.heap.size) (he:oD P t e k bytes=true) (hk:(l.length==k)=true)
  (h1:l.all one=true) (hb:(rows.length+1)*bytes<=140737488355328) (hl:rows.length+1<=2^63-1)
  (n: ∀v' w' X',ai X0 w0 X' w'->Own w' X' w0.heap.size e k v' (rows++[l])->dY (fv v) X w X' w'->(v'.ownBlock=v.ownBlock\/ ∃g,v'.ownBlock=some g/\w.heap.size<=g)->N v' w' X'):
  eV P R X w m (gT t e k 1 #[(0,.agg l.toArray)]) λs w1 X1=>eV P R X1 w1 true (rY t e k bytes ty v s) N:=agi own hs h0 he rfl hk h1 hb hl n
theorem M6 (own:Own w X w0.heap.size e k v rows) (hs:ai X0 w0 X w) (h0: ∀k,X0 k->k<w0.heap.size) (he:oD P t e k bytes=true) (hk:(k==1)=true)
  (ho:one x=true) (hb:(rows.length+1)*bytes<=140737488355328) (hl:rows.length+1<=2^63-1)
  (n: ∀v' w' X',ai X0 w0 X' w'->Own w' X' w0.heap.size e k v' (rows++[[x]])->dY (fv v) X w X' w'->(v'.ownBlock=v.ownBlock\/ ∃g,v'.ownBlock=some g/\w.heap.size<=g)->N v' w' X'):
  eV P R X w m (gT t e k 1 #[(0,x)]) λs w1 X1=>eV P R X1 w1 true (rY t e k bytes ty v s) N:=by
 refine agi (row:=[x]) own hs h0 he ?_ (by simpa using (beq_iff_eq.1 hk).symm) (by simpa using ho) hb hl n;cases x<;>first|rfl|cases ho
theorem qK (own:Own w X w0.heap.size e k v rows) (hs:ai X0 w0 X w) (h0: ∀k,X0 k->k<w0.heap.size) (he:oD P t e k bytes=true) (src:Sl w X k s du) (h1: ∀r∈du,∀u∈r,one u=true)
  (hb:(rows.length+du.length)*bytes<=140737488355328) (hl:rows.length+du.length<=2^63-1)
  (n: ∀v' w' X',ai X0 w0 X' w'->Own w' X' w0.heap.size e k v' (rows++du)->dY (fv v) X w X' w'->(v'.ownBlock=v.ownBlock\/ ∃g,v'.ownBlock=some g/\w.heap.size<=g)->N v' w' X'):
  eV P R X w true (rY t e k bytes ty v s) N:=by
 obtain⟨hu,iy,By,z,hi,hz,vC⟩:=mI he;refine Dq (du:=du) z hu hi vC iy hs.has hs.kp.size own src h1 hb hl λv2 w2 X2 hg ho dc=>?_;have hd: ∀g,v.ownBlock=some g->w0.heap.size<=g:=λg hg=>(own.ge hg).1;refine n v2 w2 X2 (hs.grown hg λg hg0 he=>?_) ho (hg.dT.mono λk _ hk=>hk.symm) dc;have:=hd g he.symm;have:=h0 g hg0;omega
def adg (hX: ∀k,X k->k<w.heap.size) (hu:P.underlying t=some (.slice e)) (hz:(P.info? e).map (·.size)=some k)
  (n: ∀v w' X',ai X w X' w'->Own w' X' w.heap.size e k v []->N v w' X'):eV P R X w m (gT t e k 0 #[]) N:=agc hX hu hz n
end
theorem Wn {t len:Nat} {N:Value->World->XS->Prop} (cells:Array Value) (z:Value) (hX: ∀k,X k->k<w.heap.size) (he:oD P t e k bytes=true)
  (hz:(P.info? e).bind (·.zero)=some z) (Yr:0<len*k) (Rq:len*k<=2^24)
  (h:rS (λi=>some (i*k,k)) ((BF (len*k)).map (z.cells[· % z.cells.size]!)) parts.toList=some cells)
  (CW: ∀r∈rows,r.length=k) (hlen:rows.length=len) (hc:cells.toList=rows.flatten)
  (n: ∀v w' X',ai X w X' w'->Own w' X' w.heap.size e k v rows->N v w' X'):eV P R X w m (gT t e k len parts) N:=by
 obtain⟨hu,iy,By,z',hi,tg,vC⟩:=mI he;have:z'=z:=by
  cases hq:P.info? e with
  |none=>grind
  |some ie=>simp_all
 subst this;exact Cs cells z' hX hu tg Yr Rq h CW hlen hc n
end Go.aK
namespace Go.aK
variable {P : Program} {R : Ending -> World -> Prop} {X Y A A' : XS} {w w' : World} {m : Bool} {κ : Type} [DecidableEq κ] {α : Type}
def Zk (P:Program) (S f:Nat):Option Bool:=match P.underlying S with
 |some (.struct fs)=>match fs[f]? with
  |some x=>match P.underlying x.type with
   |some (.struct _)|some (.array _ _)=>some true
   |some _=>some false
   |none=>none
  |none=>none
 |_=>none
def qV (rd:World->XS->Value->α->Prop):Prop:= ∀(X Y:XS) (w w':World) (v:Value) (x:α),rd w X v x->Mv X w Y w'->rd w' Y v x
def oE (w:World) (A:XS) (rd:World->XS->Value->α->Prop):List (jy κ)->List (κ×α)->Prop
 |[],[]=>True
 |e::es,x::l=>e.1=x.1/\rd w A e.2.1 x.2/\oE w A rd es l
 |_,_=>False
theorem oE.mv {rd:World->XS->Value->α->Prop} (hm:qV rd) (v:Mv A w A' w'): ∀{es:List (jy κ)} {l:List (κ×α)},oE w A rd es l->oE w' A' rd es l
 |[],[],_=>trivial
 |_::_,_::_,⟨h1,h2,h3⟩=>⟨h1,hm _ _ _ _ _ _ h2 v,oE.mv hm v h3⟩
 |[],_::_,h=>h.elim
 |_::_,[],h=>h.elim
theorem oE.keys {rd:World->XS->Value->α->Prop} : ∀{es:List (jy κ)} {l:List (κ×α)},oE w A rd es l->es.map (·.1)=l.map (·.1)
 |[],[],_=>rfl
 |_::_,_::_,⟨h1,_,h3⟩=>by simp[h1,oE.keys h3]
 |[],_::_,h=>h.elim
 |_::_,[],h=>h.elim
theorem oE.append {rd:World->XS->Value->α->Prop} : ∀{es oI:List (jy κ)} {l l':List (κ×α)},oE w A rd es l->oE w A rd oI l'->oE w A rd (es++oI) (l++l')
 |[],_,[],_,_,h'=>h'
 |_::_,_,_::_,_,⟨h1,h2,h3⟩,h'=>⟨h1,h2,oE.append h3 h'⟩
 |[],_,_::_,_,h,_=>h.elim
 |_::_,_,[],_,h,_=>h.elim
def getM (k:κ) (l:List (κ×α)):Option α:=(l.find? λx=>decide (x.1=k)).map (·.2)
def cU (k:κ) (a:α):List (κ×α)->List (κ×α)
 |[]=>[(k,a)]
 |x::l=>if x.1=k then(k,a)::l else x::cU k a l
def kq (k:κ) (l:List (κ×α)):List (κ×α):=l.filter λx=>decide (x.1≠k)
theorem oE.get {rd:World->XS->Value->α->Prop} (k:κ): ∀{es:List (jy κ)} {l:List (κ×α)},oE w A rd es l->
  (Hn k es=none/\getM k l=none)\/ ∃v a,Hn k es=some v/\getM k l=some a/\rd w A v a
 |[],[],_=>.inl ⟨rfl,rfl⟩
 |e::es,x::l,⟨h1,h2,h3⟩=>by
  by_cases hk:x.1=k
  ·exact .inr ⟨e.2.1,x.2,by simp[Hn,h1,hk],by simp[getM,hk],h2⟩
  ·rcases oE.get k h3 with⟨q1,q2⟩|⟨v,a,q1,q2,q3⟩
   ·left;constructor
    ·simp only[Hn,fO,h1,hk,decide_false,aW,if_false];exact q1
    ·simp only[getM,fO,hk,decide_false,aW,if_false];exact q2
   ·right;refine⟨v,a,?_,?_,q3⟩
    ·simp only[Hn,fO,h1,hk,decide_false,aW,if_false];exact q1
    ·simp only[getM,fO,hk,decide_false,aW,if_false];exact q2
 |[],_::_,h=>h.elim
 |_::_,[],h=>h.elim
def GN (k:κ) (v:Value) (c:Nat):List (jy κ)->List (jy κ)
 |[]=>[(k,v,c)]
 |e::es=>if e.1=k then(e.1,v,e.2.2)::es else e::GN k v c es
theorem aco (k:κ) (v:Value) (c:Nat) (es:List (jy κ)):(Ho k v c es).1=GN k v c es:=by
 induction es with
 |nil=>rfl
 |cons e es ih=>
  unfold Ho at ih⊢;by_cases hk:e.1=k
  ·simp[my,hk,GN]
  ·simp only[my,hk,decide_false,aW,if_false,GN];cases hf:es.findIdx? λx=>decide (x.1=k)with
   |none=>grind
   |some j=>grind
variable {c : Nat} {v : Value}
theorem oE.put {rd:World->XS->Value->α->Prop} {k:κ} {a:α} (hv:rd w A v a): ∀{es:List (jy κ)} {l:List (κ×α)},oE w A rd es l->oE w A rd (GN k v c es) (cU k a l)
 |[],[],_=>⟨rfl,hv,trivial⟩
 |e::es,x::l,⟨h1,h2,h3⟩=>by
  unfold GN cU;by_cases hk:x.1=k
  ·rw[if_pos (h1.trans hk),if_pos hk];exact⟨h1.trans hk,hv,h3⟩
  ·rw[if_neg gQ,if_neg hk];exact⟨h1,h2,oE.put hv h3⟩
 |[],_::_,h=>h.elim
 |_::_,[],h=>h.elim
def Ws (k:κ) (es:List (jy κ)):List (jy κ):=es.filter λx=>decide (x.1≠k)
theorem acp (k:κ): ∀(es:List (jy κ)),(es.map (·.1)).Nodup->PE k es=Ws k es
 |[],_=>rfl
 |e::es,h=>by
  have h':(es.map (·.1)).Nodup:=(List.nodup_cons.1 h).2;have ih:=acp k es h';unfold PE at ih⊢;by_cases hk:e.1=k
  ·have:es.filter (λx=>decide (x.1≠k))=es:=List.filter_eq_self.2 λx hx=>by
    have:x.1≠k:=λhxk=>(List.nodup_cons.1 h).1 (by simp only[List.mem_map];exact⟨x,hx,by rw[hxk,hk]⟩)
    grind
   simp only[Ws] at this⊢;simp only[my,hk,decide_true,if_true,List.eraseIdx_cons_zero,ne_eq,not_true_eq_false,decide_false,eP,aW,if_false]
   grind
  ·simp only[my,hk,decide_false,aW,if_false];cases hf:es.findIdx? λx=>decide (x.1=k)with
   |none=>rw[hf] at ih;simp only[B5];simp only at ih;rw[ih];simp[Ws,hk,<-ih]
   |some j=>rw[hf] at ih;simp only[aZ,List.eraseIdx_cons_succ] at ih⊢;rw[ih];simp[Ws,hk]
theorem oE.filter {rd:World->XS->Value->α->Prop} (p:κ->Bool): ∀{es:List (jy κ)} {l:List (κ×α)},oE w A rd es l->oE w A rd (es.filter λx=>p x.1) (l.filter λx=>p x.1)
 |[],[],_=>trivial
 |e::es,x::l,⟨h1,h2,h3⟩=>by
  have ih:=oE.filter p h3;by_cases hp:p x.1=true
  ·simp only[eP,h1,hp,if_true];exact⟨h1,h2,ih⟩
  grind
 |[],_::_,h=>h.elim
 |_::_,[],h=>h.elim
theorem oE.mem {rd:World->XS->Value->α->Prop} : ∀{es:List (jy κ)} {l:List (κ×α)},oE w A rd es l-> ∀e∈es,∃a,(e.1,a)∈l/\rd w A e.2.1 a
 |[],[],_,_,h=>by cases h
 |e0::es,x::l,⟨h1,h2,h3⟩,e,he=>by
  rcases List.mem_cons.1 he with rfl|he
  ·grind
  ·obtain⟨a,ha,hr⟩:=oE.mem h3 e he
   grind
 |[],_::_,h,_,_=>h.elim
 |_::_,[],h,_,_=>h.elim
def dS (w:World) (X A:XS) (b:Nat) (kv:κ->Value) (rd:World->XS->Value->α->Prop) (l:List (κ×α)):Prop:=
 ∃es c,mH w X b kv es c/\oE w A rd es l
variable {b : Nat}
def dS.mv {kv:κ->Value} {rd:World->XS->Value->α->Prop} {l:List (κ×α)} (h:dS w X A b kv rd l) (hm:qV rd) (v:Mv X w Y w') (va:Mv A w A' w'):dS w' Y A' b kv rd l:=
 let⟨es,c,h1,h2⟩:=h
 ⟨es,c,h1.mv v,h2.mv hm va⟩
theorem dS.nodup {kv:κ->Value} {rd:World->XS->Value->α->Prop} {l:List (κ×α)} (h:dS w X A b kv rd l):(l.map (·.1)).Nodup:=by
 obtain⟨es,c,h1,h2⟩:=h;rw[<-h2.keys];exact h1.2.2.1
theorem dS.x {kv:κ->Value} {rd:World->XS->Value->α->Prop} {l:List (κ×α)} (h:dS w X A b kv rd l):X b/\b<w.heap.size:=
 let⟨_,_,h1,_⟩:=h
 ⟨h1.1,(Array.getElem?_eq_some_iff.1 h1.2.1).1⟩
theorem dS.own {kv:κ->Value} {rd:World->XS->Value->α->Prop} {l:List (κ×α)} (h:dS w X A b kv rd l):dS w (λk=>k=b) A b kv rd l:=
 let⟨es,c,h1,h2⟩:=h
 ⟨es,c,⟨rfl,h1.2⟩,h2⟩
variable {ty : TypeId} {cs : List Value}
theorem aH.own (h:aH w X b cs ty):aH w (λk=>k=b) b cs ty:=⟨rfl,h.2⟩
theorem aH.lt (h:aH w X b cs ty):b<w.heap.size:=(Array.getElem?_eq_some_iff.1 h.2).1
theorem Mv.one (hk:Kp X w w') (hb:X b) (hy:Y b):Mv (λk=>k=b) w Y w':=λk ah _=>by subst ah;exact⟨hy,hk.block _ hb⟩
variable {N : Value -> World -> XS -> Prop}
def rL {t:TypeId} {kv:κ->Value} (rd:World->XS->Value->α->Prop) (A:XS) (hX: ∀k,X k->k<w.heap.size)
  (n: ∀b w' X',w.heap.size<=b->ai X w X' w'->dS w' X' A b kv rd []->N (.map (some b)) w' X'):eV P R X w m (gf t none) N:=
 aen hX λb w' X' hb hs hm=>n b w' X' hb hs ⟨[],0,hm,trivial⟩
variable {et kt t : Nat}
theorem FJ {kv:κ->Value} {rd:World->XS->Value->α->Prop} {l:List (κ×α)} {k:κ} {N:Value->Prop} (z:Value) (h:dS w X A b kv rd l) (K:xw P kt kv)
  (ht:P.underlying t=some (.map kt et)) (hz:(P.info? et).bind (·.zero)=some z)
  (n1: ∀v a,getM k l=some a->rd w A v a->N (.tuple #[v,.bool true])) (n0:getM k l=none->N (.tuple #[z,.bool false])):
  aY P X w (bO t (.map (some b)) (kv k) true) N:=by
 obtain⟨es,c,h1,h2⟩:=h;refine aem z h1 K ht hz ?_;rcases h2.get k with⟨q1,q2⟩|⟨v,a,q1,q2,q3⟩
 ·grind
 grind
theorem nr {kv:κ->Value} {rd:World->XS->Value->α->Prop} {l:List (κ×α)} {k:κ} {N:Value->Prop} (z:Value) (h:dS w X A b kv rd l) (K:xw P kt kv)
  (ht:P.underlying t=some (.map kt et)) (hz:(P.info? et).bind (·.zero)=some z)
  (n1: ∀v a,getM k l=some a->rd w A v a->N v) (n0:getM k l=none->N z):
  aY P X w (bO t (.map (some b)) (kv k) false) N:=by
 have key: ∀u q,(∀wa,Kp X w wa->(bO t (.map (some b)) (kv k) true).run P wa= .ok (.tuple #[u,.bool q]) wa)-> ∀wa,Kp X w wa->(bO t (.map (some b)) (kv k) false).run P wa= .ok u wa:=by
  intro u q hq wa hk;have h1:=hq wa hk;obtain⟨es,c,hm,_⟩:=h;simp only[bO,bu,run_underlying ht,aN,getObj,tP,((hm.kp hk).2.1),K.jh,cX,K.find] at h1⊢;cases hf:tv k es 0 with
  |none=>
   cases hi:P.info? et with
   |none=>simp[hi] at hz
   |some inf=>
    have tg:inf.zero=some z:=by simpa [hi] using hz
    simp[zeroValue,typeInfo,hi,tg,K.find,hf] at h1⊢;exact h1.1
  |some r=>
   simp[K.find,hf] at h1⊢;exact h1.1
 have:=FJ (N:=λv=> ∃u q,v= .tuple #[u,.bool q]/\N u) z h K ht hz (λv a h1 h2=>⟨v,_,rfl,n1 v a h1 h2⟩) (λh0=>⟨z,_,rfl,n0 h0⟩);obtain⟨v,hv,u,q,rfl,hn⟩:=this;refine HK u (key u q λwa hk=>?_) hn;have:=hv wa hk;simp only[vS,bu] at this;cases hr:(bO t (.map (some b)) (kv k) true).run P wa with
 |ok a w2=>rw[hr] at this;simp only[aN,bU,Result.ok.injEq,Next.value.injEq] at this;grind
 |halt a w2=>grind [Result.andThen]
theorem vJ {kv:κ->Value} {rd:World->XS->Value->α->Prop} {l:List (κ×α)} {k:κ} {a:α} (h:dS w X A b kv rd l) (hm:qV rd)
  (hv:rd w A v a) (hA: ∀k,A k->X k/\k≠b) (K:xw P kt kv) (ht:P.underlying t=some (.map kt et)) (hX: ∀k,X k->k<w.heap.size)
  (n: ∀w' X',dY (· =b) X w X' w'->dS w' X' A b kv rd (cU k a l)->N undef w' X'):
  eU P R X w true (cR t (.map (some b)) (kv k) v) N:=by
 obtain⟨es,c,h1,h2⟩:=h;refine agd h1 K ht hX λw' X' hg hi=>?_;have hc:dY (· =b) X w X' w':=hg.dT.mono λk _ hk=>by simpa using hk
 refine n w' X' hc ⟨_,_,hi,?_⟩;rw[aco];have mv:Mv A w A w':=λk hk _=>⟨hk,hc.block k (hA k hk).1 (hA k hk).2⟩;exact(h2.put hv).mv hm mv
theorem aiL {tk ty:Nat} {kv:κ->Value} {rd:World->XS->Value->α->Prop} {l:List (κ×α)} {k:κ} (h:dS w X A b kv rd l) (hm:qV rd)
  (hA: ∀k,A k->X k/\k≠b) (K:xw P kt kv) (ht:P.underlying t=some (.map kt et)) (hX: ∀k,X k->k<w.heap.size)
  (n: ∀w' X',dY (· =b) X w X' w'->dS w' X' A b kv rd (kq k l)->N (.tuple #[]) w' X'):
  eV P R X w true (sM #[t,tk] ty #[.map (some b),kv k]) N:=by
 obtain⟨es,c,h1,h2⟩:=h;refine agf h1 K ht hX λw' X' hg hi=>?_;have hc:dY (· =b) X w X' w':=hg.dT.mono λk _ hk=>by grind
 refine n w' X' hc ⟨_,_,hi,?_⟩;rw[acp _ _ h1.2.2.1];have mv:Mv A w A w':=λk hk _=>⟨hk,hc.block k (hA k hk).1 (hA k hk).2⟩;exact(h2.filter (λx=>decide (x≠k))).mv hm mv
def Mi (w:World) (X A:XS) (r b:Nat) (kv:κ->Value) (rd:World->XS->Value->α->Prop) (l left:List (κ×α)):Prop:=
 ∃es c OJ,BG w X r b kv es c OJ/\oE w A rd es l/\oE w A rd OJ left/\OJ.Sublist es
variable {r : Nat}
theorem Mi.mv {kv:κ->Value} {rd:World->XS->Value->α->Prop} {l left:List (κ×α)} (h:Mi w X A r b kv rd l left) (hm:qV rd) (v:Mv X w Y w') (va:Mv A w A' w'):Mi w' Y A' r b kv rd l left:=by
 obtain⟨es,c,OJ,h1,h2,h3,h4⟩:=h;refine⟨es,c,OJ,⟨h1.1.mv v,?_,h1.2.2.1,?_⟩,h2.mv hm va,h3.mv hm va,h4⟩
 ·obtain⟨s,hs,_⟩:=h1.2.2.2;exact(v r h1.2.1 (Array.getElem?_eq_some_iff.1 hs).1).1
 ·obtain⟨s,hs,hl⟩:=h1.2.2.2;exact⟨s,by rw[(v r h1.2.1 (Array.getElem?_eq_some_iff.1 hs).1).2];exact hs,hl⟩
theorem Mi.map {kv:κ->Value} {rd:World->XS->Value->α->Prop} {l left:List (κ×α)} (h:Mi w X A r b kv rd l left):dS w X A b kv rd l:=
 let⟨es,c,_,h1,h2,_⟩:=h
 ⟨es,c,h1.1,h2⟩
theorem Mi.nodup {kv:κ->Value} {rd:World->XS->Value->α->Prop} {l left:List (κ×α)} (h:Mi w X A r b kv rd l left):(left.map (·.1)).Nodup:=by
 obtain⟨es,c,OJ,h1,h2,h3,h4⟩:=h;rw[<-h3.keys];exact h1.1.2.2.1.sublist (h4.map _)
theorem agj {l:List (κ×α)} (c:κ×α->Bool):(l.map (·.1)).Nodup-> ∀{k:κ} {a:α},(k,a)∈l->l.any c=(c (k,a)||(l.filter λy=>decide (y.1≠k)).any c):=by
 induction l with
 |nil=>grind
 |cons x l ih=>
  intro hn k a h;have mL:=List.nodup_cons.1 hn;rcases List.mem_cons.1 h with h|h
  ·subst h;have:l.filter (λy=>decide (y.1≠k))=l:=List.filter_eq_self.2 λy hy=>by
    have:y.1≠k:=λe=>mL.1 (List.mem_map.2 ⟨y,hy,e⟩)
    grind
   simp only[List.any_cons,eP,ne_eq,not_true_eq_false,decide_false,aW,if_false];simp only[ne_eq] at this;rw[this]
  ·have hx:x.1≠k:=λe=>mL.1 (List.mem_map.2 ⟨(k,a),h,e.symm⟩);have:=ih mL.2 h;simp only[List.any_cons,eP,hx,ne_eq,not_false_eq_true,decide_true,if_true];simp only[ne_eq] at this;rw[this,<-Bool.or_assoc,<-Bool.or_assoc,Bool.or_comm (c x)]
theorem akW {l:List (κ×α)} {k:κ} {a:α} (h:(k,a)∈l):(l.filter λy=>decide (y.1≠k)).length<l.length:=by
 refine Nat.lt_of_le_of_ne (List.length_filter_le _ _) λe=>?_;have:=List.length_filter_eq_length_iff.1 e (k,a) h;simp at this
variable {w0 : World} {X0 : XS}
def ai.jj (h:ai X0 w0 X w) (hA: ∀k,A k->X0 k):Mv A w0 A w:=λk hk _=>⟨hk,h.kp.block k (hA k hk)⟩
theorem akX {kv:κ->Value} {rd:World->XS->Value->α->Prop} {l:List (κ×α)} (h:dS w X A b kv rd l) (hm:qV rd) (hA: ∀k,A k->X k)
  (ht:P.underlying t=some (.map kt et)) (hX: ∀k,X k->k<w.heap.size)
  (n: ∀r w' X',w.heap.size<=r->ai X w X' w'->Mi w' X' A r b kv rd l l->N (ptr r 0) w' X'):eV P R X w m (xu t (.map (some b))) N:=by
 obtain⟨es,c,h1,h2⟩:=h;refine aiC h1 ht hX λr w' X' hr hs hi=>n r w' X' hr hs ?_;have mv:Mv A w A w':=λk hk _=>⟨hk,hs.kp.block k (hA k hk)⟩;exact⟨es,c,es,hi,h2.mv hm mv,h2.mv hm mv,List.Sublist.refl _⟩
theorem anp {ty:Nat} {kv:κ->Value} {rd:World->XS->Value->α->Prop} {l left:List (κ×α)} (h:Mi w X A r b kv rd l left) (hm:qV rd)
  (hA: ∀k,A k->X k/\k≠r) (hX: ∀k,X k->k<w.heap.size)
  (n0:left=[]-> ∀w' X',ai X w X' w'->N (.tuple #[.bool false]) w' X')
  (n1: ∀k a v,(k,a)∈left-> ∀w' X',dY (· =r) X w X' w'->rd w' A v a->Mi w' X' A r b kv rd l (left.filter λy=>decide (y.1≠k))->
   (∀wa,Kp X' w' wa->(qq (ptr r 0)).run P wa= .ok (.tuple #[kv k,v]) wa)->N (.tuple #[.bool true,kv k,v]) w' X'):
  eV P R X w true (Instr.next (ptr r 0) false ty) N:=by
 obtain⟨es,c,OJ,h1,h2,h3,h4⟩:=h;refine akS h1 hX (λh0 w' X' hs=>n0 ?_ w' X' hs) λx hx w' X' hg hi he=>?_
 ·subst h0;cases left with
  |nil=>rfl
  |cons y t=>exact h3.elim
 ·have hc:dY (· =r) X w X' w':=hg.dT.mono λk _ hk=>by simpa using hk
  have mv:Mv A w A w':=λk hk _=>⟨hk,hc.block k (hA k hk).1 (hA k hk).2⟩;obtain⟨a,ha,Ay⟩:=h3.mem x hx;refine n1 x.1 a x.2.1 ha w' X' hc (hm _ _ _ _ _ _ Ay mv) ?_ he;have hk: ∀y∈OJ,decide (y.2.2≠x.2.2)=decide (y.1≠x.1):=by
   intro y hy;have hye:=h4.subset hy;have n1:=h1.1.2.2.1;have n2:=h1.1.2.2.2.1;obtain⟨i,hi9,rfl⟩:=za hye;obtain⟨j,hj,rfl⟩:=za (h4.subset hx);have inj: ∀{β:Type} (f:jy κ->β),(es.map f).Nodup->(f es[i]=f es[j]↔i=j):=by
    intro β f n;constructor
    ·intro e;have hp:=List.pairwise_iff_getElem.1 n;rcases Nat.lt_trichotomy i j with h|h|h
     ·exact absurd (by rw[rz,rz];exact e) (hp i j (by simpa using hi9) (by simpa using hj) h)
     ·exact h
     ·exact absurd (by rw[rz,rz];exact e.symm) (hp j i (by simpa using hj) (by simpa using hi9) h)
    ·rintro rfl;rfl
   have e1:=inj (·.1) n1;have e2:=inj (·.2.2) n2;simp only[ne_eq,e1,e2]
  have hf:(OJ.filter λy=>decide (y.2.2≠x.2.2))=OJ.filter λy=>decide (y.1≠x.1):=List.filter_congr hk;refine⟨es,c,_,hi,h2.mv hm mv,?_,?_⟩
  ·rw[hf];exact(h3.filter (λk=>decide (k≠x.1))).mv hm mv
  ·exact(List.filter_sublist).trans h4
def akY {k:Value} (hX: ∀k,X k->k<w.heap.size)
  (h: ∀wa,Kp X w wa->(qq (ptr r 0)).run P wa= .ok (.tuple #[k,v]) wa) (n: ∀w' X',ai X w X' w'->N (.tuple #[k,v]) w' X'):
  eV P R X w m (qq (ptr r 0)) N:=aiD hX h n
def SY (w:World) (A:XS) (rd:World->XS->Value->α->Prop) (k:κ):List (jy κ)->List (κ×α)->Prop
 |[],[]=>True
 |e::es,x::l=>e.1=x.1/\(x.1≠k->rd w A e.2.1 x.2)/\SY w A rd k es l
 |_,_=>False
def aez (w:World) (X A:XS) (b:Nat) (kv:κ->Value) (rd:World->XS->Value->α->Prop) (k:κ) (l:List (κ×α)):Prop:=
 ∃es c,mH w X b kv es c/\SY w A rd k es l
theorem oE.toX {rd:World->XS->Value->α->Prop} {k:κ} : ∀{es:List (jy κ)} {l:List (κ×α)},oE w A rd es l->
  (∀x v,x∈l->x.1≠k->rd w A v x.2->rd w' A' v x.2)->SY w' A' rd k es l
 |[],[],_,_=>trivial
 |e::es,x::l,⟨h1,h2,h3⟩,hm=>⟨h1,λhk=>hm x _ sQ hk h2,oE.toX h3 λy v hy=>hm y v (by simp[hy])⟩
 |[],_::_,h,_=>h.elim
 |_::_,[],h,_=>h.elim
theorem dS.toX {kv:κ->Value} {rd:World->XS->Value->α->Prop} {k:κ} {l:List (κ×α)} (h:dS w X A b kv rd l) (m:Mv (λg=>g=b) w Y w')
  (hm: ∀x v,x∈l->x.1≠k->rd w A v x.2->rd w' A' v x.2):aez w' Y A' b kv rd k l:=by
 obtain⟨es,c,h1,h2⟩:=h;exact⟨es,c,mH.mv (X:=λg=>g=b) ⟨rfl,h1.2⟩ m,h2.toX hm⟩
theorem SY.put {rd:World->XS->Value->α->Prop} {k:κ} {a:α} (hv:rd w A v a): ∀{es:List (jy κ)} {l:List (κ×α)},(es.map (·.1)).Nodup->SY w A rd k es l->oE w A rd (GN k v c es) (cU k a l)
 |[],[],_,_=>⟨rfl,hv,trivial⟩
 |e::es,x::l,hn,⟨h1,h2,h3⟩=>by
  have mL:=List.nodup_cons.1 hn;unfold GN cU;by_cases hk:x.1=k
  ·rw[if_pos (h1.trans hk),if_pos hk];refine⟨h1.trans hk,hv,?_⟩;have cu: ∀y∈es,y.1≠k:=λy hy e'=>mL.1 (List.mem_map.2 ⟨y,hy,e'.trans (hk.symm.trans h1.symm)⟩);clear hn mL h1 h2
   induction es generalizing l with
   |nil=>cases l<;>assumption
   |cons e2 es ih=>
    cases l with
    |nil=>exact h3.elim
    |cons y l=>exact⟨h3.1,h3.2.1 (h3.1▸cu e2 sQ),ih l h3.2.2 λz hz=>cu z (by simp[hz])⟩
  ·rw[if_neg gQ,if_neg hk];exact⟨h1,h2 hk,SY.put hv mL.2 h3⟩
 |[],_::_,_,h=>h.elim
 |_::_,[],_,h=>h.elim
theorem agk {kv:κ->Value} {rd:World->XS->Value->α->Prop} {l:List (κ×α)} {k:κ} {a:α} (h:aez w X A b kv rd k l) (hm:qV rd)
  (hv:rd w A v a) (hA: ∀k,A k->X k/\k≠b) (K:xw P kt kv) (ht:P.underlying t=some (.map kt et)) (hX: ∀k,X k->k<w.heap.size)
  (n: ∀w' X',dY (· =b) X w X' w'->dS w' X' A b kv rd (cU k a l)->N undef w' X'):
  eU P R X w true (cR t (.map (some b)) (kv k) v) N:=by
 obtain⟨es,c,h1,h2⟩:=h;refine agd h1 K ht hX λw' X' hg hi=>?_;have hc:dY (· =b) X w X' w':=hg.dT.mono λk _ hk=>by simpa using hk
 refine n w' X' hc ⟨_,_,hi,?_⟩;rw[aco];have mv:Mv A w A w':=λk hk _=>⟨hk,hc.block k (hA k hk).1 (hA k hk).2⟩;exact(h2.put hv h1.2.2.1).mv hm mv
theorem gS {l:List (κ×α)} {k:κ} {a:α} (h:getM k l=some a):(k,a)∈l:=by
 unfold getM at h;obtain⟨x,hx,rfl⟩:=Option.map_eq_some_iff.1 h
 grind
theorem wI {l:List (κ×α)} (hn:(l.map (·.1)).Nodup) {k:κ} {a:α} (h:(k,a)∈l):getM k l=some a:=by
 induction l with
 |nil=>cases h
 |cons x l ih=>
  have mL:=List.nodup_cons.1 hn;rcases List.mem_cons.1 h with h|h
  ·subst h;simp[getM]
  ·have hx:x.1≠k:=λe=>mL.1 (List.mem_map.2 ⟨(k,a),h,e.symm⟩);have:=ih mL.2 h;simp only[getM,fO,hx,decide_false,aW,if_false];exact this
theorem mV {l:List (κ×α)} {k:κ} {a:α} : ∀{x:κ×α},(l.map (·.1)).Nodup->x∈cU k a l->x=(k,a)\/(x∈l/\x.1≠k):=by
 induction l with
 |nil=>grind [cU]
 |cons y l ih=>
  intro x hn h;have mL:=List.nodup_cons.1 hn;unfold cU at h;split at h
  ·rename_i hy;rcases List.mem_cons.1 h with h|h
   ·exact .inl h
   ·exact .inr ⟨by simp[h],λe=>mL.1 (List.mem_map.2 ⟨x,h,e.trans hy.symm⟩)⟩
  ·rename_i hy;rcases List.mem_cons.1 h with h|h
   ·grind
   grind
variable {l : List Value}
theorem Bj {t:TypeId} (hX: ∀k,X k->k<w.heap.size)
  (n: ∀b w' X',w.heap.size<=b->ai X w X' w'->aH w' X' b l t->N (ptr b 0) w' X'):eV P R X w m (ct t (.agg l.toArray)) N:=
 ack hX λb w' X' hb hs hx hr=>n b w' X' hb hs ⟨hx,by assumption⟩
theorem uy {t:TypeId} (ho:one v=true) (hX: ∀k,X k->k<w.heap.size)
  (n: ∀b w' X',w.heap.size<=b->ai X w X' w'->aH w' X' b [v] t->N (ptr b 0) w' X'):eV P R X w m (ct t v) N:=
 ack hX λb w' X' hb hs hx hr=>n b w' X' hb hs ⟨hx,by
  have:v.cells.toList=[v]:=by cases v<;>first|rfl|cases ho
  rw[this] at hr;exact hr⟩
variable {X : XS} {w : World}
def ai.fL (h: ∀k,X k->k<w.heap.size):ai X w X w:=⟨Kp.refl _ _,λ_ h=>h,h⟩
variable {sz : Nat}
theorem anq {S f fo:Nat} {l':List Value} {N:Value->Prop} (hf:fieldInfo P S f=some (fo,sz)) (hg:Zk P S f=some true) (hlen:decide (fo+sz<=l.length)=true) (hl:(l.drop fo).take sz=l')
  (k:N (.agg l'.toArray)):aY P X w (fdV S f fo sz (.agg l.toArray)) N:=by
 subst hl;unfold fieldInfo at hf;unfold Zk at hg;cases hu:P.underlying S with
 |none=>simp[hu] at hf
 |some d=>
  cases d<;>simp only[hu] at hf<;>try (cases hf;done)
  rename_i fs;cases hx:fs[f]? with
  |none=>simp[hx] at hf
  |some x=>
   simp only[hx,cW,hu] at hf hg;cases hi:P.info? x.type with
   |none=>simp[hi] at hf
   |some i=>
    simp only[hi,aZ,aj,cY] at hf;cases hd:P.underlying x.type with
    |none=>simp[hd] at hg
    |some d2=>
     refine bK (v:=.agg ((l.drop fo).take sz).toArray) (λwa=>?_) k;have Ce:(isAgg x.type).run P wa= .ok true wa:=by
      cases d2<;>simp_all [isAgg,run_underlying hd]
     have hle:fo+sz<=l.length:=by simpa using hlen
     obtain⟨rfl,rfl⟩:=hf;simp[fdV,Instr.field,run_underlying hu,hx,asAgg,part,Ce,sizeOf,typeInfo,hi,hle]
variable {f : FuncId}
theorem aoY {la lc:List Value} (hl:la++lc=l) (h:eC P R X w m f l.toArray N):eF P R X w m (.func (.func f) #[] lc.toArray) la.toArray N:=by
 subst hl;have e: ∀wa,(Iv (.func (.func f) #[] lc.toArray) la.toArray).run P wa=(callFunc f (la++lc).toArray).run P wa:=by
  intro wa;simp[Iv,Deferred.ofValue,invoke]
 intro wa hk;have:=h wa hk
 grind
theorem akZ {fn:Fn} {a c:Array Value} {N:Value->Prop} (h:N (.func fn a c)):aY P X w (Instr.makeFunc fn a c) N:=bK (λwa=>by rfl) h
variable {w' : World} {Q : Value -> World -> World -> Prop} {F : XS} {args : Array Value}
theorem Ct.kp (h:Ct P f args w X F Q) (hk:Kp X w w'):Ct P f args w' X F Q:=λwa ah=>h wa (hk.trans ah)
def Ct.since {X':XS} (h:Ct P f args w X F Q) (hs:ai X w X' w'):Ct P f args w' X' F Q:=λwa ah=>h wa (hs.kp.trans (ah.less hs.sub))
def Ct.bP (h:Ct P f args w X F Q) (hX: ∀k,X k->k<w.heap.size):Ct P f args w (aK.bP w) F Q:=
 λwa ah=>h wa (ah.less λk hk=>hX k hk)
def idxOf (p:α->Bool):List α->Int
 |[]=> -1
 |x::l=>if p x then 0 else let i:=idxOf p l;if i<0 then i else i+1
theorem Mj (p:α->Bool): ∀l:List α,decide (idxOf p l>=0)=l.any p
 |[]=>rfl
 |x::l=>by
  have ih:=Mj p l;unfold idxOf
  grind
variable {i : Nat}
theorem Cn {p:α->Bool} {l:List α} (h: ∀k x,k<i->l[k]? =some x->p x=false) {x:α} (hx:l[i]? =some x) (hp:p x=true):idxOf p l=i:=by
 induction l generalizing i with
 |nil=>simp at hx
 |cons y l ih=>
  cases i with
  |zero=>simp only[j5,aj] at hx;subst hx;simp[idxOf,hp]
  |succ i=>
   have hy:=h 0 y zQ rfl;have:=ih (i:=i) (λk z hk hz=>h (k+1) z zQ aQ) aQ;simp only[idxOf,hy,aW,if_false,this];rfl
theorem yI {p:α->Bool} {l:List α} (h: ∀k x,k<l.length->l[k]? =some x->p x=false):idxOf p l= -1:=by
 induction l with
 |nil=>rfl
 |cons y l ih=>
  have hy:=h 0 y sQ rfl;have:=ih λk z hk hz=>h (k+1) z gQ aQ;simp[idxOf,hy,this]
theorem ai.less {Y0:XS} (h:ai X0 w0 X w) (hs: ∀k,Y0 k->X0 k):ai Y0 w0 X w:=⟨h.kp.less hs,λk hk=>h.sub k (hs k hk),h.has⟩
variable {rows : List (List Value)} {cap e g k lo n : Nat}
theorem Own.E9 (h:aH w X g cs e) (gr:lo<=g) (hr: ∀r∈rows,r.length=k) (hn:rows.length=n) (hc:n<=cap) (hm:cap<=maxLen)
  (hl:cs.length=cap*k) (ht:cs.take (n*k)=rows.flatten):Own w X lo e k (.slice (some ⟨g,0,none⟩) n cap) rows:=
 ⟨hr,⟨by rw[kK hr],.inr ⟨g,cap,cs.toArray,by rw[hn],gr,h.2,by omega,hm,by simpa using hl,by grind⟩⟩,λg' hg=>by simp only[iv,aj] at hg;subst hg;exact h.1⟩
theorem Own.row (h:Own w X lo e k v rows):(v= .slice none 0 0/\rows=[])\/
  ∃g cap cs,v= .slice (some ⟨g,0,none⟩) rows.length cap/\lo<=g/\aH w X g cs e/\rows.length<=cap/\cap<=maxLen/\cs.length=cap*k/\cs.take (rows.length*k)=rows.flatten:=by
 obtain⟨h1,h2,h3⟩:=h;rcases h2.2 with⟨rfl,hn⟩|⟨g,cap,cur,rfl,hb,hg,ql,iq,jS,ht⟩
 ·simp_all
 ·exact .inr ⟨g,cap,cur.toList,rfl,hb,⟨h3 g rfl,by omega⟩,ql,iq,by omega,ht⟩
variable {z : Int}
theorem ael {t:TypeId} {N:Value->Prop} (hz:z=i) (hi:i<n) (ht:P.underlying t=some (.slice (P.elem t))) (hs:(P.info? (P.elem t)).map (·.size)=some k) (h:N (ptr g (i*k))):
  aY P X w (nW t k (.slice (some ⟨g,0,none⟩) n cap) (.int .i64 z)) N:=by
 subst hz;refine bK (v:=ptr g (i*k)) (λwa=>?_) h
 show(zl t _ _).run P wa=_
 rw[run_indexAt_slice (h:=ht),if_pos zQ];cases hq:P.info? (P.elem t)with
 |none=>grind
 |some inf=>
  have:inf.size=k:=by simpa [hq] using hs
  simp[sizeOf,typeInfo,hq,this,z8]
theorem CV {o:Nat} (h:aH w X b cs ty) (ht:(P.info? t).map (·.size)=some sz)
  (hl:o+sz<=cs.length) (hv:v.cells.size=sz) (h1:v.cells.toList.all one=true) (hX: ∀k,X k->k<w.heap.size)
  (n: ∀w' X',dY (λk=>k=b) X w X' w'->aH w' X' b (bM cs o v.cells.toList) ty->N undef w' X'):eU P R X w true (st1 t sz (ptr b o) v) N:=
 aiA h ht hl hv h1 hX λw' X' hg hr=>n w' X' (hg.dT.mono λk _ hk=>by grind) hr
theorem Ld {t:TypeId} {a:Option Addr} {N:Value->Prop} (hz:z=i) (hi:i<=cap) (ht:P.underlying t=some (.slice (P.elem t))) (hs:((P.info? (P.elem t)).map (·.size)).isSome=true) (h:N (.slice a i cap)):
  aY P X w (Instr.sliceAt t (.slice a n cap) none (some (.int .i64 z)) none) N:=by
 subst hz;obtain⟨k,hk⟩:=Option.isSome_iff_exists.1 hs;refine bK (v:=.slice a i cap) (λwa=>?_) h;rw[run_sliceAt_slice wa t _ _ _ _ ht,run_slice_h wa t a n cap ht .i64 i zQ zQ];cases hq:P.info? (P.elem t)with
 |none=>grind
 |some inf=>
  have:a.map (λx=>x.add 0)=a:=by cases a<;>rfl
  simp[sizeOf,typeInfo,hq,sliced,this]
variable {P : Program}
def Nl (P:Program) (t e k:Nat):Bool:=match P.underlying t,P.info? e with
 |some (.slice e'),some i=>e'==e&&i.size==k&&(match i.zero with|some z=>z.cells.size==k|none=>false)&&decide (0<k)&&decide (k<=2^20)
 |_,_=>false
theorem UR (h:Nl P t e k=true):P.underlying t=some (.slice e)/\0<k/\k<=2^20/\ ∃z:Value,(P.info? e).bind (λi=>i.zero.map λz=>(i.size,z))=some (k,z):=by
 unfold Nl at h;split at h
 ·rename_i e' i hu hi;simp only[aA,beq_iff_eq,decide_eq_true_eq] at h;obtain⟨⟨⟨⟨rfl,h2⟩,h4⟩,h5⟩,h6⟩:=h;cases hz:i.zero with
  |none=>grind
  |some z=>simp_all
 ·cases h
variable {R : Ending -> World -> Prop} {m : Bool}
theorem QB (hX: ∀k,X k->k<w.heap.size) (he:Nl P t e k=true) (hk:(l.length==k)=true)
  (n: ∀v w' X',ai X w X' w'->Own w' X' w.heap.size e k v [l]->N v w' X'):eV P R X w m (gT t e k 1 #[(0,.agg l.toArray)]) N:=by
 obtain⟨hu,h0,h1,z,hz⟩:=UR he;have ah:l.length=k:=by simpa using hk
 refine Cs (rows:=[l]) l.toArray z hX hu hz zQ zQ ?_ gQ rfl sQ n;simp only[BC];exact FI (x:=.agg l.toArray) aQ sQ
theorem Xm {x:Value} (hX: ∀k,X k->k<w.heap.size) (he:Nl P t e k=true) (ho:one x=true) (hk:(k==1)=true)
  (n: ∀v w' X',ai X w X' w'->Own w' X' w.heap.size e k v [[x]]->N v w' X'):eV P R X w m (gT t e k 1 #[(0,x)]) N:=by
 obtain⟨hu,h0,h1,z,hz⟩:=UR he;have ah:1=k:=by simpa using (beq_iff_eq.1 hk).symm
 have hc:=rG ho;refine Cs (rows:=[[x]]) x.cells z hX hu hz zQ zQ ?_ gQ rfl (by rw[hc];rfl) n;simp only[BC];exact FI gQ sQ
def Nn (P:Program) (t:TypeId):Bool:=match P.underlying t with
 |some (.pointer _)=>true
 |_=>false
theorem GO {t:TypeId} (h:Nn P t=true):P.underlying t=some (.pointer (P.pointee t)):=by grind [Nn,Program.pointee]
variable {a : Addr}
section
variable {N : Value -> Prop} {t : TypeId} {xo yo : Operand}
def ak0 (ht:Nn P t=true) (k:N (.bool false)):aY P X w (dF .eql t xo yo (.pointer (some a)) (.pointer none)) N:=W9 (p:=some a) (GO ht) k
def ak1 (ht:Nn P t=true) (k:N (.bool true)):aY P X w (dF .eql t xo yo (.pointer none) (.pointer none)) N:=W9 (p:=none) (GO ht) k
theorem anr (ht:Nn P t=true) (k:N (.bool true)):aY P X w (dF .neq t xo yo (.pointer (some a)) (.pointer none)) N:=by
 refine bK (λwa=>?_) k;have:=run_neq_pointer_nil (P:=P) (w:=wa) t (some a) (GO ht);assumption
theorem ant (ht:Nn P t=true) (k:N (.bool false)):aY P X w (dF .neq t xo yo (.pointer none) (.pointer none)) N:=by
 refine bK (λwa=>?_) k;have:=run_neq_pointer_nil (P:=P) (w:=wa) t none (GO ht);assumption
end
end Go.aK