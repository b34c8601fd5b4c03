/- Part 2 of the proof. -/
import Derived.Deep.MidRow
import Derived.Laws.StructEq
import Derived.Maps.AppendAt
import Derived.Laws.OwnMore
import Derived.Great.BuildSlice
import Derived.Maps.RangeRun
import Derived.KernelRfl
import Derived.Laws.FloatArith
import Derived.Laws.Slices
import Derived.Laws.Pointers
import Derived.Test.YtgfijddlkhkopaaGreatG1
set_option linter.all false
open Go.Result renaming andThen_ok → aO
open Go.Sem renaming run_bind → bp, run_pure → bO, run → tP
open Go.Value renaming int → aA, cells → bg, agg → ej, ownBlock → iv, string → aP
open Nat renaming le_trans → ad, lt_of_lt_of_le → aw, le_refl → au, zero_add → ff, one_mul → BX, mod_eq_of_lt → fq
open Bool renaming false_eq_true → aW, and_eq_true → aC, not_eq_true' → cW
open Option.some renaming injEq → aj
open Go.Instr renaming checkKey → gT, lookup → bG, fill → rG, sameBits → nh, mapUpdate → cH, entry → pZ, loadAt → jv, buildSlice → jr, box → bT, extract → gB, findKey → ug, findNow → kB, makeMap → fW, range → xy, indexAt → zy, index → BY, findAsking → BZ, keyThatStays → z6
open Array renaming toList → dd, getElem?_setIfInBounds → dK, range → B0, length_toList → fv
open PUnit renaming unit → ni
open List renaming toList_toArray → cM, getElem?_eq_getElem → aS, all → fC, length_cons → aM, findIdx?_cons → mn, find?_cons → fM, length → bf, drop_eq_getElem_cons → kZ, map_cons → aZ, filter_cons → eH, getElem_map → qW, mem_singleton → av, toArray → AJ, getElem?_take → mq, flatten_cons → cV, nil_append → cB, length_append → aa, drop_of_length_le → ko, map_append → az, nodup_append → kW, getElem?_cons_zero → jY, getElem_of_mem → zl
open Option renaming map_some → ba, bind_some → cL, map_none → Cp
open Prod.mk renaming injEq → cN
open Go.Builtin renaming len_ → j9, delete_ → sC, append_ → fg, min_ → ka, min2 → FZ
open Go.Op renaming equalIn → uJ, bytesLess → bY, eqFields → xz
open Go.ByteArray renaming toList_eq → oK
open ForInStep renaming yield → sD
open Go.World renaming ownsRow_lit → Ba
namespace Go.aJ
structure ai (X:XS) (w:World) (X':XS) (w':World):Prop where
 kp:Kp X w w'
 sub: ∀k,X k->X' k
 has: ∀k,X' k->k<w'.heap.size
def ai.init (w:World):ai (bN w) w (bN w) w:=⟨Kp.refl _ _,λ_ h=>h,λ_ h=>h⟩
variable {X Y : XS}
theorem ai.trans {Z:XS} {a b c:World} (h:ai X a Y b) (k:ai Y b Z c):ai X a Z c:=
 ⟨h.kp.trans (k.kp.less h.sub),λi hi=>k.sub i (h.sub i hi),k.has⟩
variable {w w' wa : World}
theorem ai.fb (hX: ∀k,X k->k<w.heap.size) (hk:Kp X w wa) (hx:Ext wa w'):ai X w (grow X wa w') w':=
 ⟨hk.trans (hx.kp λk h=>aw (hX k h) hk.size),λ_ h=>.inl h,
  λk h=>h.elim (λh=>aw (hX k h) (ad hk.size hx.size)) (λh=>h.2)⟩
def ai.ext (h:ai (bN w) w X w') (hk:Kp X w' wa):Ext w wa:=(h.kp.trans (hk.less h.sub)).ext
variable {P : Program} {R : Ending -> World -> Prop} {X : XS} {w : World} {m : Bool}
def Pure (P:Program) (f:FuncId) (args:Array Value) (v:Value):Prop:=
 ∀w,Calls P f args w λe w'=>e= .returned v/\Ext w w'
def apF (P:Program) (f:FuncId) (args:Array Value) (w:World) (Q:Value->World->Prop):Prop:=
 Calls P f args w λe w'=> ∃v,e= .returned v/\Ext w w'/\Q v w'
def enters (P:Program) (f:FuncId):Bool:=match P.funcs[f]? with
 |some fn=>!(fn.name== "runtime.NumGoroutine")&&fn.body.isSome
 |none=>false
variable {f : FuncId}
theorem pe (h:enters P f=true) (args:Array Value) (w:World):(callFunc f args).run P w= .ok (.enter f args) w:=by
 unfold enters at h;split at h
 ·rename_i fn hf;simp only[aC,cW] at h;obtain⟨c,hb⟩:=Option.isSome_iff_exists.1 h.2;have hn: ¬fn.name= "runtime.NumGoroutine" :=by simpa using h.1
  simp[callFunc,hf,hn,hb]
 ·cases h
variable {N : Value -> World -> XS -> Prop} {args : Array Value}
theorem ZS {Q:Value->World->World->Prop}
  (hf:enters P f=true) (hX: ∀k,X k->k<w.heap.size)
  (h: ∀wa,Kp X w wa->apF P f args wa (Q · wa))
  (k: ∀v wa w' X',Kp X w wa->Ext wa w'->(∀k,wa.heap.size<=k->k<w'.heap.size->X' k)->Q v wa w'->ai X w X' w'->N v w' X'):
  eC P R X w m f args N:=by
 refine amq Q (pe hf args) (λwa hk=>?_) λv wa w' hk hx hq=>k v wa w' _ hk hx (λk h1 h2=>.inr ⟨h1,h2⟩) hq (ai.fb hX hk hx);refine(h wa hk).mono ?_;simp_all
variable {v : Value}
theorem acX
  (hf:enters P f=true) (hX: ∀k,X k->k<w.heap.size) (h:Pure P f args v)
  (k: ∀w' X',ai X w X' w'->N v w' X'):eC P R X w m f args N:=by
 refine ZS (Q:=λu _ _=>u=v) hf hX (λwa _=>(h wa).mono ?_) λu wa w' X' _ _ _ hq hs=>hq▸k w' X' hs
 grind
theorem DJ (hf: ∀wa,(callFunc f args).run P wa= .ok (.value v) wa)
  (hX: ∀k,X k->k<w.heap.size) (k: ∀w' X',ai X w X' w'->N v w' X'):eC P R X w m f args N:=by
 intro wa hk;unfold jS;rw[hf wa];exact⟨Step.fb (Ext.refl _),k _ _ (ai.fb hX hk (Ext.refl _))⟩
variable {w0 : World}
theorem fG {u:Value} (hs:ai (bN w0) w0 X w) (h:u=v):fin (λe w'=>e= .returned v/\Ext w0 w') X w u:=
 λ_ hk=>⟨by rw[h],hs.ext hk⟩
variable {P : Program} {R : Ending -> World -> Prop} {X : XS} {w : World} {m : Bool} {N : Value -> Prop}
abbrev ptr (b o:Nat):Value:=.pointer (some ⟨b,o,none⟩)
def Cells (w:World) (X:XS) (b o:Nat) (l:List Value):Prop:=
 X b/\ ∃cs t fr,w.heap[b]? =some (.cells cs t fr)/\ ∀j v,l[j]? =some v->cs[o+j]? =some v
variable {l : List Value} {b o : Nat}
theorem Cells.kp (h:Cells w X b o l) (hk:Kp X w w'):Cells w' X b o l:=by
 obtain⟨hx,cs,t,fr,hb,hc⟩:=h;exact⟨hx,cs,t,fr,by rw[hk.block b hx];exact hb,hc⟩
def Cells.mono (h:Cells w X b o l) (hs: ∀k,X k->Y k):Cells w Y b o l:=⟨hs _ h.1,h.2⟩
def Cells.since (h:Cells w X b o l) (hs:ai X w Y w'):Cells w' Y b o l:=(h.kp hs.kp).mono hs.sub
theorem Cells.range (h:Cells w X b o l):w.rangeAt b o l:=by
 obtain⟨_,cs,t,fr,hb,hc⟩:=h;intro j v hj;rw[cell_of_row w b (o+j) cs t fr hb];exact hc j v hj
theorem Cells.lt (h:Cells w X b o l):b<w.heap.size:=by
 obtain⟨_,cs,t,fr,hb,_⟩:=h
 grind
theorem Cells.part (h:Cells w X b o l) (i n:Nat):Cells w X b (o+i) ((l.drop i).take n):=by
 obtain⟨hx,cs,t,fr,hb,hc⟩:=h;refine⟨hx,cs,t,fr,hb,λj v hj=>?_⟩;rw[mq] at hj;split at hj
 ·rw[List.getElem?_drop] at hj;rw[Nat.add_assoc];exact hc _ v hj
 ·cases hj
variable {t : TypeId}
theorem agL (h:Cells w X b o (v::l)) (hi:lf P t=some (false,1)) (k:N v):
  aX P X w (jv t (ptr b o)) N:=by
 refine HZ v (λwa hk=>?_) k;have hc:wa.cell? ⟨b,o,none⟩=some v:=(h.kp hk).range 0 v rfl;unfold lf at hi;split at hi
 ·rename_i d i hu E7;simp only[aj,cN] at hi;have Cy:(isAgg t).run P wa= .ok false wa:=by
   cases d<;>simp_all [isAgg,run_underlying hu]
  simp[jv,Instr.sureAddr,loadVar,Cy,hc]
 ·cases hi
variable {n : Nat}
theorem agM (h:Cells w X b o l) (hi:lf P t=some (true,n)) (hn:l.length=n) (k:N (.agg l.toArray)):
  aX P X w (jv t (ptr b o)) N:=by
 refine HZ _ (λwa hk=>?_) k;unfold lf at hi;split at hi
 ·rename_i d i hu E7;simp only[aj,cN] at hi;exact run_loadAt_mid wa b o t l d (h.kp hk).range hu gQ gQ
 ·cases hi
variable {sz : Nat}
def HB {S f fo:Nat} (h:fieldInfo P S f=some (fo,sz)) (hz:sz≠0) (k:N (ptr b (o+fo))):aX P X w (Instr.fieldAt S (ptr b o) f) N:=
 bB (λwa=>On h hz b o wa) k
variable {parts : Array (Nat × Value)}
def agN (cells:Array Value) (h:P.built t parts.toList=some cells) (k:N (.agg cells)):
  aX P X w (Instr.build t parts) N:=
 bB (λwa=>run_build wa t parts cells h) k
variable {ty : TypeId}
theorem ai8 {s:ByteArray} (ht:P.underlying t=some .string) (k:N (.int .i64 s.size)):aX P X w (j9 #[t] ty #[.string s]) N:=
 bB (λwa=>by simp[j9,run_underlying ht,goInt]) k
def Sl (w:World) (X:XS) (k:Nat) (v:Value) (rows:List (List Value)):Prop:=
 (∀r∈rows,r.length=k)/\rows.length<=2^63-1/\
 ∃base cap,v= .slice base rows.length cap/\(rows≠[]-> ∃b o,base=some ⟨b,o,none⟩/\Cells w X b o rows.flatten)/\
  (base=none->cap=0)/\rows.length<=cap/\cap<=2^63-1
variable {rows : List (List Value)} {k : Nat}
theorem Sl.mono (h:Sl w X k v rows) (hs: ∀k,X k->Y k):Sl w Y k v rows:=by
 obtain⟨h1,h2,base,cap,hv,hc,hr⟩:=h;exact⟨h1,h2,base,cap,hv,λbU=>let⟨b,o,hb,jG⟩:=hc bU;⟨b,o,hb,jG.mono hs⟩,hr⟩
theorem Sl.kp (h:Sl w X k v rows) (hk:Kp X w w'):Sl w' X k v rows:=by
 obtain⟨h1,h2,base,cap,hv,hc,hr⟩:=h;exact⟨h1,h2,base,cap,hv,λbU=>let⟨b,o,hb,jG⟩:=hc bU;⟨b,o,hb,jG.kp hk⟩,hr⟩
def Sl.since (h:Sl w X k v rows) (hs:ai X w Y w'):Sl w' Y k v rows:=
 (h.kp hs.kp).mono hs.sub
theorem Sl.bN (h:Sl w X k v rows):Sl w (bN w) k v rows:=by
 obtain⟨h1,h2,base,cap,hv,hc,hr⟩:=h;exact⟨h1,h2,base,cap,hv,λbU=>let⟨b,o,hb,jG⟩:=hc bU;⟨b,o,hb,jG.lt,jG.2⟩,hr⟩
theorem Sl.nil (w:World) (X:XS) (k:Nat):Sl w X k (.slice none 0 0) []:=⟨by simp,by simp,none,0,rfl,by simp,by simp,by simp,by simp⟩
theorem Sl.one (h:Sl w X k v rows):one v=true:=by
 obtain⟨_,_,_,_,rfl,_⟩:=h;rfl
theorem My: ∀{rows:List (List Value)},(∀r∈rows,r.length=k)-> ∀{i:Nat} {r:List Value},rows[i]? =some r->
  (rows.flatten.drop (i*k)).take k=r
 |[],_,i,r,h=>by simp at h
 |x::rest,hl,0,r,h=>by simp_all
 |x::rest,hl,i+1,r,h=>by
  have hx:=hl x sQ;rw[cV,List.drop_append,hx,List.drop_eq_nil_of_le gQ];have:(i+1)*k-k=i*k:=by rw[Nat.succ_mul];omega
  rw[this,cB];exact My (λr hr=>hl r (by simp[hr])) gQ
theorem alH (h:Sl w X k v rows) (ht:P.underlying t=some (.slice (P.elem t)))
  (n:N (.int .i64 rows.length)):aX P X w (j9 #[t] ty #[v]) N:=by
 obtain⟨_,_,base,cap,rfl,_⟩:=h;exact bB (λwa=>run_len_slice wa t ty base rows.length cap ht) n
def ai9 {α:Type} {enc:α->List Value} {xs:List α} (h:Sl w X k v (xs.map enc))
  (ht:P.underlying t=some (.slice (P.elem t))) (n:N (.int .i64 xs.length)):aX P X w (j9 #[t] ty #[v]) N:=
 alH h ht gQ
variable {xo yo : Operand} {xs ys : Array Value}
theorem aja {b:Bool} (hm:P.eqGuardType P.depth t=false)
  (h: ∀wa,(uJ 10000 t (.agg xs) (.agg ys)).run P wa= .ok b wa) (k:N (.bool b)):aX P X w (eP .eql t xo yo (.agg xs) (.agg ys)) N:=by
 refine bB (λwa=>?_) k;simp[eP,run_eqGuard_agg wa .eql t xo yo xs ys hm,run_eql_struct,h]
theorem ajb {b:Bool} (hm:P.eqGuardType P.depth t=false)
  (h: ∀wa,(uJ 10000 t (.agg xs) (.agg ys)).run P wa= .ok b wa) (k:N (.bool (!b))):aX P X w (eP .neq t xo yo (.agg xs) (.agg ys)) N:=by
 refine bB (λwa=>?_) k;simp[eP,run_eqGuard_agg wa .neq t xo yo xs ys hm,binOp,Op.equal,Op.maxDepth,h]
variable {a : Int}
theorem wrap_i64 (h1: -(2^63)<=a) (h2:a<2^63):IntKind.i64.wrap a=a:=by
 simp only[IntKind.wrap];first
  |omega
  |(simp[IntKind.bits,IntKind.signed];omega)
variable {P : Program} {R : Ending -> World -> Prop} {X : XS} {w : World} {m : Bool}
structure Grown (X:XS) (w:World) (X':XS) (w':World) (row:Option Nat):Prop where
 os:w'.os=w.os
 tape:w'.tape=w.tape
 output:w'.output=w.output
 size:w.heap.size<=w'.heap.size
 block: ∀k,X k->some k≠row->w'.heap[k]? =w.heap[k]?
 sub: ∀k,X k->X' k
 has: ∀k,X' k->k<w'.heap.size
variable {row : Option Nat}
def ai.grown {X0:XS} (h:ai X0 w0 X w) (g:Grown X w Y w' row) (hr: ∀k,X0 k->some k≠row):ai X0 w0 Y w':=
 ⟨⟨g.os.trans h.kp.os,g.tape.trans h.kp.tape,g.output.trans h.kp.output,ad h.kp.size g.size,
  λk hk=>(g.block k (h.sub k hk) (hr k hk)).trans (h.kp.block k hk)⟩,λk hk=>g.sub k (h.sub k hk),g.has⟩
def Grown.since {F:XS} (g:Grown X w Y w' row) (hf: ∀k,F k->X k) (hr: ∀k,F k->some k≠row):ai F w Y w':=
 ⟨⟨g.os,g.tape,g.output,g.size,λk hk=>g.block k (hf k hk) (hr k hk)⟩,λk hk=>g.sub k (hf k hk),g.has⟩
def Own (w:World) (X:XS) (lo e k:Nat) (v:Value) (rows:List (List Value)):Prop:=
 (∀r∈rows,r.length=k)/\w.ownsRow lo e k v rows.length rows.flatten/\ ∀g,v.ownBlock=some g->X g
theorem Own.nil (w:World) (X:XS) (lo e k:Nat):Own w X lo e k (.slice none 0 0) []:=⟨by simp,World.ownsRow_nil w lo e k,by simp[iv]⟩
variable {e lo : Nat}
theorem Own.sl (h:Own w X lo e k v rows):Sl w X k v rows:=by
 obtain⟨h1,h2,h3⟩:=h;rcases h2.2 with⟨rfl,hn⟩|⟨g,cap,cur,rfl,hb,hg,pV,iH,jG,ht⟩
 ·grind [Sl.nil]
 ·have hm:cap<=2^63-1:=iH;refine⟨h1,ad pV hm,_,cap,rfl,λ_=>⟨g,0,rfl,h3 g rfl,cur,e,(0,0),hg,λj v hj=>?_⟩,by simp,pV,hm⟩;rw[<-ht,mq] at hj;split at hj
  ·simpa using hj
  ·cases hj
theorem Own.kp (h:Own w X lo e k v rows) (hk:Kp X w w'):Own w' X lo e k v rows:=by
 obtain⟨h1,h2,h3⟩:=h;refine⟨h1,⟨h2.1,?_⟩,h3⟩;rcases h2.2 with h|⟨g,cap,cur,rfl,hb,hg,hr⟩
 ·exact .inl h
 ·exact .inr ⟨g,cap,cur,rfl,hb,by rw[hk.block g (h3 g rfl)];exact hg,hr⟩
def Own.mono (h:Own w X lo e k v rows) (hs: ∀k,X k->Y k):Own w Y lo e k v rows:=
 ⟨h.1,h.2.1,λg hg=>hs g (h.2.2 g hg)⟩
def Own.since (h:Own w X lo e k v rows) (hs:ai X w Y w'):Own w' Y lo e k v rows:=
 (h.kp hs.kp).mono hs.sub
theorem Own.low {lo':Nat} (h:Own w X lo e k v rows) (hl:lo'<=lo):Own w X lo' e k v rows:=by
 obtain⟨h1,h2,h3⟩:=h;refine⟨h1,⟨h2.1,?_⟩,h3⟩;rcases h2.2 with h|⟨g,cap,cur,rfl,hb,hr⟩
 ·exact .inl h
 ·exact .inr ⟨g,cap,cur,rfl,ad hl hb,hr⟩
def Own.ge (h:Own w X lo e k v rows) {g:Nat} (hg:v.ownBlock=some g):lo<=g/\g<w.heap.size:=h.2.1.lt g hg
def Own.tight (h:Own w X lo e k v rows):Own w (λg=>lo<=g/\g<w.heap.size) lo e k v rows:=
 ⟨h.1,h.2.1,λ_ hg=>h.ge hg⟩
theorem lS: ∀{rows:List (List Value)},(∀r∈rows,r.length=k)->rows.flatten.length=rows.length*k
 |[],_=>by simp
 |r::rs,h=>by
  rw[cV,aa,h r sQ,lS λr hr=>h r (by simp[hr]),aM,Nat.succ_mul,Nat.add_comm]
theorem CN {t len:Nat} {N:Value->World->XS->Prop} (cells:Array Value) (z:Value)
  (hX: ∀k,X k->k<w.heap.size) (hu:P.underlying t=some (.slice e)) (hz:(P.info? e).bind (λi=>i.zero.map λz=>(i.size,z))=some (k,z))
  (Zd:0<len*k) (R3:len*k<=2^24)
  (h:rG (λi=>some (i*k,k)) ((B0 (len*k)).map (z.cells[· % z.cells.size]!)) parts.toList=some cells)
  (Df: ∀r∈rows,r.length=k) (hlen:rows.length=len) (hc:cells.toList=rows.flatten)
  (n: ∀v w' X',ai X w X' w'->Own w' X' w.heap.size e k v rows->N v w' X'):eV P R X w m (jr t len parts) N:=by
 intro wa hk;cases hq:P.info? e with
 |none=>grind
 |some ie=>
  cases tZ:ie.zero with
  |none=>grind
  |some z'=>
   simp only[hq,tZ,cL,ba,aj,cN] at hz;obtain⟨rfl,rfl⟩:=hz;have hr:=run_buildSlice (P:=P) wa t e len parts cells ie z' hu hq tZ zQ zQ h;unfold jS;simp only[vS,bp,hr,aO,bO];have hx:Ext wa (wa.alloc (.cells cells e)):=Ext.alloc _ _;have jG:cells.size=len*ie.size:=by
    have:=congrArg bf hc;simp only[fv] at this;rw[this,lS Df,hlen]
   have apG:0<ie.size:=Nat.pos_of_ne_zero λe=>by grind
   have hle:len<=2^24:=ad (Nat.le_mul_of_pos_right len apG) R3;have uy:=Ba (e:=e) (base:=w.heap.size) (size:=ie.size) wa cells len hk.size (by simp only[maxLen];omega) jG;refine⟨Step.fb hx,n _ _ _ (ai.fb hX hk hx) ⟨Df,by grind,λg hg=>?_⟩⟩;simp only[iv,aj] at hg;subst hg;exact .inr ⟨au _,by simp⟩
theorem agO {t:Nat} {N:Value->World->XS->Prop} (hX: ∀k,X k->k<w.heap.size) (hu:P.underlying t=some (.slice e)) (hz:(P.info? e).map (·.size)=some k)
  (n: ∀v w' X',ai X w X' w'->Own w' X' w.heap.size e k v []->N v w' X'):eV P R X w m (jr t 0 #[]) N:=by
 intro wa hk;cases hq:P.info? e with
 |none=>grind
 |some ie=>
  unfold jS;have hr:(jr t 0 #[]).run P wa= .ok (.slice (some ⟨wa.heap.size,0,none⟩) 0 0) (wa.alloc (.cells #[] e)):=by
   simp[jr,run_underlying hu,sizeOf,typeInfo,hq,rG,newRow];have Ls: ∀f:Nat->Value,Array.map f (B0 0)= #[]:=λf=>Array.eq_empty_of_size_eq_zero sQ;rw[Ls]
  simp only[vS,bp,hr,aO,bO];have hx:Ext wa (wa.alloc (.cells #[] e)):=Ext.alloc _ _;have uy:=Ba (e:=e) (base:=w.heap.size) (size:=k) wa #[] 0 hk.size zQ sQ;refine⟨Step.fb hx,n _ _ _ (ai.fb hX hk hx) ⟨by simp,uy,λg hg=>?_⟩⟩;simp only[iv,aj] at hg;subst hg;exact .inr ⟨au _,by simp⟩
theorem Sl.src (h:Sl w X k v rows):
  v= .slice none 0 0/\rows=[]\/ ∃a cap,v= .slice (some a) rows.length cap/\ ∀j u,rows.flatten[j]? =some u->w.cell? (a.add j)=some u:=by
 obtain⟨h1,h2,base,cap,rfl,hc,hn,hle,_⟩:=h;cases base with
 |none=>
  grind
 |some a=>
  refine .inr ⟨a,cap,rfl,λj u hj=>?_⟩;cases rows with
  |nil=>simp at hj
  |cons r rs=>
   obtain⟨b,o,hb,jG⟩:=hc sQ;cases hb;rw[Aw];exact jG.range j u hj
theorem DK {t ty bytes:Nat} {s:Value} {cT:List (List Value)} {N:Value->World->XS->Prop} (z:Value)
  (hu:P.underlying t=some (.slice e)) (hi:(P.info? e).bind (λi=>i.zero.map λz=>(i.size,i.bytes,z))=some (k,bytes,z)) (uI:z.cells.size=k) (iq:0<k)
  (hX: ∀k,X k->k<w.heap.size) (gy:lo<=w.heap.size) (own:Own w X lo e k v rows) (src:Sl w X k s cT) (h1: ∀r∈cT,∀u∈r,one u=true)
  (hb:(rows.length+cT.length)*bytes<=140737488355328) (hl:rows.length+cT.length<=2^63-1)
  (n: ∀v' w' X',Grown X w X' w' v.ownBlock->Own w' X' lo e k v' (rows++cT)->(v'.ownBlock=v.ownBlock\/ ∃g,v'.ownBlock=some g/\w.heap.size<=g)->N v' w' X'):
  eV P R X w true (fg #[t,t] ty #[v,s]) N:=by
 intro wa hk;have own:=own.kp hk;have src:=src.kp hk;cases hq:P.info? e with
 |none=>grind
 |some ie=>
  cases tZ:ie.zero with
  |none=>grind
  |some z'=>
   simp only[hq,tZ,cL,ba,aj,cN] at hi;obtain⟨rfl,rfl,rfl⟩:=hi;unfold jS;rcases src.src with⟨rfl,rfl⟩|⟨a,cap,rfl,Dg⟩
   ·have hr:=run_append_owned_none (P:=P) (w:=wa) lo t ty e ie ie.size hu hq v rows.length rows.flatten own.2.1;simp only[vS,bp,hr,aO,bO];have hx:=Ext.refl wa;have hs:=ai.fb hX hk hx;refine⟨Step.fb hx,n _ _ _ ⟨hs.kp.os,hs.kp.tape,hs.kp.output,hs.kp.size,λk h _=>hs.kp.block k h,hs.sub,hs.has⟩ ?_ (.inl rfl)⟩;rw[List.append_nil];exact own.mono (λk h=>Or.inl h)
   ·have sE:cT.flatten.length=cT.length*ie.size:=lS src.1;obtain⟨v',w',hr,uy,hg,_,dg⟩:=run_append_own_at (P:=P) wa lo t ty e ie z' ie.size ie.bytes hu hq tZ rfl rfl uI iq v rows.length rows.flatten own.2.1
     a cT.length cap cT.flatten sE Dg (λu hu=>by
      obtain⟨r,hr,hur⟩:=List.mem_flatten.1 hu;rw[<-QH];exact h1 r hr u hur) hl hb (ad gy hk.size)
    simp only[vS,bp,hr,aO,bO];refine⟨⟨hg.os,hg.tape,hg.output,hg.size,λk xq nD=>hg.block k xq λe=>nD (own.2.2 k e.symm)⟩,n _ _ _ ?_ ⟨?_,?_,?_⟩ ?_⟩
    ·exact⟨hg.os.trans hk.os,hg.tape.trans hk.tape,hg.output.trans hk.output,ad hk.size hg.size,
      λk hx bU=>(hg.block k (aw (hX k hx) hk.size) bU).trans (hk.block k hx),λk h=>.inl h,
      λk h=>h.elim (λh=>aw (hX k h) (ad hk.size hg.size)) (λh=>h.2)⟩
    ·intro r hr;rcases List.mem_append.1 hr with h|h
     ·exact own.1 r h
     ·exact src.1 r h
    ·rw[aa,List.flatten_append];omega
    ·intro g Ku;rcases dg with h|h
     ·exact .inl (own.2.2 g (h▸Ku))
     ·rw[Ku] at h;cases h;exact .inr ⟨au _,(uy.lt _ Ku).2⟩
    ·rcases dg with h|h
     ·exact .inl h
     ·exact .inr ⟨_,h,hk.size⟩
theorem P6 {e:TypeId} (ht:P.underlying t=some (.slice e)) (d:Nat) (base:Option Addr) (n c:Nat) (w:World):
  (uJ (d+1) t (.slice base n c) (.slice none 0 0)).run P w= .ok base.isNone w:=by
 cases base<;>simp[uJ,run_underlying ht]
theorem ZT {e:TypeId} {base:Option Addr} {c:Nat} {N:Value->Prop} (ht:P.underlying t=some (.slice e)) (h:N (.bool base.isNone)):
  aX P X w (eP .eql t xo yo (.slice base n c) (.slice none 0 0)) N:=by
 refine bB (λwa=>?_) h;have:(Op.equal t (.slice base n c) (.slice none 0 0)).run P wa= .ok base.isNone wa:=P6 ht 9999 base n c wa;simp[eP,eqGuard,binOp,this]
def NG (P:Program):List Field->Nat->Bool
 |[],_=>true
 |f::r,i=>f.name != "_" &&(match P.underlying f.type with|some (.int _)=>true|_=>false)&&f.offset==i&&NG P r (i+1)
theorem Er (w:World) (d:Nat) (as bs:List Int): ∀(fs:List Field) (i:Nat),NG P fs i=true->as.length=i+fs.length->bs.length=i+fs.length->
  (xz (d+1) (as.map (aA .i64)).toArray (bs.map (aA .i64)).toArray fs).run P w= .ok (decide (as.drop i=bs.drop i)) w
 |[],i,_,ha,hb=>by
  simp only[List.length_nil,Nat.add_zero] at ha hb;rw[ko zQ,ko zQ];simp[xz]
 |f::r,i,h,ha,hb=>by
  simp only[NG,aC,bne_iff_ne,ne_eq,beq_iff_eq] at h;obtain⟨⟨⟨hn,hu⟩,ho⟩,hr⟩:=h;simp only[aM] at ha hb;have hia:i<as.length:=by omega
  have hib:i<bs.length:=by omega
  cases hd:P.underlying f.type with
  |none=>simp[hd] at hu
  |some ty=>
   cases ty<;>simp only[hd,aW] at hu
   rename_i q;have Cy:(isAgg f.type).run P w= .ok false w:=by simp[isAgg,run_underlying hd]
   have ZU:(part f.type (as.map (aA .i64)).toArray f.offset).run P w= .ok (.int .i64 as[i]) w:=by
    simp[part,Cy,ho,hia]
   have Il:(part f.type (bs.map (aA .i64)).toArray f.offset).run P w= .ok (.int .i64 bs[i]) w:=by
    simp[part,Cy,ho,hib]
   have ih:=Er w d as bs r (i+1) hr zQ zQ;have hk:(as.drop i=bs.drop i)↔(as[i]=bs[i]/\as.drop (i+1)=bs.drop (i+1)):=by
    rw[kZ hia,kZ hib,List.cons.injEq]
   simp only[hk];clear hk;by_cases he:as[i]=bs[i]
   ·simp[xz,hn,ZU,Il,run_equalIn_int w d f.type .i64 q _ _ hd,he,ih]
   ·simp[xz,hn,ZU,Il,run_equalIn_int w d f.type .i64 q _ _ hd,he]
def jC (P:Program) (t n:Nat):Bool:=match P.underlying t with
 |some (.struct fs)=>fs.toList.length==n&&NG P fs.toList 0&&!P.stoodInHeld t&&!P.eqGuardType P.depth t
 |_=>false
theorem CO {t:Nat} (h:jC P t n=true) (as bs:List Int) (ha:as.length=n) (hb:bs.length=n) (w:World):
  (uJ 10000 t (.agg (as.map (aA .i64)).toArray) (.agg (bs.map (aA .i64)).toArray)).run P w= .ok (decide (as=bs)) w:=by
 unfold jC at h;split at h
 ·rename_i fs hu;simp only[aC,beq_iff_eq,cW] at h;have hf:P.fieldsOf t=fs:=by simp[Program.fieldsOf,hu]
  rw[run_equalIn_struct w 9999 t _ _ gQ h.1.2,hf];have:=Er (P:=P) w 9998 as bs fs.toList 0 h.1.1.2 zQ zQ;assumption
 ·cases h
theorem G5 {t:Nat} (h:jC P t n=true):P.eqGuardType P.depth t=false:=by
 unfold jC at h
 grind
variable {a' b' c c' : Int}
theorem Jh {N:Value->Prop} {b:Int} (h:jC P t 3=true) (k:N (.bool (decide (a=a'/\b=b'/\c=c')))):
  aX P X w (eP .eql t xo yo (.agg #[.int .i64 a,.int .i64 b,.int .i64 c]) (.agg #[.int .i64 a',.int .i64 b',.int .i64 c'])) N:=
 aja (b:=decide (a=a'/\b=b'/\c=c')) (G5 h) (λwa=>by
  have:=CO h [a,b,c] [a',b',c'] rfl rfl wa;simpa using this) k
theorem ajc {N:Value->Prop} {b:Int} (h:jC P t 3=true) (k:N (.bool (!decide (a=a'/\b=b'/\c=c')))):
  aX P X w (eP .neq t xo yo (.agg #[.int .i64 a,.int .i64 b,.int .i64 c]) (.agg #[.int .i64 a',.int .i64 b',.int .i64 c'])) N:=
 ajb (b:=decide (a=a'/\b=b'/\c=c')) (G5 h) (λwa=>by
  have:=CO h [a,b,c] [a',b',c'] rfl rfl wa;simpa using this) k
theorem acY {N:Value->World->XS->Prop} (hX: ∀k,X k->k<w.heap.size)
  (n: ∀b w' X',w.heap.size<=b->ai X w X' w'->X' b->w'.heap[b]? =some (.cells v.cells.toList.toArray t (0,0))->N (ptr b 0) w' X'):eV P R X w m (bT t v) N:=by
 intro wa hk;unfold jS;have hr:(bT t v).run P wa= .ok (ptr wa.heap.size 0) (wa.alloc (.cells v.cells t)):=by simp[bT,newVar,newRow]
 simp only[vS,bp,hr,aO,bO];have hx:Ext wa (wa.alloc (.cells v.cells t)):=Ext.alloc _ _;exact⟨Step.fb hx,n _ _ _ hk.size (ai.fb hX hk hx) (.inr ⟨au _,by simp⟩) (by simpa using heap_alloc_new wa _)⟩
def aI (w:World) (X:XS) (b:Nat) (cs:List Value) (ty:TypeId):Prop:=X b/\w.heap[b]? =some (.cells cs.toArray ty (0,0))
variable {cs : List Value}
theorem aI.kp (h:aI w X b cs ty) (hk:Kp X w w'):aI w' X b cs ty:=⟨h.1,by rw[hk.block b h.1];exact h.2⟩
def aI.mono (h:aI w X b cs ty) (hs: ∀k,X k->Y k):aI w Y b cs ty:=⟨hs _ h.1,h.2⟩
def aI.since (h:aI w X b cs ty) (hs:ai X w Y w'):aI w' Y b cs ty:=(h.kp hs.kp).mono hs.sub
theorem aI.cells (h:aI w X b cs ty):Cells w X b 0 cs:=⟨h.1,_,_,_,h.2,λj v hj=>by grind⟩
theorem ajd {t:Nat} {N:Value->World->XS->Prop} (h:aI w X b cs ty) (ht:(P.info? t).map (·.size)=some sz)
  (hl:o+sz<=cs.length) (hv:v.cells.size=sz) (h1:v.cells.toList.all one=true) (hX: ∀k,X k->k<w.heap.size)
  (n: ∀w' X',Grown X w X' w' (some b)->aI w' X' b (dr cs o v.cells.toList) ty->N undef w' X'):eU P R X w true (Instr.storeAt t (ptr b o) v) N:=by
 intro wa hk;have hb:=(h.kp hk).2;unfold jS;have hr:=Oo (P:=P) ht hb o zQ v hv h1;simp only[eB] at hr;simp only[uS,bp,hr,aO,bO];have gf:(wa.setRow b (dr cs o v.cells.toList).toArray).heap.size=wa.heap.size:=by simp
 refine⟨⟨rfl,rfl,rfl,by omega,λk _ hx=>setRow_other wa b k _ λe=>hx (e▸h.1)⟩,n _ _ ?_ ⟨.inl h.1,setRow_heap wa b _ _ ty _ hb⟩⟩;refine⟨hk.os,hk.tape,hk.output,by rw[gf];exact hk.size,λk hx bU=>?_,λk h=>.inl h,λk h=>?_⟩
 ·rw[setRow_other wa b k _ (λe=>bU (by rw[e])),hk.block k hx]
 ·rw[gf];exact h.elim (λh=>aw (hX k h) hk.size) (λh=>by omega)
variable {P : Program} {α : Type}
end Go.aJ
namespace Go.aJ
variable {P : Program} {R : Ending -> World -> Prop} {X : XS} {w : World} {m : Bool} {κ : Type} [DecidableEq κ]
abbrev jy (κ:Type):=κ×Value×Nat
def lL (kv:κ->Value) (x:jy κ):MapEntry:=⟨kv x.1,x.2.1,x.2.2⟩
def tw (k:κ):List (jy κ)->Nat->Option (Nat×Value)
 |[],_=>none
 |x::r,i=>if k=x.1 then some (i,x.2.1)else tw k r (i+1)
structure xA (P:Program) (kt:TypeId) (kv:κ->Value):Prop where
 jg: ∀e k w,(gT e 10000 kt (kv k)).run P w= .ok () w
 find: ∀k (l:List (jy κ)) w,(ug kt (kv k) (l.map (lL kv))).run P w= .ok (tw k l 0) w
 same: ∀k,nh 10000 (kv k) (kv k)=true
theorem Mz (a b:ByteArray):(a==b)=decide (a=b):=by
 rw[beq_toListBytes];have:a.toList=b.toList↔a=b:=by
  constructor
  ·intro h;rw[oK,oK] at h;obtain⟨⟨x⟩⟩:=a;simp_all
  ·grind
 grind
theorem KO {kt:TypeId} (h:P.underlying kt=some .string) (e:Bool) (n:Nat) (k:ByteArray) (w:World):
  (gT e (n+1) kt (.string k)).run P w= .ok () w:=by simp[gT,run_underlying h]
theorem P7 {kt:TypeId} {fs:Array Field} (h:P.underlying kt=some (.struct fs)) (e:Bool) (n:Nat) (cs:Array Value) (w:World)
  (hr:(forIn fs ni λf (_:PUnit)=>(if f.name≠ "_" then(do
    let v<-part f.type cs f.offset
    gT e n f.type v
    pure (sD ni))
   else pure (sD ni):Sem (ForInStep PUnit))).run P w= .ok ni w):
  (gT e (n+1) kt (.agg cs)).run P w= .ok () w:=by
 simp only[gT,bp,run_underlying h,aO];exact(congrArg (λr=>r.andThen λ_ w'=>tP P (Pure.pure ()) w') hr).trans rfl
theorem Jj {kt:TypeId} (h:P.underlying kt=some .string):xA P kt (λs:ByteArray=>aP s) where
 jg e k w:=KO h e 9999 k w
 find k l w:=by
  have: ∀(l:List (jy ByteArray)) (i:Nat),kB .string (.string k) (l.map (lL λs=>aP s)) i=some (tw k l i):=by
   intro l
   induction l with
   |nil=>intro i;rfl
   |cons x r ih=>
    intro i;by_cases hk:k=x.1
    ·simp[kB,lL,Instr.sameNow,tw,hk,Mz]
    ·simp[kB,lL,Instr.sameNow,tw,hk,ih,Mz]
  simp[ug,run_underlying h,this]
 same k:=by simp[nh,Mz]
theorem Es (w:World) (e:Bool) (d:Nat) (as:List Int): ∀(fs:List Field) (i:Nat),NG P fs i=true->as.length=i+fs.length->
  (forIn fs ni λf (_:PUnit)=>(if f.name≠ "_" then(do
    let v<-part f.type (as.map (aA .i64)).toArray f.offset
    gT e (d+1) f.type v
    pure (sD ni))
   else pure (sD ni):Sem (ForInStep PUnit))).run P w= .ok ni w
 |[],i,_,_=>by simp
 |f::r,i,h,ha=>by
  simp only[NG,aC,bne_iff_ne,ne_eq,beq_iff_eq] at h;obtain⟨⟨⟨hn,hu⟩,ho⟩,hr⟩:=h;simp only[aM] at ha;have hia:i<as.length:=by omega
  cases hd:P.underlying f.type with
  |none=>simp[hd] at hu
  |some ty=>
   cases ty<;>simp only[hd,aW] at hu
   rename_i q;have Cy:(isAgg f.type).run P w= .ok false w:=by simp[isAgg,run_underlying hd]
   have ZU:(part f.type (as.map (aA .i64)).toArray f.offset).run P w= .ok (.int .i64 as[i]) w:=by
    simp[part,Cy,ho,hia]
   have BB:(gT e (d+1) f.type (.int .i64 as[i])).run P w= .ok () w:=by
    simp[gT,run_underlying hd]
   have ih:=Es w e d as r (i+1) hr zQ;rw[List.forIn_cons];simp only[ne_eq,hn,not_false_eq_true,if_true,bp,ZU,BB,aO,bO];exact ih
theorem Wd (d:Nat) (as:List Int):nh (d+1) (.agg (as.map (aA .i64)).toArray) (.agg (as.map (aA .i64)).toArray)=true:=by
 have: ∀l:List Int,((l.map (aA .i64)).zip (l.map (aA .i64))).all (λ(x,y)=>nh d x y)=true:=by
  intro l
  induction l with
  |nil=>rfl
  |cons x r ih=>
   simp only[aZ,List.zip_cons_cons,List.all_cons,ih,Bool.and_true]
   grind [nh]
 simp[nh,this]
variable {kt n : Nat}
theorem aje (h:jC P kt n=true) (as:κ->List Int) (hlen: ∀k,(as k).length=n) (ar0: ∀a b,as a=as b->a=b):
  xA P kt (λk:κ=>ej ((as k).map (aA .i64)).toArray) where
 jg e k w:=by
  unfold jC at h;split at h
  ·rename_i fs hu;simp only[aC,beq_iff_eq,cW] at h;have hr:=Es (P:=P) w e 9998 (as k) fs.toList 0 h.1.1.2 gQ;rw[Array.forIn_toList] at hr;exact P7 hu e 9999 _ w hr
  ·cases h
 find k l w:=by
  have h0:=h;unfold jC at h0;split at h0
  ·rename_i fs hu;have ar1: ∀(l:List (jy κ)) (i:Nat),(BZ kt (.agg ((as k).map (aA .i64)).toArray) (l.map (lL λk=>ej ((as k).map (aA .i64)).toArray)) i).run P w= .ok (tw k l i) w:=by
    intro l
    induction l with
    |nil=>intro i;rfl
    |cons x r ih=>
     intro i;simp only[aZ,BZ,lL,Op.equal,Op.maxDepth,bp,(CO h (as k) (as x.1) (hlen _) (hlen _) w),aO,tw];by_cases hk:k=x.1
     ·subst hk;simp
     ·have: ¬as k=as x.1:=λe=>hk (ar0 _ _ e);simp only[this,decide_false,aW,if_false,hk];exact ih _
   cases l with
   |nil=>simp[ug,run_underlying hu,kB,tw]
   |cons x r=>
    have:=ar1 (x::r) 0;simp only[ug,bp,run_underlying hu,aO];assumption
  ·cases h0
 same k:=Wd 9999 (as k)
def mB (w:World) (X:XS) (b:Nat) (kv:κ->Value) (es:List (jy κ)) (clock:Nat):Prop:=
 X b/\w.heap[b]? =some (.map (es.map (lL kv)).toArray clock)/\(es.map (·.1)).Nodup/\(es.map (·.2.2)).Nodup/\ ∀x∈es,x.2.2<clock
variable {w' : World} {b c : Nat}
theorem mB.kp {kv:κ->Value} {es:List (jy κ)} (h:mB w X b kv es c) (hk:Kp X w w'):mB w' X b kv es c:=
 ⟨h.1,by rw[hk.block b h.1];exact h.2.1,h.2.2⟩
variable {Y : XS}
def mB.mono {kv:κ->Value} {es:List (jy κ)} (h:mB w X b kv es c) (hs: ∀k,X k->Y k):mB w Y b kv es c:=⟨hs _ h.1,h.2⟩
def mB.since {kv:κ->Value} {es:List (jy κ)} (h:mB w X b kv es c) (hs:ai X w Y w'):mB w' Y b kv es c:=
 (h.kp hs.kp).mono hs.sub
def HC (k:κ) (es:List (jy κ)):Option Value:=(es.find? λx=>decide (x.1=k)).map (·.2.1)
theorem P8 (k:κ): ∀(es:List (jy κ)) (i:Nat),tw k es i=(es.findIdx? λx=>decide (x.1=k)).bind λj=>(es[j]?).map λx=>(i+j,x.2.1)
 |[],i=>rfl
 |x::r,i=>by
  unfold tw;by_cases h:k=x.1
  ·grind
  ·rw[if_neg h,P8 k r (i+1)];have h': ¬x.1=k:=λe=>h e.symm;simp only[mn,h',decide_false,aW,if_false];cases r.findIdx? λx=>decide (x.1=k)with
   |none=>rfl
   |some j=>simp[Nat.add_assoc,Nat.add_comm 1 j]
theorem Vz (k:κ): ∀(es:List (jy κ)) (i:Nat),(tw k es i).map (·.2)=HC k es
 |[],i=>rfl
 |x::r,i=>by
  unfold tw HC;by_cases h:k=x.1
  ·simp[h]
  ·have h': ¬x.1=k:=λe=>h e.symm;rw[if_neg h,Vz k r (i+1)];simp[HC,h']
variable {et : Nat}
theorem aeX {t:Nat} {kv:κ->Value} {es:List (jy κ)} {k:κ} {N:Value->Prop} (z:Value) (h:mB w X b kv es c) (K:xA P kt kv)
  (ht:P.underlying t=some (.map kt et)) (hz:(P.info? et).bind (·.zero)=some z)
  (n:N (.tuple #[(HC k es).getD z,.bool (HC k es).isSome])):aX P X w (bG t (.map (some b)) (kv k) true) N:=by
 refine HZ _ (λwa hk=>?_) n;cases hi:P.info? et with
 |none=>grind
 |some inf=>
  have uX:inf.zero=some z:=by simpa [hi] using hz
  have hg:=Vz k es 0;simp only[bG,bp,run_underlying ht,aO,getObj,tP,((h.kp hk).2.1),K.jg,cM,K.find];cases hf:tw k es 0 with
  |none=>
   rw[hf] at hg;simp only[Cp] at hg;simp[zeroValue,typeInfo,hi,uX,<-hg,K.find,hf]
  |some r=>
   rw[hf] at hg;simp only[ba] at hg;simp[<-hg,K.find,hf]
variable {N : Value -> World -> XS -> Prop} {t : TypeId}
theorem aeY {kv:κ->Value} (hX: ∀k,X k->k<w.heap.size)
  (n: ∀b w' X',w.heap.size<=b->ai X w X' w'->mB w' X' b kv [] 0->N (.map (some b)) w' X'):eV P R X w m (fW t none) N:=by
 intro wa hk;unfold jS;have hr:(fW t none).run P wa= .ok (.map (some wa.heap.size)) (wa.alloc (.map #[] 0)):=by simp[fW]
 simp only[vS,bp,hr,aO,bO];have hx:Ext wa (wa.alloc (.map #[] 0)):=Ext.alloc _ _;exact⟨Step.fb hx,n _ _ _ hk.size (ai.fb hX hk hx) ⟨.inr ⟨au _,by simp⟩,by simpa using heap_alloc_new wa _,by simp,by simp,by simp⟩⟩
open Go.ChangeMaps (setBlock)
variable {wa : World}
theorem MA {o:Obj} (hX: ∀k,X k->k<w.heap.size) (hk:Kp X w wa):Grown X w (grow X wa (setBlock wa b o)) (setBlock wa b o) (some b):=by
 have hs:(setBlock wa b o).heap.size=wa.heap.size:=by simp[setBlock]
 refine⟨hk.os,hk.tape,hk.output,by rw[hs];exact hk.size,λk hx bU=>?_,λk h=>.inl h,λk h=>?_⟩
 ·rw[<-hk.block k hx];have:b≠k:=λe=>bU (by rw[e]);simp[setBlock,dK,this]
 ·rw[hs];exact h.elim (λh=>aw (hX k h) hk.size) (λh=>by omega)
theorem ZV {o:Obj} (hb:X b):Fr X wa (setBlock wa b o):=by
 refine⟨rfl,rfl,rfl,by simp[setBlock],λk _ hx=>?_⟩;have:b≠k:=λe=>hx (e▸hb);simp[setBlock,dK,this]
theorem Lq {o:Obj} (hb:b<wa.heap.size):(setBlock wa b o).heap[b]? =some o:=by
 simp[setBlock,dK,hb]
theorem run_setObj_map {es:Array MapEntry} (hb:wa.heap[b]? =some (.map es c)) (o:Obj):(setObj b o).run P wa= .ok () (setBlock wa b o):=by
 simp[setObj,tP,hb,setBlock]
def HD (k:κ) (v:Value) (c:Nat) (es:List (jy κ)):List (jy κ)×Nat:=
 match es.findIdx? λx=>decide (x.1=k)with
 |some i=>(es.modify i λx=>(x.1,v,x.2.2),c)
 |none=>(es++[(k,v,c)],c+1)
theorem CP {β γ:Type} (g:β->γ) (f:β->β) (hf: ∀x,g (f x)=g x): ∀(l:List β) (i:Nat),(l.modify i f).map g=l.map g
 |[],i=>by simp
 |x::r,0=>by simp[hf]
 |x::r,i+1=>by simp[CP g f hf r i]
theorem mem_modify {β:Type} {f:β->β} : ∀{l:List β} {i:Nat} {y:β},y∈l.modify i f-> ∃x∈l,y=x\/y=f x
 |[],i,y,h=>by simp at h
 |x::r,0,y,h=>by grind
 |x::r,i+1,y,h=>by
  simp only[List.modify_succ_cons,List.mem_cons] at h;rcases h with h|h
  ·grind
  ·obtain⟨z,hz,he⟩:=mem_modify h
   grind
variable {v : Value}
theorem agP {t:Nat} {kv:κ->Value} {es:List (jy κ)} {k:κ} (h:mB w X b kv es c) (K:xA P kt kv)
  (ht:P.underlying t=some (.map kt et)) (hX: ∀k,X k->k<w.heap.size)
  (n: ∀w' X',Grown X w X' w' (some b)->mB w' X' b kv (HD k v c es).1 (HD k v c es).2->N undef w' X'):
  eU P R X w true (cH t (.map (some b)) (kv k) v) N:=by
 intro wa hk;have hM:=h.kp hk;have hb:=hM.2.1;have cx:b<wa.heap.size:=(Array.getElem?_eq_some_iff.1 hb).1;unfold jS;have hr:(cH t (.map (some b)) (kv k) v).run P wa= .ok () (setBlock wa b (.map ((HD k v c es).1.map (lL kv)).toArray (HD k v c es).2)):=by
  simp only[cH,bp,run_underlying ht,aO,getObj,tP,hb,K.jg,cM,K.find,P8];unfold HD;cases hf:es.findIdx? λx=>decide (x.1=k)with
  |none=>simp[run_setObj_map hb,lL]
  |some j=>
   have hj:=List.findIdx?_eq_some_iff_getElem.1 hf;obtain⟨Ij,Lb,_⟩:=hj;have anR:es[j].1=k:=by simpa using Lb
   simp only[cL,aS Ij,ba,ff,bp];have fO:(z6 (((es.map (lL kv)).toArray[j]?).map (·.key)|>.getD (kv k)) (kv k)).run P wa= .ok (kv k) wa:=by
    simp[z6,Ij,lL,anR,K.same]
   rw[fO];simp only[aO,run_setObj_map hb]
   congr 3
   rw[List.modify_toArray]
   congr 1
   apply List.ext_getElem?;intro q;simp only[List.getElem?_modify,List.getElem?_map];by_cases hq:j=q
   ·subst hq;simp[aS Ij,lL,anR]
   ·simp[hq]
 simp only[uS,bp,hr,aO,bO];refine⟨ZV hM.1,n _ _ (MA hX hk) ⟨.inl h.1,Lq cx,?_,?_,?_⟩⟩
 ·unfold HD;cases hf:es.findIdx? λx=>decide (x.1=k)with
  |none=>
   simp only[az,aZ,List.map_nil];rw[kW];refine⟨h.2.2.1,by simp,λa ha y hy=>?_⟩;simp only[av] at hy;subst hy;rintro rfl;obtain⟨x,hx,rfl⟩:=List.mem_map.1 ha;have:=List.findIdx?_eq_none_iff.1 hf x hx;simp at this
  |some j=>simp only;rw[CP (λx:jy κ=>x.1) (λx=>(x.1,v,x.2.2)) (λ_=>rfl)];exact h.2.2.1
 ·unfold HD;cases hf:es.findIdx? λx=>decide (x.1=k)with
  |none=>
   simp only[az,aZ,List.map_nil];rw[kW];refine⟨h.2.2.2.1,by simp,λa ha y hy=>?_⟩;simp only[av] at hy;subst hy;rintro rfl;obtain⟨x,hx,he⟩:=List.mem_map.1 ha;have:=h.2.2.2.2 x hx;omega
  |some j=>simp only;rw[CP (λx:jy κ=>x.2.2) (λx=>(x.1,v,x.2.2)) (λ_=>rfl)];exact h.2.2.2.1
 ·unfold HD;cases hf:es.findIdx? λx=>decide (x.1=k)with
  |none=>
   intro x hx;rcases List.mem_append.1 hx with hx|hx
   ·have:=h.2.2.2.2 x hx;grind
   ·simp only[av] at hx;grind
  |some j=>
   intro x hx;obtain⟨y,hy,rfl|rfl⟩:=mem_modify hx
   ·exact h.2.2.2.2 _ hy
   ·exact h.2.2.2.2 y hy
def P9 (k:κ) (es:List (jy κ)):List (jy κ):=match es.findIdx? λx=>decide (x.1=k)with
 |some i=>es.eraseIdx i
 |none=>es
theorem agQ {t tk ty:Nat} {kv:κ->Value} {es:List (jy κ)} {k:κ} (h:mB w X b kv es c) (K:xA P kt kv)
  (ht:P.underlying t=some (.map kt et)) (hX: ∀k,X k->k<w.heap.size)
  (n: ∀w' X',Grown X w X' w' (some b)->mB w' X' b kv (P9 k es) c->N (.tuple #[]) w' X'):
  eV P R X w true (sC #[t,tk] ty #[.map (some b),kv k]) N:=by
 intro wa hk;have hM:=h.kp hk;have hb:=hM.2.1;have cx:b<wa.heap.size:=(Array.getElem?_eq_some_iff.1 hb).1;unfold jS;have rK:(P9 k es).Sublist es:=by
  unfold P9;split
  ·grind
  ·grind
 have hr:(sC #[t,tk] ty #[.map (some b),kv k]).run P wa= .ok (.tuple #[]) (setBlock wa b (.map ((P9 k es).map (lL kv)).toArray c)):=by
  have e0:(#[t,tk]:Array TypeId)[0]? =some t:=rfl;have e1:(#[Value.map (some b),kv k]:Array Value)[0]? =some (.map (some b)):=rfl;have e2:(#[Value.map (some b),kv k]:Array Value)[1]? =some (kv k):=rfl;simp only[sC,e0,e1,e2,bp,run_underlying ht,aO,getObj,tP,hb,K.jg,cM,K.find,P8];unfold P9;cases hf:es.findIdx? λx=>decide (x.1=k)with
  |none=>simp[run_setObj_map hb]
  |some j=>
   obtain⟨Ij,_,_⟩:=List.findIdx?_eq_some_iff_getElem.1 hf;simp only[cL,aS Ij,ba,ff,run_setObj_map hb,aO,bO];simp[Array.eraseIdxIfInBounds,Ij,Go.ChangeMaps.map_eraseIdx,run_setObj_map hb]
 simp only[vS,bp,hr,aO,bO];exact⟨ZV hM.1,n _ _ (MA hX hk) ⟨.inl h.1,Lq cx,h.2.2.1.sublist (rK.map _),h.2.2.2.1.sublist (rK.map _),λx hx=>h.2.2.2.2 x (rK.subset hx)⟩⟩
def B1 (w:World) (X:XS) (r b:Nat) (kv:κ->Value) (es:List (jy κ)) (c:Nat) (left:List (jy κ)):Prop:=
 mB w X b kv es c/\X r/\r≠b/\ ∃seen:Array Nat,w.heap[r]? =some (.mapIter (some b) c seen c)/\left=es.filter (λx=>!seen.contains x.2.2)
variable {r : Nat}
theorem B1.kp {kv:κ->Value} {es left:List (jy κ)} (h:B1 w X r b kv es c left) (hk:Kp X w w'):B1 w' X r b kv es c left:=
 ⟨h.1.kp hk,h.2.1,h.2.2.1,let⟨s,hs,hl⟩:=h.2.2.2;⟨s,by rw[hk.block r h.2.1];exact hs,hl⟩⟩
def B1.mono {kv:κ->Value} {es left:List (jy κ)} (h:B1 w X r b kv es c left) (hs: ∀k,X k->Y k):B1 w Y r b kv es c left:=
 ⟨h.1.mono hs,hs _ h.2.1,h.2.2⟩
def B1.since {kv:κ->Value} {es left:List (jy κ)} (h:B1 w X r b kv es c left) (hs:ai X w Y w'):B1 w' Y r b kv es c left:=
 (h.kp hs.kp).mono hs.sub
theorem ajf {t:Nat} {kv:κ->Value} {es:List (jy κ)} (h:mB w X b kv es c) (ht:P.underlying t=some (.map kt et))
  (hX: ∀k,X k->k<w.heap.size) (n: ∀r w' X',w.heap.size<=r->ai X w X' w'->B1 w' X' r b kv es c es->N (ptr r 0) w' X'):
  eV P R X w m (xy t (.map (some b))) N:=by
 intro wa hk;have hb:=(h.kp hk).2.1;have cx:b<wa.heap.size:=(Array.getElem?_eq_some_iff.1 hb).1;unfold jS;have hr:(xy t (.map (some b))).run P wa= .ok (ptr wa.heap.size 0) (wa.alloc (.mapIter (some b) c #[] c)):=by
  simp[xy,run_underlying ht,getObj,tP,hb]
 simp only[vS,bp,hr,aO,bO];have hx:Ext wa (wa.alloc (.mapIter (some b) c #[] c)):=Ext.alloc _ _;have hs:=ai.fb hX hk hx;exact⟨Step.fb hx,n _ _ _ hk.size hs ⟨h.since hs,.inr ⟨au _,by simp⟩,by omega,#[],heap_alloc_new wa _,(List.filter_eq_self.2 sQ).symm⟩⟩
theorem alI {ty:Nat} {kv:κ->Value} {es left:List (jy κ)} (h:B1 w X r b kv es c left) (hX: ∀k,X k->k<w.heap.size)
  (n0:left=[]-> ∀w' X',ai X w X' w'->N (.tuple #[.bool false]) w' X')
  (n1: ∀x∈left,∀w' X',Grown X w X' w' (some r)->B1 w' X' r b kv es c (left.filter λy=>decide (y.2.2≠x.2.2))->
   (∀wa,Kp X' w' wa->(pZ (ptr r 0)).run P wa= .ok (.tuple #[kv x.1,x.2.1]) wa)->N (.tuple #[.bool true,kv x.1,x.2.1]) w' X'):
  eV P R X w true (Instr.next (ptr r 0) false ty) N:=by
 intro wa hk;obtain⟨hM,hXr,Oy,seen,hr,aeZ⟩:=h.kp hk;have hb:=hM.2.1;have rq:r<wa.heap.size:=(Array.getElem?_eq_some_iff.1 hr).1;unfold jS;have hold: ∀x∈((es.map (lL kv)).toArray).toList,x.born<c:=by
  intro x hx;simp only[cM,List.mem_map] at hx;obtain⟨y,hy,rfl⟩:=hx;exact hM.2.2.2.2 y hy
 have gy:(leftOf (es.map (lL kv)).toArray seen).toList=left.map (lL kv):=by
  rw[aeZ];simp only[leftOf,Array.toList_filter,cM,List.filter_map];rfl
 rcases run_next_at (P:=P) wa ty r b c c seen _ c hr hb hold (au _)with⟨hz,oB⟩|⟨e,he,w1,A2,oB⟩
 ·simp only[vS,bp,oB,aO,bO];have h0:left=[]:=by
   have:left.map (lL kv)=[]:=by rw[<-gy];exact List.eq_nil_of_length_eq_zero (by simpa using hz)
   simpa using this
  exact⟨Step.fb (Ext.refl _),n0 h0 _ _ (ai.fb hX hk (Ext.refl _))⟩
 ·rw[gy] at he;obtain⟨x,hx,rfl⟩:=List.mem_map.1 he;simp only[vS,bp,oB,aO,bO];have FU:Kp X w w1:=by
   rcases A2 with rfl|rfl
   ·exact hk
   ·exact⟨hk.os,hk.tape,hk.output,hk.size,hk.block⟩
  have LC:r<w1.heap.size:=by rcases A2 with rfl|rfl<;>exact rq
  have lM:w1.heap[b]? =some (.map (es.map (lL kv)).toArray c):=by rcases A2 with rfl|rfl<;>exact hb
  have ar2:Fr X wa w1:=by rcases A2 with rfl|rfl<;>exact⟨rfl,rfl,rfl,au _,λ_ _ _=>rfl⟩
  have xn: ∀o,(setBlock w1 r o).heap[b]? =some (.map (es.map (lL kv)).toArray c):=by
   intro o;rw[<-lM];simp[setBlock,dK,Oy]
  have mF:w1.heap.size=wa.heap.size:=by rcases A2 with rfl|rfl<;>rfl
  have apH:grow X wa (setBlock w1 r (.mapIter (some b) c (seen.push x.2.2) c))=grow X w1 (setBlock w1 r (.mapIter (some b) c (seen.push x.2.2) c)):=by
   unfold grow;rw[mF]
  have hG:=MA (o:=.mapIter (some b) c (seen.push x.2.2) c) (b:=r) hX FU;have Ox:B1 (setBlock w1 r (.mapIter (some b) c (seen.push x.2.2) c)) (grow X w1 (setBlock w1 r (.mapIter (some b) c (seen.push x.2.2) c))) r b kv es c (left.filter λy=>decide (y.2.2≠x.2.2)):=by
   refine⟨⟨.inl hM.1,xn _,hM.2.2⟩,.inl hXr,Oy,seen.push x.2.2,Lq LC,?_⟩;rw[aeZ,List.filter_filter]
   congr 1
   funext y
   by_cases hy:y.2.2=x.2.2<;>simp[hy,Array.contains_push,Bool.beq_eq_decide_eq]
  show Fr X wa _/\N _ _ (grow X wa _)
  refine⟨ar2.trans (ZV hXr),?_⟩
  show N (.tuple #[.bool true,kv x.1,x.2.1]) (setBlock w1 r (.mapIter (some b) c (seen.push x.2.2) c)) (grow X wa (setBlock w1 r (.mapIter (some b) c (seen.push x.2.2) c)))
  rw[apH];refine n1 x hx _ _ hG Ox λwb pF=>?_;have hxe:x∈es:=by rw[aeZ] at hx;exact(List.mem_filter.1 hx).1
  exact run_entry_at (P:=P) wb r b c seen (es.map (lL kv)).toArray c (lL kv x) (by rw[pF.block r (.inl hXr)];exact Lq LC) (Ox.kp pF).1.2.1 (by rw[cM];exact List.mem_map.2 ⟨x,hxe,rfl⟩)
   (by rw[cM,List.map_map];exact hM.2.2.2.1)
theorem ajg {k:Value} (hX: ∀k,X k->k<w.heap.size)
  (h: ∀wa,Kp X w wa->(pZ (ptr r 0)).run P wa= .ok (.tuple #[k,v]) wa) (n: ∀w' X',ai X w X' w'->N (.tuple #[k,v]) w' X'):
  eV P R X w m (pZ (ptr r 0)) N:=by
 intro wa hk;unfold jS;simp only[vS,bp,h wa hk,aO,bO];exact⟨Step.fb (Ext.refl _),n _ _ (ai.fb hX hk (Ext.refl _))⟩
variable {P : Program} {R : Ending -> World -> Prop} {X : XS} {w : World} {m : Bool} {N : Value -> Prop}
def un (e:Value) (M:Value->Prop):Prop:=M e
def jn {α:Type} (r:α) (B:α->Prop):Prop:=B r
def iN (S f _fo _sz:Nat) (x:Value):Sem Value:=Instr.fieldAt S x f
def ld1 (t:TypeId) (x:Value):Sem Value:=jv t x
def tW (t:TypeId) (_n:Nat) (x:Value):Sem Value:=jv t x
def st1 (t:TypeId) (_n:Nat) (x v:Value):Sem Unit:=Instr.storeAt t x v
def mG (t:TypeId) (_k:Nat) (v i:Value):Sem Value:=zy t v i
def lN (t ty:TypeId) (v:Value):Sem Value:=j9 #[t] ty #[v]
def pB (t ty:TypeId) (v:Value):Sem Value:=j9 #[t] ty #[v]
def sH (t:TypeId) (_cells:Array Value) (parts:Array (Nat×Value)):Sem Value:=Instr.build t parts
def pT (_k:IntKind) (src dst:TypeId) (x:Value):Sem Value:=convert src dst x
def J6 (src dst:TypeId) (x:Value):Sem Value:=convert src dst x
def Fc (t _n _e:Nat) (x i:Value):Sem Value:=BY t x i
def gR (t _e _k len:Nat) (parts:Array (Nat×Value)):Sem Value:=jr t len parts
def ru (t _e _k _bytes ty:Nat) (v s:Value):Sem Value:=fg #[t,t] ty #[v,s]
def fdV (S f _fo _sz:Nat) (x:Value):Sem Value:=Instr.field S x f
abbrev I (x:Int):Value:=.int .i64 x
abbrev B (x:Bool):Value:=.bool x
def OA (X:XS) (w:World) (F:JT->Nat->World->XS->Prop):Prop:=QO X w [] [] λJ n _ w X=>F J n w X
def J7 (X:XS) (w:World) (v1:Value) (c1:Nat) (F:JT->Nat->Value->World->XS->Prop):Prop:=QO X w [v1] [c1] λJ n e w X=>F J n (e c1) w X
def J9 (X:XS) (w:World) (v1 v2:Value) (c1 c2:Nat) (F:JT->Nat->Value->Value->World->XS->Prop):Prop:=
 QO X w [v1,v2] [c1,c2] λJ n e w X=>F J n (e c1) (e c2) w X
def Ka (X:XS) (w:World) (v1 v2 v3:Value) (c1 c2 c3:Nat) (F:JT->Nat->Value->Value->Value->World->XS->Prop):Prop:=
 QO X w [v1,v2,v3] [c1,c2,c3] λJ n e w X=>F J n (e c1) (e c2) (e c3) w X
def Kb (X:XS) (w:World) (v1 v2 v3 v4:Value) (c1 c2 c3 c4:Nat) (F:JT->Nat->Value->Value->Value->Value->World->XS->Prop):Prop:=
 QO X w [v1,v2,v3,v4] [c1,c2,c3,c4] λJ n e w X=>F J n (e c1) (e c2) (e c3) (e c4) w X
def Kc (X:XS) (w:World) (v1 v2 v3 v4 v5:Value) (c1 c2 c3 c4 c5:Nat) (F:JT->Nat->Value->Value->Value->Value->Value->World->XS->Prop):Prop:=
 QO X w [v1,v2,v3,v4,v5] [c1,c2,c3,c4,c5] λJ n e w X=>F J n (e c1) (e c2) (e c3) (e c4) (e c5) w X
def OB (X:XS) (w:World) (v1 v2 v3 v4 v5 v6:Value) (c1 c2 c3 c4 c5 c6:Nat) (F:JT->Nat->Value->Value->Value->Value->Value->Value->World->XS->Prop):Prop:=
 QO X w [v1,v2,v3,v4,v5,v6] [c1,c2,c3,c4,c5,c6] λJ n e w X=>F J n (e c1) (e c2) (e c3) (e c4) (e c5) (e c6) w X
def OC (X:XS) (w:World) (v1 v2 v3 v4 v5 v6 v7:Value) (c1 c2 c3 c4 c5 c6 c7:Nat) (F:JT->Nat->Value->Value->Value->Value->Value->Value->Value->World->XS->Prop):Prop:=
 QO X w [v1,v2,v3,v4,v5,v6,v7] [c1,c2,c3,c4,c5,c6,c7] λJ n e w X=>F J n (e c1) (e c2) (e c3) (e c4) (e c5) (e c6) (e c7) w X
def Kd (X:XS) (w:World) (v1 v2 v3 v4 v5 v6 v7 v8:Value) (c1 c2 c3 c4 c5 c6 c7 c8:Nat) (F:JT->Nat->Value->Value->Value->Value->Value->Value->Value->Value->World->XS->Prop):Prop:=
 QO X w [v1,v2,v3,v4,v5,v6,v7,v8] [c1,c2,c3,c4,c5,c6,c7,c8] λJ n e w X=>F J n (e c1) (e c2) (e c3) (e c4) (e c5) (e c6) (e c7) (e c8) w X
def OD (J:JT) (n:Nat) (w:World) (X:XS):Prop:=Fa J n [] w X
def Gz (J:JT) (n:Nat) (a:Value) (w:World) (X:XS):Prop:=Fa J n [a] w X
def GA (J:JT) (n:Nat) (a b:Value) (w:World) (X:XS):Prop:=Fa J n [a,b] w X
def Ke (J:JT) (n:Nat) (a b c:Value) (w:World) (X:XS):Prop:=Fa J n [a,b,c] w X
def Kf (J:JT) (n:Nat) (a b c d:Value) (w:World) (X:XS):Prop:=Fa J n [a,b,c,d] w X
def Kg (J:JT) (n:Nat) (a b c d f:Value) (w:World) (X:XS):Prop:=Fa J n [a,b,c,d,f] w X
def OE (J:JT) (n:Nat) (a b c d f g:Value) (w:World) (X:XS):Prop:=Fa J n [a,b,c,d,f,g] w X
def OF (J:JT) (n:Nat) (a b c d f g h:Value) (w:World) (X:XS):Prop:=Fa J n [a,b,c,d,f,g,h] w X
def Kh (J:JT) (n:Nat) (a b c d f g h i:Value) (w:World) (X:XS):Prop:=Fa J n [a,b,c,d,f,g,h,i] w X
def J1 (I:Nat->Value->World->XS->Prop):JT:=λn vs w X=>match vs with
 |[a]=>I n a w X
 |_=>False
def J2 (I:Nat->Value->Value->World->XS->Prop):JT:=λn vs w X=>match vs with
 |[a,b]=>I n a b w X
 |_=>False
def J3 (I:Nat->Value->Value->Value->World->XS->Prop):JT:=λn vs w X=>match vs with
 |[a,b,c]=>I n a b c w X
 |_=>False
def J4 (I:Nat->Value->Value->Value->Value->World->XS->Prop):JT:=λn vs w X=>match vs with
 |[a,b,c,d]=>I n a b c d w X
 |_=>False
def J5 (I:Nat->Value->Value->Value->Value->Value->World->XS->Prop):JT:=λn vs w X=>match vs with
 |[a,b,c,d,f]=>I n a b c d f w X
 |_=>False
def J8 (I:Nat->Value->Value->Value->Value->Value->Value->Value->Value->World->XS->Prop):JT:=λn vs w X=>match vs with
 |[a,b,c,d,f,g,h,i]=>I n a b c d f g h i w X
 |_=>False
def eI {v1 c1 F} (I:Nat->Value->World->XS->Prop) (n:Nat) (h0:I n v1 w X)
  (h: ∀n a w' X',I n a w' X'->F (J1 I) n a w' X'):J7 X w v1 c1 F:=⟨J1 I,⟨n,h0⟩,λn e w' X' _ hj=>h n (e c1) w' X' hj⟩
def gO {v1 v2 c1 c2 F} (I:Nat->Value->Value->World->XS->Prop) (n:Nat) (h0:I n v1 v2 w X)
  (h: ∀n a b w' X',I n a b w' X'->F (J2 I) n a b w' X'):J9 X w v1 v2 c1 c2 F:=⟨J2 I,⟨n,h0⟩,λn e w' X' _ hj=>h n (e c1) (e c2) w' X' hj⟩
def BE {v1 v2 v3 c1 c2 c3 F} (I:Nat->Value->Value->Value->World->XS->Prop) (n:Nat) (h0:I n v1 v2 v3 w X)
  (h: ∀n a b c w' X',I n a b c w' X'->F (J3 I) n a b c w' X'):Ka X w v1 v2 v3 c1 c2 c3 F:=⟨J3 I,⟨n,h0⟩,λn e w' X' _ hj=>h n (e c1) (e c2) (e c3) w' X' hj⟩
def amx {v1 v2 v3 v4 c1 c2 c3 c4 F} (I:Nat->Value->Value->Value->Value->World->XS->Prop) (n:Nat) (h0:I n v1 v2 v3 v4 w X)
  (h: ∀n a b c d w' X',I n a b c d w' X'->F (J4 I) n a b c d w' X'):Kb X w v1 v2 v3 v4 c1 c2 c3 c4 F:=
 ⟨J4 I,⟨n,h0⟩,λn e w' X' _ hj=>h n (e c1) (e c2) (e c3) (e c4) w' X' hj⟩
def anS {v1 v2 v3 v4 v5 c1 c2 c3 c4 c5 F} (I:Nat->Value->Value->Value->Value->Value->World->XS->Prop) (n:Nat) (h0:I n v1 v2 v3 v4 v5 w X)
  (h: ∀n a b c d f w' X',I n a b c d f w' X'->F (J5 I) n a b c d f w' X'):Kc X w v1 v2 v3 v4 v5 c1 c2 c3 c4 c5 F:=
 ⟨J5 I,⟨n,h0⟩,λn e w' X' _ hj=>h n (e c1) (e c2) (e c3) (e c4) (e c5) w' X' hj⟩
def anF {v1 v2 v3 v4 v5 v6 v7 v8 c1 c2 c3 c4 c5 c6 c7 c8 F} (I:Nat->Value->Value->Value->Value->Value->Value->Value->Value->World->XS->Prop) (n:Nat) (h0:I n v1 v2 v3 v4 v5 v6 v7 v8 w X)
  (h: ∀n a b c d f g h' i' w' X',I n a b c d f g h' i' w' X'->F (J8 I) n a b c d f g h' i' w' X'):Kd X w v1 v2 v3 v4 v5 v6 v7 v8 c1 c2 c3 c4 c5 c6 c7 c8 F:=
 ⟨J8 I,⟨n,h0⟩,λn e w' X' _ hj=>h n (e c1) (e c2) (e c3) (e c4) (e c5) (e c6) (e c7) (e c8) w' X' hj⟩
def dS {I n a} (k:Nat) (hk:k<n) (h:I k a w X):Gz (J1 I) n a w X:=⟨k,hk,h⟩
def fZ {I n a b} (k:Nat) (hk:k<n) (h:I k a b w X):GA (J2 I) n a b w X:=⟨k,hk,h⟩
def zU {I n a b c} (k:Nat) (hk:k<n) (h:I k a b c w X):Ke (J3 I) n a b c w X:=⟨k,hk,h⟩
def amz {I n a b c d} (k:Nat) (hk:k<n) (h:I k a b c d w X):Kf (J4 I) n a b c d w X:=⟨k,hk,h⟩
def anU {I n a b c d f} (k:Nat) (hk:k<n) (h:I k a b c d f w X):Kg (J5 I) n a b c d f w X:=⟨k,hk,h⟩
def agJ {I n a b c d f g h' i'} (k:Nat) (hk:k<n) (h:I k a b c d f g h' i' w X):Kh (J8 I) n a b c d f g h' i' w X:=⟨k,hk,h⟩
def cJ {α:Type} {r:α} {F:α->Prop} (h:F r):jn r F:=h
def gZ {α:Type} {r:α} {F:α->Prop} (Q:α->Prop) (h:Q r) (k: ∀c,Q c->F c):jn r F:=k r h
variable {M : Value -> Prop}
def aet {e:Value} (e':Value) (h:e=e') (k:M e'):un e M:=h▸k
variable {a : Value} {i : Nat} {l : List Value}
theorem alJ (h:l[i]? =some a) (k:M a):un (cellOf (.agg l.toArray) i) M:=by
 have:cellOf (.agg l.toArray) i=a:=by simp[cellOf,bg,List.getD,h]
 unfold un;grind
variable {o : Nat}
theorem agR (k:M (.agg ((l.drop o).take n).toArray)):un (yK (.agg l.toArray) o n) M:=by
 have:yK (.agg l.toArray) o n= .agg ((l.drop o).take n).toArray:=by simp[yK,bg]
 assumption
def Y8 {c:Array Value} (k:M (.agg c)):un (.agg (bg (.agg c))) M:=k
def EX (k:M v):un (pA (.bool true) true v) M:=k
def alK (k:M v):un (pA (.bool false) false v) M:=k
def ajh (k:M undef):un (pA (.bool true) false v) M:=k
def CM (k:M undef):un (pA (.bool false) true v) M:=k
theorem alL {q:Bool} (k:M undef):un (pA undef q v) M:=by
 have:pA undef q v=undef:=by rfl
 assumption
variable {A : Prop}
theorem ND {b:Bool} (h:b=true) (k:A):jg b A:=by subst h;exact k
variable {C : Prop}
def acF (h:A):np (.bool true) A C:=⟨λ_=>h,λh=>absurd h sQ⟩
def Nw (h:C):np (.bool false) A C:=⟨λh=>absurd h sQ,λ_=>h⟩
theorem anV {s:Sem Next} {want:Bool} (h:N undef):lP P X w undef want s N:=by
 have e:oH undef want=false:=by rfl
 grind [lP]
variable {s : Sem Value}
def PY (h:aX P X w s N):lP P X w (.bool true) true (vS s) N:=Nl h
def aji (h:aX P X w s N):lP P X w (.bool false) false (vS s) N:=Nl h
variable {xo yo : Operand}
section
variable {k : IntKind} {a b : Int}
def ae0 (hT:a<b->N (.bool true)) (hF: ¬a<b->N (.bool false)):aX P X w (binOp .lss t (.int k a) (.int k b)) N:=
 aco gQ
def akF (hT:a<=b->N (.bool true)) (hF: ¬a<=b->N (.bool false)):aX P X w (binOp .leq t (.int k a) (.int k b)) N:=
 akV gQ
def ae1 (hT:a>b->N (.bool true)) (hF: ¬a>b->N (.bool false)):aX P X w (binOp .gtr t (.int k a) (.int k b)) N:=
 akW gQ
def ae2 (hT:a>=b->N (.bool true)) (hF: ¬a>=b->N (.bool false)):aX P X w (binOp .geq t (.int k a) (.int k b)) N:=
 akX gQ
def ae3 (hT:a=b->N (.bool true)) (hF: ¬a=b->N (.bool false)):aX P X w (eP .eql t xo yo (.int k a) (.int k b)) N:=
 SV gQ
def ae4 (hT: ¬a=b->N (.bool true)) (hF:a=b->N (.bool false)):aX P X w (eP .neq t xo yo (.int k a) (.int k b)) N:=
 akY gQ
def anW (h:a<b) (k':N (.bool true)):aX P X w (binOp .lss t (.int k a) (.int k b)) N:=ae0 (λ_=>k') (λhn=>absurd h hn)
def anX (h: ¬a<b) (k':N (.bool false)):aX P X w (binOp .lss t (.int k a) (.int k b)) N:=ae0 (λhn=>absurd hn h) (λ_=>k')
def anY (h: ¬a<=b) (k':N (.bool false)):aX P X w (binOp .leq t (.int k a) (.int k b)) N:=akF (λhn=>absurd hn h) (λ_=>k')
def anZ (h:a>b) (k':N (.bool true)):aX P X w (binOp .gtr t (.int k a) (.int k b)) N:=ae1 (λ_=>k') (λhn=>absurd h hn)
def an0 (h: ¬a>b) (k':N (.bool false)):aX P X w (binOp .gtr t (.int k a) (.int k b)) N:=ae1 (λhn=>absurd hn h) (λ_=>k')
def an1 (h:a>=b) (k':N (.bool true)):aX P X w (binOp .geq t (.int k a) (.int k b)) N:=ae2 (λ_=>k') (λhn=>absurd h hn)
def an2 (h: ¬a>=b) (k':N (.bool false)):aX P X w (binOp .geq t (.int k a) (.int k b)) N:=ae2 (λhn=>absurd hn h) (λ_=>k')
def an3 (h:a=b) (k':N (.bool true)):aX P X w (eP .eql t xo yo (.int k a) (.int k b)) N:=ae3 (λ_=>k') (λhn=>absurd h hn)
def an4 (h: ¬a=b) (k':N (.bool false)):aX P X w (eP .eql t xo yo (.int k a) (.int k b)) N:=ae3 (λhn=>absurd hn h) (λ_=>k')
def an5 (h: ¬a=b) (k':N (.bool true)):aX P X w (eP .neq t xo yo (.int k a) (.int k b)) N:=ae4 (λ_=>k') (λhn=>absurd hn h)
def an7 (h:a=b) (k':N (.bool false)):aX P X w (eP .neq t xo yo (.int k a) (.int k b)) N:=ae4 (λhn=>absurd h hn) (λ_=>k')
theorem akG (h1: -(2^63)<=a+b) (h2:a+b<2^63) (h:N (.int .i64 (a+b))):aX P X w (binOp .add t (.int .i64 a) (.int .i64 b)) N:=
 od (by rw[wrap_i64 h1 h2];exact h)
theorem apI (h1: -(2^63)<=a-b) (h2:a-b<2^63) (h:N (.int .i64 (a-b))):aX P X w (binOp .sub t (.int .i64 a) (.int .i64 b)) N:=
 acp (by rw[wrap_i64 h1 h2];exact h)
theorem apo (h1: -(2^63)<=a*b) (h2:a*b<2^63) (h:N (.int .i64 (a*b))):aX P X w (binOp .mul t (.int .i64 a) (.int .i64 b)) N:=
 SU (by rw[wrap_i64 h1 h2];exact h)
end
theorem Jk {a b:ByteArray} :a.toList=b.toList↔a=b:=by
 constructor
 ·intro h;rw[oK,oK] at h;obtain⟨⟨x⟩⟩:=a;simp_all
 grind
def z7 (a b:ByteArray):Bool:=bY a.toList b.toList
section
variable {a b : ByteArray}
theorem an8 (hT:a=b->N (.bool true)) (hF: ¬a=b->N (.bool false)):aX P X w (eP .eql t xo yo (.string a) (.string b)) N:=
 ahL (by grind [Jk])
theorem an9 (hT: ¬a=b->N (.bool true)) (hF:a=b->N (.bool false)):aX P X w (eP .neq t xo yo (.string a) (.string b)) N:=
 ahM (by simp only[ne_eq,Jk];by_cases h:a=b;(· grind);(grind))
theorem aoa (hT:z7 a b=true->N (.bool true)) (hF:z7 a b=false->N (.bool false)):aX P X w (binOp .lss t (.string a) (.string b)) N:=
 ahN (by unfold z7 at hT hF;cases h:bY a.toList b.toList;(· exact hF h);(grind))
theorem aob (hT:z7 a b=false->N (.bool true)) (hF:z7 a b=true->N (.bool false)):aX P X w (binOp .geq t (.string a) (.string b)) N:=
 ahO (by unfold z7 at hT hF;cases h:bY a.toList b.toList;(· exact hT h);(grind))
theorem aoc (hT:z7 a b=true\/a=b->N (.bool true)) (hF:z7 a b=false-> ¬a=b->N (.bool false)):aX P X w (binOp .leq t (.string a) (.string b)) N:=
 ahP (by
  unfold z7 at hT hF;simp only[Jk];cases h:bY a.toList b.toList
  ·by_cases h2:a=b
   ·grind
   grind
  grind)
theorem aod (hT:z7 a b=false-> ¬a=b->N (.bool true)) (hF:z7 a b=true\/a=b->N (.bool false)):aX P X w (binOp .gtr t (.string a) (.string b)) N:=
 ahQ (by
  unfold z7 at hT hF;simp only[Jk];cases h:bY a.toList b.toList
  ·by_cases h2:a=b
   ·grind
   grind
  grind)
end
def qB (a b:Nat):Bool:=FloatKind.f64.format.order a b==some .lt
def pK (a b:Nat):Bool:=FloatKind.f64.format.order a b==some .eq
def Kv (a b:Nat):Bool:=FloatKind.f64.format.order a b==some .gt
section
variable {a : Nat}
theorem aoe (hT:qB a b=true->N (.bool true)) (hF:qB a b=false->N (.bool false)):aX P X w (binOp .lss t (.float .f64 a) (.float .f64 b)) N:=
 ahR (by grind [qB])
theorem aof (hT:Kv a b=true->N (.bool true)) (hF:Kv a b=false->N (.bool false)):aX P X w (binOp .gtr t (.float .f64 a) (.float .f64 b)) N:=
 ahT (by grind [Kv])
theorem aog (hT:qB a b=true\/pK a b=true->N (.bool true)) (hF:qB a b=false->pK a b=false->N (.bool false)):aX P X w (binOp .leq t (.float .f64 a) (.float .f64 b)) N:=
 ahS (by grind [qB,pK])
theorem aoh (hT:Kv a b=true\/pK a b=true->N (.bool true)) (hF:Kv a b=false->pK a b=false->N (.bool false)):aX P X w (binOp .geq t (.float .f64 a) (.float .f64 b)) N:=
 ahU (by grind [Kv,pK])
theorem aoi (hT:pK a b=true->N (.bool true)) (hF:pK a b=false->N (.bool false)):aX P X w (eP .eql t xo yo (.float .f64 a) (.float .f64 b)) N:=
 ahV (by grind [pK])
theorem aoj (hT:pK a b=false->N (.bool true)) (hF:pK a b=true->N (.bool false)):aX P X w (eP .neq t xo yo (.float .f64 a) (.float .f64 b)) N:=
 ahW (by grind [pK])
end
def Y7 (h:N (.bool false)):aX P X w (Op.unary .not (.bool true)) N:=SZ h
def agk (h:N (.bool true)):aX P X w (Op.unary .not (.bool false)) N:=SZ h
section
variable {a b c a' b' c' : Int}
def ZD (h:jC P t 3=true) (hT:a=a'->b=b'->c=c'->N (.bool true)) (hF: ¬(a=a'/\b=b'/\c=c')->N (.bool false)):
  aX P X w (eP .eql t xo yo (.agg #[.int .i64 a,.int .i64 b,.int .i64 c]) (.agg #[.int .i64 a',.int .i64 b',.int .i64 c'])) N:=
 Jh h gQ
def aok (h:jC P t 3=true) (hT: ¬(a=a'/\b=b'/\c=c')->N (.bool true)) (hF:a=a'->b=b'->c=c'->N (.bool false)):
  aX P X w (eP .neq t xo yo (.agg #[.int .i64 a,.int .i64 b,.int .i64 c]) (.agg #[.int .i64 a',.int .i64 b',.int .i64 c'])) N:=
 ajc h gQ
end
theorem apJ (h:Cells w X b o l) (hi:lf P t=some (false,1)) (hl:l[0]? =some v) (k:N v):
  aX P X w (ld1 t (ptr b o)) N:=by
 cases l with
 |nil=>cases hl
 |cons x r=>
  simp only[jY,aj] at hl;subst hl;exact agL h hi k
variable {k : Nat} {ty : TypeId}
def anI {α:Type} {enc:α->List Value} {xs:List α} (h:Sl w X k v (xs.map enc))
  (ht:P.underlying t=some (.slice (P.elem t))) (n:N (.int .i64 xs.length)):aX P X w (lN t ty v) N:=ai9 h ht n
def apK {s:ByteArray} (ht:P.underlying t=some .string) (k:N (.int .i64 s.size)):aX P X w (pB t ty (.string s)) N:=ai8 ht k
variable {parts : Array (Nat × Value)}
def Xd {cells:Array Value} (h:P.built t parts.toList=some cells) (k:N (.agg cells)):
  aX P X w (sH t cells parts) N:=agN cells h k
def Jl {a:Addr} (h:N (.pointer (some a))):lW P X w (cj (.pointer (some a))) N:=akZ h
def aks {vs:Array Value} (hi:vs[i]? =some v) (h:N v):aX P X w (gB (.tuple vs) i) N:=Ou hi h
variable {args : Array Value} {f : FuncId}
theorem NH {b:Bool} {N:Value->World->XS->Prop}
  (h:Pure P f args (.bool b)) (hf:enters P f=true) (hX: ∀k,X k->k<w.heap.size)
  (hT:b=true-> ∀w' X',ai X w X' w'->N (.bool true) w' X') (hF:b=false-> ∀w' X',ai X w X' w'->N (.bool false) w' X'):
  eC P R X w m f args N:=acX hf hX h (by
  cases b
  ·exact hF rfl
  grind)
def rV {N:Value->World->XS->Prop}
  (h:Pure P f args v) (hf:enters P f=true) (hX: ∀k,X k->k<w.heap.size)
  (k: ∀w' X',ai X w X' w'->N v w' X'):eC P R X w m f args N:=acX hf hX h k
structure ee (F X:XS) (w:World) (X':XS) (w':World):Prop where
 os:w'.os=w.os
 tape:w'.tape=w.tape
 output:w'.output=w.output
 size:w.heap.size<=w'.heap.size
 block: ∀k,X k-> ¬F k->w'.heap[k]? =w.heap[k]?
 sub: ∀k,X k->X' k
 has: ∀k,X' k->k<w'.heap.size
variable {F X' : XS}
def ee.since (c:ee F X w X' w') (hY: ∀k,Y k->X k/\ ¬F k):ai Y w X' w':=
 ⟨⟨c.os,c.tape,c.output,c.size,λk hk=>c.block k (hY k hk).1 (hY k hk).2⟩,λk hk=>c.sub k (hY k hk).1,c.has⟩
variable {w0 : World} {X0 : XS}
def ai.ea (h:ai X0 w0 X w) (c:ee F X w X' w') (hd: ∀k,X0 k-> ¬F k):ai X0 w0 X' w':=
 ⟨⟨c.os.trans h.kp.os,c.tape.trans h.kp.tape,c.output.trans h.kp.output,ad h.kp.size c.size,
  λk hk=>(c.block k (h.sub k hk) (hd k hk)).trans (h.kp.block k hk)⟩,λk hk=>c.sub k (h.sub k hk),c.has⟩
def ee.ae5 (hX: ∀k,X k->k<w.heap.size) (hk:Kp X w wa) (hf:Fr F wa w'):ee F X w (grow X wa w') w':=
 ⟨hf.os.trans hk.os,hf.tape.trans hk.tape,hf.output.trans hk.output,ad hk.size hf.size,
  λk hx hn=>(hf.block k (aw (hX k hx) hk.size) hn).trans (hk.block k hx),λ_ h=>.inl h,
  λk h=>h.elim (λh=>aw (hX k h) (ad hk.size hf.size)) (λh=>h.2)⟩
def ee.nQ (h:ai X w X' w') (F:XS):ee F X w X' w':=
 ⟨h.kp.os,h.kp.tape,h.kp.output,h.kp.size,λk hk _=>h.kp.block k hk,h.sub,h.has⟩
def Grown.ea {row:Option Nat} (g:Grown X w X' w' row):ee (λk=>some k=row) X w X' w':=
 ⟨g.os,g.tape,g.output,g.size,λk hk hn=>g.block k hk hn,g.sub,g.has⟩
variable {mD : World}
theorem ee.trans {xa:XS} (a:ee F X w X' w') (b:ee F X' w' xa mD):ee F X w xa mD:=
 ⟨b.os.trans a.os,b.tape.trans a.tape,b.output.trans a.output,ad a.size b.size,
  λk hk hn=>(b.block k (a.sub k hk) hn).trans (a.block k hk hn),λk hk=>b.sub k (a.sub k hk),b.has⟩
def ee.mono {G:XS} (a:ee F X w X' w') (h: ∀k,X k->F k->G k):ee G X w X' w':=
 ⟨a.os,a.tape,a.output,a.size,λk hk hn=>a.block k hk λhf=>hn (h k hk hf),a.sub,a.has⟩
def made (w w':World):XS:=λg=>w.heap.size<=g/\g<w'.heap.size
def out (F:XS) (w:World):XS:=λk=>k<w.heap.size/\ ¬F k
def vi (F:XS) (w0:World) (Q:Value->World->Prop):Ending->World->Prop:=λe w'=> ∃v,e= .returned v/\Fr F w0 w'/\Q v w'
def Ct (P:Program) (f:FuncId) (args:Array Value) (w:World) (X F:XS) (Q:Value->World->World->Prop):Prop:=
 ∀wa,Kp X w wa->Calls P f args wa (vi F wa λv w'=>Q v wa w')
variable {Q : Value -> World -> World -> Prop}
def Ct.mono {Q':Value->World->World->Prop} (h:Ct P f args w X F Q) (k: ∀v wa w',Kp X w wa->Q v wa w'->Q' v wa w'):Ct P f args w X F Q':=
 λwa hk=>(h wa hk).mono λ_ _ ⟨v,he,hf,hq⟩=>⟨v,he,hf,k v wa _ hk hq⟩
def cA {N:Value->World->XS->Prop}
  (h:Ct P f args w X nX Q) (hf:enters P f=true) (hX: ∀k,X k->k<w.heap.size)
  (k: ∀v wa w' X',Q v wa w'->w.heap.size<=wa.heap.size->(∀k,made wa w' k->X' k)->ai X w X' w'->N v w' X'):eC P R X w m f args N:=
 ZS (Q:=Q) hf hX h λv wa w' X' hk _ hn hq hs=>k v wa w' X' hq hk.size (λg hg=>hn g hg.1 hg.2) hs
theorem zq {N:Value->World->XS->Prop}
  (h:Ct P f args w X F Q) (hf:enters P f=true) (hX: ∀k,X k->k<w.heap.size) (hF: ∀k,F k->X k)
  (k: ∀v wa w' X',Q v wa w'->w.heap.size<=wa.heap.size->(∀k,made wa w' k->X' k)->Kp X w wa->ee F X w X' w'->N v w' X'):eC P R X w true f args N:=by
 intro wa hk;unfold jS;rw[pe hf args wa];refine⟨rfl,(h wa hk).mono ?_⟩;rintro e w' ⟨v,rfl,xv,hq⟩;exact⟨xv.mono hF,k v wa w' _ hq hk.size (λg hg=>.inr hg) hk (ee.ae5 hX hk xv)⟩
def bQ {Q:Value->World->Prop} (hs:ai (bN w0) w0 X w) (h: ∀wa,Kp X w wa->Q v wa):fin (vi nX w0 Q) X w v:=
 λ_ hk=>⟨v,rfl,hs.ext hk,h _ hk⟩
def acZ {Q:Value->World->Prop} (hs:ai (out F w0) w0 X w) (h: ∀wa,Kp X w wa->Q v wa):fin (vi F w0 Q) X w v:=
 λ_ hk=>⟨v,rfl,⟨hk.os.trans hs.kp.os,hk.tape.trans hs.kp.tape,hk.output.trans hs.kp.output,ad hs.kp.size hk.size,
  λk hl hn=>(hk.block k (hs.sub k ⟨hl,hn⟩)).trans (hs.kp.block k ⟨hl,hn⟩)⟩,h _ hk⟩
def ai.out (F:XS) (w:World):ai (out F w) w (bN w) w:=⟨Kp.refl _ _,λ_ h=>h.1,λ_ h=>h⟩
variable {rows : List (List Value)} {e lo : Nat}
def Own.up (h:Own w' (made wa w') wa.heap.size e k v rows) (gu: ∀k,made wa w' k->X' k) (hl:lo<=wa.heap.size):
  Own w' X' lo e k v rows:=(h.mono gu).low hl
theorem Own.ea (h:Own w X lo e k v rows) (c:ee F X w X' w') (hd: ∀g,v.ownBlock=some g-> ¬F g):Own w' X' lo e k v rows:=by
 obtain⟨h1,h2,h3⟩:=h;refine⟨h1,⟨h2.1,?_⟩,λg hg=>c.sub g (h3 g hg)⟩;rcases h2.2 with h|⟨g,cap,cur,rfl,hb,hg,hr⟩
 ·exact .inl h
 ·exact .inr ⟨g,cap,cur,rfl,hb,by rw[c.block g (h3 g rfl) (hd g rfl)];exact hg,hr⟩
theorem Sl.sub (h:Sl w X k v rows) (hs: ∀k,X k->k<w.heap.size->Y k):Sl w Y k v rows:=by
 obtain⟨h1,h2,base,cap,hv,hc,hr⟩:=h;exact⟨h1,h2,base,cap,hv,λbU=>let⟨b,o,hb,jG⟩:=hc bU;⟨b,o,hb,hs _ jG.1 jG.lt,jG.2⟩,hr⟩
def Sl.len (h:Sl w X k v rows):rows.length<=2^63-1:=h.2.1
theorem Sl.gN {α:Type} {enc:α->List Value} {xs:List α} (h:Sl w X k v (xs.map enc)):xs.length<=2^63-1:=by have:=h.2.1;grind
theorem Cells.sub (h:Cells w X b o l) (hs: ∀k,X k->k<w.heap.size->Y k):Cells w Y b o l:=⟨hs _ h.1 h.lt,h.2⟩
def Cells.bN (h:Cells w X b o l):Cells w (bN w) b o l:=⟨h.lt,h.2⟩
abbrev SP:=Program->(Ending->World->Prop)->XS->World->Prop
def du (s:Sem Value) (N:Value->SP):SP:=λP R X w=>aX P X w s λv=>N v P R X w
def sM (s:Sem Next) (N:Value->SP):SP:=λP R X w=>lW P X w s λv=>N v P R X w
def qD (g:Value) (want:Bool) (s:Sem Next) (N:Value->SP):SP:=λP R X w=>lP P X w g want s λv=>N v P R X w
def G6 (e:Value) (M:Value->SP):SP:=λP R X w=>un e λv=>M v P R X w
def yu (m:Bool) (s:Sem Value) (N:Value->SP):SP:=λP R X w=>eV P R X w m s λv w X=>N v P R X w
def ZcU (m:Bool) (s:Sem Unit) (N:Value->SP):SP:=λP R X w=>eU P R X w m s λv w X=>N v P R X w
def vC (f:FuncId) (args:Array Value) (N:Value->SP):SP:=λP R X w=>eC P R X w true f args λv w X=>N v P R X w
def l9 (f:FuncId) (args:Array Value) (N:Value->SP):SP:=λP R X w=>eC P R X w false f args λv w X=>N v P R X w
def DL (m:Bool) (f:Value) (args:Array Value) (N:Value->SP):SP:=λP R X w=>eF P R X w m f args λv w X=>N v P R X w
def ZcE (g:Value) (want:Bool) (A B:SP):SP:=λP R X w=>gE g want (A P R X w) (B P R X w)
def aU (v:Value):SP:=λ_ R X w=>fin R X w v
def mI (b:Bool) (A:SP):SP:=λP R X w=>jg b (A P R X w)
def ir (c:Value) (A B:SP):SP:=λP R X w=>np c (A P R X w) (B P R X w)
def lu (A B:SP):SP:=λP R X w=>And (A P R X w) (B P R X w)
def ZcR (R':Ending->World->Prop) (A:SP):SP:=λP _ X w=>A P R' X w
def O5 (a:Value) (n:Nat) (N:Value->SP):SP:=λP R X w=>aX P X w (gB a n) λv=>N v P R X w
def ke (t:TypeId) (x:Value) (N:Value->SP):SP:=λP R X w=>aX P X w (ld1 t x) λv=>N v P R X w
def jZ (op:BinOp) (t:TypeId) (x y:Value) (N:Value->SP):SP:=λP R X w=>aX P X w (binOp op t x y) λv=>N v P R X w
def ZW (op:BinOp) (t:TypeId) (n:Nat) (x c:Value) (N:Value->SP):SP:=λP R X w=>aX P X w (eP op t (.tmp n) (.const c) x c) λv=>N v P R X w
def vD (op:BinOp) (t:TypeId) (n m:Nat) (x y:Value) (N:Value->SP):SP:=λP R X w=>aX P X w (eP op t (.tmp n) (.tmp m) x y) λv=>N v P R X w
def B2 (S f o z:Nat) (x:Value) (N:Value->SP):SP:=λP R X w=>aX P X w (iN S f o z x) λv=>N v P R X w
def Zck (t ty:TypeId) (v:Value) (N:Value->SP):SP:=λP R X w=>aX P X w (lN t ty v) λv=>N v P R X w
def xB (t:TypeId) (k:Nat) (v i:Value) (N:Value->SP):SP:=λP R X w=>aX P X w (mG t k v i) λv=>N v P R X w
def oS (op:BinOp) (t:TypeId) (x y:Value) (A B:SP):SP:=λP R X w=>aX P X w (binOp op t x y) λv=>np v (A P R X w) (B P R X w)
def Zic (op:BinOp) (t:TypeId) (n:Nat) (x c:Value) (A B:SP):SP:=λP R X w=>aX P X w (eP op t (.tmp n) (.const c) x c) λv=>np v (A P R X w) (B P R X w)
def uK (op:BinOp) (t:TypeId) (n m:Nat) (x y:Value) (A B:SP):SP:=λP R X w=>aX P X w (eP op t (.tmp n) (.tmp m) x y) λv=>np v (A P R X w) (B P R X w)
def yv (S f o z:Nat) (x:Value) (t:TypeId) (N:Value->SP):SP:=λP R X w=>aX P X w (iN S f o z x) λa=>aX P X w (ld1 t a) λv=>N v P R X w
def Zcn (S f o z:Nat) (x:Value) (t:TypeId) (N:Value->SP):SP:=λP R X w=>lW P X w (cj x) λy=>aX P X w (iN S f o z y) λa=>aX P X w (ld1 t a) λv=>N v P R X w
def Zcs (S f o z:Nat) (x:Value) (t:TypeId) (n:Nat) (v:Value) (A:SP):SP:=λP R X w=>aX P X w (iN S f o z x) λa=>eU P R X w true (st1 t n a v) λ_ w X=>A P R X w
def R4 (S f o z:Nat) (x:Value) (t:TypeId) (n:Nat) (v:Value) (A:SP):SP:=λP R X w=>lW P X w (cj x) λy=>aX P X w (iN S f o z y) λa=>eU P R X w true (st1 t n a v) λ_ w X=>A P R X w
def qo (t:TypeId) (k:Nat) (v i:Value) (S f o z:Nat) (t':TypeId) (N:Value->SP):SP:=λP R X w=>aX P X w (mG t k v i) λx=>aX P X w (iN S f o z x) λa=>aX P X w (ld1 t' a) λv=>N v P R X w
def jx (t:TypeId) (k:Nat) (v i:Value) (t':TypeId) (N:Value->SP):SP:=λP R X w=>aX P X w (mG t k v i) λx=>aX P X w (ld1 t' x) λv=>N v P R X w
def lv (a:Value) (N:Value->Value->SP):SP:=λP R X w=>aX P X w (gB a 0) λx=>aX P X w (gB a 1) λy=>N x y P R X w
def O6 (g v:Value) (s:Value->Sem Value) (N:Value->SP):SP:=λP R X w=>un (pA g true v) λu=>lP P X w g true (vS (s u)) λy=>lW P X w (ix g y (.bool false)) λv=>N v P R X w
def zz (g v:Value) (op:BinOp) (t:TypeId) (n:Nat) (c:Value) (N:Value->SP):SP:=λP R X w=>un (pA g true v) λu=>lP P X w g true (vS (eP op t (.tmp n) (.const c) u c)) λy=>lW P X w (ix g y (.bool false)) λv=>N v P R X w
def pL (g v:Value) (op:BinOp) (t:TypeId) (z:Value) (N:Value->SP):SP:=λP R X w=>un (pA g true v) λu=>lP P X w g true (vS (binOp op t u z)) λy=>lW P X w (ix g y (.bool false)) λv=>N v P R X w
def Zgo (g v:Value) (s:Value->Sem Value) (N:Value->SP):SP:=λP R X w=>un (pA g false v) λu=>lP P X w g false (vS (s u)) λy=>lW P X w (ix g (.bool true) y) λv=>N v P R X w
def MB (g v:Value) (op:BinOp) (t:TypeId) (n:Nat) (c:Value) (N:Value->SP):SP:=λP R X w=>un (pA g false v) λu=>lP P X w g false (vS (eP op t (.tmp n) (.const c) u c)) λy=>lW P X w (ix g (.bool true) y) λv=>N v P R X w
def HE (g v:Value) (op:BinOp) (t:TypeId) (z:Value) (N:Value->SP):SP:=λP R X w=>un (pA g false v) λu=>lP P X w g false (vS (binOp op t u z)) λy=>lW P X w (ix g (.bool true) y) λv=>N v P R X w
def fH (y:Value) (n:Nat) (N:Value->SP):SP:=λP R X w=>un (ej (bg y)) λu=>jg (bf (dd (bg y))==n) (jg (fC (dd (bg y)) one) (N u P R X w))
def CT (t:TypeId) (n:Nat) (x:Value) (N:Value->SP):SP:=λP R X w=>aX P X w (tW t n x) λy=>un (ej (bg y)) λu=>jg (bf (dd (bg y))==n) (jg (fC (dd (bg y)) one) (N u P R X w))
def qX (x:Value) (A B:SP):SP:=λP R X w=>aX P X w (Op.unary UnOp.not x) λv=>np v (A P R X w) (B P R X w)
def ajj (g:Value) (want:Bool) (f:FuncId) (args:Array Value) (k:Value->SP):SP:=λP R X w=>gE g want (eC P R X w true f args λv w X=>k v P R X w) (k undef P R X w)
def uL (l:Array Value):SP:=λ_ R X w=>fin R X w (.tuple l)
def lT (r:SP) (B:(SP)->SP):SP:=λP R X w=>jn (α:=World->XS->Prop) (λw X=>r P R X w) λc=>B (λ_ _ X w=>c w X) P R X w
def pM (r:Value->SP) (B:(Value->SP)->SP):SP:=λP R X w=>jn (α:=Value->World->XS->Prop) (λv0 w X=>r v0 P R X w) λc=>B (λv0 _ _ X w=>c v0 w X) P R X w
def ui (r:Value->SP) (B:(Value->SP)->SP):SP:=λP R X w=>jn (α:=Value->Prop) (λv0=>r v0 P R X w) λc=>B (λv0 _ _ _ _=>c v0) P R X w
def ZX (r:Value->Value->SP) (B:(Value->Value->SP)->SP):SP:=λP R X w=>jn (α:=Value->Value->World->XS->Prop) (λv0 v1 w X=>r v0 v1 P R X w) λc=>B (λv0 v1 _ _ X w=>c v0 v1 w X) P R X w
def Xe (r:Value->Value->SP) (B:(Value->Value->SP)->SP):SP:=λP R X w=>jn (α:=Value->Value->Prop) (λv0 v1=>r v0 v1 P R X w) λc=>B (λv0 v1 _ _ _ _=>c v0 v1) P R X w
def ajk (r:Value->Value->Value->Value->Value->Value->Value->SP) (B:(Value->Value->Value->Value->Value->Value->Value->SP)->SP):SP:=λP R X w=>jn (α:=Value->Value->Value->Value->Value->Value->Value->World->XS->Prop) (λv0 v1 v2 v3 v4 v5 v6 w X=>r v0 v1 v2 v3 v4 v5 v6 P R X w) λc=>B (λv0 v1 v2 v3 v4 v5 v6 _ _ X w=>c v0 v1 v2 v3 v4 v5 v6 w X) P R X w
def rW (v0:Value) (c0:Nat) (F:(Value->SP)->Value->SP):SP:=λP R X w=>J7 X w v0 c0 λJ n e0 w X=>F (λa0 _ _ X w=>Gz J n a0 w X) e0 P R X w
def sR (v0 v1:Value) (c0 c1:Nat) (F:(Value->Value->SP)->Value->Value->SP):SP:=λP R X w=>J9 X w v0 v1 c0 c1 λJ n e0 e1 w X=>F (λa0 a1 _ _ X w=>GA J n a0 a1 w X) e0 e1 P R X w
def F5 (v0 v1 v2:Value) (c0 c1 c2:Nat) (F:(Value->Value->Value->SP)->Value->Value->Value->SP):SP:=λP R X w=>Ka X w v0 v1 v2 c0 c1 c2 λJ n e0 e1 e2 w X=>F (λa0 a1 a2 _ _ X w=>Ke J n a0 a1 a2 w X) e0 e1 e2 P R X w
def ajl (v0 v1 v2 v3:Value) (c0 c1 c2 c3:Nat) (F:(Value->Value->Value->Value->SP)->Value->Value->Value->Value->SP):SP:=λP R X w=>Kb X w v0 v1 v2 v3 c0 c1 c2 c3 λJ n e0 e1 e2 e3 w X=>F (λa0 a1 a2 a3 _ _ X w=>Kf J n a0 a1 a2 a3 w X) e0 e1 e2 e3 P R X w
def ajm (v0 v1 v2 v3 v4:Value) (c0 c1 c2 c3 c4:Nat) (F:(Value->Value->Value->Value->Value->SP)->Value->Value->Value->Value->Value->SP):SP:=λP R X w=>Kc X w v0 v1 v2 v3 v4 c0 c1 c2 c3 c4 λJ n e0 e1 e2 e3 e4 w X=>F (λa0 a1 a2 a3 a4 _ _ X w=>Kg J n a0 a1 a2 a3 a4 w X) e0 e1 e2 e3 e4 P R X w
def ajn (v0 v1 v2 v3 v4 v5 v6 v7:Value) (c0 c1 c2 c3 c4 c5 c6 c7:Nat) (F:(Value->Value->Value->Value->Value->Value->Value->Value->SP)->Value->Value->Value->Value->Value->Value->Value->Value->SP):SP:=λP R X w=>Kd X w v0 v1 v2 v3 v4 v5 v6 v7 c0 c1 c2 c3 c4 c5 c6 c7 λJ n e0 e1 e2 e3 e4 e5 e6 e7 w X=>F (λa0 a1 a2 a3 a4 a5 a6 a7 _ _ X w=>Kh J n a0 a1 a2 a3 a4 a5 a6 a7 w X) e0 e1 e2 e3 e4 e5 e6 e7 P R X w
def nY (l:List Value) (k:Nat) (y:Value) (n:Nat) (N:Value->SP):SP:=λP R X w=>un (ej (AJ (dr l k (dd (bg y))))) λu=>jg (bf (dd (bg y))==n) (jg (fC (dd (bg y)) one) (N u P R X w))
def bJ:=λa=>Value.float .f64 a
def ae:=I 0
def qa:=λa b c d=>qD a b (vS c) d
def Zq3:=λa b c d=>G6 (pA a b c) d
def dq:=I 1
def Zq5:=λa b c d e (f:Value->Value->SP)=>sM a λx=>B2 b c d e x (f x)
def Zq6:=λa b=>Value.slice none a b
def dy:=B false
def js:=λa b c=>G6 (cellOf a b) c
def dz:=λa b=>mI (gx a) b
def lH:=λa b c d=>jZ .add a b c d
def gw:=λa b c d e (f:Value->Sem Value) (g:Value->Value->SP)=>qa a b c λx=>qa d e (f x) (g x)
def iS:=λa b c d=>sM (ix a b c) d
def lI:=λa b c d e f=>Zic .eql a b c d e f
def bM:=λa b c=>vC a #[b] c
def Tz:=λa b c d e=>oS .lss a b c d e
def mr:=λa b c d e=>iS a b c λx=>ir x d e
def B3:=λa b c d=>G6 (yK a b c) d
def kR:=λa b c d e (f:Value->Value->SP)=>iS a b c λx=>Zq3 x d e (f x)
def gH:=λa b c d=>du (sH a b c) d
def dE:=λa b c d e f=>Zcn a b c 1 d e f
def dY:=λa b=>yu true a b
def rX:=λa b c d (e:Value->Value->SP)=>js a b λx=>js c d (e x)
def ct:=λa b c d=>vC a #[b,c] d
def dB:=B true
def ajo:=λa b c=>lH a b dq c
def ajp:=λa=>Zq6 0 a
def bq:=ajp 0
def jL:=λa b c d e f g (h:Value->Value->Value->SP)=>Zq5 a b c d e λx y=>ct f g y (h x y)
def fS:=λa b c=>Zq3 a true b c
def dC:=λa b c=>Zck a 3 b c
def HF:=λa b c d e f (g:Value->Value->SP)=>xB a b c d λx=>CT e f x (g x)
def qY:=λa b c d (e:Value->SP)=>B3 a b c λx=>mI d (e x)
def gr:=λa b c=>Zq3 a false b c
def cu:=λa b=>ajo 3 a b
def Jm:=λa b c d (e:Value->(Value->SP)->Value->SP)=>dC a b λx=>rW c d (e x)
def gA:=λa b=>ZcU true a b
def rY:=λa b c d e=>pM a (ajj b c d e)
def gS:=λa b c d=>Tz 3 a b c d
def qp:=λa b c d e=>lI 3 a b c d e
def ajq:=λa b c d e=>dE a 0 b c d e
def dF:=λa b c d=>ajq a 0 b c d
def sS:=λa b (c:Value->Sem Value) (d:Value->Value->SP) e f g h=>rY (λx=>qa a b (c x) (d x)) e f g h
def fz:=λa b=>uL #[a,b]
def ajr:=λa b c d=>cH a b (.string c) d
def fI:=Value.pointer none
def iC:=λa b c d e f=>Zic .neq a b c d e f
def oY:=λa b (c:Value->Value->SP)=>sM a λx=>ke b x (c x)
def fT:=uL #[]
def kc:=λa b c d e f g h i=>qp a b c d (qp e f g h i)
def yw:=λa b c d e f=>eP a b c (.const d) e f
def vU:=aP { data:= #[] }
def eZ:=λa b c=>B3 a 0 b c
def gI:=λa b c=>gH a b #[] c
def vV:=λa=>dd (bg a)
def jt:=λa b c d e=>ZW .eql a b c d e
def rZ:=λa b c d e f g h i j k=>gw a b c d e (λx=>yw f g h i x j) k
def jM:=λa b c d e f g h=>dY (ru a b c d e f g) h
def r6:=λa b c (d:Value->Value->Value->SP)=>ct a b c λx=>lv x (d x)
def oD:=λa b c d e f (g:Value->Value->SP)=>HF a b c d e f λx y=>dz y (g x y)
def fJ:=λa b c d=>jZ a 3 b c d
def gU:=aU dy
def tQ:=λa b c d e f g (h:Value->Value->SP)=>dY a λx=>jM b c d e f g x (h x)
def tR:=λa b c d e=>qY a b c d λx=>fz x e
def oE:=λa b c d (e:Value->(Value->SP)->Value->SP) f=>Jm a b c d λx y z=>gS z x (e x y z) f
def tS:=λa b c d (e:Value->Value->Value->SP) f g h i=>rY (λx=>kR a x b c d (e x)) f g h i
def ig:=λa=>aA IntKind.u64 a
def fX:=λa b c d e=>vC a #[b,c,d] e
def sT:=λa b c d e f g h (i:Value->Value->Value->Value->SP)=>rX a b c d λx y=>rX e f g h (i x y)
def sU:=λa b c d e f (g:Value->(Value->Value->SP)->Value->Value->SP)=>dC a b λx=>sR c d e f (g x)
def F8:=λa b c d e=>dE a 1 b c d e
def uM:=λa b c d e (f:Value->Sem Value) g h i (j:Value->Value->Value->SP)=>qa a b c λx=>gw d e (f x) g h i (j x)
def kG:=λa b=>G6 (.agg a) b
def sV:=λa b c d=>du (tW a b c) d
def wQ:=λa b c d e=>dC a b λx=>gS c x d e
def wR:=λa b c d e f g h i j k=>sS a b c (λx y=>mr d e y f g) h i j k
def ajs:=λa b c d e=>eP a b (.tmp c) d e
def lJ:=λa b c d e=>ajs a b c (.tmp d) e
def pN:=λa b=>bM 236 a b
def wS:=λa b c d (e:Value->Value->Sem Value) (f:Value->Value->SP)=>fS a b λx=>O6 c d (e x) (f x)
def wT:=λa b (c:Value->Sem Value) (d:Value->Value->SP)=>bM a b λx=>du (c x) (d x)
def iX:=λa=>fC a gx
def gV:=λa b c d=>F8 a 1 b c d
def ajt:=λa b c=>dr (vV a) b c
def jb:=λa b c=>AJ (ajt a b c)
def yy:=λa b c d (e:Value->Value->SP)=>gr a b λx=>gr c d (e x)
def zA:=λa b c d (e:Value->Value->SP)=>fS a b λx=>fS c d (e x)
def kH:=λa b c=>ajr 287 a b c
def yz:=λa (b:Value->Sem Unit) (c:Value->Value->SP)=>pN a λx=>gA (b x) (c x)
def im:=I 2
def iD:=bJ 0
def jA:=λa b c d e f=>Zq5 (cj a) b c d e f
def zB:=λa b c d e f (g:Value->Value->SP)=>xB a b c d λx=>sV e f x (g x)
def zC:=λa b c d e f g (h:Value->Value->SP)=>B2 a b c d e λx=>sV f g x (h x)
def zD:=λa b c d=>bM a b λx=>qX x c d
def aju:=λa b c d e f g h=>R4 a b c 1 d e f g h
def iE:=λa b c d e f g=>aju a b c d e 1 f g
theorem cz {p q:Prop} (h:q) (e:p=q:=by dsimp only [bJ,ae,qa,Zq3,dq,Zq5,Zq6,dy,js,dz,lH,gw,iS,lI,bM,Tz,mr,B3,kR,gH,dE,dY,rX,ct,dB,ajo,ajp,bq,jL,fS,dC,HF,qY,gr,cu,Jm,gA,rY,gS,qp,ajq,dF,sS,fz,ajr,fI,iC,oY,fT,kc,yw,vU,eZ,gI,vV,jt,rZ,jM,r6,oD,fJ,gU,tQ,tR,oE,tS,ig,fX,sT,sU,F8,uM,kG,sV,wQ,wR,ajs,lJ,pN,wS,wT,iX,gV,ajt,jb,yy,zA,kH,yz,im,iD,jA,zB,zC,zD,aju,iE,nY,du,sM,qD,G6,yu,ZcU,vC,DL,ZcE,aU,mI,ir,lu,ZcR,O5,ke,jZ,ZW,vD,B2,Zck,xB,l9,oS,Zic,uK,yv,Zcn,Zcs,R4,qo,jx,lv,uL,O6,zz,pL,Zgo,MB,HE,fH,CT,qX,ajj,lT,pM,ui,ZX,Xe,ajk,rW,sR,F5,ajl,ajm,ajn];try exact rfl):p:=e.symm▸h
variable {R : Ending -> World -> Prop} {w : World} {P : Program}
theorem as6 {fn:Func} (hf:P.funcs[f]? =some fn) (pl:gz) {V:Prop} (h:V)
  (hs:(decide (args.size<=pl.n)&&pl.boxes.all λp=>decide (args.size<=p.1))=true:=by kernel_rfl) (hv:V=Pp P (cF P pl fn) R args w:=by kernel_rfl):Calls P f args w R:=
 Hj hf hs hv h
variable {P : Program} {R : Ending -> World -> Prop} {X Y Z : XS} {w w' mD : World} {m : Bool} {N : Value -> Prop} {α : Type}
def Mv (X:XS) (w:World) (Y:XS) (w':World):Prop:= ∀k,X k->k<w.heap.size->Y k/\w'.heap[k]? =w.heap[k]?
theorem Mv.trans (a:Mv X w Y w') (b:Mv Y w' Z mD):Mv X w Z mD:=λk hk hl=>by
 obtain⟨h1,h2⟩:=a k hk hl;have Bz:k<w'.heap.size:=by
  have:w'.heap[k]? =some w.heap[k]:=by rw[h2];exact Array.getElem?_eq_getElem hl
  exact(Array.getElem?_eq_some_iff.1 this).1
 obtain⟨h3,h4⟩:=b k h1 Bz
 grind
def ai.mv (h:ai X w Y w'):Mv X w Y w':=λk hk _=>⟨h.sub k hk,h.kp.block k hk⟩
def _root_.Go.aJ.Kp.mv (h:Kp X w w'):Mv X w X w':=λk hk _=>⟨hk,h.block k hk⟩
def Mv.bN:Mv X w (bN w) w:=λ_ _ hl=>⟨hl,rfl⟩
def _root_.Go.aJ.Kp.cd (h:Kp X w w'):Mv X w (bN w') w':=h.mv.trans Mv.bN
def Mv.out (h: ∀k,X k-> ¬F k):Mv X w (aJ.out F w) w:=λk hk hl=>⟨⟨hl,h k hk⟩,rfl⟩
theorem Mv.sub (h: ∀k,X k->Y k):Mv X w Y w:=λk hk _=>⟨h k hk,rfl⟩
def Ext.mv (h:Ext w w'):Mv (aJ.bN w) w (aJ.bN w') w':=λ_ _ hl=>⟨aw hl h.size,h.block hl⟩
def ee.mv {A:XS} (c:ee F X w Y w') (h: ∀k,A k->X k/\ ¬F k):Mv A w Y w':=λk hk _=>⟨c.sub k (h k hk).1,c.block k (h k hk).1 (h k hk).2⟩
theorem Cells.mv (h:Cells w X b o l) (v:Mv X w Y w'):Cells w' Y b o l:=by
 have hl:=h.lt;obtain⟨hx,cs,t,fr,hb,hc⟩:=h;obtain⟨h1,h2⟩:=v b hx hl;exact⟨h1,cs,t,fr,by grind,hc⟩
theorem Sl.mv (h:Sl w X k v rows) (m:Mv X w Y w'):Sl w' Y k v rows:=by
 obtain⟨h1,h2,base,cap,hv,hc,hr⟩:=h;exact⟨h1,h2,base,cap,hv,λbU=>let⟨b,o,hb,jG⟩:=hc bU;⟨b,o,hb,jG.mv m⟩,hr⟩
def Sl.form (h:Sl w X k v rows): ∃b n c,v= .slice b n c:=let⟨_,_,b,c,hv,_⟩:=h;⟨b,_,c,hv⟩
variable {cs : List Value}
theorem aI.mv (h:aI w X b cs ty) (m:Mv X w Y w'):aI w' Y b cs ty:=by
 obtain⟨h1,h2⟩:=m b h.1 (Array.getElem?_eq_some_iff.1 h.2).1;exact⟨h1,by rw[h2];exact h.2⟩
theorem mB.mv {κ:Type} {kv:κ->Value} {es:List (jy κ)} (h:mB w X b kv es c) (m:Mv X w Y w'):mB w' Y b kv es c:=by
 obtain⟨h1,h2⟩:=m b h.1 (Array.getElem?_eq_some_iff.1 h.2.1).1;exact⟨h1,by rw[h2];exact h.2.1,h.2.2⟩
theorem Own.mv (h:Own w X lo e k v rows) (m:Mv X w Y w'):Own w' Y lo e k v rows:=by
 obtain⟨h1,h2,h3⟩:=h;refine⟨h1,⟨h2.1,?_⟩,λg hg=>(m g (h3 g hg) (h2.lt g hg).2).1⟩;rcases h2.2 with h|⟨g,cap,cur,rfl,hb,hg,hr⟩
 ·exact .inl h
 ·exact .inr ⟨g,cap,cur,rfl,hb,by rw[(m g (h3 g rfl) (Array.getElem?_eq_some_iff.1 hg).1).2];exact hg,hr⟩
def fh (w:World) (X:XS) (k:Nat) (v:Value) (rd:World->XS->List Value->α->Prop) (xs:List α):Prop:=
 ∃rows,Sl w X k v rows/\rows.length=xs.length/\ ∀(i:Nat) l x,rows[i]? =some l->xs[i]? =some x->rd w X l x
def GU (rd:World->XS->List Value->α->Prop):Prop:= ∀{X Y:XS} {w w':World} {l:List Value} {x:α},rd w X l x->Mv X w Y w'->rd w' Y l x
theorem fh.mv {rd:World->XS->List Value->α->Prop} {xs:List α} (h:fh w X k v rd xs) (hm:GU rd) (m:Mv X w Y w'):fh w' Y k v rd xs:=by
 obtain⟨rows,h1,h2,h3⟩:=h;exact⟨rows,h1.mv m,h2,λi l x hl hx=>hm (h3 i l x hl hx) m⟩
theorem fh.nil {rd:World->XS->List Value->α->Prop} (w:World) (X:XS) (k:Nat):fh w X k (.slice none 0 0) rd []:=⟨[],Sl.nil w X k,rfl,by simp⟩
theorem fh.one {rd:World->XS->List Value->α->Prop} {xs:List α} (h:fh w X k v rd xs):one v=true:=let⟨_,h1,_⟩:=h;h1.one
theorem fh.len {rd:World->XS->List Value->α->Prop} {xs:List α} (h:fh w X k v rd xs):xs.length<=2^63-1:=by
 obtain⟨_,h1,h2,_⟩:=h;rw[<-h2];exact h1.2.1
theorem Mv.refl (X:XS) (w:World):Mv X w X w:=λ_ hk _=>⟨hk,rfl⟩
def mv0:Mv X w X w:=Mv.refl _ _
def mv1 (h:ai X w Y w'):Mv X w Y w':=h.mv
theorem nq1:l.toArray.toList=l:=rfl
theorem nq2:(a::l).take (i+1)=a::l.take i:=rfl
theorem nq3:(a::l).drop (i+1)=l.drop i:=rfl
theorem nq4:l.take 0=[]:=rfl
theorem nq5:l.drop 0=l:=rfl
theorem nq6:([]:List Value).take i=[]:=List.take_nil
theorem nq7:(a::l).length=l.length+1:=rfl
theorem nq8:([]:List Value).length=0:=rfl
theorem nq9 {m:List Value} :a::l++m=a::(l++m):=rfl
theorem nq0:[]++l=l:=rfl
def mv2 (h:ai X w Y w') (h':ai Y w' Z mD):Mv X w Z mD:=(h.trans h').mv
variable {fo : Nat}
theorem Cells.Xf (h:Cells w X b o l) (hl:l[fo]? =some v):Cells w X b (o+fo) [v]:=by
 have hp:=h.part fo 1;have:(l.drop fo).take 1=[v]:=by
  obtain⟨cx,rfl⟩:=List.getElem?_eq_some_iff.1 hl;rw[kZ cx,List.take_succ_cons,List.take_zero]
 grind
variable {l' : List Value} {S : Nat} {z : Int}
def apL {f sz:Nat} (h:Cells w0 X0 b o l) (hf:fieldInfo P S f=some (fo,sz)) (hz:(sz !=0)=true) (hl:(l.drop fo).take sz=l')
  (k: ∀o',o'=o+fo->Cells w0 X0 b o' l'->N (ptr b o')):aX P X w (iN S f fo sz (ptr b o)) N:=
 HB hf gQ (k _ rfl (hl▸h.part fo sz))
def R5 {f:Nat} (h:Cells w0 X0 b o l) (hf:fieldInfo P S f=some (fo,1)) (hl:l[fo]? =some v)
  (k: ∀o',o'=o+fo->Cells w0 X0 b o' [v]->N (ptr b o')):aX P X w (iN S f fo 1 (ptr b o)) N:=
 HB hf zQ (k _ rfl (h.Xf hl))
def ae6 (h:Cells w0 X0 b o l) (m:Mv X0 w0 X w) (hi:lf P t=some (false,1)) (hl:l[0]? =some v) (k:N v):
  aX P X w (ld1 t (ptr b o)) N:=apJ (h.mv m) hi hl k
def adL (h:Cells w0 X0 b o l) (m:Mv X0 w0 X w) (hi:lf P t=some (true,n)) (hn:l.length=n) (k:N (.agg l.toArray)):
  aX P X w (tW t n (ptr b o)) N:=agM (h.mv m) hi hn k
theorem apM {enc:α->List Value} {xs:List α} (h:Sl w0 X0 k v (xs.map enc))
  (ht:P.underlying t=some (.slice (P.elem t))) (n:N (.int .i64 xs.length)):aX P X w (lN t ty v) N:=by
 obtain⟨_,_,base,cap,rfl,_⟩:=h;exact bB (λwa=>run_len_slice wa t ty base _ cap ht) (by rw[List.length_map];exact n)
theorem apN {rd:World->XS->List Value->α->Prop} {xs:List α} (h:fh w0 X0 k v rd xs)
  (ht:P.underlying t=some (.slice (P.elem t))) (n:N (.int .i64 xs.length)):aX P X w (lN t ty v) N:=by
 obtain⟨rows,⟨_,_,base,cap,rfl,_⟩,h2,_⟩:=h;exact bB (λwa=>run_len_slice wa t ty base _ cap ht) (by rw[h2];exact n)
theorem R6 {r:List Value} (h:Sl w0 X0 k v rows) (hr:rows[i]? =some r) (hz:z=i)
  (ht:P.underlying t=some (.slice (P.elem t))) (hs:(P.info? (P.elem t)).map (·.size)=some k)
  (n: ∀b o,Cells w0 X0 b o r->N (ptr b o)):aX P X w (zy t v (.int .i64 z)) N:=by
 obtain⟨h1,_,base,cap,rfl,hc,_⟩:=h;have hi:i<rows.length:=(List.getElem?_eq_some_iff.1 hr).1;obtain⟨b,o,rfl,jG⟩:=hc gQ;have hp:=jG.part (i*k) k;rw[My h1 hr] at hp;refine bB (λwa=>?_) (n b (o+i*k) hp);subst hz;rw[run_indexAt_slice (h:=ht),if_pos zQ];cases hq:P.info? (P.elem t)with
 |none=>grind
 |some inf=>
  have:inf.size=k:=by simpa [hq] using hs
  simp[sizeOf,typeInfo,hq,this,Aw]
def akH {enc:α->List Value} {xs:List α} {x:α} (h:Sl w0 X0 k v (xs.map enc)) (hr:xs[i]? =some x)
  (hz:z=i) (ht:P.underlying t=some (.slice (P.elem t))) (hs:(P.info? (P.elem t)).map (·.size)=some k)
  (n: ∀b o,Cells w0 X0 b o (enc x)->N (ptr b o)):aX P X w (mG t k v (.int .i64 z)) N:=
 R6 h (i:=i) gQ hz ht hs n
theorem GC {rd:World->XS->List Value->α->Prop} {xs:List α} {x:α} (h:fh w0 X0 k v rd xs) (hr:xs[i]? =some x)
  (hz:z=i) (ht:P.underlying t=some (.slice (P.elem t))) (hs:(P.info? (P.elem t)).map (·.size)=some k)
  (n: ∀b o l,Cells w0 X0 b o l->rd w0 X0 l x->N (ptr b o)):aX P X w (mG t k v (.int .i64 z)) N:=by
 obtain⟨rows,h1,h2,h3⟩:=h;have hi:i<rows.length:=by rw[h2];exact(List.getElem?_eq_some_iff.1 hr).1
 have hl:rows[i]? =some rows[i]:=aS hi;exact R6 h1 hl hz ht hs λb o hc=>n b o _ hc (h3 i _ _ hl hr)
theorem aol (h:Sl w0 X0 k v rows) (ht:P.underlying t=some (.slice (P.elem t)))
  (hT:v= .slice none 0 0->rows=[]->N (.bool true)) (hF:N (.bool false)):aX P X w (eP .eql t xo yo v (.slice none 0 0)) N:=by
 rcases h.src with⟨rfl,hr⟩|⟨a,cap,rfl,_⟩
 ·exact ZT ht (hT rfl hr)
 ·exact ZT ht hF
def ac0 {xs:List α} (h:i<xs.length): ∃x,xs[i]? =some x/\xs.drop i=x::xs.drop (i+1):=
 ⟨xs[i],aS h,kZ h⟩
theorem dD (xs:List α) (i:Nat):(i<xs.length/\ ∃x,xs[i]? =some x/\xs.drop i=x::xs.drop (i+1))\/(xs.length<=i/\xs.drop i=[]):=by
 rcases Nat.lt_or_ge i xs.length with h|h
 ·simp_all
 simp_all
def apO (hl:(l.drop o).take n=l') (k:M (.agg l'.toArray)):un (yK (.agg l.toArray) o n) M:=
 agR (hl▸k)
theorem apP (hl:dr l o cs=l') (k:M (.agg l'.toArray)):
  un (ej (AJ (dr l o cs))) M:=by subst hl;exact k
theorem Xl (h:one v=true) (k:l.all one=true):(v::l).all one=true:=by simp[h,k]
def abg:fC ([]:List Value) one=true:=rfl
def aom (h:l.all one=true) (k:A):jg (fC (dd (bg (.agg l.toArray))) one) A:=ND h k
def aon (h:l.all one=true) (k:A):jg (fC l one) A:=ND h k
def akt (hi:l[i]? =some v) (h:N v):aX P X w (gB (.tuple l.toArray) i) N:=Ou gQ h
theorem H6 {b:Bool} {N:Value->World->XS->Prop}
  (h:Ct P f args w X nX λv _ _=>v= .bool b) (hf:enters P f=true) (hX: ∀k,X k->k<w.heap.size)
  (hT:b=true-> ∀w' X',ai X w X' w'->N (.bool true) w' X') (hF:b=false-> ∀w' X',ai X w X' w'->N (.bool false) w' X'):eC P R X w m f args N:=by
 refine cA h hf hX λv wa w' X' hv _ _ hs=>?_;subst hv;cases b
 ·grind
 grind
theorem dZ {u:Value} {N:Value->World->XS->Prop}
  (h:Ct P f args w X nX λv _ _=>v=u) (hf:enters P f=true) (hX: ∀k,X k->k<w.heap.size)
  (k: ∀w' X',ai X w X' w'->N u w' X'):eC P R X w m f args N:=by
 refine cA h hf hX λv wa w' X' hv _ _ hs=>?_
 grind
theorem aoo {N:Value->World->XS->Prop}
  (h:Ct P f args w X nX λv _ _=> ∃n:Int,v= .int .i64 n) (hf:enters P f=true) (hX: ∀k,X k->k<w.heap.size)
  (k: ∀(n:Int) w' X',ai X w X' w'->N (.int .i64 n) w' X'):eC P R X w m f args N:=by
 refine cA h hf hX λv wa w' X' hv _ _ hs=>?_
 grind
theorem apQ {a b:Int} (h:N (.int .i64 (min a b))):aX P X w (ka #[t,t] ty #[.int .i64 a,.int .i64 b]) N:=
 bB (λwa=>by
  simp only[ka,List.foldlM];by_cases hc:b<a
  ·have:min a b=b:=by omega
   simp[FZ,hc,this]
  ·have:min a b=a:=by omega
   simp[FZ,hc,this]) h
variable {q : IntKind} {dst src : TypeId}
theorem ae7 {k:IntKind} {n:Int} (hs:(P.underlying src).isSome=true) (hd:P.underlying dst=some (.int k))
  (h:N (.int k (k.wrap n))):aX P X w (pT k src dst (.int q n)) N:=bB (λwa=>by
   have e:P.intKind dst=k:=by simp[Program.intKind,hd]
   have:=run_convert_int (P:=P) wa src dst q n hs gQ;rw[e] at this;exact this) h
def apR {n:Int} (hs:(P.underlying src).isSome=true) (hd:P.underlying dst=some (.float .f64))
  (h:N (.float .f64 (floatOfInt .f64 n))):aX P X w (J6 src dst (.int q n)) N:=bB (λwa=>run_convert_int_float wa src dst q .f64 n hs hd) h
theorem apT {e:TypeId} (ht:P.underlying t=some (.array n e)) (he:lf P e=some (false,1)) (hz:z=i) (hn:i<n) (hl:l[i]? =some v)
  (k:N v):aX P X w (Fc t n e (.agg l.toArray) (.int .i64 z)) N:=by
 subst hz;unfold lf at he;split at he
 ·rename_i d q hu E7;simp only[aj,cN] at he;refine bB (v:=v) (λwa=>?_) k;have Cy:(isAgg e).run P wa= .ok false wa:=by cases d<;>simp_all [isAgg,run_underlying hu]
  simp[Fc,BY,asIntOf,run_underlying ht,hn,sizeOf,typeInfo,E7,he.2,part,Cy,hl]
 ·cases he
def apU {op:BinOp} {x y:Nat} (h:floatBits op .f64 x y=some r) (k:N (.float .f64 r)):aX P X w (binOp op t (.float .f64 x) (.float .f64 y)) N:=
 bB (λwa=>run_float_arith wa op t .f64 x y r h) k
theorem LQ (s:ByteArray):s.size=s.data.toList.length:=by rfl
theorem apV {s:ByteArray} {b:UInt8} (hb:s.data.toList[i]? =some b) (hz:z=i) (ht:P.underlying t=some .string) (k:N (.int .u8 b.toNat)):
  aX P X w (BY t (.string s) (.int .i64 z)) N:=by
 subst hz;have hi:i<s.data.toList.length:=(List.getElem?_eq_some_iff.1 hb).1;have E7:i<s.size:=by rw[LQ];exact hi
 refine bB (v:=.int .u8 b.toNat) (λwa=>?_) k;rw[run_index_string wa t s .i64 i ht,dif_pos zQ];have:s[i]=b:=by
  have h2:s.data.toList[i]=b:=(List.getElem?_eq_some_iff.1 hb).2;rw[<-h2];rfl
 simp[this]
theorem ZY (f:Ieee.Format) (s:Bool) (m:Nat) (p:Int):(f.read (f.nearest s m p)).isNaN=false:=by
 have hle: ∃r,f.nearest s m p=f.word s r/\r<=f.infRung:=by
  unfold Ieee.Format.nearest;split
  ·grind
  ·exact⟨_,rfl,Nat.min_le_right _ _⟩
 obtain⟨r,hr,hle⟩:=hle;have cx:=f.infRung_lt;have hm:f.word s r % f.signWeight=r:=by
  unfold Ieee.Format.word;split
  ·rw[Nat.add_mod_left,fq zQ]
  ·rw[fq zQ]
 rw[hr];unfold Ieee.Format.read;simp only[hm];split
 ·rfl
 ·split
  ·rfl
  ·split
   ·rfl
   ·omega
def chain (p:α->Bool) (r:α->α->Bool):Option α->List α->Bool
 |_,[]=>true
 |none,x::l=>p x&&chain p r (some x) l
 |some y,x::l=>p x&&r y x&&chain p r (some x) l
def uN (xs:List α) (i:Nat):Option α:=if i=0 then none else xs[i-1]?
theorem rB {xs:List α} {x:α} (h:xs[i]? =some x):uN xs (i+1)=some x:=by assumption
theorem NI {xs:List α} (h:i<xs.length):(i=0/\uN xs i=none)\/(0<i/\ ∃y,xs[i-1]? =some y/\uN xs i=some y):=by
 by_cases h0:i=0
 ·grind [uN]
 ·have:xs[i-1]? =some xs[i-1]:=aS zQ
  grind [uN]
variable {P : Program} {R : Ending -> World -> Prop} {X : XS} {w : World} {m : Bool}
theorem foldl_set (l:List Value): ∀(n:Nat) (cs:Array Value),n+l.length<=cs.size->
  ((l.zipIdx n).foldl (λ(cs:Array Value) (p:Value×Nat)=>cs.setIfInBounds p.2 p.1) cs).toList=cs.toList.take n++l++cs.toList.drop (n+l.length):=by
 induction l with
 |nil=>intro n cs h;simp
 |cons x r ih=>
  intro n cs h;simp only[aM] at h;simp only[List.zipIdx_cons,List.foldl_cons];rw[ih (n+1) _ oQ];have hn:n<cs.toList.length:=by simp;omega
  simp only[Array.toList_setIfInBounds,aM];rw[List.take_set,List.drop_set_of_lt zQ];have:(cs.toList.take (n+1)).set n x=cs.toList.take n++[x]:=by
   rw[List.take_add_one,aS hn];simp only[Option.toList_some];rw[List.set_append_right _ _ oQ];have hm:(cs.toList.take n).length=n:=by rw[List.length_take];omega
   rw[hm,Nat.sub_self,List.set_cons_zero]
  rw[this];simp only[List.append_assoc,List.cons_append,cB]
  grind
variable {x : Value}
theorem F9 {cs:Array Value} (hx:x.cells.size=k) (hc:cs.size=k):
  rG (λi=>some (i*k,k)) cs [(0,x)]=some x.cells:=by
 unfold rG;simp only[Nat.zero_mul,ff,hx,ne_eq,not_true_eq_false,decide_false,hc,Nat.lt_irrefl,gt_iff_lt,Bool.or_self,aW,if_false];unfold rG;simp only[aj];apply Array.ext';have:=foldl_set x.cells.toList 0 cs oQ;rw[<-Array.toList_zipIdx,Array.foldl_toList] at this;simp_all
def cU (v:Value):XS:=λg=>v.ownBlock=some g
def nf (P:Program) (t e k bytes:Nat):Bool:=match P.underlying t,P.info? e with
 |some (.slice e'),some i=>e'==e&&i.size==k&&i.bytes==bytes&&(match i.zero with|some z=>z.cells.size==k|none=>false)&&decide (0<k)&&decide (k<=2^20)
 |_,_=>false
variable {bytes : Nat}
theorem mC {t:Nat} (h:nf P t e k bytes=true):P.underlying t=some (.slice e)/\0<k/\k<=2^20/\
  ∃z:Value,(P.info? e).bind (λi=>i.zero.map λz=>(i.size,i.bytes,z))=some (k,bytes,z)/\(P.info? e).bind (λi=>i.zero.map λz=>(i.size,z))=some (k,z)/\z.cells.size=k:=by
 unfold nf at h;split at h
 ·rename_i e' i hu hi;simp only[aC,beq_iff_eq,decide_eq_true_eq] at h;obtain⟨⟨⟨⟨⟨rfl,h2⟩,h3⟩,h4⟩,h5⟩,h6⟩:=h;cases hz:i.zero with
  |none=>grind
  |some z=>
   simp_all
 ·cases h
section
variable {t ty : Nat} {s : Value} {cT : List (List Value)} {row : List Value} {N : Value -> World -> XS -> Prop}
theorem agS (own:Own w X w0.heap.size e k v rows) (hs:ai X0 w0 X w) (h0: ∀k,X0 k->k<w0.heap.size) (he:nf P t e k bytes=true) (hx:x.cells.toList=row) (hk:(row.length==k)=true)
  (h1:row.all one=true) (hb:(rows.length+1)*bytes<=140737488355328) (hl:rows.length+1<=2^63-1)
  (n: ∀v' w' X',ai X0 w0 X' w'->Own w' X' w0.heap.size e k v' (rows++[row])->ee (cU v) X w X' w'->(v'.ownBlock=v.ownBlock\/ ∃g,v'.ownBlock=some g/\w.heap.size<=g)->N v' w' X'):
  eV P R X w m (gR t e k 1 #[(0,x)]) λs w1 X1=>eV P R X1 w1 true (ru t e k bytes ty v s) N:=by
 obtain⟨hu,iq,FU,z,hi,hz,uI⟩:=mC he;have ah:row.length=k:=by simpa using hk
 have Kw:x.cells.size=k:=by rw[<-ah,<-hx,fv]
 refine CN (rows:=[row]) x.cells z hs.has hu hz zQ zQ ?_ (by simpa using ah) rfl gQ λs w1 X1 ay GN=>?_
 ·simp only[BX];exact F9 Kw sQ
 ·have gy:w0.heap.size<=w1.heap.size:=ad hs.kp.size ay.kp.size;refine DK (cT:=[row]) z hu hi uI iq ay.has gy (own.since ay) GN.sl (by simpa using h1) zQ zQ λv2 w2 X2 hg ho dg=>?_;have hd: ∀g,v.ownBlock=some g->w0.heap.size<=g:=λg hg=>(own.ge hg).1;refine n v2 w2 X2 ((hs.trans ay).grown hg λg hg0 he=>?_) ho ?_ ?_
  ·have:=hd g he.symm;have:=h0 g hg0;omega
  ·exact(ee.nQ ay (cU v)).trans (hg.ea.mono λk _ hk=>hk.symm)
  ·rcases dg with h|⟨g,h,dA⟩
   ·exact .inl h
   ·exact .inr ⟨g,h,ad ay.kp.size dA⟩
def alM (own:Own w X w0.heap.size e k v rows) (hs:ai X0 w0 X w) (h0: ∀k,X0 k->k<w0.heap.size) (he:nf P t e k bytes=true) (hk:(l.length==k)=true)
  (h1:l.all one=true) (hb:(rows.length+1)*bytes<=140737488355328) (hl:rows.length+1<=2^63-1)
  (n: ∀v' w' X',ai X0 w0 X' w'->Own w' X' w0.heap.size e k v' (rows++[l])->ee (cU v) X w X' w'->(v'.ownBlock=v.ownBlock\/ ∃g,v'.ownBlock=some g/\w.heap.size<=g)->N v' w' X'):
  eV P R X w m (gR t e k 1 #[(0,.agg l.toArray)]) λs w1 X1=>eV P R X1 w1 true (ru t e k bytes ty v s) N:=agS own hs h0 he rfl hk h1 hb hl n
theorem Nq (own:Own w X w0.heap.size e k v rows) (hs:ai X0 w0 X w) (h0: ∀k,X0 k->k<w0.heap.size) (he:nf P t e k bytes=true) (hk:(k==1)=true)
  (ho:one x=true) (hb:(rows.length+1)*bytes<=140737488355328) (hl:rows.length+1<=2^63-1)
  (n: ∀v' w' X',ai X0 w0 X' w'->Own w' X' w0.heap.size e k v' (rows++[[x]])->ee (cU v) X w X' w'->(v'.ownBlock=v.ownBlock\/ ∃g,v'.ownBlock=some g/\w.heap.size<=g)->N v' w' X'):
  eV P R X w m (gR t e k 1 #[(0,x)]) λs w1 X1=>eV P R X1 w1 true (ru t e k bytes ty v s) N:=by
 refine agS (row:=[x]) own hs h0 he ?_ (by simpa using (beq_iff_eq.1 hk).symm) (by simpa using ho) hb hl n;cases x<;>first|rfl|cases ho
theorem qu (own:Own w X w0.heap.size e k v rows) (hs:ai X0 w0 X w) (h0: ∀k,X0 k->k<w0.heap.size) (he:nf P t e k bytes=true) (src:Sl w X k s cT) (h1: ∀r∈cT,∀u∈r,one u=true)
  (hb:(rows.length+cT.length)*bytes<=140737488355328) (hl:rows.length+cT.length<=2^63-1)
  (n: ∀v' w' X',ai X0 w0 X' w'->Own w' X' w0.heap.size e k v' (rows++cT)->ee (cU v) X w X' w'->(v'.ownBlock=v.ownBlock\/ ∃g,v'.ownBlock=some g/\w.heap.size<=g)->N v' w' X'):
  eV P R X w true (ru t e k bytes ty v s) N:=by
 obtain⟨hu,iq,FU,z,hi,hz,uI⟩:=mC he;refine DK (cT:=cT) z hu hi uI iq hs.has hs.kp.size own src h1 hb hl λv2 w2 X2 hg ho dg=>?_;have hd: ∀g,v.ownBlock=some g->w0.heap.size<=g:=λg hg=>(own.ge hg).1;refine n v2 w2 X2 (hs.grown hg λg hg0 he=>?_) ho (hg.ea.mono λk _ hk=>hk.symm) dg;have:=hd g he.symm;have:=h0 g hg0;omega
def adQ (hX: ∀k,X k->k<w.heap.size) (hu:P.underlying t=some (.slice e)) (hz:(P.info? e).map (·.size)=some k)
  (n: ∀v w' X',ai X w X' w'->Own w' X' w.heap.size e k v []->N v w' X'):eV P R X w m (gR t e k 0 #[]) N:=agO hX hu hz n
end
theorem Xb {t len:Nat} {N:Value->World->XS->Prop} (cells:Array Value) (z:Value) (hX: ∀k,X k->k<w.heap.size) (he:nf P t e k bytes=true)
  (hz:(P.info? e).bind (·.zero)=some z) (Zd:0<len*k) (R3:len*k<=2^24)
  (h:rG (λi=>some (i*k,k)) ((B0 (len*k)).map (z.cells[· % z.cells.size]!)) parts.toList=some cells)
  (Df: ∀r∈rows,r.length=k) (hlen:rows.length=len) (hc:cells.toList=rows.flatten)
  (n: ∀v w' X',ai X w X' w'->Own w' X' w.heap.size e k v rows->N v w' X'):eV P R X w m (gR t e k len parts) N:=by
 obtain⟨hu,iq,FU,z',hi,uX,uI⟩:=mC he;have:z'=z:=by
  cases hq:P.info? e with
  |none=>grind
  |some ie=>simp_all
 subst this;exact CN cells z' hX hu uX Zd R3 h Df hlen hc n
end Go.aJ
namespace Go.aJ
variable {P : Program} {R : Ending -> World -> Prop} {X Y A A' : XS} {w w' : World} {m : Bool} {κ : Type} [DecidableEq κ] {α : Type}
def ZZ (P:Program) (S f:Nat):Option Bool:=match P.underlying S with
 |some (.struct fs)=>match fs[f]? with
  |some x=>match P.underlying x.type with
   |some (.struct _)|some (.array _ _)=>some true
   |some _=>some false
   |none=>none
  |none=>none
 |_=>none
def qG (rd:World->XS->Value->α->Prop):Prop:= ∀(X Y:XS) (w w':World) (v:Value) (x:α),rd w X v x->Mv X w Y w'->rd w' Y v x
def nZ (w:World) (A:XS) (rd:World->XS->Value->α->Prop):List (jy κ)->List (κ×α)->Prop
 |[],[]=>True
 |e::es,x::l=>e.1=x.1/\rd w A e.2.1 x.2/\nZ w A rd es l
 |_,_=>False
theorem nZ.mv {rd:World->XS->Value->α->Prop} (hm:qG rd) (v:Mv A w A' w'): ∀{es:List (jy κ)} {l:List (κ×α)},nZ w A rd es l->nZ w' A' rd es l
 |[],[],_=>trivial
 |_::_,_::_,⟨h1,h2,h3⟩=>⟨h1,hm _ _ _ _ _ _ h2 v,nZ.mv hm v h3⟩
 |[],_::_,h=>h.elim
 |_::_,[],h=>h.elim
theorem nZ.keys {rd:World->XS->Value->α->Prop} : ∀{es:List (jy κ)} {l:List (κ×α)},nZ w A rd es l->es.map (·.1)=l.map (·.1)
 |[],[],_=>rfl
 |_::_,_::_,⟨h1,_,h3⟩=>by simp[h1,nZ.keys h3]
 |[],_::_,h=>h.elim
 |_::_,[],h=>h.elim
theorem nZ.append {rd:World->XS->Value->α->Prop} : ∀{es es':List (jy κ)} {l l':List (κ×α)},nZ w A rd es l->nZ w A rd es' l'->nZ w A rd (es++es') (l++l')
 |[],_,[],_,_,h'=>h'
 |_::_,_,_::_,_,⟨h1,h2,h3⟩,h'=>⟨h1,h2,nZ.append h3 h'⟩
 |[],_,_::_,_,h,_=>h.elim
 |_::_,_,[],_,h,_=>h.elim
def getM (k:κ) (l:List (κ×α)):Option α:=(l.find? λx=>decide (x.1=k)).map (·.2)
def cI (k:κ) (a:α):List (κ×α)->List (κ×α)
 |[]=>[(k,a)]
 |x::l=>if x.1=k then(k,a)::l else x::cI k a l
def ji (k:κ) (l:List (κ×α)):List (κ×α):=l.filter λx=>decide (x.1≠k)
theorem nZ.get {rd:World->XS->Value->α->Prop} (k:κ): ∀{es:List (jy κ)} {l:List (κ×α)},nZ w A rd es l->
  (HC k es=none/\getM k l=none)\/ ∃v a,HC k es=some v/\getM k l=some a/\rd w A v a
 |[],[],_=>.inl ⟨rfl,rfl⟩
 |e::es,x::l,⟨h1,h2,h3⟩=>by
  by_cases hk:x.1=k
  ·exact .inr ⟨e.2.1,x.2,by simp[HC,h1,hk],by simp[getM,hk],h2⟩
  ·rcases nZ.get k h3 with⟨q1,q2⟩|⟨v,a,q1,q2,q3⟩
   ·left;constructor
    ·simp only[HC,fM,h1,hk,decide_false,aW,if_false];exact q1
    ·simp only[getM,fM,hk,decide_false,aW,if_false];exact q2
   ·right;refine⟨v,a,?_,?_,q3⟩
    ·simp only[HC,fM,h1,hk,decide_false,aW,if_false];exact q1
    ·simp only[getM,fM,hk,decide_false,aW,if_false];exact q2
 |[],_::_,h=>h.elim
 |_::_,[],h=>h.elim
def G7 (k:κ) (v:Value) (c:Nat):List (jy κ)->List (jy κ)
 |[]=>[(k,v,c)]
 |e::es=>if e.1=k then(e.1,v,e.2.2)::es else e::G7 k v c es
theorem ac1 (k:κ) (v:Value) (c:Nat) (es:List (jy κ)):(HD k v c es).1=G7 k v c es:=by
 induction es with
 |nil=>rfl
 |cons e es ih=>
  unfold HD at ih⊢;by_cases hk:e.1=k
  ·simp[mn,hk,G7]
  ·simp only[mn,hk,decide_false,aW,if_false,G7];cases hf:es.findIdx? λx=>decide (x.1=k)with
   |none=>grind
   |some j=>grind
variable {c : Nat} {v : Value}
theorem nZ.put {rd:World->XS->Value->α->Prop} {k:κ} {a:α} (hv:rd w A v a): ∀{es:List (jy κ)} {l:List (κ×α)},nZ w A rd es l->nZ w A rd (G7 k v c es) (cI k a l)
 |[],[],_=>⟨rfl,hv,trivial⟩
 |e::es,x::l,⟨h1,h2,h3⟩=>by
  unfold G7 cI;by_cases hk:x.1=k
  ·rw[if_pos (h1.trans hk),if_pos hk];exact⟨h1.trans hk,hv,h3⟩
  ·rw[if_neg gQ,if_neg hk];exact⟨h1,h2,nZ.put hv h3⟩
 |[],_::_,h=>h.elim
 |_::_,[],h=>h.elim
def Xg (k:κ) (es:List (jy κ)):List (jy κ):=es.filter λx=>decide (x.1≠k)
theorem ac2 (k:κ): ∀(es:List (jy κ)),(es.map (·.1)).Nodup->P9 k es=Xg k es
 |[],_=>rfl
 |e::es,h=>by
  have h':(es.map (·.1)).Nodup:=(List.nodup_cons.1 h).2;have ih:=ac2 k es h';unfold P9 at ih⊢;by_cases hk:e.1=k
  ·have:es.filter (λx=>decide (x.1≠k))=es:=List.filter_eq_self.2 λx hx=>by
    have:x.1≠k:=λhxk=>(List.nodup_cons.1 h).1 (by simp only[List.mem_map];exact⟨x,hx,by rw[hxk,hk]⟩)
    grind
   simp only[Xg] at this⊢;simp only[mn,hk,decide_true,if_true,List.eraseIdx_cons_zero,ne_eq,not_true_eq_false,decide_false,eH,aW,if_false]
   grind
  ·simp only[mn,hk,decide_false,aW,if_false];cases hf:es.findIdx? λx=>decide (x.1=k)with
   |none=>rw[hf] at ih;simp only[Cp];simp only at ih;rw[ih];simp[Xg,hk,<-ih]
   |some j=>rw[hf] at ih;simp only[ba,List.eraseIdx_cons_succ] at ih⊢;rw[ih];simp[Xg,hk]
theorem nZ.filter {rd:World->XS->Value->α->Prop} (p:κ->Bool): ∀{es:List (jy κ)} {l:List (κ×α)},nZ w A rd es l->nZ w A rd (es.filter λx=>p x.1) (l.filter λx=>p x.1)
 |[],[],_=>trivial
 |e::es,x::l,⟨h1,h2,h3⟩=>by
  have ih:=nZ.filter p h3;by_cases hp:p x.1=true
  ·simp only[eH,h1,hp,if_true];exact⟨h1,h2,ih⟩
  grind
 |[],_::_,h=>h.elim
 |_::_,[],h=>h.elim
theorem nZ.mem {rd:World->XS->Value->α->Prop} : ∀{es:List (jy κ)} {l:List (κ×α)},nZ w A rd es l-> ∀e∈es,∃a,(e.1,a)∈l/\rd w A e.2.1 a
 |[],[],_,_,h=>by cases h
 |e0::es,x::l,⟨h1,h2,h3⟩,e,he=>by
  rcases List.mem_cons.1 he with rfl|he
  ·grind
  ·obtain⟨a,ha,hr⟩:=nZ.mem h3 e he
   grind
 |[],_::_,h,_,_=>h.elim
 |_::_,[],h,_,_=>h.elim
def dL (w:World) (X A:XS) (b:Nat) (kv:κ->Value) (rd:World->XS->Value->α->Prop) (l:List (κ×α)):Prop:=
 ∃es c,mB w X b kv es c/\nZ w A rd es l
variable {b : Nat}
def dL.mv {kv:κ->Value} {rd:World->XS->Value->α->Prop} {l:List (κ×α)} (h:dL w X A b kv rd l) (hm:qG rd) (v:Mv X w Y w') (va:Mv A w A' w'):dL w' Y A' b kv rd l:=
 let⟨es,c,h1,h2⟩:=h
 ⟨es,c,h1.mv v,h2.mv hm va⟩
theorem dL.nodup {kv:κ->Value} {rd:World->XS->Value->α->Prop} {l:List (κ×α)} (h:dL w X A b kv rd l):(l.map (·.1)).Nodup:=by
 obtain⟨es,c,h1,h2⟩:=h;rw[<-h2.keys];exact h1.2.2.1
theorem dL.x {kv:κ->Value} {rd:World->XS->Value->α->Prop} {l:List (κ×α)} (h:dL w X A b kv rd l):X b/\b<w.heap.size:=
 let⟨_,_,h1,_⟩:=h
 ⟨h1.1,(Array.getElem?_eq_some_iff.1 h1.2.1).1⟩
theorem dL.own {kv:κ->Value} {rd:World->XS->Value->α->Prop} {l:List (κ×α)} (h:dL w X A b kv rd l):dL w (λk=>k=b) A b kv rd l:=
 let⟨es,c,h1,h2⟩:=h
 ⟨es,c,⟨rfl,h1.2⟩,h2⟩
variable {ty : TypeId} {cs : List Value}
theorem aI.own (h:aI w X b cs ty):aI w (λk=>k=b) b cs ty:=⟨rfl,h.2⟩
theorem aI.lt (h:aI w X b cs ty):b<w.heap.size:=(Array.getElem?_eq_some_iff.1 h.2).1
theorem Mv.one (hk:Kp X w w') (hb:X b) (hy:Y b):Mv (λk=>k=b) w Y w':=λk ah _=>by subst ah;exact⟨hy,hk.block _ hb⟩
variable {N : Value -> World -> XS -> Prop}
def rA {t:TypeId} {kv:κ->Value} (rd:World->XS->Value->α->Prop) (A:XS) (hX: ∀k,X k->k<w.heap.size)
  (n: ∀b w' X',w.heap.size<=b->ai X w X' w'->dL w' X' A b kv rd []->N (.map (some b)) w' X'):eV P R X w m (fW t none) N:=
 aeY hX λb w' X' hb hs hm=>n b w' X' hb hs ⟨[],0,hm,trivial⟩
variable {et kt t : Nat}
theorem Ga {kv:κ->Value} {rd:World->XS->Value->α->Prop} {l:List (κ×α)} {k:κ} {N:Value->Prop} (z:Value) (h:dL w X A b kv rd l) (K:xA P kt kv)
  (ht:P.underlying t=some (.map kt et)) (hz:(P.info? et).bind (·.zero)=some z)
  (n1: ∀v a,getM k l=some a->rd w A v a->N (.tuple #[v,.bool true])) (n0:getM k l=none->N (.tuple #[z,.bool false])):
  aX P X w (bG t (.map (some b)) (kv k) true) N:=by
 obtain⟨es,c,h1,h2⟩:=h;refine aeX z h1 K ht hz ?_;rcases h2.get k with⟨q1,q2⟩|⟨v,a,q1,q2,q3⟩
 ·grind
 grind
theorem mZ {kv:κ->Value} {rd:World->XS->Value->α->Prop} {l:List (κ×α)} {k:κ} {N:Value->Prop} (z:Value) (h:dL w X A b kv rd l) (K:xA P kt kv)
  (ht:P.underlying t=some (.map kt et)) (hz:(P.info? et).bind (·.zero)=some z)
  (n1: ∀v a,getM k l=some a->rd w A v a->N v) (n0:getM k l=none->N z):
  aX P X w (bG t (.map (some b)) (kv k) false) N:=by
 have key: ∀u q,(∀wa,Kp X w wa->(bG t (.map (some b)) (kv k) true).run P wa= .ok (.tuple #[u,.bool q]) wa)-> ∀wa,Kp X w wa->(bG t (.map (some b)) (kv k) false).run P wa= .ok u wa:=by
  intro u q hq wa hk;have h1:=hq wa hk;obtain⟨es,c,hm,_⟩:=h;simp only[bG,bp,run_underlying ht,aO,getObj,tP,((hm.kp hk).2.1),K.jg,cM,K.find] at h1⊢;cases hf:tw k es 0 with
  |none=>
   cases hi:P.info? et with
   |none=>simp[hi] at hz
   |some inf=>
    have uX:inf.zero=some z:=by simpa [hi] using hz
    simp[zeroValue,typeInfo,hi,uX,K.find,hf] at h1⊢;exact h1.1
  |some r=>
   simp[K.find,hf] at h1⊢;exact h1.1
 have:=Ga (N:=λv=> ∃u q,v= .tuple #[u,.bool q]/\N u) z h K ht hz (λv a h1 h2=>⟨v,_,rfl,n1 v a h1 h2⟩) (λh0=>⟨z,_,rfl,n0 h0⟩);obtain⟨v,hv,u,q,rfl,hn⟩:=this;refine HZ u (key u q λwa hk=>?_) hn;have:=hv wa hk;simp only[vS,bp] at this;cases hr:(bG t (.map (some b)) (kv k) true).run P wa with
 |ok a w2=>rw[hr] at this;simp only[aO,bO,Result.ok.injEq,Next.value.injEq] at this;grind
 |halt a w2=>grind [Result.andThen]
theorem vK {kv:κ->Value} {rd:World->XS->Value->α->Prop} {l:List (κ×α)} {k:κ} {a:α} (h:dL w X A b kv rd l) (hm:qG rd)
  (hv:rd w A v a) (hA: ∀k,A k->X k/\k≠b) (K:xA P kt kv) (ht:P.underlying t=some (.map kt et)) (hX: ∀k,X k->k<w.heap.size)
  (n: ∀w' X',ee (· =b) X w X' w'->dL w' X' A b kv rd (cI k a l)->N undef w' X'):
  eU P R X w true (cH t (.map (some b)) (kv k) v) N:=by
 obtain⟨es,c,h1,h2⟩:=h;refine agP h1 K ht hX λw' X' hg hi=>?_;have hc:ee (· =b) X w X' w':=hg.ea.mono λk _ hk=>by simpa using hk
 refine n w' X' hc ⟨_,_,hi,?_⟩;rw[ac1];have mv:Mv A w A w':=λk hk _=>⟨hk,hc.block k (hA k hk).1 (hA k hk).2⟩;exact(h2.put hv).mv hm mv
theorem ajv {tk ty:Nat} {kv:κ->Value} {rd:World->XS->Value->α->Prop} {l:List (κ×α)} {k:κ} (h:dL w X A b kv rd l) (hm:qG rd)
  (hA: ∀k,A k->X k/\k≠b) (K:xA P kt kv) (ht:P.underlying t=some (.map kt et)) (hX: ∀k,X k->k<w.heap.size)
  (n: ∀w' X',ee (· =b) X w X' w'->dL w' X' A b kv rd (ji k l)->N (.tuple #[]) w' X'):
  eV P R X w true (sC #[t,tk] ty #[.map (some b),kv k]) N:=by
 obtain⟨es,c,h1,h2⟩:=h;refine agQ h1 K ht hX λw' X' hg hi=>?_;have hc:ee (· =b) X w X' w':=hg.ea.mono λk _ hk=>by grind
 refine n w' X' hc ⟨_,_,hi,?_⟩;rw[ac2 _ _ h1.2.2.1];have mv:Mv A w A w':=λk hk _=>⟨hk,hc.block k (hA k hk).1 (hA k hk).2⟩;exact(h2.filter (λx=>decide (x≠k))).mv hm mv
def MC (w:World) (X A:XS) (r b:Nat) (kv:κ->Value) (rd:World->XS->Value->α->Prop) (l left:List (κ×α)):Prop:=
 ∃es c O7,B1 w X r b kv es c O7/\nZ w A rd es l/\nZ w A rd O7 left/\O7.Sublist es
variable {r : Nat}
theorem MC.mv {kv:κ->Value} {rd:World->XS->Value->α->Prop} {l left:List (κ×α)} (h:MC w X A r b kv rd l left) (hm:qG rd) (v:Mv X w Y w') (va:Mv A w A' w'):MC w' Y A' r b kv rd l left:=by
 obtain⟨es,c,O7,h1,h2,h3,h4⟩:=h;refine⟨es,c,O7,⟨h1.1.mv v,?_,h1.2.2.1,?_⟩,h2.mv hm va,h3.mv hm va,h4⟩
 ·obtain⟨s,hs,_⟩:=h1.2.2.2;exact(v r h1.2.1 (Array.getElem?_eq_some_iff.1 hs).1).1
 ·obtain⟨s,hs,hl⟩:=h1.2.2.2;exact⟨s,by rw[(v r h1.2.1 (Array.getElem?_eq_some_iff.1 hs).1).2];exact hs,hl⟩
theorem MC.map {kv:κ->Value} {rd:World->XS->Value->α->Prop} {l left:List (κ×α)} (h:MC w X A r b kv rd l left):dL w X A b kv rd l:=
 let⟨es,c,_,h1,h2,_⟩:=h
 ⟨es,c,h1.1,h2⟩
theorem MC.nodup {kv:κ->Value} {rd:World->XS->Value->α->Prop} {l left:List (κ×α)} (h:MC w X A r b kv rd l left):(left.map (·.1)).Nodup:=by
 obtain⟨es,c,O7,h1,h2,h3,h4⟩:=h;rw[<-h3.keys];exact h1.1.2.2.1.sublist (h4.map _)
theorem agT {l:List (κ×α)} (c:κ×α->Bool):(l.map (·.1)).Nodup-> ∀{k:κ} {a:α},(k,a)∈l->l.any c=(c (k,a)||(l.filter λy=>decide (y.1≠k)).any c):=by
 induction l with
 |nil=>grind
 |cons x l ih=>
  intro hn k a h;have mE:=List.nodup_cons.1 hn;rcases List.mem_cons.1 h with h|h
  ·subst h;have:l.filter (λy=>decide (y.1≠k))=l:=List.filter_eq_self.2 λy hy=>by
    have:y.1≠k:=λe=>mE.1 (List.mem_map.2 ⟨y,hy,e⟩)
    grind
   simp only[List.any_cons,eH,ne_eq,not_true_eq_false,decide_false,aW,if_false];simp only[ne_eq] at this;rw[this]
  ·have hx:x.1≠k:=λe=>mE.1 (List.mem_map.2 ⟨(k,a),h,e.symm⟩);have:=ih mE.2 h;simp only[List.any_cons,eH,hx,ne_eq,not_false_eq_true,decide_true,if_true];simp only[ne_eq] at this;rw[this,<-Bool.or_assoc,<-Bool.or_assoc,Bool.or_comm (c x)]
theorem alN {l:List (κ×α)} {k:κ} {a:α} (h:(k,a)∈l):(l.filter λy=>decide (y.1≠k)).length<l.length:=by
 refine Nat.lt_of_le_of_ne (List.length_filter_le _ _) λe=>?_;have:=List.length_filter_eq_length_iff.1 e (k,a) h;simp at this
variable {w0 : World} {X0 : XS}
def ai.je (h:ai X0 w0 X w) (hA: ∀k,A k->X0 k):Mv A w0 A w:=λk hk _=>⟨hk,h.kp.block k (hA k hk)⟩
theorem alO {kv:κ->Value} {rd:World->XS->Value->α->Prop} {l:List (κ×α)} (h:dL w X A b kv rd l) (hm:qG rd) (hA: ∀k,A k->X k)
  (ht:P.underlying t=some (.map kt et)) (hX: ∀k,X k->k<w.heap.size)
  (n: ∀r w' X',w.heap.size<=r->ai X w X' w'->MC w' X' A r b kv rd l l->N (ptr r 0) w' X'):eV P R X w m (xy t (.map (some b))) N:=by
 obtain⟨es,c,h1,h2⟩:=h;refine ajf h1 ht hX λr w' X' hr hs hi=>n r w' X' hr hs ?_;have mv:Mv A w A w':=λk hk _=>⟨hk,hs.kp.block k (hA k hk)⟩;exact⟨es,c,es,hi,h2.mv hm mv,h2.mv hm mv,List.Sublist.refl _⟩
theorem aop {ty:Nat} {kv:κ->Value} {rd:World->XS->Value->α->Prop} {l left:List (κ×α)} (h:MC w X A r b kv rd l left) (hm:qG rd)
  (hA: ∀k,A k->X k/\k≠r) (hX: ∀k,X k->k<w.heap.size)
  (n0:left=[]-> ∀w' X',ai X w X' w'->N (.tuple #[.bool false]) w' X')
  (n1: ∀k a v,(k,a)∈left-> ∀w' X',ee (· =r) X w X' w'->rd w' A v a->MC w' X' A r b kv rd l (left.filter λy=>decide (y.1≠k))->
   (∀wa,Kp X' w' wa->(pZ (ptr r 0)).run P wa= .ok (.tuple #[kv k,v]) wa)->N (.tuple #[.bool true,kv k,v]) w' X'):
  eV P R X w true (Instr.next (ptr r 0) false ty) N:=by
 obtain⟨es,c,O7,h1,h2,h3,h4⟩:=h;refine alI h1 hX (λh0 w' X' hs=>n0 ?_ w' X' hs) λx hx w' X' hg hi he=>?_
 ·subst h0;cases left with
  |nil=>rfl
  |cons y t=>exact h3.elim
 ·have hc:ee (· =r) X w X' w':=hg.ea.mono λk _ hk=>by simpa using hk
  have mv:Mv A w A w':=λk hk _=>⟨hk,hc.block k (hA k hk).1 (hA k hk).2⟩;obtain⟨a,ha,A5⟩:=h3.mem x hx;refine n1 x.1 a x.2.1 ha w' X' hc (hm _ _ _ _ _ _ A5 mv) ?_ he;have hk: ∀y∈O7,decide (y.2.2≠x.2.2)=decide (y.1≠x.1):=by
   intro y hy;have hye:=h4.subset hy;have n1:=h1.1.2.2.1;have n2:=h1.1.2.2.2.1;obtain⟨i,hi9,rfl⟩:=zl hye;obtain⟨j,hj,rfl⟩:=zl (h4.subset hx);have inj: ∀{β:Type} (f:jy κ->β),(es.map f).Nodup->(f es[i]=f es[j]↔i=j):=by
    intro β f n;constructor
    ·intro e;have hp:=List.pairwise_iff_getElem.1 n;rcases Nat.lt_trichotomy i j with h|h|h
     ·exact absurd (by rw[qW,qW];exact e) (hp i j (by simpa using hi9) (by simpa using hj) h)
     ·exact h
     ·exact absurd (by rw[qW,qW];exact e.symm) (hp j i (by simpa using hj) (by simpa using hi9) h)
    ·rintro rfl;rfl
   have e1:=inj (·.1) n1;have e2:=inj (·.2.2) n2;simp only[ne_eq,e1,e2]
  have hf:(O7.filter λy=>decide (y.2.2≠x.2.2))=O7.filter λy=>decide (y.1≠x.1):=List.filter_congr hk;refine⟨es,c,_,hi,h2.mv hm mv,?_,?_⟩
  ·rw[hf];exact(h3.filter (λk=>decide (k≠x.1))).mv hm mv
  ·exact(List.filter_sublist).trans h4
def alP {k:Value} (hX: ∀k,X k->k<w.heap.size)
  (h: ∀wa,Kp X w wa->(pZ (ptr r 0)).run P wa= .ok (.tuple #[k,v]) wa) (n: ∀w' X',ai X w X' w'->N (.tuple #[k,v]) w' X'):
  eV P R X w m (pZ (ptr r 0)) N:=ajg hX h n
def TA (w:World) (A:XS) (rd:World->XS->Value->α->Prop) (k:κ):List (jy κ)->List (κ×α)->Prop
 |[],[]=>True
 |e::es,x::l=>e.1=x.1/\(x.1≠k->rd w A e.2.1 x.2)/\TA w A rd k es l
 |_,_=>False
def ae8 (w:World) (X A:XS) (b:Nat) (kv:κ->Value) (rd:World->XS->Value->α->Prop) (k:κ) (l:List (κ×α)):Prop:=
 ∃es c,mB w X b kv es c/\TA w A rd k es l
theorem nZ.toX {rd:World->XS->Value->α->Prop} {k:κ} : ∀{es:List (jy κ)} {l:List (κ×α)},nZ w A rd es l->
  (∀x v,x∈l->x.1≠k->rd w A v x.2->rd w' A' v x.2)->TA w' A' rd k es l
 |[],[],_,_=>trivial
 |e::es,x::l,⟨h1,h2,h3⟩,hm=>⟨h1,λhk=>hm x _ sQ hk h2,nZ.toX h3 λy v hy=>hm y v (by simp[hy])⟩
 |[],_::_,h,_=>h.elim
 |_::_,[],h,_=>h.elim
theorem dL.toX {kv:κ->Value} {rd:World->XS->Value->α->Prop} {k:κ} {l:List (κ×α)} (h:dL w X A b kv rd l) (m:Mv (λg=>g=b) w Y w')
  (hm: ∀x v,x∈l->x.1≠k->rd w A v x.2->rd w' A' v x.2):ae8 w' Y A' b kv rd k l:=by
 obtain⟨es,c,h1,h2⟩:=h;exact⟨es,c,mB.mv (X:=λg=>g=b) ⟨rfl,h1.2⟩ m,h2.toX hm⟩
theorem TA.put {rd:World->XS->Value->α->Prop} {k:κ} {a:α} (hv:rd w A v a): ∀{es:List (jy κ)} {l:List (κ×α)},(es.map (·.1)).Nodup->TA w A rd k es l->nZ w A rd (G7 k v c es) (cI k a l)
 |[],[],_,_=>⟨rfl,hv,trivial⟩
 |e::es,x::l,hn,⟨h1,h2,h3⟩=>by
  have mE:=List.nodup_cons.1 hn;unfold G7 cI;by_cases hk:x.1=k
  ·rw[if_pos (h1.trans hk),if_pos hk];refine⟨h1.trans hk,hv,?_⟩;have bU: ∀y∈es,y.1≠k:=λy hy e'=>mE.1 (List.mem_map.2 ⟨y,hy,e'.trans (hk.symm.trans h1.symm)⟩);clear hn mE h1 h2
   induction es generalizing l with
   |nil=>cases l<;>assumption
   |cons e2 es ih=>
    cases l with
    |nil=>exact h3.elim
    |cons y l=>exact⟨h3.1,h3.2.1 (h3.1▸bU e2 sQ),ih l h3.2.2 λz hz=>bU z (by simp[hz])⟩
  ·rw[if_neg gQ,if_neg hk];exact⟨h1,h2 hk,TA.put hv mE.2 h3⟩
 |[],_::_,_,h=>h.elim
 |_::_,[],_,h=>h.elim
theorem agU {kv:κ->Value} {rd:World->XS->Value->α->Prop} {l:List (κ×α)} {k:κ} {a:α} (h:ae8 w X A b kv rd k l) (hm:qG rd)
  (hv:rd w A v a) (hA: ∀k,A k->X k/\k≠b) (K:xA P kt kv) (ht:P.underlying t=some (.map kt et)) (hX: ∀k,X k->k<w.heap.size)
  (n: ∀w' X',ee (· =b) X w X' w'->dL w' X' A b kv rd (cI k a l)->N undef w' X'):
  eU P R X w true (cH t (.map (some b)) (kv k) v) N:=by
 obtain⟨es,c,h1,h2⟩:=h;refine agP h1 K ht hX λw' X' hg hi=>?_;have hc:ee (· =b) X w X' w':=hg.ea.mono λk _ hk=>by simpa using hk
 refine n w' X' hc ⟨_,_,hi,?_⟩;rw[ac1];have mv:Mv A w A w':=λk hk _=>⟨hk,hc.block k (hA k hk).1 (hA k hk).2⟩;exact(h2.put hv h1.2.2.1).mv hm mv
theorem gL {l:List (κ×α)} {k:κ} {a:α} (h:getM k l=some a):(k,a)∈l:=by
 unfold getM at h;obtain⟨x,hx,rfl⟩:=Option.map_eq_some_iff.1 h
 grind
theorem wH {l:List (κ×α)} (hn:(l.map (·.1)).Nodup) {k:κ} {a:α} (h:(k,a)∈l):getM k l=some a:=by
 induction l with
 |nil=>cases h
 |cons x l ih=>
  have mE:=List.nodup_cons.1 hn;rcases List.mem_cons.1 h with h|h
  ·subst h;simp[getM]
  ·have hx:x.1≠k:=λe=>mE.1 (List.mem_map.2 ⟨(k,a),h,e.symm⟩);have:=ih mE.2 h;simp only[getM,fM,hx,decide_false,aW,if_false];exact this
theorem mK {l:List (κ×α)} {k:κ} {a:α} : ∀{x:κ×α},(l.map (·.1)).Nodup->x∈cI k a l->x=(k,a)\/(x∈l/\x.1≠k):=by
 induction l with
 |nil=>grind [cI]
 |cons y l ih=>
  intro x hn h;have mE:=List.nodup_cons.1 hn;unfold cI at h;split at h
  ·rename_i hy;rcases List.mem_cons.1 h with h|h
   ·exact .inl h
   ·exact .inr ⟨by simp[h],λe=>mE.1 (List.mem_map.2 ⟨x,h,e.trans hy.symm⟩)⟩
  ·rename_i hy;rcases List.mem_cons.1 h with h|h
   ·grind
   grind
variable {l : List Value}
theorem BL {t:TypeId} (hX: ∀k,X k->k<w.heap.size)
  (n: ∀b w' X',w.heap.size<=b->ai X w X' w'->aI w' X' b l t->N (ptr b 0) w' X'):eV P R X w m (bT t (.agg l.toArray)) N:=
 acY hX λb w' X' hb hs hx hr=>n b w' X' hb hs ⟨hx,by assumption⟩
theorem uv {t:TypeId} (ho:one v=true) (hX: ∀k,X k->k<w.heap.size)
  (n: ∀b w' X',w.heap.size<=b->ai X w X' w'->aI w' X' b [v] t->N (ptr b 0) w' X'):eV P R X w m (bT t v) N:=
 acY hX λb w' X' hb hs hx hr=>n b w' X' hb hs ⟨hx,by
  have:v.cells.toList=[v]:=by cases v<;>first|rfl|cases ho
  rw[this] at hr;exact hr⟩
variable {X : XS} {w : World}
def ai.fK (h: ∀k,X k->k<w.heap.size):ai X w X w:=⟨Kp.refl _ _,λ_ h=>h,h⟩
variable {sz : Nat}
theorem aoq {S f fo:Nat} {l':List Value} {N:Value->Prop} (hf:fieldInfo P S f=some (fo,sz)) (hg:ZZ P S f=some true) (hlen:decide (fo+sz<=l.length)=true) (hl:(l.drop fo).take sz=l')
  (k:N (.agg l'.toArray)):aX P X w (fdV S f fo sz (.agg l.toArray)) N:=by
 subst hl;unfold fieldInfo at hf;unfold ZZ at hg;cases hu:P.underlying S with
 |none=>simp[hu] at hf
 |some d=>
  cases d<;>simp only[hu] at hf<;>try (cases hf;done)
  rename_i fs;cases hx:fs[f]? with
  |none=>simp[hx] at hf
  |some x=>
   simp only[hx,cL,hu] at hf hg;cases hi:P.info? x.type with
   |none=>simp[hi] at hf
   |some i=>
    simp only[hi,ba,aj,cN] at hf;cases hd:P.underlying x.type with
    |none=>simp[hd] at hg
    |some d2=>
     refine bB (v:=.agg ((l.drop fo).take sz).toArray) (λwa=>?_) k;have Cy:(isAgg x.type).run P wa= .ok true wa:=by
      cases d2<;>simp_all [isAgg,run_underlying hd]
     have hle:fo+sz<=l.length:=by simpa using hlen
     obtain⟨rfl,rfl⟩:=hf;simp[fdV,Instr.field,run_underlying hu,hx,asAgg,part,Cy,sizeOf,typeInfo,hi,hle]
variable {f : FuncId}
theorem apW {la lc:List Value} (hl:la++lc=l) (h:eC P R X w m f l.toArray N):eF P R X w m (.func (.func f) #[] lc.toArray) la.toArray N:=by
 subst hl;have e: ∀wa,(IM (.func (.func f) #[] lc.toArray) la.toArray).run P wa=(callFunc f (la++lc).toArray).run P wa:=by
  intro wa;simp[IM,Deferred.ofValue,invoke]
 intro wa hk;have:=h wa hk
 grind
theorem alQ {fn:Fn} {a c:Array Value} {N:Value->Prop} (h:N (.func fn a c)):aX P X w (Instr.makeFunc fn a c) N:=bB (λwa=>by rfl) h
variable {w' : World} {Q : Value -> World -> World -> Prop} {F : XS} {args : Array Value}
theorem Ct.kp (h:Ct P f args w X F Q) (hk:Kp X w w'):Ct P f args w' X F Q:=λwa ah=>h wa (hk.trans ah)
def Ct.since {X':XS} (h:Ct P f args w X F Q) (hs:ai X w X' w'):Ct P f args w' X' F Q:=λwa ah=>h wa (hs.kp.trans (ah.less hs.sub))
def Ct.bN (h:Ct P f args w X F Q) (hX: ∀k,X k->k<w.heap.size):Ct P f args w (aJ.bN w) F Q:=
 λwa ah=>h wa (ah.less λk hk=>hX k hk)
def idxOf (p:α->Bool):List α->Int
 |[]=> -1
 |x::l=>if p x then 0 else let i:=idxOf p l;if i<0 then i else i+1
theorem MD (p:α->Bool): ∀l:List α,decide (idxOf p l>=0)=l.any p
 |[]=>rfl
 |x::l=>by
  have ih:=MD p l;unfold idxOf
  grind
variable {i : Nat}
theorem CG {p:α->Bool} {l:List α} (h: ∀k x,k<i->l[k]? =some x->p x=false) {x:α} (hx:l[i]? =some x) (hp:p x=true):idxOf p l=i:=by
 induction l generalizing i with
 |nil=>simp at hx
 |cons y l ih=>
  cases i with
  |zero=>simp only[jY,aj] at hx;subst hx;simp[idxOf,hp]
  |succ i=>
   have hy:=h 0 y zQ rfl;have:=ih (i:=i) (λk z hk hz=>h (k+1) z zQ aQ) aQ;simp only[idxOf,hy,aW,if_false,this];rfl
theorem yS {p:α->Bool} {l:List α} (h: ∀k x,k<l.length->l[k]? =some x->p x=false):idxOf p l= -1:=by
 induction l with
 |nil=>rfl
 |cons y l ih=>
  have hy:=h 0 y sQ rfl;have:=ih λk z hk hz=>h (k+1) z gQ aQ;simp[idxOf,hy,this]
theorem ai.less {Y0:XS} (h:ai X0 w0 X w) (hs: ∀k,Y0 k->X0 k):ai Y0 w0 X w:=⟨h.kp.less hs,λk hk=>h.sub k (hs k hk),h.has⟩
variable {rows : List (List Value)} {cap e g k lo n : Nat}
theorem Own.H9 (h:aI w X g cs e) (gy:lo<=g) (hr: ∀r∈rows,r.length=k) (hn:rows.length=n) (hc:n<=cap) (hm:cap<=maxLen)
  (hl:cs.length=cap*k) (ht:cs.take (n*k)=rows.flatten):Own w X lo e k (.slice (some ⟨g,0,none⟩) n cap) rows:=
 ⟨hr,⟨by rw[lS hr],.inr ⟨g,cap,cs.toArray,by rw[hn],gy,h.2,by omega,hm,by simpa using hl,by grind⟩⟩,λg' hg=>by simp only[iv,aj] at hg;subst hg;exact h.1⟩
theorem Own.row (h:Own w X lo e k v rows):(v= .slice none 0 0/\rows=[])\/
  ∃g cap cs,v= .slice (some ⟨g,0,none⟩) rows.length cap/\lo<=g/\aI w X g cs e/\rows.length<=cap/\cap<=maxLen/\cs.length=cap*k/\cs.take (rows.length*k)=rows.flatten:=by
 obtain⟨h1,h2,h3⟩:=h;rcases h2.2 with⟨rfl,hn⟩|⟨g,cap,cur,rfl,hb,hg,pV,iH,jG,ht⟩
 ·simp_all
 ·exact .inr ⟨g,cap,cur.toList,rfl,hb,⟨h3 g rfl,by omega⟩,pV,iH,by omega,ht⟩
variable {z : Int}
theorem akI {t:TypeId} {N:Value->Prop} (hz:z=i) (hi:i<n) (ht:P.underlying t=some (.slice (P.elem t))) (hs:(P.info? (P.elem t)).map (·.size)=some k) (h:N (ptr g (i*k))):
  aX P X w (mG t k (.slice (some ⟨g,0,none⟩) n cap) (.int .i64 z)) N:=by
 subst hz;refine bB (v:=ptr g (i*k)) (λwa=>?_) h
 show(zy t _ _).run P wa=_
 rw[run_indexAt_slice (h:=ht),if_pos zQ];cases hq:P.info? (P.elem t)with
 |none=>grind
 |some inf=>
  have:inf.size=k:=by simpa [hq] using hs
  simp[sizeOf,typeInfo,hq,this,Aw]
theorem EH {o:Nat} (h:aI w X b cs ty) (ht:(P.info? t).map (·.size)=some sz)
  (hl:o+sz<=cs.length) (hv:v.cells.size=sz) (h1:v.cells.toList.all one=true) (hX: ∀k,X k->k<w.heap.size)
  (n: ∀w' X',ee (λk=>k=b) X w X' w'->aI w' X' b (dr cs o v.cells.toList) ty->N undef w' X'):eU P R X w true (st1 t sz (ptr b o) v) N:=
 ajd h ht hl hv h1 hX λw' X' hg hr=>n w' X' (hg.ea.mono λk _ hk=>by grind) hr
theorem LA {t:TypeId} {a:Option Addr} {N:Value->Prop} (hz:z=i) (hi:i<=cap) (ht:P.underlying t=some (.slice (P.elem t))) (hs:((P.info? (P.elem t)).map (·.size)).isSome=true) (h:N (.slice a i cap)):
  aX P X w (Instr.sliceAt t (.slice a n cap) none (some (.int .i64 z)) none) N:=by
 subst hz;obtain⟨k,hk⟩:=Option.isSome_iff_exists.1 hs;refine bB (v:=.slice a i cap) (λwa=>?_) h;rw[run_sliceAt_slice wa t _ _ _ _ ht,run_slice_h wa t a n cap ht .i64 i zQ zQ];cases hq:P.info? (P.elem t)with
 |none=>grind
 |some inf=>
  have:a.map (λx=>x.add 0)=a:=by cases a<;>rfl
  simp[sizeOf,typeInfo,hq,sliced,this]
variable {P : Program}
def NJ (P:Program) (t e k:Nat):Bool:=match P.underlying t,P.info? e with
 |some (.slice e'),some i=>e'==e&&i.size==k&&(match i.zero with|some z=>z.cells.size==k|none=>false)&&decide (0<k)&&decide (k<=2^20)
 |_,_=>false
theorem VA (h:NJ P t e k=true):P.underlying t=some (.slice e)/\0<k/\k<=2^20/\ ∃z:Value,(P.info? e).bind (λi=>i.zero.map λz=>(i.size,z))=some (k,z):=by
 unfold NJ at h;split at h
 ·rename_i e' i hu hi;simp only[aC,beq_iff_eq,decide_eq_true_eq] at h;obtain⟨⟨⟨⟨rfl,h2⟩,h4⟩,h5⟩,h6⟩:=h;cases hz:i.zero with
  |none=>grind
  |some z=>simp_all
 ·cases h
variable {R : Ending -> World -> Prop} {m : Bool}
theorem Q7 (hX: ∀k,X k->k<w.heap.size) (he:NJ P t e k=true) (hk:(l.length==k)=true)
  (n: ∀v w' X',ai X w X' w'->Own w' X' w.heap.size e k v [l]->N v w' X'):eV P R X w m (gR t e k 1 #[(0,.agg l.toArray)]) N:=by
 obtain⟨hu,h0,h1,z,hz⟩:=VA he;have ah:l.length=k:=by simpa using hk
 refine CN (rows:=[l]) l.toArray z hX hu hz zQ zQ ?_ gQ rfl sQ n;simp only[BX];exact F9 (x:=.agg l.toArray) aQ sQ
theorem Yd {x:Value} (hX: ∀k,X k->k<w.heap.size) (he:NJ P t e k=true) (ho:one x=true) (hk:(k==1)=true)
  (n: ∀v w' X',ai X w X' w'->Own w' X' w.heap.size e k v [[x]]->N v w' X'):eV P R X w m (gR t e k 1 #[(0,x)]) N:=by
 obtain⟨hu,h0,h1,z,hz⟩:=VA he;have ah:1=k:=by simpa using (beq_iff_eq.1 hk).symm
 have hc:=tg ho;refine CN (rows:=[[x]]) x.cells z hX hu hz zQ zQ ?_ gQ rfl (by rw[hc];rfl) n;simp only[BX];exact F9 gQ sQ
def NK (P:Program) (t:TypeId):Bool:=match P.underlying t with
 |some (.pointer _)=>true
 |_=>false
theorem G8 {t:TypeId} (h:NK P t=true):P.underlying t=some (.pointer (P.pointee t)):=by grind [NK,Program.pointee]
variable {a : Addr}
section
variable {N : Value -> Prop} {t : TypeId} {xo yo : Operand}
def acW (ht:NK P t=true) (k:N (.bool false)):aX P X w (eP .eql t xo yo (.pointer (some a)) (.pointer none)) N:=XP (p:=some a) (G8 ht) k
def alR (ht:NK P t=true) (k:N (.bool true)):aX P X w (eP .eql t xo yo (.pointer none) (.pointer none)) N:=XP (p:=none) (G8 ht) k
theorem aor (ht:NK P t=true) (k:N (.bool true)):aX P X w (eP .neq t xo yo (.pointer (some a)) (.pointer none)) N:=by
 refine bB (λwa=>?_) k;have:=run_neq_pointer_nil (P:=P) (w:=wa) t (some a) (G8 ht);assumption
theorem aos (ht:NK P t=true) (k:N (.bool false)):aX P X w (eP .neq t xo yo (.pointer none) (.pointer none)) N:=by
 refine bB (λwa=>?_) k;have:=run_neq_pointer_nil (P:=P) (w:=wa) t none (G8 ht);assumption
end
end Go.aJ