/- Part 2 of the proof. -/
import Derived.Deep.MidRow
import Derived.Laws.StructEq
import Derived.Maps.AppendAt
import Derived.Laws.OwnMore
import Derived.Great.BuildSlice
import Derived.Maps.RangeRun
import Derived.KernelRfl
import Derived.Laws.FloatArith
import Derived.Laws.Slices
import Derived.Laws.Pointers
import Derived.Test.YtgfijddlkhkopaaGreatU1
set_option linter.all false
open Go.Result renaming andThen_ok → aN
open Go.Sem renaming run_bind → bq, run_pure → bO, run → tw
open Go.Value renaming int → ay, cells → bf, agg → dZ, ownBlock → im, string → aO
open Nat renaming le_trans → ad, lt_of_lt_of_le → av, le_refl → au, zero_add → fe, one_mul → Bh, mod_eq_of_lt → fu
open Bool renaming false_eq_true → aW, and_eq_true → aF, not_eq_true' → cX
open Option.some renaming injEq → aj
open Go.Instr renaming checkKey → gS, lookup → bI, fill → rq, sameBits → mN, mapUpdate → cI, entry → pO, loadAt → jm, buildSlice → jh, box → bT, extract → gD, findKey → tL, findNow → kr, makeMap → fY, range → wX, indexAt → yU, index → Bi, findAsking → Bj, keyThatStays → zn
open Array renaming toList → dc, getElem?_setIfInBounds → dL, range → Bl, length_toList → fw
open PUnit renaming unit → mO
open List renaming toList_toArray → cN, getElem?_eq_getElem → aS, all → fH, length_cons → aK, findIdx?_cons → lX, find?_cons → fM, length → ba, drop_eq_getElem_cons → kO, map_cons → bm, filter_cons → eo, getElem_map → qH, mem_singleton → aw, toArray → zZ, getElem?_take → lY, flatten_cons → cW, nil_append → cC, length_append → aa, drop_of_length_le → ki, map_append → aD, nodup_append → Aw, getElem?_cons_zero → jU, getElem_of_mem → yK
open Option renaming map_some → aY, bind_some → cM, map_none → BO
open Prod.mk renaming injEq → cP
open Go.Op renaming equalIn → uf, bytesLess → bW, eqFields → wY
open Go.Builtin renaming len_ → mF, delete_ → se, append_ → ff, min_ → jZ, min2 → Fh
open Go.ByteArray renaming toList_eq → oe
open ForInStep renaming yield → sh
open Go.World renaming ownsRow_lit → Ax
namespace Go.aL
structure ai (X:XS) (w:World) (X':XS) (w':World):Prop where
 kp:Kp X w w'
 sub: ∀k,X k->X' k
 has: ∀k,X' k->k<w'.heap.size
def ai.init (w:World):ai (bK w) w (bK w) w:=⟨Kp.refl _ _,λ_ h=>h,λ_ h=>h⟩
variable {X Y : XS}
theorem ai.trans {Z:XS} {a b c:World} (h:ai X a Y b) (k:ai Y b Z c):ai X a Z c:=
 ⟨h.kp.trans (k.kp.less h.sub),λi hi=>k.sub i (h.sub i hi),k.has⟩
variable {w w' wa : World}
theorem ai.eZ (hX: ∀k,X k->k<w.heap.size) (hk:Kp X w wa) (hx:Ext wa w'):ai X w (grow X wa w') w':=
 ⟨hk.trans (hx.kp λk h=>av (hX k h) hk.size),λ_ h=>.inl h,
  λk h=>h.elim (λh=>av (hX k h) (ad hk.size hx.size)) (λh=>h.2)⟩
def ai.ext (h:ai (bK w) w X w') (hk:Kp X w' wa):Ext w wa:=(h.kp.trans (hk.less h.sub)).ext
variable {P : Program} {R : Ending -> World -> Prop} {X : XS} {w : World} {m : Bool}
def Pure (P:Program) (f:FuncId) (args:Array Value) (v:Value):Prop:=
 ∀w,Calls P f args w λe w'=>e= .returned v/\Ext w w'
def aoZ (P:Program) (f:FuncId) (args:Array Value) (w:World) (Q:Value->World->Prop):Prop:=
 Calls P f args w λe w'=> ∃v,e= .returned v/\Ext w w'/\Q v w'
def enters (P:Program) (f:FuncId):Bool:=match P.funcs[f]? with
 |some fn=>!(fn.name== "runtime.NumGoroutine")&&fn.body.isSome
 |none=>false
variable {f : FuncId}
theorem oR (h:enters P f=true) (args:Array Value) (w:World):(callFunc f args).run P w= .ok (.enter f args) w:=by
 unfold enters at h;split at h
 ·rename_i fn hf;simp only[aF,cX] at h;obtain⟨c,hb⟩:=Option.isSome_iff_exists.1 h.2;have hn: ¬fn.name= "runtime.NumGoroutine" :=by simpa using h.1
  simp[callFunc,hf,hn,hb]
 ·cases h
variable {N : Value -> World -> XS -> Prop} {args : Array Value}
theorem Y9 {Q:Value->World->World->Prop}
  (hf:enters P f=true) (hX: ∀k,X k->k<w.heap.size)
  (h: ∀wa,Kp X w wa->aoZ P f args wa (Q · wa))
  (k: ∀v wa w' X',Kp X w wa->Ext wa w'->(∀k,wa.heap.size<=k->k<w'.heap.size->X' k)->Q v wa w'->ai X w X' w'->N v w' X'):
  eC P R X w m f args N:=by
 refine alJ Q (oR hf args) (λwa hk=>?_) λv wa w' hk hx hq=>k v wa w' _ hk hx (λk h1 h2=>.inr ⟨h1,h2⟩) hq (ai.eZ hX hk hx);refine(h wa hk).mono ?_;simp_all
variable {v : Value}
theorem acg
  (hf:enters P f=true) (hX: ∀k,X k->k<w.heap.size) (h:Pure P f args v)
  (k: ∀w' X',ai X w X' w'->N v w' X'):eC P R X w m f args N:=by
 refine Y9 (Q:=λu _ _=>u=v) hf hX (λwa _=>(h wa).mono ?_) λu wa w' X' _ _ _ hq hs=>hq▸k w' X' hs
 grind
theorem C4 (hf: ∀wa,(callFunc f args).run P wa= .ok (.value v) wa)
  (hX: ∀k,X k->k<w.heap.size) (k: ∀w' X',ai X w X' w'->N v w' X'):eC P R X w m f args N:=by
 intro wa hk;unfold jP;rw[hf wa];exact⟨Step.eZ (Ext.refl _),k _ _ (ai.eZ hX hk (Ext.refl _))⟩
variable {w0 : World}
theorem fK {u:Value} (hs:ai (bK w0) w0 X w) (h:u=v):fin (λe w'=>e= .returned v/\Ext w0 w') X w u:=
 λ_ hk=>⟨by rw[h],hs.ext hk⟩
variable {P : Program} {R : Ending -> World -> Prop} {X : XS} {w : World} {m : Bool} {N : Value -> Prop}
abbrev ptr (b o:Nat):Value:=.pointer (some ⟨b,o,none⟩)
def Cells (w:World) (X:XS) (b o:Nat) (l:List Value):Prop:=
 X b/\ ∃cs t fr,w.heap[b]? =some (.cells cs t fr)/\ ∀j v,l[j]? =some v->cs[o+j]? =some v
variable {l : List Value} {b o : Nat}
theorem Cells.kp (h:Cells w X b o l) (hk:Kp X w w'):Cells w' X b o l:=by
 obtain⟨hx,cs,t,fr,hb,hc⟩:=h;exact⟨hx,cs,t,fr,by rw[hk.block b hx];exact hb,hc⟩
def Cells.mono (h:Cells w X b o l) (hs: ∀k,X k->Y k):Cells w Y b o l:=⟨hs _ h.1,h.2⟩
def Cells.since (h:Cells w X b o l) (hs:ai X w Y w'):Cells w' Y b o l:=(h.kp hs.kp).mono hs.sub
theorem Cells.range (h:Cells w X b o l):w.rangeAt b o l:=by
 obtain⟨_,cs,t,fr,hb,hc⟩:=h;intro j v hj;rw[cell_of_row w b (o+j) cs t fr hb];exact hc j v hj
theorem Cells.lt (h:Cells w X b o l):b<w.heap.size:=by
 obtain⟨_,cs,t,fr,hb,_⟩:=h
 grind
theorem Cells.part (h:Cells w X b o l) (i n:Nat):Cells w X b (o+i) ((l.drop i).take n):=by
 obtain⟨hx,cs,t,fr,hb,hc⟩:=h;refine⟨hx,cs,t,fr,hb,λj v hj=>?_⟩;rw[lY] at hj;split at hj
 ·rw[List.getElem?_drop] at hj;rw[Nat.add_assoc];exact hc _ v hj
 ·cases hj
variable {t : TypeId}
theorem af4 (h:Cells w X b o (v::l)) (hi:kP P t=some (false,1)) (k:N v):
  aX P X w (jm t (ptr b o)) N:=by
 refine Hp v (λwa hk=>?_) k;have hc:wa.cell? ⟨b,o,none⟩=some v:=(h.kp hk).range 0 v rfl;unfold kP at hi;split at hi
 ·rename_i d i hu Ep;simp only[aj,cP] at hi;have BX:(isAgg t).run P wa= .ok false wa:=by
   cases d<;>simp_all [isAgg,run_underlying hu]
  simp[jm,Instr.sureAddr,loadVar,BX,hc]
 ·cases hi
variable {n : Nat}
theorem af5 (h:Cells w X b o l) (hi:kP P t=some (true,n)) (hn:l.length=n) (k:N (.agg l.toArray)):
  aX P X w (jm t (ptr b o)) N:=by
 refine Hp _ (λwa hk=>?_) k;unfold kP at hi;split at hi
 ·rename_i d i hu Ep;simp only[aj,cP] at hi;exact run_loadAt_mid wa b o t l d (h.kp hk).range hu gQ gQ
 ·cases hi
variable {sz : Nat}
def GX {S f fo:Nat} (h:fieldInfo P S f=some (fo,sz)) (hz:sz≠0) (k:N (ptr b (o+fo))):aX P X w (Instr.fieldAt S (ptr b o) f) N:=
 bF (λwa=>NC h hz b o wa) k
variable {parts : Array (Nat × Value)}
def af6 (cells:Array Value) (h:P.built t parts.toList=some cells) (k:N (.agg cells)):
  aX P X w (Instr.build t parts) N:=
 bF (λwa=>run_build wa t parts cells h) k
variable {ty : TypeId}
theorem aip {s:ByteArray} (ht:P.underlying t=some .string) (k:N (.int .i64 s.size)):aX P X w (mF #[t] ty #[.string s]) N:=
 bF (λwa=>by simp[mF,run_underlying ht,goInt]) k
def Sl (w:World) (X:XS) (k:Nat) (v:Value) (rows:List (List Value)):Prop:=
 (∀r∈rows,r.length=k)/\rows.length<=2^63-1/\
 ∃base cap,v= .slice base rows.length cap/\(rows≠[]-> ∃b o,base=some ⟨b,o,none⟩/\Cells w X b o rows.flatten)/\
  (base=none->cap=0)/\rows.length<=cap/\cap<=2^63-1
variable {rows : List (List Value)} {k : Nat}
theorem Sl.mono (h:Sl w X k v rows) (hs: ∀k,X k->Y k):Sl w Y k v rows:=by
 obtain⟨h1,h2,base,cap,hv,hc,hr⟩:=h;exact⟨h1,h2,base,cap,hv,λct=>let⟨b,o,hb,iN⟩:=hc ct;⟨b,o,hb,iN.mono hs⟩,hr⟩
theorem Sl.kp (h:Sl w X k v rows) (hk:Kp X w w'):Sl w' X k v rows:=by
 obtain⟨h1,h2,base,cap,hv,hc,hr⟩:=h;exact⟨h1,h2,base,cap,hv,λct=>let⟨b,o,hb,iN⟩:=hc ct;⟨b,o,hb,iN.kp hk⟩,hr⟩
def Sl.since (h:Sl w X k v rows) (hs:ai X w Y w'):Sl w' Y k v rows:=
 (h.kp hs.kp).mono hs.sub
theorem Sl.bK (h:Sl w X k v rows):Sl w (bK w) k v rows:=by
 obtain⟨h1,h2,base,cap,hv,hc,hr⟩:=h;exact⟨h1,h2,base,cap,hv,λct=>let⟨b,o,hb,iN⟩:=hc ct;⟨b,o,hb,iN.lt,iN.2⟩,hr⟩
theorem Sl.nil (w:World) (X:XS) (k:Nat):Sl w X k (.slice none 0 0) []:=⟨by simp,by simp,none,0,rfl,by simp,by simp,by simp,by simp⟩
theorem Sl.one (h:Sl w X k v rows):one v=true:=by
 obtain⟨_,_,_,_,rfl,_⟩:=h;rfl
theorem LR: ∀{rows:List (List Value)},(∀r∈rows,r.length=k)-> ∀{i:Nat} {r:List Value},rows[i]? =some r->
  (rows.flatten.drop (i*k)).take k=r
 |[],_,i,r,h=>by simp at h
 |x::rest,hl,0,r,h=>by simp_all
 |x::rest,hl,i+1,r,h=>by
  have hx:=hl x sQ;rw[cW,List.drop_append,hx,List.drop_eq_nil_of_le gQ];have:(i+1)*k-k=i*k:=by rw[Nat.succ_mul];omega
  rw[this,cC];exact LR (λr hr=>hl r (by simp[hr])) gQ
variable {xo yo : Operand} {xs ys : Array Value}
theorem aiq {b:Bool} (hm:P.eqGuardType P.depth t=false)
  (h: ∀wa,(uf 10000 t (.agg xs) (.agg ys)).run P wa= .ok b wa) (k:N (.bool b)):aX P X w (dG .eql t xo yo (.agg xs) (.agg ys)) N:=by
 refine bF (λwa=>?_) k;simp[dG,run_eqGuard_agg wa .eql t xo yo xs ys hm,run_eql_struct,h]
theorem air {b:Bool} (hm:P.eqGuardType P.depth t=false)
  (h: ∀wa,(uf 10000 t (.agg xs) (.agg ys)).run P wa= .ok b wa) (k:N (.bool (!b))):aX P X w (dG .neq t xo yo (.agg xs) (.agg ys)) N:=by
 refine bF (λwa=>?_) k;simp[dG,run_eqGuard_agg wa .neq t xo yo xs ys hm,binOp,Op.equal,Op.maxDepth,h]
variable {a : Int}
theorem wrap_i64 (h1: -(2^63)<=a) (h2:a<2^63):IntKind.i64.wrap a=a:=by
 simp only[IntKind.wrap];first
  |omega
  |(simp[IntKind.bits,IntKind.signed];omega)
variable {P : Program} {R : Ending -> World -> Prop} {X : XS} {w : World} {m : Bool}
structure Grown (X:XS) (w:World) (X':XS) (w':World) (row:Option Nat):Prop where
 os:w'.os=w.os
 tape:w'.tape=w.tape
 output:w'.output=w.output
 size:w.heap.size<=w'.heap.size
 block: ∀k,X k->some k≠row->w'.heap[k]? =w.heap[k]?
 sub: ∀k,X k->X' k
 has: ∀k,X' k->k<w'.heap.size
variable {row : Option Nat}
def ai.grown {X0:XS} (h:ai X0 w0 X w) (g:Grown X w Y w' row) (hr: ∀k,X0 k->some k≠row):ai X0 w0 Y w':=
 ⟨⟨g.os.trans h.kp.os,g.tape.trans h.kp.tape,g.output.trans h.kp.output,ad h.kp.size g.size,
  λk hk=>(g.block k (h.sub k hk) (hr k hk)).trans (h.kp.block k hk)⟩,λk hk=>g.sub k (h.sub k hk),g.has⟩
def Grown.since {F:XS} (g:Grown X w Y w' row) (hf: ∀k,F k->X k) (hr: ∀k,F k->some k≠row):ai F w Y w':=
 ⟨⟨g.os,g.tape,g.output,g.size,λk hk=>g.block k (hf k hk) (hr k hk)⟩,λk hk=>g.sub k (hf k hk),g.has⟩
def Own (w:World) (X:XS) (lo e k:Nat) (v:Value) (rows:List (List Value)):Prop:=
 (∀r∈rows,r.length=k)/\w.ownsRow lo e k v rows.length rows.flatten/\ ∀g,v.ownBlock=some g->X g
theorem Own.nil (w:World) (X:XS) (lo e k:Nat):Own w X lo e k (.slice none 0 0) []:=⟨by simp,World.ownsRow_nil w lo e k,by simp[im]⟩
variable {e lo : Nat}
theorem Own.sl (h:Own w X lo e k v rows):Sl w X k v rows:=by
 obtain⟨h1,h2,h3⟩:=h;rcases h2.2 with⟨rfl,hn⟩|⟨g,cap,cur,rfl,hb,hg,pL,iC,iN,ht⟩
 ·grind [Sl.nil]
 ·have hm:cap<=2^63-1:=iC;refine⟨h1,ad pL hm,_,cap,rfl,λ_=>⟨g,0,rfl,h3 g rfl,cur,e,(0,0),hg,λj v hj=>?_⟩,by simp,pL,hm⟩;rw[<-ht,lY] at hj;split at hj
  ·simpa using hj
  ·cases hj
theorem Own.kp (h:Own w X lo e k v rows) (hk:Kp X w w'):Own w' X lo e k v rows:=by
 obtain⟨h1,h2,h3⟩:=h;refine⟨h1,⟨h2.1,?_⟩,h3⟩;rcases h2.2 with h|⟨g,cap,cur,rfl,hb,hg,hr⟩
 ·exact .inl h
 ·exact .inr ⟨g,cap,cur,rfl,hb,by rw[hk.block g (h3 g rfl)];exact hg,hr⟩
def Own.mono (h:Own w X lo e k v rows) (hs: ∀k,X k->Y k):Own w Y lo e k v rows:=
 ⟨h.1,h.2.1,λg hg=>hs g (h.2.2 g hg)⟩
def Own.since (h:Own w X lo e k v rows) (hs:ai X w Y w'):Own w' Y lo e k v rows:=
 (h.kp hs.kp).mono hs.sub
theorem Own.low {lo':Nat} (h:Own w X lo e k v rows) (hl:lo'<=lo):Own w X lo' e k v rows:=by
 obtain⟨h1,h2,h3⟩:=h;refine⟨h1,⟨h2.1,?_⟩,h3⟩;rcases h2.2 with h|⟨g,cap,cur,rfl,hb,hr⟩
 ·exact .inl h
 ·exact .inr ⟨g,cap,cur,rfl,ad hl hb,hr⟩
def Own.ge (h:Own w X lo e k v rows) {g:Nat} (hg:v.ownBlock=some g):lo<=g/\g<w.heap.size:=h.2.1.lt g hg
def Own.tight (h:Own w X lo e k v rows):Own w (λg=>lo<=g/\g<w.heap.size) lo e k v rows:=
 ⟨h.1,h.2.1,λ_ hg=>h.ge hg⟩
theorem lG: ∀{rows:List (List Value)},(∀r∈rows,r.length=k)->rows.flatten.length=rows.length*k
 |[],_=>by simp
 |r::rs,h=>by
  rw[cW,aa,h r sQ,lG λr hr=>h r (by simp[hr]),aK,Nat.succ_mul,Nat.add_comm]
theorem B9 {t len:Nat} {N:Value->World->XS->Prop} (cells:Array Value) (z:Value)
  (hX: ∀k,X k->k<w.heap.size) (hu:P.underlying t=some (.slice e)) (hz:(P.info? e).bind (λi=>i.zero.map λz=>(i.size,z))=some (k,z))
  (Yq:0<len*k) (Ro:len*k<=2^24)
  (h:rq (λi=>some (i*k,k)) ((Bl (len*k)).map (z.cells[· % z.cells.size]!)) parts.toList=some cells)
  (Cu: ∀r∈rows,r.length=k) (hlen:rows.length=len) (hc:cells.toList=rows.flatten)
  (n: ∀v w' X',ai X w X' w'->Own w' X' w.heap.size e k v rows->N v w' X'):eV P R X w m (jh t len parts) N:=by
 intro wa hk;cases hq:P.info? e with
 |none=>grind
 |some ie=>
  cases tG:ie.zero with
  |none=>grind
  |some z'=>
   simp only[hq,tG,cM,aY,aj,cP] at hz;obtain⟨rfl,rfl⟩:=hz;have hr:=run_buildSlice (P:=P) wa t e len parts cells ie z' hu hq tG zQ zQ h;unfold jP;simp only[vS,bq,hr,aN,bO];have hx:Ext wa (wa.alloc (.cells cells e)):=Ext.alloc _ _;have iN:cells.size=len*ie.size:=by
    have:=congrArg ba hc;simp only[fw] at this;rw[this,lG Cu,hlen]
   have ao0:0<ie.size:=Nat.pos_of_ne_zero λe=>by grind
   have hle:len<=2^24:=ad (Nat.le_mul_of_pos_right len ao0) Ro;have tU:=Ax (e:=e) (base:=w.heap.size) (size:=ie.size) wa cells len hk.size (by simp only[maxLen];omega) iN;refine⟨Step.eZ hx,n _ _ _ (ai.eZ hX hk hx) ⟨Cu,by grind,λg hg=>?_⟩⟩;simp only[im,aj] at hg;subst hg;exact .inr ⟨au _,by simp⟩
theorem af7 {t:Nat} {N:Value->World->XS->Prop} (hX: ∀k,X k->k<w.heap.size) (hu:P.underlying t=some (.slice e)) (hz:(P.info? e).map (·.size)=some k)
  (n: ∀v w' X',ai X w X' w'->Own w' X' w.heap.size e k v []->N v w' X'):eV P R X w m (jh t 0 #[]) N:=by
 intro wa hk;cases hq:P.info? e with
 |none=>grind
 |some ie=>
  unfold jP;have hr:(jh t 0 #[]).run P wa= .ok (.slice (some ⟨wa.heap.size,0,none⟩) 0 0) (wa.alloc (.cells #[] e)):=by
   simp[jh,run_underlying hu,sizeOf,typeInfo,hq,rq,newRow];have KL: ∀f:Nat->Value,Array.map f (Bl 0)= #[]:=λf=>Array.eq_empty_of_size_eq_zero sQ;rw[KL]
  simp only[vS,bq,hr,aN,bO];have hx:Ext wa (wa.alloc (.cells #[] e)):=Ext.alloc _ _;have tU:=Ax (e:=e) (base:=w.heap.size) (size:=k) wa #[] 0 hk.size zQ sQ;refine⟨Step.eZ hx,n _ _ _ (ai.eZ hX hk hx) ⟨by simp,tU,λg hg=>?_⟩⟩;simp only[im,aj] at hg;subst hg;exact .inr ⟨au _,by simp⟩
theorem Sl.src (h:Sl w X k v rows):
  v= .slice none 0 0/\rows=[]\/ ∃a cap,v= .slice (some a) rows.length cap/\ ∀j u,rows.flatten[j]? =some u->w.cell? (a.add j)=some u:=by
 obtain⟨h1,h2,base,cap,rfl,hc,hn,hle,_⟩:=h;cases base with
 |none=>
  grind
 |some a=>
  refine .inr ⟨a,cap,rfl,λj u hj=>?_⟩;cases rows with
  |nil=>simp at hj
  |cons r rs=>
   obtain⟨b,o,hb,iN⟩:=hc sQ;cases hb;rw[zN];exact iN.range j u hj
theorem C5 {t ty bytes:Nat} {s:Value} {dq:List (List Value)} {N:Value->World->XS->Prop} (z:Value)
  (hu:P.underlying t=some (.slice e)) (hi:(P.info? e).bind (λi=>i.zero.map λz=>(i.size,i.bytes,z))=some (k,bytes,z)) (wZ:z.cells.size=k) (ik:0<k)
  (hX: ∀k,X k->k<w.heap.size) (gA:lo<=w.heap.size) (own:Own w X lo e k v rows) (src:Sl w X k s dq) (h1: ∀r∈dq,∀u∈r,one u=true)
  (hb:(rows.length+dq.length)*bytes<=140737488355328) (hl:rows.length+dq.length<=2^63-1)
  (n: ∀v' w' X',Grown X w X' w' v.ownBlock->Own w' X' lo e k v' (rows++dq)->(v'.ownBlock=v.ownBlock\/ ∃g,v'.ownBlock=some g/\w.heap.size<=g)->N v' w' X'):
  eV P R X w true (ff #[t,t] ty #[v,s]) N:=by
 intro wa hk;have own:=own.kp hk;have src:=src.kp hk;cases hq:P.info? e with
 |none=>grind
 |some ie=>
  cases tG:ie.zero with
  |none=>grind
  |some z'=>
   simp only[hq,tG,cM,aY,aj,cP] at hi;obtain⟨rfl,rfl,rfl⟩:=hi;unfold jP;rcases src.src with⟨rfl,rfl⟩|⟨a,cap,rfl,Cv⟩
   ·have hr:=run_append_owned_none (P:=P) (w:=wa) lo t ty e ie ie.size hu hq v rows.length rows.flatten own.2.1;simp only[vS,bq,hr,aN,bO];have hx:=Ext.refl wa;have hs:=ai.eZ hX hk hx;refine⟨Step.eZ hx,n _ _ _ ⟨hs.kp.os,hs.kp.tape,hs.kp.output,hs.kp.size,λk h _=>hs.kp.block k h,hs.sub,hs.has⟩ ?_ (.inl rfl)⟩;rw[List.append_nil];exact own.mono (λk h=>Or.inl h)
   ·have si:dq.flatten.length=dq.length*ie.size:=lG src.1;obtain⟨v',w',hr,tU,hg,_,dh⟩:=run_append_own_at (P:=P) wa lo t ty e ie z' ie.size ie.bytes hu hq tG rfl rfl wZ ik v rows.length rows.flatten own.2.1
     a dq.length cap dq.flatten si Cv (λu hu=>by
      obtain⟨r,hr,hur⟩:=List.mem_flatten.1 hu;rw[<-P4];exact h1 r hr u hur) hl hb (ad gA hk.size)
    simp only[vS,bq,hr,aN,bO];refine⟨⟨hg.os,hg.tape,hg.output,hg.size,λk wP nf=>hg.block k wP λe=>nf (own.2.2 k e.symm)⟩,n _ _ _ ?_ ⟨?_,?_,?_⟩ ?_⟩
    ·exact⟨hg.os.trans hk.os,hg.tape.trans hk.tape,hg.output.trans hk.output,ad hk.size hg.size,
      λk hx ct=>(hg.block k (av (hX k hx) hk.size) ct).trans (hk.block k hx),λk h=>.inl h,
      λk h=>h.elim (λh=>av (hX k h) (ad hk.size hg.size)) (λh=>h.2)⟩
    ·intro r hr;rcases List.mem_append.1 hr with h|h
     ·exact own.1 r h
     ·exact src.1 r h
    ·rw[aa,List.flatten_append];omega
    ·intro g JJ;rcases dh with h|h
     ·exact .inl (own.2.2 g (h▸JJ))
     ·rw[JJ] at h;cases h;exact .inr ⟨au _,(tU.lt _ JJ).2⟩
    ·rcases dh with h|h
     ·exact .inl h
     ·exact .inr ⟨_,h,hk.size⟩
theorem Ps {e:TypeId} (ht:P.underlying t=some (.slice e)) (d:Nat) (base:Option Addr) (n c:Nat) (w:World):
  (uf (d+1) t (.slice base n c) (.slice none 0 0)).run P w= .ok base.isNone w:=by
 cases base<;>simp[uf,run_underlying ht]
theorem Za {e:TypeId} {base:Option Addr} {c:Nat} {N:Value->Prop} (ht:P.underlying t=some (.slice e)) (h:N (.bool base.isNone)):
  aX P X w (dG .eql t xo yo (.slice base n c) (.slice none 0 0)) N:=by
 refine bF (λwa=>?_) h;have:(Op.equal t (.slice base n c) (.slice none 0 0)).run P wa= .ok base.isNone wa:=Ps ht 9999 base n c wa;simp[dG,eqGuard,binOp,this]
def MZ (P:Program):List Field->Nat->Bool
 |[],_=>true
 |f::r,i=>f.name != "_" &&(match P.underlying f.type with|some (.int _)=>true|_=>false)&&f.offset==i&&MZ P r (i+1)
theorem DL (w:World) (d:Nat) (as bs:List Int): ∀(fs:List Field) (i:Nat),MZ P fs i=true->as.length=i+fs.length->bs.length=i+fs.length->
  (wY (d+1) (as.map (ay .i64)).toArray (bs.map (ay .i64)).toArray fs).run P w= .ok (decide (as.drop i=bs.drop i)) w
 |[],i,_,ha,hb=>by
  simp only[List.length_nil,Nat.add_zero] at ha hb;rw[ki zQ,ki zQ];simp[wY]
 |f::r,i,h,ha,hb=>by
  simp only[MZ,aF,bne_iff_ne,ne_eq,beq_iff_eq] at h;obtain⟨⟨⟨hn,hu⟩,ho⟩,hr⟩:=h;simp only[aK] at ha hb;have hia:i<as.length:=by omega
  have hib:i<bs.length:=by omega
  cases hd:P.underlying f.type with
  |none=>simp[hd] at hu
  |some ty=>
   cases ty<;>simp only[hd,aW] at hu
   rename_i q;have BX:(isAgg f.type).run P w= .ok false w:=by simp[isAgg,run_underlying hd]
   have Zb:(part f.type (as.map (ay .i64)).toArray f.offset).run P w= .ok (.int .i64 as[i]) w:=by
    simp[part,BX,ho,hia]
   have Gb:(part f.type (bs.map (ay .i64)).toArray f.offset).run P w= .ok (.int .i64 bs[i]) w:=by
    simp[part,BX,ho,hib]
   have ih:=DL w d as bs r (i+1) hr zQ zQ;have hk:(as.drop i=bs.drop i)↔(as[i]=bs[i]/\as.drop (i+1)=bs.drop (i+1)):=by
    rw[kO hia,kO hib,List.cons.injEq]
   simp only[hk];clear hk;by_cases he:as[i]=bs[i]
   ·simp[wY,hn,Zb,Gb,run_equalIn_int w d f.type .i64 q _ _ hd,he,ih]
   ·simp[wY,hn,Zb,Gb,run_equalIn_int w d f.type .i64 q _ _ hd,he]
def jx (P:Program) (t n:Nat):Bool:=match P.underlying t with
 |some (.struct fs)=>fs.toList.length==n&&MZ P fs.toList 0&&!P.stoodInHeld t&&!P.eqGuardType P.depth t
 |_=>false
theorem Ca {t:Nat} (h:jx P t n=true) (as bs:List Int) (ha:as.length=n) (hb:bs.length=n) (w:World):
  (uf 10000 t (.agg (as.map (ay .i64)).toArray) (.agg (bs.map (ay .i64)).toArray)).run P w= .ok (decide (as=bs)) w:=by
 unfold jx at h;split at h
 ·rename_i fs hu;simp only[aF,beq_iff_eq,cX] at h;have hf:P.fieldsOf t=fs:=by simp[Program.fieldsOf,hu]
  rw[run_equalIn_struct w 9999 t _ _ gQ h.1.2,hf];have:=DL (P:=P) w 9998 as bs fs.toList 0 h.1.1.2 zQ zQ;assumption
 ·cases h
theorem Gn {t:Nat} (h:jx P t n=true):P.eqGuardType P.depth t=false:=by
 unfold jx at h
 grind
variable {a' b' c c' : Int}
theorem Pm {N:Value->Prop} {b:Int} (h:jx P t 3=true) (k:N (.bool (decide (a=a'/\b=b'/\c=c')))):
  aX P X w (dG .eql t xo yo (.agg #[.int .i64 a,.int .i64 b,.int .i64 c]) (.agg #[.int .i64 a',.int .i64 b',.int .i64 c'])) N:=
 aiq (b:=decide (a=a'/\b=b'/\c=c')) (Gn h) (λwa=>by
  have:=Ca h [a,b,c] [a',b',c'] rfl rfl wa;simpa using this) k
theorem ais {N:Value->Prop} {b:Int} (h:jx P t 3=true) (k:N (.bool (!decide (a=a'/\b=b'/\c=c')))):
  aX P X w (dG .neq t xo yo (.agg #[.int .i64 a,.int .i64 b,.int .i64 c]) (.agg #[.int .i64 a',.int .i64 b',.int .i64 c'])) N:=
 air (b:=decide (a=a'/\b=b'/\c=c')) (Gn h) (λwa=>by
  have:=Ca h [a,b,c] [a',b',c'] rfl rfl wa;simpa using this) k
theorem ach {N:Value->World->XS->Prop} (hX: ∀k,X k->k<w.heap.size)
  (n: ∀b w' X',w.heap.size<=b->ai X w X' w'->X' b->w'.heap[b]? =some (.cells v.cells.toList.toArray t (0,0))->N (ptr b 0) w' X'):eV P R X w m (bT t v) N:=by
 intro wa hk;unfold jP;have hr:(bT t v).run P wa= .ok (ptr wa.heap.size 0) (wa.alloc (.cells v.cells t)):=by simp[bT,newVar,newRow]
 simp only[vS,bq,hr,aN,bO];have hx:Ext wa (wa.alloc (.cells v.cells t)):=Ext.alloc _ _;exact⟨Step.eZ hx,n _ _ _ hk.size (ai.eZ hX hk hx) (.inr ⟨au _,by simp⟩) (by simpa using heap_alloc_new wa _)⟩
def aH (w:World) (X:XS) (b:Nat) (cs:List Value) (ty:TypeId):Prop:=X b/\w.heap[b]? =some (.cells cs.toArray ty (0,0))
variable {cs : List Value}
theorem aH.kp (h:aH w X b cs ty) (hk:Kp X w w'):aH w' X b cs ty:=⟨h.1,by rw[hk.block b h.1];exact h.2⟩
def aH.mono (h:aH w X b cs ty) (hs: ∀k,X k->Y k):aH w Y b cs ty:=⟨hs _ h.1,h.2⟩
def aH.since (h:aH w X b cs ty) (hs:ai X w Y w'):aH w' Y b cs ty:=(h.kp hs.kp).mono hs.sub
theorem aH.cells (h:aH w X b cs ty):Cells w X b 0 cs:=⟨h.1,_,_,_,h.2,λj v hj=>by grind⟩
theorem ait {t:Nat} {N:Value->World->XS->Prop} (h:aH w X b cs ty) (ht:(P.info? t).map (·.size)=some sz)
  (hl:o+sz<=cs.length) (hv:v.cells.size=sz) (h1:v.cells.toList.all one=true) (hX: ∀k,X k->k<w.heap.size)
  (n: ∀w' X',Grown X w X' w' (some b)->aH w' X' b (dr cs o v.cells.toList) ty->N undef w' X'):eU P R X w true (Instr.storeAt t (ptr b o) v) N:=by
 intro wa hk;have hb:=(h.kp hk).2;unfold jP;have hr:=ND (P:=P) ht hb o zQ v hv h1;simp only[ej] at hr;simp only[uS,bq,hr,aN,bO];have gd:(wa.setRow b (dr cs o v.cells.toList).toArray).heap.size=wa.heap.size:=by simp
 refine⟨⟨rfl,rfl,rfl,by omega,λk _ hx=>setRow_other wa b k _ λe=>hx (e▸h.1)⟩,n _ _ ?_ ⟨.inl h.1,setRow_heap wa b _ _ ty _ hb⟩⟩;refine⟨hk.os,hk.tape,hk.output,by rw[gd];exact hk.size,λk hx ct=>?_,λk h=>.inl h,λk h=>?_⟩
 ·rw[setRow_other wa b k _ (λe=>ct (by rw[e])),hk.block k hx]
 ·rw[gd];exact h.elim (λh=>av (hX k h) hk.size) (λh=>by omega)
variable {P : Program} {α : Type}
end Go.aL
namespace Go.aL
variable {P : Program} {R : Ending -> World -> Prop} {X : XS} {w : World} {m : Bool} {κ : Type} [DecidableEq κ]
abbrev jr (κ:Type):=κ×Value×Nat
def lB (kv:κ->Value) (x:jr κ):MapEntry:=⟨kv x.1,x.2.1,x.2.2⟩
def sX (k:κ):List (jr κ)->Nat->Option (Nat×Value)
 |[],_=>none
 |x::r,i=>if k=x.1 then some (i,x.2.1)else sX k r (i+1)
structure xa (P:Program) (kt:TypeId) (kv:κ->Value):Prop where
 jk: ∀e k w,(gS e 10000 kt (kv k)).run P w= .ok () w
 find: ∀k (l:List (jr κ)) w,(tL kt (kv k) (l.map (lB kv))).run P w= .ok (sX k l 0) w
 same: ∀k,mN 10000 (kv k) (kv k)=true
theorem LU (a b:ByteArray):(a==b)=decide (a=b):=by
 rw[beq_toListBytes];have:a.toList=b.toList↔a=b:=by
  constructor
  ·intro h;rw[oe,oe] at h;obtain⟨⟨x⟩⟩:=a;simp_all
  ·grind
 grind
theorem J7 {kt:TypeId} (h:P.underlying kt=some .string) (e:Bool) (n:Nat) (k:ByteArray) (w:World):
  (gS e (n+1) kt (.string k)).run P w= .ok () w:=by simp[gS,run_underlying h]
theorem Pt {kt:TypeId} {fs:Array Field} (h:P.underlying kt=some (.struct fs)) (e:Bool) (n:Nat) (cs:Array Value) (w:World)
  (hr:(forIn fs mO λf (_:PUnit)=>(if f.name≠ "_" then(do
    let v<-part f.type cs f.offset
    gS e n f.type v
    pure (sh mO))
   else pure (sh mO):Sem (ForInStep PUnit))).run P w= .ok mO w):
  (gS e (n+1) kt (.agg cs)).run P w= .ok () w:=by
 simp only[gS,bq,run_underlying h,aN];exact(congrArg (λr=>r.andThen λ_ w'=>tw P (Pure.pure ()) w') hr).trans rfl
theorem IG {kt:TypeId} (h:P.underlying kt=some .string):xa P kt (λs:ByteArray=>aO s) where
 jk e k w:=J7 h e 9999 k w
 find k l w:=by
  have: ∀(l:List (jr ByteArray)) (i:Nat),kr .string (.string k) (l.map (lB λs=>aO s)) i=some (sX k l i):=by
   intro l
   induction l with
   |nil=>intro i;rfl
   |cons x r ih=>
    intro i;by_cases hk:k=x.1
    ·simp[kr,lB,Instr.sameNow,sX,hk,LU]
    ·simp[kr,lB,Instr.sameNow,sX,hk,ih,LU]
  simp[tL,run_underlying h,this]
 same k:=by simp[mN,LU]
theorem DN (w:World) (e:Bool) (d:Nat) (as:List Int): ∀(fs:List Field) (i:Nat),MZ P fs i=true->as.length=i+fs.length->
  (forIn fs mO λf (_:PUnit)=>(if f.name≠ "_" then(do
    let v<-part f.type (as.map (ay .i64)).toArray f.offset
    gS e (d+1) f.type v
    pure (sh mO))
   else pure (sh mO):Sem (ForInStep PUnit))).run P w= .ok mO w
 |[],i,_,_=>by simp
 |f::r,i,h,ha=>by
  simp only[MZ,aF,bne_iff_ne,ne_eq,beq_iff_eq] at h;obtain⟨⟨⟨hn,hu⟩,ho⟩,hr⟩:=h;simp only[aK] at ha;have hia:i<as.length:=by omega
  cases hd:P.underlying f.type with
  |none=>simp[hd] at hu
  |some ty=>
   cases ty<;>simp only[hd,aW] at hu
   rename_i q;have BX:(isAgg f.type).run P w= .ok false w:=by simp[isAgg,run_underlying hd]
   have Zb:(part f.type (as.map (ay .i64)).toArray f.offset).run P w= .ok (.int .i64 as[i]) w:=by
    simp[part,BX,ho,hia]
   have AT:(gS e (d+1) f.type (.int .i64 as[i])).run P w= .ok () w:=by
    simp[gS,run_underlying hd]
   have ih:=DN w e d as r (i+1) hr zQ;rw[List.forIn_cons];simp only[ne_eq,hn,not_false_eq_true,if_true,bq,Zb,AT,aN,bO];exact ih
theorem Vz (d:Nat) (as:List Int):mN (d+1) (.agg (as.map (ay .i64)).toArray) (.agg (as.map (ay .i64)).toArray)=true:=by
 have: ∀l:List Int,((l.map (ay .i64)).zip (l.map (ay .i64))).all (λ(x,y)=>mN d x y)=true:=by
  intro l
  induction l with
  |nil=>rfl
  |cons x r ih=>
   simp only[bm,List.zip_cons_cons,List.all_cons,ih,Bool.and_true]
   grind [mN]
 simp[mN,this]
variable {kt n : Nat}
theorem aiu (h:jx P kt n=true) (as:κ->List Int) (hlen: ∀k,(as k).length=n) (aq7: ∀a b,as a=as b->a=b):
  xa P kt (λk:κ=>dZ ((as k).map (ay .i64)).toArray) where
 jk e k w:=by
  unfold jx at h;split at h
  ·rename_i fs hu;simp only[aF,beq_iff_eq,cX] at h;have hr:=DN (P:=P) w e 9998 (as k) fs.toList 0 h.1.1.2 gQ;rw[Array.forIn_toList] at hr;exact Pt hu e 9999 _ w hr
  ·cases h
 find k l w:=by
  have h0:=h;unfold jx at h0;split at h0
  ·rename_i fs hu;have aq8: ∀(l:List (jr κ)) (i:Nat),(Bj kt (.agg ((as k).map (ay .i64)).toArray) (l.map (lB λk=>dZ ((as k).map (ay .i64)).toArray)) i).run P w= .ok (sX k l i) w:=by
    intro l
    induction l with
    |nil=>intro i;rfl
    |cons x r ih=>
     intro i;simp only[bm,Bj,lB,Op.equal,Op.maxDepth,bq,(Ca h (as k) (as x.1) (hlen _) (hlen _) w),aN,sX];by_cases hk:k=x.1
     ·subst hk;simp
     ·have: ¬as k=as x.1:=λe=>hk (aq7 _ _ e);simp only[this,decide_false,aW,if_false,hk];exact ih _
   cases l with
   |nil=>simp[tL,run_underlying hu,kr,sX]
   |cons x r=>
    have:=aq8 (x::r) 0;simp only[tL,bq,run_underlying hu,aN];assumption
  ·cases h0
 same k:=Vz 9999 (as k)
def mg (w:World) (X:XS) (b:Nat) (kv:κ->Value) (es:List (jr κ)) (clock:Nat):Prop:=
 X b/\w.heap[b]? =some (.map (es.map (lB kv)).toArray clock)/\(es.map (·.1)).Nodup/\(es.map (·.2.2)).Nodup/\ ∀x∈es,x.2.2<clock
variable {w' : World} {b c : Nat}
theorem mg.kp {kv:κ->Value} {es:List (jr κ)} (h:mg w X b kv es c) (hk:Kp X w w'):mg w' X b kv es c:=
 ⟨h.1,by rw[hk.block b h.1];exact h.2.1,h.2.2⟩
variable {Y : XS}
def mg.mono {kv:κ->Value} {es:List (jr κ)} (h:mg w X b kv es c) (hs: ∀k,X k->Y k):mg w Y b kv es c:=⟨hs _ h.1,h.2⟩
def mg.since {kv:κ->Value} {es:List (jr κ)} (h:mg w X b kv es c) (hs:ai X w Y w'):mg w' Y b kv es c:=
 (h.kp hs.kp).mono hs.sub
def GY (k:κ) (es:List (jr κ)):Option Value:=(es.find? λx=>decide (x.1=k)).map (·.2.1)
theorem Pu (k:κ): ∀(es:List (jr κ)) (i:Nat),sX k es i=(es.findIdx? λx=>decide (x.1=k)).bind λj=>(es[j]?).map λx=>(i+j,x.2.1)
 |[],i=>rfl
 |x::r,i=>by
  unfold sX;by_cases h:k=x.1
  ·grind
  ·rw[if_neg h,Pu k r (i+1)];have h': ¬x.1=k:=λe=>h e.symm;simp only[lX,h',decide_false,aW,if_false];cases r.findIdx? λx=>decide (x.1=k)with
   |none=>rfl
   |some j=>simp[Nat.add_assoc,Nat.add_comm 1 j]
theorem UT (k:κ): ∀(es:List (jr κ)) (i:Nat),(sX k es i).map (·.2)=GY k es
 |[],i=>rfl
 |x::r,i=>by
  unfold sX GY;by_cases h:k=x.1
  ·simp[h]
  ·have h': ¬x.1=k:=λe=>h e.symm;rw[if_neg h,UT k r (i+1)];simp[GY,h']
variable {et : Nat}
theorem aei {t:Nat} {kv:κ->Value} {es:List (jr κ)} {k:κ} {N:Value->Prop} (z:Value) (h:mg w X b kv es c) (K:xa P kt kv)
  (ht:P.underlying t=some (.map kt et)) (hz:(P.info? et).bind (·.zero)=some z)
  (n:N (.tuple #[(GY k es).getD z,.bool (GY k es).isSome])):aX P X w (bI t (.map (some b)) (kv k) true) N:=by
 refine Hp _ (λwa hk=>?_) n;cases hi:P.info? et with
 |none=>grind
 |some inf=>
  have uC:inf.zero=some z:=by simpa [hi] using hz
  have hg:=UT k es 0;simp only[bI,bq,run_underlying ht,aN,getObj,tw,((h.kp hk).2.1),K.jk,cN,K.find];cases hf:sX k es 0 with
  |none=>
   rw[hf] at hg;simp only[BO] at hg;simp[zeroValue,typeInfo,hi,uC,<-hg,K.find,hf]
  |some r=>
   rw[hf] at hg;simp only[aY] at hg;simp[<-hg,K.find,hf]
variable {N : Value -> World -> XS -> Prop} {t : TypeId}
theorem aej {kv:κ->Value} (hX: ∀k,X k->k<w.heap.size)
  (n: ∀b w' X',w.heap.size<=b->ai X w X' w'->mg w' X' b kv [] 0->N (.map (some b)) w' X'):eV P R X w m (fY t none) N:=by
 intro wa hk;unfold jP;have hr:(fY t none).run P wa= .ok (.map (some wa.heap.size)) (wa.alloc (.map #[] 0)):=by simp[fY]
 simp only[vS,bq,hr,aN,bO];have hx:Ext wa (wa.alloc (.map #[] 0)):=Ext.alloc _ _;exact⟨Step.eZ hx,n _ _ _ hk.size (ai.eZ hX hk hx) ⟨.inr ⟨au _,by simp⟩,by simpa using heap_alloc_new wa _,by simp,by simp,by simp⟩⟩
open Go.ChangeMaps (setBlock)
variable {wa : World}
theorem LV {o:Obj} (hX: ∀k,X k->k<w.heap.size) (hk:Kp X w wa):Grown X w (grow X wa (setBlock wa b o)) (setBlock wa b o) (some b):=by
 have hs:(setBlock wa b o).heap.size=wa.heap.size:=by simp[setBlock]
 refine⟨hk.os,hk.tape,hk.output,by rw[hs];exact hk.size,λk hx ct=>?_,λk h=>.inl h,λk h=>?_⟩
 ·rw[<-hk.block k hx];have:b≠k:=λe=>ct (by rw[e]);simp[setBlock,dL,this]
 ·rw[hs];exact h.elim (λh=>av (hX k h) hk.size) (λh=>by omega)
theorem Zc {o:Obj} (hb:X b):Fr X wa (setBlock wa b o):=by
 refine⟨rfl,rfl,rfl,by simp[setBlock],λk _ hx=>?_⟩;have:b≠k:=λe=>hx (e▸hb);simp[setBlock,dL,this]
theorem KJ {o:Obj} (hb:b<wa.heap.size):(setBlock wa b o).heap[b]? =some o:=by
 simp[setBlock,dL,hb]
theorem run_setObj_map {es:Array MapEntry} (hb:wa.heap[b]? =some (.map es c)) (o:Obj):(setObj b o).run P wa= .ok () (setBlock wa b o):=by
 simp[setObj,tw,hb,setBlock]
def GZ (k:κ) (v:Value) (c:Nat) (es:List (jr κ)):List (jr κ)×Nat:=
 match es.findIdx? λx=>decide (x.1=k)with
 |some i=>(es.modify i λx=>(x.1,v,x.2.2),c)
 |none=>(es++[(k,v,c)],c+1)
theorem Cb {β γ:Type} (g:β->γ) (f:β->β) (hf: ∀x,g (f x)=g x): ∀(l:List β) (i:Nat),(l.modify i f).map g=l.map g
 |[],i=>by simp
 |x::r,0=>by simp[hf]
 |x::r,i+1=>by simp[Cb g f hf r i]
theorem mem_modify {β:Type} {f:β->β} : ∀{l:List β} {i:Nat} {y:β},y∈l.modify i f-> ∃x∈l,y=x\/y=f x
 |[],i,y,h=>by simp at h
 |x::r,0,y,h=>by grind
 |x::r,i+1,y,h=>by
  simp only[List.modify_succ_cons,List.mem_cons] at h;rcases h with h|h
  ·grind
  ·obtain⟨z,hz,he⟩:=mem_modify h
   grind
variable {v : Value}
theorem af8 {t:Nat} {kv:κ->Value} {es:List (jr κ)} {k:κ} (h:mg w X b kv es c) (K:xa P kt kv)
  (ht:P.underlying t=some (.map kt et)) (hX: ∀k,X k->k<w.heap.size)
  (n: ∀w' X',Grown X w X' w' (some b)->mg w' X' b kv (GZ k v c es).1 (GZ k v c es).2->N undef w' X'):
  eU P R X w true (cI t (.map (some b)) (kv k) v) N:=by
 intro wa hk;have hM:=h.kp hk;have hb:=hM.2.1;have cB:b<wa.heap.size:=(Array.getElem?_eq_some_iff.1 hb).1;unfold jP;have hr:(cI t (.map (some b)) (kv k) v).run P wa= .ok () (setBlock wa b (.map ((GZ k v c es).1.map (lB kv)).toArray (GZ k v c es).2)):=by
  simp only[cI,bq,run_underlying ht,aN,getObj,tw,hb,K.jk,cN,K.find,Pu];unfold GZ;cases hf:es.findIdx? λx=>decide (x.1=k)with
  |none=>simp[run_setObj_map hb,lB]
  |some j=>
   have hj:=List.findIdx?_eq_some_iff_getElem.1 hf;obtain⟨HE,Kt,_⟩:=hj;have am5:es[j].1=k:=by simpa using Kt
   simp only[cM,aS HE,aY,fe,bq];have fP:(zn (((es.map (lB kv)).toArray[j]?).map (·.key)|>.getD (kv k)) (kv k)).run P wa= .ok (kv k) wa:=by
    simp[zn,HE,lB,am5,K.same]
   rw[fP];simp only[aN,run_setObj_map hb]
   congr 3
   rw[List.modify_toArray]
   congr 1
   apply List.ext_getElem?;intro q;simp only[List.getElem?_modify,List.getElem?_map];by_cases hq:j=q
   ·subst hq;simp[aS HE,lB,am5]
   ·simp[hq]
 simp only[uS,bq,hr,aN,bO];refine⟨Zc hM.1,n _ _ (LV hX hk) ⟨.inl h.1,KJ cB,?_,?_,?_⟩⟩
 ·unfold GZ;cases hf:es.findIdx? λx=>decide (x.1=k)with
  |none=>
   simp only[aD,bm,List.map_nil];rw[Aw];refine⟨h.2.2.1,by simp,λa ha y hy=>?_⟩;simp only[aw] at hy;subst hy;rintro rfl;obtain⟨x,hx,rfl⟩:=List.mem_map.1 ha;have:=List.findIdx?_eq_none_iff.1 hf x hx;simp at this
  |some j=>simp only;rw[Cb (λx:jr κ=>x.1) (λx=>(x.1,v,x.2.2)) (λ_=>rfl)];exact h.2.2.1
 ·unfold GZ;cases hf:es.findIdx? λx=>decide (x.1=k)with
  |none=>
   simp only[aD,bm,List.map_nil];rw[Aw];refine⟨h.2.2.2.1,by simp,λa ha y hy=>?_⟩;simp only[aw] at hy;subst hy;rintro rfl;obtain⟨x,hx,he⟩:=List.mem_map.1 ha;have:=h.2.2.2.2 x hx;omega
  |some j=>simp only;rw[Cb (λx:jr κ=>x.2.2) (λx=>(x.1,v,x.2.2)) (λ_=>rfl)];exact h.2.2.2.1
 ·unfold GZ;cases hf:es.findIdx? λx=>decide (x.1=k)with
  |none=>
   intro x hx;rcases List.mem_append.1 hx with hx|hx
   ·have:=h.2.2.2.2 x hx;grind
   ·simp only[aw] at hx;grind
  |some j=>
   intro x hx;obtain⟨y,hy,rfl|rfl⟩:=mem_modify hx
   ·exact h.2.2.2.2 _ hy
   ·exact h.2.2.2.2 y hy
def Pv (k:κ) (es:List (jr κ)):List (jr κ):=match es.findIdx? λx=>decide (x.1=k)with
 |some i=>es.eraseIdx i
 |none=>es
theorem af9 {t tk ty:Nat} {kv:κ->Value} {es:List (jr κ)} {k:κ} (h:mg w X b kv es c) (K:xa P kt kv)
  (ht:P.underlying t=some (.map kt et)) (hX: ∀k,X k->k<w.heap.size)
  (n: ∀w' X',Grown X w X' w' (some b)->mg w' X' b kv (Pv k es) c->N (.tuple #[]) w' X'):
  eV P R X w true (se #[t,tk] ty #[.map (some b),kv k]) N:=by
 intro wa hk;have hM:=h.kp hk;have hb:=hM.2.1;have cB:b<wa.heap.size:=(Array.getElem?_eq_some_iff.1 hb).1;unfold jP;have rA:(Pv k es).Sublist es:=by
  unfold Pv;split
  ·grind
  ·grind
 have hr:(se #[t,tk] ty #[.map (some b),kv k]).run P wa= .ok (.tuple #[]) (setBlock wa b (.map ((Pv k es).map (lB kv)).toArray c)):=by
  have e0:(#[t,tk]:Array TypeId)[0]? =some t:=rfl;have e1:(#[Value.map (some b),kv k]:Array Value)[0]? =some (.map (some b)):=rfl;have e2:(#[Value.map (some b),kv k]:Array Value)[1]? =some (kv k):=rfl;simp only[se,e0,e1,e2,bq,run_underlying ht,aN,getObj,tw,hb,K.jk,cN,K.find,Pu];unfold Pv;cases hf:es.findIdx? λx=>decide (x.1=k)with
  |none=>simp[run_setObj_map hb]
  |some j=>
   obtain⟨HE,_,_⟩:=List.findIdx?_eq_some_iff_getElem.1 hf;simp only[cM,aS HE,aY,fe,run_setObj_map hb,aN,bO];simp[Array.eraseIdxIfInBounds,HE,Go.ChangeMaps.map_eraseIdx,run_setObj_map hb]
 simp only[vS,bq,hr,aN,bO];exact⟨Zc hM.1,n _ _ (LV hX hk) ⟨.inl h.1,KJ cB,h.2.2.1.sublist (rA.map _),h.2.2.2.1.sublist (rA.map _),λx hx=>h.2.2.2.2 x (rA.subset hx)⟩⟩
def Bn (w:World) (X:XS) (r b:Nat) (kv:κ->Value) (es:List (jr κ)) (c:Nat) (left:List (jr κ)):Prop:=
 mg w X b kv es c/\X r/\r≠b/\ ∃seen:Array Nat,w.heap[r]? =some (.mapIter (some b) c seen c)/\left=es.filter (λx=>!seen.contains x.2.2)
variable {r : Nat}
theorem Bn.kp {kv:κ->Value} {es left:List (jr κ)} (h:Bn w X r b kv es c left) (hk:Kp X w w'):Bn w' X r b kv es c left:=
 ⟨h.1.kp hk,h.2.1,h.2.2.1,let⟨s,hs,hl⟩:=h.2.2.2;⟨s,by rw[hk.block r h.2.1];exact hs,hl⟩⟩
def Bn.mono {kv:κ->Value} {es left:List (jr κ)} (h:Bn w X r b kv es c left) (hs: ∀k,X k->Y k):Bn w Y r b kv es c left:=
 ⟨h.1.mono hs,hs _ h.2.1,h.2.2⟩
def Bn.since {kv:κ->Value} {es left:List (jr κ)} (h:Bn w X r b kv es c left) (hs:ai X w Y w'):Bn w' Y r b kv es c left:=
 (h.kp hs.kp).mono hs.sub
theorem aiv {t:Nat} {kv:κ->Value} {es:List (jr κ)} (h:mg w X b kv es c) (ht:P.underlying t=some (.map kt et))
  (hX: ∀k,X k->k<w.heap.size) (n: ∀r w' X',w.heap.size<=r->ai X w X' w'->Bn w' X' r b kv es c es->N (ptr r 0) w' X'):
  eV P R X w m (wX t (.map (some b))) N:=by
 intro wa hk;have hb:=(h.kp hk).2.1;have cB:b<wa.heap.size:=(Array.getElem?_eq_some_iff.1 hb).1;unfold jP;have hr:(wX t (.map (some b))).run P wa= .ok (ptr wa.heap.size 0) (wa.alloc (.mapIter (some b) c #[] c)):=by
  simp[wX,run_underlying ht,getObj,tw,hb]
 simp only[vS,bq,hr,aN,bO];have hx:Ext wa (wa.alloc (.mapIter (some b) c #[] c)):=Ext.alloc _ _;have hs:=ai.eZ hX hk hx;exact⟨Step.eZ hx,n _ _ _ hk.size hs ⟨h.since hs,.inr ⟨au _,by simp⟩,by omega,#[],heap_alloc_new wa _,(List.filter_eq_self.2 sQ).symm⟩⟩
theorem akY {ty:Nat} {kv:κ->Value} {es left:List (jr κ)} (h:Bn w X r b kv es c left) (hX: ∀k,X k->k<w.heap.size)
  (n0:left=[]-> ∀w' X',ai X w X' w'->N (.tuple #[.bool false]) w' X')
  (n1: ∀x∈left,∀w' X',Grown X w X' w' (some r)->Bn w' X' r b kv es c (left.filter λy=>decide (y.2.2≠x.2.2))->
   (∀wa,Kp X' w' wa->(pO (ptr r 0)).run P wa= .ok (.tuple #[kv x.1,x.2.1]) wa)->N (.tuple #[.bool true,kv x.1,x.2.1]) w' X'):
  eV P R X w true (Instr.next (ptr r 0) false ty) N:=by
 intro wa hk;obtain⟨hM,hXr,NL,seen,hr,aek⟩:=h.kp hk;have hb:=hM.2.1;have qh:r<wa.heap.size:=(Array.getElem?_eq_some_iff.1 hr).1;unfold jP;have hold: ∀x∈((es.map (lB kv)).toArray).toList,x.born<c:=by
  intro x hx;simp only[cN,List.mem_map] at hx;obtain⟨y,hy,rfl⟩:=hx;exact hM.2.2.2.2 y hy
 have gA:(leftOf (es.map (lB kv)).toArray seen).toList=left.map (lB kv):=by
  rw[aek];simp only[leftOf,Array.toList_filter,cN,List.filter_map];rfl
 rcases run_next_at (P:=P) wa ty r b c c seen _ c hr hb hold (au _)with⟨hz,nQ⟩|⟨e,he,w1,Eu,nQ⟩
 ·simp only[vS,bq,nQ,aN,bO];have h0:left=[]:=by
   have:left.map (lB kv)=[]:=by rw[<-gA];exact List.eq_nil_of_length_eq_zero (by simpa using hz)
   simpa using this
  exact⟨Step.eZ (Ext.refl _),n0 h0 _ _ (ai.eZ hX hk (Ext.refl _))⟩
 ·rw[gA] at he;obtain⟨x,hx,rfl⟩:=List.mem_map.1 he;simp only[vS,bq,nQ,aN,bO];have Fa:Kp X w w1:=by
   rcases Eu with rfl|rfl
   ·exact hk
   ·exact⟨hk.os,hk.tape,hk.output,hk.size,hk.block⟩
  have KX:r<w1.heap.size:=by rcases Eu with rfl|rfl<;>exact qh
  have lK:w1.heap[b]? =some (.map (es.map (lB kv)).toArray c):=by rcases Eu with rfl|rfl<;>exact hb
  have aq9:Fr X wa w1:=by rcases Eu with rfl|rfl<;>exact⟨rfl,rfl,rfl,au _,λ_ _ _=>rfl⟩
  have wN: ∀o,(setBlock w1 r o).heap[b]? =some (.map (es.map (lB kv)).toArray c):=by
   intro o;rw[<-lK];simp[setBlock,dL,NL]
  have ml:w1.heap.size=wa.heap.size:=by rcases Eu with rfl|rfl<;>rfl
  have ao1:grow X wa (setBlock w1 r (.mapIter (some b) c (seen.push x.2.2) c))=grow X w1 (setBlock w1 r (.mapIter (some b) c (seen.push x.2.2) c)):=by
   unfold grow;rw[ml]
  have hG:=LV (o:=.mapIter (some b) c (seen.push x.2.2) c) (b:=r) hX Fa;have NK:Bn (setBlock w1 r (.mapIter (some b) c (seen.push x.2.2) c)) (grow X w1 (setBlock w1 r (.mapIter (some b) c (seen.push x.2.2) c))) r b kv es c (left.filter λy=>decide (y.2.2≠x.2.2)):=by
   refine⟨⟨.inl hM.1,wN _,hM.2.2⟩,.inl hXr,NL,seen.push x.2.2,KJ KX,?_⟩;rw[aek,List.filter_filter]
   congr 1
   funext y
   by_cases hy:y.2.2=x.2.2<;>simp[hy,Array.contains_push,Bool.beq_eq_decide_eq]
  show Fr X wa _/\N _ _ (grow X wa _)
  refine⟨aq9.trans (Zc hXr),?_⟩
  show N (.tuple #[.bool true,kv x.1,x.2.1]) (setBlock w1 r (.mapIter (some b) c (seen.push x.2.2) c)) (grow X wa (setBlock w1 r (.mapIter (some b) c (seen.push x.2.2) c)))
  rw[ao1];refine n1 x hx _ _ hG NK λwb pe=>?_;have hxe:x∈es:=by rw[aek] at hx;exact(List.mem_filter.1 hx).1
  exact run_entry_at (P:=P) wb r b c seen (es.map (lB kv)).toArray c (lB kv x) (by rw[pe.block r (.inl hXr)];exact KJ KX) (NK.kp pe).1.2.1 (by rw[cN];exact List.mem_map.2 ⟨x,hxe,rfl⟩)
   (by rw[cN,List.map_map];exact hM.2.2.2.1)
theorem aiw {k:Value} (hX: ∀k,X k->k<w.heap.size)
  (h: ∀wa,Kp X w wa->(pO (ptr r 0)).run P wa= .ok (.tuple #[k,v]) wa) (n: ∀w' X',ai X w X' w'->N (.tuple #[k,v]) w' X'):
  eV P R X w m (pO (ptr r 0)) N:=by
 intro wa hk;unfold jP;simp only[vS,bq,h wa hk,aN,bO];exact⟨Step.eZ (Ext.refl _),n _ _ (ai.eZ hX hk (Ext.refl _))⟩
variable {P : Program} {R : Ending -> World -> Prop} {X : XS} {w : World} {m : Bool} {N : Value -> Prop}
def un (e:Value) (M:Value->Prop):Prop:=M e
def jn {α:Type} (r:α) (B:α->Prop):Prop:=B r
def iA (S f _fo _sz:Nat) (x:Value):Sem Value:=Instr.fieldAt S x f
def ld1 (t:TypeId) (x:Value):Sem Value:=jm t x
def su (t:TypeId) (_n:Nat) (x:Value):Sem Value:=jm t x
def st1 (t:TypeId) (_n:Nat) (x v:Value):Sem Unit:=Instr.storeAt t x v
def kT (t:TypeId) (_k:Nat) (v i:Value):Sem Value:=yU t v i
def kU (t ty:TypeId) (v:Value):Sem Value:=mF #[t] ty #[v]
def oY (t ty:TypeId) (v:Value):Sem Value:=mF #[t] ty #[v]
def rE (t:TypeId) (_cells:Array Value) (parts:Array (Nat×Value)):Sem Value:=Instr.build t parts
def pH (_k:IntKind) (src dst:TypeId) (x:Value):Sem Value:=convert src dst x
def Jp (src dst:TypeId) (x:Value):Sem Value:=convert src dst x
def Ew (t _n _e:Nat) (x i:Value):Sem Value:=Bi t x i
def gR (t _e _k len:Nat) (parts:Array (Nat×Value)):Sem Value:=jh t len parts
def gu (t _e _k _bytes ty:Nat) (v s:Value):Sem Value:=ff #[t,t] ty #[v,s]
def fdV (S f _fo _sz:Nat) (x:Value):Sem Value:=Instr.field S x f
abbrev I (x:Int):Value:=.int .i64 x
abbrev B (x:Bool):Value:=.bool x
def NO (X:XS) (w:World) (F:JT->Nat->World->XS->Prop):Prop:=Qb X w [] [] λJ n _ w X=>F J n w X
def Jq (X:XS) (w:World) (v1:Value) (c1:Nat) (F:JT->Nat->Value->World->XS->Prop):Prop:=Qb X w [v1] [c1] λJ n e w X=>F J n (e c1) w X
def Jr (X:XS) (w:World) (v1 v2:Value) (c1 c2:Nat) (F:JT->Nat->Value->Value->World->XS->Prop):Prop:=
 Qb X w [v1,v2] [c1,c2] λJ n e w X=>F J n (e c1) (e c2) w X
def Js (X:XS) (w:World) (v1 v2 v3:Value) (c1 c2 c3:Nat) (F:JT->Nat->Value->Value->Value->World->XS->Prop):Prop:=
 Qb X w [v1,v2,v3] [c1,c2,c3] λJ n e w X=>F J n (e c1) (e c2) (e c3) w X
def Jt (X:XS) (w:World) (v1 v2 v3 v4:Value) (c1 c2 c3 c4:Nat) (F:JT->Nat->Value->Value->Value->Value->World->XS->Prop):Prop:=
 Qb X w [v1,v2,v3,v4] [c1,c2,c3,c4] λJ n e w X=>F J n (e c1) (e c2) (e c3) (e c4) w X
def Ju (X:XS) (w:World) (v1 v2 v3 v4 v5:Value) (c1 c2 c3 c4 c5:Nat) (F:JT->Nat->Value->Value->Value->Value->Value->World->XS->Prop):Prop:=
 Qb X w [v1,v2,v3,v4,v5] [c1,c2,c3,c4,c5] λJ n e w X=>F J n (e c1) (e c2) (e c3) (e c4) (e c5) w X
def NP (X:XS) (w:World) (v1 v2 v3 v4 v5 v6:Value) (c1 c2 c3 c4 c5 c6:Nat) (F:JT->Nat->Value->Value->Value->Value->Value->Value->World->XS->Prop):Prop:=
 Qb X w [v1,v2,v3,v4,v5,v6] [c1,c2,c3,c4,c5,c6] λJ n e w X=>F J n (e c1) (e c2) (e c3) (e c4) (e c5) (e c6) w X
def NR (X:XS) (w:World) (v1 v2 v3 v4 v5 v6 v7:Value) (c1 c2 c3 c4 c5 c6 c7:Nat) (F:JT->Nat->Value->Value->Value->Value->Value->Value->Value->World->XS->Prop):Prop:=
 Qb X w [v1,v2,v3,v4,v5,v6,v7] [c1,c2,c3,c4,c5,c6,c7] λJ n e w X=>F J n (e c1) (e c2) (e c3) (e c4) (e c5) (e c6) (e c7) w X
def NS (X:XS) (w:World) (v1 v2 v3 v4 v5 v6 v7 v8:Value) (c1 c2 c3 c4 c5 c6 c7 c8:Nat) (F:JT->Nat->Value->Value->Value->Value->Value->Value->Value->Value->World->XS->Prop):Prop:=
 Qb X w [v1,v2,v3,v4,v5,v6,v7,v8] [c1,c2,c3,c4,c5,c6,c7,c8] λJ n e w X=>F J n (e c1) (e c2) (e c3) (e c4) (e c5) (e c6) (e c7) (e c8) w X
def NT (J:JT) (n:Nat) (w:World) (X:XS):Prop:=Et J n [] w X
def FN (J:JT) (n:Nat) (a:Value) (w:World) (X:XS):Prop:=Et J n [a] w X
def FO (J:JT) (n:Nat) (a b:Value) (w:World) (X:XS):Prop:=Et J n [a,b] w X
def Jv (J:JT) (n:Nat) (a b c:Value) (w:World) (X:XS):Prop:=Et J n [a,b,c] w X
def Jw (J:JT) (n:Nat) (a b c d:Value) (w:World) (X:XS):Prop:=Et J n [a,b,c,d] w X
def Jx (J:JT) (n:Nat) (a b c d f:Value) (w:World) (X:XS):Prop:=Et J n [a,b,c,d,f] w X
def NU (J:JT) (n:Nat) (a b c d f g:Value) (w:World) (X:XS):Prop:=Et J n [a,b,c,d,f,g] w X
def NV (J:JT) (n:Nat) (a b c d f g h:Value) (w:World) (X:XS):Prop:=Et J n [a,b,c,d,f,g,h] w X
def NW (J:JT) (n:Nat) (a b c d f g h i:Value) (w:World) (X:XS):Prop:=Et J n [a,b,c,d,f,g,h,i] w X
def J1 (I:Nat->Value->World->XS->Prop):JT:=λn vs w X=>match vs with
 |[a]=>I n a w X
 |_=>False
def J2 (I:Nat->Value->Value->World->XS->Prop):JT:=λn vs w X=>match vs with
 |[a,b]=>I n a b w X
 |_=>False
def J3 (I:Nat->Value->Value->Value->World->XS->Prop):JT:=λn vs w X=>match vs with
 |[a,b,c]=>I n a b c w X
 |_=>False
def J4 (I:Nat->Value->Value->Value->Value->World->XS->Prop):JT:=λn vs w X=>match vs with
 |[a,b,c,d]=>I n a b c d w X
 |_=>False
def J5 (I:Nat->Value->Value->Value->Value->Value->World->XS->Prop):JT:=λn vs w X=>match vs with
 |[a,b,c,d,f]=>I n a b c d f w X
 |_=>False
def fp {v1 c1 F} (I:Nat->Value->World->XS->Prop) (n:Nat) (h0:I n v1 w X)
  (h: ∀n a w' X',I n a w' X'->F (J1 I) n a w' X'):Jq X w v1 c1 F:=⟨J1 I,⟨n,h0⟩,λn e w' X' _ hj=>h n (e c1) w' X' hj⟩
def gz {v1 v2 c1 c2 F} (I:Nat->Value->Value->World->XS->Prop) (n:Nat) (h0:I n v1 v2 w X)
  (h: ∀n a b w' X',I n a b w' X'->F (J2 I) n a b w' X'):Jr X w v1 v2 c1 c2 F:=⟨J2 I,⟨n,h0⟩,λn e w' X' _ hj=>h n (e c1) (e c2) w' X' hj⟩
def AW {v1 v2 v3 c1 c2 c3 F} (I:Nat->Value->Value->Value->World->XS->Prop) (n:Nat) (h0:I n v1 v2 v3 w X)
  (h: ∀n a b c w' X',I n a b c w' X'->F (J3 I) n a b c w' X'):Js X w v1 v2 v3 c1 c2 c3 F:=⟨J3 I,⟨n,h0⟩,λn e w' X' _ hj=>h n (e c1) (e c2) (e c3) w' X' hj⟩
def alQ {v1 v2 v3 v4 c1 c2 c3 c4 F} (I:Nat->Value->Value->Value->Value->World->XS->Prop) (n:Nat) (h0:I n v1 v2 v3 v4 w X)
  (h: ∀n a b c d w' X',I n a b c d w' X'->F (J4 I) n a b c d w' X'):Jt X w v1 v2 v3 v4 c1 c2 c3 c4 F:=
 ⟨J4 I,⟨n,h0⟩,λn e w' X' _ hj=>h n (e c1) (e c2) (e c3) (e c4) w' X' hj⟩
def am6 {v1 v2 v3 v4 v5 c1 c2 c3 c4 c5 F} (I:Nat->Value->Value->Value->Value->Value->World->XS->Prop) (n:Nat) (h0:I n v1 v2 v3 v4 v5 w X)
  (h: ∀n a b c d f w' X',I n a b c d f w' X'->F (J5 I) n a b c d f w' X'):Ju X w v1 v2 v3 v4 v5 c1 c2 c3 c4 c5 F:=
 ⟨J5 I,⟨n,h0⟩,λn e w' X' _ hj=>h n (e c1) (e c2) (e c3) (e c4) (e c5) w' X' hj⟩
def eP {I n a} (k:Nat) (hk:k<n) (h:I k a w X):FN (J1 I) n a w X:=⟨k,hk,h⟩
def fB {I n a b} (k:Nat) (hk:k<n) (h:I k a b w X):FO (J2 I) n a b w X:=⟨k,hk,h⟩
def zi {I n a b c} (k:Nat) (hk:k<n) (h:I k a b c w X):Jv (J3 I) n a b c w X:=⟨k,hk,h⟩
def alS {I n a b c d} (k:Nat) (hk:k<n) (h:I k a b c d w X):Jw (J4 I) n a b c d w X:=⟨k,hk,h⟩
def am7 {I n a b c d f} (k:Nat) (hk:k<n) (h:I k a b c d f w X):Jx (J5 I) n a b c d f w X:=⟨k,hk,h⟩
def cD {α:Type} {r:α} {F:α->Prop} (h:F r):jn r F:=h
def ij {α:Type} {r:α} {F:α->Prop} (Q:α->Prop) (h:Q r) (k: ∀c,Q c->F c):jn r F:=k r h
variable {M : Value -> Prop}
def aoH {e:Value} (e':Value) (h:e=e') (k:M e'):un e M:=h▸k
variable {a : Value} {i : Nat} {l : List Value}
theorem akZ (h:l[i]? =some a) (k:M a):un (cellOf (.agg l.toArray) i) M:=by
 have:cellOf (.agg l.toArray) i=a:=by simp[cellOf,bf,List.getD,h]
 unfold un;grind
variable {o : Nat}
theorem aga (k:M (.agg ((l.drop o).take n).toArray)):un (yh (.agg l.toArray) o n) M:=by
 have:yh (.agg l.toArray) o n= .agg ((l.drop o).take n).toArray:=by simp[yh,bf]
 assumption
def Ym {c:Array Value} (k:M (.agg c)):un (.agg (bf (.agg c))) M:=k
def HQ (k:M v):un (pT (.bool true) true v) M:=k
def ak0 (k:M v):un (pT (.bool false) false v) M:=k
def aix (k:M undef):un (pT (.bool true) false v) M:=k
def Ff (k:M undef):un (pT (.bool false) true v) M:=k
theorem ak1 {q:Bool} (k:M undef):un (pT undef q v) M:=by
 have:pT undef q v=undef:=by rfl
 assumption
variable {A : Prop}
theorem ael {b:Bool} (h:b=true) (k:A):jk b A:=by subst h;exact k
variable {C : Prop}
def abY (h:A):mR (.bool true) A C:=⟨λ_=>h,λh=>absurd h sQ⟩
def SL (h:C):mR (.bool false) A C:=⟨λh=>absurd h sQ,λ_=>h⟩
theorem am8 {s:Sem Next} {want:Bool} (h:N undef):lS P X w undef want s N:=by
 have e:nZ undef want=false:=by rfl
 grind [lS]
variable {s : Sem Value}
def YZ (h:aX P X w s N):lS P X w (.bool true) true (vS s) N:=MI h
def aiy (h:aX P X w s N):lS P X w (.bool false) false (vS s) N:=MI h
variable {xo yo : Operand}
section
variable {k : IntKind} {a b : Int}
def aem (hT:a<b->N (.bool true)) (hF: ¬a<b->N (.bool false)):aX P X w (binOp .lss t (.int k a) (.int k b)) N:=
 akc gQ
def ajW (hT:a<=b->N (.bool true)) (hF: ¬a<=b->N (.bool false)):aX P X w (binOp .leq t (.int k a) (.int k b)) N:=
 akd gQ
def aen (hT:a>b->N (.bool true)) (hF: ¬a>b->N (.bool false)):aX P X w (binOp .gtr t (.int k a) (.int k b)) N:=
 ake gQ
def aeo (hT:a>=b->N (.bool true)) (hF: ¬a>=b->N (.bool false)):aX P X w (binOp .geq t (.int k a) (.int k b)) N:=
 akf gQ
def aep (hT:a=b->N (.bool true)) (hF: ¬a=b->N (.bool false)):aX P X w (dG .eql t xo yo (.int k a) (.int k b)) N:=
 Sg gQ
def aeq (hT: ¬a=b->N (.bool true)) (hF:a=b->N (.bool false)):aX P X w (dG .neq t xo yo (.int k a) (.int k b)) N:=
 akg gQ
def am9 (h:a<b) (k':N (.bool true)):aX P X w (binOp .lss t (.int k a) (.int k b)) N:=aem (λ_=>k') (λhn=>absurd h hn)
def ana (h: ¬a<b) (k':N (.bool false)):aX P X w (binOp .lss t (.int k a) (.int k b)) N:=aem (λhn=>absurd hn h) (λ_=>k')
def anb (h: ¬a<=b) (k':N (.bool false)):aX P X w (binOp .leq t (.int k a) (.int k b)) N:=ajW (λhn=>absurd hn h) (λ_=>k')
def anc (h:a>b) (k':N (.bool true)):aX P X w (binOp .gtr t (.int k a) (.int k b)) N:=aen (λ_=>k') (λhn=>absurd h hn)
def ane (h: ¬a>b) (k':N (.bool false)):aX P X w (binOp .gtr t (.int k a) (.int k b)) N:=aen (λhn=>absurd hn h) (λ_=>k')
def anf (h:a>=b) (k':N (.bool true)):aX P X w (binOp .geq t (.int k a) (.int k b)) N:=aeo (λ_=>k') (λhn=>absurd h hn)
def ang (h: ¬a>=b) (k':N (.bool false)):aX P X w (binOp .geq t (.int k a) (.int k b)) N:=aeo (λhn=>absurd hn h) (λ_=>k')
def anh (h:a=b) (k':N (.bool true)):aX P X w (dG .eql t xo yo (.int k a) (.int k b)) N:=aep (λ_=>k') (λhn=>absurd h hn)
def ani (h: ¬a=b) (k':N (.bool false)):aX P X w (dG .eql t xo yo (.int k a) (.int k b)) N:=aep (λhn=>absurd hn h) (λ_=>k')
def anj (h: ¬a=b) (k':N (.bool true)):aX P X w (dG .neq t xo yo (.int k a) (.int k b)) N:=aeq (λ_=>k') (λhn=>absurd hn h)
def ank (h:a=b) (k':N (.bool false)):aX P X w (dG .neq t xo yo (.int k a) (.int k b)) N:=aeq (λhn=>absurd h hn) (λ_=>k')
theorem ajX (h1: -(2^63)<=a+b) (h2:a+b<2^63) (h:N (.int .i64 (a+b))):aX P X w (binOp .add t (.int .i64 a) (.int .i64 b)) N:=
 nI (by rw[wrap_i64 h1 h2];exact h)
theorem ao2 (h1: -(2^63)<=a-b) (h2:a-b<2^63) (h:N (.int .i64 (a-b))):aX P X w (binOp .sub t (.int .i64 a) (.int .i64 b)) N:=
 abJ (by rw[wrap_i64 h1 h2];exact h)
theorem aoE (h1: -(2^63)<=a*b) (h2:a*b<2^63) (h:N (.int .i64 (a*b))):aX P X w (binOp .mul t (.int .i64 a) (.int .i64 b)) N:=
 Sf (by rw[wrap_i64 h1 h2];exact h)
end
theorem IH {a b:ByteArray} :a.toList=b.toList↔a=b:=by
 constructor
 ·intro h;rw[oe,oe] at h;obtain⟨⟨x⟩⟩:=a;simp_all
 grind
def zo (a b:ByteArray):Bool:=bW a.toList b.toList
section
variable {a b : ByteArray}
theorem anl (hT:a=b->N (.bool true)) (hF: ¬a=b->N (.bool false)):aX P X w (dG .eql t xo yo (.string a) (.string b)) N:=
 ag6 (by grind [IH])
theorem anm (hT: ¬a=b->N (.bool true)) (hF:a=b->N (.bool false)):aX P X w (dG .neq t xo yo (.string a) (.string b)) N:=
 ag7 (by simp only[ne_eq,IH];by_cases h:a=b;(· grind);(grind))
theorem ann (hT:zo a b=true->N (.bool true)) (hF:zo a b=false->N (.bool false)):aX P X w (binOp .lss t (.string a) (.string b)) N:=
 ag8 (by unfold zo at hT hF;cases h:bW a.toList b.toList;(· exact hF h);(grind))
theorem ano (hT:zo a b=false->N (.bool true)) (hF:zo a b=true->N (.bool false)):aX P X w (binOp .geq t (.string a) (.string b)) N:=
 ag9 (by unfold zo at hT hF;cases h:bW a.toList b.toList;(· exact hT h);(grind))
theorem anp (hT:zo a b=true\/a=b->N (.bool true)) (hF:zo a b=false-> ¬a=b->N (.bool false)):aX P X w (binOp .leq t (.string a) (.string b)) N:=
 aha (by
  unfold zo at hT hF;simp only[IH];cases h:bW a.toList b.toList
  ·by_cases h2:a=b
   ·grind
   grind
  grind)
theorem anq (hT:zo a b=false-> ¬a=b->N (.bool true)) (hF:zo a b=true\/a=b->N (.bool false)):aX P X w (binOp .gtr t (.string a) (.string b)) N:=
 ahb (by
  unfold zo at hT hF;simp only[IH];cases h:bW a.toList b.toList
  ·by_cases h2:a=b
   ·grind
   grind
  grind)
end
def qp (a b:Nat):Bool:=FloatKind.f64.format.order a b==some .lt
def px (a b:Nat):Bool:=FloatKind.f64.format.order a b==some .eq
def JK (a b:Nat):Bool:=FloatKind.f64.format.order a b==some .gt
section
variable {a : Nat}
theorem anr (hT:qp a b=true->N (.bool true)) (hF:qp a b=false->N (.bool false)):aX P X w (binOp .lss t (.float .f64 a) (.float .f64 b)) N:=
 ahc (by grind [qp])
theorem ans (hT:JK a b=true->N (.bool true)) (hF:JK a b=false->N (.bool false)):aX P X w (binOp .gtr t (.float .f64 a) (.float .f64 b)) N:=
 ahe (by grind [JK])
theorem ant (hT:qp a b=true\/px a b=true->N (.bool true)) (hF:qp a b=false->px a b=false->N (.bool false)):aX P X w (binOp .leq t (.float .f64 a) (.float .f64 b)) N:=
 ahd (by grind [qp,px])
theorem anu (hT:JK a b=true\/px a b=true->N (.bool true)) (hF:JK a b=false->px a b=false->N (.bool false)):aX P X w (binOp .geq t (.float .f64 a) (.float .f64 b)) N:=
 ahf (by grind [JK,px])
theorem anv (hT:px a b=true->N (.bool true)) (hF:px a b=false->N (.bool false)):aX P X w (dG .eql t xo yo (.float .f64 a) (.float .f64 b)) N:=
 ahg (by grind [px])
theorem anw (hT:px a b=false->N (.bool true)) (hF:px a b=true->N (.bool false)):aX P X w (dG .neq t xo yo (.float .f64 a) (.float .f64 b)) N:=
 ahh (by grind [px])
end
def Yl (h:N (.bool false)):aX P X w (Op.unary .not (.bool true)) N:=abK h
def afG (h:N (.bool true)):aX P X w (Op.unary .not (.bool false)) N:=abK h
section
variable {a b c a' b' c' : Int}
def Rf (h:jx P t 3=true) (hT:a=a'->b=b'->c=c'->N (.bool true)) (hF: ¬(a=a'/\b=b'/\c=c')->N (.bool false)):
  aX P X w (dG .eql t xo yo (.agg #[.int .i64 a,.int .i64 b,.int .i64 c]) (.agg #[.int .i64 a',.int .i64 b',.int .i64 c'])) N:=
 Pm h gQ
def Y3 (h:jx P t 3=true) (hT: ¬(a=a'/\b=b'/\c=c')->N (.bool true)) (hF:a=a'->b=b'->c=c'->N (.bool false)):
  aX P X w (dG .neq t xo yo (.agg #[.int .i64 a,.int .i64 b,.int .i64 c]) (.agg #[.int .i64 a',.int .i64 b',.int .i64 c'])) N:=
 ais h gQ
end
theorem ao3 (h:Cells w X b o l) (hi:kP P t=some (false,1)) (hl:l[0]? =some v) (k:N v):
  aX P X w (ld1 t (ptr b o)) N:=by
 cases l with
 |nil=>cases hl
 |cons x r=>
  simp only[jU,aj] at hl;subst hl;exact af4 h hi k
variable {ty : TypeId}
def ao4 {s:ByteArray} (ht:P.underlying t=some .string) (k:N (.int .i64 s.size)):aX P X w (oY t ty (.string s)) N:=aip ht k
variable {parts : Array (Nat × Value)}
def aer {cells:Array Value} (h:P.built t parts.toList=some cells) (k:N (.agg cells)):
  aX P X w (rE t cells parts) N:=af6 cells h k
def II {a:Addr} (h:N (.pointer (some a))):lR P X w (bu (.pointer (some a))) N:=aki h
def ajF {vs:Array Value} (hi:vs[i]? =some v) (h:N v):aX P X w (gD (.tuple vs) i) N:=NI hi h
variable {args : Array Value} {f : FuncId}
theorem M1 {b:Bool} {N:Value->World->XS->Prop}
  (h:Pure P f args (.bool b)) (hf:enters P f=true) (hX: ∀k,X k->k<w.heap.size)
  (hT:b=true-> ∀w' X',ai X w X' w'->N (.bool true) w' X') (hF:b=false-> ∀w' X',ai X w X' w'->N (.bool false) w' X'):
  eC P R X w m f args N:=acg hf hX h (by
  cases b
  ·exact hF rfl
  grind)
def rL {N:Value->World->XS->Prop}
  (h:Pure P f args v) (hf:enters P f=true) (hX: ∀k,X k->k<w.heap.size)
  (k: ∀w' X',ai X w X' w'->N v w' X'):eC P R X w m f args N:=acg hf hX h k
structure dY (F X:XS) (w:World) (X':XS) (w':World):Prop where
 os:w'.os=w.os
 tape:w'.tape=w.tape
 output:w'.output=w.output
 size:w.heap.size<=w'.heap.size
 block: ∀k,X k-> ¬F k->w'.heap[k]? =w.heap[k]?
 sub: ∀k,X k->X' k
 has: ∀k,X' k->k<w'.heap.size
variable {F X' : XS}
def dY.since (c:dY F X w X' w') (hY: ∀k,Y k->X k/\ ¬F k):ai Y w X' w':=
 ⟨⟨c.os,c.tape,c.output,c.size,λk hk=>c.block k (hY k hk).1 (hY k hk).2⟩,λk hk=>c.sub k (hY k hk).1,c.has⟩
variable {w0 : World} {X0 : XS}
def ai.dX (h:ai X0 w0 X w) (c:dY F X w X' w') (hd: ∀k,X0 k-> ¬F k):ai X0 w0 X' w':=
 ⟨⟨c.os.trans h.kp.os,c.tape.trans h.kp.tape,c.output.trans h.kp.output,ad h.kp.size c.size,
  λk hk=>(c.block k (h.sub k hk) (hd k hk)).trans (h.kp.block k hk)⟩,λk hk=>c.sub k (h.sub k hk),c.has⟩
def dY.aes (hX: ∀k,X k->k<w.heap.size) (hk:Kp X w wa) (hf:Fr F wa w'):dY F X w (grow X wa w') w':=
 ⟨hf.os.trans hk.os,hf.tape.trans hk.tape,hf.output.trans hk.output,ad hk.size hf.size,
  λk hx hn=>(hf.block k (av (hX k hx) hk.size) hn).trans (hk.block k hx),λ_ h=>.inl h,
  λk h=>h.elim (λh=>av (hX k h) (ad hk.size hf.size)) (λh=>h.2)⟩
def dY.nz (h:ai X w X' w') (F:XS):dY F X w X' w':=
 ⟨h.kp.os,h.kp.tape,h.kp.output,h.kp.size,λk hk _=>h.kp.block k hk,h.sub,h.has⟩
def Grown.dX {row:Option Nat} (g:Grown X w X' w' row):dY (λk=>some k=row) X w X' w':=
 ⟨g.os,g.tape,g.output,g.size,λk hk hn=>g.block k hk hn,g.sub,g.has⟩
variable {mi : World}
theorem dY.trans {wC:XS} (a:dY F X w X' w') (b:dY F X' w' wC mi):dY F X w wC mi:=
 ⟨b.os.trans a.os,b.tape.trans a.tape,b.output.trans a.output,ad a.size b.size,
  λk hk hn=>(b.block k (a.sub k hk) hn).trans (a.block k hk hn),λk hk=>b.sub k (a.sub k hk),b.has⟩
def dY.mono {G:XS} (a:dY F X w X' w') (h: ∀k,X k->F k->G k):dY G X w X' w':=
 ⟨a.os,a.tape,a.output,a.size,λk hk hn=>a.block k hk λhf=>hn (h k hk hf),a.sub,a.has⟩
def made (w w':World):XS:=λg=>w.heap.size<=g/\g<w'.heap.size
def out (F:XS) (w:World):XS:=λk=>k<w.heap.size/\ ¬F k
def uF (F:XS) (w0:World) (Q:Value->World->Prop):Ending->World->Prop:=λe w'=> ∃v,e= .returned v/\Fr F w0 w'/\Q v w'
def Ct (P:Program) (f:FuncId) (args:Array Value) (w:World) (X F:XS) (Q:Value->World->World->Prop):Prop:=
 ∀wa,Kp X w wa->Calls P f args wa (uF F wa λv w'=>Q v wa w')
variable {Q : Value -> World -> World -> Prop}
def Ct.mono {Q':Value->World->World->Prop} (h:Ct P f args w X F Q) (k: ∀v wa w',Kp X w wa->Q v wa w'->Q' v wa w'):Ct P f args w X F Q':=
 λwa hk=>(h wa hk).mono λ_ _ ⟨v,he,hf,hq⟩=>⟨v,he,hf,k v wa _ hk hq⟩
def cu {N:Value->World->XS->Prop}
  (h:Ct P f args w X nX Q) (hf:enters P f=true) (hX: ∀k,X k->k<w.heap.size)
  (k: ∀v wa w' X',Q v wa w'->w.heap.size<=wa.heap.size->(∀k,made wa w' k->X' k)->ai X w X' w'->N v w' X'):eC P R X w m f args N:=
 Y9 (Q:=Q) hf hX h λv wa w' X' hk _ hn hq hs=>k v wa w' X' hq hk.size (λg hg=>hn g hg.1 hg.2) hs
theorem yP {N:Value->World->XS->Prop}
  (h:Ct P f args w X F Q) (hf:enters P f=true) (hX: ∀k,X k->k<w.heap.size) (hF: ∀k,F k->X k)
  (k: ∀v wa w' X',Q v wa w'->w.heap.size<=wa.heap.size->(∀k,made wa w' k->X' k)->Kp X w wa->dY F X w X' w'->N v w' X'):eC P R X w true f args N:=by
 intro wa hk;unfold jP;rw[oR hf args wa];refine⟨rfl,(h wa hk).mono ?_⟩;rintro e w' ⟨v,rfl,wT,hq⟩;exact⟨wT.mono hF,k v wa w' _ hq hk.size (λg hg=>.inr hg) hk (dY.aes hX hk wT)⟩
def bS {Q:Value->World->Prop} (hs:ai (bK w0) w0 X w) (h: ∀wa,Kp X w wa->Q v wa):fin (uF nX w0 Q) X w v:=
 λ_ hk=>⟨v,rfl,hs.ext hk,h _ hk⟩
def aci {Q:Value->World->Prop} (hs:ai (out F w0) w0 X w) (h: ∀wa,Kp X w wa->Q v wa):fin (uF F w0 Q) X w v:=
 λ_ hk=>⟨v,rfl,⟨hk.os.trans hs.kp.os,hk.tape.trans hs.kp.tape,hk.output.trans hs.kp.output,ad hs.kp.size hk.size,
  λk hl hn=>(hk.block k (hs.sub k ⟨hl,hn⟩)).trans (hs.kp.block k ⟨hl,hn⟩)⟩,h _ hk⟩
def ai.out (F:XS) (w:World):ai (out F w) w (bK w) w:=⟨Kp.refl _ _,λ_ h=>h.1,λ_ h=>h⟩
variable {rows : List (List Value)} {e k lo : Nat}
def Own.up (h:Own w' (made wa w') wa.heap.size e k v rows) (gv: ∀k,made wa w' k->X' k) (hl:lo<=wa.heap.size):
  Own w' X' lo e k v rows:=(h.mono gv).low hl
theorem Own.dX (h:Own w X lo e k v rows) (c:dY F X w X' w') (hd: ∀g,v.ownBlock=some g-> ¬F g):Own w' X' lo e k v rows:=by
 obtain⟨h1,h2,h3⟩:=h;refine⟨h1,⟨h2.1,?_⟩,λg hg=>c.sub g (h3 g hg)⟩;rcases h2.2 with h|⟨g,cap,cur,rfl,hb,hg,hr⟩
 ·exact .inl h
 ·exact .inr ⟨g,cap,cur,rfl,hb,by rw[c.block g (h3 g rfl) (hd g rfl)];exact hg,hr⟩
theorem Sl.sub (h:Sl w X k v rows) (hs: ∀k,X k->k<w.heap.size->Y k):Sl w Y k v rows:=by
 obtain⟨h1,h2,base,cap,hv,hc,hr⟩:=h;exact⟨h1,h2,base,cap,hv,λct=>let⟨b,o,hb,iN⟩:=hc ct;⟨b,o,hb,hs _ iN.1 iN.lt,iN.2⟩,hr⟩
def Sl.len (h:Sl w X k v rows):rows.length<=2^63-1:=h.2.1
theorem Sl.gO {α:Type} {enc:α->List Value} {xs:List α} (h:Sl w X k v (xs.map enc)):xs.length<=2^63-1:=by have:=h.2.1;grind
theorem Cells.sub (h:Cells w X b o l) (hs: ∀k,X k->k<w.heap.size->Y k):Cells w Y b o l:=⟨hs _ h.1 h.lt,h.2⟩
def Cells.bK (h:Cells w X b o l):Cells w (bK w) b o l:=⟨h.lt,h.2⟩
abbrev SP:=Program->(Ending->World->Prop)->XS->World->Prop
def du (s:Sem Value) (N:Value->SP):SP:=λP R X w=>aX P X w s λv=>N v P R X w
def sA (s:Sem Next) (N:Value->SP):SP:=λP R X w=>lR P X w s λv=>N v P R X w
def qq (g:Value) (want:Bool) (s:Sem Next) (N:Value->SP):SP:=λP R X w=>lS P X w g want s λv=>N v P R X w
def Gp (e:Value) (M:Value->SP):SP:=λP R X w=>un e λv=>M v P R X w
def xT (m:Bool) (s:Sem Value) (N:Value->SP):SP:=λP R X w=>eV P R X w m s λv w X=>N v P R X w
def ZcU (m:Bool) (s:Sem Unit) (N:Value->SP):SP:=λP R X w=>eU P R X w m s λv w X=>N v P R X w
def uL (f:FuncId) (args:Array Value) (N:Value->SP):SP:=λP R X w=>eC P R X w true f args λv w X=>N v P R X w
def lO (f:FuncId) (args:Array Value) (N:Value->SP):SP:=λP R X w=>eC P R X w false f args λv w X=>N v P R X w
def C6 (m:Bool) (f:Value) (args:Array Value) (N:Value->SP):SP:=λP R X w=>eF P R X w m f args λv w X=>N v P R X w
def ZcE (g:Value) (want:Bool) (A B:SP):SP:=λP R X w=>gE g want (A P R X w) (B P R X w)
def aU (v:Value):SP:=λ_ R X w=>fin R X w v
def mr (b:Bool) (A:SP):SP:=λP R X w=>jk b (A P R X w)
def iv (c:Value) (A B:SP):SP:=λP R X w=>mR c (A P R X w) (B P R X w)
def lj (A B:SP):SP:=λP R X w=>And (A P R X w) (B P R X w)
def ZcR (R':Ending->World->Prop) (A:SP):SP:=λP _ X w=>A P R' X w
def LX (a:Value) (n:Nat) (N:Value->SP):SP:=λP R X w=>aX P X w (gD a n) λv=>N v P R X w
def j7 (t:TypeId) (x:Value) (N:Value->SP):SP:=λP R X w=>aX P X w (ld1 t x) λv=>N v P R X w
def jV (op:BinOp) (t:TypeId) (x y:Value) (N:Value->SP):SP:=λP R X w=>aX P X w (binOp op t x y) λv=>N v P R X w
def UU (op:BinOp) (t:TypeId) (n:Nat) (x c:Value) (N:Value->SP):SP:=λP R X w=>aX P X w (dG op t (.tmp n) (.const c) x c) λv=>N v P R X w
def xc (op:BinOp) (t:TypeId) (n m:Nat) (x y:Value) (N:Value->SP):SP:=λP R X w=>aX P X w (dG op t (.tmp n) (.tmp m) x y) λv=>N v P R X w
def sY (S f o z:Nat) (x:Value) (N:Value->SP):SP:=λP R X w=>aX P X w (iA S f o z x) λv=>N v P R X w
def Zck (t ty:TypeId) (v:Value) (N:Value->SP):SP:=λP R X w=>aX P X w (kU t ty v) λv=>N v P R X w
def Ay (t:TypeId) (k:Nat) (v i:Value) (N:Value->SP):SP:=λP R X w=>aX P X w (kT t k v i) λv=>N v P R X w
def oD (op:BinOp) (t:TypeId) (x y:Value) (A B:SP):SP:=λP R X w=>aX P X w (binOp op t x y) λv=>mR v (A P R X w) (B P R X w)
def Zic (op:BinOp) (t:TypeId) (n:Nat) (x c:Value) (A B:SP):SP:=λP R X w=>aX P X w (dG op t (.tmp n) (.const c) x c) λv=>mR v (A P R X w) (B P R X w)
def ug (op:BinOp) (t:TypeId) (n m:Nat) (x y:Value) (A B:SP):SP:=λP R X w=>aX P X w (dG op t (.tmp n) (.tmp m) x y) λv=>mR v (A P R X w) (B P R X w)
def xU (S f o z:Nat) (x:Value) (t:TypeId) (N:Value->SP):SP:=λP R X w=>aX P X w (iA S f o z x) λa=>aX P X w (ld1 t a) λv=>N v P R X w
def Zcn (S f o z:Nat) (x:Value) (t:TypeId) (N:Value->SP):SP:=λP R X w=>lR P X w (bu x) λy=>aX P X w (iA S f o z y) λa=>aX P X w (ld1 t a) λv=>N v P R X w
def Zcs (S f o z:Nat) (x:Value) (t:TypeId) (n:Nat) (v:Value) (A:SP):SP:=λP R X w=>aX P X w (iA S f o z x) λa=>eU P R X w true (st1 t n a v) λ_ w X=>A P R X w
def jt (S f o z:Nat) (x:Value) (t:TypeId) (n:Nat) (v:Value) (A:SP):SP:=λP R X w=>lR P X w (bu x) λy=>aX P X w (iA S f o z y) λa=>eU P R X w true (st1 t n a v) λ_ w X=>A P R X w
def qI (t:TypeId) (k:Nat) (v i:Value) (S f o z:Nat) (t':TypeId) (N:Value->SP):SP:=λP R X w=>aX P X w (kT t k v i) λx=>aX P X w (iA S f o z x) λa=>aX P X w (ld1 t' a) λv=>N v P R X w
def ji (t:TypeId) (k:Nat) (v i:Value) (t':TypeId) (N:Value->SP):SP:=λP R X w=>aX P X w (kT t k v i) λx=>aX P X w (ld1 t' x) λv=>N v P R X w
def kJ (a:Value) (N:Value->Value->SP):SP:=λP R X w=>aX P X w (gD a 0) λx=>aX P X w (gD a 1) λy=>N x y P R X w
def Rp (g v:Value) (s:Value->Sem Value) (N:Value->SP):SP:=λP R X w=>un (pT g true v) λu=>lS P X w g true (vS (s u)) λy=>lR P X w (iE g y (.bool false)) λv=>N v P R X w
def xV (g v:Value) (op:BinOp) (t:TypeId) (n:Nat) (c:Value) (N:Value->SP):SP:=λP R X w=>un (pT g true v) λu=>lS P X w g true (vS (dG op t (.tmp n) (.const c) u c)) λy=>lR P X w (iE g y (.bool false)) λv=>N v P R X w
def py (g v:Value) (op:BinOp) (t:TypeId) (z:Value) (N:Value->SP):SP:=λP R X w=>un (pT g true v) λu=>lS P X w g true (vS (binOp op t u z)) λy=>lR P X w (iE g y (.bool false)) λv=>N v P R X w
def Zd (g v:Value) (s:Value->Sem Value) (N:Value->SP):SP:=λP R X w=>un (pT g false v) λu=>lS P X w g false (vS (s u)) λy=>lR P X w (iE g (.bool true) y) λv=>N v P R X w
def LY (g v:Value) (op:BinOp) (t:TypeId) (n:Nat) (c:Value) (N:Value->SP):SP:=λP R X w=>un (pT g false v) λu=>lS P X w g false (vS (dG op t (.tmp n) (.const c) u c)) λy=>lR P X w (iE g (.bool true) y) λv=>N v P R X w
def G4 (g v:Value) (op:BinOp) (t:TypeId) (z:Value) (N:Value->SP):SP:=λP R X w=>un (pT g false v) λu=>lS P X w g false (vS (binOp op t u z)) λy=>lR P X w (iE g (.bool true) y) λv=>N v P R X w
def fF (y:Value) (n:Nat) (N:Value->SP):SP:=λP R X w=>un (dZ (bf y)) λu=>jk (ba (dc (bf y))==n) (jk (fH (dc (bf y)) one) (N u P R X w))
def Cc (t:TypeId) (n:Nat) (x:Value) (N:Value->SP):SP:=λP R X w=>aX P X w (su t n x) λy=>un (dZ (bf y)) λu=>jk (ba (dc (bf y))==n) (jk (fH (dc (bf y)) one) (N u P R X w))
def kK (x:Value) (A B:SP):SP:=λP R X w=>aX P X w (Op.unary UnOp.not x) λv=>mR v (A P R X w) (B P R X w)
def aiz (g:Value) (want:Bool) (f:FuncId) (args:Array Value) (k:Value->SP):SP:=λP R X w=>gE g want (eC P R X w true f args λv w X=>k v P R X w) (k undef P R X w)
def ui (l:Array Value):SP:=λ_ R X w=>fin R X w (.tuple l)
def lH (r:SP) (B:(SP)->SP):SP:=λP R X w=>jn (α:=World->XS->Prop) (λw X=>r P R X w) λc=>B (λ_ _ X w=>c w X) P R X w
def qd (r:Value->SP) (B:(Value->SP)->SP):SP:=λP R X w=>jn (α:=Value->World->XS->Prop) (λv0 w X=>r v0 P R X w) λc=>B (λv0 _ _ X w=>c v0 w X) P R X w
def tM (r:Value->SP) (B:(Value->SP)->SP):SP:=λP R X w=>jn (α:=Value->Prop) (λv0=>r v0 P R X w) λc=>B (λv0 _ _ _ _=>c v0) P R X w
def Ze (r:Value->Value->SP) (B:(Value->Value->SP)->SP):SP:=λP R X w=>jn (α:=Value->Value->World->XS->Prop) (λv0 v1 w X=>r v0 v1 P R X w) λc=>B (λv0 v1 _ _ X w=>c v0 v1 w X) P R X w
def Wo (r:Value->Value->SP) (B:(Value->Value->SP)->SP):SP:=λP R X w=>jn (α:=Value->Value->Prop) (λv0 v1=>r v0 v1 P R X w) λc=>B (λv0 v1 _ _ _ _=>c v0 v1) P R X w
def uj (v0:Value) (c0:Nat) (F:(Value->SP)->Value->SP):SP:=λP R X w=>Jq X w v0 c0 λJ n e0 w X=>F (λa0 _ _ X w=>FN J n a0 w X) e0 P R X w
def qJ (v0 v1:Value) (c0 c1:Nat) (F:(Value->Value->SP)->Value->Value->SP):SP:=λP R X w=>Jr X w v0 v1 c0 c1 λJ n e0 e1 w X=>F (λa0 a1 _ _ X w=>FO J n a0 a1 w X) e0 e1 P R X w
def Fi (v0 v1 v2:Value) (c0 c1 c2:Nat) (F:(Value->Value->Value->SP)->Value->Value->Value->SP):SP:=λP R X w=>Js X w v0 v1 v2 c0 c1 c2 λJ n e0 e1 e2 w X=>F (λa0 a1 a2 _ _ X w=>Jv J n a0 a1 a2 w X) e0 e1 e2 P R X w
def aiA (v0 v1 v2 v3:Value) (c0 c1 c2 c3:Nat) (F:(Value->Value->Value->Value->SP)->Value->Value->Value->Value->SP):SP:=λP R X w=>Jt X w v0 v1 v2 v3 c0 c1 c2 c3 λJ n e0 e1 e2 e3 w X=>F (λa0 a1 a2 a3 _ _ X w=>Jw J n a0 a1 a2 a3 w X) e0 e1 e2 e3 P R X w
def aiB (v0 v1 v2 v3 v4:Value) (c0 c1 c2 c3 c4:Nat) (F:(Value->Value->Value->Value->Value->SP)->Value->Value->Value->Value->Value->SP):SP:=λP R X w=>Ju X w v0 v1 v2 v3 v4 c0 c1 c2 c3 c4 λJ n e0 e1 e2 e3 e4 w X=>F (λa0 a1 a2 a3 a4 _ _ X w=>Jx J n a0 a1 a2 a3 a4 w X) e0 e1 e2 e3 e4 P R X w
def nE (l:List Value) (k:Nat) (y:Value) (n:Nat) (N:Value->SP):SP:=λP R X w=>un (dZ (zZ (dr l k (dc (bf y))))) λu=>jk (ba (dc (bf y))==n) (jk (fH (dc (bf y)) one) (N u P R X w))
def aZ:=λa=>Value.float .f64 a
def ae:=I 0
def pP:=λa b c d=>qq a b (vS c) d
def Zq3:=λa b c d=>Gp (pT a b c) d
def dd:=I 1
def lP:=λa b c d e (f:Value->Value->SP)=>sA a λx=>sY b c d e x (f x)
def iQ:=λa b c=>Gp (cellOf a b) c
def Zq7:=λa b=>Value.slice none a b
def dw:=B false
def pQ:=λa b c d=>jV .add a b c d
def bX:=λa b=>mr (gy a) b
def gx:=λa b c d e (f:Value->Sem Value) (g:Value->Value->SP)=>pP a b c λx=>pP d e (f x) (g x)
def iK:=λa b c d=>sA (iE a b c) d
def lz:=λa b c d e f=>Zic .eql a b c d e f
def jv:=λa b c d e (f:Value->Value->SP)=>iK a b c λx=>Zq3 x d e (f x)
def kX:=λa b c d e=>iK a b c λx=>iv x d e
def bD:=λa b c=>uL a #[b] c
def Bo:=λa b c d=>Gp (yh a b c) d
def gK:=λa b c d=>du (rE a b c) d
def S3:=λa b c d e=>oD .lss a b c d e
def dC:=λa b c d e f=>Zcn a b c 1 d e f
def cO:=λa b=>xT true a b
def rM:=λa b c d (e:Value->Value->SP)=>iQ a b λx=>iQ c d (e x)
def cx:=λa b c d=>uL a #[b,c] d
def aiC:=λa b c=>pQ a b dd c
def de:=B true
def aiD:=λa=>Zq7 0 a
def bt:=aiD 0
def jJ:=λa b c d e f g (h:Value->Value->Value->SP)=>lP a b c d e λx y=>cx f g y (h x y)
def dz:=λa b c=>Zq3 a true b c
def cV:=λa b c=>Zck a 3 b c
def fL:=λa b c=>Zq3 a false b c
def G5:=λa b c d e f (g:Value->Value->SP)=>Ay a b c d λx=>Cc e f x (g x)
def qK:=λa b c d (e:Value->SP)=>Bo a b c λx=>mr d (e x)
def oI:=λa b c d e=>qd a (aiz b c d e)
def cA:=λa b=>aiC 3 a b
def IJ:=λa b c d (e:Value->(Value->SP)->Value->SP)=>cV a b λx=>uj c d (e x)
def eQ:=λa b=>ZcU true a b
def fC:=λa b c d=>S3 3 a b c d
def qe:=λa b c d e=>lz 3 a b c d e
def aiE:=λa b c d e=>dC a 0 b c d e
def dD:=λa b c d=>aiE a 0 b c d
def fD:=Value.pointer none
def fA:=λa b=>ui #[a,b]
def aet:=λa b c d e f g h i j k=>gx a b c d e (λx=>dG f g h i x j) k
def kA:=λa b c d=>cI a b (.string c) d
def oJ:=λa b (c:Value->Value->SP)=>sA a λx=>j7 b x (c x)
def iz:=λa b c d e f=>Zic .neq a b c d e f
def rN:=λa b (c:Value->Sem Value) (d:Value->Value->SP) e f g h=>oI (λx=>pP a b (c x) (d x)) e f g h
def j5:=λa b c d e f g h i=>qe a b c d (qe e f g h i)
def fU:=ui #[]
def oK:=λa b c d e (f:Value->Sem Value) g h i (j:Value->Value->Value->SP)=>pP a b c λx=>gx d e (f x) g h i (j x)
def vi:=aO { data:= #[] }
def eY:=λa b c=>Bo a 0 b c
def vj:=λa=>dc (bf a)
def jj:=λa b c d e=>UU .eql a b c d e
def rO:=λa (b:Value->Sem Value) (c:Value->Value->SP)=>cO a λx=>cO (b x) (c x)
def gN:=λa b c=>gK a b #[] c
def sD:=λa b c (d:Value->Value->Value->SP)=>cx a b c λx=>kJ x (d x)
def gT:=aU dw
def nU:=λa b c d e f (g:Value->Value->SP)=>G5 a b c d e f λx y=>bX y (g x y)
def fO:=λa b c d=>jV a 3 b c d
def tA:=λa b c d e=>qK a b c d λx=>fA x e
def nV:=λa b c d (e:Value->(Value->SP)->Value->SP) f=>IJ a b c d λx y z=>fC z x (e x y z) f
def fV:=λa b c d e=>uL a #[b,c,d] e
def tB:=λa b c d (e:Value->Value->Value->SP) f g h i=>oI (λx=>jv a x b c d (e x)) f g h i
def ib:=λa=>ay IntKind.u64 a
def aiF:=λa b c d e=>dG a b (.tmp c) d e
def j6:=λa b c d e=>aiF a b c (.tmp d) e
def rP:=λa b c d e f (g:Value->(Value->Value->SP)->Value->Value->SP)=>cV a b λx=>qJ c d e f (g x)
def Fj:=λa b c d e=>dC a 1 b c d e
def um:=λa b c d (e:Value->Value->SP)=>fL a b λx=>fL c d (e x)
def kB:=λa b=>Gp (.agg a) b
def jQ:=λa b=>bD 236 a b
def wh:=λa b c d e f g h i j k=>rN a b c (λx y=>kX d e y f g) h i j k
def sE:=λa b c d e f g h (i:Value->Value->Value->Value->SP)=>rM a b c d λx y=>rM e f g h (i x y)
def wj:=λa b c d (e:Value->Value->Sem Value) (f:Value->Value->SP)=>dz a b λx=>Rp c d (e x) (f x)
def wo:=λa b (c:Value->Sem Value) (d:Value->Value->SP)=>bD a b λx=>du (c x) (d x)
def lZ:=λa b c d=>du (su a b c) d
def iU:=λa=>fH a gy
def gU:=λa b c d=>Fj a 1 b c d
def pz:=λa b c d e f g h i j k=>aet a b c d e f g h (.const i) j k
def aiG:=λa b c=>dr (vj a) b c
def ja:=λa b c=>zZ (aiG a b c)
def xW:=λa b c d e f (g:Value->Value->SP)=>Ay a b c d λx=>lZ e f x (g x)
theorem cz {p q:Prop} (h:q) (e:p=q:=by dsimp only [aZ,ae,pP,Zq3,dd,lP,iQ,Zq7,dw,pQ,bX,gx,iK,lz,jv,kX,bD,Bo,gK,S3,dC,cO,rM,cx,aiC,de,aiD,bt,jJ,dz,cV,fL,G5,qK,oI,cA,IJ,eQ,fC,qe,aiE,dD,fD,fA,aet,kA,oJ,iz,rN,j5,fU,oK,vi,eY,vj,jj,rO,gN,sD,gT,nU,fO,tA,nV,fV,tB,ib,aiF,j6,rP,Fj,um,kB,jQ,wh,sE,wj,wo,lZ,iU,gU,pz,aiG,ja,xW,nE,du,sA,qq,Gp,xT,ZcU,uL,C6,ZcE,aU,mr,iv,lj,ZcR,LX,j7,jV,UU,xc,sY,Zck,Ay,lO,oD,Zic,ug,xU,Zcn,Zcs,jt,qI,ji,kJ,ui,Rp,xV,py,Zd,LY,G4,fF,Cc,kK,aiz,lH,qd,tM,Ze,Wo,uj,qJ,Fi,aiA,aiB];try exact rfl):p:=e.symm▸h
variable {R : Ending -> World -> Prop} {w : World} {P : Program}
theorem asj {fn:Func} (hf:P.funcs[f]? =some fn) (pl:gC) {V:Prop} (h:V)
  (hs:(decide (args.size<=pl.n)&&pl.boxes.all λp=>decide (args.size<=p.1))=true:=by kernel_rfl) (hv:V=ON P (cF P pl fn) R args w:=by kernel_rfl):Calls P f args w R:=
 GC hf hs hv h
variable {P : Program} {R : Ending -> World -> Prop} {X Y Z : XS} {w w' mi : World} {m : Bool} {N : Value -> Prop} {α : Type}
def Mv (X:XS) (w:World) (Y:XS) (w':World):Prop:= ∀k,X k->k<w.heap.size->Y k/\w'.heap[k]? =w.heap[k]?
theorem Mv.trans (a:Mv X w Y w') (b:Mv Y w' Z mi):Mv X w Z mi:=λk hk hl=>by
 obtain⟨h1,h2⟩:=a k hk hl;have AS:k<w'.heap.size:=by
  have:w'.heap[k]? =some w.heap[k]:=by rw[h2];exact Array.getElem?_eq_getElem hl
  exact(Array.getElem?_eq_some_iff.1 this).1
 obtain⟨h3,h4⟩:=b k h1 AS
 grind
def ai.mv (h:ai X w Y w'):Mv X w Y w':=λk hk _=>⟨h.sub k hk,h.kp.block k hk⟩
def _root_.Go.aL.Kp.mv (h:Kp X w w'):Mv X w X w':=λk hk _=>⟨hk,h.block k hk⟩
def Mv.bK:Mv X w (bK w) w:=λ_ _ hl=>⟨hl,rfl⟩
def _root_.Go.aL.Kp.cr (h:Kp X w w'):Mv X w (bK w') w':=h.mv.trans Mv.bK
def Mv.out (h: ∀k,X k-> ¬F k):Mv X w (aL.out F w) w:=λk hk hl=>⟨⟨hl,h k hk⟩,rfl⟩
theorem Mv.sub (h: ∀k,X k->Y k):Mv X w Y w:=λk hk _=>⟨h k hk,rfl⟩
def Ext.mv (h:Ext w w'):Mv (aL.bK w) w (aL.bK w') w':=λ_ _ hl=>⟨av hl h.size,h.block hl⟩
def dY.mv {A:XS} (c:dY F X w Y w') (h: ∀k,A k->X k/\ ¬F k):Mv A w Y w':=λk hk _=>⟨c.sub k (h k hk).1,c.block k (h k hk).1 (h k hk).2⟩
theorem Cells.mv (h:Cells w X b o l) (v:Mv X w Y w'):Cells w' Y b o l:=by
 have hl:=h.lt;obtain⟨hx,cs,t,fr,hb,hc⟩:=h;obtain⟨h1,h2⟩:=v b hx hl;exact⟨h1,cs,t,fr,by grind,hc⟩
theorem Sl.mv (h:Sl w X k v rows) (m:Mv X w Y w'):Sl w' Y k v rows:=by
 obtain⟨h1,h2,base,cap,hv,hc,hr⟩:=h;exact⟨h1,h2,base,cap,hv,λct=>let⟨b,o,hb,iN⟩:=hc ct;⟨b,o,hb,iN.mv m⟩,hr⟩
def Sl.form (h:Sl w X k v rows): ∃b n c,v= .slice b n c:=let⟨_,_,b,c,hv,_⟩:=h;⟨b,_,c,hv⟩
variable {cs : List Value}
theorem aH.mv (h:aH w X b cs ty) (m:Mv X w Y w'):aH w' Y b cs ty:=by
 obtain⟨h1,h2⟩:=m b h.1 (Array.getElem?_eq_some_iff.1 h.2).1;exact⟨h1,by rw[h2];exact h.2⟩
theorem mg.mv {κ:Type} {kv:κ->Value} {es:List (jr κ)} (h:mg w X b kv es c) (m:Mv X w Y w'):mg w' Y b kv es c:=by
 obtain⟨h1,h2⟩:=m b h.1 (Array.getElem?_eq_some_iff.1 h.2.1).1;exact⟨h1,by rw[h2];exact h.2.1,h.2.2⟩
theorem Own.mv (h:Own w X lo e k v rows) (m:Mv X w Y w'):Own w' Y lo e k v rows:=by
 obtain⟨h1,h2,h3⟩:=h;refine⟨h1,⟨h2.1,?_⟩,λg hg=>(m g (h3 g hg) (h2.lt g hg).2).1⟩;rcases h2.2 with h|⟨g,cap,cur,rfl,hb,hg,hr⟩
 ·exact .inl h
 ·exact .inr ⟨g,cap,cur,rfl,hb,by rw[(m g (h3 g rfl) (Array.getElem?_eq_some_iff.1 hg).1).2];exact hg,hr⟩
def fg (w:World) (X:XS) (k:Nat) (v:Value) (rd:World->XS->List Value->α->Prop) (xs:List α):Prop:=
 ∃rows,Sl w X k v rows/\rows.length=xs.length/\ ∀(i:Nat) l x,rows[i]? =some l->xs[i]? =some x->rd w X l x
def Gi (rd:World->XS->List Value->α->Prop):Prop:= ∀{X Y:XS} {w w':World} {l:List Value} {x:α},rd w X l x->Mv X w Y w'->rd w' Y l x
theorem fg.mv {rd:World->XS->List Value->α->Prop} {xs:List α} (h:fg w X k v rd xs) (hm:Gi rd) (m:Mv X w Y w'):fg w' Y k v rd xs:=by
 obtain⟨rows,h1,h2,h3⟩:=h;exact⟨rows,h1.mv m,h2,λi l x hl hx=>hm (h3 i l x hl hx) m⟩
theorem fg.nil {rd:World->XS->List Value->α->Prop} (w:World) (X:XS) (k:Nat):fg w X k (.slice none 0 0) rd []:=⟨[],Sl.nil w X k,rfl,by simp⟩
theorem fg.one {rd:World->XS->List Value->α->Prop} {xs:List α} (h:fg w X k v rd xs):one v=true:=let⟨_,h1,_⟩:=h;h1.one
theorem fg.len {rd:World->XS->List Value->α->Prop} {xs:List α} (h:fg w X k v rd xs):xs.length<=2^63-1:=by
 obtain⟨_,h1,h2,_⟩:=h;rw[<-h2];exact h1.2.1
theorem Mv.refl (X:XS) (w:World):Mv X w X w:=λ_ hk _=>⟨hk,rfl⟩
def mv0:Mv X w X w:=Mv.refl _ _
def mv1 (h:ai X w Y w'):Mv X w Y w':=h.mv
theorem nq1:l.toArray.toList=l:=rfl
theorem nq2:(a::l).take (i+1)=a::l.take i:=rfl
theorem nq3:(a::l).drop (i+1)=l.drop i:=rfl
theorem nq4:l.take 0=[]:=rfl
theorem nq5:l.drop 0=l:=rfl
theorem nq6:([]:List Value).take i=[]:=List.take_nil
theorem nq7:(a::l).length=l.length+1:=rfl
theorem nq8:([]:List Value).length=0:=rfl
theorem nq9 {m:List Value} :a::l++m=a::(l++m):=rfl
theorem nq0:[]++l=l:=rfl
def mv2 (h:ai X w Y w') (h':ai Y w' Z mi):Mv X w Z mi:=(h.trans h').mv
variable {fo : Nat}
theorem Cells.Wp (h:Cells w X b o l) (hl:l[fo]? =some v):Cells w X b (o+fo) [v]:=by
 have hp:=h.part fo 1;have:(l.drop fo).take 1=[v]:=by
  obtain⟨cB,rfl⟩:=List.getElem?_eq_some_iff.1 hl;rw[kO cB,List.take_succ_cons,List.take_zero]
 grind
variable {l' : List Value} {S : Nat} {z : Int}
def ao5 {f sz:Nat} (h:Cells w0 X0 b o l) (hf:fieldInfo P S f=some (fo,sz)) (hz:(sz !=0)=true) (hl:(l.drop fo).take sz=l')
  (k: ∀o',o'=o+fo->Cells w0 X0 b o' l'->N (ptr b o')):aX P X w (iA S f fo sz (ptr b o)) N:=
 GX hf gQ (k _ rfl (hl▸h.part fo sz))
def Rq {f:Nat} (h:Cells w0 X0 b o l) (hf:fieldInfo P S f=some (fo,1)) (hl:l[fo]? =some v)
  (k: ∀o',o'=o+fo->Cells w0 X0 b o' [v]->N (ptr b o')):aX P X w (iA S f fo 1 (ptr b o)) N:=
 GX hf zQ (k _ rfl (h.Wp hl))
def aeu (h:Cells w0 X0 b o l) (m:Mv X0 w0 X w) (hi:kP P t=some (false,1)) (hl:l[0]? =some v) (k:N v):
  aX P X w (ld1 t (ptr b o)) N:=ao3 (h.mv m) hi hl k
def ac4 (h:Cells w0 X0 b o l) (m:Mv X0 w0 X w) (hi:kP P t=some (true,n)) (hn:l.length=n) (k:N (.agg l.toArray)):
  aX P X w (su t n (ptr b o)) N:=af5 (h.mv m) hi hn k
theorem ao6 {enc:α->List Value} {xs:List α} (h:Sl w0 X0 k v (xs.map enc))
  (ht:P.underlying t=some (.slice (P.elem t))) (n:N (.int .i64 xs.length)):aX P X w (kU t ty v) N:=by
 obtain⟨_,_,base,cap,rfl,_⟩:=h;exact bF (λwa=>run_len_slice wa t ty base _ cap ht) (by rw[List.length_map];exact n)
theorem ao7 {rd:World->XS->List Value->α->Prop} {xs:List α} (h:fg w0 X0 k v rd xs)
  (ht:P.underlying t=some (.slice (P.elem t))) (n:N (.int .i64 xs.length)):aX P X w (kU t ty v) N:=by
 obtain⟨rows,⟨_,_,base,cap,rfl,_⟩,h2,_⟩:=h;exact bF (λwa=>run_len_slice wa t ty base _ cap ht) (by rw[h2];exact n)
theorem Rr {r:List Value} (h:Sl w0 X0 k v rows) (hr:rows[i]? =some r) (hz:z=i)
  (ht:P.underlying t=some (.slice (P.elem t))) (hs:(P.info? (P.elem t)).map (·.size)=some k)
  (n: ∀b o,Cells w0 X0 b o r->N (ptr b o)):aX P X w (yU t v (.int .i64 z)) N:=by
 obtain⟨h1,_,base,cap,rfl,hc,_⟩:=h;have hi:i<rows.length:=(List.getElem?_eq_some_iff.1 hr).1;obtain⟨b,o,rfl,iN⟩:=hc gQ;have hp:=iN.part (i*k) k;rw[LR h1 hr] at hp;refine bF (λwa=>?_) (n b (o+i*k) hp);subst hz;rw[run_indexAt_slice (h:=ht),if_pos zQ];cases hq:P.info? (P.elem t)with
 |none=>grind
 |some inf=>
  have:inf.size=k:=by simpa [hq] using hs
  simp[sizeOf,typeInfo,hq,this,zN]
def ajY {enc:α->List Value} {xs:List α} {x:α} (h:Sl w0 X0 k v (xs.map enc)) (hr:xs[i]? =some x)
  (hz:z=i) (ht:P.underlying t=some (.slice (P.elem t))) (hs:(P.info? (P.elem t)).map (·.size)=some k)
  (n: ∀b o,Cells w0 X0 b o (enc x)->N (ptr b o)):aX P X w (kT t k v (.int .i64 z)) N:=
 Rr h (i:=i) gQ hz ht hs n
theorem FR {rd:World->XS->List Value->α->Prop} {xs:List α} {x:α} (h:fg w0 X0 k v rd xs) (hr:xs[i]? =some x)
  (hz:z=i) (ht:P.underlying t=some (.slice (P.elem t))) (hs:(P.info? (P.elem t)).map (·.size)=some k)
  (n: ∀b o l,Cells w0 X0 b o l->rd w0 X0 l x->N (ptr b o)):aX P X w (kT t k v (.int .i64 z)) N:=by
 obtain⟨rows,h1,h2,h3⟩:=h;have hi:i<rows.length:=by rw[h2];exact(List.getElem?_eq_some_iff.1 hr).1
 have hl:rows[i]? =some rows[i]:=aS hi;exact Rr h1 hl hz ht hs λb o hc=>n b o _ hc (h3 i _ _ hl hr)
theorem anx (h:Sl w0 X0 k v rows) (ht:P.underlying t=some (.slice (P.elem t)))
  (hT:v= .slice none 0 0->rows=[]->N (.bool true)) (hF:N (.bool false)):aX P X w (dG .eql t xo yo v (.slice none 0 0)) N:=by
 rcases h.src with⟨rfl,hr⟩|⟨a,cap,rfl,_⟩
 ·exact Za ht (hT rfl hr)
 ·exact Za ht hF
def S2 {xs:List α} (h:i<xs.length): ∃x,xs[i]? =some x/\xs.drop i=x::xs.drop (i+1):=
 ⟨xs[i],aS h,kO h⟩
theorem dA (xs:List α) (i:Nat):(i<xs.length/\ ∃x,xs[i]? =some x/\xs.drop i=x::xs.drop (i+1))\/(xs.length<=i/\xs.drop i=[]):=by
 rcases Nat.lt_or_ge i xs.length with h|h
 ·simp_all
 simp_all
def ao8 (hl:(l.drop o).take n=l') (k:M (.agg l'.toArray)):un (yh (.agg l.toArray) o n) M:=
 aga (hl▸k)
theorem ao9 (hl:dr l o cs=l') (k:M (.agg l'.toArray)):
  un (dZ (zZ (dr l o cs))) M:=by subst hl;exact k
theorem Kk (h:one v=true) (k:l.all one=true):(v::l).all one=true:=by simp[h,k]
def NA:fH ([]:List Value) one=true:=rfl
def anz (h:l.all one=true) (k:A):jk (fH (dc (bf (.agg l.toArray))) one) A:=ael h k
def anA (h:l.all one=true) (k:A):jk (fH l one) A:=ael h k
def ajG (hi:l[i]? =some v) (h:N v):aX P X w (gD (.tuple l.toArray) i) N:=NI gQ h
theorem Hv {b:Bool} {N:Value->World->XS->Prop}
  (h:Ct P f args w X nX λv _ _=>v= .bool b) (hf:enters P f=true) (hX: ∀k,X k->k<w.heap.size)
  (hT:b=true-> ∀w' X',ai X w X' w'->N (.bool true) w' X') (hF:b=false-> ∀w' X',ai X w X' w'->N (.bool false) w' X'):eC P R X w m f args N:=by
 refine cu h hf hX λv wa w' X' hv _ _ hs=>?_;subst hv;cases b
 ·grind
 grind
theorem dS {u:Value} {N:Value->World->XS->Prop}
  (h:Ct P f args w X nX λv _ _=>v=u) (hf:enters P f=true) (hX: ∀k,X k->k<w.heap.size)
  (k: ∀w' X',ai X w X' w'->N u w' X'):eC P R X w m f args N:=by
 refine cu h hf hX λv wa w' X' hv _ _ hs=>?_
 grind
theorem anB {N:Value->World->XS->Prop}
  (h:Ct P f args w X nX λv _ _=> ∃n:Int,v= .int .i64 n) (hf:enters P f=true) (hX: ∀k,X k->k<w.heap.size)
  (k: ∀(n:Int) w' X',ai X w X' w'->N (.int .i64 n) w' X'):eC P R X w m f args N:=by
 refine cu h hf hX λv wa w' X' hv _ _ hs=>?_
 grind
theorem apa {a b:Int} (h:N (.int .i64 (min a b))):aX P X w (jZ #[t,t] ty #[.int .i64 a,.int .i64 b]) N:=
 bF (λwa=>by
  simp only[jZ,List.foldlM];by_cases hc:b<a
  ·have:min a b=b:=by omega
   simp[Fh,hc,this]
  ·have:min a b=a:=by omega
   simp[Fh,hc,this]) h
variable {q : IntKind} {dst src : TypeId}
theorem aev {k:IntKind} {n:Int} (hs:(P.underlying src).isSome=true) (hd:P.underlying dst=some (.int k))
  (h:N (.int k (k.wrap n))):aX P X w (pH k src dst (.int q n)) N:=bF (λwa=>by
   have e:P.intKind dst=k:=by simp[Program.intKind,hd]
   have:=run_convert_int (P:=P) wa src dst q n hs gQ;rw[e] at this;exact this) h
def apb {n:Int} (hs:(P.underlying src).isSome=true) (hd:P.underlying dst=some (.float .f64))
  (h:N (.float .f64 (floatOfInt .f64 n))):aX P X w (Jp src dst (.int q n)) N:=bF (λwa=>run_convert_int_float wa src dst q .f64 n hs hd) h
theorem apc {e:TypeId} (ht:P.underlying t=some (.array n e)) (he:kP P e=some (false,1)) (hz:z=i) (hn:i<n) (hl:l[i]? =some v)
  (k:N v):aX P X w (Ew t n e (.agg l.toArray) (.int .i64 z)) N:=by
 subst hz;unfold kP at he;split at he
 ·rename_i d q hu Ep;simp only[aj,cP] at he;refine bF (v:=v) (λwa=>?_) k;have BX:(isAgg e).run P wa= .ok false wa:=by cases d<;>simp_all [isAgg,run_underlying hu]
  simp[Ew,Bi,asIntOf,run_underlying ht,hn,sizeOf,typeInfo,Ep,he.2,part,BX,hl]
 ·cases he
def apd {op:BinOp} {x y:Nat} (h:floatBits op .f64 x y=some r) (k:N (.float .f64 r)):aX P X w (binOp op t (.float .f64 x) (.float .f64 y)) N:=
 bF (λwa=>run_float_arith wa op t .f64 x y r h) k
theorem K9 (s:ByteArray):s.size=s.data.toList.length:=by rfl
theorem ape {s:ByteArray} {b:UInt8} (hb:s.data.toList[i]? =some b) (hz:z=i) (ht:P.underlying t=some .string) (k:N (.int .u8 b.toNat)):
  aX P X w (Bi t (.string s) (.int .i64 z)) N:=by
 subst hz;have hi:i<s.data.toList.length:=(List.getElem?_eq_some_iff.1 hb).1;have Ep:i<s.size:=by rw[K9];exact hi
 refine bF (v:=.int .u8 b.toNat) (λwa=>?_) k;rw[run_index_string wa t s .i64 i ht,dif_pos zQ];have:s[i]=b:=by
  have h2:s.data.toList[i]=b:=(List.getElem?_eq_some_iff.1 hb).2;rw[<-h2];rfl
 simp[this]
theorem Zf (f:Ieee.Format) (s:Bool) (m:Nat) (p:Int):(f.read (f.nearest s m p)).isNaN=false:=by
 have hle: ∃r,f.nearest s m p=f.word s r/\r<=f.infRung:=by
  unfold Ieee.Format.nearest;split
  ·grind
  ·exact⟨_,rfl,Nat.min_le_right _ _⟩
 obtain⟨r,hr,hle⟩:=hle;have cB:=f.infRung_lt;have hm:f.word s r % f.signWeight=r:=by
  unfold Ieee.Format.word;split
  ·rw[Nat.add_mod_left,fu zQ]
  ·rw[fu zQ]
 rw[hr];unfold Ieee.Format.read;simp only[hm];split
 ·rfl
 ·split
  ·rfl
  ·split
   ·rfl
   ·omega
def chain (p:α->Bool) (r:α->α->Bool):Option α->List α->Bool
 |_,[]=>true
 |none,x::l=>p x&&chain p r (some x) l
 |some y,x::l=>p x&&r y x&&chain p r (some x) l
def uo (xs:List α) (i:Nat):Option α:=if i=0 then none else xs[i-1]?
theorem qZ {xs:List α} {x:α} (h:xs[i]? =some x):uo xs (i+1)=some x:=by assumption
theorem M3 {xs:List α} (h:i<xs.length):(i=0/\uo xs i=none)\/(0<i/\ ∃y,xs[i-1]? =some y/\uo xs i=some y):=by
 by_cases h0:i=0
 ·grind [uo]
 ·have:xs[i-1]? =some xs[i-1]:=aS zQ
  grind [uo]
variable {P : Program} {R : Ending -> World -> Prop} {X : XS} {w : World} {m : Bool}
theorem foldl_set (l:List Value): ∀(n:Nat) (cs:Array Value),n+l.length<=cs.size->
  ((l.zipIdx n).foldl (λ(cs:Array Value) (p:Value×Nat)=>cs.setIfInBounds p.2 p.1) cs).toList=cs.toList.take n++l++cs.toList.drop (n+l.length):=by
 induction l with
 |nil=>intro n cs h;simp
 |cons x r ih=>
  intro n cs h;simp only[aK] at h;simp only[List.zipIdx_cons,List.foldl_cons];rw[ih (n+1) _ oQ];have hn:n<cs.toList.length:=by simp;omega
  simp only[Array.toList_setIfInBounds,aK];rw[List.take_set,List.drop_set_of_lt zQ];have:(cs.toList.take (n+1)).set n x=cs.toList.take n++[x]:=by
   rw[List.take_add_one,aS hn];simp only[Option.toList_some];rw[List.set_append_right _ _ oQ];have hm:(cs.toList.take n).length=n:=by rw[List.length_take];omega
   rw[hm,Nat.sub_self,List.set_cons_zero]
  rw[this];simp only[List.append_assoc,List.cons_append,cC]
  grind
variable {x : Value}
theorem Fk {cs:Array Value} (hx:x.cells.size=k) (hc:cs.size=k):
  rq (λi=>some (i*k,k)) cs [(0,x)]=some x.cells:=by
 unfold rq;simp only[Nat.zero_mul,fe,hx,ne_eq,not_true_eq_false,decide_false,hc,Nat.lt_irrefl,gt_iff_lt,Bool.or_self,aW,if_false];unfold rq;simp only[aj];apply Array.ext';have:=foldl_set x.cells.toList 0 cs oQ;rw[<-Array.toList_zipIdx,Array.foldl_toList] at this;simp_all
def eT (v:Value):XS:=λg=>v.ownBlock=some g
def nF (P:Program) (t e k bytes:Nat):Bool:=match P.underlying t,P.info? e with
 |some (.slice e'),some i=>e'==e&&i.size==k&&i.bytes==bytes&&(match i.zero with|some z=>z.cells.size==k|none=>false)&&decide (0<k)&&decide (k<=2^20)
 |_,_=>false
variable {bytes : Nat}
theorem mh {t:Nat} (h:nF P t e k bytes=true):P.underlying t=some (.slice e)/\0<k/\k<=2^20/\
  ∃z:Value,(P.info? e).bind (λi=>i.zero.map λz=>(i.size,i.bytes,z))=some (k,bytes,z)/\(P.info? e).bind (λi=>i.zero.map λz=>(i.size,z))=some (k,z)/\z.cells.size=k:=by
 unfold nF at h;split at h
 ·rename_i e' i hu hi;simp only[aF,beq_iff_eq,decide_eq_true_eq] at h;obtain⟨⟨⟨⟨⟨rfl,h2⟩,h3⟩,h4⟩,h5⟩,h6⟩:=h;cases hz:i.zero with
  |none=>grind
  |some z=>
   simp_all
 ·cases h
section
variable {t ty : Nat} {s : Value} {dq : List (List Value)} {row : List Value} {N : Value -> World -> XS -> Prop}
theorem agb (own:Own w X w0.heap.size e k v rows) (hs:ai X0 w0 X w) (h0: ∀k,X0 k->k<w0.heap.size) (he:nF P t e k bytes=true) (hx:x.cells.toList=row) (hk:(row.length==k)=true)
  (h1:row.all one=true) (hb:(rows.length+1)*bytes<=140737488355328) (hl:rows.length+1<=2^63-1)
  (n: ∀v' w' X',ai X0 w0 X' w'->Own w' X' w0.heap.size e k v' (rows++[row])->dY (eT v) X w X' w'->(v'.ownBlock=v.ownBlock\/ ∃g,v'.ownBlock=some g/\w.heap.size<=g)->N v' w' X'):
  eV P R X w m (gR t e k 1 #[(0,x)]) λs w1 X1=>eV P R X1 w1 true (gu t e k bytes ty v s) N:=by
 obtain⟨hu,ik,Fa,z,hi,hz,wZ⟩:=mh he;have af:row.length=k:=by simpa using hk
 have JL:x.cells.size=k:=by rw[<-af,<-hx,fw]
 refine B9 (rows:=[row]) x.cells z hs.has hu hz zQ zQ ?_ (by simpa using af) rfl gQ λs w1 X1 ax F9=>?_
 ·simp only[Bh];exact Fk JL sQ
 ·have gA:w0.heap.size<=w1.heap.size:=ad hs.kp.size ax.kp.size;refine C5 (dq:=[row]) z hu hi wZ ik ax.has gA (own.since ax) F9.sl (by simpa using h1) zQ zQ λv2 w2 X2 hg ho dh=>?_;have hd: ∀g,v.ownBlock=some g->w0.heap.size<=g:=λg hg=>(own.ge hg).1;refine n v2 w2 X2 ((hs.trans ax).grown hg λg hg0 he=>?_) ho ?_ ?_
  ·have:=hd g he.symm;have:=h0 g hg0;omega
  ·exact(dY.nz ax (eT v)).trans (hg.dX.mono λk _ hk=>hk.symm)
  ·rcases dh with h|⟨g,h,dB⟩
   ·exact .inl h
   ·exact .inr ⟨g,h,ad ax.kp.size dB⟩
def ace (own:Own w X w0.heap.size e k v rows) (hs:ai X0 w0 X w) (h0: ∀k,X0 k->k<w0.heap.size) (he:nF P t e k bytes=true) (hk:(l.length==k)=true)
  (h1:l.all one=true) (hb:(rows.length+1)*bytes<=140737488355328) (hl:rows.length+1<=2^63-1)
  (n: ∀v' w' X',ai X0 w0 X' w'->Own w' X' w0.heap.size e k v' (rows++[l])->dY (eT v) X w X' w'->(v'.ownBlock=v.ownBlock\/ ∃g,v'.ownBlock=some g/\w.heap.size<=g)->N v' w' X'):
  eV P R X w m (gR t e k 1 #[(0,.agg l.toArray)]) λs w1 X1=>eV P R X1 w1 true (gu t e k bytes ty v s) N:=agb own hs h0 he rfl hk h1 hb hl n
theorem MO (own:Own w X w0.heap.size e k v rows) (hs:ai X0 w0 X w) (h0: ∀k,X0 k->k<w0.heap.size) (he:nF P t e k bytes=true) (hk:(k==1)=true)
  (ho:one x=true) (hb:(rows.length+1)*bytes<=140737488355328) (hl:rows.length+1<=2^63-1)
  (n: ∀v' w' X',ai X0 w0 X' w'->Own w' X' w0.heap.size e k v' (rows++[[x]])->dY (eT v) X w X' w'->(v'.ownBlock=v.ownBlock\/ ∃g,v'.ownBlock=some g/\w.heap.size<=g)->N v' w' X'):
  eV P R X w m (gR t e k 1 #[(0,x)]) λs w1 X1=>eV P R X1 w1 true (gu t e k bytes ty v s) N:=by
 refine agb (row:=[x]) own hs h0 he ?_ (by simpa using (beq_iff_eq.1 hk).symm) (by simpa using ho) hb hl n;cases x<;>first|rfl|cases ho
theorem qj (own:Own w X w0.heap.size e k v rows) (hs:ai X0 w0 X w) (h0: ∀k,X0 k->k<w0.heap.size) (he:nF P t e k bytes=true) (src:Sl w X k s dq) (h1: ∀r∈dq,∀u∈r,one u=true)
  (hb:(rows.length+dq.length)*bytes<=140737488355328) (hl:rows.length+dq.length<=2^63-1)
  (n: ∀v' w' X',ai X0 w0 X' w'->Own w' X' w0.heap.size e k v' (rows++dq)->dY (eT v) X w X' w'->(v'.ownBlock=v.ownBlock\/ ∃g,v'.ownBlock=some g/\w.heap.size<=g)->N v' w' X'):
  eV P R X w true (gu t e k bytes ty v s) N:=by
 obtain⟨hu,ik,Fa,z,hi,hz,wZ⟩:=mh he;refine C5 (dq:=dq) z hu hi wZ ik hs.has hs.kp.size own src h1 hb hl λv2 w2 X2 hg ho dh=>?_;have hd: ∀g,v.ownBlock=some g->w0.heap.size<=g:=λg hg=>(own.ge hg).1;refine n v2 w2 X2 (hs.grown hg λg hg0 he=>?_) ho (hg.dX.mono λk _ hk=>hk.symm) dh;have:=hd g he.symm;have:=h0 g hg0;omega
def adb (hX: ∀k,X k->k<w.heap.size) (hu:P.underlying t=some (.slice e)) (hz:(P.info? e).map (·.size)=some k)
  (n: ∀v w' X',ai X w X' w'->Own w' X' w.heap.size e k v []->N v w' X'):eV P R X w m (gR t e k 0 #[]) N:=af7 hX hu hz n
end
theorem Wn {t len:Nat} {N:Value->World->XS->Prop} (cells:Array Value) (z:Value) (hX: ∀k,X k->k<w.heap.size) (he:nF P t e k bytes=true)
  (hz:(P.info? e).bind (·.zero)=some z) (Yq:0<len*k) (Ro:len*k<=2^24)
  (h:rq (λi=>some (i*k,k)) ((Bl (len*k)).map (z.cells[· % z.cells.size]!)) parts.toList=some cells)
  (Cu: ∀r∈rows,r.length=k) (hlen:rows.length=len) (hc:cells.toList=rows.flatten)
  (n: ∀v w' X',ai X w X' w'->Own w' X' w.heap.size e k v rows->N v w' X'):eV P R X w m (gR t e k len parts) N:=by
 obtain⟨hu,ik,Fa,z',hi,uC,wZ⟩:=mh he;have:z'=z:=by
  cases hq:P.info? e with
  |none=>grind
  |some ie=>simp_all
 subst this;exact B9 cells z' hX hu uC Yq Ro h Cu hlen hc n
end Go.aL
namespace Go.aL
variable {P : Program} {R : Ending -> World -> Prop} {X Y A A' : XS} {w w' : World} {m : Bool} {κ : Type} [DecidableEq κ] {α : Type}
def Zg (P:Program) (S f:Nat):Option Bool:=match P.underlying S with
 |some (.struct fs)=>match fs[f]? with
  |some x=>match P.underlying x.type with
   |some (.struct _)|some (.array _ _)=>some true
   |some _=>some false
   |none=>none
  |none=>none
 |_=>none
def qs (rd:World->XS->Value->α->Prop):Prop:= ∀(X Y:XS) (w w':World) (v:Value) (x:α),rd w X v x->Mv X w Y w'->rd w' Y v x
def nG (w:World) (A:XS) (rd:World->XS->Value->α->Prop):List (jr κ)->List (κ×α)->Prop
 |[],[]=>True
 |e::es,x::l=>e.1=x.1/\rd w A e.2.1 x.2/\nG w A rd es l
 |_,_=>False
theorem nG.mv {rd:World->XS->Value->α->Prop} (hm:qs rd) (v:Mv A w A' w'): ∀{es:List (jr κ)} {l:List (κ×α)},nG w A rd es l->nG w' A' rd es l
 |[],[],_=>trivial
 |_::_,_::_,⟨h1,h2,h3⟩=>⟨h1,hm _ _ _ _ _ _ h2 v,nG.mv hm v h3⟩
 |[],_::_,h=>h.elim
 |_::_,[],h=>h.elim
theorem nG.keys {rd:World->XS->Value->α->Prop} : ∀{es:List (jr κ)} {l:List (κ×α)},nG w A rd es l->es.map (·.1)=l.map (·.1)
 |[],[],_=>rfl
 |_::_,_::_,⟨h1,_,h3⟩=>by simp[h1,nG.keys h3]
 |[],_::_,h=>h.elim
 |_::_,[],h=>h.elim
theorem nG.append {rd:World->XS->Value->α->Prop} : ∀{es es':List (jr κ)} {l l':List (κ×α)},nG w A rd es l->nG w A rd es' l'->nG w A rd (es++es') (l++l')
 |[],_,[],_,_,h'=>h'
 |_::_,_,_::_,_,⟨h1,h2,h3⟩,h'=>⟨h1,h2,nG.append h3 h'⟩
 |[],_,_::_,_,h,_=>h.elim
 |_::_,_,[],_,h,_=>h.elim
def getM (k:κ) (l:List (κ×α)):Option α:=(l.find? λx=>decide (x.1=k)).map (·.2)
def cK (k:κ) (a:α):List (κ×α)->List (κ×α)
 |[]=>[(k,a)]
 |x::l=>if x.1=k then(k,a)::l else x::cK k a l
def kc (k:κ) (l:List (κ×α)):List (κ×α):=l.filter λx=>decide (x.1≠k)
theorem nG.get {rd:World->XS->Value->α->Prop} (k:κ): ∀{es:List (jr κ)} {l:List (κ×α)},nG w A rd es l->
  (GY k es=none/\getM k l=none)\/ ∃v a,GY k es=some v/\getM k l=some a/\rd w A v a
 |[],[],_=>.inl ⟨rfl,rfl⟩
 |e::es,x::l,⟨h1,h2,h3⟩=>by
  by_cases hk:x.1=k
  ·exact .inr ⟨e.2.1,x.2,by simp[GY,h1,hk],by simp[getM,hk],h2⟩
  ·rcases nG.get k h3 with⟨q1,q2⟩|⟨v,a,q1,q2,q3⟩
   ·left;constructor
    ·simp only[GY,fM,h1,hk,decide_false,aW,if_false];exact q1
    ·simp only[getM,fM,hk,decide_false,aW,if_false];exact q2
   ·right;refine⟨v,a,?_,?_,q3⟩
    ·simp only[GY,fM,h1,hk,decide_false,aW,if_false];exact q1
    ·simp only[getM,fM,hk,decide_false,aW,if_false];exact q2
 |[],_::_,h=>h.elim
 |_::_,[],h=>h.elim
def Gq (k:κ) (v:Value) (c:Nat):List (jr κ)->List (jr κ)
 |[]=>[(k,v,c)]
 |e::es=>if e.1=k then(e.1,v,e.2.2)::es else e::Gq k v c es
theorem acj (k:κ) (v:Value) (c:Nat) (es:List (jr κ)):(GZ k v c es).1=Gq k v c es:=by
 induction es with
 |nil=>rfl
 |cons e es ih=>
  unfold GZ at ih⊢;by_cases hk:e.1=k
  ·simp[lX,hk,Gq]
  ·simp only[lX,hk,decide_false,aW,if_false,Gq];cases hf:es.findIdx? λx=>decide (x.1=k)with
   |none=>grind
   |some j=>grind
variable {c : Nat} {v : Value}
theorem nG.put {rd:World->XS->Value->α->Prop} {k:κ} {a:α} (hv:rd w A v a): ∀{es:List (jr κ)} {l:List (κ×α)},nG w A rd es l->nG w A rd (Gq k v c es) (cK k a l)
 |[],[],_=>⟨rfl,hv,trivial⟩
 |e::es,x::l,⟨h1,h2,h3⟩=>by
  unfold Gq cK;by_cases hk:x.1=k
  ·rw[if_pos (h1.trans hk),if_pos hk];exact⟨h1.trans hk,hv,h3⟩
  ·rw[if_neg gQ,if_neg hk];exact⟨h1,h2,nG.put hv h3⟩
 |[],_::_,h=>h.elim
 |_::_,[],h=>h.elim
def Wq (k:κ) (es:List (jr κ)):List (jr κ):=es.filter λx=>decide (x.1≠k)
theorem ack (k:κ): ∀(es:List (jr κ)),(es.map (·.1)).Nodup->Pv k es=Wq k es
 |[],_=>rfl
 |e::es,h=>by
  have h':(es.map (·.1)).Nodup:=(List.nodup_cons.1 h).2;have ih:=ack k es h';unfold Pv at ih⊢;by_cases hk:e.1=k
  ·have:es.filter (λx=>decide (x.1≠k))=es:=List.filter_eq_self.2 λx hx=>by
    have:x.1≠k:=λhxk=>(List.nodup_cons.1 h).1 (by simp only[List.mem_map];exact⟨x,hx,by rw[hxk,hk]⟩)
    grind
   simp only[Wq] at this⊢;simp only[lX,hk,decide_true,if_true,List.eraseIdx_cons_zero,ne_eq,not_true_eq_false,decide_false,eo,aW,if_false]
   grind
  ·simp only[lX,hk,decide_false,aW,if_false];cases hf:es.findIdx? λx=>decide (x.1=k)with
   |none=>rw[hf] at ih;simp only[BO];simp only at ih;rw[ih];simp[Wq,hk,<-ih]
   |some j=>rw[hf] at ih;simp only[aY,List.eraseIdx_cons_succ] at ih⊢;rw[ih];simp[Wq,hk]
theorem nG.filter {rd:World->XS->Value->α->Prop} (p:κ->Bool): ∀{es:List (jr κ)} {l:List (κ×α)},nG w A rd es l->nG w A rd (es.filter λx=>p x.1) (l.filter λx=>p x.1)
 |[],[],_=>trivial
 |e::es,x::l,⟨h1,h2,h3⟩=>by
  have ih:=nG.filter p h3;by_cases hp:p x.1=true
  ·simp only[eo,h1,hp,if_true];exact⟨h1,h2,ih⟩
  grind
 |[],_::_,h=>h.elim
 |_::_,[],h=>h.elim
theorem nG.mem {rd:World->XS->Value->α->Prop} : ∀{es:List (jr κ)} {l:List (κ×α)},nG w A rd es l-> ∀e∈es,∃a,(e.1,a)∈l/\rd w A e.2.1 a
 |[],[],_,_,h=>by cases h
 |e0::es,x::l,⟨h1,h2,h3⟩,e,he=>by
  rcases List.mem_cons.1 he with rfl|he
  ·grind
  ·obtain⟨a,ha,hr⟩:=nG.mem h3 e he
   grind
 |[],_::_,h,_,_=>h.elim
 |_::_,[],h,_,_=>h.elim
def dK (w:World) (X A:XS) (b:Nat) (kv:κ->Value) (rd:World->XS->Value->α->Prop) (l:List (κ×α)):Prop:=
 ∃es c,mg w X b kv es c/\nG w A rd es l
variable {b : Nat}
def dK.mv {kv:κ->Value} {rd:World->XS->Value->α->Prop} {l:List (κ×α)} (h:dK w X A b kv rd l) (hm:qs rd) (v:Mv X w Y w') (va:Mv A w A' w'):dK w' Y A' b kv rd l:=
 let⟨es,c,h1,h2⟩:=h
 ⟨es,c,h1.mv v,h2.mv hm va⟩
theorem dK.nodup {kv:κ->Value} {rd:World->XS->Value->α->Prop} {l:List (κ×α)} (h:dK w X A b kv rd l):(l.map (·.1)).Nodup:=by
 obtain⟨es,c,h1,h2⟩:=h;rw[<-h2.keys];exact h1.2.2.1
theorem dK.x {kv:κ->Value} {rd:World->XS->Value->α->Prop} {l:List (κ×α)} (h:dK w X A b kv rd l):X b/\b<w.heap.size:=
 let⟨_,_,h1,_⟩:=h
 ⟨h1.1,(Array.getElem?_eq_some_iff.1 h1.2.1).1⟩
theorem dK.own {kv:κ->Value} {rd:World->XS->Value->α->Prop} {l:List (κ×α)} (h:dK w X A b kv rd l):dK w (λk=>k=b) A b kv rd l:=
 let⟨es,c,h1,h2⟩:=h
 ⟨es,c,⟨rfl,h1.2⟩,h2⟩
variable {ty : TypeId} {cs : List Value}
theorem aH.own (h:aH w X b cs ty):aH w (λk=>k=b) b cs ty:=⟨rfl,h.2⟩
theorem aH.lt (h:aH w X b cs ty):b<w.heap.size:=(Array.getElem?_eq_some_iff.1 h.2).1
theorem Mv.one (hk:Kp X w w') (hb:X b) (hy:Y b):Mv (λk=>k=b) w Y w':=λk af _=>by subst af;exact⟨hy,hk.block _ hb⟩
variable {N : Value -> World -> XS -> Prop}
def qY {t:TypeId} {kv:κ->Value} (rd:World->XS->Value->α->Prop) (A:XS) (hX: ∀k,X k->k<w.heap.size)
  (n: ∀b w' X',w.heap.size<=b->ai X w X' w'->dK w' X' A b kv rd []->N (.map (some b)) w' X'):eV P R X w m (fY t none) N:=
 aej hX λb w' X' hb hs hm=>n b w' X' hb hs ⟨[],0,hm,trivial⟩
variable {et kt t : Nat}
theorem Fl {kv:κ->Value} {rd:World->XS->Value->α->Prop} {l:List (κ×α)} {k:κ} {N:Value->Prop} (z:Value) (h:dK w X A b kv rd l) (K:xa P kt kv)
  (ht:P.underlying t=some (.map kt et)) (hz:(P.info? et).bind (·.zero)=some z)
  (n1: ∀v a,getM k l=some a->rd w A v a->N (.tuple #[v,.bool true])) (n0:getM k l=none->N (.tuple #[z,.bool false])):
  aX P X w (bI t (.map (some b)) (kv k) true) N:=by
 obtain⟨es,c,h1,h2⟩:=h;refine aei z h1 K ht hz ?_;rcases h2.get k with⟨q1,q2⟩|⟨v,a,q1,q2,q3⟩
 ·grind
 grind
theorem mL {kv:κ->Value} {rd:World->XS->Value->α->Prop} {l:List (κ×α)} {k:κ} {N:Value->Prop} (z:Value) (h:dK w X A b kv rd l) (K:xa P kt kv)
  (ht:P.underlying t=some (.map kt et)) (hz:(P.info? et).bind (·.zero)=some z)
  (n1: ∀v a,getM k l=some a->rd w A v a->N v) (n0:getM k l=none->N z):
  aX P X w (bI t (.map (some b)) (kv k) false) N:=by
 have key: ∀u q,(∀wa,Kp X w wa->(bI t (.map (some b)) (kv k) true).run P wa= .ok (.tuple #[u,.bool q]) wa)-> ∀wa,Kp X w wa->(bI t (.map (some b)) (kv k) false).run P wa= .ok u wa:=by
  intro u q hq wa hk;have h1:=hq wa hk;obtain⟨es,c,hm,_⟩:=h;simp only[bI,bq,run_underlying ht,aN,getObj,tw,((hm.kp hk).2.1),K.jk,cN,K.find] at h1⊢;cases hf:sX k es 0 with
  |none=>
   cases hi:P.info? et with
   |none=>simp[hi] at hz
   |some inf=>
    have uC:inf.zero=some z:=by simpa [hi] using hz
    simp[zeroValue,typeInfo,hi,uC,K.find,hf] at h1⊢;exact h1.1
  |some r=>
   simp[K.find,hf] at h1⊢;exact h1.1
 have:=Fl (N:=λv=> ∃u q,v= .tuple #[u,.bool q]/\N u) z h K ht hz (λv a h1 h2=>⟨v,_,rfl,n1 v a h1 h2⟩) (λh0=>⟨z,_,rfl,n0 h0⟩);obtain⟨v,hv,u,q,rfl,hn⟩:=this;refine Hp u (key u q λwa hk=>?_) hn;have:=hv wa hk;simp only[vS,bq] at this;cases hr:(bI t (.map (some b)) (kv k) true).run P wa with
 |ok a w2=>rw[hr] at this;simp only[aN,bO,Result.ok.injEq,Next.value.injEq] at this;grind
 |halt a w2=>grind [Result.andThen]
theorem uU {kv:κ->Value} {rd:World->XS->Value->α->Prop} {l:List (κ×α)} {k:κ} {a:α} (h:dK w X A b kv rd l) (hm:qs rd)
  (hv:rd w A v a) (hA: ∀k,A k->X k/\k≠b) (K:xa P kt kv) (ht:P.underlying t=some (.map kt et)) (hX: ∀k,X k->k<w.heap.size)
  (n: ∀w' X',dY (· =b) X w X' w'->dK w' X' A b kv rd (cK k a l)->N undef w' X'):
  eU P R X w true (cI t (.map (some b)) (kv k) v) N:=by
 obtain⟨es,c,h1,h2⟩:=h;refine af8 h1 K ht hX λw' X' hg hi=>?_;have hc:dY (· =b) X w X' w':=hg.dX.mono λk _ hk=>by simpa using hk
 refine n w' X' hc ⟨_,_,hi,?_⟩;rw[acj];have mv:Mv A w A w':=λk hk _=>⟨hk,hc.block k (hA k hk).1 (hA k hk).2⟩;exact(h2.put hv).mv hm mv
theorem aiH {tk ty:Nat} {kv:κ->Value} {rd:World->XS->Value->α->Prop} {l:List (κ×α)} {k:κ} (h:dK w X A b kv rd l) (hm:qs rd)
  (hA: ∀k,A k->X k/\k≠b) (K:xa P kt kv) (ht:P.underlying t=some (.map kt et)) (hX: ∀k,X k->k<w.heap.size)
  (n: ∀w' X',dY (· =b) X w X' w'->dK w' X' A b kv rd (kc k l)->N (.tuple #[]) w' X'):
  eV P R X w true (se #[t,tk] ty #[.map (some b),kv k]) N:=by
 obtain⟨es,c,h1,h2⟩:=h;refine af9 h1 K ht hX λw' X' hg hi=>?_;have hc:dY (· =b) X w X' w':=hg.dX.mono λk _ hk=>by grind
 refine n w' X' hc ⟨_,_,hi,?_⟩;rw[ack _ _ h1.2.2.1];have mv:Mv A w A w':=λk hk _=>⟨hk,hc.block k (hA k hk).1 (hA k hk).2⟩;exact(h2.filter (λx=>decide (x≠k))).mv hm mv
def LZ (w:World) (X A:XS) (r b:Nat) (kv:κ->Value) (rd:World->XS->Value->α->Prop) (l left:List (κ×α)):Prop:=
 ∃es c Ov,Bn w X r b kv es c Ov/\nG w A rd es l/\nG w A rd Ov left/\Ov.Sublist es
variable {r : Nat}
theorem LZ.mv {kv:κ->Value} {rd:World->XS->Value->α->Prop} {l left:List (κ×α)} (h:LZ w X A r b kv rd l left) (hm:qs rd) (v:Mv X w Y w') (va:Mv A w A' w'):LZ w' Y A' r b kv rd l left:=by
 obtain⟨es,c,Ov,h1,h2,h3,h4⟩:=h;refine⟨es,c,Ov,⟨h1.1.mv v,?_,h1.2.2.1,?_⟩,h2.mv hm va,h3.mv hm va,h4⟩
 ·obtain⟨s,hs,_⟩:=h1.2.2.2;exact(v r h1.2.1 (Array.getElem?_eq_some_iff.1 hs).1).1
 ·obtain⟨s,hs,hl⟩:=h1.2.2.2;exact⟨s,by rw[(v r h1.2.1 (Array.getElem?_eq_some_iff.1 hs).1).2];exact hs,hl⟩
theorem LZ.map {kv:κ->Value} {rd:World->XS->Value->α->Prop} {l left:List (κ×α)} (h:LZ w X A r b kv rd l left):dK w X A b kv rd l:=
 let⟨es,c,_,h1,h2,_⟩:=h
 ⟨es,c,h1.1,h2⟩
theorem LZ.nodup {kv:κ->Value} {rd:World->XS->Value->α->Prop} {l left:List (κ×α)} (h:LZ w X A r b kv rd l left):(left.map (·.1)).Nodup:=by
 obtain⟨es,c,Ov,h1,h2,h3,h4⟩:=h;rw[<-h3.keys];exact h1.1.2.2.1.sublist (h4.map _)
theorem agc {l:List (κ×α)} (c:κ×α->Bool):(l.map (·.1)).Nodup-> ∀{k:κ} {a:α},(k,a)∈l->l.any c=(c (k,a)||(l.filter λy=>decide (y.1≠k)).any c):=by
 induction l with
 |nil=>grind
 |cons x l ih=>
  intro hn k a h;have mj:=List.nodup_cons.1 hn;rcases List.mem_cons.1 h with h|h
  ·subst h;have:l.filter (λy=>decide (y.1≠k))=l:=List.filter_eq_self.2 λy hy=>by
    have:y.1≠k:=λe=>mj.1 (List.mem_map.2 ⟨y,hy,e⟩)
    grind
   simp only[List.any_cons,eo,ne_eq,not_true_eq_false,decide_false,aW,if_false];simp only[ne_eq] at this;rw[this]
  ·have hx:x.1≠k:=λe=>mj.1 (List.mem_map.2 ⟨(k,a),h,e.symm⟩);have:=ih mj.2 h;simp only[List.any_cons,eo,hx,ne_eq,not_false_eq_true,decide_true,if_true];simp only[ne_eq] at this;rw[this,<-Bool.or_assoc,<-Bool.or_assoc,Bool.or_comm (c x)]
theorem ak2 {l:List (κ×α)} {k:κ} {a:α} (h:(k,a)∈l):(l.filter λy=>decide (y.1≠k)).length<l.length:=by
 refine Nat.lt_of_le_of_ne (List.length_filter_le _ _) λe=>?_;have:=List.length_filter_eq_length_iff.1 e (k,a) h;simp at this
variable {w0 : World} {X0 : XS}
def ai.jd (h:ai X0 w0 X w) (hA: ∀k,A k->X0 k):Mv A w0 A w:=λk hk _=>⟨hk,h.kp.block k (hA k hk)⟩
theorem ak3 {kv:κ->Value} {rd:World->XS->Value->α->Prop} {l:List (κ×α)} (h:dK w X A b kv rd l) (hm:qs rd) (hA: ∀k,A k->X k)
  (ht:P.underlying t=some (.map kt et)) (hX: ∀k,X k->k<w.heap.size)
  (n: ∀r w' X',w.heap.size<=r->ai X w X' w'->LZ w' X' A r b kv rd l l->N (ptr r 0) w' X'):eV P R X w m (wX t (.map (some b))) N:=by
 obtain⟨es,c,h1,h2⟩:=h;refine aiv h1 ht hX λr w' X' hr hs hi=>n r w' X' hr hs ?_;have mv:Mv A w A w':=λk hk _=>⟨hk,hs.kp.block k (hA k hk)⟩;exact⟨es,c,es,hi,h2.mv hm mv,h2.mv hm mv,List.Sublist.refl _⟩
theorem anC {ty:Nat} {kv:κ->Value} {rd:World->XS->Value->α->Prop} {l left:List (κ×α)} (h:LZ w X A r b kv rd l left) (hm:qs rd)
  (hA: ∀k,A k->X k/\k≠r) (hX: ∀k,X k->k<w.heap.size)
  (n0:left=[]-> ∀w' X',ai X w X' w'->N (.tuple #[.bool false]) w' X')
  (n1: ∀k a v,(k,a)∈left-> ∀w' X',dY (· =r) X w X' w'->rd w' A v a->LZ w' X' A r b kv rd l (left.filter λy=>decide (y.1≠k))->
   (∀wa,Kp X' w' wa->(pO (ptr r 0)).run P wa= .ok (.tuple #[kv k,v]) wa)->N (.tuple #[.bool true,kv k,v]) w' X'):
  eV P R X w true (Instr.next (ptr r 0) false ty) N:=by
 obtain⟨es,c,Ov,h1,h2,h3,h4⟩:=h;refine akY h1 hX (λh0 w' X' hs=>n0 ?_ w' X' hs) λx hx w' X' hg hi he=>?_
 ·subst h0;cases left with
  |nil=>rfl
  |cons y t=>exact h3.elim
 ·have hc:dY (· =r) X w X' w':=hg.dX.mono λk _ hk=>by simpa using hk
  have mv:Mv A w A w':=λk hk _=>⟨hk,hc.block k (hA k hk).1 (hA k hk).2⟩;obtain⟨a,ha,BC⟩:=h3.mem x hx;refine n1 x.1 a x.2.1 ha w' X' hc (hm _ _ _ _ _ _ BC mv) ?_ he;have hk: ∀y∈Ov,decide (y.2.2≠x.2.2)=decide (y.1≠x.1):=by
   intro y hy;have hye:=h4.subset hy;have n1:=h1.1.2.2.1;have n2:=h1.1.2.2.2.1;obtain⟨i,hi9,rfl⟩:=yK hye;obtain⟨j,hj,rfl⟩:=yK (h4.subset hx);have inj: ∀{β:Type} (f:jr κ->β),(es.map f).Nodup->(f es[i]=f es[j]↔i=j):=by
    intro β f n;constructor
    ·intro e;have hp:=List.pairwise_iff_getElem.1 n;rcases Nat.lt_trichotomy i j with h|h|h
     ·exact absurd (by rw[qH,qH];exact e) (hp i j (by simpa using hi9) (by simpa using hj) h)
     ·exact h
     ·exact absurd (by rw[qH,qH];exact e.symm) (hp j i (by simpa using hj) (by simpa using hi9) h)
    ·rintro rfl;rfl
   have e1:=inj (·.1) n1;have e2:=inj (·.2.2) n2;simp only[ne_eq,e1,e2]
  have hf:(Ov.filter λy=>decide (y.2.2≠x.2.2))=Ov.filter λy=>decide (y.1≠x.1):=List.filter_congr hk;refine⟨es,c,_,hi,h2.mv hm mv,?_,?_⟩
  ·rw[hf];exact(h3.filter (λk=>decide (k≠x.1))).mv hm mv
  ·exact(List.filter_sublist).trans h4
def ak4 {k:Value} (hX: ∀k,X k->k<w.heap.size)
  (h: ∀wa,Kp X w wa->(pO (ptr r 0)).run P wa= .ok (.tuple #[k,v]) wa) (n: ∀w' X',ai X w X' w'->N (.tuple #[k,v]) w' X'):
  eV P R X w m (pO (ptr r 0)) N:=aiw hX h n
def S4 (w:World) (A:XS) (rd:World->XS->Value->α->Prop) (k:κ):List (jr κ)->List (κ×α)->Prop
 |[],[]=>True
 |e::es,x::l=>e.1=x.1/\(x.1≠k->rd w A e.2.1 x.2)/\S4 w A rd k es l
 |_,_=>False
def aew (w:World) (X A:XS) (b:Nat) (kv:κ->Value) (rd:World->XS->Value->α->Prop) (k:κ) (l:List (κ×α)):Prop:=
 ∃es c,mg w X b kv es c/\S4 w A rd k es l
theorem nG.toX {rd:World->XS->Value->α->Prop} {k:κ} : ∀{es:List (jr κ)} {l:List (κ×α)},nG w A rd es l->
  (∀x v,x∈l->x.1≠k->rd w A v x.2->rd w' A' v x.2)->S4 w' A' rd k es l
 |[],[],_,_=>trivial
 |e::es,x::l,⟨h1,h2,h3⟩,hm=>⟨h1,λhk=>hm x _ sQ hk h2,nG.toX h3 λy v hy=>hm y v (by simp[hy])⟩
 |[],_::_,h,_=>h.elim
 |_::_,[],h,_=>h.elim
theorem dK.toX {kv:κ->Value} {rd:World->XS->Value->α->Prop} {k:κ} {l:List (κ×α)} (h:dK w X A b kv rd l) (m:Mv (λg=>g=b) w Y w')
  (hm: ∀x v,x∈l->x.1≠k->rd w A v x.2->rd w' A' v x.2):aew w' Y A' b kv rd k l:=by
 obtain⟨es,c,h1,h2⟩:=h;exact⟨es,c,mg.mv (X:=λg=>g=b) ⟨rfl,h1.2⟩ m,h2.toX hm⟩
theorem S4.put {rd:World->XS->Value->α->Prop} {k:κ} {a:α} (hv:rd w A v a): ∀{es:List (jr κ)} {l:List (κ×α)},(es.map (·.1)).Nodup->S4 w A rd k es l->nG w A rd (Gq k v c es) (cK k a l)
 |[],[],_,_=>⟨rfl,hv,trivial⟩
 |e::es,x::l,hn,⟨h1,h2,h3⟩=>by
  have mj:=List.nodup_cons.1 hn;unfold Gq cK;by_cases hk:x.1=k
  ·rw[if_pos (h1.trans hk),if_pos hk];refine⟨h1.trans hk,hv,?_⟩;have ct: ∀y∈es,y.1≠k:=λy hy e'=>mj.1 (List.mem_map.2 ⟨y,hy,e'.trans (hk.symm.trans h1.symm)⟩);clear hn mj h1 h2
   induction es generalizing l with
   |nil=>cases l<;>assumption
   |cons e2 es ih=>
    cases l with
    |nil=>exact h3.elim
    |cons y l=>exact⟨h3.1,h3.2.1 (h3.1▸ct e2 sQ),ih l h3.2.2 λz hz=>ct z (by simp[hz])⟩
  ·rw[if_neg gQ,if_neg hk];exact⟨h1,h2 hk,S4.put hv mj.2 h3⟩
 |[],_::_,_,h=>h.elim
 |_::_,[],_,h=>h.elim
theorem agd {kv:κ->Value} {rd:World->XS->Value->α->Prop} {l:List (κ×α)} {k:κ} {a:α} (h:aew w X A b kv rd k l) (hm:qs rd)
  (hv:rd w A v a) (hA: ∀k,A k->X k/\k≠b) (K:xa P kt kv) (ht:P.underlying t=some (.map kt et)) (hX: ∀k,X k->k<w.heap.size)
  (n: ∀w' X',dY (· =b) X w X' w'->dK w' X' A b kv rd (cK k a l)->N undef w' X'):
  eU P R X w true (cI t (.map (some b)) (kv k) v) N:=by
 obtain⟨es,c,h1,h2⟩:=h;refine af8 h1 K ht hX λw' X' hg hi=>?_;have hc:dY (· =b) X w X' w':=hg.dX.mono λk _ hk=>by simpa using hk
 refine n w' X' hc ⟨_,_,hi,?_⟩;rw[acj];have mv:Mv A w A w':=λk hk _=>⟨hk,hc.block k (hA k hk).1 (hA k hk).2⟩;exact(h2.put hv h1.2.2.1).mv hm mv
theorem gP {l:List (κ×α)} {k:κ} {a:α} (h:getM k l=some a):(k,a)∈l:=by
 unfold getM at h;obtain⟨x,hx,rfl⟩:=Option.map_eq_some_iff.1 h
 grind
theorem vR {l:List (κ×α)} (hn:(l.map (·.1)).Nodup) {k:κ} {a:α} (h:(k,a)∈l):getM k l=some a:=by
 induction l with
 |nil=>cases h
 |cons x l ih=>
  have mj:=List.nodup_cons.1 hn;rcases List.mem_cons.1 h with h|h
  ·subst h;simp[getM]
  ·have hx:x.1≠k:=λe=>mj.1 (List.mem_map.2 ⟨(k,a),h,e.symm⟩);have:=ih mj.2 h;simp only[getM,fM,hx,decide_false,aW,if_false];exact this
theorem mw {l:List (κ×α)} {k:κ} {a:α} : ∀{x:κ×α},(l.map (·.1)).Nodup->x∈cK k a l->x=(k,a)\/(x∈l/\x.1≠k):=by
 induction l with
 |nil=>grind [cK]
 |cons y l ih=>
  intro x hn h;have mj:=List.nodup_cons.1 hn;unfold cK at h;split at h
  ·rename_i hy;rcases List.mem_cons.1 h with h|h
   ·exact .inl h
   ·exact .inr ⟨by simp[h],λe=>mj.1 (List.mem_map.2 ⟨x,h,e.trans hy.symm⟩)⟩
  ·rename_i hy;rcases List.mem_cons.1 h with h|h
   ·grind
   grind
variable {l : List Value}
theorem A6 {t:TypeId} (hX: ∀k,X k->k<w.heap.size)
  (n: ∀b w' X',w.heap.size<=b->ai X w X' w'->aH w' X' b l t->N (ptr b 0) w' X'):eV P R X w m (bT t (.agg l.toArray)) N:=
 ach hX λb w' X' hb hs hx hr=>n b w' X' hb hs ⟨hx,by assumption⟩
theorem tR {t:TypeId} (ho:one v=true) (hX: ∀k,X k->k<w.heap.size)
  (n: ∀b w' X',w.heap.size<=b->ai X w X' w'->aH w' X' b [v] t->N (ptr b 0) w' X'):eV P R X w m (bT t v) N:=
 ach hX λb w' X' hb hs hx hr=>n b w' X' hb hs ⟨hx,by
  have:v.cells.toList=[v]:=by cases v<;>first|rfl|cases ho
  rw[this] at hr;exact hr⟩
variable {X : XS} {w : World}
def ai.fG (h: ∀k,X k->k<w.heap.size):ai X w X w:=⟨Kp.refl _ _,λ_ h=>h,h⟩
variable {sz : Nat}
theorem anD {S f fo:Nat} {l':List Value} {N:Value->Prop} (hf:fieldInfo P S f=some (fo,sz)) (hg:Zg P S f=some true) (hlen:decide (fo+sz<=l.length)=true) (hl:(l.drop fo).take sz=l')
  (k:N (.agg l'.toArray)):aX P X w (fdV S f fo sz (.agg l.toArray)) N:=by
 subst hl;unfold fieldInfo at hf;unfold Zg at hg;cases hu:P.underlying S with
 |none=>simp[hu] at hf
 |some d=>
  cases d<;>simp only[hu] at hf<;>try (cases hf;done)
  rename_i fs;cases hx:fs[f]? with
  |none=>simp[hx] at hf
  |some x=>
   simp only[hx,cM,hu] at hf hg;cases hi:P.info? x.type with
   |none=>simp[hi] at hf
   |some i=>
    simp only[hi,aY,aj,cP] at hf;cases hd:P.underlying x.type with
    |none=>simp[hd] at hg
    |some d2=>
     refine bF (v:=.agg ((l.drop fo).take sz).toArray) (λwa=>?_) k;have BX:(isAgg x.type).run P wa= .ok true wa:=by
      cases d2<;>simp_all [isAgg,run_underlying hd]
     have hle:fo+sz<=l.length:=by simpa using hlen
     obtain⟨rfl,rfl⟩:=hf;simp[fdV,Instr.field,run_underlying hu,hx,asAgg,part,BX,sizeOf,typeInfo,hi,hle]
variable {f : FuncId}
theorem apf {la lc:List Value} (hl:la++lc=l) (h:eC P R X w m f l.toArray N):eF P R X w m (.func (.func f) #[] lc.toArray) la.toArray N:=by
 subst hl;have e: ∀wa,(H8 (.func (.func f) #[] lc.toArray) la.toArray).run P wa=(callFunc f (la++lc).toArray).run P wa:=by
  intro wa;simp[H8,Deferred.ofValue,invoke]
 intro wa hk;have:=h wa hk
 grind
theorem ak5 {fn:Fn} {a c:Array Value} {N:Value->Prop} (h:N (.func fn a c)):aX P X w (Instr.makeFunc fn a c) N:=bF (λwa=>by rfl) h
variable {w' : World} {Q : Value -> World -> World -> Prop} {F : XS} {args : Array Value}
theorem Ct.kp (h:Ct P f args w X F Q) (hk:Kp X w w'):Ct P f args w' X F Q:=λwa af=>h wa (hk.trans af)
def Ct.since {X':XS} (h:Ct P f args w X F Q) (hs:ai X w X' w'):Ct P f args w' X' F Q:=λwa af=>h wa (hs.kp.trans (af.less hs.sub))
def Ct.bK (h:Ct P f args w X F Q) (hX: ∀k,X k->k<w.heap.size):Ct P f args w (aL.bK w) F Q:=
 λwa af=>h wa (af.less λk hk=>hX k hk)
def idxOf (p:α->Bool):List α->Int
 |[]=> -1
 |x::l=>if p x then 0 else let i:=idxOf p l;if i<0 then i else i+1
theorem L2 (p:α->Bool): ∀l:List α,decide (idxOf p l>=0)=l.any p
 |[]=>rfl
 |x::l=>by
  have ih:=L2 p l;unfold idxOf
  grind
variable {i : Nat}
theorem B7 {p:α->Bool} {l:List α} (h: ∀k x,k<i->l[k]? =some x->p x=false) {x:α} (hx:l[i]? =some x) (hp:p x=true):idxOf p l=i:=by
 induction l generalizing i with
 |nil=>simp at hx
 |cons y l ih=>
  cases i with
  |zero=>simp only[jU,aj] at hx;subst hx;simp[idxOf,hp]
  |succ i=>
   have hy:=h 0 y zQ rfl;have:=ih (i:=i) (λk z hk hz=>h (k+1) z zQ aQ) aQ;simp only[idxOf,hy,aW,if_false,this];rfl
theorem yq {p:α->Bool} {l:List α} (h: ∀k x,k<l.length->l[k]? =some x->p x=false):idxOf p l= -1:=by
 induction l with
 |nil=>rfl
 |cons y l ih=>
  have hy:=h 0 y sQ rfl;have:=ih λk z hk hz=>h (k+1) z gQ aQ;simp[idxOf,hy,this]
theorem ai.less {Y0:XS} (h:ai X0 w0 X w) (hs: ∀k,Y0 k->X0 k):ai Y0 w0 X w:=⟨h.kp.less hs,λk hk=>h.sub k (hs k hk),h.has⟩
variable {rows : List (List Value)} {cap e g k lo n : Nat}
theorem Own.Hy (h:aH w X g cs e) (gA:lo<=g) (hr: ∀r∈rows,r.length=k) (hn:rows.length=n) (hc:n<=cap) (hm:cap<=maxLen)
  (hl:cs.length=cap*k) (ht:cs.take (n*k)=rows.flatten):Own w X lo e k (.slice (some ⟨g,0,none⟩) n cap) rows:=
 ⟨hr,⟨by rw[lG hr],.inr ⟨g,cap,cs.toArray,by rw[hn],gA,h.2,by omega,hm,by simpa using hl,by grind⟩⟩,λg' hg=>by simp only[im,aj] at hg;subst hg;exact h.1⟩
theorem Own.row (h:Own w X lo e k v rows):(v= .slice none 0 0/\rows=[])\/
  ∃g cap cs,v= .slice (some ⟨g,0,none⟩) rows.length cap/\lo<=g/\aH w X g cs e/\rows.length<=cap/\cap<=maxLen/\cs.length=cap*k/\cs.take (rows.length*k)=rows.flatten:=by
 obtain⟨h1,h2,h3⟩:=h;rcases h2.2 with⟨rfl,hn⟩|⟨g,cap,cur,rfl,hb,hg,pL,iC,iN,ht⟩
 ·simp_all
 ·exact .inr ⟨g,cap,cur.toList,rfl,hb,⟨h3 g rfl,by omega⟩,pL,iC,by omega,ht⟩
variable {z : Int}
theorem ajZ {t:TypeId} {N:Value->Prop} (hz:z=i) (hi:i<n) (ht:P.underlying t=some (.slice (P.elem t))) (hs:(P.info? (P.elem t)).map (·.size)=some k) (h:N (ptr g (i*k))):
  aX P X w (kT t k (.slice (some ⟨g,0,none⟩) n cap) (.int .i64 z)) N:=by
 subst hz;refine bF (v:=ptr g (i*k)) (λwa=>?_) h
 show(yU t _ _).run P wa=_
 rw[run_indexAt_slice (h:=ht),if_pos zQ];cases hq:P.info? (P.elem t)with
 |none=>grind
 |some inf=>
  have:inf.size=k:=by simpa [hq] using hs
  simp[sizeOf,typeInfo,hq,this,zN]
theorem D4 {o:Nat} (h:aH w X b cs ty) (ht:(P.info? t).map (·.size)=some sz)
  (hl:o+sz<=cs.length) (hv:v.cells.size=sz) (h1:v.cells.toList.all one=true) (hX: ∀k,X k->k<w.heap.size)
  (n: ∀w' X',dY (λk=>k=b) X w X' w'->aH w' X' b (dr cs o v.cells.toList) ty->N undef w' X'):eU P R X w true (st1 t sz (ptr b o) v) N:=
 ait h ht hl hv h1 hX λw' X' hg hr=>n w' X' (hg.dX.mono λk _ hk=>by grind) hr
theorem KU {t:TypeId} {a:Option Addr} {N:Value->Prop} (hz:z=i) (hi:i<=cap) (ht:P.underlying t=some (.slice (P.elem t))) (hs:((P.info? (P.elem t)).map (·.size)).isSome=true) (h:N (.slice a i cap)):
  aX P X w (Instr.sliceAt t (.slice a n cap) none (some (.int .i64 z)) none) N:=by
 subst hz;obtain⟨k,hk⟩:=Option.isSome_iff_exists.1 hs;refine bF (v:=.slice a i cap) (λwa=>?_) h;rw[run_sliceAt_slice wa t _ _ _ _ ht,run_slice_h wa t a n cap ht .i64 i zQ zQ];cases hq:P.info? (P.elem t)with
 |none=>grind
 |some inf=>
  have:a.map (λx=>x.add 0)=a:=by cases a<;>rfl
  simp[sizeOf,typeInfo,hq,sliced,this]
variable {P : Program}
def M4 (P:Program) (t e k:Nat):Bool:=match P.underlying t,P.info? e with
 |some (.slice e'),some i=>e'==e&&i.size==k&&(match i.zero with|some z=>z.cells.size==k|none=>false)&&decide (0<k)&&decide (k<=2^20)
 |_,_=>false
theorem UW (h:M4 P t e k=true):P.underlying t=some (.slice e)/\0<k/\k<=2^20/\ ∃z:Value,(P.info? e).bind (λi=>i.zero.map λz=>(i.size,z))=some (k,z):=by
 unfold M4 at h;split at h
 ·rename_i e' i hu hi;simp only[aF,beq_iff_eq,decide_eq_true_eq] at h;obtain⟨⟨⟨⟨rfl,h2⟩,h4⟩,h5⟩,h6⟩:=h;cases hz:i.zero with
  |none=>grind
  |some z=>simp_all
 ·cases h
variable {R : Ending -> World -> Prop} {m : Bool}
theorem Qq (hX: ∀k,X k->k<w.heap.size) (he:M4 P t e k=true) (hk:(l.length==k)=true)
  (n: ∀v w' X',ai X w X' w'->Own w' X' w.heap.size e k v [l]->N v w' X'):eV P R X w m (gR t e k 1 #[(0,.agg l.toArray)]) N:=by
 obtain⟨hu,h0,h1,z,hz⟩:=UW he;have af:l.length=k:=by simpa using hk
 refine B9 (rows:=[l]) l.toArray z hX hu hz zQ zQ ?_ gQ rfl sQ n;simp only[Bh];exact Fk (x:=.agg l.toArray) aQ sQ
theorem Xk {x:Value} (hX: ∀k,X k->k<w.heap.size) (he:M4 P t e k=true) (ho:one x=true) (hk:(k==1)=true)
  (n: ∀v w' X',ai X w X' w'->Own w' X' w.heap.size e k v [[x]]->N v w' X'):eV P R X w m (gR t e k 1 #[(0,x)]) N:=by
 obtain⟨hu,h0,h1,z,hz⟩:=UW he;have af:1=k:=by simpa using (beq_iff_eq.1 hk).symm
 have hc:=sL ho;refine B9 (rows:=[[x]]) x.cells z hX hu hz zQ zQ ?_ gQ rfl (by rw[hc];rfl) n;simp only[Bh];exact Fk gQ sQ
def M5 (P:Program) (t:TypeId):Bool:=match P.underlying t with
 |some (.pointer _)=>true
 |_=>false
theorem Gr {t:TypeId} (h:M5 P t=true):P.underlying t=some (.pointer (P.pointee t)):=by grind [M5,Program.pointee]
variable {a : Addr}
section
variable {N : Value -> Prop} {t : TypeId} {xo yo : Operand}
def ak6 (ht:M5 P t=true) (k:N (.bool false)):aX P X w (dG .eql t xo yo (.pointer (some a)) (.pointer none)) N:=W7 (p:=some a) (Gr ht) k
def ak7 (ht:M5 P t=true) (k:N (.bool true)):aX P X w (dG .eql t xo yo (.pointer none) (.pointer none)) N:=W7 (p:=none) (Gr ht) k
theorem anE (ht:M5 P t=true) (k:N (.bool true)):aX P X w (dG .neq t xo yo (.pointer (some a)) (.pointer none)) N:=by
 refine bF (λwa=>?_) k;have:=run_neq_pointer_nil (P:=P) (w:=wa) t (some a) (Gr ht);assumption
theorem anF (ht:M5 P t=true) (k:N (.bool false)):aX P X w (dG .neq t xo yo (.pointer none) (.pointer none)) N:=by
 refine bF (λwa=>?_) k;have:=run_neq_pointer_nil (P:=P) (w:=wa) t none (Gr ht);assumption
end
end Go.aL