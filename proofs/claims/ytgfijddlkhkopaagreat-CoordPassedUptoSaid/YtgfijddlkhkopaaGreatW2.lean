/- Part 2 of the proof. -/
import Derived.Deep.MidRow
import Derived.Laws.StructEq
import Derived.Maps.AppendAt
import Derived.Laws.OwnMore
import Derived.Great.BuildSlice
import Derived.Maps.RangeRun
import Derived.KernelRfl
import Derived.Laws.FloatArith
import Derived.Laws.Slices
import Derived.Laws.Pointers
import Derived.Test.YtgfijddlkhkopaaGreatW1
set_option linter.all false
open Go.Result renaming andThen_ok → aM
open Go.Sem renaming run_bind → bq, run_pure → bQ, run → tA
open Go.Value renaming int → az, cells → bf, agg → ej, ownBlock → ir, string → aN
open Nat renaming le_trans → ad, lt_of_lt_of_le → aw, le_refl → au, zero_add → fg, one_mul → Bc, mod_eq_of_lt → fy
open Bool renaming false_eq_true → aU, and_eq_true → aB, not_eq_true' → de
open Option.some renaming injEq → aj
open Go.Instr renaming checkKey → gS, lookup → bD, fill → ru, sameBits → mQ, mapUpdate → cK, entry → pO, loadAt → ji, buildSlice → jg, box → bW, extract → gz, findKey → tM, findNow → ko, makeMap → fZ, range → xc, indexAt → yV, index → Bd, findAsking → Be, keyThatStays → zq
open Array renaming toList → dm, getElem?_setIfInBounds → dS, range → Bf, length_toList → fB
open PUnit renaming unit → mR
open List renaming toList_toArray → cR, getElem?_eq_getElem → aZ, all → aX, length_cons → aL, findIdx?_cons → lY, find?_cons → fL, length → ba, drop_eq_getElem_cons → kL, map_cons → bB, filter_cons → eH, getElem_map → qI, mem_singleton → av, getElem?_take → lZ, flatten_cons → dd, nil_append → cI, length_append → aa, drop_of_length_le → kf, map_append → aC, nodup_append → Ax, getElem?_cons_zero → jR, getElem_of_mem → yM
open Option renaming map_some → aY, bind_some → cQ, map_none → BG
open Prod.mk renaming injEq → cV
open Go.Op renaming equalIn → uj, bytesLess → ct, eqFields → xd
open Go.Builtin renaming len_ → mJ, delete_ → sc, append_ → fh, min_ → jX, min2 → Fe
open Go.ByteArray renaming toList_eq → oq
open ForInStep renaming yield → se
open Go.World renaming ownsRow_lit → Ay
namespace Go.aK
structure ai (X:XS) (w:World) (X':XS) (w':World):Prop where
 kp:Kp X w w'
 sub: ∀k,X k->X' k
 has: ∀k,X' k->k<w'.heap.size
def ai.init (w:World):ai (bI w) w (bI w) w:=⟨Kp.refl _ _,λ_ h=>h,λ_ h=>h⟩
variable {X Y : XS}
theorem ai.trans {Z:XS} {a b c:World} (h:ai X a Y b) (k:ai Y b Z c):ai X a Z c:=
 ⟨h.kp.trans (k.kp.less h.sub),λi hi=>k.sub i (h.sub i hi),k.has⟩
variable {w w' wa : World}
theorem ai.eP (hX: ∀k,X k->k<w.heap.size) (hk:Kp X w wa) (hx:Ext wa w'):ai X w (grow X wa w') w':=
 ⟨hk.trans (hx.kp λk h=>aw (hX k h) hk.size),λ_ h=>.inl h,
  λk h=>h.elim (λh=>aw (hX k h) (ad hk.size hx.size)) (λh=>h.2)⟩
def ai.ext (h:ai (bI w) w X w') (hk:Kp X w' wa):Ext w wa:=(h.kp.trans (hk.less h.sub)).ext
variable {P : Program} {R : Ending -> World -> Prop} {X : XS} {w : World} {m : Bool}
def Pure (P:Program) (f:FuncId) (args:Array Value) (v:Value):Prop:=
 ∀w,Calls P f args w λe w'=>e= .returned v/\Ext w w'
def aoK (P:Program) (f:FuncId) (args:Array Value) (w:World) (Q:Value->World->Prop):Prop:=
 Calls P f args w λe w'=> ∃v,e= .returned v/\Ext w w'/\Q v w'
def enters (P:Program) (f:FuncId):Bool:=match P.funcs[f]? with
 |some fn=>!(fn.name== "runtime.NumGoroutine")&&fn.body.isSome
 |none=>false
variable {f : FuncId}
theorem oV (h:enters P f=true) (args:Array Value) (w:World):(callFunc f args).run P w= .ok (.enter f args) w:=by
 unfold enters at h;split at h
 ·rename_i fn hf;simp only[aB,de] at h;obtain⟨c,hb⟩:=Option.isSome_iff_exists.1 h.2;have hn: ¬fn.name= "runtime.NumGoroutine" :=by simpa using h.1
  simp[callFunc,hf,hn,hb]
 ·cases h
variable {N : Value -> World -> XS -> Prop} {args : Array Value}
theorem YR {Q:Value->World->World->Prop}
  (hf:enters P f=true) (hX: ∀k,X k->k<w.heap.size)
  (h: ∀wa,Kp X w wa->aoK P f args wa (Q · wa))
  (k: ∀v wa w' X',Kp X w wa->Ext wa w'->(∀k,wa.heap.size<=k->k<w'.heap.size->X' k)->Q v wa w'->ai X w X' w'->N v w' X'):
  eC P R X w m f args N:=by
 refine alr Q (oV hf args) (λwa hk=>?_) λv wa w' hk hx hq=>k v wa w' _ hk hx (λk h1 h2=>.inr ⟨h1,h2⟩) hq (ai.eP hX hk hx);refine(h wa hk).mono ?_;simp_all
variable {v : Value}
theorem abV
  (hf:enters P f=true) (hX: ∀k,X k->k<w.heap.size) (h:Pure P f args v)
  (k: ∀w' X',ai X w X' w'->N v w' X'):eC P R X w m f args N:=by
 refine YR (Q:=λu _ _=>u=v) hf hX (λwa _=>(h wa).mono ?_) λu wa w' X' _ _ _ hq hs=>hq▸k w' X' hs
 grind
theorem CZ (hf: ∀wa,(callFunc f args).run P wa= .ok (.value v) wa)
  (hX: ∀k,X k->k<w.heap.size) (k: ∀w' X',ai X w X' w'->N v w' X'):eC P R X w m f args N:=by
 intro wa hk;unfold jA;rw[hf wa];exact⟨Step.eP (Ext.refl _),k _ _ (ai.eP hX hk (Ext.refl _))⟩
variable {w0 : World}
theorem fJ {u:Value} (hs:ai (bI w0) w0 X w) (h:u=v):fin (λe w'=>e= .returned v/\Ext w0 w') X w u:=
 λ_ hk=>⟨by rw[h],hs.ext hk⟩
variable {P : Program} {R : Ending -> World -> Prop} {X : XS} {w : World} {m : Bool} {N : Value -> Prop}
abbrev ptr (b o:Nat):Value:=.pointer (some ⟨b,o,none⟩)
def Cells (w:World) (X:XS) (b o:Nat) (l:List Value):Prop:=
 X b/\ ∃cs t fr,w.heap[b]? =some (.cells cs t fr)/\ ∀j v,l[j]? =some v->cs[o+j]? =some v
variable {l : List Value} {b o : Nat}
theorem Cells.kp (h:Cells w X b o l) (hk:Kp X w w'):Cells w' X b o l:=by
 obtain⟨hx,cs,t,fr,hb,hc⟩:=h;exact⟨hx,cs,t,fr,by rw[hk.block b hx];exact hb,hc⟩
def Cells.mono (h:Cells w X b o l) (hs: ∀k,X k->Y k):Cells w Y b o l:=⟨hs _ h.1,h.2⟩
def Cells.since (h:Cells w X b o l) (hs:ai X w Y w'):Cells w' Y b o l:=(h.kp hs.kp).mono hs.sub
theorem Cells.range (h:Cells w X b o l):w.rangeAt b o l:=by
 obtain⟨_,cs,t,fr,hb,hc⟩:=h;intro j v hj;rw[cell_of_row w b (o+j) cs t fr hb];exact hc j v hj
theorem Cells.lt (h:Cells w X b o l):b<w.heap.size:=by
 obtain⟨_,cs,t,fr,hb,_⟩:=h
 grind
theorem Cells.part (h:Cells w X b o l) (i n:Nat):Cells w X b (o+i) ((l.drop i).take n):=by
 obtain⟨hx,cs,t,fr,hb,hc⟩:=h;refine⟨hx,cs,t,fr,hb,λj v hj=>?_⟩;rw[lZ] at hj;split at hj
 ·rw[List.getElem?_drop] at hj;rw[Nat.add_assoc];exact hc _ v hj
 ·cases hj
variable {t : TypeId}
theorem afS (h:Cells w X b o (v::l)) (hi:kM P t=some (false,1)) (k:N v):
  aV P X w (ji t (ptr b o)) N:=by
 refine Hd v (λwa hk=>?_) k;have hc:wa.cell? ⟨b,o,none⟩=some v:=(h.kp hk).range 0 v rfl;unfold kM at hi;split at hi
 ·rename_i d i hu Dy;simp only[aj,cV] at hi;have BP:(isAgg t).run P wa= .ok false wa:=by
   cases d<;>simp_all [isAgg,run_underlying hu]
  simp[ji,Instr.sureAddr,loadVar,BP,hc]
 ·cases hi
variable {n : Nat}
theorem afT (h:Cells w X b o l) (hi:kM P t=some (true,n)) (hn:l.length=n) (k:N (.agg l.toArray)):
  aV P X w (ji t (ptr b o)) N:=by
 refine Hd _ (λwa hk=>?_) k;unfold kM at hi;split at hi
 ·rename_i d i hu Dy;simp only[aj,cV] at hi;exact run_loadAt_mid wa b o t l d (h.kp hk).range hu gQ gQ
 ·cases hi
variable {sz : Nat}
def GH {S f fo:Nat} (h:fieldInfo P S f=some (fo,sz)) (hz:sz≠0) (k:N (ptr b (o+fo))):aV P X w (Instr.fieldAt S (ptr b o) f) N:=
 bF (λwa=>Nz h hz b o wa) k
variable {parts : Array (Nat × Value)}
def afU (cells:Array Value) (h:P.built t parts.toList=some cells) (k:N (.agg cells)):
  aV P X w (Instr.build t parts) N:=
 bF (λwa=>run_build wa t parts cells h) k
variable {ty : TypeId}
theorem aia {s:ByteArray} (ht:P.underlying t=some .string) (k:N (.int .i64 s.size)):aV P X w (mJ #[t] ty #[.string s]) N:=
 bF (λwa=>by simp[mJ,run_underlying ht,goInt]) k
def Sl (w:World) (X:XS) (k:Nat) (v:Value) (rows:List (List Value)):Prop:=
 (∀r∈rows,r.length=k)/\rows.length<=2^63-1/\
 ∃base cap,v= .slice base rows.length cap/\(rows≠[]-> ∃b o,base=some ⟨b,o,none⟩/\Cells w X b o rows.flatten)/\
  (base=none->cap=0)/\rows.length<=cap/\cap<=2^63-1
variable {rows : List (List Value)} {k : Nat}
theorem Sl.mono (h:Sl w X k v rows) (hs: ∀k,X k->Y k):Sl w Y k v rows:=by
 obtain⟨h1,h2,base,cap,hv,hc,hr⟩:=h;exact⟨h1,h2,base,cap,hv,λcA=>let⟨b,o,hb,jm⟩:=hc cA;⟨b,o,hb,jm.mono hs⟩,hr⟩
theorem Sl.kp (h:Sl w X k v rows) (hk:Kp X w w'):Sl w' X k v rows:=by
 obtain⟨h1,h2,base,cap,hv,hc,hr⟩:=h;exact⟨h1,h2,base,cap,hv,λcA=>let⟨b,o,hb,jm⟩:=hc cA;⟨b,o,hb,jm.kp hk⟩,hr⟩
def Sl.since (h:Sl w X k v rows) (hs:ai X w Y w'):Sl w' Y k v rows:=
 (h.kp hs.kp).mono hs.sub
theorem Sl.bI (h:Sl w X k v rows):Sl w (bI w) k v rows:=by
 obtain⟨h1,h2,base,cap,hv,hc,hr⟩:=h;exact⟨h1,h2,base,cap,hv,λcA=>let⟨b,o,hb,jm⟩:=hc cA;⟨b,o,hb,jm.lt,jm.2⟩,hr⟩
theorem Sl.nil (w:World) (X:XS) (k:Nat):Sl w X k (.slice none 0 0) []:=⟨by simp,by simp,none,0,rfl,by simp,by simp,by simp,by simp⟩
theorem Sl.one (h:Sl w X k v rows):one v=true:=by
 obtain⟨_,_,_,_,rfl,_⟩:=h;rfl
theorem LN: ∀{rows:List (List Value)},(∀r∈rows,r.length=k)-> ∀{i:Nat} {r:List Value},rows[i]? =some r->
  (rows.flatten.drop (i*k)).take k=r
 |[],_,i,r,h=>by simp at h
 |x::rest,hl,0,r,h=>by simp_all
 |x::rest,hl,i+1,r,h=>by
  have hx:=hl x sQ;rw[dd,List.drop_append,hx,List.drop_eq_nil_of_le gQ];have:(i+1)*k-k=i*k:=by rw[Nat.succ_mul];omega
  rw[this,cI];exact LN (λr hr=>hl r (by simp[hr])) gQ
variable {xo yo : Operand} {xs ys : Array Value}
theorem aib {b:Bool} (hm:P.eqGuardType P.depth t=false)
  (h: ∀wa,(uj 10000 t (.agg xs) (.agg ys)).run P wa= .ok b wa) (k:N (.bool b)):aV P X w (eB .eql t xo yo (.agg xs) (.agg ys)) N:=by
 refine bF (λwa=>?_) k;simp[eB,run_eqGuard_agg wa .eql t xo yo xs ys hm,run_eql_struct,h]
theorem aic {b:Bool} (hm:P.eqGuardType P.depth t=false)
  (h: ∀wa,(uj 10000 t (.agg xs) (.agg ys)).run P wa= .ok b wa) (k:N (.bool (!b))):aV P X w (eB .neq t xo yo (.agg xs) (.agg ys)) N:=by
 refine bF (λwa=>?_) k;simp[eB,run_eqGuard_agg wa .neq t xo yo xs ys hm,binOp,Op.equal,Op.maxDepth,h]
variable {a : Int}
theorem wrap_i64 (h1: -(2^63)<=a) (h2:a<2^63):IntKind.i64.wrap a=a:=by
 simp only[IntKind.wrap];first
  |omega
  |(simp[IntKind.bits,IntKind.signed];omega)
variable {P : Program} {R : Ending -> World -> Prop} {X : XS} {w : World} {m : Bool}
structure Grown (X:XS) (w:World) (X':XS) (w':World) (row:Option Nat):Prop where
 os:w'.os=w.os
 tape:w'.tape=w.tape
 output:w'.output=w.output
 size:w.heap.size<=w'.heap.size
 block: ∀k,X k->some k≠row->w'.heap[k]? =w.heap[k]?
 sub: ∀k,X k->X' k
 has: ∀k,X' k->k<w'.heap.size
variable {row : Option Nat}
def ai.grown {X0:XS} (h:ai X0 w0 X w) (g:Grown X w Y w' row) (hr: ∀k,X0 k->some k≠row):ai X0 w0 Y w':=
 ⟨⟨g.os.trans h.kp.os,g.tape.trans h.kp.tape,g.output.trans h.kp.output,ad h.kp.size g.size,
  λk hk=>(g.block k (h.sub k hk) (hr k hk)).trans (h.kp.block k hk)⟩,λk hk=>g.sub k (h.sub k hk),g.has⟩
def Grown.since {F:XS} (g:Grown X w Y w' row) (hf: ∀k,F k->X k) (hr: ∀k,F k->some k≠row):ai F w Y w':=
 ⟨⟨g.os,g.tape,g.output,g.size,λk hk=>g.block k (hf k hk) (hr k hk)⟩,λk hk=>g.sub k (hf k hk),g.has⟩
def Own (w:World) (X:XS) (lo e k:Nat) (v:Value) (rows:List (List Value)):Prop:=
 (∀r∈rows,r.length=k)/\w.ownsRow lo e k v rows.length rows.flatten/\ ∀g,v.ownBlock=some g->X g
theorem Own.nil (w:World) (X:XS) (lo e k:Nat):Own w X lo e k (.slice none 0 0) []:=⟨by simp,World.ownsRow_nil w lo e k,by simp[ir]⟩
variable {e lo : Nat}
theorem Own.sl (h:Own w X lo e k v rows):Sl w X k v rows:=by
 obtain⟨h1,h2,h3⟩:=h;rcases h2.2 with⟨rfl,hn⟩|⟨g,cap,cur,rfl,hb,hg,pL,iF,jm,ht⟩
 ·grind [Sl.nil]
 ·have hm:cap<=2^63-1:=iF;refine⟨h1,ad pL hm,_,cap,rfl,λ_=>⟨g,0,rfl,h3 g rfl,cur,e,(0,0),hg,λj v hj=>?_⟩,by simp,pL,hm⟩;rw[<-ht,lZ] at hj;split at hj
  ·simpa using hj
  ·cases hj
theorem Own.kp (h:Own w X lo e k v rows) (hk:Kp X w w'):Own w' X lo e k v rows:=by
 obtain⟨h1,h2,h3⟩:=h;refine⟨h1,⟨h2.1,?_⟩,h3⟩;rcases h2.2 with h|⟨g,cap,cur,rfl,hb,hg,hr⟩
 ·exact .inl h
 ·exact .inr ⟨g,cap,cur,rfl,hb,by rw[hk.block g (h3 g rfl)];exact hg,hr⟩
def Own.mono (h:Own w X lo e k v rows) (hs: ∀k,X k->Y k):Own w Y lo e k v rows:=
 ⟨h.1,h.2.1,λg hg=>hs g (h.2.2 g hg)⟩
def Own.since (h:Own w X lo e k v rows) (hs:ai X w Y w'):Own w' Y lo e k v rows:=
 (h.kp hs.kp).mono hs.sub
theorem Own.low {lo':Nat} (h:Own w X lo e k v rows) (hl:lo'<=lo):Own w X lo' e k v rows:=by
 obtain⟨h1,h2,h3⟩:=h;refine⟨h1,⟨h2.1,?_⟩,h3⟩;rcases h2.2 with h|⟨g,cap,cur,rfl,hb,hr⟩
 ·exact .inl h
 ·exact .inr ⟨g,cap,cur,rfl,ad hl hb,hr⟩
def Own.ge (h:Own w X lo e k v rows) {g:Nat} (hg:v.ownBlock=some g):lo<=g/\g<w.heap.size:=h.2.1.lt g hg
def Own.tight (h:Own w X lo e k v rows):Own w (λg=>lo<=g/\g<w.heap.size) lo e k v rows:=
 ⟨h.1,h.2.1,λ_ hg=>h.ge hg⟩
theorem lE: ∀{rows:List (List Value)},(∀r∈rows,r.length=k)->rows.flatten.length=rows.length*k
 |[],_=>by simp
 |r::rs,h=>by
  rw[dd,aa,h r sQ,lE λr hr=>h r (by simp[hr]),aL,Nat.succ_mul,Nat.add_comm]
theorem B0 {t len:Nat} {N:Value->World->XS->Prop} (cells:Array Value) (z:Value)
  (hX: ∀k,X k->k<w.heap.size) (hu:P.underlying t=some (.slice e)) (hz:(P.info? e).bind (λi=>i.zero.map λz=>(i.size,z))=some (k,z))
  (Ya:0<len*k) (Q6:len*k<=2^24)
  (h:ru (λi=>some (i*k,k)) ((Bf (len*k)).map (z.cells[· % z.cells.size]!)) parts.toList=some cells)
  (Cm: ∀r∈rows,r.length=k) (hlen:rows.length=len) (hc:cells.toList=rows.flatten)
  (n: ∀v w' X',ai X w X' w'->Own w' X' w.heap.size e k v rows->N v w' X'):eV P R X w m (jg t len parts) N:=by
 intro wa hk;cases hq:P.info? e with
 |none=>grind
 |some ie=>
  cases tG:ie.zero with
  |none=>grind
  |some z'=>
   simp only[hq,tG,cQ,aY,aj,cV] at hz;obtain⟨rfl,rfl⟩:=hz;have hr:=run_buildSlice (P:=P) wa t e len parts cells ie z' hu hq tG zQ zQ h;unfold jA;simp only[vS,bq,hr,aM,bQ];have hx:Ext wa (wa.alloc (.cells cells e)):=Ext.alloc _ _;have jm:cells.size=len*ie.size:=by
    have:=congrArg ba hc;simp only[fB] at this;rw[this,lE Cm,hlen]
   have aoL:0<ie.size:=Nat.pos_of_ne_zero λe=>by grind
   have hle:len<=2^24:=ad (Nat.le_mul_of_pos_right len aoL) Q6;have tV:=Ay (e:=e) (base:=w.heap.size) (size:=ie.size) wa cells len hk.size (by simp only[maxLen];omega) jm;refine⟨Step.eP hx,n _ _ _ (ai.eP hX hk hx) ⟨Cm,by grind,λg hg=>?_⟩⟩;simp only[ir,aj] at hg;subst hg;exact .inr ⟨au _,by simp⟩
theorem afV {t:Nat} {N:Value->World->XS->Prop} (hX: ∀k,X k->k<w.heap.size) (hu:P.underlying t=some (.slice e)) (hz:(P.info? e).map (·.size)=some k)
  (n: ∀v w' X',ai X w X' w'->Own w' X' w.heap.size e k v []->N v w' X'):eV P R X w m (jg t 0 #[]) N:=by
 intro wa hk;cases hq:P.info? e with
 |none=>grind
 |some ie=>
  unfold jA;have hr:(jg t 0 #[]).run P wa= .ok (.slice (some ⟨wa.heap.size,0,none⟩) 0 0) (wa.alloc (.cells #[] e)):=by
   simp[jg,run_underlying hu,sizeOf,typeInfo,hq,ru,newRow];have Ky: ∀f:Nat->Value,Array.map f (Bf 0)= #[]:=λf=>Array.eq_empty_of_size_eq_zero sQ;rw[Ky]
  simp only[vS,bq,hr,aM,bQ];have hx:Ext wa (wa.alloc (.cells #[] e)):=Ext.alloc _ _;have tV:=Ay (e:=e) (base:=w.heap.size) (size:=k) wa #[] 0 hk.size zQ sQ;refine⟨Step.eP hx,n _ _ _ (ai.eP hX hk hx) ⟨by simp,tV,λg hg=>?_⟩⟩;simp only[ir,aj] at hg;subst hg;exact .inr ⟨au _,by simp⟩
theorem Sl.src (h:Sl w X k v rows):
  v= .slice none 0 0/\rows=[]\/ ∃a cap,v= .slice (some a) rows.length cap/\ ∀j u,rows.flatten[j]? =some u->w.cell? (a.add j)=some u:=by
 obtain⟨h1,h2,base,cap,rfl,hc,hn,hle,_⟩:=h;cases base with
 |none=>
  grind
 |some a=>
  refine .inr ⟨a,cap,rfl,λj u hj=>?_⟩;cases rows with
  |nil=>simp at hj
  |cons r rs=>
   obtain⟨b,o,hb,jm⟩:=hc sQ;cases hb;rw[zM];exact jm.range j u hj
theorem C1 {t ty bytes:Nat} {s:Value} {dw:List (List Value)} {N:Value->World->XS->Prop} (z:Value)
  (hu:P.underlying t=some (.slice e)) (hi:(P.info? e).bind (λi=>i.zero.map λz=>(i.size,i.bytes,z))=some (k,bytes,z)) (xe:z.cells.size=k) (ix:0<k)
  (hX: ∀k,X k->k<w.heap.size) (gw:lo<=w.heap.size) (own:Own w X lo e k v rows) (src:Sl w X k s dw) (h1: ∀r∈dw,∀u∈r,one u=true)
  (hb:(rows.length+dw.length)*bytes<=140737488355328) (hl:rows.length+dw.length<=2^63-1)
  (n: ∀v' w' X',Grown X w X' w' v.ownBlock->Own w' X' lo e k v' (rows++dw)->(v'.ownBlock=v.ownBlock\/ ∃g,v'.ownBlock=some g/\w.heap.size<=g)->N v' w' X'):
  eV P R X w true (fh #[t,t] ty #[v,s]) N:=by
 intro wa hk;have own:=own.kp hk;have src:=src.kp hk;cases hq:P.info? e with
 |none=>grind
 |some ie=>
  cases tG:ie.zero with
  |none=>grind
  |some z'=>
   simp only[hq,tG,cQ,aY,aj,cV] at hi;obtain⟨rfl,rfl,rfl⟩:=hi;unfold jA;rcases src.src with⟨rfl,rfl⟩|⟨a,cap,rfl,Cn⟩
   ·have hr:=run_append_owned_none (P:=P) (w:=wa) lo t ty e ie ie.size hu hq v rows.length rows.flatten own.2.1;simp only[vS,bq,hr,aM,bQ];have hx:=Ext.refl wa;have hs:=ai.eP hX hk hx;refine⟨Step.eP hx,n _ _ _ ⟨hs.kp.os,hs.kp.tape,hs.kp.output,hs.kp.size,λk h _=>hs.kp.block k h,hs.sub,hs.has⟩ ?_ (.inl rfl)⟩;rw[List.append_nil];exact own.mono (λk h=>Or.inl h)
   ·have sh:dw.flatten.length=dw.length*ie.size:=lE src.1;obtain⟨v',w',hr,tV,hg,_,dF⟩:=run_append_own_at (P:=P) wa lo t ty e ie z' ie.size ie.bytes hu hq tG rfl rfl xe ix v rows.length rows.flatten own.2.1
     a dw.length cap dw.flatten sh Cn (λu hu=>by
      obtain⟨r,hr,hur⟩:=List.mem_flatten.1 hu;rw[<-PS];exact h1 r hr u hur) hl hb (ad gw hk.size)
    simp only[vS,bq,hr,aM,bQ];refine⟨⟨hg.os,hg.tape,hg.output,hg.size,λk tZ nj=>hg.block k tZ λe=>nj (own.2.2 k e.symm)⟩,n _ _ _ ?_ ⟨?_,?_,?_⟩ ?_⟩
    ·exact⟨hg.os.trans hk.os,hg.tape.trans hk.tape,hg.output.trans hk.output,ad hk.size hg.size,
      λk hx cA=>(hg.block k (aw (hX k hx) hk.size) cA).trans (hk.block k hx),λk h=>.inl h,
      λk h=>h.elim (λh=>aw (hX k h) (ad hk.size hg.size)) (λh=>h.2)⟩
    ·intro r hr;rcases List.mem_append.1 hr with h|h
     ·exact own.1 r h
     ·exact src.1 r h
    ·rw[aa,List.flatten_append];omega
    ·intro g Jw;rcases dF with h|h
     ·exact .inl (own.2.2 g (h▸Jw))
     ·rw[Jw] at h;cases h;exact .inr ⟨au _,(tV.lt _ Jw).2⟩
    ·rcases dF with h|h
     ·exact .inl h
     ·exact .inr ⟨_,h,hk.size⟩
theorem Pd {e:TypeId} (ht:P.underlying t=some (.slice e)) (d:Nat) (base:Option Addr) (n c:Nat) (w:World):
  (uj (d+1) t (.slice base n c) (.slice none 0 0)).run P w= .ok base.isNone w:=by
 cases base<;>simp[uj,run_underlying ht]
theorem YS {e:TypeId} {base:Option Addr} {c:Nat} {N:Value->Prop} (ht:P.underlying t=some (.slice e)) (h:N (.bool base.isNone)):
  aV P X w (eB .eql t xo yo (.slice base n c) (.slice none 0 0)) N:=by
 refine bF (λwa=>?_) h;have:(Op.equal t (.slice base n c) (.slice none 0 0)).run P wa= .ok base.isNone wa:=Pd ht 9999 base n c wa;simp[eB,eqGuard,binOp,this]
def MU (P:Program):List Field->Nat->Bool
 |[],_=>true
 |f::r,i=>f.name != "_" &&(match P.underlying f.type with|some (.int _)=>true|_=>false)&&f.offset==i&&MU P r (i+1)
theorem DG (w:World) (d:Nat) (as bs:List Int): ∀(fs:List Field) (i:Nat),MU P fs i=true->as.length=i+fs.length->bs.length=i+fs.length->
  (xd (d+1) (as.map (az .i64)).toArray (bs.map (az .i64)).toArray fs).run P w= .ok (decide (as.drop i=bs.drop i)) w
 |[],i,_,ha,hb=>by
  simp only[List.length_nil,Nat.add_zero] at ha hb;rw[kf zQ,kf zQ];simp[xd]
 |f::r,i,h,ha,hb=>by
  simp only[MU,aB,bne_iff_ne,ne_eq,beq_iff_eq] at h;obtain⟨⟨⟨hn,hu⟩,ho⟩,hr⟩:=h;simp only[aL] at ha hb;have hia:i<as.length:=by omega
  have hib:i<bs.length:=by omega
  cases hd:P.underlying f.type with
  |none=>simp[hd] at hu
  |some ty=>
   cases ty<;>simp only[hd,aU] at hu
   rename_i q;have BP:(isAgg f.type).run P w= .ok false w:=by simp[isAgg,run_underlying hd]
   have YT:(part f.type (as.map (az .i64)).toArray f.offset).run P w= .ok (.int .i64 as[i]) w:=by
    simp[part,BP,ho,hia]
   have HF:(part f.type (bs.map (az .i64)).toArray f.offset).run P w= .ok (.int .i64 bs[i]) w:=by
    simp[part,BP,ho,hib]
   have ih:=DG w d as bs r (i+1) hr zQ zQ;have hk:(as.drop i=bs.drop i)↔(as[i]=bs[i]/\as.drop (i+1)=bs.drop (i+1)):=by
    rw[kL hia,kL hib,List.cons.injEq]
   simp only[hk];clear hk;by_cases he:as[i]=bs[i]
   ·simp[xd,hn,YT,HF,run_equalIn_int w d f.type .i64 q _ _ hd,he,ih]
   ·simp[xd,hn,YT,HF,run_equalIn_int w d f.type .i64 q _ _ hd,he]
def jw (P:Program) (t n:Nat):Bool:=match P.underlying t with
 |some (.struct fs)=>fs.toList.length==n&&MU P fs.toList 0&&!P.stoodInHeld t&&!P.eqGuardType P.depth t
 |_=>false
theorem B1 {t:Nat} (h:jw P t n=true) (as bs:List Int) (ha:as.length=n) (hb:bs.length=n) (w:World):
  (uj 10000 t (.agg (as.map (az .i64)).toArray) (.agg (bs.map (az .i64)).toArray)).run P w= .ok (decide (as=bs)) w:=by
 unfold jw at h;split at h
 ·rename_i fs hu;simp only[aB,beq_iff_eq,de] at h;have hf:P.fieldsOf t=fs:=by simp[Program.fieldsOf,hu]
  rw[run_equalIn_struct w 9999 t _ _ gQ h.1.2,hf];have:=DG (P:=P) w 9998 as bs fs.toList 0 h.1.1.2 zQ zQ;assumption
 ·cases h
theorem Ga {t:Nat} (h:jw P t n=true):P.eqGuardType P.depth t=false:=by
 unfold jw at h
 grind
variable {a' b' c c' : Int}
theorem O6 {N:Value->Prop} {b:Int} (h:jw P t 3=true) (k:N (.bool (decide (a=a'/\b=b'/\c=c')))):
  aV P X w (eB .eql t xo yo (.agg #[.int .i64 a,.int .i64 b,.int .i64 c]) (.agg #[.int .i64 a',.int .i64 b',.int .i64 c'])) N:=
 aib (b:=decide (a=a'/\b=b'/\c=c')) (Ga h) (λwa=>by
  have:=B1 h [a,b,c] [a',b',c'] rfl rfl wa;simpa using this) k
theorem aid {N:Value->Prop} {b:Int} (h:jw P t 3=true) (k:N (.bool (!decide (a=a'/\b=b'/\c=c')))):
  aV P X w (eB .neq t xo yo (.agg #[.int .i64 a,.int .i64 b,.int .i64 c]) (.agg #[.int .i64 a',.int .i64 b',.int .i64 c'])) N:=
 aic (b:=decide (a=a'/\b=b'/\c=c')) (Ga h) (λwa=>by
  have:=B1 h [a,b,c] [a',b',c'] rfl rfl wa;simpa using this) k
theorem abW {N:Value->World->XS->Prop} (hX: ∀k,X k->k<w.heap.size)
  (n: ∀b w' X',w.heap.size<=b->ai X w X' w'->X' b->w'.heap[b]? =some (.cells v.cells.toList.toArray t (0,0))->N (ptr b 0) w' X'):eV P R X w m (bW t v) N:=by
 intro wa hk;unfold jA;have hr:(bW t v).run P wa= .ok (ptr wa.heap.size 0) (wa.alloc (.cells v.cells t)):=by simp[bW,newVar,newRow]
 simp only[vS,bq,hr,aM,bQ];have hx:Ext wa (wa.alloc (.cells v.cells t)):=Ext.alloc _ _;exact⟨Step.eP hx,n _ _ _ hk.size (ai.eP hX hk hx) (.inr ⟨au _,by simp⟩) (by simpa using heap_alloc_new wa _)⟩
def aG (w:World) (X:XS) (b:Nat) (cs:List Value) (ty:TypeId):Prop:=X b/\w.heap[b]? =some (.cells cs.toArray ty (0,0))
variable {cs : List Value}
theorem aG.kp (h:aG w X b cs ty) (hk:Kp X w w'):aG w' X b cs ty:=⟨h.1,by rw[hk.block b h.1];exact h.2⟩
def aG.mono (h:aG w X b cs ty) (hs: ∀k,X k->Y k):aG w Y b cs ty:=⟨hs _ h.1,h.2⟩
def aG.since (h:aG w X b cs ty) (hs:ai X w Y w'):aG w' Y b cs ty:=(h.kp hs.kp).mono hs.sub
theorem aG.cells (h:aG w X b cs ty):Cells w X b 0 cs:=⟨h.1,_,_,_,h.2,λj v hj=>by grind⟩
theorem aie {t:Nat} {N:Value->World->XS->Prop} (h:aG w X b cs ty) (ht:(P.info? t).map (·.size)=some sz)
  (hl:o+sz<=cs.length) (hv:v.cells.size=sz) (h1:v.cells.toList.all one=true) (hX: ∀k,X k->k<w.heap.size)
  (n: ∀w' X',Grown X w X' w' (some b)->aG w' X' b (bO cs o v.cells.toList) ty->N undef w' X'):eU P R X w true (Instr.storeAt t (ptr b o) v) N:=by
 intro wa hk;have hb:=(h.kp hk).2;unfold jA;have hr:=NA (P:=P) ht hb o zQ v hv h1;simp only[ez] at hr;simp only[uS,bq,hr,aM,bQ];have gh:(wa.setRow b (bO cs o v.cells.toList).toArray).heap.size=wa.heap.size:=by simp
 refine⟨⟨rfl,rfl,rfl,by omega,λk _ hx=>setRow_other wa b k _ λe=>hx (e▸h.1)⟩,n _ _ ?_ ⟨.inl h.1,setRow_heap wa b _ _ ty _ hb⟩⟩;refine⟨hk.os,hk.tape,hk.output,by rw[gh];exact hk.size,λk hx cA=>?_,λk h=>.inl h,λk h=>?_⟩
 ·rw[setRow_other wa b k _ (λe=>cA (by rw[e])),hk.block k hx]
 ·rw[gh];exact h.elim (λh=>aw (hX k h) hk.size) (λh=>by omega)
variable {P : Program} {α : Type}
end Go.aK
namespace Go.aK
variable {P : Program} {R : Ending -> World -> Prop} {X : XS} {w : World} {m : Bool} {κ : Type} [DecidableEq κ]
abbrev jo (κ:Type):=κ×Value×Nat
def ly (kv:κ->Value) (x:jo κ):MapEntry:=⟨kv x.1,x.2.1,x.2.2⟩
def ta (k:κ):List (jo κ)->Nat->Option (Nat×Value)
 |[],_=>none
 |x::r,i=>if k=x.1 then some (i,x.2.1)else ta k r (i+1)
structure xf (P:Program) (kt:TypeId) (kv:κ->Value):Prop where
 jc: ∀e k w,(gS e 10000 kt (kv k)).run P w= .ok () w
 find: ∀k (l:List (jo κ)) w,(tM kt (kv k) (l.map (ly kv))).run P w= .ok (ta k l 0) w
 same: ∀k,mQ 10000 (kv k) (kv k)=true
theorem LO (a b:ByteArray):(a==b)=decide (a=b):=by
 rw[beq_toListBytes];have:a.toList=b.toList↔a=b:=by
  constructor
  ·intro h;rw[oq,oq] at h;obtain⟨⟨x⟩⟩:=a;simp_all
  ·grind
 grind
theorem JO {kt:TypeId} (h:P.underlying kt=some .string) (e:Bool) (n:Nat) (k:ByteArray) (w:World):
  (gS e (n+1) kt (.string k)).run P w= .ok () w:=by simp[gS,run_underlying h]
theorem Pe {kt:TypeId} {fs:Array Field} (h:P.underlying kt=some (.struct fs)) (e:Bool) (n:Nat) (cs:Array Value) (w:World)
  (hr:(forIn fs mR λf (_:PUnit)=>(if f.name≠ "_" then(do
    let v<-part f.type cs f.offset
    gS e n f.type v
    pure (se mR))
   else pure (se mR):Sem (ForInStep PUnit))).run P w= .ok mR w):
  (gS e (n+1) kt (.agg cs)).run P w= .ok () w:=by
 simp only[gS,bq,run_underlying h,aM];exact(congrArg (λr=>r.andThen λ_ w'=>tA P (Pure.pure ()) w') hr).trans rfl
theorem II {kt:TypeId} (h:P.underlying kt=some .string):xf P kt (λs:ByteArray=>aN s) where
 jc e k w:=JO h e 9999 k w
 find k l w:=by
  have: ∀(l:List (jo ByteArray)) (i:Nat),ko .string (.string k) (l.map (ly λs=>aN s)) i=some (ta k l i):=by
   intro l
   induction l with
   |nil=>intro i;rfl
   |cons x r ih=>
    intro i;by_cases hk:k=x.1
    ·simp[ko,ly,Instr.sameNow,ta,hk,LO]
    ·simp[ko,ly,Instr.sameNow,ta,hk,ih,LO]
  simp[tM,run_underlying h,this]
 same k:=by simp[mQ,LO]
theorem DH (w:World) (e:Bool) (d:Nat) (as:List Int): ∀(fs:List Field) (i:Nat),MU P fs i=true->as.length=i+fs.length->
  (forIn fs mR λf (_:PUnit)=>(if f.name≠ "_" then(do
    let v<-part f.type (as.map (az .i64)).toArray f.offset
    gS e (d+1) f.type v
    pure (se mR))
   else pure (se mR):Sem (ForInStep PUnit))).run P w= .ok mR w
 |[],i,_,_=>by simp
 |f::r,i,h,ha=>by
  simp only[MU,aB,bne_iff_ne,ne_eq,beq_iff_eq] at h;obtain⟨⟨⟨hn,hu⟩,ho⟩,hr⟩:=h;simp only[aL] at ha;have hia:i<as.length:=by omega
  cases hd:P.underlying f.type with
  |none=>simp[hd] at hu
  |some ty=>
   cases ty<;>simp only[hd,aU] at hu
   rename_i q;have BP:(isAgg f.type).run P w= .ok false w:=by simp[isAgg,run_underlying hd]
   have YT:(part f.type (as.map (az .i64)).toArray f.offset).run P w= .ok (.int .i64 as[i]) w:=by
    simp[part,BP,ho,hia]
   have AQ:(gS e (d+1) f.type (.int .i64 as[i])).run P w= .ok () w:=by
    simp[gS,run_underlying hd]
   have ih:=DH w e d as r (i+1) hr zQ;rw[List.forIn_cons];simp only[ne_eq,hn,not_false_eq_true,if_true,bq,YT,AQ,aM,bQ];exact ih
theorem Vh (d:Nat) (as:List Int):mQ (d+1) (.agg (as.map (az .i64)).toArray) (.agg (as.map (az .i64)).toArray)=true:=by
 have: ∀l:List Int,((l.map (az .i64)).zip (l.map (az .i64))).all (λ(x,y)=>mQ d x y)=true:=by
  intro l
  induction l with
  |nil=>rfl
  |cons x r ih=>
   simp only[bB,List.zip_cons_cons,List.all_cons,ih,Bool.and_true]
   grind [mQ]
 simp[mQ,this]
variable {kt n : Nat}
theorem aif (h:jw P kt n=true) (as:κ->List Int) (hlen: ∀k,(as k).length=n) (aqY: ∀a b,as a=as b->a=b):
  xf P kt (λk:κ=>ej ((as k).map (az .i64)).toArray) where
 jc e k w:=by
  unfold jw at h;split at h
  ·rename_i fs hu;simp only[aB,beq_iff_eq,de] at h;have hr:=DH (P:=P) w e 9998 (as k) fs.toList 0 h.1.1.2 gQ;rw[Array.forIn_toList] at hr;exact Pe hu e 9999 _ w hr
  ·cases h
 find k l w:=by
  have h0:=h;unfold jw at h0;split at h0
  ·rename_i fs hu;have aqZ: ∀(l:List (jo κ)) (i:Nat),(Be kt (.agg ((as k).map (az .i64)).toArray) (l.map (ly λk=>ej ((as k).map (az .i64)).toArray)) i).run P w= .ok (ta k l i) w:=by
    intro l
    induction l with
    |nil=>intro i;rfl
    |cons x r ih=>
     intro i;simp only[bB,Be,ly,Op.equal,Op.maxDepth,bq,(B1 h (as k) (as x.1) (hlen _) (hlen _) w),aM,ta];by_cases hk:k=x.1
     ·subst hk;simp
     ·have: ¬as k=as x.1:=λe=>hk (aqY _ _ e);simp only[this,decide_false,aU,if_false,hk];exact ih _
   cases l with
   |nil=>simp[tM,run_underlying hu,ko,ta]
   |cons x r=>
    have:=aqZ (x::r) 0;simp only[tM,bq,run_underlying hu,aM];assumption
  ·cases h0
 same k:=Vh 9999 (as k)
def ml (w:World) (X:XS) (b:Nat) (kv:κ->Value) (es:List (jo κ)) (clock:Nat):Prop:=
 X b/\w.heap[b]? =some (.map (es.map (ly kv)).toArray clock)/\(es.map (·.1)).Nodup/\(es.map (·.2.2)).Nodup/\ ∀x∈es,x.2.2<clock
variable {w' : World} {b c : Nat}
theorem ml.kp {kv:κ->Value} {es:List (jo κ)} (h:ml w X b kv es c) (hk:Kp X w w'):ml w' X b kv es c:=
 ⟨h.1,by rw[hk.block b h.1];exact h.2.1,h.2.2⟩
variable {Y : XS}
def ml.mono {kv:κ->Value} {es:List (jo κ)} (h:ml w X b kv es c) (hs: ∀k,X k->Y k):ml w Y b kv es c:=⟨hs _ h.1,h.2⟩
def ml.since {kv:κ->Value} {es:List (jo κ)} (h:ml w X b kv es c) (hs:ai X w Y w'):ml w' Y b kv es c:=
 (h.kp hs.kp).mono hs.sub
def GI (k:κ) (es:List (jo κ)):Option Value:=(es.find? λx=>decide (x.1=k)).map (·.2.1)
theorem Pf (k:κ): ∀(es:List (jo κ)) (i:Nat),ta k es i=(es.findIdx? λx=>decide (x.1=k)).bind λj=>(es[j]?).map λx=>(i+j,x.2.1)
 |[],i=>rfl
 |x::r,i=>by
  unfold ta;by_cases h:k=x.1
  ·grind
  ·rw[if_neg h,Pf k r (i+1)];have h': ¬x.1=k:=λe=>h e.symm;simp only[lY,h',decide_false,aU,if_false];cases r.findIdx? λx=>decide (x.1=k)with
   |none=>rfl
   |some j=>simp[Nat.add_assoc,Nat.add_comm 1 j]
theorem UA (k:κ): ∀(es:List (jo κ)) (i:Nat),(ta k es i).map (·.2)=GI k es
 |[],i=>rfl
 |x::r,i=>by
  unfold ta GI;by_cases h:k=x.1
  ·simp[h]
  ·have h': ¬x.1=k:=λe=>h e.symm;rw[if_neg h,UA k r (i+1)];simp[GI,h']
variable {et : Nat}
theorem ad4 {t:Nat} {kv:κ->Value} {es:List (jo κ)} {k:κ} {N:Value->Prop} (z:Value) (h:ml w X b kv es c) (K:xf P kt kv)
  (ht:P.underlying t=some (.map kt et)) (hz:(P.info? et).bind (·.zero)=some z)
  (n:N (.tuple #[(GI k es).getD z,.bool (GI k es).isSome])):aV P X w (bD t (.map (some b)) (kv k) true) N:=by
 refine Hd _ (λwa hk=>?_) n;cases hi:P.info? et with
 |none=>grind
 |some inf=>
  have sK:inf.zero=some z:=by simpa [hi] using hz
  have hg:=UA k es 0;simp only[bD,bq,run_underlying ht,aM,getObj,tA,((h.kp hk).2.1),K.jc,cR,K.find];cases hf:ta k es 0 with
  |none=>
   rw[hf] at hg;simp only[BG] at hg;simp[zeroValue,typeInfo,hi,sK,<-hg,K.find,hf]
  |some r=>
   rw[hf] at hg;simp only[aY] at hg;simp[<-hg,K.find,hf]
variable {N : Value -> World -> XS -> Prop} {t : TypeId}
theorem ad5 {kv:κ->Value} (hX: ∀k,X k->k<w.heap.size)
  (n: ∀b w' X',w.heap.size<=b->ai X w X' w'->ml w' X' b kv [] 0->N (.map (some b)) w' X'):eV P R X w m (fZ t none) N:=by
 intro wa hk;unfold jA;have hr:(fZ t none).run P wa= .ok (.map (some wa.heap.size)) (wa.alloc (.map #[] 0)):=by simp[fZ]
 simp only[vS,bq,hr,aM,bQ];have hx:Ext wa (wa.alloc (.map #[] 0)):=Ext.alloc _ _;exact⟨Step.eP hx,n _ _ _ hk.size (ai.eP hX hk hx) ⟨.inr ⟨au _,by simp⟩,by simpa using heap_alloc_new wa _,by simp,by simp,by simp⟩⟩
open Go.ChangeMaps (setBlock)
variable {wa : World}
theorem LP {o:Obj} (hX: ∀k,X k->k<w.heap.size) (hk:Kp X w wa):Grown X w (grow X wa (setBlock wa b o)) (setBlock wa b o) (some b):=by
 have hs:(setBlock wa b o).heap.size=wa.heap.size:=by simp[setBlock]
 refine⟨hk.os,hk.tape,hk.output,by rw[hs];exact hk.size,λk hx cA=>?_,λk h=>.inl h,λk h=>?_⟩
 ·rw[<-hk.block k hx];have:b≠k:=λe=>cA (by rw[e]);simp[setBlock,dS,this]
 ·rw[hs];exact h.elim (λh=>aw (hX k h) hk.size) (λh=>by omega)
theorem YU {o:Obj} (hb:X b):Fr X wa (setBlock wa b o):=by
 refine⟨rfl,rfl,rfl,by simp[setBlock],λk _ hx=>?_⟩;have:b≠k:=λe=>hx (e▸hb);simp[setBlock,dS,this]
theorem Kv {o:Obj} (hb:b<wa.heap.size):(setBlock wa b o).heap[b]? =some o:=by
 simp[setBlock,dS,hb]
theorem run_setObj_map {es:Array MapEntry} (hb:wa.heap[b]? =some (.map es c)) (o:Obj):(setObj b o).run P wa= .ok () (setBlock wa b o):=by
 simp[setObj,tA,hb,setBlock]
def GJ (k:κ) (v:Value) (c:Nat) (es:List (jo κ)):List (jo κ)×Nat:=
 match es.findIdx? λx=>decide (x.1=k)with
 |some i=>(es.modify i λx=>(x.1,v,x.2.2),c)
 |none=>(es++[(k,v,c)],c+1)
theorem B2 {β γ:Type} (g:β->γ) (f:β->β) (hf: ∀x,g (f x)=g x): ∀(l:List β) (i:Nat),(l.modify i f).map g=l.map g
 |[],i=>by simp
 |x::r,0=>by simp[hf]
 |x::r,i+1=>by simp[B2 g f hf r i]
theorem mem_modify {β:Type} {f:β->β} : ∀{l:List β} {i:Nat} {y:β},y∈l.modify i f-> ∃x∈l,y=x\/y=f x
 |[],i,y,h=>by simp at h
 |x::r,0,y,h=>by grind
 |x::r,i+1,y,h=>by
  simp only[List.modify_succ_cons,List.mem_cons] at h;rcases h with h|h
  ·grind
  ·obtain⟨z,hz,he⟩:=mem_modify h
   grind
variable {v : Value}
theorem afW {t:Nat} {kv:κ->Value} {es:List (jo κ)} {k:κ} (h:ml w X b kv es c) (K:xf P kt kv)
  (ht:P.underlying t=some (.map kt et)) (hX: ∀k,X k->k<w.heap.size)
  (n: ∀w' X',Grown X w X' w' (some b)->ml w' X' b kv (GJ k v c es).1 (GJ k v c es).2->N undef w' X'):
  eU P R X w true (cK t (.map (some b)) (kv k) v) N:=by
 intro wa hk;have hM:=h.kp hk;have hb:=hM.2.1;have cD:b<wa.heap.size:=(Array.getElem?_eq_some_iff.1 hb).1;unfold jA;have hr:(cK t (.map (some b)) (kv k) v).run P wa= .ok () (setBlock wa b (.map ((GJ k v c es).1.map (ly kv)).toArray (GJ k v c es).2)):=by
  simp only[cK,bq,run_underlying ht,aM,getObj,tA,hb,K.jc,cR,K.find,Pf];unfold GJ;cases hf:es.findIdx? λx=>decide (x.1=k)with
  |none=>simp[run_setObj_map hb,ly]
  |some j=>
   have hj:=List.findIdx?_eq_some_iff_getElem.1 hf;obtain⟨HD,Kf,_⟩:=hj;have amP:es[j].1=k:=by simpa using Kf
   simp only[cQ,aZ HD,aY,fg,bq];have fN:(zq (((es.map (ly kv)).toArray[j]?).map (·.key)|>.getD (kv k)) (kv k)).run P wa= .ok (kv k) wa:=by
    simp[zq,HD,ly,amP,K.same]
   rw[fN];simp only[aM,run_setObj_map hb]
   congr 3
   rw[List.modify_toArray]
   congr 1
   apply List.ext_getElem?;intro q;simp only[List.getElem?_modify,List.getElem?_map];by_cases hq:j=q
   ·subst hq;simp[aZ HD,ly,amP]
   ·simp[hq]
 simp only[uS,bq,hr,aM,bQ];refine⟨YU hM.1,n _ _ (LP hX hk) ⟨.inl h.1,Kv cD,?_,?_,?_⟩⟩
 ·unfold GJ;cases hf:es.findIdx? λx=>decide (x.1=k)with
  |none=>
   simp only[aC,bB,List.map_nil];rw[Ax];refine⟨h.2.2.1,by simp,λa ha y hy=>?_⟩;simp only[av] at hy;subst hy;rintro rfl;obtain⟨x,hx,rfl⟩:=List.mem_map.1 ha;have:=List.findIdx?_eq_none_iff.1 hf x hx;simp at this
  |some j=>simp only;rw[B2 (λx:jo κ=>x.1) (λx=>(x.1,v,x.2.2)) (λ_=>rfl)];exact h.2.2.1
 ·unfold GJ;cases hf:es.findIdx? λx=>decide (x.1=k)with
  |none=>
   simp only[aC,bB,List.map_nil];rw[Ax];refine⟨h.2.2.2.1,by simp,λa ha y hy=>?_⟩;simp only[av] at hy;subst hy;rintro rfl;obtain⟨x,hx,he⟩:=List.mem_map.1 ha;have:=h.2.2.2.2 x hx;omega
  |some j=>simp only;rw[B2 (λx:jo κ=>x.2.2) (λx=>(x.1,v,x.2.2)) (λ_=>rfl)];exact h.2.2.2.1
 ·unfold GJ;cases hf:es.findIdx? λx=>decide (x.1=k)with
  |none=>
   intro x hx;rcases List.mem_append.1 hx with hx|hx
   ·have:=h.2.2.2.2 x hx;grind
   ·simp only[av] at hx;grind
  |some j=>
   intro x hx;obtain⟨y,hy,rfl|rfl⟩:=mem_modify hx
   ·exact h.2.2.2.2 _ hy
   ·exact h.2.2.2.2 y hy
def Pg (k:κ) (es:List (jo κ)):List (jo κ):=match es.findIdx? λx=>decide (x.1=k)with
 |some i=>es.eraseIdx i
 |none=>es
theorem afX {t tk ty:Nat} {kv:κ->Value} {es:List (jo κ)} {k:κ} (h:ml w X b kv es c) (K:xf P kt kv)
  (ht:P.underlying t=some (.map kt et)) (hX: ∀k,X k->k<w.heap.size)
  (n: ∀w' X',Grown X w X' w' (some b)->ml w' X' b kv (Pg k es) c->N (.tuple #[]) w' X'):
  eV P R X w true (sc #[t,tk] ty #[.map (some b),kv k]) N:=by
 intro wa hk;have hM:=h.kp hk;have hb:=hM.2.1;have cD:b<wa.heap.size:=(Array.getElem?_eq_some_iff.1 hb).1;unfold jA;have rB:(Pg k es).Sublist es:=by
  unfold Pg;split
  ·grind
  ·grind
 have hr:(sc #[t,tk] ty #[.map (some b),kv k]).run P wa= .ok (.tuple #[]) (setBlock wa b (.map ((Pg k es).map (ly kv)).toArray c)):=by
  have e0:(#[t,tk]:Array TypeId)[0]? =some t:=rfl;have e1:(#[Value.map (some b),kv k]:Array Value)[0]? =some (.map (some b)):=rfl;have e2:(#[Value.map (some b),kv k]:Array Value)[1]? =some (kv k):=rfl;simp only[sc,e0,e1,e2,bq,run_underlying ht,aM,getObj,tA,hb,K.jc,cR,K.find,Pf];unfold Pg;cases hf:es.findIdx? λx=>decide (x.1=k)with
  |none=>simp[run_setObj_map hb]
  |some j=>
   obtain⟨HD,_,_⟩:=List.findIdx?_eq_some_iff_getElem.1 hf;simp only[cQ,aZ HD,aY,fg,run_setObj_map hb,aM,bQ];simp[Array.eraseIdxIfInBounds,HD,Go.ChangeMaps.map_eraseIdx,run_setObj_map hb]
 simp only[vS,bq,hr,aM,bQ];exact⟨YU hM.1,n _ _ (LP hX hk) ⟨.inl h.1,Kv cD,h.2.2.1.sublist (rB.map _),h.2.2.2.1.sublist (rB.map _),λx hx=>h.2.2.2.2 x (rB.subset hx)⟩⟩
def Bg (w:World) (X:XS) (r b:Nat) (kv:κ->Value) (es:List (jo κ)) (c:Nat) (left:List (jo κ)):Prop:=
 ml w X b kv es c/\X r/\r≠b/\ ∃seen:Array Nat,w.heap[r]? =some (.mapIter (some b) c seen c)/\left=es.filter (λx=>!seen.contains x.2.2)
variable {r : Nat}
theorem Bg.kp {kv:κ->Value} {es left:List (jo κ)} (h:Bg w X r b kv es c left) (hk:Kp X w w'):Bg w' X r b kv es c left:=
 ⟨h.1.kp hk,h.2.1,h.2.2.1,let⟨s,hs,hl⟩:=h.2.2.2;⟨s,by rw[hk.block r h.2.1];exact hs,hl⟩⟩
def Bg.mono {kv:κ->Value} {es left:List (jo κ)} (h:Bg w X r b kv es c left) (hs: ∀k,X k->Y k):Bg w Y r b kv es c left:=
 ⟨h.1.mono hs,hs _ h.2.1,h.2.2⟩
def Bg.since {kv:κ->Value} {es left:List (jo κ)} (h:Bg w X r b kv es c left) (hs:ai X w Y w'):Bg w' Y r b kv es c left:=
 (h.kp hs.kp).mono hs.sub
theorem aih {t:Nat} {kv:κ->Value} {es:List (jo κ)} (h:ml w X b kv es c) (ht:P.underlying t=some (.map kt et))
  (hX: ∀k,X k->k<w.heap.size) (n: ∀r w' X',w.heap.size<=r->ai X w X' w'->Bg w' X' r b kv es c es->N (ptr r 0) w' X'):
  eV P R X w m (xc t (.map (some b))) N:=by
 intro wa hk;have hb:=(h.kp hk).2.1;have cD:b<wa.heap.size:=(Array.getElem?_eq_some_iff.1 hb).1;unfold jA;have hr:(xc t (.map (some b))).run P wa= .ok (ptr wa.heap.size 0) (wa.alloc (.mapIter (some b) c #[] c)):=by
  simp[xc,run_underlying ht,getObj,tA,hb]
 simp only[vS,bq,hr,aM,bQ];have hx:Ext wa (wa.alloc (.mapIter (some b) c #[] c)):=Ext.alloc _ _;have hs:=ai.eP hX hk hx;exact⟨Step.eP hx,n _ _ _ hk.size hs ⟨h.since hs,.inr ⟨au _,by simp⟩,by omega,#[],heap_alloc_new wa _,(List.filter_eq_self.2 sQ).symm⟩⟩
theorem akH {ty:Nat} {kv:κ->Value} {es left:List (jo κ)} (h:Bg w X r b kv es c left) (hX: ∀k,X k->k<w.heap.size)
  (n0:left=[]-> ∀w' X',ai X w X' w'->N (.tuple #[.bool false]) w' X')
  (n1: ∀x∈left,∀w' X',Grown X w X' w' (some r)->Bg w' X' r b kv es c (left.filter λy=>decide (y.2.2≠x.2.2))->
   (∀wa,Kp X' w' wa->(pO (ptr r 0)).run P wa= .ok (.tuple #[kv x.1,x.2.1]) wa)->N (.tuple #[.bool true,kv x.1,x.2.1]) w' X'):
  eV P R X w true (Instr.next (ptr r 0) false ty) N:=by
 intro wa hk;obtain⟨hM,hXr,NJ,seen,hr,ad6⟩:=h.kp hk;have hb:=hM.2.1;have qV:r<wa.heap.size:=(Array.getElem?_eq_some_iff.1 hr).1;unfold jA;have hold: ∀x∈((es.map (ly kv)).toArray).toList,x.born<c:=by
  intro x hx;simp only[cR,List.mem_map] at hx;obtain⟨y,hy,rfl⟩:=hx;exact hM.2.2.2.2 y hy
 have gw:(leftOf (es.map (ly kv)).toArray seen).toList=left.map (ly kv):=by
  rw[ad6];simp only[leftOf,Array.toList_filter,cR,List.filter_map];rfl
 rcases run_next_at (P:=P) wa ty r b c c seen _ c hr hb hold (au _)with⟨hz,nU⟩|⟨e,he,w1,Ep,nU⟩
 ·simp only[vS,bq,nU,aM,bQ];have h0:left=[]:=by
   have:left.map (ly kv)=[]:=by rw[<-gw];exact List.eq_nil_of_length_eq_zero (by simpa using hz)
   simpa using this
  exact⟨Step.eP (Ext.refl _),n0 h0 _ _ (ai.eP hX hk (Ext.refl _))⟩
 ·rw[gw] at he;obtain⟨x,hx,rfl⟩:=List.mem_map.1 he;simp only[vS,bq,nU,aM,bQ];have E6:Kp X w w1:=by
   rcases Ep with rfl|rfl
   ·exact hk
   ·exact⟨hk.os,hk.tape,hk.output,hk.size,hk.block⟩
  have KT:r<w1.heap.size:=by rcases Ep with rfl|rfl<;>exact qV
  have lL:w1.heap[b]? =some (.map (es.map (ly kv)).toArray c):=by rcases Ep with rfl|rfl<;>exact hb
  have aq0:Fr X wa w1:=by rcases Ep with rfl|rfl<;>exact⟨rfl,rfl,rfl,au _,λ_ _ _=>rfl⟩
  have uJ: ∀o,(setBlock w1 r o).heap[b]? =some (.map (es.map (ly kv)).toArray c):=by
   intro o;rw[<-lL];simp[setBlock,dS,NJ]
  have lx:w1.heap.size=wa.heap.size:=by rcases Ep with rfl|rfl<;>rfl
  have aoM:grow X wa (setBlock w1 r (.mapIter (some b) c (seen.push x.2.2) c))=grow X w1 (setBlock w1 r (.mapIter (some b) c (seen.push x.2.2) c)):=by
   unfold grow;rw[lx]
  have hG:=LP (o:=.mapIter (some b) c (seen.push x.2.2) c) (b:=r) hX E6;have NI:Bg (setBlock w1 r (.mapIter (some b) c (seen.push x.2.2) c)) (grow X w1 (setBlock w1 r (.mapIter (some b) c (seen.push x.2.2) c))) r b kv es c (left.filter λy=>decide (y.2.2≠x.2.2)):=by
   refine⟨⟨.inl hM.1,uJ _,hM.2.2⟩,.inl hXr,NJ,seen.push x.2.2,Kv KT,?_⟩;rw[ad6,List.filter_filter]
   congr 1
   funext y
   by_cases hy:y.2.2=x.2.2<;>simp[hy,Array.contains_push,Bool.beq_eq_decide_eq]
  show Fr X wa _/\N _ _ (grow X wa _)
  refine⟨aq0.trans (YU hXr),?_⟩
  show N (.tuple #[.bool true,kv x.1,x.2.1]) (setBlock w1 r (.mapIter (some b) c (seen.push x.2.2) c)) (grow X wa (setBlock w1 r (.mapIter (some b) c (seen.push x.2.2) c)))
  rw[aoM];refine n1 x hx _ _ hG NI λwb pj=>?_;have hxe:x∈es:=by rw[ad6] at hx;exact(List.mem_filter.1 hx).1
  exact run_entry_at (P:=P) wb r b c seen (es.map (ly kv)).toArray c (ly kv x) (by rw[pj.block r (.inl hXr)];exact Kv KT) (NI.kp pj).1.2.1 (by rw[cR];exact List.mem_map.2 ⟨x,hxe,rfl⟩)
   (by rw[cR,List.map_map];exact hM.2.2.2.1)
theorem aii {k:Value} (hX: ∀k,X k->k<w.heap.size)
  (h: ∀wa,Kp X w wa->(pO (ptr r 0)).run P wa= .ok (.tuple #[k,v]) wa) (n: ∀w' X',ai X w X' w'->N (.tuple #[k,v]) w' X'):
  eV P R X w m (pO (ptr r 0)) N:=by
 intro wa hk;unfold jA;simp only[vS,bq,h wa hk,aM,bQ];exact⟨Step.eP (Ext.refl _),n _ _ (ai.eP hX hk (Ext.refl _))⟩
variable {P : Program} {R : Ending -> World -> Prop} {X : XS} {w : World} {m : Bool} {N : Value -> Prop}
def un (e:Value) (M:Value->Prop):Prop:=M e
def jn {α:Type} (r:α) (B:α->Prop):Prop:=B r
def iE (S f _fo _sz:Nat) (x:Value):Sem Value:=Instr.fieldAt S x f
def ld1 (t:TypeId) (x:Value):Sem Value:=ji t x
def iw (t:TypeId) (_n:Nat) (x:Value):Sem Value:=ji t x
def st1 (t:TypeId) (_n:Nat) (x v:Value):Sem Unit:=Instr.storeAt t x v
def kY (t:TypeId) (_k:Nat) (v i:Value):Sem Value:=yV t v i
def kZ (t ty:TypeId) (v:Value):Sem Value:=mJ #[t] ty #[v]
def oP (t ty:TypeId) (v:Value):Sem Value:=mJ #[t] ty #[v]
def rF (t:TypeId) (_cells:Array Value) (parts:Array (Nat×Value)):Sem Value:=Instr.build t parts
def o9 (_k:IntKind) (src dst:TypeId) (x:Value):Sem Value:=convert src dst x
def Hg (src dst:TypeId) (x:Value):Sem Value:=convert src dst x
def Dz (t _n _e:Nat) (x i:Value):Sem Value:=Bd t x i
def gO (t _e _k len:Nat) (parts:Array (Nat×Value)):Sem Value:=jg t len parts
def ga (t _e _k _bytes ty:Nat) (v s:Value):Sem Value:=fh #[t,t] ty #[v,s]
def fdV (S f _fo _sz:Nat) (x:Value):Sem Value:=Instr.field S x f
abbrev I (x:Int):Value:=.int .i64 x
abbrev B (x:Bool):Value:=.bool x
def Kz (X:XS) (w:World) (F:JT->Nat->World->XS->Prop):Prop:=PZ X w [] [] λJ n _ w X=>F J n w X
def Hh (X:XS) (w:World) (v1:Value) (c1:Nat) (F:JT->Nat->Value->World->XS->Prop):Prop:=PZ X w [v1] [c1] λJ n e w X=>F J n (e c1) w X
def Hi (X:XS) (w:World) (v1 v2:Value) (c1 c2:Nat) (F:JT->Nat->Value->Value->World->XS->Prop):Prop:=
 PZ X w [v1,v2] [c1,c2] λJ n e w X=>F J n (e c1) (e c2) w X
def Hj (X:XS) (w:World) (v1 v2 v3:Value) (c1 c2 c3:Nat) (F:JT->Nat->Value->Value->Value->World->XS->Prop):Prop:=
 PZ X w [v1,v2,v3] [c1,c2,c3] λJ n e w X=>F J n (e c1) (e c2) (e c3) w X
def Hk (X:XS) (w:World) (v1 v2 v3 v4:Value) (c1 c2 c3 c4:Nat) (F:JT->Nat->Value->Value->Value->Value->World->XS->Prop):Prop:=
 PZ X w [v1,v2,v3,v4] [c1,c2,c3,c4] λJ n e w X=>F J n (e c1) (e c2) (e c3) (e c4) w X
def Hl (X:XS) (w:World) (v1 v2 v3 v4 v5:Value) (c1 c2 c3 c4 c5:Nat) (F:JT->Nat->Value->Value->Value->Value->Value->World->XS->Prop):Prop:=
 PZ X w [v1,v2,v3,v4,v5] [c1,c2,c3,c4,c5] λJ n e w X=>F J n (e c1) (e c2) (e c3) (e c4) (e c5) w X
def KA (X:XS) (w:World) (v1 v2 v3 v4 v5 v6:Value) (c1 c2 c3 c4 c5 c6:Nat) (F:JT->Nat->Value->Value->Value->Value->Value->Value->World->XS->Prop):Prop:=
 PZ X w [v1,v2,v3,v4,v5,v6] [c1,c2,c3,c4,c5,c6] λJ n e w X=>F J n (e c1) (e c2) (e c3) (e c4) (e c5) (e c6) w X
def KB (X:XS) (w:World) (v1 v2 v3 v4 v5 v6 v7:Value) (c1 c2 c3 c4 c5 c6 c7:Nat) (F:JT->Nat->Value->Value->Value->Value->Value->Value->Value->World->XS->Prop):Prop:=
 PZ X w [v1,v2,v3,v4,v5,v6,v7] [c1,c2,c3,c4,c5,c6,c7] λJ n e w X=>F J n (e c1) (e c2) (e c3) (e c4) (e c5) (e c6) (e c7) w X
def KC (X:XS) (w:World) (v1 v2 v3 v4 v5 v6 v7 v8:Value) (c1 c2 c3 c4 c5 c6 c7 c8:Nat) (F:JT->Nat->Value->Value->Value->Value->Value->Value->Value->Value->World->XS->Prop):Prop:=
 PZ X w [v1,v2,v3,v4,v5,v6,v7,v8] [c1,c2,c3,c4,c5,c6,c7,c8] λJ n e w X=>F J n (e c1) (e c2) (e c3) (e c4) (e c5) (e c6) (e c7) (e c8) w X
def KD (J:JT) (n:Nat) (w:World) (X:XS):Prop:=Eo J n [] w X
def Et (J:JT) (n:Nat) (a:Value) (w:World) (X:XS):Prop:=Eo J n [a] w X
def Eu (J:JT) (n:Nat) (a b:Value) (w:World) (X:XS):Prop:=Eo J n [a,b] w X
def Hm (J:JT) (n:Nat) (a b c:Value) (w:World) (X:XS):Prop:=Eo J n [a,b,c] w X
def Hn (J:JT) (n:Nat) (a b c d:Value) (w:World) (X:XS):Prop:=Eo J n [a,b,c,d] w X
def Ho (J:JT) (n:Nat) (a b c d f:Value) (w:World) (X:XS):Prop:=Eo J n [a,b,c,d,f] w X
def KE (J:JT) (n:Nat) (a b c d f g:Value) (w:World) (X:XS):Prop:=Eo J n [a,b,c,d,f,g] w X
def KF (J:JT) (n:Nat) (a b c d f g h:Value) (w:World) (X:XS):Prop:=Eo J n [a,b,c,d,f,g,h] w X
def KG (J:JT) (n:Nat) (a b c d f g h i:Value) (w:World) (X:XS):Prop:=Eo J n [a,b,c,d,f,g,h,i] w X
def J1 (I:Nat->Value->World->XS->Prop):JT:=λn vs w X=>match vs with
 |[a]=>I n a w X
 |_=>False
def J2 (I:Nat->Value->Value->World->XS->Prop):JT:=λn vs w X=>match vs with
 |[a,b]=>I n a b w X
 |_=>False
def J3 (I:Nat->Value->Value->Value->World->XS->Prop):JT:=λn vs w X=>match vs with
 |[a,b,c]=>I n a b c w X
 |_=>False
def J4 (I:Nat->Value->Value->Value->Value->World->XS->Prop):JT:=λn vs w X=>match vs with
 |[a,b,c,d]=>I n a b c d w X
 |_=>False
def J5 (I:Nat->Value->Value->Value->Value->Value->World->XS->Prop):JT:=λn vs w X=>match vs with
 |[a,b,c,d,f]=>I n a b c d f w X
 |_=>False
def eY {v1 c1 F} (I:Nat->Value->World->XS->Prop) (n:Nat) (h0:I n v1 w X)
  (h: ∀n a w' X',I n a w' X'->F (J1 I) n a w' X'):Hh X w v1 c1 F:=⟨J1 I,⟨n,h0⟩,λn e w' X' _ hj=>h n (e c1) w' X' hj⟩
def gv {v1 v2 c1 c2 F} (I:Nat->Value->Value->World->XS->Prop) (n:Nat) (h0:I n v1 v2 w X)
  (h: ∀n a b w' X',I n a b w' X'->F (J2 I) n a b w' X'):Hi X w v1 v2 c1 c2 F:=⟨J2 I,⟨n,h0⟩,λn e w' X' _ hj=>h n (e c1) (e c2) w' X' hj⟩
def CC {v1 v2 v3 c1 c2 c3 F} (I:Nat->Value->Value->Value->World->XS->Prop) (n:Nat) (h0:I n v1 v2 v3 w X)
  (h: ∀n a b c w' X',I n a b c w' X'->F (J3 I) n a b c w' X'):Hj X w v1 v2 v3 c1 c2 c3 F:=⟨J3 I,⟨n,h0⟩,λn e w' X' _ hj=>h n (e c1) (e c2) (e c3) w' X' hj⟩
def alz {v1 v2 v3 v4 c1 c2 c3 c4 F} (I:Nat->Value->Value->Value->Value->World->XS->Prop) (n:Nat) (h0:I n v1 v2 v3 v4 w X)
  (h: ∀n a b c d w' X',I n a b c d w' X'->F (J4 I) n a b c d w' X'):Hk X w v1 v2 v3 v4 c1 c2 c3 c4 F:=
 ⟨J4 I,⟨n,h0⟩,λn e w' X' _ hj=>h n (e c1) (e c2) (e c3) (e c4) w' X' hj⟩
def amQ {v1 v2 v3 v4 v5 c1 c2 c3 c4 c5 F} (I:Nat->Value->Value->Value->Value->Value->World->XS->Prop) (n:Nat) (h0:I n v1 v2 v3 v4 v5 w X)
  (h: ∀n a b c d f w' X',I n a b c d f w' X'->F (J5 I) n a b c d f w' X'):Hl X w v1 v2 v3 v4 v5 c1 c2 c3 c4 c5 F:=
 ⟨J5 I,⟨n,h0⟩,λn e w' X' _ hj=>h n (e c1) (e c2) (e c3) (e c4) (e c5) w' X' hj⟩
def ep {I n a} (k:Nat) (hk:k<n) (h:I k a w X):Et (J1 I) n a w X:=⟨k,hk,h⟩
def fw {I n a b} (k:Nat) (hk:k<n) (h:I k a b w X):Eu (J2 I) n a b w X:=⟨k,hk,h⟩
def AT {I n a b c} (k:Nat) (hk:k<n) (h:I k a b c w X):Hm (J3 I) n a b c w X:=⟨k,hk,h⟩
def alB {I n a b c d} (k:Nat) (hk:k<n) (h:I k a b c d w X):Hn (J4 I) n a b c d w X:=⟨k,hk,h⟩
def amR {I n a b c d f} (k:Nat) (hk:k<n) (h:I k a b c d f w X):Ho (J5 I) n a b c d f w X:=⟨k,hk,h⟩
def cB {α:Type} {r:α} {F:α->Prop} (h:F r):jn r F:=h
def ij {α:Type} {r:α} {F:α->Prop} (Q:α->Prop) (h:Q r) (k: ∀c,Q c->F c):jn r F:=k r h
variable {M : Value -> Prop}
def aor {e:Value} (e':Value) (h:e=e') (k:M e'):un e M:=h▸k
variable {a : Value} {i : Nat} {l : List Value}
theorem akI (h:l[i]? =some a) (k:M a):un (cellOf (.agg l.toArray) i) M:=by
 have:cellOf (.agg l.toArray) i=a:=by simp[cellOf,bf,List.getD,h]
 unfold un;grind
variable {o : Nat}
theorem afY (k:M (.agg ((l.drop o).take n).toArray)):un (yg (.agg l.toArray) o n) M:=by
 have:yg (.agg l.toArray) o n= .agg ((l.drop o).take n).toArray:=by simp[yg,bf]
 assumption
def XV {c:Array Value} (k:M (.agg c)):un (.agg (bf (.agg c))) M:=k
def HP (k:M v):un (pT (.bool true) true v) M:=k
def akJ (k:M v):un (pT (.bool false) false v) M:=k
def aij (k:M undef):un (pT (.bool true) false v) M:=k
def Fb (k:M undef):un (pT (.bool false) true v) M:=k
theorem akK {q:Bool} (k:M undef):un (pT undef q v) M:=by
 have:pT undef q v=undef:=by rfl
 assumption
variable {A : Prop}
theorem ad7 {b:Bool} (h:b=true) (k:A):jc b A:=by subst h;exact k
variable {C : Prop}
def abI (h:A):me (.bool true) A C:=⟨λ_=>h,λh=>absurd h sQ⟩
def Sp (h:C):me (.bool false) A C:=⟨λh=>absurd h sQ,λ_=>h⟩
theorem amS {s:Sem Next} {want:Bool} (h:N undef):lB P X w undef want s N:=by
 have e:oe undef want=false:=by rfl
 grind [lB]
variable {s : Sem Value}
def YM (h:aV P X w s N):lB P X w (.bool true) true (vS s) N:=MC h
def aik (h:aV P X w s N):lB P X w (.bool false) false (vS s) N:=MC h
variable {xo yo : Operand}
section
variable {k : IntKind} {a b : Int}
def ad8 (hT:a<b->N (.bool true)) (hF: ¬a<b->N (.bool false)):aV P X w (binOp .lss t (.int k a) (.int k b)) N:=
 ajU gQ
def ajE (hT:a<=b->N (.bool true)) (hF: ¬a<=b->N (.bool false)):aV P X w (binOp .leq t (.int k a) (.int k b)) N:=
 ajV gQ
def ad9 (hT:a>b->N (.bool true)) (hF: ¬a>b->N (.bool false)):aV P X w (binOp .gtr t (.int k a) (.int k b)) N:=
 ajW gQ
def aea (hT:a>=b->N (.bool true)) (hF: ¬a>=b->N (.bool false)):aV P X w (binOp .geq t (.int k a) (.int k b)) N:=
 ajX gQ
def aeb (hT:a=b->N (.bool true)) (hF: ¬a=b->N (.bool false)):aV P X w (eB .eql t xo yo (.int k a) (.int k b)) N:=
 RX gQ
def aec (hT: ¬a=b->N (.bool true)) (hF:a=b->N (.bool false)):aV P X w (eB .neq t xo yo (.int k a) (.int k b)) N:=
 ajY gQ
def amT (h:a<b) (k':N (.bool true)):aV P X w (binOp .lss t (.int k a) (.int k b)) N:=ad8 (λ_=>k') (λhn=>absurd h hn)
def amU (h: ¬a<b) (k':N (.bool false)):aV P X w (binOp .lss t (.int k a) (.int k b)) N:=ad8 (λhn=>absurd hn h) (λ_=>k')
def amV (h: ¬a<=b) (k':N (.bool false)):aV P X w (binOp .leq t (.int k a) (.int k b)) N:=ajE (λhn=>absurd hn h) (λ_=>k')
def amW (h:a>b) (k':N (.bool true)):aV P X w (binOp .gtr t (.int k a) (.int k b)) N:=ad9 (λ_=>k') (λhn=>absurd h hn)
def amX (h: ¬a>b) (k':N (.bool false)):aV P X w (binOp .gtr t (.int k a) (.int k b)) N:=ad9 (λhn=>absurd hn h) (λ_=>k')
def amY (h:a>=b) (k':N (.bool true)):aV P X w (binOp .geq t (.int k a) (.int k b)) N:=aea (λ_=>k') (λhn=>absurd h hn)
def amZ (h: ¬a>=b) (k':N (.bool false)):aV P X w (binOp .geq t (.int k a) (.int k b)) N:=aea (λhn=>absurd hn h) (λ_=>k')
def am0 (h:a=b) (k':N (.bool true)):aV P X w (eB .eql t xo yo (.int k a) (.int k b)) N:=aeb (λ_=>k') (λhn=>absurd h hn)
def am1 (h: ¬a=b) (k':N (.bool false)):aV P X w (eB .eql t xo yo (.int k a) (.int k b)) N:=aeb (λhn=>absurd hn h) (λ_=>k')
def am2 (h: ¬a=b) (k':N (.bool true)):aV P X w (eB .neq t xo yo (.int k a) (.int k b)) N:=aec (λ_=>k') (λhn=>absurd hn h)
def am3 (h:a=b) (k':N (.bool false)):aV P X w (eB .neq t xo yo (.int k a) (.int k b)) N:=aec (λhn=>absurd h hn) (λ_=>k')
theorem ajF (h1: -(2^63)<=a+b) (h2:a+b<2^63) (h:N (.int .i64 (a+b))):aV P X w (binOp .add t (.int .i64 a) (.int .i64 b)) N:=
 nK (by rw[wrap_i64 h1 h2];exact h)
theorem aoN (h1: -(2^63)<=a-b) (h2:a-b<2^63) (h:N (.int .i64 (a-b))):aV P X w (binOp .sub t (.int .i64 a) (.int .i64 b)) N:=
 abt (by rw[wrap_i64 h1 h2];exact h)
theorem aoo (h1: -(2^63)<=a*b) (h2:a*b<2^63) (h:N (.int .i64 (a*b))):aV P X w (binOp .mul t (.int .i64 a) (.int .i64 b)) N:=
 RW (by rw[wrap_i64 h1 h2];exact h)
end
theorem IJ {a b:ByteArray} :a.toList=b.toList↔a=b:=by
 constructor
 ·intro h;rw[oq,oq] at h;obtain⟨⟨x⟩⟩:=a;simp_all
 grind
def zr (a b:ByteArray):Bool:=ct a.toList b.toList
section
variable {a b : ByteArray}
theorem am4 (hT:a=b->N (.bool true)) (hF: ¬a=b->N (.bool false)):aV P X w (eB .eql t xo yo (.string a) (.string b)) N:=
 agT (by grind [IJ])
theorem am5 (hT: ¬a=b->N (.bool true)) (hF:a=b->N (.bool false)):aV P X w (eB .neq t xo yo (.string a) (.string b)) N:=
 agU (by simp only[ne_eq,IJ];by_cases h:a=b;(· grind);(grind))
theorem am6 (hT:zr a b=true->N (.bool true)) (hF:zr a b=false->N (.bool false)):aV P X w (binOp .lss t (.string a) (.string b)) N:=
 agV (by unfold zr at hT hF;cases h:ct a.toList b.toList;(· exact hF h);(grind))
theorem am7 (hT:zr a b=false->N (.bool true)) (hF:zr a b=true->N (.bool false)):aV P X w (binOp .geq t (.string a) (.string b)) N:=
 agW (by unfold zr at hT hF;cases h:ct a.toList b.toList;(· exact hT h);(grind))
theorem am8 (hT:zr a b=true\/a=b->N (.bool true)) (hF:zr a b=false-> ¬a=b->N (.bool false)):aV P X w (binOp .leq t (.string a) (.string b)) N:=
 agX (by
  unfold zr at hT hF;simp only[IJ];cases h:ct a.toList b.toList
  ·by_cases h2:a=b
   ·grind
   grind
  grind)
theorem am9 (hT:zr a b=false-> ¬a=b->N (.bool true)) (hF:zr a b=true\/a=b->N (.bool false)):aV P X w (binOp .gtr t (.string a) (.string b)) N:=
 agY (by
  unfold zr at hT hF;simp only[IJ];cases h:ct a.toList b.toList
  ·by_cases h2:a=b
   ·grind
   grind
  grind)
end
def qq (a b:Nat):Bool:=FloatKind.f64.format.order a b==some .lt
def pA (a b:Nat):Bool:=FloatKind.f64.format.order a b==some .eq
def Jx (a b:Nat):Bool:=FloatKind.f64.format.order a b==some .gt
section
variable {a : Nat}
theorem ana (hT:qq a b=true->N (.bool true)) (hF:qq a b=false->N (.bool false)):aV P X w (binOp .lss t (.float .f64 a) (.float .f64 b)) N:=
 agZ (by grind [qq])
theorem anb (hT:Jx a b=true->N (.bool true)) (hF:Jx a b=false->N (.bool false)):aV P X w (binOp .gtr t (.float .f64 a) (.float .f64 b)) N:=
 ag1 (by grind [Jx])
theorem anc (hT:qq a b=true\/pA a b=true->N (.bool true)) (hF:qq a b=false->pA a b=false->N (.bool false)):aV P X w (binOp .leq t (.float .f64 a) (.float .f64 b)) N:=
 ag0 (by grind [qq,pA])
theorem ane (hT:Jx a b=true\/pA a b=true->N (.bool true)) (hF:Jx a b=false->pA a b=false->N (.bool false)):aV P X w (binOp .geq t (.float .f64 a) (.float .f64 b)) N:=
 ag2 (by grind [Jx,pA])
theorem anf (hT:pA a b=true->N (.bool true)) (hF:pA a b=false->N (.bool false)):aV P X w (eB .eql t xo yo (.float .f64 a) (.float .f64 b)) N:=
 ag3 (by grind [pA])
theorem ang (hT:pA a b=false->N (.bool true)) (hF:pA a b=true->N (.bool false)):aV P X w (eB .neq t xo yo (.float .f64 a) (.float .f64 b)) N:=
 ag4 (by grind [pA])
end
def XU (h:N (.bool false)):aV P X w (Op.unary .not (.bool true)) N:=abu h
def afo (h:N (.bool true)):aV P X w (Op.unary .not (.bool false)) N:=abu h
section
variable {a b c a' b' c' : Int}
def YB (h:jw P t 3=true) (hT:a=a'->b=b'->c=c'->N (.bool true)) (hF: ¬(a=a'/\b=b'/\c=c')->N (.bool false)):
  aV P X w (eB .eql t xo yo (.agg #[.int .i64 a,.int .i64 b,.int .i64 c]) (.agg #[.int .i64 a',.int .i64 b',.int .i64 c'])) N:=
 O6 h gQ
def afO (h:jw P t 3=true) (hT: ¬(a=a'/\b=b'/\c=c')->N (.bool true)) (hF:a=a'->b=b'->c=c'->N (.bool false)):
  aV P X w (eB .neq t xo yo (.agg #[.int .i64 a,.int .i64 b,.int .i64 c]) (.agg #[.int .i64 a',.int .i64 b',.int .i64 c'])) N:=
 aid h gQ
end
theorem aoO (h:Cells w X b o l) (hi:kM P t=some (false,1)) (hl:l[0]? =some v) (k:N v):
  aV P X w (ld1 t (ptr b o)) N:=by
 cases l with
 |nil=>cases hl
 |cons x r=>
  simp only[jR,aj] at hl;subst hl;exact afS h hi k
variable {ty : TypeId}
def aoP {s:ByteArray} (ht:P.underlying t=some .string) (k:N (.int .i64 s.size)):aV P X w (oP t ty (.string s)) N:=aia ht k
variable {parts : Array (Nat × Value)}
def aed {cells:Array Value} (h:P.built t parts.toList=some cells) (k:N (.agg cells)):
  aV P X w (rF t cells parts) N:=afU cells h k
def IK {a:Addr} (h:N (.pointer (some a))):lK P X w (bu (.pointer (some a))) N:=aj0 h
def ajq {vs:Array Value} (hi:vs[i]? =some v) (h:N v):aV P X w (gz (.tuple vs) i) N:=NG hi h
variable {args : Array Value} {f : FuncId}
theorem MV {b:Bool} {N:Value->World->XS->Prop}
  (h:Pure P f args (.bool b)) (hf:enters P f=true) (hX: ∀k,X k->k<w.heap.size)
  (hT:b=true-> ∀w' X',ai X w X' w'->N (.bool true) w' X') (hF:b=false-> ∀w' X',ai X w X' w'->N (.bool false) w' X'):
  eC P R X w m f args N:=abV hf hX h (by
  cases b
  ·exact hF rfl
  grind)
def rL {N:Value->World->XS->Prop}
  (h:Pure P f args v) (hf:enters P f=true) (hX: ∀k,X k->k<w.heap.size)
  (k: ∀w' X',ai X w X' w'->N v w' X'):eC P R X w m f args N:=abV hf hX h k
structure ee (F X:XS) (w:World) (X':XS) (w':World):Prop where
 os:w'.os=w.os
 tape:w'.tape=w.tape
 output:w'.output=w.output
 size:w.heap.size<=w'.heap.size
 block: ∀k,X k-> ¬F k->w'.heap[k]? =w.heap[k]?
 sub: ∀k,X k->X' k
 has: ∀k,X' k->k<w'.heap.size
variable {F X' : XS}
def ee.since (c:ee F X w X' w') (hY: ∀k,Y k->X k/\ ¬F k):ai Y w X' w':=
 ⟨⟨c.os,c.tape,c.output,c.size,λk hk=>c.block k (hY k hk).1 (hY k hk).2⟩,λk hk=>c.sub k (hY k hk).1,c.has⟩
variable {w0 : World} {X0 : XS}
def ai.dY (h:ai X0 w0 X w) (c:ee F X w X' w') (hd: ∀k,X0 k-> ¬F k):ai X0 w0 X' w':=
 ⟨⟨c.os.trans h.kp.os,c.tape.trans h.kp.tape,c.output.trans h.kp.output,ad h.kp.size c.size,
  λk hk=>(c.block k (h.sub k hk) (hd k hk)).trans (h.kp.block k hk)⟩,λk hk=>c.sub k (h.sub k hk),c.has⟩
def ee.aee (hX: ∀k,X k->k<w.heap.size) (hk:Kp X w wa) (hf:Fr F wa w'):ee F X w (grow X wa w') w':=
 ⟨hf.os.trans hk.os,hf.tape.trans hk.tape,hf.output.trans hk.output,ad hk.size hf.size,
  λk hx hn=>(hf.block k (aw (hX k hx) hk.size) hn).trans (hk.block k hx),λ_ h=>.inl h,
  λk h=>h.elim (λh=>aw (hX k h) (ad hk.size hf.size)) (λh=>h.2)⟩
def ee.nA (h:ai X w X' w') (F:XS):ee F X w X' w':=
 ⟨h.kp.os,h.kp.tape,h.kp.output,h.kp.size,λk hk _=>h.kp.block k hk,h.sub,h.has⟩
def Grown.dY {row:Option Nat} (g:Grown X w X' w' row):ee (λk=>some k=row) X w X' w':=
 ⟨g.os,g.tape,g.output,g.size,λk hk hn=>g.block k hk hn,g.sub,g.has⟩
variable {mq : World}
theorem ee.trans {wG:XS} (a:ee F X w X' w') (b:ee F X' w' wG mq):ee F X w wG mq:=
 ⟨b.os.trans a.os,b.tape.trans a.tape,b.output.trans a.output,ad a.size b.size,
  λk hk hn=>(b.block k (a.sub k hk) hn).trans (a.block k hk hn),λk hk=>b.sub k (a.sub k hk),b.has⟩
def ee.mono {G:XS} (a:ee F X w X' w') (h: ∀k,X k->F k->G k):ee G X w X' w':=
 ⟨a.os,a.tape,a.output,a.size,λk hk hn=>a.block k hk λhf=>hn (h k hk hf),a.sub,a.has⟩
def made (w w':World):XS:=λg=>w.heap.size<=g/\g<w'.heap.size
def out (F:XS) (w:World):XS:=λk=>k<w.heap.size/\ ¬F k
def uF (F:XS) (w0:World) (Q:Value->World->Prop):Ending->World->Prop:=λe w'=> ∃v,e= .returned v/\Fr F w0 w'/\Q v w'
def Ct (P:Program) (f:FuncId) (args:Array Value) (w:World) (X F:XS) (Q:Value->World->World->Prop):Prop:=
 ∀wa,Kp X w wa->Calls P f args wa (uF F wa λv w'=>Q v wa w')
variable {Q : Value -> World -> World -> Prop}
def Ct.mono {Q':Value->World->World->Prop} (h:Ct P f args w X F Q) (k: ∀v wa w',Kp X w wa->Q v wa w'->Q' v wa w'):Ct P f args w X F Q':=
 λwa hk=>(h wa hk).mono λ_ _ ⟨v,he,hf,hq⟩=>⟨v,he,hf,k v wa _ hk hq⟩
def cd {N:Value->World->XS->Prop}
  (h:Ct P f args w X nX Q) (hf:enters P f=true) (hX: ∀k,X k->k<w.heap.size)
  (k: ∀v wa w' X',Q v wa w'->w.heap.size<=wa.heap.size->(∀k,made wa w' k->X' k)->ai X w X' w'->N v w' X'):eC P R X w m f args N:=
 YR (Q:=Q) hf hX h λv wa w' X' hk _ hn hq hs=>k v wa w' X' hq hk.size (λg hg=>hn g hg.1 hg.2) hs
theorem yR {N:Value->World->XS->Prop}
  (h:Ct P f args w X F Q) (hf:enters P f=true) (hX: ∀k,X k->k<w.heap.size) (hF: ∀k,F k->X k)
  (k: ∀v wa w' X',Q v wa w'->w.heap.size<=wa.heap.size->(∀k,made wa w' k->X' k)->Kp X w wa->ee F X w X' w'->N v w' X'):eC P R X w true f args N:=by
 intro wa hk;unfold jA;rw[oV hf args wa];refine⟨rfl,(h wa hk).mono ?_⟩;rintro e w' ⟨v,rfl,wX,hq⟩;exact⟨wX.mono hF,k v wa w' _ hq hk.size (λg hg=>.inr hg) hk (ee.aee hX hk wX)⟩
def bM {Q:Value->World->Prop} (hs:ai (bI w0) w0 X w) (h: ∀wa,Kp X w wa->Q v wa):fin (uF nX w0 Q) X w v:=
 λ_ hk=>⟨v,rfl,hs.ext hk,h _ hk⟩
def abX {Q:Value->World->Prop} (hs:ai (out F w0) w0 X w) (h: ∀wa,Kp X w wa->Q v wa):fin (uF F w0 Q) X w v:=
 λ_ hk=>⟨v,rfl,⟨hk.os.trans hs.kp.os,hk.tape.trans hs.kp.tape,hk.output.trans hs.kp.output,ad hs.kp.size hk.size,
  λk hl hn=>(hk.block k (hs.sub k ⟨hl,hn⟩)).trans (hs.kp.block k ⟨hl,hn⟩)⟩,h _ hk⟩
def ai.out (F:XS) (w:World):ai (out F w) w (bI w) w:=⟨Kp.refl _ _,λ_ h=>h.1,λ_ h=>h⟩
variable {rows : List (List Value)} {e k lo : Nat}
theorem Own.up (h:Own w' (made wa w') wa.heap.size e k v rows) (gn: ∀k,made wa w' k->X' k) (hl:lo<=wa.heap.size):
  Own w' X' lo e k v rows:=(h.mono gn).low hl
theorem Own.dY (h:Own w X lo e k v rows) (c:ee F X w X' w') (hd: ∀g,v.ownBlock=some g-> ¬F g):Own w' X' lo e k v rows:=by
 obtain⟨h1,h2,h3⟩:=h;refine⟨h1,⟨h2.1,?_⟩,λg hg=>c.sub g (h3 g hg)⟩;rcases h2.2 with h|⟨g,cap,cur,rfl,hb,hg,hr⟩
 ·exact .inl h
 ·exact .inr ⟨g,cap,cur,rfl,hb,by rw[c.block g (h3 g rfl) (hd g rfl)];exact hg,hr⟩
theorem Sl.sub (h:Sl w X k v rows) (hs: ∀k,X k->k<w.heap.size->Y k):Sl w Y k v rows:=by
 obtain⟨h1,h2,base,cap,hv,hc,hr⟩:=h;exact⟨h1,h2,base,cap,hv,λcA=>let⟨b,o,hb,jm⟩:=hc cA;⟨b,o,hb,hs _ jm.1 jm.lt,jm.2⟩,hr⟩
def Sl.len (h:Sl w X k v rows):rows.length<=2^63-1:=h.2.1
theorem Sl.gR {α:Type} {enc:α->List Value} {xs:List α} (h:Sl w X k v (xs.map enc)):xs.length<=2^63-1:=by have:=h.2.1;grind
theorem Cells.sub (h:Cells w X b o l) (hs: ∀k,X k->k<w.heap.size->Y k):Cells w Y b o l:=⟨hs _ h.1 h.lt,h.2⟩
def Cells.bI (h:Cells w X b o l):Cells w (bI w) b o l:=⟨h.lt,h.2⟩
abbrev SP:=Program->(Ending->World->Prop)->XS->World->Prop
def cj (s:Sem Value) (N:Value->SP):SP:=λP R X w=>aV P X w s λv=>N v P R X w
def sw (s:Sem Next) (N:Value->SP):SP:=λP R X w=>lK P X w s λv=>N v P R X w
def pP (g:Value) (want:Bool) (s:Sem Next) (N:Value->SP):SP:=λP R X w=>lB P X w g want s λv=>N v P R X w
def Gb (e:Value) (M:Value->SP):SP:=λP R X w=>un e λv=>M v P R X w
def tc (m:Bool) (s:Sem Value) (N:Value->SP):SP:=λP R X w=>eV P R X w m s λv w X=>N v P R X w
def ZcU (m:Bool) (s:Sem Unit) (N:Value->SP):SP:=λP R X w=>eU P R X w m s λv w X=>N v P R X w
def uN (f:FuncId) (args:Array Value) (N:Value->SP):SP:=λP R X w=>eC P R X w true f args λv w X=>N v P R X w
def lQ (f:FuncId) (args:Array Value) (N:Value->SP):SP:=λP R X w=>eC P R X w false f args λv w X=>N v P R X w
def C2 (m:Bool) (f:Value) (args:Array Value) (N:Value->SP):SP:=λP R X w=>eF P R X w m f args λv w X=>N v P R X w
def Q7 (g:Value) (want:Bool) (A B:SP):SP:=λP R X w=>gE g want (A P R X w) (B P R X w)
def aR (v:Value):SP:=λ_ R X w=>fin R X w v
def mz (b:Bool) (A:SP):SP:=λP R X w=>jc b (A P R X w)
def ik (c:Value) (A B:SP):SP:=λP R X w=>me c (A P R X w) (B P R X w)
def kR (A B:SP):SP:=λP R X w=>And (A P R X w) (B P R X w)
def ZcR (R':Ending->World->Prop) (A:SP):SP:=λP _ X w=>A P R' X w
def Of (a:Value) (n:Nat) (N:Value->SP):SP:=λP R X w=>aV P X w (gz a n) λv=>N v P R X w
def j6 (t:TypeId) (x:Value) (N:Value->SP):SP:=λP R X w=>aV P X w (ld1 t x) λv=>N v P R X w
def jS (op:BinOp) (t:TypeId) (x y:Value) (N:Value->SP):SP:=λP R X w=>aV P X w (binOp op t x y) λv=>N v P R X w
def YV (op:BinOp) (t:TypeId) (n:Nat) (x c:Value) (N:Value->SP):SP:=λP R X w=>aV P X w (eB op t (.tmp n) (.const c) x c) λv=>N v P R X w
def vU (op:BinOp) (t:TypeId) (n m:Nat) (x y:Value) (N:Value->SP):SP:=λP R X w=>aV P X w (eB op t (.tmp n) (.tmp m) x y) λv=>N v P R X w
def um (S f o z:Nat) (x:Value) (N:Value->SP):SP:=λP R X w=>aV P X w (iE S f o z x) λv=>N v P R X w
def Zck (t ty:TypeId) (v:Value) (N:Value->SP):SP:=λP R X w=>aV P X w (kZ t ty v) λv=>N v P R X w
def qs (t:TypeId) (k:Nat) (v i:Value) (N:Value->SP):SP:=λP R X w=>aV P X w (kY t k v i) λv=>N v P R X w
def oF (op:BinOp) (t:TypeId) (x y:Value) (A B:SP):SP:=λP R X w=>aV P X w (binOp op t x y) λv=>me v (A P R X w) (B P R X w)
def Zic (op:BinOp) (t:TypeId) (n:Nat) (x c:Value) (A B:SP):SP:=λP R X w=>aV P X w (eB op t (.tmp n) (.const c) x c) λv=>me v (A P R X w) (B P R X w)
def tH (op:BinOp) (t:TypeId) (n m:Nat) (x y:Value) (A B:SP):SP:=λP R X w=>aV P X w (eB op t (.tmp n) (.tmp m) x y) λv=>me v (A P R X w) (B P R X w)
def xU (S f o z:Nat) (x:Value) (t:TypeId) (N:Value->SP):SP:=λP R X w=>aV P X w (iE S f o z x) λa=>aV P X w (ld1 t a) λv=>N v P R X w
def Zcn (S f o z:Nat) (x:Value) (t:TypeId) (N:Value->SP):SP:=λP R X w=>lK P X w (bu x) λy=>aV P X w (iE S f o z y) λa=>aV P X w (ld1 t a) λv=>N v P R X w
def Zcs (S f o z:Nat) (x:Value) (t:TypeId) (n:Nat) (v:Value) (A:SP):SP:=λP R X w=>aV P X w (iE S f o z x) λa=>eU P R X w true (st1 t n a v) λ_ w X=>A P R X w
def jr (S f o z:Nat) (x:Value) (t:TypeId) (n:Nat) (v:Value) (A:SP):SP:=λP R X w=>lK P X w (bu x) λy=>aV P X w (iE S f o z y) λa=>eU P R X w true (st1 t n a v) λ_ w X=>A P R X w
def pB (t:TypeId) (k:Nat) (v i:Value) (S f o z:Nat) (t':TypeId) (N:Value->SP):SP:=λP R X w=>aV P X w (kY t k v i) λx=>aV P X w (iE S f o z x) λa=>aV P X w (ld1 t' a) λv=>N v P R X w
def iW (t:TypeId) (k:Nat) (v i:Value) (t':TypeId) (N:Value->SP):SP:=λP R X w=>aV P X w (kY t k v i) λx=>aV P X w (ld1 t' x) λv=>N v P R X w
def kT (a:Value) (N:Value->Value->SP):SP:=λP R X w=>aV P X w (gz a 0) λx=>aV P X w (gz a 1) λy=>N x y P R X w
def xg (g v:Value) (s:Value->Sem Value) (N:Value->SP):SP:=λP R X w=>un (pT g true v) λu=>lB P X w g true (vS (s u)) λy=>lK P X w (iu g y (.bool false)) λv=>N v P R X w
def xV (g v:Value) (op:BinOp) (t:TypeId) (n:Nat) (c:Value) (N:Value->SP):SP:=λP R X w=>un (pT g true v) λu=>lB P X w g true (vS (eB op t (.tmp n) (.const c) u c)) λy=>lK P X w (iu g y (.bool false)) λv=>N v P R X w
def pC (g v:Value) (op:BinOp) (t:TypeId) (z:Value) (N:Value->SP):SP:=λP R X w=>un (pT g true v) λu=>lB P X w g true (vS (binOp op t u z)) λy=>lK P X w (iu g y (.bool false)) λv=>N v P R X w
def YW (g v:Value) (s:Value->Sem Value) (N:Value->SP):SP:=λP R X w=>un (pT g false v) λu=>lB P X w g false (vS (s u)) λy=>lK P X w (iu g (.bool true) y) λv=>N v P R X w
def LQ (g v:Value) (op:BinOp) (t:TypeId) (n:Nat) (c:Value) (N:Value->SP):SP:=λP R X w=>un (pT g false v) λu=>lB P X w g false (vS (eB op t (.tmp n) (.const c) u c)) λy=>lK P X w (iu g (.bool true) y) λv=>N v P R X w
def GK (g v:Value) (op:BinOp) (t:TypeId) (z:Value) (N:Value->SP):SP:=λP R X w=>un (pT g false v) λu=>lB P X w g false (vS (binOp op t u z)) λy=>lK P X w (iu g (.bool true) y) λv=>N v P R X w
def fW (y:Value) (n:Nat) (N:Value->SP):SP:=λP R X w=>un (ej (bf y)) λu=>jc (ba (dm (bf y))==n) (jc (aX (dm (bf y)) one) (N u P R X w))
def B3 (t:TypeId) (n:Nat) (x:Value) (N:Value->SP):SP:=λP R X w=>aV P X w (iw t n x) λy=>un (ej (bf y)) λu=>jc (ba (dm (bf y))==n) (jc (aX (dm (bf y)) one) (N u P R X w))
def kG (x:Value) (A B:SP):SP:=λP R X w=>aV P X w (Op.unary UnOp.not x) λv=>me v (A P R X w) (B P R X w)
def ail (g:Value) (want:Bool) (f:FuncId) (args:Array Value) (k:Value->SP):SP:=λP R X w=>gE g want (eC P R X w true f args λv w X=>k v P R X w) (k undef P R X w)
def uo (l:Array Value):SP:=λ_ R X w=>fin R X w (.tuple l)
def lG (r:SP) (B:(SP)->SP):SP:=λP R X w=>jn (α:=World->XS->Prop) (λw X=>r P R X w) λc=>B (λ_ _ X w=>c w X) P R X w
def nF (r:Value->SP) (B:(Value->SP)->SP):SP:=λP R X w=>jn (α:=Value->World->XS->Prop) (λv0 w X=>r v0 P R X w) λc=>B (λv0 _ _ X w=>c v0 w X) P R X w
def tN (r:Value->SP) (B:(Value->SP)->SP):SP:=λP R X w=>jn (α:=Value->Prop) (λv0=>r v0 P R X w) λc=>B (λv0 _ _ _ _=>c v0) P R X w
def YX (r:Value->Value->SP) (B:(Value->Value->SP)->SP):SP:=λP R X w=>jn (α:=Value->Value->World->XS->Prop) (λv0 v1 w X=>r v0 v1 P R X w) λc=>B (λv0 v1 _ _ X w=>c v0 v1 w X) P R X w
def V8 (r:Value->Value->SP) (B:(Value->Value->SP)->SP):SP:=λP R X w=>jn (α:=Value->Value->Prop) (λv0 v1=>r v0 v1 P R X w) λc=>B (λv0 v1 _ _ _ _=>c v0 v1) P R X w
def sB (v0:Value) (c0:Nat) (F:(Value->SP)->Value->SP):SP:=λP R X w=>Hh X w v0 c0 λJ n e0 w X=>F (λa0 _ _ X w=>Et J n a0 w X) e0 P R X w
def rM (v0 v1:Value) (c0 c1:Nat) (F:(Value->Value->SP)->Value->Value->SP):SP:=λP R X w=>Hi X w v0 v1 c0 c1 λJ n e0 e1 w X=>F (λa0 a1 _ _ X w=>Eu J n a0 a1 w X) e0 e1 P R X w
def GN (v0 v1 v2:Value) (c0 c1 c2:Nat) (F:(Value->Value->Value->SP)->Value->Value->Value->SP):SP:=λP R X w=>Hj X w v0 v1 v2 c0 c1 c2 λJ n e0 e1 e2 w X=>F (λa0 a1 a2 _ _ X w=>Hm J n a0 a1 a2 w X) e0 e1 e2 P R X w
def aim (v0 v1 v2 v3:Value) (c0 c1 c2 c3:Nat) (F:(Value->Value->Value->Value->SP)->Value->Value->Value->Value->SP):SP:=λP R X w=>Hk X w v0 v1 v2 v3 c0 c1 c2 c3 λJ n e0 e1 e2 e3 w X=>F (λa0 a1 a2 a3 _ _ X w=>Hn J n a0 a1 a2 a3 w X) e0 e1 e2 e3 P R X w
def ain (v0 v1 v2 v3 v4:Value) (c0 c1 c2 c3 c4:Nat) (F:(Value->Value->Value->Value->Value->SP)->Value->Value->Value->Value->Value->SP):SP:=λP R X w=>Hl X w v0 v1 v2 v3 v4 c0 c1 c2 c3 c4 λJ n e0 e1 e2 e3 e4 w X=>F (λa0 a1 a2 a3 a4 _ _ X w=>Ho J n a0 a1 a2 a3 a4 w X) e0 e1 e2 e3 e4 P R X w
def nG (l:List Value) (k:Nat) (y:Value) (n:Nat) (N:Value->SP):SP:=λP R X w=>un (ej (List.toArray (bO l k (dm (bf y))))) λu=>jc (ba (dm (bf y))==n) (jc (aX (dm (bf y)) one) (N u P R X w))
def bg:=λa=>Value.float .f64 a
def ae:=I 0
def nQ:=λa b c d=>pP a b (vS c) d
def Zq3:=λa b c d=>Gb (pT a b c) d
def l7:=λa b c d e (f:Value->Value->SP)=>sw a λx=>um b c d e x (f x)
def dy:=I 1
def ja:=λa b c=>Gb (cellOf a b) c
def dx:=B false
def Zq8:=λa b=>Value.slice none a b
def pQ:=λa b c d=>jS .add a b c d
def gC:=λa b c d e (f:Value->Sem Value) (g:Value->Value->SP)=>nQ a b c λx=>nQ d e (f x) (g x)
def cE:=λa b=>mz (dI a) b
def iH:=λa b c d=>sw (iu a b c) d
def lH:=λa b c d e f=>Zic .eql a b c d e f
def kg:=λa b c d e (f:Value->Value->SP)=>iH a b c λx=>Zq3 x d e (f x)
def bA:=λa b c=>uN a #[b] c
def l8:=λa b c d e=>iH a b c λx=>ik x d e
def B4:=λa b c d=>Gb (yg a b c) d
def SE:=λa b c d e=>oF .lss a b c d e
def gD:=λa b c d=>cj (rF a b c) d
def dH:=λa b c d e f=>Zcn a b c 1 d e f
def cX:=λa b=>tc true a b
def rN:=λa b c d (e:Value->Value->SP)=>ja a b λx=>ja c d (e x)
def cG:=λa b c d=>uN a #[b,c] d
def aio:=λa b c=>pQ a b dy c
def du:=B true
def jG:=λa b c d e f g (h:Value->Value->Value->SP)=>l7 a b c d e λx y=>cG f g y (h x y)
def cT:=λa b c=>Zq3 a true b c
def aip:=λa=>Zq8 0 a
def bz:=aip 0
def cU:=λa b c=>Zck a 3 b c
def fR:=λa b c=>Zq3 a false b c
def GO:=λa b c d e f (g:Value->Value->SP)=>qs a b c d λx=>B3 e f x (g x)
def qJ:=λa b c d (e:Value->SP)=>B4 a b c λx=>mz d (e x)
def nW:=λa b c d e=>nF a (ail b c d e)
def cH:=λa b=>aio 3 a b
def IL:=λa b c d (e:Value->(Value->SP)->Value->SP)=>cU a b λx=>sB c d (e x)
def fz:=λa b c d=>SE 3 a b c d
def eZ:=λa b=>ZcU true a b
def qe:=λa b c d e=>lH 3 a b c d e
def aiq:=λa b c d e=>dH a 0 b c d e
def dG:=λa b c d=>aiq a 0 b c d
def fE:=λa b=>uo #[a,b]
def vz:=λa b c d e f=>eB a b c (.const d) e f
def ky:=λa b c d=>cK a b (.string c) d
def oL:=λa b (c:Value->Value->SP)=>sw a λx=>j6 b x (c x)
def iI:=λa b c d e f=>Zic .neq a b c d e f
def fS:=Value.pointer none
def jY:=λa b c d e f g h i=>qe a b c d (qe e f g h i)
def fT:=uo #[]
def qf:=λa (b:Value->Sem Value) (c:Value->Value->SP)=>cX a λx=>cX (b x) (c x)
def qg:=λa b c d e f g h i j k=>gC a b c d e (λx=>vz f g h i x j) k
def sC:=λa b (c:Value->Sem Value) (d:Value->Value->SP) e f g h=>nW (λx=>nQ a b (c x) (d x)) e f g h
def qK:=λa b c d (e:Value->Value->Value->SP) f g h i=>nW (λx=>kg a x b c d (e x)) f g h i
def vA:=aN { data:= #[] }
def gI:=λa=>dm (bf a)
def jh:=λa b c d e=>YV .eql a b c d e
def nY:=λa b c d e f (g:Value->Value->SP)=>GO a b c d e f λx y=>cE y (g x y)
def fj:=λa b c=>B4 a 0 b c
def gP:=λa b c=>gD a b #[] c
def nZ:=λa b c d (e:Value->(Value->SP)->Value->SP) f=>IL a b c d λx y z=>fz z x (e x y z) f
def gT:=aR dx
def rO:=λa b c d e (f:Value->Sem Value) g h i (j:Value->Value->Value->SP)=>nQ a b c λx=>gC d e (f x) g h i (j x)
def fU:=λa b c d=>jS a 3 b c d
def ia:=λa=>az IntKind.u64 a
def gg:=λa b c d e=>dH a 1 b c d e
def fX:=λa b c d e=>uN a #[b,c,d] e
def uq:=λa b c (d:Value->Value->Value->SP)=>cG a b c λx=>kT x (d x)
def qL:=λa b c d e f (g:Value->(Value->Value->SP)->Value->Value->SP)=>cU a b λx=>rM c d e f (g x)
def kz:=λa b=>Gb (.agg a) b
def vB:=λa b (c:Value->Sem Value) (d:Value->Value->SP)=>bA a b λx=>cj (c x) (d x)
def vC:=λa b c d e=>qJ a b c d λx=>fE x e
def sD:=λa b c d e f g h (i:Value->Value->Value->Value->SP)=>rN a b c d λx y=>rN e f g h (i x y)
def air:=λa b c d e=>eB a b (.tmp c) d e
def kU:=λa b c d e=>air a b c (.tmp d) e
def jN:=λa b=>bA 236 a b
def wy:=λa b c d (e:Value->Value->SP)=>fR a b λx=>fR c d (e x)
def wz:=λa b c d e f g h i j k=>sC a b c (λx y=>l8 d e y f g) h i j k
theorem cz {p q:Prop} (h:q) (e:p=q:=by dsimp only [bg,ae,nQ,Zq3,l7,dy,ja,dx,Zq8,pQ,gC,cE,iH,lH,kg,bA,l8,B4,SE,gD,dH,cX,rN,cG,aio,du,jG,cT,aip,bz,cU,fR,GO,qJ,nW,cH,IL,fz,eZ,qe,aiq,dG,fE,vz,ky,oL,iI,fS,jY,fT,qf,qg,sC,qK,vA,gI,jh,nY,fj,gP,nZ,gT,rO,fU,ia,gg,fX,uq,qL,kz,vB,vC,sD,air,kU,jN,wy,wz,nG,cj,sw,pP,Gb,tc,ZcU,uN,C2,Q7,aR,mz,ik,kR,ZcR,Of,j6,jS,YV,vU,um,Zck,qs,lQ,oF,Zic,tH,xU,Zcn,Zcs,jr,pB,iW,kT,uo,xg,xV,pC,YW,LQ,GK,fW,B3,kG,ail,lG,nF,tN,YX,V8,sB,rM,GN,aim,ain];try exact rfl):p:=e.symm▸h
variable {R : Ending -> World -> Prop} {w : World} {P : Program}
theorem asa {fn:Func} (hf:P.funcs[f]? =some fn) (pl:gx) {V:Prop} (h:V)
  (hs:(decide (args.size<=pl.n)&&pl.boxes.all λp=>decide (args.size<=p.1))=true:=by kernel_rfl) (hv:V=OB P (cF P pl fn) R args w:=by kernel_rfl):Calls P f args w R:=
 Gq hf hs hv h
variable {P : Program} {R : Ending -> World -> Prop} {X Y Z : XS} {w w' mq : World} {m : Bool} {N : Value -> Prop} {α : Type}
def Mv (X:XS) (w:World) (Y:XS) (w':World):Prop:= ∀k,X k->k<w.heap.size->Y k/\w'.heap[k]? =w.heap[k]?
theorem Mv.trans (a:Mv X w Y w') (b:Mv Y w' Z mq):Mv X w Z mq:=λk hk hl=>by
 obtain⟨h1,h2⟩:=a k hk hl;have AP:k<w'.heap.size:=by
  have:w'.heap[k]? =some w.heap[k]:=by rw[h2];exact Array.getElem?_eq_getElem hl
  exact(Array.getElem?_eq_some_iff.1 this).1
 obtain⟨h3,h4⟩:=b k h1 AP
 grind
def ai.mv (h:ai X w Y w'):Mv X w Y w':=λk hk _=>⟨h.sub k hk,h.kp.block k hk⟩
def _root_.Go.aK.Kp.mv (h:Kp X w w'):Mv X w X w':=λk hk _=>⟨hk,h.block k hk⟩
def Mv.bI:Mv X w (bI w) w:=λ_ _ hl=>⟨hl,rfl⟩
def _root_.Go.aK.Kp.bY (h:Kp X w w'):Mv X w (bI w') w':=h.mv.trans Mv.bI
def Mv.out (h: ∀k,X k-> ¬F k):Mv X w (aK.out F w) w:=λk hk hl=>⟨⟨hl,h k hk⟩,rfl⟩
theorem Mv.sub (h: ∀k,X k->Y k):Mv X w Y w:=λk hk _=>⟨h k hk,rfl⟩
def Ext.mv (h:Ext w w'):Mv (aK.bI w) w (aK.bI w') w':=λ_ _ hl=>⟨aw hl h.size,h.block hl⟩
def ee.mv {A:XS} (c:ee F X w Y w') (h: ∀k,A k->X k/\ ¬F k):Mv A w Y w':=λk hk _=>⟨c.sub k (h k hk).1,c.block k (h k hk).1 (h k hk).2⟩
theorem Cells.mv (h:Cells w X b o l) (v:Mv X w Y w'):Cells w' Y b o l:=by
 have hl:=h.lt;obtain⟨hx,cs,t,fr,hb,hc⟩:=h;obtain⟨h1,h2⟩:=v b hx hl;exact⟨h1,cs,t,fr,by grind,hc⟩
theorem Sl.mv (h:Sl w X k v rows) (m:Mv X w Y w'):Sl w' Y k v rows:=by
 obtain⟨h1,h2,base,cap,hv,hc,hr⟩:=h;exact⟨h1,h2,base,cap,hv,λcA=>let⟨b,o,hb,jm⟩:=hc cA;⟨b,o,hb,jm.mv m⟩,hr⟩
def Sl.form (h:Sl w X k v rows): ∃b n c,v= .slice b n c:=let⟨_,_,b,c,hv,_⟩:=h;⟨b,_,c,hv⟩
variable {cs : List Value}
theorem aG.mv (h:aG w X b cs ty) (m:Mv X w Y w'):aG w' Y b cs ty:=by
 obtain⟨h1,h2⟩:=m b h.1 (Array.getElem?_eq_some_iff.1 h.2).1;exact⟨h1,by rw[h2];exact h.2⟩
theorem ml.mv {κ:Type} {kv:κ->Value} {es:List (jo κ)} (h:ml w X b kv es c) (m:Mv X w Y w'):ml w' Y b kv es c:=by
 obtain⟨h1,h2⟩:=m b h.1 (Array.getElem?_eq_some_iff.1 h.2.1).1;exact⟨h1,by rw[h2];exact h.2.1,h.2.2⟩
theorem Own.mv (h:Own w X lo e k v rows) (m:Mv X w Y w'):Own w' Y lo e k v rows:=by
 obtain⟨h1,h2,h3⟩:=h;refine⟨h1,⟨h2.1,?_⟩,λg hg=>(m g (h3 g hg) (h2.lt g hg).2).1⟩;rcases h2.2 with h|⟨g,cap,cur,rfl,hb,hg,hr⟩
 ·exact .inl h
 ·exact .inr ⟨g,cap,cur,rfl,hb,by rw[(m g (h3 g rfl) (Array.getElem?_eq_some_iff.1 hg).1).2];exact hg,hr⟩
def fp (w:World) (X:XS) (k:Nat) (v:Value) (rd:World->XS->List Value->α->Prop) (xs:List α):Prop:=
 ∃rows,Sl w X k v rows/\rows.length=xs.length/\ ∀(i:Nat) l x,rows[i]? =some l->xs[i]? =some x->rd w X l x
def FZ (rd:World->XS->List Value->α->Prop):Prop:= ∀{X Y:XS} {w w':World} {l:List Value} {x:α},rd w X l x->Mv X w Y w'->rd w' Y l x
theorem fp.mv {rd:World->XS->List Value->α->Prop} {xs:List α} (h:fp w X k v rd xs) (hm:FZ rd) (m:Mv X w Y w'):fp w' Y k v rd xs:=by
 obtain⟨rows,h1,h2,h3⟩:=h;exact⟨rows,h1.mv m,h2,λi l x hl hx=>hm (h3 i l x hl hx) m⟩
theorem fp.nil {rd:World->XS->List Value->α->Prop} (w:World) (X:XS) (k:Nat):fp w X k (.slice none 0 0) rd []:=⟨[],Sl.nil w X k,rfl,by simp⟩
theorem fp.one {rd:World->XS->List Value->α->Prop} {xs:List α} (h:fp w X k v rd xs):one v=true:=let⟨_,h1,_⟩:=h;h1.one
theorem fp.len {rd:World->XS->List Value->α->Prop} {xs:List α} (h:fp w X k v rd xs):xs.length<=2^63-1:=by
 obtain⟨_,h1,h2,_⟩:=h;rw[<-h2];exact h1.2.1
theorem Mv.refl (X:XS) (w:World):Mv X w X w:=λ_ hk _=>⟨hk,rfl⟩
def mv0:Mv X w X w:=Mv.refl _ _
def mv1 (h:ai X w Y w'):Mv X w Y w':=h.mv
theorem nq1:l.toArray.toList=l:=rfl
theorem nq2:(a::l).take (i+1)=a::l.take i:=rfl
theorem nq3:(a::l).drop (i+1)=l.drop i:=rfl
theorem nq4:l.take 0=[]:=rfl
theorem nq5:l.drop 0=l:=rfl
theorem nq6:([]:List Value).take i=[]:=List.take_nil
theorem nq7:(a::l).length=l.length+1:=rfl
theorem nq8:([]:List Value).length=0:=rfl
theorem nq9 {m:List Value} :a::l++m=a::(l++m):=rfl
theorem nq0:[]++l=l:=rfl
def mv2 (h:ai X w Y w') (h':ai Y w' Z mq):Mv X w Z mq:=(h.trans h').mv
variable {fo : Nat}
theorem Cells.V9 (h:Cells w X b o l) (hl:l[fo]? =some v):Cells w X b (o+fo) [v]:=by
 have hp:=h.part fo 1;have:(l.drop fo).take 1=[v]:=by
  obtain⟨cD,rfl⟩:=List.getElem?_eq_some_iff.1 hl;rw[kL cD,List.take_succ_cons,List.take_zero]
 grind
variable {l' : List Value} {S : Nat} {z : Int}
def aoQ {f sz:Nat} (h:Cells w0 X0 b o l) (hf:fieldInfo P S f=some (fo,sz)) (hz:(sz !=0)=true) (hl:(l.drop fo).take sz=l')
  (k: ∀o',o'=o+fo->Cells w0 X0 b o' l'->N (ptr b o')):aV P X w (iE S f fo sz (ptr b o)) N:=
 GH hf gQ (k _ rfl (hl▸h.part fo sz))
def Q8 {f:Nat} (h:Cells w0 X0 b o l) (hf:fieldInfo P S f=some (fo,1)) (hl:l[fo]? =some v)
  (k: ∀o',o'=o+fo->Cells w0 X0 b o' [v]->N (ptr b o')):aV P X w (iE S f fo 1 (ptr b o)) N:=
 GH hf zQ (k _ rfl (h.V9 hl))
def aef (h:Cells w0 X0 b o l) (m:Mv X0 w0 X w) (hi:kM P t=some (false,1)) (hl:l[0]? =some v) (k:N v):
  aV P X w (ld1 t (ptr b o)) N:=aoO (h.mv m) hi hl k
def acJ (h:Cells w0 X0 b o l) (m:Mv X0 w0 X w) (hi:kM P t=some (true,n)) (hn:l.length=n) (k:N (.agg l.toArray)):
  aV P X w (iw t n (ptr b o)) N:=afT (h.mv m) hi hn k
theorem aoR {enc:α->List Value} {xs:List α} (h:Sl w0 X0 k v (xs.map enc))
  (ht:P.underlying t=some (.slice (P.elem t))) (n:N (.int .i64 xs.length)):aV P X w (kZ t ty v) N:=by
 obtain⟨_,_,base,cap,rfl,_⟩:=h;exact bF (λwa=>run_len_slice wa t ty base _ cap ht) (by rw[List.length_map];exact n)
theorem aoS {rd:World->XS->List Value->α->Prop} {xs:List α} (h:fp w0 X0 k v rd xs)
  (ht:P.underlying t=some (.slice (P.elem t))) (n:N (.int .i64 xs.length)):aV P X w (kZ t ty v) N:=by
 obtain⟨rows,⟨_,_,base,cap,rfl,_⟩,h2,_⟩:=h;exact bF (λwa=>run_len_slice wa t ty base _ cap ht) (by rw[h2];exact n)
theorem Q9 {r:List Value} (h:Sl w0 X0 k v rows) (hr:rows[i]? =some r) (hz:z=i)
  (ht:P.underlying t=some (.slice (P.elem t))) (hs:(P.info? (P.elem t)).map (·.size)=some k)
  (n: ∀b o,Cells w0 X0 b o r->N (ptr b o)):aV P X w (yV t v (.int .i64 z)) N:=by
 obtain⟨h1,_,base,cap,rfl,hc,_⟩:=h;have hi:i<rows.length:=(List.getElem?_eq_some_iff.1 hr).1;obtain⟨b,o,rfl,jm⟩:=hc gQ;have hp:=jm.part (i*k) k;rw[LN h1 hr] at hp;refine bF (λwa=>?_) (n b (o+i*k) hp);subst hz;rw[run_indexAt_slice (h:=ht),if_pos zQ];cases hq:P.info? (P.elem t)with
 |none=>grind
 |some inf=>
  have:inf.size=k:=by simpa [hq] using hs
  simp[sizeOf,typeInfo,hq,this,zM]
def ajG {enc:α->List Value} {xs:List α} {x:α} (h:Sl w0 X0 k v (xs.map enc)) (hr:xs[i]? =some x)
  (hz:z=i) (ht:P.underlying t=some (.slice (P.elem t))) (hs:(P.info? (P.elem t)).map (·.size)=some k)
  (n: ∀b o,Cells w0 X0 b o (enc x)->N (ptr b o)):aV P X w (kY t k v (.int .i64 z)) N:=
 Q9 h (i:=i) gQ hz ht hs n
theorem FH {rd:World->XS->List Value->α->Prop} {xs:List α} {x:α} (h:fp w0 X0 k v rd xs) (hr:xs[i]? =some x)
  (hz:z=i) (ht:P.underlying t=some (.slice (P.elem t))) (hs:(P.info? (P.elem t)).map (·.size)=some k)
  (n: ∀b o l,Cells w0 X0 b o l->rd w0 X0 l x->N (ptr b o)):aV P X w (kY t k v (.int .i64 z)) N:=by
 obtain⟨rows,h1,h2,h3⟩:=h;have hi:i<rows.length:=by rw[h2];exact(List.getElem?_eq_some_iff.1 hr).1
 have hl:rows[i]? =some rows[i]:=aZ hi;exact Q9 h1 hl hz ht hs λb o hc=>n b o _ hc (h3 i _ _ hl hr)
theorem anh (h:Sl w0 X0 k v rows) (ht:P.underlying t=some (.slice (P.elem t)))
  (hT:v= .slice none 0 0->rows=[]->N (.bool true)) (hF:N (.bool false)):aV P X w (eB .eql t xo yo v (.slice none 0 0)) N:=by
 rcases h.src with⟨rfl,hr⟩|⟨a,cap,rfl,_⟩
 ·exact YS ht (hT rfl hr)
 ·exact YS ht hF
def MS {xs:List α} (h:i<xs.length): ∃x,xs[i]? =some x/\xs.drop i=x::xs.drop (i+1):=
 ⟨xs[i],aZ h,kL h⟩
theorem dE (xs:List α) (i:Nat):(i<xs.length/\ ∃x,xs[i]? =some x/\xs.drop i=x::xs.drop (i+1))\/(xs.length<=i/\xs.drop i=[]):=by
 rcases Nat.lt_or_ge i xs.length with h|h
 ·simp_all
 simp_all
def aoT (hl:(l.drop o).take n=l') (k:M (.agg l'.toArray)):un (yg (.agg l.toArray) o n) M:=
 afY (hl▸k)
theorem aoU (hl:bO l o cs=l') (k:M (.agg l'.toArray)):
  un (ej (List.toArray (bO l o cs))) M:=by subst hl;exact k
theorem J7 (h:one v=true) (k:l.all one=true):(v::l).all one=true:=by simp[h,k]
def Nx:aX ([]:List Value) one=true:=rfl
def ani (h:l.all one=true) (k:A):jc (aX (dm (bf (.agg l.toArray))) one) A:=ad7 h k
def anj (h:l.all one=true) (k:A):jc (aX l one) A:=ad7 h k
def ajr (hi:l[i]? =some v) (h:N v):aV P X w (gz (.tuple l.toArray) i) N:=NG gQ h
theorem Ht {b:Bool} {N:Value->World->XS->Prop}
  (h:Ct P f args w X nX λv _ _=>v= .bool b) (hf:enters P f=true) (hX: ∀k,X k->k<w.heap.size)
  (hT:b=true-> ∀w' X',ai X w X' w'->N (.bool true) w' X') (hF:b=false-> ∀w' X',ai X w X' w'->N (.bool false) w' X'):eC P R X w m f args N:=by
 refine cd h hf hX λv wa w' X' hv _ _ hs=>?_;subst hv;cases b
 ·grind
 grind
theorem dL {u:Value} {N:Value->World->XS->Prop}
  (h:Ct P f args w X nX λv _ _=>v=u) (hf:enters P f=true) (hX: ∀k,X k->k<w.heap.size)
  (k: ∀w' X',ai X w X' w'->N u w' X'):eC P R X w m f args N:=by
 refine cd h hf hX λv wa w' X' hv _ _ hs=>?_
 grind
theorem ank {N:Value->World->XS->Prop}
  (h:Ct P f args w X nX λv _ _=> ∃n:Int,v= .int .i64 n) (hf:enters P f=true) (hX: ∀k,X k->k<w.heap.size)
  (k: ∀(n:Int) w' X',ai X w X' w'->N (.int .i64 n) w' X'):eC P R X w m f args N:=by
 refine cd h hf hX λv wa w' X' hv _ _ hs=>?_
 grind
theorem aoV {a b:Int} (h:N (.int .i64 (min a b))):aV P X w (jX #[t,t] ty #[.int .i64 a,.int .i64 b]) N:=
 bF (λwa=>by
  simp only[jX,List.foldlM];by_cases hc:b<a
  ·have:min a b=b:=by omega
   simp[Fe,hc,this]
  ·have:min a b=a:=by omega
   simp[Fe,hc,this]) h
variable {q : IntKind} {dst src : TypeId}
theorem aeg {k:IntKind} {n:Int} (hs:(P.underlying src).isSome=true) (hd:P.underlying dst=some (.int k))
  (h:N (.int k (k.wrap n))):aV P X w (o9 k src dst (.int q n)) N:=bF (λwa=>by
   have e:P.intKind dst=k:=by simp[Program.intKind,hd]
   have:=run_convert_int (P:=P) wa src dst q n hs gQ;rw[e] at this;exact this) h
def aoW {n:Int} (hs:(P.underlying src).isSome=true) (hd:P.underlying dst=some (.float .f64))
  (h:N (.float .f64 (floatOfInt .f64 n))):aV P X w (Hg src dst (.int q n)) N:=bF (λwa=>run_convert_int_float wa src dst q .f64 n hs hd) h
theorem aoX {e:TypeId} (ht:P.underlying t=some (.array n e)) (he:kM P e=some (false,1)) (hz:z=i) (hn:i<n) (hl:l[i]? =some v)
  (k:N v):aV P X w (Dz t n e (.agg l.toArray) (.int .i64 z)) N:=by
 subst hz;unfold kM at he;split at he
 ·rename_i d q hu Dy;simp only[aj,cV] at he;refine bF (v:=v) (λwa=>?_) k;have BP:(isAgg e).run P wa= .ok false wa:=by cases d<;>simp_all [isAgg,run_underlying hu]
  simp[Dz,Bd,asIntOf,run_underlying ht,hn,sizeOf,typeInfo,Dy,he.2,part,BP,hl]
 ·cases he
def aoY {op:BinOp} {x y:Nat} (h:floatBits op .f64 x y=some r) (k:N (.float .f64 r)):aV P X w (binOp op t (.float .f64 x) (.float .f64 y)) N:=
 bF (λwa=>run_float_arith wa op t .f64 x y r h) k
theorem K6 (s:ByteArray):s.size=s.data.toList.length:=by rfl
theorem aoZ {s:ByteArray} {b:UInt8} (hb:s.data.toList[i]? =some b) (hz:z=i) (ht:P.underlying t=some .string) (k:N (.int .u8 b.toNat)):
  aV P X w (Bd t (.string s) (.int .i64 z)) N:=by
 subst hz;have hi:i<s.data.toList.length:=(List.getElem?_eq_some_iff.1 hb).1;have Dy:i<s.size:=by rw[K6];exact hi
 refine bF (v:=.int .u8 b.toNat) (λwa=>?_) k;rw[run_index_string wa t s .i64 i ht,dif_pos zQ];have:s[i]=b:=by
  have h2:s.data.toList[i]=b:=(List.getElem?_eq_some_iff.1 hb).2;rw[<-h2];rfl
 simp[this]
theorem YY (f:Ieee.Format) (s:Bool) (m:Nat) (p:Int):(f.read (f.nearest s m p)).isNaN=false:=by
 have hle: ∃r,f.nearest s m p=f.word s r/\r<=f.infRung:=by
  unfold Ieee.Format.nearest;split
  ·grind
  ·exact⟨_,rfl,Nat.min_le_right _ _⟩
 obtain⟨r,hr,hle⟩:=hle;have cD:=f.infRung_lt;have hm:f.word s r % f.signWeight=r:=by
  unfold Ieee.Format.word;split
  ·rw[Nat.add_mod_left,fy zQ]
  ·rw[fy zQ]
 rw[hr];unfold Ieee.Format.read;simp only[hm];split
 ·rfl
 ·split
  ·rfl
  ·split
   ·rfl
   ·omega
def chain (p:α->Bool) (r:α->α->Bool):Option α->List α->Bool
 |_,[]=>true
 |none,x::l=>p x&&chain p r (some x) l
 |some y,x::l=>p x&&r y x&&chain p r (some x) l
def uu (xs:List α) (i:Nat):Option α:=if i=0 then none else xs[i-1]?
theorem rj {xs:List α} {x:α} (h:xs[i]? =some x):uu xs (i+1)=some x:=by assumption
theorem MW {xs:List α} (h:i<xs.length):(i=0/\uu xs i=none)\/(0<i/\ ∃y,xs[i-1]? =some y/\uu xs i=some y):=by
 by_cases h0:i=0
 ·grind [uu]
 ·have:xs[i-1]? =some xs[i-1]:=aZ zQ
  grind [uu]
variable {P : Program} {R : Ending -> World -> Prop} {X : XS} {w : World} {m : Bool}
theorem foldl_set (l:List Value): ∀(n:Nat) (cs:Array Value),n+l.length<=cs.size->
  ((l.zipIdx n).foldl (λ(cs:Array Value) (p:Value×Nat)=>cs.setIfInBounds p.2 p.1) cs).toList=cs.toList.take n++l++cs.toList.drop (n+l.length):=by
 induction l with
 |nil=>intro n cs h;simp
 |cons x r ih=>
  intro n cs h;simp only[aL] at h;simp only[List.zipIdx_cons,List.foldl_cons];rw[ih (n+1) _ oQ];have hn:n<cs.toList.length:=by simp;omega
  simp only[Array.toList_setIfInBounds,aL];rw[List.take_set,List.drop_set_of_lt zQ];have:(cs.toList.take (n+1)).set n x=cs.toList.take n++[x]:=by
   rw[List.take_add_one,aZ hn];simp only[Option.toList_some];rw[List.set_append_right _ _ oQ];have hm:(cs.toList.take n).length=n:=by rw[List.length_take];omega
   rw[hm,Nat.sub_self,List.set_cons_zero]
  rw[this];simp only[List.append_assoc,List.cons_append,cI]
  grind
variable {x : Value}
theorem Ff {cs:Array Value} (hx:x.cells.size=k) (hc:cs.size=k):
  ru (λi=>some (i*k,k)) cs [(0,x)]=some x.cells:=by
 unfold ru;simp only[Nat.zero_mul,fg,hx,ne_eq,not_true_eq_false,decide_false,hc,Nat.lt_irrefl,gt_iff_lt,Bool.or_self,aU,if_false];unfold ru;simp only[aj];apply Array.ext';have:=foldl_set x.cells.toList 0 cs oQ;rw[<-Array.toList_zipIdx,Array.foldl_toList] at this;simp_all
def fc (v:Value):XS:=λg=>v.ownBlock=some g
def nH (P:Program) (t e k bytes:Nat):Bool:=match P.underlying t,P.info? e with
 |some (.slice e'),some i=>e'==e&&i.size==k&&i.bytes==bytes&&(match i.zero with|some z=>z.cells.size==k|none=>false)&&decide (0<k)&&decide (k<=2^20)
 |_,_=>false
variable {bytes : Nat}
theorem mn {t:Nat} (h:nH P t e k bytes=true):P.underlying t=some (.slice e)/\0<k/\k<=2^20/\
  ∃z:Value,(P.info? e).bind (λi=>i.zero.map λz=>(i.size,i.bytes,z))=some (k,bytes,z)/\(P.info? e).bind (λi=>i.zero.map λz=>(i.size,z))=some (k,z)/\z.cells.size=k:=by
 unfold nH at h;split at h
 ·rename_i e' i hu hi;simp only[aB,beq_iff_eq,decide_eq_true_eq] at h;obtain⟨⟨⟨⟨⟨rfl,h2⟩,h3⟩,h4⟩,h5⟩,h6⟩:=h;cases hz:i.zero with
  |none=>grind
  |some z=>
   simp_all
 ·cases h
section
variable {t ty : Nat} {s : Value} {dw : List (List Value)} {row : List Value} {N : Value -> World -> XS -> Prop}
theorem afZ (own:Own w X w0.heap.size e k v rows) (hs:ai X0 w0 X w) (h0: ∀k,X0 k->k<w0.heap.size) (he:nH P t e k bytes=true) (hx:x.cells.toList=row) (hk:(row.length==k)=true)
  (h1:row.all one=true) (hb:(rows.length+1)*bytes<=140737488355328) (hl:rows.length+1<=2^63-1)
  (n: ∀v' w' X',ai X0 w0 X' w'->Own w' X' w0.heap.size e k v' (rows++[row])->ee (fc v) X w X' w'->(v'.ownBlock=v.ownBlock\/ ∃g,v'.ownBlock=some g/\w.heap.size<=g)->N v' w' X'):
  eV P R X w m (gO t e k 1 #[(0,x)]) λs w1 X1=>eV P R X1 w1 true (ga t e k bytes ty v s) N:=by
 obtain⟨hu,ix,E6,z,hi,hz,xe⟩:=mn he;have ah:row.length=k:=by simpa using hk
 have Jy:x.cells.size=k:=by rw[<-ah,<-hx,fB]
 refine B0 (rows:=[row]) x.cells z hs.has hu hz zQ zQ ?_ (by simpa using ah) rfl gQ λs w1 X1 ax FN=>?_
 ·simp only[Bc];exact Ff Jy sQ
 ·have gw:w0.heap.size<=w1.heap.size:=ad hs.kp.size ax.kp.size;refine C1 (dw:=[row]) z hu hi xe ix ax.has gw (own.since ax) FN.sl (by simpa using h1) zQ zQ λv2 w2 X2 hg ho dF=>?_;have hd: ∀g,v.ownBlock=some g->w0.heap.size<=g:=λg hg=>(own.ge hg).1;refine n v2 w2 X2 ((hs.trans ax).grown hg λg hg0 he=>?_) ho ?_ ?_
  ·have:=hd g he.symm;have:=h0 g hg0;omega
  ·exact(ee.nA ax (fc v)).trans (hg.dY.mono λk _ hk=>hk.symm)
  ·rcases dF with h|⟨g,h,dD⟩
   ·exact .inl h
   ·exact .inr ⟨g,h,ad ax.kp.size dD⟩
def abU (own:Own w X w0.heap.size e k v rows) (hs:ai X0 w0 X w) (h0: ∀k,X0 k->k<w0.heap.size) (he:nH P t e k bytes=true) (hk:(l.length==k)=true)
  (h1:l.all one=true) (hb:(rows.length+1)*bytes<=140737488355328) (hl:rows.length+1<=2^63-1)
  (n: ∀v' w' X',ai X0 w0 X' w'->Own w' X' w0.heap.size e k v' (rows++[l])->ee (fc v) X w X' w'->(v'.ownBlock=v.ownBlock\/ ∃g,v'.ownBlock=some g/\w.heap.size<=g)->N v' w' X'):
  eV P R X w m (gO t e k 1 #[(0,.agg l.toArray)]) λs w1 X1=>eV P R X1 w1 true (ga t e k bytes ty v s) N:=afZ own hs h0 he rfl hk h1 hb hl n
theorem MI (own:Own w X w0.heap.size e k v rows) (hs:ai X0 w0 X w) (h0: ∀k,X0 k->k<w0.heap.size) (he:nH P t e k bytes=true) (hk:(k==1)=true)
  (ho:one x=true) (hb:(rows.length+1)*bytes<=140737488355328) (hl:rows.length+1<=2^63-1)
  (n: ∀v' w' X',ai X0 w0 X' w'->Own w' X' w0.heap.size e k v' (rows++[[x]])->ee (fc v) X w X' w'->(v'.ownBlock=v.ownBlock\/ ∃g,v'.ownBlock=some g/\w.heap.size<=g)->N v' w' X'):
  eV P R X w m (gO t e k 1 #[(0,x)]) λs w1 X1=>eV P R X1 w1 true (ga t e k bytes ty v s) N:=by
 refine afZ (row:=[x]) own hs h0 he ?_ (by simpa using (beq_iff_eq.1 hk).symm) (by simpa using ho) hb hl n;cases x<;>first|rfl|cases ho
theorem qj (own:Own w X w0.heap.size e k v rows) (hs:ai X0 w0 X w) (h0: ∀k,X0 k->k<w0.heap.size) (he:nH P t e k bytes=true) (src:Sl w X k s dw) (h1: ∀r∈dw,∀u∈r,one u=true)
  (hb:(rows.length+dw.length)*bytes<=140737488355328) (hl:rows.length+dw.length<=2^63-1)
  (n: ∀v' w' X',ai X0 w0 X' w'->Own w' X' w0.heap.size e k v' (rows++dw)->ee (fc v) X w X' w'->(v'.ownBlock=v.ownBlock\/ ∃g,v'.ownBlock=some g/\w.heap.size<=g)->N v' w' X'):
  eV P R X w true (ga t e k bytes ty v s) N:=by
 obtain⟨hu,ix,E6,z,hi,hz,xe⟩:=mn he;refine C1 (dw:=dw) z hu hi xe ix hs.has hs.kp.size own src h1 hb hl λv2 w2 X2 hg ho dF=>?_;have hd: ∀g,v.ownBlock=some g->w0.heap.size<=g:=λg hg=>(own.ge hg).1;refine n v2 w2 X2 (hs.grown hg λg hg0 he=>?_) ho (hg.dY.mono λk _ hk=>hk.symm) dF;have:=hd g he.symm;have:=h0 g hg0;omega
def acQ (hX: ∀k,X k->k<w.heap.size) (hu:P.underlying t=some (.slice e)) (hz:(P.info? e).map (·.size)=some k)
  (n: ∀v w' X',ai X w X' w'->Own w' X' w.heap.size e k v []->N v w' X'):eV P R X w m (gO t e k 0 #[]) N:=afV hX hu hz n
end
theorem V7 {t len:Nat} {N:Value->World->XS->Prop} (cells:Array Value) (z:Value) (hX: ∀k,X k->k<w.heap.size) (he:nH P t e k bytes=true)
  (hz:(P.info? e).bind (·.zero)=some z) (Ya:0<len*k) (Q6:len*k<=2^24)
  (h:ru (λi=>some (i*k,k)) ((Bf (len*k)).map (z.cells[· % z.cells.size]!)) parts.toList=some cells)
  (Cm: ∀r∈rows,r.length=k) (hlen:rows.length=len) (hc:cells.toList=rows.flatten)
  (n: ∀v w' X',ai X w X' w'->Own w' X' w.heap.size e k v rows->N v w' X'):eV P R X w m (gO t e k len parts) N:=by
 obtain⟨hu,ix,E6,z',hi,sK,xe⟩:=mn he;have:z'=z:=by
  cases hq:P.info? e with
  |none=>grind
  |some ie=>simp_all
 subst this;exact B0 cells z' hX hu sK Ya Q6 h Cm hlen hc n
end Go.aK
namespace Go.aK
variable {P : Program} {R : Ending -> World -> Prop} {X Y A A' : XS} {w w' : World} {m : Bool} {κ : Type} [DecidableEq κ] {α : Type}
def YZ (P:Program) (S f:Nat):Option Bool:=match P.underlying S with
 |some (.struct fs)=>match fs[f]? with
  |some x=>match P.underlying x.type with
   |some (.struct _)|some (.array _ _)=>some true
   |some _=>some false
   |none=>none
  |none=>none
 |_=>none
def qt (rd:World->XS->Value->α->Prop):Prop:= ∀(X Y:XS) (w w':World) (v:Value) (x:α),rd w X v x->Mv X w Y w'->rd w' Y v x
def nI (w:World) (A:XS) (rd:World->XS->Value->α->Prop):List (jo κ)->List (κ×α)->Prop
 |[],[]=>True
 |e::es,x::l=>e.1=x.1/\rd w A e.2.1 x.2/\nI w A rd es l
 |_,_=>False
theorem nI.mv {rd:World->XS->Value->α->Prop} (hm:qt rd) (v:Mv A w A' w'): ∀{es:List (jo κ)} {l:List (κ×α)},nI w A rd es l->nI w' A' rd es l
 |[],[],_=>trivial
 |_::_,_::_,⟨h1,h2,h3⟩=>⟨h1,hm _ _ _ _ _ _ h2 v,nI.mv hm v h3⟩
 |[],_::_,h=>h.elim
 |_::_,[],h=>h.elim
theorem nI.keys {rd:World->XS->Value->α->Prop} : ∀{es:List (jo κ)} {l:List (κ×α)},nI w A rd es l->es.map (·.1)=l.map (·.1)
 |[],[],_=>rfl
 |_::_,_::_,⟨h1,_,h3⟩=>by simp[h1,nI.keys h3]
 |[],_::_,h=>h.elim
 |_::_,[],h=>h.elim
theorem nI.append {rd:World->XS->Value->α->Prop} : ∀{es es':List (jo κ)} {l l':List (κ×α)},nI w A rd es l->nI w A rd es' l'->nI w A rd (es++es') (l++l')
 |[],_,[],_,_,h'=>h'
 |_::_,_,_::_,_,⟨h1,h2,h3⟩,h'=>⟨h1,h2,nI.append h3 h'⟩
 |[],_,_::_,_,h,_=>h.elim
 |_::_,_,[],_,h,_=>h.elim
def getM (k:κ) (l:List (κ×α)):Option α:=(l.find? λx=>decide (x.1=k)).map (·.2)
def cL (k:κ) (a:α):List (κ×α)->List (κ×α)
 |[]=>[(k,a)]
 |x::l=>if x.1=k then(k,a)::l else x::cL k a l
def j9 (k:κ) (l:List (κ×α)):List (κ×α):=l.filter λx=>decide (x.1≠k)
theorem nI.get {rd:World->XS->Value->α->Prop} (k:κ): ∀{es:List (jo κ)} {l:List (κ×α)},nI w A rd es l->
  (GI k es=none/\getM k l=none)\/ ∃v a,GI k es=some v/\getM k l=some a/\rd w A v a
 |[],[],_=>.inl ⟨rfl,rfl⟩
 |e::es,x::l,⟨h1,h2,h3⟩=>by
  by_cases hk:x.1=k
  ·exact .inr ⟨e.2.1,x.2,by simp[GI,h1,hk],by simp[getM,hk],h2⟩
  ·rcases nI.get k h3 with⟨q1,q2⟩|⟨v,a,q1,q2,q3⟩
   ·left;constructor
    ·simp only[GI,fL,h1,hk,decide_false,aU,if_false];exact q1
    ·simp only[getM,fL,hk,decide_false,aU,if_false];exact q2
   ·right;refine⟨v,a,?_,?_,q3⟩
    ·simp only[GI,fL,h1,hk,decide_false,aU,if_false];exact q1
    ·simp only[getM,fL,hk,decide_false,aU,if_false];exact q2
 |[],_::_,h=>h.elim
 |_::_,[],h=>h.elim
def Gc (k:κ) (v:Value) (c:Nat):List (jo κ)->List (jo κ)
 |[]=>[(k,v,c)]
 |e::es=>if e.1=k then(e.1,v,e.2.2)::es else e::Gc k v c es
theorem abY (k:κ) (v:Value) (c:Nat) (es:List (jo κ)):(GJ k v c es).1=Gc k v c es:=by
 induction es with
 |nil=>rfl
 |cons e es ih=>
  unfold GJ at ih⊢;by_cases hk:e.1=k
  ·simp[lY,hk,Gc]
  ·simp only[lY,hk,decide_false,aU,if_false,Gc];cases hf:es.findIdx? λx=>decide (x.1=k)with
   |none=>grind
   |some j=>grind
variable {c : Nat} {v : Value}
theorem nI.put {rd:World->XS->Value->α->Prop} {k:κ} {a:α} (hv:rd w A v a): ∀{es:List (jo κ)} {l:List (κ×α)},nI w A rd es l->nI w A rd (Gc k v c es) (cL k a l)
 |[],[],_=>⟨rfl,hv,trivial⟩
 |e::es,x::l,⟨h1,h2,h3⟩=>by
  unfold Gc cL;by_cases hk:x.1=k
  ·rw[if_pos (h1.trans hk),if_pos hk];exact⟨h1.trans hk,hv,h3⟩
  ·rw[if_neg gQ,if_neg hk];exact⟨h1,h2,nI.put hv h3⟩
 |[],_::_,h=>h.elim
 |_::_,[],h=>h.elim
def Wa (k:κ) (es:List (jo κ)):List (jo κ):=es.filter λx=>decide (x.1≠k)
theorem abZ (k:κ): ∀(es:List (jo κ)),(es.map (·.1)).Nodup->Pg k es=Wa k es
 |[],_=>rfl
 |e::es,h=>by
  have h':(es.map (·.1)).Nodup:=(List.nodup_cons.1 h).2;have ih:=abZ k es h';unfold Pg at ih⊢;by_cases hk:e.1=k
  ·have:es.filter (λx=>decide (x.1≠k))=es:=List.filter_eq_self.2 λx hx=>by
    have:x.1≠k:=λhxk=>(List.nodup_cons.1 h).1 (by simp only[List.mem_map];exact⟨x,hx,by rw[hxk,hk]⟩)
    grind
   simp only[Wa] at this⊢;simp only[lY,hk,decide_true,if_true,List.eraseIdx_cons_zero,ne_eq,not_true_eq_false,decide_false,eH,aU,if_false]
   grind
  ·simp only[lY,hk,decide_false,aU,if_false];cases hf:es.findIdx? λx=>decide (x.1=k)with
   |none=>rw[hf] at ih;simp only[BG];simp only at ih;rw[ih];simp[Wa,hk,<-ih]
   |some j=>rw[hf] at ih;simp only[aY,List.eraseIdx_cons_succ] at ih⊢;rw[ih];simp[Wa,hk]
theorem nI.filter {rd:World->XS->Value->α->Prop} (p:κ->Bool): ∀{es:List (jo κ)} {l:List (κ×α)},nI w A rd es l->nI w A rd (es.filter λx=>p x.1) (l.filter λx=>p x.1)
 |[],[],_=>trivial
 |e::es,x::l,⟨h1,h2,h3⟩=>by
  have ih:=nI.filter p h3;by_cases hp:p x.1=true
  ·simp only[eH,h1,hp,if_true];exact⟨h1,h2,ih⟩
  grind
 |[],_::_,h=>h.elim
 |_::_,[],h=>h.elim
theorem nI.mem {rd:World->XS->Value->α->Prop} : ∀{es:List (jo κ)} {l:List (κ×α)},nI w A rd es l-> ∀e∈es,∃a,(e.1,a)∈l/\rd w A e.2.1 a
 |[],[],_,_,h=>by cases h
 |e0::es,x::l,⟨h1,h2,h3⟩,e,he=>by
  rcases List.mem_cons.1 he with rfl|he
  ·grind
  ·obtain⟨a,ha,hr⟩:=nI.mem h3 e he
   grind
 |[],_::_,h,_,_=>h.elim
 |_::_,[],h,_,_=>h.elim
def dM (w:World) (X A:XS) (b:Nat) (kv:κ->Value) (rd:World->XS->Value->α->Prop) (l:List (κ×α)):Prop:=
 ∃es c,ml w X b kv es c/\nI w A rd es l
variable {b : Nat}
def dM.mv {kv:κ->Value} {rd:World->XS->Value->α->Prop} {l:List (κ×α)} (h:dM w X A b kv rd l) (hm:qt rd) (v:Mv X w Y w') (va:Mv A w A' w'):dM w' Y A' b kv rd l:=
 let⟨es,c,h1,h2⟩:=h
 ⟨es,c,h1.mv v,h2.mv hm va⟩
theorem dM.nodup {kv:κ->Value} {rd:World->XS->Value->α->Prop} {l:List (κ×α)} (h:dM w X A b kv rd l):(l.map (·.1)).Nodup:=by
 obtain⟨es,c,h1,h2⟩:=h;rw[<-h2.keys];exact h1.2.2.1
theorem dM.x {kv:κ->Value} {rd:World->XS->Value->α->Prop} {l:List (κ×α)} (h:dM w X A b kv rd l):X b/\b<w.heap.size:=
 let⟨_,_,h1,_⟩:=h
 ⟨h1.1,(Array.getElem?_eq_some_iff.1 h1.2.1).1⟩
theorem dM.own {kv:κ->Value} {rd:World->XS->Value->α->Prop} {l:List (κ×α)} (h:dM w X A b kv rd l):dM w (λk=>k=b) A b kv rd l:=
 let⟨es,c,h1,h2⟩:=h
 ⟨es,c,⟨rfl,h1.2⟩,h2⟩
variable {ty : TypeId} {cs : List Value}
theorem aG.own (h:aG w X b cs ty):aG w (λk=>k=b) b cs ty:=⟨rfl,h.2⟩
theorem aG.lt (h:aG w X b cs ty):b<w.heap.size:=(Array.getElem?_eq_some_iff.1 h.2).1
theorem Mv.one (hk:Kp X w w') (hb:X b) (hy:Y b):Mv (λk=>k=b) w Y w':=λk ah _=>by subst ah;exact⟨hy,hk.block _ hb⟩
variable {N : Value -> World -> XS -> Prop}
def ri {t:TypeId} {kv:κ->Value} (rd:World->XS->Value->α->Prop) (A:XS) (hX: ∀k,X k->k<w.heap.size)
  (n: ∀b w' X',w.heap.size<=b->ai X w X' w'->dM w' X' A b kv rd []->N (.map (some b)) w' X'):eV P R X w m (fZ t none) N:=
 ad5 hX λb w' X' hb hs hm=>n b w' X' hb hs ⟨[],0,hm,trivial⟩
variable {et kt t : Nat}
theorem Fg {kv:κ->Value} {rd:World->XS->Value->α->Prop} {l:List (κ×α)} {k:κ} {N:Value->Prop} (z:Value) (h:dM w X A b kv rd l) (K:xf P kt kv)
  (ht:P.underlying t=some (.map kt et)) (hz:(P.info? et).bind (·.zero)=some z)
  (n1: ∀v a,getM k l=some a->rd w A v a->N (.tuple #[v,.bool true])) (n0:getM k l=none->N (.tuple #[z,.bool false])):
  aV P X w (bD t (.map (some b)) (kv k) true) N:=by
 obtain⟨es,c,h1,h2⟩:=h;refine ad4 z h1 K ht hz ?_;rcases h2.get k with⟨q1,q2⟩|⟨v,a,q1,q2,q3⟩
 ·grind
 grind
theorem lO {kv:κ->Value} {rd:World->XS->Value->α->Prop} {l:List (κ×α)} {k:κ} {N:Value->Prop} (z:Value) (h:dM w X A b kv rd l) (K:xf P kt kv)
  (ht:P.underlying t=some (.map kt et)) (hz:(P.info? et).bind (·.zero)=some z)
  (n1: ∀v a,getM k l=some a->rd w A v a->N v) (n0:getM k l=none->N z):
  aV P X w (bD t (.map (some b)) (kv k) false) N:=by
 have key: ∀u q,(∀wa,Kp X w wa->(bD t (.map (some b)) (kv k) true).run P wa= .ok (.tuple #[u,.bool q]) wa)-> ∀wa,Kp X w wa->(bD t (.map (some b)) (kv k) false).run P wa= .ok u wa:=by
  intro u q hq wa hk;have h1:=hq wa hk;obtain⟨es,c,hm,_⟩:=h;simp only[bD,bq,run_underlying ht,aM,getObj,tA,((hm.kp hk).2.1),K.jc,cR,K.find] at h1⊢;cases hf:ta k es 0 with
  |none=>
   cases hi:P.info? et with
   |none=>simp[hi] at hz
   |some inf=>
    have sK:inf.zero=some z:=by simpa [hi] using hz
    simp[zeroValue,typeInfo,hi,sK,K.find,hf] at h1⊢;exact h1.1
  |some r=>
   simp[K.find,hf] at h1⊢;exact h1.1
 have:=Fg (N:=λv=> ∃u q,v= .tuple #[u,.bool q]/\N u) z h K ht hz (λv a h1 h2=>⟨v,_,rfl,n1 v a h1 h2⟩) (λh0=>⟨z,_,rfl,n0 h0⟩);obtain⟨v,hv,u,q,rfl,hn⟩:=this;refine Hd u (key u q λwa hk=>?_) hn;have:=hv wa hk;simp only[vS,bq] at this;cases hr:(bD t (.map (some b)) (kv k) true).run P wa with
 |ok a w2=>rw[hr] at this;simp only[aM,bQ,Result.ok.injEq,Next.value.injEq] at this;grind
 |halt a w2=>grind [Result.andThen]
theorem uY {kv:κ->Value} {rd:World->XS->Value->α->Prop} {l:List (κ×α)} {k:κ} {a:α} (h:dM w X A b kv rd l) (hm:qt rd)
  (hv:rd w A v a) (hA: ∀k,A k->X k/\k≠b) (K:xf P kt kv) (ht:P.underlying t=some (.map kt et)) (hX: ∀k,X k->k<w.heap.size)
  (n: ∀w' X',ee (· =b) X w X' w'->dM w' X' A b kv rd (cL k a l)->N undef w' X'):
  eU P R X w true (cK t (.map (some b)) (kv k) v) N:=by
 obtain⟨es,c,h1,h2⟩:=h;refine afW h1 K ht hX λw' X' hg hi=>?_;have hc:ee (· =b) X w X' w':=hg.dY.mono λk _ hk=>by simpa using hk
 refine n w' X' hc ⟨_,_,hi,?_⟩;rw[abY];have mv:Mv A w A w':=λk hk _=>⟨hk,hc.block k (hA k hk).1 (hA k hk).2⟩;exact(h2.put hv).mv hm mv
theorem ais {tk ty:Nat} {kv:κ->Value} {rd:World->XS->Value->α->Prop} {l:List (κ×α)} {k:κ} (h:dM w X A b kv rd l) (hm:qt rd)
  (hA: ∀k,A k->X k/\k≠b) (K:xf P kt kv) (ht:P.underlying t=some (.map kt et)) (hX: ∀k,X k->k<w.heap.size)
  (n: ∀w' X',ee (· =b) X w X' w'->dM w' X' A b kv rd (j9 k l)->N (.tuple #[]) w' X'):
  eV P R X w true (sc #[t,tk] ty #[.map (some b),kv k]) N:=by
 obtain⟨es,c,h1,h2⟩:=h;refine afX h1 K ht hX λw' X' hg hi=>?_;have hc:ee (· =b) X w X' w':=hg.dY.mono λk _ hk=>by grind
 refine n w' X' hc ⟨_,_,hi,?_⟩;rw[abZ _ _ h1.2.2.1];have mv:Mv A w A w':=λk hk _=>⟨hk,hc.block k (hA k hk).1 (hA k hk).2⟩;exact(h2.filter (λx=>decide (x≠k))).mv hm mv
def LR (w:World) (X A:XS) (r b:Nat) (kv:κ->Value) (rd:World->XS->Value->α->Prop) (l left:List (κ×α)):Prop:=
 ∃es c Og,Bg w X r b kv es c Og/\nI w A rd es l/\nI w A rd Og left/\Og.Sublist es
variable {r : Nat}
theorem LR.mv {kv:κ->Value} {rd:World->XS->Value->α->Prop} {l left:List (κ×α)} (h:LR w X A r b kv rd l left) (hm:qt rd) (v:Mv X w Y w') (va:Mv A w A' w'):LR w' Y A' r b kv rd l left:=by
 obtain⟨es,c,Og,h1,h2,h3,h4⟩:=h;refine⟨es,c,Og,⟨h1.1.mv v,?_,h1.2.2.1,?_⟩,h2.mv hm va,h3.mv hm va,h4⟩
 ·obtain⟨s,hs,_⟩:=h1.2.2.2;exact(v r h1.2.1 (Array.getElem?_eq_some_iff.1 hs).1).1
 ·obtain⟨s,hs,hl⟩:=h1.2.2.2;exact⟨s,by rw[(v r h1.2.1 (Array.getElem?_eq_some_iff.1 hs).1).2];exact hs,hl⟩
theorem LR.map {kv:κ->Value} {rd:World->XS->Value->α->Prop} {l left:List (κ×α)} (h:LR w X A r b kv rd l left):dM w X A b kv rd l:=
 let⟨es,c,_,h1,h2,_⟩:=h
 ⟨es,c,h1.1,h2⟩
theorem LR.nodup {kv:κ->Value} {rd:World->XS->Value->α->Prop} {l left:List (κ×α)} (h:LR w X A r b kv rd l left):(left.map (·.1)).Nodup:=by
 obtain⟨es,c,Og,h1,h2,h3,h4⟩:=h;rw[<-h3.keys];exact h1.1.2.2.1.sublist (h4.map _)
theorem af0 {l:List (κ×α)} (c:κ×α->Bool):(l.map (·.1)).Nodup-> ∀{k:κ} {a:α},(k,a)∈l->l.any c=(c (k,a)||(l.filter λy=>decide (y.1≠k)).any c):=by
 induction l with
 |nil=>grind
 |cons x l ih=>
  intro hn k a h;have mr:=List.nodup_cons.1 hn;rcases List.mem_cons.1 h with h|h
  ·subst h;have:l.filter (λy=>decide (y.1≠k))=l:=List.filter_eq_self.2 λy hy=>by
    have:y.1≠k:=λe=>mr.1 (List.mem_map.2 ⟨y,hy,e⟩)
    grind
   simp only[List.any_cons,eH,ne_eq,not_true_eq_false,decide_false,aU,if_false];simp only[ne_eq] at this;rw[this]
  ·have hx:x.1≠k:=λe=>mr.1 (List.mem_map.2 ⟨(k,a),h,e.symm⟩);have:=ih mr.2 h;simp only[List.any_cons,eH,hx,ne_eq,not_false_eq_true,decide_true,if_true];simp only[ne_eq] at this;rw[this,<-Bool.or_assoc,<-Bool.or_assoc,Bool.or_comm (c x)]
theorem akL {l:List (κ×α)} {k:κ} {a:α} (h:(k,a)∈l):(l.filter λy=>decide (y.1≠k)).length<l.length:=by
 refine Nat.lt_of_le_of_ne (List.length_filter_le _ _) λe=>?_;have:=List.length_filter_eq_length_iff.1 e (k,a) h;simp at this
variable {w0 : World} {X0 : XS}
def ai.iZ (h:ai X0 w0 X w) (hA: ∀k,A k->X0 k):Mv A w0 A w:=λk hk _=>⟨hk,h.kp.block k (hA k hk)⟩
theorem akM {kv:κ->Value} {rd:World->XS->Value->α->Prop} {l:List (κ×α)} (h:dM w X A b kv rd l) (hm:qt rd) (hA: ∀k,A k->X k)
  (ht:P.underlying t=some (.map kt et)) (hX: ∀k,X k->k<w.heap.size)
  (n: ∀r w' X',w.heap.size<=r->ai X w X' w'->LR w' X' A r b kv rd l l->N (ptr r 0) w' X'):eV P R X w m (xc t (.map (some b))) N:=by
 obtain⟨es,c,h1,h2⟩:=h;refine aih h1 ht hX λr w' X' hr hs hi=>n r w' X' hr hs ?_;have mv:Mv A w A w':=λk hk _=>⟨hk,hs.kp.block k (hA k hk)⟩;exact⟨es,c,es,hi,h2.mv hm mv,h2.mv hm mv,List.Sublist.refl _⟩
theorem anl {ty:Nat} {kv:κ->Value} {rd:World->XS->Value->α->Prop} {l left:List (κ×α)} (h:LR w X A r b kv rd l left) (hm:qt rd)
  (hA: ∀k,A k->X k/\k≠r) (hX: ∀k,X k->k<w.heap.size)
  (n0:left=[]-> ∀w' X',ai X w X' w'->N (.tuple #[.bool false]) w' X')
  (n1: ∀k a v,(k,a)∈left-> ∀w' X',ee (· =r) X w X' w'->rd w' A v a->LR w' X' A r b kv rd l (left.filter λy=>decide (y.1≠k))->
   (∀wa,Kp X' w' wa->(pO (ptr r 0)).run P wa= .ok (.tuple #[kv k,v]) wa)->N (.tuple #[.bool true,kv k,v]) w' X'):
  eV P R X w true (Instr.next (ptr r 0) false ty) N:=by
 obtain⟨es,c,Og,h1,h2,h3,h4⟩:=h;refine akH h1 hX (λh0 w' X' hs=>n0 ?_ w' X' hs) λx hx w' X' hg hi he=>?_
 ·subst h0;cases left with
  |nil=>rfl
  |cons y t=>exact h3.elim
 ·have hc:ee (· =r) X w X' w':=hg.dY.mono λk _ hk=>by simpa using hk
  have mv:Mv A w A w':=λk hk _=>⟨hk,hc.block k (hA k hk).1 (hA k hk).2⟩;obtain⟨a,ha,DC⟩:=h3.mem x hx;refine n1 x.1 a x.2.1 ha w' X' hc (hm _ _ _ _ _ _ DC mv) ?_ he;have hk: ∀y∈Og,decide (y.2.2≠x.2.2)=decide (y.1≠x.1):=by
   intro y hy;have hye:=h4.subset hy;have n1:=h1.1.2.2.1;have n2:=h1.1.2.2.2.1;obtain⟨i,hi9,rfl⟩:=yM hye;obtain⟨j,hj,rfl⟩:=yM (h4.subset hx);have inj: ∀{β:Type} (f:jo κ->β),(es.map f).Nodup->(f es[i]=f es[j]↔i=j):=by
    intro β f n;constructor
    ·intro e;have hp:=List.pairwise_iff_getElem.1 n;rcases Nat.lt_trichotomy i j with h|h|h
     ·exact absurd (by rw[qI,qI];exact e) (hp i j (by simpa using hi9) (by simpa using hj) h)
     ·exact h
     ·exact absurd (by rw[qI,qI];exact e.symm) (hp j i (by simpa using hj) (by simpa using hi9) h)
    ·rintro rfl;rfl
   have e1:=inj (·.1) n1;have e2:=inj (·.2.2) n2;simp only[ne_eq,e1,e2]
  have hf:(Og.filter λy=>decide (y.2.2≠x.2.2))=Og.filter λy=>decide (y.1≠x.1):=List.filter_congr hk;refine⟨es,c,_,hi,h2.mv hm mv,?_,?_⟩
  ·rw[hf];exact(h3.filter (λk=>decide (k≠x.1))).mv hm mv
  ·exact(List.filter_sublist).trans h4
def akN {k:Value} (hX: ∀k,X k->k<w.heap.size)
  (h: ∀wa,Kp X w wa->(pO (ptr r 0)).run P wa= .ok (.tuple #[k,v]) wa) (n: ∀w' X',ai X w X' w'->N (.tuple #[k,v]) w' X'):
  eV P R X w m (pO (ptr r 0)) N:=aii hX h n
def SF (w:World) (A:XS) (rd:World->XS->Value->α->Prop) (k:κ):List (jo κ)->List (κ×α)->Prop
 |[],[]=>True
 |e::es,x::l=>e.1=x.1/\(x.1≠k->rd w A e.2.1 x.2)/\SF w A rd k es l
 |_,_=>False
def aeh (w:World) (X A:XS) (b:Nat) (kv:κ->Value) (rd:World->XS->Value->α->Prop) (k:κ) (l:List (κ×α)):Prop:=
 ∃es c,ml w X b kv es c/\SF w A rd k es l
theorem nI.toX {rd:World->XS->Value->α->Prop} {k:κ} : ∀{es:List (jo κ)} {l:List (κ×α)},nI w A rd es l->
  (∀x v,x∈l->x.1≠k->rd w A v x.2->rd w' A' v x.2)->SF w' A' rd k es l
 |[],[],_,_=>trivial
 |e::es,x::l,⟨h1,h2,h3⟩,hm=>⟨h1,λhk=>hm x _ sQ hk h2,nI.toX h3 λy v hy=>hm y v (by simp[hy])⟩
 |[],_::_,h,_=>h.elim
 |_::_,[],h,_=>h.elim
theorem dM.toX {kv:κ->Value} {rd:World->XS->Value->α->Prop} {k:κ} {l:List (κ×α)} (h:dM w X A b kv rd l) (m:Mv (λg=>g=b) w Y w')
  (hm: ∀x v,x∈l->x.1≠k->rd w A v x.2->rd w' A' v x.2):aeh w' Y A' b kv rd k l:=by
 obtain⟨es,c,h1,h2⟩:=h;exact⟨es,c,ml.mv (X:=λg=>g=b) ⟨rfl,h1.2⟩ m,h2.toX hm⟩
theorem SF.put {rd:World->XS->Value->α->Prop} {k:κ} {a:α} (hv:rd w A v a): ∀{es:List (jo κ)} {l:List (κ×α)},(es.map (·.1)).Nodup->SF w A rd k es l->nI w A rd (Gc k v c es) (cL k a l)
 |[],[],_,_=>⟨rfl,hv,trivial⟩
 |e::es,x::l,hn,⟨h1,h2,h3⟩=>by
  have mr:=List.nodup_cons.1 hn;unfold Gc cL;by_cases hk:x.1=k
  ·rw[if_pos (h1.trans hk),if_pos hk];refine⟨h1.trans hk,hv,?_⟩;have cA: ∀y∈es,y.1≠k:=λy hy e'=>mr.1 (List.mem_map.2 ⟨y,hy,e'.trans (hk.symm.trans h1.symm)⟩);clear hn mr h1 h2
   induction es generalizing l with
   |nil=>cases l<;>assumption
   |cons e2 es ih=>
    cases l with
    |nil=>exact h3.elim
    |cons y l=>exact⟨h3.1,h3.2.1 (h3.1▸cA e2 sQ),ih l h3.2.2 λz hz=>cA z (by simp[hz])⟩
  ·rw[if_neg gQ,if_neg hk];exact⟨h1,h2 hk,SF.put hv mr.2 h3⟩
 |[],_::_,_,h=>h.elim
 |_::_,[],_,h=>h.elim
theorem af1 {kv:κ->Value} {rd:World->XS->Value->α->Prop} {l:List (κ×α)} {k:κ} {a:α} (h:aeh w X A b kv rd k l) (hm:qt rd)
  (hv:rd w A v a) (hA: ∀k,A k->X k/\k≠b) (K:xf P kt kv) (ht:P.underlying t=some (.map kt et)) (hX: ∀k,X k->k<w.heap.size)
  (n: ∀w' X',ee (· =b) X w X' w'->dM w' X' A b kv rd (cL k a l)->N undef w' X'):
  eU P R X w true (cK t (.map (some b)) (kv k) v) N:=by
 obtain⟨es,c,h1,h2⟩:=h;refine afW h1 K ht hX λw' X' hg hi=>?_;have hc:ee (· =b) X w X' w':=hg.dY.mono λk _ hk=>by simpa using hk
 refine n w' X' hc ⟨_,_,hi,?_⟩;rw[abY];have mv:Mv A w A w':=λk hk _=>⟨hk,hc.block k (hA k hk).1 (hA k hk).2⟩;exact(h2.put hv h1.2.2.1).mv hm mv
theorem gA {l:List (κ×α)} {k:κ} {a:α} (h:getM k l=some a):(k,a)∈l:=by
 unfold getM at h;obtain⟨x,hx,rfl⟩:=Option.map_eq_some_iff.1 h
 grind
theorem vY {l:List (κ×α)} (hn:(l.map (·.1)).Nodup) {k:κ} {a:α} (h:(k,a)∈l):getM k l=some a:=by
 induction l with
 |nil=>cases h
 |cons x l ih=>
  have mr:=List.nodup_cons.1 hn;rcases List.mem_cons.1 h with h|h
  ·subst h;simp[getM]
  ·have hx:x.1≠k:=λe=>mr.1 (List.mem_map.2 ⟨(k,a),h,e.symm⟩);have:=ih mr.2 h;simp only[getM,fL,hx,decide_false,aU,if_false];exact this
theorem mC {l:List (κ×α)} {k:κ} {a:α} : ∀{x:κ×α},(l.map (·.1)).Nodup->x∈cL k a l->x=(k,a)\/(x∈l/\x.1≠k):=by
 induction l with
 |nil=>grind [cL]
 |cons y l ih=>
  intro x hn h;have mr:=List.nodup_cons.1 hn;unfold cL at h;split at h
  ·rename_i hy;rcases List.mem_cons.1 h with h|h
   ·exact .inl h
   ·exact .inr ⟨by simp[h],λe=>mr.1 (List.mem_map.2 ⟨x,h,e.trans hy.symm⟩)⟩
  ·rename_i hy;rcases List.mem_cons.1 h with h|h
   ·grind
   grind
variable {l : List Value}
theorem AZ {t:TypeId} (hX: ∀k,X k->k<w.heap.size)
  (n: ∀b w' X',w.heap.size<=b->ai X w X' w'->aG w' X' b l t->N (ptr b 0) w' X'):eV P R X w m (bW t (.agg l.toArray)) N:=
 abW hX λb w' X' hb hs hx hr=>n b w' X' hb hs ⟨hx,by assumption⟩
theorem sP {t:TypeId} (ho:one v=true) (hX: ∀k,X k->k<w.heap.size)
  (n: ∀b w' X',w.heap.size<=b->ai X w X' w'->aG w' X' b [v] t->N (ptr b 0) w' X'):eV P R X w m (bW t v) N:=
 abW hX λb w' X' hb hs hx hr=>n b w' X' hb hs ⟨hx,by
  have:v.cells.toList=[v]:=by cases v<;>first|rfl|cases ho
  rw[this] at hr;exact hr⟩
variable {X : XS} {w : World}
def ai.eQ (h: ∀k,X k->k<w.heap.size):ai X w X w:=⟨Kp.refl _ _,λ_ h=>h,h⟩
variable {sz : Nat}
theorem anm {S f fo:Nat} {l':List Value} {N:Value->Prop} (hf:fieldInfo P S f=some (fo,sz)) (hg:YZ P S f=some true) (hlen:decide (fo+sz<=l.length)=true) (hl:(l.drop fo).take sz=l')
  (k:N (.agg l'.toArray)):aV P X w (fdV S f fo sz (.agg l.toArray)) N:=by
 subst hl;unfold fieldInfo at hf;unfold YZ at hg;cases hu:P.underlying S with
 |none=>simp[hu] at hf
 |some d=>
  cases d<;>simp only[hu] at hf<;>try (cases hf;done)
  rename_i fs;cases hx:fs[f]? with
  |none=>simp[hx] at hf
  |some x=>
   simp only[hx,cQ,hu] at hf hg;cases hi:P.info? x.type with
   |none=>simp[hi] at hf
   |some i=>
    simp only[hi,aY,aj,cV] at hf;cases hd:P.underlying x.type with
    |none=>simp[hd] at hg
    |some d2=>
     refine bF (v:=.agg ((l.drop fo).take sz).toArray) (λwa=>?_) k;have BP:(isAgg x.type).run P wa= .ok true wa:=by
      cases d2<;>simp_all [isAgg,run_underlying hd]
     have hle:fo+sz<=l.length:=by simpa using hlen
     obtain⟨rfl,rfl⟩:=hf;simp[fdV,Instr.field,run_underlying hu,hx,asAgg,part,BP,sizeOf,typeInfo,hi,hle]
variable {f : FuncId}
theorem ao0 {la lc:List Value} (hl:la++lc=l) (h:eC P R X w m f l.toArray N):eF P R X w m (.func (.func f) #[] lc.toArray) la.toArray N:=by
 subst hl;have e: ∀wa,(H8 (.func (.func f) #[] lc.toArray) la.toArray).run P wa=(callFunc f (la++lc).toArray).run P wa:=by
  intro wa;simp[H8,Deferred.ofValue,invoke]
 intro wa hk;have:=h wa hk
 grind
theorem akO {fn:Fn} {a c:Array Value} {N:Value->Prop} (h:N (.func fn a c)):aV P X w (Instr.makeFunc fn a c) N:=bF (λwa=>by rfl) h
variable {w' : World} {Q : Value -> World -> World -> Prop} {F : XS} {args : Array Value}
theorem Ct.kp (h:Ct P f args w X F Q) (hk:Kp X w w'):Ct P f args w' X F Q:=λwa ah=>h wa (hk.trans ah)
def Ct.since {X':XS} (h:Ct P f args w X F Q) (hs:ai X w X' w'):Ct P f args w' X' F Q:=λwa ah=>h wa (hs.kp.trans (ah.less hs.sub))
def Ct.bI (h:Ct P f args w X F Q) (hX: ∀k,X k->k<w.heap.size):Ct P f args w (aK.bI w) F Q:=
 λwa ah=>h wa (ah.less λk hk=>hX k hk)
def idxOf (p:α->Bool):List α->Int
 |[]=> -1
 |x::l=>if p x then 0 else let i:=idxOf p l;if i<0 then i else i+1
theorem LU (p:α->Bool): ∀l:List α,decide (idxOf p l>=0)=l.any p
 |[]=>rfl
 |x::l=>by
  have ih:=LU p l;unfold idxOf
  grind
variable {i : Nat}
theorem BW {p:α->Bool} {l:List α} (h: ∀k x,k<i->l[k]? =some x->p x=false) {x:α} (hx:l[i]? =some x) (hp:p x=true):idxOf p l=i:=by
 induction l generalizing i with
 |nil=>simp at hx
 |cons y l ih=>
  cases i with
  |zero=>simp only[jR,aj] at hx;subst hx;simp[idxOf,hp]
  |succ i=>
   have hy:=h 0 y zQ rfl;have:=ih (i:=i) (λk z hk hz=>h (k+1) z zQ aQ) aQ;simp only[idxOf,hy,aU,if_false,this];rfl
theorem yp {p:α->Bool} {l:List α} (h: ∀k x,k<l.length->l[k]? =some x->p x=false):idxOf p l= -1:=by
 induction l with
 |nil=>rfl
 |cons y l ih=>
  have hy:=h 0 y sQ rfl;have:=ih λk z hk hz=>h (k+1) z gQ aQ;simp[idxOf,hy,this]
theorem ai.less {Y0:XS} (h:ai X0 w0 X w) (hs: ∀k,Y0 k->X0 k):ai Y0 w0 X w:=⟨h.kp.less hs,λk hk=>h.sub k (hs k hk),h.has⟩
variable {rows : List (List Value)} {cap e g k lo n : Nat}
theorem Own.Hw (h:aG w X g cs e) (gw:lo<=g) (hr: ∀r∈rows,r.length=k) (hn:rows.length=n) (hc:n<=cap) (hm:cap<=maxLen)
  (hl:cs.length=cap*k) (ht:cs.take (n*k)=rows.flatten):Own w X lo e k (.slice (some ⟨g,0,none⟩) n cap) rows:=
 ⟨hr,⟨by rw[lE hr],.inr ⟨g,cap,cs.toArray,by rw[hn],gw,h.2,by omega,hm,by simpa using hl,by grind⟩⟩,λg' hg=>by simp only[ir,aj] at hg;subst hg;exact h.1⟩
theorem Own.row (h:Own w X lo e k v rows):(v= .slice none 0 0/\rows=[])\/
  ∃g cap cs,v= .slice (some ⟨g,0,none⟩) rows.length cap/\lo<=g/\aG w X g cs e/\rows.length<=cap/\cap<=maxLen/\cs.length=cap*k/\cs.take (rows.length*k)=rows.flatten:=by
 obtain⟨h1,h2,h3⟩:=h;rcases h2.2 with⟨rfl,hn⟩|⟨g,cap,cur,rfl,hb,hg,pL,iF,jm,ht⟩
 ·simp_all
 ·exact .inr ⟨g,cap,cur.toList,rfl,hb,⟨h3 g rfl,by omega⟩,pL,iF,by omega,ht⟩
variable {z : Int}
theorem ajH {t:TypeId} {N:Value->Prop} (hz:z=i) (hi:i<n) (ht:P.underlying t=some (.slice (P.elem t))) (hs:(P.info? (P.elem t)).map (·.size)=some k) (h:N (ptr g (i*k))):
  aV P X w (kY t k (.slice (some ⟨g,0,none⟩) n cap) (.int .i64 z)) N:=by
 subst hz;refine bF (v:=ptr g (i*k)) (λwa=>?_) h
 show(yV t _ _).run P wa=_
 rw[run_indexAt_slice (h:=ht),if_pos zQ];cases hq:P.info? (P.elem t)with
 |none=>grind
 |some inf=>
  have:inf.size=k:=by simpa [hq] using hs
  simp[sizeOf,typeInfo,hq,this,zM]
theorem DZ {o:Nat} (h:aG w X b cs ty) (ht:(P.info? t).map (·.size)=some sz)
  (hl:o+sz<=cs.length) (hv:v.cells.size=sz) (h1:v.cells.toList.all one=true) (hX: ∀k,X k->k<w.heap.size)
  (n: ∀w' X',ee (λk=>k=b) X w X' w'->aG w' X' b (bO cs o v.cells.toList) ty->N undef w' X'):eU P R X w true (st1 t sz (ptr b o) v) N:=
 aie h ht hl hv h1 hX λw' X' hg hr=>n w' X' (hg.dY.mono λk _ hk=>by grind) hr
theorem KR {t:TypeId} {a:Option Addr} {N:Value->Prop} (hz:z=i) (hi:i<=cap) (ht:P.underlying t=some (.slice (P.elem t))) (hs:((P.info? (P.elem t)).map (·.size)).isSome=true) (h:N (.slice a i cap)):
  aV P X w (Instr.sliceAt t (.slice a n cap) none (some (.int .i64 z)) none) N:=by
 subst hz;obtain⟨k,hk⟩:=Option.isSome_iff_exists.1 hs;refine bF (v:=.slice a i cap) (λwa=>?_) h;rw[run_sliceAt_slice wa t _ _ _ _ ht,run_slice_h wa t a n cap ht .i64 i zQ zQ];cases hq:P.info? (P.elem t)with
 |none=>grind
 |some inf=>
  have:a.map (λx=>x.add 0)=a:=by cases a<;>rfl
  simp[sizeOf,typeInfo,hq,sliced,this]
variable {P : Program}
def MX (P:Program) (t e k:Nat):Bool:=match P.underlying t,P.info? e with
 |some (.slice e'),some i=>e'==e&&i.size==k&&(match i.zero with|some z=>z.cells.size==k|none=>false)&&decide (0<k)&&decide (k<=2^20)
 |_,_=>false
theorem UB (h:MX P t e k=true):P.underlying t=some (.slice e)/\0<k/\k<=2^20/\ ∃z:Value,(P.info? e).bind (λi=>i.zero.map λz=>(i.size,z))=some (k,z):=by
 unfold MX at h;split at h
 ·rename_i e' i hu hi;simp only[aB,beq_iff_eq,decide_eq_true_eq] at h;obtain⟨⟨⟨⟨rfl,h2⟩,h4⟩,h5⟩,h6⟩:=h;cases hz:i.zero with
  |none=>grind
  |some z=>simp_all
 ·cases h
variable {R : Ending -> World -> Prop} {m : Bool}
theorem Qd (hX: ∀k,X k->k<w.heap.size) (he:MX P t e k=true) (hk:(l.length==k)=true)
  (n: ∀v w' X',ai X w X' w'->Own w' X' w.heap.size e k v [l]->N v w' X'):eV P R X w m (gO t e k 1 #[(0,.agg l.toArray)]) N:=by
 obtain⟨hu,h0,h1,z,hz⟩:=UB he;have ah:l.length=k:=by simpa using hk
 refine B0 (rows:=[l]) l.toArray z hX hu hz zQ zQ ?_ gQ rfl sQ n;simp only[Bc];exact Ff (x:=.agg l.toArray) aQ sQ
theorem WX {x:Value} (hX: ∀k,X k->k<w.heap.size) (he:MX P t e k=true) (ho:one x=true) (hk:(k==1)=true)
  (n: ∀v w' X',ai X w X' w'->Own w' X' w.heap.size e k v [[x]]->N v w' X'):eV P R X w m (gO t e k 1 #[(0,x)]) N:=by
 obtain⟨hu,h0,h1,z,hz⟩:=UB he;have ah:1=k:=by simpa using (beq_iff_eq.1 hk).symm
 have hc:=sL ho;refine B0 (rows:=[[x]]) x.cells z hX hu hz zQ zQ ?_ gQ rfl (by rw[hc];rfl) n;simp only[Bc];exact Ff gQ sQ
def MY (P:Program) (t:TypeId):Bool:=match P.underlying t with
 |some (.pointer _)=>true
 |_=>false
theorem Ge {t:TypeId} (h:MY P t=true):P.underlying t=some (.pointer (P.pointee t)):=by grind [MY,Program.pointee]
variable {a : Addr}
section
variable {N : Value -> Prop} {t : TypeId} {xo yo : Operand}
def akP (ht:MY P t=true) (k:N (.bool false)):aV P X w (eB .eql t xo yo (.pointer (some a)) (.pointer none)) N:=WJ (p:=some a) (Ge ht) k
def akQ (ht:MY P t=true) (k:N (.bool true)):aV P X w (eB .eql t xo yo (.pointer none) (.pointer none)) N:=WJ (p:=none) (Ge ht) k
theorem ann (ht:MY P t=true) (k:N (.bool true)):aV P X w (eB .neq t xo yo (.pointer (some a)) (.pointer none)) N:=by
 refine bF (λwa=>?_) k;have:=run_neq_pointer_nil (P:=P) (w:=wa) t (some a) (Ge ht);assumption
theorem ano (ht:MY P t=true) (k:N (.bool false)):aV P X w (eB .neq t xo yo (.pointer none) (.pointer none)) N:=by
 refine bF (λwa=>?_) k;have:=run_neq_pointer_nil (P:=P) (w:=wa) t none (Ge ht);assumption
end
end Go.aK