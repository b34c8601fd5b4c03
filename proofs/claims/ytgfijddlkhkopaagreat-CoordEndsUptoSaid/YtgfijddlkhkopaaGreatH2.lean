/-
 Part 2 of the proof: what the last text leans on.
-/
import Derived.Deep.MidRow
import Derived.Laws.StructEq
import Derived.Maps.AppendAt
import Derived.Laws.OwnMore
import Derived.Great.BuildSlice
import Derived.Maps.RangeRun
import Derived.KernelRfl
import Derived.Laws.FloatArith
import Derived.Laws.Slices
import Derived.Laws.Pointers
import Derived.Test.YtgfijddlkhkopaaGreatH1
open Go.Result renaming andThen_ok → aO
open Go.Sem renaming run_bind → bh, run_pure → bK, run → tQ
open Go.Value renaming int → ay, cells → aW, agg → ep, ownBlock → il, string → aP
open Nat renaming le_trans → ad, lt_of_lt_of_le → av, le_refl → aq, zero_add → fg, one_mul → Bc, mod_eq_of_lt → gN
open Bool renaming false_eq_true → aY, and_eq_true → aD, not_eq_true' → cB
open Option.some renaming injEq → ah
open Go.Instr renaming checkKey → gR, lookup → bF, fill → rN, sameBits → nr, mapUpdate → cE, entry → qp, loadAt → js, buildSlice → jo, box → cr, extract → gx, findKey → ue, findNow → kF, makeMap → fU, range → xh, indexAt → zc, index → Bd, findAsking → Be, keyThatStays → zq
open PUnit renaming unit → nu
open List renaming toList_toArray → cL, getElem?_eq_getElem → aU, length_cons → aM, findIdx?_cons → mA, all → aA, find?_cons → fG, drop_eq_getElem_cons → lh, map_cons → bD, filter_cons → eB, getElem_map → rq, length → az, mem_singleton → aw, getElem?_take → mB, flatten_cons → cW, nil_append → cx, length_append → aa, drop_of_length_le → wg, map_append → aJ, nodup_append → Ar, getElem?_cons_zero → j6, getElem_of_mem → yO
open Option renaming map_some → aX, bind_some → cJ, map_none → B7
open Prod.mk renaming injEq → cD
open Array renaming toList → cd, getElem?_setIfInBounds → dR, range → Bf, length_toList → fv
open Go.Op renaming equalIn → uG, bytesLess → bY, eqFields → xi
open Go.Builtin renaming len_ → na, delete_ → sF, append_ → fh, min_ → kf, min2 → FJ
open Go.ByteArray renaming toList_eq → oO
open ForInStep renaming yield → sG
open Go.World renaming ownsRow_lit → As
set_option linter.unusedVariables false
set_option linter.unusedSimpArgs false
namespace Go.aG
structure aj (X:XS) (w:World) (X':XS) (w':World):Prop where
 kp:Kp X w w'
 sub: ∀k,X k->X' k
 has: ∀k,X' k->k<w'.heap.size
theorem aj.init (w:World):aj (bV w) w (bV w) w:=⟨Kp.refl _ _,λ_ h=>h,λ_ h=>h⟩
variable {X Y : XS}
theorem aj.trans {Z:XS} {a b c:World} (h:aj X a Y b) (k:aj Y b Z c):aj X a Z c:=
 ⟨h.kp.trans (k.kp.less h.sub),λi hi=>k.sub i (h.sub i hi),k.has⟩
variable {w w' wa : World}
theorem aj.fc (hX: ∀k,X k->k<w.heap.size) (hk:Kp X w wa) (hx:Ext wa w'):aj X w (grow X wa w') w':=
 ⟨hk.trans (hx.kp λk h=>av (hX k h) hk.size),λ_ h=>.inl h,
  λk h=>h.elim (λh=>av (hX k h) (ad hk.size hx.size)) (λh=>h.2)⟩
theorem aj.ext (h:aj (bV w) w X w') (hk:Kp X w' wa):Ext w wa:=(h.kp.trans (hk.less h.sub)).ext
variable {P : Program} {R : Ending -> World -> Prop} {X : XS} {w : World} {m : Bool}
def Pure (P:Program) (f:FuncId) (args:Array Value) (v:Value):Prop:=
 ∀w,Calls P f args w λe w'=>e= .returned v/\Ext w w'
def aoo (P:Program) (f:FuncId) (args:Array Value) (w:World) (Q:Value->World->Prop):Prop:=
 Calls P f args w λe w'=> ∃v,e= .returned v/\Ext w w'/\Q v w'
def enters (P:Program) (f:FuncId):Bool:=match P.funcs[f]? with
 |some fn=>!(fn.name== "runtime.NumGoroutine")&&fn.body.isSome
 |none=>false
variable {f : FuncId}
theorem nZ (h:enters P f=true) (args:Array Value) (w:World):(callFunc f args).run P w= .ok (.enter f args) w:=by
 unfold enters at h;split at h
 ·rename_i fn hf;simp only[aD,cB] at h;obtain⟨c,hb⟩:=Option.isSome_iff_exists.1 h.2;have hn: ¬fn.name= "runtime.NumGoroutine" :=by simpa using h.1
  simp[callFunc,hf,hn,hb]
 ·cases h
variable {N : Value -> World -> XS -> Prop} {args : Array Value}
theorem Zb {Q:Value->World->World->Prop}
  (hf:enters P f=true) (hX: ∀k,X k->k<w.heap.size)
  (h: ∀wa,Kp X w wa->aoo P f args wa (Q · wa))
  (k: ∀v wa w' X',Kp X w wa->Ext wa w'->(∀k,wa.heap.size<=k->k<w'.heap.size->X' k)->Q v wa w'->aj X w X' w'->N v w' X'):
  eC P R X w m f args N:=by
 refine ak9 Q (nZ hf args) (λwa hk=>?_) λv wa w' hk hx hq=>k v wa w' _ hk hx (λk h1 h2=>.inr ⟨h1,h2⟩) hq (aj.fc hX hk hx);refine(h wa hk).mono ?_;simp_all
theorem abX {v:Value}
  (hf:enters P f=true) (hX: ∀k,X k->k<w.heap.size) (h:Pure P f args v)
  (k: ∀w' X',aj X w X' w'->N v w' X'):eC P R X w m f args N:=by
 refine Zb (Q:=λu _ _=>u=v) hf hX (λwa _=>(h wa).mono ?_) λu wa w' X' _ _ _ hq hs=>hq▸k w' X' hs
 grind
theorem E2 {v:Value} (hf: ∀wa,(callFunc f args).run P wa= .ok (.value v) wa)
  (hX: ∀k,X k->k<w.heap.size) (k: ∀w' X',aj X w X' w'->N v w' X'):eC P R X w m f args N:=by
 intro wa hk;unfold jV;rw[hf wa];exact⟨Step.fc (Ext.refl _),k _ _ (aj.fc hX hk (Ext.refl _))⟩
variable {w0 : World}
theorem fV {u v:Value} (hs:aj (bV w0) w0 X w) (h:u=v):fin (λe w'=>e= .returned v/\Ext w0 w') X w u:=
 λ_ hk=>⟨by rw[h],hs.ext hk⟩
variable {P : Program} {R : Ending -> World -> Prop} {X : XS} {w : World} {m : Bool} {N : Value -> Prop}
abbrev ptr (b o:Nat):Value:=.pointer (some ⟨b,o,none⟩)
def Cells (w:World) (X:XS) (b o:Nat) (l:List Value):Prop:=
 X b/\ ∃cs t fr,w.heap[b]? =some (.cells cs t fr)/\ ∀j v,l[j]? =some v->cs[o+j]? =some v
variable {b o : Nat}
theorem Cells.kp {l:List Value} (h:Cells w X b o l) (hk:Kp X w w'):Cells w' X b o l:=by
 obtain⟨hx,cs,t,fr,hb,hc⟩:=h;exact⟨hx,cs,t,fr,by rw[hk.block b hx];exact hb,hc⟩
theorem Cells.mono {l:List Value} (h:Cells w X b o l) (hs: ∀k,X k->Y k):Cells w Y b o l:=⟨hs _ h.1,h.2⟩
theorem Cells.since {l:List Value} (h:Cells w X b o l) (hs:aj X w Y w'):Cells w' Y b o l:=(h.kp hs.kp).mono hs.sub
theorem Cells.range {l:List Value} (h:Cells w X b o l):w.rangeAt b o l:=by
 obtain⟨_,cs,t,fr,hb,hc⟩:=h;intro j v hj;rw[cell_of_row w b (o+j) cs t fr hb];exact hc j v hj
theorem Cells.lt {l:List Value} (h:Cells w X b o l):b<w.heap.size:=by
 obtain⟨_,cs,t,fr,hb,_⟩:=h
 grind
theorem Cells.part {l:List Value} (h:Cells w X b o l) (i n:Nat):Cells w X b (o+i) ((l.drop i).take n):=by
 obtain⟨hx,cs,t,fr,hb,hc⟩:=h;refine⟨hx,cs,t,fr,hb,λj v hj=>?_⟩;rw[mB] at hj;split at hj
 ·rw[List.getElem?_drop] at hj;rw[Nat.add_assoc];exact hc _ v hj
 ·cases hj
variable {t : TypeId}
theorem afZ {v:Value} {l:List Value} (h:Cells w X b o (v::l)) (hi:lp P t=some (false,1)) (k:N v):
  aZ P X w (js t (ptr b o)) N:=by
 refine HQ v (λwa hk=>?_) k;have hc:wa.cell? ⟨b,o,none⟩=some v:=(h.kp hk).range 0 v rfl;unfold lp at hi;split at hi
 ·rename_i d i hu ES;simp only[ah,cD] at hi;have Cf:(isAgg t).run P wa= .ok false wa:=by
   cases d<;>simp_all [isAgg,run_underlying hu]
  simp[js,Instr.sureAddr,loadVar,Cf,hc]
 ·cases hi
variable {n : Nat}
theorem af0 {l:List Value} (h:Cells w X b o l) (hi:lp P t=some (true,n)) (hn:l.length=n) (k:N (.agg l.toArray)):
  aZ P X w (js t (ptr b o)) N:=by
 refine HQ _ (λwa hk=>?_) k;unfold lp at hi;split at hi
 ·rename_i d i hu ES;simp only[ah,cD] at hi;exact run_loadAt_mid wa b o t l d (h.kp hk).range hu gQ gQ
 ·cases hi
theorem Ho {S f fo sz:Nat} (h:fieldInfo P S f=some (fo,sz)) (hz:sz≠0) (k:N (ptr b (o+fo))):aZ P X w (Instr.fieldAt S (ptr b o) f) N:=
 bA (λwa=>N9 h hz b o wa) k
variable {parts : Array (Nat × Value)}
theorem af1 (cells:Array Value) (h:P.built t parts.toList=some cells) (k:N (.agg cells)):
  aZ P X w (Instr.build t parts) N:=
 bA (λwa=>run_build wa t parts cells h) k
variable {ty : TypeId}
theorem ah7 {s:ByteArray} (ht:P.underlying t=some .string) (k:N (.int .i64 s.size)):aZ P X w (na #[t] ty #[.string s]) N:=
 bA (λwa=>by simp[na,run_underlying ht,goInt]) k
def Sl (w:World) (X:XS) (k:Nat) (v:Value) (rows:List (List Value)):Prop:=
 (∀r∈rows,r.length=k)/\rows.length<=2^63-1/\
 ∃base cap,v= .slice base rows.length cap/\(rows≠[]-> ∃b o,base=some ⟨b,o,none⟩/\Cells w X b o rows.flatten)/\
  (base=none->cap=0)/\rows.length<=cap/\cap<=2^63-1
variable {rows : List (List Value)} {k : Nat}
theorem Sl.mono {v:Value} (h:Sl w X k v rows) (hs: ∀k,X k->Y k):Sl w Y k v rows:=by
 obtain⟨h1,h2,base,cap,hv,hc,hr⟩:=h;exact⟨h1,h2,base,cap,hv,λcj=>let⟨b,o,hb,jD⟩:=hc cj;⟨b,o,hb,jD.mono hs⟩,hr⟩
theorem Sl.kp {v:Value} (h:Sl w X k v rows) (hk:Kp X w w'):Sl w' X k v rows:=by
 obtain⟨h1,h2,base,cap,hv,hc,hr⟩:=h;exact⟨h1,h2,base,cap,hv,λcj=>let⟨b,o,hb,jD⟩:=hc cj;⟨b,o,hb,jD.kp hk⟩,hr⟩
theorem Sl.since {v:Value} (h:Sl w X k v rows) (hs:aj X w Y w'):Sl w' Y k v rows:=
 (h.kp hs.kp).mono hs.sub
theorem Sl.bV {v:Value} (h:Sl w X k v rows):Sl w (bV w) k v rows:=by
 obtain⟨h1,h2,base,cap,hv,hc,hr⟩:=h;exact⟨h1,h2,base,cap,hv,λcj=>let⟨b,o,hb,jD⟩:=hc cj;⟨b,o,hb,jD.lt,jD.2⟩,hr⟩
theorem Sl.nil (w:World) (X:XS) (k:Nat):Sl w X k (.slice none 0 0) []:=⟨by simp,by simp,none,0,rfl,by simp,by simp,by simp,by simp⟩
theorem Sl.one {v:Value} (h:Sl w X k v rows):one v=true:=by
 obtain⟨_,_,_,_,rfl,_⟩:=h;rfl
theorem Ms: ∀{rows:List (List Value)},(∀r∈rows,r.length=k)-> ∀{i:Nat} {r:List Value},rows[i]? =some r->
  (rows.flatten.drop (i*k)).take k=r
 |[],_,i,r,h=>by simp at h
 |x::rest,hl,0,r,h=>by simp_all
 |x::rest,hl,i+1,r,h=>by
  have hx:=hl x sQ;rw[cW,List.drop_append,hx,List.drop_eq_nil_of_le gQ];have:(i+1)*k-k=i*k:=by rw[Nat.succ_mul];omega
  rw[this,cx];exact Ms (λr hr=>hl r (by simp[hr])) gQ
variable {xo yo : Operand} {xs ys : Array Value}
theorem ah8 {b:Bool} (hm:P.eqGuardType P.depth t=false)
  (h: ∀wa,(uG 10000 t (.agg xs) (.agg ys)).run P wa= .ok b wa) (k:N (.bool b)):aZ P X w (de .eql t xo yo (.agg xs) (.agg ys)) N:=by
 refine bA (λwa=>?_) k;simp[de,run_eqGuard_agg wa .eql t xo yo xs ys hm,run_eql_struct,h]
theorem ah9 {b:Bool} (hm:P.eqGuardType P.depth t=false)
  (h: ∀wa,(uG 10000 t (.agg xs) (.agg ys)).run P wa= .ok b wa) (k:N (.bool (!b))):aZ P X w (de .neq t xo yo (.agg xs) (.agg ys)) N:=by
 refine bA (λwa=>?_) k;simp[de,run_eqGuard_agg wa .neq t xo yo xs ys hm,binOp,Op.equal,Op.maxDepth,h]
variable {a : Int}
theorem wrap_i64 (h1: -(2^63)<=a) (h2:a<2^63):IntKind.i64.wrap a=a:=by
 simp only[IntKind.wrap];first
  |omega
  |(simp[IntKind.bits,IntKind.signed];omega)
variable {P : Program} {R : Ending -> World -> Prop} {X : XS} {w : World} {m : Bool}
structure Grown (X:XS) (w:World) (X':XS) (w':World) (row:Option Nat):Prop where
 os:w'.os=w.os
 tape:w'.tape=w.tape
 output:w'.output=w.output
 size:w.heap.size<=w'.heap.size
 block: ∀k,X k->some k≠row->w'.heap[k]? =w.heap[k]?
 sub: ∀k,X k->X' k
 has: ∀k,X' k->k<w'.heap.size
theorem aj.grown {X0:XS} {row:Option Nat} (h:aj X0 w0 X w) (g:Grown X w Y w' row) (hr: ∀k,X0 k->some k≠row):aj X0 w0 Y w':=
 ⟨⟨g.os.trans h.kp.os,g.tape.trans h.kp.tape,g.output.trans h.kp.output,ad h.kp.size g.size,
  λk hk=>(g.block k (h.sub k hk) (hr k hk)).trans (h.kp.block k hk)⟩,λk hk=>g.sub k (h.sub k hk),g.has⟩
theorem Grown.since {row:Option Nat} {F:XS} (g:Grown X w Y w' row) (hf: ∀k,F k->X k) (hr: ∀k,F k->some k≠row):aj F w Y w':=
 ⟨⟨g.os,g.tape,g.output,g.size,λk hk=>g.block k (hf k hk) (hr k hk)⟩,λk hk=>g.sub k (hf k hk),g.has⟩
def Own (w:World) (X:XS) (lo e k:Nat) (v:Value) (rows:List (List Value)):Prop:=
 (∀r∈rows,r.length=k)/\w.ownsRow lo e k v rows.length rows.flatten/\ ∀g,v.ownBlock=some g->X g
theorem Own.nil (w:World) (X:XS) (lo e k:Nat):Own w X lo e k (.slice none 0 0) []:=⟨by simp,World.ownsRow_nil w lo e k,by simp[il]⟩
variable {e lo : Nat}
theorem Own.sl {v:Value} (h:Own w X lo e k v rows):Sl w X k v rows:=by
 obtain⟨h1,h2,h3⟩:=h;rcases h2.2 with⟨rfl,hn⟩|⟨g,cap,cur,rfl,hb,hg,ql,iF,jD,ht⟩
 ·grind [Sl.nil]
 ·have hm:cap<=2^63-1:=iF;refine⟨h1,ad ql hm,_,cap,rfl,λ_=>⟨g,0,rfl,h3 g rfl,cur,e,(0,0),hg,λj v hj=>?_⟩,by simp,ql,hm⟩;rw[<-ht,mB] at hj;split at hj
  ·simpa using hj
  ·cases hj
theorem Own.kp {v:Value} (h:Own w X lo e k v rows) (hk:Kp X w w'):Own w' X lo e k v rows:=by
 obtain⟨h1,h2,h3⟩:=h;refine⟨h1,⟨h2.1,?_⟩,h3⟩;rcases h2.2 with h|⟨g,cap,cur,rfl,hb,hg,hr⟩
 ·exact .inl h
 ·exact .inr ⟨g,cap,cur,rfl,hb,by rw[hk.block g (h3 g rfl)];exact hg,hr⟩
theorem Own.mono {v:Value} (h:Own w X lo e k v rows) (hs: ∀k,X k->Y k):Own w Y lo e k v rows:=
 ⟨h.1,h.2.1,λg hg=>hs g (h.2.2 g hg)⟩
theorem Own.since {v:Value} (h:Own w X lo e k v rows) (hs:aj X w Y w'):Own w' Y lo e k v rows:=
 (h.kp hs.kp).mono hs.sub
theorem Own.low {lo':Nat} {v:Value} (h:Own w X lo e k v rows) (hl:lo'<=lo):Own w X lo' e k v rows:=by
 obtain⟨h1,h2,h3⟩:=h;refine⟨h1,⟨h2.1,?_⟩,h3⟩;rcases h2.2 with h|⟨g,cap,cur,rfl,hb,hr⟩
 ·exact .inl h
 ·exact .inr ⟨g,cap,cur,rfl,ad hl hb,hr⟩
theorem Own.ge {v:Value} (h:Own w X lo e k v rows) {g:Nat} (hg:v.ownBlock=some g):lo<=g/\g<w.heap.size:=h.2.1.lt g hg
theorem Own.tight {v:Value} (h:Own w X lo e k v rows):Own w (λg=>lo<=g/\g<w.heap.size) lo e k v rows:=
 ⟨h.1,h.2.1,λ_ hg=>h.ge hg⟩
theorem lU: ∀{rows:List (List Value)},(∀r∈rows,r.length=k)->rows.flatten.length=rows.length*k
 |[],_=>by simp
 |r::rs,h=>by
  rw[cW,aa,h r sQ,lU λr hr=>h r (by simp[hr]),aM,Nat.succ_mul,Nat.add_comm]
theorem Cv {t len:Nat} {N:Value->World->XS->Prop} (cells:Array Value) (z:Value)
  (hX: ∀k,X k->k<w.heap.size) (hu:P.underlying t=some (.slice e)) (hz:(P.info? e).bind (λi=>i.zero.map λz=>(i.size,z))=some (k,z))
  (Yw:0<len*k) (Rw:len*k<=2^24)
  (h:rN (λi=>some (i*k,k)) ((Bf (len*k)).map (z.cells[· % z.cells.size]!)) parts.toList=some cells)
  (CN: ∀r∈rows,r.length=k) (hlen:rows.length=len) (hc:cells.toList=rows.flatten)
  (n: ∀v w' X',aj X w X' w'->Own w' X' w.heap.size e k v rows->N v w' X'):eV P R X w m (jo t len parts) N:=by
 intro wa hk;cases hq:P.info? e with
 |none=>grind
 |some ie=>
  cases tW:ie.zero with
  |none=>grind
  |some z'=>
   simp only[hq,tW,cJ,aX,ah,cD] at hz;obtain⟨rfl,rfl⟩:=hz;have hr:=run_buildSlice (P:=P) wa t e len parts cells ie z' hu hq tW zQ zQ h;unfold jV;simp only[vS,bh,hr,aO,bK];have hx:Ext wa (wa.alloc (.cells cells e)):=Ext.alloc _ _;have jD:cells.size=len*ie.size:=by
    have:=congrArg az hc;simp only[fv] at this;rw[this,lU CN,hlen]
   have aop:0<ie.size:=Nat.pos_of_ne_zero λe=>by grind
   have hle:len<=2^24:=ad (Nat.le_mul_of_pos_right len aop) Rw;have ux:=As (e:=e) (base:=w.heap.size) (size:=ie.size) wa cells len hk.size (by simp only[maxLen];omega) jD;refine⟨Step.fc hx,n _ _ _ (aj.fc hX hk hx) ⟨CN,by grind,λg hg=>?_⟩⟩;simp only[il,ah] at hg;subst hg;exact .inr ⟨aq _,by simp⟩
theorem af2 {t:Nat} {N:Value->World->XS->Prop} (hX: ∀k,X k->k<w.heap.size) (hu:P.underlying t=some (.slice e)) (hz:(P.info? e).map (·.size)=some k)
  (n: ∀v w' X',aj X w X' w'->Own w' X' w.heap.size e k v []->N v w' X'):eV P R X w m (jo t 0 #[]) N:=by
 intro wa hk;cases hq:P.info? e with
 |none=>grind
 |some ie=>
  unfold jV;have hr:(jo t 0 #[]).run P wa= .ok (.slice (some ⟨wa.heap.size,0,none⟩) 0 0) (wa.alloc (.cells #[] e)):=by
   simp[jo,run_underlying hu,sizeOf,typeInfo,hq,rN,newRow];have Lf: ∀f:Nat->Value,Array.map f (Bf 0)= #[]:=λf=>Array.eq_empty_of_size_eq_zero sQ;rw[Lf]
  simp only[vS,bh,hr,aO,bK];have hx:Ext wa (wa.alloc (.cells #[] e)):=Ext.alloc _ _;have ux:=As (e:=e) (base:=w.heap.size) (size:=k) wa #[] 0 hk.size zQ sQ;refine⟨Step.fc hx,n _ _ _ (aj.fc hX hk hx) ⟨by simp,ux,λg hg=>?_⟩⟩;simp only[il,ah] at hg;subst hg;exact .inr ⟨aq _,by simp⟩
theorem Sl.src {v:Value} (h:Sl w X k v rows):
  v= .slice none 0 0/\rows=[]\/ ∃a cap,v= .slice (some a) rows.length cap/\ ∀j u,rows.flatten[j]? =some u->w.cell? (a.add j)=some u:=by
 obtain⟨h1,h2,base,cap,rfl,hc,hn,hle,_⟩:=h;cases base with
 |none=>
  grind
 |some a=>
  refine .inr ⟨a,cap,rfl,λj u hj=>?_⟩;cases rows with
  |nil=>simp at hj
  |cons r rs=>
   obtain⟨b,o,hb,jD⟩:=hc sQ;cases hb;rw[zN];exact jD.range j u hj
theorem Ds {t ty bytes:Nat} {v s:Value} {dw:List (List Value)} {N:Value->World->XS->Prop} (z:Value)
  (hu:P.underlying t=some (.slice e)) (hi:(P.info? e).bind (λi=>i.zero.map λz=>(i.size,i.bytes,z))=some (k,bytes,z)) (xj:z.cells.size=k) (iw:0<k)
  (hX: ∀k,X k->k<w.heap.size) (gv:lo<=w.heap.size) (own:Own w X lo e k v rows) (src:Sl w X k s dw) (h1: ∀r∈dw,∀u∈r,one u=true)
  (hb:(rows.length+dw.length)*bytes<=140737488355328) (hl:rows.length+dw.length<=2^63-1)
  (n: ∀v' w' X',Grown X w X' w' v.ownBlock->Own w' X' lo e k v' (rows++dw)->(v'.ownBlock=v.ownBlock\/ ∃g,v'.ownBlock=some g/\w.heap.size<=g)->N v' w' X'):
  eV P R X w true (fh #[t,t] ty #[v,s]) N:=by
 intro wa hk;have own:=own.kp hk;have src:=src.kp hk;cases hq:P.info? e with
 |none=>grind
 |some ie=>
  cases tW:ie.zero with
  |none=>grind
  |some z'=>
   simp only[hq,tW,cJ,aX,ah,cD] at hi;obtain⟨rfl,rfl,rfl⟩:=hi;unfold jV;rcases src.src with⟨rfl,rfl⟩|⟨a,cap,rfl,CO⟩
   ·have hr:=run_append_owned_none (P:=P) (w:=wa) lo t ty e ie ie.size hu hq v rows.length rows.flatten own.2.1;simp only[vS,bh,hr,aO,bK];have hx:=Ext.refl wa;have hs:=aj.fc hX hk hx;refine⟨Step.fc hx,n _ _ _ ⟨hs.kp.os,hs.kp.tape,hs.kp.output,hs.kp.size,λk h _=>hs.kp.block k h,hs.sub,hs.has⟩ ?_ (.inl rfl)⟩;rw[List.append_nil];exact own.mono (λk h=>Or.inl h)
   ·have sH:dw.flatten.length=dw.length*ie.size:=lU src.1;obtain⟨v',w',hr,ux,hg,_,dB⟩:=run_append_own_at (P:=P) wa lo t ty e ie z' ie.size ie.bytes hu hq tW rfl rfl xj iw v rows.length rows.flatten own.2.1
     a dw.length cap dw.flatten sH CO (λu hu=>by
      obtain⟨r,hr,hur⟩:=List.mem_flatten.1 hu;rw[<-Qb];exact h1 r hr u hur) hl hb (ad gv hk.size)
    simp only[vS,bh,hr,aO,bK];refine⟨⟨hg.os,hg.tape,hg.output,hg.size,λk tf nJ=>hg.block k tf λe=>nJ (own.2.2 k e.symm)⟩,n _ _ _ ?_ ⟨?_,?_,?_⟩ ?_⟩
    ·exact⟨hg.os.trans hk.os,hg.tape.trans hk.tape,hg.output.trans hk.output,ad hk.size hg.size,
      λk hx cj=>(hg.block k (av (hX k hx) hk.size) cj).trans (hk.block k hx),λk h=>.inl h,
      λk h=>h.elim (λh=>av (hX k h) (ad hk.size hg.size)) (λh=>h.2)⟩
    ·intro r hr;rcases List.mem_append.1 hr with h|h
     ·exact own.1 r h
     ·exact src.1 r h
    ·rw[aa,List.flatten_append];omega
    ·intro g JZ;rcases dB with h|h
     ·exact .inl (own.2.2 g (h▸JZ))
     ·rw[JZ] at h;cases h;exact .inr ⟨aq _,(ux.lt _ JZ).2⟩
    ·rcases dB with h|h
     ·exact .inl h
     ·exact .inr ⟨_,h,hk.size⟩
theorem PC {e:TypeId} (ht:P.underlying t=some (.slice e)) (d:Nat) (base:Option Addr) (n c:Nat) (w:World):
  (uG (d+1) t (.slice base n c) (.slice none 0 0)).run P w= .ok base.isNone w:=by
 cases base<;>simp[uG,run_underlying ht]
theorem Zc {e:TypeId} {base:Option Addr} {c:Nat} {N:Value->Prop} (ht:P.underlying t=some (.slice e)) (h:N (.bool base.isNone)):
  aZ P X w (de .eql t xo yo (.slice base n c) (.slice none 0 0)) N:=by
 refine bA (λwa=>?_) h;have:(Op.equal t (.slice base n c) (.slice none 0 0)).run P wa= .ok base.isNone wa:=PC ht 9999 base n c wa;simp[de,eqGuard,binOp,this]
def Nv (P:Program):List Field->Nat->Bool
 |[],_=>true
 |f::r,i=>f.name != "_" &&(match P.underlying f.type with|some (.int _)=>true|_=>false)&&f.offset==i&&Nv P r (i+1)
theorem Ef (w:World) (d:Nat) (as bs:List Int): ∀(fs:List Field) (i:Nat),Nv P fs i=true->as.length=i+fs.length->bs.length=i+fs.length->
  (xi (d+1) (as.map (ay .i64)).toArray (bs.map (ay .i64)).toArray fs).run P w= .ok (decide (as.drop i=bs.drop i)) w
 |[],i,_,ha,hb=>by
  simp only[List.length_nil,Nat.add_zero] at ha hb;rw[wg zQ,wg zQ];simp[xi]
 |f::r,i,h,ha,hb=>by
  simp only[Nv,aD,bne_iff_ne,ne_eq,beq_iff_eq] at h;obtain⟨⟨⟨hn,hu⟩,ho⟩,hr⟩:=h;simp only[aM] at ha hb;have hia:i<as.length:=by omega
  have hib:i<bs.length:=by omega
  cases hd:P.underlying f.type with
  |none=>simp[hd] at hu
  |some ty=>
   cases ty<;>simp only[hd,aY] at hu
   rename_i q;have Cf:(isAgg f.type).run P w= .ok false w:=by simp[isAgg,run_underlying hd]
   have Zd:(part f.type (as.map (ay .i64)).toArray f.offset).run P w= .ok (.int .i64 as[i]) w:=by
    simp[part,Cf,ho,hia]
   have Il:(part f.type (bs.map (ay .i64)).toArray f.offset).run P w= .ok (.int .i64 bs[i]) w:=by
    simp[part,Cf,ho,hib]
   have ih:=Ef w d as bs r (i+1) hr zQ zQ;have hk:(as.drop i=bs.drop i)↔(as[i]=bs[i]/\as.drop (i+1)=bs.drop (i+1)):=by
    rw[lh hia,lh hib,List.cons.injEq]
   simp only[hk];clear hk;by_cases he:as[i]=bs[i]
   ·simp[xi,hn,Zd,Il,run_equalIn_int w d f.type .i64 q _ _ hd,he,ih]
   ·simp[xi,hn,Zd,Il,run_equalIn_int w d f.type .i64 q _ _ hd,he]
def j7 (P:Program) (t n:Nat):Bool:=match P.underlying t with
 |some (.struct fs)=>fs.toList.length==n&&Nv P fs.toList 0&&!P.stoodInHeld t&&!P.eqGuardType P.depth t
 |_=>false
theorem Cw {t:Nat} (h:j7 P t n=true) (as bs:List Int) (ha:as.length=n) (hb:bs.length=n) (w:World):
  (uG 10000 t (.agg (as.map (ay .i64)).toArray) (.agg (bs.map (ay .i64)).toArray)).run P w= .ok (decide (as=bs)) w:=by
 unfold j7 at h;split at h
 ·rename_i fs hu;simp only[aD,beq_iff_eq,cB] at h;have hf:P.fieldsOf t=fs:=by simp[Program.fieldsOf,hu]
  rw[run_equalIn_struct w 9999 t _ _ gQ h.1.2,hf];have:=Ef (P:=P) w 9998 as bs fs.toList 0 h.1.1.2 zQ zQ;assumption
 ·cases h
theorem GJ {t:Nat} (h:j7 P t n=true):P.eqGuardType P.depth t=false:=by
 unfold j7 at h
 grind
variable {a' b' c c' : Int}
theorem aia {N:Value->Prop} {b:Int} (h:j7 P t 3=true) (k:N (.bool (decide (a=a'/\b=b'/\c=c')))):
  aZ P X w (de .eql t xo yo (.agg #[.int .i64 a,.int .i64 b,.int .i64 c]) (.agg #[.int .i64 a',.int .i64 b',.int .i64 c'])) N:=
 ah8 (b:=decide (a=a'/\b=b'/\c=c')) (GJ h) (λwa=>by
  have:=Cw h [a,b,c] [a',b',c'] rfl rfl wa;simpa using this) k
theorem aib {N:Value->Prop} {b:Int} (h:j7 P t 3=true) (k:N (.bool (!decide (a=a'/\b=b'/\c=c')))):
  aZ P X w (de .neq t xo yo (.agg #[.int .i64 a,.int .i64 b,.int .i64 c]) (.agg #[.int .i64 a',.int .i64 b',.int .i64 c'])) N:=
 ah9 (b:=decide (a=a'/\b=b'/\c=c')) (GJ h) (λwa=>by
  have:=Cw h [a,b,c] [a',b',c'] rfl rfl wa;simpa using this) k
theorem abY {v:Value} {N:Value->World->XS->Prop} (hX: ∀k,X k->k<w.heap.size)
  (n: ∀b w' X',w.heap.size<=b->aj X w X' w'->X' b->w'.heap[b]? =some (.cells v.cells.toList.toArray t (0,0))->N (ptr b 0) w' X'):eV P R X w m (cr t v) N:=by
 intro wa hk;unfold jV;have hr:(cr t v).run P wa= .ok (ptr wa.heap.size 0) (wa.alloc (.cells v.cells t)):=by simp[cr,newVar,newRow]
 simp only[vS,bh,hr,aO,bK];have hx:Ext wa (wa.alloc (.cells v.cells t)):=Ext.alloc _ _;exact⟨Step.fc hx,n _ _ _ hk.size (aj.fc hX hk hx) (.inr ⟨aq _,by simp⟩) (by simpa using heap_alloc_new wa _)⟩
def aK (w:World) (X:XS) (b:Nat) (cs:List Value) (ty:TypeId):Prop:=X b/\w.heap[b]? =some (.cells cs.toArray ty (0,0))
variable {cs : List Value}
theorem aK.kp (h:aK w X b cs ty) (hk:Kp X w w'):aK w' X b cs ty:=⟨h.1,by rw[hk.block b h.1];exact h.2⟩
theorem aK.mono (h:aK w X b cs ty) (hs: ∀k,X k->Y k):aK w Y b cs ty:=⟨hs _ h.1,h.2⟩
theorem aK.since (h:aK w X b cs ty) (hs:aj X w Y w'):aK w' Y b cs ty:=(h.kp hs.kp).mono hs.sub
theorem aK.cells (h:aK w X b cs ty):Cells w X b 0 cs:=⟨h.1,_,_,_,h.2,λj v hj=>by grind⟩
theorem aic {t sz:Nat} {v:Value} {N:Value->World->XS->Prop} (h:aK w X b cs ty) (ht:(P.info? t).map (·.size)=some sz)
  (hl:o+sz<=cs.length) (hv:v.cells.size=sz) (h1:v.cells.toList.all one=true) (hX: ∀k,X k->k<w.heap.size)
  (n: ∀w' X',Grown X w X' w' (some b)->aK w' X' b (cY cs o v.cells.toList) ty->N undef w' X'):eU P R X w true (Instr.storeAt t (ptr b o) v) N:=by
 intro wa hk;have hb:=(h.kp hk).2;unfold jV;have hr:=Oa (P:=P) ht hb o zQ v hv h1;simp only[dE] at hr;simp only[uS,bh,hr,aO,bK];have gd:(wa.setRow b (cY cs o v.cells.toList).toArray).heap.size=wa.heap.size:=by simp
 refine⟨⟨rfl,rfl,rfl,by omega,λk _ hx=>setRow_other wa b k _ λe=>hx (e▸h.1)⟩,n _ _ ?_ ⟨.inl h.1,setRow_heap wa b _ _ ty _ hb⟩⟩;refine⟨hk.os,hk.tape,hk.output,by rw[gd];exact hk.size,λk hx cj=>?_,λk h=>.inl h,λk h=>?_⟩
 ·rw[setRow_other wa b k _ (λe=>cj (by rw[e])),hk.block k hx]
 ·rw[gd];exact h.elim (λh=>av (hX k h) hk.size) (λh=>by omega)
variable {P : Program} {α : Type}
end Go.aG
set_option linter.unusedSectionVars false
set_option linter.unusedSimpArgs false
namespace Go.aG
variable {P : Program} {R : Ending -> World -> Prop} {X : XS} {w : World} {m : Bool} {κ : Type} [DecidableEq κ]
abbrev jy (κ:Type):=κ×Value×Nat
def lO (kv:κ->Value) (x:jy κ):MapEntry:=⟨kv x.1,x.2.1,x.2.2⟩
def tw (k:κ):List (jy κ)->Nat->Option (Nat×Value)
 |[],_=>none
 |x::r,i=>if k=x.1 then some (i,x.2.1)else tw k r (i+1)
structure xk (P:Program) (kt:TypeId) (kv:κ->Value):Prop where
 jq: ∀e k w,(gR e 10000 kt (kv k)).run P w= .ok () w
 find: ∀k (l:List (jy κ)) w,(ue kt (kv k) (l.map (lO kv))).run P w= .ok (tw k l 0) w
 same: ∀k,nr 10000 (kv k) (kv k)=true
theorem Mt (a b:ByteArray):(a==b)=decide (a=b):=by
 rw[beq_toListBytes];have:a.toList=b.toList↔a=b:=by
  constructor
  ·intro h;rw[oO,oO] at h;obtain⟨⟨x⟩⟩:=a;simp_all
  ·grind
 grind
theorem Kn {kt:TypeId} (h:P.underlying kt=some .string) (e:Bool) (n:Nat) (k:ByteArray) (w:World):
  (gR e (n+1) kt (.string k)).run P w= .ok () w:=by simp[gR,run_underlying h]
theorem PD {kt:TypeId} {fs:Array Field} (h:P.underlying kt=some (.struct fs)) (e:Bool) (n:Nat) (cs:Array Value) (w:World)
  (hr:(forIn fs nu λf (_:PUnit)=>(if f.name≠ "_" then(do
    let v<-part f.type cs f.offset
    gR e n f.type v
    pure (sG nu))
   else pure (sG nu):Sem (ForInStep PUnit))).run P w= .ok nu w):
  (gR e (n+1) kt (.agg cs)).run P w= .ok () w:=by
 simp only[gR,bh,run_underlying h,aO];exact(congrArg (λr=>r.andThen λ_ w'=>tQ P (Pure.pure ()) w') hr).trans rfl
theorem Jg {kt:TypeId} (h:P.underlying kt=some .string):xk P kt (λs:ByteArray=>aP s) where
 jq e k w:=Kn h e 9999 k w
 find k l w:=by
  have: ∀(l:List (jy ByteArray)) (i:Nat),kF .string (.string k) (l.map (lO λs=>aP s)) i=some (tw k l i):=by
   intro l
   induction l with
   |nil=>intro i;rfl
   |cons x r ih=>
    intro i;by_cases hk:k=x.1
    ·simp[kF,lO,Instr.sameNow,tw,hk,Mt]
    ·simp[kF,lO,Instr.sameNow,tw,hk,ih,Mt]
  simp[ue,run_underlying h,this]
 same k:=by simp[nr,Mt]
theorem Eg (w:World) (e:Bool) (d:Nat) (as:List Int): ∀(fs:List Field) (i:Nat),Nv P fs i=true->as.length=i+fs.length->
  (forIn fs nu λf (_:PUnit)=>(if f.name≠ "_" then(do
    let v<-part f.type (as.map (ay .i64)).toArray f.offset
    gR e (d+1) f.type v
    pure (sG nu))
   else pure (sG nu):Sem (ForInStep PUnit))).run P w= .ok nu w
 |[],i,_,_=>by simp
 |f::r,i,h,ha=>by
  simp only[Nv,aD,bne_iff_ne,ne_eq,beq_iff_eq] at h;obtain⟨⟨⟨hn,hu⟩,ho⟩,hr⟩:=h;simp only[aM] at ha;have hia:i<as.length:=by omega
  cases hd:P.underlying f.type with
  |none=>simp[hd] at hu
  |some ty=>
   cases ty<;>simp only[hd,aY] at hu
   rename_i q;have Cf:(isAgg f.type).run P w= .ok false w:=by simp[isAgg,run_underlying hd]
   have Zd:(part f.type (as.map (ay .i64)).toArray f.offset).run P w= .ok (.int .i64 as[i]) w:=by
    simp[part,Cf,ho,hia]
   have AH:(gR e (d+1) f.type (.int .i64 as[i])).run P w= .ok () w:=by
    simp[gR,run_underlying hd]
   have ih:=Eg w e d as r (i+1) hr zQ;rw[List.forIn_cons];simp only[ne_eq,hn,not_false_eq_true,if_true,bh,Zd,AH,aO,bK];exact ih
theorem Vt (d:Nat) (as:List Int):nr (d+1) (.agg (as.map (ay .i64)).toArray) (.agg (as.map (ay .i64)).toArray)=true:=by
 have: ∀l:List Int,((l.map (ay .i64)).zip (l.map (ay .i64))).all (λ(x,y)=>nr d x y)=true:=by
  intro l
  induction l with
  |nil=>rfl
  |cons x r ih=>
   simp only[bD,List.zip_cons_cons,List.all_cons,ih,Bool.and_true]
   grind [nr]
 simp[nr,this]
variable {kt n : Nat}
theorem aid (h:j7 P kt n=true) (as:κ->List Int) (hlen: ∀k,(as k).length=n) (aqA: ∀a b,as a=as b->a=b):
  xk P kt (λk:κ=>ep ((as k).map (ay .i64)).toArray) where
 jq e k w:=by
  unfold j7 at h;split at h
  ·rename_i fs hu;simp only[aD,beq_iff_eq,cB] at h;have hr:=Eg (P:=P) w e 9998 (as k) fs.toList 0 h.1.1.2 gQ;rw[Array.forIn_toList] at hr;exact PD hu e 9999 _ w hr
  ·cases h
 find k l w:=by
  have h0:=h;unfold j7 at h0;split at h0
  ·rename_i fs hu;have aqB: ∀(l:List (jy κ)) (i:Nat),(Be kt (.agg ((as k).map (ay .i64)).toArray) (l.map (lO λk=>ep ((as k).map (ay .i64)).toArray)) i).run P w= .ok (tw k l i) w:=by
    intro l
    induction l with
    |nil=>intro i;rfl
    |cons x r ih=>
     intro i;simp only[bD,Be,lO,Op.equal,Op.maxDepth,bh,(Cw h (as k) (as x.1) (hlen _) (hlen _) w),aO,tw];by_cases hk:k=x.1
     ·subst hk;simp
     ·have: ¬as k=as x.1:=λe=>hk (aqA _ _ e);simp only[this,decide_false,aY,if_false,hk];exact ih _
   cases l with
   |nil=>simp[ue,run_underlying hu,kF,tw]
   |cons x r=>
    have:=aqB (x::r) 0;simp only[ue,bh,run_underlying hu,aO];assumption
  ·cases h0
 same k:=Vt 9999 (as k)
def mK (w:World) (X:XS) (b:Nat) (kv:κ->Value) (es:List (jy κ)) (clock:Nat):Prop:=
 X b/\w.heap[b]? =some (.map (es.map (lO kv)).toArray clock)/\(es.map (·.1)).Nodup/\(es.map (·.2.2)).Nodup/\ ∀x∈es,x.2.2<clock
variable {w' : World} {b c : Nat}
theorem mK.kp {kv:κ->Value} {es:List (jy κ)} (h:mK w X b kv es c) (hk:Kp X w w'):mK w' X b kv es c:=
 ⟨h.1,by rw[hk.block b h.1];exact h.2.1,h.2.2⟩
variable {Y : XS}
theorem mK.mono {kv:κ->Value} {es:List (jy κ)} (h:mK w X b kv es c) (hs: ∀k,X k->Y k):mK w Y b kv es c:=⟨hs _ h.1,h.2⟩
theorem mK.since {kv:κ->Value} {es:List (jy κ)} (h:mK w X b kv es c) (hs:aj X w Y w'):mK w' Y b kv es c:=
 (h.kp hs.kp).mono hs.sub
def Hp (k:κ) (es:List (jy κ)):Option Value:=(es.find? λx=>decide (x.1=k)).map (·.2.1)
theorem PE (k:κ): ∀(es:List (jy κ)) (i:Nat),tw k es i=(es.findIdx? λx=>decide (x.1=k)).bind λj=>(es[j]?).map λx=>(i+j,x.2.1)
 |[],i=>rfl
 |x::r,i=>by
  unfold tw;by_cases h:k=x.1
  ·grind
  ·rw[if_neg h,PE k r (i+1)];have h': ¬x.1=k:=λe=>h e.symm;simp only[mA,h',decide_false,aY,if_false];cases r.findIdx? λx=>decide (x.1=k)with
   |none=>rfl
   |some j=>simp[Nat.add_assoc,Nat.add_comm 1 j]
theorem UJ (k:κ): ∀(es:List (jy κ)) (i:Nat),(tw k es i).map (·.2)=Hp k es
 |[],i=>rfl
 |x::r,i=>by
  unfold tw Hp;by_cases h:k=x.1
  ·simp[h]
  ·have h': ¬x.1=k:=λe=>h e.symm;rw[if_neg h,UJ k r (i+1)];simp[Hp,h']
variable {et : Nat}
theorem ad2 {t:Nat} {kv:κ->Value} {es:List (jy κ)} {k:κ} {N:Value->Prop} (z:Value) (h:mK w X b kv es c) (K:xk P kt kv)
  (ht:P.underlying t=some (.map kt et)) (hz:(P.info? et).bind (·.zero)=some z)
  (n:N (.tuple #[(Hp k es).getD z,.bool (Hp k es).isSome])):aZ P X w (bF t (.map (some b)) (kv k) true) N:=by
 refine HQ _ (λwa hk=>?_) n;cases hi:P.info? et with
 |none=>grind
 |some inf=>
  have xt:inf.zero=some z:=by simpa [hi] using hz
  have hg:=UJ k es 0;simp only[bF,bh,run_underlying ht,aO,getObj,tQ,((h.kp hk).2.1),K.jq,cL,K.find];cases hf:tw k es 0 with
  |none=>
   rw[hf] at hg;simp only[B7] at hg;simp[zeroValue,typeInfo,hi,xt,<-hg,K.find,hf]
  |some r=>
   rw[hf] at hg;simp only[aX] at hg;simp[<-hg,K.find,hf]
variable {N : Value -> World -> XS -> Prop} {t : TypeId}
theorem ad3 {kv:κ->Value} (hX: ∀k,X k->k<w.heap.size)
  (n: ∀b w' X',w.heap.size<=b->aj X w X' w'->mK w' X' b kv [] 0->N (.map (some b)) w' X'):eV P R X w m (fU t none) N:=by
 intro wa hk;unfold jV;have hr:(fU t none).run P wa= .ok (.map (some wa.heap.size)) (wa.alloc (.map #[] 0)):=by simp[fU]
 simp only[vS,bh,hr,aO,bK];have hx:Ext wa (wa.alloc (.map #[] 0)):=Ext.alloc _ _;exact⟨Step.fc hx,n _ _ _ hk.size (aj.fc hX hk hx) ⟨.inr ⟨aq _,by simp⟩,by simpa using heap_alloc_new wa _,by simp,by simp,by simp⟩⟩
open Go.ChangeMaps (setBlock)
variable {wa : World}
theorem Mu {o:Obj} (hX: ∀k,X k->k<w.heap.size) (hk:Kp X w wa):Grown X w (grow X wa (setBlock wa b o)) (setBlock wa b o) (some b):=by
 have hs:(setBlock wa b o).heap.size=wa.heap.size:=by simp[setBlock]
 refine⟨hk.os,hk.tape,hk.output,by rw[hs];exact hk.size,λk hx cj=>?_,λk h=>.inl h,λk h=>?_⟩
 ·rw[<-hk.block k hx];have:b≠k:=λe=>cj (by rw[e]);simp[setBlock,dR,this]
 ·rw[hs];exact h.elim (λh=>av (hX k h) hk.size) (λh=>by omega)
theorem Ze {o:Obj} (hb:X b):Fr X wa (setBlock wa b o):=by
 refine⟨rfl,rfl,rfl,by simp[setBlock],λk _ hx=>?_⟩;have:b≠k:=λe=>hx (e▸hb);simp[setBlock,dR,this]
theorem Lk {o:Obj} (hb:b<wa.heap.size):(setBlock wa b o).heap[b]? =some o:=by
 simp[setBlock,dR,hb]
theorem run_setObj_map {es:Array MapEntry} (hb:wa.heap[b]? =some (.map es c)) (o:Obj):(setObj b o).run P wa= .ok () (setBlock wa b o):=by
 simp[setObj,tQ,hb,setBlock]
def Hq (k:κ) (v:Value) (c:Nat) (es:List (jy κ)):List (jy κ)×Nat:=
 match es.findIdx? λx=>decide (x.1=k)with
 |some i=>(es.modify i λx=>(x.1,v,x.2.2),c)
 |none=>(es++[(k,v,c)],c+1)
theorem Cx {β γ:Type} (g:β->γ) (f:β->β) (hf: ∀x,g (f x)=g x): ∀(l:List β) (i:Nat),(l.modify i f).map g=l.map g
 |[],i=>by simp
 |x::r,0=>by simp[hf]
 |x::r,i+1=>by simp[Cx g f hf r i]
theorem mem_modify {β:Type} {f:β->β} : ∀{l:List β} {i:Nat} {y:β},y∈l.modify i f-> ∃x∈l,y=x\/y=f x
 |[],i,y,h=>by simp at h
 |x::r,0,y,h=>by grind
 |x::r,i+1,y,h=>by
  simp only[List.modify_succ_cons,List.mem_cons] at h;rcases h with h|h
  ·grind
  ·obtain⟨z,hz,he⟩:=mem_modify h
   grind
theorem af3 {t:Nat} {kv:κ->Value} {es:List (jy κ)} {k:κ} {v:Value} (h:mK w X b kv es c) (K:xk P kt kv)
  (ht:P.underlying t=some (.map kt et)) (hX: ∀k,X k->k<w.heap.size)
  (n: ∀w' X',Grown X w X' w' (some b)->mK w' X' b kv (Hq k v c es).1 (Hq k v c es).2->N undef w' X'):
  eU P R X w true (cE t (.map (some b)) (kv k) v) N:=by
 intro wa hk;have hM:=h.kp hk;have hb:=hM.2.1;have cC:b<wa.heap.size:=(Array.getElem?_eq_some_iff.1 hb).1;unfold jV;have hr:(cE t (.map (some b)) (kv k) v).run P wa= .ok () (setBlock wa b (.map ((Hq k v c es).1.map (lO kv)).toArray (Hq k v c es).2)):=by
  simp only[cE,bh,run_underlying ht,aO,getObj,tQ,hb,K.jq,cL,K.find,PE];unfold Hq;cases hf:es.findIdx? λx=>decide (x.1=k)with
  |none=>simp[run_setObj_map hb,lO]
  |some j=>
   have hj:=List.findIdx?_eq_some_iff_getElem.1 hf;obtain⟨Ec,KK,_⟩:=hj;have amu:es[j].1=k:=by simpa using KK
   simp only[cJ,aU Ec,aX,fg,bh];have fE:(zq (((es.map (lO kv)).toArray[j]?).map (·.key)|>.getD (kv k)) (kv k)).run P wa= .ok (kv k) wa:=by
    simp[zq,Ec,lO,amu,K.same]
   rw[fE];simp only[aO,run_setObj_map hb]
   congr 3
   rw[List.modify_toArray]
   congr 1
   apply List.ext_getElem?;intro q;simp only[List.getElem?_modify,List.getElem?_map];by_cases hq:j=q
   ·subst hq;simp[aU Ec,lO,amu]
   ·simp[hq]
 simp only[uS,bh,hr,aO,bK];refine⟨Ze hM.1,n _ _ (Mu hX hk) ⟨.inl h.1,Lk cC,?_,?_,?_⟩⟩
 ·unfold Hq;cases hf:es.findIdx? λx=>decide (x.1=k)with
  |none=>
   simp only[aJ,bD,List.map_nil];rw[Ar];refine⟨h.2.2.1,by simp,λa ha y hy=>?_⟩;simp only[aw] at hy;subst hy;rintro rfl;obtain⟨x,hx,rfl⟩:=List.mem_map.1 ha;have:=List.findIdx?_eq_none_iff.1 hf x hx;simp at this
  |some j=>simp only;rw[Cx (λx:jy κ=>x.1) (λx=>(x.1,v,x.2.2)) (λ_=>rfl)];exact h.2.2.1
 ·unfold Hq;cases hf:es.findIdx? λx=>decide (x.1=k)with
  |none=>
   simp only[aJ,bD,List.map_nil];rw[Ar];refine⟨h.2.2.2.1,by simp,λa ha y hy=>?_⟩;simp only[aw] at hy;subst hy;rintro rfl;obtain⟨x,hx,he⟩:=List.mem_map.1 ha;have:=h.2.2.2.2 x hx;omega
  |some j=>simp only;rw[Cx (λx:jy κ=>x.2.2) (λx=>(x.1,v,x.2.2)) (λ_=>rfl)];exact h.2.2.2.1
 ·unfold Hq;cases hf:es.findIdx? λx=>decide (x.1=k)with
  |none=>
   intro x hx;rcases List.mem_append.1 hx with hx|hx
   ·have:=h.2.2.2.2 x hx;grind
   ·simp only[aw] at hx;grind
  |some j=>
   intro x hx;obtain⟨y,hy,rfl|rfl⟩:=mem_modify hx
   ·exact h.2.2.2.2 _ hy
   ·exact h.2.2.2.2 y hy
def PF (k:κ) (es:List (jy κ)):List (jy κ):=match es.findIdx? λx=>decide (x.1=k)with
 |some i=>es.eraseIdx i
 |none=>es
theorem af4 {t tk ty:Nat} {kv:κ->Value} {es:List (jy κ)} {k:κ} (h:mK w X b kv es c) (K:xk P kt kv)
  (ht:P.underlying t=some (.map kt et)) (hX: ∀k,X k->k<w.heap.size)
  (n: ∀w' X',Grown X w X' w' (some b)->mK w' X' b kv (PF k es) c->N (.tuple #[]) w' X'):
  eV P R X w true (sF #[t,tk] ty #[.map (some b),kv k]) N:=by
 intro wa hk;have hM:=h.kp hk;have hb:=hM.2.1;have cC:b<wa.heap.size:=(Array.getElem?_eq_some_iff.1 hb).1;unfold jV;have rR:(PF k es).Sublist es:=by
  unfold PF;split
  ·grind
  ·grind
 have hr:(sF #[t,tk] ty #[.map (some b),kv k]).run P wa= .ok (.tuple #[]) (setBlock wa b (.map ((PF k es).map (lO kv)).toArray c)):=by
  have e0:(#[t,tk]:Array TypeId)[0]? =some t:=rfl;have e1:(#[Value.map (some b),kv k]:Array Value)[0]? =some (.map (some b)):=rfl;have e2:(#[Value.map (some b),kv k]:Array Value)[1]? =some (kv k):=rfl;simp only[sF,e0,e1,e2,bh,run_underlying ht,aO,getObj,tQ,hb,K.jq,cL,K.find,PE];unfold PF;cases hf:es.findIdx? λx=>decide (x.1=k)with
  |none=>simp[run_setObj_map hb]
  |some j=>
   obtain⟨Ec,_,_⟩:=List.findIdx?_eq_some_iff_getElem.1 hf;simp only[cJ,aU Ec,aX,fg,run_setObj_map hb,aO,bK];simp[Array.eraseIdxIfInBounds,Ec,Go.ChangeMaps.map_eraseIdx,run_setObj_map hb]
 simp only[vS,bh,hr,aO,bK];exact⟨Ze hM.1,n _ _ (Mu hX hk) ⟨.inl h.1,Lk cC,h.2.2.1.sublist (rR.map _),h.2.2.2.1.sublist (rR.map _),λx hx=>h.2.2.2.2 x (rR.subset hx)⟩⟩
def Bg (w:World) (X:XS) (r b:Nat) (kv:κ->Value) (es:List (jy κ)) (c:Nat) (left:List (jy κ)):Prop:=
 mK w X b kv es c/\X r/\r≠b/\ ∃seen:Array Nat,w.heap[r]? =some (.mapIter (some b) c seen c)/\left=es.filter (λx=>!seen.contains x.2.2)
variable {r : Nat}
theorem Bg.kp {kv:κ->Value} {es left:List (jy κ)} (h:Bg w X r b kv es c left) (hk:Kp X w w'):Bg w' X r b kv es c left:=
 ⟨h.1.kp hk,h.2.1,h.2.2.1,let⟨s,hs,hl⟩:=h.2.2.2;⟨s,by rw[hk.block r h.2.1];exact hs,hl⟩⟩
theorem Bg.mono {kv:κ->Value} {es left:List (jy κ)} (h:Bg w X r b kv es c left) (hs: ∀k,X k->Y k):Bg w Y r b kv es c left:=
 ⟨h.1.mono hs,hs _ h.2.1,h.2.2⟩
theorem Bg.since {kv:κ->Value} {es left:List (jy κ)} (h:Bg w X r b kv es c left) (hs:aj X w Y w'):Bg w' Y r b kv es c left:=
 (h.kp hs.kp).mono hs.sub
theorem aie {t:Nat} {kv:κ->Value} {es:List (jy κ)} (h:mK w X b kv es c) (ht:P.underlying t=some (.map kt et))
  (hX: ∀k,X k->k<w.heap.size) (n: ∀r w' X',w.heap.size<=r->aj X w X' w'->Bg w' X' r b kv es c es->N (ptr r 0) w' X'):
  eV P R X w m (xh t (.map (some b))) N:=by
 intro wa hk;have hb:=(h.kp hk).2.1;have cC:b<wa.heap.size:=(Array.getElem?_eq_some_iff.1 hb).1;unfold jV;have hr:(xh t (.map (some b))).run P wa= .ok (ptr wa.heap.size 0) (wa.alloc (.mapIter (some b) c #[] c)):=by
  simp[xh,run_underlying ht,getObj,tQ,hb]
 simp only[vS,bh,hr,aO,bK];have hx:Ext wa (wa.alloc (.mapIter (some b) c #[] c)):=Ext.alloc _ _;have hs:=aj.fc hX hk hx;exact⟨Step.fc hx,n _ _ _ hk.size hs ⟨h.since hs,.inr ⟨aq _,by simp⟩,by omega,#[],heap_alloc_new wa _,(List.filter_eq_self.2 sQ).symm⟩⟩
theorem akw {ty:Nat} {kv:κ->Value} {es left:List (jy κ)} (h:Bg w X r b kv es c left) (hX: ∀k,X k->k<w.heap.size)
  (n0:left=[]-> ∀w' X',aj X w X' w'->N (.tuple #[.bool false]) w' X')
  (n1: ∀x∈left,∀w' X',Grown X w X' w' (some r)->Bg w' X' r b kv es c (left.filter λy=>decide (y.2.2≠x.2.2))->
   (∀wa,Kp X' w' wa->(qp (ptr r 0)).run P wa= .ok (.tuple #[kv x.1,x.2.1]) wa)->N (.tuple #[.bool true,kv x.1,x.2.1]) w' X'):
  eV P R X w true (Instr.next (ptr r 0) false ty) N:=by
 intro wa hk;obtain⟨hM,hXr,Og,seen,hr,ad4⟩:=h.kp hk;have hb:=hM.2.1;have rG:r<wa.heap.size:=(Array.getElem?_eq_some_iff.1 hr).1;unfold jV;have hold: ∀x∈((es.map (lO kv)).toArray).toList,x.born<c:=by
  intro x hx;simp only[cL,List.mem_map] at hx;obtain⟨y,hy,rfl⟩:=hx;exact hM.2.2.2.2 y hy
 have gv:(leftOf (es.map (lO kv)).toArray seen).toList=left.map (lO kv):=by
  rw[ad4];simp only[leftOf,Array.toList_filter,cL,List.filter_map];rfl
 rcases run_next_at (P:=P) wa ty r b c c seen _ c hr hb hold (aq _)with⟨hz,nD⟩|⟨e,he,w1,C1,nD⟩
 ·simp only[vS,bh,nD,aO,bK];have h0:left=[]:=by
   have:left.map (lO kv)=[]:=by rw[<-gv];exact List.eq_nil_of_length_eq_zero (by simpa using hz)
   simpa using this
  exact⟨Step.fc (Ext.refl _),n0 h0 _ _ (aj.fc hX hk (Ext.refl _))⟩
 ·rw[gv] at he;obtain⟨x,hx,rfl⟩:=List.mem_map.1 he;simp only[vS,bh,nD,aO,bK];have FG:Kp X w w1:=by
   rcases C1 with rfl|rfl
   ·exact hk
   ·exact⟨hk.os,hk.tape,hk.output,hk.size,hk.block⟩
  have Lv:r<w1.heap.size:=by rcases C1 with rfl|rfl<;>exact rG
  have lD:w1.heap[b]? =some (.map (es.map (lO kv)).toArray c):=by rcases C1 with rfl|rfl<;>exact hb
  have aqC:Fr X wa w1:=by rcases C1 with rfl|rfl<;>exact⟨rfl,rfl,rfl,aq _,λ_ _ _=>rfl⟩
  have wR: ∀o,(setBlock w1 r o).heap[b]? =some (.map (es.map (lO kv)).toArray c):=by
   intro o;rw[<-lD];simp[setBlock,dR,Og]
  have mN:w1.heap.size=wa.heap.size:=by rcases C1 with rfl|rfl<;>rfl
  have aoq:grow X wa (setBlock w1 r (.mapIter (some b) c (seen.push x.2.2) c))=grow X w1 (setBlock w1 r (.mapIter (some b) c (seen.push x.2.2) c)):=by
   unfold grow;rw[mN]
  have hG:=Mu (o:=.mapIter (some b) c (seen.push x.2.2) c) (b:=r) hX FG;have Oi:Bg (setBlock w1 r (.mapIter (some b) c (seen.push x.2.2) c)) (grow X w1 (setBlock w1 r (.mapIter (some b) c (seen.push x.2.2) c))) r b kv es c (left.filter λy=>decide (y.2.2≠x.2.2)):=by
   refine⟨⟨.inl hM.1,wR _,hM.2.2⟩,.inl hXr,Og,seen.push x.2.2,Lk Lv,?_⟩;rw[ad4,List.filter_filter]
   congr 1
   funext y
   by_cases hy:y.2.2=x.2.2<;>simp[hy,Array.contains_push,Bool.beq_eq_decide_eq]
  show Fr X wa _/\N _ _ (grow X wa _)
  refine⟨aqC.trans (Ze hXr),?_⟩
  show N (.tuple #[.bool true,kv x.1,x.2.1]) (setBlock w1 r (.mapIter (some b) c (seen.push x.2.2) c)) (grow X wa (setBlock w1 r (.mapIter (some b) c (seen.push x.2.2) c)))
  rw[aoq];refine n1 x hx _ _ hG Oi λwb mP=>?_;have hxe:x∈es:=by rw[ad4] at hx;exact(List.mem_filter.1 hx).1
  exact run_entry_at (P:=P) wb r b c seen (es.map (lO kv)).toArray c (lO kv x) (by rw[mP.block r (.inl hXr)];exact Lk Lv) (Oi.kp mP).1.2.1 (by rw[cL];exact List.mem_map.2 ⟨x,hxe,rfl⟩)
   (by rw[cL,List.map_map];exact hM.2.2.2.1)
theorem aif {k v:Value} (hX: ∀k,X k->k<w.heap.size)
  (h: ∀wa,Kp X w wa->(qp (ptr r 0)).run P wa= .ok (.tuple #[k,v]) wa) (n: ∀w' X',aj X w X' w'->N (.tuple #[k,v]) w' X'):
  eV P R X w m (qp (ptr r 0)) N:=by
 intro wa hk;unfold jV;simp only[vS,bh,h wa hk,aO,bK];exact⟨Step.fc (Ext.refl _),n _ _ (aj.fc hX hk (Ext.refl _))⟩
variable {P : Program} {R : Ending -> World -> Prop} {X : XS} {w : World} {m : Bool} {N : Value -> Prop}
def un (e:Value) (M:Value->Prop):Prop:=M e
def jn {α:Type} (r:α) (B:α->Prop):Prop:=B r
def ji (S f _fo _sz:Nat) (x:Value):Sem Value:=Instr.fieldAt S x f
def ld1 (t:TypeId) (x:Value):Sem Value:=js t x
def je (t:TypeId) (_n:Nat) (x:Value):Sem Value:=js t x
def st1 (t:TypeId) (_n:Nat) (x v:Value):Sem Unit:=Instr.storeAt t x v
def oS (t:TypeId) (_k:Nat) (v i:Value):Sem Value:=zc t v i
def mO (t ty:TypeId) (v:Value):Sem Value:=na #[t] ty #[v]
def pj (t ty:TypeId) (v:Value):Sem Value:=na #[t] ty #[v]
def me (t:TypeId) (_cells:Array Value) (parts:Array (Nat×Value)):Sem Value:=Instr.build t parts
def pH (_k:IntKind) (src dst:TypeId) (x:Value):Sem Value:=convert src dst x
def HR (src dst:TypeId) (x:Value):Sem Value:=convert src dst x
def D4 (t _n _e:Nat) (x i:Value):Sem Value:=Bd t x i
def gT (t _e _k len:Nat) (parts:Array (Nat×Value)):Sem Value:=jo t len parts
def pI (t _e _k _bytes ty:Nat) (v s:Value):Sem Value:=fh #[t,t] ty #[v,s]
def fdV (S f _fo _sz:Nat) (x:Value):Sem Value:=Instr.field S x f
abbrev I (x:Int):Value:=.int .i64 x
abbrev B (x:Bool):Value:=.bool x
def KZ (X:XS) (w:World) (F:JT->Nat->World->XS->Prop):Prop:=Qi X w [] [] λJ n _ w X=>F J n w X
def HS (X:XS) (w:World) (v1:Value) (c1:Nat) (F:JT->Nat->Value->World->XS->Prop):Prop:=Qi X w [v1] [c1] λJ n e w X=>F J n (e c1) w X
def HT (X:XS) (w:World) (v1 v2:Value) (c1 c2:Nat) (F:JT->Nat->Value->Value->World->XS->Prop):Prop:=
 Qi X w [v1,v2] [c1,c2] λJ n e w X=>F J n (e c1) (e c2) w X
def HU (X:XS) (w:World) (v1 v2 v3:Value) (c1 c2 c3:Nat) (F:JT->Nat->Value->Value->Value->World->XS->Prop):Prop:=
 Qi X w [v1,v2,v3] [c1,c2,c3] λJ n e w X=>F J n (e c1) (e c2) (e c3) w X
def HV (X:XS) (w:World) (v1 v2 v3 v4:Value) (c1 c2 c3 c4:Nat) (F:JT->Nat->Value->Value->Value->Value->World->XS->Prop):Prop:=
 Qi X w [v1,v2,v3,v4] [c1,c2,c3,c4] λJ n e w X=>F J n (e c1) (e c2) (e c3) (e c4) w X
def HW (X:XS) (w:World) (v1 v2 v3 v4 v5:Value) (c1 c2 c3 c4 c5:Nat) (F:JT->Nat->Value->Value->Value->Value->Value->World->XS->Prop):Prop:=
 Qi X w [v1,v2,v3,v4,v5] [c1,c2,c3,c4,c5] λJ n e w X=>F J n (e c1) (e c2) (e c3) (e c4) (e c5) w X
def K0 (X:XS) (w:World) (v1 v2 v3 v4 v5 v6:Value) (c1 c2 c3 c4 c5 c6:Nat) (F:JT->Nat->Value->Value->Value->Value->Value->Value->World->XS->Prop):Prop:=
 Qi X w [v1,v2,v3,v4,v5,v6] [c1,c2,c3,c4,c5,c6] λJ n e w X=>F J n (e c1) (e c2) (e c3) (e c4) (e c5) (e c6) w X
def K3 (X:XS) (w:World) (v1 v2 v3 v4 v5 v6 v7:Value) (c1 c2 c3 c4 c5 c6 c7:Nat) (F:JT->Nat->Value->Value->Value->Value->Value->Value->Value->World->XS->Prop):Prop:=
 Qi X w [v1,v2,v3,v4,v5,v6,v7] [c1,c2,c3,c4,c5,c6,c7] λJ n e w X=>F J n (e c1) (e c2) (e c3) (e c4) (e c5) (e c6) (e c7) w X
def K4 (X:XS) (w:World) (v1 v2 v3 v4 v5 v6 v7 v8:Value) (c1 c2 c3 c4 c5 c6 c7 c8:Nat) (F:JT->Nat->Value->Value->Value->Value->Value->Value->Value->Value->World->XS->Prop):Prop:=
 Qi X w [v1,v2,v3,v4,v5,v6,v7,v8] [c1,c2,c3,c4,c5,c6,c7,c8] λJ n e w X=>F J n (e c1) (e c2) (e c3) (e c4) (e c5) (e c6) (e c7) (e c8) w X
def K5 (J:JT) (n:Nat) (w:World) (X:XS):Prop:=EV J n [] w X
def EW (J:JT) (n:Nat) (a:Value) (w:World) (X:XS):Prop:=EV J n [a] w X
def EX (J:JT) (n:Nat) (a b:Value) (w:World) (X:XS):Prop:=EV J n [a,b] w X
def HX (J:JT) (n:Nat) (a b c:Value) (w:World) (X:XS):Prop:=EV J n [a,b,c] w X
def HY (J:JT) (n:Nat) (a b c d:Value) (w:World) (X:XS):Prop:=EV J n [a,b,c,d] w X
def HZ (J:JT) (n:Nat) (a b c d f:Value) (w:World) (X:XS):Prop:=EV J n [a,b,c,d,f] w X
def K6 (J:JT) (n:Nat) (a b c d f g:Value) (w:World) (X:XS):Prop:=EV J n [a,b,c,d,f,g] w X
def K7 (J:JT) (n:Nat) (a b c d f g h:Value) (w:World) (X:XS):Prop:=EV J n [a,b,c,d,f,g,h] w X
def K8 (J:JT) (n:Nat) (a b c d f g h i:Value) (w:World) (X:XS):Prop:=EV J n [a,b,c,d,f,g,h,i] w X
def J1 (I:Nat->Value->World->XS->Prop):JT:=λn vs w X=>match vs with
 |[a]=>I n a w X
 |_=>False
def J2 (I:Nat->Value->Value->World->XS->Prop):JT:=λn vs w X=>match vs with
 |[a,b]=>I n a b w X
 |_=>False
def J3 (I:Nat->Value->Value->Value->World->XS->Prop):JT:=λn vs w X=>match vs with
 |[a,b,c]=>I n a b c w X
 |_=>False
def J4 (I:Nat->Value->Value->Value->Value->World->XS->Prop):JT:=λn vs w X=>match vs with
 |[a,b,c,d]=>I n a b c d w X
 |_=>False
def J5 (I:Nat->Value->Value->Value->Value->Value->World->XS->Prop):JT:=λn vs w X=>match vs with
 |[a,b,c,d,f]=>I n a b c d f w X
 |_=>False
theorem gh {v1 c1 F} (I:Nat->Value->World->XS->Prop) (n:Nat) (h0:I n v1 w X)
  (h: ∀n a w' X',I n a w' X'->F (J1 I) n a w' X'):HS X w v1 c1 F:=⟨J1 I,⟨n,h0⟩,λn e w' X' _ hj=>h n (e c1) w' X' hj⟩
theorem gM {v1 v2 c1 c2 F} (I:Nat->Value->Value->World->XS->Prop) (n:Nat) (h0:I n v1 v2 w X)
  (h: ∀n a b w' X',I n a b w' X'->F (J2 I) n a b w' X'):HT X w v1 v2 c1 c2 F:=⟨J2 I,⟨n,h0⟩,λn e w' X' _ hj=>h n (e c1) (e c2) w' X' hj⟩
theorem C8 {v1 v2 v3 c1 c2 c3 F} (I:Nat->Value->Value->Value->World->XS->Prop) (n:Nat) (h0:I n v1 v2 v3 w X)
  (h: ∀n a b c w' X',I n a b c w' X'->F (J3 I) n a b c w' X'):HU X w v1 v2 v3 c1 c2 c3 F:=⟨J3 I,⟨n,h0⟩,λn e w' X' _ hj=>h n (e c1) (e c2) (e c3) w' X' hj⟩
theorem afk {v1 v2 v3 v4 c1 c2 c3 c4 F} (I:Nat->Value->Value->Value->Value->World->XS->Prop) (n:Nat) (h0:I n v1 v2 v3 v4 w X)
  (h: ∀n a b c d w' X',I n a b c d w' X'->F (J4 I) n a b c d w' X'):HV X w v1 v2 v3 v4 c1 c2 c3 c4 F:=
 ⟨J4 I,⟨n,h0⟩,λn e w' X' _ hj=>h n (e c1) (e c2) (e c3) (e c4) w' X' hj⟩
theorem amv {v1 v2 v3 v4 v5 c1 c2 c3 c4 c5 F} (I:Nat->Value->Value->Value->Value->Value->World->XS->Prop) (n:Nat) (h0:I n v1 v2 v3 v4 v5 w X)
  (h: ∀n a b c d f w' X',I n a b c d f w' X'->F (J5 I) n a b c d f w' X'):HW X w v1 v2 v3 v4 v5 c1 c2 c3 c4 c5 F:=
 ⟨J5 I,⟨n,h0⟩,λn e w' X' _ hj=>h n (e c1) (e c2) (e c3) (e c4) (e c5) w' X' hj⟩
theorem fp {I n a} (k:Nat) (hk:k<n) (h:I k a w X):EW (J1 I) n a w X:=⟨k,hk,h⟩
theorem fK {I n a b} (k:Nat) (hk:k<n) (h:I k a b w X):EX (J2 I) n a b w X:=⟨k,hk,h⟩
theorem AV {I n a b c} (k:Nat) (hk:k<n) (h:I k a b c w X):HX (J3 I) n a b c w X:=⟨k,hk,h⟩
theorem afl {I n a b c d} (k:Nat) (hk:k<n) (h:I k a b c d w X):HY (J4 I) n a b c d w X:=⟨k,hk,h⟩
theorem amw {I n a b c d f} (k:Nat) (hk:k<n) (h:I k a b c d f w X):HZ (J5 I) n a b c d f w X:=⟨k,hk,h⟩
theorem cK {α:Type} {r:α} {F:α->Prop} (h:F r):jn r F:=h
theorem gY {α:Type} {r:α} {F:α->Prop} (Q:α->Prop) (h:Q r) (k: ∀c,Q c->F c):jn r F:=k r h
variable {M : Value -> Prop}
theorem aob {e:Value} (e':Value) (h:e=e') (k:M e'):un e M:=h▸k
variable {a : Value} {i : Nat}
theorem akx {l:List Value} (h:l[i]? =some a) (k:M a):un (cellOf (.agg l.toArray) i) M:=by
 have:cellOf (.agg l.toArray) i=a:=by simp[cellOf,aW,List.getD,h]
 unfold un;grind
variable {o : Nat}
theorem af5 {l:List Value} (k:M (.agg ((l.drop o).take n).toArray)):un (fD (.agg l.toArray) o n) M:=by
 have:fD (.agg l.toArray) o n= .agg ((l.drop o).take n).toArray:=by simp[fD,aW]
 assumption
theorem Ys {c:Array Value} (k:M (.agg c)):un (.agg (aW (.agg c))) M:=k
theorem aky {v:Value} (k:M v):un (vu (.bool true) true v) M:=k
theorem akz {v:Value} (k:M v):un (vu (.bool false) false v) M:=k
theorem aih {v:Value} (k:M undef):un (vu (.bool true) false v) M:=k
theorem aii {v:Value} (k:M undef):un (vu (.bool false) true v) M:=k
theorem akA {v:Value} {q:Bool} (k:M undef):un (vu undef q v) M:=by
 have:vu undef q v=undef:=by rfl
 assumption
variable {A : Prop}
theorem ad5 {b:Bool} (h:b=true) (k:A):jq b A:=by subst h;exact k
variable {C : Prop}
theorem abK (h:A):mE (.bool true) A C:=⟨λ_=>h,λh=>absurd h sQ⟩
theorem SJ (h:C):mE (.bool false) A C:=⟨λh=>absurd h sQ,λ_=>h⟩
theorem amx {s:Sem Next} {want:Bool} (h:N undef):nQ P X w undef want s N:=by
 have e:oM undef want=false:=by rfl
 grind [nQ]
variable {s : Sem Value}
theorem aij (h:aZ P X w s N):nQ P X w (.bool true) true (vS s) N:=Nc h
theorem aik (h:aZ P X w s N):nQ P X w (.bool false) false (vS s) N:=Nc h
variable {xo yo : Operand}
section
variable {k : IntKind} {a b : Int}
theorem ad6 (hT:a<b->N (.bool true)) (hF: ¬a<b->N (.bool false)):aZ P X w (binOp .lss t (.int k a) (.int k b)) N:=
 ajE gQ
theorem ajr (hT:a<=b->N (.bool true)) (hF: ¬a<=b->N (.bool false)):aZ P X w (binOp .leq t (.int k a) (.int k b)) N:=
 ajF gQ
theorem ad7 (hT:a>b->N (.bool true)) (hF: ¬a>b->N (.bool false)):aZ P X w (binOp .gtr t (.int k a) (.int k b)) N:=
 ajG gQ
theorem ad8 (hT:a>=b->N (.bool true)) (hF: ¬a>=b->N (.bool false)):aZ P X w (binOp .geq t (.int k a) (.int k b)) N:=
 ajH gQ
theorem ad9 (hT:a=b->N (.bool true)) (hF: ¬a=b->N (.bool false)):aZ P X w (de .eql t xo yo (.int k a) (.int k b)) N:=
 ajI gQ
theorem aea (hT: ¬a=b->N (.bool true)) (hF:a=b->N (.bool false)):aZ P X w (de .neq t xo yo (.int k a) (.int k b)) N:=
 ajJ gQ
theorem amy (h:a<b) (k':N (.bool true)):aZ P X w (binOp .lss t (.int k a) (.int k b)) N:=ad6 (λ_=>k') (λhn=>absurd h hn)
theorem amz (h: ¬a<b) (k':N (.bool false)):aZ P X w (binOp .lss t (.int k a) (.int k b)) N:=ad6 (λhn=>absurd hn h) (λ_=>k')
theorem amA (h: ¬a<=b) (k':N (.bool false)):aZ P X w (binOp .leq t (.int k a) (.int k b)) N:=ajr (λhn=>absurd hn h) (λ_=>k')
theorem amB (h:a>b) (k':N (.bool true)):aZ P X w (binOp .gtr t (.int k a) (.int k b)) N:=ad7 (λ_=>k') (λhn=>absurd h hn)
theorem amC (h: ¬a>b) (k':N (.bool false)):aZ P X w (binOp .gtr t (.int k a) (.int k b)) N:=ad7 (λhn=>absurd hn h) (λ_=>k')
theorem amD (h:a>=b) (k':N (.bool true)):aZ P X w (binOp .geq t (.int k a) (.int k b)) N:=ad8 (λ_=>k') (λhn=>absurd h hn)
theorem amE (h: ¬a>=b) (k':N (.bool false)):aZ P X w (binOp .geq t (.int k a) (.int k b)) N:=ad8 (λhn=>absurd hn h) (λ_=>k')
theorem amF (h:a=b) (k':N (.bool true)):aZ P X w (de .eql t xo yo (.int k a) (.int k b)) N:=ad9 (λ_=>k') (λhn=>absurd h hn)
theorem amG (h: ¬a=b) (k':N (.bool false)):aZ P X w (de .eql t xo yo (.int k a) (.int k b)) N:=ad9 (λhn=>absurd hn h) (λ_=>k')
theorem amH (h: ¬a=b) (k':N (.bool true)):aZ P X w (de .neq t xo yo (.int k a) (.int k b)) N:=aea (λ_=>k') (λhn=>absurd hn h)
theorem amI (h:a=b) (k':N (.bool false)):aZ P X w (de .neq t xo yo (.int k a) (.int k b)) N:=aea (λhn=>absurd h hn) (λ_=>k')
theorem ajs (h1: -(2^63)<=a+b) (h2:a+b<2^63) (h:N (.int .i64 (a+b))):aZ P X w (binOp .add t (.int .i64 a) (.int .i64 b)) N:=
 oD (by rw[wrap_i64 h1 h2];exact h)
theorem aor (h1: -(2^63)<=a-b) (h2:a-b<2^63) (h:N (.int .i64 (a-b))):aZ P X w (binOp .sub t (.int .i64 a) (.int .i64 b)) N:=
 abu (by rw[wrap_i64 h1 h2];exact h)
theorem an8 (h1: -(2^63)<=a*b) (h2:a*b<2^63) (h:N (.int .i64 (a*b))):aZ P X w (binOp .mul t (.int .i64 a) (.int .i64 b)) N:=
 Sf (by rw[wrap_i64 h1 h2];exact h)
end
theorem Jh {a b:ByteArray} :a.toList=b.toList↔a=b:=by
 constructor
 ·intro h;rw[oO,oO] at h;obtain⟨⟨x⟩⟩:=a;simp_all
 grind
def zr (a b:ByteArray):Bool:=bY a.toList b.toList
section
variable {a b : ByteArray}
theorem amJ (hT:a=b->N (.bool true)) (hF: ¬a=b->N (.bool false)):aZ P X w (de .eql t xo yo (.string a) (.string b)) N:=
 agN (by grind [Jh])
theorem amK (hT: ¬a=b->N (.bool true)) (hF:a=b->N (.bool false)):aZ P X w (de .neq t xo yo (.string a) (.string b)) N:=
 agO (by simp only[ne_eq,Jh];by_cases h:a=b;(· grind);(grind))
theorem amL (hT:zr a b=true->N (.bool true)) (hF:zr a b=false->N (.bool false)):aZ P X w (binOp .lss t (.string a) (.string b)) N:=
 agP (by unfold zr at hT hF;cases h:bY a.toList b.toList;(· exact hF h);(grind))
theorem amM (hT:zr a b=false->N (.bool true)) (hF:zr a b=true->N (.bool false)):aZ P X w (binOp .geq t (.string a) (.string b)) N:=
 agQ (by unfold zr at hT hF;cases h:bY a.toList b.toList;(· exact hT h);(grind))
theorem amO (hT:zr a b=true\/a=b->N (.bool true)) (hF:zr a b=false-> ¬a=b->N (.bool false)):aZ P X w (binOp .leq t (.string a) (.string b)) N:=
 agR (by
  unfold zr at hT hF;simp only[Jh];cases h:bY a.toList b.toList
  ·by_cases h2:a=b
   ·grind
   grind
  grind)
theorem amP (hT:zr a b=false-> ¬a=b->N (.bool true)) (hF:zr a b=true\/a=b->N (.bool false)):aZ P X w (binOp .gtr t (.string a) (.string b)) N:=
 agS (by
  unfold zr at hT hF;simp only[Jh];cases h:bY a.toList b.toList
  ·by_cases h2:a=b
   ·grind
   grind
  grind)
end
def qT (a b:Nat):Bool:=FloatKind.f64.format.order a b==some .lt
def pR (a b:Nat):Bool:=FloatKind.f64.format.order a b==some .eq
def J0 (a b:Nat):Bool:=FloatKind.f64.format.order a b==some .gt
section
variable {a : Nat}
theorem amQ (hT:qT a b=true->N (.bool true)) (hF:qT a b=false->N (.bool false)):aZ P X w (binOp .lss t (.float .f64 a) (.float .f64 b)) N:=
 agT (by grind [qT])
theorem amR (hT:J0 a b=true->N (.bool true)) (hF:J0 a b=false->N (.bool false)):aZ P X w (binOp .gtr t (.float .f64 a) (.float .f64 b)) N:=
 agV (by grind [J0])
theorem amS (hT:qT a b=true\/pR a b=true->N (.bool true)) (hF:qT a b=false->pR a b=false->N (.bool false)):aZ P X w (binOp .leq t (.float .f64 a) (.float .f64 b)) N:=
 agU (by grind [qT,pR])
theorem amT (hT:J0 a b=true\/pR a b=true->N (.bool true)) (hF:J0 a b=false->pR a b=false->N (.bool false)):aZ P X w (binOp .geq t (.float .f64 a) (.float .f64 b)) N:=
 agW (by grind [J0,pR])
theorem amU (hT:pR a b=true->N (.bool true)) (hF:pR a b=false->N (.bool false)):aZ P X w (de .eql t xo yo (.float .f64 a) (.float .f64 b)) N:=
 agX (by grind [pR])
theorem amV (hT:pR a b=false->N (.bool true)) (hF:pR a b=true->N (.bool false)):aZ P X w (de .neq t xo yo (.float .f64 a) (.float .f64 b)) N:=
 agY (by grind [pR])
end
theorem Yr (h:N (.bool false)):aZ P X w (Op.unary .not (.bool true)) N:=abv h
theorem afD (h:N (.bool true)):aZ P X w (Op.unary .not (.bool false)) N:=abv h
section
variable {a b c a' b' c' : Int}
theorem YW (h:j7 P t 3=true) (hT:a=a'->b=b'->c=c'->N (.bool true)) (hF: ¬(a=a'/\b=b'/\c=c')->N (.bool false)):
  aZ P X w (de .eql t xo yo (.agg #[.int .i64 a,.int .i64 b,.int .i64 c]) (.agg #[.int .i64 a',.int .i64 b',.int .i64 c'])) N:=
 aia h gQ
theorem amW (h:j7 P t 3=true) (hT: ¬(a=a'/\b=b'/\c=c')->N (.bool true)) (hF:a=a'->b=b'->c=c'->N (.bool false)):
  aZ P X w (de .neq t xo yo (.agg #[.int .i64 a,.int .i64 b,.int .i64 c]) (.agg #[.int .i64 a',.int .i64 b',.int .i64 c'])) N:=
 aib h gQ
end
theorem aos {v:Value} {l:List Value} (h:Cells w X b o l) (hi:lp P t=some (false,1)) (hl:l[0]? =some v) (k:N v):
  aZ P X w (ld1 t (ptr b o)) N:=by
 cases l with
 |nil=>cases hl
 |cons x r=>
  simp only[j6,ah] at hl;subst hl;exact afZ h hi k
variable {ty : TypeId}
theorem aot {s:ByteArray} (ht:P.underlying t=some .string) (k:N (.int .i64 s.size)):aZ P X w (pj t ty (.string s)) N:=ah7 ht k
variable {parts : Array (Nat × Value)}
theorem aeb {cells:Array Value} (h:P.built t parts.toList=some cells) (k:N (.agg cells)):
  aZ P X w (me t cells parts) N:=af1 cells h k
theorem Ji {a:Addr} (h:N (.pointer (some a))):nO P X w (bq (.pointer (some a))) N:=ajL h
theorem ajh {vs:Array Value} {v:Value} (hi:vs[i]? =some v) (h:N v):aZ P X w (gx (.tuple vs) i) N:=Od hi h
variable {args : Array Value} {f : FuncId}
theorem Nw {b:Bool} {N:Value->World->XS->Prop}
  (h:Pure P f args (.bool b)) (hf:enters P f=true) (hX: ∀k,X k->k<w.heap.size)
  (hT:b=true-> ∀w' X',aj X w X' w'->N (.bool true) w' X') (hF:b=false-> ∀w' X',aj X w X' w'->N (.bool false) w' X'):
  eC P R X w m f args N:=abX hf hX h (by
  cases b
  ·exact hF rfl
  grind)
theorem se {v:Value} {N:Value->World->XS->Prop}
  (h:Pure P f args v) (hf:enters P f=true) (hX: ∀k,X k->k<w.heap.size)
  (k: ∀w' X',aj X w X' w'->N v w' X'):eC P R X w m f args N:=abX hf hX h k
structure eh (F X:XS) (w:World) (X':XS) (w':World):Prop where
 os:w'.os=w.os
 tape:w'.tape=w.tape
 output:w'.output=w.output
 size:w.heap.size<=w'.heap.size
 block: ∀k,X k-> ¬F k->w'.heap[k]? =w.heap[k]?
 sub: ∀k,X k->X' k
 has: ∀k,X' k->k<w'.heap.size
variable {F X' : XS}
theorem eh.since (c:eh F X w X' w') (hY: ∀k,Y k->X k/\ ¬F k):aj Y w X' w':=
 ⟨⟨c.os,c.tape,c.output,c.size,λk hk=>c.block k (hY k hk).1 (hY k hk).2⟩,λk hk=>c.sub k (hY k hk).1,c.has⟩
variable {w0 : World} {X0 : XS}
theorem aj.eo (h:aj X0 w0 X w) (c:eh F X w X' w') (hd: ∀k,X0 k-> ¬F k):aj X0 w0 X' w':=
 ⟨⟨c.os.trans h.kp.os,c.tape.trans h.kp.tape,c.output.trans h.kp.output,ad h.kp.size c.size,
  λk hk=>(c.block k (h.sub k hk) (hd k hk)).trans (h.kp.block k hk)⟩,λk hk=>c.sub k (h.sub k hk),c.has⟩
theorem eh.aec (hX: ∀k,X k->k<w.heap.size) (hk:Kp X w wa) (hf:Fr F wa w'):eh F X w (grow X wa w') w':=
 ⟨hf.os.trans hk.os,hf.tape.trans hk.tape,hf.output.trans hk.output,ad hk.size hf.size,
  λk hx hn=>(hf.block k (av (hX k hx) hk.size) hn).trans (hk.block k hx),λ_ h=>.inl h,
  λk h=>h.elim (λh=>av (hX k h) (ad hk.size hf.size)) (λh=>h.2)⟩
theorem eh.oh (h:aj X w X' w') (F:XS):eh F X w X' w':=
 ⟨h.kp.os,h.kp.tape,h.kp.output,h.kp.size,λk hk _=>h.kp.block k hk,h.sub,h.has⟩
theorem Grown.eo {row:Option Nat} (g:Grown X w X' w' row):eh (λk=>some k=row) X w X' w':=
 ⟨g.os,g.tape,g.output,g.size,λk hk hn=>g.block k hk hn,g.sub,g.has⟩
variable {lC : World}
theorem eh.trans {wM:XS} (a:eh F X w X' w') (b:eh F X' w' wM lC):eh F X w wM lC:=
 ⟨b.os.trans a.os,b.tape.trans a.tape,b.output.trans a.output,ad a.size b.size,
  λk hk hn=>(b.block k (a.sub k hk) hn).trans (a.block k hk hn),λk hk=>b.sub k (a.sub k hk),b.has⟩
theorem eh.mono {G:XS} (a:eh F X w X' w') (h: ∀k,X k->F k->G k):eh G X w X' w':=
 ⟨a.os,a.tape,a.output,a.size,λk hk hn=>a.block k hk λhf=>hn (h k hk hf),a.sub,a.has⟩
def made (w w':World):XS:=λg=>w.heap.size<=g/\g<w'.heap.size
def out (F:XS) (w:World):XS:=λk=>k<w.heap.size/\ ¬F k
def vR (F:XS) (w0:World) (Q:Value->World->Prop):Ending->World->Prop:=λe w'=> ∃v,e= .returned v/\Fr F w0 w'/\Q v w'
def Ct (P:Program) (f:FuncId) (args:Array Value) (w:World) (X F:XS) (Q:Value->World->World->Prop):Prop:=
 ∀wa,Kp X w wa->Calls P f args wa (vR F wa λv w'=>Q v wa w')
variable {Q : Value -> World -> World -> Prop}
theorem Ct.mono {Q':Value->World->World->Prop} (h:Ct P f args w X F Q) (k: ∀v wa w',Kp X w wa->Q v wa w'->Q' v wa w'):Ct P f args w X F Q':=
 λwa hk=>(h wa hk).mono λ_ _ ⟨v,he,hf,hq⟩=>⟨v,he,hf,k v wa _ hk hq⟩
theorem cA {N:Value->World->XS->Prop}
  (h:Ct P f args w X nX Q) (hf:enters P f=true) (hX: ∀k,X k->k<w.heap.size)
  (k: ∀v wa w' X',Q v wa w'->w.heap.size<=wa.heap.size->(∀k,made wa w' k->X' k)->aj X w X' w'->N v w' X'):eC P R X w m f args N:=
 Zb (Q:=Q) hf hX h λv wa w' X' hk _ hn hq hs=>k v wa w' X' hq hk.size (λg hg=>hn g hg.1 hg.2) hs
theorem yV {N:Value->World->XS->Prop}
  (h:Ct P f args w X F Q) (hf:enters P f=true) (hX: ∀k,X k->k<w.heap.size) (hF: ∀k,F k->X k)
  (k: ∀v wa w' X',Q v wa w'->w.heap.size<=wa.heap.size->(∀k,made wa w' k->X' k)->Kp X w wa->eh F X w X' w'->N v w' X'):eC P R X w true f args N:=by
 intro wa hk;unfold jV;rw[nZ hf args wa];refine⟨rfl,(h wa hk).mono ?_⟩;rintro e w' ⟨v,rfl,xe,hq⟩;exact⟨xe.mono hF,k v wa w' _ hq hk.size (λg hg=>.inr hg) hk (eh.aec hX hk xe)⟩
theorem cG {v:Value} {Q:Value->World->Prop} (hs:aj (bV w0) w0 X w) (h: ∀wa,Kp X w wa->Q v wa):fin (vR nX w0 Q) X w v:=
 λ_ hk=>⟨v,rfl,hs.ext hk,h _ hk⟩
theorem abZ {v:Value} {Q:Value->World->Prop} (hs:aj (out F w0) w0 X w) (h: ∀wa,Kp X w wa->Q v wa):fin (vR F w0 Q) X w v:=
 λ_ hk=>⟨v,rfl,⟨hk.os.trans hs.kp.os,hk.tape.trans hs.kp.tape,hk.output.trans hs.kp.output,ad hs.kp.size hk.size,
  λk hl hn=>(hk.block k (hs.sub k ⟨hl,hn⟩)).trans (hs.kp.block k ⟨hl,hn⟩)⟩,h _ hk⟩
theorem aj.out (F:XS) (w:World):aj (out F w) w (bV w) w:=⟨Kp.refl _ _,λ_ h=>h.1,λ_ h=>h⟩
variable {rows : List (List Value)} {e k lo : Nat}
theorem Own.up {v:Value} (h:Own w' (made wa w') wa.heap.size e k v rows) (gy: ∀k,made wa w' k->X' k) (hl:lo<=wa.heap.size):
  Own w' X' lo e k v rows:=(h.mono gy).low hl
theorem Own.eo {v:Value} (h:Own w X lo e k v rows) (c:eh F X w X' w') (hd: ∀g,v.ownBlock=some g-> ¬F g):Own w' X' lo e k v rows:=by
 obtain⟨h1,h2,h3⟩:=h;refine⟨h1,⟨h2.1,?_⟩,λg hg=>c.sub g (h3 g hg)⟩;rcases h2.2 with h|⟨g,cap,cur,rfl,hb,hg,hr⟩
 ·exact .inl h
 ·exact .inr ⟨g,cap,cur,rfl,hb,by rw[c.block g (h3 g rfl) (hd g rfl)];exact hg,hr⟩
theorem Sl.sub {v:Value} (h:Sl w X k v rows) (hs: ∀k,X k->k<w.heap.size->Y k):Sl w Y k v rows:=by
 obtain⟨h1,h2,base,cap,hv,hc,hr⟩:=h;exact⟨h1,h2,base,cap,hv,λcj=>let⟨b,o,hb,jD⟩:=hc cj;⟨b,o,hb,hs _ jD.1 jD.lt,jD.2⟩,hr⟩
theorem Sl.len {v:Value} (h:Sl w X k v rows):rows.length<=2^63-1:=h.2.1
theorem Sl.ib {α:Type} {enc:α->List Value} {v:Value} {xs:List α} (h:Sl w X k v (xs.map enc)):xs.length<=2^63-1:=by have:=h.2.1;grind
theorem Cells.sub {l:List Value} (h:Cells w X b o l) (hs: ∀k,X k->k<w.heap.size->Y k):Cells w Y b o l:=⟨hs _ h.1 h.lt,h.2⟩
theorem Cells.bV {l:List Value} (h:Cells w X b o l):Cells w (bV w) b o l:=⟨h.lt,h.2⟩
abbrev SP:=Program->(Ending->World->Prop)->XS->World->Prop
def bS (s:Sem Value) (N:Value->SP):SP:=λP R X w=>aZ P X w s λv=>N v P R X w
def pS (s:Sem Next) (N:Value->SP):SP:=λP R X w=>nO P X w s λv=>N v P R X w
def pT (g:Value) (want:Bool) (s:Sem Next) (N:Value->SP):SP:=λP R X w=>nQ P X w g want s λv=>N v P R X w
def gO (e:Value) (M:Value->SP):SP:=λP R X w=>un e λv=>M v P R X w
def sh (m:Bool) (s:Sem Value) (N:Value->SP):SP:=λP R X w=>eV P R X w m s λv w X=>N v P R X w
def ZcU (m:Bool) (s:Sem Unit) (N:Value->SP):SP:=λP R X w=>eU P R X w m s λv w X=>N v P R X w
def jA (f:FuncId) (args:Array Value) (N:Value->SP):SP:=λP R X w=>eC P R X w true f args λv w X=>N v P R X w
def ml (f:FuncId) (args:Array Value) (N:Value->SP):SP:=λP R X w=>eC P R X w false f args λv w X=>N v P R X w
def Dt (m:Bool) (f:Value) (args:Array Value) (N:Value->SP):SP:=λP R X w=>eF P R X w m f args λv w X=>N v P R X w
def ZcE (g:Value) (want:Bool) (A B:SP):SP:=λP R X w=>gE g want (A P R X w) (B P R X w)
def aS (v:Value):SP:=λ_ R X w=>fin R X w v
def jg (b:Bool) (A:SP):SP:=λP R X w=>jq b (A P R X w)
def im (c:Value) (A B:SP):SP:=λP R X w=>mE c (A P R X w) (B P R X w)
def lE (A B:SP):SP:=λP R X w=>And (A P R X w) (B P R X w)
def ZcR (R':Ending->World->Prop) (A:SP):SP:=λP _ X w=>A P R' X w
def Mw (a:Value) (n:Nat) (N:Value->SP):SP:=λP R X w=>aZ P X w (gx a n) λv=>N v P R X w
def kh (t:TypeId) (x:Value) (N:Value->SP):SP:=λP R X w=>aZ P X w (ld1 t x) λv=>N v P R X w
def iZ (op:BinOp) (t:TypeId) (x y:Value) (N:Value->SP):SP:=λP R X w=>aZ P X w (binOp op t x y) λv=>N v P R X w
def Zf (op:BinOp) (t:TypeId) (n:Nat) (x c:Value) (N:Value->SP):SP:=λP R X w=>aZ P X w (de op t (.tmp n) (.const c) x c) λv=>N v P R X w
def Du (op:BinOp) (t:TypeId) (n m:Nat) (x y:Value) (N:Value->SP):SP:=λP R X w=>aZ P X w (de op t (.tmp n) (.tmp m) x y) λv=>N v P R X w
def si (S f o z:Nat) (x:Value) (N:Value->SP):SP:=λP R X w=>aZ P X w (ji S f o z x) λv=>N v P R X w
def Zg (t ty:TypeId) (v:Value) (N:Value->SP):SP:=λP R X w=>aZ P X w (mO t ty v) λv=>N v P R X w
def sO (t:TypeId) (k:Nat) (v i:Value) (N:Value->SP):SP:=λP R X w=>aZ P X w (oS t k v i) λv=>N v P R X w
def nv (op:BinOp) (t:TypeId) (x y:Value) (A B:SP):SP:=λP R X w=>aZ P X w (binOp op t x y) λv=>mE v (A P R X w) (B P R X w)
def FK (op:BinOp) (t:TypeId) (n:Nat) (x c:Value) (A B:SP):SP:=λP R X w=>aZ P X w (de op t (.tmp n) (.const c) x c) λv=>mE v (A P R X w) (B P R X w)
def Dv (op:BinOp) (t:TypeId) (n m:Nat) (x y:Value) (A B:SP):SP:=λP R X w=>aZ P X w (de op t (.tmp n) (.tmp m) x y) λv=>mE v (A P R X w) (B P R X w)
def xV (S f o z:Nat) (x:Value) (t:TypeId) (N:Value->SP):SP:=λP R X w=>aZ P X w (ji S f o z x) λa=>aZ P X w (ld1 t a) λv=>N v P R X w
def GK (S f o z:Nat) (x:Value) (t:TypeId) (N:Value->SP):SP:=λP R X w=>nO P X w (bq x) λy=>aZ P X w (ji S f o z y) λa=>aZ P X w (ld1 t a) λv=>N v P R X w
def Zcs (S f o z:Nat) (x:Value) (t:TypeId) (n:Nat) (v:Value) (A:SP):SP:=λP R X w=>aZ P X w (ji S f o z x) λa=>eU P R X w true (st1 t n a v) λ_ w X=>A P R X w
def jB (S f o z:Nat) (x:Value) (t:TypeId) (n:Nat) (v:Value) (A:SP):SP:=λP R X w=>nO P X w (bq x) λy=>aZ P X w (ji S f o z y) λa=>eU P R X w true (st1 t n a v) λ_ w X=>A P R X w
def zX (t:TypeId) (k:Nat) (v i:Value) (S f o z:Nat) (t':TypeId) (N:Value->SP):SP:=λP R X w=>aZ P X w (oS t k v i) λx=>aZ P X w (ji S f o z x) λa=>aZ P X w (ld1 t' a) λv=>N v P R X w
def kr (t:TypeId) (k:Nat) (v i:Value) (t':TypeId) (N:Value->SP):SP:=λP R X w=>aZ P X w (oS t k v i) λx=>aZ P X w (ld1 t' x) λv=>N v P R X w
def ku (a:Value) (N:Value->Value->SP):SP:=λP R X w=>aZ P X w (gx a 0) λx=>aZ P X w (gx a 1) λy=>N x y P R X w
def Eh (g v:Value) (s:Value->Sem Value) (N:Value->SP):SP:=λP R X w=>un (vu g true v) λu=>nQ P X w g true (vS (s u)) λy=>nO P X w (iM g y (.bool false)) λv=>N v P R X w
def zd (g v:Value) (op:BinOp) (t:TypeId) (n:Nat) (c:Value) (N:Value->SP):SP:=λP R X w=>un (vu g true v) λu=>nQ P X w g true (vS (de op t (.tmp n) (.const c) u c)) λy=>nO P X w (iM g y (.bool false)) λv=>N v P R X w
def pU (g v:Value) (op:BinOp) (t:TypeId) (z:Value) (N:Value->SP):SP:=λP R X w=>un (vu g true v) λu=>nQ P X w g true (vS (binOp op t u z)) λy=>nO P X w (iM g y (.bool false)) λv=>N v P R X w
def Zgo (g v:Value) (s:Value->Sem Value) (N:Value->SP):SP:=λP R X w=>un (vu g false v) λu=>nQ P X w g false (vS (s u)) λy=>nO P X w (iM g (.bool true) y) λv=>N v P R X w
def Mx (g v:Value) (op:BinOp) (t:TypeId) (n:Nat) (c:Value) (N:Value->SP):SP:=λP R X w=>un (vu g false v) λu=>nQ P X w g false (vS (de op t (.tmp n) (.const c) u c)) λy=>nO P X w (iM g (.bool true) y) λv=>N v P R X w
def Hr (g v:Value) (op:BinOp) (t:TypeId) (z:Value) (N:Value->SP):SP:=λP R X w=>un (vu g false v) λu=>nQ P X w g false (vS (binOp op t u z)) λy=>nO P X w (iM g (.bool true) y) λv=>N v P R X w
def fS (y:Value) (n:Nat) (N:Value->SP):SP:=λP R X w=>un (ep (aW y)) λu=>jq (az (cd (aW y))==n) (jq (aA (cd (aW y)) one) (N u P R X w))
def Bh (t:TypeId) (n:Nat) (x:Value) (N:Value->SP):SP:=λP R X w=>aZ P X w (je t n x) λy=>un (ep (aW y)) λu=>jq (az (cd (aW y))==n) (jq (aA (cd (aW y)) one) (N u P R X w))
def lW (x:Value) (A B:SP):SP:=λP R X w=>aZ P X w (Op.unary UnOp.not x) λv=>mE v (A P R X w) (B P R X w)
def Bi (g:Value) (want:Bool) (f:FuncId) (args:Array Value) (k:Value->SP):SP:=λP R X w=>gE g want (eC P R X w true f args λv w X=>k v P R X w) (k undef P R X w)
def mC (l:Array Value):SP:=λ_ R X w=>fin R X w (.tuple l)
def lX (r:SP) (B:(SP)->SP):SP:=λP R X w=>jn (α:=World->XS->Prop) (λw X=>r P R X w) λc=>B (λ_ _ X w=>c w X) P R X w
def kK (r:Value->SP) (B:(Value->SP)->SP):SP:=λP R X w=>jn (α:=Value->World->XS->Prop) (λv0 w X=>r v0 P R X w) λc=>B (λv0 _ _ X w=>c v0 w X) P R X w
def tA (r:Value->SP) (B:(Value->SP)->SP):SP:=λP R X w=>jn (α:=Value->Prop) (λv0=>r v0 P R X w) λc=>B (λv0 _ _ _ _=>c v0) P R X w
def Zh (r:Value->Value->SP) (B:(Value->Value->SP)->SP):SP:=λP R X w=>jn (α:=Value->Value->World->XS->Prop) (λv0 v1 w X=>r v0 v1 P R X w) λc=>B (λv0 v1 _ _ X w=>c v0 v1 w X) P R X w
def Wi (r:Value->Value->SP) (B:(Value->Value->SP)->SP):SP:=λP R X w=>jn (α:=Value->Value->Prop) (λv0 v1=>r v0 v1 P R X w) λc=>B (λv0 v1 _ _ _ _=>c v0 v1) P R X w
def zY (v0:Value) (c0:Nat) (F:(Value->SP)->Value->SP):SP:=λP R X w=>HS X w v0 c0 λJ n e0 w X=>F (λa0 _ _ X w=>EW J n a0 w X) e0 P R X w
def jO (v0 v1:Value) (c0 c1:Nat) (F:(Value->Value->SP)->Value->Value->SP):SP:=λP R X w=>HT X w v0 v1 c0 c1 λJ n e0 e1 w X=>F (λa0 a1 _ _ X w=>EX J n a0 a1 w X) e0 e1 P R X w
def Ht (v0 v1 v2:Value) (c0 c1 c2:Nat) (F:(Value->Value->Value->SP)->Value->Value->Value->SP):SP:=λP R X w=>HU X w v0 v1 v2 c0 c1 c2 λJ n e0 e1 e2 w X=>F (λa0 a1 a2 _ _ X w=>HX J n a0 a1 a2 w X) e0 e1 e2 P R X w
def aed (v0 v1 v2 v3:Value) (c0 c1 c2 c3:Nat) (F:(Value->Value->Value->Value->SP)->Value->Value->Value->Value->SP):SP:=λP R X w=>HV X w v0 v1 v2 v3 c0 c1 c2 c3 λJ n e0 e1 e2 e3 w X=>F (λa0 a1 a2 a3 _ _ X w=>HY J n a0 a1 a2 a3 w X) e0 e1 e2 e3 P R X w
def ail (v0 v1 v2 v3 v4:Value) (c0 c1 c2 c3 c4:Nat) (F:(Value->Value->Value->Value->Value->SP)->Value->Value->Value->Value->Value->SP):SP:=λP R X w=>HW X w v0 v1 v2 v3 v4 c0 c1 c2 c3 c4 λJ n e0 e1 e2 e3 e4 w X=>F (λa0 a1 a2 a3 a4 _ _ X w=>HZ J n a0 a1 a2 a3 a4 w X) e0 e1 e2 e3 e4 P R X w
def ae:=I 0
def bw:=λa=>Value.float .f64 a
def lP:=λa b c d=>pT a b (vS c) d
def Zq3:=λa b c d=>gO (vu a b c) d
def oB:=λa b c d e (f:Value->Value->SP)=>pS a λx=>si b c d e x (f x)
def dW:=λa=>cd (aW a)
def dz:=I 1
def ky:=λa b c=>gO (cellOf a b) c
def qq:=λa b c d=>iZ .add a b c d
def cN:=B false
def lY:=λa b c d e f=>FK .eql a b c d e f
def aim:=λa b=>Value.slice none a b
def dg:=λa b=>jg (cU a) b
def fO:=λa b c d e (f:Value->Sem Value) (g:Value->Value->SP)=>lP a b c λx=>lP d e (f x) (g x)
def ju:=λa b c d=>pS (iM a b c) d
def jW:=λa b (c:Value->SP)=>gO a λx=>jg b (c x)
def bT:=λa b c=>jA a #[b] c
def jP:=λa b c d e=>ju a b c λx=>im x d e
def dY:=λa b c d e f=>GK a b c 1 d e f
def dJ:=λa b=>sh true a b
def SR:=λa b c d e=>nv .lss a b c d e
def iQ:=λa b c d e (f:Value->Value->SP)=>ju a b c λx=>Zq3 x d e (f x)
def iq:=λa b c d=>bS (me a b c) d
def xW:=λa b c d (e:Value->Value->SP)=>ky a b λx=>ky c d (e x)
def cO:=λa b c d=>jA a #[b,c] d
def jQ:=λa b c d e f g (h:Value->Value->Value->SP)=>oB a b c d e λx y=>cO f g y (h x y)
def ain:=λa b c=>qq a b dz c
def Hu:=λa b c d e f (g:Value->Value->SP)=>sO a b c d λx=>Bh e f x (g x)
def ee:=B true
def aio:=λa=>aim 0 a
def cn:=aio 0
def kg:=λa b c (d:Value->SP)=>jW a b λx=>jg c (d x)
def dy:=λa b c=>Zg a 3 b c
def fI:=λa b c=>Zq3 a true b c
def Hv:=λa b c d=>gO (fD a b c) d
def fb:=λa b=>ZcU true a b
def eY:=λa b c=>Zq3 a false b c
def aip:=λa b c=>List.toArray (cY a b c)
def rr:=λa b c=>ep (aip a b c)
def kL:=λa b c d=>cE a b (.string c) d
def pf:=λa b (c:Value->Value->SP)=>pS a λx=>kh b x (c x)
def pV:=λa b c d e f g h i j k=>fO a b c d e (λx=>de f g h i x j) k
def dh:=λa b=>ain 3 a b
def Jj:=λa b c d (e:Value->(Value->SP)->Value->SP)=>dy a b λx=>zY c d (e x)
def fP:=mC #[]
def ru:=λa b c d e=>lY 3 a b c d e
def aiq:=λa b c d e=>dY a 0 b c d e
def dI:=λa b c d=>aiq a 0 b c d
def gH:=λa b c d=>SR 3 a b c d
def kM:=λa b c d e f g h i=>ru a b c d (ru e f g h i)
def lZ:=λa b (c:Value->Sem Value) (d:Value->Value->SP) e=>kK (λx=>lP a b (c x) (d x)) e
def iW:=λa b c d e f=>FK .neq a b c d e f
def vJ:=aP { data:= #[] }
def gw:=Value.pointer none
def jv:=λa b c d e=>Zf .eql a b c d e
def eZ:=λa b=>mC #[a,b]
def gS:=λa b c d e f g h=>dJ (pI a b c d e f g) h
def fQ:=λa b c d=>iZ a 3 b c d
def pW:=λa b c d e f (g:Value->Value->SP)=>Hu a b c d e f λx y=>dg y (g x y)
def ia:=λa=>ay IntKind.u64 a
def fW:=λa b c=>Hv a 0 b c
def ig:=λa b c=>iq a b #[] c
def gu:=λa b c d e=>jA a #[b,c,d] e
def iv:=λa b c=>rr (dW a) b c
def iB:=λa b c d=>Bi a b c #[d]
def gF:=λa b c d e=>dY a 1 b c d e
def pX:=λa b c d (e:Value->(Value->SP)->Value->SP) f=>Jj a b c d λx y z=>gH z x (e x y z) f
def vK:=λa b (c:Value->Sem Value) (d:Value->Value->SP)=>bT a b λx=>bS (c x) (d x)
def uH:=λa b (c:Value->Value->SP) (d:Value->(Value->SP)->SP)=>fI a b λx=>kK (c x) (d x)
def sU:=λa b c d e f g h (i:Value->Value->Value->Value->SP)=>xW a b c d λx y=>xW e f g h (i x y)
def jX:=λa b=>bT 236 a b
def wF:=λa b c (d:Value->Value->Value->SP)=>cO a b c λx=>ku x (d x)
theorem cz {p q:Prop} (h:q) (e:p=q:=by dsimp only [ae,bw,lP,Zq3,oB,dW,dz,ky,qq,cN,lY,aim,dg,fO,ju,jW,bT,jP,dY,dJ,SR,iQ,iq,xW,cO,jQ,ain,Hu,ee,aio,cn,kg,dy,fI,Hv,fb,eY,aip,rr,kL,pf,pV,dh,Jj,fP,ru,aiq,dI,gH,kM,lZ,iW,vJ,gw,jv,eZ,gS,fQ,pW,ia,fW,ig,gu,iv,iB,gF,pX,vK,uH,sU,jX,wF,bS,pS,pT,gO,sh,ZcU,jA,Dt,ZcE,aS,jg,im,lE,ZcR,Mw,kh,iZ,Zf,Du,si,Zg,sO,ml,nv,FK,Dv,xV,GK,Zcs,jB,zX,kr,ku,mC,Eh,zd,pU,Zgo,Mx,Hr,fS,Bh,lW,Bi,lX,kK,tA,Zh,Wi,zY,jO,Ht,aed,ail];try exact rfl):p:=e.symm▸h
variable {R : Ending -> World -> Prop} {w : World} {P : Program}
theorem arw {fn:Func} (hf:P.funcs[f]? =some fn) (pl:gz) {V:Prop} (h:V)
  (hs:(decide (args.size<=pl.n)&&pl.boxes.all λp=>decide (args.size<=p.1))=true:=by kernel_rfl) (hv:V=G4 P (cF P pl fn) R args w:=by kernel_rfl):Calls P f args w R:=
 G5 hf hs hv h
variable {P : Program} {R : Ending -> World -> Prop} {X Y Z : XS} {w w' lC : World} {m : Bool} {N : Value -> Prop} {α : Type}
def Mv (X:XS) (w:World) (Y:XS) (w':World):Prop:= ∀k,X k->k<w.heap.size->Y k/\w'.heap[k]? =w.heap[k]?
theorem Mv.trans (a:Mv X w Y w') (b:Mv Y w' Z lC):Mv X w Z lC:=λk hk hl=>by
 obtain⟨h1,h2⟩:=a k hk hl;have AU:k<w'.heap.size:=by
  have:w'.heap[k]? =some w.heap[k]:=by rw[h2];exact Array.getElem?_eq_getElem hl
  exact(Array.getElem?_eq_some_iff.1 this).1
 obtain⟨h3,h4⟩:=b k h1 AU
 grind
theorem aj.mv (h:aj X w Y w'):Mv X w Y w':=λk hk _=>⟨h.sub k hk,h.kp.block k hk⟩
theorem _root_.Go.aG.Kp.mv (h:Kp X w w'):Mv X w X w':=λk hk _=>⟨hk,h.block k hk⟩
theorem Mv.bV:Mv X w (bV w) w:=λ_ _ hl=>⟨hl,rfl⟩
theorem _root_.Go.aG.Kp.cu (h:Kp X w w'):Mv X w (bV w') w':=h.mv.trans Mv.bV
theorem Mv.out (h: ∀k,X k-> ¬F k):Mv X w (aG.out F w) w:=λk hk hl=>⟨⟨hl,h k hk⟩,rfl⟩
theorem Mv.sub (h: ∀k,X k->Y k):Mv X w Y w:=λk hk _=>⟨h k hk,rfl⟩
theorem Ext.mv (h:Ext w w'):Mv (aG.bV w) w (aG.bV w') w':=λ_ _ hl=>⟨av hl h.size,h.block hl⟩
theorem eh.mv {A:XS} (c:eh F X w Y w') (h: ∀k,A k->X k/\ ¬F k):Mv A w Y w':=λk hk _=>⟨c.sub k (h k hk).1,c.block k (h k hk).1 (h k hk).2⟩
theorem Cells.mv {l:List Value} (h:Cells w X b o l) (v:Mv X w Y w'):Cells w' Y b o l:=by
 have hl:=h.lt;obtain⟨hx,cs,t,fr,hb,hc⟩:=h;obtain⟨h1,h2⟩:=v b hx hl;exact⟨h1,cs,t,fr,by grind,hc⟩
theorem Sl.mv {v:Value} (h:Sl w X k v rows) (m:Mv X w Y w'):Sl w' Y k v rows:=by
 obtain⟨h1,h2,base,cap,hv,hc,hr⟩:=h;exact⟨h1,h2,base,cap,hv,λcj=>let⟨b,o,hb,jD⟩:=hc cj;⟨b,o,hb,jD.mv m⟩,hr⟩
theorem Sl.form {v:Value} (h:Sl w X k v rows): ∃b n c,v= .slice b n c:=let⟨_,_,b,c,hv,_⟩:=h;⟨b,_,c,hv⟩
variable {cs : List Value}
theorem aK.mv (h:aK w X b cs ty) (m:Mv X w Y w'):aK w' Y b cs ty:=by
 obtain⟨h1,h2⟩:=m b h.1 (Array.getElem?_eq_some_iff.1 h.2).1;exact⟨h1,by rw[h2];exact h.2⟩
theorem mK.mv {κ:Type} {kv:κ->Value} {es:List (jy κ)} (h:mK w X b kv es c) (m:Mv X w Y w'):mK w' Y b kv es c:=by
 obtain⟨h1,h2⟩:=m b h.1 (Array.getElem?_eq_some_iff.1 h.2.1).1;exact⟨h1,by rw[h2];exact h.2.1,h.2.2⟩
theorem Own.mv {v:Value} (h:Own w X lo e k v rows) (m:Mv X w Y w'):Own w' Y lo e k v rows:=by
 obtain⟨h1,h2,h3⟩:=h;refine⟨h1,⟨h2.1,?_⟩,λg hg=>(m g (h3 g hg) (h2.lt g hg).2).1⟩;rcases h2.2 with h|⟨g,cap,cur,rfl,hb,hg,hr⟩
 ·exact .inl h
 ·exact .inr ⟨g,cap,cur,rfl,hb,by rw[(m g (h3 g rfl) (Array.getElem?_eq_some_iff.1 hg).1).2];exact hg,hr⟩
def eQ (w:World) (X:XS) (k:Nat) (v:Value) (rd:World->XS->List Value->α->Prop) (xs:List α):Prop:=
 ∃rows,Sl w X k v rows/\rows.length=xs.length/\ ∀(i:Nat) l x,rows[i]? =some l->xs[i]? =some x->rd w X l x
def GH (rd:World->XS->List Value->α->Prop):Prop:= ∀{X Y:XS} {w w':World} {l:List Value} {x:α},rd w X l x->Mv X w Y w'->rd w' Y l x
theorem eQ.mv {v:Value} {rd:World->XS->List Value->α->Prop} {xs:List α} (h:eQ w X k v rd xs) (hm:GH rd) (m:Mv X w Y w'):eQ w' Y k v rd xs:=by
 obtain⟨rows,h1,h2,h3⟩:=h;exact⟨rows,h1.mv m,h2,λi l x hl hx=>hm (h3 i l x hl hx) m⟩
theorem eQ.nil {rd:World->XS->List Value->α->Prop} (w:World) (X:XS) (k:Nat):eQ w X k (.slice none 0 0) rd []:=⟨[],Sl.nil w X k,rfl,by simp⟩
theorem eQ.one {v:Value} {rd:World->XS->List Value->α->Prop} {xs:List α} (h:eQ w X k v rd xs):one v=true:=let⟨_,h1,_⟩:=h;h1.one
theorem eQ.len {v:Value} {rd:World->XS->List Value->α->Prop} {xs:List α} (h:eQ w X k v rd xs):xs.length<=2^63-1:=by
 obtain⟨_,h1,h2,_⟩:=h;rw[<-h2];exact h1.2.1
theorem Mv.refl (X:XS) (w:World):Mv X w X w:=λ_ hk _=>⟨hk,rfl⟩
theorem mv0:Mv X w X w:=Mv.refl _ _
theorem mv1 (h:aj X w Y w'):Mv X w Y w':=h.mv
theorem nq1 {l:List Value} :l.toArray.toList=l:=rfl
theorem nq2 {l:List Value} :(a::l).take (i+1)=a::l.take i:=rfl
theorem nq3 {l:List Value} :(a::l).drop (i+1)=l.drop i:=rfl
theorem nq4 {l:List Value} :l.take 0=[]:=rfl
theorem nq5 {l:List Value} :l.drop 0=l:=rfl
theorem nq6:([]:List Value).take i=[]:=List.take_nil
theorem nq7 {l:List Value} :(a::l).length=l.length+1:=rfl
theorem nq8:([]:List Value).length=0:=rfl
theorem nq9 {l m:List Value} :a::l++m=a::(l++m):=rfl
theorem nq0 {l:List Value} :[]++l=l:=rfl
theorem mv2 (h:aj X w Y w') (h':aj Y w' Z lC):Mv X w Z lC:=(h.trans h').mv
variable {fo : Nat}
theorem Cells.Wj {v:Value} {l:List Value} (h:Cells w X b o l) (hl:l[fo]? =some v):Cells w X b (o+fo) [v]:=by
 have hp:=h.part fo 1;have:(l.drop fo).take 1=[v]:=by
  obtain⟨cC,rfl⟩:=List.getElem?_eq_some_iff.1 hl;rw[lh cC,List.take_succ_cons,List.take_zero]
 grind
variable {l' : List Value} {S : Nat}
theorem aou {f sz:Nat} {l:List Value} (h:Cells w0 X0 b o l) (hf:fieldInfo P S f=some (fo,sz)) (hz:(sz !=0)=true) (hl:(l.drop fo).take sz=l')
  (k: ∀o',o'=o+fo->Cells w0 X0 b o' l'->N (ptr b o')):aZ P X w (ji S f fo sz (ptr b o)) N:=
 Ho hf gQ (k _ rfl (hl▸h.part fo sz))
theorem Rx {f:Nat} {v:Value} {l:List Value} (h:Cells w0 X0 b o l) (hf:fieldInfo P S f=some (fo,1)) (hl:l[fo]? =some v)
  (k: ∀o',o'=o+fo->Cells w0 X0 b o' [v]->N (ptr b o')):aZ P X w (ji S f fo 1 (ptr b o)) N:=
 Ho hf zQ (k _ rfl (h.Wj hl))
theorem aee {v:Value} {l:List Value} (h:Cells w0 X0 b o l) (m:Mv X0 w0 X w) (hi:lp P t=some (false,1)) (hl:l[0]? =some v) (k:N v):
  aZ P X w (ld1 t (ptr b o)) N:=aos (h.mv m) hi hl k
theorem acT {l:List Value} (h:Cells w0 X0 b o l) (m:Mv X0 w0 X w) (hi:lp P t=some (true,n)) (hn:l.length=n) (k:N (.agg l.toArray)):
  aZ P X w (je t n (ptr b o)) N:=af0 (h.mv m) hi hn k
theorem aov {enc:α->List Value} {v:Value} {xs:List α} (h:Sl w0 X0 k v (xs.map enc))
  (ht:P.underlying t=some (.slice (P.elem t))) (n:N (.int .i64 xs.length)):aZ P X w (mO t ty v) N:=by
 obtain⟨_,_,base,cap,rfl,_⟩:=h;exact bA (λwa=>run_len_slice wa t ty base _ cap ht) (by rw[List.length_map];exact n)
theorem aow {v:Value} {rd:World->XS->List Value->α->Prop} {xs:List α} (h:eQ w0 X0 k v rd xs)
  (ht:P.underlying t=some (.slice (P.elem t))) (n:N (.int .i64 xs.length)):aZ P X w (mO t ty v) N:=by
 obtain⟨rows,⟨_,_,base,cap,rfl,_⟩,h2,_⟩:=h;exact bA (λwa=>run_len_slice wa t ty base _ cap ht) (by rw[h2];exact n)
theorem Ry {v:Value} {z:Int} {r:List Value} (h:Sl w0 X0 k v rows) (hr:rows[i]? =some r) (hz:z=i)
  (ht:P.underlying t=some (.slice (P.elem t))) (hs:(P.info? (P.elem t)).map (·.size)=some k)
  (n: ∀b o,Cells w0 X0 b o r->N (ptr b o)):aZ P X w (zc t v (.int .i64 z)) N:=by
 obtain⟨h1,_,base,cap,rfl,hc,_⟩:=h;have hi:i<rows.length:=(List.getElem?_eq_some_iff.1 hr).1;obtain⟨b,o,rfl,jD⟩:=hc gQ;have hp:=jD.part (i*k) k;rw[Ms h1 hr] at hp;refine bA (λwa=>?_) (n b (o+i*k) hp);subst hz;rw[run_indexAt_slice (h:=ht),if_pos zQ];cases hq:P.info? (P.elem t)with
 |none=>grind
 |some inf=>
  have:inf.size=k:=by simpa [hq] using hs
  simp[sizeOf,typeInfo,hq,this,zN]
theorem ajt {enc:α->List Value} {v:Value} {xs:List α} {z:Int} {x:α} (h:Sl w0 X0 k v (xs.map enc)) (hr:xs[i]? =some x)
  (hz:z=i) (ht:P.underlying t=some (.slice (P.elem t))) (hs:(P.info? (P.elem t)).map (·.size)=some k)
  (n: ∀b o,Cells w0 X0 b o (enc x)->N (ptr b o)):aZ P X w (oS t k v (.int .i64 z)) N:=
 Ry h (i:=i) gQ hz ht hs n
theorem Gq {v:Value} {rd:World->XS->List Value->α->Prop} {xs:List α} {z:Int} {x:α} (h:eQ w0 X0 k v rd xs) (hr:xs[i]? =some x)
  (hz:z=i) (ht:P.underlying t=some (.slice (P.elem t))) (hs:(P.info? (P.elem t)).map (·.size)=some k)
  (n: ∀b o l,Cells w0 X0 b o l->rd w0 X0 l x->N (ptr b o)):aZ P X w (oS t k v (.int .i64 z)) N:=by
 obtain⟨rows,h1,h2,h3⟩:=h;have hi:i<rows.length:=by rw[h2];exact(List.getElem?_eq_some_iff.1 hr).1
 have hl:rows[i]? =some rows[i]:=aU hi;exact Ry h1 hl hz ht hs λb o hc=>n b o _ hc (h3 i _ _ hl hr)
theorem amX {v:Value} (h:Sl w0 X0 k v rows) (ht:P.underlying t=some (.slice (P.elem t)))
  (hT:v= .slice none 0 0->rows=[]->N (.bool true)) (hF:N (.bool false)):aZ P X w (de .eql t xo yo v (.slice none 0 0)) N:=by
 rcases h.src with⟨rfl,hr⟩|⟨a,cap,rfl,_⟩
 ·exact Zc ht (hT rfl hr)
 ·exact Zc ht hF
theorem akB {xs:List α} (h:i<xs.length): ∃x,xs[i]? =some x/\xs.drop i=x::xs.drop (i+1):=
 ⟨xs[i],aU h,lh h⟩
theorem dG (xs:List α) (i:Nat):(i<xs.length/\ ∃x,xs[i]? =some x/\xs.drop i=x::xs.drop (i+1))\/(xs.length<=i/\xs.drop i=[]):=by
 rcases Nat.lt_or_ge i xs.length with h|h
 ·simp_all
 simp_all
theorem aox {l:List Value} (hl:(l.drop o).take n=l') (k:M (.agg l'.toArray)):un (fD (.agg l.toArray) o n) M:=
 af5 (hl▸k)
theorem aoy {l:List Value} (hl:cY l o cs=l') (k:M (.agg l'.toArray)):
  un (ep (List.toArray (cY l o cs))) M:=by subst hl;exact k
theorem Wp {v:Value} {l:List Value} (h:one v=true) (k:l.all one=true):(v::l).all one=true:=by simp[h,k]
theorem aas:aA ([]:List Value) one=true:=rfl
theorem amY {l:List Value} (h:l.all one=true) (k:A):jq (aA (cd (aW (.agg l.toArray))) one) A:=ad5 h k
theorem amZ {l:List Value} (h:l.all one=true) (k:A):jq (aA l one) A:=ad5 h k
theorem aji {l:List Value} {v:Value} (hi:l[i]? =some v) (h:N v):aZ P X w (gx (.tuple l.toArray) i) N:=Od gQ h
theorem H2 {b:Bool} {N:Value->World->XS->Prop}
  (h:Ct P f args w X nX λv _ _=>v= .bool b) (hf:enters P f=true) (hX: ∀k,X k->k<w.heap.size)
  (hT:b=true-> ∀w' X',aj X w X' w'->N (.bool true) w' X') (hF:b=false-> ∀w' X',aj X w X' w'->N (.bool false) w' X'):eC P R X w m f args N:=by
 refine cA h hf hX λv wa w' X' hv _ _ hs=>?_;subst hv;cases b
 ·grind
 grind
theorem eT {u:Value} {N:Value->World->XS->Prop}
  (h:Ct P f args w X nX λv _ _=>v=u) (hf:enters P f=true) (hX: ∀k,X k->k<w.heap.size)
  (k: ∀w' X',aj X w X' w'->N u w' X'):eC P R X w m f args N:=by
 refine cA h hf hX λv wa w' X' hv _ _ hs=>?_
 grind
theorem am0 {N:Value->World->XS->Prop}
  (h:Ct P f args w X nX λv _ _=> ∃n:Int,v= .int .i64 n) (hf:enters P f=true) (hX: ∀k,X k->k<w.heap.size)
  (k: ∀(n:Int) w' X',aj X w X' w'->N (.int .i64 n) w' X'):eC P R X w m f args N:=by
 refine cA h hf hX λv wa w' X' hv _ _ hs=>?_
 grind
theorem aoz {a b:Int} (h:N (.int .i64 (min a b))):aZ P X w (kf #[t,t] ty #[.int .i64 a,.int .i64 b]) N:=
 bA (λwa=>by
  simp only[kf,List.foldlM];by_cases hc:b<a
  ·have:min a b=b:=by omega
   simp[FJ,hc,this]
  ·have:min a b=a:=by omega
   simp[FJ,hc,this]) h
variable {q : IntKind} {dst : TypeId}
theorem aef {src:TypeId} {k:IntKind} {n:Int} (hs:(P.underlying src).isSome=true) (hd:P.underlying dst=some (.int k))
  (h:N (.int k (k.wrap n))):aZ P X w (pH k src dst (.int q n)) N:=bA (λwa=>by
   have e:P.intKind dst=k:=by simp[Program.intKind,hd]
   have:=run_convert_int (P:=P) wa src dst q n hs gQ;rw[e] at this;exact this) h
theorem aoA {src:TypeId} {n:Int} (hs:(P.underlying src).isSome=true) (hd:P.underlying dst=some (.float .f64))
  (h:N (.float .f64 (floatOfInt .f64 n))):aZ P X w (HR src dst (.int q n)) N:=bA (λwa=>run_convert_int_float wa src dst q .f64 n hs hd) h
theorem aoB {e:TypeId} {l:List Value} {z:Int} {v:Value} (ht:P.underlying t=some (.array n e)) (he:lp P e=some (false,1)) (hz:z=i) (hn:i<n) (hl:l[i]? =some v)
  (k:N v):aZ P X w (D4 t n e (.agg l.toArray) (.int .i64 z)) N:=by
 subst hz;unfold lp at he;split at he
 ·rename_i d q hu ES;simp only[ah,cD] at he;refine bA (v:=v) (λwa=>?_) k;have Cf:(isAgg e).run P wa= .ok false wa:=by cases d<;>simp_all [isAgg,run_underlying hu]
  simp[D4,Bd,asIntOf,run_underlying ht,hn,sizeOf,typeInfo,ES,he.2,part,Cf,hl]
 ·cases he
theorem aoC {op:BinOp} {x y:Nat} (h:floatBits op .f64 x y=some r) (k:N (.float .f64 r)):aZ P X w (binOp op t (.float .f64 x) (.float .f64 y)) N:=
 bA (λwa=>run_float_arith wa op t .f64 x y r h) k
theorem LH (s:ByteArray):s.size=s.data.toList.length:=by rfl
theorem aoD {s:ByteArray} {z:Int} {b:UInt8} (hb:s.data.toList[i]? =some b) (hz:z=i) (ht:P.underlying t=some .string) (k:N (.int .u8 b.toNat)):
  aZ P X w (Bd t (.string s) (.int .i64 z)) N:=by
 subst hz;have hi:i<s.data.toList.length:=(List.getElem?_eq_some_iff.1 hb).1;have ES:i<s.size:=by rw[LH];exact hi
 refine bA (v:=.int .u8 b.toNat) (λwa=>?_) k;rw[run_index_string wa t s .i64 i ht,dif_pos zQ];have:s[i]=b:=by
  have h2:s.data.toList[i]=b:=(List.getElem?_eq_some_iff.1 hb).2;rw[<-h2];rfl
 simp[this]
theorem Zi (f:Ieee.Format) (s:Bool) (m:Nat) (p:Int):(f.read (f.nearest s m p)).isNaN=false:=by
 have hle: ∃r,f.nearest s m p=f.word s r/\r<=f.infRung:=by
  unfold Ieee.Format.nearest;split
  ·grind
  ·exact⟨_,rfl,Nat.min_le_right _ _⟩
 obtain⟨r,hr,hle⟩:=hle;have cC:=f.infRung_lt;have hm:f.word s r % f.signWeight=r:=by
  unfold Ieee.Format.word;split
  ·rw[Nat.add_mod_left,gN zQ]
  ·rw[gN zQ]
 rw[hr];unfold Ieee.Format.read;simp only[hm];split
 ·rfl
 ·split
  ·rfl
  ·split
   ·rfl
   ·omega
def chain (p:α->Bool) (r:α->α->Bool):Option α->List α->Bool
 |_,[]=>true
 |none,x::l=>p x&&chain p r (some x) l
 |some y,x::l=>p x&&r y x&&chain p r (some x) l
def uI (xs:List α) (i:Nat):Option α:=if i=0 then none else xs[i-1]?
theorem rJ {xs:List α} {x:α} (h:xs[i]? =some x):uI xs (i+1)=some x:=by assumption
theorem Nx {xs:List α} (h:i<xs.length):(i=0/\uI xs i=none)\/(0<i/\ ∃y,xs[i-1]? =some y/\uI xs i=some y):=by
 by_cases h0:i=0
 ·grind [uI]
 ·have:xs[i-1]? =some xs[i-1]:=aU zQ
  grind [uI]
variable {P : Program} {R : Ending -> World -> Prop} {X : XS} {w : World} {m : Bool}
theorem foldl_set (l:List Value): ∀(n:Nat) (cs:Array Value),n+l.length<=cs.size->
  ((l.zipIdx n).foldl (λ(cs:Array Value) (p:Value×Nat)=>cs.setIfInBounds p.2 p.1) cs).toList=cs.toList.take n++l++cs.toList.drop (n+l.length):=by
 induction l with
 |nil=>intro n cs h;simp
 |cons x r ih=>
  intro n cs h;simp only[aM] at h;simp only[List.zipIdx_cons,List.foldl_cons];rw[ih (n+1) _ oQ];have hn:n<cs.toList.length:=by simp;omega
  simp only[Array.toList_setIfInBounds,aM];rw[List.take_set,List.drop_set_of_lt zQ];have:(cs.toList.take (n+1)).set n x=cs.toList.take n++[x]:=by
   rw[List.take_add_one,aU hn];simp only[Option.toList_some];rw[List.set_append_right _ _ oQ];have hm:(cs.toList.take n).length=n:=by rw[List.length_take];omega
   rw[hm,Nat.sub_self,List.set_cons_zero]
  rw[this];simp only[List.append_assoc,List.cons_append,cx]
  grind
theorem FM {cs:Array Value} {x:Value} (hx:x.cells.size=k) (hc:cs.size=k):
  rN (λi=>some (i*k,k)) cs [(0,x)]=some x.cells:=by
 unfold rN;simp only[Nat.zero_mul,fg,hx,ne_eq,not_true_eq_false,decide_false,hc,Nat.lt_irrefl,gt_iff_lt,Bool.or_self,aY,if_false];unfold rN;simp only[ah];apply Array.ext';have:=foldl_set x.cells.toList 0 cs oQ;rw[<-Array.toList_zipIdx,Array.foldl_toList] at this;simp_all
def ga (v:Value):XS:=λg=>v.ownBlock=some g
def mz (P:Program) (t e k bytes:Nat):Bool:=match P.underlying t,P.info? e with
 |some (.slice e'),some i=>e'==e&&i.size==k&&i.bytes==bytes&&(match i.zero with|some z=>z.cells.size==k|none=>false)&&decide (0<k)&&decide (k<=2^20)
 |_,_=>false
theorem mL {t bytes:Nat} (h:mz P t e k bytes=true):P.underlying t=some (.slice e)/\0<k/\k<=2^20/\
  ∃z:Value,(P.info? e).bind (λi=>i.zero.map λz=>(i.size,i.bytes,z))=some (k,bytes,z)/\(P.info? e).bind (λi=>i.zero.map λz=>(i.size,z))=some (k,z)/\z.cells.size=k:=by
 unfold mz at h;split at h
 ·rename_i e' i hu hi;simp only[aD,beq_iff_eq,decide_eq_true_eq] at h;obtain⟨⟨⟨⟨⟨rfl,h2⟩,h3⟩,h4⟩,h5⟩,h6⟩:=h;cases hz:i.zero with
  |none=>grind
  |some z=>
   simp_all
 ·cases h
section
variable {t ty bytes : Nat} {v x s : Value} {dw : List (List Value)} {row : List Value} {N : Value -> World -> XS -> Prop}
theorem af6 (own:Own w X w0.heap.size e k v rows) (hs:aj X0 w0 X w) (h0: ∀k,X0 k->k<w0.heap.size) (he:mz P t e k bytes=true) (hx:x.cells.toList=row) (hk:(row.length==k)=true)
  (h1:row.all one=true) (hb:(rows.length+1)*bytes<=140737488355328) (hl:rows.length+1<=2^63-1)
  (n: ∀v' w' X',aj X0 w0 X' w'->Own w' X' w0.heap.size e k v' (rows++[row])->eh (ga v) X w X' w'->(v'.ownBlock=v.ownBlock\/ ∃g,v'.ownBlock=some g/\w.heap.size<=g)->N v' w' X'):
  eV P R X w m (gT t e k 1 #[(0,x)]) λs w1 X1=>eV P R X1 w1 true (pI t e k bytes ty v s) N:=by
 obtain⟨hu,iw,FG,z,hi,hz,xj⟩:=mL he;have af:row.length=k:=by simpa using hk
 have J6:x.cells.size=k:=by rw[<-af,<-hx,fv]
 refine Cv (rows:=[row]) x.cells z hs.has hu hz zQ zQ ?_ (by simpa using af) rfl gQ λs w1 X1 aC GC=>?_
 ·simp only[Bc];exact FM J6 sQ
 ·have gv:w0.heap.size<=w1.heap.size:=ad hs.kp.size aC.kp.size;refine Ds (dw:=[row]) z hu hi xj iw aC.has gv (own.since aC) GC.sl (by simpa using h1) zQ zQ λv2 w2 X2 hg ho dB=>?_;have hd: ∀g,v.ownBlock=some g->w0.heap.size<=g:=λg hg=>(own.ge hg).1;refine n v2 w2 X2 ((hs.trans aC).grown hg λg hg0 he=>?_) ho ?_ ?_
  ·have:=hd g he.symm;have:=h0 g hg0;omega
  ·exact(eh.oh aC (ga v)).trans (hg.eo.mono λk _ hk=>hk.symm)
  ·rcases dB with h|⟨g,h,dH⟩
   ·exact .inl h
   ·exact .inr ⟨g,h,ad aC.kp.size dH⟩
theorem ajS {l:List Value} (own:Own w X w0.heap.size e k v rows) (hs:aj X0 w0 X w) (h0: ∀k,X0 k->k<w0.heap.size) (he:mz P t e k bytes=true) (hk:(l.length==k)=true)
  (h1:l.all one=true) (hb:(rows.length+1)*bytes<=140737488355328) (hl:rows.length+1<=2^63-1)
  (n: ∀v' w' X',aj X0 w0 X' w'->Own w' X' w0.heap.size e k v' (rows++[l])->eh (ga v) X w X' w'->(v'.ownBlock=v.ownBlock\/ ∃g,v'.ownBlock=some g/\w.heap.size<=g)->N v' w' X'):
  eV P R X w m (gT t e k 1 #[(0,.agg l.toArray)]) λs w1 X1=>eV P R X1 w1 true (pI t e k bytes ty v s) N:=af6 own hs h0 he rfl hk h1 hb hl n
theorem Nl (own:Own w X w0.heap.size e k v rows) (hs:aj X0 w0 X w) (h0: ∀k,X0 k->k<w0.heap.size) (he:mz P t e k bytes=true) (hk:(k==1)=true)
  (ho:one x=true) (hb:(rows.length+1)*bytes<=140737488355328) (hl:rows.length+1<=2^63-1)
  (n: ∀v' w' X',aj X0 w0 X' w'->Own w' X' w0.heap.size e k v' (rows++[[x]])->eh (ga v) X w X' w'->(v'.ownBlock=v.ownBlock\/ ∃g,v'.ownBlock=some g/\w.heap.size<=g)->N v' w' X'):
  eV P R X w m (gT t e k 1 #[(0,x)]) λs w1 X1=>eV P R X1 w1 true (pI t e k bytes ty v s) N:=by
 refine af6 (row:=[x]) own hs h0 he ?_ (by simpa using (beq_iff_eq.1 hk).symm) (by simpa using ho) hb hl n;cases x<;>first|rfl|cases ho
theorem qQ (own:Own w X w0.heap.size e k v rows) (hs:aj X0 w0 X w) (h0: ∀k,X0 k->k<w0.heap.size) (he:mz P t e k bytes=true) (src:Sl w X k s dw) (h1: ∀r∈dw,∀u∈r,one u=true)
  (hb:(rows.length+dw.length)*bytes<=140737488355328) (hl:rows.length+dw.length<=2^63-1)
  (n: ∀v' w' X',aj X0 w0 X' w'->Own w' X' w0.heap.size e k v' (rows++dw)->eh (ga v) X w X' w'->(v'.ownBlock=v.ownBlock\/ ∃g,v'.ownBlock=some g/\w.heap.size<=g)->N v' w' X'):
  eV P R X w true (pI t e k bytes ty v s) N:=by
 obtain⟨hu,iw,FG,z,hi,hz,xj⟩:=mL he;refine Ds (dw:=dw) z hu hi xj iw hs.has hs.kp.size own src h1 hb hl λv2 w2 X2 hg ho dB=>?_;have hd: ∀g,v.ownBlock=some g->w0.heap.size<=g:=λg hg=>(own.ge hg).1;refine n v2 w2 X2 (hs.grown hg λg hg0 he=>?_) ho (hg.eo.mono λk _ hk=>hk.symm) dB;have:=hd g he.symm;have:=h0 g hg0;omega
theorem acY (hX: ∀k,X k->k<w.heap.size) (hu:P.underlying t=some (.slice e)) (hz:(P.info? e).map (·.size)=some k)
  (n: ∀v w' X',aj X w X' w'->Own w' X' w.heap.size e k v []->N v w' X'):eV P R X w m (gT t e k 0 #[]) N:=af2 hX hu hz n
end
theorem Wg {t bytes len:Nat} {N:Value->World->XS->Prop} (cells:Array Value) (z:Value) (hX: ∀k,X k->k<w.heap.size) (he:mz P t e k bytes=true)
  (hz:(P.info? e).bind (·.zero)=some z) (Yw:0<len*k) (Rw:len*k<=2^24)
  (h:rN (λi=>some (i*k,k)) ((Bf (len*k)).map (z.cells[· % z.cells.size]!)) parts.toList=some cells)
  (CN: ∀r∈rows,r.length=k) (hlen:rows.length=len) (hc:cells.toList=rows.flatten)
  (n: ∀v w' X',aj X w X' w'->Own w' X' w.heap.size e k v rows->N v w' X'):eV P R X w m (gT t e k len parts) N:=by
 obtain⟨hu,iw,FG,z',hi,xt,xj⟩:=mL he;have:z'=z:=by
  cases hq:P.info? e with
  |none=>grind
  |some ie=>simp_all
 subst this;exact Cv cells z' hX hu xt Yw Rw h CN hlen hc n
end Go.aG
set_option linter.unusedSectionVars false
namespace Go.aG
variable {P : Program} {R : Ending -> World -> Prop} {X Y A A' : XS} {w w' : World} {m : Bool} {κ : Type} [DecidableEq κ] {α : Type}
def Zj (P:Program) (S f:Nat):Option Bool:=match P.underlying S with
 |some (.struct fs)=>match fs[f]? with
  |some x=>match P.underlying x.type with
   |some (.struct _)|some (.array _ _)=>some true
   |some _=>some false
   |none=>none
  |none=>none
 |_=>none
def qU (rd:World->XS->Value->α->Prop):Prop:= ∀(X Y:XS) (w w':World) (v:Value) (x:α),rd w X v x->Mv X w Y w'->rd w' Y v x
def oC (w:World) (A:XS) (rd:World->XS->Value->α->Prop):List (jy κ)->List (κ×α)->Prop
 |[],[]=>True
 |e::es,x::l=>e.1=x.1/\rd w A e.2.1 x.2/\oC w A rd es l
 |_,_=>False
theorem oC.mv {rd:World->XS->Value->α->Prop} (hm:qU rd) (v:Mv A w A' w'): ∀{es:List (jy κ)} {l:List (κ×α)},oC w A rd es l->oC w' A' rd es l
 |[],[],_=>trivial
 |_::_,_::_,⟨h1,h2,h3⟩=>⟨h1,hm _ _ _ _ _ _ h2 v,oC.mv hm v h3⟩
 |[],_::_,h=>h.elim
 |_::_,[],h=>h.elim
theorem oC.keys {rd:World->XS->Value->α->Prop} : ∀{es:List (jy κ)} {l:List (κ×α)},oC w A rd es l->es.map (·.1)=l.map (·.1)
 |[],[],_=>rfl
 |_::_,_::_,⟨h1,_,h3⟩=>by simp[h1,oC.keys h3]
 |[],_::_,h=>h.elim
 |_::_,[],h=>h.elim
theorem oC.append {rd:World->XS->Value->α->Prop} : ∀{es es':List (jy κ)} {l l':List (κ×α)},oC w A rd es l->oC w A rd es' l'->oC w A rd (es++es') (l++l')
 |[],_,[],_,_,h'=>h'
 |_::_,_,_::_,_,⟨h1,h2,h3⟩,h'=>⟨h1,h2,oC.append h3 h'⟩
 |[],_,_::_,_,h,_=>h.elim
 |_::_,_,[],_,h,_=>h.elim
def getM (k:κ) (l:List (κ×α)):Option α:=(l.find? λx=>decide (x.1=k)).map (·.2)
def cI (k:κ) (a:α):List (κ×α)->List (κ×α)
 |[]=>[(k,a)]
 |x::l=>if x.1=k then(k,a)::l else x::cI k a l
def jL (k:κ) (l:List (κ×α)):List (κ×α):=l.filter λx=>decide (x.1≠k)
theorem oC.get {rd:World->XS->Value->α->Prop} (k:κ): ∀{es:List (jy κ)} {l:List (κ×α)},oC w A rd es l->
  (Hp k es=none/\getM k l=none)\/ ∃v a,Hp k es=some v/\getM k l=some a/\rd w A v a
 |[],[],_=>.inl ⟨rfl,rfl⟩
 |e::es,x::l,⟨h1,h2,h3⟩=>by
  by_cases hk:x.1=k
  ·exact .inr ⟨e.2.1,x.2,by simp[Hp,h1,hk],by simp[getM,hk],h2⟩
  ·rcases oC.get k h3 with⟨q1,q2⟩|⟨v,a,q1,q2,q3⟩
   ·left;constructor
    ·simp only[Hp,fG,h1,hk,decide_false,aY,if_false];exact q1
    ·simp only[getM,fG,hk,decide_false,aY,if_false];exact q2
   ·right;refine⟨v,a,?_,?_,q3⟩
    ·simp only[Hp,fG,h1,hk,decide_false,aY,if_false];exact q1
    ·simp only[getM,fG,hk,decide_false,aY,if_false];exact q2
 |[],_::_,h=>h.elim
 |_::_,[],h=>h.elim
def GN (k:κ) (v:Value) (c:Nat):List (jy κ)->List (jy κ)
 |[]=>[(k,v,c)]
 |e::es=>if e.1=k then(e.1,v,e.2.2)::es else e::GN k v c es
theorem ab0 (k:κ) (v:Value) (c:Nat) (es:List (jy κ)):(Hq k v c es).1=GN k v c es:=by
 induction es with
 |nil=>rfl
 |cons e es ih=>
  unfold Hq at ih⊢;by_cases hk:e.1=k
  ·simp[mA,hk,GN]
  ·simp only[mA,hk,decide_false,aY,if_false,GN];cases hf:es.findIdx? λx=>decide (x.1=k)with
   |none=>grind
   |some j=>grind
variable {c : Nat}
theorem oC.put {rd:World->XS->Value->α->Prop} {k:κ} {v:Value} {a:α} (hv:rd w A v a): ∀{es:List (jy κ)} {l:List (κ×α)},oC w A rd es l->oC w A rd (GN k v c es) (cI k a l)
 |[],[],_=>⟨rfl,hv,trivial⟩
 |e::es,x::l,⟨h1,h2,h3⟩=>by
  unfold GN cI;by_cases hk:x.1=k
  ·rw[if_pos (h1.trans hk),if_pos hk];exact⟨h1.trans hk,hv,h3⟩
  ·rw[if_neg gQ,if_neg hk];exact⟨h1,h2,oC.put hv h3⟩
 |[],_::_,h=>h.elim
 |_::_,[],h=>h.elim
def Wk (k:κ) (es:List (jy κ)):List (jy κ):=es.filter λx=>decide (x.1≠k)
theorem ab1 (k:κ): ∀(es:List (jy κ)),(es.map (·.1)).Nodup->PF k es=Wk k es
 |[],_=>rfl
 |e::es,h=>by
  have h':(es.map (·.1)).Nodup:=(List.nodup_cons.1 h).2;have ih:=ab1 k es h';unfold PF at ih⊢;by_cases hk:e.1=k
  ·have:es.filter (λx=>decide (x.1≠k))=es:=List.filter_eq_self.2 λx hx=>by
    have:x.1≠k:=λhxk=>(List.nodup_cons.1 h).1 (by simp only[List.mem_map];exact⟨x,hx,by rw[hxk,hk]⟩)
    grind
   simp only[Wk] at this⊢;simp only[mA,hk,decide_true,if_true,List.eraseIdx_cons_zero,ne_eq,not_true_eq_false,decide_false,eB,aY,if_false]
   grind
  ·simp only[mA,hk,decide_false,aY,if_false];cases hf:es.findIdx? λx=>decide (x.1=k)with
   |none=>rw[hf] at ih;simp only[B7];simp only at ih;rw[ih];simp[Wk,hk,<-ih]
   |some j=>rw[hf] at ih;simp only[aX,List.eraseIdx_cons_succ] at ih⊢;rw[ih];simp[Wk,hk]
theorem oC.filter {rd:World->XS->Value->α->Prop} (p:κ->Bool): ∀{es:List (jy κ)} {l:List (κ×α)},oC w A rd es l->oC w A rd (es.filter λx=>p x.1) (l.filter λx=>p x.1)
 |[],[],_=>trivial
 |e::es,x::l,⟨h1,h2,h3⟩=>by
  have ih:=oC.filter p h3;by_cases hp:p x.1=true
  ·simp only[eB,h1,hp,if_true];exact⟨h1,h2,ih⟩
  grind
 |[],_::_,h=>h.elim
 |_::_,[],h=>h.elim
theorem oC.mem {rd:World->XS->Value->α->Prop} : ∀{es:List (jy κ)} {l:List (κ×α)},oC w A rd es l-> ∀e∈es,∃a,(e.1,a)∈l/\rd w A e.2.1 a
 |[],[],_,_,h=>by cases h
 |e0::es,x::l,⟨h1,h2,h3⟩,e,he=>by
  rcases List.mem_cons.1 he with rfl|he
  ·grind
  ·obtain⟨a,ha,hr⟩:=oC.mem h3 e he
   grind
 |[],_::_,h,_,_=>h.elim
 |_::_,[],h,_,_=>h.elim
def dK (w:World) (X A:XS) (b:Nat) (kv:κ->Value) (rd:World->XS->Value->α->Prop) (l:List (κ×α)):Prop:=
 ∃es c,mK w X b kv es c/\oC w A rd es l
variable {b : Nat}
theorem dK.mv {kv:κ->Value} {rd:World->XS->Value->α->Prop} {l:List (κ×α)} (h:dK w X A b kv rd l) (hm:qU rd) (v:Mv X w Y w') (va:Mv A w A' w'):dK w' Y A' b kv rd l:=
 let⟨es,c,h1,h2⟩:=h
 ⟨es,c,h1.mv v,h2.mv hm va⟩
theorem dK.nodup {kv:κ->Value} {rd:World->XS->Value->α->Prop} {l:List (κ×α)} (h:dK w X A b kv rd l):(l.map (·.1)).Nodup:=by
 obtain⟨es,c,h1,h2⟩:=h;rw[<-h2.keys];exact h1.2.2.1
theorem dK.x {kv:κ->Value} {rd:World->XS->Value->α->Prop} {l:List (κ×α)} (h:dK w X A b kv rd l):X b/\b<w.heap.size:=
 let⟨_,_,h1,_⟩:=h
 ⟨h1.1,(Array.getElem?_eq_some_iff.1 h1.2.1).1⟩
theorem dK.own {kv:κ->Value} {rd:World->XS->Value->α->Prop} {l:List (κ×α)} (h:dK w X A b kv rd l):dK w (λk=>k=b) A b kv rd l:=
 let⟨es,c,h1,h2⟩:=h
 ⟨es,c,⟨rfl,h1.2⟩,h2⟩
variable {ty : TypeId} {cs : List Value}
theorem aK.own (h:aK w X b cs ty):aK w (λk=>k=b) b cs ty:=⟨rfl,h.2⟩
theorem aK.lt (h:aK w X b cs ty):b<w.heap.size:=(Array.getElem?_eq_some_iff.1 h.2).1
theorem Mv.one (hk:Kp X w w') (hb:X b) (hy:Y b):Mv (λk=>k=b) w Y w':=λk af _=>by subst af;exact⟨hy,hk.block _ hb⟩
variable {N : Value -> World -> XS -> Prop}
theorem rE {t:TypeId} {kv:κ->Value} (rd:World->XS->Value->α->Prop) (A:XS) (hX: ∀k,X k->k<w.heap.size)
  (n: ∀b w' X',w.heap.size<=b->aj X w X' w'->dK w' X' A b kv rd []->N (.map (some b)) w' X'):eV P R X w m (fU t none) N:=
 ad3 hX λb w' X' hb hs hm=>n b w' X' hb hs ⟨[],0,hm,trivial⟩
variable {et kt t : Nat}
theorem E4 {kv:κ->Value} {rd:World->XS->Value->α->Prop} {l:List (κ×α)} {k:κ} {N:Value->Prop} (z:Value) (h:dK w X A b kv rd l) (K:xk P kt kv)
  (ht:P.underlying t=some (.map kt et)) (hz:(P.info? et).bind (·.zero)=some z)
  (n1: ∀v a,getM k l=some a->rd w A v a->N (.tuple #[v,.bool true])) (n0:getM k l=none->N (.tuple #[z,.bool false])):
  aZ P X w (bF t (.map (some b)) (kv k) true) N:=by
 obtain⟨es,c,h1,h2⟩:=h;refine ad2 z h1 K ht hz ?_;rcases h2.get k with⟨q1,q2⟩|⟨v,a,q1,q2,q3⟩
 ·grind
 grind
theorem nh {kv:κ->Value} {rd:World->XS->Value->α->Prop} {l:List (κ×α)} {k:κ} {N:Value->Prop} (z:Value) (h:dK w X A b kv rd l) (K:xk P kt kv)
  (ht:P.underlying t=some (.map kt et)) (hz:(P.info? et).bind (·.zero)=some z)
  (n1: ∀v a,getM k l=some a->rd w A v a->N v) (n0:getM k l=none->N z):
  aZ P X w (bF t (.map (some b)) (kv k) false) N:=by
 have key: ∀u q,(∀wa,Kp X w wa->(bF t (.map (some b)) (kv k) true).run P wa= .ok (.tuple #[u,.bool q]) wa)-> ∀wa,Kp X w wa->(bF t (.map (some b)) (kv k) false).run P wa= .ok u wa:=by
  intro u q hq wa hk;have h1:=hq wa hk;obtain⟨es,c,hm,_⟩:=h;simp only[bF,bh,run_underlying ht,aO,getObj,tQ,((hm.kp hk).2.1),K.jq,cL,K.find] at h1⊢;cases hf:tw k es 0 with
  |none=>
   cases hi:P.info? et with
   |none=>simp[hi] at hz
   |some inf=>
    have xt:inf.zero=some z:=by simpa [hi] using hz
    simp[zeroValue,typeInfo,hi,xt,K.find,hf] at h1⊢;exact h1.1
  |some r=>
   simp[K.find,hf] at h1⊢;exact h1.1
 have:=E4 (N:=λv=> ∃u q,v= .tuple #[u,.bool q]/\N u) z h K ht hz (λv a h1 h2=>⟨v,_,rfl,n1 v a h1 h2⟩) (λh0=>⟨z,_,rfl,n0 h0⟩);obtain⟨v,hv,u,q,rfl,hn⟩:=this;refine HQ u (key u q λwa hk=>?_) hn;have:=hv wa hk;simp only[vS,bh] at this;cases hr:(bF t (.map (some b)) (kv k) true).run P wa with
 |ok a w2=>rw[hr] at this;simp only[aO,bK,Result.ok.injEq,Next.value.injEq] at this;grind
 |halt a w2=>grind [Result.andThen]
theorem vA {kv:κ->Value} {rd:World->XS->Value->α->Prop} {l:List (κ×α)} {k:κ} {v:Value} {a:α} (h:dK w X A b kv rd l) (hm:qU rd)
  (hv:rd w A v a) (hA: ∀k,A k->X k/\k≠b) (K:xk P kt kv) (ht:P.underlying t=some (.map kt et)) (hX: ∀k,X k->k<w.heap.size)
  (n: ∀w' X',eh (· =b) X w X' w'->dK w' X' A b kv rd (cI k a l)->N undef w' X'):
  eU P R X w true (cE t (.map (some b)) (kv k) v) N:=by
 obtain⟨es,c,h1,h2⟩:=h;refine af3 h1 K ht hX λw' X' hg hi=>?_;have hc:eh (· =b) X w X' w':=hg.eo.mono λk _ hk=>by simpa using hk
 refine n w' X' hc ⟨_,_,hi,?_⟩;rw[ab0];have mv:Mv A w A w':=λk hk _=>⟨hk,hc.block k (hA k hk).1 (hA k hk).2⟩;exact(h2.put hv).mv hm mv
theorem air {tk ty:Nat} {kv:κ->Value} {rd:World->XS->Value->α->Prop} {l:List (κ×α)} {k:κ} (h:dK w X A b kv rd l) (hm:qU rd)
  (hA: ∀k,A k->X k/\k≠b) (K:xk P kt kv) (ht:P.underlying t=some (.map kt et)) (hX: ∀k,X k->k<w.heap.size)
  (n: ∀w' X',eh (· =b) X w X' w'->dK w' X' A b kv rd (jL k l)->N (.tuple #[]) w' X'):
  eV P R X w true (sF #[t,tk] ty #[.map (some b),kv k]) N:=by
 obtain⟨es,c,h1,h2⟩:=h;refine af4 h1 K ht hX λw' X' hg hi=>?_;have hc:eh (· =b) X w X' w':=hg.eo.mono λk _ hk=>by grind
 refine n w' X' hc ⟨_,_,hi,?_⟩;rw[ab1 _ _ h1.2.2.1];have mv:Mv A w A w':=λk hk _=>⟨hk,hc.block k (hA k hk).1 (hA k hk).2⟩;exact(h2.filter (λx=>decide (x≠k))).mv hm mv
def My (w:World) (X A:XS) (r b:Nat) (kv:κ->Value) (rd:World->XS->Value->α->Prop) (l left:List (κ×α)):Prop:=
 ∃es c OS,Bg w X r b kv es c OS/\oC w A rd es l/\oC w A rd OS left/\OS.Sublist es
variable {r : Nat}
theorem My.mv {kv:κ->Value} {rd:World->XS->Value->α->Prop} {l left:List (κ×α)} (h:My w X A r b kv rd l left) (hm:qU rd) (v:Mv X w Y w') (va:Mv A w A' w'):My w' Y A' r b kv rd l left:=by
 obtain⟨es,c,OS,h1,h2,h3,h4⟩:=h;refine⟨es,c,OS,⟨h1.1.mv v,?_,h1.2.2.1,?_⟩,h2.mv hm va,h3.mv hm va,h4⟩
 ·obtain⟨s,hs,_⟩:=h1.2.2.2;exact(v r h1.2.1 (Array.getElem?_eq_some_iff.1 hs).1).1
 ·obtain⟨s,hs,hl⟩:=h1.2.2.2;exact⟨s,by rw[(v r h1.2.1 (Array.getElem?_eq_some_iff.1 hs).1).2];exact hs,hl⟩
theorem My.map {kv:κ->Value} {rd:World->XS->Value->α->Prop} {l left:List (κ×α)} (h:My w X A r b kv rd l left):dK w X A b kv rd l:=
 let⟨es,c,_,h1,h2,_⟩:=h
 ⟨es,c,h1.1,h2⟩
theorem My.nodup {kv:κ->Value} {rd:World->XS->Value->α->Prop} {l left:List (κ×α)} (h:My w X A r b kv rd l left):(left.map (·.1)).Nodup:=by
 obtain⟨es,c,OS,h1,h2,h3,h4⟩:=h;rw[<-h3.keys];exact h1.1.2.2.1.sublist (h4.map _)
theorem af7 {l:List (κ×α)} (c:κ×α->Bool):(l.map (·.1)).Nodup-> ∀{k:κ} {a:α},(k,a)∈l->l.any c=(c (k,a)||(l.filter λy=>decide (y.1≠k)).any c):=by
 induction l with
 |nil=>grind
 |cons x l ih=>
  intro hn k a h;have l9:=List.nodup_cons.1 hn;rcases List.mem_cons.1 h with h|h
  ·subst h;have:l.filter (λy=>decide (y.1≠k))=l:=List.filter_eq_self.2 λy hy=>by
    have:y.1≠k:=λe=>l9.1 (List.mem_map.2 ⟨y,hy,e⟩)
    grind
   simp only[List.any_cons,eB,ne_eq,not_true_eq_false,decide_false,aY,if_false];simp only[ne_eq] at this;rw[this]
  ·have hx:x.1≠k:=λe=>l9.1 (List.mem_map.2 ⟨(k,a),h,e.symm⟩);have:=ih l9.2 h;simp only[List.any_cons,eB,hx,ne_eq,not_false_eq_true,decide_true,if_true];simp only[ne_eq] at this;rw[this,<-Bool.or_assoc,<-Bool.or_assoc,Bool.or_comm (c x)]
theorem akC {l:List (κ×α)} {k:κ} {a:α} (h:(k,a)∈l):(l.filter λy=>decide (y.1≠k)).length<l.length:=by
 refine Nat.lt_of_le_of_ne (List.length_filter_le _ _) λe=>?_;have:=List.length_filter_eq_length_iff.1 e (k,a) h;simp at this
variable {w0 : World} {X0 : XS}
theorem aj.jf (h:aj X0 w0 X w) (hA: ∀k,A k->X0 k):Mv A w0 A w:=λk hk _=>⟨hk,h.kp.block k (hA k hk)⟩
theorem akD {kv:κ->Value} {rd:World->XS->Value->α->Prop} {l:List (κ×α)} (h:dK w X A b kv rd l) (hm:qU rd) (hA: ∀k,A k->X k)
  (ht:P.underlying t=some (.map kt et)) (hX: ∀k,X k->k<w.heap.size)
  (n: ∀r w' X',w.heap.size<=r->aj X w X' w'->My w' X' A r b kv rd l l->N (ptr r 0) w' X'):eV P R X w m (xh t (.map (some b))) N:=by
 obtain⟨es,c,h1,h2⟩:=h;refine aie h1 ht hX λr w' X' hr hs hi=>n r w' X' hr hs ?_;have mv:Mv A w A w':=λk hk _=>⟨hk,hs.kp.block k (hA k hk)⟩;exact⟨es,c,es,hi,h2.mv hm mv,h2.mv hm mv,List.Sublist.refl _⟩
theorem am1 {ty:Nat} {kv:κ->Value} {rd:World->XS->Value->α->Prop} {l left:List (κ×α)} (h:My w X A r b kv rd l left) (hm:qU rd)
  (hA: ∀k,A k->X k/\k≠r) (hX: ∀k,X k->k<w.heap.size)
  (n0:left=[]-> ∀w' X',aj X w X' w'->N (.tuple #[.bool false]) w' X')
  (n1: ∀k a v,(k,a)∈left-> ∀w' X',eh (· =r) X w X' w'->rd w' A v a->My w' X' A r b kv rd l (left.filter λy=>decide (y.1≠k))->
   (∀wa,Kp X' w' wa->(qp (ptr r 0)).run P wa= .ok (.tuple #[kv k,v]) wa)->N (.tuple #[.bool true,kv k,v]) w' X'):
  eV P R X w true (Instr.next (ptr r 0) false ty) N:=by
 obtain⟨es,c,OS,h1,h2,h3,h4⟩:=h;refine akw h1 hX (λh0 w' X' hs=>n0 ?_ w' X' hs) λx hx w' X' hg hi he=>?_
 ·subst h0;cases left with
  |nil=>rfl
  |cons y t=>exact h3.elim
 ·have hc:eh (· =r) X w X' w':=hg.eo.mono λk _ hk=>by simpa using hk
  have mv:Mv A w A w':=λk hk _=>⟨hk,hc.block k (hA k hk).1 (hA k hk).2⟩;obtain⟨a,ha,uR⟩:=h3.mem x hx;refine n1 x.1 a x.2.1 ha w' X' hc (hm _ _ _ _ _ _ uR mv) ?_ he;have hk: ∀y∈OS,decide (y.2.2≠x.2.2)=decide (y.1≠x.1):=by
   intro y hy;have hye:=h4.subset hy;have n1:=h1.1.2.2.1;have n2:=h1.1.2.2.2.1;obtain⟨i,hi9,rfl⟩:=yO hye;obtain⟨j,hj,rfl⟩:=yO (h4.subset hx);have inj: ∀{β:Type} (f:jy κ->β),(es.map f).Nodup->(f es[i]=f es[j]↔i=j):=by
    intro β f n;constructor
    ·intro e;have hp:=List.pairwise_iff_getElem.1 n;rcases Nat.lt_trichotomy i j with h|h|h
     ·exact absurd (by rw[rq,rq];exact e) (hp i j (by simpa using hi9) (by simpa using hj) h)
     ·exact h
     ·exact absurd (by rw[rq,rq];exact e.symm) (hp j i (by simpa using hj) (by simpa using hi9) h)
    ·rintro rfl;rfl
   have e1:=inj (·.1) n1;have e2:=inj (·.2.2) n2;simp only[ne_eq,e1,e2]
  have hf:(OS.filter λy=>decide (y.2.2≠x.2.2))=OS.filter λy=>decide (y.1≠x.1):=List.filter_congr hk;refine⟨es,c,_,hi,h2.mv hm mv,?_,?_⟩
  ·rw[hf];exact(h3.filter (λk=>decide (k≠x.1))).mv hm mv
  ·exact(List.filter_sublist).trans h4
theorem akE {k v:Value} (hX: ∀k,X k->k<w.heap.size)
  (h: ∀wa,Kp X w wa->(qp (ptr r 0)).run P wa= .ok (.tuple #[k,v]) wa) (n: ∀w' X',aj X w X' w'->N (.tuple #[k,v]) w' X'):
  eV P R X w m (qp (ptr r 0)) N:=aif hX h n
def SS (w:World) (A:XS) (rd:World->XS->Value->α->Prop) (k:κ):List (jy κ)->List (κ×α)->Prop
 |[],[]=>True
 |e::es,x::l=>e.1=x.1/\(x.1≠k->rd w A e.2.1 x.2)/\SS w A rd k es l
 |_,_=>False
def aeg (w:World) (X A:XS) (b:Nat) (kv:κ->Value) (rd:World->XS->Value->α->Prop) (k:κ) (l:List (κ×α)):Prop:=
 ∃es c,mK w X b kv es c/\SS w A rd k es l
theorem oC.toX {rd:World->XS->Value->α->Prop} {k:κ} : ∀{es:List (jy κ)} {l:List (κ×α)},oC w A rd es l->
  (∀x v,x∈l->x.1≠k->rd w A v x.2->rd w' A' v x.2)->SS w' A' rd k es l
 |[],[],_,_=>trivial
 |e::es,x::l,⟨h1,h2,h3⟩,hm=>⟨h1,λhk=>hm x _ sQ hk h2,oC.toX h3 λy v hy=>hm y v (by simp[hy])⟩
 |[],_::_,h,_=>h.elim
 |_::_,[],h,_=>h.elim
theorem dK.toX {kv:κ->Value} {rd:World->XS->Value->α->Prop} {k:κ} {l:List (κ×α)} (h:dK w X A b kv rd l) (m:Mv (λg=>g=b) w Y w')
  (hm: ∀x v,x∈l->x.1≠k->rd w A v x.2->rd w' A' v x.2):aeg w' Y A' b kv rd k l:=by
 obtain⟨es,c,h1,h2⟩:=h;exact⟨es,c,mK.mv (X:=λg=>g=b) ⟨rfl,h1.2⟩ m,h2.toX hm⟩
theorem SS.put {rd:World->XS->Value->α->Prop} {k:κ} {v:Value} {a:α} (hv:rd w A v a): ∀{es:List (jy κ)} {l:List (κ×α)},(es.map (·.1)).Nodup->SS w A rd k es l->oC w A rd (GN k v c es) (cI k a l)
 |[],[],_,_=>⟨rfl,hv,trivial⟩
 |e::es,x::l,hn,⟨h1,h2,h3⟩=>by
  have l9:=List.nodup_cons.1 hn;unfold GN cI;by_cases hk:x.1=k
  ·rw[if_pos (h1.trans hk),if_pos hk];refine⟨h1.trans hk,hv,?_⟩;have cj: ∀y∈es,y.1≠k:=λy hy e'=>l9.1 (List.mem_map.2 ⟨y,hy,e'.trans (hk.symm.trans h1.symm)⟩);clear hn l9 h1 h2
   induction es generalizing l with
   |nil=>cases l<;>assumption
   |cons e2 es ih=>
    cases l with
    |nil=>exact h3.elim
    |cons y l=>exact⟨h3.1,h3.2.1 (h3.1▸cj e2 sQ),ih l h3.2.2 λz hz=>cj z (by simp[hz])⟩
  ·rw[if_neg gQ,if_neg hk];exact⟨h1,h2 hk,SS.put hv l9.2 h3⟩
 |[],_::_,_,h=>h.elim
 |_::_,[],_,h=>h.elim
theorem af8 {kv:κ->Value} {rd:World->XS->Value->α->Prop} {l:List (κ×α)} {k:κ} {v:Value} {a:α} (h:aeg w X A b kv rd k l) (hm:qU rd)
  (hv:rd w A v a) (hA: ∀k,A k->X k/\k≠b) (K:xk P kt kv) (ht:P.underlying t=some (.map kt et)) (hX: ∀k,X k->k<w.heap.size)
  (n: ∀w' X',eh (· =b) X w X' w'->dK w' X' A b kv rd (cI k a l)->N undef w' X'):
  eU P R X w true (cE t (.map (some b)) (kv k) v) N:=by
 obtain⟨es,c,h1,h2⟩:=h;refine af3 h1 K ht hX λw' X' hg hi=>?_;have hc:eh (· =b) X w X' w':=hg.eo.mono λk _ hk=>by simpa using hk
 refine n w' X' hc ⟨_,_,hi,?_⟩;rw[ab0];have mv:Mv A w A w':=λk hk _=>⟨hk,hc.block k (hA k hk).1 (hA k hk).2⟩;exact(h2.put hv h1.2.2.1).mv hm mv
theorem gK {l:List (κ×α)} {k:κ} {a:α} (h:getM k l=some a):(k,a)∈l:=by
 unfold getM at h;obtain⟨x,hx,rfl⟩:=Option.map_eq_some_iff.1 h
 grind
theorem pC {l:List (κ×α)} (hn:(l.map (·.1)).Nodup) {k:κ} {a:α} (h:(k,a)∈l):getM k l=some a:=by
 induction l with
 |nil=>cases h
 |cons x l ih=>
  have l9:=List.nodup_cons.1 hn;rcases List.mem_cons.1 h with h|h
  ·subst h;simp[getM]
  ·have hx:x.1≠k:=λe=>l9.1 (List.mem_map.2 ⟨(k,a),h,e.symm⟩);have:=ih l9.2 h;simp only[getM,fG,hx,decide_false,aY,if_false];exact this
theorem mU {l:List (κ×α)} {k:κ} {a:α} : ∀{x:κ×α},(l.map (·.1)).Nodup->x∈cI k a l->x=(k,a)\/(x∈l/\x.1≠k):=by
 induction l with
 |nil=>grind [cI]
 |cons y l ih=>
  intro x hn h;have l9:=List.nodup_cons.1 hn;unfold cI at h;split at h
  ·rename_i hy;rcases List.mem_cons.1 h with h|h
   ·exact .inl h
   ·exact .inr ⟨by simp[h],λe=>l9.1 (List.mem_map.2 ⟨x,h,e.trans hy.symm⟩)⟩
  ·rename_i hy;rcases List.mem_cons.1 h with h|h
   ·grind
   grind
theorem AJ {t:TypeId} {l:List Value} (hX: ∀k,X k->k<w.heap.size)
  (n: ∀b w' X',w.heap.size<=b->aj X w X' w'->aK w' X' b l t->N (ptr b 0) w' X'):eV P R X w m (cr t (.agg l.toArray)) N:=
 abY hX λb w' X' hb hs hx hr=>n b w' X' hb hs ⟨hx,by assumption⟩
theorem uu {t:TypeId} {v:Value} (ho:one v=true) (hX: ∀k,X k->k<w.heap.size)
  (n: ∀b w' X',w.heap.size<=b->aj X w X' w'->aK w' X' b [v] t->N (ptr b 0) w' X'):eV P R X w m (cr t v) N:=
 abY hX λb w' X' hb hs hx hr=>n b w' X' hb hs ⟨hx,by
  have:v.cells.toList=[v]:=by cases v<;>first|rfl|cases ho
  rw[this] at hr;exact hr⟩
variable {X : XS} {w : World}
theorem aj.fT (h: ∀k,X k->k<w.heap.size):aj X w X w:=⟨Kp.refl _ _,λ_ h=>h,h⟩
theorem am2 {S f fo sz:Nat} {l l':List Value} {N:Value->Prop} (hf:fieldInfo P S f=some (fo,sz)) (hg:Zj P S f=some true) (hlen:decide (fo+sz<=l.length)=true) (hl:(l.drop fo).take sz=l')
  (k:N (.agg l'.toArray)):aZ P X w (fdV S f fo sz (.agg l.toArray)) N:=by
 subst hl;unfold fieldInfo at hf;unfold Zj at hg;cases hu:P.underlying S with
 |none=>simp[hu] at hf
 |some d=>
  cases d<;>simp only[hu] at hf<;>try (cases hf;done)
  rename_i fs;cases hx:fs[f]? with
  |none=>simp[hx] at hf
  |some x=>
   simp only[hx,cJ,hu] at hf hg;cases hi:P.info? x.type with
   |none=>simp[hi] at hf
   |some i=>
    simp only[hi,aX,ah,cD] at hf;cases hd:P.underlying x.type with
    |none=>simp[hd] at hg
    |some d2=>
     refine bA (v:=.agg ((l.drop fo).take sz).toArray) (λwa=>?_) k;have Cf:(isAgg x.type).run P wa= .ok true wa:=by
      cases d2<;>simp_all [isAgg,run_underlying hd]
     have hle:fo+sz<=l.length:=by simpa using hlen
     obtain⟨rfl,rfl⟩:=hf;simp[fdV,Instr.field,run_underlying hu,hx,asAgg,part,Cf,sizeOf,typeInfo,hi,hle]
variable {f : FuncId}
theorem aoE {la lc l:List Value} (hl:la++lc=l) (h:eC P R X w m f l.toArray N):eF P R X w m (.func (.func f) #[] lc.toArray) la.toArray N:=by
 subst hl;have e: ∀wa,(II (.func (.func f) #[] lc.toArray) la.toArray).run P wa=(callFunc f (la++lc).toArray).run P wa:=by
  intro wa;simp[II,Deferred.ofValue,invoke]
 intro wa hk;have:=h wa hk
 grind
theorem akF {fn:Fn} {a c:Array Value} {N:Value->Prop} (h:N (.func fn a c)):aZ P X w (Instr.makeFunc fn a c) N:=bA (λwa=>by rfl) h
variable {w' : World} {Q : Value -> World -> World -> Prop} {F : XS} {args : Array Value}
theorem Ct.kp (h:Ct P f args w X F Q) (hk:Kp X w w'):Ct P f args w' X F Q:=λwa af=>h wa (hk.trans af)
theorem Ct.since {X':XS} (h:Ct P f args w X F Q) (hs:aj X w X' w'):Ct P f args w' X' F Q:=λwa af=>h wa (hs.kp.trans (af.less hs.sub))
theorem Ct.bV (h:Ct P f args w X F Q) (hX: ∀k,X k->k<w.heap.size):Ct P f args w (aG.bV w) F Q:=
 λwa af=>h wa (af.less λk hk=>hX k hk)
def idxOf (p:α->Bool):List α->Int
 |[]=> -1
 |x::l=>if p x then 0 else let i:=idxOf p l;if i<0 then i else i+1
theorem Mz (p:α->Bool): ∀l:List α,decide (idxOf p l>=0)=l.any p
 |[]=>rfl
 |x::l=>by
  have ih:=Mz p l;unfold idxOf
  grind
variable {i : Nat}
theorem Ch {p:α->Bool} {l:List α} (h: ∀k x,k<i->l[k]? =some x->p x=false) {x:α} (hx:l[i]? =some x) (hp:p x=true):idxOf p l=i:=by
 induction l generalizing i with
 |nil=>simp at hx
 |cons y l ih=>
  cases i with
  |zero=>simp only[j6,ah] at hx;subst hx;simp[idxOf,hp]
  |succ i=>
   have hy:=h 0 y zQ rfl;have:=ih (i:=i) (λk z hk hz=>h (k+1) z zQ aQ) aQ;simp only[idxOf,hy,aY,if_false,this];rfl
theorem yl {p:α->Bool} {l:List α} (h: ∀k x,k<l.length->l[k]? =some x->p x=false):idxOf p l= -1:=by
 induction l with
 |nil=>rfl
 |cons y l ih=>
  have hy:=h 0 y sQ rfl;have:=ih λk z hk hz=>h (k+1) z gQ aQ;simp[idxOf,hy,this]
theorem aj.less {Y0:XS} (h:aj X0 w0 X w) (hs: ∀k,Y0 k->X0 k):aj Y0 w0 X w:=⟨h.kp.less hs,λk hk=>h.sub k (hs k hk),h.has⟩
variable {rows : List (List Value)} {cap e g k lo n : Nat}
theorem Own.Ic (h:aK w X g cs e) (gv:lo<=g) (hr: ∀r∈rows,r.length=k) (hn:rows.length=n) (hc:n<=cap) (hm:cap<=maxLen)
  (hl:cs.length=cap*k) (ht:cs.take (n*k)=rows.flatten):Own w X lo e k (.slice (some ⟨g,0,none⟩) n cap) rows:=
 ⟨hr,⟨by rw[lU hr],.inr ⟨g,cap,cs.toArray,by rw[hn],gv,h.2,by omega,hm,by simpa using hl,by grind⟩⟩,λg' hg=>by simp only[il,ah] at hg;subst hg;exact h.1⟩
theorem Own.row {v:Value} (h:Own w X lo e k v rows):(v= .slice none 0 0/\rows=[])\/
  ∃g cap cs,v= .slice (some ⟨g,0,none⟩) rows.length cap/\lo<=g/\aK w X g cs e/\rows.length<=cap/\cap<=maxLen/\cs.length=cap*k/\cs.take (rows.length*k)=rows.flatten:=by
 obtain⟨h1,h2,h3⟩:=h;rcases h2.2 with⟨rfl,hn⟩|⟨g,cap,cur,rfl,hb,hg,ql,iF,jD,ht⟩
 ·simp_all
 ·exact .inr ⟨g,cap,cur.toList,rfl,hb,⟨h3 g rfl,by omega⟩,ql,iF,by omega,ht⟩
theorem aju {t:TypeId} {z:Int} {N:Value->Prop} (hz:z=i) (hi:i<n) (ht:P.underlying t=some (.slice (P.elem t))) (hs:(P.info? (P.elem t)).map (·.size)=some k) (h:N (ptr g (i*k))):
  aZ P X w (oS t k (.slice (some ⟨g,0,none⟩) n cap) (.int .i64 z)) N:=by
 subst hz;refine bA (v:=ptr g (i*k)) (λwa=>?_) h
 show(zc t _ _).run P wa=_
 rw[run_indexAt_slice (h:=ht),if_pos zQ];cases hq:P.info? (P.elem t)with
 |none=>grind
 |some inf=>
  have:inf.size=k:=by simpa [hq] using hs
  simp[sizeOf,typeInfo,hq,this,zN]
theorem Ew {sz o:Nat} {v:Value} (h:aK w X b cs ty) (ht:(P.info? t).map (·.size)=some sz)
  (hl:o+sz<=cs.length) (hv:v.cells.size=sz) (h1:v.cells.toList.all one=true) (hX: ∀k,X k->k<w.heap.size)
  (n: ∀w' X',eh (λk=>k=b) X w X' w'->aK w' X' b (cY cs o v.cells.toList) ty->N undef w' X'):eU P R X w true (st1 t sz (ptr b o) v) N:=
 aic h ht hl hv h1 hX λw' X' hg hr=>n w' X' (hg.eo.mono λk _ hk=>by grind) hr
theorem Lt {t:TypeId} {a:Option Addr} {z:Int} {N:Value->Prop} (hz:z=i) (hi:i<=cap) (ht:P.underlying t=some (.slice (P.elem t))) (hs:((P.info? (P.elem t)).map (·.size)).isSome=true) (h:N (.slice a i cap)):
  aZ P X w (Instr.sliceAt t (.slice a n cap) none (some (.int .i64 z)) none) N:=by
 subst hz;obtain⟨k,hk⟩:=Option.isSome_iff_exists.1 hs;refine bA (v:=.slice a i cap) (λwa=>?_) h;rw[run_sliceAt_slice wa t _ _ _ _ ht,run_slice_h wa t a n cap ht .i64 i zQ zQ];cases hq:P.info? (P.elem t)with
 |none=>grind
 |some inf=>
  have:a.map (λx=>x.add 0)=a:=by cases a<;>rfl
  simp[sizeOf,typeInfo,hq,sliced,this]
variable {P : Program}
def Ny (P:Program) (t e k:Nat):Bool:=match P.underlying t,P.info? e with
 |some (.slice e'),some i=>e'==e&&i.size==k&&(match i.zero with|some z=>z.cells.size==k|none=>false)&&decide (0<k)&&decide (k<=2^20)
 |_,_=>false
theorem UK (h:Ny P t e k=true):P.underlying t=some (.slice e)/\0<k/\k<=2^20/\ ∃z:Value,(P.info? e).bind (λi=>i.zero.map λz=>(i.size,z))=some (k,z):=by
 unfold Ny at h;split at h
 ·rename_i e' i hu hi;simp only[aD,beq_iff_eq,decide_eq_true_eq] at h;obtain⟨⟨⟨⟨rfl,h2⟩,h4⟩,h5⟩,h6⟩:=h;cases hz:i.zero with
  |none=>grind
  |some z=>simp_all
 ·cases h
variable {R : Ending -> World -> Prop}
section
variable {m : Bool}
theorem QG {l:List Value} (hX: ∀k,X k->k<w.heap.size) (he:Ny P t e k=true) (hk:(l.length==k)=true)
  (n: ∀v w' X',aj X w X' w'->Own w' X' w.heap.size e k v [l]->N v w' X'):eV P R X w m (gT t e k 1 #[(0,.agg l.toArray)]) N:=by
 obtain⟨hu,h0,h1,z,hz⟩:=UK he;have af:l.length=k:=by simpa using hk
 refine Cv (rows:=[l]) l.toArray z hX hu hz zQ zQ ?_ gQ rfl sQ n;simp only[Bc];exact FM (x:=.agg l.toArray) aQ sQ
theorem Xw {x:Value} (hX: ∀k,X k->k<w.heap.size) (he:Ny P t e k=true) (ho:one x=true) (hk:(k==1)=true)
  (n: ∀v w' X',aj X w X' w'->Own w' X' w.heap.size e k v [[x]]->N v w' X'):eV P R X w m (gT t e k 1 #[(0,x)]) N:=by
 obtain⟨hu,h0,h1,z,hz⟩:=UK he;have af:1=k:=by simpa using (beq_iff_eq.1 hk).symm
 have hc:=td ho;refine Cv (rows:=[[x]]) x.cells z hX hu hz zQ zQ ?_ gQ rfl (by rw[hc];rfl) n;simp only[Bc];exact FM gQ sQ
end
def Nz (P:Program) (t:TypeId):Bool:=match P.underlying t with
 |some (.pointer _)=>true
 |_=>false
theorem GO {t:TypeId} (h:Nz P t=true):P.underlying t=some (.pointer (P.pointee t)):=by grind [Nz,Program.pointee]
variable {a : Addr}
section
variable {N : Value -> Prop} {t : TypeId} {xo yo : Operand}
theorem akG (ht:Nz P t=true) (k:N (.bool false)):aZ P X w (de .eql t xo yo (.pointer (some a)) (.pointer none)) N:=WX (p:=some a) (GO ht) k
theorem akH (ht:Nz P t=true) (k:N (.bool true)):aZ P X w (de .eql t xo yo (.pointer none) (.pointer none)) N:=WX (p:=none) (GO ht) k
theorem am3 (ht:Nz P t=true) (k:N (.bool true)):aZ P X w (de .neq t xo yo (.pointer (some a)) (.pointer none)) N:=by
 refine bA (λwa=>?_) k;have:=run_neq_pointer_nil (P:=P) (w:=wa) t (some a) (GO ht);assumption
theorem am4 (ht:Nz P t=true) (k:N (.bool false)):aZ P X w (de .neq t xo yo (.pointer none) (.pointer none)) N:=by
 refine bA (λwa=>?_) k;have:=run_neq_pointer_nil (P:=P) (w:=wa) t none (GO ht);assumption
end
end Go.aG