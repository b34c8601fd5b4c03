/-
 Part 13 of the proof: what the last text leans on.
-/
import Derived.Shelf.SlIter.Collect
import Derived.Test.YtgfijddlkhkopaaGreatH12
open Go.Value renaming int → ay
open Go.IntKind renaming i64 → bP
open List renaming length_map → ai, length → az, mem_singleton → aw, length_singleton → dm, map_append → aJ, toList_toArray → cL, map_map → bB, nodup_nil → th, map_nil → lu, length_cons → aM, take_add_one → dr, take_of_length_le → ax, filter_cons → eB, eq_nil_of_length_eq_zero → iJ, append_assoc → ak, not_mem_nil → dC
open Go.Operand renaming tmp → kT
open Nat renaming le_refl → aq, le_trans → ad, zero_le → au
open Go.Obj.cells renaming inj → kE
open Go.World renaming putObj_heap_other → fy, alloc_heap_new → jM, cell? → fq, putObj_heap_same → km
open Go.Fence renaming wide → gf
open Go.Ground renaming data → ti, phase → rU
open Go.Result renaming andThen → xz
open Go.Code renaming wpIn → DJ
open Go.Oper renaming semAt_plain → AM
open Go.KeepsWalks renaming alloc → AN, putObj → Al
namespace Go.Proofs.YtgfijddlkhkopaaGreat
open Go.Proofs.Tryz renaming prog → pg
open Go.aG Go.RowKit Go.Maps Go.Sort Go.Shelf Go.ChangeMaps
set_option maxRecDepth 100000
set_option maxHeartbeats 4000000
set_option linter.unusedVariables false
set_option linter.unusedSimpArgs false
abbrev H9:Nat:=86
abbrev Xm:Nat:=104
abbrev tT:Nat:=34
structure Hd (w:World) (b:Nat) (es:List (jy bH)) (c:Nat):Prop where
 gA:w.heap[b]? =some (.map (es.map (lO λk:bH=>k.v)).toArray c)
 nd:(es.map (·.2.2)).Nodup
 lt: ∀x∈es,x.2.2<c
def ua (es:List (jy bH)) (seen:Array Nat):List (jy bH):=es.filter λx=>!seen.contains x.2.2
theorem O8 (es:List (jy bH)) (seen:Array Nat):(leftOf (es.map (lO λk:bH=>k.v)).toArray seen).toList=(ua es seen).map (lO λk:bH=>k.v):=by
 simp only[leftOf,ua,Array.toList_filter,cL,List.filter_map];rfl
variable {es : List (jy bH)}
theorem Qu {seen:Array Nat} (hn:(es.map (·.2.2)).Nodup) {x:jy bH} (hx:x∈ua es seen):((x::ua es (seen.push x.2.2)).Perm (ua es seen)):=by
 have mu:=List.mem_filter.1 hx;have e:ua es (seen.push x.2.2)=(ua es seen).filter λy=>decide (y.2.2≠x.2.2):=by
  unfold ua;rw[List.filter_filter]
  congr 1
  funext y
  by_cases hy:y.2.2=x.2.2<;>simp_all
 rw[e];have l9:((ua es seen).map (·.2.2)).Nodup:=hn.sublist (List.Sublist.map _ List.filter_sublist);generalize ua es seen=l at hx l9
 induction l with
 |nil=>cases hx
 |cons y l ih=>
  have h1:=List.nodup_cons.1 l9;rcases List.mem_cons.1 hx with rfl|AO
  ·rw[eB,if_neg sQ];have:l.filter (λy=>decide (y.2.2≠x.2.2))=l:=List.filter_eq_self.2 λz hz=>by
    have:z.2.2≠x.2.2:=λe=>h1.1 (List.mem_map.2 ⟨z,hz,e⟩)
    grind
   rw[this]
  ·have cj:y.2.2≠x.2.2:=λe=>h1.1 (List.mem_map.2 ⟨x,AO,e.symm⟩);rw[eB,if_pos gQ];exact(List.Perm.swap _ _ _).trans ((ih AO h1.2).cons _)
theorem afh (w:World) (r:Nat) (o:Obj):w.grownBy (setBlock w r o) (some r)/\(setBlock w r o).heap.size=w.heap.size:=
 ⟨⟨rfl,rfl,rfl,by simp[setBlock],λk hk cj=>by
  have:r≠k:=λe=>cj (by rw[e]);simp[setBlock,Array.getElem?_setIfInBounds,this]⟩,by simp[setBlock]⟩
variable {w : World} {b c r : Nat}
section
variable {F : Fence} {n : Nat} {ops : Array Oper} {Q : Exit -> Act -> World -> Prop} {o : Oper} {rest : List Oper} {a : Act}
theorem O9 (hg:o.guard=none) (m:Operand) (wQ:o.op=Op.range Xm m) (hm:a.eval m= .map (some b)) (h:Hd w b es c)
  (hK:wpListIn F n pg ops Q rest (a.put o.dst (ptr w.heap.size 0)) (w.alloc (.mapIter (some b) c #[] c))):wpListIn F n pg ops Q (o::rest) a w:=by
 refine wpListIn_plain hg λK' hK'=>?_;have nD:=run_range_map (P:=pg) w Xm tT 116 b _ c kQ h.gA;unfold Oper.wpIn;refine⟨by simp[Oper.about,wQ],?_⟩;rw[AM F _ _ (by rw[wQ];intro c CT;cases CT)];simp[execOp,wQ,hm,nD,xz];exact hK' _ _ hK
theorem Qv (hg:o.guard=none) (it:Operand) (wQ:o.op=Op.next it false) (seen:Array Nat) (Oi:a.eval it= .pointer (some ⟨r,0,none⟩)) (hb:Hd w b es c) (Og:r≠b) (hr:w.heap[r]? =some (.mapIter (some b) c seen c))
  (an1:ua es seen=[]->wpListIn F n pg ops Q rest (a.put o.dst (.tuple #[.bool false])) w)
  (an2: ∀x∈ua es seen,∀w',w.grownBy w' (some r)->w'.heap.size=w.heap.size->w'.heap[r]? =some (.mapIter (some b) c (seen.push x.2.2) c)->
   (Instr.entry (.pointer (some ⟨r,0,none⟩))).run pg w'= .ok (.tuple #[x.1.v,x.2.1]) w'->wpListIn F n pg ops Q rest (a.put o.dst (.tuple #[.bool true,x.1.v,x.2.1])) w'):
  wpListIn F n pg ops Q (o::rest) a w:=by
 refine wpListIn_plain hg λK' hK'=>?_;unfold Oper.wpIn;refine⟨by simp[Oper.about,wQ],?_⟩;rw[AM F _ _ (by rw[wQ];intro c CT;cases CT)];have hold: ∀x∈((es.map (lO λk:bH=>k.v)).toArray).toList,x.born<c:=by
  intro x hx;simp only[cL,List.mem_map] at hx;obtain⟨y,hy,rfl⟩:=hx;exact hb.lt y hy
 rcases run_next_at (P:=pg) w o.type r b c c seen _ c hr hb.gA hold (aq _)with⟨hz,nD⟩|⟨e,he,w1,C1,nD⟩
 ·simp[execOp,wQ,Oi,nD,xz];refine hK' _ _ (an1 ?_);have:(ua es seen).map (lO λk:bH=>k.v)=[]:=by rw[<-O8];exact iJ (by simpa using hz)
  simpa using this
 ·rw[O8] at he;obtain⟨x,hx,rfl⟩:=List.mem_map.1 he;simp[execOp,wQ,Oi,nD,xz];have rG:r<w.heap.size:=(Array.getElem?_eq_some_iff.1 hr).1;obtain⟨hw,gd⟩:w.grownBy (setBlock w1 r (.mapIter (some b) c (seen.push x.2.2) c)) (some r)/\(setBlock w1 r (.mapIter (some b) c (seen.push x.2.2) c)).heap.size=w.heap.size:=by
   have h1:=afh w1 r (.mapIter (some b) c (seen.push x.2.2) c);rcases C1 with e|e
   ·rw[e] at h1⊢;exact h1
   ·rw[e] at h1⊢;exact⟨⟨h1.1.os,h1.1.tape,h1.1.output,h1.1.size,h1.1.block⟩,h1.2⟩
  have jZ:(setBlock w1 r (.mapIter (some b) c (seen.push x.2.2) c)).heap[r]? =some (.mapIter (some b) c (seen.push x.2.2) c):=Lk (by rcases C1 with rfl|rfl<;>exact rG);refine hK' _ _ (an2 x hx _ hw gd jZ ?_);have dU:=(hw.block b (Array.getElem?_eq_some_iff.1 hb.gA).1 (λe=>Og (by cases e;rfl))).trans hb.gA;exact run_entry_at (P:=pg) _ r b c seen (es.map (lO λk:bH=>k.v)).toArray c (lO (λk:bH=>k.v) x) jZ dU (by rw[cL];exact List.mem_map.2 ⟨x,(List.mem_filter.1 hx).1,rfl⟩)
   (by rw[cL,bB];exact hb.nd)
theorem Oj {seen:Array Nat} (hb:Hd w b es c) (hr:w.heap[r]? =some (.mapIter (some b) c seen c)):w.rangeLeft b r=(ua es seen).length:=by
 unfold World.rangeLeft;rw[hb.gA,hr];have h1:=congrArg az (O8 es seen)
 grind
theorem aaG {Bm:Nat} (hBm:Bm<w.heap.size) (hm:w.cell? ⟨Bm,0,none⟩=some (.map (some b))) (h:Hd w b es c):
  SeqGives gf 5 pg H9 #[.pointer (some ⟨Bm,0,none⟩)] (λt:bH=>t.v) (λts=>ts.Perm (es.map (·.1))) es.length w:=λl J W hW hJ hY h0=>by
 have hT:Hd W b es c:=⟨(hW.block b (Array.getElem?_eq_some_iff.1 h.gA).1).trans h.gA,h.nd,h.lt⟩;have TQ:=(hW.cell (p:=⟨Bm,0,none⟩) hBm).trans hm;refine callsIn_of_wp (f:=H9) (fn:=Tryz.f86) kQ rfl trivial ?_ rfl;rw[Tryz.ntmps86];change DJ _ _ _ _ _ ⟨#[.func (.yield l) #[] #[],.pointer (some ⟨Bm,0,none⟩),undef,undef,undef,undef,undef,undef,undef,undef,undef,undef,undef,undef],[]⟩ W
 gi_wp2_with (first
  |(gi_at_range;refine O9 rfl _ rfl rfl hT ?_)
  |gi_in)
 have JR:=(Array.getElem?_eq_some_iff.1 hT.gA).1;have E6:W.grownBy (W.alloc (.mapIter (some b) c #[] c)) none:=⟨rfl,rfl,rfl,by simp,λk hk _=>Below.heap_alloc _ _ k hk⟩;have Gu:(W.alloc (.mapIter (some b) c #[] c)).heap[W.heap.size]? =some (.mapIter (some b) c #[] c):=jM _ _
 gi_loopw [3] (λ_ wr=> ∃(seen:Array Nat) (ts:List bH),Hd wr b es c/\wr.heap[W.heap.size]? =some (.mapIter (some b) c seen c)/\(ts++(ua es seen).map (·.1)).Perm (es.map (·.1))/\J ts wr)
  (λ_ wr=>wr.rangeLeft b W.heap.size)
 case atStart=>
  refine⟨#[],[],⟨(E6.block b JR sQ).trans hT.gA,h.nd,h.lt⟩,Gu,?_,hJ [] W _ none h0 E6 (λr e=>by cases e)⟩;have:ua es #[]=es:=List.filter_eq_self.2 sQ;rw[this];rfl
 case round=>
  obtain⟨seen,ts,hb,hr,hp,hJs⟩:=hrel
  gi_wp2_with (first
   |(gi_at_next;refine Qv rfl _ rfl seen rfl hb zQ hr ?_ ?_)
   |gi_in)
  ·intro hl0
   gi_wp2
   go_end0
   exact⟨⟨_,rfl⟩,ts,by rw[hl0] at hp;simpa using hp,hJs⟩
  ·intro x v0 bn hx w2 xA bm jI BX;have hJ2:J ts w2:=hJ ts wr w2 (some W.heap.size) hJs xA (λr e=>by cases e;exact⟨aq _,_,hr,rfl⟩);have tU:Hd w2 b es c:=⟨(xA.block b (Array.getElem?_eq_some_iff.1 hb.gA).1 (λe=>by cases e;omega)).trans hb.gA,hb.nd,hb.lt⟩;have hlen:ts.length<es.length:=by
    have h1:=hp.length_eq;have h2:=List.length_pos_of_mem hx;simp only[List.length_append,ai] at h1;omega
   have hJ3:J ts (w2.alloc (.cells #[ay bP x.dX,ay bP x.ba,ay bP x.sq] 34)):=hJ ts w2 _ none hJ2 ⟨rfl,rfl,rfl,by simp,λk hk _=>Below.heap_alloc _ _ k hk⟩ (λr e=>by cases e);obtain⟨fn,tmps,assign,body,hy,hR⟩:=hY ts x _ hJ3 hlen;change (Instr.yield l #[Value.agg #[ay bP x.dX,ay bP x.ba,ay bP x.sq]]).run pg _=_ at hy;have rV:Hd (w2.alloc (.cells #[ay bP x.dX,ay bP x.ba,ay bP x.sq] 34)) b es c:=⟨(Below.heap_alloc _ _ b (Array.getElem?_eq_some_iff.1 tU.gA).1).trans tU.gA,hb.nd,hb.lt⟩;have D7:(w2.alloc (.cells #[ay bP x.dX,ay bP x.ba,ay bP x.sq] 34)).heap[W.heap.size]? =some (.mapIter (some b) c (seen.push bn) c):=(Below.heap_alloc _ _ _ (Array.getElem?_eq_some_iff.1 jI).1).trans jI;clear bm
   gi_wp2
   refine hR.mono ?_;rintro e W3 ⟨rfl,hJ4,Ol⟩;have yH:Hd W3 b es c:=⟨Ol.same b _ rV.gA rfl,hb.nd,hb.lt⟩;have zk:=Ol.same _ _ D7 rfl
   gi_wp2
   go_roundw
   case rel=>
    refine⟨seen.push bn,ts++[x],yH,zk,?_,hJ4⟩;have hq:=(Qu h.nd hx).map (·.1);refine List.Perm.trans ?_ hp;rw[ak];exact(List.Perm.append_left ts hq)
   case measure=>
    rw[Oj yH zk,Oj hb hr];have:=(Qu h.nd hx).length_eq;simp only[aM] at this;omega
end
abbrev C2:Nat:=59
abbrev T3 (t:bH):List Value:=[ay bP t.dX,ay bP t.ba,ay bP t.sq]
def Ll:Code:=(Code.region 2 #[{ dst:=some 5,op:=Op.alloc tT,type:=0,pos:= "iter.go:51",after:= #[],guard:=none },{ dst:=none,op:=Op.store tT (kT 5) (kT 7),type:=0,pos:= "iter.go:51",after:= #[{ on:=0,ground:=ti },{ on:=0,ground:=rU }],guard:=none }] false)
def Sr:Code:=(Code.block 1 (Code.region 3 #[{ dst:=some 8,op:=Op.load C2 (kT 2),type:=C2,pos:= "iter.go:52",after:= #[],guard:=none },{ dst:=some 9,op:=Op.load tT (kT 5),type:=tT,pos:= "iter.go:52",after:= #[],guard:=none },{ dst:=some 10,op:=Op.buildSlice C2 1 #[(0,kT 9)],type:=C2,pos:= "iter.go:52",after:= #[{ on:=1,ground:=ti }],guard:=none },{ dst:=some 11,op:=Op.call { callee:=Callee.builtin Builtin.append,args:= #[kT 8,kT 10],argTypes:= #[C2,C2] },type:=C2,pos:= "iter.go:52",after:= #[{ on:=0,ground:=ti },{ on:=2,ground:=ti }],guard:=none },{ dst:=none,op:=Op.store C2 (kT 2) (kT 11),type:=0,pos:= "iter.go:52",after:= #[{ on:=3,ground:=ti },{ on:=3,ground:=Ground.chain },{ on:=0,ground:=rU },{ on:=1,ground:=rU },{ on:=2,ground:=rU },{ on:=3,ground:=rU }],guard:=none }] false))
def xB (fn:FuncId) (sv:Value) (Bs D:Nat) (st:LoopState) (hU:Option Code):Loop:=
 { state:=st,pending:=hU,fn,tmps:= #[.slice none 0 0,sv,.pointer (some ⟨Bs,0,none⟩),undef,.slice none 0 0,undef,sv,undef,undef,undef,undef,undef,undef],params:= #[7],assign:=Ll,body:=Sr,defers:=D }
structure ApT (w0:World) (fn:FuncId) (sv:Value) (Bs l D:Nat) (ts:List bH) (W:World):Prop where
 box: ∃v,W.heap[Bs]? =some (.cells #[v] C2 (0,0))/\W.ownsRow w0.heap.size tT 3 v ts.length (ts.map T3).flatten
 L:W.heap[l]? =some (.loop (xB fn sv Bs D .ready none))
 K:W.heap[D]? =some (.deferred (some []))
 below:Below w0.heap.size w0 W
theorem acB (w0:World) (fn:FuncId) (sv:Value) (Bs l D B:Nat) (hB:w0.heap.size<=B):AbidesFrom B (ApT w0 fn sv Bs l D):=λs W W' row h hg bo=>by
 have Em: ∀r,row=some r-> ∃o:Obj,W.heap[r]? =some o/\o.isWalk=true:=λr e=>(bo r e).2;obtain⟨v,hv,hr⟩:=h.box;exact⟨⟨v,(grownBy_keeps hg Em hv rfl).trans hv,ownsRow_abides_a hr hg Em⟩,(grownBy_keeps hg Em h.L rfl).trans h.L,(grownBy_keeps hg Em h.K rfl).trans h.K,
  h.below.grown hg h.below.size (λk e=>ad hB (bo k e).1)⟩
theorem afi (w:World) (xs:List Value) (t:TypeId): ∀(j:Nat) u,xs[j]? =some u->(w.alloc (.cells xs.toArray t)).cell? ((⟨w.heap.size,0,none⟩:Addr).add j)=some u:=by
 intro j u hj;rw[Addr.add_lit];simp only[fq,jM];simpa using hj
theorem ag9 (m:Nat) (w0:World) (fn:FuncId) (sv:Value) (Bs l D:Nat) (hBl:Bs≠l) (hDl:D≠l) (hDB:D≠Bs) (h0B:w0.heap.size<=Bs) (h0l:w0.heap.size<=l)
    (N:Nat) (hN:N<=2^40) (ts:List bH) (x:bH) (W:World) (h:ApT w0 fn sv Bs l D ts W) (hlen:ts.length<N):
    YieldAt gf m pg l #[x.v] W λe W'=>e= .returned (.bool true)/\ApT w0 fn sv Bs l D (ts++[x]) W'/\KeepsWalks W W':=by
  have cj:C2≠tT:=by decide
  obtain⟨i0,hi,Lf,Xn,JS⟩:=info_parts (P:=pg) (e:=tT) (z:=(⟨0,0,0⟩:bH).v) (size:=3) (bytes:=24) kQ;obtain⟨v,hv,bo⟩:=h.box;refine⟨fn,#[.slice none 0 0,sv,.pointer (some ⟨Bs,0,none⟩),undef,.slice none 0 0,undef,sv,x.v,undef,undef,undef,undef,undef],Ll,Sr,by simpa [xB] using run_yield (P:=pg) (args:= #[x.v]) h.L rfl,roundIn_of_wpIn trivial ?_⟩;have hlW:l<W.heap.size:=(Array.getElem?_eq_some_iff.1 h.L).1;have hBW:Bs<W.heap.size:=(Array.getElem?_eq_some_iff.1 hv).1;have hDW:D<W.heap.size:=(Array.getElem?_eq_some_iff.1 h.K).1;obtain⟨WA,hWA⟩: ∃WA,W.alloc (.cells #[ay bP x.dX,ay bP x.ba,ay bP x.sq] tT)=WA:=⟨_,rfl⟩;have acC: ∀k,k<W.heap.size->WA.heap[k]? =W.heap[k]? :=λk hk=>by rw[<-hWA];exact Below.heap_alloc _ _ k hk
  have hvA:=(acC Bs hBW).trans hv;have hLA:=(acC l hlW).trans h.L;have hKA:=(acC D hDW).trans h.K;have hxA:WA.heap[W.heap.size]? =some (.cells #[ay bP x.dX,ay bP x.ba,ay bP x.sq] tT (0,0)):=by rw[<-hWA];exact jM _ _
  have hkA:KeepsWalks W WA:=by rw[<-hWA];exact AN _ _
  have TR:Below w0.heap.size w0 WA:=by rw[<-hWA];exact h.below.alloc h.below.size _
  have ajc:WA.ownsRow w0.heap.size tT 3 v ts.length (ts.map T3).flatten:=by rw[<-hWA];exact bo.alloc _
  have arL:WA.heap.size=W.heap.size+1:=by rw[<-hWA];simp
  have hbr:=run_beginRound (P:=pg) hLA rfl;obtain⟨W2,TS⟩: ∃W2,WA.putObj l (.loop { xB fn sv Bs D .ready none with state:=.busy })=W2:=⟨_,rfl⟩;rw[TS] at hbr;have xA:WA.grownBy W2 (some l):=by rw[<-TS];exact grownBy_putObj_a _ _ _
  have JU:KeepsWalks W W2:=hkA.trans (by rw[<-TS];exact Al _ hLA rfl);have rT:W2.heap[Bs]? =some (.cells #[v] C2 (0,0)):=by rw[<-TS];exact(fy hBl).trans hvA
  have hK2:W2.heap[D]? =some (.deferred (some [])):=by rw[<-TS];exact(fy hDl).trans hKA
  have hL2:W2.heap[l]? =some (.loop { xB fn sv Bs D .ready none with state:=.busy }):=by rw[<-TS];exact km zQ
  have Xo:W2.heap[W.heap.size]? =some (.cells #[ay bP x.dX,ay bP x.ba,ay bP x.sq] tT (0,0)):=by rw[<-TS];exact(fy zQ).trans hxA
  have En:W2.ownsRow w0.heap.size tT 3 v ts.length (ts.map T3).flatten:=ajc.kept xA (ownsRow_ne_a ajc hLA (λcur e=>by first|cases e|exact cj (kE e).2.1));have tU:Below w0.heap.size w0 W2:=TR.grown xA TR.size (λk e=>by cases e;exact h0l);have arM:W2.cell? ⟨W.heap.size,0,none⟩=some (ay bP x.dX):=by simp[fq,Xo]
  have arN:W2.cell? ⟨W.heap.size,1,none⟩=some (ay bP x.ba):=by simp[fq,Xo]
  have arO:W2.cell? ⟨W.heap.size,2,none⟩=some (ay bP x.sq):=by simp[fq,Xo]
  obtain⟨nW,Qw⟩:=cell_of_box_a rT;have apv:Bs<W2.heap.size:=(Array.getElem?_eq_some_iff.1 rT).1;have wS:l<W2.heap.size:=(Array.getElem?_eq_some_iff.1 hL2).1;have apw:D<W2.heap.size:=(Array.getElem?_eq_some_iff.1 hK2).1;have acD: ∀{j:Nat} {o:Obj},W2.heap[j]? =some o->(∀cur,o≠ .cells cur tT (0,0))->some j≠v.ownBlock:=λhj kO=>by
    rcases ownsRow_ne_a En hj kO with e|e
    · rw[e];simp
    · exact λe'=>e e'.symm
  clear TS;unfold Ll
  gi_wp2_with gi_round_op_a
  unfold Sr;have HO:(2:Nat)^40<=maxLen:=by decide
  gi_wp2_with (first
    | (gi_at_builtin; refine wpListIn_append_own _ rfl _ _ C2 rfl w0.heap.size tT i0 (⟨0, 0, 0⟩ : bH).v 3 24 kQ hi Lf Xn JS rfl dQ _ _ _ rfl (En.alloc _) ⟨W2.heap.size, 0, none⟩ 1 1 (T3 x) rfl rfl (afi _ _ _) (by simp[Value.oneCell', T3]) zQ zQ (by have := tU.size; simp; omega) ?_; intro v' w3 acE Xp arA
       have Ia:w3.heap[Bs]? =some (.cells #[v] C2 (0,0)):=(Xp.block Bs oQ (acD rT (λcur e=>by first|cases e|exact cj (kE e).2.1))).trans ((Below.heap_alloc _ _ Bs apv).trans rT);obtain⟨uQ,hf3⟩:=cell_of_box_a Ia;obtain⟨g',Pa,acF,rfl,arx,arP,pz,jI,D7,zk⟩: ∃g' Pa acF,v'= .slice (some ⟨g',0,none⟩) (ts.length+1) Pa/\w0.heap.size<=g'/\w3.heap[g']? =some (.cells acF tT (0,0))/\ts.length+1<=Pa/\Pa<=maxLen/\acF.size=Pa*3/\acF.toList.take ((ts.length+1)*3)=(ts.map T3).flatten++T3 x:=by
         rcases acE.2 with⟨_,h0⟩|h'
         · exact absurd h0 zQ
         · exact h'
       go_frame)
    |gi_round_op_a)
  have acG:(W2.alloc (.cells #[ay bP x.dX,ay bP x.ba,ay bP x.sq] tT)).grownBy w3 v.ownBlock:=Xp;have hL3:w3.heap[l]? =some (.loop { xB fn sv Bs D .ready none with state:=.busy }):=(acG.block l oQ (acD hL2 (λcur e=>by first|cases e|exact cj (kE e).2.1))).trans ((Below.heap_alloc _ _ l wS).trans hL2);have hK3:w3.heap[D]? =some (.deferred (some [])):=(acG.block D oQ (acD hK2 (λcur e=>by first|cases e|exact cj (kE e).2.1))).trans ((Below.heap_alloc _ _ D apw).trans hK2);obtain⟨w4,Gv⟩: ∃w4,w3.setCell ⟨Bs,0,none⟩ (.slice (some ⟨g',0,none⟩) (ts.length+1) Pa)=w4:=⟨_,rfl⟩;rw[Gv];have hg4:w3.grownBy w4 (some Bs):=by rw[<-Gv];exact grownBy_setCell0_a _ _ _
  have hv4:w4.heap[Bs]? =some (.cells #[.slice (some ⟨g',0,none⟩) (ts.length+1) Pa] C2 (0,0)):=by rw[<-Gv];exact heap_setCell_box_a _ Ia
  have Xq:w4.heap[l]? =some (.loop { xB fn sv Bs D .ready none with state:=.busy }):=(hg4.block l (Array.getElem?_eq_some_iff.1 hL3).1 (λe=>hBl (by cases e;rfl))).trans hL3;have hK4:w4.heap[D]? =some (.deferred (some [])):=(hg4.block D (Array.getElem?_eq_some_iff.1 hK3).1 (λe=>hDB (by cases e;rfl))).trans hK3;have CG:=acE.kept hg4 (ownsRow_ne_a acE Ia (λcur e=>by first|cases e|exact cj (kE e).2.1));have Qx:l<w4.heap.size:=(Array.getElem?_eq_some_iff.1 Xq).1;have rV:Below w0.heap.size w0 w3:=(tU.alloc tU.size _).grown acG (by have:=tU.size;simp;omega) (λk e=>(En.lt k e).1);have yH:Below w0.heap.size w0 w4:=rV.grown hg4 rV.size (λk e=>by cases e;exact h0B);have Ol:KeepsWalks W w4:=((JU.trans (AN _ _)).trans (KeepsWalks.of_grownBy acG (ownsRow_not_walk_a (En.alloc _)))).trans (by rw[<-Gv];exact KeepsWalks.setCell _ _ _);clear Gv;refine⟨_,_,run_endRound none Xq,rfl,⟨⟨_,(fy hBl).trans hv4,?_⟩,km Qx,(fy hDl).trans hK4,yH.grown (grownBy_putObj_a _ _ _) yH.size (λk e=>by cases e;exact h0l)⟩,Ol.trans (Al _ Xq rfl)⟩;have:=CG.kept (grownBy_putObj_a w4 l (.loop { { xB fn sv Bs D .ready none with state:=.busy } with state:=if(none:Option Code).isNone then .ready else .done,pending:=none })) (ownsRow_ne_a CG Xq (λcur e=>by first|cases e|exact cj (kE e).2.1));simpa using this
abbrev Qy:Nat:=141
abbrev acH:Nat:=84
theorem acI (n:Nat) (hn:2<=n) (g:Nat) (lb:Array Value) (eg: ∀args w,(callFunc g args).run pg w= .ok (.enter g args) w)
    (S:List bH->Prop) (N:Nat) (hN:N<=2^40) (w:World) (aha:SeqGives gf (n-1) pg g lb (λt:bH=>t.v) S N w):
    CallsIn gf n pg Qy #[.slice none 0 0,.func (.func g) #[] lb] w λe w'=> ∃(v:Value) (ts:List bH),e= .returned v/\S ts/\w'.ownsRow w.heap.size tT 3 v ts.length (ts.map T3).flatten/\Below w.heap.size w w':=by
  have h1:1<=n:=by omega
  refine callsIn_of_wp_marks (f:=Qy) (fn:=Tryz.f141) kQ rfl trivial ?_ rfl;rw[Tryz.ntmps141];change DJ _ _ _ _ _ ⟨#[.slice none 0 0,.func (.func g) #[] lb,undef,undef,undef,undef,undef,undef,undef,undef,undef,undef,undef],[]⟩ w
  gi_wp2
  refine wpIn_rangeFunc ?_;intro fn hfn;obtain⟨W0,hW0⟩: ∃W0,w.alloc (.cells #[.slice none 0 0] C2)=W0:=⟨_,rfl⟩;have gg:W0.heap.size=w.heap.size+1:=by rw[<-hW0];simp
  have hv0:W0.heap[w.heap.size]? =some (.cells #[.slice none 0 0] C2 (0,0)):=by rw[<-hW0];exact jM w _
  have vT:Below w.heap.size w W0:=by rw[<-hW0];exact(Below.refl _ w).alloc (aq _) _
  rw[hW0];obtain⟨W1,hW1⟩: ∃W1,(W0.alloc (.deferred (some []))).alloc (.loop (xB fn (.func (.func g) #[] lb) w.heap.size W0.heap.size .ready none))=W1:=⟨_,rfl⟩;have hold: ∀k,k<W0.heap.size->W1.heap[k]? =W0.heap[k]? :=λk hk=>by
    rw[<-hW1];exact(Below.heap_alloc _ _ k oQ).trans (Below.heap_alloc _ _ k hk)
  have lD:Below w.heap.size w W1:=by rw[<-hW1];exact(vT.alloc vT.size _).alloc (by have:=vT.size;simp;omega) _
  have hM:ApT w fn (.func (.func g) #[] lb) w.heap.size (W0.heap.size+1) W0.heap.size [] W1:=
    ⟨⟨_,(hold w.heap.size zQ).trans hv0,⟨rfl,.inl ⟨rfl,rfl⟩⟩⟩,
     by rw[<-hW1];have:=jM (W0.alloc (.deferred (some []))) (.loop (xB fn (.func (.func g) #[] lb) w.heap.size W0.heap.size .ready none));rwa [World.size_alloc] at this,
     by rw[<-hW1];exact(Below.heap_alloc _ _ _ sQ).trans (jM W0 _),lD⟩
  refine⟨W0.heap.size+1,[{ target:=.collected W0.heap.size,args:= #[] }],W1,{ target:=.fn (.func g) lb,args:= #[.func (.yield (W0.heap.size+1)) #[] #[]] },W1,g,
    #[.func (.yield (W0.heap.size+1)) #[] #[]]++lb,W1,?_,?_,?_,?_,λ_=>h1,?_⟩
  · rw[<-hW1];exact run_enterLoop_outer _ _ _ _ _
  · simp[resolve,go_sem]
  · intro f' hf';simp[Target.leads] at hf';subst hf';trivial
  · simp[invoke,go_sem,eg]
  · refine(aha (W0.heap.size+1) (ApT w fn (.func (.func g) #[] lb) w.heap.size (W0.heap.size+1) W0.heap.size) W1 lD (acB _ _ _ _ _ _ _ lD.size)
      (λpre x W hJ hl=>ag9 (n-1-1) w fn _ w.heap.size (W0.heap.size+1) W0.heap.size zQ zQ zQ (aq _) zQ N hN pre x W hJ hl) hM).mono ?_
    rintro e W2 ⟨⟨v0,rfl⟩,ts,hS,h2⟩;obtain⟨v,hv,bo⟩:=h2.box;have rW:=run_endLoop (P:=pg) h2.L (by simp[xB]);obtain⟨W3,Qz⟩: ∃W3,W2.putObj (W0.heap.size+1) (.loop { xB fn (.func (.func g) #[] lb) w.heap.size W0.heap.size .ready none with state:=.exhausted })=W3:=⟨_,rfl⟩;rw[Qz] at rW;have Xp:W2.grownBy W3 (some (W0.heap.size+1)):=by rw[<-Qz];exact grownBy_putObj_a _ _ _
    have Ia:W3.heap[w.heap.size]? =some (.cells #[v] C2 (0,0)):=by rw[<-Qz];exact(fy zQ).trans hv
    have hK3:W3.heap[W0.heap.size]? =some (.deferred (some [])):=by rw[<-Qz];exact(fy zQ).trans h2.K
    have Nd:=bo.kept Xp (ownsRow_ne_a bo h2.L (λcur e=>by first|cases e|exact cj (kE e).2.1));have rV:Below w.heap.size w W3:=h2.below.grown Xp h2.below.size (λk e=>by cases e;omega);obtain⟨uQ,hf3⟩:=cell_of_box_a Ia;clear Qz;refine⟨none,W3,rW,?_⟩
    gi_wp2
    rw[<-gg];refine⟨by simp,.inl ⟨_,_,rfl,run_takeDeferred hK3,?_⟩⟩;exact⟨_,results_tmp rfl _ _ _,v,ts,rfl,hS,Nd.kept (grownBy_putObj_a _ _ _) (ownsRow_ne_a Nd hK3 (λcur e=>by first|cases e|exact cj (kE e).2.1)),rV.grown (grownBy_putObj_a _ _ _) rV.size (λk e=>by cases e;omega)⟩
theorem ahb (n:Nat) (hn:3<=n) (g:Nat) (lb:Array Value) (eg: ∀args w,(callFunc g args).run pg w= .ok (.enter g args) w)
  (S:List bH->Prop) (N:Nat) (hN:N<=2^40) (w:World) (aha:SeqGives gf (n-1-1) pg g lb (λt:bH=>t.v) S N w):
  CallsIn gf n pg acH #[.func (.func g) #[] lb] w λe w'=> ∃(v:Value) (ts:List bH),e= .returned v/\S ts/\w'.ownsRow w.heap.size tT 3 v ts.length (ts.map T3).flatten/\Below w.heap.size w w':=by
 have h1:1<=n:=by omega
 have e11: ∀args w,(callFunc Qy args).run pg w= .ok (.enter Qy args) w:=enters_of (fn:=Tryz.f141) kQ kQ rfl;refine callsIn_of_wp (f:=acH) (fn:=Tryz.f84) kQ rfl trivial ?_ rfl;rw[Tryz.ntmps84];change DJ _ _ _ _ _ ⟨#[.func (.func g) #[] lb,undef,undef,undef,undef],[]⟩ w
 gi_wp2_with (refine⟨trivial,?_⟩;gi_at_fn Qy;refine(acI (n-1) zQ g lb eg S N hN _ aha).mono ?_;rintro e w' ⟨v,ts,rfl,hS,bo,hb⟩)
 go_ret
 exact⟨v,ts,rfl,hS,bo,hb⟩
open Go.Proofs
attribute [local irreducible] un jn jq ji ld1 je st1 oS mO pj me pH HR D4 gT pI aZ nO nQ eW eV eU eC eF gE mE fin iM bq de vS KZ HS HT HU HV HW K0 K3 K4 K5 EW EX HX HY HZ K6 K7 K8
variable {X Y : XS}
section
variable {xb : Nat} {x : AcV} {vw : Value}
theorem AP {sn:List fe} (h:aK w Y xb (JQ x vw) aT) (hY: ∀k,Y k->X k) (hv:Sl w X 7 x.vs (sn.map fe.l)) (hl:sn.length<=2^40):
  Ct pg 105 #[ptr xb 0] w X nX λv wa w'=> ∃ys:List fe,ys.Perm sn/\Own w' (made wa w') wa.heap.size 175 7 v (ys.map fe.l):=by
 intro w0 hk;have bo:=(h.mono hY).mv hk.cu;have hF:FX nX (bV w0) w0:=λk af=>af.elim;have hT:=hF.ft (Kp.refl _ _);have hs:=aj.init w0;refine He.1 λ_=>?_;repeat' refine ao ?_;intros
 refine cA (Lm (hv.mv hk.cu) hl) kQ hs.has ?_;rintro v D8 w1 X1 q1 qz nY aC;have u1:Own w1 X1 w0.heap.size _ _ v _:=q1.up nY qz;have ej:Ft w0 nX w1 X1 (ga v):=(hT.since aC).more λk af=>.inr ⟨u1.2.2 k af,(u1.ge af).1⟩;refine ej.call (aaF u1 zQ) kQ (λ_ h=>h) λr yE w2 X2 hq mq kW da c2=>?_;obtain⟨rfl,ys,hp,ho⟩:=hq;clear hs;have hs:=aj.fT da.s.has
 skip
 exact da.fin λwa aL=>⟨ys,hp,((zl ho (Y:=X2) λg hg=>da.br g (.inl hg)).kp aL).tight⟩
end
variable {mb : Nat}
theorem ahc:Ct pg 40 #[.map (some mb)] w X nX λv wa w'=> ∃bx,v= .func (.func H9) #[] #[ptr bx 0]/\aK w' (made wa w') bx [.map (some mb)] Xm:=by
 intro w0 hk;have hs:=aj.init w0;refine oJ.1 λ_=>?_;refine uu rfl hs.has λbx w1 X1 gq aC bo=>?_;repeat' refine ao ?_;intros
 exact cG aC λwa aL=>⟨bx,rfl,⟨gq,(bo.kp aL).lt⟩,(bo.kp aL).2⟩
variable {bx : Nat}
theorem aaH {l:List (bH×Nat)} (h:dK w X nX mb (λk:bH=>k.v) wT l) (hb:aK w X bx [.map (some mb)] Xm) (hl:l.length<=2^40):
  Ct pg acH #[.func (.func H9) #[] #[ptr bx 0]] w X nX λv wa w'=> ∃ts:List bH,ts.Perm (l.map (·.1))/\Own w' (made wa w') wa.heap.size tT 3 v (ts.map bH.l):=by
 intro wa hk;obtain⟨es,c,h1,h2⟩:=h;have CH:=h2.keys;have hlen:es.length=l.length:=by have:=congrArg az CH;simpa using this
 have KJ:=h1.kp hk;have hT:Hd wa mb es c:=by
  exact⟨KJ.2.1,KJ.2.2.2.1,KJ.2.2.2.2⟩
 have hS:=callsIn_wide.1 (ahb 7 zQ H9 #[ptr bx 0] (λargs w=>nZ kQ args w) _ es.length zQ wa (aaG (hb.kp hk).lt (by have:=(hb.kp hk).2;simp[fq,this]) hT));refine hS.mono ?_;rintro e w' ⟨v,ts,rfl,hp,bo,dU⟩;have hx:Ext wa w':=⟨dU.os,dU.tape,dU.output,dU.size,λk af _=>dU.block k af⟩;refine⟨v,rfl,hx,ts,by rw[<-CH];exact hp,?_⟩;refine⟨λr hr=>by obtain⟨x,_,rfl⟩:=List.mem_map.1 hr;rfl,?_,λq hq=>⟨?_,?_⟩⟩
 ·rw[ai];exact bo
 ·exact(bo.lt _ hq).1
 ·exact(bo.lt _ hq).2
theorem Ss {l:List (bH×Nat)} (h:dK w X nX mb (λk:bH=>k.v) wT l) (hb:aK w X bx [.map (some mb)] Xm) (hl:l.length<=2^40):
  Ct pg 39 #[.func (.func H9) #[] #[ptr bx 0],.func (.func 41) #[] #[]] w X nX λv wa w'=> ∃ts:List bH,ts.Perm (l.map (·.1))/\ts.Pairwise (λa b=>b.less a=false)/\Own w' (made wa w') wa.heap.size tT 3 v (ts.map bH.l):=by
 intro w0 hk;replace h:=h.mv E7 hk.cu (A':=nX) (λ_ h _=>h.elim);replace hb:=hb.mv hk.cu;have hF:FX nX (bV w0) w0:=λk af=>af.elim;have hT:=hF.ft (Kp.refl _ _);have hs:=aj.init w0;refine Cj.1 λ_=>?_;refine cA (aaH h hb hl) kQ hs.has ?_;rintro v D8 w1 X1 ⟨ts,hp,ho⟩ qz nY aC;have u1:Own w1 X1 w0.heap.size _ _ v _:=ho.up nY qz;have ej:Ft w0 nX w1 X1 (ga v):=(hT.since aC).more λk af=>.inr ⟨u1.2.2 k af,(u1.ge af).1⟩;have cC:ts.length=l.length:=by rw[hp.length_eq,ai]
 refine ej.call (aaD u1 zQ) kQ (λ_ h=>h) λr yE w2 X2 hq mq kW da c2=>?_;obtain⟨rfl,ys,hp2,hpw,lv⟩:=hq;clear hs;have hs:=aj.fT da.s.has
 skip
 exact da.fin λwa aL=>⟨ys,hp2.trans hp,hpw,((zl lv (Y:=X2) λg hg=>da.br g (.inl hg)).kp aL).tight⟩
theorem Gw {nb:Nat} {c:CoV} {D5 vm va:Value} {al:List (bH×Nat)} (h:aK w Y nb (Hf c D5 vm va) nT) (hY: ∀k,Y k->X k) (TT:dK w X nX c.ab (λk:bH=>k.v) wT al) (hl:al.length<=2^40):
  Ct pg 15 #[ptr nb 0] w X nX λv wa w'=> ∃ts:List bH,ts.Perm (al.map (·.1))/\ts.Pairwise (λa b=>b.less a=false)/\Own w' (made wa w') wa.heap.size tT 3 v (ts.map bH.l):=by
 intro w0 hk;replace h:=(h.mv (Mv.sub hY)).mv hk.cu;replace TT:=TT.mv E7 hk.cu (A':=nX) (λ_ h _=>h.elim);have hs:=aj.init w0;refine IT.1 λ_=>?_;repeat' refine ao ?_;intros
 refine cA ahc kQ hs.has ?_;rintro _ wa w2 X2 ⟨bx,rfl,hb⟩ hle gy bm;refine cA (Ss (TT.mv E7 bm.mv (A':=nX) (λ_ h _=>h.elim)) (hb.mono gy) hl) kQ bm.has ?_;rintro v w3 w4 X4 ⟨ts,hp,hpw,ho⟩ tL pa fR;exact cG (bm.trans fR) λwa aL=>⟨ts,hp,hpw,((ho.up pa (by have:=bm.kp.size;omega)).kp aL).tight⟩
structure arB (l:List eI):Prop where
 may: ∀r∈l,r.may=true
 ids:l.Pairwise λx y=>x.id≠y.id
 arQ: ∀{r q:eI} {x:Nat},r∈l->q∈l->eI.Su r x=true->eI.Su q x=true->r=q
abbrev E8:=List (Int×List BA)
variable {k : BA}
theorem ajU {l:List BA} :l.any (λx=>decide (k=x))=true↔k∈l:=by grind
def IU (g:Int) (k:BA) (m:E8):E8:=if((getM g m).getD []).any (λx=>decide (k=x))then m else cI g (((getM g m).getD [])++[k]) m
variable {ds : tM}
theorem TU {m:E8} {r:List BA} (h:(jc ds m (k::r)).2=0): ∃g,oc ds k=some g/\jc ds m (k::r)=jc ds (IU g.id k m) r:=by
 rw[jc] at h;by_cases hg:iL k=true
 ·rw[if_pos hg] at h;cases hr:oc ds k with
  |none=>grind
  |some g=>
   refine⟨g,rfl,?_⟩;rw[jc,if_pos hg,hr];rfl
 grind
variable {g : Int}
theorem Xr {m:E8} (id:Int) (y:BA):y∈(getM id (IU g k m)).getD []↔(y∈(getM id m).getD []\/(y=k/\g=id)):=by
 unfold IU;split
 ·grind
 ·by_cases e:id=g
  ·subst e;rw[kD];simp
  grind [od]
theorem acJ {m:E8} (h:(m.map (·.1)).Nodup):((IU g k m).map (·.1)).Nodup:=by
 unfold IU;split
 ·exact h
 ·exact QA h
theorem afj {m:E8} (hn:(m.map (·.1)).Nodup) (h: ∀e∈m,e.2≠[]): ∀e∈IU g k m,e.2≠[]:=by
 unfold IU;split
 ·exact h
 ·intro e he;rcases mU hn he with rfl|⟨h1,_⟩
  ·simp
  grind
theorem ahd {m:E8} (h:k ∉ (getM g m).getD []):uv az (IU g k m)=uv az m+1:=by
 unfold IU;rw[if_neg (λe=>h (ajU.1 e))];cases hg:getM g m with
 |none=>rw[Xs hg];simp
 |some l=>
  have:=Xt (f:=az) (a:=l++[k]) hg
  grind
structure apx (ds:tM) (m m':E8) (keys:List BA):Prop where
 rt: ∀k∈keys,∃r,oc ds k=some r
 mem: ∀id k,(k∈(getM id m').getD []↔(k∈(getM id m).getD []\/(k∈keys/\ ∃r,oc ds k=some r/\r.id=id)))
 nd:(m'.map (·.1)).Nodup
 full: ∀e∈m',e.2≠[]
theorem Sv: ∀{keys:List BA} {m:E8},(m.map (·.1)).Nodup->(∀e∈m,e.2≠[])->(jc ds m keys).2=0->apx ds m (jc ds m keys).1 keys
 |[],m,hn,hf,_=>⟨λk hk=>(by cases hk),λid k=>by simp[jc],hn,hf⟩
 |k::r,m,hn,hf,h=>by
  obtain⟨g,h1,h2⟩:=TU h;rw[h2] at h⊢;have ih:=Sv (acJ (g:=g.id) (k:=k) hn) (afj hn hf) h;refine⟨λy hy=>?_,λid y=>?_,ih.nd,ih.full⟩
  ·rcases List.mem_cons.1 hy with rfl|hy
   ·grind
   ·exact ih.rt y hy
  ·rw[ih.mem id y,Xr];constructor
   ·rintro((h3|⟨rfl,h4⟩)|⟨h3,h4⟩)
    ·grind
    ·grind
    simp_all
   ·rintro(h3|⟨h3,q,h4,h5⟩)
    ·grind
    ·rcases List.mem_cons.1 h3 with rfl|h3
     ·grind
     grind
theorem Xu: ∀{keys:List BA} {m:E8},keys.Nodup->(∀id,∀k∈keys,k ∉ (getM id m).getD [])->(jc ds m keys).2=0->uv az (jc ds m keys).1=uv az m+keys.length
 |[],m,_,_,_=>by rfl
 |k::r,m,hn,hm,h=>by
  obtain⟨g,h1,h2⟩:=TU h;rw[h2] at h⊢;rw[Xu (List.nodup_cons.1 hn).2 (λid y hy mu=>?_) h,ahd (hm _ k sQ),aM]
  ·omega
  ·rcases(Xr id y).1 mu with h3|⟨rfl,_⟩
   ·grind
   grind
structure alg (ds:tM) (keys:List BA) (gs:List oW):Prop where
 rt: ∀k∈keys,∃g∈gs,k∈g.keys/\oc ds k=some g.pt
 own: ∀g∈gs,∀k∈g.keys,k∈keys/\oc ds k=some g.pt
 full: ∀g∈gs,g.keys≠[]
 nd:gs.Pairwise λa b=>a.pt.id≠b.pt.id
theorem TV {keys:List BA} (hW: ∀(i:Int) (r:eI),getM i ds=some r->r.id=i) (h:(jc ds [] keys).2=0):alg ds keys (mV ds (jc ds [] keys).1):=by
 have hg:=Sv (m:=[]) th (λe he=>by cases he) h;generalize (jc ds [] keys).1=m at hg;have AQ: ∀{k:BA} {r:eI},oc ds k=some r->getM r.id ds=some r:=λhr=>by grind [Om]
 have hk: ∀id k,k∈(getM id m).getD []->k∈keys/\ ∃r,oc ds k=some r/\r.id=id/\(getM id ds).getD .zero=r:=λid k af=>by
  rcases(hg.mem id k).1 af with h1|⟨h1,r,h2,h3⟩
  ·simp[getM] at h1
  grind
 have mu: ∀id,id∈qk (m.map (·.1))↔ ∃l,(id,l)∈m:=λid=>by
  rw[(pB _).mem_iff,List.mem_map];exact⟨λ⟨e,h1,h2⟩=>⟨e.2,by grind⟩,λ⟨l,h1⟩=>⟨_,h1,rfl⟩⟩
 refine⟨λk af=>?_,λg rQ k af=>?_,λg rQ=>?_,?_⟩
 ·obtain⟨r,hr⟩:=hg.rt k af;have h1:=(hg.mem r.id k).2 (.inr ⟨af,r,hr,rfl⟩);refine⟨⟨(getM r.id ds).getD .zero,(getM r.id m).getD []⟩,List.mem_map.2 ⟨r.id,(mu _).2 ?_,rfl⟩,h1,?_⟩
  ·cases hm:getM r.id m with
   |none=>rw[hm] at h1;simp at h1
   |some l=>exact⟨l,gK hm⟩
  ·rw[hr,AQ hr];rfl
 ·obtain⟨id,h1,rfl⟩:=List.mem_map.1 rQ;obtain⟨h2,r,h3,_,h5⟩:=hk id k af;exact⟨h2,by rw[h3];exact congrArg some h5.symm⟩
 ·obtain⟨id,h1,rfl⟩:=List.mem_map.1 rQ;obtain⟨l,h2⟩:=(mu id).1 h1
  show(getM id m).getD []≠[]
  rw[pC hg.nd h2];exact hg.full _ h2
 ·refine List.pairwise_map.2 (List.Pairwise.imp_of_mem (R:=λa b=>a≠b) (λ{a b} ha hb wX=>?_) ((pB _).nodup_iff.2 hg.nd));have key: ∀id,id∈qk (m.map (·.1))->((getM id ds).getD .zero).id=id:=λid hi=>by
   obtain⟨l,h2⟩:=(mu id).1 hi;cases l with
   |nil=>exact absurd rfl (hg.full _ h2)
   |cons k l=>
    obtain⟨_,r,_,h4,h5⟩:=hk id k (by rw[pC hg.nd h2];simp);rw[h5,h4]
  show((getM a ds).getD .zero).id≠((getM b ds).getD .zero).id
  rw[key a ha,key b hb];omega
theorem ahe {m:E8} (hn:(m.map (·.1)).Nodup):((qk (m.map (·.1))).map λid=>((getM id m).getD []).length).sum=uv az m:=by
 rw[((pB (m.map (·.1))).map _).sum_nat,bB];have:(m.map ((λid=>((getM id m).getD []).length)∘λx=>x.1))=m.map λe=>e.2.length:=List.map_congr_left λe he=>by
  show((getM e.1 m).getD []).length=e.2.length
  rw[pC hn (show(e.1,e.2)∈m from he)];rfl
 rw[this];rfl
theorem acK {keys:List BA} (hn:keys.Nodup) (h:(jc ds [] keys).2=0):((mV ds (jc ds [] keys).1).map λg=>g.keys.length).sum=keys.length:=by
 have hg:=Sv (m:=[]) th (λe he=>by cases he) h;have hs:=Xu (m:=[]) hn (λid k _=>by simp[getM]) h;unfold mV;rw[bB]
 show((qk _).map λid=>((getM id (jc ds [] keys).1).getD []).length).sum=_
 rw[ahe hg.nd,hs];simp[uv]
theorem QB (q:List (List UInt8)):q.map encStr=((q.map λx=>(⟨x.toArray⟩:ByteArray)).map S1).flatten:=by
 induction q with
 |nil=>rfl
 |cons a q ih=>grind
theorem ajV (ks:List ByteArray):(ks.map S1).flatten=(ks.map bl).map encStr:=by
 rw[QB]
 congr 2
 rw[bB];conv=>lhs;rw[<-List.map_id ks]
 rfl
theorem acM {lo:Nat} {v:Value} {ks:List ByteArray} (h:Own w X lo 9 1 v (ks.map S1)) (arR:ks.length<=2^40):
  Ct pg 114 #[v] w X (ga v) λ_ wa w'=>Own w' (ga v) lo 9 1 v ((fL ks).map S1):=by
 intro wa hk;replace h:=h.kp hk;obtain⟨h1,h2,h3⟩:=h;have hlen:(fL ks).length=ks.length:=(kP _).length_eq;rcases h2.2 with⟨rfl,hz⟩|⟨g,cap,cur,rfl,acN,hg,r1,r2,r3,r4⟩
 ·refine(AnyM.slices_Sort_string_none Tryz.V3 none 0 wa).mono ?_;rintro e w' ⟨rfl,rfl⟩;have AR:ks=[]:=iJ gQ;subst AR;have e0:(fL []).map S1=[]:=by simp[fL]
  refine⟨_,rfl,Fr.refl _ _,?_⟩
  show Own w' _ lo _ 1 _ ((fL []).map S1)
  grind [Own.nil]
 ·have hl:(ks.map bl).length=(ks.map S1).length:=by simp
  have hH:Holds encStr wa g 0 (ks.map bl).toArray:=holds_of_block hg (by rw[hl,<-ajV,<-r4];simp);have gW:g<wa.heap.size:=(Array.getElem?_eq_some_iff.1 hg).1;have cS:=AnyM.slices_Sort_string Tryz.V3 g 0 cap (ks.map bl) wa hH gW gQ;rw[hl] at cS;refine cS.mono ?_;rintro e w' ⟨rfl,n,os,rfl⟩;have E6:=grownBy_sorted (w:=wa) (g:=g) (n:=n) (os:=os) ((ks.map bl).mergeSort λx y=>decide (x<=y)).toArray;have xC:=ownsRow_sorted (w:=wa) (base:=lo) (g:=g) (cap:=cap) (n:=n) (e:=9) (os:=os) (cur:=cur) (ss:=ks.map bl) (ts:=(ks.map bl).mergeSort λx y=>decide (x<=y)) sQ acN hg zQ r2 zQ;have e1:((ks.map bl).mergeSort λx y=>decide (x<=y)).map encStr=((fL ks).map S1).flatten:=QB _;refine⟨_,rfl,⟨E6.os,E6.tape,E6.output,E6.size,λk af hn=>E6.block k af λe=>hn (by cases e;rfl)⟩,λr hr=>by obtain⟨x,_,rfl⟩:=List.mem_map.1 hr;rfl,?_,λq hq=>hq⟩;rw[e1,hl] at xC;have e2:((fL ks).map S1).length=(ks.map S1).length:=by rw[ai,ai,hlen]
  grind
variable {p : List jr}
theorem Am (h:nF p=0):p.length<=40/\yU p 0=0:=by
 unfold nF at h;split at h
 ·exact absurd h dQ
 ·split at h
  ·rename_i h1 h2;exact absurd h h2
  ·rename_i h1 h2;exact⟨by omega,by rcases Classical.em (yU p 0=0)with e|e;exact e;exact absurd e h2⟩
theorem Pb {ds:tM} : ∀{keys:List BA} {m:List (Int×List BA)},(jc ds m keys).1.length<=m.length+keys.length
 |[],m=>by simp[jc]
 |k::r,m=>by
  rw[jc,aM];split
  ·split
   ·simp only;omega
   ·rename_i g _;have ih:=Pb (ds:=ds) (keys:=r) (m:=if((getM g.id m).getD []).any (λx=>decide (k=x))then m else cI g.id (((getM g.id m).getD [])++[k]) m);have h2:(if((getM g.id m).getD []).any (λx=>decide (k=x))then m else cI g.id (((getM g.id m).getD [])++[k]) m).length<=m.length+1:=by
     split
     ·omega
     ·exact CZ _
    omega
  ·simp only;omega
variable {a : Int}
theorem QC {b:Int} (h:p.length<=40): ∀k∈fj a b p,k.size<=24:=λk hk=>by
 obtain⟨y,hy,rfl⟩:=List.mem_map.1 ((kP _).mem_iff.1 hk);exact((E9 _ _ p [] 0 th (λx hx=>by cases hx) (aq _)).2.1 y hy).2.2
theorem Gx {b:Int} :(fj a b p).length<=p.length:=by
 unfold fj;rw[(kP _).length_eq,ai];have:=(E9 a b p [] 0 th (λx hx=>by cases hx) (aq _)).2.2;omega
def Eo (ids:List Int) (sl:List fe) (wl:List KV) (g:oW):bZ:= { Ck with kind:=3,range:=g.pt.id,iC:=g.pt.iC,parts:=ids,seen:=sl,writes:=wl }
def IV (p:List jr) (ds:tM) (ids:List Int):Prop:= ∃gk:List BA,gk≠[]/\(∀k∈gk,k∈fj 1 1 p\/ ∃o∈p,k=o.key/\(o.code=2\/o.code=3))/\(jc ds [] gk).2=0/\ids=(mV ds (jc ds [] gk).1).map (·.pt.id)
def Pc (p:List jr) (ds:tM):Prop:=(∃e wl,Xh p e wl/\(e≠0\/wl=[]))\/ ∃gk:List BA,gk≠[]/\(∀k∈gk,k∈fj 1 1 p\/ ∃o∈p,k=o.key/\(o.code=2\/o.code=3))/\(jc ds [] gk).2≠0
def Pd (n:bt) (b:Nat) (n':bt):Prop:=
 (∃ki a,((∃e,e≠0/\a=D6 e (n.A b).x.aR .zero false bf)\/ ∃vs,aG.one vs=true/\a=D6 0 (n.A b).x.aR (n.A b).x.st true vs)/\Pc (n.A b).p n.ds/\Told { n with al:=jL (n.A b).x.aR n.al,ex:=b::n.ex,va:=ki,ra:=n.ra++[a] } [] n')\/
 ∃(ids:List Int) (pm:List bZ) (vq jK:Value) (mf:List (List Value)),ids≠[]/\ids.length<=80/\pm.map (·.range)=ids/\(∀m∈pm,m.kind=3/\m.parts=ids/\m.C3)/\IV (n.A b).p n.ds ids/\
  Told (dN n b { n.A b with x:= { (n.A b).x with pre:=true,vq:=vq },vw:=jK,rw:=mf,ws:=pm.map λm=>m.asked (n.A b).x,ids:=ids }) (pm.map λm=>(m.asked (n.A b).x).qx (20+n.c.id)) n'
section
variable {w' wa w0 : World} {X' : XS} {own aH bM : Nat -> Nat} {n n' : bt}
theorem On (h:jb w own n) (hX:sK own X) (hb:n.cU b) (hp:(n.A b).x.pre=false) (hq:(n.A b).x.vq=bf/\(n.A b).ids=[]/\(n.A b).pq=false) (hws:(n.A b).ws=[]) (nV:(n.A b).sn.length<=2^20)
  (hW: ∀(i:Int) (r:eI),getM i n.ds=some r->r.id=i) (hi:1<=n.c.id/\n.c.id<=2) (hl:n.rm.length<=2^10) (wS:n.ra.length<=2^10) (Fa:nF (n.A b).p=0):
  Ct pg 64 #[ptr n.nb 0,ptr b 0] w X (gB own) λ_ wa w'=>NQ ea own wa w' λ_ n'=>Pd n b n':=by
 intro w0 hk;have s:=St.init h hX hk;obtain⟨ha,oa⟩:=s.va hb;have hs:=s.rf;obtain⟨-,-,JV,-,P8,-⟩:=s.h.act hb;have JV:=JV.sl.mono (s.sub _ ix.1);refine NI.1 λ_=>?_;repeat' refine ao ?_;intros
 refine cA (aaA (P8.mono (s.sub 4)) JV) kQ s.has ?_;rintro v D8 w1 X1 ⟨vl,wl,ew,rfl,nI,H8,alh,hex⟩ qz nY aC;obtain⟨ij,s1,m1,-,n1⟩:=(s.since aC).vB (N:=made D8 w1) λk hk=>⟨nY k hk,s.nw (ad qz hk.1)⟩;replace P8:=(P8.mv (aC.gU (s.sub 4))).mv m1;replace nI:=nI.mono n1;clear hs ha oa JV s;have Xv: ∀{w2:World} {X2:XS} {lS:Nat->Nat} {e:Int},Sn w0 own w2 X2 lS n->e≠0->Pc (n.A b).p n.ds->
   eC pg (vR (gB own) w0 λv w'=>NQ ea own w0 w' λ_ n'=>Pd n b n') X2 w2 true 43 #[ptr n.nb 0,ptr b 0,I e] λ_ w X=>fin (vR (gB own) w0 λv w'=>NQ ea own w0 w' λ_ n'=>Pd n b n') X w (.tuple #[]):=λ{w2 X2 lS e} s2 he haw=>
  s2.call (zF (n:=n) (b:=b) (code:=e) s2.h s2.x hb hq.2.2 zQ hi (by rw[hq.2.1];simp;omega)) kQ λv w3 X3 nE n3 s3 ⟨ki,q⟩ _=>s3.fin λ_ _=>.inl ⟨ki,_,.inl ⟨e,he,rfl⟩,haw,by rw[hp] at q;exact q⟩
 have hs:=s1.rf;by_cases hew:ew=0;case neg=>
  repeat' refine aN ?_;intros
  exact Xv s1 hew (.inl ⟨ew,wl,hex,.inl hew⟩)
 subst hew;have ali:=nI.mono (s1.sub 4);obtain⟨ha,oa⟩:=s1.va hb;have Sw: ∀{w2:World} {X2:XS} {lS:Nat->Nat},Sn w0 own w2 X2 lS n->Sl w2 X2 7 (n.A b).x.vs ((n.A b).sn.map fe.l):=λs2=>(s2.h.act hb).2.2.1.sl.mono (s2.sub _ ix.1);by_cases hw0:wl=[]
 ·have apy:(wl.length:Int)=0:=by rw[hw0];rfl
  repeat' refine aN ?_;intros
  refine cA (AP ha (λ_ h=>h) (Sw s1) zQ) kQ hs.has ?_;rintro vr yE w2 X2 ⟨ys,hys,q2⟩ mq kW bm;have s2:=s1.since bm;have ovr:=q2.sl.one;clear hs;obtain⟨t1,t2,t3,rfl⟩:=q2.sl.form;repeat' refine ao ?_;intros
  refine s2.call (CI (n:=n) (b:=b) (code:=0) (t:=.zero) (st:=(n.A b).x.st) (on:=true) (vs:=.slice t1 t2 t3) s2.h s2.x hb ovr zQ) kQ λv w3 X3 nE n3 s3 q3 m3=>?_;obtain⟨ki,rfl⟩:=q3;exact s3.fin λ_ _=>.inl ⟨ki,_,.inr ⟨_,ovr,rfl⟩,.inl ⟨0,wl,hex,.inr hw0⟩,Told.nil _⟩
 have apy: ¬(wl.length:Int)=0:=λe=>hw0 (List.length_eq_zero_iff.1 zQ);repeat' refine aN ?_;intros
 refine cA (AI (P8.mono (s1.sub 4)) (by have:=(Am Fa).1;omega)) kQ hs.has ?_;rintro vk yE w2 X2 q2 mq kW bm;have hnl:(fj 1 1 (n.A b).p).length<=40:=ad Gx (Am Fa).1;have lv:Own w2 X2 w1.heap.size 9 1 vk ((fj 1 1 (n.A b).p++(wl.take 0).map (·.key)).map S1):=by rw[List.take_zero,lu,List.append_nil];exact q2.up kW mq
 clear hs;have hs:=aj.fT bm.has;repeat' refine ao ?_;intros
 refine gM (λn' a b' w X=> ∃i:Nat,a=I (i:Nat)/\n'=wl.length-i/\i<=wl.length/\aj X1 w1 X w/\Own w X w1.heap.size 9 1 b' ((fj 1 1 (n.A b).p++(wl.take i).map (·.key)).map S1)) wl.length ⟨0,rfl,rfl,au _,bm.trans hs,lv.since hs⟩ ?_;clear hs lv;rintro n' a b' w X ⟨i,rfl,rfl,ES,hs,nk⟩;have ahf:=ali.since hs;rcases dG (wl) i with⟨cC,y,hx,hd⟩|⟨dH,hd⟩
 ·repeat' first|refine aN ?_;intros|(with_reducible apply Xw);(case hX=>exact hs.has);(case he=>kernel_rfl);(case ho=>first|rfl|assumption);(case hk=>rfl);intro acc w X aC ho;obtain⟨_,_,_,rfl⟩:=ho.sl.form;replace hs:=hs.trans aC
  have hlen:((fj 1 1 (n.A b).p++(wl.take i).map (·.key)).map S1).length<=80:=by simp;omega
  refine qQ (nk.since aC) hs s1.has kQ ho.sl (λr jZ u hu=>?_) (by simp only[dm];omega) (by simp only[dm];omega) λv' w' X' tj vQ c' dB=>?_
  ·rw[aw] at jZ;subst jZ;rw[aw] at hu;subst hu;rfl
  clear hs;repeat' first|refine ao ?_;intros|((with_reducible refine fK ((wl).length-(i+1)) ?_ ?_);omega;exact⟨i+1,by simp,rfl,by omega,tj,by rw[dr,hx];simp only[Option.toList_some,aJ,List.map_cons,lu,<-ak] at vQ⊢;exact vQ⟩)
 rw[ax dH] at nk;obtain⟨k0,iw⟩: ∃k0,k0=fj 1 1 (n.A b).p++wl.map (·.key):=⟨_,rfl⟩;rw[<-iw] at nk;have arC:k0.length<=80:=by rw[iw];simp;omega
 have hkn: ∀k∈k0,(k∈fj 1 1 (n.A b).p\/ ∃o∈(n.A b).p,k=o.key/\(o.code=2\/o.code=3))/\k.size<=24:=λk af=>by
  rw[iw] at af;rcases List.mem_append.1 af with e|e
  ·exact⟨.inl e,QC (Am Fa).1 k e⟩
  ·obtain⟨x,hx,rfl⟩:=List.mem_map.1 e;exact⟨.inr (alh x hx).2,(alh x hx).1⟩
 have apz:k0≠[]:=by rw[iw];intro e;exact hw0 (List.map_eq_nil_iff.1 (List.append_eq_nil_iff.1 e).2)
 repeat' refine aN ?_;intros
 refine yV (acM nk zQ) kQ hs.has (λk af=>nk.2.2 k af) λv yF w3 X3 QD qy mr _ c3=>?_;have s3:=(s1.since hs).loc c3 λk af=>s1.nw (nk.ge af).1;have m3:Mv (bR ij 4) w1 (bR ij 4) w3:=λk (e:ij k=4) _=>⟨e,(c3.block k (hs.sub k (s1.x k zQ)) λaf=>by have:=(nk.ge af).1;have:=s1.h.lt k zQ;omega).trans (hs.kp.block k (s1.x k zQ))⟩;have acO:=QD.sl.mono λk af=>c3.sub k (nk.2.2 k af);obtain⟨gk,hgk⟩: ∃gk,gk=fL k0:=⟨_,rfl⟩;have apA:gk.length=k0.length:=by rw[hgk];exact(kP _).length_eq
 have ahg: ∀k∈gk,(k∈fj 1 1 (n.A b).p\/ ∃o∈(n.A b).p,k=o.key/\(o.code=2\/o.code=3))/\k.size<=24:=λk af=>hkn k (by rw[hgk] at af;exact(kP _).mem_iff.1 af);have acP:gk≠[]:=λe=>apz (List.length_eq_zero_iff.1 (by rw[<-apA,e];rfl));rw[<-hgk] at acO;replace nI:=nI.mv m3;clear hs ahf ali nk QD ha oa c3 s1 m1 m3;have hs:=s3.rf;have hr:=s3.v.1;repeat' refine ao ?_;intros
 refine cA (Oo (s3.zO 2:) hW acO zQ λk af=>ad (ahg k af).2 dQ) kQ hs.has ?_;rintro v4 zj w4 X4 q4 tL pa fR;obtain⟨lT,s4,m4,-,n4⟩:=(s3.since fR).vB (N:=made zj w4) λk hk=>⟨pa k hk,s3.nw (ad tL hk.1)⟩;replace nI:=(nI.mv (fR.gU (s3.sub 4))).mv m4;clear hs hr acO s3 m4;have hs:=s4.rf;by_cases he:(jc n.ds [] gk).2≠0
 ·rw[if_pos he] at q4;subst q4;repeat' refine aN ?_;intros
  exact Xv s4 he (.inr ⟨gk,acP,λk hk=>(ahg k hk).1,he⟩)
 rw[if_neg he] at q4;obtain⟨vg,rfl,mg⟩:=q4;have AS:(jc n.ds [] gk).2=0:=Classical.not_not.1 he;have alj:=TV hW AS;obtain⟨gs,mN⟩: ∃gs,gs=mV n.ds (jc n.ds [] gk).1:=⟨_,rfl⟩;rw[<-mN] at mg alj;have apB:gs≠[]:=by
  obtain⟨k,af⟩:=List.exists_mem_of_ne_nil _ acP;obtain⟨g,hg,_⟩:=alj.rt k af;exact List.ne_nil_of_mem hg
 have gW:gs.length<=80:=by
  rw[mN,mV,ai,(pB _).length_eq,ai];have:=Pb (ds:=n.ds) (keys:=gk) (m:=[]);simp only[List.length_nil] at this;omega
 replace mg:=eQ.mv mg oW.mv (Mv.sub n4);have AQ:(n.A b).x.aR=(n.A b).x.aR:=rfl;obtain⟨ha,oa⟩:=s4.va hb;have oe:=(s4.h.act hb).1;repeat' refine aN ?_;intros
 refine s4.st (o:=9) (tx b 0) oe (ea (dN n b { n.A b with x:= { (n.A b).x with pre:=true },pq:=true })) zQ kQ (Nat.le_of_ble_eq_true rfl) rfl (λ_ _ _ h=>rj dQ h)
  (IW (λi hq' w K A p=>by
   rcases i with _|_|_|_|_|_|_|_|i<;>first|exact p|exact absurd rfl hq'|skip
   ·exact⟨p.1,p.2.1,λe=>by cases e⟩
   ·exact λ_=>by
     show Own w A 0 inT 1 (n.A b).x.vq ((n.A b).ids.map I1)
     rw[hq.1,hq.2.1];exact Own.nil _ _ _ _ _)) (λw5 X5 mW s5 m5=>?_) ix.1 ix.2
 replace nI:=nI.mv m5;replace mg:=eQ.mv mg oW.mv m5;clear hs ha oe Xv s4 oa;have hs:=s5.rf;have Fb:=eQ.mv mg oW.mv (Mv.sub (s5.sub 4));repeat' refine ao ?_;intros
 refine gh (λn' a w X=> ∃(i:Nat) (vq:Value) (aH:Nat->Nat),a=I (i:Nat)/\n'=gs.length-i/\i<=gs.length/\Sn w0 own w X aH (dN n b { n.A b with x:= { (n.A b).x with pre:=true,vq:=vq },ids:=(gs.take i).map (·.pt.id),pq:=true })/\
  Sl w (bR aH 4) 4 vl (wl.map KV.l)/\eQ w (bR aH 4) 5 vg oW.rd gs) gs.length ⟨0,(n.A b).x.vq,mW,rfl,rfl,au _,by rw[List.take_zero,lu,<-hq.2.1];exact s5,nI,mg⟩ ?_
 clear s5 hs Fb nI mg;rintro n' _ w6 X6 ⟨i,vq,wC,rfl,rfl,hi6,s6,nI,mg⟩;have hs:=s6.rf;have Fb:=eQ.mv mg oW.mv (Mv.sub (s6.sub 4));rcases dG (gs) i with⟨cC,g,hx,hd⟩|⟨dH,hd⟩
 ·obtain⟨ha,oa⟩:=s6.vs hb;repeat' refine aN ?_;intros
  refine Gq Fb hx rfl kQ kQ λbb oo ll qi jE=>?_;obtain⟨H4,rfl,Ln⟩:=jE;have ovk:=Ln.one;change Cells w6 X6 bb oo [I g.pt.id,I g.pt.iC,.float .f64 g.pt.lo,.float .f64 g.pt.hi,H4] at qi;repeat' first|refine ao ?_;intros|(refine q1s hs ?_;intro _ _ _ w X hs ho)
  replace nI:=nI.mv (hs.gU (s6.sub 4));replace mg:=eQ.mv mg oW.mv (hs.gU (s6.sub 4));have s7:=s6.since hs;have ux:=CJ s7.h b 7 dQ hb;have oe:=(s7.h.act (b:=b) hb).1;rw[jj] at ux oe;have AQ:((gs.take (i+1)).map (·.pt.id)).map I1=((gs.take i).map (·.pt.id)).map I1++[[I g.pt.id]]:=by
   rw[dr,hx];simp
  refine s7.ap1 (tx b 0) (tx b 7) 0 oe (ux rfl) ho.sl (λr hr u hu=>?_) oQ (λv=>ea (dN n b { n.A b with x:= { (n.A b).x with pre:=true,vq:=v },ids:=(gs.take (i+1)).map (·.pt.id),pq:=true })) (λ_ _ _ _ h=>rj dQ h) (λ_ _ _ _ h=>rj dQ λ_=>by
   show Own _ _ 0 inT 1 _ (((gs.take (i+1)).map (·.pt.id)).map I1)
   rw[AQ];exact h) (λ_ _ _ _ _ h=>h) (λv'=>QE) (λv' w9 X9 pK s9 m9=>?_) (yI:=by unfold tx;omega)
  ·rw[aw] at hr;subst hr;rw[aw] at hu;subst hu;rfl
  clear hs;repeat' refine ao ?_;intros
  exact fp (gs.length-(i+1)) zQ ⟨i+1,v',pK,by simp,rfl,by omega,s9,nI.mv m9,eQ.mv mg oW.mv m9⟩
 rw[ax zQ] at s6;obtain⟨ids,Fc⟩: ∃ids,ids=gs.map (·.pt.id):=⟨_,rfl⟩;rw[<-Fc] at s6;have ux:=CJ s6.h b 7 dQ hb;rw[jj] at ux;obtain⟨DK,s7,m7,e7,_⟩:=s6.Xx (F':=ea (dN n b { n.A b with x:= { (n.A b).x with pre:=true,vq:=vq },ids:=ids,pq:=false })) (· =tx b 7) ix.1.symm (λc hc w K=>by subst hc;exact rj dQ λe=>nomatch e) λc hc K A hK p=>by
  by_cases e:c=tx b 3
  ·subst e;rw[vU _ _ _ dQ] at p;have p:=p hb;rw[jj] at p;exact rj dQ ⟨p.1,p.2.1,λ_=>(ux rfl).sl.mono hK⟩
  ·exact(QE (d:= { n.A b with x:= { (n.A b).x with pre:=true,vq:=vq },ids:=ids,pq:=true }) (d':= { n.A b with x:= { (n.A b).x with pre:=true,vq:=vq },ids:=ids,pq:=false }): ∀c,(c≠tx b 7/\c≠tx b 3/\c≠tx b 3)->_) c ⟨hc,e,e⟩ _ _ _ p
 replace nI:=nI.mv m7;replace mg:=eQ.mv mg oW.mv m7;have Oq:Sl w6 (bR DK 4) 1 vq (ids.map I1):=(ux rfl).sl.mono e7;have mQ:ids.length<=80:=by rw[Fc,ai];exact gW
 have hrw:(n.A b).rw.length=0:=by have:=(s7.h.act (b:=b) hb).2.2.2.1.1;rw[jj] at this;rw[show(n.A b).rw.length=(n.A b).ws.length from this,hws];rfl
 clear ux e7 s6 hs Fb m7;obtain⟨q1,q2,q3,rfl⟩:=Oq.form;have hs:=s7.rf;have Fb:=eQ.mv mg oW.mv (Mv.sub (s7.sub 4));repeat' refine aN ?_;intros
 obtain⟨D,hD⟩: ∃D:Value->List (List Value)->List bZ->rl,D=λvw rw pm=> { n.A b with x:= { (n.A b).x with pre:=true,vq:=.slice q1 q2 q3 },vw:=vw,rw:=rw,ws:=pm.map λm=>m.asked (n.A b).x,ids:=ids,pq:=false } :=⟨_,rfl⟩;have hD0:({ n.A b with x:= { (n.A b).x with pre:=true,vq:=.slice q1 q2 q3 },ids:=ids,pq:=false } :rl)=D (n.A b).vw (n.A b).rw []:=by rw[hD];dsimp only;rw[hws];rfl
 rw[hD0] at s7;refine afk (λn' a _ _ _ w X=> ∃(i:Nat) (jK:Value) (mf:List (List Value)) (pm:List bZ) (aH:Nat->Nat) (n1:bt),a=I (i:Nat)/\n'=gs.length-i/\i<=gs.length/\Sn w0 own w X aH n1/\Told (dN n b (D jK mf pm)) (pm.map λm=>(m.asked (n.A b).x).qx (20+n.c.id)) n1/\mf.length=i/\
  Sl w (bR aH 4) 4 vl (wl.map KV.l)/\eQ w (bR aH 4) 5 vg oW.rd gs/\Sl w (bR aH 4) 1 (.slice q1 q2 q3) (ids.map I1)/\pm.map (·.range)=(gs.take i).map (·.pt.id)/\ ∀m∈pm,m.kind=3/\m.parts=ids/\m.C3) gs.length ⟨0,_,_,[],DK,_,rfl,rfl,au _,s7,Told.nil _,hrw,nI,mg,Oq,rfl,λm hm=>absurd hm sQ⟩ ?_
 clear s7 nI mg Oq hrw hi6 dH hd hs Fb hD0;rintro n' _ _ _ _ w6 X6 ⟨i,Lo,Lp,pm,wC,n1,rfl,rfl,hi6,s6,ht,rG,nI,mg,Oq,Ib,mh⟩;have hs:=s6.rf;have Fb:=eQ.mv mg oW.mv (Mv.sub (s6.sub 4));obtain⟨Xy,QF,wP,Lh⟩:=id ht;have e1:n1.nb=n.nb/\n1.c=n.c/\n1.A b=D Lo Lp pm/\n1.rm.length=n.rm.length+pm.length:=by rw[wP];exact⟨rfl,rfl,jj,by rw[ai] at Lh;exact Lh⟩
 have xD:pm.length=i:=by have:=congrArg az Ib;simp at this;omega
 have lD:n1.cU b:=by rw[wP];exact hb
 obtain⟨ha,oa⟩:=s6.va lD;have JV:=(s6.h.act lD).2.2.1.sl.mono (s6.sub _ ix.1);rw[e1.2.2.1,hD] at ha oa JV;rcases dG (gs) i with⟨cC,g,hx,hd⟩|⟨dH,hd⟩
 ·repeat' refine aN ?_;intros
  refine Gq Fb hx rfl kQ kQ λbb oo ll qi jE=>?_;obtain⟨H4,rfl,Ln⟩:=jE;have ovk:=Ln.one;change Cells w6 X6 bb oo [I g.pt.id,I g.pt.iC,.float .f64 g.pt.lo,.float .f64 g.pt.hi,H4] at qi;repeat' refine ao ?_;intros
  refine cA (AP ha (λ_ h=>h) JV (by dsimp only;omega)) kQ hs.has ?_;rintro vr Qs w7 X7 ⟨ys,hys,q7⟩ Sp Hc py;have hr7:Sl w7 X7 7 vr (ys.map fe.l):=(q7.mono Hc).sl;have hyl:ys.length<=2^20:=by rw[hys.length_eq];exact nV
  have ahh:=Ln.since py;have alk:=(nI.mono (s6.sub 4)).since py;clear hs;have hs:=aj.fT py.has;repeat' refine ao ?_;intros
  refine gM (λn' a b' w X=> ∃(j:Nat) (vb:Value) (sl:List fe),a=I (j:Nat)/\b'=(Eo ids sl [] g).v bf vb bf (.slice q1 q2 q3) bf bf bf bf/\n'=ys.length-j/\j<=ys.length/\aj X7 w7 X w/\sl.length<=j/\
   Own w X w7.heap.size 175 7 vb (sl.map fe.l)) ys.length ⟨0,bf,[],rfl,rfl,rfl,au _,hs,aq _,Own.nil _ _ _ _ _⟩ ?_
  clear hs;rintro n' _ _ w X ⟨j,vc,sl,rfl,rfl,rfl,hj,hs,hsj,hoc⟩;have hrw:=hr7.since hs;rcases dG ys j with⟨hlj,y,hy,hdj⟩|⟨hgj,hdj⟩
  ·repeat' first|refine aN ?_;intros|with_reducible apply cK
   refine H2 (vC (ahh.since hs)) kQ hs.has (λahi w8 X8 lr=>?_) (λahi w8 X8 lr=>?_)
   ·have ahj:=hoc.since lr;replace hs:=hs.trans lr;clear hoc lr;repeat' first|refine ao ?_;intros|(with_reducible apply QG);(case hX=>exact hs.has);(case he=>kernel_rfl);(case hk=>rfl);intro acc w X aC ho;obtain⟨_,_,_,rfl⟩:=ho.sl.form;replace hs:=hs.trans aC
    refine qQ (ahj.since aC) hs py.has kQ ho.sl (λr jZ u hu=>?_) (by simp only[ai,dm];omega) (by simp only[ai,dm];omega) λv' w' X' tj vQ c' dB=>?_
    ·rw[aw] at jZ;subst jZ;simp only[List.mem_cons,dC,or_false] at hu;rcases hu with rfl|rfl|rfl|rfl|rfl|rfl|rfl<;>rfl
    clear hs;have hs:=aj.fT tj.has;have ov':=vQ.sl.one;repeat' refine ao ?_;intros
    exact fK (ys.length-(j+1)) zQ ⟨j+1,v',sl++[y],by simp,rfl,rfl,by omega,tj,by simp;omega,by rw[aJ];exact vQ⟩
   ·repeat' refine ao ?_;intros
    exact fK (ys.length-(j+1)) zQ ⟨j+1,vc,sl,by simp,rfl,rfl,by omega,hs.trans lr,by omega,hoc.since lr⟩
  have arD:sl.length<=2^20:=by omega
  have apC: ∀k,ga vc k->wC k=0/\w0.heap.size<=k:=λk e=>s6.nw (ad py.kp.size (hoc.ge e).1);replace nI:=nI.mv ((py.trans hs).gU (s6.sub 4));replace mg:=eQ.mv mg oW.mv ((py.trans hs).gU (s6.sub 4));replace Oq:=Oq.mv ((py.trans hs).gU (s6.sub 4));replace s6:=s6.since (py.trans hs);have apD:=ahh.since hs;have ahf:=alk.since hs;obtain⟨wc,Xc,hwc,hXc⟩: ∃wc Xc,wc=w/\Xc=X:=⟨_,_,rfl,rfl⟩;subst hwc hXc;clear hs hrw alk ahh;have hs:=s6.rf;repeat' refine aN ?_;intros
  refine gM (λn' a b' w X=> ∃(j:Nat) (vb:Value) (kl:List KV),a=I (j:Nat)/\b'=(Eo ids sl kl g).v bf vc vb (.slice q1 q2 q3) bf bf bf bf/\n'=wl.length-j/\j<=wl.length/\aj Xc wc X w/\kl.length<=j/\
   Own w X wc.heap.size 178 4 vb (kl.map KV.l)) wl.length ⟨0,bf,[],rfl,rfl,rfl,au _,hs,aq _,Own.nil _ _ _ _ _⟩ ?_
  clear hs;rintro n' _ _ w X ⟨j,vb,kl,rfl,rfl,rfl,hj,hs,hkj,yJ⟩;have apE:=ahf.since hs;rcases dG wl j with⟨hlj,y,hy,hdj⟩|⟨arS,hdj⟩
  ·repeat' first|refine aN ?_;intros|with_reducible apply cK
   refine H2 (vC (apD.since hs)) kQ hs.has (λahi w8 X8 lr=>?_) (λahi w8 X8 lr=>?_)
   ·have ahj:=yJ.since lr;replace hs:=hs.trans lr;clear yJ lr;repeat' first|refine ao ?_;intros|(with_reducible apply QG);(case hX=>exact hs.has);(case he=>kernel_rfl);(case hk=>rfl);intro acc w X aC ho;obtain⟨_,_,_,rfl⟩:=ho.sl.form;replace hs:=hs.trans aC
    refine qQ (ahj.since aC) hs s6.has kQ ho.sl (λr jZ u hu=>?_) (by simp only[ai,dm];omega) (by simp only[ai,dm];omega) λv' w' X' tj vQ c' dB=>?_
    ·rw[aw] at jZ;subst jZ;simp only[List.mem_cons,dC,or_false] at hu;rcases hu with rfl|rfl|rfl|rfl<;>rfl
    clear hs;have hs:=aj.fT tj.has;have ov':=vQ.sl.one;repeat' refine ao ?_;intros
    exact fK (wl.length-(j+1)) zQ ⟨j+1,v',kl++[y],by simp,rfl,rfl,by omega,tj,by simp;omega,by rw[aJ];exact vQ⟩
   ·repeat' refine ao ?_;intros
    exact fK (wl.length-(j+1)) zQ ⟨j+1,vb,kl,by simp,rfl,rfl,by omega,hs.trans lr,by omega,yJ.since lr⟩
  repeat' refine aN ?_;intros
  obtain⟨Lq,s8,m8,-,n8⟩:=(s6.since hs).vB (N:=λk=>ga vb k\/ga vc k) λk e=>by
   rcases e with e|e
   ·exact⟨yJ.2.2 k e,s6.nw (yJ.ge e).1⟩
   ·exact⟨hs.sub k (hoc.2.2 k e),apC k e⟩
  replace m8:=Mv.trans (hs.gU (s6.sub 4)) m8;replace nI:=nI.mv m8;replace mg:=eQ.mv mg oW.mv m8;replace Oq:=Oq.mv m8;have hm8:(Eo ids sl kl g).at w (bR Lq 4) bf vc vb (.slice q1 q2 q3) bf bf bf bf:=
   ⟨Sl.nil _ _ _,(zl (hoc.since hs) λk e=>n8 k (.inr e)).sl,(zl yJ λk e=>n8 k (.inl e)).sl,Oq,Sl.nil _ _ _,eQ.nil _ _ _,eQ.nil _ _ _,eQ.nil _ _ _⟩
  have hf8:(Eo ids sl kl g).C3:=⟨by simp[Eo,Ck],by show sl.length<=_;omega,by show kl.length<=_;omega,by show ids.length<=_;omega⟩;rw[<-e1.1];refine s8.call (Ot (n:=n1) (b:=b) (m:=Eo ids sl kl g) s8.h s8.x lD hm8 hf8 (by rw[e1.2.1];exact hi) (by rw[e1.2.2.2];omega) (by rw[e1.2.2.1,hD];dsimp only;omega)) kQ λv w9 X9 pK n9 s9 q9 m9=>?_;obtain⟨vw9,rw9,QH,Xz⟩:=q9;rw[e1.2.2.1,e1.2.1] at Xz;clear hs;repeat' refine ao ?_;intros
  refine afl (gs.length-(i+1)) zQ ⟨i+1,vw9,rw9,pm++[Eo ids sl kl g],pK,n9,by simp,rfl,by omega,s9,?_,by rw[QH,e1.2.2.1,hD];dsimp only;omega,nI.mv m9,eQ.mv mg oW.mv m9,Oq.mv m9,by rw[dr,hx];simp[Ib,Eo],λm hm=>by
   rcases List.mem_append.1 hm with e|e
   ·exact mh m e
   ·rw[aw] at e;subst e;exact⟨rfl,rfl,hf8⟩⟩
  have fE:=ht.set (b:=b) (e:=D vw9 rw9 (pm++[Eo ids sl kl g]));rw[An] at fE;rw[aJ];refine fE.add ?_;rw[hD] at Xz⊢;simp only[aJ,List.map_cons,lu];exact Xz
 ·rw[ax dH] at Ib;rw[hD] at ht;repeat' refine aN ?_;intros
  exact s6.fin λ_ _=>.inr ⟨ids,pm,_,Lo,Lp,by rw[Fc];exact λe=>apB (List.map_eq_nil_iff.1 e),mQ,by rw[Ib,Fc],mh,⟨gk,acP,λk hk=>(ahg k hk).1,AS,by rw[Fc,mN]⟩,by rw[<-hq.2.2] at ht;exact ht⟩
end
end Go.Proofs.YtgfijddlkhkopaaGreat