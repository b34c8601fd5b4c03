/-
 Part 17 of the proof: what the last text leans on.
-/
import Derived.Shelf.SlIter.Collect
import Derived.Test.YtbpnemeooenpmaaGreatH16
open Go.Value renaming int → aA, cells → aa, agg → ai, slice → kS
open Go.IntKind renaming i64 → cR
open Array renaming toList → ad
open List renaming length → aj, length_map → aI, all → ao, toList_toArray → dg, length_append → av, filter_cons → cW, length_pos_of_mem → r6, append_assoc → aK, length_nil → bL, take_add_one → cn, map_append → bC, take_of_length_le → bq, mem_singleton → bw
open Nat renaming lt_of_lt_of_le → aH, zero_le → aG, le_trans → ah, le_refl → bg
open Go.Operand renaming tmp → iK
open Go.Obj.cells renaming inj → iE
open Go.World renaming putObj_heap_other → fT, alloc_heap_new → hP, cell? → pr, putObj_heap_same → r7
open Go.Fence renaming wide → eT
open Go.Ground renaming data → pt, phase → ou
open Go.Result renaming andThen → tB
open Go.Code renaming wpIn → Au
open Go.Oper renaming semAt_plain → xH
open Option renaming toList_some → fj
open Go.KeepsWalks renaming alloc → xI, putObj → wQ
set_option linter.unusedVariables false
set_option linter.unusedSimpArgs false
namespace Go.Proofs.YtbpnemeooenpmaaGreat
open Go.Proofs.Tryz renaming prog → pg
open Go.aR Go.RowKit Go.Maps Go.Sort Go.Shelf Go.ChangeMaps
set_option maxRecDepth 100000
set_option maxHeartbeats 2000000
set_option linter.unusedVariables false
set_option linter.unusedSimpArgs false
abbrev EZ:Nat:=110
abbrev UZ:Nat:=88
abbrev tT:Nat:=27
structure Eh (w:World) (b:Nat) (es:List (gB de)) (c:Nat):Prop where
 rC:w.heap[b]? =some (.map (es.map (jj fun k:de=>k.v)).toArray c)
 nd:(es.map (·.2.2)).Nodup
 lt: ∀x∈es,x.2.2<c
def qw (es:List (gB de)) (seen:Array Nat):List (gB de):=es.filter fun x=>!seen.contains x.2.2
theorem Na (es:List (gB de)) (seen:Array Nat):(leftOf (es.map (jj fun k:de=>k.v)).toArray seen).toList=(qw es seen).map (jj fun k:de=>k.v):=by
 simp only [leftOf,qw,Array.toList_filter,dg,List.filter_map];rfl
theorem OP {es:List (gB de)} {seen:Array Nat} (hn:(es.map (·.2.2)).Nodup) {x:gB de} (hx:x∈qw es seen):((x::qw es (seen.push x.2.2)).Perm (qw es seen)):=by
 have nu:=List.mem_filter.1 hx;have e:qw es (seen.push x.2.2)=(qw es seen).filter fun y=>decide (y.2.2≠x.2.2):=by
  unfold qw;rw [List.filter_filter]
  congr 1
  funext y
  by_cases hy:y.2.2=x.2.2<;>simp [hy,Array.contains_push,Bool.beq_eq_decide_eq]
 rw [e];have jh:((qw es seen).map (·.2.2)).Nodup:=hn.sublist (List.Sublist.map _ List.filter_sublist);generalize qw es seen=l at hx jh
 induction l with
 |nil=>cases hx
 |cons y l ih=>
  have h1:=List.nodup_cons.1 jh;rcases List.mem_cons.1 hx with rfl|E6
  ·rw [cW,if_neg (by simp)];have:l.filter (fun y=>decide (y.2.2≠x.2.2))=l:=List.filter_eq_self.2 fun z hz=>by
    have:z.2.2≠x.2.2:=fun e=>h1.1 (List.mem_map.2 ⟨z,hz,e⟩);simpa using this
   rw [this]
  ·have du:y.2.2≠x.2.2:=fun e=>h1.1 (List.mem_map.2 ⟨x,E6,e.symm⟩);rw [cW,if_pos (by simpa using du)];exact(List.Perm.swap _ _ _).trans ((ih E6 h1.2).cons _)
theorem ab0 (w:World) (r:Nat) (o:Obj):w.grownBy (setBlock w r o) (some r)∧(setBlock w r o).heap.size=w.heap.size:=
 ⟨⟨rfl,rfl,rfl,by simp [setBlock],fun k hk du=>by
  have:r≠k:=fun e=>du (by rw [e]);simp [setBlock,Array.getElem?_setIfInBounds,this]⟩,by simp [setBlock]⟩
section
variable {F : Fence} {n : Nat} {ops : Array Oper} {Q : Exit → Act → World → Prop} {o : Oper} {rest : List Oper} {a : Act} {w : World} {es : List (gB de)} {b r c : Nat}
theorem Nb (hg:o.guard=none) (m:Operand) (sO:o.op=Op.range UZ m) (hm:a.eval m= .map (some b)) (h:Eh w b es c)
  (hK:wpListIn F n pg ops Q rest (a.put o.dst (ptr w.heap.size 0)) (w.alloc (.mapIter (some b) c #[] c))):wpListIn F n pg ops Q (o::rest) a w:=by
 refine wpListIn_plain hg fun K' hK'=>?_;have jI:=run_range_map (P:=pg) w UZ tT 110 b _ c kQ h.rC;unfold Oper.wpIn;refine⟨by simp [Oper.about,sO],?_⟩;rw [xH F _ _ (by rw [sO];intro c CY;cases CY)];simp [execOp,sO,hm,jI,tB];exact hK' _ _ hK
theorem OQ (hg:o.guard=none) (it:Operand) (sO:o.op=Op.next it false) (seen:Array Nat) (Hz:a.eval it= .pointer (some ⟨r,0,none⟩)) (hb:Eh w b es c) (hrb:r≠b) (hr:w.heap[r]? =some (.mapIter (some b) c seen c))
  (ajB:qw es seen=[]→wpListIn F n pg ops Q rest (a.put o.dst (.tuple #[.bool false])) w)
  (ajC: ∀x∈qw es seen,∀w',w.grownBy w' (some r)→w'.heap.size=w.heap.size→w'.heap[r]? =some (.mapIter (some b) c (seen.push x.2.2) c)→
   (Instr.entry (.pointer (some ⟨r,0,none⟩))).run pg w'= .ok (.tuple #[x.1.v,x.2.1]) w'→wpListIn F n pg ops Q rest (a.put o.dst (.tuple #[.bool true,x.1.v,x.2.1])) w'):
  wpListIn F n pg ops Q (o::rest) a w:=by
 refine wpListIn_plain hg fun K' hK'=>?_;unfold Oper.wpIn;refine⟨by simp [Oper.about,sO],?_⟩;rw [xH F _ _ (by rw [sO];intro c CY;cases CY)];have hold: ∀x∈((es.map (jj fun k:de=>k.v)).toArray).toList,x.born<c:=by
  intro x hx;simp only [dg,List.mem_map] at hx;obtain⟨y,hy,rfl⟩:=hx;exact hb.lt y hy
 rcases run_next_at (P:=pg) w o.type r b c c seen _ c hr hb.rC hold (bg _)with⟨hz,jI⟩|⟨e,he,w1,Dz,jI⟩
 ·simp [execOp,sO,Hz,jI,tB];refine hK' _ _ (ajB ?_);have:(qw es seen).map (jj fun k:de=>k.v)=[]:=by rw [←Na];exact List.eq_nil_of_length_eq_zero (by simpa using hz)
  simpa using this
 ·rw [Na] at he;obtain⟨x,hx,rfl⟩:=List.mem_map.1 he;simp [execOp,sO,Hz,jI,tB];have B9:r<w.heap.size:=(Array.getElem?_eq_some_iff.1 hr).1;obtain⟨hw,fK⟩:w.grownBy (setBlock w1 r (.mapIter (some b) c (seen.push x.2.2) c)) (some r)∧(setBlock w1 r (.mapIter (some b) c (seen.push x.2.2) c)).heap.size=w.heap.size:=by
   have h1:=ab0 w1 r (.mapIter (some b) c (seen.push x.2.2) c);rcases Dz with e|e
   ·rw [e] at h1⊢;exact h1
   ·rw [e] at h1⊢;exact⟨⟨h1.1.os,h1.1.tape,h1.1.output,h1.1.size,h1.1.block⟩,h1.2⟩
  have qq:(setBlock w1 r (.mapIter (some b) c (seen.push x.2.2) c)).heap[r]? =some (.mapIter (some b) c (seen.push x.2.2) c):=Jl (by rcases Dz with rfl|rfl<;>exact B9);refine hK' _ _ (ajC x hx _ hw fK qq ?_);have eY:=(hw.block b (Array.getElem?_eq_some_iff.1 hb.rC).1 (fun e=>hrb (by cases e;rfl))).trans hb.rC;exact run_entry_at (P:=pg) _ r b c seen (es.map (jj fun k:de=>k.v)).toArray c (jj (fun k:de=>k.v) x) qq eY (by rw [dg];exact List.mem_map.2 ⟨x,(List.mem_filter.1 hx).1,rfl⟩)
   (by rw [dg,List.map_map];exact hb.nd)
theorem Mg {w:World} {b r c:Nat} {es:List (gB de)} {seen:Array Nat} (hb:Eh w b es c) (hr:w.heap[r]? =some (.mapIter (some b) c seen c)):w.rangeLeft b r=(qw es seen).length:=by
 unfold World.rangeLeft;rw [hb.rC,hr];have h1:=congrArg aj (Na es seen);rw [aI] at h1;rw [←h1,Array.length_toList]
theorem Xt {Bm:Nat} (hBm:Bm<w.heap.size) (hm:w.cell? ⟨Bm,0,none⟩=some (.map (some b))) (h:Eh w b es c):
  SeqGives eT 5 pg EZ #[.pointer (some ⟨Bm,0,none⟩)] (fun t:de=>t.v) (fun ts=>ts.Perm (es.map (·.1))) es.length w:=fun l J W hW hJ hY h0=>by
 have hT:Eh W b es c:=⟨(hW.block b (Array.getElem?_eq_some_iff.1 h.rC).1).trans h.rC,h.nd,h.lt⟩;have hm':=(hW.cell (p:=⟨Bm,0,none⟩) hBm).trans hm;refine callsIn_of_wp (f:=EZ) (fn:=Tryz.f110) kQ rfl trivial ?_ rfl;rw [Tryz.ntmps110];change Au _ _ _ _ _ ⟨#[.func (.yield l) #[] #[],.pointer (some ⟨Bm,0,none⟩),undef,undef,undef,undef,undef,undef,undef,undef,undef,undef,undef,undef],[]⟩ W
 gi_wp2_with (first
  |(gi_at_range;refine Nb rfl _ rfl rfl hT ?_)
  |gi_in)
 have C9:=(Array.getElem?_eq_some_iff.1 hT.rC).1;have yF:W.grownBy (W.alloc (.mapIter (some b) c #[] c)) none:=⟨rfl,rfl,rfl,by simp,fun k hk _=>Below.heap_alloc _ _ k hk⟩;have DA:(W.alloc (.mapIter (some b) c #[] c)).heap[W.heap.size]? =some (.mapIter (some b) c #[] c):=hP _ _
 gi_loopw [3] (fun _ wr=> ∃(seen:Array Nat) (ts:List de),Eh wr b es c∧wr.heap[W.heap.size]? =some (.mapIter (some b) c seen c)∧(ts++(qw es seen).map (·.1)).Perm (es.map (·.1))∧J ts wr)
  (fun _ wr=>wr.rangeLeft b W.heap.size)
 case atStart=>
  refine⟨#[],[],⟨(yF.block b C9 (by simp)).trans hT.rC,h.nd,h.lt⟩,DA,?_,hJ [] W _ none h0 yF (fun r e=>by cases e)⟩;have:qw es #[]=es:=List.filter_eq_self.2 (by simp);rw [this];exact List.Perm.refl _
 case round=>
  obtain⟨seen,ts,hb,hr,hp,hJs⟩:=hrel
  gi_wp2_with (first
   |(gi_at_next;refine OQ rfl _ rfl seen rfl hb zQ hr ?_ ?_)
   |gi_in)
  ·intro hl0
   gi_wp2
   go_end0
   exact⟨⟨_,rfl⟩,ts,by rw [hl0] at hp;simpa using hp,hJs⟩
  ·intro x v0 bn hx w2 Jm bT qY hen;have hJ2:J ts w2:=hJ ts wr w2 (some W.heap.size) hJs Jm (fun r e=>by cases e;exact⟨bg _,_,hr,rfl⟩);have wH:Eh w2 b es c:=⟨(Jm.block b (Array.getElem?_eq_some_iff.1 hb.rC).1 (fun e=>by cases e;omega)).trans hb.rC,hb.nd,hb.lt⟩;have hlen:ts.length<es.length:=by
    have h1:=hp.length_eq;have h2:=r6 hx;simp only [av,aI] at h1;omega
   have hJ3:J ts (w2.alloc (.cells #[aA cR x.gN,aA cR x.ga,aA cR x.sq] 27)):=hJ ts w2 _ none hJ2 ⟨rfl,rfl,rfl,by simp,fun k hk _=>Below.heap_alloc _ _ k hk⟩ (fun r e=>by cases e);obtain⟨fn,tmps,assign,body,hy,hR⟩:=hY ts x _ hJ3 hlen;change (Instr.yield l #[ai #[aA cR x.gN,aA cR x.ga,aA cR x.sq]]).run pg _=_ at hy;have Mh:Eh (w2.alloc (.cells #[aA cR x.gN,aA cR x.ga,aA cR x.sq] 27)) b es c:=⟨(Below.heap_alloc _ _ b (Array.getElem?_eq_some_iff.1 wH.rC).1).trans wH.rC,hb.nd,hb.lt⟩;have sU:(w2.alloc (.cells #[aA cR x.gN,aA cR x.ga,aA cR x.sq] 27)).heap[W.heap.size]? =some (.mapIter (some b) c (seen.push bn) c):=(Below.heap_alloc _ _ _ (Array.getElem?_eq_some_iff.1 qY).1).trans qY;clear bT
   gi_wp2
   refine hR.mono ?_;rintro e W3 ⟨rfl,hJ4,R3⟩;have Cp:Eh W3 b es c:=⟨R3.same b _ Mh.rC rfl,hb.nd,hb.lt⟩;have Uc:=R3.same _ _ sU rfl
   gi_wp2
   go_roundw
   case rel=>
    refine⟨seen.push bn,ts++[x],Cp,Uc,?_,hJ4⟩;have hq:=(OP h.nd hx).map (·.1);refine List.Perm.trans ?_ hp;rw [aK];exact(List.Perm.append_left ts hq)
   case measure=>
    rw [Mg Cp Uc,Mg hb hr];have:=(OP h.nd hx).length_eq;simp only [List.length_cons] at this;omega
end
end Go.Proofs.YtbpnemeooenpmaaGreat
namespace Go.Proofs.YtbpnemeooenpmaaGreat
open Go.Proofs.Tryz renaming prog → pg
open Go.aR
set_option maxRecDepth 100000
set_option maxHeartbeats 1000000
set_option linter.unusedVariables false
set_option linter.unusedSimpArgs false
attribute [local irreducible] un jn aB aS ld1 dY st1 dr cB kN dw lR uK sP fC e6 ae aC aJ eW eV eU eC eF gE ay fin aQ aF aE vS xh gG gS qK uL sQ xi xj xk gz gP qL uM sR xl xm
theorem OR: ∀{l:List Nat} {x:Nat},x∈l→x≤l.sum
 |y::l,x,h=>by
  rw [List.sum_cons];rcases List.mem_cons.1 h with e|h
  ·omega
  ·have:=OR h;omega
theorem Mi (a b:Int) (p:List fw):(dW a b p).Nodup:=(kL _).nodup_iff.2 (Cb p [] 0 (a:=a) (b:=b) List.nodup_nil (fun x hx=>by cases hx) (bg _)).1
def xJ (g:ki):dF:= { uG with kind:=1,range:=g.lH.id,gx:=g.lH.gx,keys:=g.keys }
def jG (ds:gK) (p:List fw):List ki:=jZ ds (gp ds [] (dW 1 1 p)).1
def re (ds:gK) (p:List fw):List dF:=(jG ds p).map xJ
section
variable {w w' wa : World} {X X' K K' Y D A : XS} {nb xb mb : Nat} {c : pj} {x : oO} {vm va vw dZ gr ic fy j6 : Value} {al : List (de × Nat)} {rm ra rw : List (List Value)} {ms ws : List dF} {ps : List Int} {ds : gK} {ck : cx}
theorem fu.told (h:fu w K nb xb c x vm va vw dZ al rm ra rw ms ws ps) (hr:a7 w' (· =nb) nb (uj c aN aN) nT) (hb: ∀k,cF nb xb c.ab vm va vw dZ k→k≠nb→w'.heap[k]? =w.heap[k]?) (hK:Mv K w K w'):
  fu w' (fun k=>K k∨cZ vm k∨cZ va k) nb xb c x aN aN vw dZ al [] [] rw [] ws ps where
 row:=hr
 act:=h.act.mv fun k hk _=>⟨hk,hb k (.inr (.inl hk)) (by rw [hk];exact fun e=>h.ap.nx e.symm)⟩
 am:=h.am.mv fJ (fun k hk _=>⟨hk,hb k (.inr (.inr (.inl hk))) (by rw [hk];exact h.ap.an)⟩) fun _ h=>h.elim
 om:=Own.nil _ _ _ _ _
 oa:=Own.nil _ _ _ _ _
 ow:=h.ow.mv fun k hk _=>⟨hk,hb k (.inr (.inr (.inr (.inr (.inr (.inl hk)))))) (h.ap.w k hk).1⟩
 op:=h.op.mv fun k hk _=>⟨hk,hb k (.inr (.inr (.inr (.inr (.inr (.inr hk)))))) (h.ap.p k hk).1⟩
 hm:=jr.nil _ _
 hw:=h.hw.mv fun k hk hl=>⟨.inl hk,(hK k hk hl).2⟩
 sep:=fun g hg=>by cases hg
 kd:=fun k hk hf=>by
  have OH:k=nb∨k=xb∨k=c.ab∨cZ vw k∨cZ dZ k:=by
   rcases hf with q|q|q|q|q|q|q
   ·exact .inl q
   ·exact .inr (.inl q)
   ·exact .inr (.inr (.inl q))
   ·cases q
   ·cases q
   ·exact .inr (.inr (.inr (.inl q)))
   ·exact .inr (.inr (.inr (.inr q)))
  rcases hk with e|e|e
  ·refine h.kd k e ?_;rcases OH with q|q|q|q|q
   ·exact .inl q
   ·exact .inr (.inl q)
   ·exact .inr (.inr (.inl q))
   ·exact .inr (.inr (.inr (.inr (.inr (.inl q)))))
   ·exact .inr (.inr (.inr (.inr (.inr (.inr q)))))
  ·obtain⟨a1,a2,a3,a4,a5,a6⟩:=h.ap.m k e;rcases OH with q|q|q|q|q
   ·exact a1 q
   ·exact a2 q
   ·exact a3 q
   ·exact a5 q
   ·exact a6 q
  ·obtain⟨a1,a2,a3,a4,a5,a6⟩:=h.ap.a k e;rcases OH with q|q|q|q|q
   ·exact a1 q
   ·exact a2 q
   ·exact a3 q
   ·exact a5 q
   ·exact a6 q
 o1:=h.o1
 o2:=h.o2
 o3:=h.o3
 o4:=h.o4
def Qh (R:Ending→World→Prop) (nb xb:Nat) (w:World) (X:XS):Prop:=(jn (fun (y1:Value) (y2:Value) (w1:World) (X1:XS)=>
un (cj y1 0 3) fun u1=>
un (cj y2 0 2) fun u2=>
aB (ao [y1,y2,(.agg #[(I 0)])] bH) (fin R X1 w1 (Value.tuple #[u1,u2,(I 0)]))) fun k1=>
((And
(aC pg X w (aF (ptr xb 0)) fun x1=>
(And
(ae pg X w (aS aT 0 0 3 x1) fun x2=>
(And
(ae pg X w (dY 27 3 x2) fun x3=>
(eC pg R X w true 35 #[ptr nb 0] fun x4 w2 X2=>
(un (ai (aa x3)) fun u3=>
aB (aj (ad (aa x3))==3) (aB (ao (ad (aa x3)) aR.one) ((un (ai (aa x4)) fun u4=>
aB (aj (ad (aa x4))==2) (aB (ao (ad (aa x4)) aR.one) (k1 u3 u4 w2 X2))))))))
(eC pg R X w true 35 #[ptr nb 0] fun x5 w3 X3=>
(ae pg X3 w3 (dY 27 3 x2) fun x6=>
(un (ai (aa x6)) fun u5=>
aB (aj (ad (aa x6))==3) (aB (ao (ad (aa x6)) aR.one) ((un (ai (aa x5)) fun u6=>
aB (aj (ad (aa x5))==2) (aB (ao (ad (aa x5)) aR.one) (k1 u5 u6 w3 X3))))))))))
(eC pg R X w true 35 #[ptr nb 0] fun x7 w4 X4=>
(ae pg X4 w4 (aS aT 0 0 3 x1) fun x8=>
(ae pg X4 w4 (dY 27 3 x8) fun x9=>
(un (ai (aa x9)) fun u7=>
aB (aj (ad (aa x9))==3) (aB (ao (ad (aa x9)) aR.one) ((un (ai (aa x7)) fun u8=>
aB (aj (ad (aa x7))==2) (aB (ao (ad (aa x7)) aR.one) (k1 u7 u8 w4 X4)))))))))))
(eC pg R X w true 35 #[ptr nb 0] fun x10 w5 X5=>
(aC pg X5 w5 (aF (ptr xb 0)) fun x11=>
(ae pg X5 w5 (aS aT 0 0 3 x11) fun x12=>
(ae pg X5 w5 (dY 27 3 x12) fun x13=>
(un (ai (aa x13)) fun u9=>
aB (aj (ad (aa x13))==3) (aB (ao (ad (aa x13)) aR.one) ((un (ai (aa x10)) fun u10=>
aB (aj (ad (aa x10))==2) (aB (ao (ad (aa x10)) aR.one) (k1 u9 u10 w5 X5)))))))))))))
theorem adL {R:Ending→World→Prop} {w0:World} {F:XS} {cb:Nat} (hT:Ft w0 F w X (fun k=>cF nb xb c.ab vm va vw aN k∨k=cb)) (h:fu w K nb xb c x vm va vw aN al rm ra rw ms ws [])
  (n: ∀w9 X9,Ft w0 F w9 X9 (fun k=>cF nb xb c.ab vm va vw aN k∨k=cb)→a7 w9 (· =nb) nb (uj c aN aN) nT→(∀k,X k→X9 k∧(k≠nb→w9.heap[k]? =w.heap[k]?))→fin R X9 w9 (.tuple #[x.dK.v,.agg #[vm,va],I 0])):Qh R nb xb w X:=by
 unfold Qh;have jo:=h.act.mono fun k e=>hT.bK k (.inl (.inr (.inl e)));have nB:=h.ap.nx;have ovm:=h.om.sl.one;have ova:=h.oa.sl.one;have told: ∀{w8:World} {X8:XS} {N:Value→World→XS→Prop},ak X w X8 w8→(∀w9 X9,Ft w0 F w9 X9 (fun k=>cF nb xb c.ab vm va vw aN k∨k=cb)→a7 w9 (· =nb) nb (uj c aN aN) nT→(∀k,X k→X9 k∧(k≠nb→w9.heap[k]? =w.heap[k]?))→N (.agg #[vm,va]) w9 X9)→
   eC pg R X8 w8 true 35 #[ptr nb 0] N:=fun {w8 X8 N} mi k=>by
  have oe:=hT.since mi;have hnX:=hT.bK nb (.inl (.inl rfl));have YH:a7 w8 (· =nb) nb (uj c vm va) nT:=h.row.mv fun k af _=>⟨af,by rw [af];exact mi.kp.block _ hnX⟩;refine oe.call (I7 (Y:=(· =nb)) YH (fun k af=>by subst af;exact⟨mi.sub _ hnX,mi.has _ (mi.sub _ hnX)⟩) h.o1 ovm ova) kQ (fun k e=>.inl (.inl e)) fun v C8 w9 X9 hq hle fO lU c9=>?_;obtain⟨rfl,wP⟩:=hq;exact k _ _ (lU.less fun k e=>.inl e) wP fun k af=>⟨c9.sub k (mi.sub k af),fun du=>(c9.block k (mi.sub k af) du).trans (mi.kp.block k af)⟩
 have hs:=ak.ct hT.s.has;refine mn (Q:=fun Kx=> ∀w9 X9,Ft w0 F w9 X9 (fun k=>cF nb xb c.ab vm va vw aN k∨k=cb)→a7 w9 (· =nb) nb (uj c aN aN) nT→(∀k,X k→X9 k∧(k≠nb→w9.heap[k]? =w.heap[k]?))→Kx (.agg #[I x.dK.gN,I x.dK.ga,I x.dK.sq]) (.agg #[vm,va]) w9 X9) ?_ fun Kx hKx=>?_
 ·intro w9 X9 lU wP mX;have hq:=n w9 X9 lU wP mX;clear hs n;have hs:=ak.ct lU.s.has;repeat' first|refine aL ?_;intros
  exact hq
 ·have adM: ∀{w9:World} {X9:XS},(∀k,X k→X9 k∧(k≠nb→w9.heap[k]? =w.heap[k]?))→a7 w9 X9 xb (Cg x vw) aT:=fun {w9 X9} mX=>⟨(mX xb jo.1).1,((mX xb jo.1).2 nB.symm).trans jo.2⟩;have ld: ∀{w9:World} {X9:XS} {N:Value→Prop},(∀k,X k→X9 k∧(k≠nb→w9.heap[k]? =w.heap[k]?))→N (.agg #[I x.dK.gN,I x.dK.ga,I x.dK.sq])→ae pg X9 w9 (dY 27 3 (ptr xb 0)) N:=fun {w9 X9 N} mX k=>by
   have hc9:=(adM mX).cells.part 0 3;exact ZR hc9 (Mv.refl _ _) kQ rfl k
  refine⟨?_,?_⟩
  ·repeat' first|refine aL ?_;intros
   refine⟨?_,?_⟩
   ·repeat' first|refine aL ?_;intros
    refine⟨?_,?_⟩
    ·repeat' first|refine aL ?_;intros
     refine told hs fun w9 X9 lU wP mX=>?_;clear hs;have hs:=ak.ct lU.s.has;repeat' first|refine aL ?_;intros
     exact hKx _ _ lU wP mX
    ·rename_i o ho hc;subst ho;refine told hs fun w9 X9 lU wP mX=>ld mX ?_;clear hs;have hs:=ak.ct lU.s.has;repeat' first|refine aL ?_;intros
     exact hKx _ _ lU wP mX
   ·refine told hs fun w9 X9 lU wP mX=>?_;clear hs;have hs:=ak.ct lU.s.has;have ajD:=adM mX;repeat' first|refine aL ?_;intros
    exact hKx _ _ lU wP mX
  ·refine told hs fun w9 X9 lU wP mX=>?_;clear hs;have hs:=ak.ct lU.s.has;have ajD:=adM mX;repeat' first|refine aL ?_;intros
   exact hKx _ _ lU wP mX
structure afo (nb mb:Nat) (c:pj) (D:XS) (al:List (de×Nat)) (p:List fw) (ck:cx) (eh:Int) (ds:gK) (v:Value) (wa w':World) (xb:Nat) (x:oO) (vm va vw:Value) (K:XS) (mW:List (de×Nat)) (rm ra rw:List (List Value)) (ms ws:List dF) (um:cx):Prop where
  v:v= .tuple #[(⟨c.id,c.ga,c.ug+1⟩:de).v,.agg #[vm,va],I 0]
  mid:fu w' K nb xb { c with ug:=c.ug+1 } x aN aN vw aN mW [] [] rw [] ws []
  dK:x.dK=⟨c.id,c.ga,c.ug+1⟩
  om:Sl w' K 36 vm rm
  hm:jr w' K rm ms
  oa:Sl w' K 9 va ra
  US:a7 w' (· =c.cb) c.cb (kC um) kO
  f: ∀k,cF nb xb c.ab aN aN vw aN k→k=nb∨k=c.ab∨made wa w' k
  k1: ∀k,K k→D k∨made wa w' k
  k2: ∀k,D k→K k
  res:(ra.length=1∧(mD p ck eh ds≠0∨(dW 1 1 p=[]∧ ∀wr,¬xE p ds wr)))∨(ra=[]∧mD p ck eh ds=0∧mW=dR ⟨c.id,c.ga,c.ug+1⟩ xb al∧um=(ck.qS eh).1∧
    ((dW 1 1 p≠[]∧ms=(re ds p).map fun m=>(m.asked x).mc (20+c.id))∨
     (dW 1 1 p=[]∧ ∃wr,xE p ds wr∧x.pre=true∧x.vs=aN∧x.wL= .zero∧Sl w' K 1 x.vq (((fb ds wr).map (·.lH.id)).map I1)∧ms=(lW ds wr).map (fun m=>(m.asked x).mc (20+c.id))∧ws=(lW ds wr).map fun m=>m.asked x)))
def afp (nb mb:Nat) (c:pj) (D:XS) (al:List (de×Nat)) (p:List fw) (ck:cx) (eh:Int) (ds:gK) (v:Value) (wa w':World):Prop:=
 ∃xb x vm va vw K mW rm ra rw ms ws um,afo nb mb c D al p ck eh ds v wa w' xb x vm va vw K mW rm ra rw ms ws um
theorem Jn {a:Value} {p:List fw} {eh:Int} (kK:a7 w (· =nb) nb (uj c aN aN) nT) (DB:dS w (· =c.ab) nX c.ab (fun k:de=>k.v) nH al) (jM:a7 w (· =c.cb) c.cb (kC ck) kO) (Nc:gO w D c.Ar mb ds)
    (hW: ∀(i:Int) (r:dq),getM i ds=some r→r.id=i) (o1:aR.one c.cm=true) (hF:FX (fun k=>k=nb∨k=c.ab∨k=c.cb) X w) (hD:FX D X w) (hDF: ∀k,D k→k≠nb∧k≠c.ab∧k≠c.cb) (ha:Sl w A 5 a (p.map fw.l)) (hA: ∀k,A k→X k∧k≠nb∧k≠c.ab∧k≠c.cb) (Jd:p.length≤2^30)
    (hi:1≤c.id∧c.id≤2) (qI:0≤c.ug) (On:c.ug≤2^40) (hl:ck.ep<2^60) (IF: -(2^60)<ck.ep):
    Ct pg 8 #[ptr nb 0,I eh,a] w X (fun k=>k=nb∨k=c.ab∨k=c.cb) fun v wa w'=>afp nb mb c D al p ck eh ds v wa w':=by
  intro w0 hk;have hT:=hF.ft hk;have mL:=hF.kp hk;have LU:=hD.kp hk;replace kK:a7 w0 (· =nb) nb (uj c aN aN) nT:=kK.mv fun k af _=>⟨af,hk.block k (hF k (.inl af)).1⟩;replace DB:dS w0 (· =c.ab) nX c.ab (fun k:de=>k.v) nH al:=DB.mv fJ (fun k af _=>⟨af,hk.block k (hF k (.inr (.inl af))).1⟩) fun _ h=>h.elim;replace jM:a7 w0 (· =c.cb) c.cb (kC ck) kO:=jM.mv fun k af _=>⟨af,hk.block k (hF k (.inr (.inr af))).1⟩;replace Nc:=Nc.mv (hk.fi fun k af=>(hD k af).1);replace ha:=ha.mv (hk.fi fun k af=>(hA k af).1);clear hF hD hk;refine Jo (fun g hg=>?_) (fun ch w hh=>by obtain⟨v,he,_⟩:=hh;cases he) ?_
  · have e:Av Tryz.f8=some 31:=by kernel_rfl
    rw [e] at hg;cases hg;exact Xo
  unfold tC;have hs:=ak.init w0;have bJ:=kK.mono fun k e=>(mL k (.inl e)).1;repeat' first|refine aL ?_;intros
  refine qv (o:=2) bJ zQ kQ (by simp) rfl hs.has fun w1 X1 c1 uZ=>?_;have dU:=hT.fL (F':=fun k=>k=nb∨k=c.ab∨k=c.cb) c1 (fun k e=>.inl e) fun k e=>.inl e;obtain⟨d,hd⟩: ∃d:pj,d= { c with ug:=c.ug+1 } :=⟨_,rfl⟩;have mm:a7 w1 X1 nb (uj d aN aN) nT:=by rw [hd];exact uZ
  obtain⟨d1,d2,d3,d4,d5,d6,d7⟩:d.id=c.id∧d.ga=c.ga∧d.ug=c.ug+1∧d.ab=c.ab∧d.cb=c.cb∧d.Ar=c.Ar∧d.cm=c.cm:=by rw [hd];exact⟨rfl,rfl,rfl,rfl,rfl,rfl,rfl⟩
  have nE:Sl w1 X1 5 a (p.map fw.l):=ha.mv fun k af hl=>⟨c1.sub k hl,c1.block k hl (hA k af).2.1⟩;have UF:c.ab≠nb:=DB.eA kK;have adr:c.cb≠nb:=IZ jM kK kQ;have U5:c.ab≠c.cb:=DB.eA jM;have adN:dS w1 (· =c.ab) nX c.ab (fun k:de=>k.v) nH al:=DB.mv fJ (fun k af _=>⟨af,c1.block k (mL k (.inr (.inl af))).1 (by rw [af];exact UF)⟩) fun _ h=>h.elim;have KU:a7 w1 (· =c.cb) c.cb (kC ck) kO:=jM.mv fun k af _=>⟨af,c1.block k (mL k (.inr (.inr af))).1 (by rw [af];exact adr)⟩;have afq:gO w1 D c.Ar mb ds:=Nc.mv fun k af _=>⟨af,c1.block k (LU k af).1 (hDF k af).1⟩;have YI:FX (fun k=>k=nb∨k=c.ab∨k=c.cb) X1 w1:=dU.fx fun _ h=>h;have yC:FX D X1 w1:=fun k af=>⟨c1.sub k (LU k af).1,c1.has k (c1.sub k (LU k af).1)⟩;clear hs bJ uZ ha DB jM Nc hT kK;have hs:=ak.ct dU.s.has;repeat' first|refine aL ?_;intros
  refine dp (Xr nE zQ) kQ hs.has ?_;rintro vp zI w2 X2 q2 qP nW bT;obtain⟨t1,t2,t3,rfl⟩:=q2.sl.form;have ovp:=q2.sl.one;clear hs;have hs:=ak.ct bT.has;repeat' first|refine aL ?_;intros|(with_reducible apply nZ);(case hX=>exact hs.has);intro bx w X gh au bJ;have bR:=hs.trans au;replace hs:=ak.ct au.has
  have Ei:=bT.trans au;have R8:Own w X w1.heap.size _ 5 (.slice t1 t2 t3) _:=(q2.up nW qP).since au;have ald: ∀k,cZ (.slice t1 t2 t3) k→k<w2.heap.size:=fun k af=>(q2.ge af).2;have AN:=bT.kp.size;have U6:=dU.s.kp.size;have hz3:=Ei.kp.size;obtain⟨x0,U7⟩: ∃x0:oO,x0=⟨⟨d.id,d.ga,d.ug⟩,.slice t1 t2 t3,.zero,0,aN,false,aN,.zero⟩:=⟨_,rfl⟩;have h3:fu w (fun k=>D k∨cZ (.slice t1 t2 t3) k) nb bx d x0 aN aN aN aN al [] [] [] [] [] []:=by
    refine⟨⟨rfl,(Ei.kp.block nb mm.1).trans mm.2⟩,⟨rfl,by rw [U7];exact bJ.2⟩,?_,Own.nil _ _ _ _ _,Own.nil _ _ _ _ _,Own.nil _ _ _ _ _,Own.nil _ _ _ _ _,jr.nil _ _,jr.nil _ _,fun g hg=>(by cases hg),fun k af hf=>?_,by rw [d7];exact o1,by rw [U7];exact ovp,by rw [U7];rfl,by rw [U7];rfl⟩
    · rw [d4];exact adN.mv fJ (fun k af _=>⟨af,Ei.kp.block k (YI k (.inr (.inl af))).1⟩) fun _ h=>h.elim
    · have dz:k<bx:=by
        rcases af with e|e
        · have:=(yC k e).2;omega
        · have:=ald k e;omega
      rcases hf with q|q|q|q|q|q|q
      · rcases af with e|e
        · exact(hDF k e).1 q
        · have:=(R8.ge e).1;have:=mm.lt;omega
      · omega
      · rw [d4] at q
        rcases af with e|e
        · exact(hDF k e).2.1 q
        · have:=(R8.ge e).1;have:=adN.x.2;omega
      · cases q
      · cases q
      · cases q
      · cases q
  have dE:Ft w0 (fun k=>k=nb∨k=c.ab∨k=c.cb) w X (fun k=>cF nb bx d.ab aN aN aN aN k∨k=c.cb):=(dU.since Ei).more fun k af=>by
    rcases af with(q|q|q|q|q|q|q)|q
    · exact .inl (.inl q)
    · exact .inr (by subst q;exact⟨bJ.1,by omega⟩)
    · exact .inl (.inr (.inl (by rw [←d4];exact q)))
    · cases q
    · cases q
    · cases q
    · cases q
    · exact .inl (.inr (.inr q))
  have kY:FX (fun k=>D k∨cZ (.slice t1 t2 t3) k) X w:=fun k af=>af.elim (fun e=>⟨Ei.sub k (yC k e).1,Ei.has k (Ei.sub k (yC k e).1)⟩) fun e=>⟨R8.2.2 k e,(R8.ge e).2⟩;have Qe:Sl w (fun k=>D k∨cZ (.slice t1 t2 t3) k) 5 x0.vp (p.map fw.l):=by rw [U7];exact(th R8 fun k e=>.inr e).sl
  have TA:gO w (fun k=>D k∨cZ (.slice t1 t2 t3) k) d.Ar mb ds:=by rw [d6];exact afq.mv fun k af _=>⟨.inl af,Ei.kp.block k (yC k af).1⟩
  have ajE:a7 w (· =c.cb) c.cb (kC ck) kO:=KU.mv fun k af _=>⟨af,Ei.kp.block k (YI k (.inr (.inr af))).1⟩;have ahB:X c.cb:=dE.bK _ (.inr rfl);have pq: ∀k,(D k∨cZ (.slice t1 t2 t3) k)→D k∨w0.heap.size≤k:=fun k af=>af.imp id fun e=>by have:=(R8.ge e).1;omega
  have U9: ¬(D c.cb∨cZ (.slice t1 t2 t3) c.cb):=fun af=>af.elim (fun e=>(hDF _ e).2.2 rfl) fun e=>by have:=(R8.ge e).1;have:=KU.lt;omega
  generalize wO:(fun k=>D k∨cZ (.slice t1 t2 t3) k)=K3 at h3 kY Qe TA;replace pq: ∀k,K3 k→D k∨w0.heap.size≤k:=fun k af=>pq k (by rw [←wO] at af;exact af);have xF: ∀k,D k→K3 k:=fun k af=>by rw [←wO];exact .inl af
  replace U9: ¬K3 c.cb:=by rw [←wO];exact U9
  clear hs bR au bT Ei bJ mm adN KU afq YI yC dU R8 q2 wO c1 mL LU nE;have ahC:=h3.fx;refine dE.call (SM (eh:=eh) h3 (dE.fx fun k e=>.inl e) kY d5 ⟨ahB,ajE.2⟩ U9 hl IF Qe TA hW) kQ (fun k e=>e.elim (fun e=>.inl (.inr (.inl e))) .inr) fun v mw w4 X4 hq4 qh lL fm c4=>?_;obtain⟨⟨vg,rfl,ovg,yF⟩,⟨um,TB,yJ⟩,⟨st,h4,ed⟩⟩:=hq4;obtain⟨x1,hx1⟩: ∃x1:oO,x1= { x0 with st:=st } :=⟨_,rfl⟩;rw [←hx1] at h4;obtain⟨x1a,x1b,x1c,x1d,x1e,x1f,x1g⟩:x1.dK=⟨d.id,d.ga,d.ug⟩∧x1.vp=x0.vp∧x1.st=st∧x1.vs=aN∧x1.pre=false∧x1.vq=aN∧x1.wL= .zero:=by rw [hx1,U7];exact⟨rfl,rfl,rfl,rfl,rfl,rfl,rfl⟩
  have nq:Ft w0 (fun k=>k=nb∨k=c.ab∨k=c.cb) w4 X4 (fun k=>cF nb bx d.ab aN aN aN aN k∨k=c.cb):=fm.less fun k e=>.inl e;have amC:w0.heap.size≤bx:=by omega
  have Cj:FX K3 X4 w4:=fun k af=>⟨c4.sub k (kY k af).1,c4.has k (c4.sub k (kY k af).1)⟩;have OS:x1.dK=⟨c.id,c.ga,c.ug+1⟩:=by rw [x1a,d1,d2,d3]
  have ZS:X4 c.cb:=c4.sub _ ahB;have MY: ∀{w5:World} {X5 K5:XS} {x5:oO} {vm va vw:Value} {al5:List (de×Nat)} {rm ra rw:List (List Value)} {ms ws:List dF},Ft w0 (fun k=>k=nb∨k=c.ab∨k=c.cb) w5 X5 (fun k=>cF nb bx d.ab vm va vw aN k∨k=c.cb)→fu w5 K5 nb bx d x5 vm va vw aN al5 rm ra rw ms ws []→FX K5 X5 w5→
      x5.dK=x1.dK→a7 w5 (· =c.cb) c.cb (kC um) kO→(∀k,K5 k→D k∨w0.heap.size≤k)→(∀k,D k→K5 k)→
      (∀{w9:World},Mv K5 w5 (fun k=>K5 k∨cZ vm k∨cZ va k) w9→(ra.length=1∧(mD p ck eh ds≠0∨(dW 1 1 p=[]∧ ∀wr,¬xE p ds wr)))∨(ra=[]∧mD p ck eh ds=0∧al5=dR ⟨c.id,c.ga,c.ug+1⟩ bx al∧um=(ck.qS eh).1∧
    ((dW 1 1 p≠[]∧ms=(re ds p).map fun m=>(m.asked x5).mc (20+c.id))∨
     (dW 1 1 p=[]∧ ∃wr,xE p ds wr∧x5.pre=true∧x5.vs=aN∧x5.wL= .zero∧Sl w9 (fun k=>K5 k∨cZ vm k∨cZ va k) 1 x5.vq (((fb ds wr).map (·.lH.id)).map I1)∧ms=(lW ds wr).map (fun m=>(m.asked x5).mc (20+c.id))∧ws=(lW ds wr).map fun m=>m.asked x5))))→
      Qh (xv (fun k=>k=nb∨k=c.ab∨k=c.cb) w0 fun v w'=>afp nb mb c D al p ck eh ds v w0 w') nb bx w5 X5:=by
    intro w5 X5 K5 x5 vm va vw al5 rm ra rw ms ws ff h5 Hy Jb Gq ale alf tD;refine adL ff h5 fun w9 X9 lU wP mX=>?_;refine lU.fin fun wa bk=>?_;have hcF: ∀k,cF nb bx d.ab vm va vw aN k→X5 k:=fun k af=>ff.bK k (.inl af);have yD:Mv K5 w5 K5 wa:=fun k af _=>by
      obtain⟨q1,q2⟩:=mX k (Hy k af).1;exact⟨af,(bk.block k q1).trans (q2 fun e=>h5.kd k af (.inl e))⟩
    have hblk: ∀k,cF nb bx d.ab vm va vw aN k→k≠nb→wa.heap[k]? =w5.heap[k]? :=fun k af du=>by
      obtain⟨q1,q2⟩:=mX k (hcF k af);exact(bk.block k q1).trans (q2 du)
    have alg:X9 nb:=(mX nb (hcF nb (.inl rfl))).1;have Md:=h5.told (w':=wa) (wP.mv fun k af _=>⟨af,by rw [af];exact bk.block _ alg⟩) hblk yD;have alh:c.cb≠nb:=adr;have ali:X5 c.cb:=ff.bK _ (.inr rfl);have ZT:a7 wa (· =c.cb) c.cb (kC um) kO:=Gq.mv fun k af _=>⟨af,by
      rw [af];obtain⟨q1,q2⟩:=mX c.cb ali;exact(bk.block _ q1).trans (q2 alh)⟩
    have fK: ∀k,X5 k→k<wa.heap.size:=fun k af=>aH (lU.s.has k (mX k af).1) bk.size;have hm9: ∀{k9:XS},(∀k,k9 k→cF nb bx d.ab vm va vw aN k∧k≠nb)→Mv k9 w5 k9 wa:=fun {k9} hq k af _=>⟨af,hblk k (hq k af).1 (hq k af).2⟩;refine⟨bx,x5,vm,va,vw,fun k=>K5 k∨cZ vm k∨cZ va k,al5,rm,ra,rw,ms,ws,um,?_,by rw [←hd];exact Md,by rw [Jb,OS],?_,?_,?_,ZT,fun k af=>?_,fun k af=>?_,fun k af=>.inl (alf k af),tD fun k af hl=>⟨.inl af,(yD k af hl).2⟩⟩
    · rw [Jb,OS]
    · exact(h5.om.mv (hm9 fun k af=>⟨.inr (.inr (.inr (.inl af))),(h5.ap.m k af).1⟩)).sl.mono fun k af=>.inr (.inl af)
    · exact h5.hm.mv fun k af hl=>⟨.inl af,(yD k af hl).2⟩
    · exact(h5.oa.mv (hm9 fun k af=>⟨.inr (.inr (.inr (.inr (.inl af)))),(h5.ap.a k af).1⟩)).sl.mono fun k af=>.inr (.inr af)
    · have rV:cF nb bx d.ab vm va vw aN k:=by
        rcases af with q|q|q|q|q|q|q
        · exact .inl q
        · exact .inr (.inl q)
        · exact .inr (.inr (.inl (by rw [d4];exact q)))
        · cases q
        · cases q
        · exact .inr (.inr (.inr (.inr (.inr (.inl q)))))
        · cases q
      rcases ff.v k (.inl rV)with(e|e|e)|e
      · exact .inl e
      · exact .inr (.inl e)
      · exact(h5.Bu (Y:=(· =c.cb)) Gq (by rw [←e];exact rV)).elim
      · exact .inr (.inr ⟨e,fK k (hcF k rV)⟩)
    · rcases af with e|e|e
      · exact(ale k e).imp id fun q=>⟨q,fK k (Hy k e).1⟩
      · have rV:cF nb bx d.ab vm va vw aN k:=.inr (.inr (.inr (.inl e)))
        rcases ff.v k (.inl rV)with(q|q|q)|q
        · exact((h5.ap.m k e).1 q).elim
        · exact((h5.ap.m k e).2.2.1 (by rw [d4];exact q)).elim
        · exact(h5.Bu (Y:=(· =c.cb)) Gq (by rw [←q];exact rV)).elim
        · exact .inr ⟨q,fK k (hcF k rV)⟩
      · have rV:cF nb bx d.ab vm va vw aN k:=.inr (.inr (.inr (.inr (.inl e))))
        rcases ff.v k (.inl rV)with(q|q|q)|q
        · exact((h5.ap.a k e).1 q).elim
        · exact((h5.ap.a k e).2.2.1 (by rw [d4];exact q)).elim
        · exact(h5.Bu (Y:=(· =c.cb)) Gq (by rw [←q];exact rV)).elim
        · exact .inr ⟨q,fK k (hcF k rV)⟩
  have hs:=ak.ct fm.s.has;by_cases he:mD p ck eh ds≠0
  · repeat' first|refine bD ?_;intros
    refine nq.call (zz (code:=mD p ck eh ds) (t:=.zero) (st:=.zero) (on:=false) (vs:=aN) h4 (nq.fx fun k e=>.inl e) Cj rfl (by simp)) kQ (fun k e=>.inl e) fun v YC w5 X5 hq5 Qf Jg ff c5=>?_;obtain⟨ic,hC5,h5⟩:=hq5;refine MY (ff.less fun k e=>e.elim (fun e=>(hC5 k e).imp .inl id) fun e=>.inl (.inr e)) h5 (fun k af=>⟨c5.sub k (Cj k af).1,c5.has k (c5.sub k (Cj k af).1)⟩) rfl (TB.mv fun k af _=>⟨af,by rw [af];exact c5.block _ ZS fun e=>h4.Bu TB e⟩) pq xF fun _=>.inl ⟨by simp,.inl he⟩
  · have yI:mD p ck eh ds=0:=by omega
    have Mc:=yF yI;change en w4 (made mw w4) 5 vg ki.rd (jG ds p)at Mc;have Ci:iN p=0:=by
      unfold mD at yI;split at yI
      · rename_i h9;exact absurd yI h9
      · omega
    have ahD:(gp ds [] (dW 1 1 p)).2=0:=by
      unfold mD at yI;split at yI
      · rename_i h9;exact absurd yI h9
      · split at yI
        · rename_i h9;exact absurd yI h9
        · exact yI
    have fe:(jG ds p).length≤40:=by
      have h1:=MZ (ds:=ds) (keys:=dW 1 1 p) (m:=[]);have h2:=Dw (a:=1) (b:=1) (p:=p);have h3:=(zS Ci).1;unfold jG jZ;rw [aI,(ml _).length_eq,aI];simp only [bL] at h1;omega
    have DC:fu w4 (fun k=>K3 k∨made mw w4 k) nb bx d x1 aN aN aN aN al [] [] [] [] [] []:=h4.mv (w':=w4) (fun k _=>rfl) (Mv.sub fun k af=>.inl af) fun k af hf=>af.elim (fun e=>h4.kd k e hf) fun e=>by have:=ahC k hf;have:=e.1;omega
    have Qi:FX (fun k=>K3 k∨made mw w4 k) X4 w4:=fun k af=>af.elim (Cj k) fun e=>⟨lL k e,e.2⟩;have ZU: ∀k,(K3 k∨made mw w4 k)→D k∨w0.heap.size≤k:=fun k af=>af.elim (pq k) fun e=>.inr (by have:=e.1;omega);have M6:en w4 (fun k=>K3 k∨made mw w4 k) 5 vg ki.rd (jG ds p):=en.mv Mc ki.mv (Mv.sub fun k e=>.inr e);have ZV:gO w4 (fun k=>K3 k∨made mw w4 k) d.Ar mb ds:=TA.mv fun k af _=>⟨.inl af,c4.block k (kY k af).1 fun e=>e.elim (fun e=>h4.kd k af (.inr (.inl e))) fun e=>U9 (by rw [←e];exact af)⟩;have adO:Sl w4 (fun k=>K3 k∨made mw w4 k) 5 x1.vp (p.map fw.l):=by rw [x1b];exact Qe.mv fun k af _=>⟨.inl af,c4.block k (kY k af).1 fun e=>e.elim (fun e=>h4.kd k af (.inr (.inl e))) fun e=>U9 (by rw [←e];exact af)⟩
    generalize wO:(fun k=>K3 k∨made mw w4 k)=K4 at DC Qi M6 ZV adO;replace ZU: ∀k,K4 k→D k∨w0.heap.size≤k:=fun k af=>ZU k (by rw [←wO] at af;exact af);have ZW: ∀k,D k→K4 k:=fun k af=>by rw [←wO];exact .inl (xF k af)
    have vK:=DC.row.mono fun k e=>nq.bK k (.inl (.inl e));have Gi:=DC.act.mono fun k e=>nq.bK k (.inl (.inr (.inl e)));have ap:=DC.ap;clear h4 Cj Mc yF ahC Qe TA kY h3 dE fm c4;repeat' first|refine bD ?_;intros
    refine tf (kv:=fun k:de=>k.v) (k:=x1.dK) (a:=bx) (et:=110) (pd DC.am (Y:=X4) (nq.bK _ (.inl (.inr (.inr (.inl rfl)))))) fJ (show nH w4 nX (ptr bx 0) bx from rfl) (fun _ h=>h.elim) BJ kQ nq.s.has fun w5 X5 c5 B8=>?_;have Nd:=DC.step (c':=d) (x':=x1) (gr:=aN) (ic:=aN) (fy:=aN) (j6:=aN) (mW:=dR x1.dK bx al) (kV:=[]) (uk:=[]) (oP:=[]) (uU:=[]) (uV:=[]) (Dt:=[]) (fun k af=>nq.bK k (.inl af)) (fun k af=>(Qi k af).1) nq.s.has (fun k=>k=d.ab) c5 (fun k af=>.inr (.inr (.inl af))) rfl
      (.inl ⟨fun e=>ap.an e.symm,rfl⟩) (.inl ⟨fun e=>ap.ax e.symm,rfl⟩) (.inr B8) (.inl ⟨fun g hg e=>(ap.m g hg).2.2.1 e,rfl,rfl⟩) (.inl ⟨fun g hg e=>(ap.a g hg).2.2.1 e,rfl,rfl⟩) (.inl ⟨fun g hg e=>(ap.w g hg).2.2.1 e,rfl,rfl⟩) (.inl ⟨fun g hg e=>(ap.p g hg).2.2.1 e,rfl,rfl⟩) DC.hm DC.hw DC.o1 DC.o2 DC.o3 DC.o4
    have h5:=Nd.1;have M9:c.cb≠d.ab:=fun e=>U5 (by rw [←d4];exact e.symm);have ff:=nq.fL (F':=fun k=>cF nb bx d.ab aN aN aN aN k∨k=c.cb) c5 (fun k af=>.inl (.inr (.inr (.inl af)))) fun k af=>.inl af;have Hy:FX K4 X5 w5:=fun k af=>⟨c5.sub k (Qi k af).1,c5.has k (c5.sub k (Qi k af).1)⟩;have Ja:Mv K4 w4 K4 w5:=fun k af _=>⟨af,c5.block k (Qi k af).1 fun e=>DC.kd k af (.inr (.inr (.inl e)))⟩;have M7:=en.mv M6 ki.mv Ja;have OT:=ZV.mv Ja;have ahE:=adO.mv Ja;have Gq:a7 w5 (· =c.cb) c.cb (kC um) kO:=TB.mv fun k af _=>⟨af,by rw [af];exact c5.block _ ZS M9⟩;clear hs Nd c5 B8 vK Gi ap DC Qi M6 ZV adO TB Ja nq ZS wO;have hs:=ak.ct ff.s.has;have Gj:=en.mv M7 ki.mv (Mv.sub fun k af=>(Hy k af).1);have B9:(re ds p).length=(jG ds p).length:=by simp [re]
    repeat' first|refine aL ?_;intros
    refine fQ (fun n a w X=> ∃(i:Nat) (gr fy:Value) (kV oP:List (List Value)) (K':XS),a=I (i:Nat)∧n=(jG ds p).length-i∧i≤(jG ds p).length∧Ft w0 (fun k=>k=nb∨k=c.ab∨k=c.cb) w X (fun k=>cF nb bx d.ab gr aN fy aN k∨k=c.cb)∧(∀k,D k→K' k)∧(∀k,K' k→D k∨w0.heap.size≤k)∧FX K' X w∧
      fu w K' nb bx d x1 gr aN fy aN (dR x1.dK bx al) kV [] oP (((re ds p).take i).map (fun m=>(m.asked x1).mc (20+d.id))) (((re ds p).take i).map fun m=>m.asked x1) []∧kV.length=i∧oP.length=i∧
      en w K' 5 vg ki.rd (jG ds p)∧gO w K' d.Ar mb ds∧Sl w K' 5 x1.vp (p.map fw.l)∧a7 w (· =c.cb) c.cb (kC um) kO) (jG ds p).length ⟨0,aN,aN,[],[],K4,rfl,rfl,aG _,ff,ZW,ZU,Hy,by simpa using h5,rfl,rfl,M7,OT,ahE,Gq⟩ ?_
    clear hs ff h5 Hy M7 OT ahE Gq Gj ZU ZW;rintro n _ w6 X6 ⟨i,vm6,vw6,rm6,rw6,K6,rfl,rfl,hi6,eX,Qb,Qc,gZ,h6,akZ,ak0,Ck,afr,ahF,OU⟩;have hs:=ak.ct eX.s.has;have Gj:=en.mv Ck ki.mv (Mv.sub fun k af=>(gZ k af).1);have ahG:X6 c.cb:=eX.bK _ (.inr rfl);rcases ew (jG ds p) i with⟨dz,g,hx,hd⟩|⟨dV,hd⟩
    · repeat' first|refine bD ?_;intros
      refine Bt Ck hx rfl kQ kQ fun bb oo ll AO qs=>?_;obtain⟨EU,rfl,Jc⟩:=qs;obtain⟨s1,s2,s3,rfl⟩:=Jc.form;have ovk:aR.one (.slice s1 s2 s3)=true:=Jc.one;replace AO:Cells w6 X6 bb oo [I g.lH.id,I g.lH.gx,.float .f64 g.lH.lo,.float .f64 g.lH.hi,.slice s1 s2 s3]:=Cells.mv AO (Mv.sub fun k af=>(gZ k af).1);repeat' first|refine aL ?_;intros
      have hm8:(xJ g).at w6 K6 (.slice s1 s2 s3) aN aN aN aN aN aN aN:=⟨Jc,Sl.nil _ _ _,Sl.nil _ _ _,Sl.nil _ _ _,Sl.nil _ _ _,en.nil _ _ _,en.nil _ _ _,en.nil _ _ _⟩;have hpx:(re ds p)[i]? =some (xJ g):=by unfold re;rw [List.getElem?_map,hx];rfl
      have hgk:g.keys.length≤40:=by
        have h1:=OO (Mi 1 1 p) ahD;have h2:=OR (List.mem_map.2 ⟨g,List.mem_of_getElem? hx,rfl⟩:g.keys.length∈(jG ds p).map fun g=>g.keys.length);have h3:=Dw (a:=1) (b:=1) (p:=p);have h4:=(zS Ci).1;change ((jG ds p).map fun g=>g.keys.length).sum=_ at h1;omega
      have hf8:(xJ g).few:=⟨ah hgk (by decide),by simp [xJ,uG],by simp [xJ,uG],by simp [xJ,uG]⟩;refine eX.call (L9 (m:=xJ g) h6 (eX.fx fun k e=>.inl e) gZ hm8 hf8 (by rw [d1];exact hi) zQ zQ) kQ (fun k e=>.inl e) fun v C8 w9 X9 Me ZL Je lU c9=>?_;obtain⟨vm9,vw9,rm9,rw9,K9,hC9,Jf,Gm,h9,wP,ak6⟩:=Me;have tA:Ft w0 _ w9 X9 (fun k=>cF nb bx d.ab vm9 aN vw9 aN k∨k=c.cb):=lU.less fun k e=>e.elim (fun e=>(hC9 k e).imp .inl id) fun e=>.inl (.inr e);have Eg:Mv K6 w6 K9 w9:=fun k af _=>⟨Gm k af,c9.block k (gZ k af).1 (h6.kd k af)⟩;have ZT:a7 w9 (· =c.cb) c.cb (kC um) kO:=OU.mv fun k af _=>⟨af,by rw [af];exact c9.block _ ahG fun e=>h6.Bu OU e⟩;have hz6:=eX.s.kp.size;clear hs;have hs:=ak.ct tA.s.has;repeat' first|refine aL ?_;intros
      exact fh ((jG ds p).length-(i+1)) zQ ⟨i+1,vm9,vw9,rm9,rw9,K9,by simp,rfl,by omega,tA,fun k af=>Gm k (Qb k af),fun k af=>(Jf k af).elim (Qc k) fun e=>.inr (by have:=e.1;omega),
        fun k af=>⟨(Jf k af).elim (fun e=>c9.sub k (gZ k e).1) (Je k),(Jf k af).elim (fun e=>tA.s.has k (c9.sub k (gZ k e).1)) fun e=>e.2⟩,
        by rw [cn,hpx];simp only [fj,bC,List.map_cons,List.map_nil];exact h9,by omega,by omega,en.mv Ck ki.mv Eg,afr.mv Eg,ahF.mv Eg,ZT⟩
    · rw [bq zQ] at h6
      repeat' first|refine bD ?_;intros
      refine dy ?_;have afs:(dW 1 1 p=[])↔(jG ds p).length=0:=by
        constructor
        · intro e;unfold jG jZ;rw [aI,(ml _).length_eq,aI,e];rfl
        · intro e
          have EA:=Dy hW ahD;cases hnm:dW 1 1 p with
          |nil=>rfl
          |cons k r=>
            obtain⟨g,hg,_⟩:=EA.rt k (by rw [hnm];simp);have:=r6 hg;change 0<(jG ds p).length at this;omega
      by_cases R9:(jG ds p).length=0
      · have DA:=afs.2 R9
        have alj:re ds p=[]:=List.length_eq_zero_iff.1 zQ;rw [alj] at h6;repeat' first|refine bD ?_;intros
        refine eX.call (UQ h6 (eX.fx fun k e=>.inl e) gZ x1e x1d x1f ahF afr hW DA (by rw [d1];exact hi) zQ (by simp) Ci) kQ (fun k e=>.inl e) fun v ET w7 X7 hq7 P6 Ee kF c7=>?_;obtain⟨x7,vm7,va7,vw7,K7,al7,rm7,ra7,rw7,ms7,ws7,hQ⟩:=hq7;have hz6:=eX.s.kp.size;refine MY (kF.less fun k e=>e.elim (fun e=>(hQ.f k e).imp .inl id) fun e=>.inl (.inr e)) hQ.mid (fun k af=>⟨(hQ.k1 k af).elim (fun e=>c7.sub k (gZ k e).1) (Ee k),(hQ.k1 k af).elim (fun e=>c7.has k (c7.sub k (gZ k e).1)) fun e=>e.2⟩) hQ.tx (OU.mv fun k af _=>⟨af,by rw [af];exact c7.block _ ahG fun e=>h6.Bu OU e⟩)
          (fun k af=>(hQ.k1 k af).elim (Qc k) fun e=>.inr (by have:=e.1;omega)) (fun k af=>hQ.k2 k (Qb k af)) fun {w9} yD=>?_
        rcases hQ.res with⟨h8,h9⟩|⟨wr,vq,hg,rfl,hvq,rfl,rfl,rfl,rfl,rfl⟩
        · exact .inl ⟨h8,.inr ⟨DA,h9⟩⟩
        · exact .inr ⟨rfl,yI,by rw [OS],yJ yI,.inr ⟨DA,wr,hg,rfl,x1d,x1g,hvq.mv yD,by rw [d1];rfl,rfl⟩⟩
      · repeat' first|refine bD ?_;intros
        refine MY eX h6 gZ rfl OU Qc Qb fun {w9} yD=>.inr ⟨rfl,yI,by rw [OS],yJ yI,.inl ⟨fun e=>R9 (afs.1 e),by rw [d1]⟩⟩
end
theorem Va {w:World} {X S G:XS} {nb db e:Nat} {L:LM} {m:DM} {r:Rec} {vr vw vp vq vh vd Cf vm va:Value} {c:pj} {bs:List Nat} (hb:a7 w S nb (Gf c Cf vm va) nT) (hg:Lg w G c.lb db L m) (Ub:Dj S G)
  (hS: ∀k,S k→X k) (o1:aR.one vm=true) (o2:aR.one va=true) (o3:aR.one c.cm=true) (o4:aR.one Cf=true) (hL:qJ L) (wE:L.eo.length≤2^29) (hG:FX G X w)
  (alk: ∀wa,Kp X w wa→Ct pg 80 #[r.v vr vw vp vq vh vd] wa (out G wa) nX fun v wb w'=>if e≠0 then v= .tuple #[.slice none 0 0,I e] else∃vb,v= .tuple #[vb,I 0]∧Own w' (made wb w') wb.heap.size 5 1 vb (bs.map U1))
  (h1:aR.one vr=true) (h2:aR.one vw=true) (h3:aR.one vp=true) (h4:aR.one vq=true) (h5:aR.one vh=true) (h6:aR.one vd=true)
  (hlk:qJ (LD.append ⟨L,m⟩ bs).1.L) (iy:(LD.jJ ⟨L,m⟩ e bs).2.2≠12):
  Ct pg 28 #[ptr nb 0,r.v vr vw vp vq vh vd] w X G fun v wa w'=>v=I (LD.jJ ⟨L,m⟩ e bs).2.2∧
   ∃G',(∀k,G' k→G k∨made wa w' k)∧Lg w' G' c.lb db (LD.jJ ⟨L,m⟩ e bs).1.L (LD.jJ ⟨L,m⟩ e bs).1.m:=by
 intro w0 hk;have R9:=hg.mv (hG.mv hk);have hT:=hG.ft hk;have mL:FX G (aV w0) w0:=hG.kp hk;have AL:a7 w0 S nb (Gf c Cf vm va) nT:=hb.mv fun k af _=>⟨af,hk.block k (hS k af)⟩;have hS0: ∀k,S k→out G w0 k∨w.heap.size≤k:=fun k af=>by
  by_cases h:k<w.heap.size
  ·exact .inl ⟨aH h hk.size,fun hf=>Ub k af hf⟩
  ·exact .inr (Nat.le_of_not_lt h)
 generalize hr:LD.jJ ⟨L,m⟩ e bs=q at iy⊢;unfold LD.jJ at hr;dsimp only at hr;have gh:a7 w0 (out G w0) nb (Gf c Cf vm va) nT:=⟨⟨AL.lt,fun hf=>Ub nb hb.1 hf⟩,AL.2⟩;have hb:=gh.mv hT.s.mv;apply Jp;unfold zV;refine dp ((alk w0 hk).since (hT.s)) kQ hT.s.has ?_;rintro ve qQ w1 X1 hq sk oR au;have dU:=hT.since au;have rT:=hb.since au;have hg1:Lg w1 G c.lb db L m:=R9.mv (au.fZ hT.bK);by_cases he:e≠0
 ·rw [if_pos he] at hq hr;subst hq;subst hr;dsimp only at iy⊢;repeat' first|refine bD ?_;intros|with_reducible apply dy
  exact dU.fin fun wa bk=>⟨rfl,G,dU.gX bk fun _ h=>h,hg1.mv (bk.fi dU.bK)⟩
 ·rw [if_neg he] at hq hr;obtain⟨vb,rfl,tp⟩:=hq;have ovb:=tp.sl.one;repeat' first|refine bD ?_;intros|with_reducible apply dy
  have hFG:FX G X1 w1:=dU.fx fun _ h=>h;refine dU.call (Vb hg1 hL zQ hFG tp.sl fun k af=>⟨oR k af,fun hf=>?_⟩) kQ (fun _ h=>h) fun v zI w2 X2 hq qP nW cX lF=>?_
  ·have:=(mL k hf).2;have:=af.1;omega
  obtain⟨rfl,G2,hG2,Jm⟩:=hq;generalize Hj:LD.append ⟨L,m⟩ bs=ap at hr hlk Jm⊢;have wH:a7 w2 X2 nb (Gf c Cf vm va) nT:=gh.mv cX.s.mv;by_cases hz:ap.2.2≠0
  ·rw [if_pos hz] at hr;subst hr;repeat' first|refine bD ?_;intros|with_reducible apply dy
   exact cX.fin fun wa bk=>⟨rfl,G2,cX.gX bk hG2,Jm.mv (bk.fi fun k af=>cX.bK k (hG2 k af))⟩
  ·rw [if_neg hz] at hr;have L8:(ap.2.2:Int)=0:=by omega
   repeat' first|refine bD ?_;intros|with_reducible apply dy
   refine cX.call (OV Jm hlk (cX.fx hG2)) kQ hG2 fun v uR w3 X3 hq ob mA dE rh=>?_;obtain⟨rfl,G3,hG3,Sa⟩:=hq;have eap:ap.1=⟨ap.1.L,ap.1.m⟩:=rfl;rw [eap] at hr;subst hr;generalize OW:LD.sync ⟨ap.1.L,ap.1.m⟩=sy at iy Sa⊢;have ahH: ∀k,G3 k→(G k∨made zI w2 k)∨made uR w3 k:=fun k af=>(hG3 k af).imp (hG2 k) id;repeat' first|refine aL ?_;intros|refine dM ?_ ?_<;>intros|with_reducible apply dy|(exfalso;have:sy.2≠12:=iy;omega)
   exact dE.fin fun wa bk=>⟨rfl,G3,dE.gX bk ahH,Sa.mv (bk.fi fun k af=>dE.bK k (ahH k af))⟩
theorem Rec.Jq (r:Rec):r.gD=0∨r.gD=2∨r.gD=4∨r.gD=7:=by
 have h:r.err=0∨r.err=4∨r.err=7:=by
  unfold Rec.err;split
  ·simp
  ·split<;>simp
 unfold Rec.gD;rcases h with h|h|h<;>rw [h]
 ·by_cases h:262144<(kD r).length<;>simp [h]
 ·simp
 ·simp
theorem LD.af2 {n:Nat} {x:LD} (h:GL n x) (r:Rec):(x.jJ r.gD.toNat (kD r)).2.2≠12∧GL (n+2) (x.jJ r.gD.toNat (kD r)).1:=by
 rcases r.Jq with e|e|e|e<;>rw [e]
 ·exact h.jJ _
 all_goals exact⟨by simp [LD.jJ],h.up zQ⟩
theorem af3 {w:World} {X:XS} {r:Rec} (h1:r.reads=[]) (h2:r.writes=[]) (h3:r.parts=[]) (h4:r.xp=[]) (h5:r.state= .zero):r.at w X aN aN aN aN aN aN:=by
 unfold Rec.at;rw [h1,h2,h3,h4,h5];exact⟨Sl.nil _ _ _,Sl.nil _ _ _,Sl.nil _ _ _,Sl.nil _ _ _,en.nil _ _ _,en.nil _ _ _⟩
theorem OX {r:Rec} (h1:r.reads=[]) (h2:r.writes=[]) (h5:r.state= .zero):r.small:=by
 refine⟨by simp [h1],by simp [h2],by simp [h1],by simp [h2],?_⟩;rw [h5];exact⟨by simp [State.zero,OY],by simp [State.zero,OZ],by simp [State.zero,aft],by simp [State.zero,afu]⟩
theorem HA {w:World} {X S T G:XS} {nb db n:Nat} {L:LM} {m:DM} {r:Rec} {vr vw vp vq vh vd Cf vm va:Value} {c:pj} (hb:a7 w S nb (Gf c Cf vm va) nT) (hg:Lg w G c.lb db L m) (Ub:Dj S G) (hS: ∀k,S k→X k) (o1:aR.one vm=true) (o2:aR.one va=true) (o3:aR.one c.cm=true) (o4:aR.one Cf=true) (hG:FX G X w)
  (fe:GL n ⟨L,m⟩) (hn:n≤900) (ef:r.at w T vr vw vp vq vh vd) (hT: ∀k,T k→X k∧ ¬G k) (mY:r.small) (hen:(kD r).length≤2^33):
  Ct pg 28 #[ptr nb 0,r.v vr vw vp vq vh vd] w X G fun v wa w'=>v=I (LD.jJ ⟨L,m⟩ r.gD.toNat (kD r)).2.2∧
   ∃G',(∀k,G' k→G k∨made wa w' k)∧Lg w' G' c.lb db (LD.jJ ⟨L,m⟩ r.gD.toNat (kD r)).1.L (LD.jJ ⟨L,m⟩ r.gD.toNat (kD r)).1.m:=by
 have hlen:=fe.len;refine Va (e:=r.gD.toNat) hb hg Ub hS o1 o2 o3 o4 (fe.lok zQ) (by show L.eo.length≤_;have:L.eo.length≤n:=hlen;omega) hG (fun wa hk=>?_) ef.1.one ef.2.1.one ef.2.2.1.one ef.2.2.2.1.one ef.2.2.2.2.1.one ef.2.2.2.2.2.one ((fe.append _).2.lok zQ) (LD.af2 fe r).1;have alm:r.at wa (out G wa) vr vw vp vq vh vd:=ef.mv fun k af IF=>⟨⟨aH IF hk.size,(hT k af).2⟩,hk.block k (hT k af).1⟩;refine(HB alm mY fun _=>hen).mono fun v wb w' _ hq=>?_;rcases r.Jq with e|e|e|e<;>rw [e] at hq⊢
 ·exact hq
 all_goals exact hq
structure CoN (w:World) (N D G:XS) (nb db mb:Nat) (c:pj) (ck:cx) (ds:gK) (al:List (de×Nat)) (L:LM) (m:DM):Prop where
 row:a7 w (· =nb) nb (uj c aN aN) nT
 am:dS w (· =c.ab) nX c.ab (fun k:de=>k.v) nH al
 bm:dS w (· =c.bb) nX c.bb (fun k:de=>k.v) nH []
 US:a7 w (· =c.cb) c.cb (kC ck) kO
 dir:gO w D c.Ar mb ds
 log:Lg w G c.lb db L m
 cm:c.cm=aN
 vf: ∀k,N k↔(k=nb∨k=c.ab∨k=c.bb∨k=c.cb∨D k)
 dj:Dj N G
 ne:c.ab≠c.bb
 dd: ∀k,D k→k≠nb∧k≠c.ab∧k≠c.bb∧k≠c.cb
def xK:Rec:=⟨8,.zero,.zero,.zero,false,1,0,[],[],[],[],.zero⟩
theorem Nf:xK.gD=0∧(kD xK).length≤900:=by
 have e1:=iZ 8;have e2:=iZ 1;have e3:kD xK=encI 8++encI 1:=by simp [kD,xK]
 have e4:xK.err=0:=by
  simp [Rec.err,xK,Rec.strip,Rec.isZero,Rec.tE,State.isZero,State.zero]
 have e5:(kD xK).length≤900:=by rw [e3,av];omega
 refine⟨?_,e5⟩;unfold Rec.gD;rw [if_neg (by simp [e4]),if_neg zQ]
def DD (l:List dq) (F:XS) (db:Nat) (v:Value) (wa w':World):Prop:=
 if qU l≠0 then v= .tuple #[.pointer none,I (qU l)] else∃nb c mb N D G L m,v= .tuple #[ptr nb 0,I 0]∧(∀k,N k→made wa w' k)∧(∀k,G k→F k∨made wa w' k)∧c.id=1∧c.ga=1∧c.ug=0∧
  CoN w' N D G nb db mb c ⟨0,0,21⟩ (l.foldl eH []) [] L m∧FO 1 ⟨L,m⟩
theorem HC {w:World} {X F:XS} {db:Nat} {a:Value} {l:List dq} (h:Dk w F db Oe) (hF:FX F X w) (ha:Sl w X 4 a (l.map dq.l)):
  Ct pg 6 #[ptr db 0,I 1,I 4096,a] w X F fun v wa w'=>DD l F db v wa w':=by
 intro w0 hk;replace h:=h.mv (hF.mv hk);replace ha:=ha.mv hk.dD;have hT:=hF.ft hk;have mL:FX F (aV w0) w0:=hF.kp hk;have hLL:=ac2 4096;have hGL:=ajn;refine Qj (RP:=fun _ _=>False) (show Vc Tryz.f6=some (26,[8,9])from by kernel_rfl) Xq ZX ?_;unfold HD;have hs:=ak.init w0;repeat' first|refine bD ?_;intros
 refine dp (abB ha) kQ hs.has ?_;rintro v1 qQ w1 X1 q1 sk oR au;have dU:=hT.since au;have h1:=h.mv (au.fZ fun k af=>(mL k af).1);have YI:FX F X1 w1:=fun k af=>⟨au.sub k (mL k af).1,au.has k (au.sub k (mL k af).1)⟩;clear hs;have hs:=ak.ct au.has;by_cases hc:qU l≠0
 ·rw [if_pos hc] at q1;subst q1;repeat' first|refine bD ?_;intros
  exact Yz (dU.fin fun wa bk=>by show DD l F db _ w0 wa;unfold DD;rw [if_pos hc])
 ·rw [if_neg hc] at q1;obtain⟨rb,mb,D,rfl,hD,Nc⟩:=q1;repeat' first|refine bD ?_;intros
  refine dU.call (Xc h1 YI rfl rfl (by decide) (by decide) (by decide) (by decide) (PX 4096).1) kQ (fun _ h=>h) fun v zI w2 X2 DE qP nW cX lF=>?_;obtain⟨lb,F2,rfl,YJ,g2⟩:=DE;change Lg w2 F2 lb db (xL 4096).L (xL 4096).m at g2;have U6:=au.kp.size;have qZ:Ft w0 F w2 X2 F2:=cX.less YJ;have ahI: ∀k,F k→k<w0.heap.size:=fun k af=>(mL k af).2;have yC:FX D X1 w1:=fun k af=>⟨oR k (hD k af),(hD k af).2⟩;have adP: ∀k,D k→ ¬F2 k:=fun k hd hf=>by
   have h9:=hD k hd;rcases YJ k hf with e|e
   ·have:=ahI k e;have:=h9.1;omega
   ·have:=e.1;have:=h9.2;omega
  have afv:gO w2 D rb mb (l.foldl eH []):=Nc.mv fun k af _=>⟨af,lF.block k (yC k af).1 fun e=>by have:=ahI k e;have:=(hD k af).1;omega⟩;have IG:FX D X2 w2:=fun k af=>⟨lF.sub k (yC k af).1,lF.has k (lF.sub k (yC k af).1)⟩;have aln: ∀k,D k→w0.heap.size≤k:=fun k af=>by have:=(hD k af).1;omega
  have AN:=lF.size;clear hs;have hs:=ak.ct qZ.s.has;repeat' first|refine bD ?_;intros
  refine nD (kv:=fun k:de=>k.v) nH nX qZ.s.has fun ab w3 X3 ta ea kR=>?_;refine nD (kv:=fun k:de=>k.v) nH nX ea.has fun tb w4 X4 htb fq EO=>?_;clear hs;have hs:=ak.ct fq.has;repeat' first|refine aL ?_;intros|(with_reducible apply nZ);(case hX=>exact hs.has);intro bx w X gh au bJ;have bR:=hs.trans au;replace hs:=ak.ct au.has
  have Vd:=(ea.trans fq).trans au;have hz3:=ea.kp.size;have hz4:=fq.kp.size;have ff:Ft w0 F w X F2:=qZ.since Vd;have g5:Lg w F2 lb db (xL 4096).L (xL 4096).m:=g2.mv (Vd.fZ qZ.bK);have OT:gO w D rb mb (l.foldl eH []):=afv.mv (Vd.fZ fun k af=>(IG k af).1);have ahJ:X ab∧ab<w3.heap.size:=⟨au.sub _ (fq.sub _ kR.x.1),kR.x.2⟩;have ahK:X tb∧tb<w4.heap.size:=⟨au.sub _ EO.x.1,EO.x.2⟩;have ahL:dS w (· =ab) nX ab (fun k:de=>k.v) nH []:=(kR.own).mv fJ (fun k af _=>⟨af,by rw [af];exact(fq.trans au).kp.block _ kR.x.1⟩) fun _ h=>h.elim;have ahM:dS w (· =tb) nX tb (fun k:de=>k.v) nH []:=(EO.own).mv fJ (fun k af _=>⟨af,by rw [af];exact au.kp.block _ EO.x.1⟩) fun _ h=>h.elim;have adQ:X bx:=bJ.1;have Ho:a7 w (· =bx) bx (Gf ⟨1,0,0,lb,rb,0,ab,aN,tb⟩ (.pointer none) aN aN) nT:=⟨rfl,bJ.2⟩;have amD:=bJ.lt;have Ng:ab<bx∧tb<bx∧(∀k,D k→k<bx)∧ab≠tb∧(∀k,D k→k≠ab∧k≠tb)∧w0.heap.size≤ab∧w0.heap.size≤tb∧w0.heap.size≤bx:=by
   have h1:=kR.x.2;have h2:=EO.x.2;refine⟨by omega,by omega,fun k af=>by have:=(IG k af).2;omega,by omega,fun k af=>by have:=(IG k af).2;omega,by omega,by omega,by omega⟩
  have adR: ∀k,w2.heap.size≤k→ ¬F2 k:=fun k af hf=>by have:=qZ.s.has k (qZ.bK k hf);omega
  have uF:Ft w0 F w X (fun k=>F2 k∨k=bx):=ff.more fun k e=>e.imp id fun e=>by rw [e];exact⟨adQ,Ng.2.2.2.2.2.2.2⟩
  have hD5: ∀k,D k→X k:=fun k af=>Vd.sub k (IG k af).1;clear hs bR au bJ kR EO ea fq g2 afv IG qZ cX lF Vd ff Nc dU h1 YI;obtain⟨FL,FD,sv,bl,hW⟩:=g5.lw;refine gC (Xu hW.l (s:=⟨1,[],0⟩) (r:=[]) (by rw [hLL]) (uF.fx fun k af=>.inl (hW.hL k af))) kQ uF.s.has fun w6 X6 zN=>?_;rw [show(((⟨1,[],0⟩:Jr).first:Nat):Int)=1 from rfl];have hLK:=hGL.lok zQ;have nB:(xL 4096).L.next=1:=by rw [hLL];rfl
  refine B2 (fun n a b c w X=>a=I 1∧b= .agg #[I 0]∧c= .agg #[ptr bx 0]∧ak X6 w6 X w) 0 ⟨rfl,rfl,rfl,ak.ct zN.has⟩ ?_;rintro n _ _ _ w7 X7 ⟨rfl,rfl,rfl,gH⟩;have ZY:=zN.trans gH;have kF:=uF.since ZY;have hW7:=hW.mv (ZY.fZ fun k af=>uF.bK k (.inl af));refine gC (Gr hW7.l hLK (kF.fx fun k af=>.inl (hW7.hL k af))) kQ kF.s.has fun w8 X8 mi=>?_;rw [nB];have Cq:=ZY.trans mi;have oe:=uF.since Cq;have g8:Lg w8 F2 lb db (xL 4096).L (xL 4096).m:=g5.mv (Cq.fZ fun k af=>uF.bK k (.inl af));have afw:gO w8 D rb mb (l.foldl eH []):=OT.mv (Cq.fZ hD5);have ZZ:dS w8 (· =ab) nX ab (fun k:de=>k.v) nH []:=ahL.mv fJ (fun k af _=>⟨af,by rw [af];exact Cq.kp.block _ ahJ.1⟩) fun _ h=>h.elim;have Z5:dS w8 (· =tb) nX tb (fun k:de=>k.v) nH []:=ahM.mv fJ (fun k af _=>⟨af,by rw [af];exact Cq.kp.block _ ahK.1⟩) fun _ h=>h.elim;have YH:a7 w8 (· =bx) bx (Gf ⟨1,0,0,lb,rb,0,ab,aN,tb⟩ (.pointer none) aN aN) nT:=Ho.mv fun k af _=>⟨af,by rw [af];exact Cq.kp.block _ adQ⟩;have Js:X8 ab∧X8 tb∧X8 bx∧ ∀k,D k→X8 k:=⟨Cq.sub _ ahJ.1,Cq.sub _ ahK.1,Cq.sub _ adQ,fun k af=>Cq.sub k (hD5 k af)⟩;have TC:a7 w8 X8 bx [I 1,I 0,I 0,ptr lb 0,B false,ptr rb 0,.pointer none,.map (some ab),aN,.map (some tb),aN,aN] nT:=YH.mono (Y:=X8) fun k e=>by rw [e];exact Js.2.2.1
  clear zN gH mi ZY Cq hW hW7 kF uF g5 OT ahL ahM Ho hD5;have hs:=ak.ct oe.s.has;repeat' first|refine bD ?_;intros
  have e0:xK.gD.toNat=0:=by rw [Nf.1];rfl
  have kE:=agZ.jJ (p:=kD xK) zQ Nf.2;have Ve: ¬F2 bx:=adR bx zQ;refine oe.call (HA (r:=xK) (n:=1) (S:=(· =bx)) (T:=nX) (c:=⟨1,0,0,lb,rb,0,ab,aN,tb⟩) YH g8 (fun k a b=>Ve (by rw [←a];exact b)) (fun k e=>by rw [e];exact Js.2.2.1) rfl rfl rfl rfl (oe.fx fun k e=>.inl e) hGL zQ (af3 rfl rfl rfl rfl rfl) (fun k af=>af.elim) (OX rfl rfl rfl) (by have:=Nf.2;omega)) kQ (fun k e=>.inl e) fun v C8 w9 X9 Me ZL Je lU c9=>?_;obtain⟨rfl,G9,hG9,g9⟩:=Me;rw [e0] at g9⊢;rw [kE.1];generalize LD.jJ ⟨(xL 4096).L,(xL 4096).m⟩ 0 (kD xK)=kp at g9 kE⊢;have mX: ∀k,X8 k→ ¬F2 k→X9 k∧w9.heap[k]? =w8.heap[k]? :=fun k h1 h2=>⟨c9.sub k h1,c9.block k h1 h2⟩;have adS: ¬F2 ab:=adR ab zQ;have adT: ¬F2 tb:=adR tb zQ;have wP:a7 w9 X9 bx [I 1,I 0,I 0,ptr lb 0,B false,ptr rb 0,.pointer none,.map (some ab),aN,.map (some tb),aN,aN] nT:=⟨(mX bx Js.2.2.1 Ve).1,(mX bx Js.2.2.1 Ve).2.trans TC.2⟩;have alo:dS w9 (· =ab) nX ab (fun k:de=>k.v) nH []:=ZZ.mv fJ (fun k af _=>⟨af,by rw [af];exact(mX ab Js.1 adS).2⟩) fun _ h=>h.elim;have alp:dS w9 (· =tb) nX tb (fun k:de=>k.v) nH []:=Z5.mv fJ (fun k af _=>⟨af,by rw [af];exact(mX tb Js.2.1 adT).2⟩) fun _ h=>h.elim;have ajF:gO w9 D rb mb (l.foldl eH []):=afw.mv fun k af _=>⟨af,(mX k (Js.2.2.2 k af) (adP k af)).2⟩;have O5:X9 ab∧X9 tb∧X9 bx∧ ∀k,D k→X9 k:=⟨(mX ab Js.1 adS).1,(mX tb Js.2.1 adT).1,wP.1,fun k af=>(mX k (Js.2.2.2 k af) (adP k af)).1⟩;have hz8:=oe.s.kp.size;have ahN:bx<w8.heap.size:=YH.lt;have Vf: ∀k,k<w8.heap.size→ ¬F2 k→ ¬G9 k:=fun k h1 h2 hg=>(hG9 k hg).elim h2 fun e=>by have:=e.1;omega
  have tA:Ft w0 F w9 X9 (fun k=>G9 k∨k=bx):=lU.less fun k e=>e.elim (fun e=>(hG9 k e).imp .inl id) fun e=>.inl (.inr e);clear hs TC YH g8 afw ZZ Z5 Js mX oe lU c9;have hs:=ak.ct tA.s.has;repeat' first|refine bD ?_;intros
  refine qv (o:=1) wP zQ kQ (by simp) rfl tA.s.has fun Mj Jt zW Z6=>?_;replace Z6:a7 Mj Jt bx [I 1,I 1,I 0,ptr lb 0,B false,ptr rb 0,.pointer none,.map (some ab),aN,.map (some tb),aN,aN] nT:=Z6;have xG:=tA.fL (F':=fun k=>G9 k∨k=bx) zW (fun k e=>.inr e) fun k e=>.inl e;clear hs;have hs:=ak.ct xG.s.has;repeat' first|refine aL ?_;intros
  refine gC (Ch (c:=⟨1,1,0,lb,rb,0,ab,aN,tb⟩) (Cf:=.pointer none) (Y:=Jt) Z6 (fun _ h=>h) (show(1:Int)≤1∧(1:Int)≤2 from by decide)) kQ xG.s.has fun w11 X11 Qk=>?_;refine dp (abv (node:=21) (fl:=.zero) (by decide) (by decide) (by decide)) kQ Qk.has ?_;rintro _ amT w12 X12 ⟨cb,rfl,yJ⟩ amE ajG zh;have E7:=Qk.trans zh;have ahO:=xG.since E7;have alq:=Z6.since E7;clear hs;have hs:=ak.ct zh.has;repeat' first|refine aL ?_;intros
  refine qv (o:=6) alq zQ kQ (by simp) rfl ahO.s.has fun w13 X13 Vg adU=>?_;have Z7:=ahO.fL (F':=fun k=>G9 k∨k=bx) Vg (fun k e=>.inr e) fun k e=>.inl e;clear hs;have hs:=ak.ct Z7.s.has;repeat' first|refine aL ?_;intros
  have lX:=E7.kp.size;have amU:=Qk.kp.size;have R4:Mj.heap.size≤cb∧cb<w12.heap.size:=⟨by have:=yJ.1.1;omega,yJ.1.2⟩;have adV:X12 cb:=ajG cb yJ.1;have amV:=zW.size;have C9: ∀k,X9 k→k≠bx→X13 k∧w13.heap[k]? =w9.heap[k]? :=fun k h1 h2=>⟨Vg.sub k (E7.sub k (zW.sub k h1)),((Vg.block k (E7.sub k (zW.sub k h1)) h2).trans (E7.kp.block k (zW.sub k h1))).trans (zW.block k h1 h2)⟩;have adW: ∀k,X9 k→k<Mj.heap.size:=fun k h1=>zW.has k (zW.sub k h1);refine Z7.ahl fun wa bk=>?_
  show DD l F db _ w0 wa
  unfold DD;rw [if_neg hc];have An: ∀k,X9 k→k≠bx→wa.heap[k]? =w9.heap[k]? :=fun k h1 h2=>(bk.block k (C9 k h1 h2).1).trans (C9 k h1 h2).2;have alr:cb≠bx:=fun e=>by have:=adW bx O5.2.2.1;omega
  have ta:ab≠bx:=by omega
  have htb:tb≠bx:=by omega
  have Ql: ∀k,X13 k→k<wa.heap.size:=fun k h1=>aH (Vg.has k h1) bk.size;refine⟨bx,⟨1,1,0,lb,rb,cb,ab,aN,tb⟩,mb,fun k=>k=bx∨k=ab∨k=tb∨k=cb∨D k,D,G9,kp.1.L,kp.1.m,rfl,fun k af=>?_,fun k af=>?_,rfl,rfl,rfl,?_,kE.2⟩
  ·rcases af with e|e|e|e|e
   ·rw [e];exact⟨by omega,Ql bx adU.1⟩
   ·rw [e];exact⟨by omega,Ql ab (C9 ab O5.1 ta).1⟩
   ·rw [e];exact⟨by omega,Ql tb (C9 tb O5.2.1 htb).1⟩
   ·rw [e];exact⟨by have:=adW bx O5.2.2.1;omega,Ql cb (Vg.sub cb adV)⟩
   ·exact⟨aln k e,Ql k (C9 k (O5.2.2.2 k e) (by have:=Ng.2.2.1 k e;omega)).1⟩
  ·rcases Z7.v k (.inl af)with e|e
   ·exact .inl e
   ·exact .inr ⟨e,Ql k (Z7.bK k (.inl af))⟩
  ·have ajH: ∀k,G9 k→k<w9.heap.size:=fun k hg=>tA.s.has k (tA.bK k (.inl hg));refine⟨⟨rfl,(bk.block bx adU.1).trans adU.2⟩,alo.mv fJ (fun k af _=>⟨af,by rw [af];exact An ab O5.1 ta⟩) fun _ h=>h.elim,alp.mv fJ (fun k af _=>⟨af,by rw [af];exact An tb O5.2.1 htb⟩) fun _ h=>h.elim,
    ⟨rfl,((bk.block cb (Vg.sub cb adV)).trans (Vg.block cb adV alr)).trans yJ.2⟩,ajF.mv fun k af _=>⟨af,An k (O5.2.2.2 k af) (by have:=Ng.2.2.1 k af;omega)⟩,
    g9.mv fun k af _=>⟨af,An k (tA.bK k (.inl af)) fun e=>Vf bx ahN Ve (by rw [←e];exact af)⟩,rfl,fun k=>Iff.rfl,fun k af hg=>?_,Ng.2.2.2.1,fun k af=>?_⟩
   ·rcases af with e|e|e|e|e
    ·exact Vf bx ahN Ve (by rw [←e];exact hg)
    ·exact Vf ab zQ adS (by rw [←e];exact hg)
    ·exact Vf tb zQ adT (by rw [←e];exact hg)
    ·have h1:=ajH k hg;rw [e] at h1;omega
    ·exact Vf k (by have:=Ng.2.2.1 k e;omega) (adP k e) hg
   ·have h1:=Ng.2.2.2.2.1 k af;have h2:=Ng.2.2.1 k af;exact⟨by show k≠bx;omega,h1.1,h1.2,by show k≠cb;have:=adW bx O5.2.2.1;omega⟩
section
variable {P : Program} {X : XS} {w : World}
end
theorem Xv {w:World} {X F:XS} {hv:Value} {r:List Value} (own:Own w F 0 44 36 hv [r]) (hF: ∀k,F k→X k) (hr: ∀u∈r,aR.one u=true):
  Ct pg 118 #[hv,I 0,I 1] w X (cZ hv) fun v wa w'=>Own w' (cZ hv) 0 44 36 v []∧v.ownBlock=hv.ownBlock:=by
 intro w0 hk;have Z8:=own.mv ((Mv.sub hF).trans hk.dD);have hT:Ft w0 (cZ hv) w0 (aV w0) (cZ hv):=Ft.init fun k af=>(Z8.ge af).2;have wE:=Z8.sl;have B9:r.length=36:=Z8.1 r (by simp);apply ua;unfold mO;have hs:=ak.init w0;rcases Z8.row with⟨_,h⟩|⟨g,cap,cs,rfl,fp,bJ,xx,lG,jz,tt⟩
 ·simp at h
 simp only [List.length_singleton] at*;have amW:Sl w0 (aV w0) 36 (.slice (some ⟨g,0,none⟩) 1 cap) ([r].map id):=by simpa using wE
 repeat' first|refine aL ?_;intros
 refine af4 (i:=0) (j:=1) (q:=1) rfl rfl rfl zQ zQ xx kQ kQ fun _=>?_;repeat' first|refine bD ?_;intros
 refine Ol (i:=0) rfl zQ kQ kQ ?_;refine af5 wE (i:=1) rfl (by simp) kQ kQ fun v2 bT=>?_;refine adX (k:=36) (n:=0) kQ bJ bT (fun q hq u hu=>by simp at hq) (by simp) (by simp) hs.has fun w1 X1 c1 uZ=>?_;have dU:=hT.fL c1 (fun k af=>af.symm▸rfl) (F':=cZ (.slice (some ⟨g,0,none⟩) 1 cap)) fun k af=>.inl af;rw [show 0+(List.drop 1 [r]).length=0 from rfl,show(([r].length:Nat):Int)=1 from rfl];replace uZ:a7 w1 X1 g cs 44:=by simpa [cV] using uZ
 have uh:Own w1 X1 0 44 36 (.slice (some ⟨g,0,none⟩) 0 cap) []:=Own.UE uZ (aG _) (by simp) rfl (aG _) lG jz rfl;have au:Sl w1 X1 36 (.slice (some ⟨g,0,none⟩) 0 cap) (([]:List (List Value)).map id):=uh.sl;clear hs;have hs:=ak.ct dU.s.has;repeat' first|refine aL ?_;intros
 refine ahP (k:=36) (i:=0) (j:=1) rfl rfl zQ xx zQ kQ kQ ?_;rw [show 0+0*36=0 from rfl];refine adY (k:=36) (bytes:=416) (e:=44) (o:=0) (n:=1) uZ kQ kQ zQ zQ dU.s.has fun w2 X2 zs hzl c2 qY=>?_;have cX:=dU.fL c2 (fun k af=>af.symm▸rfl) (F':=nX) fun k af=>af.elim;have LZ:(cV cs 0 zs).length=cap*36:=by
  unfold cV;simp only [List.take_zero,List.nil_append,av,List.length_drop,hzl,jz,Nat.zero_add];omega
 have nY:Own w2 X2 0 44 36 (.slice (some ⟨g,0,none⟩) 0 cap) []:=Own.UE qY (aG _) (by simp) rfl (aG _) lG LZ rfl;exact cX.fin fun wa bk=>⟨th (nY.kp bk) fun g' ji=>ji,rfl⟩
theorem Nh {w:World} {X:XS} {a:Value} {xs:List dF} {f:FuncId} {cs:List Value} {p:dF→Bool} (ha:en w X 36 a dF.rd xs) (hX: ∀k,X k→k<w.heap.size) (hf:enters pg f=true)
  (hp: ∀(x:dF) vk vs vw vp vr vc vh vd,aR.one vk=true→aR.one vs=true→aR.one vw=true→aR.one vp=true→aR.one vr=true→aR.one vc=true→aR.one vh=true→aR.one vd=true→Ct pg f ((x.v vk vs vw vp vr vc vh vd)::cs).toArray w X nX fun v _ _=>v=B (p x)):
  Ct pg 254 #[a,.func (.func f) #[] cs.toArray] w X nX fun v _ _=>v=I (idxOf p xs):=by
 intro w0 hk;replace ha:=en.mv ha dF.mv hk.dD;replace hp:=fun (x:dF) vk vs vw vp vr vc vh vd h1 h2 h3 h4 h5 h6 h7 h8=>((hp x vk vs vw vp vr vc vh vd h1 h2 h3 h4 h5 h6 h7 h8).kp hk).aV fun k hx=>aH (hX k hx) hk.size;have jV:=ha.len;apply sB;unfold lY;have hs:=ak.init w0;repeat' first|refine aL ?_;intros
 refine fQ (fun n a w X=> ∃i:Nat,a=I (i:Nat)∧n=(xs).length-i∧i≤(xs).length∧ak (aV w0) w0 X w∧(∀(j:Nat) x,j<i→xs[j]? =some x→p x=false)) (xs).length ⟨0,rfl,rfl,aG _,hs,by simp⟩ ?_;rintro n a w X ⟨i,rfl,rfl,hi,hs,hw⟩;rcases ew (xs) i with⟨dz,x,hx,hd⟩|⟨dV,hd⟩
 ·have nE:=en.mv ha dF.mv hs.mv;repeat' first|refine bD ?_;intros
  refine Bt nE hx rfl kQ kQ fun bb oo ll hc qs=>?_;obtain⟨vk,vs,vw,vp,vr,vc,vh,vd,rfl,ef⟩:=qs;have q1:=ef.keys.one;have q2:=ef.seen.one;have q3:=ef.writes.one;have q4:=ef.parts.one;have q5:=ef.ranges.one;have q6:=ef.fY.one;have q7:=ef.fU.one;have q8:=ef.fB.one;repeat' first|refine aL ?_;intros
  refine fS ((hp x vk vs vw vp vr vc vh vd q1 q2 q3 q4 q5 q6 q7 q8).since hs) hf hs.has (fun hb w2 X2 bT=>?_) (fun hb w2 X2 bT=>?_)
  ·repeat' first|refine aL ?_;intros
   exact aw (hs.trans bT) fun _ _=>by rw [Ni hw hx hb]
  ·repeat' first|refine aL ?_;intros
   exact fh (xs.length-(i+1)) zQ ⟨i+1,by simp,rfl,by omega,hs.trans bT,fun j y hj hy=>by rcases Nat.lt_succ_iff_lt_or_eq.1 hj with h|h;exact hw j y h hy;subst h;rw [hx] at hy;cases hy;exact hb⟩
 ·repeat' first|refine aL ?_;intros|refine dM ?_ ?_<;>intros|((first|(with_reducible refine aw hs ?_)|(with_reducible refine aw (bR.trans hs) ?_));intro wa hk;(rw [Gs fun j x hj hx=>hw j x zQ hx]))|(exfalso;omega)
section
variable {w w' wa : World} {X X' K K' Y : XS} {nb xb mb : Nat} {c : pj} {x : oO} {vm va vw dZ gr ic fy j6 : Value} {al : List (de × Nat)} {rm ra rw : List (List Value)} {ms ws : List dF} {ps : List Int}
theorem Vh {m:dF} {vk vs vw vp vr vc vh vd:Value} {b:Nat} {id:Int} (h:a7 w X b [I id] 3):
  Ct pg 255 #[m.v vk vs vw vp vr vc vh vd,ptr b 0] w X nX fun v _ _=>v=B (decide (m.range=id)):=by
 intro w0 hk;replace h:=h.mv hk.dD;apply Aw;unfold r8;have hs:=ak.init w0;repeat' first|refine aL ?_;intros|refine dM ?_ ?_<;>intros|((first|(with_reducible refine aw hs ?_)|(with_reducible refine aw (bR.trans hs) ?_));intro wa hk;(simp [*]))
theorem Cr {id:Int} (h:fu w K nb xb c x vm va vw dZ al rm ra rw ms ws ps) (hC:FX (cF nb xb c.ab vm va vw dZ) X w) (hK:FX K X w):
  Ct pg 178 #[ptr xb 0,I id] w X nX fun v _ _=>v=I (idxOf (fun m=>decide (m.range=id)) ws):=by
 intro w0 hk;replace h:=h.mv (fun k af=>hk.block k (hC k af).1) (hk.fi fun k af=>(hK k af).1) h.kd;have kW:=hC.kp hk;have jB:=hK.kp hk;have jo:=h.act.mono fun k e=>(kW k (.inr (.inl e))).1;have hwR:en w0 (aV w0) 36 vw dF.rd ws:=⟨rw,h.ow.sl.mono fun k af=>(kW k (.inr (.inr (.inr (.inr (.inr (.inl af))))))).1,h.hw.1,fun i l m h1 h2=>dF.mv (h.hw.2 i l m h1 h2) (Mv.sub fun k af=>(jB k af).1)⟩;have ovw:=hwR.one;apply CN;unfold uo;have hs:=ak.init w0;repeat' first|refine aL ?_;intros|(with_reducible apply td);(case ho=>rfl);(case hX=>exact hs.has);intro bx w X gh au bJ;have bR:=hs.trans au;replace hs:=ak.ct au.has
 refine gC (Nh (cs:=[ptr bx 0]) (p:=fun m=>decide (m.range=id)) (en.mv hwR dF.mv bR.mv) hs.has kQ fun x vk vs vw vp vr vc vh vd _ _ _ _ _ _ _ _=>Vh bJ) kQ hs.has fun w2 X2 bT=>?_;exact aw (bR.trans bT) fun _ _=>rfl
end
theorem Qm {P:Program} {X:XS} {w:World} {N:Value→Prop} {t:TypeId} {xo yo:Operand} {a:Bool} (ht:P.underlying t=some .bool) (k:N (.bool false)):ae P X w (aE .neq t xo yo (.bool a) (.bool a)) N:=by
 refine cd (fun wa=>?_) k;simp [aE,eqGuard,run_neq_bool wa t a a ht]
section
variable {w w' wa : World} {X X' K K' Y : XS} {nb xb mb cb : Nat} {c : pj} {x : oO} {vm va vw dZ gr ic fy j6 : Value} {al : List (de × Nat)} {rm ra rw : List (List Value)} {ms ws : List dF} {ps : List Int} {ck : cx}
theorem O6 {m:dF} {vk vs fy vp vr vc vh vd:Value} {i:Nat} (h:fu w K nb xb c x vm va vw dZ al rm ra rw ms ws ps) (hC:FX (cF nb xb c.ab vm va vw dZ) X w) (hK:FX K X w) (jM:a7 w X c.cb (kC ck) kO) (Vi: ¬K c.cb)
  (hg:getM m.dK al=some xb) (hp:x.pre=true) (hi:idxOf (fun y=>decide (y.range=m.range)) ws=i) (KW:m.code=0) (ed:m.bF.may=true):
  Ct pg 115 #[ptr nb 0,m.v vk vs fy vp vr vc vh vd,B true] w X (· =c.cb) fun v wa w'=>v= .tuple #[ptr xb 0,I i]∧a7 w' (· =c.cb) c.cb (kC (ck.later ⟨m.bF.wall,m.bF.ep,ck.node⟩)) kO:=by
 intro w0 hk;have hF:FX (· =c.cb) X w:=fun k e=>by subst e;exact⟨jM.1,jM.lt⟩
 have hT:=hF.ft hk;have M9:=h.Bu jM;replace h:=h.mv (fun k af=>hk.block k (hC k af).1) (hk.fi fun k af=>(hK k af).1) h.kd;replace jM:=jM.mv hk.dD;have kW:=hC.kp hk;have jB:=hK.kp hk;have bJ:=h.row.mono fun k e=>(kW k (.inl e)).1;have jo:=h.act.mono fun k e=>(kW k (.inr (.inl e))).1;rw [show Cg x vw=Cg { x with pre:=true } vw by rw [←hp]] at jo;have DB:=pd h.am (Y:=aV w0) (kW _ (.inr (.inr (.inl rfl)))).1;clear hC hK hk hF;apply Gt;unfold xM;have hs:=ak.init w0;repeat' first|refine aL ?_;intros
 refine ti (kt:=27) (et:=110) (kv:=fun k:de=>k.v) (k:=m.dK) (.pointer none) DB BJ kQ kQ (fun v a zK AV=>?_) (fun hn=>?_)
 ·rw [hg] at zK;cases zK;simp only [nH] at AV;subst AV;repeat' first|refine aL ?_;intros
  refine Qm kQ ?_;repeat' first|refine aL ?_;intros|with_reducible apply dy
  refine gC (Cr (id:=m.range) h kW jB) kQ hs.has fun w1 X1 au=>?_;rw [hi];have dU:=hT.since au;have h1:=h.mv (K':=K) (fun k af=>au.kp.block k (kW k af).1) (au.fZ fun k af=>(jB k af).1) h.kd;have wM:=h.UP au kW;have kX:FX K X1 w1:=fun k af=>⟨au.sub k (jB k af).1,au.has k (au.sub k (jB k af).1)⟩;have mm:=bJ.since au;have KU:=jM.since au;clear hs bJ jo;have hs:=ak.ct au.has;repeat' first|refine bD ?_;intros
  refine dU.call (SA KU ed) kQ (fun _ h=>h) fun v zI w2 X2 DE qP nW cX c2=>?_;obtain⟨_,Z9⟩:=DE;have h2:=h1.mv (w':=w2) (K':=K) (fun k af=>c2.block k (wM k af).1 fun e=>M9 (by rw [←e];exact af)) (fun k af _=>⟨af,c2.block k (kX k af).1 fun e=>Vi (by rw [←e];exact af)⟩) h1.kd;have rX:FX (cF nb xb c.ab vm va vw dZ) X2 w2:=fun k af=>⟨c2.sub k (wM k af).1,c2.has k (c2.sub k (wM k af).1)⟩;have mC:FX K X2 w2:=fun k af=>⟨c2.sub k (kX k af).1,c2.has k (c2.sub k (kX k af).1)⟩;have aaa:X2 c.cb:=c2.sub _ KU.1;have qZ:Ft w0 _ w2 X2 (· =c.cb):=cX.less fun k e=>.inl e;clear hs;have hs:=ak.ct cX.s.has;repeat' first|refine bD ?_;intros
  refine gC (Cr (id:=m.range) h2 rX mC) kQ hs.has fun w3 X3 ea=>?_;rw [hi];have dE:=qZ.since ea;exact dE.fin fun wa bk=>⟨rfl,Z9.mv fun k af _=>⟨af,by rw [af];exact(bk.block _ (ea.sub _ aaa)).trans (ea.kp.block _ aaa)⟩⟩
 ·rw [hg] at hn;cases hn
end
abbrev YK:Nat:=199
section
variable {w w' wa : World} {X X' K K' Y : XS} {nb xb mb cb : Nat} {c : pj} {x : oO} {vm va vw dZ gr ic fy j6 : Value} {al bl : List (de × Nat)} {rm ra rw : List (List Value)} {ms ws : List dF} {ps : List Int} {ck : cx}
theorem Xw {r:Rec} {vp:Value} (h:fu w K nb xb c x vm va vw dZ al rm ra rw ms ws ps) (hC:FX (cF nb xb c.ab vm va vw dZ) X w) (hK:FX K X w) (lG:c.cm=aN) (Sb:dS w (· =c.bb) nX c.bb (fun k:de=>k.v) nH bl) (hbX:X c.bb) (hbK: ¬K c.bb) (hbF: ¬cF nb xb c.ab vm va vw dZ c.bb)
  (hp:Sl w K 1 vp (r.parts.map I1)) (Jd:r.parts.length≤2^40):
  Ct pg 82 #[ptr nb 0,r.v aN aN vp aN aN aN] w X (fun k=>k=nb∨k=c.bb) fun v wa w'=> ∃mb vcm v2 K',v=ptr mb 0∧(∀k,K k→K' k)∧(∀k,K' k→K k∨made wa w' k)∧fu w' K' nb xb { c with cm:=vcm } x vm va vw dZ al rm ra rw ms ws ps∧
   a7 w' K' mb (r.l aN aN vp aN aN aN++[v2,B false]) YK∧Sl w' K' 1 v2 (r.parts.map I1):=by
 intro w0 hk;have hF:FX (fun k=>k=nb∨k=c.bb) X w:=fun k e=>by
  rcases e with e|e<;>subst e
  ·exact hC _ (.inl rfl)
  ·exact⟨hbX,Sb.x.2⟩
 have hT:=hF.ft hk;have oh:Mv K w K w0:=hk.fi fun k af=>(hK k af).1;replace h:=h.mv (fun k af=>hk.block k (hC k af).1) oh h.kd;replace hp:=hp.mv oh;replace Sb:dS w0 (· =c.bb) nX c.bb (fun k:de=>k.v) nH bl:=Sb.mv fJ (fun k af _=>⟨af,by rw [af];exact hk.block _ hbX⟩) fun _ h=>h.elim;have kW:=hC.kp hk;have jB:=hK.kp hk;have ahQ:=Sb.x.2;have h3:=hp.one;obtain⟨e1,e2,e3,rfl⟩:=hp.form;clear hC hK hk oh hF;apply Ln;unfold AW;have hs:=ak.init w0
 skip
 refine dp (I2 (hp.mono fun k af=>(jB k af).1) Jd) kQ hs.has ?_;rintro v2 qQ w1 X1 q1 sk oR FM;have ov2:=q1.sl.one;have Sc:Own w1 X1 w0.heap.size _ 1 v2 _:=q1.up oR sk;obtain⟨g1,g2,g3,rfl⟩:=q1.sl.form;have U6:=FM.kp.size;clear hs;have hs:=ak.ct FM.has;repeat' first|refine aL ?_;intros|(with_reducible apply nZ);(case hX=>exact hs.has);intro bx w X gh au bJ;have bR:=hs.trans au;replace hs:=ak.ct au.has
 have yG:=FM.trans au;have cX:=hT.since yG;have DE:=Sc.since au;have h2:=h.since kW jB yG (fun k=>k=bx∨cZ (.slice g1 g2 g3) k) fun k e=>e.elim (fun e=>by rw [e];omega) fun e=>(Sc.ge e).1;have rX:=h.UP yG kW;have mC:FX (fun k=>K k∨k=bx∨cZ (.slice g1 g2 g3) k) X w:=fun k af=>by
  rcases af with e|e|e
  ·exact⟨yG.sub k (jB k e).1,yG.has k (yG.sub k (jB k e).1)⟩
  ·rw [e];exact⟨bJ.1,bJ.lt⟩
  ·exact⟨DE.2.2 k e,(DE.ge e).2⟩
 have ahR:a7 w (fun k=>K k∨k=bx∨cZ (.slice g1 g2 g3) k) bx (r.l aN aN (.slice e1 e2 e3) aN aN aN++[.slice g1 g2 g3,B false]) YK:=⟨.inr (.inl rfl),bJ.2⟩;have AV:Sl w (fun k=>K k∨k=bx∨cZ (.slice g1 g2 g3) k) 1 (.slice g1 g2 g3) (r.parts.map I1):=(th DE fun k e=>.inr (.inr e)).sl;have als:dS w (· =c.bb) nX c.bb (fun k:de=>k.v) nH bl:=Sb.mv fJ (fun k af _=>⟨af,by rw [af];exact yG.kp.block _ ahQ⟩) fun _ h=>h.elim;have ahS:X c.bb:=yG.sub _ ahQ;have xF: ∀k,(K k∨k=bx∨cZ (.slice g1 g2 g3) k)→K k∨w0.heap.size≤k:=fun k af=>af.imp id fun e=>e.elim (fun e=>by rw [e];omega) fun e=>(Sc.ge e).1;have aab: ¬(K c.bb∨c.bb=bx∨cZ (.slice g1 g2 g3) c.bb):=fun e=>by
  rcases e with e|e|e
  ·exact hbK e
  ·omega
  ·have:=(Sc.ge e).1;omega
 generalize wO:(fun k=>K k∨k=bx∨cZ (.slice g1 g2 g3) k)=K2 at h2 mC ahR AV;replace xF: ∀k,K2 k→K k∨w0.heap.size≤k:=fun k af=>xF k (by rw [←wO] at af;exact af);replace aab: ¬K2 c.bb:=by rw [←wO];exact aab
 have ZW: ∀k,K k→K2 k:=fun k af=>by rw [←wO];exact .inl af
 have alu:a7 w X nb (uj { c with cm:=aN } vm va) nT:=by
  rw [←lG];exact h2.row.mono fun k e=>(rX k (.inl e)).1
 clear hs bR bJ au FM yG hT h Sb hp Sc DE q1 wO;have hs:=ak.ct cX.s.has;repeat' first|refine aL ?_;intros|(with_reducible apply IK);(case hX=>exact hs.has);(case he=>kernel_rfl);(case ho=>first|rfl|assumption);(case hk=>rfl);intro acc w X au ho;obtain⟨_,_,_,rfl⟩:=ho.sl.form;replace hs:=hs.trans au
 have dE:=cX.since au;have Sd:=h2.mv (K':=K2) (fun k af=>au.kp.block k (rX k af).1) (au.fZ fun k af=>(mC k af).1) h2.kd;have AU:=h2.UP au rX;have kY:FX K2 X w:=fun k af=>⟨au.sub k (mC k af).1,au.has k (au.sub k (mC k af).1)⟩;have alv:=ahR.mv (au.fZ fun k af=>(mC k af).1);have Ov:=AV.mv (au.fZ fun k af=>(mC k af).1);have alw:dS w (· =c.bb) nX c.bb (fun k:de=>k.v) nH bl:=als.mv fJ (fun k af _=>⟨af,by rw [af];exact au.kp.block _ ahS⟩) fun _ h=>h.elim;have ahT:X c.bb:=au.sub _ ahS;have Nj:=alu.since au;have oho:=ho.sl;refine BI (bytes:=8) (own:=(Own.nil w X 0 196 1:Own w X 0 196 1 aN [])) dE.s.has (aG _) kQ ho.sl (fun r qq u hu=>?_) (by simp) (by simp) fun v5 w5 X5 c5 jW uD=>?_
 ·rw [bw] at qq;subst qq;rw [bw] at hu;subst hu;rfl
 have adg:a7 w5 X5 nb (uj { c with cm:=aN } vm va) nT:=⟨c5.sub _ Nj.1,(c5.block nb Nj.1 fun e=>by cases e).trans Nj.2⟩;have ov5:=jW.sl.one;obtain⟨t1,t2,t3,rfl⟩:=jW.sl.form;clear hs;have hs:=ak.ct c5.has;repeat' first|refine aL ?_;intros
 refine qv (o:=8) adg zQ kQ (by simp) rfl c5.has fun w6 X6 c6 IU=>?_;have cg:ez (fun k=>k=nb) _ _ X6 w6:=(c5.mono fun k _ e=>by cases e).trans (c6.mono fun k _ e=>e);have ap:=Sd.ap;have ed:=Sd.step (c':= { c with cm:=.slice t1 t2 t3 }) (x':=x) (gr:=vm) (ic:=va) (fy:=vw) (j6:=dZ) (mW:=al) (kV:=rm) (uk:=ra) (oP:=rw) (uU:=ms) (uV:=ws) (Dt:=ps) (fun k af=>(AU k af).1) (fun k af=>(kY k af).1) dE.s.has (fun k=>k=nb) cg (fun k af=>.inl af) rfl
  (.inr IU) (.inl ⟨fun e=>ap.nx e.symm,rfl⟩) (.inl ⟨fun e=>ap.an e,rfl⟩) (.inl ⟨fun g hg e=>(ap.m g hg).1 e,rfl,rfl⟩) (.inl ⟨fun g hg e=>(ap.a g hg).1 e,rfl,rfl⟩) (.inl ⟨fun g hg e=>(ap.w g hg).1 e,rfl,rfl⟩) (.inl ⟨fun g hg e=>(ap.p g hg).1 e,rfl,rfl⟩) Sd.hm Sd.hw ov5 Sd.o2 Sd.o3 Sd.o4
 have h6:=ed.1;have eX:=dE.fL (F':=fun k=>k=nb∨k=c.bb) cg (fun k e=>.inl e) fun k e=>.inl e;have du:c.bb≠nb:=fun e=>hbF (.inl e);have hkn: ∀k,K2 k→k≠nb:=fun k af e=>Sd.kd k af (.inl e);have ahU:Mv K2 w K2 w6:=fun k af _=>⟨af,cg.block k (kY k af).1 (hkn k af)⟩;have gZ:FX K2 X6 w6:=fun k af=>⟨cg.sub k (kY k af).1,eX.s.has k (cg.sub k (kY k af).1)⟩;have Se:FX (cF nb xb c.ab vm va vw dZ) X6 w6:=fun k af=>⟨cg.sub k (AU k af).1,eX.s.has k (cg.sub k (AU k af).1)⟩;have aac:dS w6 X6 nX c.bb (fun k:de=>k.v) nH bl:=pd (alw.mv (A':=nX) (Y:=(· =c.bb)) fJ (fun k af _=>⟨af,by rw [af];exact cg.block _ ahT du⟩) fun _ h=>h.elim) (cg.sub _ ahT);have Ds:=h6.row.mono fun k e=>(Se k (.inl e)).1;clear hs;have hs:=ak.ct eX.s.has;repeat' first|refine aL ?_;intros
 refine tf (kv:=fun k:de=>k.v) (k:=r.dK) (a:=bx) (et:=196) aac fJ (show nH w6 nX (ptr bx 0) bx from rfl) (fun _ h=>h.elim) BJ kQ eX.s.has fun w7 X7 c7 OE=>?_;have kF:=eX.fL (F':=fun k=>k=nb∨k=c.bb) c7 (fun k e=>.inr e) fun k e=>.inl e;have h7:=h6.mv (w':=w7) (K':=K2) (fun k af=>c7.block k (Se k af).1 fun e=>hbF (by rw [←e];exact af)) (fun k af _=>⟨af,c7.block k (gZ k af).1 fun e=>aab (by rw [←e];exact af)⟩) h6.kd;have ahV:Mv K2 w6 K2 w7:=fun k af _=>⟨af,c7.block k (gZ k af).1 fun e=>aab (by rw [←e];exact af)⟩
 skip
 refine kF.fin fun wa bk=>⟨bx,.slice t1 t2 t3,.slice g1 g2 g3,K2,rfl,ZW,fun k af=>(xF k af).imp id fun e=>⟨e,aH (kF.s.has k (c7.sub k (gZ k af).1)) bk.size⟩,
  h7.mv (fun k af=>bk.block k (c7.sub k (Se k af).1)) (bk.fi fun k af=>c7.sub k (gZ k af).1) h7.kd,(alv.mv (ahU.trans ahV)).mv (bk.fi fun k af=>c7.sub k (gZ k af).1),(Ov.mv (ahU.trans ahV)).mv (bk.fi fun k af=>c7.sub k (gZ k af).1)⟩
def Nk (r:Rec) (id:Int):dF:= { uG with kind:=5,dK:=r.dK,range:=id,kP:=true,bF:=r.bF }
theorem Qn {r:Rec} {mb:Nat} {vp v2:Value} (h:fu w K nb xb c x vm va vw dZ al rm ra rw ms ws ps) (hC:FX (cF nb xb c.ab vm va vw dZ) X w) (hK:FX K X w) (hcr:a7 w K mb (r.l aN aN vp aN aN aN++[v2,B false]) YK) (AV:Sl w K 1 v2 (r.parts.map I1)) (hi:1≤c.id∧c.id≤2) (hl:rm.length+r.parts.length≤2^20):
  Ct pg 120 #[ptr nb 0,ptr mb 0] w X (cF nb xb c.ab vm va vw dZ) fun _ wa w'=> ∃gr kV,(∀k,cF nb xb c.ab gr va vw dZ k→cF nb xb c.ab vm va vw dZ k∨made wa w' k)∧
   fu w' K nb xb c x gr va vw dZ al kV ra rw (ms++r.parts.map fun id=>(Nk r id).mc (20+c.id)) ws ps:=by
 intro w0 hk;have hT:=hC.ft hk;have oh:Mv K w K w0:=hk.fi fun k af=>(hK k af).1;replace h:=h.mv (fun k af=>hk.block k (hC k af).1) oh h.kd;replace hcr:=hcr.mv oh;replace AV:=AV.mv oh;have kW:=hC.kp hk;have jB:=hK.kp hk;have afx:a7 w0 (aV w0) mb (r.l aN aN vp aN aN aN++[v2,B false]) YK:=hcr.mono fun k af=>(jB k af).1;have jV:r.parts.length≤2^20:=by omega
 clear hC hK hk;apply Gu;unfold xN;have hs:=ak.init w0;have alx:Sl w0 (aV w0) 1 v2 (r.parts.map I1):=AV.mono fun k af=>(jB k af).1;repeat' first|refine aL ?_;intros
 refine fQ (fun n a w X=> ∃(i:Nat) (gr:Value) (kV:List (List Value)),a=I (i:Nat)∧n=r.parts.length-i∧i≤r.parts.length∧Ft w0 (cF nb xb c.ab vm va vw dZ) w X (cF nb xb c.ab gr va vw dZ)∧FX K X w∧
  fu w K nb xb c x gr va vw dZ al kV ra rw (ms++(r.parts.take i).map fun id=>(Nk r id).mc (20+c.id)) ws ps∧kV.length=rm.length+i∧a7 w K mb (r.l aN aN vp aN aN aN++[v2,B false]) YK∧Sl w K 1 v2 (r.parts.map I1)) r.parts.length ⟨0,vm,rm,rfl,rfl,aG _,hT,jB,by simpa using h,rfl,hcr,AV⟩ ?_
 clear hs hT h hcr AV kW jB afx alx oh;rintro n _ w1 X1 ⟨i,vm1,rm1,rfl,rfl,hi1,dU,kX,h1,adZ,ahW,zK⟩;have hs:=ak.ct dU.s.has;have afx:a7 w1 X1 mb (r.l aN aN vp aN aN aN++[v2,B false]) YK:=ahW.mono fun k af=>(kX k af).1;have amX:Sl w1 X1 1 v2 (r.parts.map I1):=zK.mono fun k af=>(kX k af).1;rcases ew (r.parts) i with⟨dz,id,hx,hd⟩|⟨dV,hd⟩
 ·repeat' first|refine bD ?_;intros
  have oM:(Nk r id).at w1 K aN aN aN aN aN aN aN aN:=⟨Sl.nil _ _ _,Sl.nil _ _ _,Sl.nil _ _ _,Sl.nil _ _ _,Sl.nil _ _ _,en.nil _ _ _,en.nil _ _ _,en.nil _ _ _⟩;refine dU.call (I4 (m:=Nk r id) h1 (dU.fx fun _ h=>h) kX oM hi zQ) kQ (fun _ h=>h) fun v zI w2 X2 DE qP nW cX c2=>?_;obtain⟨vm2,rm2,rX,h2,qY⟩:=DE;have qZ:=cX.less rX;have Qd:Mv K w1 K w2:=fun k af _=>⟨af,c2.block k (kX k af).1 (h1.kd k af)⟩;clear hs;have hs:=ak.ct qZ.s.has;repeat' first|refine aL ?_;intros
  exact fh (r.parts.length-(i+1)) zQ ⟨i+1,vm2,rm2,by simp,rfl,by omega,qZ,fun k af=>⟨c2.sub k (kX k af).1,qZ.s.has k (c2.sub k (kX k af).1)⟩,
   by rw [cn,hx];simp only [fj,bC,List.map_cons,List.map_nil,←aK];exact h2,by omega,ahW.mv Qd,zK.mv Qd⟩
 ·rw [bq zQ] at h1;repeat' first|refine bD ?_;intros
  exact dU.fin fun wa bk=>⟨vm1,rm1,dU.gX bk fun _ h=>h,h1.mv (fun k af=>bk.block k (dU.bK k af)) (bk.fi fun k af=>(kX k af).1) h1.kd⟩
end
def rL (t:de) (st:cx) (ps:List Int):Rec:=⟨9,t,st,.zero,false,0,0,[],[],ps,[],.zero⟩
section
variable {w w' wa : World} {X X' K K' Y G : XS} {nb xb mb cb db : Nat} {c : pj} {x : oO} {vm va vw dZ gr ic fy j6 : Value} {al bl : List (de × Nat)} {rm ra rw : List (List Value)} {ms ws : List dF} {ps : List Int} {ck : cx} {L : LM} {dm : DM} {n : Nat}
def ajI (F:XS) (nb xb:Nat) (c:pj) (x:oO) (K:XS) (ps:List Int) (st:cx) (wa w':World):Prop:= ∃c' x' vm va vw K' al rm rw vs,(∀k,cF nb xb c'.ab vm va vw aN k→F k∨made wa w' k)∧(∀k,K' k→K k∨made wa w' k)∧fu w' K' nb xb c' x' vm va vw aN al rm [UN 0 x.dK st false vs] rw (ps.map fun id=>(Nk (rL x.dK st ps) id).mc (20+c.id)) [] []∧c'.ga=c.ga∧c'.ab=c.ab∧aR.one vs=true
structure HE (w:World) (X K G:XS) (nb xb db:Nat) (c:pj) (x:oO) (vm va vw:Value) (al bl:List (de×Nat)) (rm ra rw:List (List Value)) (ms ws:List dF) (vq:Value) (ps:List Int) (L:LM) (dm:DM):Prop where
 m:fu w K nb xb c x vm va vw aN al rm ra rw ms ws []
 fc:FX (cF nb xb c.ab vm va vw aN) X w
 fk:FX K X w
 q:Sl w K 1 vq (ps.map I1)
 b:dS w (· =c.bb) nX c.bb (fun k:de=>k.v) nH bl
 bX:X c.bb
 l:Lg w G c.lb db L dm
 fg:FX G X w
 nn: ¬K c.bb∧ ¬cF nb xb c.ab vm va vw aN c.bb∧ ¬G c.bb
 dj: ∀k,G k→ ¬K k∧ ¬cF nb xb c.ab vm va vw aN k
section
variable {x' : oO} {vq : Value} {mW : List (de × Nat)} {kV uk oP : List (List Value)} {uU uV : List dF} {Z : XS}
theorem HE.next (h:HE w X K G nb xb db c x vm va vw al bl rm ra rw ms ws vq ps L dm) (cg:ez Z X w X' w') (hZ: ∀k,Z k→cF nb xb c.ab vm va vw aN k) (m':fu w' K nb xb c x' gr ic fy aN mW kV uk oP uU uV [])
  (hc: ∀k,cF nb xb c.ab gr ic fy aN k→cF nb xb c.ab vm va vw aN k∨(X' k∧w.heap.size≤k)):HE w' X' K G nb xb db c x' gr ic fy mW bl kV uk oP uU uV vq ps L dm:=by
 have dz: ∀k,X' k→k<w'.heap.size:=cg.has;have mN:c.bb<w.heap.size:=h.b.x.2;refine⟨m',fun k hk=>?_,fun k hk=>⟨cg.sub k (h.fk k hk).1,dz k (cg.sub k (h.fk k hk).1)⟩,h.q.mv fun k hk _=>⟨hk,cg.block k (h.fk k hk).1 fun e=>h.m.kd k hk (hZ k e)⟩,
  h.b.mv fJ (fun k hk _=>⟨hk,by rw [hk];exact cg.block _ h.bX fun e=>h.nn.2.1 (hZ _ e)⟩) fun _ h=>h.elim,cg.sub _ h.bX,h.l.mv fun k hk _=>⟨hk,cg.block k (h.fg k hk).1 fun e=>(h.dj k hk).2 (hZ k e)⟩,
  fun k hk=>⟨cg.sub k (h.fg k hk).1,dz k (cg.sub k (h.fg k hk).1)⟩,⟨h.nn.1,fun e=>?_,h.nn.2.2⟩,fun k hk=>⟨(h.dj k hk).1,fun e=>?_⟩⟩
 ·rcases hc k hk with e|e
  ·exact⟨cg.sub k (h.fc k e).1,dz k (cg.sub k (h.fc k e).1)⟩
  ·exact⟨e.1,dz k e.1⟩
 ·rcases hc _ e with e|e
  ·exact h.nn.2.1 e
  ·omega
 ·rcases hc _ e with e|e
  ·exact(h.dj k hk).2 e
  ·have:=(h.fg k hk).2;omega
theorem HE.since (h:HE w X K G nb xb db c x vm va vw al bl rm ra rw ms ws vq ps L dm) (hs:ak X w X' w'):HE w' X' K G nb xb db c x vm va vw al bl rm ra rw ms ws vq ps L dm:=
 h.next (Z:=nX) (ez.rM hs nX) (fun _ h=>h.elim) (h.m.mv (fun k hk=>hs.kp.block k (h.fc k hk).1) (hs.fZ fun k hk=>(h.fk k hk).1) h.m.kd) fun k hk=>.inl hk
end
theorem SN {m y:dF} {vk vs fy vp vr vc vh vd:Value} (h:HE w X K G nb xb db c x aN aN vw al bl [] [] rw [] [y] x.vq ps L dm) (jM:a7 w (· =c.cb) c.cb (kC ck) kO) (hcX:X c.cb) (Vi: ¬K c.cb) (hcG: ¬G c.cb)
  (lG:c.cm=aN) (Nl:FO n ⟨L,dm⟩) (hn:n≤3)
  (hg:getM m.dK al=some xb) (hp:x.pre=true) (Og:x.vs=aN) (Jd:ps.length≤40) (hy:y.range=m.range) (KW:m.code=0) (ed:m.bF.may=true) (hi:1≤c.id∧c.id≤2)
  (hre:(rL x.dK (x.wL.later m.bF) ps).gD=0) (B9:(kD (rL x.dK (x.wL.later m.bF) ps)).length≤900):
  Ct pg 56 #[ptr nb 0,m.v vk vs fy vp vr vc vh vd] w X (fun k=>cF nb xb c.ab aN aN vw aN k∨k=c.cb∨k=c.bb∨G k) fun _ wa w'=>ajI (fun k=>cF nb xb c.ab aN aN vw aN k∨k=c.cb∨k=c.bb∨G k) nb xb c x K ps (x.wL.later m.bF) wa w':=by
 intro w0 hk;have hF:FX (fun k=>cF nb xb c.ab aN aN vw aN k∨k=c.cb∨k=c.bb∨G k) X w:=fun k e=>by
  rcases e with e|e|e|e
  ·exact h.fc k e
  ·subst e;exact⟨hcX,jM.lt⟩
  ·subst e;exact⟨h.bX,h.b.x.2⟩
  ·exact h.fg k e
 have hT:=hF.ft hk;have M9:=h.m.Bu jM;have du:c.bb≠c.cb:=h.b.eA jM;replace h:HE w0 (aV w0) K G nb xb db c x aN aN vw al bl [] [] rw [] [y] x.vq ps L dm:=by
  refine⟨h.m.mv (fun k af=>hk.block k (h.fc k af).1) (hk.fi fun k af=>(h.fk k af).1) h.m.kd,h.fc.kp hk,h.fk.kp hk,h.q.mv (hk.fi fun k af=>(h.fk k af).1),h.b.mv fJ (fun k af _=>⟨af,by rw [af];exact hk.block _ h.bX⟩) fun _ h=>h.elim,aH h.b.x.2 hk.size,h.l.mv (hk.fi fun k af=>(h.fg k af).1),h.fg.kp hk,h.nn,h.dj⟩
 replace jM:a7 w0 (· =c.cb) c.cb (kC ck) kO:=jM.mv fun k af _=>⟨af,by rw [af];exact hk.block _ hcX⟩;have Qo:aV w0 c.cb:=jM.lt;clear hk hF;apply Ju;unfold zX;have hix:idxOf (fun z:dF=>decide (z.range=m.range)) [y]=(0:Nat):=by simp [idxOf,hy]
 refine hT.call (O6 (i:=0) h.m h.fc h.fk ⟨Qo,jM.2⟩ Vi hg hp hix KW ed) kQ (fun k e=>.inr (.inl e)) fun v qQ w1 X1 Sc sk oR dU c1=>?_;obtain⟨rfl,_⟩:=Sc;have Gh:Ft w0 _ w1 X1 (fun k=>cF nb xb c.ab aN aN vw aN k∨k=c.cb∨k=c.bb∨G k):=dU.less fun k e=>.inl e;have h1:HE w1 X1 K G nb xb db c x aN aN vw al bl [] [] rw [] [y] x.vq ps L dm:=by
  have rT: ∀k,aV w0 k→k≠c.cb→w1.heap[k]? =w0.heap[k]? :=fun k h1 h2=>c1.block k h1 h2;refine⟨h.m.mv (fun k af=>rT k (h.fc k af).1 fun e=>M9 (by rw [←e];exact af)) (fun k af _=>⟨af,rT k (h.fk k af).1 fun e=>Vi (by rw [←e];exact af)⟩) h.m.kd,fun k af=>⟨c1.sub k (h.fc k af).1,c1.has k (c1.sub k (h.fc k af).1)⟩,fun k af=>⟨c1.sub k (h.fk k af).1,c1.has k (c1.sub k (h.fk k af).1)⟩,
   h.q.mv fun k af _=>⟨af,rT k (h.fk k af).1 fun e=>Vi (by rw [←e];exact af)⟩,h.b.mv fJ (fun k af _=>⟨af,by rw [af];exact rT _ h.bX du⟩) fun _ h=>h.elim,c1.sub _ h.bX,h.l.mv fun k af _=>⟨af,rT k (h.fg k af).1 fun e=>hcG (by rw [←e];exact af)⟩,fun k af=>⟨c1.sub k (h.fg k af).1,c1.has k (c1.sub k (h.fg k af).1)⟩,h.nn,h.dj⟩
 have xD:=h1.m.act.mono fun k e=>(h1.fc k (.inr (.inl e))).1;clear h jM hT dU c1 Qo;have hs:=ak.ct Gh.s.has;repeat' first|refine aL ?_;intros
 refine ee (LR x.wL m.bF) kQ hs.has fun w2 X2 bT=>?_;generalize amY:x.wL.later m.bF=st at hre B9⊢;have h2:=h1.since bT;have cX:=Gh.since bT;have OL:=xD.since bT;clear h1 xD Gh hs;have hs:=ak.ct cX.s.has;repeat' first|refine aL ?_;intros
 refine FQ (o:=12) OL zQ kQ (by simp) rfl rfl cX.s.has fun w3 X3 c3 sU=>?_;have ap:=h2.m.ap;have Nn:=h2.m.step (c':=c) (x':= { x with wL:=st }) (gr:=aN) (ic:=aN) (fy:=vw) (j6:=aN) (mW:=al) (kV:=[]) (uk:=[]) (oP:=rw) (uU:=[]) (uV:=[y]) (Dt:=[]) (fun k af=>(h2.fc k af).1) (fun k af=>(h2.fk k af).1) cX.s.has (fun k=>k=xb) c3 (fun k af=>.inr (.inl af)) rfl
  (.inl ⟨fun e=>ap.nx e,rfl⟩) (.inr sU) (.inl ⟨fun e=>ap.ax e,rfl⟩) (.inl ⟨fun g hg e=>(ap.m g hg).2.1 e,rfl,rfl⟩) (.inl ⟨fun g hg e=>(ap.a g hg).2.1 e,rfl,rfl⟩) (.inl ⟨fun g hg e=>(ap.w g hg).2.1 e,rfl,rfl⟩) (.inl ⟨fun g hg e=>(ap.p g hg).2.1 e,rfl,rfl⟩) h2.m.hm h2.m.hw h2.m.o1 h2.m.o2 h2.m.o3 h2.m.o4
 have h3:=h2.next c3 (fun k af=>.inr (.inl af)) Nn.1 Nn.2
 have dE:=cX.fL (F':=fun k=>cF nb xb c.ab aN aN vw aN k∨k=c.cb∨k=c.bb∨G k) c3 (fun k e=>.inl (.inr (.inl e))) fun k e=>.inl e;have OM:=h3.m.act.mono fun k e=>(h3.fc k (.inr (.inl e))).1;clear h2 OL cX hs c3 sU Nn ap;have hs:=ak.ct dE.s.has;repeat' first|refine aL ?_;intros
 obtain⟨r1,rfl⟩: ∃r1,rw=[r1]:=by
  have:=h3.m.hw.1
  match rw,this with
  |[r1],_=>exact⟨r1,rfl⟩
 have uZ: ∀u∈r1,aR.one u=true:=by
  obtain⟨vk,vs,vw,vp,vr,vc,vh,vd,rfl,ef⟩:=h3.m.hw.2 0 r1 y rfl rfl;have q1:=ef.keys.one;have q2:=ef.seen.one;have q3:=ef.writes.one;have q4:=ef.parts.one;have q5:=ef.ranges.one;have q6:=ef.fY.one;have q7:=ef.fU.one;have q8:=ef.fB.one;intro u hu;simp only [List.mem_cons,List.not_mem_nil,or_false] at hu;rcases hu with rfl|rfl|rfl|rfl|rfl|rfl|rfl|rfl|rfl|rfl|rfl|rfl|rfl|rfl|rfl|rfl|rfl|rfl|rfl|rfl|rfl|rfl|rfl|rfl|rfl|rfl|rfl|rfl|rfl|rfl|rfl|rfl|rfl|rfl|rfl|rfl<;>first|rfl|assumption
 have Vj: ∀k,cZ vw k→cF nb xb c.ab aN aN vw aN k:=fun k e=>.inr (.inr (.inr (.inr (.inr (.inl e)))));refine dE.call (Xv h3.m.ow (fun k e=>(h3.fc k (Vj k e)).1) uZ) kQ (fun k e=>.inl (Vj k e)) fun v4 mw w4 X4 hq4 qh lL fm c4=>?_;obtain⟨B7,MU⟩:=hq4;have Vk:=h3.m.ap;have Gi:a7 w4 X4 xb (Cg { x with wL:=st } vw) aT:=⟨c4.sub _ OM.1,(c4.block xb OM.1 fun e=>(Vk.w _ e).2.1 rfl).trans OM.2⟩;have ov4:=B7.sl.one;have EY:=h3.q.form;obtain⟨t1,t2,t3,rfl⟩:=B7.sl.form;have nq:=fm.less (F':=fun k=>cF nb xb c.ab aN aN vw aN k∨k=c.cb∨k=c.bb∨G k) fun k e=>.inl e;clear hs;have hs:=ak.ct nq.s.has;repeat' first|refine aL ?_;intros
 refine qv (o:=10) Gi zQ kQ (by simp) rfl nq.s.has fun w5 X5 c5 Ho=>?_;have cg:ez (fun k=>cZ vw k∨k=xb) _ _ X5 w5:=(c4.mono fun k _ e=>.inl e).trans (c5.mono fun k _ e=>.inr e);have ahX: ∀g,cZ (.slice t1 t2 t3) g→g≠xb:=fun g hg=>by
  have ji:cZ vw g:=by have hg:(kS t1 t2 t3).ownBlock=some g:=hg;rw [MU] at hg;exact hg
  exact(Vk.w g ji).2.1
 have ad0: ∀g,cZ vw g→X4 g:=fun g hg=>c4.sub g (h3.fc g (Vj g hg)).1;have jW:Own w5 X5 0 mT 36 (.slice t1 t2 t3) []:=tY B7 fun g hg=>⟨c5.sub g (ad0 g (by have hg:(kS t1 t2 t3).ownBlock=some g:=hg;rw [MU] at hg;exact hg)),c5.block g (ad0 g (by have hg:(kS t1 t2 t3).ownBlock=some g:=hg;rw [MU] at hg;exact hg)) (ahX g hg)⟩;have Nd:=h3.m.step (c':=c) (x':= { x with wL:=st }) (gr:=aN) (ic:=aN) (fy:=.slice t1 t2 t3) (j6:=aN) (mW:=al) (kV:=[]) (uk:=[]) (oP:=[]) (uU:=[]) (uV:=[]) (Dt:=[]) (fun k af=>(h3.fc k af).1) (fun k af=>(h3.fk k af).1) dE.s.has (fun k=>cZ vw k∨k=xb) cg (fun k af=>af.elim (Vj k) fun e=>.inr (.inl e)) rfl
  (.inl ⟨fun e=>e.elim (fun e=>(Vk.w _ e).1 rfl) fun e=>Vk.nx e,rfl⟩) (.inr Ho) (.inl ⟨fun e=>e.elim (fun e=>(Vk.w _ e).2.2.1 rfl) fun e=>Vk.ax e,rfl⟩) (.inl ⟨fun g hg e=>(by cases hg),rfl,rfl⟩) (.inl ⟨fun g hg e=>(by cases hg),rfl,rfl⟩) (.inr ⟨jW,rfl,.inl MU⟩) (.inl ⟨fun g hg e=>(by cases hg),rfl,rfl⟩) h3.m.hm (jr.nil _ _) h3.m.o1 h3.m.o2 h3.m.o3 h3.m.o4
 have h5:=h3.next cg (fun k af=>af.elim (Vj k) fun e=>.inr (.inl e)) Nd.1 Nd.2
 have ff:Ft w0 _ w5 X5 (fun k=>cF nb xb c.ab aN aN (.slice t1 t2 t3) aN k∨k=c.cb∨k=c.bb∨G k):=dE.fL cg (fun k e=>.inl (e.elim (Vj k) fun e=>.inr (.inl e))) fun k e=>e.elim (fun e=>(Nd.2 k e).imp .inl id) fun e=>.inl (.inr e);clear hs h3 OM dE c4 fm Gi nq c5 Ho cg Nd Vk Vj ad0 ahX B7;have hs:=ak.ct ff.s.has;have aly:Sl w5 X5 36 (.slice t1 t2 t3) (([]:List (List Value)).map id):=jW.sl;obtain⟨q1,q2,q3,hqv⟩:=EY;have OG:=h5.m.act.mono fun k e=>(h5.fc k (.inr (.inl e))).1;rw [show Cg { x with wL:=st } (.slice t1 t2 t3)=Cg { x with wL:=st,vq:=.slice q1 q2 q3 } (.slice t1 t2 t3)by rw [←hqv]] at OG;repeat' first|refine aL ?_;intros|refine dM ?_ ?_<;>intros|(exfalso;simp only [bL] at*;omega)
 have kE:=Nl.jJ (p:=kD (rL x.dK st ps)) hn B9;have e0:(rL x.dK st ps).gD.toNat=0:=by rw [hre];rfl
 have uD:(rL x.dK st ps).at w5 K aN aN (.slice q1 q2 q3) aN aN aN:=by
  have hq5:=h5.q;rw [hqv] at hq5;exact⟨Sl.nil _ _ _,Sl.nil _ _ _,hq5,Sl.nil _ _ _,en.nil _ _ _,en.nil _ _ _⟩
 refine ff.call (HA (r:=rL x.dK st ps) (n:=n+1) (S:=(· =nb)) (T:=K) (c:=c) (Cf:=ptr c.cb 0) h5.m.row h5.l (fun k a b=>(h5.dj k b).2 (.inl a)) (fun k e=>(h5.fc k (.inl e)).1) rfl rfl h5.m.o1 rfl h5.fg Nl.gl zQ uD (fun k af=>⟨(h5.fk k af).1,fun e=>(h5.dj k e).1 af⟩) (OX rfl rfl rfl) zQ) kQ (fun k e=>.inr (.inr (.inr e))) fun v Yr w6 X6 Ys PW FN eX c6=>?_;obtain⟨rfl,_⟩:=Ys;rw [e0,kE.1];clear kE e0 uD hs aly;have uB:Ft w0 _ w6 X6 (fun k=>cF nb xb c.ab aN aN (.slice t1 t2 t3) aN k∨k=c.cb∨k=c.bb∨G k):=eX.less fun k e=>.inl e;have Jv: ∀k,X5 k→ ¬G k→X6 k∧w6.heap[k]? =w5.heap[k]? :=fun k h1 h2=>⟨c6.sub k h1,c6.block k h1 h2⟩;have h6:=h5.m.mv (w':=w6) (K':=K) (fun k af=>(Jv k (h5.fc k af).1 fun e=>(h5.dj k e).2 af).2) (fun k af _=>⟨af,(Jv k (h5.fk k af).1 fun e=>(h5.dj k e).1 af).2⟩) h5.m.kd;have Se:FX (cF nb xb c.ab aN aN (.slice t1 t2 t3) aN) X6 w6:=uB.fx fun k e=>.inl e;have gZ:FX K X6 w6:=fun k af=>⟨(Jv k (h5.fk k af).1 fun e=>(h5.dj k e).1 af).1,eX.s.has k (Jv k (h5.fk k af).1 fun e=>(h5.dj k e).1 af).1⟩;have Ys:Sl w6 K 1 x.vq (ps.map I1):=h5.q.mv fun k af _=>⟨af,(Jv k (h5.fk k af).1 fun e=>(h5.dj k e).1 af).2⟩;have aac:dS w6 (· =c.bb) nX c.bb (fun k:de=>k.v) nH bl:=h5.b.mv fJ (fun k af _=>⟨af,by rw [af];exact(Jv _ h5.bX h5.nn.2.2).2⟩) fun _ h=>h.elim;have ad1:X6 c.bb:=(Jv _ h5.bX h5.nn.2.2).1;have hnn:=h5.nn;have Gk:=h6.act.mono fun k e=>(Se k (.inr (.inl e))).1;clear h5 ff eX c6 Jv OG;have hs:=ak.ct uB.s.has;repeat' first|refine bD ?_;intros
 refine dp (wm Gk (fun _ h=>h) Og) kQ hs.has ?_;rintro vr7 ET w7 X7 q7 P6 Ee gH;have kF:=uB.since gH;have h7:=h6.mv (w':=w7) (K':=K) (fun k af=>gH.kp.block k (Se k af).1) (gH.fZ fun k af=>(gZ k af).1) h6.kd;have hC7:=h6.UP gH Se;have EW:FX K X7 w7:=fun k af=>⟨gH.sub k (gZ k af).1,gH.has k (gH.sub k (gZ k af).1)⟩;have hq7:=Ys.mv (gH.fZ fun k af=>(gZ k af).1);have ad2:dS w7 (· =c.bb) nX c.bb (fun k:de=>k.v) nH bl:=aac.mv fJ (fun k af _=>⟨af,by rw [af];exact gH.kp.block _ ad1⟩) fun _ h=>h.elim;have ad3:=gH.sub _ ad1;have ovr:=q7.sl.one;obtain⟨u1,u2,u3,rfl⟩:=q7.sl.form;clear hs h6 Se gZ Ys aac ad1 uB Gk;have hs:=ak.ct kF.s.has;repeat' first|refine aL ?_;intros
 refine kF.call (zz (code:=0) (t:=.zero) (st:=st) (on:=false) (vs:=.slice u1 u2 u3) h7 hC7 EW ovr (by simp)) kQ (fun k e=>.inl e) fun v wa8 w8 X8 hq8 adu UM oe c8=>?_;obtain⟨Vl,hF8,h8⟩:=hq8;change fu w8 K nb xb c { x with wL:=st } aN Vl (.slice t1 t2 t3) aN (xC x.dK al) [] [UN 0 x.dK st false (.slice u1 u2 u3)] [] [] [] [] at h8;have I6:Ft w0 _ w8 X8 (fun k=>cF nb xb c.ab aN Vl (.slice t1 t2 t3) aN k∨k=c.cb∨k=c.bb∨G k):=oe.less fun k e=>e.elim (fun e=>(hF8 k e).imp .inl id) fun e=>.inl (.inr e);have hC8:FX (cF nb xb c.ab aN Vl (.slice t1 t2 t3) aN) X8 w8:=I6.fx fun k e=>.inl e;have Ma:FX K X8 w8:=fun k af=>⟨c8.sub k (EW k af).1,c8.has k (c8.sub k (EW k af).1)⟩;have hq8:Sl w8 K 1 x.vq (ps.map I1):=hq7.mv fun k af _=>⟨af,c8.block k (EW k af).1 (h7.kd k af)⟩;have Z5:dS w8 (· =c.bb) nX c.bb (fun k:de=>k.v) nH bl:=ad2.mv fJ (fun k af _=>⟨af,by rw [af];exact c8.block _ ad3 hnn.2.1⟩) fun _ h=>h.elim;have alz:=c8.sub _ ad3;have alA: ¬cF nb xb c.ab aN Vl (.slice t1 t2 t3) aN c.bb:=fun e=>(hF8 _ e).elim hnn.2.1 fun e=>by have:=e.1;have:=ad2.x.2;omega
 clear hs h7 hC7 EW hq7 ad2 ad3 kF oe c8 q7;have hs:=ak.ct I6.s.has;repeat' first|refine aL ?_;intros
 rw [hqv] at hq8;refine I6.call (Xw (r:=rL x.dK st ps) h8 hC8 Ma lG Z5 alz hnn.1 alA hq8 (by show ps.length≤_;omega)) kQ (fun k e=>e.elim (fun e=>.inl (.inl e)) fun e=>.inr (.inr (.inl e))) fun v C8 w9 X9 Me ZL Je lU c9=>?_;obtain⟨mb9,vcm,v2,K9,rfl,Jf,Gm,h9,alB,hv9⟩:=Me;have tA:Ft w0 _ w9 X9 (fun k=>cF nb xb c.ab aN Vl (.slice t1 t2 t3) aN k∨k=c.cb∨k=c.bb∨G k):=lU.less fun k e=>.inl e;have hK9:FX K9 X9 w9:=fun k af=>⟨(Gm k af).elim (fun e=>c9.sub k (Ma k e).1) (Je k),(Gm k af).elim (fun e=>c9.has k (c9.sub k (Ma k e).1)) fun e=>e.2⟩;refine tA.call (Qn (r:=rL x.dK st ps) h9 (tA.fx fun k e=>.inl e) hK9 alB hv9 hi (by show 0+ps.length≤_;omega)) kQ (fun k e=>.inl e) fun v amZ Mj Jt alC amF afy xG zW=>?_;obtain⟨ahY,alD,alE,Md⟩:=alC;have aad:Ft w0 _ Mj Jt (fun k=>cF nb xb c.ab ahY Vl (.slice t1 t2 t3) aN k∨k=c.cb∨k=c.bb∨G k):=xG.less fun k e=>e.elim (fun e=>(alE k e).imp .inl id) fun e=>.inl (.inr e);exact aad.fin fun wa Gl=>⟨{ c with cm:=vcm },_,ahY,Vl,_,K9,_,alD,_,_,aad.gX Gl fun k e=>.inl e,fun k af=>(Gm k af).imp id fun e=>⟨by have:=I6.s.kp.size;have:=e.1;omega,aH e.2 (ah zW.size Gl.size)⟩,Md.mv (fun k af=>Gl.block k (aad.bK k (.inl af))) (Gl.fi fun k af=>zW.sub k (hK9 k af).1) Md.kd,rfl,rfl,ovr⟩
end
section
variable {w w' wa : World} {X X' K K' Y G : XS} {nb xb mb cb db : Nat} {c : pj} {x : oO} {vm va vw dZ gr ic fy j6 : Value} {al bl : List (de × Nat)} {rm ra rw : List (List Value)} {ms ws : List dF} {ps : List Int} {ck : cx} {L : LM} {dm : DM} {n : Nat}
theorem Vm (h:a7 w Y nb (uj c vm va) nT) (hY: ∀k,Y k→X k):Ct pg 17 #[ptr nb 0] w X nX fun v _ _=>v=I c.ga:=by
 intro w0 hk;have bJ:=(h.mono hY).mv hk.dD;have hs:=ak.init w0;apply Jw;unfold zY;repeat' first|refine aL ?_;intros|((first|(with_reducible refine aw hs ?_)|(with_reducible refine aw (bR.trans hs) ?_));intro wa hk;rfl)
def ab1 (F K:XS) (nb:Nat) (c:pj) (x:oO) (ps:List Int) (st:cx) (v:Value) (wa w':World):Prop:= ∃c' vm va vs K' rm,v= .tuple #[.agg #[vm,va],I 0]∧Sl w' K' 36 vm rm∧jr w' K' rm (ps.map fun id=>(Nk (rL x.dK st ps) id).mc (20+c.id))∧Sl w' K' 9 va [UN 0 x.dK st false vs]∧
 a7 w' (· =nb) nb (uj c' aN aN) nT∧c'.ga=c.ga∧aR.one vs=true∧ ∀k,K' k→F k∨K k∨made wa w' k
theorem SO {m y:dF} {vk vs fy vp vr vc vh vd:Value} {eh:Int} (h:HE w X K G nb xb db c x aN aN vw al bl [] [] rw [] [y] x.vq ps L dm) (jM:a7 w (· =c.cb) c.cb (kC ck) kO) (hcX:X c.cb) (Vi: ¬K c.cb) (hcG: ¬G c.cb)
  (lG:c.cm=aN) (Nl:FO n ⟨L,dm⟩) (hn:n≤3)
  (hg:getM m.dK al=some xb) (hp:x.pre=true) (Og:x.vs=aN) (Jd:ps.length≤40) (hy:y.range=m.range) (KW:m.code=0) (ed:m.bF.may=true) (hi:1≤c.id∧c.id≤2)
  (hre:(rL x.dK (x.wL.later m.bF) ps).gD=0) (B9:(kD (rL x.dK (x.wL.later m.bF) ps)).length≤900)
  (hm:m.at w X vk vs fy vp vr vc vh vd) (mY:m.small) (hln:m.lens≤2^62) (alF:m.err=0) (hto:m.to=20+c.id) (amG:m.kind=4):
  Ct pg 16 #[ptr nb 0,I eh,m.v vk vs fy vp vr vc vh vd] w X (fun k=>cF nb xb c.ab aN aN vw aN k∨k=c.cb∨k=c.bb∨G k) fun v wa w'=>ab1 (fun k=>cF nb xb c.ab aN aN vw aN k∨k=c.cb∨k=c.bb∨G k) K nb c x ps (x.wL.later m.bF) v wa w':=by
 intro w0 hk;have hF:FX (fun k=>cF nb xb c.ab aN aN vw aN k∨k=c.cb∨k=c.bb∨G k) X w:=fun k e=>by
  rcases e with e|e|e|e
  ·exact h.fc k e
  ·subst e;exact⟨hcX,jM.lt⟩
  ·subst e;exact⟨h.bX,h.b.x.2⟩
  ·exact h.fg k e
 have hT:=hF.ft hk;replace h:HE w0 (aV w0) K G nb xb db c x aN aN vw al bl [] [] rw [] [y] x.vq ps L dm:=by
  refine⟨h.m.mv (fun k af=>hk.block k (h.fc k af).1) (hk.fi fun k af=>(h.fk k af).1) h.m.kd,h.fc.kp hk,h.fk.kp hk,h.q.mv (hk.fi fun k af=>(h.fk k af).1),h.b.mv fJ (fun k af _=>⟨af,by rw [af];exact hk.block _ h.bX⟩) fun _ h=>h.elim,aH h.b.x.2 hk.size,h.l.mv (hk.fi fun k af=>(h.fg k af).1),h.fg.kp hk,h.nn,h.dj⟩
 replace jM:a7 w0 (· =c.cb) c.cb (kC ck) kO:=jM.mv fun k af _=>⟨af,by rw [af];exact hk.block _ hcX⟩;replace hm:=hm.mv hk.dD;have Qo:aV w0 c.cb:=jM.lt;clear hk hF;refine Jx (fun g hg=>?_) (fun ch w hh=>by obtain⟨v,he,_⟩:=hh;cases he) ?_
 ·have e:Av Tryz.f16=some 53:=by kernel_rfl
  rw [e] at hg;cases hg;exact Xp
 unfold tF;have hs:=ak.init w0;have bJ:=h.m.row.mono fun k e=>(h.fc k (.inl e)).1;repeat' first|refine aL ?_;intros
 refine gC (Xx hm mY hln) kQ hs.has fun w1 X1 au=>?_;rw [alF];have mm:=bJ.since au;replace hs:=hs.trans au;repeat' first|refine bD ?_;intros|with_reducible apply dy
 refine gC (Ch (Cf:=ptr c.cb 0) mm (fun _ h=>h) hi) kQ au.has fun w2 X2 bT=>?_;have Qp:=hs.trans bT;have h2:=h.since Qp;have cX:=hT.since Qp;have Z9:a7 w2 (· =c.cb) c.cb (kC ck) kO:=jM.mv fun k af _=>⟨af,by rw [af];exact Qp.kp.block _ Qo⟩;have aaa:=Qp.sub _ Qo;have tG:=hm.mv Qp.mv;have q1:=tG.keys.one;have q2:=tG.seen.one;have q3:=tG.writes.one;have q4:=tG.parts.one;have q5:=tG.ranges.one;have q6:=tG.fY.one;have q7:=tG.fU.one;have q8:=tG.fB.one;clear hs bJ mm h hT jM Qo au bT Qp;have hs:=ak.ct cX.s.has;repeat' first|refine bD ?_;intros|with_reducible apply dy
 refine cX.call (SN (m:=m) h2 Z9 aaa Vi hcG lG Nl hn hg hp Og Jd hy KW ed hi hre B9) kQ (fun _ h=>h) fun v uR w3 X3 EY ob mA dE c3=>?_;obtain⟨c',x',vm,va,vw3,K3,al3,rm3,rw3,vs3,Vn,hk3,h3,e1,e2,ovs⟩:=EY;have ad4: ∀k,cF nb xb c'.ab vm va vw3 aN k→X3 k:=fun k af=>(Vn k af).elim (fun e=>dE.bK k (.inl e)) (mA k);have kY: ∀k,K3 k→X3 k:=fun k af=>(hk3 k af).elim (fun e=>c3.sub k (h2.fk k e).1) (mA k);have Nj:=ad4 nb (.inl rfl);refine dE.call (I7 (Y:=(· =nb)) h3.row (fun k af=>by subst af;exact⟨Nj,dE.s.has _ Nj⟩) h3.o1 h3.om.sl.one h3.oa.sl.one) kQ (fun k e=>.inl (.inl (.inl e))) fun v mw w4 X4 hq4 qh lL fm c4=>?_;obtain⟨rfl,Uc⟩:=hq4;have ovm:=h3.om.sl.one;have ova:=h3.oa.sl.one;clear hs;have hs:=ak.ct fm.s.has;repeat' first|refine aL ?_;intros
 have nq:Ft w0 _ w4 X4 nX:=fm.less fun k e=>e.elim;refine nq.fin fun wa bk=>?_;have hblk: ∀k,X3 k→k≠nb→wa.heap[k]? =w3.heap[k]? :=fun k h1 h2=>(bk.block k (c4.sub k h1)).trans (c4.block k h1 h2);refine⟨c',vm,va,vs3,fun k=>K3 k∨cZ vm k∨cZ va k,rm3,rfl,?_,?_,?_,Uc.mv fun k af _=>⟨af,by rw [af];exact bk.block _ (c4.sub _ Nj)⟩,e1,ovs,fun k af=>?_⟩
 ·exact h3.om.sl.mv fun k af _=>⟨.inr (.inl af),hblk k (ad4 k (.inr (.inr (.inr (.inl af))))) (h3.ap.m k af).1⟩
 ·exact h3.hm.mv fun k af _=>⟨.inl af,hblk k (kY k af) fun e=>h3.kd k af (.inl e)⟩
 ·exact h3.oa.sl.mv fun k af _=>⟨.inr (.inr af),hblk k (ad4 k (.inr (.inr (.inr (.inr (.inl af)))))) (h3.ap.a k af).1⟩
 ·have hz3:w3.heap.size≤wa.heap.size:=ah c4.size bk.size;have AN:w0.heap.size≤uR.heap.size:=ah cX.s.kp.size ob;have kR:made uR w3 k→made w0 wa k:=fun e=>⟨ah AN e.1,aH e.2 hz3⟩;rcases af with e|e|e
  ·exact .inr ((hk3 k e).imp id kR)
  ·exact(Vn k (.inr (.inr (.inr (.inl e))))).imp id fun e=>.inr (kR e)
  ·exact(Vn k (.inr (.inr (.inr (.inr (.inl e)))))).imp id fun e=>.inr (kR e)
end
end Go.Proofs.YtbpnemeooenpmaaGreat
namespace Go.Proofs.YtbpnemeooenpmaaGreat
open Go.Proofs.Tryz renaming prog → pg
open Go.aR Go.RowKit Go.Maps Go.Sort Go.Shelf Go.ChangeMaps
set_option maxRecDepth 100000
set_option maxHeartbeats 2000000
set_option linter.unusedVariables false
set_option linter.unusedSimpArgs false
abbrev yK:Nat:=70
abbrev T3 (t:de):List Value:=[aA cR t.gN,aA cR t.ga,aA cR t.sq]
def Jy:Code:=(Code.region 2 #[{ dst:=some 5,op:=Op.alloc tT,type:=0,pos:= "iter.go:51",after:= #[],guard:=none },{ dst:=none,op:=Op.store tT (iK 5) (iK 7),type:=0,pos:= "iter.go:51",after:= #[{ on:=0,ground:=pt },{ on:=0,ground:=ou }],guard:=none }] false)
def Qq:Code:=(Code.block 1 (Code.region 3 #[{ dst:=some 8,op:=Op.load yK (iK 2),type:=yK,pos:= "iter.go:52",after:= #[],guard:=none },{ dst:=some 9,op:=Op.load tT (iK 5),type:=tT,pos:= "iter.go:52",after:= #[],guard:=none },{ dst:=some 10,op:=Op.buildSlice yK 1 #[(0,iK 9)],type:=yK,pos:= "iter.go:52",after:= #[{ on:=1,ground:=pt }],guard:=none },{ dst:=some 11,op:=Op.call { callee:=Callee.builtin Builtin.append,args:= #[iK 8,iK 10],argTypes:= #[yK,yK] },type:=yK,pos:= "iter.go:52",after:= #[{ on:=0,ground:=pt },{ on:=2,ground:=pt }],guard:=none },{ dst:=none,op:=Op.store yK (iK 2) (iK 11),type:=0,pos:= "iter.go:52",after:= #[{ on:=3,ground:=pt },{ on:=3,ground:=Ground.chain },{ on:=0,ground:=ou },{ on:=1,ground:=ou },{ on:=2,ground:=ou },{ on:=3,ground:=ou }],guard:=none }] false))
def tH (fn:FuncId) (sv:Value) (Bs D:Nat) (st:LoopState) (fB:Option Code):Loop:=
 { state:=st,pending:=fB,fn,tmps:= #[.slice none 0 0,sv,.pointer (some ⟨Bs,0,none⟩),undef,.slice none 0 0,undef,sv,undef,undef,undef,undef,undef,undef],params:= #[7],assign:=Jy,body:=Qq,defers:=D }
structure ApT (w0:World) (fn:FuncId) (sv:Value) (Bs l D:Nat) (ts:List de) (W:World):Prop where
 box: ∃v,W.heap[Bs]? =some (.cells #[v] yK (0,0))∧W.ownsRow w0.heap.size tT 3 v ts.length (ts.map T3).flatten
 L:W.heap[l]? =some (.loop (tH fn sv Bs D .ready none))
 K:W.heap[D]? =some (.deferred (some []))
 below:Below w0.heap.size w0 W
theorem aae (w0:World) (fn:FuncId) (sv:Value) (Bs l D B:Nat) (hB:w0.heap.size≤B):AbidesFrom B (ApT w0 fn sv Bs l D):=fun s W W' row h hg bJ=>by
 have FU: ∀r,row=some r→ ∃o:Obj,W.heap[r]? =some o∧o.isWalk=true:=fun r e=>(bJ r e).2;obtain⟨v,hv,hr⟩:=h.box;exact⟨⟨v,(grownBy_keeps hg FU hv rfl).trans hv,ownsRow_abides_a hr hg FU⟩,(grownBy_keeps hg FU h.L rfl).trans h.L,(grownBy_keeps hg FU h.K rfl).trans h.K,
  h.below.grown hg h.below.size (fun k e=>ah hB (bJ k e).1)⟩
theorem ab2 (w:World) (xs:List Value) (t:TypeId): ∀(j:Nat) u,xs[j]? =some u→(w.alloc (.cells xs.toArray t)).cell? ((⟨w.heap.size,0,none⟩:Addr).add j)=some u:=by
 intro j u hj;rw [Addr.add_lit];simp only [pr,hP];simpa using hj
theorem ad5 (m:Nat) (w0:World) (fn:FuncId) (sv:Value) (Bs l D:Nat) (hBl:Bs≠l) (hDl:D≠l) (hDB:D≠Bs) (h0B:w0.heap.size≤Bs) (h0l:w0.heap.size≤l)
    (N:Nat) (hN:N≤2^40) (ts:List de) (x:de) (W:World) (h:ApT w0 fn sv Bs l D ts W) (hlen:ts.length<N):
    YieldAt eT m pg l #[x.v] W fun e W'=>e= .returned (.bool true)∧ApT w0 fn sv Bs l D (ts++[x]) W'∧KeepsWalks W W':=by
  have du:yK≠tT:=by decide
  obtain⟨i0,hi,L8,U6,AN⟩:=info_parts (P:=pg) (e:=tT) (z:=(⟨0,0,0⟩:de).v) (size:=3) (bytes:=24) kQ;obtain⟨v,hv,bJ⟩:=h.box;refine⟨fn,#[.slice none 0 0,sv,.pointer (some ⟨Bs,0,none⟩),undef,.slice none 0 0,undef,sv,x.v,undef,undef,undef,undef,undef],Jy,Qq,by simpa [tH] using run_yield (P:=pg) (args:= #[x.v]) h.L rfl,roundIn_of_wpIn trivial ?_⟩;have hlW:l<W.heap.size:=(Array.getElem?_eq_some_iff.1 h.L).1;have hBW:Bs<W.heap.size:=(Array.getElem?_eq_some_iff.1 hv).1;have hDW:D<W.heap.size:=(Array.getElem?_eq_some_iff.1 h.K).1;obtain⟨WA,YM⟩: ∃WA,W.alloc (.cells #[aA cR x.gN,aA cR x.ga,aA cR x.sq] tT)=WA:=⟨_,rfl⟩;have aaf: ∀k,k<W.heap.size→WA.heap[k]? =W.heap[k]? :=fun k hk=>by rw [←YM];exact Below.heap_alloc _ _ k hk
  have hvA:=(aaf Bs hBW).trans hv;have hLA:=(aaf l hlW).trans h.L;have hKA:=(aaf D hDW).trans h.K;have hxA:WA.heap[W.heap.size]? =some (.cells #[aA cR x.gN,aA cR x.ga,aA cR x.sq] tT (0,0)):=by rw [←YM];exact hP _ _
  have hkA:KeepsWalks W WA:=by rw [←YM];exact xI _ _
  have hbA:Below w0.heap.size w0 WA:=by rw [←YM];exact h.below.alloc h.below.size _
  have afz:WA.ownsRow w0.heap.size tT 3 v ts.length (ts.map T3).flatten:=by rw [←YM];exact bJ.alloc _
  have am0:WA.heap.size=W.heap.size+1:=by rw [←YM];simp
  have hbr:=run_beginRound (P:=pg) hLA rfl;obtain⟨W2,Sf⟩: ∃W2,WA.putObj l (.loop { tH fn sv Bs D .ready none with state:=.busy })=W2:=⟨_,rfl⟩;rw [Sf] at hbr;have Jm:WA.grownBy W2 (some l):=by rw [←Sf];exact grownBy_putObj_a _ _ _
  have xF:KeepsWalks W W2:=hkA.trans (by rw [←Sf];exact wQ _ hLA rfl);have AV:W2.heap[Bs]? =some (.cells #[v] yK (0,0)):=by rw [←Sf];exact(fT hBl).trans hvA
  have mC:W2.heap[D]? =some (.deferred (some [])):=by rw [←Sf];exact(fT hDl).trans hKA
  have hL2:W2.heap[l]? =some (.loop { tH fn sv Bs D .ready none with state:=.busy }):=by rw [←Sf];exact r7 zQ
  have YN:W2.heap[W.heap.size]? =some (.cells #[aA cR x.gN,aA cR x.ga,aA cR x.sq] tT (0,0)):=by rw [←Sf];exact(fT zQ).trans hxA
  have Dx:W2.ownsRow w0.heap.size tT 3 v ts.length (ts.map T3).flatten:=afz.kept Jm (ownsRow_ne_a afz hLA (fun cur e=>by first|cases e|exact du (iE e).2.1));have wH:Below w0.heap.size w0 W2:=hbA.grown Jm hbA.size (fun k e=>by cases e;exact h0l);have am1:W2.cell? ⟨W.heap.size,0,none⟩=some (aA cR x.gN):=by simp [pr,YN]
  have am2:W2.cell? ⟨W.heap.size,1,none⟩=some (aA cR x.ga):=by simp [pr,YN]
  have am3:W2.cell? ⟨W.heap.size,2,none⟩=some (aA cR x.sq):=by simp [pr,YN]
  obtain⟨lF,hf2⟩:=cell_of_box_a AV;have alG:Bs<W2.heap.size:=(Array.getElem?_eq_some_iff.1 AV).1;have LZ:l<W2.heap.size:=(Array.getElem?_eq_some_iff.1 hL2).1;have alH:D<W2.heap.size:=(Array.getElem?_eq_some_iff.1 mC).1;have aag: ∀{j:Nat} {o:Obj},W2.heap[j]? =some o→(∀cur,o≠ .cells cur tT (0,0))→some j≠v.ownBlock:=fun hj ka=>by
    rcases ownsRow_ne_a Dx hj ka with e|e
    · rw [e];simp
    · exact fun e'=>e e'.symm
  clear Sf;unfold Jy
  gi_wp2_with gi_round_op_a
  unfold Qq;have BX:(2:Nat)^40≤maxLen:=by decide
  gi_wp2_with (first
    | (gi_at_builtin;refine wpListIn_append_own _ rfl _ _ yK rfl w0.heap.size tT i0 (⟨0,0,0⟩:de).v 3 24 kQ hi L8 U6 AN rfl (by decide) _ _ _ rfl (Dx.alloc _) ⟨W2.heap.size,0,none⟩ 1 1 (T3 x) rfl rfl (ab2 _ _ _) (by simp [Value.oneCell',T3]) zQ zQ (by have:=wH.size;simp;omega) ?_;intro v' w3 aah Sa amH
       have Ov:w3.heap[Bs]? =some (.cells #[v] yK (0,0)):=(Sa.block Bs (by simp;omega) (aag AV (fun cur e=>by first|cases e|exact du (iE e).2.1))).trans ((Below.heap_alloc _ _ Bs alG).trans AV);obtain⟨rh,hf3⟩:=cell_of_box_a Ov;obtain⟨g',No,aai,rfl,amy,am4,uZ,qY,sU,Uc⟩: ∃g' No aai,v'= .slice (some ⟨g',0,none⟩) (ts.length+1) No∧w0.heap.size≤g'∧w3.heap[g']? =some (.cells aai tT (0,0))∧ts.length+1≤No∧No≤maxLen∧aai.size=No*3∧aai.toList.take ((ts.length+1)*3)=(ts.map T3).flatten++T3 x:=by
         rcases aah.2 with⟨_,h0⟩|h'
         · exact absurd h0 zQ
         · exact h'
       go_frame)
    |gi_round_op_a)
  have aaj:(W2.alloc (.cells #[aA cR x.gN,aA cR x.ga,aA cR x.sq] tT)).grownBy w3 v.ownBlock:=Sa;have hL3:w3.heap[l]? =some (.loop { tH fn sv Bs D .ready none with state:=.busy }):=(aaj.block l (by simp;omega) (aag hL2 (fun cur e=>by first|cases e|exact du (iE e).2.1))).trans ((Below.heap_alloc _ _ l LZ).trans hL2);have kY:w3.heap[D]? =some (.deferred (some [])):=(aaj.block D (by simp;omega) (aag mC (fun cur e=>by first|cases e|exact du (iE e).2.1))).trans ((Below.heap_alloc _ _ D alH).trans mC);obtain⟨w4,Jz⟩: ∃w4,w3.setCell ⟨Bs,0,none⟩ (.slice (some ⟨g',0,none⟩) (ts.length+1) No)=w4:=⟨_,rfl⟩;rw [Jz];have hg4:w3.grownBy w4 (some Bs):=by rw [←Jz];exact grownBy_setCell0_a _ _ _
  have hv4:w4.heap[Bs]? =some (.cells #[.slice (some ⟨g',0,none⟩) (ts.length+1) No] yK (0,0)):=by rw [←Jz];exact heap_setCell_box_a _ Ov
  have Vo:w4.heap[l]? =some (.loop { tH fn sv Bs D .ready none with state:=.busy }):=(hg4.block l (Array.getElem?_eq_some_iff.1 hL3).1 (fun e=>hBl (by cases e;rfl))).trans hL3;have Cj:w4.heap[D]? =some (.deferred (some [])):=(hg4.block D (Array.getElem?_eq_some_iff.1 kY).1 (fun e=>hDB (by cases e;rfl))).trans kY;have vK:=aah.kept hg4 (ownsRow_ne_a aah Ov (fun cur e=>by first|cases e|exact du (iE e).2.1));have hl4:l<w4.heap.size:=(Array.getElem?_eq_some_iff.1 Vo).1;have Mh:Below w0.heap.size w0 w3:=(wH.alloc wH.size _).grown aaj (by have:=wH.size;simp;omega) (fun k e=>(Dx.lt k e).1);have Cp:Below w0.heap.size w0 w4:=Mh.grown hg4 Mh.size (fun k e=>by cases e;exact h0B);have R3:KeepsWalks W w4:=((xF.trans (xI _ _)).trans (KeepsWalks.of_grownBy aaj (ownsRow_not_walk_a (Dx.alloc _)))).trans (by rw [←Jz];exact KeepsWalks.setCell _ _ _);clear Jz;refine⟨_,_,run_endRound none Vo,rfl,⟨⟨_,(fT hBl).trans hv4,?_⟩,r7 hl4,(fT hDl).trans Cj,Cp.grown (grownBy_putObj_a _ _ _) Cp.size (fun k e=>by cases e;exact h0l)⟩,R3.trans (wQ _ Vo rfl)⟩;have:=vK.kept (grownBy_putObj_a w4 l (.loop { { tH fn sv Bs D .ready none with state:=.busy } with state:=if(none:Option Code).isNone then .ready else .done,pending:=none })) (ownsRow_ne_a vK Vo (fun cur e=>by first|cases e|exact du (iE e).2.1));simpa using this
abbrev O7:Nat:=171
abbrev aak:Nat:=108
theorem aal (n:Nat) (hn:2≤n) (g:Nat) (lb:Array Value) (eg: ∀args w,(callFunc g args).run pg w= .ok (.enter g args) w)
    (S:List de→Prop) (N:Nat) (hN:N≤2^40) (w:World) (ad6:SeqGives eT (n-1) pg g lb (fun t:de=>t.v) S N w):
    CallsIn eT n pg O7 #[.slice none 0 0,.func (.func g) #[] lb] w fun e w'=> ∃(v:Value) (ts:List de),e= .returned v∧S ts∧w'.ownsRow w.heap.size tT 3 v ts.length (ts.map T3).flatten∧Below w.heap.size w w':=by
  have h1:1≤n:=by omega
  have du:yK≠tT:=by decide
  refine callsIn_of_wp_marks (f:=O7) (fn:=Tryz.f171) kQ rfl trivial ?_ rfl;rw [Tryz.ntmps171];change Au _ _ _ _ _ ⟨#[.slice none 0 0,.func (.func g) #[] lb,undef,undef,undef,undef,undef,undef,undef,undef,undef,undef,undef],[]⟩ w
  gi_wp2
  refine wpIn_rangeFunc ?_;intro fn hfn;obtain⟨W0,hW0⟩: ∃W0,w.alloc (.cells #[.slice none 0 0] yK)=W0:=⟨_,rfl⟩;have bR:W0.heap.size=w.heap.size+1:=by rw [←hW0];simp
  have hv0:W0.heap[w.heap.size]? =some (.cells #[.slice none 0 0] yK (0,0)):=by rw [←hW0];exact hP w _
  have AL:Below w.heap.size w W0:=by rw [←hW0];exact(Below.refl _ w).alloc (bg _) _
  rw [hW0];obtain⟨W1,YO⟩: ∃W1,(W0.alloc (.deferred (some []))).alloc (.loop (tH fn (.func (.func g) #[] lb) w.heap.size W0.heap.size .ready none))=W1:=⟨_,rfl⟩;have hold: ∀k,k<W0.heap.size→W1.heap[k]? =W0.heap[k]? :=fun k hk=>by
    rw [←YO];exact(Below.heap_alloc _ _ k (by simp;omega)).trans (Below.heap_alloc _ _ k hk)
  have rT:Below w.heap.size w W1:=by rw [←YO];exact(AL.alloc AL.size _).alloc (by have:=AL.size;simp;omega) _
  have au:W1.heap.size=W0.heap.size+2:=by rw [←YO];simp
  have hM:ApT w fn (.func (.func g) #[] lb) w.heap.size (W0.heap.size+1) W0.heap.size [] W1:=
    ⟨⟨_,(hold w.heap.size zQ).trans hv0,⟨rfl,.inl ⟨rfl,rfl⟩⟩⟩,
     by rw [←YO];have:=hP (W0.alloc (.deferred (some []))) (.loop (tH fn (.func (.func g) #[] lb) w.heap.size W0.heap.size .ready none));rwa [World.size_alloc] at this,
     by rw [←YO];exact(Below.heap_alloc _ _ _ (by simp)).trans (hP W0 _),rT⟩
  refine⟨W0.heap.size+1,[{ target:=.collected W0.heap.size,args:= #[] }],W1,{ target:=.fn (.func g) lb,args:= #[.func (.yield (W0.heap.size+1)) #[] #[]] },W1,g,
    #[.func (.yield (W0.heap.size+1)) #[] #[]]++lb,W1,?_,?_,?_,?_,fun _=>h1,?_⟩
  · rw [←YO];exact run_enterLoop_outer _ _ _ _ _
  · simp [resolve,go_sem]
  · intro f' OH;simp [Target.leads] at OH;subst OH;trivial
  · simp [invoke,go_sem,eg]
  · refine(ad6 (W0.heap.size+1) (ApT w fn (.func (.func g) #[] lb) w.heap.size (W0.heap.size+1) W0.heap.size) W1 rT (aae _ _ _ _ _ _ _ rT.size)
      (fun pre x W hJ hl=>ad5 (n-1-1) w fn _ w.heap.size (W0.heap.size+1) W0.heap.size zQ zQ zQ (bg _) zQ N hN pre x W hJ hl) hM).mono ?_
    rintro e W2 ⟨⟨v0,rfl⟩,ts,hS,h2⟩;obtain⟨v,hv,bJ⟩:=h2.box;have od:=run_endLoop (P:=pg) h2.L (by simp [tH]);obtain⟨W3,O8⟩: ∃W3,W2.putObj (W0.heap.size+1) (.loop { tH fn (.func (.func g) #[] lb) w.heap.size W0.heap.size .ready none with state:=.exhausted })=W3:=⟨_,rfl⟩;rw [O8] at od;have Sa:W2.grownBy W3 (some (W0.heap.size+1)):=by rw [←O8];exact grownBy_putObj_a _ _ _
    have Ov:W3.heap[w.heap.size]? =some (.cells #[v] yK (0,0)):=by rw [←O8];exact(fT zQ).trans hv
    have kY:W3.heap[W0.heap.size]? =some (.deferred (some [])):=by rw [←O8];exact(fT zQ).trans h2.K
    have Dv:=bJ.kept Sa (ownsRow_ne_a bJ h2.L (fun cur e=>by first|cases e|exact du (iE e).2.1));have Mh:Below w.heap.size w W3:=h2.below.grown Sa h2.below.size (fun k e=>by cases e;omega);obtain⟨rh,hf3⟩:=cell_of_box_a Ov;clear O8;refine⟨none,W3,od,?_⟩
    gi_wp2
    rw [←bR];refine⟨by simp,.inl ⟨_,_,rfl,run_takeDeferred kY,?_⟩⟩;exact⟨_,results_tmp rfl _ _ _,v,ts,rfl,hS,Dv.kept (grownBy_putObj_a _ _ _) (ownsRow_ne_a Dv kY (fun cur e=>by first|cases e|exact du (iE e).2.1)),Mh.grown (grownBy_putObj_a _ _ _) Mh.size (fun k e=>by cases e;omega)⟩
theorem ad7 (n:Nat) (hn:3≤n) (g:Nat) (lb:Array Value) (eg: ∀args w,(callFunc g args).run pg w= .ok (.enter g args) w)
  (S:List de→Prop) (N:Nat) (hN:N≤2^40) (w:World) (ad6:SeqGives eT (n-1-1) pg g lb (fun t:de=>t.v) S N w):
  CallsIn eT n pg aak #[.func (.func g) #[] lb] w fun e w'=> ∃(v:Value) (ts:List de),e= .returned v∧S ts∧w'.ownsRow w.heap.size tT 3 v ts.length (ts.map T3).flatten∧Below w.heap.size w w':=by
 have h1:1≤n:=by omega
 have e11: ∀args w,(callFunc O7 args).run pg w= .ok (.enter O7 args) w:=enters_of (fn:=Tryz.f171) kQ kQ rfl;refine callsIn_of_wp (f:=aak) (fn:=Tryz.f108) kQ rfl trivial ?_ rfl;rw [Tryz.ntmps108];change Au _ _ _ _ _ ⟨#[.func (.func g) #[] lb,undef,undef,undef,undef],[]⟩ w
 gi_wp2_with (refine⟨trivial,?_⟩;gi_at_fn O7;refine(aal (n-1) zQ g lb eg S N hN _ ad6).mono ?_;rintro e w' ⟨v,ts,rfl,hS,bJ,hb⟩)
 go_ret
 exact⟨v,ts,rfl,hS,bJ,hb⟩
end Go.Proofs.YtbpnemeooenpmaaGreat
namespace Go.Proofs.YtbpnemeooenpmaaGreat
open Go.Proofs.Tryz renaming prog → pg
open Go.aR Go.RowKit Go.Maps Go.Sort Go.Shelf Go.Proofs
set_option maxRecDepth 100000
set_option maxHeartbeats 1000000
set_option linter.unusedVariables false
set_option linter.unusedSimpArgs false
theorem ad8 {w:World} {X:XS} {mb:Nat} :Ct pg 50 #[.map (some mb)] w X nX fun v wa w'=> ∃bx,v= .func (.func EZ) #[] #[ptr bx 0]∧a7 w' (made wa w') bx [.map (some mb)] UZ:=by
 intro w0 hk;have hs:=ak.init w0;apply lM;unfold gQ;refine td rfl hs.has fun bx w1 X1 gh au bJ=>?_;repeat' first|refine aL ?_;intros
 exact aw au fun wa bk=>⟨bx,rfl,⟨gh,(bJ.kp bk).lt⟩,(bJ.kp bk).2⟩
theorem Xy {w:World} {X:XS} {mb bx:Nat} {l:List (de×Nat)} (h:dS w X nX mb (fun k:de=>k.v) nH l) (hb:a7 w X bx [.map (some mb)] UZ) (hl:l.length≤2^40):
  Ct pg aak #[.func (.func EZ) #[] #[ptr bx 0]] w X nX fun v wa w'=> ∃ts:List de,ts.length=l.length∧Own w' (made wa w') wa.heap.size tT 3 v (ts.map de.l):=by
 intro wa hk;obtain⟨es,c,h1,h2⟩:=h;have Bn:=h2.keys;have hlen:es.length=l.length:=by have:=congrArg aj Bn;simpa using this
 have Iy:=h1.kp hk;have hT:Eh wa mb es c:=by
  exact⟨Iy.2.1,Iy.2.2.2.1,Iy.2.2.2.2⟩
 have hS:=callsIn_wide.1 (ad7 7 zQ EZ #[ptr bx 0] (fun args w=>kM kQ args w) _ es.length zQ wa (Xt (hb.kp hk).lt (by have:=(hb.kp hk).2;simp [pr,this]) hT));refine hS.mono ?_;rintro e w' ⟨v,ts,rfl,hp,bJ,eY⟩;have hx:Ext wa w':=⟨eY.os,eY.tape,eY.output,eY.size,fun k af _=>eY.block k af⟩;refine⟨v,rfl,hx,ts,by rw [hp.length_eq,aI,hlen],?_⟩;refine⟨fun r hr=>by obtain⟨x,_,rfl⟩:=List.mem_map.1 hr;rfl,?_,fun q hq=>⟨?_,?_⟩⟩
 ·rw [aI];exact bJ
 ·exact(bJ.lt _ hq).1
 ·exact(bJ.lt _ hq).2
theorem SP {w:World} {X:XS} {mb bx:Nat} {f:Value} {l:List (de×Nat)} (h:dS w X nX mb (fun k:de=>k.v) nH l) (hb:a7 w X bx [.map (some mb)] UZ) (hl:l.length≤1):
  Ct pg 49 #[.func (.func EZ) #[] #[ptr bx 0],f] w X nX fun v wa w'=> ∃ts:List de,ts.length=l.length∧Own w' (made wa w') wa.heap.size tT 3 v (ts.map de.l):=by
 intro w0 hk;replace h:=h.mv fJ hk.dD (A':=nX) (fun _ h _=>h.elim);replace hb:=hb.mv hk.dD;have hs:=ak.init w0;apply zi;unfold ri;refine dp (Xy h hb zQ) kQ hs.has ?_;rintro v w1 w2 X2 ⟨ts,dz,ho⟩ hle fO bT;have wE:=(ho.sl.mv (Mv.sub fO))
 skip
 refine dp (SL wE (by rw [aI,dz];exact hl)) kQ bT.has ?_;rintro v3 w3 w4 X4 _ qh lL fq;exact aw (bT.trans fq) fun wa bk=>⟨ts,dz,(((ho.up fO hle).since fq).kp bk).tight⟩
theorem Qr {w:World} {Y X:XS} {nb:Nat} {c:pj} {vm va:Value} {al:List (de×Nat)} (h:a7 w Y nb (uj c vm va) nT) (hY: ∀k,Y k→X k) (DB:dS w X nX c.ab (fun k:de=>k.v) nH al) (hl:al.length≤1):
  Ct pg 14 #[ptr nb 0] w X nX fun v wa w'=> ∃ts:List de,ts.length=al.length∧Own w' (made wa w') wa.heap.size tT 3 v (ts.map de.l):=by
 intro w0 hk;replace h:=(h.mv (Mv.sub hY)).mv hk.dD;replace DB:=DB.mv fJ hk.dD (A':=nX) (fun _ h _=>h.elim);have hs:=ak.init w0;apply Gv;unfold xO;repeat' first|refine aL ?_;intros
 refine dp ad8 kQ hs.has ?_;rintro _ wa w2 X2 ⟨bx,rfl,hb⟩ hle fO bT;refine dp (SP (DB.mv fJ bT.mv (A':=nX) (fun _ h _=>h.elim)) (hb.mono fO) hl) kQ bT.has ?_;rintro v w3 w4 X4 ⟨ts,dz,ho⟩ qh lL fq;exact aw (bT.trans fq) fun wa bk=>⟨ts,dz,((ho.up lL (by have:=bT.kp.size;omega)).kp bk).tight⟩
end Go.Proofs.YtbpnemeooenpmaaGreat
namespace Go.Proofs.YtbpnemeooenpmaaGreat
open Go.Proofs.Tryz renaming prog → pg
open Go.aR
set_option maxRecDepth 100000
set_option maxHeartbeats 1000000
set_option linter.unusedVariables false
set_option maxRecDepth 100000
set_option maxHeartbeats 1000000
set_option linter.unusedVariables false
set_option linter.unusedSimpArgs false
attribute [local irreducible] un jn aB aS ld1 dY st1 dr cB kN dw lR uK sP fC e6 ae aC aJ eW eV eU eC eF gE ay fin aQ aF aE vS xh gG gS qK uL sQ xi xj xk gz gP qL uM sR xl xm
theorem Vp {w:World} {X:XS} {a:Value} {l:List dq} {x:Nat} (ha:Sl w X 4 a (l.map dq.l)):Ct pg 11 #[a,.float .f64 x] w X nX fun v _ _=>v= .tuple #[((findF l x).getD .zero).v,B (findF l x).isSome]:=by
 intro w0 hk;replace ha:=ha.mv hk.dD;have jV:=ha.gy;apply SQ;unfold HF;have hs:=ak.init w0;repeat' first|refine aL ?_;intros
 refine fM (fun n a b w X=> ∃i:Nat,a=I i∧b=dq.zero.v∧n=l.length-i∧i≤l.length∧ak (aV w0) w0 X w∧findF l x=findF (l.drop i) x) l.length ⟨0,rfl,rfl,rfl,aG _,hs,rfl⟩ ?_;rintro n a b w X ⟨i,rfl,rfl,rfl,hi,hs,hw⟩;rcases ew (l) i with⟨dz,y,hx,hd⟩|⟨dV,hd⟩
 ·rw [hd] at hw;by_cases hm:dq.tg y x=true
  ·have e:findF l x=some y:=by rw [hw];simp [findF,hm]
   repeat' first|refine bD ?_;intros|((with_reducible refine dJ (xw _ _) ?_ hs.has ?_ ?_);(· kernel_rfl);all_goals (intro _ w X au;replace hs:=hs.trans au))|(exfalso;simp_all [dq.tg];done)|((first|(with_reducible refine aw hs ?_)|(with_reducible refine aw (bR.trans hs) ?_));intro wa hk;(rw [e];rfl))
  ·have e:findF l x=findF (l.drop (i+1)) x:=by rw [hw];simp [findF,hm]
   repeat' first|refine bD ?_;intros|((with_reducible refine dJ (xw _ _) ?_ hs.has ?_ ?_);(· kernel_rfl);all_goals (intro _ w X au;replace hs:=hs.trans au))|(exfalso;simp_all [dq.tg];done)|((with_reducible refine fI ((l).length-(i+1)) ?_ ?_);omega;exact⟨i+1,by simp,rfl,rfl,by omega,hs,e⟩)
 ·rw [hd] at hw;have e:findF l x=none:=by rw [hw];rfl
  repeat' first|refine bD ?_;intros|((first|(with_reducible refine aw hs ?_)|(with_reducible refine aw (bR.trans hs) ?_));intro wa hk;(rw [e];rfl))
end Go.Proofs.YtbpnemeooenpmaaGreat
