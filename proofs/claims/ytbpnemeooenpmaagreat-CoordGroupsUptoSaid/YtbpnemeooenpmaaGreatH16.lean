/-
 Part 16 of the proof: what the last text leans on.
-/
import Derived.Shelf.SlIter.Collect
import Derived.Test.YtbpnemeooenpmaaGreatH15
open Go.Value renaming int → aA, cells → aa, agg → ak, slice → kO
open Go.IntKind renaming i64 → cR
open Array renaming toList → ad
open List renaming length → ai, length_map → aH, all → aq, toList_toArray → de, length_append → au, filter_cons → cV, length_pos_of_mem → rZ, append_assoc → aI, length_nil → bI, take_add_one → cC, map_append → bC, take_of_length_le → bA, mem_singleton → bw
open Nat renaming lt_of_lt_of_le → aG, zero_le → aF, le_trans → ah, le_refl → ba
open Go.Operand renaming tmp → iJ
open Go.Obj.cells renaming inj → iC
open Go.World renaming putObj_heap_other → fU, alloc_heap_new → gY, cell? → pq, putObj_heap_same → r6
open Go.Fence renaming wide → eT
open Go.Ground renaming data → pr, phase → ot
open Go.Result renaming andThen → tz
open Go.Code renaming wpIn → As
open Go.Oper renaming semAt_plain → xF
open Option renaming toList_some → fj
open Go.KeepsWalks renaming alloc → xG, putObj → wP
set_option linter.unusedVariables false
set_option linter.unusedSimpArgs false
namespace Go.Proofs.YtbpnemeooenpmaaGreat
open Go.Proofs.Tryz renaming prog → pg
open Go.aV Go.RowKit Go.Maps Go.Sort Go.Shelf Go.ChangeMaps
set_option maxRecDepth 100000
set_option maxHeartbeats 2000000
set_option linter.unusedVariables false
set_option linter.unusedSimpArgs false
abbrev EX:Nat:=110
abbrev UO:Nat:=88
abbrev tT:Nat:=27
structure Ee (w:World) (b:Nat) (es:List (gA dc)) (c:Nat):Prop where
 rB:w.heap[b]? =some (.map (es.map (jh fun k:dc=>k.v)).toArray c)
 nd:(es.map (·.2.2)).Nodup
 lt: ∀x∈es,x.2.2<c
def qv (es:List (gA dc)) (seen:Array Nat):List (gA dc):=es.filter fun x=>!seen.contains x.2.2
theorem MZ (es:List (gA dc)) (seen:Array Nat):(leftOf (es.map (jh fun k:dc=>k.v)).toArray seen).toList=(qv es seen).map (jh fun k:dc=>k.v):=by
 simp only [leftOf,qv,Array.toList_filter,de,List.filter_map];rfl
theorem OJ {es:List (gA dc)} {seen:Array Nat} (hn:(es.map (·.2.2)).Nodup) {x:gA dc} (hx:x∈qv es seen):((x::qv es (seen.push x.2.2)).Perm (qv es seen)):=by
 have nr:=List.mem_filter.1 hx;have e:qv es (seen.push x.2.2)=(qv es seen).filter fun y=>decide (y.2.2≠x.2.2):=by
  unfold qv;rw [List.filter_filter]
  congr 1
  funext y
  by_cases hy:y.2.2=x.2.2<;>simp [hy,Array.contains_push,Bool.beq_eq_decide_eq]
 rw [e];have jf:((qv es seen).map (·.2.2)).Nodup:=hn.sublist (List.Sublist.map _ List.filter_sublist);generalize qv es seen=l at hx jf
 induction l with
 |nil=>cases hx
 |cons y l ih=>
  have h1:=List.nodup_cons.1 jf;rcases List.mem_cons.1 hx with rfl|EY
  ·rw [cV,if_neg (by simp)];have:l.filter (fun y=>decide (y.2.2≠x.2.2))=l:=List.filter_eq_self.2 fun z hz=>by
    have:z.2.2≠x.2.2:=fun e=>h1.1 (List.mem_map.2 ⟨z,hz,e⟩);simpa using this
   rw [this]
  ·have du:y.2.2≠x.2.2:=fun e=>h1.1 (List.mem_map.2 ⟨x,EY,e.symm⟩);rw [cV,if_pos (by simpa using du)];exact(List.Perm.swap _ _ _).trans ((ih EY h1.2).cons _)
theorem abO (w:World) (r:Nat) (o:Obj):w.grownBy (setBlock w r o) (some r)∧(setBlock w r o).heap.size=w.heap.size:=
 ⟨⟨rfl,rfl,rfl,by simp [setBlock],fun k hk du=>by
  have:r≠k:=fun e=>du (by rw [e]);simp [setBlock,Array.getElem?_setIfInBounds,this]⟩,by simp [setBlock]⟩
section
variable {F : Fence} {n : Nat} {ops : Array Oper} {Q : Exit → Act → World → Prop} {o : Oper} {rest : List Oper} {a : Act} {w : World} {es : List (gA dc)} {b r c : Nat}
theorem M6 (hg:o.guard=none) (m:Operand) (sN:o.op=Op.range UO m) (hm:a.eval m= .map (some b)) (h:Ee w b es c)
  (hK:wpListIn F n pg ops Q rest (a.put o.dst (ptr w.heap.size 0)) (w.alloc (.mapIter (some b) c #[] c))):wpListIn F n pg ops Q (o::rest) a w:=by
 refine wpListIn_plain hg fun K' hK'=>?_;have jG:=run_range_map (P:=pg) w UO tT 110 b _ c kQ h.rB;unfold Oper.wpIn;refine⟨by simp [Oper.about,sN],?_⟩;rw [xF F _ _ (by rw [sN];intro c CY;cases CY)];simp [execOp,sN,hm,jG,tz];exact hK' _ _ hK
theorem OK (hg:o.guard=none) (it:Operand) (sN:o.op=Op.next it false) (seen:Array Nat) (Hx:a.eval it= .pointer (some ⟨r,0,none⟩)) (hb:Ee w b es c) (hrb:r≠b) (hr:w.heap[r]? =some (.mapIter (some b) c seen c))
  (ajy:qv es seen=[]→wpListIn F n pg ops Q rest (a.put o.dst (.tuple #[.bool false])) w)
  (ajz: ∀x∈qv es seen,∀w',w.grownBy w' (some r)→w'.heap.size=w.heap.size→w'.heap[r]? =some (.mapIter (some b) c (seen.push x.2.2) c)→
   (Instr.entry (.pointer (some ⟨r,0,none⟩))).run pg w'= .ok (.tuple #[x.1.v,x.2.1]) w'→wpListIn F n pg ops Q rest (a.put o.dst (.tuple #[.bool true,x.1.v,x.2.1])) w'):
  wpListIn F n pg ops Q (o::rest) a w:=by
 refine wpListIn_plain hg fun K' hK'=>?_;unfold Oper.wpIn;refine⟨by simp [Oper.about,sN],?_⟩;rw [xF F _ _ (by rw [sN];intro c CY;cases CY)];have hold: ∀x∈((es.map (jh fun k:dc=>k.v)).toArray).toList,x.born<c:=by
  intro x hx;simp only [de,List.mem_map] at hx;obtain⟨y,hy,rfl⟩:=hx;exact hb.lt y hy
 rcases run_next_at (P:=pg) w o.type r b c c seen _ c hr hb.rB hold (ba _)with⟨hz,jG⟩|⟨e,he,w1,Dx,jG⟩
 ·simp [execOp,sN,Hx,jG,tz];refine hK' _ _ (ajy ?_);have:(qv es seen).map (jh fun k:dc=>k.v)=[]:=by rw [←MZ];exact List.eq_nil_of_length_eq_zero (by simpa using hz)
  simpa using this
 ·rw [MZ] at he;obtain⟨x,hx,rfl⟩:=List.mem_map.1 he;simp [execOp,sN,Hx,jG,tz];have B9:r<w.heap.size:=(Array.getElem?_eq_some_iff.1 hr).1;obtain⟨hw,fL⟩:w.grownBy (setBlock w1 r (.mapIter (some b) c (seen.push x.2.2) c)) (some r)∧(setBlock w1 r (.mapIter (some b) c (seen.push x.2.2) c)).heap.size=w.heap.size:=by
   have h1:=abO w1 r (.mapIter (some b) c (seen.push x.2.2) c);rcases Dx with e|e
   ·rw [e] at h1⊢;exact h1
   ·rw [e] at h1⊢;exact⟨⟨h1.1.os,h1.1.tape,h1.1.output,h1.1.size,h1.1.block⟩,h1.2⟩
  have qp:(setBlock w1 r (.mapIter (some b) c (seen.push x.2.2) c)).heap[r]? =some (.mapIter (some b) c (seen.push x.2.2) c):=Jg (by rcases Dx with rfl|rfl<;>exact B9);refine hK' _ _ (ajz x hx _ hw fL qp ?_);have eY:=(hw.block b (Array.getElem?_eq_some_iff.1 hb.rB).1 (fun e=>hrb (by cases e;rfl))).trans hb.rB;exact run_entry_at (P:=pg) _ r b c seen (es.map (jh fun k:dc=>k.v)).toArray c (jh (fun k:dc=>k.v) x) qp eY (by rw [de];exact List.mem_map.2 ⟨x,(List.mem_filter.1 hx).1,rfl⟩)
   (by rw [de,List.map_map];exact hb.nd)
theorem Mb {w:World} {b r c:Nat} {es:List (gA dc)} {seen:Array Nat} (hb:Ee w b es c) (hr:w.heap[r]? =some (.mapIter (some b) c seen c)):w.rangeLeft b r=(qv es seen).length:=by
 unfold World.rangeLeft;rw [hb.rB,hr];have h1:=congrArg ai (MZ es seen);rw [aH] at h1;rw [←h1,Array.length_toList]
theorem Xl {Bm:Nat} (hBm:Bm<w.heap.size) (hm:w.cell? ⟨Bm,0,none⟩=some (.map (some b))) (h:Ee w b es c):
  SeqGives eT 5 pg EX #[.pointer (some ⟨Bm,0,none⟩)] (fun t:dc=>t.v) (fun ts=>ts.Perm (es.map (·.1))) es.length w:=fun l J W hW hJ hY h0=>by
 have hT:Ee W b es c:=⟨(hW.block b (Array.getElem?_eq_some_iff.1 h.rB).1).trans h.rB,h.nd,h.lt⟩;have hm':=(hW.cell (p:=⟨Bm,0,none⟩) hBm).trans hm;refine callsIn_of_wp (f:=EX) (fn:=Tryz.f110) kQ rfl trivial ?_ rfl;rw [Tryz.ntmps110];change As _ _ _ _ _ ⟨#[.func (.yield l) #[] #[],.pointer (some ⟨Bm,0,none⟩),undef,undef,undef,undef,undef,undef,undef,undef,undef,undef,undef,undef],[]⟩ W
 gi_wp2_with (first
  |(gi_at_range;refine M6 rfl _ rfl rfl hT ?_)
  |gi_in)
 have C8:=(Array.getElem?_eq_some_iff.1 hT.rB).1;have yD:W.grownBy (W.alloc (.mapIter (some b) c #[] c)) none:=⟨rfl,rfl,rfl,by simp,fun k hk _=>Below.heap_alloc _ _ k hk⟩;have Dy:(W.alloc (.mapIter (some b) c #[] c)).heap[W.heap.size]? =some (.mapIter (some b) c #[] c):=gY _ _
 gi_loopw [3] (fun _ wr=> ∃(seen:Array Nat) (ts:List dc),Ee wr b es c∧wr.heap[W.heap.size]? =some (.mapIter (some b) c seen c)∧(ts++(qv es seen).map (·.1)).Perm (es.map (·.1))∧J ts wr)
  (fun _ wr=>wr.rangeLeft b W.heap.size)
 case amv=>
  refine⟨#[],[],⟨(yD.block b C8 (by simp)).trans hT.rB,h.nd,h.lt⟩,Dy,?_,hJ [] W _ none h0 yD (fun r e=>by cases e)⟩;have:qv es #[]=es:=List.filter_eq_self.2 (by simp);rw [this];exact List.Perm.refl _
 case round=>
  obtain⟨seen,ts,hb,hr,hp,hJs⟩:=amQ
  gi_wp2_with (first
   |(gi_at_next;refine OK rfl _ rfl seen rfl hb zQ hr ?_ ?_)
   |gi_in)
  ·intro hl0
   gi_wp2
   go_end0
   exact⟨⟨_,rfl⟩,ts,by rw [hl0] at hp;simpa using hp,hJs⟩
  ·intro x v0 bn hx w2 Jh bU qU hen;have hJ2:J ts w2:=hJ ts wr w2 (some W.heap.size) hJs Jh (fun r e=>by cases e;exact⟨ba _,_,hr,rfl⟩);have wG:Ee w2 b es c:=⟨(Jh.block b (Array.getElem?_eq_some_iff.1 hb.rB).1 (fun e=>by cases e;omega)).trans hb.rB,hb.nd,hb.lt⟩;have hlen:ts.length<es.length:=by
    have h1:=hp.length_eq;have h2:=rZ hx;simp only [au,aH] at h1;omega
   have hJ3:J ts (w2.alloc (.cells #[aA cR x.gM,aA cR x.ga,aA cR x.sq] 27)):=hJ ts w2 _ none hJ2 ⟨rfl,rfl,rfl,by simp,fun k hk _=>Below.heap_alloc _ _ k hk⟩ (fun r e=>by cases e);obtain⟨fn,tmps,assign,body,hy,hR⟩:=hY ts x _ hJ3 hlen;change (Instr.yield l #[ak #[aA cR x.gM,aA cR x.ga,aA cR x.sq]]).run pg _=_ at hy;have Mc:Ee (w2.alloc (.cells #[aA cR x.gM,aA cR x.ga,aA cR x.sq] 27)) b es c:=⟨(Below.heap_alloc _ _ b (Array.getElem?_eq_some_iff.1 wG.rB).1).trans wG.rB,hb.nd,hb.lt⟩;have sT:(w2.alloc (.cells #[aA cR x.gM,aA cR x.ga,aA cR x.sq] 27)).heap[W.heap.size]? =some (.mapIter (some b) c (seen.push bn) c):=(Below.heap_alloc _ _ _ (Array.getElem?_eq_some_iff.1 qU).1).trans qU;clear bU
   gi_wp2
   refine hR.mono ?_;rintro e W3 ⟨rfl,hJ4,RS⟩;have Cp:Ee W3 b es c:=⟨RS.same b _ Mc.rB rfl,hb.nd,hb.lt⟩;have TY:=RS.same _ _ sT rfl
   gi_wp2
   go_roundw
   case rel=>
    refine⟨seen.push bn,ts++[x],Cp,TY,?_,hJ4⟩;have hq:=(OJ h.nd hx).map (·.1);refine List.Perm.trans ?_ hp;rw [aI];exact(List.Perm.append_left ts hq)
   case measure=>
    rw [Mb Cp TY,Mb hb hr];have:=(OJ h.nd hx).length_eq;simp only [List.length_cons] at this;omega
end
end Go.Proofs.YtbpnemeooenpmaaGreat
namespace Go.Proofs.YtbpnemeooenpmaaGreat
open Go.Proofs.Tryz renaming prog → pg
open Go.aV
set_option maxRecDepth 100000
set_option maxHeartbeats 1000000
set_option linter.unusedVariables false
set_option linter.unusedSimpArgs false
attribute [local irreducible] un jn aC aS ld1 dY st1 dt cD kK dC lQ uJ sO fH e7 ae aB aK eW eV eU eC eF gE az fin aP aE aD vS xd gO gW ry uK sP xe xf xg gB gR rz uL sQ xh xi
theorem OL: ∀{l:List Nat} {x:Nat},x∈l→x≤l.sum
 |y::l,x,h=>by
  rw [List.sum_cons];rcases List.mem_cons.1 h with e|h
  ·omega
  ·have:=OL h;omega
theorem Md (a b:Int) (p:List fw):(dW a b p).Nodup:=(kI _).nodup_iff.2 (Cb p [] 0 (a:=a) (b:=b) List.nodup_nil (fun x hx=>by cases hx) (ba _)).1
def xH (g:ke):dF:= { uE with kind:=1,range:=g.lE.id,gx:=g.lE.gx,keys:=g.keys }
def jE (ds:gJ) (p:List fw):List ke:=jX ds (gp ds [] (dW 1 1 p)).1
def qW (ds:gJ) (p:List fw):List dF:=(jE ds p).map xH
section
variable {w w' wa : World} {X X' K K' Y D A : XS} {nb xb mb : Nat} {c : ph} {x : oN} {vm va vw dZ gr ia fy jY : Value} {al : List (dc × Nat)} {rm ra rw : List (List Value)} {ms ws : List dF} {ps : List Int} {ds : gJ} {ck : cw}
theorem fu.told (h:fu w K nb xb c x vm va vw dZ al rm ra rw ms ws ps) (hr:a7 w' (· =nb) nb (ui c aN aN) nT) (hb: ∀k,cF nb xb c.ab vm va vw dZ k→k≠nb→w'.heap[k]? =w.heap[k]?) (hK:Mv K w K w'):
  fu w' (fun k=>K k∨cY vm k∨cY va k) nb xb c x aN aN vw dZ al [] [] rw [] ws ps where
 row:=hr
 act:=h.act.mv fun k hk _=>⟨hk,hb k (.inr (.inl hk)) (by rw [hk];exact fun e=>h.ap.nx e.symm)⟩
 am:=h.am.mv fK (fun k hk _=>⟨hk,hb k (.inr (.inr (.inl hk))) (by rw [hk];exact h.ap.an)⟩) fun _ h=>h.elim
 om:=Own.nil _ _ _ _ _
 oa:=Own.nil _ _ _ _ _
 ow:=h.ow.mv fun k hk _=>⟨hk,hb k (.inr (.inr (.inr (.inr (.inr (.inl hk)))))) (h.ap.w k hk).1⟩
 op:=h.op.mv fun k hk _=>⟨hk,hb k (.inr (.inr (.inr (.inr (.inr (.inr hk)))))) (h.ap.p k hk).1⟩
 hm:=jo.nil _ _
 hw:=h.hw.mv fun k hk hl=>⟨.inl hk,(hK k hk hl).2⟩
 sep:=fun g hg=>by cases hg
 kd:=fun k hk hf=>by
  have OB:k=nb∨k=xb∨k=c.ab∨cY vw k∨cY dZ k:=by
   rcases hf with q|q|q|q|q|q|q
   ·exact .inl q
   ·exact .inr (.inl q)
   ·exact .inr (.inr (.inl q))
   ·cases q
   ·cases q
   ·exact .inr (.inr (.inr (.inl q)))
   ·exact .inr (.inr (.inr (.inr q)))
  rcases hk with e|e|e
  ·refine h.kd k e ?_;rcases OB with q|q|q|q|q
   ·exact .inl q
   ·exact .inr (.inl q)
   ·exact .inr (.inr (.inl q))
   ·exact .inr (.inr (.inr (.inr (.inr (.inl q)))))
   ·exact .inr (.inr (.inr (.inr (.inr (.inr q)))))
  ·obtain⟨a1,a2,a3,a4,a5,a6⟩:=h.ap.m k e;rcases OB with q|q|q|q|q
   ·exact a1 q
   ·exact a2 q
   ·exact a3 q
   ·exact a5 q
   ·exact a6 q
  ·obtain⟨a1,a2,a3,a4,a5,a6⟩:=h.ap.a k e;rcases OB with q|q|q|q|q
   ·exact a1 q
   ·exact a2 q
   ·exact a3 q
   ·exact a5 q
   ·exact a6 q
 o1:=h.o1
 o2:=h.o2
 o3:=h.o3
 o4:=h.o4
def Qa (R:Ending→World→Prop) (nb xb:Nat) (w:World) (X:XS):Prop:=(jn (fun (y1:Value) (y2:Value) (w1:World) (X1:XS)=>
un (cq y1 0 3) fun u1=>
un (cq y2 0 2) fun u2=>
aC (aq [y1,y2,(.agg #[(I 0)])] bP) (fin R X1 w1 (Value.tuple #[u1,u2,(I 0)]))) fun k1=>
((And
(aB pg X w (aE (ptr xb 0)) fun x1=>
(And
(ae pg X w (aS aT 0 0 3 x1) fun x2=>
(And
(ae pg X w (dY 27 3 x2) fun x3=>
(eC pg R X w true 35 #[ptr nb 0] fun x4 w2 X2=>
(un (ak (aa x3)) fun u3=>
aC (ai (ad (aa x3))==3) (aC (aq (ad (aa x3)) aV.one) ((un (ak (aa x4)) fun u4=>
aC (ai (ad (aa x4))==2) (aC (aq (ad (aa x4)) aV.one) (k1 u3 u4 w2 X2))))))))
(eC pg R X w true 35 #[ptr nb 0] fun x5 w3 X3=>
(ae pg X3 w3 (dY 27 3 x2) fun x6=>
(un (ak (aa x6)) fun u5=>
aC (ai (ad (aa x6))==3) (aC (aq (ad (aa x6)) aV.one) ((un (ak (aa x5)) fun u6=>
aC (ai (ad (aa x5))==2) (aC (aq (ad (aa x5)) aV.one) (k1 u5 u6 w3 X3))))))))))
(eC pg R X w true 35 #[ptr nb 0] fun x7 w4 X4=>
(ae pg X4 w4 (aS aT 0 0 3 x1) fun x8=>
(ae pg X4 w4 (dY 27 3 x8) fun x9=>
(un (ak (aa x9)) fun u7=>
aC (ai (ad (aa x9))==3) (aC (aq (ad (aa x9)) aV.one) ((un (ak (aa x7)) fun u8=>
aC (ai (ad (aa x7))==2) (aC (aq (ad (aa x7)) aV.one) (k1 u7 u8 w4 X4)))))))))))
(eC pg R X w true 35 #[ptr nb 0] fun x10 w5 X5=>
(aB pg X5 w5 (aE (ptr xb 0)) fun x11=>
(ae pg X5 w5 (aS aT 0 0 3 x11) fun x12=>
(ae pg X5 w5 (dY 27 3 x12) fun x13=>
(un (ak (aa x13)) fun u9=>
aC (ai (ad (aa x13))==3) (aC (aq (ad (aa x13)) aV.one) ((un (ak (aa x10)) fun u10=>
aC (ai (ad (aa x10))==2) (aC (aq (ad (aa x10)) aV.one) (k1 u9 u10 w5 X5)))))))))))))
theorem adC {R:Ending→World→Prop} {w0:World} {F:XS} {cb:Nat} (hT:Ft w0 F w X (fun k=>cF nb xb c.ab vm va vw aN k∨k=cb)) (h:fu w K nb xb c x vm va vw aN al rm ra rw ms ws [])
  (n: ∀w9 X9,Ft w0 F w9 X9 (fun k=>cF nb xb c.ab vm va vw aN k∨k=cb)→a7 w9 (· =nb) nb (ui c aN aN) nT→(∀k,X k→X9 k∧(k≠nb→w9.heap[k]? =w.heap[k]?))→fin R X9 w9 (.tuple #[x.dK.v,.agg #[vm,va],I 0])):Qa R nb xb w X:=by
 unfold Qa;have jl:=h.act.mono fun k e=>hT.bK k (.inl (.inr (.inl e)));have nB:=h.ap.nx;have ovm:=h.om.sl.one;have ova:=h.oa.sl.one;have told: ∀{w8:World} {X8:XS} {N:Value→World→XS→Prop},aj X w X8 w8→(∀w9 X9,Ft w0 F w9 X9 (fun k=>cF nb xb c.ab vm va vw aN k∨k=cb)→a7 w9 (· =nb) nb (ui c aN aN) nT→(∀k,X k→X9 k∧(k≠nb→w9.heap[k]? =w.heap[k]?))→N (.agg #[vm,va]) w9 X9)→
   eC pg R X8 w8 true 35 #[ptr nb 0] N:=fun {w8 X8 N} mh k=>by
  have od:=hT.since mh;have hnX:=hT.bK nb (.inl (.inl rfl));have Yw:a7 w8 (· =nb) nb (ui c vm va) nT:=h.row.mv fun k af _=>⟨af,by rw [af];exact mh.kp.block _ hnX⟩;refine od.call (I2 (Y:=(· =nb)) Yw (fun k af=>by subst af;exact⟨mh.sub _ hnX,mh.has _ (mh.sub _ hnX)⟩) h.o1 ovm ova) kQ (fun k e=>.inl (.inl e)) fun v C7 w9 X9 hq hle fP lT c9=>?_;obtain⟨rfl,wO⟩:=hq;exact k _ _ (lT.less fun k e=>.inl e) wO fun k af=>⟨c9.sub k (mh.sub k af),fun du=>(c9.block k (mh.sub k af) du).trans (mh.kp.block k af)⟩
 have hs:=aj.ct hT.s.has;refine mm (Q:=fun Kx=> ∀w9 X9,Ft w0 F w9 X9 (fun k=>cF nb xb c.ab vm va vw aN k∨k=cb)→a7 w9 (· =nb) nb (ui c aN aN) nT→(∀k,X k→X9 k∧(k≠nb→w9.heap[k]? =w.heap[k]?))→Kx (.agg #[I x.dK.gM,I x.dK.ga,I x.dK.sq]) (.agg #[vm,va]) w9 X9) ?_ fun Kx hKx=>?_
 ·intro w9 X9 lT wO mW;have hq:=n w9 X9 lT wO mW;clear hs n;have hs:=aj.ct lT.s.has;repeat' first|refine aJ ?_;intros
  exact hq
 ·have adD: ∀{w9:World} {X9:XS},(∀k,X k→X9 k∧(k≠nb→w9.heap[k]? =w.heap[k]?))→a7 w9 X9 xb (Cg x vw) aT:=fun {w9 X9} mW=>⟨(mW xb jl.1).1,((mW xb jl.1).2 nB.symm).trans jl.2⟩;have ld: ∀{w9:World} {X9:XS} {N:Value→Prop},(∀k,X k→X9 k∧(k≠nb→w9.heap[k]? =w.heap[k]?))→N (.agg #[I x.dK.gM,I x.dK.ga,I x.dK.sq])→ae pg X9 w9 (dY 27 3 (ptr xb 0)) N:=fun {w9 X9 N} mW k=>by
   have hc9:=(adD mW).cells.part 0 3;exact ZJ hc9 (Mv.refl _ _) kQ rfl k
  refine⟨?_,?_⟩
  ·repeat' first|refine aJ ?_;intros
   refine⟨?_,?_⟩
   ·repeat' first|refine aJ ?_;intros
    refine⟨?_,?_⟩
    ·repeat' first|refine aJ ?_;intros
     refine told hs fun w9 X9 lT wO mW=>?_;clear hs;have hs:=aj.ct lT.s.has;repeat' first|refine aJ ?_;intros
     exact hKx _ _ lT wO mW
    ·rename_i o ho hc;subst ho;refine told hs fun w9 X9 lT wO mW=>ld mW ?_;clear hs;have hs:=aj.ct lT.s.has;repeat' first|refine aJ ?_;intros
     exact hKx _ _ lT wO mW
   ·refine told hs fun w9 X9 lT wO mW=>?_;clear hs;have hs:=aj.ct lT.s.has;have ajA:=adD mW;repeat' first|refine aJ ?_;intros
    exact hKx _ _ lT wO mW
  ·refine told hs fun w9 X9 lT wO mW=>?_;clear hs;have hs:=aj.ct lT.s.has;have ajA:=adD mW;repeat' first|refine aJ ?_;intros
   exact hKx _ _ lT wO mW
structure afh (nb mb:Nat) (c:ph) (D:XS) (al:List (dc×Nat)) (p:List fw) (ck:cw) (eh:Int) (ds:gJ) (v:Value) (wa w':World) (xb:Nat) (x:oN) (vm va vw:Value) (K:XS) (mV:List (dc×Nat)) (rm ra rw:List (List Value)) (ms ws:List dF) (uk:cw):Prop where
  v:v= .tuple #[(⟨c.id,c.ga,c.uh+1⟩:dc).v,.agg #[vm,va],I 0]
  mid:fu w' K nb xb { c with uh:=c.uh+1 } x aN aN vw aN mV [] [] rw [] ws []
  dK:x.dK=⟨c.id,c.ga,c.uh+1⟩
  om:Sl w' K 36 vm rm
  hm:jo w' K rm ms
  oa:Sl w' K 9 va ra
  UI:a7 w' (· =c.cb) c.cb (kz uk) kL
  f: ∀k,cF nb xb c.ab aN aN vw aN k→k=nb∨k=c.ab∨made wa w' k
  k1: ∀k,K k→D k∨made wa w' k
  k2: ∀k,D k→K k
  res:(ra.length=1∧(mC p ck eh ds≠0∨(dW 1 1 p=[]∧ ∀wr,¬xC p ds wr)))∨(ra=[]∧mC p ck eh ds=0∧mV=dS ⟨c.id,c.ga,c.uh+1⟩ xb al∧uk=(ck.qK eh).1∧
    ((dW 1 1 p≠[]∧ms=(qW ds p).map fun m=>(m.asked x).l9 (20+c.id))∨
     (dW 1 1 p=[]∧ ∃wr,xC p ds wr∧x.pre=true∧x.vs=aN∧x.wK= .zero∧Sl w' K 1 x.vq (((fb ds wr).map (·.lE.id)).map I1)∧ms=(lV ds wr).map (fun m=>(m.asked x).l9 (20+c.id))∧ws=(lV ds wr).map fun m=>m.asked x)))
def afi (nb mb:Nat) (c:ph) (D:XS) (al:List (dc×Nat)) (p:List fw) (ck:cw) (eh:Int) (ds:gJ) (v:Value) (wa w':World):Prop:=
 ∃xb x vm va vw K mV rm ra rw ms ws uk,afh nb mb c D al p ck eh ds v wa w' xb x vm va vw K mV rm ra rw ms ws uk
theorem Ji {a:Value} {p:List fw} {eh:Int} (kH:a7 w (· =nb) nb (ui c aN aN) nT) (Dz:dR w (· =c.ab) nX c.ab (fun k:dc=>k.v) nG al) (jK:a7 w (· =c.cb) c.cb (kz ck) kL) (M7:gN w D c.Aq mb ds)
    (hW: ∀(i:Int) (r:dq),getM i ds=some r→r.id=i) (o1:aV.one c.cm=true) (hF:FX (fun k=>k=nb∨k=c.ab∨k=c.cb) X w) (hD:FX D X w) (hDF: ∀k,D k→k≠nb∧k≠c.ab∧k≠c.cb) (ha:Sl w A 5 a (p.map fw.l)) (hA: ∀k,A k→X k∧k≠nb∧k≠c.ab∧k≠c.cb) (I8:p.length≤2^30)
    (hi:1≤c.id∧c.id≤2) (qH:0≤c.uh) (Og:c.uh≤2^40) (hl:ck.ep<2^60) (IA: -(2^60)<ck.ep):
    Ct pg 8 #[ptr nb 0,I eh,a] w X (fun k=>k=nb∨k=c.ab∨k=c.cb) fun v wa w'=>afi nb mb c D al p ck eh ds v wa w':=by
  intro w0 hk;have hT:=hF.ft hk;have mK:=hF.kp hk;have LP:=hD.kp hk;replace kH:a7 w0 (· =nb) nb (ui c aN aN) nT:=kH.mv fun k af _=>⟨af,hk.block k (hF k (.inl af)).1⟩;replace Dz:dR w0 (· =c.ab) nX c.ab (fun k:dc=>k.v) nG al:=Dz.mv fK (fun k af _=>⟨af,hk.block k (hF k (.inr (.inl af))).1⟩) fun _ h=>h.elim;replace jK:a7 w0 (· =c.cb) c.cb (kz ck) kL:=jK.mv fun k af _=>⟨af,hk.block k (hF k (.inr (.inr af))).1⟩;replace M7:=M7.mv (hk.fi fun k af=>(hD k af).1);replace ha:=ha.mv (hk.fi fun k af=>(hA k af).1);clear hF hD hk;refine Jj (fun g hg=>?_) (fun ch w hh=>by obtain⟨v,he,_⟩:=hh;cases he) ?_
  · have e:Au Tryz.f8=some 31:=by kernel_rfl
    rw [e] at hg;cases hg;exact Xg
  unfold tA;have hs:=aj.init w0;have bJ:=kH.mono fun k e=>(mK k (.inl e)).1;repeat' first|refine aJ ?_;intros
  refine qu (o:=2) bJ zQ kQ (by simp) rfl hs.has fun w1 X1 c1 uY=>?_;have dU:=hT.fM (F':=fun k=>k=nb∨k=c.ab∨k=c.cb) c1 (fun k e=>.inl e) fun k e=>.inl e;obtain⟨d,hd⟩: ∃d:ph,d= { c with uh:=c.uh+1 } :=⟨_,rfl⟩;have ml:a7 w1 X1 nb (ui d aN aN) nT:=by rw [hd];exact uY
  obtain⟨d1,d2,d3,d4,d5,d6,d7⟩:d.id=c.id∧d.ga=c.ga∧d.uh=c.uh+1∧d.ab=c.ab∧d.cb=c.cb∧d.Aq=c.Aq∧d.cm=c.cm:=by rw [hd];exact⟨rfl,rfl,rfl,rfl,rfl,rfl,rfl⟩
  have nD:Sl w1 X1 5 a (p.map fw.l):=ha.mv fun k af hl=>⟨c1.sub k hl,c1.block k hl (hA k af).2.1⟩;have Uw:c.ab≠nb:=Dz.eA kH;have adi:c.cb≠nb:=IU jK kH kQ;have UP:c.ab≠c.cb:=Dz.eA jK;have adE:dR w1 (· =c.ab) nX c.ab (fun k:dc=>k.v) nG al:=Dz.mv fK (fun k af _=>⟨af,c1.block k (mK k (.inr (.inl af))).1 (by rw [af];exact Uw)⟩) fun _ h=>h.elim;have KP:a7 w1 (· =c.cb) c.cb (kz ck) kL:=jK.mv fun k af _=>⟨af,c1.block k (mK k (.inr (.inr af))).1 (by rw [af];exact adi)⟩;have afj:gN w1 D c.Aq mb ds:=M7.mv fun k af _=>⟨af,c1.block k (LP k af).1 (hDF k af).1⟩;have Yy:FX (fun k=>k=nb∨k=c.ab∨k=c.cb) X1 w1:=dU.fx fun _ h=>h;have yA:FX D X1 w1:=fun k af=>⟨c1.sub k (LP k af).1,c1.has k (c1.sub k (LP k af).1)⟩;clear hs bJ uY ha Dz jK M7 hT kH;have hs:=aj.ct dU.s.has;repeat' first|refine aJ ?_;intros
  refine dp (Xj nD zQ) kQ hs.has ?_;rintro vp zF w2 X2 q2 qI nV bU;obtain⟨t1,t2,t3,rfl⟩:=q2.sl.form;have ovp:=q2.sl.one;clear hs;have hs:=aj.ct bU.has;repeat' first|refine aJ ?_;intros|(with_reducible apply nY);(case hX=>exact hs.has);intro bx w X gh ao bJ;have bS:=hs.trans ao;replace hs:=aj.ct ao.has
  have Ef:=bU.trans ao;have RY:Own w X w1.heap.size _ 5 (.slice t1 t2 t3) _:=(q2.up nV qI).since ao;have alb: ∀k,cY (.slice t1 t2 t3) k→k<w2.heap.size:=fun k af=>(q2.ge af).2;have AM:=bU.kp.size;have UQ:=dU.s.kp.size;have hz3:=Ef.kp.size;obtain⟨x0,UR⟩: ∃x0:oN,x0=⟨⟨d.id,d.ga,d.uh⟩,.slice t1 t2 t3,.zero,0,aN,false,aN,.zero⟩:=⟨_,rfl⟩;have h3:fu w (fun k=>D k∨cY (.slice t1 t2 t3) k) nb bx d x0 aN aN aN aN al [] [] [] [] [] []:=by
    refine⟨⟨rfl,(Ef.kp.block nb ml.1).trans ml.2⟩,⟨rfl,by rw [UR];exact bJ.2⟩,?_,Own.nil _ _ _ _ _,Own.nil _ _ _ _ _,Own.nil _ _ _ _ _,Own.nil _ _ _ _ _,jo.nil _ _,jo.nil _ _,fun g hg=>(by cases hg),fun k af hf=>?_,by rw [d7];exact o1,by rw [UR];exact ovp,by rw [UR];rfl,by rw [UR];rfl⟩
    · rw [d4];exact adE.mv fK (fun k af _=>⟨af,Ef.kp.block k (Yy k (.inr (.inl af))).1⟩) fun _ h=>h.elim
    · have dy:k<bx:=by
        rcases af with e|e
        · have:=(yA k e).2;omega
        · have:=alb k e;omega
      rcases hf with q|q|q|q|q|q|q
      · rcases af with e|e
        · exact(hDF k e).1 q
        · have:=(RY.ge e).1;have:=ml.lt;omega
      · omega
      · rw [d4] at q
        rcases af with e|e
        · exact(hDF k e).2.1 q
        · have:=(RY.ge e).1;have:=adE.x.2;omega
      · cases q
      · cases q
      · cases q
      · cases q
  have dE:Ft w0 (fun k=>k=nb∨k=c.ab∨k=c.cb) w X (fun k=>cF nb bx d.ab aN aN aN aN k∨k=c.cb):=(dU.since Ef).more fun k af=>by
    rcases af with(q|q|q|q|q|q|q)|q
    · exact .inl (.inl q)
    · exact .inr (by subst q;exact⟨bJ.1,by omega⟩)
    · exact .inl (.inr (.inl (by rw [←d4];exact q)))
    · cases q
    · cases q
    · cases q
    · cases q
    · exact .inl (.inr (.inr q))
  have kV:FX (fun k=>D k∨cY (.slice t1 t2 t3) k) X w:=fun k af=>af.elim (fun e=>⟨Ef.sub k (yA k e).1,Ef.has k (Ef.sub k (yA k e).1)⟩) fun e=>⟨RY.2.2 k e,(RY.ge e).2⟩;have P7:Sl w (fun k=>D k∨cY (.slice t1 t2 t3) k) 5 x0.vp (p.map fw.l):=by rw [UR];exact(tg RY fun k e=>.inr e).sl
  have Tu:gN w (fun k=>D k∨cY (.slice t1 t2 t3) k) d.Aq mb ds:=by rw [d6];exact afj.mv fun k af _=>⟨.inl af,Ef.kp.block k (yA k af).1⟩
  have ajB:a7 w (· =c.cb) c.cb (kz ck) kL:=KP.mv fun k af _=>⟨af,Ef.kp.block k (Yy k (.inr (.inr af))).1⟩;have ahx:X c.cb:=dE.bK _ (.inr rfl);have pj: ∀k,(D k∨cY (.slice t1 t2 t3) k)→D k∨w0.heap.size≤k:=fun k af=>af.imp id fun e=>by have:=(RY.ge e).1;omega
  have US: ¬(D c.cb∨cY (.slice t1 t2 t3) c.cb):=fun af=>af.elim (fun e=>(hDF _ e).2.2 rfl) fun e=>by have:=(RY.ge e).1;have:=KP.lt;omega
  generalize wN:(fun k=>D k∨cY (.slice t1 t2 t3) k)=K3 at h3 kV P7 Tu;replace pj: ∀k,K3 k→D k∨w0.heap.size≤k:=fun k af=>pj k (by rw [←wN] at af;exact af);have xD: ∀k,D k→K3 k:=fun k af=>by rw [←wN];exact .inl af
  replace US: ¬K3 c.cb:=by rw [←wN];exact US
  clear hs bS ao bU Ef bJ ml adE KP afj Yy yA dU RY q2 wN c1 mK LP nD;have ahy:=h3.fx;refine dE.call (SG (eh:=eh) h3 (dE.fx fun k e=>.inl e) kV d5 ⟨ahx,ajB.2⟩ US hl IA P7 Tu hW) kQ (fun k e=>e.elim (fun e=>.inl (.inr (.inl e))) .inr) fun v mu w4 X4 hq4 qg lI fm c4=>?_;obtain⟨⟨vg,rfl,ovg,yD⟩,⟨uk,Tv,yH⟩,⟨st,h4,ed⟩⟩:=hq4;obtain⟨x1,hx1⟩: ∃x1:oN,x1= { x0 with st:=st } :=⟨_,rfl⟩;rw [←hx1] at h4;obtain⟨x1a,x1b,x1c,x1d,x1e,x1f,x1g⟩:x1.dK=⟨d.id,d.ga,d.uh⟩∧x1.vp=x0.vp∧x1.st=st∧x1.vs=aN∧x1.pre=false∧x1.vq=aN∧x1.wK= .zero:=by rw [hx1,UR];exact⟨rfl,rfl,rfl,rfl,rfl,rfl,rfl⟩
  have np:Ft w0 (fun k=>k=nb∨k=c.ab∨k=c.cb) w4 X4 (fun k=>cF nb bx d.ab aN aN aN aN k∨k=c.cb):=fm.less fun k e=>.inl e;have amA:w0.heap.size≤bx:=by omega
  have Cj:FX K3 X4 w4:=fun k af=>⟨c4.sub k (kV k af).1,c4.has k (c4.sub k (kV k af).1)⟩;have OM:x1.dK=⟨c.id,c.ga,c.uh+1⟩:=by rw [x1a,d1,d2,d3]
  have ZK:X4 c.cb:=c4.sub _ ahx;have MT: ∀{w5:World} {X5 K5:XS} {x5:oN} {vm va vw:Value} {al5:List (dc×Nat)} {rm ra rw:List (List Value)} {ms ws:List dF},Ft w0 (fun k=>k=nb∨k=c.ab∨k=c.cb) w5 X5 (fun k=>cF nb bx d.ab vm va vw aN k∨k=c.cb)→fu w5 K5 nb bx d x5 vm va vw aN al5 rm ra rw ms ws []→FX K5 X5 w5→
      x5.dK=x1.dK→a7 w5 (· =c.cb) c.cb (kz uk) kL→(∀k,K5 k→D k∨w0.heap.size≤k)→(∀k,D k→K5 k)→
      (∀{w9:World},Mv K5 w5 (fun k=>K5 k∨cY vm k∨cY va k) w9→(ra.length=1∧(mC p ck eh ds≠0∨(dW 1 1 p=[]∧ ∀wr,¬xC p ds wr)))∨(ra=[]∧mC p ck eh ds=0∧al5=dS ⟨c.id,c.ga,c.uh+1⟩ bx al∧uk=(ck.qK eh).1∧
    ((dW 1 1 p≠[]∧ms=(qW ds p).map fun m=>(m.asked x5).l9 (20+c.id))∨
     (dW 1 1 p=[]∧ ∃wr,xC p ds wr∧x5.pre=true∧x5.vs=aN∧x5.wK= .zero∧Sl w9 (fun k=>K5 k∨cY vm k∨cY va k) 1 x5.vq (((fb ds wr).map (·.lE.id)).map I1)∧ms=(lV ds wr).map (fun m=>(m.asked x5).l9 (20+c.id))∧ws=(lV ds wr).map fun m=>m.asked x5))))→
      Qa (xt (fun k=>k=nb∨k=c.ab∨k=c.cb) w0 fun v w'=>afi nb mb c D al p ck eh ds v w0 w') nb bx w5 X5:=by
    intro w5 X5 K5 x5 vm va vw al5 rm ra rw ms ws ff h5 Hw I6 Gn alc ald tB;refine adC ff h5 fun w9 X9 lT wO mW=>?_;refine lT.fin fun wa bk=>?_;have hcF: ∀k,cF nb bx d.ab vm va vw aN k→X5 k:=fun k af=>ff.bK k (.inl af);have yB:Mv K5 w5 K5 wa:=fun k af _=>by
      obtain⟨q1,q2⟩:=mW k (Hw k af).1;exact⟨af,(bk.block k q1).trans (q2 fun e=>h5.kd k af (.inl e))⟩
    have hblk: ∀k,cF nb bx d.ab vm va vw aN k→k≠nb→wa.heap[k]? =w5.heap[k]? :=fun k af du=>by
      obtain⟨q1,q2⟩:=mW k (hcF k af);exact(bk.block k q1).trans (q2 du)
    have ale:X9 nb:=(mW nb (hcF nb (.inl rfl))).1;have L8:=h5.told (w':=wa) (wO.mv fun k af _=>⟨af,by rw [af];exact bk.block _ ale⟩) hblk yB;have alf:c.cb≠nb:=adi;have alg:X5 c.cb:=ff.bK _ (.inr rfl);have ZL:a7 wa (· =c.cb) c.cb (kz uk) kL:=Gn.mv fun k af _=>⟨af,by
      rw [af];obtain⟨q1,q2⟩:=mW c.cb alg;exact(bk.block _ q1).trans (q2 alf)⟩
    have fL: ∀k,X5 k→k<wa.heap.size:=fun k af=>aG (lT.s.has k (mW k af).1) bk.size;have hm9: ∀{k9:XS},(∀k,k9 k→cF nb bx d.ab vm va vw aN k∧k≠nb)→Mv k9 w5 k9 wa:=fun {k9} hq k af _=>⟨af,hblk k (hq k af).1 (hq k af).2⟩;refine⟨bx,x5,vm,va,vw,fun k=>K5 k∨cY vm k∨cY va k,al5,rm,ra,rw,ms,ws,uk,?_,by rw [←hd];exact L8,by rw [I6,OM],?_,?_,?_,ZL,fun k af=>?_,fun k af=>?_,fun k af=>.inl (ald k af),tB fun k af hl=>⟨.inl af,(yB k af hl).2⟩⟩
    · rw [I6,OM]
    · exact(h5.om.mv (hm9 fun k af=>⟨.inr (.inr (.inr (.inl af))),(h5.ap.m k af).1⟩)).sl.mono fun k af=>.inr (.inl af)
    · exact h5.hm.mv fun k af hl=>⟨.inl af,(yB k af hl).2⟩
    · exact(h5.oa.mv (hm9 fun k af=>⟨.inr (.inr (.inr (.inr (.inl af)))),(h5.ap.a k af).1⟩)).sl.mono fun k af=>.inr (.inr af)
    · have rU:cF nb bx d.ab vm va vw aN k:=by
        rcases af with q|q|q|q|q|q|q
        · exact .inl q
        · exact .inr (.inl q)
        · exact .inr (.inr (.inl (by rw [d4];exact q)))
        · cases q
        · cases q
        · exact .inr (.inr (.inr (.inr (.inr (.inl q)))))
        · cases q
      rcases ff.v k (.inl rU)with(e|e|e)|e
      · exact .inl e
      · exact .inr (.inl e)
      · exact(h5.Bu (Y:=(· =c.cb)) Gn (by rw [←e];exact rU)).elim
      · exact .inr (.inr ⟨e,fL k (hcF k rU)⟩)
    · rcases af with e|e|e
      · exact(alc k e).imp id fun q=>⟨q,fL k (Hw k e).1⟩
      · have rU:cF nb bx d.ab vm va vw aN k:=.inr (.inr (.inr (.inl e)))
        rcases ff.v k (.inl rU)with(q|q|q)|q
        · exact((h5.ap.m k e).1 q).elim
        · exact((h5.ap.m k e).2.2.1 (by rw [d4];exact q)).elim
        · exact(h5.Bu (Y:=(· =c.cb)) Gn (by rw [←q];exact rU)).elim
        · exact .inr ⟨q,fL k (hcF k rU)⟩
      · have rU:cF nb bx d.ab vm va vw aN k:=.inr (.inr (.inr (.inr (.inl e))))
        rcases ff.v k (.inl rU)with(q|q|q)|q
        · exact((h5.ap.a k e).1 q).elim
        · exact((h5.ap.a k e).2.2.1 (by rw [d4];exact q)).elim
        · exact(h5.Bu (Y:=(· =c.cb)) Gn (by rw [←q];exact rU)).elim
        · exact .inr ⟨q,fL k (hcF k rU)⟩
  have hs:=aj.ct fm.s.has;by_cases he:mC p ck eh ds≠0
  · repeat' first|refine bD ?_;intros
    refine np.call (zx (code:=mC p ck eh ds) (t:=.zero) (st:=.zero) (on:=false) (vs:=aN) h4 (np.fx fun k e=>.inl e) Cj rfl (by simp)) kQ (fun k e=>.inl e) fun v Ys w5 X5 hq5 P8 Jb ff c5=>?_;obtain⟨ia,hC5,h5⟩:=hq5;refine MT (ff.less fun k e=>e.elim (fun e=>(hC5 k e).imp .inl id) fun e=>.inl (.inr e)) h5 (fun k af=>⟨c5.sub k (Cj k af).1,c5.has k (c5.sub k (Cj k af).1)⟩) rfl (Tv.mv fun k af _=>⟨af,by rw [af];exact c5.block _ ZK fun e=>h4.Bu Tv e⟩) pj xD fun _=>.inl ⟨by simp,.inl he⟩
  · have yG:mC p ck eh ds=0:=by omega
    have L7:=yD yG;change en w4 (made mu w4) 5 vg ke.rd (jE ds p)at L7;have Ci:iM p=0:=by
      unfold mC at yG;split at yG
      · rename_i h9;exact absurd yG h9
      · omega
    have ahz:(gp ds [] (dW 1 1 p)).2=0:=by
      unfold mC at yG;split at yG
      · rename_i h9;exact absurd yG h9
      · split at yG
        · rename_i h9;exact absurd yG h9
        · exact yG
    have fe:(jE ds p).length≤40:=by
      have h1:=MU (ds:=ds) (keys:=dW 1 1 p) (m:=[]);have h2:=Du (a:=1) (b:=1) (p:=p);have h3:=(zP Ci).1;unfold jE jX;rw [aH,(mj _).length_eq,aH];simp only [bI] at h1;omega
    have DA:fu w4 (fun k=>K3 k∨made mu w4 k) nb bx d x1 aN aN aN aN al [] [] [] [] [] []:=h4.mv (w':=w4) (fun k _=>rfl) (Mv.sub fun k af=>.inl af) fun k af hf=>af.elim (fun e=>h4.kd k e hf) fun e=>by have:=ahy k hf;have:=e.1;omega
    have Qb:FX (fun k=>K3 k∨made mu w4 k) X4 w4:=fun k af=>af.elim (Cj k) fun e=>⟨lI k e,e.2⟩;have ZM: ∀k,(K3 k∨made mu w4 k)→D k∨w0.heap.size≤k:=fun k af=>af.elim (pj k) fun e=>.inr (by have:=e.1;omega);have MV:en w4 (fun k=>K3 k∨made mu w4 k) 5 vg ke.rd (jE ds p):=en.mv L7 ke.mv (Mv.sub fun k e=>.inr e);have ZN:gN w4 (fun k=>K3 k∨made mu w4 k) d.Aq mb ds:=Tu.mv fun k af _=>⟨.inl af,c4.block k (kV k af).1 fun e=>e.elim (fun e=>h4.kd k af (.inr (.inl e))) fun e=>US (by rw [←e];exact af)⟩;have adF:Sl w4 (fun k=>K3 k∨made mu w4 k) 5 x1.vp (p.map fw.l):=by rw [x1b];exact P7.mv fun k af _=>⟨.inl af,c4.block k (kV k af).1 fun e=>e.elim (fun e=>h4.kd k af (.inr (.inl e))) fun e=>US (by rw [←e];exact af)⟩
    generalize wN:(fun k=>K3 k∨made mu w4 k)=K4 at DA Qb MV ZN adF;replace ZM: ∀k,K4 k→D k∨w0.heap.size≤k:=fun k af=>ZM k (by rw [←wN] at af;exact af);have ZO: ∀k,D k→K4 k:=fun k af=>by rw [←wN];exact .inl (xD k af)
    have vJ:=DA.row.mono fun k e=>np.bK k (.inl (.inl e));have Gg:=DA.act.mono fun k e=>np.bK k (.inl (.inr (.inl e)));have ap:=DA.ap;clear h4 Cj L7 yD ahy P7 Tu kV h3 dE fm c4;repeat' first|refine bD ?_;intros
    refine te (kv:=fun k:dc=>k.v) (k:=x1.dK) (a:=bx) (et:=110) (pa DA.am (Y:=X4) (np.bK _ (.inl (.inr (.inr (.inl rfl)))))) fK (show nG w4 nX (ptr bx 0) bx from rfl) (fun _ h=>h.elim) BI kQ np.s.has fun w5 X5 c5 B8=>?_;have M8:=DA.step (c':=d) (x':=x1) (gr:=aN) (ia:=aN) (fy:=aN) (jY:=aN) (mV:=dS x1.dK bx al) (kS:=[]) (uj:=[]) (oO:=[]) (uT:=[]) (uU:=[]) (Dr:=[]) (fun k af=>np.bK k (.inl af)) (fun k af=>(Qb k af).1) np.s.has (fun k=>k=d.ab) c5 (fun k af=>.inr (.inr (.inl af))) rfl
      (.inl ⟨fun e=>ap.an e.symm,rfl⟩) (.inl ⟨fun e=>ap.ax e.symm,rfl⟩) (.inr B8) (.inl ⟨fun g hg e=>(ap.m g hg).2.2.1 e,rfl,rfl⟩) (.inl ⟨fun g hg e=>(ap.a g hg).2.2.1 e,rfl,rfl⟩) (.inl ⟨fun g hg e=>(ap.w g hg).2.2.1 e,rfl,rfl⟩) (.inl ⟨fun g hg e=>(ap.p g hg).2.2.1 e,rfl,rfl⟩) DA.hm DA.hw DA.o1 DA.o2 DA.o3 DA.o4
    have h5:=M8.1;have MY:c.cb≠d.ab:=fun e=>UP (by rw [←d4];exact e.symm);have ff:=np.fM (F':=fun k=>cF nb bx d.ab aN aN aN aN k∨k=c.cb) c5 (fun k af=>.inl (.inr (.inr (.inl af)))) fun k af=>.inl af;have Hw:FX K4 X5 w5:=fun k af=>⟨c5.sub k (Qb k af).1,c5.has k (c5.sub k (Qb k af).1)⟩;have I5:Mv K4 w4 K4 w5:=fun k af _=>⟨af,c5.block k (Qb k af).1 fun e=>DA.kd k af (.inr (.inr (.inl e)))⟩;have MW:=en.mv MV ke.mv I5;have ON:=ZN.mv I5;have ahA:=adF.mv I5;have Gn:a7 w5 (· =c.cb) c.cb (kz uk) kL:=Tv.mv fun k af _=>⟨af,by rw [af];exact c5.block _ ZK MY⟩;clear hs M8 c5 B8 vJ Gg ap DA Qb MV ZN adF Tv I5 np ZK wN;have hs:=aj.ct ff.s.has;have Gh:=en.mv MW ke.mv (Mv.sub fun k af=>(Hw k af).1);have B9:(qW ds p).length=(jE ds p).length:=by simp [qW]
    repeat' first|refine aJ ?_;intros
    refine fR (fun n a w X=> ∃(i:Nat) (gr fy:Value) (kS oO:List (List Value)) (K':XS),a=I (i:Nat)∧n=(jE ds p).length-i∧i≤(jE ds p).length∧Ft w0 (fun k=>k=nb∨k=c.ab∨k=c.cb) w X (fun k=>cF nb bx d.ab gr aN fy aN k∨k=c.cb)∧(∀k,D k→K' k)∧(∀k,K' k→D k∨w0.heap.size≤k)∧FX K' X w∧
      fu w K' nb bx d x1 gr aN fy aN (dS x1.dK bx al) kS [] oO (((qW ds p).take i).map (fun m=>(m.asked x1).l9 (20+d.id))) (((qW ds p).take i).map fun m=>m.asked x1) []∧kS.length=i∧oO.length=i∧
      en w K' 5 vg ke.rd (jE ds p)∧gN w K' d.Aq mb ds∧Sl w K' 5 x1.vp (p.map fw.l)∧a7 w (· =c.cb) c.cb (kz uk) kL) (jE ds p).length ⟨0,aN,aN,[],[],K4,rfl,rfl,aF _,ff,ZO,ZM,Hw,by simpa using h5,rfl,rfl,MW,ON,ahA,Gn⟩ ?_
    clear hs ff h5 Hw MW ON ahA Gn Gh ZM ZO;rintro n _ w6 X6 ⟨i,vm6,vw6,rm6,rw6,K6,rfl,rfl,hi6,eX,P4,P5,gX,h6,akY,akZ,Ck,afk,ahB,OO⟩;have hs:=aj.ct eX.s.has;have Gh:=en.mv Ck ke.mv (Mv.sub fun k af=>(gX k af).1);have ahC:X6 c.cb:=eX.bK _ (.inr rfl);rcases ew (jE ds p) i with⟨dy,g,hx,hd⟩|⟨dV,hd⟩
    · repeat' first|refine bD ?_;intros
      refine Bt Ck hx rfl kQ kQ fun bb oo ll AN qq=>?_;obtain⟨ES,rfl,I7⟩:=qq;obtain⟨s1,s2,s3,rfl⟩:=I7.form;have ovk:aV.one (.slice s1 s2 s3)=true:=I7.one;replace AN:Cells w6 X6 bb oo [I g.lE.id,I g.lE.gx,.float .f64 g.lE.lo,.float .f64 g.lE.hi,.slice s1 s2 s3]:=Cells.mv AN (Mv.sub fun k af=>(gX k af).1);repeat' first|refine aJ ?_;intros
      have hm8:(xH g).at w6 K6 (.slice s1 s2 s3) aN aN aN aN aN aN aN:=⟨I7,Sl.nil _ _ _,Sl.nil _ _ _,Sl.nil _ _ _,Sl.nil _ _ _,en.nil _ _ _,en.nil _ _ _,en.nil _ _ _⟩;have hpx:(qW ds p)[i]? =some (xH g):=by unfold qW;rw [List.getElem?_map,hx];rfl
      have hgk:g.keys.length≤40:=by
        have h1:=OI (Md 1 1 p) ahz;have h2:=OL (List.mem_map.2 ⟨g,List.mem_of_getElem? hx,rfl⟩:g.keys.length∈(jE ds p).map fun g=>g.keys.length);have h3:=Du (a:=1) (b:=1) (p:=p);have h4:=(zP Ci).1;change ((jE ds p).map fun g=>g.keys.length).sum=_ at h1;omega
      have hf8:(xH g).few:=⟨ah hgk (by decide),by simp [xH,uE],by simp [xH,uE],by simp [xH,uE]⟩;refine eX.call (LY (m:=xH g) h6 (eX.fx fun k e=>.inl e) gX hm8 hf8 (by rw [d1];exact hi) zQ zQ) kQ (fun k e=>.inl e) fun v C7 w9 X9 L9 ZD I9 lT c9=>?_;obtain⟨vm9,vw9,rm9,rw9,K9,hC9,Ja,Gk,h9,wO,ak5⟩:=L9;have tw:Ft w0 _ w9 X9 (fun k=>cF nb bx d.ab vm9 aN vw9 aN k∨k=c.cb):=lT.less fun k e=>e.elim (fun e=>(hC9 k e).imp .inl id) fun e=>.inl (.inr e);have Ed:Mv K6 w6 K9 w9:=fun k af _=>⟨Gk k af,c9.block k (gX k af).1 (h6.kd k af)⟩;have ZL:a7 w9 (· =c.cb) c.cb (kz uk) kL:=OO.mv fun k af _=>⟨af,by rw [af];exact c9.block _ ahC fun e=>h6.Bu OO e⟩;have hz6:=eX.s.kp.size;clear hs;have hs:=aj.ct tw.s.has;repeat' first|refine aJ ?_;intros
      exact fh ((jE ds p).length-(i+1)) zQ ⟨i+1,vm9,vw9,rm9,rw9,K9,by simp,rfl,by omega,tw,fun k af=>Gk k (P4 k af),fun k af=>(Ja k af).elim (P5 k) fun e=>.inr (by have:=e.1;omega),
        fun k af=>⟨(Ja k af).elim (fun e=>c9.sub k (gX k e).1) (I9 k),(Ja k af).elim (fun e=>tw.s.has k (c9.sub k (gX k e).1)) fun e=>e.2⟩,
        by rw [cC,hpx];simp only [fj,bC,List.map_cons,List.map_nil];exact h9,by omega,by omega,en.mv Ck ke.mv Ed,afk.mv Ed,ahB.mv Ed,ZL⟩
    · rw [bA zQ] at h6
      repeat' first|refine bD ?_;intros
      refine dx ?_;have afl:(dW 1 1 p=[])↔(jE ds p).length=0:=by
        constructor
        · intro e;unfold jE jX;rw [aH,(mj _).length_eq,aH,e];rfl
        · intro e
          have Ey:=Dw hW ahz;cases hnm:dW 1 1 p with
          |nil=>rfl
          |cons k r=>
            obtain⟨g,hg,_⟩:=Ey.rt k (by rw [hnm];simp);have:=rZ hg;change 0<(jE ds p).length at this;omega
      by_cases RZ:(jE ds p).length=0
      · have Dy:=afl.2 RZ
        have alh:qW ds p=[]:=List.length_eq_zero_iff.1 zQ;rw [alh] at h6;repeat' first|refine bD ?_;intros
        refine eX.call (UG h6 (eX.fx fun k e=>.inl e) gX x1e x1d x1f ahB afk hW Dy (by rw [d1];exact hi) zQ (by simp) Ci) kQ (fun k e=>.inl e) fun v ER w7 X7 hq7 PZ Eb kC c7=>?_;obtain⟨x7,vm7,va7,vw7,K7,al7,rm7,ra7,rw7,ms7,ws7,hQ⟩:=hq7;have hz6:=eX.s.kp.size;refine MT (kC.less fun k e=>e.elim (fun e=>(hQ.f k e).imp .inl id) fun e=>.inl (.inr e)) hQ.mid (fun k af=>⟨(hQ.k1 k af).elim (fun e=>c7.sub k (gX k e).1) (Eb k),(hQ.k1 k af).elim (fun e=>c7.has k (c7.sub k (gX k e).1)) fun e=>e.2⟩) hQ.tx (OO.mv fun k af _=>⟨af,by rw [af];exact c7.block _ ahC fun e=>h6.Bu OO e⟩)
          (fun k af=>(hQ.k1 k af).elim (P5 k) fun e=>.inr (by have:=e.1;omega)) (fun k af=>hQ.k2 k (P4 k af)) fun {w9} yB=>?_
        rcases hQ.res with⟨h8,h9⟩|⟨wr,vq,hg,rfl,hvq,rfl,rfl,rfl,rfl,rfl⟩
        · exact .inl ⟨h8,.inr ⟨Dy,h9⟩⟩
        · exact .inr ⟨rfl,yG,by rw [OM],yH yG,.inr ⟨Dy,wr,hg,rfl,x1d,x1g,hvq.mv yB,by rw [d1];rfl,rfl⟩⟩
      · repeat' first|refine bD ?_;intros
        refine MT eX h6 gX rfl OO P5 P4 fun {w9} yB=>.inr ⟨rfl,yG,by rw [OM],yH yG,.inl ⟨fun e=>RZ (afl.1 e),by rw [d1]⟩⟩
end
theorem UT {w:World} {X S G:XS} {nb db e:Nat} {L:LM} {m:DM} {r:Rec} {vr vw vp vq vh vd Cf vm va:Value} {c:ph} {bs:List Nat} (hb:a7 w S nb (Gd c Cf vm va) nT) (hg:Lg w G c.lb db L m) (TX:Dj S G)
  (hS: ∀k,S k→X k) (o1:aV.one vm=true) (o2:aV.one va=true) (o3:aV.one c.cm=true) (o4:aV.one Cf=true) (hL:qX L) (wD:L.eo.length≤2^29) (hG:FX G X w)
  (ali: ∀wa,Kp X w wa→Ct pg 80 #[r.v vr vw vp vq vh vd] wa (out G wa) nX fun v wb w'=>if e≠0 then v= .tuple #[.slice none 0 0,I e] else∃vb,v= .tuple #[vb,I 0]∧Own w' (made wb w') wb.heap.size 5 1 vb (bs.map U1))
  (h1:aV.one vr=true) (h2:aV.one vw=true) (h3:aV.one vp=true) (h4:aV.one vq=true) (h5:aV.one vh=true) (h6:aV.one vd=true)
  (hlk:qX (LD.append ⟨L,m⟩ bs).1.L) (iv:(LD.jH ⟨L,m⟩ e bs).2.2≠12):
  Ct pg 28 #[ptr nb 0,r.v vr vw vp vq vh vd] w X G fun v wa w'=>v=I (LD.jH ⟨L,m⟩ e bs).2.2∧
   ∃G',(∀k,G' k→G k∨made wa w' k)∧Lg w' G' c.lb db (LD.jH ⟨L,m⟩ e bs).1.L (LD.jH ⟨L,m⟩ e bs).1.m:=by
 intro w0 hk;have RZ:=hg.mv (hG.mv hk);have hT:=hG.ft hk;have mK:FX G (aR w0) w0:=hG.kp hk;have AK:a7 w0 S nb (Gd c Cf vm va) nT:=hb.mv fun k af _=>⟨af,hk.block k (hS k af)⟩;have hS0: ∀k,S k→out G w0 k∨w.heap.size≤k:=fun k af=>by
  by_cases h:k<w.heap.size
  ·exact .inl ⟨aG h hk.size,fun hf=>TX k af hf⟩
  ·exact .inr (Nat.le_of_not_lt h)
 generalize hr:LD.jH ⟨L,m⟩ e bs=q at iv⊢;unfold LD.jH at hr;dsimp only at hr;have gh:a7 w0 (out G w0) nb (Gd c Cf vm va) nT:=⟨⟨AK.lt,fun hf=>TX nb hb.1 hf⟩,AK.2⟩;have hb:=gh.mv hT.s.mv;apply Jk;unfold zT;refine dp ((ali w0 hk).since (hT.s)) kQ hT.s.has ?_;rintro ve qJ w1 X1 hq sj oQ ao;have dU:=hT.since ao;have rS:=hb.since ao;have hg1:Lg w1 G c.lb db L m:=RZ.mv (ao.fZ hT.bK);by_cases he:e≠0
 ·rw [if_pos he] at hq hr;subst hq;subst hr;dsimp only at iv⊢;repeat' first|refine bD ?_;intros|with_reducible apply dx
  exact dU.fin fun wa bk=>⟨rfl,G,dU.gU bk fun _ h=>h,hg1.mv (bk.fi dU.bK)⟩
 ·rw [if_neg he] at hq hr;obtain⟨vb,rfl,tj⟩:=hq;have ovb:=tj.sl.one;repeat' first|refine bD ?_;intros|with_reducible apply dx
  have hFG:FX G X1 w1:=dU.fx fun _ h=>h;refine dU.call (UU hg1 hL zQ hFG tj.sl fun k af=>⟨oQ k af,fun hf=>?_⟩) kQ (fun _ h=>h) fun v zF w2 X2 hq qI nV cW lH=>?_
  ·have:=(mK k hf).2;have:=af.1;omega
  obtain⟨rfl,G2,hG2,Jh⟩:=hq;generalize Hh:LD.append ⟨L,m⟩ bs=ap at hr hlk Jh⊢;have wG:a7 w2 X2 nb (Gd c Cf vm va) nT:=gh.mv cW.s.mv;by_cases hz:ap.2.2≠0
  ·rw [if_pos hz] at hr;subst hr;repeat' first|refine bD ?_;intros|with_reducible apply dx
   exact cW.fin fun wa bk=>⟨rfl,G2,cW.gU bk hG2,Jh.mv (bk.fi fun k af=>cW.bK k (hG2 k af))⟩
  ·rw [if_neg hz] at hr;have LX:(ap.2.2:Int)=0:=by omega
   repeat' first|refine bD ?_;intros|with_reducible apply dx
   refine cW.call (OP Jh hlk (cW.fx hG2)) kQ hG2 fun v uQ w3 X3 hq nZ mz dE qY=>?_;obtain⟨rfl,G3,hG3,R0⟩:=hq;have eap:ap.1=⟨ap.1.L,ap.1.m⟩:=rfl;rw [eap] at hr;subst hr;generalize OQ:LD.sync ⟨ap.1.L,ap.1.m⟩=sy at iv R0⊢;have ahD: ∀k,G3 k→(G k∨made zF w2 k)∨made uQ w3 k:=fun k af=>(hG3 k af).imp (hG2 k) id;repeat' first|refine aJ ?_;intros|refine dM ?_ ?_<;>intros|with_reducible apply dx|(exfalso;have:sy.2≠12:=iv;omega)
   exact dE.fin fun wa bk=>⟨rfl,G3,dE.gU bk ahD,R0.mv (bk.fi fun k af=>dE.bK k (ahD k af))⟩
theorem Rec.Jl (r:Rec):r.gD=0∨r.gD=2∨r.gD=4∨r.gD=7:=by
 have h:r.err=0∨r.err=4∨r.err=7:=by
  unfold Rec.err;split
  ·simp
  ·split<;>simp
 unfold Rec.gD;rcases h with h|h|h<;>rw [h]
 ·by_cases h:262144<(kA r).length<;>simp [h]
 ·simp
 ·simp
theorem LD.afT {n:Nat} {x:LD} (h:GL n x) (r:Rec):(x.jH r.gD.toNat (kA r)).2.2≠12∧GL (n+2) (x.jH r.gD.toNat (kA r)).1:=by
 rcases r.Jl with e|e|e|e<;>rw [e]
 ·exact h.jH _
 all_goals exact⟨by simp [LD.jH],h.up zQ⟩
theorem afU {w:World} {X:XS} {r:Rec} (h1:r.reads=[]) (h2:r.writes=[]) (h3:r.parts=[]) (h4:r.xm=[]) (h5:r.state= .zero):r.at w X aN aN aN aN aN aN:=by
 unfold Rec.at;rw [h1,h2,h3,h4,h5];exact⟨Sl.nil _ _ _,Sl.nil _ _ _,Sl.nil _ _ _,Sl.nil _ _ _,en.nil _ _ _,en.nil _ _ _⟩
theorem OR {r:Rec} (h1:r.reads=[]) (h2:r.writes=[]) (h5:r.state= .zero):r.small:=by
 refine⟨by simp [h1],by simp [h2],by simp [h1],by simp [h2],?_⟩;rw [h5];exact⟨by simp [State.zero,OS],by simp [State.zero,OT],by simp [State.zero,afm],by simp [State.zero,afn]⟩
theorem Hy {w:World} {X S T G:XS} {nb db n:Nat} {L:LM} {m:DM} {r:Rec} {vr vw vp vq vh vd Cf vm va:Value} {c:ph} (hb:a7 w S nb (Gd c Cf vm va) nT) (hg:Lg w G c.lb db L m) (TX:Dj S G) (hS: ∀k,S k→X k) (o1:aV.one vm=true) (o2:aV.one va=true) (o3:aV.one c.cm=true) (o4:aV.one Cf=true) (hG:FX G X w)
  (fe:GL n ⟨L,m⟩) (hn:n≤900) (ef:r.at w T vr vw vp vq vh vd) (hT: ∀k,T k→X k∧ ¬G k) (mX:r.small) (hen:(kA r).length≤2^33):
  Ct pg 28 #[ptr nb 0,r.v vr vw vp vq vh vd] w X G fun v wa w'=>v=I (LD.jH ⟨L,m⟩ r.gD.toNat (kA r)).2.2∧
   ∃G',(∀k,G' k→G k∨made wa w' k)∧Lg w' G' c.lb db (LD.jH ⟨L,m⟩ r.gD.toNat (kA r)).1.L (LD.jH ⟨L,m⟩ r.gD.toNat (kA r)).1.m:=by
 have hlen:=fe.len;refine UT (e:=r.gD.toNat) hb hg TX hS o1 o2 o3 o4 (fe.lok zQ) (by show L.eo.length≤_;have:L.eo.length≤n:=hlen;omega) hG (fun wa hk=>?_) ef.1.one ef.2.1.one ef.2.2.1.one ef.2.2.2.1.one ef.2.2.2.2.1.one ef.2.2.2.2.2.one ((fe.append _).2.lok zQ) (LD.afT fe r).1;have alj:r.at wa (out G wa) vr vw vp vq vh vd:=ef.mv fun k af IA=>⟨⟨aG IA hk.size,(hT k af).2⟩,hk.block k (hT k af).1⟩;refine(Hz alj mX fun _=>hen).mono fun v wb w' _ hq=>?_;rcases r.Jl with e|e|e|e<;>rw [e] at hq⊢
 ·exact hq
 all_goals exact hq
structure CoN (w:World) (N D G:XS) (nb db mb:Nat) (c:ph) (ck:cw) (ds:gJ) (al:List (dc×Nat)) (L:LM) (m:DM):Prop where
 row:a7 w (· =nb) nb (ui c aN aN) nT
 am:dR w (· =c.ab) nX c.ab (fun k:dc=>k.v) nG al
 bm:dR w (· =c.bb) nX c.bb (fun k:dc=>k.v) nG []
 UI:a7 w (· =c.cb) c.cb (kz ck) kL
 dir:gN w D c.Aq mb ds
 log:Lg w G c.lb db L m
 cm:c.cm=aN
 uZ: ∀k,N k↔(k=nb∨k=c.ab∨k=c.bb∨k=c.cb∨D k)
 dj:Dj N G
 ne:c.ab≠c.bb
 dd: ∀k,D k→k≠nb∧k≠c.ab∧k≠c.bb∧k≠c.cb
def xI:Rec:=⟨8,.zero,.zero,.zero,false,1,0,[],[],[],[],.zero⟩
theorem M9:xI.gD=0∧(kA xI).length≤900:=by
 have e1:=iY 8;have e2:=iY 1;have e3:kA xI=encI 8++encI 1:=by simp [kA,xI]
 have e4:xI.err=0:=by
  simp [Rec.err,xI,Rec.strip,Rec.isZero,Rec.tC,State.isZero,State.zero]
 have e5:(kA xI).length≤900:=by rw [e3,au];omega
 refine⟨?_,e5⟩;unfold Rec.gD;rw [if_neg (by simp [e4]),if_neg zQ]
def DB (l:List dq) (F:XS) (db:Nat) (v:Value) (wa w':World):Prop:=
 if qP l≠0 then v= .tuple #[.pointer none,I (qP l)] else∃nb c mb N D G L m,v= .tuple #[ptr nb 0,I 0]∧(∀k,N k→made wa w' k)∧(∀k,G k→F k∨made wa w' k)∧c.id=1∧c.ga=1∧c.uh=0∧
  CoN w' N D G nb db mb c ⟨0,0,21⟩ (l.foldl eH []) [] L m∧FM 1 ⟨L,m⟩
theorem HA {w:World} {X F:XS} {db:Nat} {a:Value} {l:List dq} (h:Dk w F db N7) (hF:FX F X w) (ha:Sl w X 4 a (l.map dq.l)):
  Ct pg 6 #[ptr db 0,I 1,I 4096,a] w X F fun v wa w'=>DB l F db v wa w':=by
 intro w0 hk;replace h:=h.mv (hF.mv hk);replace ha:=ha.mv hk.dD;have hT:=hF.ft hk;have mK:FX F (aR w0) w0:=hF.kp hk;have hLL:=acT 4096;have hGL:=ajk;refine afV (RP:=fun _ _=>False) (show adG Tryz.f6=some (26,[8,9])from by kernel_rfl) Xi ZP ?_;unfold agM;have hs:=aj.init w0;repeat' first|refine bD ?_;intros
 refine dp (abo ha) kQ hs.has ?_;rintro v1 qJ w1 X1 q1 sj oQ ao;have dU:=hT.since ao;have h1:=h.mv (ao.fZ fun k af=>(mK k af).1);have Yy:FX F X1 w1:=fun k af=>⟨ao.sub k (mK k af).1,ao.has k (ao.sub k (mK k af).1)⟩;clear hs;have hs:=aj.ct ao.has;by_cases hc:qP l≠0
 ·rw [if_pos hc] at q1;subst q1;repeat' first|refine bD ?_;intros
  exact Yp (dU.fin fun wa bk=>by show DB l F db _ w0 wa;unfold DB;rw [if_pos hc])
 ·rw [if_neg hc] at q1;obtain⟨rb,mb,D,rfl,hD,M7⟩:=q1;repeat' first|refine bD ?_;intros
  refine dU.call (W4 h1 Yy rfl rfl (by decide) (by decide) (by decide) (by decide) (PQ 4096).1) kQ (fun _ h=>h) fun v zF w2 X2 DC qI nV cW lH=>?_;obtain⟨lb,F2,rfl,Yz,g2⟩:=DC;change Lg w2 F2 lb db (xL 4096).L (xL 4096).m at g2;have UQ:=ao.kp.size;have qV:Ft w0 F w2 X2 F2:=cW.less Yz;have ahE: ∀k,F k→k<w0.heap.size:=fun k af=>(mK k af).2;have yA:FX D X1 w1:=fun k af=>⟨oQ k (hD k af),(hD k af).2⟩;have adH: ∀k,D k→ ¬F2 k:=fun k hd hf=>by
   have h9:=hD k hd;rcases Yz k hf with e|e
   ·have:=ahE k e;have:=h9.1;omega
   ·have:=e.1;have:=h9.2;omega
  have afo:gN w2 D rb mb (l.foldl eH []):=M7.mv fun k af _=>⟨af,lH.block k (yA k af).1 fun e=>by have:=ahE k e;have:=(hD k af).1;omega⟩;have IB:FX D X2 w2:=fun k af=>⟨lH.sub k (yA k af).1,lH.has k (lH.sub k (yA k af).1)⟩;have alk: ∀k,D k→w0.heap.size≤k:=fun k af=>by have:=(hD k af).1;omega
  have AM:=lH.size;clear hs;have hs:=aj.ct qV.s.has;repeat' first|refine bD ?_;intros
  refine nC (kv:=fun k:dc=>k.v) nG nX qV.s.has fun ab w3 X3 s9 ea kN=>?_;refine nC (kv:=fun k:dc=>k.v) nG nX ea.has fun tb w4 X4 htb fq EM=>?_;clear hs;have hs:=aj.ct fq.has;repeat' first|refine aJ ?_;intros|(with_reducible apply nY);(case hX=>exact hs.has);intro bx w X gh ao bJ;have bS:=hs.trans ao;replace hs:=aj.ct ao.has
  have UW:=(ea.trans fq).trans ao;have hz3:=ea.kp.size;have hz4:=fq.kp.size;have ff:Ft w0 F w X F2:=qV.since UW;have g5:Lg w F2 lb db (xL 4096).L (xL 4096).m:=g2.mv (UW.fZ qV.bK);have ON:gN w D rb mb (l.foldl eH []):=afo.mv (UW.fZ fun k af=>(IB k af).1);have ahF:X ab∧ab<w3.heap.size:=⟨ao.sub _ (fq.sub _ kN.x.1),kN.x.2⟩;have ahG:X tb∧tb<w4.heap.size:=⟨ao.sub _ EM.x.1,EM.x.2⟩;have ahH:dR w (· =ab) nX ab (fun k:dc=>k.v) nG []:=(kN.own).mv fK (fun k af _=>⟨af,by rw [af];exact(fq.trans ao).kp.block _ kN.x.1⟩) fun _ h=>h.elim;have ahI:dR w (· =tb) nX tb (fun k:dc=>k.v) nG []:=(EM.own).mv fK (fun k af _=>⟨af,by rw [af];exact ao.kp.block _ EM.x.1⟩) fun _ h=>h.elim;have adI:X bx:=bJ.1;have Hm:a7 w (· =bx) bx (Gd ⟨1,0,0,lb,rb,0,ab,aN,tb⟩ (.pointer none) aN aN) nT:=⟨rfl,bJ.2⟩;have amB:=bJ.lt;have Na:ab<bx∧tb<bx∧(∀k,D k→k<bx)∧ab≠tb∧(∀k,D k→k≠ab∧k≠tb)∧w0.heap.size≤ab∧w0.heap.size≤tb∧w0.heap.size≤bx:=by
   have h1:=kN.x.2;have h2:=EM.x.2;refine⟨by omega,by omega,fun k af=>by have:=(IB k af).2;omega,by omega,fun k af=>by have:=(IB k af).2;omega,by omega,by omega,by omega⟩
  have adJ: ∀k,w2.heap.size≤k→ ¬F2 k:=fun k af hf=>by have:=qV.s.has k (qV.bK k hf);omega
  have uD:Ft w0 F w X (fun k=>F2 k∨k=bx):=ff.more fun k e=>e.imp id fun e=>by rw [e];exact⟨adI,Na.2.2.2.2.2.2.2⟩
  have hD5: ∀k,D k→X k:=fun k af=>UW.sub k (IB k af).1;clear hs bS ao bJ kN EM ea fq g2 afo IB qV cW lH UW ff M7 dU h1 Yy;obtain⟨FL,FD,sv,bl,hW⟩:=g5.lw;refine gC (Xm hW.l (s:=⟨1,[],0⟩) (r:=[]) (by rw [hLL]) (uD.fx fun k af=>.inl (hW.hL k af))) kQ uD.s.has fun w6 X6 zL=>?_;rw [show(((⟨1,[],0⟩:Jm).first:Nat):Int)=1 from rfl];have hLK:=hGL.lok zQ;have nB:(xL 4096).L.next=1:=by rw [hLL];rfl
  refine B2 (fun n a b c w X=>a=I 1∧b= .agg #[I 0]∧c= .agg #[ptr bx 0]∧aj X6 w6 X w) 0 ⟨rfl,rfl,rfl,aj.ct zL.has⟩ ?_;rintro n _ _ _ w7 X7 ⟨rfl,rfl,rfl,gG⟩;have ZQ:=zL.trans gG;have kC:=uD.since ZQ;have hW7:=hW.mv (ZQ.fZ fun k af=>uD.bK k (.inl af));refine gC (Gp hW7.l hLK (kC.fx fun k af=>.inl (hW7.hL k af))) kQ kC.s.has fun w8 X8 mh=>?_;rw [nB];have Cq:=ZQ.trans mh;have od:=uD.since Cq;have g8:Lg w8 F2 lb db (xL 4096).L (xL 4096).m:=g5.mv (Cq.fZ fun k af=>uD.bK k (.inl af));have afp:gN w8 D rb mb (l.foldl eH []):=ON.mv (Cq.fZ hD5);have ZR:dR w8 (· =ab) nX ab (fun k:dc=>k.v) nG []:=ahH.mv fK (fun k af _=>⟨af,by rw [af];exact Cq.kp.block _ ahF.1⟩) fun _ h=>h.elim;have ZS:dR w8 (· =tb) nX tb (fun k:dc=>k.v) nG []:=ahI.mv fK (fun k af _=>⟨af,by rw [af];exact Cq.kp.block _ ahG.1⟩) fun _ h=>h.elim;have Yw:a7 w8 (· =bx) bx (Gd ⟨1,0,0,lb,rb,0,ab,aN,tb⟩ (.pointer none) aN aN) nT:=Hm.mv fun k af _=>⟨af,by rw [af];exact Cq.kp.block _ adI⟩;have Jn:X8 ab∧X8 tb∧X8 bx∧ ∀k,D k→X8 k:=⟨Cq.sub _ ahF.1,Cq.sub _ ahG.1,Cq.sub _ adI,fun k af=>Cq.sub k (hD5 k af)⟩;have Tw:a7 w8 X8 bx [I 1,I 0,I 0,ptr lb 0,B false,ptr rb 0,.pointer none,.map (some ab),aN,.map (some tb),aN,aN] nT:=Yw.mono (Y:=X8) fun k e=>by rw [e];exact Jn.2.2.1
  clear zL gG mh ZQ Cq hW hW7 kC uD g5 ON ahH ahI Hm hD5;have hs:=aj.ct od.s.has;repeat' first|refine bD ?_;intros
  have e0:xI.gD.toNat=0:=by rw [M9.1];rfl
  have kB:=agU.jH (p:=kA xI) zQ M9.2;have UX: ¬F2 bx:=adJ bx zQ;refine od.call (Hy (r:=xI) (n:=1) (S:=(· =bx)) (T:=nX) (c:=⟨1,0,0,lb,rb,0,ab,aN,tb⟩) Yw g8 (fun k a b=>UX (by rw [←a];exact b)) (fun k e=>by rw [e];exact Jn.2.2.1) rfl rfl rfl rfl (od.fx fun k e=>.inl e) hGL zQ (afU rfl rfl rfl rfl rfl) (fun k af=>af.elim) (OR rfl rfl rfl) (by have:=M9.2;omega)) kQ (fun k e=>.inl e) fun v C7 w9 X9 L9 ZD I9 lT c9=>?_;obtain⟨rfl,G9,hG9,g9⟩:=L9;rw [e0] at g9⊢;rw [kB.1];generalize LD.jH ⟨(xL 4096).L,(xL 4096).m⟩ 0 (kA xI)=kp at g9 kB⊢;have mW: ∀k,X8 k→ ¬F2 k→X9 k∧w9.heap[k]? =w8.heap[k]? :=fun k h1 h2=>⟨c9.sub k h1,c9.block k h1 h2⟩;have adK: ¬F2 ab:=adJ ab zQ;have adL: ¬F2 tb:=adJ tb zQ;have wO:a7 w9 X9 bx [I 1,I 0,I 0,ptr lb 0,B false,ptr rb 0,.pointer none,.map (some ab),aN,.map (some tb),aN,aN] nT:=⟨(mW bx Jn.2.2.1 UX).1,(mW bx Jn.2.2.1 UX).2.trans Tw.2⟩;have alm:dR w9 (· =ab) nX ab (fun k:dc=>k.v) nG []:=ZR.mv fK (fun k af _=>⟨af,by rw [af];exact(mW ab Jn.1 adK).2⟩) fun _ h=>h.elim;have aln:dR w9 (· =tb) nX tb (fun k:dc=>k.v) nG []:=ZS.mv fK (fun k af _=>⟨af,by rw [af];exact(mW tb Jn.2.1 adL).2⟩) fun _ h=>h.elim;have ajC:gN w9 D rb mb (l.foldl eH []):=afp.mv fun k af _=>⟨af,(mW k (Jn.2.2.2 k af) (adH k af)).2⟩;have OU:X9 ab∧X9 tb∧X9 bx∧ ∀k,D k→X9 k:=⟨(mW ab Jn.1 adK).1,(mW tb Jn.2.1 adL).1,wO.1,fun k af=>(mW k (Jn.2.2.2 k af) (adH k af)).1⟩;have hz8:=od.s.kp.size;have ahJ:bx<w8.heap.size:=Yw.lt;have UY: ∀k,k<w8.heap.size→ ¬F2 k→ ¬G9 k:=fun k h1 h2 hg=>(hG9 k hg).elim h2 fun e=>by have:=e.1;omega
  have tw:Ft w0 F w9 X9 (fun k=>G9 k∨k=bx):=lT.less fun k e=>e.elim (fun e=>(hG9 k e).imp .inl id) fun e=>.inl (.inr e);clear hs Tw Yw g8 afp ZR ZS Jn mW od lT c9;have hs:=aj.ct tw.s.has;repeat' first|refine bD ?_;intros
  refine qu (o:=1) wO zQ kQ (by simp) rfl tw.s.has fun Me Jo zU ZT=>?_;replace ZT:a7 Me Jo bx [I 1,I 1,I 0,ptr lb 0,B false,ptr rb 0,.pointer none,.map (some ab),aN,.map (some tb),aN,aN] nT:=ZT;have xE:=tw.fM (F':=fun k=>G9 k∨k=bx) zU (fun k e=>.inr e) fun k e=>.inl e;clear hs;have hs:=aj.ct xE.s.has;repeat' first|refine aJ ?_;intros
  refine gC (Ch (c:=⟨1,1,0,lb,rb,0,ab,aN,tb⟩) (Cf:=.pointer none) (Y:=Jo) ZT (fun _ h=>h) (show(1:Int)≤1∧(1:Int)≤2 from by decide)) kQ xE.s.has fun w11 X11 Qc=>?_;refine dp (abi (node:=21) (fl:=.zero) (by decide) (by decide) (by decide)) kQ Qc.has ?_;rintro _ amR w12 X12 ⟨cb,rfl,yH⟩ amC ajD zf;have EZ:=Qc.trans zf;have ahK:=xE.since EZ;have alo:=ZT.since EZ;clear hs;have hs:=aj.ct zf.has;repeat' first|refine aJ ?_;intros
  refine qu (o:=6) alo zQ kQ (by simp) rfl ahK.s.has fun w13 X13 UZ adM=>?_;have ZU:=ahK.fM (F':=fun k=>G9 k∨k=bx) UZ (fun k e=>.inr e) fun k e=>.inl e;clear hs;have hs:=aj.ct ZU.s.has;repeat' first|refine aJ ?_;intros
  have lW:=EZ.kp.size;have amS:=Qc.kp.size;have RU:Me.heap.size≤cb∧cb<w12.heap.size:=⟨by have:=yH.1.1;omega,yH.1.2⟩;have adN:X12 cb:=ajD cb yH.1;have amT:=zU.size;have C8: ∀k,X9 k→k≠bx→X13 k∧w13.heap[k]? =w9.heap[k]? :=fun k h1 h2=>⟨UZ.sub k (EZ.sub k (zU.sub k h1)),((UZ.block k (EZ.sub k (zU.sub k h1)) h2).trans (EZ.kp.block k (zU.sub k h1))).trans (zU.block k h1 h2)⟩;have adO: ∀k,X9 k→k<Me.heap.size:=fun k h1=>zU.has k (zU.sub k h1);refine ZU.ahh fun wa bk=>?_
  show DB l F db _ w0 wa
  unfold DB;rw [if_neg hc];have Am: ∀k,X9 k→k≠bx→wa.heap[k]? =w9.heap[k]? :=fun k h1 h2=>(bk.block k (C8 k h1 h2).1).trans (C8 k h1 h2).2;have alp:cb≠bx:=fun e=>by have:=adO bx OU.2.2.1;omega
  have s9:ab≠bx:=by omega
  have htb:tb≠bx:=by omega
  have Qd: ∀k,X13 k→k<wa.heap.size:=fun k h1=>aG (UZ.has k h1) bk.size;refine⟨bx,⟨1,1,0,lb,rb,cb,ab,aN,tb⟩,mb,fun k=>k=bx∨k=ab∨k=tb∨k=cb∨D k,D,G9,kp.1.L,kp.1.m,rfl,fun k af=>?_,fun k af=>?_,rfl,rfl,rfl,?_,kB.2⟩
  ·rcases af with e|e|e|e|e
   ·rw [e];exact⟨by omega,Qd bx adM.1⟩
   ·rw [e];exact⟨by omega,Qd ab (C8 ab OU.1 s9).1⟩
   ·rw [e];exact⟨by omega,Qd tb (C8 tb OU.2.1 htb).1⟩
   ·rw [e];exact⟨by have:=adO bx OU.2.2.1;omega,Qd cb (UZ.sub cb adN)⟩
   ·exact⟨alk k e,Qd k (C8 k (OU.2.2.2 k e) (by have:=Na.2.2.1 k e;omega)).1⟩
  ·rcases ZU.v k (.inl af)with e|e
   ·exact .inl e
   ·exact .inr ⟨e,Qd k (ZU.bK k (.inl af))⟩
  ·have ajE: ∀k,G9 k→k<w9.heap.size:=fun k hg=>tw.s.has k (tw.bK k (.inl hg));refine⟨⟨rfl,(bk.block bx adM.1).trans adM.2⟩,alm.mv fK (fun k af _=>⟨af,by rw [af];exact Am ab OU.1 s9⟩) fun _ h=>h.elim,aln.mv fK (fun k af _=>⟨af,by rw [af];exact Am tb OU.2.1 htb⟩) fun _ h=>h.elim,
    ⟨rfl,((bk.block cb (UZ.sub cb adN)).trans (UZ.block cb adN alp)).trans yH.2⟩,ajC.mv fun k af _=>⟨af,Am k (OU.2.2.2 k af) (by have:=Na.2.2.1 k af;omega)⟩,
    g9.mv fun k af _=>⟨af,Am k (tw.bK k (.inl af)) fun e=>UY bx ahJ UX (by rw [←e];exact af)⟩,rfl,fun k=>Iff.rfl,fun k af hg=>?_,Na.2.2.2.1,fun k af=>?_⟩
   ·rcases af with e|e|e|e|e
    ·exact UY bx ahJ UX (by rw [←e];exact hg)
    ·exact UY ab zQ adK (by rw [←e];exact hg)
    ·exact UY tb zQ adL (by rw [←e];exact hg)
    ·have h1:=ajE k hg;rw [e] at h1;omega
    ·exact UY k (by have:=Na.2.2.1 k e;omega) (adH k e) hg
   ·have h1:=Na.2.2.2.2.1 k af;have h2:=Na.2.2.1 k af;exact⟨by show k≠bx;omega,h1.1,h1.2,by show k≠cb;have:=adO bx OU.2.2.1;omega⟩
section
variable {P : Program} {X : XS} {w : World}
end
theorem Xn {w:World} {X F:XS} {hv:Value} {r:List Value} (own:Own w F 0 44 36 hv [r]) (hF: ∀k,F k→X k) (hr: ∀u∈r,aV.one u=true):
  Ct pg 118 #[hv,I 0,I 1] w X (cY hv) fun v wa w'=>Own w' (cY hv) 0 44 36 v []∧v.ownBlock=hv.ownBlock:=by
 intro w0 hk;have ZV:=own.mv ((Mv.sub hF).trans hk.dD);have hT:Ft w0 (cY hv) w0 (aR w0) (cY hv):=Ft.init fun k af=>(ZV.ge af).2;have wD:=ZV.sl;have B9:r.length=36:=ZV.1 r (by simp);apply tZ;unfold mN;have hs:=aj.init w0;rcases ZV.row with⟨_,h⟩|⟨g,cap,cs,rfl,fp,bJ,xv,lD,jx,xw⟩
 ·simp at h
 simp only [List.length_singleton] at*;have amU:Sl w0 (aR w0) 36 (.slice (some ⟨g,0,none⟩) 1 cap) ([r].map id):=by simpa using wD
 repeat' first|refine aJ ?_;intros
 refine afW (i:=0) (j:=1) (q:=1) rfl rfl rfl zQ zQ xv kQ kQ fun _=>?_;repeat' first|refine bD ?_;intros
 refine Oe (i:=0) rfl zQ kQ kQ ?_;refine afX wD (i:=1) rfl (by simp) kQ kQ fun v2 bU=>?_;refine adP (k:=36) (n:=0) kQ bJ bU (fun q hq u hu=>by simp at hq) (by simp) (by simp) hs.has fun w1 X1 c1 uY=>?_;have dU:=hT.fM c1 (fun k af=>af.symm▸rfl) (F':=cY (.slice (some ⟨g,0,none⟩) 1 cap)) fun k af=>.inl af;rw [show 0+(List.drop 1 [r]).length=0 from rfl,show(([r].length:Nat):Int)=1 from rfl];replace uY:a7 w1 X1 g cs 44:=by simpa [dg] using uY
 have uf:Own w1 X1 0 44 36 (.slice (some ⟨g,0,none⟩) 0 cap) []:=Own.Uv uY (aF _) (by simp) rfl (aF _) lD jx rfl;have ao:Sl w1 X1 36 (.slice (some ⟨g,0,none⟩) 0 cap) (([]:List (List Value)).map id):=uf.sl;clear hs;have hs:=aj.ct dU.s.has;repeat' first|refine aJ ?_;intros
 refine ahL (k:=36) (i:=0) (j:=1) rfl rfl zQ xv zQ kQ kQ ?_;rw [show 0+0*36=0 from rfl];refine adQ (k:=36) (bytes:=416) (e:=44) (o:=0) (n:=1) uY kQ kQ zQ zQ dU.s.has fun w2 X2 zs hzl c2 qU=>?_;have cW:=dU.fM c2 (fun k af=>af.symm▸rfl) (F':=nX) fun k af=>af.elim;have LU:(dg cs 0 zs).length=cap*36:=by
  unfold dg;simp only [List.take_zero,List.nil_append,au,List.length_drop,hzl,jx,Nat.zero_add];omega
 have nW:Own w2 X2 0 44 36 (.slice (some ⟨g,0,none⟩) 0 cap) []:=Own.Uv qU (aF _) (by simp) rfl (aF _) lD LU rfl;exact cW.fin fun wa bk=>⟨tg (nW.kp bk) fun g' jg=>jg,rfl⟩
theorem Nb {w:World} {X:XS} {a:Value} {xs:List dF} {f:FuncId} {cs:List Value} {p:dF→Bool} (ha:en w X 36 a dF.rd xs) (hX: ∀k,X k→k<w.heap.size) (hf:enters pg f=true)
  (hp: ∀(x:dF) vk vs vw vp vr vc vh vd,aV.one vk=true→aV.one vs=true→aV.one vw=true→aV.one vp=true→aV.one vr=true→aV.one vc=true→aV.one vh=true→aV.one vd=true→Ct pg f ((x.v vk vs vw vp vr vc vh vd)::cs).toArray w X nX fun v _ _=>v=B (p x)):
  Ct pg 254 #[a,.func (.func f) #[] cs.toArray] w X nX fun v _ _=>v=I (idxOf p xs):=by
 intro w0 hk;replace ha:=en.mv ha dF.mv hk.dD;replace hp:=fun (x:dF) vk vs vw vp vr vc vh vd h1 h2 h3 h4 h5 h6 h7 h8=>((hp x vk vs vw vp vr vc vh vd h1 h2 h3 h4 h5 h6 h7 h8).kp hk).aR fun k hx=>aG (hX k hx) hk.size;have jT:=ha.len;apply sA;unfold lX;have hs:=aj.init w0;repeat' first|refine aJ ?_;intros
 refine fR (fun n a w X=> ∃i:Nat,a=I (i:Nat)∧n=(xs).length-i∧i≤(xs).length∧aj (aR w0) w0 X w∧(∀(j:Nat) x,j<i→xs[j]? =some x→p x=false)) (xs).length ⟨0,rfl,rfl,aF _,hs,by simp⟩ ?_;rintro n a w X ⟨i,rfl,rfl,hi,hs,hw⟩;rcases ew (xs) i with⟨dy,x,hx,hd⟩|⟨dV,hd⟩
 ·have nD:=en.mv ha dF.mv hs.mv;repeat' first|refine bD ?_;intros
  refine Bt nD hx rfl kQ kQ fun bb oo ll hc qq=>?_;obtain⟨vk,vs,vw,vp,vr,vc,vh,vd,rfl,ef⟩:=qq;have q1:=ef.keys.one;have q2:=ef.seen.one;have q3:=ef.writes.one;have q4:=ef.parts.one;have q5:=ef.ranges.one;have q6:=ef.gd.one;have q7:=ef.fV.one;have q8:=ef.fB.one;repeat' first|refine aJ ?_;intros
  refine fT ((hp x vk vs vw vp vr vc vh vd q1 q2 q3 q4 q5 q6 q7 q8).since hs) hf hs.has (fun hb w2 X2 bU=>?_) (fun hb w2 X2 bU=>?_)
  ·repeat' first|refine aJ ?_;intros
   exact av (hs.trans bU) fun _ _=>by rw [Nc hw hx hb]
  ·repeat' first|refine aJ ?_;intros
   exact fh (xs.length-(i+1)) zQ ⟨i+1,by simp,rfl,by omega,hs.trans bU,fun j y hj hy=>by rcases Nat.lt_succ_iff_lt_or_eq.1 hj with h|h;exact hw j y h hy;subst h;rw [hx] at hy;cases hy;exact hb⟩
 ·repeat' first|refine aJ ?_;intros|refine dM ?_ ?_<;>intros|((first|(with_reducible refine av hs ?_)|(with_reducible refine av (bS.trans hs) ?_));intro wa hk;(rw [Gq fun j x hj hx=>hw j x zQ hx]))|(exfalso;omega)
section
variable {w w' wa : World} {X X' K K' Y : XS} {nb xb mb : Nat} {c : ph} {x : oN} {vm va vw dZ gr ia fy jY : Value} {al : List (dc × Nat)} {rm ra rw : List (List Value)} {ms ws : List dF} {ps : List Int}
theorem U5 {m:dF} {vk vs vw vp vr vc vh vd:Value} {b:Nat} {id:Int} (h:a7 w X b [I id] 3):
  Ct pg 255 #[m.v vk vs vw vp vr vc vh vd,ptr b 0] w X nX fun v _ _=>v=B (decide (m.range=id)):=by
 intro w0 hk;replace h:=h.mv hk.dD;apply Av;unfold r7;have hs:=aj.init w0;repeat' first|refine aJ ?_;intros|refine dM ?_ ?_<;>intros|((first|(with_reducible refine av hs ?_)|(with_reducible refine av (bS.trans hs) ?_));intro wa hk;(simp [*]))
theorem Cr {id:Int} (h:fu w K nb xb c x vm va vw dZ al rm ra rw ms ws ps) (hC:FX (cF nb xb c.ab vm va vw dZ) X w) (hK:FX K X w):
  Ct pg 178 #[ptr xb 0,I id] w X nX fun v _ _=>v=I (idxOf (fun m=>decide (m.range=id)) ws):=by
 intro w0 hk;replace h:=h.mv (fun k af=>hk.block k (hC k af).1) (hk.fi fun k af=>(hK k af).1) h.kd;have kT:=hC.kp hk;have jz:=hK.kp hk;have jl:=h.act.mono fun k e=>(kT k (.inr (.inl e))).1;have hwR:en w0 (aR w0) 36 vw dF.rd ws:=⟨rw,h.ow.sl.mono fun k af=>(kT k (.inr (.inr (.inr (.inr (.inr (.inl af))))))).1,h.hw.1,fun i l m h1 h2=>dF.mv (h.hw.2 i l m h1 h2) (Mv.sub fun k af=>(jz k af).1)⟩;have ovw:=hwR.one;apply CN;unfold um;have hs:=aj.init w0;repeat' first|refine aJ ?_;intros|(with_reducible apply ta);(case ho=>rfl);(case hX=>exact hs.has);intro bx w X gh ao bJ;have bS:=hs.trans ao;replace hs:=aj.ct ao.has
 refine gC (Nb (cs:=[ptr bx 0]) (p:=fun m=>decide (m.range=id)) (en.mv hwR dF.mv bS.mv) hs.has kQ fun x vk vs vw vp vr vc vh vd _ _ _ _ _ _ _ _=>U5 bJ) kQ hs.has fun w2 X2 bU=>?_;exact av (bS.trans bU) fun _ _=>rfl
end
theorem Qe {P:Program} {X:XS} {w:World} {N:Value→Prop} {t:TypeId} {xo yo:Operand} {a:Bool} (ht:P.underlying t=some .bool) (k:N (.bool false)):ae P X w (aD .neq t xo yo (.bool a) (.bool a)) N:=by
 refine cf (fun wa=>?_) k;simp [aD,eqGuard,run_neq_bool wa t a a ht]
section
variable {w w' wa : World} {X X' K K' Y : XS} {nb xb mb cb : Nat} {c : ph} {x : oN} {vm va vw dZ gr ia fy jY : Value} {al : List (dc × Nat)} {rm ra rw : List (List Value)} {ms ws : List dF} {ps : List Int} {ck : cw}
theorem OV {m:dF} {vk vs fy vp vr vc vh vd:Value} {i:Nat} (h:fu w K nb xb c x vm va vw dZ al rm ra rw ms ws ps) (hC:FX (cF nb xb c.ab vm va vw dZ) X w) (hK:FX K X w) (jK:a7 w X c.cb (kz ck) kL) (U6: ¬K c.cb)
  (hg:getM m.dK al=some xb) (hp:x.pre=true) (hi:idxOf (fun y=>decide (y.range=m.range)) ws=i) (KQ:m.code=0) (ed:m.bF.may=true):
  Ct pg 115 #[ptr nb 0,m.v vk vs fy vp vr vc vh vd,B true] w X (· =c.cb) fun v wa w'=>v= .tuple #[ptr xb 0,I i]∧a7 w' (· =c.cb) c.cb (kz (ck.later ⟨m.bF.wall,m.bF.ep,ck.node⟩)) kL:=by
 intro w0 hk;have hF:FX (· =c.cb) X w:=fun k e=>by subst e;exact⟨jK.1,jK.lt⟩
 have hT:=hF.ft hk;have MY:=h.Bu jK;replace h:=h.mv (fun k af=>hk.block k (hC k af).1) (hk.fi fun k af=>(hK k af).1) h.kd;replace jK:=jK.mv hk.dD;have kT:=hC.kp hk;have jz:=hK.kp hk;have bJ:=h.row.mono fun k e=>(kT k (.inl e)).1;have jl:=h.act.mono fun k e=>(kT k (.inr (.inl e))).1;rw [show Cg x vw=Cg { x with pre:=true } vw by rw [←hp]] at jl;have Dz:=pa h.am (Y:=aR w0) (kT _ (.inr (.inr (.inl rfl)))).1;clear hC hK hk hF;apply Gr;unfold xJ;have hs:=aj.init w0;repeat' first|refine aJ ?_;intros
 refine th (kt:=27) (et:=110) (kv:=fun k:dc=>k.v) (k:=m.dK) (.pointer none) Dz BI kQ kQ (fun v a zH AU=>?_) (fun hn=>?_)
 ·rw [hg] at zH;cases zH;simp only [nG] at AU;subst AU;repeat' first|refine aJ ?_;intros
  refine Qe kQ ?_;repeat' first|refine aJ ?_;intros|with_reducible apply dx
  refine gC (Cr (id:=m.range) h kT jz) kQ hs.has fun w1 X1 ao=>?_;rw [hi];have dU:=hT.since ao;have h1:=h.mv (K':=K) (fun k af=>ao.kp.block k (kT k af).1) (ao.fZ fun k af=>(jz k af).1) h.kd;have wL:=h.UF ao kT;have kU:FX K X1 w1:=fun k af=>⟨ao.sub k (jz k af).1,ao.has k (ao.sub k (jz k af).1)⟩;have ml:=bJ.since ao;have KP:=jK.since ao;clear hs bJ jl;have hs:=aj.ct ao.has;repeat' first|refine bD ?_;intros
  refine dU.call (Su KP ed) kQ (fun _ h=>h) fun v zF w2 X2 DC qI nV cW c2=>?_;obtain⟨_,ZW⟩:=DC;have h2:=h1.mv (w':=w2) (K':=K) (fun k af=>c2.block k (wL k af).1 fun e=>MY (by rw [←e];exact af)) (fun k af _=>⟨af,c2.block k (kU k af).1 fun e=>U6 (by rw [←e];exact af)⟩) h1.kd;have rW:FX (cF nb xb c.ab vm va vw dZ) X2 w2:=fun k af=>⟨c2.sub k (wL k af).1,c2.has k (c2.sub k (wL k af).1)⟩;have mB:FX K X2 w2:=fun k af=>⟨c2.sub k (kU k af).1,c2.has k (c2.sub k (kU k af).1)⟩;have ZX:X2 c.cb:=c2.sub _ KP.1;have qV:Ft w0 _ w2 X2 (· =c.cb):=cW.less fun k e=>.inl e;clear hs;have hs:=aj.ct cW.s.has;repeat' first|refine bD ?_;intros
  refine gC (Cr (id:=m.range) h2 rW mB) kQ hs.has fun w3 X3 ea=>?_;rw [hi];have dE:=qV.since ea;exact dE.fin fun wa bk=>⟨rfl,ZW.mv fun k af _=>⟨af,by rw [af];exact(bk.block _ (ea.sub _ ZX)).trans (ea.kp.block _ ZX)⟩⟩
 ·rw [hg] at hn;cases hn
end
abbrev YA:Nat:=199
section
variable {w w' wa : World} {X X' K K' Y : XS} {nb xb mb cb : Nat} {c : ph} {x : oN} {vm va vw dZ gr ia fy jY : Value} {al bl : List (dc × Nat)} {rm ra rw : List (List Value)} {ms ws : List dF} {ps : List Int} {ck : cw}
theorem Xo {r:Rec} {vp:Value} (h:fu w K nb xb c x vm va vw dZ al rm ra rw ms ws ps) (hC:FX (cF nb xb c.ab vm va vw dZ) X w) (hK:FX K X w) (lD:c.cm=aN) (R3:dR w (· =c.bb) nX c.bb (fun k:dc=>k.v) nG bl) (hbX:X c.bb) (hbK: ¬K c.bb) (hbF: ¬cF nb xb c.ab vm va vw dZ c.bb)
  (hp:Sl w K 1 vp (r.parts.map I1)) (I8:r.parts.length≤2^40):
  Ct pg 82 #[ptr nb 0,r.v aN aN vp aN aN aN] w X (fun k=>k=nb∨k=c.bb) fun v wa w'=> ∃mb vcm v2 K',v=ptr mb 0∧(∀k,K k→K' k)∧(∀k,K' k→K k∨made wa w' k)∧fu w' K' nb xb { c with cm:=vcm } x vm va vw dZ al rm ra rw ms ws ps∧
   a7 w' K' mb (r.l aN aN vp aN aN aN++[v2,B false]) YA∧Sl w' K' 1 v2 (r.parts.map I1):=by
 intro w0 hk;have hF:FX (fun k=>k=nb∨k=c.bb) X w:=fun k e=>by
  rcases e with e|e<;>subst e
  ·exact hC _ (.inl rfl)
  ·exact⟨hbX,R3.x.2⟩
 have hT:=hF.ft hk;have oe:Mv K w K w0:=hk.fi fun k af=>(hK k af).1;replace h:=h.mv (fun k af=>hk.block k (hC k af).1) oe h.kd;replace hp:=hp.mv oe;replace R3:dR w0 (· =c.bb) nX c.bb (fun k:dc=>k.v) nG bl:=R3.mv fK (fun k af _=>⟨af,by rw [af];exact hk.block _ hbX⟩) fun _ h=>h.elim;have kT:=hC.kp hk;have jz:=hK.kp hk;have ahM:=R3.x.2;have h3:=hp.one;obtain⟨e1,e2,e3,rfl⟩:=hp.form;clear hC hK hk oe hF;apply Lj;unfold AV;have hs:=aj.init w0
 skip
 refine dp (IW (hp.mono fun k af=>(jz k af).1) I8) kQ hs.has ?_;rintro v2 qJ w1 X1 q1 sj oQ FJ;have ov2:=q1.sl.one;have R4:Own w1 X1 w0.heap.size _ 1 v2 _:=q1.up oQ sj;obtain⟨g1,g2,g3,rfl⟩:=q1.sl.form;have UQ:=FJ.kp.size;clear hs;have hs:=aj.ct FJ.has;repeat' first|refine aJ ?_;intros|(with_reducible apply nY);(case hX=>exact hs.has);intro bx w X gh ao bJ;have bS:=hs.trans ao;replace hs:=aj.ct ao.has
 have yE:=FJ.trans ao;have cW:=hT.since yE;have DC:=R4.since ao;have h2:=h.since kT jz yE (fun k=>k=bx∨cY (.slice g1 g2 g3) k) fun k e=>e.elim (fun e=>by rw [e];omega) fun e=>(R4.ge e).1;have rW:=h.UF yE kT;have mB:FX (fun k=>K k∨k=bx∨cY (.slice g1 g2 g3) k) X w:=fun k af=>by
  rcases af with e|e|e
  ·exact⟨yE.sub k (jz k e).1,yE.has k (yE.sub k (jz k e).1)⟩
  ·rw [e];exact⟨bJ.1,bJ.lt⟩
  ·exact⟨DC.2.2 k e,(DC.ge e).2⟩
 have ahN:a7 w (fun k=>K k∨k=bx∨cY (.slice g1 g2 g3) k) bx (r.l aN aN (.slice e1 e2 e3) aN aN aN++[.slice g1 g2 g3,B false]) YA:=⟨.inr (.inl rfl),bJ.2⟩;have AU:Sl w (fun k=>K k∨k=bx∨cY (.slice g1 g2 g3) k) 1 (.slice g1 g2 g3) (r.parts.map I1):=(tg DC fun k e=>.inr (.inr e)).sl;have alq:dR w (· =c.bb) nX c.bb (fun k:dc=>k.v) nG bl:=R3.mv fK (fun k af _=>⟨af,by rw [af];exact yE.kp.block _ ahM⟩) fun _ h=>h.elim;have ahO:X c.bb:=yE.sub _ ahM;have xD: ∀k,(K k∨k=bx∨cY (.slice g1 g2 g3) k)→K k∨w0.heap.size≤k:=fun k af=>af.imp id fun e=>e.elim (fun e=>by rw [e];omega) fun e=>(R4.ge e).1;have ZY: ¬(K c.bb∨c.bb=bx∨cY (.slice g1 g2 g3) c.bb):=fun e=>by
  rcases e with e|e|e
  ·exact hbK e
  ·omega
  ·have:=(R4.ge e).1;omega
 generalize wN:(fun k=>K k∨k=bx∨cY (.slice g1 g2 g3) k)=K2 at h2 mB ahN AU;replace xD: ∀k,K2 k→K k∨w0.heap.size≤k:=fun k af=>xD k (by rw [←wN] at af;exact af);replace ZY: ¬K2 c.bb:=by rw [←wN];exact ZY
 have ZO: ∀k,K k→K2 k:=fun k af=>by rw [←wN];exact .inl af
 have alr:a7 w X nb (ui { c with cm:=aN } vm va) nT:=by
  rw [←lD];exact h2.row.mono fun k e=>(rW k (.inl e)).1
 clear hs bS bJ ao FJ yE hT h R3 hp R4 DC q1 wN;have hs:=aj.ct cW.s.has;repeat' first|refine aJ ?_;intros|(with_reducible apply IF);(case hX=>exact hs.has);(case he=>kernel_rfl);(case ho=>first|rfl|assumption);(case hk=>rfl);intro acc w X ao ho;obtain⟨_,_,_,rfl⟩:=ho.sl.form;replace hs:=hs.trans ao
 have dE:=cW.since ao;have R5:=h2.mv (K':=K2) (fun k af=>ao.kp.block k (rW k af).1) (ao.fZ fun k af=>(mB k af).1) h2.kd;have AT:=h2.UF ao rW;have kV:FX K2 X w:=fun k af=>⟨ao.sub k (mB k af).1,ao.has k (ao.sub k (mB k af).1)⟩;have als:=ahN.mv (ao.fZ fun k af=>(mB k af).1);have Om:=AU.mv (ao.fZ fun k af=>(mB k af).1);have alu:dR w (· =c.bb) nX c.bb (fun k:dc=>k.v) nG bl:=alq.mv fK (fun k af _=>⟨af,by rw [af];exact ao.kp.block _ ahO⟩) fun _ h=>h.elim;have ahP:X c.bb:=ao.sub _ ahO;have Nd:=alr.since ao;have oho:=ho.sl;refine BH (bytes:=8) (own:=(Own.nil w X 0 196 1:Own w X 0 196 1 aN [])) dE.s.has (aF _) kQ ho.sl (fun r qp u hu=>?_) (by simp) (by simp) fun v5 w5 X5 c5 jU uB=>?_
 ·rw [bw] at qp;subst qp;rw [bw] at hu;subst hu;rfl
 have ac4:a7 w5 X5 nb (ui { c with cm:=aN } vm va) nT:=⟨c5.sub _ Nd.1,(c5.block nb Nd.1 fun e=>by cases e).trans Nd.2⟩;have ov5:=jU.sl.one;obtain⟨t1,t2,t3,rfl⟩:=jU.sl.form;clear hs;have hs:=aj.ct c5.has;repeat' first|refine aJ ?_;intros
 refine qu (o:=8) ac4 zQ kQ (by simp) rfl c5.has fun w6 X6 c6 IN=>?_;have cg:ez (fun k=>k=nb) _ _ X6 w6:=(c5.mono fun k _ e=>by cases e).trans (c6.mono fun k _ e=>e);have ap:=R5.ap;have ed:=R5.step (c':= { c with cm:=.slice t1 t2 t3 }) (x':=x) (gr:=vm) (ia:=va) (fy:=vw) (jY:=dZ) (mV:=al) (kS:=rm) (uj:=ra) (oO:=rw) (uT:=ms) (uU:=ws) (Dr:=ps) (fun k af=>(AT k af).1) (fun k af=>(kV k af).1) dE.s.has (fun k=>k=nb) cg (fun k af=>.inl af) rfl
  (.inr IN) (.inl ⟨fun e=>ap.nx e.symm,rfl⟩) (.inl ⟨fun e=>ap.an e,rfl⟩) (.inl ⟨fun g hg e=>(ap.m g hg).1 e,rfl,rfl⟩) (.inl ⟨fun g hg e=>(ap.a g hg).1 e,rfl,rfl⟩) (.inl ⟨fun g hg e=>(ap.w g hg).1 e,rfl,rfl⟩) (.inl ⟨fun g hg e=>(ap.p g hg).1 e,rfl,rfl⟩) R5.hm R5.hw ov5 R5.o2 R5.o3 R5.o4
 have h6:=ed.1;have eX:=dE.fM (F':=fun k=>k=nb∨k=c.bb) cg (fun k e=>.inl e) fun k e=>.inl e;have du:c.bb≠nb:=fun e=>hbF (.inl e);have hkn: ∀k,K2 k→k≠nb:=fun k af e=>R5.kd k af (.inl e);have ahQ:Mv K2 w K2 w6:=fun k af _=>⟨af,cg.block k (kV k af).1 (hkn k af)⟩;have gX:FX K2 X6 w6:=fun k af=>⟨cg.sub k (kV k af).1,eX.s.has k (cg.sub k (kV k af).1)⟩;have R6:FX (cF nb xb c.ab vm va vw dZ) X6 w6:=fun k af=>⟨cg.sub k (AT k af).1,eX.s.has k (cg.sub k (AT k af).1)⟩;have ZZ:dR w6 X6 nX c.bb (fun k:dc=>k.v) nG bl:=pa (alu.mv (A':=nX) (Y:=(· =c.bb)) fK (fun k af _=>⟨af,by rw [af];exact cg.block _ ahP du⟩) fun _ h=>h.elim) (cg.sub _ ahP);have Dq:=h6.row.mono fun k e=>(R6 k (.inl e)).1;clear hs;have hs:=aj.ct eX.s.has;repeat' first|refine aJ ?_;intros
 refine te (kv:=fun k:dc=>k.v) (k:=r.dK) (a:=bx) (et:=196) ZZ fK (show nG w6 nX (ptr bx 0) bx from rfl) (fun _ h=>h.elim) BI kQ eX.s.has fun w7 X7 c7 Oy=>?_;have kC:=eX.fM (F':=fun k=>k=nb∨k=c.bb) c7 (fun k e=>.inr e) fun k e=>.inl e;have h7:=h6.mv (w':=w7) (K':=K2) (fun k af=>c7.block k (R6 k af).1 fun e=>hbF (by rw [←e];exact af)) (fun k af _=>⟨af,c7.block k (gX k af).1 fun e=>ZY (by rw [←e];exact af)⟩) h6.kd;have ahR:Mv K2 w6 K2 w7:=fun k af _=>⟨af,c7.block k (gX k af).1 fun e=>ZY (by rw [←e];exact af)⟩
 skip
 refine kC.fin fun wa bk=>⟨bx,.slice t1 t2 t3,.slice g1 g2 g3,K2,rfl,ZO,fun k af=>(xD k af).imp id fun e=>⟨e,aG (kC.s.has k (c7.sub k (gX k af).1)) bk.size⟩,
  h7.mv (fun k af=>bk.block k (c7.sub k (R6 k af).1)) (bk.fi fun k af=>c7.sub k (gX k af).1) h7.kd,(als.mv (ahQ.trans ahR)).mv (bk.fi fun k af=>c7.sub k (gX k af).1),(Om.mv (ahQ.trans ahR)).mv (bk.fi fun k af=>c7.sub k (gX k af).1)⟩
def Nf (r:Rec) (id:Int):dF:= { uE with kind:=5,dK:=r.dK,range:=id,kM:=true,bF:=r.bF }
theorem Qf {r:Rec} {mb:Nat} {vp v2:Value} (h:fu w K nb xb c x vm va vw dZ al rm ra rw ms ws ps) (hC:FX (cF nb xb c.ab vm va vw dZ) X w) (hK:FX K X w) (hcr:a7 w K mb (r.l aN aN vp aN aN aN++[v2,B false]) YA) (AU:Sl w K 1 v2 (r.parts.map I1)) (hi:1≤c.id∧c.id≤2) (hl:rm.length+r.parts.length≤2^20):
  Ct pg 120 #[ptr nb 0,ptr mb 0] w X (cF nb xb c.ab vm va vw dZ) fun _ wa w'=> ∃gr kS,(∀k,cF nb xb c.ab gr va vw dZ k→cF nb xb c.ab vm va vw dZ k∨made wa w' k)∧
   fu w' K nb xb c x gr va vw dZ al kS ra rw(ms++r.parts.map fun id=>(Nf r id).l9 (20+c.id)) ws ps:=by
 intro w0 hk;have hT:=hC.ft hk;have oe:Mv K w K w0:=hk.fi fun k af=>(hK k af).1;replace h:=h.mv (fun k af=>hk.block k (hC k af).1) oe h.kd;replace hcr:=hcr.mv oe;replace AU:=AU.mv oe;have kT:=hC.kp hk;have jz:=hK.kp hk;have afq:a7 w0 (aR w0) mb (r.l aN aN vp aN aN aN++[v2,B false]) YA:=hcr.mono fun k af=>(jz k af).1;have jT:r.parts.length≤2^20:=by omega
 clear hC hK hk;apply Gs;unfold xK;have hs:=aj.init w0;have alv:Sl w0 (aR w0) 1 v2 (r.parts.map I1):=AU.mono fun k af=>(jz k af).1;repeat' first|refine aJ ?_;intros
 refine fR (fun n a w X=> ∃(i:Nat) (gr:Value) (kS:List (List Value)),a=I (i:Nat)∧n=r.parts.length-i∧i≤r.parts.length∧Ft w0 (cF nb xb c.ab vm va vw dZ) w X (cF nb xb c.ab gr va vw dZ)∧FX K X w∧
  fu w K nb xb c x gr va vw dZ al kS ra rw(ms++(r.parts.take i).map fun id=>(Nf r id).l9 (20+c.id)) ws ps∧kS.length=rm.length+i∧a7 w K mb (r.l aN aN vp aN aN aN++[v2,B false]) YA∧Sl w K 1 v2 (r.parts.map I1)) r.parts.length ⟨0,vm,rm,rfl,rfl,aF _,hT,jz,by simpa using h,rfl,hcr,AU⟩ ?_
 clear hs hT h hcr AU kT jz afq alv oe;rintro n _ w1 X1 ⟨i,vm1,rm1,rfl,rfl,hi1,dU,kU,h1,adR,ahS,zH⟩;have hs:=aj.ct dU.s.has;have afq:a7 w1 X1 mb (r.l aN aN vp aN aN aN++[v2,B false]) YA:=ahS.mono fun k af=>(kU k af).1;have amV:Sl w1 X1 1 v2 (r.parts.map I1):=zH.mono fun k af=>(kU k af).1;rcases ew (r.parts) i with⟨dy,id,hx,hd⟩|⟨dV,hd⟩
 ·repeat' first|refine bD ?_;intros
  have oL:(Nf r id).at w1 K aN aN aN aN aN aN aN aN:=⟨Sl.nil _ _ _,Sl.nil _ _ _,Sl.nil _ _ _,Sl.nil _ _ _,Sl.nil _ _ _,en.nil _ _ _,en.nil _ _ _,en.nil _ _ _⟩;refine dU.call (IY (m:=Nf r id) h1 (dU.fx fun _ h=>h) kU oL hi zQ) kQ (fun _ h=>h) fun v zF w2 X2 DC qI nV cW c2=>?_;obtain⟨vm2,rm2,rW,h2,qU⟩:=DC;have qV:=cW.less rW;have P6:Mv K w1 K w2:=fun k af _=>⟨af,c2.block k (kU k af).1 (h1.kd k af)⟩;clear hs;have hs:=aj.ct qV.s.has;repeat' first|refine aJ ?_;intros
  exact fh (r.parts.length-(i+1)) zQ ⟨i+1,vm2,rm2,by simp,rfl,by omega,qV,fun k af=>⟨c2.sub k (kU k af).1,qV.s.has k (c2.sub k (kU k af).1)⟩,
   by rw [cC,hx];simp only [fj,bC,List.map_cons,List.map_nil,←aI];exact h2,by omega,ahS.mv P6,zH.mv P6⟩
 ·rw [bA zQ] at h1;repeat' first|refine bD ?_;intros
  exact dU.fin fun wa bk=>⟨vm1,rm1,dU.gU bk fun _ h=>h,h1.mv (fun k af=>bk.block k (dU.bK k af)) (bk.fi fun k af=>(kU k af).1) h1.kd⟩
end
def rK (t:dc) (st:cw) (ps:List Int):Rec:=⟨9,t,st,.zero,false,0,0,[],[],ps,[],.zero⟩
section
variable {w w' wa : World} {X X' K K' Y G : XS} {nb xb mb cb db : Nat} {c : ph} {x : oN} {vm va vw dZ gr ia fy jY : Value} {al bl : List (dc × Nat)} {rm ra rw : List (List Value)} {ms ws : List dF} {ps : List Int} {ck : cw} {L : LM} {dm : DM} {n : Nat}
def ajF (F:XS) (nb xb:Nat) (c:ph) (x:oN) (K:XS) (ps:List Int) (st:cw) (wa w':World):Prop:= ∃c' x' vm va vw K' al rm rw vs,(∀k,cF nb xb c'.ab vm va vw aN k→F k∨made wa w' k)∧(∀k,K' k→K k∨made wa w' k)∧fu w' K' nb xb c' x' vm va vw aN al rm [UD 0 x.dK st false vs] rw(ps.map fun id=>(Nf (rK x.dK st ps) id).l9 (20+c.id)) [] []∧c'.ga=c.ga∧c'.ab=c.ab∧aV.one vs=true
structure HB (w:World) (X K G:XS) (nb xb db:Nat) (c:ph) (x:oN) (vm va vw:Value) (al bl:List (dc×Nat)) (rm ra rw:List (List Value)) (ms ws:List dF) (vq:Value) (ps:List Int) (L:LM) (dm:DM):Prop where
 m:fu w K nb xb c x vm va vw aN al rm ra rw ms ws []
 fc:FX (cF nb xb c.ab vm va vw aN) X w
 fk:FX K X w
 q:Sl w K 1 vq (ps.map I1)
 b:dR w (· =c.bb) nX c.bb (fun k:dc=>k.v) nG bl
 bX:X c.bb
 l:Lg w G c.lb db L dm
 fg:FX G X w
 nn: ¬K c.bb∧ ¬cF nb xb c.ab vm va vw aN c.bb∧ ¬G c.bb
 dj: ∀k,G k→ ¬K k∧ ¬cF nb xb c.ab vm va vw aN k
section
variable {x' : oN} {vq : Value} {mV : List (dc × Nat)} {kS uj oO : List (List Value)} {uT uU : List dF} {Z : XS}
theorem HB.next (h:HB w X K G nb xb db c x vm va vw al bl rm ra rw ms ws vq ps L dm) (cg:ez Z X w X' w') (hZ: ∀k,Z k→cF nb xb c.ab vm va vw aN k) (m':fu w' K nb xb c x' gr ia fy aN mV kS uj oO uT uU [])
  (hc: ∀k,cF nb xb c.ab gr ia fy aN k→cF nb xb c.ab vm va vw aN k∨(X' k∧w.heap.size≤k)):HB w' X' K G nb xb db c x' gr ia fy mV bl kS uj oO uT uU vq ps L dm:=by
 have dy: ∀k,X' k→k<w'.heap.size:=cg.has;have mM:c.bb<w.heap.size:=h.b.x.2;refine⟨m',fun k hk=>?_,fun k hk=>⟨cg.sub k (h.fk k hk).1,dy k (cg.sub k (h.fk k hk).1)⟩,h.q.mv fun k hk _=>⟨hk,cg.block k (h.fk k hk).1 fun e=>h.m.kd k hk (hZ k e)⟩,
  h.b.mv fK (fun k hk _=>⟨hk,by rw [hk];exact cg.block _ h.bX fun e=>h.nn.2.1 (hZ _ e)⟩) fun _ h=>h.elim,cg.sub _ h.bX,h.l.mv fun k hk _=>⟨hk,cg.block k (h.fg k hk).1 fun e=>(h.dj k hk).2 (hZ k e)⟩,
  fun k hk=>⟨cg.sub k (h.fg k hk).1,dy k (cg.sub k (h.fg k hk).1)⟩,⟨h.nn.1,fun e=>?_,h.nn.2.2⟩,fun k hk=>⟨(h.dj k hk).1,fun e=>?_⟩⟩
 ·rcases hc k hk with e|e
  ·exact⟨cg.sub k (h.fc k e).1,dy k (cg.sub k (h.fc k e).1)⟩
  ·exact⟨e.1,dy k e.1⟩
 ·rcases hc _ e with e|e
  ·exact h.nn.2.1 e
  ·omega
 ·rcases hc _ e with e|e
  ·exact(h.dj k hk).2 e
  ·have:=(h.fg k hk).2;omega
theorem HB.since (h:HB w X K G nb xb db c x vm va vw al bl rm ra rw ms ws vq ps L dm) (hs:aj X w X' w'):HB w' X' K G nb xb db c x vm va vw al bl rm ra rw ms ws vq ps L dm:=
 h.next (Z:=nX) (ez.rL hs nX) (fun _ h=>h.elim) (h.m.mv (fun k hk=>hs.kp.block k (h.fc k hk).1) (hs.fZ fun k hk=>(h.fk k hk).1) h.m.kd) fun k hk=>.inl hk
end
theorem SH {m y:dF} {vk vs fy vp vr vc vh vd:Value} (h:HB w X K G nb xb db c x aN aN vw al bl [] [] rw [] [y] x.vq ps L dm) (jK:a7 w (· =c.cb) c.cb (kz ck) kL) (hcX:X c.cb) (U6: ¬K c.cb) (hcG: ¬G c.cb)
  (lD:c.cm=aN) (Ng:FM n ⟨L,dm⟩) (hn:n≤3)
  (hg:getM m.dK al=some xb) (hp:x.pre=true) (Oa:x.vs=aN) (I8:ps.length≤40) (hy:y.range=m.range) (KQ:m.code=0) (ed:m.bF.may=true) (hi:1≤c.id∧c.id≤2)
  (hre:(rK x.dK (x.wK.later m.bF) ps).gD=0) (B9:(kA (rK x.dK (x.wK.later m.bF) ps)).length≤900):
  Ct pg 56 #[ptr nb 0,m.v vk vs fy vp vr vc vh vd] w X (fun k=>cF nb xb c.ab aN aN vw aN k∨k=c.cb∨k=c.bb∨G k) fun _ wa w'=>ajF (fun k=>cF nb xb c.ab aN aN vw aN k∨k=c.cb∨k=c.bb∨G k) nb xb c x K ps (x.wK.later m.bF) wa w':=by
 intro w0 hk;have hF:FX (fun k=>cF nb xb c.ab aN aN vw aN k∨k=c.cb∨k=c.bb∨G k) X w:=fun k e=>by
  rcases e with e|e|e|e
  ·exact h.fc k e
  ·subst e;exact⟨hcX,jK.lt⟩
  ·subst e;exact⟨h.bX,h.b.x.2⟩
  ·exact h.fg k e
 have hT:=hF.ft hk;have MY:=h.m.Bu jK;have du:c.bb≠c.cb:=h.b.eA jK;replace h:HB w0 (aR w0) K G nb xb db c x aN aN vw al bl [] [] rw [] [y] x.vq ps L dm:=by
  refine⟨h.m.mv (fun k af=>hk.block k (h.fc k af).1) (hk.fi fun k af=>(h.fk k af).1) h.m.kd,h.fc.kp hk,h.fk.kp hk,h.q.mv (hk.fi fun k af=>(h.fk k af).1),h.b.mv fK (fun k af _=>⟨af,by rw [af];exact hk.block _ h.bX⟩) fun _ h=>h.elim,aG h.b.x.2 hk.size,h.l.mv (hk.fi fun k af=>(h.fg k af).1),h.fg.kp hk,h.nn,h.dj⟩
 replace jK:a7 w0 (· =c.cb) c.cb (kz ck) kL:=jK.mv fun k af _=>⟨af,by rw [af];exact hk.block _ hcX⟩;have Qg:aR w0 c.cb:=jK.lt;clear hk hF;apply Jp;unfold zV;have hix:idxOf (fun z:dF=>decide (z.range=m.range)) [y]=(0:Nat):=by simp [idxOf,hy]
 refine hT.call (OV (i:=0) h.m h.fc h.fk ⟨Qg,jK.2⟩ U6 hg hp hix KQ ed) kQ (fun k e=>.inr (.inl e)) fun v qJ w1 X1 R4 sj oQ dU c1=>?_;obtain⟨rfl,_⟩:=R4;have Gf:Ft w0 _ w1 X1 (fun k=>cF nb xb c.ab aN aN vw aN k∨k=c.cb∨k=c.bb∨G k):=dU.less fun k e=>.inl e;have h1:HB w1 X1 K G nb xb db c x aN aN vw al bl [] [] rw [] [y] x.vq ps L dm:=by
  have rS: ∀k,aR w0 k→k≠c.cb→w1.heap[k]? =w0.heap[k]? :=fun k h1 h2=>c1.block k h1 h2;refine⟨h.m.mv (fun k af=>rS k (h.fc k af).1 fun e=>MY (by rw [←e];exact af)) (fun k af _=>⟨af,rS k (h.fk k af).1 fun e=>U6 (by rw [←e];exact af)⟩) h.m.kd,fun k af=>⟨c1.sub k (h.fc k af).1,c1.has k (c1.sub k (h.fc k af).1)⟩,fun k af=>⟨c1.sub k (h.fk k af).1,c1.has k (c1.sub k (h.fk k af).1)⟩,
   h.q.mv fun k af _=>⟨af,rS k (h.fk k af).1 fun e=>U6 (by rw [←e];exact af)⟩,h.b.mv fK (fun k af _=>⟨af,by rw [af];exact rS _ h.bX du⟩) fun _ h=>h.elim,c1.sub _ h.bX,h.l.mv fun k af _=>⟨af,rS k (h.fg k af).1 fun e=>hcG (by rw [←e];exact af)⟩,fun k af=>⟨c1.sub k (h.fg k af).1,c1.has k (c1.sub k (h.fg k af).1)⟩,h.nn,h.dj⟩
 have xB:=h1.m.act.mono fun k e=>(h1.fc k (.inr (.inl e))).1;clear h jK hT dU c1 Qg;have hs:=aj.ct Gf.s.has;repeat' first|refine aJ ?_;intros
 refine ee (LN x.wK m.bF) kQ hs.has fun w2 X2 bU=>?_;generalize amW:x.wK.later m.bF=st at hre B9⊢;have h2:=h1.since bU;have cW:=Gf.since bU;have OF:=xB.since bU;clear h1 xB Gf hs;have hs:=aj.ct cW.s.has;repeat' first|refine aJ ?_;intros
 refine FO (o:=12) OF zQ kQ (by simp) rfl rfl cW.s.has fun w3 X3 c3 sT=>?_;have ap:=h2.m.ap;have Nh:=h2.m.step (c':=c) (x':= { x with wK:=st }) (gr:=aN) (ia:=aN) (fy:=vw) (jY:=aN) (mV:=al) (kS:=[]) (uj:=[]) (oO:=rw) (uT:=[]) (uU:=[y]) (Dr:=[]) (fun k af=>(h2.fc k af).1) (fun k af=>(h2.fk k af).1) cW.s.has (fun k=>k=xb) c3 (fun k af=>.inr (.inl af)) rfl
  (.inl ⟨fun e=>ap.nx e,rfl⟩) (.inr sT) (.inl ⟨fun e=>ap.ax e,rfl⟩) (.inl ⟨fun g hg e=>(ap.m g hg).2.1 e,rfl,rfl⟩) (.inl ⟨fun g hg e=>(ap.a g hg).2.1 e,rfl,rfl⟩) (.inl ⟨fun g hg e=>(ap.w g hg).2.1 e,rfl,rfl⟩) (.inl ⟨fun g hg e=>(ap.p g hg).2.1 e,rfl,rfl⟩) h2.m.hm h2.m.hw h2.m.o1 h2.m.o2 h2.m.o3 h2.m.o4
 have h3:=h2.next c3 (fun k af=>.inr (.inl af)) Nh.1 Nh.2
 have dE:=cW.fM (F':=fun k=>cF nb xb c.ab aN aN vw aN k∨k=c.cb∨k=c.bb∨G k) c3 (fun k e=>.inl (.inr (.inl e))) fun k e=>.inl e;have OG:=h3.m.act.mono fun k e=>(h3.fc k (.inr (.inl e))).1;clear h2 OF cW hs c3 sT Nh ap;have hs:=aj.ct dE.s.has;repeat' first|refine aJ ?_;intros
 obtain⟨r1,rfl⟩: ∃r1,rw=[r1]:=by
  have:=h3.m.hw.1
  match rw,this with
  |[r1],_=>exact⟨r1,rfl⟩
 have uY: ∀u∈r1,aV.one u=true:=by
  obtain⟨vk,vs,vw,vp,vr,vc,vh,vd,rfl,ef⟩:=h3.m.hw.2 0 r1 y rfl rfl;have q1:=ef.keys.one;have q2:=ef.seen.one;have q3:=ef.writes.one;have q4:=ef.parts.one;have q5:=ef.ranges.one;have q6:=ef.gd.one;have q7:=ef.fV.one;have q8:=ef.fB.one;intro u hu;simp only [List.mem_cons,List.not_mem_nil,or_false] at hu;rcases hu with rfl|rfl|rfl|rfl|rfl|rfl|rfl|rfl|rfl|rfl|rfl|rfl|rfl|rfl|rfl|rfl|rfl|rfl|rfl|rfl|rfl|rfl|rfl|rfl|rfl|rfl|rfl|rfl|rfl|rfl|rfl|rfl|rfl|rfl|rfl|rfl<;>first|rfl|assumption
 have U7: ∀k,cY vw k→cF nb xb c.ab aN aN vw aN k:=fun k e=>.inr (.inr (.inr (.inr (.inr (.inl e)))));refine dE.call (Xn h3.m.ow (fun k e=>(h3.fc k (U7 k e)).1) uY) kQ (fun k e=>.inl (U7 k e)) fun v4 mu w4 X4 hq4 qg lI fm c4=>?_;obtain⟨B7,MP⟩:=hq4;have U9:=h3.m.ap;have Gg:a7 w4 X4 xb (Cg { x with wK:=st } vw) aT:=⟨c4.sub _ OG.1,(c4.block xb OG.1 fun e=>(U9.w _ e).2.1 rfl).trans OG.2⟩;have ov4:=B7.sl.one;have EW:=h3.q.form;obtain⟨t1,t2,t3,rfl⟩:=B7.sl.form;have np:=fm.less (F':=fun k=>cF nb xb c.ab aN aN vw aN k∨k=c.cb∨k=c.bb∨G k) fun k e=>.inl e;clear hs;have hs:=aj.ct np.s.has;repeat' first|refine aJ ?_;intros
 refine qu (o:=10) Gg zQ kQ (by simp) rfl np.s.has fun w5 X5 c5 Hm=>?_;have cg:ez (fun k=>cY vw k∨k=xb) _ _ X5 w5:=(c4.mono fun k _ e=>.inl e).trans (c5.mono fun k _ e=>.inr e);have ahT: ∀g,cY (.slice t1 t2 t3) g→g≠xb:=fun g hg=>by
  have jg:cY vw g:=by have hg:(kO t1 t2 t3).ownBlock=some g:=hg;rw [MP] at hg;exact hg
  exact(U9.w g jg).2.1
 have adS: ∀g,cY vw g→X4 g:=fun g hg=>c4.sub g (h3.fc g (U7 g hg)).1;have jU:Own w5 X5 0 mT 36 (.slice t1 t2 t3) []:=tX B7 fun g hg=>⟨c5.sub g (adS g (by have hg:(kO t1 t2 t3).ownBlock=some g:=hg;rw [MP] at hg;exact hg)),c5.block g (adS g (by have hg:(kO t1 t2 t3).ownBlock=some g:=hg;rw [MP] at hg;exact hg)) (ahT g hg)⟩;have M8:=h3.m.step (c':=c) (x':= { x with wK:=st }) (gr:=aN) (ia:=aN) (fy:=.slice t1 t2 t3) (jY:=aN) (mV:=al) (kS:=[]) (uj:=[]) (oO:=[]) (uT:=[]) (uU:=[]) (Dr:=[]) (fun k af=>(h3.fc k af).1) (fun k af=>(h3.fk k af).1) dE.s.has (fun k=>cY vw k∨k=xb) cg (fun k af=>af.elim (U7 k) fun e=>.inr (.inl e)) rfl
  (.inl ⟨fun e=>e.elim (fun e=>(U9.w _ e).1 rfl) fun e=>U9.nx e,rfl⟩) (.inr Hm) (.inl ⟨fun e=>e.elim (fun e=>(U9.w _ e).2.2.1 rfl) fun e=>U9.ax e,rfl⟩) (.inl ⟨fun g hg e=>(by cases hg),rfl,rfl⟩) (.inl ⟨fun g hg e=>(by cases hg),rfl,rfl⟩) (.inr ⟨jU,rfl,.inl MP⟩) (.inl ⟨fun g hg e=>(by cases hg),rfl,rfl⟩) h3.m.hm (jo.nil _ _) h3.m.o1 h3.m.o2 h3.m.o3 h3.m.o4
 have h5:=h3.next cg (fun k af=>af.elim (U7 k) fun e=>.inr (.inl e)) M8.1 M8.2
 have ff:Ft w0 _ w5 X5 (fun k=>cF nb xb c.ab aN aN (.slice t1 t2 t3) aN k∨k=c.cb∨k=c.bb∨G k):=dE.fM cg (fun k e=>.inl (e.elim (U7 k) fun e=>.inr (.inl e))) fun k e=>e.elim (fun e=>(M8.2 k e).imp .inl id) fun e=>.inl (.inr e);clear hs h3 OG dE c4 fm Gg np c5 Hm cg M8 U9 U7 adS ahT B7;have hs:=aj.ct ff.s.has;have alw:Sl w5 X5 36 (.slice t1 t2 t3) (([]:List (List Value)).map id):=jU.sl;obtain⟨q1,q2,q3,hqv⟩:=EW;have OA:=h5.m.act.mono fun k e=>(h5.fc k (.inr (.inl e))).1;rw [show Cg { x with wK:=st } (.slice t1 t2 t3)=Cg { x with wK:=st,vq:=.slice q1 q2 q3 } (.slice t1 t2 t3)by rw [←hqv]] at OA;repeat' first|refine aJ ?_;intros|refine dM ?_ ?_<;>intros|(exfalso;simp only [bI] at*;omega)
 have kB:=Ng.jH (p:=kA (rK x.dK st ps)) hn B9;have e0:(rK x.dK st ps).gD.toNat=0:=by rw [hre];rfl
 have uB:(rK x.dK st ps).at w5 K aN aN (.slice q1 q2 q3) aN aN aN:=by
  have hq5:=h5.q;rw [hqv] at hq5;exact⟨Sl.nil _ _ _,Sl.nil _ _ _,hq5,Sl.nil _ _ _,en.nil _ _ _,en.nil _ _ _⟩
 refine ff.call (Hy (r:=rK x.dK st ps) (n:=n+1) (S:=(· =nb)) (T:=K) (c:=c) (Cf:=ptr c.cb 0) h5.m.row h5.l (fun k a b=>(h5.dj k b).2 (.inl a)) (fun k e=>(h5.fc k (.inl e)).1) rfl rfl h5.m.o1 rfl h5.fg Ng.gl zQ uB (fun k af=>⟨(h5.fk k af).1,fun e=>(h5.dj k e).1 af⟩) (OR rfl rfl rfl) zQ) kQ (fun k e=>.inr (.inr (.inr e))) fun v Yi w6 X6 Yj PO FK eX c6=>?_;obtain⟨rfl,_⟩:=Yj;rw [e0,kB.1];clear kB e0 uB hs alw;have uz:Ft w0 _ w6 X6 (fun k=>cF nb xb c.ab aN aN (.slice t1 t2 t3) aN k∨k=c.cb∨k=c.bb∨G k):=eX.less fun k e=>.inl e;have Jq: ∀k,X5 k→ ¬G k→X6 k∧w6.heap[k]? =w5.heap[k]? :=fun k h1 h2=>⟨c6.sub k h1,c6.block k h1 h2⟩;have h6:=h5.m.mv (w':=w6) (K':=K) (fun k af=>(Jq k (h5.fc k af).1 fun e=>(h5.dj k e).2 af).2) (fun k af _=>⟨af,(Jq k (h5.fk k af).1 fun e=>(h5.dj k e).1 af).2⟩) h5.m.kd;have R6:FX (cF nb xb c.ab aN aN (.slice t1 t2 t3) aN) X6 w6:=uz.fx fun k e=>.inl e;have gX:FX K X6 w6:=fun k af=>⟨(Jq k (h5.fk k af).1 fun e=>(h5.dj k e).1 af).1,eX.s.has k (Jq k (h5.fk k af).1 fun e=>(h5.dj k e).1 af).1⟩;have Yj:Sl w6 K 1 x.vq (ps.map I1):=h5.q.mv fun k af _=>⟨af,(Jq k (h5.fk k af).1 fun e=>(h5.dj k e).1 af).2⟩;have ZZ:dR w6 (· =c.bb) nX c.bb (fun k:dc=>k.v) nG bl:=h5.b.mv fK (fun k af _=>⟨af,by rw [af];exact(Jq _ h5.bX h5.nn.2.2).2⟩) fun _ h=>h.elim;have adT:X6 c.bb:=(Jq _ h5.bX h5.nn.2.2).1;have hnn:=h5.nn;have Gi:=h6.act.mono fun k e=>(R6 k (.inr (.inl e))).1;clear h5 ff eX c6 Jq OA;have hs:=aj.ct uz.s.has;repeat' first|refine bD ?_;intros
 refine dp (wj Gi (fun _ h=>h) Oa) kQ hs.has ?_;rintro vr7 ER w7 X7 q7 PZ Eb gG;have kC:=uz.since gG;have h7:=h6.mv (w':=w7) (K':=K) (fun k af=>gG.kp.block k (R6 k af).1) (gG.fZ fun k af=>(gX k af).1) h6.kd;have hC7:=h6.UF gG R6;have EU:FX K X7 w7:=fun k af=>⟨gG.sub k (gX k af).1,gG.has k (gG.sub k (gX k af).1)⟩;have hq7:=Yj.mv (gG.fZ fun k af=>(gX k af).1);have adU:dR w7 (· =c.bb) nX c.bb (fun k:dc=>k.v) nG bl:=ZZ.mv fK (fun k af _=>⟨af,by rw [af];exact gG.kp.block _ adT⟩) fun _ h=>h.elim;have adV:=gG.sub _ adT;have ovr:=q7.sl.one;obtain⟨u1,u2,u3,rfl⟩:=q7.sl.form;clear hs h6 R6 gX Yj ZZ adT uz Gi;have hs:=aj.ct kC.s.has;repeat' first|refine aJ ?_;intros
 refine kC.call (zx (code:=0) (t:=.zero) (st:=st) (on:=false) (vs:=.slice u1 u2 u3) h7 hC7 EU ovr (by simp)) kQ (fun k e=>.inl e) fun v wa8 w8 X8 hq8 adl UC od c8=>?_;obtain⟨Va,hF8,h8⟩:=hq8;change fu w8 K nb xb c { x with wK:=st } aN Va (.slice t1 t2 t3) aN (xA x.dK al) [] [UD 0 x.dK st false (.slice u1 u2 u3)] [] [] [] [] at h8;have I0:Ft w0 _ w8 X8 (fun k=>cF nb xb c.ab aN Va (.slice t1 t2 t3) aN k∨k=c.cb∨k=c.bb∨G k):=od.less fun k e=>e.elim (fun e=>(hF8 k e).imp .inl id) fun e=>.inl (.inr e);have hC8:FX (cF nb xb c.ab aN Va (.slice t1 t2 t3) aN) X8 w8:=I0.fx fun k e=>.inl e;have LZ:FX K X8 w8:=fun k af=>⟨c8.sub k (EU k af).1,c8.has k (c8.sub k (EU k af).1)⟩;have hq8:Sl w8 K 1 x.vq (ps.map I1):=hq7.mv fun k af _=>⟨af,c8.block k (EU k af).1 (h7.kd k af)⟩;have ZS:dR w8 (· =c.bb) nX c.bb (fun k:dc=>k.v) nG bl:=adU.mv fK (fun k af _=>⟨af,by rw [af];exact c8.block _ adV hnn.2.1⟩) fun _ h=>h.elim;have alx:=c8.sub _ adV;have aly: ¬cF nb xb c.ab aN Va (.slice t1 t2 t3) aN c.bb:=fun e=>(hF8 _ e).elim hnn.2.1 fun e=>by have:=e.1;have:=adU.x.2;omega
 clear hs h7 hC7 EU hq7 adU adV kC od c8 q7;have hs:=aj.ct I0.s.has;repeat' first|refine aJ ?_;intros
 rw [hqv] at hq8;refine I0.call (Xo (r:=rK x.dK st ps) h8 hC8 LZ lD ZS alx hnn.1 aly hq8 (by show ps.length≤_;omega)) kQ (fun k e=>e.elim (fun e=>.inl (.inl e)) fun e=>.inr (.inr (.inl e))) fun v C7 w9 X9 L9 ZD I9 lT c9=>?_;obtain⟨mb9,vcm,v2,K9,rfl,Ja,Gk,h9,alz,hv9⟩:=L9;have tw:Ft w0 _ w9 X9 (fun k=>cF nb xb c.ab aN Va (.slice t1 t2 t3) aN k∨k=c.cb∨k=c.bb∨G k):=lT.less fun k e=>.inl e;have hK9:FX K9 X9 w9:=fun k af=>⟨(Gk k af).elim (fun e=>c9.sub k (LZ k e).1) (I9 k),(Gk k af).elim (fun e=>c9.has k (c9.sub k (LZ k e).1)) fun e=>e.2⟩;refine tw.call (Qf (r:=rK x.dK st ps) h9 (tw.fx fun k e=>.inl e) hK9 alz hv9 hi (by show 0+ps.length≤_;omega)) kQ (fun k e=>.inl e) fun v amX Me Jo alA amD afr xE zU=>?_;obtain⟨ahU,alB,alC,L8⟩:=alA;have Z5:Ft w0 _ Me Jo (fun k=>cF nb xb c.ab ahU Va (.slice t1 t2 t3) aN k∨k=c.cb∨k=c.bb∨G k):=xE.less fun k e=>e.elim (fun e=>(alC k e).imp .inl id) fun e=>.inl (.inr e);exact Z5.fin fun wa Gj=>⟨{ c with cm:=vcm },_,ahU,Va,_,K9,_,alB,_,_,Z5.gU Gj fun k e=>.inl e,fun k af=>(Gk k af).imp id fun e=>⟨by have:=I0.s.kp.size;have:=e.1;omega,aG e.2 (ah zU.size Gj.size)⟩,L8.mv (fun k af=>Gj.block k (Z5.bK k (.inl af))) (Gj.fi fun k af=>zU.sub k (hK9 k af).1) L8.kd,rfl,rfl,ovr⟩
end
section
variable {w w' wa : World} {X X' K K' Y G : XS} {nb xb mb cb db : Nat} {c : ph} {x : oN} {vm va vw dZ gr ia fy jY : Value} {al bl : List (dc × Nat)} {rm ra rw : List (List Value)} {ms ws : List dF} {ps : List Int} {ck : cw} {L : LM} {dm : DM} {n : Nat}
theorem Vb (h:a7 w Y nb (ui c vm va) nT) (hY: ∀k,Y k→X k):Ct pg 17 #[ptr nb 0] w X nX fun v _ _=>v=I c.ga:=by
 intro w0 hk;have bJ:=(h.mono hY).mv hk.dD;have hs:=aj.init w0;apply Jr;unfold zW;repeat' first|refine aJ ?_;intros|((first|(with_reducible refine av hs ?_)|(with_reducible refine av (bS.trans hs) ?_));intro wa hk;rfl)
def abP (F K:XS) (nb:Nat) (c:ph) (x:oN) (ps:List Int) (st:cw) (v:Value) (wa w':World):Prop:= ∃c' vm va vs K' rm,v= .tuple #[.agg #[vm,va],I 0]∧Sl w' K' 36 vm rm∧jo w' K' rm (ps.map fun id=>(Nf (rK x.dK st ps) id).l9 (20+c.id))∧Sl w' K' 9 va [UD 0 x.dK st false vs]∧
 a7 w' (· =nb) nb (ui c' aN aN) nT∧c'.ga=c.ga∧aV.one vs=true∧ ∀k,K' k→F k∨K k∨made wa w' k
theorem SI {m y:dF} {vk vs fy vp vr vc vh vd:Value} {eh:Int} (h:HB w X K G nb xb db c x aN aN vw al bl [] [] rw [] [y] x.vq ps L dm) (jK:a7 w (· =c.cb) c.cb (kz ck) kL) (hcX:X c.cb) (U6: ¬K c.cb) (hcG: ¬G c.cb)
  (lD:c.cm=aN) (Ng:FM n ⟨L,dm⟩) (hn:n≤3)
  (hg:getM m.dK al=some xb) (hp:x.pre=true) (Oa:x.vs=aN) (I8:ps.length≤40) (hy:y.range=m.range) (KQ:m.code=0) (ed:m.bF.may=true) (hi:1≤c.id∧c.id≤2)
  (hre:(rK x.dK (x.wK.later m.bF) ps).gD=0) (B9:(kA (rK x.dK (x.wK.later m.bF) ps)).length≤900)
  (hm:m.at w X vk vs fy vp vr vc vh vd) (mX:m.small) (hln:m.lens≤2^62) (alD:m.err=0) (hto:m.to=20+c.id) (amE:m.kind=4):
  Ct pg 16 #[ptr nb 0,I eh,m.v vk vs fy vp vr vc vh vd] w X (fun k=>cF nb xb c.ab aN aN vw aN k∨k=c.cb∨k=c.bb∨G k) fun v wa w'=>abP (fun k=>cF nb xb c.ab aN aN vw aN k∨k=c.cb∨k=c.bb∨G k) K nb c x ps (x.wK.later m.bF) v wa w':=by
 intro w0 hk;have hF:FX (fun k=>cF nb xb c.ab aN aN vw aN k∨k=c.cb∨k=c.bb∨G k) X w:=fun k e=>by
  rcases e with e|e|e|e
  ·exact h.fc k e
  ·subst e;exact⟨hcX,jK.lt⟩
  ·subst e;exact⟨h.bX,h.b.x.2⟩
  ·exact h.fg k e
 have hT:=hF.ft hk;replace h:HB w0 (aR w0) K G nb xb db c x aN aN vw al bl [] [] rw [] [y] x.vq ps L dm:=by
  refine⟨h.m.mv (fun k af=>hk.block k (h.fc k af).1) (hk.fi fun k af=>(h.fk k af).1) h.m.kd,h.fc.kp hk,h.fk.kp hk,h.q.mv (hk.fi fun k af=>(h.fk k af).1),h.b.mv fK (fun k af _=>⟨af,by rw [af];exact hk.block _ h.bX⟩) fun _ h=>h.elim,aG h.b.x.2 hk.size,h.l.mv (hk.fi fun k af=>(h.fg k af).1),h.fg.kp hk,h.nn,h.dj⟩
 replace jK:a7 w0 (· =c.cb) c.cb (kz ck) kL:=jK.mv fun k af _=>⟨af,by rw [af];exact hk.block _ hcX⟩;replace hm:=hm.mv hk.dD;have Qg:aR w0 c.cb:=jK.lt;clear hk hF;refine Js (fun g hg=>?_) (fun ch w hh=>by obtain⟨v,he,_⟩:=hh;cases he) ?_
 ·have e:Au Tryz.f16=some 53:=by kernel_rfl
  rw [e] at hg;cases hg;exact Xh
 unfold tD;have hs:=aj.init w0;have bJ:=h.m.row.mono fun k e=>(h.fc k (.inl e)).1;repeat' first|refine aJ ?_;intros
 refine gC (Xp hm mX hln) kQ hs.has fun w1 X1 ao=>?_;rw [alD];have ml:=bJ.since ao;replace hs:=hs.trans ao;repeat' first|refine bD ?_;intros|with_reducible apply dx
 refine gC (Ch (Cf:=ptr c.cb 0) ml (fun _ h=>h) hi) kQ ao.has fun w2 X2 bU=>?_;have Qh:=hs.trans bU;have h2:=h.since Qh;have cW:=hT.since Qh;have ZW:a7 w2 (· =c.cb) c.cb (kz ck) kL:=jK.mv fun k af _=>⟨af,by rw [af];exact Qh.kp.block _ Qg⟩;have ZX:=Qh.sub _ Qg;have tE:=hm.mv Qh.mv;have q1:=tE.keys.one;have q2:=tE.seen.one;have q3:=tE.writes.one;have q4:=tE.parts.one;have q5:=tE.ranges.one;have q6:=tE.gd.one;have q7:=tE.fV.one;have q8:=tE.fB.one;clear hs bJ ml h hT jK Qg ao bU Qh;have hs:=aj.ct cW.s.has;repeat' first|refine bD ?_;intros|with_reducible apply dx
 refine cW.call (SH (m:=m) h2 ZW ZX U6 hcG lD Ng hn hg hp Oa I8 hy KQ ed hi hre B9) kQ (fun _ h=>h) fun v uQ w3 X3 EW nZ mz dE c3=>?_;obtain⟨c',x',vm,va,vw3,K3,al3,rm3,rw3,vs3,Vc,hk3,h3,e1,e2,ovs⟩:=EW;have adW: ∀k,cF nb xb c'.ab vm va vw3 aN k→X3 k:=fun k af=>(Vc k af).elim (fun e=>dE.bK k (.inl e)) (mz k);have kV: ∀k,K3 k→X3 k:=fun k af=>(hk3 k af).elim (fun e=>c3.sub k (h2.fk k e).1) (mz k);have Nd:=adW nb (.inl rfl);refine dE.call (I2 (Y:=(· =nb)) h3.row (fun k af=>by subst af;exact⟨Nd,dE.s.has _ Nd⟩) h3.o1 h3.om.sl.one h3.oa.sl.one) kQ (fun k e=>.inl (.inl (.inl e))) fun v mu w4 X4 hq4 qg lI fm c4=>?_;obtain⟨rfl,TY⟩:=hq4;have ovm:=h3.om.sl.one;have ova:=h3.oa.sl.one;clear hs;have hs:=aj.ct fm.s.has;repeat' first|refine aJ ?_;intros
 have np:Ft w0 _ w4 X4 nX:=fm.less fun k e=>e.elim;refine np.fin fun wa bk=>?_;have hblk: ∀k,X3 k→k≠nb→wa.heap[k]? =w3.heap[k]? :=fun k h1 h2=>(bk.block k (c4.sub k h1)).trans (c4.block k h1 h2);refine⟨c',vm,va,vs3,fun k=>K3 k∨cY vm k∨cY va k,rm3,rfl,?_,?_,?_,TY.mv fun k af _=>⟨af,by rw [af];exact bk.block _ (c4.sub _ Nd)⟩,e1,ovs,fun k af=>?_⟩
 ·exact h3.om.sl.mv fun k af _=>⟨.inr (.inl af),hblk k (adW k (.inr (.inr (.inr (.inl af))))) (h3.ap.m k af).1⟩
 ·exact h3.hm.mv fun k af _=>⟨.inl af,hblk k (kV k af) fun e=>h3.kd k af (.inl e)⟩
 ·exact h3.oa.sl.mv fun k af _=>⟨.inr (.inr af),hblk k (adW k (.inr (.inr (.inr (.inr (.inl af)))))) (h3.ap.a k af).1⟩
 ·have hz3:w3.heap.size≤wa.heap.size:=ah c4.size bk.size;have AM:w0.heap.size≤uQ.heap.size:=ah cW.s.kp.size nZ;have kN:made uQ w3 k→made w0 wa k:=fun e=>⟨ah AM e.1,aG e.2 hz3⟩;rcases af with e|e|e
  ·exact .inr ((hk3 k e).imp id kN)
  ·exact(Vc k (.inr (.inr (.inr (.inl e))))).imp id fun e=>.inr (kN e)
  ·exact(Vc k (.inr (.inr (.inr (.inr (.inl e)))))).imp id fun e=>.inr (kN e)
end
end Go.Proofs.YtbpnemeooenpmaaGreat
namespace Go.Proofs.YtbpnemeooenpmaaGreat
open Go.Proofs.Tryz renaming prog → pg
open Go.aV Go.RowKit Go.Maps Go.Sort Go.Shelf Go.ChangeMaps
set_option maxRecDepth 100000
set_option maxHeartbeats 2000000
set_option linter.unusedVariables false
set_option linter.unusedSimpArgs false
abbrev yI:Nat:=70
abbrev T3 (t:dc):List Value:=[aA cR t.gM,aA cR t.ga,aA cR t.sq]
def Jt:Code:=(Code.region 2 #[{ dst:=some 5,op:=Op.alloc tT,type:=0,pos:= "iter.go:51",after:= #[],guard:=none },{ dst:=none,op:=Op.store tT (iJ 5) (iJ 7),type:=0,pos:= "iter.go:51",after:= #[{ on:=0,ground:=pr },{ on:=0,ground:=ot }],guard:=none }] false)
def Qi:Code:=(Code.block 1 (Code.region 3 #[{ dst:=some 8,op:=Op.load yI (iJ 2),type:=yI,pos:= "iter.go:52",after:= #[],guard:=none },{ dst:=some 9,op:=Op.load tT (iJ 5),type:=tT,pos:= "iter.go:52",after:= #[],guard:=none },{ dst:=some 10,op:=Op.buildSlice yI 1 #[(0,iJ 9)],type:=yI,pos:= "iter.go:52",after:= #[{ on:=1,ground:=pr }],guard:=none },{ dst:=some 11,op:=Op.call { callee:=Callee.builtin Builtin.append,args:= #[iJ 8,iJ 10],argTypes:= #[yI,yI] },type:=yI,pos:= "iter.go:52",after:= #[{ on:=0,ground:=pr },{ on:=2,ground:=pr }],guard:=none },{ dst:=none,op:=Op.store yI (iJ 2) (iJ 11),type:=0,pos:= "iter.go:52",after:= #[{ on:=3,ground:=pr },{ on:=3,ground:=Ground.chain },{ on:=0,ground:=ot },{ on:=1,ground:=ot },{ on:=2,ground:=ot },{ on:=3,ground:=ot }],guard:=none }] false))
def tF (fn:FuncId) (sv:Value) (Bs D:Nat) (st:LoopState) (fB:Option Code):Loop:=
 { state:=st,pending:=fB,fn,tmps:= #[.slice none 0 0,sv,.pointer (some ⟨Bs,0,none⟩),undef,.slice none 0 0,undef,sv,undef,undef,undef,undef,undef,undef],params:= #[7],assign:=Jt,body:=Qi,defers:=D }
structure ApT (w0:World) (fn:FuncId) (sv:Value) (Bs l D:Nat) (ts:List dc) (W:World):Prop where
 box: ∃v,W.heap[Bs]? =some (.cells #[v] yI (0,0))∧W.ownsRow w0.heap.size tT 3 v ts.length (ts.map T3).flatten
 L:W.heap[l]? =some (.loop (tF fn sv Bs D .ready none))
 K:W.heap[D]? =some (.deferred (some []))
 below:Below w0.heap.size w0 W
theorem Z6 (w0:World) (fn:FuncId) (sv:Value) (Bs l D B:Nat) (hB:w0.heap.size≤B):AbidesFrom B (ApT w0 fn sv Bs l D):=fun s W W' row h hg bJ=>by
 have FQ: ∀r,row=some r→ ∃o:Obj,W.heap[r]? =some o∧o.isWalk=true:=fun r e=>(bJ r e).2;obtain⟨v,hv,hr⟩:=h.box;exact⟨⟨v,(grownBy_keeps hg FQ hv rfl).trans hv,ownsRow_abides_a hr hg FQ⟩,(grownBy_keeps hg FQ h.L rfl).trans h.L,(grownBy_keeps hg FQ h.K rfl).trans h.K,
  h.below.grown hg h.below.size (fun k e=>ah hB (bJ k e).1)⟩
theorem abQ (w:World) (xs:List Value) (t:TypeId): ∀(j:Nat) u,xs[j]? =some u→(w.alloc (.cells xs.toArray t)).cell? ((⟨w.heap.size,0,none⟩:Addr).add j)=some u:=by
 intro j u hj;rw [Addr.add_lit];simp only [pq,gY];simpa using hj
theorem adX (m:Nat) (w0:World) (fn:FuncId) (sv:Value) (Bs l D:Nat) (hBl:Bs≠l) (hDl:D≠l) (hDB:D≠Bs) (h0B:w0.heap.size≤Bs) (h0l:w0.heap.size≤l)
    (N:Nat) (hN:N≤2^40) (ts:List dc) (x:dc) (W:World) (h:ApT w0 fn sv Bs l D ts W) (hlen:ts.length<N):
    YieldAt eT m pg l #[x.v] W fun e W'=>e= .returned (.bool true)∧ApT w0 fn sv Bs l D (ts++[x]) W'∧KeepsWalks W W':=by
  have du:yI≠tT:=by decide
  obtain⟨i0,hi,LX,UQ,AM⟩:=info_parts (P:=pg) (e:=tT) (z:=(⟨0,0,0⟩:dc).v) (size:=3) (bytes:=24) kQ;obtain⟨v,hv,bJ⟩:=h.box;refine⟨fn,#[.slice none 0 0,sv,.pointer (some ⟨Bs,0,none⟩),undef,.slice none 0 0,undef,sv,x.v,undef,undef,undef,undef,undef],Jt,Qi,by simpa [tF] using run_yield (P:=pg) (args:= #[x.v]) h.L rfl,roundIn_of_wpIn trivial ?_⟩;have hlW:l<W.heap.size:=(Array.getElem?_eq_some_iff.1 h.L).1;have hBW:Bs<W.heap.size:=(Array.getElem?_eq_some_iff.1 hv).1;have hDW:D<W.heap.size:=(Array.getElem?_eq_some_iff.1 h.K).1;obtain⟨WA,YB⟩: ∃WA,W.alloc (.cells #[aA cR x.gM,aA cR x.ga,aA cR x.sq] tT)=WA:=⟨_,rfl⟩;have Z7: ∀k,k<W.heap.size→WA.heap[k]? =W.heap[k]? :=fun k hk=>by rw [←YB];exact Below.heap_alloc _ _ k hk
  have hvA:=(Z7 Bs hBW).trans hv;have hLA:=(Z7 l hlW).trans h.L;have hKA:=(Z7 D hDW).trans h.K;have hxA:WA.heap[W.heap.size]? =some (.cells #[aA cR x.gM,aA cR x.ga,aA cR x.sq] tT (0,0)):=by rw [←YB];exact gY _ _
  have hkA:KeepsWalks W WA:=by rw [←YB];exact xG _ _
  have hbA:Below w0.heap.size w0 WA:=by rw [←YB];exact h.below.alloc h.below.size _
  have afs:WA.ownsRow w0.heap.size tT 3 v ts.length (ts.map T3).flatten:=by rw [←YB];exact bJ.alloc _
  have amY:WA.heap.size=W.heap.size+1:=by rw [←YB];simp
  have hbr:=run_beginRound (P:=pg) hLA rfl;obtain⟨W2,R7⟩: ∃W2,WA.putObj l (.loop { tF fn sv Bs D .ready none with state:=.busy })=W2:=⟨_,rfl⟩;rw [R7] at hbr;have Jh:WA.grownBy W2 (some l):=by rw [←R7];exact grownBy_putObj_a _ _ _
  have xD:KeepsWalks W W2:=hkA.trans (by rw [←R7];exact wP _ hLA rfl);have AU:W2.heap[Bs]? =some (.cells #[v] yI (0,0)):=by rw [←R7];exact(fU hBl).trans hvA
  have mB:W2.heap[D]? =some (.deferred (some [])):=by rw [←R7];exact(fU hDl).trans hKA
  have hL2:W2.heap[l]? =some (.loop { tF fn sv Bs D .ready none with state:=.busy }):=by rw [←R7];exact r6 zQ
  have YC:W2.heap[W.heap.size]? =some (.cells #[aA cR x.gM,aA cR x.ga,aA cR x.sq] tT (0,0)):=by rw [←R7];exact(fU zQ).trans hxA
  have Dv:W2.ownsRow w0.heap.size tT 3 v ts.length (ts.map T3).flatten:=afs.kept Jh (ownsRow_ne_a afs hLA (fun cur e=>by first|cases e|exact du (iC e).2.1));have wG:Below w0.heap.size w0 W2:=hbA.grown Jh hbA.size (fun k e=>by cases e;exact h0l);have amZ:W2.cell? ⟨W.heap.size,0,none⟩=some (aA cR x.gM):=by simp [pq,YC]
  have am0:W2.cell? ⟨W.heap.size,1,none⟩=some (aA cR x.ga):=by simp [pq,YC]
  have am1:W2.cell? ⟨W.heap.size,2,none⟩=some (aA cR x.sq):=by simp [pq,YC]
  obtain⟨lH,hf2⟩:=cell_of_box_a AU;have alE:Bs<W2.heap.size:=(Array.getElem?_eq_some_iff.1 AU).1;have LU:l<W2.heap.size:=(Array.getElem?_eq_some_iff.1 hL2).1;have alF:D<W2.heap.size:=(Array.getElem?_eq_some_iff.1 mB).1;have Z8: ∀{j:Nat} {o:Obj},W2.heap[j]? =some o→(∀cur,o≠ .cells cur tT (0,0))→some j≠v.ownBlock:=fun hj lP=>by
    rcases ownsRow_ne_a Dv hj lP with e|e
    · rw [e];simp
    · exact fun e'=>e e'.symm
  clear R7;unfold Jt
  gi_wp2_with gi_round_op_a
  unfold Qi;have BX:(2:Nat)^40≤maxLen:=by decide
  gi_wp2_with (first
    |(gi_at_builtin;refine wpListIn_append_own _ rfl _ _ yI rfl w0.heap.size tT i0 (⟨0,0,0⟩:dc).v 3 24 kQ hi LX UQ AM rfl (by decide) _ _ _ rfl (Dv.alloc _) ⟨W2.heap.size,0,none⟩ 1 1 (T3 x) rfl rfl (abQ _ _ _) (by simp [Value.oneCell',T3]) zQ zQ (by have:=wG.size;simp;omega) ?_;intro v' w3 Z9 R0 amF
       have Om:w3.heap[Bs]? =some (.cells #[v] yI (0,0)):=(R0.block Bs (by simp;omega) (Z8 AU (fun cur e=>by first|cases e|exact du (iC e).2.1))).trans ((Below.heap_alloc _ _ Bs alE).trans AU);obtain⟨qY,hf3⟩:=cell_of_box_a Om;obtain⟨g',Ni,aaa,rfl,amw,am2,uY,qU,sT,TY⟩: ∃g' Ni aaa,v'= .slice (some ⟨g',0,none⟩) (ts.length+1) Ni∧w0.heap.size≤g'∧w3.heap[g']? =some (.cells aaa tT (0,0))∧ts.length+1≤Ni∧Ni≤maxLen∧aaa.size=Ni*3∧aaa.toList.take ((ts.length+1)*3)=(ts.map T3).flatten++T3 x:=by
         rcases Z9.2 with⟨_,h0⟩|h'
         · exact absurd h0 zQ
         · exact h'
       go_frame)
    |gi_round_op_a)
  have aab:(W2.alloc (.cells #[aA cR x.gM,aA cR x.ga,aA cR x.sq] tT)).grownBy w3 v.ownBlock:=R0;have hL3:w3.heap[l]? =some (.loop { tF fn sv Bs D .ready none with state:=.busy }):=(aab.block l (by simp;omega) (Z8 hL2 (fun cur e=>by first|cases e|exact du (iC e).2.1))).trans ((Below.heap_alloc _ _ l LU).trans hL2);have kV:w3.heap[D]? =some (.deferred (some [])):=(aab.block D (by simp;omega) (Z8 mB (fun cur e=>by first|cases e|exact du (iC e).2.1))).trans ((Below.heap_alloc _ _ D alF).trans mB);obtain⟨w4,Ju⟩: ∃w4,w3.setCell ⟨Bs,0,none⟩ (.slice (some ⟨g',0,none⟩) (ts.length+1) Ni)=w4:=⟨_,rfl⟩;rw [Ju];have hg4:w3.grownBy w4 (some Bs):=by rw [←Ju];exact grownBy_setCell0_a _ _ _
  have hv4:w4.heap[Bs]? =some (.cells #[.slice (some ⟨g',0,none⟩) (ts.length+1) Ni] yI (0,0)):=by rw [←Ju];exact heap_setCell_box_a _ Om
  have Vd:w4.heap[l]? =some (.loop { tF fn sv Bs D .ready none with state:=.busy }):=(hg4.block l (Array.getElem?_eq_some_iff.1 hL3).1 (fun e=>hBl (by cases e;rfl))).trans hL3;have Cj:w4.heap[D]? =some (.deferred (some [])):=(hg4.block D (Array.getElem?_eq_some_iff.1 kV).1 (fun e=>hDB (by cases e;rfl))).trans kV;have vJ:=Z9.kept hg4 (ownsRow_ne_a Z9 Om (fun cur e=>by first|cases e|exact du (iC e).2.1));have hl4:l<w4.heap.size:=(Array.getElem?_eq_some_iff.1 Vd).1;have Mc:Below w0.heap.size w0 w3:=(wG.alloc wG.size _).grown aab (by have:=wG.size;simp;omega) (fun k e=>(Dv.lt k e).1);have Cp:Below w0.heap.size w0 w4:=Mc.grown hg4 Mc.size (fun k e=>by cases e;exact h0B);have RS:KeepsWalks W w4:=((xD.trans (xG _ _)).trans (KeepsWalks.of_grownBy aab (ownsRow_not_walk_a (Dv.alloc _)))).trans (by rw [←Ju];exact KeepsWalks.setCell _ _ _);clear Ju;refine⟨_,_,run_endRound none Vd,rfl,⟨⟨_,(fU hBl).trans hv4,?_⟩,r6 hl4,(fU hDl).trans Cj,Cp.grown (grownBy_putObj_a _ _ _) Cp.size (fun k e=>by cases e;exact h0l)⟩,RS.trans (wP _ Vd rfl)⟩;have:=vJ.kept (grownBy_putObj_a w4 l (.loop { { tF fn sv Bs D .ready none with state:=.busy } with state:=if(none:Option Code).isNone then .ready else .done,pending:=none })) (ownsRow_ne_a vJ Vd (fun cur e=>by first|cases e|exact du (iC e).2.1));simpa using this
abbrev OW:Nat:=171
abbrev aac:Nat:=108
theorem aad (n:Nat) (hn:2≤n) (g:Nat) (lb:Array Value) (eg: ∀args w,(callFunc g args).run pg w= .ok (.enter g args) w)
    (S:List dc→Prop) (N:Nat) (hN:N≤2^40) (w:World) (adY:SeqGives eT (n-1) pg g lb (fun t:dc=>t.v) S N w):
    CallsIn eT n pg OW #[.slice none 0 0,.func (.func g) #[] lb] w fun e w'=> ∃(v:Value) (ts:List dc),e= .returned v∧S ts∧w'.ownsRow w.heap.size tT 3 v ts.length (ts.map T3).flatten∧Below w.heap.size w w':=by
  have h1:1≤n:=by omega
  have du:yI≠tT:=by decide
  refine callsIn_of_wp_marks (f:=OW) (fn:=Tryz.f171) kQ rfl trivial ?_ rfl;rw [Tryz.ntmps171];change As _ _ _ _ _ ⟨#[.slice none 0 0,.func (.func g) #[] lb,undef,undef,undef,undef,undef,undef,undef,undef,undef,undef,undef],[]⟩ w
  gi_wp2
  refine wpIn_rangeFunc ?_;intro fn hfn;obtain⟨W0,hW0⟩: ∃W0,w.alloc (.cells #[.slice none 0 0] yI)=W0:=⟨_,rfl⟩;have bS:W0.heap.size=w.heap.size+1:=by rw [←hW0];simp
  have hv0:W0.heap[w.heap.size]? =some (.cells #[.slice none 0 0] yI (0,0)):=by rw [←hW0];exact gY w _
  have AK:Below w.heap.size w W0:=by rw [←hW0];exact(Below.refl _ w).alloc (ba _) _
  rw [hW0];obtain⟨W1,YD⟩: ∃W1,(W0.alloc (.deferred (some []))).alloc (.loop (tF fn (.func (.func g) #[] lb) w.heap.size W0.heap.size .ready none))=W1:=⟨_,rfl⟩;have hold: ∀k,k<W0.heap.size→W1.heap[k]? =W0.heap[k]? :=fun k hk=>by
    rw [←YD];exact(Below.heap_alloc _ _ k (by simp;omega)).trans (Below.heap_alloc _ _ k hk)
  have rS:Below w.heap.size w W1:=by rw [←YD];exact(AK.alloc AK.size _).alloc (by have:=AK.size;simp;omega) _
  have ao:W1.heap.size=W0.heap.size+2:=by rw [←YD];simp
  have hM:ApT w fn (.func (.func g) #[] lb) w.heap.size (W0.heap.size+1) W0.heap.size [] W1:=
    ⟨⟨_,(hold w.heap.size zQ).trans hv0,⟨rfl,.inl ⟨rfl,rfl⟩⟩⟩,
     by rw [←YD];have:=gY (W0.alloc (.deferred (some []))) (.loop (tF fn (.func (.func g) #[] lb) w.heap.size W0.heap.size .ready none));rwa [World.size_alloc] at this,
     by rw [←YD];exact(Below.heap_alloc _ _ _ (by simp)).trans (gY W0 _),rS⟩
  refine⟨W0.heap.size+1,[{ target:=.collected W0.heap.size,args:= #[] }],W1,{ target:=.fn (.func g) lb,args:= #[.func (.yield (W0.heap.size+1)) #[] #[]] },W1,g,
    #[.func (.yield (W0.heap.size+1)) #[] #[]]++lb,W1,?_,?_,?_,?_,fun _=>h1,?_⟩
  · rw [←YD];exact run_enterLoop_outer _ _ _ _ _
  · simp [resolve,go_sem]
  · intro f' OB;simp [Target.leads] at OB;subst OB;trivial
  · simp [invoke,go_sem,eg]
  · refine(adY (W0.heap.size+1) (ApT w fn (.func (.func g) #[] lb) w.heap.size (W0.heap.size+1) W0.heap.size) W1 rS (Z6 _ _ _ _ _ _ _ rS.size)
      (fun pre x W hJ hl=>adX (n-1-1) w fn _ w.heap.size (W0.heap.size+1) W0.heap.size zQ zQ zQ (ba _) zQ N hN pre x W hJ hl) hM).mono ?_
    rintro e W2 ⟨⟨v0,rfl⟩,ts,hS,h2⟩;obtain⟨v,hv,bJ⟩:=h2.box;have oc:=run_endLoop (P:=pg) h2.L (by simp [tF]);obtain⟨W3,OX⟩: ∃W3,W2.putObj (W0.heap.size+1) (.loop { tF fn (.func (.func g) #[] lb) w.heap.size W0.heap.size .ready none with state:=.exhausted })=W3:=⟨_,rfl⟩;rw [OX] at oc;have R0:W2.grownBy W3 (some (W0.heap.size+1)):=by rw [←OX];exact grownBy_putObj_a _ _ _
    have Om:W3.heap[w.heap.size]? =some (.cells #[v] yI (0,0)):=by rw [←OX];exact(fU zQ).trans hv
    have kV:W3.heap[W0.heap.size]? =some (.deferred (some [])):=by rw [←OX];exact(fU zQ).trans h2.K
    have Dt:=bJ.kept R0 (ownsRow_ne_a bJ h2.L (fun cur e=>by first|cases e|exact du (iC e).2.1));have Mc:Below w.heap.size w W3:=h2.below.grown R0 h2.below.size (fun k e=>by cases e;omega);obtain⟨qY,hf3⟩:=cell_of_box_a Om;clear OX;refine⟨none,W3,oc,?_⟩
    gi_wp2
    rw [←bS];refine⟨by simp,.inl ⟨_,_,rfl,run_takeDeferred kV,?_⟩⟩;exact⟨_,results_tmp rfl _ _ _,v,ts,rfl,hS,Dt.kept (grownBy_putObj_a _ _ _) (ownsRow_ne_a Dt kV (fun cur e=>by first|cases e|exact du (iC e).2.1)),Mc.grown (grownBy_putObj_a _ _ _) Mc.size (fun k e=>by cases e;omega)⟩
theorem adZ (n:Nat) (hn:3≤n) (g:Nat) (lb:Array Value) (eg: ∀args w,(callFunc g args).run pg w= .ok (.enter g args) w)
  (S:List dc→Prop) (N:Nat) (hN:N≤2^40) (w:World) (adY:SeqGives eT (n-1-1) pg g lb (fun t:dc=>t.v) S N w):
  CallsIn eT n pg aac #[.func (.func g) #[] lb] w fun e w'=> ∃(v:Value) (ts:List dc),e= .returned v∧S ts∧w'.ownsRow w.heap.size tT 3 v ts.length (ts.map T3).flatten∧Below w.heap.size w w':=by
 have h1:1≤n:=by omega
 have e11: ∀args w,(callFunc OW args).run pg w= .ok (.enter OW args) w:=enters_of (fn:=Tryz.f171) kQ kQ rfl;refine callsIn_of_wp (f:=aac) (fn:=Tryz.f108) kQ rfl trivial ?_ rfl;rw [Tryz.ntmps108];change As _ _ _ _ _ ⟨#[.func (.func g) #[] lb,undef,undef,undef,undef],[]⟩ w
 gi_wp2_with (refine⟨trivial,?_⟩;gi_at_fn OW;refine(aad (n-1) zQ g lb eg S N hN _ adY).mono ?_;rintro e w' ⟨v,ts,rfl,hS,bJ,hb⟩)
 go_ret
 exact⟨v,ts,rfl,hS,bJ,hb⟩
end Go.Proofs.YtbpnemeooenpmaaGreat
namespace Go.Proofs.YtbpnemeooenpmaaGreat
open Go.Proofs.Tryz renaming prog → pg
open Go.aV Go.RowKit Go.Maps Go.Sort Go.Shelf Go.Proofs
set_option maxRecDepth 100000
set_option maxHeartbeats 1000000
set_option linter.unusedVariables false
set_option linter.unusedSimpArgs false
theorem ad0 {w:World} {X:XS} {mb:Nat} :Ct pg 50 #[.map (some mb)] w X nX fun v wa w'=> ∃bx,v= .func (.func EX) #[] #[ptr bx 0]∧a7 w' (made wa w') bx [.map (some mb)] UO:=by
 intro w0 hk;have hs:=aj.init w0;apply lK;unfold gP;refine ta rfl hs.has fun bx w1 X1 gh ao bJ=>?_;repeat' first|refine aJ ?_;intros
 exact av ao fun wa bk=>⟨bx,rfl,⟨gh,(bJ.kp bk).lt⟩,(bJ.kp bk).2⟩
theorem Xq {w:World} {X:XS} {mb bx:Nat} {l:List (dc×Nat)} (h:dR w X nX mb (fun k:dc=>k.v) nG l) (hb:a7 w X bx [.map (some mb)] UO) (hl:l.length≤2^40):
  Ct pg aac #[.func (.func EX) #[] #[ptr bx 0]] w X nX fun v wa w'=> ∃ts:List dc,ts.length=l.length∧Own w' (made wa w') wa.heap.size tT 3 v (ts.map dc.l):=by
 intro wa hk;obtain⟨es,c,h1,h2⟩:=h;have Bl:=h2.keys;have hlen:es.length=l.length:=by have:=congrArg ai Bl;simpa using this
 have Iu:=h1.kp hk;have hT:Ee wa mb es c:=by
  exact⟨Iu.2.1,Iu.2.2.2.1,Iu.2.2.2.2⟩
 have hS:=callsIn_wide.1 (adZ 7 zQ EX #[ptr bx 0] (fun args w=>kJ kQ args w) _ es.length zQ wa (Xl (hb.kp hk).lt (by have:=(hb.kp hk).2;simp [pq,this]) hT));refine hS.mono ?_;rintro e w' ⟨v,ts,rfl,hp,bJ,eY⟩;have hx:Ext wa w':=⟨eY.os,eY.tape,eY.output,eY.size,fun k af _=>eY.block k af⟩;refine⟨v,rfl,hx,ts,by rw [hp.length_eq,aH,hlen],?_⟩;refine⟨fun r hr=>by obtain⟨x,_,rfl⟩:=List.mem_map.1 hr;rfl,?_,fun q hq=>⟨?_,?_⟩⟩
 ·rw [aH];exact bJ
 ·exact(bJ.lt _ hq).1
 ·exact(bJ.lt _ hq).2
theorem SJ {w:World} {X:XS} {mb bx:Nat} {f:Value} {l:List (dc×Nat)} (h:dR w X nX mb (fun k:dc=>k.v) nG l) (hb:a7 w X bx [.map (some mb)] UO) (hl:l.length≤1):
  Ct pg 49 #[.func (.func EX) #[] #[ptr bx 0],f] w X nX fun v wa w'=> ∃ts:List dc,ts.length=l.length∧Own w' (made wa w') wa.heap.size tT 3 v (ts.map dc.l):=by
 intro w0 hk;replace h:=h.mv fK hk.dD (A':=nX) (fun _ h _=>h.elim);replace hb:=hb.mv hk.dD;have hs:=aj.init w0;apply zg;unfold qZ;refine dp (Xq h hb zQ) kQ hs.has ?_;rintro v w1 w2 X2 ⟨ts,dy,ho⟩ hle fP bU;have wD:=(ho.sl.mv (Mv.sub fP))
 skip
 refine dp (SF wD (by rw [aH,dy];exact hl)) kQ bU.has ?_;rintro v3 w3 w4 X4 _ qg lI fq;exact av (bU.trans fq) fun wa bk=>⟨ts,dy,(((ho.up fP hle).since fq).kp bk).tight⟩
theorem Qj {w:World} {Y X:XS} {nb:Nat} {c:ph} {vm va:Value} {al:List (dc×Nat)} (h:a7 w Y nb (ui c vm va) nT) (hY: ∀k,Y k→X k) (Dz:dR w X nX c.ab (fun k:dc=>k.v) nG al) (hl:al.length≤1):
  Ct pg 14 #[ptr nb 0] w X nX fun v wa w'=> ∃ts:List dc,ts.length=al.length∧Own w' (made wa w') wa.heap.size tT 3 v (ts.map dc.l):=by
 intro w0 hk;replace h:=(h.mv (Mv.sub hY)).mv hk.dD;replace Dz:=Dz.mv fK hk.dD (A':=nX) (fun _ h _=>h.elim);have hs:=aj.init w0;apply Gt;unfold xM;repeat' first|refine aJ ?_;intros
 refine dp ad0 kQ hs.has ?_;rintro _ wa w2 X2 ⟨bx,rfl,hb⟩ hle fP bU;refine dp (SJ (Dz.mv fK bU.mv (A':=nX) (fun _ h _=>h.elim)) (hb.mono fP) hl) kQ bU.has ?_;rintro v w3 w4 X4 ⟨ts,dy,ho⟩ qg lI fq;exact av (bU.trans fq) fun wa bk=>⟨ts,dy,((ho.up lI (by have:=bU.kp.size;omega)).kp bk).tight⟩
end Go.Proofs.YtbpnemeooenpmaaGreat
namespace Go.Proofs.YtbpnemeooenpmaaGreat
open Go.Proofs.Tryz renaming prog → pg
open Go.aV
set_option maxRecDepth 100000
set_option maxHeartbeats 1000000
set_option linter.unusedVariables false
set_option maxRecDepth 100000
set_option maxHeartbeats 1000000
set_option linter.unusedVariables false
set_option linter.unusedSimpArgs false
attribute [local irreducible] un jn aC aS ld1 dY st1 dt cD kK dC lQ uJ sO fH e7 ae aB aK eW eV eU eC eF gE az fin aP aE aD vS xd gO gW ry uK sP xe xf xg gB gR rz uL sQ xh xi
theorem Ve {w:World} {X:XS} {a:Value} {l:List dq} {x:Nat} (ha:Sl w X 4 a (l.map dq.l)):Ct pg 11 #[a,.float .f64 x] w X nX fun v _ _=>v= .tuple #[((findF l x).getD .zero).v,B (findF l x).isSome]:=by
 intro w0 hk;replace ha:=ha.mv hk.dD;have jT:=ha.gy;apply SK;unfold HC;have hs:=aj.init w0;repeat' first|refine aJ ?_;intros
 refine fN (fun n a b w X=> ∃i:Nat,a=I i∧b=dq.zero.v∧n=l.length-i∧i≤l.length∧aj (aR w0) w0 X w∧findF l x=findF (l.drop i) x) l.length ⟨0,rfl,rfl,rfl,aF _,hs,rfl⟩ ?_;rintro n a b w X ⟨i,rfl,rfl,rfl,hi,hs,hw⟩;rcases ew (l) i with⟨dy,y,hx,hd⟩|⟨dV,hd⟩
 ·rw [hd] at hw;by_cases hm:dq.tf y x=true
  ·have e:findF l x=some y:=by rw [hw];simp [findF,hm]
   repeat' first|refine bD ?_;intros|((with_reducible refine dJ (xu _ _) ?_ hs.has ?_ ?_);(· kernel_rfl);all_goals (intro _ w X ao;replace hs:=hs.trans ao))|(exfalso;simp_all [dq.tf];done)|((first|(with_reducible refine av hs ?_)|(with_reducible refine av (bS.trans hs) ?_));intro wa hk;(rw [e];rfl))
  ·have e:findF l x=findF (l.drop (i+1)) x:=by rw [hw];simp [findF,hm]
   repeat' first|refine bD ?_;intros|((with_reducible refine dJ (xu _ _) ?_ hs.has ?_ ?_);(· kernel_rfl);all_goals (intro _ w X ao;replace hs:=hs.trans ao))|(exfalso;simp_all [dq.tf];done)|((with_reducible refine fJ ((l).length-(i+1)) ?_ ?_);omega;exact⟨i+1,by simp,rfl,rfl,by omega,hs,e⟩)
 ·rw [hd] at hw;have e:findF l x=none:=by rw [hw];rfl
  repeat' first|refine bD ?_;intros|((first|(with_reducible refine av hs ?_)|(with_reducible refine av (bS.trans hs) ?_));intro wa hk;(rw [e];rfl))
end Go.Proofs.YtbpnemeooenpmaaGreat
