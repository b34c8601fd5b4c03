/-
 Part 14 of the proof: what the last text leans on.
-/
import Derived.WalkKit
import Derived.Test.YtfndblbeikocdaaGreatW13
open List renaming mem_of_getElem? → aH, length_map → aA, length_append → ae, take_add_one → bg, map_append → bp, take_append_drop → cG, length_take → aX, mem_of_mem_take → ee, take_of_length_le → ba, append_assoc → aC, mem_of_mem_drop → ec, flatten_cons → dU, set_cons_zero → l8, getElem?_cons_succ → jH, length_singleton → bF, map_singleton → l9, mem_append_left → ck, filter_append → ei, take_append_of_le_length → iF, find?_cons → b8, mem_cons_self → dt, set_append_right → mZ, mem_or_eq_of_mem_set → lz, getElem?_map → dD, getElem?_set_self → mP, getElem?_set_ne → nP, map_cons → bC, length → aq, length_nil → bI, getElem?_eq_getElem → cd, drop_sublist → qh, flatten_append → gQ, not_mem_nil → fW, set_cons_succ → uA, mem_cons_of_mem → bK, pairwise_cons → jO, mem_singleton → ej, take_sublist → vE, getLast?_append → sW, getLast?_singleton → qD, drop_eq_getElem_cons → fM, filter_sublist → tO, filter_cons → eP, filter_nil → x8, append_nil → fE, take_set_of_le → tP, drop_set_of_lt → tQ, length_drop → dR
open Go.Op renaming bytesLess → cR, equalIn → iz
open Nat renaming le_trans → af, zero_le → aL, lt_of_lt_of_le → aN, zero_add → ed, le_refl → bP, lt_or_gt_of_ne → uB
open Go.Sort renaming grow → eD
open Bool renaming and_eq_true → aY, or_eq_true → iU, or_eq_false_iff → nQ, and_eq_false_iff → na, false_eq_true → bc, eq_iff_iff → x9
open Go.Exit renaming inBlock → nR, «then» → rA
open Option.some renaming injEq → az
open Go.World renaming cell? → sx
open UInt8 renaming lt_irrefl → rR
open Go.Proofs renaming ltOf → sX
open Go.Value renaming ownBlock → dY
open Option renaming toList_some → iQ, some_or → zv
open Go.Instr renaming findNow → iu, checkKey → fK
open Go.Calls renaming grown_of → zw
open Go.ByteArray renaming toList_eq → gR
open Function renaming comp_def → gJ
open Go.Builtin renaming len_ → fg
open Go.Program renaming fieldsOf → xd
set_option linter.unusedVariables false
set_option linter.unusedSimpArgs false
namespace Go.Proofs.YtfndblbeikocdaaGreat
open Go.Proofs.Tryz renaming prog → pg
open Go.bB Go.RowKit Go.Sort
set_option maxRecDepth 100000
set_option maxHeartbeats 1000000
@[go_sem] theorem adb {P:Program} {w:World} {a:Addr} {m:Mode} (k:FloatKind) (n:Nat):(store a (.float k n) m).run P w=stored P w a (.float k n) m:=run_store P w a _ m rfl
@[go_sem] theorem ahs (x:Nat) (wa:World):(callFunc 118 #[.float .f64 x]).run pg wa= .ok (.value (.int .u64 x)) wa:=by kernel_rfl
@[go_sem] theorem ahT {P:Program} {w:World} (t:TypeId) (a b:ByteArray):(binOp .gtr t (.string a) (.string b)).run P w= .ok (.bool (!(cR a.toList b.toList||decide (a=b)))) w:=by
 simp [binOp,Op.stringOp,A5,Fi]
abbrev kj (s:ByteArray):Value:=if s.size≤64 then .agg #[I 2,.float .f64 0,.string s] else .agg #[I 0,.float .f64 0,.string ⟨#[]⟩]
theorem Qp {tmps cs:Array Value} {W:World} (hp:tmps.getD 2 undef=ptr W.heap.size 0) (hc:cs.size=3):(results Tryz.f178 tmps).run pg (W.alloc (.cells cs 116))= .ok (.agg cs) (W.alloc (.cells cs 116)):=by
 obtain⟨fs,hu⟩: ∃fs,pg.underlying 116=some (.struct fs):=⟨_,rfl⟩;exact results_cell_row kQ _ _ W.heap.size _ _ _ (.struct fs) hp (heap_alloc_new _ _) hu rfl (by rw [hc];kernel_rfl)
theorem VS (s:ByteArray) (W:World):Calls pg 178 #[.string s] W fun e w'=>e= .returned (kj s)∧jc W w':=by
 go_enter Tryz.func178,Tryz.ntmps178
 go_wp2
 all_goals (try simp only [nR,rA])
 ·refine bodyPost_ret (v:=kj s) ((Qp rfl rfl).trans ?_) rfl ⟨rfl,(jc.refl W).alloc _⟩;rename_i h;simp [kj,show¬s.size≤64 by omega]
 ·refine bodyPost_ret (v:=kj s) ((Qp rfl rfl).trans ?_) rfl ⟨rfl,(jc.refl W).alloc _⟩;rename_i h;simp [kj,show s.size≤64 by omega]
theorem Qq (s:ByteArray) (W:World):Calls pg 196 #[kj s] W fun e w'=>e= .returned (B true)∧jc W w':=by
 by_cases hs:s.size≤64
 ·rw [show kj s= .agg #[I 2,.float .f64 0,.string s] by simp [kj,hs]]
  go_enter Tryz.func196,Tryz.ntmps196
  go_wp2
  all_goals (try simp only [nR,rA])
  refine bodyPost_ret (v:=B true) ?_ rfl ⟨rfl,(jc.refl W).alloc _⟩;rw [results_tmp (t:=2) kQ];simp;omega
 ·rw [show kj s= .agg #[I 0,.float .f64 0,.string ⟨#[]⟩] by simp [kj,hs]]
  go_enter Tryz.func196,Tryz.ntmps196
  go_wp2
  all_goals (try simp only [nR,rA])
  refine bodyPost_ret (v:=B true) ?_ rfl ⟨rfl,(jc.refl W).alloc _⟩;rw [results_tmp (t:=2) kQ];simp
def mw (s:ByteArray):Int:=if s.size≤64 then 2 else 0
def pU (s:ByteArray):ByteArray:=if s.size≤64 then s else⟨#[]⟩
theorem CI (s:ByteArray):kj s= .agg #[I (mw s),.float .f64 0,.string (pU s)]:=by
 unfold mw pU;by_cases h:s.size≤64<;>simp [kj,h]
def LH (s t:ByteArray):Int:=
 if mw s<mw t then-1 else if mw t<mw s then 1 else if pd (pU s) (pU t)then-1 else if pU s=pU t then 0 else 1
theorem two {W w':World} {a b c a' b' c':Value} (h:jc ((W.alloc (.cells #[a,b,c] 116)).alloc (.cells #[a',b',c'] 116)) w'):
  (w'.cell? ⟨W.heap.size,0,none⟩=some a∧w'.cell? ⟨W.heap.size,1,none⟩=some b∧w'.cell? ⟨W.heap.size,2,none⟩=some c)∧
  (w'.cell? ⟨W.heap.size+1,0,none⟩=some a'∧w'.cell? ⟨W.heap.size+1,1,none⟩=some b'∧w'.cell? ⟨W.heap.size+1,2,none⟩=some c'):=by
 have h0:=h.row (g:=W.heap.size) (o:=.cells #[a,b,c] 116) (by rw [heap_alloc_old (h:=by show _<(W.heap.push _).size;simp)];exact heap_alloc_new _ _);have h1:=h.row (g:=W.heap.size+1) (o:=.cells #[a',b',c'] 116) (heap_alloc2_new _ _ _);refine⟨⟨?_,?_,?_⟩,?_,?_,?_⟩<;>simp [sx,h0,h1]
set_option maxHeartbeats 2000000 in
theorem Rh (s t:ByteArray) (W:World):Calls pg 177 #[kj s,kj t] W fun e w'=>e= .returned (I (LH s t))∧jc W w':=by
 have hs:mw s=2∨mw s=0:=by unfold mw;split<;>simp
 have ht:mw t=2∨mw t=0:=by unfold mw;split<;>simp
 have hm: ∀(x:Value) W,x=kj s∨x=kj t→Calls pg 196 #[x] W fun e w'=>e= .returned (B true)∧jc W w':=by
  rintro x W (rfl|rfl)
  ·exact Qq s W
  ·exact Qq t W
 rw [CI,CI] at hm;rw [CI,CI];have g0:=jc.refl ((W.alloc (.cells #[I (mw s),.float .f64 0,.string (pU s)] 116)).alloc (.cells #[I (mw t),.float .f64 0,.string (pU t)] 116));unfold LH;generalize pU s=bs at*;generalize pU t=bt at*;rcases hs with hs|hs<;>rcases ht with ht|ht<;>rw [hs] at hm g0⊢ <;>rw [ht] at hm g0⊢ <;>clear hs ht
 all_goals
  go_enter Tryz.func177,Tryz.ntmps177
  go_wp2_with (go_at_call 196;refine(hm _ _ (by simp)).mono ?_;rintro e w1 ⟨rfl,g1⟩;replace g0:=g0.trans g1;have⟨⟨f1,f2,f3⟩,f4,f5,f6⟩:=two g0)
  all_goals (try simp only [nR,rA])
  all_goals refine bodyPost_ret (results_tmp (t:=4) kQ _ _ _) rfl ⟨?_,(((jc.refl W).alloc _).alloc _).trans g0⟩
  all_goals simp_all [pd]
theorem VT (k1 k2:ByteArray) (a1 a2 a3 b1 b2 b3:Value) (W:World):
  Calls pg 176 #[.agg #[.string k1,a1,a2,a3],.agg #[.string k2,b1,b2,b3]] W fun e w'=>e= .returned (I (LH k1 k2))∧jc W w':=by
 have mixed:pg.follows .mixedOrders=true:=by kernel_rfl
 have hW: ∀s (n:Nat) (os:Array Obj) (wq:World),Calls pg 178 #[.string s] (eD (wq.drewN n) os) fun e w'=>e= .returned (kj s)∧ ∃q H8,w'=eD ((eD (wq.drewN n) os).drewN q) H8:=fun s n os wq=>VS s _;have hC: ∀s t (n:Nat) (os:Array Obj) (wq:World),Calls pg 177 #[kj s,kj t] (eD (wq.drewN n) os) fun e w'=>e= .returned (I (LH s t))∧ ∃q H8,w'=eD ((eD (wq.drewN n) os).drewN q) H8:=fun s t n os wq=>Rh s t _;have hC:=hC k1 k2;generalize h1:LH k1 k2=c at*;obtain⟨wv,hwv⟩: ∃f:ByteArray→Value,f=fun s=>kj s:=⟨_,rfl⟩;have Gt: ∀s (n:Nat) (os:Array Obj) (wq:World),Calls pg 178 #[.string s] (eD (wq.drewN n) os) fun e w'=>e= .returned (wv s)∧ ∃q H8,w'=eD ((eD (wq.drewN n) os).drewN q) H8:=by rw [hwv];exact hW
 have hC': ∀(n:Nat) (os:Array Obj) (wq:World),Calls pg 177 #[wv k1,wv k2] (eD (wq.drewN n) os) fun e w'=>e= .returned (I c)∧ ∃q H8,w'=eD ((eD (wq.drewN n) os).drewN q) H8:=by rw [hwv];exact hC
 clear hW hC hwv h1;have G:jc W ((W.alloc (.cells #[.string k1,a1,a2,a3] 118)).alloc (.cells #[.string k2,b1,b2,b3] 118)):=((jc.refl W).alloc _).alloc _;have c1:((W.alloc (.cells #[.string k1,a1,a2,a3] 118)).alloc (.cells #[.string k2,b1,b2,b3] 118)).heap[W.heap.size]? =some (.cells #[.string k1,a1,a2,a3] 118 (0,0)):=by
  rw [heap_alloc_old (h:=by show _<(W.heap.push _).size;simp)];exact heap_alloc_new _ _
 have c2:=heap_alloc2_new W (.cells #[.string k1,a1,a2,a3] 118) (.cells #[.string k2,b1,b2,b3] 118)
 go_enter Tryz.func176,Tryz.ntmps176
 go_wp2_with fail
 clear hC;have l1: ∀(n:Nat) (os:Array Obj),(eD (((W.alloc (.cells #[.string k1,a1,a2,a3] 118)).alloc (.cells #[.string k2,b1,b2,b3] 118)).drewN n) os).cell? ⟨W.heap.size,0,none⟩=some (.string k1):=fun n os=>by
  have:=jc.row (W:=(W.alloc (.cells #[.string k1,a1,a2,a3] 118)).alloc (.cells #[.string k2,b1,b2,b3] 118)) ⟨n,os,rfl⟩ c1;simp [sx,this]
 have l2: ∀(n:Nat) (os:Array Obj),(eD (((W.alloc (.cells #[.string k1,a1,a2,a3] 118)).alloc (.cells #[.string k2,b1,b2,b3] 118)).drewN n) os).cell? ⟨W.heap.size+1,0,none⟩=some (.string k2):=fun n os=>by
  have:=jc.row (W:=(W.alloc (.cells #[.string k1,a1,a2,a3] 118)).alloc (.cells #[.string k2,b1,b2,b3] 118)) ⟨n,os,rfl⟩ c2;simp [sx,this]
 clear c1 c2;generalize (W.alloc (.cells #[.string k1,a1,a2,a3] 118)).alloc (.cells #[.string k2,b1,b2,b3] 118)=wq at G l1 l2⊢;replace Gt:=fun s n os=>Gt s n os wq;replace hC':=fun n os=>hC' n os wq
 go_quiet_grown (first|(go_at_call 178;refine zw (Gt _ _ _))|(go_at_call 177;refine zw (hC' _ _)))
 go_wp2
 all_goals (try simp only [nR,rA])
 refine bodyPost_ret (results_tmp (t:=4) kQ _ _ _) rfl ⟨rfl,G.trans ⟨_,_,rfl⟩⟩
theorem Ni: ∀l:List UInt8,cR l l=false
 |[]=>rfl
 |a::l=>by simp [cR,Ni l,rR]
theorem Qr: ∀{a b:List UInt8},cR a b=true→cR b a=false
 |_,[],h=>by simp [cR] at h
 |[],_::_,_=>by simp [cR]
 |a::l,b::m,h=>by
  simp only [cR,iU,aY,decide_eq_true_eq,beq_iff_eq,nQ,na,decide_eq_false_iff_not] at h⊢;rcases h with h|⟨rfl,h⟩
  ·exact⟨UInt8.not_lt.2 (UInt8.le_of_lt h),.inl (by simp;rintro rfl;exact rR _ h)⟩
  ·exact⟨rR _,.inr (Qr h)⟩
theorem Qs: ∀{a b:List UInt8},cR a b=false→a≠b→cR b a=true
 |[],[],_,h=>absurd rfl h
 |_::_,[],_,_=>by simp [cR]
 |[],_::_,h,_=>by simp [cR] at h
 |a::l,b::m,h,cn=>by
  simp only [cR,iU,aY,decide_eq_true_eq,beq_iff_eq,nQ,na,decide_eq_false_iff_not] at h⊢;obtain⟨h1,h2⟩:=h;by_cases x7:a=b
  ·subst x7;right;refine⟨rfl,Qs ?_ fun e=>cn (by rw [e])⟩;rcases h2 with h2|h2
   ·simp at h2
   ·exact h2
  ·left;exact UInt8.lt_of_le_of_ne (UInt8.not_lt.1 h1) (Ne.symm x7)
theorem Qt: ∀{a b c:List UInt8},cR a b=true→cR b c=true→cR a c=true
 |[],[],_,h,_=>by simp [cR] at h
 |[],_::_,[],_,h=>by simp [cR] at h
 |[],_::_,_::_,_,_=>by simp [cR]
 |_::_,[],_,h,_=>by simp [cR] at h
 |_::_,_::_,[],_,h=>by simp [cR] at h
 |a::l,b::m,c::r,h1,h2=>by
  simp only [cR,iU,aY,decide_eq_true_eq,beq_iff_eq] at h1 h2⊢;rcases h1 with h1|⟨rfl,h1⟩
  ·rcases h2 with h2|⟨rfl,h2⟩
   ·exact .inl (UInt8.lt_trans h1 h2)
   ·exact .inl h1
  ·rcases h2 with h2|⟨rfl,h2⟩
   ·exact .inl h2
   ·exact .inr ⟨rfl,Qt h1 h2⟩
theorem aav (a:ByteArray):pd a a=false:=Ni _
theorem abM {a b:ByteArray} (h:pd a b=true):pd b a=false:=Qr h
theorem Tx {a b c:ByteArray} (h1:pd a b=true) (h2:pd b c=true):pd a c=true:=Qt h1 h2
theorem Ty {a b:ByteArray} (h:pd a b=false) (cn:a≠b):pd b a=true:=Qs h fun e=>cn (by
 rw [gR,gR] at e;exact ByteArray.ext (Array.toList_inj.1 e))
def cfW (x y:KV):Int:=LH x.key y.key
def ltW (s t:ByteArray):Bool:=decide (mw s<mw t)||(decide (mw s=mw t)&&pd (pU s) (pU t))
theorem Tz (x y:KV):sX cfW x y=ltW x.key y.key:=by
 unfold sX cfW LH ltW;by_cases h1:mw x.key<mw y.key
 ·simp [h1]
 ·by_cases h2:mw y.key<mw x.key
  ·simp [h1,h2,show¬mw x.key=mw y.key by omega]
  ·have h3:mw x.key=mw y.key:=by omega
   cases h:pd (pU x.key) (pU y.key)
   ·by_cases h4:pU x.key=pU y.key<;>simp [h4,h3,h]<;>simp [←h4,h]
   ·simp [h3,h]
theorem aaw {a b c:ByteArray} (h1:pd a b=false) (h2:pd b c=false):pd a c=false:=by
 by_cases e1:a=b
 ·rw [e1];exact h2
 by_cases e2:b=c
 ·rw [←e2];exact h1
 exact abM (Tx (Ty h2 e2) (Ty h1 e1))
theorem agQ:Go.Sort.SWO (sX cfW) where
 irrefl x:=by rw [Tz];simp [ltW,aav]
 trans x y z:=by
  simp only [Tz,ltW,iU,aY,decide_eq_true_eq];rintro(h|⟨h,h'⟩) (k|⟨k,k'⟩)
  ·left;omega
  ·left;omega
  ·left;omega
  ·right;exact⟨by omega,Tx h' k'⟩
 ntrans x y z:=by
  simp only [Tz,ltW,nQ,na,decide_eq_false_iff_not];rintro⟨h,h'⟩ ⟨k,k'⟩;refine⟨by omega,?_⟩;rcases h' with h'|h'
  ·left;omega
  ·rcases k' with k'|k'
   ·left;omega
   ·right;exact aaw h' k'
instance:Inhabited KV:=⟨⟨⟨#[]⟩,⟨0,0,⟨#[]⟩⟩⟩⟩
theorem Ri {w:World} {X:XS} {lo:Nat} {v:Value} {xs:List KV} (own:Own w X lo 118 4 v (xs.map KV.l)) (hb:xs.length<2^61):
  Ct pg 175 #[v,.func (.func 176) #[] #[]] w X (dP v) fun r _ w'=>r= .tuple #[]∧ ∃ys:List KV,ys.Perm xs∧Own w' (dP v) lo 118 4 v (ys.map KV.l):=by
 have h:=abN (P:=pg) (ρ:=Tryz.Qk) Tryz.agO (k:=4) zQ Tryz.isAgg118 Tryz.sizeOf118 (enc:=KV.l) (fun _=>rfl)
  (fun x u hu=>by simp only [KV.l,List.mem_cons,fW,or_false] at hu;rcases hu with h|h|h|h<;>subst h<;>rfl) (cf:=cfW) agQ (g:=176)
  (Go.Proofs.enters_of Tryz.func176 kQ rfl) (fun x y W=>VT x.key y.key _ _ _ _ _ _ W) own hb
 exact h.mono fun v wa w' _ ⟨h1,ys,h2,_,h3⟩=>⟨h1,ys,h2,h3⟩
end Go.Proofs.YtfndblbeikocdaaGreat
namespace Go.Proofs.YtfndblbeikocdaaGreat
open Go.Proofs.Tryz renaming prog → pg
open Go.bB
set_option maxRecDepth 100000
set_option maxHeartbeats 1000000
set_option linter.unusedVariables false
set_option linter.unusedSimpArgs false
attribute [local irreducible] un jn aI aT ld1 ek st1 cA cp mE ea mF wh vy gG ga ab ax ay eW eV eU eC eF gE au fin aM aP aF vS y9 gg ix rr wi wj za zc zd fY iy ru wm wo ze zf
structure Ev where
 j7:Value
 b6:eh
 aw:aO
 writes:List KV
abbrev Ev.l (x:Ev):List Value:=[I x.b6.iP,I x.b6.lu,I x.b6.sq,I x.aw.wall,I x.aw.dv,I x.aw.node,x.j7]
structure ef (w:World) (X:XS) (lo:Nat) (v:Value) (es:List Ev):Prop where
 own:Own w X lo 69 7 v (es.map Ev.l)
 ws: ∀x∈es,Own w X lo 118 4 x.j7 (x.writes.map KV.l)
 ap:es.Pairwise fun x y=> ∀g,x.j7.ownBlock=some g→y.j7.ownBlock≠some g
def tm (v:Value) (es:List Ev):XS:=fun b=>v.ownBlock=some b∨ ∃x∈es,x.j7.ownBlock=some b
theorem ef.nil (w:World) (X:XS) (lo:Nat):ef w X lo (.slice none 0 0) []:=⟨Own.nil _ _ _ _ _,by simp,by simp⟩
theorem ef.dK {w w':World} {X X' G:XS} {lo:Nat} {v:Value} {es:List Ev} (h:ef w X lo v es) (c:eo G X w X' w') (hG: ∀k,G k→k<lo):ef w' X' lo v es:=
 ⟨h.own.dK c fun g hg hb=>by have:=(h.own.ge hg).1;have:=hG g hb;omega,fun x hx=>(h.ws x hx).dK c fun g hg hb=>by have:=((h.ws x hx).ge hg).1;have:=hG g hb;omega,h.ap⟩
theorem ef.fin {w w0 wa:World} {X:XS} {v:Value} {es:List Ev} (h:ef w X w0.heap.size v es) (hk:Kp X w wa):ef wa (made w0 wa) w0.heap.size v es:=⟨(h.own.kp hk).tight,fun x hx=>((h.ws x hx).kp hk).tight,h.ap⟩
theorem ef.mv {w w':World} {X X':XS} {lo:Nat} {v:Value} {es:List Ev} (h:ef w X lo v es) (m:Mv X w X' w'):ef w' X' lo v es:=⟨h.own.mv m,fun x hx=>(h.ws x hx).mv m,h.ap⟩
theorem WX {w:World} {X:XS} {lo e k:Nat} {v:Value} {rows:List (List Value)} (h:Own w X lo e k v rows) {g:Nat} (hg:v.ownBlock=some g): ∃cs:List Value,w.heap[g]? =some (.cells cs.toArray e (0,0)):=by
 rcases h.row with⟨rfl,_⟩|⟨b,cap,cs,rfl,_,hr,_⟩
 ·cases hg
 ·simp only [dY,az] at hg;exact⟨cs,hg▸hr.2⟩
theorem jI {w:World} {X X':XS} {lo lo' e e' k k':Nat} {v v':Value} {rows agR:List (List Value)} (h:Own w X lo e k v rows) (h':Own w X' lo' e' k' v' agR) (he:e≠e') {g:Nat} (hg:v.ownBlock=some g):v'.ownBlock≠some g:=fun gA=>by
 obtain⟨cs,h1⟩:=WX h hg;obtain⟨sc,h2⟩:=WX h' gA;rw [h1] at h2;exact he (by injection h2 with h2;injection h2)
theorem ef.add {w w':World} {X X':XS} {lo:Nat} {v v':Value} {es:List Ev} {t:eh} {s:aO} (h:ef w X lo v es) (c:eo (dP v) X w X' w')
  (ho:Own w' X' lo 69 7 v' (es.map Ev.l++[(⟨.slice none 0 0,t,s,[]⟩:Ev).l])):ef w' X' lo v' (es++[⟨.slice none 0 0,t,s,[]⟩]):=by
 refine⟨by rw [bp];exact ho,fun x hx=>?_,?_⟩
 ·rcases List.mem_append.1 hx with hx|hx
  ·exact(h.ws x hx).dK c fun g hg hb=>jI (h.ws x hx) h.own (by decide) hg hb
  ·rw [List.mem_singleton.1 hx];exact Own.nil _ _ _ _ _
 ·rw [List.pairwise_append];refine⟨h.ap,by simp,fun x _ y hy=>?_⟩;rw [List.mem_singleton.1 hy];intro g _ hg;cases hg
theorem TA {k:Nat} {o:Nat} {u:Value} (ho:o<k): ∀{rows:List (List Value)} {i:Nat} {r:List Value},(∀r∈rows,r.length=k)→rows[i]? =some r→rows.flatten.set (i*k+o) u=(rows.set i (r.set o u)).flatten
 |[],i,r,_,h=>by simp at h
 |a::rows,0,r,hr,h=>by
  have hk:=hr a (dt);simp only [List.getElem?_cons_zero,az] at h;subst h;rw [Nat.zero_mul,ed,dU,l8,dU,List.set_append_left _ _ zQ]
 |a::rows,i+1,r,hr,h=>by
  have hk:=hr a (dt);rw [jH] at h;rw [dU,uA,dU,mZ _ _ (by rw [hk,Nat.succ_mul];omega),hk,show(i+1)*k+o-k=i*k+o by rw [Nat.succ_mul];omega,
   TA ho (fun r' jt=>hr r' (bK _ jt)) h]
theorem BL {α:Type} {R:α→α→Prop} {y:α} : ∀{l:List α} {i:Nat},l.Pairwise R→(∀j z,j<i→l[j]? =some z→R z y)→(∀j z,i<j→l[j]? =some z→R y z)→(l.set i y).Pairwise R
 |[],i,_,_,_=>by simp
 |a::l,0,h,_,h2=>by
  rw [l8,jO];refine⟨fun z hz=>?_,(List.pairwise_cons.1 h).2⟩;obtain⟨j,hj⟩:=List.mem_iff_getElem?.1 hz;exact h2 (j+1) z zQ (by rwa [jH])
 |a::l,i+1,h,h1,h2=>by
  rw [uA,jO];refine⟨fun z hz=>?_,BL (List.pairwise_cons.1 h).2 (fun j z hj hz=>h1 (j+1) z zQ (by rwa [jH])) (fun j z hj hz=>h2 (j+1) z zQ (by rwa [jH]))⟩;rcases lz hz with hz|rfl
  ·exact(List.pairwise_cons.1 h).1 z hz
  ·exact h1 0 a zQ rfl
theorem ef.grow {w w1:World} {X X1:XS} {lo:Nat} {v h':Value} {es:List Ev} {i:Nat} {x:Ev} {TB:List KV} (h:ef w X lo v es) (hx:es[i]? =some x) (c:eo (dP x.j7) X w X1 w1)
  (dC:Own w1 X1 lo 118 4 h' (TB.map KV.l)) (fH:h'.ownBlock=x.j7.ownBlock∨ ∃g,h'.ownBlock=some g∧w.heap.size≤g):
  ∃g cap cs,v= .slice (some ⟨g,0,none⟩) es.length cap∧bN w1 X1 g cs 69∧es.length*7≤cs.length∧
   ∀w2 X2,eo (· =g) X1 w1 X2 w2→bN w2 X2 g (cH cs (i*7+6) [h']) 69→ef w2 X2 lo v (es.set i { x with j7:=h',writes:=TB }):=by
 have gY:=aH hx;have ug:=(List.getElem?_eq_some_iff.1 hx).1;rcases h.own.row with⟨_,he⟩|⟨g,cap,cs,hv,ez,hr,jk,iK,o9,gN⟩
 ·rw [List.map_eq_nil_iff] at he;rw [he] at hx;simp at hx
 rw [aA] at hv jk gN;have TC: ¬dP x.j7 g:=fun hb=>jI (h.ws x gY) h.own (by decide) hb (by rw [hv];rfl);have hle:es.length*7≤cs.length:=by rw [o9];exact Nat.mul_le_mul_right _ jk
 have hp:i*7+6<es.length*7:=by omega
 have aeZ: ∀y∈es,(∀b,y.j7.ownBlock=some b→ ¬dP x.j7 b)→Own w1 X1 lo 118 4 y.j7 (y.writes.map KV.l):=fun y hy hb=>(h.ws y hy).dK c hb;have cn: ∀y∈es,y.j7.ownBlock≠some g:=fun y hy hb=>jI (h.ws y hy) h.own (by decide) hb (by rw [hv];rfl);have ahU:h'.ownBlock≠some g:=fun hb=>by
  rcases fH with fH|⟨b,fH,dV⟩
  ·exact cn x gY (by rw [←fH];exact hb)
  ·rw [fH] at hb;cases hb;have:=hr.lt;omega
 have hold: ∀y∈es,∀b,y.j7.ownBlock=some b→b<w.heap.size:=fun y hy b hb=>((h.ws y hy).ge hb).2;have nJ: ∀y∈es,(∀b,y.j7.ownBlock=some b→ ¬dP x.j7 b)→ ∀b,y.j7.ownBlock=some b→h'.ownBlock≠some b:=fun y hy Hl b hb fP=>by
  rcases fH with fH|⟨b',fH,dV⟩
  ·exact Hl b hb (by show x.j7.ownBlock=some b;rw [←fH];exact fP)
  ·rw [fH] at fP;cases fP;have:=hold y hy _ hb;omega
 refine⟨g,cap,cs,hv,nC hr c TC,hle,fun w2 X2 c2 uf=>?_⟩;have y8: ∀(j:Nat) (y:Ev),j≠i→es[j]? =some y→ ∀b,y.j7.ownBlock=some b→ ¬dP x.j7 b:=fun j y hj hy b hb fP=>by
  obtain⟨qB,rfl⟩:=List.getElem?_eq_some_iff.1 hy;obtain⟨_,H9⟩:=List.getElem?_eq_some_iff.1 hx;rcases uB hj with cI|WY
  ·exact List.pairwise_iff_getElem.1 h.ap j i qB ug cI b hb (by rw [H9];exact fP)
  ·exact List.pairwise_iff_getElem.1 h.ap i j ug qB WY b (by rw [H9];exact fP) hb
 refine⟨?_,?_,?_⟩
 ·rw [hv];refine Own.wC (cs:=cH cs (i*7+6) [h']) uf ez ?_ (by simp) zQ iK ?_ ?_
  ·intro r jt;obtain⟨y,_,rfl⟩:=List.mem_map.1 jt;rfl
  ·rw [Lt zQ];simpa using o9
  ·rw [Lt zQ,List.take_set,gN,
    TA (k:=7) (o:=6) zQ (r:=x.l) (by intro r jt;obtain⟨y,_,rfl⟩:=List.mem_map.1 jt;rfl) (by rw [dD,hx];rfl),List.map_set]
   rfl
 ·intro y hy;obtain⟨j,hj⟩:=List.mem_iff_getElem?.1 hy;by_cases vY:i=j
  ·subst vY;rw [mP ug] at hj;cases hj;exact dC.dK c2 fun b hb e=>ahU (by rw [hb,e])
  ·rw [nP vY] at hj;have hm:=aH hj;exact(aeZ y hm (y8 j y (Ne.symm vY) hj)).dK c2 fun b hb e=>cn y hm (by rw [hb,e])
 ·refine BL h.ap (fun j z hj hz b hb=>?_) (fun j z hj hz b hb fP=>?_)
  ·exact nJ z (aH hz) (y8 j z zQ hz) b hb
  ·exact nJ z (aH hz) (y8 j z zQ hz) b fP hb
theorem ef.ae0 {w w1:World} {X X1:XS} {lo:Nat} {v:Value} {es:List Ev} {i:Nat} {x:Ev} {TB:List KV} (h:ef w X lo v es) (hx:es[i]? =some x) (c:eo (dP x.j7) X w X1 w1)
  (dC:Own w1 X1 lo 118 4 x.j7 (TB.map KV.l)):ef w1 X1 lo v (es.set i { x with writes:=TB }):=by
 have gY:=aH hx;have ug:=(List.getElem?_eq_some_iff.1 hx).1;have y8: ∀(j:Nat) (y:Ev),j≠i→es[j]? =some y→ ∀b,y.j7.ownBlock=some b→ ¬dP x.j7 b:=fun j y hj hy b hb fP=>by
  obtain⟨qB,rfl⟩:=List.getElem?_eq_some_iff.1 hy;obtain⟨_,H9⟩:=List.getElem?_eq_some_iff.1 hx;rcases uB hj with cI|WY
  ·exact List.pairwise_iff_getElem.1 h.ap j i qB ug cI b hb (by rw [H9];exact fP)
  ·exact List.pairwise_iff_getElem.1 h.ap i j ug qB WY b (by rw [H9];exact fP) hb
 have hl:(es.set i { x with writes:=TB }).map Ev.l=es.map Ev.l:=by
  rw [List.map_set];refine List.ext_getElem? fun j=>?_;rw [List.getElem?_set];split
  ·subst_vars;rw [aA,if_pos ug,dD,hx];rfl
  ·rfl
 refine⟨by rw [hl];exact h.own.dK c fun g hg hb=>jI h.own (h.ws x gY) (by decide) hg hb,fun y hy=>?_,?_⟩
 ·obtain⟨j,hj⟩:=List.mem_iff_getElem?.1 hy;by_cases vY:i=j
  ·subst vY;rw [mP ug] at hj;cases hj;exact dC
  ·rw [nP vY] at hj;exact(h.ws y (aH hj)).dK c (y8 j y (Ne.symm vY) hj)
 ·refine BL h.ap (fun j z hj hz b hb fP=>?_) (fun j z hj hz b hb fP=>?_)
  ·exact y8 j z zQ hz b hb fP
  ·exact y8 j z zQ hz b fP hb
structure qG where
 b6:eh
 aw:aO
 writes:List KV
def Ev.e (x:Ev):qG:=⟨x.b6,x.aw,x.writes⟩
def oW (es:List qG) (f:eM):List qG:=
 match es.getLast? with
 |none=>es++[⟨f.b6,f.aw,f.writes⟩]
 |some e=>if e.b6=f.b6 then es.dropLast++[{ e with writes:=e.writes++f.writes }] else es++[⟨f.b6,f.aw,f.writes⟩]
def ny (l:List eM):List qG:=l.foldl oW []
theorem LI (l:List eM) (f:eM):ny (l++[f])=oW (ny l) f:=by simp [ny]
theorem VU (f:eM):oW [] f=[⟨f.b6,f.aw,f.writes⟩]:=rfl
theorem xe (es:List qG) (e:qG) (f:eM):oW (es++[e]) f=if e.b6=f.b6 then es++[{ e with writes:=e.writes++f.writes }] else es++[e]++[⟨f.b6,f.aw,f.writes⟩]:=by
 simp [oW]
theorem my {α:Type} : ∀l:List α,l=[]∨ ∃l0 a,l=l0++[a]:=fun l=>by
 rcases List.eq_nil_or_concat l with h|⟨l0,a,h⟩
 ·exact .inl h
 ·exact .inr ⟨l0,a,by simpa using h⟩
theorem VV (es:List qG) (f:eM):((oW es f).map fun e=>e.writes.length).sum=(es.map fun e=>e.writes.length).sum+f.writes.length∧(oW es f).length≤es.length+1:=by
 rcases my es with rfl|⟨l0,e,rfl⟩
 ·simp [VU]
 ·rw [xe];split<;>simp<;>omega
theorem u0: ∀(l:List eM) (es:List qG),((l.foldl oW es).map fun e=>e.writes.length).sum=(es.map fun e=>e.writes.length).sum+(l.map fun f=>f.writes.length).sum∧(l.foldl oW es).length≤es.length+l.length
 |[],es=>by simp
 |f::l,es=>by
  rw [List.foldl_cons];have h1:=VV es f;have h2:=u0 l (oW es f);simp only [bC,List.sum_cons,List.length_cons];omega
theorem Jm {α:Type} {g:α→Nat} {a:α} : ∀{l:List α},a∈l→g a≤(l.map g).sum
 |b::l,h=>by
  rw [bC,List.sum_cons];rcases List.mem_cons.1 h with rfl|h
  ·omega
  ·have:=Jm (g:=g) h;omega
theorem Fj {α:Type} {g:α→Nat} (l:List α) (n:Nat):((l.take n).map g).sum≤(l.map g).sum:=by
 conv=>rhs;rw [←cG n l,bp,List.sum_append]
 omega
theorem ae1 {l:List KV} : ∀r∈l.map KV.l,∀u∈r,bB.one u=true:=fun r hr u hu=>by
 obtain⟨y,_,rfl⟩:=List.mem_map.1 hr;simp only [KV.l,List.mem_cons,fW,or_false] at hu;rcases hu with rfl|rfl|rfl|rfl<;>rfl
theorem VW {w:World} {X F:XS} {sb:Nat} {hv:Value} {hl:List FV} {s:aO} (h:gO w F sb hv hl) (hF:FX F X w) (hn:hl.length≤2^39) (ON:(hl.map fun x=>x.2.writes.length).sum≤2^40):
  Ct pg 129 #[ptr sb 0,s.v] w X F fun v wa w'=> ∃F' kg es n,(∀k,F' k→F k∨made wa w' k)∧gO w' F' sb kg (hl.drop n)∧ef w' (made wa w') wa.heap.size v es∧
   n≤hl.length∧(∀x∈hl.take n,x.2.aw.cmp s≤0)∧(∀x,hl[n]? =some x→ ¬x.2.aw.cmp s≤0)∧es.length=(ny ((hl.take n).map (·.2))).length∧(∀b,tm v es b→ ¬F' b)∧
   ∀(i:Nat) e x,(ny ((hl.take n).map (·.2)))[i]? =some e→es[i]? =some x→x.b6=e.b6∧x.aw=e.aw∧x.writes.Perm e.writes:=by
 intro w0 hk;replace h:=h.mv (hF.mv hk);have hT:=hF.ft hk;have lW: ∀k,F k→k<w0.heap.size:=hT.bm;have sh: ∀{w X w' X' G},Ft w0 F w X F→eo G X w X' w'→(∀k,G k→X k∧w0.heap.size≤k)→gO w F sb hv hl→Ft w0 F w' X' F∧gO w' F sb hv hl:=fun hT c hG h=>
  ⟨hT.new.dK c (fun k hk=>.inr (hG k hk)) fun k hk=>.inl (.inl hk),h.mv fun k hk _=>⟨hk,c.block k (hT.bm k hk) fun hg=>by have:=lW k hk;have:=(hG k hg).2;omega⟩⟩
 apply JJ;unfold Ah;refine fT (fun n a b w X=> ∃(i:Nat) (es:List Ev),a=I i∧n=hl.length-i∧i≤hl.length∧Ft w0 F w X F∧gO w F sb hv hl∧ef w X w0.heap.size b es∧
  es.map Ev.e=ny ((hl.take i).map (·.2))∧ ∀x∈hl.take i,x.2.aw.cmp s≤0) hl.length ⟨0,[],rfl,rfl,aL _,hT,h,ef.nil _ _ _,rfl,by simp⟩ ?_
 clear hT h;rintro n a v w X ⟨i,es,rfl,rfl,hi,hT,h,hE,Ai,hup⟩;have hs:=hT.s;have fi:=h.box.mv (Mv.sub hT.bm);have lD:=(h.ow.mono hT.bm).sl;have Ia:=hE.own.sl;have ln:=lD.len;have le:=Ia.len;rcases dX hl i with⟨cI,x,hx,hd⟩|⟨dV,hd⟩;have ox:=(h.ws x (aH hx)).one;have WV:=((h.ws x (aH hx)).mono hT.bm).sl;repeat' first|refine bQ ?_;intros
 refine dJ ?_;repeat' first|refine aG ?_;intros
 refine gh (iw _ _) kQ hs.has ?_;intro w1 X1 ao;have sd:=ao.jQ hT.bm;have dq:=hT.since ao;have h1:=h.mv sd;have x6:=hE.mv ao.mv;have hs:=dq.s;have fi:=h1.box.mv (Mv.sub dq.bm);have lD:=(h1.ow.mono dq.bm).sl;have WV:=((h1.ws x (aH hx)).mono dq.bm).sl;have Ia:=x6.own.sl;clear hT h hE;repeat' first|refine aG ?_;intros|refine dj ?_ ?_<;>intros
 ·refine ir (fun k=> ∀v' w X pN e,Ft w0 F w X F→gO w F sb hv hl→ef w X w0.heap.size v' (pN++[e])→
   (pN++[{ e with writes:=e.writes++x.2.writes }]).map Ev.e=ny ((hl.take (i+1)).map (·.2))→k v' w X) ?_ ?_
  ·intro v' w X pN e hT h hE ae2;have hs:=hT.s;have Ia:=hE.own.sl;have le:=Ia.len;simp only [aA,ae,bF] at le;have Jn:(pN++[e])[pN.length]? =some e:=by simp
   have gY:=aH Jn;rcases hE.own.row with⟨_,XU⟩|⟨g,cap,cs,rfl,ez,bH,jk,iK,o9,gN⟩
   ·simp at XU
   simp only [aA,ae,bF] at*;have ahV: ∃A B,cs=A++e.l++B∧A.length=pN.length*7:=by
    refine⟨(pN.map Ev.l).flatten,cs.drop ((pN.length+1)*7),?_,by rw [gZ (k:=7) (by intro r hr;obtain⟨y,_,rfl⟩:=List.mem_map.1 hr;rfl)];simp⟩;have e1:=(cG ((pN.length+1)*7) cs).symm;rw [gN] at e1;exact e1.trans (by simp)
   obtain⟨A,Z,rfl,hA⟩:=ahV;have ajb:Cells w X g (pN.length*7) e.l:=⟨bH.1,_,_,_,bH.2,fun j u hj=>by
    rw [List.getElem?_toArray,←hA,aC,List.getElem?_append_right zQ,Nat.add_sub_cancel_left,List.getElem?_append_left (List.getElem?_eq_some_iff.1 hj).1];exact hj⟩
   have Nj:(pN++[e]).length=pN.length+1:=by simp
   refine xf Ia kQ ?_;rw [Nj];clear Ia;repeat' first|refine aG ?_;intros
   refine RI (i:=pN.length) zQ zQ kQ kQ ?_;have hwe:=hE.ws e gY;have WV:=((h.ws x (aH hx)).mono hT.bm).sl;have oe:=hwe.sl.one;repeat' first|refine aG ?_;intros
   have hbb:e.writes.length+x.2.writes.length≤2^40:=by
    have h1:=(u0 ((hl.take (i+1)).map (·.2)) []).1;have h2:=Jm (g:=fun e:qG=>e.writes.length) (a:=⟨e.b6,e.aw,e.writes++x.2.writes⟩) (l:=ny ((hl.take (i+1)).map (·.2))) (by rw [←ae2];simp [Ev.e]);have h3:=Fj (g:=fun x:FV=>x.2.writes.length) hl (i+1);simp only [List.map_map,gJ,List.map_nil,List.sum_nil,ed,ae] at h1 h2;unfold ny at h2;omega
   refine rG hwe hT.s.has hT.s.kp.size kQ WV ae1 (by simp only [aA];omega) (by simp only [aA];omega) fun v2 w2 X2 c2 iH ahW=>?_;obtain⟨g',ajz,sc,kg,jt,ahX,Yk⟩:=hE.grow Jn c2 (TB:=e.writes++x.2.writes) (by rw [bp];exact iH) ahW;have Gu:g=g':=by simp only [Value.slice.injEq,az,Addr.mk.injEq] at kg;exact kg.1.1
   subst Gu;have su:=sh hT c2 (fun k ah=>⟨hwe.2.2 k ah,(hwe.ge ah).1⟩) h;have hs:=su.1.s;repeat' first|refine aG ?_;intros
   refine AN (o:=pN.length*7+6) jt zQ kQ (by rw [Nj] at ahX;omega) iH.sl.one su.1.s.has fun w3 X3 c3 pL=>?_;have Nk:=Yk w3 X3 c3 pL;have BM:=sh su.1 c3 (fun k ah=>by subst ah;exact⟨jt.1,ez⟩) su.2;rw [mZ _ _ (bP _),Nat.sub_self,l8] at Nk;have hs:=BM.1.s;repeat' first|refine aG ?_;intros
   refine eR (hl.length-(i+1)) zQ ⟨i+1,_,by simp,rfl,by omega,BM.1,BM.2,Nk,by simpa [Ev.e] using ae2,?_⟩;intro y hy;rw [bg,hx] at hy;rcases List.mem_append.1 hy with hy|hy
   ·exact hup y hy
   ·simp only [iQ,ej] at hy;subst hy;assumption
  ·intro K hK;have hlen:es.length≤i:=by
    have h1:=(u0 ((hl.take i).map (·.2)) []).2;have h2:=congrArg aq Ai;unfold ny at h2;simp only [aA,bI,ed,aX] at h1 h2;omega
   have gN:(hl.take (i+1)).map (·.2)=(hl.take i).map (·.2)++[x.2]:=by rw [bg,hx];simp
   have nK:(∀e,es.getLast? =some e→e.b6≠x.2.b6)→ ∀{w X} {bv:Value} {lo:Nat},aj X1 w1 X w→Own w X lo 69 7 bv [(⟨.slice none 0 0,x.2.b6,x.2.aw,[]⟩:Ev).l]→
     eV pg (Bs F w0 fun v w'=> ∃F' kg es n,(∀k,F' k→F k∨made w0 w' k)∧gO w' F' sb kg (hl.drop n)∧ef w' (made w0 w') w0.heap.size v es∧
  n≤hl.length∧(∀x∈hl.take n,x.2.aw.cmp s≤0)∧(∀x,hl[n]? =some x→ ¬x.2.aw.cmp s≤0)∧es.length=(ny ((hl.take n).map (·.2))).length∧(∀b,tm v es b→ ¬F' b)∧
  ∀(i:Nat) e x,(ny ((hl.take n).map (·.2)))[i]? =some e→es[i]? =some x→x.b6=e.b6∧x.aw=e.aw∧x.writes.Perm e.writes) X w true (ga 63 69 7 72 63 v bv) K:=by
    intro cn w X bv lo ao ho;have cq:=dq.since ao;have sv:=x6.mv ao.mv;have h2:=h1.mv (ao.jQ dq.bm);refine rG sv.own cq.s.has cq.s.kp.size kQ ho.sl (by simp [bB.one]) (by simp only [aA,bF];omega) (by simp only [aA,bF];omega) fun v3 w3 X3 c3 Gv ae3=>?_;have BM:=sh cq c3 (fun k ah=>⟨sv.own.2.2 k ah,(sv.own.ge ah).1⟩) h2;refine hK _ _ _ es ⟨.slice none 0 0,x.2.b6,x.2.aw,[]⟩ BM.1 BM.2 (sv.add c3 Gv) ?_;rw [gN,LI,←Ai];rcases my es with rfl|⟨l0,e,rfl⟩
    ·rfl
    ·rw [bp,bp,l9,l9,xe,if_neg (show¬e.e.b6=x.2.b6 from cn e (by simp))];rfl
   rcases my es with rfl|⟨pN,e,rfl⟩
   ·have Nj:([]:List Ev).length=0:=rfl;repeat' first|refine bQ ?_;intros|(with_reducible apply wX);(case hX=>exact hs.has);(case he=>kernel_rfl);(case hk=>rfl);intro acc w X ao ho;obtain⟨_,_,_,rfl⟩:=ho.sl.form;replace hs:=hs.trans ao
    exact nK (by simp) (by assumption) (by assumption)
   ·have Jn:(pN++[e])[pN.length]? =some e:=by simp
    have Nj:(pN++[e]).length=pN.length+1:=by simp
    have le2:pN.length+1≤i:=by rw [←Nj];exact hlen
    repeat' first|refine bQ ?_;intros|(with_reducible apply aax);(· kernel_rfl);all_goals intros|(with_reducible apply wX);(case hX=>exact hs.has);(case he=>kernel_rfl);(case hk=>rfl);intro acc w X ao ho;obtain⟨_,_,_,rfl⟩:=ho.sl.form;replace hs:=hs.trans ao
    ·exact nK (fun e' BN ht=>by
      simp at BN;subst BN;exact ‹¬(_∧_∧_)› ⟨congrArg (·.iP) ht,congrArg (·.lu) ht,congrArg (·.sq) ht⟩) (by assumption) (by assumption)
    ·refine hK _ _ _ pN e dq h1 x6 ?_;rw [gN,LI,←Ai,bp,bp,l9,l9,xe,if_pos (show e.e.b6=x.2.b6 from by cases hq:e.b6;cases hq2:x.2.b6;simp_all [Ev.e])];rfl
 have hT:=dq;have h:=h1;have hE:=x6;clear dq h1 x6;have nJ: ∀y,hl[i]? =some y→ ¬y.2.aw.cmp s≤0:=fun y hy=>by
  rw [hx] at hy;cases hy;assumption
 clear hx hd cI ox WV
 rotate_left
 have nJ: ∀y,hl[i]? =some y→ ¬y.2.aw.cmp s≤0:=fun y hy=>by
  rw [List.getElem?_eq_none dV] at hy;cases hy
 repeat' first|refine aG ?_;intros|with_reducible apply dJ
 all_goals
  refine hT.call (aaq h.ow hT.bm (fun y hy=>(h.ws y hy).one) hi zQ) kQ (fun k ah=>(h.ow.bm ah).1) ?_;rintro v2 zr w2 X2 ⟨F1,iH,Gf⟩ oU lx cq c2;have hlen:=hT.s.has;have PM: ¬dP hv sb:=fun ah=>h.ow.gi h.box kQ ah;have Ge:=nC (h.box.mv (Mv.sub hT.bm)) c2 PM;repeat' first|refine aG ?_;intros
  refine AN (o:=0) Ge zQ kQ (by simp) iH.one cq.s.has fun w3 X3 c3 pL=>?_;have Nk:=(hE.dK c2 fun k ah=>lW k (h.ow.bm ah).1).dK c3 fun k ah=>by subst ah;exact lW _ h.box.1
  have abE: ∀k,F1 k→X2 k:=fun k ah=>by
   rcases Gf k ah with hb|hm
   ·exact c2.sub k (hT.bm k (h.ow.bm hb).1)
   ·exact lx k hm
  have TD: ∀k,F1 k→X3 k∧k≠sb∧(F k∨made zr w2 k):=fun k ah=>by
   have CJ:k≠sb→X3 k∧k≠sb∧(F k∨made zr w2 k):=fun CJ=>by
    rcases Gf k ah with hb|hm
    ·exact⟨c3.sub k (c2.sub k (hT.bm k (h.ow.bm hb).1)),CJ,.inl (h.ow.bm hb).1⟩
    ·exact⟨c3.sub k (lx k hm),CJ,.inr hm⟩
   refine CJ fun e=>?_;rcases Gf k ah with hb|hm
   ·exact PM (e▸hb)
   ·have:=lW _ h.box.1;have:=hm.1;have:=hT.s.kp.size;omega
  have Ng:=fun (q:Nat) (hq:F q) (h1:q≠sb) (h2: ¬dP hv q)=>(c3.block q (c2.sub q (hT.bm q hq)) h1).trans (c2.block q (hT.bm q hq) h2);have dG:Ft w0 F w3 X3 F:=(cq.less fun k ah=>.inl ah).dK (F':=F) c3 (fun k ah=>by subst ah;exact h.box.1) fun k ah=>.inl ah;have Qu:gO w3 (fun k=>F k∨F1 k) sb v2 (hl.drop i):=by
   refine⟨⟨.inl h.box.1,pL.2⟩,?_,fun x hx=>?_⟩
   ·exact iH.mv fun q hq _=>⟨.inr hq,c3.block q (abE q hq) (TD q hq).2.1⟩
   ·have tN:=h.ws x (ec hx);exact tN.tight.mv fun q hq _=>⟨.inl (tN.bm hq).1,Ng q (tN.bm hq).1 (fun e=>tN.gi h.box kQ (by rw [←e];exact hq)) fun e=>by
     obtain⟨q1,e1⟩:=tN.tag hq;obtain⟨q2,e2⟩:=h.ow.tag e;rw [e1] at e2;simp at e2⟩
  have hB: ∀(t:Nat) y b,es[t]? =some y→y.j7.ownBlock=some b→ ¬F b∧ ¬F1 b:=fun t y b hy hb=>by
   have hg:=(hE.ws y (aH hy)).ge hb;have h1: ¬F b:=fun hf=>by have:=lW b hf;omega
   refine⟨h1,fun hf=>?_⟩;rcases(TD b hf).2.2 with hf|hm
   ·exact h1 hf
   ·have:=hm.1;omega
  have re:es.length≤hl.length:=by
   have h1:=(u0 ((hl.take i).map (·.2)) []).2;have h2:=congrArg aq Ai;unfold ny at h2;simp only [aA,bI,ed,aX] at h1 h2;omega
  have hwl: ∀y∈es,y.writes.length≤2^40:=fun y hy=>by
   have h1:=(u0 ((hl.take i).map (·.2)) []).1;have h2:=Jm (g:=fun e:qG=>e.writes.length) (a:=y.e) (l:=ny ((hl.take i).map (·.2))) (by rw [←Ai];exact List.mem_map.2 ⟨y,hy,rfl⟩);have h3:=Fj (g:=fun x:FV=>x.2.writes.length) hl i;simp only [List.map_map,gJ,List.map_nil,List.sum_nil,ed,Ev.e] at h1 h2;unfold ny at h2;omega
  have hBv: ∀b,v.ownBlock=some b→ ¬F b∧ ¬F1 b:=fun b hb=>by
   have hg:=hE.own.ge hb;have h1: ¬F b:=fun hf=>by have:=lW b hf;omega
   refine⟨h1,fun hf=>?_⟩;rcases(TD b hf).2.2 with hf|hm
   ·exact h1 hf
   ·have:=hm.1;omega
  refine xf Nk.own.sl kQ ?_;refine eA (fun n a w X=> ∃(j:Nat) (WZ:List Ev),a=I j∧n=es.length-j∧j≤es.length∧Ft w0 F w X F∧gO w (fun k=>F k∨F1 k) sb v2 (hl.drop i)∧(∀k,F1 k→X k)∧ef w X w0.heap.size v WZ∧
   WZ.length=es.length∧ ∀(t:Nat) x2,WZ[t]? =some x2→ ∃x1,es[t]? =some x1∧x2.j7=x1.j7∧x2.b6=x1.b6∧x2.aw=x1.aw∧x2.writes.Perm x1.writes) es.length
   ⟨0,es,rfl,rfl,aL _,dG,Qu,fun k hk=>(TD k hk).1,Nk,rfl,fun t x2 h=>⟨x2,h,rfl,rfl,rfl,.refl _⟩⟩ ?_
  rintro n a w4 X4 ⟨j,WZ,rfl,rfl,hj,fk,hH4,Yq,W0,hl4,Yr⟩;have hs:=fk.s;have ajA:=W0.own.sl;rcases dX WZ j with⟨qB,y,hy,_⟩|⟨hjg,_⟩
  ·have hwy:=W0.ws y (aH hy);obtain⟨y1,W1,q1,q2,q3,q4⟩:=Yr j y hy;have wB:y.writes.length≤2^40:=by rw [q4.length_eq];exact hwl y1 (aH W1)
   have oy:=hwy.sl.one;repeat' first|refine bQ ?_;intros
   refine fk.new.call (Ri hwy zQ) kQ (fun k ah=>.inr ⟨hwy.2.2 k ah,(hwy.ge ah).1⟩) ?_;rintro v5 wa5 w5 X5 ⟨rfl,ys,hp,P4⟩ SV SX fU c5;have W2:=W0.ae0 hy c5 (P4.mono fun k ah=>c5.sub k (hwy.2.2 k ah));have hs:=fU.s;repeat' first|refine aG ?_;intros
   refine en (es.length-(j+1)) zQ ⟨j+1,_,by simp,rfl,by omega,fU.less fun k ah=>.inl (.inl ah),hH4.mv fun k ah _=>⟨ah,c5.block k ?_ fun hb=>?_⟩,fun k ah=>c5.sub k (Yq k ah),W2,by rw [List.length_set];exact hl4,fun t x2 Aj=>?_⟩
   ·exact ah.elim (fk.bm k) (Yq k)
   ·have:=hB j y1 k W1 (by rw [←q1];exact hb);exact ah.elim this.1 this.2
   ·by_cases hjt:j=t
    ·subst hjt;rw [mP qB] at Aj;cases Aj;exact⟨y1,W1,q1,q2,q3,hp.trans q4⟩
    ·rw [nP hjt] at Aj;exact Yr t x2 Aj
  ·repeat' first|refine bQ ?_;intros
   refine fk.fin fun wa bD=>⟨fun k=>F k∨F1 k,v2,WZ,i,fun k ah=>?_,hH4.mv fun k ah _=>⟨ah,bD.block k (ah.elim (fk.bm k) (Yq k))⟩,W0.fin bD,hi,hup,nJ,?_,?_,fun t e x he hx=>?_⟩
   ·rcases ah with ah|ah
    ·exact .inl ah
    ·rcases(TD k ah).2.2 with hf|hm
     ·exact .inl hf
     ·have h1:=fk.s.has k (Yq k ah);have h2:=bD.size;have h3:=hm.1;have h4:=hT.s.kp.size;exact .inr ⟨by omega,by omega⟩
   ·rw [hl4,←Ai,aA]
   ·rintro b (hb|⟨x,hx,hb⟩)
    ·exact fun h=>h.elim (hBv b hb).1 (hBv b hb).2
    ·obtain⟨t,ht⟩:=List.mem_iff_getElem?.1 hx;obtain⟨x1,zx,q1,_⟩:=Yr t x ht;have:=hB t x1 b zx (by rw [←q1];exact hb);exact fun h=>h.elim this.1 this.2
   ·obtain⟨x1,zx,q1,q2,q3,q4⟩:=Yr t x hx;rw [←Ai,dD,zx] at he;cases he;exact⟨q2,q3,q4⟩
theorem LJ {P:Program} {kt:TypeId} (h:P.underlying kt=some (.int .i64)) (e:Bool) (n:Nat) (k:Int) (w:World):(fK e (n+1) kt (I k)).run P w= .ok () w:=by simp [fK,run_underlying h]
theorem adC {P:Program} {kt:TypeId} (h:P.underlying kt=some (.int .i64)):sy P kt (fun z:Int=>I z) where
 aI e k w:=LJ h e 9999 k w
 find k l w:=by
  have: ∀(l:List (Go.bB.iD Int)) (i:Nat),iu (.int .i64) (I k) (l.map (kE fun z=>I z)) i=some (ou k l i):=by
   intro l
   induction l with
   |nil=>intro i;rfl
   |cons x r ih=>
    intro i;by_cases hk:k=x.1
    ·simp [iu,kE,Instr.sameNow,ou,hk]
    ·have hb:(k==x.1)=false:=by simpa using hk
     simp [iu,kE,Instr.sameNow,ou,hk,hb,ih]
  simp [Instr.findKey,run_underlying h,this]
 same k:=by simp [Instr.sameBits]
def tX:World→XS→Value→aO→Prop:=fun _ _ v x=>v=x.v
theorem vF:oZ tX:=fun _ _ _ _ _ _ h _=>h
theorem iS:sy pg 3 (fun z:Int=>I z):=adC kQ
structure eZ (w:World) (X:XS) (mb sb fb:Nat) (room:Int) (high:aO) (fs:List (Int×aO)):Prop where
 row:bN w X mb [ptr sb 0,I room,I high.wall,I high.dv,I high.node,.map (some fb)] 128
 m:fL w X nX fb (fun z:Int=>I z) tX fs
theorem eZ.mv {w w':World} {X X':XS} {mb sb fb:Nat} {room:Int} {high:aO} {fs:List (Int×aO)} (h:eZ w X mb sb fb room high fs) (v:Mv X w X' w'):eZ w' X' mb sb fb room high fs:=
 ⟨h.row.mv v,h.m.mv vF v (fun _ hk=>hk.elim)⟩
theorem TE {w:World} {X Y A:XS} {b:Nat} {l:List (Int×aO)} (h:fL w X A b (fun z:Int=>I z) tX l) (hb:Y b):fL w Y A b (fun z:Int=>I z) tX l:=by
 obtain⟨es,c,h1,h2⟩:=h;exact⟨es,c,⟨hb,h1.2⟩,h2⟩
theorem eZ.fb {w:World} {X:XS} {mb sb fb:Nat} {room:Int} {high:aO} {fs:List (Int×aO)} (h:eZ w X mb sb fb room high fs):X fb:=by
 obtain⟨es,c,h1,h2⟩:=h.m;exact h1.1
theorem eZ.ne {w:World} {X:XS} {mb sb fb:Nat} {room:Int} {high:aO} {fs:List (Int×aO)} (h:eZ w X mb sb fb room high fs):mb≠fb:=fun e=>by
 obtain⟨es,c,h1,h2⟩:=h.m;have h3:=h.row.2;have h4:=h1.2.1;rw [←e,h3] at h4;simp at h4
theorem eZ.put {w w':World} {F X X':XS} {mb sb fb:Nat} {room:Int} {high:aO} {fs fs':List (Int×aO)} (h:eZ w F mb sb fb room high fs) (hX: ∀k,F k→X k) (c:eo (· =fb) X w X' w')
  (hm:fL w' X' nX fb (fun z:Int=>I z) tX fs'):eZ w' F mb sb fb room high fs':=
 ⟨⟨h.row.1,(c.block _ (hX _ h.row.1) h.ne).trans h.row.2⟩,TE hm h.fb⟩
theorem LK {w:World} {X:XS} {mb sb fb:Nat} {room r:Int} {high:aO} {fs:List (Int×aO)} (h:eZ w X mb sb fb room high fs):
  Ct pg 53 #[ptr mb 0,I r] w X nX fun v _ _=>v= .tuple #[((getM r fs).getD .zero).v,B (getM r fs).isSome]:=by
 intro w0 hk;replace h:=h.mv hk.cE;have bH:=h.row;apply BO;unfold sY;have hs:=aj.init w0;repeat' first|refine aG ?_;intros
 refine pF (kt:=3) (et:=34) aO.zero.v h.m iS kQ kQ (fun v a hg hv=>?_) (fun hg=>?_)
 ·simp only [tX] at hv;subst hv;repeat' first|refine aG ?_;intros|((first|(with_reducible refine ai hs ?_)|(with_reducible refine ai (bE.trans hs) ?_));intro wa hk;simp [hg])
 ·repeat' first|refine aG ?_;intros|((first|(with_reducible refine ai hs ?_)|(with_reducible refine ai (bE.trans hs) ?_));intro wa hk;simp [hg])
def qi (r:Int) (s:aO) (fs:List (Int×aO)):Int:=
 if r<1∨12<r then 1 else if !s.may then 17 else if(getM r fs).isSome then 9 else 0
theorem TF {w:World} {X F:XS} {mb sb fb:Nat} {room r:Int} {high s:aO} {fs:List (Int×aO)} (h:eZ w F mb sb fb room high fs) (hF:FX F X w):
  Ct pg 68 #[ptr mb 0,I r,s.v] w X F fun v wa w'=>v=I (qi r s fs)∧eZ w' F mb sb fb room high (if qi r s fs=0 then bU r s fs else fs):=by
 intro w0 hk;replace h:=h.mv (hF.mv hk);have hT:=hF.ft hk;have bH:=h.row.mv (Mv.sub hT.bm);have nL: ∀{e:Int} {w X},aj (aR w0) w0 X w→qi r s fs=e→e≠0→fin (Bs F w0 fun v w'=>v=I (qi r s fs)∧eZ w' F mb sb fb room high (if qi r s fs=0 then bU r s fs else fs)) X w (I e):=fun hs he cn=>
  (hT.since hs).fin fun wa bD=>⟨by rw [he],by rw [he,if_neg cn];exact(h.mv (hs.jQ hT.bm)).mv (bD.kf (hT.since hs).bm)⟩
 apply Fk;unfold xg;have hs:=aj.init w0;repeat' first|refine aG ?_;intros
 refine pF (kt:=3) (et:=34) aO.zero.v (h.mv (Mv.sub hT.bm)).m iS kQ kQ (fun v a hg hv=>?_) (fun hg=>?_)
 ·simp only [tX] at hv;subst hv;repeat' first|refine aG ?_;intros|refine dj ?_ ?_<;>intros|((with_reducible refine dI (jf _) ?_ hs.has ?_ ?_);(· kernel_rfl);all_goals (intro _ w X ao;replace hs:=hs.trans ao))|(exact nL hs (by simp_all [qi]<;>omega) (by decide))
 ·repeat' first|refine aG ?_;intros|refine dj ?_ ?_<;>intros|((with_reducible refine dI (jf _) ?_ hs.has ?_ ?_);(· kernel_rfl);all_goals (intro _ w X ao;replace hs:=hs.trans ao))|(exact nL hs (by simp_all [qi]<;>omega) (by decide))
  have dq:=hT.since hs;have h1:=h.mv (hs.jQ hT.bm);refine sU (kt:=3) (et:=34) (a:=s) (h1.mv (Mv.sub dq.bm)).m vF rfl (fun _ hk=>hk.elim) iS kQ hs.has fun w2 X2 c2 pf=>?_;have h2:=h1.put dq.bm c2 pf;have cq:=dq.dK c2 (F':=F) (fun k ah=>by subst ah;exact h.fb) fun k ah=>.inl ah;have he:qi r s fs=0:=by simp_all [qi]
  rw [he];exact cq.fin fun wa bD=>⟨rfl,h2.mv (bD.kf cq.bm)⟩
def BP (r:Int) (s:aO) (fs:List (Int×aO)):Int:=
 match getM r fs with
 |none=>8
 |some _=>if !s.may then 17 else 0
def zN (r:Int) (s:aO) (fs:List (Int×aO)):List (Int×aO):=
 match getM r fs with
 |none=>fs
 |some a=>if !s.may then fs else bU r (a.later s) fs
theorem Nl {w:World} {X F:XS} {mb sb fb:Nat} {room r:Int} {high s:aO} {fs:List (Int×aO)} (h:eZ w F mb sb fb room high fs) (hF:FX F X w):
  Ct pg 81 #[ptr mb 0,I r,s.v] w X F fun v wa w'=>v=I (BP r s fs)∧eZ w' F mb sb fb room high (zN r s fs):=by
 intro w0 hk;replace h:=h.mv (hF.mv hk);have hT:=hF.ft hk;have bH:=h.row.mv (Mv.sub hT.bm);have nL: ∀{e:Int} {w X},aj (aR w0) w0 X w→BP r s fs=e→zN r s fs=fs→fin (Bs F w0 fun v w'=>v=I (BP r s fs)∧eZ w' F mb sb fb room high (zN r s fs)) X w (I e):=fun hs he cn=>
  (hT.since hs).fin fun wa bD=>⟨by rw [he],by rw [cn];exact(h.mv (hs.jQ hT.bm)).mv (bD.kf (hT.since hs).bm)⟩
 apply Cl;unfold tR;have hs:=aj.init w0;repeat' first|refine aG ?_;intros
 refine pF (kt:=3) (et:=34) aO.zero.v (h.mv (Mv.sub hT.bm)).m iS kQ kQ (fun v a hg hv=>?_) (fun hg=>?_)
 ·simp only [tX] at hv;subst hv;repeat' first|refine aG ?_;intros|((with_reducible refine gh (ui _ _) ?_ hs.has ?_);(· kernel_rfl);intro w X ao;replace hs:=hs.trans ao)|((with_reducible refine dI (jf _) ?_ hs.has ?_ ?_);(· kernel_rfl);all_goals (intro _ w X ao;replace hs:=hs.trans ao))|(exact nL hs (by simp_all [BP]) (by simp_all [zN]))
  have dq:=hT.since hs;have h1:=h.mv (hs.jQ hT.bm);refine sU (kt:=3) (et:=34) (a:=a.later s) (h1.mv (Mv.sub dq.bm)).m vF rfl (fun _ hk=>hk.elim) iS kQ hs.has fun w2 X2 c2 pf=>?_;have h2:=h1.put dq.bm c2 pf;have cq:=dq.dK c2 (F':=F) (fun k ah=>by subst ah;exact h.fb) fun k ah=>.inl ah;have he:BP r s fs=0∧zN r s fs=bU r (a.later s) fs:=by simp_all [BP,zN]
  rw [he.1,he.2];exact cq.fin fun wa bD=>⟨rfl,h2.mv (bD.kf cq.bm)⟩
 ·repeat' first|refine aG ?_;intros|(exact nL hs (by simp_all [BP]) (by simp_all [zN]))
end Go.Proofs.YtfndblbeikocdaaGreat
namespace Go.Proofs.YtfndblbeikocdaaGreat
open Go.Proofs.Tryz renaming prog → pg
open Go.bB Go.Maps Go.Shelf
set_option maxRecDepth 100000
set_option maxHeartbeats 1000000
set_option linter.unusedVariables false
set_option linter.unusedSimpArgs false
attribute [local irreducible] un jn aI aT ld1 ek st1 cA cp mE ea mF wh vy gG ga ab ax ay eW eV eU eC eF gE au fin aM aP aF vS y9 gg ix rr wi wj za zc zd fY iy ru wm wo ze zf
theorem adD {w:World} {X:XS} {mb:Nat} :Ct pg 136 #[.map (some mb)] w X nX fun v wa w'=> ∃bx,v= .func (.func 190) #[] #[ptr bx 0]∧bN w' (made wa w') bx [.map (some mb)] 126:=by
 intro w0 hk;apply pH;unfold jR;have hs:=aj.init w0;refine ph rfl hs.has fun bx w1 X1 fi ao bH=>?_;repeat' first|refine aG ?_;intros
 exact ai ao fun wa bD=>⟨bx,rfl,⟨fi,(bH.kp bD).lt⟩,(bH.kp bD).2⟩
theorem aay {w:World} {X A:XS} {mb bx:Nat} {α:Type} {rd:World→XS→Value→α→Prop} {l:List (Int×α)} (h:fL w X A mb Gs rd l) (hb:bN w X bx [.map (some mb)] 126)
  (hs: ∀x∈l,-(2^63)≤x.1∧x.1<2^63) (hl:l.length≤2^40):
  Ct pg 46 #[.func (.func 190) #[] #[ptr bx 0]] w X nX fun v wa w'=>Own w' (made wa w') wa.heap.size 3 1 v ((ig (l.map (·.1))).map I1):=
 Qo h kQ hs hl fun wa hk nn D0 lN=>
  AnyZI.keys_gives (ρ:=Tryz.Qj) { Tryz.agN with } Fence.wide _ trivial rfl zQ bx mb nn D0 wa (hb.kp hk).lt (by have:=(hb.kp hk).2;simp [sx,this]) lN
theorem D7 {w:World} {X:XS} {mb sb fb:Nat} {room:Int} {high:aO} {fs:List (Int×aO)} (h:eZ w X mb sb fb room high fs) (hr: ∀x∈fs,1≤x.1∧x.1≤12) (hl:fs.length≤2^40):
  Ct pg 97 #[ptr mb 0] w X nX fun v wa w'=>Own w' (made wa w') wa.heap.size 3 1 v ((ig (fs.map (·.1))).map I1):=by
 intro w0 hk;replace h:=h.mv hk.cE;have bH:=h.row;apply Dq;unfold uC;have hs:=aj.init w0;repeat' first|refine aG ?_;intros
 refine ep adD kQ hs.has ?_;rintro _ wa w1 X1 ⟨bx,rfl,hb⟩ hle eH ao;have h1:=h.mv ao.mv;refine ep (aay h1.m (hb.mono eH) (fun x hx=>by have:=hr x hx;omega) hl) kQ ao.has ?_;rintro v zr w2 X2 ho oU lx dF;have XI:=ao.kp.size;refine ai (ao.trans dF) fun P9 bD=>?_;have iH:Own w2 X2 w0.heap.size 3 1 v ((ig (fs.map (·.1))).map I1):=ho.up lx zQ;exact(iH.kp bD).tight
end Go.Proofs.YtfndblbeikocdaaGreat
namespace Go.Proofs.YtfndblbeikocdaaGreat
open Go.Proofs.Tryz renaming prog → pg
open Go.bB
set_option maxRecDepth 100000
set_option maxHeartbeats 1000000
set_option linter.unusedVariables false
set_option linter.unusedSimpArgs false
attribute [local irreducible] un jn aI aT ld1 ek st1 cA cp mE ea mF wh vy gG ga ab ax ay eW eV eU eC eF gE au fin aM aP aF vS y9 gg ix rr wi wj za zc zd fY iy ru wm wo ze zf
def tp (fs:List (Int×aO)) (o:Option aO) (r:Int):Option aO:=
 match o with
 |none=>some ((getM r fs).getD .zero)
 |some a=>if((getM r fs).getD .zero).cmp a<0 then some ((getM r fs).getD .zero)else some a
def mV (fs:List (Int×aO)) (rs:List Int):Option aO:=rs.foldl (tp fs) none
def rD (fs:List (Int×aO)):Option aO:=mV fs (ig (fs.map (·.1)))
theorem uD (fs:List (Int×aO)) (rs:List Int) (r:Int):mV fs (rs++[r])=tp fs (mV fs rs) r:=by simp [mV]
theorem yN (fs:List (Int×aO)) (rs:List Int):mV fs rs=none↔rs=[]:=by
 rcases my rs with rfl|⟨l,r,rfl⟩
 ·simp [mV]
 ·rw [uD];cases mV fs l<;>simp [tp]
  split<;>simp
theorem W3 {w:World} {A:XS} {rd:World→XS→Value→aO→Prop} : ∀{es:List (Go.bB.iD Int)} {l:List (Int×aO)},jw w A rd es l→es.length=l.length
 |[],[],_=>rfl
 |_::_,_::_,h=>by simp [W3 h.2.2]
theorem ae4 {w:World} {X:XS} {fb:Nat} {fs:List (Int×aO)} {N:Value→Prop} (h:fL w X nX fb (fun z:Int=>I z) tX fs) (n:N (I fs.length)):
  ab pg X w (fg #[126] 3 #[.map (some fb)]) N:=by
 obtain⟨es,c,h1,h2⟩:=h;refine Bz _ (fun wa hk=>?_) n;have hb:wa.heap[fb]? =some (.map (es.map (kE fun z=>I z)).toArray c):=(hk.block fb h1.1).trans h1.2.1;have hu: ∃a b,pg.underlying 126=some (.map a b):=⟨_,_,rfl⟩;obtain⟨a,b,hu⟩:=hu;simp [fg,Sem.run_bind,run_underlying hu,getObj,Sem.run,hb,W3 h2,goInt]
theorem ae5 {w:World} {X:XS} {fb:Nat} {fs:List (Int×aO)} {r:Int} {N:Value→Prop} (h:fL w X nX fb (fun z:Int=>I z) tX fs) (n:N ((getM r fs).getD .zero).v):
  ab pg X w (Instr.lookup 126 (.map (some fb)) (I r) false) N:=
 np (kt:=3) (et:=34) aO.zero.v h iS kQ kQ (fun v a hg hv=>by simp only [tX] at hv;subst hv;simpa [hg] using n) (fun hg=>by simpa [hg] using n)
theorem zO {w:World} {X:XS} {mb sb fb:Nat} {room:Int} {high:aO} {fs:List (Int×aO)} (h:eZ w X mb sb fb room high fs) (hr: ∀x∈fs,1≤x.1∧x.1≤12) (hl:fs.length≤2^40):
  Ct pg 96 #[ptr mb 0] w X nX fun v _ _=>v= .tuple #[((rD fs).getD .zero).v,B (decide (fs≠[]))]:=by
 intro w0 hk;replace h:=h.mv hk.cE;apply D8;unfold vG;have hs:=aj.init w0;refine ep (D7 h hr hl) kQ hs.has ?_;rintro v wa w1 X1 ho hle eH ao;have CJ:=(ho.mono eH).sl;replace h:=h.mv ao.mv;have bH:=h.row;generalize oR:ig (fs.map (·.1))=rs at CJ ho;have MI:rs.length≤2^40:=by rw [←oR,(l7 _).length_eq,aA];exact hl
 refine xf CJ kQ ?_;refine fT (fun n a b w X=> ∃i:Nat,a=I i∧n=rs.length-i∧i≤rs.length∧aj X1 w1 X w∧b=((mV fs (rs.take i)).getD .zero).v) rs.length ⟨0,rfl,rfl,aL _,aj.iB ao.has,rfl⟩ ?_;clear hs;have bE:=ao;rintro n a b w X ⟨i,rfl,rfl,hi,hs,rfl⟩;have h2:=h.mv hs.mv;have kA:=h2.row;have ajB:=CJ.mv hs.mv;rcases dX rs i with⟨cI,r,hx,hd⟩|⟨dV,hd⟩
 ·have gN:rs.take (i+1)=rs.take i++[r]:=by rw [bg,hx];rfl
  have hz:(mV fs (rs.take i)=none)=(i=0):=by
   rw [yN,eq_iff_iff];constructor
   ·intro e;have:=congrArg aq e;rw [aX,bI] at this;omega
   ·rintro rfl;rfl
  repeat' first|refine bQ ?_;intros|with_reducible apply dJ
  refine ae5 h2.m ?_;generalize fZ:(getM r fs).getD aO.zero=st;cases gC:mV fs (rs.take i)with
  |none=>
   have h0:i=0:=by rw [←hz];exact gC
   subst h0;repeat' first|refine bQ ?_;intros|with_reducible apply dJ
   exact eR (rs.length-(0+1)) zQ ⟨0+1,by simp,rfl,by omega,hs,by rw [gN,uD,gC];simp [tp,fZ]⟩
  |some a=>
   have h0:i≠0:=fun e=>by rw [←hz,gC] at e;cases e
   repeat' first|refine bQ ?_;intros|refine dj ?_ ?_<;>intros|with_reducible apply dJ|((with_reducible refine gh (iw _ _) ?_ hs.has ?_);(· kernel_rfl);intro w X ao;replace hs:=hs.trans ao)
   all_goals exact eR (rs.length-(i+1)) zQ ⟨i+1,by simp,rfl,by omega,by assumption,by rw [gN,uD,gC];simp only [tp,fZ];first|(rw [if_pos (by assumption)];first|done|rfl)|(rw [if_neg (by assumption)];first|done|rfl)⟩
 ·have e1:mV fs (rs.take i)=rD fs:=by rw [ba dV,←oR];rfl
  rw [e1];repeat' first|refine bQ ?_;intros
  have h2:=h.mv hs.mv;refine ae4 h2.m ?_;cases fs with
  |nil=>
   have hz0: ¬(0:Int)<(([]:List (Int×aO)).length:Int):=by simp
   repeat' first|refine bQ ?_;intros|((first|(with_reducible refine ai hs ?_)|(with_reducible refine ai (bE.trans hs) ?_));intro wa hk;simp)
  |cons x l=>
   have Ys:(0:Int)<((x::l).length:Int):=by simp
   repeat' first|refine bQ ?_;intros|((first|(with_reducible refine ai hs ?_)|(with_reducible refine ai (bE.trans hs) ?_));intro wa hk;simp)
end Go.Proofs.YtfndblbeikocdaaGreat
namespace Go.Proofs.YtfndblbeikocdaaGreat
open Go.Proofs.Tryz renaming prog → pg
open Go.bB
theorem rH (a:aO): ¬a.cmp a<0:=by simp [aO.cmp]
theorem D9 (a b:aO):(a.cmp b<0)↔(b.cmp a>0):=by
 simp only [aO.cmp];grind
theorem Nn {a b:aO} (h:a.cmp b<0): ¬b.cmp a<0:=by
 rw [D9] at h;omega
theorem aaz {a b c:aO} (h1:a.cmp b<0) (h2:b.cmp c<0):a.cmp c<0:=by
 simp only [aO.cmp] at*;grind
theorem adE {a b:aO} (h: ¬a.cmp b<0) (cn:a≠b):b.cmp a<0:=by
 have: ¬(a.wall=b.wall∧a.dv=b.dv∧a.node=b.node):=fun e=>cn (aO.ext e.1 e.2.1 e.2.2);simp only [aO.cmp] at*;grind
theorem Qv {a b c:aO} (h1: ¬b.cmp a<0) (h2:b.cmp c<0):a.cmp c<0:=by
 simp only [aO.cmp] at*;grind
theorem Qw {a b c:aO} (h1:a.cmp b<0) (h2: ¬c.cmp b<0):a.cmp c<0:=by
 simp only [aO.cmp] at*;grind
theorem Qx {a b c:aO} (h1: ¬b.cmp a<0) (h2: ¬c.cmp b<0): ¬c.cmp a<0:=fun h=>h2 (Qw h h1)
theorem aaA (a b:aO):a.cmp b≤0↔ ¬b.cmp a<0:=by
 rw [D9];omega
theorem abO (a b:aO): ¬(a.later b).cmp a<0:=by
 unfold aO.later;split
 ·exact Nn (by assumption)
 ·exact rH a
theorem CK {a b:aO} (ha:a.may=true) (hb:b.may=true):(a.later b).may=true:=by
 unfold aO.later;split<;>assumption
theorem aaB (s:aO):s.qP.1.may=true:=by
 unfold aO.qP;by_cases h:(!s.may||decide (s= .zero))=true
 ·rw [if_pos h];rfl
 ·rw [if_neg h];have hm:s.may=true:=by cases hq:s.may<;>simp_all
  have hz:s≠ .zero:=fun e=>h (by simp [e]);have h2: ¬(s.wall=0∧s.dv=0∧s.node=0):=fun e=>hz (aO.ext e.1 e.2.1 e.2.2);rw [aO.Ea] at hm;split
  ·rw [aO.Ea];simp only;omega
  ·split
   ·rw [aO.Ea];simp only;omega
   ·rw [aO.Ea];simp only;omega
structure rS (l:List eM) (high:aO):Prop where
 may: ∀f∈l,f.may=true
 srt:l.Pairwise fun f g=> ¬g.aw.cmp f.aw<0
 ord:l.Pairwise fun f g=> ¬g.cmp f<0
 same: ∀f∈l,∀g∈l,f.b6=g.b6↔f.aw=g.aw
 hi: ∀f∈l,high.cmp f.aw<0
theorem rS.nil (high:aO):rS [] high:=⟨by simp,by simp,by simp,by simp,by simp⟩
theorem adF {x f:eM} (h:x.cmp f<0): ¬f.aw.cmp x.aw<0:=by
 unfold eM.cmp at h;split at h
 ·exact Nn h
 ·have:f.aw.cmp x.aw<0→x.aw.cmp f.aw>0:=fun q=>(D9 _ _).1 q;intro q;have:=this q;omega
theorem adG {x f:eM} (h: ¬x.cmp f<0): ¬x.aw.cmp f.aw<0:=by
 unfold eM.cmp at h;split at h
 ·exact h
 ·omega
theorem adH {x f:eM} (h:x.cmp f<0): ¬f.cmp x<0:=by
 simp only [eM.cmp,aO.cmp] at*;grind
theorem adI {x y f:eM} (h1: ¬y.cmp x<0) (h2:y.cmp f<0):x.cmp f<0:=by
 simp only [eM.cmp,aO.cmp] at*;grind
theorem rS.ins {l:List eM} {high:aO} {f:eM} {i:Nat} (h:rS l high) (lo: ∀x∈l.take i,x.cmp f<0) (hi: ∀x∈l.drop i,¬x.cmp f<0) (hm:f.may=true) (ho:l.any f.zu=false) (hh:high.cmp f.aw<0):
  rS (l.take i++[f]++l.drop i) high:=by
 have gY: ∀x,x∈l.take i++[f]++l.drop i→x=f∨x∈l:=fun x hx=>by
  simp only [List.mem_append,ej] at hx;rcases hx with(hx|hx)|hx
  ·exact .inr (ee hx)
  ·exact .inl hx
  ·exact .inr (ec hx)
 have Dp: ∀x∈l,x.b6=f.b6↔x.aw=f.aw:=fun x hx=>by
  have:=List.any_eq_false.1 ho x hx;unfold eM.zu at this;by_cases h1:x.b6=f.b6<;>by_cases h2:x.aw=f.aw<;>simp_all
 refine⟨fun x hx=>?_,?_,?_,fun x hx y hy=>?_,fun x hx=>?_⟩
 ·rcases gY x hx with rfl|hx
  ·exact hm
  ·exact h.may x hx
 rotate_left
 ·have hs:=h.ord;rw [←cG i l] at hs;obtain⟨s1,s2,s3⟩:=List.pairwise_append.1 hs;rw [aC];refine List.pairwise_append.2 ⟨s1,List.pairwise_cons.2 ⟨hi,s2⟩,fun x hx y hy=>?_⟩;rcases List.mem_cons.1 hy with rfl|hy
  ·exact adH (lo x hx)
  ·exact s3 x hx y hy
 rotate_right
 ·have hs:=h.srt;rw [←cG i l] at hs;obtain⟨s1,s2,s3⟩:=List.pairwise_append.1 hs;rw [aC];refine List.pairwise_append.2 ⟨s1,List.pairwise_cons.2 ⟨fun y hy=>adG (hi y hy),s2⟩,fun x hx y hy=>?_⟩;rcases List.mem_cons.1 hy with rfl|hy
  ·exact adF (lo x hx)
  ·exact s3 x hx y hy
 ·rcases gY x hx with e1|zx<;>rcases gY y hy with e2|W1
  ·rw [e1,e2];simp
  ·have:=Dp y W1;rw [e1];exact⟨fun e=>(this.1 e.symm).symm,fun e=>(this.2 e.symm).symm⟩
  ·rw [e2];exact Dp x zx
  ·exact h.same x zx y W1
 ·rcases gY x hx with rfl|hx
  ·exact hh
  ·exact h.hi x hx
theorem rS.take {l:List eM} {high:aO} (h:rS l high) (n:Nat):rS (l.take n) high:=
 ⟨fun f hf=>h.may f (ee hf),h.srt.sublist (vE n l),h.ord.sublist (vE n l),fun f hf g hg=>h.same f (ee hf) g (ee hg),fun f hf=>h.hi f (ee hf)⟩
structure abP (l:List eM) (g:List qG):Prop where
 up:g.Pairwise fun a b=>a.aw.cmp b.aw<0
 ex: ∀e∈g,e.writes≠[]∧ ∃f∈l,f.aw=e.aw∧f.b6=e.b6
 top: ∀e,g.getLast? =some e→ ∀f∈l,¬e.aw.cmp f.aw<0
 no:g=[]→l=[]
theorem Yt {f:eM} (h:f.may=true):f.writes≠[]:=by
 unfold eM.may at h;simp only [aY,decide_eq_true_eq] at h;exact h.1.2.2.2
theorem rS.gr {high:aO} {l:List eM} (h:rS l high): ∀n,n≤l.length→abP (l.take n) (ny (l.take n))
 |0,_=>by simpa using (⟨by simp [ny],by simp [ny],by simp [ny],by simp⟩:abP [] (ny []))
 |n+1,hn=>by
  have ih:=h.gr n zQ;obtain⟨f,hf⟩: ∃f,l[n]? =some f:=⟨l[n],cd zQ⟩;have ht:l.take (n+1)=l.take n++[f]:=by rw [bg,hf];rfl
  have Qy:=aH hf;have abQ: ∀x∈l.take n,¬f.aw.cmp x.aw<0:=fun x hx=>by
   have h1:=(h.take (n+1)).srt;rw [ht] at h1;exact(List.pairwise_append.1 h1).2.2 x hx f (by simp)
  rw [ht,LI];have nK:(∀e,(ny (l.take n)).getLast? =some e→e.b6≠f.b6)→abP (l.take n++[f]) (ny (l.take n)++[⟨f.b6,f.aw,f.writes⟩]):=fun cn=>by
   refine⟨List.pairwise_append.2 ⟨ih.up,by simp,fun a ha b hb=>?_⟩,fun e he=>?_,fun e he x hx=>?_,by simp⟩
   ·rw [List.mem_singleton.1 hb]
    show a.aw.cmp f.aw<0
    rcases my (ny (l.take n))with h0|⟨l0,z,h0⟩
    ·rw [h0] at ha;simp at ha
    ·have hlz:(ny (l.take n)).getLast? =some z:=by rw [h0];simp
     have hz:z.aw.cmp f.aw<0:=by
      obtain⟨y,hy,h1,h2⟩:=(ih.ex z (by rw [h0];simp)).2;refine adE (by rw [←h1];exact abQ y hy) fun e=>cn z hlz ?_;rw [←h2];exact(h.same y (ee hy) f Qy).2 (h1.trans e.symm)
     have hu:=ih.up;rw [h0] at ha hu;rcases List.mem_append.1 ha with ha|ha
     ·exact aaz ((List.pairwise_append.1 hu).2.2 a ha z (by simp)) hz
     ·rw [List.mem_singleton.1 ha];exact hz
   ·rcases List.mem_append.1 he with he|he
    ·obtain⟨h1,x,hx,h2⟩:=ih.ex e he;exact⟨h1,x,ck _ hx,h2⟩
    ·rw [List.mem_singleton.1 he];exact⟨Yt (h.may f Qy),f,by simp,rfl,rfl⟩
   ·simp only [sW,qD,zv,az] at he;subst he;rcases List.mem_append.1 hx with hx|hx
    ·exact abQ x hx
    ·rw [List.mem_singleton.1 hx];exact rH _
  rcases my (ny (l.take n))with h0|⟨l0,z,h0⟩
  ·rw [h0] at nK⊢;exact nK (by simp)
  ·rw [h0,xe];split
   ·rename_i htx;have pq:z.aw=f.aw:=by
     obtain⟨y,hy,h1,h2⟩:=(ih.ex z (by rw [h0];simp)).2;rw [←h1];exact(h.same y (ee hy) f Qy).1 (h2.trans htx)
    have hu:=ih.up;rw [h0] at hu;obtain⟨u1,u2,u3⟩:=List.pairwise_append.1 hu;refine⟨List.pairwise_append.2 ⟨u1,by simp,fun a ha b hb=>?_⟩,fun e he=>?_,fun e he x hx=>?_,by simp⟩
    ·rw [List.mem_singleton.1 hb];exact u3 a ha z (by simp)
    ·rcases List.mem_append.1 he with he|he
     ·obtain⟨h1,x,hx,h2⟩:=ih.ex e (by rw [h0];exact ck _ he);exact⟨h1,x,ck _ hx,h2⟩
     ·rw [List.mem_singleton.1 he];obtain⟨h1,x,hx,h2⟩:=ih.ex z (by rw [h0];simp);exact⟨by simp [h1],x,ck _ hx,h2⟩
    ·simp only [sW,qD,zv,az] at he;subst he
     show¬z.aw.cmp x.aw<0
     rcases List.mem_append.1 hx with hx|hx
     ·rw [pq];exact abQ x hx
     ·rw [List.mem_singleton.1 hx,pq];exact rH _
   ·rename_i htx;rw [h0] at nK;exact nK fun e he=>by simp at he;subst he;exact htx
def jr (high:aO) (g:List qG):aO:=
 match g.getLast? with
 |none=>high
 |some e=>e.aw
theorem aaC (high:aO):jr high []=high:=rfl
theorem AQ (high:aO) (g:List qG) (e:qG):jr high (g++[e])=e.aw:=by simp [jr]
theorem rS.out {l:List eM} {high s:aO} {n:Nat} (h:rS l high) (hn:n≤l.length) (ez: ∀x∈l.take n,x.aw.cmp s≤0) (hhi: ∀x,l[n]? =some x→ ¬x.aw.cmp s≤0):
  (ny (l.take n)).Pairwise (fun a b=>a.aw.cmp b.aw<0)∧(∀e∈ny (l.take n),high.cmp e.aw<0∧e.writes≠[])∧rS (l.drop n) (jr high (ny (l.take n))):=by
 have g:=h.gr n hn;refine⟨g.up,fun e he=>?_,⟨fun f hf=>h.may f (ec hf),h.srt.sublist (qh n l),h.ord.sublist (qh n l),fun f hf x hx=>h.same f (ec hf) x (ec hx),fun f hf=>?_⟩⟩
 ·obtain⟨h1,f,hf,h2,_⟩:=g.ex e he;exact⟨by rw [←h2];exact h.hi f (ee hf),h1⟩
 ·rcases my (ny (l.take n))with h0|⟨l0,z,h0⟩
  ·rw [h0,aaC];exact h.hi f (ec hf)
  ·rw [h0,AQ];obtain⟨_,y,hy,h1,_⟩:=g.ex z (by rw [h0];simp);have pq: ¬s.cmp z.aw<0:=by rw [←h1,←aaA];exact ez y hy
   have hnl:n<l.length:=by
    rcases Nat.lt_or_ge n l.length with q|q
    ·exact q
    ·rw [List.drop_of_length_le q] at hf;simp at hf
   obtain⟨a,ha⟩: ∃a,l[n]? =some a:=⟨l[n],cd hnl⟩;have hsa:s.cmp a.aw<0:=by
    have:=hhi a ha;rw [aaA] at this;exact Classical.not_not.1 this
   have hd:l.drop n=a::l.drop (n+1):=by
    rw [fM hnl];rw [cd hnl] at ha;cases ha;rfl
   have haf: ¬f.aw.cmp a.aw<0:=by
    have h2:=h.srt.sublist (qh n l);rw [hd] at h2 hf;rcases List.mem_cons.1 hf with rfl|hf
    ·exact rH _
    ·exact(List.pairwise_cons.1 h2).1 f hf
   exact Qw (Qv pq hsa) haf
structure yz (q:List qG) (bA high:aO):Prop where
 up:q.Pairwise fun a b=>a.aw.cmp b.aw<0
 lo: ∀e∈q,bA.cmp e.aw<0∧e.writes≠[]
 hi: ∀e∈q,¬high.cmp e.aw<0
theorem yz.nil (bA high:aO):yz [] bA high:=⟨by simp,by simp,by simp⟩
def gn (bA s:aO):Bool:=decide (s.cmp bA>0)
theorem Qz {bA s:aO} :gn bA s=true↔bA.cmp s<0:=by
 unfold gn;rw [decide_eq_true_eq,D9]
theorem yz.app {q g:List qG} {bA high:aO} (h:yz q bA high) (hu:g.Pairwise fun a b=>a.aw.cmp b.aw<0) (hg: ∀e∈g,high.cmp e.aw<0∧e.writes≠[]):
  yz (q++g.filter fun e=>gn bA e.aw) bA (jr high g):=by
 have hl: ¬(jr high g).cmp high<0∧ ∀e∈g,¬(jr high g).cmp e.aw<0:=by
  rcases my g with rfl|⟨l0,z,rfl⟩
  ·exact⟨rH _,by simp⟩
  ·rw [AQ];refine⟨Nn (hg z (by simp)).1,fun e he=>?_⟩;rcases List.mem_append.1 he with he|he
   ·exact Nn ((List.pairwise_append.1 hu).2.2 e he z (by simp))
   ·rw [List.mem_singleton.1 he];exact rH _
 refine⟨List.pairwise_append.2 ⟨h.up,hu.sublist tO,fun a ha b hb=>Qv (h.hi a ha) (hg b (List.mem_filter.1 hb).1).1⟩,fun e he=>?_,fun e he=>?_⟩
 ·rcases List.mem_append.1 he with he|he
  ·exact h.lo e he
  ·have:=List.mem_filter.1 he;exact⟨Qz.1 this.2,(hg e this.1).2⟩
 ·rcases List.mem_append.1 he with he|he
  ·exact Qx (h.hi e he) hl.1
  ·exact hl.2 e (List.mem_filter.1 he).1
theorem yz.ack {q:List qG} {bA high s:aO} (h:yz q bA high):yz (q.filter fun e=>gn (bA.later s) e.aw) (bA.later s) high:=
 ⟨h.up.sublist tO,fun e he=>⟨Qz.1 (List.mem_filter.1 he).2,(h.lo e (List.mem_filter.1 he).1).2⟩,fun e he=>h.hi e (List.mem_filter.1 he).1⟩
theorem yz.mono {q:List qG} {bA high No:aO} (h:yz q bA high) (hh: ¬No.cmp high<0):yz q bA No:=⟨h.up,h.lo,fun e he=>Qx (h.hi e he) hh⟩
end Go.Proofs.YtfndblbeikocdaaGreat
namespace Go.Proofs.YtfndblbeikocdaaGreat
open Go.Proofs.Tryz renaming prog → pg
open Go.bB
set_option maxRecDepth 100000
set_option maxHeartbeats 1000000
set_option linter.unusedVariables false
set_option linter.unusedSimpArgs false
attribute [local irreducible] un jn aI aT ld1 ek st1 cA cp mE ea mF wh vy gG ga ab ax ay eW eV eU eC eF gE au fin aM aP aF vS y9 gg ix rr wi wj za zc zd fY iy ru wm wo ze zf
structure fQ where
 id:Int
 gb:Int
 aw:aO
 deriving DecidableEq
abbrev fQ.l (x:fQ):List Value:=[I x.id,I x.gb,I x.aw.wall,I x.aw.dv,I x.aw.node]
theorem TG {α:Type} {l:α→List Value} {k:Nat} (hl: ∀y,(l y).length=k) {ys:List α} {i:Nat} {x:α} {Z:List Value} (hi:i<ys.length):cH ((ys.map l).flatten++Z) (i*k) (l x)=((ys.set i x).map l).flatten++Z:=by
 obtain⟨P,y,S,rfl,rfl⟩: ∃P y S,ys=P++y::S∧P.length=i:=⟨ys.take i,ys[i],ys.drop (i+1),by rw [←fM hi,cG],by rw [aX];omega⟩;have hP:((P.map l).flatten).length=P.length*k:=by rw [gZ (k:=k) fun r hr=>by obtain⟨y,_,rfl⟩:=List.mem_map.1 hr;exact hl y];simp
 rw [mZ _ _ (bP _),Nat.sub_self,l8];simp only [bp,bC,gQ,dU];have:=qY (A:=(P.map l).flatten) (B:=l y) (C:=(S.map l).flatten++Z) (vs:=l x) (o:=P.length*k) hP (by rw [hl,hl]);simpa [aC] using this
theorem LL {w:World} {X A:XS} {a:Value} {xs:List Ev} {f:FuncId} {cs:List Value} {p:Ev→Bool} (ha:Sl w X 7 a (xs.map Ev.l)) (hX: ∀k,X k→k<w.heap.size) (hA: ∀k,A k→X k) (hf:enters pg f=true)
  (hp: ∀x∈xs,Ct pg f ((.agg x.l.toArray)::cs).toArray w A nX fun v _ _=>v=B (p x)):
  Ct pg 85 #[a,.func (.func f) #[] cs.toArray] w X nX fun v _ _=>v=I (idxOf p xs):=by
  intro w0 hk;replace ha:=ha.mv hk.cE;replace hp:=fun x hx=>(hp x hx).kp (hk.less hA);replace hA:=fun k ah=>aN (hX k (hA k ah)) hk.size;have gC:=ha.gw;apply qj;unfold kl;have hs:=aj.init w0;repeat' first|refine aG ?_;intros
  refine eA (fun n a w X=> ∃i:Nat,a=I (i:Nat)∧n=(xs).length-i∧i≤(xs).length∧aj (aR w0) w0 X w∧(∀(j:Nat) x,j<i→xs[j]? =some x→p x=false)) (xs).length ⟨0,rfl,rfl,aL _,hs,by simp⟩ ?_;rintro n a w X ⟨i,rfl,rfl,hi,hs,hw⟩;rcases dX (xs) i with⟨cI,x,hx,hd⟩|⟨dV,hd⟩
  ·have DQ:=hp x (aH hx);repeat' first|refine bQ ?_;intros|((first|(with_reducible refine ai hs ?_)|(with_reducible refine ai (bE.trans hs) ?_));intro wa hk;(rw [uX hw hx ‹_›]))|((with_reducible refine en ((xs).length-(i+1)) ?_ ?_);omega;exact⟨i+1,by simp,rfl,by omega,hs,fun j y hj hy=>by rcases Nat.lt_succ_iff_lt_or_eq.1 hj with h|h;exact hw j y h hy;subst h;rw [hx] at hy;cases hy;assumption⟩)|(refine eO (DQ.since (hs.less hA)) hf hs.has ?_ ?_<;>(intro _ w X ao;replace hs:=hs.trans ao))
  ·repeat' first|refine bQ ?_;intros|((first|(with_reducible refine ai hs ?_)|(with_reducible refine ai (bE.trans hs) ?_));intro wa hk;(rw [qQ fun j x hj hx=>hw j x zQ hx]))
theorem JK {w:World} {X A:XS} {a:Value} {xs:List fQ} {f:FuncId} {cs:List Value} {p:fQ→Bool} (ha:Sl w X 5 a (xs.map fQ.l)) (hX: ∀k,X k→k<w.heap.size) (hA: ∀k,A k→X k) (hf:enters pg f=true)
  (hp: ∀x∈xs,Ct pg f ((.agg x.l.toArray)::cs).toArray w A nX fun v _ _=>v=B (p x)):
  Ct pg 86 #[a,.func (.func f) #[] cs.toArray] w X nX fun v _ _=>v=I (idxOf p xs):=by
  intro w0 hk;replace ha:=ha.mv hk.cE;replace hp:=fun x hx=>(hp x hx).kp (hk.less hA);replace hA:=fun k ah=>aN (hX k (hA k ah)) hk.size;have gC:=ha.gw;apply qk;unfold km;have hs:=aj.init w0;repeat' first|refine aG ?_;intros
  refine eA (fun n a w X=> ∃i:Nat,a=I (i:Nat)∧n=(xs).length-i∧i≤(xs).length∧aj (aR w0) w0 X w∧(∀(j:Nat) x,j<i→xs[j]? =some x→p x=false)) (xs).length ⟨0,rfl,rfl,aL _,hs,by simp⟩ ?_;rintro n a w X ⟨i,rfl,rfl,hi,hs,hw⟩;rcases dX (xs) i with⟨cI,x,hx,hd⟩|⟨dV,hd⟩
  ·have DQ:=hp x (aH hx);repeat' first|refine bQ ?_;intros|((first|(with_reducible refine ai hs ?_)|(with_reducible refine ai (bE.trans hs) ?_));intro wa hk;(rw [uX hw hx ‹_›]))|((with_reducible refine en ((xs).length-(i+1)) ?_ ?_);omega;exact⟨i+1,by simp,rfl,by omega,hs,fun j y hj hy=>by rcases Nat.lt_succ_iff_lt_or_eq.1 hj with h|h;exact hw j y h hy;subst h;rw [hx] at hy;cases hy;assumption⟩)|(refine eO (DQ.since (hs.less hA)) hf hs.has ?_ ?_<;>(intro _ w X ao;replace hs:=hs.trans ao))
  ·repeat' first|refine bQ ?_;intros|((first|(with_reducible refine ai hs ?_)|(with_reducible refine ai (bE.trans hs) ?_));intro wa hk;(rw [qQ fun j x hj hx=>hw j x zQ hx]))
theorem JL {w:World} {X A:XS} {lo:Nat} {v:Value} {xs:List Ev} {f:FuncId} {cs:List Value} {p:Ev→Bool} (own:Own w X lo 69 7 v (xs.map Ev.l)) (hX: ∀k,X k→k<w.heap.size)
  (hA: ∀k,A k→X k∧ ¬dP v k) (hf:enters pg f=true) (tW: ∀x∈xs,bB.one x.j7=true)
  (hp: ∀x∈xs,Ct pg f ((.agg x.l.toArray)::cs).toArray w A nX fun v _ _=>v=B (p x)):
  Ct pg 32 #[v,.func (.func f) #[] cs.toArray] w X (dP v) fun v' _ w'=>
   Own w' (dP v) lo 69 7 v' ((xs.filter fun x=>!p x).map Ev.l)∧v'.ownBlock=v.ownBlock:=by
  intro w0 hk;have Ws:=hp;replace own:=own.mv hk.cE;replace hp:=fun x hx=>(hp x hx).kp (hk.less fun k h=>(hA k h).1);replace hA: ∀k,A k→out (dP v) w0 k:=fun k ah=>⟨aN (hX k (hA k ah).1) hk.size,(hA k ah).2⟩;have gC:=own.sl.gw;apply pQ;unfold j8;have hs:=aj.out (dP v) w0;refine dH (LL own.sl hs.has (fun k h=>(hA k h).1) hf hp) kQ hs.has fun w X ao=>?_;have wy:=own.since ao;replace hs:=hs.trans ao;repeat' first|refine aG ?_;intros|refine dj ?_ ?_<;>intros
  ·have hi:= ‹idxOf p xs= -1›;refine nB hs fun wa hk=>⟨?_,rfl⟩;have qb: ∀x∈xs,p x=false:=by
    have:=qw p xs;rw [hi] at this;intro x hx;have h2:xs.any p=false:=this.symm;simpa using List.any_eq_false.1 h2 x hx
   have:xs.filter (fun x=>!p x)=xs:=List.filter_eq_self.2 fun x hx=>by simp [qb x hx]
   rw [this];exact⟨wy.1,(wy.kp hk).2.1,fun g hg=>hg⟩
  ·obtain⟨i0,x0,Z8,ML,Sx,Sy⟩:=AH ‹¬idxOf p xs= -1›;have Sz:i0<xs.length:=(List.getElem?_eq_some_iff.1 ML).1;rw [Z8];rcases wy.row with⟨_,he⟩|⟨g,cap,cells,hv,ez,bH,jk,iK,o9,gN⟩
   ·have:xs=[]:=by simpa using he
    subst this;simp at Sz
   rw [aA] at hv jk gN;subst hv;have hlk: ∀y:Ev,y.l.length=7:=fun _=>rfl;have fF: ∀ys:List Ev,((ys.map Ev.l).flatten).length=ys.length*7:=fun ys=>by rw [gZ (k:=7) fun r hr=>by obtain⟨y,_,rfl⟩:=List.mem_map.1 hr;rfl];simp
   have hblk: ∀k,dP (.slice (some ⟨g,0,none⟩) xs.length cap) k↔k=g:=fun k=>⟨fun h=>by simpa [dP,dY] using h.symm,fun h=>by subst h;rfl⟩;obtain⟨Z,rfl⟩: ∃Z,cells=(xs.map Ev.l).flatten++Z:=⟨cells.drop (xs.length*7),by rw [←gN,cG]⟩;have hZ:Z.length=(cap-xs.length)*7:=by rw [ae,fF] at o9;omega
   clear own wy gN o9;repeat' first|refine aG ?_;intros
   refine fT (fun n a b w X=> ∃(j i:Nat) (ys:List Ev),a=I j∧b=I i∧n=xs.length-j∧i<j∧j≤xs.length∧ys.length=xs.length∧ys.take i=(xs.take j).filter (fun x=>!p x)∧ys.drop j=xs.drop j∧(∀y∈ys,y∈xs)∧
    aj (out (dP (.slice (some ⟨g,0,none⟩) xs.length cap)) w0) w0 X w∧bN w X g ((ys.map Ev.l).flatten++Z) 69)
    (xs.length-(i0+1)) ⟨i0+1,i0,xs,by simp,rfl,rfl,by omega,by omega,rfl,?_,rfl,fun _ h=>h,hs,bH⟩ ?_
   ·rw [bg,ML];simp only [iQ,ei,eP,Sx,Bool.not_true,bc,if_false,x8,fE];exact(List.filter_eq_self.2 fun y hy=>by simp [Sy y hy]).symm
   rintro n a b w X ⟨j,i,ys,rfl,rfl,rfl,y8,hj,wB,sf,Cv,hym,hs,bH⟩;have SA:Own w X lo 69 7 (.slice (some ⟨g,0,none⟩) xs.length cap) (ys.map Ev.l):=
    Own.wC bH ez (fun r hr=>by obtain⟨y,_,rfl⟩:=List.mem_map.1 hr;rfl) (by simpa using wB) jk iK (by rw [ae,fF,hZ,wB];omega) (by rw [iF (by rw [fF];omega),ba (by rw [fF];omega)])
   rcases dX xs j with⟨cI,x,hx,hd⟩|⟨dV,hd⟩
   ·have hy:ys[j]? =some x:=by
     have:(ys.drop j)[0]? =some x:=by rw [Cv,hd];rfl
     simpa using this
    have ox:=tW x (aH hx);have DQ:=hp x (aH hx);have PT:ys.drop (j+1)=xs.drop (j+1):=by
     have:=congrArg List.tail Cv;simpa using this
    repeat' first|refine bQ ?_;intros|with_reducible apply dJ|(refine eO (DQ.since (hs.less hA)) hf hs.has ?_ ?_<;>(intro _ w X ao;replace hs:=hs.trans ao;clear SA))
    ·refine eR (xs.length-(j+1)) zQ ⟨j+1,i,ys,by simp,rfl,rfl,by omega,by omega,wB,?_,PT,hym,hs,bH.since (by assumption)⟩;rw [bg,hx,sf];simp [*]
    ·have Z9:= ‹p x=false›;have kA:=bH.since (by assumption);refine RI (i:=i) rfl zQ kQ kQ ?_;refine qS kA kQ (by rw [ae,fF];omega) rfl (by show(true&&(true&&(true&&(true&&(true&&(true&&(bB.one x.j7&&true)))))))=true;rw [ox];rfl) hs.has fun w3 X3 hc iq=>?_;have dZ:=hs.dK hc fun k hk e=>hk.2 ((hblk k).2 e);replace iq:bN w3 X3 g (((ys.set i x).map Ev.l).flatten++Z) 69:=by
      rw [←TG hlk zQ];exact iq
     replace hs:=dZ;repeat' first|refine aG ?_;intros
     have ug:i<ys.length:=by omega
     refine eR (xs.length-(j+1)) zQ ⟨j+1,i+1,ys.set i x,by simp,by simp,rfl,by omega,by omega,by simpa using wB,?_,?_,fun y hy'=>?_,hs,iq⟩
     ·rw [bg (l:=xs),hx,ei,←sf];have:(ys.set i x).take (i+1)=ys.take i++[x]:=by
       rw [bg,tP (bP _)];simp [ug]
      rw [this];simp [Z9]
     ·rw [tQ zQ];exact PT
     ·rcases lz hy' with h|rfl
      ·exact hym y h
      ·exact aH hx
   ·have WB:i≤xs.length:=by omega
    have uh:ys.take i=xs.filter fun x=>!p x:=by rw [sf,ba dV]
    repeat' first|refine bQ ?_;intros
    refine SB (k:=7) (i:=i) rfl WB jk kQ kQ ?_;rw [if_neg (show¬cap=i by omega)];refine LF (k:=7) (bytes:=72) (e:=69) bH kQ kQ zQ (by rw [ae,fF];omega) hs.has fun w3 X3 zs D6 hc iq=>?_;have dZ:=hs.dK hc fun k hk e=>hk.2 ((hblk k).2 e);refine zh (i:=i) rfl zQ kQ kQ ?_;refine nB dZ fun wa bD=>⟨?_,rfl⟩;have hlen:(xs.filter fun x=>!p x).length=i:=by rw [←uh,aX];omega
    have Ib:(ys.map Ev.l).flatten=((ys.take i).map Ev.l).flatten++((ys.drop i).map Ev.l).flatten:=by rw [←gQ,←bp,cG]
    have Ic:(((ys.take i).map Ev.l).flatten).length=i*7:=by rw [fF,aX];omega
    have hBl:(((ys.drop i).map Ev.l).flatten).length=(xs.length-i)*7:=by rw [fF,dR,wB]
    rw [Ib,qY Ic (by rw [hBl,D6]),uh] at iq;rw [uh] at Ic;have:=Own.wC (k:=7) (lo:=lo) (cap:=cap) (n:=i) (rows:=(xs.filter fun x=>!p x).map Ev.l) (iq.kp bD) ez (fun r hr=>by obtain⟨y,_,rfl⟩:=List.mem_map.1 hr;rfl) (by simpa using hlen) zQ iK (by
      simp only [ae,Ic,D6,hZ];omega) (by
      rw [aC,iF (by rw [Ic];omega),ba (by rw [Ic];omega)])
    exact⟨this.1,this.2.1,fun g' gA=>gA⟩
theorem Ie {w:World} {X A:XS} {lo:Nat} {v:Value} {xs:List fQ} {f:FuncId} {cs:List Value} {p:fQ→Bool} (own:Own w X lo 102 5 v (xs.map fQ.l)) (hX: ∀k,X k→k<w.heap.size)
  (hA: ∀k,A k→X k∧ ¬dP v k) (hf:enters pg f=true)
  (hp: ∀x∈xs,Ct pg f ((.agg x.l.toArray)::cs).toArray w A nX fun v _ _=>v=B (p x)) (tW: ∀x∈xs,True:=fun _ _=>trivial):
  Ct pg 35 #[v,.func (.func f) #[] cs.toArray] w X (dP v) fun v' _ w'=>
   Own w' (dP v) lo 102 5 v' ((xs.filter fun x=>!p x).map fQ.l)∧v'.ownBlock=v.ownBlock:=by
  intro w0 hk;have Ws:=hp;replace own:=own.mv hk.cE;replace hp:=fun x hx=>(hp x hx).kp (hk.less fun k h=>(hA k h).1);replace hA: ∀k,A k→out (dP v) w0 k:=fun k ah=>⟨aN (hX k (hA k ah).1) hk.size,(hA k ah).2⟩;have gC:=own.sl.gw;apply pR;unfold j9;have hs:=aj.out (dP v) w0;refine dH (JK own.sl hs.has (fun k h=>(hA k h).1) hf hp) kQ hs.has fun w X ao=>?_;have wy:=own.since ao;replace hs:=hs.trans ao;repeat' first|refine aG ?_;intros|refine dj ?_ ?_<;>intros
  ·have hi:= ‹idxOf p xs= -1›;refine nB hs fun wa hk=>⟨?_,rfl⟩;have qb: ∀x∈xs,p x=false:=by
    have:=qw p xs;rw [hi] at this;intro x hx;have h2:xs.any p=false:=this.symm;simpa using List.any_eq_false.1 h2 x hx
   have:xs.filter (fun x=>!p x)=xs:=List.filter_eq_self.2 fun x hx=>by simp [qb x hx]
   rw [this];exact⟨wy.1,(wy.kp hk).2.1,fun g hg=>hg⟩
  ·obtain⟨i0,x0,Z8,ML,Sx,Sy⟩:=AH ‹¬idxOf p xs= -1›;have Sz:i0<xs.length:=(List.getElem?_eq_some_iff.1 ML).1;rw [Z8];rcases wy.row with⟨_,he⟩|⟨g,cap,cells,hv,ez,bH,jk,iK,o9,gN⟩
   ·have:xs=[]:=by simpa using he
    subst this;simp at Sz
   rw [aA] at hv jk gN;subst hv;have hlk: ∀y:fQ,y.l.length=5:=fun _=>rfl;have fF: ∀ys:List fQ,((ys.map fQ.l).flatten).length=ys.length*5:=fun ys=>by rw [gZ (k:=5) fun r hr=>by obtain⟨y,_,rfl⟩:=List.mem_map.1 hr;rfl];simp
   have hblk: ∀k,dP (.slice (some ⟨g,0,none⟩) xs.length cap) k↔k=g:=fun k=>⟨fun h=>by simpa [dP,dY] using h.symm,fun h=>by subst h;rfl⟩;obtain⟨Z,rfl⟩: ∃Z,cells=(xs.map fQ.l).flatten++Z:=⟨cells.drop (xs.length*5),by rw [←gN,cG]⟩;have hZ:Z.length=(cap-xs.length)*5:=by rw [ae,fF] at o9;omega
   clear own wy gN o9;repeat' first|refine aG ?_;intros
   refine fT (fun n a b w X=> ∃(j i:Nat) (ys:List fQ),a=I j∧b=I i∧n=xs.length-j∧i<j∧j≤xs.length∧ys.length=xs.length∧ys.take i=(xs.take j).filter (fun x=>!p x)∧ys.drop j=xs.drop j∧(∀y∈ys,y∈xs)∧
    aj (out (dP (.slice (some ⟨g,0,none⟩) xs.length cap)) w0) w0 X w∧bN w X g ((ys.map fQ.l).flatten++Z) 102)
    (xs.length-(i0+1)) ⟨i0+1,i0,xs,by simp,rfl,rfl,by omega,by omega,rfl,?_,rfl,fun _ h=>h,hs,bH⟩ ?_
   ·rw [bg,ML];simp only [iQ,ei,eP,Sx,Bool.not_true,bc,if_false,x8,fE];exact(List.filter_eq_self.2 fun y hy=>by simp [Sy y hy]).symm
   rintro n a b w X ⟨j,i,ys,rfl,rfl,rfl,y8,hj,wB,sf,Cv,hym,hs,bH⟩;have SA:Own w X lo 102 5 (.slice (some ⟨g,0,none⟩) xs.length cap) (ys.map fQ.l):=
    Own.wC bH ez (fun r hr=>by obtain⟨y,_,rfl⟩:=List.mem_map.1 hr;rfl) (by simpa using wB) jk iK (by rw [ae,fF,hZ,wB];omega) (by rw [iF (by rw [fF];omega),ba (by rw [fF];omega)])
   rcases dX xs j with⟨cI,x,hx,hd⟩|⟨dV,hd⟩
   ·have hy:ys[j]? =some x:=by
     have:(ys.drop j)[0]? =some x:=by rw [Cv,hd];rfl
     simpa using this
    have ox:=tW x (aH hx);have DQ:=hp x (aH hx);have PT:ys.drop (j+1)=xs.drop (j+1):=by
     have:=congrArg List.tail Cv;simpa using this
    repeat' first|refine bQ ?_;intros|with_reducible apply dJ|(refine eO (DQ.since (hs.less hA)) hf hs.has ?_ ?_<;>(intro _ w X ao;replace hs:=hs.trans ao;clear SA))
    ·refine eR (xs.length-(j+1)) zQ ⟨j+1,i,ys,by simp,rfl,rfl,by omega,by omega,wB,?_,PT,hym,hs,bH.since (by assumption)⟩;rw [bg,hx,sf];simp [*]
    ·have Z9:= ‹p x=false›;have kA:=bH.since (by assumption);refine RI (i:=i) rfl zQ kQ kQ ?_;refine qS kA kQ (by rw [ae,fF];omega) rfl (rfl) hs.has fun w3 X3 hc iq=>?_;have dZ:=hs.dK hc fun k hk e=>hk.2 ((hblk k).2 e);replace iq:bN w3 X3 g (((ys.set i x).map fQ.l).flatten++Z) 102:=by
      rw [←TG hlk zQ];exact iq
     replace hs:=dZ;repeat' first|refine aG ?_;intros
     have ug:i<ys.length:=by omega
     refine eR (xs.length-(j+1)) zQ ⟨j+1,i+1,ys.set i x,by simp,by simp,rfl,by omega,by omega,by simpa using wB,?_,?_,fun y hy'=>?_,hs,iq⟩
     ·rw [bg (l:=xs),hx,ei,←sf];have:(ys.set i x).take (i+1)=ys.take i++[x]:=by
       rw [bg,tP (bP _)];simp [ug]
      rw [this];simp [Z9]
     ·rw [tQ zQ];exact PT
     ·rcases lz hy' with h|rfl
      ·exact hym y h
      ·exact aH hx
   ·have WB:i≤xs.length:=by omega
    have uh:ys.take i=xs.filter fun x=>!p x:=by rw [sf,ba dV]
    repeat' first|refine bQ ?_;intros
    refine SB (k:=5) (i:=i) rfl WB jk kQ kQ ?_;rw [if_neg (show¬cap=i by omega)];refine LF (k:=5) (bytes:=40) (e:=102) bH kQ kQ zQ (by rw [ae,fF];omega) hs.has fun w3 X3 zs D6 hc iq=>?_;have dZ:=hs.dK hc fun k hk e=>hk.2 ((hblk k).2 e);refine zh (i:=i) rfl zQ kQ kQ ?_;refine nB dZ fun wa bD=>⟨?_,rfl⟩;have hlen:(xs.filter fun x=>!p x).length=i:=by rw [←uh,aX];omega
    have Ib:(ys.map fQ.l).flatten=((ys.take i).map fQ.l).flatten++((ys.drop i).map fQ.l).flatten:=by rw [←gQ,←bp,cG]
    have Ic:(((ys.take i).map fQ.l).flatten).length=i*5:=by rw [fF,aX];omega
    have hBl:(((ys.drop i).map fQ.l).flatten).length=(xs.length-i)*5:=by rw [fF,dR,wB]
    rw [Ib,qY Ic (by rw [hBl,D6]),uh] at iq;rw [uh] at Ic;have:=Own.wC (k:=5) (lo:=lo) (cap:=cap) (n:=i) (rows:=(xs.filter fun x=>!p x).map fQ.l) (iq.kp bD) ez (fun r hr=>by obtain⟨y,_,rfl⟩:=List.mem_map.1 hr;rfl) (by simpa using hlen) zQ iK (by
      simp only [ae,Ic,D6,hZ];omega) (by
      rw [aC,iF (by rw [Ic];omega),ba (by rw [Ic];omega)])
    exact⟨this.1,this.2.1,fun g' gA=>gA⟩
def RP (sb:Nat) (hv:Value) (hl:List FV):XS:=fun k=>k=sb∨dP hv k∨ ∃x∈hl,dP x.1 k
theorem gO.tight {w:World} {F:XS} {sb:Nat} {hv:Value} {hl:List FV} (h:gO w F sb hv hl):gO w (RP sb hv hl) sb hv hl:=
 ⟨⟨.inl rfl,h.box.2⟩,h.ow.tight.mono fun k hk=>.inr (.inl hk),fun x hx=>(h.ws x hx).tight.mono fun k hk=>.inr (.inr ⟨x,hx,hk⟩)⟩
theorem gO.sub {w:World} {F:XS} {sb:Nat} {hv:Value} {hl:List FV} (h:gO w F sb hv hl): ∀k,RP sb hv hl k→F k:=fun k hk=>by
 rcases hk with rfl|hk|⟨x,hx,hk⟩
 ·exact h.box.1
 ·exact(h.ow.bm hk).1
 ·exact((h.ws x hx).bm hk).1
structure gD (w:World) (F:XS) (mb sb fb:Nat) (hv:Value) (room:Int) (high:aO) (fs:List (Int×aO)) (hl:List FV):Prop where
 m:eZ w F mb sb fb room high fs
 h:gO w F sb hv hl
section
variable {w : World} {F : XS} {mb sb fb : Nat} {hv : Value} {room : Int} {high : aO} {fs : List (Int × aO)} {hl : List FV}
theorem gD.mv (h:gD w F mb sb fb hv room high fs hl) {w':World} {F':XS} (v:Mv F w F' w'):gD w' F' mb sb fb hv room high fs hl:=⟨h.m.mv v,h.h.mv v⟩
theorem gD.apM (h:gD w F mb sb fb hv room high fs hl): ¬RP sb hv hl mb:=fun hk=>by
 rcases hk with e|hk|⟨x,hx,hk⟩
 ·exact h.h.box.gi h.m.row kQ e.symm
 ·exact h.h.ow.gi h.m.row kQ hk
 ·exact(h.h.ws x hx).gi h.m.row kQ hk
theorem gD.apF (h:gD w F mb sb fb hv room high fs hl): ¬RP sb hv hl fb:=fun hk=>by
 rcases hk with e|hk|⟨x,hx,hk⟩
 ·exact h.m.m.gi h.h.box e
 ·exact h.m.m.OC h.h.ow hk
 ·exact h.m.m.OC (h.h.ws x hx) hk
end
theorem eZ.Fl {w w':World} {F F' X X' G:XS} {mb sb fb:Nat} {room:Int} {high:aO} {fs:List (Int×aO)} (h:eZ w F mb sb fb room high fs) (hX: ∀k,F k→X k) (c:eo G X w X' w') (h1: ¬G mb) (h2: ¬G fb) (hF: ∀k,F k→F' k):
  eZ w' F' mb sb fb room high fs:=
 ⟨⟨hF _ h.row.1,(c.block _ (hX _ h.row.1) h1).trans h.row.2⟩,by
  obtain⟨es,q,a1,a2⟩:=h.m;exact⟨es,q,⟨hF _ a1.1,(c.block _ (hX _ a1.1) h2).trans a1.2.1,a1.2.2⟩,a2.mv vF fun _ hk=>hk.elim⟩⟩
def Yu (hl:List FV) (s:aO) (es:List Ev) (n:Nat):Prop:=
 n≤hl.length∧(∀x∈hl.take n,x.2.aw.cmp s≤0)∧(∀x,hl[n]? =some x→ ¬x.2.aw.cmp s≤0)∧es.length=(ny ((hl.take n).map (·.2))).length∧
  ∀(i:Nat) e x,(ny ((hl.take n).map (·.2)))[i]? =some e→es[i]? =some x→x.b6=e.b6∧x.aw=e.aw∧x.writes.Perm e.writes
def xh (high:aO) (es:List Ev):aO:=
 match es.getLast? with
 |none=>high
 |some e=>e.aw
theorem Yv (high:aO) (es:List Ev) (e:Ev):xh high (es++[e])=e.aw:=by simp [xh]
theorem TH {w:World} {X F:XS} {mb sb fb:Nat} {hv:Value} {room:Int} {high:aO} {fs:List (Int×aO)} {hl:List FV} (h:gD w F mb sb fb hv room high fs hl) (hF:FX F X w)
  (hr: ∀x∈fs,1≤x.1∧x.1≤12) (fF:fs.length≤2^40) (cn:fs≠[]) (hn:hl.length≤2^39) (ON:(hl.map fun x=>x.2.writes.length).sum≤2^40):
  Ct pg 83 #[ptr mb 0] w X F fun v wa w'=> ∃F' kg es n,(∀k,F' k→F k∨made wa w' k)∧gD w' F' mb sb fb kg room (xh high es) fs (hl.drop n)∧
   ef w' (made wa w') wa.heap.size v es∧(∀b,tm v es b→ ¬F' b)∧Yu hl ((rD fs).getD .zero) es n:=by
 intro w0 hk;replace h:=h.mv (hF.mv hk);have hT:=hF.ft hk;apply Fm;unfold xi;have hs:=aj.init w0;refine ep (zO (h.m.mv (Mv.sub hT.bm)) hr fF) kQ hT.s.has ?_;rintro v wa w1 X1 rfl hle eH ao;replace hs:=hs.trans ao;have dq:=hT.since ao;have h1:=h.mv (ao.jQ hT.bm);have hd:decide (fs≠[])=true:=by simpa using cn
 rw [hd];have bH:=h1.m.row.mv (Mv.sub dq.bm);generalize (rD fs).getD aO.zero=s;repeat' first|refine aG ?_;intros
 refine dq.call (VW h1.h.tight (dq.fx h1.h.sub) hn ON) kQ h1.h.sub ?_;rintro v2 zr w2 X2 ⟨FH,kg,es,n,hFH,hH2,sv,q1,q2,q3,q4,q5,q6⟩ oU lx cq c2;have W4:eZ w2 (fun k=>F k∨FH k) mb sb fb room high fs:=h1.m.Fl dq.bm c2 h1.apM h1.apF fun k ah=>.inl ah;have su: ∀k,FH k→F k∨made zr w2 k:=fun k ah=>(hFH k ah).imp (h1.h.sub k) id;have ux: ∀k,(F k∨FH k)→F k∨made zr w2 k:=fun k ah=>ah.elim .inl (su k);have TJ:gO w2 (fun k=>F k∨FH k) sb kg (hl.drop n):=hH2.mv (Mv.sub fun k ah=>.inr ah);have hEF: ∀b,tm v2 es b→ ¬(F b∨FH b):=fun b hb hf=>by
  have dV:w1.heap.size≤b∧made zr w2 b:=by
   rcases hb with hb|⟨x,hx,hb⟩
   ·have h9:=sv.own.ge hb;exact⟨af oU h9.1,h9.1,h9.2⟩
   ·have h9:=(sv.ws x hx).ge hb;exact⟨af oU h9.1,h9.1,h9.2⟩
  rcases hf with hf|hf
  ·have:=dq.s.has b (dq.bm b hf);have:=dV.1;omega
  ·exact q5 b hb hf
 have abR:ef w2 X2 w0.heap.size v2 es:=⟨sv.own.up lx (af dq.s.kp.size oU),fun x hx=>(sv.ws x hx).up lx (af dq.s.kp.size oU),sv.ap⟩;have lD:=abR.own.sl;have lv:=lD.len;rw [aA] at lv;have Np: ∀k,(F k∨FH k)→X2 k:=fun k ah=>(ux k ah).elim (fun hf=>c2.sub k (dq.bm k hf)) (lx k);have fN:w0.heap.size≤zr.heap.size:=af dq.s.kp.size oU;have hG: ∀k,(F k∨FH k)→ ∀wa,Kp X2 w2 wa→F k∨made w0 wa k:=fun k ah wa bD=>by
  rcases ux k ah with hf|hm
  ·exact .inl hf
  ·have:=bD.size;have h3:=hm.1;have h4:=hm.2;exact .inr ⟨by omega,by omega⟩
 clear hs;have hs:=cq.s;rcases my es with rfl|⟨pN,e,rfl⟩
 ·refine dJ ?_;refine xf lD kQ ?_;have Nj:([]:List Ev).length=0:=rfl;rw [Nj];repeat' first|refine bQ ?_;intros
  exact cq.fin fun wa bD=>⟨fun k=>F k∨FH k,kg,[],n,fun k ah=>hG k ah wa bD,⟨W4.mv (bD.kf Np),TJ.mv (bD.kf Np)⟩,
    abR.fin bD,hEF,q1,q2,q3,q4,q6⟩
 ·have Nj:(pN++[e]).length=pN.length+1:=by simp
  have hx:(pN++[e])[pN.length]? =some e:=by simp
  have kA:=W4.row.mv (Mv.sub Np);refine dJ ?_;refine xf lD kQ ?_;rw [Nj];repeat' first|refine bQ ?_;intros
  refine Je (o:=2) kA zQ kQ (by simp) rfl rfl cq.s.has fun w3 X3 c3 pL=>?_;have dG:Ft w0 F w3 X3 (fun k=>F k∨made zr w2 k):=cq.dK c3 (fun k ah=>by subst ah;exact .inl h1.m.row.1) fun k ah=>.inl ah;have QA:eZ w3 (fun k=>F k∨FH k) mb sb fb room e.aw fs:=by
   obtain⟨es9,q9,a1,a2⟩:=W4.m;exact⟨⟨W4.row.1,pL.2⟩,es9,q9,⟨a1.1,(c3.block _ (Np _ a1.1) (Ne.symm W4.ne)).trans a1.2.1,a1.2.2⟩,a2.mv vF fun _ ah=>ah.elim⟩
  have ahY:gD w2 (fun k=>F k∨FH k) mb sb fb kg room high fs (hl.drop n):=⟨W4,TJ⟩;have Qu:gO w3 (fun k=>F k∨FH k) sb kg (hl.drop n):=by
   have h9:=TJ.tight;exact(h9.mv fun k ah _=>⟨TJ.sub k ah,c3.block k (Np k (TJ.sub k ah)) fun e=>ahY.apM (by have e:k=mb:=e;rw [←e];exact ah)⟩)
  have Nk:ef w3 X3 w0.heap.size v2 (pN++[e]):=abR.dK c3 fun k ah=>by subst ah;exact hF.ft hk|>.bm _ h1.m.row.1
  have ae6: ∀k,(F k∨FH k)→X3 k:=fun k ah=>c3.sub k (Np k ah);have aeX:=c3.size;exact dG.fin fun wa bD=>⟨fun k=>F k∨FH k,kg,pN++[e],n,fun k ah=>by
   rcases ux k ah with hf|hm
   ·exact .inl hf
   ·have:=bD.size;have h3:=hm.1;have h4:=hm.2;exact .inr ⟨by omega,by omega⟩,by rw [Yv];exact⟨QA.mv (bD.kf ae6),Qu.mv (bD.kf ae6)⟩,Nk.fin bD,hEF,q1,q2,q3,q4,q6⟩
def jL (high:aO) (fs:List (Int×aO)) (hl:List FV) (f:eM):Int:=
 if f.may=false then 4 else if(getM f.gH fs).isSome=false then 8 else if f.aw.cmp high≤0 then 20 else lE (hl.map (·.2)) f
theorem VX {w:World} {X F S:XS} {mb sb fb:Nat} {hv vw:Value} {room:Int} {high:aO} {fs:List (Int×aO)} {hl:List FV} {f:eM} (h:gD w F mb sb fb hv room high fs hl) (hF:FX F X w)
  (hw:Sl w S 4 vw (f.writes.map KV.l)) (hS: ∀k,S k→X k∧ ¬F k) (hr: ∀x∈hl,1≤x.2.gH∧x.2.gH≤12) (hb:f.writes.length≤2^40) (hn:hl.length≤2^39)
  (hm:f.may=true→ ∀(i j:Nat) x y,i<j→hl[i]? =some x→hl[j]? =some y→y.2.cmp f<0→x.2.cmp f<0):
  Ct pg 127 #[ptr mb 0,f.v vw] w X F fun v wa w'=>v=I (jL high fs hl f)∧ ∃F' kg jE,(∀k,F' k→F k∨made wa w' k)∧gD w' F' mb sb fb kg room high fs jE∧
   (if jL high fs hl f=0 then Nf hl jE f else jE=hl):=by
 intro w0 hk;replace h:=h.mv (hF.mv hk);have hT:=hF.ft hk;have CH:Sl w0 (out F w0) 4 vw (f.writes.map KV.l):=hw.mv fun k ah jE=>⟨⟨aN jE hk.size,(hS k ah).2⟩,hk.block k (hS k ah).1⟩;have nL: ∀{wz:World} {Xz:XS},Ft w0 F wz Xz F→gD wz F mb sb fb hv room high fs hl→jL high fs hl f≠0→ ∀wa,Kp Xz wz wa→ ∃F' kg jE,(∀k,F' k→F k∨made w0 wa k)∧gD wa F' mb sb fb kg room high fs jE∧(if jL high fs hl f=0 then Nf hl jE f else jE=hl):=
  fun hT h cn wa bD=>⟨F,hv,hl,fun k hk=>.inl hk,h.mv (bD.kf hT.bm),by rw [if_neg cn]⟩
 have bH:=h.m.row.mv (Mv.sub hT.bm);have o1:=CH.one;obtain⟨b1,n1,c1,rfl⟩:=CH.form;apply GS;unfold ya;have hs:=aj.init w0;repeat' first|refine aG ?_;intros
 have main: ∀(st:aO) (q:Bool),q=(getM f.gH fs).isSome→ab pg (aR w0) w0 (Instr.lookup 126 (.map (some fb)) (I f.gH) true) (fun v=>v= .tuple #[st.v,B q])→True:=fun _ _ _ _=>trivial;clear main;refine pF (kt:=3) (et:=34) aO.zero.v (h.mv (Mv.sub hT.bm)).m.m iS kQ kQ (fun v a hg hv=>?_) (fun hg=>?_)
 ·simp only [tX] at hv;subst hv;repeat' first|refine aG ?_;intros
  refine dH (Fe (f:=f) (CH.mv hT.s.mv) hb) kQ hT.s.has fun w1 X1 ao=>?_;have dq:=hT.since ao;have h1:=h.mv (ao.jQ hT.bm);have jq:=bH.mv ao.mv;clear hs;have hs:=dq.s;cases lK:f.may
  ·have e:jL high fs hl f=4:=by simp [jL,lK]
   repeat' first|refine aG ?_;intros
   exact dq.fin fun wa bD=>⟨by rw [e],nL dq h1 (by rw [e];decide) wa bD⟩
  repeat' first|refine aG ?_;intros
  refine gh (iw _ _) kQ hs.has fun w2 X2 dF=>?_;have cq:=dq.since dF;have h2:=h1.mv (dF.jQ dq.bm);have kA:=jq.mv dF.mv;clear hs;have hs:=cq.s;by_cases hle:f.aw.cmp high≤0
  ·have e:jL high fs hl f=20:=by simp [jL,lK,hg,hle]
   repeat' first|refine bQ ?_;intros
   exact cq.fin fun wa bD=>⟨by rw [e],nL cq h2 (by rw [e];decide) wa bD⟩
  ·have e:jL high fs hl f=lE (hl.map (·.2)) f:=by simp [jL,lK,hg,hle]
   repeat' first|refine bQ ?_;intros
   have hh:=h2.h.sub;refine cq.call (Ym (S:=out F w0) h2.h.tight (cq.fx hh) (CH.mv (cq.s.jQ fun _ ah=>ah)) (fun k ah=>⟨cq.s.sub k ah,fun hf=>cq.no (hh k hf) ah⟩) hr hb hn hm) kQ hh ?_;rintro _ Ad w3 X3 ⟨rfl,FH,hv3,Wx,hFH,Qu,hA3⟩ wT rP dG c3;have QA:eZ w3 (fun k=>F k∨FH k) mb sb fb room high fs:=h2.m.Fl cq.bm c3 h2.apM h2.apF fun k ah=>.inl ah;have BM: ∀k,(F k∨FH k)→F k∨made Ad w3 k:=fun k ah=>ah.elim .inl fun ah=>(hFH k ah).imp (hh k) id;have Np: ∀k,(F k∨FH k)→X3 k:=fun k ah=>(BM k ah).elim (fun hf=>c3.sub k (cq.bm k hf)) (rP k);have ahZ:gO w3 (fun k=>F k∨FH k) sb hv3 Wx:=Qu.mv (Mv.sub fun k ah=>.inr ah);clear hs;have hs:=dG.s
   skip
   exact dG.fin fun wa bD=>⟨by rw [e],fun k=>F k∨FH k,hv3,Wx,fun k ah=>by
    rcases BM k ah with hf|hm
    ·exact .inl hf
    ·have:=cq.s.kp.size;have:=bD.size;have h3:=hm.1;have h4:=hm.2;exact .inr ⟨by omega,by omega⟩,⟨QA.mv (bD.kf Np),ahZ.mv (bD.kf Np)⟩,by rw [e];exact hA3⟩
 ·repeat' first|refine aG ?_;intros
  refine dH (Fe (f:=f) (CH.mv hT.s.mv) hb) kQ hT.s.has fun w1 X1 ao=>?_;have dq:=hT.since ao;have h1:=h.mv (ao.jQ hT.bm);clear hs;have hs:=dq.s;cases lK:f.may
  ·have e:jL high fs hl f=4:=by simp [jL,lK]
   repeat' first|refine aG ?_;intros
   exact dq.fin fun wa bD=>⟨by rw [e],nL dq h1 (by rw [e];decide) wa bD⟩
  ·have e:jL high fs hl f=8:=by simp [jL,lK,hg]
   repeat' first|refine aG ?_;intros
   exact dq.fin fun wa bD=>⟨by rw [e],nL dq h1 (by rw [e];decide) wa bD⟩
theorem OO {w:World} {X F:XS} {mb sb fb:Nat} {hv:Value} {room r more:Int} {high:aO} {fs:List (Int×aO)} {hl:List FV} (h:gD w F mb sb fb hv room high fs hl) (hF: ∀k,F k→X k)
  (hr: ∀x∈fs,1≤x.1∧x.1≤12) (fF:fs.length≤2^40) (hn:hl.length≤2^39) (kS:1≤room∧room≤64):
  Ct pg 49 #[ptr mb 0,I r,I more] w X nX fun v _ _=>
   v=B ((getM r fs).isSome&&decide (max more 0≥room-hl.length)&&decide (((getM r fs).getD .zero).cmp ((rD fs).getD .zero)>0)):=by
 intro w0 hk;replace h:=h.mv ((Mv.sub hF).trans hk.cE);have bH:=h.m.row;apply Dr;unfold uE;have hs:=aj.init w0;repeat' first|refine aG ?_;intros
 refine pF (kt:=3) (et:=34) aO.zero.v h.m.m iS kQ kQ (fun v a hg hv=>?_) (fun hg=>?_)
 ·simp only [tX] at hv;subst hv;repeat' first|refine aG ?_;intros
  refine dH (zO h.m hr fF) kQ hs.has fun w1 X1 ao=>?_;have h1:=h.mv ao.mv;have jq:=h1.m.row;replace hs:=hs.trans ao;repeat' first|refine aG ?_;intros
  refine agF ?_;repeat' first|refine aG ?_;intros|with_reducible apply dJ
  refine dH (Yg h1.h (fun _ hk=>hk)) kQ ao.has fun w2 X2 dF=>?_;replace hs:=hs.trans dF;repeat' first|refine aG ?_;intros|refine dj ?_ ?_<;>intros|with_reducible apply dJ|(refine gh (iw _ _) kQ hs.has fun w3 X3 dZ=>?_;replace hs:=hs.trans dZ)
  all_goals exact ai hs fun wa bD=>by simp [hg, *]
 ·repeat' first|refine aG ?_;intros
  refine dH (zO h.m hr fF) kQ hs.has fun w1 X1 ao=>?_;replace hs:=hs.trans ao;repeat' first|refine aG ?_;intros|with_reducible apply dJ
  exact ai hs fun wa bD=>by simp [hg]
theorem KZ {w:World} {X:XS} {room:Int} {high:aO} :Ct pg 25 #[I room,high.v] w X nX fun v wa w'=>
  if room<1∨64<room then v= .tuple #[.pointer none,I 1] else if high.may=false then v= .tuple #[.pointer none,I 17]
  else∃mb sb fb,v= .tuple #[ptr mb 0,I 0]∧gD w' (made wa w') mb sb fb (.slice none 0 0) room high [] []:=by
 intro w0 hk;apply TK;unfold Ig;have hs:=aj.init w0;by_cases hb:room<1∨64<room
 ·repeat' first|refine bQ ?_;intros|refine dj ?_ ?_<;>intros
  all_goals exact ai hs fun wa bD=>by simp only [if_pos hb]
 repeat' first|refine bQ ?_;intros|with_reducible apply dJ|((with_reducible refine dI (jf _) ?_ hs.has ?_ ?_);(· kernel_rfl);all_goals (intro _ w X ao;replace hs:=hs.trans ao))
 rotate_left
 ·have hm:= ‹high.may=false›;exact ai hs fun wa bD=>by simp only [if_neg hb,if_pos hm]
 ·have hm:= ‹high.may=true›;have hm': ¬high.may=false:=by rw [hm];decide
  have nL: ∀{sb fb:Nat} {wz wf:World} {Xz Xf:XS},aj (aR w0) w0 Xf wf→bN wz Xz sb [.slice none 0 0] 179→fL wz Xz nX fb (fun z:Int=>I z) tX []→w0.heap.size≤sb→w0.heap.size≤fb→aj Xz wz Xf wf→
    ∀mb,w0.heap.size≤mb→bN wf Xf mb [ptr sb 0,I room,I high.wall,I high.dv,I high.node,.map (some fb)] 128→fin (Bs nX w0 fun v w'=>if room<1∨64<room then v= .tuple #[.pointer none,I 1] else if high.may=false then v= .tuple #[.pointer none,I 17] else∃mb sb fb,v= .tuple #[ptr mb 0,I 0]∧gD w' (made w0 w') mb sb fb (.slice none 0 0) room high [] []) Xf wf (.tuple #[ptr mb 0,I 0]):=by
   intro sb fb wz wf Xz Xf hs DJ hfb h1 h2 hzf mb h3 PR;refine ai hs fun wa bD=>?_;rw [if_neg hb,if_neg hm'];have cI: ∀k,Xf k→k<wa.heap.size:=fun k ah=>aN (hs.has k ah) bD.size;have zx:=DJ.mv hzf.mv;have Aj:=hfb.mv vF hzf.mv (A':=nX) fun _ hk=>hk.elim;have m1:Mv (fun k=>k=mb) wf (made w0 wa) wa:=Mv.one bD PR.1 ⟨h3,cI _ PR.1⟩;have m2:Mv (fun k=>k=fb) wf (made w0 wa) wa:=Mv.one bD Aj.x.1 ⟨h2,cI _ Aj.x.1⟩;have m3:Mv (fun k=>k=sb) wf (made w0 wa) wa:=Mv.one bD zx.1 ⟨h1,cI _ zx.1⟩;exact⟨mb,sb,fb,rfl,⟨PR.own.mv m1,Aj.own.mv vF m2 fun _ hk=>hk.elim⟩,⟨zx.own.mv m3,Ow.nil _ _ _ _,by simp⟩⟩
  refine⟨?_,?_⟩
  ·refine ep Na kQ hs.has ?_;rintro _ wa w1 X1 ⟨sb,rfl,bH⟩ hle eH xY;have jq:=bH.mono eH;have DJ:w0.heap.size≤sb:=af hs.kp.size (af hle bH.1.1);refine sP (α:=aO) (kv:=fun z:Int=>I z) tX nX xY.has fun fb w2 X2 hfb Cx pf=>?_;have abS:=af (af hs.kp.size xY.kp.size) hfb;replace hs:=(hs.trans xY).trans Cx;have hz:=hs.kp.size;clear bH;repeat' first|refine aG ?_;intros|(with_reducible apply nI);(case hX=>exact hs.has);intro bx w X fi ao bH;have bE:=hs.trans ao;replace hs:=aj.iB ao.has
   exact nL bE (jq.mv Cx.mv) pf DJ abS ao bx (af hz fi) bH
  ·refine sP (α:=aO) (kv:=fun z:Int=>I z) tX nX hs.has fun fb w2 X2 hfb xY pf=>?_;refine ep Na kQ xY.has ?_;rintro _ wa w1 X1 ⟨sb,rfl,bH⟩ hle eH Cx;have jq:=bH.mono eH;have DJ:w0.heap.size≤sb:=af hs.kp.size (af xY.kp.size (af hle bH.1.1));have abS:=af hs.kp.size hfb;replace hs:=(hs.trans xY).trans Cx;have hz:=hs.kp.size;clear bH;repeat' first|refine aG ?_;intros|(with_reducible apply nI);(case hX=>exact hs.has);intro bx w X fi ao bH;have bE:=hs.trans ao;replace hs:=aj.iB ao.has
   exact nL bE jq (pf.mv vF Cx.mv fun _ hk=>hk.elim) DJ abS ao bx (af hz fi) bH
def ik (own:Nat→Nat) (p:Nat):XS:=fun k=>own k=p
def all (own:Nat→Nat):XS:=fun k=>own k≠0
theorem LM {own:Nat→Nat} {p:Nat} {w w':World} {X X' G F':XS} (hp:p≠0) (c:eo G X w X' w') (hX: ∀k,own k≠0→X k) (hG: ∀k,G k→own k=p) (hF: ∀k,F' k→own k=p∨own k=0∨w.heap.size≤k):
  ∃dC,(∀k,F' k→ik dC p k)∧(∀q,q≠p→q≠0→Mv (ik own q) w (ik dC q) w')∧(∀k,dC k≠0→own k≠0∨F' k)∧(∀q k,q≠p→q≠0→dC k=q→own k=q)∧ ∀k,dC k=p→F' k:=by
 classical
 refine⟨fun k=>if F' k then p else if own k=p then 0 else own k,fun k hk=>by simp [ik,hk],fun q hq h0 k hk hl=>?_,fun k hk=>?_,fun q k hq h0 hk=>?_,fun k hk=>?_⟩
 ·have hk:own k=q:=hk;have h1: ¬F' k:=fun hf=>by
   rcases hF k hf with h|h|h
   ·exact hq (hk▸h)
   ·exact h0 (hk▸h)
   ·omega
  have h2: ¬own k=p:=fun h=>hq (by rw [←hk,h]);refine⟨by simp [ik,h1,hk,hq],c.block k (hX k (by rw [hk];exact h0)) fun hg=>h2 (hG k hg)⟩
 ·by_cases h1:F' k
  ·exact .inr h1
  ·by_cases h2:own k=p
   ·simp [h1,h2] at hk
   ·simp [h1,h2] at hk;exact .inl hk
 ·by_cases h1:F' k
  ·simp [h1] at hk;exact absurd hk.symm hq
  ·by_cases h2:own k=p
   ·simp [h1,h2] at hk;exact absurd hk.symm h0
   ·simpa [h1,h2] using hk
 ·by_cases h1:F' k
  ·exact h1
  ·by_cases h2:own k=p
   ·simp [h1,h2] at hk;exact absurd hk.symm hp
   ·simp [h1,h2] at hk
theorem A6 {own:Nat→Nat} {p:Nat} {w w':World} {X X' G F':XS} (hp:p≠0) (c:eo G X w X' w') (hX: ∀k,own k≠0→X k) (hG: ∀k,G k→own k=p) (hF: ∀k,F' k→own k=p∨w.heap.size≤k):
  ∃dC,(∀k,F' k→ik dC p k)∧(∀q,q≠p→q≠0→Mv (ik own q) w (ik dC q) w')∧(∀k,dC k≠0→own k≠0∨F' k)∧ ∀q k,q≠p→q≠0→dC k=q→own k=q:=by
 obtain⟨dC,h1,h2,h3,h4,_⟩:=LM hp c hX hG fun k hk=>(hF k hk).imp id .inr;exact⟨dC,h1,h2,h3,h4⟩
theorem ae7 {own:Nat→Nat} {w w':World} {X X' G:XS} (c:eo G X w X' w') (hX: ∀k,own k≠0→X k) (hG: ∀k,G k→own k=0) (q:Nat) (h0:q≠0):Mv (ik own q) w (ik own q) w':=fun k hk _=>by
 have hk:own k=q:=hk;exact⟨hk,c.block k (hX k (by rw [hk];exact h0)) fun hg=>h0 (by rw [←hk];exact hG k hg)⟩
structure fX where
 tb:Nat
 mb:Nat
 m:eQ
 s:iC
abbrev fX.fp (x:fX):XS:=qx x.tb x.mb x.m
def TL:World→XS→Value→fX→Prop:=fun _ _ v x=>v=ptr x.tb 0
theorem BQ:oZ TL:=fun _ _ _ _ _ _ h _=>h
structure lh (w:World) (F:XS) (kT:Nat) (l:List (Int×fX)):Prop where
 map:fL w F nX kT (fun z:Int=>I z) TL l
 tl: ∀x∈l,dr w F (gd x.2.m) x.2.tb x.2.mb x.2.s x.2.m∧qT x.2.m
 sep: ∀x∈l,∀y∈l,x.1≠y.1→ ∀k,x.2.fp k→ ¬y.2.fp k
 nm: ∀x∈l,¬x.2.fp kT
theorem dr.Gw {w:World} {F:XS} {x:fX} (h:dr w F (gd x.m) x.tb x.mb x.s x.m): ∀k,x.fp k→F k∧k<w.heap.size:=fun k hk=>by
 rcases hk with rfl|rfl|hk
 ·exact⟨h.box.1,h.box.lt⟩
 ·exact h.mj.x
 ·exact⟨h.sub k hk,(h.fp k hk).2⟩
theorem lh.mv {w w':World} {F F':XS} {kT:Nat} {l:List (Int×fX)} (h:lh w F kT l) (v:Mv F w F' w'):lh w' F' kT l:=
 ⟨h.map.mv BQ v fun _ hk=>hk.elim,fun x hx=>by
  have h1:=(h.tl x hx).1;refine⟨(h1.tight.mv (fun k hk=>(dr.Gw h1 k hk).2) (Y:=fun k=>F' k) fun k hk hl=>?_),(h.tl x hx).2⟩;exact v k (dr.Gw h1 k hk).1 hl,h.sep,h.nm⟩
theorem kU {α:Type} {k:Int} {a:α} : ∀{l:List (Int×α)},getM k l=some a→(k,a)∈l
 |[],h=>by simp [getM] at h
 |y::l,h=>by
  by_cases hy:y.1=k
  ·have:y.2=a:=by simpa [getM,b8,hy] using h
   rw [←hy,←this];exact dt
  ·exact bK _ (kU (by simpa [getM,b8,hy] using h))
theorem lh.step {w w':World} {F F' X X':XS} {kT:Nat} {l:List (Int×fX)} {k:Int} {x x':fX} (h:lh w F kT l) (hg:getM k l=some x) (hb:x'.tb=x.tb) (c:eo x.fp X w X' w') (hF: ∀k,F k→X k)
  (ht:dr w' x'.fp (gd x'.m) x'.tb x'.mb x'.s x'.m) (hs:qT x'.m) (hn: ∀k,x'.fp k→x.fp k∨w.heap.size≤k) (Gf: ∀k,F k→F' k) (su: ∀k,x'.fp k→F' k):lh w' F' kT (bU k x' l):=by
 have mf:=h.map.nodup;have gY:=kU hg;have cI: ∀y∈l,∀b,y.2.fp b→F b∧b<w.heap.size:=fun y hy=>dr.Gw (h.tl y hy).1;have hold: ∀y∈l,y.1≠k→ ∀b,y.2.fp b→ ¬x.fp b:=fun y hy cn b hb=>h.sep y hy (k,x) gY cn b hb;have nK: ∀y∈l,y.1≠k→ ∀b,y.2.fp b→ ¬x'.fp b:=fun y hy cn b hb fP=>by
  rcases hn b fP with h1|h1
  ·exact hold y hy cn b hb h1
  ·have:=(cI y hy b hb).2;omega
 have Nq:=h.map.x;refine⟨?_,fun y hy=>?_,fun y hy z hz cn=>?_,fun y hy=>?_⟩
 ·obtain⟨es,q,a1,a2⟩:=h.map;have fP:w'.heap[kT]? =w.heap[kT]? :=c.block kT (hF _ a1.1) (h.nm _ gY);refine⟨es,q,⟨Gf _ a1.1,fP.trans a1.2.1,a1.2.2⟩,?_⟩;have h3:jw w' nX TL es l:=a2.mv BQ fun _ hk=>hk.elim;clear a1 a2 Nq fP nK hold cI;have key: ∀(es:List (Go.bB.iD Int)) (l:List (Int×fX)),getM k l=some x→jw w' nX TL es l→jw w' nX TL es (bU k x' l):=by
   intro es l
   induction l generalizing es with
   |nil=>intro h;simp [getM] at h
   |cons y l ih=>
    intro hg hr;cases es with
    |nil=>exact hr.elim
    |cons e es=>
     unfold bU;by_cases hy:y.1=k
     ·rw [if_pos hy];have:y.2=x:=by simpa [getM,b8,hy] using hg
      refine⟨hr.1.trans hy,?_,hr.2.2⟩;have h2:=hr.2.1;rw [this] at h2
      show _=ptr x'.tb 0
      rw [hb];exact h2
     ·rw [if_neg hy];exact⟨hr.1,hr.2.1,ih es (by simpa [getM,b8,hy] using hg) hr.2.2⟩
  exact key es l hg h3
 ·rcases fB mf hy with rfl|⟨hy,cn⟩
  ·exact⟨ht.wide su,hs⟩
  ·have h1:=(h.tl y hy).1;refine⟨(h1.tight.mv (fun b hb=>(cI y hy b hb).2) (Y:=F') fun b hb _=>⟨Gf b (cI y hy b hb).1,c.block b (hF b (cI y hy b hb).1) (hold y hy cn b hb)⟩),(h.tl y hy).2⟩
 ·rcases fB mf hy with rfl|⟨hy,hyk⟩<;>rcases fB mf hz with rfl|⟨hz,hzk⟩
  ·exact absurd rfl cn
  ·exact fun b hb fP=>nK z hz hzk b fP hb
  ·exact fun b hb fP=>nK y hy hyk b hb fP
  ·exact h.sep y hy z hz cn
 ·rcases fB mf hy with rfl|⟨hy,_⟩
  ·intro hb;rcases hn _ hb with h1|h1
   ·exact h.nm _ gY h1
   ·have:=Nq.2;omega
  ·exact h.nm y hy
theorem lh.put {w w1 w2:World} {F F1 F2 X1 X2:XS} {kT:Nat} {l:List (Int×fX)} {k:Int} {x:fX} (h:lh w1 F kT l) (hF: ∀k,F k→X1 k∧k<w.heap.size)
  (ht:dr w1 F1 (gd x.m) x.tb x.mb x.s x.m) (hs:qT x.m) (hn: ∀k,x.fp k→w.heap.size≤k) (h1: ∀k,F1 k→X1 k) (c:eo (· =kT) X1 w1 X2 w2) (hm:fL w2 X2 nX kT (fun z:Int=>I z) TL (bU k x l))
  (Gf: ∀k,F k→F2 k) (su: ∀k,x.fp k→F2 k):lh w2 F2 kT (bU k x l):=by
 have mf:=h.map.nodup;have Nq:=hF _ h.map.x.1;have cI: ∀y∈l,∀b,y.2.fp b→F b∧b<w.heap.size:=fun y hy b hb=>⟨(dr.Gw (h.tl y hy).1 b hb).1,(hF b (dr.Gw (h.tl y hy).1 b hb).1).2⟩;refine⟨?_,fun y hy=>?_,fun y hy z hz cn=>?_,fun y hy=>?_⟩
 ·obtain⟨es,q,a1,a2⟩:=hm;exact⟨es,q,⟨Gf _ h.map.x.1,a1.2⟩,a2⟩
 ·rcases fB mf hy with rfl|⟨hy,cn⟩
  ·refine⟨(ht.tight.mv (fun b hb=>(dr.Gw ht b hb).2) (Y:=F2) fun b hb _=>⟨su b hb,c.block b (h1 b (dr.Gw ht b hb).1) fun e=>?_⟩),hs⟩;have:=hn b hb;have e:b=kT:=e;omega
  ·have q:=(h.tl y hy).1;exact⟨(q.tight.mv (fun b hb=>(dr.Gw q b hb).2) (Y:=F2) fun b hb _=>⟨Gf b (cI y hy b hb).1,c.block b (hF b (cI y hy b hb).1).1 fun e=>h.nm y hy (by have e:b=kT:=e;rw [←e];exact hb)⟩),(h.tl y hy).2⟩
 ·rcases fB mf hy with rfl|⟨hy,hyk⟩<;>rcases fB mf hz with rfl|⟨hz,hzk⟩
  ·exact absurd rfl cn
  ·exact fun b hb fP=>by have:=hn b hb;have:=(cI z hz b fP).2;omega
  ·exact fun b hb fP=>by have:=hn b fP;have:=(cI y hy b hb).2;omega
  ·exact h.sep y hy z hz cn
 ·rcases fB mf hy with rfl|⟨hy,_⟩
  ·intro hb;have:=hn _ hb;omega
  ·exact h.nm y hy
structure dM where
 tl:List (Int×Int)
 mh:aO
 room:Int
 high:aO
 fs:List (Int×aO)
 hl:List FV
 b7:List (Int×fX)
 bA:aO
 told:Bool
 q:List Ev
 holds:List fQ
 seen:aO
 db:Nat
 Ih:Value
 mb:Nat
 sb:Nat
 fb:Nat
 kT:Nat
 hv:Value
 qv:Value
 ov:Value
abbrev dM.l (s:dM):List Value:=[ptr s.db 0,I s.mh.wall,I s.mh.dv,I s.mh.node,s.Ih,ptr s.mb 0,.map (some s.kT),I s.bA.wall,I s.bA.dv,I s.bA.node,B s.told,s.qv,s.ov,I s.seen.wall,I s.seen.dv,I s.seen.node,B false]
abbrev sZ (x:Int×Int):List Value:=[I x.1,I x.2]
structure cC (w:World) (own:Nat→Nat) (nb:Nat) (s:dM):Prop where
 row:bN w (ik own 1) nb s.l 93
 oS:gD w (ik own 2) s.mb s.sb s.fb s.hv s.room s.high s.fs s.hl
 pr:ef w (ik own 3) 0 s.qv s.q
 nz:Own w (ik own 4) 0 102 5 s.ov (s.holds.map fQ.l)
 lX:lh w (ik own 5) s.kT s.b7
 tS:Sl w (ik own 6) 2 s.Ih (s.tl.map sZ)
theorem cC.mv {w w':World} {own dC:Nat→Nat} {nb:Nat} {s:dM} (h:cC w own nb s) (v: ∀q,q≠0→Mv (ik own q) w (ik dC q) w'):cC w' dC nb s:=
 ⟨h.row.mv (v 1 (by decide)),h.oS.mv (v 2 (by decide)),h.pr.mv (v 3 (by decide)),h.nz.mv (v 4 (by decide)),h.lX.mv (v 5 (by decide)),h.tS.mv (v 6 (by decide))⟩
theorem cC.since {w w':World} {X X':XS} {own:Nat→Nat} {nb:Nat} {s:dM} (h:cC w own nb s) (hs:aj X w X' w') (hX: ∀k,all own k→X k):cC w' own nb s:=
 h.mv fun q h0 k hk _=>⟨hk,hs.kp.block k (hX k (by have hk:own k=q:=hk;show own k≠0;rw [hk];exact h0))⟩
theorem cC.kp {w w':World} {X:XS} {own:Nat→Nat} {nb:Nat} {s:dM} (h:cC w own nb s) (hk:Kp X w w') (hX: ∀k,all own k→X k):cC w' own nb s:=
 h.mv fun q h0 k hq _=>⟨hq,hk.block k (hX k (by have hq:own k=q:=hq;show own k≠0;rw [hq];exact h0))⟩
theorem cJ {own:Nat→Nat} {p:Nat} (hp:p≠0): ∀k,ik own p k→all own k:=fun k hk=>by
 have hk:own k=p:=hk
 show own k≠0
 rw [hk];exact hp
theorem cC.put {w w':World} {X X':XS} {own:Nat→Nat} {nb:Nat} {s':dM} (hc:ik own 1 nb) (hX: ∀k,all own k→X k) (c:eo (fun k=>k=nb) X w X' w') (hr:bN w' X' nb s'.l 93)
  (h2:gD w (ik own 2) s'.mb s'.sb s'.fb s'.hv s'.room s'.high s'.fs s'.hl) (h3:ef w (ik own 3) 0 s'.qv s'.q) (h4:Own w (ik own 4) 0 102 5 s'.ov (s'.holds.map fQ.l)) (h5:lh w (ik own 5) s'.kT s'.b7)
  (h6:Sl w (ik own 6) 2 s'.Ih (s'.tl.map sZ)):cC w' own nb s':=by
 have v: ∀q,q≠1→q≠0→Mv (ik own q) w (ik own q) w':=fun q h1 h0 k hk _=>⟨hk,c.block k (hX k (cJ h0 k hk)) fun e=>h1 (by
  have hk:own k=q:=hk;have e:k=nb:=e;rw [←hk,e];exact hc)⟩
 exact⟨⟨hc,hr.2⟩,h2.mv (v 2 (by decide) (by decide)),h3.mv (v 3 (by decide) (by decide)),h4.mv (v 4 (by decide) (by decide)),h5.mv (v 5 (by decide) (by decide)),h6.mv (v 6 (by decide) (by decide))⟩
def RQ (P:Program) (t:Nat):Bool:=match P.underlying t with
 |some (.int .i64)=>true
 |_=>false
theorem QB {P:Program} {t:Nat} (h:RQ P t=true):P.underlying t=some (.int .i64):=by
 unfold RQ at h;split at h
 ·assumption
 ·cases h
def aaD (P:Program) (t s:Nat):Bool:=match P.underlying t with
 |some (.struct fs)=>match fs.toList with
  |[f1,f2,f3]=>f1.offset==0&&f2.offset==1&&f3.offset==2&&RQ P f1.type&&RQ P f2.type&&f3.type==s&&f1.name != "_" &&f2.name != "_" &&f3.name != "_"
  |_=>false
 |_=>false
theorem Yw {P:Program} {t s:Nat} (h:aaD P t s=true): ∃f1 f2 f3:Field,P.underlying t=some (.struct #[f1,f2,f3])∧f1.offset=0∧f2.offset=1∧f3.offset=2∧
  P.underlying f1.type=some (.int .i64)∧P.underlying f2.type=some (.int .i64)∧f3.type=s∧(f1.name != "_")=true∧(f2.name != "_")=true∧(f3.name != "_")=true:=by
 unfold aaD at h;split at h
 ·rename_i fs hu;split at h
  ·rename_i f1 f2 f3 hl;simp only [aY,beq_iff_eq] at h;have:fs= #[f1,f2,f3]:=by rw [←Array.toList_inj];exact hl
   obtain⟨⟨⟨⟨⟨⟨⟨⟨a1,a2⟩,a3⟩,a4⟩,a5⟩,a6⟩,a7⟩,a8⟩,a9⟩:=h;exact⟨f1,f2,f3,by rw [hu,this],a1,a2,a3,QB a4,QB a5,a6,a7,a8,a9⟩
  ·cases h
 ·cases h
theorem Yy (a b:fQ) (w:World):(iz 10000 102 (.agg a.l.toArray) (.agg b.l.toArray)).run pg w= .ok (decide (a=b)) w:=by
 obtain⟨f1,f2,f3,hu,o1,o2,o3,t1,t2,t3,n1,n2,n3⟩: ∃f1 f2 f3:Field,pg.underlying 102=some (.struct #[f1,f2,f3])∧f1.offset=0∧f2.offset=1∧f3.offset=2∧
   pg.underlying f1.type=some (.int .i64)∧pg.underlying f2.type=some (.int .i64)∧f3.type=34∧(f1.name != "_")=true∧(f2.name != "_")=true∧(f3.name != "_")=true:=
  Yw kQ
 have hf:pg.fieldsOf 102= #[f1,f2,f3]:=by simp [xd,hu]
 have hs:gB pg 34 3=true:=by kernel_rfl
 rw [run_equalIn_struct w 9999 _ _ _ (by rw [hf];exact hu) kQ,hf];have hq: ∀x y:aO,(iz 9999 34 x.v y.v).run pg w= .ok (decide (x=y)) w:=fun x y=>by
  unfold gB at hs;split at hs
  ·rename_i fs hu3;simp only [aY,beq_iff_eq,Bool.not_eq_true'] at hs;have hf3:pg.fieldsOf 34=fs:=by simp [xd,hu3]
   show(iz (9998+1) _ _ _).run _ _=_
   rw [run_equalIn_struct w 9998 _ _ _ (by rw [hf3];exact hu3) hs.1.2,hf3];have:=tY (P:=pg) w 9997 [x.wall,x.dv,x.node] [y.wall,y.dv,y.node] fs.toList 0 hs.1.1.2 (by rw [hs.1.1.1];rfl) (by rw [hs.1.1.1];rfl);have e:(decide (x=y))=decide ([x.wall,x.dv,x.node]=[y.wall,y.dv,y.node]):=by
    rw [x9,decide_eq_true_iff,decide_eq_true_iff,aO.ext_iff];simp
   rw [e];simpa using this
  ·cases hs
 have fN:(sizeOf 34).run pg w= .ok 3 w:=by
  have hi:(pg.info? 34).map (·.size)=some 3:=by kernel_rfl
  cases h1:pg.info? 34 with
  |none=>rw [h1] at hi;cases hi
  |some i=>rw [h1] at hi;simp at hi;simp [sizeOf,typeInfo,h1,hi]
 have ZS: ∃fs,pg.underlying 34=some (.struct fs):=by
  have si:=hs;unfold gB at si;split at si
  ·rename_i fs hu3;exact⟨fs,hu3⟩
  ·cases si
 obtain⟨fs3,ZS⟩:=ZS;have ah0:(isAgg 34).run pg w= .ok true w:=by simp [isAgg,run_underlying ZS]
 have hi1:(isAgg f1.type).run pg w= .ok false w:=by simp [isAgg,run_underlying t1]
 have hi2:(isAgg f2.type).run pg w= .ok false w:=by simp [isAgg,run_underlying t2]
 have hp3: ∀x:fQ,(part 34 x.l.toArray 2).run pg w= .ok x.aw.v w:=fun x=>by simp [part,ah0,fN]
 have hp1: ∀x:fQ,(part f1.type x.l.toArray 0).run pg w= .ok (I x.id) w:=fun x=>by simp [part,hi1]
 have Tu: ∀x:fQ,(part f2.type x.l.toArray 1).run pg w= .ok (I x.gb) w:=fun x=>by simp [part,hi2]
 have e1: ∀x y:Int,(iz 9999 f1.type (I x) (I y)).run pg w= .ok (x==y) w:=fun x y=>run_equalIn_int (P:=pg) w 9998 f1.type .i64 .i64 x y t1;have e2: ∀x y:Int,(iz 9999 f2.type (I x) (I y)).run pg w= .ok (x==y) w:=fun x y=>run_equalIn_int (P:=pg) w 9998 f2.type .i64 .i64 x y t2;simp only [bne_iff_ne,ne_eq] at n1 n2 n3;have ext:a=b↔a.id=b.id∧a.gb=b.gb∧a.aw=b.aw:=by cases a;cases b;simp
 by_cases h1:a.id=b.id<;>by_cases h2:a.gb=b.gb<;>by_cases h3:a.aw=b.aw<;>simp [Op.eqFields,n1,n2,n3,o1,o2,o3,t3,hp1,Tu,hp3,e1,e2,hq,ext,h1,h2,h3]
theorem abT {X:XS} {w:World} {a b:fQ} {xo yo:Operand} {N:Value→Prop} (hT:a=b→N (B true)) (hF: ¬a=b→N (B false)):
  ab pg X w (aF .eql 102 xo yo (.agg a.l.toArray) (.agg b.l.toArray)) N:=
 TM (b:=decide (a=b)) kQ (fun wa=>Yy a b wa) (by
  by_cases h:a=b
  ·rw [decide_eq_true h];exact hT h
  ·rw [decide_eq_false h];exact hF h)
theorem Rj {w:World} {X:XS} {a:Value} {xs:List fQ} {h:fQ} (ha:Sl w X 5 a (xs.map fQ.l)):
  Ct pg 171 #[a,.agg h.l.toArray] w X nX fun v _ _=>v=I (idxOf (fun y=>decide (h=y)) xs):=by
 intro w0 hk;replace ha:=ha.mv hk.cE;have gC:=ha.gw;apply rT;unfold lF;have hs:=aj.init w0;repeat' first|refine aG ?_;intros
 refine eA (fun n a w X=> ∃i:Nat,a=I (i:Nat)∧n=(xs).length-i∧i≤(xs).length∧aj (aR w0) w0 X w∧(∀(j:Nat) x,j<i→xs[j]? =some x→decide (h=x)=false)) (xs).length ⟨0,rfl,rfl,aL _,hs,by simp⟩ ?_;rintro n a w X ⟨i,rfl,rfl,hi,hs,hw⟩;rcases dX (xs) i with⟨cI,x,hx,hd⟩|⟨dV,hd⟩
 ·repeat' first|refine bQ ?_;intros
  refine abT (fun he=>?_) (fun he=>?_)
  ·repeat' first|refine aG ?_;intros|((first|(with_reducible refine ai hs ?_)|(with_reducible refine ai (bE.trans hs) ?_));intro wa hk;(rw [uX hw hx (by simpa using he)]))
  ·repeat' first|refine aG ?_;intros|((with_reducible refine en ((xs).length-(i+1)) ?_ ?_);omega;exact⟨i+1,by simp,rfl,by omega,hs,fun j y hj hy=>by rcases Nat.lt_succ_iff_lt_or_eq.1 hj with h|h;exact hw j y h hy;subst h;rw [hx] at hy;cases hy;simpa using he⟩)
 ·repeat' first|refine bQ ?_;intros|((first|(with_reducible refine ai hs ?_)|(with_reducible refine ai (bE.trans hs) ?_));intro wa hk;(rw [qQ fun j x hj hx=>hw j x zQ hx]))
theorem LN {w:World} {X:XS} {a:Value} {xs:List fQ} {h:fQ} (ha:Sl w X 5 a (xs.map fQ.l)):
  Ct pg 126 #[a,.agg h.l.toArray] w X nX fun v _ _=>v=B (decide (h∈xs)):=by
 intro w0 hk;replace ha:=ha.mv hk.cE;have e:decide (h∈xs)=xs.any fun y=>decide (h=y):=by
  rw [x9,decide_eq_true_iff,List.any_eq_true];exact⟨fun hm=>⟨h,hm,by simp⟩,fun ⟨y,hy,he⟩=>by have he:=of_decide_eq_true he;rw [he];exact hy⟩
 apply qt;unfold kF;have hs:=aj.init w0;repeat' first|refine aG ?_;intros|refine dj ?_ ?_<;>intros|((first|(with_reducible refine ai hs ?_)|(with_reducible refine ai (bE.trans hs) ?_));intro wa hk;(rw [e,←qw];simp [*]<;>omega))|(refine dH (Rj (h:=h) ha) kQ hs.has ?_;intro w X ao;replace hs:=hs.trans ao)
theorem AR {w:World} {X:XS} {nb:Nat} {st:dM} {s:aO} (h:bN w X nb st.l 93):
  Ct pg 34 #[ptr nb 0,s.v] w X nX fun v _ _=>v=B (gn st.bA s):=by
 intro w0 hk;replace h:=h.mv hk.cE;apply LO;unfold BR;have hs:=aj.init w0;repeat' first|refine aG ?_;intros|refine dj ?_ ?_<;>intros|((with_reducible refine gh (iw _ _) ?_ hs.has ?_);(· kernel_rfl);intro w X ao;replace hs:=hs.trans ao)|((first|(with_reducible refine ai hs ?_)|(with_reducible refine ai (bE.trans hs) ?_));intro wa hk;(simp [gn, *]))
end Go.Proofs.YtfndblbeikocdaaGreat
