/-
 Part 12 of the proof: what the last text leans on.
-/
import Derived.WalkKit
import Derived.Test.YtfndblbeikocdaaGreatY11
open List renaming mem_of_getElem? → aA, length_map → ay, length_append → ae, take_add_one → bc, map_append → bo, take_append_drop → cD, length_take → aW, mem_of_mem_take → dW, take_of_length_le → aY, append_assoc → aB, mem_of_mem_drop → eh, flatten_cons → dP, set_cons_zero → lL, getElem?_cons_succ → jz, length_singleton → bD, map_singleton → lM, mem_append_left → bX, filter_append → ea, take_append_of_le_length → ir, find?_cons → bS, mem_cons_self → di, set_append_right → mJ, mem_or_eq_of_mem_set → lf, getElem?_map → dQ, getElem?_set_self → mw, getElem?_set_ne → nh, map_cons → bB, length → ao, length_nil → dj, getElem?_eq_getElem → bT, drop_sublist → pB, flatten_append → gJ, not_mem_nil → gn, set_cons_succ → tJ, mem_cons_of_mem → bG, pairwise_cons → jJ, mem_singleton → en, take_sublist → uT, getLast?_append → sa, getLast?_singleton → pT, drop_eq_getElem_cons → fz, filter_sublist → ta, filter_cons → fT, filter_nil → xC, append_nil → fh, take_set_of_le → tc, drop_set_of_lt → td, length_drop → dM
open Go.Op renaming bytesLess → cG, equalIn → ig
open Nat renaming le_trans → af, zero_le → aN, lt_of_lt_of_le → aI, zero_add → ee, le_refl → bK, lt_or_gt_of_ne → tK
open Go.Sort renaming grow → eu
open Bool renaming and_eq_true → aV, or_eq_true → iM, or_eq_false_iff → ni, and_eq_false_iff → mK, false_eq_true → bh, eq_iff_iff → xD
open Go.Exit renaming inBlock → nj, «then» → qx
open Option.some renaming injEq → ax
open Go.World renaming cell? → ru
open UInt8 renaming lt_irrefl → qP
open Go.Proofs renaming ltOf → sc
open Go.Value renaming ownBlock → ec
open Option renaming toList_some → iI, some_or → yN
open Go.Instr renaming findNow → gX, checkKey → fw
open Go.Calls renaming grown_of → yO
open Go.ByteArray renaming toList_eq → gK
open Function renaming comp_def → gw
open Go.Builtin renaming len_ → eT
open Go.Program renaming fieldsOf → vL
set_option linter.unusedVariables false
set_option linter.unusedSimpArgs false
namespace Go.Proofs.YtfndblbeikocdaaGreat
open Go.Proofs.Tryz renaming prog → pg
open Go.bu Go.RowKit Go.Sort
set_option maxRecDepth 100000
set_option maxHeartbeats 1000000
@[go_sem] theorem acf {P:Program} {w:World} {a:Addr} {m:Mode} (k:FloatKind) (n:Nat):(store a (.float k n) m).run P w=stored P w a (.float k n) m:=run_store P w a _ m rfl
@[go_sem] theorem agH (x:Nat) (wa:World):(callFunc 118 #[.float .f64 x]).run pg wa= .ok (.value (.int .u64 x)) wa:=by kernel_rfl
@[go_sem] theorem agM {P:Program} {w:World} (t:TypeId) (a b:ByteArray):(binOp .gtr t (.string a) (.string b)).run P w= .ok (.bool (!(cG a.toList b.toList||decide (a=b)))) w:=by
 simp [binOp,Op.stringOp,Au,Ed]
abbrev j4 (s:ByteArray):Value:=if s.size≤64 then .agg #[I 2,.float .f64 0,.string s] else .agg #[I 0,.float .f64 0,.string ⟨#[]⟩]
theorem OH {tmps cs:Array Value} {W:World} (hp:tmps.getD 2 undef=ptr W.heap.size 0) (hc:cs.size=3):(results Tryz.f178 tmps).run pg (W.alloc (.cells cs 116))= .ok (.agg cs) (W.alloc (.cells cs 116)):=by
 obtain⟨fs,hu⟩: ∃fs,pg.underlying 116=some (.struct fs):=⟨_,rfl⟩;exact results_cell_row kQ _ _ W.heap.size _ _ _ (.struct fs) hp (heap_alloc_new _ _) hu rfl (by rw [hc];kernel_rfl)
theorem Ud (s:ByteArray) (W:World):Calls pg 178 #[.string s] W fun e w'=>e= .returned (j4 s)∧iX W w':=by
 go_enter Tryz.func178,Tryz.ntmps178
 go_wp2
 all_goals (try simp only [nj,qx])
 ·refine bodyPost_ret (v:=j4 s) ((OH rfl rfl).trans ?_) rfl ⟨rfl,(iX.refl W).alloc _⟩;rename_i h;simp [j4,show¬s.size≤64 by omega]
 ·refine bodyPost_ret (v:=j4 s) ((OH rfl rfl).trans ?_) rfl ⟨rfl,(iX.refl W).alloc _⟩;rename_i h;simp [j4,show s.size≤64 by omega]
theorem OI (s:ByteArray) (W:World):Calls pg 196 #[j4 s] W fun e w'=>e= .returned (B true)∧iX W w':=by
 by_cases hs:s.size≤64
 ·rw [show j4 s= .agg #[I 2,.float .f64 0,.string s] by simp [j4,hs]]
  go_enter Tryz.func196,Tryz.ntmps196
  go_wp2
  all_goals (try simp only [nj,qx])
  refine bodyPost_ret (v:=B true) ?_ rfl ⟨rfl,(iX.refl W).alloc _⟩;rw [results_tmp (t:=2) kQ];simp;omega
 ·rw [show j4 s= .agg #[I 0,.float .f64 0,.string ⟨#[]⟩] by simp [j4,hs]]
  go_enter Tryz.func196,Tryz.ntmps196
  go_wp2
  all_goals (try simp only [nj,qx])
  refine bodyPost_ret (v:=B true) ?_ rfl ⟨rfl,(iX.refl W).alloc _⟩;rw [results_tmp (t:=2) kQ];simp
def lW (s:ByteArray):Int:=if s.size≤64 then 2 else 0
def pe (s:ByteArray):ByteArray:=if s.size≤64 then s else⟨#[]⟩
theorem BS (s:ByteArray):j4 s= .agg #[I (lW s),.float .f64 0,.string (pe s)]:=by
 unfold lW pe;by_cases h:s.size≤64<;>simp [j4,h]
def KD (s t:ByteArray):Int:=
 if lW s<lW t then-1 else if lW t<lW s then 1 else if ou (pe s) (pe t)then-1 else if pe s=pe t then 0 else 1
theorem two {W w':World} {a b c a' b' c':Value} (h:iX ((W.alloc (.cells #[a,b,c] 116)).alloc (.cells #[a',b',c'] 116)) w'):
  (w'.cell? ⟨W.heap.size,0,none⟩=some a∧w'.cell? ⟨W.heap.size,1,none⟩=some b∧w'.cell? ⟨W.heap.size,2,none⟩=some c)∧
  (w'.cell? ⟨W.heap.size+1,0,none⟩=some a'∧w'.cell? ⟨W.heap.size+1,1,none⟩=some b'∧w'.cell? ⟨W.heap.size+1,2,none⟩=some c'):=by
 have h0:=h.row (g:=W.heap.size) (o:=.cells #[a,b,c] 116) (by rw [heap_alloc_old (h:=by show _<(W.heap.push _).size;simp)];exact heap_alloc_new _ _);have h1:=h.row (g:=W.heap.size+1) (o:=.cells #[a',b',c'] 116) (heap_alloc2_new _ _ _);refine⟨⟨?_,?_,?_⟩,?_,?_,?_⟩<;>simp [ru,h0,h1]
set_option maxHeartbeats 2000000 in
theorem PH (s t:ByteArray) (W:World):Calls pg 177 #[j4 s,j4 t] W fun e w'=>e= .returned (I (KD s t))∧iX W w':=by
 have hs:lW s=2∨lW s=0:=by unfold lW;split<;>simp
 have ht:lW t=2∨lW t=0:=by unfold lW;split<;>simp
 have hm: ∀(x:Value) W,x=j4 s∨x=j4 t→Calls pg 196 #[x] W fun e w'=>e= .returned (B true)∧iX W w':=by
  rintro x W (rfl|rfl)
  ·exact OI s W
  ·exact OI t W
 rw [BS,BS] at hm;rw [BS,BS];have g0:=iX.refl ((W.alloc (.cells #[I (lW s),.float .f64 0,.string (pe s)] 116)).alloc (.cells #[I (lW t),.float .f64 0,.string (pe t)] 116));unfold KD;generalize pe s=bs at*;generalize pe t=bt at*;rcases hs with hs|hs<;>rcases ht with ht|ht<;>rw [hs] at hm g0⊢ <;>rw [ht] at hm g0⊢ <;>clear hs ht
 all_goals
  go_enter Tryz.func177,Tryz.ntmps177
  go_wp2_with (go_at_call 196;refine(hm _ _ (by simp)).mono ?_;rintro e w1 ⟨rfl,g1⟩;replace g0:=g0.trans g1;have⟨⟨f1,f2,f3⟩,f4,f5,f6⟩:=two g0)
  all_goals (try simp only [nj,qx])
  all_goals refine bodyPost_ret (results_tmp (t:=4) kQ _ _ _) rfl ⟨?_,(((iX.refl W).alloc _).alloc _).trans g0⟩
  all_goals simp_all [ou]
theorem Ue (k1 k2:ByteArray) (a1 a2 a3 b1 b2 b3:Value) (W:World):
  Calls pg 176 #[.agg #[.string k1,a1,a2,a3],.agg #[.string k2,b1,b2,b3]] W fun e w'=>e= .returned (I (KD k1 k2))∧iX W w':=by
 have mixed:pg.follows .mixedOrders=true:=by kernel_rfl
 have hW: ∀s (n:Nat) (os:Array Obj) (wq:World),Calls pg 178 #[.string s] (eu (wq.drewN n) os) fun e w'=>e= .returned (j4 s)∧ ∃q GK,w'=eu ((eu (wq.drewN n) os).drewN q) GK:=fun s n os wq=>Ud s _;have hC: ∀s t (n:Nat) (os:Array Obj) (wq:World),Calls pg 177 #[j4 s,j4 t] (eu (wq.drewN n) os) fun e w'=>e= .returned (I (KD s t))∧ ∃q GK,w'=eu ((eu (wq.drewN n) os).drewN q) GK:=fun s t n os wq=>PH s t _;have hC:=hC k1 k2;generalize h1:KD k1 k2=c at*;obtain⟨wv,hwv⟩: ∃f:ByteArray→Value,f=fun s=>j4 s:=⟨_,rfl⟩;have Ff: ∀s (n:Nat) (os:Array Obj) (wq:World),Calls pg 178 #[.string s] (eu (wq.drewN n) os) fun e w'=>e= .returned (wv s)∧ ∃q GK,w'=eu ((eu (wq.drewN n) os).drewN q) GK:=by rw [hwv];exact hW
 have hC': ∀(n:Nat) (os:Array Obj) (wq:World),Calls pg 177 #[wv k1,wv k2] (eu (wq.drewN n) os) fun e w'=>e= .returned (I c)∧ ∃q GK,w'=eu ((eu (wq.drewN n) os).drewN q) GK:=by rw [hwv];exact hC
 clear hW hC hwv h1;have G:iX W ((W.alloc (.cells #[.string k1,a1,a2,a3] 118)).alloc (.cells #[.string k2,b1,b2,b3] 118)):=((iX.refl W).alloc _).alloc _;have c1:((W.alloc (.cells #[.string k1,a1,a2,a3] 118)).alloc (.cells #[.string k2,b1,b2,b3] 118)).heap[W.heap.size]? =some (.cells #[.string k1,a1,a2,a3] 118 (0,0)):=by
  rw [heap_alloc_old (h:=by show _<(W.heap.push _).size;simp)];exact heap_alloc_new _ _
 have c2:=heap_alloc2_new W (.cells #[.string k1,a1,a2,a3] 118) (.cells #[.string k2,b1,b2,b3] 118)
 go_enter Tryz.func176,Tryz.ntmps176
 go_wp2_with fail
 clear hC;have l1: ∀(n:Nat) (os:Array Obj),(eu (((W.alloc (.cells #[.string k1,a1,a2,a3] 118)).alloc (.cells #[.string k2,b1,b2,b3] 118)).drewN n) os).cell? ⟨W.heap.size,0,none⟩=some (.string k1):=fun n os=>by
  have:=iX.row (W:=(W.alloc (.cells #[.string k1,a1,a2,a3] 118)).alloc (.cells #[.string k2,b1,b2,b3] 118)) ⟨n,os,rfl⟩ c1;simp [ru,this]
 have l2: ∀(n:Nat) (os:Array Obj),(eu (((W.alloc (.cells #[.string k1,a1,a2,a3] 118)).alloc (.cells #[.string k2,b1,b2,b3] 118)).drewN n) os).cell? ⟨W.heap.size+1,0,none⟩=some (.string k2):=fun n os=>by
  have:=iX.row (W:=(W.alloc (.cells #[.string k1,a1,a2,a3] 118)).alloc (.cells #[.string k2,b1,b2,b3] 118)) ⟨n,os,rfl⟩ c2;simp [ru,this]
 clear c1 c2;generalize (W.alloc (.cells #[.string k1,a1,a2,a3] 118)).alloc (.cells #[.string k2,b1,b2,b3] 118)=wq at G l1 l2⊢;replace Ff:=fun s n os=>Ff s n os wq;replace hC':=fun n os=>hC' n os wq
 go_quiet_grown (first|(go_at_call 178;refine yO (Ff _ _ _))|(go_at_call 177;refine yO (hC' _ _)))
 go_wp2
 all_goals (try simp only [nj,qx])
 refine bodyPost_ret (results_tmp (t:=4) kQ _ _ _) rfl ⟨rfl,G.trans ⟨_,_,rfl⟩⟩
theorem LD: ∀l:List UInt8,cG l l=false
 |[]=>rfl
 |a::l=>by simp [cG,LD l,qP]
theorem OJ: ∀{a b:List UInt8},cG a b=true→cG b a=false
 |_,[],h=>by simp [cG] at h
 |[],_::_,_=>by simp [cG]
 |a::l,b::m,h=>by
  simp only [cG,iM,aV,decide_eq_true_eq,beq_iff_eq,ni,mK,decide_eq_false_iff_not] at h⊢;rcases h with h|⟨rfl,h⟩
  ·exact⟨UInt8.not_lt.2 (UInt8.le_of_lt h),.inl (by simp;rintro rfl;exact qP _ h)⟩
  ·exact⟨qP _,.inr (OJ h)⟩
theorem OK: ∀{a b:List UInt8},cG a b=false→a≠b→cG b a=true
 |[],[],_,h=>absurd rfl h
 |_::_,[],_,_=>by simp [cG]
 |[],_::_,h,_=>by simp [cG] at h
 |a::l,b::m,h,bW=>by
  simp only [cG,iM,aV,decide_eq_true_eq,beq_iff_eq,ni,mK,decide_eq_false_iff_not] at h⊢;obtain⟨h1,h2⟩:=h;by_cases xB:a=b
  ·subst xB;right;refine⟨rfl,OK ?_ fun e=>bW (by rw [e])⟩;rcases h2 with h2|h2
   ·simp at h2
   ·exact h2
  ·left;exact UInt8.lt_of_le_of_ne (UInt8.not_lt.1 h1) (Ne.symm xB)
theorem OL: ∀{a b c:List UInt8},cG a b=true→cG b c=true→cG a c=true
 |[],[],_,h,_=>by simp [cG] at h
 |[],_::_,[],_,h=>by simp [cG] at h
 |[],_::_,_::_,_,_=>by simp [cG]
 |_::_,[],_,h,_=>by simp [cG] at h
 |_::_,_::_,[],_,h=>by simp [cG] at h
 |a::l,b::m,c::r,h1,h2=>by
  simp only [cG,iM,aV,decide_eq_true_eq,beq_iff_eq] at h1 h2⊢;rcases h1 with h1|⟨rfl,h1⟩
  ·rcases h2 with h2|⟨rfl,h2⟩
   ·exact .inl (UInt8.lt_trans h1 h2)
   ·exact .inl h1
  ·rcases h2 with h2|⟨rfl,h2⟩
   ·exact .inl h2
   ·exact .inr ⟨rfl,OL h1 h2⟩
theorem YP (a:ByteArray):ou a a=false:=LD _
theorem aaG {a b:ByteArray} (h:ou a b=true):ou b a=false:=OJ h
theorem Ra {a b c:ByteArray} (h1:ou a b=true) (h2:ou b c=true):ou a c=true:=OL h1 h2
theorem Rb {a b:ByteArray} (h:ou a b=false) (bW:a≠b):ou b a=true:=OK h fun e=>bW (by
 rw [gK,gK] at e;exact ByteArray.ext (Array.toList_inj.1 e))
def cfW (x y:KV):Int:=KD x.key y.key
def YQ (s t:ByteArray):Bool:=decide (lW s<lW t)||(decide (lW s=lW t)&&ou (pe s) (pe t))
theorem Rc (x y:KV):sc cfW x y=YQ x.key y.key:=by
 unfold sc cfW KD YQ;by_cases h1:lW x.key<lW y.key
 ·simp [h1]
 ·by_cases h2:lW y.key<lW x.key
  ·simp [h1,h2,show¬lW x.key=lW y.key by omega]
  ·have h3:lW x.key=lW y.key:=by omega
   cases h:ou (pe x.key) (pe y.key)
   ·by_cases h4:pe x.key=pe y.key<;>simp [h4,h3,h]<;>simp [←h4,h]
   ·simp [h3,h]
theorem YR {a b c:ByteArray} (h1:ou a b=false) (h2:ou b c=false):ou a c=false:=by
 by_cases e1:a=b
 ·rw [e1];exact h2
 by_cases e2:b=c
 ·rw [←e2];exact h1
 exact aaG (Ra (Rb h2 e2) (Rb h1 e1))
theorem afY:Go.Sort.SWO (sc cfW) where
 irrefl x:=by rw [Rc];simp [YQ,YP]
 trans x y z:=by
  simp only [Rc,YQ,iM,aV,decide_eq_true_eq];rintro(h|⟨h,h'⟩) (k|⟨k,k'⟩)
  ·left;omega
  ·left;omega
  ·left;omega
  ·right;exact⟨by omega,Ra h' k'⟩
 ntrans x y z:=by
  simp only [Rc,YQ,ni,mK,decide_eq_false_iff_not];rintro⟨h,h'⟩ ⟨k,k'⟩;refine⟨by omega,?_⟩;rcases h' with h'|h'
  ·left;omega
  ·rcases k' with k'|k'
   ·left;omega
   ·right;exact YR h' k'
instance:Inhabited KV:=⟨⟨⟨#[]⟩,⟨0,0,⟨#[]⟩⟩⟩⟩
theorem PI {w:World} {X:XS} {lo:Nat} {v:Value} {xs:List KV} (own:Own w X lo 118 4 v (xs.map KV.l)) (hb:xs.length<2^61):
  Ct pg 175 #[v,.func (.func 176) #[] #[]] w X (dK v) fun r _ w'=>r= .tuple #[]∧ ∃ys:List KV,ys.Perm xs∧Own w' (dK v) lo 118 4 v (ys.map KV.l):=by
 have h:=aaH (P:=pg) (ρ:=Tryz.OC) Tryz.afW (k:=4) zQ Tryz.isAgg118 Tryz.sizeOf118 (enc:=KV.l) (fun _=>rfl)
  (fun x u hu=>by simp only [KV.l,List.mem_cons,gn,or_false] at hu;rcases hu with h|h|h|h<;>subst h<;>rfl) (cf:=cfW) afY (g:=176)
  (Go.Proofs.enters_of Tryz.func176 kQ rfl) (fun x y W=>Ue x.key y.key _ _ _ _ _ _ W) own hb
 exact h.mono fun v wa w' _ ⟨h1,ys,h2,_,h3⟩=>⟨h1,ys,h2,h3⟩
end Go.Proofs.YtfndblbeikocdaaGreat
namespace Go.Proofs.YtfndblbeikocdaaGreat
open Go.Proofs.Tryz renaming prog → pg
open Go.bu
set_option maxRecDepth 100000
set_option maxHeartbeats 1000000
set_option linter.unusedVariables false
set_option linter.unusedSimpArgs false
attribute [local irreducible] un jn aF aT ld1 ew st1 dt cB lS dV lT uN tG gq fW ad az aJ eW eV eU eC eF gE au fin aQ aM aH vS xt gp il pR uO xu xv xw xx gm im pS uP xy xz xA
structure Ev where
 ko:Value
 bU:dX
 aw:aK
 writes:List KV
abbrev Ev.l (x:Ev):List Value:=[I x.bU.iH,I x.bU.lg,I x.bU.sq,I x.aw.wall,I x.aw.dp,I x.aw.node,x.ko]
structure dN (w:World) (X:XS) (lo:Nat) (v:Value) (es:List Ev):Prop where
 own:Own w X lo 69 7 v (es.map Ev.l)
 ws: ∀x∈es,Own w X lo 118 4 x.ko (x.writes.map KV.l)
 ap:es.Pairwise fun x y=> ∀g,x.ko.ownBlock=some g→y.ko.ownBlock≠some g
def sG (v:Value) (es:List Ev):XS:=fun b=>v.ownBlock=some b∨ ∃x∈es,x.ko.ownBlock=some b
theorem dN.nil (w:World) (X:XS) (lo:Nat):dN w X lo (.slice none 0 0) []:=⟨Own.nil _ _ _ _ _,by simp,by simp⟩
theorem dN.dF {w w':World} {X X' G:XS} {lo:Nat} {v:Value} {es:List Ev} (h:dN w X lo v es) (c:ef G X w X' w') (hG: ∀k,G k→k<lo):dN w' X' lo v es:=
 ⟨h.own.dF c fun g hg hb=>by have:=(h.own.ge hg).1;have:=hG g hb;omega,fun x hx=>(h.ws x hx).dF c fun g hg hb=>by have:=((h.ws x hx).ge hg).1;have:=hG g hb;omega,h.ap⟩
theorem dN.fin {w w0 wa:World} {X:XS} {v:Value} {es:List Ev} (h:dN w X w0.heap.size v es) (hk:Kp X w wa):dN wa (made w0 wa) w0.heap.size v es:=⟨(h.own.kp hk).tight,fun x hx=>((h.ws x hx).kp hk).tight,h.ap⟩
theorem dN.mv {w w':World} {X X':XS} {lo:Nat} {v:Value} {es:List Ev} (h:dN w X lo v es) (m:Mv X w X' w'):dN w' X' lo v es:=⟨h.own.mv m,fun x hx=>(h.ws x hx).mv m,h.ap⟩
theorem Vg {w:World} {X:XS} {lo e k:Nat} {v:Value} {rows:List (List Value)} (h:Own w X lo e k v rows) {g:Nat} (hg:v.ownBlock=some g): ∃cs:List Value,w.heap[g]? =some (.cells cs.toArray e (0,0)):=by
 rcases h.row with⟨rfl,_⟩|⟨b,cap,cs,rfl,_,hr,_⟩
 ·cases hg
 ·simp only [ec,ax] at hg;exact⟨cs,hg▸hr.2⟩
theorem jA {w:World} {X X':XS} {lo Vh e e' k k':Nat} {v v':Value} {rows afZ:List (List Value)} (h:Own w X lo e k v rows) (h':Own w X' Vh e' k' v' afZ) (he:e≠e') {g:Nat} (hg:v.ownBlock=some g):v'.ownBlock≠some g:=fun gl=>by
 obtain⟨cs,h1⟩:=Vg h hg;obtain⟨rn,h2⟩:=Vg h' gl;rw [h1] at h2;exact he (by injection h2 with h2;injection h2)
theorem dN.add {w w':World} {X X':XS} {lo:Nat} {v v':Value} {es:List Ev} {t:dX} {s:aK} (h:dN w X lo v es) (c:ef (dK v) X w X' w')
  (ho:Own w' X' lo 69 7 v' (es.map Ev.l++[(⟨.slice none 0 0,t,s,[]⟩:Ev).l])):dN w' X' lo v' (es++[⟨.slice none 0 0,t,s,[]⟩]):=by
 refine⟨by rw [bo];exact ho,fun x hx=>?_,?_⟩
 ·rcases List.mem_append.1 hx with hx|hx
  ·exact(h.ws x hx).dF c fun g hg hb=>jA (h.ws x hx) h.own (by decide) hg hb
  ·rw [List.mem_singleton.1 hx];exact Own.nil _ _ _ _ _
 ·rw [List.pairwise_append];refine⟨h.ap,by simp,fun x _ y hy=>?_⟩;rw [List.mem_singleton.1 hy];intro g _ hg;cases hg
theorem Re {k:Nat} {o:Nat} {u:Value} (ho:o<k): ∀{rows:List (List Value)} {i:Nat} {r:List Value},(∀r∈rows,r.length=k)→rows[i]? =some r→rows.flatten.set (i*k+o) u=(rows.set i (r.set o u)).flatten
 |[],i,r,_,h=>by simp at h
 |a::rows,0,r,hr,h=>by
  have hk:=hr a (di);simp only [List.getElem?_cons_zero,ax] at h;subst h;rw [Nat.zero_mul,ee,dP,lL,dP,List.set_append_left _ _ zQ]
 |a::rows,i+1,r,hr,h=>by
  have hk:=hr a (di);rw [jz] at h;rw [dP,tJ,dP,mJ _ _ (by rw [hk,Nat.succ_mul];omega),hk,show(i+1)*k+o-k=i*k+o by rw [Nat.succ_mul];omega,
   Re ho (fun r' jm=>hr r' (bG _ jm)) h]
theorem AN {α:Type} {R:α→α→Prop} {y:α} : ∀{l:List α} {i:Nat},l.Pairwise R→(∀j z,j<i→l[j]? =some z→R z y)→(∀j z,i<j→l[j]? =some z→R y z)→(l.set i y).Pairwise R
 |[],i,_,_,_=>by simp
 |a::l,0,h,_,h2=>by
  rw [lL,jJ];refine⟨fun z hz=>?_,(List.pairwise_cons.1 h).2⟩;obtain⟨j,hj⟩:=List.mem_iff_getElem?.1 hz;exact h2 (j+1) z zQ (by rwa [jz])
 |a::l,i+1,h,h1,h2=>by
  rw [tJ,jJ];refine⟨fun z hz=>?_,AN (List.pairwise_cons.1 h).2 (fun j z hj hz=>h1 (j+1) z zQ (by rwa [jz])) (fun j z hj hz=>h2 (j+1) z zQ (by rwa [jz]))⟩;rcases lf hz with hz|rfl
  ·exact(List.pairwise_cons.1 h).1 z hz
  ·exact h1 0 a zQ rfl
theorem dN.grow {w w1:World} {X X1:XS} {lo:Nat} {v h':Value} {es:List Ev} {i:Nat} {x:Ev} {Rf:List KV} (h:dN w X lo v es) (hx:es[i]? =some x) (c:ef (dK x.ko) X w X1 w1)
  (dy:Own w1 X1 lo 118 4 h' (Rf.map KV.l)) (fm:h'.ownBlock=x.ko.ownBlock∨ ∃g,h'.ownBlock=some g∧w.heap.size≤g):
  ∃g cap cs,v= .slice (some ⟨g,0,none⟩) es.length cap∧bI w1 X1 g cs 69∧es.length*7≤cs.length∧
   ∀w2 X2,ef (· =g) X1 w1 X2 w2→bI w2 X2 g (cz cs (i*7+6) [h']) 69→dN w2 X2 lo v (es.set i { x with ko:=h',writes:=Rf }):=by
 have gR:=aA hx;have tL:=(List.getElem?_eq_some_iff.1 hx).1;rcases h.own.row with⟨_,he⟩|⟨g,cap,cs,hv,eo,hr,jh,iB,oz,iE⟩
 ·rw [List.map_eq_nil_iff] at he;rw [he] at hx;simp at hx
 rw [ay] at hv jh iE;have Rg: ¬dK x.ko g:=fun hb=>jA (h.ws x gR) h.own (by decide) hb (by rw [hv];rfl);have hle:es.length*7≤cs.length:=by rw [oz];exact Nat.mul_le_mul_right _ jh
 have hp:i*7+6<es.length*7:=by omega
 have adW: ∀y∈es,(∀b,y.ko.ownBlock=some b→ ¬dK x.ko b)→Own w1 X1 lo 118 4 y.ko (y.writes.map KV.l):=fun y hy hb=>(h.ws y hy).dF c hb;have bW: ∀y∈es,y.ko.ownBlock≠some g:=fun y hy hb=>jA (h.ws y hy) h.own (by decide) hb (by rw [hv];rfl);have agN:h'.ownBlock≠some g:=fun hb=>by
  rcases fm with fm|⟨b,fm,dU⟩
  ·exact bW x gR (by rw [←fm];exact hb)
  ·rw [fm] at hb;cases hb;have:=hr.lt;omega
 have hold: ∀y∈es,∀b,y.ko.ownBlock=some b→b<w.heap.size:=fun y hy b hb=>((h.ws y hy).ge hb).2;have nk: ∀y∈es,(∀b,y.ko.ownBlock=some b→ ¬dK x.ko b)→ ∀b,y.ko.ownBlock=some b→h'.ownBlock≠some b:=fun y hy GB b hb fF=>by
  rcases fm with fm|⟨b',fm,dU⟩
  ·exact GB b hb (by show x.ko.ownBlock=some b;rw [←fm];exact fF)
  ·rw [fm] at fF;cases fF;have:=hold y hy _ hb;omega
 refine⟨g,cap,cs,hv,mW hr c Rg,hle,fun w2 X2 c2 tH=>?_⟩;have yK: ∀(j:Nat) (y:Ev),j≠i→es[j]? =some y→ ∀b,y.ko.ownBlock=some b→ ¬dK x.ko b:=fun j y hj hy b hb fF=>by
  obtain⟨rv,rfl⟩:=List.getElem?_eq_some_iff.1 hy;obtain⟨_,GL⟩:=List.getElem?_eq_some_iff.1 hx;rcases tK hj with cK|Vi
  ·exact List.pairwise_iff_getElem.1 h.ap j i rv tL cK b hb (by rw [GL];exact fF)
  ·exact List.pairwise_iff_getElem.1 h.ap i j tL rv Vi b (by rw [GL];exact fF) hb
 refine⟨?_,?_,?_⟩
 ·rw [hv];refine Own.vM (cs:=cz cs (i*7+6) [h']) tH eo ?_ (by simp) zQ iB ?_ ?_
  ·intro r jm;obtain⟨y,_,rfl⟩:=List.mem_map.1 jm;rfl
  ·rw [KE zQ];simpa using oz
  ·rw [KE zQ,List.take_set,iE,
    Re (k:=7) (o:=6) zQ (r:=x.l) (by intro r jm;obtain⟨y,_,rfl⟩:=List.mem_map.1 jm;rfl) (by rw [dQ,hx];rfl),List.map_set]
   rfl
 ·intro y hy;obtain⟨j,hj⟩:=List.mem_iff_getElem?.1 hy;by_cases vC:i=j
  ·subst vC;rw [mw tL] at hj;cases hj;exact dy.dF c2 fun b hb e=>agN (by rw [hb,e])
  ·rw [nh vC] at hj;have hm:=aA hj;exact(adW y hm (yK j y (Ne.symm vC) hj)).dF c2 fun b hb e=>bW y hm (by rw [hb,e])
 ·refine AN h.ap (fun j z hj hz b hb=>?_) (fun j z hj hz b hb fF=>?_)
  ·exact nk z (aA hz) (yK j z zQ hz) b hb
  ·exact nk z (aA hz) (yK j z zQ hz) b fF hb
theorem dN.adX {w w1:World} {X X1:XS} {lo:Nat} {v:Value} {es:List Ev} {i:Nat} {x:Ev} {Rf:List KV} (h:dN w X lo v es) (hx:es[i]? =some x) (c:ef (dK x.ko) X w X1 w1)
  (dy:Own w1 X1 lo 118 4 x.ko (Rf.map KV.l)):dN w1 X1 lo v (es.set i { x with writes:=Rf }):=by
 have gR:=aA hx;have tL:=(List.getElem?_eq_some_iff.1 hx).1;have yK: ∀(j:Nat) (y:Ev),j≠i→es[j]? =some y→ ∀b,y.ko.ownBlock=some b→ ¬dK x.ko b:=fun j y hj hy b hb fF=>by
  obtain⟨rv,rfl⟩:=List.getElem?_eq_some_iff.1 hy;obtain⟨_,GL⟩:=List.getElem?_eq_some_iff.1 hx;rcases tK hj with cK|Vi
  ·exact List.pairwise_iff_getElem.1 h.ap j i rv tL cK b hb (by rw [GL];exact fF)
  ·exact List.pairwise_iff_getElem.1 h.ap i j tL rv Vi b (by rw [GL];exact fF) hb
 have hl:(es.set i { x with writes:=Rf }).map Ev.l=es.map Ev.l:=by
  rw [List.map_set];refine List.ext_getElem? fun j=>?_;rw [List.getElem?_set];split
  ·subst_vars;rw [ay,if_pos tL,dQ,hx];rfl
  ·rfl
 refine⟨by rw [hl];exact h.own.dF c fun g hg hb=>jA h.own (h.ws x gR) (by decide) hg hb,fun y hy=>?_,?_⟩
 ·obtain⟨j,hj⟩:=List.mem_iff_getElem?.1 hy;by_cases vC:i=j
  ·subst vC;rw [mw tL] at hj;cases hj;exact dy
  ·rw [nh vC] at hj;exact(h.ws y (aA hj)).dF c (yK j y (Ne.symm vC) hj)
 ·refine AN h.ap (fun j z hj hz b hb fF=>?_) (fun j z hj hz b hb fF=>?_)
  ·exact yK j z zQ hz b hb fF
  ·exact yK j z zQ hz b fF hb
structure qy where
 bU:dX
 aw:aK
 writes:List KV
def Ev.e (x:Ev):qy:=⟨x.bU,x.aw,x.writes⟩
def nZ (es:List qy) (f:eB):List qy:=
 match es.getLast? with
 |none=>es++[⟨f.bU,f.aw,f.writes⟩]
 |some e=>if e.bU=f.bU then es.dropLast++[{ e with writes:=e.writes++f.writes }] else es++[⟨f.bU,f.aw,f.writes⟩]
def mO (l:List eB):List qy:=l.foldl nZ []
theorem KF (l:List eB) (f:eB):mO (l++[f])=nZ (mO l) f:=by simp [mO]
theorem Uf (f:eB):nZ [] f=[⟨f.bU,f.aw,f.writes⟩]:=rfl
theorem vN (es:List qy) (e:qy) (f:eB):nZ (es++[e]) f=if e.bU=f.bU then es++[{ e with writes:=e.writes++f.writes }] else es++[e]++[⟨f.bU,f.aw,f.writes⟩]:=by
 simp [nZ]
theorem oA {α:Type} : ∀l:List α,l=[]∨ ∃l0 a,l=l0++[a]:=fun l=>by
 rcases List.eq_nil_or_concat l with h|⟨l0,a,h⟩
 ·exact .inl h
 ·exact .inr ⟨l0,a,by simpa using h⟩
theorem Ug (es:List qy) (f:eB):((nZ es f).map fun e=>e.writes.length).sum=(es.map fun e=>e.writes.length).sum+f.writes.length∧(nZ es f).length≤es.length+1:=by
 rcases oA es with rfl|⟨l0,e,rfl⟩
 ·simp [Uf]
 ·rw [vN];split<;>simp<;>omega
theorem ux: ∀(l:List eB) (es:List qy),((l.foldl nZ es).map fun e=>e.writes.length).sum=(es.map fun e=>e.writes.length).sum+(l.map fun f=>f.writes.length).sum∧(l.foldl nZ es).length≤es.length+l.length
 |[],es=>by simp
 |f::l,es=>by
  rw [List.foldl_cons];have h1:=Ug es f;have h2:=ux l (nZ es f);simp only [bB,List.sum_cons,List.length_cons];omega
theorem Il {α:Type} {g:α→Nat} {a:α} : ∀{l:List α},a∈l→g a≤(l.map g).sum
 |b::l,h=>by
  rw [bB,List.sum_cons];rcases List.mem_cons.1 h with rfl|h
  ·omega
  ·have:=Il (g:=g) h;omega
theorem Ee {α:Type} {g:α→Nat} (l:List α) (n:Nat):((l.take n).map g).sum≤(l.map g).sum:=by
 conv=>rhs;rw [←cD n l,bo,List.sum_append]
 omega
theorem adY {l:List KV} : ∀r∈l.map KV.l,∀u∈r,bu.one u=true:=fun r hr u hu=>by
 obtain⟨y,_,rfl⟩:=List.mem_map.1 hr;simp only [KV.l,List.mem_cons,gn,or_false] at hu;rcases hu with rfl|rfl|rfl|rfl<;>rfl
theorem Uh {w:World} {X F:XS} {sb:Nat} {hv:Value} {hl:List FV} {s:aK} (h:gD w F sb hv hl) (hF:FX F X w) (hn:hl.length≤2^39) (MZ:(hl.map fun x=>x.2.writes.length).sum≤2^40):
  Ct pg 129 #[ptr sb 0,s.v] w X F fun v wa w'=> ∃F' j5 es n,(∀k,F' k→F k∨made wa w' k)∧gD w' F' sb j5 (hl.drop n)∧dN w' (made wa w') wa.heap.size v es∧
   n≤hl.length∧(∀x∈hl.take n,x.2.aw.cmp s≤0)∧(∀x,hl[n]? =some x→ ¬x.2.aw.cmp s≤0)∧es.length=(mO ((hl.take n).map (·.2))).length∧(∀b,sG v es b→ ¬F' b)∧
   ∀(i:Nat) e x,(mO ((hl.take n).map (·.2)))[i]? =some e→es[i]? =some x→x.bU=e.bU∧x.aw=e.aw∧x.writes.Perm e.writes:=by
 intro w0 hk;replace h:=h.mv (hF.mv hk);have hT:=hF.ft hk;have lF: ∀k,F k→k<w0.heap.size:=hT.bg;have ry: ∀{w X w' X' G},Ft w0 F w X F→ef G X w X' w'→(∀k,G k→X k∧w0.heap.size≤k)→gD w F sb hv hl→Ft w0 F w' X' F∧gD w' F sb hv hl:=fun hT c hG h=>
  ⟨hT.new.dF c (fun k hk=>.inr (hG k hk)) fun k hk=>.inl (.inl hk),h.mv fun k hk _=>⟨hk,c.block k (hT.bg k hk) fun hg=>by have:=lF k hk;have:=(hG k hg).2;omega⟩⟩
 apply IN;unfold zw;refine gb (fun n a b w X=> ∃(i:Nat) (es:List Ev),a=I i∧n=hl.length-i∧i≤hl.length∧Ft w0 F w X F∧gD w F sb hv hl∧dN w X w0.heap.size b es∧
  es.map Ev.e=mO ((hl.take i).map (·.2))∧ ∀x∈hl.take i,x.2.aw.cmp s≤0) hl.length ⟨0,[],rfl,rfl,aN _,hT,h,dN.nil _ _ _,rfl,by simp⟩ ?_
 clear hT h;rintro n a v w X ⟨i,es,rfl,rfl,hi,hT,h,hE,Fg,YS⟩;have hs:=hT.s;have eX:=h.box.mv (Mv.sub hT.bg);have mg:=(h.ow.mono hT.bg).sl;have JE:=hE.own.sl;have ln:=mg.len;have le:=JE.len;rcases eb hl i with⟨cK,x,hx,hd⟩|⟨dU,hd⟩;have ox:=(h.ws x (aA hx)).one;have LF:=((h.ws x (aA hx)).mono hT.bg).sl;repeat' first|refine bO ?_;intros
 refine dG ?_;repeat' first|refine aD ?_;intros
 refine fX (ic _ _) kQ hs.has ?_;intro w1 X1 aq;have rr:=aq.jB hT.bg;have de:=hT.since aq;have h1:=h.mv rr;have AH:=hE.mv aq.mv;have hs:=de.s;have eX:=h1.box.mv (Mv.sub de.bg);have mg:=(h1.ow.mono de.bg).sl;have LF:=((h1.ws x (aA hx)).mono de.bg).sl;have JE:=AH.own.sl;clear hT h hE;repeat' first|refine aD ?_;intros|refine dD ?_ ?_<;>intros
 ·refine iu (fun k=> ∀v' w X oX e,Ft w0 F w X F→gD w F sb hv hl→dN w X w0.heap.size v' (oX++[e])→
   (oX++[{ e with writes:=e.writes++x.2.writes }]).map Ev.e=mO ((hl.take (i+1)).map (·.2))→k v' w X) ?_ ?_
  ·intro v' w X oX e hT h hE adZ;have hs:=hT.s;have JE:=hE.own.sl;have le:=JE.len;simp only [ay,ae,bD] at le;have Im:(oX++[e])[oX.length]? =some e:=by simp
   have gR:=aA Im;rcases hE.own.row with⟨_,Wh⟩|⟨g,cap,cs,rfl,eo,bE,jh,iB,oz,iE⟩
   ·simp at Wh
   simp only [ay,ae,bD] at*;have agO: ∃A B,cs=A++e.l++B∧A.length=oX.length*7:=by
    refine⟨(oX.map Ev.l).flatten,cs.drop ((oX.length+1)*7),?_,by rw [gQ (k:=7) (by intro r hr;obtain⟨y,_,rfl⟩:=List.mem_map.1 hr;rfl)];simp⟩;have e1:=(cD ((oX.length+1)*7) cs).symm;rw [iE] at e1;exact e1.trans (by simp)
   obtain⟨A,Z,rfl,hA⟩:=agO;have ais:Cells w X g (oX.length*7) e.l:=⟨bE.1,_,_,_,bE.2,fun j u hj=>by
    rw [List.getElem?_toArray,←hA,aB,List.getElem?_append_right zQ,Nat.add_sub_cancel_left,List.getElem?_append_left (List.getElem?_eq_some_iff.1 hj).1];exact hj⟩
   have LG:(oX++[e]).length=oX.length+1:=by simp
   refine yP JE kQ ?_;rw [LG];clear JE;repeat' first|refine aD ?_;intros
   refine Qr (i:=oX.length) zQ zQ kQ kQ ?_;have hwe:=hE.ws e gR;have LF:=((h.ws x (aA hx)).mono hT.bg).sl;have oe:=hwe.sl.one;repeat' first|refine aD ?_;intros
   have Yz:e.writes.length+x.2.writes.length≤2^40:=by
    have h1:=(ux ((hl.take (i+1)).map (·.2)) []).1;have h2:=Il (g:=fun e:qy=>e.writes.length) (a:=⟨e.bU,e.aw,e.writes++x.2.writes⟩) (l:=mO ((hl.take (i+1)).map (·.2))) (by rw [←adZ];simp [Ev.e]);have h3:=Ee (g:=fun x:FV=>x.2.writes.length) hl (i+1);simp only [List.map_map,gw,List.map_nil,List.sum_nil,ee,ae] at h1 h2;unfold mO at h2;omega
   refine qG hwe hT.s.has hT.s.kp.size kQ LF adY (by simp only [ay];omega) (by simp only [ay];omega) fun v2 w2 X2 c2 jb agP=>?_;obtain⟨g',aiy,rn,j5,jm,agQ,Wj⟩:=hE.grow Im c2 (Rf:=e.writes++x.2.writes) (by rw [bo];exact jb) agP;have Fh:g=g':=by simp only [Value.slice.injEq,ax,Addr.mk.injEq] at j5;exact j5.1.1
   subst Fh;have rz:=ry hT c2 (fun k ah=>⟨hwe.2.2 k ah,(hwe.ge ah).1⟩) h;have hs:=rz.1.s;repeat' first|refine aD ?_;intros
   refine Af (o:=oX.length*7+6) jm zQ kQ (by rw [LG] at agQ;omega) jb.sl.one rz.1.s.has fun w3 X3 c3 oY=>?_;have LH:=Wj w3 X3 c3 oY;have AO:=ry rz.1 c3 (fun k ah=>by subst ah;exact⟨jm.1,eo⟩) rz.2;rw [mJ _ _ (bK _),Nat.sub_self,lL] at LH;have hs:=AO.1.s;repeat' first|refine aD ?_;intros
   refine eM (hl.length-(i+1)) zQ ⟨i+1,_,by simp,rfl,by omega,AO.1,AO.2,LH,by simpa [Ev.e] using adZ,?_⟩;intro y hy;rw [bc,hx] at hy;rcases List.mem_append.1 hy with hy|hy
   ·exact YS y hy
   ·simp only [iI,en] at hy;subst hy;assumption
  ·intro K hK;have hlen:es.length≤i:=by
    have h1:=(ux ((hl.take i).map (·.2)) []).2;have h2:=congrArg ao Fg;unfold mO at h2;simp only [ay,dj,ee,aW] at h1 h2;omega
   have iE:(hl.take (i+1)).map (·.2)=(hl.take i).map (·.2)++[x.2]:=by rw [bc,hx];simp
   have np:(∀e,es.getLast? =some e→e.bU≠x.2.bU)→ ∀{w X} {bv:Value} {lo:Nat},ak X1 w1 X w→Own w X lo 69 7 bv [(⟨.slice none 0 0,x.2.bU,x.2.aw,[]⟩:Ev).l]→
     eV pg (AP F w0 fun v w'=> ∃F' j5 es n,(∀k,F' k→F k∨made w0 w' k)∧gD w' F' sb j5 (hl.drop n)∧dN w' (made w0 w') w0.heap.size v es∧
  n≤hl.length∧(∀x∈hl.take n,x.2.aw.cmp s≤0)∧(∀x,hl[n]? =some x→ ¬x.2.aw.cmp s≤0)∧es.length=(mO ((hl.take n).map (·.2))).length∧(∀b,sG v es b→ ¬F' b)∧
  ∀(i:Nat) e x,(mO ((hl.take n).map (·.2)))[i]? =some e→es[i]? =some x→x.bU=e.bU∧x.aw=e.aw∧x.writes.Perm e.writes) X w true (fW 63 69 7 72 63 v bv) K:=by
    intro bW w X bv lo aq ho;have b8:=de.since aq;have uQ:=AH.mv aq.mv;have h2:=h1.mv (aq.jB de.bg);refine qG uQ.own b8.s.has b8.s.kp.size kQ ho.sl (by simp [bu.one]) (by simp only [ay,bD];omega) (by simp only [ay,bD];omega) fun v3 w3 X3 c3 Rh ad0=>?_;have AO:=ry b8 c3 (fun k ah=>⟨uQ.own.2.2 k ah,(uQ.own.ge ah).1⟩) h2;refine hK _ _ _ es ⟨.slice none 0 0,x.2.bU,x.2.aw,[]⟩ AO.1 AO.2 (uQ.add c3 Rh) ?_;rw [iE,KF,←Fg];rcases oA es with rfl|⟨l0,e,rfl⟩
    ·rfl
    ·rw [bo,bo,lM,lM,vN,if_neg (show¬e.e.bU=x.2.bU from bW e (by simp))];rfl
   rcases oA es with rfl|⟨oX,e,rfl⟩
   ·have LG:([]:List Ev).length=0:=rfl;repeat' first|refine bO ?_;intros|(with_reducible apply vO);(case hX=>exact hs.has);(case he=>kernel_rfl);(case hk=>rfl);intro acc w X aq ho;obtain⟨_,_,_,rfl⟩:=ho.sl.form;replace hs:=hs.trans aq
    exact np (by simp) (by assumption) (by assumption)
   ·have Im:(oX++[e])[oX.length]? =some e:=by simp
    have LG:(oX++[e]).length=oX.length+1:=by simp
    have le2:oX.length+1≤i:=by rw [←LG];exact hlen
    repeat' first|refine bO ?_;intros|(with_reducible apply Ri);(· kernel_rfl);all_goals intros|(with_reducible apply vO);(case hX=>exact hs.has);(case he=>kernel_rfl);(case hk=>rfl);intro acc w X aq ho;obtain⟨_,_,_,rfl⟩:=ho.sl.form;replace hs:=hs.trans aq
    ·exact np (fun e' AQ ht=>by
      simp at AQ;subst AQ;exact ‹¬(_∧_∧_)› ⟨congrArg (·.iH) ht,congrArg (·.lg) ht,congrArg (·.sq) ht⟩) (by assumption) (by assumption)
    ·refine hK _ _ _ oX e de h1 AH ?_;rw [iE,KF,←Fg,bo,bo,lM,lM,vN,if_pos (show e.e.bU=x.2.bU from by cases hq:e.bU;cases hq2:x.2.bU;simp_all [Ev.e])];rfl
 have hT:=de;have h:=h1;have hE:=AH;clear de h1 AH;have nk: ∀y,hl[i]? =some y→ ¬y.2.aw.cmp s≤0:=fun y hy=>by
  rw [hx] at hy;cases hy;assumption
 clear hx hd cK ox LF
 rotate_left
 have nk: ∀y,hl[i]? =some y→ ¬y.2.aw.cmp s≤0:=fun y hy=>by
  rw [List.getElem?_eq_none dU] at hy;cases hy
 repeat' first|refine aD ?_;intros|with_reducible apply dG
 all_goals
  refine hT.call (YI h.ow hT.bg (fun y hy=>(h.ws y hy).one) hi zQ) kQ (fun k ah=>(h.ow.bg ah).1) ?_;rintro v2 yM w2 X2 ⟨F1,jb,Fi⟩ nW kZ b8 c2;have hlen:=hT.s.has;have Ou: ¬dK hv sb:=fun ah=>h.ow.gd h.box kQ ah;have Fj:=mW (h.box.mv (Mv.sub hT.bg)) c2 Ou;repeat' first|refine aD ?_;intros
  refine Af (o:=0) Fj zQ kQ (by simp) jb.one b8.s.has fun w3 X3 c3 oY=>?_;have LH:=(hE.dF c2 fun k ah=>lF k (h.ow.bg ah).1).dF c3 fun k ah=>by subst ah;exact lF _ h.box.1
  have aaI: ∀k,F1 k→X2 k:=fun k ah=>by
   rcases Fi k ah with hb|hm
   ·exact c2.sub k (hT.bg k (h.ow.bg hb).1)
   ·exact kZ k hm
  have Rj: ∀k,F1 k→X3 k∧k≠sb∧(F k∨made yM w2 k):=fun k ah=>by
   have BT:k≠sb→X3 k∧k≠sb∧(F k∨made yM w2 k):=fun BT=>by
    rcases Fi k ah with hb|hm
    ·exact⟨c3.sub k (c2.sub k (hT.bg k (h.ow.bg hb).1)),BT,.inl (h.ow.bg hb).1⟩
    ·exact⟨c3.sub k (kZ k hm),BT,.inr hm⟩
   refine BT fun e=>?_;rcases Fi k ah with hb|hm
   ·exact Ou (e▸hb)
   ·have:=lF _ h.box.1;have:=hm.1;have:=hT.s.kp.size;omega
  have LI:=fun (q:Nat) (hq:F q) (h1:q≠sb) (h2: ¬dK hv q)=>(c3.block q (c2.sub q (hT.bg q hq)) h1).trans (c2.block q (hT.bg q hq) h2);have dz:Ft w0 F w3 X3 F:=(b8.less fun k ah=>.inl ah).dF (F':=F) c3 (fun k ah=>by subst ah;exact h.box.1) fun k ah=>.inl ah;have OM:gD w3 (fun k=>F k∨F1 k) sb v2 (hl.drop i):=by
   refine⟨⟨.inl h.box.1,oY.2⟩,?_,fun x hx=>?_⟩
   ·exact jb.mv fun q hq _=>⟨.inr hq,c3.block q (aaI q hq) (Rj q hq).2.1⟩
   ·have te:=h.ws x (eh hx);exact te.tight.mv fun q hq _=>⟨.inl (te.bg hq).1,LI q (te.bg hq).1 (fun e=>te.gd h.box kQ (by rw [←e];exact hq)) fun e=>by
     obtain⟨q1,e1⟩:=te.tag hq;obtain⟨q2,e2⟩:=h.ow.tag e;rw [e1] at e2;simp at e2⟩
  have hB: ∀(t:Nat) y b,es[t]? =some y→y.ko.ownBlock=some b→ ¬F b∧ ¬F1 b:=fun t y b hy hb=>by
   have hg:=(hE.ws y (aA hy)).ge hb;have h1: ¬F b:=fun hf=>by have:=lF b hf;omega
   refine⟨h1,fun hf=>?_⟩;rcases(Rj b hf).2.2 with hf|hm
   ·exact h1 hf
   ·have:=hm.1;omega
  have qe:es.length≤hl.length:=by
   have h1:=(ux ((hl.take i).map (·.2)) []).2;have h2:=congrArg ao Fg;unfold mO at h2;simp only [ay,dj,ee,aW] at h1 h2;omega
  have hwl: ∀y∈es,y.writes.length≤2^40:=fun y hy=>by
   have h1:=(ux ((hl.take i).map (·.2)) []).1;have h2:=Il (g:=fun e:qy=>e.writes.length) (a:=y.e) (l:=mO ((hl.take i).map (·.2))) (by rw [←Fg];exact List.mem_map.2 ⟨y,hy,rfl⟩);have h3:=Ee (g:=fun x:FV=>x.2.writes.length) hl i;simp only [List.map_map,gw,List.map_nil,List.sum_nil,ee,Ev.e] at h1 h2;unfold mO at h2;omega
  have hBv: ∀b,v.ownBlock=some b→ ¬F b∧ ¬F1 b:=fun b hb=>by
   have hg:=hE.own.ge hb;have h1: ¬F b:=fun hf=>by have:=lF b hf;omega
   refine⟨h1,fun hf=>?_⟩;rcases(Rj b hf).2.2 with hf|hm
   ·exact h1 hf
   ·have:=hm.1;omega
  refine yP LH.own.sl kQ ?_;refine eG (fun n a w X=> ∃(j:Nat) (Vj:List Ev),a=I j∧n=es.length-j∧j≤es.length∧Ft w0 F w X F∧gD w (fun k=>F k∨F1 k) sb v2 (hl.drop i)∧(∀k,F1 k→X k)∧dN w X w0.heap.size v Vj∧
   Vj.length=es.length∧ ∀(t:Nat) x2,Vj[t]? =some x2→ ∃x1,es[t]? =some x1∧x2.ko=x1.ko∧x2.bU=x1.bU∧x2.aw=x1.aw∧x2.writes.Perm x1.writes) es.length
   ⟨0,es,rfl,rfl,aN _,dz,OM,fun k hk=>(Rj k hk).1,LH,rfl,fun t x2 h=>⟨x2,h,rfl,rfl,rfl,.refl _⟩⟩ ?_
  rintro n a w4 X4 ⟨j,Vj,rfl,rfl,hj,eY,hH4,Wk,Vk,hl4,Wl⟩;have hs:=eY.s;have aiz:=Vk.own.sl;rcases eb Vj j with⟨rv,y,hy,_⟩|⟨hjg,_⟩
  ·have ON:=Vk.ws y (aA hy);obtain⟨y1,Vl,q1,q2,q3,q4⟩:=Wl j y hy;have zx:y.writes.length≤2^40:=by rw [q4.length_eq];exact hwl y1 (aA Vl)
   have oy:=ON.sl.one;repeat' first|refine bO ?_;intros
   refine eY.new.call (PI ON zQ) kQ (fun k ah=>.inr ⟨ON.2.2 k ah,(ON.ge ah).1⟩) ?_;rintro v5 wa5 w5 X5 ⟨rfl,ys,hp,OO⟩ Rk Rl fQ c5;have Vm:=Vk.adX hy c5 (OO.mono fun k ah=>c5.sub k (ON.2.2 k ah));have hs:=fQ.s;repeat' first|refine aD ?_;intros
   refine ep (es.length-(j+1)) zQ ⟨j+1,_,by simp,rfl,by omega,fQ.less fun k ah=>.inl (.inl ah),hH4.mv fun k ah _=>⟨ah,c5.block k ?_ fun hb=>?_⟩,fun k ah=>c5.sub k (Wk k ah),Vm,by rw [List.length_set];exact hl4,fun t x2 vP=>?_⟩
   ·exact ah.elim (eY.bg k) (Wk k)
   ·have:=hB j y1 k Vl (by rw [←q1];exact hb);exact ah.elim this.1 this.2
   ·by_cases hjt:j=t
    ·subst hjt;rw [mw rv] at vP;cases vP;exact⟨y1,Vl,q1,q2,q3,hp.trans q4⟩
    ·rw [nh hjt] at vP;exact Wl t x2 vP
  ·repeat' first|refine bO ?_;intros
   refine eY.fin fun wa bC=>⟨fun k=>F k∨F1 k,v2,Vj,i,fun k ah=>?_,hH4.mv fun k ah _=>⟨ah,bC.block k (ah.elim (eY.bg k) (Wk k))⟩,Vk.fin bC,hi,YS,nk,?_,?_,fun t e x he hx=>?_⟩
   ·rcases ah with ah|ah
    ·exact .inl ah
    ·rcases(Rj k ah).2.2 with hf|hm
     ·exact .inl hf
     ·have h1:=eY.s.has k (Wk k ah);have h2:=bC.size;have h3:=hm.1;have h4:=hT.s.kp.size;exact .inr ⟨by omega,by omega⟩
   ·rw [hl4,←Fg,ay]
   ·rintro b (hb|⟨x,hx,hb⟩)
    ·exact fun h=>h.elim (hBv b hb).1 (hBv b hb).2
    ·obtain⟨t,ht⟩:=List.mem_iff_getElem?.1 hx;obtain⟨x1,yQ,q1,_⟩:=Wl t x ht;have:=hB t x1 b yQ (by rw [←q1];exact hb);exact fun h=>h.elim this.1 this.2
   ·obtain⟨x1,yQ,q1,q2,q3,q4⟩:=Wl t x hx;rw [←Fg,dQ,yQ] at he;cases he;exact⟨q2,q3,q4⟩
theorem KG {P:Program} {kt:TypeId} (h:P.underlying kt=some (.int .i64)) (e:Bool) (n:Nat) (k:Int) (w:World):(fw e (n+1) kt (I k)).run P w= .ok () w:=by simp [fw,run_underlying h]
theorem acL {P:Program} {kt:TypeId} (h:P.underlying kt=some (.int .i64)):rA P kt (fun z:Int=>I z) where
 aF e k w:=KG h e 9999 k w
 find k l w:=by
  have: ∀(l:List (Go.bu.iq Int)) (i:Nat),gX (.int .i64) (I k) (l.map (km fun z=>I z)) i=some (nN k l i):=by
   intro l
   induction l with
   |nil=>intro i;rfl
   |cons x r ih=>
    intro i;by_cases hk:k=x.1
    ·simp [gX,km,Instr.sameNow,nN,hk]
    ·have hb:(k==x.1)=false:=by simpa using hk
     simp [gX,km,Instr.sameNow,nN,hk,hb,ih]
  simp [Instr.findKey,run_underlying h,this]
 same k:=by simp [Instr.sameBits]
def tu:World→XS→Value→aK→Prop:=fun _ _ v x=>v=x.v
theorem uU:oB tu:=fun _ _ _ _ _ _ h _=>h
theorem iJ:rA pg 3 (fun z:Int=>I z):=acL kQ
structure eL (w:World) (X:XS) (mb sb fb:Nat) (room:Int) (high:aK) (fs:List (Int×aK)):Prop where
 row:bI w X mb [ptr sb 0,I room,I high.wall,I high.dp,I high.node,.map (some fb)] 128
 m:fy w X nX fb (fun z:Int=>I z) tu fs
theorem eL.mv {w w':World} {X X':XS} {mb sb fb:Nat} {room:Int} {high:aK} {fs:List (Int×aK)} (h:eL w X mb sb fb room high fs) (v:Mv X w X' w'):eL w' X' mb sb fb room high fs:=
 ⟨h.row.mv v,h.m.mv uU v (fun _ hk=>hk.elim)⟩
theorem Rm {w:World} {X Y A:XS} {b:Nat} {l:List (Int×aK)} (h:fy w X A b (fun z:Int=>I z) tu l) (hb:Y b):fy w Y A b (fun z:Int=>I z) tu l:=by
 obtain⟨es,c,h1,h2⟩:=h;exact⟨es,c,⟨hb,h1.2⟩,h2⟩
theorem eL.fb {w:World} {X:XS} {mb sb fb:Nat} {room:Int} {high:aK} {fs:List (Int×aK)} (h:eL w X mb sb fb room high fs):X fb:=by
 obtain⟨es,c,h1,h2⟩:=h.m;exact h1.1
theorem eL.ne {w:World} {X:XS} {mb sb fb:Nat} {room:Int} {high:aK} {fs:List (Int×aK)} (h:eL w X mb sb fb room high fs):mb≠fb:=fun e=>by
 obtain⟨es,c,h1,h2⟩:=h.m;have h3:=h.row.2;have h4:=h1.2.1;rw [←e,h3] at h4;simp at h4
theorem eL.put {w w':World} {F X X':XS} {mb sb fb:Nat} {room:Int} {high:aK} {fs YT:List (Int×aK)} (h:eL w F mb sb fb room high fs) (hX: ∀k,F k→X k) (c:ef (· =fb) X w X' w')
  (hm:fy w' X' nX fb (fun z:Int=>I z) tu YT):eL w' F mb sb fb room high YT:=
 ⟨⟨h.row.1,(c.block _ (hX _ h.row.1) h.ne).trans h.row.2⟩,Rm hm h.fb⟩
theorem KH {w:World} {X:XS} {mb sb fb:Nat} {room r:Int} {high:aK} {fs:List (Int×aK)} (h:eL w X mb sb fb room high fs):
  Ct pg 53 #[ptr mb 0,I r] w X nX fun v _ _=>v= .tuple #[((getM r fs).getD .zero).v,B (getM r fs).isSome]:=by
 intro w0 hk;replace h:=h.mv hk.cL;have bE:=h.row;apply AR;unfold sd;have hs:=ak.init w0;repeat' first|refine aD ?_;intros
 refine oS (kt:=3) (et:=34) aK.zero.v h.m iJ kQ kQ (fun v a hg hv=>?_) (fun hg=>?_)
 ·simp only [tu] at hv;subst hv;repeat' first|refine aD ?_;intros|((first|(with_reducible refine ai hs ?_)|(with_reducible refine ai (bF.trans hs) ?_));intro wa hk;simp [hg])
 ·repeat' first|refine aD ?_;intros|((first|(with_reducible refine ai hs ?_)|(with_reducible refine ai (bF.trans hs) ?_));intro wa hk;simp [hg])
def pC (r:Int) (s:aK) (fs:List (Int×aK)):Int:=
 if r<1∨12<r then 1 else if !s.may then 17 else if(getM r fs).isSome then 9 else 0
theorem Rn {w:World} {X F:XS} {mb sb fb:Nat} {room r:Int} {high s:aK} {fs:List (Int×aK)} (h:eL w F mb sb fb room high fs) (hF:FX F X w):
  Ct pg 68 #[ptr mb 0,I r,s.v] w X F fun v wa w'=>v=I (pC r s fs)∧eL w' F mb sb fb room high (if pC r s fs=0 then bM r s fs else fs):=by
 intro w0 hk;replace h:=h.mv (hF.mv hk);have hT:=hF.ft hk;have bE:=h.row.mv (Mv.sub hT.bg);have nq: ∀{e:Int} {w X},ak (aS w0) w0 X w→pC r s fs=e→e≠0→fin (AP F w0 fun v w'=>v=I (pC r s fs)∧eL w' F mb sb fb room high (if pC r s fs=0 then bM r s fs else fs)) X w (I e):=fun hs he bW=>
  (hT.since hs).fin fun wa bC=>⟨by rw [he],by rw [he,if_neg bW];exact(h.mv (hs.jB hT.bg)).mv (bC.j6 (hT.since hs).bg)⟩
 apply Ef;unfold vQ;have hs:=ak.init w0;repeat' first|refine aD ?_;intros
 refine oS (kt:=3) (et:=34) aK.zero.v (h.mv (Mv.sub hT.bg)).m iJ kQ kQ (fun v a hg hv=>?_) (fun hg=>?_)
 ·simp only [tu] at hv;subst hv;repeat' first|refine aD ?_;intros|refine dD ?_ ?_<;>intros|((with_reducible refine dR (jc _) ?_ hs.has ?_ ?_);(· kernel_rfl);all_goals (intro _ w X aq;replace hs:=hs.trans aq))|(exact nq hs (by simp_all [pC]<;>omega) (by decide))
 ·repeat' first|refine aD ?_;intros|refine dD ?_ ?_<;>intros|((with_reducible refine dR (jc _) ?_ hs.has ?_ ?_);(· kernel_rfl);all_goals (intro _ w X aq;replace hs:=hs.trans aq))|(exact nq hs (by simp_all [pC]<;>omega) (by decide))
  have de:=hT.since hs;have h1:=h.mv (hs.jB hT.bg);refine se (kt:=3) (et:=34) (a:=s) (h1.mv (Mv.sub de.bg)).m uU rfl (fun _ hk=>hk.elim) iJ kQ hs.has fun w2 X2 c2 oC=>?_;have h2:=h1.put de.bg c2 oC;have b8:=de.dF c2 (F':=F) (fun k ah=>by subst ah;exact h.fb) fun k ah=>.inl ah;have he:pC r s fs=0:=by simp_all [pC]
  rw [he];exact b8.fin fun wa bC=>⟨rfl,h2.mv (bC.j6 b8.bg)⟩
def AS (r:Int) (s:aK) (fs:List (Int×aK)):Int:=
 match getM r fs with
 |none=>8
 |some _=>if !s.may then 17 else 0
def zh (r:Int) (s:aK) (fs:List (Int×aK)):List (Int×aK):=
 match getM r fs with
 |none=>fs
 |some a=>if !s.may then fs else bM r (a.later s) fs
theorem LJ {w:World} {X F:XS} {mb sb fb:Nat} {room r:Int} {high s:aK} {fs:List (Int×aK)} (h:eL w F mb sb fb room high fs) (hF:FX F X w):
  Ct pg 81 #[ptr mb 0,I r,s.v] w X F fun v wa w'=>v=I (AS r s fs)∧eL w' F mb sb fb room high (zh r s fs):=by
 intro w0 hk;replace h:=h.mv (hF.mv hk);have hT:=hF.ft hk;have bE:=h.row.mv (Mv.sub hT.bg);have nq: ∀{e:Int} {w X},ak (aS w0) w0 X w→AS r s fs=e→zh r s fs=fs→fin (AP F w0 fun v w'=>v=I (AS r s fs)∧eL w' F mb sb fb room high (zh r s fs)) X w (I e):=fun hs he bW=>
  (hT.since hs).fin fun wa bC=>⟨by rw [he],by rw [bW];exact(h.mv (hs.jB hT.bg)).mv (bC.j6 (hT.since hs).bg)⟩
 apply BL;unfold tf;have hs:=ak.init w0;repeat' first|refine aD ?_;intros
 refine oS (kt:=3) (et:=34) aK.zero.v (h.mv (Mv.sub hT.bg)).m iJ kQ kQ (fun v a hg hv=>?_) (fun hg=>?_)
 ·simp only [tu] at hv;subst hv;repeat' first|refine aD ?_;intros|((with_reducible refine fX (tM _ _) ?_ hs.has ?_);(· kernel_rfl);intro w X aq;replace hs:=hs.trans aq)|((with_reducible refine dR (jc _) ?_ hs.has ?_ ?_);(· kernel_rfl);all_goals (intro _ w X aq;replace hs:=hs.trans aq))|(exact nq hs (by simp_all [AS]) (by simp_all [zh]))
  have de:=hT.since hs;have h1:=h.mv (hs.jB hT.bg);refine se (kt:=3) (et:=34) (a:=a.later s) (h1.mv (Mv.sub de.bg)).m uU rfl (fun _ hk=>hk.elim) iJ kQ hs.has fun w2 X2 c2 oC=>?_;have h2:=h1.put de.bg c2 oC;have b8:=de.dF c2 (F':=F) (fun k ah=>by subst ah;exact h.fb) fun k ah=>.inl ah;have he:AS r s fs=0∧zh r s fs=bM r (a.later s) fs:=by simp_all [AS,zh]
  rw [he.1,he.2];exact b8.fin fun wa bC=>⟨rfl,h2.mv (bC.j6 b8.bg)⟩
 ·repeat' first|refine aD ?_;intros|(exact nq hs (by simp_all [AS]) (by simp_all [zh]))
end Go.Proofs.YtfndblbeikocdaaGreat
namespace Go.Proofs.YtfndblbeikocdaaGreat
open Go.Proofs.Tryz renaming prog → pg
open Go.bu Go.Maps Go.Shelf
set_option maxRecDepth 100000
set_option maxHeartbeats 1000000
set_option linter.unusedVariables false
set_option linter.unusedSimpArgs false
attribute [local irreducible] un jn aF aT ld1 ew st1 dt cB lS dV lT uN tG gq fW ad az aJ eW eV eU eC eF gE au fin aQ aM aH vS xt gp il pR uO xu xv xw xx gm im pS uP xy xz xA
theorem acM {w:World} {X:XS} {mb:Nat} :Ct pg 136 #[.map (some mb)] w X nX fun v wa w'=> ∃bx,v= .func (.func 190) #[] #[ptr bx 0]∧bI w' (made wa w') bx [.map (some mb)] 126:=by
 intro w0 hk;apply oT;unfold jK;have hs:=ak.init w0;refine oh rfl hs.has fun bx w1 X1 eX aq bE=>?_;repeat' first|refine aD ?_;intros
 exact ai aq fun wa bC=>⟨bx,rfl,⟨eX,(bE.kp bC).lt⟩,(bE.kp bC).2⟩
theorem YU {w:World} {X A:XS} {mb bx:Nat} {α:Type} {rd:World→XS→Value→α→Prop} {l:List (Int×α)} (h:fy w X A mb Fe rd l) (hb:bI w X bx [.map (some mb)] 126)
  (hs: ∀x∈l,-(2^63)≤x.1∧x.1<2^63) (hl:l.length≤2^40):
  Ct pg 46 #[.func (.func 190) #[] #[ptr bx 0]] w X nX fun v wa w'=>Own w' (made wa w') wa.heap.size 3 1 v ((kj (l.map (·.1))).map I1):=
 OG h kQ hs hl fun wa hk nn D0 lA=>
  AnyZI.keys_gives (ρ:=Tryz.OB) { Tryz.afV with } Fence.wide _ trivial rfl zQ bx mb nn D0 wa (hb.kp hk).lt (by have:=(hb.kp hk).2;simp [ru,this]) lA
theorem M3 {w:World} {X:XS} {mb sb fb:Nat} {room:Int} {high:aK} {fs:List (Int×aK)} (h:eL w X mb sb fb room high fs) (hr: ∀x∈fs,1≤x.1∧x.1≤12) (hl:fs.length≤2^40):
  Ct pg 97 #[ptr mb 0] w X nX fun v wa w'=>Own w' (made wa w') wa.heap.size 3 1 v ((kj (fs.map (·.1))).map I1):=by
 intro w0 hk;replace h:=h.mv hk.cL;have bE:=h.row;apply Cv;unfold tN;have hs:=ak.init w0;repeat' first|refine aD ?_;intros
 refine ek acM kQ hs.has ?_;rintro _ wa w1 X1 ⟨bx,rfl,hb⟩ hle eD aq;have h1:=h.mv aq.mv;refine ek (YU h1.m (hb.mono eD) (fun x hx=>by have:=hr x hx;omega) hl) kQ aq.has ?_;rintro v yM w2 X2 ho nW kZ dI;have Wi:=aq.kp.size;refine ai (aq.trans dI) fun Q8 bC=>?_;have jb:Own w2 X2 w0.heap.size 3 1 v ((kj (fs.map (·.1))).map I1):=ho.up kZ zQ;exact(jb.kp bC).tight
end Go.Proofs.YtfndblbeikocdaaGreat
namespace Go.Proofs.YtfndblbeikocdaaGreat
open Go.Proofs.Tryz renaming prog → pg
open Go.bu
set_option maxRecDepth 100000
set_option maxHeartbeats 1000000
set_option linter.unusedVariables false
set_option linter.unusedSimpArgs false
attribute [local irreducible] un jn aF aT ld1 ew st1 dt cB lS dV lT uN tG gq fW ad az aJ eW eV eU eC eF gE au fin aQ aM aH vS xt gp il pR uO xu xv xw xx gm im pS uP xy xz xA
def De (fs:List (Int×aK)) (o:Option aK) (r:Int):Option aK:=
 match o with
 |none=>some ((getM r fs).getD .zero)
 |some a=>if((getM r fs).getD .zero).cmp a<0 then some ((getM r fs).getD .zero)else some a
def qz (fs:List (Int×aK)) (rs:List Int):Option aK:=rs.foldl (De fs) none
def vR (fs:List (Int×aK)):Option aK:=qz fs (kj (fs.map (·.1)))
theorem Cw (fs:List (Int×aK)) (rs:List Int) (r:Int):qz fs (rs++[r])=De fs (qz fs rs) r:=by simp [qz]
theorem Ui (fs:List (Int×aK)) (rs:List Int):qz fs rs=none↔rs=[]:=by
 rcases oA rs with rfl|⟨l,r,rfl⟩
 ·simp [qz]
 ·rw [Cw];cases qz fs l<;>simp [De]
  split<;>simp
theorem Vn {w:World} {A:XS} {rd:World→XS→Value→aK→Prop} : ∀{es:List (Go.bu.iq Int)} {l:List (Int×aK)},jq w A rd es l→es.length=l.length
 |[],[],_=>rfl
 |_::_,_::_,h=>by simp [Vn h.2.2]
theorem ad1 {w:World} {X:XS} {fb:Nat} {fs:List (Int×aK)} {N:Value→Prop} (h:fy w X nX fb (fun z:Int=>I z) tu fs) (n:N (I fs.length)):
  ad pg X w (eT #[126] 3 #[.map (some fb)]) N:=by
 obtain⟨es,c,h1,h2⟩:=h;refine AT _ (fun wa hk=>?_) n;have hb:wa.heap[fb]? =some (.map (es.map (km fun z=>I z)).toArray c):=(hk.block fb h1.1).trans h1.2.1;have hu: ∃a b,pg.underlying 126=some (.map a b):=⟨_,_,rfl⟩;obtain⟨a,b,hu⟩:=hu;simp [eT,Sem.run_bind,run_underlying hu,getObj,Sem.run,hb,Vn h2,goInt]
theorem ad2 {w:World} {X:XS} {fb:Nat} {fs:List (Int×aK)} {r:Int} {N:Value→Prop} (h:fy w X nX fb (fun z:Int=>I z) tu fs) (n:N ((getM r fs).getD .zero).v):
  ad pg X w (Instr.lookup 126 (.map (some fb)) (I r) false) N:=
 mP (kt:=3) (et:=34) aK.zero.v h iJ kQ kQ (fun v a hg hv=>by simp only [tu] at hv;subst hv;simpa [hg] using n) (fun hg=>by simpa [hg] using n)
theorem zi {w:World} {X:XS} {mb sb fb:Nat} {room:Int} {high:aK} {fs:List (Int×aK)} (h:eL w X mb sb fb room high fs) (hr: ∀x∈fs,1≤x.1∧x.1≤12) (hl:fs.length≤2^40):
  Ct pg 96 #[ptr mb 0] w X nX fun v _ _=>v= .tuple #[((vR fs).getD .zero).v,B (decide (fs≠[]))]:=by
 intro w0 hk;replace h:=h.mv hk.cL;apply Df;unfold uV;have hs:=ak.init w0;refine ek (M3 h hr hl) kQ hs.has ?_;rintro v wa w1 X1 ho hle eD aq;have BT:=(ho.mono eD).sl;replace h:=h.mv aq.mv;have bE:=h.row;generalize xE:kj (fs.map (·.1))=rs at BT ho;have Ro:rs.length≤2^40:=by rw [←xE,(mI _).length_eq,ay];exact hl
 refine yP BT kQ ?_;refine gb (fun n a b w X=> ∃i:Nat,a=I i∧n=rs.length-i∧i≤rs.length∧ak X1 w1 X w∧b=((qz fs (rs.take i)).getD .zero).v) rs.length ⟨0,rfl,rfl,aN _,ak.iS aq.has,rfl⟩ ?_;clear hs;have bF:=aq;rintro n a b w X ⟨i,rfl,rfl,hi,hs,rfl⟩;have h2:=h.mv hs.mv;have kl:=h2.row;have aiA:=BT.mv hs.mv;rcases eb rs i with⟨cK,r,hx,hd⟩|⟨dU,hd⟩
 ·have iE:rs.take (i+1)=rs.take i++[r]:=by rw [bc,hx];rfl
  have hz:(qz fs (rs.take i)=none)=(i=0):=by
   rw [Ui,eq_iff_iff];constructor
   ·intro e;have:=congrArg ao e;rw [aW,dj] at this;omega
   ·rintro rfl;rfl
  repeat' first|refine bO ?_;intros|with_reducible apply dG
  refine ad2 h2.m ?_;generalize fV:(getM r fs).getD aK.zero=st;cases iV:qz fs (rs.take i)with
  |none=>
   have h0:i=0:=by rw [←hz];exact iV
   subst h0;repeat' first|refine bO ?_;intros|with_reducible apply dG
   exact eM (rs.length-(0+1)) zQ ⟨0+1,by simp,rfl,by omega,hs,by rw [iE,Cw,iV];simp [De,fV]⟩
  |some a=>
   have h0:i≠0:=fun e=>by rw [←hz,iV] at e;cases e
   repeat' first|refine bO ?_;intros|refine dD ?_ ?_<;>intros|with_reducible apply dG|((with_reducible refine fX (ic _ _) ?_ hs.has ?_);(· kernel_rfl);intro w X aq;replace hs:=hs.trans aq)
   all_goals exact eM (rs.length-(i+1)) zQ ⟨i+1,by simp,rfl,by omega,by assumption,by rw [iE,Cw,iV];simp only [De,fV];first|(rw [if_pos (by assumption)];first|done|rfl)|(rw [if_neg (by assumption)];first|done|rfl)⟩
 ·have e1:qz fs (rs.take i)=vR fs:=by rw [aY dU,←xE];rfl
  rw [e1];repeat' first|refine bO ?_;intros
  have h2:=h.mv hs.mv;refine ad1 h2.m ?_;cases fs with
  |nil=>
   have hz0: ¬(0:Int)<(([]:List (Int×aK)).length:Int):=by simp
   repeat' first|refine bO ?_;intros|((first|(with_reducible refine ai hs ?_)|(with_reducible refine ai (bF.trans hs) ?_));intro wa hk;simp)
  |cons x l=>
   have Wm:(0:Int)<((x::l).length:Int):=by simp
   repeat' first|refine bO ?_;intros|((first|(with_reducible refine ai hs ?_)|(with_reducible refine ai (bF.trans hs) ?_));intro wa hk;simp)
end Go.Proofs.YtfndblbeikocdaaGreat
namespace Go.Proofs.YtfndblbeikocdaaGreat
open Go.Proofs.Tryz renaming prog → pg
open Go.bu
theorem uW (a:aK): ¬a.cmp a<0:=by simp [aK.cmp]
theorem GM (a b:aK):(a.cmp b<0)↔(b.cmp a>0):=by
 simp only [aK.cmp];grind
theorem LK {a b:aK} (h:a.cmp b<0): ¬b.cmp a<0:=by
 rw [GM] at h;omega
theorem ad3 {a b c:aK} (h1:a.cmp b<0) (h2:b.cmp c<0):a.cmp c<0:=by
 simp only [aK.cmp] at*;grind
theorem acN {a b:aK} (h: ¬a.cmp b<0) (bW:a≠b):b.cmp a<0:=by
 have: ¬(a.wall=b.wall∧a.dp=b.dp∧a.node=b.node):=fun e=>bW (aK.ext e.1 e.2.1 e.2.2);simp only [aK.cmp] at*;grind
theorem OP {a b c:aK} (h1: ¬b.cmp a<0) (h2:b.cmp c<0):a.cmp c<0:=by
 simp only [aK.cmp] at*;grind
theorem OQ {a b c:aK} (h1:a.cmp b<0) (h2: ¬c.cmp b<0):a.cmp c<0:=by
 simp only [aK.cmp] at*;grind
theorem OR {a b c:aK} (h1: ¬b.cmp a<0) (h2: ¬c.cmp b<0): ¬c.cmp a<0:=fun h=>h2 (OQ h h1)
theorem YV (a b:aK):a.cmp b≤0↔ ¬b.cmp a<0:=by
 rw [GM];omega
theorem aaJ (a b:aK): ¬(a.later b).cmp a<0:=by
 unfold aK.later;split
 ·exact LK (by assumption)
 ·exact uW a
theorem BU {a b:aK} (ha:a.may=true) (hb:b.may=true):(a.later b).may=true:=by
 unfold aK.later;split<;>assumption
theorem YW (s:aK):s.qf.1.may=true:=by
 unfold aK.qf;by_cases h:(!s.may||decide (s= .zero))=true
 ·rw [if_pos h];rfl
 ·rw [if_neg h];have hm:s.may=true:=by cases hq:s.may<;>simp_all
  have hz:s≠ .zero:=fun e=>h (by simp [e]);have h2: ¬(s.wall=0∧s.dp=0∧s.node=0):=fun e=>hz (aK.ext e.1 e.2.1 e.2.2);rw [aK.Dg] at hm;split
  ·rw [aK.Dg];simp only;omega
  ·split
   ·rw [aK.Dg];simp only;omega
   ·rw [aK.Dg];simp only;omega
structure qQ (l:List eB) (high:aK):Prop where
 may: ∀f∈l,f.may=true
 YX:l.Pairwise fun f g=> ¬g.aw.cmp f.aw<0
 ord:l.Pairwise fun f g=> ¬g.cmp f<0
 same: ∀f∈l,∀g∈l,f.bU=g.bU↔f.aw=g.aw
 hi: ∀f∈l,high.cmp f.aw<0
theorem qQ.nil (high:aK):qQ [] high:=⟨by simp,by simp,by simp,by simp,by simp⟩
theorem acO {x f:eB} (h:x.cmp f<0): ¬f.aw.cmp x.aw<0:=by
 unfold eB.cmp at h;split at h
 ·exact LK h
 ·have:f.aw.cmp x.aw<0→x.aw.cmp f.aw>0:=fun q=>(GM _ _).1 q;intro q;have:=this q;omega
theorem acP {x f:eB} (h: ¬x.cmp f<0): ¬x.aw.cmp f.aw<0:=by
 unfold eB.cmp at h;split at h
 ·exact h
 ·omega
theorem acQ {x f:eB} (h:x.cmp f<0): ¬f.cmp x<0:=by
 simp only [eB.cmp,aK.cmp] at*;grind
theorem acR {x y f:eB} (h1: ¬y.cmp x<0) (h2:y.cmp f<0):x.cmp f<0:=by
 simp only [eB.cmp,aK.cmp] at*;grind
theorem qQ.ins {l:List eB} {high:aK} {f:eB} {i:Nat} (h:qQ l high) (lo: ∀x∈l.take i,x.cmp f<0) (hi: ∀x∈l.drop i,¬x.cmp f<0) (hm:f.may=true) (ho:l.any f.yR=false) (hh:high.cmp f.aw<0):
  qQ (l.take i++[f]++l.drop i) high:=by
 have gR: ∀x,x∈l.take i++[f]++l.drop i→x=f∨x∈l:=fun x hx=>by
  simp only [List.mem_append,en] at hx;rcases hx with(hx|hx)|hx
  ·exact .inr (dW hx)
  ·exact .inl hx
  ·exact .inr (eh hx)
 have Cx: ∀x∈l,x.bU=f.bU↔x.aw=f.aw:=fun x hx=>by
  have:=List.any_eq_false.1 ho x hx;unfold eB.yR at this;by_cases h1:x.bU=f.bU<;>by_cases h2:x.aw=f.aw<;>simp_all
 refine⟨fun x hx=>?_,?_,?_,fun x hx y hy=>?_,fun x hx=>?_⟩
 ·rcases gR x hx with rfl|hx
  ·exact hm
  ·exact h.may x hx
 rotate_left
 ·have hs:=h.ord;rw [←cD i l] at hs;obtain⟨s1,s2,s3⟩:=List.pairwise_append.1 hs;rw [aB];refine List.pairwise_append.2 ⟨s1,List.pairwise_cons.2 ⟨hi,s2⟩,fun x hx y hy=>?_⟩;rcases List.mem_cons.1 hy with rfl|hy
  ·exact acQ (lo x hx)
  ·exact s3 x hx y hy
 rotate_right
 ·have hs:=h.YX;rw [←cD i l] at hs;obtain⟨s1,s2,s3⟩:=List.pairwise_append.1 hs;rw [aB];refine List.pairwise_append.2 ⟨s1,List.pairwise_cons.2 ⟨fun y hy=>acP (hi y hy),s2⟩,fun x hx y hy=>?_⟩;rcases List.mem_cons.1 hy with rfl|hy
  ·exact acO (lo x hx)
  ·exact s3 x hx y hy
 ·rcases gR x hx with e1|yQ<;>rcases gR y hy with e2|Vl
  ·rw [e1,e2];simp
  ·have:=Cx y Vl;rw [e1];exact⟨fun e=>(this.1 e.symm).symm,fun e=>(this.2 e.symm).symm⟩
  ·rw [e2];exact Cx x yQ
  ·exact h.same x yQ y Vl
 ·rcases gR x hx with rfl|hx
  ·exact hh
  ·exact h.hi x hx
theorem qQ.take {l:List eB} {high:aK} (h:qQ l high) (n:Nat):qQ (l.take n) high:=
 ⟨fun f hf=>h.may f (dW hf),h.YX.sublist (uT n l),h.ord.sublist (uT n l),fun f hf g hg=>h.same f (dW hf) g (dW hg),fun f hf=>h.hi f (dW hf)⟩
structure aaK (l:List eB) (g:List qy):Prop where
 up:g.Pairwise fun a b=>a.aw.cmp b.aw<0
 ex: ∀e∈g,e.writes≠[]∧ ∃f∈l,f.aw=e.aw∧f.bU=e.bU
 top: ∀e,g.getLast? =some e→ ∀f∈l,¬e.aw.cmp f.aw<0
 no:g=[]→l=[]
theorem Wn {f:eB} (h:f.may=true):f.writes≠[]:=by
 unfold eB.may at h;simp only [aV,decide_eq_true_eq] at h;exact h.1.2.2.2
theorem qQ.gr {high:aK} {l:List eB} (h:qQ l high): ∀n,n≤l.length→aaK (l.take n) (mO (l.take n))
 |0,_=>by simpa using (⟨by simp [mO],by simp [mO],by simp [mO],by simp⟩:aaK [] (mO []))
 |n+1,hn=>by
  have ih:=h.gr n zQ;obtain⟨f,hf⟩: ∃f,l[n]? =some f:=⟨l[n],bT zQ⟩;have ht:l.take (n+1)=l.take n++[f]:=by rw [bc,hf];rfl
  have OS:=aA hf;have aaL: ∀x∈l.take n,¬f.aw.cmp x.aw<0:=fun x hx=>by
   have h1:=(h.take (n+1)).YX;rw [ht] at h1;exact(List.pairwise_append.1 h1).2.2 x hx f (by simp)
  rw [ht,KF];have np:(∀e,(mO (l.take n)).getLast? =some e→e.bU≠f.bU)→aaK (l.take n++[f]) (mO (l.take n)++[⟨f.bU,f.aw,f.writes⟩]):=fun bW=>by
   refine⟨List.pairwise_append.2 ⟨ih.up,by simp,fun a ha b hb=>?_⟩,fun e he=>?_,fun e he x hx=>?_,by simp⟩
   ·rw [List.mem_singleton.1 hb]
    show a.aw.cmp f.aw<0
    rcases oA (mO (l.take n))with h0|⟨l0,z,h0⟩
    ·rw [h0] at ha;simp at ha
    ·have hlz:(mO (l.take n)).getLast? =some z:=by rw [h0];simp
     have hz:z.aw.cmp f.aw<0:=by
      obtain⟨y,hy,h1,h2⟩:=(ih.ex z (by rw [h0];simp)).2;refine acN (by rw [←h1];exact aaL y hy) fun e=>bW z hlz ?_;rw [←h2];exact(h.same y (dW hy) f OS).2 (h1.trans e.symm)
     have hu:=ih.up;rw [h0] at ha hu;rcases List.mem_append.1 ha with ha|ha
     ·exact ad3 ((List.pairwise_append.1 hu).2.2 a ha z (by simp)) hz
     ·rw [List.mem_singleton.1 ha];exact hz
   ·rcases List.mem_append.1 he with he|he
    ·obtain⟨h1,x,hx,h2⟩:=ih.ex e he;exact⟨h1,x,bX _ hx,h2⟩
    ·rw [List.mem_singleton.1 he];exact⟨Wn (h.may f OS),f,by simp,rfl,rfl⟩
   ·simp only [sa,pT,yN,ax] at he;subst he;rcases List.mem_append.1 hx with hx|hx
    ·exact aaL x hx
    ·rw [List.mem_singleton.1 hx];exact uW _
  rcases oA (mO (l.take n))with h0|⟨l0,z,h0⟩
  ·rw [h0] at np⊢;exact np (by simp)
  ·rw [h0,vN];split
   ·rename_i htx;have oD:z.aw=f.aw:=by
     obtain⟨y,hy,h1,h2⟩:=(ih.ex z (by rw [h0];simp)).2;rw [←h1];exact(h.same y (dW hy) f OS).1 (h2.trans htx)
    have hu:=ih.up;rw [h0] at hu;obtain⟨u1,u2,u3⟩:=List.pairwise_append.1 hu;refine⟨List.pairwise_append.2 ⟨u1,by simp,fun a ha b hb=>?_⟩,fun e he=>?_,fun e he x hx=>?_,by simp⟩
    ·rw [List.mem_singleton.1 hb];exact u3 a ha z (by simp)
    ·rcases List.mem_append.1 he with he|he
     ·obtain⟨h1,x,hx,h2⟩:=ih.ex e (by rw [h0];exact bX _ he);exact⟨h1,x,bX _ hx,h2⟩
     ·rw [List.mem_singleton.1 he];obtain⟨h1,x,hx,h2⟩:=ih.ex z (by rw [h0];simp);exact⟨by simp [h1],x,bX _ hx,h2⟩
    ·simp only [sa,pT,yN,ax] at he;subst he
     show¬z.aw.cmp x.aw<0
     rcases List.mem_append.1 hx with hx|hx
     ·rw [oD];exact aaL x hx
     ·rw [List.mem_singleton.1 hx,oD];exact uW _
   ·rename_i htx;rw [h0] at np;exact np fun e he=>by simp at he;subst he;exact htx
def kB (high:aK) (g:List qy):aK:=
 match g.getLast? with
 |none=>high
 |some e=>e.aw
theorem YY (high:aK):kB high []=high:=rfl
theorem vT (high:aK) (g:List qy) (e:qy):kB high (g++[e])=e.aw:=by simp [kB]
theorem qQ.out {l:List eB} {high s:aK} {n:Nat} (h:qQ l high) (hn:n≤l.length) (eo: ∀x∈l.take n,x.aw.cmp s≤0) (hhi: ∀x,l[n]? =some x→ ¬x.aw.cmp s≤0):
  (mO (l.take n)).Pairwise (fun a b=>a.aw.cmp b.aw<0)∧(∀e∈mO (l.take n),high.cmp e.aw<0∧e.writes≠[])∧qQ (l.drop n) (kB high (mO (l.take n))):=by
 have g:=h.gr n hn;refine⟨g.up,fun e he=>?_,⟨fun f hf=>h.may f (eh hf),h.YX.sublist (pB n l),h.ord.sublist (pB n l),fun f hf x hx=>h.same f (eh hf) x (eh hx),fun f hf=>?_⟩⟩
 ·obtain⟨h1,f,hf,h2,_⟩:=g.ex e he;exact⟨by rw [←h2];exact h.hi f (dW hf),h1⟩
 ·rcases oA (mO (l.take n))with h0|⟨l0,z,h0⟩
  ·rw [h0,YY];exact h.hi f (eh hf)
  ·rw [h0,vT];obtain⟨_,y,hy,h1,_⟩:=g.ex z (by rw [h0];simp);have oD: ¬s.cmp z.aw<0:=by rw [←h1,←YV];exact eo y hy
   have hnl:n<l.length:=by
    rcases Nat.lt_or_ge n l.length with q|q
    ·exact q
    ·rw [List.drop_of_length_le q] at hf;simp at hf
   obtain⟨a,ha⟩: ∃a,l[n]? =some a:=⟨l[n],bT hnl⟩;have hsa:s.cmp a.aw<0:=by
    have:=hhi a ha;rw [YV] at this;exact Classical.not_not.1 this
   have hd:l.drop n=a::l.drop (n+1):=by
    rw [fz hnl];rw [bT hnl] at ha;cases ha;rfl
   have haf: ¬f.aw.cmp a.aw<0:=by
    have h2:=h.YX.sublist (pB n l);rw [hd] at h2 hf;rcases List.mem_cons.1 hf with rfl|hf
    ·exact uW _
    ·exact(List.pairwise_cons.1 h2).1 f hf
   exact OQ (OP oD hsa) haf
structure vU (q:List qy) (bp high:aK):Prop where
 up:q.Pairwise fun a b=>a.aw.cmp b.aw<0
 lo: ∀e∈q,bp.cmp e.aw<0∧e.writes≠[]
 hi: ∀e∈q,¬high.cmp e.aw<0
theorem vU.nil (bp high:aK):vU [] bp high:=⟨by simp,by simp,by simp⟩
def gh (bp s:aK):Bool:=decide (s.cmp bp>0)
theorem OT {bp s:aK} :gh bp s=true↔bp.cmp s<0:=by
 unfold gh;rw [decide_eq_true_eq,GM]
theorem vU.app {q g:List qy} {bp high:aK} (h:vU q bp high) (hu:g.Pairwise fun a b=>a.aw.cmp b.aw<0) (hg: ∀e∈g,high.cmp e.aw<0∧e.writes≠[]):
  vU (q++g.filter fun e=>gh bp e.aw) bp (kB high g):=by
 have hl: ¬(kB high g).cmp high<0∧ ∀e∈g,¬(kB high g).cmp e.aw<0:=by
  rcases oA g with rfl|⟨l0,z,rfl⟩
  ·exact⟨uW _,by simp⟩
  ·rw [vT];refine⟨LK (hg z (by simp)).1,fun e he=>?_⟩;rcases List.mem_append.1 he with he|he
   ·exact LK ((List.pairwise_append.1 hu).2.2 e he z (by simp))
   ·rw [List.mem_singleton.1 he];exact uW _
 refine⟨List.pairwise_append.2 ⟨h.up,hu.sublist ta,fun a ha b hb=>OP (h.hi a ha) (hg b (List.mem_filter.1 hb).1).1⟩,fun e he=>?_,fun e he=>?_⟩
 ·rcases List.mem_append.1 he with he|he
  ·exact h.lo e he
  ·have:=List.mem_filter.1 he;exact⟨OT.1 this.2,(hg e this.1).2⟩
 ·rcases List.mem_append.1 he with he|he
  ·exact OR (h.hi e he) hl.1
  ·exact hl.2 e (List.mem_filter.1 he).1
theorem vU.ack {q:List qy} {bp high s:aK} (h:vU q bp high):vU (q.filter fun e=>gh (bp.later s) e.aw) (bp.later s) high:=
 ⟨h.up.sublist ta,fun e he=>⟨OT.1 (List.mem_filter.1 he).2,(h.lo e (List.mem_filter.1 he).1).2⟩,fun e he=>h.hi e (List.mem_filter.1 he).1⟩
theorem vU.mono {q:List qy} {bp high LL:aK} (h:vU q bp high) (hh: ¬LL.cmp high<0):vU q bp LL:=⟨h.up,h.lo,fun e he=>OR (h.hi e he) hh⟩
end Go.Proofs.YtfndblbeikocdaaGreat
namespace Go.Proofs.YtfndblbeikocdaaGreat
open Go.Proofs.Tryz renaming prog → pg
open Go.bu
set_option maxRecDepth 100000
set_option maxHeartbeats 1000000
set_option linter.unusedVariables false
set_option linter.unusedSimpArgs false
attribute [local irreducible] un jn aF aT ld1 ew st1 dt cB lS dV lT uN tG gq fW ad az aJ eW eV eU eC eF gE au fin aQ aM aH vS xt gp il pR uO xu xv xw xx gm im pS uP xy xz xA
structure fG where
 id:Int
 fY:Int
 aw:aK
 deriving DecidableEq
abbrev fG.l (x:fG):List Value:=[I x.id,I x.fY,I x.aw.wall,I x.aw.dp,I x.aw.node]
theorem Rp {α:Type} {l:α→List Value} {k:Nat} (hl: ∀y,(l y).length=k) {ys:List α} {i:Nat} {x:α} {Z:List Value} (hi:i<ys.length):cz ((ys.map l).flatten++Z) (i*k) (l x)=((ys.set i x).map l).flatten++Z:=by
 obtain⟨P,y,S,rfl,rfl⟩: ∃P y S,ys=P++y::S∧P.length=i:=⟨ys.take i,ys[i],ys.drop (i+1),by rw [←fz hi,cD],by rw [aW];omega⟩;have hP:((P.map l).flatten).length=P.length*k:=by rw [gQ (k:=k) fun r hr=>by obtain⟨y,_,rfl⟩:=List.mem_map.1 hr;exact hl y];simp
 rw [mJ _ _ (bK _),Nat.sub_self,lL];simp only [bo,bB,gJ,dP];have:=qb (A:=(P.map l).flatten) (B:=l y) (C:=(S.map l).flatten++Z) (vs:=l x) (o:=P.length*k) hP (by rw [hl,hl]);simpa [aB] using this
theorem KI {w:World} {X A:XS} {a:Value} {xs:List Ev} {f:FuncId} {cs:List Value} {p:Ev→Bool} (ha:Sl w X 7 a (xs.map Ev.l)) (hX: ∀k,X k→k<w.heap.size) (hA: ∀k,A k→X k) (hf:enters pg f=true)
  (hp: ∀x∈xs,Ct pg f ((.agg x.l.toArray)::cs).toArray w A nX fun v _ _=>v=B (p x)):
  Ct pg 85 #[a,.func (.func f) #[] cs.toArray] w X nX fun v _ _=>v=I (idxOf p xs):=by
  intro w0 hk;replace ha:=ha.mv hk.cL;replace hp:=fun x hx=>(hp x hx).kp (hk.less hA);replace hA:=fun k ah=>aI (hX k (hA k ah)) hk.size;have iV:=ha.gz;apply pD;unfold j7;have hs:=ak.init w0;repeat' first|refine aD ?_;intros
  refine eG (fun n a w X=> ∃i:Nat,a=I (i:Nat)∧n=(xs).length-i∧i≤(xs).length∧ak (aS w0) w0 X w∧(∀(j:Nat) x,j<i→xs[j]? =some x→p x=false)) (xs).length ⟨0,rfl,rfl,aN _,hs,by simp⟩ ?_;rintro n a w X ⟨i,rfl,rfl,hi,hs,hw⟩;rcases eb (xs) i with⟨cK,x,hx,hd⟩|⟨dU,hd⟩
  ·have Dh:=hp x (aA hx);repeat' first|refine bO ?_;intros|((first|(with_reducible refine ai hs ?_)|(with_reducible refine ai (bF.trans hs) ?_));intro wa hk;(rw [uy hw hx ‹_›]))|((with_reducible refine ep ((xs).length-(i+1)) ?_ ?_);omega;exact⟨i+1,by simp,rfl,by omega,hs,fun j y hj hy=>by rcases Nat.lt_succ_iff_lt_or_eq.1 hj with h|h;exact hw j y h hy;subst h;rw [hx] at hy;cases hy;assumption⟩)|(refine eR (Dh.since (hs.less hA)) hf hs.has ?_ ?_<;>(intro _ w X aq;replace hs:=hs.trans aq))
  ·repeat' first|refine bO ?_;intros|((first|(with_reducible refine ai hs ?_)|(with_reducible refine ai (bF.trans hs) ?_));intro wa hk;(rw [qg fun j x hj hx=>hw j x zQ hx]))
theorem IP {w:World} {X A:XS} {a:Value} {xs:List fG} {f:FuncId} {cs:List Value} {p:fG→Bool} (ha:Sl w X 5 a (xs.map fG.l)) (hX: ∀k,X k→k<w.heap.size) (hA: ∀k,A k→X k) (hf:enters pg f=true)
  (hp: ∀x∈xs,Ct pg f ((.agg x.l.toArray)::cs).toArray w A nX fun v _ _=>v=B (p x)):
  Ct pg 86 #[a,.func (.func f) #[] cs.toArray] w X nX fun v _ _=>v=I (idxOf p xs):=by
  intro w0 hk;replace ha:=ha.mv hk.cL;replace hp:=fun x hx=>(hp x hx).kp (hk.less hA);replace hA:=fun k ah=>aI (hX k (hA k ah)) hk.size;have iV:=ha.gz;apply pE;unfold j8;have hs:=ak.init w0;repeat' first|refine aD ?_;intros
  refine eG (fun n a w X=> ∃i:Nat,a=I (i:Nat)∧n=(xs).length-i∧i≤(xs).length∧ak (aS w0) w0 X w∧(∀(j:Nat) x,j<i→xs[j]? =some x→p x=false)) (xs).length ⟨0,rfl,rfl,aN _,hs,by simp⟩ ?_;rintro n a w X ⟨i,rfl,rfl,hi,hs,hw⟩;rcases eb (xs) i with⟨cK,x,hx,hd⟩|⟨dU,hd⟩
  ·have Dh:=hp x (aA hx);repeat' first|refine bO ?_;intros|((first|(with_reducible refine ai hs ?_)|(with_reducible refine ai (bF.trans hs) ?_));intro wa hk;(rw [uy hw hx ‹_›]))|((with_reducible refine ep ((xs).length-(i+1)) ?_ ?_);omega;exact⟨i+1,by simp,rfl,by omega,hs,fun j y hj hy=>by rcases Nat.lt_succ_iff_lt_or_eq.1 hj with h|h;exact hw j y h hy;subst h;rw [hx] at hy;cases hy;assumption⟩)|(refine eR (Dh.since (hs.less hA)) hf hs.has ?_ ?_<;>(intro _ w X aq;replace hs:=hs.trans aq))
  ·repeat' first|refine bO ?_;intros|((first|(with_reducible refine ai hs ?_)|(with_reducible refine ai (bF.trans hs) ?_));intro wa hk;(rw [qg fun j x hj hx=>hw j x zQ hx]))
theorem IQ {w:World} {X A:XS} {lo:Nat} {v:Value} {xs:List Ev} {f:FuncId} {cs:List Value} {p:Ev→Bool} (own:Own w X lo 69 7 v (xs.map Ev.l)) (hX: ∀k,X k→k<w.heap.size)
  (hA: ∀k,A k→X k∧ ¬dK v k) (hf:enters pg f=true) (tt: ∀x∈xs,bu.one x.ko=true)
  (hp: ∀x∈xs,Ct pg f ((.agg x.l.toArray)::cs).toArray w A nX fun v _ _=>v=B (p x)):
  Ct pg 32 #[v,.func (.func f) #[] cs.toArray] w X (dK v) fun v' _ w'=>
   Own w' (dK v) lo 69 7 v' ((xs.filter fun x=>!p x).map Ev.l)∧v'.ownBlock=v.ownBlock:=by
  intro w0 hk;have Vb:=hp;replace own:=own.mv hk.cL;replace hp:=fun x hx=>(hp x hx).kp (hk.less fun k h=>(hA k h).1);replace hA: ∀k,A k→out (dK v) w0 k:=fun k ah=>⟨aI (hX k (hA k ah).1) hk.size,(hA k ah).2⟩;have iV:=own.sl.gz;apply pc;unfold jV;have hs:=ak.out (dK v) w0;refine dC (KI own.sl hs.has (fun k h=>(hA k h).1) hf hp) kQ hs.has fun w X aq=>?_;have vV:=own.since aq;replace hs:=hs.trans aq;repeat' first|refine aD ?_;intros|refine dD ?_ ?_<;>intros
  ·have hi:= ‹idxOf p xs= -1›;refine mX hs fun wa hk=>⟨?_,rfl⟩;have pz: ∀x∈xs,p x=false:=by
    have:=pU p xs;rw [hi] at this;intro x hx;have h2:xs.any p=false:=this.symm;simpa using List.any_eq_false.1 h2 x hx
   have:xs.filter (fun x=>!p x)=xs:=List.filter_eq_self.2 fun x hx=>by simp [pz x hx]
   rw [this];exact⟨vV.1,(vV.kp hk).2.1,fun g hg=>hg⟩
  ·obtain⟨i0,x0,YZ,LM,Rq,Rr⟩:=Ag ‹¬idxOf p xs= -1›;have Rs:i0<xs.length:=(List.getElem?_eq_some_iff.1 LM).1;rw [YZ];rcases vV.row with⟨_,he⟩|⟨g,cap,cells,hv,eo,bE,jh,iB,oz,iE⟩
   ·have:xs=[]:=by simpa using he
    subst this;simp at Rs
   rw [ay] at hv jh iE;subst hv;have Y3: ∀y:Ev,y.l.length=7:=fun _=>rfl;have fC: ∀ys:List Ev,((ys.map Ev.l).flatten).length=ys.length*7:=fun ys=>by rw [gQ (k:=7) fun r hr=>by obtain⟨y,_,rfl⟩:=List.mem_map.1 hr;rfl];simp
   have hblk: ∀k,dK (.slice (some ⟨g,0,none⟩) xs.length cap) k↔k=g:=fun k=>⟨fun h=>by simpa [dK,ec] using h.symm,fun h=>by subst h;rfl⟩;obtain⟨Z,rfl⟩: ∃Z,cells=(xs.map Ev.l).flatten++Z:=⟨cells.drop (xs.length*7),by rw [←iE,cD]⟩;have hZ:Z.length=(cap-xs.length)*7:=by rw [ae,fC] at oz;omega
   clear own vV iE oz;repeat' first|refine aD ?_;intros
   refine gb (fun n a b w X=> ∃(j i:Nat) (ys:List Ev),a=I j∧b=I i∧n=xs.length-j∧i<j∧j≤xs.length∧ys.length=xs.length∧ys.take i=(xs.take j).filter (fun x=>!p x)∧ys.drop j=xs.drop j∧(∀y∈ys,y∈xs)∧
    ak (out (dK (.slice (some ⟨g,0,none⟩) xs.length cap)) w0) w0 X w∧bI w X g ((ys.map Ev.l).flatten++Z) 69)
    (xs.length-(i0+1)) ⟨i0+1,i0,xs,by simp,rfl,rfl,by omega,by omega,rfl,?_,rfl,fun _ h=>h,hs,bE⟩ ?_
   ·rw [bc,LM];simp only [iI,ea,fT,Rq,Bool.not_true,bh,if_false,xC,fh];exact(List.filter_eq_self.2 fun y hy=>by simp [Rr y hy]).symm
   rintro n a b w X ⟨j,i,ys,rfl,rfl,rfl,yK,hj,zx,rD,BV,Y4,hs,bE⟩;have Rt:Own w X lo 69 7 (.slice (some ⟨g,0,none⟩) xs.length cap) (ys.map Ev.l):=
    Own.vM bE eo (fun r hr=>by obtain⟨y,_,rfl⟩:=List.mem_map.1 hr;rfl) (by simpa using zx) jh iB (by rw [ae,fC,hZ,zx];omega) (by rw [ir (by rw [fC];omega),aY (by rw [fC];omega)])
   rcases eb xs j with⟨cK,x,hx,hd⟩|⟨dU,hd⟩
   ·have hy:ys[j]? =some x:=by
     have:(ys.drop j)[0]? =some x:=by rw [BV,hd];rfl
     simpa using this
    have ox:=tt x (aA hx);have Dh:=hp x (aA hx);have OU:ys.drop (j+1)=xs.drop (j+1):=by
     have:=congrArg List.tail BV;simpa using this
    repeat' first|refine bO ?_;intros|with_reducible apply dG|(refine eR (Dh.since (hs.less hA)) hf hs.has ?_ ?_<;>(intro _ w X aq;replace hs:=hs.trans aq;clear Rt))
    ·refine eM (xs.length-(j+1)) zQ ⟨j+1,i,ys,by simp,rfl,rfl,by omega,by omega,zx,?_,OU,Y4,hs,bE.since (by assumption)⟩;rw [bc,hx,rD];simp [*]
    ·have Y5:= ‹p x=false›;have kl:=bE.since (by assumption);refine Qr (i:=i) rfl zQ kQ kQ ?_;refine qh kl kQ (by rw [ae,fC];omega) rfl (by show(true&&(true&&(true&&(true&&(true&&(true&&(bu.one x.ko&&true)))))))=true;rw [ox];rfl) hs.has fun w3 X3 hc gY=>?_;have dZ:=hs.dF hc fun k hk e=>hk.2 ((hblk k).2 e);replace gY:bI w3 X3 g (((ys.set i x).map Ev.l).flatten++Z) 69:=by
      rw [←Rp Y3 zQ];exact gY
     replace hs:=dZ;repeat' first|refine aD ?_;intros
     have tL:i<ys.length:=by omega
     refine eM (xs.length-(j+1)) zQ ⟨j+1,i+1,ys.set i x,by simp,by simp,rfl,by omega,by omega,by simpa using zx,?_,?_,fun y hy'=>?_,hs,gY⟩
     ·rw [bc (l:=xs),hx,ea,←rD];have:(ys.set i x).take (i+1)=ys.take i++[x]:=by
       rw [bc,tc (bK _)];simp [tL]
      rw [this];simp [Y5]
     ·rw [td zQ];exact OU
     ·rcases lf hy' with h|rfl
      ·exact Y4 y h
      ·exact aA hx
   ·have Vo:i≤xs.length:=by omega
    have tO:ys.take i=xs.filter fun x=>!p x:=by rw [rD,aY dU]
    repeat' first|refine bO ?_;intros
    refine Ru (k:=7) (i:=i) rfl Vo jh kQ kQ ?_;rw [if_neg (show¬cap=i by omega)];refine KB (k:=7) (bytes:=72) (e:=69) bE kQ kQ zQ (by rw [ae,fC];omega) hs.has fun w3 X3 zs Dd hc gY=>?_;have dZ:=hs.dF hc fun k hk e=>hk.2 ((hblk k).2 e);refine yL (i:=i) rfl zQ kQ kQ ?_;refine mX dZ fun wa bC=>⟨?_,rfl⟩;have hlen:(xs.filter fun x=>!p x).length=i:=by rw [←tO,aW];omega
    have GN:(ys.map Ev.l).flatten=((ys.take i).map Ev.l).flatten++((ys.drop i).map Ev.l).flatten:=by rw [←gJ,←bo,cD]
    have GO:(((ys.take i).map Ev.l).flatten).length=i*7:=by rw [fC,aW];omega
    have hBl:(((ys.drop i).map Ev.l).flatten).length=(xs.length-i)*7:=by rw [fC,dM,zx]
    rw [GN,qb GO (by rw [hBl,Dd]),tO] at gY;rw [tO] at GO;have:=Own.vM (k:=7) (lo:=lo) (cap:=cap) (n:=i) (rows:=(xs.filter fun x=>!p x).map Ev.l) (gY.kp bC) eo (fun r hr=>by obtain⟨y,_,rfl⟩:=List.mem_map.1 hr;rfl) (by simpa using hlen) zQ iB (by
      simp only [ae,GO,Dd,hZ];omega) (by
      rw [aB,ir (by rw [GO];omega),aY (by rw [GO];omega)])
    exact⟨this.1,this.2.1,fun g' gl=>gl⟩
theorem GP {w:World} {X A:XS} {lo:Nat} {v:Value} {xs:List fG} {f:FuncId} {cs:List Value} {p:fG→Bool} (own:Own w X lo 102 5 v (xs.map fG.l)) (hX: ∀k,X k→k<w.heap.size)
  (hA: ∀k,A k→X k∧ ¬dK v k) (hf:enters pg f=true)
  (hp: ∀x∈xs,Ct pg f ((.agg x.l.toArray)::cs).toArray w A nX fun v _ _=>v=B (p x)) (tt: ∀x∈xs,True:=fun _ _=>trivial):
  Ct pg 35 #[v,.func (.func f) #[] cs.toArray] w X (dK v) fun v' _ w'=>
   Own w' (dK v) lo 102 5 v' ((xs.filter fun x=>!p x).map fG.l)∧v'.ownBlock=v.ownBlock:=by
  intro w0 hk;have Vb:=hp;replace own:=own.mv hk.cL;replace hp:=fun x hx=>(hp x hx).kp (hk.less fun k h=>(hA k h).1);replace hA: ∀k,A k→out (dK v) w0 k:=fun k ah=>⟨aI (hX k (hA k ah).1) hk.size,(hA k ah).2⟩;have iV:=own.sl.gz;apply pd;unfold jW;have hs:=ak.out (dK v) w0;refine dC (IP own.sl hs.has (fun k h=>(hA k h).1) hf hp) kQ hs.has fun w X aq=>?_;have vV:=own.since aq;replace hs:=hs.trans aq;repeat' first|refine aD ?_;intros|refine dD ?_ ?_<;>intros
  ·have hi:= ‹idxOf p xs= -1›;refine mX hs fun wa hk=>⟨?_,rfl⟩;have pz: ∀x∈xs,p x=false:=by
    have:=pU p xs;rw [hi] at this;intro x hx;have h2:xs.any p=false:=this.symm;simpa using List.any_eq_false.1 h2 x hx
   have:xs.filter (fun x=>!p x)=xs:=List.filter_eq_self.2 fun x hx=>by simp [pz x hx]
   rw [this];exact⟨vV.1,(vV.kp hk).2.1,fun g hg=>hg⟩
  ·obtain⟨i0,x0,YZ,LM,Rq,Rr⟩:=Ag ‹¬idxOf p xs= -1›;have Rs:i0<xs.length:=(List.getElem?_eq_some_iff.1 LM).1;rw [YZ];rcases vV.row with⟨_,he⟩|⟨g,cap,cells,hv,eo,bE,jh,iB,oz,iE⟩
   ·have:xs=[]:=by simpa using he
    subst this;simp at Rs
   rw [ay] at hv jh iE;subst hv;have Y3: ∀y:fG,y.l.length=5:=fun _=>rfl;have fC: ∀ys:List fG,((ys.map fG.l).flatten).length=ys.length*5:=fun ys=>by rw [gQ (k:=5) fun r hr=>by obtain⟨y,_,rfl⟩:=List.mem_map.1 hr;rfl];simp
   have hblk: ∀k,dK (.slice (some ⟨g,0,none⟩) xs.length cap) k↔k=g:=fun k=>⟨fun h=>by simpa [dK,ec] using h.symm,fun h=>by subst h;rfl⟩;obtain⟨Z,rfl⟩: ∃Z,cells=(xs.map fG.l).flatten++Z:=⟨cells.drop (xs.length*5),by rw [←iE,cD]⟩;have hZ:Z.length=(cap-xs.length)*5:=by rw [ae,fC] at oz;omega
   clear own vV iE oz;repeat' first|refine aD ?_;intros
   refine gb (fun n a b w X=> ∃(j i:Nat) (ys:List fG),a=I j∧b=I i∧n=xs.length-j∧i<j∧j≤xs.length∧ys.length=xs.length∧ys.take i=(xs.take j).filter (fun x=>!p x)∧ys.drop j=xs.drop j∧(∀y∈ys,y∈xs)∧
    ak (out (dK (.slice (some ⟨g,0,none⟩) xs.length cap)) w0) w0 X w∧bI w X g ((ys.map fG.l).flatten++Z) 102)
    (xs.length-(i0+1)) ⟨i0+1,i0,xs,by simp,rfl,rfl,by omega,by omega,rfl,?_,rfl,fun _ h=>h,hs,bE⟩ ?_
   ·rw [bc,LM];simp only [iI,ea,fT,Rq,Bool.not_true,bh,if_false,xC,fh];exact(List.filter_eq_self.2 fun y hy=>by simp [Rr y hy]).symm
   rintro n a b w X ⟨j,i,ys,rfl,rfl,rfl,yK,hj,zx,rD,BV,Y4,hs,bE⟩;have Rt:Own w X lo 102 5 (.slice (some ⟨g,0,none⟩) xs.length cap) (ys.map fG.l):=
    Own.vM bE eo (fun r hr=>by obtain⟨y,_,rfl⟩:=List.mem_map.1 hr;rfl) (by simpa using zx) jh iB (by rw [ae,fC,hZ,zx];omega) (by rw [ir (by rw [fC];omega),aY (by rw [fC];omega)])
   rcases eb xs j with⟨cK,x,hx,hd⟩|⟨dU,hd⟩
   ·have hy:ys[j]? =some x:=by
     have:(ys.drop j)[0]? =some x:=by rw [BV,hd];rfl
     simpa using this
    have ox:=tt x (aA hx);have Dh:=hp x (aA hx);have OU:ys.drop (j+1)=xs.drop (j+1):=by
     have:=congrArg List.tail BV;simpa using this
    repeat' first|refine bO ?_;intros|with_reducible apply dG|(refine eR (Dh.since (hs.less hA)) hf hs.has ?_ ?_<;>(intro _ w X aq;replace hs:=hs.trans aq;clear Rt))
    ·refine eM (xs.length-(j+1)) zQ ⟨j+1,i,ys,by simp,rfl,rfl,by omega,by omega,zx,?_,OU,Y4,hs,bE.since (by assumption)⟩;rw [bc,hx,rD];simp [*]
    ·have Y5:= ‹p x=false›;have kl:=bE.since (by assumption);refine Qr (i:=i) rfl zQ kQ kQ ?_;refine qh kl kQ (by rw [ae,fC];omega) rfl (rfl) hs.has fun w3 X3 hc gY=>?_;have dZ:=hs.dF hc fun k hk e=>hk.2 ((hblk k).2 e);replace gY:bI w3 X3 g (((ys.set i x).map fG.l).flatten++Z) 102:=by
      rw [←Rp Y3 zQ];exact gY
     replace hs:=dZ;repeat' first|refine aD ?_;intros
     have tL:i<ys.length:=by omega
     refine eM (xs.length-(j+1)) zQ ⟨j+1,i+1,ys.set i x,by simp,by simp,rfl,by omega,by omega,by simpa using zx,?_,?_,fun y hy'=>?_,hs,gY⟩
     ·rw [bc (l:=xs),hx,ea,←rD];have:(ys.set i x).take (i+1)=ys.take i++[x]:=by
       rw [bc,tc (bK _)];simp [tL]
      rw [this];simp [Y5]
     ·rw [td zQ];exact OU
     ·rcases lf hy' with h|rfl
      ·exact Y4 y h
      ·exact aA hx
   ·have Vo:i≤xs.length:=by omega
    have tO:ys.take i=xs.filter fun x=>!p x:=by rw [rD,aY dU]
    repeat' first|refine bO ?_;intros
    refine Ru (k:=5) (i:=i) rfl Vo jh kQ kQ ?_;rw [if_neg (show¬cap=i by omega)];refine KB (k:=5) (bytes:=40) (e:=102) bE kQ kQ zQ (by rw [ae,fC];omega) hs.has fun w3 X3 zs Dd hc gY=>?_;have dZ:=hs.dF hc fun k hk e=>hk.2 ((hblk k).2 e);refine yL (i:=i) rfl zQ kQ kQ ?_;refine mX dZ fun wa bC=>⟨?_,rfl⟩;have hlen:(xs.filter fun x=>!p x).length=i:=by rw [←tO,aW];omega
    have GN:(ys.map fG.l).flatten=((ys.take i).map fG.l).flatten++((ys.drop i).map fG.l).flatten:=by rw [←gJ,←bo,cD]
    have GO:(((ys.take i).map fG.l).flatten).length=i*5:=by rw [fC,aW];omega
    have hBl:(((ys.drop i).map fG.l).flatten).length=(xs.length-i)*5:=by rw [fC,dM,zx]
    rw [GN,qb GO (by rw [hBl,Dd]),tO] at gY;rw [tO] at GO;have:=Own.vM (k:=5) (lo:=lo) (cap:=cap) (n:=i) (rows:=(xs.filter fun x=>!p x).map fG.l) (gY.kp bC) eo (fun r hr=>by obtain⟨y,_,rfl⟩:=List.mem_map.1 hr;rfl) (by simpa using hlen) zQ iB (by
      simp only [ae,GO,Dd,hZ];omega) (by
      rw [aB,ir (by rw [GO];omega),aY (by rw [GO];omega)])
    exact⟨this.1,this.2.1,fun g' gl=>gl⟩
def Qs (sb:Nat) (hv:Value) (hl:List FV):XS:=fun k=>k=sb∨dK hv k∨ ∃x∈hl,dK x.1 k
theorem gD.tight {w:World} {F:XS} {sb:Nat} {hv:Value} {hl:List FV} (h:gD w F sb hv hl):gD w (Qs sb hv hl) sb hv hl:=
 ⟨⟨.inl rfl,h.box.2⟩,h.ow.tight.mono fun k hk=>.inr (.inl hk),fun x hx=>(h.ws x hx).tight.mono fun k hk=>.inr (.inr ⟨x,hx,hk⟩)⟩
theorem gD.sub {w:World} {F:XS} {sb:Nat} {hv:Value} {hl:List FV} (h:gD w F sb hv hl): ∀k,Qs sb hv hl k→F k:=fun k hk=>by
 rcases hk with rfl|hk|⟨x,hx,hk⟩
 ·exact h.box.1
 ·exact(h.ow.bg hk).1
 ·exact((h.ws x hx).bg hk).1
structure gu (w:World) (F:XS) (mb sb fb:Nat) (hv:Value) (room:Int) (high:aK) (fs:List (Int×aK)) (hl:List FV):Prop where
 m:eL w F mb sb fb room high fs
 h:gD w F sb hv hl
section
variable {w : World} {F : XS} {mb sb fb : Nat} {hv : Value} {room : Int} {high : aK} {fs : List (Int × aK)} {hl : List FV}
theorem gu.mv (h:gu w F mb sb fb hv room high fs hl) {w':World} {F':XS} (v:Mv F w F' w'):gu w' F' mb sb fb hv room high fs hl:=⟨h.m.mv v,h.h.mv v⟩
theorem gu.apM (h:gu w F mb sb fb hv room high fs hl): ¬Qs sb hv hl mb:=fun hk=>by
 rcases hk with e|hk|⟨x,hx,hk⟩
 ·exact h.h.box.gd h.m.row kQ e.symm
 ·exact h.h.ow.gd h.m.row kQ hk
 ·exact(h.h.ws x hx).gd h.m.row kQ hk
theorem gu.apF (h:gu w F mb sb fb hv room high fs hl): ¬Qs sb hv hl fb:=fun hk=>by
 rcases hk with e|hk|⟨x,hx,hk⟩
 ·exact h.m.m.gd h.h.box e
 ·exact h.m.m.M4 h.h.ow hk
 ·exact h.m.m.M4 (h.h.ws x hx) hk
end
theorem eL.Eg {w w':World} {F F' X X' G:XS} {mb sb fb:Nat} {room:Int} {high:aK} {fs:List (Int×aK)} (h:eL w F mb sb fb room high fs) (hX: ∀k,F k→X k) (c:ef G X w X' w') (h1: ¬G mb) (h2: ¬G fb) (hF: ∀k,F k→F' k):
  eL w' F' mb sb fb room high fs:=
 ⟨⟨hF _ h.row.1,(c.block _ (hX _ h.row.1) h1).trans h.row.2⟩,by
  obtain⟨es,q,a1,a2⟩:=h.m;exact⟨es,q,⟨hF _ a1.1,(c.block _ (hX _ a1.1) h2).trans a1.2.1,a1.2.2⟩,a2.mv uU fun _ hk=>hk.elim⟩⟩
def Wo (hl:List FV) (s:aK) (es:List Ev) (n:Nat):Prop:=
 n≤hl.length∧(∀x∈hl.take n,x.2.aw.cmp s≤0)∧(∀x,hl[n]? =some x→ ¬x.2.aw.cmp s≤0)∧es.length=(mO ((hl.take n).map (·.2))).length∧
  ∀(i:Nat) e x,(mO ((hl.take n).map (·.2)))[i]? =some e→es[i]? =some x→x.bU=e.bU∧x.aw=e.aw∧x.writes.Perm e.writes
def vW (high:aK) (es:List Ev):aK:=
 match es.getLast? with
 |none=>high
 |some e=>e.aw
theorem Wp (high:aK) (es:List Ev) (e:Ev):vW high (es++[e])=e.aw:=by simp [vW]
theorem Rv {w:World} {X F:XS} {mb sb fb:Nat} {hv:Value} {room:Int} {high:aK} {fs:List (Int×aK)} {hl:List FV} (h:gu w F mb sb fb hv room high fs hl) (hF:FX F X w)
  (hr: ∀x∈fs,1≤x.1∧x.1≤12) (fC:fs.length≤2^40) (bW:fs≠[]) (hn:hl.length≤2^39) (MZ:(hl.map fun x=>x.2.writes.length).sum≤2^40):
  Ct pg 83 #[ptr mb 0] w X F fun v wa w'=> ∃F' j5 es n,(∀k,F' k→F k∨made wa w' k)∧gu w' F' mb sb fb j5 room (vW high es) fs (hl.drop n)∧
   dN w' (made wa w') wa.heap.size v es∧(∀b,sG v es b→ ¬F' b)∧Wo hl ((vR fs).getD .zero) es n:=by
 intro w0 hk;replace h:=h.mv (hF.mv hk);have hT:=hF.ft hk;apply Eh;unfold vX;have hs:=ak.init w0;refine ek (zi (h.m.mv (Mv.sub hT.bg)) hr fC) kQ hT.s.has ?_;rintro v wa w1 X1 rfl hle eD aq;replace hs:=hs.trans aq;have de:=hT.since aq;have h1:=h.mv (aq.jB hT.bg);have hd:decide (fs≠[])=true:=by simpa using bW
 rw [hd];have bE:=h1.m.row.mv (Mv.sub de.bg);generalize (vR fs).getD aK.zero=s;repeat' first|refine aD ?_;intros
 refine de.call (Uh h1.h.tight (de.fx h1.h.sub) hn MZ) kQ h1.h.sub ?_;rintro v2 yM w2 X2 ⟨FH,j5,es,n,hFH,hH2,uQ,q1,q2,q3,q4,q5,q6⟩ nW kZ b8 c2;have Vp:eL w2 (fun k=>F k∨FH k) mb sb fb room high fs:=h1.m.Eg de.bg c2 h1.apM h1.apF fun k ah=>.inl ah;have rz: ∀k,FH k→F k∨made yM w2 k:=fun k ah=>(hFH k ah).imp (h1.h.sub k) id;have tP: ∀k,(F k∨FH k)→F k∨made yM w2 k:=fun k ah=>ah.elim .inl (rz k);have Rw:gD w2 (fun k=>F k∨FH k) sb j5 (hl.drop n):=hH2.mv (Mv.sub fun k ah=>.inr ah);have hEF: ∀b,sG v2 es b→ ¬(F b∨FH b):=fun b hb hf=>by
  have dU:w1.heap.size≤b∧made yM w2 b:=by
   rcases hb with hb|⟨x,hx,hb⟩
   ·have h9:=uQ.own.ge hb;exact⟨af nW h9.1,h9.1,h9.2⟩
   ·have h9:=(uQ.ws x hx).ge hb;exact⟨af nW h9.1,h9.1,h9.2⟩
  rcases hf with hf|hf
  ·have:=de.s.has b (de.bg b hf);have:=dU.1;omega
  ·exact q5 b hb hf
 have aaM:dN w2 X2 w0.heap.size v2 es:=⟨uQ.own.up kZ (af de.s.kp.size nW),fun x hx=>(uQ.ws x hx).up kZ (af de.s.kp.size nW),uQ.ap⟩;have mg:=aaM.own.sl;have lv:=mg.len;rw [ay] at lv;have LN: ∀k,(F k∨FH k)→X2 k:=fun k ah=>(tP k ah).elim (fun hf=>c2.sub k (de.bg k hf)) (kZ k);have fB:w0.heap.size≤yM.heap.size:=af de.s.kp.size nW;have hG: ∀k,(F k∨FH k)→ ∀wa,Kp X2 w2 wa→F k∨made w0 wa k:=fun k ah wa bC=>by
  rcases tP k ah with hf|hm
  ·exact .inl hf
  ·have:=bC.size;have h3:=hm.1;have h4:=hm.2;exact .inr ⟨by omega,by omega⟩
 clear hs;have hs:=b8.s;rcases oA es with rfl|⟨oX,e,rfl⟩
 ·refine dG ?_;refine yP mg kQ ?_;have LG:([]:List Ev).length=0:=rfl;rw [LG];repeat' first|refine bO ?_;intros
  exact b8.fin fun wa bC=>⟨fun k=>F k∨FH k,j5,[],n,fun k ah=>hG k ah wa bC,⟨Vp.mv (bC.j6 LN),Rw.mv (bC.j6 LN)⟩,
    aaM.fin bC,hEF,q1,q2,q3,q4,q6⟩
 ·have LG:(oX++[e]).length=oX.length+1:=by simp
  have hx:(oX++[e])[oX.length]? =some e:=by simp
  have kl:=Vp.row.mv (Mv.sub LN);refine dG ?_;refine yP mg kQ ?_;rw [LG];repeat' first|refine bO ?_;intros
  refine Io (o:=2) kl zQ kQ (by simp) rfl rfl b8.s.has fun w3 X3 c3 oY=>?_;have dz:Ft w0 F w3 X3 (fun k=>F k∨made yM w2 k):=b8.dF c3 (fun k ah=>by subst ah;exact .inl h1.m.row.1) fun k ah=>.inl ah;have OV:eL w3 (fun k=>F k∨FH k) mb sb fb room e.aw fs:=by
   obtain⟨es9,q9,a1,a2⟩:=Vp.m;exact⟨⟨Vp.row.1,oY.2⟩,es9,q9,⟨a1.1,(c3.block _ (LN _ a1.1) (Ne.symm Vp.ne)).trans a1.2.1,a1.2.2⟩,a2.mv uU fun _ ah=>ah.elim⟩
  have agR:gu w2 (fun k=>F k∨FH k) mb sb fb j5 room high fs (hl.drop n):=⟨Vp,Rw⟩;have OM:gD w3 (fun k=>F k∨FH k) sb j5 (hl.drop n):=by
   have h9:=Rw.tight;exact(h9.mv fun k ah _=>⟨Rw.sub k ah,c3.block k (LN k (Rw.sub k ah)) fun e=>agR.apM (by have e:k=mb:=e;rw [←e];exact ah)⟩)
  have LH:dN w3 X3 w0.heap.size v2 (oX++[e]):=aaM.dF c3 fun k ah=>by subst ah;exact hF.ft hk|>.bg _ h1.m.row.1
  have ad4: ∀k,(F k∨FH k)→X3 k:=fun k ah=>c3.sub k (LN k ah);have ad5:=c3.size;exact dz.fin fun wa bC=>⟨fun k=>F k∨FH k,j5,oX++[e],n,fun k ah=>by
   rcases tP k ah with hf|hm
   ·exact .inl hf
   ·have:=bC.size;have h3:=hm.1;have h4:=hm.2;exact .inr ⟨by omega,by omega⟩,by rw [Wp];exact⟨OV.mv (bC.j6 ad4),OM.mv (bC.j6 ad4)⟩,LH.fin bC,hEF,q1,q2,q3,q4,q6⟩
def jH (high:aK) (fs:List (Int×aK)) (hl:List FV) (f:eB):Int:=
 if f.may=false then 4 else if(getM f.gF fs).isSome=false then 8 else if f.aw.cmp high≤0 then 20 else lp (hl.map (·.2)) f
theorem Uj {w:World} {X F S:XS} {mb sb fb:Nat} {hv vw:Value} {room:Int} {high:aK} {fs:List (Int×aK)} {hl:List FV} {f:eB} (h:gu w F mb sb fb hv room high fs hl) (hF:FX F X w)
  (hw:Sl w S 4 vw (f.writes.map KV.l)) (hS: ∀k,S k→X k∧ ¬F k) (hr: ∀x∈hl,1≤x.2.gF∧x.2.gF≤12) (hb:f.writes.length≤2^40) (hn:hl.length≤2^39)
  (hm:f.may=true→ ∀(i j:Nat) x y,i<j→hl[i]? =some x→hl[j]? =some y→y.2.cmp f<0→x.2.cmp f<0):
  Ct pg 127 #[ptr mb 0,f.v vw] w X F fun v wa w'=>v=I (jH high fs hl f)∧ ∃F' j5 jC,(∀k,F' k→F k∨made wa w' k)∧gu w' F' mb sb fb j5 room high fs jC∧
   (if jH high fs hl f=0 then LO hl jC f else jC=hl):=by
 intro w0 hk;replace h:=h.mv (hF.mv hk);have hT:=hF.ft hk;have BW:Sl w0 (out F w0) 4 vw (f.writes.map KV.l):=hw.mv fun k ah jC=>⟨⟨aI jC hk.size,(hS k ah).2⟩,hk.block k (hS k ah).1⟩;have nq: ∀{wz:World} {Xz:XS},Ft w0 F wz Xz F→gu wz F mb sb fb hv room high fs hl→jH high fs hl f≠0→ ∀wa,Kp Xz wz wa→ ∃F' j5 jC,(∀k,F' k→F k∨made w0 wa k)∧gu wa F' mb sb fb j5 room high fs jC∧(if jH high fs hl f=0 then LO hl jC f else jC=hl):=
  fun hT h bW wa bC=>⟨F,hv,hl,fun k hk=>.inl hk,h.mv (bC.j6 hT.bg),by rw [if_neg bW]⟩
 have bE:=h.m.row.mv (Mv.sub hT.bg);have o1:=BW.one;obtain⟨b1,n1,c1,rfl⟩:=BW.form;apply FW;unfold xF;have hs:=ak.init w0;repeat' first|refine aD ?_;intros
 have main: ∀(st:aK) (q:Bool),q=(getM f.gF fs).isSome→ad pg (aS w0) w0 (Instr.lookup 126 (.map (some fb)) (I f.gF) true) (fun v=>v= .tuple #[st.v,B q])→True:=fun _ _ _ _=>trivial;clear main;refine oS (kt:=3) (et:=34) aK.zero.v (h.mv (Mv.sub hT.bg)).m.m iJ kQ kQ (fun v a hg hv=>?_) (fun hg=>?_)
 ·simp only [tu] at hv;subst hv;repeat' first|refine aD ?_;intros
  refine dC (Ei (f:=f) (BW.mv hT.s.mv) hb) kQ hT.s.has fun w1 X1 aq=>?_;have de:=hT.since aq;have h1:=h.mv (aq.jB hT.bg);have jj:=bE.mv aq.mv;clear hs;have hs:=de.s;cases lB:f.may
  ·have e:jH high fs hl f=4:=by simp [jH,lB]
   repeat' first|refine aD ?_;intros
   exact de.fin fun wa bC=>⟨by rw [e],nq de h1 (by rw [e];decide) wa bC⟩
  repeat' first|refine aD ?_;intros
  refine fX (ic _ _) kQ hs.has fun w2 X2 dI=>?_;have b8:=de.since dI;have h2:=h1.mv (dI.jB de.bg);have kl:=jj.mv dI.mv;clear hs;have hs:=b8.s;by_cases hle:f.aw.cmp high≤0
  ·have e:jH high fs hl f=20:=by simp [jH,lB,hg,hle]
   repeat' first|refine bO ?_;intros
   exact b8.fin fun wa bC=>⟨by rw [e],nq b8 h2 (by rw [e];decide) wa bC⟩
  ·have e:jH high fs hl f=lp (hl.map (·.2)) f:=by simp [jH,lB,hg,hle]
   repeat' first|refine bO ?_;intros
   have hh:=h2.h.sub;refine b8.call (Wq (S:=out F w0) h2.h.tight (b8.fx hh) (BW.mv (b8.s.jB fun _ ah=>ah)) (fun k ah=>⟨b8.s.sub k ah,fun hf=>b8.no (hh k hf) ah⟩) hr hb hn hm) kQ hh ?_;rintro _ AU w3 X3 ⟨rfl,FH,hv3,Vq,hFH,OM,hA3⟩ x6 tv dz c3;have OV:eL w3 (fun k=>F k∨FH k) mb sb fb room high fs:=h2.m.Eg b8.bg c3 h2.apM h2.apF fun k ah=>.inl ah;have AO: ∀k,(F k∨FH k)→F k∨made AU w3 k:=fun k ah=>ah.elim .inl fun ah=>(hFH k ah).imp (hh k) id;have LN: ∀k,(F k∨FH k)→X3 k:=fun k ah=>(AO k ah).elim (fun hf=>c3.sub k (b8.bg k hf)) (tv k);have agS:gD w3 (fun k=>F k∨FH k) sb hv3 Vq:=OM.mv (Mv.sub fun k ah=>.inr ah);clear hs;have hs:=dz.s
   skip
   exact dz.fin fun wa bC=>⟨by rw [e],fun k=>F k∨FH k,hv3,Vq,fun k ah=>by
    rcases AO k ah with hf|hm
    ·exact .inl hf
    ·have:=b8.s.kp.size;have:=bC.size;have h3:=hm.1;have h4:=hm.2;exact .inr ⟨by omega,by omega⟩,⟨OV.mv (bC.j6 LN),agS.mv (bC.j6 LN)⟩,by rw [e];exact hA3⟩
 ·repeat' first|refine aD ?_;intros
  refine dC (Ei (f:=f) (BW.mv hT.s.mv) hb) kQ hT.s.has fun w1 X1 aq=>?_;have de:=hT.since aq;have h1:=h.mv (aq.jB hT.bg);clear hs;have hs:=de.s;cases lB:f.may
  ·have e:jH high fs hl f=4:=by simp [jH,lB]
   repeat' first|refine aD ?_;intros
   exact de.fin fun wa bC=>⟨by rw [e],nq de h1 (by rw [e];decide) wa bC⟩
  ·have e:jH high fs hl f=8:=by simp [jH,lB,hg]
   repeat' first|refine aD ?_;intros
   exact de.fin fun wa bC=>⟨by rw [e],nq de h1 (by rw [e];decide) wa bC⟩
theorem M5 {w:World} {X F:XS} {mb sb fb:Nat} {hv:Value} {room r more:Int} {high:aK} {fs:List (Int×aK)} {hl:List FV} (h:gu w F mb sb fb hv room high fs hl) (hF: ∀k,F k→X k)
  (hr: ∀x∈fs,1≤x.1∧x.1≤12) (fC:fs.length≤2^40) (hn:hl.length≤2^39) (kC:1≤room∧room≤64):
  Ct pg 49 #[ptr mb 0,I r,I more] w X nX fun v _ _=>
   v=B ((getM r fs).isSome&&decide (max more 0≥room-hl.length)&&decide (((getM r fs).getD .zero).cmp ((vR fs).getD .zero)>0)):=by
 intro w0 hk;replace h:=h.mv ((Mv.sub hF).trans hk.cL);have bE:=h.m.row;apply Cy;unfold tQ;have hs:=ak.init w0;repeat' first|refine aD ?_;intros
 refine oS (kt:=3) (et:=34) aK.zero.v h.m.m iJ kQ kQ (fun v a hg hv=>?_) (fun hg=>?_)
 ·simp only [tu] at hv;subst hv;repeat' first|refine aD ?_;intros
  refine dC (zi h.m hr fC) kQ hs.has fun w1 X1 aq=>?_;have h1:=h.mv aq.mv;have jj:=h1.m.row;replace hs:=hs.trans aq;repeat' first|refine aD ?_;intros
  refine af0 ?_;repeat' first|refine aD ?_;intros|with_reducible apply dG
  refine dC (LP h1.h (fun _ hk=>hk)) kQ aq.has fun w2 X2 dI=>?_;replace hs:=hs.trans dI;repeat' first|refine aD ?_;intros|refine dD ?_ ?_<;>intros|with_reducible apply dG|(refine fX (ic _ _) kQ hs.has fun w3 X3 dZ=>?_;replace hs:=hs.trans dZ)
  all_goals exact ai hs fun wa bC=>by simp [hg, *]
 ·repeat' first|refine aD ?_;intros
  refine dC (zi h.m hr fC) kQ hs.has fun w1 X1 aq=>?_;replace hs:=hs.trans aq;repeat' first|refine aD ?_;intros|with_reducible apply dG
  exact ai hs fun wa bC=>by simp [hg]
theorem JF {w:World} {X:XS} {room:Int} {high:aK} :Ct pg 25 #[I room,high.v] w X nX fun v wa w'=>
  if room<1∨64<room then v= .tuple #[.pointer none,I 1] else if high.may=false then v= .tuple #[.pointer none,I 17]
  else∃mb sb fb,v= .tuple #[ptr mb 0,I 0]∧gu w' (made wa w') mb sb fb (.slice none 0 0) room high [] []:=by
 intro w0 hk;apply Rx;unfold GQ;have hs:=ak.init w0;by_cases hb:room<1∨64<room
 ·repeat' first|refine bO ?_;intros|refine dD ?_ ?_<;>intros
  all_goals exact ai hs fun wa bC=>by simp only [if_pos hb]
 repeat' first|refine bO ?_;intros|with_reducible apply dG|((with_reducible refine dR (jc _) ?_ hs.has ?_ ?_);(· kernel_rfl);all_goals (intro _ w X aq;replace hs:=hs.trans aq))
 rotate_left
 ·have hm:= ‹high.may=false›;exact ai hs fun wa bC=>by simp only [if_neg hb,if_pos hm]
 ·have hm:= ‹high.may=true›;have hm': ¬high.may=false:=by rw [hm];decide
  have nq: ∀{sb fb:Nat} {wz wf:World} {Xz Xf:XS},ak (aS w0) w0 Xf wf→bI wz Xz sb [.slice none 0 0] 179→fy wz Xz nX fb (fun z:Int=>I z) tu []→w0.heap.size≤sb→w0.heap.size≤fb→ak Xz wz Xf wf→
    ∀mb,w0.heap.size≤mb→bI wf Xf mb [ptr sb 0,I room,I high.wall,I high.dp,I high.node,.map (some fb)] 128→fin (AP nX w0 fun v w'=>if room<1∨64<room then v= .tuple #[.pointer none,I 1] else if high.may=false then v= .tuple #[.pointer none,I 17] else∃mb sb fb,v= .tuple #[ptr mb 0,I 0]∧gu w' (made w0 w') mb sb fb (.slice none 0 0) room high [] []) Xf wf (.tuple #[ptr mb 0,I 0]):=by
   intro sb fb wz wf Xz Xf hs Da Y6 h1 h2 hzf mb h3 OW;refine ai hs fun wa bC=>?_;rw [if_neg hb,if_neg hm'];have cK: ∀k,Xf k→k<wa.heap.size:=fun k ah=>aI (hs.has k ah) bC.size;have yQ:=Da.mv hzf.mv;have vP:=Y6.mv uU hzf.mv (A':=nX) fun _ hk=>hk.elim;have m1:Mv (fun k=>k=mb) wf (made w0 wa) wa:=Mv.one bC OW.1 ⟨h3,cK _ OW.1⟩;have m2:Mv (fun k=>k=fb) wf (made w0 wa) wa:=Mv.one bC vP.x.1 ⟨h2,cK _ vP.x.1⟩;have m3:Mv (fun k=>k=sb) wf (made w0 wa) wa:=Mv.one bC yQ.1 ⟨h1,cK _ yQ.1⟩;exact⟨mb,sb,fb,rfl,⟨OW.own.mv m1,vP.own.mv uU m2 fun _ hk=>hk.elim⟩,⟨yQ.own.mv m3,Ow.nil _ _ _ _,by simp⟩⟩
  refine⟨?_,?_⟩
  ·refine ek LQ kQ hs.has ?_;rintro _ wa w1 X1 ⟨sb,rfl,bE⟩ hle eD xG;have jj:=bE.mono eD;have Da:w0.heap.size≤sb:=af hs.kp.size (af hle bE.1.1);refine sf (α:=aK) (kv:=fun z:Int=>I z) tu nX xG.has fun fb w2 X2 Y6 xH oC=>?_;have aaN:=af (af hs.kp.size xG.kp.size) Y6;replace hs:=(hs.trans xG).trans xH;have hz:=hs.kp.size;clear bE;repeat' first|refine aD ?_;intros|(with_reducible apply ns);(case hX=>exact hs.has);intro bx w X eX aq bE;have bF:=hs.trans aq;replace hs:=ak.iS aq.has
   exact nq bF (jj.mv xH.mv) oC Da aaN aq bx (af hz eX) bE
  ·refine sf (α:=aK) (kv:=fun z:Int=>I z) tu nX hs.has fun fb w2 X2 Y6 xG oC=>?_;refine ek LQ kQ xG.has ?_;rintro _ wa w1 X1 ⟨sb,rfl,bE⟩ hle eD xH;have jj:=bE.mono eD;have Da:w0.heap.size≤sb:=af hs.kp.size (af xG.kp.size (af hle bE.1.1));have aaN:=af hs.kp.size Y6;replace hs:=(hs.trans xG).trans xH;have hz:=hs.kp.size;clear bE;repeat' first|refine aD ?_;intros|(with_reducible apply ns);(case hX=>exact hs.has);intro bx w X eX aq bE;have bF:=hs.trans aq;replace hs:=ak.iS aq.has
   exact nq bF jj (oC.mv uU xH.mv fun _ hk=>hk.elim) Da aaN aq bx (af hz eX) bE
def gU (own:Nat→Nat) (p:Nat):XS:=fun k=>own k=p
def all (own:Nat→Nat):XS:=fun k=>own k≠0
theorem KJ {own:Nat→Nat} {p:Nat} {w w':World} {X X' G F':XS} (hp:p≠0) (c:ef G X w X' w') (hX: ∀k,own k≠0→X k) (hG: ∀k,G k→own k=p) (hF: ∀k,F' k→own k=p∨own k=0∨w.heap.size≤k):
  ∃dy,(∀k,F' k→gU dy p k)∧(∀q,q≠p→q≠0→Mv (gU own q) w (gU dy q) w')∧(∀k,dy k≠0→own k≠0∨F' k)∧(∀q k,q≠p→q≠0→dy k=q→own k=q)∧ ∀k,dy k=p→F' k:=by
 classical
 refine⟨fun k=>if F' k then p else if own k=p then 0 else own k,fun k hk=>by simp [gU,hk],fun q hq h0 k hk hl=>?_,fun k hk=>?_,fun q k hq h0 hk=>?_,fun k hk=>?_⟩
 ·have hk:own k=q:=hk;have h1: ¬F' k:=fun hf=>by
   rcases hF k hf with h|h|h
   ·exact hq (hk▸h)
   ·exact h0 (hk▸h)
   ·omega
  have h2: ¬own k=p:=fun h=>hq (by rw [←hk,h]);refine⟨by simp [gU,h1,hk,hq],c.block k (hX k (by rw [hk];exact h0)) fun hg=>h2 (hG k hg)⟩
 ·by_cases h1:F' k
  ·exact .inr h1
  ·by_cases h2:own k=p
   ·simp [h1,h2] at hk
   ·simp [h1,h2] at hk;exact .inl hk
 ·by_cases h1:F' k
  ·simp [h1] at hk;exact absurd hk.symm hq
  ·by_cases h2:own k=p
   ·simp [h1,h2] at hk;exact absurd hk.symm h0
   ·simpa [h1,h2] using hk
 ·by_cases h1:F' k
  ·exact h1
  ·by_cases h2:own k=p
   ·simp [h1,h2] at hk;exact absurd hk.symm hp
   ·simp [h1,h2] at hk
theorem Aw {own:Nat→Nat} {p:Nat} {w w':World} {X X' G F':XS} (hp:p≠0) (c:ef G X w X' w') (hX: ∀k,own k≠0→X k) (hG: ∀k,G k→own k=p) (hF: ∀k,F' k→own k=p∨w.heap.size≤k):
  ∃dy,(∀k,F' k→gU dy p k)∧(∀q,q≠p→q≠0→Mv (gU own q) w (gU dy q) w')∧(∀k,dy k≠0→own k≠0∨F' k)∧ ∀q k,q≠p→q≠0→dy k=q→own k=q:=by
 obtain⟨dy,h1,h2,h3,h4,_⟩:=KJ hp c hX hG fun k hk=>(hF k hk).imp id .inr;exact⟨dy,h1,h2,h3,h4⟩
theorem ad6 {own:Nat→Nat} {w w':World} {X X' G:XS} (c:ef G X w X' w') (hX: ∀k,own k≠0→X k) (hG: ∀k,G k→own k=0) (q:Nat) (h0:q≠0):Mv (gU own q) w (gU own q) w':=fun k hk _=>by
 have hk:own k=q:=hk;exact⟨hk,c.block k (hX k (by rw [hk];exact h0)) fun hg=>h0 (by rw [←hk];exact hG k hg)⟩
structure fU where
 tb:Nat
 mb:Nat
 m:eE
 s:iv
abbrev fU.fp (x:fU):XS:=pV x.tb x.mb x.m
def Ry:World→XS→Value→fU→Prop:=fun _ _ v x=>v=ptr x.tb 0
theorem AV:oB Ry:=fun _ _ _ _ _ _ h _=>h
structure kP (w:World) (F:XS) (kD:Nat) (l:List (Int×fU)):Prop where
 map:fy w F nX kD (fun z:Int=>I z) Ry l
 tl: ∀x∈l,df w F (fZ x.2.m) x.2.tb x.2.mb x.2.s x.2.m∧qi x.2.m
 sep: ∀x∈l,∀y∈l,x.1≠y.1→ ∀k,x.2.fp k→ ¬y.2.fp k
 nm: ∀x∈l,¬x.2.fp kD
theorem df.Fk {w:World} {F:XS} {x:fU} (h:df w F (fZ x.m) x.tb x.mb x.s x.m): ∀k,x.fp k→F k∧k<w.heap.size:=fun k hk=>by
 rcases hk with rfl|rfl|hk
 ·exact⟨h.box.1,h.box.lt⟩
 ·exact h.lX.x
 ·exact⟨h.sub k hk,(h.fp k hk).2⟩
theorem kP.mv {w w':World} {F F':XS} {kD:Nat} {l:List (Int×fU)} (h:kP w F kD l) (v:Mv F w F' w'):kP w' F' kD l:=
 ⟨h.map.mv AV v fun _ hk=>hk.elim,fun x hx=>by
  have h1:=(h.tl x hx).1;refine⟨(h1.tight.mv (fun k hk=>(df.Fk h1 k hk).2) (Y:=fun k=>F' k) fun k hk hl=>?_),(h.tl x hx).2⟩;exact v k (df.Fk h1 k hk).1 hl,h.sep,h.nm⟩
theorem kE {α:Type} {k:Int} {a:α} : ∀{l:List (Int×α)},getM k l=some a→(k,a)∈l
 |[],h=>by simp [getM] at h
 |y::l,h=>by
  by_cases hy:y.1=k
  ·have:y.2=a:=by simpa [getM,bS,hy] using h
   rw [←hy,←this];exact di
  ·exact bG _ (kE (by simpa [getM,bS,hy] using h))
theorem kP.step {w w':World} {F F' X X':XS} {kD:Nat} {l:List (Int×fU)} {k:Int} {x x':fU} (h:kP w F kD l) (hg:getM k l=some x) (hb:x'.tb=x.tb) (c:ef x.fp X w X' w') (hF: ∀k,F k→X k)
  (ht:df w' x'.fp (fZ x'.m) x'.tb x'.mb x'.s x'.m) (hs:qi x'.m) (hn: ∀k,x'.fp k→x.fp k∨w.heap.size≤k) (Fi: ∀k,F k→F' k) (rz: ∀k,x'.fp k→F' k):kP w' F' kD (bM k x' l):=by
 have lQ:=h.map.nodup;have gR:=kE hg;have cK: ∀y∈l,∀b,y.2.fp b→F b∧b<w.heap.size:=fun y hy=>df.Fk (h.tl y hy).1;have hold: ∀y∈l,y.1≠k→ ∀b,y.2.fp b→ ¬x.fp b:=fun y hy bW b hb=>h.sep y hy (k,x) gR bW b hb;have np: ∀y∈l,y.1≠k→ ∀b,y.2.fp b→ ¬x'.fp b:=fun y hy bW b hb fF=>by
  rcases hn b fF with h1|h1
  ·exact hold y hy bW b hb h1
  ·have:=(cK y hy b hb).2;omega
 have LR:=h.map.x;refine⟨?_,fun y hy=>?_,fun y hy z hz bW=>?_,fun y hy=>?_⟩
 ·obtain⟨es,q,a1,a2⟩:=h.map;have fF:w'.heap[kD]? =w.heap[kD]? :=c.block kD (hF _ a1.1) (h.nm _ gR);refine⟨es,q,⟨Fi _ a1.1,fF.trans a1.2.1,a1.2.2⟩,?_⟩;have h3:jq w' nX Ry es l:=a2.mv AV fun _ hk=>hk.elim;clear a1 a2 LR fF np hold cK;have key: ∀(es:List (Go.bu.iq Int)) (l:List (Int×fU)),getM k l=some x→jq w' nX Ry es l→jq w' nX Ry es (bM k x' l):=by
   intro es l
   induction l generalizing es with
   |nil=>intro h;simp [getM] at h
   |cons y l ih=>
    intro hg hr;cases es with
    |nil=>exact hr.elim
    |cons e es=>
     unfold bM;by_cases hy:y.1=k
     ·rw [if_pos hy];have:y.2=x:=by simpa [getM,bS,hy] using hg
      refine⟨hr.1.trans hy,?_,hr.2.2⟩;have h2:=hr.2.1;rw [this] at h2
      show _=ptr x'.tb 0
      rw [hb];exact h2
     ·rw [if_neg hy];exact⟨hr.1,hr.2.1,ih es (by simpa [getM,bS,hy] using hg) hr.2.2⟩
  exact key es l hg h3
 ·rcases fc lQ hy with rfl|⟨hy,bW⟩
  ·exact⟨ht.wide rz,hs⟩
  ·have h1:=(h.tl y hy).1;refine⟨(h1.tight.mv (fun b hb=>(cK y hy b hb).2) (Y:=F') fun b hb _=>⟨Fi b (cK y hy b hb).1,c.block b (hF b (cK y hy b hb).1) (hold y hy bW b hb)⟩),(h.tl y hy).2⟩
 ·rcases fc lQ hy with rfl|⟨hy,Y7⟩<;>rcases fc lQ hz with rfl|⟨hz,hzk⟩
  ·exact absurd rfl bW
  ·exact fun b hb fF=>np z hz hzk b fF hb
  ·exact fun b hb fF=>np y hy Y7 b hb fF
  ·exact h.sep y hy z hz bW
 ·rcases fc lQ hy with rfl|⟨hy,_⟩
  ·intro hb;rcases hn _ hb with h1|h1
   ·exact h.nm _ gR h1
   ·have:=LR.2;omega
  ·exact h.nm y hy
theorem kP.put {w w1 w2:World} {F F1 F2 X1 X2:XS} {kD:Nat} {l:List (Int×fU)} {k:Int} {x:fU} (h:kP w1 F kD l) (hF: ∀k,F k→X1 k∧k<w.heap.size)
  (ht:df w1 F1 (fZ x.m) x.tb x.mb x.s x.m) (hs:qi x.m) (hn: ∀k,x.fp k→w.heap.size≤k) (h1: ∀k,F1 k→X1 k) (c:ef (· =kD) X1 w1 X2 w2) (hm:fy w2 X2 nX kD (fun z:Int=>I z) Ry (bM k x l))
  (Fi: ∀k,F k→F2 k) (rz: ∀k,x.fp k→F2 k):kP w2 F2 kD (bM k x l):=by
 have lQ:=h.map.nodup;have LR:=hF _ h.map.x.1;have cK: ∀y∈l,∀b,y.2.fp b→F b∧b<w.heap.size:=fun y hy b hb=>⟨(df.Fk (h.tl y hy).1 b hb).1,(hF b (df.Fk (h.tl y hy).1 b hb).1).2⟩;refine⟨?_,fun y hy=>?_,fun y hy z hz bW=>?_,fun y hy=>?_⟩
 ·obtain⟨es,q,a1,a2⟩:=hm;exact⟨es,q,⟨Fi _ h.map.x.1,a1.2⟩,a2⟩
 ·rcases fc lQ hy with rfl|⟨hy,bW⟩
  ·refine⟨(ht.tight.mv (fun b hb=>(df.Fk ht b hb).2) (Y:=F2) fun b hb _=>⟨rz b hb,c.block b (h1 b (df.Fk ht b hb).1) fun e=>?_⟩),hs⟩;have:=hn b hb;have e:b=kD:=e;omega
  ·have q:=(h.tl y hy).1;exact⟨(q.tight.mv (fun b hb=>(df.Fk q b hb).2) (Y:=F2) fun b hb _=>⟨Fi b (cK y hy b hb).1,c.block b (hF b (cK y hy b hb).1).1 fun e=>h.nm y hy (by have e:b=kD:=e;rw [←e];exact hb)⟩),(h.tl y hy).2⟩
 ·rcases fc lQ hy with rfl|⟨hy,Y7⟩<;>rcases fc lQ hz with rfl|⟨hz,hzk⟩
  ·exact absurd rfl bW
  ·exact fun b hb fF=>by have:=hn b hb;have:=(cK z hz b fF).2;omega
  ·exact fun b hb fF=>by have:=hn b fF;have:=(cK y hy b hb).2;omega
  ·exact h.sep y hy z hz bW
 ·rcases fc lQ hy with rfl|⟨hy,_⟩
  ·intro hb;have:=hn _ hb;omega
  ·exact h.nm y hy
structure dY where
 tl:List (Int×Int)
 mh:aK
 room:Int
 high:aK
 fs:List (Int×aK)
 hl:List FV
 bZ:List (Int×fU)
 bp:aK
 told:Bool
 q:List Ev
 holds:List fG
 seen:aK
 db:Nat
 GR:Value
 mb:Nat
 sb:Nat
 fb:Nat
 kD:Nat
 hv:Value
 qv:Value
 ov:Value
abbrev dY.l (s:dY):List Value:=[ptr s.db 0,I s.mh.wall,I s.mh.dp,I s.mh.node,s.GR,ptr s.mb 0,.map (some s.kD),I s.bp.wall,I s.bp.dp,I s.bp.node,B s.told,s.qv,s.ov,I s.seen.wall,I s.seen.dp,I s.seen.node,B false]
abbrev sg (x:Int×Int):List Value:=[I x.1,I x.2]
structure cy (w:World) (own:Nat→Nat) (nb:Nat) (s:dY):Prop where
 row:bI w (gU own 1) nb s.l 93
 nT:gu w (gU own 2) s.mb s.sb s.fb s.hv s.room s.high s.fs s.hl
 nu:dN w (gU own 3) 0 s.qv s.q
 mQ:Own w (gU own 4) 0 102 5 s.ov (s.holds.map fG.l)
 lG:kP w (gU own 5) s.kD s.bZ
 tg:Sl w (gU own 6) 2 s.GR (s.tl.map sg)
theorem cy.mv {w w':World} {own dy:Nat→Nat} {nb:Nat} {s:dY} (h:cy w own nb s) (v: ∀q,q≠0→Mv (gU own q) w (gU dy q) w'):cy w' dy nb s:=
 ⟨h.row.mv (v 1 (by decide)),h.nT.mv (v 2 (by decide)),h.nu.mv (v 3 (by decide)),h.mQ.mv (v 4 (by decide)),h.lG.mv (v 5 (by decide)),h.tg.mv (v 6 (by decide))⟩
theorem cy.since {w w':World} {X X':XS} {own:Nat→Nat} {nb:Nat} {s:dY} (h:cy w own nb s) (hs:ak X w X' w') (hX: ∀k,all own k→X k):cy w' own nb s:=
 h.mv fun q h0 k hk _=>⟨hk,hs.kp.block k (hX k (by have hk:own k=q:=hk;show own k≠0;rw [hk];exact h0))⟩
theorem cy.kp {w w':World} {X:XS} {own:Nat→Nat} {nb:Nat} {s:dY} (h:cy w own nb s) (hk:Kp X w w') (hX: ∀k,all own k→X k):cy w' own nb s:=
 h.mv fun q h0 k hq _=>⟨hq,hk.block k (hX k (by have hq:own k=q:=hq;show own k≠0;rw [hq];exact h0))⟩
theorem cC {own:Nat→Nat} {p:Nat} (hp:p≠0): ∀k,gU own p k→all own k:=fun k hk=>by
 have hk:own k=p:=hk
 show own k≠0
 rw [hk];exact hp
theorem cy.put {w w':World} {X X':XS} {own:Nat→Nat} {nb:Nat} {s':dY} (hc:gU own 1 nb) (hX: ∀k,all own k→X k) (c:ef (fun k=>k=nb) X w X' w') (hr:bI w' X' nb s'.l 93)
  (h2:gu w (gU own 2) s'.mb s'.sb s'.fb s'.hv s'.room s'.high s'.fs s'.hl) (h3:dN w (gU own 3) 0 s'.qv s'.q) (h4:Own w (gU own 4) 0 102 5 s'.ov (s'.holds.map fG.l)) (h5:kP w (gU own 5) s'.kD s'.bZ)
  (h6:Sl w (gU own 6) 2 s'.GR (s'.tl.map sg)):cy w' own nb s':=by
 have v: ∀q,q≠1→q≠0→Mv (gU own q) w (gU own q) w':=fun q h1 h0 k hk _=>⟨hk,c.block k (hX k (cC h0 k hk)) fun e=>h1 (by
  have hk:own k=q:=hk;have e:k=nb:=e;rw [←hk,e];exact hc)⟩
 exact⟨⟨hc,hr.2⟩,h2.mv (v 2 (by decide) (by decide)),h3.mv (v 3 (by decide) (by decide)),h4.mv (v 4 (by decide) (by decide)),h5.mv (v 5 (by decide) (by decide)),h6.mv (v 6 (by decide) (by decide))⟩
def Qt (P:Program) (t:Nat):Bool:=match P.underlying t with
 |some (.int .i64)=>true
 |_=>false
theorem OX {P:Program} {t:Nat} (h:Qt P t=true):P.underlying t=some (.int .i64):=by
 unfold Qt at h;split at h
 ·assumption
 ·cases h
def Y8 (P:Program) (t s:Nat):Bool:=match P.underlying t with
 |some (.struct fs)=>match fs.toList with
  |[f1,f2,f3]=>f1.offset==0&&f2.offset==1&&f3.offset==2&&Qt P f1.type&&Qt P f2.type&&f3.type==s&&f1.name != "_" &&f2.name != "_" &&f3.name != "_"
  |_=>false
 |_=>false
theorem Ws {P:Program} {t s:Nat} (h:Y8 P t s=true): ∃f1 f2 f3:Field,P.underlying t=some (.struct #[f1,f2,f3])∧f1.offset=0∧f2.offset=1∧f3.offset=2∧
  P.underlying f1.type=some (.int .i64)∧P.underlying f2.type=some (.int .i64)∧f3.type=s∧(f1.name != "_")=true∧(f2.name != "_")=true∧(f3.name != "_")=true:=by
 unfold Y8 at h;split at h
 ·rename_i fs hu;split at h
  ·rename_i f1 f2 f3 hl;simp only [aV,beq_iff_eq] at h;have:fs= #[f1,f2,f3]:=by rw [←Array.toList_inj];exact hl
   obtain⟨⟨⟨⟨⟨⟨⟨⟨a1,a2⟩,a3⟩,a4⟩,a5⟩,a6⟩,a7⟩,a8⟩,a9⟩:=h;exact⟨f1,f2,f3,by rw [hu,this],a1,a2,a3,OX a4,OX a5,a6,a7,a8,a9⟩
  ·cases h
 ·cases h
theorem Wu (a b:fG) (w:World):(ig 10000 102 (.agg a.l.toArray) (.agg b.l.toArray)).run pg w= .ok (decide (a=b)) w:=by
 obtain⟨f1,f2,f3,hu,o1,o2,o3,t1,t2,t3,n1,n2,n3⟩: ∃f1 f2 f3:Field,pg.underlying 102=some (.struct #[f1,f2,f3])∧f1.offset=0∧f2.offset=1∧f3.offset=2∧
   pg.underlying f1.type=some (.int .i64)∧pg.underlying f2.type=some (.int .i64)∧f3.type=34∧(f1.name != "_")=true∧(f2.name != "_")=true∧(f3.name != "_")=true:=
  Ws kQ
 have hf:pg.fieldsOf 102= #[f1,f2,f3]:=by simp [vL,hu]
 have hs:gx pg 34 3=true:=by kernel_rfl
 rw [run_equalIn_struct w 9999 _ _ _ (by rw [hf];exact hu) kQ,hf];have hq: ∀x y:aK,(ig 9999 34 x.v y.v).run pg w= .ok (decide (x=y)) w:=fun x y=>by
  unfold gx at hs;split at hs
  ·rename_i fs hu3;simp only [aV,beq_iff_eq,Bool.not_eq_true'] at hs;have hf3:pg.fieldsOf 34=fs:=by simp [vL,hu3]
   show(ig (9998+1) _ _ _).run _ _=_
   rw [run_equalIn_struct w 9998 _ _ _ (by rw [hf3];exact hu3) hs.1.2,hf3];have:=tw (P:=pg) w 9997 [x.wall,x.dp,x.node] [y.wall,y.dp,y.node] fs.toList 0 hs.1.1.2 (by rw [hs.1.1.1];rfl) (by rw [hs.1.1.1];rfl);have e:(decide (x=y))=decide ([x.wall,x.dp,x.node]=[y.wall,y.dp,y.node]):=by
    rw [xD,decide_eq_true_iff,decide_eq_true_iff,aK.ext_iff];simp
   rw [e];simpa using this
  ·cases hs
 have fB:(sizeOf 34).run pg w= .ok 3 w:=by
  have hi:(pg.info? 34).map (·.size)=some 3:=by kernel_rfl
  cases h1:pg.info? 34 with
  |none=>rw [h1] at hi;cases hi
  |some i=>rw [h1] at hi;simp at hi;simp [sizeOf,typeInfo,h1,hi]
 have Yv: ∃fs,pg.underlying 34=some (.struct fs):=by
  have rE:=hs;unfold gx at rE;split at rE
  ·rename_i fs hu3;exact⟨fs,hu3⟩
  ·cases rE
 obtain⟨fs3,Yv⟩:=Yv;have agT:(isAgg 34).run pg w= .ok true w:=by simp [isAgg,run_underlying Yv]
 have hi1:(isAgg f1.type).run pg w= .ok false w:=by simp [isAgg,run_underlying t1]
 have hi2:(isAgg f2.type).run pg w= .ok false w:=by simp [isAgg,run_underlying t2]
 have hp3: ∀x:fG,(part 34 x.l.toArray 2).run pg w= .ok x.aw.v w:=fun x=>by simp [part,agT,fB]
 have hp1: ∀x:fG,(part f1.type x.l.toArray 0).run pg w= .ok (I x.id) w:=fun x=>by simp [part,hi1]
 have Q7: ∀x:fG,(part f2.type x.l.toArray 1).run pg w= .ok (I x.fY) w:=fun x=>by simp [part,hi2]
 have e1: ∀x y:Int,(ig 9999 f1.type (I x) (I y)).run pg w= .ok (x==y) w:=fun x y=>run_equalIn_int (P:=pg) w 9998 f1.type .i64 .i64 x y t1;have e2: ∀x y:Int,(ig 9999 f2.type (I x) (I y)).run pg w= .ok (x==y) w:=fun x y=>run_equalIn_int (P:=pg) w 9998 f2.type .i64 .i64 x y t2;simp only [bne_iff_ne,ne_eq] at n1 n2 n3;have ext:a=b↔a.id=b.id∧a.fY=b.fY∧a.aw=b.aw:=by cases a;cases b;simp
 by_cases h1:a.id=b.id<;>by_cases h2:a.fY=b.fY<;>by_cases h3:a.aw=b.aw<;>simp [Op.eqFields,n1,n2,n3,o1,o2,o3,t3,hp1,Q7,hp3,e1,e2,hq,ext,h1,h2,h3]
theorem aaO {X:XS} {w:World} {a b:fG} {xo yo:Operand} {N:Value→Prop} (hT:a=b→N (B true)) (hF: ¬a=b→N (B false)):
  ad pg X w (aH .eql 102 xo yo (.agg a.l.toArray) (.agg b.l.toArray)) N:=
 Rz (b:=decide (a=b)) kQ (fun wa=>Wu a b wa) (by
  by_cases h:a=b
  ·rw [decide_eq_true h];exact hT h
  ·rw [decide_eq_false h];exact hF h)
theorem PJ {w:World} {X:XS} {a:Value} {xs:List fG} {h:fG} (ha:Sl w X 5 a (xs.map fG.l)):
  Ct pg 171 #[a,.agg h.l.toArray] w X nX fun v _ _=>v=I (idxOf (fun y=>decide (h=y)) xs):=by
 intro w0 hk;replace ha:=ha.mv hk.cL;have iV:=ha.gz;apply qS;unfold lq;have hs:=ak.init w0;repeat' first|refine aD ?_;intros
 refine eG (fun n a w X=> ∃i:Nat,a=I (i:Nat)∧n=(xs).length-i∧i≤(xs).length∧ak (aS w0) w0 X w∧(∀(j:Nat) x,j<i→xs[j]? =some x→decide (h=x)=false)) (xs).length ⟨0,rfl,rfl,aN _,hs,by simp⟩ ?_;rintro n a w X ⟨i,rfl,rfl,hi,hs,hw⟩;rcases eb (xs) i with⟨cK,x,hx,hd⟩|⟨dU,hd⟩
 ·repeat' first|refine bO ?_;intros
  refine aaO (fun he=>?_) (fun he=>?_)
  ·repeat' first|refine aD ?_;intros|((first|(with_reducible refine ai hs ?_)|(with_reducible refine ai (bF.trans hs) ?_));intro wa hk;(rw [uy hw hx (by simpa using he)]))
  ·repeat' first|refine aD ?_;intros|((with_reducible refine ep ((xs).length-(i+1)) ?_ ?_);omega;exact⟨i+1,by simp,rfl,by omega,hs,fun j y hj hy=>by rcases Nat.lt_succ_iff_lt_or_eq.1 hj with h|h;exact hw j y h hy;subst h;rw [hx] at hy;cases hy;simpa using he⟩)
 ·repeat' first|refine bO ?_;intros|((first|(with_reducible refine ai hs ?_)|(with_reducible refine ai (bF.trans hs) ?_));intro wa hk;(rw [qg fun j x hj hx=>hw j x zQ hx]))
theorem KK {w:World} {X:XS} {a:Value} {xs:List fG} {h:fG} (ha:Sl w X 5 a (xs.map fG.l)):
  Ct pg 126 #[a,.agg h.l.toArray] w X nX fun v _ _=>v=B (decide (h∈xs)):=by
 intro w0 hk;replace ha:=ha.mv hk.cL;have e:decide (h∈xs)=xs.any fun y=>decide (h=y):=by
  rw [xD,decide_eq_true_iff,List.any_eq_true];exact⟨fun hm=>⟨h,hm,by simp⟩,fun ⟨y,hy,he⟩=>by have he:=of_decide_eq_true he;rw [he];exact hy⟩
 apply pP;unfold kr;have hs:=ak.init w0;repeat' first|refine aD ?_;intros|refine dD ?_ ?_<;>intros|((first|(with_reducible refine ai hs ?_)|(with_reducible refine ai (bF.trans hs) ?_));intro wa hk;(rw [e,←pU];simp [*]<;>omega))|(refine dC (PJ (h:=h) ha) kQ hs.has ?_;intro w X aq;replace hs:=hs.trans aq)
theorem Ah {w:World} {X:XS} {nb:Nat} {st:dY} {s:aK} (h:bI w X nb st.l 93):
  Ct pg 34 #[ptr nb 0,s.v] w X nX fun v _ _=>v=B (gh st.bp s):=by
 intro w0 hk;replace h:=h.mv hk.cL;apply KL;unfold AW;have hs:=ak.init w0;repeat' first|refine aD ?_;intros|refine dD ?_ ?_<;>intros|((with_reducible refine fX (ic _ _) ?_ hs.has ?_);(· kernel_rfl);intro w X aq;replace hs:=hs.trans aq)|((first|(with_reducible refine ai hs ?_)|(with_reducible refine ai (bF.trans hs) ?_));intro wa hk;(simp [gh, *]))
end Go.Proofs.YtfndblbeikocdaaGreat
