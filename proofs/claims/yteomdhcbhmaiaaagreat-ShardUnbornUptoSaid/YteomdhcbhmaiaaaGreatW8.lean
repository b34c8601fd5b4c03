/-
 Part 8 of the proof: what the last text leans on.
-/
import Derived.Test.YteomdhcbhmaiaaaGreatW7
open Nat renaming le_trans → af, zero_le → aP, lt_of_lt_of_le → aA
open List renaming length_append → ah, append_assoc → aH, map_cons → bz, take_of_length_le → cd, length_map → bm, find?_cons → ea, map_append → bM, length_nil → bA, sum_cons → kl, all_cons → gd, length_take → dx, length_cons → bO, take_add_one → gh, length_eq_zero_iff → jX, append_nil → fY, pairwise_cons → qB
open BitVec renaming ofInt → bE
open Go.IntKind renaming signed → hU, wrap → kW, bits → jC
open Go.Value renaming string → dt
open Option.some renaming injEq → av, inj → fZ
open Int renaming fdiv_eq_ediv_of_nonneg → lX
open Option renaming toList_some → qD
set_option linter.unusedVariables false
set_option linter.unusedSimpArgs false
namespace Go.Proofs.YteomdhcbhmaiaaaGreat
open Go.Proofs.Tryz renaming prog → pg
open Go.aX
set_option maxRecDepth 100000
set_option maxHeartbeats 1000000
set_option linter.unusedVariables false
set_option linter.unusedSimpArgs false
attribute [local irreducible] un jn aC aJ ld1 ff st1 dy cY mm dK nv Bw zn fR gf ad aw aG eW eV eU eC eF gE au fin aM az aD vS FB gU ja vT FC FE FF FG FH gV jb vU FI FJ FK FM
theorem Own.tag {w:World} {X:XS} {lo e k:Nat} {v:Value} {rows:List (List Value)} (h:Own w X lo e k v rows) {g:Nat} (hg:v.ownBlock=some g): ∃cs:List Value,w.heap[g]? =some (.cells cs.toArray e (0,0)):=by
 rcases h.row with⟨rfl,_⟩|⟨b,cap,cs,rfl,_,hr,_⟩
 ·cases hg
 ·simp only [Value.ownBlock,av] at hg;subst hg;exact⟨cs,hr.2⟩
theorem Own.dX {w:World} {X Y:XS} {lo e e' k g:Nat} {v:Value} {rows:List (List Value)} {cs:List Value} (h:Own w X lo e k v rows) (hr:bq w Y g cs e') (he:decide (e≠e')=true):v.ownBlock≠some g:=fun hg=>by
 obtain⟨c,h1⟩:=Own.tag h hg;rw [hr.2] at h1;simp only [av,Obj.cells.injEq] at h1;exact of_decide_eq_true he h1.2.1.symm
theorem wrap64 (n:Int):IntKind.u64.wrap n=n % 18446744073709551616:=by
 simp only [kW,jC,hU];simp
theorem ES (n:Int):IntKind.u8.wrap n=n % 256:=by
 simp only [kW,jC,hU];simp
section
variable {P : Program} {X : XS} {w : World} {N : Value → Prop} {t : TypeId}
theorem I0 {src dst:TypeId} {k:IntKind} {u:Nat} (hs:(P.underlying src).isSome=true) (hd:P.underlying dst=some (.int .u8)) (h:N (.int .u8 ((u % 256:Nat):Int))):ad P X w (nv .u8 src dst (.int k (u:Int))) N:=
 RY hs hd (by rw [ES];exact h)
theorem OY (u:Nat):IntKind.u8.wrap (u:Int)=((u % 256:Nat):Int):=by rw [ES];omega
theorem abc {u:Nat} (h:N (.int .u64 ((u*2 % 18446744073709551616:Nat):Int))):ad P X w (binOp .shl t (.int .u64 (u:Int)) (.int .u64 1)) N:=
 Yt zQ (by
  rw [wrap64];have e:((u:Int)*2^min (1:Int).toNat IntKind.u64.bits) % 18446744073709551616=((u*2 % 18446744073709551616:Nat):Int):=by
   show((u:Int)*2^1) % 18446744073709551616=_
   omega
  rw [e];exact h)
theorem abd {u:Nat} (h:N (.int .u64 ((u/128:Nat):Int))):ad P X w (binOp .shr t (.int .u64 (u:Int)) (.int .u64 7)) N:=
 zG zQ (by
  have e:((u:Int)).fdiv (2^min (7:Int).toNat IntKind.u64.bits)=((u/128:Nat):Int):=by
   show((u:Int)).fdiv 128=_
   rw [lX _ (by decide)];omega
  rw [e];exact h)
theorem abe {u:Nat} (h:N (.int .u64 ((u/256:Nat):Int))):ad P X w (binOp .shr t (.int .u64 (u:Int)) (.int .u64 8)) N:=
 zG zQ (by
  have e:((u:Int)).fdiv (2^min (8:Int).toNat IntKind.u64.bits)=((u/256:Nat):Int):=by
   show((u:Int)).fdiv 256=_
   rw [lX _ (by decide)];omega
  rw [e];exact h)
theorem abf {u:Nat} (hu:u<18446744073709551616) (h:N (.int .u64 ((18446744073709551615-u:Nat):Int))):ad P X w (Op.unary .xor (.int .u64 (u:Int))) N:=by
 refine cg (v:=.int .u64 ((18446744073709551615-u:Nat):Int)) (fun wa=>?_) h;have key:(bE 64 18446744073709551615^^^bE 64 (u:Int)).toNat=18446744073709551615-u:=by
  have h1:bE 64 18446744073709551615=BitVec.allOnes 64:=by decide
  have h2:(bE 64 (u:Int))=BitVec.ofNat 64 u:=by simp
  rw [h1,h2,BitVec.allOnes_xor,BitVec.toNat_not,BitVec.toNat_ofNat,Nat.mod_eq_of_lt zQ]
 have e:IntKind.u64.wrap (bE IntKind.u64.bits IntKind.u64.max^^^bE IntKind.u64.bits (u:Int)).toNat=((18446744073709551615-u:Nat):Int):=by
  rw [wrap64]
  show((bE 64 18446744073709551615^^^bE 64 (u:Int)).toNat:Int) % 18446744073709551616=_
  rw [key];omega
 have hk:(Op.unary .xor (.int .u64 (u:Int))).run P wa= .ok (.int .u64 (IntKind.u64.wrap (bE IntKind.u64.bits IntKind.u64.max^^^bE IntKind.u64.bits (u:Int)).toNat)) wa:=by
  simp [Op.unary,Op.intBits,hU]
 rw [hk,e]
theorem abg {k:IntKind} {a b:Int} (h:N (.int k (k.wrap (bE k.bits a|||bE k.bits b).toNat))):ad P X w (binOp .or t (.int k a) (.int k b)) N:=
 cg (fun wa=>by simp [binOp,Op.intBits]) h
theorem acf: ∀b:Nat,b<256→(bE 8 (b:Int)|||bE 8 128).toNat=b % 128+128:=by decide+kernel
theorem YM {b:Nat} (hb:b<256) (h:N (.int .u8 ((b % 128+128:Nat):Int))):ad P X w (binOp .or t (.int .u8 (b:Int)) (.int .u8 128)) N:=
 abg (by
  have e:IntKind.u8.wrap (bE IntKind.u8.bits (b:Int)|||bE IntKind.u8.bits 128).toNat=((b % 128+128:Nat):Int):=by
   rw [ES];have:=acf b hb
   show((bE 8 (b:Int)|||bE 8 128).toNat:Int) % 256=_
   rw [this];omega
  rw [e];exact h)
theorem abh {n:Int} (h:N (.int .u64 (((n % 18446744073709551616).toNat*2 % 18446744073709551616:Nat):Int))):ad P X w (binOp .shl t (.int .u64 (IntKind.u64.wrap n)) (.int .u64 1)) N:=by
 have e:IntKind.u64.wrap n=((n % 18446744073709551616).toNat:Int):=by rw [wrap64];omega
 rw [e];exact abc h
theorem acg {u:Nat} (h:N (.int .u8 ((u % 128+128:Nat):Int))):ad P X w (binOp .or t (.int .u8 (IntKind.u8.wrap (u:Int))) (.int .u8 128)) N:=by
 rw [OY];exact YM zQ (by rw [show u % 256 % 128=u % 128 by omega];exact h)
end
structure Wr (w:World) (X:XS) (lo wb:Nat) (vb:Value) (bs:List Nat):Prop where
 box:bq w X wb [vb] 279
 ow:Own w X lo 5 1 vb (bs.map U1)
def wD (wb:Nat) (vb:Value):XS:=fun k=>k=wb∨vb.ownBlock=some k
theorem Wr.mv {w w':World} {X Y:XS} {lo wb:Nat} {vb:Value} {bs:List Nat} (h:Wr w X lo wb vb bs) (m:Mv X w Y w'):Wr w' Y lo wb vb bs:=⟨h.box.mv m,h.ow.mv m⟩
theorem Wr.ne {w:World} {X:XS} {lo wb:Nat} {vb:Value} {bs:List Nat} (h:Wr w X lo wb vb bs):vb.ownBlock≠some wb:=Own.dX h.ow h.box kQ
def jv (f:FuncId) (args:Array Value) (w:World) (X:XS) (lo wb:Nat) (vb:Value) (bs ds:List Nat):Prop:=
 Ct pg f args w X (wD wb vb) fun v wa w'=>v= .tuple #[]∧ ∃Et,Wr w' (fun k=>wD wb vb k∨made wa w' k) lo wb Et (bs++ds)
structure WS (w0:World) (kX:Value) (w:World) (X:XS) (lo wb:Nat) (vb:Value) (bs:List Nat):Prop where
 s:ak (out (wD wb kX) w0) w0 X w
 r:Wr w X lo wb vb bs
 v: ∀g,vb.ownBlock=some g→kX.ownBlock=some g∨w0.heap.size≤g
section
variable {w0 w : World} {X : XS} {lo wb : Nat} {kX vb : Value} {bs ds : List Nat} {R : Ending → World → Prop} {N : Value → World → XS → Prop}
theorem WS.init (h:Wr w0 (aS w0) lo wb kX bs):WS w0 kX w0 (aS w0) lo wb kX bs:=⟨ak.out _ _,h,fun g hg=>.inl hg⟩
theorem WS.since {X':XS} {w':World} (h:WS w0 kX w X lo wb vb bs) (hs:ak X w X' w'):WS w0 kX w' X' lo wb vb bs:=⟨h.s.trans hs,h.r.mv hs.mv,h.v⟩
theorem WS.fin (h:WS w0 kX w X lo wb vb (bs++ds)):fin (Ih (wD wb kX) w0 fun v w'=>(fun v wa w'=>v= .tuple #[]∧ ∃Et,Wr w' (fun k=>wD wb kX k∨made wa w' k) lo wb Et (bs++ds)) v w0 w') X w (.tuple #[]):=by
 refine QT h.s fun wa hk=>⟨rfl,vb,⟨.inl (.inl rfl),(h.r.box.kp hk).2⟩,(h.r.ow.kp hk).1,(h.r.ow.kp hk).2.1,fun g hg=>?_⟩;rcases h.v g hg with h1|h1
 ·exact .inl (.inr h1)
 ·exact .inr ⟨h1,((h.r.ow.kp hk).ge hg).2⟩
theorem WS.out (h:WS w0 kX w X lo wb vb bs) {k:Nat} (hk:wD wb vb k) (h0:out (wD wb kX) w0 k):False:=by
 rcases hk with hk|hk
 ·exact h0.2 (.inl hk)
 ·rcases h.v k hk with h1|h1
  ·exact h0.2 (.inr h1)
  ·have:=h0.1;omega
theorem WS.dN {f:FuncId} {args:Array Value} (hS:WS w0 kX w X lo wb vb bs) (hp:jv f args w X lo wb vb bs ds) (hf:enters pg f=true)
  (k: ∀Et w' X',WS w0 kX w' X' lo wb Et (bs++ds)→fb (wD wb vb) X w X' w'→N (.tuple #[]) w' X'):eC pg R X w true f args N:=by
 refine Rp hp hf hS.s.has (fun q hq=>?_) fun v wa w' X' hq hle gF WH hc=>?_
 ·rcases hq with rfl|hq
  ·exact hS.r.box.1
  ·exact hS.r.ow.2.2 q hq
 ·obtain⟨rfl,Et,hW⟩:=hq;refine k Et w' X' ⟨hS.s.fF hc fun q h0 hq=>hS.out hq h0,⟨⟨hc.sub _ hS.r.box.1,hW.box.2⟩,hW.ow.1,hW.ow.2.1,fun g hg=>?_⟩,fun g hg=>?_⟩ hc
  ·rcases hW.ow.2.2 g hg with h1|h1
   ·rcases h1 with rfl|h1
    ·exact hc.sub _ hS.r.box.1
    ·exact hc.sub g (hS.r.ow.2.2 g h1)
   ·exact gF g h1
  ·rcases hW.ow.2.2 g hg with h1|h1
   ·rcases h1 with rfl|h1
    ·exact absurd hg hW.ne
    ·exact hS.v g h1
   ·right;have:=h1.1;have:=hS.s.kp.size;omega
theorem Eu {b:Nat} (hS:WS w0 kX w X lo wb vb bs) (eo:lo≤w.heap.size) (hb:bs.length≤2^40)
  (k: ∀Et w' X',WS w0 kX w' X' lo wb Et (bs++[b])→N undef w' X'):
  eV pg R X w true (fR 86 5 1 1 #[(0,.int .u8 (b:Int))]) fun s w1 X1=>eV pg R X1 w1 true (gf 86 5 1 1 86 vb s) fun x w2 X2=>
   aw pg X2 w2 (az (ptr wb 0)) fun p=>ad pg X2 w2 (aJ 279 0 0 1 p) fun q=>eU pg R X2 w2 true (st1 86 1 q x) N:=by
 refine YI hS.r.ow hS.s.has eo kQ (row:=U1 b) rfl rfl rfl (by simp;omega) (by simp;omega) fun v' w' X' hc ho fe=>?_;have dO: ∀q,fV vb q→q≠wb:=fun q hq e=>hS.r.ne (by rw [←e];exact hq);have fB:bq w' X' wb [vb] 279:=⟨hc.sub _ hS.r.box.1,by rw [hc.block _ hS.r.box.1 fun hq=>dO _ hq rfl];exact hS.r.box.2⟩;have yy:=hS.s.fF hc fun q h0 hq=>hS.out (.inr hq) h0;have hv': ∀g,v'.ownBlock=some g→kX.ownBlock=some g∨w0.heap.size≤g:=fun g hg=>by
  rcases fe with e|⟨g',e,ec⟩
  ·exact hS.v g (e▸hg)
  ·rw [e] at hg;cases hg;right;have:=hS.s.kp.size;omega
 with_reducible apply LR
 have KT:fieldInfo pg 279 0=some (0,1):=by kernel_rfl
 refine Is (fB.cells) KT rfl fun o' vR _=>?_;subst vR;refine wK fB kQ (by simp) (by obtain⟨_,_,_,rfl⟩:=ho.sl.form;rfl) (by obtain⟨_,_,_,rfl⟩:=ho.sl.form;rfl) yy.has fun w3 X3 om ql=>?_;have VV:v'.ownBlock≠some wb:=Own.dX ho fB kQ;refine k v' w3 X3 ⟨yy.fF om fun q h0 hq=>h0.2 (.inl hq),⟨?_,?_⟩,hv'⟩
 ·have e:cP [vb] (0+0) v'.cells.toList=[v']:=by obtain⟨_,_,_,rfl⟩:=ho.sl.form;rfl
  rw [e] at ql;exact ql
 ·rw [bM];exact Own.fF ho om fun g hg e=>VV (by rw [hg,e])
end
theorem Ht {w:World} {X:XS} :Ct pg 115 #[] w X nX fun v wa w'=> ∃wb,v=ptr wb 0∧Wr w' (made wa w') wa.heap.size wb (.slice none 0 0) []:=by
 intro w0 hk;apply Fj;unfold wq;have hs:=ak.init w0;repeat' first|refine aN ?_;intros|(with_reducible apply ph);(case hX=>exact hs.has);intro bx w X fB ax bK;have bL:=hs.trans ax;replace hs:=ak.fC ax.has
 refine aj (bL.trans hs) fun wa bt=>⟨bx,rfl,⟨⟨fB,(bK.kp bt).lt⟩,(bK.kp bt).2⟩,Own.nil _ _ _ _ _⟩
theorem jM {w:World} {X:XS} {lo wb:Nat} {vb:Value} {bs:List Nat} {n:Int} (h:Wr w X lo wb vb bs) (hb:bs.length≤2^39) (eo:lo≤w.heap.size):jv 185 #[ptr wb 0,I n] w X lo wb vb bs (encI n):=by
 intro w0 hk;have cJ:lo≤w0.heap.size:=af eo hk.size;have hS:=WS.init (h.mv hk.cO);apply Ei;unfold vC;have hs:=hS.s;have rH:=hS.r.box;repeat' first|refine aN ?_;intros|(with_reducible apply abh)
 refine iF (fun k=>k (.int .u64 (Es n:Int))) ?_ ?_
 ·refine eQ (fun n' a w X=> ∃(u:Nat) (nz:Value) (Xo:List Nat),a= .int .u64 (u:Int)∧n'=u∧WS w0 vb w X lo wb nz Xo∧Xo++x7 u=bs++encI n) (Es n) ⟨Es n,vb,bs,rfl,rfl,hS,rfl⟩ ?_;clear hs rH hS;rintro u a w X ⟨_,nz,Xo,rfl,rfl,hS,NT⟩;have hs:=hS.s;have rH:=hS.r.box;have hlen:Xo.length≤2^40:=by
   have h1:=congrArg List.length NT;have h2:=ef n;simp only [ah] at h1;omega
  have Jt:lo≤w.heap.size:=af cJ hs.kp.size;by_cases hu:u<128
  ·have he:x7 u=[u]:=by rw [x7,if_pos hu]
   repeat' first|refine bY ?_;intros
   rw [OY,show u % 256=u by omega];refine Eu hS Jt hlen fun fH w2 X2 bu=>?_;rw [←he,NT] at bu;exact bu.fin
  ·have he:x7 u=(u % 128+128)::x7 (u/128):=by rw [x7,if_neg hu]
   repeat' first|refine bY ?_;intros|(with_reducible apply acg)
   refine Eu hS Jt hlen fun fH w2 X2 bu=>?_;repeat' first|(with_reducible apply abd)
   refine eT (u/128) zQ ⟨u/128,fH,_,rfl,rfl,bu,?_⟩;rw [aH,List.singleton_append,←he];exact NT
 ·intro K hK;repeat' first|refine aN ?_;intros|refine du ?_ ?_<;>intros|(with_reducible apply abf);omega
  ·have:Es n=18446744073709551615-((n % 18446744073709551616).toNat*2 % 18446744073709551616):=by unfold Es;rw [if_pos zQ]
   rw [←this];exact hK
  ·have:Es n=(n % 18446744073709551616).toNat*2 % 18446744073709551616:=by unfold Es;rw [if_neg zQ]
   rw [←this];exact hK
theorem VW (s:BA):(pY s).map (fun x=>[x])=(s.data.toList.map UInt8.toNat).map U1:=by
 unfold pY;simp
section
variable {w0 w : World} {X : XS} {lo wb : Nat} {kX vb : Value} {bs ds : List Nat} {R : Ending → World → Prop} {N : Value → World → XS → Prop}
theorem abi {v':Value} {w':World} {X':XS} (hS:WS w0 kX w X lo wb vb bs) (hc:fb (fV vb) X w X' w') (ho:Own w' X' lo 5 1 v' (ds.map U1)) (fe:v'.ownBlock=vb.ownBlock∨ ∃g,v'.ownBlock=some g∧w.heap.size≤g)
  (k: ∀w' X',WS w0 kX w' X' lo wb v' ds→N undef w' X'):
  aw pg X' w' (az (ptr wb 0)) fun p=>ad pg X' w' (aJ 279 0 0 1 p) fun q=>eU pg R X' w' true (st1 86 1 q v') N:=by
 have dO: ∀q,fV vb q→q≠wb:=fun q hq e=>hS.r.ne (by rw [←e];exact hq);have fB:bq w' X' wb [vb] 279:=⟨hc.sub _ hS.r.box.1,by rw [hc.block _ hS.r.box.1 fun hq=>dO _ hq rfl];exact hS.r.box.2⟩;have yy:=hS.s.fF hc fun q h0 hq=>hS.out (.inr hq) h0;have hv': ∀g,v'.ownBlock=some g→kX.ownBlock=some g∨w0.heap.size≤g:=fun g hg=>by
  rcases fe with e|⟨g',e,ec⟩
  ·exact hS.v g (e▸hg)
  ·rw [e] at hg;cases hg;right;have:=hS.s.kp.size;omega
 with_reducible apply LR
 have KT:fieldInfo pg 279 0=some (0,1):=by kernel_rfl
 refine Is (fB.cells) KT rfl fun o' vR _=>?_;subst vR;refine wK fB kQ (by simp) (by obtain⟨_,_,_,rfl⟩:=ho.sl.form;rfl) (by obtain⟨_,_,_,rfl⟩:=ho.sl.form;rfl) yy.has fun w3 X3 om ql=>?_;have VV:v'.ownBlock≠some wb:=Own.dX ho fB kQ;refine k w3 X3 ⟨yy.fF om fun q h0 hq=>h0.2 (.inl hq),⟨?_,?_⟩,hv'⟩
 ·have e:cP [vb] (0+0) v'.cells.toList=[v']:=by obtain⟨_,_,_,rfl⟩:=ho.sl.form;rfl
  rw [e] at ql;exact ql
 ·exact Own.fF ho om fun g hg e=>VV (by rw [hg,e])
end
theorem Gs {w:World} {X:XS} {lo wb:Nat} {vb:Value} {bs:List Nat} {s:BA} (h:Wr w X lo wb vb bs) (hb:bs.length≤2^38) (eo:lo≤w.heap.size) (bL:s.size≤2^38):jv 245 #[ptr wb 0,.string s] w X lo wb vb bs (oG s):=by
 intro w0 hk;have cJ:lo≤w0.heap.size:=af eo hk.size;have hS:=WS.init (h.mv hk.cO);apply Cv;unfold uj;have hs:=hS.s;repeat' first|refine aN ?_;intros
 refine hS.dN (jM hS.r zQ cJ) kQ fun fH w2 X2 bu kc=>?_;clear hs;have hs:=bu.s;have rH:=bu.r.box;have FR:=ef s.size;repeat' first|refine aN ?_;intros
 refine aa1 (bytes:=1) bu.r.ow hs.has (af cJ hs.kp.size) kQ kQ (by simp;omega) (by simp;omega) fun v' w3 X3 hc ho fe=>?_;rw [VW,←bM] at ho;refine abi bu hc ho fe fun w4 X4 fc=>?_;rw [aH] at fc;exact fc.fin
theorem Ev {w:World} {X:XS} {lo wb:Nat} {vb:Value} {bs:List Nat} {x:Nat} (h:Wr w X lo wb vb bs) (hb:bs.length≤2^39) (eo:lo≤w.heap.size):jv 198 #[ptr wb 0,.float .f64 x] w X lo wb vb bs (zf x):=by
 intro w0 hk;have cJ:lo≤w0.heap.size:=af eo hk.size;have hS:=WS.init (h.mv hk.cO);apply Bi;unfold tz;have hs:=hS.s;repeat' first|((with_reducible refine jj (Bm _) ?_ hs.has ?_);(· kernel_rfl);intro w X ax;replace hs:=hs.trans ax)
 refine fS (fun n' a b w X=> ∃(i:Nat) (nz:Value),a=I i∧b= .int .u64 ((canon x/256^i:Nat):Int)∧n'=8-i∧i≤8∧WS w0 vb w X lo wb nz (bs++(List.range i).map (Ue (canon x)))) 8
  ⟨0,vb,rfl,by simp,rfl,by omega,by simpa using hS.since (by assumption)⟩ ?_
 clear hs hS ax;rintro n' a b w X ⟨i,nz,rfl,rfl,rfl,hi,hS⟩;have hs:=hS.s;have rH:=hS.r.box;have Jt:lo≤w.heap.size:=af cJ hs.kp.size;by_cases h8:i<8
 ·repeat' first|refine bY ?_;intros
  rw [OY];refine Eu hS Jt (by simp;omega) fun fH w2 X2 bu=>?_;repeat' first|refine aN ?_;intros|(with_reducible apply abe)
  refine fT (8-(i+1)) zQ ⟨i+1,fH,by simp,?_,rfl,by omega,?_⟩
  ·rw [Nat.div_div_eq_div_mul,Nat.pow_succ]
  ·rw [List.range_succ,bM,←aH];exact bu
 ·obtain rfl:i=8:=by omega
  repeat' first|refine bY ?_;intros
  exact hS.fin
theorem OZ {w:World} {X:XS} {lo wb:Nat} {vb:Value} {bs:List Nat} (h:Wr w X lo wb vb bs) (hb:bs.length≤2^40):Ct pg 116 #[ptr wb 0] w X nX fun v wa w'=>Own w' (made wa w') wa.heap.size 5 1 v (bs.map U1):=by
 intro w0 hk;replace h:=h.mv hk.cO;have rH:=h.box;apply A9;unfold tj;have hs:=ak.init w0;repeat' first|refine aN ?_;intros|(with_reducible apply LS);(case hX=>exact hs.has);(case hu=>kernel_rfl);(case hz=>kernel_rfl);intro acc w X ax ho;replace hs:=hs.trans ax|((first|(with_reducible refine aj hs ?_)|(with_reducible refine aj (bL.trans hs) ?_));intro wa hk;(exact(ho.kp hk).tight))|((with_reducible apply Iv);(case own=>assumption);(case hs=>assumption);(case h0=>exact fun _ h=>h);(case he=>kernel_rfl);(case src=>exact Sl.mv h.ow.sl (ak.mv hs));(case h1=>simp [aX.one]);(case hb=>simp;omega);(case hl=>simp;omega);intro acc w X ax ho hc fe;replace hs:=ax;rw [List.nil_append] at ho)
theorem Qf {w:World} {X:XS} {lo wb:Nat} {vb:Value} {bs:List Nat} {b:Bool} (h:Wr w X lo wb vb bs) (hb:bs.length≤2^39) (eo:lo≤w.heap.size):jv 196 #[ptr wb 0,B b] w X lo wb vb bs (RG b):=by
 intro w0 hk;have cJ:lo≤w0.heap.size:=af eo hk.size;have hS:=WS.init (h.mv hk.cO);apply Cu;unfold ui;have hs:=hS.s;have rH:=hS.r.box;cases b<;>
 repeat' first|refine aN ?_;intros
 ·refine Eu (b:=0) hS cJ zQ fun fH w2 X2 bu=>?_;exact bu.fin
 ·refine Eu (b:=1) hS cJ zQ fun fH w2 X2 bu=>?_;exact bu.fin
def nq (Z X:XS) (wb:Nat) (vb:Value):Prop:= ∀k,Z k→X k∧ ¬wD wb vb k
section
variable {w0 w : World} {X : XS} {lo wb : Nat} {kX vb : Value} {bs ds : List Nat}
theorem WS.z (hS:WS w0 kX w X lo wb vb bs):nq (aX.out (wD wb kX) w0) X wb vb:=fun k h=>⟨hS.s.sub k h,fun hf=>hS.out hf h⟩
theorem WS.at (hS:WS w0 kX w X lo wb vb bs):Mv (aX.out (wD wb kX) w0) w0 (aX.out (wD wb kX) w0) w:=fun k hk _=>⟨hk,hS.s.kp.block k hk⟩
theorem nq.mv {Z:XS} (h:nq Z X wb vb) (hk:Kp X w w0):Mv Z w (out (wD wb vb) w0) w0:=fun k ae hl=>⟨⟨aA hl hk.size,(h k ae).2⟩,hk.block k (h k ae).1⟩
end
abbrev ia (wb:Nat):List Value:=[ptr wb 0,.pointer none]
theorem Qg {w:World} {X:XS} {lo wb:Nat} {vb:Value} {bs:List Nat} {v:kF} (h:Wr w X lo wb vb bs) (hb:bs.length≤2^37) (eo:lo≤w.heap.size):jv 250 #[ptr wb 0,v.v] w X lo wb vb bs (Bo v):=by
 intro w0 hk;have cJ:lo≤w0.heap.size:=af eo hk.size;have hS:=WS.init (h.mv hk.cO);apply OJ;unfold Eb;have hs:=hS.s;refine iF (fun k=> ∀w X,ak (aS w0) w0 X w→k (if v.may then v else kF.zero).v w X) ?_ ?_
 ·intro w X hsX;generalize hu:(if v.may then v else kF.zero)=u;have hue:Bo v=encI u.kind++(if u.kind=1 then zf u.num else if u.kind=2 then oG u.text else []):=by unfold Bo;simp only [hu]
  have hut:u.kind=2→u.text.size≤64:=by
   intro h2;by_cases hm:v.may=true
   ·rw [if_pos hm] at hu;subst hu;unfold kF.may at hm;rw [if_neg zQ,if_neg zQ,if_pos h2] at hm;simp at hm;omega
   ·rw [if_neg hm] at hu;rw [←hu] at h2;cases h2
  have hS1:=hS.since hsX;replace hs:=hS1.s;repeat' first|refine aN ?_;intros
  refine hS1.dN (jM hS1.r zQ (af cJ hs.kp.size)) kQ fun fH w2 X2 bu kc=>?_;have he:=ef u.kind;replace hs:=bu.s;repeat' first|refine aN ?_;intros
  refine iF (fun k=> ∀w X iV,WS w0 vb w X lo wb iV (bs++Bo v)→k w X) ?_ ?_
  ·intro w X iV cT;exact cT.fin
  ·intro K hK;rw [hue,←aH] at hK;repeat' first|refine aN ?_;intros|refine du ?_ ?_<;>intros
   ·refine bu.dN (Ev bu.r (by simp;omega) (af cJ hs.kp.size)) kQ fun iV w3 X3 cT om=>?_;replace hs:=cT.s
    skip
    rw [if_pos zQ] at hK;exact hK _ _ _ cT
   ·refine bu.dN (Gs bu.r (by simp;omega) (af cJ hs.kp.size) (by have:=hut zQ;omega)) kQ fun iV w3 X3 cT om=>?_;replace hs:=cT.s
    skip
    rw [if_neg zQ,if_pos zQ] at hK;exact hK _ _ _ cT
   ·rw [if_neg zQ,if_neg zQ] at hK;rw [fY] at hK;exact hK _ _ _ bu
 ·intro K hK;have hs:=ak.init w0;cases hm:v.may<;>rw [hm] at hK
  ·repeat' first|refine aN ?_;intros|((with_reducible refine dw (kH _) ?_ hs.has ?_ ?_);(· kernel_rfl);all_goals (intro _ w X ax;replace hs:=hs.trans ax))
   all_goals first|exact hK _ _ hs|(exfalso;simp_all)
  ·repeat' first|refine aN ?_;intros|((with_reducible refine dw (kH _) ?_ hs.has ?_ ?_);(· kernel_rfl);all_goals (intro _ w X ax;replace hs:=hs.trans ax))
   all_goals first|exact hK _ _ hs|(exfalso;simp_all)
theorem gn {w:World} {X Z:XS} {lo wb cb xb xo:Nat} {vb:Value} {bs:List Nat} {n:Int} (h:Wr w X lo wb vb bs) (hc:Cells w Z cb 0 (ia wb)) (hx:Cells w Z xb xo [I n]) (hZ:nq Z X wb vb) (hb:bs.length≤2^38) (eo:lo≤w.heap.size):
  jv 123 #[ptr cb 0,ptr xb xo] w X lo wb vb bs (encI n):=by
 intro w0 hk;have cJ:lo≤w0.heap.size:=af eo hk.size;replace hc:=hc.mv (hZ.mv hk);replace hx:=hx.mv (hZ.mv hk);have hS:=WS.init (h.mv hk.cO);apply Ee;unfold vy;have hs:=hS.s;repeat' first|refine aN ?_;intros
 refine hS.dN (jM hS.r zQ cJ) kQ fun fH w2 X2 bu kc=>?_
 skip
 exact bu.fin
theorem tD {w:World} {X Z:XS} {lo wb cb xb xo:Nat} {vb:Value} {bs:List Nat} {s:BA} (h:Wr w X lo wb vb bs) (hc:Cells w Z cb 0 (ia wb)) (hx:Cells w Z xb xo [.string s]) (hZ:nq Z X wb vb) (hb:bs.length≤2^38) (eo:lo≤w.heap.size) (bL:s.size≤2^38):
  jv 193 #[ptr cb 0,ptr xb xo] w X lo wb vb bs (oG s):=by
 intro w0 hk;have cJ:lo≤w0.heap.size:=af eo hk.size;replace hc:=hc.mv (hZ.mv hk);replace hx:=hx.mv (hZ.mv hk);have hS:=WS.init (h.mv hk.cO);apply Cs;unfold ug;have hs:=hS.s;repeat' first|refine aN ?_;intros
 refine hS.dN (Gs hS.r zQ cJ bL) kQ fun fH w2 X2 bu kc=>?_
 skip
 exact bu.fin
theorem gD {w:World} {X Z:XS} {lo wb cb xb xo:Nat} {vb:Value} {bs:List Nat} {s:bH} (h:Wr w X lo wb vb bs) (hc:Cells w Z cb 0 (ia wb)) (hx:Cells w Z xb xo s.l) (hZ:nq Z X wb vb) (hb:bs.length≤2^37) (eo:lo≤w.heap.size):
  jv 129 #[ptr cb 0,ptr xb xo] w X lo wb vb bs (lh s):=by
 have e1:=ef s.wall;have e2:=ef s.cZ;intro w0 hk;have cJ:lo≤w0.heap.size:=af eo hk.size;replace hc:=hc.mv (hZ.mv hk);replace hx:=hx.mv (hZ.mv hk);have hS:=WS.init (h.mv hk.cO);apply Bb;unfold tp;have hs:=hS.s;repeat' first|refine aN ?_;intros
 refine hS.dN (gn (hS.r) (hc.mv hS.at) (Cells.mv (by assumption) hS.at) hS.z zQ cJ) kQ fun fH w2 X2 bu kc=>?_;replace hs:=bu.s;repeat' first|refine aN ?_;intros
 refine bu.dN (gn (bu.r) (hc.mv bu.at) (Cells.mv (by assumption) bu.at) bu.z (by simp;omega) (af cJ hs.kp.size)) kQ fun iV w3 X3 cT om=>?_;replace hs:=cT.s;repeat' first|refine aN ?_;intros
 refine cT.dN (gn (cT.r) (hc.mv cT.at) (Cells.mv (by assumption) cT.at) cT.z (by simp;omega) (af cJ hs.kp.size)) kQ fun I2 w4 X4 fc ym=>?_;replace hs:=fc.s
 skip
 rw [aH,aH,←aH (encI s.wall)] at fc;exact fc.fin
theorem qG {w:World} {X Z:XS} {lo wb cb xb xo:Nat} {vb:Value} {bs:List Nat} {s:dB} (h:Wr w X lo wb vb bs) (hc:Cells w Z cb 0 (ia wb)) (hx:Cells w Z xb xo s.l) (hZ:nq Z X wb vb) (hb:bs.length≤2^37) (eo:lo≤w.heap.size):
  jv 127 #[ptr cb 0,ptr xb xo] w X lo wb vb bs (wR s):=by
 have e1:=ef s.gO;have e2:=ef s.jO;intro w0 hk;have cJ:lo≤w0.heap.size:=af eo hk.size;replace hc:=hc.mv (hZ.mv hk);replace hx:=hx.mv (hZ.mv hk);have hS:=WS.init (h.mv hk.cO);apply Ef;unfold vz;have hs:=hS.s;repeat' first|refine aN ?_;intros
 refine hS.dN (gn (hS.r) (hc.mv hS.at) (Cells.mv (by assumption) hS.at) hS.z zQ cJ) kQ fun fH w2 X2 bu kc=>?_;replace hs:=bu.s;repeat' first|refine aN ?_;intros
 refine bu.dN (gn (bu.r) (hc.mv bu.at) (Cells.mv (by assumption) bu.at) bu.z (by simp;omega) (af cJ hs.kp.size)) kQ fun iV w3 X3 cT om=>?_;replace hs:=cT.s;repeat' first|refine aN ?_;intros
 refine cT.dN (gn (cT.r) (hc.mv cT.at) (Cells.mv (by assumption) cT.at) cT.z (by simp;omega) (af cJ hs.kp.size)) kQ fun I2 w4 X4 fc ym=>?_;replace hs:=fc.s
 skip
 rw [aH,aH,←aH (encI s.gO)] at fc;exact fc.fin
theorem rG (s:BA):(oG s).length=(encI s.size).length+s.size:=by
 unfold oG;rw [ah,bm]
 congr 1
theorem NG {v:kF} :(Bo v).length≤100:=by
 unfold Bo;generalize hu:(if v.may then v else kF.zero)=u;have h1:=ef u.kind;have hut:u.kind=2→u.text.size≤64:=by
  intro h2;by_cases hm:v.may=true
  ·rw [if_pos hm] at hu;subst hu;unfold kF.may at hm;rw [if_neg zQ,if_neg zQ,if_pos h2] at hm;simp at hm;omega
  ·rw [if_neg hm] at hu;rw [←hu] at h2;cases h2
 dsimp only;rw [ah];by_cases k1:u.kind=1
 ·rw [if_pos k1];unfold zf;simp;omega
 ·rw [if_neg k1];by_cases k2:u.kind=2
  ·rw [if_pos k2];have h3:=hut k2;have h4:=ef u.text.size;rw [rG];omega
  ·rw [if_neg k2];simp;omega
theorem vK {w:World} {X Z:XS} {lo wb cb xb xo:Nat} {vb:Value} {bs:List Nat} {v:kF} (h:Wr w X lo wb vb bs) (hc:Cells w Z cb 0 (ia wb)) (hx:Cells w Z xb xo v.l) (hZ:nq Z X wb vb) (hb:bs.length≤2^37) (eo:lo≤w.heap.size):
  jv 200 #[ptr cb 0,ptr xb xo] w X lo wb vb bs (Bo v):=by
 intro w0 hk;have cJ:lo≤w0.heap.size:=af eo hk.size;replace hc:=hc.mv (hZ.mv hk);replace hx:=hx.mv (hZ.mv hk);have hS:=WS.init (h.mv hk.cO);apply Bj;unfold tA;have hs:=hS.s;repeat' first|refine aN ?_;intros
 refine hS.dN (Qg hS.r zQ cJ) kQ fun fH w2 X2 bu kc=>?_
 skip
 exact bu.fin
theorem LB {w:World} {X Z:XS} {lo wb cb xb xo:Nat} {vb:Value} {bs:List Nat} {x:KV} (h:Wr w X lo wb vb bs) (hc:Cells w Z cb 0 (ia wb)) (hx:Cells w Z xb xo x.l) (hZ:nq Z X wb vb) (hb:bs.length≤2^35) (eo:lo≤w.heap.size) (bL:x.key.size≤2^35):
  jv 132 #[ptr cb 0,ptr xb xo] w X lo wb vb bs (lj x):=by
 have e1:(oG x.key).length≤10+x.key.size:=by
  have:=ef x.key.size;rw [rG];omega
 intro w0 hk;have cJ:lo≤w0.heap.size:=af eo hk.size;replace hc:=hc.mv (hZ.mv hk);replace hx:=hx.mv (hZ.mv hk);have hS:=WS.init (h.mv hk.cO);apply Bd;unfold tr;have hs:=hS.s;repeat' first|refine aN ?_;intros
 refine hS.dN (tD hS.r (hc.mv hS.at) (Cells.mv (by assumption) hS.at) hS.z zQ cJ zQ) kQ fun fH w2 X2 bu kc=>?_;replace hs:=bu.s;repeat' first|refine aN ?_;intros
 refine bu.dN (vK (v:=x.val) bu.r (hc.mv bu.at) (Cells.mv (by assumption) bu.at) bu.z (by simp;omega) (af cJ hs.kp.size)) kQ fun iV w3 X3 cT om=>?_;replace hs:=cT.s
 skip
 rw [aH] at cT;exact cT.fin
theorem O9 {w:World} {X Z:XS} {lo wb cb xb xo:Nat} {vb:Value} {bs:List Nat} {x:KV} (h:Wr w X lo wb vb bs) (hc:Cells w Z cb 0 (ia wb)) (hx:Cells w Z xb xo x.l) (hZ:nq Z X wb vb) (hb:bs.length≤2^35) (eo:lo≤w.heap.size) (bL:x.key.size≤2^35):
  jv 134 #[ptr cb 0,ptr xb xo] w X lo wb vb bs (lj x):=by
 have e1:(oG x.key).length≤10+x.key.size:=by
  have:=ef x.key.size;rw [rG];omega
 intro w0 hk;have cJ:lo≤w0.heap.size:=af eo hk.size;replace hc:=hc.mv (hZ.mv hk);replace hx:=hx.mv (hZ.mv hk);have hS:=WS.init (h.mv hk.cO);apply Cp;unfold ud;have hs:=hS.s;repeat' first|refine aN ?_;intros
 refine hS.dN (tD hS.r (hc.mv hS.at) (Cells.mv (by assumption) hS.at) hS.z zQ cJ zQ) kQ fun fH w2 X2 bu kc=>?_;replace hs:=bu.s;repeat' first|refine aN ?_;intros
 refine bu.dN (vK (v:=x.val) bu.r (hc.mv bu.at) (Cells.mv (by assumption) bu.at) bu.z (by simp;omega) (af cJ hs.kp.size)) kQ fun iV w3 X3 cT om=>?_;replace hs:=cT.s
 skip
 rw [aH] at cT;exact cT.fin
theorem lR {α:Type} {f:α→List Nat} {xs:List α} {i:Nat} {x:α} (h:xs[i]? =some x):((xs.take (i+1)).map f).flatten=((xs.take i).map f).flatten++f x:=by
 rw [gh,h];simp
theorem ny (s:bH):(lh s).length≤30:=by
 have h1:=ef s.wall;have h2:=ef s.cZ;have h3:=ef s.node;unfold lh;simp only [ah];omega
theorem KJ (s:dB):(wR s).length≤30:=by
 have h1:=ef s.gO;have h2:=ef s.jO;have h3:=ef s.sq;unfold wR;simp only [ah];omega
def Il (r:ic):List Nat:=encI r.id++(encI r.gw++(zf r.lo++zf r.hi))
def qn (v:fJ):List Nat:=lh v.bb++Bo v.val
def uD (h:fk):List Nat:=oG h.key++ir qn h.eZ
def qd (p:cx):List Nat:=wR p.dq++(lh p.bb++(ir oG p.reads++ir lj p.writes))
def encS (s:State):List Nat:=Il s.range++(lh s.floor++(lh s.closed++(ir uD s.dM++ir qd s.dh)))
theorem uM {α:Type} {f:α→List Nat} {xs:List α} {i:Nat} {x:α} (h:xs[i]? =some x):(encI xs.length).length+((xs.take i).map f).flatten.length+(f x).length≤(ir f xs).length:=by
 have h1:xs=xs.take i++(x::xs.drop (i+1)):=by
  obtain⟨hi,rfl⟩:=List.getElem?_eq_some_iff.1 h;rw [←List.drop_eq_getElem_cons hi,List.take_append_drop]
 have h2:(ir f xs).length=(encI xs.length).length+((xs.take i).map f).flatten.length+((f x).length+((xs.drop (i+1)).map f).flatten.length):=by
  unfold ir;conv=>lhs;rw [h1]
  rw [bM,List.flatten_append,←h1];simp only [bz,List.flatten_cons,ah];omega
 omega
theorem GO (x:Nat):(zf x).length=8:=by simp [zf]
theorem KU (x:KV):x.key.size≤(lj x).length:=by
 have h1:=rG x.key;unfold lj;rw [ah];omega
theorem Pa {w:World} {X Z:XS} {lo wb cb xb xo:Nat} {vb:Value} {bs:List Nat} {b:Bool} (h:Wr w X lo wb vb bs) (hc:Cells w Z cb 0 (ia wb)) (hx:Cells w Z xb xo [B b]) (hZ:nq Z X wb vb) (hb:bs.length≤2^38) (eo:lo≤w.heap.size):
  jv 128 #[ptr cb 0,ptr xb xo] w X lo wb vb bs (RG b):=by
 intro w0 hk;have cJ:lo≤w0.heap.size:=af eo hk.size;replace hc:=hc.mv (hZ.mv hk);replace hx:=hx.mv (hZ.mv hk);have hS:=WS.init (h.mv hk.cO);apply Co;unfold uc;have hs:=hS.s;repeat' first|refine aN ?_;intros
 refine hS.dN (Qf hS.r zQ cJ) kQ fun fH w2 X2 bu kc=>?_
 skip
 exact bu.fin
theorem vL {w:World} {X Z:XS} {lo wb cb xb xo:Nat} {vb:Value} {bs:List Nat} {x:Nat} (h:Wr w X lo wb vb bs) (hc:Cells w Z cb 0 (ia wb)) (hx:Cells w Z xb xo [.float .f64 x]) (hZ:nq Z X wb vb) (hb:bs.length≤2^38) (eo:lo≤w.heap.size):
  jv 130 #[ptr cb 0,ptr xb xo] w X lo wb vb bs (zf x):=by
 intro w0 hk;have cJ:lo≤w0.heap.size:=af eo hk.size;replace hc:=hc.mv (hZ.mv hk);replace hx:=hx.mv (hZ.mv hk);have hS:=WS.init (h.mv hk.cO);apply Bc;unfold tq;have hs:=hS.s;repeat' first|refine aN ?_;intros
 refine hS.dN (Ev hS.r zQ cJ) kQ fun fH w2 X2 bu kc=>?_
 skip
 exact bu.fin
theorem LC {w:World} {X Z:XS} {lo wb cb xb xo:Nat} {vb:Value} {bs:List Nat} {r:ic} (h:Wr w X lo wb vb bs) (hc:Cells w Z cb 0 (ia wb)) (hx:Cells w Z xb xo r.l) (hZ:nq Z X wb vb) (hb:bs.length≤2^36) (eo:lo≤w.heap.size):
  jv 188 #[ptr cb 0,ptr xb xo] w X lo wb vb bs (Il r):=by
 have e1:=ef r.id;have e2:=ef r.gw;have e3:=GO r.lo;intro w0 hk;have cJ:lo≤w0.heap.size:=af eo hk.size;replace hc:=hc.mv (hZ.mv hk);replace hx:=hx.mv (hZ.mv hk);have hS:=WS.init (h.mv hk.cO);apply Bg;unfold tv;have hs:=hS.s;repeat' first|refine aN ?_;intros
 refine hS.dN (gn hS.r (hc.mv hS.at) (Cells.mv (by assumption) hS.at) hS.z (by(try simp only [ah]);omega) (af cJ hs.kp.size)) kQ fun fH w X bu _=>?_;replace hs:=bu.s;repeat' first|refine aN ?_;intros
 refine bu.dN (gn bu.r (hc.mv bu.at) (Cells.mv (by assumption) bu.at) bu.z (by(try simp only [ah]);omega) (af cJ hs.kp.size)) kQ fun iV w X cT _=>?_;replace hs:=cT.s;repeat' first|refine aN ?_;intros
 refine cT.dN (vL cT.r (hc.mv cT.at) (Cells.mv (by assumption) cT.at) cT.z (by(try simp only [ah]);omega) (af cJ hs.kp.size)) kQ fun I2 w X fc _=>?_;replace hs:=fc.s;repeat' first|refine aN ?_;intros
 refine fc.dN (vL fc.r (hc.mv fc.at) (Cells.mv (by assumption) fc.at) fc.z (by(try simp only [ah]);omega) (af cJ hs.kp.size)) kQ fun Pb w X jY _=>?_;replace hs:=jY.s
 skip
 unfold Il;simp only [aH] at jY;exact jY.fin
theorem I3 {w:World} {X Z:XS} {lo wb cb xb xo:Nat} {vb:Value} {bs:List Nat} {x:fJ} (h:Wr w X lo wb vb bs) (hc:Cells w Z cb 0 (ia wb)) (hx:Cells w Z xb xo x.l) (hZ:nq Z X wb vb) (hb:bs.length≤2^36) (eo:lo≤w.heap.size):
  jv 244 #[ptr cb 0,ptr xb xo] w X lo wb vb bs (qn x):=by
 have e1:=ny x.bb;intro w0 hk;have cJ:lo≤w0.heap.size:=af eo hk.size;replace hc:=hc.mv (hZ.mv hk);replace hx:=hx.mv (hZ.mv hk);have hS:=WS.init (h.mv hk.cO);apply ze;unfold qz;have hs:=hS.s;repeat' first|refine aN ?_;intros
 refine hS.dN (gD (s:=x.bb) hS.r (hc.mv hS.at) (Cells.mv (by assumption) hS.at) hS.z (by(try simp only [ah]);omega) (af cJ hs.kp.size)) kQ fun fH w X bu _=>?_;replace hs:=bu.s;repeat' first|refine aN ?_;intros
 refine bu.dN (vK (v:=x.val) bu.r (hc.mv bu.at) (Cells.mv (by assumption) bu.at) bu.z (by(try simp only [ah]);omega) (af cJ hs.kp.size)) kQ fun iV w X cT _=>?_;replace hs:=cT.s
 skip
 unfold qn;simp only [aH] at cT;exact cT.fin
theorem Hu {w:World} {X Z:XS} {lo wb cb xb xo:Nat} {vb va:Value} {bs:List Nat} {xs:List BA} (h:Wr w X lo wb vb bs) (hc:Cells w Z cb 0 (ia wb)) (hx:Cells w Z xb xo [va]) (ha:Sl w Z 1 va (xs.map S1)) (hZ:nq Z X wb vb) (eo:lo≤w.heap.size) (hb:bs.length+(ir oG xs).length≤2^33):
  jv 192 #[ptr cb 0,ptr xb xo,.func (.func 193) #[ptr cb 0] #[]] w X lo wb vb bs (ir oG xs):=by
  intro w0 hk;have cJ:lo≤w0.heap.size:=af eo hk.size;replace hc:=hc.mv (hZ.mv hk);replace hx:=hx.mv (hZ.mv hk);replace ha:=ha.mv (hZ.mv hk);have hS:=WS.init (h.mv hk.cO);have jG:=ha.gH;apply Bh;unfold tw;have hs:=hS.s;repeat' first|refine aN ?_;intros
  refine iF (fun (k:Value→World→XS→Prop)=> ∀w X fH,WS w0 vb w X lo wb fH (bs++encI xs.length)→k (I xs.length) w X) ?_ ?_
  ·intro w X fH bu;refine eQ (fun n' a w X=> ∃(i:Nat) (nz:Value),a=I i∧n'=xs.length-i∧i≤xs.length∧WS w0 vb w X lo wb nz (bs++encI xs.length++((xs.take i).map oG).flatten)) xs.length ⟨0,fH,rfl,rfl,aP _,by simpa using bu⟩ ?_;clear bu hS hs;rintro n' a w X ⟨i,nz,rfl,rfl,hi,hS⟩;have hs:=hS.s;rcases eG xs i with⟨dA,x,sg,hd⟩|⟨ec,hd⟩
   ·have fB:=uM (f:=oG) sg;repeat' first|refine bY ?_;intros
    refine iF (fun (k:World→XS→Prop)=>k w X) ?_ ?_
    ·repeat' first|refine aN ?_;intros
     refine xQ ?_;refine hS.dN (tD (s:=x) hS.r (hc.mv hS.at) (Cells.mv (by assumption) hS.at) hS.z (by simp only [ah];omega) (af cJ hs.kp.size) (by have:=rG x;omega)) kQ fun iV w3 X3 cT om=>?_;replace hs:=cT.s;repeat' first|refine aN ?_;intros
     refine eT (xs.length-(i+1)) zQ ⟨i+1,iV,by simp,rfl,by omega,?_⟩;rw [lR sg,←aH];exact cT
    ·intro K hK;repeat' first|refine aN ?_;intros|exact hK
   ·rw [cd ec] at hS;repeat' first|refine bY ?_;intros
    rw [aH] at hS;exact hS.fin
  ·intro K hK;repeat' first|refine aN ?_;intros
   refine hS.dN (jM hS.r zQ cJ) kQ fun fH w2 X2 bu kc=>?_;replace hs:=bu.s
   skip
   exact hK _ _ _ bu
theorem yL {w:World} {X Z:XS} {lo wb cb xb xo:Nat} {vb va:Value} {bs:List Nat} {xs:List Int} (h:Wr w X lo wb vb bs) (hc:Cells w Z cb 0 (ia wb)) (hx:Cells w Z xb xo [va]) (ha:Sl w Z 1 va (xs.map I1)) (hZ:nq Z X wb vb) (eo:lo≤w.heap.size) (hb:bs.length+(ir encI xs).length≤2^33):
  jv 126 #[ptr cb 0,ptr xb xo,.func (.func 123) #[ptr cb 0] #[]] w X lo wb vb bs (ir encI xs):=by
  intro w0 hk;have cJ:lo≤w0.heap.size:=af eo hk.size;replace hc:=hc.mv (hZ.mv hk);replace hx:=hx.mv (hZ.mv hk);replace ha:=ha.mv (hZ.mv hk);have hS:=WS.init (h.mv hk.cO);have jG:=ha.gH;apply Fk;unfold wu;have hs:=hS.s;repeat' first|refine aN ?_;intros
  refine iF (fun (k:Value→World→XS→Prop)=> ∀w X fH,WS w0 vb w X lo wb fH (bs++encI xs.length)→k (I xs.length) w X) ?_ ?_
  ·intro w X fH bu;refine eQ (fun n' a w X=> ∃(i:Nat) (nz:Value),a=I i∧n'=xs.length-i∧i≤xs.length∧WS w0 vb w X lo wb nz (bs++encI xs.length++((xs.take i).map encI).flatten)) xs.length ⟨0,fH,rfl,rfl,aP _,by simpa using bu⟩ ?_;clear bu hS hs;rintro n' a w X ⟨i,nz,rfl,rfl,hi,hS⟩;have hs:=hS.s;rcases eG xs i with⟨dA,x,sg,hd⟩|⟨ec,hd⟩
   ·have fB:=uM (f:=encI) sg;repeat' first|refine bY ?_;intros
    refine iF (fun (k:World→XS→Prop)=>k w X) ?_ ?_
    ·repeat' first|refine aN ?_;intros
     refine xQ ?_;refine hS.dN (gn (n:=x) hS.r (hc.mv hS.at) (Cells.mv (by assumption) hS.at) hS.z (by simp only [ah];omega) (af cJ hs.kp.size)) kQ fun iV w3 X3 cT om=>?_;replace hs:=cT.s;repeat' first|refine aN ?_;intros
     refine eT (xs.length-(i+1)) zQ ⟨i+1,iV,by simp,rfl,by omega,?_⟩;rw [lR sg,←aH];exact cT
    ·intro K hK;repeat' first|refine aN ?_;intros|exact hK
   ·rw [cd ec] at hS;repeat' first|refine bY ?_;intros
    rw [aH] at hS;exact hS.fin
  ·intro K hK;repeat' first|refine aN ?_;intros
   refine hS.dN (jM hS.r zQ cJ) kQ fun fH w2 X2 bu kc=>?_;replace hs:=bu.s
   skip
   exact hK _ _ _ bu
theorem BX {w:World} {X Z:XS} {lo wb cb xb xo:Nat} {vb va:Value} {bs:List Nat} {xs:List KV} (h:Wr w X lo wb vb bs) (hc:Cells w Z cb 0 (ia wb)) (hx:Cells w Z xb xo [va]) (ha:Sl w Z 4 va (xs.map KV.l)) (hZ:nq Z X wb vb) (eo:lo≤w.heap.size) (hb:bs.length+(ir lj xs).length≤2^33):
  jv 131 #[ptr cb 0,ptr xb xo,.func (.func 132) #[ptr cb 0] #[]] w X lo wb vb bs (ir lj xs):=by
  intro w0 hk;have cJ:lo≤w0.heap.size:=af eo hk.size;replace hc:=hc.mv (hZ.mv hk);replace hx:=hx.mv (hZ.mv hk);replace ha:=ha.mv (hZ.mv hk);have hS:=WS.init (h.mv hk.cO);have jG:=ha.gH;apply x9;unfold pZ;have hs:=hS.s;repeat' first|refine aN ?_;intros
  refine iF (fun (k:Value→World→XS→Prop)=> ∀w X fH,WS w0 vb w X lo wb fH (bs++encI xs.length)→k (I xs.length) w X) ?_ ?_
  ·intro w X fH bu;refine eQ (fun n' a w X=> ∃(i:Nat) (nz:Value),a=I i∧n'=xs.length-i∧i≤xs.length∧WS w0 vb w X lo wb nz (bs++encI xs.length++((xs.take i).map lj).flatten)) xs.length ⟨0,fH,rfl,rfl,aP _,by simpa using bu⟩ ?_;clear bu hS hs;rintro n' a w X ⟨i,nz,rfl,rfl,hi,hS⟩;have hs:=hS.s;rcases eG xs i with⟨dA,x,sg,hd⟩|⟨ec,hd⟩
   ·have fB:=uM (f:=lj) sg;repeat' first|refine bY ?_;intros
    refine iF (fun (k:World→XS→Prop)=>k w X) ?_ ?_
    ·repeat' first|refine aN ?_;intros
     refine xQ ?_;refine hS.dN (LB (x:=x) hS.r (hc.mv hS.at) (Cells.mv (by assumption) hS.at) hS.z (by simp only [ah];omega) (af cJ hs.kp.size) (by have:=KU x;omega)) kQ fun iV w3 X3 cT om=>?_;replace hs:=cT.s;repeat' first|refine aN ?_;intros
     refine eT (xs.length-(i+1)) zQ ⟨i+1,iV,by simp,rfl,by omega,?_⟩;rw [lR sg,←aH];exact cT
    ·intro K hK;repeat' first|refine aN ?_;intros|exact hK
   ·rw [cd ec] at hS;repeat' first|refine bY ?_;intros
    rw [aH] at hS;exact hS.fin
  ·intro K hK;repeat' first|refine aN ?_;intros
   refine hS.dN (jM hS.r zQ cJ) kQ fun fH w2 X2 bu kc=>?_;replace hs:=bu.s
   skip
   exact hK _ _ _ bu
theorem LF {w:World} {X Z:XS} {lo wb cb xb xo:Nat} {vb va:Value} {bs:List Nat} {xs:List KV} (h:Wr w X lo wb vb bs) (hc:Cells w Z cb 0 (ia wb)) (hx:Cells w Z xb xo [va]) (ha:Sl w Z 4 va (xs.map KV.l)) (hZ:nq Z X wb vb) (eo:lo≤w.heap.size) (hb:bs.length+(ir lj xs).length≤2^33):
  jv 133 #[ptr cb 0,ptr xb xo,.func (.func 134) #[ptr cb 0] #[]] w X lo wb vb bs (ir lj xs):=by
  intro w0 hk;have cJ:lo≤w0.heap.size:=af eo hk.size;replace hc:=hc.mv (hZ.mv hk);replace hx:=hx.mv (hZ.mv hk);replace ha:=ha.mv (hZ.mv hk);have hS:=WS.init (h.mv hk.cO);have jG:=ha.gH;apply za;unfold qw;have hs:=hS.s;repeat' first|refine aN ?_;intros
  refine iF (fun (k:Value→World→XS→Prop)=> ∀w X fH,WS w0 vb w X lo wb fH (bs++encI xs.length)→k (I xs.length) w X) ?_ ?_
  ·intro w X fH bu;refine eQ (fun n' a w X=> ∃(i:Nat) (nz:Value),a=I i∧n'=xs.length-i∧i≤xs.length∧WS w0 vb w X lo wb nz (bs++encI xs.length++((xs.take i).map lj).flatten)) xs.length ⟨0,fH,rfl,rfl,aP _,by simpa using bu⟩ ?_;clear bu hS hs;rintro n' a w X ⟨i,nz,rfl,rfl,hi,hS⟩;have hs:=hS.s;rcases eG xs i with⟨dA,x,sg,hd⟩|⟨ec,hd⟩
   ·have fB:=uM (f:=lj) sg;repeat' first|refine bY ?_;intros
    refine iF (fun (k:World→XS→Prop)=>k w X) ?_ ?_
    ·repeat' first|refine aN ?_;intros
     refine xQ ?_;refine hS.dN (O9 (x:=x) hS.r (hc.mv hS.at) (Cells.mv (by assumption) hS.at) hS.z (by simp only [ah];omega) (af cJ hs.kp.size) (by have:=KU x;omega)) kQ fun iV w3 X3 cT om=>?_;replace hs:=cT.s;repeat' first|refine aN ?_;intros
     refine eT (xs.length-(i+1)) zQ ⟨i+1,iV,by simp,rfl,by omega,?_⟩;rw [lR sg,←aH];exact cT
    ·intro K hK;repeat' first|refine aN ?_;intros|exact hK
   ·rw [cd ec] at hS;repeat' first|refine bY ?_;intros
    rw [aH] at hS;exact hS.fin
  ·intro K hK;repeat' first|refine aN ?_;intros
   refine hS.dN (jM hS.r zQ cJ) kQ fun fH w2 X2 bu kc=>?_;replace hs:=bu.s
   skip
   exact hK _ _ _ bu
theorem I4 {w:World} {X Z:XS} {lo wb cb xb xo:Nat} {vb va:Value} {bs:List Nat} {xs:List fJ} (h:Wr w X lo wb vb bs) (hc:Cells w Z cb 0 (ia wb)) (hx:Cells w Z xb xo [va]) (ha:Sl w Z 6 va (xs.map fJ.l)) (hZ:nq Z X wb vb) (eo:lo≤w.heap.size) (hb:bs.length+(ir qn xs).length≤2^33):
  jv 243 #[ptr cb 0,ptr xb xo,.func (.func 244) #[ptr cb 0] #[]] w X lo wb vb bs (ir qn xs):=by
  intro w0 hk;have cJ:lo≤w0.heap.size:=af eo hk.size;replace hc:=hc.mv (hZ.mv hk);replace hx:=hx.mv (hZ.mv hk);replace ha:=ha.mv (hZ.mv hk);have hS:=WS.init (h.mv hk.cO);have jG:=ha.gH;apply wP;unfold oV;have hs:=hS.s;repeat' first|refine aN ?_;intros
  refine iF (fun (k:Value→World→XS→Prop)=> ∀w X fH,WS w0 vb w X lo wb fH (bs++encI xs.length)→k (I xs.length) w X) ?_ ?_
  ·intro w X fH bu;refine eQ (fun n' a w X=> ∃(i:Nat) (nz:Value),a=I i∧n'=xs.length-i∧i≤xs.length∧WS w0 vb w X lo wb nz (bs++encI xs.length++((xs.take i).map qn).flatten)) xs.length ⟨0,fH,rfl,rfl,aP _,by simpa using bu⟩ ?_;clear bu hS hs;rintro n' a w X ⟨i,nz,rfl,rfl,hi,hS⟩;have hs:=hS.s;rcases eG xs i with⟨dA,x,sg,hd⟩|⟨ec,hd⟩
   ·have fB:=uM (f:=qn) sg;repeat' first|refine bY ?_;intros
    refine iF (fun (k:World→XS→Prop)=>k w X) ?_ ?_
    ·repeat' first|refine aN ?_;intros
     refine xQ ?_;refine hS.dN (I3 (x:=x) hS.r (hc.mv hS.at) (Cells.mv (by assumption) hS.at) hS.z (by simp only [ah];omega) (af cJ hs.kp.size)) kQ fun iV w3 X3 cT om=>?_;replace hs:=cT.s;repeat' first|refine aN ?_;intros
     refine eT (xs.length-(i+1)) zQ ⟨i+1,iV,by simp,rfl,by omega,?_⟩;rw [lR sg,←aH];exact cT
    ·intro K hK;repeat' first|refine aN ?_;intros|exact hK
   ·rw [cd ec] at hS;repeat' first|refine bY ?_;intros
    rw [aH] at hS;exact hS.fin
  ·intro K hK;repeat' first|refine aN ?_;intros
   refine hS.dN (jM hS.r zQ cJ) kQ fun fH w2 X2 bu kc=>?_;replace hs:=bu.s
   skip
   exact hK _ _ _ bu
theorem I5 {w:World} {X Z:XS} {lo wb cb xb xo:Nat} {vb vv:Value} {bs:List Nat} {x:fk} (h:Wr w X lo wb vb bs) (hc:Cells w Z cb 0 (ia wb)) (hx:Cells w Z xb xo (x.l vv)) (ha:Sl w Z 6 vv (x.eZ.map fJ.l)) (hZ:nq Z X wb vb) (eo:lo≤w.heap.size) (hb:bs.length+(uD x).length≤2^33):
  jv 190 #[ptr cb 0,ptr xb xo] w X lo wb vb bs (uD x):=by
 have e1:(uD x).length=(oG x.key).length+(ir qn x.eZ).length:=by simp [uD]
 have e2:=rG x.key;replace ha:=fun {w1:World} (hk:Kp X w w1)=>ha.mv (hZ.mv hk);intro w0 hk;have cJ:lo≤w0.heap.size:=af eo hk.size;replace hc:=hc.mv (hZ.mv hk);replace hx:=hx.mv (hZ.mv hk);have hS:=WS.init (h.mv hk.cO);apply zd;unfold qy;have hs:=hS.s;replace ha:=ha hk;have ov:=ha.one;repeat' first|refine aN ?_;intros
 refine hS.dN (tD hS.r (hc.mv hS.at) (Cells.mv (by assumption) hS.at) hS.z zQ cJ zQ) kQ fun fH w X bu _=>?_;replace hs:=bu.s;repeat' first|refine aN ?_;intros
 refine bu.dN (I4 bu.r (hc.mv bu.at) (Cells.mv (by assumption) bu.at) (ha.mv bu.at) bu.z (af cJ hs.kp.size) (by simp only [ah];omega)) kQ fun iV w X cT _=>?_
 skip
 unfold uD;simp only [aH] at cT;exact cT.fin
theorem yM {w:World} {X Z:XS} {lo wb cb xb xo:Nat} {vb vr vw:Value} {bs:List Nat} {x:cx} (h:Wr w X lo wb vb bs) (hc:Cells w Z cb 0 (ia wb)) (hx:Cells w Z xb xo (x.l vr vw)) (h1:Sl w Z 1 vr (x.reads.map S1)) (h2:Sl w Z 4 vw (x.writes.map KV.l)) (hZ:nq Z X wb vb) (eo:lo≤w.heap.size) (hb:bs.length+(qd x).length≤2^33):
  jv 125 #[ptr cb 0,ptr xb xo] w X lo wb vb bs (qd x):=by
 have e1:(qd x).length=(wR x.dq).length+((lh x.bb).length+((ir oG x.reads).length+(ir lj x.writes).length)):=by simp [qd]
 replace h1:=fun {w1:World} (hk:Kp X w w1)=>h1.mv (hZ.mv hk);replace h2:=fun {w1:World} (hk:Kp X w w1)=>h2.mv (hZ.mv hk);intro w0 hk;have cJ:lo≤w0.heap.size:=af eo hk.size;replace hc:=hc.mv (hZ.mv hk);replace hx:=hx.mv (hZ.mv hk);have hS:=WS.init (h.mv hk.cO);apply y9;unfold qv;have hs:=hS.s;replace h1:=h1 hk;replace h2:=h2 hk;have o1:=h1.one;have o2:=h2.one;repeat' first|refine aN ?_;intros
 refine hS.dN (qG (s:=x.dq) hS.r (hc.mv hS.at) (Cells.mv (by assumption) hS.at) hS.z (by(try simp only [ah]);omega) (af cJ hs.kp.size)) kQ fun fH w X bu _=>?_;replace hs:=bu.s;repeat' first|refine aN ?_;intros
 refine bu.dN (gD (s:=x.bb) bu.r (hc.mv bu.at) (Cells.mv (by assumption) bu.at) bu.z (by(try simp only [ah]);omega) (af cJ hs.kp.size)) kQ fun iV w X cT _=>?_;replace hs:=cT.s;repeat' first|refine aN ?_;intros
 refine cT.dN (Hu cT.r (hc.mv cT.at) (Cells.mv (by assumption) cT.at) (h1.mv cT.at) cT.z (af cJ hs.kp.size) (by simp only [ah];omega)) kQ fun I2 w X fc _=>?_;replace hs:=fc.s;repeat' first|refine aN ?_;intros
 refine fc.dN (BX fc.r (hc.mv fc.at) (Cells.mv (by assumption) fc.at) (h2.mv fc.at) fc.z (af cJ hs.kp.size) (by simp only [ah];omega)) kQ fun Pb w X jY _=>?_
 skip
 unfold qd;simp only [aH] at jY;exact jY.fin
theorem Hv {w:World} {X Z:XS} {lo wb cb xb xo:Nat} {vb va:Value} {bs:List Nat} {xs:List fk} (h:Wr w X lo wb vb bs) (hc:Cells w Z cb 0 (ia wb)) (hx:Cells w Z xb xo [va]) (ha:gb w Z va xs) (hZ:nq Z X wb vb) (eo:lo≤w.heap.size) (hb:bs.length+(ir uD xs).length≤2^33):
  jv 189 #[ptr cb 0,ptr xb xo,.func (.func 190) #[ptr cb 0] #[]] w X lo wb vb bs (ir uD xs):=by
  intro w0 hk;have cJ:lo≤w0.heap.size:=af eo hk.size;replace hc:=hc.mv (hZ.mv hk);replace hx:=hx.mv (hZ.mv hk);replace ha:=ha.mv (hZ.mv hk);have hS:=WS.init (h.mv hk.cO);have jG:=eE.len ha;apply wN;unfold oT;have hs:=hS.s;repeat' first|refine aN ?_;intros
  refine iF (fun (k:Value→World→XS→Prop)=> ∀w X fH,WS w0 vb w X lo wb fH (bs++encI xs.length)→k (I xs.length) w X) ?_ ?_
  ·intro w X fH bu;refine eQ (fun n' a w X=> ∃(i:Nat) (nz:Value),a=I i∧n'=xs.length-i∧i≤xs.length∧WS w0 vb w X lo wb nz (bs++encI xs.length++((xs.take i).map uD).flatten)) xs.length ⟨0,fH,rfl,rfl,aP _,by simpa using bu⟩ ?_;clear bu hS hs;rintro n' a w X ⟨i,nz,rfl,rfl,hi,hS⟩;have hs:=hS.s;rcases eG xs i with⟨dA,x,sg,hd⟩|⟨ec,hd⟩
   ·have fB:=uM (f:=uD) sg;repeat' first|refine bY ?_;intros
    refine iF (fun (k:World→XS→Prop)=>k w X) ?_ ?_
    ·repeat' first|refine aN ?_;intros|((with_reducible apply yJ);assumption;(try (case hz=>rfl));(case hr=>exact qR);(try (case hz=>omega));(case ht=>kernel_rfl);(case hs=>kernel_rfl);intros)
     refine xQ ?_;refine hS.dN (I5 (x:=x) hS.r (hc.mv hS.at) (Cells.mv (by assumption) hS.at) (Sl.mv (by assumption) hS.at) hS.z (af cJ hs.kp.size) (by simp only [ah];omega)) kQ fun iV w3 X3 cT om=>?_;replace hs:=cT.s;repeat' first|refine aN ?_;intros
     refine eT (xs.length-(i+1)) zQ ⟨i+1,iV,by simp,rfl,by omega,?_⟩;rw [lR sg,←aH];exact cT
    ·intro K hK;repeat' first|refine aN ?_;intros|exact hK
   ·rw [cd ec] at hS;repeat' first|refine bY ?_;intros
    rw [aH] at hS;exact hS.fin
  ·intro K hK;repeat' first|refine aN ?_;intros
   refine hS.dN (jM hS.r zQ cJ) kQ fun fH w2 X2 bu kc=>?_;replace hs:=bu.s
   skip
   exact hK _ _ _ bu
theorem Hw {w:World} {X Z:XS} {lo wb cb xb xo:Nat} {vb va:Value} {bs:List Nat} {xs:List cx} (h:Wr w X lo wb vb bs) (hc:Cells w Z cb 0 (ia wb)) (hx:Cells w Z xb xo [va]) (ha:ga w Z va xs) (hZ:nq Z X wb vb) (eo:lo≤w.heap.size) (hb:bs.length+(ir qd xs).length≤2^33):
  jv 191 #[ptr cb 0,ptr xb xo,.func (.func 125) #[ptr cb 0] #[]] w X lo wb vb bs (ir qd xs):=by
  intro w0 hk;have cJ:lo≤w0.heap.size:=af eo hk.size;replace hc:=hc.mv (hZ.mv hk);replace hx:=hx.mv (hZ.mv hk);replace ha:=ha.mv (hZ.mv hk);have hS:=WS.init (h.mv hk.cO);have jG:=eE.len ha;apply wO;unfold oU;have hs:=hS.s;repeat' first|refine aN ?_;intros
  refine iF (fun (k:Value→World→XS→Prop)=> ∀w X fH,WS w0 vb w X lo wb fH (bs++encI xs.length)→k (I xs.length) w X) ?_ ?_
  ·intro w X fH bu;refine eQ (fun n' a w X=> ∃(i:Nat) (nz:Value),a=I i∧n'=xs.length-i∧i≤xs.length∧WS w0 vb w X lo wb nz (bs++encI xs.length++((xs.take i).map qd).flatten)) xs.length ⟨0,fH,rfl,rfl,aP _,by simpa using bu⟩ ?_;clear bu hS hs;rintro n' a w X ⟨i,nz,rfl,rfl,hi,hS⟩;have hs:=hS.s;rcases eG xs i with⟨dA,x,sg,hd⟩|⟨ec,hd⟩
   ·have fB:=uM (f:=qd) sg;repeat' first|refine bY ?_;intros
    refine iF (fun (k:World→XS→Prop)=>k w X) ?_ ?_
    ·repeat' first|refine aN ?_;intros|((with_reducible apply AD);assumption;(try (case hz=>rfl));(case hr=>exact qR);(try (case hz=>omega));(case ht=>kernel_rfl);(case hs=>kernel_rfl);intros)
     refine xQ ?_;refine hS.dN (yM (x:=x) hS.r (hc.mv hS.at) (Cells.mv (by assumption) hS.at) (Sl.mv (by assumption) hS.at) (Sl.mv (by assumption) hS.at) hS.z (af cJ hs.kp.size) (by simp only [ah];omega)) kQ fun iV w3 X3 cT om=>?_;replace hs:=cT.s;repeat' first|refine aN ?_;intros
     refine eT (xs.length-(i+1)) zQ ⟨i+1,iV,by simp,rfl,by omega,?_⟩;rw [lR sg,←aH];exact cT
    ·intro K hK;repeat' first|refine aN ?_;intros|exact hK
   ·rw [cd ec] at hS;repeat' first|refine bY ?_;intros
    rw [aH] at hS;exact hS.fin
  ·intro K hK;repeat' first|refine aN ?_;intros
   refine hS.dN (jM hS.r zQ cJ) kQ fun fH w2 X2 bu kc=>?_;replace hs:=bu.s
   skip
   exact hK _ _ _ bu
theorem LG {w:World} {X Z:XS} {lo wb cb xb xo:Nat} {vb vh vp:Value} {bs:List Nat} {x:State} (h:Wr w X lo wb vb bs) (hc:Cells w Z cb 0 (ia wb)) (hx:Cells w Z xb xo (x.l vh vp)) (h1:gb w Z vh x.dM) (h2:ga w Z vp x.dh) (hZ:nq Z X wb vb) (eo:lo≤w.heap.size) (hb:bs.length+(encS x).length≤2^33):
  jv 124 #[ptr cb 0,ptr xb xo] w X lo wb vb bs (encS x):=by
 have e1:(encS x).length=(Il x.range).length+((lh x.floor).length+((lh x.closed).length+((ir uD x.dM).length+(ir qd x.dh).length))):=by simp [encS]
 replace h1:=fun {w1:World} (hk:Kp X w w1)=>gb.mv h1 (hZ.mv hk);replace h2:=fun {w1:World} (hk:Kp X w w1)=>ga.mv h2 (hZ.mv hk);intro w0 hk;have cJ:lo≤w0.heap.size:=af eo hk.size;replace hc:=hc.mv (hZ.mv hk);replace hx:=hx.mv (hZ.mv hk);have hS:=WS.init (h.mv hk.cO);apply Ba;unfold tk;have hs:=hS.s;replace h1:=h1 hk;replace h2:=h2 hk;have o1:=h1.one;have o2:=h2.one;repeat' first|refine aN ?_;intros
 refine hS.dN (LC (r:=x.range) hS.r (hc.mv hS.at) (Cells.mv (by assumption) hS.at) hS.z (by(try simp only [ah]);omega) (af cJ hs.kp.size)) kQ fun fH w X bu _=>?_;replace hs:=bu.s;repeat' first|refine aN ?_;intros
 refine bu.dN (gD (s:=x.floor) bu.r (hc.mv bu.at) (Cells.mv (by assumption) bu.at) bu.z (by(try simp only [ah]);omega) (af cJ hs.kp.size)) kQ fun iV w X cT _=>?_;replace hs:=cT.s;repeat' first|refine aN ?_;intros
 refine cT.dN (gD (s:=x.closed) cT.r (hc.mv cT.at) (Cells.mv (by assumption) cT.at) cT.z (by(try simp only [ah]);omega) (af cJ hs.kp.size)) kQ fun I2 w X fc _=>?_;replace hs:=fc.s;repeat' first|refine aN ?_;intros
 refine fc.dN (Hv fc.r (hc.mv fc.at) (Cells.mv (by assumption) fc.at) (h1.mv fc.at) fc.z (af cJ hs.kp.size) (by simp only [ah];omega)) kQ fun Pb w X jY _=>?_;replace hs:=jY.s;repeat' first|refine aN ?_;intros
 refine jY.dN (Hw jY.r (hc.mv jY.at) (Cells.mv (by assumption) jY.at) (h2.mv jY.at) jY.z (af cJ hs.kp.size) (by simp only [ah];omega)) kQ fun vb6 w X KW _=>?_
 skip
 unfold encS;simp only [aH] at KW;exact KW.fin
def fw (r:Rec):List Nat:=encI r.kind++(
 if r.kind=1 then encS r.state
 else if r.kind=2∨r.kind=7∨r.kind=8 then encI r.n
 else if r.kind=3 then qd ⟨r.dq,r.bb,r.reads,r.writes⟩++ir encI r.parts
 else if r.kind=4 then wR r.dq++(RG r.iq++lh r.bb)
 else if r.kind=5 then lh r.bb
 else if r.kind=6 then zf r.jI++(encI r.n++lh r.bb)
 else if r.kind=9 then wR r.dq++(lh r.bb++ir encI r.parts)
 else if r.kind=10 then wR r.dq
 else if r.kind=11 then lh r.prev++(lh r.bb++(wR r.dq++ir lj r.writes))
 else if r.kind=12 then lh r.bb++ir lj r.oM
 else [])
theorem Bp {P:Program} {R:Ending→World→Prop} {X:XS} {w:World} {t sz b o o':Nat} {cs:List Value} {ty:TypeId} {v:Value} {N:Value→World→XS→Prop} (h:bq w X b cs ty) (NZ:o'=o) (ht:(P.info? t).map (·.size)=some sz)
  (hl:o+sz≤cs.length) (hv:v.cells.size=sz) (h1:v.cells.toList.all aX.one=true) (hX: ∀k,X k→k<w.heap.size) (he:cP cs o v.cells.toList=cs)
  (n: ∀w' X',ak X w X' w'→N undef w' X'):eU P R X w true (st1 t sz (ptr b o') v) N:=by
 refine yh h NZ ht hl hv h1 hX fun w' X' c hr=>n w' X' ⟨⟨c.os,c.tape,c.output,c.size,fun k hk=>?_⟩,c.sub,c.has⟩;by_cases e:k=b
 ·subst e;rw [h.2,hr.2,he]
 ·exact c.block k hk e
theorem WS.adr {w0 w w':World} {X X':XS} {lo wb b:Nat} {kX vb:Value} {bs:List Nat} {cs:List Value} {ty:TypeId} (hS:WS w0 kX w X lo wb vb bs) (hr:bq w X b cs ty) (hb:w0.heap.size≤b)
  (h1:decide (279≠ty)=true) (h2:decide (5≠ty)=true) (c:fb (fun k=>k=b) X w X' w'):WS w0 kX w' X' lo wb vb bs:=by
 have dO:wb≠b:=hS.r.box.dX hr h1;refine⟨hS.s.fF c fun q h0 hq=>?_,⟨⟨c.sub _ hS.r.box.1,by rw [c.block _ hS.r.box.1 fun e=>dO e];exact hS.r.box.2⟩,Own.fF hS.r.ow c fun g hg e=>Own.dX hS.r.ow hr h2 (by rw [hg,e])⟩,hS.v⟩;have:=h0.1;have hq:q=b:=hq;omega
theorem _root_.Go.aX.bq.fF {F X X':XS} {w w':World} {b:Nat} {cs:List Value} {ty:TypeId} (h:bq w X b cs ty) (c:fb F X w X' w') (hn: ¬F b):bq w' X' b cs ty:=⟨c.sub _ h.1,by rw [c.block _ h.1 hn];exact h.2⟩
theorem Qh {w:World} {X Z:XS} {lo wb cb xb:Nat} {vb:Value} {bs:List Nat} {r:Rec} {vr vw vp vq vh vd:Value} (h:Wr w X lo wb vb bs) (hc:Cells w Z cb 0 (ia wb)) (hx:bq w Z xb (r.l vr vw vp vq vh vd) 91) (fe:r.at w Z vr vw vp vq vh vd) (hZ:nq Z X wb vb) (eo:lo≤w.heap.size)
  (hb:bs.length+(fw r).length≤2^33):jv 73 #[ptr cb 0,ptr xb 0] w X lo wb vb bs (fw r):=by
 intro w0 hk;have cJ:lo≤w0.heap.size:=af eo hk.size;replace hc:=hc.mv (hZ.mv hk);replace hx:=hx.mv (hZ.mv hk);replace fe:=fe.mv (hZ.mv hk);obtain⟨a1,a2,a3,a4,a5,a6⟩:=fe;obtain⟨p1,n1,c1,rfl⟩:=a1.form;obtain⟨p2,n2,c2,rfl⟩:=a2.form;have o1:=a1.one;have o2:=a2.one;have o3:=a3.one;have o4:=a4.one;have o5:=a5.one;have o6:=a6.one;have bK:=hx;replace hx:=hx.cells;have hS:=WS.init (h.mv hk.cO);have e1:=ef r.kind;obtain⟨E,hE⟩: ∃E,E=fw r:=⟨_,rfl⟩;rw [←hE] at hb⊢;unfold fw at hE;have hEl:(encI r.kind).length≤E.length:=by rw [hE,ah];omega
 apply Oo;unfold DE;have hs:=hS.s;repeat' first|refine aN ?_;intros
 refine hS.dN (gn hS.r (hc.mv hS.at) (Cells.mv (by assumption) hS.at) hS.z zQ (af cJ hs.kp.size)) kQ fun fH w X bu _=>?_;replace hs:=bu.s;repeat' first|refine aN ?_;intros
 refine iF (fun (k:World→XS→Prop)=> ∀w X iV,WS w0 vb w X lo wb iV (bs++E)→k w X) (fun w X iV cT=>cT.fin) fun K hK=>?_;repeat' first|refine aN ?_;intros|refine du ?_ ?_<;>intros|with_reducible apply dg
 all_goals (repeat (first|rw [if_pos zQ] at hE|rw [if_neg zQ] at hE))
 all_goals (have hEb:=congrArg List.length hE;simp only [ah] at hEb)
 ·refine bu.dN (LG (x:=r.state) bu.r (hc.mv bu.at) (Cells.mv (by assumption) bu.at) (a5.mv bu.at) (a6.mv bu.at) bu.z (af cJ hs.kp.size) (by simp only [ah];omega)) kQ fun iV w X cT _=>?_;have h9:=cT;rw [hE] at hK
  (try simp only [aH] at h9 hK)
  exact hK _ _ _ h9
 ·refine bu.dN (gn bu.r (hc.mv bu.at) (Cells.mv (by assumption) bu.at) bu.z (by simp only [ah];omega) (af cJ hs.kp.size)) kQ fun iV w X cT _=>?_;have h9:=cT;rw [hE] at hK
  (try simp only [aH] at h9 hK)
  exact hK _ _ _ h9
 ·refine bu.dN (gn bu.r (hc.mv bu.at) (Cells.mv (by assumption) bu.at) bu.z (by simp only [ah];omega) (af cJ hs.kp.size)) kQ fun iV w X cT _=>?_;have h9:=cT;rw [hE] at hK
  (try simp only [aH] at h9 hK)
  exact hK _ _ _ h9
 ·refine bu.dN (gn bu.r (hc.mv bu.at) (Cells.mv (by assumption) bu.at) bu.z (by simp only [ah];omega) (af cJ hs.kp.size)) kQ fun iV w X cT _=>?_;have h9:=cT;rw [hE] at hK
  (try simp only [aH] at h9 hK)
  exact hK _ _ _ h9
 ·have e2:(qd ⟨r.dq,r.bb,r.reads,r.writes⟩).length≤E.length:=by omega
  refine Jv (l:=[I 0,I 0,I 0,I 0,I 0,I 0,.slice none 0 0,.slice none 0 0]) hs.has kQ fun pb w3 X3 Dw dT Xp=>?_;have cT:=bu.since dT;refine yh (o:=0) Xp rfl kQ (by simp) rfl rfl dT.has fun w4 X4 c4 uV=>?_;replace uV:bq w4 X4 pb ((⟨r.dq,r.bb,r.reads,r.writes⟩:cx).l (.slice p1 n1 c1) (.slice p2 n2 c2)) 65:=uV;have ads:w0.heap.size≤pb:=af hs.kp.size Dw;have fc:=cT.adr Xp ads kQ kQ c4;have hnf: ¬wD wb fH pb:=fun hf=>hf.elim (fun e=>fc.r.box.dX uV kQ e.symm) fun e=>Own.dX fc.r.ow uV kQ e;obtain⟨Z',hZ'⟩: ∃Z':XS,Z'=fun k=>k=pb∨out (wD wb vb) w0 k:=⟨_,rfl⟩;have mv4:Mv (out (wD wb vb) w0) w0 Z' w4:=fun k ae _=>⟨by rw [hZ'];exact .inr ae,fc.s.kp.block k ae⟩;have mn:nq Z' X4 wb fH:=fun k ae=>by
   rw [hZ'] at ae;rcases ae with rfl|ae
   ·exact⟨uV.1,hnf⟩
   ·exact fc.z k ae
  refine fc.dN (yM (x:=⟨r.dq,r.bb,r.reads,r.writes⟩) fc.r (hc.mv mv4) (bq.cells (X:=Z') (ty:=65) ⟨by rw [hZ'];exact .inl rfl,uV.2⟩) (a1.mv mv4) (a2.mv mv4) mn (af cJ fc.s.kp.size) (by simp only [ah];omega)) kQ fun Pb w5 X5 jY c5=>?_;have adK:=uV.fF c5 hnf;clear hs;have hs:=jY.s;repeat' first|refine aN ?_;intros
  refine Bp (o:=1) (bK.mv jY.s.mv) zQ kQ (by simp) rfl rfl jY.s.has (by rfl) fun w6 X6 HX=>?_;have KW:=jY.since HX;repeat' first|refine aN ?_;intros
  refine Bp (o:=4) (bK.mv KW.s.mv) zQ kQ (by simp) rfl rfl KW.s.has (by rfl) fun w7 X7 vj=>?_;have hS7:=KW.since vj;repeat' first|refine aN ?_;intros
  refine Bp (o:=13) (bK.mv hS7.s.mv) zQ kQ (by simp) rfl rfl hS7.s.has (by rfl) fun w8 X8 Ii=>?_;have Tt:=hS7.since Ii;repeat' first|refine aN ?_;intros
  refine Bp (o:=14) (bK.mv Tt.s.mv) zQ kQ (by simp) rfl rfl Tt.s.has (by rfl) fun w9 X9 BH=>?_;have Pc:=Tt.since BH;clear hs;have hs:=Pc.s;repeat' first|refine aN ?_;intros
  refine Pc.dN (yL Pc.r (hc.mv Pc.at) (Cells.mv (by assumption) Pc.at) (a3.mv Pc.at) Pc.z (af cJ hs.kp.size) (by simp only [ah];omega)) kQ fun ad7 w X adt _=>?_;have h9:=adt;rw [hE] at hK
  (try simp only [aH] at h9 hK)
  exact hK _ _ _ h9
 ·refine bu.dN (qG (s:=r.dq) bu.r (hc.mv bu.at) (Cells.mv (by assumption) bu.at) bu.z (by(try simp only [ah]);omega) (af cJ hs.kp.size)) kQ fun iV w X cT _=>?_;replace hs:=cT.s;repeat' first|refine aN ?_;intros
  refine cT.dN (Pa (b:=r.iq) cT.r (hc.mv cT.at) (Cells.mv (by assumption) cT.at) cT.z (by(try simp only [ah]);omega) (af cJ hs.kp.size)) kQ fun I2 w X fc _=>?_;replace hs:=fc.s;repeat' first|refine aN ?_;intros
  refine fc.dN (gD (s:=r.bb) fc.r (hc.mv fc.at) (Cells.mv (by assumption) fc.at) fc.z (by(try simp only [ah]);omega) (af cJ hs.kp.size)) kQ fun Pb w X jY _=>?_;replace hs:=jY.s
  skip
  have h9:=jY;rw [hE] at hK
  (try simp only [aH] at h9 hK)
  exact hK _ _ _ h9
 ·refine bu.dN (gD (s:=r.bb) bu.r (hc.mv bu.at) (Cells.mv (by assumption) bu.at) bu.z (by(try simp only [ah]);omega) (af cJ hs.kp.size)) kQ fun iV w X cT _=>?_;replace hs:=cT.s
  skip
  have h9:=cT;rw [hE] at hK
  (try simp only [aH] at h9 hK)
  exact hK _ _ _ h9
 ·refine bu.dN (vL bu.r (hc.mv bu.at) (Cells.mv (by assumption) bu.at) bu.z (by(try simp only [ah]);omega) (af cJ hs.kp.size)) kQ fun iV w X cT _=>?_;replace hs:=cT.s;repeat' first|refine aN ?_;intros
  refine cT.dN (gn cT.r (hc.mv cT.at) (Cells.mv (by assumption) cT.at) cT.z (by(try simp only [ah]);omega) (af cJ hs.kp.size)) kQ fun I2 w X fc _=>?_;replace hs:=fc.s;repeat' first|refine aN ?_;intros
  refine fc.dN (gD (s:=r.bb) fc.r (hc.mv fc.at) (Cells.mv (by assumption) fc.at) fc.z (by(try simp only [ah]);omega) (af cJ hs.kp.size)) kQ fun Pb w X jY _=>?_;replace hs:=jY.s
  skip
  have h9:=jY;rw [hE] at hK
  (try simp only [aH] at h9 hK)
  exact hK _ _ _ h9
 ·refine bu.dN (qG (s:=r.dq) bu.r (hc.mv bu.at) (Cells.mv (by assumption) bu.at) bu.z (by(try simp only [ah]);omega) (af cJ hs.kp.size)) kQ fun iV w X cT _=>?_;replace hs:=cT.s;repeat' first|refine aN ?_;intros
  refine cT.dN (gD (s:=r.bb) cT.r (hc.mv cT.at) (Cells.mv (by assumption) cT.at) cT.z (by(try simp only [ah]);omega) (af cJ hs.kp.size)) kQ fun I2 w X fc _=>?_;replace hs:=fc.s;repeat' first|refine aN ?_;intros
  refine fc.dN (yL fc.r (hc.mv fc.at) (Cells.mv (by assumption) fc.at) (a3.mv fc.at) fc.z (af cJ hs.kp.size) (by simp only [ah];omega)) kQ fun Pb w X jY _=>?_;have h9:=jY;rw [hE] at hK
  (try simp only [aH] at h9 hK)
  exact hK _ _ _ h9
 ·refine bu.dN (qG (s:=r.dq) bu.r (hc.mv bu.at) (Cells.mv (by assumption) bu.at) bu.z (by(try simp only [ah]);omega) (af cJ hs.kp.size)) kQ fun iV w X cT _=>?_;replace hs:=cT.s
  skip
  have h9:=cT;rw [hE] at hK
  (try simp only [aH] at h9 hK)
  exact hK _ _ _ h9
 ·refine bu.dN (gD (s:=r.prev) bu.r (hc.mv bu.at) (Cells.mv (by assumption) bu.at) bu.z (by(try simp only [ah]);omega) (af cJ hs.kp.size)) kQ fun iV w X cT _=>?_;replace hs:=cT.s;repeat' first|refine aN ?_;intros
  refine cT.dN (gD (s:=r.bb) cT.r (hc.mv cT.at) (Cells.mv (by assumption) cT.at) cT.z (by(try simp only [ah]);omega) (af cJ hs.kp.size)) kQ fun I2 w X fc _=>?_;replace hs:=fc.s;repeat' first|refine aN ?_;intros
  refine fc.dN (qG (s:=r.dq) fc.r (hc.mv fc.at) (Cells.mv (by assumption) fc.at) fc.z (by(try simp only [ah]);omega) (af cJ hs.kp.size)) kQ fun Pb w X jY _=>?_;replace hs:=jY.s;repeat' first|refine aN ?_;intros
  refine jY.dN (BX jY.r (hc.mv jY.at) (Cells.mv (by assumption) jY.at) (a2.mv jY.at) jY.z (af cJ hs.kp.size) (by simp only [ah];omega)) kQ fun vb6 w X KW _=>?_;have h9:=KW;rw [hE] at hK
  (try simp only [aH] at h9 hK)
  exact hK _ _ _ h9
 ·refine bu.dN (gD (s:=r.bb) bu.r (hc.mv bu.at) (Cells.mv (by assumption) bu.at) bu.z (by(try simp only [ah]);omega) (af cJ hs.kp.size)) kQ fun iV w X cT _=>?_;replace hs:=cT.s;repeat' first|refine aN ?_;intros
  refine cT.dN (LF cT.r (hc.mv cT.at) (Cells.mv (by assumption) cT.at) (a4.mv cT.at) cT.z (af cJ hs.kp.size) (by simp only [ah];omega)) kQ fun I2 w X fc _=>?_;have h9:=fc;rw [hE] at hK
  (try simp only [aH] at h9 hK)
  exact hK _ _ _ h9
 ·rw [fY] at hE;have h9:=bu;rw [hE] at hK
  (try simp only [aH] at h9 hK)
  exact hK _ _ _ h9
def Rec.eX (r:Rec):Int:=if r.err≠0 then r.err else if 262144<(fw r).length then 2 else 0
theorem Bz {w:World} {X:XS} {r:Rec} {vr vw vp vq vh vd:Value} (h:r.at w X vr vw vp vq vh vd) (gp:r.small) (xv:r.err=0→(fw r).length≤2^33):
  Ct pg 55 #[r.v vr vw vp vq vh vd] w X nX fun v wa w'=>if r.eX≠0 then v= .tuple #[.slice none 0 0,I r.eX] else∃vb,v= .tuple #[vb,I 0]∧Own w' (made wa w') wa.heap.size 5 1 vb ((fw r).map U1):=by
 intro w0 hk;replace h:=h.mv hk.cO;have o1:=h.1.one;have o2:=h.2.1.one;have o3:=h.2.2.1.one;have o4:=h.2.2.2.1.one;have o5:=h.2.2.2.2.1.one;have o6:=h.2.2.2.2.2.one;apply JO;unfold zL;have hs:=ak.init w0;repeat' first|refine aN ?_;intros|refine du ?_ ?_<;>intros|(with_reducible apply ph);(case hX=>exact hs.has);intro bx w X fB ax bK;have bL:=hs.trans ax;replace hs:=ak.fC ax.has|(refine dZ (Sq (r:=r) (h.mv (bL.trans hs).mv) gp) kQ hs.has fun w X ax=>?_;replace hs:=hs.trans ax)
 ·have e:r.eX=r.err:=if_pos (by assumption);exact aj (bL.trans hs) fun wa hk=>by dsimp only;rw [e,if_pos (by assumption)]
 ·have KX:r.err=0:=by assumption
  have k3:=xv KX;refine dW Ht kQ hs.has ?_;rintro v wa w2 X2 ⟨wb,rfl,hW⟩ hle gF dJ;have hsA:=bL.trans (hs.trans dJ);have u3:=bK.lt;have WN:=hs.kp.size;have Na:=bL.kp.size;have hwb:=hW.box.1;have qK:=bK.since (hs.trans dJ);refine RW kQ ?_;refine ph hsA.has fun cb w3 X3 hcb dT Xq=>?_;have Xr:=hsA.trans dT;have ED:=qK.since dT;obtain⟨Z,Xs⟩: ∃Z:XS,Z=fun k=>k=bx∨k=cb∨aS w0 k:=⟨_,rfl⟩;have ad8:wa.heap.size≤wb∧wb<w2.heap.size:=hwb;have hZ:nq Z X3 wb (.slice none 0 0):=fun k ae=>by
   rw [Xs] at ae;refine⟨?_,fun hf=>?_⟩
   ·rcases ae with rfl|rfl|ae
    ·exact ED.1
    ·exact Xq.1
    ·exact Xr.sub k ae
   ·rcases hf with hf|hf
    ·rcases ae with e|e|e
     ·omega
     ·omega
     ·have:k<w0.heap.size:=e;omega
    ·cases hf
  have hcC:Cells w3 Z cb 0 (ia wb):=bq.cells (ty:=156) ⟨by rw [Xs];exact .inr (.inl rfl),Xq.2⟩;have hxC:bq w3 Z bx (r.l vr vw vp vq vh vd) 91:=⟨by rw [Xs];exact .inl rfl,ED.2⟩;have haC:r.at w3 Z vr vw vp vq vh vd:=h.mv fun k ae hl=>⟨by rw [Xs];exact .inr (.inr ae),Xr.kp.block k ae⟩;have hW3:Wr w3 X3 wa.heap.size wb (.slice none 0 0) []:=(hW.mv (Mv.sub gF)).mv dT.mv;refine Rp (Qh hW3 hcC hxC haC hZ (by have:=dT.kp.size;omega) (by simpa using k3)) kQ Xr.has (fun q hq=>by
   rcases hq with rfl|hq
   ·exact hW3.box.1
   ·cases hq) fun v sB w4 X4 hq vI nF ad9 ym=>?_
  obtain⟨rfl,Et,hW4⟩:=hq;have jh:=Xr.fF ym fun k ae hf=>by
   have h0:k<w0.heap.size:=ae;rcases hf with hf|hf
   ·omega
   ·cases hf
  have hW5:Wr w4 X4 wa.heap.size wb Et (fw r):=hW4.mv (Mv.sub fun k ae=>by
   rcases ae with(ae|ae)|ae
   ·rw [ae];exact ym.sub _ hW3.box.1
   ·cases ae
   ·exact nF k ae)
  refine dW (OZ hW5 zQ) kQ jh.has ?_;rintro v5 To w5 X5 Pd Jl Ni KA;have hsC:=jh.trans KA;have ho:Own w5 X5 w0.heap.size 5 1 v5 ((fw r).map U1):=Pd.up Ni (by have:=jh.kp.size;omega);clear hs bL;have hs:=hsC;have ov:=ho.sl.one;have hl:(List.map U1 (fw r)).length=(fw r).length:=bm _;repeat' first|refine aN ?_;intros|refine du ?_ ?_<;>intros
  ·have e:r.eX=2:=by unfold Rec.eX;rw [if_neg zQ,if_pos zQ]
   exact aj hs fun wb bt=>by dsimp only;rw [e,if_pos zQ]
  ·have e:r.eX=0:=by unfold Rec.eX;rw [if_neg zQ,if_neg zQ]
   exact aj hs fun wb bt=>by
    dsimp only;rw [e,if_neg zQ];exact⟨v5,rfl,(ho.kp bt).tight⟩
def I6 (n:Int):Bool:=(decide (n≥1)&&decide (n≤12))||(decide (n>20)&&decide (n≤22))||decide (n=31)||decide (n=32)
theorem vM (n:Int):Pure pg 145 #[I n] (B (decide (n≥1)&&decide (n≤12))):=by
 intro w;apply JS;unfold zS;have hs:=ak.init w;repeat' first|refine aN ?_;intros|refine du ?_ ?_<;>intros|(with_reducible refine fm hs ?_);simp_all<;>omega
theorem Qi (n:Int):Pure pg 84 #[I n] (B (I6 n)):=by
 intro w;apply Ot;unfold DG;have hs:=ak.init w;repeat' first|refine aN ?_;intros|refine du ?_ ?_<;>intros|((with_reducible refine dw (vM _) ?_ hs.has ?_ ?_);(· kernel_rfl);all_goals (intro _ w X ax;replace hs:=hs.trans ax))|(with_reducible refine fm hs ?_);simp_all [I6]<;>omega
@[ext] structure jL where
 key:BA
 val:kF
 bb:bH
 deriving DecidableEq
abbrev jL.l (x:jL):List Value:=[.string x.key,I x.val.kind,.float .f64 x.val.num,.string x.val.text,I x.bb.wall,I x.bb.cZ,I x.bb.node]
@[ext] structure fq where
 kind:Int
 fr:Int
 to:Int
 dq:dB
 range:Int
 gw:Int
 code:Int
 bb:bH
 prev:bH
 iq:Bool
 n:Int
 mx:Int
 keys:List BA
 seen:List jL
 writes:List KV
 parts:List Int
 ranges:List ic
 fE:List Rec
 state:State
 deriving DecidableEq
abbrev fq.l (m:fq) (vk vs vw vp vr vc vh vd:Value):List Value:=[I m.kind,I m.fr,I m.to,I m.dq.gO,I m.dq.jO,I m.dq.sq,I m.range,I m.gw,I m.code,
 I m.bb.wall,I m.bb.cZ,I m.bb.node,I m.prev.wall,I m.prev.cZ,I m.prev.node,B m.iq,I m.n,I m.mx,vk,vs,vw,vp,vr,vc,
 I m.state.range.id,I m.state.range.gw,.float .f64 m.state.range.lo,.float .f64 m.state.range.hi,
 I m.state.floor.wall,I m.state.floor.cZ,I m.state.floor.node,I m.state.closed.wall,I m.state.closed.cZ,I m.state.closed.node,vh,vd]
abbrev fq.v (m:fq) (vk vs vw vp vr vc vh vd:Value):Value:=.agg #[I m.kind,I m.fr,I m.to,I m.dq.gO,I m.dq.jO,I m.dq.sq,I m.range,I m.gw,I m.code,
 I m.bb.wall,I m.bb.cZ,I m.bb.node,I m.prev.wall,I m.prev.cZ,I m.prev.node,B m.iq,I m.n,I m.mx,vk,vs,vw,vp,vr,vc,
 I m.state.range.id,I m.state.range.gw,.float .f64 m.state.range.lo,.float .f64 m.state.range.hi,
 I m.state.floor.wall,I m.state.floor.cZ,I m.state.floor.node,I m.state.closed.wall,I m.state.closed.cZ,I m.state.closed.node,vh,vd]
structure fq.at (w:World) (X:XS) (m:fq) (vk vs vw vp vr vc vh vd:Value):Prop where
 keys:Sl w X 1 vk (m.keys.map S1)
 seen:Sl w X 7 vs (m.seen.map jL.l)
 writes:Sl w X 4 vw (m.writes.map KV.l)
 parts:Sl w X 1 vp (m.parts.map I1)
 ranges:Sl w X 4 vr (m.ranges.map ic.l)
 fE:eE w X 29 vc Rec.rd m.fE
 dM:gb w X vh m.state.dM
 dh:ga w X vd m.state.dh
theorem fq.at.mv {w w':World} {X Y:XS} {m:fq} {vk vs vw vp vr vc vh vd:Value} (h:m.at w X vk vs vw vp vr vc vh vd) (v:Mv X w Y w'):m.at w' Y vk vs vw vp vr vc vh vd:=
 ⟨h.keys.mv v,h.seen.mv v,h.writes.mv v,h.parts.mv v,h.ranges.mv v,eE.mv h.fE Rec.mv v,eE.mv h.dM fk.mv v,eE.mv h.dh cx.mv v⟩
def fq.rd (w:World) (X:XS) (l:List Value) (m:fq):Prop:= ∃vk vs vw vp vr vc vh vd,l=m.l vk vs vw vp vr vc vh vd∧m.at w X vk vs vw vp vr vc vh vd
theorem fq.mv:Ay fq.rd:=fun ⟨vk,vs,vw,vp,vr,vc,vh,vd,h,h1⟩ m=>⟨vk,vs,vw,vp,vr,vc,vh,vd,h,h1.mv m⟩
theorem zg {w:World} {X:XS} {a:Value} {xs:List BA} (ha:Sl w X 1 a (xs.map S1)):
  Ct pg 209 #[a] w X nX fun v _ _=>v=B (pP xs):=by
 intro w0 hk;replace ha:=ha.mv hk.cO;have jG:=ha.gH;apply OE;unfold DX;have hs:=ak.init w0;repeat' first|refine aN ?_;intros
 refine eQ (fun n a w X=> ∃i:Nat,a=I (i:Nat)∧n=(xs).length-i∧i≤(xs).length∧ak (aS w0) w0 X w∧chain ou xE none xs=chain ou xE (lN xs i) (xs.drop i)) (xs).length ⟨0,rfl,rfl,aP _,hs,by simp [lN]⟩ ?_;rintro n a w X ⟨i,rfl,rfl,hi,hs,hw⟩;rcases eG (xs) i with⟨dA,x,hx,hd⟩|⟨ec,hd⟩
 ·rcases EJ dA with⟨h0,hp⟩|⟨h0,y,hy,hp⟩<;>rw [hp,hd,chain] at hw<;>clear hd
  ·repeat' first|refine bY ?_;intros|((with_reducible refine dw (mj _) ?_ hs.has ?_ ?_);(· kernel_rfl);all_goals (intro _ w X ax;replace hs:=hs.trans ax))|((first|(with_reducible refine aj hs ?_)|(with_reducible refine aj (bL.trans hs) ?_));intro wa hk;simp_all [pP,rising,chain])|((with_reducible refine eT ((xs).length-(i+1)) ?_ ?_);omega;exact⟨i+1,by simp,rfl,by omega,hs,by rw [hw,kG hx];simp [*]⟩)
  ·repeat' first|refine bY ?_;intros|refine du ?_ ?_<;>intros|((with_reducible refine dw (mj _) ?_ hs.has ?_ ?_);(· kernel_rfl);all_goals (intro _ w X ax;replace hs:=hs.trans ax))|((first|(with_reducible refine aj hs ?_)|(with_reducible refine aj (bL.trans hs) ?_));intro wa hk;simp_all [pP,rising,chain])|((with_reducible refine eT ((xs).length-(i+1)) ?_ ?_);omega;exact⟨i+1,by simp,rfl,by omega,hs,by rw [hw,kG hx];simp [*]⟩)
 ·repeat' first|refine bY ?_;intros|refine du ?_ ?_<;>intros|((first|(with_reducible refine aj hs ?_)|(with_reducible refine aj (bL.trans hs) ?_));intro wa hk;simp_all [pP,rising,chain]<;>omega)
def jL.may (x:jL):Bool:=x.bb.may&&x.val.may&&!(decide (x.bb= .zero)&&decide (x.val.kind≠0))
def Ag (l:List jL):Bool:=l.all jL.may&&pP (l.map (·.key))
theorem Qj {w:World} {X:XS} {a:Value} {xs:List jL} (ha:Sl w X 7 a (xs.map jL.l)) (hb:xs.length≤2^40):
  Ct pg 211 #[a] w X nX fun v _ _=>v=B (Ag xs):=by
 intro w0 hk;replace ha:=ha.mv hk.cO;have jG:=ha.gH;apply OG;unfold DZ;have hs:=ak.init w0;repeat' first|refine aN ?_;intros
 refine fS (fun n a b w X=> ∃i:Nat,a=I i∧n=xs.length-i∧i≤xs.length∧ak (aS w0) w0 X w∧Own w X w0.heap.size 9 1 b (((xs.take i).map (·.key)).map S1)∧xs.all jL.may=(xs.drop i).all jL.may) xs.length ⟨0,rfl,rfl,aP _,hs,Own.nil _ _ _ _ _,by simp⟩ ?_;rintro n a b w X ⟨i,rfl,rfl,hi,hs,ho,hw⟩;rcases eG (xs) i with⟨dA,x,hx,hd⟩|⟨ec,hd⟩
 ·rw [hd,gd] at hw;have KX: ∀q:Bool,q=false→x.may=q→Ag xs=false:=fun q hq h=>by simp [Ag,hw,h,hq]
  repeat' first|refine bY ?_;intros|refine du ?_ ?_<;>intros|(with_reducible refine x5 _ ?_ ?_ ?_);(· kernel_rfl);all_goals intros|((with_reducible apply Js);(case own=>first|assumption|exact Own.since (by assumption) (by assumption));(case hs=>assumption);(case h0=>first|exact fun _ h=>h|exact bL.has);(case he=>kernel_rfl);(case hk=>rfl);(case ho=>first|rfl|assumption);(case hb=>(simp only [bm,dx,ah,bO,bA];omega));(case hl=>(simp only [bm,dx,ah,bO,bA];omega));intro acc w X ax ho hc fe;replace hs:=ax)|with_reducible apply dg|((with_reducible refine dw (jT _) ?_ hs.has ?_ ?_);(· kernel_rfl);all_goals (intro _ w X ax;replace hs:=hs.trans ax))|((with_reducible refine dw (kH _) ?_ hs.has ?_ ?_);(· kernel_rfl);all_goals (intro _ w X ax;replace hs:=hs.trans ax))|((first|(with_reducible refine aj hs ?_)|(with_reducible refine aj (bL.trans hs) ?_));intro wa hk;(exact(congrArg B (KX false rfl (by clear KX;grind [jL.may]))).symm))|((with_reducible refine fT ((xs).length-(i+1)) ?_ ?_);omega;exact⟨i+1,by simp,rfl,by omega,hs,by rw [gh,hx];simp only [qD,bM,bz,List.map_nil];(first|exact Own.since ho (by assumption)|exact Own.since (Own.since ho (by assumption)) (by assumption)),by rw [hw];clear KX;grind [jL.may]⟩)
 ·rw [hd] at hw;rw [cd ec] at ho;repeat' first|refine bY ?_;intros|((first|(with_reducible refine aj hs ?_)|(with_reducible refine aj (bL.trans hs) ?_));intro wa hk;(rename_i h;simp [Ag,hw,h]))|(refine ew (zg  (Own.sl ho)) kQ hs.has ?_ ?_<;>(intro _ w X ax;replace hs:=hs.trans ax))
theorem Kb {w:World} {X:XS} {a:Value} {xs:List KV} (ha:Sl w X 4 a (xs.map KV.l)) (hb:xs.length≤2^40):
  Ct pg 212 #[a] w X nX fun v _ _=>v=B (Em xs):=by
 intro w0 hk;replace ha:=ha.mv hk.cO;have jG:=ha.gH;apply IT;unfold yH;have hs:=ak.init w0;repeat' first|refine aN ?_;intros
 refine fS (fun n a b w X=> ∃i:Nat,a=I i∧n=xs.length-i∧i≤xs.length∧ak (aS w0) w0 X w∧Own w X w0.heap.size 9 1 b (((xs.take i).map (·.key)).map S1)∧xs.all (·.val.may)=(xs.drop i).all (·.val.may)) xs.length ⟨0,rfl,rfl,aP _,hs,Own.nil _ _ _ _ _,by simp⟩ ?_;rintro n a b w X ⟨i,rfl,rfl,hi,hs,ho,hw⟩;rcases eG (xs) i with⟨dA,x,hx,hd⟩|⟨ec,hd⟩
 ·rw [hd,gd] at hw;have KX:x.val.may=false→Em xs=false:=fun h=>by simp [Em,hw,h]
  repeat' first|refine bY ?_;intros|((with_reducible apply Js);(case own=>first|assumption|exact Own.since (by assumption) (by assumption));(case hs=>assumption);(case h0=>first|exact fun _ h=>h|exact bL.has);(case he=>kernel_rfl);(case hk=>rfl);(case ho=>first|rfl|assumption);(case hb=>(simp only [bm,dx,ah,bO,bA];omega));(case hl=>(simp only [bm,dx,ah,bO,bA];omega));intro acc w X ax ho hc fe;replace hs:=ax)|((with_reducible refine dw (kH _) ?_ hs.has ?_ ?_);(· kernel_rfl);all_goals (intro _ w X ax;replace hs:=hs.trans ax))|((first|(with_reducible refine aj hs ?_)|(with_reducible refine aj (bL.trans hs) ?_));intro wa hk;(exact(congrArg B (KX (by assumption))).symm))|((with_reducible refine fT ((xs).length-(i+1)) ?_ ?_);omega;exact⟨i+1,by simp,rfl,by omega,hs,by rw [gh,hx];simp only [qD,bM,bz,List.map_nil];exact Own.since ho (by assumption),by rw [hw];clear KX;simp [*]⟩)
 ·rw [hd] at hw;rw [cd ec] at ho;repeat' first|refine bY ?_;intros|((first|(with_reducible refine aj hs ?_)|(with_reducible refine aj (bL.trans hs) ?_));intro wa hk;(rename_i h;simp [Em,hw,h]))|(refine ew (zg  (Own.sl ho)) kQ hs.has ?_ ?_<;>(intro _ w X ax;replace hs:=hs.trans ax))
def ET (l:List ic):Bool:=l.all ic.may&&decide ((l.length:Int)≤12)
theorem Pe {w:World} {X:XS} {a:Value} {xs:List ic} (ha:Sl w X 4 a (xs.map ic.l)):
  Ct pg 256 #[a] w X nX fun v _ _=>v=B (ET xs):=by
 intro w0 hk;replace ha:=ha.mv hk.cO;have jG:=ha.gH;apply Lt;unfold BS;have hs:=ak.init w0;repeat' first|refine aN ?_;intros
 refine eQ (fun n a w X=> ∃i:Nat,a=I (i:Nat)∧n=(xs).length-i∧i≤(xs).length∧ak (aS w0) w0 X w∧xs.all ic.may=(xs.drop i).all ic.may) (xs).length ⟨0,rfl,rfl,aP _,hs,by simp⟩ ?_;rintro n a w X ⟨i,rfl,rfl,hi,hs,hw⟩;rcases eG (xs) i with⟨dA,x,hx,hd⟩|⟨ec,hd⟩
 ·rw [hd,gd] at hw;repeat' first|refine bY ?_;intros|((with_reducible refine dw (Gr _) ?_ hs.has ?_ ?_);(· kernel_rfl);all_goals (intro _ w X ax;replace hs:=hs.trans ax))|((first|(with_reducible refine aj hs ?_)|(with_reducible refine aj (bL.trans hs) ?_));intro wa hk;(simp [ET,hw, *]))|((with_reducible refine eT ((xs).length-(i+1)) ?_ ?_);omega;exact⟨i+1,by simp,rfl,by omega,hs,by rw [hw];simp [*]⟩)
 ·rw [hd] at hw;repeat' first|refine bY ?_;intros|refine du ?_ ?_<;>intros|((first|(with_reducible refine aj hs ?_)|(with_reducible refine aj (bL.trans hs) ?_));intro wa hk;(simp_all [ET]))
def codeOk (c:Int) (Pf:Bool) (l:List ic):Bool:=if c=0 then Pf&&decide (l=[])else decide (c>0)&&decide (c≤25)&&ET l
theorem Qk {w:World} {X:XS} {c:Int} {Pf:Bool} {a:Value} {xs:List ic} (ha:Sl w X 4 a (xs.map ic.l)):
  Ct pg 210 #[I c,B Pf,a] w X nX fun v _ _=>v=B (codeOk c Pf xs):=by
 intro w0 hk;replace ha:=ha.mv hk.cO;have jG:=ha.gH;have acx:xs.length=0↔xs=[]:=jX;apply OF;unfold DY;have hs:=ak.init w0;cases Pf<;>
 repeat' first|refine aN ?_;intros|refine du ?_ ?_<;>intros|with_reducible apply dg|((first|(with_reducible refine aj hs ?_)|(with_reducible refine aj (bL.trans hs) ?_));intro wa hk;(simp_all [codeOk]<;>omega))|(refine ew (Pe  qA) kQ hs.has ?_ ?_<;>(intro _ w X ax;replace hs:=hs.trans ax))
def EU (l:List Int) (n:Int):Bool:=l.any fun x=>decide (x=n)
theorem Sr {w:World} {X:XS} {z:Int} {a:Value} {xs:List Int} (ha:Sl w X 1 a (xs.map I1)):
  Ct pg 214 #[a,I z] w X nX fun v _ _=>v=B (EU xs z):=by
 intro w0 hk;replace ha:=ha.mv hk.cO;have jG:=ha.gH;apply P9;unfold Gn;have hs:=ak.init w0;repeat' first|refine aN ?_;intros
 refine eQ (fun n a w X=> ∃i:Nat,a=I (i:Nat)∧n=(xs).length-i∧i≤(xs).length∧ak (aS w0) w0 X w∧EU xs z=EU (xs.drop i) z) (xs).length ⟨0,rfl,rfl,aP _,hs,by simp⟩ ?_;rintro n a w X ⟨i,rfl,rfl,hi,hs,hw⟩;rcases eG (xs) i with⟨dA,x,hx,hd⟩|⟨ec,hd⟩
 ·rw [hd] at hw;repeat' first|refine bY ?_;intros|refine du ?_ ?_<;>intros|((first|(with_reducible refine aj hs ?_)|(with_reducible refine aj (bL.trans hs) ?_));intro wa hk;(rw [hw];simp [EU, *]))|((with_reducible refine eT ((xs).length-(i+1)) ?_ ?_);omega;exact⟨i+1,by simp,rfl,by omega,hs,by rw [hw];simp [EU, *]⟩)
 ·rw [hd] at hw;repeat' first|refine bY ?_;intros|((first|(with_reducible refine aj hs ?_)|(with_reducible refine aj (bL.trans hs) ?_));intro wa hk;(rw [hw];rfl))
def EV (l:List Rec):Bool:=l.all (fun r=>decide (r.eX=0))&&decide ((l.length:Int)≤8)
theorem Pg {w:World} {X:XS} {a:Value} {xs:List Rec} (ha:eE w X 29 a Rec.rd xs) (gp: ∀r∈xs,r.small) (xv: ∀r∈xs,r.err=0→(fw r).length≤2^33):
  Ct pg 148 #[a] w X nX fun v _ _=>v=B (EV xs):=by
 intro w0 hk;replace ha:=eE.mv ha Rec.mv hk.cO;have jG:=ha.len;apply Lo;unfold BN;have hs:=ak.init w0;repeat' first|refine aN ?_;intros
 refine eQ (fun n a w X=> ∃i:Nat,a=I (i:Nat)∧n=(xs).length-i∧i≤(xs).length∧ak (aS w0) w0 X w∧xs.all (fun r=>decide (r.eX=0))=(xs.drop i).all (fun r=>decide (r.eX=0))) (xs).length ⟨0,rfl,rfl,aP _,hs,by simp⟩ ?_;rintro n a w X ⟨i,rfl,rfl,hi,hs,hw⟩;rcases eG (xs) i with⟨dA,x,hx,hd⟩|⟨ec,hd⟩
 ·rw [hd,gd] at hw;have hxm:=List.mem_of_getElem? hx;repeat' first|refine bY ?_;intros|((with_reducible apply QF);assumption;(try (case hz=>rfl));(case hr=>exact qR);(try (case hz=>omega));(case ht=>kernel_rfl);(case hs=>kernel_rfl);intros)
  refine dW (Bz (r:=x) (Rec.at.mv (by assumption) hs.mv) (gp x hxm) (xv x hxm)) kQ hs.has ?_;rintro v wa w2 X2 hq hle gF dJ;replace hs:=hs.trans dJ;by_cases he:x.eX=0
  ·rw [if_neg zQ] at hq;obtain⟨vb,rfl,_⟩:=hq;repeat' first|refine bY ?_;intros|((with_reducible refine eT ((xs).length-(i+1)) ?_ ?_);omega;exact⟨i+1,by simp,rfl,by omega,hs,by rw [hw];simp [he]⟩)
  ·rw [if_pos he] at hq;subst hq;repeat' first|refine bY ?_;intros|((first|(with_reducible refine aj hs ?_)|(with_reducible refine aj (bL.trans hs) ?_));intro wa hk;(simp [EV,hw,he]))
 ·rw [hd] at hw;repeat' first|refine bY ?_;intros|refine du ?_ ?_<;>intros|((first|(with_reducible refine aj hs ?_)|(with_reducible refine aj (bL.trans hs) ?_));intro wa hk;(simp_all [EV]))
structure fq.small (m:fq):Prop where
 seen:m.seen.length≤2^40
 writes:m.writes.length≤2^40
 fE: ∀r∈m.fE,r.small
 enc: ∀r∈m.fE,r.err=0→(fw r).length≤2^33
 state:m.state.small
def fq.Kc (m:fq):Bool:=m.dq.may&&oy m.range&&(
 if m.kind=1 then decide (m.gw≥0)&&m.bb.may&&pP m.keys&&decide ((m.keys.length:Int)>0)
 else if m.kind=2 then codeOk m.code (Ag m.seen&&decide ((m.seen.length:Int)>0)) m.ranges&&m.bb.may&&(decide (m.code=0)||decide ((m.seen.length:Int)=0))
 else if m.kind=3 then decide (m.gw≥0)&&m.bb.may&&Ag m.seen&&Em m.writes&&uK m.parts&&EU m.parts m.range
 else if m.kind=4 then codeOk m.code true m.ranges&&m.bb.may
 else if m.kind=5 then(if m.iq then m.bb.may&&decide (m.bb≠ .zero)else decide (m.bb= .zero))
 else true)
theorem Ph {w:World} {X:XS} {m:fq} {vk vs vw vp vr vc vh vd:Value} (h:m.at w X vk vs vw vp vr vc vh vd) (gp:m.small):
  Ct pg 147 #[m.v vk vs vw vp vr vc vh vd] w X nX fun v _ _=>v=B m.Kc:=by
 intro w0 hk;replace h:=h.mv hk.cO;obtain⟨h1,h2,h3,h4,h5,h6,h7,h8⟩:=h;obtain⟨b1,n1,c1,rfl⟩:=h1.form;obtain⟨b2,n2,c2,rfl⟩:=h2.form;obtain⟨b3,n3,c3,rfl⟩:=h3.form;obtain⟨b4,n4,c4,rfl⟩:=h4.form;obtain⟨b5,n5,c5,rfl⟩:=h5.form;apply Ln;unfold BM;have hs:=ak.init w0;repeat' first|refine aN ?_;intros|refine du ?_ ?_<;>intros|(with_reducible refine x5 _ ?_ ?_ ?_);(· kernel_rfl);all_goals intros|(with_reducible refine Ub _ ?_ ?_ ?_);(· kernel_rfl);all_goals intros|with_reducible apply dg|((with_reducible refine dw (jT _) ?_ hs.has ?_ ?_);(· kernel_rfl);all_goals (intro _ w X ax;replace hs:=hs.trans ax))|((with_reducible refine dw (vM _) ?_ hs.has ?_ ?_);(· kernel_rfl);all_goals (intro _ w X ax;replace hs:=hs.trans ax))|((with_reducible refine dw (vJ _) ?_ hs.has ?_ ?_);(· kernel_rfl);all_goals (intro _ w X ax;replace hs:=hs.trans ax))|(refine ew (zg  qA) kQ hs.has ?_ ?_<;>(intro _ w X ax;replace hs:=hs.trans ax))|(refine ew (Qj  qA gp.seen) kQ hs.has ?_ ?_<;>(intro _ w X ax;replace hs:=hs.trans ax))|(refine ew (Kb  qA gp.writes) kQ hs.has ?_ ?_<;>(intro _ w X ax;replace hs:=hs.trans ax))|(refine ew (En  qA) kQ hs.has ?_ ?_<;>(intro _ w X ax;replace hs:=hs.trans ax))|(refine ew (Sr  qA) kQ hs.has ?_ ?_<;>(intro _ w X ax;replace hs:=hs.trans ax))|(refine ew ((Qk (xs:=m.ranges))  qA) kQ hs.has ?_ ?_<;>(intro _ w X ax;replace hs:=hs.trans ax))
 all_goals
  (with_reducible refine aj hs ?_)
  intro wa bt;unfold fq.Kc;repeat (first|rw [if_pos zQ]|rw [if_neg zQ])
  simp_all [oy]<;>first|omega|(rename_i z9;intro e9;simp [e9] at z9;done)|(intro e9;simp_all;done)|grind
def fq.nG (m:fq):Bool:=
 if 1≤m.kind∧m.kind≤7 then m.Kc
 else if m.kind=8 then oy m.range&&decide (m.n≥1)&&decide (m.mx≥0)&&decide (m.mx≤8)&&m.bb.may
 else if m.kind=9 then oy m.range&&decide (m.n≥1)&&EV m.fE
 else if m.kind=10 then oy m.range&&m.state.may&&decide (m.state.range.id=m.range)
 else if m.kind=11 then oy m.range
 else if m.kind=12 then ER m.prev m.bb m.dq m.writes
 else if m.kind=14 then m.bb.may
 else true
theorem Kd {w:World} {X:XS} {m:fq} {vk vs vw vp vr vc vh vd:Value} (h:m.at w X vk vs vw vp vr vc vh vd) (gp:m.small):
  Ct pg 86 #[m.v vk vs vw vp vr vc vh vd] w X nX fun v _ _=>v=B m.nG:=by
 intro w0 hk;replace h:=h.mv hk.cO;obtain⟨h1,h2,h3,h4,h5,h6,h7,h8⟩:=id h;obtain⟨b3,n3,c3,rfl⟩:=h3.form;apply JP;unfold zO;have hs:=ak.init w0;repeat' first|refine aN ?_;intros|refine du ?_ ?_<;>intros|with_reducible apply dg|((with_reducible refine dw (jT _) ?_ hs.has ?_ ?_);(· kernel_rfl);all_goals (intro _ w X ax;replace hs:=hs.trans ax))|((with_reducible refine dw (vM _) ?_ hs.has ?_ ?_);(· kernel_rfl);all_goals (intro _ w X ax;replace hs:=hs.trans ax))|(refine ew ((Ph (m:=m))  (h.mv (ak.mv hs)) gp) kQ hs.has ?_ ?_<;>(intro _ w X ax;replace hs:=hs.trans ax))|(refine ew ((Pg (xs:=m.fE))  (eE.mv h6 Rec.mv (ak.mv hs)) gp.fE gp.enc) kQ hs.has ?_ ?_<;>(intro _ w X ax;replace hs:=hs.trans ax))|(refine ew (sO  (s:=m.state) qA qA gp.state) kQ hs.has ?_ ?_<;>(intro _ w X ax;replace hs:=hs.trans ax))|(refine ew ((Er (l:=m.writes))  qA gp.writes) kQ hs.has ?_ ?_<;>(intro _ w X ax;replace hs:=hs.trans ax))
 all_goals
  (with_reducible refine aj hs ?_)
  intro wa bt;unfold fq.nG;repeat (first|rw [if_pos zQ]|rw [if_neg zQ])
  try (simp_all [oy]<;>first|omega|grind)
def fq.isZero (m:fq):Bool:=decide (m.dq= .zero)&&decide (m.range=0)&&decide (m.gw=0)&&decide (m.code=0)&&decide (m.bb= .zero)&&decide (m.prev= .zero)&&!m.iq&&decide (m.n=0)&&decide (m.mx=0)&&
 m.state.isZero&&decide ((m.keys.length:Int)+m.seen.length+m.writes.length+m.parts.length+m.ranges.length+m.fE.length=0)
theorem Pj {w:World} {X:XS} {m:fq} {vk vs vw vp vr vc vh vd:Value} (h:m.at w X vk vs vw vp vr vc vh vd) (HQ:m.keys.length+m.seen.length+m.writes.length+m.parts.length+m.ranges.length+m.fE.length≤2^62):
  Ct pg 85 #[m.v vk vs vw vp vr vc vh vd] w X nX fun v _ _=>v=B m.isZero:=by
 intro w0 hk;replace h:=h.mv hk.cO;obtain⟨h1,h2,h3,h4,h5,h6,h7,h8⟩:=h;have o7:=h7.one;have o8:=h8.one;have q1:m.state.dM.length=0↔m.state.dM=[]:=jX;have q2:m.state.dh.length=0↔m.state.dh=[]:=jX;apply Ou;unfold DH;have hs:=ak.init w0;cases hc:m.iq<;>
 repeat' first|refine aN ?_;intros|refine du ?_ ?_<;>intros|(with_reducible refine x5 _ ?_ ?_ ?_);(· kernel_rfl);all_goals intros|(with_reducible refine Uc _ ?_ ?_ ?_);(· kernel_rfl);all_goals intros|with_reducible apply dg|((first|(with_reducible refine aj hs ?_)|(with_reducible refine aj (bL.trans hs) ?_));intro wa hk;(simp_all [fq.isZero,State.isZero,ic.ext_iff]<;>omega))|((with_reducible refine xN (uJ _) hs.has ?_);intro w X ax;replace hs:=hs.trans ax)
def fq.strip (m:fq):fq×Bool:=
 if m.kind=1 then({ m with dq:=.zero,range:=0,gw:=0,bb:=.zero,keys:=[] },true)
 else if m.kind=2 then({ m with dq:=.zero,range:=0,code:=0,bb:=.zero,seen:=[],ranges:=[] },true)
 else if m.kind=3 then({ m with dq:=.zero,range:=0,gw:=0,bb:=.zero,seen:=[],writes:=[],parts:=[] },true)
 else if m.kind=4 then({ m with dq:=.zero,range:=0,code:=0,bb:=.zero,ranges:=[] },true)
 else if m.kind=5 then({ m with dq:=.zero,range:=0,iq:=false,bb:=.zero },true)
 else if m.kind=6∨m.kind=7 then({ m with dq:=.zero,range:=0 },true)
 else if m.kind=8 then({ m with range:=0,n:=0,mx:=0,bb:=.zero },true)
 else if m.kind=9 then({ m with range:=0,n:=0,fE:=[] },true)
 else if m.kind=10 then({ m with range:=0,state:=.zero },true)
 else if m.kind=11 then({ m with range:=0 },true)
 else if m.kind=12 then({ m with prev:=.zero,bb:=.zero,dq:=.zero,writes:=[] },true)
 else if m.kind=13 then(m,true)
 else if m.kind=14 then({ m with bb:=.zero },true)
 else(m,false)
theorem I7 {w:World} {X:XS} {m:fq} {vk vs vw vp vr vc vh vd:Value} (h:m.at w X vk vs vw vp vr vc vh vd):
  Ct pg 83 #[m.v vk vs vw vp vr vc vh vd] w X nX fun v wa w'=> ∃vk' vs' OQ OR OP vc' OS OT,v= .tuple #[m.strip.1.v vk' vs' OQ OR OP vc' OS OT,B m.strip.2]∧
   m.strip.1.at w X vk' vs' OQ OR OP vc' OS OT:=by
 intro w0 hk;obtain⟨h1,h2,h3,h4,h5,h6,h7,h8⟩:=h;have o1:=h1.one;have o2:=h2.one;have o3:=h3.one;have o4:=h4.one;have o5:=h5.one;have o6:=h6.one;have o7:=h7.one;have o8:=h8.one;apply IM;unfold yC;have hs:=ak.init w0;have n1:Sl w X 1 (.slice none 0 0) (([]:List BA).map S1):=Sl.nil _ _ _;have n2:Sl w X 7 (.slice none 0 0) (([]:List jL).map jL.l):=Sl.nil _ _ _;have n3:Sl w X 4 (.slice none 0 0) (([]:List KV).map KV.l):=Sl.nil _ _ _;have n4:Sl w X 1 (.slice none 0 0) (([]:List Int).map I1):=Sl.nil _ _ _;have n5:Sl w X 4 (.slice none 0 0) (([]:List ic).map ic.l):=Sl.nil _ _ _;have n6:eE w X 29 (.slice none 0 0) Rec.rd []:=eE.nil _ _ _;have n7:gb w X (.slice none 0 0) []:=eE.nil _ _ _;have n8:ga w X (.slice none 0 0) []:=eE.nil _ _ _;repeat' first|refine aN ?_;intros|refine du ?_ ?_<;>intros|with_reducible apply dg
 all_goals
  refine aj hs ?_;intro wa bt;unfold fq.strip;repeat (first|rw [if_pos zQ]|rw [if_neg zQ])
  exact⟨_,_,_,_,_,_,_,_,rfl,by assumption,by assumption,by assumption,by assumption,by assumption,by assumption,by assumption,by assumption⟩
def fq.err (m:fq):Int:=if !m.strip.2 then 7 else if !I6 m.fr||!I6 m.to||!m.strip.1.isZero||!m.nG then 4 else 0
def fq.lens (m:fq):Nat:=m.keys.length+m.seen.length+m.writes.length+m.parts.length+m.ranges.length+m.fE.length
theorem VX {c:Prop} [Decidable c] {a b:fq×Bool} {n:Nat} (ha:a.1.lens≤n) (hb:b.1.lens≤n):(if c then a else b).1.lens≤n:=by split<;>assumption
theorem fq.Ss (m:fq):m.strip.1.lens≤m.lens:=by
 unfold fq.strip;repeat' with_reducible apply VX
 all_goals (unfold fq.lens;(try simp only [bA]);omega)
theorem FW {w:World} {X:XS} {m:fq} {vk vs vw vp vr vc vh vd:Value} (h:m.at w X vk vs vw vp vr vc vh vd) (gp:m.small) (HQ:m.lens≤2^62):
  Ct pg 35 #[m.v vk vs vw vp vr vc vh vd] w X nX fun v _ _=>v=I m.err:=by
 intro w0 hk;have h:=h.mv hk.cO;have adu:=af m.Ss HQ;apply P2;unfold Gg;have hs:=ak.init w0;refine dW (I7 h) kQ hs.has ?_;rintro v wa w X ⟨vk',vs',OQ,OR,OP,vc',OS,OT,rfl,fe⟩ hle gF ax;replace hs:=hs.trans ax;have q1:=fe.1.one;have q2:=fe.2.one;have q3:=fe.3.one;have q4:=fe.4.one;have q5:=fe.5.one;have q6:=fe.6.one;have q7:=fe.7.one;have q8:=fe.8.one;cases hb:m.strip.2<;>
 repeat' first|refine aN ?_;intros|with_reducible apply dg|((with_reducible refine dw (Qi _) ?_ hs.has ?_ ?_);(· kernel_rfl);all_goals (intro _ w X ax;replace hs:=hs.trans ax))|((first|(with_reducible refine aj hs ?_)|(with_reducible refine aj (bL.trans hs) ?_));intro wa hk;(simp [fq.err, *]))|(refine ew ((Pj (m:=m.strip.1))  (fe.mv (ak.mv (by first|assumption|exact ak.trans (by assumption) (by assumption)))) adu) kQ hs.has ?_ ?_<;>(intro _ w X ax;replace hs:=hs.trans ax))|(refine ew ((Kd (m:=m))  (h.mv (ak.mv hs)) gp) kQ hs.has ?_ ?_<;>(intro _ w X ax;replace hs:=hs.trans ax))
section
variable {κ : Type} [DecidableEq κ] {α β : Type}
theorem VY (f:α→β) (k:κ) (l:List (κ×α)):getM k (l.map fun x=>(x.1,f x.2))=(getM k l).map f:=by
 induction l with
 |nil=>rfl
 |cons x l ih=>
  simp only [getM,bz,ea] at ih⊢;by_cases hx:x.1=k
  ·simp [hx]
  ·simp only [hx,decide_false] at ih⊢;exact ih
theorem Pk (f:α→β) (k:κ) (a:α) (l:List (κ×α)):(fQ k a l).map (fun x=>(x.1,f x.2))=fQ k (f a) (l.map fun x=>(x.1,f x.2)):=by
 induction l with
 |nil=>rfl
 |cons x l ih=>
  simp only [fQ,bz] at ih⊢;by_cases hx:x.1=k
  ·simp [hx]
  ·simp only [hx,if_false,bz,ih]
theorem VZ (f:α→β) (k:κ) (l:List (κ×α)):(Dz k l).map (fun x=>(x.1,f x.2))=Dz k (l.map fun x=>(x.1,f x.2)):=by
 unfold Dz;rw [List.filter_map];rfl
theorem V9 (f:α→β) (k:κ) (a:α) {l:List (κ×α)} (h: ∀x∈l,x.1=k→f x.2=f a) (hk:(getM k l).isSome=true):(fQ k a l).map (fun x=>(x.1,f x.2))=l.map fun x=>(x.1,f x.2):=by
 induction l with
 |nil=>cases hk
 |cons x l ih=>
  simp only [fQ];by_cases hx:x.1=k
  ·simp [hx,h x (by simp) hx]
  ·simp only [hx,if_false,bz];rw [ih (fun y hy=>h y (by simp [hy])) (by simpa [getM,ea,hx] using hk)]
theorem Ew (k:κ) (a:α) (l:List (κ×α)):(fQ k a l).map (·.1)=if(getM k l).isSome then l.map (·.1)else l.map (·.1)++[k]:=by
 induction l with
 |nil=>rfl
 |cons x l ih=>
  simp only [fQ];by_cases hx:x.1=k
  ·simp [hx,getM]
  ·have e:getM k (x::l)=getM k l:=by simp [getM,ea,hx]
   rw [if_neg hx,e,bz,ih];split<;>simp
theorem getM_none {k:κ} {l:List (κ×α)} :getM k l=none↔k ∉ l.map (·.1):=by
 induction l with
 |nil=>simp [getM]
 |cons x l ih=>
  by_cases hx:x.1=k
  ·simp [getM,hx]
  ·have e:getM k (x::l)=getM k l:=by simp [getM,ea,hx]
   rw [e,ih];simp [Ne.symm (hx:x.1≠k),eq_comm,hx]
theorem KY {R:κ×α→κ×α→Prop} {k:κ} {a:α} {l:List (κ×α)} (hn:(l.map (·.1)).Nodup) (hp:l.Pairwise R) (h: ∀y∈l,y.1≠k→R (k,a) y∧R y (k,a)):(fQ k a l).Pairwise R:=by
 induction l with
 |nil=>simp [fQ]
 |cons x l ih=>
  have jE:=List.nodup_cons.1 hn;have hp':=List.pairwise_cons.1 hp;simp only [fQ];by_cases hx:x.1=k
  ·rw [if_pos hx,qB];refine⟨fun y hy=>(h y (by simp [hy]) fun e=>jE.1 (List.mem_map.2 ⟨y,hy,e.trans hx.symm⟩)).1,hp'.2⟩
  ·rw [if_neg hx,qB];refine⟨fun y hy=>?_,ih jE.2 hp'.2 fun y hy=>h y (by simp [hy])⟩;rcases rJ jE.2 hy with rfl|⟨hy,_⟩
   ·exact(h x (by simp) hx).2
   ·exact hp'.1 y hy
def vN (f:α→Nat) (l:List (κ×α)):Nat:=(l.map fun x=>f x.2).sum
theorem Wa {f:α→Nat} {k:κ} {a b:α} {l:List (κ×α)} (h:getM k l=some b):vN f (fQ k a l)+f b=vN f l+f a:=by
 induction l with
 |nil=>cases h
 |cons x l ih=>
  simp only [fQ];by_cases hx:x.1=k
  ·have:x.2=b:=by simpa [getM,hx] using h
   rw [if_pos hx];simp only [vN,bz,kl,this];omega
  ·rw [if_neg hx];have:=ih (by simpa [getM,ea,hx] using h);simp only [vN,bz,kl] at this⊢;omega
theorem Wb {f:α→Nat} {k:κ} {a:α} {l:List (κ×α)} (h:getM k l=none):vN f (fQ k a l)=vN f l+f a:=by
 induction l with
 |nil=>simp [fQ,vN]
 |cons x l ih=>
  simp only [fQ];by_cases hx:x.1=k
  ·simp [getM,hx] at h
  ·rw [if_neg hx];have:=ih (by simpa [getM,ea,hx] using h);simp only [vN,bz,kl] at this⊢;omega
theorem Wc {f:α→Nat} {k:κ} {b:α} {l:List (κ×α)} (h:getM k l=some b):f b≤vN f l:=by
 induction l with
 |nil=>cases h
 |cons x l ih=>
  by_cases hx:x.1=k
  ·have:x.2=b:=by simpa [getM,hx] using h
   simp only [vN,bz,kl,this];omega
  ·have:=ih (by simpa [getM,ea,hx] using h);simp only [vN,bz,kl] at this⊢;omega
end
structure DM where
 fs:List (ByteArray×(List Nat×Nat))
 wr:Int
 ar:Nat
 dn:Bool
def DM.sz (m:DM):Nat:=vN (fun x=>x.1.length) m.fs
def DM.get (m:DM) (n:ByteArray):Option (List Nat×Nat):=getM n m.fs
def DM.put (m:DM) (n:ByteArray) (bs:List Nat) (s:Nat):DM:= { m with fs:=fQ n (bs,s) m.fs }
def DM.del (m:DM) (n:ByteArray):DM:= { m with fs:=Dz n m.fs }
def DM.tick (m:DM):DM:=if m.ar=1 then { m with ar:=0,dn:=true } else { m with ar:=m.ar-1,wr:=IntKind.i64.wrap (m.wr+1) }
def DM.write (m:DM) (e:Nat) (f:DM→DM):DM×Nat:=if m.dn then(m,12)else if e≠0 then(m,e)else if m.tick.dn then(m.tick,12)else(f m.tick,0)
def sC (n:ByteArray):Bool:=decide (1≤n.size∧n.size≤20)
def DM.create (m:DM) (n:ByteArray):DM×Nat:=m.write (if¬sC n then 10 else if(m.get n).isSome then 9 else if 64≤m.fs.length then 3 else 0) fun m=>m.put n [] 0
def DM.append (m:DM) (n:ByteArray) (b:List Nat):DM×Nat:=
 if m.dn then(m,12)else match m.get n with
 |none=>(m,8)
 |some (bs,s)=>if 4194304-m.sz<b.length then(m,11)else(m.tick.put n (bs++b) s,if m.tick.dn then 12 else 0)
def DM.uW (n:ByteArray) (m:DM):DM:=match m.get n with
 |none=>m
 |some x=>m.put n x.1 x.1.length
def DM.sync (m:DM) (n:ByteArray):DM×Nat:=m.write (if(m.get n).isSome then 0 else 8) (DM.uW n)
theorem DM.wX (m:DM):m.tick.fs=m.fs:=by unfold DM.tick;split<;>rfl
theorem DM.uN (m:DM) (n:ByteArray):m.tick.get n=m.get n:=by unfold DM.get;rw [m.wX]
theorem DM.EW (m:DM):m.tick.sz=m.sz:=by unfold DM.sz;rw [m.wX]
theorem DM.Pm {m:DM} {n:ByteArray} {b bs:List Nat} {s s':Nat} (h:m.get n=some (b,s)):(m.put n bs s').sz+b.length=m.sz+bs.length:=Wa (f:=fun x:List Nat×Nat=>x.1.length) h
theorem DM.QX {m:DM} {n:ByteArray} {bs:List Nat} {s':Nat} (h:m.get n=none):(m.put n bs s').sz=m.sz+bs.length:=Wb (f:=fun x:List Nat×Nat=>x.1.length) h
theorem DM.Pn (m:DM) (n:ByteArray):(m.uW n).sz=m.sz:=by
 unfold DM.uW;split
 ·rfl
 ·rename_i x hx;have:=DM.Pm (bs:=x.1) (s':=x.1.length) hx;omega
theorem DM.YN {m:DM} {n:ByteArray} {b:List Nat} {s:Nat} (h:m.get n=some (b,s)):b.length≤m.sz:=Wc (f:=fun x:List Nat×Nat=>x.1.length) h
structure jN where
 b:Nat
 v:Value
 bs:List Nat
 safe:Nat
def jN.er (f:jN):List Nat×Nat:=(f.bs,f.safe)
def Gt:World→XS→Value→jN→Prop:=fun _ _ v f=>v=ptr f.b 0
theorem jQ:qk Gt:=fun _ _ _ _ _ _ h _=>h
def apart (x y:ByteArray×jN):Prop:=x.2.b≠y.2.b∧ ∀g,x.2.v.ownBlock=some g→y.2.v.ownBlock≠some g
structure km (w:World) (F:XS) (db mb:Nat) (l:List (ByteArray×jN)) (m:DM) (z:Nat):Prop where
 fs:m.fs=l.map fun x=>(x.1,x.2.er)
 box:bq w F db [.map (some mb),I z,I m.wr,I m.ar,B m.dn] 97
 map:ik w F nX mb dt Gt l
 row: ∀x∈l,bq w F x.2.b [x.2.v,I x.2.safe] 281
 ow: ∀x∈l,Ow w F 5 1 x.2.v (x.2.bs.map U1)
 ap:l.Pairwise apart
 ar:m.ar<2^63
 safe: ∀x∈l,x.2.safe≤x.2.bs.length
def Dk (w:World) (F:XS) (db:Nat) (m:DM):Prop:= ∃mb l,km w F db mb l m m.sz∧m.sz≤4194304
section
variable {w w' : World} {F F' X X' G A : XS} {db mb z z' : Nat} {l : List (ByteArray × jN)} {m m' : DM} {n : ByteArray} {f : jN}
theorem km.mv (h:km w F db mb l m z) (v:Mv F w F' w'):km w' F' db mb l m z:=
 ⟨h.fs,h.box.mv v,h.map.mv jQ v (fun _ h=>h.elim),fun x hx=>(h.row x hx).mv v,fun x hx=>(h.ow x hx).mv v,h.ap,h.ar,h.safe⟩
theorem Dk.mv (h:Dk w F db m) (v:Mv F w F' w'):Dk w' F' db m:=let⟨mb,l,h,hz⟩:=h;⟨mb,l,h.mv v,hz⟩
theorem Dk.mono (h:Dk w F db m) (hs: ∀k,F k→F' k):Dk w F' db m:=h.mv (Mv.sub hs)
theorem km.get (h:km w F db mb l m z) (n:ByteArray):m.get n=(getM n l).map jN.er:=by
 unfold DM.get;rw [h.fs];exact VY jN.er n l
theorem km.nodup (h:km w F db mb l m z):(l.map (·.1)).Nodup:=h.map.nodup
theorem km.len (h:km w F db mb l m z):m.fs.length=l.length:=by rw [h.fs,bm]
theorem km.abj (h:km w F db mb l m z) (hX: ∀k,F k→X k) (c:fb (· =db) X w X' w') (hr:bq w' X' db [.map (some mb),I z',I m'.wr,I m'.ar,B m'.dn] 97) (zo:m'.fs=m.fs) (Xt:m'.ar<2^63):km w' F db mb l m' z':=by
 have mv: ∀{A:XS},(∀k,A k→F k∧k≠db)→Mv A w F w':=fun hA k hk _=>⟨(hA k hk).1,c.block k (hX k (hA k hk).1) (hA k hk).2⟩;refine⟨zo.trans h.fs,⟨h.box.1,hr.2⟩,?_,fun x hx=>?_,fun x hx=>?_,h.ap,Xt,h.safe⟩
 ·exact h.map.own.mv jQ (mv fun k hk=>by subst hk;exact⟨h.map.x.1,h.map.dX h.box⟩) fun _ h=>h.elim
 ·exact(h.row x hx).own.mv (mv fun k hk=>by subst hk;exact⟨(h.row x hx).1,(h.row x hx).dX h.box kQ⟩)
 ·exact(h.ow x hx).tight.mv (mv fun k hk=>⟨((h.ow x hx).bN hk).1,fun e=>(h.ow x hx).dX h.box kQ (e▸hk)⟩)
theorem ach {α:Type} {R:α→α→Prop} (hs: ∀a b,R a b→R b a) {l:List α} (h:l.Pairwise R) {x y:α} (hx:x∈l) (hy:y∈l) (dO:x≠y):R x y:=by
 induction l with
 |nil=>cases hx
 |cons a l ih=>
  have h':=List.pairwise_cons.1 h;rcases List.mem_cons.1 hx with e1|h1
  ·rcases List.mem_cons.1 hy with e2|h2
   ·exact absurd (e1.trans e2.symm) dO
   ·rw [e1];exact h'.1 y h2
  ·rcases List.mem_cons.1 hy with e2|h2
   ·rw [e2];exact hs _ _ (h'.1 x h1)
   ·exact ih h'.2 h1 h2
theorem Bq: ∀a b:ByteArray×jN,apart a b→apart b a:=fun a b h=>⟨Ne.symm h.1,fun g hg qi=>h.2 g qi hg⟩
theorem km.FO (h:km w F db mb l m z) (hn:getM n l=some f) {y:ByteArray×jN} (hy:y∈l) (dO:y.1≠n):apart (n,f) y:=
 ach Bq h.ap (mT hn) hy fun e=>dO (by rw [←e])
theorem jH.ids {A:XS} : ∀{es:List (iI ByteArray)} {l l':List (ByteArray×jN)},jH w A Gt es l→l'.map (fun x=>(x.1,x.2.b))=l.map (fun x=>(x.1,x.2.b))→jH w A Gt es l'
 |[],[],[],_,_=>trivial
 |[],[],_::_,_,h=>by cases h
 |e::es,x::l,[],_,h=>by cases h
 |e::es,x::l,y::l',⟨h1,h2,h3⟩,h=>by
  simp only [bz,List.cons.injEq,Prod.mk.injEq] at h;exact⟨h1.trans h.1.1.symm,by unfold Gt at h2⊢;rw [h2,h.1.2],jH.ids h3 h.2⟩
 |[],_::_,_,h,_=>h.elim
 |_::_,[],_,h,_=>h.elim
theorem km.jd (h:km w F db mb l m z) (hX: ∀k,F k→X k∧k<w.heap.size) (c:fb G X w X' w') (hn:getM n l=some f) (hG: ∀k,G k→k=f.b∨f.v.ownBlock=some k) (Po: ∀k,F k→F' k)
  {v':Value} {Pp:List Nat} {s':Nat} (hr:bq w' F' f.b [v',I s'] 281) (ho:Ow w' F' 5 1 v' (Pp.map U1)) (fe:v'.ownBlock=f.v.ownBlock∨ ∃g,v'.ownBlock=some g∧w.heap.size≤g) (hs:s'≤Pp.length):
  km w' F' db mb (fQ n ⟨f.b,v',Pp,s'⟩ l) (m.put n Pp s') z:=by
 have hf:=mT hn;have rf:=h.row _ hf;have of:=h.ow _ hf;have mv: ∀{A:XS},(∀k,A k→F k∧k≠f.b∧f.v.ownBlock≠some k)→Mv A w F' w':=fun hA k hk _=>by
  obtain⟨a1,a2,a3⟩:=hA k hk;exact⟨Po k a1,c.block k (hX k a1).1 fun hg=>(hG k hg).elim a2 a3⟩
 refine⟨?_,?_,?_,fun x hx=>?_,fun x hx=>?_,?_,h.ar,fun x hx=>?_⟩
 ·show fQ n (Pp,s') m.fs=_
  rw [h.fs,Pk jN.er];rfl
 ·exact h.box.own.mv (mv fun k hk=>by subst hk;exact⟨h.box.1,(rf.dX h.box kQ).symm,of.dX h.box kQ⟩)
 ·obtain⟨es,c',h1,h2⟩:=h.map.own.mv jQ (mv fun k hk=>by subst hk;exact⟨h.map.x.1,h.map.dX rf,h.map.VO of⟩) (A':=nX) fun _ h=>h.elim;refine⟨es,c',h1,jH.ids h2 (V9 jN.b n ⟨f.b,v',Pp,s'⟩ (fun x hx e=>?_) (by rw [hn];rfl))⟩;have:getM n l=some x.2:=FZ h.nodup (by rw [←e];exact hx);rw [hn] at this;rw [←fZ this]
 ·rcases rJ h.nodup hx with rfl|⟨hx,dO⟩
  ·exact hr
  ·have ha:=h.FO hn hx dO;exact(h.row x hx).own.mv (mv fun k hk=>by subst hk;exact⟨(h.row x hx).1,ha.1.symm,of.dX (h.row x hx) kQ⟩)
 ·rcases rJ h.nodup hx with rfl|⟨hx,dO⟩
  ·exact ho
  ·have ha:=h.FO hn hx dO;exact(h.ow x hx).tight.mv (mv fun k hk=>⟨((h.ow x hx).bN hk).1,fun e=>(h.ow x hx).dX rf kQ (e▸hk),fun e=>ha.2 k e hk⟩)
 ·refine KY h.nodup h.ap fun y hy dO=>?_;have ha:=h.FO hn hy dO;have key:apart (n,⟨f.b,v',Pp,s'⟩) y:=⟨ha.1,fun g hg qi=>by
   rcases fe with e|⟨g',e,ec⟩
   ·exact ha.2 g (e▸hg) qi
   ·have:=(hX g ((h.ow y hy).bN qi).1).2;have:g'=g:=by
     have e2:v'.ownBlock=some g:=hg;rw [e] at e2;exact fZ e2
    omega⟩
  exact⟨key,Bq _ _ key⟩
 ·rcases rJ h.nodup hx with rfl|⟨hx,dO⟩
  ·exact hs
  ·exact h.safe x hx
theorem km.new (h:km w F db mb l m z) (hX: ∀k,F k→X k∧k<w.heap.size) (c:fb G X w X' w') (hn:getM n l=none) (hG: ∀k,G k→k=mb) (Po: ∀k,F k→F' k) {b:Nat} (hb:w.heap.size≤b)
  (hm:ik w' F' nX mb dt Gt (fQ n ⟨b,.slice none 0 0,[],0⟩ l)) (hr:bq w' F' b [.slice none 0 0,I (0:Nat)] 281):
  km w' F' db mb (fQ n ⟨b,.slice none 0 0,[],0⟩ l) (m.put n [] 0) z:=by
 have mv: ∀{A:XS},(∀k,A k→F k∧k≠mb)→Mv A w F' w':=fun hA k hk _=>by
  obtain⟨a1,a2⟩:=hA k hk;exact⟨Po k a1,c.block k (hX k a1).1 fun hg=>a2 (hG k hg)⟩
 refine⟨?_,?_,hm,fun x hx=>?_,fun x hx=>?_,?_,h.ar,fun x hx=>?_⟩
 ·show fQ n ([],0) m.fs=_
  rw [h.fs,Pk jN.er];rfl
 ·exact h.box.own.mv (mv fun k hk=>by subst hk;exact⟨h.box.1,(h.map.dX h.box).symm⟩)
 ·rcases rJ h.nodup hx with rfl|⟨hx,dO⟩
  ·exact hr
  ·exact(h.row x hx).own.mv (mv fun k hk=>by subst hk;exact⟨(h.row x hx).1,(h.map.dX (h.row x hx)).symm⟩)
 ·rcases rJ h.nodup hx with rfl|⟨hx,dO⟩
  ·exact Ow.nil _ _ _ _
  ·exact(h.ow x hx).tight.mv (mv fun k hk=>⟨((h.ow x hx).bN hk).1,fun e=>h.map.VO (h.ow x hx) (e▸hk)⟩)
 ·refine KY h.nodup h.ap fun y hy dO=>?_;have key:apart (n,⟨b,.slice none 0 0,[],0⟩) y:=⟨fun e=>by
   have:=(hX _ (h.row y hy).1).2;have e':b=y.2.b:=e;omega,fun g hg=>by cases hg⟩
  exact⟨key,Bq _ _ key⟩
 ·rcases rJ h.nodup hx with rfl|⟨hx,dO⟩
  ·exact Nat.le_refl _
  ·exact h.safe x hx
theorem km.less (h:km w F db mb l m z) (hX: ∀k,F k→X k) (c:fb (· =mb) X w X' w') (hm:ik w' X' nX mb dt Gt (Dz n l)):km w' F db mb (Dz n l) (m.del n) z:=by
 have mv: ∀{A:XS},(∀k,A k→F k∧k≠mb)→Mv A w F w':=fun hA k hk _=>⟨(hA k hk).1,c.block k (hX k (hA k hk).1) (hA k hk).2⟩;have ko: ∀x∈Dz n l,x∈l:=fun x hx=>(List.mem_filter.1 hx).1;refine⟨?_,?_,?_,fun x hx=>?_,fun x hx=>?_,h.ap.filter _,h.ar,fun x hx=>h.safe x (ko x hx)⟩
 ·show Dz n m.fs=_
  rw [h.fs,VZ jN.er]
 ·exact h.box.own.mv (mv fun k hk=>by subst hk;exact⟨h.box.1,(h.map.dX h.box).symm⟩)
 ·obtain⟨es,c',h1,h2⟩:=hm;exact⟨es,c',⟨h.map.x.1,h1.2⟩,h2⟩
 ·exact(h.row x (ko x hx)).own.mv (mv fun k hk=>by subst hk;exact⟨(h.row x (ko x hx)).1,(h.map.dX (h.row x (ko x hx))).symm⟩)
 ·exact(h.ow x (ko x hx)).tight.mv (mv fun k hk=>⟨((h.ow x (ko x hx)).bN hk).1,fun e=>h.map.VO (h.ow x (ko x hx)) (e▸hk)⟩)
end
def FX (F X:XS) (w:World):Prop:= ∀k,F k→X k∧k<w.heap.size
theorem FX.kp {F X:XS} {w wa:World} (h:FX F X w) (hk:Kp X w wa):FX F (aS wa) wa:=fun k ae=>⟨aA (h k ae).2 hk.size,aA (h k ae).2 hk.size⟩
theorem FX.mv {F X:XS} {w wa:World} (h:FX F X w) (hk:Kp X w wa):Mv F w F wa:=fun k ae _=>⟨ae,hk.block k (h k ae).1⟩
theorem FX.ft {F X:XS} {w wa:World} (h:FX F X w) (hk:Kp X w wa):Ft wa F wa (aS wa) F:=Ft.init fun k ae=>(h.kp hk k ae).1
theorem _root_.Go.aX.Ft.fx {w0 w:World} {F0 F G X:XS} (h:Ft w0 F0 w X F) (hG: ∀k,G k→F k):FX G X w:=fun k hk=>⟨h.bN k (hG k hk),h.s.has k (h.bN k (hG k hk))⟩
end Go.Proofs.YteomdhcbhmaiaaaGreat
