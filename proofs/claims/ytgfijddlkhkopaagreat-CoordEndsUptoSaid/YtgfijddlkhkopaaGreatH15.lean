/-
 Part 15 of the proof: what the last text leans on.
-/
import Derived.Test.YtgfijddlkhkopaaGreatProg
import Derived.Recover
import Derived.KernelRfl
import Derived.Tactics
import Derived.Shelf.Abstract
import Derived.Test.YtgfijddlkhkopaaGreatH14
open List renaming mem_singleton → aw, length_map → ai, length_append → aa, length_drop → bO, mem_of_getElem? → aB, map_append → aJ, append_nil → gI, append_assoc → ak, drop_drop → ik, map_cons → bD, length_take → aI, mem_of_mem_drop → dd, getElem?_take_of_lt → fM, map_drop → qS, drop_left' → kc, map_take → ub, getElem?_eq_getElem → aU, map_map → bB, map_id → wZ, mem_cons_of_mem → bQ, length_cons → aM, getElem?_map → cX, map_congr_left → ey, cons_append → j8, nil_append → cx, take_of_length_le → ax, dropLast_concat → jN, length → az, take_left' → ic, flatten_cons → cW, mem_of_mem_take → dL, getElem?_drop → gp, cons_lt_cons_iff → xa, append_left_lt → yK, pairwise_map → Ao, extract_eq_take_drop → tV, mem_append_left → bJ
open Nat renaming le_refl → aq, le_trans → ad, zero_le → au, pow_succ → rY, pow_le_pow_right → rZ, mul_one → AX, min_eq_left → kI, lt_of_lt_of_le → av, mod_eq_of_lt → gN, lt_of_not_le → AY, min_le_right → AZ
open UInt8 renaming ofNat → ot, toNat_ofNat' → yL
open BitVec renaming ofInt → aF, ofInt_natCast → xG, toNat_ofNat → iK
open Option.some renaming inj → bW, injEq → ah
open Go.Instr renaming sliceAt → bG, alloc → fY
open Bool renaming false_ne_true → pD
open Option renaming isSome_some → tP, map_some → aX
open ByteArray renaming size_extract → qD, ext → Eb, data_extract → vW
open Array renaming replicate → cZ, toList_extract → xH
namespace Go.Proofs.YtgfijddlkhkopaaGreat
open Go.Proofs.Tryz renaming prog → pg
open Go.aG
set_option maxRecDepth 100000
set_option maxHeartbeats 4000000
set_option linter.unusedVariables false
set_option linter.unusedSimpArgs false
theorem aaO:Idle pg 132:=by
 refine⟨by kernel_rfl,λez w=>?_⟩;refine callsD_of_wpS Tryz.func132 rfl λc₀ cs hu=>?_;rw[Tryz.ntmps132];have gd:12<=(ez++cZ (12-ez.size) undef).size:=by simp;omega
 generalize ez++cZ (12-ez.size) undef=tm at gd;have h2:2<tm.size:=by omega
 have h5:5<tm.size:=by omega
 have h7:7<tm.size:=by omega
 apply wpS_seq;apply wpS_region;simp[wpOpsS,go_sem,recoverD,hu,Exit.thenS];refine wpS_of_wp (wp_block ?_);apply wp_seq;apply wp_region;simp[wpOps,go_sem,Exit.then,h2,h5,h7];refine .inl (wp_cond_true ?_ ?_)
 ·simp[Act.eval,h2,h5,h7]
 apply wp_region;simp[wpOps,go_sem,Exit.then,Exit.inBlock,h2,h5,h7];refine .inl ?_;cases c₀;simp_all [bodyPostS,results,Tryz.results132]
set_option maxRecDepth 100000
set_option maxHeartbeats 1000000
set_option linter.unusedVariables false
set_option linter.unusedSimpArgs false
attribute [local irreducible] un jn jq ji ld1 je st1 oS mO pj me pH HR D4 gT pI aZ nO nQ eW eV eU eC eF gE mE fin iM bq de vS KZ HS HT HU HV HW K0 K3 K4 K5 EW EX HX HY HZ K6 K7 K8
variable {bs : List Nat} {X : XS} {w : World}
theorem XI {a b:Value} (ha:Sl w X 1 a (bs.map U1)) (hb:Sl w X 1 b (bs.map U1)) (cj:bs≠[]):Ct pg 137 #[a,b] w X nX λv _ _=>v=B true:=by
 intro w0 hk;replace ha:=ha.mv hk.cu;replace hb:=hb.mv hk.cu;have apO:bs.map U1≠[]:=λe=>cj (by simpa using e);have key: ∀{w X a},Sl w X 1 a (bs.map U1)-> ∃g o cap,a= .slice (some ⟨g,o,none⟩) bs.length cap/\Cells w X g o (bs.map λx:Nat=>Value.int .u8 x):=λh=>by
  obtain⟨_,_,base,cap,rfl,hc,_⟩:=h;obtain⟨g,o,rfl,jD⟩:=hc apO;rw[afo] at jD;exact⟨g,o,cap,by grind,jD⟩
 obtain⟨g1,o1,c1,rfl,Da⟩:=key ha;obtain⟨g2,o2,c2,rfl,nW⟩:=key hb;refine Sz.1 λhs=>?_;refine SA (e:=5) rfl Da kQ kQ kQ hs.has λw1 X1 aC=>?_;replace hs:=hs.trans aC;refine SA (e:=5) rfl (nW.mv aC.mv) kQ kQ kQ hs.has λw2 X2 bm=>?_;replace hs:=hs.trans bm;repeat' first|refine ao ?_;intros|refine dq ?_ ?_<;>intros
 ·exact cG hs λwa aL=>rfl
 ·exact absurd rfl zQ
theorem ac2:Tryz.f79.results= #[.cell 2 73,.cell 3 37]:=by kernel_rfl
variable {e : Int} {cs : List Value} {eb xb : Nat}
theorem Lz {tmps:Array Value} (h1:tmps[2]? =some (ptr xb 0)) (h2:tmps[3]? =some (ptr eb 0)) (hx:aK w X xb cs 73) (hl:cs.length=29) (he:aK w X eb [I e] 37):
  (results Tryz.f79 tmps).run pg w= .ok (.tuple #[.agg cs.toArray,I e]) w:=by
 have l1:(loadVar 73 ⟨xb,0,none⟩).run pg w= .ok (.agg cs.toArray) w:=by
  have hq:(match pg.underlying 73 with|some (.struct _)=>true|_=>false)=true:=by kernel_rfl
  split at hq
  ·rename_i fs hu;refine run_loadVar_row w xb _ _ cs.toArray (0,0) _ hx.2 hu rfl ?_;rw[List.size_toArray,hl];kernel_rfl
  ·cases hq
 have l2:(loadVar 37 ⟨eb,0,none⟩).run pg w= .ok (I e) w:=by
  have hc:w.cell? ⟨eb,0,none⟩=some (I e):=by unfold World.cell?;rw[he.2];rfl
  have WI:(isAgg 37).run pg w= .ok false w:=run_isAgg_plain (d:=.int .i64) kQ rfl w;simp[loadVar,WI,run_load,hc]
 unfold results;rw[ac2];simp[h1,h2,asAddr,l1,l2]
variable {R : Ending -> World -> Prop}
theorem Vi (hx:aK w X xb cs 73) (hl:cs.length=29) (he:aK w X eb [I e] 37) (hR:R (.returned (.tuple #[.agg cs.toArray,I e])) w):
  Ih pg Tryz.f79 R [ptr xb 0,ptr eb 0,.func (.func 132) #[] #[ptr xb 0,ptr eb 0]] .returning w:=by
 refine⟨[ptr xb 0,ptr eb 0],132,#[ptr xb 0,ptr eb 0],rfl,by kernel_rfl,?_⟩;refine(aaO.2 _ w).mono ?_;rintro e' u' w' ⟨⟨x,rfl⟩,rfl,rfl⟩;refine⟨x,_,rfl,rfl,λtmps ht=>Lz (ht 0 2 ?_) (ht 1 3 ?_) hx hl he,hR⟩
 ·rfl
 rfl
variable {N : Value -> World -> XS -> Prop} {t : TypeId} {P : Program}
theorem ahw {m:Bool} (hX: ∀k,X k->k<w.heap.size) (hz:(P.info? t).bind (·.zero)=some (I 0))
  (n: ∀b w' X',w.heap.size<=b->aj X w X' w'->aK w' X' b [I 0] t->N (ptr b 0) w' X'):eV P R X w m (fY t true (.tuple #[])) N:=by
 unfold eV eW;intro wa hk;unfold jV;have XJ: ∀w,(zeroValue t).run P w= .ok (I 0) w:=by
  intro w;cases hi:P.info? t with
  |none=>grind
  |some inf=>
   have xt:inf.zero=some (I 0):=by simpa [hi] using hz
   simp[zeroValue,typeInfo,hi,xt]
 have hr:(fY t true (.tuple #[])).run P wa= .ok (ptr wa.heap.size 0) (wa.alloc (.cells #[I 0] t)):=by simp[fY,XJ,newVar,newRow,Value.cells]
 simp only[vS,Sem.run_bind,hr,Result.andThen_ok,Sem.run_pure];have hx:Ext wa (wa.alloc (.cells #[I 0] t)):=Ext.alloc _ _;exact⟨Step.fc hx,n _ _ _ hk.size (aj.fc hX hk hx) ⟨.inr ⟨aq _,by simp⟩,by simpa using heap_alloc_new wa _⟩⟩
variable {a c k : Nat}
section
variable {N : Value -> Prop}
theorem XK {z:Int} (hz:z=k) (hk:k<=24) (hc:c<256) (h:N (.int .u32 ((c*2^k:Nat):Int))):aZ P X w (binOp .shl t (.int .u32 (IntKind.u32.wrap (c:Int))) (.int .u64 z)) N:=
 Sg zQ (by
  have h1:min z.toNat IntKind.u32.bits=k:=by
   show min z.toNat 32=k
   omega
  have h2:c*2^k<4294967296:=by
   have h3:2^k<=2^24:=rZ dQ hk;have h4:c*2^k<=255*2^24:=Nat.mul_le_mul zQ h3;omega
  have e:IntKind.u32.wrap (IntKind.u32.wrap (c:Int)*2^min z.toNat IntKind.u32.bits)=((c*2^k:Nat):Int):=by
   rw[h1,wrap32,wrap32,show(c:Int) % 4294967296=c by omega];have h5:(c:Int)*2^k=((c*2^k:Nat):Int):=by simp
   rw[h5];omega
  rw[e];exact h)
theorem ac3 (hk:k<=24) (ha:a<2^k) (hc:c<256) (h:N (.int .u32 ((a+c*2^k:Nat):Int))):aZ P X w (binOp .or t (.int .u32 (a:Int)) (.int .u32 ((c*2^k:Nat):Int))) N:=
 QO (by
  have h3:2^k<=2^24:=rZ dQ hk;have h4:c*2^k<=255*2^24:=Nat.mul_le_mul zQ h3;have e:IntKind.u32.wrap (aF IntKind.u32.bits (a:Int)|||aF IntKind.u32.bits ((c*2^k:Nat):Int)).toNat=((a+c*2^k:Nat):Int):=by
   rw[wrap32];have h1:(aF 32 (a:Int))=BitVec.ofNat 32 a:=by rw[xG]
   have h2:(aF 32 ((c*2^k:Nat):Int))=BitVec.ofNat 32 (c*2^k):=by rw[xG]
   show((aF 32 (a:Int)|||aF 32 ((c*2^k:Nat):Int)).toNat:Int) % 4294967296=_
   rw[h1,h2,BitVec.toNat_or,iK,iK,gN (by omega:a<2^32),gN (by omega:c*2^k<2^32),afm ha];omega
  rw[e];exact h)
end
theorem abE: ∃g:List Nat->Nat,∀l,g l=l[0]?.getD 0+l[1]?.getD 0*2^8+l[2]?.getD 0*2^16+l[3]?.getD 0*2^24:=⟨_,λ_=>rfl⟩
noncomputable def iT:List Nat->Nat:=Classical.choose abE
theorem Ii (l:List Nat):iT l=l[0]?.getD 0+l[1]?.getD 0*2^8+l[2]?.getD 0*2^16+l[3]?.getD 0*2^24:=Classical.choose_spec abE l
theorem I2 (n:Nat) (h:n<4294967296) (l:List Nat):iT (uA n++l)=n:=by
 rw[Ii];unfold uA;simp;omega
theorem Hg {vb:Value} {l:List Nat} (h:Sl w X 1 vb (l.map U1)) (h4:4<=l.length) (cC: ∀b∈l,b<256):Ct pg 253 #[vb] w X nX λv wa w'=>v= .int .u32 (iT l):=by
 intro w0 hk;replace h:=h.mv hk.cu;have hlen:=h.ib;obtain⟨b0,b1,b2,b3,r,rfl⟩: ∃b0 b1 b2 b3 r,l=b0::b1::b2::b3::r:=by
  match l,h4 with
  |b0::b1::b2::b3::r,_=>exact⟨_,_,_,_,_,rfl⟩
 have x0:(b0::b1::b2::b3::r)[0]? =some b0:=rfl;have x1:(b0::b1::b2::b3::r)[1]? =some b1:=rfl;have x2:(b0::b1::b2::b3::r)[2]? =some b2:=rfl;have x3:(b0::b1::b2::b3::r)[3]? =some b3:=rfl;have y0:=cC b0 sQ;have y1:=cC b1 sQ;have y2:=cC b2 sQ;have y3:=cC b3 sQ;refine XM.1 λhs=>?_;have w8:IntKind.u32.wrap (b0:Int)=b0:=by rw[wrap32];omega
 repeat' first|refine ao ?_;intros|(with_reducible refine XK (k:=8) rfl zQ y1 ?_)
 rw[w8];refine ac3 (k:=8) zQ zQ y1 ?_;repeat' first|refine ao ?_;intros|(with_reducible refine XK (k:=16) rfl zQ y2 ?_)
 refine ac3 (k:=16) zQ zQ y2 ?_;repeat' first|refine ao ?_;intros|(with_reducible refine XK (k:=24) rfl zQ y3 ?_)
 refine ac3 (k:=24) zQ zQ y3 ?_
 skip
 exact cG hs λwa aL=>by rw[Ii];rfl
noncomputable def mw (b:List Nat):Option (List Nat):=
 if b.length<12\/262144<iT b\/iT (b.drop 4)≠De (b.take 4)\/b.length-12<iT b then none
 else if iT (b.drop (8+iT b))≠De ((b.drop 8).take (iT b))then none
 else some ((b.drop 8).take (iT b))
variable {b p : List Nat}
theorem QR (h:mw b=some p):p.length+12<=b.length:=by
 unfold mw at h;split at h
 ·cases h
 ·rename_i h1;simp only[not_or,Nat.not_lt] at h1;split at h
  ·cases h
  grind
theorem aaP (h: ¬(b.length<12\/262144<iT b\/iT (b.drop 4)≠De (b.take 4)\/b.length-12<iT b)) (h2:iT (b.drop (8+iT b))=De ((b.drop 8).take (iT b))):mw b=some ((b.drop 8).take (iT b)):=by
 unfold mw
 grind
theorem xI (h:b.length<12\/262144<iT b\/iT (b.drop 4)≠De (b.take 4)\/b.length-12<iT b):mw b=none:=by
 unfold mw
 grind
theorem ac4 (h2:iT (b.drop (8+iT b))≠De ((b.drop 8).take (iT b))):mw b=none:=by
 unfold mw
 grind
noncomputable def jl (b:List Nat):List (List Nat)×Nat:=
 match h:mw b with
 |none=>([],0)
 |some p=>let r:=jl (b.drop (p.length+12));(p::r.1,p.length+12+r.2)
termination_by b.length
decreasing_by
 have:=QR h
 grind
theorem afr {l:List Nat} (hp:p.length<=262144):mw (dt p++l)=some p:=by
 have e1:iT (dt p++l)=p.length:=by
  unfold dt;simp only[ak];exact I2 _ zQ _
 have e2:(dt p++l).drop 4=uA (De (uA p.length))++(p++(uA (De p)++l)):=by
  unfold dt;simp only[ak];exact kc (Nk _)
 have e3:(dt p++l).take 4=uA p.length:=by
  unfold dt;simp only[ak];exact ic (Nk _)
 have e4:(dt p++l).drop 8=p++(uA (De p)++l):=by
  rw[show 8=4+4 from rfl,<-ik,e2];exact kc (Nk _)
 have hlen:(dt p++l).length=p.length+12+l.length:=by rw[aa,rn]
 unfold mw;rw[e1,e2,e3,hlen,I2 _ (afs _),if_neg oQ,<-ik,e4,List.drop_left,I2 _ (afs _),List.take_left,if_neg sQ]
theorem ac5 {l:List Nat} (hp:p.length<=262144):jl (dt p++l)=(p::(jl l).1,p.length+12+(jl l).2):=by
 have h:=afr (l:=l) hp;have hd:(dt p++l).drop (p.length+12)=l:=kc (rn p);rw[jl]
 grind
theorem LA: ∀(ps:List (List Nat)) (l:List Nat),(∀p∈ps,p.length<=262144)->jl ((ps.map dt).flatten++l)=(ps++(jl l).1,(ps.map dt).flatten.length+(jl l).2)
 |[],l,_=>by simp
 |p::ps,l,h=>by
  rw[bD,cW,ak,ac5 (h p sQ),LA ps l λq hq=>h q (bQ _ hq),aa,rn]
  grind
theorem Ep {l:List Nat} (h:mw l=none):jl l=([],0):=by grind [jl]
theorem aaQ {l:List Nat} (h:l.length<12):jl l=([],0):=Ep (by unfold mw;grind)
variable {rows : List (List Value)} {i j : Nat}
theorem T9 {v:Value} {z z':Int} {N:Value->Prop} (h:Sl w X 1 v rows) (hz:z=i) (xt:z'=j) (yI:i<=j) (hj:j<=rows.length) (ht:P.underlying t=some (.slice (P.elem t))) (hs:(P.info? (P.elem t)).map (·.size)=some 1)
  (n: ∀v',Sl w X 1 v' ((rows.drop i).take (j-i))->N v'):aZ P X w (bG t v (some (.int .i64 z)) (some (.int .i64 z')) none) N:=by
 subst hz;subst xt;obtain⟨h1,h2,base,cap,rfl,hc,hb,hlc,iF⟩:=h;have hq: ∃inf,P.info? (P.elem t)=some inf/\inf.size=1:=by
  cases hq:P.info? (P.elem t)with
  |none=>simp[hq] at hs
  |some inf=>exact⟨inf,rfl,by simpa [hq] using hs⟩
 obtain⟨inf,hq,gd⟩:=hq;have hll:((rows.drop i).take (j-i)).length=j-i:=by rw[aI,bO];omega
 have nD: ∀wa:World,(bG t (.slice base rows.length cap) (some (.int .i64 (i:Int))) (some (.int .i64 (j:Int))) none).run P wa= .ok (sliced base i j cap 1) wa:=λwa=>by
  rw[run_sliceAt_slice wa t _ _ _ _ ht,run_slice_lh wa t _ _ cap ht .i64 .i64 i j zQ zQ zQ];simp[sizeOf,typeInfo,hq,gd]
 refine bA nD (n _ ?_);refine⟨λr hr=>h1 r (dd (dL hr)),by omega,_,cap-i,by unfold sliced;rw[hll],λcj=>?_,λvT=>?_,by omega,by omega⟩
 ·have mQ:i<j:=by
   refine AY λhle=>cj ?_;have:j-i=0:=by omega
   rw[this];simp
  obtain⟨b,o,rfl,jD⟩:=hc (by intro e;rw[e] at hj;simp at hj;omega);refine⟨b,o+i,?_,?_⟩
  ·rw[if_neg zQ];simp only[aX,ah,AX];unfold Addr.add;split
   ·rename_i h0;rw[h0];rfl
   ·rfl
  ·have hr: ∀r∈rows.drop i,r.length=1:=λr hr=>h1 r (dd hr);rw[aG.mi (j-i) hr,aG.C9 i h1,AX,AX];obtain⟨hx,c,ty,fr,dU,uP⟩:=jD;refine⟨hx,c,ty,fr,dU,λq u hu=>?_⟩;have hq:=(List.getElem?_eq_some_iff.1 hu).1;rw[aI] at hq;rw[fM zQ,gp] at hu;have:=uP _ _ hu
   rwa [<-Nat.add_assoc] at this
 ·split at vT
  ·have:=hb vT;omega
  ·have:base=none:=by simpa using vT
   have:=hb this;omega
theorem Ph {v:Value} {z:Int} {N:Value->Prop} (h:Sl w X k v rows) (hz:z=i) (hi:i<=rows.length) (ht:P.underlying t=some (.slice (P.elem t))) (hs:(P.info? (P.elem t)).map (·.size)=some k)
  (n: ∀v',Sl w X k v' (rows.drop i)->N v'):aZ P X w (bG t v (some (.int .i64 z)) none none) N:=by
 subst hz;obtain⟨h1,h2,base,cap,rfl,hc,hb,hlc,iF⟩:=h;have hq: ∃inf,P.info? (P.elem t)=some inf/\inf.size=k:=by
  cases hq:P.info? (P.elem t)with
  |none=>simp[hq] at hs
  |some inf=>exact⟨inf,rfl,by simpa [hq] using hs⟩
 obtain⟨inf,hq,gd⟩:=hq;have nD: ∀wa:World,(bG t (.slice base rows.length cap) (some (.int .i64 (i:Int))) none none).run P wa= .ok (sliced base i rows.length cap k) wa:=λwa=>by
  rw[run_sliceAt_slice wa t _ _ _ _ ht,run_slice_l wa t _ _ cap ht .i64 i zQ zQ];simp[sizeOf,typeInfo,hq,gd]
 refine bA nD (n _ ?_);refine⟨λr hr=>h1 r (dd hr),by rw[bO];omega,_,cap-i,by unfold sliced;rw[bO],λcj=>?_,λvT=>?_,by rw[bO];omega,by omega⟩
 ·have mQ:i<rows.length:=by
   refine AY λhle=>cj (List.drop_of_length_le hle)
  obtain⟨b,o,rfl,jD⟩:=hc (by intro e;rw[e] at mQ;simp at mQ);refine⟨b,o+i*k,?_,?_⟩
  ·rw[if_neg zQ];simp only[aX,ah];unfold Addr.add;split
   ·rename_i h0;rw[h0];rfl
   ·rfl
  ·rw[aG.C9 i h1];obtain⟨hx,c,ty,fr,dU,uP⟩:=jD;exact⟨hx,c,ty,fr,dU,λj v hj=>by rw[gp] at hj;have:=uP _ _ hj;rwa [<-Nat.add_assoc] at this⟩
 ·split at vT
  ·have:=hb vT;omega
  ·have:base=none:=by simpa using vT
   have:=hb this;omega
theorem ajZ {l:List Nat} (h: ∀b∈l,b<256):iT l<4294967296:=by
 have g: ∀i:Nat,l[i]?.getD 0<256:=λi=>by
  cases hq:l[i]? with
  |none=>simp
  |some x=>simpa using h x (aB hq)
 have:=g 0;have:=g 1;have:=g 2;have:=g 3;rw[Ii];omega
theorem alA (l:List Nat):U4 (LB l)= .int .u32 ((De l:Nat):Int):=by rw[QS]
theorem QT {q:List Nat} (h:mw b=some q):jl b=(q::(jl (b.drop (q.length+12))).1,q.length+12+(jl (b.drop (q.length+12))).2):=by
 rw[jl];split
 ·rename_i h2;rw[h] at h2;cases h2
 ·rename_i q' h2;rw[h] at h2;cases h2;rfl
theorem XN {v0:Value} (h:Sl w X 1 v0 (bs.map U1)) (hb:bs.length<=2^30) (cC: ∀b∈bs,b<256):
  Ct pg 180 #[v0] w X nX λv wa w'=> ∃va,∃rs:List (Value×List Nat),v= .tuple #[va,I ((jl bs).2:Nat)]/\rs.map Prod.snd=(jl bs).1/\Own w' (made wa w') wa.heap.size 151 1 va (rs.map λr=>[r.1])/\
   ∀r∈rs,Own w' (made wa w') wa.heap.size 5 1 r.1 (r.2.map U1):=by
 intro w0 hk;replace h:=h.mv hk.cu;obtain⟨lb,ln,lc,rfl⟩:=h.form;refine Vj.1 λhs=>?_;refine gY (Q:=λK=> ∀va w X,∀rs:List (Value×List Nat),aj (bV w0) w0 X w->rs.map Prod.snd=(jl bs).1->Own w X w0.heap.size 151 1 va (rs.map λr=>[r.1])->(∀r∈rs,Own w X w0.heap.size 5 1 r.1 (r.2.map U1))->K va (I ((jl bs).2:Nat)) w X) ?_ λK hK=>?_
 ·intro va w1 X1 rs aC he ho hr;exact cG aC λwa aL=>⟨va,rs,rfl,he,(ho.kp aL).tight,λr h=>((hr r h).kp aL).tight⟩
 ·refine gM (λm a b w X=> ∃(p:Nat) (rs:List (Value×List Nat)),a=I p/\m=bs.length-p/\p<=bs.length/\aj (bV w0) w0 X w/\jl bs=(rs.map Prod.snd++(jl (bs.drop p)).1,p+(jl (bs.drop p)).2)/\Own w X w0.heap.size 151 1 b (rs.map λr=>[r.1])/\(∀r∈rs,Own w X w0.heap.size 5 1 r.1 (r.2.map U1))/\rs.length<=p) bs.length ⟨0,[],rfl,rfl,au _,hs,by simp,Own.nil _ _ _ _ _,by simp,aq _⟩ ?_;clear hs;rintro m a acc w1 X1 ⟨p,rs,rfl,rfl,hp,hs,Ua,ho,hr,rG⟩;have nV:=h.mv hs.mv;have QU:mw (bs.drop p)=none-> ∀w X,aj X1 w1 X w->K acc (I p) w X:=λhn w X Ak=>by
   rw[Ep hn] at Ua;have:=hK acc w X rs (hs.trans Ak) (by rw[Ua];simp) (ho.since Ak) λr h=>(hr r h).since Ak;rw[Ua] at this;exact this
  by_cases xJ:bs.length-p<12
  ·repeat' refine aN ?_;intros
   exact QU (xI (.inl (by rw[bO];exact xJ))) _ _ (aj.fT hs.has)
  ·repeat' refine aN ?_;intros
   refine Ph nV rfl (by rw[ai];exact hp) kQ kQ λv1 lq=>?_;rw[<-qS] at lq;have zi: ∀b∈bs.drop p,b<256:=λb hb=>cC b (dd hb);have AG:(bs.drop p).length=bs.length-p:=bO;refine eT (Hg lq zQ zi) kQ hs.has λw2 X2 bm=>?_;replace hs:=hs.trans bm;have lv:=ho.since bm;have jI: ∀r∈rs,Own w2 X2 w0.heap.size 5 1 r.1 (r.2.map U1):=λr h=>(hr r h).since bm;have hg4:iT (bs.drop p)<4294967296:=ajZ zi;have hwn:IntKind.i64.wrap ((iT (bs.drop p):Nat):Int)=(iT (bs.drop p):Nat):=V4 zQ;repeat' first|refine ao ?_;intros|refine dq ?_ ?_<;>intros
   ·repeat' first|refine ao ?_;intros|with_reducible apply cK
    exact QU (xI (.inr (.inl zQ))) _ _ bm
   ·have ac7:=h.mv hs.mv;refine Ph ac7 (i:=p+4) zQ (by rw[ai];omega) kQ kQ λv2 rT=>?_;rw[<-qS] at rT;repeat' refine ao ?_;intros
    refine T9 ac7 (i:=p) (j:=p+4) rfl zQ zQ (by rw[ai];omega) kQ kQ λv3 Ia=>?_;rw[<-qS,<-ub] at Ia;refine gY (Q:=λK=> ∀w X,aj X2 w2 X w->K (.int .u32 ((iT (bs.drop (p+4)):Nat):Int)) w X) ?_ λK1 hK1=>?_
    ·intro w3 X3 cV;refine gY (Q:=λK=> ∀w X,aj X2 w2 X w->K (.int .u32 ((De ((bs.drop p).take (p+4-p)):Nat):Int)) w X) ?_ λK2 hK2=>?_
     ·intro w4 X4 fR;have alB:=ac7.mv fR.mv;have e4:(bs.drop p).drop 4=bs.drop (p+4):=ik;have e5:p+4-p=4:=by omega
      rw[e5];repeat' first|refine ao ?_;intros|refine dq ?_ ?_<;>intros
      ·rename_i cj;exact QU (xI (.inr (.inr (.inl (by rw[e4];omega))))) _ _ (bm.trans fR)
      ·rename_i heq QV;exact QU (xI (.inr (.inr (.inr (by rw[AG];omega))))) _ _ (bm.trans fR)
      ·rename_i P9 heq QV;rw[hwn] at QV P9⊢;have ajf:((bs.drop (p+8)).take (iT (bs.drop p))).length=iT (bs.drop p):=by
        have h8:iT (bs.drop p)<=bs.length-(p+8):=by omega
        rw[aI,bO];exact kI h8
       refine T9 alB (i:=p+8) (j:=p+8+iT (bs.drop p)) zQ zQ zQ (by rw[ai];omega) kQ kQ λv5 hv5=>?_;rw[<-qS,<-ub,show p+8+iT (bs.drop p)-(p+8)=iT (bs.drop p)by omega] at hv5;repeat' refine ao ?_;intros
       refine Ph alB (i:=p+8+iT (bs.drop p)) zQ (by rw[ai];omega) kQ kQ λv6 hv6=>?_;rw[<-qS] at hv6;refine eT (Hg hv6 (by rw[bO];omega) λb hb=>cC b (dd hb)) kQ fR.has λw5 X5 tg=>?_;refine eT (CK (hv5.mv tg.mv)) kQ tg.has λw6 X6 rF=>?_;rw[alA];have e8:(bs.drop p).drop 8=bs.drop (p+8):=ik;have e9:(bs.drop p).drop (8+iT (bs.drop p))=bs.drop (p+8+iT (bs.drop p)):=by rw[ik];congr 1;omega
       have XO:=(fR.trans tg).trans rF;have gy: ¬((bs.drop p).length<12\/262144<iT (bs.drop p)\/iT ((bs.drop p).drop 4)≠De ((bs.drop p).take 4)\/(bs.drop p).length-12<iT (bs.drop p)):=by
        rw[e4,AG];omega
       have py:=hs.trans XO;have ho6:=lv.since XO;have A1: ∀r∈rs,Own w6 X6 w0.heap.size 5 1 r.1 (r.2.map U1):=λr h=>(jI r h).since XO;have ac8:=hv5.mv (tg.trans rF).mv;clear hs;have hs:=py;clear lv jI ho hr;repeat' first|refine ao ?_;intros|refine dq ?_ ?_<;>intros|(with_reducible apply acY);(case hX=>exact hs.has);(case hu=>kernel_rfl);(case hz=>kernel_rfl);intro acc w X aC ho;replace hs:=hs.trans aC
       ·rename_i cj;exact QU (ac4 (by rw[e9,e8];omega)) _ _ (bm.trans XO)
       ·rename_i apP;have Df:=aaP gy (by rw[e9,e8];omega);rw[e8] at Df;clear apP gy heq;have alC:=ajf;obtain⟨pl,xD⟩: ∃pl,(bs.drop (p+8)).take (iT (bs.drop p))=pl:=⟨_,rfl⟩;rw[xD] at Df ac8 alC;clear xD ajf;refine qQ ho aC XO.has kQ (ac8.mv aC.mv) (λr hr u hu=>?_) oQ oQ λv8 w8 X8 lr AK hc8 XP=>?_
        ·obtain⟨x,_,rfl⟩:=List.mem_map.1 hr;simp at hu;subst hu;rfl
        have Ak:=py.trans lr;have Ij:=ho6.since lr;refine Nl Ij Ak (λ_ h=>h) kQ rfl AK.sl.one oQ oQ λva9 w9 X9 ac9 TO hc9 arY=>?_;have OD: ∀{v:Value} {rows:List (List Value)},Own w8 X8 w0.heap.size 5 1 v rows->Own w9 X9 w0.heap.size 5 1 v rows:=λhv=>hv.eo hc9 λg hg dU=>by
         obtain⟨c1,e1⟩:=hv.ow.tag hg;obtain⟨c2,e2⟩:=Ij.ow.tag dU;rw[e1] at e2;simp at e2
        clear hs;have hs:=ac9;repeat' refine ao ?_;intros
        refine fK (bs.length-(p+(iT (bs.drop p)+12))) zQ ⟨p+(iT (bs.drop p)+12),rs++[(v8,pl)],by simp,rfl,by omega,ac9,?_,?_,λr hr=>?_,?_⟩
        ·rw[QT Df,alC,ik] at Ua;rw[Ua];simp;omega
        ·rw[aJ];exact TO
        ·rcases List.mem_append.1 hr with hr|hr
         ·exact OD ((A1 r hr).since lr)
         ·simp only[aw] at hr;subst hr;exact OD (AK.low (by have:=py.kp.size;omega))
        ·simp;omega
     ·repeat' refine ao ?_;intros
      refine eT (CK (Ia.mv cV.mv)) kQ cV.has λw4 X4 fR=>?_;rw[alA];exact hK2 _ _ (cV.trans fR)
    ·repeat' refine ao ?_;intros
     refine eT (Hg rT (by rw[bO];omega) λb hb=>cC b (dd hb)) kQ hs.has λw3 X3 cV=>?_;exact hK1 _ _ cV
def DM.bytes (m:DM) (n:ByteArray):List Nat:=((m.get n).map (·.1)).getD []
variable {n : ByteArray} {db : Nat} {F : XS}
theorem Hh {m:DM} (h:Dk w F db m) (hF:FX F X w):
  Ct pg 179 #[ptr db 0,.string n] w X nX λv wa w'=> ∃vb,v= .tuple #[vb,I (if(m.get n).isSome then 0 else 8)]/\Own w' (made wa w') wa.heap.size 5 1 vb ((m.bytes n).map U1):=by
 intro w0 hk;obtain⟨mb,l,h0,hz⟩:=h.mv (hF.mv hk);have hX:=λk af=>(hF.kp hk k af).1;have hb:=h0.box.mv (Mv.sub hX);have hg:=h0.get n;have hm:=h0.map.mv my (Mv.sub hX) (A':=nX) λ_ h=>h.elim;refine NK.1 λhs=>?_;repeat' refine ao ?_;intros
 refine tr hm (λf h1=>?_) λh1=>?_
 ·have hr:=(h0.row _ (gK h1)).mv (Mv.sub hX);have ac8:=((h0.ow _ (gK h1)).mono hX).sl;have mN:m.get n=some (f.bs,f.safe):=by rw[hg,h1];rfl
  have hle:=DM.Cn mN;have wR:m.bytes n=f.bs:=by unfold DM.bytes;rw[mN];rfl
  rw[wR,mN];repeat' first|refine ao ?_;intros|(refine QW hs ?_;intro acc w X hs ho)
  refine qQ ho hs (λ_ h=>h) kQ (ac8.mv hs.mv) (λr hr u hu=>?_) oQ oQ λv8 w8 X8 lr AK hc8 XP=>?_
  ·obtain⟨x,_,rfl⟩:=List.mem_map.1 hr;simp at hu;subst hu;rfl
  exact cG lr λwa aL=>⟨v8,rfl,(AK.kp aL).tight⟩
 ·have mN:m.get n=none:=by rw[hg,h1];rfl
  have wR:m.bytes n=[]:=by unfold DM.bytes;rw[mN];rfl
  rw[wR,mN];repeat' refine ao ?_;intros
  exact cG hs λwa aL=>⟨_,rfl,Own.nil _ _ _ _ _⟩
def DM.DO (n:ByteArray) (k:Nat) (m:DM):DM:=match m.get n with
 |none=>m
 |some x=>m.put n (x.1.take k) (min x.2 k)
def DM.Pj (m:DM) (n:ByteArray) (k:Int):Nat:=if(m.get n).isSome then(if k<0\/(m.bytes n).length<k then 1 else 0)else 8
def DM.cut (m:DM) (n:ByteArray) (k:Int):DM×Nat:=m.write (m.Pj n k) (DM.DO n k.toNat)
theorem DM.abF {m:DM} {s s':Nat} (h:m.get n=some (b,s)) (hk:k<=b.length):(m.put n (b.take k) s').sz+(b.length-k)=m.sz:=by
 have:=DM.LC (bs:=b.take k) (s':=s') h;rw[aI] at this;omega
variable {X' : XS} {w' : World}
theorem oF.cut {mb z s':Nat} {l:List (ByteArray×nB)} {m:DM} {f:nB} {v':Value} (h:oF w F db mb l m z) (hX:FX F X w) (hn:getM n l=some f) (c:eh (· =f.b) X w X' w')
  (hv:Ow w F 5 1 v' ((f.bs.take i).map U1)) (hb:v'.ownBlock=f.v.ownBlock) (hr:aK w' X' f.b [v',I s'] 153) (hs:s'<=(f.bs.take i).length):
  oF w' F db mb (cI n ⟨f.b,v',f.bs.take i,s'⟩ l) (m.put n (f.bs.take i) s') z:=by
 have bo:=h.row _ (gK hn);refine h.jY hX c hn (λk hk=>.inl hk) (λ_ h=>h) ⟨bo.1,hr.2⟩ ?_ (.inl hb) hs;refine hv.tight.mv λk hk hl=>⟨(hv.br hk).1,c.block k (hX k (hv.br hk).1).1 λe=>?_⟩;have e:k=f.b:=e;subst e;exact hv.eP bo kQ hk
theorem aaR {bd bn bk:Nat} {m:DM} (h:Dk w F db m) (hF:FX F X w) (hd:aK w X bd [ptr db 0] 25) (hn:aK w X bn [.string n] 9) (sI:aK w X bk [I k] 3)
 {s:Nat} (hg:m.get n=some (b,s)) (mP:k<=b.length):
    Ct pg 259 #[ptr bd 0,ptr bn 0,ptr bk 0] w X F λv wa w'=>v= .tuple #[]/\ ∃F',(∀k,F' k->F k\/made wa w' k)/\Dk w' F' db (DM.DO n k m):=by
  intro w0 hk;obtain⟨mb,l,h0,hz⟩:=h.mv (hF.mv hk);have hT:=hF.ft hk;replace hd:=hd.mv hk.cu;replace hn:=hn.mv hk.cu;replace sI:=sI.mv hk.cu;have gq:=h0.box.mv (Mv.sub hT.br);have hs:=aj.init w0;have qg:=h0.get n;have hm:=h0.map.mv my (Mv.sub hT.br) (A':=nX) λ_ h=>h.elim;refine Ki.1 λ_=>?_;repeat' refine ao ?_;intros
  refine tr hm (λf h1=>?_) λh1=>?_
  · have hgf:(b,s)=(f.bs,f.safe):=by rw[h1,hg] at qg;exact bW qg
    obtain⟨rfl,rfl⟩:=Prod.mk.inj hgf;have hr:aK w0 (bV w0) f.b [f.v,I f.safe] 153:=(h0.row _ (gK h1)).mv (Mv.sub hT.br);have ho:Ow w0 F 5 1 f.v (f.bs.map U1):=h0.ow _ (gK h1);have wV:=ho.sl.mono hT.br;have gd:=DM.abF (s':=min f.safe k) hg mP;have hle:=DM.Cn hg;repeat' refine ao ?_;intros
    refine xK hT h0 (λ_ h=>h) m (m.put n (f.bs.take k) (min f.safe k)).sz (o:=1) zQ kQ zQ rfl (by rw[show(((m.put n (f.bs.take k) (min f.safe k)).sz:Nat):Int)=(m.sz:Int)-((f.bs.length:Int)-(k:Int))by omega];rfl) rfl h0.ar λw4 X4 fJ h4 c4=>?_;have zk:aK w4 X4 f.b [f.v,I f.safe] 153:=(h4.row _ (gK h1)).mv (Mv.sub fJ.br);have Gz:Ow w4 F 5 1 f.v (f.bs.map U1):=h4.ow _ (gK h1);have Ol:=sI.eo c4 λe=>aK.eP sI gq kQ e;clear hr ho wV gq hs sI;repeat' refine ao ?_;intros
    refine XQ (i:=k) (Gz.mono fJ.br) zQ zQ (by rw[ai];exact mP) kQ kQ λv' hv hvb=>?_;rw[<-ub] at hv;have hvF:Ow w4 F 5 1 v' ((f.bs.take k).map U1):=hv.tight.mono λq hq=>(Gz.br (by rw[<-hvb];exact hq)).1;repeat' refine ao ?_;intros
    refine qj (o:=0) zk zQ kQ sQ hv.one fJ.s.has λw5 X5 c5 Dg=>?_;replace Dg:aK w5 X5 f.b [v',I f.safe] 153:=Dg;have Dh:=Ol.eo c5 λe=>aK.eP Ol zk kQ e;have hll:(f.bs.take k).length=k:=by rw[aI];exact kI mP
    clear Ol;repeat' refine ao ?_;intros
    rw[show min (f.safe:Int) (k:Int)=((min f.safe k:Nat):Int)by omega];refine qj (o:=1) Dg zQ kQ sQ rfl c5.has λw6 X6 c6 A1=>?_;replace A1:aK w6 X6 f.b [v',I ((min f.safe k:Nat):Int)] 153:=A1;have cc:=c5.trans c6;have hFf:F f.b:=(h4.row _ (gK h1)).1;have h6:=h4.cut (s':=min f.safe k) (fJ.fx λ_ h=>h) h1 cc hvF hvb A1 (by rw[hll];exact AZ _ _);have kj:=fJ.eo (F':=F) cc (λq e=>by rw[show q=f.b from e];exact hFf) λq hq=>.inl hq;refine kj.fin λwa aL=>⟨rfl,F,kj.jC aL λ_ h=>h,?_⟩;have e:DM.DO n k m=m.put n (f.bs.take k) (min f.safe k):=by unfold DM.DO;rw[hg]
    rw[e];exact⟨mb,_,h6.mv (aL.jf kj.br),by omega⟩
  · rw[h1,hg] at qg;cases qg
theorem ada {m:DM} (h:Dk w F db m) (hF:FX F X w) (JU:k<2^62):
  Ct pg 182 #[ptr db 0,.string n,I k] w X F λv wa w'=>v=I (m.cut n k).2/\ ∃F',(∀k,F' k->F k\/made wa w' k)/\Dk w' F' db (m.cut n k).1:=by
 intro w0 hk;replace h:=h.mv (hF.mv hk);have hT:=hF.ft hk;have oG:FX F (bV w0) w0:=hF.kp hk;clear hF;refine Pk.1 λ_=>?_;refine uu rfl hT.s.has λbd w1 X1 qd aC jE=>?_;refine uu rfl aC.has λbn w2 X2 hbn bm Ub=>?_;refine uu rfl bm.has λbk w3 X3 hbk cV hrk=>?_;have ahx:=(aC.trans bm).trans cV;have dS:=hT.since ahx;have zT:=(jE.since bm).since cV;have DP:=Ub.since cV;have h3:Dk w3 F db m:=h.mv (ahx.gU λk af=>(oG k af).1);have hs:=aj.fT cV.has;repeat' refine ao ?_;intros
 refine eT (QX h3 (dS.fx λ_ h=>h)) kQ hs.has λw4 X4 fR=>?_;have fJ:=dS.since fR;have h4:Dk w4 F db m:=h3.mv (fR.gU dS.br);have LF:=zT.since fR;have adb:=DP.since fR;have ade:=hrk.since fR;have q1:=aC.kp.size;have q2:=bm.kp.size;clear hs zT DP hrk jE Ub h3 dS;refine gY (Q:=λK=> ∀e:Nat,m.Pj n k=e->K (I e)) ?_ λK hK=>?_
 ·intro e he;have em:m.cut n k=m.write e (DM.DO n k):=by rw[<-he];rfl
  repeat' refine ao ?_;intros
  rw[em];refine fJ.call (Fk (A:=λk=>k=bd\/k=bn\/k=bk) (g:=DM.DO n k) h4 (fJ.fx λ_ h=>h) (λk af=>?_) kQ ?_) kQ (λ_ h=>h) λv Ox w5 X5 hq IX Fe iN Fg=>?_
  ·rcases af with rfl|rfl|rfl
   ·exact⟨LF.1,LF.lt,λhf=>by have:=(oG _ hf).2;omega⟩
   ·exact⟨adb.1,adb.lt,λhf=>by have:=(oG _ hf).2;omega⟩
   ·exact⟨ade.1,ade.lt,λhf=>by have:=(oG _ hf).2;omega⟩
  ·intro AS w6 X6 hm6 hx6 hF6 h6;subst AS;unfold DM.Pj at he;cases mN:m.get n with
   |none=>rw[mN] at he;simp at he
   |some x=>
    obtain⟨b,s⟩:=x;have WJ:m.bytes n=b:=by unfold DM.bytes;rw[mN];rfl
    rw[mN,WJ] at he;simp only[tP,if_true] at he;have mP:k<=b.length:=by
     refine Nat.le_of_not_lt λhn=>?_;rw[if_pos (.inr zQ)] at he;cases he
    refine aaR h6 hF6 ⟨hx6 _ (.inl rfl),?_⟩ ⟨hx6 _ (.inr (.inl rfl)),?_⟩ ⟨hx6 _ (.inr (.inr rfl)),?_⟩ (by rw[m.qG];exact mN) mP
    ·rw[(hm6 bd (.inl rfl) (LF.lt)).2];exact LF.2
    ·rw[(hm6 bn (.inr (.inl rfl)) (adb.lt)).2];exact adb.2
    ·rw[(hm6 bk (.inr (.inr rfl)) (ade.lt)).2];exact ade.2
  ·obtain⟨rfl,F',Di,hD⟩:=hq
   skip
   exact iN.fin λFl aL=>⟨rfl,F',iN.jC aL Di,hD.mv (aL.jf λk af=>iN.br k (Di k af))⟩
 ·obtain⟨mb,l,h0,hz⟩:=id h4;have gq:=h0.box.mv (Mv.sub fJ.br);have hm:=h0.map.mv my (Mv.sub fJ.br) (A':=nX) λ_ h=>h.elim;have qg:=h0.get n;repeat' first|refine ao ?_;intros|refine dq ?_ ?_<;>intros
  ·exfalso;omega
  ·refine tr hm (λf h1=>?_) λh1=>?_
   ·have mN:m.get n=some (f.bs,f.safe):=by rw[qg,h1];rfl
    have WJ:m.bytes n=f.bs:=by unfold DM.bytes;rw[mN];rfl
    have hr:aK w4 X4 f.b [f.v,I f.safe] 153:=(h0.row _ (gK h1)).mv (Mv.sub fJ.br);have ho:Sl w4 X4 1 f.v (f.bs.map U1):=(h0.ow _ (gK h1)).sl.mono fJ.br;repeat' first|refine ao ?_;intros|refine dq ?_ ?_<;>intros
    ·exact hK 1 (by unfold DM.Pj;rw[mN,WJ];simp only[tP,if_true];rw[if_pos (.inr zQ)])
    ·rw[mN];exact hK 0 (by unfold DM.Pj;rw[mN,WJ];simp only[tP,if_true];rw[if_neg zQ])
   ·have mN:m.get n=none:=by rw[qg,h1];rfl
    simp[mN] at*
  ·have mN:(m.get n).isSome=false:=by
    cases hq:(m.get n).isSome with
    |false=>rfl
    |true=>simp_all
   rw[mN];exact hK 8 (by unfold DM.Pj;rw[mN];rfl)
def DM.uB (cH:List Int) (x:DM×Nat) (n:ByteArray):DM×Nat:=match x.1.get n with
 |none=>x
 |some (bs,s)=>if bs.length=s then x else
  let k:=match cH[x.2]? with
   |some p=>if 0<=p then p.toNat % (bs.length-s+1)else 0
   |none=>0
  (x.1.put n (bs.take (s+k)) (s+k),x.2+1)
def DM.mI (m:DM) (cH:List Int):DM:= { ((fL (m.fs.map (·.1))).foldl (DM.uB cH) (m,0)).1 with ar:=0,dn:=false }
theorem DM.aj0 {m:DM} {k:ByteArray} {s:Nat} (h:(m.get k).isSome=true):((m.put n b s).get k).isSome=true:=by
 unfold DM.get DM.put at*;dsimp only;by_cases e:k=n
 ·subst e;rw[kD];rfl
 ·rw[od e];exact h
variable {cH : List Int}
theorem DM.ahy {x:DM×Nat} {k:ByteArray} (h:(x.1.get k).isSome=true):((DM.uB cH x n).1.get k).isSome=true:=by
 unfold DM.uB;split
 ·exact h
 ·split
  ·exact h
  ·exact DM.aj0 h
variable {vq : Value}
theorem XR {S:XS} {m:DM} (h:Dk w F db m) (hF:FX F X w) (hq:Sl w S 1 vq (cH.map I1)) (hS: ∀k,S k->X k/\ ¬F k) (hn: ∀x∈m.fs,x.1.size<=2^40) (hl:m.fs.length<=2^40):
  Ct pg 38 #[ptr db 0,vq] w X F λv wa w'=>v= .tuple #[]/\Dk w' F db (m.mI cH):=by
 intro w0 hk;obtain⟨mb,l,h0,hz⟩:=h.mv (hF.mv hk);have hT:=hF.ft hk;have oG:FX F (bV w0) w0:=hF.kp hk;have hq0:Sl w0 (out F w0) 1 vq (cH.map I1):=hq.mv λk af AU=>⟨⟨av AU hk.size,(hS k af).2⟩,hk.block k (hS k af).1⟩;obtain⟨qb,qn,qc,rfl⟩:=hq0.form;refine LG.1 λ_=>?_;refine cA (OE ⟨mb,l,h0,hz⟩ (hT.fx λ_ h=>h) hn hl) kQ hT.s.has ?_;rintro vl D8 w1 X1 hol qz nY aC;have ej:=hT.since aC;have h1:=h0.mv (aC.gU hT.br);have nI:Sl w1 (λk=>X1 k/\ ¬F k) 1 vl ((fL (m.fs.map (·.1))).map S1):=hol.sl.mono λk af=>⟨nY k af,λhf=>by have:=(oG k hf).2;have:=af.1;omega⟩;have zn: ∀n∈fL (m.fs.map (·.1)),(m.get n).isSome=true:=λn hn=>by
  have:=(kP (m.fs.map (·.1))).mem_iff.1 hn;cases hg:m.get n with
  |some x=>rfl
  |none=>exact absurd this (getM_none.1 hg)
 have hB:aj (λk=>X1 k/\ ¬F k) w1 X1 w1:=⟨Kp.refl _ _,λk h=>h.1,ej.s.has⟩;have OC:m.mI cH= { ((fL (m.fs.map (·.1))).foldl (DM.uB cH) (m,0)).1 with ar:=0,dn:=false } :=rfl;generalize XT:fL (m.fs.map (·.1))=ns at nI zn OC;have hnl:=nI.ib;obtain⟨lb,ln,lc,rfl⟩:=nI.form;repeat' refine ao ?_;intros
 refine gM (λm' a b w X=> ∃(j:Nat) (l:List (ByteArray×nB)) (x:DM×Nat),a=I j/\b=I x.2/\m'=ns.length-j/\j<=ns.length/\x.2<=j/\x=(ns.take j).foldl (DM.uB cH) (m,0)/\Ft w0 F w X F/\oF w F db mb l x.1 x.1.sz/\x.1.sz<=4194304/\(∀n∈ns,(x.1.get n).isSome=true)/\aj (λk=>X1 k/\ ¬F k) w1 X w) ns.length
  ⟨0,l,(m,0),rfl,rfl,rfl,au _,aq _,rfl,ej,h1,hz,zn,hB⟩ ?_
 clear ej h1 hB hT h0 hz;rintro m' a b w X ⟨j,l,x,rfl,rfl,rfl,hj,hxj,hx,hT,h0,hz,zn,hB⟩;have hb:=h0.box.mv (Mv.sub hT.br);have apE:=nI.mv hB.mv;have hq':=hq0.mv hT.s.mv;have hm:=h0.map.mv my (Mv.sub hT.br) (A':=nX) λ_ h=>h.elim;rcases dG ns j with⟨cC,n,l9,hd⟩|⟨dH,hd⟩
 ·have mN:=zn n (aB l9);have qg:=h0.get n;have QY:(ns.take (j+1)).foldl (DM.uB cH) (m,0)=DM.uB cH x n:=by rw[List.take_add_one,l9,List.foldl_append,<-hx];rfl
  repeat' refine aN ?_;intros
  refine gY (Q:=λK=> ∀(x':DM×Nat) w X l,x'=DM.uB cH x n->Ft w0 F w X F->oF w F db mb l x'.1 x'.1.sz->x'.1.sz<=4194304->x'.2<=j+1->aj (λk=>X1 k/\ ¬F k) w1 X w->K (I x'.2) w X) ?_ λK hK=>?_
  ·intro x' w X l AO hT h0 hz hxj hB;repeat' refine ao ?_;intros
   exact fK (ns.length-(j+1)) zQ ⟨j+1,l,x',by simp,rfl,rfl,by omega,hxj,by rw[QY];exact AO,hT,h0,hz,λk af=>by rw[AO];exact DM.ahy (zn k af),hB⟩
  ·repeat' refine ao ?_;intros
   refine tr hm (λf hf=>?_) λhf=>?_
   ·have XU:x.1.get n=some (f.bs,f.safe):=by rw[qg,hf];rfl
    have hr:aK w X f.b [f.v,I f.safe] 153:=(h0.row _ (gK hf)).mv (Mv.sub hT.br);have ho:Ow w F 5 1 f.v (f.bs.map U1):=h0.ow _ (gK hf);have wV:=ho.sl.mono hT.br;have hsf:f.safe<=f.bs.length:=h0.safe _ (gK hf);have hle:=DM.Cn XU;have htr:DM.uB cH x n=if f.bs.length=f.safe then x else(x.1.put n (f.bs.take (f.safe+(match cH[x.2]? with|some p=>if 0<=p then p.toNat % (f.bs.length-f.safe+1)else 0|none=>0))) (f.safe+(match cH[x.2]? with|some p=>if 0<=p then p.toNat % (f.bs.length-f.safe+1)else 0|none=>0)),x.2+1):=by
     unfold DM.uB;rw[XU]
    repeat' first|refine ao ?_;intros|refine dq ?_ ?_<;>intros
    ·exact hK x _ _ l (by rw[htr,if_pos zQ]) hT h0 hz zQ hB
    ·rename_i gv;have apQ: ¬f.bs.length=f.safe:=by omega
     rw[if_neg apQ] at htr;generalize mh:(match cH[x.2]? with|some p=>if 0<=p then p.toNat % (f.bs.length-f.safe+1)else 0|none=>0)=k at htr;have tf:f.safe+k<=f.bs.length:=by
      rw[<-mh];split
      ·split
       ·rename_i q _ _;have:=Nat.mod_lt q.toNat (show 0<f.bs.length-f.safe+1 by omega);generalize q.toNat % (f.bs.length-f.safe+1)=u at this;omega
       ·omega
      ·omega
     have gd:=DM.abF (s':=f.safe+k) XU tf;refine gY (Q:=λK1=>K1 (I (k:Nat))) ?_ λK1 hK1=>?_
     ·repeat' refine ao ?_;intros
      have apR:F db:=h0.box.1;refine xK hT h0 (λ_ h=>h) x.1 (x.1.put n (f.bs.take (f.safe+k)) (f.safe+k)).sz (o:=1) zQ kQ zQ rfl (by rw[show(((x.1.put n (f.bs.take (f.safe+k)) (f.safe+k)).sz:Nat):Int)=(x.1.sz:Int)-((f.bs.length:Int)-(f.safe:Int)-(k:Int))by omega];rfl) rfl h0.ar λw4 X4 fJ h4 c4=>?_;have hB4:=hB.eo c4 λq hq e=>hq.2 (by rw[show q=db from e];exact apR);have zk:aK w4 X4 f.b [f.v,I f.safe] 153:=(h4.row _ (gK hf)).mv (Mv.sub fJ.br);have Gz:Ow w4 F 5 1 f.v (f.bs.map U1):=h4.ow _ (gK hf);clear hr ho wV hb;repeat' refine ao ?_;intros
      refine XQ (i:=f.safe+k) (Gz.mono fJ.br) zQ zQ (by rw[ai];exact tf) kQ kQ λv' hv hvb=>?_;rw[<-ub] at hv;have hvF:Ow w4 F 5 1 v' ((f.bs.take (f.safe+k)).map U1):=hv.tight.mono λq hq=>(Gz.br (by rw[<-hvb];exact hq)).1;repeat' refine ao ?_;intros
      refine qj (o:=0) zk zQ kQ sQ hv.one fJ.s.has λw5 X5 c5 Dg=>?_;replace Dg:aK w5 X5 f.b [v',I f.safe] 153:=Dg;have hv5:=(hv.eo c5 λq hq e=>hv.eP zk kQ (by rw[<-(show q=f.b from e)];exact hq)).sl;have hll:(f.bs.take (f.safe+k)).length=f.safe+k:=by rw[aI];exact kI tf
      repeat' refine ao ?_;intros
      rw[hll];refine qj (o:=1) Dg zQ kQ sQ rfl c5.has λw6 X6 c6 A1=>?_;replace A1:aK w6 X6 f.b [v',I ((f.safe+k:Nat):Int)] 153:=A1;have cc:=c5.trans c6;have hFf:F f.b:=(h4.row _ (gK hf)).1;have h6:=h4.cut (s':=f.safe+k) (fJ.fx λ_ h=>h) hf cc hvF hvb A1 (by rw[hll];exact aq _);refine hK (x.1.put n (f.bs.take (f.safe+k)) (f.safe+k),x.2+1) _ _ _ htr.symm (fJ.eo cc (λq e=>by rw[show q=f.b from e];exact hFf) λq hq=>.inl hq) h6 (by show(x.1.put n _ _).sz<=_;omega) (by show x.2+1<=_;omega) (hB4.eo cc λq hq e=>hq.2 (by rw[show q=f.b from e];exact hFf))
     ·repeat' first|refine ao ?_;intros|refine dq ?_ ?_<;>intros
      ·rename_i SB Fm;have XV:cH[x.2]? =some cH[x.2]:=aU zQ;rw[XV] at mh;dsimp only at mh;rw[if_pos zQ] at mh;have e1:cH[x.2]=((cH[x.2].toNat:Nat):Int):=by omega
       rw[e1,show(f.bs.length:Int)-(f.safe:Int)+1=((f.bs.length-f.safe+1:Nat):Int)by omega];refine afu zQ ?_;rw[mh];exact hK1
      ·rename_i SB Fm;have XV:cH[x.2]? =some cH[x.2]:=aU zQ;rw[XV] at mh;dsimp only at mh;rw[if_neg zQ] at mh;subst mh;exact hK1
      ·rename_i Fm;have XV:cH[x.2]? =none:=List.getElem?_eq_none zQ;rw[XV] at mh;subst mh;exact hK1
   ·rw[qg,hf] at mN;cases mN
 ·have mQ:j=ns.length:=by omega
  subst mQ;rw[List.take_length] at hx;rw[<-hx] at OC;repeat' refine aN ?_;intros
  refine xK hT h0 (λ_ h=>h) { x.1 with dn:=false } x.1.sz (o:=4) zQ kQ zQ rfl rfl rfl h0.ar λw4 X4 fJ h4 c4=>?_;have yH:=h4.box.mv (Mv.sub fJ.br);clear hb;repeat' refine ao ?_;intros
  refine xK fJ h4 (λ_ h=>h) { x.1 with ar:=0,dn:=false } x.1.sz (o:=3) zQ kQ zQ rfl rfl rfl (by show 0<2^63;decide) λw5 X5 iN h5 c5=>?_;refine iN.fin λwa aL=>⟨rfl,mb,l,?_,?_⟩
  ·rw[OC];exact h5.mv (aL.jf iN.br)
  ·rw[OC];exact hz
def DR:List Nat->Nat->Option Nat
 |[],n=>some n
 |c::l,n=>if c<48\/57<c then none else DR l (n*10+(c-48))
def r6 (dir name:ByteArray):Nat:=
 if name.size=dir.size+9/\name.extract 0 dir.size=dir/\name.data.toList[dir.size]? =some 46 then(DR (vD (name.extract (dir.size+1) name.size)) 0).getD 0 else 0
theorem abG: ∀(l:List Nat) (n k:Nat),n<10^k->(DR l n).getD 0<10^(k+l.length)
 |[],n,k,h=>by simpa [DR] using h
 |c::l,n,k,h=>by
  unfold DR;split
  ·simp;exact Nat.pow_pos dQ
  ·have:=abG l (n*10+(c-48)) (k+1) (by rw[rY];omega);rw[aM,show k+(l.length+1)=k+1+l.length by omega];exact this
theorem aj1 (dir name:ByteArray):r6 dir name<100000000:=by
 unfold r6;split
 ·rename_i h;have h1:=abG (vD (name.extract (dir.size+1) name.size)) 0 0 dQ;have h2:(vD (name.extract (dir.size+1) name.size)).length=8:=by rw[I3,qD];omega
  rw[h2] at h1;exact h1
 ·decide
theorem Uc (c:Nat) (l:List Nat) (n:Nat):DR (c::l) n=if c<48\/57<c then none else DR l (n*10+(c-48)):=rfl
variable {dir : ByteArray}
theorem XW {name:ByteArray} (hd:dir.size<=2^40) (hn:name.size<=2^41):Ct pg 126 #[.string dir,.string name] w X nX λv wa w'=>v=I (r6 dir name):=by
 intro w0 hk;refine Vk.1 λhs=>?_;have no: ¬(name.size=dir.size+9/\name.extract 0 dir.size=dir/\name.data.toList[dir.size]? =some 46)->r6 dir name=0:=λh=>by unfold r6;rw[if_neg h]
 by_cases h1:name.size=dir.size+9
 ·have hnl:name.data.toList.length=name.size:=(LH name).symm;obtain⟨c,hc⟩: ∃c,name.data.toList[dir.size]? =some c:=⟨_,aU zQ⟩;repeat' refine aN ?_;intros
  refine alD (i:=dir.size) rfl zQ kQ ?_;repeat' first|refine ao ?_;intros|refine dq ?_ ?_<;>intros
  ·exact cG hs λwa aL=>by rw[no (by simp_all)];rfl
  ·exact cG hs λwa aL=>by rw[no (by rintro⟨_,_,h⟩;rw[hc] at h;simp_all)];rfl
  ·refine alE (i:=dir.size+1) zQ zQ kQ ?_;refine afv (e:=5) hs.has (by rw[qD];omega) kQ kQ kQ λvb w1 X1 aC nV=>?_;have JR:(vD (name.extract (dir.size+1) name.size)).length=8:=by rw[I3,qD];omega
   have apT:c=46:=UInt8.toNat_inj.1 (by have:c.toNat=46:=(by omega);rw[this];rfl);have e1:r6 dir name=(DR (vD (name.extract (dir.size+1) name.size)) 0).getD 0:=by
    unfold r6;rw[if_pos ⟨h1,by assumption,by rw[hc,apT]⟩]
   rw[e1];have cC: ∀x∈vD (name.extract (dir.size+1) name.size),x<256:=λx hx=>aj2 hx;generalize vD (name.extract (dir.size+1) name.size)=bs at nV JR cC⊢;replace hs:=hs.trans aC;obtain⟨lb,ln,lc,rfl⟩:=nV.form;repeat' refine ao ?_;intros
   refine gM (λm a b w X=> ∃(i n:Nat),a=I i/\b=I n/\m=bs.length-i/\i<=bs.length/\n<10^i/\DR bs 0=DR (bs.drop i) n/\aj X1 w1 X w/\aj (bV w0) w0 X w) bs.length ⟨0,0,rfl,rfl,rfl,au _,by decide,rfl,aj.fT hs.has,hs⟩ ?_;clear hs;rintro m a b w X ⟨i,n,rfl,rfl,rfl,hi,hn,hf,bm,hs⟩;have ac7:=nV.mv bm.mv;rcases dG bs i with⟨SB,x,hx,KU⟩|⟨dH,KU⟩
   ·have arE:=cC x (aB hx);have hn8:n<10^8:=av hn (rZ dQ zQ);have arZ:n<100000000:=hn8;rw[KU,Uc] at hf;repeat' first|refine aN ?_;intros|refine dq ?_ ?_<;>intros
    ·rw[if_pos (.inl zQ)] at hf;exact cG hs λwa aL=>by rw[hf];rfl
    ·rw[if_pos (.inr zQ)] at hf;exact cG hs λwa aL=>by rw[hf];rfl
    ·rw[if_neg zQ] at hf;refine an8 zQ zQ ?_;refine abu ?_;rw[show IntKind.u8.wrap ((x:Int)-48)=((x-48:Nat):Int)by rw[Nj];omega];repeat' refine ao ?_;intros
     rw[V4 zQ];repeat' refine ao ?_;intros
     refine fK (bs.length-(i+1)) zQ ⟨i+1,n*10+(x-48),by simp,by simp,rfl,by omega,by rw[rY];omega,hf,bm,hs⟩
   ·have mQ:i=bs.length:=by omega
    subst mQ;rw[List.drop_length] at hf;repeat' refine aN ?_;intros
    exact cG hs λwa aL=>by rw[hf];rfl
 ·repeat' refine aN ?_;intros
  exact cG hs λwa aL=>by rw[no λh=>h1 h.1];rfl
def L0 (dir:ByteArray) (sz:Nat):LM:=⟨dir,sz,[],0⟩
theorem Ud: ∀(k:Nat) (b:List Nat),b.length<=k->(jl b).2<=b.length/\(jl b).1.length<=(jl b).2
 |0,b,h=>by rw[aaQ zQ];simp
 |k+1,b,h=>by
  cases hf:mw b with
  |none=>rw[Ep hf];simp
  |some q=>
   have h1:=QR hf;rw[QT hf];have h2:=Ud k (b.drop (q.length+12)) (by rw[bO];omega);rw[bO] at h2;simp only[aM];omega
def LD.GA (x:LD) (n:Nat):Bool:=decide (x.L.bu≠[]/\((x.m.bytes x.L.ff).length≠x.L.last.size\/n≠x.L.next))
noncomputable def LD.join (x:LD) (n:Nat) (nm:ByteArray):LD×Nat:=
 if x.GA n then(x,13)else(⟨{ x.L with bu:=x.L.bu++[⟨n,(jl (x.m.bytes nm)).1,(jl (x.m.bytes nm)).2⟩] },x.m⟩,0)
noncomputable def LD.pE:LD->List ByteArray->LD×Nat
 |x,[]=>(x,0)
 |x,nm::r=>if r6 x.L.dir nm=0 then x.pE r else if(x.join (r6 x.L.dir nm) nm).2≠0 then x.join (r6 x.L.dir nm) nm else(x.join (r6 x.L.dir nm) nm).1.pE r
def LD.Hi (x:LD):LD×Nat:=
 if x.L.last.size<(x.m.bytes x.L.ff).length then
  if(x.m.cut x.L.ff x.L.last.size).2≠0 then(⟨x.L,(x.m.cut x.L.ff x.L.last.size).1⟩,(x.m.cut x.L.ff x.L.last.size).2)else LD.sync ⟨x.L,(x.m.cut x.L.ff x.L.last.size).1⟩
 else x.sync
noncomputable def LD.B1 (dir:ByteArray) (room:Nat) (m:DM):LD×Nat:=
 if m.dn then(⟨L0 dir room,m⟩,12)else
  let q:=LD.pE ⟨L0 dir room,m⟩ (fL (m.fs.map (·.1)))
  if q.2≠0 then q else if q.1.L.bu=[] then q.1.iI 1 else q.1.Hi
theorem DM.LI {m:DM} (h:Dk w F db m) (n:ByteArray):(m.bytes n).length<=4194304:=by
 obtain⟨mb,l,h,hz⟩:=h;unfold DM.bytes;cases hg:m.get n with
 |none=>simp
 |some x=>have:=DM.Cn (b:=x.1) (s:=x.2) hg;simp;omega
variable {nm : ByteArray} {L : LM} {lb : Nat}
theorem adf {n:Nat} {m:DM} (h:Lg w F lb db L m) (nk:L.bu≠[]->pM L) (qh:L.dir.size<=11) (hn:n<=2^40) (nV:L.bu.length<=2^30) (GB: ∀b∈m.bytes nm,b<256) (hF:FX F X w):
  Ct pg 127 #[ptr lb 0,I n,.string nm] w X F λv wa w'=>v=I (LD.join ⟨L,m⟩ n nm).2/\ ∃F',(∀k,F' k->F k\/made wa w' k)/\Lg w' F' lb db (LD.join ⟨L,m⟩ n nm).1.L (LD.join ⟨L,m⟩ n nm).1.m:=by
 intro w0 hk;obtain⟨FL,FD,sv,bl,h⟩:=(h.mv (hF.mv hk)).lw;have hT:=hF.ft hk;have oG:FX F (bV w0) w0:=hF.kp hk;have hX:=λk af=>(oG k (h.hL k af)).1;have hb:=h.l.box.mv (Mv.sub hX);have GC:=h.l.so.sl.mono hX;have JR:bl.length=L.bu.length:=by rw[h.l.bu,ai]
 have ar0:=DM.LI h.d nm;have eJ:LD.join ⟨L,m⟩ n nm=if LD.GA ⟨L,m⟩ n then(⟨L,m⟩,13)else(⟨{ L with bu:=L.bu++[⟨n,(jl (m.bytes nm)).1,(jl (m.bytes nm)).2⟩] },m⟩,0):=rfl
 refine QZ.1 λhs=>?_;refine gY (Q:=λK=> ∀w1 X1,LD.GA ⟨L,m⟩ n=false->aj (bV w0) w0 X1 w1->K w1 X1) ?_ λK hK=>?_
 ·intro w1 X1 hj aC;rw[eJ,hj];have ej:=hT.since aC;have h1:=h.mv (aC.gU hT.br);have lD:=hb.since aC;clear hs hb GC;repeat' refine ao ?_;intros
  refine cA (Hh (n:=nm) h1.d (ej.fx h1.hD)) kQ ej.s.has ?_;rintro _ yE w2 X2 ⟨vb,rfl,yJ⟩ mq kW bm;have da:=ej.since bm;have h2:=h1.mv (bm.gU ej.br);repeat' refine ao ?_;intros
  refine cA (XN (yJ.sl.mono kW) zQ GB) kQ da.s.has ?_;rintro _ yF w3 X3 ⟨va,rs,rfl,hrs,Ij,hor⟩ qy mr cV;have dS:=da.since cV;have h3:=h2.mv (cV.gU da.br);have hX3: ∀k,FL k->X3 k:=λk af=>dS.br k (h3.hL k af);have rV:=(lD.since bm).since cV;have adg:=h3.l.so.mono hX3;have oa:=Ij.sl.one;obtain⟨ab,an,ac,rfl⟩:=Ij.sl.form;generalize gd:(jl (m.bytes nm)).2=sz;have Xn:=aC.kp.size;have JS:=bm.kp.size;have hz3:=cV.kp.size;repeat' refine ao ?_;intros
  refine AJ dS.s.has λbx w4 X4 gq fR bo=>?_;have Pm:=adg.mv fR.mv;refine XX (bytes:=8) (row:=[ptr bx 0]) Pm fR.has kQ rfl rfl rfl oQ oQ λFo w5 X5 c5 vX yX=>?_;have yH:=rV.since fR;have cj: ∀q,ga sv q->q≠lb:=λq hq e=>Pm.eP yH kQ (by rw[<-e];exact hq);have BY:aK w5 X5 lb [ptr db 0,.string L.dir,I L.room,sv,I L.safe] 231:=⟨c5.sub _ yH.1,by rw[c5.block _ yH.1 λhq=>cj _ hq rfl];exact yH.2⟩;clear lD rV;repeat' refine ao ?_;intros
  refine qj (o:=3) BY zQ kQ sQ vX.one c5.has λw6 X6 c6 A1=>?_;have Pn: ∀q,ga sv q->FL q:=λq hq=>(h3.l.so.br hq).1;have cc:eh (λk=>k=lb\/sv.ownBlock=some k) X3 w3 X6 w6:=((eh.oh fR _).trans (c5.mono λk _ af=>.inr af)).trans (c6.mono λk _ af=>.inl af);have kj:Ft w0 F w6 X6 (λk=>F k\/(X6 k/\w0.heap.size<=k)):=(dS.eo (F':=F) cc (λk af=>by
   rcases af with rfl|af
   ·exact h3.hL _ h3.l.box.1
   ·exact h3.hL _ (Pn _ af)) λk af=>.inl af).more λk af=>af
  have LJ: ∀g,Fo.ownBlock=some g->FL g\/(X6 g/\w0.heap.size<=g):=λg hg=>by
   rcases yX with e|⟨g',e,dH⟩
   ·exact .inl (Pn _ (e.symm.trans hg))
   ·rw[hg] at e;have:g=g':=bW e;subst this;exact .inr ⟨c6.sub _ (vX.br hg).1,by have:=fR.kp.size;omega⟩
  have ahz:Fo.ownBlock≠some lb:=vX.eP BY kQ;have adh:bx≠lb:=bo.eP yH kQ;have adi: ¬ga sv bx:=λhq=>Pm.eP bo kQ hq;have fresh: ∀{e:TypeId} {v:Value} {rows:List (List Value)},decide (e≠231)=true->decide (e≠239)=true->Own w3 (made yF w3) yF.heap.size e 1 v rows->Ow w6 (λk=>FL k\/(X6 k/\w0.heap.size<=k)) e 1 v rows:=λ{e v rows} he1 he2 ho=>by
   have QD:Ow w3 X3 e 1 v rows:=ho.ow.mono mr;refine ho.ow.tight.mv λk af hl=>⟨.inr ⟨cc.sub k (QD.br af).1,by have:=(ho.ow.br af).1.1;omega⟩,cc.block k (QD.br af).1 λhg=>?_⟩;rcases hg with rfl|hg
   ·exact QD.eP (h3.l.box.mv (Mv.sub hX3)) he1 af
   ·obtain⟨c1,e1⟩:=QD.tag af;obtain⟨c2,e2⟩:=adg.tag hg;rw[e1] at e2;simp only[ah,Obj.cells.injEq] at e2;exact of_decide_eq_true he2 e2.2.1
  have hL6:=h3.l.abH (B2:=λk=>FL k\/(X6 k/\w0.heap.size<=k)) (Fo:=Fo) (rI:=bl++[⟨bx,n,.slice ab an ac,rs,sz⟩]) (dS.fx h3.hL) cc (λk af=>af) (λk af=>.inl af) ⟨.inl h3.l.box.1,A1.2⟩ ?_ ?_ ?_
  ·refine kj.fin λwa aL=>⟨rfl,_,kj.jC aL λ_ h=>h,?_⟩;have e:({ L with bu:=(bl++[(⟨bx,n,.slice ab an ac,rs,sz⟩:mY)]).map mY.er } :LM)= { L with bu:=L.bu++[⟨n,(jl (m.bytes nm)).1,sz⟩] } :=by
    rw[aJ,<-h3.l.bu,<-hrs];rfl
   rw[if_neg pD,<-e];refine Lg.mv ⟨_,FD,Fo,_,?_,?_,?_,hL6,h3.d.mv (cc.jf λk af=>⟨dS.br k (h3.hD k af),λhg=>?_⟩)⟩ (aL.jf kj.br)
   ·intro k ha dU;rcases ha with ha|ha
    ·exact h3.dj k ha dU
    ·have:=(oG k (h3.hD k dU)).2;omega
   ·exact λk af=>af.imp (h3.hL k) id
   ·exact λk af=>.inl (h3.hD k af)
   ·rcases hg with rfl|hg
    ·exact h3.dj _ h3.l.box.1 af
    ·exact h3.dj _ (Pn _ hg) af
  ·rw[aJ];refine vX.tight.mv λk af hl=>⟨LJ k af,c6.block k (vX.br af).1 λe=>ahz (by rw[<-(show k=lb from e)];exact af)⟩
  ·intro s tj;rcases List.mem_append.1 tj with tj|tj
   ·exact .inl tj
   ·simp only[aw] at tj;subst tj;have hb6:w6.heap[bx]? =w4.heap[bx]? :=by
     rw[c6.block bx (c5.sub _ bo.1) adh,c5.block bx bo.1 adi]
    exact .inr ⟨⟨.inr ⟨c6.sub _ (c5.sub _ bo.1),by show w0.heap.size<=bx;omega⟩,by rw[hb6];exact bo.2⟩,fresh kQ kQ Ij,λr hr=>fresh kQ kQ (hor r hr)⟩
  ·refine List.pairwise_append.2 ⟨h3.l.ap,List.pairwise_singleton _ _,λx hx y hy=>?_⟩;simp only[aw] at hy;subst hy;refine⟨λe=>?_,λg hg rQ=>?_⟩
   ·have:=(dS.fx h3.hL _ (h3.l.row x hx).1).2;have e':x.b=bx:=e;omega
   ·have a1:=(oG g (h3.hL g ((h3.l.Ap x hx).br hg).1)).2;have a2:=(Ij.ow.br (g:=g) rQ).1.1;omega
 ·by_cases cj:L.bu=[]
  ·have ar1:bl.length=0:=by rw[JR,cj];rfl
   have hj:LD.GA ⟨L,m⟩ n=false:=by simp[LD.GA,cj]
   repeat' refine aN ?_;intros
   exact hK _ _ hj hs
  ·obtain⟨rI,s,rfl,he,Fi⟩:=h.l.last (nk cj);have hL:=nk cj;have hlen:=GC.ib;have wS:(rI++[s]).length=rI.length+1:=by simp
   have DD:(rI++[s])[rI.length]? =some s:=by simp
   have mu:s∈rI++[s]:=by simp
   have wR:=(h.l.row s mu).mv (Mv.sub hX);have hrc:=(h.l.Ap s mu).sl.mono hX;have Fp:s.first=L.last.first:=by rw[<-he];rfl
   have gd:s.size=L.last.size:=by rw[<-he];rfl
   have rG:s.rs.length=L.last.bp.length:=by rw[<-he];simp[mY.er]
   have Xl:=hL.yM _ (LM.xL hL.ne);have nJ:L.next=L.last.first+L.last.bp.length:=rfl
   repeat' refine aN ?_;intros
   rw[Fp];refine cA (yr zQ zQ) kQ hs.has ?_;rintro _ D8 w1 X1 rfl qz nY aC;have ej:=hT.since aC;have h1:=h.mv (aC.gU hT.br);refine cA (Hh (n:=bL L.dir L.last.first) h1.d (ej.fx h1.hD)) kQ ej.s.has ?_;rintro _ yE w2 X2 ⟨vb,rfl,yJ⟩ mq kW bm;have apU:=(yJ.sl.mono kW).ib;have pc:=aC.trans bm;have O5:=wR.since pc;have ar2:=hrc.mv pc.mv;have eN:L.ff=bL L.dir L.last.first:=rfl
   have eE:LD.GA ⟨L,m⟩ n=decide (L.bu≠[]/\((m.bytes (bL L.dir L.last.first)).length≠L.last.size\/n≠L.next)):=rfl;rw[eE] at hK eJ;have da:=hT.since pc;have h2:=h.mv (pc.gU hT.br);clear hs wR hrc;repeat' first|refine ao ?_;intros|refine dq ?_ ?_<;>intros
   ·rw[eJ,if_pos (by simp only[decide_eq_true_eq];exact⟨cj,.inl zQ⟩)];exact da.fin λwa aL=>⟨rfl,F,da.jC aL λ_ h=>h,(h2.mv (aL.jf da.br)).lg⟩
   ·rw[eJ,if_pos (by simp only[decide_eq_true_eq];exact⟨cj,.inr zQ⟩)];exact da.fin λwa aL=>⟨rfl,F,da.jC aL λ_ h=>h,(h2.mv (aL.jf da.br)).lg⟩
   ·exact hK _ _ (by simp only[decide_eq_false_iff_not];rintro⟨_,h|h⟩<;>omega) pc
theorem adj {m:DM} (h:Lg w F lb db L m) (hL:pM L) (hF:FX F X w):
  Ct pg 129 #[ptr lb 0] w X F λv wa w'=>v=I (LD.Hi ⟨L,m⟩).2/\ ∃F',(∀k,F' k->F k\/made wa w' k)/\Lg w' F' lb db (LD.Hi ⟨L,m⟩).1.L (LD.Hi ⟨L,m⟩).1.m:=by
 intro w0 hk;obtain⟨FL,FD,sv,bl,h⟩:=(h.mv (hF.mv hk)).lw;have hT:=hF.ft hk;have oG:FX F (bV w0) w0:=hF.kp hk;obtain⟨rI,s,rfl,he,Fi⟩:=h.l.last hL;have hX:=λk af=>(oG k (h.hL k af)).1;have mu:s∈rI++[s]:=by simp
 have hb:=h.l.box.mv (Mv.sub hX);have wR:=(h.l.row s mu).mv (Mv.sub hX);have Fp:s.first=L.last.first:=by rw[<-he];rfl
 have gd:s.size=L.last.size:=by rw[<-he];rfl
 have Xl:=hL.yM _ (LM.xL hL.ne);have qh:=hL.d2;have eM:LD.Hi ⟨L,m⟩=if L.last.size<(m.bytes (bL L.dir L.last.first)).length then
   if(m.cut (bL L.dir L.last.first) L.last.size).2≠0 then(⟨L,(m.cut (bL L.dir L.last.first) L.last.size).1⟩,(m.cut (bL L.dir L.last.first) L.last.size).2)else LD.sync ⟨L,(m.cut (bL L.dir L.last.first) L.last.size).1⟩
  else LD.sync ⟨L,m⟩:=rfl
 refine Q1.1 λhs=>?_;refine cA (yt h.l λk af=>oG k (h.hL k af)) kQ hs.has ?_;rintro _ D8 w1 X1 rfl qz nY aC;have lD:=hb.since aC;have XY:=wR.since aC;clear hs hb wR;have hs:=aj.fT aC.has;repeat' refine ao ?_;intros
 rw[Fp];refine cA (yr zQ zQ) kQ aC.has ?_;rintro _ yE w2 X2 rfl mq kW bm;have tU:=lD.since bm;have O5:=XY.since bm;have pc:=aC.trans bm;have da:=hT.since pc;have h2:=h.mv (pc.gU hT.br);clear hs lD XY;refine gY (Q:=λK=> ∀w1 X1 F1 m1,LD.Hi ⟨L,m⟩=LD.sync ⟨L,m1⟩->Ft w0 F w1 X1 F1->Lg w1 F1 lb db L m1->K w1 X1) ?_ λK hK=>?_
 ·intro w3 X3 F3 m3 e3 dS h3
  skip
  refine dS.call (I4 h3 hL (dS.fx λ_ h=>h)) kQ (λ_ h=>h) λv zj w4 X4 hq tL pa fJ Fq=>?_;obtain⟨rfl,F4,hF4,h4⟩:=hq;rw[e3];have zP:=fJ.less hF4
  skip
  exact zP.fin λwa aL=>⟨rfl,F4,zP.jC aL λ_ h=>h,h4.mv (aL.jf zP.br)⟩
 ·have hs:=aj.fT da.s.has;repeat' refine ao ?_;intros
  refine cA (Hh (n:=bL L.dir L.last.first) h2.d (da.fx h2.hD)) kQ da.s.has ?_;rintro _ yF w3 X3 ⟨vb,rfl,yJ⟩ qy mr cV;have apU:=(yJ.sl.mono mr).ib;have JR:=DM.LI h.d (bL L.dir L.last.first);have dS:=da.since cV;have h3:=h2.mv (cV.gU da.br);have rV:=tU.since cV;have apk:=O5.since cV;clear hs tU O5;have hs:=aj.fT dS.s.has;repeat' first|refine ao ?_;intros|refine dq ?_ ?_<;>intros
  ·rw[if_pos zQ] at eM;rw[gd];refine dS.call (ada (k:=L.last.size) (n:=bL L.dir L.last.first) h3.d (dS.fx h3.hD) zQ) kQ h3.hD λv zj w4 X4 hq tL pa fJ Fq=>?_;obtain⟨rfl,OF,Po,hD⟩:=hq;have h4:=h3.Pp (dS.fx λ_ h=>h) tL Fq Po hD;generalize Ue:m.cut (bL L.dir L.last.first) L.last.size=ms at h4 eM⊢;repeat' first|refine ao ?_;intros|refine dq ?_ ?_<;>intros
   ·have hz:ms.2≠0:=by have: ¬(ms.2:Int)=0:=(by assumption);omega
    rw[if_pos hz] at eM;rw[eM];exact fJ.fin λwa aL=>⟨rfl,_,fJ.jC aL λ_ h=>h,(h4.mv (aL.jf fJ.br)).lg⟩
   ·have hz:ms.2=0:=by have:(ms.2:Int)=0:=(by assumption);omega
    rw[if_neg zQ] at eM;exact hK _ _ _ ms.1 eM fJ h4.lg
  ·rw[if_neg zQ] at eM;exact hK _ _ F m eM dS h3.lg
structure XZ (L:LM):Prop where
 d1:1<=L.dir.size
 d2:L.dir.size<=11
 yM: ∀s∈L.bu,s.first+s.bp.length<=2^40/\s.size<=2^40
 room:L.room<=2^40
theorem XZ.LK (h:XZ L) (cj:L.bu≠[]):pM L:=⟨cj,h.d1,h.d2,h.yM,h.room⟩
theorem XZ.join {x:LD} {n:Nat} (h:XZ x.L) (hn:n<=100000000) (hb:(x.m.bytes nm).length<=4194304):XZ (x.join n nm).1.L/\(x.join n nm).1.m=x.m/\(x.join n nm).1.L.dir=x.L.dir/\(x.join n nm).1.L.bu.length<=x.L.bu.length+1:=by
 unfold LD.join;split
 ·exact⟨h,rfl,rfl,by simp⟩
 ·refine⟨⟨h.d1,h.d2,λs hs=>?_,h.room⟩,rfl,rfl,by simp⟩;rcases List.mem_append.1 hs with hs|hs
  ·exact h.yM s hs
  ·simp only[aw] at hs;subst hs;have:=Ud _ (x.m.bytes nm) (aq _)
   show n+(jl (x.m.bytes nm)).1.length<=2^40/\(jl (x.m.bytes nm)).2<=2^40
   omega
theorem adk {sz:Nat} {m:DM} (h:Dk w F db m) (hF:FX F X w) (zn: ∀x∈m.fs,x.1.size<=2^40) (iR:m.fs.length<=2^29) (GB: ∀n,∀b∈m.bytes n,b<256)
  (h1:1<=dir.size) (h2:dir.size<=11) (aC:64<=sz) (bm:sz<=262144):
  Ct pg 75 #[ptr db 0,.string dir,I sz] w X F λv wa w'=> ∃lb F',v= .tuple #[if(LD.B1 dir sz m).2=0 then ptr lb 0 else .pointer none,I (LD.B1 dir sz m).2]/\(∀k,F' k->F k\/made wa w' k)/\
   Dk w' F' db (LD.B1 dir sz m).1.m/\((LD.B1 dir sz m).2=0->Lg w' F' lb db (LD.B1 dir sz m).1.L (LD.B1 dir sz m).1.m):=by
 intro w0 hk;replace h:=h.mv (hF.mv hk);have hT:=hF.ft hk;have oG:FX F (bV w0) w0:=hF.kp hk;have eO:LD.B1 dir sz m=if m.dn then(⟨L0 dir sz,m⟩,12)else
   if(LD.pE ⟨L0 dir sz,m⟩ (fL (m.fs.map (·.1)))).2≠0 then LD.pE ⟨L0 dir sz,m⟩ (fL (m.fs.map (·.1)))else
    if(LD.pE ⟨L0 dir sz,m⟩ (fL (m.fs.map (·.1)))).1.L.bu=[] then(LD.pE ⟨L0 dir sz,m⟩ (fL (m.fs.map (·.1)))).1.iI 1 else(LD.pE ⟨L0 dir sz,m⟩ (fL (m.fs.map (·.1)))).1.Hi:=rfl
 generalize hr:LD.B1 dir sz m=r at eO⊢;refine aaS.1 λ_=>?_;refine cA (adl (n:=1) h1 h2 zQ zQ) kQ hT.s.has ?_;rintro _ D8 w1 X1 rfl qz nY XH;replace hT:=hT.since XH;replace h:=h.mv (XH.gU λk af=>(oG k af).1);repeat' refine aN ?_;intros
 refine eT (aaT h (hT.fx λ_ h=>h)) kQ hT.s.has λw2 X2 xM=>?_;replace h:=h.mv (xM.gU hT.br);replace hT:=hT.since xM;cases jz:m.dn with
 |true=>
  rw[jz,if_pos rfl] at eO;subst eO;repeat' refine ao ?_;intros
  exact hT.fin λwa aL=>⟨0,F,rfl,hT.jC aL λ_ h=>h,h.mv (aL.jf hT.br),λe=>by cases e⟩
 |false=>
  rw[jz,if_neg pD] at eO;repeat' refine ao ?_;intros
  refine AJ hT.s.has λlb w3 X3 zi cV bo=>?_;have h3:=h.mv (cV.gU hT.br);have dS:=hT.since cV;have hFl: ∀k,F k->k<w2.heap.size:=λk af=>hT.s.has k (hT.br k af);have Fs:Ft w0 F w3 X3 (λk=>F k\/k=lb):=dS.more λk af=>af.imp id λe=>by
   subst e;have:=hT.s.kp.size;exact⟨bo.1,by omega⟩
  have g3:Lg w3 (λk=>F k\/k=lb) lb db (L0 dir sz) m:=
   ⟨(· =lb),F,.slice none 0 0,[],λk a b=>by have:=hFl k b;omega,λ_ h=>.inr h,λ_ h=>.inl h,
    ⟨rfl,⟨rfl,bo.2⟩,⟨by simp,.inl ⟨rfl,rfl⟩⟩,by simp,by simp,by simp,List.Pairwise.nil⟩,h3⟩
  refine cA (OE h3 (dS.fx λ_ h=>h) zn zQ) kQ dS.s.has ?_;rintro vl zj w4 X4 hol tL pa fR;have fJ:=Fs.since fR;have g4:=g3.mv (fR.gU Fs.br);have hGl: ∀k,(F k\/k=lb)->k<w3.heap.size:=λk af=>af.elim (λaf=>by have:=hFl k af;have:=cV.kp.size;omega) λe=>by subst e;exact bo.lt
  have nI:Sl w4 (λk=>X4 k/\ ¬(F k\/k=lb)) 1 vl ((fL (m.fs.map (·.1))).map S1):=hol.sl.mono λk af=>⟨pa k af,λhf=>by have:=hGl k hf;have:=af.1;omega⟩;have hB:aj (λk=>X4 k/\ ¬(F k\/k=lb)) w4 X4 w4:=⟨Kp.refl _ _,λk h=>h.1,fJ.s.has⟩;have apV:=fJ.s.has;have alF: ∀n∈fL (m.fs.map (·.1)),n.size<=2^40:=λn hn=>by
   have:=(kP (m.fs.map (·.1))).mem_iff.1 hn;obtain⟨x,hx,rfl⟩:=List.mem_map.1 this;exact zn x hx
  have hnl:(fL (m.fs.map (·.1))).length=m.fs.length:=by rw[(kP _).length_eq,ai]
  generalize fL (m.fs.map (·.1))=ns at nI eO alF hnl;obtain⟨nb,nn,nc,rfl⟩:=nI.form;clear hT dS Fs g3 h3 h bo hol;repeat' refine ao ?_;intros
  refine gh (λn' a w X=> ∃(i:Nat) (F1:XS) (x:LD),a=I i/\n'=ns.length-i/\i<=ns.length/\LD.pE ⟨L0 dir sz,m⟩ ns=x.pE (ns.drop i)/\XZ x.L/\x.m=m/\x.L.dir=dir/\x.L.bu.length<=i/\Ft w0 F w X F1/\Lg w F1 lb db x.L x.m/\
   (∀k,F1 k->(F k\/k=lb)\/w4.heap.size<=k)/\aj (λk=>X4 k/\ ¬(F k\/k=lb)) w4 X w) ns.length
   ⟨0,_,⟨L0 dir sz,m⟩,rfl,rfl,au _,rfl,⟨h1,h2,by simp[L0],by show sz<=_;omega⟩,rfl,rfl,aq _,fJ,g4,λk af=>.inl af,hB⟩ ?_
  clear fJ g4 hB;rintro n' a w5 X5 ⟨i,F1,x,rfl,rfl,hi,GD,KK,hxm,hxd,Uf,iN,h5,ahA,hB⟩;obtain⟨FL,FD,sv,bl,hW⟩:=h5.lw;have BY:=hW.l.box.mv (Mv.sub λk af=>iN.br k (hW.hL k af));have hsv:=hW.l.so.sl.mono λk af=>iN.br k (hW.hL k af);have JR:bl.length=x.L.bu.length:=by rw[hW.l.bu,ai]
  have ar3:=nI.mv hB.mv;rcases dG ns i with⟨cC,nm,l9,hd⟩|⟨dH,hd⟩
  ·have ar4:=alF nm (aB l9);rw[hd] at GD;have eJ:x.pE (nm::ns.drop (i+1))=if r6 x.L.dir nm=0 then x.pE (ns.drop (i+1))else if(x.join (r6 x.L.dir nm) nm).2≠0 then x.join (r6 x.L.dir nm) nm else(x.join (r6 x.L.dir nm) nm).1.pE (ns.drop (i+1)):=rfl
   rw[eJ,hxd] at GD;have hnN:=aj1 dir nm;repeat' refine aN ?_;intros
   refine gY (Q:=λK=> ∀w X F1 x,LD.pE ⟨L0 dir sz,m⟩ ns=LD.pE x (ns.drop (i+1))->XZ x.L->x.m=m->x.L.dir=dir->x.L.bu.length<=i+1->Ft w0 F w X F1->Lg w F1 lb db x.L x.m->(∀k,F1 k->(F k\/k=lb)\/w4.heap.size<=k)->
    aj (λk=>X4 k/\ ¬(F k\/k=lb)) w4 X w->K w X) ?_ λK hK=>?_
   ·intro w X F1 x q1 q2 q3 q4 q5 q6 q7 q8 q9;repeat' refine ao ?_;intros
    exact fp (ns.length-(i+1)) zQ ⟨i+1,F1,x,by simp,rfl,by omega,q1,q2,q3,q4,q5,q6,q7,q8,q9⟩
   ·repeat' refine ao ?_;intros
    refine eT (XW (dir:=dir) (name:=nm) zQ zQ) kQ iN.s.has λw6 X6 rF=>?_;have kj:=iN.since rF;have h6:=h5.mv (rF.gU iN.br);have hB6:=hB.trans rF;repeat' first|refine ao ?_;intros|refine dq ?_ ?_<;>intros
    ·rw[if_pos zQ] at GD;exact hK _ _ F1 x GD KK hxm hxd zQ kj h6 ahA hB6
    ·rw[if_neg zQ] at GD;obtain⟨j1,j2,j3,j4⟩:=KK.join (n:=r6 dir nm) (nm:=nm) zQ (DM.LI hW.d nm);refine kj.call (adf (n:=r6 dir nm) (nm:=nm) h6 (λcj=>KK.LK cj) KK.d2 zQ zQ (by rw[hxm];exact GB nm) (kj.fx λ_ h=>h)) kQ (λ_ h=>h) λv Qs w7 X7 hq Sp Hc CY Qq=>?_;obtain⟨rfl,F7,hF7,h7⟩:=hq;have ex:x.join (r6 dir nm) nm=LD.join ⟨x.L,x.m⟩ (r6 dir nm) nm:=rfl;rw[ex] at GD j1 j2 j3 j4;generalize hq:LD.join ⟨x.L,x.m⟩ (r6 dir nm) nm=q at GD h7 j1 j2 j3 j4⊢;have Sq:=CY.less hF7;have hB7:aj (λk=>X4 k/\ ¬(F k\/k=lb)) w4 X7 w7:=hB6.eo Qq λk af hf=>by
      rcases ahA k hf with hf|hf
      ·exact af.2 hf
      ·have:=apV k af.1;omega
     have apW: ∀k,F7 k->(F k\/k=lb)\/w4.heap.size<=k:=λk af=>(hF7 k af).elim (λh=>ahA k h) λh=>.inr (by have:=h.1;have:=hB6.kp.size;omega);repeat' first|refine ao ?_;intros|refine dq ?_ ?_<;>intros
     ·have hz:q.2≠0:=by have: ¬(q.2:Int)=0:=(by assumption);omega
      rw[if_pos hz] at GD;rw[GD,if_pos hz] at eO;subst eO;obtain⟨FL7,FD7,sv7,bl7,hW7⟩:=h7.lw;exact Sq.fin λwa aL=>⟨lb,F7,by rw[if_neg hz],Sq.jC aL λ_ h=>h,(hW7.d.mono hW7.hD).mv (aL.jf Sq.br),λe=>absurd e hz⟩
     ·have hz:q.2=0:=by have:(q.2:Int)=0:=(by assumption);omega
      rw[if_neg zQ] at GD;refine hK _ _ F7 q.1 GD j1 (by rw[j2];exact hxm) (by rw[j3];exact hxd) zQ Sq h7 apW hB7
  ·have mQ:i=ns.length:=by omega
   subst mQ;rw[hd] at GD;have ejn:x.pE []=(x,0):=rfl;rw[ejn] at GD;rw[GD,if_neg sQ] at eO;dsimp only at eO;repeat' first|refine aN ?_;intros|refine dq ?_ ?_<;>intros
   ·have ahB:x.L.bu=[]:=List.eq_nil_of_length_eq_zero zQ;rw[if_pos ahB] at eO;refine iN.call (Q2 (n:=1) h5 KK.d2 zQ zQ (iN.fx λ_ h=>h)) kQ (λ_ h=>h) λv wa6 w6 X6 hq6 Ya LJ kj hc6=>?_;obtain⟨rfl,F6,hF6,h6⟩:=hq6;have zU:Ft w0 F w6 X6 F6:=kj.less hF6;have ex:LD.iI ⟨x.L,x.m⟩ 1=r:=eO.symm;rw[ex] at h6⊢;obtain⟨FL6,FD6,sv6,bl6,Q3⟩:=h6.lw;repeat' first|refine ao ?_;intros|refine dq ?_ ?_<;>intros
    ·have hz:r.2≠0:=by have: ¬(r.2:Int)=0:=(by assumption);omega
     exact zU.fin λwa aL=>⟨lb,F6,by rw[if_neg hz],zU.jC aL λ_ h=>h,(Q3.d.mono Q3.hD).mv (aL.jf zU.br),λe=>absurd e hz⟩
    ·have hz:r.2=0:=by have:(r.2:Int)=0:=(by assumption);omega
     exact zU.fin λwa aL=>⟨lb,F6,by rw[if_pos hz,hz];rfl,zU.jC aL λ_ h=>h,(Q3.d.mono Q3.hD).mv (aL.jf zU.br),λ_=>h6.mv (aL.jf zU.br)⟩
   ·have cj:x.L.bu≠[]:=λe=>by
     have:x.L.bu.length=0:=by rw[e];rfl
     omega
    rw[if_neg cj] at eO;refine iN.call (adj h5 (KK.LK cj) (iN.fx λ_ h=>h)) kQ (λ_ h=>h) λv wa6 w6 X6 hq6 Ya LJ kj hc6=>?_;obtain⟨rfl,F6,hF6,h6⟩:=hq6;have zU:Ft w0 F w6 X6 F6:=kj.less hF6;have ex:LD.Hi ⟨x.L,x.m⟩=r:=eO.symm;rw[ex] at h6⊢;obtain⟨FL6,FD6,sv6,bl6,Q3⟩:=h6.lw;repeat' first|refine ao ?_;intros|refine dq ?_ ?_<;>intros
    ·have hz:r.2≠0:=by have: ¬(r.2:Int)=0:=(by assumption);omega
     exact zU.fin λwa aL=>⟨lb,F6,by rw[if_neg hz],zU.jC aL λ_ h=>h,(Q3.d.mono Q3.hD).mv (aL.jf zU.br),λe=>absurd e hz⟩
    ·have hz:r.2=0:=by have:(r.2:Int)=0:=(by assumption);omega
     exact zU.fin λwa aL=>⟨lb,F6,by rw[if_pos hz,hz];rfl,zU.jC aL λ_ h=>h,(Q3.d.mono Q3.hD).mv (aL.jf zU.br),λ_=>h6.mv (aL.jf zU.br)⟩
def LM.has (L:LM) (n:Nat) (p:List Nat):Prop:= ∃(j:Nat) (s:dO),L.bu[j]? =some s/\s.first<=n/\(∀(i:Nat) (t:dO),j<i->L.bu[i]? =some t->n<t.first)/\s.bp[n-s.first]? =some p
variable {sv : Value}
theorem ahC {n:Nat} {bl:List mY} (h:zo w F lb db sv bl L) (hL:pM L) (hp:L.has n p) (xD:p.length<=2^40) (hF:FX F X w):
  Ct pg 131 #[ptr lb 0,I n] w X nX λv wa w'=>Own w' (made wa w') wa.heap.size 5 1 v (p.map U1):=by
 intro w0 hk;replace h:=h.mv (hF.mv hk);have hX:=λk af=>(hF.kp hk k af).1;have hb:=h.box.mv (Mv.sub hX);have GC:=h.so.sl.mono hX;have LL:=h.bu;obtain⟨j,sm,hj,iR,QV,alG⟩:=hp;have ni:=hL.yM sm (aB hj);have rG:=(List.getElem?_eq_some_iff.1 alG).1;rw[LL,cX] at hj;obtain⟨s,hbj,rfl⟩: ∃s,bl[j]? =some s/\s.er=sm:=by
  cases hq:bl[j]? with
  |none=>rw[hq] at hj;cases hj
  |some s=>exact⟨s,rfl,by rw[hq] at hj;exact bW hj⟩
 have Ec:=(List.getElem?_eq_some_iff.1 hbj).1;have ar5:s.first<=n:=iR
 have apX:s.first+(s.rs.map (·.2)).length<=2^40:=ni.1
 have apY:n-s.first<(s.rs.map (·.2)).length:=rG
 rw[ai] at apX apY;obtain⟨r,hr,hrp⟩: ∃r,s.rs[n-s.first]? =some r/\r.2=p:=by
  have h9:(s.rs.map (·.2))[n-s.first]? =some p:=alG;rw[cX] at h9;cases hq:s.rs[n-s.first]? with
  |none=>rw[hq] at h9;cases h9
  |some r=>exact⟨r,rfl,by rw[hq] at h9;exact bW h9⟩
 have hlen:=GC.ib;refine Vl.1 λhs=>?_;repeat' refine ao ?_;intros
 refine gh (λm a w X=> ∃i:Nat,a=I i/\m=i-j/\j<=i/\i<bl.length/\aj (bV w0) w0 X w) (bl.length-1-j) ⟨bl.length-1,congrArg I zQ,rfl,by omega,by omega,hs⟩ ?_;clear hs;rintro m a w1 X1 ⟨i,rfl,rfl,KI,mQ,hs⟩;obtain⟨t,Qf⟩: ∃t,bl[i]? =some t:=⟨_,aU mQ⟩;have hbt:aK w0 (bV w0) t.b [I t.first,t.rv,I t.size] 238:=(h.row t (aB Qf)).mv (Mv.sub hX);by_cases yI:i=j
 ·subst yI;rw[Qf] at hbj;obtain rfl:=bW hbj;have hrc:=(h.Ap t (aB Qf)).sl.mono hX;have GB:=(h.Ik t (aB Qf) r (aB hr)).sl.mono hX;rw[hrp] at GB;have Xn:=hs.kp.size;repeat' first|refine aN ?_;intros|(refine QW hs ?_;intro acc w X hs ho)
  refine qQ (ho.low Xn) hs (λ_ h=>h) kQ (GB.mv hs.mv) (by intro r hr u hu;obtain⟨x,_,rfl⟩:=List.mem_map.1 hr;simp only[U1,aw] at hu;subst hu;rfl) oQ oQ λv8 w8 X8 lr AK hc8 XP=>?_;exact cG lr λwa aL=>(AK.kp aL).tight
 ·have ar6:n<t.first:=QV i t.er zQ (by rw[LL,cX,Qf];rfl)
  repeat' refine aN ?_;intros
  exact fp (i-1-j) zQ ⟨i-1,congrArg I zQ,rfl,by omega,by omega,hs⟩
variable {s : dO}
theorem adm {n:Nat} {bl:List mY} {r:List dO} (h:zo w F lb db sv bl L) (hL:pM L) (hp:L.has n p) (xD:p.length<=2^40) (hs:L.bu=s::r) (h1:s.first<=n) (h2:n<L.next) (hF:FX F X w):
  Ct pg 78 #[ptr lb 0,I n] w X nX λv wa w'=> ∃vb,v= .tuple #[vb,I 0]/\Own w' (made wa w') wa.heap.size 5 1 vb (p.map U1):=by
 intro w0 hk;replace h:=h.mv (hF.mv hk);have oG:FX F (bV w0) w0:=hF.kp hk;have hX:=λk af=>(oG k af).1;have fx: ∀{w X},aj (bV w0) w0 X w->FX F X w:=λhs k af=>⟨hs.sub k (hX k af),hs.has k (hs.sub k (hX k af))⟩;refine Q4.1 λ_=>?_;have gg:=aj.init w0;refine eT (OG h hs oG) kQ gg.has λw1 X1 aC=>?_;repeat' refine aN ?_;intros
 refine gY (Q:=λK=> ∀w X,aj (bV w0) w0 X w->K (I L.next) w X) ?_ λK hK=>?_
 ·intro w2 X2 bm;repeat' refine aN ?_;intros
  refine cA (ahC (h.mv (bm.gU hX)) hL hp xD (fx bm)) kQ bm.has ?_;rintro vb yF w3 X3 ho qy mr cV;exact cG (bm.trans cV) λwa aL=>⟨vb,rfl,((ho.up mr (by have:=bm.kp.size;omega)).kp aL).tight⟩
 ·repeat' refine ao ?_;intros
  refine eT (Er (h.mv (aC.gU hX)) hL (fx aC)) kQ aC.has λw2 X2 bm=>?_;exact hK _ _ (aC.trans bm)
theorem pM.tail {t:dO} {r:List dO} (h:pM L) (hs:L.bu=s::t::r):pM { L with bu:=t::r } :=
 ⟨by simp,h.d1,h.d2,λx hx=>h.yM x (by rw[hs];exact bQ _ hx),h.room⟩
def DM.ks (m:DM):List ByteArray:=m.fs.map (·.1)
theorem DM.get_some {m:DM} :(m.get n).isSome=true↔n∈m.ks:=by
 have h:=getM_none (k:=n) (l:=m.fs)
 show(getM n m.fs).isSome=true↔n∈m.fs.map (·.1)
 cases hg:getM n m.fs with
 |none=>grind
 |some x=>
  grind
theorem DM.vY (m:DM):m.ks.length=m.fs.length:=by simp[DM.ks]
structure lx (m:DM):Prop where
 ar:m.ar=0
 dn:m.dn=false
theorem lx.tick {m:DM} (h:lx m):lx m.tick:=by
 unfold DM.tick;rw[if_neg (by rw[h.ar];decide)];exact⟨by simp[h.ar],h.dn⟩
theorem lx.write {m:DM} (h:lx m) (f:DM->DM):m.write 0 f=(f m.tick,0):=by
 unfold DM.write;rw[if_neg (by rw[h.dn];simp),if_neg sQ,if_neg (by rw[h.tick.dn];simp)]
theorem lx.afw {m:DM} (h:lx m) {e:Nat} (he:e≠0) (f:DM->DM):m.write e f=(m,e):=by
 unfold DM.write;rw[if_neg (by rw[h.dn];simp),if_pos he]
theorem lx.create {m:DM} (h:lx m) (hn:vZ n=true) (hk: ¬n∈m.ks):
  (64<=m.fs.length/\m.create n=(m,3))\/(m.fs.length<64/\(m.create n).2=0/\lx (m.create n).1/\(m.create n).1.ks=m.ks++[n]/\(m.create n).1.sz=m.sz):=by
 have hg: ¬(m.get n).isSome=true:=λe=>hk (DM.get_some.1 e);unfold DM.create;rw[if_neg (by simp[hn]),if_neg hg];by_cases hl:64<=m.fs.length
 ·left;rw[if_pos hl];exact⟨hl,h.afw dQ _⟩
 ·right;rw[if_neg hl,h.write];refine⟨by omega,rfl,⟨h.tick.ar,h.tick.dn⟩,?_,?_⟩
  ·show(cI n ([],0) m.tick.fs).map (·.1)=_
   rw[xN,m.Aq,if_neg (show¬(getM n m.fs).isSome=true from hg)];rfl
  ·have:m.tick.get n=none:=by rw[m.qG];simpa using hg
   rw[DM.SC this,m.yu];simp
theorem lx.append {m:DM} (h:lx m) (hk:n∈m.ks) (gd:m.sz+b.length<=4194304):
  (m.append n b).2=0/\lx (m.append n b).1/\(m.append n b).1.ks=m.ks/\(m.append n b).1.sz=m.sz+b.length:=by
 have hg:=DM.get_some.2 hk;unfold DM.append;rw[if_neg (by rw[h.dn];simp)];cases hx:m.get n with
 |none=>grind
 |some x=>
  obtain⟨bs,s⟩:=x;dsimp only;rw[if_neg zQ];refine⟨by rw[if_neg (by rw[h.tick.dn];simp)],⟨h.tick.ar,h.tick.dn⟩,?_,?_⟩
  ·show(cI n (bs++b,s) m.tick.fs).map (·.1)=_
   rw[xN,m.Aq,if_pos (show(getM n m.fs).isSome=true from hg)];rfl
  ·have:m.tick.get n=some (bs,s):=by rw[m.qG];exact hx
   have:=DM.LC (bs:=bs++b) (s':=s) this;rw[m.yu,aa] at this
   grind
theorem lx.sync {m:DM} (h:lx m) (hk:n∈m.ks):(m.sync n).2=0/\lx (m.sync n).1/\(m.sync n).1.ks=m.ks/\(m.sync n).1.sz=m.sz:=by
 have hg:=DM.get_some.2 hk;unfold DM.sync;rw[if_pos hg,h.write];have QV:(m.tick.get n).isSome=true:=by rw[m.qG];exact hg
 refine⟨rfl,?_,?_,by dsimp only;rw[DM.Fu,m.yu]⟩
 ·unfold DM.kB;dsimp only;split
  ·exact h.tick
  ·exact⟨h.tick.ar,h.tick.dn⟩
 ·unfold DM.kB;dsimp only;split
  ·grind
  ·rename_i x hx
   show(cI n _ m.tick.fs).map (·.1)=_
   rw[xN,m.Aq,if_pos (show(getM n m.fs).isSome=true from hg)];rfl
theorem Yb: ∀{k a b:Nat},a<10^k->b<10^k->qH k a=qH k b->a=b
 |0,a,b,ha,hb,_=>by omega
 |k+1,a,b,ha,hb,h=>by
  unfold qH at h;obtain⟨h1,h2⟩:=List.append_inj' h rfl;have:=Yb (k:=k) (a:=a/10) (b:=b/10) zQ zQ h1
  grind
theorem Nn: ∀(k n:Nat),∀x∈qH k n,x<256
 |0,_,x,h=>by cases h
 |k+1,n,x,h=>by
  unfold qH at h;rcases List.mem_append.1 h with h|h
  ·exact Nn k _ x h
  grind
theorem ahD {a:List Nat} (ha: ∀x∈a,x<256) (hb: ∀x∈b,x<256) (h:Co a=Co b):a=b:=by
 unfold Co at h;have h1:(a.map ot)=b.map ot:=by
  have:=congrArg (λx:ByteArray=>x.data.toList) h;simpa using this
 have h2:=congrArg (List.map UInt8.toNat) h1;simp only[bB] at h2;have e: ∀l:List Nat,(∀x∈l,x<256)->l.map (UInt8.toNat∘ot)=l:=λl hl=>by
  refine(ey λx hx=>?_).trans (wZ l);simp_all
 simp_all
theorem LN {b:Nat} (ha:a<10^8) (hb:b<10^8) (h:bL dir a=bL dir b):a=b:=by
 unfold bL at h;have h1:=congrArg (λx:ByteArray=>x.data.toList) h;simp only[ByteArray.data_append,Array.toList_append] at h1;refine Yb ha hb (ahD (Nn _ _) (Nn _ _) ?_);simp_all
theorem abI {α:Type} [LT α] [DecidableEq α]: ∀{a b:List α} {u v:List α},a<b->a.length=b.length->a++u<b++v
 |[],[],_,_,h,_=>absurd h (List.not_lt_nil _)
 |[],_::_,_,_,_,hl=>by simp at hl
 |_::_,[],_,_,_,hl=>by simp at hl
 |x::a,y::b,u,v,h,hl=>by
  rw[j8,j8,xa];rcases List.cons_lt_cons_iff.1 h with h1|⟨h1,h2⟩
  ·grind
  ·exact .inr ⟨h1,abI h2 gQ⟩
theorem afx: ∀{k a b:Nat},a<b->b<10^k->(qH k a).map ot<(qH k b).map ot
 |0,a,b,h,hb=>by omega
 |k+1,a,b,h,hb=>by
  unfold qH;rw[aJ,aJ];have tU:b/10<10^k:=by rw[rY] at hb;omega
  by_cases hq:a/10=b/10
  ·rw[hq];refine yK ?_;rw[bD,bD,xa];refine .inl ?_;rw[UInt8.lt_iff_toNat_lt,yL,yL];omega
  ·exact abI (afx zQ tU) (by rw[ai,ai,vE,vE])
theorem Pq (dir:ByteArray) (n:Nat):bl (bL dir n)=(dir.data.toList++[46])++(qH 8 n).map ot:=by
 unfold bl bL Co;simp_all
theorem aaU {b:Nat} (h:a<b) (hb:b<100000000):bl (bL dir a)<bl (bL dir b):=by
 rw[Pq,Pq];exact yK (afx h hb)
theorem aaV {ns:List Nat} {ks:List ByteArray} (hp:ks.Perm (ns.map (bL dir))) (hs:ns.Pairwise (· < ·)) (hb: ∀n∈ns,n<100000000):fL ks=ns.map (bL dir):=by
 rw[ahE hp];unfold fL;rw[List.mergeSort_of_pairwise]
 ·rw[bB];refine(ey λx _=>?_).trans (wZ _);rfl
 ·rw[Ao,Ao];refine hs.imp_of_mem λ{a b} _ hbm wX=>?_;unfold leB;exact decide_eq_true (List.le_of_lt (aaU wX (hb b hbm)))
theorem afy {l:List Nat} (h: ∀x∈l,x<256):vD (Co l)=l:=by
 unfold vD Co;rw[List.toList_toArray,bB];refine(ey λx hx=>?_).trans (wZ l);simp_all
theorem Yc: ∀(k n:Nat) (l:List Nat) (a:Nat),DR (qH k n++l) a=DR l (a*10^k+n % 10^k)
 |0,n,l,a=>by simp[qH,Nat.mod_one]
 |k+1,n,l,a=>by
  unfold qH;rw[ak,Yc k (n/10)];rw[j8,cx,Uc,if_neg zQ]
  congr 1
  have h1:n % 10^(k+1)=n/10 % 10^k*10+n % 10:=by
   rw[rY,Nat.mul_comm (10^k) 10,Nat.mod_mul];omega
  rw[h1,rY,Nat.add_mul,Nat.mul_assoc];omega
theorem adn {n:Nat} (hn:n<100000000):r6 dir (bL dir n)=n:=by
 have gd:=A2 dir n;have hd:dir.data.toList.length=dir.size:=by rw[Array.length_toList];rfl
 have e:(bL dir n).data.toList=(dir.data.toList++[46])++(qH 8 n).map ot:=Pq dir n;have h1:(bL dir n).extract 0 dir.size=dir:=by
  apply Eb;apply Array.toList_inj.1;rw[vW,xH,e,ak];rw[tV];simp only[List.drop_zero,Nat.sub_zero];exact ic hd
 have h2:(bL dir n).data.toList[dir.size]? =some 46:=by
  rw[e,ak,List.getElem?_append_right zQ,hd,Nat.sub_self];rfl
 have h3:(bL dir n).extract (dir.size+1) (bL dir n).size=Co (qH 8 n):=by
  apply Eb;apply Array.toList_inj.1;rw[vW,xH,e,tV,gd];rw[kc (by simp_all)];rw[ax (by rw[ai,vE];omega)];rfl
 unfold r6;rw[if_pos ⟨gd,h1,h2⟩,h3,afy (Nn 8 n)];have h4:=Yc 8 n [] 0;rw[gI] at h4;rw[h4]
 show 0*10^8+n % 10^8=n
 grind
theorem LO {m:DM} {s:Nat} (h:(m.get n).isSome=true):(m.put n b s).ks=m.ks:=by
 show(cI n (b,s) m.fs).map (·.1)=_
 rw[xN,if_pos (show(getM n m.fs).isSome=true from h)];rfl
theorem rL {m:DM} {s:Nat} :(m.put n b s).get n=some (b,s):=kD
theorem LP {m:DM} {k:ByteArray} {s:Nat} (h:k≠n):(m.put n b s).get k=m.get k:=od h
theorem aj3 {x:DM×Nat} :(DM.uB cH x n).1.ks=x.1.ks:=by
 unfold DM.uB;split
 ·rfl
 ·rename_i b s hg;split
  ·rfl
  ·exact LO (by rw[hg];rfl)
theorem Q5 {x:DM×Nat} {k:ByteArray} (h:k≠n):(DM.uB cH x n).1.get k=x.1.get k:=by
 unfold DM.uB;split
 ·rfl
 ·split
  ·rfl
  ·exact LP h
theorem afz {x:DM×Nat} {s:Nat} (h:x.1.get n=some (b,s)) (hs:s<=b.length):
  ∃k,k<=b.length-s/\(DM.uB cH x n).1.get n=some (b.take (s+k),s+k)/\(cH=[]->k=0):=by
 unfold DM.uB;rw[h];dsimp only;split
 ·rename_i he;refine⟨0,au _,?_,λ_=>rfl⟩
  grind
 ·rename_i he;refine⟨_,?_,rL,?_⟩
  ·split
   ·split
    ·rename_i p _ _;have:=Nat.mod_lt p.toNat (show 0<b.length-s+1 by omega)
     grind
    ·omega
   ·omega
  grind
theorem ado {cH:List Int} {n:ByteArray} : ∀(ns:List ByteArray) (x:DM×Nat),(ns.foldl (DM.uB cH) x).1.ks=x.1.ks/\(n ∉ ns->(ns.foldl (DM.uB cH) x).1.get n=x.1.get n)/\
  (ns.Nodup->n∈ns-> ∀b s,x.1.get n=some (b,s)->s<=b.length-> ∃k,k<=b.length-s/\(ns.foldl (DM.uB cH) x).1.get n=some (b.take (s+k),s+k)/\(cH=[]->k=0))
 |[],x=>⟨rfl,λ_=>rfl,λ_ h=>absurd h sQ⟩
 |a::ns,x=>by
  obtain⟨h1,h2,h3⟩:=ado (cH:=cH) (n:=n) ns (DM.uB cH x a);rw[List.foldl_cons];refine⟨h1.trans aj3,λhn=>?_,λhd hn b s hg hs=>?_⟩
  ·simp only[List.mem_cons,not_or] at hn;rw[h2 hn.2,Q5 hn.1]
  ·have KW:=List.nodup_cons.1 hd;by_cases e:n=a
   ·subst e;obtain⟨k,hk,xA,hz⟩:=afz (cH:=cH) hg hs;exact⟨k,hk,by grind,hz⟩
   ·refine h3 KW.2 ((List.mem_cons.1 hn).resolve_left e) b s ?_ hs;rw[Q5 e];exact hg
theorem Pr (m:DM) (cH:List Int):(m.mI cH).ks=m.ks:=(ado (cH:=cH) (n:=⟨#[]⟩) (fL m.ks) (m,0)).1
theorem Ug {m:DM} {s:Nat} (hd:m.ks.Nodup) (h:m.get n=some (b,s)) (hs:s<=b.length): ∃k,k<=b.length-s/\(m.mI cH).get n=some (b.take (s+k),s+k)/\(cH=[]->k=0):=by
 have hn:n∈m.ks:=DM.get_some.1 (by rw[h];rfl);have hp:=kP m.ks;obtain⟨_,_,h3⟩:=ado (cH:=cH) (n:=n) (fL m.ks) (m,0);exact h3 (hp.nodup_iff.2 hd) (hp.mem_iff.2 hn) b s h hs
theorem adp {m:DM} (hd:m.ks.Nodup) (h:m.get n=some (b,b.length)):(m.mI cH).get n=some (b,b.length):=by
 obtain⟨k,hk,hg,_⟩:=Ug (cH:=cH) hd h (aq _);simp_all
def flat (l:List (List Nat)):List Nat:=(l.map dt).flatten
theorem CL (a b:List (List Nat)):flat (a++b)=flat a++flat b:=by simp[flat]
theorem I5 (p:List Nat):flat [p]=dt p:=by simp[flat]
def gC:List dO->Prop
 |s::t::r=>t.first=s.first+s.bp.length/\s.bp≠[]/\gC (t::r)
 |_=>True
theorem gC.tail {r:List dO} (h:gC (s::r)):gC r:=by
 cases r with
 |nil=>trivial
 |cons t r=>exact h.2.2
theorem gC.lt: ∀{r:List dO} {s:dO},gC (s::r)-> ∀t∈r,s.first<t.first
 |[],_,_,_,h=>absurd h sQ
 |u::r,s,h,t,ht=>by
  have h1:=List.length_pos_iff.2 h.2.1;have h2:=h.1;rcases List.mem_cons.1 ht with rfl|ht
  ·omega
  ·have:=gC.lt h.2.2 t ht;omega
theorem gC.Sw: ∀{l:List dO},gC l->(l.map (·.first)).Pairwise (· < ·)
 |[],_=>by simp
 |s::r,h=>by
  rw[bD,List.pairwise_cons];refine⟨λn hn=>?_,gC.Sw h.tail⟩;obtain⟨t,ht,rfl⟩:=List.mem_map.1 hn;exact h.lt t ht
theorem gC.suffix: ∀{a b:List dO},gC (a++b)->gC b
 |[],_,h=>h
 |_::a,_,h=>gC.suffix (a:=a) h.tail
theorem gC.snoc {n:dO} : ∀{a:List dO},gC (a++[s])->n.first=s.first+s.bp.length->s.bp≠[]->gC (a++[s]++[n])
 |[],_,h1,h2=>⟨h1,h2,trivial⟩
 |[t],h,h1,h2=>⟨h.1,h.2.1,h1,h2,trivial⟩
 |t::u::a,h,h1,h2=>⟨h.1,h.2.1,gC.snoc (a:=u::a) h.2.2 h1 h2⟩
variable {s' : dO}
theorem gC.last (hf:s'.first=s.first): ∀{a:List dO},gC (a++[s])->gC (a++[s'])
 |[],_=>trivial
 |[t],h=>⟨hf.trans h.1,h.2.1,trivial⟩
 |t::u::a,h=>⟨h.1,h.2.1,gC.last hf (a:=u::a) h.2.2⟩
structure V5 (s:dO):Prop where
 one:1<=s.first
 top:s.first<=99999999/\s.first+s.bp.length<=100000000
 sz:s.size=(flat s.bp).length
 pl: ∀p∈s.bp,p.length<=262144/\xc p
structure Good (l:List dO):Prop where
 lk:gC l
 ok: ∀s∈l,V5 s
theorem Good.suffix {a b:List dO} (h:Good (a++b)):Good b:=⟨h.lk.suffix,λs hs=>h.ok s (List.mem_append_right _ hs)⟩
structure pA (dir:ByteArray) (pre:List dO) (s:dO) (lJ:List Nat) (sf:Nat) (m:DM):Prop where
 nd:m.ks.Nodup
 ks:m.ks.Perm ((pre++[s]).map λs=>bL dir s.first)
 body: ∀t∈pre,m.get (bL dir t.first)=some (flat t.bp,(flat t.bp).length)
 last:m.get (bL dir s.first)=some (flat s.bp++lJ,sf)
 sf:sf<=(flat s.bp++lJ).length
variable {pre : List dO}
theorem pA.ne (hg:Good (pre++[s])) {t:dO} (ht:t∈pre):bL dir t.first≠bL dir s.first:=λe=>by
 have h1:=hg.lk.Sw;rw[aJ] at h1;have h2:=(List.pairwise_append.1 h1).2.2 t.first (List.mem_map.2 ⟨t,ht,rfl⟩) s.first sQ
 have h3:=(hg.ok t (by simp[ht])).top;have h4:=(hg.ok s sQ).top;have:=LN zQ zQ e;omega
variable {sf : Nat} {lJ : List Nat}
theorem pA.mI {m:DM} (h:pA dir pre s lJ sf m) (hg:Good (pre++[s])):
  ∃k,k<=(flat s.bp++lJ).length-sf/\(cH=[]->k=0)/\(m.mI cH).ks=m.ks/\(∀t∈pre,(m.mI cH).get (bL dir t.first)=some (flat t.bp,(flat t.bp).length))/\
   (m.mI cH).get (bL dir s.first)=some ((flat s.bp++lJ).take (sf+k),sf+k):=by
 obtain⟨k,hk,DD,hz⟩:=Ug (cH:=cH) h.nd h.last h.sf;exact⟨k,hk,hz,Pr m cH,λt ht=>adp h.nd (h.body t ht),DD⟩
theorem Uh {l:List (List Nat)} (hl: ∀p∈l,p.length<=262144) (ht:mw lJ=none):jl (flat l++lJ)=(l,(flat l).length):=by
 unfold flat;rw[LA l lJ hl,Ep ht];simp
theorem I6:mw []=none:=xI (.inl sQ)
theorem vF {m:DM} {s:Nat} (h:m.get n=some (b,s)):m.bytes n=b:=by unfold DM.bytes;rw[h];rfl
theorem EJ {d:ByteArray} {r:Nat} {z:Int} :(⟨d,r,pre++[s],z⟩:LM).last=s:=by simp[LM.last]
theorem Yd {dir:ByteArray} {room:Nat} {m:DM} : ∀(Ui pre:List dO),gC (pre++Ui)->(∀t∈Ui,1<=t.first/\t.first<100000000/\jl (m.bytes (bL dir t.first))=(t.bp,t.size))->
  (∀t∈(pre++Ui).dropLast,(m.bytes (bL dir t.first)).length=t.size)->LD.pE ⟨⟨dir,room,pre,0⟩,m⟩ (Ui.map λs=>bL dir s.first)=(⟨⟨dir,room,pre++Ui,0⟩,m⟩,0)
 |[],pre,_,_,_=>by simp[LD.pE]
 |t::Ui,pre,hk,hs,hb=>by
  obtain⟨h1,h2,h3⟩:=hs t sQ;have hn:r6 dir (bL dir t.first)=t.first:=adn h2
  have hj:LD.GA ⟨⟨dir,room,pre,0⟩,m⟩ t.first=false:=by
   unfold LD.GA;simp only[decide_eq_false_iff_not];rintro⟨cj,hor⟩;obtain⟨p,u,rfl⟩: ∃p u,pre=p++[u]:=⟨_,_,(List.dropLast_concat_getLast cj).symm⟩;have an9:gC (u::t::Ui):=gC.suffix (a:=p) (by simpa using hk);have hu:(m.bytes (bL dir u.first)).length=u.size:=hb u (by
    rw[List.dropLast_append_of_ne_nil sQ];exact bJ _ sQ)
   rw[EJ] at hor;have e1:(⟨dir,room,p++[u],0⟩:LM).ff=bL dir u.first:=by unfold LM.ff;rw[EJ]
   have e2:(⟨dir,room,p++[u],0⟩:LM).next=u.first+u.bp.length:=by unfold LM.next;rw[EJ]
   rw[e1,e2] at hor;rcases hor with h|h
   ·omega
   ·exact h an9.1
  have eJ:LD.join ⟨⟨dir,room,pre,0⟩,m⟩ t.first (bL dir t.first)=(⟨⟨dir,room,pre++[t],0⟩,m⟩,0):=by
   unfold LD.join;rw[hj,if_neg pD];dsimp only;rw[h3]
  rw[bD];unfold LD.pE;dsimp only;rw[hn,if_neg zQ,eJ,if_neg sQ];have:=Yd (dir:=dir) (room:=room) (m:=m) Ui (pre++[t]) (by simpa using hk) (λx hx=>hs x (bQ _ hx)) (by simpa using hb);rw[this];simp
theorem I7 {m:DM} (h0:m.ar=0) (hd:m.dn=false):m.tick.ar=0/\m.tick.dn=false:=by
 unfold DM.tick
 grind
theorem afA {m:DM} (h0:m.ar=0) (hd:m.dn=false) (f:DM->DM):m.write 0 f=(f m.tick,0):=by
 unfold DM.write;rw[if_neg gQ,if_neg sQ,if_neg (by rw[(I7 h0 hd).2];simp)]
theorem pA.tick {m:DM} (h:pA dir pre s lJ sf m):pA dir pre s lJ sf m.tick:=by
 have e:m.tick.ks=m.ks:=by unfold DM.ks;rw[m.Aq]
 exact⟨by rw[e];exact h.nd,by rw[e];exact h.ks,λt ht=>by rw[m.qG];exact h.body t ht,by rw[m.qG];exact h.last,h.sf⟩
variable {sf' : Nat} {Q6 : List Nat}
theorem pA.put {m:DM} (h:pA dir pre s lJ sf m) (hg:Good (pre++[s])) (hf:s'.first=s.first) (hb:flat s'.bp++Q6=b) (hs:sf'<=b.length):
  pA dir pre s' Q6 sf' (m.put (bL dir s.first) b sf'):=by
 have ajg:(m.get (bL dir s.first)).isSome=true:=by rw[h.last];rfl
 refine⟨by rw[LO ajg];exact h.nd,?_,λt ht=>?_,?_,by grind⟩
 ·rw[LO ajg];have e:(pre++[s']).map (λs=>bL dir s.first)=(pre++[s]).map (λs=>bL dir s.first):=by simp[hf]
  rw[e];exact h.ks
 ·rw[LP (pA.ne hg ht)];exact h.body t ht
 ·rw[hf,hb];exact rL
theorem pA.kB {m:DM} (h:pA dir pre s lJ sf m) (hg:Good (pre++[s])):pA dir pre s lJ (flat s.bp++lJ).length (m.kB (bL dir s.first)):=by
 unfold DM.kB;rw[h.last];exact h.put hg rfl rfl (aq _)
theorem alH {room:Nat} {m:DM} (h:pA dir pre s lJ sf m) (hg:Good (pre++[s])) (ht:mw lJ=none) (h0:m.ar=0) (hd:m.dn=false):
  ∃m',LD.B1 dir room m=(⟨⟨dir,room,pre++[s],(s.first+s.bp.length:Nat)-1⟩,m'⟩,0)/\pA dir pre s [] (flat s.bp).length m'/\m'.ar=0/\m'.dn=false:=by
 have GC:=hg.ok s sQ;have XT:fL (m.fs.map (·.1))=(pre++[s]).map λs=>bL dir s.first:=by
  have e:(pre++[s]).map (λs=>bL dir s.first)=((pre++[s]).map (·.first)).map (bL dir):=by rw[bB];rfl
  rw[e];refine aaV (by rw[<-e];exact h.ks) hg.lk.Sw λn hn=>?_;obtain⟨t,ht,rfl⟩:=List.mem_map.1 hn;have:=(hg.ok t ht).top;omega
 have hj:=Yd (dir:=dir) (room:=room) (m:=m) (pre++[s]) [] (by simpa using hg.lk) (λt vV=>?_) (λt vV=>?_)
 ·rw[cx] at hj;have hL0:L0 dir room=⟨dir,room,[],0⟩:=rfl;have aoa: ∃m',LD.Hi ⟨⟨dir,room,pre++[s],0⟩,m⟩=(⟨⟨dir,room,pre++[s],(s.first+s.bp.length:Nat)-1⟩,m'⟩,0)/\pA dir pre s [] (flat s.bp).length m'/\m'.ar=0/\m'.dn=false:=by
   have eN:(⟨dir,room,pre++[s],0⟩:LM).ff=bL dir s.first:=by unfold LM.ff;rw[EJ]
   have eX:(⟨dir,room,pre++[s],0⟩:LM).next=s.first+s.bp.length:=by unfold LM.next;rw[EJ]
   have sync: ∀{m1:DM} {sf1:Nat},pA dir pre s [] sf1 m1->m1.ar=0->m1.dn=false-> ∃m',LD.sync ⟨⟨dir,room,pre++[s],0⟩,m1⟩=(⟨⟨dir,room,pre++[s],(s.first+s.bp.length:Nat)-1⟩,m'⟩,0)/\pA dir pre s [] (flat s.bp).length m'/\m'.ar=0/\m'.dn=false:=by
    intro m1 sf1 h1 a1 d1;have e:m1.sync (bL dir s.first)=(DM.kB (bL dir s.first) m1.tick,0):=by
     unfold DM.sync;rw[if_pos (by rw[h1.last];rfl),afA a1 d1]
    refine⟨DM.kB (bL dir s.first) m1.tick,?_,?_,?_,?_⟩
    ·unfold LD.sync;simp_all
    ·have:=h1.tick.kB hg
     grind
    ·unfold DM.kB;split
     ·exact(I7 a1 d1).1
     ·exact(I7 a1 d1).1
    ·unfold DM.kB;split
     ·exact(I7 a1 d1).2
     ·exact(I7 a1 d1).2
   unfold LD.Hi;dsimp only;rw[EJ,eN,vF h.last,GC.sz,aa];by_cases htn:lJ=[]
   ·subst htn;rw[if_neg sQ];exact sync h h0 hd
   ·have:=List.length_pos_iff.2 htn;rw[if_pos zQ];have hc:m.cut (bL dir s.first) (flat s.bp).length=(DM.DO (bL dir s.first) (flat s.bp).length m.tick,0):=by
     unfold DM.cut DM.Pj;rw[vF h.last,if_pos (by rw[h.last];rfl),aa,if_neg zQ,afA h0 hd];rfl
    rw[hc,if_neg sQ];have hcd:pA dir pre s [] (min sf (flat s.bp).length) (DM.DO (bL dir s.first) (flat s.bp).length m.tick):=by
     unfold DM.DO;rw[h.tick.last];dsimp only;rw[List.take_left];exact h.tick.put hg rfl (gI _) (AZ _ _)
    have alI:(DM.DO (bL dir s.first) (flat s.bp).length m.tick).ar=0/\(DM.DO (bL dir s.first) (flat s.bp).length m.tick).dn=false:=by
     unfold DM.DO;split
     ·exact I7 h0 hd
     ·exact I7 h0 hd
    exact sync hcd alI.1 alI.2
  obtain⟨m',e1,e2⟩:=aoa;refine⟨m',?_,e2⟩;unfold LD.B1;simp_all
 ·have yN:=hg.ok t vV;refine⟨yN.one,by have:=yN.top;omega,?_⟩;rw[yN.sz];rcases List.mem_append.1 vV with vV|vV
  ·rw[vF (h.body t vV)];have:=Uh (l:=t.bp) (lJ:=[]) (λp hp=>(yN.pl p hp).1) I6
   grind
  ·simp only[aw] at vV;subst vV;rw[vF h.last];exact Uh (λp hp=>(yN.pl p hp).1) ht
 ·rw[cx,jN] at vV;rw[vF (h.body t vV),(hg.ok t (by simp[vV])).sz]
def Ye (dir:ByteArray) (P:List dO->Prop) (m:DM):Prop:=
 m.fs.length<=64/\ ∀cH,∃pre s lJ sf,P (pre++[s])/\Good (pre++[s])/\mw lJ=none/\xc lJ/\pA dir pre s lJ sf (m.mI cH)
def Fv (dir:ByteArray) (P:List dO->Prop) (m:DM):Prop:=m.dn=true/\Ye dir P m
variable {Q : List dO -> Prop}
theorem Ye.imp {P:List dO->Prop} {m:DM} (h:Ye dir P m) (k: ∀l s,P (l++[s])->Q (l++[s])):Ye dir Q m:=
 ⟨h.1,λcH=>let⟨a,b,c,d,e,f⟩:=h.2 cH;⟨a,b,c,d,k _ _ e,f⟩⟩
theorem Fv.imp {P:List dO->Prop} {m:DM} (h:Fv dir P m) (k: ∀l,P l->Q l):Fv dir Q m:=⟨h.1,h.2.imp λ_ _=>k _⟩
theorem uC {a:List Nat} (ha:xc a) (hb:xc b):xc (a++b):=λx hx=>(List.mem_append.1 hx).elim (ha x) (hb x)
theorem SD (n:Nat):xc (uA n):=by
 intro x hx;unfold uA at hx;simp at hx;omega
theorem Uj (h:xc p):xc (dt p):=uC (uC (uC (SD _) (SD _)) h) (SD _)
theorem adq (hk:k<(dt p).length) (hp:p.length<=262144):mw ((dt p).take k)=none:=by
 have hl:=rn p;by_cases h:k<12
 ·exact xI (.inl gQ)
 ·have e1:iT (dt p)=p.length:=by
   unfold dt;simp only[ak];exact I2 _ zQ _
  have e2:iT ((dt p).take k)=p.length:=by
   rw[<-e1,Ii,Ii];rw[fM zQ,fM zQ,fM zQ,fM zQ]
  refine xI (.inr (.inr (.inr ?_)))
  grind
section
variable {m : DM}
theorem pA.re {m':DM} (h:pA dir pre s lJ sf m) (hk:m'.ks=m.ks) (hb: ∀t∈pre,m'.get (bL dir t.first)=m.get (bL dir t.first)) (hf:s'.first=s.first)
  (hl:m'.get (bL dir s.first)=some (flat s'.bp++Q6,sf')) (hs:sf'<=(flat s'.bp++Q6).length):pA dir pre s' Q6 sf' m':=by
 refine⟨by rw[hk];exact h.nd,?_,λt ht=>by rw[hb t ht];exact h.body t ht,by grind,hs⟩;rw[hk];have e:(pre++[s']).map (λs=>bL dir s.first)=(pre++[s]).map (λs=>bL dir s.first):=by simp[hf]
 rw[e];exact h.ks
theorem Yf (h:pA dir pre s [] (flat s.bp).length m) (hg:Good (pre++[s])) (hl:m.fs.length<=64):Ye dir (λl=>l=pre++[s]) m:=by
 refine⟨hl,λcH=>?_⟩;obtain⟨k,hk,_,h1,h2,h3⟩:=h.mI (cH:=cH) hg;rw[gI] at hk h3;have iw:k=0:=by omega
 subst iw;refine⟨pre,s,[],(flat s.bp).length,rfl,hg,I6,λx hx=>(by cases hx),h.re h1 (λt ht=>by rw[h2 t ht,h.body t ht]) rfl ?_ sQ⟩
 grind
theorem Uk (h:pA dir pre s [] (flat s.bp).length m) (hg:Good (pre++[s])) (hl:m.fs.length<=64) (hd:m.dn=true):Fv dir (λl=>l=pre++[s]) m:=⟨hd,Yf h hg hl⟩
abbrev dO.plus (s:dO) (p:List Nat):dO:=⟨s.first,s.bp++[p],s.size+(dt p).length⟩
theorem Ul (h:pA dir pre s (dt p) (flat s.bp).length m) (hg:Good (pre++[s])) (xA:Good (pre++[s.plus p])) (hp:p.length<=262144) (hl:m.fs.length<=64) (hd:m.dn=true):Fv dir (λl=>l=pre++[s]\/l=pre++[s.plus p]) m:=by
 refine⟨hd,hl,λcH=>?_⟩;have Il:xc (dt p):=Uj ((xA.ok (s.plus p) sQ).pl p sQ).2;obtain⟨k,hk,_,h1,h2,h3⟩:=h.mI (cH:=cH) hg;rw[aa] at hk;rw[List.take_append,ax (Nat.le_add_right _ _),Nat.add_sub_cancel_left] at h3;by_cases sI:k<(dt p).length
 ·refine⟨pre,s,(dt p).take k,(flat s.bp).length+k,.inl rfl,hg,adq sI hp,λx hx=>Il x (dL hx),h.re h1 (λt ht=>by rw[h2 t ht,h.body t ht]) rfl h3 (by simp_all)⟩
 ·refine⟨pre,s.plus p,[],(flat s.bp).length+k,.inr rfl,xA,I6,λx hx=>(by cases hx),h.re h1 (λt ht=>by rw[h2 t ht,h.body t ht]) rfl ?_ ?_⟩
  ·rw[h3,ax zQ,CL,I5,gI]
  ·rw[CL,I5,gI,aa];omega
end
theorem Hj {m:DM} (hd:m.dn=false) (f:DM->DM):(m.tick.dn=true/\m.write 0 f=(m.tick,12))\/(m.tick.dn=false/\m.write 0 f=(f m.tick,0)):=by
 cases h:m.tick.dn with
 |true=>left;exact⟨rfl,by unfold DM.write;grind⟩
 |false=>right;exact⟨rfl,by unfold DM.write;grind⟩
structure oY (x:LD) (pre:List dO) (s:dO):Prop where
 bu:x.L.bu=pre++[s]
 g:Good (pre++[s])
 d:pA x.L.dir pre s [] (flat s.bp).length x.m
 dn:x.m.dn=false
 sz:x.m.sz<=4194304
 fl:x.m.fs.length<=64
 d1:1<=x.L.dir.size
 d2:x.L.dir.size<=11
 r1:64<=x.L.room
 r2:x.L.room<=262144
section
variable {x : LD}
theorem oY.last (h:oY x pre s):x.L.last=s:=by unfold LM.last;rw[h.bu];simp
theorem oY.name (h:oY x pre s):x.L.ff=bL x.L.dir s.first:=by unfold LM.ff;rw[h.last]
theorem oY.next (h:oY x pre s):x.L.next=s.first+s.bp.length:=by unfold LM.next;rw[h.last]
theorem Yg (m:DM) (n:ByteArray):(m.kB n).dn=m.dn:=by unfold DM.kB;split<;>rfl
theorem Um (m:DM) (n:ByteArray):(m.kB n).fs.length=m.fs.length:=by
 have:(m.kB n).ks=m.ks:=by
  unfold DM.kB;split
  ·rfl
  ·grind [LO]
 have:=congrArg az this
 grind [DM.vY]
theorem Cp (m:DM):m.tick.fs.length=m.fs.length:=by rw[m.Aq]
theorem oY.sync (h:oY x pre s):(x.sync.2=12/\Fv x.L.dir (λl=>l=pre++[s]) x.sync.1.m)\/(x.sync.2=0/\oY x.sync.1 pre s/\x.sync.1.L= { x.L with safe:=(x.L.next:Int)-1 } /\x.sync.1.m.sz=x.m.sz):=by
 have e:x.m.sync x.L.ff=x.m.write 0 (DM.kB (bL x.L.dir s.first)):=by
  unfold DM.sync;rw[h.name,if_pos (by rw[h.d.last];rfl)]
 unfold LD.sync;dsimp only;rw[e];rcases Hj h.dn (DM.kB (bL x.L.dir s.first))with⟨ht,hw⟩|⟨ht,hw⟩
 ·rw[hw];exact .inl ⟨rfl,Uk h.d.tick h.g (by rw[Cp];exact h.fl) ht⟩
 ·rw[hw];have hd:=h.d.tick.kB h.g;rw[gI] at hd;exact .inr ⟨rfl,⟨h.bu,h.g,hd,by rw[Yg];exact ht,by dsimp only;rw[DM.Fu,x.m.yu];exact h.sz,by dsimp only;rw[Um,Cp];exact h.fl,h.d1,h.d2,h.r1,h.r2⟩,rfl,by dsimp only;rw[DM.Fu,x.m.yu]⟩
end
def fA (l:List dO):List (List Nat):=(l.map (·.bp)).flatten
def oN (l:List dO):Option Nat:=l.head?.map (·.first)
theorem aaW (l:List dO) (s:dO):fA (l++[s])=fA l++s.bp:=by simp[fA]
theorem OH (l:List dO) (s:dO) (p:List Nat):fA (l++[s.plus p])=fA (l++[s])++[p]:=by simp[fA]
theorem Q7 (l:List dO) (s s':dO) (h:s'.first=s.first):oN (l++[s'])=oN (l++[s]):=by grind [oN]
theorem adr (l:List dO) (s n:dO):oN (l++[s]++[n])=oN (l++[s]):=by
 cases l with
 |nil=>rfl
 |cons a l=>rfl
theorem V5.plus (h:V5 s) (hp:p.length<=262144) (hb:xc p) (hn:s.first+s.bp.length<=99999999):V5 (s.plus p):=by
 refine⟨h.one,⟨h.top.1,by simp;omega⟩,?_,λq hq=>?_⟩
 ·show s.size+(dt p).length=_
  rw[h.sz,CL,I5,aa]
 ·rcases List.mem_append.1 hq with hq|hq
  ·exact h.pl q hq
  grind
theorem Good.plus (h:Good (pre++[s])) (hp:p.length<=262144) (hb:xc p) (hn:s.first+s.bp.length<=99999999):Good (pre++[s.plus p]):=by
 refine⟨gC.last (s:=s) (s':=s.plus p) rfl h.lk,λt ht=>?_⟩;rcases List.mem_append.1 ht with ht|ht
 ·exact h.ok t (bJ _ ht)
 ·simp only[aw] at ht;subst ht;exact(h.ok s sQ).plus hp hb hn
theorem Good.more (h:Good (pre++[s])) (hr:s.bp≠[]) (hn:s.first+s.bp.length<=99999999):Good (pre++[s]++[⟨s.first+s.bp.length,[],0⟩]):=by
 refine⟨h.lk.snoc rfl hr,λt ht=>?_⟩;rcases List.mem_append.1 ht with ht|ht
 ·exact h.ok t ht
 ·simp only[aw] at ht;subst ht;have:=(h.ok s sQ).one;exact⟨by simp;omega,⟨by omega,by simp;omega⟩,by rfl,λp hp=>by cases hp⟩
section
variable {x : LD}
theorem oY.iI (h:oY x pre s) (hr:s.bp≠[]) (hn:x.L.next<=99999999):
  ((x.iI x.L.next).2=12/\Fv x.L.dir (λl=>l=pre++[s]) (x.iI x.L.next).1.m/\(x.iI x.L.next).1.L=x.L)\/((x.iI x.L.next).2=3/\(x.iI x.L.next).1=x/\64<=x.m.fs.length)\/
  ((x.iI x.L.next).2=0/\oY (x.iI x.L.next).1 (pre++[s]) ⟨x.L.next,[],0⟩/\(x.iI x.L.next).1.L= { x.L with bu:=x.L.bu++[⟨x.L.next,[],0⟩] } /\(x.iI x.L.next).1.m.sz=x.m.sz):=by
 have nJ:=h.next
 have rG:=List.length_pos_iff.2 hr;have hnk: ¬(x.m.get (bL x.L.dir x.L.next)).isSome=true:=λe=>by
  have:=h.d.ks.mem_iff.1 (DM.get_some.1 e);obtain⟨t,ht,e2⟩:=List.mem_map.1 this;have yN:=(h.g.ok t ht).top;have:=LN zQ zQ e2;rcases List.mem_append.1 ht with ht|ht
  ·have h1:=h.g.lk.Sw;rw[aJ] at h1;have:=(List.pairwise_append.1 h1).2.2 t.first (List.mem_map.2 ⟨t,ht,rfl⟩) s.first sQ
   omega
  grind
 have zn:vZ (bL x.L.dir x.L.next)=true:=by
  have:=h.d1;have:=h.d2;simp only[vZ,A2,decide_eq_true_eq];omega
 unfold LD.iI;dsimp only;unfold DM.create;rw[if_neg (by simp[zn]),if_neg hnk];by_cases hl:64<=x.m.fs.length
 ·right;left;rw[if_pos hl];have e:x.m.write 3 (λm=>m.put (bL x.L.dir x.L.next) [] 0)=(x.m,3):=by unfold DM.write;rw[if_neg (by rw[h.dn];simp),if_pos sQ]
  simp_all
 ·rw[if_neg hl];rcases Hj h.dn (λm=>m.put (bL x.L.dir x.L.next) [] 0)with⟨ht,hw⟩|⟨ht,hw⟩
  ·left;rw[hw];exact⟨rfl,Uk h.d.tick h.g (by rw[Cp];omega) ht,rfl⟩
  ·right;right;rw[hw,if_pos rfl];have kO:x.m.tick.get (bL x.L.dir x.L.next)=none:=by
    rw[x.m.qG];cases hq:x.m.get (bL x.L.dir x.L.next)with
    |none=>rfl
    |some y=>grind
   have AR:(x.m.tick.put (bL x.L.dir x.L.next) [] 0).ks=x.m.ks++[bL x.L.dir x.L.next]:=by
    show(cI (bL x.L.dir x.L.next) ([],0) x.m.tick.fs).map (·.1)=_
    rw[xN,x.m.Aq,if_neg (show¬(getM (bL x.L.dir x.L.next) x.m.fs).isSome=true from hnk)];rfl
   have gy:bL x.L.dir x.L.next ∉ x.m.ks:=λhm=>hnk (DM.get_some.2 hm)
   have xA:=h.g.more hr zQ;rw[<-nJ] at xA;have ads: ∀t∈pre++[s],(x.m.tick.put (bL x.L.dir x.L.next) [] 0).get (bL x.L.dir t.first)=some (flat t.bp,(flat t.bp).length):=λt ht=>by
    rw[LP,x.m.qG]
    ·rcases List.mem_append.1 ht with ht|ht
     ·exact h.d.body t ht
     ·simp only[aw] at ht;subst ht;have:=h.d.last
      grind
    ·intro e;refine gy (e▸h.d.ks.mem_iff.2 (List.mem_map.2 ⟨t,ht,rfl⟩))
   have iR:(x.m.tick.put (bL x.L.dir x.L.next) [] 0).fs.length=x.m.fs.length+1:=by
    have:=congrArg az AR;rw[aa,DM.vY,DM.vY] at this;exact this
   have alJ:(x.m.tick.put (bL x.L.dir x.L.next) [] 0).sz=x.m.sz:=by
    rw[DM.SC kO,x.m.yu];simp
   refine⟨rfl,⟨by dsimp only;rw[h.bu],xA,⟨?_,?_,ads,?_,by simp⟩,ht,by dsimp only;rw[alJ];exact h.sz,?_,h.d1,h.d2,h.r1,h.r2⟩,rfl,alJ⟩
   ·dsimp only;rw[AR,List.nodup_append];exact⟨h.d.nd,by simp,λa ha b hb e=>gy gQ⟩
   ·dsimp only;rw[AR,aJ];exact h.d.ks.append (List.Perm.refl _)
   ·exact rL
   grind
theorem oY.adt (h:oY x pre s) (hn:x.L.next<=99999999):
  (x.room.2=12/\Fv x.L.dir (λl=>l=pre++[s]) x.room.1.m/\x.room.1.L.bu=x.L.bu/\x.room.1.L.dir=x.L.dir/\x.room.1.L.room=x.L.room)\/(x.room.2=3/\oY x.room.1 pre s/\x.room.1.L.dir=x.L.dir/\x.room.1.L.room=x.L.room/\64<=x.m.fs.length/\x.L.room<=s.size)\/
  (x.room.2=0/\ ∃pd s',oY x.room.1 pd s'/\x.room.1.L.next=x.L.next/\x.room.1.L.dir=x.L.dir/\x.room.1.L.room=x.L.room/\x.room.1.m.sz=x.m.sz/\((pd=pre/\s'=s/\ ¬x.L.room<=s.size)\/(pd=pre++[s]/\s'=⟨x.L.next,[],0⟩/\x.L.room<=s.size))):=by
 unfold LD.room;rw[h.last];by_cases hr:x.L.room<=s.size
 ·rw[if_pos hr];have cj:s.bp≠[]:=λe=>by
   have h1:=(h.g.ok s sQ).sz;have h2:=h.r1
   grind [flat]
  dsimp only;rcases h.sync with⟨e,hf⟩|⟨e,hu,eL,eS⟩
  ·left;have LL:x.sync.1.L.bu=x.L.bu/\x.sync.1.L.dir=x.L.dir/\x.sync.1.L.room=x.L.room:=by
    unfold LD.sync;dsimp only;grind
   grind
  ·rw[if_neg zQ];have nJ:x.sync.1.L.next=x.L.next:=by rw[hu.next,h.next]
   have alK:x.sync.1.L.dir=x.L.dir:=by rw[eL]
   have Lh:x.sync.1.L.room=x.L.room:=by rw[eL]
   have OJ:x.sync.1.m.fs.length=x.m.fs.length:=by
    have h1:=h.d.ks.length_eq;have h2:=hu.d.ks.length_eq;rw[DM.vY] at h1 h2;rw[h1,h2];simp
   rw[<-nJ];rcases hu.iI cj zQ with⟨a,b,c⟩|⟨a,b,c⟩|⟨a,b,c,d⟩
   ·left
    grind
   ·right;left
    grind
   ·right;right;refine⟨a,_,_,b,?_,by grind,by grind,d.trans eS,.inr ⟨rfl,rfl,hr⟩⟩;rw[b.next];simp
 ·rw[if_neg hr]
  grind
end
section
variable {x : LD}
structure Lay (x:LD) (pre:List dO) (s:dO) (p:List Nat):Prop where
 bu:x.L.bu=pre++[s.plus p]
 g0:Good (pre++[s])
 g:Good (pre++[s.plus p])
 d:pA x.L.dir pre s (dt p) (flat s.bp).length x.m
 pl:p.length<=262144
 dn:x.m.dn=false
 sz:x.m.sz<=4194304
 fl:x.m.fs.length<=64
 d1:1<=x.L.dir.size
 d2:x.L.dir.size<=11
 r1:64<=x.L.room
 r2:x.L.room<=262144
theorem Lay.last (h:Lay x pre s p):x.L.last=s.plus p:=by unfold LM.last;rw[h.bu];simp
theorem Lay.sync (h:Lay x pre s p):(x.sync.2=12/\Fv x.L.dir (λl=>l=pre++[s]\/l=pre++[s.plus p]) x.sync.1.m)\/(x.sync.2=0/\oY x.sync.1 pre (s.plus p)/\x.sync.1.L.dir=x.L.dir/\x.sync.1.L.room=x.L.room):=by
 have hn:x.L.ff=bL x.L.dir s.first:=by unfold LM.ff;rw[h.last]
 have e:x.m.sync x.L.ff=x.m.write 0 (DM.kB (bL x.L.dir s.first)):=by
  unfold DM.sync;rw[hn,if_pos (by rw[h.d.last];rfl)]
 unfold LD.sync;dsimp only;rw[e];rcases Hj h.dn (DM.kB (bL x.L.dir s.first))with⟨ht,hw⟩|⟨ht,hw⟩
 ·rw[hw];exact .inl ⟨rfl,Ul h.d.tick h.g0 h.g h.pl (by rw[Cp];exact h.fl) ht⟩
 ·rw[hw];have hd:=h.d.tick.kB h.g0;have iR:flat s.bp++dt p=flat (s.plus p).bp:=by show _=flat (s.bp++[p]);rw[CL,I5]
  have qh:pA x.L.dir pre (s.plus p) [] (flat (s.plus p).bp).length (x.m.tick.kB (bL x.L.dir s.first)):=by
   refine hd.re rfl (λ_ _=>rfl) rfl ?_ sQ;rw[hd.last,iR,gI]
  exact .inr ⟨rfl,⟨h.bu,h.g,qh,by rw[Yg];exact ht,by dsimp only;rw[DM.Fu,x.m.yu];exact h.sz,by dsimp only;rw[Um,Cp];exact h.fl,h.d1,h.d2,h.r1,h.r2⟩,rfl,rfl⟩
theorem oY.lay (h:oY x pre s) (hp:p.length<=262144) (hb:xc p) (hn:x.L.next<=99999999):
  ((x.lay p).2=12/\Fv x.L.dir (λl=>l=pre++[s]\/l=pre++[s.plus p]) (x.lay p).1.m/\(x.lay p).1.L=x.L)\/((x.lay p).2=11/\(x.lay p).1=x/\4194304<x.m.sz+(dt p).length)\/
  ((x.lay p).2=0/\Lay (x.lay p).1 pre s p/\(x.lay p).1.L=x.L.add p):=by
 have nJ:=h.next
 have xA:=h.g.plus hp hb zQ;have hl:=h.d.last;rw[gI] at hl;have eA:x.m.append (bL x.L.dir s.first) (dt p)=if 4194304-x.m.sz<(dt p).length then(x.m,11)else(x.m.tick.put (bL x.L.dir s.first) (flat s.bp++dt p) (flat s.bp).length,if x.m.tick.dn then 12 else 0):=by
  unfold DM.append;rw[hl,if_neg (by rw[h.dn];simp)]
 unfold LD.lay;dsimp only;rw[h.name];by_cases gd:4194304-x.m.sz<(dt p).length
 ·right;left;rw[if_pos gd] at eA;rw[eA];exact⟨rfl,rfl,by omega⟩
 ·rw[if_neg gd] at eA;have cC:x.m.tick.get (bL x.L.dir s.first)=some (flat s.bp,(flat s.bp).length):=by rw[x.m.qG];exact hl
  have hd:pA x.L.dir pre s (dt p) (flat s.bp).length (x.m.tick.put (bL x.L.dir s.first) (flat s.bp++dt p) (flat s.bp).length):=
   h.d.tick.put h.g rfl rfl gQ
  have jz:(x.m.tick.put (bL x.L.dir s.first) (flat s.bp++dt p) (flat s.bp).length).dn=x.m.tick.dn:=rfl;have iR:(x.m.tick.put (bL x.L.dir s.first) (flat s.bp++dt p) (flat s.bp).length).fs.length<=64:=by
   have hk:(x.m.tick.put (bL x.L.dir s.first) (flat s.bp++dt p) (flat s.bp).length).ks=x.m.tick.ks:=LO gQ;have:=congrArg az hk;rw[DM.vY,DM.vY,Cp] at this;rw[this];exact h.fl
  cases ht:x.m.tick.dn with
  |true=>
   left;rw[ht,if_pos rfl] at eA;rw[eA];exact⟨rfl,Ul hd h.g xA hp iR (jz.trans ht),rfl⟩
  |false=>
   right;right;rw[ht,if_neg pD] at eA;rw[eA,if_pos rfl];refine⟨rfl,⟨?_,h.g,xA,hd,hp,jz.trans ht,?_,?_,h.d1,h.d2,h.r1,h.r2⟩,rfl⟩
   ·show x.L.bu.dropLast++[⟨x.L.last.first,x.L.last.bp++[p],x.L.last.size+(dt p).length⟩]=_
    rw[h.last,h.bu,jN]
   ·have:=DM.LC (bs:=flat s.bp++dt p) (s':=(flat s.bp).length) cC;rw[aa,x.m.yu] at this;have:=h.sz;dsimp only;omega
   omega
structure Kept (x:LD) (pre:List dO) (s:dO) (p:List Nat) (y:LD) (pd:List dO) (s':dO):Prop where
 up:oY y pd s'
 fst:oN (pd++[s'])=oN (pre++[s])
 dir:y.L.dir=x.L.dir
 room:y.L.room=x.L.room
theorem oY.iG (h:oY x pre s) (hp:p.length<=262144) (hb:xc p):
  ((x.iG 0 p).2.2=12/\Fv x.L.dir (λl=>oN l=oN (pre++[s])/\(fA l=fA (pre++[s])\/fA l=fA (pre++[s])++[p])/\((∀t∈pre,x.L.room<=t.size)-> ∀t∈l.dropLast,x.L.room<=t.size)) (x.iG 0 p).1.m)\/
  ((x.iG 0 p).2.2=0/\(x.iG 0 p).2.1=x.L.next/\ ∃pd s',Kept x pre s p (x.iG 0 p).1 pd s'/\fA (pd++[s'])=fA (pre++[s])++[p]/\
   ((pd=pre/\s'=s.plus p/\ ¬x.L.room<=s.size)\/(pd=pre++[s]/\s'=⟨x.L.next,[p],(dt p).length⟩/\x.L.room<=s.size)))\/
  ((x.iG 0 p).2.2≠0/\(x.iG 0 p).2.2≠12/\(∃pd s',Kept x pre s p (x.iG 0 p).1 pd s'/\fA (pd++[s'])=fA (pre++[s]))/\(99999999<x.L.next\/(64<=x.m.fs.length/\x.L.room<=s.size)\/4194304<x.m.sz+(dt p).length)):=by
 have nJ:=h.next
 have eK:x.iG 0 p=if(x.append p).2.2≠0 then x.append p else((x.append p).1.sync.1,(x.append p).2.1,(x.append p).1.sync.2):=by
  unfold LD.iG;rw[if_neg sQ]
 have eA:x.append p=if 99999999<x.L.next then(x,0,1)else if x.room.2≠0 then(x.room.1,0,x.room.2)else if(x.room.1.lay p).2≠0 then((x.room.1.lay p).1,0,(x.room.1.lay p).2)else((x.room.1.lay p).1,x.L.next,0):=by
  unfold LD.append;rw[if_neg zQ]
 by_cases hn:99999999<x.L.next
 ·right;right;rw[if_pos hn] at eA;rw[eA,if_pos sQ] at eK;rw[eK];exact⟨by simp,by simp,⟨pre,s,⟨h,rfl,rfl,rfl⟩,rfl⟩,.inl hn⟩
 ·rw[if_neg hn] at eA;rcases h.adt zQ with⟨a,b,c,d,e⟩|⟨a,b,c,d,e,f⟩|⟨a,pd,s',b,c,d,e,Yh,f⟩
  ·left;rw[if_pos zQ] at eA;rw[eA,if_pos (by rw[a];simp)] at eK;rw[eK];exact⟨a,b.imp λl hl=>by grind⟩
  ·right;right;rw[if_pos zQ] at eA;rw[eA,if_pos (by rw[a];simp)] at eK;rw[eK];exact⟨by rw[a];simp,by rw[a];simp,⟨pre,s,⟨b,rfl,c,d⟩,rfl⟩,.inr (.inl ⟨e,f⟩)⟩
  ·rw[if_neg zQ] at eA;have Df:oN (pd++[s'])=oN (pre++[s]):=by
    rcases f with⟨rfl,rfl,_⟩|⟨rfl,rfl,_⟩
    ·rfl
    ·exact adr _ _ _
   have pz:fA (pd++[s'])=fA (pre++[s]):=by
    rcases f with⟨rfl,rfl,_⟩|⟨rfl,rfl,_⟩
    ·rfl
    ·rw[aaW];simp
   have C1: ∀z:dO,(∀t∈pre,x.L.room<=t.size)-> ∀t∈(pd++[z]).dropLast,x.L.room<=t.size:=λz hq t ht=>by
    rw[jN] at ht;rcases f with⟨rfl,_,_⟩|⟨rfl,_,f⟩
    ·grind
    ·rcases List.mem_append.1 ht with ht|ht
     ·grind
     ·rw[aw] at ht;grind
   rcases b.lay hp hb zQ with⟨a1,b1,c1⟩|⟨a1,b1,c1⟩|⟨a1,b1,c1⟩
   ·left;rw[if_pos zQ] at eA;rw[eA,if_pos (by rw[a1];simp)] at eK;rw[eK];rw[d] at b1;refine⟨a1,b1.imp λl hl=>?_⟩;rcases hl with rfl|rfl
    ·exact⟨Df,.inl pz,C1 _⟩
    ·exact⟨(Q7 pd s' (s'.plus p) rfl).trans Df,.inr (by rw[OH,pz]),C1 _⟩
   ·right;right;rw[if_pos zQ] at eA;rw[eA,if_pos (by rw[a1];simp)] at eK;rw[eK,b1];exact⟨by rw[a1];simp,by rw[a1];simp,⟨pd,s',⟨b,Df,d,e⟩,pz⟩,.inr (.inr zQ)⟩
   ·rw[if_neg zQ] at eA;rw[eA,if_neg sQ] at eK;rw[eK];have Fi:(x.room.1.lay p).1.L.dir=x.L.dir:=by rw[c1];exact d
    have rG:(x.room.1.lay p).1.L.room=x.L.room:=by rw[c1];exact e
    have Qw:oN (pd++[s'.plus p])=oN (pre++[s]):=(Q7 pd s' (s'.plus p) rfl).trans Df;have jI:fA (pd++[s'.plus p])=fA (pre++[s])++[p]:=by rw[OH,pz]
    rcases b1.sync with⟨a2,b2⟩|⟨a2,b2,c2,d2⟩
    ·left;rw[Fi] at b2;refine⟨a2,b2.imp λl hl=>?_⟩;rcases hl with rfl|rfl
     ·exact⟨Df,.inl pz,C1 _⟩
     ·exact⟨Qw,.inr jI,C1 _⟩
    ·right;left;refine⟨a2,rfl,pd,s'.plus p,⟨b2,Qw,c2.trans Fi,d2.trans rG⟩,jI,?_⟩;rcases f with⟨rfl,rfl,f⟩|⟨rfl,rfl,f⟩
     ·exact .inl ⟨rfl,rfl,f⟩
     ·exact .inr ⟨rfl,by simp[dO.plus],f⟩
end
section
variable {x : LD} {a : dO}
end
def LGr (L L':LM) (p:List Nat):Prop:=
 L'.dir=L.dir/\L'.room=L.room/\(L'.bu=L.bu\/L'.bu=L.bu++[⟨L.next,[],0⟩]\/L'.bu=L.bu.dropLast++[L.last.plus p]\/L'.bu=L.bu++[⟨L.next,[p],(dt p).length⟩])
theorem alL (x:LD):x.sync.1.L.dir=x.L.dir/\x.sync.1.L.room=x.L.room/\x.sync.1.L.bu=x.L.bu:=by grind [LD.sync]
theorem alM (x:LD) (n:Nat):(x.iI n).1.L.dir=x.L.dir/\(x.iI n).1.L.room=x.L.room/\((x.iI n).1.L.bu=x.L.bu\/(x.iI n).1.L.bu=x.L.bu++[⟨n,[],0⟩]):=by grind [LD.iI]
theorem alN (x:LD):x.room.1.L.dir=x.L.dir/\x.room.1.L.room=x.L.room/\(x.room.1.L.bu=x.L.bu\/x.room.1.L.bu=x.L.bu++[⟨x.L.next,[],0⟩]):=by
 obtain⟨a,b,c⟩:=alL x;unfold LD.room;split
 ·dsimp only;split
  ·grind
  ·obtain⟨d,e,f⟩:=alM x.sync.1 x.L.next
   grind
 grind
theorem ahF (x:LD) (p:List Nat):LGr x.L (x.append p).1.L p:=by
 obtain⟨a,b,c⟩:=alN x;have key:LGr x.L x.room.1.L p:=⟨a,b,c.imp id .inl⟩;have hq:LGr x.L (x.room.1.lay p).1.L p:=by
  unfold LD.lay;dsimp only;split
  ·refine⟨a,b,?_⟩
   show x.room.1.L.bu.dropLast++[⟨x.room.1.L.last.first,x.room.1.L.last.bp++[p],x.room.1.L.last.size+(dt p).length⟩]=_\/x.room.1.L.bu.dropLast++[⟨x.room.1.L.last.first,x.room.1.L.last.bp++[p],x.room.1.L.last.size+(dt p).length⟩]=_\/x.room.1.L.bu.dropLast++[⟨x.room.1.L.last.first,x.room.1.L.last.bp++[p],x.room.1.L.last.size+(dt p).length⟩]=_\/x.room.1.L.bu.dropLast++[⟨x.room.1.L.last.first,x.room.1.L.last.bp++[p],x.room.1.L.last.size+(dt p).length⟩]=_
   have hl:x.room.1.L.last=x.room.1.L.bu.getLast?.getD ⟨0,[],0⟩:=rfl;rcases c with c|c
   ·right;right;left;have:x.room.1.L.last=x.L.last:=by rw[hl,c];rfl
    rw[c,this]
   simp_all
  ·exact key
 unfold LD.append;split
 ·exact⟨rfl,rfl,.inl rfl⟩
 ·split
  ·exact⟨rfl,rfl,.inl rfl⟩
  grind
section
variable {x : LD}
theorem oY.adu (h:oY x pre s): ∀t∈x.L.bu,t.first+t.bp.length<=100000000/\t.size<=4194304:=λt ht=>by
 rw[h.bu] at ht;have h1:=h.g.ok t ht;refine⟨h1.top.2,?_⟩;rw[h1.sz];rcases List.mem_append.1 ht with ht|ht
 ·exact ad (DM.Cn (h.d.body t ht)) h.sz
 ·simp only[aw] at ht;subst ht;have:=DM.Cn h.d.last;rw[gI] at this;exact ad this h.sz
theorem oY.adv (h:oY x pre s):x.L.bu.length<=64:=by
 have h1:=h.d.ks.length_eq;rw[DM.vY,ai,<-h.bu] at h1;have:=h.fl;omega
theorem oY.LK (h:oY x pre s):pM x.L:=
 ⟨by rw[h.bu];simp,h.d1,h.d2,λt ht=>by have:=h.adu t ht;omega,ad h.r2 dQ⟩
theorem LGr.LK {L':LM} (hg:LGr x.L L' p) (h:oY x pre s) (hp:p.length<=262144):pM L'/\L'.bu.length<=65:=by
 have hN:=h.adv;have hB:=h.adu;have iR:=rn p;have lN:x.L.last∈x.L.bu:=LM.xL (by rw[h.bu];simp);have zi:=hB _ lN;have nJ:x.L.next<=100000000:=zi.1
 obtain⟨a,b,c⟩:=hg;have hL: ∀(l:List dO),L'.bu=l->l≠[]->l.length<=65->(∀t∈l,t.first+t.bp.length<=100000001/\t.size<=5000000)->pM L'/\L'.bu.length<=65:=λl e h1 h2 h3=>
  ⟨⟨by grind,by rw[a];exact h.d1,by rw[a];exact h.d2,λt ht=>by rw[e] at ht;have:=h3 t ht;omega,by rw[b];exact ad h.r2 dQ⟩,by grind⟩
 rcases c with c|c|c|c
 ·exact hL _ c (by rw[h.bu];simp) zQ λt ht=>by have:=hB t ht;omega
 ·refine hL _ c sQ oQ λt ht=>?_;rcases List.mem_append.1 ht with ht|ht
  ·have:=hB t ht;omega
  ·simp only[aw] at ht;subst ht;simp;omega
 ·refine hL _ c sQ oQ λt ht=>?_;rcases List.mem_append.1 ht with ht|ht
  ·have:=hB t (List.dropLast_subset _ ht);omega
  ·simp only[aw] at ht;subst ht;simp only[dO.plus,aa,List.length_singleton];omega
 ·refine hL _ c sQ oQ λt ht=>?_;rcases List.mem_append.1 ht with ht|ht
  ·have:=hB t ht;omega
  ·simp only[aw] at ht;subst ht;simp;omega
end
abbrev Fw:Value:=.iface 186 (.agg #[])
abbrev A3:List PanicEntry:=[{ v:=Fw,recovered:=false }]
theorem Rec.xO (r:Rec):r.fB=0\/r.fB=2\/r.fB=4\/r.fB=7:=by
 have h:r.err=0\/r.err=4\/r.err=7:=by
  unfold Rec.err;split
  ·simp
  ·split<;>simp
 unfold Rec.fB;rcases h with h|h|h<;>rw[h]
 ·by_cases h:262144<(fZ r).length<;>simp[h]
 ·simp
 ·simp
variable {r : Rec}
theorem abJ (h1:r.reads=[]) (h2:r.writes=[]) (h3:r.parts=[]) (h4:r.xd=[]) (h5:r.state= .zero):r.at w X bf bf bf bf bf bf:=by
 unfold Rec.at;rw[h1,h2,h3,h4,h5];exact⟨Sl.nil _ _ _,Sl.nil _ _ _,Sl.nil _ _ _,Sl.nil _ _ _,eQ.nil _ _ _,eQ.nil _ _ _⟩
theorem Es (h1:r.reads=[]) (h2:r.writes=[]) (h5:r.state= .zero):r.small:=by
 refine⟨by simp[h1],by simp[h2],by simp[h1],by simp[h2],?_⟩;rw[h5];exact⟨by simp[State.zero,LQ],by simp[State.zero,LR],by simp[State.zero,adw],by simp[State.zero,adx]⟩
def Hk (w:World) (Y:XS) (nb:Nat):Prop:= ∃x0 x1 x2 x3 x5 x6 x7 x8 x9 vm va,aK w Y nb [x0,x1,x2,x3,B true,x5,x6,x7,x8,x9,vm,va] nT
theorem Hk.mv {A A':XS} {nb:Nat} (h:Hk w A nb) (m:Mv A w A' w'):Hk w' A' nb:=let⟨x0,x1,x2,x3,x5,x6,x7,x8,x9,vm,va,hr⟩:=h;⟨x0,x1,x2,x3,x5,x6,x7,x8,x9,vm,va,hr.mv m⟩
def dkR (db:Nat) (m:DM):qm:=⟨λw _ A=>Dk w A db m,λh _ m=>h.mv m⟩
def Un (db:Nat) (m:DM):Nat->qm
 |3=>dkR db m
 |_=>Q8
def Uo (nb db:Nat) (m:DM):Nat->qm
 |1=>⟨λw _ A=>Hk w A nb,λh _ m=>h.mv m⟩
 |3=>dkR db m
 |_=>Q8
abbrev V6 (w:World) (own:Nat->Nat) (nb db:Nat) (m:DM):Prop:=Hs (Uo nb db m) w own
abbrev DQ (own:Nat->Nat) (nb db:Nat) (wa w':World) (P:DM->Prop):Prop:=NQ (Uo nb db) own wa w' λ_ m=>P m
def jG (n:bt) (r:Rec):LD×Nat×Nat:=LD.iG ⟨n.L,n.m⟩ r.fB.toNat (fZ r)
abbrev LU (n:bt) (r:Rec):bt:= { n with L:=(jG n r).1.L,m:=(jG n r).1.m }
def No (n:bt) (r:Rec) (m':DM):Prop:=(jG n r).2.2=12/\m'=(jG n r).1.m
theorem Lg.dk {m:DM} (h:Lg w F lb db L m):Dk w F db m:=let⟨_,_,_,_,_,_,h2,_,h4⟩:=h;h4.mono h2
def alO (n:bt) (r:Rec) (vp:Value) (v:Value) (n':bt):Prop:= ∃bx B3 v2,v=ptr bx 0/\bx ∉ n.cl/\n'= { n with c:= { n.c with cm:=B3 },bl:=cI r.aR bx n.bl,cl:=n.cl++[bx],C:=λb'=>if b'=bx then⟨r,vp,v2,r.parts,false⟩else n.C b' }
abbrev Yi (n:bt) (b:Nat) (d:DS) (B3:Value):bt:= { n with c:= { n.c with cm:=B3 },cl:=n.cl++[b],C:=λb'=>if b'=b then d else n.C b' }
def LV (n:bt) (b:Nat) (d:DS) (c:Nat):qm:=if c=tx b 4 then JX b d 4 else if c=tx b 5 then JX b d 5 else if c=tx b 6 then JX b d 6 else ea n c
variable {w0 wa : World} {aH bM : Nat -> Nat} {n' : bt} {args : Array Value} {f : FuncId} {sg : dO} {vd vh vp vr vw : Value} {d : DS}
section
variable {own : Nat -> Nat} {n : bt} {b nb : Nat} {m : DM} {F : Nat -> qm}
theorem _root_.Go.aG.St.V7 {Q:Value->World->(Nat->Nat)->bt->Prop} {QP:DM->Prop} (s:St w0 bM w X own F) (h:E5 P f args w X (gB own) (λv wa w'=>NQ ea own wa w' (Q v w')) (λch wa w'=>ch=A3/\DQ own nb db wa w' QP)) (hf:enters P f=true)
  (k: ∀v w' X' aH n',Sn w0 bM w' X' aH n'->Q v w' aH n'->Mv (bR own 4) w (bR aH 4) w'->N v w' X') (hR: ∀wb,Fr (gB bM) w0 wb->DQ bM nb db w0 wb QP->R (.panicked A3) wb):eC P R X w true f args N:=
 s.t.Gt h hf (λ_ h=>h) (λv wa w' X' ⟨aH,n',e,h',q⟩ hle gy _ c=>k v w' X' aH n' (s.Yj hle gy c e h').1 q (s.Yj hle gy c e h').2)
 λch wa w' X' hq hle gy hT c wb mP=>by
  obtain⟨rfl,aH,m',e,hd,q⟩:=hq;have hx: ∀k,aH k≠0->X' k:=λk hk=>by
   by_cases AU:k<wa.heap.size
   ·exact c.sub k (s.x k λe0=>hk ((e k AU).1 e0))
   ·exact gy k ⟨by omega,hd.lt k hk⟩
  refine hR wb (hT.fr mP) ⟨aH,m',λk hk=>?_,hd.kp hx mP,q⟩;have h1:=s.e k hk;have h2:=e k (av hk (ad s.t.s.kp.size hle))
  grind
theorem DQ.imp {P P':DM->Prop} (h:DQ own nb db w w' P) (hp: ∀m,P m->P' m):DQ own nb db w w' P':=let⟨a,b,c,d,e⟩:=h;⟨a,b,c,d,hp _ e⟩
theorem _root_.Go.aG.St.Gt {Q:Value->World->(Nat->Nat)->bt->Prop} {QP Yk:DM->Prop} {Q0:Value->World->Prop} (s:St w0 bM w X own F) (h:E5 P f args w X (gB own) (λv wa w'=>NQ ea own wa w' (Q v w')) (λch wa w'=>ch=A3/\DQ own nb db wa w' QP)) (hf:enters P f=true)
  (k: ∀v w' X' aH n',Sn w0 bM w' X' aH n'->Q v w' aH n'->Mv (bR own 4) w (bR aH 4) w'->N v w' X') (hp: ∀m',QP m'->Yk m'):
  eC P (Fx (gB bM) w0 Q0 λch w'=>ch=A3/\DQ bM nb db w0 w' Yk) X w true f args N:=
 s.V7 h hf k λwb hf hd=>.inr ⟨A3,rfl,hf,rfl,hd.imp hp⟩
theorem Fy (h:jb w own n) (hX:sK own X) (jF:oY ⟨n.L,n.m⟩ pre sg) (dB:r.at w (bR own 4) vr vw vp vq vh vd) (ni:r.small) (BX:(fZ r).length<=2^33):
  E5 pg 82 #[ptr n.nb 0,r.v vr vw vp vq vh vd] w X (gB own) (λv wa w'=>NQ ea own wa w' λ_ n'=>(jG n r).2.2≠12/\v=I (jG n r).2.2/\n'=LU n r)
   (λch wa w'=>ch=A3/\DQ own n.nb n.db wa w' (No n r)):=by
 intro w0 hk;have s:=St.init h hX hk;replace dB:=dB.mv (yD hX hk);have h1:=dB.1.one;have h2:=dB.2.1.one;have h3:=dB.2.2.1.one;have h4:=dB.2.2.2.1.one;have h5:=dB.2.2.2.2.1.one;have h6:=dB.2.2.2.2.2.one;have hlk:pM (LD.append ⟨n.L,n.m⟩ (fZ r)).1.L:=by
  by_cases hp:(fZ r).length<=262144
  ·exact((ahF ⟨n.L,n.m⟩ _).LK jF hp).1
  ·have e:LD.append ⟨n.L,n.m⟩ (fZ r)=(⟨n.L,n.m⟩,0,2):=by unfold LD.append;rw[if_pos zQ]
   rw[e];exact jF.LK
 have jY: ∀{n0 x:LD} (j:Nat),j=3-> ∀c,c≠j-> ∀w K A,(ea { n with L:=n0.L,m:=n0.m } c).p w K A->(ea { n with L:=x.L,m:=x.m } c).p w K A:=λ{n0 x} j hj=>by subst hj;exact nU
 refine LX.1 λ_=>?_;refine cA (DT (dB.mv (Mv.sub (s.sub 4))) ni λ_=>BX) kQ s.has ?_;rintro ve D8 w1 X1 hq qz nY aC;have s1:=s.since aC;obtain⟨vb,rfl,ob,yJ⟩: ∃vb,ve= .tuple #[vb,I r.fB]/\aG.one vb=true/\(r.fB=0->Own w1 (made D8 w1) D8.heap.size _ 1 vb ((fZ r).map U1)):=by
  by_cases he:r.fB≠0
  ·rw[if_pos he] at hq;exact⟨_,hq,rfl,λe=>absurd e he⟩
  ·rw[if_neg he] at hq;obtain⟨vb,e,ho⟩:=hq;exact⟨vb,by rw[e,Classical.byContradiction he],ho.sl.one,λ_=>ho⟩
 refine ajh (v:=vb) rfl (ajh (v:=I r.fB) rfl ?_);refine gY (Q:=λ(K:Value->World->XS->Prop)=> ∀w X aH (x:LD) (z:Nat),Sn w0 own w X aH { n with L:=x.L,m:=x.m } ->pM x.L->(jG n r).1=(if z≠0 then x else x.sync.1)->(jG n r).2.2=(if z≠0 then z else x.sync.2)->K (I z) w X) ?_ λK22 alP=>?_
 ·intro w2 X2 lS x z s2 wS LY CV;refine gY (Q:=λ(K:Value->World->XS->Prop)=> ∀w X aH (x:LD) (z:Nat),Sn w0 own w X aH { n with L:=x.L,m:=x.m } ->(jG n r).1=x->(jG n r).2.2=z->K (I z) w X) ?_ λK35 alQ=>?_
  ·intro w3 X3 nE x z s3 LY CV;have hs:=s3.rf;by_cases xJ:z=12
   ·repeat' first|refine aN ?_;intros|with_reducible apply cK
    refine tq kQ rfl ?_;refine s3.st (o:=4) 1 (s3.get 1) (λc=>if c=1 then Yl n.nb (cY (Hf n.c n.D5 n.vm n.va) 4 [B true]) nT else ea { n with L:=x.L,m:=x.m } c) zQ kQ (Nat.le_of_ble_eq_true rfl) rfl (λ_ _ _ h=>h) (λc hc w K A h=>by rw[if_neg hc];exact h) λw4 X4 lT s4 m4=>?_;clear hs;have hs:=s4.rf;repeat' refine ao ?_;intros
    (with_reducible refine SE ?_ ?_)
    ·kernel_rfl
    refine SF s4.has λwa oZ=>s4.t.iE oZ ⟨rfl,lT,x.m,s4.e,?_,CV.trans xJ,by rw[LY]⟩;have h:=s4.h.kp s4.x oZ;exact h.to λc h0 h4 w K A h=>by
     by_cases e:c=1
     ·subst e;exact⟨_,_,_,_,_,_,_,_,_,_,_,h⟩
     ·rw[if_neg e] at h;rcases c with _|_|_|_|c<;>first|exact absurd rfl e|exact Lg.dk h|trivial
   ·repeat' first|refine aN ?_;intros|with_reducible apply cK
    exact s3.xy λwa aL=>⟨by rw[CV];exact xJ,by rw[CV],by unfold LU;rw[LY]⟩
  have hs:=s2.rf;have hr:=s2.v.1;by_cases hz:z=0
  ·rw[if_neg zQ] at LY CV;repeat' refine aN ?_;intros
   refine yV (I4 (s2.get 3) wS (s2.fxc 3)) kQ s2.has (s2.sub 3) λv yF w3 X3 ⟨hv,G3,hG3,Xp⟩ qy mr _ c3=>?_;obtain⟨nE,s3,m3⟩:=s2.DI (F':=ea { n with L:=x.sync.1.L,m:=x.sync.1.m }) 3 c3 (λ_ e=>e) G3 (λk af=>(hG3 k af).imp id λe=>⟨mr k e,ad qy e.1⟩) (λK _=>Xp) (jY (n0:=x) (x:=x.sync.1) 3 rfl);subst hv;exact alQ _ _ _ _ _ s3 LY CV
  ·rw[if_pos hz] at LY CV;repeat' refine aN ?_;intros
   exact alQ _ _ _ _ _ s2 LY CV
 have hs:=s1.rf;have hr:=s1.v.1;have ek:jG n r=LD.iG ⟨n.L,n.m⟩ r.fB.toNat (fZ r):=rfl;unfold LD.iG at ek;by_cases he:r.fB=0
 ·rw[he] at ek⊢;repeat' refine aN ?_;intros
  have ho:=yJ he;refine yV (Ym (s1.get 3) jF.LK (by have:=jF.adv;grind) (s1.fxc 3) ho.sl λk af=>⟨nY k af,λ(e:own k=3)=>by have:=(s.nw (ad qz af.1)).1;omega⟩) kQ s1.has (s1.sub 3) λv yE w2 X2 ⟨hv,G2,hG2,xA⟩ mq kW _ c2=>?_;obtain⟨lS,s2,m2⟩:=s1.DI (F':=ea { n with L:=(LD.append ⟨n.L,n.m⟩ (fZ r)).1.L,m:=(LD.append ⟨n.L,n.m⟩ (fZ r)).1.m }) 3 c2 (λ_ e=>e) G2 (λk af=>(hG2 k af).imp id λe=>⟨kW k e,ad mq e.1⟩) (λK _=>xA) (jY (n0:=⟨n.L,n.m⟩) 3 rfl);subst hv;repeat' refine ao ?_;intros
  refine alP _ _ _ _ _ s2 hlk ?_ ?_
  ·rw[ek];dsimp only;rw[if_neg sQ];split<;>rfl
  ·rw[ek];dsimp only;rw[if_neg sQ];split<;>rfl
 ·repeat' refine aN ?_;intros
  have h0:r.fB=(r.fB.toNat:Int):=by rcases r.xO with e|e|e|e<;>rw[e]<;>rfl
  have h1:r.fB.toNat≠0:=by omega
  rw[h0];rw[if_pos h1] at ek;exact alP _ _ _ ⟨n.L,n.m⟩ _ s1 jF.LK (by rw[ek,if_pos h1]) (by rw[ek,if_pos h1])
theorem alR {b b':Nat} (hi:i<8) (hj:j<8) (h:tx b i=tx b' j):b=b'/\i=j:=by unfold tx at h;omega
theorem _root_.Go.aG.St.apZ (s:Sn w0 bM w X own n) (hb:own b=0/\w0.heap.size<=b) (hr:aK w X b (d.r.l bf bf d.vp bf bf bf++[d.v2,B d.ended]) cmT) (ho:Own w X w0.heap.size inT 1 d.v2 (d.waits.map I1)) (hn: ∀g,ga d.v2 g->own g=0) (hp:Sl w (bR own 4) 1 d.vp (d.r.parts.map I1)):
  b ∉ n.cl/\ ∃aH,St w0 bM w X aH (LV n b d)/\Mv (bR own 4) w (bR aH 4) w:=by
 have no:b ∉ n.cl:=λh=>by have:own b=tx b 4:=(s.h.Dl h).1.1;exact ix.1 (this.symm.trans hb.1)
 have ne: ∀{i j:Nat},i<8->j<8->i≠j->tx b i≠tx b j:=λhi hj h e=>h (alR hi hj e).2;obtain⟨ij,s1,m1,e1,e2⟩:=s.jY (F':=λc=>if c=tx b 5 then JX b d 5 else ea n c) (j:=tx b 5) (N:=ga d.v2) (eh.oh s.rf nX) (· =tx b 5) (λ_ h=>h.elim) ix.1.symm ix.2.symm (λk e=>⟨ho.2.2 k e,hn k e,(ho.ge e).1⟩) ix.1
  (λaH e1 e2 m c hc=>by subst hc;rw[if_pos rfl];exact zl (ho.low (au _)) e2) λc hc K A _ h=>by rw[if_neg hc];exact h
 have lD:ij b=0:=(e1 b (GF ho hr (by rfl))).trans hb.1;obtain⟨lS,s2,m2,-,-⟩:=s1.jY (F':=LV n b d) (j:=tx b 4) (N:=(· =b)) (eh.oh s1.rf nX) (· =tx b 4) (λ_ h=>h.elim) ix.1.symm ix.2.symm (λk e=>by subst e;exact⟨hr.1,lD,hb.2⟩) ix.1
  (λaH _ e2 m c hc=>by subst hc;unfold LV;rw[if_pos rfl];exact⟨e2 b rfl,hr.2⟩) λc hc K A m h=>by
   unfold LV;rw[if_neg hc];by_cases h5:c=tx b 5
   ·rw[if_pos h5] at h⊢;exact h
   ·rw[if_neg h5] at h⊢;by_cases h6:c=tx b 6
    ·rw[if_pos h6];exact(hp.mv m1).mv m
    ·rw[if_neg h6];exact h
 exact⟨no,lS,s2,m1.trans m2⟩
theorem SG (h:c<16):LV n b d c=ea n c:=by unfold LV tx;rw[if_neg zQ,if_neg zQ,if_neg zQ]
theorem ahG (hn: ∀i,i<16->i≠1->i≠10-> ∀w K A,(Yn n i).p w K A->(Yn n' i).p w K A) (hs:n'.al=n.al/\n'.ex=n.ex/\n'.A=n.A/\n'.cl=n.cl++[b]/\n'.C=λb'=>if b'=b then d else n.C b'): ∀c,(c≠1/\c≠10)-> ∀w K A,(LV n b d c).p w K A->(ea n' c).p w K A:=λc hc w K A h=>by
 obtain⟨q1,q2,q3,q4,q5⟩:=hs;have e: ∀b',n'.cU b'↔n.cU b':=λb'=>by unfold bt.cU;rw[q1,q2]
 have eC:n'.C b=d:=by rw[q5];exact if_pos rfl
 unfold LV at h;by_cases h4:c=tx b 4
 ·subst h4;rw[if_pos rfl] at h;rw[vU _ _ _ dQ];exact λ_=>by rw[eC];exact h
 rw[if_neg h4] at h;by_cases h5:c=tx b 5
 ·subst h5;rw[if_pos rfl] at h;rw[vU _ _ _ dQ];exact λ_=>by rw[eC];exact h
 rw[if_neg h5] at h;by_cases h6:c=tx b 6
 ·subst h6;rw[if_pos rfl] at h;rw[vU _ _ _ dQ];exact λ_=>by rw[eC];exact h
 rw[if_neg h6] at h;refine XA (λhi p=>hn c hi hc.1 hc.2 w K A p) (λb' i hi ec p=>?_) h;by_cases hb:b'=b
 ·subst hb;rcases i with _|_|_|_|_|_|_|_|i<;>first|exact absurd ec h4|exact absurd ec h5|exact absurd ec h6|(simp only[zm,Dm,e,q3] at p⊢;exact p)
 ·have eC':n'.C b'=n.C b':=by rw[q5];exact if_neg hb
  have el:b'∈n'.cl↔b'∈n.cl:=by rw[q4];simp[hb]
  rcases i with _|_|_|_|_|_|_|_|i<;>(simp only[zm,Dm,e,el,eC',q3] at p⊢;exact p)
theorem OK (h:jb w own n) (hX:sK own X) (hp:Sl w (bR own 4) 1 vp (r.parts.map I1)) (xD:r.parts.length<=2^40) (qi:n.cl.length<=2^20):
  Ct pg 106 #[ptr n.nb 0,r.v bf bf vp bf bf bf] w X (gB own) λv wa w'=>NQ ea own wa w' λ_ n'=>alO n r vp v n':=by
 intro w0 hk;have s:=St.init h hX hk;replace hp:=hp.mv (yD hX hk);have h3:=hp.one;obtain⟨e1,e2,e3,rfl⟩:=hp.form;refine NL.1 λ_=>?_;refine cA (LZ (hp.mono (s.sub 4)) xD) kQ s.has ?_;rintro v2 D8 w1 X1 q1 qz nY Ua;have ov2:=q1.sl.one;have LY:Own w1 X1 w0.heap.size _ 1 v2 _:=q1.up nY qz;have s1:=s.since Ua;obtain⟨g1,g2,g3,rfl⟩:=q1.sl.form;have hr:=s1.v.1;have o1:=s1.v.2.2.2.1;have hs:=s1.rf;repeat' first|refine ao ?_;intros|(refine Oy hs ?_;intro bx w X gq aC gg hs bo)|(refine q1s hs ?_;intro _ _ _ w X hs ho)
 obtain⟨nb1,lS,s2,m2⟩:=(s1.since gg).apZ (b:=bx) (d:=⟨r,.slice e1 e2 e3,.slice g1 g2 g3,r.parts,false⟩) (s1.nw zQ) bo ((LY.since gg).mono λ_ h=>h) (λg hg=>(s.nw (LY.ge hg).1).1) (hp.mv ((yD s.x Ua.kp).trans (yD s1.x gg.kp)));replace s2:=s2.since hs;obtain⟨d,hd⟩: ∃d:DS,d=⟨r,.slice e1 e2 e3,.slice g1 g2 g3,r.parts,false⟩:=⟨_,rfl⟩;rw[<-hd] at s2;have q1:aK w (bR lS 1) n.nb (Hf n.c n.D5 n.vm n.va) nT:=by have:=s2.get 1;rwa [SG dQ] at this
 have q10:Own w (bR lS 10) 0 pcT 1 n.c.cm (n.cl.map λb=>[ptr b 0]):=by have:=s2.get 10;rwa [SG dQ] at this
 refine s2.ap1 (o:=8) 1 10 11 q1 q10 ho.sl (λr jZ u hu=>?_) oQ (λv'=>ea (Yi n bx d v')) (λ_ _ _ _ h=>h) (λv' w' K A h=>?_) (λv' w' K A _ h=>by rwa [SG dQ] at h) (λv' c hc w' K A h=>ahG (n:=n) (n':=Yi n bx d v') (b:=bx) (d:=d) ?_ ⟨rfl,rfl,rfl,rfl,rfl⟩ c ⟨hc.1,hc.2.1⟩ w' K A h) λB3 w3 X3 nE s3 m3=>?_
 ·rw[aw] at jZ;subst jZ;rw[aw] at hu;subst hu;rfl
 ·show Own w' A 0 pcT 1 v' ((n.cl++[bx]).map λb=>[ptr b 0])
  rw[aJ];exact h
 ·intro i hi h1 h10 w K A h;rcases i with _|_|_|_|_|_|_|_|_|_|_|_|_|i<;>first|exact h|exact absurd rfl h1|exact absurd rfl h10
 clear hs hr;have hs:=s3.rf;have hr:=s3.v.1;repeat' refine ao ?_;intros
 have hb6:=(s3.get 6:dK w3 (bR nE 6) nX n.c.bb (λk:bH=>k.v) wT n.bl).x.1;refine vA (kv:=λk:bH=>k.v) (k:=r.aR) (a:=bx) (et:=124) (s3.zO 6:) E7 (show wT w3 nX (ptr bx 0) bx from rfl) (λ_ h=>h.elim) ta kQ hs.has λw4 X4 c4 Aj=>?_;obtain⟨lT,s4,m4⟩:=s3.DI (F':=ea { Yi n bx d B3 with bl:=cI r.aR bx n.bl }) 6 c4 (λk e=>by rw[show k=n.c.bb from e];exact hb6) (bR nE 6) (λ_ e=>.inl e) (λ_ _=>lH Aj hb6) nU;clear hs hr;have hs:=s4.rf
 skip
 exact s4.fin λwa hk=>⟨bx,B3,_,rfl,nb1,by rw[hd]⟩
end
def jw (t:bH) (st:bN) (ps:List Int):Rec:=⟨9,t,st,.zero,false,0,0,[],[],ps,[],.zero⟩
theorem afB (l:List Int):(iU encI l).length<=10+10*l.length:=by
 have h: ∀l:List Int,(l.map encI).flatten.length<=10*l.length:=by
  intro l
  induction l with
  |nil=>simp
  |cons x l ih=>
   have:=fz x;simp only[bD,cW,aa,aM];omega
 have h1:=fz (l.length:Int);have h2:=h l;unfold iU;rw[aa];omega
theorem V8 (t:bH) (st:bN) (ps:List Int):fZ (jw t st ps)=encI 9++(oq t++(lI st++iU encI ps)):=by simp[fZ,jw]
theorem afC (t:bH) (st:bN) (ps:List Int):(fZ (jw t st ps)).length<=80+10*ps.length:=by
 have h1:=fz 9;have h2:=Dn t;have h3:=uV st;have h4:=afB ps;rw[V8];simp only[aa];omega
def tt (d:rl) (i:Nat) (m:bZ) (jK:Value) (mf:List (List Value)):rl:= { d with x:= { d.x with mR:=d.x.mR.later m.aV },vw:=jK,rw:=mf,ws:=d.ws.take i++d.ws.drop (i+1) }
def V9 (n:bt) (t:bH) (d:rl) (r:Rec) (n':bt):Prop:=
 ((jG n r).2.2≠12/\(jG n r).2.2≠0/\ ∃ki,Told { LU n r with al:=jL t n.al,va:=ki,ra:=n.ra++[D6 (jG n r).2.2 t .zero false bf] } (d.ids.map λid=>(Sm t id).qx (20+n.c.id)) n')\/
 ((jG n r).2.2=0/\ ∃bx B3 vp v2 ki vs,aG.one vs=true/\bx ∉ n.cl/\Told (Yi { LU n r with al:=jL t n.al,bl:=cI t bx n.bl,va:=ki,ra:=n.ra++[D6 0 t d.x.mR false vs] } bx ⟨r,vp,v2,d.ids,false⟩ B3) (d.ids.map λid=>(Yo r id).qx (20+n.c.id)) n')
def Q9 (n:bt) (t:bH) (b:Nat) (n':bt):Prop:=V9 n t (n.A b) (jw t (n.A b).x.mR (n.A b).ids) n'
def Np (n:bt) (m:bZ) (n':bt):Prop:=
 (∃gn,n'= { n with ck:=gn } /\NoW n m true)\/Gr n m true n'\/ ∃(b i:Nat) (y:bZ) (gn:bN) (jK:Value) (mf:List (List Value)) (n1:bt),Gs n m true b i y/\n1= { dN n b (tt (n.A b) i m jK mf)with ck:=gn } /\
  (((n.A b).ws.length≠1/\n'=n1)\/((n.A b).ws.length=1/\Q9 n1 m.aR b n'))
def ady (n:bt) (m:bZ) (m':DM):Prop:= ∃(b i:Nat) (y:bZ),Gs n m true b i y/\(n.A b).ws.length=1/\No n (jw m.aR ((n.A b).x.mR.later m.aV) (n.A b).ids) m'
section
variable {own : Nat -> Nat} {n : bt} {b : Nat}
theorem Yp {m:bZ} {vk vs vc:Value} {N M:Nat} (h:jb w own n) (hX:sK own X) (jF:oY ⟨n.L,n.m⟩ pre sg) (hm:m.at w (bR own 4) vk vs vw vp vr vc vh vd) (fE:m.aV.may=true) (hk:tn N M n) (hN:N<=2^20):
  E5 pg 56 #[ptr n.nb 0,m.v vk vs vw vp vr vc vh vd] w X (gB own) (λ_ wa w'=>NQ ea own wa w' λ_ n'=>Np n m n') (λch wa w'=>ch=A3/\DQ own n.nb n.db wa w' (ady n m)):=by
 intro w0 iw;have s0:=St.init h hX iw;replace hm:=hm.mv (yD hX iw);have hi:1<=n.c.id/\n.c.id<=2:=by rw[hk.id];decide
 clear h hX iw;refine L1.1 λ_=>?_;refine s0.call (H6 s0.h s0.x hk.pre fE hm.ranges hi (hk.get (m:=m) zQ).1 (λb hb=>(hk.act _ b hb).pq) (hk.get zQ).2) kQ λv w1 X1 ij n1 s1 q1 m1=>?_;rcases q1 with⟨rfl,q1⟩|⟨b,i,y,gn,hw,rfl,rfl⟩
 ·have hs:=s1.rf;repeat' refine ao ?_;intros
  exact s1.xy λ_ _=>q1.elim .inl λe=>.inr (.inl e)
 have hb:n.cU b:=.inl ⟨_,hw.g⟩;have C7:=hk.act _ b hw.g;have apK:=C7.ws;have acU:=C7.ids;have mQ:i<(n.A b).ws.length:=(List.getElem?_eq_some_iff.1 hw.gA).1;obtain⟨ha,o1,o2,o3,o4⟩:=s1.va (b:=b) hb;have hs:=s1.rf;repeat' first|refine ao ?_;intros|(refine pN (OL _ _) hs ?_;intro w X hs)
 have s2:=s1.since hs;refine s2.stN (o:=12) (tx b 0) (s2.h.act (b:=b) hb).1 (ea (dN { n with ck:=gn } b { n.A b with x:= { (n.A b).x with mR:=(n.A b).x.mR.later m.aV } })) zQ kQ sQ rfl rfl (λ_ _ _ h=>rj dQ h) IW (λw3 X3 nE s3 m3=>?_) ix.1 ix.2;clear hs ha s1 s2;obtain⟨ha,-⟩:=s3.vs (n:= { n with ck:=gn }) hb;have hs:=s3.rf;have oe:=s3.h.act (b:=b) hb;rw[jj] at oe;repeat' refine ao ?_;intros
 refine s3.aho (tx b 0) (tx b 1) (tx b 3) oe.1 oe.2.1 (OB (F:=X3) (oe.2.1.mono (s3.sub _ ix.1)) (λ_ h=>h) (by show i<(n.A b).rw.length;rw[show(n.A b).rw.length=_ from oe.2.2.2.1.1];exact mQ) oe.2.2.2.1.Pf) (λv=>ea (dN { n with ck:=gn } b (tt (n.A b) i m v ((n.A b).rw.take i++(n.A b).rw.drop (i+1))))) (λ_ _ _ _ h=>rj dQ h) (λ_ _ _ _ h=>rj dQ h)
  (λv' w' K A mv p=>rj dQ (by rw[vU _ _ _ dQ] at p;have p:=p hb;rw[jj] at p;exact⟨(oe.2.2.2.1.cut i).mv mv,p.2⟩)) (λv'=>QE) (λv4 w4 X4 lT s4 m4=>?_) (yI:=by unfold tx;omega)
 clear hs ha;have H8:(n.A b).rw.length=(n.A b).ws.length:=oe.2.2.2.1.1;have hl7:((n.A b).rw.take i++(n.A b).rw.drop (i+1)).length=(n.A b).ws.length-1:=by simp;omega
 clear oe s3;obtain⟨d,hd⟩: ∃d,d=tt (n.A b) i m v4 ((n.A b).rw.take i++(n.A b).rw.drop (i+1)):=⟨_,rfl⟩;rw[<-hd] at s4;have ed:d.ids=(n.A b).ids/\d.x= { (n.A b).x with mR:=(n.A b).x.mR.later m.aV } /\d.rw.length=(n.A b).ws.length-1/\d.vw=v4/\d.sn=(n.A b).sn:=by rw[hd];exact⟨rfl,rfl,hl7,rfl,rfl⟩
 obtain⟨n3,sM⟩: ∃n3:bt,n3= { dN n b d with ck:=gn } :=⟨_,rfl⟩;replace s4:Sn w0 own w4 X4 lT n3:=by rw[sM];exact s4
 have e3:n3.A b=d:=by rw[sM];exact jj
 have f3:n3.nb=n.nb/\n3.db=n.db/\n3.L=n.L/\n3.m=n.m/\n3.c=n.c/\n3.cl=n.cl/\n3.ra=n.ra/\n3.rm=n.rm/\n3.ex=n.ex/\n3.al=n.al:=by rw[sM];exact⟨rfl,rfl,rfl,rfl,rfl,rfl,rfl,rfl,rfl,rfl⟩
 have rV:n3.cU b:=by rw[sM];exact hb
 have hs:=s4.rf;have oe:=s4.h.act rV;obtain⟨ha,o1,o2,o3,o4⟩:=s4.va rV;rw[e3] at oe ha o1 o2 o3 o4;have nV:Sl w4 X4 36 d.vw (d.rw.map id):=by rw[wZ];exact oe.2.1.sl.mono (s4.sub _ ix.1)
 rw[ed.2.2.2.1] at ha nV o1;by_cases h1:(n.A b).ws.length=1;case neg=>
  repeat' refine aN ?_;intros
  exact s4.xy λ_ _=>.inr (.inr ⟨b,i,y,gn,_,_,n3,hw,by rw[sM,hd],.inl ⟨h1,rfl⟩⟩)
 have adz:=oe.2.2.2.2.2 (by rw[hd];exact C7.pq);obtain⟨q1,q2,q3,hqv⟩:=adz.form;rw[hqv] at adz;rw[show JQ d.x v4=JQ { d.x with vq:=.slice q1 q2 q3 } v4 by rw[<-hqv]] at ha;have ht6:d.x.aR=m.aR:=by
  have:=(show∀t b,getM t n3.al=some b->(n3.A b).x.aR=t from s4.h.gA 12 dQ dQ) m.aR b (by rw[f3.2.2.2.2.2.2.2.2.2];exact hw.g)
  rwa [e3] at this
 have dB:(jw d.x.aR d.x.mR d.ids).at w4 (bR lT 4) bf bf (.slice q1 q2 q3) bf bf bf:=⟨Sl.nil _ _ _,Sl.nil _ _ _,adz,Sl.nil _ _ _,eQ.nil _ _ _,eQ.nil _ _ _⟩;have AQ:d.ids.length<=80:=by rw[ed.1];exact acU
 have BX:(fZ (jw d.x.aR d.x.mR d.ids)).length<=2^33:=by have:=afC d.x.aR d.x.mR d.ids;omega
 obtain⟨r,hr⟩: ∃r,r=jw d.x.aR d.x.mR d.ids:=⟨_,rfl⟩;have OC:r=jw m.aR (n3.A b).x.mR (n3.A b).ids:=by rw[e3,hr,ht6]
 rw[<-f3.1,<-f3.2.1];repeat' refine aN ?_;intros
 refine s4.Gt (Yk:=ady n m) (Fy (r:=jw d.x.aR d.x.mR d.ids) (vp:=.slice q1 q2 q3) s4.h s4.x (by rw[f3.2.2.1,f3.2.2.2.1];exact jF) dB (Es rfl rfl rfl) BX) kQ (λv w5 X5 mW n5 s5 ⟨k1,k2,k3⟩ m5=>?_) λm' TQ=>⟨b,i,y,hw,h1,?_⟩;case refine_2=>
  have e:jG n3 (jw d.x.aR d.x.mR d.ids)=jG n (jw m.aR ((n.A b).x.mR.later m.aV) (n.A b).ids):=by unfold jG;rw[f3.2.2.1,f3.2.2.2.1,ht6,ed.1,ed.2.1]
  unfold No at TQ⊢;rw[e] at TQ;exact TQ
 rw[<-hr] at k1 k2 k3;obtain⟨z,hz⟩: ∃z,z=(jG n3 r).2.2:=⟨_,rfl⟩;rw[<-hz] at k1 k2;subst k2;have e5:n5.A b=d/\n5.nb=n3.nb/\n5.c=n.c/\n5.cl=n.cl/\n5.ra=[]/\n5.rm=[]/\n5.ex=n.ex:=by rw[k3];exact⟨e3,rfl,f3.2.2.2.2.1,f3.2.2.2.2.2.1,f3.2.2.2.2.2.2.1.trans hk.ra,f3.2.2.2.2.2.2.2.1.trans hk.rm,f3.2.2.2.2.2.2.2.2.1⟩
 have BY:n5.cU b:=by rw[k3];exact rV
 clear hs ha oe dB;have hs:=s5.rf;obtain⟨ha,-⟩:=s5.va BY;rw[e5.1] at ha;have Ra:=adz.mv m5;rw[<-e5.2.1];have rW: ∀{n':bt},V9 n3 m.aR d r n'->Np n m n':=λ{n'} h=>.inr (.inr ⟨b,i,y,gn,_,_,n3,hw,by rw[sM,hd],.inr ⟨h1,by unfold Q9;rw[<-OC,e3];exact h⟩⟩);by_cases Lf:z=0;case neg=>
  repeat' refine aN ?_;intros
  refine s5.call (zF (code:=z) s5.h s5.x BY (by rw[e5.1,hd];exact C7.pq) (by rw[e5.2.2.2.2.1];simp) (by rw[e5.2.2.1];exact hi) (by rw[e5.2.2.2.2.2.1,e5.1];simp;omega)) kQ λv w6 X6 wC n6 s6 ⟨ki,sJ,qP,q6,hl6⟩ _=>?_;have s7:=s6.to (H5 (e':=n.ex) λb' h'=>by rw[q6];show b'∈b::n5.ex;rw[e5.2.2.2.2.2.2];exact .tail _ h');exact s7.xy λ_ _=>rW (.inl ⟨by rw[<-hz];exact k1,by rw[<-hz];exact Lf,ki,sJ,qP,by
   rw[q6,e5.1,if_pos (show d.x.pre=true by rw[ed.2.1];exact hw.pre),ht6,e5.2.2.1,<-hz,k3,f3.2.2.2.2.1,f3.2.2.2.2.2.2.2.2.1],by rw[hl6,e5.1,if_pos (show d.x.pre=true by rw[ed.2.1];exact hw.pre)];simp[k3]⟩)
 have wV:=(s5.h.act BY).2.2.1;rw[e5.1] at wV;repeat' refine aN ?_;intros
 refine cA (AP ha (λ_ h=>h) (wV.sl.mono (s5.sub _ ix.1)) (by rw[ed.2.2.2.2];have:=C7.sn;omega)) kQ hs.has ?_;rintro vr wa6 w6 X6 ⟨ys,_,A1⟩ Ya LJ rF;have s6:=s5.since rF;replace Ra:=Ra.mv (rF.gU (s5.sub 4));have ovr:=A1.sl.one;obtain⟨r1,r2,r3,rfl⟩:=A1.sl.form;clear hs A1 rF ha wV s5;have hs:=s6.rf;repeat' refine ao ?_;intros
 refine s6.call (CI (code:=0) (t:=.zero) (st:=d.x.mR) (on:=false) (vs:=.slice r1 r2 r3) s6.h s6.x BY ovr (by rw[e5.2.2.2.2.1];simp)) kQ λv w7 X7 DK n7 s7 ⟨ki,q7⟩ m7=>?_;replace Ra:=Ra.mv m7;rw[show n5.nb=n7.nb by rw[q7]];clear hs;repeat' refine ao ?_;intros
 refine s7.call (OK (r:=jw d.x.aR d.x.mR d.ids) (vp:=.slice q1 q2 q3) s7.h s7.x Ra (by show d.ids.length<=_;omega) (by rw[q7];show n5.cl.length<=_;rw[e5.2.2.2.1];have:=hk.cl;have:=hk.mM;omega)) kQ λv w8 X8 Lq n8 s8 ⟨bx,B3,v2,hv,gq,q8⟩ m8=>?_;subst hv;rw[<-hr] at q8;rw[show n7.nb=n8.nb by rw[q8]];have eC:n8.C bx=⟨r,.slice q1 q2 q3,v2,r.parts,false⟩:=by rw[q8];exact if_pos rfl
 have erp:r.parts=d.ids:=by rw[hr];rfl
 refine s8.call (Im (b:=bx) s8.h s8.x (by rw[q8];simp) (by rw[q8,q7];show 1<=n5.c.id/\n5.c.id<=2;rw[e5.2.2.1];exact hi) (by rw[eC,q8,q7];show n5.rm.length+r.parts.length<=_;rw[e5.2.2.2.2.2.1,erp];simp;omega)) kQ λv w9 X9 pK n9 s9 ⟨sJ,qP,q9,hl9⟩ _=>?_;have Up:=s9.to (H5 (e':=n.ex) λb' h'=>by rw[q9,q8,q7];show b'∈b::n5.ex;rw[e5.2.2.2.2.2.2];exact .tail _ h')
 skip
 exact Up.xy λ_ _=>rW (.inr ⟨by rw[<-hz];exact Lf,bx,B3,.slice q1 q2 q3,v2,ki,.slice r1 r2 r3,ovr,by rw[q7] at gq;show bx ∉ n3.cl;rw[k3] at gq;exact gq,sJ,qP,by
  rw[q9,eC,q8,q7,e5.1,ht6,show r.aR=m.aR by rw[hr];exact ht6,erp,k3,f3.2.2.2.2.2.2.2.2.1],by rw[hl9,eC,q8,q7,k3];simp[Yi,erp]⟩)
end
end Go.Proofs.YtgfijddlkhkopaaGreat