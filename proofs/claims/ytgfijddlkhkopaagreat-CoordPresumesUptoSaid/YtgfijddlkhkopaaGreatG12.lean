/- Part 12 of the proof. -/
import Derived.Test.YtgfijddlkhkopaaGreatProg
import Derived.Recover
import Derived.KernelRfl
import Derived.Tactics
import Derived.Shelf.Abstract
import Derived.Test.YtgfijddlkhkopaaGreatG11
set_option linter.all false
open List renaming mem_singleton → av, length_map → af, length_append → aa, length_drop → bR, mem_of_getElem? → ax, map_append → az, append_nil → dT, append_assoc → ak, drop_drop → iu, map_cons → aZ, length_take → aD, mem_of_mem_drop → da, getElem?_take_of_lt → fR, map_drop → qw, drop_left' → j6, map_take → kA, getElem?_eq_getElem → aS, map_map → bw, map_id → xl, mem_cons_of_mem → bS, length_cons → aM, getElem?_map → cK, map_congr_left → dp, cons_append → j5, nil_append → cB, take_of_length_le → aB, dropLast_concat → jJ, length → bf, take_left' → ik, flatten_cons → cV, mem_of_mem_take → dc, getElem?_drop → gp, cons_lt_cons_iff → xm, append_left_lt → zh, pairwise_map → A7, extract_eq_take_drop → tX, mem_append_left → bz
open Nat renaming le_refl → au, le_trans → ad, zero_le → aq, pow_succ → rQ, pow_le_pow_right → rR, mul_one → BG, min_eq_left → kD, lt_of_lt_of_le → aw, mod_eq_of_lt → fq, lt_of_not_le → BH, min_le_right → BI
open UInt8 renaming ofNat → nU, toNat_ofNat' → zi
open BitVec renaming ofInt → aF, ofInt_natCast → xY, toNat_ofNat → iL
open Option.some renaming inj → bV, injEq → aj
open Go.Instr renaming sliceAt → bD, alloc → ga
open Bool renaming false_ne_true → ph
open Option renaming isSome_some → tO, map_some → ba
open ByteArray renaming size_extract → qi, ext → En, data_extract → wy
open Array renaming replicate → cY, toList_extract → xZ
namespace Go.Proofs.YtgfijddlkhkopaaGreat
open Go.Proofs.Tryz renaming prog → pg
open Go.aJ
set_option maxRecDepth 100000
set_option maxHeartbeats 4000000
theorem abx:Idle pg 132:=by
 refine⟨by kernel_rfl,λgG w=>?_⟩;refine callsD_of_wpS Tryz.func132 rfl λc₀ cs hu=>?_;rw[Tryz.ntmps132];have gf:12<=(gG++cY (12-gG.size) undef).size:=by simp;omega
 generalize gG++cY (12-gG.size) undef=tm at gf;have h2:2<tm.size:=by omega
 have h5:5<tm.size:=by omega
 have h7:7<tm.size:=by omega
 apply wpS_seq;apply wpS_region;simp[wpOpsS,go_sem,recoverD,hu,Exit.thenS];refine wpS_of_wp (wp_block ?_);apply wp_seq;apply wp_region;simp[wpOps,go_sem,Exit.then,h2,h5,h7];refine .inl (wp_cond_true ?_ ?_)
 ·simp[Act.eval,h2,h5,h7]
 apply wp_region;simp[wpOps,go_sem,Exit.then,Exit.inBlock,h2,h5,h7];refine .inl ?_;cases c₀;simp_all [bodyPostS,results,Tryz.results132]
set_option maxRecDepth 100000
set_option maxHeartbeats 1000000
attribute [local irreducible] un jn jg iN ld1 tW st1 mG lN pB sH pT J6 Fc gR ru aX lW lP eW eV eU eC eF gE np fin ix cj eP vS OA J7 J9 Ka Kb Kc OB OC Kd OD Gz GA Ke Kf Kg OE OF Kh
variable {bs : List Nat} {X : XS} {w : World}
theorem Ys {a b:Value} (ha:Sl w X 1 a (bs.map U1)) (hb:Sl w X 1 b (bs.map U1)) (bU:bs≠[]):Ct pg 137 #[a,b] w X nX λv _ _=>v=B true:=by
 intro w0 hk;replace ha:=ha.mv hk.cd;replace hb:=hb.mv hk.cd;have aq1:bs.map U1≠[]:=λe=>bU (by simpa using e);have key: ∀{w X a},Sl w X 1 a (bs.map U1)-> ∃g o cap,a= .slice (some ⟨g,o,none⟩) bs.length cap/\Cells w X g o (bs.map λx:Nat=>Value.int .u8 x):=λh=>by
  obtain⟨_,_,base,cap,rfl,hc,_⟩:=h;obtain⟨g,o,rfl,jG⟩:=hc aq1;rw[af4] at jG;exact⟨g,o,cap,by grind,jG⟩
 obtain⟨g1,o1,c1,rfl,GG⟩:=key ha;obtain⟨g2,o2,c2,rfl,qt⟩:=key hb;refine Tc.1 λhs=>?_;refine Td (e:=5) rfl GG kQ kQ kQ hs.has λw1 X1 ay=>?_;replace hs:=hs.trans ay;refine Td (e:=5) rfl (qt.mv ay.mv) kQ kQ kQ hs.has λw2 X2 bA=>?_;replace hs:=hs.trans bA;repeat' first|refine ao ?_;intros|refine cP ?_ ?_<;>intros
 ·exact bQ hs λwa aK=>rfl
 ·exact absurd rfl zQ
theorem adU:Tryz.f79.results= #[.cell 2 73,.cell 3 37]:=by kernel_rfl
variable {e : Int} {cs : List Value} {eb xb : Nat}
theorem LI {tmps:Array Value} (h1:tmps[2]? =some (ptr xb 0)) (h2:tmps[3]? =some (ptr eb 0)) (hx:aI w X xb cs 73) (hl:cs.length=29) (he:aI w X eb [I e] 37):
  (results Tryz.f79 tmps).run pg w= .ok (.tuple #[.agg cs.toArray,I e]) w:=by
 have l1:(loadVar 73 ⟨xb,0,none⟩).run pg w= .ok (.agg cs.toArray) w:=by
  have hq:(match pg.underlying 73 with|some (.struct _)=>true|_=>false)=true:=by kernel_rfl
  split at hq
  ·rename_i fs hu;refine run_loadVar_row w xb _ _ cs.toArray (0,0) _ hx.2 hu rfl ?_;rw[List.size_toArray,hl];kernel_rfl
  ·cases hq
 have l2:(loadVar 37 ⟨eb,0,none⟩).run pg w= .ok (I e) w:=by
  have hc:w.cell? ⟨eb,0,none⟩=some (I e):=by unfold World.cell?;rw[he.2];rfl
  have XA:(isAgg 37).run pg w= .ok false w:=run_isAgg_plain (d:=.int .i64) kQ rfl w;simp[loadVar,XA,run_load,hc]
 unfold results;rw[adU];simp[h1,h2,asAddr,l1,l2]
variable {R : Ending -> World -> Prop}
theorem VZ (hx:aI w X xb cs 73) (hl:cs.length=29) (he:aI w X eb [I e] 37) (hR:R (.returned (.tuple #[.agg cs.toArray,I e])) w):
  Ie pg Tryz.f79 R [ptr xb 0,ptr eb 0,.func (.func 132) #[] #[ptr xb 0,ptr eb 0]] .returning w:=by
 refine⟨[ptr xb 0,ptr eb 0],132,#[ptr xb 0,ptr eb 0],rfl,by kernel_rfl,?_⟩;refine(abx.2 _ w).mono ?_;rintro e' u' w' ⟨⟨x,rfl⟩,rfl,rfl⟩;refine⟨x,_,rfl,rfl,λtmps ht=>LI (ht 0 2 ?_) (ht 1 3 ?_) hx hl he,hR⟩
 ·rfl
 rfl
variable {N : Value -> World -> XS -> Prop} {t : TypeId} {P : Program}
theorem aiq {m:Bool} (hX: ∀k,X k->k<w.heap.size) (hz:(P.info? t).bind (·.zero)=some (I 0))
  (n: ∀b w' X',w.heap.size<=b->ai X w X' w'->aI w' X' b [I 0] t->N (ptr b 0) w' X'):eV P R X w m (ga t true (.tuple #[])) N:=by
 unfold eV eW;intro wa hk;unfold jS;have Yt: ∀w,(zeroValue t).run P w= .ok (I 0) w:=by
  intro w;cases hi:P.info? t with
  |none=>grind
  |some inf=>
   have uX:inf.zero=some (I 0):=by simpa [hi] using hz
   simp[zeroValue,typeInfo,hi,uX]
 have hr:(ga t true (.tuple #[])).run P wa= .ok (ptr wa.heap.size 0) (wa.alloc (.cells #[I 0] t)):=by simp[ga,Yt,newVar,newRow,Value.cells]
 simp only[vS,Sem.run_bind,hr,Result.andThen_ok,Sem.run_pure];have hx:Ext wa (wa.alloc (.cells #[I 0] t)):=Ext.alloc _ _;exact⟨Step.fb hx,n _ _ _ hk.size (ai.fb hX hk hx) ⟨.inr ⟨au _,by simp⟩,by simpa using heap_alloc_new wa _⟩⟩
variable {z : Int} {a c k : Nat}
section
variable {N : Value -> Prop}
theorem Yu (hz:z=k) (hk:k<=24) (hc:c<256) (h:N (.int .u32 ((c*2^k:Nat):Int))):aX P X w (binOp .shl t (.int .u32 (IntKind.u32.wrap (c:Int))) (.int .u64 z)) N:=
 SX zQ (by
  have h1:min z.toNat IntKind.u32.bits=k:=by
   show min z.toNat 32=k
   omega
  have h2:c*2^k<4294967296:=by
   have h3:2^k<=2^24:=rR dQ hk;have h4:c*2^k<=255*2^24:=Nat.mul_le_mul zQ h3;omega
  have e:IntKind.u32.wrap (IntKind.u32.wrap (c:Int)*2^min z.toNat IntKind.u32.bits)=((c*2^k:Nat):Int):=by
   rw[h1,wrap32,wrap32,show(c:Int) % 4294967296=c by omega];have h5:(c:Int)*2^k=((c*2^k:Nat):Int):=by simp
   rw[h5];omega
  rw[e];exact h)
theorem adV (hk:k<=24) (ha:a<2^k) (hc:c<256) (h:N (.int .u32 ((a+c*2^k:Nat):Int))):aX P X w (binOp .or t (.int .u32 (a:Int)) (.int .u32 ((c*2^k:Nat):Int))) N:=
 Rh (by
  have h3:2^k<=2^24:=rR dQ hk;have h4:c*2^k<=255*2^24:=Nat.mul_le_mul zQ h3;have e:IntKind.u32.wrap (aF IntKind.u32.bits (a:Int)|||aF IntKind.u32.bits ((c*2^k:Nat):Int)).toNat=((a+c*2^k:Nat):Int):=by
   rw[wrap32];have h1:(aF 32 (a:Int))=BitVec.ofNat 32 a:=by rw[xY]
   have h2:(aF 32 ((c*2^k:Nat):Int))=BitVec.ofNat 32 (c*2^k):=by rw[xY]
   show((aF 32 (a:Int)|||aF 32 ((c*2^k:Nat):Int)).toNat:Int) % 4294967296=_
   rw[h1,h2,BitVec.toNat_or,iL,iL,fq (by omega:a<2^32),fq (by omega:c*2^k<2^32),af2 ha];omega
  rw[e];exact h)
end
def acz: ∃g:List Nat->Nat,∀l,g l=l[0]?.getD 0+l[1]?.getD 0*2^8+l[2]?.getD 0*2^16+l[3]?.getD 0*2^24:=⟨_,λ_=>rfl⟩
noncomputable def iV:List Nat->Nat:=Classical.choose acz
theorem Ig (l:List Nat):iV l=l[0]?.getD 0+l[1]?.getD 0*2^8+l[2]?.getD 0*2^16+l[3]?.getD 0*2^24:=Classical.choose_spec acz l
theorem I6 (n:Nat) (h:n<4294967296) (l:List Nat):iV (uA n++l)=n:=by
 rw[Ig];unfold uA;simp;omega
variable {l : List Nat}
theorem Hp {vb:Value} (h:Sl w X 1 vb (l.map U1)) (h4:4<=l.length) (cx: ∀b∈l,b<256):Ct pg 253 #[vb] w X nX λv wa w'=>v= .int .u32 (iV l):=by
 intro w0 hk;replace h:=h.mv hk.cd;have hlen:=h.gN;obtain⟨b0,b1,b2,b3,r,rfl⟩: ∃b0 b1 b2 b3 r,l=b0::b1::b2::b3::r:=by
  match l,h4 with
  |b0::b1::b2::b3::r,_=>exact⟨_,_,_,_,_,rfl⟩
 have x0:(b0::b1::b2::b3::r)[0]? =some b0:=rfl;have x1:(b0::b1::b2::b3::r)[1]? =some b1:=rfl;have x2:(b0::b1::b2::b3::r)[2]? =some b2:=rfl;have x3:(b0::b1::b2::b3::r)[3]? =some b3:=rfl;have y0:=cx b0 sQ;have y1:=cx b1 sQ;have y2:=cx b2 sQ;have y3:=cx b3 sQ;refine Yv.1 λhs=>?_;have w8:IntKind.u32.wrap (b0:Int)=b0:=by rw[wrap32];omega
 repeat' first|refine ao ?_;intros|(with_reducible refine Yu (k:=8) rfl zQ y1 ?_)
 rw[w8];refine adV (k:=8) zQ zQ y1 ?_;repeat' first|refine ao ?_;intros|(with_reducible refine Yu (k:=16) rfl zQ y2 ?_)
 refine adV (k:=16) zQ zQ y2 ?_;repeat' first|refine ao ?_;intros|(with_reducible refine Yu (k:=24) rfl zQ y3 ?_)
 refine adV (k:=24) zQ zQ y3 ?_
 skip
 exact bQ hs λwa aK=>by rw[Ig];rfl
noncomputable def mi (b:List Nat):Option (List Nat):=
 if b.length<12\/262144<iV b\/iV (b.drop 4)≠Dy (b.take 4)\/b.length-12<iV b then none
 else if iV (b.drop (8+iV b))≠Dy ((b.drop 8).take (iV b))then none
 else some ((b.drop 8).take (iV b))
variable {b p : List Nat}
theorem Rj (h:mi b=some p):p.length+12<=b.length:=by
 unfold mi at h;split at h
 ·cases h
 ·rename_i h1;simp only[not_or,Nat.not_lt] at h1;split at h
  ·cases h
  grind
theorem aby (h: ¬(b.length<12\/262144<iV b\/iV (b.drop 4)≠Dy (b.take 4)\/b.length-12<iV b)) (h2:iV (b.drop (8+iV b))=Dy ((b.drop 8).take (iV b))):mi b=some ((b.drop 8).take (iV b)):=by
 unfold mi
 grind
theorem ya (h:b.length<12\/262144<iV b\/iV (b.drop 4)≠Dy (b.take 4)\/b.length-12<iV b):mi b=none:=by
 unfold mi
 grind
theorem adW (h2:iV (b.drop (8+iV b))≠Dy ((b.drop 8).take (iV b))):mi b=none:=by
 unfold mi
 grind
noncomputable def jl (b:List Nat):List (List Nat)×Nat:=
 match h:mi b with
 |none=>([],0)
 |some p=>let r:=jl (b.drop (p.length+12));(p::r.1,p.length+12+r.2)
termination_by b.length
decreasing_by
 have:=Rj h
 grind
theorem af7 (hp:p.length<=262144):mi (di p++l)=some p:=by
 have e1:iV (di p++l)=p.length:=by
  unfold di;simp only[ak];exact I6 _ zQ _
 have e2:(di p++l).drop 4=uA (Dy (uA p.length))++(p++(uA (Dy p)++l)):=by
  unfold di;simp only[ak];exact j6 (Np _)
 have e3:(di p++l).take 4=uA p.length:=by
  unfold di;simp only[ak];exact ik (Np _)
 have e4:(di p++l).drop 8=p++(uA (Dy p)++l):=by
  rw[show 8=4+4 from rfl,<-iu,e2];exact j6 (Np _)
 have hlen:(di p++l).length=p.length+12+l.length:=by rw[aa,qU]
 unfold mi;rw[e1,e2,e3,hlen,I6 _ (af8 _),if_neg oQ,<-iu,e4,List.drop_left,I6 _ (af8 _),List.take_left,if_neg sQ]
theorem adX (hp:p.length<=262144):jl (di p++l)=(p::(jl l).1,p.length+12+(jl l).2):=by
 have h:=af7 (l:=l) hp;have hd:(di p++l).drop (p.length+12)=l:=j6 (qU p);rw[jl]
 grind
theorem LJ: ∀(ps:List (List Nat)) (l:List Nat),(∀p∈ps,p.length<=262144)->jl ((ps.map di).flatten++l)=(ps++(jl l).1,(ps.map di).flatten.length+(jl l).2)
 |[],l,_=>by simp
 |p::ps,l,h=>by
  rw[aZ,cV,ak,adX (h p sQ),LJ ps l λq hq=>h q (bS _ hq),aa,qU]
  grind
theorem EB (h:mi l=none):jl l=([],0):=by grind [jl]
theorem abz (h:l.length<12):jl l=([],0):=EB (by unfold mi;grind)
variable {rows : List (List Value)} {i j : Nat} {v : Value}
theorem UJ {z':Int} {N:Value->Prop} (h:Sl w X 1 v rows) (hz:z=i) (uX:z'=j) (zd:i<=j) (hj:j<=rows.length) (ht:P.underlying t=some (.slice (P.elem t))) (hs:(P.info? (P.elem t)).map (·.size)=some 1)
  (n: ∀v',Sl w X 1 v' ((rows.drop i).take (j-i))->N v'):aX P X w (bD t v (some (.int .i64 z)) (some (.int .i64 z')) none) N:=by
 subst hz;subst uX;obtain⟨h1,h2,base,cap,rfl,hc,hb,Yw,iH⟩:=h;have hq: ∃inf,P.info? (P.elem t)=some inf/\inf.size=1:=by
  cases hq:P.info? (P.elem t)with
  |none=>simp[hq] at hs
  |some inf=>exact⟨inf,rfl,by simpa [hq] using hs⟩
 obtain⟨inf,hq,gf⟩:=hq;have hll:((rows.drop i).take (j-i)).length=j-i:=by rw[aD,bR];omega
 have oB: ∀wa:World,(bD t (.slice base rows.length cap) (some (.int .i64 (i:Int))) (some (.int .i64 (j:Int))) none).run P wa= .ok (sliced base i j cap 1) wa:=λwa=>by
  rw[run_sliceAt_slice wa t _ _ _ _ ht,run_slice_lh wa t _ _ cap ht .i64 .i64 i j zQ zQ zQ];simp[sizeOf,typeInfo,hq,gf]
 refine bB oB (n _ ?_);refine⟨λr hr=>h1 r (da (dc hr)),by omega,_,cap-i,by unfold sliced;rw[hll],λbU=>?_,λuq=>?_,by omega,by omega⟩
 ·have nN:i<j:=by
   refine BH λhle=>bU ?_;have:j-i=0:=by omega
   rw[this];simp
  obtain⟨b,o,rfl,jG⟩:=hc (by intro e;rw[e] at hj;simp at hj;omega);refine⟨b,o+i,?_,?_⟩
  ·rw[if_neg zQ];simp only[ba,aj,BG];unfold Addr.add;split
   ·rename_i h0;rw[h0];rfl
   ·rfl
  ·have hr: ∀r∈rows.drop i,r.length=1:=λr hr=>h1 r (da hr);rw[aJ.lY (j-i) hr,aJ.Dt i h1,BG,BG];obtain⟨hx,c,ty,fr,dW,Cf⟩:=jG;refine⟨hx,c,ty,fr,dW,λq u hu=>?_⟩;have hq:=(List.getElem?_eq_some_iff.1 hu).1;rw[aD] at hq;rw[fR zQ,gp] at hu;have:=Cf _ _ hu
   rwa [<-Nat.add_assoc] at this
 ·split at uq
  ·have:=hb uq;omega
  ·have:base=none:=by simpa using uq
   have:=hb this;omega
theorem PB {N:Value->Prop} (h:Sl w X k v rows) (hz:z=i) (hi:i<=rows.length) (ht:P.underlying t=some (.slice (P.elem t))) (hs:(P.info? (P.elem t)).map (·.size)=some k)
  (n: ∀v',Sl w X k v' (rows.drop i)->N v'):aX P X w (bD t v (some (.int .i64 z)) none none) N:=by
 subst hz;obtain⟨h1,h2,base,cap,rfl,hc,hb,Yw,iH⟩:=h;have hq: ∃inf,P.info? (P.elem t)=some inf/\inf.size=k:=by
  cases hq:P.info? (P.elem t)with
  |none=>simp[hq] at hs
  |some inf=>exact⟨inf,rfl,by simpa [hq] using hs⟩
 obtain⟨inf,hq,gf⟩:=hq;have oB: ∀wa:World,(bD t (.slice base rows.length cap) (some (.int .i64 (i:Int))) none none).run P wa= .ok (sliced base i rows.length cap k) wa:=λwa=>by
  rw[run_sliceAt_slice wa t _ _ _ _ ht,run_slice_l wa t _ _ cap ht .i64 i zQ zQ];simp[sizeOf,typeInfo,hq,gf]
 refine bB oB (n _ ?_);refine⟨λr hr=>h1 r (da hr),by rw[bR];omega,_,cap-i,by unfold sliced;rw[bR],λbU=>?_,λuq=>?_,by rw[bR];omega,by omega⟩
 ·have nN:i<rows.length:=by
   refine BH λhle=>bU (List.drop_of_length_le hle)
  obtain⟨b,o,rfl,jG⟩:=hc (by intro e;rw[e] at nN;simp at nN);refine⟨b,o+i*k,?_,?_⟩
  ·rw[if_neg zQ];simp only[ba,aj];unfold Addr.add;split
   ·rename_i h0;rw[h0];rfl
   ·rfl
  ·rw[aJ.Dt i h1];obtain⟨hx,c,ty,fr,dW,Cf⟩:=jG;exact⟨hx,c,ty,fr,dW,λj v hj=>by rw[gp] at hj;have:=Cf _ _ hj;rwa [<-Nat.add_assoc] at this⟩
 ·split at uq
  ·have:=hb uq;omega
  ·have:base=none:=by simpa using uq
   have:=hb this;omega
theorem ak6 (h: ∀b∈l,b<256):iV l<4294967296:=by
 have g: ∀i:Nat,l[i]?.getD 0<256:=λi=>by
  cases hq:l[i]? with
  |none=>simp
  |some x=>simpa using h x (ax hq)
 have:=g 0;have:=g 1;have:=g 2;have:=g 3;rw[Ig];omega
theorem amM (l:List Nat):U4 (LK l)= .int .u32 ((Dy l:Nat):Int):=by rw[Rk]
theorem Rl {q:List Nat} (h:mi b=some q):jl b=(q::(jl (b.drop (q.length+12))).1,q.length+12+(jl (b.drop (q.length+12))).2):=by
 rw[jl];split
 ·rename_i h2;rw[h] at h2;cases h2
 ·rename_i q' h2;rw[h] at h2;cases h2;rfl
theorem Yy {v0:Value} (h:Sl w X 1 v0 (bs.map U1)) (hb:bs.length<=2^30) (cx: ∀b∈bs,b<256):
  Ct pg 180 #[v0] w X nX λv wa w'=> ∃va,∃rs:List (Value×List Nat),v= .tuple #[va,I ((jl bs).2:Nat)]/\rs.map Prod.snd=(jl bs).1/\Own w' (made wa w') wa.heap.size 151 1 va (rs.map λr=>[r.1])/\
   ∀r∈rs,Own w' (made wa w') wa.heap.size 5 1 r.1 (r.2.map U1):=by
 intro w0 hk;replace h:=h.mv hk.cd;obtain⟨lb,ln,lc,rfl⟩:=h.form;refine V2.1 λhs=>?_;refine gZ (Q:=λK=> ∀va w X,∀rs:List (Value×List Nat),ai (bN w0) w0 X w->rs.map Prod.snd=(jl bs).1->Own w X w0.heap.size 151 1 va (rs.map λr=>[r.1])->(∀r∈rs,Own w X w0.heap.size 5 1 r.1 (r.2.map U1))->K va (I ((jl bs).2:Nat)) w X) ?_ λK hK=>?_
 ·intro va w1 X1 rs ay he ho hr;exact bQ ay λwa aK=>⟨va,rs,rfl,he,(ho.kp aK).tight,λr h=>((hr r h).kp aK).tight⟩
 ·refine gO (λm a b w X=> ∃(p:Nat) (rs:List (Value×List Nat)),a=I p/\m=bs.length-p/\p<=bs.length/\ai (bN w0) w0 X w/\jl bs=(rs.map Prod.snd++(jl (bs.drop p)).1,p+(jl (bs.drop p)).2)/\Own w X w0.heap.size 151 1 b (rs.map λr=>[r.1])/\(∀r∈rs,Own w X w0.heap.size 5 1 r.1 (r.2.map U1))/\rs.length<=p) bs.length ⟨0,[],rfl,rfl,aq _,hs,by simp,Own.nil _ _ _ _ _,by simp,au _⟩ ?_;clear hs;rintro m a acc w1 X1 ⟨p,rs,rfl,rfl,hp,hs,UK,ho,hr,rq⟩;have mX:=h.mv hs.mv;have Rm:mi (bs.drop p)=none-> ∀w X,ai X1 w1 X w->K acc (I p) w X:=λhn w X Cg=>by
   rw[EB hn] at UK;have:=hK acc w X rs (hs.trans Cg) (by rw[UK];simp) (ho.since Cg) λr h=>(hr r h).since Cg;rw[UK] at this;exact this
  by_cases yb:bs.length-p<12
  ·repeat' refine aL ?_;intros
   exact Rm (ya (.inl (by rw[bR];exact yb))) _ _ (ai.fK hs.has)
  ·repeat' refine aL ?_;intros
   refine PB mX rfl (by rw[af];exact hp) kQ kQ λv1 lq=>?_;rw[<-qw] at lq;have zM: ∀b∈bs.drop p,b<256:=λb hb=>cx b (da hb);have BD:(bs.drop p).length=bs.length-p:=bR;refine dZ (Hp lq zQ zM) kQ hs.has λw2 X2 bA=>?_;replace hs:=hs.trans bA;have jV:=ho.since bA;have jI: ∀r∈rs,Own w2 X2 w0.heap.size 5 1 r.1 (r.2.map U1):=λr h=>(hr r h).since bA;have hg4:iV (bs.drop p)<4294967296:=ak6 zM;have hwn:IntKind.i64.wrap ((iV (bs.drop p):Nat):Int)=(iV (bs.drop p):Nat):=WW zQ;repeat' first|refine ao ?_;intros|refine cP ?_ ?_<;>intros
   ·repeat' first|refine ao ?_;intros|with_reducible apply cJ
    exact Rm (ya (.inr (.inl zQ))) _ _ bA
   ·have adY:=h.mv hs.mv;refine PB adY (i:=p+4) zQ (by rw[af];omega) kQ kQ λv2 rN=>?_;rw[<-qw] at rN;repeat' refine ao ?_;intros
    refine UJ adY (i:=p) (j:=p+4) rfl zQ zQ (by rw[af];omega) kQ kQ λv3 H3=>?_;rw[<-qw,<-kA] at H3;refine gZ (Q:=λK=> ∀w X,ai X2 w2 X w->K (.int .u32 ((iV (bs.drop (p+4)):Nat):Int)) w X) ?_ λK1 hK1=>?_
    ·intro w3 X3 dm;refine gZ (Q:=λK=> ∀w X,ai X2 w2 X w->K (.int .u32 ((Dy ((bs.drop p).take (p+4-p)):Nat):Int)) w X) ?_ λK2 hK2=>?_
     ·intro w4 X4 fV;have amN:=adY.mv fV.mv;have e4:(bs.drop p).drop 4=bs.drop (p+4):=iu;have e5:p+4-p=4:=by omega
      rw[e5];repeat' first|refine ao ?_;intros|refine cP ?_ ?_<;>intros
      ·rename_i bU;exact Rm (ya (.inr (.inr (.inl (by rw[e4];omega))))) _ _ (bA.trans fV)
      ·rename_i heq Rn;exact Rm (ya (.inr (.inr (.inr (by rw[BD];omega))))) _ _ (bA.trans fV)
      ·rename_i QF heq Rn;rw[hwn] at Rn QF⊢;have akq:((bs.drop (p+8)).take (iV (bs.drop p))).length=iV (bs.drop p):=by
        have h8:iV (bs.drop p)<=bs.length-(p+8):=by omega
        rw[aD,bR];exact kD h8
       refine UJ amN (i:=p+8) (j:=p+8+iV (bs.drop p)) zQ zQ zQ (by rw[af];omega) kQ kQ λv5 hv5=>?_;rw[<-qw,<-kA,show p+8+iV (bs.drop p)-(p+8)=iV (bs.drop p)by omega] at hv5;repeat' refine ao ?_;intros
       refine PB amN (i:=p+8+iV (bs.drop p)) zQ (by rw[af];omega) kQ kQ λv6 hv6=>?_;rw[<-qw] at hv6;refine dZ (Hp hv6 (by rw[bR];omega) λb hb=>cx b (da hb)) kQ fV.has λw5 X5 tq=>?_;refine dZ (C9 (hv5.mv tq.mv)) kQ tq.has λw6 X6 tY=>?_;rw[amM];have e8:(bs.drop p).drop 8=bs.drop (p+8):=iu;have e9:(bs.drop p).drop (8+iV (bs.drop p))=bs.drop (p+8+iV (bs.drop p)):=by rw[iu];congr 1;omega
       have Yz:=(fV.trans tq).trans tY;have gu: ¬((bs.drop p).length<12\/262144<iV (bs.drop p)\/iV ((bs.drop p).drop 4)≠Dy ((bs.drop p).take 4)\/(bs.drop p).length-12<iV (bs.drop p)):=by
        rw[e4,BD];omega
       have pc:=hs.trans Yz;have ho6:=jV.since Yz;have BJ: ∀r∈rs,Own w6 X6 w0.heap.size 5 1 r.1 (r.2.map U1):=λr h=>(jI r h).since Yz;have adZ:=hv5.mv (tq.trans tY).mv;clear hs;have hs:=pc;clear jV jI ho hr;repeat' first|refine ao ?_;intros|refine cP ?_ ?_<;>intros|(with_reducible apply adQ);(case hX=>exact hs.has);(case hu=>kernel_rfl);(case hz=>kernel_rfl);intro acc w X ay ho;replace hs:=hs.trans ay
       ·rename_i bU;exact Rm (adW (by rw[e9,e8];omega)) _ _ (bA.trans Yz)
       ·rename_i aq2;have GH:=aby gu (by rw[e9,e8];omega);rw[e8] at GH;clear aq2 gu heq;have amO:=akq;obtain⟨pl,wu⟩: ∃pl,(bs.drop (p+8)).take (iV (bs.drop p))=pl:=⟨_,rfl⟩;rw[wu] at GH adZ amO;clear wu akq;refine qu ho ay Yz.has kQ (adZ.mv ay.mv) (λr hr u hu=>?_) oQ oQ λv8 w8 X8 kT BK hc8 YA=>?_
        ·obtain⟨x,_,rfl⟩:=List.mem_map.1 hr;simp at hu;subst hu;rfl
        have Cg:=pc.trans kT;have Ih:=ho6.since kT;refine Nq Ih Cg (λ_ h=>h) kQ rfl BK.sl.one oQ oQ λva9 w9 X9 Te UL hc9 atv=>?_;have OT: ∀{v:Value} {rows:List (List Value)},Own w8 X8 w0.heap.size 5 1 v rows->Own w9 X9 w0.heap.size 5 1 v rows:=λhv=>hv.ea hc9 λg hg dW=>by
         obtain⟨c1,e1⟩:=hv.ow.tag hg;obtain⟨c2,e2⟩:=Ih.ow.tag dW;rw[e1] at e2;simp at e2
        clear hs;have hs:=Te;repeat' refine ao ?_;intros
        refine fZ (bs.length-(p+(iV (bs.drop p)+12))) zQ ⟨p+(iV (bs.drop p)+12),rs++[(v8,pl)],by simp,rfl,by omega,Te,?_,?_,λr hr=>?_,?_⟩
        ·rw[Rl GH,amO,iu] at UK;rw[UK];simp;omega
        ·rw[az];exact UL
        ·rcases List.mem_append.1 hr with hr|hr
         ·exact OT ((BJ r hr).since kT)
         ·simp only[av] at hr;subst hr;exact OT (BK.low (by have:=pc.kp.size;omega))
        ·simp;omega
     ·repeat' refine ao ?_;intros
      refine dZ (C9 (H3.mv dm.mv)) kQ dm.has λw4 X4 fV=>?_;rw[amM];exact hK2 _ _ (dm.trans fV)
    ·repeat' refine ao ?_;intros
     refine dZ (Hp rN (by rw[bR];omega) λb hb=>cx b (da hb)) kQ hs.has λw3 X3 dm=>?_;exact hK1 _ _ dm
def DM.bytes (m:DM) (n:ByteArray):List Nat:=((m.get n).map (·.1)).getD []
variable {n : ByteArray} {m : DM} {db : Nat} {F : XS}
theorem Hq (h:Dk w F db m) (hF:FX F X w):
  Ct pg 179 #[ptr db 0,.string n] w X nX λv wa w'=> ∃vb,v= .tuple #[vb,I (if(m.get n).isSome then 0 else 8)]/\Own w' (made wa w') wa.heap.size 5 1 vb ((m.bytes n).map U1):=by
 intro w0 hk;obtain⟨mb,l,h0,hz⟩:=h.mv (hF.mv hk);have hX:=λk ah=>(hF.kp hk k ah).1;have hb:=h0.box.mv (Mv.sub hX);have hg:=h0.get n;have hm:=h0.map.mv mj (Mv.sub hX) (A':=nX) λ_ h=>h.elim;refine NY.1 λhs=>?_;repeat' refine ao ?_;intros
 refine tt hm (λf h1=>?_) λh1=>?_
 ·have hr:=(h0.row _ (gL h1)).mv (Mv.sub hX);have adZ:=((h0.ow _ (gL h1)).mono hX).sl;have mF:m.get n=some (f.bs,f.safe):=by rw[hg,h1];rfl
  have hle:=DM.CD mF;have xn:m.bytes n=f.bs:=by unfold DM.bytes;rw[mF];rfl
  rw[xn,mF];repeat' first|refine ao ?_;intros|(refine Ro hs ?_;intro acc w X hs ho)
  refine qu ho hs (λ_ h=>h) kQ (adZ.mv hs.mv) (λr hr u hu=>?_) oQ oQ λv8 w8 X8 kT BK hc8 YA=>?_
  ·obtain⟨x,_,rfl⟩:=List.mem_map.1 hr;simp at hu;subst hu;rfl
  exact bQ kT λwa aK=>⟨v8,rfl,(BK.kp aK).tight⟩
 ·have mF:m.get n=none:=by rw[hg,h1];rfl
  have xn:m.bytes n=[]:=by unfold DM.bytes;rw[mF];rfl
  rw[xn,mF];repeat' refine ao ?_;intros
  exact bQ hs λwa aK=>⟨_,rfl,Own.nil _ _ _ _ _⟩
def DM.D2 (n:ByteArray) (k:Nat) (m:DM):DM:=match m.get n with
 |none=>m
 |some x=>m.put n (x.1.take k) (min x.2 k)
def DM.PC (m:DM) (n:ByteArray) (k:Int):Nat:=if(m.get n).isSome then(if k<0\/(m.bytes n).length<k then 1 else 0)else 8
def DM.cut (m:DM) (n:ByteArray) (k:Int):DM×Nat:=m.write (m.PC n k) (DM.D2 n k.toNat)
theorem DM.acA {s s':Nat} (h:m.get n=some (b,s)) (hk:k<=b.length):(m.put n (b.take k) s').sz+(b.length-k)=m.sz:=by
 have:=DM.LL (bs:=b.take k) (s':=s') h;rw[aD] at this;omega
variable {X' : XS} {w' : World}
theorem oq.cut {mb z s':Nat} {l:List (ByteArray×nr)} {f:nr} {v':Value} (h:oq w F db mb l m z) (hX:FX F X w) (hn:getM n l=some f) (c:ee (· =f.b) X w X' w')
  (hv:Ow w F 5 1 v' ((f.bs.take i).map U1)) (hb:v'.ownBlock=f.v.ownBlock) (hr:aI w' X' f.b [v',I s'] 153) (hs:s'<=(f.bs.take i).length):
  oq w' F db mb (cI n ⟨f.b,v',f.bs.take i,s'⟩ l) (m.put n (f.bs.take i) s') z:=by
 have br:=h.row _ (gL hn);refine h.jT hX c hn (λk hk=>.inl hk) (λ_ h=>h) ⟨br.1,hr.2⟩ ?_ (.inl hb) hs;refine hv.tight.mv λk hk hl=>⟨(hv.bo hk).1,c.block k (hX k (hv.bo hk).1).1 λe=>?_⟩;have e:k=f.b:=e;subst e;exact hv.eT br kQ hk
theorem abA {bd bn bk:Nat} (h:Dk w F db m) (hF:FX F X w) (hd:aI w X bd [ptr db 0] 25) (hn:aI w X bn [.string n] 9) (sF:aI w X bk [I k] 3)
 {s:Nat} (hg:m.get n=some (b,s)) (pF:k<=b.length):
    Ct pg 259 #[ptr bd 0,ptr bn 0,ptr bk 0] w X F λv wa w'=>v= .tuple #[]/\ ∃F',(∀k,F' k->F k\/made wa w' k)/\Dk w' F' db (DM.D2 n k m):=by
  intro w0 hk;obtain⟨mb,l,h0,hz⟩:=h.mv (hF.mv hk);have hT:=hF.ft hk;replace hd:=hd.mv hk.cd;replace hn:=hn.mv hk.cd;replace sF:=sF.mv hk.cd;have fY:=h0.box.mv (Mv.sub hT.bo);have hs:=ai.init w0;have pS:=h0.get n;have hm:=h0.map.mv mj (Mv.sub hT.bo) (A':=nX) λ_ h=>h.elim;refine KI.1 λ_=>?_;repeat' refine ao ?_;intros
  refine tt hm (λf h1=>?_) λh1=>?_
  · have hgf:(b,s)=(f.bs,f.safe):=by rw[h1,hg] at pS;exact bV pS
    obtain⟨rfl,rfl⟩:=Prod.mk.inj hgf;have hr:aI w0 (bN w0) f.b [f.v,I f.safe] 153:=(h0.row _ (gL h1)).mv (Mv.sub hT.bo);have ho:Ow w0 F 5 1 f.v (f.bs.map U1):=h0.ow _ (gL h1);have xp:=ho.sl.mono hT.bo;have gf:=DM.acA (s':=min f.safe k) hg pF;have hle:=DM.CD hg;repeat' refine ao ?_;intros
    refine yc hT h0 (λ_ h=>h) m (m.put n (f.bs.take k) (min f.safe k)).sz (o:=1) zQ kQ zQ rfl (by rw[show(((m.put n (f.bs.take k) (min f.safe k)).sz:Nat):Int)=(m.sz:Int)-((f.bs.length:Int)-(k:Int))by omega];rfl) rfl h0.ar λw4 X4 fP h4 c4=>?_;have zO:aI w4 X4 f.b [f.v,I f.safe] 153:=(h4.row _ (gL h1)).mv (Mv.sub fP.bo);have GI:Ow w4 F 5 1 f.v (f.bs.map U1):=h4.ow _ (gL h1);have JY:=sF.ea c4 λe=>aI.eT sF fY kQ e;clear hr ho xp fY hs sF;repeat' refine ao ?_;intros
    refine YB (i:=k) (GI.mono fP.bo) zQ zQ (by rw[af];exact pF) kQ kQ λv' hv hvb=>?_;rw[<-kA] at hv;have hvF:Ow w4 F 5 1 v' ((f.bs.take k).map U1):=hv.tight.mono λq hq=>(GI.bo (by rw[<-hvb];exact hq)).1;repeat' refine ao ?_;intros
    refine pW (o:=0) zO zQ kQ sQ hv.one fP.s.has λw5 X5 c5 Dz=>?_;replace Dz:aI w5 X5 f.b [v',I f.safe] 153:=Dz;have DA:=JY.ea c5 λe=>aI.eT JY zO kQ e;have hll:(f.bs.take k).length=k:=by rw[aD];exact kD pF
    clear JY;repeat' refine ao ?_;intros
    rw[show min (f.safe:Int) (k:Int)=((min f.safe k:Nat):Int)by omega];refine pW (o:=1) Dz zQ kQ sQ rfl c5.has λw6 X6 c6 BJ=>?_;replace BJ:aI w6 X6 f.b [v',I ((min f.safe k:Nat):Int)] 153:=BJ;have cc:=c5.trans c6;have hFf:F f.b:=(h4.row _ (gL h1)).1;have h6:=h4.cut (s':=min f.safe k) (fP.fx λ_ h=>h) h1 cc hvF hvb BJ (by rw[hll];exact BI _ _);have kj:=fP.ea (F':=F) cc (λq e=>by rw[show q=f.b from e];exact hFf) λq hq=>.inl hq;refine kj.fin λwa aK=>⟨rfl,F,kj.jz aK λ_ h=>h,?_⟩;have e:DM.D2 n k m=m.put n (f.bs.take k) (min f.safe k):=by unfold DM.D2;rw[hg]
    rw[e];exact⟨mb,_,h6.mv (aK.je kj.bo),by omega⟩
  · rw[h1,hg] at pS;cases pS
theorem ad0 (h:Dk w F db m) (hF:FX F X w) (J0:k<2^62):
  Ct pg 182 #[ptr db 0,.string n,I k] w X F λv wa w'=>v=I (m.cut n k).2/\ ∃F',(∀k,F' k->F k\/made wa w' k)/\Dk w' F' db (m.cut n k).1:=by
 intro w0 hk;replace h:=h.mv (hF.mv hk);have hT:=hF.ft hk;have ot:FX F (bN w0) w0:=hF.kp hk;clear hF;refine PD.1 λ_=>?_;refine uv rfl hT.s.has λbd w1 X1 pR ay jB=>?_;refine uv rfl ay.has λbn w2 X2 hbn bA UM=>?_;refine uv rfl bA.has λbk w3 X3 hbk dm hrk=>?_;have LN:=(ay.trans bA).trans dm;have dX:=hT.since LN;have AB:=(jB.since bA).since dm;have D3:=UM.since dm;have h3:Dk w3 F db m:=h.mv (LN.gW λk ah=>(ot k ah).1);have hs:=ai.fK dm.has;repeat' refine ao ?_;intros
 refine dZ (Rp h3 (dX.fx λ_ h=>h)) kQ hs.has λw4 X4 fV=>?_;have fP:=dX.since fV;have h4:Dk w4 F db m:=h3.mv (fV.gW dX.bo);have LO:=AB.since fV;have ad1:=D3.since fV;have ad2:=hrk.since fV;have q1:=ay.kp.size;have q2:=bA.kp.size;clear hs AB D3 hrk jB UM h3 dX;refine gZ (Q:=λK=> ∀e:Nat,m.PC n k=e->K (I e)) ?_ λK hK=>?_
 ·intro e he;have em:m.cut n k=m.write e (DM.D2 n k):=by rw[<-he];rfl
  repeat' refine ao ?_;intros
  rw[em];refine fP.call (Fq (A:=λk=>k=bd\/k=bn\/k=bk) (g:=DM.D2 n k) h4 (fP.fx λ_ h=>h) (λk ah=>?_) kQ ?_) kQ (λ_ h=>h) λv OP w5 X5 hq IZ Fj iO Fm=>?_
  ·rcases ah with rfl|rfl|rfl
   ·exact⟨LO.1,LO.lt,λhf=>by have:=(ot _ hf).2;omega⟩
   ·exact⟨ad1.1,ad1.lt,λhf=>by have:=(ot _ hf).2;omega⟩
   ·exact⟨ad2.1,ad2.lt,λhf=>by have:=(ot _ hf).2;omega⟩
  ·intro Bw w6 X6 hm6 hx6 hF6 h6;subst Bw;unfold DM.PC at he;cases mF:m.get n with
   |none=>rw[mF] at he;simp at he
   |some x=>
    obtain⟨b,s⟩:=x;have XC:m.bytes n=b:=by unfold DM.bytes;rw[mF];rfl
    rw[mF,XC] at he;simp only[tO,if_true] at he;have pF:k<=b.length:=by
     refine Nat.le_of_not_lt λhn=>?_;rw[if_pos (.inr zQ)] at he;cases he
    refine abA h6 hF6 ⟨hx6 _ (.inl rfl),?_⟩ ⟨hx6 _ (.inr (.inl rfl)),?_⟩ ⟨hx6 _ (.inr (.inr rfl)),?_⟩ (by rw[m.qj];exact mF) pF
    ·rw[(hm6 bd (.inl rfl) (LO.lt)).2];exact LO.2
    ·rw[(hm6 bn (.inr (.inl rfl)) (ad1.lt)).2];exact ad1.2
    ·rw[(hm6 bk (.inr (.inr rfl)) (ad2.lt)).2];exact ad2.2
  ·obtain⟨rfl,F',DB,hD⟩:=hq
   skip
   exact iO.fin λIi aK=>⟨rfl,F',iO.jz aK DB,hD.mv (aK.je λk ah=>iO.bo k (DB k ah))⟩
 ·obtain⟨mb,l,h0,hz⟩:=id h4;have fY:=h0.box.mv (Mv.sub fP.bo);have hm:=h0.map.mv mj (Mv.sub fP.bo) (A':=nX) λ_ h=>h.elim;have pS:=h0.get n;repeat' first|refine ao ?_;intros|refine cP ?_ ?_<;>intros
  ·exfalso;omega
  ·refine tt hm (λf h1=>?_) λh1=>?_
   ·have mF:m.get n=some (f.bs,f.safe):=by rw[pS,h1];rfl
    have XC:m.bytes n=f.bs:=by unfold DM.bytes;rw[mF];rfl
    have hr:aI w4 X4 f.b [f.v,I f.safe] 153:=(h0.row _ (gL h1)).mv (Mv.sub fP.bo);have ho:Sl w4 X4 1 f.v (f.bs.map U1):=(h0.ow _ (gL h1)).sl.mono fP.bo;repeat' first|refine ao ?_;intros|refine cP ?_ ?_<;>intros
    ·exact hK 1 (by unfold DM.PC;rw[mF,XC];simp only[tO,if_true];rw[if_pos (.inr zQ)])
    ·rw[mF];exact hK 0 (by unfold DM.PC;rw[mF,XC];simp only[tO,if_true];rw[if_neg zQ])
   ·have mF:m.get n=none:=by rw[pS,h1];rfl
    simp[mF] at*
  ·have mF:(m.get n).isSome=false:=by
    cases hq:(m.get n).isSome with
    |false=>rfl
    |true=>simp_all
   rw[mF];exact hK 8 (by unfold DM.PC;rw[mF];rfl)
def DM.uB (cG:List Int) (x:DM×Nat) (n:ByteArray):DM×Nat:=match x.1.get n with
 |none=>x
 |some (bs,s)=>if bs.length=s then x else
  let k:=match cG[x.2]? with
   |some p=>if 0<=p then p.toNat % (bs.length-s+1)else 0
   |none=>0
  (x.1.put n (bs.take (s+k)) (s+k),x.2+1)
def DM.mA (m:DM) (cG:List Int):DM:= { ((fQ (m.fs.map (·.1))).foldl (DM.uB cG) (m,0)).1 with ar:=0,dn:=false }
theorem DM.ak7 {k:ByteArray} {s:Nat} (h:(m.get k).isSome=true):((m.put n b s).get k).isSome=true:=by
 unfold DM.get DM.put at*;dsimp only;by_cases e:k=n
 ·subst e;rw[ku];rfl
 ·rw[nL e];exact h
variable {cG : List Int}
theorem DM.air {x:DM×Nat} {k:ByteArray} (h:(x.1.get k).isSome=true):((DM.uB cG x n).1.get k).isSome=true:=by
 unfold DM.uB;split
 ·exact h
 ·split
  ·exact h
  ·exact DM.ak7 h
variable {vq : Value}
theorem YC {S:XS} (h:Dk w F db m) (hF:FX F X w) (hq:Sl w S 1 vq (cG.map I1)) (hS: ∀k,S k->X k/\ ¬F k) (hn: ∀x∈m.fs,x.1.size<=2^40) (hl:m.fs.length<=2^40):
  Ct pg 38 #[ptr db 0,vq] w X F λv wa w'=>v= .tuple #[]/\Dk w' F db (m.mA cG):=by
 intro w0 hk;obtain⟨mb,l,h0,hz⟩:=h.mv (hF.mv hk);have hT:=hF.ft hk;have ot:FX F (bN w0) w0:=hF.kp hk;have hq0:Sl w0 (out F w0) 1 vq (cG.map I1):=hq.mv λk ah Bz=>⟨⟨aw Bz hk.size,(hS k ah).2⟩,hk.block k (hS k ah).1⟩;obtain⟨qb,qn,qc,rfl⟩:=hq0.form;refine LP.1 λ_=>?_;refine cA (OU ⟨mb,l,h0,hz⟩ (hT.fx λ_ h=>h) hn hl) kQ hT.s.has ?_;rintro vl Ej w1 X1 hol qf nJ ay;have eh:=hT.since ay;have h1:=h0.mv (ay.gW hT.bo);have nB:Sl w1 (λk=>X1 k/\ ¬F k) 1 vl ((fQ (m.fs.map (·.1))).map S1):=hol.sl.mono λk ah=>⟨nJ k ah,λhf=>by have:=(ot k hf).2;have:=ah.1;omega⟩;have xi: ∀n∈fQ (m.fs.map (·.1)),(m.get n).isSome=true:=λn hn=>by
  have:=(kL (m.fs.map (·.1))).mem_iff.1 hn;cases hg:m.get n with
  |some x=>rfl
  |none=>exact absurd this (getM_none.1 hg)
 have hB:ai (λk=>X1 k/\ ¬F k) w1 X1 w1:=⟨Kp.refl _ _,λk h=>h.1,eh.s.has⟩;have Ko:m.mA cG= { ((fQ (m.fs.map (·.1))).foldl (DM.uB cG) (m,0)).1 with ar:=0,dn:=false } :=rfl;generalize YD:fQ (m.fs.map (·.1))=ns at nB xi Ko;have hnl:=nB.gN;obtain⟨lb,ln,lc,rfl⟩:=nB.form;repeat' refine ao ?_;intros
 refine gO (λm' a b w X=> ∃(j:Nat) (l:List (ByteArray×nr)) (x:DM×Nat),a=I j/\b=I x.2/\m'=ns.length-j/\j<=ns.length/\x.2<=j/\x=(ns.take j).foldl (DM.uB cG) (m,0)/\Ft w0 F w X F/\oq w F db mb l x.1 x.1.sz/\x.1.sz<=4194304/\(∀n∈ns,(x.1.get n).isSome=true)/\ai (λk=>X1 k/\ ¬F k) w1 X w) ns.length
  ⟨0,l,(m,0),rfl,rfl,rfl,aq _,au _,rfl,eh,h1,hz,xi,hB⟩ ?_
 clear eh h1 hB hT h0 hz;rintro m' a b w X ⟨j,l,x,rfl,rfl,rfl,hj,hxj,hx,hT,h0,hz,xi,hB⟩;have hb:=h0.box.mv (Mv.sub hT.bo);have aqR:=nB.mv hB.mv;have hq':=hq0.mv hT.s.mv;have hm:=h0.map.mv mj (Mv.sub hT.bo) (A':=nX) λ_ h=>h.elim;rcases dD ns j with⟨cx,n,mE,hd⟩|⟨dA,hd⟩
 ·have mF:=xi n (ax mE);have pS:=h0.get n;have Rq:(ns.take (j+1)).foldl (DM.uB cG) (m,0)=DM.uB cG x n:=by rw[List.take_add_one,mE,List.foldl_append,<-hx];rfl
  repeat' refine aL ?_;intros
  refine gZ (Q:=λK=> ∀(x':DM×Nat) w X l,x'=DM.uB cG x n->Ft w0 F w X F->oq w F db mb l x'.1 x'.1.sz->x'.1.sz<=4194304->x'.2<=j+1->ai (λk=>X1 k/\ ¬F k) w1 X w->K (I x'.2) w X) ?_ λK hK=>?_
  ·intro x' w X l Br hT h0 hz hxj hB;repeat' refine ao ?_;intros
   exact fZ (ns.length-(j+1)) zQ ⟨j+1,l,x',by simp,rfl,rfl,by omega,hxj,by rw[Rq];exact Br,hT,h0,hz,λk ah=>by rw[Br];exact DM.air (xi k ah),hB⟩
  ·repeat' refine ao ?_;intros
   refine tt hm (λf hf=>?_) λhf=>?_
   ·have YE:x.1.get n=some (f.bs,f.safe):=by rw[pS,hf];rfl
    have hr:aI w X f.b [f.v,I f.safe] 153:=(h0.row _ (gL hf)).mv (Mv.sub hT.bo);have ho:Ow w F 5 1 f.v (f.bs.map U1):=h0.ow _ (gL hf);have xp:=ho.sl.mono hT.bo;have hsf:f.safe<=f.bs.length:=h0.safe _ (gL hf);have hle:=DM.CD YE;have htr:DM.uB cG x n=if f.bs.length=f.safe then x else(x.1.put n (f.bs.take (f.safe+(match cG[x.2]? with|some p=>if 0<=p then p.toNat % (f.bs.length-f.safe+1)else 0|none=>0))) (f.safe+(match cG[x.2]? with|some p=>if 0<=p then p.toNat % (f.bs.length-f.safe+1)else 0|none=>0)),x.2+1):=by
     unfold DM.uB;rw[YE]
    repeat' first|refine ao ?_;intros|refine cP ?_ ?_<;>intros
    ·exact hK x _ _ l (by rw[htr,if_pos zQ]) hT h0 hz zQ hB
    ·rename_i gy;have aq3: ¬f.bs.length=f.safe:=by omega
     rw[if_neg aq3] at htr;generalize nC:(match cG[x.2]? with|some p=>if 0<=p then p.toNat % (f.bs.length-f.safe+1)else 0|none=>0)=k at htr;have xq:f.safe+k<=f.bs.length:=by
      rw[<-nC];split
      ·split
       ·rename_i q _ _;have:=Nat.mod_lt q.toNat (show 0<f.bs.length-f.safe+1 by omega);generalize q.toNat % (f.bs.length-f.safe+1)=u at this;omega
       ·omega
      ·omega
     have gf:=DM.acA (s':=f.safe+k) YE xq;refine gZ (Q:=λK1=>K1 (I (k:Nat))) ?_ λK1 hK1=>?_
     ·repeat' refine ao ?_;intros
      have aq4:F db:=h0.box.1;refine yc hT h0 (λ_ h=>h) x.1 (x.1.put n (f.bs.take (f.safe+k)) (f.safe+k)).sz (o:=1) zQ kQ zQ rfl (by rw[show(((x.1.put n (f.bs.take (f.safe+k)) (f.safe+k)).sz:Nat):Int)=(x.1.sz:Int)-((f.bs.length:Int)-(f.safe:Int)-(k:Int))by omega];rfl) rfl h0.ar λw4 X4 fP h4 c4=>?_;have hB4:=hB.ea c4 λq hq e=>hq.2 (by rw[show q=db from e];exact aq4);have zO:aI w4 X4 f.b [f.v,I f.safe] 153:=(h4.row _ (gL hf)).mv (Mv.sub fP.bo);have GI:Ow w4 F 5 1 f.v (f.bs.map U1):=h4.ow _ (gL hf);clear hr ho xp hb;repeat' refine ao ?_;intros
      refine YB (i:=f.safe+k) (GI.mono fP.bo) zQ zQ (by rw[af];exact xq) kQ kQ λv' hv hvb=>?_;rw[<-kA] at hv;have hvF:Ow w4 F 5 1 v' ((f.bs.take (f.safe+k)).map U1):=hv.tight.mono λq hq=>(GI.bo (by rw[<-hvb];exact hq)).1;repeat' refine ao ?_;intros
      refine pW (o:=0) zO zQ kQ sQ hv.one fP.s.has λw5 X5 c5 Dz=>?_;replace Dz:aI w5 X5 f.b [v',I f.safe] 153:=Dz;have hv5:=(hv.ea c5 λq hq e=>hv.eT zO kQ (by rw[<-(show q=f.b from e)];exact hq)).sl;have hll:(f.bs.take (f.safe+k)).length=f.safe+k:=by rw[aD];exact kD xq
      repeat' refine ao ?_;intros
      rw[hll];refine pW (o:=1) Dz zQ kQ sQ rfl c5.has λw6 X6 c6 BJ=>?_;replace BJ:aI w6 X6 f.b [v',I ((f.safe+k:Nat):Int)] 153:=BJ;have cc:=c5.trans c6;have hFf:F f.b:=(h4.row _ (gL hf)).1;have h6:=h4.cut (s':=f.safe+k) (fP.fx λ_ h=>h) hf cc hvF hvb BJ (by rw[hll];exact au _);refine hK (x.1.put n (f.bs.take (f.safe+k)) (f.safe+k),x.2+1) _ _ _ htr.symm (fP.ea cc (λq e=>by rw[show q=f.b from e];exact hFf) λq hq=>.inl hq) h6 (by show(x.1.put n _ _).sz<=_;omega) (by show x.2+1<=_;omega) (hB4.ea cc λq hq e=>hq.2 (by rw[show q=f.b from e];exact hFf))
     ·repeat' first|refine ao ?_;intros|refine cP ?_ ?_<;>intros
      ·rename_i Tf Fs;have YG:cG[x.2]? =some cG[x.2]:=aS zQ;rw[YG] at nC;dsimp only at nC;rw[if_pos zQ] at nC;have e1:cG[x.2]=((cG[x.2].toNat:Nat):Int):=by omega
       rw[e1,show(f.bs.length:Int)-(f.safe:Int)+1=((f.bs.length-f.safe+1:Nat):Int)by omega];refine af9 zQ ?_;rw[nC];exact hK1
      ·rename_i Tf Fs;have YG:cG[x.2]? =some cG[x.2]:=aS zQ;rw[YG] at nC;dsimp only at nC;rw[if_neg zQ] at nC;subst nC;exact hK1
      ·rename_i Fs;have YG:cG[x.2]? =none:=List.getElem?_eq_none zQ;rw[YG] at nC;subst nC;exact hK1
   ·rw[pS,hf] at mF;cases mF
 ·have nN:j=ns.length:=by omega
  subst nN;rw[List.take_length] at hx;rw[<-hx] at Ko;repeat' refine aL ?_;intros
  refine yc hT h0 (λ_ h=>h) { x.1 with dn:=false } x.1.sz (o:=4) zQ kQ zQ rfl rfl rfl h0.ar λw4 X4 fP h4 c4=>?_;have zc:=h4.box.mv (Mv.sub fP.bo);clear hb;repeat' refine ao ?_;intros
  refine yc fP h4 (λ_ h=>h) { x.1 with ar:=0,dn:=false } x.1.sz (o:=3) zQ kQ zQ rfl rfl rfl (by show 0<2^63;decide) λw5 X5 iO h5 c5=>?_;refine iO.fin λwa aK=>⟨rfl,mb,l,?_,?_⟩
  ·rw[Ko];exact h5.mv (aK.je iO.bo)
  ·rw[Ko];exact hz
def D4:List Nat->Nat->Option Nat
 |[],n=>some n
 |c::l,n=>if c<48\/57<c then none else D4 l (n*10+(c-48))
def rS (dir name:ByteArray):Nat:=
 if name.size=dir.size+9/\name.extract 0 dir.size=dir/\name.data.toList[dir.size]? =some 46 then(D4 (vL (name.extract (dir.size+1) name.size)) 0).getD 0 else 0
theorem acB: ∀(l:List Nat) (n k:Nat),n<10^k->(D4 l n).getD 0<10^(k+l.length)
 |[],n,k,h=>by simpa [D4] using h
 |c::l,n,k,h=>by
  unfold D4;split
  ·simp;exact Nat.pow_pos dQ
  ·have:=acB l (n*10+(c-48)) (k+1) (by rw[rQ];omega);rw[aM,show k+(l.length+1)=k+1+l.length by omega];exact this
theorem ak8 (dir name:ByteArray):rS dir name<100000000:=by
 unfold rS;split
 ·rename_i h;have h1:=acB (vL (name.extract (dir.size+1) name.size)) 0 0 dQ;have h2:(vL (name.extract (dir.size+1) name.size)).length=8:=by rw[I7,qi];omega
  rw[h2] at h1;exact h1
 ·decide
theorem UN (c:Nat) (l:List Nat) (n:Nat):D4 (c::l) n=if c<48\/57<c then none else D4 l (n*10+(c-48)):=rfl
variable {dir : ByteArray}
theorem YH {name:ByteArray} (hd:dir.size<=2^40) (hn:name.size<=2^41):Ct pg 126 #[.string dir,.string name] w X nX λv wa w'=>v=I (rS dir name):=by
 intro w0 hk;refine V3.1 λhs=>?_;have no: ¬(name.size=dir.size+9/\name.extract 0 dir.size=dir/\name.data.toList[dir.size]? =some 46)->rS dir name=0:=λh=>by unfold rS;rw[if_neg h]
 by_cases h1:name.size=dir.size+9
 ·have hnl:name.data.toList.length=name.size:=(LQ name).symm;obtain⟨c,hc⟩: ∃c,name.data.toList[dir.size]? =some c:=⟨_,aS zQ⟩;repeat' refine aL ?_;intros
  refine amP (i:=dir.size) rfl zQ kQ ?_;repeat' first|refine ao ?_;intros|refine cP ?_ ?_<;>intros
  ·exact bQ hs λwa aK=>by rw[no (by simp_all)];rfl
  ·exact bQ hs λwa aK=>by rw[no (by rintro⟨_,_,h⟩;rw[hc] at h;simp_all)];rfl
  ·refine amQ (i:=dir.size+1) zQ zQ kQ ?_;refine aga (e:=5) hs.has (by rw[qi];omega) kQ kQ kQ λvb w1 X1 ay mX=>?_;have JX:(vL (name.extract (dir.size+1) name.size)).length=8:=by rw[I7,qi];omega
   have aq5:c=46:=UInt8.toNat_inj.1 (by have:c.toNat=46:=(by omega);rw[this];rfl);have e1:rS dir name=(D4 (vL (name.extract (dir.size+1) name.size)) 0).getD 0:=by
    unfold rS;rw[if_pos ⟨h1,by assumption,by rw[hc,aq5]⟩]
   rw[e1];have cx: ∀x∈vL (name.extract (dir.size+1) name.size),x<256:=λx hx=>ak9 hx;generalize vL (name.extract (dir.size+1) name.size)=bs at mX JX cx⊢;replace hs:=hs.trans ay;obtain⟨lb,ln,lc,rfl⟩:=mX.form;repeat' refine ao ?_;intros
   refine gO (λm a b w X=> ∃(i n:Nat),a=I i/\b=I n/\m=bs.length-i/\i<=bs.length/\n<10^i/\D4 bs 0=D4 (bs.drop i) n/\ai X1 w1 X w/\ai (bN w0) w0 X w) bs.length ⟨0,0,rfl,rfl,rfl,aq _,by decide,rfl,ai.fK hs.has,hs⟩ ?_;clear hs;rintro m a b w X ⟨i,n,rfl,rfl,rfl,hi,hn,hf,bA,hs⟩;have adY:=mX.mv bA.mv;rcases dD bs i with⟨Tf,x,hx,Lk⟩|⟨dA,Lk⟩
   ·have atc:=cx x (ax hx);have hn8:n<10^8:=aw hn (rR dQ zQ);have atw:n<100000000:=hn8;rw[Lk,UN] at hf;repeat' first|refine aL ?_;intros|refine cP ?_ ?_<;>intros
    ·rw[if_pos (.inl zQ)] at hf;exact bQ hs λwa aK=>by rw[hf];rfl
    ·rw[if_pos (.inr zQ)] at hf;exact bQ hs λwa aK=>by rw[hf];rfl
    ·rw[if_neg zQ] at hf;refine apo zQ zQ ?_;refine acp ?_;rw[show IntKind.u8.wrap ((x:Int)-48)=((x-48:Nat):Int)by rw[No];omega];repeat' refine ao ?_;intros
     rw[WW zQ];repeat' refine ao ?_;intros
     refine fZ (bs.length-(i+1)) zQ ⟨i+1,n*10+(x-48),by simp,by simp,rfl,by omega,by rw[rQ];omega,hf,bA,hs⟩
   ·have nN:i=bs.length:=by omega
    subst nN;rw[List.drop_length] at hf;repeat' refine aL ?_;intros
    exact bQ hs λwa aK=>by rw[hf];rfl
 ·repeat' refine aL ?_;intros
  exact bQ hs λwa aK=>by rw[no λh=>h1 h.1];rfl
def L0 (dir:ByteArray) (sz:Nat):LM:=⟨dir,sz,[],0⟩
theorem UO: ∀(k:Nat) (b:List Nat),b.length<=k->(jl b).2<=b.length/\(jl b).1.length<=(jl b).2
 |0,b,h=>by rw[abz zQ];simp
 |k+1,b,h=>by
  cases hf:mi b with
  |none=>rw[EB hf];simp
  |some q=>
   have h1:=Rj hf;rw[Rl hf];have h2:=UO k (b.drop (q.length+12)) (by rw[bR];omega);rw[bR] at h2;simp only[aM];omega
def LD.GJ (x:LD) (n:Nat):Bool:=decide (x.L.bC≠[]/\((x.m.bytes x.L.fe).length≠x.L.last.size\/n≠x.L.next))
noncomputable def LD.join (x:LD) (n:Nat) (nm:ByteArray):LD×Nat:=
 if x.GJ n then(x,13)else(⟨{ x.L with bC:=x.L.bC++[⟨n,(jl (x.m.bytes nm)).1,(jl (x.m.bytes nm)).2⟩] },x.m⟩,0)
noncomputable def LD.pj:LD->List ByteArray->LD×Nat
 |x,[]=>(x,0)
 |x,nm::r=>if rS x.L.dir nm=0 then x.pj r else if(x.join (rS x.L.dir nm) nm).2≠0 then x.join (rS x.L.dir nm) nm else(x.join (rS x.L.dir nm) nm).1.pj r
def LD.Hr (x:LD):LD×Nat:=
 if x.L.last.size<(x.m.bytes x.L.fe).length then
  if(x.m.cut x.L.fe x.L.last.size).2≠0 then(⟨x.L,(x.m.cut x.L.fe x.L.last.size).1⟩,(x.m.cut x.L.fe x.L.last.size).2)else LD.sync ⟨x.L,(x.m.cut x.L.fe x.L.last.size).1⟩
 else x.sync
noncomputable def LD.Ch (dir:ByteArray) (room:Nat) (m:DM):LD×Nat:=
 if m.dn then(⟨L0 dir room,m⟩,12)else
  let q:=LD.pj ⟨L0 dir room,m⟩ (fQ (m.fs.map (·.1)))
  if q.2≠0 then q else if q.1.L.bC=[] then q.1.iJ 1 else q.1.Hr
theorem DM.LR (h:Dk w F db m) (n:ByteArray):(m.bytes n).length<=4194304:=by
 obtain⟨mb,l,h,hz⟩:=h;unfold DM.bytes;cases hg:m.get n with
 |none=>simp
 |some x=>have:=DM.CD (b:=x.1) (s:=x.2) hg;simp;omega
variable {nm : ByteArray} {L : LM} {lb : Nat}
theorem ad3 {n:Nat} (h:Lg w F lb db L m) (kz:L.bC≠[]->pG L) (sG:L.dir.size<=11) (hn:n<=2^40) (mX:L.bC.length<=2^30) (GK: ∀b∈m.bytes nm,b<256) (hF:FX F X w):
  Ct pg 127 #[ptr lb 0,I n,.string nm] w X F λv wa w'=>v=I (LD.join ⟨L,m⟩ n nm).2/\ ∃F',(∀k,F' k->F k\/made wa w' k)/\Lg w' F' lb db (LD.join ⟨L,m⟩ n nm).1.L (LD.join ⟨L,m⟩ n nm).1.m:=by
 intro w0 hk;obtain⟨FL,FD,sv,bl,h⟩:=(h.mv (hF.mv hk)).lw;have hT:=hF.ft hk;have ot:FX F (bN w0) w0:=hF.kp hk;have hX:=λk ah=>(ot k (h.hL k ah)).1;have hb:=h.l.box.mv (Mv.sub hX);have GN:=h.l.so.sl.mono hX;have JX:bl.length=L.bC.length:=by rw[h.l.bC,af]
 have atx:=DM.LR h.d nm;have eJ:LD.join ⟨L,m⟩ n nm=if LD.GJ ⟨L,m⟩ n then(⟨L,m⟩,13)else(⟨{ L with bC:=L.bC++[⟨n,(jl (m.bytes nm)).1,(jl (m.bytes nm)).2⟩] },m⟩,0):=rfl
 refine Rr.1 λhs=>?_;refine gZ (Q:=λK=> ∀w1 X1,LD.GJ ⟨L,m⟩ n=false->ai (bN w0) w0 X1 w1->K w1 X1) ?_ λK hK=>?_
 ·intro w1 X1 hj ay;rw[eJ,hj];have eh:=hT.since ay;have h1:=h.mv (ay.gW hT.bo);have lM:=hb.since ay;clear hs hb GN;repeat' refine ao ?_;intros
  refine cA (Hq (n:=nm) h1.d (eh.fx h1.hD)) kQ eh.s.has ?_;rintro _ xQ w2 X2 ⟨vb,rfl,ze⟩ lD kh bA;have cX:=eh.since bA;have h2:=h1.mv (bA.gW eh.bo);repeat' refine ao ?_;intros
  refine cA (Yy (ze.sl.mono kh) zQ GK) kQ cX.s.has ?_;rintro _ zR w3 X3 ⟨va,rs,rfl,hrs,Ih,hor⟩ qS mN dm;have dX:=cX.since dm;have h3:=h2.mv (dm.gW cX.bo);have hX3: ∀k,FL k->X3 k:=λk ah=>dX.bo k (h3.hL k ah);have rM:=(lM.since bA).since dm;have ad4:=h3.l.so.mono hX3;have oa:=Ih.sl.one;obtain⟨ab,an,ac,rfl⟩:=Ih.sl.form;generalize gf:(jl (m.bytes nm)).2=sz;have QT:=ay.kp.size;have JZ:=bA.kp.size;have hz3:=dm.kp.size;repeat' refine ao ?_;intros
  refine BL dX.s.has λbx w4 X4 fY fV br=>?_;have PE:=ad4.mv fV.mv;refine YI (bytes:=8) (row:=[ptr bx 0]) PE fV.has kQ rfl rfl rfl oQ oQ λFu w5 X5 c5 uC wN=>?_;have zc:=rM.since fV;have bU: ∀q,cU sv q->q≠lb:=λq hq e=>PE.eT zc kQ (by rw[<-e];exact hq);have Cd:aI w5 X5 lb [ptr db 0,.string L.dir,I L.room,sv,I L.safe] 231:=⟨c5.sub _ zc.1,by rw[c5.block _ zc.1 λhq=>bU _ hq rfl];exact zc.2⟩;clear lM rM;repeat' refine ao ?_;intros
  refine pW (o:=3) Cd zQ kQ sQ uC.one c5.has λw6 X6 c6 BJ=>?_;have PF: ∀q,cU sv q->FL q:=λq hq=>(h3.l.so.bo hq).1;have cc:ee (λk=>k=lb\/sv.ownBlock=some k) X3 w3 X6 w6:=((ee.nQ fV _).trans (c5.mono λk _ ah=>.inr ah)).trans (c6.mono λk _ ah=>.inl ah);have kj:Ft w0 F w6 X6 (λk=>F k\/(X6 k/\w0.heap.size<=k)):=(dX.ea (F':=F) cc (λk ah=>by
   rcases ah with rfl|ah
   ·exact h3.hL _ h3.l.box.1
   ·exact h3.hL _ (PF _ ah)) λk ah=>.inl ah).more λk ah=>ah
  have LU: ∀g,Fu.ownBlock=some g->FL g\/(X6 g/\w0.heap.size<=g):=λg hg=>by
   rcases wN with e|⟨g',e,dA⟩
   ·exact .inl (PF _ (e.symm.trans hg))
   ·rw[hg] at e;have:g=g':=bV e;subst this;exact .inr ⟨c6.sub _ (uC.bo hg).1,by have:=fV.kp.size;omega⟩
  have ais:Fu.ownBlock≠some lb:=uC.eT Cd kQ;have ad5:bx≠lb:=br.eT zc kQ;have ad6: ¬cU sv bx:=λhq=>PE.eT br kQ hq;have fresh: ∀{e:TypeId} {v:Value} {rows:List (List Value)},decide (e≠231)=true->decide (e≠239)=true->Own w3 (made zR w3) zR.heap.size e 1 v rows->Ow w6 (λk=>FL k\/(X6 k/\w0.heap.size<=k)) e 1 v rows:=λ{e v rows} he1 he2 ho=>by
   have Q3:Ow w3 X3 e 1 v rows:=ho.ow.mono mN;refine ho.ow.tight.mv λk ah hl=>⟨.inr ⟨cc.sub k (Q3.bo ah).1,by have:=(ho.ow.bo ah).1.1;omega⟩,cc.block k (Q3.bo ah).1 λhg=>?_⟩;rcases hg with rfl|hg
   ·exact Q3.eT (h3.l.box.mv (Mv.sub hX3)) he1 ah
   ·obtain⟨c1,e1⟩:=Q3.tag ah;obtain⟨c2,e2⟩:=ad4.tag hg;rw[e1] at e2;simp only[aj,Obj.cells.injEq] at e2;exact of_decide_eq_true he2 e2.2.1
  have hL6:=h3.l.acC (Ci:=λk=>FL k\/(X6 k/\w0.heap.size<=k)) (Fu:=Fu) (rz:=bl++[⟨bx,n,.slice ab an ac,rs,sz⟩]) (dX.fx h3.hL) cc (λk ah=>ah) (λk ah=>.inl ah) ⟨.inl h3.l.box.1,BJ.2⟩ ?_ ?_ ?_
  ·refine kj.fin λwa aK=>⟨rfl,_,kj.jz aK λ_ h=>h,?_⟩;have e:({ L with bC:=(bl++[(⟨bx,n,.slice ab an ac,rs,sz⟩:mQ)]).map mQ.er } :LM)= { L with bC:=L.bC++[⟨n,(jl (m.bytes nm)).1,sz⟩] } :=by
    rw[az,<-h3.l.bC,<-hrs];rfl
   rw[if_neg ph,<-e];refine Lg.mv ⟨_,FD,Fu,_,?_,?_,?_,hL6,h3.d.mv (cc.je λk ah=>⟨dX.bo k (h3.hD k ah),λhg=>?_⟩)⟩ (aK.je kj.bo)
   ·intro k ha dW;rcases ha with ha|ha
    ·exact h3.dj k ha dW
    ·have:=(ot k (h3.hD k dW)).2;omega
   ·exact λk ah=>ah.imp (h3.hL k) id
   ·exact λk ah=>.inl (h3.hD k ah)
   ·rcases hg with rfl|hg
    ·exact h3.dj _ h3.l.box.1 ah
    ·exact h3.dj _ (PF _ hg) ah
  ·rw[az];refine uC.tight.mv λk ah hl=>⟨LU k ah,c6.block k (uC.bo ah).1 λe=>ais (by rw[<-(show k=lb from e)];exact ah)⟩
  ·intro s tn;rcases List.mem_append.1 tn with tn|tn
   ·exact .inl tn
   ·simp only[av] at tn;subst tn;have hb6:w6.heap[bx]? =w4.heap[bx]? :=by
     rw[c6.block bx (c5.sub _ br.1) ad5,c5.block bx br.1 ad6]
    exact .inr ⟨⟨.inr ⟨c6.sub _ (c5.sub _ br.1),by show w0.heap.size<=bx;omega⟩,by rw[hb6];exact br.2⟩,fresh kQ kQ Ih,λr hr=>fresh kQ kQ (hor r hr)⟩
  ·refine List.pairwise_append.2 ⟨h3.l.ap,List.pairwise_singleton _ _,λx hx y hy=>?_⟩;simp only[av] at hy;subst hy;refine⟨λe=>?_,λg hg rJ=>?_⟩
   ·have:=(dX.fx h3.hL _ (h3.l.row x hx).1).2;have e':x.b=bx:=e;omega
   ·have a1:=(ot g (h3.hL g ((h3.l.A8 x hx).bo hg).1)).2;have a2:=(Ih.ow.bo (g:=g) rJ).1.1;omega
 ·by_cases bU:L.bC=[]
  ·have aty:bl.length=0:=by rw[JX,bU];rfl
   have hj:LD.GJ ⟨L,m⟩ n=false:=by simp[LD.GJ,bU]
   repeat' refine aL ?_;intros
   exact hK _ _ hj hs
  ·obtain⟨rz,s,rfl,he,Fp⟩:=h.l.last (kz bU);have hL:=kz bU;have hlen:=GN.gN;have xP:(rz++[s]).length=rz.length+1:=by simp
   have DW:(rz++[s])[rz.length]? =some s:=by simp
   have mf:s∈rz++[s]:=by simp
   have xn:=(h.l.row s mf).mv (Mv.sub hX);have hrc:=(h.l.A8 s mf).sl.mono hX;have Fv:s.first=L.last.first:=by rw[<-he];rfl
   have gf:s.size=L.last.size:=by rw[<-he];rfl
   have rq:s.rs.length=L.last.aY.length:=by rw[<-he];simp[mQ.er]
   have YJ:=hL.zj _ (LM.yd hL.ne);have nD:L.next=L.last.first+L.last.aY.length:=rfl
   repeat' refine aL ?_;intros
   rw[Fv];refine cA (yP zQ zQ) kQ hs.has ?_;rintro _ Ej w1 X1 rfl qf nJ ay;have eh:=hT.since ay;have h1:=h.mv (ay.gW hT.bo);refine cA (Hq (n:=bP L.dir L.last.first) h1.d (eh.fx h1.hD)) kQ eh.s.has ?_;rintro _ xQ w2 X2 ⟨vb,rfl,ze⟩ lD kh bA;have aq6:=(ze.sl.mono kh).gN;have nV:=ay.trans bA;have PG:=xn.since nV;have atz:=hrc.mv nV.mv;have eN:L.fe=bP L.dir L.last.first:=rfl
   have eE:LD.GJ ⟨L,m⟩ n=decide (L.bC≠[]/\((m.bytes (bP L.dir L.last.first)).length≠L.last.size\/n≠L.next)):=rfl;rw[eE] at hK eJ;have cX:=hT.since nV;have h2:=h.mv (nV.gW hT.bo);clear hs xn hrc;repeat' first|refine ao ?_;intros|refine cP ?_ ?_<;>intros
   ·rw[eJ,if_pos (by simp only[decide_eq_true_eq];exact⟨bU,.inl zQ⟩)];exact cX.fin λwa aK=>⟨rfl,F,cX.jz aK λ_ h=>h,(h2.mv (aK.je cX.bo)).lg⟩
   ·rw[eJ,if_pos (by simp only[decide_eq_true_eq];exact⟨bU,.inr zQ⟩)];exact cX.fin λwa aK=>⟨rfl,F,cX.jz aK λ_ h=>h,(h2.mv (aK.je cX.bo)).lg⟩
   ·exact hK _ _ (by simp only[decide_eq_false_iff_not];rintro⟨_,h|h⟩<;>omega) nV
theorem ad7 (h:Lg w F lb db L m) (hL:pG L) (hF:FX F X w):
  Ct pg 129 #[ptr lb 0] w X F λv wa w'=>v=I (LD.Hr ⟨L,m⟩).2/\ ∃F',(∀k,F' k->F k\/made wa w' k)/\Lg w' F' lb db (LD.Hr ⟨L,m⟩).1.L (LD.Hr ⟨L,m⟩).1.m:=by
 intro w0 hk;obtain⟨FL,FD,sv,bl,h⟩:=(h.mv (hF.mv hk)).lw;have hT:=hF.ft hk;have ot:FX F (bN w0) w0:=hF.kp hk;obtain⟨rz,s,rfl,he,Fp⟩:=h.l.last hL;have hX:=λk ah=>(ot k (h.hL k ah)).1;have mf:s∈rz++[s]:=by simp
 have hb:=h.l.box.mv (Mv.sub hX);have xn:=(h.l.row s mf).mv (Mv.sub hX);have Fv:s.first=L.last.first:=by rw[<-he];rfl
 have gf:s.size=L.last.size:=by rw[<-he];rfl
 have YJ:=hL.zj _ (LM.yd hL.ne);have sG:=hL.d2;have eM:LD.Hr ⟨L,m⟩=if L.last.size<(m.bytes (bP L.dir L.last.first)).length then
   if(m.cut (bP L.dir L.last.first) L.last.size).2≠0 then(⟨L,(m.cut (bP L.dir L.last.first) L.last.size).1⟩,(m.cut (bP L.dir L.last.first) L.last.size).2)else LD.sync ⟨L,(m.cut (bP L.dir L.last.first) L.last.size).1⟩
  else LD.sync ⟨L,m⟩:=rfl
 refine Rs.1 λhs=>?_;refine cA (yQ h.l λk ah=>ot k (h.hL k ah)) kQ hs.has ?_;rintro _ Ej w1 X1 rfl qf nJ ay;have lM:=hb.since ay;have YK:=xn.since ay;clear hs hb xn;have hs:=ai.fK ay.has;repeat' refine ao ?_;intros
 rw[Fv];refine cA (yP zQ zQ) kQ ay.has ?_;rintro _ xQ w2 X2 rfl lD kh bA;have uY:=lM.since bA;have PG:=YK.since bA;have nV:=ay.trans bA;have cX:=hT.since nV;have h2:=h.mv (nV.gW hT.bo);clear hs lM YK;refine gZ (Q:=λK=> ∀w1 X1 F1 m1,LD.Hr ⟨L,m⟩=LD.sync ⟨L,m1⟩->Ft w0 F w1 X1 F1->Lg w1 F1 lb db L m1->K w1 X1) ?_ λK hK=>?_
 ·intro w3 X3 F3 m3 e3 dX h3
  skip
  refine dX.call (I8 h3 hL (dX.fx λ_ h=>h)) kQ (λ_ h=>h) λv zS w4 X4 hq tK oV fP Fw=>?_;obtain⟨rfl,F4,hF4,h4⟩:=hq;rw[e3];have AD:=fP.less hF4
  skip
  exact AD.fin λwa aK=>⟨rfl,F4,AD.jz aK λ_ h=>h,h4.mv (aK.je AD.bo)⟩
 ·have hs:=ai.fK cX.s.has;repeat' refine ao ?_;intros
  refine cA (Hq (n:=bP L.dir L.last.first) h2.d (cX.fx h2.hD)) kQ cX.s.has ?_;rintro _ zR w3 X3 ⟨vb,rfl,ze⟩ qS mN dm;have aq6:=(ze.sl.mono mN).gN;have JX:=DM.LR h.d (bP L.dir L.last.first);have dX:=cX.since dm;have h3:=h2.mv (dm.gW cX.bo);have rM:=uY.since dm;have aq7:=PG.since dm;clear hs uY PG;have hs:=ai.fK dX.s.has;repeat' first|refine ao ?_;intros|refine cP ?_ ?_<;>intros
  ·rw[if_pos zQ] at eM;rw[gf];refine dX.call (ad0 (k:=L.last.size) (n:=bP L.dir L.last.first) h3.d (dX.fx h3.hD) zQ) kQ h3.hD λv zS w4 X4 hq tK oV fP Fw=>?_;obtain⟨rfl,OV,PH,hD⟩:=hq;have h4:=h3.PI (dX.fx λ_ h=>h) tK Fw PH hD;generalize UP:m.cut (bP L.dir L.last.first) L.last.size=ms at h4 eM⊢;repeat' first|refine ao ?_;intros|refine cP ?_ ?_<;>intros
   ·have hz:ms.2≠0:=by have: ¬(ms.2:Int)=0:=(by assumption);omega
    rw[if_pos hz] at eM;rw[eM];exact fP.fin λwa aK=>⟨rfl,_,fP.jz aK λ_ h=>h,(h4.mv (aK.je fP.bo)).lg⟩
   ·have hz:ms.2=0:=by have:(ms.2:Int)=0:=(by assumption);omega
    rw[if_neg zQ] at eM;exact hK _ _ _ ms.1 eM fP h4.lg
  ·rw[if_neg zQ] at eM;exact hK _ _ F m eM dX h3.lg
structure YM (L:LM):Prop where
 d1:1<=L.dir.size
 d2:L.dir.size<=11
 zj: ∀s∈L.bC,s.first+s.aY.length<=2^40/\s.size<=2^40
 room:L.room<=2^40
def YM.LV (h:YM L) (bU:L.bC≠[]):pG L:=⟨bU,h.d1,h.d2,h.zj,h.room⟩
variable {x : LD}
theorem YM.join {n:Nat} (h:YM x.L) (hn:n<=100000000) (hb:(x.m.bytes nm).length<=4194304):YM (x.join n nm).1.L/\(x.join n nm).1.m=x.m/\(x.join n nm).1.L.dir=x.L.dir/\(x.join n nm).1.L.bC.length<=x.L.bC.length+1:=by
 unfold LD.join;split
 ·exact⟨h,rfl,rfl,by simp⟩
 ·refine⟨⟨h.d1,h.d2,λs hs=>?_,h.room⟩,rfl,rfl,by simp⟩;rcases List.mem_append.1 hs with hs|hs
  ·exact h.zj s hs
  ·simp only[av] at hs;subst hs;have:=UO _ (x.m.bytes nm) (au _)
   show n+(jl (x.m.bytes nm)).1.length<=2^40/\(jl (x.m.bytes nm)).2<=2^40
   omega
theorem ad8 {sz:Nat} (h:Dk w F db m) (hF:FX F X w) (xi: ∀x∈m.fs,x.1.size<=2^40) (iT:m.fs.length<=2^29) (GK: ∀n,∀b∈m.bytes n,b<256)
  (h1:1<=dir.size) (h2:dir.size<=11) (ay:64<=sz) (bA:sz<=262144):
  Ct pg 75 #[ptr db 0,.string dir,I sz] w X F λv wa w'=> ∃lb F',v= .tuple #[if(LD.Ch dir sz m).2=0 then ptr lb 0 else .pointer none,I (LD.Ch dir sz m).2]/\(∀k,F' k->F k\/made wa w' k)/\
   Dk w' F' db (LD.Ch dir sz m).1.m/\((LD.Ch dir sz m).2=0->Lg w' F' lb db (LD.Ch dir sz m).1.L (LD.Ch dir sz m).1.m):=by
 intro w0 hk;replace h:=h.mv (hF.mv hk);have hT:=hF.ft hk;have ot:FX F (bN w0) w0:=hF.kp hk;have eO:LD.Ch dir sz m=if m.dn then(⟨L0 dir sz,m⟩,12)else
   if(LD.pj ⟨L0 dir sz,m⟩ (fQ (m.fs.map (·.1)))).2≠0 then LD.pj ⟨L0 dir sz,m⟩ (fQ (m.fs.map (·.1)))else
    if(LD.pj ⟨L0 dir sz,m⟩ (fQ (m.fs.map (·.1)))).1.L.bC=[] then(LD.pj ⟨L0 dir sz,m⟩ (fQ (m.fs.map (·.1)))).1.iJ 1 else(LD.pj ⟨L0 dir sz,m⟩ (fQ (m.fs.map (·.1)))).1.Hr:=rfl
 generalize hr:LD.Ch dir sz m=r at eO⊢;refine abB.1 λ_=>?_;refine cA (ad9 (n:=1) h1 h2 zQ zQ) kQ hT.s.has ?_;rintro _ Ej w1 X1 rfl qf nJ Yr;replace hT:=hT.since Yr;replace h:=h.mv (Yr.gW λk ah=>(ot k ah).1);repeat' refine aL ?_;intros
 refine dZ (abC h (hT.fx λ_ h=>h)) kQ hT.s.has λw2 X2 ye=>?_;replace h:=h.mv (ye.gW hT.bo);replace hT:=hT.since ye;cases jQ:m.dn with
 |true=>
  rw[jQ,if_pos rfl] at eO;subst eO;repeat' refine ao ?_;intros
  exact hT.fin λwa aK=>⟨0,F,rfl,hT.jz aK λ_ h=>h,h.mv (aK.je hT.bo),λe=>by cases e⟩
 |false=>
  rw[jQ,if_neg ph] at eO;repeat' refine ao ?_;intros
  refine BL hT.s.has λlb w3 X3 zM dm br=>?_;have h3:=h.mv (dm.gW hT.bo);have dX:=hT.since dm;have hFl: ∀k,F k->k<w2.heap.size:=λk ah=>hT.s.has k (hT.bo k ah);have Fx:Ft w0 F w3 X3 (λk=>F k\/k=lb):=dX.more λk ah=>ah.imp id λe=>by
   subst e;have:=hT.s.kp.size;exact⟨br.1,by omega⟩
  have g3:Lg w3 (λk=>F k\/k=lb) lb db (L0 dir sz) m:=
   ⟨(· =lb),F,.slice none 0 0,[],λk a b=>by have:=hFl k b;omega,λ_ h=>.inr h,λ_ h=>.inl h,
    ⟨rfl,⟨rfl,br.2⟩,⟨by simp,.inl ⟨rfl,rfl⟩⟩,by simp,by simp,by simp,List.Pairwise.nil⟩,h3⟩
  refine cA (OU h3 (dX.fx λ_ h=>h) xi zQ) kQ dX.s.has ?_;rintro vl zS w4 X4 hol tK oV fV;have fP:=Fx.since fV;have g4:=g3.mv (fV.gW Fx.bo);have hGl: ∀k,(F k\/k=lb)->k<w3.heap.size:=λk ah=>ah.elim (λah=>by have:=hFl k ah;have:=dm.kp.size;omega) λe=>by subst e;exact br.lt
  have nB:Sl w4 (λk=>X4 k/\ ¬(F k\/k=lb)) 1 vl ((fQ (m.fs.map (·.1))).map S1):=hol.sl.mono λk ah=>⟨oV k ah,λhf=>by have:=hGl k hf;have:=ah.1;omega⟩;have hB:ai (λk=>X4 k/\ ¬(F k\/k=lb)) w4 X4 w4:=⟨Kp.refl _ _,λk h=>h.1,fP.s.has⟩;have aq8:=fP.s.has;have amR: ∀n∈fQ (m.fs.map (·.1)),n.size<=2^40:=λn hn=>by
   have:=(kL (m.fs.map (·.1))).mem_iff.1 hn;obtain⟨x,hx,rfl⟩:=List.mem_map.1 this;exact xi x hx
  have hnl:(fQ (m.fs.map (·.1))).length=m.fs.length:=by rw[(kL _).length_eq,af]
  generalize fQ (m.fs.map (·.1))=ns at nB eO amR hnl;obtain⟨nb,nn,nc,rfl⟩:=nB.form;clear hT dX Fx g3 h3 h br hol;repeat' refine ao ?_;intros
  refine eI (λn' a w X=> ∃(i:Nat) (F1:XS) (x:LD),a=I i/\n'=ns.length-i/\i<=ns.length/\LD.pj ⟨L0 dir sz,m⟩ ns=x.pj (ns.drop i)/\YM x.L/\x.m=m/\x.L.dir=dir/\x.L.bC.length<=i/\Ft w0 F w X F1/\Lg w F1 lb db x.L x.m/\
   (∀k,F1 k->(F k\/k=lb)\/w4.heap.size<=k)/\ai (λk=>X4 k/\ ¬(F k\/k=lb)) w4 X w) ns.length
   ⟨0,_,⟨L0 dir sz,m⟩,rfl,rfl,aq _,rfl,⟨h1,h2,by simp[L0],by show sz<=_;omega⟩,rfl,rfl,au _,fP,g4,λk ah=>.inl ah,hB⟩ ?_
  clear fP g4 hB;rintro n' a w5 X5 ⟨i,F1,x,rfl,rfl,hi,GO,Lb,hxm,hxd,UQ,iO,h5,ait,hB⟩;obtain⟨FL,FD,sv,bl,hW⟩:=h5.lw;have Cd:=hW.l.box.mv (Mv.sub λk ah=>iO.bo k (hW.hL k ah));have hsv:=hW.l.so.sl.mono λk ah=>iO.bo k (hW.hL k ah);have JX:bl.length=x.L.bC.length:=by rw[hW.l.bC,af]
  have atA:=nB.mv hB.mv;rcases dD ns i with⟨cx,nm,mE,hd⟩|⟨dA,hd⟩
  ·have atB:=amR nm (ax mE);rw[hd] at GO;have eJ:x.pj (nm::ns.drop (i+1))=if rS x.L.dir nm=0 then x.pj (ns.drop (i+1))else if(x.join (rS x.L.dir nm) nm).2≠0 then x.join (rS x.L.dir nm) nm else(x.join (rS x.L.dir nm) nm).1.pj (ns.drop (i+1)):=rfl
   rw[eJ,hxd] at GO;have hnN:=ak8 dir nm;repeat' refine aL ?_;intros
   refine gZ (Q:=λK=> ∀w X F1 x,LD.pj ⟨L0 dir sz,m⟩ ns=LD.pj x (ns.drop (i+1))->YM x.L->x.m=m->x.L.dir=dir->x.L.bC.length<=i+1->Ft w0 F w X F1->Lg w F1 lb db x.L x.m->(∀k,F1 k->(F k\/k=lb)\/w4.heap.size<=k)->
    ai (λk=>X4 k/\ ¬(F k\/k=lb)) w4 X w->K w X) ?_ λK hK=>?_
   ·intro w X F1 x q1 q2 q3 q4 q5 q6 q7 q8 q9;repeat' refine ao ?_;intros
    exact dS (ns.length-(i+1)) zQ ⟨i+1,F1,x,by simp,rfl,by omega,q1,q2,q3,q4,q5,q6,q7,q8,q9⟩
   ·repeat' refine ao ?_;intros
    refine dZ (YH (dir:=dir) (name:=nm) zQ zQ) kQ iO.s.has λw6 X6 tY=>?_;have kj:=iO.since tY;have h6:=h5.mv (tY.gW iO.bo);have hB6:=hB.trans tY;repeat' first|refine ao ?_;intros|refine cP ?_ ?_<;>intros
    ·rw[if_pos zQ] at GO;exact hK _ _ F1 x GO Lb hxm hxd zQ kj h6 ait hB6
    ·rw[if_neg zQ] at GO;obtain⟨j1,j2,j3,j4⟩:=Lb.join (n:=rS dir nm) (nm:=nm) zQ (DM.LR hW.d nm);refine kj.call (ad3 (n:=rS dir nm) (nm:=nm) h6 (λbU=>Lb.LV bU) Lb.d2 zQ zQ (by rw[hxm];exact GK nm) (kj.fx λ_ h=>h)) kQ (λ_ h=>h) λv Q6 w7 X7 hq S8 Hn DC Rc=>?_;obtain⟨rfl,F7,hF7,h7⟩:=hq;have ex:x.join (rS dir nm) nm=LD.join ⟨x.L,x.m⟩ (rS dir nm) nm:=rfl;rw[ex] at GO j1 j2 j3 j4;generalize hq:LD.join ⟨x.L,x.m⟩ (rS dir nm) nm=q at GO h7 j1 j2 j3 j4⊢;have Tg:=DC.less hF7;have hB7:ai (λk=>X4 k/\ ¬(F k\/k=lb)) w4 X7 w7:=hB6.ea Rc λk ah hf=>by
      rcases ait k hf with hf|hf
      ·exact ah.2 hf
      ·have:=aq8 k ah.1;omega
     have aq9: ∀k,F7 k->(F k\/k=lb)\/w4.heap.size<=k:=λk ah=>(hF7 k ah).elim (λh=>ait k h) λh=>.inr (by have:=h.1;have:=hB6.kp.size;omega);repeat' first|refine ao ?_;intros|refine cP ?_ ?_<;>intros
     ·have hz:q.2≠0:=by have: ¬(q.2:Int)=0:=(by assumption);omega
      rw[if_pos hz] at GO;rw[GO,if_pos hz] at eO;subst eO;obtain⟨FL7,FD7,sv7,bl7,hW7⟩:=h7.lw;exact Tg.fin λwa aK=>⟨lb,F7,by rw[if_neg hz],Tg.jz aK λ_ h=>h,(hW7.d.mono hW7.hD).mv (aK.je Tg.bo),λe=>absurd e hz⟩
     ·have hz:q.2=0:=by have:(q.2:Int)=0:=(by assumption);omega
      rw[if_neg zQ] at GO;refine hK _ _ F7 q.1 GO j1 (by rw[j2];exact hxm) (by rw[j3];exact hxd) zQ Tg h7 aq9 hB7
  ·have nN:i=ns.length:=by omega
   subst nN;rw[hd] at GO;have ejn:x.pj []=(x,0):=rfl;rw[ejn] at GO;rw[GO,if_neg sQ] at eO;dsimp only at eO;repeat' first|refine aL ?_;intros|refine cP ?_ ?_<;>intros
   ·have aiu:x.L.bC=[]:=List.eq_nil_of_length_eq_zero zQ;rw[if_pos aiu] at eO;refine iO.call (Rt (n:=1) h5 Lb.d2 zQ zQ (iO.fx λ_ h=>h)) kQ (λ_ h=>h) λv wa6 w6 X6 hq6 YN LU kj hc6=>?_;obtain⟨rfl,F6,hF6,h6⟩:=hq6;have AE:Ft w0 F w6 X6 F6:=kj.less hF6;have ex:LD.iJ ⟨x.L,x.m⟩ 1=r:=eO.symm;rw[ex] at h6⊢;obtain⟨FL6,FD6,sv6,bl6,Ru⟩:=h6.lw;repeat' first|refine ao ?_;intros|refine cP ?_ ?_<;>intros
    ·have hz:r.2≠0:=by have: ¬(r.2:Int)=0:=(by assumption);omega
     exact AE.fin λwa aK=>⟨lb,F6,by rw[if_neg hz],AE.jz aK λ_ h=>h,(Ru.d.mono Ru.hD).mv (aK.je AE.bo),λe=>absurd e hz⟩
    ·have hz:r.2=0:=by have:(r.2:Int)=0:=(by assumption);omega
     exact AE.fin λwa aK=>⟨lb,F6,by rw[if_pos hz,hz];rfl,AE.jz aK λ_ h=>h,(Ru.d.mono Ru.hD).mv (aK.je AE.bo),λ_=>h6.mv (aK.je AE.bo)⟩
   ·have bU:x.L.bC≠[]:=λe=>by
     have:x.L.bC.length=0:=by rw[e];rfl
     omega
    rw[if_neg bU] at eO;refine iO.call (ad7 h5 (Lb.LV bU) (iO.fx λ_ h=>h)) kQ (λ_ h=>h) λv wa6 w6 X6 hq6 YN LU kj hc6=>?_;obtain⟨rfl,F6,hF6,h6⟩:=hq6;have AE:Ft w0 F w6 X6 F6:=kj.less hF6;have ex:LD.Hr ⟨x.L,x.m⟩=r:=eO.symm;rw[ex] at h6⊢;obtain⟨FL6,FD6,sv6,bl6,Ru⟩:=h6.lw;repeat' first|refine ao ?_;intros|refine cP ?_ ?_<;>intros
    ·have hz:r.2≠0:=by have: ¬(r.2:Int)=0:=(by assumption);omega
     exact AE.fin λwa aK=>⟨lb,F6,by rw[if_neg hz],AE.jz aK λ_ h=>h,(Ru.d.mono Ru.hD).mv (aK.je AE.bo),λe=>absurd e hz⟩
    ·have hz:r.2=0:=by have:(r.2:Int)=0:=(by assumption);omega
     exact AE.fin λwa aK=>⟨lb,F6,by rw[if_pos hz,hz];rfl,AE.jz aK λ_ h=>h,(Ru.d.mono Ru.hD).mv (aK.je AE.bo),λ_=>h6.mv (aK.je AE.bo)⟩
def LM.has (L:LM) (n:Nat) (p:List Nat):Prop:= ∃(j:Nat) (s:dN),L.bC[j]? =some s/\s.first<=n/\(∀(i:Nat) (t:dN),j<i->L.bC[i]? =some t->n<t.first)/\s.aY[n-s.first]? =some p
variable {sv : Value}
theorem aiv {n:Nat} {bl:List mQ} (h:zV w F lb db sv bl L) (hL:pG L) (hp:L.has n p) (wu:p.length<=2^40) (hF:FX F X w):
  Ct pg 131 #[ptr lb 0,I n] w X nX λv wa w'=>Own w' (made wa w') wa.heap.size 5 1 v (p.map U1):=by
 intro w0 hk;replace h:=h.mv (hF.mv hk);have hX:=λk ah=>(hF.kp hk k ah).1;have hb:=h.box.mv (Mv.sub hX);have GN:=h.so.sl.mono hX;have LX:=h.bC;obtain⟨j,sm,hj,iT,Rn,YO⟩:=hp;have ml:=hL.zj sm (ax hj);have rq:=(List.getElem?_eq_some_iff.1 YO).1;rw[LX,cK] at hj;obtain⟨s,hbj,rfl⟩: ∃s,bl[j]? =some s/\s.er=sm:=by
  cases hq:bl[j]? with
  |none=>rw[hq] at hj;cases hj
  |some s=>exact⟨s,rfl,by rw[hq] at hj;exact bV hj⟩
 have Ij:=(List.getElem?_eq_some_iff.1 hbj).1;have atC:s.first<=n:=iT
 have ara:s.first+(s.rs.map (·.2)).length<=2^40:=ml.1
 have arb:n-s.first<(s.rs.map (·.2)).length:=rq
 rw[af] at ara arb;obtain⟨r,hr,hrp⟩: ∃r,s.rs[n-s.first]? =some r/\r.2=p:=by
  have h9:(s.rs.map (·.2))[n-s.first]? =some p:=YO;rw[cK] at h9;cases hq:s.rs[n-s.first]? with
  |none=>rw[hq] at h9;cases h9
  |some r=>exact⟨r,rfl,by rw[hq] at h9;exact bV h9⟩
 have hlen:=GN.gN;refine V4.1 λhs=>?_;repeat' refine ao ?_;intros
 refine eI (λm a w X=> ∃i:Nat,a=I i/\m=i-j/\j<=i/\i<bl.length/\ai (bN w0) w0 X w) (bl.length-1-j) ⟨bl.length-1,congrArg I zQ,rfl,by omega,by omega,hs⟩ ?_;clear hs;rintro m a w1 X1 ⟨i,rfl,rfl,K9,nN,hs⟩;obtain⟨t,QM⟩: ∃t,bl[i]? =some t:=⟨_,aS nN⟩;have UR:aI w0 (bN w0) t.b [I t.first,t.rv,I t.size] 238:=(h.row t (ax QM)).mv (Mv.sub hX);by_cases zd:i=j
 ·subst zd;rw[QM] at hbj;obtain rfl:=bV hbj;have hrc:=(h.A8 t (ax QM)).sl.mono hX;have GK:=(h.Ik t (ax QM) r (ax hr)).sl.mono hX;rw[hrp] at GK;have QT:=hs.kp.size;repeat' first|refine aL ?_;intros|(refine Ro hs ?_;intro acc w X hs ho)
  refine qu (ho.low QT) hs (λ_ h=>h) kQ (GK.mv hs.mv) (by intro r hr u hu;obtain⟨x,_,rfl⟩:=List.mem_map.1 hr;simp only[U1,av] at hu;subst hu;rfl) oQ oQ λv8 w8 X8 kT BK hc8 YA=>?_;exact bQ kT λwa aK=>(BK.kp aK).tight
 ·have atD:n<t.first:=Rn i t.er zQ (by rw[LX,cK,QM];rfl)
  repeat' refine aL ?_;intros
  exact dS (i-1-j) zQ ⟨i-1,congrArg I zQ,rfl,by omega,by omega,hs⟩
variable {s : dN}
theorem aea {n:Nat} {bl:List mQ} {r:List dN} (h:zV w F lb db sv bl L) (hL:pG L) (hp:L.has n p) (wu:p.length<=2^40) (hs:L.bC=s::r) (h1:s.first<=n) (h2:n<L.next) (hF:FX F X w):
  Ct pg 78 #[ptr lb 0,I n] w X nX λv wa w'=> ∃vb,v= .tuple #[vb,I 0]/\Own w' (made wa w') wa.heap.size 5 1 vb (p.map U1):=by
 intro w0 hk;replace h:=h.mv (hF.mv hk);have ot:FX F (bN w0) w0:=hF.kp hk;have hX:=λk ah=>(ot k ah).1;have fx: ∀{w X},ai (bN w0) w0 X w->FX F X w:=λhs k ah=>⟨hs.sub k (hX k ah),hs.has k (hs.sub k (hX k ah))⟩;refine Rv.1 λ_=>?_;have gn:=ai.init w0;refine dZ (OW h hs ot) kQ gn.has λw1 X1 ay=>?_;repeat' refine aL ?_;intros
 refine gZ (Q:=λK=> ∀w X,ai (bN w0) w0 X w->K (I L.next) w X) ?_ λK hK=>?_
 ·intro w2 X2 bA;repeat' refine aL ?_;intros
  refine cA (aiv (h.mv (bA.gW hX)) hL hp wu (fx bA)) kQ bA.has ?_;rintro vb zR w3 X3 ho qS mN dm;exact bQ (bA.trans dm) λwa aK=>⟨vb,rfl,((ho.up mN (by have:=bA.kp.size;omega)).kp aK).tight⟩
 ·repeat' refine ao ?_;intros
  refine dZ (EC (h.mv (ay.gW hX)) hL (fx ay)) kQ ay.has λw2 X2 bA=>?_;exact hK _ _ (ay.trans bA)
theorem pG.tail {t:dN} {r:List dN} (h:pG L) (hs:L.bC=s::t::r):pG { L with bC:=t::r } :=
 ⟨by simp,h.d1,h.d2,λx hx=>h.zj x (by rw[hs];exact bS _ hx),h.room⟩
def DM.ks (m:DM):List ByteArray:=m.fs.map (·.1)
theorem DM.get_some:(m.get n).isSome=true↔n∈m.ks:=by
 have h:=getM_none (k:=n) (l:=m.fs)
 show(getM n m.fs).isSome=true↔n∈m.fs.map (·.1)
 cases hg:getM n m.fs with
 |none=>grind
 |some x=>
  grind
theorem DM.wz (m:DM):m.ks.length=m.fs.length:=by simp[DM.ks]
structure mH (m:DM):Prop where
 ar:m.ar=0
 dn:m.dn=false
theorem mH.tick (h:mH m):mH m.tick:=by
 unfold DM.tick;rw[if_neg (by rw[h.ar];decide)];exact⟨by simp[h.ar],h.dn⟩
theorem mH.write (h:mH m) (f:DM->DM):m.write 0 f=(f m.tick,0):=by
 unfold DM.write;rw[if_neg (by rw[h.dn];simp),if_neg sQ,if_neg (by rw[h.tick.dn];simp)]
theorem mH.agb (h:mH m) {e:Nat} (he:e≠0) (f:DM->DM):m.write e f=(m,e):=by
 unfold DM.write;rw[if_neg (by rw[h.dn];simp),if_pos he]
theorem mH.create (h:mH m) (hn:wA n=true) (hk: ¬n∈m.ks):
  (64<=m.fs.length/\m.create n=(m,3))\/(m.fs.length<64/\(m.create n).2=0/\mH (m.create n).1/\(m.create n).1.ks=m.ks++[n]/\(m.create n).1.sz=m.sz):=by
 have hg: ¬(m.get n).isSome=true:=λe=>hk (DM.get_some.1 e);unfold DM.create;rw[if_neg (by simp[hn]),if_neg hg];by_cases hl:64<=m.fs.length
 ·left;rw[if_pos hl];exact⟨hl,h.agb dQ _⟩
 ·right;rw[if_neg hl,h.write];refine⟨by omega,rfl,⟨h.tick.ar,h.tick.dn⟩,?_,?_⟩
  ·show(cI n ([],0) m.tick.fs).map (·.1)=_
   rw[yf,m.A9,if_neg (show¬(getM n m.fs).isSome=true from hg)];rfl
  ·have:m.tick.get n=none:=by rw[m.qj];simpa using hg
   rw[DM.Th this,m.yR];simp
theorem mH.append (h:mH m) (hk:n∈m.ks) (gf:m.sz+b.length<=4194304):
  (m.append n b).2=0/\mH (m.append n b).1/\(m.append n b).1.ks=m.ks/\(m.append n b).1.sz=m.sz+b.length:=by
 have hg:=DM.get_some.2 hk;unfold DM.append;rw[if_neg (by rw[h.dn];simp)];cases hx:m.get n with
 |none=>grind
 |some x=>
  obtain⟨bs,s⟩:=x;dsimp only;rw[if_neg zQ];refine⟨by rw[if_neg (by rw[h.tick.dn];simp)],⟨h.tick.ar,h.tick.dn⟩,?_,?_⟩
  ·show(cI n (bs++b,s) m.tick.fs).map (·.1)=_
   rw[yf,m.A9,if_pos (show(getM n m.fs).isSome=true from hg)];rfl
  ·have:m.tick.get n=some (bs,s):=by rw[m.qj];exact hx
   have:=DM.LL (bs:=bs++b) (s':=s) this;rw[m.yR,aa] at this
   grind
theorem mH.sync (h:mH m) (hk:n∈m.ks):(m.sync n).2=0/\mH (m.sync n).1/\(m.sync n).1.ks=m.ks/\(m.sync n).1.sz=m.sz:=by
 have hg:=DM.get_some.2 hk;unfold DM.sync;rw[if_pos hg,h.write];have Rn:(m.tick.get n).isSome=true:=by rw[m.qj];exact hg
 refine⟨rfl,?_,?_,by dsimp only;rw[DM.Fy,m.yR]⟩
 ·unfold DM.kr;dsimp only;split
  ·exact h.tick
  ·exact⟨h.tick.ar,h.tick.dn⟩
 ·unfold DM.kr;dsimp only;split
  ·grind
  ·rename_i x hx
   show(cI n _ m.tick.fs).map (·.1)=_
   rw[yf,m.A9,if_pos (show(getM n m.fs).isSome=true from hg)];rfl
theorem YP: ∀{k a b:Nat},a<10^k->b<10^k->qk k a=qk k b->a=b
 |0,a,b,ha,hb,_=>by omega
 |k+1,a,b,ha,hb,h=>by
  unfold qk at h;obtain⟨h1,h2⟩:=List.append_inj' h rfl;have:=YP (k:=k) (a:=a/10) (b:=b/10) zQ zQ h1
  grind
theorem Nr: ∀(k n:Nat),∀x∈qk k n,x<256
 |0,_,x,h=>by cases h
 |k+1,n,x,h=>by
  unfold qk at h;rcases List.mem_append.1 h with h|h
  ·exact Nr k _ x h
  grind
theorem aiw {a:List Nat} (ha: ∀x∈a,x<256) (hb: ∀x∈b,x<256) (h:CE a=CE b):a=b:=by
 unfold CE at h;have h1:(a.map nU)=b.map nU:=by
  have:=congrArg (λx:ByteArray=>x.data.toList) h;simpa using this
 have h2:=congrArg (List.map UInt8.toNat) h1;simp only[bw] at h2;have e: ∀l:List Nat,(∀x∈l,x<256)->l.map (UInt8.toNat∘nU)=l:=λl hl=>by
  refine(dp λx hx=>?_).trans (xl l);simp_all
 simp_all
theorem LY {b:Nat} (ha:a<10^8) (hb:b<10^8) (h:bP dir a=bP dir b):a=b:=by
 unfold bP at h;have h1:=congrArg (λx:ByteArray=>x.data.toList) h;simp only[ByteArray.data_append,Array.toList_append] at h1;refine YP ha hb (aiw (Nr _ _) (Nr _ _) ?_);simp_all
theorem acD {α:Type} [LT α] [DecidableEq α]: ∀{a b:List α} {u v:List α},a<b->a.length=b.length->a++u<b++v
 |[],[],_,_,h,_=>absurd h (List.not_lt_nil _)
 |[],_::_,_,_,_,hl=>by simp at hl
 |_::_,[],_,_,_,hl=>by simp at hl
 |x::a,y::b,u,v,h,hl=>by
  rw[j5,j5,xm];rcases List.cons_lt_cons_iff.1 h with h1|⟨h1,h2⟩
  ·grind
  ·exact .inr ⟨h1,acD h2 gQ⟩
theorem agc: ∀{k a b:Nat},a<b->b<10^k->(qk k a).map nU<(qk k b).map nU
 |0,a,b,h,hb=>by omega
 |k+1,a,b,h,hb=>by
  unfold qk;rw[az,az];have uY:b/10<10^k:=by rw[rQ] at hb;omega
  by_cases hq:a/10=b/10
  ·rw[hq];refine zh ?_;rw[aZ,aZ,xm];refine .inl ?_;rw[UInt8.lt_iff_toNat_lt,zi,zi];omega
  ·exact acD (agc zQ uY) (by rw[af,af,vM,vM])
theorem PJ (dir:ByteArray) (n:Nat):bl (bP dir n)=(dir.data.toList++[46])++(qk 8 n).map nU:=by
 unfold bl bP CE;simp_all
theorem abD {b:Nat} (h:a<b) (hb:b<100000000):bl (bP dir a)<bl (bP dir b):=by
 rw[PJ,PJ];exact zh (agc h hb)
theorem abE {ns:List Nat} {ks:List ByteArray} (hp:ks.Perm (ns.map (bP dir))) (hs:ns.Pairwise (· < ·)) (hb: ∀n∈ns,n<100000000):fQ ks=ns.map (bP dir):=by
 rw[aix hp];unfold fQ;rw[List.mergeSort_of_pairwise]
 ·rw[bw];refine(dp λx _=>?_).trans (xl _);rfl
 ·rw[A7,A7];refine hs.imp_of_mem λ{a b} _ OX xh=>?_;unfold leB;exact decide_eq_true (List.le_of_lt (abD xh (hb b OX)))
theorem agd (h: ∀x∈l,x<256):vL (CE l)=l:=by
 unfold vL CE;rw[List.toList_toArray,bw];refine(dp λx hx=>?_).trans (xl l);simp_all
theorem YQ: ∀(k n:Nat) (l:List Nat) (a:Nat),D4 (qk k n++l) a=D4 l (a*10^k+n % 10^k)
 |0,n,l,a=>by simp[qk,Nat.mod_one]
 |k+1,n,l,a=>by
  unfold qk;rw[ak,YQ k (n/10)];rw[j5,cB,UN,if_neg zQ]
  congr 1
  have h1:n % 10^(k+1)=n/10 % 10^k*10+n % 10:=by
   rw[rQ,Nat.mul_comm (10^k) 10,Nat.mod_mul];omega
  rw[h1,rQ,Nat.add_mul,Nat.mul_assoc];omega
theorem aeb {n:Nat} (hn:n<100000000):rS dir (bP dir n)=n:=by
 have gf:=BM dir n;have hd:dir.data.toList.length=dir.size:=by rw[Array.length_toList];rfl
 have e:(bP dir n).data.toList=(dir.data.toList++[46])++(qk 8 n).map nU:=PJ dir n;have h1:(bP dir n).extract 0 dir.size=dir:=by
  apply En;apply Array.toList_inj.1;rw[wy,xZ,e,ak];rw[tX];simp only[List.drop_zero,Nat.sub_zero];exact ik hd
 have h2:(bP dir n).data.toList[dir.size]? =some 46:=by
  rw[e,ak,List.getElem?_append_right zQ,hd,Nat.sub_self];rfl
 have h3:(bP dir n).extract (dir.size+1) (bP dir n).size=CE (qk 8 n):=by
  apply En;apply Array.toList_inj.1;rw[wy,xZ,e,tX,gf];rw[j6 (by simp_all)];rw[aB (by rw[af,vM];omega)];rfl
 unfold rS;rw[if_pos ⟨gf,h1,h2⟩,h3,agd (Nr 8 n)];have h4:=YQ 8 n [] 0;rw[dT] at h4;rw[h4]
 show 0*10^8+n % 10^8=n
 grind
theorem LZ {s:Nat} (h:(m.get n).isSome=true):(m.put n b s).ks=m.ks:=by
 show(cI n (b,s) m.fs).map (·.1)=_
 rw[yf,if_pos (show(getM n m.fs).isSome=true from h)];rfl
theorem rE {s:Nat} :(m.put n b s).get n=some (b,s):=ku
theorem L2 {k:ByteArray} {s:Nat} (h:k≠n):(m.put n b s).get k=m.get k:=nL h
theorem ala {x:DM×Nat} :(DM.uB cG x n).1.ks=x.1.ks:=by
 unfold DM.uB;split
 ·rfl
 ·rename_i b s hg;split
  ·rfl
  ·exact LZ (by rw[hg];rfl)
theorem Rw {x:DM×Nat} {k:ByteArray} (h:k≠n):(DM.uB cG x n).1.get k=x.1.get k:=by
 unfold DM.uB;split
 ·rfl
 ·split
  ·rfl
  ·exact L2 h
theorem agf {x:DM×Nat} {s:Nat} (h:x.1.get n=some (b,s)) (hs:s<=b.length):
  ∃k,k<=b.length-s/\(DM.uB cG x n).1.get n=some (b.take (s+k),s+k)/\(cG=[]->k=0):=by
 unfold DM.uB;rw[h];dsimp only;split
 ·rename_i he;refine⟨0,aq _,?_,λ_=>rfl⟩
  grind
 ·rename_i he;refine⟨_,?_,rE,?_⟩
  ·split
   ·split
    ·rename_i p _ _;have:=Nat.mod_lt p.toNat (show 0<b.length-s+1 by omega)
     grind
    ·omega
   ·omega
  grind
theorem aec {cG:List Int} {n:ByteArray} : ∀(ns:List ByteArray) (x:DM×Nat),(ns.foldl (DM.uB cG) x).1.ks=x.1.ks/\(n ∉ ns->(ns.foldl (DM.uB cG) x).1.get n=x.1.get n)/\
  (ns.Nodup->n∈ns-> ∀b s,x.1.get n=some (b,s)->s<=b.length-> ∃k,k<=b.length-s/\(ns.foldl (DM.uB cG) x).1.get n=some (b.take (s+k),s+k)/\(cG=[]->k=0))
 |[],x=>⟨rfl,λ_=>rfl,λ_ h=>absurd h sQ⟩
 |a::ns,x=>by
  obtain⟨h1,h2,h3⟩:=aec (cG:=cG) (n:=n) ns (DM.uB cG x a);rw[List.foldl_cons];refine⟨h1.trans ala,λhn=>?_,λhd hn b s hg hs=>?_⟩
  ·simp only[List.mem_cons,not_or] at hn;rw[h2 hn.2,Rw hn.1]
  ·have Ll:=List.nodup_cons.1 hd;by_cases e:n=a
   ·subst e;obtain⟨k,hk,xN,hz⟩:=agf (cG:=cG) hg hs;exact⟨k,hk,by grind,hz⟩
   ·refine h3 Ll.2 ((List.mem_cons.1 hn).resolve_left e) b s ?_ hs;rw[Rw e];exact hg
theorem PK (m:DM) (cG:List Int):(m.mA cG).ks=m.ks:=(aec (cG:=cG) (n:=⟨#[]⟩) (fQ m.ks) (m,0)).1
theorem US {s:Nat} (hd:m.ks.Nodup) (h:m.get n=some (b,s)) (hs:s<=b.length): ∃k,k<=b.length-s/\(m.mA cG).get n=some (b.take (s+k),s+k)/\(cG=[]->k=0):=by
 have hn:n∈m.ks:=DM.get_some.1 (by rw[h];rfl);have hp:=kL m.ks;obtain⟨_,_,h3⟩:=aec (cG:=cG) (n:=n) (fQ m.ks) (m,0);exact h3 (hp.nodup_iff.2 hd) (hp.mem_iff.2 hn) b s h hs
theorem aed (hd:m.ks.Nodup) (h:m.get n=some (b,b.length)):(m.mA cG).get n=some (b,b.length):=by
 obtain⟨k,hk,hg,_⟩:=US (cG:=cG) hd h (au _);simp_all
def flat (l:List (List Nat)):List Nat:=(l.map di).flatten
theorem Da (a b:List (List Nat)):flat (a++b)=flat a++flat b:=by simp[flat]
theorem I9 (p:List Nat):flat [p]=di p:=by simp[flat]
def gD:List dN->Prop
 |s::t::r=>t.first=s.first+s.aY.length/\s.aY≠[]/\gD (t::r)
 |_=>True
theorem gD.tail {r:List dN} (h:gD (s::r)):gD r:=by
 cases r with
 |nil=>trivial
 |cons t r=>exact h.2.2
theorem gD.lt: ∀{r:List dN} {s:dN},gD (s::r)-> ∀t∈r,s.first<t.first
 |[],_,_,_,h=>absurd h sQ
 |u::r,s,h,t,ht=>by
  have h1:=List.length_pos_iff.2 h.2.1;have h2:=h.1;rcases List.mem_cons.1 ht with rfl|ht
  ·omega
  ·have:=gD.lt h.2.2 t ht;omega
theorem gD.S7: ∀{l:List dN},gD l->(l.map (·.first)).Pairwise (· < ·)
 |[],_=>by simp
 |s::r,h=>by
  rw[aZ,List.pairwise_cons];refine⟨λn hn=>?_,gD.S7 h.tail⟩;obtain⟨t,ht,rfl⟩:=List.mem_map.1 hn;exact h.lt t ht
theorem gD.suffix: ∀{a b:List dN},gD (a++b)->gD b
 |[],_,h=>h
 |_::a,_,h=>gD.suffix (a:=a) h.tail
theorem gD.snoc {n:dN} : ∀{a:List dN},gD (a++[s])->n.first=s.first+s.aY.length->s.aY≠[]->gD (a++[s]++[n])
 |[],_,h1,h2=>⟨h1,h2,trivial⟩
 |[t],h,h1,h2=>⟨h.1,h.2.1,h1,h2,trivial⟩
 |t::u::a,h,h1,h2=>⟨h.1,h.2.1,gD.snoc (a:=u::a) h.2.2 h1 h2⟩
variable {s' : dN}
theorem gD.last (hf:s'.first=s.first): ∀{a:List dN},gD (a++[s])->gD (a++[s'])
 |[],_=>trivial
 |[t],h=>⟨hf.trans h.1,h.2.1,trivial⟩
 |t::u::a,h=>⟨h.1,h.2.1,gD.last hf (a:=u::a) h.2.2⟩
structure WX (s:dN):Prop where
 one:1<=s.first
 top:s.first<=99999999/\s.first+s.aY.length<=100000000
 sz:s.size=(flat s.aY).length
 pl: ∀p∈s.aY,p.length<=262144/\xt p
structure Good (l:List dN):Prop where
 lk:gD l
 ok: ∀s∈l,WX s
def Good.suffix {a b:List dN} (h:Good (a++b)):Good b:=⟨h.lk.suffix,λs hs=>h.ok s (List.mem_append_right _ hs)⟩
structure pd (dir:ByteArray) (pre:List dN) (s:dN) (lF:List Nat) (sf:Nat) (m:DM):Prop where
 nd:m.ks.Nodup
 ks:m.ks.Perm ((pre++[s]).map λs=>bP dir s.first)
 body: ∀t∈pre,m.get (bP dir t.first)=some (flat t.aY,(flat t.aY).length)
 last:m.get (bP dir s.first)=some (flat s.aY++lF,sf)
 sf:sf<=(flat s.aY++lF).length
variable {pre : List dN}
theorem pd.ne (hg:Good (pre++[s])) {t:dN} (ht:t∈pre):bP dir t.first≠bP dir s.first:=λe=>by
 have h1:=hg.lk.S7;rw[az] at h1;have h2:=(List.pairwise_append.1 h1).2.2 t.first (List.mem_map.2 ⟨t,ht,rfl⟩) s.first sQ
 have h3:=(hg.ok t (by simp[ht])).top;have h4:=(hg.ok s sQ).top;have:=LY zQ zQ e;omega
variable {sf : Nat} {lF : List Nat}
theorem pd.mA (h:pd dir pre s lF sf m) (hg:Good (pre++[s])):
  ∃k,k<=(flat s.aY++lF).length-sf/\(cG=[]->k=0)/\(m.mA cG).ks=m.ks/\(∀t∈pre,(m.mA cG).get (bP dir t.first)=some (flat t.aY,(flat t.aY).length))/\
   (m.mA cG).get (bP dir s.first)=some ((flat s.aY++lF).take (sf+k),sf+k):=by
 obtain⟨k,hk,DW,hz⟩:=US (cG:=cG) h.nd h.last h.sf;exact⟨k,hk,hz,PK m cG,λt ht=>aed h.nd (h.body t ht),DW⟩
theorem UT {l:List (List Nat)} (hl: ∀p∈l,p.length<=262144) (ht:mi lF=none):jl (flat l++lF)=(l,(flat l).length):=by
 unfold flat;rw[LJ l lF hl,EB ht];simp
def Ja:mi []=none:=ya (.inl sQ)
theorem vN {s:Nat} (h:m.get n=some (b,s)):m.bytes n=b:=by unfold DM.bytes;rw[h];rfl
theorem EU {d:ByteArray} {r:Nat} :(⟨d,r,pre++[s],z⟩:LM).last=s:=by simp[LM.last]
theorem YR {dir:ByteArray} {room:Nat} {m:DM} : ∀(UU pre:List dN),gD (pre++UU)->(∀t∈UU,1<=t.first/\t.first<100000000/\jl (m.bytes (bP dir t.first))=(t.aY,t.size))->
  (∀t∈(pre++UU).dropLast,(m.bytes (bP dir t.first)).length=t.size)->LD.pj ⟨⟨dir,room,pre,0⟩,m⟩ (UU.map λs=>bP dir s.first)=(⟨⟨dir,room,pre++UU,0⟩,m⟩,0)
 |[],pre,_,_,_=>by simp[LD.pj]
 |t::UU,pre,hk,hs,hb=>by
  obtain⟨h1,h2,h3⟩:=hs t sQ;have hn:rS dir (bP dir t.first)=t.first:=aeb h2
  have hj:LD.GJ ⟨⟨dir,room,pre,0⟩,m⟩ t.first=false:=by
   unfold LD.GJ;simp only[decide_eq_false_iff_not];rintro⟨bU,hor⟩;obtain⟨p,u,rfl⟩: ∃p u,pre=p++[u]:=⟨_,_,(List.dropLast_concat_getLast bU).symm⟩;have apq:gD (u::t::UU):=gD.suffix (a:=p) (by simpa using hk);have hu:(m.bytes (bP dir u.first)).length=u.size:=hb u (by
    rw[List.dropLast_append_of_ne_nil sQ];exact bz _ sQ)
   rw[EU] at hor;have e1:(⟨dir,room,p++[u],0⟩:LM).fe=bP dir u.first:=by unfold LM.fe;rw[EU]
   have e2:(⟨dir,room,p++[u],0⟩:LM).next=u.first+u.aY.length:=by unfold LM.next;rw[EU]
   rw[e1,e2] at hor;rcases hor with h|h
   ·omega
   ·exact h apq.1
  have eJ:LD.join ⟨⟨dir,room,pre,0⟩,m⟩ t.first (bP dir t.first)=(⟨⟨dir,room,pre++[t],0⟩,m⟩,0):=by
   unfold LD.join;rw[hj,if_neg ph];dsimp only;rw[h3]
  rw[aZ];unfold LD.pj;dsimp only;rw[hn,if_neg zQ,eJ,if_neg sQ];have:=YR (dir:=dir) (room:=room) (m:=m) UU (pre++[t]) (by simpa using hk) (λx hx=>hs x (bS _ hx)) (by simpa using hb);rw[this];simp
theorem Jb (h0:m.ar=0) (hd:m.dn=false):m.tick.ar=0/\m.tick.dn=false:=by
 unfold DM.tick
 grind
theorem agh (h0:m.ar=0) (hd:m.dn=false) (f:DM->DM):m.write 0 f=(f m.tick,0):=by
 unfold DM.write;rw[if_neg gQ,if_neg sQ,if_neg (by rw[(Jb h0 hd).2];simp)]
theorem pd.tick (h:pd dir pre s lF sf m):pd dir pre s lF sf m.tick:=by
 have e:m.tick.ks=m.ks:=by unfold DM.ks;rw[m.A9]
 exact⟨by rw[e];exact h.nd,by rw[e];exact h.ks,λt ht=>by rw[m.qj];exact h.body t ht,by rw[m.qj];exact h.last,h.sf⟩
variable {sf' : Nat} {Rx : List Nat}
theorem pd.put (h:pd dir pre s lF sf m) (hg:Good (pre++[s])) (hf:s'.first=s.first) (hb:flat s'.aY++Rx=b) (hs:sf'<=b.length):
  pd dir pre s' Rx sf' (m.put (bP dir s.first) b sf'):=by
 have akr:(m.get (bP dir s.first)).isSome=true:=by rw[h.last];rfl
 refine⟨by rw[LZ akr];exact h.nd,?_,λt ht=>?_,?_,by grind⟩
 ·rw[LZ akr];have e:(pre++[s']).map (λs=>bP dir s.first)=(pre++[s]).map (λs=>bP dir s.first):=by simp[hf]
  rw[e];exact h.ks
 ·rw[L2 (pd.ne hg ht)];exact h.body t ht
 ·rw[hf,hb];exact rE
theorem pd.kr (h:pd dir pre s lF sf m) (hg:Good (pre++[s])):pd dir pre s lF (flat s.aY++lF).length (m.kr (bP dir s.first)):=by
 unfold DM.kr;rw[h.last];exact h.put hg rfl rfl (au _)
variable {room : Nat}
theorem amS (h:pd dir pre s lF sf m) (hg:Good (pre++[s])) (ht:mi lF=none) (h0:m.ar=0) (hd:m.dn=false):
  ∃m',LD.Ch dir room m=(⟨⟨dir,room,pre++[s],(s.first+s.aY.length:Nat)-1⟩,m'⟩,0)/\pd dir pre s [] (flat s.aY).length m'/\m'.ar=0/\m'.dn=false:=by
 have GN:=hg.ok s sQ;have YD:fQ (m.fs.map (·.1))=(pre++[s]).map λs=>bP dir s.first:=by
  have e:(pre++[s]).map (λs=>bP dir s.first)=((pre++[s]).map (·.first)).map (bP dir):=by rw[bw];rfl
  rw[e];refine abE (by rw[<-e];exact h.ks) hg.lk.S7 λn hn=>?_;obtain⟨t,ht,rfl⟩:=List.mem_map.1 hn;have:=(hg.ok t ht).top;omega
 have hj:=YR (dir:=dir) (room:=room) (m:=m) (pre++[s]) [] (by simpa using hg.lk) (λt xW=>?_) (λt xW=>?_)
 ·rw[cB] at hj;have hL0:L0 dir room=⟨dir,room,[],0⟩:=rfl;have apr: ∃m',LD.Hr ⟨⟨dir,room,pre++[s],0⟩,m⟩=(⟨⟨dir,room,pre++[s],(s.first+s.aY.length:Nat)-1⟩,m'⟩,0)/\pd dir pre s [] (flat s.aY).length m'/\m'.ar=0/\m'.dn=false:=by
   have eN:(⟨dir,room,pre++[s],0⟩:LM).fe=bP dir s.first:=by unfold LM.fe;rw[EU]
   have eX:(⟨dir,room,pre++[s],0⟩:LM).next=s.first+s.aY.length:=by unfold LM.next;rw[EU]
   have sync: ∀{m1:DM} {sf1:Nat},pd dir pre s [] sf1 m1->m1.ar=0->m1.dn=false-> ∃m',LD.sync ⟨⟨dir,room,pre++[s],0⟩,m1⟩=(⟨⟨dir,room,pre++[s],(s.first+s.aY.length:Nat)-1⟩,m'⟩,0)/\pd dir pre s [] (flat s.aY).length m'/\m'.ar=0/\m'.dn=false:=by
    intro m1 sf1 h1 a1 d1;have e:m1.sync (bP dir s.first)=(DM.kr (bP dir s.first) m1.tick,0):=by
     unfold DM.sync;rw[if_pos (by rw[h1.last];rfl),agh a1 d1]
    refine⟨DM.kr (bP dir s.first) m1.tick,?_,?_,?_,?_⟩
    ·unfold LD.sync;simp_all
    ·have:=h1.tick.kr hg
     grind
    ·unfold DM.kr;split
     ·exact(Jb a1 d1).1
     ·exact(Jb a1 d1).1
    ·unfold DM.kr;split
     ·exact(Jb a1 d1).2
     ·exact(Jb a1 d1).2
   unfold LD.Hr;dsimp only;rw[EU,eN,vN h.last,GN.sz,aa];by_cases htn:lF=[]
   ·subst htn;rw[if_neg sQ];exact sync h h0 hd
   ·have:=List.length_pos_iff.2 htn;rw[if_pos zQ];have hc:m.cut (bP dir s.first) (flat s.aY).length=(DM.D2 (bP dir s.first) (flat s.aY).length m.tick,0):=by
     unfold DM.cut DM.PC;rw[vN h.last,if_pos (by rw[h.last];rfl),aa,if_neg zQ,agh h0 hd];rfl
    rw[hc,if_neg sQ];have hcd:pd dir pre s [] (min sf (flat s.aY).length) (DM.D2 (bP dir s.first) (flat s.aY).length m.tick):=by
     unfold DM.D2;rw[h.tick.last];dsimp only;rw[List.take_left];exact h.tick.put hg rfl (dT _) (BI _ _)
    have amT:(DM.D2 (bP dir s.first) (flat s.aY).length m.tick).ar=0/\(DM.D2 (bP dir s.first) (flat s.aY).length m.tick).dn=false:=by
     unfold DM.D2;split
     ·exact Jb h0 hd
     ·exact Jb h0 hd
    exact sync hcd amT.1 amT.2
  obtain⟨m',e1,e2⟩:=apr;refine⟨m',?_,e2⟩;unfold LD.Ch;simp_all
 ·have zW:=hg.ok t xW;refine⟨zW.one,by have:=zW.top;omega,?_⟩;rw[zW.sz];rcases List.mem_append.1 xW with xW|xW
  ·rw[vN (h.body t xW)];have:=UT (l:=t.aY) (lF:=[]) (λp hp=>(zW.pl p hp).1) Ja
   grind
  ·simp only[av] at xW;subst xW;rw[vN h.last];exact UT (λp hp=>(zW.pl p hp).1) ht
 ·rw[cB,jJ] at xW;rw[vN (h.body t xW),(hg.ok t (by simp[xW])).sz]
def YS (dir:ByteArray) (P:List dN->Prop) (m:DM):Prop:=
 m.fs.length<=64/\ ∀cG,∃pre s lF sf,P (pre++[s])/\Good (pre++[s])/\mi lF=none/\xt lF/\pd dir pre s lF sf (m.mA cG)
def Fz (dir:ByteArray) (P:List dN->Prop) (m:DM):Prop:=m.dn=true/\YS dir P m
variable {Q : List dN -> Prop}
def YS.imp {P:List dN->Prop} (h:YS dir P m) (k: ∀l s,P (l++[s])->Q (l++[s])):YS dir Q m:=
 ⟨h.1,λcG=>let⟨a,b,c,d,e,f⟩:=h.2 cG;⟨a,b,c,d,k _ _ e,f⟩⟩
def Fz.imp {P:List dN->Prop} (h:Fz dir P m) (k: ∀l,P l->Q l):Fz dir Q m:=⟨h.1,h.2.imp λ_ _=>k _⟩
theorem uD {a:List Nat} (ha:xt a) (hb:xt b):xt (a++b):=λx hx=>(List.mem_append.1 hx).elim (ha x) (hb x)
theorem Ti (n:Nat):xt (uA n):=by
 intro x hx;unfold uA at hx;simp at hx;omega
def UW (h:xt p):xt (di p):=uD (uD (uD (Ti _) (Ti _)) h) (Ti _)
theorem aee (hk:k<(di p).length) (hp:p.length<=262144):mi ((di p).take k)=none:=by
 have hl:=qU p;by_cases h:k<12
 ·exact ya (.inl gQ)
 ·have e1:iV (di p)=p.length:=by
   unfold di;simp only[ak];exact I6 _ zQ _
  have e2:iV ((di p).take k)=p.length:=by
   rw[<-e1,Ig,Ig];rw[fR zQ,fR zQ,fR zQ,fR zQ]
  refine ya (.inr (.inr (.inr ?_)))
  grind
theorem pd.re {m':DM} (h:pd dir pre s lF sf m) (hk:m'.ks=m.ks) (hb: ∀t∈pre,m'.get (bP dir t.first)=m.get (bP dir t.first)) (hf:s'.first=s.first)
  (hl:m'.get (bP dir s.first)=some (flat s'.aY++Rx,sf')) (hs:sf'<=(flat s'.aY++Rx).length):pd dir pre s' Rx sf' m':=by
 refine⟨by rw[hk];exact h.nd,?_,λt ht=>by rw[hb t ht];exact h.body t ht,by grind,hs⟩;rw[hk];have e:(pre++[s']).map (λs=>bP dir s.first)=(pre++[s]).map (λs=>bP dir s.first):=by simp[hf]
 rw[e];exact h.ks
theorem YT (h:pd dir pre s [] (flat s.aY).length m) (hg:Good (pre++[s])) (hl:m.fs.length<=64):YS dir (λl=>l=pre++[s]) m:=by
 refine⟨hl,λcG=>?_⟩;obtain⟨k,hk,_,h1,h2,h3⟩:=h.mA (cG:=cG) hg;rw[dT] at hk h3;have iq:k=0:=by omega
 subst iq;refine⟨pre,s,[],(flat s.aY).length,rfl,hg,Ja,λx hx=>(by cases hx),h.re h1 (λt ht=>by rw[h2 t ht,h.body t ht]) rfl ?_ sQ⟩
 grind
def UX (h:pd dir pre s [] (flat s.aY).length m) (hg:Good (pre++[s])) (hl:m.fs.length<=64) (hd:m.dn=true):Fz dir (λl=>l=pre++[s]) m:=⟨hd,YT h hg hl⟩
abbrev dN.plus (s:dN) (p:List Nat):dN:=⟨s.first,s.aY++[p],s.size+(di p).length⟩
theorem UY (h:pd dir pre s (di p) (flat s.aY).length m) (hg:Good (pre++[s])) (xN:Good (pre++[s.plus p])) (hp:p.length<=262144) (hl:m.fs.length<=64) (hd:m.dn=true):Fz dir (λl=>l=pre++[s]\/l=pre++[s.plus p]) m:=by
 refine⟨hd,hl,λcG=>?_⟩;have Il:xt (di p):=UW ((xN.ok (s.plus p) sQ).pl p sQ).2;obtain⟨k,hk,_,h1,h2,h3⟩:=h.mA (cG:=cG) hg;rw[aa] at hk;rw[List.take_append,aB (Nat.le_add_right _ _),Nat.add_sub_cancel_left] at h3;by_cases sF:k<(di p).length
 ·refine⟨pre,s,(di p).take k,(flat s.aY).length+k,.inl rfl,hg,aee sF hp,λx hx=>Il x (dc hx),h.re h1 (λt ht=>by rw[h2 t ht,h.body t ht]) rfl h3 (by simp_all)⟩
 ·refine⟨pre,s.plus p,[],(flat s.aY).length+k,.inr rfl,xN,Ja,λx hx=>(by cases hx),h.re h1 (λt ht=>by rw[h2 t ht,h.body t ht]) rfl ?_ ?_⟩
  ·rw[h3,aB zQ,Da,I9,dT]
  ·rw[Da,I9,dT,aa];omega
theorem Ht (hd:m.dn=false) (f:DM->DM):(m.tick.dn=true/\m.write 0 f=(m.tick,12))\/(m.tick.dn=false/\m.write 0 f=(f m.tick,0)):=by
 cases h:m.tick.dn with
 |true=>left;exact⟨rfl,by unfold DM.write;grind⟩
 |false=>right;exact⟨rfl,by unfold DM.write;grind⟩
structure oP (x:LD) (pre:List dN) (s:dN):Prop where
 bC:x.L.bC=pre++[s]
 g:Good (pre++[s])
 d:pd x.L.dir pre s [] (flat s.aY).length x.m
 dn:x.m.dn=false
 sz:x.m.sz<=4194304
 fl:x.m.fs.length<=64
 d1:1<=x.L.dir.size
 d2:x.L.dir.size<=11
 r1:64<=x.L.room
 r2:x.L.room<=262144
theorem oP.last (h:oP x pre s):x.L.last=s:=by unfold LM.last;rw[h.bC];simp
theorem oP.name (h:oP x pre s):x.L.fe=bP x.L.dir s.first:=by unfold LM.fe;rw[h.last]
theorem oP.next (h:oP x pre s):x.L.next=s.first+s.aY.length:=by unfold LM.next;rw[h.last]
theorem YU (m:DM) (n:ByteArray):(m.kr n).dn=m.dn:=by unfold DM.kr;split<;>rfl
theorem UZ (m:DM) (n:ByteArray):(m.kr n).fs.length=m.fs.length:=by
 have:(m.kr n).ks=m.ks:=by
  unfold DM.kr;split
  ·rfl
  ·grind [LZ]
 have:=congrArg bf this
 grind [DM.wz]
theorem CF (m:DM):m.tick.fs.length=m.fs.length:=by rw[m.A9]
theorem oP.sync (h:oP x pre s):(x.sync.2=12/\Fz x.L.dir (λl=>l=pre++[s]) x.sync.1.m)\/(x.sync.2=0/\oP x.sync.1 pre s/\x.sync.1.L= { x.L with safe:=(x.L.next:Int)-1 } /\x.sync.1.m.sz=x.m.sz):=by
 have e:x.m.sync x.L.fe=x.m.write 0 (DM.kr (bP x.L.dir s.first)):=by
  unfold DM.sync;rw[h.name,if_pos (by rw[h.d.last];rfl)]
 unfold LD.sync;dsimp only;rw[e];rcases Ht h.dn (DM.kr (bP x.L.dir s.first))with⟨ht,hw⟩|⟨ht,hw⟩
 ·rw[hw];exact .inl ⟨rfl,UX h.d.tick h.g (by rw[CF];exact h.fl) ht⟩
 ·rw[hw];have hd:=h.d.tick.kr h.g;rw[dT] at hd;exact .inr ⟨rfl,⟨h.bC,h.g,hd,by rw[YU];exact ht,by dsimp only;rw[DM.Fy,x.m.yR];exact h.sz,by dsimp only;rw[UZ,CF];exact h.fl,h.d1,h.d2,h.r1,h.r2⟩,rfl,by dsimp only;rw[DM.Fy,x.m.yR]⟩
def fE (l:List dN):List (List Nat):=(l.map (·.aY)).flatten
def oI (l:List dN):Option Nat:=l.head?.map (·.first)
theorem abF (l:List dN) (s:dN):fE (l++[s])=fE l++s.aY:=by simp[fE]
theorem OY (l:List dN) (s:dN) (p:List Nat):fE (l++[s.plus p])=fE (l++[s])++[p]:=by simp[fE]
theorem Ry (l:List dN) (s s':dN) (h:s'.first=s.first):oI (l++[s'])=oI (l++[s]):=by grind [oI]
theorem aef (l:List dN) (s n:dN):oI (l++[s]++[n])=oI (l++[s]):=by
 cases l with
 |nil=>rfl
 |cons a l=>rfl
theorem WX.plus (h:WX s) (hp:p.length<=262144) (hb:xt p) (hn:s.first+s.aY.length<=99999999):WX (s.plus p):=by
 refine⟨h.one,⟨h.top.1,by simp;omega⟩,?_,λq hq=>?_⟩
 ·show s.size+(di p).length=_
  rw[h.sz,Da,I9,aa]
 ·rcases List.mem_append.1 hq with hq|hq
  ·exact h.pl q hq
  grind
theorem Good.plus (h:Good (pre++[s])) (hp:p.length<=262144) (hb:xt p) (hn:s.first+s.aY.length<=99999999):Good (pre++[s.plus p]):=by
 refine⟨gD.last (s:=s) (s':=s.plus p) rfl h.lk,λt ht=>?_⟩;rcases List.mem_append.1 ht with ht|ht
 ·exact h.ok t (bz _ ht)
 ·simp only[av] at ht;subst ht;exact(h.ok s sQ).plus hp hb hn
theorem Good.more (h:Good (pre++[s])) (hr:s.aY≠[]) (hn:s.first+s.aY.length<=99999999):Good (pre++[s]++[⟨s.first+s.aY.length,[],0⟩]):=by
 refine⟨h.lk.snoc rfl hr,λt ht=>?_⟩;rcases List.mem_append.1 ht with ht|ht
 ·exact h.ok t ht
 ·simp only[av] at ht;subst ht;have:=(h.ok s sQ).one;exact⟨by simp;omega,⟨by omega,by simp;omega⟩,by rfl,λp hp=>by cases hp⟩
theorem oP.iJ (h:oP x pre s) (hr:s.aY≠[]) (hn:x.L.next<=99999999):
  ((x.iJ x.L.next).2=12/\Fz x.L.dir (λl=>l=pre++[s]) (x.iJ x.L.next).1.m/\(x.iJ x.L.next).1.L=x.L)\/((x.iJ x.L.next).2=3/\(x.iJ x.L.next).1=x/\64<=x.m.fs.length)\/
  ((x.iJ x.L.next).2=0/\oP (x.iJ x.L.next).1 (pre++[s]) ⟨x.L.next,[],0⟩/\(x.iJ x.L.next).1.L= { x.L with bC:=x.L.bC++[⟨x.L.next,[],0⟩] } /\(x.iJ x.L.next).1.m.sz=x.m.sz):=by
 have nD:=h.next
 have rq:=List.length_pos_iff.2 hr;have hnk: ¬(x.m.get (bP x.L.dir x.L.next)).isSome=true:=λe=>by
  have:=h.d.ks.mem_iff.1 (DM.get_some.1 e);obtain⟨t,ht,e2⟩:=List.mem_map.1 this;have zW:=(h.g.ok t ht).top;have:=LY zQ zQ e2;rcases List.mem_append.1 ht with ht|ht
  ·have h1:=h.g.lk.S7;rw[az] at h1;have:=(List.pairwise_append.1 h1).2.2 t.first (List.mem_map.2 ⟨t,ht,rfl⟩) s.first sQ
   omega
  grind
 have xi:wA (bP x.L.dir x.L.next)=true:=by
  have:=h.d1;have:=h.d2;simp only[wA,BM,decide_eq_true_eq];omega
 unfold LD.iJ;dsimp only;unfold DM.create;rw[if_neg (by simp[xi]),if_neg hnk];by_cases hl:64<=x.m.fs.length
 ·right;left;rw[if_pos hl];have e:x.m.write 3 (λm=>m.put (bP x.L.dir x.L.next) [] 0)=(x.m,3):=by unfold DM.write;rw[if_neg (by rw[h.dn];simp),if_pos sQ]
  simp_all
 ·rw[if_neg hl];rcases Ht h.dn (λm=>m.put (bP x.L.dir x.L.next) [] 0)with⟨ht,hw⟩|⟨ht,hw⟩
  ·left;rw[hw];exact⟨rfl,UX h.d.tick h.g (by rw[CF];omega) ht,rfl⟩
  ·right;right;rw[hw,if_pos rfl];have qs:x.m.tick.get (bP x.L.dir x.L.next)=none:=by
    rw[x.m.qj];cases hq:x.m.get (bP x.L.dir x.L.next)with
    |none=>rfl
    |some y=>grind
   have Kj:(x.m.tick.put (bP x.L.dir x.L.next) [] 0).ks=x.m.ks++[bP x.L.dir x.L.next]:=by
    show(cI (bP x.L.dir x.L.next) ([],0) x.m.tick.fs).map (·.1)=_
    rw[yf,x.m.A9,if_neg (show¬(getM (bP x.L.dir x.L.next) x.m.fs).isSome=true from hnk)];rfl
   have gu:bP x.L.dir x.L.next ∉ x.m.ks:=λhm=>hnk (DM.get_some.2 hm)
   have xN:=h.g.more hr zQ;rw[<-nD] at xN;have aeg: ∀t∈pre++[s],(x.m.tick.put (bP x.L.dir x.L.next) [] 0).get (bP x.L.dir t.first)=some (flat t.aY,(flat t.aY).length):=λt ht=>by
    rw[L2,x.m.qj]
    ·rcases List.mem_append.1 ht with ht|ht
     ·exact h.d.body t ht
     ·simp only[av] at ht;subst ht;have:=h.d.last
      grind
    ·intro e;refine gu (e▸h.d.ks.mem_iff.2 (List.mem_map.2 ⟨t,ht,rfl⟩))
   have iT:(x.m.tick.put (bP x.L.dir x.L.next) [] 0).fs.length=x.m.fs.length+1:=by
    have:=congrArg bf Kj;rw[aa,DM.wz,DM.wz] at this;exact this
   have amU:(x.m.tick.put (bP x.L.dir x.L.next) [] 0).sz=x.m.sz:=by
    rw[DM.Th qs,x.m.yR];simp
   refine⟨rfl,⟨by dsimp only;rw[h.bC],xN,⟨?_,?_,aeg,?_,by simp⟩,ht,by dsimp only;rw[amU];exact h.sz,?_,h.d1,h.d2,h.r1,h.r2⟩,rfl,amU⟩
   ·dsimp only;rw[Kj,List.nodup_append];exact⟨h.d.nd,by simp,λa ha b hb e=>gu gQ⟩
   ·dsimp only;rw[Kj,az];exact h.d.ks.append (List.Perm.refl _)
   ·exact rE
   grind
theorem oP.aeh (h:oP x pre s) (hn:x.L.next<=99999999):
  (x.room.2=12/\Fz x.L.dir (λl=>l=pre++[s]) x.room.1.m/\x.room.1.L.bC=x.L.bC/\x.room.1.L.dir=x.L.dir/\x.room.1.L.room=x.L.room)\/(x.room.2=3/\oP x.room.1 pre s/\x.room.1.L.dir=x.L.dir/\x.room.1.L.room=x.L.room/\64<=x.m.fs.length/\x.L.room<=s.size)\/
  (x.room.2=0/\ ∃oW s',oP x.room.1 oW s'/\x.room.1.L.next=x.L.next/\x.room.1.L.dir=x.L.dir/\x.room.1.L.room=x.L.room/\x.room.1.m.sz=x.m.sz/\((oW=pre/\s'=s/\ ¬x.L.room<=s.size)\/(oW=pre++[s]/\s'=⟨x.L.next,[],0⟩/\x.L.room<=s.size))):=by
 unfold LD.room;rw[h.last];by_cases hr:x.L.room<=s.size
 ·rw[if_pos hr];have bU:s.aY≠[]:=λe=>by
   have h1:=(h.g.ok s sQ).sz;have h2:=h.r1
   grind [flat]
  dsimp only;rcases h.sync with⟨e,hf⟩|⟨e,hu,eL,eS⟩
  ·left;have LX:x.sync.1.L.bC=x.L.bC/\x.sync.1.L.dir=x.L.dir/\x.sync.1.L.room=x.L.room:=by
    unfold LD.sync;dsimp only;grind
   grind
  ·rw[if_neg zQ];have nD:x.sync.1.L.next=x.L.next:=by rw[hu.next,h.next]
   have amV:x.sync.1.L.dir=x.L.dir:=by rw[eL]
   have Kl:x.sync.1.L.room=x.L.room:=by rw[eL]
   have OZ:x.sync.1.m.fs.length=x.m.fs.length:=by
    have h1:=h.d.ks.length_eq;have h2:=hu.d.ks.length_eq;rw[DM.wz] at h1 h2;rw[h1,h2];simp
   rw[<-nD];rcases hu.iJ bU zQ with⟨a,b,c⟩|⟨a,b,c⟩|⟨a,b,c,d⟩
   ·left
    grind
   ·right;left
    grind
   ·right;right;refine⟨a,_,_,b,?_,by grind,by grind,d.trans eS,.inr ⟨rfl,rfl,hr⟩⟩;rw[b.next];simp
 ·rw[if_neg hr]
  grind
structure Lay (x:LD) (pre:List dN) (s:dN) (p:List Nat):Prop where
 bC:x.L.bC=pre++[s.plus p]
 g0:Good (pre++[s])
 g:Good (pre++[s.plus p])
 d:pd x.L.dir pre s (di p) (flat s.aY).length x.m
 pl:p.length<=262144
 dn:x.m.dn=false
 sz:x.m.sz<=4194304
 fl:x.m.fs.length<=64
 d1:1<=x.L.dir.size
 d2:x.L.dir.size<=11
 r1:64<=x.L.room
 r2:x.L.room<=262144
theorem Lay.last (h:Lay x pre s p):x.L.last=s.plus p:=by unfold LM.last;rw[h.bC];simp
theorem Lay.sync (h:Lay x pre s p):(x.sync.2=12/\Fz x.L.dir (λl=>l=pre++[s]\/l=pre++[s.plus p]) x.sync.1.m)\/(x.sync.2=0/\oP x.sync.1 pre (s.plus p)/\x.sync.1.L.dir=x.L.dir/\x.sync.1.L.room=x.L.room):=by
 have hn:x.L.fe=bP x.L.dir s.first:=by unfold LM.fe;rw[h.last]
 have e:x.m.sync x.L.fe=x.m.write 0 (DM.kr (bP x.L.dir s.first)):=by
  unfold DM.sync;rw[hn,if_pos (by rw[h.d.last];rfl)]
 unfold LD.sync;dsimp only;rw[e];rcases Ht h.dn (DM.kr (bP x.L.dir s.first))with⟨ht,hw⟩|⟨ht,hw⟩
 ·rw[hw];exact .inl ⟨rfl,UY h.d.tick h.g0 h.g h.pl (by rw[CF];exact h.fl) ht⟩
 ·rw[hw];have hd:=h.d.tick.kr h.g0;have iT:flat s.aY++di p=flat (s.plus p).aY:=by show _=flat (s.aY++[p]);rw[Da,I9]
  have sG:pd x.L.dir pre (s.plus p) [] (flat (s.plus p).aY).length (x.m.tick.kr (bP x.L.dir s.first)):=by
   refine hd.re rfl (λ_ _=>rfl) rfl ?_ sQ;rw[hd.last,iT,dT]
  exact .inr ⟨rfl,⟨h.bC,h.g,sG,by rw[YU];exact ht,by dsimp only;rw[DM.Fy,x.m.yR];exact h.sz,by dsimp only;rw[UZ,CF];exact h.fl,h.d1,h.d2,h.r1,h.r2⟩,rfl,rfl⟩
theorem oP.lay (h:oP x pre s) (hp:p.length<=262144) (hb:xt p) (hn:x.L.next<=99999999):
  ((x.lay p).2=12/\Fz x.L.dir (λl=>l=pre++[s]\/l=pre++[s.plus p]) (x.lay p).1.m/\(x.lay p).1.L=x.L)\/((x.lay p).2=11/\(x.lay p).1=x/\4194304<x.m.sz+(di p).length)\/
  ((x.lay p).2=0/\Lay (x.lay p).1 pre s p/\(x.lay p).1.L=x.L.add p):=by
 have nD:=h.next
 have xN:=h.g.plus hp hb zQ;have hl:=h.d.last;rw[dT] at hl;have eA:x.m.append (bP x.L.dir s.first) (di p)=if 4194304-x.m.sz<(di p).length then(x.m,11)else(x.m.tick.put (bP x.L.dir s.first) (flat s.aY++di p) (flat s.aY).length,if x.m.tick.dn then 12 else 0):=by
  unfold DM.append;rw[hl,if_neg (by rw[h.dn];simp)]
 unfold LD.lay;dsimp only;rw[h.name];by_cases gf:4194304-x.m.sz<(di p).length
 ·right;left;rw[if_pos gf] at eA;rw[eA];exact⟨rfl,rfl,by omega⟩
 ·rw[if_neg gf] at eA;have cx:x.m.tick.get (bP x.L.dir s.first)=some (flat s.aY,(flat s.aY).length):=by rw[x.m.qj];exact hl
  have hd:pd x.L.dir pre s (di p) (flat s.aY).length (x.m.tick.put (bP x.L.dir s.first) (flat s.aY++di p) (flat s.aY).length):=
   h.d.tick.put h.g rfl rfl gQ
  have jQ:(x.m.tick.put (bP x.L.dir s.first) (flat s.aY++di p) (flat s.aY).length).dn=x.m.tick.dn:=rfl;have iT:(x.m.tick.put (bP x.L.dir s.first) (flat s.aY++di p) (flat s.aY).length).fs.length<=64:=by
   have hk:(x.m.tick.put (bP x.L.dir s.first) (flat s.aY++di p) (flat s.aY).length).ks=x.m.tick.ks:=LZ gQ;have:=congrArg bf hk;rw[DM.wz,DM.wz,CF] at this;rw[this];exact h.fl
  cases ht:x.m.tick.dn with
  |true=>
   left;rw[ht,if_pos rfl] at eA;rw[eA];exact⟨rfl,UY hd h.g xN hp iT (jQ.trans ht),rfl⟩
  |false=>
   right;right;rw[ht,if_neg ph] at eA;rw[eA,if_pos rfl];refine⟨rfl,⟨?_,h.g,xN,hd,hp,jQ.trans ht,?_,?_,h.d1,h.d2,h.r1,h.r2⟩,rfl⟩
   ·show x.L.bC.dropLast++[⟨x.L.last.first,x.L.last.aY++[p],x.L.last.size+(di p).length⟩]=_
    rw[h.last,h.bC,jJ]
   ·have:=DM.LL (bs:=flat s.aY++di p) (s':=(flat s.aY).length) cx;rw[aa,x.m.yR] at this;have:=h.sz;dsimp only;omega
   omega
structure Kept (x:LD) (pre:List dN) (s:dN) (p:List Nat) (y:LD) (oW:List dN) (s':dN):Prop where
 up:oP y oW s'
 fst:oI (oW++[s'])=oI (pre++[s])
 dir:y.L.dir=x.L.dir
 room:y.L.room=x.L.room
theorem oP.iI (h:oP x pre s) (hp:p.length<=262144) (hb:xt p):
  ((x.iI 0 p).2.2=12/\Fz x.L.dir (λl=>oI l=oI (pre++[s])/\(fE l=fE (pre++[s])\/fE l=fE (pre++[s])++[p])/\((∀t∈pre,x.L.room<=t.size)-> ∀t∈l.dropLast,x.L.room<=t.size)) (x.iI 0 p).1.m)\/
  ((x.iI 0 p).2.2=0/\(x.iI 0 p).2.1=x.L.next/\ ∃oW s',Kept x pre s p (x.iI 0 p).1 oW s'/\fE (oW++[s'])=fE (pre++[s])++[p]/\
   ((oW=pre/\s'=s.plus p/\ ¬x.L.room<=s.size)\/(oW=pre++[s]/\s'=⟨x.L.next,[p],(di p).length⟩/\x.L.room<=s.size)))\/
  ((x.iI 0 p).2.2≠0/\(x.iI 0 p).2.2≠12/\(∃oW s',Kept x pre s p (x.iI 0 p).1 oW s'/\fE (oW++[s'])=fE (pre++[s]))/\(99999999<x.L.next\/(64<=x.m.fs.length/\x.L.room<=s.size)\/4194304<x.m.sz+(di p).length)):=by
 have nD:=h.next
 have eK:x.iI 0 p=if(x.append p).2.2≠0 then x.append p else((x.append p).1.sync.1,(x.append p).2.1,(x.append p).1.sync.2):=by
  unfold LD.iI;rw[if_neg sQ]
 have eA:x.append p=if 99999999<x.L.next then(x,0,1)else if x.room.2≠0 then(x.room.1,0,x.room.2)else if(x.room.1.lay p).2≠0 then((x.room.1.lay p).1,0,(x.room.1.lay p).2)else((x.room.1.lay p).1,x.L.next,0):=by
  unfold LD.append;rw[if_neg zQ]
 by_cases hn:99999999<x.L.next
 ·right;right;rw[if_pos hn] at eA;rw[eA,if_pos sQ] at eK;rw[eK];exact⟨by simp,by simp,⟨pre,s,⟨h,rfl,rfl,rfl⟩,rfl⟩,.inl hn⟩
 ·rw[if_neg hn] at eA;rcases h.aeh zQ with⟨a,b,c,d,e⟩|⟨a,b,c,d,e,f⟩|⟨a,oW,s',b,c,d,e,YV,f⟩
  ·left;rw[if_pos zQ] at eA;rw[eA,if_pos (by rw[a];simp)] at eK;rw[eK];exact⟨a,b.imp λl hl=>by grind⟩
  ·right;right;rw[if_pos zQ] at eA;rw[eA,if_pos (by rw[a];simp)] at eK;rw[eK];exact⟨by rw[a];simp,by rw[a];simp,⟨pre,s,⟨b,rfl,c,d⟩,rfl⟩,.inr (.inl ⟨e,f⟩)⟩
  ·rw[if_neg zQ] at eA;have GH:oI (oW++[s'])=oI (pre++[s]):=by
    rcases f with⟨rfl,rfl,_⟩|⟨rfl,rfl,_⟩
    ·rfl
    ·exact aef _ _ _
   have rr:fE (oW++[s'])=fE (pre++[s]):=by
    rcases f with⟨rfl,rfl,_⟩|⟨rfl,rfl,_⟩
    ·rfl
    ·rw[abF];simp
   have A2: ∀z:dN,(∀t∈pre,x.L.room<=t.size)-> ∀t∈(oW++[z]).dropLast,x.L.room<=t.size:=λz hq t ht=>by
    rw[jJ] at ht;rcases f with⟨rfl,_,_⟩|⟨rfl,_,f⟩
    ·grind
    ·rcases List.mem_append.1 ht with ht|ht
     ·grind
     ·rw[av] at ht;grind
   rcases b.lay hp hb zQ with⟨a1,b1,c1⟩|⟨a1,b1,c1⟩|⟨a1,b1,c1⟩
   ·left;rw[if_pos zQ] at eA;rw[eA,if_pos (by rw[a1];simp)] at eK;rw[eK];rw[d] at b1;refine⟨a1,b1.imp λl hl=>?_⟩;rcases hl with rfl|rfl
    ·exact⟨GH,.inl rr,A2 _⟩
    ·exact⟨(Ry oW s' (s'.plus p) rfl).trans GH,.inr (by rw[OY,rr]),A2 _⟩
   ·right;right;rw[if_pos zQ] at eA;rw[eA,if_pos (by rw[a1];simp)] at eK;rw[eK,b1];exact⟨by rw[a1];simp,by rw[a1];simp,⟨oW,s',⟨b,GH,d,e⟩,rr⟩,.inr (.inr zQ)⟩
   ·rw[if_neg zQ] at eA;rw[eA,if_neg sQ] at eK;rw[eK];have Fp:(x.room.1.lay p).1.L.dir=x.L.dir:=by rw[c1];exact d
    have rq:(x.room.1.lay p).1.L.room=x.L.room:=by rw[c1];exact e
    have XT:oI (oW++[s'.plus p])=oI (pre++[s]):=(Ry oW s' (s'.plus p) rfl).trans GH;have jI:fE (oW++[s'.plus p])=fE (pre++[s])++[p]:=by rw[OY,rr]
    rcases b1.sync with⟨a2,b2⟩|⟨a2,b2,c2,d2⟩
    ·left;rw[Fp] at b2;refine⟨a2,b2.imp λl hl=>?_⟩;rcases hl with rfl|rfl
     ·exact⟨GH,.inl rr,A2 _⟩
     ·exact⟨XT,.inr jI,A2 _⟩
    ·right;left;refine⟨a2,rfl,oW,s'.plus p,⟨b2,XT,c2.trans Fp,d2.trans rq⟩,jI,?_⟩;rcases f with⟨rfl,rfl,f⟩|⟨rfl,rfl,f⟩
     ·exact .inl ⟨rfl,rfl,f⟩
     ·exact .inr ⟨rfl,by simp[dN.plus],f⟩
section
variable {a : dN}
end
def LGr (L L':LM) (p:List Nat):Prop:=
 L'.dir=L.dir/\L'.room=L.room/\(L'.bC=L.bC\/L'.bC=L.bC++[⟨L.next,[],0⟩]\/L'.bC=L.bC.dropLast++[L.last.plus p]\/L'.bC=L.bC++[⟨L.next,[p],(di p).length⟩])
theorem amW (x:LD):x.sync.1.L.dir=x.L.dir/\x.sync.1.L.room=x.L.room/\x.sync.1.L.bC=x.L.bC:=by grind [LD.sync]
theorem amX (x:LD) (n:Nat):(x.iJ n).1.L.dir=x.L.dir/\(x.iJ n).1.L.room=x.L.room/\((x.iJ n).1.L.bC=x.L.bC\/(x.iJ n).1.L.bC=x.L.bC++[⟨n,[],0⟩]):=by grind [LD.iJ]
theorem amY (x:LD):x.room.1.L.dir=x.L.dir/\x.room.1.L.room=x.L.room/\(x.room.1.L.bC=x.L.bC\/x.room.1.L.bC=x.L.bC++[⟨x.L.next,[],0⟩]):=by
 obtain⟨a,b,c⟩:=amW x;unfold LD.room;split
 ·dsimp only;split
  ·grind
  ·obtain⟨d,e,f⟩:=amX x.sync.1 x.L.next
   grind
 grind
theorem aiy (x:LD) (p:List Nat):LGr x.L (x.append p).1.L p:=by
 obtain⟨a,b,c⟩:=amY x;have key:LGr x.L x.room.1.L p:=⟨a,b,c.imp id .inl⟩;have hq:LGr x.L (x.room.1.lay p).1.L p:=by
  unfold LD.lay;dsimp only;split
  ·refine⟨a,b,?_⟩
   show x.room.1.L.bC.dropLast++[⟨x.room.1.L.last.first,x.room.1.L.last.aY++[p],x.room.1.L.last.size+(di p).length⟩]=_\/x.room.1.L.bC.dropLast++[⟨x.room.1.L.last.first,x.room.1.L.last.aY++[p],x.room.1.L.last.size+(di p).length⟩]=_\/x.room.1.L.bC.dropLast++[⟨x.room.1.L.last.first,x.room.1.L.last.aY++[p],x.room.1.L.last.size+(di p).length⟩]=_\/x.room.1.L.bC.dropLast++[⟨x.room.1.L.last.first,x.room.1.L.last.aY++[p],x.room.1.L.last.size+(di p).length⟩]=_
   have hl:x.room.1.L.last=x.room.1.L.bC.getLast?.getD ⟨0,[],0⟩:=rfl;rcases c with c|c
   ·right;right;left;have:x.room.1.L.last=x.L.last:=by rw[hl,c];rfl
    rw[c,this]
   simp_all
  ·exact key
 unfold LD.append;split
 ·exact⟨rfl,rfl,.inl rfl⟩
 ·split
  ·exact⟨rfl,rfl,.inl rfl⟩
  grind
theorem oP.aei (h:oP x pre s): ∀t∈x.L.bC,t.first+t.aY.length<=100000000/\t.size<=4194304:=λt ht=>by
 rw[h.bC] at ht;have h1:=h.g.ok t ht;refine⟨h1.top.2,?_⟩;rw[h1.sz];rcases List.mem_append.1 ht with ht|ht
 ·exact ad (DM.CD (h.d.body t ht)) h.sz
 ·simp only[av] at ht;subst ht;have:=DM.CD h.d.last;rw[dT] at this;exact ad this h.sz
theorem oP.aej (h:oP x pre s):x.L.bC.length<=64:=by
 have h1:=h.d.ks.length_eq;rw[DM.wz,af,<-h.bC] at h1;have:=h.fl;omega
theorem oP.LV (h:oP x pre s):pG x.L:=
 ⟨by rw[h.bC];simp,h.d1,h.d2,λt ht=>by have:=h.aei t ht;omega,ad h.r2 dQ⟩
theorem LGr.LV {L':LM} (hg:LGr x.L L' p) (h:oP x pre s) (hp:p.length<=262144):pG L'/\L'.bC.length<=65:=by
 have hN:=h.aej;have hB:=h.aei;have iT:=qU p;have kV:x.L.last∈x.L.bC:=LM.yd (by rw[h.bC];simp);have zM:=hB _ kV;have nD:x.L.next<=100000000:=zM.1
 obtain⟨a,b,c⟩:=hg;have hL: ∀(l:List dN),L'.bC=l->l≠[]->l.length<=65->(∀t∈l,t.first+t.aY.length<=100000001/\t.size<=5000000)->pG L'/\L'.bC.length<=65:=λl e h1 h2 h3=>
  ⟨⟨by grind,by rw[a];exact h.d1,by rw[a];exact h.d2,λt ht=>by rw[e] at ht;have:=h3 t ht;omega,by rw[b];exact ad h.r2 dQ⟩,by grind⟩
 rcases c with c|c|c|c
 ·exact hL _ c (by rw[h.bC];simp) zQ λt ht=>by have:=hB t ht;omega
 ·refine hL _ c sQ oQ λt ht=>?_;rcases List.mem_append.1 ht with ht|ht
  ·have:=hB t ht;omega
  ·simp only[av] at ht;subst ht;simp;omega
 ·refine hL _ c sQ oQ λt ht=>?_;rcases List.mem_append.1 ht with ht|ht
  ·have:=hB t (List.dropLast_subset _ ht);omega
  ·simp only[av] at ht;subst ht;simp only[dN.plus,aa,List.length_singleton];omega
 ·refine hL _ c sQ oQ λt ht=>?_;rcases List.mem_append.1 ht with ht|ht
  ·have:=hB t ht;omega
  ·simp only[av] at ht;subst ht;simp;omega
abbrev FA:Value:=.iface 186 (.agg #[])
abbrev BN:List PanicEntry:=[{ v:=FA,recovered:=false }]
theorem Rec.yg (r:Rec):r.fF=0\/r.fF=2\/r.fF=4\/r.fF=7:=by
 have h:r.err=0\/r.err=4\/r.err=7:=by
  unfold Rec.err;split
  ·simp
  ·split<;>simp
 unfold Rec.fF;rcases h with h|h|h<;>rw[h]
 ·by_cases h:262144<(gd r).length<;>simp[h]
 ·simp
 ·simp
variable {r : Rec}
theorem acE (h1:r.reads=[]) (h2:r.writes=[]) (h3:r.parts=[]) (h4:r.xu=[]) (h5:r.state= .zero):r.at w X aR aR aR aR aR aR:=by
 unfold Rec.at;rw[h1,h2,h3,h4,h5];exact⟨Sl.nil _ _ _,Sl.nil _ _ _,Sl.nil _ _ _,Sl.nil _ _ _,fh.nil _ _ _,fh.nil _ _ _⟩
theorem ED (h1:r.reads=[]) (h2:r.writes=[]) (h5:r.state= .zero):r.small:=by
 refine⟨by simp[h1],by simp[h2],by simp[h1],by simp[h2],?_⟩;rw[h5];exact⟨by simp[State.zero,L3],by simp[State.zero,L4],by simp[State.zero,aek],by simp[State.zero,ael]⟩
def Hu (w:World) (Y:XS) (nb:Nat):Prop:= ∃x0 x1 x2 x3 x5 x6 x7 x8 x9 vm va,aI w Y nb [x0,x1,x2,x3,B true,x5,x6,x7,x8,x9,vm,va] nT
variable {nb : Nat}
def Hu.mv {A A':XS} (h:Hu w A nb) (m:Mv A w A' w'):Hu w' A' nb:=let⟨x0,x1,x2,x3,x5,x6,x7,x8,x9,vm,va,hr⟩:=h;⟨x0,x1,x2,x3,x5,x6,x7,x8,x9,vm,va,hr.mv m⟩
def dkR (db:Nat) (m:DM):pX:=⟨λw _ A=>Dk w A db m,λh _ m=>h.mv m⟩
def Rz (db:Nat) (m:DM):Nat->pX
 |3=>dkR db m
 |_=>RA
def U2 (nb db:Nat) (m:DM):Nat->pX
 |1=>⟨λw _ A=>Hu w A nb,λh _ m=>h.mv m⟩
 |3=>dkR db m
 |_=>RA
abbrev Ns (w:World) (own:Nat->Nat) (nb db:Nat) (m:DM):Prop:=Hs (U2 nb db m) w own
abbrev DQ (own:Nat->Nat) (nb db:Nat) (wa w':World) (P:DM->Prop):Prop:=NQ (U2 nb db) own wa w' λ_ m=>P m
def jE (n:bh) (r:Rec):LD×Nat×Nat:=LD.iI ⟨n.L,n.m⟩ r.fF.toNat (gd r)
abbrev Jc (n:bh) (r:Rec):bh:= { n with L:=(jE n r).1.L,m:=(jE n r).1.m }
def Nt (n:bh) (r:Rec) (m':DM):Prop:=(jE n r).2.2=12/\m'=(jE n r).1.m
def Lg.dk (h:Lg w F lb db L m):Dk w F db m:=let⟨_,_,_,_,_,_,h2,_,h4⟩:=h;h4.mono h2
def amZ (n:bh) (r:Rec) (vp:Value) (v:Value) (n':bh):Prop:= ∃bx BO v2,v=ptr bx 0/\bx ∉ n.cl/\n'= { n with c:= { n.c with cm:=BO },bl:=cI r.aH bx n.bl,cl:=n.cl++[bx],C:=λb'=>if b'=bx then⟨r,vp,v2,r.parts,false⟩else n.C b' }
abbrev YW (n:bh) (b:Nat) (d:yh) (BO:Value):bh:= { n with c:= { n.c with cm:=BO },cl:=n.cl++[b],C:=λb'=>if b'=b then d else n.C b' }
def L5 (n:bh) (b:Nat) (d:yh) (c:Nat):pX:=if c=tx b 4 then Kq b d 4 else if c=tx b 5 then Kq b d 5 else if c=tx b 6 then Kq b d 6 else dV n c
variable {w0 wa : World} {own aG bK : Nat -> Nat} {n' : bh} {QP : DM -> Prop} {args : Array Value} {f : FuncId} {sg : dN} {vd vh vp vr vw : Value} {d : yh}
section
variable {n : bh} {b : Nat} {F : Nat -> pX}
theorem _root_.Go.aJ.St.WY {Q:Value->World->(Nat->Nat)->bh->Prop} (s:St w0 bK w X own F) (h:FB P f args w X (gC own) (λv wa w'=>NQ dV own wa w' (Q v w')) (λch wa w'=>ch=BN/\DQ own nb db wa w' QP)) (hf:enters P f=true)
  (k: ∀v w' X' aG n',Sn w0 bK w' X' aG n'->Q v w' aG n'->Mv (bI own 4) w (bI aG 4) w'->N v w' X') (hR: ∀wb,Fr (gC bK) w0 wb->DQ bK nb db w0 wb QP->R (.panicked BN) wb):eC P R X w true f args N:=
 s.t.GP h hf (λ_ h=>h) (λv wa w' X' ⟨aG,n',e,h',q⟩ hle gu _ c=>k v w' X' aG n' (s.YX hle gu c e h').1 q (s.YX hle gu c e h').2)
 λch wa w' X' hq hle gu hT c wb pF=>by
  obtain⟨rfl,aG,m',e,hd,q⟩:=hq;have hx: ∀k,aG k≠0->X' k:=λk hk=>by
   by_cases Bz:k<wa.heap.size
   ·exact c.sub k (s.x k λe0=>hk ((e k Bz).1 e0))
   ·exact gu k ⟨by omega,hd.lt k hk⟩
  refine hR wb (hT.fr pF) ⟨aG,m',λk hk=>?_,hd.kp hx pF,q⟩;have h1:=s.e k hk;have h2:=e k (aw hk (ad s.t.s.kp.size hle))
  grind
def DQ.imp {P P':DM->Prop} (h:DQ own nb db w w' P) (hp: ∀m,P m->P' m):DQ own nb db w w' P':=let⟨a,b,c,d,e⟩:=h;⟨a,b,c,d,hp _ e⟩
def _root_.Go.aJ.St.GP {Q:Value->World->(Nat->Nat)->bh->Prop} {YY:DM->Prop} {Q0:Value->World->Prop} (s:St w0 bK w X own F) (h:FB P f args w X (gC own) (λv wa w'=>NQ dV own wa w' (Q v w')) (λch wa w'=>ch=BN/\DQ own nb db wa w' QP)) (hf:enters P f=true)
  (k: ∀v w' X' aG n',Sn w0 bK w' X' aG n'->Q v w' aG n'->Mv (bI own 4) w (bI aG 4) w'->N v w' X') (hp: ∀m',QP m'->YY m'):
  eC P (FC (gC bK) w0 Q0 λch w'=>ch=BN/\DQ bK nb db w0 w' YY) X w true f args N:=
 s.WY h hf k λwb hf hd=>.inr ⟨BN,rfl,hf,rfl,hd.imp hp⟩
theorem FE (h:jD w own n) (hX:rO own X) (gq:oP ⟨n.L,n.m⟩ pre sg) (dg:r.at w (bI own 4) vr vw vp vq vh vd) (ml:r.small) (Cb:(gd r).length<=2^33):
  FB pg 82 #[ptr n.nb 0,r.v vr vw vp vq vh vd] w X (gC own) (λv wa w'=>NQ dV own wa w' λ_ n'=>(jE n r).2.2≠12/\v=I (jE n r).2.2/\n'=Jc n r)
   (λch wa w'=>ch=BN/\DQ own n.nb n.db wa w' (Nt n r)):=by
 intro w0 hk;have s:=St.init h hX hk;replace dg:=dg.mv (zf hX hk);have h1:=dg.1.one;have h2:=dg.2.1.one;have h3:=dg.2.2.1.one;have h4:=dg.2.2.2.1.one;have h5:=dg.2.2.2.2.1.one;have h6:=dg.2.2.2.2.2.one;have hlk:pG (LD.append ⟨n.L,n.m⟩ (gd r)).1.L:=by
  by_cases hp:(gd r).length<=262144
  ·exact((aiy ⟨n.L,n.m⟩ _).LV gq hp).1
  ·have e:LD.append ⟨n.L,n.m⟩ (gd r)=(⟨n.L,n.m⟩,0,2):=by unfold LD.append;rw[if_pos zQ]
   rw[e];exact gq.LV
 have jT: ∀{n0 x:LD} (j:Nat),j=3-> ∀c,c≠j-> ∀w K A,(dV { n with L:=n0.L,m:=n0.m } c).p w K A->(dV { n with L:=x.L,m:=x.m } c).p w K A:=λ{n0 x} j hj=>by subst hj;exact nO
 refine L6.1 λ_=>?_;refine cA (D5 (dg.mv (Mv.sub (s.sub 4))) ml λ_=>Cb) kQ s.has ?_;rintro ve Ej w1 X1 hq qf nJ ay;have s1:=s.since ay;obtain⟨vb,rfl,ob,ze⟩: ∃vb,ve= .tuple #[vb,I r.fF]/\aJ.one vb=true/\(r.fF=0->Own w1 (made Ej w1) Ej.heap.size _ 1 vb ((gd r).map U1)):=by
  by_cases he:r.fF≠0
  ·rw[if_pos he] at hq;exact⟨_,hq,rfl,λe=>absurd e he⟩
  ·rw[if_neg he] at hq;obtain⟨vb,e,ho⟩:=hq;exact⟨vb,by rw[e,Classical.byContradiction he],ho.sl.one,λ_=>ho⟩
 refine aks (v:=vb) rfl (aks (v:=I r.fF) rfl ?_);refine gZ (Q:=λ(K:Value->World->XS->Prop)=> ∀w X aG (x:LD) (z:Nat),Sn w0 own w X aG { n with L:=x.L,m:=x.m } ->pG x.L->(jE n r).1=(if z≠0 then x else x.sync.1)->(jE n r).2.2=(if z≠0 then z else x.sync.2)->K (I z) w X) ?_ λK22 am0=>?_
 ·intro w2 X2 lQ x z s2 xP L7 zN;refine gZ (Q:=λ(K:Value->World->XS->Prop)=> ∀w X aG (x:LD) (z:Nat),Sn w0 own w X aG { n with L:=x.L,m:=x.m } ->(jE n r).1=x->(jE n r).2.2=z->K (I z) w X) ?_ λK35 am1=>?_
  ·intro w3 X3 nz x z s3 L7 zN;have hs:=s3.rf;by_cases yb:z=12
   ·repeat' first|refine aL ?_;intros|with_reducible apply cJ
    refine tr kQ rfl ?_;refine s3.st (o:=4) 1 (s3.get 1) (λc=>if c=1 then YZ n.nb (dr (Hm n.c n.Ek n.vm n.va) 4 [B true]) nT else dV { n with L:=x.L,m:=x.m } c) zQ kQ (Nat.le_of_ble_eq_true rfl) rfl (λ_ _ _ h=>h) (λc hc w K A h=>by rw[if_neg hc];exact h) λw4 X4 lR s4 m4=>?_;clear hs;have hs:=s4.rf;repeat' refine ao ?_;intros
    (with_reducible refine Tj ?_ ?_)
    ·kernel_rfl
    refine Tk s4.has λwa ou=>s4.t.jd ou ⟨rfl,lR,x.m,s4.e,?_,zN.trans yb,by rw[L7]⟩;have h:=s4.h.kp s4.x ou;exact h.to λc h0 h4 w K A h=>by
     by_cases e:c=1
     ·subst e;exact⟨_,_,_,_,_,_,_,_,_,_,_,h⟩
     ·rw[if_neg e] at h;rcases c with _|_|_|_|c<;>first|exact absurd rfl e|exact Lg.dk h|trivial
   ·repeat' first|refine aL ?_;intros|with_reducible apply cJ
    exact s3.yi λwa aK=>⟨by rw[zN];exact yb,by rw[zN],by unfold Jc;rw[L7]⟩
  have hs:=s2.rf;have hr:=s2.v.1;by_cases hz:z=0
  ·rw[if_neg zQ] at L7 zN;repeat' refine aL ?_;intros
   refine zq (I8 (s2.get 3) xP (s2.fxc 3)) kQ s2.has (s2.sub 3) λv zR w3 X3 ⟨hv,G3,hG3,XU⟩ qS mN _ c3=>?_;obtain⟨nz,s3,m3⟩:=s2.DY (F':=dV { n with L:=x.sync.1.L,m:=x.sync.1.m }) 3 c3 (λ_ e=>e) G3 (λk ah=>(hG3 k ah).imp id λe=>⟨mN k e,ad qS e.1⟩) (λK _=>XU) (jT (n0:=x) (x:=x.sync.1) 3 rfl);subst hv;exact am1 _ _ _ _ _ s3 L7 zN
  ·rw[if_pos hz] at L7 zN;repeat' refine aL ?_;intros
   exact am1 _ _ _ _ _ s2 L7 zN
 have hs:=s1.rf;have hr:=s1.v.1;have ek:jE n r=LD.iI ⟨n.L,n.m⟩ r.fF.toNat (gd r):=rfl;unfold LD.iI at ek;by_cases he:r.fF=0
 ·rw[he] at ek⊢;repeat' refine aL ?_;intros
  have ho:=ze he;refine zq (Y1 (s1.get 3) gq.LV (by have:=gq.aej;grind) (s1.fxc 3) ho.sl λk ah=>⟨nJ k ah,λ(e:own k=3)=>by have:=(s.nw (ad qf ah.1)).1;omega⟩) kQ s1.has (s1.sub 3) λv xQ w2 X2 ⟨hv,G2,hG2,xN⟩ lD kh _ c2=>?_;obtain⟨lQ,s2,m2⟩:=s1.DY (F':=dV { n with L:=(LD.append ⟨n.L,n.m⟩ (gd r)).1.L,m:=(LD.append ⟨n.L,n.m⟩ (gd r)).1.m }) 3 c2 (λ_ e=>e) G2 (λk ah=>(hG2 k ah).imp id λe=>⟨kh k e,ad lD e.1⟩) (λK _=>xN) (jT (n0:=⟨n.L,n.m⟩) 3 rfl);subst hv;repeat' refine ao ?_;intros
  refine am0 _ _ _ _ _ s2 hlk ?_ ?_
  ·rw[ek];dsimp only;rw[if_neg sQ];split<;>rfl
  ·rw[ek];dsimp only;rw[if_neg sQ];split<;>rfl
 ·repeat' refine aL ?_;intros
  have h0:r.fF=(r.fF.toNat:Int):=by rcases r.yg with e|e|e|e<;>rw[e]<;>rfl
  have h1:r.fF.toNat≠0:=by omega
  rw[h0];rw[if_pos h1] at ek;exact am0 _ _ _ ⟨n.L,n.m⟩ _ s1 gq.LV (by rw[ek,if_pos h1]) (by rw[ek,if_pos h1])
theorem am2 {b b':Nat} (hi:i<8) (hj:j<8) (h:tx b i=tx b' j):b=b'/\i=j:=by unfold tx at h;omega
theorem _root_.Go.aJ.St.arc (s:Sn w0 bK w X own n) (hb:own b=0/\w0.heap.size<=b) (hr:aI w X b (d.r.l aR aR d.vp aR aR aR++[d.v2,B d.ended]) cmT) (ho:Own w X w0.heap.size Ye 1 d.v2 (d.waits.map I1)) (hn: ∀g,cU d.v2 g->own g=0) (hp:Sl w (bI own 4) 1 d.vp (d.r.parts.map I1)):
  b ∉ n.cl/\ ∃aG,St w0 bK w X aG (L5 n b d)/\Mv (bI own 4) w (bI aG 4) w:=by
 have no:b ∉ n.cl:=λh=>by have:own b=tx b 4:=(s.h.BP h).1.1;exact iy.1 (this.symm.trans hb.1)
 have ne: ∀{i j:Nat},i<8->j<8->i≠j->tx b i≠tx b j:=λhi hj h e=>h (am2 hi hj e).2;obtain⟨ic,s1,m1,e1,e2⟩:=s.jT (F':=λc=>if c=tx b 5 then Kq b d 5 else dV n c) (j:=tx b 5) (N:=cU d.v2) (ee.nQ s.rf nX) (· =tx b 5) (λ_ h=>h.elim) iy.1.symm iy.2.symm (λk e=>⟨ho.2.2 k e,hn k e,(ho.ge e).1⟩) iy.1
  (λaG e1 e2 m c hc=>by subst hc;rw[if_pos rfl];exact xR (ho.low (aq _)) e2) λc hc K A _ h=>by rw[if_neg hc];exact h
 have lM:ic b=0:=(e1 b (GQ ho hr (by rfl))).trans hb.1;obtain⟨lQ,s2,m2,-,-⟩:=s1.jT (F':=L5 n b d) (j:=tx b 4) (N:=(· =b)) (ee.nQ s1.rf nX) (· =tx b 4) (λ_ h=>h.elim) iy.1.symm iy.2.symm (λk e=>by subst e;exact⟨hr.1,lM,hb.2⟩) iy.1
  (λaG _ e2 m c hc=>by subst hc;unfold L5;rw[if_pos rfl];exact⟨e2 b rfl,hr.2⟩) λc hc K A m h=>by
   unfold L5;rw[if_neg hc];by_cases h5:c=tx b 5
   ·rw[if_pos h5] at h⊢;exact h
   ·rw[if_neg h5] at h⊢;by_cases h6:c=tx b 6
    ·rw[if_pos h6];exact(hp.mv m1).mv m
    ·rw[if_neg h6];exact h
 exact⟨no,lQ,s2,m1.trans m2⟩
theorem Tl (h:c<16):L5 n b d c=dV n c:=by unfold L5 tx;rw[if_neg zQ,if_neg zQ,if_neg zQ]
theorem aiz (hn: ∀i,i<16->i≠1->i≠10-> ∀w K A,(Y2 n i).p w K A->(Y2 n' i).p w K A) (hs:n'.al=n.al/\n'.ex=n.ex/\n'.A=n.A/\n'.cl=n.cl++[b]/\n'.C=λb'=>if b'=b then d else n.C b'): ∀c,(c≠1/\c≠10)-> ∀w K A,(L5 n b d c).p w K A->(dV n' c).p w K A:=λc hc w K A h=>by
 obtain⟨q1,q2,q3,q4,q5⟩:=hs;have e: ∀b',n'.gx b'↔n.gx b':=λb'=>by unfold bh.gx;rw[q1,q2]
 have eC:n'.C b=d:=by rw[q5];exact if_pos rfl
 unfold L5 at h;by_cases h4:c=tx b 4
 ·subst h4;rw[if_pos rfl] at h;rw[wq _ _ _ dQ];exact λ_=>by rw[eC];exact h
 rw[if_neg h4] at h;by_cases h5:c=tx b 5
 ·subst h5;rw[if_pos rfl] at h;rw[wq _ _ _ dQ];exact λ_=>by rw[eC];exact h
 rw[if_neg h5] at h;by_cases h6:c=tx b 6
 ·subst h6;rw[if_pos rfl] at h;rw[wq _ _ _ dQ];exact λ_=>by rw[eC];exact h
 rw[if_neg h6] at h;refine Yj (λhi p=>hn c hi hc.1 hc.2 w K A p) (λb' i hi ec p=>?_) h;by_cases hb:b'=b
 ·subst hb;rcases i with _|_|_|_|_|_|_|_|i<;>first|exact absurd ec h4|exact absurd ec h5|exact absurd ec h6|(simp only[zT,DD,e,q3] at p⊢;exact p)
 ·have eC':n'.C b'=n.C b':=by rw[q5];exact if_neg hb
  have el:b'∈n'.cl↔b'∈n.cl:=by rw[q4];simp[hb]
  rcases i with _|_|_|_|_|_|_|_|i<;>(simp only[zT,DD,e,el,eC',q3] at p⊢;exact p)
theorem O2 (h:jD w own n) (hX:rO own X) (hp:Sl w (bI own 4) 1 vp (r.parts.map I1)) (wu:r.parts.length<=2^40) (pz:n.cl.length<=2^20):
  Ct pg 106 #[ptr n.nb 0,r.v aR aR vp aR aR aR] w X (gC own) λv wa w'=>NQ dV own wa w' λ_ n'=>amZ n r vp v n':=by
 intro w0 hk;have s:=St.init h hX hk;replace hp:=hp.mv (zf hX hk);have h3:=hp.one;obtain⟨e1,e2,e3,rfl⟩:=hp.form;refine NZ.1 λ_=>?_;refine cA (FF (hp.mono (s.sub 4)) wu) kQ s.has ?_;rintro v2 Ej w1 X1 q1 qf nJ UK;have ov2:=q1.sl.one;have L7:Own w1 X1 w0.heap.size _ 1 v2 _:=q1.up nJ qf;have s1:=s.since UK;obtain⟨g1,g2,g3,rfl⟩:=q1.sl.form;have hr:=s1.v.1;have o1:=s1.v.2.2.2.1;have hs:=s1.rf;repeat' first|refine ao ?_;intros|(refine OQ hs ?_;intro bx w X fY ay gn hs br)|(refine q1s hs ?_;intro _ _ _ w X hs ho)
 obtain⟨nb1,lQ,s2,m2⟩:=(s1.since gn).arc (b:=bx) (d:=⟨r,.slice e1 e2 e3,.slice g1 g2 g3,r.parts,false⟩) (s1.nw zQ) br ((L7.since gn).mono λ_ h=>h) (λg hg=>(s.nw (L7.ge hg).1).1) (hp.mv ((zf s.x UK.kp).trans (zf s1.x gn.kp)));replace s2:=s2.since hs;obtain⟨d,hd⟩: ∃d:yh,d=⟨r,.slice e1 e2 e3,.slice g1 g2 g3,r.parts,false⟩:=⟨_,rfl⟩;rw[<-hd] at s2;have q1:aI w (bI lQ 1) n.nb (Hm n.c n.Ek n.vm n.va) nT:=by have:=s2.get 1;rwa [Tl dQ] at this
 have zk:Own w (bI lQ 10) 0 pcT 1 n.c.cm (n.cl.map λb=>[ptr b 0]):=by have:=s2.get 10;rwa [Tl dQ] at this
 refine s2.ap1 (o:=8) 1 10 11 q1 zk ho.sl (λr jU u hu=>?_) oQ (λv'=>dV (YW n bx d v')) (λ_ _ _ _ h=>h) (λv' w' K A h=>?_) (λv' w' K A _ h=>by rwa [Tl dQ] at h) (λv' c hc w' K A h=>aiz (n:=n) (n':=YW n bx d v') (b:=bx) (d:=d) ?_ ⟨rfl,rfl,rfl,rfl,rfl⟩ c ⟨hc.1,hc.2.1⟩ w' K A h) λBO w3 X3 nz s3 m3=>?_
 ·rw[av] at jU;subst jU;rw[av] at hu;subst hu;rfl
 ·show Own w' A 0 pcT 1 v' ((n.cl++[bx]).map λb=>[ptr b 0])
  rw[az];exact h
 ·intro i hi h1 h10 w K A h;rcases i with _|_|_|_|_|_|_|_|_|_|_|_|_|i<;>first|exact h|exact absurd rfl h1|exact absurd rfl h10
 clear hs hr;have hs:=s3.rf;have hr:=s3.v.1;repeat' refine ao ?_;intros
 have hb6:=(s3.get 6:dL w3 (bI nz 6) nX n.c.bb (λk:bu=>k.v) zP n.bl).x.1;refine vK (kv:=λk:bu=>k.v) (k:=r.aH) (a:=bx) (et:=124) (s3.Ay 6:) Fe (show zP w3 nX (ptr bx 0) bx from rfl) (λ_ h=>h.elim) td kQ hs.has λw4 X4 c4 A6=>?_;obtain⟨lR,s4,m4⟩:=s3.DY (F':=dV { YW n bx d BO with bl:=cI r.aH bx n.bl }) 6 c4 (λk e=>by rw[show k=n.c.bb from e];exact hb6) (bI nz 6) (λ_ e=>.inl e) (λ_ _=>me A6 hb6) nO;clear hs hr;have hs:=s4.rf
 skip
 exact s4.fin λwa hk=>⟨bx,BO,_,rfl,nb1,by rw[hd]⟩
end
def jm (t:bu) (st:bX) (ps:List Int):Rec:=⟨9,t,st,.zero,false,0,0,[],[],ps,[],.zero⟩
theorem agi (l:List Int):(iW encI l).length<=10+10*l.length:=by
 have h: ∀l:List Int,(l.map encI).flatten.length<=10*l.length:=by
  intro l
  induction l with
  |nil=>simp
  |cons x l ih=>
   have:=fy x;simp only[aZ,cV,aa,aM];omega
 have h1:=fy (l.length:Int);have h2:=h l;unfold iW;rw[aa];omega
theorem WZ (t:bu) (st:bX) (ps:List Int):gd (jm t st ps)=encI 9++(nR t++(lE st++iW encI ps)):=by simp[gd,jm]
theorem agj (t:bu) (st:bX) (ps:List Int):(gd (jm t st ps)).length<=80+10*ps.length:=by
 have h1:=fy 9;have h2:=DE t;have h3:=vA st;have h4:=agi ps;rw[WZ];simp only[aa];omega
def qV (d:pD) (i:Nat) (m:cD) (iR:Value) (kM:List (List Value)):pD:= { d with x:= { d.x with mg:=d.x.mg.later m.aV },vw:=iR,rw:=kM,ws:=d.ws.take i++d.ws.drop (i+1) }
def W4 (n:bh) (t:bu) (d:pD) (r:Rec) (n':bh):Prop:=
 ((jE n r).2.2≠12/\(jE n r).2.2≠0/\ ∃jh,Told { Jc n r with al:=ji t n.al,va:=jh,ra:=n.ra++[El (jE n r).2.2 t .zero false aR] } (d.ids.map λid=>(Tm t id).qg (20+n.c.id)) n')\/
 ((jE n r).2.2=0/\ ∃bx BO vp v2 jh vs,aJ.one vs=true/\bx ∉ n.cl/\Told (YW { Jc n r with al:=ji t n.al,bl:=cI t bx n.bl,va:=jh,ra:=n.ra++[El 0 t d.x.mg false vs] } bx ⟨r,vp,v2,d.ids,false⟩ BO) (d.ids.map λid=>(Y3 r id).qg (20+n.c.id)) n')
def RC (n:bh) (t:bu) (b:Nat) (n':bh):Prop:=W4 n t (n.A b) (jm t (n.A b).x.mg (n.A b).ids) n'
def Nu (n:bh) (m:cD) (n':bh):Prop:=
 (∃fD,n'= { n with ck:=fD } /\NoW n m true)\/An n m true n'\/ ∃(b i:Nat) (y:cD) (fD:bX) (iR:Value) (kM:List (List Value)) (n1:bh),GF n m true b i y/\n1= { dH n b (qV (n.A b) i m iR kM)with ck:=fD } /\
  (((n.A b).ws.length≠1/\n'=n1)\/((n.A b).ws.length=1/\RC n1 m.aH b n'))
def aem (n:bh) (m:cD) (m':DM):Prop:= ∃(b i:Nat) (y:cD),GF n m true b i y/\(n.A b).ws.length=1/\Nt n (jm m.aH ((n.A b).x.mg.later m.aV) (n.A b).ids) m'
section
variable {n : bh} {b : Nat}
theorem Y4 {m:cD} {vk vs vc:Value} {N M:Nat} (h:jD w own n) (hX:rO own X) (gq:oP ⟨n.L,n.m⟩ pre sg) (hm:m.at w (bI own 4) vk vs vw vp vr vc vh vd) (fO:m.aV.may=true) (hk:tp N M n) (hN:N<=2^20):
  FB pg 56 #[ptr n.nb 0,m.v vk vs vw vp vr vc vh vd] w X (gC own) (λ_ wa w'=>NQ dV own wa w' λ_ n'=>Nu n m n') (λch wa w'=>ch=BN/\DQ own n.nb n.db wa w' (aem n m)):=by
 intro w0 iq;have s0:=St.init h hX iq;replace hm:=hm.mv (zf hX iq);have hi:1<=n.c.id/\n.c.id<=2:=by rw[hk.id];decide
 clear h hX iq;refine L8.1 λ_=>?_;refine s0.call (Ib s0.h s0.x hk.pre fO hm.ranges hi (hk.get (m:=m) zQ).1 (λb hb=>(hk.act _ b hb).pq) (hk.get zQ).2) kQ λv w1 X1 ic n1 s1 q1 m1=>?_;rcases q1 with⟨rfl,q1⟩|⟨b,i,y,fD,hw,rfl,rfl⟩
 ·have hs:=s1.rf;repeat' refine ao ?_;intros
  exact s1.yi λ_ _=>q1.elim .inl λe=>.inr (.inl e)
 have hb:n.gx b:=.inl ⟨_,hw.g⟩;have Ds:=hk.act _ b hw.g;have aqX:=Ds.ws;have adM:=Ds.ids;have nN:i<(n.A b).ws.length:=(List.getElem?_eq_some_iff.1 hw.gJ).1;obtain⟨ha,o1,o2,o3,o4⟩:=s1.va (b:=b) hb;have hs:=s1.rf;repeat' first|refine ao ?_;intros|(refine pH (O3 _ _) hs ?_;intro w X hs)
 have s2:=s1.since hs;refine s2.stN (o:=12) (tx b 0) (s2.h.act (b:=b) hb).1 (dV (dH { n with ck:=fD } b { n.A b with x:= { (n.A b).x with mg:=(n.A b).x.mg.later m.aV } })) zQ kQ sQ rfl rfl (λ_ _ _ h=>qT dQ h) IX (λw3 X3 nz s3 m3=>?_) iy.1 iy.2;clear hs ha s1 s2;obtain⟨ha,-⟩:=s3.vs (n:= { n with ck:=fD }) hb;have hs:=s3.rf;have nM:=s3.h.act (b:=b) hb;rw[jj] at nM;repeat' refine ao ?_;intros
 refine s3.aih (tx b 0) (tx b 1) (tx b 3) nM.1 nM.2.1 (OS (F:=X3) (nM.2.1.mono (s3.sub _ iy.1)) (λ_ h=>h) (by show i<(n.A b).rw.length;rw[show(n.A b).rw.length=_ from nM.2.2.2.1.1];exact nN) nM.2.2.2.1.Yq) (λv=>dV (dH { n with ck:=fD } b (qV (n.A b) i m v ((n.A b).rw.take i++(n.A b).rw.drop (i+1))))) (λ_ _ _ _ h=>qT dQ h) (λ_ _ _ _ h=>qT dQ h)
  (λv' w' K A mv p=>qT dQ (by rw[wq _ _ _ dQ] at p;have p:=p hb;rw[jj] at p;exact⟨(nM.2.2.2.1.cut i).mv mv,p.2⟩)) (λv'=>Q4) (λv4 w4 X4 lR s4 m4=>?_) (zd:=by unfold tx;omega)
 clear hs ha;have H4:(n.A b).rw.length=(n.A b).ws.length:=nM.2.2.2.1.1;have hl7:((n.A b).rw.take i++(n.A b).rw.drop (i+1)).length=(n.A b).ws.length-1:=by simp;omega
 clear nM s3;obtain⟨d,hd⟩: ∃d,d=qV (n.A b) i m v4 ((n.A b).rw.take i++(n.A b).rw.drop (i+1)):=⟨_,rfl⟩;rw[<-hd] at s4;have ed:d.ids=(n.A b).ids/\d.x= { (n.A b).x with mg:=(n.A b).x.mg.later m.aV } /\d.rw.length=(n.A b).ws.length-1/\d.vw=v4/\d.sn=(n.A b).sn:=by rw[hd];exact⟨rfl,rfl,hl7,rfl,rfl⟩
 obtain⟨n3,sJ⟩: ∃n3:bh,n3= { dH n b d with ck:=fD } :=⟨_,rfl⟩;replace s4:Sn w0 own w4 X4 lR n3:=by rw[sJ];exact s4
 have e3:n3.A b=d:=by rw[sJ];exact jj
 have f3:n3.nb=n.nb/\n3.db=n.db/\n3.L=n.L/\n3.m=n.m/\n3.c=n.c/\n3.cl=n.cl/\n3.ra=n.ra/\n3.rm=n.rm/\n3.ex=n.ex/\n3.al=n.al:=by rw[sJ];exact⟨rfl,rfl,rfl,rfl,rfl,rfl,rfl,rfl,rfl,rfl⟩
 have rM:n3.gx b:=by rw[sJ];exact hb
 have hs:=s4.rf;have nM:=s4.h.act rM;obtain⟨ha,o1,o2,o3,o4⟩:=s4.va rM;rw[e3] at nM ha o1 o2 o3 o4;have mX:Sl w4 X4 36 d.vw (d.rw.map id):=by rw[xl];exact nM.2.1.sl.mono (s4.sub _ iy.1)
 rw[ed.2.2.2.1] at ha mX o1;by_cases h1:(n.A b).ws.length=1;case neg=>
  repeat' refine aL ?_;intros
  exact s4.yi λ_ _=>.inr (.inr ⟨b,i,y,fD,_,_,n3,hw,by rw[sJ,hd],.inl ⟨h1,rfl⟩⟩)
 have aen:=nM.2.2.2.2.2 (by rw[hd];exact Ds.pq);obtain⟨q1,q2,q3,hqv⟩:=aen.form;rw[hqv] at aen;rw[show Ki d.x v4=Ki { d.x with vq:=.slice q1 q2 q3 } v4 by rw[<-hqv]] at ha;have ht6:d.x.aH=m.aH:=by
  have:=(show∀t b,getM t n3.al=some b->(n3.A b).x.aH=t from s4.h.gJ 12 dQ dQ) m.aH b (by rw[f3.2.2.2.2.2.2.2.2.2];exact hw.g)
  rwa [e3] at this
 have dg:(jm d.x.aH d.x.mg d.ids).at w4 (bI lR 4) aR aR (.slice q1 q2 q3) aR aR aR:=⟨Sl.nil _ _ _,Sl.nil _ _ _,aen,Sl.nil _ _ _,fh.nil _ _ _,fh.nil _ _ _⟩;have Bu:d.ids.length<=80:=by rw[ed.1];exact adM
 have Cb:(gd (jm d.x.aH d.x.mg d.ids)).length<=2^33:=by have:=agj d.x.aH d.x.mg d.ids;omega
 obtain⟨r,hr⟩: ∃r,r=jm d.x.aH d.x.mg d.ids:=⟨_,rfl⟩;have Ko:r=jm m.aH (n3.A b).x.mg (n3.A b).ids:=by rw[e3,hr,ht6]
 rw[<-f3.1,<-f3.2.1];repeat' refine aL ?_;intros
 refine s4.GP (YY:=aem n m) (FE (r:=jm d.x.aH d.x.mg d.ids) (vp:=.slice q1 q2 q3) s4.h s4.x (by rw[f3.2.2.1,f3.2.2.2.1];exact gq) dg (ED rfl rfl rfl) Cb) kQ (λv w5 X5 mO n5 s5 ⟨k1,k2,k3⟩ m5=>?_) λm' Us=>⟨b,i,y,hw,h1,?_⟩;case refine_2=>
  have e:jE n3 (jm d.x.aH d.x.mg d.ids)=jE n (jm m.aH ((n.A b).x.mg.later m.aV) (n.A b).ids):=by unfold jE;rw[f3.2.2.1,f3.2.2.2.1,ht6,ed.1,ed.2.1]
  unfold Nt at Us⊢;rw[e] at Us;exact Us
 rw[<-hr] at k1 k2 k3;obtain⟨z,hz⟩: ∃z,z=(jE n3 r).2.2:=⟨_,rfl⟩;rw[<-hz] at k1 k2;subst k2;have e5:n5.A b=d/\n5.nb=n3.nb/\n5.c=n.c/\n5.cl=n.cl/\n5.ra=[]/\n5.rm=[]/\n5.ex=n.ex:=by rw[k3];exact⟨e3,rfl,f3.2.2.2.2.1,f3.2.2.2.2.2.1,f3.2.2.2.2.2.2.1.trans hk.ra,f3.2.2.2.2.2.2.2.1.trans hk.rm,f3.2.2.2.2.2.2.2.2.1⟩
 have Cd:n5.gx b:=by rw[k3];exact rM
 clear hs ha nM dg;have hs:=s5.rf;obtain⟨ha,-⟩:=s5.va Cd;rw[e5.1] at ha;have RD:=aen.mv m5;rw[<-e5.2.1];have uu: ∀{n':bh},W4 n3 m.aH d r n'->Nu n m n':=λ{n'} h=>.inr (.inr ⟨b,i,y,fD,_,_,n3,hw,by rw[sJ,hd],.inr ⟨h1,by unfold RC;rw[<-Ko,e3];exact h⟩⟩);by_cases Ls:z=0;case neg=>
  repeat' refine aL ?_;intros
  refine s5.call (Ak (code:=z) s5.h s5.x Cd (by rw[e5.1,hd];exact Ds.pq) (by rw[e5.2.2.2.2.1];simp) (by rw[e5.2.2.1];exact hi) (by rw[e5.2.2.2.2.2.1,e5.1];simp;omega)) kQ λv w6 X6 zr n6 s6 ⟨jh,lZ,lr,q6,hl6⟩ _=>?_;have s7:=s6.to (H8 (e':=n.ex) λb' h'=>by rw[q6];show b'∈b::n5.ex;rw[e5.2.2.2.2.2.2];exact .tail _ h');exact s7.yi λ_ _=>uu (.inl ⟨by rw[<-hz];exact k1,by rw[<-hz];exact Ls,jh,lZ,lr,by
   rw[q6,e5.1,if_pos (show d.x.pre=true by rw[ed.2.1];exact hw.pre),ht6,e5.2.2.1,<-hz,k3,f3.2.2.2.2.1,f3.2.2.2.2.2.2.2.2.1],by rw[hl6,e5.1,if_pos (show d.x.pre=true by rw[ed.2.1];exact hw.pre)];simp[k3]⟩)
 have xp:=(s5.h.act Cd).2.2.1;rw[e5.1] at xp;repeat' refine aL ?_;intros
 refine cA (Bt ha (λ_ h=>h) (xp.sl.mono (s5.sub _ iy.1)) (by rw[ed.2.2.2.2];have:=Ds.sn;omega)) kQ hs.has ?_;rintro vr wa6 w6 X6 ⟨ys,_,BJ⟩ YN LU tY;have s6:=s5.since tY;replace RD:=RD.mv (tY.gW (s5.sub 4));have ovr:=BJ.sl.one;obtain⟨r1,r2,r3,rfl⟩:=BJ.sl.form;clear hs BJ tY ha xp s5;have hs:=s6.rf;repeat' refine ao ?_;intros
 refine s6.call (C7 (code:=0) (t:=.zero) (st:=d.x.mg) (on:=false) (vs:=.slice r1 r2 r3) s6.h s6.x Cd ovr (by rw[e5.2.2.2.2.1];simp)) kQ λv w7 X7 lj n7 s7 ⟨jh,q7⟩ m7=>?_;replace RD:=RD.mv m7;rw[show n5.nb=n7.nb by rw[q7]];clear hs;repeat' refine ao ?_;intros
 refine s7.call (O2 (r:=jm d.x.aH d.x.mg d.ids) (vp:=.slice q1 q2 q3) s7.h s7.x RD (by show d.ids.length<=_;omega) (by rw[q7];show n5.cl.length<=_;rw[e5.2.2.2.1];have:=hk.cl;have:=hk.mM;omega)) kQ λv w8 X8 S9 n8 s8 ⟨bx,BO,v2,hv,fY,q8⟩ m8=>?_;subst hv;rw[<-hr] at q8;rw[show n7.nb=n8.nb by rw[q8]];have eC:n8.C bx=⟨r,.slice q1 q2 q3,v2,r.parts,false⟩:=by rw[q8];exact if_pos rfl
 have erp:r.parts=d.ids:=by rw[hr];rfl
 refine s8.call (Im (b:=bx) s8.h s8.x (by rw[q8];simp) (by rw[q8,q7];show 1<=n5.c.id/\n5.c.id<=2;rw[e5.2.2.1];exact hi) (by rw[eC,q8,q7];show n5.rm.length+r.parts.length<=_;rw[e5.2.2.2.2.2.1,erp];simp;omega)) kQ λv w9 X9 pC n9 s9 ⟨lZ,lr,q9,hl9⟩ _=>?_;have RE:=s9.to (H8 (e':=n.ex) λb' h'=>by rw[q9,q8,q7];show b'∈b::n5.ex;rw[e5.2.2.2.2.2.2];exact .tail _ h')
 skip
 exact RE.yi λ_ _=>uu (.inr ⟨by rw[<-hz];exact Ls,bx,BO,.slice q1 q2 q3,v2,jh,.slice r1 r2 r3,ovr,by rw[q7] at fY;show bx ∉ n3.cl;rw[k3] at fY;exact fY,lZ,lr,by
  rw[q9,eC,q8,q7,e5.1,ht6,show r.aH=m.aH by rw[hr];exact ht6,erp,k3,f3.2.2.2.2.2.2.2.2.1],by rw[hl9,eC,q8,q7,k3];simp[YW,erp]⟩)
end
end Go.Proofs.YtgfijddlkhkopaaGreat