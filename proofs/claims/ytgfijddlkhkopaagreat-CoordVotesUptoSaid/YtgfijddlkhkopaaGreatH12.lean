/- Part 12 of the proof. -/
import Derived.Test.YtgfijddlkhkopaaGreatProg
import Derived.Recover
import Derived.KernelRfl
import Derived.Tactics
import Derived.Shelf.Abstract
import Derived.Test.YtgfijddlkhkopaaGreatH11
set_option linter.all false
open List renaming mem_singleton → ax, length_map → af, length_append → aa, length_drop → cj, mem_of_getElem? → av, map_append → aC, append_nil → fM, append_assoc → ao, drop_drop → iu, map_cons → bh, length_take → aD, mem_of_mem_drop → di, getElem?_take_of_lt → fU, map_drop → qQ, drop_left' → ka, map_take → ui, getElem?_eq_getElem → aS, map_map → cd, map_id → xj, mem_cons_of_mem → bG, length_cons → aJ, getElem?_map → cN, map_congr_left → eB, cons_append → j8, nil_append → bp, take_of_length_le → az, dropLast_concat → jL, length → bB, take_left' → im, flatten_cons → dd, mem_of_mem_take → dK, getElem?_drop → ee, cons_lt_cons_iff → xk, append_left_lt → yW, pairwise_map → AB, extract_eq_take_drop → tX, mem_append_left → bq
open Nat renaming le_refl → au, le_trans → ad, zero_le → ak, pow_succ → se, pow_le_pow_right → sh, mul_one → Be, min_eq_left → kJ, lt_of_lt_of_le → aw, mod_eq_of_lt → fz, lt_of_not_le → Bf, min_le_right → Bg
open UInt8 renaming ofNat → ot, toNat_ofNat' → yX
open BitVec renaming ofInt → aF, ofInt_natCast → xW, toNat_ofNat → iL
open Option.some renaming inj → cA, injEq → aj
open Go.Instr renaming sliceAt → bS, alloc → gp
open Bool renaming false_ne_true → pI
open Option renaming isSome_some → tN, map_some → aZ
open ByteArray renaming size_extract → qy, ext → D1, data_extract → wz
open Array renaming replicate → dh, toList_extract → xX
namespace Go.Proofs.YtgfijddlkhkopaaGreat
open Go.Proofs.Tryz renaming prog → pg
open Go.aK
set_option maxRecDepth 100000
set_option maxHeartbeats 4000000
theorem aaW:Idle pg 132:=by
 refine⟨by kernel_rfl,λgI w=>?_⟩;refine callsD_of_wpS Tryz.func132 rfl λc₀ cs hu=>?_;rw[Tryz.ntmps132];have gh:12<=(gI++dh (12-gI.size) undef).size:=by simp;omega
 generalize gI++dh (12-gI.size) undef=tm at gh;have h2:2<tm.size:=by omega
 have h5:5<tm.size:=by omega
 have h7:7<tm.size:=by omega
 apply wpS_seq;apply wpS_region;simp[wpOpsS,go_sem,recoverD,hu,Exit.thenS];refine wpS_of_wp (wp_block ?_);apply wp_seq;apply wp_region;simp[wpOps,go_sem,Exit.then,h2,h5,h7];refine .inl (wp_cond_true ?_ ?_)
 ·simp[Act.eval,h2,h5,h7]
 apply wp_region;simp[wpOps,go_sem,Exit.then,Exit.inBlock,h2,h5,h7];refine .inl ?_;cases c₀;simp_all [bodyPostS,results,Tryz.results132]
set_option maxRecDepth 100000
set_option maxHeartbeats 1000000
attribute [local irreducible] un jn jh ji ld1 jt st1 nW mP pN sR qj JG ET gT rY aY nU nV eW eV eU eC eF gE nB fin jl bC dF vS N9 JH JI HP JJ JK Oa Ob JL Oc Gi Gj JM JN JO Od Oe JP
variable {bs : List Nat} {X : XS} {w : World}
theorem XB {a b:Value} (ha:Sl w X 1 a (bs.map U1)) (hb:Sl w X 1 b (bs.map U1)) (cu:bs≠[]):Ct pg 137 #[a,b] w X nX λv _ _=>v=B true:=by
 intro w0 hk;replace ha:=ha.mv hk.cE;replace hb:=hb.mv hk.cE;have ap7:bs.map U1≠[]:=λe=>cu (by simpa using e);have key: ∀{w X a},Sl w X 1 a (bs.map U1)-> ∃g o cap,a= .slice (some ⟨g,o,none⟩) bs.length cap/\Cells w X g o (bs.map λx:Nat=>Value.int .u8 x):=λh=>by
  obtain⟨_,_,base,cap,rfl,hc,_⟩:=h;obtain⟨g,o,rfl,jS⟩:=hc ap7;rw[afv] at jS;exact⟨g,o,cap,by grind,jS⟩
 obtain⟨g1,o1,c1,rfl,Gq⟩:=key ha;obtain⟨g2,o2,c2,rfl,qJ⟩:=key hb;refine Sx.1 λhs=>?_;refine Sy (e:=5) rfl Gq kQ kQ kQ hs.has λw1 X1 aB=>?_;replace hs:=hs.trans aB;refine Sy (e:=5) rfl (qJ.mv aB.mv) kQ kQ kQ hs.has λw2 X2 bH=>?_;replace hs:=hs.trans bH;repeat' first|refine aq ?_;intros|refine dg ?_ ?_<;>intros
 ·exact cH hs λwa aL=>rfl
 ·exact absurd rfl zQ
theorem adk:Tryz.f79.results= #[.cell 2 73,.cell 3 37]:=by kernel_rfl
variable {e : Int} {cs : List Value} {eb xb : Nat}
theorem Lk {tmps:Array Value} (h1:tmps[2]? =some (ptr xb 0)) (h2:tmps[3]? =some (ptr eb 0)) (hx:aH w X xb cs 73) (hl:cs.length=29) (he:aH w X eb [I e] 37):
  (results Tryz.f79 tmps).run pg w= .ok (.tuple #[.agg cs.toArray,I e]) w:=by
 have l1:(loadVar 73 ⟨xb,0,none⟩).run pg w= .ok (.agg cs.toArray) w:=by
  have hq:(match pg.underlying 73 with|some (.struct _)=>true|_=>false)=true:=by kernel_rfl
  split at hq
  ·rename_i fs hu;refine run_loadVar_row w xb _ _ cs.toArray (0,0) _ hx.2 hu rfl ?_;rw[List.size_toArray,hl];kernel_rfl
  ·cases hq
 have l2:(loadVar 37 ⟨eb,0,none⟩).run pg w= .ok (I e) w:=by
  have hc:w.cell? ⟨eb,0,none⟩=some (I e):=by unfold World.cell?;rw[he.2];rfl
  have WQ:(isAgg 37).run pg w= .ok false w:=run_isAgg_plain (d:=.int .i64) kQ rfl w;simp[loadVar,WQ,run_load,hc]
 unfold results;rw[adk];simp[h1,h2,asAddr,l1,l2]
variable {R : Ending -> World -> Prop}
theorem Vl (hx:aH w X xb cs 73) (hl:cs.length=29) (he:aH w X eb [I e] 37) (hR:R (.returned (.tuple #[.agg cs.toArray,I e])) w):
  HY pg Tryz.f79 R [ptr xb 0,ptr eb 0,.func (.func 132) #[] #[ptr xb 0,ptr eb 0]] .returning w:=by
 refine⟨[ptr xb 0,ptr eb 0],132,#[ptr xb 0,ptr eb 0],rfl,by kernel_rfl,?_⟩;refine(aaW.2 _ w).mono ?_;rintro e' u' w' ⟨⟨x,rfl⟩,rfl,rfl⟩;refine⟨x,_,rfl,rfl,λtmps ht=>Lk (ht 0 2 ?_) (ht 1 3 ?_) hx hl he,hR⟩
 ·rfl
 rfl
variable {N : Value -> World -> XS -> Prop} {t : TypeId} {P : Program}
theorem ahO {m:Bool} (hX: ∀k,X k->k<w.heap.size) (hz:(P.info? t).bind (·.zero)=some (I 0))
  (n: ∀b w' X',w.heap.size<=b->ai X w X' w'->aH w' X' b [I 0] t->N (ptr b 0) w' X'):eV P R X w m (gp t true (.tuple #[])) N:=by
 unfold eV eW;intro wa hk;unfold jV;have XC: ∀w,(zeroValue t).run P w= .ok (I 0) w:=by
  intro w;cases hi:P.info? t with
  |none=>grind
  |some inf=>
   have tg:inf.zero=some (I 0):=by simpa [hi] using hz
   simp[zeroValue,typeInfo,hi,tg]
 have hr:(gp t true (.tuple #[])).run P wa= .ok (ptr wa.heap.size 0) (wa.alloc (.cells #[I 0] t)):=by simp[gp,XC,newVar,newRow,Value.cells]
 simp only[vS,Sem.run_bind,hr,Result.andThen_ok,Sem.run_pure];have hx:Ext wa (wa.alloc (.cells #[I 0] t)):=Ext.alloc _ _;exact⟨Step.fc hx,n _ _ _ hk.size (ai.fc hX hk hx) ⟨.inr ⟨au _,by simp⟩,by simpa using heap_alloc_new wa _⟩⟩
variable {z : Int} {a c k : Nat}
section
variable {N : Value -> Prop}
theorem XD (hz:z=k) (hk:k<=24) (hc:c<256) (h:N (.int .u32 ((c*2^k:Nat):Int))):aY P X w (binOp .shl t (.int .u32 (IntKind.u32.wrap (c:Int))) (.int .u64 z)) N:=
 Sh zQ (by
  have h1:min z.toNat IntKind.u32.bits=k:=by
   show min z.toNat 32=k
   omega
  have h2:c*2^k<4294967296:=by
   have h3:2^k<=2^24:=sh dQ hk;have h4:c*2^k<=255*2^24:=Nat.mul_le_mul zQ h3;omega
  have e:IntKind.u32.wrap (IntKind.u32.wrap (c:Int)*2^min z.toNat IntKind.u32.bits)=((c*2^k:Nat):Int):=by
   rw[h1,wrap32,wrap32,show(c:Int) % 4294967296=c by omega];have h5:(c:Int)*2^k=((c*2^k:Nat):Int):=by simp
   rw[h5];omega
  rw[e];exact h)
theorem adl (hk:k<=24) (ha:a<2^k) (hc:c<256) (h:N (.int .u32 ((a+c*2^k:Nat):Int))):aY P X w (binOp .or t (.int .u32 (a:Int)) (.int .u32 ((c*2^k:Nat):Int))) N:=
 QK (by
  have h3:2^k<=2^24:=sh dQ hk;have h4:c*2^k<=255*2^24:=Nat.mul_le_mul zQ h3;have e:IntKind.u32.wrap (aF IntKind.u32.bits (a:Int)|||aF IntKind.u32.bits ((c*2^k:Nat):Int)).toNat=((a+c*2^k:Nat):Int):=by
   rw[wrap32];have h1:(aF 32 (a:Int))=BitVec.ofNat 32 a:=by rw[xW]
   have h2:(aF 32 ((c*2^k:Nat):Int))=BitVec.ofNat 32 (c*2^k):=by rw[xW]
   show((aF 32 (a:Int)|||aF 32 ((c*2^k:Nat):Int)).toNat:Int) % 4294967296=_
   rw[h1,h2,BitVec.toNat_or,iL,iL,fz (by omega:a<2^32),fz (by omega:c*2^k<2^32),afs ha];omega
  rw[e];exact h)
end
def abX: ∃g:List Nat->Nat,∀l,g l=l[0]?.getD 0+l[1]?.getD 0*2^8+l[2]?.getD 0*2^16+l[3]?.getD 0*2^24:=⟨_,λ_=>rfl⟩
noncomputable def iX:List Nat->Nat:=Classical.choose abX
theorem HZ (l:List Nat):iX l=l[0]?.getD 0+l[1]?.getD 0*2^8+l[2]?.getD 0*2^16+l[3]?.getD 0*2^24:=Classical.choose_spec abX l
theorem IL (n:Nat) (h:n<4294967296) (l:List Nat):iX (uD n++l)=n:=by
 rw[HZ];unfold uD;simp;omega
variable {l : List Nat}
theorem Hc {vb:Value} (h:Sl w X 1 vb (l.map U1)) (h4:4<=l.length) (cI: ∀b∈l,b<256):Ct pg 253 #[vb] w X nX λv wa w'=>v= .int .u32 (iX l):=by
 intro w0 hk;replace h:=h.mv hk.cE;have hlen:=h.gV;obtain⟨b0,b1,b2,b3,r,rfl⟩: ∃b0 b1 b2 b3 r,l=b0::b1::b2::b3::r:=by
  match l,h4 with
  |b0::b1::b2::b3::r,_=>exact⟨_,_,_,_,_,rfl⟩
 have x0:(b0::b1::b2::b3::r)[0]? =some b0:=rfl;have x1:(b0::b1::b2::b3::r)[1]? =some b1:=rfl;have x2:(b0::b1::b2::b3::r)[2]? =some b2:=rfl;have x3:(b0::b1::b2::b3::r)[3]? =some b3:=rfl;have y0:=cI b0 sQ;have y1:=cI b1 sQ;have y2:=cI b2 sQ;have y3:=cI b3 sQ;refine XE.1 λhs=>?_;have w8:IntKind.u32.wrap (b0:Int)=b0:=by rw[wrap32];omega
 repeat' first|refine aq ?_;intros|(with_reducible refine XD (k:=8) rfl zQ y1 ?_)
 rw[w8];refine adl (k:=8) zQ zQ y1 ?_;repeat' first|refine aq ?_;intros|(with_reducible refine XD (k:=16) rfl zQ y2 ?_)
 refine adl (k:=16) zQ zQ y2 ?_;repeat' first|refine aq ?_;intros|(with_reducible refine XD (k:=24) rfl zQ y3 ?_)
 refine adl (k:=24) zQ zQ y3 ?_
 skip
 exact cH hs λwa aL=>by rw[HZ];rfl
noncomputable def mq (b:List Nat):Option (List Nat):=
 if b.length<12\/262144<iX b\/iX (b.drop 4)≠Dd (b.take 4)\/b.length-12<iX b then none
 else if iX (b.drop (8+iX b))≠Dd ((b.drop 8).take (iX b))then none
 else some ((b.drop 8).take (iX b))
variable {b p : List Nat}
theorem QM (h:mq b=some p):p.length+12<=b.length:=by
 unfold mq at h;split at h
 ·cases h
 ·rename_i h1;simp only[not_or,Nat.not_lt] at h1;split at h
  ·cases h
  grind
theorem aaX (h: ¬(b.length<12\/262144<iX b\/iX (b.drop 4)≠Dd (b.take 4)\/b.length-12<iX b)) (h2:iX (b.drop (8+iX b))=Dd ((b.drop 8).take (iX b))):mq b=some ((b.drop 8).take (iX b)):=by
 unfold mq
 grind
theorem xY (h:b.length<12\/262144<iX b\/iX (b.drop 4)≠Dd (b.take 4)\/b.length-12<iX b):mq b=none:=by
 unfold mq
 grind
theorem adm (h2:iX (b.drop (8+iX b))≠Dd ((b.drop 8).take (iX b))):mq b=none:=by
 unfold mq
 grind
noncomputable def jo (b:List Nat):List (List Nat)×Nat:=
 match h:mq b with
 |none=>([],0)
 |some p=>let r:=jo (b.drop (p.length+12));(p::r.1,p.length+12+r.2)
termination_by b.length
decreasing_by
 have:=QM h
 grind
theorem afy (hp:p.length<=262144):mq (dr p++l)=some p:=by
 have e1:iX (dr p++l)=p.length:=by
  unfold dr;simp only[ao];exact IL _ zQ _
 have e2:(dr p++l).drop 4=uD (Dd (uD p.length))++(p++(uD (Dd p)++l)):=by
  unfold dr;simp only[ao];exact ka (M5 _)
 have e3:(dr p++l).take 4=uD p.length:=by
  unfold dr;simp only[ao];exact im (M5 _)
 have e4:(dr p++l).drop 8=p++(uD (Dd p)++l):=by
  rw[show 8=4+4 from rfl,<-iu,e2];exact ka (M5 _)
 have hlen:(dr p++l).length=p.length+12+l.length:=by rw[aa,ru]
 unfold mq;rw[e1,e2,e3,hlen,IL _ (afz _),if_neg oQ,<-iu,e4,List.drop_left,IL _ (afz _),List.take_left,if_neg sQ]
theorem adn (hp:p.length<=262144):jo (dr p++l)=(p::(jo l).1,p.length+12+(jo l).2):=by
 have h:=afy (l:=l) hp;have hd:(dr p++l).drop (p.length+12)=l:=ka (ru p);rw[jo]
 grind
theorem Ll: ∀(ps:List (List Nat)) (l:List Nat),(∀p∈ps,p.length<=262144)->jo ((ps.map dr).flatten++l)=(ps++(jo l).1,(ps.map dr).flatten.length+(jo l).2)
 |[],l,_=>by simp
 |p::ps,l,h=>by
  rw[bh,dd,ao,adn (h p sQ),Ll ps l λq hq=>h q (bG _ hq),aa,ru]
  grind
theorem Eh (h:mq l=none):jo l=([],0):=by grind [jo]
theorem aaY (h:l.length<12):jo l=([],0):=Eh (by unfold mq;grind)
variable {rows : List (List Value)} {i j : Nat} {v : Value}
theorem Uc {z':Int} {N:Value->Prop} (h:Sl w X 1 v rows) (hz:z=i) (tg:z'=j) (wq:i<=j) (hj:j<=rows.length) (ht:P.underlying t=some (.slice (P.elem t))) (hs:(P.info? (P.elem t)).map (·.size)=some 1)
  (n: ∀v',Sl w X 1 v' ((rows.drop i).take (j-i))->N v'):aY P X w (bS t v (some (.int .i64 z)) (some (.int .i64 z')) none) N:=by
 subst hz;subst tg;obtain⟨h1,h2,base,cap,rfl,hc,hb,hlc,iq⟩:=h;have hq: ∃inf,P.info? (P.elem t)=some inf/\inf.size=1:=by
  cases hq:P.info? (P.elem t)with
  |none=>simp[hq] at hs
  |some inf=>exact⟨inf,rfl,by simpa [hq] using hs⟩
 obtain⟨inf,hq,gh⟩:=hq;have hll:((rows.drop i).take (j-i)).length=j-i:=by rw[aD,cj];omega
 have oN: ∀wa:World,(bS t (.slice base rows.length cap) (some (.int .i64 (i:Int))) (some (.int .i64 (j:Int))) none).run P wa= .ok (sliced base i j cap 1) wa:=λwa=>by
  rw[run_sliceAt_slice wa t _ _ _ _ ht,run_slice_lh wa t _ _ cap ht .i64 .i64 i j zQ zQ zQ];simp[sizeOf,typeInfo,hq,gh]
 refine bK oN (n _ ?_);refine⟨λr hr=>h1 r (di (dK hr)),by omega,_,cap-i,by unfold sliced;rw[hll],λcu=>?_,λxM=>?_,by omega,by omega⟩
 ·have lU:i<j:=by
   refine Bf λhle=>cu ?_;have:j-i=0:=by omega
   rw[this];simp
  obtain⟨b,o,rfl,jS⟩:=hc (by intro e;rw[e] at hj;simp at hj;omega);refine⟨b,o+i,?_,?_⟩
  ·rw[if_neg zQ];simp only[aZ,aj,Be];unfold Addr.add;split
   ·rename_i h0;rw[h0];rfl
   ·rfl
  ·have hr: ∀r∈rows.drop i,r.length=1:=λr hr=>h1 r (di hr);rw[aK.mf (j-i) hr,aK.C9 i h1,Be,Be];obtain⟨hx,c,ty,fr,dO,BU⟩:=jS;refine⟨hx,c,ty,fr,dO,λq u hu=>?_⟩;have hq:=(List.getElem?_eq_some_iff.1 hu).1;rw[aD] at hq;rw[fU zQ,ee] at hu;have:=BU _ _ hu
   rwa [<-Nat.add_assoc] at this
 ·split at xM
  ·have:=hb xM;omega
  ·have:base=none:=by simpa using xM
   have:=hb this;omega
theorem Pc {N:Value->Prop} (h:Sl w X k v rows) (hz:z=i) (hi:i<=rows.length) (ht:P.underlying t=some (.slice (P.elem t))) (hs:(P.info? (P.elem t)).map (·.size)=some k)
  (n: ∀v',Sl w X k v' (rows.drop i)->N v'):aY P X w (bS t v (some (.int .i64 z)) none none) N:=by
 subst hz;obtain⟨h1,h2,base,cap,rfl,hc,hb,hlc,iq⟩:=h;have hq: ∃inf,P.info? (P.elem t)=some inf/\inf.size=k:=by
  cases hq:P.info? (P.elem t)with
  |none=>simp[hq] at hs
  |some inf=>exact⟨inf,rfl,by simpa [hq] using hs⟩
 obtain⟨inf,hq,gh⟩:=hq;have oN: ∀wa:World,(bS t (.slice base rows.length cap) (some (.int .i64 (i:Int))) none none).run P wa= .ok (sliced base i rows.length cap k) wa:=λwa=>by
  rw[run_sliceAt_slice wa t _ _ _ _ ht,run_slice_l wa t _ _ cap ht .i64 i zQ zQ];simp[sizeOf,typeInfo,hq,gh]
 refine bK oN (n _ ?_);refine⟨λr hr=>h1 r (di hr),by rw[cj];omega,_,cap-i,by unfold sliced;rw[cj],λcu=>?_,λxM=>?_,by rw[cj];omega,by omega⟩
 ·have lU:i<rows.length:=by
   refine Bf λhle=>cu (List.drop_of_length_le hle)
  obtain⟨b,o,rfl,jS⟩:=hc (by intro e;rw[e] at lU;simp at lU);refine⟨b,o+i*k,?_,?_⟩
  ·rw[if_neg zQ];simp only[aZ,aj];unfold Addr.add;split
   ·rename_i h0;rw[h0];rfl
   ·rfl
  ·rw[aK.C9 i h1];obtain⟨hx,c,ty,fr,dO,BU⟩:=jS;exact⟨hx,c,ty,fr,dO,λj v hj=>by rw[ee] at hj;have:=BU _ _ hj;rwa [<-Nat.add_assoc] at this⟩
 ·split at xM
  ·have:=hb xM;omega
  ·have:base=none:=by simpa using xM
   have:=hb this;omega
theorem aki (h: ∀b∈l,b<256):iX l<4294967296:=by
 have g: ∀i:Nat,l[i]?.getD 0<256:=λi=>by
  cases hq:l[i]? with
  |none=>simp
  |some x=>simpa using h x (av hq)
 have:=g 0;have:=g 1;have:=g 2;have:=g 3;rw[HZ];omega
theorem alV (l:List Nat):U4 (Lm l)= .int .u32 ((Dd l:Nat):Int):=by rw[QN]
theorem QO {q:List Nat} (h:mq b=some q):jo b=(q::(jo (b.drop (q.length+12))).1,q.length+12+(jo (b.drop (q.length+12))).2):=by
 rw[jo];split
 ·rename_i h2;rw[h] at h2;cases h2
 ·rename_i q' h2;rw[h] at h2;cases h2;rfl
theorem XF {v0:Value} (h:Sl w X 1 v0 (bs.map U1)) (hb:bs.length<=2^30) (cI: ∀b∈bs,b<256):
  Ct pg 180 #[v0] w X nX λv wa w'=> ∃va,∃rs:List (Value×List Nat),v= .tuple #[va,I ((jo bs).2:Nat)]/\rs.map Prod.snd=(jo bs).1/\Own w' (made wa w') wa.heap.size 151 1 va (rs.map λr=>[r.1])/\
   ∀r∈rs,Own w' (made wa w') wa.heap.size 5 1 r.1 (r.2.map U1):=by
 intro w0 hk;replace h:=h.mv hk.cE;obtain⟨lb,ln,lc,rfl⟩:=h.form;refine Vm.1 λhs=>?_;refine ib (Q:=λK=> ∀va w X,∀rs:List (Value×List Nat),ai (bP w0) w0 X w->rs.map Prod.snd=(jo bs).1->Own w X w0.heap.size 151 1 va (rs.map λr=>[r.1])->(∀r∈rs,Own w X w0.heap.size 5 1 r.1 (r.2.map U1))->K va (I ((jo bs).2:Nat)) w X) ?_ λK hK=>?_
 ·intro va w1 X1 rs aB he ho hr;exact cH aB λwa aL=>⟨va,rs,rfl,he,(ho.kp aL).tight,λr h=>((hr r h).kp aL).tight⟩
 ·refine gM (λm a b w X=> ∃(p:Nat) (rs:List (Value×List Nat)),a=I p/\m=bs.length-p/\p<=bs.length/\ai (bP w0) w0 X w/\jo bs=(rs.map Prod.snd++(jo (bs.drop p)).1,p+(jo (bs.drop p)).2)/\Own w X w0.heap.size 151 1 b (rs.map λr=>[r.1])/\(∀r∈rs,Own w X w0.heap.size 5 1 r.1 (r.2.map U1))/\rs.length<=p) bs.length ⟨0,[],rfl,rfl,ak _,hs,by simp,Own.nil _ _ _ _ _,by simp,au _⟩ ?_;clear hs;rintro m a acc w1 X1 ⟨p,rs,rfl,rfl,hp,hs,Ud,ho,hr,pM⟩;have pf:=h.mv hs.mv;have QQ:mq (bs.drop p)=none-> ∀w X,ai X1 w1 X w->K acc (I p) w X:=λhn w X BV=>by
   rw[Eh hn] at Ud;have:=hK acc w X rs (hs.trans BV) (by rw[Ud];simp) (ho.since BV) λr h=>(hr r h).since BV;rw[Ud] at this;exact this
  by_cases xZ:bs.length-p<12
  ·repeat' refine aI ?_;intros
   exact QQ (xY (.inl (by rw[cj];exact xZ))) _ _ (ai.fL hs.has)
  ·repeat' refine aI ?_;intros
   refine Pc pf rfl (by rw[af];exact hp) kQ kQ λv1 kV=>?_;rw[<-qQ] at kV;have zw: ∀b∈bs.drop p,b<256:=λb hb=>cI b (di hb);have Bb:(bs.drop p).length=bs.length-p:=cj;refine ff (Hc kV zQ zw) kQ hs.has λw2 X2 bH=>?_;replace hs:=hs.trans bH;have kF:=ho.since bH;have jJ: ∀r∈rs,Own w2 X2 w0.heap.size 5 1 r.1 (r.2.map U1):=λr h=>(hr r h).since bH;have hg4:iX (bs.drop p)<4294967296:=aki zw;have hwn:IntKind.i64.wrap ((iX (bs.drop p):Nat):Int)=(iX (bs.drop p):Nat):=Wc zQ;repeat' first|refine aq ?_;intros|refine dg ?_ ?_<;>intros
   ·repeat' first|refine aq ?_;intros|with_reducible apply cK
    exact QQ (xY (.inr (.inl zQ))) _ _ bH
   ·have ado:=h.mv hs.mv;refine Pc ado (i:=p+4) zQ (by rw[af];omega) kQ kQ λv2 rX=>?_;rw[<-qQ] at rX;repeat' refine aq ?_;intros
    refine Uc ado (i:=p) (j:=p+4) rfl zQ zQ (by rw[af];omega) kQ kQ λv3 HO=>?_;rw[<-qQ,<-ui] at HO;refine ib (Q:=λK=> ∀w X,ai X2 w2 X w->K (.int .u32 ((iX (bs.drop (p+4)):Nat):Int)) w X) ?_ λK1 hK1=>?_
    ·intro w3 X3 dt;refine ib (Q:=λK=> ∀w X,ai X2 w2 X w->K (.int .u32 ((Dd ((bs.drop p).take (p+4-p)):Nat):Int)) w X) ?_ λK2 hK2=>?_
     ·intro w4 X4 gd;have alW:=ado.mv gd.mv;have e4:(bs.drop p).drop 4=bs.drop (p+4):=iu;have e5:p+4-p=4:=by omega
      rw[e5];repeat' first|refine aq ?_;intros|refine dg ?_ ?_<;>intros
      ·rename_i cu;exact QQ (xY (.inr (.inr (.inl (by rw[e4];omega))))) _ _ (bH.trans gd)
      ·rename_i heq Ln;exact QQ (xY (.inr (.inr (.inr (by rw[Bb];omega))))) _ _ (bH.trans gd)
      ·rename_i Qb heq Ln;rw[hwn] at Ln Qb⊢;have ajG:((bs.drop (p+8)).take (iX (bs.drop p))).length=iX (bs.drop p):=by
        have h8:iX (bs.drop p)<=bs.length-(p+8):=by omega
        rw[aD,cj];exact kJ h8
       refine Uc alW (i:=p+8) (j:=p+8+iX (bs.drop p)) zQ zQ zQ (by rw[af];omega) kQ kQ λv5 hv5=>?_;rw[<-qQ,<-ui,show p+8+iX (bs.drop p)-(p+8)=iX (bs.drop p)by omega] at hv5;repeat' refine aq ?_;intros
       refine Pc alW (i:=p+8+iX (bs.drop p)) zQ (by rw[af];omega) kQ kQ λv6 hv6=>?_;rw[<-qQ] at hv6;refine ff (Hc hv6 (by rw[cj];omega) λb hb=>cI b (di hb)) kQ gd.has λw5 X5 tr=>?_;refine ff (CO (hv5.mv tr.mv)) kQ tr.has λw6 X6 sU=>?_;rw[alV];have e8:(bs.drop p).drop 8=bs.drop (p+8):=iu;have e9:(bs.drop p).drop (8+iX (bs.drop p))=bs.drop (p+8+iX (bs.drop p)):=by rw[iu];congr 1;omega
       have XG:=(gd.trans tr).trans sU;have gC: ¬((bs.drop p).length<12\/262144<iX (bs.drop p)\/iX ((bs.drop p).drop 4)≠Dd ((bs.drop p).take 4)\/(bs.drop p).length-12<iX (bs.drop p)):=by
        rw[e4,Bb];omega
       have np:=hs.trans XG;have ho6:=kF.since XG;have Bh: ∀r∈rs,Own w6 X6 w0.heap.size 5 1 r.1 (r.2.map U1):=λr h=>(jJ r h).since XG;have adp:=hv5.mv (tr.trans sU).mv;clear hs;have hs:=np;clear kF jJ ho hr;repeat' first|refine aq ?_;intros|refine dg ?_ ?_<;>intros|(with_reducible apply adg);(case hX=>exact hs.has);(case hu=>kernel_rfl);(case hz=>kernel_rfl);intro acc w X aB ho;replace hs:=hs.trans aB
       ·rename_i cu;exact QQ (adm (by rw[e9,e8];omega)) _ _ (bH.trans XG)
       ·rename_i ap8;have Gr:=aaX gC (by rw[e9,e8];omega);rw[e8] at Gr;clear ap8 gC heq;have alX:=ajG;obtain⟨pl,wy⟩: ∃pl,(bs.drop (p+8)).take (iX (bs.drop p))=pl:=⟨_,rfl⟩;rw[wy] at Gr adp alX;clear wy ajG;refine qK ho aB XG.has kQ (adp.mv aB.mv) (λr hr u hu=>?_) oQ oQ λv8 w8 X8 lV Bi hc8 XH=>?_
        ·obtain⟨x,_,rfl⟩:=List.mem_map.1 hr;simp at hu;subst hu;rfl
        have BV:=np.trans lV;have H2:=ho6.since lV;refine M6 H2 BV (λ_ h=>h) kQ rfl Bi.sl.one oQ oQ λva9 w9 X9 Sz JX hc9 ahP=>?_;have Ov: ∀{v:Value} {rows:List (List Value)},Own w8 X8 w0.heap.size 5 1 v rows->Own w9 X9 w0.heap.size 5 1 v rows:=λhv=>hv.dT hc9 λg hg dO=>by
         obtain⟨c1,e1⟩:=hv.ow.tag hg;obtain⟨c2,e2⟩:=H2.ow.tag dO;rw[e1] at e2;simp at e2
        clear hs;have hs:=Sz;repeat' refine aq ?_;intros
        refine fG (bs.length-(p+(iX (bs.drop p)+12))) zQ ⟨p+(iX (bs.drop p)+12),rs++[(v8,pl)],by simp,rfl,by omega,Sz,?_,?_,λr hr=>?_,?_⟩
        ·rw[QO Gr,alX,iu] at Ud;rw[Ud];simp;omega
        ·rw[aC];exact JX
        ·rcases List.mem_append.1 hr with hr|hr
         ·exact Ov ((Bh r hr).since lV)
         ·simp only[ax] at hr;subst hr;exact Ov (Bi.low (by have:=np.kp.size;omega))
        ·simp;omega
     ·repeat' refine aq ?_;intros
      refine ff (CO (HO.mv dt.mv)) kQ dt.has λw4 X4 gd=>?_;rw[alV];exact hK2 _ _ (dt.trans gd)
    ·repeat' refine aq ?_;intros
     refine ff (Hc rX (by rw[cj];omega) λb hb=>cI b (di hb)) kQ hs.has λw3 X3 dt=>?_;exact hK1 _ _ dt
def DM.bytes (m:DM) (n:ByteArray):List Nat:=((m.get n).map (·.1)).getD []
variable {n : ByteArray} {m : DM} {db : Nat} {F : XS}
theorem Hd (h:Dk w F db m) (hF:FX F X w):
  Ct pg 179 #[ptr db 0,.string n] w X nX λv wa w'=> ∃vb,v= .tuple #[vb,I (if(m.get n).isSome then 0 else 8)]/\Own w' (made wa w') wa.heap.size 5 1 vb ((m.bytes n).map U1):=by
 intro w0 hk;obtain⟨mb,l,h0,hz⟩:=h.mv (hF.mv hk);have hX:=λk ah=>(hF.kp hk k ah).1;have hb:=h0.box.mv (Mv.sub hX);have hg:=h0.get n;have hm:=h0.map.mv mr (Mv.sub hX) (A':=nX) λ_ h=>h.elim;refine Nz.1 λhs=>?_;repeat' refine aq ?_;intros
 refine tt hm (λf h1=>?_) λh1=>?_
 ·have hr:=(h0.row _ (gS h1)).mv (Mv.sub hX);have adp:=((h0.ow _ (gS h1)).mono hX).sl;have mO:m.get n=some (f.bs,f.safe):=by rw[hg,h1];rfl
  have hle:=DM.Ck mO;have wA:m.bytes n=f.bs:=by unfold DM.bytes;rw[mO];rfl
  rw[wA,mO];repeat' first|refine aq ?_;intros|(refine QR hs ?_;intro acc w X hs ho)
  refine qK ho hs (λ_ h=>h) kQ (adp.mv hs.mv) (λr hr u hu=>?_) oQ oQ λv8 w8 X8 lV Bi hc8 XH=>?_
  ·obtain⟨x,_,rfl⟩:=List.mem_map.1 hr;simp at hu;subst hu;rfl
  exact cH lV λwa aL=>⟨v8,rfl,(Bi.kp aL).tight⟩
 ·have mO:m.get n=none:=by rw[hg,h1];rfl
  have wA:m.bytes n=[]:=by unfold DM.bytes;rw[mO];rfl
  rw[wA,mO];repeat' refine aq ?_;intros
  exact cH hs λwa aL=>⟨_,rfl,Own.nil _ _ _ _ _⟩
def DM.DF (n:ByteArray) (k:Nat) (m:DM):DM:=match m.get n with
 |none=>m
 |some x=>m.put n (x.1.take k) (min x.2 k)
def DM.Pd (m:DM) (n:ByteArray) (k:Int):Nat:=if(m.get n).isSome then(if k<0\/(m.bytes n).length<k then 1 else 0)else 8
def DM.cut (m:DM) (n:ByteArray) (k:Int):DM×Nat:=m.write (m.Pd n k) (DM.DF n k.toNat)
theorem DM.abY {s s':Nat} (h:m.get n=some (b,s)) (hk:k<=b.length):(m.put n (b.take k) s').sz+(b.length-k)=m.sz:=by
 have:=DM.Lo (bs:=b.take k) (s':=s') h;rw[aD] at this;omega
variable {X' : XS} {w' : World}
theorem oJ.cut {mb z s':Nat} {l:List (ByteArray×nD)} {f:nD} {v':Value} (h:oJ w F db mb l m z) (hX:FX F X w) (hn:getM n l=some f) (c:dY (· =f.b) X w X' w')
  (hv:Ow w F 5 1 v' ((f.bs.take i).map U1)) (hb:v'.ownBlock=f.v.ownBlock) (hr:aH w' X' f.b [v',I s'] 153) (hs:s'<=(f.bs.take i).length):
  oJ w' F db mb (cU n ⟨f.b,v',f.bs.take i,s'⟩ l) (m.put n (f.bs.take i) s') z:=by
 have bt:=h.row _ (gS hn);refine h.jX hX c hn (λk hk=>.inl hk) (λ_ h=>h) ⟨bt.1,hr.2⟩ ?_ (.inl hb) hs;refine hv.tight.mv λk hk hl=>⟨(hv.bg hk).1,c.block k (hX k (hv.bg hk).1).1 λe=>?_⟩;have e:k=f.b:=e;subst e;exact hv.eT bt kQ hk
theorem aaZ {bd bn bk:Nat} (h:Dk w F db m) (hF:FX F X w) (hd:aH w X bd [ptr db 0] 25) (hn:aH w X bn [.string n] 9) (sP:aH w X bk [I k] 3)
 {s:Nat} (hg:m.get n=some (b,s)) (pS:k<=b.length):
    Ct pg 259 #[ptr bd 0,ptr bn 0,ptr bk 0] w X F λv wa w'=>v= .tuple #[]/\ ∃F',(∀k,F' k->F k\/made wa w' k)/\Dk w' F' db (DM.DF n k m):=by
  intro w0 hk;obtain⟨mb,l,h0,hz⟩:=h.mv (hF.mv hk);have hT:=hF.ft hk;replace hd:=hd.mv hk.cE;replace hn:=hn.mv hk.cE;replace sP:=sP.mv hk.cE;have gn:=h0.box.mv (Mv.sub hT.bg);have hs:=ai.init w0;have qi:=h0.get n;have hm:=h0.map.mv mr (Mv.sub hT.bg) (A':=nX) λ_ h=>h.elim;refine Kj.1 λ_=>?_;repeat' refine aq ?_;intros
  refine tt hm (λf h1=>?_) λh1=>?_
  · have hgf:(b,s)=(f.bs,f.safe):=by rw[h1,hg] at qi;exact cA qi
    obtain⟨rfl,rfl⟩:=Prod.mk.inj hgf;have hr:aH w0 (bP w0) f.b [f.v,I f.safe] 153:=(h0.row _ (gS h1)).mv (Mv.sub hT.bg);have ho:Ow w0 F 5 1 f.v (f.bs.map U1):=h0.ow _ (gS h1);have xl:=ho.sl.mono hT.bg;have gh:=DM.abY (s':=min f.safe k) hg pS;have hle:=DM.Ck hg;repeat' refine aq ?_;intros
    refine ya hT h0 (λ_ h=>h) m (m.put n (f.bs.take k) (min f.safe k)).sz (o:=1) zQ kQ zQ rfl (by rw[show(((m.put n (f.bs.take k) (min f.safe k)).sz:Nat):Int)=(m.sz:Int)-((f.bs.length:Int)-(k:Int))by omega];rfl) rfl h0.ar λw4 X4 fR h4 c4=>?_;have zy:aH w4 X4 f.b [f.v,I f.safe] 153:=(h4.row _ (gS h1)).mv (Mv.sub fR.bg);have Gs:Ow w4 F 5 1 f.v (f.bs.map U1):=h4.ow _ (gS h1);have ES:=sP.dT c4 λe=>aH.eT sP gn kQ e;clear hr ho xl gn hs sP;repeat' refine aq ?_;intros
    refine XI (i:=k) (Gs.mono fR.bg) zQ zQ (by rw[af];exact pS) kQ kQ λv' hv hvb=>?_;rw[<-ui] at hv;have hvF:Ow w4 F 5 1 v' ((f.bs.take k).map U1):=hv.tight.mono λq hq=>(Gs.bg (by rw[<-hvb];exact hq)).1;repeat' refine aq ?_;intros
    refine qo (o:=0) zy zQ kQ sQ hv.one fR.s.has λw5 X5 c5 De=>?_;replace De:aH w5 X5 f.b [v',I f.safe] 153:=De;have Df:=ES.dT c5 λe=>aH.eT ES zy kQ e;have hll:(f.bs.take k).length=k:=by rw[aD];exact kJ pS
    clear ES;repeat' refine aq ?_;intros
    rw[show min (f.safe:Int) (k:Int)=((min f.safe k:Nat):Int)by omega];refine qo (o:=1) De zQ kQ sQ rfl c5.has λw6 X6 c6 Bh=>?_;replace Bh:aH w6 X6 f.b [v',I ((min f.safe k:Nat):Int)] 153:=Bh;have cc:=c5.trans c6;have hFf:F f.b:=(h4.row _ (gS h1)).1;have h6:=h4.cut (s':=min f.safe k) (fR.fx λ_ h=>h) h1 cc hvF hvb Bh (by rw[hll];exact Bg _ _);have ku:=fR.dT (F':=F) cc (λq e=>by rw[show q=f.b from e];exact hFf) λq hq=>.inl hq;refine ku.fin λwa aL=>⟨rfl,F,ku.jv aL λ_ h=>h,?_⟩;have e:DM.DF n k m=m.put n (f.bs.take k) (min f.safe k):=by unfold DM.DF;rw[hg]
    rw[e];exact⟨mb,_,h6.mv (aL.jj ku.bg),by omega⟩
  · rw[h1,hg] at qi;cases qi
theorem adq (h:Dk w F db m) (hF:FX F X w) (HN:k<2^62):
  Ct pg 182 #[ptr db 0,.string n,I k] w X F λv wa w'=>v=I (m.cut n k).2/\ ∃F',(∀k,F' k->F k\/made wa w' k)/\Dk w' F' db (m.cut n k).1:=by
 intro w0 hk;replace h:=h.mv (hF.mv hk);have hT:=hF.ft hk;have oK:FX F (bP w0) w0:=hF.kp hk;clear hF;refine Pe.1 λ_=>?_;refine uy rfl hT.s.has λbd w1 X1 qg aB jE=>?_;refine uy rfl aB.has λbn w2 X2 TJ bH Ue=>?_;refine uy rfl bH.has λbk w3 X3 hbk dt hrk=>?_;have adr:=(aB.trans bH).trans dt;have dU:=hT.since adr;have Ac:=(jE.since bH).since dt;have DG:=Ue.since dt;have h3:Dk w3 F db m:=h.mv (adr.gY λk ah=>(oK k ah).1);have hs:=ai.fL dt.has;repeat' refine aq ?_;intros
 refine ff (QS h3 (dU.fx λ_ h=>h)) kQ hs.has λw4 X4 gd=>?_;have fR:=dU.since gd;have h4:Dk w4 F db m:=h3.mv (gd.gY dU.bg);have Lp:=Ac.since gd;have ads:=DG.since gd;have adt:=hrk.since gd;have q1:=aB.kp.size;have q2:=bH.kp.size;clear hs Ac DG hrk jE Ue h3 dU;refine ib (Q:=λK=> ∀e:Nat,m.Pd n k=e->K (I e)) ?_ λK hK=>?_
 ·intro e he;have em:m.cut n k=m.write e (DM.DF n k):=by rw[<-he];rfl
  repeat' refine aq ?_;intros
  rw[em];refine fR.call (Fa (A:=λk=>k=bd\/k=bn\/k=bk) (g:=DM.DF n k) h4 (fR.fx λ_ h=>h) (λk ah=>?_) kQ ?_) kQ (λ_ h=>h) λv Oo w5 X5 hq IG E4 iQ E6=>?_
  ·rcases ah with rfl|rfl|rfl
   ·exact⟨Lp.1,Lp.lt,λhf=>by have:=(oK _ hf).2;omega⟩
   ·exact⟨ads.1,ads.lt,λhf=>by have:=(oK _ hf).2;omega⟩
   ·exact⟨adt.1,adt.lt,λhf=>by have:=(oK _ hf).2;omega⟩
  ·intro A4 w6 X6 hm6 hx6 hF6 h6;subst A4;unfold DM.Pd at he;cases mO:m.get n with
   |none=>rw[mO] at he;simp at he
   |some x=>
    obtain⟨b,s⟩:=x;have WT:m.bytes n=b:=by unfold DM.bytes;rw[mO];rfl
    rw[mO,WT] at he;simp only[tN,if_true] at he;have pS:k<=b.length:=by
     refine Nat.le_of_not_lt λhn=>?_;rw[if_pos (.inr zQ)] at he;cases he
    refine aaZ h6 hF6 ⟨hx6 _ (.inl rfl),?_⟩ ⟨hx6 _ (.inr (.inl rfl)),?_⟩ ⟨hx6 _ (.inr (.inr rfl)),?_⟩ (by rw[m.qz];exact mO) pS
    ·rw[(hm6 bd (.inl rfl) (Lp.lt)).2];exact Lp.2
    ·rw[(hm6 bn (.inr (.inl rfl)) (ads.lt)).2];exact ads.2
    ·rw[(hm6 bk (.inr (.inr rfl)) (adt.lt)).2];exact adt.2
  ·obtain⟨rfl,F',Dg,hD⟩:=hq
   skip
   exact iQ.fin λH3 aL=>⟨rfl,F',iQ.jv aL Dg,hD.mv (aL.jj λk ah=>iQ.bg k (Dg k ah))⟩
 ·obtain⟨mb,l,h0,hz⟩:=id h4;have gn:=h0.box.mv (Mv.sub fR.bg);have hm:=h0.map.mv mr (Mv.sub fR.bg) (A':=nX) λ_ h=>h.elim;have qi:=h0.get n;repeat' first|refine aq ?_;intros|refine dg ?_ ?_<;>intros
  ·exfalso;omega
  ·refine tt hm (λf h1=>?_) λh1=>?_
   ·have mO:m.get n=some (f.bs,f.safe):=by rw[qi,h1];rfl
    have WT:m.bytes n=f.bs:=by unfold DM.bytes;rw[mO];rfl
    have hr:aH w4 X4 f.b [f.v,I f.safe] 153:=(h0.row _ (gS h1)).mv (Mv.sub fR.bg);have ho:Sl w4 X4 1 f.v (f.bs.map U1):=(h0.ow _ (gS h1)).sl.mono fR.bg;repeat' first|refine aq ?_;intros|refine dg ?_ ?_<;>intros
    ·exact hK 1 (by unfold DM.Pd;rw[mO,WT];simp only[tN,if_true];rw[if_pos (.inr zQ)])
    ·rw[mO];exact hK 0 (by unfold DM.Pd;rw[mO,WT];simp only[tN,if_true];rw[if_neg zQ])
   ·have mO:m.get n=none:=by rw[qi,h1];rfl
    simp[mO] at*
  ·have mO:(m.get n).isSome=false:=by
    cases hq:(m.get n).isSome with
    |false=>rfl
    |true=>simp_all
   rw[mO];exact hK 8 (by unfold DM.Pd;rw[mO];rfl)
def DM.uE (cT:List Int) (x:DM×Nat) (n:ByteArray):DM×Nat:=match x.1.get n with
 |none=>x
 |some (bs,s)=>if bs.length=s then x else
  let k:=match cT[x.2]? with
   |some p=>if 0<=p then p.toNat % (bs.length-s+1)else 0
   |none=>0
  (x.1.put n (bs.take (s+k)) (s+k),x.2+1)
def DM.mE (m:DM) (cT:List Int):DM:= { ((fT (m.fs.map (·.1))).foldl (DM.uE cT) (m,0)).1 with ar:=0,dn:=false }
theorem DM.akj {k:ByteArray} {s:Nat} (h:(m.get k).isSome=true):((m.put n b s).get k).isSome=true:=by
 unfold DM.get DM.put at*;dsimp only;by_cases e:k=n
 ·subst e;rw[jK];rfl
 ·rw[pO e];exact h
variable {cT : List Int}
theorem DM.ahQ {x:DM×Nat} {k:ByteArray} (h:(x.1.get k).isSome=true):((DM.uE cT x n).1.get k).isSome=true:=by
 unfold DM.uE;split
 ·exact h
 ·split
  ·exact h
  ·exact DM.akj h
variable {vq : Value}
theorem XJ {S:XS} (h:Dk w F db m) (hF:FX F X w) (hq:Sl w S 1 vq (cT.map I1)) (hS: ∀k,S k->X k/\ ¬F k) (hn: ∀x∈m.fs,x.1.size<=2^40) (hl:m.fs.length<=2^40):
  Ct pg 38 #[ptr db 0,vq] w X F λv wa w'=>v= .tuple #[]/\Dk w' F db (m.mE cT):=by
 intro w0 hk;obtain⟨mb,l,h0,hz⟩:=h.mv (hF.mv hk);have hT:=hF.ft hk;have oK:FX F (bP w0) w0:=hF.kp hk;have hq0:Sl w0 (out F w0) 1 vq (cT.map I1):=hq.mv λk ah A8=>⟨⟨aw A8 hk.size,(hS k ah).2⟩,hk.block k (hS k ah).1⟩;obtain⟨qb,qn,qc,rfl⟩:=hq0.form;refine Lq.1 λ_=>?_;refine cM (Ox ⟨mb,l,h0,hz⟩ (hT.fx λ_ h=>h) hn hl) kQ hT.s.has ?_;rintro vl DX w1 X1 hol qw nY aB;have eo:=hT.since aB;have h1:=h0.mv (aB.gY hT.bg);have lE:Sl w1 (λk=>X1 k/\ ¬F k) 1 vl ((fT (m.fs.map (·.1))).map S1):=hol.sl.mono λk ah=>⟨nY k ah,λhf=>by have:=(oK k hf).2;have:=ah.1;omega⟩;have zD: ∀n∈fT (m.fs.map (·.1)),(m.get n).isSome=true:=λn hn=>by
  have:=(kU (m.fs.map (·.1))).mem_iff.1 hn;cases hg:m.get n with
  |some x=>rfl
  |none=>exact absurd this (getM_none.1 hg)
 have hB:ai (λk=>X1 k/\ ¬F k) w1 X1 w1:=⟨Kp.refl _ _,λk h=>h.1,eo.s.has⟩;have JW:m.mE cT= { ((fT (m.fs.map (·.1))).foldl (DM.uE cT) (m,0)).1 with ar:=0,dn:=false } :=rfl;generalize XK:fT (m.fs.map (·.1))=ns at lE zD JW;have hnl:=lE.gV;obtain⟨lb,ln,lc,rfl⟩:=lE.form;repeat' refine aq ?_;intros
 refine gM (λm' a b w X=> ∃(j:Nat) (l:List (ByteArray×nD)) (x:DM×Nat),a=I j/\b=I x.2/\m'=ns.length-j/\j<=ns.length/\x.2<=j/\x=(ns.take j).foldl (DM.uE cT) (m,0)/\Ft w0 F w X F/\oJ w F db mb l x.1 x.1.sz/\x.1.sz<=4194304/\(∀n∈ns,(x.1.get n).isSome=true)/\ai (λk=>X1 k/\ ¬F k) w1 X w) ns.length
  ⟨0,l,(m,0),rfl,rfl,rfl,ak _,au _,rfl,eo,h1,hz,zD,hB⟩ ?_
 clear eo h1 hB hT h0 hz;rintro m' a b w X ⟨j,l,x,rfl,rfl,rfl,hj,hxj,hx,hT,h0,hz,zD,hB⟩;have hb:=h0.box.mv (Mv.sub hT.bg);have apV:=lE.mv hB.mv;have hq':=hq0.mv hT.s.mv;have hm:=h0.map.mv mr (Mv.sub hT.bg) (A':=nX) λ_ h=>h.elim;rcases dB ns j with⟨cI,n,mL,hd⟩|⟨dC,hd⟩
 ·have mO:=zD n (av mL);have qi:=h0.get n;have QT:(ns.take (j+1)).foldl (DM.uE cT) (m,0)=DM.uE cT x n:=by rw[List.take_add_one,mL,List.foldl_append,<-hx];rfl
  repeat' refine aI ?_;intros
  refine ib (Q:=λK=> ∀(x':DM×Nat) w X l,x'=DM.uE cT x n->Ft w0 F w X F->oJ w F db mb l x'.1 x'.1.sz->x'.1.sz<=4194304->x'.2<=j+1->ai (λk=>X1 k/\ ¬F k) w1 X w->K (I x'.2) w X) ?_ λK hK=>?_
  ·intro x' w X l AY hT h0 hz hxj hB;repeat' refine aq ?_;intros
   exact fG (ns.length-(j+1)) zQ ⟨j+1,l,x',by simp,rfl,rfl,by omega,hxj,by rw[QT];exact AY,hT,h0,hz,λk ah=>by rw[AY];exact DM.ahQ (zD k ah),hB⟩
  ·repeat' refine aq ?_;intros
   refine tt hm (λf hf=>?_) λhf=>?_
   ·have XM:x.1.get n=some (f.bs,f.safe):=by rw[qi,hf];rfl
    have hr:aH w X f.b [f.v,I f.safe] 153:=(h0.row _ (gS hf)).mv (Mv.sub hT.bg);have ho:Ow w F 5 1 f.v (f.bs.map U1):=h0.ow _ (gS hf);have xl:=ho.sl.mono hT.bg;have hsf:f.safe<=f.bs.length:=h0.safe _ (gS hf);have hle:=DM.Ck XM;have htr:DM.uE cT x n=if f.bs.length=f.safe then x else(x.1.put n (f.bs.take (f.safe+(match cT[x.2]? with|some p=>if 0<=p then p.toNat % (f.bs.length-f.safe+1)else 0|none=>0))) (f.safe+(match cT[x.2]? with|some p=>if 0<=p then p.toNat % (f.bs.length-f.safe+1)else 0|none=>0)),x.2+1):=by
     unfold DM.uE;rw[XM]
    repeat' first|refine aq ?_;intros|refine dg ?_ ?_<;>intros
    ·exact hK x _ _ l (by rw[htr,if_pos zQ]) hT h0 hz zQ hB
    ·rename_i gr;have ap9: ¬f.bs.length=f.safe:=by omega
     rw[if_neg ap9] at htr;generalize nK:(match cT[x.2]? with|some p=>if 0<=p then p.toNat % (f.bs.length-f.safe+1)else 0|none=>0)=k at htr;have uF:f.safe+k<=f.bs.length:=by
      rw[<-nK];split
      ·split
       ·rename_i q _ _;have:=Nat.mod_lt q.toNat (show 0<f.bs.length-f.safe+1 by omega);generalize q.toNat % (f.bs.length-f.safe+1)=u at this;omega
       ·omega
      ·omega
     have gh:=DM.abY (s':=f.safe+k) XM uF;refine ib (Q:=λK1=>K1 (I (k:Nat))) ?_ λK1 hK1=>?_
     ·repeat' refine aq ?_;intros
      have aqa:F db:=h0.box.1;refine ya hT h0 (λ_ h=>h) x.1 (x.1.put n (f.bs.take (f.safe+k)) (f.safe+k)).sz (o:=1) zQ kQ zQ rfl (by rw[show(((x.1.put n (f.bs.take (f.safe+k)) (f.safe+k)).sz:Nat):Int)=(x.1.sz:Int)-((f.bs.length:Int)-(f.safe:Int)-(k:Int))by omega];rfl) rfl h0.ar λw4 X4 fR h4 c4=>?_;have hB4:=hB.dT c4 λq hq e=>hq.2 (by rw[show q=db from e];exact aqa);have zy:aH w4 X4 f.b [f.v,I f.safe] 153:=(h4.row _ (gS hf)).mv (Mv.sub fR.bg);have Gs:Ow w4 F 5 1 f.v (f.bs.map U1):=h4.ow _ (gS hf);clear hr ho xl hb;repeat' refine aq ?_;intros
      refine XI (i:=f.safe+k) (Gs.mono fR.bg) zQ zQ (by rw[af];exact uF) kQ kQ λv' hv hvb=>?_;rw[<-ui] at hv;have hvF:Ow w4 F 5 1 v' ((f.bs.take (f.safe+k)).map U1):=hv.tight.mono λq hq=>(Gs.bg (by rw[<-hvb];exact hq)).1;repeat' refine aq ?_;intros
      refine qo (o:=0) zy zQ kQ sQ hv.one fR.s.has λw5 X5 c5 De=>?_;replace De:aH w5 X5 f.b [v',I f.safe] 153:=De;have hv5:=(hv.dT c5 λq hq e=>hv.eT zy kQ (by rw[<-(show q=f.b from e)];exact hq)).sl;have hll:(f.bs.take (f.safe+k)).length=f.safe+k:=by rw[aD];exact kJ uF
      repeat' refine aq ?_;intros
      rw[hll];refine qo (o:=1) De zQ kQ sQ rfl c5.has λw6 X6 c6 Bh=>?_;replace Bh:aH w6 X6 f.b [v',I ((f.safe+k:Nat):Int)] 153:=Bh;have cc:=c5.trans c6;have hFf:F f.b:=(h4.row _ (gS hf)).1;have h6:=h4.cut (s':=f.safe+k) (fR.fx λ_ h=>h) hf cc hvF hvb Bh (by rw[hll];exact au _);refine hK (x.1.put n (f.bs.take (f.safe+k)) (f.safe+k),x.2+1) _ _ _ htr.symm (fR.dT cc (λq e=>by rw[show q=f.b from e];exact hFf) λq hq=>.inl hq) h6 (by show(x.1.put n _ _).sz<=_;omega) (by show x.2+1<=_;omega) (hB4.dT cc λq hq e=>hq.2 (by rw[show q=f.b from e];exact hFf))
     ·repeat' first|refine aq ?_;intros|refine dg ?_ ?_<;>intros
      ·rename_i Pf DH;have XN:cT[x.2]? =some cT[x.2]:=aS zQ;rw[XN] at nK;dsimp only at nK;rw[if_pos zQ] at nK;have e1:cT[x.2]=((cT[x.2].toNat:Nat):Int):=by omega
       rw[e1,show(f.bs.length:Int)-(f.safe:Int)+1=((f.bs.length-f.safe+1:Nat):Int)by omega];refine afA zQ ?_;rw[nK];exact hK1
      ·rename_i Pf DH;have XN:cT[x.2]? =some cT[x.2]:=aS zQ;rw[XN] at nK;dsimp only at nK;rw[if_neg zQ] at nK;subst nK;exact hK1
      ·rename_i DH;have XN:cT[x.2]? =none:=List.getElem?_eq_none zQ;rw[XN] at nK;subst nK;exact hK1
   ·rw[qi,hf] at mO;cases mO
 ·have lU:j=ns.length:=by omega
  subst lU;rw[List.take_length] at hx;rw[<-hx] at JW;repeat' refine aI ?_;intros
  refine ya hT h0 (λ_ h=>h) { x.1 with dn:=false } x.1.sz (o:=4) zQ kQ zQ rfl rfl rfl h0.ar λw4 X4 fR h4 c4=>?_;have yS:=h4.box.mv (Mv.sub fR.bg);clear hb;repeat' refine aq ?_;intros
  refine ya fR h4 (λ_ h=>h) { x.1 with ar:=0,dn:=false } x.1.sz (o:=3) zQ kQ zQ rfl rfl rfl (by show 0<2^63;decide) λw5 X5 iQ h5 c5=>?_;refine iQ.fin λwa aL=>⟨rfl,mb,l,?_,?_⟩
  ·rw[JW];exact h5.mv (aL.jj iQ.bg)
  ·rw[JW];exact hz
def DI:List Nat->Nat->Option Nat
 |[],n=>some n
 |c::l,n=>if c<48\/57<c then none else DI l (n*10+(c-48))
def si (dir name:ByteArray):Nat:=
 if name.size=dir.size+9/\name.extract 0 dir.size=dir/\name.data.toList[dir.size]? =some 46 then(DI (vK (name.extract (dir.size+1) name.size)) 0).getD 0 else 0
theorem abZ: ∀(l:List Nat) (n k:Nat),n<10^k->(DI l n).getD 0<10^(k+l.length)
 |[],n,k,h=>by simpa [DI] using h
 |c::l,n,k,h=>by
  unfold DI;split
  ·simp;exact Nat.pow_pos dQ
  ·have:=abZ l (n*10+(c-48)) (k+1) (by rw[se];omega);rw[aJ,show k+(l.length+1)=k+1+l.length by omega];exact this
theorem akk (dir name:ByteArray):si dir name<100000000:=by
 unfold si;split
 ·rename_i h;have h1:=abZ (vK (name.extract (dir.size+1) name.size)) 0 0 dQ;have h2:(vK (name.extract (dir.size+1) name.size)).length=8:=by rw[IM,qy];omega
  rw[h2] at h1;exact h1
 ·decide
theorem Uf (c:Nat) (l:List Nat) (n:Nat):DI (c::l) n=if c<48\/57<c then none else DI l (n*10+(c-48)):=rfl
variable {dir : ByteArray}
theorem XO {name:ByteArray} (hd:dir.size<=2^40) (hn:name.size<=2^41):Ct pg 126 #[.string dir,.string name] w X nX λv wa w'=>v=I (si dir name):=by
 intro w0 hk;refine Vn.1 λhs=>?_;have no: ¬(name.size=dir.size+9/\name.extract 0 dir.size=dir/\name.data.toList[dir.size]? =some 46)->si dir name=0:=λh=>by unfold si;rw[if_neg h]
 by_cases h1:name.size=dir.size+9
 ·have hnl:name.data.toList.length=name.size:=(Lr name).symm;obtain⟨c,hc⟩: ∃c,name.data.toList[dir.size]? =some c:=⟨_,aS zQ⟩;repeat' refine aI ?_;intros
  refine alY (i:=dir.size) rfl zQ kQ ?_;repeat' first|refine aq ?_;intros|refine dg ?_ ?_<;>intros
  ·exact cH hs λwa aL=>by rw[no (by simp_all)];rfl
  ·exact cH hs λwa aL=>by rw[no (by rintro⟨_,_,h⟩;rw[hc] at h;simp_all)];rfl
  ·refine alZ (i:=dir.size+1) zQ zQ kQ ?_;refine afB (e:=5) hs.has (by rw[qy];omega) kQ kQ kQ λvb w1 X1 aB pf=>?_;have Gf:(vK (name.extract (dir.size+1) name.size)).length=8:=by rw[IM,qy];omega
   have aqb:c=46:=UInt8.toNat_inj.1 (by have:c.toNat=46:=(by omega);rw[this];rfl);have e1:si dir name=(DI (vK (name.extract (dir.size+1) name.size)) 0).getD 0:=by
    unfold si;rw[if_pos ⟨h1,by assumption,by rw[hc,aqb]⟩]
   rw[e1];have cI: ∀x∈vK (name.extract (dir.size+1) name.size),x<256:=λx hx=>akl hx;generalize vK (name.extract (dir.size+1) name.size)=bs at pf Gf cI⊢;replace hs:=hs.trans aB;obtain⟨lb,ln,lc,rfl⟩:=pf.form;repeat' refine aq ?_;intros
   refine gM (λm a b w X=> ∃(i n:Nat),a=I i/\b=I n/\m=bs.length-i/\i<=bs.length/\n<10^i/\DI bs 0=DI (bs.drop i) n/\ai X1 w1 X w/\ai (bP w0) w0 X w) bs.length ⟨0,0,rfl,rfl,rfl,ak _,by decide,rfl,ai.fL hs.has,hs⟩ ?_;clear hs;rintro m a b w X ⟨i,n,rfl,rfl,rfl,hi,hn,hf,bH,hs⟩;have ado:=pf.mv bH.mv;rcases dB bs i with⟨Pf,x,hx,KS⟩|⟨dC,KS⟩
   ·have ar9:=cI x (av hx);have hn8:n<10^8:=aw hn (sh dQ zQ);have ast:n<100000000:=hn8;rw[KS,Uf] at hf;repeat' first|refine aI ?_;intros|refine dg ?_ ?_<;>intros
    ·rw[if_pos (.inl zQ)] at hf;exact cH hs λwa aL=>by rw[hf];rfl
    ·rw[if_pos (.inr zQ)] at hf;exact cH hs λwa aL=>by rw[hf];rfl
    ·rw[if_neg zQ] at hf;refine aou zQ zQ ?_;refine abM ?_;rw[show IntKind.u8.wrap ((x:Int)-48)=((x-48:Nat):Int)by rw[M4];omega];repeat' refine aq ?_;intros
     rw[Wc zQ];repeat' refine aq ?_;intros
     refine fG (bs.length-(i+1)) zQ ⟨i+1,n*10+(x-48),by simp,by simp,rfl,by omega,by rw[se];omega,hf,bH,hs⟩
   ·have lU:i=bs.length:=by omega
    subst lU;rw[List.drop_length] at hf;repeat' refine aI ?_;intros
    exact cH hs λwa aL=>by rw[hf];rfl
 ·repeat' refine aI ?_;intros
  exact cH hs λwa aL=>by rw[no λh=>h1 h.1];rfl
def L0 (dir:ByteArray) (sz:Nat):LM:=⟨dir,sz,[],0⟩
theorem Ug: ∀(k:Nat) (b:List Nat),b.length<=k->(jo b).2<=b.length/\(jo b).1.length<=(jo b).2
 |0,b,h=>by rw[aaY zQ];simp
 |k+1,b,h=>by
  cases hf:mq b with
  |none=>rw[Eh hf];simp
  |some q=>
   have h1:=QM hf;rw[QO hf];have h2:=Ug k (b.drop (q.length+12)) (by rw[cj];omega);rw[cj] at h2;simp only[aJ];omega
def LD.Gt (x:LD) (n:Nat):Bool:=decide (x.L.bJ≠[]/\((x.m.bytes x.L.fh).length≠x.L.last.size\/n≠x.L.next))
noncomputable def LD.join (x:LD) (n:Nat) (nm:ByteArray):LD×Nat:=
 if x.Gt n then(x,13)else(⟨{ x.L with bJ:=x.L.bJ++[⟨n,(jo (x.m.bytes nm)).1,(jo (x.m.bytes nm)).2⟩] },x.m⟩,0)
noncomputable def LD.pJ:LD->List ByteArray->LD×Nat
 |x,[]=>(x,0)
 |x,nm::r=>if si x.L.dir nm=0 then x.pJ r else if(x.join (si x.L.dir nm) nm).2≠0 then x.join (si x.L.dir nm) nm else(x.join (si x.L.dir nm) nm).1.pJ r
def LD.He (x:LD):LD×Nat:=
 if x.L.last.size<(x.m.bytes x.L.fh).length then
  if(x.m.cut x.L.fh x.L.last.size).2≠0 then(⟨x.L,(x.m.cut x.L.fh x.L.last.size).1⟩,(x.m.cut x.L.fh x.L.last.size).2)else LD.sync ⟨x.L,(x.m.cut x.L.fh x.L.last.size).1⟩
 else x.sync
noncomputable def LD.BW (dir:ByteArray) (room:Nat) (m:DM):LD×Nat:=
 if m.dn then(⟨L0 dir room,m⟩,12)else
  let q:=LD.pJ ⟨L0 dir room,m⟩ (fT (m.fs.map (·.1)))
  if q.2≠0 then q else if q.1.L.bJ=[] then q.1.iI 1 else q.1.He
theorem DM.Ls (h:Dk w F db m) (n:ByteArray):(m.bytes n).length<=4194304:=by
 obtain⟨mb,l,h,hz⟩:=h;unfold DM.bytes;cases hg:m.get n with
 |none=>simp
 |some x=>have:=DM.Ck (b:=x.1) (s:=x.2) hg;simp;omega
variable {nm : ByteArray} {L : LM} {lb : Nat}
theorem adu {n:Nat} (h:Lg w F lb db L m) (lT:L.bJ≠[]->pT L) (rH:L.dir.size<=11) (hn:n<=2^40) (pf:L.bJ.length<=2^30) (Gu: ∀b∈m.bytes nm,b<256) (hF:FX F X w):
  Ct pg 127 #[ptr lb 0,I n,.string nm] w X F λv wa w'=>v=I (LD.join ⟨L,m⟩ n nm).2/\ ∃F',(∀k,F' k->F k\/made wa w' k)/\Lg w' F' lb db (LD.join ⟨L,m⟩ n nm).1.L (LD.join ⟨L,m⟩ n nm).1.m:=by
 intro w0 hk;obtain⟨FL,FD,sv,bl,h⟩:=(h.mv (hF.mv hk)).lw;have hT:=hF.ft hk;have oK:FX F (bP w0) w0:=hF.kp hk;have hX:=λk ah=>(oK k (h.hL k ah)).1;have hb:=h.l.box.mv (Mv.sub hX);have zF:=h.l.so.sl.mono hX;have Gf:bl.length=L.bJ.length:=by rw[h.l.bJ,af]
 have asu:=DM.Ls h.d nm;have eJ:LD.join ⟨L,m⟩ n nm=if LD.Gt ⟨L,m⟩ n then(⟨L,m⟩,13)else(⟨{ L with bJ:=L.bJ++[⟨n,(jo (m.bytes nm)).1,(jo (m.bytes nm)).2⟩] },m⟩,0):=rfl
 refine QU.1 λhs=>?_;refine ib (Q:=λK=> ∀w1 X1,LD.Gt ⟨L,m⟩ n=false->ai (bP w0) w0 X1 w1->K w1 X1) ?_ λK hK=>?_
 ·intro w1 X1 hj aB;rw[eJ,hj];have eo:=hT.since aB;have h1:=h.mv (aB.gY hT.bg);have mc:=hb.since aB;clear hs hb zF;repeat' refine aq ?_;intros
  refine cM (Hd (n:=nm) h1.d (eo.fx h1.hD)) kQ eo.s.has ?_;rintro _ xN w2 X2 ⟨vb,rfl,yT⟩ lK ko bH;have da:=eo.since bH;have h2:=h1.mv (bH.gY eo.bg);repeat' refine aq ?_;intros
  refine cM (XF (yT.sl.mono ko) zQ Gu) kQ da.s.has ?_;rintro _ zA w3 X3 ⟨va,rs,rfl,hrs,H2,hor⟩ rn mX dt;have dU:=da.since dt;have h3:=h2.mv (dt.gY da.bg);have hX3: ∀k,FL k->X3 k:=λk ah=>dU.bg k (h3.hL k ah);have rW:=(mc.since bH).since dt;have adv:=h3.l.so.mono hX3;have oa:=H2.sl.one;obtain⟨ab,an,ac,rfl⟩:=H2.sl.form;generalize gh:(jo (m.bytes nm)).2=sz;have HM:=aB.kp.size;have JF:=bH.kp.size;have hz3:=dt.kp.size;repeat' refine aq ?_;intros
  refine Bj dU.s.has λbx w4 X4 gn gd bt=>?_;have Pg:=adv.mv gd.mv;refine XP (bytes:=8) (row:=[ptr bx 0]) Pg gd.has kQ rfl rfl rfl oQ oQ λFb w5 X5 c5 uG wP=>?_;have yS:=rW.since gd;have cu: ∀q,fv sv q->q≠lb:=λq hq e=>Pg.eT yS kQ (by rw[<-e];exact hq);have BS:aH w5 X5 lb [ptr db 0,.string L.dir,I L.room,sv,I L.safe] 231:=⟨c5.sub _ yS.1,by rw[c5.block _ yS.1 λhq=>cu _ hq rfl];exact yS.2⟩;clear mc rW;repeat' refine aq ?_;intros
  refine qo (o:=3) BS zQ kQ sQ uG.one c5.has λw6 X6 c6 Bh=>?_;have Ph: ∀q,fv sv q->FL q:=λq hq=>(h3.l.so.bg hq).1;have cc:dY (λk=>k=lb\/sv.ownBlock=some k) X3 w3 X6 w6:=((dY.oh gd _).trans (c5.mono λk _ ah=>.inr ah)).trans (c6.mono λk _ ah=>.inl ah);have ku:Ft w0 F w6 X6 (λk=>F k\/(X6 k/\w0.heap.size<=k)):=(dU.dT (F':=F) cc (λk ah=>by
   rcases ah with rfl|ah
   ·exact h3.hL _ h3.l.box.1
   ·exact h3.hL _ (Ph _ ah)) λk ah=>.inl ah).more λk ah=>ah
  have Lt: ∀g,Fb.ownBlock=some g->FL g\/(X6 g/\w0.heap.size<=g):=λg hg=>by
   rcases wP with e|⟨g',e,dC⟩
   ·exact .inl (Ph _ (e.symm.trans hg))
   ·rw[hg] at e;have:g=g':=cA e;subst this;exact .inr ⟨c6.sub _ (uG.bg hg).1,by have:=gd.kp.size;omega⟩
  have ahR:Fb.ownBlock≠some lb:=uG.eT BS kQ;have adw:bx≠lb:=bt.eT yS kQ;have adx: ¬fv sv bx:=λhq=>Pg.eT bt kQ hq;have fresh: ∀{e:TypeId} {v:Value} {rows:List (List Value)},decide (e≠231)=true->decide (e≠239)=true->Own w3 (made zA w3) zA.heap.size e 1 v rows->Ow w6 (λk=>FL k\/(X6 k/\w0.heap.size<=k)) e 1 v rows:=λ{e v rows} he1 he2 ho=>by
   have Qw:Ow w3 X3 e 1 v rows:=ho.ow.mono mX;refine ho.ow.tight.mv λk ah hl=>⟨.inr ⟨cc.sub k (Qw.bg ah).1,by have:=(ho.ow.bg ah).1.1;omega⟩,cc.block k (Qw.bg ah).1 λhg=>?_⟩;rcases hg with rfl|hg
   ·exact Qw.eT (h3.l.box.mv (Mv.sub hX3)) he1 ah
   ·obtain⟨c1,e1⟩:=Qw.tag ah;obtain⟨c2,e2⟩:=adv.tag hg;rw[e1] at e2;simp only[aj,Obj.cells.injEq] at e2;exact of_decide_eq_true he2 e2.2.1
  have hL6:=h3.l.ab0 (BX:=λk=>FL k\/(X6 k/\w0.heap.size<=k)) (Fb:=Fb) (rK:=bl++[⟨bx,n,.slice ab an ac,rs,sz⟩]) (dU.fx h3.hL) cc (λk ah=>ah) (λk ah=>.inl ah) ⟨.inl h3.l.box.1,Bh.2⟩ ?_ ?_ ?_
  ·refine ku.fin λwa aL=>⟨rfl,_,ku.jv aL λ_ h=>h,?_⟩;have e:({ L with bJ:=(bl++[(⟨bx,n,.slice ab an ac,rs,sz⟩:nf)]).map nf.er } :LM)= { L with bJ:=L.bJ++[⟨n,(jo (m.bytes nm)).1,sz⟩] } :=by
    rw[aC,<-h3.l.bJ,<-hrs];rfl
   rw[if_neg pI,<-e];refine Lg.mv ⟨_,FD,Fb,_,?_,?_,?_,hL6,h3.d.mv (cc.jj λk ah=>⟨dU.bg k (h3.hD k ah),λhg=>?_⟩)⟩ (aL.jj ku.bg)
   ·intro k ha dO;rcases ha with ha|ha
    ·exact h3.dj k ha dO
    ·have:=(oK k (h3.hD k dO)).2;omega
   ·exact λk ah=>ah.imp (h3.hL k) id
   ·exact λk ah=>.inl (h3.hD k ah)
   ·rcases hg with rfl|hg
    ·exact h3.dj _ h3.l.box.1 ah
    ·exact h3.dj _ (Ph _ hg) ah
  ·rw[aC];refine uG.tight.mv λk ah hl=>⟨Lt k ah,c6.block k (uG.bg ah).1 λe=>ahR (by rw[<-(show k=lb from e)];exact ah)⟩
  ·intro s tp;rcases List.mem_append.1 tp with tp|tp
   ·exact .inl tp
   ·simp only[ax] at tp;subst tp;have hb6:w6.heap[bx]? =w4.heap[bx]? :=by
     rw[c6.block bx (c5.sub _ bt.1) adw,c5.block bx bt.1 adx]
    exact .inr ⟨⟨.inr ⟨c6.sub _ (c5.sub _ bt.1),by show w0.heap.size<=bx;omega⟩,by rw[hb6];exact bt.2⟩,fresh kQ kQ H2,λr hr=>fresh kQ kQ (hor r hr)⟩
  ·refine List.pairwise_append.2 ⟨h3.l.ap,List.pairwise_singleton _ _,λx hx y hy=>?_⟩;simp only[ax] at hy;subst hy;refine⟨λe=>?_,λg hg mN=>?_⟩
   ·have:=(dU.fx h3.hL _ (h3.l.row x hx).1).2;have e':x.b=bx:=e;omega
   ·have a1:=(oK g (h3.hL g ((h3.l.AD x hx).bg hg).1)).2;have a2:=(H2.ow.bg (g:=g) mN).1.1;omega
 ·by_cases cu:L.bJ=[]
  ·have asv:bl.length=0:=by rw[Gf,cu];rfl
   have hj:LD.Gt ⟨L,m⟩ n=false:=by simp[LD.Gt,cu]
   repeat' refine aI ?_;intros
   exact hK _ _ hj hs
  ·obtain⟨rK,s,rfl,he,E8⟩:=h.l.last (lT cu);have hL:=lT cu;have hlen:=zF.gV;have wo:(rK++[s]).length=rK.length+1:=by simp
   have DB:(rK++[s])[rK.length]? =some s:=by simp
   have lJ:s∈rK++[s]:=by simp
   have wA:=(h.l.row s lJ).mv (Mv.sub hX);have hrc:=(h.l.AD s lJ).sl.mono hX;have Fc:s.first=L.last.first:=by rw[<-he];rfl
   have gh:s.size=L.last.size:=by rw[<-he];rfl
   have pM:s.rs.length=L.last.bw.length:=by rw[<-he];simp[nf.er]
   have XQ:=hL.yY _ (LM.yb hL.ne);have nL:L.next=L.last.first+L.last.bw.length:=rfl
   repeat' refine aI ?_;intros
   rw[Fc];refine cM (yF zQ zQ) kQ hs.has ?_;rintro _ DX w1 X1 rfl qw nY aB;have eo:=hT.since aB;have h1:=h.mv (aB.gY hT.bg);refine cM (Hd (n:=bV L.dir L.last.first) h1.d (eo.fx h1.hD)) kQ eo.s.has ?_;rintro _ xN w2 X2 ⟨vb,rfl,yT⟩ lK ko bH;have aqc:=(yT.sl.mono ko).gV;have uH:=aB.trans bH;have Pj:=wA.since uH;have asw:=hrc.mv uH.mv;have eN:L.fh=bV L.dir L.last.first:=rfl
   have eE:LD.Gt ⟨L,m⟩ n=decide (L.bJ≠[]/\((m.bytes (bV L.dir L.last.first)).length≠L.last.size\/n≠L.next)):=rfl;rw[eE] at hK eJ;have da:=hT.since uH;have h2:=h.mv (uH.gY hT.bg);clear hs wA hrc;repeat' first|refine aq ?_;intros|refine dg ?_ ?_<;>intros
   ·rw[eJ,if_pos (by simp only[decide_eq_true_eq];exact⟨cu,.inl zQ⟩)];exact da.fin λwa aL=>⟨rfl,F,da.jv aL λ_ h=>h,(h2.mv (aL.jj da.bg)).lg⟩
   ·rw[eJ,if_pos (by simp only[decide_eq_true_eq];exact⟨cu,.inr zQ⟩)];exact da.fin λwa aL=>⟨rfl,F,da.jv aL λ_ h=>h,(h2.mv (aL.jj da.bg)).lg⟩
   ·exact hK _ _ (by simp only[decide_eq_false_iff_not];rintro⟨_,h|h⟩<;>omega) uH
theorem ady (h:Lg w F lb db L m) (hL:pT L) (hF:FX F X w):
  Ct pg 129 #[ptr lb 0] w X F λv wa w'=>v=I (LD.He ⟨L,m⟩).2/\ ∃F',(∀k,F' k->F k\/made wa w' k)/\Lg w' F' lb db (LD.He ⟨L,m⟩).1.L (LD.He ⟨L,m⟩).1.m:=by
 intro w0 hk;obtain⟨FL,FD,sv,bl,h⟩:=(h.mv (hF.mv hk)).lw;have hT:=hF.ft hk;have oK:FX F (bP w0) w0:=hF.kp hk;obtain⟨rK,s,rfl,he,E8⟩:=h.l.last hL;have hX:=λk ah=>(oK k (h.hL k ah)).1;have lJ:s∈rK++[s]:=by simp
 have hb:=h.l.box.mv (Mv.sub hX);have wA:=(h.l.row s lJ).mv (Mv.sub hX);have Fc:s.first=L.last.first:=by rw[<-he];rfl
 have gh:s.size=L.last.size:=by rw[<-he];rfl
 have XQ:=hL.yY _ (LM.yb hL.ne);have rH:=hL.d2;have eM:LD.He ⟨L,m⟩=if L.last.size<(m.bytes (bV L.dir L.last.first)).length then
   if(m.cut (bV L.dir L.last.first) L.last.size).2≠0 then(⟨L,(m.cut (bV L.dir L.last.first) L.last.size).1⟩,(m.cut (bV L.dir L.last.first) L.last.size).2)else LD.sync ⟨L,(m.cut (bV L.dir L.last.first) L.last.size).1⟩
  else LD.sync ⟨L,m⟩:=rfl
 refine QV.1 λhs=>?_;refine cM (yG h.l λk ah=>oK k (h.hL k ah)) kQ hs.has ?_;rintro _ DX w1 X1 rfl qw nY aB;have mc:=hb.since aB;have XR:=wA.since aB;clear hs hb wA;have hs:=ai.fL aB.has;repeat' refine aq ?_;intros
 rw[Fc];refine cM (yF zQ zQ) kQ aB.has ?_;rintro _ xN w2 X2 rfl lK ko bH;have xh:=mc.since bH;have Pj:=XR.since bH;have uH:=aB.trans bH;have da:=hT.since uH;have h2:=h.mv (uH.gY hT.bg);clear hs mc XR;refine ib (Q:=λK=> ∀w1 X1 F1 m1,LD.He ⟨L,m⟩=LD.sync ⟨L,m1⟩->Ft w0 F w1 X1 F1->Lg w1 F1 lb db L m1->K w1 X1) ?_ λK hK=>?_
 ·intro w3 X3 F3 m3 e3 dU h3
  skip
  refine dU.call (IN h3 hL (dU.fx λ_ h=>h)) kQ (λ_ h=>h) λv zB w4 X4 hq tJ py fR Fe=>?_;obtain⟨rfl,F4,hF4,h4⟩:=hq;rw[e3];have Ad:=fR.less hF4
  skip
  exact Ad.fin λwa aL=>⟨rfl,F4,Ad.jv aL λ_ h=>h,h4.mv (aL.jj Ad.bg)⟩
 ·have hs:=ai.fL da.s.has;repeat' refine aq ?_;intros
  refine cM (Hd (n:=bV L.dir L.last.first) h2.d (da.fx h2.hD)) kQ da.s.has ?_;rintro _ zA w3 X3 ⟨vb,rfl,yT⟩ rn mX dt;have aqc:=(yT.sl.mono mX).gV;have Gf:=DM.Ls h.d (bV L.dir L.last.first);have dU:=da.since dt;have h3:=h2.mv (dt.gY da.bg);have rW:=xh.since dt;have aqd:=Pj.since dt;clear hs xh Pj;have hs:=ai.fL dU.s.has;repeat' first|refine aq ?_;intros|refine dg ?_ ?_<;>intros
  ·rw[if_pos zQ] at eM;rw[gh];refine dU.call (adq (k:=L.last.size) (n:=bV L.dir L.last.first) h3.d (dU.fx h3.hD) zQ) kQ h3.hD λv zB w4 X4 hq tJ py fR Fe=>?_;obtain⟨rfl,Oy,Pk,hD⟩:=hq;have h4:=h3.Pm (dU.fx λ_ h=>h) tJ Fe Pk hD;generalize D3:m.cut (bV L.dir L.last.first) L.last.size=ms at h4 eM⊢;repeat' first|refine aq ?_;intros|refine dg ?_ ?_<;>intros
   ·have hz:ms.2≠0:=by have: ¬(ms.2:Int)=0:=(by assumption);omega
    rw[if_pos hz] at eM;rw[eM];exact fR.fin λwa aL=>⟨rfl,_,fR.jv aL λ_ h=>h,(h4.mv (aL.jj fR.bg)).lg⟩
   ·have hz:ms.2=0:=by have:(ms.2:Int)=0:=(by assumption);omega
    rw[if_neg zQ] at eM;exact hK _ _ _ ms.1 eM fR h4.lg
  ·rw[if_neg zQ] at eM;exact hK _ _ F m eM dU h3.lg
structure XT (L:LM):Prop where
 d1:1<=L.dir.size
 d2:L.dir.size<=11
 yY: ∀s∈L.bJ,s.first+s.bw.length<=2^40/\s.size<=2^40
 room:L.room<=2^40
def XT.Lu (h:XT L) (cu:L.bJ≠[]):pT L:=⟨cu,h.d1,h.d2,h.yY,h.room⟩
variable {x : LD}
theorem XT.join {n:Nat} (h:XT x.L) (hn:n<=100000000) (hb:(x.m.bytes nm).length<=4194304):XT (x.join n nm).1.L/\(x.join n nm).1.m=x.m/\(x.join n nm).1.L.dir=x.L.dir/\(x.join n nm).1.L.bJ.length<=x.L.bJ.length+1:=by
 unfold LD.join;split
 ·exact⟨h,rfl,rfl,by simp⟩
 ·refine⟨⟨h.d1,h.d2,λs hs=>?_,h.room⟩,rfl,rfl,by simp⟩;rcases List.mem_append.1 hs with hs|hs
  ·exact h.yY s hs
  ·simp only[ax] at hs;subst hs;have:=Ug _ (x.m.bytes nm) (au _)
   show n+(jo (x.m.bytes nm)).1.length<=2^40/\(jo (x.m.bytes nm)).2<=2^40
   omega
theorem adz {sz:Nat} (h:Dk w F db m) (hF:FX F X w) (zD: ∀x∈m.fs,x.1.size<=2^40) (iP:m.fs.length<=2^29) (Gu: ∀n,∀b∈m.bytes n,b<256)
  (h1:1<=dir.size) (h2:dir.size<=11) (aB:64<=sz) (bH:sz<=262144):
  Ct pg 75 #[ptr db 0,.string dir,I sz] w X F λv wa w'=> ∃lb F',v= .tuple #[if(LD.BW dir sz m).2=0 then ptr lb 0 else .pointer none,I (LD.BW dir sz m).2]/\(∀k,F' k->F k\/made wa w' k)/\
   Dk w' F' db (LD.BW dir sz m).1.m/\((LD.BW dir sz m).2=0->Lg w' F' lb db (LD.BW dir sz m).1.L (LD.BW dir sz m).1.m):=by
 intro w0 hk;replace h:=h.mv (hF.mv hk);have hT:=hF.ft hk;have oK:FX F (bP w0) w0:=hF.kp hk;have eO:LD.BW dir sz m=if m.dn then(⟨L0 dir sz,m⟩,12)else
   if(LD.pJ ⟨L0 dir sz,m⟩ (fT (m.fs.map (·.1)))).2≠0 then LD.pJ ⟨L0 dir sz,m⟩ (fT (m.fs.map (·.1)))else
    if(LD.pJ ⟨L0 dir sz,m⟩ (fT (m.fs.map (·.1)))).1.L.bJ=[] then(LD.pJ ⟨L0 dir sz,m⟩ (fT (m.fs.map (·.1)))).1.iI 1 else(LD.pJ ⟨L0 dir sz,m⟩ (fT (m.fs.map (·.1)))).1.He:=rfl
 generalize hr:LD.BW dir sz m=r at eO⊢;refine aa0.1 λ_=>?_;refine cM (adA (n:=1) h1 h2 zQ zQ) kQ hT.s.has ?_;rintro _ DX w1 X1 rfl qw nY XA;replace hT:=hT.since XA;replace h:=h.mv (XA.gY λk ah=>(oK k ah).1);repeat' refine aI ?_;intros
 refine ff (aa1 h (hT.fx λ_ h=>h)) kQ hT.s.has λw2 X2 yc=>?_;replace h:=h.mv (yc.gY hT.bg);replace hT:=hT.since yc;cases jT:m.dn with
 |true=>
  rw[jT,if_pos rfl] at eO;subst eO;repeat' refine aq ?_;intros
  exact hT.fin λwa aL=>⟨0,F,rfl,hT.jv aL λ_ h=>h,h.mv (aL.jj hT.bg),λe=>by cases e⟩
 |false=>
  rw[jT,if_neg pI] at eO;repeat' refine aq ?_;intros
  refine Bj hT.s.has λlb w3 X3 zw dt bt=>?_;have h3:=h.mv (dt.gY hT.bg);have dU:=hT.since dt;have hFl: ∀k,F k->k<w2.heap.size:=λk ah=>hT.s.has k (hT.bg k ah);have Ff:Ft w0 F w3 X3 (λk=>F k\/k=lb):=dU.more λk ah=>ah.imp id λe=>by
   subst e;have:=hT.s.kp.size;exact⟨bt.1,by omega⟩
  have g3:Lg w3 (λk=>F k\/k=lb) lb db (L0 dir sz) m:=
   ⟨(· =lb),F,.slice none 0 0,[],λk a b=>by have:=hFl k b;omega,λ_ h=>.inr h,λ_ h=>.inl h,
    ⟨rfl,⟨rfl,bt.2⟩,⟨by simp,.inl ⟨rfl,rfl⟩⟩,by simp,by simp,by simp,List.Pairwise.nil⟩,h3⟩
  refine cM (Ox h3 (dU.fx λ_ h=>h) zD zQ) kQ dU.s.has ?_;rintro vl zB w4 X4 hol tJ py gd;have fR:=Ff.since gd;have g4:=g3.mv (gd.gY Ff.bg);have hGl: ∀k,(F k\/k=lb)->k<w3.heap.size:=λk ah=>ah.elim (λah=>by have:=hFl k ah;have:=dt.kp.size;omega) λe=>by subst e;exact bt.lt
  have lE:Sl w4 (λk=>X4 k/\ ¬(F k\/k=lb)) 1 vl ((fT (m.fs.map (·.1))).map S1):=hol.sl.mono λk ah=>⟨py k ah,λhf=>by have:=hGl k hf;have:=ah.1;omega⟩;have hB:ai (λk=>X4 k/\ ¬(F k\/k=lb)) w4 X4 w4:=⟨Kp.refl _ _,λk h=>h.1,fR.s.has⟩;have aqe:=fR.s.has;have al0: ∀n∈fT (m.fs.map (·.1)),n.size<=2^40:=λn hn=>by
   have:=(kU (m.fs.map (·.1))).mem_iff.1 hn;obtain⟨x,hx,rfl⟩:=List.mem_map.1 this;exact zD x hx
  have hnl:(fT (m.fs.map (·.1))).length=m.fs.length:=by rw[(kU _).length_eq,af]
  generalize fT (m.fs.map (·.1))=ns at lE eO al0 hnl;obtain⟨nb,nn,nc,rfl⟩:=lE.form;clear hT dU Ff g3 h3 h bt hol;repeat' refine aq ?_;intros
  refine fY (λn' a w X=> ∃(i:Nat) (F1:XS) (x:LD),a=I i/\n'=ns.length-i/\i<=ns.length/\LD.pJ ⟨L0 dir sz,m⟩ ns=x.pJ (ns.drop i)/\XT x.L/\x.m=m/\x.L.dir=dir/\x.L.bJ.length<=i/\Ft w0 F w X F1/\Lg w F1 lb db x.L x.m/\
   (∀k,F1 k->(F k\/k=lb)\/w4.heap.size<=k)/\ai (λk=>X4 k/\ ¬(F k\/k=lb)) w4 X w) ns.length
   ⟨0,_,⟨L0 dir sz,m⟩,rfl,rfl,ak _,rfl,⟨h1,h2,by simp[L0],by show sz<=_;omega⟩,rfl,rfl,au _,fR,g4,λk ah=>.inl ah,hB⟩ ?_
  clear fR g4 hB;rintro n' a w5 X5 ⟨i,F1,x,rfl,rfl,hi,Gv,KK,hxm,hxd,Uh,iQ,h5,ahS,hB⟩;obtain⟨FL,FD,sv,bl,hW⟩:=h5.lw;have BS:=hW.l.box.mv (Mv.sub λk ah=>iQ.bg k (hW.hL k ah));have hsv:=hW.l.so.sl.mono λk ah=>iQ.bg k (hW.hL k ah);have Gf:bl.length=x.L.bJ.length:=by rw[hW.l.bJ,af]
  have asx:=lE.mv hB.mv;rcases dB ns i with⟨cI,nm,mL,hd⟩|⟨dC,hd⟩
  ·have asy:=al0 nm (av mL);rw[hd] at Gv;have eJ:x.pJ (nm::ns.drop (i+1))=if si x.L.dir nm=0 then x.pJ (ns.drop (i+1))else if(x.join (si x.L.dir nm) nm).2≠0 then x.join (si x.L.dir nm) nm else(x.join (si x.L.dir nm) nm).1.pJ (ns.drop (i+1)):=rfl
   rw[eJ,hxd] at Gv;have hnN:=akk dir nm;repeat' refine aI ?_;intros
   refine ib (Q:=λK=> ∀w X F1 x,LD.pJ ⟨L0 dir sz,m⟩ ns=LD.pJ x (ns.drop (i+1))->XT x.L->x.m=m->x.L.dir=dir->x.L.bJ.length<=i+1->Ft w0 F w X F1->Lg w F1 lb db x.L x.m->(∀k,F1 k->(F k\/k=lb)\/w4.heap.size<=k)->
    ai (λk=>X4 k/\ ¬(F k\/k=lb)) w4 X w->K w X) ?_ λK hK=>?_
   ·intro w X F1 x q1 q2 q3 q4 q5 q6 q7 q8 q9;repeat' refine aq ?_;intros
    exact ey (ns.length-(i+1)) zQ ⟨i+1,F1,x,by simp,rfl,by omega,q1,q2,q3,q4,q5,q6,q7,q8,q9⟩
   ·repeat' refine aq ?_;intros
    refine ff (XO (dir:=dir) (name:=nm) zQ zQ) kQ iQ.s.has λw6 X6 sU=>?_;have ku:=iQ.since sU;have h6:=h5.mv (sU.gY iQ.bg);have hB6:=hB.trans sU;repeat' first|refine aq ?_;intros|refine dg ?_ ?_<;>intros
    ·rw[if_pos zQ] at Gv;exact hK _ _ F1 x Gv KK hxm hxd zQ ku h6 ahS hB6
    ·rw[if_neg zQ] at Gv;obtain⟨j1,j2,j3,j4⟩:=KK.join (n:=si dir nm) (nm:=nm) zQ (DM.Ls hW.d nm);refine ku.call (adu (n:=si dir nm) (nm:=nm) h6 (λcu=>KK.Lu cu) KK.d2 zQ zQ (by rw[hxm];exact Gu nm) (ku.fx λ_ h=>h)) kQ (λ_ h=>h) λv QA w7 X7 hq Ss Ha Dh QG=>?_;obtain⟨rfl,F7,hF7,h7⟩:=hq;have ex:x.join (si dir nm) nm=LD.join ⟨x.L,x.m⟩ (si dir nm) nm:=rfl;rw[ex] at Gv j1 j2 j3 j4;generalize hq:LD.join ⟨x.L,x.m⟩ (si dir nm) nm=q at Gv h7 j1 j2 j3 j4⊢;have SA:=Dh.less hF7;have hB7:ai (λk=>X4 k/\ ¬(F k\/k=lb)) w4 X7 w7:=hB6.dT QG λk ah hf=>by
      rcases ahS k hf with hf|hf
      ·exact ah.2 hf
      ·have:=aqe k ah.1;omega
     have aqf: ∀k,F7 k->(F k\/k=lb)\/w4.heap.size<=k:=λk ah=>(hF7 k ah).elim (λh=>ahS k h) λh=>.inr (by have:=h.1;have:=hB6.kp.size;omega);repeat' first|refine aq ?_;intros|refine dg ?_ ?_<;>intros
     ·have hz:q.2≠0:=by have: ¬(q.2:Int)=0:=(by assumption);omega
      rw[if_pos hz] at Gv;rw[Gv,if_pos hz] at eO;subst eO;obtain⟨FL7,FD7,sv7,bl7,hW7⟩:=h7.lw;exact SA.fin λwa aL=>⟨lb,F7,by rw[if_neg hz],SA.jv aL λ_ h=>h,(hW7.d.mono hW7.hD).mv (aL.jj SA.bg),λe=>absurd e hz⟩
     ·have hz:q.2=0:=by have:(q.2:Int)=0:=(by assumption);omega
      rw[if_neg zQ] at Gv;refine hK _ _ F7 q.1 Gv j1 (by rw[j2];exact hxm) (by rw[j3];exact hxd) zQ SA h7 aqf hB7
  ·have lU:i=ns.length:=by omega
   subst lU;rw[hd] at Gv;have ejn:x.pJ []=(x,0):=rfl;rw[ejn] at Gv;rw[Gv,if_neg sQ] at eO;dsimp only at eO;repeat' first|refine aI ?_;intros|refine dg ?_ ?_<;>intros
   ·have ahT:x.L.bJ=[]:=List.eq_nil_of_length_eq_zero zQ;rw[if_pos ahT] at eO;refine iQ.call (QW (n:=1) h5 KK.d2 zQ zQ (iQ.fx λ_ h=>h)) kQ (λ_ h=>h) λv wa6 w6 X6 hq6 XU Lt ku hc6=>?_;obtain⟨rfl,F6,hF6,h6⟩:=hq6;have Ae:Ft w0 F w6 X6 F6:=ku.less hF6;have ex:LD.iI ⟨x.L,x.m⟩ 1=r:=eO.symm;rw[ex] at h6⊢;obtain⟨FL6,FD6,sv6,bl6,QX⟩:=h6.lw;repeat' first|refine aq ?_;intros|refine dg ?_ ?_<;>intros
    ·have hz:r.2≠0:=by have: ¬(r.2:Int)=0:=(by assumption);omega
     exact Ae.fin λwa aL=>⟨lb,F6,by rw[if_neg hz],Ae.jv aL λ_ h=>h,(QX.d.mono QX.hD).mv (aL.jj Ae.bg),λe=>absurd e hz⟩
    ·have hz:r.2=0:=by have:(r.2:Int)=0:=(by assumption);omega
     exact Ae.fin λwa aL=>⟨lb,F6,by rw[if_pos hz,hz];rfl,Ae.jv aL λ_ h=>h,(QX.d.mono QX.hD).mv (aL.jj Ae.bg),λ_=>h6.mv (aL.jj Ae.bg)⟩
   ·have cu:x.L.bJ≠[]:=λe=>by
     have:x.L.bJ.length=0:=by rw[e];rfl
     omega
    rw[if_neg cu] at eO;refine iQ.call (ady h5 (KK.Lu cu) (iQ.fx λ_ h=>h)) kQ (λ_ h=>h) λv wa6 w6 X6 hq6 XU Lt ku hc6=>?_;obtain⟨rfl,F6,hF6,h6⟩:=hq6;have Ae:Ft w0 F w6 X6 F6:=ku.less hF6;have ex:LD.He ⟨x.L,x.m⟩=r:=eO.symm;rw[ex] at h6⊢;obtain⟨FL6,FD6,sv6,bl6,QX⟩:=h6.lw;repeat' first|refine aq ?_;intros|refine dg ?_ ?_<;>intros
    ·have hz:r.2≠0:=by have: ¬(r.2:Int)=0:=(by assumption);omega
     exact Ae.fin λwa aL=>⟨lb,F6,by rw[if_neg hz],Ae.jv aL λ_ h=>h,(QX.d.mono QX.hD).mv (aL.jj Ae.bg),λe=>absurd e hz⟩
    ·have hz:r.2=0:=by have:(r.2:Int)=0:=(by assumption);omega
     exact Ae.fin λwa aL=>⟨lb,F6,by rw[if_pos hz,hz];rfl,Ae.jv aL λ_ h=>h,(QX.d.mono QX.hD).mv (aL.jj Ae.bg),λ_=>h6.mv (aL.jj Ae.bg)⟩
def LM.has (L:LM) (n:Nat) (p:List Nat):Prop:= ∃(j:Nat) (s:dV),L.bJ[j]? =some s/\s.first<=n/\(∀(i:Nat) (t:dV),j<i->L.bJ[i]? =some t->n<t.first)/\s.bw[n-s.first]? =some p
variable {sv : Value}
theorem ahU {n:Nat} {bl:List nf} (h:zG w F lb db sv bl L) (hL:pT L) (hp:L.has n p) (wy:p.length<=2^40) (hF:FX F X w):
  Ct pg 131 #[ptr lb 0,I n] w X nX λv wa w'=>Own w' (made wa w') wa.heap.size 5 1 v (p.map U1):=by
 intro w0 hk;replace h:=h.mv (hF.mv hk);have hX:=λk ah=>(hF.kp hk k ah).1;have hb:=h.box.mv (Mv.sub hX);have zF:=h.so.sl.mono hX;have Lv:=h.bJ;obtain⟨j,sm,hj,iP,Ln,al1⟩:=hp;have lW:=hL.yY sm (av hj);have pM:=(List.getElem?_eq_some_iff.1 al1).1;rw[Lv,cN] at hj;obtain⟨s,hbj,rfl⟩: ∃s,bl[j]? =some s/\s.er=sm:=by
  cases hq:bl[j]? with
  |none=>rw[hq] at hj;cases hj
  |some s=>exact⟨s,rfl,by rw[hq] at hj;exact cA hj⟩
 have D4:=(List.getElem?_eq_some_iff.1 hbj).1;have asz:s.first<=n:=iP
 have aqg:s.first+(s.rs.map (·.2)).length<=2^40:=lW.1
 have aqh:n-s.first<(s.rs.map (·.2)).length:=pM
 rw[af] at aqg aqh;obtain⟨r,hr,hrp⟩: ∃r,s.rs[n-s.first]? =some r/\r.2=p:=by
  have h9:(s.rs.map (·.2))[n-s.first]? =some p:=al1;rw[cN] at h9;cases hq:s.rs[n-s.first]? with
  |none=>rw[hq] at h9;cases h9
  |some r=>exact⟨r,rfl,by rw[hq] at h9;exact cA h9⟩
 have hlen:=zF.gV;refine Vo.1 λhs=>?_;repeat' refine aq ?_;intros
 refine fY (λm a w X=> ∃i:Nat,a=I i/\m=i-j/\j<=i/\i<bl.length/\ai (bP w0) w0 X w) (bl.length-1-j) ⟨bl.length-1,congrArg I zQ,rfl,by omega,by omega,hs⟩ ?_;clear hs;rintro m a w1 X1 ⟨i,rfl,rfl,EG,lU,hs⟩;obtain⟨t,Qi⟩: ∃t,bl[i]? =some t:=⟨_,aS lU⟩;have Ui:aH w0 (bP w0) t.b [I t.first,t.rv,I t.size] 238:=(h.row t (av Qi)).mv (Mv.sub hX);by_cases wq:i=j
 ·subst wq;rw[Qi] at hbj;obtain rfl:=cA hbj;have hrc:=(h.AD t (av Qi)).sl.mono hX;have Gu:=(h.H4 t (av Qi) r (av hr)).sl.mono hX;rw[hrp] at Gu;have HM:=hs.kp.size;repeat' first|refine aI ?_;intros|(refine QR hs ?_;intro acc w X hs ho)
  refine qK (ho.low HM) hs (λ_ h=>h) kQ (Gu.mv hs.mv) (by intro r hr u hu;obtain⟨x,_,rfl⟩:=List.mem_map.1 hr;simp only[U1,ax] at hu;subst hu;rfl) oQ oQ λv8 w8 X8 lV Bi hc8 XH=>?_;exact cH lV λwa aL=>(Bi.kp aL).tight
 ·have asA:n<t.first:=Ln i t.er zQ (by rw[Lv,cN,Qi];rfl)
  repeat' refine aI ?_;intros
  exact ey (i-1-j) zQ ⟨i-1,congrArg I zQ,rfl,by omega,by omega,hs⟩
variable {s : dV}
theorem adB {n:Nat} {bl:List nf} {r:List dV} (h:zG w F lb db sv bl L) (hL:pT L) (hp:L.has n p) (wy:p.length<=2^40) (hs:L.bJ=s::r) (h1:s.first<=n) (h2:n<L.next) (hF:FX F X w):
  Ct pg 78 #[ptr lb 0,I n] w X nX λv wa w'=> ∃vb,v= .tuple #[vb,I 0]/\Own w' (made wa w') wa.heap.size 5 1 vb (p.map U1):=by
 intro w0 hk;replace h:=h.mv (hF.mv hk);have oK:FX F (bP w0) w0:=hF.kp hk;have hX:=λk ah=>(oK k ah).1;have fx: ∀{w X},ai (bP w0) w0 X w->FX F X w:=λhs k ah=>⟨hs.sub k (hX k ah),hs.has k (hs.sub k (hX k ah))⟩;refine QY.1 λ_=>?_;have gw:=ai.init w0;refine ff (Oz h hs oK) kQ gw.has λw1 X1 aB=>?_;repeat' refine aI ?_;intros
 refine ib (Q:=λK=> ∀w X,ai (bP w0) w0 X w->K (I L.next) w X) ?_ λK hK=>?_
 ·intro w2 X2 bH;repeat' refine aI ?_;intros
  refine cM (ahU (h.mv (bH.gY hX)) hL hp wy (fx bH)) kQ bH.has ?_;rintro vb zA w3 X3 ho rn mX dt;exact cH (bH.trans dt) λwa aL=>⟨vb,rfl,((ho.up mX (by have:=bH.kp.size;omega)).kp aL).tight⟩
 ·repeat' refine aq ?_;intros
  refine ff (Ei (h.mv (aB.gY hX)) hL (fx aB)) kQ aB.has λw2 X2 bH=>?_;exact hK _ _ (aB.trans bH)
theorem pT.tail {t:dV} {r:List dV} (h:pT L) (hs:L.bJ=s::t::r):pT { L with bJ:=t::r } :=
 ⟨by simp,h.d1,h.d2,λx hx=>h.yY x (by rw[hs];exact bG _ hx),h.room⟩
def DM.ks (m:DM):List ByteArray:=m.fs.map (·.1)
theorem DM.get_some:(m.get n).isSome=true↔n∈m.ks:=by
 have h:=getM_none (k:=n) (l:=m.fs)
 show(getM n m.fs).isSome=true↔n∈m.fs.map (·.1)
 cases hg:getM n m.fs with
 |none=>grind
 |some x=>
  grind
theorem DM.wB (m:DM):m.ks.length=m.fs.length:=by simp[DM.ks]
structure mQ (m:DM):Prop where
 ar:m.ar=0
 dn:m.dn=false
theorem mQ.tick (h:mQ m):mQ m.tick:=by
 unfold DM.tick;rw[if_neg (by rw[h.ar];decide)];exact⟨by simp[h.ar],h.dn⟩
theorem mQ.write (h:mQ m) (f:DM->DM):m.write 0 f=(f m.tick,0):=by
 unfold DM.write;rw[if_neg (by rw[h.dn];simp),if_neg sQ,if_neg (by rw[h.tick.dn];simp)]
theorem mQ.afC (h:mQ m) {e:Nat} (he:e≠0) (f:DM->DM):m.write e f=(m,e):=by
 unfold DM.write;rw[if_neg (by rw[h.dn];simp),if_pos he]
theorem mQ.create (h:mQ m) (hn:wC n=true) (hk: ¬n∈m.ks):
  (64<=m.fs.length/\m.create n=(m,3))\/(m.fs.length<64/\(m.create n).2=0/\mQ (m.create n).1/\(m.create n).1.ks=m.ks++[n]/\(m.create n).1.sz=m.sz):=by
 have hg: ¬(m.get n).isSome=true:=λe=>hk (DM.get_some.1 e);unfold DM.create;rw[if_neg (by simp[hn]),if_neg hg];by_cases hl:64<=m.fs.length
 ·left;rw[if_pos hl];exact⟨hl,h.afC dQ _⟩
 ·right;rw[if_neg hl,h.write];refine⟨by omega,rfl,⟨h.tick.ar,h.tick.dn⟩,?_,?_⟩
  ·show(cU n ([],0) m.tick.fs).map (·.1)=_
   rw[yd,m.AE,if_neg (show¬(getM n m.fs).isSome=true from hg)];rfl
  ·have:m.tick.get n=none:=by rw[m.qz];simpa using hg
   rw[DM.SB this,m.yH];simp
theorem mQ.append (h:mQ m) (hk:n∈m.ks) (gh:m.sz+b.length<=4194304):
  (m.append n b).2=0/\mQ (m.append n b).1/\(m.append n b).1.ks=m.ks/\(m.append n b).1.sz=m.sz+b.length:=by
 have hg:=DM.get_some.2 hk;unfold DM.append;rw[if_neg (by rw[h.dn];simp)];cases hx:m.get n with
 |none=>grind
 |some x=>
  obtain⟨bs,s⟩:=x;dsimp only;rw[if_neg zQ];refine⟨by rw[if_neg (by rw[h.tick.dn];simp)],⟨h.tick.ar,h.tick.dn⟩,?_,?_⟩
  ·show(cU n (bs++b,s) m.tick.fs).map (·.1)=_
   rw[yd,m.AE,if_pos (show(getM n m.fs).isSome=true from hg)];rfl
  ·have:m.tick.get n=some (bs,s):=by rw[m.qz];exact hx
   have:=DM.Lo (bs:=bs++b) (s':=s) this;rw[m.yH,aa] at this
   grind
theorem mQ.sync (h:mQ m) (hk:n∈m.ks):(m.sync n).2=0/\mQ (m.sync n).1/\(m.sync n).1.ks=m.ks/\(m.sync n).1.sz=m.sz:=by
 have hg:=DM.get_some.2 hk;unfold DM.sync;rw[if_pos hg,h.write];have Ln:(m.tick.get n).isSome=true:=by rw[m.qz];exact hg
 refine⟨rfl,?_,?_,by dsimp only;rw[DM.Fg,m.yH]⟩
 ·unfold DM.kD;dsimp only;split
  ·exact h.tick
  ·exact⟨h.tick.ar,h.tick.dn⟩
 ·unfold DM.kD;dsimp only;split
  ·grind
  ·rename_i x hx
   show(cU n _ m.tick.fs).map (·.1)=_
   rw[yd,m.AE,if_pos (show(getM n m.fs).isSome=true from hg)];rfl
theorem XV: ∀{k a b:Nat},a<10^k->b<10^k->qB k a=qB k b->a=b
 |0,a,b,ha,hb,_=>by omega
 |k+1,a,b,ha,hb,h=>by
  unfold qB at h;obtain⟨h1,h2⟩:=List.append_inj' h rfl;have:=XV (k:=k) (a:=a/10) (b:=b/10) zQ zQ h1
  grind
theorem M7: ∀(k n:Nat),∀x∈qB k n,x<256
 |0,_,x,h=>by cases h
 |k+1,n,x,h=>by
  unfold qB at h;rcases List.mem_append.1 h with h|h
  ·exact M7 k _ x h
  grind
theorem ahV {a:List Nat} (ha: ∀x∈a,x<256) (hb: ∀x∈b,x<256) (h:Cl a=Cl b):a=b:=by
 unfold Cl at h;have h1:(a.map ot)=b.map ot:=by
  have:=congrArg (λx:ByteArray=>x.data.toList) h;simpa using this
 have h2:=congrArg (List.map UInt8.toNat) h1;simp only[cd] at h2;have e: ∀l:List Nat,(∀x∈l,x<256)->l.map (UInt8.toNat∘ot)=l:=λl hl=>by
  refine(eB λx hx=>?_).trans (xj l);simp_all
 simp_all
theorem Lw {b:Nat} (ha:a<10^8) (hb:b<10^8) (h:bV dir a=bV dir b):a=b:=by
 unfold bV at h;have h1:=congrArg (λx:ByteArray=>x.data.toList) h;simp only[ByteArray.data_append,Array.toList_append] at h1;refine XV ha hb (ahV (M7 _ _) (M7 _ _) ?_);simp_all
theorem ab1 {α:Type} [LT α] [DecidableEq α]: ∀{a b:List α} {u v:List α},a<b->a.length=b.length->a++u<b++v
 |[],[],_,_,h,_=>absurd h (List.not_lt_nil _)
 |[],_::_,_,_,_,hl=>by simp at hl
 |_::_,[],_,_,_,hl=>by simp at hl
 |x::a,y::b,u,v,h,hl=>by
  rw[j8,j8,xk];rcases List.cons_lt_cons_iff.1 h with h1|⟨h1,h2⟩
  ·grind
  ·exact .inr ⟨h1,ab1 h2 gQ⟩
theorem afD: ∀{k a b:Nat},a<b->b<10^k->(qB k a).map ot<(qB k b).map ot
 |0,a,b,h,hb=>by omega
 |k+1,a,b,h,hb=>by
  unfold qB;rw[aC,aC];have xh:b/10<10^k:=by rw[se] at hb;omega
  by_cases hq:a/10=b/10
  ·rw[hq];refine yW ?_;rw[bh,bh,xk];refine .inl ?_;rw[UInt8.lt_iff_toNat_lt,yX,yX];omega
  ·exact ab1 (afD zQ xh) (by rw[af,af,vL,vL])
theorem Pn (dir:ByteArray) (n:Nat):bl (bV dir n)=(dir.data.toList++[46])++(qB 8 n).map ot:=by
 unfold bl bV Cl;simp_all
theorem aa2 {b:Nat} (h:a<b) (hb:b<100000000):bl (bV dir a)<bl (bV dir b):=by
 rw[Pn,Pn];exact yW (afD h hb)
theorem aa3 {ns:List Nat} {ks:List ByteArray} (hp:ks.Perm (ns.map (bV dir))) (hs:ns.Pairwise (· < ·)) (hb: ∀n∈ns,n<100000000):fT ks=ns.map (bV dir):=by
 rw[ahW hp];unfold fT;rw[List.mergeSort_of_pairwise]
 ·rw[cd];refine(eB λx _=>?_).trans (xj _);rfl
 ·rw[AB,AB];refine hs.imp_of_mem λ{a b} _ OA xg=>?_;unfold leB;exact decide_eq_true (List.le_of_lt (aa2 xg (hb b OA)))
theorem afE (h: ∀x∈l,x<256):vK (Cl l)=l:=by
 unfold vK Cl;rw[List.toList_toArray,cd];refine(eB λx hx=>?_).trans (xj l);simp_all
theorem XW: ∀(k n:Nat) (l:List Nat) (a:Nat),DI (qB k n++l) a=DI l (a*10^k+n % 10^k)
 |0,n,l,a=>by simp[qB,Nat.mod_one]
 |k+1,n,l,a=>by
  unfold qB;rw[ao,XW k (n/10)];rw[j8,bp,Uf,if_neg zQ]
  congr 1
  have h1:n % 10^(k+1)=n/10 % 10^k*10+n % 10:=by
   rw[se,Nat.mul_comm (10^k) 10,Nat.mod_mul];omega
  rw[h1,se,Nat.add_mul,Nat.mul_assoc];omega
theorem adC {n:Nat} (hn:n<100000000):si dir (bV dir n)=n:=by
 have gh:=Bl dir n;have hd:dir.data.toList.length=dir.size:=by rw[Array.length_toList];rfl
 have e:(bV dir n).data.toList=(dir.data.toList++[46])++(qB 8 n).map ot:=Pn dir n;have h1:(bV dir n).extract 0 dir.size=dir:=by
  apply D1;apply Array.toList_inj.1;rw[wz,xX,e,ao];rw[tX];simp only[List.drop_zero,Nat.sub_zero];exact im hd
 have h2:(bV dir n).data.toList[dir.size]? =some 46:=by
  rw[e,ao,List.getElem?_append_right zQ,hd,Nat.sub_self];rfl
 have h3:(bV dir n).extract (dir.size+1) (bV dir n).size=Cl (qB 8 n):=by
  apply D1;apply Array.toList_inj.1;rw[wz,xX,e,tX,gh];rw[ka (by simp_all)];rw[az (by rw[af,vL];omega)];rfl
 unfold si;rw[if_pos ⟨gh,h1,h2⟩,h3,afE (M7 8 n)];have h4:=XW 8 n [] 0;rw[fM] at h4;rw[h4]
 show 0*10^8+n % 10^8=n
 grind
theorem Lx {s:Nat} (h:(m.get n).isSome=true):(m.put n b s).ks=m.ks:=by
 show(cU n (b,s) m.fs).map (·.1)=_
 rw[yd,if_pos (show(getM n m.fs).isSome=true from h)];rfl
theorem rQ {s:Nat} :(m.put n b s).get n=some (b,s):=jK
theorem Ly {k:ByteArray} {s:Nat} (h:k≠n):(m.put n b s).get k=m.get k:=pO h
theorem akm {x:DM×Nat} :(DM.uE cT x n).1.ks=x.1.ks:=by
 unfold DM.uE;split
 ·rfl
 ·rename_i b s hg;split
  ·rfl
  ·exact Lx (by rw[hg];rfl)
theorem QZ {x:DM×Nat} {k:ByteArray} (h:k≠n):(DM.uE cT x n).1.get k=x.1.get k:=by
 unfold DM.uE;split
 ·rfl
 ·split
  ·rfl
  ·exact Ly h
theorem afF {x:DM×Nat} {s:Nat} (h:x.1.get n=some (b,s)) (hs:s<=b.length):
  ∃k,k<=b.length-s/\(DM.uE cT x n).1.get n=some (b.take (s+k),s+k)/\(cT=[]->k=0):=by
 unfold DM.uE;rw[h];dsimp only;split
 ·rename_i he;refine⟨0,ak _,?_,λ_=>rfl⟩
  grind
 ·rename_i he;refine⟨_,?_,rQ,?_⟩
  ·split
   ·split
    ·rename_i p _ _;have:=Nat.mod_lt p.toNat (show 0<b.length-s+1 by omega)
     grind
    ·omega
   ·omega
  grind
theorem adD {cT:List Int} {n:ByteArray} : ∀(ns:List ByteArray) (x:DM×Nat),(ns.foldl (DM.uE cT) x).1.ks=x.1.ks/\(n ∉ ns->(ns.foldl (DM.uE cT) x).1.get n=x.1.get n)/\
  (ns.Nodup->n∈ns-> ∀b s,x.1.get n=some (b,s)->s<=b.length-> ∃k,k<=b.length-s/\(ns.foldl (DM.uE cT) x).1.get n=some (b.take (s+k),s+k)/\(cT=[]->k=0))
 |[],x=>⟨rfl,λ_=>rfl,λ_ h=>absurd h sQ⟩
 |a::ns,x=>by
  obtain⟨h1,h2,h3⟩:=adD (cT:=cT) (n:=n) ns (DM.uE cT x a);rw[List.foldl_cons];refine⟨h1.trans akm,λhn=>?_,λhd hn b s hg hs=>?_⟩
  ·simp only[List.mem_cons,not_or] at hn;rw[h2 hn.2,QZ hn.1]
  ·have KT:=List.nodup_cons.1 hd;by_cases e:n=a
   ·subst e;obtain⟨k,hk,vj,hz⟩:=afF (cT:=cT) hg hs;exact⟨k,hk,by grind,hz⟩
   ·refine h3 KT.2 ((List.mem_cons.1 hn).resolve_left e) b s ?_ hs;rw[QZ e];exact hg
theorem Po (m:DM) (cT:List Int):(m.mE cT).ks=m.ks:=(adD (cT:=cT) (n:=⟨#[]⟩) (fT m.ks) (m,0)).1
theorem Uj {s:Nat} (hd:m.ks.Nodup) (h:m.get n=some (b,s)) (hs:s<=b.length): ∃k,k<=b.length-s/\(m.mE cT).get n=some (b.take (s+k),s+k)/\(cT=[]->k=0):=by
 have hn:n∈m.ks:=DM.get_some.1 (by rw[h];rfl);have hp:=kU m.ks;obtain⟨_,_,h3⟩:=adD (cT:=cT) (n:=n) (fT m.ks) (m,0);exact h3 (hp.nodup_iff.2 hd) (hp.mem_iff.2 hn) b s h hs
theorem adE (hd:m.ks.Nodup) (h:m.get n=some (b,b.length)):(m.mE cT).get n=some (b,b.length):=by
 obtain⟨k,hk,hg,_⟩:=Uj (cT:=cT) hd h (au _);simp_all
def flat (l:List (List Nat)):List Nat:=(l.map dr).flatten
theorem CP (a b:List (List Nat)):flat (a++b)=flat a++flat b:=by simp[flat]
theorem IP (p:List Nat):flat [p]=dr p:=by simp[flat]
def gD:List dV->Prop
 |s::t::r=>t.first=s.first+s.bw.length/\s.bw≠[]/\gD (t::r)
 |_=>True
theorem gD.tail {r:List dV} (h:gD (s::r)):gD r:=by
 cases r with
 |nil=>trivial
 |cons t r=>exact h.2.2
theorem gD.lt: ∀{r:List dV} {s:dV},gD (s::r)-> ∀t∈r,s.first<t.first
 |[],_,_,_,h=>absurd h sQ
 |u::r,s,h,t,ht=>by
  have h1:=List.length_pos_iff.2 h.2.1;have h2:=h.1;rcases List.mem_cons.1 ht with rfl|ht
  ·omega
  ·have:=gD.lt h.2.2 t ht;omega
theorem gD.Sr: ∀{l:List dV},gD l->(l.map (·.first)).Pairwise (· < ·)
 |[],_=>by simp
 |s::r,h=>by
  rw[bh,List.pairwise_cons];refine⟨λn hn=>?_,gD.Sr h.tail⟩;obtain⟨t,ht,rfl⟩:=List.mem_map.1 hn;exact h.lt t ht
theorem gD.suffix: ∀{a b:List dV},gD (a++b)->gD b
 |[],_,h=>h
 |_::a,_,h=>gD.suffix (a:=a) h.tail
theorem gD.snoc {n:dV} : ∀{a:List dV},gD (a++[s])->n.first=s.first+s.bw.length->s.bw≠[]->gD (a++[s]++[n])
 |[],_,h1,h2=>⟨h1,h2,trivial⟩
 |[t],h,h1,h2=>⟨h.1,h.2.1,h1,h2,trivial⟩
 |t::u::a,h,h1,h2=>⟨h.1,h.2.1,gD.snoc (a:=u::a) h.2.2 h1 h2⟩
variable {s' : dV}
theorem gD.last (hf:s'.first=s.first): ∀{a:List dV},gD (a++[s])->gD (a++[s'])
 |[],_=>trivial
 |[t],h=>⟨hf.trans h.1,h.2.1,trivial⟩
 |t::u::a,h=>⟨h.1,h.2.1,gD.last hf (a:=u::a) h.2.2⟩
structure Wd (s:dV):Prop where
 one:1<=s.first
 top:s.first<=99999999/\s.first+s.bw.length<=100000000
 sz:s.size=(flat s.bw).length
 pl: ∀p∈s.bw,p.length<=262144/\xm p
structure Good (l:List dV):Prop where
 lk:gD l
 ok: ∀s∈l,Wd s
def Good.suffix {a b:List dV} (h:Good (a++b)):Good b:=⟨h.lk.suffix,λs hs=>h.ok s (List.mem_append_right _ hs)⟩
structure pF (dir:ByteArray) (pre:List dV) (s:dV) (lM:List Nat) (sf:Nat) (m:DM):Prop where
 nd:m.ks.Nodup
 ks:m.ks.Perm ((pre++[s]).map λs=>bV dir s.first)
 body: ∀t∈pre,m.get (bV dir t.first)=some (flat t.bw,(flat t.bw).length)
 last:m.get (bV dir s.first)=some (flat s.bw++lM,sf)
 sf:sf<=(flat s.bw++lM).length
variable {pre : List dV}
theorem pF.ne (hg:Good (pre++[s])) {t:dV} (ht:t∈pre):bV dir t.first≠bV dir s.first:=λe=>by
 have h1:=hg.lk.Sr;rw[aC] at h1;have h2:=(List.pairwise_append.1 h1).2.2 t.first (List.mem_map.2 ⟨t,ht,rfl⟩) s.first sQ
 have h3:=(hg.ok t (by simp[ht])).top;have h4:=(hg.ok s sQ).top;have:=Lw zQ zQ e;omega
variable {sf : Nat} {lM : List Nat}
theorem pF.mE (h:pF dir pre s lM sf m) (hg:Good (pre++[s])):
  ∃k,k<=(flat s.bw++lM).length-sf/\(cT=[]->k=0)/\(m.mE cT).ks=m.ks/\(∀t∈pre,(m.mE cT).get (bV dir t.first)=some (flat t.bw,(flat t.bw).length))/\
   (m.mE cT).get (bV dir s.first)=some ((flat s.bw++lM).take (sf+k),sf+k):=by
 obtain⟨k,hk,DB,hz⟩:=Uj (cT:=cT) h.nd h.last h.sf;exact⟨k,hk,hz,Po m cT,λt ht=>adE h.nd (h.body t ht),DB⟩
theorem Uk {l:List (List Nat)} (hl: ∀p∈l,p.length<=262144) (ht:mq lM=none):jo (flat l++lM)=(l,(flat l).length):=by
 unfold flat;rw[Ll l lM hl,Eh ht];simp
def IQ:mq []=none:=xY (.inl sQ)
theorem vM {s:Nat} (h:m.get n=some (b,s)):m.bytes n=b:=by unfold DM.bytes;rw[h];rfl
theorem EA {d:ByteArray} {r:Nat} :(⟨d,r,pre++[s],z⟩:LM).last=s:=by simp[LM.last]
theorem XX {dir:ByteArray} {room:Nat} {m:DM} : ∀(Ul pre:List dV),gD (pre++Ul)->(∀t∈Ul,1<=t.first/\t.first<100000000/\jo (m.bytes (bV dir t.first))=(t.bw,t.size))->
  (∀t∈(pre++Ul).dropLast,(m.bytes (bV dir t.first)).length=t.size)->LD.pJ ⟨⟨dir,room,pre,0⟩,m⟩ (Ul.map λs=>bV dir s.first)=(⟨⟨dir,room,pre++Ul,0⟩,m⟩,0)
 |[],pre,_,_,_=>by simp[LD.pJ]
 |t::Ul,pre,hk,hs,hb=>by
  obtain⟨h1,h2,h3⟩:=hs t sQ;have hn:si dir (bV dir t.first)=t.first:=adC h2
  have hj:LD.Gt ⟨⟨dir,room,pre,0⟩,m⟩ t.first=false:=by
   unfold LD.Gt;simp only[decide_eq_false_iff_not];rintro⟨cu,hor⟩;obtain⟨p,u,rfl⟩: ∃p u,pre=p++[u]:=⟨_,_,(List.dropLast_concat_getLast cu).symm⟩;have aov:gD (u::t::Ul):=gD.suffix (a:=p) (by simpa using hk);have hu:(m.bytes (bV dir u.first)).length=u.size:=hb u (by
    rw[List.dropLast_append_of_ne_nil sQ];exact bq _ sQ)
   rw[EA] at hor;have e1:(⟨dir,room,p++[u],0⟩:LM).fh=bV dir u.first:=by unfold LM.fh;rw[EA]
   have e2:(⟨dir,room,p++[u],0⟩:LM).next=u.first+u.bw.length:=by unfold LM.next;rw[EA]
   rw[e1,e2] at hor;rcases hor with h|h
   ·omega
   ·exact h aov.1
  have eJ:LD.join ⟨⟨dir,room,pre,0⟩,m⟩ t.first (bV dir t.first)=(⟨⟨dir,room,pre++[t],0⟩,m⟩,0):=by
   unfold LD.join;rw[hj,if_neg pI];dsimp only;rw[h3]
  rw[bh];unfold LD.pJ;dsimp only;rw[hn,if_neg zQ,eJ,if_neg sQ];have:=XX (dir:=dir) (room:=room) (m:=m) Ul (pre++[t]) (by simpa using hk) (λx hx=>hs x (bG _ hx)) (by simpa using hb);rw[this];simp
theorem IS (h0:m.ar=0) (hd:m.dn=false):m.tick.ar=0/\m.tick.dn=false:=by
 unfold DM.tick
 grind
theorem afG (h0:m.ar=0) (hd:m.dn=false) (f:DM->DM):m.write 0 f=(f m.tick,0):=by
 unfold DM.write;rw[if_neg gQ,if_neg sQ,if_neg (by rw[(IS h0 hd).2];simp)]
theorem pF.tick (h:pF dir pre s lM sf m):pF dir pre s lM sf m.tick:=by
 have e:m.tick.ks=m.ks:=by unfold DM.ks;rw[m.AE]
 exact⟨by rw[e];exact h.nd,by rw[e];exact h.ks,λt ht=>by rw[m.qz];exact h.body t ht,by rw[m.qz];exact h.last,h.sf⟩
variable {sf' : Nat} {Q3 : List Nat}
theorem pF.put (h:pF dir pre s lM sf m) (hg:Good (pre++[s])) (hf:s'.first=s.first) (hb:flat s'.bw++Q3=b) (hs:sf'<=b.length):
  pF dir pre s' Q3 sf' (m.put (bV dir s.first) b sf'):=by
 have ajH:(m.get (bV dir s.first)).isSome=true:=by rw[h.last];rfl
 refine⟨by rw[Lx ajH];exact h.nd,?_,λt ht=>?_,?_,by grind⟩
 ·rw[Lx ajH];have e:(pre++[s']).map (λs=>bV dir s.first)=(pre++[s]).map (λs=>bV dir s.first):=by simp[hf]
  rw[e];exact h.ks
 ·rw[Ly (pF.ne hg ht)];exact h.body t ht
 ·rw[hf,hb];exact rQ
theorem pF.kD (h:pF dir pre s lM sf m) (hg:Good (pre++[s])):pF dir pre s lM (flat s.bw++lM).length (m.kD (bV dir s.first)):=by
 unfold DM.kD;rw[h.last];exact h.put hg rfl rfl (au _)
variable {room : Nat}
theorem al2 (h:pF dir pre s lM sf m) (hg:Good (pre++[s])) (ht:mq lM=none) (h0:m.ar=0) (hd:m.dn=false):
  ∃m',LD.BW dir room m=(⟨⟨dir,room,pre++[s],(s.first+s.bw.length:Nat)-1⟩,m'⟩,0)/\pF dir pre s [] (flat s.bw).length m'/\m'.ar=0/\m'.dn=false:=by
 have zF:=hg.ok s sQ;have XK:fT (m.fs.map (·.1))=(pre++[s]).map λs=>bV dir s.first:=by
  have e:(pre++[s]).map (λs=>bV dir s.first)=((pre++[s]).map (·.first)).map (bV dir):=by rw[cd];rfl
  rw[e];refine aa3 (by rw[<-e];exact h.ks) hg.lk.Sr λn hn=>?_;obtain⟨t,ht,rfl⟩:=List.mem_map.1 hn;have:=(hg.ok t ht).top;omega
 have hj:=XX (dir:=dir) (room:=room) (m:=m) (pre++[s]) [] (by simpa using hg.lk) (λt xT=>?_) (λt xT=>?_)
 ·rw[bp] at hj;have hL0:L0 dir room=⟨dir,room,[],0⟩:=rfl;have aow: ∃m',LD.He ⟨⟨dir,room,pre++[s],0⟩,m⟩=(⟨⟨dir,room,pre++[s],(s.first+s.bw.length:Nat)-1⟩,m'⟩,0)/\pF dir pre s [] (flat s.bw).length m'/\m'.ar=0/\m'.dn=false:=by
   have eN:(⟨dir,room,pre++[s],0⟩:LM).fh=bV dir s.first:=by unfold LM.fh;rw[EA]
   have eX:(⟨dir,room,pre++[s],0⟩:LM).next=s.first+s.bw.length:=by unfold LM.next;rw[EA]
   have sync: ∀{m1:DM} {sf1:Nat},pF dir pre s [] sf1 m1->m1.ar=0->m1.dn=false-> ∃m',LD.sync ⟨⟨dir,room,pre++[s],0⟩,m1⟩=(⟨⟨dir,room,pre++[s],(s.first+s.bw.length:Nat)-1⟩,m'⟩,0)/\pF dir pre s [] (flat s.bw).length m'/\m'.ar=0/\m'.dn=false:=by
    intro m1 sf1 h1 a1 d1;have e:m1.sync (bV dir s.first)=(DM.kD (bV dir s.first) m1.tick,0):=by
     unfold DM.sync;rw[if_pos (by rw[h1.last];rfl),afG a1 d1]
    refine⟨DM.kD (bV dir s.first) m1.tick,?_,?_,?_,?_⟩
    ·unfold LD.sync;simp_all
    ·have:=h1.tick.kD hg
     grind
    ·unfold DM.kD;split
     ·exact(IS a1 d1).1
     ·exact(IS a1 d1).1
    ·unfold DM.kD;split
     ·exact(IS a1 d1).2
     ·exact(IS a1 d1).2
   unfold LD.He;dsimp only;rw[EA,eN,vM h.last,zF.sz,aa];by_cases htn:lM=[]
   ·subst htn;rw[if_neg sQ];exact sync h h0 hd
   ·have:=List.length_pos_iff.2 htn;rw[if_pos zQ];have hc:m.cut (bV dir s.first) (flat s.bw).length=(DM.DF (bV dir s.first) (flat s.bw).length m.tick,0):=by
     unfold DM.cut DM.Pd;rw[vM h.last,if_pos (by rw[h.last];rfl),aa,if_neg zQ,afG h0 hd];rfl
    rw[hc,if_neg sQ];have hcd:pF dir pre s [] (min sf (flat s.bw).length) (DM.DF (bV dir s.first) (flat s.bw).length m.tick):=by
     unfold DM.DF;rw[h.tick.last];dsimp only;rw[List.take_left];exact h.tick.put hg rfl (fM _) (Bg _ _)
    have al3:(DM.DF (bV dir s.first) (flat s.bw).length m.tick).ar=0/\(DM.DF (bV dir s.first) (flat s.bw).length m.tick).dn=false:=by
     unfold DM.DF;split
     ·exact IS h0 hd
     ·exact IS h0 hd
    exact sync hcd al3.1 al3.2
  obtain⟨m',e1,e2⟩:=aow;refine⟨m',?_,e2⟩;unfold LD.BW;simp_all
 ·have xn:=hg.ok t xT;refine⟨xn.one,by have:=xn.top;omega,?_⟩;rw[xn.sz];rcases List.mem_append.1 xT with xT|xT
  ·rw[vM (h.body t xT)];have:=Uk (l:=t.bw) (lM:=[]) (λp hp=>(xn.pl p hp).1) IQ
   grind
  ·simp only[ax] at xT;subst xT;rw[vM h.last];exact Uk (λp hp=>(xn.pl p hp).1) ht
 ·rw[bp,jL] at xT;rw[vM (h.body t xT),(hg.ok t (by simp[xT])).sz]
def XY (dir:ByteArray) (P:List dV->Prop) (m:DM):Prop:=
 m.fs.length<=64/\ ∀cT,∃pre s lM sf,P (pre++[s])/\Good (pre++[s])/\mq lM=none/\xm lM/\pF dir pre s lM sf (m.mE cT)
def Fh (dir:ByteArray) (P:List dV->Prop) (m:DM):Prop:=m.dn=true/\XY dir P m
variable {Q : List dV -> Prop}
def XY.imp {P:List dV->Prop} (h:XY dir P m) (k: ∀l s,P (l++[s])->Q (l++[s])):XY dir Q m:=
 ⟨h.1,λcT=>let⟨a,b,c,d,e,f⟩:=h.2 cT;⟨a,b,c,d,k _ _ e,f⟩⟩
def Fh.imp {P:List dV->Prop} (h:Fh dir P m) (k: ∀l,P l->Q l):Fh dir Q m:=⟨h.1,h.2.imp λ_ _=>k _⟩
theorem uI {a:List Nat} (ha:xm a) (hb:xm b):xm (a++b):=λx hx=>(List.mem_append.1 hx).elim (ha x) (hb x)
theorem SC (n:Nat):xm (uD n):=by
 intro x hx;unfold uD at hx;simp at hx;omega
def Um (h:xm p):xm (dr p):=uI (uI (uI (SC _) (SC _)) h) (SC _)
theorem adF (hk:k<(dr p).length) (hp:p.length<=262144):mq ((dr p).take k)=none:=by
 have hl:=ru p;by_cases h:k<12
 ·exact xY (.inl gQ)
 ·have e1:iX (dr p)=p.length:=by
   unfold dr;simp only[ao];exact IL _ zQ _
  have e2:iX ((dr p).take k)=p.length:=by
   rw[<-e1,HZ,HZ];rw[fU zQ,fU zQ,fU zQ,fU zQ]
  refine xY (.inr (.inr (.inr ?_)))
  grind
theorem pF.re {m':DM} (h:pF dir pre s lM sf m) (hk:m'.ks=m.ks) (hb: ∀t∈pre,m'.get (bV dir t.first)=m.get (bV dir t.first)) (hf:s'.first=s.first)
  (hl:m'.get (bV dir s.first)=some (flat s'.bw++Q3,sf')) (hs:sf'<=(flat s'.bw++Q3).length):pF dir pre s' Q3 sf' m':=by
 refine⟨by rw[hk];exact h.nd,?_,λt ht=>by rw[hb t ht];exact h.body t ht,by grind,hs⟩;rw[hk];have e:(pre++[s']).map (λs=>bV dir s.first)=(pre++[s]).map (λs=>bV dir s.first):=by simp[hf]
 rw[e];exact h.ks
theorem XZ (h:pF dir pre s [] (flat s.bw).length m) (hg:Good (pre++[s])) (hl:m.fs.length<=64):XY dir (λl=>l=pre++[s]) m:=by
 refine⟨hl,λcT=>?_⟩;obtain⟨k,hk,_,h1,h2,h3⟩:=h.mE (cT:=cT) hg;rw[fM] at hk h3;have iy:k=0:=by omega
 subst iy;refine⟨pre,s,[],(flat s.bw).length,rfl,hg,IQ,λx hx=>(by cases hx),h.re h1 (λt ht=>by rw[h2 t ht,h.body t ht]) rfl ?_ sQ⟩
 grind
def Un (h:pF dir pre s [] (flat s.bw).length m) (hg:Good (pre++[s])) (hl:m.fs.length<=64) (hd:m.dn=true):Fh dir (λl=>l=pre++[s]) m:=⟨hd,XZ h hg hl⟩
abbrev dV.plus (s:dV) (p:List Nat):dV:=⟨s.first,s.bw++[p],s.size+(dr p).length⟩
theorem Uo (h:pF dir pre s (dr p) (flat s.bw).length m) (hg:Good (pre++[s])) (vj:Good (pre++[s.plus p])) (hp:p.length<=262144) (hl:m.fs.length<=64) (hd:m.dn=true):Fh dir (λl=>l=pre++[s]\/l=pre++[s.plus p]) m:=by
 refine⟨hd,hl,λcT=>?_⟩;have H5:xm (dr p):=Um ((vj.ok (s.plus p) sQ).pl p sQ).2;obtain⟨k,hk,_,h1,h2,h3⟩:=h.mE (cT:=cT) hg;rw[aa] at hk;rw[List.take_append,az (Nat.le_add_right _ _),Nat.add_sub_cancel_left] at h3;by_cases sP:k<(dr p).length
 ·refine⟨pre,s,(dr p).take k,(flat s.bw).length+k,.inl rfl,hg,adF sP hp,λx hx=>H5 x (dK hx),h.re h1 (λt ht=>by rw[h2 t ht,h.body t ht]) rfl h3 (by simp_all)⟩
 ·refine⟨pre,s.plus p,[],(flat s.bw).length+k,.inr rfl,vj,IQ,λx hx=>(by cases hx),h.re h1 (λt ht=>by rw[h2 t ht,h.body t ht]) rfl ?_ ?_⟩
  ·rw[h3,az zQ,CP,IP,fM]
  ·rw[CP,IP,fM,aa];omega
theorem Hf (hd:m.dn=false) (f:DM->DM):(m.tick.dn=true/\m.write 0 f=(m.tick,12))\/(m.tick.dn=false/\m.write 0 f=(f m.tick,0)):=by
 cases h:m.tick.dn with
 |true=>left;exact⟨rfl,by unfold DM.write;grind⟩
 |false=>right;exact⟨rfl,by unfold DM.write;grind⟩
structure pj (x:LD) (pre:List dV) (s:dV):Prop where
 bJ:x.L.bJ=pre++[s]
 g:Good (pre++[s])
 d:pF x.L.dir pre s [] (flat s.bw).length x.m
 dn:x.m.dn=false
 sz:x.m.sz<=4194304
 fl:x.m.fs.length<=64
 d1:1<=x.L.dir.size
 d2:x.L.dir.size<=11
 r1:64<=x.L.room
 r2:x.L.room<=262144
theorem pj.last (h:pj x pre s):x.L.last=s:=by unfold LM.last;rw[h.bJ];simp
theorem pj.name (h:pj x pre s):x.L.fh=bV x.L.dir s.first:=by unfold LM.fh;rw[h.last]
theorem pj.next (h:pj x pre s):x.L.next=s.first+s.bw.length:=by unfold LM.next;rw[h.last]
theorem Ya (m:DM) (n:ByteArray):(m.kD n).dn=m.dn:=by unfold DM.kD;split<;>rfl
theorem Up (m:DM) (n:ByteArray):(m.kD n).fs.length=m.fs.length:=by
 have:(m.kD n).ks=m.ks:=by
  unfold DM.kD;split
  ·rfl
  ·grind [Lx]
 have:=congrArg bB this
 grind [DM.wB]
theorem Cm (m:DM):m.tick.fs.length=m.fs.length:=by rw[m.AE]
theorem pj.sync (h:pj x pre s):(x.sync.2=12/\Fh x.L.dir (λl=>l=pre++[s]) x.sync.1.m)\/(x.sync.2=0/\pj x.sync.1 pre s/\x.sync.1.L= { x.L with safe:=(x.L.next:Int)-1 } /\x.sync.1.m.sz=x.m.sz):=by
 have e:x.m.sync x.L.fh=x.m.write 0 (DM.kD (bV x.L.dir s.first)):=by
  unfold DM.sync;rw[h.name,if_pos (by rw[h.d.last];rfl)]
 unfold LD.sync;dsimp only;rw[e];rcases Hf h.dn (DM.kD (bV x.L.dir s.first))with⟨ht,hw⟩|⟨ht,hw⟩
 ·rw[hw];exact .inl ⟨rfl,Un h.d.tick h.g (by rw[Cm];exact h.fl) ht⟩
 ·rw[hw];have hd:=h.d.tick.kD h.g;rw[fM] at hd;exact .inr ⟨rfl,⟨h.bJ,h.g,hd,by rw[Ya];exact ht,by dsimp only;rw[DM.Fg,x.m.yH];exact h.sz,by dsimp only;rw[Up,Cm];exact h.fl,h.d1,h.d2,h.r1,h.r2⟩,rfl,by dsimp only;rw[DM.Fg,x.m.yH]⟩
def fI (l:List dV):List (List Nat):=(l.map (·.bw)).flatten
def oW (l:List dV):Option Nat:=l.head?.map (·.first)
theorem aa4 (l:List dV) (s:dV):fI (l++[s])=fI l++s.bw:=by simp[fI]
theorem OB (l:List dV) (s:dV) (p:List Nat):fI (l++[s.plus p])=fI (l++[s])++[p]:=by simp[fI]
theorem Q4 (l:List dV) (s s':dV) (h:s'.first=s.first):oW (l++[s'])=oW (l++[s]):=by grind [oW]
theorem adG (l:List dV) (s n:dV):oW (l++[s]++[n])=oW (l++[s]):=by
 cases l with
 |nil=>rfl
 |cons a l=>rfl
theorem Wd.plus (h:Wd s) (hp:p.length<=262144) (hb:xm p) (hn:s.first+s.bw.length<=99999999):Wd (s.plus p):=by
 refine⟨h.one,⟨h.top.1,by simp;omega⟩,?_,λq hq=>?_⟩
 ·show s.size+(dr p).length=_
  rw[h.sz,CP,IP,aa]
 ·rcases List.mem_append.1 hq with hq|hq
  ·exact h.pl q hq
  grind
theorem Good.plus (h:Good (pre++[s])) (hp:p.length<=262144) (hb:xm p) (hn:s.first+s.bw.length<=99999999):Good (pre++[s.plus p]):=by
 refine⟨gD.last (s:=s) (s':=s.plus p) rfl h.lk,λt ht=>?_⟩;rcases List.mem_append.1 ht with ht|ht
 ·exact h.ok t (bq _ ht)
 ·simp only[ax] at ht;subst ht;exact(h.ok s sQ).plus hp hb hn
theorem Good.more (h:Good (pre++[s])) (hr:s.bw≠[]) (hn:s.first+s.bw.length<=99999999):Good (pre++[s]++[⟨s.first+s.bw.length,[],0⟩]):=by
 refine⟨h.lk.snoc rfl hr,λt ht=>?_⟩;rcases List.mem_append.1 ht with ht|ht
 ·exact h.ok t ht
 ·simp only[ax] at ht;subst ht;have:=(h.ok s sQ).one;exact⟨by simp;omega,⟨by omega,by simp;omega⟩,by rfl,λp hp=>by cases hp⟩
theorem pj.iI (h:pj x pre s) (hr:s.bw≠[]) (hn:x.L.next<=99999999):
  ((x.iI x.L.next).2=12/\Fh x.L.dir (λl=>l=pre++[s]) (x.iI x.L.next).1.m/\(x.iI x.L.next).1.L=x.L)\/((x.iI x.L.next).2=3/\(x.iI x.L.next).1=x/\64<=x.m.fs.length)\/
  ((x.iI x.L.next).2=0/\pj (x.iI x.L.next).1 (pre++[s]) ⟨x.L.next,[],0⟩/\(x.iI x.L.next).1.L= { x.L with bJ:=x.L.bJ++[⟨x.L.next,[],0⟩] } /\(x.iI x.L.next).1.m.sz=x.m.sz):=by
 have nL:=h.next
 have pM:=List.length_pos_iff.2 hr;have hnk: ¬(x.m.get (bV x.L.dir x.L.next)).isSome=true:=λe=>by
  have:=h.d.ks.mem_iff.1 (DM.get_some.1 e);obtain⟨t,ht,e2⟩:=List.mem_map.1 this;have xn:=(h.g.ok t ht).top;have:=Lw zQ zQ e2;rcases List.mem_append.1 ht with ht|ht
  ·have h1:=h.g.lk.Sr;rw[aC] at h1;have:=(List.pairwise_append.1 h1).2.2 t.first (List.mem_map.2 ⟨t,ht,rfl⟩) s.first sQ
   omega
  grind
 have zD:wC (bV x.L.dir x.L.next)=true:=by
  have:=h.d1;have:=h.d2;simp only[wC,Bl,decide_eq_true_eq];omega
 unfold LD.iI;dsimp only;unfold DM.create;rw[if_neg (by simp[zD]),if_neg hnk];by_cases hl:64<=x.m.fs.length
 ·right;left;rw[if_pos hl];have e:x.m.write 3 (λm=>m.put (bV x.L.dir x.L.next) [] 0)=(x.m,3):=by unfold DM.write;rw[if_neg (by rw[h.dn];simp),if_pos sQ]
  simp_all
 ·rw[if_neg hl];rcases Hf h.dn (λm=>m.put (bV x.L.dir x.L.next) [] 0)with⟨ht,hw⟩|⟨ht,hw⟩
  ·left;rw[hw];exact⟨rfl,Un h.d.tick h.g (by rw[Cm];omega) ht,rfl⟩
  ·right;right;rw[hw,if_pos rfl];have pc:x.m.tick.get (bV x.L.dir x.L.next)=none:=by
    rw[x.m.qz];cases hq:x.m.get (bV x.L.dir x.L.next)with
    |none=>rfl
    |some y=>grind
   have JR:(x.m.tick.put (bV x.L.dir x.L.next) [] 0).ks=x.m.ks++[bV x.L.dir x.L.next]:=by
    show(cU (bV x.L.dir x.L.next) ([],0) x.m.tick.fs).map (·.1)=_
    rw[yd,x.m.AE,if_neg (show¬(getM (bV x.L.dir x.L.next) x.m.fs).isSome=true from hnk)];rfl
   have gC:bV x.L.dir x.L.next ∉ x.m.ks:=λhm=>hnk (DM.get_some.2 hm)
   have vj:=h.g.more hr zQ;rw[<-nL] at vj;have adH: ∀t∈pre++[s],(x.m.tick.put (bV x.L.dir x.L.next) [] 0).get (bV x.L.dir t.first)=some (flat t.bw,(flat t.bw).length):=λt ht=>by
    rw[Ly,x.m.qz]
    ·rcases List.mem_append.1 ht with ht|ht
     ·exact h.d.body t ht
     ·simp only[ax] at ht;subst ht;have:=h.d.last
      grind
    ·intro e;refine gC (e▸h.d.ks.mem_iff.2 (List.mem_map.2 ⟨t,ht,rfl⟩))
   have iP:(x.m.tick.put (bV x.L.dir x.L.next) [] 0).fs.length=x.m.fs.length+1:=by
    have:=congrArg bB JR;rw[aa,DM.wB,DM.wB] at this;exact this
   have al4:(x.m.tick.put (bV x.L.dir x.L.next) [] 0).sz=x.m.sz:=by
    rw[DM.SB pc,x.m.yH];simp
   refine⟨rfl,⟨by dsimp only;rw[h.bJ],vj,⟨?_,?_,adH,?_,by simp⟩,ht,by dsimp only;rw[al4];exact h.sz,?_,h.d1,h.d2,h.r1,h.r2⟩,rfl,al4⟩
   ·dsimp only;rw[JR,List.nodup_append];exact⟨h.d.nd,by simp,λa ha b hb e=>gC gQ⟩
   ·dsimp only;rw[JR,aC];exact h.d.ks.append (List.Perm.refl _)
   ·exact rQ
   grind
theorem pj.adI (h:pj x pre s) (hn:x.L.next<=99999999):
  (x.room.2=12/\Fh x.L.dir (λl=>l=pre++[s]) x.room.1.m/\x.room.1.L.bJ=x.L.bJ/\x.room.1.L.dir=x.L.dir/\x.room.1.L.room=x.L.room)\/(x.room.2=3/\pj x.room.1 pre s/\x.room.1.L.dir=x.L.dir/\x.room.1.L.room=x.L.room/\64<=x.m.fs.length/\x.L.room<=s.size)\/
  (x.room.2=0/\ ∃pz s',pj x.room.1 pz s'/\x.room.1.L.next=x.L.next/\x.room.1.L.dir=x.L.dir/\x.room.1.L.room=x.L.room/\x.room.1.m.sz=x.m.sz/\((pz=pre/\s'=s/\ ¬x.L.room<=s.size)\/(pz=pre++[s]/\s'=⟨x.L.next,[],0⟩/\x.L.room<=s.size))):=by
 unfold LD.room;rw[h.last];by_cases hr:x.L.room<=s.size
 ·rw[if_pos hr];have cu:s.bw≠[]:=λe=>by
   have h1:=(h.g.ok s sQ).sz;have h2:=h.r1
   grind [flat]
  dsimp only;rcases h.sync with⟨e,hf⟩|⟨e,hu,eL,eS⟩
  ·left;have Lv:x.sync.1.L.bJ=x.L.bJ/\x.sync.1.L.dir=x.L.dir/\x.sync.1.L.room=x.L.room:=by
    unfold LD.sync;dsimp only;grind
   grind
  ·rw[if_neg zQ];have nL:x.sync.1.L.next=x.L.next:=by rw[hu.next,h.next]
   have al5:x.sync.1.L.dir=x.L.dir:=by rw[eL]
   have Gm:x.sync.1.L.room=x.L.room:=by rw[eL]
   have OC:x.sync.1.m.fs.length=x.m.fs.length:=by
    have h1:=h.d.ks.length_eq;have h2:=hu.d.ks.length_eq;rw[DM.wB] at h1 h2;rw[h1,h2];simp
   rw[<-nL];rcases hu.iI cu zQ with⟨a,b,c⟩|⟨a,b,c⟩|⟨a,b,c,d⟩
   ·left
    grind
   ·right;left
    grind
   ·right;right;refine⟨a,_,_,b,?_,by grind,by grind,d.trans eS,.inr ⟨rfl,rfl,hr⟩⟩;rw[b.next];simp
 ·rw[if_neg hr]
  grind
structure Lay (x:LD) (pre:List dV) (s:dV) (p:List Nat):Prop where
 bJ:x.L.bJ=pre++[s.plus p]
 g0:Good (pre++[s])
 g:Good (pre++[s.plus p])
 d:pF x.L.dir pre s (dr p) (flat s.bw).length x.m
 pl:p.length<=262144
 dn:x.m.dn=false
 sz:x.m.sz<=4194304
 fl:x.m.fs.length<=64
 d1:1<=x.L.dir.size
 d2:x.L.dir.size<=11
 r1:64<=x.L.room
 r2:x.L.room<=262144
theorem Lay.last (h:Lay x pre s p):x.L.last=s.plus p:=by unfold LM.last;rw[h.bJ];simp
theorem Lay.sync (h:Lay x pre s p):(x.sync.2=12/\Fh x.L.dir (λl=>l=pre++[s]\/l=pre++[s.plus p]) x.sync.1.m)\/(x.sync.2=0/\pj x.sync.1 pre (s.plus p)/\x.sync.1.L.dir=x.L.dir/\x.sync.1.L.room=x.L.room):=by
 have hn:x.L.fh=bV x.L.dir s.first:=by unfold LM.fh;rw[h.last]
 have e:x.m.sync x.L.fh=x.m.write 0 (DM.kD (bV x.L.dir s.first)):=by
  unfold DM.sync;rw[hn,if_pos (by rw[h.d.last];rfl)]
 unfold LD.sync;dsimp only;rw[e];rcases Hf h.dn (DM.kD (bV x.L.dir s.first))with⟨ht,hw⟩|⟨ht,hw⟩
 ·rw[hw];exact .inl ⟨rfl,Uo h.d.tick h.g0 h.g h.pl (by rw[Cm];exact h.fl) ht⟩
 ·rw[hw];have hd:=h.d.tick.kD h.g0;have iP:flat s.bw++dr p=flat (s.plus p).bw:=by show _=flat (s.bw++[p]);rw[CP,IP]
  have rH:pF x.L.dir pre (s.plus p) [] (flat (s.plus p).bw).length (x.m.tick.kD (bV x.L.dir s.first)):=by
   refine hd.re rfl (λ_ _=>rfl) rfl ?_ sQ;rw[hd.last,iP,fM]
  exact .inr ⟨rfl,⟨h.bJ,h.g,rH,by rw[Ya];exact ht,by dsimp only;rw[DM.Fg,x.m.yH];exact h.sz,by dsimp only;rw[Up,Cm];exact h.fl,h.d1,h.d2,h.r1,h.r2⟩,rfl,rfl⟩
theorem pj.lay (h:pj x pre s) (hp:p.length<=262144) (hb:xm p) (hn:x.L.next<=99999999):
  ((x.lay p).2=12/\Fh x.L.dir (λl=>l=pre++[s]\/l=pre++[s.plus p]) (x.lay p).1.m/\(x.lay p).1.L=x.L)\/((x.lay p).2=11/\(x.lay p).1=x/\4194304<x.m.sz+(dr p).length)\/
  ((x.lay p).2=0/\Lay (x.lay p).1 pre s p/\(x.lay p).1.L=x.L.add p):=by
 have nL:=h.next
 have vj:=h.g.plus hp hb zQ;have hl:=h.d.last;rw[fM] at hl;have eA:x.m.append (bV x.L.dir s.first) (dr p)=if 4194304-x.m.sz<(dr p).length then(x.m,11)else(x.m.tick.put (bV x.L.dir s.first) (flat s.bw++dr p) (flat s.bw).length,if x.m.tick.dn then 12 else 0):=by
  unfold DM.append;rw[hl,if_neg (by rw[h.dn];simp)]
 unfold LD.lay;dsimp only;rw[h.name];by_cases gh:4194304-x.m.sz<(dr p).length
 ·right;left;rw[if_pos gh] at eA;rw[eA];exact⟨rfl,rfl,by omega⟩
 ·rw[if_neg gh] at eA;have cI:x.m.tick.get (bV x.L.dir s.first)=some (flat s.bw,(flat s.bw).length):=by rw[x.m.qz];exact hl
  have hd:pF x.L.dir pre s (dr p) (flat s.bw).length (x.m.tick.put (bV x.L.dir s.first) (flat s.bw++dr p) (flat s.bw).length):=
   h.d.tick.put h.g rfl rfl gQ
  have jT:(x.m.tick.put (bV x.L.dir s.first) (flat s.bw++dr p) (flat s.bw).length).dn=x.m.tick.dn:=rfl;have iP:(x.m.tick.put (bV x.L.dir s.first) (flat s.bw++dr p) (flat s.bw).length).fs.length<=64:=by
   have hk:(x.m.tick.put (bV x.L.dir s.first) (flat s.bw++dr p) (flat s.bw).length).ks=x.m.tick.ks:=Lx gQ;have:=congrArg bB hk;rw[DM.wB,DM.wB,Cm] at this;rw[this];exact h.fl
  cases ht:x.m.tick.dn with
  |true=>
   left;rw[ht,if_pos rfl] at eA;rw[eA];exact⟨rfl,Uo hd h.g vj hp iP (jT.trans ht),rfl⟩
  |false=>
   right;right;rw[ht,if_neg pI] at eA;rw[eA,if_pos rfl];refine⟨rfl,⟨?_,h.g,vj,hd,hp,jT.trans ht,?_,?_,h.d1,h.d2,h.r1,h.r2⟩,rfl⟩
   ·show x.L.bJ.dropLast++[⟨x.L.last.first,x.L.last.bw++[p],x.L.last.size+(dr p).length⟩]=_
    rw[h.last,h.bJ,jL]
   ·have:=DM.Lo (bs:=flat s.bw++dr p) (s':=(flat s.bw).length) cI;rw[aa,x.m.yH] at this;have:=h.sz;dsimp only;omega
   omega
structure Kept (x:LD) (pre:List dV) (s:dV) (p:List Nat) (y:LD) (pz:List dV) (s':dV):Prop where
 up:pj y pz s'
 fst:oW (pz++[s'])=oW (pre++[s])
 dir:y.L.dir=x.L.dir
 room:y.L.room=x.L.room
theorem pj.iF (h:pj x pre s) (hp:p.length<=262144) (hb:xm p):
  ((x.iF 0 p).2.2=12/\Fh x.L.dir (λl=>oW l=oW (pre++[s])/\(fI l=fI (pre++[s])\/fI l=fI (pre++[s])++[p])/\((∀t∈pre,x.L.room<=t.size)-> ∀t∈l.dropLast,x.L.room<=t.size)) (x.iF 0 p).1.m)\/
  ((x.iF 0 p).2.2=0/\(x.iF 0 p).2.1=x.L.next/\ ∃pz s',Kept x pre s p (x.iF 0 p).1 pz s'/\fI (pz++[s'])=fI (pre++[s])++[p]/\
   ((pz=pre/\s'=s.plus p/\ ¬x.L.room<=s.size)\/(pz=pre++[s]/\s'=⟨x.L.next,[p],(dr p).length⟩/\x.L.room<=s.size)))\/
  ((x.iF 0 p).2.2≠0/\(x.iF 0 p).2.2≠12/\(∃pz s',Kept x pre s p (x.iF 0 p).1 pz s'/\fI (pz++[s'])=fI (pre++[s]))/\(99999999<x.L.next\/(64<=x.m.fs.length/\x.L.room<=s.size)\/4194304<x.m.sz+(dr p).length)):=by
 have nL:=h.next
 have eK:x.iF 0 p=if(x.append p).2.2≠0 then x.append p else((x.append p).1.sync.1,(x.append p).2.1,(x.append p).1.sync.2):=by
  unfold LD.iF;rw[if_neg sQ]
 have eA:x.append p=if 99999999<x.L.next then(x,0,1)else if x.room.2≠0 then(x.room.1,0,x.room.2)else if(x.room.1.lay p).2≠0 then((x.room.1.lay p).1,0,(x.room.1.lay p).2)else((x.room.1.lay p).1,x.L.next,0):=by
  unfold LD.append;rw[if_neg zQ]
 by_cases hn:99999999<x.L.next
 ·right;right;rw[if_pos hn] at eA;rw[eA,if_pos sQ] at eK;rw[eK];exact⟨by simp,by simp,⟨pre,s,⟨h,rfl,rfl,rfl⟩,rfl⟩,.inl hn⟩
 ·rw[if_neg hn] at eA;rcases h.adI zQ with⟨a,b,c,d,e⟩|⟨a,b,c,d,e,f⟩|⟨a,pz,s',b,c,d,e,Yb,f⟩
  ·left;rw[if_pos zQ] at eA;rw[eA,if_pos (by rw[a];simp)] at eK;rw[eK];exact⟨a,b.imp λl hl=>by grind⟩
  ·right;right;rw[if_pos zQ] at eA;rw[eA,if_pos (by rw[a];simp)] at eK;rw[eK];exact⟨by rw[a];simp,by rw[a];simp,⟨pre,s,⟨b,rfl,c,d⟩,rfl⟩,.inr (.inl ⟨e,f⟩)⟩
  ·rw[if_neg zQ] at eA;have Gr:oW (pz++[s'])=oW (pre++[s]):=by
    rcases f with⟨rfl,rfl,_⟩|⟨rfl,rfl,_⟩
    ·rfl
    ·exact adG _ _ _
   have rI:fI (pz++[s'])=fI (pre++[s]):=by
    rcases f with⟨rfl,rfl,_⟩|⟨rfl,rfl,_⟩
    ·rfl
    ·rw[aa4];simp
   have EP: ∀z:dV,(∀t∈pre,x.L.room<=t.size)-> ∀t∈(pz++[z]).dropLast,x.L.room<=t.size:=λz hq t ht=>by
    rw[jL] at ht;rcases f with⟨rfl,_,_⟩|⟨rfl,_,f⟩
    ·grind
    ·rcases List.mem_append.1 ht with ht|ht
     ·grind
     ·rw[ax] at ht;grind
   rcases b.lay hp hb zQ with⟨a1,b1,c1⟩|⟨a1,b1,c1⟩|⟨a1,b1,c1⟩
   ·left;rw[if_pos zQ] at eA;rw[eA,if_pos (by rw[a1];simp)] at eK;rw[eK];rw[d] at b1;refine⟨a1,b1.imp λl hl=>?_⟩;rcases hl with rfl|rfl
    ·exact⟨Gr,.inl rI,EP _⟩
    ·exact⟨(Q4 pz s' (s'.plus p) rfl).trans Gr,.inr (by rw[OB,rI]),EP _⟩
   ·right;right;rw[if_pos zQ] at eA;rw[eA,if_pos (by rw[a1];simp)] at eK;rw[eK,b1];exact⟨by rw[a1];simp,by rw[a1];simp,⟨pz,s',⟨b,Gr,d,e⟩,rI⟩,.inr (.inr zQ)⟩
   ·rw[if_neg zQ] at eA;rw[eA,if_neg sQ] at eK;rw[eK];have E8:(x.room.1.lay p).1.L.dir=x.L.dir:=by rw[c1];exact d
    have pM:(x.room.1.lay p).1.L.room=x.L.room:=by rw[c1];exact e
    have Xd:oW (pz++[s'.plus p])=oW (pre++[s]):=(Q4 pz s' (s'.plus p) rfl).trans Gr;have jJ:fI (pz++[s'.plus p])=fI (pre++[s])++[p]:=by rw[OB,rI]
    rcases b1.sync with⟨a2,b2⟩|⟨a2,b2,c2,d2⟩
    ·left;rw[E8] at b2;refine⟨a2,b2.imp λl hl=>?_⟩;rcases hl with rfl|rfl
     ·exact⟨Gr,.inl rI,EP _⟩
     ·exact⟨Xd,.inr jJ,EP _⟩
    ·right;left;refine⟨a2,rfl,pz,s'.plus p,⟨b2,Xd,c2.trans E8,d2.trans pM⟩,jJ,?_⟩;rcases f with⟨rfl,rfl,f⟩|⟨rfl,rfl,f⟩
     ·exact .inl ⟨rfl,rfl,f⟩
     ·exact .inr ⟨rfl,by simp[dV.plus],f⟩
section
variable {a : dV}
end
def LGr (L L':LM) (p:List Nat):Prop:=
 L'.dir=L.dir/\L'.room=L.room/\(L'.bJ=L.bJ\/L'.bJ=L.bJ++[⟨L.next,[],0⟩]\/L'.bJ=L.bJ.dropLast++[L.last.plus p]\/L'.bJ=L.bJ++[⟨L.next,[p],(dr p).length⟩])
theorem al6 (x:LD):x.sync.1.L.dir=x.L.dir/\x.sync.1.L.room=x.L.room/\x.sync.1.L.bJ=x.L.bJ:=by grind [LD.sync]
theorem al7 (x:LD) (n:Nat):(x.iI n).1.L.dir=x.L.dir/\(x.iI n).1.L.room=x.L.room/\((x.iI n).1.L.bJ=x.L.bJ\/(x.iI n).1.L.bJ=x.L.bJ++[⟨n,[],0⟩]):=by grind [LD.iI]
theorem al8 (x:LD):x.room.1.L.dir=x.L.dir/\x.room.1.L.room=x.L.room/\(x.room.1.L.bJ=x.L.bJ\/x.room.1.L.bJ=x.L.bJ++[⟨x.L.next,[],0⟩]):=by
 obtain⟨a,b,c⟩:=al6 x;unfold LD.room;split
 ·dsimp only;split
  ·grind
  ·obtain⟨d,e,f⟩:=al7 x.sync.1 x.L.next
   grind
 grind
theorem ahX (x:LD) (p:List Nat):LGr x.L (x.append p).1.L p:=by
 obtain⟨a,b,c⟩:=al8 x;have key:LGr x.L x.room.1.L p:=⟨a,b,c.imp id .inl⟩;have hq:LGr x.L (x.room.1.lay p).1.L p:=by
  unfold LD.lay;dsimp only;split
  ·refine⟨a,b,?_⟩
   show x.room.1.L.bJ.dropLast++[⟨x.room.1.L.last.first,x.room.1.L.last.bw++[p],x.room.1.L.last.size+(dr p).length⟩]=_\/x.room.1.L.bJ.dropLast++[⟨x.room.1.L.last.first,x.room.1.L.last.bw++[p],x.room.1.L.last.size+(dr p).length⟩]=_\/x.room.1.L.bJ.dropLast++[⟨x.room.1.L.last.first,x.room.1.L.last.bw++[p],x.room.1.L.last.size+(dr p).length⟩]=_\/x.room.1.L.bJ.dropLast++[⟨x.room.1.L.last.first,x.room.1.L.last.bw++[p],x.room.1.L.last.size+(dr p).length⟩]=_
   have hl:x.room.1.L.last=x.room.1.L.bJ.getLast?.getD ⟨0,[],0⟩:=rfl;rcases c with c|c
   ·right;right;left;have:x.room.1.L.last=x.L.last:=by rw[hl,c];rfl
    rw[c,this]
   simp_all
  ·exact key
 unfold LD.append;split
 ·exact⟨rfl,rfl,.inl rfl⟩
 ·split
  ·exact⟨rfl,rfl,.inl rfl⟩
  grind
theorem pj.adJ (h:pj x pre s): ∀t∈x.L.bJ,t.first+t.bw.length<=100000000/\t.size<=4194304:=λt ht=>by
 rw[h.bJ] at ht;have h1:=h.g.ok t ht;refine⟨h1.top.2,?_⟩;rw[h1.sz];rcases List.mem_append.1 ht with ht|ht
 ·exact ad (DM.Ck (h.d.body t ht)) h.sz
 ·simp only[ax] at ht;subst ht;have:=DM.Ck h.d.last;rw[fM] at this;exact ad this h.sz
theorem pj.adK (h:pj x pre s):x.L.bJ.length<=64:=by
 have h1:=h.d.ks.length_eq;rw[DM.wB,af,<-h.bJ] at h1;have:=h.fl;omega
theorem pj.Lu (h:pj x pre s):pT x.L:=
 ⟨by rw[h.bJ];simp,h.d1,h.d2,λt ht=>by have:=h.adJ t ht;omega,ad h.r2 dQ⟩
theorem LGr.Lu {L':LM} (hg:LGr x.L L' p) (h:pj x pre s) (hp:p.length<=262144):pT L'/\L'.bJ.length<=65:=by
 have hN:=h.adK;have hB:=h.adJ;have iP:=ru p;have lh:x.L.last∈x.L.bJ:=LM.yb (by rw[h.bJ];simp);have zw:=hB _ lh;have nL:x.L.next<=100000000:=zw.1
 obtain⟨a,b,c⟩:=hg;have hL: ∀(l:List dV),L'.bJ=l->l≠[]->l.length<=65->(∀t∈l,t.first+t.bw.length<=100000001/\t.size<=5000000)->pT L'/\L'.bJ.length<=65:=λl e h1 h2 h3=>
  ⟨⟨by grind,by rw[a];exact h.d1,by rw[a];exact h.d2,λt ht=>by rw[e] at ht;have:=h3 t ht;omega,by rw[b];exact ad h.r2 dQ⟩,by grind⟩
 rcases c with c|c|c|c
 ·exact hL _ c (by rw[h.bJ];simp) zQ λt ht=>by have:=hB t ht;omega
 ·refine hL _ c sQ oQ λt ht=>?_;rcases List.mem_append.1 ht with ht|ht
  ·have:=hB t ht;omega
  ·simp only[ax] at ht;subst ht;simp;omega
 ·refine hL _ c sQ oQ λt ht=>?_;rcases List.mem_append.1 ht with ht|ht
  ·have:=hB t (List.dropLast_subset _ ht);omega
  ·simp only[ax] at ht;subst ht;simp only[dV.plus,aa,List.length_singleton];omega
 ·refine hL _ c sQ oQ λt ht=>?_;rcases List.mem_append.1 ht with ht|ht
  ·have:=hB t ht;omega
  ·simp only[ax] at ht;subst ht;simp;omega
abbrev Fi:Value:=.iface 186 (.agg #[])
abbrev Bn:List PanicEntry:=[{ v:=Fi,recovered:=false }]
theorem Rec.ye (r:Rec):r.fJ=0\/r.fJ=2\/r.fJ=4\/r.fJ=7:=by
 have h:r.err=0\/r.err=4\/r.err=7:=by
  unfold Rec.err;split
  ·simp
  ·split<;>simp
 unfold Rec.fJ;rcases h with h|h|h<;>rw[h]
 ·by_cases h:262144<(gq r).length<;>simp[h]
 ·simp
 ·simp
variable {r : Rec}
theorem ab2 (h1:r.reads=[]) (h2:r.writes=[]) (h3:r.parts=[]) (h4:r.xp=[]) (h5:r.state= .zero):r.at w X aX aX aX aX aX aX:=by
 unfold Rec.at;rw[h1,h2,h3,h4,h5];exact⟨Sl.nil _ _ _,Sl.nil _ _ _,Sl.nil _ _ _,Sl.nil _ _ _,eY.nil _ _ _,eY.nil _ _ _⟩
theorem Ej (h1:r.reads=[]) (h2:r.writes=[]) (h5:r.state= .zero):r.small:=by
 refine⟨by simp[h1],by simp[h2],by simp[h1],by simp[h2],?_⟩;rw[h5];exact⟨by simp[State.zero,Lz],by simp[State.zero,LA],by simp[State.zero,adL],by simp[State.zero,adM]⟩
def LB (w:World) (Y:XS) (nb:Nat):Prop:= ∃x0 x1 x2 x3 x5 x6 x7 x8 x9 vm va,aH w Y nb [x0,x1,x2,x3,B true,x5,x6,x7,x8,x9,vm,va] nT
variable {nb : Nat}
def LB.mv {A A':XS} (h:LB w A nb) (m:Mv A w A' w'):LB w' A' nb:=let⟨x0,x1,x2,x3,x5,x6,x7,x8,x9,vm,va,hr⟩:=h;⟨x0,x1,x2,x3,x5,x6,x7,x8,x9,vm,va,hr.mv m⟩
def dkR (db:Nat) (m:DM):qp:=⟨λw _ A=>Dk w A db m,λh _ m=>h.mv m⟩
def Uq (db:Nat) (m:DM):Nat->qp
 |3=>dkR db m
 |_=>Q5
def Ur (nb db:Nat) (m:DM):Nat->qp
 |1=>⟨λw _ A=>LB w A nb,λh _ m=>h.mv m⟩
 |3=>dkR db m
 |_=>Q5
abbrev adN (w:World) (own:Nat->Nat) (nb db:Nat) (m:DM):Prop:=Hs (Ur nb db m) w own
abbrev DQ (own:Nat->Nat) (nb db:Nat) (wa w':World) (P:DM->Prop):Prop:=NQ (Ur nb db) own wa w' λ_ m=>P m
def jG (n:br) (r:Rec):LD×Nat×Nat:=LD.iF ⟨n.L,n.m⟩ r.fJ.toNat (gq r)
abbrev LC (n:br) (r:Rec):br:= { n with L:=(jG n r).1.L,m:=(jG n r).1.m }
def M8 (n:br) (r:Rec) (m':DM):Prop:=(jG n r).2.2=12/\m'=(jG n r).1.m
def Lg.dk (h:Lg w F lb db L m):Dk w F db m:=let⟨_,_,_,_,_,_,h2,_,h4⟩:=h;h4.mono h2
def al9 (n:br) (r:Rec) (vp:Value) (v:Value) (n':br):Prop:= ∃bx BY v2,v=ptr bx 0/\bx ∉ n.cl/\n'= { n with c:= { n.c with cm:=BY },bl:=cU r.aG bx n.bl,cl:=n.cl++[bx],C:=λb'=>if b'=bx then⟨r,vp,v2,r.parts,false⟩else n.C b' }
abbrev Yc (n:br) (b:Nat) (d:zh) (BY:Value):br:= { n with c:= { n.c with cm:=BY },cl:=n.cl++[b],C:=λb'=>if b'=b then d else n.C b' }
def LF (n:br) (b:Nat) (d:zh) (c:Nat):qp:=if c=tx b 4 then JY b d 4 else if c=tx b 5 then JY b d 5 else if c=tx b 6 then JY b d 6 else ea n c
variable {w0 wa : World} {own aM bY : Nat -> Nat} {n' : br} {QP : DM -> Prop} {args : Array Value} {f : FuncId} {sg : dV} {vd vh vp vr vw : Value} {d : zh}
section
variable {n : br} {b : Nat} {F : Nat -> qp}
theorem _root_.Go.aK.St.We {Q:Value->World->(Nat->Nat)->br->Prop} (s:St w0 bY w X own F) (h:Fj P f args w X (gH own) (λv wa w'=>NQ ea own wa w' (Q v w')) (λch wa w'=>ch=Bn/\DQ own nb db wa w' QP)) (hf:enters P f=true)
  (k: ∀v w' X' aM n',Sn w0 bY w' X' aM n'->Q v w' aM n'->Mv (bZ own 4) w (bZ aM 4) w'->N v w' X') (hR: ∀wb,Fr (gH bY) w0 wb->DQ bY nb db w0 wb QP->R (.panicked Bn) wb):eC P R X w true f args N:=
 s.t.Gw h hf (λ_ h=>h) (λv wa w' X' ⟨aM,n',e,h',q⟩ hle gC _ c=>k v w' X' aM n' (s.Yd hle gC c e h').1 q (s.Yd hle gC c e h').2)
 λch wa w' X' hq hle gC hT c wb pS=>by
  obtain⟨rfl,aM,m',e,hd,q⟩:=hq;have hx: ∀k,aM k≠0->X' k:=λk hk=>by
   by_cases A8:k<wa.heap.size
   ·exact c.sub k (s.x k λe0=>hk ((e k A8).1 e0))
   ·exact gC k ⟨by omega,hd.lt k hk⟩
  refine hR wb (hT.fr pS) ⟨aM,m',λk hk=>?_,hd.kp hx pS,q⟩;have h1:=s.e k hk;have h2:=e k (aw hk (ad s.t.s.kp.size hle))
  grind
def DQ.imp {P P':DM->Prop} (h:DQ own nb db w w' P) (hp: ∀m,P m->P' m):DQ own nb db w w' P':=let⟨a,b,c,d,e⟩:=h;⟨a,b,c,d,hp _ e⟩
def _root_.Go.aK.St.Gw {Q:Value->World->(Nat->Nat)->br->Prop} {Ye:DM->Prop} {Q0:Value->World->Prop} (s:St w0 bY w X own F) (h:Fj P f args w X (gH own) (λv wa w'=>NQ ea own wa w' (Q v w')) (λch wa w'=>ch=Bn/\DQ own nb db wa w' QP)) (hf:enters P f=true)
  (k: ∀v w' X' aM n',Sn w0 bY w' X' aM n'->Q v w' aM n'->Mv (bZ own 4) w (bZ aM 4) w'->N v w' X') (hp: ∀m',QP m'->Ye m'):
  eC P (Fk (gH bY) w0 Q0 λch w'=>ch=Bn/\DQ bY nb db w0 w' Ye) X w true f args N:=
 s.We h hf k λwb hf hd=>.inr ⟨Bn,rfl,hf,rfl,hd.imp hp⟩
theorem Fl (h:j9 w own n) (hX:tn own X) (ic:pj ⟨n.L,n.m⟩ pre sg) (dc:r.at w (bZ own 4) vr vw vp vq vh vd) (lW:r.small) (BQ:(gq r).length<=2^33):
  Fj pg 82 #[ptr n.nb 0,r.v vr vw vp vq vh vd] w X (gH own) (λv wa w'=>NQ ea own wa w' λ_ n'=>(jG n r).2.2≠12/\v=I (jG n r).2.2/\n'=LC n r)
   (λch wa w'=>ch=Bn/\DQ own n.nb n.db wa w' (M8 n r)):=by
 intro w0 hk;have s:=St.init h hX hk;replace dc:=dc.mv (yU hX hk);have h1:=dc.1.one;have h2:=dc.2.1.one;have h3:=dc.2.2.1.one;have h4:=dc.2.2.2.1.one;have h5:=dc.2.2.2.2.1.one;have h6:=dc.2.2.2.2.2.one;have hlk:pT (LD.append ⟨n.L,n.m⟩ (gq r)).1.L:=by
  by_cases hp:(gq r).length<=262144
  ·exact((ahX ⟨n.L,n.m⟩ _).Lu ic hp).1
  ·have e:LD.append ⟨n.L,n.m⟩ (gq r)=(⟨n.L,n.m⟩,0,2):=by unfold LD.append;rw[if_pos zQ]
   rw[e];exact ic.Lu
 have jX: ∀{n0 x:LD} (j:Nat),j=3-> ∀c,c≠j-> ∀w K A,(ea { n with L:=n0.L,m:=n0.m } c).p w K A->(ea { n with L:=x.L,m:=x.m } c).p w K A:=λ{n0 x} j hj=>by subst hj;exact oe
 refine LG.1 λ_=>?_;refine cM (DJ (dc.mv (Mv.sub (s.sub 4))) lW λ_=>BQ) kQ s.has ?_;rintro ve DX w1 X1 hq qw nY aB;have s1:=s.since aB;obtain⟨vb,rfl,ob,yT⟩: ∃vb,ve= .tuple #[vb,I r.fJ]/\aK.one vb=true/\(r.fJ=0->Own w1 (made DX w1) DX.heap.size _ 1 vb ((gq r).map U1)):=by
  by_cases he:r.fJ≠0
  ·rw[if_pos he] at hq;exact⟨_,hq,rfl,λe=>absurd e he⟩
  ·rw[if_neg he] at hq;obtain⟨vb,e,ho⟩:=hq;exact⟨vb,by rw[e,Classical.byContradiction he],ho.sl.one,λ_=>ho⟩
 refine ajI (v:=vb) rfl (ajI (v:=I r.fJ) rfl ?_);refine ib (Q:=λ(K:Value->World->XS->Prop)=> ∀w X aM (x:LD) (z:Nat),Sn w0 own w X aM { n with L:=x.L,m:=x.m } ->pT x.L->(jG n r).1=(if z≠0 then x else x.sync.1)->(jG n r).2.2=(if z≠0 then z else x.sync.2)->K (I z) w X) ?_ λK22 ama=>?_
 ·intro w2 X2 lZ x z s2 wo LH zx;refine ib (Q:=λ(K:Value->World->XS->Prop)=> ∀w X aM (x:LD) (z:Nat),Sn w0 own w X aM { n with L:=x.L,m:=x.m } ->(jG n r).1=x->(jG n r).2.2=z->K (I z) w X) ?_ λK35 amb=>?_
  ·intro w3 X3 nH x z s3 LH zx;have hs:=s3.rf;by_cases xZ:z=12
   ·repeat' first|refine aI ?_;intros|with_reducible apply cK
    refine sc kQ rfl ?_;refine s3.st (o:=4) 1 (s3.get 1) (λc=>if c=1 then Yf n.nb (bM (G9 n.c n.DY n.vm n.va) 4 [B true]) nT else ea { n with L:=x.L,m:=x.m } c) zQ kQ (Nat.le_of_ble_eq_true rfl) rfl (λ_ _ _ h=>h) (λc hc w K A h=>by rw[if_neg hc];exact h) λw4 X4 l7 s4 m4=>?_;clear hs;have hs:=s4.rf;repeat' refine aq ?_;intros
    (with_reducible refine SD ?_ ?_)
    ·kernel_rfl
    refine SE s4.has λwa ou=>s4.t.jg ou ⟨rfl,l7,x.m,s4.e,?_,zx.trans xZ,by rw[LH]⟩;have h:=s4.h.kp s4.x ou;exact h.to λc h0 h4 w K A h=>by
     by_cases e:c=1
     ·subst e;exact⟨_,_,_,_,_,_,_,_,_,_,_,h⟩
     ·rw[if_neg e] at h;rcases c with _|_|_|_|c<;>first|exact absurd rfl e|exact Lg.dk h|trivial
   ·repeat' first|refine aI ?_;intros|with_reducible apply cK
    exact s3.yf λwa aL=>⟨by rw[zx];exact xZ,by rw[zx],by unfold LC;rw[LH]⟩
  have hs:=s2.rf;have hr:=s2.v.1;by_cases hz:z=0
  ·rw[if_neg zQ] at LH zx;repeat' refine aI ?_;intros
   refine xQ (IN (s2.get 3) wo (s2.fxc 3)) kQ s2.has (s2.sub 3) λv zA w3 X3 ⟨hv,G3,hG3,Xe⟩ rn mX _ c3=>?_;obtain⟨nH,s3,m3⟩:=s2.DD (F':=ea { n with L:=x.sync.1.L,m:=x.sync.1.m }) 3 c3 (λ_ e=>e) G3 (λk ah=>(hG3 k ah).imp id λe=>⟨mX k e,ad rn e.1⟩) (λK _=>Xe) (jX (n0:=x) (x:=x.sync.1) 3 rfl);subst hv;exact amb _ _ _ _ _ s3 LH zx
  ·rw[if_pos hz] at LH zx;repeat' refine aI ?_;intros
   exact amb _ _ _ _ _ s2 LH zx
 have hs:=s1.rf;have hr:=s1.v.1;have ek:jG n r=LD.iF ⟨n.L,n.m⟩ r.fJ.toNat (gq r):=rfl;unfold LD.iF at ek;by_cases he:r.fJ=0
 ·rw[he] at ek⊢;repeat' refine aI ?_;intros
  have ho:=yT he;refine xQ (Yg (s1.get 3) ic.Lu (by have:=ic.adK;grind) (s1.fxc 3) ho.sl λk ah=>⟨nY k ah,λ(e:own k=3)=>by have:=(s.nw (ad qw ah.1)).1;omega⟩) kQ s1.has (s1.sub 3) λv xN w2 X2 ⟨hv,G2,hG2,vj⟩ lK ko _ c2=>?_;obtain⟨lZ,s2,m2⟩:=s1.DD (F':=ea { n with L:=(LD.append ⟨n.L,n.m⟩ (gq r)).1.L,m:=(LD.append ⟨n.L,n.m⟩ (gq r)).1.m }) 3 c2 (λ_ e=>e) G2 (λk ah=>(hG2 k ah).imp id λe=>⟨ko k e,ad lK e.1⟩) (λK _=>vj) (jX (n0:=⟨n.L,n.m⟩) 3 rfl);subst hv;repeat' refine aq ?_;intros
  refine ama _ _ _ _ _ s2 hlk ?_ ?_
  ·rw[ek];dsimp only;rw[if_neg sQ];split<;>rfl
  ·rw[ek];dsimp only;rw[if_neg sQ];split<;>rfl
 ·repeat' refine aI ?_;intros
  have h0:r.fJ=(r.fJ.toNat:Int):=by rcases r.ye with e|e|e|e<;>rw[e]<;>rfl
  have h1:r.fJ.toNat≠0:=by omega
  rw[h0];rw[if_pos h1] at ek;exact ama _ _ _ ⟨n.L,n.m⟩ _ s1 ic.Lu (by rw[ek,if_pos h1]) (by rw[ek,if_pos h1])
theorem amc {b b':Nat} (hi:i<8) (hj:j<8) (h:tx b i=tx b' j):b=b'/\i=j:=by unfold tx at h;omega
theorem _root_.Go.aK.St.aqi (s:Sn w0 bY w X own n) (hb:own b=0/\w0.heap.size<=b) (hr:aH w X b (d.r.l aX aX d.vp aX aX aX++[d.v2,B d.ended]) cmT) (ho:Own w X w0.heap.size Qx 1 d.v2 (d.waits.map I1)) (hn: ∀g,fv d.v2 g->own g=0) (hp:Sl w (bZ own 4) 1 d.vp (d.r.parts.map I1)):
  b ∉ n.cl/\ ∃aM,St w0 bY w X aM (LF n b d)/\Mv (bZ own 4) w (bZ aM 4) w:=by
 have no:b ∉ n.cl:=λh=>by have:own b=tx b 4:=(s.h.BZ h).1.1;exact iz.1 (this.symm.trans hb.1)
 have ne: ∀{i j:Nat},i<8->j<8->i≠j->tx b i≠tx b j:=λhi hj h e=>h (amc hi hj e).2;obtain⟨ir,s1,m1,e1,e2⟩:=s.jX (F':=λc=>if c=tx b 5 then JY b d 5 else ea n c) (j:=tx b 5) (N:=fv d.v2) (dY.oh s.rf nX) (· =tx b 5) (λ_ h=>h.elim) iz.1.symm iz.2.symm (λk e=>⟨ho.2.2 k e,hn k e,(ho.ge e).1⟩) iz.1
  (λaM e1 e2 m c hc=>by subst hc;rw[if_pos rfl];exact xO (ho.low (ak _)) e2) λc hc K A _ h=>by rw[if_neg hc];exact h
 have mc:ir b=0:=(e1 b (Gx ho hr (by rfl))).trans hb.1;obtain⟨lZ,s2,m2,-,-⟩:=s1.jX (F':=LF n b d) (j:=tx b 4) (N:=(· =b)) (dY.oh s1.rf nX) (· =tx b 4) (λ_ h=>h.elim) iz.1.symm iz.2.symm (λk e=>by subst e;exact⟨hr.1,mc,hb.2⟩) iz.1
  (λaM _ e2 m c hc=>by subst hc;unfold LF;rw[if_pos rfl];exact⟨e2 b rfl,hr.2⟩) λc hc K A m h=>by
   unfold LF;rw[if_neg hc];by_cases h5:c=tx b 5
   ·rw[if_pos h5] at h⊢;exact h
   ·rw[if_neg h5] at h⊢;by_cases h6:c=tx b 6
    ·rw[if_pos h6];exact(hp.mv m1).mv m
    ·rw[if_neg h6];exact h
 exact⟨no,lZ,s2,m1.trans m2⟩
theorem SF (h:c<16):LF n b d c=ea n c:=by unfold LF tx;rw[if_neg zQ,if_neg zQ,if_neg zQ]
theorem ahY (hn: ∀i,i<16->i≠1->i≠10-> ∀w K A,(Yh n i).p w K A->(Yh n' i).p w K A) (hs:n'.al=n.al/\n'.ex=n.ex/\n'.A=n.A/\n'.cl=n.cl++[b]/\n'.C=λb'=>if b'=b then d else n.C b'): ∀c,(c≠1/\c≠10)-> ∀w K A,(LF n b d c).p w K A->(ea n' c).p w K A:=λc hc w K A h=>by
 obtain⟨q1,q2,q3,q4,q5⟩:=hs;have e: ∀b',n'.dE b'↔n.dE b':=λb'=>by unfold br.dE;rw[q1,q2]
 have eC:n'.C b=d:=by rw[q5];exact if_pos rfl
 unfold LF at h;by_cases h4:c=tx b 4
 ·subst h4;rw[if_pos rfl] at h;rw[wu _ _ _ dQ];exact λ_=>by rw[eC];exact h
 rw[if_neg h4] at h;by_cases h5:c=tx b 5
 ·subst h5;rw[if_pos rfl] at h;rw[wu _ _ _ dQ];exact λ_=>by rw[eC];exact h
 rw[if_neg h5] at h;by_cases h6:c=tx b 6
 ·subst h6;rw[if_pos rfl] at h;rw[wu _ _ _ dQ];exact λ_=>by rw[eC];exact h
 rw[if_neg h6] at h;refine Xr (λhi p=>hn c hi hc.1 hc.2 w K A p) (λb' i hi ec p=>?_) h;by_cases hb:b'=b
 ·subst hb;rcases i with _|_|_|_|_|_|_|_|i<;>first|exact absurd ec h4|exact absurd ec h5|exact absurd ec h6|(simp only[zC,Di,e,q3] at p⊢;exact p)
 ·have eC':n'.C b'=n.C b':=by rw[q5];exact if_neg hb
  have el:b'∈n'.cl↔b'∈n.cl:=by rw[q4];simp[hb]
  rcases i with _|_|_|_|_|_|_|_|i<;>(simp only[zC,Di,e,el,eC',q3] at p⊢;exact p)
theorem OD (h:j9 w own n) (hX:tn own X) (hp:Sl w (bZ own 4) 1 vp (r.parts.map I1)) (wy:r.parts.length<=2^40) (qI:n.cl.length<=2^20):
  Ct pg 106 #[ptr n.nb 0,r.v aX aX vp aX aX aX] w X (gH own) λv wa w'=>NQ ea own wa w' λ_ n'=>al9 n r vp v n':=by
 intro w0 hk;have s:=St.init h hX hk;replace hp:=hp.mv (yU hX hk);have h3:=hp.one;obtain⟨e1,e2,e3,rfl⟩:=hp.form;refine NA.1 λ_=>?_;refine cM (Fm (hp.mono (s.sub 4)) wy) kQ s.has ?_;rintro v2 DX w1 X1 q1 qw nY Ud;have ov2:=q1.sl.one;have LH:Own w1 X1 w0.heap.size _ 1 v2 _:=q1.up nY qw;have s1:=s.since Ud;obtain⟨g1,g2,g3,rfl⟩:=q1.sl.form;have hr:=s1.v.1;have o1:=s1.v.2.2.2.1;have hs:=s1.rf;repeat' first|refine aq ?_;intros|(refine Oq hs ?_;intro bx w X gn aB gw hs bt)|(refine q1s hs ?_;intro _ _ _ w X hs ho)
 obtain⟨nb1,lZ,s2,m2⟩:=(s1.since gw).aqi (b:=bx) (d:=⟨r,.slice e1 e2 e3,.slice g1 g2 g3,r.parts,false⟩) (s1.nw zQ) bt ((LH.since gw).mono λ_ h=>h) (λg hg=>(s.nw (LH.ge hg).1).1) (hp.mv ((yU s.x Ud.kp).trans (yU s1.x gw.kp)));replace s2:=s2.since hs;obtain⟨d,hd⟩: ∃d:zh,d=⟨r,.slice e1 e2 e3,.slice g1 g2 g3,r.parts,false⟩:=⟨_,rfl⟩;rw[<-hd] at s2;have q1:aH w (bZ lZ 1) n.nb (G9 n.c n.DY n.vm n.va) nT:=by have:=s2.get 1;rwa [SF dQ] at this
 have q10:Own w (bZ lZ 10) 0 pcT 1 n.c.cm (n.cl.map λb=>[ptr b 0]):=by have:=s2.get 10;rwa [SF dQ] at this
 refine s2.ap1 (o:=8) 1 10 11 q1 q10 ho.sl (λr jY u hu=>?_) oQ (λv'=>ea (Yc n bx d v')) (λ_ _ _ _ h=>h) (λv' w' K A h=>?_) (λv' w' K A _ h=>by rwa [SF dQ] at h) (λv' c hc w' K A h=>ahY (n:=n) (n':=Yc n bx d v') (b:=bx) (d:=d) ?_ ⟨rfl,rfl,rfl,rfl,rfl⟩ c ⟨hc.1,hc.2.1⟩ w' K A h) λBY w3 X3 nH s3 m3=>?_
 ·rw[ax] at jY;subst jY;rw[ax] at hu;subst hu;rfl
 ·show Own w' A 0 pcT 1 v' ((n.cl++[bx]).map λb=>[ptr b 0])
  rw[aC];exact h
 ·intro i hi h1 h10 w K A h;rcases i with _|_|_|_|_|_|_|_|_|_|_|_|_|i<;>first|exact h|exact absurd rfl h1|exact absurd rfl h10
 clear hs hr;have hs:=s3.rf;have hr:=s3.v.1;repeat' refine aq ?_;intros
 have hb6:=(s3.get 6:dS w3 (bZ nH 6) nX n.c.bb (λk:bX=>k.v) zz n.bl).x.1;refine vJ (kv:=λk:bX=>k.v) (k:=r.aG) (a:=bx) (et:=124) (s3.Aa 6:) EU (show zz w3 nX (ptr bx 0) bx from rfl) (λ_ h=>h.elim) tf kQ hs.has λw4 X4 c4 Az=>?_;obtain⟨l7,s4,m4⟩:=s3.DD (F':=ea { Yc n bx d BY with bl:=cU r.aG bx n.bl }) 6 c4 (λk e=>by rw[show k=n.c.bb from e];exact hb6) (bZ nH 6) (λ_ e=>.inl e) (λ_ _=>mi Az hb6) oe;clear hs hr;have hs:=s4.rf
 skip
 exact s4.fin λwa hk=>⟨bx,BY,_,rfl,nb1,by rw[hd]⟩
end
def jx (t:bX) (st:cn) (ps:List Int):Rec:=⟨9,t,st,.zero,false,0,0,[],[],ps,[],.zero⟩
theorem afH (l:List Int):(iY encI l).length<=10+10*l.length:=by
 have h: ∀l:List Int,(l.map encI).flatten.length<=10*l.length:=by
  intro l
  induction l with
  |nil=>simp
  |cons x l ih=>
   have:=fD x;simp only[bh,dd,aa,aJ];omega
 have h1:=fD (l.length:Int);have h2:=h l;unfold iY;rw[aa];omega
theorem Wf (t:bX) (st:cn) (ps:List Int):gq (jx t st ps)=encI 9++(oq t++(lL st++iY encI ps)):=by simp[gq,jx]
theorem afI (t:bX) (st:cn) (ps:List Int):(gq (jx t st ps)).length<=80+10*ps.length:=by
 have h1:=fD 9;have h2:=Dl t;have h3:=vB st;have h4:=afH ps;rw[Wf];simp only[aa];omega
def mF (d:oP) (i:Nat) (m:cJ) (gX:Value) (iK:List (List Value)):oP:= { d with x:= { d.x with ml:=d.x.ml.later m.aU },vw:=gX,rw:=iK,ws:=d.ws.take i++d.ws.drop (i+1) }
def Wg (n:br) (t:bX) (d:oP) (r:Rec) (n':br):Prop:=
 ((jG n r).2.2≠12/\(jG n r).2.2≠0/\ ∃ki,Told { LC n r with al:=kq t n.al,va:=ki,ra:=n.ra++[EW (jG n r).2.2 t .zero false aX] } (d.ids.map λid=>(SG t id).pP (20+n.c.id)) n')\/
 ((jG n r).2.2=0/\ ∃bx BY vp v2 ki vs,aK.one vs=true/\bx ∉ n.cl/\Told (Yc { LC n r with al:=kq t n.al,bl:=cU t bx n.bl,va:=ki,ra:=n.ra++[EW 0 t d.x.ml false vs] } bx ⟨r,vp,v2,d.ids,false⟩ BY) (d.ids.map λid=>(Yi r id).pP (20+n.c.id)) n')
def Q6 (n:br) (t:bX) (b:Nat) (n':br):Prop:=Wg n t (n.A b) (jx t (n.A b).x.ml (n.A b).ids) n'
def Q7 (n:br) (m:cJ) (n':br):Prop:=
 (∃gN,n'= { n with ck:=gN } /\NoW n m true)\/CM n m true n'\/ ∃(b i:Nat) (y:cJ) (gN:cn) (gX:Value) (iK:List (List Value)) (n1:br),CN n m true b i y/\n1= { dN n b (mF (n.A b) i m gX iK)with ck:=gN } /\
  (((n.A b).ws.length≠1/\n'=n1)\/((n.A b).ws.length=1/\Q6 n1 m.aG b n'))
def adO (n:br) (m:cJ) (m':DM):Prop:= ∃(b i:Nat) (y:cJ),CN n m true b i y/\(n.A b).ws.length=1/\M8 n (jx m.aG ((n.A b).x.ml.later m.aU) (n.A b).ids) m'
section
variable {n : br} {b : Nat}
theorem Yj {m:cJ} {vk vs vc:Value} {N M:Nat} (h:j9 w own n) (hX:tn own X) (ic:pj ⟨n.L,n.m⟩ pre sg) (hm:m.at w (bZ own 4) vk vs vw vp vr vc vh vd) (fQ:m.aU.may=true) (hk:tq N M n) (hN:N<=2^20):
  Fj pg 56 #[ptr n.nb 0,m.v vk vs vw vp vr vc vh vd] w X (gH own) (λ_ wa w'=>NQ ea own wa w' λ_ n'=>Q7 n m n') (λch wa w'=>ch=Bn/\DQ own n.nb n.db wa w' (adO n m)):=by
 intro w0 iy;have s0:=St.init h hX iy;replace hm:=hm.mv (yU hX iy);have hi:1<=n.c.id/\n.c.id<=2:=by rw[hk.id];decide
 clear h hX iy;refine LI.1 λ_=>?_;refine s0.call (HW s0.h s0.x hk.pre fQ hm.ranges hi (hk.get (m:=m) zQ).1 (λb hb=>(hk.act _ b hb).pq) (hk.get zQ).2) kQ λv w1 X1 ir n1 s1 q1 m1=>?_;rcases q1 with⟨rfl,q1⟩|⟨b,i,y,gN,hw,rfl,rfl⟩
 ·have hs:=s1.rf;repeat' refine aq ?_;intros
  exact s1.yf λ_ _=>q1.elim .inl λe=>.inr (.inl e)
 have hb:n.dE b:=.inl ⟨_,hw.g⟩;have C8:=hk.act _ b hw.g;have ap3:=C8.ws;have ada:=C8.ids;have lU:i<(n.A b).ws.length:=(List.getElem?_eq_some_iff.1 hw.gL).1;obtain⟨ha,o1,o2,o3,o4⟩:=s1.va (b:=b) hb;have hs:=s1.rf;repeat' first|refine aq ?_;intros|(refine pt (OE _ _) hs ?_;intro w X hs)
 have s2:=s1.since hs;refine s2.stN (o:=12) (tx b 0) (s2.h.act (b:=b) hb).1 (ea (dN { n with ck:=gN } b { n.A b with x:= { (n.A b).x with ml:=(n.A b).x.ml.later m.aU } })) zQ kQ sQ rfl rfl (λ_ _ _ h=>rq dQ h) IE (λw3 X3 nH s3 m3=>?_) iz.1 iz.2;clear hs ha s1 s2;obtain⟨ha,-⟩:=s3.vs (n:= { n with ck:=gN }) hb;have hs:=s3.rf;have od:=s3.h.act (b:=b) hb;rw[jA] at od;repeat' refine aq ?_;intros
 refine s3.ahF (tx b 0) (tx b 1) (tx b 3) od.1 od.2.1 (Ou (F:=X3) (od.2.1.mono (s3.sub _ iz.1)) (λ_ h=>h) (by show i<(n.A b).rw.length;rw[show(n.A b).rw.length=_ from od.2.2.2.1.1];exact lU) od.2.2.2.1.Xz) (λv=>ea (dN { n with ck:=gN } b (mF (n.A b) i m v ((n.A b).rw.take i++(n.A b).rw.drop (i+1))))) (λ_ _ _ _ h=>rq dQ h) (λ_ _ _ _ h=>rq dQ h)
  (λv' w' K A mv p=>rq dQ (by rw[wu _ _ _ dQ] at p;have p:=p hb;rw[jA] at p;exact⟨(od.2.2.2.1.cut i).mv mv,p.2⟩)) (λv'=>Qy) (λv4 w4 X4 l7 s4 m4=>?_) (wq:=by unfold tx;omega)
 clear hs ha;have HQ:(n.A b).rw.length=(n.A b).ws.length:=od.2.2.2.1.1;have hl7:((n.A b).rw.take i++(n.A b).rw.drop (i+1)).length=(n.A b).ws.length-1:=by simp;omega
 clear od s3;obtain⟨d,hd⟩: ∃d,d=mF (n.A b) i m v4 ((n.A b).rw.take i++(n.A b).rw.drop (i+1)):=⟨_,rfl⟩;rw[<-hd] at s4;have ed:d.ids=(n.A b).ids/\d.x= { (n.A b).x with ml:=(n.A b).x.ml.later m.aU } /\d.rw.length=(n.A b).ws.length-1/\d.vw=v4/\d.sn=(n.A b).sn:=by rw[hd];exact⟨rfl,rfl,hl7,rfl,rfl⟩
 obtain⟨n3,sT⟩: ∃n3:br,n3= { dN n b d with ck:=gN } :=⟨_,rfl⟩;replace s4:Sn w0 own w4 X4 l7 n3:=by rw[sT];exact s4
 have e3:n3.A b=d:=by rw[sT];exact jA
 have f3:n3.nb=n.nb/\n3.db=n.db/\n3.L=n.L/\n3.m=n.m/\n3.c=n.c/\n3.cl=n.cl/\n3.ra=n.ra/\n3.rm=n.rm/\n3.ex=n.ex/\n3.al=n.al:=by rw[sT];exact⟨rfl,rfl,rfl,rfl,rfl,rfl,rfl,rfl,rfl,rfl⟩
 have rW:n3.dE b:=by rw[sT];exact hb
 have hs:=s4.rf;have od:=s4.h.act rW;obtain⟨ha,o1,o2,o3,o4⟩:=s4.va rW;rw[e3] at od ha o1 o2 o3 o4;have pf:Sl w4 X4 36 d.vw (d.rw.map id):=by rw[xj];exact od.2.1.sl.mono (s4.sub _ iz.1)
 rw[ed.2.2.2.1] at ha pf o1;by_cases h1:(n.A b).ws.length=1;case neg=>
  repeat' refine aI ?_;intros
  exact s4.yf λ_ _=>.inr (.inr ⟨b,i,y,gN,_,_,n3,hw,by rw[sT,hd],.inl ⟨h1,rfl⟩⟩)
 have adP:=od.2.2.2.2.2 (by rw[hd];exact C8.pq);obtain⟨q1,q2,q3,hqv⟩:=adP.form;rw[hqv] at adP;rw[show JQ d.x v4=JQ { d.x with vq:=.slice q1 q2 q3 } v4 by rw[<-hqv]] at ha;have ht6:d.x.aG=m.aG:=by
  have:=(show∀t b,getM t n3.al=some b->(n3.A b).x.aG=t from s4.h.gL 12 dQ dQ) m.aG b (by rw[f3.2.2.2.2.2.2.2.2.2];exact hw.g)
  rwa [e3] at this
 have dc:(jx d.x.aG d.x.ml d.ids).at w4 (bZ l7 4) aX aX (.slice q1 q2 q3) aX aX aX:=⟨Sl.nil _ _ _,Sl.nil _ _ _,adP,Sl.nil _ _ _,eY.nil _ _ _,eY.nil _ _ _⟩;have oc:d.ids.length<=80:=by rw[ed.1];exact ada
 have BQ:(gq (jx d.x.aG d.x.ml d.ids)).length<=2^33:=by have:=afI d.x.aG d.x.ml d.ids;omega
 obtain⟨r,hr⟩: ∃r,r=jx d.x.aG d.x.ml d.ids:=⟨_,rfl⟩;have JW:r=jx m.aG (n3.A b).x.ml (n3.A b).ids:=by rw[e3,hr,ht6]
 rw[<-f3.1,<-f3.2.1];repeat' refine aI ?_;intros
 refine s4.Gw (Ye:=adO n m) (Fl (r:=jx d.x.aG d.x.ml d.ids) (vp:=.slice q1 q2 q3) s4.h s4.x (by rw[f3.2.2.1,f3.2.2.2.1];exact ic) dc (Ej rfl rfl rfl) BQ) kQ (λv w5 X5 mY n5 s5 ⟨k1,k2,k3⟩ m5=>?_) λm' KZ=>⟨b,i,y,hw,h1,?_⟩;case refine_2=>
  have e:jG n3 (jx d.x.aG d.x.ml d.ids)=jG n (jx m.aG ((n.A b).x.ml.later m.aU) (n.A b).ids):=by unfold jG;rw[f3.2.2.1,f3.2.2.2.1,ht6,ed.1,ed.2.1]
  unfold M8 at KZ⊢;rw[e] at KZ;exact KZ
 rw[<-hr] at k1 k2 k3;obtain⟨z,hz⟩: ∃z,z=(jG n3 r).2.2:=⟨_,rfl⟩;rw[<-hz] at k1 k2;subst k2;have e5:n5.A b=d/\n5.nb=n3.nb/\n5.c=n.c/\n5.cl=n.cl/\n5.ra=[]/\n5.rm=[]/\n5.ex=n.ex:=by rw[k3];exact⟨e3,rfl,f3.2.2.2.2.1,f3.2.2.2.2.2.1,f3.2.2.2.2.2.2.1.trans hk.ra,f3.2.2.2.2.2.2.2.1.trans hk.rm,f3.2.2.2.2.2.2.2.2.1⟩
 have BS:n5.dE b:=by rw[k3];exact rW
 clear hs ha od dc;have hs:=s5.rf;obtain⟨ha,-⟩:=s5.va BS;rw[e5.1] at ha;have Q8:=adP.mv m5;rw[<-e5.2.1];have ux: ∀{n':br},Wg n3 m.aG d r n'->Q7 n m n':=λ{n'} h=>.inr (.inr ⟨b,i,y,gN,_,_,n3,hw,by rw[sT,hd],.inr ⟨h1,by unfold Q6;rw[<-JW,e3];exact h⟩⟩);by_cases K3:z=0;case neg=>
  repeat' refine aI ?_;intros
  refine s5.call (zU (code:=z) s5.h s5.x BS (by rw[e5.1,hd];exact C8.pq) (by rw[e5.2.2.2.2.1];simp) (by rw[e5.2.2.1];exact hi) (by rw[e5.2.2.2.2.2.1,e5.1];simp;omega)) kQ λv w6 X6 rr n6 s6 ⟨ki,mR,lX,q6,hl6⟩ _=>?_;have s7:=s6.to (HU (e':=n.ex) λb' h'=>by rw[q6];show b'∈b::n5.ex;rw[e5.2.2.2.2.2.2];exact .tail _ h');exact s7.yf λ_ _=>ux (.inl ⟨by rw[<-hz];exact k1,by rw[<-hz];exact K3,ki,mR,lX,by
   rw[q6,e5.1,if_pos (show d.x.pre=true by rw[ed.2.1];exact hw.pre),ht6,e5.2.2.1,<-hz,k3,f3.2.2.2.2.1,f3.2.2.2.2.2.2.2.2.1],by rw[hl6,e5.1,if_pos (show d.x.pre=true by rw[ed.2.1];exact hw.pre)];simp[k3]⟩)
 have xl:=(s5.h.act BS).2.2.1;rw[e5.1] at xl;repeat' refine aI ?_;intros
 refine cM (AZ ha (λ_ h=>h) (xl.sl.mono (s5.sub _ iz.1)) (by rw[ed.2.2.2.2];have:=C8.sn;omega)) kQ hs.has ?_;rintro vr wa6 w6 X6 ⟨ys,_,Bh⟩ XU Lt sU;have s6:=s5.since sU;replace Q8:=Q8.mv (sU.gY (s5.sub 4));have ovr:=Bh.sl.one;obtain⟨r1,r2,r3,rfl⟩:=Bh.sl.form;clear hs Bh sU ha xl s5;have hs:=s6.rf;repeat' refine aq ?_;intros
 refine s6.call (CJ (code:=0) (t:=.zero) (st:=d.x.ml) (on:=false) (vs:=.slice r1 r2 r3) s6.h s6.x BS ovr (by rw[e5.2.2.2.2.1];simp)) kQ λv w7 X7 rZ n7 s7 ⟨ki,q7⟩ m7=>?_;replace Q8:=Q8.mv m7;rw[show n5.nb=n7.nb by rw[q7]];clear hs;repeat' refine aq ?_;intros
 refine s7.call (OD (r:=jx d.x.aG d.x.ml d.ids) (vp:=.slice q1 q2 q3) s7.h s7.x Q8 (by show d.ids.length<=_;omega) (by rw[q7];show n5.cl.length<=_;rw[e5.2.2.2.1];have:=hk.cl;have:=hk.mM;omega)) kQ λv w8 X8 Su n8 s8 ⟨bx,BY,v2,hv,gn,q8⟩ m8=>?_;subst hv;rw[<-hr] at q8;rw[show n7.nb=n8.nb by rw[q8]];have eC:n8.C bx=⟨r,.slice q1 q2 q3,v2,r.parts,false⟩:=by rw[q8];exact if_pos rfl
 have erp:r.parts=d.ids:=by rw[hr];rfl
 refine s8.call (H6 (b:=bx) s8.h s8.x (by rw[q8];simp) (by rw[q8,q7];show 1<=n5.c.id/\n5.c.id<=2;rw[e5.2.2.1];exact hi) (by rw[eC,q8,q7];show n5.rm.length+r.parts.length<=_;rw[e5.2.2.2.2.2.1,erp];simp;omega)) kQ λv w9 X9 pQ n9 s9 ⟨mR,lX,q9,hl9⟩ _=>?_;have Q9:=s9.to (HU (e':=n.ex) λb' h'=>by rw[q9,q8,q7];show b'∈b::n5.ex;rw[e5.2.2.2.2.2.2];exact .tail _ h')
 skip
 exact Q9.yf λ_ _=>ux (.inr ⟨by rw[<-hz];exact K3,bx,BY,.slice q1 q2 q3,v2,ki,.slice r1 r2 r3,ovr,by rw[q7] at gn;show bx ∉ n3.cl;rw[k3] at gn;exact gn,mR,lX,by
  rw[q9,eC,q8,q7,e5.1,ht6,show r.aG=m.aG by rw[hr];exact ht6,erp,k3,f3.2.2.2.2.2.2.2.2.1],by rw[hl9,eC,q8,q7,k3];simp[Yc,erp]⟩)
end
end Go.Proofs.YtgfijddlkhkopaaGreat