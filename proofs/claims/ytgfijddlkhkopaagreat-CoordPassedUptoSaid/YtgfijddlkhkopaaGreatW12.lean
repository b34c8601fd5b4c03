/- Part 12 of the proof. -/
import Derived.Test.YtgfijddlkhkopaaGreatProg
import Derived.Recover
import Derived.KernelRfl
import Derived.Tactics
import Derived.Shelf.Abstract
import Derived.Test.YtgfijddlkhkopaaGreatW11
set_option linter.all false
open List renaming mem_singleton → av, length_map → af, length_append → aa, length_drop → bV, mem_of_getElem? → ay, map_append → aC, append_nil → gJ, append_assoc → ao, drop_drop → im, map_cons → bB, length_take → aD, mem_of_mem_drop → di, getElem?_take_of_lt → fP, map_drop → ql, drop_left' → jU, map_take → tL, getElem?_eq_getElem → aZ, map_map → bU, map_id → wQ, mem_cons_of_mem → bX, length_cons → aL, getElem?_map → cP, map_congr_left → eu, cons_append → jT, nil_append → cI, take_of_length_le → aA, dropLast_concat → jE, length → ba, take_left' → ig, flatten_cons → dd, mem_of_mem_take → dN, getElem?_drop → gr, cons_lt_cons_iff → wR, append_left_lt → yH, pairwise_map → Ar, extract_eq_take_drop → tE, mem_append_left → bP
open Nat renaming le_refl → au, le_trans → ad, zero_le → aq, pow_succ → rH, pow_le_pow_right → rI, mul_one → AV, min_eq_left → kr, lt_of_lt_of_le → aw, mod_eq_of_lt → fy, lt_of_not_le → AW, min_le_right → AX
open UInt8 renaming ofNat → nC, toNat_ofNat' → yI
open BitVec renaming ofInt → aF, ofInt_natCast → xG, toNat_ofNat → iL
open Option.some renaming inj → cn, injEq → aj
open Go.Instr renaming sliceAt → bJ, alloc → gd
open Bool renaming false_ne_true → oW
open Option renaming isSome_some → tv, map_some → aY
open ByteArray renaming size_extract → pX, ext → DD, data_extract → vP
open Array renaming replicate → dg, toList_extract → xH
namespace Go.Proofs.YtgfijddlkhkopaaGreat
open Go.Proofs.Tryz renaming prog → pg
open Go.aK
set_option maxRecDepth 100000
set_option maxHeartbeats 4000000
theorem aaF:Idle pg 132:=by
 refine⟨by kernel_rfl,λgH w=>?_⟩;refine callsD_of_wpS Tryz.func132 rfl λc₀ cs hu=>?_;rw[Tryz.ntmps132];have gh:12<=(gH++dg (12-gH.size) undef).size:=by simp;omega
 generalize gH++dg (12-gH.size) undef=tm at gh;have h2:2<tm.size:=by omega
 have h5:5<tm.size:=by omega
 have h7:7<tm.size:=by omega
 apply wpS_seq;apply wpS_region;simp[wpOpsS,go_sem,recoverD,hu,Exit.thenS];refine wpS_of_wp (wp_block ?_);apply wp_seq;apply wp_region;simp[wpOps,go_sem,Exit.then,h2,h5,h7];refine .inl (wp_cond_true ?_ ?_)
 ·simp[Act.eval,h2,h5,h7]
 apply wp_region;simp[wpOps,go_sem,Exit.then,Exit.inBlock,h2,h5,h7];refine .inl ?_;cases c₀;simp_all [bodyPostS,results,Tryz.results132]
set_option maxRecDepth 100000
set_option maxHeartbeats 1000000
attribute [local irreducible] un jn jc iE ld1 iw st1 kY kZ oP rF o9 Hg Dz gO ga aV lK lB eW eV eU eC eF gE me fin iu bu eB vS Kz Hh Hi Hj Hk Hl KA KB KC KD Et Eu Hm Hn Ho KE KF KG
variable {bs : List Nat} {X : XS} {w : World}
theorem Xh {a b:Value} (ha:Sl w X 1 a (bs.map U1)) (hb:Sl w X 1 b (bs.map U1)) (cA:bs≠[]):Ct pg 137 #[a,b] w X nX λv _ _=>v=B true:=by
 intro w0 hk;replace ha:=ha.mv hk.bY;replace hb:=hb.mv hk.bY;have ap7:bs.map U1≠[]:=λe=>cA (by simpa using e);have key: ∀{w X a},Sl w X 1 a (bs.map U1)-> ∃g o cap,a= .slice (some ⟨g,o,none⟩) bs.length cap/\Cells w X g o (bs.map λx:Nat=>Value.int .u8 x):=λh=>by
  obtain⟨_,_,base,cap,rfl,hc,_⟩:=h;obtain⟨g,o,rfl,jm⟩:=hc ap7;rw[Xf] at jm;exact⟨g,o,cap,by grind,jm⟩
 obtain⟨g1,o1,c1,rfl,Ap⟩:=key ha;obtain⟨g2,o2,c2,rfl,ni⟩:=key hb;refine Sc.1 λhs=>?_;refine MG (e:=5) rfl Ap kQ kQ kQ hs.has λw1 X1 ax=>?_;replace hs:=hs.trans ax;refine MG (e:=5) rfl (ni.mv ax.mv) kQ kQ kQ hs.has λw2 X2 bp=>?_;replace hs:=hs.trans bp;repeat' first|refine ak ?_;intros|refine cM ?_ ?_<;>intros
 ·exact bM hs λwa aH=>rfl
 ·exact absurd rfl zQ
theorem acV:Tryz.f79.results= #[.cell 2 73,.cell 3 37]:=by kernel_rfl
variable {e : Int} {cs : List Value} {eb xb : Nat}
theorem KY {tmps:Array Value} (h1:tmps[2]? =some (ptr xb 0)) (h2:tmps[3]? =some (ptr eb 0)) (hx:aG w X xb cs 73) (hl:cs.length=29) (he:aG w X eb [I e] 37):
  (results Tryz.f79 tmps).run pg w= .ok (.tuple #[.agg cs.toArray,I e]) w:=by
 have l1:(loadVar 73 ⟨xb,0,none⟩).run pg w= .ok (.agg cs.toArray) w:=by
  have hq:(match pg.underlying 73 with|some (.struct _)=>true|_=>false)=true:=by kernel_rfl
  split at hq
  ·rename_i fs hu;refine run_loadVar_row w xb _ _ cs.toArray (0,0) _ hx.2 hu rfl ?_;rw[List.size_toArray,hl];kernel_rfl
  ·cases hq
 have l2:(loadVar 37 ⟨eb,0,none⟩).run pg w= .ok (I e) w:=by
  have hc:w.cell? ⟨eb,0,none⟩=some (I e):=by unfold World.cell?;rw[he.2];rfl
  have Wu:(isAgg 37).run pg w= .ok false w:=run_isAgg_plain (d:=.int .i64) kQ rfl w;simp[loadVar,Wu,run_load,hc]
 unfold results;rw[acV];simp[h1,h2,asAddr,l1,l2]
variable {R : Ending -> World -> Prop}
theorem U3 (hx:aG w X xb cs 73) (hl:cs.length=29) (he:aG w X eb [I e] 37) (hR:R (.returned (.tuple #[.agg cs.toArray,I e])) w):
  HA pg Tryz.f79 R [ptr xb 0,ptr eb 0,.func (.func 132) #[] #[ptr xb 0,ptr eb 0]] .returning w:=by
 refine⟨[ptr xb 0,ptr eb 0],132,#[ptr xb 0,ptr eb 0],rfl,by kernel_rfl,?_⟩;refine(aaF.2 _ w).mono ?_;rintro e' u' w' ⟨⟨x,rfl⟩,rfl,rfl⟩;refine⟨x,_,rfl,rfl,λtmps ht=>KY (ht 0 2 ?_) (ht 1 3 ?_) hx hl he,hR⟩
 ·rfl
 rfl
variable {N : Value -> World -> XS -> Prop} {t : TypeId} {P : Program}
theorem ahx {m:Bool} (hX: ∀k,X k->k<w.heap.size) (hz:(P.info? t).bind (·.zero)=some (I 0))
  (n: ∀b w' X',w.heap.size<=b->ai X w X' w'->aG w' X' b [I 0] t->N (ptr b 0) w' X'):eV P R X w m (gd t true (.tuple #[])) N:=by
 unfold eV eW;intro wa hk;unfold jA;have Xi: ∀w,(zeroValue t).run P w= .ok (I 0) w:=by
  intro w;cases hi:P.info? t with
  |none=>grind
  |some inf=>
   have sK:inf.zero=some (I 0):=by simpa [hi] using hz
   simp[zeroValue,typeInfo,hi,sK]
 have hr:(gd t true (.tuple #[])).run P wa= .ok (ptr wa.heap.size 0) (wa.alloc (.cells #[I 0] t)):=by simp[gd,Xi,newVar,newRow,Value.cells]
 simp only[vS,Sem.run_bind,hr,Result.andThen_ok,Sem.run_pure];have hx:Ext wa (wa.alloc (.cells #[I 0] t)):=Ext.alloc _ _;exact⟨Step.eP hx,n _ _ _ hk.size (ai.eP hX hk hx) ⟨.inr ⟨au _,by simp⟩,by simpa using heap_alloc_new wa _⟩⟩
variable {z : Int} {a c k : Nat}
section
variable {N : Value -> Prop}
theorem Xj (hz:z=k) (hk:k<=24) (hc:c<256) (h:N (.int .u32 ((c*2^k:Nat):Int))):aV P X w (binOp .shl t (.int .u32 (IntKind.u32.wrap (c:Int))) (.int .u64 z)) N:=
 RY zQ (by
  have h1:min z.toNat IntKind.u32.bits=k:=by
   show min z.toNat 32=k
   omega
  have h2:c*2^k<4294967296:=by
   have h3:2^k<=2^24:=rI dQ hk;have h4:c*2^k<=255*2^24:=Nat.mul_le_mul zQ h3;omega
  have e:IntKind.u32.wrap (IntKind.u32.wrap (c:Int)*2^min z.toNat IntKind.u32.bits)=((c*2^k:Nat):Int):=by
   rw[h1,wrap32,wrap32,show(c:Int) % 4294967296=c by omega];have h5:(c:Int)*2^k=((c*2^k:Nat):Int):=by simp
   rw[h5];omega
  rw[e];exact h)
theorem acW (hk:k<=24) (ha:a<2^k) (hc:c<256) (h:N (.int .u32 ((a+c*2^k:Nat):Int))):aV P X w (binOp .or t (.int .u32 (a:Int)) (.int .u32 ((c*2^k:Nat):Int))) N:=
 Qm (by
  have h3:2^k<=2^24:=rI dQ hk;have h4:c*2^k<=255*2^24:=Nat.mul_le_mul zQ h3;have e:IntKind.u32.wrap (aF IntKind.u32.bits (a:Int)|||aF IntKind.u32.bits ((c*2^k:Nat):Int)).toNat=((a+c*2^k:Nat):Int):=by
   rw[wrap32];have h1:(aF 32 (a:Int))=BitVec.ofNat 32 a:=by rw[xG]
   have h2:(aF 32 ((c*2^k:Nat):Int))=BitVec.ofNat 32 (c*2^k):=by rw[xG]
   show((aF 32 (a:Int)|||aF 32 ((c*2^k:Nat):Int)).toNat:Int) % 4294967296=_
   rw[h1,h2,BitVec.toNat_or,iL,iL,fy (by omega:a<2^32),fy (by omega:c*2^k<2^32),ae9 ha];omega
  rw[e];exact h)
end
def abC: ∃g:List Nat->Nat,∀l,g l=l[0]?.getD 0+l[1]?.getD 0*2^8+l[2]?.getD 0*2^16+l[3]?.getD 0*2^24:=⟨_,λ_=>rfl⟩
noncomputable def iS:List Nat->Nat:=Classical.choose abC
theorem HB (l:List Nat):iS l=l[0]?.getD 0+l[1]?.getD 0*2^8+l[2]?.getD 0*2^16+l[3]?.getD 0*2^24:=Classical.choose_spec abC l
theorem It (n:Nat) (h:n<4294967296) (l:List Nat):iS (tX n++l)=n:=by
 rw[HB];unfold tX;simp;omega
variable {l : List Nat}
theorem Gw {vb:Value} (h:Sl w X 1 vb (l.map U1)) (h4:4<=l.length) (cD: ∀b∈l,b<256):Ct pg 253 #[vb] w X nX λv wa w'=>v= .int .u32 (iS l):=by
 intro w0 hk;replace h:=h.mv hk.bY;have hlen:=h.gR;obtain⟨b0,b1,b2,b3,r,rfl⟩: ∃b0 b1 b2 b3 r,l=b0::b1::b2::b3::r:=by
  match l,h4 with
  |b0::b1::b2::b3::r,_=>exact⟨_,_,_,_,_,rfl⟩
 have x0:(b0::b1::b2::b3::r)[0]? =some b0:=rfl;have x1:(b0::b1::b2::b3::r)[1]? =some b1:=rfl;have x2:(b0::b1::b2::b3::r)[2]? =some b2:=rfl;have x3:(b0::b1::b2::b3::r)[3]? =some b3:=rfl;have y0:=cD b0 sQ;have y1:=cD b1 sQ;have y2:=cD b2 sQ;have y3:=cD b3 sQ;refine Xk.1 λhs=>?_;have w8:IntKind.u32.wrap (b0:Int)=b0:=by rw[wrap32];omega
 repeat' first|refine ak ?_;intros|(with_reducible refine Xj (k:=8) rfl zQ y1 ?_)
 rw[w8];refine acW (k:=8) zQ zQ y1 ?_;repeat' first|refine ak ?_;intros|(with_reducible refine Xj (k:=16) rfl zQ y2 ?_)
 refine acW (k:=16) zQ zQ y2 ?_;repeat' first|refine ak ?_;intros|(with_reducible refine Xj (k:=24) rfl zQ y3 ?_)
 refine acW (k:=24) zQ zQ y3 ?_
 skip
 exact bM hs λwa aH=>by rw[HB];rfl
noncomputable def lW (b:List Nat):Option (List Nat):=
 if b.length<12\/262144<iS b\/iS (b.drop 4)≠CJ (b.take 4)\/b.length-12<iS b then none
 else if iS (b.drop (8+iS b))≠CJ ((b.drop 8).take (iS b))then none
 else some ((b.drop 8).take (iS b))
variable {b p : List Nat}
theorem Qo (h:lW b=some p):p.length+12<=b.length:=by
 unfold lW at h;split at h
 ·cases h
 ·rename_i h1;simp only[not_or,Nat.not_lt] at h1;split at h
  ·cases h
  grind
theorem aaG (h: ¬(b.length<12\/262144<iS b\/iS (b.drop 4)≠CJ (b.take 4)\/b.length-12<iS b)) (h2:iS (b.drop (8+iS b))=CJ ((b.drop 8).take (iS b))):lW b=some ((b.drop 8).take (iS b)):=by
 unfold lW
 grind
theorem xI (h:b.length<12\/262144<iS b\/iS (b.drop 4)≠CJ (b.take 4)\/b.length-12<iS b):lW b=none:=by
 unfold lW
 grind
theorem acX (h2:iS (b.drop (8+iS b))≠CJ ((b.drop 8).take (iS b))):lW b=none:=by
 unfold lW
 grind
noncomputable def jf (b:List Nat):List (List Nat)×Nat:=
 match h:lW b with
 |none=>([],0)
 |some p=>let r:=jf (b.drop (p.length+12));(p::r.1,p.length+12+r.2)
termination_by b.length
decreasing_by
 have:=Qo h
 grind
theorem afd (hp:p.length<=262144):lW (dt p++l)=some p:=by
 have e1:iS (dt p++l)=p.length:=by
  unfold dt;simp only[ao];exact It _ zQ _
 have e2:(dt p++l).drop 4=tX (CJ (tX p.length))++(p++(tX (CJ p)++l)):=by
  unfold dt;simp only[ao];exact jU (MH _)
 have e3:(dt p++l).take 4=tX p.length:=by
  unfold dt;simp only[ao];exact ig (MH _)
 have e4:(dt p++l).drop 8=p++(tX (CJ p)++l):=by
  rw[show 8=4+4 from rfl,<-im,e2];exact jU (MH _)
 have hlen:(dt p++l).length=p.length+12+l.length:=by rw[aa,qG]
 unfold lW;rw[e1,e2,e3,hlen,It _ (afe _),if_neg oQ,<-im,e4,List.drop_left,It _ (afe _),List.take_left,if_neg sQ]
theorem acY (hp:p.length<=262144):jf (dt p++l)=(p::(jf l).1,p.length+12+(jf l).2):=by
 have h:=afd (l:=l) hp;have hd:(dt p++l).drop (p.length+12)=l:=jU (qG p);rw[jf]
 grind
theorem KZ: ∀(ps:List (List Nat)) (l:List Nat),(∀p∈ps,p.length<=262144)->jf ((ps.map dt).flatten++l)=(ps++(jf l).1,(ps.map dt).flatten.length+(jf l).2)
 |[],l,_=>by simp
 |p::ps,l,h=>by
  rw[bB,dd,ao,acY (h p sQ),KZ ps l λq hq=>h q (bX _ hq),aa,qG]
  grind
theorem DT (h:lW l=none):jf l=([],0):=by grind [jf]
theorem aaH (h:l.length<12):jf l=([],0):=DT (by unfold lW;grind)
variable {rows : List (List Value)} {i j : Nat} {v : Value}
theorem TS {z':Int} {N:Value->Prop} (h:Sl w X 1 v rows) (hz:z=i) (sK:z'=j) (yE:i<=j) (hj:j<=rows.length) (ht:P.underlying t=some (.slice (P.elem t))) (hs:(P.info? (P.elem t)).map (·.size)=some 1)
  (n: ∀v',Sl w X 1 v' ((rows.drop i).take (j-i))->N v'):aV P X w (bJ t v (some (.int .i64 z)) (some (.int .i64 z')) none) N:=by
 subst hz;subst sK;obtain⟨h1,h2,base,cap,rfl,hc,hb,hlc,iF⟩:=h;have hq: ∃inf,P.info? (P.elem t)=some inf/\inf.size=1:=by
  cases hq:P.info? (P.elem t)with
  |none=>simp[hq] at hs
  |some inf=>exact⟨inf,rfl,by simpa [hq] using hs⟩
 obtain⟨inf,hq,gh⟩:=hq;have hll:((rows.drop i).take (j-i)).length=j-i:=by rw[aD,bV];omega
 have nU: ∀wa:World,(bJ t (.slice base rows.length cap) (some (.int .i64 (i:Int))) (some (.int .i64 (j:Int))) none).run P wa= .ok (sliced base i j cap 1) wa:=λwa=>by
  rw[run_sliceAt_slice wa t _ _ _ _ ht,run_slice_lh wa t _ _ cap ht .i64 .i64 i j zQ zQ zQ];simp[sizeOf,typeInfo,hq,gh]
 refine bF nU (n _ ?_);refine⟨λr hr=>h1 r (di (dN hr)),by omega,_,cap-i,by unfold sliced;rw[hll],λcA=>?_,λAl=>?_,by omega,by omega⟩
 ·have pK:i<j:=by
   refine AW λhle=>cA ?_;have:j-i=0:=by omega
   rw[this];simp
  obtain⟨b,o,rfl,jm⟩:=hc (by intro e;rw[e] at hj;simp at hj;omega);refine⟨b,o+i,?_,?_⟩
  ·rw[if_neg zQ];simp only[aY,aj,AV];unfold Addr.add;split
   ·rename_i h0;rw[h0];rfl
   ·rfl
  ·have hr: ∀r∈rows.drop i,r.length=1:=λr hr=>h1 r (di hr);rw[aK.lN (j-i) hr,aK.CE i h1,AV,AV];obtain⟨hx,c,ty,fr,dZ,Bw⟩:=jm;refine⟨hx,c,ty,fr,dZ,λq u hu=>?_⟩;have hq:=(List.getElem?_eq_some_iff.1 hu).1;rw[aD] at hq;rw[fP zQ,gr] at hu;have:=Bw _ _ hu
   rwa [<-Nat.add_assoc] at this
 ·split at Al
  ·have:=hb Al;omega
  ·have:base=none:=by simpa using Al
   have:=hb this;omega
theorem OO {N:Value->Prop} (h:Sl w X k v rows) (hz:z=i) (hi:i<=rows.length) (ht:P.underlying t=some (.slice (P.elem t))) (hs:(P.info? (P.elem t)).map (·.size)=some k)
  (n: ∀v',Sl w X k v' (rows.drop i)->N v'):aV P X w (bJ t v (some (.int .i64 z)) none none) N:=by
 subst hz;obtain⟨h1,h2,base,cap,rfl,hc,hb,hlc,iF⟩:=h;have hq: ∃inf,P.info? (P.elem t)=some inf/\inf.size=k:=by
  cases hq:P.info? (P.elem t)with
  |none=>simp[hq] at hs
  |some inf=>exact⟨inf,rfl,by simpa [hq] using hs⟩
 obtain⟨inf,hq,gh⟩:=hq;have nU: ∀wa:World,(bJ t (.slice base rows.length cap) (some (.int .i64 (i:Int))) none none).run P wa= .ok (sliced base i rows.length cap k) wa:=λwa=>by
  rw[run_sliceAt_slice wa t _ _ _ _ ht,run_slice_l wa t _ _ cap ht .i64 i zQ zQ];simp[sizeOf,typeInfo,hq,gh]
 refine bF nU (n _ ?_);refine⟨λr hr=>h1 r (di hr),by rw[bV];omega,_,cap-i,by unfold sliced;rw[bV],λcA=>?_,λAl=>?_,by rw[bV];omega,by omega⟩
 ·have pK:i<rows.length:=by
   refine AW λhle=>cA (List.drop_of_length_le hle)
  obtain⟨b,o,rfl,jm⟩:=hc (by intro e;rw[e] at pK;simp at pK);refine⟨b,o+i*k,?_,?_⟩
  ·rw[if_neg zQ];simp only[aY,aj];unfold Addr.add;split
   ·rename_i h0;rw[h0];rfl
   ·rfl
  ·rw[aK.CE i h1];obtain⟨hx,c,ty,fr,dZ,Bw⟩:=jm;exact⟨hx,c,ty,fr,dZ,λj v hj=>by rw[gr] at hj;have:=Bw _ _ hj;rwa [<-Nat.add_assoc] at this⟩
 ·split at Al
  ·have:=hb Al;omega
  ·have:base=none:=by simpa using Al
   have:=hb this;omega
theorem aj7 (h: ∀b∈l,b<256):iS l<4294967296:=by
 have g: ∀i:Nat,l[i]?.getD 0<256:=λi=>by
  cases hq:l[i]? with
  |none=>simp
  |some x=>simpa using h x (ay hq)
 have:=g 0;have:=g 1;have:=g 2;have:=g 3;rw[HB];omega
theorem alO (l:List Nat):U4 (K0 l)= .int .u32 ((CJ l:Nat):Int):=by rw[Qp]
theorem Qq {q:List Nat} (h:lW b=some q):jf b=(q::(jf (b.drop (q.length+12))).1,q.length+12+(jf (b.drop (q.length+12))).2):=by
 rw[jf];split
 ·rename_i h2;rw[h] at h2;cases h2
 ·rename_i q' h2;rw[h] at h2;cases h2;rfl
theorem Xl {v0:Value} (h:Sl w X 1 v0 (bs.map U1)) (hb:bs.length<=2^30) (cD: ∀b∈bs,b<256):
  Ct pg 180 #[v0] w X nX λv wa w'=> ∃va,∃rs:List (Value×List Nat),v= .tuple #[va,I ((jf bs).2:Nat)]/\rs.map Prod.snd=(jf bs).1/\Own w' (made wa w') wa.heap.size 151 1 va (rs.map λr=>[r.1])/\
   ∀r∈rs,Own w' (made wa w') wa.heap.size 5 1 r.1 (r.2.map U1):=by
 intro w0 hk;replace h:=h.mv hk.bY;obtain⟨lb,ln,lc,rfl⟩:=h.form;refine U5.1 λhs=>?_;refine ij (Q:=λK=> ∀va w X,∀rs:List (Value×List Nat),ai (bI w0) w0 X w->rs.map Prod.snd=(jf bs).1->Own w X w0.heap.size 151 1 va (rs.map λr=>[r.1])->(∀r∈rs,Own w X w0.heap.size 5 1 r.1 (r.2.map U1))->K va (I ((jf bs).2:Nat)) w X) ?_ λK hK=>?_
 ·intro va w1 X1 rs ax he ho hr;exact bM ax λwa aH=>⟨va,rs,rfl,he,(ho.kp aH).tight,λr h=>((hr r h).kp aH).tight⟩
 ·refine gv (λm a b w X=> ∃(p:Nat) (rs:List (Value×List Nat)),a=I p/\m=bs.length-p/\p<=bs.length/\ai (bI w0) w0 X w/\jf bs=(rs.map Prod.snd++(jf (bs.drop p)).1,p+(jf (bs.drop p)).2)/\Own w X w0.heap.size 151 1 b (rs.map λr=>[r.1])/\(∀r∈rs,Own w X w0.heap.size 5 1 r.1 (r.2.map U1))/\rs.length<=p) bs.length ⟨0,[],rfl,rfl,aq _,hs,by simp,Own.nil _ _ _ _ _,by simp,au _⟩ ?_;clear hs;rintro m a acc w1 X1 ⟨p,rs,rfl,rfl,hp,hs,TT,ho,hr,qV⟩;have oC:=h.mv hs.mv;have Qr:lW (bs.drop p)=none-> ∀w X,ai X1 w1 X w->K acc (I p) w X:=λhn w X As=>by
   rw[DT hn] at TT;have:=hK acc w X rs (hs.trans As) (by rw[TT];simp) (ho.since As) λr h=>(hr r h).since As;rw[TT] at this;exact this
  by_cases xJ:bs.length-p<12
  ·repeat' refine aJ ?_;intros
   exact Qr (xI (.inl (by rw[bV];exact xJ))) _ _ (ai.eQ hs.has)
  ·repeat' refine aJ ?_;intros
   refine OO oC rfl (by rw[af];exact hp) kQ kQ λv1 kO=>?_;rw[<-ql] at kO;have yA: ∀b∈bs.drop p,b<256:=λb hb=>cD b (di hb);have zm:(bs.drop p).length=bs.length-p:=bV;refine dL (Gw kO zQ yA) kQ hs.has λw2 X2 bp=>?_;replace hs:=hs.trans bp;have ju:=ho.since bp;have jC: ∀r∈rs,Own w2 X2 w0.heap.size 5 1 r.1 (r.2.map U1):=λr h=>(hr r h).since bp;have hg4:iS (bs.drop p)<4294967296:=aj7 yA;have hwn:IntKind.i64.wrap ((iS (bs.drop p):Nat):Int)=(iS (bs.drop p):Nat):=VU zQ;repeat' first|refine ak ?_;intros|refine cM ?_ ?_<;>intros
   ·repeat' first|refine ak ?_;intros|with_reducible apply cB
    exact Qr (xI (.inr (.inl zQ))) _ _ bp
   ·have acZ:=h.mv hs.mv;refine OO acZ (i:=p+4) zQ (by rw[af];omega) kQ kQ λv2 rE=>?_;rw[<-ql] at rE;repeat' refine ak ?_;intros
    refine TS acZ (i:=p) (j:=p+4) rfl zQ zQ (by rw[af];omega) kQ kQ λv3 Hf=>?_;rw[<-ql,<-tL] at Hf;refine ij (Q:=λK=> ∀w X,ai X2 w2 X w->K (.int .u32 ((iS (bs.drop (p+4)):Nat):Int)) w X) ?_ λK1 hK1=>?_
    ·intro w3 X3 cY;refine ij (Q:=λK=> ∀w X,ai X2 w2 X w->K (.int .u32 ((CJ ((bs.drop p).take (p+4-p)):Nat):Int)) w X) ?_ λK2 hK2=>?_
     ·intro w4 X4 fV;have alP:=acZ.mv fV.mv;have e4:(bs.drop p).drop 4=bs.drop (p+4):=im;have e5:p+4-p=4:=by omega
      rw[e5];repeat' first|refine ak ?_;intros|refine cM ?_ ?_<;>intros
      ·rename_i cA;exact Qr (xI (.inr (.inr (.inl (by rw[e4];omega))))) _ _ (bp.trans fV)
      ·rename_i heq Qs;exact Qr (xI (.inr (.inr (.inr (by rw[zm];omega))))) _ _ (bp.trans fV)
      ·rename_i PQ heq Qs;rw[hwn] at Qs PQ⊢;have ajo:((bs.drop (p+8)).take (iS (bs.drop p))).length=iS (bs.drop p):=by
        have h8:iS (bs.drop p)<=bs.length-(p+8):=by omega
        rw[aD,bV];exact kr h8
       refine TS alP (i:=p+8) (j:=p+8+iS (bs.drop p)) zQ zQ zQ (by rw[af];omega) kQ kQ λv5 Qt=>?_;rw[<-ql,<-tL,show p+8+iS (bs.drop p)-(p+8)=iS (bs.drop p)by omega] at Qt;repeat' refine ak ?_;intros
       refine OO alP (i:=p+8+iS (bs.drop p)) zQ (by rw[af];omega) kQ kQ λv6 hv6=>?_;rw[<-ql] at hv6;refine dL (Gw hv6 (by rw[bV];omega) λb hb=>cD b (di hb)) kQ fV.has λw5 X5 sU=>?_;refine dL (Ci (Qt.mv sU.mv)) kQ sU.has λw6 X6 qm=>?_;rw[alO];have e8:(bs.drop p).drop 8=bs.drop (p+8):=im;have e9:(bs.drop p).drop (8+iS (bs.drop p))=bs.drop (p+8+iS (bs.drop p)):=by rw[im];congr 1;omega
       have Xm:=(fV.trans sU).trans qm;have gn: ¬((bs.drop p).length<12\/262144<iS (bs.drop p)\/iS ((bs.drop p).drop 4)≠CJ ((bs.drop p).take 4)\/(bs.drop p).length-12<iS (bs.drop p)):=by
        rw[e4,zm];omega
       have oS:=hs.trans Xm;have ho6:=ju.since Xm;have AY: ∀r∈rs,Own w6 X6 w0.heap.size 5 1 r.1 (r.2.map U1):=λr h=>(jC r h).since Xm;have OP:=Qt.mv (sU.trans qm).mv;clear hs;have hs:=oS;clear ju jC ho hr;repeat' first|refine ak ?_;intros|refine cM ?_ ?_<;>intros|(with_reducible apply acQ);(case hX=>exact hs.has);(case hu=>kernel_rfl);(case hz=>kernel_rfl);intro acc w X ax ho;replace hs:=hs.trans ax
       ·rename_i cA;exact Qr (acX (by rw[e9,e8];omega)) _ _ (bp.trans Xm)
       ·rename_i ap8;have wS:=aaG gn (by rw[e9,e8];omega);rw[e8] at wS;clear ap8 gn heq;have alQ:=ajo;obtain⟨pl,vO⟩: ∃pl,(bs.drop (p+8)).take (iS (bs.drop p))=pl:=⟨_,rfl⟩;rw[vO] at wS OP alQ;clear vO ajo;refine qj ho ax Xm.has kQ (OP.mv ax.mv) (λr hr u hu=>?_) oQ oQ λv8 w8 X8 jZ yJ hc8 Xn=>?_
        ·obtain⟨x,_,rfl⟩:=List.mem_map.1 hr;simp at hu;subst hu;rfl
        have As:=oS.trans jZ;have HC:=ho6.since jZ;refine MI HC As (λ_ h=>h) kQ rfl yJ.sl.one oQ oQ λva9 w9 X9 ac0 TU hc9 asA=>?_;have NZ: ∀{v:Value} {rows:List (List Value)},Own w8 X8 w0.heap.size 5 1 v rows->Own w9 X9 w0.heap.size 5 1 v rows:=λhv=>hv.dY hc9 λg hg dZ=>by
         obtain⟨c1,e1⟩:=hv.ow.tag hg;obtain⟨c2,e2⟩:=HC.ow.tag dZ;rw[e1] at e2;simp at e2
        clear hs;have hs:=ac0;repeat' refine ak ?_;intros
        refine fw (bs.length-(p+(iS (bs.drop p)+12))) zQ ⟨p+(iS (bs.drop p)+12),rs++[(v8,pl)],by simp,rfl,by omega,ac0,?_,?_,λr hr=>?_,?_⟩
        ·rw[Qq wS,alQ,im] at TT;rw[TT];simp;omega
        ·rw[aC];exact TU
        ·rcases List.mem_append.1 hr with hr|hr
         ·exact NZ ((AY r hr).since jZ)
         ·simp only[av] at hr;subst hr;exact NZ (yJ.low (by have:=oS.kp.size;omega))
        ·simp;omega
     ·repeat' refine ak ?_;intros
      refine dL (Ci (Hf.mv cY.mv)) kQ cY.has λw4 X4 fV=>?_;rw[alO];exact hK2 _ _ (cY.trans fV)
    ·repeat' refine ak ?_;intros
     refine dL (Gw rE (by rw[bV];omega) λb hb=>cD b (di hb)) kQ hs.has λw3 X3 cY=>?_;exact hK1 _ _ cY
def DM.bytes (m:DM) (n:ByteArray):List Nat:=((m.get n).map (·.1)).getD []
variable {n : ByteArray} {m : DM} {db : Nat} {F : XS}
theorem Gx (h:Dk w F db m) (hF:FX F X w):
  Ct pg 179 #[ptr db 0,.string n] w X nX λv wa w'=> ∃vb,v= .tuple #[vb,I (if(m.get n).isSome then 0 else 8)]/\Own w' (made wa w') wa.heap.size 5 1 vb ((m.bytes n).map U1):=by
 intro w0 hk;obtain⟨mb,l,h0,hz⟩:=h.mv (hF.mv hk);have hX:=λk ah=>(hF.kp hk k ah).1;have hb:=h0.box.mv (Mv.sub hX);have hg:=h0.get n;have hm:=h0.map.mv kP (Mv.sub hX) (A':=nX) λ_ h=>h.elim;refine Nd.1 λhs=>?_;repeat' refine ak ?_;intros
 refine qY hm (λf h1=>?_) λh1=>?_
 ·have hr:=(h0.row _ (gA h1)).mv (Mv.sub hX);have OP:=((h0.ow _ (gA h1)).mono hX).sl;have lx:m.get n=some (f.bs,f.safe):=by rw[hg,h1];rfl
  have hle:=DM.Au lx;have uJ:m.bytes n=f.bs:=by unfold DM.bytes;rw[lx];rfl
  rw[uJ,lx];repeat' first|refine ak ?_;intros|(refine Qu hs ?_;intro acc w X hs ho)
  refine qj ho hs (λ_ h=>h) kQ (OP.mv hs.mv) (λr hr u hu=>?_) oQ oQ λv8 w8 X8 jZ yJ hc8 Xn=>?_
  ·obtain⟨x,_,rfl⟩:=List.mem_map.1 hr;simp at hu;subst hu;rfl
  exact bM jZ λwa aH=>⟨v8,rfl,(yJ.kp aH).tight⟩
 ·have lx:m.get n=none:=by rw[hg,h1];rfl
  have uJ:m.bytes n=[]:=by unfold DM.bytes;rw[lx];rfl
  rw[uJ,lx];repeat' refine ak ?_;intros
  exact bM hs λwa aH=>⟨_,rfl,Own.nil _ _ _ _ _⟩
def DM.Dh (n:ByteArray) (k:Nat) (m:DM):DM:=match m.get n with
 |none=>m
 |some x=>m.put n (x.1.take k) (min x.2 k)
def DM.OQ (m:DM) (n:ByteArray) (k:Int):Nat:=if(m.get n).isSome then(if k<0\/(m.bytes n).length<k then 1 else 0)else 8
def DM.cut (m:DM) (n:ByteArray) (k:Int):DM×Nat:=m.write (m.OQ n k) (DM.Dh n k.toNat)
theorem DM.abD {s s':Nat} (h:m.get n=some (b,s)) (hk:k<=b.length):(m.put n (b.take k) s').sz+(b.length-k)=m.sz:=by
 have:=DM.K3 (bs:=b.take k) (s':=s') h;rw[aD] at this;omega
variable {X' : XS} {w' : World}
theorem nM.cut {mb z s':Nat} {l:List (ByteArray×mX)} {f:mX} {v':Value} (h:nM w F db mb l m z) (hX:FX F X w) (hn:getM n l=some f) (c:ee (· =f.b) X w X' w')
  (hv:Ow w F 5 1 v' ((f.bs.take i).map U1)) (hb:v'.ownBlock=f.v.ownBlock) (hr:aG w' X' f.b [v',I s'] 153) (hs:s'<=(f.bs.take i).length):
  nM w' F db mb (cL n ⟨f.b,v',f.bs.take i,s'⟩ l) (m.put n (f.bs.take i) s') z:=by
 have bo:=h.row _ (gA hn);refine h.jO hX c hn (λk hk=>.inl hk) (λ_ h=>h) ⟨bo.1,hr.2⟩ ?_ (.inl hb) hs;refine hv.tight.mv λk hk hl=>⟨(hv.bw hk).1,c.block k (hX k (hv.bw hk).1).1 λe=>?_⟩;have e:k=f.b:=e;subst e;exact hv.eT bo kQ hk
theorem aaI {bd bn bk:Nat} (h:Dk w F db m) (hF:FX F X w) (hd:aG w X bd [ptr db 0] 25) (hn:aG w X bn [.string n] 9) (si:aG w X bk [I k] 3)
 {s:Nat} (hg:m.get n=some (b,s)) (pj:k<=b.length):
    Ct pg 259 #[ptr bd 0,ptr bn 0,ptr bk 0] w X F λv wa w'=>v= .tuple #[]/\ ∃F',(∀k,F' k->F k\/made wa w' k)/\Dk w' F' db (DM.Dh n k m):=by
  intro w0 hk;obtain⟨mb,l,h0,hz⟩:=h.mv (hF.mv hk);have hT:=hF.ft hk;replace hd:=hd.mv hk.bY;replace hn:=hn.mv hk.bY;replace si:=si.mv hk.bY;have fY:=h0.box.mv (Mv.sub hT.bw);have hs:=ai.init w0;have pI:=h0.get n;have hm:=h0.map.mv kP (Mv.sub hT.bw) (A':=nX) λ_ h=>h.elim;refine JJ.1 λ_=>?_;repeat' refine ak ?_;intros
  refine qY hm (λf h1=>?_) λh1=>?_
  · have hgf:(b,s)=(f.bs,f.safe):=by rw[h1,hg] at pI;exact cn pI
    obtain⟨rfl,rfl⟩:=Prod.mk.inj hgf;have hr:aG w0 (bI w0) f.b [f.v,I f.safe] 153:=(h0.row _ (gA h1)).mv (Mv.sub hT.bw);have ho:Ow w0 F 5 1 f.v (f.bs.map U1):=h0.ow _ (gA h1);have wT:=ho.sl.mono hT.bw;have gh:=DM.abD (s':=min f.safe k) hg pj;have hle:=DM.Au hg;repeat' refine ak ?_;intros
    refine xK hT h0 (λ_ h=>h) m (m.put n (f.bs.take k) (min f.safe k)).sz (o:=1) zQ kQ zQ rfl (by rw[show(((m.put n (f.bs.take k) (min f.safe k)).sz:Nat):Int)=(m.sz:Int)-((f.bs.length:Int)-(k:Int))by omega];rfl) rfl h0.ar λw4 X4 fO h4 c4=>?_;have zi:aG w4 X4 f.b [f.v,I f.safe] 153:=(h4.row _ (gA h1)).mv (Mv.sub fO.bw);have FJ:Ow w4 F 5 1 f.v (f.bs.map U1):=h4.ow _ (gA h1);have NL:=si.dY c4 λe=>aG.eT si fY kQ e;clear hr ho wT fY hs si;repeat' refine ak ?_;intros
    refine Xo (i:=k) (FJ.mono fO.bw) zQ zQ (by rw[af];exact pj) kQ kQ λv' hv hvb=>?_;rw[<-tL] at hv;have hvF:Ow w4 F 5 1 v' ((f.bs.take k).map U1):=hv.tight.mono λq hq=>(FJ.bw (by rw[<-hvb];exact hq)).1;repeat' refine ak ?_;intros
    refine pM (o:=0) zi zQ kQ sQ hv.one fO.s.has λw5 X5 c5 CK=>?_;replace CK:aG w5 X5 f.b [v',I f.safe] 153:=CK;have CM:=NL.dY c5 λe=>aG.eT NL zi kQ e;have hll:(f.bs.take k).length=k:=by rw[aD];exact kr pj
    clear NL;repeat' refine ak ?_;intros
    rw[show min (f.safe:Int) (k:Int)=((min f.safe k:Nat):Int)by omega];refine pM (o:=1) CK zQ kQ sQ rfl c5.has λw6 X6 c6 AY=>?_;replace AY:aG w6 X6 f.b [v',I ((min f.safe k:Nat):Int)] 153:=AY;have cc:=c5.trans c6;have hFf:F f.b:=(h4.row _ (gA h1)).1;have h6:=h4.cut (s':=min f.safe k) (fO.fx λ_ h=>h) h1 cc hvF hvb AY (by rw[hll];exact AX _ _);have kc:=fO.dY (F':=F) cc (λq e=>by rw[show q=f.b from e];exact hFf) λq hq=>.inl hq;refine kc.fin λwa aH=>⟨rfl,F,kc.js aH λ_ h=>h,?_⟩;have e:DM.Dh n k m=m.put n (f.bs.take k) (min f.safe k):=by unfold DM.Dh;rw[hg]
    rw[e];exact⟨mb,_,h6.mv (aH.iZ kc.bw),by omega⟩
  · rw[h1,hg] at pI;cases pI
theorem ac1 (h:Dk w F db m) (hF:FX F X w) (Jp:k<2^62):
  Ct pg 182 #[ptr db 0,.string n,I k] w X F λv wa w'=>v=I (m.cut n k).2/\ ∃F',(∀k,F' k->F k\/made wa w' k)/\Dk w' F' db (m.cut n k).1:=by
 intro w0 hk;replace h:=h.mv (hF.mv hk);have hT:=hF.ft hk;have nN:FX F (bI w0) w0:=hF.kp hk;clear hF;refine OR.1 λ_=>?_;refine sP rfl hT.s.has λbd w1 X1 pG ax jv=>?_;refine sP rfl ax.has λbn w2 X2 hbn bp TV=>?_;refine sP rfl bp.has λbk w3 X3 hbk cY hrk=>?_;have ac2:=(ax.trans bp).trans cY;have dU:=hT.since ac2;have zS:=(jv.since bp).since cY;have Di:=TV.since cY;have h3:Dk w3 F db m:=h.mv (ac2.gU λk ah=>(nN k ah).1);have hs:=ai.eQ cY.has;repeat' refine ak ?_;intros
 refine dL (Qv h3 (dU.fx λ_ h=>h)) kQ hs.has λw4 X4 fV=>?_;have fO:=dU.since fV;have h4:Dk w4 F db m:=h3.mv (fV.gU dU.bw);have K4:=zS.since fV;have ac3:=Di.since fV;have ac4:=hrk.since fV;have q1:=ax.kp.size;have q2:=bp.kp.size;clear hs zS Di hrk jv TV h3 dU;refine ij (Q:=λK=> ∀e:Nat,m.OQ n k=e->K (I e)) ?_ λK hK=>?_
 ·intro e he;have em:m.cut n k=m.write e (DM.Dh n k):=by rw[<-he];rfl
  repeat' refine ak ?_;intros
  rw[em];refine fO.call (EH (A:=λk=>k=bd\/k=bn\/k=bk) (g:=DM.Dh n k) h4 (fO.fx λ_ h=>h) (λk ah=>?_) kQ ?_) kQ (λ_ h=>h) λv NU w5 X5 hq Im EC iN EE=>?_
  ·rcases ah with rfl|rfl|rfl
   ·exact⟨K4.1,K4.lt,λhf=>by have:=(nN _ hf).2;omega⟩
   ·exact⟨ac3.1,ac3.lt,λhf=>by have:=(nN _ hf).2;omega⟩
   ·exact⟨ac4.1,ac4.lt,λhf=>by have:=(nN _ hf).2;omega⟩
  ·intro AN w6 X6 hm6 hx6 hF6 h6;subst AN;unfold DM.OQ at he;cases lx:m.get n with
   |none=>rw[lx] at he;simp at he
   |some x=>
    obtain⟨b,s⟩:=x;have Wv:m.bytes n=b:=by unfold DM.bytes;rw[lx];rfl
    rw[lx,Wv] at he;simp only[tv,if_true] at he;have pj:k<=b.length:=by
     refine Nat.le_of_not_lt λhn=>?_;rw[if_pos (.inr zQ)] at he;cases he
    refine aaI h6 hF6 ⟨hx6 _ (.inl rfl),?_⟩ ⟨hx6 _ (.inr (.inl rfl)),?_⟩ ⟨hx6 _ (.inr (.inr rfl)),?_⟩ (by rw[m.pY];exact lx) pj
    ·rw[(hm6 bd (.inl rfl) (K4.lt)).2];exact K4.2
    ·rw[(hm6 bn (.inr (.inl rfl)) (ac3.lt)).2];exact ac3.2
    ·rw[(hm6 bk (.inr (.inr rfl)) (ac4.lt)).2];exact ac4.2
  ·obtain⟨rfl,F',CN,hD⟩:=hq
   skip
   exact iN.fin λEI aH=>⟨rfl,F',iN.js aH CN,hD.mv (aH.iZ λk ah=>iN.bw k (CN k ah))⟩
 ·obtain⟨mb,l,h0,hz⟩:=id h4;have fY:=h0.box.mv (Mv.sub fO.bw);have hm:=h0.map.mv kP (Mv.sub fO.bw) (A':=nX) λ_ h=>h.elim;have pI:=h0.get n;repeat' first|refine ak ?_;intros|refine cM ?_ ?_<;>intros
  ·exfalso;omega
  ·refine qY hm (λf h1=>?_) λh1=>?_
   ·have lx:m.get n=some (f.bs,f.safe):=by rw[pI,h1];rfl
    have Wv:m.bytes n=f.bs:=by unfold DM.bytes;rw[lx];rfl
    have hr:aG w4 X4 f.b [f.v,I f.safe] 153:=(h0.row _ (gA h1)).mv (Mv.sub fO.bw);have ho:Sl w4 X4 1 f.v (f.bs.map U1):=(h0.ow _ (gA h1)).sl.mono fO.bw;repeat' first|refine ak ?_;intros|refine cM ?_ ?_<;>intros
    ·exact hK 1 (by unfold DM.OQ;rw[lx,Wv];simp only[tv,if_true];rw[if_pos (.inr zQ)])
    ·rw[lx];exact hK 0 (by unfold DM.OQ;rw[lx,Wv];simp only[tv,if_true];rw[if_neg zQ])
   ·have lx:m.get n=none:=by rw[pI,h1];rfl
    simp[lx] at*
  ·have lx:(m.get n).isSome=false:=by
    cases hq:(m.get n).isSome with
    |false=>rfl
    |true=>simp_all
   rw[lx];exact hK 8 (by unfold DM.OQ;rw[lx];rfl)
def DM.tY (cN:List Int) (x:DM×Nat) (n:ByteArray):DM×Nat:=match x.1.get n with
 |none=>x
 |some (bs,s)=>if bs.length=s then x else
  let k:=match cN[x.2]? with
   |some p=>if 0<=p then p.toNat % (bs.length-s+1)else 0
   |none=>0
  (x.1.put n (bs.take (s+k)) (s+k),x.2+1)
def DM.mh (m:DM) (cN:List Int):DM:= { ((fG (m.fs.map (·.1))).foldl (DM.tY cN) (m,0)).1 with ar:=0,dn:=false }
theorem DM.aj8 {k:ByteArray} {s:Nat} (h:(m.get k).isSome=true):((m.put n b s).get k).isSome=true:=by
 unfold DM.get DM.put at*;dsimp only;by_cases e:k=n
 ·subst e;rw[kj];rfl
 ·rw[pd e];exact h
variable {cN : List Int}
theorem DM.ahy {x:DM×Nat} {k:ByteArray} (h:(x.1.get k).isSome=true):((DM.tY cN x n).1.get k).isSome=true:=by
 unfold DM.tY;split
 ·exact h
 ·split
  ·exact h
  ·exact DM.aj8 h
variable {vq : Value}
theorem Xp {S:XS} (h:Dk w F db m) (hF:FX F X w) (hq:Sl w S 1 vq (cN.map I1)) (hS: ∀k,S k->X k/\ ¬F k) (hn: ∀x∈m.fs,x.1.size<=2^40) (hl:m.fs.length<=2^40):
  Ct pg 38 #[ptr db 0,vq] w X F λv wa w'=>v= .tuple #[]/\Dk w' F db (m.mh cN):=by
 intro w0 hk;obtain⟨mb,l,h0,hz⟩:=h.mv (hF.mv hk);have hT:=hF.ft hk;have nN:FX F (bI w0) w0:=hF.kp hk;have hq0:Sl w0 (out F w0) 1 vq (cN.map I1):=hq.mv λk ah AP=>⟨⟨aw AP hk.size,(hS k ah).2⟩,hk.block k (hS k ah).1⟩;obtain⟨qb,qn,qc,rfl⟩:=hq0.form;refine K5.1 λ_=>?_;refine cd (Gy ⟨mb,l,h0,hz⟩ (hT.fx λ_ h=>h) hn hl) kQ hT.s.has ?_;rintro vl Cv w1 X1 TW pa mB ax;have ea:=hT.since ax;have h1:=h0.mv (ax.gU hT.bw);have mu:Sl w1 (λk=>X1 k/\ ¬F k) 1 vl ((fG (m.fs.map (·.1))).map S1):=TW.sl.mono λk ah=>⟨mB k ah,λhf=>by have:=(nN k hf).2;have:=ah.1;omega⟩;have xD: ∀n∈fG (m.fs.map (·.1)),(m.get n).isSome=true:=λn hn=>by
  have:=(jx (m.fs.map (·.1))).mem_iff.1 hn;cases hg:m.get n with
  |some x=>rfl
  |none=>exact absurd this (getM_none.1 hg)
 have hB:ai (λk=>X1 k/\ ¬F k) w1 X1 w1:=⟨Kp.refl _ _,λk h=>h.1,ea.s.has⟩;have CD:m.mh cN= { ((fG (m.fs.map (·.1))).foldl (DM.tY cN) (m,0)).1 with ar:=0,dn:=false } :=rfl;generalize Xq:fG (m.fs.map (·.1))=ns at mu xD CD;have hnl:=mu.gR;obtain⟨lb,ln,lc,rfl⟩:=mu.form;repeat' refine ak ?_;intros
 refine gv (λm' a b w X=> ∃(j:Nat) (l:List (ByteArray×mX)) (x:DM×Nat),a=I j/\b=I x.2/\m'=ns.length-j/\j<=ns.length/\x.2<=j/\x=(ns.take j).foldl (DM.tY cN) (m,0)/\Ft w0 F w X F/\nM w F db mb l x.1 x.1.sz/\x.1.sz<=4194304/\(∀n∈ns,(x.1.get n).isSome=true)/\ai (λk=>X1 k/\ ¬F k) w1 X w) ns.length
  ⟨0,l,(m,0),rfl,rfl,rfl,aq _,au _,rfl,ea,h1,hz,xD,hB⟩ ?_
 clear ea h1 hB hT h0 hz;rintro m' a b w X ⟨j,l,x,rfl,rfl,rfl,hj,hxj,hx,hT,h0,hz,xD,hB⟩;have hb:=h0.box.mv (Mv.sub hT.bw);have apV:=mu.mv hB.mv;have hq':=hq0.mv hT.s.mv;have hm:=h0.map.mv kP (Mv.sub hT.bw) (A':=nX) λ_ h=>h.elim;rcases dE ns j with⟨cD,n,mr,hd⟩|⟨dD,hd⟩
 ·have lx:=xD n (ay mr);have pI:=h0.get n;have Qw:(ns.take (j+1)).foldl (DM.tY cN) (m,0)=DM.tY cN x n:=by rw[List.take_add_one,mr,List.foldl_append,<-hx];rfl
  repeat' refine aJ ?_;intros
  refine ij (Q:=λK=> ∀(x':DM×Nat) w X l,x'=DM.tY cN x n->Ft w0 F w X F->nM w F db mb l x'.1 x'.1.sz->x'.1.sz<=4194304->x'.2<=j+1->ai (λk=>X1 k/\ ¬F k) w1 X w->K (I x'.2) w X) ?_ λK hK=>?_
  ·intro x' w X l AK hT h0 hz hxj hB;repeat' refine ak ?_;intros
   exact fw (ns.length-(j+1)) zQ ⟨j+1,l,x',by simp,rfl,rfl,by omega,hxj,by rw[Qw];exact AK,hT,h0,hz,λk ah=>by rw[AK];exact DM.ahy (xD k ah),hB⟩
  ·repeat' refine ak ?_;intros
   refine qY hm (λf hf=>?_) λhf=>?_
   ·have Xr:x.1.get n=some (f.bs,f.safe):=by rw[pI,hf];rfl
    have hr:aG w X f.b [f.v,I f.safe] 153:=(h0.row _ (gA hf)).mv (Mv.sub hT.bw);have ho:Ow w F 5 1 f.v (f.bs.map U1):=h0.ow _ (gA hf);have wT:=ho.sl.mono hT.bw;have hsf:f.safe<=f.bs.length:=h0.safe _ (gA hf);have hle:=DM.Au Xr;have htr:DM.tY cN x n=if f.bs.length=f.safe then x else(x.1.put n (f.bs.take (f.safe+(match cN[x.2]? with|some p=>if 0<=p then p.toNat % (f.bs.length-f.safe+1)else 0|none=>0))) (f.safe+(match cN[x.2]? with|some p=>if 0<=p then p.toNat % (f.bs.length-f.safe+1)else 0|none=>0)),x.2+1):=by
     unfold DM.tY;rw[Xr]
    repeat' first|refine ak ?_;intros|refine cM ?_ ?_<;>intros
    ·exact hK x _ _ l (by rw[htr,if_pos zQ]) hT h0 hz zQ hB
    ·rename_i gw;have ap9: ¬f.bs.length=f.safe:=by omega
     rw[if_neg ap9] at htr;generalize pf:(match cN[x.2]? with|some p=>if 0<=p then p.toNat % (f.bs.length-f.safe+1)else 0|none=>0)=k at htr;have tZ:f.safe+k<=f.bs.length:=by
      rw[<-pf];split
      ·split
       ·rename_i q _ _;have:=Nat.mod_lt q.toNat (show 0<f.bs.length-f.safe+1 by omega);generalize q.toNat % (f.bs.length-f.safe+1)=u at this;omega
       ·omega
      ·omega
     have gh:=DM.abD (s':=f.safe+k) Xr tZ;refine ij (Q:=λK1=>K1 (I (k:Nat))) ?_ λK1 hK1=>?_
     ·repeat' refine ak ?_;intros
      have aqa:F db:=h0.box.1;refine xK hT h0 (λ_ h=>h) x.1 (x.1.put n (f.bs.take (f.safe+k)) (f.safe+k)).sz (o:=1) zQ kQ zQ rfl (by rw[show(((x.1.put n (f.bs.take (f.safe+k)) (f.safe+k)).sz:Nat):Int)=(x.1.sz:Int)-((f.bs.length:Int)-(f.safe:Int)-(k:Int))by omega];rfl) rfl h0.ar λw4 X4 fO h4 c4=>?_;have hB4:=hB.dY c4 λq hq e=>hq.2 (by rw[show q=db from e];exact aqa);have zi:aG w4 X4 f.b [f.v,I f.safe] 153:=(h4.row _ (gA hf)).mv (Mv.sub fO.bw);have FJ:Ow w4 F 5 1 f.v (f.bs.map U1):=h4.ow _ (gA hf);clear hr ho wT hb;repeat' refine ak ?_;intros
      refine Xo (i:=f.safe+k) (FJ.mono fO.bw) zQ zQ (by rw[af];exact tZ) kQ kQ λv' hv hvb=>?_;rw[<-tL] at hv;have hvF:Ow w4 F 5 1 v' ((f.bs.take (f.safe+k)).map U1):=hv.tight.mono λq hq=>(FJ.bw (by rw[<-hvb];exact hq)).1;repeat' refine ak ?_;intros
      refine pM (o:=0) zi zQ kQ sQ hv.one fO.s.has λw5 X5 c5 CK=>?_;replace CK:aG w5 X5 f.b [v',I f.safe] 153:=CK;have Qt:=(hv.dY c5 λq hq e=>hv.eT zi kQ (by rw[<-(show q=f.b from e)];exact hq)).sl;have hll:(f.bs.take (f.safe+k)).length=f.safe+k:=by rw[aD];exact kr tZ
      repeat' refine ak ?_;intros
      rw[hll];refine pM (o:=1) CK zQ kQ sQ rfl c5.has λw6 X6 c6 AY=>?_;replace AY:aG w6 X6 f.b [v',I ((f.safe+k:Nat):Int)] 153:=AY;have cc:=c5.trans c6;have hFf:F f.b:=(h4.row _ (gA hf)).1;have h6:=h4.cut (s':=f.safe+k) (fO.fx λ_ h=>h) hf cc hvF hvb AY (by rw[hll];exact au _);refine hK (x.1.put n (f.bs.take (f.safe+k)) (f.safe+k),x.2+1) _ _ _ htr.symm (fO.dY cc (λq e=>by rw[show q=f.b from e];exact hFf) λq hq=>.inl hq) h6 (by show(x.1.put n _ _).sz<=_;omega) (by show x.2+1<=_;omega) (hB4.dY cc λq hq e=>hq.2 (by rw[show q=f.b from e];exact hFf))
     ·repeat' first|refine ak ?_;intros|refine cM ?_ ?_<;>intros
      ·rename_i Xs Gz;have Xt:cN[x.2]? =some cN[x.2]:=aZ zQ;rw[Xt] at pf;dsimp only at pf;rw[if_pos zQ] at pf;have e1:cN[x.2]=((cN[x.2].toNat:Nat):Int):=by omega
       rw[e1,show(f.bs.length:Int)-(f.safe:Int)+1=((f.bs.length-f.safe+1:Nat):Int)by omega];refine aff zQ ?_;rw[pf];exact hK1
      ·rename_i Xs Gz;have Xt:cN[x.2]? =some cN[x.2]:=aZ zQ;rw[Xt] at pf;dsimp only at pf;rw[if_neg zQ] at pf;subst pf;exact hK1
      ·rename_i Gz;have Xt:cN[x.2]? =none:=List.getElem?_eq_none zQ;rw[Xt] at pf;subst pf;exact hK1
   ·rw[pI,hf] at lx;cases lx
 ·have pK:j=ns.length:=by omega
  subst pK;rw[List.take_length] at hx;rw[<-hx] at CD;repeat' refine aJ ?_;intros
  refine xK hT h0 (λ_ h=>h) { x.1 with dn:=false } x.1.sz (o:=4) zQ kQ zQ rfl rfl rfl h0.ar λw4 X4 fO h4 c4=>?_;have yC:=h4.box.mv (Mv.sub fO.bw);clear hb;repeat' refine ak ?_;intros
  refine xK fO h4 (λ_ h=>h) { x.1 with ar:=0,dn:=false } x.1.sz (o:=3) zQ kQ zQ rfl rfl rfl (by show 0<2^63;decide) λw5 X5 iN h5 c5=>?_;refine iN.fin λwa aH=>⟨rfl,mb,l,?_,?_⟩
  ·rw[CD];exact h5.mv (aH.iZ iN.bw)
  ·rw[CD];exact hz
def Dl:List Nat->Nat->Option Nat
 |[],n=>some n
 |c::l,n=>if c<48\/57<c then none else Dl l (n*10+(c-48))
def rJ (dir name:ByteArray):Nat:=
 if name.size=dir.size+9/\name.extract 0 dir.size=dir/\name.data.toList[dir.size]? =some 46 then(Dl (uZ (name.extract (dir.size+1) name.size)) 0).getD 0 else 0
theorem abE: ∀(l:List Nat) (n k:Nat),n<10^k->(Dl l n).getD 0<10^(k+l.length)
 |[],n,k,h=>by simpa [Dl] using h
 |c::l,n,k,h=>by
  unfold Dl;split
  ·simp;exact Nat.pow_pos dQ
  ·have:=abE l (n*10+(c-48)) (k+1) (by rw[rH];omega);rw[aL,show k+(l.length+1)=k+1+l.length by omega];exact this
theorem aj9 (dir name:ByteArray):rJ dir name<100000000:=by
 unfold rJ;split
 ·rename_i h;have h1:=abE (uZ (name.extract (dir.size+1) name.size)) 0 0 dQ;have h2:(uZ (name.extract (dir.size+1) name.size)).length=8:=by rw[Iu,pX];omega
  rw[h2] at h1;exact h1
 ·decide
theorem TX (c:Nat) (l:List Nat) (n:Nat):Dl (c::l) n=if c<48\/57<c then none else Dl l (n*10+(c-48)):=rfl
variable {dir : ByteArray}
theorem Xu {name:ByteArray} (hd:dir.size<=2^40) (hn:name.size<=2^41):Ct pg 126 #[.string dir,.string name] w X nX λv wa w'=>v=I (rJ dir name):=by
 intro w0 hk;refine U6.1 λhs=>?_;have no: ¬(name.size=dir.size+9/\name.extract 0 dir.size=dir/\name.data.toList[dir.size]? =some 46)->rJ dir name=0:=λh=>by unfold rJ;rw[if_neg h]
 by_cases h1:name.size=dir.size+9
 ·have hnl:name.data.toList.length=name.size:=(K6 name).symm;obtain⟨c,hc⟩: ∃c,name.data.toList[dir.size]? =some c:=⟨_,aZ zQ⟩;repeat' refine aJ ?_;intros
  refine alR (i:=dir.size) rfl zQ kQ ?_;repeat' first|refine ak ?_;intros|refine cM ?_ ?_<;>intros
  ·exact bM hs λwa aH=>by rw[no (by simp_all)];rfl
  ·exact bM hs λwa aH=>by rw[no (by rintro⟨_,_,h⟩;rw[hc] at h;simp_all)];rfl
  ·refine alS (i:=dir.size+1) zQ zQ kQ ?_;refine afg (e:=5) hs.has (by rw[pX];omega) kQ kQ kQ λvb w1 X1 ax oC=>?_;have Jn:(uZ (name.extract (dir.size+1) name.size)).length=8:=by rw[Iu,pX];omega
   have aqb:c=46:=UInt8.toNat_inj.1 (by have:c.toNat=46:=(by omega);rw[this];rfl);have e1:rJ dir name=(Dl (uZ (name.extract (dir.size+1) name.size)) 0).getD 0:=by
    unfold rJ;rw[if_pos ⟨h1,by assumption,by rw[hc,aqb]⟩]
   rw[e1];have cD: ∀x∈uZ (name.extract (dir.size+1) name.size),x<256:=λx hx=>aka hx;generalize uZ (name.extract (dir.size+1) name.size)=bs at oC Jn cD⊢;replace hs:=hs.trans ax;obtain⟨lb,ln,lc,rfl⟩:=oC.form;repeat' refine ak ?_;intros
   refine gv (λm a b w X=> ∃(i n:Nat),a=I i/\b=I n/\m=bs.length-i/\i<=bs.length/\n<10^i/\Dl bs 0=Dl (bs.drop i) n/\ai X1 w1 X w/\ai (bI w0) w0 X w) bs.length ⟨0,0,rfl,rfl,rfl,aq _,by decide,rfl,ai.eQ hs.has,hs⟩ ?_;clear hs;rintro m a b w X ⟨i,n,rfl,rfl,rfl,hi,hn,hf,bp,hs⟩;have acZ:=oC.mv bp.mv;rcases dE bs i with⟨Xs,x,hx,Kn⟩|⟨dD,Kn⟩
   ·have asg:=cD x (ay hx);have Xv:n<10^8:=aw hn (rI dQ zQ);have asB:n<100000000:=Xv;rw[Kn,TX] at hf;repeat' first|refine aJ ?_;intros|refine cM ?_ ?_<;>intros
    ·rw[if_pos (.inl zQ)] at hf;exact bM hs λwa aH=>by rw[hf];rfl
    ·rw[if_pos (.inr zQ)] at hf;exact bM hs λwa aH=>by rw[hf];rfl
    ·rw[if_neg zQ] at hf;refine aoo zQ zQ ?_;refine abt ?_;rw[show IntKind.u8.wrap ((x:Int)-48)=((x-48:Nat):Int)by rw[MF];omega];repeat' refine ak ?_;intros
     rw[VU zQ];repeat' refine ak ?_;intros
     refine fw (bs.length-(i+1)) zQ ⟨i+1,n*10+(x-48),by simp,by simp,rfl,by omega,by rw[rH];omega,hf,bp,hs⟩
   ·have pK:i=bs.length:=by omega
    subst pK;rw[List.drop_length] at hf;repeat' refine aJ ?_;intros
    exact bM hs λwa aH=>by rw[hf];rfl
 ·repeat' refine aJ ?_;intros
  exact bM hs λwa aH=>by rw[no λh=>h1 h.1];rfl
def L0 (dir:ByteArray) (sz:Nat):LM:=⟨dir,sz,[],0⟩
theorem TY: ∀(k:Nat) (b:List Nat),b.length<=k->(jf b).2<=b.length/\(jf b).1.length<=(jf b).2
 |0,b,h=>by rw[aaH zQ];simp
 |k+1,b,h=>by
  cases hf:lW b with
  |none=>rw[DT hf];simp
  |some q=>
   have h1:=Qo hf;rw[Qq hf];have h2:=TY k (b.drop (q.length+12)) (by rw[bV];omega);rw[bV] at h2;simp only[aL];omega
def LD.FK (x:LD) (n:Nat):Bool:=decide (x.L.bC≠[]/\((x.m.bytes x.L.ff).length≠x.L.last.size\/n≠x.L.next))
noncomputable def LD.join (x:LD) (n:Nat) (nm:ByteArray):LD×Nat:=
 if x.FK n then(x,13)else(⟨{ x.L with bC:=x.L.bC++[⟨n,(jf (x.m.bytes nm)).1,(jf (x.m.bytes nm)).2⟩] },x.m⟩,0)
noncomputable def LD.oX:LD->List ByteArray->LD×Nat
 |x,[]=>(x,0)
 |x,nm::r=>if rJ x.L.dir nm=0 then x.oX r else if(x.join (rJ x.L.dir nm) nm).2≠0 then x.join (rJ x.L.dir nm) nm else(x.join (rJ x.L.dir nm) nm).1.oX r
def LD.GA (x:LD):LD×Nat:=
 if x.L.last.size<(x.m.bytes x.L.ff).length then
  if(x.m.cut x.L.ff x.L.last.size).2≠0 then(⟨x.L,(x.m.cut x.L.ff x.L.last.size).1⟩,(x.m.cut x.L.ff x.L.last.size).2)else LD.sync ⟨x.L,(x.m.cut x.L.ff x.L.last.size).1⟩
 else x.sync
noncomputable def LD.Bx (dir:ByteArray) (room:Nat) (m:DM):LD×Nat:=
 if m.dn then(⟨L0 dir room,m⟩,12)else
  let q:=LD.oX ⟨L0 dir room,m⟩ (fG (m.fs.map (·.1)))
  if q.2≠0 then q else if q.1.L.bC=[] then q.1.iJ 1 else q.1.GA
theorem DM.K7 (h:Dk w F db m) (n:ByteArray):(m.bytes n).length<=4194304:=by
 obtain⟨mb,l,h,hz⟩:=h;unfold DM.bytes;cases hg:m.get n with
 |none=>simp
 |some x=>have:=DM.Au (b:=x.1) (s:=x.2) hg;simp;omega
variable {nm : ByteArray} {L : LM} {lb : Nat}
theorem ac5 {n:Nat} (h:Lg w F lb db L m) (mO:L.bC≠[]->pt L) (tD:L.dir.size<=11) (hn:n<=2^40) (oC:L.bC.length<=2^30) (FM: ∀b∈m.bytes nm,b<256) (hF:FX F X w):
  Ct pg 127 #[ptr lb 0,I n,.string nm] w X F λv wa w'=>v=I (LD.join ⟨L,m⟩ n nm).2/\ ∃F',(∀k,F' k->F k\/made wa w' k)/\Lg w' F' lb db (LD.join ⟨L,m⟩ n nm).1.L (LD.join ⟨L,m⟩ n nm).1.m:=by
 intro w0 hk;obtain⟨FL,FD,sv,bl,h⟩:=(h.mv (hF.mv hk)).lw;have hT:=hF.ft hk;have nN:FX F (bI w0) w0:=hF.kp hk;have hX:=λk ah=>(nN k (h.hL k ah)).1;have hb:=h.l.box.mv (Mv.sub hX);have FN:=h.l.so.sl.mono hX;have Jn:bl.length=L.bC.length:=by rw[h.l.bC,af]
 have asC:=DM.K7 h.d nm;have eJ:LD.join ⟨L,m⟩ n nm=if LD.FK ⟨L,m⟩ n then(⟨L,m⟩,13)else(⟨{ L with bC:=L.bC++[⟨n,(jf (m.bytes nm)).1,(jf (m.bytes nm)).2⟩] },m⟩,0):=rfl
 refine Qx.1 λhs=>?_;refine ij (Q:=λK=> ∀w1 X1,LD.FK ⟨L,m⟩ n=false->ai (bI w0) w0 X1 w1->K w1 X1) ?_ λK hK=>?_
 ·intro w1 X1 hj ax;rw[eJ,hj];have ea:=hT.since ax;have h1:=h.mv (ax.gU hT.bw);have lL:=hb.since ax;clear hs hb FN;repeat' refine ak ?_;intros
  refine cd (Gx (n:=nm) h1.d (ea.fx h1.hD)) kQ ea.s.has ?_;rintro _ vM w2 X2 ⟨vb,rfl,yF⟩ kF jt bp;have dh:=ea.since bp;have h2:=h1.mv (bp.gU ea.bw);repeat' refine ak ?_;intros
  refine cd (Xl (yF.sl.mono jt) zQ FM) kQ dh.s.has ?_;rintro _ yD w3 X3 ⟨va,rs,rfl,hrs,HC,hor⟩ pV lT cY;have dU:=dh.since cY;have h3:=h2.mv (cY.gU dh.bw);have hX3: ∀k,FL k->X3 k:=λk ah=>dU.bw k (h3.hL k ah);have rD:=(lL.since bp).since cY;have ac7:=h3.l.so.mono hX3;have oa:=HC.sl.one;obtain⟨ab,an,ac,rfl⟩:=HC.sl.form;generalize gh:(jf (m.bytes nm)).2=sz;have WL:=ax.kp.size;have Jo:=bp.kp.size;have hz3:=cY.kp.size;repeat' refine ak ?_;intros
  refine AZ dU.s.has λbx w4 X4 fY fV bo=>?_;have OS:=ac7.mv fV.mv;refine Xw (bytes:=8) (row:=[ptr bx 0]) OS fV.has kQ rfl rfl rfl oQ oQ λEJ w5 X5 c5 sW ua=>?_;have yC:=rD.since fV;have cA: ∀q,fc sv q->q≠lb:=λq hq e=>OS.eT yC kQ (by rw[<-e];exact hq);have Bu:aG w5 X5 lb [ptr db 0,.string L.dir,I L.room,sv,I L.safe] 231:=⟨c5.sub _ yC.1,by rw[c5.block _ yC.1 λhq=>cA _ hq rfl];exact yC.2⟩;clear lL rD;repeat' refine ak ?_;intros
  refine pM (o:=3) Bu zQ kQ sQ sW.one c5.has λw6 X6 c6 AY=>?_;have OT: ∀q,fc sv q->FL q:=λq hq=>(h3.l.so.bw hq).1;have cc:ee (λk=>k=lb\/sv.ownBlock=some k) X3 w3 X6 w6:=((ee.nA fV _).trans (c5.mono λk _ ah=>.inr ah)).trans (c6.mono λk _ ah=>.inl ah);have kc:Ft w0 F w6 X6 (λk=>F k\/(X6 k/\w0.heap.size<=k)):=(dU.dY (F':=F) cc (λk ah=>by
   rcases ah with rfl|ah
   ·exact h3.hL _ h3.l.box.1
   ·exact h3.hL _ (OT _ ah)) λk ah=>.inl ah).more λk ah=>ah
  have K8: ∀g,EJ.ownBlock=some g->FL g\/(X6 g/\w0.heap.size<=g):=λg hg=>by
   rcases ua with e|⟨g',e,dD⟩
   ·exact .inl (OT _ (e.symm.trans hg))
   ·rw[hg] at e;have:g=g':=cn e;subst this;exact .inr ⟨c6.sub _ (sW.bw hg).1,by have:=fV.kp.size;omega⟩
  have ahz:EJ.ownBlock≠some lb:=sW.eT Bu kQ;have ac8:bx≠lb:=bo.eT yC kQ;have ac9: ¬fc sv bx:=λhq=>OS.eT bo kQ hq;have fresh: ∀{e:TypeId} {v:Value} {rows:List (List Value)},decide (e≠231)=true->decide (e≠239)=true->Own w3 (made yD w3) yD.heap.size e 1 v rows->Ow w6 (λk=>FL k\/(X6 k/\w0.heap.size<=k)) e 1 v rows:=λ{e v rows} he1 he2 ho=>by
   have P9:Ow w3 X3 e 1 v rows:=ho.ow.mono lT;refine ho.ow.tight.mv λk ah hl=>⟨.inr ⟨cc.sub k (P9.bw ah).1,by have:=(ho.ow.bw ah).1.1;omega⟩,cc.block k (P9.bw ah).1 λhg=>?_⟩;rcases hg with rfl|hg
   ·exact P9.eT (h3.l.box.mv (Mv.sub hX3)) he1 ah
   ·obtain⟨c1,e1⟩:=P9.tag ah;obtain⟨c2,e2⟩:=ac7.tag hg;rw[e1] at e2;simp only[aj,Obj.cells.injEq] at e2;exact of_decide_eq_true he2 e2.2.1
  have hL6:=h3.l.abF (By:=λk=>FL k\/(X6 k/\w0.heap.size<=k)) (EJ:=EJ) (qZ:=bl++[⟨bx,n,.slice ab an ac,rs,sz⟩]) (dU.fx h3.hL) cc (λk ah=>ah) (λk ah=>.inl ah) ⟨.inl h3.l.box.1,AY.2⟩ ?_ ?_ ?_
  ·refine kc.fin λwa aH=>⟨rfl,_,kc.js aH λ_ h=>h,?_⟩;have e:({ L with bC:=(bl++[(⟨bx,n,.slice ab an ac,rs,sz⟩:mG)]).map mG.er } :LM)= { L with bC:=L.bC++[⟨n,(jf (m.bytes nm)).1,sz⟩] } :=by
    rw[aC,<-h3.l.bC,<-hrs];rfl
   rw[if_neg oW,<-e];refine Lg.mv ⟨_,FD,EJ,_,?_,?_,?_,hL6,h3.d.mv (cc.iZ λk ah=>⟨dU.bw k (h3.hD k ah),λhg=>?_⟩)⟩ (aH.iZ kc.bw)
   ·intro k ha dZ;rcases ha with ha|ha
    ·exact h3.dj k ha dZ
    ·have:=(nN k (h3.hD k dZ)).2;omega
   ·exact λk ah=>ah.imp (h3.hL k) id
   ·exact λk ah=>.inl (h3.hD k ah)
   ·rcases hg with rfl|hg
    ·exact h3.dj _ h3.l.box.1 ah
    ·exact h3.dj _ (OT _ hg) ah
  ·rw[aC];refine sW.tight.mv λk ah hl=>⟨K8 k ah,c6.block k (sW.bw ah).1 λe=>ahz (by rw[<-(show k=lb from e)];exact ah)⟩
  ·intro s sS;rcases List.mem_append.1 sS with sS|sS
   ·exact .inl sS
   ·simp only[av] at sS;subst sS;have hb6:w6.heap[bx]? =w4.heap[bx]? :=by
     rw[c6.block bx (c5.sub _ bo.1) ac8,c5.block bx bo.1 ac9]
    exact .inr ⟨⟨.inr ⟨c6.sub _ (c5.sub _ bo.1),by show w0.heap.size<=bx;omega⟩,by rw[hb6];exact bo.2⟩,fresh kQ kQ HC,λr hr=>fresh kQ kQ (hor r hr)⟩
  ·refine List.pairwise_append.2 ⟨h3.l.ap,List.pairwise_singleton _ _,λx hx y hy=>?_⟩;simp only[av] at hy;subst hy;refine⟨λe=>?_,λg hg rA=>?_⟩
   ·have:=(dU.fx h3.hL _ (h3.l.row x hx).1).2;have e':x.b=bx:=e;omega
   ·have a1:=(nN g (h3.hL g ((h3.l.Av x hx).bw hg).1)).2;have a2:=(HC.ow.bw (g:=g) rA).1.1;omega
 ·by_cases cA:L.bC=[]
  ·have asD:bl.length=0:=by rw[Jn,cA];rfl
   have hj:LD.FK ⟨L,m⟩ n=false:=by simp[LD.FK,cA]
   repeat' refine aJ ?_;intros
   exact hK _ _ hj hs
  ·obtain⟨qZ,s,rfl,he,EG⟩:=h.l.last (mO cA);have hL:=mO cA;have hlen:=FN.gR;have xx:(qZ++[s]).length=qZ.length+1:=by simp
   have Db:(qZ++[s])[qZ.length]? =some s:=by simp
   have lS:s∈qZ++[s]:=by simp
   have uJ:=(h.l.row s lS).mv (Mv.sub hX);have hrc:=(h.l.Av s lS).sl.mono hX;have EK:s.first=L.last.first:=by rw[<-he];rfl
   have gh:s.size=L.last.size:=by rw[<-he];rfl
   have qV:s.rs.length=L.last.bt.length:=by rw[<-he];simp[mG.er]
   have Xx:=hL.yK _ (LM.xL hL.ne);have nj:L.next=L.last.first+L.last.bt.length:=rfl
   repeat' refine aJ ?_;intros
   rw[EK];refine cd (yl zQ zQ) kQ hs.has ?_;rintro _ Cv w1 X1 rfl pa mB ax;have ea:=hT.since ax;have h1:=h.mv (ax.gU hT.bw);refine cd (Gx (n:=bS L.dir L.last.first) h1.d (ea.fx h1.hD)) kQ ea.s.has ?_;rintro _ vM w2 X2 ⟨vb,rfl,yF⟩ kF jt bp;have aqc:=(yF.sl.mono jt).gR;have sA:=ax.trans bp;have OU:=uJ.since sA;have asE:=hrc.mv sA.mv;have eN:L.ff=bS L.dir L.last.first:=rfl
   have eE:LD.FK ⟨L,m⟩ n=decide (L.bC≠[]/\((m.bytes (bS L.dir L.last.first)).length≠L.last.size\/n≠L.next)):=rfl;rw[eE] at hK eJ;have dh:=hT.since sA;have h2:=h.mv (sA.gU hT.bw);clear hs uJ hrc;repeat' first|refine ak ?_;intros|refine cM ?_ ?_<;>intros
   ·rw[eJ,if_pos (by simp only[decide_eq_true_eq];exact⟨cA,.inl zQ⟩)];exact dh.fin λwa aH=>⟨rfl,F,dh.js aH λ_ h=>h,(h2.mv (aH.iZ dh.bw)).lg⟩
   ·rw[eJ,if_pos (by simp only[decide_eq_true_eq];exact⟨cA,.inr zQ⟩)];exact dh.fin λwa aH=>⟨rfl,F,dh.js aH λ_ h=>h,(h2.mv (aH.iZ dh.bw)).lg⟩
   ·exact hK _ _ (by simp only[decide_eq_false_iff_not];rintro⟨_,h|h⟩<;>omega) sA
theorem ada (h:Lg w F lb db L m) (hL:pt L) (hF:FX F X w):
  Ct pg 129 #[ptr lb 0] w X F λv wa w'=>v=I (LD.GA ⟨L,m⟩).2/\ ∃F',(∀k,F' k->F k\/made wa w' k)/\Lg w' F' lb db (LD.GA ⟨L,m⟩).1.L (LD.GA ⟨L,m⟩).1.m:=by
 intro w0 hk;obtain⟨FL,FD,sv,bl,h⟩:=(h.mv (hF.mv hk)).lw;have hT:=hF.ft hk;have nN:FX F (bI w0) w0:=hF.kp hk;obtain⟨qZ,s,rfl,he,EG⟩:=h.l.last hL;have hX:=λk ah=>(nN k (h.hL k ah)).1;have lS:s∈qZ++[s]:=by simp
 have hb:=h.l.box.mv (Mv.sub hX);have uJ:=(h.l.row s lS).mv (Mv.sub hX);have EK:s.first=L.last.first:=by rw[<-he];rfl
 have gh:s.size=L.last.size:=by rw[<-he];rfl
 have Xx:=hL.yK _ (LM.xL hL.ne);have tD:=hL.d2;have eM:LD.GA ⟨L,m⟩=if L.last.size<(m.bytes (bS L.dir L.last.first)).length then
   if(m.cut (bS L.dir L.last.first) L.last.size).2≠0 then(⟨L,(m.cut (bS L.dir L.last.first) L.last.size).1⟩,(m.cut (bS L.dir L.last.first) L.last.size).2)else LD.sync ⟨L,(m.cut (bS L.dir L.last.first) L.last.size).1⟩
  else LD.sync ⟨L,m⟩:=rfl
 refine Qy.1 λhs=>?_;refine cd (ym h.l λk ah=>nN k (h.hL k ah)) kQ hs.has ?_;rintro _ Cv w1 X1 rfl pa mB ax;have lL:=hb.since ax;have Xy:=uJ.since ax;clear hs hb uJ;have hs:=ai.eQ ax.has;repeat' refine ak ?_;intros
 rw[EK];refine cd (yl zQ zQ) kQ ax.has ?_;rintro _ vM w2 X2 rfl kF jt bp;have wN:=lL.since bp;have OU:=Xy.since bp;have sA:=ax.trans bp;have dh:=hT.since sA;have h2:=h.mv (sA.gU hT.bw);clear hs lL Xy;refine ij (Q:=λK=> ∀w1 X1 F1 m1,LD.GA ⟨L,m⟩=LD.sync ⟨L,m1⟩->Ft w0 F w1 X1 F1->Lg w1 F1 lb db L m1->K w1 X1) ?_ λK hK=>?_
 ·intro w3 X3 F3 m3 e3 dU h3
  skip
  refine dU.call (Iv h3 hL (dU.fx λ_ h=>h)) kQ (λ_ h=>h) λv zk w4 X4 hq tr oH fO EL=>?_;obtain⟨rfl,F4,hF4,h4⟩:=hq;rw[e3];have zT:=fO.less hF4
  skip
  exact zT.fin λwa aH=>⟨rfl,F4,zT.js aH λ_ h=>h,h4.mv (aH.iZ zT.bw)⟩
 ·have hs:=ai.eQ dh.s.has;repeat' refine ak ?_;intros
  refine cd (Gx (n:=bS L.dir L.last.first) h2.d (dh.fx h2.hD)) kQ dh.s.has ?_;rintro _ yD w3 X3 ⟨vb,rfl,yF⟩ pV lT cY;have aqc:=(yF.sl.mono lT).gR;have Jn:=DM.K7 h.d (bS L.dir L.last.first);have dU:=dh.since cY;have h3:=h2.mv (cY.gU dh.bw);have rD:=wN.since cY;have aqd:=OU.since cY;clear hs wN OU;have hs:=ai.eQ dU.s.has;repeat' first|refine ak ?_;intros|refine cM ?_ ?_<;>intros
  ·rw[if_pos zQ] at eM;rw[gh];refine dU.call (ac1 (k:=L.last.size) (n:=bS L.dir L.last.first) h3.d (dU.fx h3.hD) zQ) kQ h3.hD λv zk w4 X4 hq tr oH fO EL=>?_;obtain⟨rfl,N1,OV,hD⟩:=hq;have h4:=h3.OW (dU.fx λ_ h=>h) tr EL OV hD;generalize TZ:m.cut (bS L.dir L.last.first) L.last.size=ms at h4 eM⊢;repeat' first|refine ak ?_;intros|refine cM ?_ ?_<;>intros
   ·have hz:ms.2≠0:=by have: ¬(ms.2:Int)=0:=(by assumption);omega
    rw[if_pos hz] at eM;rw[eM];exact fO.fin λwa aH=>⟨rfl,_,fO.js aH λ_ h=>h,(h4.mv (aH.iZ fO.bw)).lg⟩
   ·have hz:ms.2=0:=by have:(ms.2:Int)=0:=(by assumption);omega
    rw[if_neg zQ] at eM;exact hK _ _ _ ms.1 eM fO h4.lg
  ·rw[if_neg zQ] at eM;exact hK _ _ F m eM dU h3.lg
structure Xz (L:LM):Prop where
 d1:1<=L.dir.size
 d2:L.dir.size<=11
 yK: ∀s∈L.bC,s.first+s.bt.length<=2^40/\s.size<=2^40
 room:L.room<=2^40
def Xz.K9 (h:Xz L) (cA:L.bC≠[]):pt L:=⟨cA,h.d1,h.d2,h.yK,h.room⟩
variable {x : LD}
theorem Xz.join {n:Nat} (h:Xz x.L) (hn:n<=100000000) (hb:(x.m.bytes nm).length<=4194304):Xz (x.join n nm).1.L/\(x.join n nm).1.m=x.m/\(x.join n nm).1.L.dir=x.L.dir/\(x.join n nm).1.L.bC.length<=x.L.bC.length+1:=by
 unfold LD.join;split
 ·exact⟨h,rfl,rfl,by simp⟩
 ·refine⟨⟨h.d1,h.d2,λs hs=>?_,h.room⟩,rfl,rfl,by simp⟩;rcases List.mem_append.1 hs with hs|hs
  ·exact h.yK s hs
  ·simp only[av] at hs;subst hs;have:=TY _ (x.m.bytes nm) (au _)
   show n+(jf (x.m.bytes nm)).1.length<=2^40/\(jf (x.m.bytes nm)).2<=2^40
   omega
theorem adb {sz:Nat} (h:Dk w F db m) (hF:FX F X w) (xD: ∀x∈m.fs,x.1.size<=2^40) (iQ:m.fs.length<=2^29) (FM: ∀n,∀b∈m.bytes n,b<256)
  (h1:1<=dir.size) (h2:dir.size<=11) (ax:64<=sz) (bp:sz<=262144):
  Ct pg 75 #[ptr db 0,.string dir,I sz] w X F λv wa w'=> ∃lb F',v= .tuple #[if(LD.Bx dir sz m).2=0 then ptr lb 0 else .pointer none,I (LD.Bx dir sz m).2]/\(∀k,F' k->F k\/made wa w' k)/\
   Dk w' F' db (LD.Bx dir sz m).1.m/\((LD.Bx dir sz m).2=0->Lg w' F' lb db (LD.Bx dir sz m).1.L (LD.Bx dir sz m).1.m):=by
 intro w0 hk;replace h:=h.mv (hF.mv hk);have hT:=hF.ft hk;have nN:FX F (bI w0) w0:=hF.kp hk;have eO:LD.Bx dir sz m=if m.dn then(⟨L0 dir sz,m⟩,12)else
   if(LD.oX ⟨L0 dir sz,m⟩ (fG (m.fs.map (·.1)))).2≠0 then LD.oX ⟨L0 dir sz,m⟩ (fG (m.fs.map (·.1)))else
    if(LD.oX ⟨L0 dir sz,m⟩ (fG (m.fs.map (·.1)))).1.L.bC=[] then(LD.oX ⟨L0 dir sz,m⟩ (fG (m.fs.map (·.1)))).1.iJ 1 else(LD.oX ⟨L0 dir sz,m⟩ (fG (m.fs.map (·.1)))).1.GA:=rfl
 generalize hr:LD.Bx dir sz m=r at eO⊢;refine aaJ.1 λ_=>?_;refine cd (ade (n:=1) h1 h2 zQ zQ) kQ hT.s.has ?_;rintro _ Cv w1 X1 rfl pa mB Xg;replace hT:=hT.since Xg;replace h:=h.mv (Xg.gU λk ah=>(nN k ah).1);repeat' refine aJ ?_;intros
 refine dL (aaK h (hT.fx λ_ h=>h)) kQ hT.s.has λw2 X2 xM=>?_;replace h:=h.mv (xM.gU hT.bw);replace hT:=hT.since xM;cases jK:m.dn with
 |true=>
  rw[jK,if_pos rfl] at eO;subst eO;repeat' refine ak ?_;intros
  exact hT.fin λwa aH=>⟨0,F,rfl,hT.js aH λ_ h=>h,h.mv (aH.iZ hT.bw),λe=>by cases e⟩
 |false=>
  rw[jK,if_neg oW] at eO;repeat' refine ak ?_;intros
  refine AZ hT.s.has λlb w3 X3 yA cY bo=>?_;have h3:=h.mv (cY.gU hT.bw);have dU:=hT.since cY;have hFl: ∀k,F k->k<w2.heap.size:=λk ah=>hT.s.has k (hT.bw k ah);have EM:Ft w0 F w3 X3 (λk=>F k\/k=lb):=dU.more λk ah=>ah.imp id λe=>by
   subst e;have:=hT.s.kp.size;exact⟨bo.1,by omega⟩
  have g3:Lg w3 (λk=>F k\/k=lb) lb db (L0 dir sz) m:=
   ⟨(· =lb),F,.slice none 0 0,[],λk a b=>by have:=hFl k b;omega,λ_ h=>.inr h,λ_ h=>.inl h,
    ⟨rfl,⟨rfl,bo.2⟩,⟨by simp,.inl ⟨rfl,rfl⟩⟩,by simp,by simp,by simp,List.Pairwise.nil⟩,h3⟩
  refine cd (Gy h3 (dU.fx λ_ h=>h) xD zQ) kQ dU.s.has ?_;rintro vl zk w4 X4 TW tr oH fV;have fO:=EM.since fV;have g4:=g3.mv (fV.gU EM.bw);have hGl: ∀k,(F k\/k=lb)->k<w3.heap.size:=λk ah=>ah.elim (λah=>by have:=hFl k ah;have:=cY.kp.size;omega) λe=>by subst e;exact bo.lt
  have mu:Sl w4 (λk=>X4 k/\ ¬(F k\/k=lb)) 1 vl ((fG (m.fs.map (·.1))).map S1):=TW.sl.mono λk ah=>⟨oH k ah,λhf=>by have:=hGl k hf;have:=ah.1;omega⟩;have hB:ai (λk=>X4 k/\ ¬(F k\/k=lb)) w4 X4 w4:=⟨Kp.refl _ _,λk h=>h.1,fO.s.has⟩;have aqe:=fO.s.has;have alT: ∀n∈fG (m.fs.map (·.1)),n.size<=2^40:=λn hn=>by
   have:=(jx (m.fs.map (·.1))).mem_iff.1 hn;obtain⟨x,hx,rfl⟩:=List.mem_map.1 this;exact xD x hx
  have hnl:(fG (m.fs.map (·.1))).length=m.fs.length:=by rw[(jx _).length_eq,af]
  generalize fG (m.fs.map (·.1))=ns at mu eO alT hnl;obtain⟨nb,nn,nc,rfl⟩:=mu.form;clear hT dU EM g3 h3 h bo TW;repeat' refine ak ?_;intros
  refine eY (λn' a w X=> ∃(i:Nat) (F1:XS) (x:LD),a=I i/\n'=ns.length-i/\i<=ns.length/\LD.oX ⟨L0 dir sz,m⟩ ns=x.oX (ns.drop i)/\Xz x.L/\x.m=m/\x.L.dir=dir/\x.L.bC.length<=i/\Ft w0 F w X F1/\Lg w F1 lb db x.L x.m/\
   (∀k,F1 k->(F k\/k=lb)\/w4.heap.size<=k)/\ai (λk=>X4 k/\ ¬(F k\/k=lb)) w4 X w) ns.length
   ⟨0,_,⟨L0 dir sz,m⟩,rfl,rfl,aq _,rfl,⟨h1,h2,by simp[L0],by show sz<=_;omega⟩,rfl,rfl,au _,fO,g4,λk ah=>.inl ah,hB⟩ ?_
  clear fO g4 hB;rintro n' a w5 X5 ⟨i,F1,x,rfl,rfl,hi,FO,Kf,hxm,hxd,T1,iN,h5,ahA,hB⟩;obtain⟨FL,FD,sv,bl,hW⟩:=h5.lw;have Bu:=hW.l.box.mv (Mv.sub λk ah=>iN.bw k (hW.hL k ah));have hsv:=hW.l.so.sl.mono λk ah=>iN.bw k (hW.hL k ah);have Jn:bl.length=x.L.bC.length:=by rw[hW.l.bC,af]
  have asF:=mu.mv hB.mv;rcases dE ns i with⟨cD,nm,mr,hd⟩|⟨dD,hd⟩
  ·have asG:=alT nm (ay mr);rw[hd] at FO;have eJ:x.oX (nm::ns.drop (i+1))=if rJ x.L.dir nm=0 then x.oX (ns.drop (i+1))else if(x.join (rJ x.L.dir nm) nm).2≠0 then x.join (rJ x.L.dir nm) nm else(x.join (rJ x.L.dir nm) nm).1.oX (ns.drop (i+1)):=rfl
   rw[eJ,hxd] at FO;have hnN:=aj9 dir nm;repeat' refine aJ ?_;intros
   refine ij (Q:=λK=> ∀w X F1 x,LD.oX ⟨L0 dir sz,m⟩ ns=LD.oX x (ns.drop (i+1))->Xz x.L->x.m=m->x.L.dir=dir->x.L.bC.length<=i+1->Ft w0 F w X F1->Lg w F1 lb db x.L x.m->(∀k,F1 k->(F k\/k=lb)\/w4.heap.size<=k)->
    ai (λk=>X4 k/\ ¬(F k\/k=lb)) w4 X w->K w X) ?_ λK hK=>?_
   ·intro w X F1 x q1 q2 q3 q4 q5 q6 q7 q8 q9;repeat' refine ak ?_;intros
    exact ep (ns.length-(i+1)) zQ ⟨i+1,F1,x,by simp,rfl,by omega,q1,q2,q3,q4,q5,q6,q7,q8,q9⟩
   ·repeat' refine ak ?_;intros
    refine dL (Xu (dir:=dir) (name:=nm) zQ zQ) kQ iN.s.has λw6 X6 qm=>?_;have kc:=iN.since qm;have h6:=h5.mv (qm.gU iN.bw);have hB6:=hB.trans qm;repeat' first|refine ak ?_;intros|refine cM ?_ ?_<;>intros
    ·rw[if_pos zQ] at FO;exact hK _ _ F1 x FO Kf hxm hxd zQ kc h6 ahA hB6
    ·rw[if_neg zQ] at FO;obtain⟨j1,j2,j3,j4⟩:=Kf.join (n:=rJ dir nm) (nm:=nm) zQ (DM.K7 hW.d nm);refine kc.call (ac5 (n:=rJ dir nm) (nm:=nm) h6 (λcA=>Kf.K9 cA) Kf.d2 zQ zQ (by rw[hxm];exact FM nm) (kc.fx λ_ h=>h)) kQ (λ_ h=>h) λv Qc w7 X7 hq R8 Gu CO Qi=>?_;obtain⟨rfl,F7,hF7,h7⟩:=hq;have ex:x.join (rJ dir nm) nm=LD.join ⟨x.L,x.m⟩ (rJ dir nm) nm:=rfl;rw[ex] at FO j1 j2 j3 j4;generalize hq:LD.join ⟨x.L,x.m⟩ (rJ dir nm) nm=q at FO h7 j1 j2 j3 j4⊢;have Sd:=CO.less hF7;have hB7:ai (λk=>X4 k/\ ¬(F k\/k=lb)) w4 X7 w7:=hB6.dY Qi λk ah hf=>by
      rcases ahA k hf with hf|hf
      ·exact ah.2 hf
      ·have:=aqe k ah.1;omega
     have aqf: ∀k,F7 k->(F k\/k=lb)\/w4.heap.size<=k:=λk ah=>(hF7 k ah).elim (λh=>ahA k h) λh=>.inr (by have:=h.1;have:=hB6.kp.size;omega);repeat' first|refine ak ?_;intros|refine cM ?_ ?_<;>intros
     ·have hz:q.2≠0:=by have: ¬(q.2:Int)=0:=(by assumption);omega
      rw[if_pos hz] at FO;rw[FO,if_pos hz] at eO;subst eO;obtain⟨FL7,FD7,sv7,bl7,hW7⟩:=h7.lw;exact Sd.fin λwa aH=>⟨lb,F7,by rw[if_neg hz],Sd.js aH λ_ h=>h,(hW7.d.mono hW7.hD).mv (aH.iZ Sd.bw),λe=>absurd e hz⟩
     ·have hz:q.2=0:=by have:(q.2:Int)=0:=(by assumption);omega
      rw[if_neg zQ] at FO;refine hK _ _ F7 q.1 FO j1 (by rw[j2];exact hxm) (by rw[j3];exact hxd) zQ Sd h7 aqf hB7
  ·have pK:i=ns.length:=by omega
   subst pK;rw[hd] at FO;have ejn:x.oX []=(x,0):=rfl;rw[ejn] at FO;rw[FO,if_neg sQ] at eO;dsimp only at eO;repeat' first|refine aJ ?_;intros|refine cM ?_ ?_<;>intros
   ·have ahB:x.L.bC=[]:=List.eq_nil_of_length_eq_zero zQ;rw[if_pos ahB] at eO;refine iN.call (Qz (n:=1) h5 Kf.d2 zQ zQ (iN.fx λ_ h=>h)) kQ (λ_ h=>h) λv wa6 w6 X6 hq6 XA K8 kc hc6=>?_;obtain⟨rfl,F6,hF6,h6⟩:=hq6;have zU:Ft w0 F w6 X6 F6:=kc.less hF6;have ex:LD.iJ ⟨x.L,x.m⟩ 1=r:=eO.symm;rw[ex] at h6⊢;obtain⟨FL6,FD6,sv6,bl6,QA⟩:=h6.lw;repeat' first|refine ak ?_;intros|refine cM ?_ ?_<;>intros
    ·have hz:r.2≠0:=by have: ¬(r.2:Int)=0:=(by assumption);omega
     exact zU.fin λwa aH=>⟨lb,F6,by rw[if_neg hz],zU.js aH λ_ h=>h,(QA.d.mono QA.hD).mv (aH.iZ zU.bw),λe=>absurd e hz⟩
    ·have hz:r.2=0:=by have:(r.2:Int)=0:=(by assumption);omega
     exact zU.fin λwa aH=>⟨lb,F6,by rw[if_pos hz,hz];rfl,zU.js aH λ_ h=>h,(QA.d.mono QA.hD).mv (aH.iZ zU.bw),λ_=>h6.mv (aH.iZ zU.bw)⟩
   ·have cA:x.L.bC≠[]:=λe=>by
     have:x.L.bC.length=0:=by rw[e];rfl
     omega
    rw[if_neg cA] at eO;refine iN.call (ada h5 (Kf.K9 cA) (iN.fx λ_ h=>h)) kQ (λ_ h=>h) λv wa6 w6 X6 hq6 XA K8 kc hc6=>?_;obtain⟨rfl,F6,hF6,h6⟩:=hq6;have zU:Ft w0 F w6 X6 F6:=kc.less hF6;have ex:LD.GA ⟨x.L,x.m⟩=r:=eO.symm;rw[ex] at h6⊢;obtain⟨FL6,FD6,sv6,bl6,QA⟩:=h6.lw;repeat' first|refine ak ?_;intros|refine cM ?_ ?_<;>intros
    ·have hz:r.2≠0:=by have: ¬(r.2:Int)=0:=(by assumption);omega
     exact zU.fin λwa aH=>⟨lb,F6,by rw[if_neg hz],zU.js aH λ_ h=>h,(QA.d.mono QA.hD).mv (aH.iZ zU.bw),λe=>absurd e hz⟩
    ·have hz:r.2=0:=by have:(r.2:Int)=0:=(by assumption);omega
     exact zU.fin λwa aH=>⟨lb,F6,by rw[if_pos hz,hz];rfl,zU.js aH λ_ h=>h,(QA.d.mono QA.hD).mv (aH.iZ zU.bw),λ_=>h6.mv (aH.iZ zU.bw)⟩
def LM.has (L:LM) (n:Nat) (p:List Nat):Prop:= ∃(j:Nat) (s:dV),L.bC[j]? =some s/\s.first<=n/\(∀(i:Nat) (t:dV),j<i->L.bC[i]? =some t->n<t.first)/\s.bt[n-s.first]? =some p
variable {sv : Value}
theorem ahC {n:Nat} {bl:List mG} (h:zn w F lb db sv bl L) (hL:pt L) (hp:L.has n p) (vO:p.length<=2^40) (hF:FX F X w):
  Ct pg 131 #[ptr lb 0,I n] w X nX λv wa w'=>Own w' (made wa w') wa.heap.size 5 1 v (p.map U1):=by
 intro w0 hk;replace h:=h.mv (hF.mv hk);have hX:=λk ah=>(hF.kp hk k ah).1;have hb:=h.box.mv (Mv.sub hX);have FN:=h.so.sl.mono hX;have La:=h.bC;obtain⟨j,sm,hj,iQ,Qs,alU⟩:=hp;have lX:=hL.yK sm (ay hj);have qV:=(List.getElem?_eq_some_iff.1 alU).1;rw[La,cP] at hj;obtain⟨s,hbj,rfl⟩: ∃s,bl[j]? =some s/\s.er=sm:=by
  cases hq:bl[j]? with
  |none=>rw[hq] at hj;cases hj
  |some s=>exact⟨s,rfl,by rw[hq] at hj;exact cn hj⟩
 have HD:=(List.getElem?_eq_some_iff.1 hbj).1;have asH:s.first<=n:=iQ
 have aqg:s.first+(s.rs.map (·.2)).length<=2^40:=lX.1
 have aqh:n-s.first<(s.rs.map (·.2)).length:=qV
 rw[af] at aqg aqh;obtain⟨r,hr,hrp⟩: ∃r,s.rs[n-s.first]? =some r/\r.2=p:=by
  have h9:(s.rs.map (·.2))[n-s.first]? =some p:=alU;rw[cP] at h9;cases hq:s.rs[n-s.first]? with
  |none=>rw[hq] at h9;cases h9
  |some r=>exact⟨r,rfl,by rw[hq] at h9;exact cn h9⟩
 have hlen:=FN.gR;refine U7.1 λhs=>?_;repeat' refine ak ?_;intros
 refine eY (λm a w X=> ∃i:Nat,a=I i/\m=i-j/\j<=i/\i<bl.length/\ai (bI w0) w0 X w) (bl.length-1-j) ⟨bl.length-1,congrArg I zQ,rfl,by omega,by omega,hs⟩ ?_;clear hs;rintro m a w1 X1 ⟨i,rfl,rfl,Kd,pK,hs⟩;obtain⟨t,PX⟩: ∃t,bl[i]? =some t:=⟨_,aZ pK⟩;have hbt:aG w0 (bI w0) t.b [I t.first,t.rv,I t.size] 238:=(h.row t (ay PX)).mv (Mv.sub hX);by_cases yE:i=j
 ·subst yE;rw[PX] at hbj;obtain rfl:=cn hbj;have hrc:=(h.Av t (ay PX)).sl.mono hX;have FM:=(h.HE t (ay PX) r (ay hr)).sl.mono hX;rw[hrp] at FM;have WL:=hs.kp.size;repeat' first|refine aJ ?_;intros|(refine Qu hs ?_;intro acc w X hs ho)
  refine qj (ho.low WL) hs (λ_ h=>h) kQ (FM.mv hs.mv) (by intro r hr u hu;obtain⟨x,_,rfl⟩:=List.mem_map.1 hr;simp only[U1,av] at hu;subst hu;rfl) oQ oQ λv8 w8 X8 jZ yJ hc8 Xn=>?_;exact bM jZ λwa aH=>(yJ.kp aH).tight
 ·have asI:n<t.first:=Qs i t.er zQ (by rw[La,cP,PX];rfl)
  repeat' refine aJ ?_;intros
  exact ep (i-1-j) zQ ⟨i-1,congrArg I zQ,rfl,by omega,by omega,hs⟩
variable {s : dV}
theorem adf {n:Nat} {bl:List mG} {r:List dV} (h:zn w F lb db sv bl L) (hL:pt L) (hp:L.has n p) (vO:p.length<=2^40) (hs:L.bC=s::r) (h1:s.first<=n) (h2:n<L.next) (hF:FX F X w):
  Ct pg 78 #[ptr lb 0,I n] w X nX λv wa w'=> ∃vb,v= .tuple #[vb,I 0]/\Own w' (made wa w') wa.heap.size 5 1 vb (p.map U1):=by
 intro w0 hk;replace h:=h.mv (hF.mv hk);have nN:FX F (bI w0) w0:=hF.kp hk;have hX:=λk ah=>(nN k ah).1;have fx: ∀{w X},ai (bI w0) w0 X w->FX F X w:=λhs k ah=>⟨hs.sub k (hX k ah),hs.has k (hs.sub k (hX k ah))⟩;refine QB.1 λ_=>?_;have fv:=ai.init w0;refine dL (N7 h hs nN) kQ fv.has λw1 X1 ax=>?_;repeat' refine aJ ?_;intros
 refine ij (Q:=λK=> ∀w X,ai (bI w0) w0 X w->K (I L.next) w X) ?_ λK hK=>?_
 ·intro w2 X2 bp;repeat' refine aJ ?_;intros
  refine cd (ahC (h.mv (bp.gU hX)) hL hp vO (fx bp)) kQ bp.has ?_;rintro vb yD w3 X3 ho pV lT cY;exact bM (bp.trans cY) λwa aH=>⟨vb,rfl,((ho.up lT (by have:=bp.kp.size;omega)).kp aH).tight⟩
 ·repeat' refine ak ?_;intros
  refine dL (DU (h.mv (ax.gU hX)) hL (fx ax)) kQ ax.has λw2 X2 bp=>?_;exact hK _ _ (ax.trans bp)
theorem pt.tail {t:dV} {r:List dV} (h:pt L) (hs:L.bC=s::t::r):pt { L with bC:=t::r } :=
 ⟨by simp,h.d1,h.d2,λx hx=>h.yK x (by rw[hs];exact bX _ hx),h.room⟩
def DM.ks (m:DM):List ByteArray:=m.fs.map (·.1)
theorem DM.get_some:(m.get n).isSome=true↔n∈m.ks:=by
 have h:=getM_none (k:=n) (l:=m.fs)
 show(getM n m.fs).isSome=true↔n∈m.fs.map (·.1)
 cases hg:getM n m.fs with
 |none=>grind
 |some x=>
  grind
theorem DM.vQ (m:DM):m.ks.length=m.fs.length:=by simp[DM.ks]
structure my (m:DM):Prop where
 ar:m.ar=0
 dn:m.dn=false
theorem my.tick (h:my m):my m.tick:=by
 unfold DM.tick;rw[if_neg (by rw[h.ar];decide)];exact⟨by simp[h.ar],h.dn⟩
theorem my.write (h:my m) (f:DM->DM):m.write 0 f=(f m.tick,0):=by
 unfold DM.write;rw[if_neg (by rw[h.dn];simp),if_neg sQ,if_neg (by rw[h.tick.dn];simp)]
theorem my.afh (h:my m) {e:Nat} (he:e≠0) (f:DM->DM):m.write e f=(m,e):=by
 unfold DM.write;rw[if_neg (by rw[h.dn];simp),if_pos he]
theorem my.create (h:my m) (hn:vR n=true) (hk: ¬n∈m.ks):
  (64<=m.fs.length/\m.create n=(m,3))\/(m.fs.length<64/\(m.create n).2=0/\my (m.create n).1/\(m.create n).1.ks=m.ks++[n]/\(m.create n).1.sz=m.sz):=by
 have hg: ¬(m.get n).isSome=true:=λe=>hk (DM.get_some.1 e);unfold DM.create;rw[if_neg (by simp[hn]),if_neg hg];by_cases hl:64<=m.fs.length
 ·left;rw[if_pos hl];exact⟨hl,h.afh dQ _⟩
 ·right;rw[if_neg hl,h.write];refine⟨by omega,rfl,⟨h.tick.ar,h.tick.dn⟩,?_,?_⟩
  ·show(cL n ([],0) m.tick.fs).map (·.1)=_
   rw[uK,m.Aw,if_neg (show¬(getM n m.fs).isSome=true from hg)];rfl
  ·have:m.tick.get n=none:=by rw[m.pY];simpa using hg
   rw[DM.Se this,m.yn];simp
theorem my.append (h:my m) (hk:n∈m.ks) (gh:m.sz+b.length<=4194304):
  (m.append n b).2=0/\my (m.append n b).1/\(m.append n b).1.ks=m.ks/\(m.append n b).1.sz=m.sz+b.length:=by
 have hg:=DM.get_some.2 hk;unfold DM.append;rw[if_neg (by rw[h.dn];simp)];cases hx:m.get n with
 |none=>grind
 |some x=>
  obtain⟨bs,s⟩:=x;dsimp only;rw[if_neg zQ];refine⟨by rw[if_neg (by rw[h.tick.dn];simp)],⟨h.tick.ar,h.tick.dn⟩,?_,?_⟩
  ·show(cL n (bs++b,s) m.tick.fs).map (·.1)=_
   rw[uK,m.Aw,if_pos (show(getM n m.fs).isSome=true from hg)];rfl
  ·have:m.tick.get n=some (bs,s):=by rw[m.pY];exact hx
   have:=DM.K3 (bs:=bs++b) (s':=s) this;rw[m.yn,aa] at this
   grind
theorem my.sync (h:my m) (hk:n∈m.ks):(m.sync n).2=0/\my (m.sync n).1/\(m.sync n).1.ks=m.ks/\(m.sync n).1.sz=m.sz:=by
 have hg:=DM.get_some.2 hk;unfold DM.sync;rw[if_pos hg,h.write];have Qs:(m.tick.get n).isSome=true:=by rw[m.pY];exact hg
 refine⟨rfl,?_,?_,by dsimp only;rw[DM.EN,m.yn]⟩
 ·unfold DM.ki;dsimp only;split
  ·exact h.tick
  ·exact⟨h.tick.ar,h.tick.dn⟩
 ·unfold DM.ki;dsimp only;split
  ·grind
  ·rename_i x hx
   show(cL n _ m.tick.fs).map (·.1)=_
   rw[uK,m.Aw,if_pos (show(getM n m.fs).isSome=true from hg)];rfl
theorem XB: ∀{k a b:Nat},a<10^k->b<10^k->pZ k a=pZ k b->a=b
 |0,a,b,ha,hb,_=>by omega
 |k+1,a,b,ha,hb,h=>by
  unfold pZ at h;obtain⟨h1,h2⟩:=List.append_inj' h rfl;have:=XB (k:=k) (a:=a/10) (b:=b/10) zQ zQ h1
  grind
theorem MJ: ∀(k n:Nat),∀x∈pZ k n,x<256
 |0,_,x,h=>by cases h
 |k+1,n,x,h=>by
  unfold pZ at h;rcases List.mem_append.1 h with h|h
  ·exact MJ k _ x h
  grind
theorem ahD {a:List Nat} (ha: ∀x∈a,x<256) (hb: ∀x∈b,x<256) (h:zV a=zV b):a=b:=by
 unfold zV at h;have h1:(a.map nC)=b.map nC:=by
  have:=congrArg (λx:ByteArray=>x.data.toList) h;simpa using this
 have h2:=congrArg (List.map UInt8.toNat) h1;simp only[bU] at h2;have e: ∀l:List Nat,(∀x∈l,x<256)->l.map (UInt8.toNat∘nC)=l:=λl hl=>by
  refine(eu λx hx=>?_).trans (wQ l);simp_all
 simp_all
theorem Lb {b:Nat} (ha:a<10^8) (hb:b<10^8) (h:bS dir a=bS dir b):a=b:=by
 unfold bS at h;have h1:=congrArg (λx:ByteArray=>x.data.toList) h;simp only[ByteArray.data_append,Array.toList_append] at h1;refine XB ha hb (ahD (MJ _ _) (MJ _ _) ?_);simp_all
theorem abG {α:Type} [LT α] [DecidableEq α]: ∀{a b:List α} {u v:List α},a<b->a.length=b.length->a++u<b++v
 |[],[],_,_,h,_=>absurd h (List.not_lt_nil _)
 |[],_::_,_,_,_,hl=>by simp at hl
 |_::_,[],_,_,_,hl=>by simp at hl
 |x::a,y::b,u,v,h,hl=>by
  rw[jT,jT,wR];rcases List.cons_lt_cons_iff.1 h with h1|⟨h1,h2⟩
  ·grind
  ·exact .inr ⟨h1,abG h2 gQ⟩
theorem afi: ∀{k a b:Nat},a<b->b<10^k->(pZ k a).map nC<(pZ k b).map nC
 |0,a,b,h,hb=>by omega
 |k+1,a,b,h,hb=>by
  unfold pZ;rw[aC,aC];have wN:b/10<10^k:=by rw[rH] at hb;omega
  by_cases hq:a/10=b/10
  ·rw[hq];refine yH ?_;rw[bB,bB,wR];refine .inl ?_;rw[UInt8.lt_iff_toNat_lt,yI,yI];omega
  ·exact abG (afi zQ wN) (by rw[af,af,vi,vi])
theorem OX (dir:ByteArray) (n:Nat):bl (bS dir n)=(dir.data.toList++[46])++(pZ 8 n).map nC:=by
 unfold bl bS zV;simp_all
theorem aaL {b:Nat} (h:a<b) (hb:b<100000000):bl (bS dir a)<bl (bS dir b):=by
 rw[OX,OX];exact yH (afi h hb)
theorem aaM {ns:List Nat} {ks:List ByteArray} (hp:ks.Perm (ns.map (bS dir))) (hs:ns.Pairwise (· < ·)) (hb: ∀n∈ns,n<100000000):fG ks=ns.map (bS dir):=by
 rw[ahE hp];unfold fG;rw[List.mergeSort_of_pairwise]
 ·rw[bU];refine(eu λx _=>?_).trans (wQ _);rfl
 ·rw[Ar,Ar];refine hs.imp_of_mem λ{a b} _ N8 wM=>?_;unfold leB;exact decide_eq_true (List.le_of_lt (aaL wM (hb b N8)))
theorem afj (h: ∀x∈l,x<256):uZ (zV l)=l:=by
 unfold uZ zV;rw[List.toList_toArray,bU];refine(eu λx hx=>?_).trans (wQ l);simp_all
theorem XC: ∀(k n:Nat) (l:List Nat) (a:Nat),Dl (pZ k n++l) a=Dl l (a*10^k+n % 10^k)
 |0,n,l,a=>by simp[pZ,Nat.mod_one]
 |k+1,n,l,a=>by
  unfold pZ;rw[ao,XC k (n/10)];rw[jT,cI,TX,if_neg zQ]
  congr 1
  have h1:n % 10^(k+1)=n/10 % 10^k*10+n % 10:=by
   rw[rH,Nat.mul_comm (10^k) 10,Nat.mod_mul];omega
  rw[h1,rH,Nat.add_mul,Nat.mul_assoc];omega
theorem adg {n:Nat} (hn:n<100000000):rJ dir (bS dir n)=n:=by
 have gh:=A1 dir n;have hd:dir.data.toList.length=dir.size:=by rw[Array.length_toList];rfl
 have e:(bS dir n).data.toList=(dir.data.toList++[46])++(pZ 8 n).map nC:=OX dir n;have h1:(bS dir n).extract 0 dir.size=dir:=by
  apply DD;apply Array.toList_inj.1;rw[vP,xH,e,ao];rw[tE];simp only[List.drop_zero,Nat.sub_zero];exact ig hd
 have h2:(bS dir n).data.toList[dir.size]? =some 46:=by
  rw[e,ao,List.getElem?_append_right zQ,hd,Nat.sub_self];rfl
 have h3:(bS dir n).extract (dir.size+1) (bS dir n).size=zV (pZ 8 n):=by
  apply DD;apply Array.toList_inj.1;rw[vP,xH,e,tE,gh];rw[jU (by simp_all)];rw[aA (by rw[af,vi];omega)];rfl
 unfold rJ;rw[if_pos ⟨gh,h1,h2⟩,h3,afj (MJ 8 n)];have h4:=XC 8 n [] 0;rw[gJ] at h4;rw[h4]
 show 0*10^8+n % 10^8=n
 grind
theorem Lc {s:Nat} (h:(m.get n).isSome=true):(m.put n b s).ks=m.ks:=by
 show(cL n (b,s) m.fs).map (·.1)=_
 rw[uK,if_pos (show(getM n m.fs).isSome=true from h)];rfl
theorem rq {s:Nat} :(m.put n b s).get n=some (b,s):=kj
theorem Ld {k:ByteArray} {s:Nat} (h:k≠n):(m.put n b s).get k=m.get k:=pd h
theorem akb {x:DM×Nat} :(DM.tY cN x n).1.ks=x.1.ks:=by
 unfold DM.tY;split
 ·rfl
 ·rename_i b s hg;split
  ·rfl
  ·exact Lc (by rw[hg];rfl)
theorem QC {x:DM×Nat} {k:ByteArray} (h:k≠n):(DM.tY cN x n).1.get k=x.1.get k:=by
 unfold DM.tY;split
 ·rfl
 ·split
  ·rfl
  ·exact Ld h
theorem afk {x:DM×Nat} {s:Nat} (h:x.1.get n=some (b,s)) (hs:s<=b.length):
  ∃k,k<=b.length-s/\(DM.tY cN x n).1.get n=some (b.take (s+k),s+k)/\(cN=[]->k=0):=by
 unfold DM.tY;rw[h];dsimp only;split
 ·rename_i he;refine⟨0,aq _,?_,λ_=>rfl⟩
  grind
 ·rename_i he;refine⟨_,?_,rq,?_⟩
  ·split
   ·split
    ·rename_i p _ _;have:=Nat.mod_lt p.toNat (show 0<b.length-s+1 by omega)
     grind
    ·omega
   ·omega
  grind
theorem adh {cN:List Int} {n:ByteArray} : ∀(ns:List ByteArray) (x:DM×Nat),(ns.foldl (DM.tY cN) x).1.ks=x.1.ks/\(n ∉ ns->(ns.foldl (DM.tY cN) x).1.get n=x.1.get n)/\
  (ns.Nodup->n∈ns-> ∀b s,x.1.get n=some (b,s)->s<=b.length-> ∃k,k<=b.length-s/\(ns.foldl (DM.tY cN) x).1.get n=some (b.take (s+k),s+k)/\(cN=[]->k=0))
 |[],x=>⟨rfl,λ_=>rfl,λ_ h=>absurd h sQ⟩
 |a::ns,x=>by
  obtain⟨h1,h2,h3⟩:=adh (cN:=cN) (n:=n) ns (DM.tY cN x a);rw[List.foldl_cons];refine⟨h1.trans akb,λhn=>?_,λhd hn b s hg hs=>?_⟩
  ·simp only[List.mem_cons,not_or] at hn;rw[h2 hn.2,QC hn.1]
  ·have Ko:=List.nodup_cons.1 hd;by_cases e:n=a
   ·subst e;obtain⟨k,hk,xv,hz⟩:=afk (cN:=cN) hg hs;exact⟨k,hk,by grind,hz⟩
   ·refine h3 Ko.2 ((List.mem_cons.1 hn).resolve_left e) b s ?_ hs;rw[QC e];exact hg
theorem OY (m:DM) (cN:List Int):(m.mh cN).ks=m.ks:=(adh (cN:=cN) (n:=⟨#[]⟩) (fG m.ks) (m,0)).1
theorem T2 {s:Nat} (hd:m.ks.Nodup) (h:m.get n=some (b,s)) (hs:s<=b.length): ∃k,k<=b.length-s/\(m.mh cN).get n=some (b.take (s+k),s+k)/\(cN=[]->k=0):=by
 have hn:n∈m.ks:=DM.get_some.1 (by rw[h];rfl);have hp:=jx m.ks;obtain⟨_,_,h3⟩:=adh (cN:=cN) (n:=n) (fG m.ks) (m,0);exact h3 (hp.nodup_iff.2 hd) (hp.mem_iff.2 hn) b s h hs
theorem adi (hd:m.ks.Nodup) (h:m.get n=some (b,b.length)):(m.mh cN).get n=some (b,b.length):=by
 obtain⟨k,hk,hg,_⟩:=T2 (cN:=cN) hd h (au _);simp_all
def flat (l:List (List Nat)):List Nat:=(l.map dt).flatten
theorem Cj (a b:List (List Nat)):flat (a++b)=flat a++flat b:=by simp[flat]
theorem Iw (p:List Nat):flat [p]=dt p:=by simp[flat]
def gB:List dV->Prop
 |s::t::r=>t.first=s.first+s.bt.length/\s.bt≠[]/\gB (t::r)
 |_=>True
theorem gB.tail {r:List dV} (h:gB (s::r)):gB r:=by
 cases r with
 |nil=>trivial
 |cons t r=>exact h.2.2
theorem gB.lt: ∀{r:List dV} {s:dV},gB (s::r)-> ∀t∈r,s.first<t.first
 |[],_,_,_,h=>absurd h sQ
 |u::r,s,h,t,ht=>by
  have h1:=List.length_pos_iff.2 h.2.1;have h2:=h.1;rcases List.mem_cons.1 ht with rfl|ht
  ·omega
  ·have:=gB.lt h.2.2 t ht;omega
theorem gB.R7: ∀{l:List dV},gB l->(l.map (·.first)).Pairwise (· < ·)
 |[],_=>by simp
 |s::r,h=>by
  rw[bB,List.pairwise_cons];refine⟨λn hn=>?_,gB.R7 h.tail⟩;obtain⟨t,ht,rfl⟩:=List.mem_map.1 hn;exact h.lt t ht
theorem gB.suffix: ∀{a b:List dV},gB (a++b)->gB b
 |[],_,h=>h
 |_::a,_,h=>gB.suffix (a:=a) h.tail
theorem gB.snoc {n:dV} : ∀{a:List dV},gB (a++[s])->n.first=s.first+s.bt.length->s.bt≠[]->gB (a++[s]++[n])
 |[],_,h1,h2=>⟨h1,h2,trivial⟩
 |[t],h,h1,h2=>⟨h.1,h.2.1,h1,h2,trivial⟩
 |t::u::a,h,h1,h2=>⟨h.1,h.2.1,gB.snoc (a:=u::a) h.2.2 h1 h2⟩
variable {s' : dV}
theorem gB.last (hf:s'.first=s.first): ∀{a:List dV},gB (a++[s])->gB (a++[s'])
 |[],_=>trivial
 |[t],h=>⟨hf.trans h.1,h.2.1,trivial⟩
 |t::u::a,h=>⟨h.1,h.2.1,gB.last hf (a:=u::a) h.2.2⟩
structure VV (s:dV):Prop where
 one:1<=s.first
 top:s.first<=99999999/\s.first+s.bt.length<=100000000
 sz:s.size=(flat s.bt).length
 pl: ∀p∈s.bt,p.length<=262144/\wU p
structure Good (l:List dV):Prop where
 lk:gB l
 ok: ∀s∈l,VV s
def Good.suffix {a b:List dV} (h:Good (a++b)):Good b:=⟨h.lk.suffix,λs hs=>h.ok s (List.mem_append_right _ hs)⟩
structure oU (dir:ByteArray) (pre:List dV) (s:dV) (lr:List Nat) (sf:Nat) (m:DM):Prop where
 nd:m.ks.Nodup
 ks:m.ks.Perm ((pre++[s]).map λs=>bS dir s.first)
 body: ∀t∈pre,m.get (bS dir t.first)=some (flat t.bt,(flat t.bt).length)
 last:m.get (bS dir s.first)=some (flat s.bt++lr,sf)
 sf:sf<=(flat s.bt++lr).length
variable {pre : List dV}
theorem oU.ne (hg:Good (pre++[s])) {t:dV} (ht:t∈pre):bS dir t.first≠bS dir s.first:=λe=>by
 have h1:=hg.lk.R7;rw[aC] at h1;have h2:=(List.pairwise_append.1 h1).2.2 t.first (List.mem_map.2 ⟨t,ht,rfl⟩) s.first sQ
 have h3:=(hg.ok t (by simp[ht])).top;have h4:=(hg.ok s sQ).top;have:=Lb zQ zQ e;omega
variable {sf : Nat} {lr : List Nat}
theorem oU.mh (h:oU dir pre s lr sf m) (hg:Good (pre++[s])):
  ∃k,k<=(flat s.bt++lr).length-sf/\(cN=[]->k=0)/\(m.mh cN).ks=m.ks/\(∀t∈pre,(m.mh cN).get (bS dir t.first)=some (flat t.bt,(flat t.bt).length))/\
   (m.mh cN).get (bS dir s.first)=some ((flat s.bt++lr).take (sf+k),sf+k):=by
 obtain⟨k,hk,Db,hz⟩:=T2 (cN:=cN) h.nd h.last h.sf;exact⟨k,hk,hz,OY m cN,λt ht=>adi h.nd (h.body t ht),Db⟩
theorem T4 {l:List (List Nat)} (hl: ∀p∈l,p.length<=262144) (ht:lW lr=none):jf (flat l++lr)=(l,(flat l).length):=by
 unfold flat;rw[KZ l lr hl,DT ht];simp
def Ix:lW []=none:=xI (.inl sQ)
theorem vj {s:Nat} (h:m.get n=some (b,s)):m.bytes n=b:=by unfold DM.bytes;rw[h];rfl
theorem Eb {d:ByteArray} {r:Nat} :(⟨d,r,pre++[s],z⟩:LM).last=s:=by simp[LM.last]
theorem XD {dir:ByteArray} {room:Nat} {m:DM} : ∀(T5 pre:List dV),gB (pre++T5)->(∀t∈T5,1<=t.first/\t.first<100000000/\jf (m.bytes (bS dir t.first))=(t.bt,t.size))->
  (∀t∈(pre++T5).dropLast,(m.bytes (bS dir t.first)).length=t.size)->LD.oX ⟨⟨dir,room,pre,0⟩,m⟩ (T5.map λs=>bS dir s.first)=(⟨⟨dir,room,pre++T5,0⟩,m⟩,0)
 |[],pre,_,_,_=>by simp[LD.oX]
 |t::T5,pre,hk,hs,hb=>by
  obtain⟨h1,h2,h3⟩:=hs t sQ;have hn:rJ dir (bS dir t.first)=t.first:=adg h2
  have hj:LD.FK ⟨⟨dir,room,pre,0⟩,m⟩ t.first=false:=by
   unfold LD.FK;simp only[decide_eq_false_iff_not];rintro⟨cA,hor⟩;obtain⟨p,u,rfl⟩: ∃p u,pre=p++[u]:=⟨_,_,(List.dropLast_concat_getLast cA).symm⟩;have aop:gB (u::t::T5):=gB.suffix (a:=p) (by simpa using hk);have hu:(m.bytes (bS dir u.first)).length=u.size:=hb u (by
    rw[List.dropLast_append_of_ne_nil sQ];exact bP _ sQ)
   rw[Eb] at hor;have e1:(⟨dir,room,p++[u],0⟩:LM).ff=bS dir u.first:=by unfold LM.ff;rw[Eb]
   have e2:(⟨dir,room,p++[u],0⟩:LM).next=u.first+u.bt.length:=by unfold LM.next;rw[Eb]
   rw[e1,e2] at hor;rcases hor with h|h
   ·omega
   ·exact h aop.1
  have eJ:LD.join ⟨⟨dir,room,pre,0⟩,m⟩ t.first (bS dir t.first)=(⟨⟨dir,room,pre++[t],0⟩,m⟩,0):=by
   unfold LD.join;rw[hj,if_neg oW];dsimp only;rw[h3]
  rw[bB];unfold LD.oX;dsimp only;rw[hn,if_neg zQ,eJ,if_neg sQ];have:=XD (dir:=dir) (room:=room) (m:=m) T5 (pre++[t]) (by simpa using hk) (λx hx=>hs x (bX _ hx)) (by simpa using hb);rw[this];simp
theorem Iy (h0:m.ar=0) (hd:m.dn=false):m.tick.ar=0/\m.tick.dn=false:=by
 unfold DM.tick
 grind
theorem afl (h0:m.ar=0) (hd:m.dn=false) (f:DM->DM):m.write 0 f=(f m.tick,0):=by
 unfold DM.write;rw[if_neg gQ,if_neg sQ,if_neg (by rw[(Iy h0 hd).2];simp)]
theorem oU.tick (h:oU dir pre s lr sf m):oU dir pre s lr sf m.tick:=by
 have e:m.tick.ks=m.ks:=by unfold DM.ks;rw[m.Aw]
 exact⟨by rw[e];exact h.nd,by rw[e];exact h.ks,λt ht=>by rw[m.pY];exact h.body t ht,by rw[m.pY];exact h.last,h.sf⟩
variable {sf' : Nat} {QD : List Nat}
theorem oU.put (h:oU dir pre s lr sf m) (hg:Good (pre++[s])) (hf:s'.first=s.first) (hb:flat s'.bt++QD=b) (hs:sf'<=b.length):
  oU dir pre s' QD sf' (m.put (bS dir s.first) b sf'):=by
 have ajp:(m.get (bS dir s.first)).isSome=true:=by rw[h.last];rfl
 refine⟨by rw[Lc ajp];exact h.nd,?_,λt ht=>?_,?_,by grind⟩
 ·rw[Lc ajp];have e:(pre++[s']).map (λs=>bS dir s.first)=(pre++[s]).map (λs=>bS dir s.first):=by simp[hf]
  rw[e];exact h.ks
 ·rw[Ld (oU.ne hg ht)];exact h.body t ht
 ·rw[hf,hb];exact rq
theorem oU.ki (h:oU dir pre s lr sf m) (hg:Good (pre++[s])):oU dir pre s lr (flat s.bt++lr).length (m.ki (bS dir s.first)):=by
 unfold DM.ki;rw[h.last];exact h.put hg rfl rfl (au _)
variable {room : Nat}
theorem alV (h:oU dir pre s lr sf m) (hg:Good (pre++[s])) (ht:lW lr=none) (h0:m.ar=0) (hd:m.dn=false):
  ∃m',LD.Bx dir room m=(⟨⟨dir,room,pre++[s],(s.first+s.bt.length:Nat)-1⟩,m'⟩,0)/\oU dir pre s [] (flat s.bt).length m'/\m'.ar=0/\m'.dn=false:=by
 have FN:=hg.ok s sQ;have Xq:fG (m.fs.map (·.1))=(pre++[s]).map λs=>bS dir s.first:=by
  have e:(pre++[s]).map (λs=>bS dir s.first)=((pre++[s]).map (·.first)).map (bS dir):=by rw[bU];rfl
  rw[e];refine aaM (by rw[<-e];exact h.ks) hg.lk.R7 λn hn=>?_;obtain⟨t,ht,rfl⟩:=List.mem_map.1 hn;have:=(hg.ok t ht).top;omega
 have hj:=XD (dir:=dir) (room:=room) (m:=m) (pre++[s]) [] (by simpa using hg.lk) (λt xE=>?_) (λt xE=>?_)
 ·rw[cI] at hj;have hL0:L0 dir room=⟨dir,room,[],0⟩:=rfl;have aoq: ∃m',LD.GA ⟨⟨dir,room,pre++[s],0⟩,m⟩=(⟨⟨dir,room,pre++[s],(s.first+s.bt.length:Nat)-1⟩,m'⟩,0)/\oU dir pre s [] (flat s.bt).length m'/\m'.ar=0/\m'.dn=false:=by
   have eN:(⟨dir,room,pre++[s],0⟩:LM).ff=bS dir s.first:=by unfold LM.ff;rw[Eb]
   have eX:(⟨dir,room,pre++[s],0⟩:LM).next=s.first+s.bt.length:=by unfold LM.next;rw[Eb]
   have sync: ∀{m1:DM} {sf1:Nat},oU dir pre s [] sf1 m1->m1.ar=0->m1.dn=false-> ∃m',LD.sync ⟨⟨dir,room,pre++[s],0⟩,m1⟩=(⟨⟨dir,room,pre++[s],(s.first+s.bt.length:Nat)-1⟩,m'⟩,0)/\oU dir pre s [] (flat s.bt).length m'/\m'.ar=0/\m'.dn=false:=by
    intro m1 sf1 h1 a1 d1;have e:m1.sync (bS dir s.first)=(DM.ki (bS dir s.first) m1.tick,0):=by
     unfold DM.sync;rw[if_pos (by rw[h1.last];rfl),afl a1 d1]
    refine⟨DM.ki (bS dir s.first) m1.tick,?_,?_,?_,?_⟩
    ·unfold LD.sync;simp_all
    ·have:=h1.tick.ki hg
     grind
    ·unfold DM.ki;split
     ·exact(Iy a1 d1).1
     ·exact(Iy a1 d1).1
    ·unfold DM.ki;split
     ·exact(Iy a1 d1).2
     ·exact(Iy a1 d1).2
   unfold LD.GA;dsimp only;rw[Eb,eN,vj h.last,FN.sz,aa];by_cases htn:lr=[]
   ·subst htn;rw[if_neg sQ];exact sync h h0 hd
   ·have:=List.length_pos_iff.2 htn;rw[if_pos zQ];have hc:m.cut (bS dir s.first) (flat s.bt).length=(DM.Dh (bS dir s.first) (flat s.bt).length m.tick,0):=by
     unfold DM.cut DM.OQ;rw[vj h.last,if_pos (by rw[h.last];rfl),aa,if_neg zQ,afl h0 hd];rfl
    rw[hc,if_neg sQ];have hcd:oU dir pre s [] (min sf (flat s.bt).length) (DM.Dh (bS dir s.first) (flat s.bt).length m.tick):=by
     unfold DM.Dh;rw[h.tick.last];dsimp only;rw[List.take_left];exact h.tick.put hg rfl (gJ _) (AX _ _)
    have alW:(DM.Dh (bS dir s.first) (flat s.bt).length m.tick).ar=0/\(DM.Dh (bS dir s.first) (flat s.bt).length m.tick).dn=false:=by
     unfold DM.Dh;split
     ·exact Iy h0 hd
     ·exact Iy h0 hd
    exact sync hcd alW.1 alW.2
  obtain⟨m',e1,e2⟩:=aoq;refine⟨m',?_,e2⟩;unfold LD.Bx;simp_all
 ·have su:=hg.ok t xE;refine⟨su.one,by have:=su.top;omega,?_⟩;rw[su.sz];rcases List.mem_append.1 xE with xE|xE
  ·rw[vj (h.body t xE)];have:=T4 (l:=t.bt) (lr:=[]) (λp hp=>(su.pl p hp).1) Ix
   grind
  ·simp only[av] at xE;subst xE;rw[vj h.last];exact T4 (λp hp=>(su.pl p hp).1) ht
 ·rw[cI,jE] at xE;rw[vj (h.body t xE),(hg.ok t (by simp[xE])).sz]
def XE (dir:ByteArray) (P:List dV->Prop) (m:DM):Prop:=
 m.fs.length<=64/\ ∀cN,∃pre s lr sf,P (pre++[s])/\Good (pre++[s])/\lW lr=none/\wU lr/\oU dir pre s lr sf (m.mh cN)
def EO (dir:ByteArray) (P:List dV->Prop) (m:DM):Prop:=m.dn=true/\XE dir P m
variable {Q : List dV -> Prop}
def XE.imp {P:List dV->Prop} (h:XE dir P m) (k: ∀l s,P (l++[s])->Q (l++[s])):XE dir Q m:=
 ⟨h.1,λcN=>let⟨a,b,c,d,e,f⟩:=h.2 cN;⟨a,b,c,d,k _ _ e,f⟩⟩
def EO.imp {P:List dV->Prop} (h:EO dir P m) (k: ∀l,P l->Q l):EO dir Q m:=⟨h.1,h.2.imp λ_ _=>k _⟩
theorem ub {a:List Nat} (ha:wU a) (hb:wU b):wU (a++b):=λx hx=>(List.mem_append.1 hx).elim (ha x) (hb x)
theorem Sf (n:Nat):wU (tX n):=by
 intro x hx;unfold tX at hx;simp at hx;omega
def T6 (h:wU p):wU (dt p):=ub (ub (ub (Sf _) (Sf _)) h) (Sf _)
theorem adj (hk:k<(dt p).length) (hp:p.length<=262144):lW ((dt p).take k)=none:=by
 have hl:=qG p;by_cases h:k<12
 ·exact xI (.inl gQ)
 ·have e1:iS (dt p)=p.length:=by
   unfold dt;simp only[ao];exact It _ zQ _
  have e2:iS ((dt p).take k)=p.length:=by
   rw[<-e1,HB,HB];rw[fP zQ,fP zQ,fP zQ,fP zQ]
  refine xI (.inr (.inr (.inr ?_)))
  grind
theorem oU.re {m':DM} (h:oU dir pre s lr sf m) (hk:m'.ks=m.ks) (hb: ∀t∈pre,m'.get (bS dir t.first)=m.get (bS dir t.first)) (hf:s'.first=s.first)
  (hl:m'.get (bS dir s.first)=some (flat s'.bt++QD,sf')) (hs:sf'<=(flat s'.bt++QD).length):oU dir pre s' QD sf' m':=by
 refine⟨by rw[hk];exact h.nd,?_,λt ht=>by rw[hb t ht];exact h.body t ht,by grind,hs⟩;rw[hk];have e:(pre++[s']).map (λs=>bS dir s.first)=(pre++[s]).map (λs=>bS dir s.first):=by simp[hf]
 rw[e];exact h.ks
theorem XF (h:oU dir pre s [] (flat s.bt).length m) (hg:Good (pre++[s])) (hl:m.fs.length<=64):XE dir (λl=>l=pre++[s]) m:=by
 refine⟨hl,λcN=>?_⟩;obtain⟨k,hk,_,h1,h2,h3⟩:=h.mh (cN:=cN) hg;rw[gJ] at hk h3;have ix:k=0:=by omega
 subst ix;refine⟨pre,s,[],(flat s.bt).length,rfl,hg,Ix,λx hx=>(by cases hx),h.re h1 (λt ht=>by rw[h2 t ht,h.body t ht]) rfl ?_ sQ⟩
 grind
def T7 (h:oU dir pre s [] (flat s.bt).length m) (hg:Good (pre++[s])) (hl:m.fs.length<=64) (hd:m.dn=true):EO dir (λl=>l=pre++[s]) m:=⟨hd,XF h hg hl⟩
abbrev dV.plus (s:dV) (p:List Nat):dV:=⟨s.first,s.bt++[p],s.size+(dt p).length⟩
theorem T8 (h:oU dir pre s (dt p) (flat s.bt).length m) (hg:Good (pre++[s])) (xv:Good (pre++[s.plus p])) (hp:p.length<=262144) (hl:m.fs.length<=64) (hd:m.dn=true):EO dir (λl=>l=pre++[s]\/l=pre++[s.plus p]) m:=by
 refine⟨hd,hl,λcN=>?_⟩;have HF:wU (dt p):=T6 ((xv.ok (s.plus p) sQ).pl p sQ).2;obtain⟨k,hk,_,h1,h2,h3⟩:=h.mh (cN:=cN) hg;rw[aa] at hk;rw[List.take_append,aA (Nat.le_add_right _ _),Nat.add_sub_cancel_left] at h3;by_cases si:k<(dt p).length
 ·refine⟨pre,s,(dt p).take k,(flat s.bt).length+k,.inl rfl,hg,adj si hp,λx hx=>HF x (dN hx),h.re h1 (λt ht=>by rw[h2 t ht,h.body t ht]) rfl h3 (by simp_all)⟩
 ·refine⟨pre,s.plus p,[],(flat s.bt).length+k,.inr rfl,xv,Ix,λx hx=>(by cases hx),h.re h1 (λt ht=>by rw[h2 t ht,h.body t ht]) rfl ?_ ?_⟩
  ·rw[h3,aA zQ,Cj,Iw,gJ]
  ·rw[Cj,Iw,gJ,aa];omega
theorem GB (hd:m.dn=false) (f:DM->DM):(m.tick.dn=true/\m.write 0 f=(m.tick,12))\/(m.tick.dn=false/\m.write 0 f=(f m.tick,0)):=by
 cases h:m.tick.dn with
 |true=>left;exact⟨rfl,by unfold DM.write;grind⟩
 |false=>right;exact⟨rfl,by unfold DM.write;grind⟩
structure oE (x:LD) (pre:List dV) (s:dV):Prop where
 bC:x.L.bC=pre++[s]
 g:Good (pre++[s])
 d:oU x.L.dir pre s [] (flat s.bt).length x.m
 dn:x.m.dn=false
 sz:x.m.sz<=4194304
 fl:x.m.fs.length<=64
 d1:1<=x.L.dir.size
 d2:x.L.dir.size<=11
 r1:64<=x.L.room
 r2:x.L.room<=262144
theorem oE.last (h:oE x pre s):x.L.last=s:=by unfold LM.last;rw[h.bC];simp
theorem oE.name (h:oE x pre s):x.L.ff=bS x.L.dir s.first:=by unfold LM.ff;rw[h.last]
theorem oE.next (h:oE x pre s):x.L.next=s.first+s.bt.length:=by unfold LM.next;rw[h.last]
theorem XG (m:DM) (n:ByteArray):(m.ki n).dn=m.dn:=by unfold DM.ki;split<;>rfl
theorem T9 (m:DM) (n:ByteArray):(m.ki n).fs.length=m.fs.length:=by
 have:(m.ki n).ks=m.ks:=by
  unfold DM.ki;split
  ·rfl
  ·grind [Lc]
 have:=congrArg ba this
 grind [DM.vQ]
theorem BU (m:DM):m.tick.fs.length=m.fs.length:=by rw[m.Aw]
theorem oE.sync (h:oE x pre s):(x.sync.2=12/\EO x.L.dir (λl=>l=pre++[s]) x.sync.1.m)\/(x.sync.2=0/\oE x.sync.1 pre s/\x.sync.1.L= { x.L with safe:=(x.L.next:Int)-1 } /\x.sync.1.m.sz=x.m.sz):=by
 have e:x.m.sync x.L.ff=x.m.write 0 (DM.ki (bS x.L.dir s.first)):=by
  unfold DM.sync;rw[h.name,if_pos (by rw[h.d.last];rfl)]
 unfold LD.sync;dsimp only;rw[e];rcases GB h.dn (DM.ki (bS x.L.dir s.first))with⟨ht,hw⟩|⟨ht,hw⟩
 ·rw[hw];exact .inl ⟨rfl,T7 h.d.tick h.g (by rw[BU];exact h.fl) ht⟩
 ·rw[hw];have hd:=h.d.tick.ki h.g;rw[gJ] at hd;exact .inr ⟨rfl,⟨h.bC,h.g,hd,by rw[XG];exact ht,by dsimp only;rw[DM.EN,x.m.yn];exact h.sz,by dsimp only;rw[T9,BU];exact h.fl,h.d1,h.d2,h.r1,h.r2⟩,rfl,by dsimp only;rw[DM.EN,x.m.yn]⟩
def fH (l:List dV):List (List Nat):=(l.map (·.bt)).flatten
def oh (l:List dV):Option Nat:=l.head?.map (·.first)
theorem aaN (l:List dV) (s:dV):fH (l++[s])=fH l++s.bt:=by simp[fH]
theorem N9 (l:List dV) (s:dV) (p:List Nat):fH (l++[s.plus p])=fH (l++[s])++[p]:=by simp[fH]
theorem QE (l:List dV) (s s':dV) (h:s'.first=s.first):oh (l++[s'])=oh (l++[s]):=by grind [oh]
theorem adk (l:List dV) (s n:dV):oh (l++[s]++[n])=oh (l++[s]):=by
 cases l with
 |nil=>rfl
 |cons a l=>rfl
theorem VV.plus (h:VV s) (hp:p.length<=262144) (hb:wU p) (hn:s.first+s.bt.length<=99999999):VV (s.plus p):=by
 refine⟨h.one,⟨h.top.1,by simp;omega⟩,?_,λq hq=>?_⟩
 ·show s.size+(dt p).length=_
  rw[h.sz,Cj,Iw,aa]
 ·rcases List.mem_append.1 hq with hq|hq
  ·exact h.pl q hq
  grind
theorem Good.plus (h:Good (pre++[s])) (hp:p.length<=262144) (hb:wU p) (hn:s.first+s.bt.length<=99999999):Good (pre++[s.plus p]):=by
 refine⟨gB.last (s:=s) (s':=s.plus p) rfl h.lk,λt ht=>?_⟩;rcases List.mem_append.1 ht with ht|ht
 ·exact h.ok t (bP _ ht)
 ·simp only[av] at ht;subst ht;exact(h.ok s sQ).plus hp hb hn
theorem Good.more (h:Good (pre++[s])) (hr:s.bt≠[]) (hn:s.first+s.bt.length<=99999999):Good (pre++[s]++[⟨s.first+s.bt.length,[],0⟩]):=by
 refine⟨h.lk.snoc rfl hr,λt ht=>?_⟩;rcases List.mem_append.1 ht with ht|ht
 ·exact h.ok t ht
 ·simp only[av] at ht;subst ht;have:=(h.ok s sQ).one;exact⟨by simp;omega,⟨by omega,by simp;omega⟩,by rfl,λp hp=>by cases hp⟩
theorem oE.iJ (h:oE x pre s) (hr:s.bt≠[]) (hn:x.L.next<=99999999):
  ((x.iJ x.L.next).2=12/\EO x.L.dir (λl=>l=pre++[s]) (x.iJ x.L.next).1.m/\(x.iJ x.L.next).1.L=x.L)\/((x.iJ x.L.next).2=3/\(x.iJ x.L.next).1=x/\64<=x.m.fs.length)\/
  ((x.iJ x.L.next).2=0/\oE (x.iJ x.L.next).1 (pre++[s]) ⟨x.L.next,[],0⟩/\(x.iJ x.L.next).1.L= { x.L with bC:=x.L.bC++[⟨x.L.next,[],0⟩] } /\(x.iJ x.L.next).1.m.sz=x.m.sz):=by
 have nj:=h.next
 have qV:=List.length_pos_iff.2 hr;have hnk: ¬(x.m.get (bS x.L.dir x.L.next)).isSome=true:=λe=>by
  have:=h.d.ks.mem_iff.1 (DM.get_some.1 e);obtain⟨t,ht,e2⟩:=List.mem_map.1 this;have su:=(h.g.ok t ht).top;have:=Lb zQ zQ e2;rcases List.mem_append.1 ht with ht|ht
  ·have h1:=h.g.lk.R7;rw[aC] at h1;have:=(List.pairwise_append.1 h1).2.2 t.first (List.mem_map.2 ⟨t,ht,rfl⟩) s.first sQ
   omega
  grind
 have xD:vR (bS x.L.dir x.L.next)=true:=by
  have:=h.d1;have:=h.d2;simp only[vR,A1,decide_eq_true_eq];omega
 unfold LD.iJ;dsimp only;unfold DM.create;rw[if_neg (by simp[xD]),if_neg hnk];by_cases hl:64<=x.m.fs.length
 ·right;left;rw[if_pos hl];have e:x.m.write 3 (λm=>m.put (bS x.L.dir x.L.next) [] 0)=(x.m,3):=by unfold DM.write;rw[if_neg (by rw[h.dn];simp),if_pos sQ]
  simp_all
 ·rw[if_neg hl];rcases GB h.dn (λm=>m.put (bS x.L.dir x.L.next) [] 0)with⟨ht,hw⟩|⟨ht,hw⟩
  ·left;rw[hw];exact⟨rfl,T7 h.d.tick h.g (by rw[BU];omega) ht,rfl⟩
  ·right;right;rw[hw,if_pos rfl];have lR:x.m.tick.get (bS x.L.dir x.L.next)=none:=by
    rw[x.m.pY];cases hq:x.m.get (bS x.L.dir x.L.next)with
    |none=>rfl
    |some y=>grind
   have zj:(x.m.tick.put (bS x.L.dir x.L.next) [] 0).ks=x.m.ks++[bS x.L.dir x.L.next]:=by
    show(cL (bS x.L.dir x.L.next) ([],0) x.m.tick.fs).map (·.1)=_
    rw[uK,x.m.Aw,if_neg (show¬(getM (bS x.L.dir x.L.next) x.m.fs).isSome=true from hnk)];rfl
   have gn:bS x.L.dir x.L.next ∉ x.m.ks:=λhm=>hnk (DM.get_some.2 hm)
   have xv:=h.g.more hr zQ;rw[<-nj] at xv;have adl: ∀t∈pre++[s],(x.m.tick.put (bS x.L.dir x.L.next) [] 0).get (bS x.L.dir t.first)=some (flat t.bt,(flat t.bt).length):=λt ht=>by
    rw[Ld,x.m.pY]
    ·rcases List.mem_append.1 ht with ht|ht
     ·exact h.d.body t ht
     ·simp only[av] at ht;subst ht;have:=h.d.last
      grind
    ·intro e;refine gn (e▸h.d.ks.mem_iff.2 (List.mem_map.2 ⟨t,ht,rfl⟩))
   have iQ:(x.m.tick.put (bS x.L.dir x.L.next) [] 0).fs.length=x.m.fs.length+1:=by
    have:=congrArg ba zj;rw[aa,DM.vQ,DM.vQ] at this;exact this
   have alX:(x.m.tick.put (bS x.L.dir x.L.next) [] 0).sz=x.m.sz:=by
    rw[DM.Se lR,x.m.yn];simp
   refine⟨rfl,⟨by dsimp only;rw[h.bC],xv,⟨?_,?_,adl,?_,by simp⟩,ht,by dsimp only;rw[alX];exact h.sz,?_,h.d1,h.d2,h.r1,h.r2⟩,rfl,alX⟩
   ·dsimp only;rw[zj,List.nodup_append];exact⟨h.d.nd,by simp,λa ha b hb e=>gn gQ⟩
   ·dsimp only;rw[zj,aC];exact h.d.ks.append (List.Perm.refl _)
   ·exact rq
   grind
theorem oE.adm (h:oE x pre s) (hn:x.L.next<=99999999):
  (x.room.2=12/\EO x.L.dir (λl=>l=pre++[s]) x.room.1.m/\x.room.1.L.bC=x.L.bC/\x.room.1.L.dir=x.L.dir/\x.room.1.L.room=x.L.room)\/(x.room.2=3/\oE x.room.1 pre s/\x.room.1.L.dir=x.L.dir/\x.room.1.L.room=x.L.room/\64<=x.m.fs.length/\x.L.room<=s.size)\/
  (x.room.2=0/\ ∃oI s',oE x.room.1 oI s'/\x.room.1.L.next=x.L.next/\x.room.1.L.dir=x.L.dir/\x.room.1.L.room=x.L.room/\x.room.1.m.sz=x.m.sz/\((oI=pre/\s'=s/\ ¬x.L.room<=s.size)\/(oI=pre++[s]/\s'=⟨x.L.next,[],0⟩/\x.L.room<=s.size))):=by
 unfold LD.room;rw[h.last];by_cases hr:x.L.room<=s.size
 ·rw[if_pos hr];have cA:s.bt≠[]:=λe=>by
   have h1:=(h.g.ok s sQ).sz;have h2:=h.r1
   grind [flat]
  dsimp only;rcases h.sync with⟨e,hf⟩|⟨e,hu,eL,eS⟩
  ·left;have La:x.sync.1.L.bC=x.L.bC/\x.sync.1.L.dir=x.L.dir/\x.sync.1.L.room=x.L.room:=by
    unfold LD.sync;dsimp only;grind
   grind
  ·rw[if_neg zQ];have nj:x.sync.1.L.next=x.L.next:=by rw[hu.next,h.next]
   have adn:x.sync.1.L.dir=x.L.dir:=by rw[eL]
   have KM:x.sync.1.L.room=x.L.room:=by rw[eL]
   have Oa:x.sync.1.m.fs.length=x.m.fs.length:=by
    have h1:=h.d.ks.length_eq;have h2:=hu.d.ks.length_eq;rw[DM.vQ] at h1 h2;rw[h1,h2];simp
   rw[<-nj];rcases hu.iJ cA zQ with⟨a,b,c⟩|⟨a,b,c⟩|⟨a,b,c,d⟩
   ·left
    grind
   ·right;left
    grind
   ·right;right;refine⟨a,_,_,b,?_,by grind,by grind,d.trans eS,.inr ⟨rfl,rfl,hr⟩⟩;rw[b.next];simp
 ·rw[if_neg hr]
  grind
structure Lay (x:LD) (pre:List dV) (s:dV) (p:List Nat):Prop where
 bC:x.L.bC=pre++[s.plus p]
 g0:Good (pre++[s])
 g:Good (pre++[s.plus p])
 d:oU x.L.dir pre s (dt p) (flat s.bt).length x.m
 pl:p.length<=262144
 dn:x.m.dn=false
 sz:x.m.sz<=4194304
 fl:x.m.fs.length<=64
 d1:1<=x.L.dir.size
 d2:x.L.dir.size<=11
 r1:64<=x.L.room
 r2:x.L.room<=262144
theorem Lay.last (h:Lay x pre s p):x.L.last=s.plus p:=by unfold LM.last;rw[h.bC];simp
theorem Lay.sync (h:Lay x pre s p):(x.sync.2=12/\EO x.L.dir (λl=>l=pre++[s]\/l=pre++[s.plus p]) x.sync.1.m)\/(x.sync.2=0/\oE x.sync.1 pre (s.plus p)/\x.sync.1.L.dir=x.L.dir/\x.sync.1.L.room=x.L.room):=by
 have hn:x.L.ff=bS x.L.dir s.first:=by unfold LM.ff;rw[h.last]
 have e:x.m.sync x.L.ff=x.m.write 0 (DM.ki (bS x.L.dir s.first)):=by
  unfold DM.sync;rw[hn,if_pos (by rw[h.d.last];rfl)]
 unfold LD.sync;dsimp only;rw[e];rcases GB h.dn (DM.ki (bS x.L.dir s.first))with⟨ht,hw⟩|⟨ht,hw⟩
 ·rw[hw];exact .inl ⟨rfl,T8 h.d.tick h.g0 h.g h.pl (by rw[BU];exact h.fl) ht⟩
 ·rw[hw];have hd:=h.d.tick.ki h.g0;have iQ:flat s.bt++dt p=flat (s.plus p).bt:=by show _=flat (s.bt++[p]);rw[Cj,Iw]
  have tD:oU x.L.dir pre (s.plus p) [] (flat (s.plus p).bt).length (x.m.tick.ki (bS x.L.dir s.first)):=by
   refine hd.re rfl (λ_ _=>rfl) rfl ?_ sQ;rw[hd.last,iQ,gJ]
  exact .inr ⟨rfl,⟨h.bC,h.g,tD,by rw[XG];exact ht,by dsimp only;rw[DM.EN,x.m.yn];exact h.sz,by dsimp only;rw[T9,BU];exact h.fl,h.d1,h.d2,h.r1,h.r2⟩,rfl,rfl⟩
theorem oE.lay (h:oE x pre s) (hp:p.length<=262144) (hb:wU p) (hn:x.L.next<=99999999):
  ((x.lay p).2=12/\EO x.L.dir (λl=>l=pre++[s]\/l=pre++[s.plus p]) (x.lay p).1.m/\(x.lay p).1.L=x.L)\/((x.lay p).2=11/\(x.lay p).1=x/\4194304<x.m.sz+(dt p).length)\/
  ((x.lay p).2=0/\Lay (x.lay p).1 pre s p/\(x.lay p).1.L=x.L.add p):=by
 have nj:=h.next
 have xv:=h.g.plus hp hb zQ;have hl:=h.d.last;rw[gJ] at hl;have eA:x.m.append (bS x.L.dir s.first) (dt p)=if 4194304-x.m.sz<(dt p).length then(x.m,11)else(x.m.tick.put (bS x.L.dir s.first) (flat s.bt++dt p) (flat s.bt).length,if x.m.tick.dn then 12 else 0):=by
  unfold DM.append;rw[hl,if_neg (by rw[h.dn];simp)]
 unfold LD.lay;dsimp only;rw[h.name];by_cases gh:4194304-x.m.sz<(dt p).length
 ·right;left;rw[if_pos gh] at eA;rw[eA];exact⟨rfl,rfl,by omega⟩
 ·rw[if_neg gh] at eA;have cD:x.m.tick.get (bS x.L.dir s.first)=some (flat s.bt,(flat s.bt).length):=by rw[x.m.pY];exact hl
  have hd:oU x.L.dir pre s (dt p) (flat s.bt).length (x.m.tick.put (bS x.L.dir s.first) (flat s.bt++dt p) (flat s.bt).length):=
   h.d.tick.put h.g rfl rfl gQ
  have jK:(x.m.tick.put (bS x.L.dir s.first) (flat s.bt++dt p) (flat s.bt).length).dn=x.m.tick.dn:=rfl;have iQ:(x.m.tick.put (bS x.L.dir s.first) (flat s.bt++dt p) (flat s.bt).length).fs.length<=64:=by
   have hk:(x.m.tick.put (bS x.L.dir s.first) (flat s.bt++dt p) (flat s.bt).length).ks=x.m.tick.ks:=Lc gQ;have:=congrArg ba hk;rw[DM.vQ,DM.vQ,BU] at this;rw[this];exact h.fl
  cases ht:x.m.tick.dn with
  |true=>
   left;rw[ht,if_pos rfl] at eA;rw[eA];exact⟨rfl,T8 hd h.g xv hp iQ (jK.trans ht),rfl⟩
  |false=>
   right;right;rw[ht,if_neg oW] at eA;rw[eA,if_pos rfl];refine⟨rfl,⟨?_,h.g,xv,hd,hp,jK.trans ht,?_,?_,h.d1,h.d2,h.r1,h.r2⟩,rfl⟩
   ·show x.L.bC.dropLast++[⟨x.L.last.first,x.L.last.bt++[p],x.L.last.size+(dt p).length⟩]=_
    rw[h.last,h.bC,jE]
   ·have:=DM.K3 (bs:=flat s.bt++dt p) (s':=(flat s.bt).length) cD;rw[aa,x.m.yn] at this;have:=h.sz;dsimp only;omega
   omega
structure Kept (x:LD) (pre:List dV) (s:dV) (p:List Nat) (y:LD) (oI:List dV) (s':dV):Prop where
 up:oE y oI s'
 fst:oh (oI++[s'])=oh (pre++[s])
 dir:y.L.dir=x.L.dir
 room:y.L.room=x.L.room
theorem oE.iG (h:oE x pre s) (hp:p.length<=262144) (hb:wU p):
  ((x.iG 0 p).2.2=12/\EO x.L.dir (λl=>oh l=oh (pre++[s])/\(fH l=fH (pre++[s])\/fH l=fH (pre++[s])++[p])/\((∀t∈pre,x.L.room<=t.size)-> ∀t∈l.dropLast,x.L.room<=t.size)) (x.iG 0 p).1.m)\/
  ((x.iG 0 p).2.2=0/\(x.iG 0 p).2.1=x.L.next/\ ∃oI s',Kept x pre s p (x.iG 0 p).1 oI s'/\fH (oI++[s'])=fH (pre++[s])++[p]/\
   ((oI=pre/\s'=s.plus p/\ ¬x.L.room<=s.size)\/(oI=pre++[s]/\s'=⟨x.L.next,[p],(dt p).length⟩/\x.L.room<=s.size)))\/
  ((x.iG 0 p).2.2≠0/\(x.iG 0 p).2.2≠12/\(∃oI s',Kept x pre s p (x.iG 0 p).1 oI s'/\fH (oI++[s'])=fH (pre++[s]))/\(99999999<x.L.next\/(64<=x.m.fs.length/\x.L.room<=s.size)\/4194304<x.m.sz+(dt p).length)):=by
 have nj:=h.next
 have eK:x.iG 0 p=if(x.append p).2.2≠0 then x.append p else((x.append p).1.sync.1,(x.append p).2.1,(x.append p).1.sync.2):=by
  unfold LD.iG;rw[if_neg sQ]
 have eA:x.append p=if 99999999<x.L.next then(x,0,1)else if x.room.2≠0 then(x.room.1,0,x.room.2)else if(x.room.1.lay p).2≠0 then((x.room.1.lay p).1,0,(x.room.1.lay p).2)else((x.room.1.lay p).1,x.L.next,0):=by
  unfold LD.append;rw[if_neg zQ]
 by_cases hn:99999999<x.L.next
 ·right;right;rw[if_pos hn] at eA;rw[eA,if_pos sQ] at eK;rw[eK];exact⟨by simp,by simp,⟨pre,s,⟨h,rfl,rfl,rfl⟩,rfl⟩,.inl hn⟩
 ·rw[if_neg hn] at eA;rcases h.adm zQ with⟨a,b,c,d,e⟩|⟨a,b,c,d,e,f⟩|⟨a,oI,s',b,c,d,e,XH,f⟩
  ·left;rw[if_pos zQ] at eA;rw[eA,if_pos (by rw[a];simp)] at eK;rw[eK];exact⟨a,b.imp λl hl=>by grind⟩
  ·right;right;rw[if_pos zQ] at eA;rw[eA,if_pos (by rw[a];simp)] at eK;rw[eK];exact⟨by rw[a];simp,by rw[a];simp,⟨pre,s,⟨b,rfl,c,d⟩,rfl⟩,.inr (.inl ⟨e,f⟩)⟩
  ·rw[if_neg zQ] at eA;have wS:oh (oI++[s'])=oh (pre++[s]):=by
    rcases f with⟨rfl,rfl,_⟩|⟨rfl,rfl,_⟩
    ·rfl
    ·exact adk _ _ _
   have oO:fH (oI++[s'])=fH (pre++[s]):=by
    rcases f with⟨rfl,rfl,_⟩|⟨rfl,rfl,_⟩
    ·rfl
    ·rw[aaN];simp
   have Ep: ∀z:dV,(∀t∈pre,x.L.room<=t.size)-> ∀t∈(oI++[z]).dropLast,x.L.room<=t.size:=λz hq t ht=>by
    rw[jE] at ht;rcases f with⟨rfl,_,_⟩|⟨rfl,_,f⟩
    ·grind
    ·rcases List.mem_append.1 ht with ht|ht
     ·grind
     ·rw[av] at ht;grind
   rcases b.lay hp hb zQ with⟨a1,b1,c1⟩|⟨a1,b1,c1⟩|⟨a1,b1,c1⟩
   ·left;rw[if_pos zQ] at eA;rw[eA,if_pos (by rw[a1];simp)] at eK;rw[eK];rw[d] at b1;refine⟨a1,b1.imp λl hl=>?_⟩;rcases hl with rfl|rfl
    ·exact⟨wS,.inl oO,Ep _⟩
    ·exact⟨(QE oI s' (s'.plus p) rfl).trans wS,.inr (by rw[N9,oO]),Ep _⟩
   ·right;right;rw[if_pos zQ] at eA;rw[eA,if_pos (by rw[a1];simp)] at eK;rw[eK,b1];exact⟨by rw[a1];simp,by rw[a1];simp,⟨oI,s',⟨b,wS,d,e⟩,oO⟩,.inr (.inr zQ)⟩
   ·rw[if_neg zQ] at eA;rw[eA,if_neg sQ] at eK;rw[eK];have EG:(x.room.1.lay p).1.L.dir=x.L.dir:=by rw[c1];exact d
    have qV:(x.room.1.lay p).1.L.room=x.L.room:=by rw[c1];exact e
    have Es:oh (oI++[s'.plus p])=oh (pre++[s]):=(QE oI s' (s'.plus p) rfl).trans wS;have jC:fH (oI++[s'.plus p])=fH (pre++[s])++[p]:=by rw[N9,oO]
    rcases b1.sync with⟨a2,b2⟩|⟨a2,b2,c2,d2⟩
    ·left;rw[EG] at b2;refine⟨a2,b2.imp λl hl=>?_⟩;rcases hl with rfl|rfl
     ·exact⟨wS,.inl oO,Ep _⟩
     ·exact⟨Es,.inr jC,Ep _⟩
    ·right;left;refine⟨a2,rfl,oI,s'.plus p,⟨b2,Es,c2.trans EG,d2.trans qV⟩,jC,?_⟩;rcases f with⟨rfl,rfl,f⟩|⟨rfl,rfl,f⟩
     ·exact .inl ⟨rfl,rfl,f⟩
     ·exact .inr ⟨rfl,by simp[dV.plus],f⟩
section
variable {a : dV}
end
def LGr (L L':LM) (p:List Nat):Prop:=
 L'.dir=L.dir/\L'.room=L.room/\(L'.bC=L.bC\/L'.bC=L.bC++[⟨L.next,[],0⟩]\/L'.bC=L.bC.dropLast++[L.last.plus p]\/L'.bC=L.bC++[⟨L.next,[p],(dt p).length⟩])
theorem alY (x:LD):x.sync.1.L.dir=x.L.dir/\x.sync.1.L.room=x.L.room/\x.sync.1.L.bC=x.L.bC:=by grind [LD.sync]
theorem alZ (x:LD) (n:Nat):(x.iJ n).1.L.dir=x.L.dir/\(x.iJ n).1.L.room=x.L.room/\((x.iJ n).1.L.bC=x.L.bC\/(x.iJ n).1.L.bC=x.L.bC++[⟨n,[],0⟩]):=by grind [LD.iJ]
theorem al0 (x:LD):x.room.1.L.dir=x.L.dir/\x.room.1.L.room=x.L.room/\(x.room.1.L.bC=x.L.bC\/x.room.1.L.bC=x.L.bC++[⟨x.L.next,[],0⟩]):=by
 obtain⟨a,b,c⟩:=alY x;unfold LD.room;split
 ·dsimp only;split
  ·grind
  ·obtain⟨d,e,f⟩:=alZ x.sync.1 x.L.next
   grind
 grind
theorem ahF (x:LD) (p:List Nat):LGr x.L (x.append p).1.L p:=by
 obtain⟨a,b,c⟩:=al0 x;have key:LGr x.L x.room.1.L p:=⟨a,b,c.imp id .inl⟩;have hq:LGr x.L (x.room.1.lay p).1.L p:=by
  unfold LD.lay;dsimp only;split
  ·refine⟨a,b,?_⟩
   show x.room.1.L.bC.dropLast++[⟨x.room.1.L.last.first,x.room.1.L.last.bt++[p],x.room.1.L.last.size+(dt p).length⟩]=_\/x.room.1.L.bC.dropLast++[⟨x.room.1.L.last.first,x.room.1.L.last.bt++[p],x.room.1.L.last.size+(dt p).length⟩]=_\/x.room.1.L.bC.dropLast++[⟨x.room.1.L.last.first,x.room.1.L.last.bt++[p],x.room.1.L.last.size+(dt p).length⟩]=_\/x.room.1.L.bC.dropLast++[⟨x.room.1.L.last.first,x.room.1.L.last.bt++[p],x.room.1.L.last.size+(dt p).length⟩]=_
   have hl:x.room.1.L.last=x.room.1.L.bC.getLast?.getD ⟨0,[],0⟩:=rfl;rcases c with c|c
   ·right;right;left;have:x.room.1.L.last=x.L.last:=by rw[hl,c];rfl
    rw[c,this]
   simp_all
  ·exact key
 unfold LD.append;split
 ·exact⟨rfl,rfl,.inl rfl⟩
 ·split
  ·exact⟨rfl,rfl,.inl rfl⟩
  grind
theorem oE.ado (h:oE x pre s): ∀t∈x.L.bC,t.first+t.bt.length<=100000000/\t.size<=4194304:=λt ht=>by
 rw[h.bC] at ht;have h1:=h.g.ok t ht;refine⟨h1.top.2,?_⟩;rw[h1.sz];rcases List.mem_append.1 ht with ht|ht
 ·exact ad (DM.Au (h.d.body t ht)) h.sz
 ·simp only[av] at ht;subst ht;have:=DM.Au h.d.last;rw[gJ] at this;exact ad this h.sz
theorem oE.adp (h:oE x pre s):x.L.bC.length<=64:=by
 have h1:=h.d.ks.length_eq;rw[DM.vQ,af,<-h.bC] at h1;have:=h.fl;omega
theorem oE.K9 (h:oE x pre s):pt x.L:=
 ⟨by rw[h.bC];simp,h.d1,h.d2,λt ht=>by have:=h.ado t ht;omega,ad h.r2 dQ⟩
theorem LGr.K9 {L':LM} (hg:LGr x.L L' p) (h:oE x pre s) (hp:p.length<=262144):pt L'/\L'.bC.length<=65:=by
 have hN:=h.adp;have hB:=h.ado;have iQ:=qG p;have kn:x.L.last∈x.L.bC:=LM.xL (by rw[h.bC];simp);have yA:=hB _ kn;have nj:x.L.next<=100000000:=yA.1
 obtain⟨a,b,c⟩:=hg;have hL: ∀(l:List dV),L'.bC=l->l≠[]->l.length<=65->(∀t∈l,t.first+t.bt.length<=100000001/\t.size<=5000000)->pt L'/\L'.bC.length<=65:=λl e h1 h2 h3=>
  ⟨⟨by grind,by rw[a];exact h.d1,by rw[a];exact h.d2,λt ht=>by rw[e] at ht;have:=h3 t ht;omega,by rw[b];exact ad h.r2 dQ⟩,by grind⟩
 rcases c with c|c|c|c
 ·exact hL _ c (by rw[h.bC];simp) zQ λt ht=>by have:=hB t ht;omega
 ·refine hL _ c sQ oQ λt ht=>?_;rcases List.mem_append.1 ht with ht|ht
  ·have:=hB t ht;omega
  ·simp only[av] at ht;subst ht;simp;omega
 ·refine hL _ c sQ oQ λt ht=>?_;rcases List.mem_append.1 ht with ht|ht
  ·have:=hB t (List.dropLast_subset _ ht);omega
  ·simp only[av] at ht;subst ht;simp only[dV.plus,aa,List.length_singleton];omega
 ·refine hL _ c sQ oQ λt ht=>?_;rcases List.mem_append.1 ht with ht|ht
  ·have:=hB t ht;omega
  ·simp only[av] at ht;subst ht;simp;omega
abbrev EP:Value:=.iface 186 (.agg #[])
abbrev A2:List PanicEntry:=[{ v:=EP,recovered:=false }]
theorem Rec.xN (r:Rec):r.fI=0\/r.fI=2\/r.fI=4\/r.fI=7:=by
 have h:r.err=0\/r.err=4\/r.err=7:=by
  unfold Rec.err;split
  ·simp
  ·split<;>simp
 unfold Rec.fI;rcases h with h|h|h<;>rw[h]
 ·by_cases h:262144<(gf r).length<;>simp[h]
 ·simp
 ·simp
variable {r : Rec}
theorem abH (h1:r.reads=[]) (h2:r.writes=[]) (h3:r.parts=[]) (h4:r.wV=[]) (h5:r.state= .zero):r.at w X aP aP aP aP aP aP:=by
 unfold Rec.at;rw[h1,h2,h3,h4,h5];exact⟨Sl.nil _ _ _,Sl.nil _ _ _,Sl.nil _ _ _,Sl.nil _ _ _,fp.nil _ _ _,fp.nil _ _ _⟩
theorem DV (h1:r.reads=[]) (h2:r.writes=[]) (h5:r.state= .zero):r.small:=by
 refine⟨by simp[h1],by simp[h2],by simp[h1],by simp[h2],?_⟩;rw[h5];exact⟨by simp[State.zero,Le],by simp[State.zero,Lf],by simp[State.zero,adq],by simp[State.zero,adr]⟩
def GC (w:World) (Y:XS) (nb:Nat):Prop:= ∃x0 x1 x2 x3 x5 x6 x7 x8 x9 vm va,aG w Y nb [x0,x1,x2,x3,B true,x5,x6,x7,x8,x9,vm,va] nT
variable {nb : Nat}
def GC.mv {A A':XS} (h:GC w A nb) (m:Mv A w A' w'):GC w' A' nb:=let⟨x0,x1,x2,x3,x5,x6,x7,x8,x9,vm,va,hr⟩:=h;⟨x0,x1,x2,x3,x5,x6,x7,x8,x9,vm,va,hr.mv m⟩
def dkR (db:Nat) (m:DM):pN:=⟨λw _ A=>Dk w A db m,λh _ m=>h.mv m⟩
def Ua (db:Nat) (m:DM):Nat->pN
 |3=>dkR db m
 |_=>QF
def Ub (nb db:Nat) (m:DM):Nat->pN
 |1=>⟨λw _ A=>GC w A nb,λh _ m=>h.mv m⟩
 |3=>dkR db m
 |_=>QF
abbrev VW (w:World) (own:Nat->Nat) (nb db:Nat) (m:DM):Prop:=Hs (Ub nb db m) w own
abbrev DQ (own:Nat->Nat) (nb db:Nat) (wa w':World) (P:DM->Prop):Prop:=NQ (Ub nb db) own wa w' λ_ m=>P m
def jy (n:bE) (r:Rec):LD×Nat×Nat:=LD.iG ⟨n.L,n.m⟩ r.fI.toNat (gf r)
abbrev Lh (n:bE) (r:Rec):bE:= { n with L:=(jy n r).1.L,m:=(jy n r).1.m }
def MK (n:bE) (r:Rec) (m':DM):Prop:=(jy n r).2.2=12/\m'=(jy n r).1.m
def Lg.dk (h:Lg w F lb db L m):Dk w F db m:=let⟨_,_,_,_,_,_,h2,_,h4⟩:=h;h4.mono h2
def al1 (n:bE) (r:Rec) (vp:Value) (v:Value) (n':bE):Prop:= ∃bx DE v2,v=ptr bx 0/\bx ∉ n.cl/\n'= { n with c:= { n.c with cm:=DE },bl:=cL r.aO bx n.bl,cl:=n.cl++[bx],C:=λb'=>if b'=bx then⟨r,vp,v2,r.parts,false⟩else n.C b' }
abbrev XI (n:bE) (b:Nat) (d:BV) (DE:Value):bE:= { n with c:= { n.c with cm:=DE },cl:=n.cl++[b],C:=λb'=>if b'=b then d else n.C b' }
def Li (n:bE) (b:Nat) (d:BV) (c:Nat):pN:=if c=tx b 4 then Jt b d 4 else if c=tx b 5 then Jt b d 5 else if c=tx b 6 then Jt b d 6 else dX n c
variable {w0 wa : World} {own aI bZ : Nat -> Nat} {n' : bE} {QP : DM -> Prop} {args : Array Value} {f : FuncId} {sg : dV} {vd vh vp vr vw : Value} {d : BV}
section
variable {n : bE} {b : Nat} {F : Nat -> pN}
theorem _root_.Go.aK.St.VX {Q:Value->World->(Nat->Nat)->bE->Prop} (s:St w0 bZ w X own F) (h:ER P f args w X (gy own) (λv wa w'=>NQ dX own wa w' (Q v w')) (λch wa w'=>ch=A2/\DQ own nb db wa w' QP)) (hf:enters P f=true)
  (k: ∀v w' X' aI n',Sn w0 bZ w' X' aI n'->Q v w' aI n'->Mv (bN own 4) w (bN aI 4) w'->N v w' X') (hR: ∀wb,Fr (gy bZ) w0 wb->DQ bZ nb db w0 wb QP->R (.panicked A2) wb):eC P R X w true f args N:=
 s.t.FP h hf (λ_ h=>h) (λv wa w' X' ⟨aI,n',e,h',q⟩ hle gn _ c=>k v w' X' aI n' (s.XJ hle gn c e h').1 q (s.XJ hle gn c e h').2)
 λch wa w' X' hq hle gn hT c wb pj=>by
  obtain⟨rfl,aI,m',e,hd,q⟩:=hq;have hx: ∀k,aI k≠0->X' k:=λk hk=>by
   by_cases AP:k<wa.heap.size
   ·exact c.sub k (s.x k λe0=>hk ((e k AP).1 e0))
   ·exact gn k ⟨by omega,hd.lt k hk⟩
  refine hR wb (hT.fr pj) ⟨aI,m',λk hk=>?_,hd.kp hx pj,q⟩;have h1:=s.e k hk;have h2:=e k (aw hk (ad s.t.s.kp.size hle))
  grind
def DQ.imp {P P':DM->Prop} (h:DQ own nb db w w' P) (hp: ∀m,P m->P' m):DQ own nb db w w' P':=let⟨a,b,c,d,e⟩:=h;⟨a,b,c,d,hp _ e⟩
def _root_.Go.aK.St.FP {Q:Value->World->(Nat->Nat)->bE->Prop} {XK:DM->Prop} {Q0:Value->World->Prop} (s:St w0 bZ w X own F) (h:ER P f args w X (gy own) (λv wa w'=>NQ dX own wa w' (Q v w')) (λch wa w'=>ch=A2/\DQ own nb db wa w' QP)) (hf:enters P f=true)
  (k: ∀v w' X' aI n',Sn w0 bZ w' X' aI n'->Q v w' aI n'->Mv (bN own 4) w (bN aI 4) w'->N v w' X') (hp: ∀m',QP m'->XK m'):
  eC P (ES (gy bZ) w0 Q0 λch w'=>ch=A2/\DQ bZ nb db w0 w' XK) X w true f args N:=
 s.VX h hf k λwb hf hd=>.inr ⟨A2,rfl,hf,rfl,hd.imp hp⟩
theorem ET (h:jd w own n) (hX:qW own X) (jL:oE ⟨n.L,n.m⟩ pre sg) (dF:r.at w (bN own 4) vr vw vp vq vh vd) (lX:r.small) (Br:(gf r).length<=2^33):
  ER pg 82 #[ptr n.nb 0,r.v vr vw vp vq vh vd] w X (gy own) (λv wa w'=>NQ dX own wa w' λ_ n'=>(jy n r).2.2≠12/\v=I (jy n r).2.2/\n'=Lh n r)
   (λch wa w'=>ch=A2/\DQ own n.nb n.db wa w' (MK n r)):=by
 intro w0 hk;have s:=St.init h hX hk;replace dF:=dF.mv (yG hX hk);have h1:=dF.1.one;have h2:=dF.2.1.one;have h3:=dF.2.2.1.one;have h4:=dF.2.2.2.1.one;have h5:=dF.2.2.2.2.1.one;have h6:=dF.2.2.2.2.2.one;have hlk:pt (LD.append ⟨n.L,n.m⟩ (gf r)).1.L:=by
  by_cases hp:(gf r).length<=262144
  ·exact((ahF ⟨n.L,n.m⟩ _).K9 jL hp).1
  ·have e:LD.append ⟨n.L,n.m⟩ (gf r)=(⟨n.L,n.m⟩,0,2):=by unfold LD.append;rw[if_pos zQ]
   rw[e];exact jL.K9
 have jO: ∀{n0 x:LD} (j:Nat),j=3-> ∀c,c≠j-> ∀w K A,(dX { n with L:=n0.L,m:=n0.m } c).p w K A->(dX { n with L:=x.L,m:=x.m } c).p w K A:=λ{n0 x} j hj=>by subst hj;exact nz
 refine Lj.1 λ_=>?_;refine cd (Dm (dF.mv (Mv.sub (s.sub 4))) lX λ_=>Br) kQ s.has ?_;rintro ve Cv w1 X1 hq pa mB ax;have s1:=s.since ax;obtain⟨vb,rfl,ob,yF⟩: ∃vb,ve= .tuple #[vb,I r.fI]/\aK.one vb=true/\(r.fI=0->Own w1 (made Cv w1) Cv.heap.size _ 1 vb ((gf r).map U1)):=by
  by_cases he:r.fI≠0
  ·rw[if_pos he] at hq;exact⟨_,hq,rfl,λe=>absurd e he⟩
  ·rw[if_neg he] at hq;obtain⟨vb,e,ho⟩:=hq;exact⟨vb,by rw[e,Classical.byContradiction he],ho.sl.one,λ_=>ho⟩
 refine ajq (v:=vb) rfl (ajq (v:=I r.fI) rfl ?_);refine ij (Q:=λ(K:Value->World->XS->Prop)=> ∀w X aI (x:LD) (z:Nat),Sn w0 own w X aI { n with L:=x.L,m:=x.m } ->pt x.L->(jy n r).1=(if z≠0 then x else x.sync.1)->(jy n r).2.2=(if z≠0 then z else x.sync.2)->K (I z) w X) ?_ λK22 al2=>?_
 ·intro w2 X2 lC x z s2 xx Lk zh;refine ij (Q:=λ(K:Value->World->XS->Prop)=> ∀w X aI (x:LD) (z:Nat),Sn w0 own w X aI { n with L:=x.L,m:=x.m } ->(jy n r).1=x->(jy n r).2.2=z->K (I z) w X) ?_ λK35 al3=>?_
  ·intro w3 X3 nf x z s3 Lk zh;have hs:=s3.rf;by_cases xJ:z=12
   ·repeat' first|refine aJ ?_;intros|with_reducible apply cB
    refine sV kQ rfl ?_;refine s3.st (o:=4) 1 (s3.get 1) (λc=>if c=1 then XM n.nb (bO (Gt n.c n.DA n.vm n.va) 4 [B true]) nT else dX { n with L:=x.L,m:=x.m } c) zQ kQ (Nat.le_of_ble_eq_true rfl) rfl (λ_ _ _ h=>h) (λc hc w K A h=>by rw[if_neg hc];exact h) λw4 X4 lD s4 m4=>?_;clear hs;have hs:=s4.rf;repeat' refine ak ?_;intros
    (with_reducible refine Sg ?_ ?_)
    ·kernel_rfl
    refine Sh s4.has λwa nD=>s4.t.iY nD ⟨rfl,lD,x.m,s4.e,?_,zh.trans xJ,by rw[Lk]⟩;have h:=s4.h.kp s4.x nD;exact h.to λc h0 h4 w K A h=>by
     by_cases e:c=1
     ·subst e;exact⟨_,_,_,_,_,_,_,_,_,_,_,h⟩
     ·rw[if_neg e] at h;rcases c with _|_|_|_|c<;>first|exact absurd rfl e|exact Lg.dk h|trivial
   ·repeat' first|refine aJ ?_;intros|with_reducible apply cB
    exact s3.xO λwa aH=>⟨by rw[zh];exact xJ,by rw[zh],by unfold Lh;rw[Lk]⟩
  have hs:=s2.rf;have hr:=s2.v.1;by_cases hz:z=0
  ·rw[if_neg zQ] at Lk zh;repeat' refine aJ ?_;intros
   refine yR (Iv (s2.get 3) xx (s2.fxc 3)) kQ s2.has (s2.sub 3) λv yD w3 X3 ⟨hv,G3,hG3,WN⟩ pV lT _ c3=>?_;obtain⟨nf,s3,m3⟩:=s2.De (F':=dX { n with L:=x.sync.1.L,m:=x.sync.1.m }) 3 c3 (λ_ e=>e) G3 (λk ah=>(hG3 k ah).imp id λe=>⟨lT k e,ad pV e.1⟩) (λK _=>WN) (jO (n0:=x) (x:=x.sync.1) 3 rfl);subst hv;exact al3 _ _ _ _ _ s3 Lk zh
  ·rw[if_pos hz] at Lk zh;repeat' refine aJ ?_;intros
   exact al3 _ _ _ _ _ s2 Lk zh
 have hs:=s1.rf;have hr:=s1.v.1;have ek:jy n r=LD.iG ⟨n.L,n.m⟩ r.fI.toNat (gf r):=rfl;unfold LD.iG at ek;by_cases he:r.fI=0
 ·rw[he] at ek⊢;repeat' refine aJ ?_;intros
  have ho:=yF he;refine yR (XN (s1.get 3) jL.K9 (by have:=jL.adp;grind) (s1.fxc 3) ho.sl λk ah=>⟨mB k ah,λ(e:own k=3)=>by have:=(s.nw (ad pa ah.1)).1;omega⟩) kQ s1.has (s1.sub 3) λv vM w2 X2 ⟨hv,G2,hG2,xv⟩ kF jt _ c2=>?_;obtain⟨lC,s2,m2⟩:=s1.De (F':=dX { n with L:=(LD.append ⟨n.L,n.m⟩ (gf r)).1.L,m:=(LD.append ⟨n.L,n.m⟩ (gf r)).1.m }) 3 c2 (λ_ e=>e) G2 (λk ah=>(hG2 k ah).imp id λe=>⟨jt k e,ad kF e.1⟩) (λK _=>xv) (jO (n0:=⟨n.L,n.m⟩) 3 rfl);subst hv;repeat' refine ak ?_;intros
  refine al2 _ _ _ _ _ s2 hlk ?_ ?_
  ·rw[ek];dsimp only;rw[if_neg sQ];split<;>rfl
  ·rw[ek];dsimp only;rw[if_neg sQ];split<;>rfl
 ·repeat' refine aJ ?_;intros
  have h0:r.fI=(r.fI.toNat:Int):=by rcases r.xN with e|e|e|e<;>rw[e]<;>rfl
  have h1:r.fI.toNat≠0:=by omega
  rw[h0];rw[if_pos h1] at ek;exact al2 _ _ _ ⟨n.L,n.m⟩ _ s1 jL.K9 (by rw[ek,if_pos h1]) (by rw[ek,if_pos h1])
theorem al4 {b b':Nat} (hi:i<8) (hj:j<8) (h:tx b i=tx b' j):b=b'/\i=j:=by unfold tx at h;omega
theorem _root_.Go.aK.St.aqi (s:Sn w0 bZ w X own n) (hb:own b=0/\w0.heap.size<=b) (hr:aG w X b (d.r.l aP aP d.vp aP aP aP++[d.v2,B d.ended]) cmT) (ho:Own w X w0.heap.size WY 1 d.v2 (d.waits.map I1)) (hn: ∀g,fc d.v2 g->own g=0) (hp:Sl w (bN own 4) 1 d.vp (d.r.parts.map I1)):
  b ∉ n.cl/\ ∃aI,St w0 bZ w X aI (Li n b d)/\Mv (bN own 4) w (bN aI 4) w:=by
 have no:b ∉ n.cl:=λh=>by have:own b=tx b 4:=(s.h.Bz h).1.1;exact iy.1 (this.symm.trans hb.1)
 have ne: ∀{i j:Nat},i<8->j<8->i≠j->tx b i≠tx b j:=λhi hj h e=>h (al4 hi hj e).2;obtain⟨il,s1,m1,e1,e2⟩:=s.jO (F':=λc=>if c=tx b 5 then Jt b d 5 else dX n c) (j:=tx b 5) (N:=fc d.v2) (ee.nA s.rf nX) (· =tx b 5) (λ_ h=>h.elim) iy.1.symm iy.2.symm (λk e=>⟨ho.2.2 k e,hn k e,(ho.ge e).1⟩) iy.1
  (λaI e1 e2 m c hc=>by subst hc;rw[if_pos rfl];exact xy (ho.low (aq _)) e2) λc hc K A _ h=>by rw[if_neg hc];exact h
 have lL:il b=0:=(e1 b (FQ ho hr (by rfl))).trans hb.1;obtain⟨lC,s2,m2,-,-⟩:=s1.jO (F':=Li n b d) (j:=tx b 4) (N:=(· =b)) (ee.nA s1.rf nX) (· =tx b 4) (λ_ h=>h.elim) iy.1.symm iy.2.symm (λk e=>by subst e;exact⟨hr.1,lL,hb.2⟩) iy.1
  (λaI _ e2 m c hc=>by subst hc;unfold Li;rw[if_pos rfl];exact⟨e2 b rfl,hr.2⟩) λc hc K A m h=>by
   unfold Li;rw[if_neg hc];by_cases h5:c=tx b 5
   ·rw[if_pos h5] at h⊢;exact h
   ·rw[if_neg h5] at h⊢;by_cases h6:c=tx b 6
    ·rw[if_pos h6];exact(hp.mv m1).mv m
    ·rw[if_neg h6];exact h
 exact⟨no,lC,s2,m1.trans m2⟩
theorem Si (h:c<16):Li n b d c=dX n c:=by unfold Li tx;rw[if_neg zQ,if_neg zQ,if_neg zQ]
theorem ahG (hn: ∀i,i<16->i≠1->i≠10-> ∀w K A,(XO n i).p w K A->(XO n' i).p w K A) (hs:n'.al=n.al/\n'.ex=n.ex/\n'.A=n.A/\n'.cl=n.cl++[b]/\n'.C=λb'=>if b'=b then d else n.C b'): ∀c,(c≠1/\c≠10)-> ∀w K A,(Li n b d c).p w K A->(dX n' c).p w K A:=λc hc w K A h=>by
 obtain⟨q1,q2,q3,q4,q5⟩:=hs;have e: ∀b',n'.dI b'↔n.dI b':=λb'=>by unfold bE.dI;rw[q1,q2]
 have eC:n'.C b=d:=by rw[q5];exact if_pos rfl
 unfold Li at h;by_cases h4:c=tx b 4
 ·subst h4;rw[if_pos rfl] at h;rw[vN _ _ _ dQ];exact λ_=>by rw[eC];exact h
 rw[if_neg h4] at h;by_cases h5:c=tx b 5
 ·subst h5;rw[if_pos rfl] at h;rw[vN _ _ _ dQ];exact λ_=>by rw[eC];exact h
 rw[if_neg h5] at h;by_cases h6:c=tx b 6
 ·subst h6;rw[if_pos rfl] at h;rw[vN _ _ _ dQ];exact λ_=>by rw[eC];exact h
 rw[if_neg h6] at h;refine W6 (λhi p=>hn c hi hc.1 hc.2 w K A p) (λb' i hi ec p=>?_) h;by_cases hb:b'=b
 ·subst hb;rcases i with _|_|_|_|_|_|_|_|i<;>first|exact absurd ec h4|exact absurd ec h5|exact absurd ec h6|(simp only[zl,CP,e,q3] at p⊢;exact p)
 ·have eC':n'.C b'=n.C b':=by rw[q5];exact if_neg hb
  have el:b'∈n'.cl↔b'∈n.cl:=by rw[q4];simp[hb]
  rcases i with _|_|_|_|_|_|_|_|i<;>(simp only[zl,CP,e,el,eC',q3] at p⊢;exact p)
theorem Ob (h:jd w own n) (hX:qW own X) (hp:Sl w (bN own 4) 1 vp (r.parts.map I1)) (vO:r.parts.length<=2^40) (qi:n.cl.length<=2^20):
  Ct pg 106 #[ptr n.nb 0,r.v aP aP vp aP aP aP] w X (gy own) λv wa w'=>NQ dX own wa w' λ_ n'=>al1 n r vp v n':=by
 intro w0 hk;have s:=St.init h hX hk;replace hp:=hp.mv (yG hX hk);have h3:=hp.one;obtain⟨e1,e2,e3,rfl⟩:=hp.form;refine Nf.1 λ_=>?_;refine cd (EU (hp.mono (s.sub 4)) vO) kQ s.has ?_;rintro v2 Cv w1 X1 q1 pa mB TT;have ov2:=q1.sl.one;have Lk:Own w1 X1 w0.heap.size _ 1 v2 _:=q1.up mB pa;have s1:=s.since TT;obtain⟨g1,g2,g3,rfl⟩:=q1.sl.form;have hr:=s1.v.1;have o1:=s1.v.2.2.2.1;have hs:=s1.rf;repeat' first|refine ak ?_;intros|(refine NV hs ?_;intro bx w X fY ax fv hs bo)|(refine q1s hs ?_;intro _ _ _ w X hs ho)
 obtain⟨nb1,lC,s2,m2⟩:=(s1.since fv).aqi (b:=bx) (d:=⟨r,.slice e1 e2 e3,.slice g1 g2 g3,r.parts,false⟩) (s1.nw zQ) bo ((Lk.since fv).mono λ_ h=>h) (λg hg=>(s.nw (Lk.ge hg).1).1) (hp.mv ((yG s.x TT.kp).trans (yG s1.x fv.kp)));replace s2:=s2.since hs;obtain⟨d,hd⟩: ∃d:BV,d=⟨r,.slice e1 e2 e3,.slice g1 g2 g3,r.parts,false⟩:=⟨_,rfl⟩;rw[<-hd] at s2;have q1:aG w (bN lC 1) n.nb (Gt n.c n.DA n.vm n.va) nT:=by have:=s2.get 1;rwa [Si dQ] at this
 have XP:Own w (bN lC 10) 0 pcT 1 n.c.cm (n.cl.map λb=>[ptr b 0]):=by have:=s2.get 10;rwa [Si dQ] at this
 refine s2.ap1 (o:=8) 1 10 11 q1 XP ho.sl (λr jP u hu=>?_) oQ (λv'=>dX (XI n bx d v')) (λ_ _ _ _ h=>h) (λv' w' K A h=>?_) (λv' w' K A _ h=>by rwa [Si dQ] at h) (λv' c hc w' K A h=>ahG (n:=n) (n':=XI n bx d v') (b:=bx) (d:=d) ?_ ⟨rfl,rfl,rfl,rfl,rfl⟩ c ⟨hc.1,hc.2.1⟩ w' K A h) λDE w3 X3 nf s3 m3=>?_
 ·rw[av] at jP;subst jP;rw[av] at hu;subst hu;rfl
 ·show Own w' A 0 pcT 1 v' ((n.cl++[bx]).map λb=>[ptr b 0])
  rw[aC];exact h
 ·intro i hi h1 h10 w K A h;rcases i with _|_|_|_|_|_|_|_|_|_|_|_|_|i<;>first|exact h|exact absurd rfl h1|exact absurd rfl h10
 clear hs hr;have hs:=s3.rf;have hr:=s3.v.1;repeat' refine ak ?_;intros
 have hb6:=(s3.get 6:dM w3 (bN nf 6) nX n.c.bb (λk:bL=>k.v) xz n.bl).x.1;refine uY (kv:=λk:bL=>k.v) (k:=r.aO) (a:=bx) (et:=124) (s3.zO 6:) Ev (show xz w3 nX (ptr bx 0) bx from rfl) (λ_ h=>h.elim) sJ kQ hs.has λw4 X4 c4 Ao=>?_;obtain⟨lD,s4,m4⟩:=s3.De (F':=dX { XI n bx d DE with bl:=cL r.aO bx n.bl }) 6 c4 (λk e=>by rw[show k=n.c.bb from e];exact hb6) (bN nf 6) (λ_ e=>.inl e) (λ_ _=>lp Ao hb6) nz;clear hs hr;have hs:=s4.rf
 skip
 exact s4.fin λwa hk=>⟨bx,DE,_,rfl,nb1,by rw[hd]⟩
end
def jl (t:bL) (st:cx) (ps:List Int):Rec:=⟨9,t,st,.zero,false,0,0,[],[],ps,[],.zero⟩
theorem afm (l:List Int):(iT encI l).length<=10+10*l.length:=by
 have h: ∀l:List Int,(l.map encI).flatten.length<=10*l.length:=by
  intro l
  induction l with
  |nil=>simp
  |cons x l ih=>
   have:=fD x;simp only[bB,dd,aa,aL];omega
 have h1:=fD (l.length:Int);have h2:=h l;unfold iT;rw[aa];omega
theorem VY (t:bL) (st:cx) (ps:List Int):gf (jl t st ps)=encI 9++(nB t++(lq st++iT encI ps)):=by simp[gf,jl]
theorem afn (t:bL) (st:cx) (ps:List Int):(gf (jl t st ps)).length<=80+10*ps.length:=by
 have h1:=fD 9;have h2:=CT t;have h3:=uL st;have h4:=afm ps;rw[VY];simp only[aa];omega
def wW (d:pe) (i:Nat) (m:cO) (lz:Value) (pJ:List (List Value)):pe:= { d with x:= { d.x with mw:=d.x.mw.later m.aS },vw:=lz,rw:=pJ,ws:=d.ws.take i++d.ws.drop (i+1) }
def VZ (n:bE) (t:bL) (d:pe) (r:Rec) (n':bE):Prop:=
 ((jy n r).2.2≠12/\(jy n r).2.2≠0/\ ∃oB,Told { Lh n r with al:=j9 t n.al,va:=oB,ra:=n.ra++[Ey (jy n r).2.2 t .zero false aP] } (d.ids.map λid=>(Sj t id).pU (20+n.c.id)) n')\/
 ((jy n r).2.2=0/\ ∃bx DE vp v2 oB vs,aK.one vs=true/\bx ∉ n.cl/\Told (XI { Lh n r with al:=j9 t n.al,bl:=cL t bx n.bl,va:=oB,ra:=n.ra++[Ey 0 t d.x.mw false vs] } bx ⟨r,vp,v2,d.ids,false⟩ DE) (d.ids.map λid=>(XQ r id).pU (20+n.c.id)) n')
def QG (n:bE) (t:bL) (b:Nat) (n':bE):Prop:=VZ n t (n.A b) (jl t (n.A b).x.mw (n.A b).ids) n'
def V1 (n:bE) (m:cO) (n':bE):Prop:=
 (∃iq,n'= { n with ck:=iq } /\NoW n m true)\/DR n m true n'\/ ∃(b i:Nat) (y:cO) (iq:cx) (lz:Value) (pJ:List (List Value)) (n1:bE),DS n m true b i y/\n1= { eI n b (wW (n.A b) i m lz pJ)with ck:=iq } /\
  (((n.A b).ws.length≠1/\n'=n1)\/((n.A b).ws.length=1/\QG n1 m.aO b n'))
def ads (n:bE) (m:cO) (m':DM):Prop:= ∃(b i:Nat) (y:cO),DS n m true b i y/\(n.A b).ws.length=1/\MK n (jl m.aO ((n.A b).x.mw.later m.aS) (n.A b).ids) m'
section
variable {n : bE} {b : Nat}
theorem XR {m:cO} {vk vs vc:Value} {N M:Nat} (h:jd w own n) (hX:qW own X) (jL:oE ⟨n.L,n.m⟩ pre sg) (hm:m.at w (bN own 4) vk vs vw vp vr vc vh vd) (fN:m.aS.may=true) (hk:sT N M n) (hN:N<=2^20):
  ER pg 56 #[ptr n.nb 0,m.v vk vs vw vp vr vc vh vd] w X (gy own) (λ_ wa w'=>NQ dX own wa w' λ_ n'=>V1 n m n') (λch wa w'=>ch=A2/\DQ own n.nb n.db wa w' (ads n m)):=by
 intro w0 ix;have s0:=St.init h hX ix;replace hm:=hm.mv (yG hX ix);have hi:1<=n.c.id/\n.c.id<=2:=by rw[hk.id];decide
 clear h hX ix;refine Ll.1 λ_=>?_;refine s0.call (Hy s0.h s0.x hk.pre fN hm.ranges hi (hk.get (m:=m) zQ).1 (λb hb=>(hk.act _ b hb).pq) (hk.get zQ).2) kQ λv w1 X1 il n1 s1 q1 m1=>?_;rcases q1 with⟨rfl,q1⟩|⟨b,i,y,iq,hw,rfl,rfl⟩
 ·have hs:=s1.rf;repeat' refine ak ?_;intros
  exact s1.xO λ_ _=>q1.elim .inl λe=>.inr (.inl e)
 have hb:n.dI b:=.inl ⟨_,hw.g⟩;have CB:=hk.act _ b hw.g;have ap3:=CB.ws;have acK:=CB.ids;have pK:i<(n.A b).ws.length:=(List.getElem?_eq_some_iff.1 hw.gK).1;obtain⟨ha,o1,o2,o3,o4⟩:=s1.va (b:=b) hb;have hs:=s1.rf;repeat' first|refine ak ?_;intros|(refine px (Oc _ _) hs ?_;intro w X hs)
 have s2:=s1.since hs;refine s2.stN (o:=12) (tx b 0) (s2.h.act (b:=b) hb).1 (dX (eI { n with ck:=iq } b { n.A b with x:= { (n.A b).x with mw:=(n.A b).x.mw.later m.aS } })) zQ kQ sQ rfl rfl (λ_ _ _ h=>qD dQ h) Ik (λw3 X3 nf s3 m3=>?_) iy.1 iy.2;clear hs ha s1 s2;obtain⟨ha,-⟩:=s3.vs (n:= { n with ck:=iq }) hb;have hs:=s3.rf;have ny:=s3.h.act (b:=b) hb;rw[jq] at ny;repeat' refine ak ?_;intros
 refine s3.aho (tx b 0) (tx b 1) (tx b 3) ny.1 ny.2.1 (NY (F:=X3) (ny.2.1.mono (s3.sub _ iy.1)) (λ_ h=>h) (by show i<(n.A b).rw.length;rw[show(n.A b).rw.length=_ from ny.2.2.2.1.1];exact pK) ny.2.2.2.1.Xe) (λv=>dX (eI { n with ck:=iq } b (wW (n.A b) i m v ((n.A b).rw.take i++(n.A b).rw.drop (i+1))))) (λ_ _ _ _ h=>qD dQ h) (λ_ _ _ _ h=>qD dQ h)
  (λv' w' K A mv p=>qD dQ (by rw[vN _ _ _ dQ] at p;have p:=p hb;rw[jq] at p;exact⟨(ny.2.2.2.1.cut i).mv mv,p.2⟩)) (λv'=>Qa) (λv4 w4 X4 lD s4 m4=>?_) (yE:=by unfold tx;omega)
 clear hs ha;have Hp:(n.A b).rw.length=(n.A b).ws.length:=ny.2.2.2.1.1;have hl7:((n.A b).rw.take i++(n.A b).rw.drop (i+1)).length=(n.A b).ws.length-1:=by simp;omega
 clear ny s3;obtain⟨d,hd⟩: ∃d,d=wW (n.A b) i m v4 ((n.A b).rw.take i++(n.A b).rw.drop (i+1)):=⟨_,rfl⟩;rw[<-hd] at s4;have ed:d.ids=(n.A b).ids/\d.x= { (n.A b).x with mw:=(n.A b).x.mw.later m.aS } /\d.rw.length=(n.A b).ws.length-1/\d.vw=v4/\d.sn=(n.A b).sn:=by rw[hd];exact⟨rfl,rfl,hl7,rfl,rfl⟩
 obtain⟨n3,sk⟩: ∃n3:bE,n3= { eI n b d with ck:=iq } :=⟨_,rfl⟩;replace s4:Sn w0 own w4 X4 lD n3:=by rw[sk];exact s4
 have e3:n3.A b=d:=by rw[sk];exact jq
 have f3:n3.nb=n.nb/\n3.db=n.db/\n3.L=n.L/\n3.m=n.m/\n3.c=n.c/\n3.cl=n.cl/\n3.ra=n.ra/\n3.rm=n.rm/\n3.ex=n.ex/\n3.al=n.al:=by rw[sk];exact⟨rfl,rfl,rfl,rfl,rfl,rfl,rfl,rfl,rfl,rfl⟩
 have rD:n3.dI b:=by rw[sk];exact hb
 have hs:=s4.rf;have ny:=s4.h.act rD;obtain⟨ha,o1,o2,o3,o4⟩:=s4.va rD;rw[e3] at ny ha o1 o2 o3 o4;have oC:Sl w4 X4 36 d.vw (d.rw.map id):=by rw[wQ];exact ny.2.1.sl.mono (s4.sub _ iy.1)
 rw[ed.2.2.2.1] at ha oC o1;by_cases h1:(n.A b).ws.length=1;case neg=>
  repeat' refine aJ ?_;intros
  exact s4.xO λ_ _=>.inr (.inr ⟨b,i,y,iq,_,_,n3,hw,by rw[sk,hd],.inl ⟨h1,rfl⟩⟩)
 have adt:=ny.2.2.2.2.2 (by rw[hd];exact CB.pq);obtain⟨q1,q2,q3,hqv⟩:=adt.form;rw[hqv] at adt;rw[show Jq d.x v4=Jq { d.x with vq:=.slice q1 q2 q3 } v4 by rw[<-hqv]] at ha;have ht6:d.x.aO=m.aO:=by
  have:=(show∀t b,getM t n3.al=some b->(n3.A b).x.aO=t from s4.h.gK 12 dQ dQ) m.aO b (by rw[f3.2.2.2.2.2.2.2.2.2];exact hw.g)
  rwa [e3] at this
 have dF:(jl d.x.aO d.x.mw d.ids).at w4 (bN lD 4) aP aP (.slice q1 q2 q3) aP aP aP:=⟨Sl.nil _ _ _,Sl.nil _ _ _,adt,Sl.nil _ _ _,fp.nil _ _ _,fp.nil _ _ _⟩;have sR:d.ids.length<=80:=by rw[ed.1];exact acK
 have Br:(gf (jl d.x.aO d.x.mw d.ids)).length<=2^33:=by have:=afn d.x.aO d.x.mw d.ids;omega
 obtain⟨r,hr⟩: ∃r,r=jl d.x.aO d.x.mw d.ids:=⟨_,rfl⟩;have CD:r=jl m.aO (n3.A b).x.mw (n3.A b).ids:=by rw[e3,hr,ht6]
 rw[<-f3.1,<-f3.2.1];repeat' refine aJ ?_;intros
 refine s4.FP (XK:=ads n m) (ET (r:=jl d.x.aO d.x.mw d.ids) (vp:=.slice q1 q2 q3) s4.h s4.x (by rw[f3.2.2.1,f3.2.2.2.1];exact jL) dF (DV rfl rfl rfl) Br) kQ (λv w5 X5 mE n5 s5 ⟨k1,k2,k3⟩ m5=>?_) λm' Tz=>⟨b,i,y,hw,h1,?_⟩;case refine_2=>
  have e:jy n3 (jl d.x.aO d.x.mw d.ids)=jy n (jl m.aO ((n.A b).x.mw.later m.aS) (n.A b).ids):=by unfold jy;rw[f3.2.2.1,f3.2.2.2.1,ht6,ed.1,ed.2.1]
  unfold MK at Tz⊢;rw[e] at Tz;exact Tz
 rw[<-hr] at k1 k2 k3;obtain⟨z,hz⟩: ∃z,z=(jy n3 r).2.2:=⟨_,rfl⟩;rw[<-hz] at k1 k2;subst k2;have e5:n5.A b=d/\n5.nb=n3.nb/\n5.c=n.c/\n5.cl=n.cl/\n5.ra=[]/\n5.rm=[]/\n5.ex=n.ex:=by rw[k3];exact⟨e3,rfl,f3.2.2.2.2.1,f3.2.2.2.2.2.1,f3.2.2.2.2.2.2.1.trans hk.ra,f3.2.2.2.2.2.2.2.1.trans hk.rm,f3.2.2.2.2.2.2.2.2.1⟩
 have Bu:n5.dI b:=by rw[k3];exact rD
 clear hs ha ny dF;have hs:=s5.rf;obtain⟨ha,-⟩:=s5.va Bu;rw[e5.1] at ha;have QH:=adt.mv m5;rw[<-e5.2.1];have tS: ∀{n':bE},VZ n3 m.aO d r n'->V1 n m n':=λ{n'} h=>.inr (.inr ⟨b,i,y,iq,_,_,n3,hw,by rw[sk,hd],.inr ⟨h1,by unfold QG;rw[<-CD,e3];exact h⟩⟩);by_cases Ky:z=0;case neg=>
  repeat' refine aJ ?_;intros
  refine s5.call (zF (code:=z) s5.h s5.x Bu (by rw[e5.1,hd];exact CB.pq) (by rw[e5.2.2.2.2.1];simp) (by rw[e5.2.2.1];exact hi) (by rw[e5.2.2.2.2.2.1,e5.1];simp;omega)) kQ λv w6 X6 sy n6 s6 ⟨oB,A3,yL,q6,hl6⟩ _=>?_;have s7:=s6.to (Hv (e':=n.ex) λb' h'=>by rw[q6];show b'∈b::n5.ex;rw[e5.2.2.2.2.2.2];exact .tail _ h');exact s7.xO λ_ _=>tS (.inl ⟨by rw[<-hz];exact k1,by rw[<-hz];exact Ky,oB,A3,yL,by
   rw[q6,e5.1,if_pos (show d.x.pre=true by rw[ed.2.1];exact hw.pre),ht6,e5.2.2.1,<-hz,k3,f3.2.2.2.2.1,f3.2.2.2.2.2.2.2.2.1],by rw[hl6,e5.1,if_pos (show d.x.pre=true by rw[ed.2.1];exact hw.pre)];simp[k3]⟩)
 have wT:=(s5.h.act Bu).2.2.1;rw[e5.1] at wT;repeat' refine aJ ?_;intros
 refine cd (AL ha (λ_ h=>h) (wT.sl.mono (s5.sub _ iy.1)) (by rw[ed.2.2.2.2];have:=CB.sn;omega)) kQ hs.has ?_;rintro vr wa6 w6 X6 ⟨ys,_,AY⟩ XA K8 qm;have s6:=s5.since qm;replace QH:=QH.mv (qm.gU (s5.sub 4));have ovr:=AY.sl.one;obtain⟨r1,r2,r3,rfl⟩:=AY.sl.form;clear hs AY qm ha wT s5;have hs:=s6.rf;repeat' refine ak ?_;intros
 refine s6.call (Cg (code:=0) (t:=.zero) (st:=d.x.mw) (on:=false) (vs:=.slice r1 r2 r3) s6.h s6.x Bu ovr (by rw[e5.2.2.2.2.1];simp)) kQ λv w7 X7 Dd n7 s7 ⟨oB,q7⟩ m7=>?_;replace QH:=QH.mv m7;rw[show n5.nb=n7.nb by rw[q7]];clear hs;repeat' refine ak ?_;intros
 refine s7.call (Ob (r:=jl d.x.aO d.x.mw d.ids) (vp:=.slice q1 q2 q3) s7.h s7.x QH (by show d.ids.length<=_;omega) (by rw[q7];show n5.cl.length<=_;rw[e5.2.2.2.1];have:=hk.cl;have:=hk.mM;omega)) kQ λv w8 X8 OK n8 s8 ⟨bx,DE,v2,hv,fY,q8⟩ m8=>?_;subst hv;rw[<-hr] at q8;rw[show n7.nb=n8.nb by rw[q8]];have eC:n8.C bx=⟨r,.slice q1 q2 q3,v2,r.parts,false⟩:=by rw[q8];exact if_pos rfl
 have erp:r.parts=d.ids:=by rw[hr];rfl
 refine s8.call (HG (b:=bx) s8.h s8.x (by rw[q8];simp) (by rw[q8,q7];show 1<=n5.c.id/\n5.c.id<=2;rw[e5.2.2.1];exact hi) (by rw[eC,q8,q7];show n5.rm.length+r.parts.length<=_;rw[e5.2.2.2.2.2.1,erp];simp;omega)) kQ λv w9 X9 lU n9 s9 ⟨A3,yL,q9,hl9⟩ _=>?_;have QI:=s9.to (Hv (e':=n.ex) λb' h'=>by rw[q9,q8,q7];show b'∈b::n5.ex;rw[e5.2.2.2.2.2.2];exact .tail _ h')
 skip
 exact QI.xO λ_ _=>tS (.inr ⟨by rw[<-hz];exact Ky,bx,DE,.slice q1 q2 q3,v2,oB,.slice r1 r2 r3,ovr,by rw[q7] at fY;show bx ∉ n3.cl;rw[k3] at fY;exact fY,A3,yL,by
  rw[q9,eC,q8,q7,e5.1,ht6,show r.aO=m.aO by rw[hr];exact ht6,erp,k3,f3.2.2.2.2.2.2.2.2.1],by rw[hl9,eC,q8,q7,k3];simp[XI,erp]⟩)
end
end Go.Proofs.YtgfijddlkhkopaaGreat