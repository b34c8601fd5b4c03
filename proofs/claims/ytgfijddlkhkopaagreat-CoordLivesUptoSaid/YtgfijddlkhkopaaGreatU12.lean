/- Part 12 of the proof. -/
import Derived.Test.YtgfijddlkhkopaaGreatProg
import Derived.Recover
import Derived.KernelRfl
import Derived.Tactics
import Derived.Shelf.Abstract
import Derived.Test.YtgfijddlkhkopaaGreatU11
set_option linter.all false
open List renaming mem_singleton → aw, length_map → ah, length_append → aa, length_drop → bR, mem_of_getElem? → aA, map_append → aD, append_nil → gn, append_assoc → ao, drop_drop → il, map_cons → bm, length_take → aB, mem_of_mem_drop → da, getElem?_take_of_lt → fS, map_drop → ql, drop_left' → jX, map_take → tK, getElem?_eq_getElem → aS, map_map → bz, map_id → wL, mem_cons_of_mem → bG, length_cons → aK, getElem?_map → cL, map_congr_left → ee, cons_append → jW, nil_append → cC, take_of_length_le → az, dropLast_concat → jF, length → ba, take_left' → ig, flatten_cons → cW, mem_of_mem_take → dI, getElem?_drop → gq, cons_lt_cons_iff → wM, append_left_lt → yG, pairwise_map → Ap, extract_eq_take_drop → tE, mem_append_left → bM
open Nat renaming le_refl → au, le_trans → ad, zero_le → aq, pow_succ → rG, pow_le_pow_right → rH, mul_one → AY, min_eq_left → ky, lt_of_lt_of_le → av, mod_eq_of_lt → fu, lt_of_not_le → AZ, min_le_right → A3
open UInt8 renaming ofNat → nB, toNat_ofNat' → yH
open BitVec renaming ofInt → aC, ofInt_natCast → xE, toNat_ofNat → iI
open Option.some renaming inj → bU, injEq → aj
open Go.Instr renaming sliceAt → bJ, alloc → fZ
open Bool renaming false_ne_true → oU
open Option renaming isSome_some → tv, map_some → aY
open ByteArray renaming size_extract → pW, ext → DH, data_extract → vK
open Array renaming replicate → cZ, toList_extract → xF
namespace Go.Proofs.YtgfijddlkhkopaaGreat
open Go.Proofs.Tryz renaming prog → pg
open Go.aL
set_option maxRecDepth 100000
set_option maxHeartbeats 4000000
theorem aaU:Idle pg 132:=by
 refine⟨by kernel_rfl,λgJ w=>?_⟩;refine callsD_of_wpS Tryz.func132 rfl λc₀ cs hu=>?_;rw[Tryz.ntmps132];have gd:12<=(gJ++cZ (12-gJ.size) undef).size:=by simp;omega
 generalize gJ++cZ (12-gJ.size) undef=tm at gd;have h2:2<tm.size:=by omega
 have h5:5<tm.size:=by omega
 have h7:7<tm.size:=by omega
 apply wpS_seq;apply wpS_region;simp[wpOpsS,go_sem,recoverD,hu,Exit.thenS];refine wpS_of_wp (wp_block ?_);apply wp_seq;apply wp_region;simp[wpOps,go_sem,Exit.then,h2,h5,h7];refine .inl (wp_cond_true ?_ ?_)
 ·simp[Act.eval,h2,h5,h7]
 apply wp_region;simp[wpOps,go_sem,Exit.then,Exit.inBlock,h2,h5,h7];refine .inl ?_;cases c₀;simp_all [bodyPostS,results,Tryz.results132]
set_option maxRecDepth 100000
set_option maxHeartbeats 1000000
attribute [local irreducible] un jn jk iA ld1 su st1 kT kU oY rE pH Jp Ew gR gu aX lR lS eW eV eU eC eF gE mR fin iE bu dG vS NO Jq Jr Js Jt Ju NP NR NS NT FN FO Jv Jw Jx NU NV NW
variable {bs : List Nat} {X : XS} {w : World}
theorem Xz {a b:Value} (ha:Sl w X 1 a (bs.map U1)) (hb:Sl w X 1 b (bs.map U1)) (ct:bs≠[]):Ct pg 137 #[a,b] w X nX λv _ _=>v=B true:=by
 intro w0 hk;replace ha:=ha.mv hk.cr;replace hb:=hb.mv hk.cr;have aqm:bs.map U1≠[]:=λe=>ct (by simpa using e);have key: ∀{w X a},Sl w X 1 a (bs.map U1)-> ∃g o cap,a= .slice (some ⟨g,o,none⟩) bs.length cap/\Cells w X g o (bs.map λx:Nat=>Value.int .u8 x):=λh=>by
  obtain⟨_,_,base,cap,rfl,hc,_⟩:=h;obtain⟨g,o,rfl,iN⟩:=hc aqm;rw[afr] at iN;exact⟨g,o,cap,by grind,iN⟩
 obtain⟨g1,o1,c1,rfl,BE⟩:=key ha;obtain⟨g2,o2,c2,rfl,qi⟩:=key hb;refine Sx.1 λhs=>?_;refine Sy (e:=5) rfl BE kQ kQ kQ hs.has λw1 X1 ax=>?_;replace hs:=hs.trans ax;refine Sy (e:=5) rfl (qi.mv ax.mv) kQ kQ kQ hs.has λw2 X2 bB=>?_;replace hs:=hs.trans bB;repeat' first|refine ak ?_;intros|refine cQ ?_ ?_<;>intros
 ·exact bS hs λwa aI=>rfl
 ·exact absurd rfl zQ
theorem adh:Tryz.f79.results= #[.cell 2 73,.cell 3 37]:=by kernel_rfl
variable {e : Int} {cs : List Value} {eb xb : Nat}
theorem K3 {tmps:Array Value} (h1:tmps[2]? =some (ptr xb 0)) (h2:tmps[3]? =some (ptr eb 0)) (hx:aH w X xb cs 73) (hl:cs.length=29) (he:aH w X eb [I e] 37):
  (results Tryz.f79 tmps).run pg w= .ok (.tuple #[.agg cs.toArray,I e]) w:=by
 have l1:(loadVar 73 ⟨xb,0,none⟩).run pg w= .ok (.agg cs.toArray) w:=by
  have hq:(match pg.underlying 73 with|some (.struct _)=>true|_=>false)=true:=by kernel_rfl
  split at hq
  ·rename_i fs hu;refine run_loadVar_row w xb _ _ cs.toArray (0,0) _ hx.2 hu rfl ?_;rw[List.size_toArray,hl];kernel_rfl
  ·cases hq
 have l2:(loadVar 37 ⟨eb,0,none⟩).run pg w= .ok (I e) w:=by
  have hc:w.cell? ⟨eb,0,none⟩=some (I e):=by unfold World.cell?;rw[he.2];rfl
  have WN:(isAgg 37).run pg w= .ok false w:=run_isAgg_plain (d:=.int .i64) kQ rfl w;simp[loadVar,WN,run_load,hc]
 unfold results;rw[adh];simp[h1,h2,asAddr,l1,l2]
variable {R : Ending -> World -> Prop}
theorem Vp (hx:aH w X xb cs 73) (hl:cs.length=29) (he:aH w X eb [I e] 37) (hR:R (.returned (.tuple #[.agg cs.toArray,I e])) w):
  HC pg Tryz.f79 R [ptr xb 0,ptr eb 0,.func (.func 132) #[] #[ptr xb 0,ptr eb 0]] .returning w:=by
 refine⟨[ptr xb 0,ptr eb 0],132,#[ptr xb 0,ptr eb 0],rfl,by kernel_rfl,?_⟩;refine(aaU.2 _ w).mono ?_;rintro e' u' w' ⟨⟨x,rfl⟩,rfl,rfl⟩;refine⟨x,_,rfl,rfl,λtmps ht=>K3 (ht 0 2 ?_) (ht 1 3 ?_) hx hl he,hR⟩
 ·rfl
 rfl
variable {N : Value -> World -> XS -> Prop} {t : TypeId} {P : Program}
theorem ahK {m:Bool} (hX: ∀k,X k->k<w.heap.size) (hz:(P.info? t).bind (·.zero)=some (I 0))
  (n: ∀b w' X',w.heap.size<=b->ai X w X' w'->aH w' X' b [I 0] t->N (ptr b 0) w' X'):eV P R X w m (fZ t true (.tuple #[])) N:=by
 unfold eV eW;intro wa hk;unfold jP;have XA: ∀w,(zeroValue t).run P w= .ok (I 0) w:=by
  intro w;cases hi:P.info? t with
  |none=>grind
  |some inf=>
   have uC:inf.zero=some (I 0):=by simpa [hi] using hz
   simp[zeroValue,typeInfo,hi,uC]
 have hr:(fZ t true (.tuple #[])).run P wa= .ok (ptr wa.heap.size 0) (wa.alloc (.cells #[I 0] t)):=by simp[fZ,XA,newVar,newRow,Value.cells]
 simp only[vS,Sem.run_bind,hr,Result.andThen_ok,Sem.run_pure];have hx:Ext wa (wa.alloc (.cells #[I 0] t)):=Ext.alloc _ _;exact⟨Step.eZ hx,n _ _ _ hk.size (ai.eZ hX hk hx) ⟨.inr ⟨au _,by simp⟩,by simpa using heap_alloc_new wa _⟩⟩
variable {z : Int} {a c k : Nat}
section
variable {N : Value -> Prop}
theorem XB (hz:z=k) (hk:k<=24) (hc:c<256) (h:N (.int .u32 ((c*2^k:Nat):Int))):aX P X w (binOp .shl t (.int .u32 (IntKind.u32.wrap (c:Int))) (.int .u64 z)) N:=
 Sh zQ (by
  have h1:min z.toNat IntKind.u32.bits=k:=by
   show min z.toNat 32=k
   omega
  have h2:c*2^k<4294967296:=by
   have h3:2^k<=2^24:=rH dQ hk;have h4:c*2^k<=255*2^24:=Nat.mul_le_mul zQ h3;omega
  have e:IntKind.u32.wrap (IntKind.u32.wrap (c:Int)*2^min z.toNat IntKind.u32.bits)=((c*2^k:Nat):Int):=by
   rw[h1,wrap32,wrap32,show(c:Int) % 4294967296=c by omega];have h5:(c:Int)*2^k=((c*2^k:Nat):Int):=by simp
   rw[h5];omega
  rw[e];exact h)
theorem adi (hk:k<=24) (ha:a<2^k) (hc:c<256) (h:N (.int .u32 ((a+c*2^k:Nat):Int))):aX P X w (binOp .or t (.int .u32 (a:Int)) (.int .u32 ((c*2^k:Nat):Int))) N:=
 Qz (by
  have h3:2^k<=2^24:=rH dQ hk;have h4:c*2^k<=255*2^24:=Nat.mul_le_mul zQ h3;have e:IntKind.u32.wrap (aC IntKind.u32.bits (a:Int)|||aC IntKind.u32.bits ((c*2^k:Nat):Int)).toNat=((a+c*2^k:Nat):Int):=by
   rw[wrap32];have h1:(aC 32 (a:Int))=BitVec.ofNat 32 a:=by rw[xE]
   have h2:(aC 32 ((c*2^k:Nat):Int))=BitVec.ofNat 32 (c*2^k):=by rw[xE]
   show((aC 32 (a:Int)|||aC 32 ((c*2^k:Nat):Int)).toNat:Int) % 4294967296=_
   rw[h1,h2,BitVec.toNat_or,iI,iI,fu (by omega:a<2^32),fu (by omega:c*2^k<2^32),afp ha];omega
  rw[e];exact h)
end
def abS: ∃g:List Nat->Nat,∀l,g l=l[0]?.getD 0+l[1]?.getD 0*2^8+l[2]?.getD 0*2^16+l[3]?.getD 0*2^24:=⟨_,λ_=>rfl⟩
noncomputable def iS:List Nat->Nat:=Classical.choose abS
theorem HD (l:List Nat):iS l=l[0]?.getD 0+l[1]?.getD 0*2^8+l[2]?.getD 0*2^16+l[3]?.getD 0*2^24:=Classical.choose_spec abS l
theorem Ir (n:Nat) (h:n<4294967296) (l:List Nat):iS (tW n++l)=n:=by
 rw[HD];unfold tW;simp;omega
variable {l : List Nat}
theorem GJ {vb:Value} (h:Sl w X 1 vb (l.map U1)) (h4:4<=l.length) (cB: ∀b∈l,b<256):Ct pg 253 #[vb] w X nX λv wa w'=>v= .int .u32 (iS l):=by
 intro w0 hk;replace h:=h.mv hk.cr;have hlen:=h.gO;obtain⟨b0,b1,b2,b3,r,rfl⟩: ∃b0 b1 b2 b3 r,l=b0::b1::b2::b3::r:=by
  match l,h4 with
  |b0::b1::b2::b3::r,_=>exact⟨_,_,_,_,_,rfl⟩
 have x0:(b0::b1::b2::b3::r)[0]? =some b0:=rfl;have x1:(b0::b1::b2::b3::r)[1]? =some b1:=rfl;have x2:(b0::b1::b2::b3::r)[2]? =some b2:=rfl;have x3:(b0::b1::b2::b3::r)[3]? =some b3:=rfl;have y0:=cB b0 sQ;have y1:=cB b1 sQ;have y2:=cB b2 sQ;have y3:=cB b3 sQ;refine XC.1 λhs=>?_;have w8:IntKind.u32.wrap (b0:Int)=b0:=by rw[wrap32];omega
 repeat' first|refine ak ?_;intros|(with_reducible refine XB (k:=8) rfl zQ y1 ?_)
 rw[w8];refine adi (k:=8) zQ zQ y1 ?_;repeat' first|refine ak ?_;intros|(with_reducible refine XB (k:=16) rfl zQ y2 ?_)
 refine adi (k:=16) zQ zQ y2 ?_;repeat' first|refine ak ?_;intros|(with_reducible refine XB (k:=24) rfl zQ y3 ?_)
 refine adi (k:=24) zQ zQ y3 ?_
 skip
 exact bS hs λwa aI=>by rw[HD];rfl
noncomputable def lV (b:List Nat):Option (List Nat):=
 if b.length<12\/262144<iS b\/iS (b.drop 4)≠CO (b.take 4)\/b.length-12<iS b then none
 else if iS (b.drop (8+iS b))≠CO ((b.drop 8).take (iS b))then none
 else some ((b.drop 8).take (iS b))
variable {b p : List Nat}
theorem QB (h:lV b=some p):p.length+12<=b.length:=by
 unfold lV at h;split at h
 ·cases h
 ·rename_i h1;simp only[not_or,Nat.not_lt] at h1;split at h
  ·cases h
  grind
theorem aaV (h: ¬(b.length<12\/262144<iS b\/iS (b.drop 4)≠CO (b.take 4)\/b.length-12<iS b)) (h2:iS (b.drop (8+iS b))=CO ((b.drop 8).take (iS b))):lV b=some ((b.drop 8).take (iS b)):=by
 unfold lV
 grind
theorem xG (h:b.length<12\/262144<iS b\/iS (b.drop 4)≠CO (b.take 4)\/b.length-12<iS b):lV b=none:=by
 unfold lV
 grind
theorem adj (h2:iS (b.drop (8+iS b))≠CO ((b.drop 8).take (iS b))):lV b=none:=by
 unfold lV
 grind
noncomputable def jg (b:List Nat):List (List Nat)×Nat:=
 match h:lV b with
 |none=>([],0)
 |some p=>let r:=jg (b.drop (p.length+12));(p::r.1,p.length+12+r.2)
termination_by b.length
decreasing_by
 have:=QB h
 grind
theorem afv (hp:p.length<=262144):lV (dm p++l)=some p:=by
 have e1:iS (dm p++l)=p.length:=by
  unfold dm;simp only[ao];exact Ir _ zQ _
 have e2:(dm p++l).drop 4=tW (CO (tW p.length))++(p++(tW (CO p)++l)):=by
  unfold dm;simp only[ao];exact jX (MN _)
 have e3:(dm p++l).take 4=tW p.length:=by
  unfold dm;simp only[ao];exact ig (MN _)
 have e4:(dm p++l).drop 8=p++(tW (CO p)++l):=by
  rw[show 8=4+4 from rfl,<-il,e2];exact jX (MN _)
 have hlen:(dm p++l).length=p.length+12+l.length:=by rw[aa,qG]
 unfold lV;rw[e1,e2,e3,hlen,Ir _ (afw _),if_neg oQ,<-il,e4,List.drop_left,Ir _ (afw _),List.take_left,if_neg sQ]
theorem adk (hp:p.length<=262144):jg (dm p++l)=(p::(jg l).1,p.length+12+(jg l).2):=by
 have h:=afv (l:=l) hp;have hd:(dm p++l).drop (p.length+12)=l:=jX (qG p);rw[jg]
 grind
theorem K4: ∀(ps:List (List Nat)) (l:List Nat),(∀p∈ps,p.length<=262144)->jg ((ps.map dm).flatten++l)=(ps++(jg l).1,(ps.map dm).flatten.length+(jg l).2)
 |[],l,_=>by simp
 |p::ps,l,h=>by
  rw[bm,cW,ao,adk (h p sQ),K4 ps l λq hq=>h q (bG _ hq),aa,qG]
  grind
theorem DW (h:lV l=none):jg l=([],0):=by grind [jg]
theorem aaW (h:l.length<12):jg l=([],0):=DW (by unfold lV;grind)
variable {rows : List (List Value)} {i j : Nat} {v : Value}
theorem Ue {z':Int} {N:Value->Prop} (h:Sl w X 1 v rows) (hz:z=i) (uC:z'=j) (yD:i<=j) (hj:j<=rows.length) (ht:P.underlying t=some (.slice (P.elem t))) (hs:(P.info? (P.elem t)).map (·.size)=some 1)
  (n: ∀v',Sl w X 1 v' ((rows.drop i).take (j-i))->N v'):aX P X w (bJ t v (some (.int .i64 z)) (some (.int .i64 z')) none) N:=by
 subst hz;subst uC;obtain⟨h1,h2,base,cap,rfl,hc,hb,XD,iC⟩:=h;have hq: ∃inf,P.info? (P.elem t)=some inf/\inf.size=1:=by
  cases hq:P.info? (P.elem t)with
  |none=>simp[hq] at hs
  |some inf=>exact⟨inf,rfl,by simpa [hq] using hs⟩
 obtain⟨inf,hq,gd⟩:=hq;have hll:((rows.drop i).take (j-i)).length=j-i:=by rw[aB,bR];omega
 have nQ: ∀wa:World,(bJ t (.slice base rows.length cap) (some (.int .i64 (i:Int))) (some (.int .i64 (j:Int))) none).run P wa= .ok (sliced base i j cap 1) wa:=λwa=>by
  rw[run_sliceAt_slice wa t _ _ _ _ ht,run_slice_lh wa t _ _ cap ht .i64 .i64 i j zQ zQ zQ];simp[sizeOf,typeInfo,hq,gd]
 refine bF nQ (n _ ?_);refine⟨λr hr=>h1 r (da (dI hr)),by omega,_,cap-i,by unfold sliced;rw[hll],λct=>?_,λAl=>?_,by omega,by omega⟩
 ·have pK:i<j:=by
   refine AZ λhle=>ct ?_;have:j-i=0:=by omega
   rw[this];simp
  obtain⟨b,o,rfl,iN⟩:=hc (by intro e;rw[e] at hj;simp at hj;omega);refine⟨b,o+i,?_,?_⟩
  ·rw[if_neg zQ];simp only[aY,aj,AY];unfold Addr.add;split
   ·rename_i h0;rw[h0];rfl
   ·rfl
  ·have hr: ∀r∈rows.drop i,r.length=1:=λr hr=>h1 r (da hr);rw[aL.lM (j-i) hr,aL.CI i h1,AY,AY];obtain⟨hx,c,ty,fr,dT,BF⟩:=iN;refine⟨hx,c,ty,fr,dT,λq u hu=>?_⟩;have hq:=(List.getElem?_eq_some_iff.1 hu).1;rw[aB] at hq;rw[fS zQ,gq] at hu;have:=BF _ _ hu
   rwa [<-Nat.add_assoc] at this
 ·split at Al
  ·have:=hb Al;omega
  ·have:base=none:=by simpa using Al
   have:=hb this;omega
theorem OZ {N:Value->Prop} (h:Sl w X k v rows) (hz:z=i) (hi:i<=rows.length) (ht:P.underlying t=some (.slice (P.elem t))) (hs:(P.info? (P.elem t)).map (·.size)=some k)
  (n: ∀v',Sl w X k v' (rows.drop i)->N v'):aX P X w (bJ t v (some (.int .i64 z)) none none) N:=by
 subst hz;obtain⟨h1,h2,base,cap,rfl,hc,hb,XD,iC⟩:=h;have hq: ∃inf,P.info? (P.elem t)=some inf/\inf.size=k:=by
  cases hq:P.info? (P.elem t)with
  |none=>simp[hq] at hs
  |some inf=>exact⟨inf,rfl,by simpa [hq] using hs⟩
 obtain⟨inf,hq,gd⟩:=hq;have nQ: ∀wa:World,(bJ t (.slice base rows.length cap) (some (.int .i64 (i:Int))) none none).run P wa= .ok (sliced base i rows.length cap k) wa:=λwa=>by
  rw[run_sliceAt_slice wa t _ _ _ _ ht,run_slice_l wa t _ _ cap ht .i64 i zQ zQ];simp[sizeOf,typeInfo,hq,gd]
 refine bF nQ (n _ ?_);refine⟨λr hr=>h1 r (da hr),by rw[bR];omega,_,cap-i,by unfold sliced;rw[bR],λct=>?_,λAl=>?_,by rw[bR];omega,by omega⟩
 ·have pK:i<rows.length:=by
   refine AZ λhle=>ct (List.drop_of_length_le hle)
  obtain⟨b,o,rfl,iN⟩:=hc (by intro e;rw[e] at pK;simp at pK);refine⟨b,o+i*k,?_,?_⟩
  ·rw[if_neg zQ];simp only[aY,aj];unfold Addr.add;split
   ·rename_i h0;rw[h0];rfl
   ·rfl
  ·rw[aL.CI i h1];obtain⟨hx,c,ty,fr,dT,BF⟩:=iN;exact⟨hx,c,ty,fr,dT,λj v hj=>by rw[gq] at hj;have:=BF _ _ hj;rwa [<-Nat.add_assoc] at this⟩
 ·split at Al
  ·have:=hb Al;omega
  ·have:base=none:=by simpa using Al
   have:=hb this;omega
theorem akp (h: ∀b∈l,b<256):iS l<4294967296:=by
 have g: ∀i:Nat,l[i]?.getD 0<256:=λi=>by
  cases hq:l[i]? with
  |none=>simp
  |some x=>simpa using h x (aA hq)
 have:=g 0;have:=g 1;have:=g 2;have:=g 3;rw[HD];omega
theorem al5 (l:List Nat):U4 (K5 l)= .int .u32 ((CO l:Nat):Int):=by rw[QC]
theorem QD {q:List Nat} (h:lV b=some q):jg b=(q::(jg (b.drop (q.length+12))).1,q.length+12+(jg (b.drop (q.length+12))).2):=by
 rw[jg];split
 ·rename_i h2;rw[h] at h2;cases h2
 ·rename_i q' h2;rw[h] at h2;cases h2;rfl
theorem XE {v0:Value} (h:Sl w X 1 v0 (bs.map U1)) (hb:bs.length<=2^30) (cB: ∀b∈bs,b<256):
  Ct pg 180 #[v0] w X nX λv wa w'=> ∃va,∃rs:List (Value×List Nat),v= .tuple #[va,I ((jg bs).2:Nat)]/\rs.map Prod.snd=(jg bs).1/\Own w' (made wa w') wa.heap.size 151 1 va (rs.map λr=>[r.1])/\
   ∀r∈rs,Own w' (made wa w') wa.heap.size 5 1 r.1 (r.2.map U1):=by
 intro w0 hk;replace h:=h.mv hk.cr;obtain⟨lb,ln,lc,rfl⟩:=h.form;refine Vq.1 λhs=>?_;refine ij (Q:=λK=> ∀va w X,∀rs:List (Value×List Nat),ai (bK w0) w0 X w->rs.map Prod.snd=(jg bs).1->Own w X w0.heap.size 151 1 va (rs.map λr=>[r.1])->(∀r∈rs,Own w X w0.heap.size 5 1 r.1 (r.2.map U1))->K va (I ((jg bs).2:Nat)) w X) ?_ λK hK=>?_
 ·intro va w1 X1 rs ax he ho hr;exact bS ax λwa aI=>⟨va,rs,rfl,he,(ho.kp aI).tight,λr h=>((hr r h).kp aI).tight⟩
 ·refine gz (λm a b w X=> ∃(p:Nat) (rs:List (Value×List Nat)),a=I p/\m=bs.length-p/\p<=bs.length/\ai (bK w0) w0 X w/\jg bs=(rs.map Prod.snd++(jg (bs.drop p)).1,p+(jg (bs.drop p)).2)/\Own w X w0.heap.size 151 1 b (rs.map λr=>[r.1])/\(∀r∈rs,Own w X w0.heap.size 5 1 r.1 (r.2.map U1))/\rs.length<=p) bs.length ⟨0,[],rfl,rfl,aq _,hs,by simp,Own.nil _ _ _ _ _,by simp,au _⟩ ?_;clear hs;rintro m a acc w1 X1 ⟨p,rs,rfl,rfl,hp,hs,Uf,ho,hr,qh⟩;have oA:=h.mv hs.mv;have QE:lV (bs.drop p)=none-> ∀w X,ai X1 w1 X w->K acc (I p) w X:=λhn w X Ar=>by
   rw[DW hn] at Uf;have:=hK acc w X rs (hs.trans Ar) (by rw[Uf];simp) (ho.since Ar) λr h=>(hr r h).since Ar;rw[Uf] at this;exact this
  by_cases xH:bs.length-p<12
  ·repeat' refine aJ ?_;intros
   exact QE (xG (.inl (by rw[bR];exact xH))) _ _ (ai.fG hs.has)
  ·repeat' refine aJ ?_;intros
   refine OZ oA rfl (by rw[ah];exact hp) kQ kQ λv1 kW=>?_;rw[<-ql] at kW;have yA: ∀b∈bs.drop p,b<256:=λb hb=>cB b (da hb);have AU:(bs.drop p).length=bs.length-p:=bR;refine dS (GJ kW zQ yA) kQ hs.has λw2 X2 bB=>?_;replace hs:=hs.trans bB;have kq:=ho.since bB;have jD: ∀r∈rs,Own w2 X2 w0.heap.size 5 1 r.1 (r.2.map U1):=λr h=>(hr r h).since bB;have hg4:iS (bs.drop p)<4294967296:=akp yA;have hwn:IntKind.i64.wrap ((iS (bs.drop p):Nat):Int)=(iS (bs.drop p):Nat):=Wd zQ;repeat' first|refine ak ?_;intros|refine cQ ?_ ?_<;>intros
   ·repeat' first|refine ak ?_;intros|with_reducible apply cD
    exact QE (xG (.inr (.inl zQ))) _ _ bB
   ·have adl:=h.mv hs.mv;refine OZ adl (i:=p+4) zQ (by rw[ah];omega) kQ kQ λv2 rD=>?_;rw[<-ql] at rD;repeat' refine ak ?_;intros
    refine Ue adl (i:=p) (j:=p+4) rfl zQ zQ (by rw[ah];omega) kQ kQ λv3 Hr=>?_;rw[<-ql,<-tK] at Hr;refine ij (Q:=λK=> ∀w X,ai X2 w2 X w->K (.int .u32 ((iS (bs.drop (p+4)):Nat):Int)) w X) ?_ λK1 hK1=>?_
    ·intro w3 X3 dp;refine ij (Q:=λK=> ∀w X,ai X2 w2 X w->K (.int .u32 ((CO ((bs.drop p).take (p+4-p)):Nat):Int)) w X) ?_ λK2 hK2=>?_
     ·intro w4 X4 fX;have al6:=adl.mv fX.mv;have e4:(bs.drop p).drop 4=bs.drop (p+4):=il;have e5:p+4-p=4:=by omega
      rw[e5];repeat' first|refine ak ?_;intros|refine cQ ?_ ?_<;>intros
      ·rename_i ct;exact QE (xG (.inr (.inr (.inl (by rw[e4];omega))))) _ _ (bB.trans fX)
      ·rename_i heq QF;exact QE (xG (.inr (.inr (.inr (by rw[AU];omega))))) _ _ (bB.trans fX)
      ·rename_i P2 heq QF;rw[hwn] at QF P2⊢;have ajD:((bs.drop (p+8)).take (iS (bs.drop p))).length=iS (bs.drop p):=by
        have h8:iS (bs.drop p)<=bs.length-(p+8):=by omega
        rw[aB,bR];exact ky h8
       refine Ue al6 (i:=p+8) (j:=p+8+iS (bs.drop p)) zQ zQ zQ (by rw[ah];omega) kQ kQ λv5 hv5=>?_;rw[<-ql,<-tK,show p+8+iS (bs.drop p)-(p+8)=iS (bs.drop p)by omega] at hv5;repeat' refine ak ?_;intros
       refine OZ al6 (i:=p+8+iS (bs.drop p)) zQ (by rw[ah];omega) kQ kQ λv6 hv6=>?_;rw[<-ql] at hv6;refine dS (GJ hv6 (by rw[bR];omega) λb hb=>cB b (da hb)) kQ fX.has λw5 X5 sS=>?_;refine dS (Cq (hv5.mv sS.mv)) kQ sS.has λw6 X6 tF=>?_;rw[al5];have e8:(bs.drop p).drop 8=bs.drop (p+8):=il;have e9:(bs.drop p).drop (8+iS (bs.drop p))=bs.drop (p+8+iS (bs.drop p)):=by rw[il];congr 1;omega
       have XF:=(fX.trans sS).trans tF;have gv: ¬((bs.drop p).length<12\/262144<iS (bs.drop p)\/iS ((bs.drop p).drop 4)≠CO ((bs.drop p).take 4)\/(bs.drop p).length-12<iS (bs.drop p)):=by
        rw[e4,AU];omega
       have oO:=hs.trans XF;have ho6:=kq.since XF;have A4: ∀r∈rs,Own w6 X6 w0.heap.size 5 1 r.1 (r.2.map U1):=λr h=>(jD r h).since XF;have adm:=hv5.mv (sS.trans tF).mv;clear hs;have hs:=oO;clear kq jD ho hr;repeat' first|refine ak ?_;intros|refine cQ ?_ ?_<;>intros|(with_reducible apply adb);(case hX=>exact hs.has);(case hu=>kernel_rfl);(case hz=>kernel_rfl);intro acc w X ax ho;replace hs:=hs.trans ax
       ·rename_i ct;exact QE (adj (by rw[e9,e8];omega)) _ _ (bB.trans XF)
       ·rename_i aqn;have FW:=aaV gv (by rw[e9,e8];omega);rw[e8] at FW;clear aqn gv heq;have al7:=ajD;obtain⟨pl,vJ⟩: ∃pl,(bs.drop (p+8)).take (iS (bs.drop p))=pl:=⟨_,rfl⟩;rw[vJ] at FW adm al7;clear vJ ajD;refine qj ho ax XF.has kQ (adm.mv ax.mv) (λr hr u hu=>?_) oQ oQ λv8 w8 X8 kV A5 hc8 XG=>?_
        ·obtain⟨x,_,rfl⟩:=List.mem_map.1 hr;simp at hu;subst hu;rfl
        have Ar:=oO.trans kV;have BG:=ho6.since kV;refine MO BG Ar (λ_ h=>h) kQ rfl A5.sl.one oQ oQ λva9 w9 X9 Sz Ug hc9 asJ=>?_;have Og: ∀{v:Value} {rows:List (List Value)},Own w8 X8 w0.heap.size 5 1 v rows->Own w9 X9 w0.heap.size 5 1 v rows:=λhv=>hv.dX hc9 λg hg dT=>by
         obtain⟨c1,e1⟩:=hv.ow.tag hg;obtain⟨c2,e2⟩:=BG.ow.tag dT;rw[e1] at e2;simp at e2
        clear hs;have hs:=Sz;repeat' refine ak ?_;intros
        refine fB (bs.length-(p+(iS (bs.drop p)+12))) zQ ⟨p+(iS (bs.drop p)+12),rs++[(v8,pl)],by simp,rfl,by omega,Sz,?_,?_,λr hr=>?_,?_⟩
        ·rw[QD FW,al7,il] at Uf;rw[Uf];simp;omega
        ·rw[aD];exact Ug
        ·rcases List.mem_append.1 hr with hr|hr
         ·exact Og ((A4 r hr).since kV)
         ·simp only[aw] at hr;subst hr;exact Og (A5.low (by have:=oO.kp.size;omega))
        ·simp;omega
     ·repeat' refine ak ?_;intros
      refine dS (Cq (Hr.mv dp.mv)) kQ dp.has λw4 X4 fX=>?_;rw[al5];exact hK2 _ _ (dp.trans fX)
    ·repeat' refine ak ?_;intros
     refine dS (GJ rD (by rw[bR];omega) λb hb=>cB b (da hb)) kQ hs.has λw3 X3 dp=>?_;exact hK1 _ _ dp
def DM.bytes (m:DM) (n:ByteArray):List Nat:=((m.get n).map (·.1)).getD []
variable {n : ByteArray} {m : DM} {db : Nat} {F : XS}
theorem GK (h:Dk w F db m) (hF:FX F X w):
  Ct pg 179 #[ptr db 0,.string n] w X nX λv wa w'=> ∃vb,v= .tuple #[vb,I (if(m.get n).isSome then 0 else 8)]/\Own w' (made wa w') wa.heap.size 5 1 vb ((m.bytes n).map U1):=by
 intro w0 hk;obtain⟨mb,l,h0,hz⟩:=h.mv (hF.mv hk);have hX:=λk af=>(hF.kp hk k af).1;have hb:=h0.box.mv (Mv.sub hX);have hg:=h0.get n;have hm:=h0.map.mv lW (Mv.sub hX) (A':=nX) λ_ h=>h.elim;refine Nj.1 λhs=>?_;repeat' refine ak ?_;intros
 refine sU hm (λf h1=>?_) λh1=>?_
 ·have hr:=(h0.row _ (gP h1)).mv (Mv.sub hX);have adm:=((h0.ow _ (gP h1)).mono hX).sl;have ml:m.get n=some (f.bs,f.safe):=by rw[hg,h1];rfl
  have hle:=DM.B3 ml;have wN:m.bytes n=f.bs:=by unfold DM.bytes;rw[ml];rfl
  rw[wN,ml];repeat' first|refine ak ?_;intros|(refine QG hs ?_;intro acc w X hs ho)
  refine qj ho hs (λ_ h=>h) kQ (adm.mv hs.mv) (λr hr u hu=>?_) oQ oQ λv8 w8 X8 kV A5 hc8 XG=>?_
  ·obtain⟨x,_,rfl⟩:=List.mem_map.1 hr;simp at hu;subst hu;rfl
  exact bS kV λwa aI=>⟨v8,rfl,(A5.kp aI).tight⟩
 ·have ml:m.get n=none:=by rw[hg,h1];rfl
  have wN:m.bytes n=[]:=by unfold DM.bytes;rw[ml];rfl
  rw[wN,ml];repeat' refine ak ?_;intros
  exact bS hs λwa aI=>⟨_,rfl,Own.nil _ _ _ _ _⟩
def DM.Dm (n:ByteArray) (k:Nat) (m:DM):DM:=match m.get n with
 |none=>m
 |some x=>m.put n (x.1.take k) (min x.2 k)
def DM.O2 (m:DM) (n:ByteArray) (k:Int):Nat:=if(m.get n).isSome then(if k<0\/(m.bytes n).length<k then 1 else 0)else 8
def DM.cut (m:DM) (n:ByteArray) (k:Int):DM×Nat:=m.write (m.O2 n k) (DM.Dm n k.toNat)
theorem DM.abT {s s':Nat} (h:m.get n=some (b,s)) (hk:k<=b.length):(m.put n (b.take k) s').sz+(b.length-k)=m.sz:=by
 have:=DM.K6 (bs:=b.take k) (s':=s') h;rw[aB] at this;omega
variable {X' : XS} {w' : World}
theorem nK.cut {mb z s':Nat} {l:List (ByteArray×mU)} {f:mU} {v':Value} (h:nK w F db mb l m z) (hX:FX F X w) (hn:getM n l=some f) (c:dY (· =f.b) X w X' w')
  (hv:Ow w F 5 1 v' ((f.bs.take i).map U1)) (hb:v'.ownBlock=f.v.ownBlock) (hr:aH w' X' f.b [v',I s'] 153) (hs:s'<=(f.bs.take i).length):
  nK w' F db mb (cK n ⟨f.b,v',f.bs.take i,s'⟩ l) (m.put n (f.bs.take i) s') z:=by
 have bw:=h.row _ (gP hn);refine h.jR hX c hn (λk hk=>.inl hk) (λ_ h=>h) ⟨bw.1,hr.2⟩ ?_ (.inl hb) hs;refine hv.tight.mv λk hk hl=>⟨(hv.bA hk).1,c.block k (hX k (hv.bA hk).1).1 λe=>?_⟩;have e:k=f.b:=e;subst e;exact hv.eH bw kQ hk
theorem aaX {bd bn bk:Nat} (h:Dk w F db m) (hF:FX F X w) (hd:aH w X bd [ptr db 0] 25) (hn:aH w X bn [.string n] 9) (sj:aH w X bk [I k] 3)
 {s:Nat} (hg:m.get n=some (b,s)) (pe:k<=b.length):
    Ct pg 259 #[ptr bd 0,ptr bn 0,ptr bk 0] w X F λv wa w'=>v= .tuple #[]/\ ∃F',(∀k,F' k->F k\/made wa w' k)/\Dk w' F' db (DM.Dm n k m):=by
  intro w0 hk;obtain⟨mb,l,h0,hz⟩:=h.mv (hF.mv hk);have hT:=hF.ft hk;replace hd:=hd.mv hk.cr;replace hn:=hn.mv hk.cr;replace sj:=sj.mv hk.cr;have gr:=h0.box.mv (Mv.sub hT.bA);have hs:=ai.init w0;have pF:=h0.get n;have hm:=h0.map.mv lW (Mv.sub hT.bA) (A':=nX) λ_ h=>h.elim;refine JX.1 λ_=>?_;repeat' refine ak ?_;intros
  refine sU hm (λf h1=>?_) λh1=>?_
  · have hgf:(b,s)=(f.bs,f.safe):=by rw[h1,hg] at pF;exact bU pF
    obtain⟨rfl,rfl⟩:=Prod.mk.inj hgf;have hr:aH w0 (bK w0) f.b [f.v,I f.safe] 153:=(h0.row _ (gP h1)).mv (Mv.sub hT.bA);have ho:Ow w0 F 5 1 f.v (f.bs.map U1):=h0.ow _ (gP h1);have wO:=ho.sl.mono hT.bA;have gd:=DM.abT (s':=min f.safe k) hg pe;have hle:=DM.B3 hg;repeat' refine ak ?_;intros
    refine xI hT h0 (λ_ h=>h) m (m.put n (f.bs.take k) (min f.safe k)).sz (o:=1) zQ kQ zQ rfl (by rw[show(((m.put n (f.bs.take k) (min f.safe k)).sz:Nat):Int)=(m.sz:Int)-((f.bs.length:Int)-(k:Int))by omega];rfl) rfl h0.ar λw4 X4 fQ h4 c4=>?_;have zd:aH w4 X4 f.b [f.v,I f.safe] 153:=(h4.row _ (gP h1)).mv (Mv.sub fQ.bA);have FY:Ow w4 F 5 1 f.v (f.bs.map U1):=h4.ow _ (gP h1);have NN:=sj.dX c4 λe=>aH.eH sj gr kQ e;clear hr ho wO gr hs sj;repeat' refine ak ?_;intros
    refine XH (i:=k) (FY.mono fQ.bA) zQ zQ (by rw[ah];exact pe) kQ kQ λv' hv hvb=>?_;rw[<-tK] at hv;have hvF:Ow w4 F 5 1 v' ((f.bs.take k).map U1):=hv.tight.mono λq hq=>(FY.bA (by rw[<-hvb];exact hq)).1;repeat' refine ak ?_;intros
    refine pM (o:=0) zd zQ kQ sQ hv.one fQ.s.has λw5 X5 c5 CP=>?_;replace CP:aH w5 X5 f.b [v',I f.safe] 153:=CP;have CT:=NN.dX c5 λe=>aH.eH NN zd kQ e;have hll:(f.bs.take k).length=k:=by rw[aB];exact ky pe
    clear NN;repeat' refine ak ?_;intros
    rw[show min (f.safe:Int) (k:Int)=((min f.safe k:Nat):Int)by omega];refine pM (o:=1) CP zQ kQ sQ rfl c5.has λw6 X6 c6 A4=>?_;replace A4:aH w6 X6 f.b [v',I ((min f.safe k:Nat):Int)] 153:=A4;have cc:=c5.trans c6;have hFf:F f.b:=(h4.row _ (gP h1)).1;have h6:=h4.cut (s':=min f.safe k) (fQ.fx λ_ h=>h) h1 cc hvF hvb A4 (by rw[hll];exact A3 _ _);have kf:=fQ.dX (F':=F) cc (λq e=>by rw[show q=f.b from e];exact hFf) λq hq=>.inl hq;refine kf.fin λwa aI=>⟨rfl,F,kf.ju aI λ_ h=>h,?_⟩;have e:DM.Dm n k m=m.put n (f.bs.take k) (min f.safe k):=by unfold DM.Dm;rw[hg]
    rw[e];exact⟨mb,_,h6.mv (aI.jd kf.bA),by omega⟩
  · rw[h1,hg] at pF;cases pF
theorem adn (h:Dk w F db m) (hF:FX F X w) (Jo:k<2^62):
  Ct pg 182 #[ptr db 0,.string n,I k] w X F λv wa w'=>v=I (m.cut n k).2/\ ∃F',(∀k,F' k->F k\/made wa w' k)/\Dk w' F' db (m.cut n k).1:=by
 intro w0 hk;replace h:=h.mv (hF.mv hk);have hT:=hF.ft hk;have nL:FX F (bK w0) w0:=hF.kp hk;clear hF;refine O3.1 λ_=>?_;refine tR rfl hT.s.has λbd w1 X1 pD ax jw=>?_;refine tR rfl ax.has λbn w2 X2 hbn bB Uh=>?_;refine tR rfl bB.has λbk w3 X3 hbk dp hrk=>?_;have XI:=(ax.trans bB).trans dp;have dU:=hT.since XI;have zV:=(jw.since bB).since dp;have Dn:=Uh.since dp;have h3:Dk w3 F db m:=h.mv (XI.gV λk af=>(nL k af).1);have hs:=ai.fG dp.has;repeat' refine ak ?_;intros
 refine dS (QH h3 (dU.fx λ_ h=>h)) kQ hs.has λw4 X4 fX=>?_;have fQ:=dU.since fX;have h4:Dk w4 F db m:=h3.mv (fX.gV dU.bA);have K7:=zV.since fX;have ado:=Dn.since fX;have adp:=hrk.since fX;have q1:=ax.kp.size;have q2:=bB.kp.size;clear hs zV Dn hrk jw Uh h3 dU;refine ij (Q:=λK=> ∀e:Nat,m.O2 n k=e->K (I e)) ?_ λK hK=>?_
 ·intro e he;have em:m.cut n k=m.write e (DM.Dm n k):=by rw[<-he];rfl
  repeat' refine ak ?_;intros
  rw[em];refine fQ.call (EK (A:=λk=>k=bd\/k=bn\/k=bk) (g:=DM.Dm n k) h4 (fQ.fx λ_ h=>h) (λk af=>?_) kQ ?_) kQ (λ_ h=>h) λv Oc w5 X5 hq Il ED iL EG=>?_
  ·rcases af with rfl|rfl|rfl
   ·exact⟨K7.1,K7.lt,λhf=>by have:=(nL _ hf).2;omega⟩
   ·exact⟨ado.1,ado.lt,λhf=>by have:=(nL _ hf).2;omega⟩
   ·exact⟨adp.1,adp.lt,λhf=>by have:=(nL _ hf).2;omega⟩
  ·intro AQ w6 X6 hm6 hx6 hF6 h6;subst AQ;unfold DM.O2 at he;cases ml:m.get n with
   |none=>rw[ml] at he;simp at he
   |some x=>
    obtain⟨b,s⟩:=x;have WQ:m.bytes n=b:=by unfold DM.bytes;rw[ml];rfl
    rw[ml,WQ] at he;simp only[tv,if_true] at he;have pe:k<=b.length:=by
     refine Nat.le_of_not_lt λhn=>?_;rw[if_pos (.inr zQ)] at he;cases he
    refine aaX h6 hF6 ⟨hx6 _ (.inl rfl),?_⟩ ⟨hx6 _ (.inr (.inl rfl)),?_⟩ ⟨hx6 _ (.inr (.inr rfl)),?_⟩ (by rw[m.pX];exact ml) pe
    ·rw[(hm6 bd (.inl rfl) (K7.lt)).2];exact K7.2
    ·rw[(hm6 bn (.inr (.inl rfl)) (ado.lt)).2];exact ado.2
    ·rw[(hm6 bk (.inr (.inr rfl)) (adp.lt)).2];exact adp.2
  ·obtain⟨rfl,F',CU,hD⟩:=hq
   skip
   exact iL.fin λFZ aI=>⟨rfl,F',iL.ju aI CU,hD.mv (aI.jd λk af=>iL.bA k (CU k af))⟩
 ·obtain⟨mb,l,h0,hz⟩:=id h4;have gr:=h0.box.mv (Mv.sub fQ.bA);have hm:=h0.map.mv lW (Mv.sub fQ.bA) (A':=nX) λ_ h=>h.elim;have pF:=h0.get n;repeat' first|refine ak ?_;intros|refine cQ ?_ ?_<;>intros
  ·exfalso;omega
  ·refine sU hm (λf h1=>?_) λh1=>?_
   ·have ml:m.get n=some (f.bs,f.safe):=by rw[pF,h1];rfl
    have WQ:m.bytes n=f.bs:=by unfold DM.bytes;rw[ml];rfl
    have hr:aH w4 X4 f.b [f.v,I f.safe] 153:=(h0.row _ (gP h1)).mv (Mv.sub fQ.bA);have ho:Sl w4 X4 1 f.v (f.bs.map U1):=(h0.ow _ (gP h1)).sl.mono fQ.bA;repeat' first|refine ak ?_;intros|refine cQ ?_ ?_<;>intros
    ·exact hK 1 (by unfold DM.O2;rw[ml,WQ];simp only[tv,if_true];rw[if_pos (.inr zQ)])
    ·rw[ml];exact hK 0 (by unfold DM.O2;rw[ml,WQ];simp only[tv,if_true];rw[if_neg zQ])
   ·have ml:m.get n=none:=by rw[pF,h1];rfl
    simp[ml] at*
  ·have ml:(m.get n).isSome=false:=by
    cases hq:(m.get n).isSome with
    |false=>rfl
    |true=>simp_all
   rw[ml];exact hK 8 (by unfold DM.O2;rw[ml];rfl)
def DM.tX (cH:List Int) (x:DM×Nat) (n:ByteArray):DM×Nat:=match x.1.get n with
 |none=>x
 |some (bs,s)=>if bs.length=s then x else
  let k:=match cH[x.2]? with
   |some p=>if 0<=p then p.toNat % (bs.length-s+1)else 0
   |none=>0
  (x.1.put n (bs.take (s+k)) (s+k),x.2+1)
def DM.me (m:DM) (cH:List Int):DM:= { ((fR (m.fs.map (·.1))).foldl (DM.tX cH) (m,0)).1 with ar:=0,dn:=false }
theorem DM.akq {k:ByteArray} {s:Nat} (h:(m.get k).isSome=true):((m.put n b s).get k).isSome=true:=by
 unfold DM.get DM.put at*;dsimp only;by_cases e:k=n
 ·subst e;rw[kn];rfl
 ·rw[oZ e];exact h
variable {cH : List Int}
theorem DM.ahL {x:DM×Nat} {k:ByteArray} (h:(x.1.get k).isSome=true):((DM.tX cH x n).1.get k).isSome=true:=by
 unfold DM.tX;split
 ·exact h
 ·split
  ·exact h
  ·exact DM.akq h
variable {vq : Value}
theorem XJ {S:XS} (h:Dk w F db m) (hF:FX F X w) (hq:Sl w S 1 vq (cH.map I1)) (hS: ∀k,S k->X k/\ ¬F k) (hn: ∀x∈m.fs,x.1.size<=2^40) (hl:m.fs.length<=2^40):
  Ct pg 38 #[ptr db 0,vq] w X F λv wa w'=>v= .tuple #[]/\Dk w' F db (m.me cH):=by
 intro w0 hk;obtain⟨mb,l,h0,hz⟩:=h.mv (hF.mv hk);have hT:=hF.ft hk;have nL:FX F (bK w0) w0:=hF.kp hk;have hq0:Sl w0 (out F w0) 1 vq (cH.map I1):=hq.mv λk af AS=>⟨⟨av AS hk.size,(hS k af).2⟩,hk.block k (hS k af).1⟩;obtain⟨qb,qn,qc,rfl⟩:=hq0.form;refine K8.1 λ_=>?_;refine cu (Oh ⟨mb,l,h0,hz⟩ (hT.fx λ_ h=>h) hn hl) kQ hT.s.has ?_;rintro vl DE w1 X1 hol pU nq ax;have dW:=hT.since ax;have h1:=h0.mv (ax.gV hT.bA);have na:Sl w1 (λk=>X1 k/\ ¬F k) 1 vl ((fR (m.fs.map (·.1))).map S1):=hol.sl.mono λk af=>⟨nq k af,λhf=>by have:=(nL k hf).2;have:=af.1;omega⟩;have zh: ∀n∈fR (m.fs.map (·.1)),(m.get n).isSome=true:=λn hn=>by
  have:=(kF (m.fs.map (·.1))).mem_iff.1 hn;cases hg:m.get n with
  |some x=>rfl
  |none=>exact absurd this (getM_none.1 hg)
 have hB:ai (λk=>X1 k/\ ¬F k) w1 X1 w1:=⟨Kp.refl _ _,λk h=>h.1,dW.s.has⟩;have EJ:m.me cH= { ((fR (m.fs.map (·.1))).foldl (DM.tX cH) (m,0)).1 with ar:=0,dn:=false } :=rfl;generalize XK:fR (m.fs.map (·.1))=ns at na zh EJ;have hnl:=na.gO;obtain⟨lb,ln,lc,rfl⟩:=na.form;repeat' refine ak ?_;intros
 refine gz (λm' a b w X=> ∃(j:Nat) (l:List (ByteArray×mU)) (x:DM×Nat),a=I j/\b=I x.2/\m'=ns.length-j/\j<=ns.length/\x.2<=j/\x=(ns.take j).foldl (DM.tX cH) (m,0)/\Ft w0 F w X F/\nK w F db mb l x.1 x.1.sz/\x.1.sz<=4194304/\(∀n∈ns,(x.1.get n).isSome=true)/\ai (λk=>X1 k/\ ¬F k) w1 X w) ns.length
  ⟨0,l,(m,0),rfl,rfl,rfl,aq _,au _,rfl,dW,h1,hz,zh,hB⟩ ?_
 clear dW h1 hB hT h0 hz;rintro m' a b w X ⟨j,l,x,rfl,rfl,rfl,hj,hxj,hx,hT,h0,hz,zh,hB⟩;have hb:=h0.box.mv (Mv.sub hT.bA);have aqc:=na.mv hB.mv;have hq':=hq0.mv hT.s.mv;have hm:=h0.map.mv lW (Mv.sub hT.bA) (A':=nX) λ_ h=>h.elim;rcases dA ns j with⟨cB,n,mj,hd⟩|⟨dB,hd⟩
 ·have ml:=zh n (aA mj);have pF:=h0.get n;have QI:(ns.take (j+1)).foldl (DM.tX cH) (m,0)=DM.tX cH x n:=by rw[List.take_add_one,mj,List.foldl_append,<-hx];rfl
  repeat' refine aJ ?_;intros
  refine ij (Q:=λK=> ∀(x':DM×Nat) w X l,x'=DM.tX cH x n->Ft w0 F w X F->nK w F db mb l x'.1 x'.1.sz->x'.1.sz<=4194304->x'.2<=j+1->ai (λk=>X1 k/\ ¬F k) w1 X w->K (I x'.2) w X) ?_ λK hK=>?_
  ·intro x' w X l AN hT h0 hz hxj hB;repeat' refine ak ?_;intros
   exact fB (ns.length-(j+1)) zQ ⟨j+1,l,x',by simp,rfl,rfl,by omega,hxj,by rw[QI];exact AN,hT,h0,hz,λk af=>by rw[AN];exact DM.ahL (zh k af),hB⟩
  ·repeat' refine ak ?_;intros
   refine sU hm (λf hf=>?_) λhf=>?_
   ·have XM:x.1.get n=some (f.bs,f.safe):=by rw[pF,hf];rfl
    have hr:aH w X f.b [f.v,I f.safe] 153:=(h0.row _ (gP hf)).mv (Mv.sub hT.bA);have ho:Ow w F 5 1 f.v (f.bs.map U1):=h0.ow _ (gP hf);have wO:=ho.sl.mono hT.bA;have hsf:f.safe<=f.bs.length:=h0.safe _ (gP hf);have hle:=DM.B3 XM;have htr:DM.tX cH x n=if f.bs.length=f.safe then x else(x.1.put n (f.bs.take (f.safe+(match cH[x.2]? with|some p=>if 0<=p then p.toNat % (f.bs.length-f.safe+1)else 0|none=>0))) (f.safe+(match cH[x.2]? with|some p=>if 0<=p then p.toNat % (f.bs.length-f.safe+1)else 0|none=>0)),x.2+1):=by
     unfold DM.tX;rw[XM]
    repeat' first|refine ak ?_;intros|refine cQ ?_ ?_<;>intros
    ·exact hK x _ _ l (by rw[htr,if_pos zQ]) hT h0 hz zQ hB
    ·rename_i gA;have aqo: ¬f.bs.length=f.safe:=by omega
     rw[if_neg aqo] at htr;generalize pc:(match cH[x.2]? with|some p=>if 0<=p then p.toNat % (f.bs.length-f.safe+1)else 0|none=>0)=k at htr;have wP:f.safe+k<=f.bs.length:=by
      rw[<-pc];split
      ·split
       ·rename_i q _ _;have:=Nat.mod_lt q.toNat (show 0<f.bs.length-f.safe+1 by omega);generalize q.toNat % (f.bs.length-f.safe+1)=u at this;omega
       ·omega
      ·omega
     have gd:=DM.abT (s':=f.safe+k) XM wP;refine ij (Q:=λK1=>K1 (I (k:Nat))) ?_ λK1 hK1=>?_
     ·repeat' refine ak ?_;intros
      have aqp:F db:=h0.box.1;refine xI hT h0 (λ_ h=>h) x.1 (x.1.put n (f.bs.take (f.safe+k)) (f.safe+k)).sz (o:=1) zQ kQ zQ rfl (by rw[show(((x.1.put n (f.bs.take (f.safe+k)) (f.safe+k)).sz:Nat):Int)=(x.1.sz:Int)-((f.bs.length:Int)-(f.safe:Int)-(k:Int))by omega];rfl) rfl h0.ar λw4 X4 fQ h4 c4=>?_;have hB4:=hB.dX c4 λq hq e=>hq.2 (by rw[show q=db from e];exact aqp);have zd:aH w4 X4 f.b [f.v,I f.safe] 153:=(h4.row _ (gP hf)).mv (Mv.sub fQ.bA);have FY:Ow w4 F 5 1 f.v (f.bs.map U1):=h4.ow _ (gP hf);clear hr ho wO hb;repeat' refine ak ?_;intros
      refine XH (i:=f.safe+k) (FY.mono fQ.bA) zQ zQ (by rw[ah];exact wP) kQ kQ λv' hv hvb=>?_;rw[<-tK] at hv;have hvF:Ow w4 F 5 1 v' ((f.bs.take (f.safe+k)).map U1):=hv.tight.mono λq hq=>(FY.bA (by rw[<-hvb];exact hq)).1;repeat' refine ak ?_;intros
      refine pM (o:=0) zd zQ kQ sQ hv.one fQ.s.has λw5 X5 c5 CP=>?_;replace CP:aH w5 X5 f.b [v',I f.safe] 153:=CP;have hv5:=(hv.dX c5 λq hq e=>hv.eH zd kQ (by rw[<-(show q=f.b from e)];exact hq)).sl;have hll:(f.bs.take (f.safe+k)).length=f.safe+k:=by rw[aB];exact ky wP
      repeat' refine ak ?_;intros
      rw[hll];refine pM (o:=1) CP zQ kQ sQ rfl c5.has λw6 X6 c6 A4=>?_;replace A4:aH w6 X6 f.b [v',I ((f.safe+k:Nat):Int)] 153:=A4;have cc:=c5.trans c6;have hFf:F f.b:=(h4.row _ (gP hf)).1;have h6:=h4.cut (s':=f.safe+k) (fQ.fx λ_ h=>h) hf cc hvF hvb A4 (by rw[hll];exact au _);refine hK (x.1.put n (f.bs.take (f.safe+k)) (f.safe+k),x.2+1) _ _ _ htr.symm (fQ.dX cc (λq e=>by rw[show q=f.b from e];exact hFf) λq hq=>.inl hq) h6 (by show(x.1.put n _ _).sz<=_;omega) (by show x.2+1<=_;omega) (hB4.dX cc λq hq e=>hq.2 (by rw[show q=f.b from e];exact hFf))
     ·repeat' first|refine ak ?_;intros|refine cQ ?_ ?_<;>intros
      ·rename_i SA EL;have XN:cH[x.2]? =some cH[x.2]:=aS zQ;rw[XN] at pc;dsimp only at pc;rw[if_pos zQ] at pc;have e1:cH[x.2]=((cH[x.2].toNat:Nat):Int):=by omega
       rw[e1,show(f.bs.length:Int)-(f.safe:Int)+1=((f.bs.length-f.safe+1:Nat):Int)by omega];refine afx zQ ?_;rw[pc];exact hK1
      ·rename_i SA EL;have XN:cH[x.2]? =some cH[x.2]:=aS zQ;rw[XN] at pc;dsimp only at pc;rw[if_neg zQ] at pc;subst pc;exact hK1
      ·rename_i EL;have XN:cH[x.2]? =none:=List.getElem?_eq_none zQ;rw[XN] at pc;subst pc;exact hK1
   ·rw[pF,hf] at ml;cases ml
 ·have pK:j=ns.length:=by omega
  subst pK;rw[List.take_length] at hx;rw[<-hx] at EJ;repeat' refine aJ ?_;intros
  refine xI hT h0 (λ_ h=>h) { x.1 with dn:=false } x.1.sz (o:=4) zQ kQ zQ rfl rfl rfl h0.ar λw4 X4 fQ h4 c4=>?_;have yC:=h4.box.mv (Mv.sub fQ.bA);clear hb;repeat' refine ak ?_;intros
  refine xI fQ h4 (λ_ h=>h) { x.1 with ar:=0,dn:=false } x.1.sz (o:=3) zQ kQ zQ rfl rfl rfl (by show 0<2^63;decide) λw5 X5 iL h5 c5=>?_;refine iL.fin λwa aI=>⟨rfl,mb,l,?_,?_⟩
  ·rw[EJ];exact h5.mv (aI.jd iL.bA)
  ·rw[EJ];exact hz
def Dp:List Nat->Nat->Option Nat
 |[],n=>some n
 |c::l,n=>if c<48\/57<c then none else Dp l (n*10+(c-48))
def rI (dir name:ByteArray):Nat:=
 if name.size=dir.size+9/\name.extract 0 dir.size=dir/\name.data.toList[dir.size]? =some 46 then(Dp (uV (name.extract (dir.size+1) name.size)) 0).getD 0 else 0
theorem abU: ∀(l:List Nat) (n k:Nat),n<10^k->(Dp l n).getD 0<10^(k+l.length)
 |[],n,k,h=>by simpa [Dp] using h
 |c::l,n,k,h=>by
  unfold Dp;split
  ·simp;exact Nat.pow_pos dQ
  ·have:=abU l (n*10+(c-48)) (k+1) (by rw[rG];omega);rw[aK,show k+(l.length+1)=k+1+l.length by omega];exact this
theorem akr (dir name:ByteArray):rI dir name<100000000:=by
 unfold rI;split
 ·rename_i h;have h1:=abU (uV (name.extract (dir.size+1) name.size)) 0 0 dQ;have h2:(uV (name.extract (dir.size+1) name.size)).length=8:=by rw[It,pW];omega
  rw[h2] at h1;exact h1
 ·decide
theorem Ui (c:Nat) (l:List Nat) (n:Nat):Dp (c::l) n=if c<48\/57<c then none else Dp l (n*10+(c-48)):=rfl
variable {dir : ByteArray}
theorem XO {name:ByteArray} (hd:dir.size<=2^40) (hn:name.size<=2^41):Ct pg 126 #[.string dir,.string name] w X nX λv wa w'=>v=I (rI dir name):=by
 intro w0 hk;refine Vr.1 λhs=>?_;have no: ¬(name.size=dir.size+9/\name.extract 0 dir.size=dir/\name.data.toList[dir.size]? =some 46)->rI dir name=0:=λh=>by unfold rI;rw[if_neg h]
 by_cases h1:name.size=dir.size+9
 ·have hnl:name.data.toList.length=name.size:=(K9 name).symm;obtain⟨c,hc⟩: ∃c,name.data.toList[dir.size]? =some c:=⟨_,aS zQ⟩;repeat' refine aJ ?_;intros
  refine al8 (i:=dir.size) rfl zQ kQ ?_;repeat' first|refine ak ?_;intros|refine cQ ?_ ?_<;>intros
  ·exact bS hs λwa aI=>by rw[no (by simp_all)];rfl
  ·exact bS hs λwa aI=>by rw[no (by rintro⟨_,_,h⟩;rw[hc] at h;simp_all)];rfl
  ·refine al9 (i:=dir.size+1) zQ zQ kQ ?_;refine afy (e:=5) hs.has (by rw[pW];omega) kQ kQ kQ λvb w1 X1 ax oA=>?_;have Jm:(uV (name.extract (dir.size+1) name.size)).length=8:=by rw[It,pW];omega
   have aqq:c=46:=UInt8.toNat_inj.1 (by have:c.toNat=46:=(by omega);rw[this];rfl);have e1:rI dir name=(Dp (uV (name.extract (dir.size+1) name.size)) 0).getD 0:=by
    unfold rI;rw[if_pos ⟨h1,by assumption,by rw[hc,aqq]⟩]
   rw[e1];have cB: ∀x∈uV (name.extract (dir.size+1) name.size),x<256:=λx hx=>aks hx;generalize uV (name.extract (dir.size+1) name.size)=bs at oA Jm cB⊢;replace hs:=hs.trans ax;obtain⟨lb,ln,lc,rfl⟩:=oA.form;repeat' refine ak ?_;intros
   refine gz (λm a b w X=> ∃(i n:Nat),a=I i/\b=I n/\m=bs.length-i/\i<=bs.length/\n<10^i/\Dp bs 0=Dp (bs.drop i) n/\ai X1 w1 X w/\ai (bK w0) w0 X w) bs.length ⟨0,0,rfl,rfl,rfl,aq _,by decide,rfl,ai.fG hs.has,hs⟩ ?_;clear hs;rintro m a b w X ⟨i,n,rfl,rfl,rfl,hi,hn,hf,bB,hs⟩;have adl:=oA.mv bB.mv;rcases dA bs i with⟨SA,x,hx,KC⟩|⟨dB,KC⟩
   ·have asq:=cB x (aA hx);have hn8:n<10^8:=av hn (rH dQ zQ);have asK:n<100000000:=hn8;rw[KC,Ui] at hf;repeat' first|refine aJ ?_;intros|refine cQ ?_ ?_<;>intros
    ·rw[if_pos (.inl zQ)] at hf;exact bS hs λwa aI=>by rw[hf];rfl
    ·rw[if_pos (.inr zQ)] at hf;exact bS hs λwa aI=>by rw[hf];rfl
    ·rw[if_neg zQ] at hf;refine aoE zQ zQ ?_;refine abJ ?_;rw[show IntKind.u8.wrap ((x:Int)-48)=((x-48:Nat):Int)by rw[MM];omega];repeat' refine ak ?_;intros
     rw[Wd zQ];repeat' refine ak ?_;intros
     refine fB (bs.length-(i+1)) zQ ⟨i+1,n*10+(x-48),by simp,by simp,rfl,by omega,by rw[rG];omega,hf,bB,hs⟩
   ·have pK:i=bs.length:=by omega
    subst pK;rw[List.drop_length] at hf;repeat' refine aJ ?_;intros
    exact bS hs λwa aI=>by rw[hf];rfl
 ·repeat' refine aJ ?_;intros
  exact bS hs λwa aI=>by rw[no λh=>h1 h.1];rfl
def L0 (dir:ByteArray) (sz:Nat):LM:=⟨dir,sz,[],0⟩
theorem Uj: ∀(k:Nat) (b:List Nat),b.length<=k->(jg b).2<=b.length/\(jg b).1.length<=(jg b).2
 |0,b,h=>by rw[aaW zQ];simp
 |k+1,b,h=>by
  cases hf:lV b with
  |none=>rw[DW hf];simp
  |some q=>
   have h1:=QB hf;rw[QD hf];have h2:=Uj k (b.drop (q.length+12)) (by rw[bR];omega);rw[bR] at h2;simp only[aK];omega
def LD.F5 (x:LD) (n:Nat):Bool:=decide (x.L.bC≠[]/\((x.m.bytes x.L.fc).length≠x.L.last.size\/n≠x.L.next))
noncomputable def LD.join (x:LD) (n:Nat) (nm:ByteArray):LD×Nat:=
 if x.F5 n then(x,13)else(⟨{ x.L with bC:=x.L.bC++[⟨n,(jg (x.m.bytes nm)).1,(jg (x.m.bytes nm)).2⟩] },x.m⟩,0)
noncomputable def LD.oV:LD->List ByteArray->LD×Nat
 |x,[]=>(x,0)
 |x,nm::r=>if rI x.L.dir nm=0 then x.oV r else if(x.join (rI x.L.dir nm) nm).2≠0 then x.join (rI x.L.dir nm) nm else(x.join (rI x.L.dir nm) nm).1.oV r
def LD.GN (x:LD):LD×Nat:=
 if x.L.last.size<(x.m.bytes x.L.fc).length then
  if(x.m.cut x.L.fc x.L.last.size).2≠0 then(⟨x.L,(x.m.cut x.L.fc x.L.last.size).1⟩,(x.m.cut x.L.fc x.L.last.size).2)else LD.sync ⟨x.L,(x.m.cut x.L.fc x.L.last.size).1⟩
 else x.sync
noncomputable def LD.BH (dir:ByteArray) (room:Nat) (m:DM):LD×Nat:=
 if m.dn then(⟨L0 dir room,m⟩,12)else
  let q:=LD.oV ⟨L0 dir room,m⟩ (fR (m.fs.map (·.1)))
  if q.2≠0 then q else if q.1.L.bC=[] then q.1.iF 1 else q.1.GN
theorem DM.La (h:Dk w F db m) (n:ByteArray):(m.bytes n).length<=4194304:=by
 obtain⟨mb,l,h,hz⟩:=h;unfold DM.bytes;cases hg:m.get n with
 |none=>simp
 |some x=>have:=DM.B3 (b:=x.1) (s:=x.2) hg;simp;omega
variable {nm : ByteArray} {L : LM} {lb : Nat}
theorem adq {n:Nat} (h:Lg w F lb db L m) (lh:L.bC≠[]->pf L) (sk:L.dir.size<=11) (hn:n<=2^40) (oA:L.bC.length<=2^30) (F8: ∀b∈m.bytes nm,b<256) (hF:FX F X w):
  Ct pg 127 #[ptr lb 0,I n,.string nm] w X F λv wa w'=>v=I (LD.join ⟨L,m⟩ n nm).2/\ ∃F',(∀k,F' k->F k\/made wa w' k)/\Lg w' F' lb db (LD.join ⟨L,m⟩ n nm).1.L (LD.join ⟨L,m⟩ n nm).1.m:=by
 intro w0 hk;obtain⟨FL,FD,sv,bl,h⟩:=(h.mv (hF.mv hk)).lw;have hT:=hF.ft hk;have nL:FX F (bK w0) w0:=hF.kp hk;have hX:=λk af=>(nL k (h.hL k af)).1;have hb:=h.l.box.mv (Mv.sub hX);have F9:=h.l.so.sl.mono hX;have Jm:bl.length=L.bC.length:=by rw[h.l.bC,ah]
 have asL:=DM.La h.d nm;have eJ:LD.join ⟨L,m⟩ n nm=if LD.F5 ⟨L,m⟩ n then(⟨L,m⟩,13)else(⟨{ L with bC:=L.bC++[⟨n,(jg (m.bytes nm)).1,(jg (m.bytes nm)).2⟩] },m⟩,0):=rfl
 refine QJ.1 λhs=>?_;refine ij (Q:=λK=> ∀w1 X1,LD.F5 ⟨L,m⟩ n=false->ai (bK w0) w0 X1 w1->K w1 X1) ?_ λK hK=>?_
 ·intro w1 X1 hj ax;rw[eJ,hj];have dW:=hT.since ax;have h1:=h.mv (ax.gV hT.bA);have lK:=hb.since ax;clear hs hb F9;repeat' refine ak ?_;intros
  refine cu (GK (n:=nm) h1.d (dW.fx h1.hD)) kQ dW.s.has ?_;rintro _ xu w2 X2 ⟨vb,rfl,yE⟩ lu ka bB;have cY:=dW.since bB;have h2:=h1.mv (bB.gV dW.bA);repeat' refine ak ?_;intros
  refine cu (XE (yE.sl.mono ka) zQ F8) kQ cY.s.has ?_;rintro _ ze w3 X3 ⟨va,rs,rfl,hrs,BG,hor⟩ qB mz dp;have dU:=cY.since dp;have h3:=h2.mv (dp.gV cY.bA);have hX3: ∀k,FL k->X3 k:=λk af=>dU.bA k (h3.hL k af);have rC:=(lK.since bB).since dp;have adr:=h3.l.so.mono hX3;have oa:=BG.sl.one;obtain⟨ab,an,ac,rfl⟩:=BG.sl.form;generalize gd:(jg (m.bytes nm)).2=sz;have Qf:=ax.kp.size;have Jn:=bB.kp.size;have hz3:=dp.kp.size;repeat' refine ak ?_;intros
  refine A6 dU.s.has λbx w4 X4 gr fX bw=>?_;have O4:=adr.mv fX.mv;refine XP (bytes:=8) (row:=[ptr bx 0]) O4 fX.has kQ rfl rfl rfl oQ oQ λEM w5 X5 c5 tY vY=>?_;have yC:=rC.since fX;have ct: ∀q,eT sv q->q≠lb:=λq hq e=>O4.eH yC kQ (by rw[<-e];exact hq);have BB:aH w5 X5 lb [ptr db 0,.string L.dir,I L.room,sv,I L.safe] 231:=⟨c5.sub _ yC.1,by rw[c5.block _ yC.1 λhq=>ct _ hq rfl];exact yC.2⟩;clear lK rC;repeat' refine ak ?_;intros
  refine pM (o:=3) BB zQ kQ sQ tY.one c5.has λw6 X6 c6 A4=>?_;have O5: ∀q,eT sv q->FL q:=λq hq=>(h3.l.so.bA hq).1;have cc:dY (λk=>k=lb\/sv.ownBlock=some k) X3 w3 X6 w6:=((dY.nz fX _).trans (c5.mono λk _ af=>.inr af)).trans (c6.mono λk _ af=>.inl af);have kf:Ft w0 F w6 X6 (λk=>F k\/(X6 k/\w0.heap.size<=k)):=(dU.dX (F':=F) cc (λk af=>by
   rcases af with rfl|af
   ·exact h3.hL _ h3.l.box.1
   ·exact h3.hL _ (O5 _ af)) λk af=>.inl af).more λk af=>af
  have Lb: ∀g,EM.ownBlock=some g->FL g\/(X6 g/\w0.heap.size<=g):=λg hg=>by
   rcases vY with e|⟨g',e,dB⟩
   ·exact .inl (O5 _ (e.symm.trans hg))
   ·rw[hg] at e;have:g=g':=bU e;subst this;exact .inr ⟨c6.sub _ (tY.bA hg).1,by have:=fX.kp.size;omega⟩
  have ahM:EM.ownBlock≠some lb:=tY.eH BB kQ;have ads:bx≠lb:=bw.eH yC kQ;have adt: ¬eT sv bx:=λhq=>O4.eH bw kQ hq;have fresh: ∀{e:TypeId} {v:Value} {rows:List (List Value)},decide (e≠231)=true->decide (e≠239)=true->Own w3 (made ze w3) ze.heap.size e 1 v rows->Ow w6 (λk=>FL k\/(X6 k/\w0.heap.size<=k)) e 1 v rows:=λ{e v rows} he1 he2 ho=>by
   have Qm:Ow w3 X3 e 1 v rows:=ho.ow.mono mz;refine ho.ow.tight.mv λk af hl=>⟨.inr ⟨cc.sub k (Qm.bA af).1,by have:=(ho.ow.bA af).1.1;omega⟩,cc.block k (Qm.bA af).1 λhg=>?_⟩;rcases hg with rfl|hg
   ·exact Qm.eH (h3.l.box.mv (Mv.sub hX3)) he1 af
   ·obtain⟨c1,e1⟩:=Qm.tag af;obtain⟨c2,e2⟩:=adr.tag hg;rw[e1] at e2;simp only[aj,Obj.cells.injEq] at e2;exact of_decide_eq_true he2 e2.2.1
  have hL6:=h3.l.abV (BI:=λk=>FL k\/(X6 k/\w0.heap.size<=k)) (EM:=EM) (qX:=bl++[⟨bx,n,.slice ab an ac,rs,sz⟩]) (dU.fx h3.hL) cc (λk af=>af) (λk af=>.inl af) ⟨.inl h3.l.box.1,A4.2⟩ ?_ ?_ ?_
  ·refine kf.fin λwa aI=>⟨rfl,_,kf.ju aI λ_ h=>h,?_⟩;have e:({ L with bC:=(bl++[(⟨bx,n,.slice ab an ac,rs,sz⟩:mC)]).map mC.er } :LM)= { L with bC:=L.bC++[⟨n,(jg (m.bytes nm)).1,sz⟩] } :=by
    rw[aD,<-h3.l.bC,<-hrs];rfl
   rw[if_neg oU,<-e];refine Lg.mv ⟨_,FD,EM,_,?_,?_,?_,hL6,h3.d.mv (cc.jd λk af=>⟨dU.bA k (h3.hD k af),λhg=>?_⟩)⟩ (aI.jd kf.bA)
   ·intro k ha dT;rcases ha with ha|ha
    ·exact h3.dj k ha dT
    ·have:=(nL k (h3.hD k dT)).2;omega
   ·exact λk af=>af.imp (h3.hL k) id
   ·exact λk af=>.inl (h3.hD k af)
   ·rcases hg with rfl|hg
    ·exact h3.dj _ h3.l.box.1 af
    ·exact h3.dj _ (O5 _ hg) af
  ·rw[aD];refine tY.tight.mv λk af hl=>⟨Lb k af,c6.block k (tY.bA af).1 λe=>ahM (by rw[<-(show k=lb from e)];exact af)⟩
  ·intro s sP;rcases List.mem_append.1 sP with sP|sP
   ·exact .inl sP
   ·simp only[aw] at sP;subst sP;have hb6:w6.heap[bx]? =w4.heap[bx]? :=by
     rw[c6.block bx (c5.sub _ bw.1) ads,c5.block bx bw.1 adt]
    exact .inr ⟨⟨.inr ⟨c6.sub _ (c5.sub _ bw.1),by show w0.heap.size<=bx;omega⟩,by rw[hb6];exact bw.2⟩,fresh kQ kQ BG,λr hr=>fresh kQ kQ (hor r hr)⟩
  ·refine List.pairwise_append.2 ⟨h3.l.ap,List.pairwise_singleton _ _,λx hx y hy=>?_⟩;simp only[aw] at hy;subst hy;refine⟨λe=>?_,λg hg rz=>?_⟩
   ·have:=(dU.fx h3.hL _ (h3.l.row x hx).1).2;have e':x.b=bx:=e;omega
   ·have a1:=(nL g (h3.hL g ((h3.l.As x hx).bA hg).1)).2;have a2:=(BG.ow.bA (g:=g) rz).1.1;omega
 ·by_cases ct:L.bC=[]
  ·have asM:bl.length=0:=by rw[Jm,ct];rfl
   have hj:LD.F5 ⟨L,m⟩ n=false:=by simp[LD.F5,ct]
   repeat' refine aJ ?_;intros
   exact hK _ _ hj hs
  ·obtain⟨qX,s,rfl,he,EI⟩:=h.l.last (lh ct);have hL:=lh ct;have hlen:=F9.gO;have xt:(qX++[s]).length=qX.length+1:=by simp
   have Df:(qX++[s])[qX.length]? =some s:=by simp
   have lT:s∈qX++[s]:=by simp
   have wN:=(h.l.row s lT).mv (Mv.sub hX);have hrc:=(h.l.As s lT).sl.mono hX;have EN:s.first=L.last.first:=by rw[<-he];rfl
   have gd:s.size=L.last.size:=by rw[<-he];rfl
   have qh:s.rs.length=L.last.bh.length:=by rw[<-he];simp[mC.er]
   have XQ:=hL.yI _ (LM.xJ hL.ne);have nf:L.next=L.last.first+L.last.bh.length:=rfl
   repeat' refine aJ ?_;intros
   rw[EN];refine cu (ym zQ zQ) kQ hs.has ?_;rintro _ DE w1 X1 rfl pU nq ax;have dW:=hT.since ax;have h1:=h.mv (ax.gV hT.bA);refine cu (GK (n:=bP L.dir L.last.first) h1.d (dW.fx h1.hD)) kQ dW.s.has ?_;rintro _ xu w2 X2 ⟨vb,rfl,yE⟩ lu ka bB;have aqr:=(yE.sl.mono ka).gO;have rJ:=ax.trans bB;have O6:=wN.since rJ;have asN:=hrc.mv rJ.mv;have eN:L.fc=bP L.dir L.last.first:=rfl
   have eE:LD.F5 ⟨L,m⟩ n=decide (L.bC≠[]/\((m.bytes (bP L.dir L.last.first)).length≠L.last.size\/n≠L.next)):=rfl;rw[eE] at hK eJ;have cY:=hT.since rJ;have h2:=h.mv (rJ.gV hT.bA);clear hs wN hrc;repeat' first|refine ak ?_;intros|refine cQ ?_ ?_<;>intros
   ·rw[eJ,if_pos (by simp only[decide_eq_true_eq];exact⟨ct,.inl zQ⟩)];exact cY.fin λwa aI=>⟨rfl,F,cY.ju aI λ_ h=>h,(h2.mv (aI.jd cY.bA)).lg⟩
   ·rw[eJ,if_pos (by simp only[decide_eq_true_eq];exact⟨ct,.inr zQ⟩)];exact cY.fin λwa aI=>⟨rfl,F,cY.ju aI λ_ h=>h,(h2.mv (aI.jd cY.bA)).lg⟩
   ·exact hK _ _ (by simp only[decide_eq_false_iff_not];rintro⟨_,h|h⟩<;>omega) rJ
theorem adu (h:Lg w F lb db L m) (hL:pf L) (hF:FX F X w):
  Ct pg 129 #[ptr lb 0] w X F λv wa w'=>v=I (LD.GN ⟨L,m⟩).2/\ ∃F',(∀k,F' k->F k\/made wa w' k)/\Lg w' F' lb db (LD.GN ⟨L,m⟩).1.L (LD.GN ⟨L,m⟩).1.m:=by
 intro w0 hk;obtain⟨FL,FD,sv,bl,h⟩:=(h.mv (hF.mv hk)).lw;have hT:=hF.ft hk;have nL:FX F (bK w0) w0:=hF.kp hk;obtain⟨qX,s,rfl,he,EI⟩:=h.l.last hL;have hX:=λk af=>(nL k (h.hL k af)).1;have lT:s∈qX++[s]:=by simp
 have hb:=h.l.box.mv (Mv.sub hX);have wN:=(h.l.row s lT).mv (Mv.sub hX);have EN:s.first=L.last.first:=by rw[<-he];rfl
 have gd:s.size=L.last.size:=by rw[<-he];rfl
 have XQ:=hL.yI _ (LM.xJ hL.ne);have sk:=hL.d2;have eM:LD.GN ⟨L,m⟩=if L.last.size<(m.bytes (bP L.dir L.last.first)).length then
   if(m.cut (bP L.dir L.last.first) L.last.size).2≠0 then(⟨L,(m.cut (bP L.dir L.last.first) L.last.size).1⟩,(m.cut (bP L.dir L.last.first) L.last.size).2)else LD.sync ⟨L,(m.cut (bP L.dir L.last.first) L.last.size).1⟩
  else LD.sync ⟨L,m⟩:=rfl
 refine QK.1 λhs=>?_;refine cu (yn h.l λk af=>nL k (h.hL k af)) kQ hs.has ?_;rintro _ DE w1 X1 rfl pU nq ax;have lK:=hb.since ax;have XR:=wN.since ax;clear hs hb wN;have hs:=ai.fG ax.has;repeat' refine ak ?_;intros
 rw[EN];refine cu (ym zQ zQ) kQ ax.has ?_;rintro _ xu w2 X2 rfl lu ka bB;have wJ:=lK.since bB;have O6:=XR.since bB;have rJ:=ax.trans bB;have cY:=hT.since rJ;have h2:=h.mv (rJ.gV hT.bA);clear hs lK XR;refine ij (Q:=λK=> ∀w1 X1 F1 m1,LD.GN ⟨L,m⟩=LD.sync ⟨L,m1⟩->Ft w0 F w1 X1 F1->Lg w1 F1 lb db L m1->K w1 X1) ?_ λK hK=>?_
 ·intro w3 X3 F3 m3 e3 dU h3
  skip
  refine dU.call (Iu h3 hL (dU.fx λ_ h=>h)) kQ (λ_ h=>h) λv zf w4 X4 hq tq oF fQ EO=>?_;obtain⟨rfl,F4,hF4,h4⟩:=hq;rw[e3];have zW:=fQ.less hF4
  skip
  exact zW.fin λwa aI=>⟨rfl,F4,zW.ju aI λ_ h=>h,h4.mv (aI.jd zW.bA)⟩
 ·have hs:=ai.fG cY.s.has;repeat' refine ak ?_;intros
  refine cu (GK (n:=bP L.dir L.last.first) h2.d (cY.fx h2.hD)) kQ cY.s.has ?_;rintro _ ze w3 X3 ⟨vb,rfl,yE⟩ qB mz dp;have aqr:=(yE.sl.mono mz).gO;have Jm:=DM.La h.d (bP L.dir L.last.first);have dU:=cY.since dp;have h3:=h2.mv (dp.gV cY.bA);have rC:=wJ.since dp;have aqs:=O6.since dp;clear hs wJ O6;have hs:=ai.fG dU.s.has;repeat' first|refine ak ?_;intros|refine cQ ?_ ?_<;>intros
  ·rw[if_pos zQ] at eM;rw[gd];refine dU.call (adn (k:=L.last.size) (n:=bP L.dir L.last.first) h3.d (dU.fx h3.hD) zQ) kQ h3.hD λv zf w4 X4 hq tq oF fQ EO=>?_;obtain⟨rfl,Oi,O7,hD⟩:=hq;have h4:=h3.O8 (dU.fx λ_ h=>h) tq EO O7 hD;generalize JC:m.cut (bP L.dir L.last.first) L.last.size=ms at h4 eM⊢;repeat' first|refine ak ?_;intros|refine cQ ?_ ?_<;>intros
   ·have hz:ms.2≠0:=by have: ¬(ms.2:Int)=0:=(by assumption);omega
    rw[if_pos hz] at eM;rw[eM];exact fQ.fin λwa aI=>⟨rfl,_,fQ.ju aI λ_ h=>h,(h4.mv (aI.jd fQ.bA)).lg⟩
   ·have hz:ms.2=0:=by have:(ms.2:Int)=0:=(by assumption);omega
    rw[if_neg zQ] at eM;exact hK _ _ _ ms.1 eM fQ h4.lg
  ·rw[if_neg zQ] at eM;exact hK _ _ F m eM dU h3.lg
structure XT (L:LM):Prop where
 d1:1<=L.dir.size
 d2:L.dir.size<=11
 yI: ∀s∈L.bC,s.first+s.bh.length<=2^40/\s.size<=2^40
 room:L.room<=2^40
def XT.Lc (h:XT L) (ct:L.bC≠[]):pf L:=⟨ct,h.d1,h.d2,h.yI,h.room⟩
variable {x : LD}
theorem XT.join {n:Nat} (h:XT x.L) (hn:n<=100000000) (hb:(x.m.bytes nm).length<=4194304):XT (x.join n nm).1.L/\(x.join n nm).1.m=x.m/\(x.join n nm).1.L.dir=x.L.dir/\(x.join n nm).1.L.bC.length<=x.L.bC.length+1:=by
 unfold LD.join;split
 ·exact⟨h,rfl,rfl,by simp⟩
 ·refine⟨⟨h.d1,h.d2,λs hs=>?_,h.room⟩,rfl,rfl,by simp⟩;rcases List.mem_append.1 hs with hs|hs
  ·exact h.yI s hs
  ·simp only[aw] at hs;subst hs;have:=Uj _ (x.m.bytes nm) (au _)
   show n+(jg (x.m.bytes nm)).1.length<=2^40/\(jg (x.m.bytes nm)).2<=2^40
   omega
theorem adv {sz:Nat} (h:Dk w F db m) (hF:FX F X w) (zh: ∀x∈m.fs,x.1.size<=2^40) (iP:m.fs.length<=2^29) (F8: ∀n,∀b∈m.bytes n,b<256)
  (h1:1<=dir.size) (h2:dir.size<=11) (ax:64<=sz) (bB:sz<=262144):
  Ct pg 75 #[ptr db 0,.string dir,I sz] w X F λv wa w'=> ∃lb F',v= .tuple #[if(LD.BH dir sz m).2=0 then ptr lb 0 else .pointer none,I (LD.BH dir sz m).2]/\(∀k,F' k->F k\/made wa w' k)/\
   Dk w' F' db (LD.BH dir sz m).1.m/\((LD.BH dir sz m).2=0->Lg w' F' lb db (LD.BH dir sz m).1.L (LD.BH dir sz m).1.m):=by
 intro w0 hk;replace h:=h.mv (hF.mv hk);have hT:=hF.ft hk;have nL:FX F (bK w0) w0:=hF.kp hk;have eO:LD.BH dir sz m=if m.dn then(⟨L0 dir sz,m⟩,12)else
   if(LD.oV ⟨L0 dir sz,m⟩ (fR (m.fs.map (·.1)))).2≠0 then LD.oV ⟨L0 dir sz,m⟩ (fR (m.fs.map (·.1)))else
    if(LD.oV ⟨L0 dir sz,m⟩ (fR (m.fs.map (·.1)))).1.L.bC=[] then(LD.oV ⟨L0 dir sz,m⟩ (fR (m.fs.map (·.1)))).1.iF 1 else(LD.oV ⟨L0 dir sz,m⟩ (fR (m.fs.map (·.1)))).1.GN:=rfl
 generalize hr:LD.BH dir sz m=r at eO⊢;refine aaY.1 λ_=>?_;refine cu (adw (n:=1) h1 h2 zQ zQ) kQ hT.s.has ?_;rintro _ DE w1 X1 rfl pU nq Xy;replace hT:=hT.since Xy;replace h:=h.mv (Xy.gV λk af=>(nL k af).1);repeat' refine aJ ?_;intros
 refine dS (aaZ h (hT.fx λ_ h=>h)) kQ hT.s.has λw2 X2 xK=>?_;replace h:=h.mv (xK.gV hT.bA);replace hT:=hT.since xK;cases jN:m.dn with
 |true=>
  rw[jN,if_pos rfl] at eO;subst eO;repeat' refine ak ?_;intros
  exact hT.fin λwa aI=>⟨0,F,rfl,hT.ju aI λ_ h=>h,h.mv (aI.jd hT.bA),λe=>by cases e⟩
 |false=>
  rw[jN,if_neg oU] at eO;repeat' refine ak ?_;intros
  refine A6 hT.s.has λlb w3 X3 yA dp bw=>?_;have h3:=h.mv (dp.gV hT.bA);have dU:=hT.since dp;have hFl: ∀k,F k->k<w2.heap.size:=λk af=>hT.s.has k (hT.bA k af);have EP:Ft w0 F w3 X3 (λk=>F k\/k=lb):=dU.more λk af=>af.imp id λe=>by
   subst e;have:=hT.s.kp.size;exact⟨bw.1,by omega⟩
  have g3:Lg w3 (λk=>F k\/k=lb) lb db (L0 dir sz) m:=
   ⟨(· =lb),F,.slice none 0 0,[],λk a b=>by have:=hFl k b;omega,λ_ h=>.inr h,λ_ h=>.inl h,
    ⟨rfl,⟨rfl,bw.2⟩,⟨by simp,.inl ⟨rfl,rfl⟩⟩,by simp,by simp,by simp,List.Pairwise.nil⟩,h3⟩
  refine cu (Oh h3 (dU.fx λ_ h=>h) zh zQ) kQ dU.s.has ?_;rintro vl zf w4 X4 hol tq oF fX;have fQ:=EP.since fX;have g4:=g3.mv (fX.gV EP.bA);have hGl: ∀k,(F k\/k=lb)->k<w3.heap.size:=λk af=>af.elim (λaf=>by have:=hFl k af;have:=dp.kp.size;omega) λe=>by subst e;exact bw.lt
  have na:Sl w4 (λk=>X4 k/\ ¬(F k\/k=lb)) 1 vl ((fR (m.fs.map (·.1))).map S1):=hol.sl.mono λk af=>⟨oF k af,λhf=>by have:=hGl k hf;have:=af.1;omega⟩;have hB:ai (λk=>X4 k/\ ¬(F k\/k=lb)) w4 X4 w4:=⟨Kp.refl _ _,λk h=>h.1,fQ.s.has⟩;have aqt:=fQ.s.has;have ama: ∀n∈fR (m.fs.map (·.1)),n.size<=2^40:=λn hn=>by
   have:=(kF (m.fs.map (·.1))).mem_iff.1 hn;obtain⟨x,hx,rfl⟩:=List.mem_map.1 this;exact zh x hx
  have hnl:(fR (m.fs.map (·.1))).length=m.fs.length:=by rw[(kF _).length_eq,ah]
  generalize fR (m.fs.map (·.1))=ns at na eO ama hnl;obtain⟨nb,nn,nc,rfl⟩:=na.form;clear hT dU EP g3 h3 h bw hol;repeat' refine ak ?_;intros
  refine fp (λn' a w X=> ∃(i:Nat) (F1:XS) (x:LD),a=I i/\n'=ns.length-i/\i<=ns.length/\LD.oV ⟨L0 dir sz,m⟩ ns=x.oV (ns.drop i)/\XT x.L/\x.m=m/\x.L.dir=dir/\x.L.bC.length<=i/\Ft w0 F w X F1/\Lg w F1 lb db x.L x.m/\
   (∀k,F1 k->(F k\/k=lb)\/w4.heap.size<=k)/\ai (λk=>X4 k/\ ¬(F k\/k=lb)) w4 X w) ns.length
   ⟨0,_,⟨L0 dir sz,m⟩,rfl,rfl,aq _,rfl,⟨h1,h2,by simp[L0],by show sz<=_;omega⟩,rfl,rfl,au _,fQ,g4,λk af=>.inl af,hB⟩ ?_
  clear fQ g4 hB;rintro n' a w5 X5 ⟨i,F1,x,rfl,rfl,hi,Ga,Kt,hxm,hxd,Uk,iL,h5,ahN,hB⟩;obtain⟨FL,FD,sv,bl,hW⟩:=h5.lw;have BB:=hW.l.box.mv (Mv.sub λk af=>iL.bA k (hW.hL k af));have hsv:=hW.l.so.sl.mono λk af=>iL.bA k (hW.hL k af);have Jm:bl.length=x.L.bC.length:=by rw[hW.l.bC,ah]
  have asO:=na.mv hB.mv;rcases dA ns i with⟨cB,nm,mj,hd⟩|⟨dB,hd⟩
  ·have asP:=ama nm (aA mj);rw[hd] at Ga;have eJ:x.oV (nm::ns.drop (i+1))=if rI x.L.dir nm=0 then x.oV (ns.drop (i+1))else if(x.join (rI x.L.dir nm) nm).2≠0 then x.join (rI x.L.dir nm) nm else(x.join (rI x.L.dir nm) nm).1.oV (ns.drop (i+1)):=rfl
   rw[eJ,hxd] at Ga;have hnN:=akr dir nm;repeat' refine aJ ?_;intros
   refine ij (Q:=λK=> ∀w X F1 x,LD.oV ⟨L0 dir sz,m⟩ ns=LD.oV x (ns.drop (i+1))->XT x.L->x.m=m->x.L.dir=dir->x.L.bC.length<=i+1->Ft w0 F w X F1->Lg w F1 lb db x.L x.m->(∀k,F1 k->(F k\/k=lb)\/w4.heap.size<=k)->
    ai (λk=>X4 k/\ ¬(F k\/k=lb)) w4 X w->K w X) ?_ λK hK=>?_
   ·intro w X F1 x q1 q2 q3 q4 q5 q6 q7 q8 q9;repeat' refine ak ?_;intros
    exact eP (ns.length-(i+1)) zQ ⟨i+1,F1,x,by simp,rfl,by omega,q1,q2,q3,q4,q5,q6,q7,q8,q9⟩
   ·repeat' refine ak ?_;intros
    refine dS (XO (dir:=dir) (name:=nm) zQ zQ) kQ iL.s.has λw6 X6 tF=>?_;have kf:=iL.since tF;have h6:=h5.mv (tF.gV iL.bA);have hB6:=hB.trans tF;repeat' first|refine ak ?_;intros|refine cQ ?_ ?_<;>intros
    ·rw[if_pos zQ] at Ga;exact hK _ _ F1 x Ga Kt hxm hxd zQ kf h6 ahN hB6
    ·rw[if_neg zQ] at Ga;obtain⟨j1,j2,j3,j4⟩:=Kt.join (n:=rI dir nm) (nm:=nm) zQ (DM.La hW.d nm);refine kf.call (adq (n:=rI dir nm) (nm:=nm) h6 (λct=>Kt.Lc ct) Kt.d2 zQ zQ (by rw[hxm];exact F8 nm) (kf.fx λ_ h=>h)) kQ (λ_ h=>h) λv Qp w7 X7 hq Ss GH CV Qv=>?_;obtain⟨rfl,F7,hF7,h7⟩:=hq;have ex:x.join (rI dir nm) nm=LD.join ⟨x.L,x.m⟩ (rI dir nm) nm:=rfl;rw[ex] at Ga j1 j2 j3 j4;generalize hq:LD.join ⟨x.L,x.m⟩ (rI dir nm) nm=q at Ga h7 j1 j2 j3 j4⊢;have SB:=CV.less hF7;have hB7:ai (λk=>X4 k/\ ¬(F k\/k=lb)) w4 X7 w7:=hB6.dX Qv λk af hf=>by
      rcases ahN k hf with hf|hf
      ·exact af.2 hf
      ·have:=aqt k af.1;omega
     have aqu: ∀k,F7 k->(F k\/k=lb)\/w4.heap.size<=k:=λk af=>(hF7 k af).elim (λh=>ahN k h) λh=>.inr (by have:=h.1;have:=hB6.kp.size;omega);repeat' first|refine ak ?_;intros|refine cQ ?_ ?_<;>intros
     ·have hz:q.2≠0:=by have: ¬(q.2:Int)=0:=(by assumption);omega
      rw[if_pos hz] at Ga;rw[Ga,if_pos hz] at eO;subst eO;obtain⟨FL7,FD7,sv7,bl7,hW7⟩:=h7.lw;exact SB.fin λwa aI=>⟨lb,F7,by rw[if_neg hz],SB.ju aI λ_ h=>h,(hW7.d.mono hW7.hD).mv (aI.jd SB.bA),λe=>absurd e hz⟩
     ·have hz:q.2=0:=by have:(q.2:Int)=0:=(by assumption);omega
      rw[if_neg zQ] at Ga;refine hK _ _ F7 q.1 Ga j1 (by rw[j2];exact hxm) (by rw[j3];exact hxd) zQ SB h7 aqu hB7
  ·have pK:i=ns.length:=by omega
   subst pK;rw[hd] at Ga;have ejn:x.oV []=(x,0):=rfl;rw[ejn] at Ga;rw[Ga,if_neg sQ] at eO;dsimp only at eO;repeat' first|refine aJ ?_;intros|refine cQ ?_ ?_<;>intros
   ·have ahO:x.L.bC=[]:=List.eq_nil_of_length_eq_zero zQ;rw[if_pos ahO] at eO;refine iL.call (QL (n:=1) h5 Kt.d2 zQ zQ (iL.fx λ_ h=>h)) kQ (λ_ h=>h) λv wa6 w6 X6 hq6 XU Lb kf hc6=>?_;obtain⟨rfl,F6,hF6,h6⟩:=hq6;have zX:Ft w0 F w6 X6 F6:=kf.less hF6;have ex:LD.iF ⟨x.L,x.m⟩ 1=r:=eO.symm;rw[ex] at h6⊢;obtain⟨FL6,FD6,sv6,bl6,QM⟩:=h6.lw;repeat' first|refine ak ?_;intros|refine cQ ?_ ?_<;>intros
    ·have hz:r.2≠0:=by have: ¬(r.2:Int)=0:=(by assumption);omega
     exact zX.fin λwa aI=>⟨lb,F6,by rw[if_neg hz],zX.ju aI λ_ h=>h,(QM.d.mono QM.hD).mv (aI.jd zX.bA),λe=>absurd e hz⟩
    ·have hz:r.2=0:=by have:(r.2:Int)=0:=(by assumption);omega
     exact zX.fin λwa aI=>⟨lb,F6,by rw[if_pos hz,hz];rfl,zX.ju aI λ_ h=>h,(QM.d.mono QM.hD).mv (aI.jd zX.bA),λ_=>h6.mv (aI.jd zX.bA)⟩
   ·have ct:x.L.bC≠[]:=λe=>by
     have:x.L.bC.length=0:=by rw[e];rfl
     omega
    rw[if_neg ct] at eO;refine iL.call (adu h5 (Kt.Lc ct) (iL.fx λ_ h=>h)) kQ (λ_ h=>h) λv wa6 w6 X6 hq6 XU Lb kf hc6=>?_;obtain⟨rfl,F6,hF6,h6⟩:=hq6;have zX:Ft w0 F w6 X6 F6:=kf.less hF6;have ex:LD.GN ⟨x.L,x.m⟩=r:=eO.symm;rw[ex] at h6⊢;obtain⟨FL6,FD6,sv6,bl6,QM⟩:=h6.lw;repeat' first|refine ak ?_;intros|refine cQ ?_ ?_<;>intros
    ·have hz:r.2≠0:=by have: ¬(r.2:Int)=0:=(by assumption);omega
     exact zX.fin λwa aI=>⟨lb,F6,by rw[if_neg hz],zX.ju aI λ_ h=>h,(QM.d.mono QM.hD).mv (aI.jd zX.bA),λe=>absurd e hz⟩
    ·have hz:r.2=0:=by have:(r.2:Int)=0:=(by assumption);omega
     exact zX.fin λwa aI=>⟨lb,F6,by rw[if_pos hz,hz];rfl,zX.ju aI λ_ h=>h,(QM.d.mono QM.hD).mv (aI.jd zX.bA),λ_=>h6.mv (aI.jd zX.bA)⟩
def LM.has (L:LM) (n:Nat) (p:List Nat):Prop:= ∃(j:Nat) (s:dN),L.bC[j]? =some s/\s.first<=n/\(∀(i:Nat) (t:dN),j<i->L.bC[i]? =some t->n<t.first)/\s.bh[n-s.first]? =some p
variable {sv : Value}
theorem ahP {n:Nat} {bl:List mC} (h:zj w F lb db sv bl L) (hL:pf L) (hp:L.has n p) (vJ:p.length<=2^40) (hF:FX F X w):
  Ct pg 131 #[ptr lb 0,I n] w X nX λv wa w'=>Own w' (made wa w') wa.heap.size 5 1 v (p.map U1):=by
 intro w0 hk;replace h:=h.mv (hF.mv hk);have hX:=λk af=>(hF.kp hk k af).1;have hb:=h.box.mv (Mv.sub hX);have F9:=h.so.sl.mono hX;have Ld:=h.bC;obtain⟨j,sm,hj,iP,QF,amb⟩:=hp;have mK:=hL.yI sm (aA hj);have qh:=(List.getElem?_eq_some_iff.1 amb).1;rw[Ld,cL] at hj;obtain⟨s,hbj,rfl⟩: ∃s,bl[j]? =some s/\s.er=sm:=by
  cases hq:bl[j]? with
  |none=>rw[hq] at hj;cases hj
  |some s=>exact⟨s,rfl,by rw[hq] at hj;exact bU hj⟩
 have HE:=(List.getElem?_eq_some_iff.1 hbj).1;have asQ:s.first<=n:=iP
 have aqv:s.first+(s.rs.map (·.2)).length<=2^40:=mK.1
 have aqw:n-s.first<(s.rs.map (·.2)).length:=qh
 rw[ah] at aqv aqw;obtain⟨r,hr,hrp⟩: ∃r,s.rs[n-s.first]? =some r/\r.2=p:=by
  have h9:(s.rs.map (·.2))[n-s.first]? =some p:=amb;rw[cL] at h9;cases hq:s.rs[n-s.first]? with
  |none=>rw[hq] at h9;cases h9
  |some r=>exact⟨r,rfl,by rw[hq] at h9;exact bU h9⟩
 have hlen:=F9.gO;refine Vs.1 λhs=>?_;repeat' refine ak ?_;intros
 refine fp (λm a w X=> ∃i:Nat,a=I i/\m=i-j/\j<=i/\i<bl.length/\ai (bK w0) w0 X w) (bl.length-1-j) ⟨bl.length-1,congrArg I zQ,rfl,by omega,by omega,hs⟩ ?_;clear hs;rintro m a w1 X1 ⟨i,rfl,rfl,Kr,pK,hs⟩;obtain⟨t,P9⟩: ∃t,bl[i]? =some t:=⟨_,aS pK⟩;have hbt:aH w0 (bK w0) t.b [I t.first,t.rv,I t.size] 238:=(h.row t (aA P9)).mv (Mv.sub hX);by_cases yD:i=j
 ·subst yD;rw[P9] at hbj;obtain rfl:=bU hbj;have hrc:=(h.As t (aA P9)).sl.mono hX;have F8:=(h.HF t (aA P9) r (aA hr)).sl.mono hX;rw[hrp] at F8;have Qf:=hs.kp.size;repeat' first|refine aJ ?_;intros|(refine QG hs ?_;intro acc w X hs ho)
  refine qj (ho.low Qf) hs (λ_ h=>h) kQ (F8.mv hs.mv) (by intro r hr u hu;obtain⟨x,_,rfl⟩:=List.mem_map.1 hr;simp only[U1,aw] at hu;subst hu;rfl) oQ oQ λv8 w8 X8 kV A5 hc8 XG=>?_;exact bS kV λwa aI=>(A5.kp aI).tight
 ·have asR:n<t.first:=QF i t.er zQ (by rw[Ld,cL,P9];rfl)
  repeat' refine aJ ?_;intros
  exact eP (i-1-j) zQ ⟨i-1,congrArg I zQ,rfl,by omega,by omega,hs⟩
variable {s : dN}
theorem adx {n:Nat} {bl:List mC} {r:List dN} (h:zj w F lb db sv bl L) (hL:pf L) (hp:L.has n p) (vJ:p.length<=2^40) (hs:L.bC=s::r) (h1:s.first<=n) (h2:n<L.next) (hF:FX F X w):
  Ct pg 78 #[ptr lb 0,I n] w X nX λv wa w'=> ∃vb,v= .tuple #[vb,I 0]/\Own w' (made wa w') wa.heap.size 5 1 vb (p.map U1):=by
 intro w0 hk;replace h:=h.mv (hF.mv hk);have nL:FX F (bK w0) w0:=hF.kp hk;have hX:=λk af=>(nL k af).1;have fx: ∀{w X},ai (bK w0) w0 X w->FX F X w:=λhs k af=>⟨hs.sub k (hX k af),hs.has k (hs.sub k (hX k af))⟩;refine QN.1 λ_=>?_;have gf:=ai.init w0;refine dS (Oj h hs nL) kQ gf.has λw1 X1 ax=>?_;repeat' refine aJ ?_;intros
 refine ij (Q:=λK=> ∀w X,ai (bK w0) w0 X w->K (I L.next) w X) ?_ λK hK=>?_
 ·intro w2 X2 bB;repeat' refine aJ ?_;intros
  refine cu (ahP (h.mv (bB.gV hX)) hL hp vJ (fx bB)) kQ bB.has ?_;rintro vb ze w3 X3 ho qB mz dp;exact bS (bB.trans dp) λwa aI=>⟨vb,rfl,((ho.up mz (by have:=bB.kp.size;omega)).kp aI).tight⟩
 ·repeat' refine ak ?_;intros
  refine dS (DX (h.mv (ax.gV hX)) hL (fx ax)) kQ ax.has λw2 X2 bB=>?_;exact hK _ _ (ax.trans bB)
theorem pf.tail {t:dN} {r:List dN} (h:pf L) (hs:L.bC=s::t::r):pf { L with bC:=t::r } :=
 ⟨by simp,h.d1,h.d2,λx hx=>h.yI x (by rw[hs];exact bG _ hx),h.room⟩
def DM.ks (m:DM):List ByteArray:=m.fs.map (·.1)
theorem DM.get_some:(m.get n).isSome=true↔n∈m.ks:=by
 have h:=getM_none (k:=n) (l:=m.fs)
 show(getM n m.fs).isSome=true↔n∈m.fs.map (·.1)
 cases hg:getM n m.fs with
 |none=>grind
 |some x=>
  grind
theorem DM.vL (m:DM):m.ks.length=m.fs.length:=by simp[DM.ks]
structure mq (m:DM):Prop where
 ar:m.ar=0
 dn:m.dn=false
theorem mq.tick (h:mq m):mq m.tick:=by
 unfold DM.tick;rw[if_neg (by rw[h.ar];decide)];exact⟨by simp[h.ar],h.dn⟩
theorem mq.write (h:mq m) (f:DM->DM):m.write 0 f=(f m.tick,0):=by
 unfold DM.write;rw[if_neg (by rw[h.dn];simp),if_neg sQ,if_neg (by rw[h.tick.dn];simp)]
theorem mq.afz (h:mq m) {e:Nat} (he:e≠0) (f:DM->DM):m.write e f=(m,e):=by
 unfold DM.write;rw[if_neg (by rw[h.dn];simp),if_pos he]
theorem mq.create (h:mq m) (hn:vM n=true) (hk: ¬n∈m.ks):
  (64<=m.fs.length/\m.create n=(m,3))\/(m.fs.length<64/\(m.create n).2=0/\mq (m.create n).1/\(m.create n).1.ks=m.ks++[n]/\(m.create n).1.sz=m.sz):=by
 have hg: ¬(m.get n).isSome=true:=λe=>hk (DM.get_some.1 e);unfold DM.create;rw[if_neg (by simp[hn]),if_neg hg];by_cases hl:64<=m.fs.length
 ·left;rw[if_pos hl];exact⟨hl,h.afz dQ _⟩
 ·right;rw[if_neg hl,h.write];refine⟨by omega,rfl,⟨h.tick.ar,h.tick.dn⟩,?_,?_⟩
  ·show(cK n ([],0) m.tick.fs).map (·.1)=_
   rw[xL,m.Au,if_neg (show¬(getM n m.fs).isSome=true from hg)];rfl
  ·have:m.tick.get n=none:=by rw[m.pX];simpa using hg
   rw[DM.SC this,m.yp];simp
theorem mq.append (h:mq m) (hk:n∈m.ks) (gd:m.sz+b.length<=4194304):
  (m.append n b).2=0/\mq (m.append n b).1/\(m.append n b).1.ks=m.ks/\(m.append n b).1.sz=m.sz+b.length:=by
 have hg:=DM.get_some.2 hk;unfold DM.append;rw[if_neg (by rw[h.dn];simp)];cases hx:m.get n with
 |none=>grind
 |some x=>
  obtain⟨bs,s⟩:=x;dsimp only;rw[if_neg zQ];refine⟨by rw[if_neg (by rw[h.tick.dn];simp)],⟨h.tick.ar,h.tick.dn⟩,?_,?_⟩
  ·show(cK n (bs++b,s) m.tick.fs).map (·.1)=_
   rw[xL,m.Au,if_pos (show(getM n m.fs).isSome=true from hg)];rfl
  ·have:m.tick.get n=some (bs,s):=by rw[m.pX];exact hx
   have:=DM.K6 (bs:=bs++b) (s':=s) this;rw[m.yp,aa] at this
   grind
theorem mq.sync (h:mq m) (hk:n∈m.ks):(m.sync n).2=0/\mq (m.sync n).1/\(m.sync n).1.ks=m.ks/\(m.sync n).1.sz=m.sz:=by
 have hg:=DM.get_some.2 hk;unfold DM.sync;rw[if_pos hg,h.write];have QF:(m.tick.get n).isSome=true:=by rw[m.pX];exact hg
 refine⟨rfl,?_,?_,by dsimp only;rw[DM.ER,m.yp]⟩
 ·unfold DM.km;dsimp only;split
  ·exact h.tick
  ·exact⟨h.tick.ar,h.tick.dn⟩
 ·unfold DM.km;dsimp only;split
  ·grind
  ·rename_i x hx
   show(cK n _ m.tick.fs).map (·.1)=_
   rw[xL,m.Au,if_pos (show(getM n m.fs).isSome=true from hg)];rfl
theorem XV: ∀{k a b:Nat},a<10^k->b<10^k->pY k a=pY k b->a=b
 |0,a,b,ha,hb,_=>by omega
 |k+1,a,b,ha,hb,h=>by
  unfold pY at h;obtain⟨h1,h2⟩:=List.append_inj' h rfl;have:=XV (k:=k) (a:=a/10) (b:=b/10) zQ zQ h1
  grind
theorem MP: ∀(k n:Nat),∀x∈pY k n,x<256
 |0,_,x,h=>by cases h
 |k+1,n,x,h=>by
  unfold pY at h;rcases List.mem_append.1 h with h|h
  ·exact MP k _ x h
  grind
theorem ahQ {a:List Nat} (ha: ∀x∈a,x<256) (hb: ∀x∈b,x<256) (h:B4 a=B4 b):a=b:=by
 unfold B4 at h;have h1:(a.map nB)=b.map nB:=by
  have:=congrArg (λx:ByteArray=>x.data.toList) h;simpa using this
 have h2:=congrArg (List.map UInt8.toNat) h1;simp only[bz] at h2;have e: ∀l:List Nat,(∀x∈l,x<256)->l.map (UInt8.toNat∘nB)=l:=λl hl=>by
  refine(ee λx hx=>?_).trans (wL l);simp_all
 simp_all
theorem Le {b:Nat} (ha:a<10^8) (hb:b<10^8) (h:bP dir a=bP dir b):a=b:=by
 unfold bP at h;have h1:=congrArg (λx:ByteArray=>x.data.toList) h;simp only[ByteArray.data_append,Array.toList_append] at h1;refine XV ha hb (ahQ (MP _ _) (MP _ _) ?_);simp_all
theorem abW {α:Type} [LT α] [DecidableEq α]: ∀{a b:List α} {u v:List α},a<b->a.length=b.length->a++u<b++v
 |[],[],_,_,h,_=>absurd h (List.not_lt_nil _)
 |[],_::_,_,_,_,hl=>by simp at hl
 |_::_,[],_,_,_,hl=>by simp at hl
 |x::a,y::b,u,v,h,hl=>by
  rw[jW,jW,wM];rcases List.cons_lt_cons_iff.1 h with h1|⟨h1,h2⟩
  ·grind
  ·exact .inr ⟨h1,abW h2 gQ⟩
theorem afA: ∀{k a b:Nat},a<b->b<10^k->(pY k a).map nB<(pY k b).map nB
 |0,a,b,h,hb=>by omega
 |k+1,a,b,h,hb=>by
  unfold pY;rw[aD,aD];have wJ:b/10<10^k:=by rw[rG] at hb;omega
  by_cases hq:a/10=b/10
  ·rw[hq];refine yG ?_;rw[bm,bm,wM];refine .inl ?_;rw[UInt8.lt_iff_toNat_lt,yH,yH];omega
  ·exact abW (afA zQ wJ) (by rw[ah,ah,uW,uW])
theorem O9 (dir:ByteArray) (n:Nat):bl (bP dir n)=(dir.data.toList++[46])++(pY 8 n).map nB:=by
 unfold bl bP B4;simp_all
theorem aa0 {b:Nat} (h:a<b) (hb:b<100000000):bl (bP dir a)<bl (bP dir b):=by
 rw[O9,O9];exact yG (afA h hb)
theorem aa1 {ns:List Nat} {ks:List ByteArray} (hp:ks.Perm (ns.map (bP dir))) (hs:ns.Pairwise (· < ·)) (hb: ∀n∈ns,n<100000000):fR ks=ns.map (bP dir):=by
 rw[ahR hp];unfold fR;rw[List.mergeSort_of_pairwise]
 ·rw[bz];refine(ee λx _=>?_).trans (wL _);rfl
 ·rw[Ap,Ap];refine hs.imp_of_mem λ{a b} _ JD wI=>?_;unfold leB;exact decide_eq_true (List.le_of_lt (aa0 wI (hb b JD)))
theorem afB (h: ∀x∈l,x<256):uV (B4 l)=l:=by
 unfold uV B4;rw[List.toList_toArray,bz];refine(ee λx hx=>?_).trans (wL l);simp_all
theorem XW: ∀(k n:Nat) (l:List Nat) (a:Nat),Dp (pY k n++l) a=Dp l (a*10^k+n % 10^k)
 |0,n,l,a=>by simp[pY,Nat.mod_one]
 |k+1,n,l,a=>by
  unfold pY;rw[ao,XW k (n/10)];rw[jW,cC,Ui,if_neg zQ]
  congr 1
  have h1:n % 10^(k+1)=n/10 % 10^k*10+n % 10:=by
   rw[rG,Nat.mul_comm (10^k) 10,Nat.mod_mul];omega
  rw[h1,rG,Nat.add_mul,Nat.mul_assoc];omega
theorem ady {n:Nat} (hn:n<100000000):rI dir (bP dir n)=n:=by
 have gd:=A7 dir n;have hd:dir.data.toList.length=dir.size:=by rw[Array.length_toList];rfl
 have e:(bP dir n).data.toList=(dir.data.toList++[46])++(pY 8 n).map nB:=O9 dir n;have h1:(bP dir n).extract 0 dir.size=dir:=by
  apply DH;apply Array.toList_inj.1;rw[vK,xF,e,ao];rw[tE];simp only[List.drop_zero,Nat.sub_zero];exact ig hd
 have h2:(bP dir n).data.toList[dir.size]? =some 46:=by
  rw[e,ao,List.getElem?_append_right zQ,hd,Nat.sub_self];rfl
 have h3:(bP dir n).extract (dir.size+1) (bP dir n).size=B4 (pY 8 n):=by
  apply DH;apply Array.toList_inj.1;rw[vK,xF,e,tE,gd];rw[jX (by simp_all)];rw[az (by rw[ah,uW];omega)];rfl
 unfold rI;rw[if_pos ⟨gd,h1,h2⟩,h3,afB (MP 8 n)];have h4:=XW 8 n [] 0;rw[gn] at h4;rw[h4]
 show 0*10^8+n % 10^8=n
 grind
theorem Lf {s:Nat} (h:(m.get n).isSome=true):(m.put n b s).ks=m.ks:=by
 show(cK n (b,s) m.fs).map (·.1)=_
 rw[xL,if_pos (show(getM n m.fs).isSome=true from h)];rfl
theorem rl {s:Nat} :(m.put n b s).get n=some (b,s):=kn
theorem Lh {k:ByteArray} {s:Nat} (h:k≠n):(m.put n b s).get k=m.get k:=oZ h
theorem akt {x:DM×Nat} :(DM.tX cH x n).1.ks=x.1.ks:=by
 unfold DM.tX;split
 ·rfl
 ·rename_i b s hg;split
  ·rfl
  ·exact Lf (by rw[hg];rfl)
theorem QO {x:DM×Nat} {k:ByteArray} (h:k≠n):(DM.tX cH x n).1.get k=x.1.get k:=by
 unfold DM.tX;split
 ·rfl
 ·split
  ·rfl
  ·exact Lh h
theorem afC {x:DM×Nat} {s:Nat} (h:x.1.get n=some (b,s)) (hs:s<=b.length):
  ∃k,k<=b.length-s/\(DM.tX cH x n).1.get n=some (b.take (s+k),s+k)/\(cH=[]->k=0):=by
 unfold DM.tX;rw[h];dsimp only;split
 ·rename_i he;refine⟨0,aq _,?_,λ_=>rfl⟩
  grind
 ·rename_i he;refine⟨_,?_,rl,?_⟩
  ·split
   ·split
    ·rename_i p _ _;have:=Nat.mod_lt p.toNat (show 0<b.length-s+1 by omega)
     grind
    ·omega
   ·omega
  grind
theorem adz {cH:List Int} {n:ByteArray} : ∀(ns:List ByteArray) (x:DM×Nat),(ns.foldl (DM.tX cH) x).1.ks=x.1.ks/\(n ∉ ns->(ns.foldl (DM.tX cH) x).1.get n=x.1.get n)/\
  (ns.Nodup->n∈ns-> ∀b s,x.1.get n=some (b,s)->s<=b.length-> ∃k,k<=b.length-s/\(ns.foldl (DM.tX cH) x).1.get n=some (b.take (s+k),s+k)/\(cH=[]->k=0))
 |[],x=>⟨rfl,λ_=>rfl,λ_ h=>absurd h sQ⟩
 |a::ns,x=>by
  obtain⟨h1,h2,h3⟩:=adz (cH:=cH) (n:=n) ns (DM.tX cH x a);rw[List.foldl_cons];refine⟨h1.trans akt,λhn=>?_,λhd hn b s hg hs=>?_⟩
  ·simp only[List.mem_cons,not_or] at hn;rw[h2 hn.2,QO hn.1]
  ·have KD:=List.nodup_cons.1 hd;by_cases e:n=a
   ·subst e;obtain⟨k,hk,xp,hz⟩:=afC (cH:=cH) hg hs;exact⟨k,hk,by grind,hz⟩
   ·refine h3 KD.2 ((List.mem_cons.1 hn).resolve_left e) b s ?_ hs;rw[QO e];exact hg
theorem Pa (m:DM) (cH:List Int):(m.me cH).ks=m.ks:=(adz (cH:=cH) (n:=⟨#[]⟩) (fR m.ks) (m,0)).1
theorem Ul {s:Nat} (hd:m.ks.Nodup) (h:m.get n=some (b,s)) (hs:s<=b.length): ∃k,k<=b.length-s/\(m.me cH).get n=some (b.take (s+k),s+k)/\(cH=[]->k=0):=by
 have hn:n∈m.ks:=DM.get_some.1 (by rw[h];rfl);have hp:=kF m.ks;obtain⟨_,_,h3⟩:=adz (cH:=cH) (n:=n) (fR m.ks) (m,0);exact h3 (hp.nodup_iff.2 hd) (hp.mem_iff.2 hn) b s h hs
theorem adA (hd:m.ks.Nodup) (h:m.get n=some (b,b.length)):(m.me cH).get n=some (b,b.length):=by
 obtain⟨k,hk,hg,_⟩:=Ul (cH:=cH) hd h (au _);simp_all
def flat (l:List (List Nat)):List Nat:=(l.map dm).flatten
theorem Cr (a b:List (List Nat)):flat (a++b)=flat a++flat b:=by simp[flat]
theorem Iv (p:List Nat):flat [p]=dm p:=by simp[flat]
def gG:List dN->Prop
 |s::t::r=>t.first=s.first+s.bh.length/\s.bh≠[]/\gG (t::r)
 |_=>True
theorem gG.tail {r:List dN} (h:gG (s::r)):gG r:=by
 cases r with
 |nil=>trivial
 |cons t r=>exact h.2.2
theorem gG.lt: ∀{r:List dN} {s:dN},gG (s::r)-> ∀t∈r,s.first<t.first
 |[],_,_,_,h=>absurd h sQ
 |u::r,s,h,t,ht=>by
  have h1:=List.length_pos_iff.2 h.2.1;have h2:=h.1;rcases List.mem_cons.1 ht with rfl|ht
  ·omega
  ·have:=gG.lt h.2.2 t ht;omega
theorem gG.Sr: ∀{l:List dN},gG l->(l.map (·.first)).Pairwise (· < ·)
 |[],_=>by simp
 |s::r,h=>by
  rw[bm,List.pairwise_cons];refine⟨λn hn=>?_,gG.Sr h.tail⟩;obtain⟨t,ht,rfl⟩:=List.mem_map.1 hn;exact h.lt t ht
theorem gG.suffix: ∀{a b:List dN},gG (a++b)->gG b
 |[],_,h=>h
 |_::a,_,h=>gG.suffix (a:=a) h.tail
theorem gG.snoc {n:dN} : ∀{a:List dN},gG (a++[s])->n.first=s.first+s.bh.length->s.bh≠[]->gG (a++[s]++[n])
 |[],_,h1,h2=>⟨h1,h2,trivial⟩
 |[t],h,h1,h2=>⟨h.1,h.2.1,h1,h2,trivial⟩
 |t::u::a,h,h1,h2=>⟨h.1,h.2.1,gG.snoc (a:=u::a) h.2.2 h1 h2⟩
variable {s' : dN}
theorem gG.last (hf:s'.first=s.first): ∀{a:List dN},gG (a++[s])->gG (a++[s'])
 |[],_=>trivial
 |[t],h=>⟨hf.trans h.1,h.2.1,trivial⟩
 |t::u::a,h=>⟨h.1,h.2.1,gG.last hf (a:=u::a) h.2.2⟩
structure We (s:dN):Prop where
 one:1<=s.first
 top:s.first<=99999999/\s.first+s.bh.length<=100000000
 sz:s.size=(flat s.bh).length
 pl: ∀p∈s.bh,p.length<=262144/\wQ p
structure Good (l:List dN):Prop where
 lk:gG l
 ok: ∀s∈l,We s
def Good.suffix {a b:List dN} (h:Good (a++b)):Good b:=⟨h.lk.suffix,λs hs=>h.ok s (List.mem_append_right _ hs)⟩
structure oP (dir:ByteArray) (pre:List dN) (s:dN) (ly:List Nat) (sf:Nat) (m:DM):Prop where
 nd:m.ks.Nodup
 ks:m.ks.Perm ((pre++[s]).map λs=>bP dir s.first)
 body: ∀t∈pre,m.get (bP dir t.first)=some (flat t.bh,(flat t.bh).length)
 last:m.get (bP dir s.first)=some (flat s.bh++ly,sf)
 sf:sf<=(flat s.bh++ly).length
variable {pre : List dN}
theorem oP.ne (hg:Good (pre++[s])) {t:dN} (ht:t∈pre):bP dir t.first≠bP dir s.first:=λe=>by
 have h1:=hg.lk.Sr;rw[aD] at h1;have h2:=(List.pairwise_append.1 h1).2.2 t.first (List.mem_map.2 ⟨t,ht,rfl⟩) s.first sQ
 have h3:=(hg.ok t (by simp[ht])).top;have h4:=(hg.ok s sQ).top;have:=Le zQ zQ e;omega
variable {sf : Nat} {ly : List Nat}
theorem oP.me (h:oP dir pre s ly sf m) (hg:Good (pre++[s])):
  ∃k,k<=(flat s.bh++ly).length-sf/\(cH=[]->k=0)/\(m.me cH).ks=m.ks/\(∀t∈pre,(m.me cH).get (bP dir t.first)=some (flat t.bh,(flat t.bh).length))/\
   (m.me cH).get (bP dir s.first)=some ((flat s.bh++ly).take (sf+k),sf+k):=by
 obtain⟨k,hk,Df,hz⟩:=Ul (cH:=cH) h.nd h.last h.sf;exact⟨k,hk,hz,Pa m cH,λt ht=>adA h.nd (h.body t ht),Df⟩
theorem Um {l:List (List Nat)} (hl: ∀p∈l,p.length<=262144) (ht:lV ly=none):jg (flat l++ly)=(l,(flat l).length):=by
 unfold flat;rw[K4 l ly hl,DW ht];simp
def Iw:lV []=none:=xG (.inl sQ)
theorem uX {s:Nat} (h:m.get n=some (b,s)):m.bytes n=b:=by unfold DM.bytes;rw[h];rfl
theorem Eg {d:ByteArray} {r:Nat} :(⟨d,r,pre++[s],z⟩:LM).last=s:=by simp[LM.last]
theorem XX {dir:ByteArray} {room:Nat} {m:DM} : ∀(Un pre:List dN),gG (pre++Un)->(∀t∈Un,1<=t.first/\t.first<100000000/\jg (m.bytes (bP dir t.first))=(t.bh,t.size))->
  (∀t∈(pre++Un).dropLast,(m.bytes (bP dir t.first)).length=t.size)->LD.oV ⟨⟨dir,room,pre,0⟩,m⟩ (Un.map λs=>bP dir s.first)=(⟨⟨dir,room,pre++Un,0⟩,m⟩,0)
 |[],pre,_,_,_=>by simp[LD.oV]
 |t::Un,pre,hk,hs,hb=>by
  obtain⟨h1,h2,h3⟩:=hs t sQ;have hn:rI dir (bP dir t.first)=t.first:=ady h2
  have hj:LD.F5 ⟨⟨dir,room,pre,0⟩,m⟩ t.first=false:=by
   unfold LD.F5;simp only[decide_eq_false_iff_not];rintro⟨ct,hor⟩;obtain⟨p,u,rfl⟩: ∃p u,pre=p++[u]:=⟨_,_,(List.dropLast_concat_getLast ct).symm⟩;have aoF:gG (u::t::Un):=gG.suffix (a:=p) (by simpa using hk);have hu:(m.bytes (bP dir u.first)).length=u.size:=hb u (by
    rw[List.dropLast_append_of_ne_nil sQ];exact bM _ sQ)
   rw[Eg] at hor;have e1:(⟨dir,room,p++[u],0⟩:LM).fc=bP dir u.first:=by unfold LM.fc;rw[Eg]
   have e2:(⟨dir,room,p++[u],0⟩:LM).next=u.first+u.bh.length:=by unfold LM.next;rw[Eg]
   rw[e1,e2] at hor;rcases hor with h|h
   ·omega
   ·exact h aoF.1
  have eJ:LD.join ⟨⟨dir,room,pre,0⟩,m⟩ t.first (bP dir t.first)=(⟨⟨dir,room,pre++[t],0⟩,m⟩,0):=by
   unfold LD.join;rw[hj,if_neg oU];dsimp only;rw[h3]
  rw[bm];unfold LD.oV;dsimp only;rw[hn,if_neg zQ,eJ,if_neg sQ];have:=XX (dir:=dir) (room:=room) (m:=m) Un (pre++[t]) (by simpa using hk) (λx hx=>hs x (bG _ hx)) (by simpa using hb);rw[this];simp
theorem Ix (h0:m.ar=0) (hd:m.dn=false):m.tick.ar=0/\m.tick.dn=false:=by
 unfold DM.tick
 grind
theorem afD (h0:m.ar=0) (hd:m.dn=false) (f:DM->DM):m.write 0 f=(f m.tick,0):=by
 unfold DM.write;rw[if_neg gQ,if_neg sQ,if_neg (by rw[(Ix h0 hd).2];simp)]
theorem oP.tick (h:oP dir pre s ly sf m):oP dir pre s ly sf m.tick:=by
 have e:m.tick.ks=m.ks:=by unfold DM.ks;rw[m.Au]
 exact⟨by rw[e];exact h.nd,by rw[e];exact h.ks,λt ht=>by rw[m.pX];exact h.body t ht,by rw[m.pX];exact h.last,h.sf⟩
variable {sf' : Nat} {QQ : List Nat}
theorem oP.put (h:oP dir pre s ly sf m) (hg:Good (pre++[s])) (hf:s'.first=s.first) (hb:flat s'.bh++QQ=b) (hs:sf'<=b.length):
  oP dir pre s' QQ sf' (m.put (bP dir s.first) b sf'):=by
 have ajE:(m.get (bP dir s.first)).isSome=true:=by rw[h.last];rfl
 refine⟨by rw[Lf ajE];exact h.nd,?_,λt ht=>?_,?_,by grind⟩
 ·rw[Lf ajE];have e:(pre++[s']).map (λs=>bP dir s.first)=(pre++[s]).map (λs=>bP dir s.first):=by simp[hf]
  rw[e];exact h.ks
 ·rw[Lh (oP.ne hg ht)];exact h.body t ht
 ·rw[hf,hb];exact rl
theorem oP.km (h:oP dir pre s ly sf m) (hg:Good (pre++[s])):oP dir pre s ly (flat s.bh++ly).length (m.km (bP dir s.first)):=by
 unfold DM.km;rw[h.last];exact h.put hg rfl rfl (au _)
variable {room : Nat}
theorem amc (h:oP dir pre s ly sf m) (hg:Good (pre++[s])) (ht:lV ly=none) (h0:m.ar=0) (hd:m.dn=false):
  ∃m',LD.BH dir room m=(⟨⟨dir,room,pre++[s],(s.first+s.bh.length:Nat)-1⟩,m'⟩,0)/\oP dir pre s [] (flat s.bh).length m'/\m'.ar=0/\m'.dn=false:=by
 have F9:=hg.ok s sQ;have XK:fR (m.fs.map (·.1))=(pre++[s]).map λs=>bP dir s.first:=by
  have e:(pre++[s]).map (λs=>bP dir s.first)=((pre++[s]).map (·.first)).map (bP dir):=by rw[bz];rfl
  rw[e];refine aa1 (by rw[<-e];exact h.ks) hg.lk.Sr λn hn=>?_;obtain⟨t,ht,rfl⟩:=List.mem_map.1 hn;have:=(hg.ok t ht).top;omega
 have hj:=XX (dir:=dir) (room:=room) (m:=m) (pre++[s]) [] (by simpa using hg.lk) (λt xC=>?_) (λt xC=>?_)
 ·rw[cC] at hj;have hL0:L0 dir room=⟨dir,room,[],0⟩:=rfl;have aoG: ∃m',LD.GN ⟨⟨dir,room,pre++[s],0⟩,m⟩=(⟨⟨dir,room,pre++[s],(s.first+s.bh.length:Nat)-1⟩,m'⟩,0)/\oP dir pre s [] (flat s.bh).length m'/\m'.ar=0/\m'.dn=false:=by
   have eN:(⟨dir,room,pre++[s],0⟩:LM).fc=bP dir s.first:=by unfold LM.fc;rw[Eg]
   have eX:(⟨dir,room,pre++[s],0⟩:LM).next=s.first+s.bh.length:=by unfold LM.next;rw[Eg]
   have sync: ∀{m1:DM} {sf1:Nat},oP dir pre s [] sf1 m1->m1.ar=0->m1.dn=false-> ∃m',LD.sync ⟨⟨dir,room,pre++[s],0⟩,m1⟩=(⟨⟨dir,room,pre++[s],(s.first+s.bh.length:Nat)-1⟩,m'⟩,0)/\oP dir pre s [] (flat s.bh).length m'/\m'.ar=0/\m'.dn=false:=by
    intro m1 sf1 h1 a1 d1;have e:m1.sync (bP dir s.first)=(DM.km (bP dir s.first) m1.tick,0):=by
     unfold DM.sync;rw[if_pos (by rw[h1.last];rfl),afD a1 d1]
    refine⟨DM.km (bP dir s.first) m1.tick,?_,?_,?_,?_⟩
    ·unfold LD.sync;simp_all
    ·have:=h1.tick.km hg
     grind
    ·unfold DM.km;split
     ·exact(Ix a1 d1).1
     ·exact(Ix a1 d1).1
    ·unfold DM.km;split
     ·exact(Ix a1 d1).2
     ·exact(Ix a1 d1).2
   unfold LD.GN;dsimp only;rw[Eg,eN,uX h.last,F9.sz,aa];by_cases htn:ly=[]
   ·subst htn;rw[if_neg sQ];exact sync h h0 hd
   ·have:=List.length_pos_iff.2 htn;rw[if_pos zQ];have hc:m.cut (bP dir s.first) (flat s.bh).length=(DM.Dm (bP dir s.first) (flat s.bh).length m.tick,0):=by
     unfold DM.cut DM.O2;rw[uX h.last,if_pos (by rw[h.last];rfl),aa,if_neg zQ,afD h0 hd];rfl
    rw[hc,if_neg sQ];have hcd:oP dir pre s [] (min sf (flat s.bh).length) (DM.Dm (bP dir s.first) (flat s.bh).length m.tick):=by
     unfold DM.Dm;rw[h.tick.last];dsimp only;rw[List.take_left];exact h.tick.put hg rfl (gn _) (A3 _ _)
    have amd:(DM.Dm (bP dir s.first) (flat s.bh).length m.tick).ar=0/\(DM.Dm (bP dir s.first) (flat s.bh).length m.tick).dn=false:=by
     unfold DM.Dm;split
     ·exact Ix h0 hd
     ·exact Ix h0 hd
    exact sync hcd amd.1 amd.2
  obtain⟨m',e1,e2⟩:=aoG;refine⟨m',?_,e2⟩;unfold LD.BH;simp_all
 ·have zk:=hg.ok t xC;refine⟨zk.one,by have:=zk.top;omega,?_⟩;rw[zk.sz];rcases List.mem_append.1 xC with xC|xC
  ·rw[uX (h.body t xC)];have:=Um (l:=t.bh) (ly:=[]) (λp hp=>(zk.pl p hp).1) Iw
   grind
  ·simp only[aw] at xC;subst xC;rw[uX h.last];exact Um (λp hp=>(zk.pl p hp).1) ht
 ·rw[cC,jF] at xC;rw[uX (h.body t xC),(hg.ok t (by simp[xC])).sz]
def XY (dir:ByteArray) (P:List dN->Prop) (m:DM):Prop:=
 m.fs.length<=64/\ ∀cH,∃pre s ly sf,P (pre++[s])/\Good (pre++[s])/\lV ly=none/\wQ ly/\oP dir pre s ly sf (m.me cH)
def ES (dir:ByteArray) (P:List dN->Prop) (m:DM):Prop:=m.dn=true/\XY dir P m
variable {Q : List dN -> Prop}
def XY.imp {P:List dN->Prop} (h:XY dir P m) (k: ∀l s,P (l++[s])->Q (l++[s])):XY dir Q m:=
 ⟨h.1,λcH=>let⟨a,b,c,d,e,f⟩:=h.2 cH;⟨a,b,c,d,k _ _ e,f⟩⟩
def ES.imp {P:List dN->Prop} (h:ES dir P m) (k: ∀l,P l->Q l):ES dir Q m:=⟨h.1,h.2.imp λ_ _=>k _⟩
theorem tZ {a:List Nat} (ha:wQ a) (hb:wQ b):wQ (a++b):=λx hx=>(List.mem_append.1 hx).elim (ha x) (hb x)
theorem SD (n:Nat):wQ (tW n):=by
 intro x hx;unfold tW at hx;simp at hx;omega
def Uo (h:wQ p):wQ (dm p):=tZ (tZ (tZ (SD _) (SD _)) h) (SD _)
theorem adB (hk:k<(dm p).length) (hp:p.length<=262144):lV ((dm p).take k)=none:=by
 have hl:=qG p;by_cases h:k<12
 ·exact xG (.inl gQ)
 ·have e1:iS (dm p)=p.length:=by
   unfold dm;simp only[ao];exact Ir _ zQ _
  have e2:iS ((dm p).take k)=p.length:=by
   rw[<-e1,HD,HD];rw[fS zQ,fS zQ,fS zQ,fS zQ]
  refine xG (.inr (.inr (.inr ?_)))
  grind
theorem oP.re {m':DM} (h:oP dir pre s ly sf m) (hk:m'.ks=m.ks) (hb: ∀t∈pre,m'.get (bP dir t.first)=m.get (bP dir t.first)) (hf:s'.first=s.first)
  (hl:m'.get (bP dir s.first)=some (flat s'.bh++QQ,sf')) (hs:sf'<=(flat s'.bh++QQ).length):oP dir pre s' QQ sf' m':=by
 refine⟨by rw[hk];exact h.nd,?_,λt ht=>by rw[hb t ht];exact h.body t ht,by grind,hs⟩;rw[hk];have e:(pre++[s']).map (λs=>bP dir s.first)=(pre++[s]).map (λs=>bP dir s.first):=by simp[hf]
 rw[e];exact h.ks
theorem XZ (h:oP dir pre s [] (flat s.bh).length m) (hg:Good (pre++[s])) (hl:m.fs.length<=64):XY dir (λl=>l=pre++[s]) m:=by
 refine⟨hl,λcH=>?_⟩;obtain⟨k,hk,_,h1,h2,h3⟩:=h.me (cH:=cH) hg;rw[gn] at hk h3;have ik:k=0:=by omega
 subst ik;refine⟨pre,s,[],(flat s.bh).length,rfl,hg,Iw,λx hx=>(by cases hx),h.re h1 (λt ht=>by rw[h2 t ht,h.body t ht]) rfl ?_ sQ⟩
 grind
def Up (h:oP dir pre s [] (flat s.bh).length m) (hg:Good (pre++[s])) (hl:m.fs.length<=64) (hd:m.dn=true):ES dir (λl=>l=pre++[s]) m:=⟨hd,XZ h hg hl⟩
abbrev dN.plus (s:dN) (p:List Nat):dN:=⟨s.first,s.bh++[p],s.size+(dm p).length⟩
theorem Uq (h:oP dir pre s (dm p) (flat s.bh).length m) (hg:Good (pre++[s])) (xp:Good (pre++[s.plus p])) (hp:p.length<=262144) (hl:m.fs.length<=64) (hd:m.dn=true):ES dir (λl=>l=pre++[s]\/l=pre++[s.plus p]) m:=by
 refine⟨hd,hl,λcH=>?_⟩;have Gb:wQ (dm p):=Uo ((xp.ok (s.plus p) sQ).pl p sQ).2;obtain⟨k,hk,_,h1,h2,h3⟩:=h.me (cH:=cH) hg;rw[aa] at hk;rw[List.take_append,az (Nat.le_add_right _ _),Nat.add_sub_cancel_left] at h3;by_cases sj:k<(dm p).length
 ·refine⟨pre,s,(dm p).take k,(flat s.bh).length+k,.inl rfl,hg,adB sj hp,λx hx=>Gb x (dI hx),h.re h1 (λt ht=>by rw[h2 t ht,h.body t ht]) rfl h3 (by simp_all)⟩
 ·refine⟨pre,s.plus p,[],(flat s.bh).length+k,.inr rfl,xp,Iw,λx hx=>(by cases hx),h.re h1 (λt ht=>by rw[h2 t ht,h.body t ht]) rfl ?_ ?_⟩
  ·rw[h3,az zQ,Cr,Iv,gn]
  ·rw[Cr,Iv,gn,aa];omega
theorem GO (hd:m.dn=false) (f:DM->DM):(m.tick.dn=true/\m.write 0 f=(m.tick,12))\/(m.tick.dn=false/\m.write 0 f=(f m.tick,0)):=by
 cases h:m.tick.dn with
 |true=>left;exact⟨rfl,by unfold DM.write;grind⟩
 |false=>right;exact⟨rfl,by unfold DM.write;grind⟩
structure oC (x:LD) (pre:List dN) (s:dN):Prop where
 bC:x.L.bC=pre++[s]
 g:Good (pre++[s])
 d:oP x.L.dir pre s [] (flat s.bh).length x.m
 dn:x.m.dn=false
 sz:x.m.sz<=4194304
 fl:x.m.fs.length<=64
 d1:1<=x.L.dir.size
 d2:x.L.dir.size<=11
 r1:64<=x.L.room
 r2:x.L.room<=262144
theorem oC.last (h:oC x pre s):x.L.last=s:=by unfold LM.last;rw[h.bC];simp
theorem oC.name (h:oC x pre s):x.L.fc=bP x.L.dir s.first:=by unfold LM.fc;rw[h.last]
theorem oC.next (h:oC x pre s):x.L.next=s.first+s.bh.length:=by unfold LM.next;rw[h.last]
theorem Ya (m:DM) (n:ByteArray):(m.km n).dn=m.dn:=by unfold DM.km;split<;>rfl
theorem Ur (m:DM) (n:ByteArray):(m.km n).fs.length=m.fs.length:=by
 have:(m.km n).ks=m.ks:=by
  unfold DM.km;split
  ·rfl
  ·grind [Lf]
 have:=congrArg ba this
 grind [DM.vL]
theorem B5 (m:DM):m.tick.fs.length=m.fs.length:=by rw[m.Au]
theorem oC.sync (h:oC x pre s):(x.sync.2=12/\ES x.L.dir (λl=>l=pre++[s]) x.sync.1.m)\/(x.sync.2=0/\oC x.sync.1 pre s/\x.sync.1.L= { x.L with safe:=(x.L.next:Int)-1 } /\x.sync.1.m.sz=x.m.sz):=by
 have e:x.m.sync x.L.fc=x.m.write 0 (DM.km (bP x.L.dir s.first)):=by
  unfold DM.sync;rw[h.name,if_pos (by rw[h.d.last];rfl)]
 unfold LD.sync;dsimp only;rw[e];rcases GO h.dn (DM.km (bP x.L.dir s.first))with⟨ht,hw⟩|⟨ht,hw⟩
 ·rw[hw];exact .inl ⟨rfl,Up h.d.tick h.g (by rw[B5];exact h.fl) ht⟩
 ·rw[hw];have hd:=h.d.tick.km h.g;rw[gn] at hd;exact .inr ⟨rfl,⟨h.bC,h.g,hd,by rw[Ya];exact ht,by dsimp only;rw[DM.ER,x.m.yp];exact h.sz,by dsimp only;rw[Ur,B5];exact h.fl,h.d1,h.d2,h.r1,h.r2⟩,rfl,by dsimp only;rw[DM.ER,x.m.yp]⟩
def fI (l:List dN):List (List Nat):=(l.map (·.bh)).flatten
def oc (l:List dN):Option Nat:=l.head?.map (·.first)
theorem aa2 (l:List dN) (s:dN):fI (l++[s])=fI l++s.bh:=by simp[fI]
theorem Ol (l:List dN) (s:dN) (p:List Nat):fI (l++[s.plus p])=fI (l++[s])++[p]:=by simp[fI]
theorem QR (l:List dN) (s s':dN) (h:s'.first=s.first):oc (l++[s'])=oc (l++[s]):=by grind [oc]
theorem adC (l:List dN) (s n:dN):oc (l++[s]++[n])=oc (l++[s]):=by
 cases l with
 |nil=>rfl
 |cons a l=>rfl
theorem We.plus (h:We s) (hp:p.length<=262144) (hb:wQ p) (hn:s.first+s.bh.length<=99999999):We (s.plus p):=by
 refine⟨h.one,⟨h.top.1,by simp;omega⟩,?_,λq hq=>?_⟩
 ·show s.size+(dm p).length=_
  rw[h.sz,Cr,Iv,aa]
 ·rcases List.mem_append.1 hq with hq|hq
  ·exact h.pl q hq
  grind
theorem Good.plus (h:Good (pre++[s])) (hp:p.length<=262144) (hb:wQ p) (hn:s.first+s.bh.length<=99999999):Good (pre++[s.plus p]):=by
 refine⟨gG.last (s:=s) (s':=s.plus p) rfl h.lk,λt ht=>?_⟩;rcases List.mem_append.1 ht with ht|ht
 ·exact h.ok t (bM _ ht)
 ·simp only[aw] at ht;subst ht;exact(h.ok s sQ).plus hp hb hn
theorem Good.more (h:Good (pre++[s])) (hr:s.bh≠[]) (hn:s.first+s.bh.length<=99999999):Good (pre++[s]++[⟨s.first+s.bh.length,[],0⟩]):=by
 refine⟨h.lk.snoc rfl hr,λt ht=>?_⟩;rcases List.mem_append.1 ht with ht|ht
 ·exact h.ok t ht
 ·simp only[aw] at ht;subst ht;have:=(h.ok s sQ).one;exact⟨by simp;omega,⟨by omega,by simp;omega⟩,by rfl,λp hp=>by cases hp⟩
theorem oC.iF (h:oC x pre s) (hr:s.bh≠[]) (hn:x.L.next<=99999999):
  ((x.iF x.L.next).2=12/\ES x.L.dir (λl=>l=pre++[s]) (x.iF x.L.next).1.m/\(x.iF x.L.next).1.L=x.L)\/((x.iF x.L.next).2=3/\(x.iF x.L.next).1=x/\64<=x.m.fs.length)\/
  ((x.iF x.L.next).2=0/\oC (x.iF x.L.next).1 (pre++[s]) ⟨x.L.next,[],0⟩/\(x.iF x.L.next).1.L= { x.L with bC:=x.L.bC++[⟨x.L.next,[],0⟩] } /\(x.iF x.L.next).1.m.sz=x.m.sz):=by
 have nf:=h.next
 have qh:=List.length_pos_iff.2 hr;have hnk: ¬(x.m.get (bP x.L.dir x.L.next)).isSome=true:=λe=>by
  have:=h.d.ks.mem_iff.1 (DM.get_some.1 e);obtain⟨t,ht,e2⟩:=List.mem_map.1 this;have zk:=(h.g.ok t ht).top;have:=Le zQ zQ e2;rcases List.mem_append.1 ht with ht|ht
  ·have h1:=h.g.lk.Sr;rw[aD] at h1;have:=(List.pairwise_append.1 h1).2.2 t.first (List.mem_map.2 ⟨t,ht,rfl⟩) s.first sQ
   omega
  grind
 have zh:vM (bP x.L.dir x.L.next)=true:=by
  have:=h.d1;have:=h.d2;simp only[vM,A7,decide_eq_true_eq];omega
 unfold LD.iF;dsimp only;unfold DM.create;rw[if_neg (by simp[zh]),if_neg hnk];by_cases hl:64<=x.m.fs.length
 ·right;left;rw[if_pos hl];have e:x.m.write 3 (λm=>m.put (bP x.L.dir x.L.next) [] 0)=(x.m,3):=by unfold DM.write;rw[if_neg (by rw[h.dn];simp),if_pos sQ]
  simp_all
 ·rw[if_neg hl];rcases GO h.dn (λm=>m.put (bP x.L.dir x.L.next) [] 0)with⟨ht,hw⟩|⟨ht,hw⟩
  ·left;rw[hw];exact⟨rfl,Up h.d.tick h.g (by rw[B5];omega) ht,rfl⟩
  ·right;right;rw[hw,if_pos rfl];have qg:x.m.tick.get (bP x.L.dir x.L.next)=none:=by
    rw[x.m.pX];cases hq:x.m.get (bP x.L.dir x.L.next)with
    |none=>rfl
    |some y=>grind
   have Jz:(x.m.tick.put (bP x.L.dir x.L.next) [] 0).ks=x.m.ks++[bP x.L.dir x.L.next]:=by
    show(cK (bP x.L.dir x.L.next) ([],0) x.m.tick.fs).map (·.1)=_
    rw[xL,x.m.Au,if_neg (show¬(getM (bP x.L.dir x.L.next) x.m.fs).isSome=true from hnk)];rfl
   have gv:bP x.L.dir x.L.next ∉ x.m.ks:=λhm=>hnk (DM.get_some.2 hm)
   have xp:=h.g.more hr zQ;rw[<-nf] at xp;have adD: ∀t∈pre++[s],(x.m.tick.put (bP x.L.dir x.L.next) [] 0).get (bP x.L.dir t.first)=some (flat t.bh,(flat t.bh).length):=λt ht=>by
    rw[Lh,x.m.pX]
    ·rcases List.mem_append.1 ht with ht|ht
     ·exact h.d.body t ht
     ·simp only[aw] at ht;subst ht;have:=h.d.last
      grind
    ·intro e;refine gv (e▸h.d.ks.mem_iff.2 (List.mem_map.2 ⟨t,ht,rfl⟩))
   have iP:(x.m.tick.put (bP x.L.dir x.L.next) [] 0).fs.length=x.m.fs.length+1:=by
    have:=congrArg ba Jz;rw[aa,DM.vL,DM.vL] at this;exact this
   have ame:(x.m.tick.put (bP x.L.dir x.L.next) [] 0).sz=x.m.sz:=by
    rw[DM.SC qg,x.m.yp];simp
   refine⟨rfl,⟨by dsimp only;rw[h.bC],xp,⟨?_,?_,adD,?_,by simp⟩,ht,by dsimp only;rw[ame];exact h.sz,?_,h.d1,h.d2,h.r1,h.r2⟩,rfl,ame⟩
   ·dsimp only;rw[Jz,List.nodup_append];exact⟨h.d.nd,by simp,λa ha b hb e=>gv gQ⟩
   ·dsimp only;rw[Jz,aD];exact h.d.ks.append (List.Perm.refl _)
   ·exact rl
   grind
theorem oC.adE (h:oC x pre s) (hn:x.L.next<=99999999):
  (x.room.2=12/\ES x.L.dir (λl=>l=pre++[s]) x.room.1.m/\x.room.1.L.bC=x.L.bC/\x.room.1.L.dir=x.L.dir/\x.room.1.L.room=x.L.room)\/(x.room.2=3/\oC x.room.1 pre s/\x.room.1.L.dir=x.L.dir/\x.room.1.L.room=x.L.room/\64<=x.m.fs.length/\x.L.room<=s.size)\/
  (x.room.2=0/\ ∃oG s',oC x.room.1 oG s'/\x.room.1.L.next=x.L.next/\x.room.1.L.dir=x.L.dir/\x.room.1.L.room=x.L.room/\x.room.1.m.sz=x.m.sz/\((oG=pre/\s'=s/\ ¬x.L.room<=s.size)\/(oG=pre++[s]/\s'=⟨x.L.next,[],0⟩/\x.L.room<=s.size))):=by
 unfold LD.room;rw[h.last];by_cases hr:x.L.room<=s.size
 ·rw[if_pos hr];have ct:s.bh≠[]:=λe=>by
   have h1:=(h.g.ok s sQ).sz;have h2:=h.r1
   grind [flat]
  dsimp only;rcases h.sync with⟨e,hf⟩|⟨e,hu,eL,eS⟩
  ·left;have Ld:x.sync.1.L.bC=x.L.bC/\x.sync.1.L.dir=x.L.dir/\x.sync.1.L.room=x.L.room:=by
    unfold LD.sync;dsimp only;grind
   grind
  ·rw[if_neg zQ];have nf:x.sync.1.L.next=x.L.next:=by rw[hu.next,h.next]
   have amf:x.sync.1.L.dir=x.L.dir:=by rw[eL]
   have KQ:x.sync.1.L.room=x.L.room:=by rw[eL]
   have Om:x.sync.1.m.fs.length=x.m.fs.length:=by
    have h1:=h.d.ks.length_eq;have h2:=hu.d.ks.length_eq;rw[DM.vL] at h1 h2;rw[h1,h2];simp
   rw[<-nf];rcases hu.iF ct zQ with⟨a,b,c⟩|⟨a,b,c⟩|⟨a,b,c,d⟩
   ·left
    grind
   ·right;left
    grind
   ·right;right;refine⟨a,_,_,b,?_,by grind,by grind,d.trans eS,.inr ⟨rfl,rfl,hr⟩⟩;rw[b.next];simp
 ·rw[if_neg hr]
  grind
structure Lay (x:LD) (pre:List dN) (s:dN) (p:List Nat):Prop where
 bC:x.L.bC=pre++[s.plus p]
 g0:Good (pre++[s])
 g:Good (pre++[s.plus p])
 d:oP x.L.dir pre s (dm p) (flat s.bh).length x.m
 pl:p.length<=262144
 dn:x.m.dn=false
 sz:x.m.sz<=4194304
 fl:x.m.fs.length<=64
 d1:1<=x.L.dir.size
 d2:x.L.dir.size<=11
 r1:64<=x.L.room
 r2:x.L.room<=262144
theorem Lay.last (h:Lay x pre s p):x.L.last=s.plus p:=by unfold LM.last;rw[h.bC];simp
theorem Lay.sync (h:Lay x pre s p):(x.sync.2=12/\ES x.L.dir (λl=>l=pre++[s]\/l=pre++[s.plus p]) x.sync.1.m)\/(x.sync.2=0/\oC x.sync.1 pre (s.plus p)/\x.sync.1.L.dir=x.L.dir/\x.sync.1.L.room=x.L.room):=by
 have hn:x.L.fc=bP x.L.dir s.first:=by unfold LM.fc;rw[h.last]
 have e:x.m.sync x.L.fc=x.m.write 0 (DM.km (bP x.L.dir s.first)):=by
  unfold DM.sync;rw[hn,if_pos (by rw[h.d.last];rfl)]
 unfold LD.sync;dsimp only;rw[e];rcases GO h.dn (DM.km (bP x.L.dir s.first))with⟨ht,hw⟩|⟨ht,hw⟩
 ·rw[hw];exact .inl ⟨rfl,Uq h.d.tick h.g0 h.g h.pl (by rw[B5];exact h.fl) ht⟩
 ·rw[hw];have hd:=h.d.tick.km h.g0;have iP:flat s.bh++dm p=flat (s.plus p).bh:=by show _=flat (s.bh++[p]);rw[Cr,Iv]
  have sk:oP x.L.dir pre (s.plus p) [] (flat (s.plus p).bh).length (x.m.tick.km (bP x.L.dir s.first)):=by
   refine hd.re rfl (λ_ _=>rfl) rfl ?_ sQ;rw[hd.last,iP,gn]
  exact .inr ⟨rfl,⟨h.bC,h.g,sk,by rw[Ya];exact ht,by dsimp only;rw[DM.ER,x.m.yp];exact h.sz,by dsimp only;rw[Ur,B5];exact h.fl,h.d1,h.d2,h.r1,h.r2⟩,rfl,rfl⟩
theorem oC.lay (h:oC x pre s) (hp:p.length<=262144) (hb:wQ p) (hn:x.L.next<=99999999):
  ((x.lay p).2=12/\ES x.L.dir (λl=>l=pre++[s]\/l=pre++[s.plus p]) (x.lay p).1.m/\(x.lay p).1.L=x.L)\/((x.lay p).2=11/\(x.lay p).1=x/\4194304<x.m.sz+(dm p).length)\/
  ((x.lay p).2=0/\Lay (x.lay p).1 pre s p/\(x.lay p).1.L=x.L.add p):=by
 have nf:=h.next
 have xp:=h.g.plus hp hb zQ;have hl:=h.d.last;rw[gn] at hl;have eA:x.m.append (bP x.L.dir s.first) (dm p)=if 4194304-x.m.sz<(dm p).length then(x.m,11)else(x.m.tick.put (bP x.L.dir s.first) (flat s.bh++dm p) (flat s.bh).length,if x.m.tick.dn then 12 else 0):=by
  unfold DM.append;rw[hl,if_neg (by rw[h.dn];simp)]
 unfold LD.lay;dsimp only;rw[h.name];by_cases gd:4194304-x.m.sz<(dm p).length
 ·right;left;rw[if_pos gd] at eA;rw[eA];exact⟨rfl,rfl,by omega⟩
 ·rw[if_neg gd] at eA;have cB:x.m.tick.get (bP x.L.dir s.first)=some (flat s.bh,(flat s.bh).length):=by rw[x.m.pX];exact hl
  have hd:oP x.L.dir pre s (dm p) (flat s.bh).length (x.m.tick.put (bP x.L.dir s.first) (flat s.bh++dm p) (flat s.bh).length):=
   h.d.tick.put h.g rfl rfl gQ
  have jN:(x.m.tick.put (bP x.L.dir s.first) (flat s.bh++dm p) (flat s.bh).length).dn=x.m.tick.dn:=rfl;have iP:(x.m.tick.put (bP x.L.dir s.first) (flat s.bh++dm p) (flat s.bh).length).fs.length<=64:=by
   have hk:(x.m.tick.put (bP x.L.dir s.first) (flat s.bh++dm p) (flat s.bh).length).ks=x.m.tick.ks:=Lf gQ;have:=congrArg ba hk;rw[DM.vL,DM.vL,B5] at this;rw[this];exact h.fl
  cases ht:x.m.tick.dn with
  |true=>
   left;rw[ht,if_pos rfl] at eA;rw[eA];exact⟨rfl,Uq hd h.g xp hp iP (jN.trans ht),rfl⟩
  |false=>
   right;right;rw[ht,if_neg oU] at eA;rw[eA,if_pos rfl];refine⟨rfl,⟨?_,h.g,xp,hd,hp,jN.trans ht,?_,?_,h.d1,h.d2,h.r1,h.r2⟩,rfl⟩
   ·show x.L.bC.dropLast++[⟨x.L.last.first,x.L.last.bh++[p],x.L.last.size+(dm p).length⟩]=_
    rw[h.last,h.bC,jF]
   ·have:=DM.K6 (bs:=flat s.bh++dm p) (s':=(flat s.bh).length) cB;rw[aa,x.m.yp] at this;have:=h.sz;dsimp only;omega
   omega
structure Kept (x:LD) (pre:List dN) (s:dN) (p:List Nat) (y:LD) (oG:List dN) (s':dN):Prop where
 up:oC y oG s'
 fst:oc (oG++[s'])=oc (pre++[s])
 dir:y.L.dir=x.L.dir
 room:y.L.room=x.L.room
theorem oC.iD (h:oC x pre s) (hp:p.length<=262144) (hb:wQ p):
  ((x.iD 0 p).2.2=12/\ES x.L.dir (λl=>oc l=oc (pre++[s])/\(fI l=fI (pre++[s])\/fI l=fI (pre++[s])++[p])/\((∀t∈pre,x.L.room<=t.size)-> ∀t∈l.dropLast,x.L.room<=t.size)) (x.iD 0 p).1.m)\/
  ((x.iD 0 p).2.2=0/\(x.iD 0 p).2.1=x.L.next/\ ∃oG s',Kept x pre s p (x.iD 0 p).1 oG s'/\fI (oG++[s'])=fI (pre++[s])++[p]/\
   ((oG=pre/\s'=s.plus p/\ ¬x.L.room<=s.size)\/(oG=pre++[s]/\s'=⟨x.L.next,[p],(dm p).length⟩/\x.L.room<=s.size)))\/
  ((x.iD 0 p).2.2≠0/\(x.iD 0 p).2.2≠12/\(∃oG s',Kept x pre s p (x.iD 0 p).1 oG s'/\fI (oG++[s'])=fI (pre++[s]))/\(99999999<x.L.next\/(64<=x.m.fs.length/\x.L.room<=s.size)\/4194304<x.m.sz+(dm p).length)):=by
 have nf:=h.next
 have eK:x.iD 0 p=if(x.append p).2.2≠0 then x.append p else((x.append p).1.sync.1,(x.append p).2.1,(x.append p).1.sync.2):=by
  unfold LD.iD;rw[if_neg sQ]
 have eA:x.append p=if 99999999<x.L.next then(x,0,1)else if x.room.2≠0 then(x.room.1,0,x.room.2)else if(x.room.1.lay p).2≠0 then((x.room.1.lay p).1,0,(x.room.1.lay p).2)else((x.room.1.lay p).1,x.L.next,0):=by
  unfold LD.append;rw[if_neg zQ]
 by_cases hn:99999999<x.L.next
 ·right;right;rw[if_pos hn] at eA;rw[eA,if_pos sQ] at eK;rw[eK];exact⟨by simp,by simp,⟨pre,s,⟨h,rfl,rfl,rfl⟩,rfl⟩,.inl hn⟩
 ·rw[if_neg hn] at eA;rcases h.adE zQ with⟨a,b,c,d,e⟩|⟨a,b,c,d,e,f⟩|⟨a,oG,s',b,c,d,e,Yb,f⟩
  ·left;rw[if_pos zQ] at eA;rw[eA,if_pos (by rw[a];simp)] at eK;rw[eK];exact⟨a,b.imp λl hl=>by grind⟩
  ·right;right;rw[if_pos zQ] at eA;rw[eA,if_pos (by rw[a];simp)] at eK;rw[eK];exact⟨by rw[a];simp,by rw[a];simp,⟨pre,s,⟨b,rfl,c,d⟩,rfl⟩,.inr (.inl ⟨e,f⟩)⟩
  ·rw[if_neg zQ] at eA;have FW:oc (oG++[s'])=oc (pre++[s]):=by
    rcases f with⟨rfl,rfl,_⟩|⟨rfl,rfl,_⟩
    ·rfl
    ·exact adC _ _ _
   have qU:fI (oG++[s'])=fI (pre++[s]):=by
    rcases f with⟨rfl,rfl,_⟩|⟨rfl,rfl,_⟩
    ·rfl
    ·rw[aa2];simp
   have Eu: ∀z:dN,(∀t∈pre,x.L.room<=t.size)-> ∀t∈(oG++[z]).dropLast,x.L.room<=t.size:=λz hq t ht=>by
    rw[jF] at ht;rcases f with⟨rfl,_,_⟩|⟨rfl,_,f⟩
    ·grind
    ·rcases List.mem_append.1 ht with ht|ht
     ·grind
     ·rw[aw] at ht;grind
   rcases b.lay hp hb zQ with⟨a1,b1,c1⟩|⟨a1,b1,c1⟩|⟨a1,b1,c1⟩
   ·left;rw[if_pos zQ] at eA;rw[eA,if_pos (by rw[a1];simp)] at eK;rw[eK];rw[d] at b1;refine⟨a1,b1.imp λl hl=>?_⟩;rcases hl with rfl|rfl
    ·exact⟨FW,.inl qU,Eu _⟩
    ·exact⟨(QR oG s' (s'.plus p) rfl).trans FW,.inr (by rw[Ol,qU]),Eu _⟩
   ·right;right;rw[if_pos zQ] at eA;rw[eA,if_pos (by rw[a1];simp)] at eK;rw[eK,b1];exact⟨by rw[a1];simp,by rw[a1];simp,⟨oG,s',⟨b,FW,d,e⟩,qU⟩,.inr (.inr zQ)⟩
   ·rw[if_neg zQ] at eA;rw[eA,if_neg sQ] at eK;rw[eK];have EI:(x.room.1.lay p).1.L.dir=x.L.dir:=by rw[c1];exact d
    have qh:(x.room.1.lay p).1.L.room=x.L.room:=by rw[c1];exact e
    have Xa:oc (oG++[s'.plus p])=oc (pre++[s]):=(QR oG s' (s'.plus p) rfl).trans FW;have jD:fI (oG++[s'.plus p])=fI (pre++[s])++[p]:=by rw[Ol,qU]
    rcases b1.sync with⟨a2,b2⟩|⟨a2,b2,c2,d2⟩
    ·left;rw[EI] at b2;refine⟨a2,b2.imp λl hl=>?_⟩;rcases hl with rfl|rfl
     ·exact⟨FW,.inl qU,Eu _⟩
     ·exact⟨Xa,.inr jD,Eu _⟩
    ·right;left;refine⟨a2,rfl,oG,s'.plus p,⟨b2,Xa,c2.trans EI,d2.trans qh⟩,jD,?_⟩;rcases f with⟨rfl,rfl,f⟩|⟨rfl,rfl,f⟩
     ·exact .inl ⟨rfl,rfl,f⟩
     ·exact .inr ⟨rfl,by simp[dN.plus],f⟩
section
variable {a : dN}
end
def LGr (L L':LM) (p:List Nat):Prop:=
 L'.dir=L.dir/\L'.room=L.room/\(L'.bC=L.bC\/L'.bC=L.bC++[⟨L.next,[],0⟩]\/L'.bC=L.bC.dropLast++[L.last.plus p]\/L'.bC=L.bC++[⟨L.next,[p],(dm p).length⟩])
theorem amg (x:LD):x.sync.1.L.dir=x.L.dir/\x.sync.1.L.room=x.L.room/\x.sync.1.L.bC=x.L.bC:=by grind [LD.sync]
theorem amh (x:LD) (n:Nat):(x.iF n).1.L.dir=x.L.dir/\(x.iF n).1.L.room=x.L.room/\((x.iF n).1.L.bC=x.L.bC\/(x.iF n).1.L.bC=x.L.bC++[⟨n,[],0⟩]):=by grind [LD.iF]
theorem ami (x:LD):x.room.1.L.dir=x.L.dir/\x.room.1.L.room=x.L.room/\(x.room.1.L.bC=x.L.bC\/x.room.1.L.bC=x.L.bC++[⟨x.L.next,[],0⟩]):=by
 obtain⟨a,b,c⟩:=amg x;unfold LD.room;split
 ·dsimp only;split
  ·grind
  ·obtain⟨d,e,f⟩:=amh x.sync.1 x.L.next
   grind
 grind
theorem ahS (x:LD) (p:List Nat):LGr x.L (x.append p).1.L p:=by
 obtain⟨a,b,c⟩:=ami x;have key:LGr x.L x.room.1.L p:=⟨a,b,c.imp id .inl⟩;have hq:LGr x.L (x.room.1.lay p).1.L p:=by
  unfold LD.lay;dsimp only;split
  ·refine⟨a,b,?_⟩
   show x.room.1.L.bC.dropLast++[⟨x.room.1.L.last.first,x.room.1.L.last.bh++[p],x.room.1.L.last.size+(dm p).length⟩]=_\/x.room.1.L.bC.dropLast++[⟨x.room.1.L.last.first,x.room.1.L.last.bh++[p],x.room.1.L.last.size+(dm p).length⟩]=_\/x.room.1.L.bC.dropLast++[⟨x.room.1.L.last.first,x.room.1.L.last.bh++[p],x.room.1.L.last.size+(dm p).length⟩]=_\/x.room.1.L.bC.dropLast++[⟨x.room.1.L.last.first,x.room.1.L.last.bh++[p],x.room.1.L.last.size+(dm p).length⟩]=_
   have hl:x.room.1.L.last=x.room.1.L.bC.getLast?.getD ⟨0,[],0⟩:=rfl;rcases c with c|c
   ·right;right;left;have:x.room.1.L.last=x.L.last:=by rw[hl,c];rfl
    rw[c,this]
   simp_all
  ·exact key
 unfold LD.append;split
 ·exact⟨rfl,rfl,.inl rfl⟩
 ·split
  ·exact⟨rfl,rfl,.inl rfl⟩
  grind
theorem oC.adF (h:oC x pre s): ∀t∈x.L.bC,t.first+t.bh.length<=100000000/\t.size<=4194304:=λt ht=>by
 rw[h.bC] at ht;have h1:=h.g.ok t ht;refine⟨h1.top.2,?_⟩;rw[h1.sz];rcases List.mem_append.1 ht with ht|ht
 ·exact ad (DM.B3 (h.d.body t ht)) h.sz
 ·simp only[aw] at ht;subst ht;have:=DM.B3 h.d.last;rw[gn] at this;exact ad this h.sz
theorem oC.adG (h:oC x pre s):x.L.bC.length<=64:=by
 have h1:=h.d.ks.length_eq;rw[DM.vL,ah,<-h.bC] at h1;have:=h.fl;omega
theorem oC.Lc (h:oC x pre s):pf x.L:=
 ⟨by rw[h.bC];simp,h.d1,h.d2,λt ht=>by have:=h.adF t ht;omega,ad h.r2 dQ⟩
theorem LGr.Lc {L':LM} (hg:LGr x.L L' p) (h:oC x pre s) (hp:p.length<=262144):pf L'/\L'.bC.length<=65:=by
 have hN:=h.adG;have hB:=h.adF;have iP:=qG p;have kG:x.L.last∈x.L.bC:=LM.xJ (by rw[h.bC];simp);have yA:=hB _ kG;have nf:x.L.next<=100000000:=yA.1
 obtain⟨a,b,c⟩:=hg;have hL: ∀(l:List dN),L'.bC=l->l≠[]->l.length<=65->(∀t∈l,t.first+t.bh.length<=100000001/\t.size<=5000000)->pf L'/\L'.bC.length<=65:=λl e h1 h2 h3=>
  ⟨⟨by grind,by rw[a];exact h.d1,by rw[a];exact h.d2,λt ht=>by rw[e] at ht;have:=h3 t ht;omega,by rw[b];exact ad h.r2 dQ⟩,by grind⟩
 rcases c with c|c|c|c
 ·exact hL _ c (by rw[h.bC];simp) zQ λt ht=>by have:=hB t ht;omega
 ·refine hL _ c sQ oQ λt ht=>?_;rcases List.mem_append.1 ht with ht|ht
  ·have:=hB t ht;omega
  ·simp only[aw] at ht;subst ht;simp;omega
 ·refine hL _ c sQ oQ λt ht=>?_;rcases List.mem_append.1 ht with ht|ht
  ·have:=hB t (List.dropLast_subset _ ht);omega
  ·simp only[aw] at ht;subst ht;simp only[dN.plus,aa,List.length_singleton];omega
 ·refine hL _ c sQ oQ λt ht=>?_;rcases List.mem_append.1 ht with ht|ht
  ·have:=hB t ht;omega
  ·simp only[aw] at ht;subst ht;simp;omega
abbrev ET:Value:=.iface 186 (.agg #[])
abbrev A8:List PanicEntry:=[{ v:=ET,recovered:=false }]
theorem Rec.xM (r:Rec):r.fJ=0\/r.fJ=2\/r.fJ=4\/r.fJ=7:=by
 have h:r.err=0\/r.err=4\/r.err=7:=by
  unfold Rec.err;split
  ·simp
  ·split<;>simp
 unfold Rec.fJ;rcases h with h|h|h<;>rw[h]
 ·by_cases h:262144<(ga r).length<;>simp[h]
 ·simp
 ·simp
variable {r : Rec}
theorem abX (h1:r.reads=[]) (h2:r.writes=[]) (h3:r.parts=[]) (h4:r.wR=[]) (h5:r.state= .zero):r.at w X aP aP aP aP aP aP:=by
 unfold Rec.at;rw[h1,h2,h3,h4,h5];exact⟨Sl.nil _ _ _,Sl.nil _ _ _,Sl.nil _ _ _,Sl.nil _ _ _,fg.nil _ _ _,fg.nil _ _ _⟩
theorem DY (h1:r.reads=[]) (h2:r.writes=[]) (h5:r.state= .zero):r.small:=by
 refine⟨by simp[h1],by simp[h2],by simp[h1],by simp[h2],?_⟩;rw[h5];exact⟨by simp[State.zero,Li],by simp[State.zero,Lj],by simp[State.zero,adH],by simp[State.zero,adI]⟩
def Lk (w:World) (Y:XS) (nb:Nat):Prop:= ∃x0 x1 x2 x3 x5 x6 x7 x8 x9 vm va,aH w Y nb [x0,x1,x2,x3,B true,x5,x6,x7,x8,x9,vm,va] nT
variable {nb : Nat}
def Lk.mv {A A':XS} (h:Lk w A nb) (m:Mv A w A' w'):Lk w' A' nb:=let⟨x0,x1,x2,x3,x5,x6,x7,x8,x9,vm,va,hr⟩:=h;⟨x0,x1,x2,x3,x5,x6,x7,x8,x9,vm,va,hr.mv m⟩
def dkR (db:Nat) (m:DM):pN:=⟨λw _ A=>Dk w A db m,λh _ m=>h.mv m⟩
def QS (db:Nat) (m:DM):Nat->pN
 |3=>dkR db m
 |_=>QT
def Us (nb db:Nat) (m:DM):Nat->pN
 |1=>⟨λw _ A=>Lk w A nb,λh _ m=>h.mv m⟩
 |3=>dkR db m
 |_=>QT
abbrev QU (w:World) (own:Nat->Nat) (nb db:Nat) (m:DM):Prop:=Hs (Us nb db m) w own
abbrev DQ (own:Nat->Nat) (nb db:Nat) (wa w':World) (P:DM->Prop):Prop:=NQ (Us nb db) own wa w' λ_ m=>P m
def jz (n:bo) (r:Rec):LD×Nat×Nat:=LD.iD ⟨n.L,n.m⟩ r.fJ.toNat (ga r)
abbrev Ll (n:bo) (r:Rec):bo:= { n with L:=(jz n r).1.L,m:=(jz n r).1.m }
def MQ (n:bo) (r:Rec) (m':DM):Prop:=(jz n r).2.2=12/\m'=(jz n r).1.m
def Lg.dk (h:Lg w F lb db L m):Dk w F db m:=let⟨_,_,_,_,_,_,h2,_,h4⟩:=h;h4.mono h2
def amj (n:bo) (r:Rec) (vp:Value) (v:Value) (n':bo):Prop:= ∃bx DI v2,v=ptr bx 0/\bx ∉ n.cl/\n'= { n with c:= { n.c with cm:=DI },bl:=cK r.aM bx n.bl,cl:=n.cl++[bx],C:=λb'=>if b'=bx then⟨r,vp,v2,r.parts,false⟩else n.C b' }
abbrev Yc (n:bo) (b:Nat) (d:B6) (DI:Value):bo:= { n with c:= { n.c with cm:=DI },cl:=n.cl++[b],C:=λb'=>if b'=b then d else n.C b' }
def Lm (n:bo) (b:Nat) (d:B6) (c:Nat):pN:=if c=tx b 4 then JE b d 4 else if c=tx b 5 then JE b d 5 else if c=tx b 6 then JE b d 6 else dR n c
variable {w0 wa : World} {own aG bN : Nat -> Nat} {n' : bo} {QP : DM -> Prop} {args : Array Value} {f : FuncId} {sg : dN} {vd vh vp vr vw : Value} {d : B6}
section
variable {n : bo} {b : Nat} {F : Nat -> pN}
theorem _root_.Go.aL.St.Wf {Q:Value->World->(Nat->Nat)->bo->Prop} (s:St w0 bN w X own F) (h:EU P f args w X (gF own) (λv wa w'=>NQ dR own wa w' (Q v w')) (λch wa w'=>ch=A8/\DQ own nb db wa w' QP)) (hf:enters P f=true)
  (k: ∀v w' X' aG n',Sn w0 bN w' X' aG n'->Q v w' aG n'->Mv (bQ own 4) w (bQ aG 4) w'->N v w' X') (hR: ∀wb,Fr (gF bN) w0 wb->DQ bN nb db w0 wb QP->R (.panicked A8) wb):eC P R X w true f args N:=
 s.t.Gc h hf (λ_ h=>h) (λv wa w' X' ⟨aG,n',e,h',q⟩ hle gv _ c=>k v w' X' aG n' (s.Yd hle gv c e h').1 q (s.Yd hle gv c e h').2)
 λch wa w' X' hq hle gv hT c wb pe=>by
  obtain⟨rfl,aG,m',e,hd,q⟩:=hq;have hx: ∀k,aG k≠0->X' k:=λk hk=>by
   by_cases AS:k<wa.heap.size
   ·exact c.sub k (s.x k λe0=>hk ((e k AS).1 e0))
   ·exact gv k ⟨by omega,hd.lt k hk⟩
  refine hR wb (hT.fr pe) ⟨aG,m',λk hk=>?_,hd.kp hx pe,q⟩;have h1:=s.e k hk;have h2:=e k (av hk (ad s.t.s.kp.size hle))
  grind
def DQ.imp {P P':DM->Prop} (h:DQ own nb db w w' P) (hp: ∀m,P m->P' m):DQ own nb db w w' P':=let⟨a,b,c,d,e⟩:=h;⟨a,b,c,d,hp _ e⟩
def _root_.Go.aL.St.Gc {Q:Value->World->(Nat->Nat)->bo->Prop} {Ye:DM->Prop} {Q0:Value->World->Prop} (s:St w0 bN w X own F) (h:EU P f args w X (gF own) (λv wa w'=>NQ dR own wa w' (Q v w')) (λch wa w'=>ch=A8/\DQ own nb db wa w' QP)) (hf:enters P f=true)
  (k: ∀v w' X' aG n',Sn w0 bN w' X' aG n'->Q v w' aG n'->Mv (bQ own 4) w (bQ aG 4) w'->N v w' X') (hp: ∀m',QP m'->Ye m'):
  eC P (EV (gF bN) w0 Q0 λch w'=>ch=A8/\DQ bN nb db w0 w' Ye) X w true f args N:=
 s.Wf h hf k λwb hf hd=>.inr ⟨A8,rfl,hf,rfl,hd.imp hp⟩
theorem EW (h:jy w own n) (hX:qV own X) (jl:oC ⟨n.L,n.m⟩ pre sg) (dh:r.at w (bQ own 4) vr vw vp vq vh vd) (mK:r.small) (By:(ga r).length<=2^33):
  EU pg 82 #[ptr n.nb 0,r.v vr vw vp vq vh vd] w X (gF own) (λv wa w'=>NQ dR own wa w' λ_ n'=>(jz n r).2.2≠12/\v=I (jz n r).2.2/\n'=Ll n r)
   (λch wa w'=>ch=A8/\DQ own n.nb n.db wa w' (MQ n r)):=by
 intro w0 hk;have s:=St.init h hX hk;replace dh:=dh.mv (yF hX hk);have h1:=dh.1.one;have h2:=dh.2.1.one;have h3:=dh.2.2.1.one;have h4:=dh.2.2.2.1.one;have h5:=dh.2.2.2.2.1.one;have h6:=dh.2.2.2.2.2.one;have hlk:pf (LD.append ⟨n.L,n.m⟩ (ga r)).1.L:=by
  by_cases hp:(ga r).length<=262144
  ·exact((ahS ⟨n.L,n.m⟩ _).Lc jl hp).1
  ·have e:LD.append ⟨n.L,n.m⟩ (ga r)=(⟨n.L,n.m⟩,0,2):=by unfold LD.append;rw[if_pos zQ]
   rw[e];exact jl.Lc
 have jR: ∀{n0 x:LD} (j:Nat),j=3-> ∀c,c≠j-> ∀w K A,(dR { n with L:=n0.L,m:=n0.m } c).p w K A->(dR { n with L:=x.L,m:=x.m } c).p w K A:=λ{n0 x} j hj=>by subst hj;exact ny
 refine Ln.1 λ_=>?_;refine cu (Dq (dh.mv (Mv.sub (s.sub 4))) mK λ_=>By) kQ s.has ?_;rintro ve DE w1 X1 hq pU nq ax;have s1:=s.since ax;obtain⟨vb,rfl,ob,yE⟩: ∃vb,ve= .tuple #[vb,I r.fJ]/\aL.one vb=true/\(r.fJ=0->Own w1 (made DE w1) DE.heap.size _ 1 vb ((ga r).map U1)):=by
  by_cases he:r.fJ≠0
  ·rw[if_pos he] at hq;exact⟨_,hq,rfl,λe=>absurd e he⟩
  ·rw[if_neg he] at hq;obtain⟨vb,e,ho⟩:=hq;exact⟨vb,by rw[e,Classical.byContradiction he],ho.sl.one,λ_=>ho⟩
 refine ajF (v:=vb) rfl (ajF (v:=I r.fJ) rfl ?_);refine ij (Q:=λ(K:Value->World->XS->Prop)=> ∀w X aG (x:LD) (z:Nat),Sn w0 own w X aG { n with L:=x.L,m:=x.m } ->pf x.L->(jz n r).1=(if z≠0 then x else x.sync.1)->(jz n r).2.2=(if z≠0 then z else x.sync.2)->K (I z) w X) ?_ λK22 amk=>?_
 ·intro w2 X2 lE x z s2 xt Lo zc;refine ij (Q:=λ(K:Value->World->XS->Prop)=> ∀w X aG (x:LD) (z:Nat),Sn w0 own w X aG { n with L:=x.L,m:=x.m } ->(jz n r).1=x->(jz n r).2.2=z->K (I z) w X) ?_ λK35 aml=>?_
  ·intro w3 X3 mY x z s3 Lo zc;have hs:=s3.rf;by_cases xH:z=12
   ·repeat' first|refine aJ ?_;intros|with_reducible apply cD
    refine sT kQ rfl ?_;refine s3.st (o:=4) 1 (s3.get 1) (λc=>if c=1 then Yf n.nb (dr (GG n.c n.DF n.vm n.va) 4 [B true]) nT else dR { n with L:=x.L,m:=x.m } c) zQ kQ (Nat.le_of_ble_eq_true rfl) rfl (λ_ _ _ h=>h) (λc hc w K A h=>by rw[if_neg hc];exact h) λw4 X4 lF s4 m4=>?_;clear hs;have hs:=s4.rf;repeat' refine ak ?_;intros
    (with_reducible refine SE ?_ ?_)
    ·kernel_rfl
    refine SF s4.has λwa nM=>s4.t.jc nM ⟨rfl,lF,x.m,s4.e,?_,zc.trans xH,by rw[Lo]⟩;have h:=s4.h.kp s4.x nM;exact h.to λc h0 h4 w K A h=>by
     by_cases e:c=1
     ·subst e;exact⟨_,_,_,_,_,_,_,_,_,_,_,h⟩
     ·rw[if_neg e] at h;rcases c with _|_|_|_|c<;>first|exact absurd rfl e|exact Lg.dk h|trivial
   ·repeat' first|refine aJ ?_;intros|with_reducible apply cD
    exact s3.xN λwa aI=>⟨by rw[zc];exact xH,by rw[zc],by unfold Ll;rw[Lo]⟩
  have hs:=s2.rf;have hr:=s2.v.1;by_cases hz:z=0
  ·rw[if_neg zQ] at Lo zc;repeat' refine aJ ?_;intros
   refine yP (Iu (s2.get 3) xt (s2.fxc 3)) kQ s2.has (s2.sub 3) λv ze w3 X3 ⟨hv,G3,hG3,Xb⟩ qB mz _ c3=>?_;obtain⟨mY,s3,m3⟩:=s2.Dh (F':=dR { n with L:=x.sync.1.L,m:=x.sync.1.m }) 3 c3 (λ_ e=>e) G3 (λk af=>(hG3 k af).imp id λe=>⟨mz k e,ad qB e.1⟩) (λK _=>Xb) (jR (n0:=x) (x:=x.sync.1) 3 rfl);subst hv;exact aml _ _ _ _ _ s3 Lo zc
  ·rw[if_pos hz] at Lo zc;repeat' refine aJ ?_;intros
   exact aml _ _ _ _ _ s2 Lo zc
 have hs:=s1.rf;have hr:=s1.v.1;have ek:jz n r=LD.iD ⟨n.L,n.m⟩ r.fJ.toNat (ga r):=rfl;unfold LD.iD at ek;by_cases he:r.fJ=0
 ·rw[he] at ek⊢;repeat' refine aJ ?_;intros
  have ho:=yE he;refine yP (Yg (s1.get 3) jl.Lc (by have:=jl.adG;grind) (s1.fxc 3) ho.sl λk af=>⟨nq k af,λ(e:own k=3)=>by have:=(s.nw (ad pU af.1)).1;omega⟩) kQ s1.has (s1.sub 3) λv xu w2 X2 ⟨hv,G2,hG2,xp⟩ lu ka _ c2=>?_;obtain⟨lE,s2,m2⟩:=s1.Dh (F':=dR { n with L:=(LD.append ⟨n.L,n.m⟩ (ga r)).1.L,m:=(LD.append ⟨n.L,n.m⟩ (ga r)).1.m }) 3 c2 (λ_ e=>e) G2 (λk af=>(hG2 k af).imp id λe=>⟨ka k e,ad lu e.1⟩) (λK _=>xp) (jR (n0:=⟨n.L,n.m⟩) 3 rfl);subst hv;repeat' refine ak ?_;intros
  refine amk _ _ _ _ _ s2 hlk ?_ ?_
  ·rw[ek];dsimp only;rw[if_neg sQ];split<;>rfl
  ·rw[ek];dsimp only;rw[if_neg sQ];split<;>rfl
 ·repeat' refine aJ ?_;intros
  have h0:r.fJ=(r.fJ.toNat:Int):=by rcases r.xM with e|e|e|e<;>rw[e]<;>rfl
  have h1:r.fJ.toNat≠0:=by omega
  rw[h0];rw[if_pos h1] at ek;exact amk _ _ _ ⟨n.L,n.m⟩ _ s1 jl.Lc (by rw[ek,if_pos h1]) (by rw[ek,if_pos h1])
theorem amm {b b':Nat} (hi:i<8) (hj:j<8) (h:tx b i=tx b' j):b=b'/\i=j:=by unfold tx at h;omega
theorem _root_.Go.aL.St.aqx (s:Sn w0 bN w X own n) (hb:own b=0/\w0.heap.size<=b) (hr:aH w X b (d.r.l aP aP d.vp aP aP aP++[d.v2,B d.ended]) cmT) (ho:Own w X w0.heap.size Xl 1 d.v2 (d.waits.map I1)) (hn: ∀g,eT d.v2 g->own g=0) (hp:Sl w (bQ own 4) 1 d.vp (d.r.parts.map I1)):
  b ∉ n.cl/\ ∃aG,St w0 bN w X aG (Lm n b d)/\Mv (bQ own 4) w (bQ aG 4) w:=by
 have no:b ∉ n.cl:=λh=>by have:own b=tx b 4:=(s.h.BJ h).1.1;exact ir.1 (this.symm.trans hb.1)
 have ne: ∀{i j:Nat},i<8->j<8->i≠j->tx b i≠tx b j:=λhi hj h e=>h (amm hi hj e).2;obtain⟨ia,s1,m1,e1,e2⟩:=s.jR (F':=λc=>if c=tx b 5 then JE b d 5 else dR n c) (j:=tx b 5) (N:=eT d.v2) (dY.nz s.rf nX) (· =tx b 5) (λ_ h=>h.elim) ir.1.symm ir.2.symm (λk e=>⟨ho.2.2 k e,hn k e,(ho.ge e).1⟩) ir.1
  (λaG e1 e2 m c hc=>by subst hc;rw[if_pos rfl];exact xv (ho.low (aq _)) e2) λc hc K A _ h=>by rw[if_neg hc];exact h
 have lK:ia b=0:=(e1 b (Ge ho hr (by rfl))).trans hb.1;obtain⟨lE,s2,m2,-,-⟩:=s1.jR (F':=Lm n b d) (j:=tx b 4) (N:=(· =b)) (dY.nz s1.rf nX) (· =tx b 4) (λ_ h=>h.elim) ir.1.symm ir.2.symm (λk e=>by subst e;exact⟨hr.1,lK,hb.2⟩) ir.1
  (λaG _ e2 m c hc=>by subst hc;unfold Lm;rw[if_pos rfl];exact⟨e2 b rfl,hr.2⟩) λc hc K A m h=>by
   unfold Lm;rw[if_neg hc];by_cases h5:c=tx b 5
   ·rw[if_pos h5] at h⊢;exact h
   ·rw[if_neg h5] at h⊢;by_cases h6:c=tx b 6
    ·rw[if_pos h6];exact(hp.mv m1).mv m
    ·rw[if_neg h6];exact h
 exact⟨no,lE,s2,m1.trans m2⟩
theorem SG (h:c<16):Lm n b d c=dR n c:=by unfold Lm tx;rw[if_neg zQ,if_neg zQ,if_neg zQ]
theorem ahT (hn: ∀i,i<16->i≠1->i≠10-> ∀w K A,(Yh n i).p w K A->(Yh n' i).p w K A) (hs:n'.al=n.al/\n'.ex=n.ex/\n'.A=n.A/\n'.cl=n.cl++[b]/\n'.C=λb'=>if b'=b then d else n.C b'): ∀c,(c≠1/\c≠10)-> ∀w K A,(Lm n b d c).p w K A->(dR n' c).p w K A:=λc hc w K A h=>by
 obtain⟨q1,q2,q3,q4,q5⟩:=hs;have e: ∀b',n'.gy b'↔n.gy b':=λb'=>by unfold bo.gy;rw[q1,q2]
 have eC:n'.C b=d:=by rw[q5];exact if_pos rfl
 unfold Lm at h;by_cases h4:c=tx b 4
 ·subst h4;rw[if_pos rfl] at h;rw[vI _ _ _ dQ];exact λ_=>by rw[eC];exact h
 rw[if_neg h4] at h;by_cases h5:c=tx b 5
 ·subst h5;rw[if_pos rfl] at h;rw[vI _ _ _ dQ];exact λ_=>by rw[eC];exact h
 rw[if_neg h5] at h;by_cases h6:c=tx b 6
 ·subst h6;rw[if_pos rfl] at h;rw[vI _ _ _ dQ];exact λ_=>by rw[eC];exact h
 rw[if_neg h6] at h;refine Xp (λhi p=>hn c hi hc.1 hc.2 w K A p) (λb' i hi ec p=>?_) h;by_cases hb:b'=b
 ·subst hb;rcases i with _|_|_|_|_|_|_|_|i<;>first|exact absurd ec h4|exact absurd ec h5|exact absurd ec h6|(simp only[zg,CW,e,q3] at p⊢;exact p)
 ·have eC':n'.C b'=n.C b':=by rw[q5];exact if_neg hb
  have el:b'∈n'.cl↔b'∈n.cl:=by rw[q4];simp[hb]
  rcases i with _|_|_|_|_|_|_|_|i<;>(simp only[zg,CW,e,el,eC',q3] at p⊢;exact p)
theorem On (h:jy w own n) (hX:qV own X) (hp:Sl w (bQ own 4) 1 vp (r.parts.map I1)) (vJ:r.parts.length<=2^40) (pG:n.cl.length<=2^20):
  Ct pg 106 #[ptr n.nb 0,r.v aP aP vp aP aP aP] w X (gF own) λv wa w'=>NQ dR own wa w' λ_ n'=>amj n r vp v n':=by
 intro w0 hk;have s:=St.init h hX hk;replace hp:=hp.mv (yF hX hk);have h3:=hp.one;obtain⟨e1,e2,e3,rfl⟩:=hp.form;refine Nk.1 λ_=>?_;refine cu (EX (hp.mono (s.sub 4)) vJ) kQ s.has ?_;rintro v2 DE w1 X1 q1 pU nq Uf;have ov2:=q1.sl.one;have Lo:Own w1 X1 w0.heap.size _ 1 v2 _:=q1.up nq pU;have s1:=s.since Uf;obtain⟨g1,g2,g3,rfl⟩:=q1.sl.form;have hr:=s1.v.1;have o1:=s1.v.2.2.2.1;have hs:=s1.rf;repeat' first|refine ak ?_;intros|(refine Od hs ?_;intro bx w X gr ax gf hs bw)|(refine q1s hs ?_;intro _ _ _ w X hs ho)
 obtain⟨nb1,lE,s2,m2⟩:=(s1.since gf).aqx (b:=bx) (d:=⟨r,.slice e1 e2 e3,.slice g1 g2 g3,r.parts,false⟩) (s1.nw zQ) bw ((Lo.since gf).mono λ_ h=>h) (λg hg=>(s.nw (Lo.ge hg).1).1) (hp.mv ((yF s.x Uf.kp).trans (yF s1.x gf.kp)));replace s2:=s2.since hs;obtain⟨d,hd⟩: ∃d:B6,d=⟨r,.slice e1 e2 e3,.slice g1 g2 g3,r.parts,false⟩:=⟨_,rfl⟩;rw[<-hd] at s2;have q1:aH w (bQ lE 1) n.nb (GG n.c n.DF n.vm n.va) nT:=by have:=s2.get 1;rwa [SG dQ] at this
 have q10:Own w (bQ lE 10) 0 Yi 1 n.c.cm (n.cl.map λb=>[ptr b 0]):=by have:=s2.get 10;rwa [SG dQ] at this
 refine s2.ap1 (o:=8) 1 10 11 q1 q10 ho.sl (λr jS u hu=>?_) oQ (λv'=>dR (Yc n bx d v')) (λ_ _ _ _ h=>h) (λv' w' K A h=>?_) (λv' w' K A _ h=>by rwa [SG dQ] at h) (λv' c hc w' K A h=>ahT (n:=n) (n':=Yc n bx d v') (b:=bx) (d:=d) ?_ ⟨rfl,rfl,rfl,rfl,rfl⟩ c ⟨hc.1,hc.2.1⟩ w' K A h) λDI w3 X3 mY s3 m3=>?_
 ·rw[aw] at jS;subst jS;rw[aw] at hu;subst hu;rfl
 ·show Own w' A 0 Yi 1 v' ((n.cl++[bx]).map λb=>[ptr b 0])
  rw[aD];exact h
 ·intro i hi h1 h10 w K A h;rcases i with _|_|_|_|_|_|_|_|_|_|_|_|_|i<;>first|exact h|exact absurd rfl h1|exact absurd rfl h10
 clear hs hr;have hs:=s3.rf;have hr:=s3.v.1;repeat' refine ak ?_;intros
 have hb6:=(s3.get 6:dK w3 (bQ mY 6) nX n.c.bb (λk:bE=>k.v) xw n.bl).x.1;refine uU (kv:=λk:bE=>k.v) (k:=r.aM) (a:=bx) (et:=124) (s3.zP 6:) Ey (show xw w3 nX (ptr bx 0) bx from rfl) (λ_ h=>h.elim) sK kQ hs.has λw4 X4 c4 Ao=>?_;obtain⟨lF,s4,m4⟩:=s3.Dh (F':=dR { Yc n bx d DI with bl:=cK r.aM bx n.bl }) 6 c4 (λk e=>by rw[show k=n.c.bb from e];exact hb6) (bQ mY 6) (λ_ e=>.inl e) (λ_ _=>lv Ao hb6) ny;clear hs hr;have hs:=s4.rf
 skip
 exact s4.fin λwa hk=>⟨bx,DI,_,rfl,nb1,by rw[hd]⟩
end
def jq (t:bE) (st:cn) (ps:List Int):Rec:=⟨9,t,st,.zero,false,0,0,[],[],ps,[],.zero⟩
theorem afE (l:List Int):(iT encI l).length<=10+10*l.length:=by
 have h: ∀l:List Int,(l.map encI).flatten.length<=10*l.length:=by
  intro l
  induction l with
  |nil=>simp
  |cons x l ih=>
   have:=fz x;simp only[bm,cW,aa,aK];omega
 have h1:=fz (l.length:Int);have h2:=h l;unfold iT;rw[aa];omega
theorem Wg (t:bE) (st:cn) (ps:List Int):ga (jq t st ps)=encI 9++(nA t++(lx st++iT encI ps)):=by simp[ga,jq]
theorem afF (t:bE) (st:cn) (ps:List Int):(ga (jq t st ps)).length<=80+10*ps.length:=by
 have h1:=fz 9;have h2:=CX t;have h3:=uJ st;have h4:=afE ps;rw[Wg];simp only[aa];omega
def wS (d:pa) (i:Nat) (m:cJ) (lC:Value) (pJ:List (List Value)):pa:= { d with x:= { d.x with mn:=d.x.mn.later m.aV },vw:=lC,rw:=pJ,ws:=d.ws.take i++d.ws.drop (i+1) }
def Wh (n:bo) (t:bE) (d:pa) (r:Rec) (n':bo):Prop:=
 ((jz n r).2.2≠12/\(jz n r).2.2≠0/\ ∃ou,Told { Ll n r with al:=kc t n.al,va:=ou,ra:=n.ra++[EA (jz n r).2.2 t .zero false aP] } (d.ids.map λid=>(SH t id).o9 (20+n.c.id)) n')\/
 ((jz n r).2.2=0/\ ∃bx DI vp v2 ou vs,aL.one vs=true/\bx ∉ n.cl/\Told (Yc { Ll n r with al:=kc t n.al,bl:=cK t bx n.bl,va:=ou,ra:=n.ra++[EA 0 t d.x.mn false vs] } bx ⟨r,vp,v2,d.ids,false⟩ DI) (d.ids.map λid=>(SI r id).o9 (20+n.c.id)) n')
def QV (n:bo) (t:bE) (b:Nat) (n':bo):Prop:=Wh n t (n.A b) (jq t (n.A b).x.mn (n.A b).ids) n'
def Wi (n:bo) (m:cJ) (n':bo):Prop:=
 (∃iW,n'= { n with ck:=iW } /\NoW n m true)\/ML n m true n'\/ ∃(b i:Nat) (y:cJ) (iW:cn) (lC:Value) (pJ:List (List Value)) (n1:bo),FV n m true b i y/\n1= { ey n b (wS (n.A b) i m lC pJ)with ck:=iW } /\
  (((n.A b).ws.length≠1/\n'=n1)\/((n.A b).ws.length=1/\QV n1 m.aM b n'))
def adJ (n:bo) (m:cJ) (m':DM):Prop:= ∃(b i:Nat) (y:cJ),FV n m true b i y/\(n.A b).ws.length=1/\MQ n (jq m.aM ((n.A b).x.mn.later m.aV) (n.A b).ids) m'
section
variable {n : bo} {b : Nat}
theorem Yj {m:cJ} {vk vs vc:Value} {N M:Nat} (h:jy w own n) (hX:qV own X) (jl:oC ⟨n.L,n.m⟩ pre sg) (hm:m.at w (bQ own 4) vk vs vw vp vr vc vh vd) (fP:m.aV.may=true) (hk:sR N M n) (hN:N<=2^20):
  EU pg 56 #[ptr n.nb 0,m.v vk vs vw vp vr vc vh vd] w X (gF own) (λ_ wa w'=>NQ dR own wa w' λ_ n'=>Wi n m n') (λch wa w'=>ch=A8/\DQ own n.nb n.db wa w' (adJ n m)):=by
 intro w0 ik;have s0:=St.init h hX ik;replace hm:=hm.mv (yF hX ik);have hi:1<=n.c.id/\n.c.id<=2:=by rw[hk.id];decide
 clear h hX ik;refine Lp.1 λ_=>?_;refine s0.call (HA s0.h s0.x hk.pre fP hm.ranges hi (hk.get (m:=m) zQ).1 (λb hb=>(hk.act _ b hb).pq) (hk.get zQ).2) kQ λv w1 X1 ia n1 s1 q1 m1=>?_;rcases q1 with⟨rfl,q1⟩|⟨b,i,y,iW,hw,rfl,rfl⟩
 ·have hs:=s1.rf;repeat' refine ak ?_;intros
  exact s1.xN λ_ _=>q1.elim .inl λe=>.inr (.inl e)
 have hb:n.gy b:=.inl ⟨_,hw.g⟩;have CH:=hk.act _ b hw.g;have aqi:=CH.ws;have ac5:=CH.ids;have pK:i<(n.A b).ws.length:=(List.getElem?_eq_some_iff.1 hw.gI).1;obtain⟨ha,o1,o2,o3,o4⟩:=s1.va (b:=b) hb;have hs:=s1.rf;repeat' first|refine ak ?_;intros|(refine ph (Oo _ _) hs ?_;intro w X hs)
 have s2:=s1.since hs;refine s2.stN (o:=12) (tx b 0) (s2.h.act (b:=b) hb).1 (dR (ey { n with ck:=iW } b { n.A b with x:= { (n.A b).x with mn:=(n.A b).x.mn.later m.aV } })) zQ kQ sQ rfl rfl (λ_ _ _ h=>qD dQ h) Ij (λw3 X3 mY s3 m3=>?_) ir.1 ir.2;clear hs ha s1 s2;obtain⟨ha,-⟩:=s3.vs (n:= { n with ck:=iW }) hb;have hs:=s3.rf;have nu:=s3.h.act (b:=b) hb;rw[js] at nu;repeat' refine ak ?_;intros
 refine s3.ahB (tx b 0) (tx b 1) (tx b 3) nu.1 nu.2.1 (Of (F:=X3) (nu.2.1.mono (s3.sub _ ir.1)) (λ_ h=>h) (by show i<(n.A b).rw.length;rw[show(n.A b).rw.length=_ from nu.2.2.2.1.1];exact pK) nu.2.2.2.1.Xx) (λv=>dR (ey { n with ck:=iW } b (wS (n.A b) i m v ((n.A b).rw.take i++(n.A b).rw.drop (i+1))))) (λ_ _ _ _ h=>qD dQ h) (λ_ _ _ _ h=>qD dQ h)
  (λv' w' K A mv p=>qD dQ (by rw[vI _ _ _ dQ] at p;have p:=p hb;rw[js] at p;exact⟨(nu.2.2.2.1.cut i).mv mv,p.2⟩)) (λv'=>Qn) (λv4 w4 X4 lF s4 m4=>?_) (yD:=by unfold tx;omega)
 clear hs ha;have Ht:(n.A b).rw.length=(n.A b).ws.length:=nu.2.2.2.1.1;have hl7:((n.A b).rw.take i++(n.A b).rw.drop (i+1)).length=(n.A b).ws.length-1:=by simp;omega
 clear nu s3;obtain⟨d,hd⟩: ∃d,d=wS (n.A b) i m v4 ((n.A b).rw.take i++(n.A b).rw.drop (i+1)):=⟨_,rfl⟩;rw[<-hd] at s4;have ed:d.ids=(n.A b).ids/\d.x= { (n.A b).x with mn:=(n.A b).x.mn.later m.aV } /\d.rw.length=(n.A b).ws.length-1/\d.vw=v4/\d.sn=(n.A b).sn:=by rw[hd];exact⟨rfl,rfl,hl7,rfl,rfl⟩
 obtain⟨n3,sx⟩: ∃n3:bo,n3= { ey n b d with ck:=iW } :=⟨_,rfl⟩;replace s4:Sn w0 own w4 X4 lF n3:=by rw[sx];exact s4
 have e3:n3.A b=d:=by rw[sx];exact js
 have f3:n3.nb=n.nb/\n3.db=n.db/\n3.L=n.L/\n3.m=n.m/\n3.c=n.c/\n3.cl=n.cl/\n3.ra=n.ra/\n3.rm=n.rm/\n3.ex=n.ex/\n3.al=n.al:=by rw[sx];exact⟨rfl,rfl,rfl,rfl,rfl,rfl,rfl,rfl,rfl,rfl⟩
 have rC:n3.gy b:=by rw[sx];exact hb
 have hs:=s4.rf;have nu:=s4.h.act rC;obtain⟨ha,o1,o2,o3,o4⟩:=s4.va rC;rw[e3] at nu ha o1 o2 o3 o4;have oA:Sl w4 X4 36 d.vw (d.rw.map id):=by rw[wL];exact nu.2.1.sl.mono (s4.sub _ ir.1)
 rw[ed.2.2.2.1] at ha oA o1;by_cases h1:(n.A b).ws.length=1;case neg=>
  repeat' refine aJ ?_;intros
  exact s4.xN λ_ _=>.inr (.inr ⟨b,i,y,iW,_,_,n3,hw,by rw[sx,hd],.inl ⟨h1,rfl⟩⟩)
 have adK:=nu.2.2.2.2.2 (by rw[hd];exact CH.pq);obtain⟨q1,q2,q3,hqv⟩:=adK.form;rw[hqv] at adK;rw[show Jy d.x v4=Jy { d.x with vq:=.slice q1 q2 q3 } v4 by rw[<-hqv]] at ha;have ht6:d.x.aM=m.aM:=by
  have:=(show∀t b,getM t n3.al=some b->(n3.A b).x.aM=t from s4.h.gI 12 dQ dQ) m.aM b (by rw[f3.2.2.2.2.2.2.2.2.2];exact hw.g)
  rwa [e3] at this
 have dh:(jq d.x.aM d.x.mn d.ids).at w4 (bQ lF 4) aP aP (.slice q1 q2 q3) aP aP aP:=⟨Sl.nil _ _ _,Sl.nil _ _ _,adK,Sl.nil _ _ _,fg.nil _ _ _,fg.nil _ _ _⟩;have vH:d.ids.length<=80:=by rw[ed.1];exact ac5
 have By:(ga (jq d.x.aM d.x.mn d.ids)).length<=2^33:=by have:=afF d.x.aM d.x.mn d.ids;omega
 obtain⟨r,hr⟩: ∃r,r=jq d.x.aM d.x.mn d.ids:=⟨_,rfl⟩;have EJ:r=jq m.aM (n3.A b).x.mn (n3.A b).ids:=by rw[e3,hr,ht6]
 rw[<-f3.1,<-f3.2.1];repeat' refine aJ ?_;intros
 refine s4.Gc (Ye:=adJ n m) (EW (r:=jq d.x.aM d.x.mn d.ids) (vp:=.slice q1 q2 q3) s4.h s4.x (by rw[f3.2.2.1,f3.2.2.2.1];exact jl) dh (DY rfl rfl rfl) By) kQ (λv w5 X5 mA n5 s5 ⟨k1,k2,k3⟩ m5=>?_) λm' TV=>⟨b,i,y,hw,h1,?_⟩;case refine_2=>
  have e:jz n3 (jq d.x.aM d.x.mn d.ids)=jz n (jq m.aM ((n.A b).x.mn.later m.aV) (n.A b).ids):=by unfold jz;rw[f3.2.2.1,f3.2.2.2.1,ht6,ed.1,ed.2.1]
  unfold MQ at TV⊢;rw[e] at TV;exact TV
 rw[<-hr] at k1 k2 k3;obtain⟨z,hz⟩: ∃z,z=(jz n3 r).2.2:=⟨_,rfl⟩;rw[<-hz] at k1 k2;subst k2;have e5:n5.A b=d/\n5.nb=n3.nb/\n5.c=n.c/\n5.cl=n.cl/\n5.ra=[]/\n5.rm=[]/\n5.ex=n.ex:=by rw[k3];exact⟨e3,rfl,f3.2.2.2.2.1,f3.2.2.2.2.2.1,f3.2.2.2.2.2.2.1.trans hk.ra,f3.2.2.2.2.2.2.2.1.trans hk.rm,f3.2.2.2.2.2.2.2.2.1⟩
 have BB:n5.gy b:=by rw[k3];exact rC
 clear hs ha nu dh;have hs:=s5.rf;obtain⟨ha,-⟩:=s5.va BB;rw[e5.1] at ha;have QW:=adK.mv m5;rw[<-e5.2.1];have tQ: ∀{n':bo},Wh n3 m.aM d r n'->Wi n m n':=λ{n'} h=>.inr (.inr ⟨b,i,y,iW,_,_,n3,hw,by rw[sx,hd],.inr ⟨h1,by unfold QV;rw[<-EJ,e3];exact h⟩⟩);by_cases KL:z=0;case neg=>
  repeat' refine aJ ?_;intros
  refine s5.call (zF (code:=z) s5.h s5.x BB (by rw[e5.1,hd];exact CH.pq) (by rw[e5.2.2.2.2.1];simp) (by rw[e5.2.2.1];exact hi) (by rw[e5.2.2.2.2.2.1,e5.1];simp;omega)) kQ λv w6 X6 zR n6 s6 ⟨ou,Av,xO,q6,hl6⟩ _=>?_;have s7:=s6.to (Hx (e':=n.ex) λb' h'=>by rw[q6];show b'∈b::n5.ex;rw[e5.2.2.2.2.2.2];exact .tail _ h');exact s7.xN λ_ _=>tQ (.inl ⟨by rw[<-hz];exact k1,by rw[<-hz];exact KL,ou,Av,xO,by
   rw[q6,e5.1,if_pos (show d.x.pre=true by rw[ed.2.1];exact hw.pre),ht6,e5.2.2.1,<-hz,k3,f3.2.2.2.2.1,f3.2.2.2.2.2.2.2.2.1],by rw[hl6,e5.1,if_pos (show d.x.pre=true by rw[ed.2.1];exact hw.pre)];simp[k3]⟩)
 have wO:=(s5.h.act BB).2.2.1;rw[e5.1] at wO;repeat' refine aJ ?_;intros
 refine cu (AO ha (λ_ h=>h) (wO.sl.mono (s5.sub _ ir.1)) (by rw[ed.2.2.2.2];have:=CH.sn;omega)) kQ hs.has ?_;rintro vr wa6 w6 X6 ⟨ys,_,A4⟩ XU Lb tF;have s6:=s5.since tF;replace QW:=QW.mv (tF.gV (s5.sub 4));have ovr:=A4.sl.one;obtain⟨r1,r2,r3,rfl⟩:=A4.sl.form;clear hs A4 tF ha wO s5;have hs:=s6.rf;repeat' refine ak ?_;intros
 refine s6.call (Co (code:=0) (t:=.zero) (st:=d.x.mn) (on:=false) (vs:=.slice r1 r2 r3) s6.h s6.x BB ovr (by rw[e5.2.2.2.2.1];simp)) kQ λv w7 X7 B0 n7 s7 ⟨ou,q7⟩ m7=>?_;replace QW:=QW.mv m7;rw[show n5.nb=n7.nb by rw[q7]];clear hs;repeat' refine ak ?_;intros
 refine s7.call (On (r:=jq d.x.aM d.x.mn d.ids) (vp:=.slice q1 q2 q3) s7.h s7.x QW (by show d.ids.length<=_;omega) (by rw[q7];show n5.cl.length<=_;rw[e5.2.2.2.1];have:=hk.cl;have:=hk.mM;omega)) kQ λv w8 X8 Su n8 s8 ⟨bx,DI,v2,hv,gr,q8⟩ m8=>?_;subst hv;rw[<-hr] at q8;rw[show n7.nb=n8.nb by rw[q8]];have eC:n8.C bx=⟨r,.slice q1 q2 q3,v2,r.parts,false⟩:=by rw[q8];exact if_pos rfl
 have erp:r.parts=d.ids:=by rw[hr];rfl
 refine s8.call (HG (b:=bx) s8.h s8.x (by rw[q8];simp) (by rw[q8,q7];show 1<=n5.c.id/\n5.c.id<=2;rw[e5.2.2.1];exact hi) (by rw[eC,q8,q7];show n5.rm.length+r.parts.length<=_;rw[e5.2.2.2.2.2.1,erp];simp;omega)) kQ λv w9 X9 nv n9 s9 ⟨Av,xO,q9,hl9⟩ _=>?_;have QX:=s9.to (Hx (e':=n.ex) λb' h'=>by rw[q9,q8,q7];show b'∈b::n5.ex;rw[e5.2.2.2.2.2.2];exact .tail _ h')
 skip
 exact QX.xN λ_ _=>tQ (.inr ⟨by rw[<-hz];exact KL,bx,DI,.slice q1 q2 q3,v2,ou,.slice r1 r2 r3,ovr,by rw[q7] at gr;show bx ∉ n3.cl;rw[k3] at gr;exact gr,Av,xO,by
  rw[q9,eC,q8,q7,e5.1,ht6,show r.aM=m.aM by rw[hr];exact ht6,erp,k3,f3.2.2.2.2.2.2.2.2.1],by rw[hl9,eC,q8,q7,k3];simp[Yc,erp]⟩)
end
end Go.Proofs.YtgfijddlkhkopaaGreat