/-
 Part 12 of the proof: what the last text leans on.
-/
import Derived.Test.YtfndblbeikocdaaGreatW11
open List renaming length_append → ae, range → dg, length_map → aA, take_append_drop → cG, append_assoc → aC, length_take → aX, replicate → fm, map_append → bp, mem_singleton → ej, mem_of_getElem? → aH, any_map → qX, length_drop → dR, mem_cons → gp, not_mem_nil → fW, mem_of_mem_drop → ec, length_cons → bT, length_nil → bI, take_left' → wV, drop_left' → wW, length_singleton → bF, take_length → kR
open Nat renaming zero_le → aL, lt_of_lt_of_le → aN, zero_add → ed, mul_le_mul_right → e6, min_eq_left → iV, le_trans → af
open Go.Value renaming cells → aa
open BitVec renaming ofInt → cm
open Go.Op renaming unary → aU
open Go.IntKind renaming bits → nH, signed → ke
open Int renaming toNat_of_nonneg → tM, fdiv_eq_ediv_of_nonneg → gT
set_option linter.unusedVariables false
set_option linter.unusedSimpArgs false
namespace Go.Proofs.YtfndblbeikocdaaGreat
open Go.Proofs.Tryz renaming prog → pg
open Go.bB
set_option maxRecDepth 100000
set_option maxHeartbeats 1000000
set_option linter.unusedVariables false
set_option linter.unusedSimpArgs false
attribute [local irreducible] un jn aI aT ld1 ek st1 cA cp mE ea mF wh vy gG ga ab ax ay eW eV eU eC eF gE au fin aM aP aF vS y9 gg ix rr wi wj za zc zd fY iy ru wm wo ze zf
def xr (a b:Int):Int:=IntKind.u32.wrap (cm IntKind.u32.bits a^^^cm IntKind.u32.bits b).toNat
def WN (a b:Int):Int:=IntKind.u8.wrap (cm IntKind.u8.bits a^^^cm IntKind.u8.bits b).toNat
def an (a b:Int):Int:=IntKind.u32.wrap (cm IntKind.u32.bits a&&& cm IntKind.u32.bits b).toNat
def sr (a n:Int):Int:=a.fdiv (2^min n.toNat IntKind.u32.bits)
def ng (a:Int):Int:=IntKind.u32.wrap (-a)
def nt (a:Int):Int:=xr IntKind.u32.max a
def stp (c:Int):Int:=xr (sr c 1) (an 2197175160 (ng (an c 1)))
def it:Nat→Int→Int
 |0,c=>c
 |n+1,c=>stp (it n c)
def Af (i:Int):Int:=it 8 (IntKind.u32.wrap i)
def XZ (l:List Nat) (c:Int):Int:=l.foldl (fun (c:Int) (x:Nat)=>it 8 (xr c (IntKind.u32.wrap x))) c
def Ti (l:List Nat) (c:Int):Int:=l.foldl (fun (c:Int) (x:Nat)=>xr (sr c 8) (Af (WN (IntKind.u8.wrap c) x))) c
def Lz (l:List Nat):Int:=nt (if l.length<64 then XZ l 4294967295 else Ti l 4294967295)
def crc (l:List Nat):Nat:=(Lz l).toNat
def zq (n:Nat):List Nat:=[n % 256,n/256 % 256,n/65536 % 256,n/16777216 % 256]
def rz (p:List Nat):List Nat:=zq p.length++zq (crc (zq p.length))++p++zq (crc p)
theorem wrap32 (n:Int):IntKind.u32.wrap n=n % 4294967296:=by simp [IntKind.wrap,nH,ke]
theorem abx (a b:Int):0≤xr a b∧xr a b<4294967296:=by unfold xr;rw [wrap32];omega
theorem aaj (a b:Int):0≤WN a b∧WN a b<256:=by unfold WN;rw [RK];omega
theorem Ya (l:List Nat):0≤Lz l∧Lz l<4294967296:=abx _ _
theorem aak (l:List Nat):((crc l:Nat):Int)=Lz l:=tM (Ya l).1
theorem ady (n:Nat):(zq n).length=4:=rfl
theorem Yb (p:List Nat):(rz p).length=p.length+12:=by simp only [rz,ae,ady];omega
section
variable {P : Program} {R : Ending → World → Prop} {X : XS} {w : World} {m : Bool} {N : Value → Prop} {t : TypeId} {a b : Int}
theorem Yc (h:N (.int .u32 (xr a b))):ab P X w (binOp .xor t (.int .u32 a) (.int .u32 b)) N:=OE h
theorem agG (h:N (.int .u8 (WN a b))):ab P X w (binOp .xor t (.int .u8 a) (.int .u8 b)) N:=OE h
theorem aeQ (h:N (.int .u32 (an a b))):ab P X w (binOp .and t (.int .u32 a) (.int .u32 b)) N:=WO h
theorem aby (hb: ¬b<0) (h:N (.int .u32 (sr a b))):ab P X w (binOp .shr t (.int .u32 a) (.int .u64 b)) N:=AZ hb h
theorem aeR (h:N (.int .u32 (ng a))):ab P X w (aU .neg (.int .u32 a)) N:=cB (fun wa=>by simp [aU,ng,Op.intArith]) h
theorem aeS (h:N (.int .u32 (nt a))):ab P X w (aU .xor (.int .u32 a)) N:=cB (fun wa=>by simp [aU,nt,xr,Op.intBits,ke]) h
theorem WQ {k:IntKind} {g o i:Nat} {z:Int} (hz:z=i) (hi:i<P.arrayLen t) (ht:P.underlying t=some (.array (P.arrayLen t) (P.elem t))) (hs:(P.info? (P.elem t)).map (·.size)=some 1) (h:N (ptr g (o+i))):
  ab P X w (Instr.indexAt t (ptr g o) (.int k z)) N:=by
 subst hz;refine cB (v:=ptr g (o+i)) (fun wa=>?_) h
 show(Instr.indexAt t (.pointer (some ⟨g,o,none⟩)) _).run P wa=_
 rw [run_indexAt_array (h:=ht),if_pos zQ];cases hq:P.info? (P.elem t)with
 |none=>simp [hq] at hs
 |some inf=>
  have:inf.size=1:=by simpa [hq] using hs
  simp [sizeOf,typeInfo,hq,this,uW]
end
abbrev U4 (x:Int):Value:=.int .u32 x
theorem Rc {w:World} {X:XS} :Ct pg 150 #[] w X nX fun v wa w'=>v= .agg ((dg 256).map fun i:Nat=>U4 (Af (i:Int))).toArray:=by
 intro w0 hk;apply OF;unfold DY;have hs:=aj.init w0;have hT:Ft w0 nX w0 (aR w0) nX:=Ft.init fun _ h=>h.elim;refine Oq (l:=fm 256 (U4 0)) hs.has kQ fun b w1 X1 hb ao hr=>?_;have dq:Ft w0 nX w1 X1 (fun k=>k=b):=(hT.since ao).more fun k ah=>by subst ah;exact .inr ⟨hr.1,hb⟩
 refine Bg (fun n a _ _ w X=> ∃i:Nat,a=I (i:Nat)∧n=256-i∧i≤256∧Ft w0 nX w X (fun k=>k=b)∧bN w X b (((dg i).map fun i:Nat=>U4 (Af (i:Int)))++fm (256-i) (U4 0)) 243) 256 ⟨0,rfl,rfl,aL _,dq,by simpa using hr⟩ ?_;rintro n a _ _ w X ⟨i,rfl,rfl,hi,cq,uf⟩;repeat' first|refine aG ?_;intros|refine dj ?_ ?_<;>intros
 ·refine fT (fun n a c w' X'=> ∃j:Nat,a=I (j:Nat)∧c=U4 (it j (IntKind.u32.wrap i))∧n=8-j∧j≤8∧w'=w∧X'=X) 8 ⟨0,rfl,rfl,rfl,aL _,rfl,rfl⟩ ?_;rintro n a c _ _ ⟨j,rfl,rfl,rfl,hj,rfl,rfl⟩;repeat' first|refine aG ?_;intros|refine dj ?_ ?_<;>intros|(with_reducible apply aby);omega|(with_reducible apply aeQ)|(with_reducible apply aeR)|(with_reducible apply Yc)
  ·exact eR (8-(j+1)) zQ ⟨j+1,by simp,rfl,rfl,by omega,rfl,rfl⟩
  ·have WR:j=8:=by omega
   subst WR;have hal:pg.arrayLen 243=256:=by kernel_rfl
   refine WQ rfl (by rw [hal];omega) kQ kQ ?_;rw [ed];refine qS uf kQ (by simp;omega) rfl rfl cq.s.has fun w3 X3 c pL=>?_;have dG:Ft w0 nX w3 X3 (fun k=>k=b):=cq.dK c (fun k ah=>ah) fun k ah=>.inl ah;repeat' first|refine aG ?_;intros
   refine zg (256-(i+1)) zQ ⟨i+1,by simp,rfl,by omega,dG,?_⟩;have e:cH (((dg i).map fun i:Nat=>U4 (Af (i:Int)))++fm (256-i) (U4 0)) i (aa (U4 (it 8 (IntKind.u32.wrap (i:Int))))).toList=((dg (i+1)).map fun i:Nat=>U4 (Af (i:Int)))++fm (256-(i+1)) (U4 0):=by
    have hl:((dg i).map fun i:Nat=>U4 (Af (i:Int))).length=i:=by simp
    rw [show 256-i=(256-(i+1))+1 by omega,List.replicate_succ];unfold cH;rw [wV hl,List.range_succ,bp,List.map_singleton,aC,aC];have hd: ∀r:List Value,(((dg i).map fun i:Nat=>U4 (Af (i:Int)))++U4 0::r).drop (i+1)=r:=fun r=>by
     rw [←List.drop_drop,wW hl];rfl
    have h1:(aa (U4 (it 8 (IntKind.u32.wrap (i:Int))))).toList=[U4 (Af (i:Int))]:=rfl;rw [h1,bF,hd]
   rw [←e];exact pL
 ·have hi6:i=256:=by omega
  subst hi6;have pL:bN w X b ((dg 256).map fun i:Nat=>U4 (Af (i:Int))) 243:=by simpa using uf
  have hl:((dg 256).map fun i:Nat=>U4 (Af (i:Int))).length=256:=by simp
  generalize hL:((dg 256).map fun i:Nat=>U4 (Af (i:Int)))=L at pL hl⊢;have tW:L.all bB.one=true:=by rw [←hL];simp;intros;rfl
  refine ac3 pL.cells (Mv.refl _ _) kQ hl ?_;refine aal ?_;refine fe.2 ⟨by simpa [aa] using hl,fe.2 ⟨by simpa [aa] using tW,?_⟩⟩;refine aam ?_;refine fe.2 ⟨rfl,?_⟩;rw [List.drop_zero,List.take_of_length_le zQ];exact cq.fin fun wa bD=>rfl
theorem Qc {β:Type} (f:β→Nat→β) (l:List Nat) {i x:Nat} (c:β) (h:l[i]? =some x):(l.take (i+1)).foldl f c=f ((l.take i).foldl f c) x:=by
 rw [List.take_add_one,h];simp
theorem KQ {w:World} {X:XS} {vb:Value} {l:List Nat} (h:Sl w X 1 vb (l.map U1)):Ct pg 108 #[vb] w X nX fun v wa w'=>v=U4 (Lz l):=by
 intro w0 hk;replace h:=h.mv hk.cE;have hlen:=h.gw;apply Tj;unfold HV;have hs:=aj.init w0;repeat' first|refine aG ?_;intros|refine dj ?_ ?_<;>intros
 ·have h64:l.length<64:=by omega
  refine Bg (fun n a _ c w X=> ∃i:Nat,a=I (i:Nat)∧c=U4 (XZ (l.take i) 4294967295)∧n=l.length-i∧i≤l.length∧aj (aR w0) w0 X w) l.length ⟨0,rfl,rfl,rfl,aL _,hs⟩ ?_;clear hs;rintro n a _ _ w X ⟨i,rfl,rfl,rfl,hi,hs⟩;rcases dX l i with⟨cI,x,hx,hd⟩|⟨dV,hd⟩
  ·repeat' first|refine bQ ?_;intros|(with_reducible apply Yc)
   refine fT (fun n a c w' X'=> ∃j:Nat,a=I (j:Nat)∧c=U4 (it j (xr (XZ (l.take i) 4294967295) (IntKind.u32.wrap x)))∧n=8-j∧j≤8∧w'=w∧X'=X) 8 ⟨0,rfl,rfl,rfl,aL _,rfl,rfl⟩ ?_;rintro n a c _ _ ⟨j,rfl,rfl,rfl,hj,rfl,rfl⟩;repeat' first|refine aG ?_;intros|refine dj ?_ ?_<;>intros|(with_reducible apply aby);omega|(with_reducible apply aeQ)|(with_reducible apply aeR)|(with_reducible apply Yc)
   ·exact eR (8-(j+1)) zQ ⟨j+1,by simp,rfl,rfl,by omega,rfl,rfl⟩
   ·have WR:j=8:=by omega
    subst WR;refine zg (l.length-(i+1)) zQ ⟨i+1,by simp,?_,rfl,by omega,hs⟩;unfold XZ;rw [Qc _ l _ hx]
  ·have ug:i=l.length:=by omega
   subst ug;repeat' first|refine bQ ?_;intros|(with_reducible apply aeS)|((first|(with_reducible refine ai hs ?_)|(with_reducible refine ai (bE.trans hs) ?_));intro wa hk;(rw [Lz,if_pos h64,kR]))
 ·have h64: ¬l.length<64:=by omega
  refine ep Rc kQ hs.has ?_;rintro _ wa w1 X1 rfl hle eH ao;replace hs:=hs.trans ao;refine Oq (l:=fm 256 (U4 0)) hs.has kQ fun b w2 X2 hb dF hr=>?_;have yu:=hs.trans dF;have hT:Ft w0 nX w2 X2 (fun k=>k=b):=((Ft.init (w:=w0) (F0:=nX) fun _ h=>h.elim).since yu).more fun k ah=>by subst ah;exact .inr ⟨hr.1,by have:=hs.kp.size;omega⟩
  have hl:((dg 256).map fun i:Nat=>U4 (Af (i:Int))).length=256:=by simp
  have Yd: ∀i:Nat,i<256→((dg 256).map fun i:Nat=>U4 (Af (i:Int)))[i]? =some (U4 (Af (i:Int))):=fun i hi=>by simp [hi]
  have tW:((dg 256).map fun i:Nat=>U4 (Af (i:Int))).all bB.one=true:=by simp;intros;rfl
  generalize ((dg 256).map fun i:Nat=>U4 (Af (i:Int)))=L at hl Yd tW⊢;refine qS hr kQ (by simp) (by simpa [aa] using hl) (by simpa [aa] using tW) hT.s.has fun w3 X3 c pL=>?_;have dG:Ft w0 nX w3 X3 (fun k=>k=b):=hT.dK c (fun k ah=>ah) fun k ah=>.inl ah;have e:cH (fm 256 (U4 0)) 0 (aa (.agg L.toArray)).toList=L:=by
   unfold cH;simp [aa,hl]
  rw [e] at pL;have dZ:aj (aR w0) w0 X3 w3:=⟨⟨dG.s.kp.os,dG.s.kp.tape,dG.s.kp.output,dG.s.kp.size,fun k ah=>dG.s.kp.block k ⟨ah,fun h=>h.elim⟩⟩,fun k ah=>dG.s.sub k ⟨ah,fun h=>h.elim⟩,dG.s.has⟩;clear hs yu;have hs:=dZ;repeat' first|refine aG ?_;intros
  refine fT (fun n a c w X=> ∃i:Nat,a=I (i:Nat)∧c=U4 (Ti (l.take i) 4294967295)∧n=l.length-i∧i≤l.length∧w=w3∧X=X3) l.length ⟨0,rfl,rfl,rfl,aL _,rfl,rfl⟩ ?_;rintro n a _ _ _ ⟨i,rfl,rfl,rfl,hi,rfl,rfl⟩;rcases dX l i with⟨cI,x,hx,hd⟩|⟨dV,hd⟩
  ·repeat' first|refine bQ ?_;intros|(with_reducible apply aby);omega|(with_reducible apply agG)
   have hrg:=aaj (IntKind.u8.wrap (Ti (l.take i) 4294967295)) x;obtain⟨q,hq⟩: ∃q:Nat,WN (IntKind.u8.wrap (Ti (l.take i) 4294967295)) x=(q:Int):=⟨_,(tM hrg.1).symm⟩;have hal:pg.arrayLen 243=256:=by kernel_rfl
   refine WQ hq (by rw [hal];omega) kQ kQ ?_;rw [ed];have hcq:=pL.cells.ac4 (Yd q zQ);rw [ed] at hcq;repeat' first|refine aG ?_;intros|(with_reducible apply Yc)
   refine eR (l.length-(i+1)) zQ ⟨i+1,by simp,?_,rfl,by omega,rfl,rfl⟩;unfold Ti;rw [Qc _ l _ hx,←hq];rfl
  ·have ug:i=l.length:=by omega
   subst ug;repeat' first|refine bQ ?_;intros|(with_reducible apply aeS)|((first|(with_reducible refine ai hs ?_)|(with_reducible refine ai (bE.trans hs) ?_));intro wa hk;(rw [Lz,if_neg h64,kR]))
theorem Ye {P:Program} {X:XS} {w:World} {N:Value→Prop} {t:TypeId} {u:Nat} (k:Nat) (hk:k≤32) (h:N (.int .u32 ((u/2^k:Nat):Int))):ab P X w (binOp .shr t (.int .u32 (u:Int)) (.int .u64 (k:Int))) N:=by
 refine AZ zQ ?_;have e:((u:Int)).fdiv (2^min ((k:Int)).toNat IntKind.u32.bits)=((u/2^k:Nat):Int):=by
  rw [show min ((k:Int)).toNat IntKind.u32.bits=k by simp [nH];omega];rw [gT _ (by exact_mod_cast aL _)]
  norm_cast
 rw [e];exact h
theorem agH (a b c d:Int):Instr.fill (fun i=>some (i*1,1)) ((Array.range (4*1)).map ((Value.int .u8 0).cells[· % (Value.int .u8 0).cells.size]!)) [(0,.int .u8 a),(1,.int .u8 b),(2,.int .u8 c),(3,.int .u8 d)]=some #[.int .u8 a,.int .u8 b,.int .u8 c,.int .u8 d]:=by kernel_rfl
theorem Dn {w:World} {X F:XS} {v:Value} {bs:List Nat} {n:Nat} (h:Ow w F 5 1 v (bs.map U1)) (hF:FX F X w) (hl:bs.length≤2^40):
  Ct pg 146 #[v,U4 n] w X F fun r wa w'=> ∃F',(∀k,F' k→F k∨made wa w' k)∧Ow w' F' 5 1 r ((bs++zq n).map U1):=by
 intro w0 hk;replace h:=h.mv (hF.mv hk);have hT:=hF.ft hk;apply Tk;unfold HW;have hs:=aj.init w0;refine MO kQ kQ ?_;refine Ye 8 zQ ?_;refine MO kQ kQ ?_;refine Ye 16 zQ ?_;refine MO kQ kQ ?_;refine Ye 24 zQ ?_;refine MO kQ kQ ?_;refine Yf (bytes:=1) (rows:=(zq n).map U1) #[.int .u8 (n % 256:Nat),.int .u8 (n/256 % 256:Nat),.int .u8 (n/65536 % 256:Nat),.int .u8 (n/16777216 % 256:Nat)] (.int .u8 0) hT.s.has kQ kQ (by decide) (by decide) (agH _ _ _ _) (by simp) rfl rfl fun s w1 X1 ao ho=>?_;have dq:=hT.since ao;refine M7 kQ ao.has ((h.mv (ao.jQ hT.bm)).mono dq.bm) ho.sl (by intro r hr u hu;obtain⟨x,_,rfl⟩:=List.mem_map.1 hr;simp only [U1,ej] at hu;subst hu;rfl) (by simp [zq];omega) (by simp [zq];omega) fun v' w2 X2 c iH fH=>?_;have su: ∀g,v'.ownBlock=some g→F g∨(X2 g∧w1.heap.size≤g):=fun g hg=>by
  rcases fH with e|⟨g',e,dV⟩
  ·exact .inl (h.bm (e▸hg)).1
  ·rw [hg] at e;have:g=g':=Option.some.inj e;subst this;exact .inr ⟨(iH.bm hg).1,dV⟩
 have cq:Ft w0 F w2 X2 (fun k=>F k∨(X2 k∧w1.heap.size≤k)):=dq.dK c (fun k ah=>(h.bm ah).1) fun k ah=>ah;refine cq.fin fun wa bD=>⟨_,cq.oT bD fun _ h=>h,?_⟩;rw [bp];exact iH.tight.mv fun k ah jE=>⟨su k ah,bD.block k (iH.bm ah).1⟩
theorem Ft.abz {w0 w' wa:World} {X' F F':XS} {e k:Nat} {v:Value} {rows:List (List Value)} (h:Ft w0 nX w' X' (fun k=>F k∨made wa w' k)) (ho:Ow w' F' e k v rows) (ux: ∀k,F' k→F k∨made wa w' k):Ow w' (DZ w0 X') e k v rows:=
 ho.mono fun k hk=>⟨h.bm k (ux k hk),(h.v k (ux k hk)).elim (fun h=>h.elim) id⟩
theorem Re {w:World} {X:XS} {vp:Value} {p:List Nat} (h:Sl w X 1 vp (p.map U1)):Ct pg 103 #[vp] w X nX fun v wa w'=>
  if 262144<p.length then v= .tuple #[.slice none 0 0,I 2] else∃vb,v= .tuple #[vb,I 0]∧Ow w' (made wa w') 5 1 vb ((rz p).map U1):=by
 intro w0 hk;replace h:=h.mv hk.cE;have hlen:=h.gw;apply OG;unfold D4;have hs:=aj.init w0;repeat' first|refine aG ?_;intros|refine dj ?_ ?_<;>intros|((first|(with_reducible refine ai hs ?_)|(with_reducible refine ai (bE.trans hs) ?_));intro wa hk;(dsimp only;rw [if_pos zQ]))
 have hn: ¬262144<p.length:=by omega
 refine aan (e:=5) (k:=1) (c:=p.length+12) (bytes:=1) hs.has kQ (by simp) zQ zQ zQ fun v0 w1 X1 ao ho=>?_;have hT:Ft w0 nX w1 X1 (DZ w0 X1):=((Ft.init (w:=w0) (F0:=nX) fun _ h=>h.elim).since ao).OH;have hO:Ow w1 (DZ w0 X1) 5 1 v0 (([]:List Nat).map U1):=(ho.ow.tight).mono fun k ah=>⟨(ho.ow.bm ah).1,(ho.ge ah).1⟩;have Cy:IntKind.u32.wrap (p.length:Int)=(p.length:Nat):=by rw [wrap32];omega
 repeat' first|refine aG ?_;intros
 rw [Cy];refine hT.call (Dn hO (hT.fx fun _ h=>h) (by simp)) kQ (fun _ h=>h) fun v1 zr w2 X2 hq hle eH cq hc=>?_;obtain⟨F2,su,Gp⟩:=hq;have Gp:=Ft.abz cq Gp su;replace cq:=cq.OH;rw [List.nil_append] at Gp;refine ep (KQ (Gp.sl.mono cq.bm)) kQ cq.s.has ?_;rintro _ Ad w3 X3 rfl wT rP dZ;have M9:Ow w3 (DZ w0 X3) 5 1 v1 ((zq p.length).map U1):=(Gp.mv (dZ.jQ cq.bm)).mono fun k ah=>⟨dZ.sub k ah.1,ah.2⟩;replace cq:=(cq.since dZ).OH;rw [←aak];refine cq.call (Dn M9 (cq.fx fun _ h=>h) (by simp [zq])) kQ (fun _ h=>h) fun v4 KI w4 X4 hq hle eH fk hc=>?_;obtain⟨F4,KR,hO4⟩:=hq;have hO4:=Ft.abz fk hO4 KR;replace fk:=fk.OH;have hp4:Sl w4 X4 1 vp (p.map U1):=h.mv fk.Tl.mv;refine agI fk hO4 kQ hp4 (by intro r hr u hu;obtain⟨x,_,rfl⟩:=List.mem_map.1 hr;simp only [U1,ej] at hu;subst hu;rfl) (by simp [zq];omega) (by simp [zq];omega) fun v5 w5 X5 fU WT hc5 _=>?_;refine ep (KQ (h.mv fU.Tl.mv)) kQ fU.s.has ?_;rintro _ Qd w6 X6 rfl HX LA wO;have hO6:Ow w6 (DZ w0 X6) 5 1 v5 ((zq p.length++zq (crc (zq p.length))++p).map U1):=by
  rw [bp];exact(WT.mv (wO.jQ fU.bm)).mono fun k ah=>⟨wO.sub k ah.1,ah.2⟩
 replace fU:=(fU.since wO).OH;rw [←aak];refine fU.call (Dn hO6 (fU.fx fun _ h=>h) (by simp [zq];omega)) kQ (fun _ h=>h) fun v7 wa7 w7 X7 hq hle eH nv hc=>?_;obtain⟨F7,KS,Tm⟩:=hq;have Tm:=Ft.abz nv Tm KS;have ov:=Tm.one
 skip
 refine nv.Tl|>fun WD=>ai WD fun wa bD=>?_;dsimp only;rw [if_neg hn];refine⟨v7,rfl,?_⟩;exact Tm.mv fun k ah hl=>⟨⟨ah.2,aN hl bD.size⟩,bD.block k ah.1⟩
@[ext] structure eM where
 gH:Int
 gb:Int
 b6:eh
 aw:aO
 writes:List KV
 deriving DecidableEq
abbrev eM.l (f:eM) (vw:Value):List Value:=[I f.gH,I f.gb,I f.b6.iP,I f.b6.lu,I f.b6.sq,I f.aw.wall,I f.aw.dv,I f.aw.node,vw]
abbrev eM.v (f:eM) (vw:Value):Value:=.agg #[I f.gH,I f.gb,I f.b6.iP,I f.b6.lu,I f.b6.sq,I f.aw.wall,I f.aw.dv,I f.aw.node,vw]
abbrev FV:=Value×eM
abbrev FV.l (x:FV):List Value:=x.2.l x.1
def eM.may (f:eM):Bool:=decide (1≤f.gH∧f.gH≤12∧1≤f.gb∧f.writes≠[])&&decide ((⟨f.b6,f.aw,[],f.writes⟩:dB).err=0)
def eM.cmp (f g:eM):Int:=if f.aw.cmp g.aw≠0 then f.aw.cmp g.aw else f.gH-g.gH
theorem Fe {w:World} {X:XS} {f:eM} {vw:Value} (h:Sl w X 4 vw (f.writes.map KV.l)) (hb:f.writes.length≤2^40):
  Ct pg 172 #[f.v vw] w X nX fun v _ _=>v=B f.may:=by
 intro w0 hk;replace h:=h.mv hk.cE;have hl:=h.len;obtain⟨b1,n1,c1,rfl⟩:=h.form;apply VN;unfold KT;have hs:=aj.init w0;repeat' first|refine aG ?_;intros|refine dj ?_ ?_<;>intros|((first|(with_reducible refine ai hs ?_)|(with_reducible refine ai (bE.trans hs) ?_));intro wa hk;(simp_all [eM.may,←List.length_pos_iff]<;>omega))|(refine dH (pS  (p:=⟨f.b6,f.aw,[],f.writes⟩) (Sl.nil _ _ _) qA hb) kQ hs.has ?_;intro w X ao;replace hs:=hs.trans ao)
theorem KU {f g:eM} {v1 v2:Value} (h1:1≤f.gH∧f.gH≤12) (h2:1≤g.gH∧g.gH≤12):Pure pg 215 #[f.v v1,g.v v2] (I (f.cmp g)):=by
 intro w0;apply Tn;unfold HY;have hs:=aj.init w0;repeat' first|refine aG ?_;intros|refine dj ?_ ?_<;>intros|((with_reducible refine gh (iw _ _) ?_ hs.has ?_);(· kernel_rfl);intro w X ao;replace hs:=hs.trans ao)|(with_reducible refine fh hs ?_);(simp [eM.cmp, *])
theorem To {w:World} {X:XS} {f:eM} {vw:Value} (h:Sl w X 4 vw (f.writes.map KV.l)) (hb:f.writes.length≤2^40):
  Ct pg 217 #[f.v vw] w X nX fun v wa w'=> ∃oY,v=f.v oY∧Own w' (made wa w') wa.heap.size 118 4 oY (f.writes.map KV.l):=by
 intro w0 hk;replace h:=h.mv hk.cE;apply Rf;unfold Gq;have hs:=aj.init w0;refine ep (qf (h.mv (Mv.refl _ _)) hb) kQ hs.has ?_;rintro v wa w X ho hle eH ao;have kD:Own w X w0.heap.size 118 4 v (f.writes.map KV.l):=ho.up eH hle;replace hs:=hs.trans ao;have o1:=ho.sl.one;repeat' first|refine aG ?_;intros|((first|(with_reducible refine ai hs ?_)|(with_reducible refine ai (bE.trans hs) ?_));intro wa hk;(exact⟨v,rfl,(kD.kp hk).tight⟩))
theorem Na {w:World} {X:XS} :Ct pg 58 #[] w X nX fun v wa w'=> ∃sb,v=ptr sb 0∧bN w' (made wa w') sb [.slice none 0 0] 179:=by
 intro w0 hk;apply VO;unfold KW;have hs:=aj.init w0;repeat' first|refine aG ?_;intros|(with_reducible apply nI);(case hX=>exact hs.has);intro bx w X fi ao bH;have bE:=hs.trans ao;replace hs:=aj.iB ao.has|((first|(with_reducible refine ai hs ?_)|(with_reducible refine ai (bE.trans hs) ?_));intro wa hk;(exact⟨bx,rfl,bH.own.mv (Mv.one hk bH.1 ⟨fi,(bH.kp hk).lt⟩)⟩))
structure gO (w:World) (F:XS) (sb:Nat) (hv:Value) (hs:List FV):Prop where
 box:bN w F sb [hv] 179
 ow:Ow w F 156 9 hv (hs.map FV.l)
 ws: ∀x∈hs,Ow w F 118 4 x.1 (x.2.writes.map KV.l)
theorem gO.mv {w w':World} {F F':XS} {sb:Nat} {hv:Value} {hs:List FV} (h:gO w F sb hv hs) (v:Mv F w F' w'):gO w' F' sb hv hs:=⟨h.box.mv v,h.ow.mv v,fun x hx=>(h.ws x hx).mv v⟩
theorem Yg {w:World} {X F:XS} {sb:Nat} {hv:Value} {hs:List FV} (h:gO w F sb hv hs) (hF: ∀k,F k→X k):
  Ct pg 51 #[ptr sb 0] w X nX fun v _ _=>v=I hs.length:=by
 intro w0 hk;replace h:=h.mv ((Mv.sub hF).trans hk.cE);have hb:=h.box;have hh:=h.ow.sl;apply LB;unfold BD;have hs:=aj.init w0;repeat' first|refine aG ?_;intros|((first|(with_reducible refine ai hs ?_)|(with_reducible refine ai (bE.trans hs) ?_));intro wa hk;simp)
theorem JG {w:World} {X:XS} {a:Value} {xs:List FV} {f:FuncId} {cs:List Value} {p:FV→Bool} (ha:Sl w X 9 a (xs.map FV.l)) (hX: ∀k,X k→k<w.heap.size) (hf:enters pg f=true)
  (hp: ∀x,x∈xs→Ct pg f ((.agg x.l.toArray)::cs).toArray w X nX fun v _ _=>v=B (p x)):
  Ct pg 292 #[a,.func (.func f) #[] cs.toArray] w X nX fun v _ _=>v=I (idxOf p xs):=by
 intro w0 hk;replace ha:=ha.mv hk.cE;replace hp:=fun x hx=>((hp x hx).kp hk).aR fun k hx=>aN (hX k hx) hk.size;have gC:=ha.gw;apply nN;unfold jh;have hs:=aj.init w0;repeat' first|refine aG ?_;intros
 refine eA (fun n a w X=> ∃i:Nat,a=I (i:Nat)∧n=(xs).length-i∧i≤(xs).length∧aj (aR w0) w0 X w∧(∀(j:Nat) x,j<i→xs[j]? =some x→p x=false)) (xs).length ⟨0,rfl,rfl,aL _,hs,by simp⟩ ?_;rintro n a w X ⟨i,rfl,rfl,hi,hs,hw⟩;rcases dX (xs) i with⟨cI,x,hx,hd⟩|⟨dV,hd⟩
 ·have DQ:=hp x (aH hx);repeat' first|refine bQ ?_;intros|((first|(with_reducible refine ai hs ?_)|(with_reducible refine ai (bE.trans hs) ?_));intro wa hk;(rw [uX hw hx ‹_›]))|((with_reducible refine en ((xs).length-(i+1)) ?_ ?_);omega;exact⟨i+1,by simp,rfl,by omega,hs,fun j y hj hy=>by rcases Nat.lt_succ_iff_lt_or_eq.1 hj with h|h;exact hw j y h hy;subst h;rw [hx] at hy;cases hy;assumption⟩)|(refine eO (DQ.since hs) hf hs.has ?_ ?_<;>(intro _ w X ao;replace hs:=hs.trans ao))
 ·repeat' first|refine bQ ?_;intros|((first|(with_reducible refine ai hs ?_)|(with_reducible refine ai (bE.trans hs) ?_));intro wa hk;(rw [qQ fun j x hj hx=>hw j x zQ hx]))
theorem Ff {w:World} {X:XS} {a:Value} {xs:List FV} {f:FuncId} {cs:List Value} {p:FV→Bool} (ha:Sl w X 9 a (xs.map FV.l)) (hX: ∀k,X k→k<w.heap.size) (hf:enters pg f=true)
  (hp: ∀x,x∈xs→Ct pg f ((.agg x.l.toArray)::cs).toArray w X nX fun v _ _=>v=B (p x)):
  Ct pg 250 #[a,.func (.func f) #[] cs.toArray] w X nX fun v _ _=>v=B (xs.any p):=by
 intro w0 hk;replace ha:=ha.mv hk.cE;replace hp:=fun x hx=>((hp x hx).kp hk).aR fun k hx=>aN (hX k hx) hk.size;apply mU;unfold iR;have hs:=aj.init w0;repeat' first|refine aG ?_;intros|refine dj ?_ ?_<;>intros|((first|(with_reducible refine ai hs ?_)|(with_reducible refine ai (bE.trans hs) ?_));intro wa hk;(rw [←qw];simp [*]))|(refine dH (JG ha hs.has hf hp) kQ hs.has ?_;intro w X ao;replace hs:=hs.trans ao)
theorem Rg {w:World} {X:XS} {x:FV} {id:Int} {t:eh} {b1 b2:Nat} (h1:Cells w X b1 0 [I id]) (h2:Cells w X b2 0 [I t.iP,I t.lu,I t.sq]):
  Ct pg 251 #[.agg x.l.toArray,ptr b1 0,ptr b2 0] w X nX fun v _ _=>v=B (decide (x.2.gH=id∧x.2.b6=t)):=by
 intro w0 hk;replace h1:=h1.mv hk.cE;replace h2:=h2.mv hk.cE;apply GR;unfold x5;have hs:=aj.init w0;repeat' first|refine aG ?_;intros|refine dj ?_ ?_<;>intros|(with_reducible refine Nb _ _ ?_ ?_ ?_);(· kernel_rfl);all_goals intros|((first|(with_reducible refine ai hs ?_)|(with_reducible refine ai (bE.trans hs) ?_));intro wa hk;(simp_all [eh.ext_iff]))
def Jj (hs:List eM) (id:Int) (t:eh):Bool:=hs.any fun f=>decide (f.gH=id∧f.b6=t)
theorem Yh {w:World} {X F:XS} {sb:Nat} {hv:Value} {hl:List FV} {id:Int} {t:eh} (h:gO w F sb hv hl) (hF: ∀k,F k→X k):
  Ct pg 212 #[ptr sb 0,I id,t.v] w X nX fun v _ _=>v=B (Jj (hl.map (·.2)) id t):=by
 intro w0 hk;replace h:=h.mv ((Mv.sub hF).trans hk.cE);apply LC;unfold BE;have hs:=aj.init w0;refine ph rfl hs.has fun b1 w1 X1 Bm ao wu=>?_;refine nI ao.has fun b2 w2 X2 Ge dF uf=>?_;have h2:=h.mv (ao.trans dF).mv;have hb:=h2.box;have ha:=h2.ow.sl;have Sn:=(wu.cells).mv dF.mv;have jN:=uf.cells;replace hs:=ao.trans dF;clear ao dF wu uf;repeat' first|refine aG ?_;intros|((first|(with_reducible refine ai hs ?_)|(with_reducible refine ai (bE.trans hs) ?_));intro wa hk;(simp only [Jj,qX];rfl))|(refine dH (Ff (p:=fun x=>decide (x.2.gH=id∧x.2.b6=t)) (ha.mv (Mv.refl _ _)) hs.has kQ fun x _=>Rg (Sn.mv (Mv.refl _ _)) (jN.mv (Mv.refl _ _))) kQ hs.has ?_;intro w X ao;replace hs:=hs.trans ao)
theorem JH {w:World} {X:XS} {x y:KV} {b:Nat} (h:Cells w X b 0 x.l):
  Ct pg 254 #[.agg y.l.toArray,ptr b 0] w X nX fun v _ _=>v=B (decide (x.key=y.key)):=by
 intro w0 hk;replace h:=h.mv hk.cE;apply HZ;unfold zt;have hs:=aj.init w0;repeat' first|refine aG ?_;intros|refine dj ?_ ?_<;>intros|((first|(with_reducible refine ai hs ?_)|(with_reducible refine ai (bE.trans hs) ?_));intro wa hk;simp_all)
theorem OI {w:World} {X:XS} {x:KV} {vb:Value} {ys:List KV} {b:Nat} (hX: ∀k,X k→k<w.heap.size) (h:Cells w X b 0 [vb]) (h2:Sl w X 4 vb (ys.map KV.l)):
  Ct pg 253 #[.agg x.l.toArray,ptr b 0] w X nX fun v _ _=>v=B (ys.any fun y=>decide (x.key=y.key)):=by
 intro w0 hk;replace h:=h.mv hk.cE;replace h2:=h2.mv hk.cE;apply Nc;unfold CG;have hs:=aj.init w0;repeat' first|refine aG ?_;intros|(with_reducible apply nI);(case hX=>exact hs.has);intro bx w X fi ao bH;have bE:=hs.trans ao;replace hs:=aj.iB ao.has|((first|(with_reducible refine ai hs ?_)|(with_reducible refine ai (bE.trans hs) ?_));intro wa hk;rfl)|(refine dH (qg (p:=fun y=>decide (x.key=y.key)) (h2.mv (aj.mv (bE.trans hs))) hs.has kQ fun y=>JH (x:=x) (y:=y) (bH.cells.mv (aj.mv hs))) kQ hs.has ?_;intro w X ao;replace hs:=hs.trans ao)
theorem VP {w:World} {X:XS} {va vb:Value} {xs ys:List KV} (hX: ∀k,X k→k<w.heap.size) (h1:Sl w X 4 va (xs.map KV.l)) (h2:Sl w X 4 vb (ys.map KV.l)):
  Ct pg 213 #[va,vb] w X nX fun v _ _=>v=B (xs.any fun x=>ys.any fun y=>decide (x.key=y.key)):=by
 intro w0 hk;replace h1:=h1.mv hk.cE;replace h2:=h2.mv hk.cE;have o2:=h2.one;obtain⟨q1,q2,q3,rfl⟩:=h2.form;apply Tp;unfold H4;have hs:=aj.init w0;repeat' first|refine aG ?_;intros|(with_reducible apply ph);(case ho=>rfl);(case hX=>exact hs.has);intro bx w X fi ao bH;have bE:=hs.trans ao;replace hs:=aj.iB ao.has|((first|(with_reducible refine ai hs ?_)|(with_reducible refine ai (bE.trans hs) ?_));intro wa hk;rfl)|(refine dH (qg (p:=fun x=>ys.any fun y=>decide (x.key=y.key)) (h1.mv (aj.mv (bE.trans hs))) hs.has kQ fun x=>OI (x:=x) hs.has (bH.cells.mv (aj.mv hs)) (h2.mv (aj.mv (bE.trans hs)))) kQ hs.has ?_;intro w X ao;replace hs:=hs.trans ao)
section
variable {P : Program} {X : XS} {w : World} {N : Value → Prop} {t : TypeId}
theorem aeT {i j:Nat} (hb:i+j<9223372036854775808) (h:N (.int .u64 (((i+j)/2:Nat):Int))):ab P X w (binOp .shr t (.int .u64 (IntKind.u64.wrap ((i:Int)+(j:Int)))) (.int .u64 1)) N:=
 AZ zQ (by
  have e:(IntKind.u64.wrap ((i:Int)+(j:Int))).fdiv (2^min (1:Int).toNat IntKind.u64.bits)=(((i+j)/2:Nat):Int):=by
   show(IntKind.u64.wrap ((i:Int)+(j:Int))).fdiv 2=_
   rw [wrap64,gT _ (by decide)];omega
  rw [e];exact h)
end
structure OJ (xs:List FV) (t:eM) (i:Nat):Prop where
 le:i≤xs.length
 lo: ∀(j:Nat) x,j<i→xs[j]? =some x→x.2.cmp t<0
 hi: ∀(j:Nat) x,i≤j→xs[j]? =some x→ ¬x.2.cmp t<0
theorem OK {w:World} {X:XS} {a vt:Value} {xs:List FV} {t:eM} (ha:Sl w X 9 a (xs.map FV.l)) (hr: ∀x∈xs,1≤x.2.gH∧x.2.gH≤12) (ht:1≤t.gH∧t.gH≤12) (hl:xs.length≤2^40)
  (hm: ∀(i j:Nat) x y,i<j→xs[i]? =some x→xs[j]? =some y→y.2.cmp t<0→x.2.cmp t<0):
  Ct pg 214 #[a,t.v vt,.func (.func 215) #[] #[]] w X nX
   fun v _ _=> ∃(i:Nat) (b:Bool),v= .tuple #[I i,B b]∧OJ xs t i:=by
 intro w0 hk;replace ha:=ha.mv hk.cE;apply jB;unfold gy;have hs:=aj.init w0;repeat' first|refine aG ?_;intros
 refine fT (fun n a b w X=> ∃i j:Nat,a=I j∧b=I i∧n=j-i∧i≤j∧j≤xs.length∧aj (aR w0) w0 X w∧(∀(k:Nat) x,k<i→xs[k]? =some x→x.2.cmp t<0)∧(∀(k:Nat) x,j≤k→xs[k]? =some x→ ¬x.2.cmp t<0))
  xs.length ⟨0,xs.length,by simp,rfl,by simp,by omega,by simp,hs,fun k x h=>by omega,fun k x h hx=>by have:=(List.getElem?_eq_some_iff.1 hx).1;omega⟩ ?_
 clear hs;rintro n a b w X ⟨i,j,rfl,rfl,rfl,y8,hj,hs,ez,hhi⟩;by_cases cI:i<j
 ·obtain⟨x,hx⟩: ∃x,xs[(i+j)/2]? =some x:=⟨_,List.getElem?_eq_getElem zQ⟩;have Tq:=hr x (aH hx);repeat' first|refine bQ ?_;intros|with_reducible apply dJ
  refine aeT zQ ?_;refine XR kQ kQ ?_;rw [show IntKind.i64.wrap ((((i+j)/2:Nat)):Int)=(((i+j)/2:Nat):Int)by rw [IntKind.wrap_i64];omega];repeat' first|refine aG ?_;intros
  refine gh (KU (f:=x.2) (g:=t) Tq ht) kQ hs.has ?_;intro w X ao;replace hs:=hs.trans ao;repeat' first|refine aG ?_;intros|refine dj ?_ ?_<;>intros
  ·refine eR (j-((i+j)/2+1)) zQ ⟨(i+j)/2+1,j,rfl,by simp,rfl,by omega,hj,hs,fun k y hk hy=>?_,hhi⟩;rcases Nat.lt_succ_iff_lt_or_eq.1 hk with h|rfl
   ·exact hm k _ y x h hy hx (by assumption)
   ·rw [hx] at hy;cases hy;assumption
  ·refine eR ((i+j)/2-i) zQ ⟨i,(i+j)/2,rfl,rfl,rfl,by omega,by omega,hs,ez,fun k y hk hy=>?_⟩;rcases Nat.eq_or_lt_of_le hk with rfl|h
   ·rw [hx] at hy;cases hy;assumption
   ·intro abA;exact absurd (hm _ k x y h hx hy abA) (by assumption)
 ·have:i=j:=by omega
  subst this;have hP:OJ xs t i:=⟨hj,ez,hhi⟩;repeat' first|refine bQ ?_;intros|refine dj ?_ ?_<;>intros|with_reducible apply dJ|((first|(with_reducible refine ai hs ?_)|(with_reducible refine ai (bE.trans hs) ?_));intro wa hk;(exact⟨i,_,rfl,hP⟩))
  refine gh (KU (hr _ (List.getElem_mem _)) ht) kQ hs.has ?_;intro w X ao;replace hs:=hs.trans ao;repeat' first|refine aG ?_;intros|refine dj ?_ ?_<;>intros|((first|(with_reducible refine ai hs ?_)|(with_reducible refine ai (bE.trans hs) ?_));intro wa hk;(exact⟨i,_,rfl,hP⟩))
section
variable {P : Program} {X : XS} {w : World}
theorem qY {A B C vs:List Value} {o:Nat} (ho:A.length=o) (h:B.length=vs.length):cH (A++B++C) o vs=A++vs++C:=by
 subst ho;unfold cH;have e1:(A++B++C).take A.length=A:=by rw [aC,List.take_left]
 rw [e1,wW (by simp [h])]
theorem Jk {e k:Nat} {v:Value} {rows:List (List Value)} (h:Ow w X e k v rows):(v= .slice none 0 0∧rows=[])∨ ∃g off cap A Z,v= .slice (some ⟨g,off,none⟩) rows.length cap∧bN w X g (A++rows.flatten++Z) e∧
  A.length=off∧rows.length≤cap∧cap≤maxLen∧cap*k≤rows.length*k+Z.length:=by
 obtain⟨h1,h|⟨g,off,cap,cur,rfl,hx,hg,jk,iK,mg,gN⟩⟩:=h
 ·exact .inl h
 ·right;have fF:=gZ h1;have hmul:=e6 k jk;have o9:cur.toList.length=cur.size:=Array.length_toList;have e1:cur.toList=cur.toList.take off++rows.flatten++cur.toList.drop (off+rows.length*k):=by
   rw [←gN,aC,←List.drop_drop,cG,cG]
  refine⟨g,off,cap,cur.toList.take off,cur.toList.drop (off+rows.length*k),rfl,⟨hx,?_⟩,by rw [aX,o9];omega,jk,iK,by rw [dR,o9];omega⟩;rw [←e1];simpa using hg
theorem Nd {e k g off n cap:Nat} {A Z:List Value} {rows:List (List Value)} (hr: ∀r∈rows,r.length=k) (h:bN w X g (A++rows.flatten++Z) e) (ho:A.length=off) (hn:rows.length=n) (hc:n≤cap) (hm:cap≤maxLen)
  (hz:cap*k≤rows.length*k+Z.length):Ow w X e k (.slice (some ⟨g,off,none⟩) n cap) rows:=by
 subst hn;subst ho;have fF:=gZ hr;refine⟨hr,.inr ⟨g,A.length,cap,_,rfl,h.1,h.2,hc,hm,by rw [List.size_toArray,ae,ae,fF];omega,?_⟩⟩;rw [aC,List.drop_left,wV fF]
end
theorem OL {w:World} {g:Nat} {A B C:List Value} {e o:Nat} {X:XS} (h:bN w X g (A++B++C) e) (ho:A.length=o): ∀wa,Kp X w wa→ ∀(j:Nat) v,B[j]? =some v→wa.cell? ((⟨g,o,none⟩:Addr).add j)=some v:=fun wa hk j v hj=>by
 subst ho;have:=(h.kp hk).2;rw [Addr.add_lit];simp only [World.cell?,this];have qB:=(List.getElem?_eq_some_iff.1 hj).1;rw [aC,List.getElem?_toArray,List.getElem?_append_right zQ,Nat.add_sub_cancel_left,List.getElem?_append_left qB];exact hj
theorem D5 {w0 w1 wa:World} {X1:XS} {e k:Nat} {hv v':Value} {rows:List (List Value)} (ho:Ow w1 X1 e k v' rows) (bD:Kp X1 w1 wa) (fH: ∀g,v'.ownBlock=some g→dP hv g∨w0.heap.size≤g):
  ∃F',Ow wa F' e k v' rows∧ ∀k,F' k→dP hv k∨made w0 wa k:=
 ⟨dP v',(ho.kp bD).tight,fun k hk=>(fH k hk).imp id fun h=>⟨h,((ho.kp bD).bm hk).2⟩⟩
theorem ahM {l T:List Value} {a b:Nat} (h:l.take T.length=T) (hl:T.length+a+b≤l.length): ∃Q1 Q2 Q3,l=T++Q1++Q2++Q3∧Q1.length=a∧Q2.length=b:=by
 refine⟨(l.drop T.length).take a,((l.drop T.length).drop a).take b,((l.drop T.length).drop a).drop b,?_,by rw [aX,dR];omega,by rw [aX,dR,dR];omega⟩;rw [aC,cG,aC,cG];conv=>lhs;rw [←cG T.length l,h]
theorem nC {w w':World} {X X' G:XS} {g:Nat} {cs:List Value} {ty:TypeId} (h:bN w X g cs ty) (c:eo G X w X' w') (hg: ¬G g):bN w' X' g cs ty:=⟨c.sub _ h.1,by rw [c.block _ h.1 hg];exact h.2⟩
theorem abB {w:World} {X F S:XS} {hv vv:Value} {xs:List FV} {x:FV} {i:Nat} (own:Ow w F 156 9 hv (xs.map FV.l)) (hF: ∀k,F k→X k) (src:Ow w S 156 9 vv [x.l]) (hS: ∀k,S k→X k∧ ¬dP hv k)
  (h1:bB.one x.1=true) (hr: ∀y∈xs,bB.one y.1=true) (hi:i≤xs.length) (hl:xs.length≤2^40):
  Ct pg 216 #[hv,I i,vv] w X (dP hv) fun v wa w'=> ∃F',Ow w' F' 156 9 v ((xs.take i++[x]++xs.drop i).map FV.l)∧ ∀k,F' k→dP hv k∨made wa w' k:=by
 intro w0 hk;have ahN:Ow w0 (dP hv) 156 9 hv (xs.map FV.l):=(own.mv ((Mv.sub hF).trans hk.cE)).tight;have hT:Ft w0 (dP hv) w0 (aR w0) (dP hv):=Ft.init fun k ah=>((own.mv ((Mv.sub hF).trans hk.cE)).bm ah).2;have aeU:Ow w0 (out (dP hv) w0) 156 9 vv [x.l]:=src.mv fun k ah jE=>⟨⟨aN jE hk.size,(hS k ah).2⟩,hk.block k (hS k ah).1⟩;have aeV:Ow w0 (aR w0) 156 9 vv ([x].map FV.l):=aeU.mono fun k h=>h.1;have tW: ∀r∈xs.map FV.l,∀u∈r,bB.one u=true:=fun r jt u hu=>by
  obtain⟨y,hy,rfl⟩:=List.mem_map.1 jt;have:=hr y hy;simp only [FV.l,eM.l,gp,fW,or_false] at hu;rcases hu with rfl|rfl|rfl|rfl|rfl|rfl|rfl|rfl|rfl<;>first|rfl|exact this
 have Yi: ∀u∈x.l,bB.one u=true:=fun u hu=>by
  simp only [FV.l,eM.l,gp,fW,or_false] at hu;rcases hu with rfl|rfl|rfl|rfl|rfl|rfl|rfl|rfl|rfl<;>first|rfl|exact h1
 have owo:=ahN.mono (Y:=aR w0) fun k ah=>(own.mv ((Mv.sub hF).trans hk.cE)).bm ah|>.2
 have lD:=owo.sl;have hvs:=aeV.sl;apply pj;unfold jF;have hs:=aj.init w0;refine WU lD (i:=i) rfl (by simpa using hi) kQ kQ fun _ _=>?_;have eH: ∀r∈(xs.take i++[x]++xs.drop i).map FV.l,r.length=9:=fun r jt=>by obtain⟨y,_,rfl⟩:=List.mem_map.1 jt;rfl
 have RN:((xs.take i++[x]++xs.drop i).map FV.l).length=xs.length+1:=by simp;omega
 repeat' first|refine aG ?_;intros|refine dj ?_ ?_<;>intros
 ·rename_i h;simp at h
 ·have hie:i=xs.length:=by omega
  subst hie;refine M7 kQ hs.has owo hvs (fun r jt=>by simp only [List.map_cons,List.map_nil,ej] at jt;subst jt;exact Yi) (by simp;omega) (by simp;omega) fun v' w1 X1 c ho fH=>?_;have dq:=hT.dK c (fun k hk=>hk) (F':=nX) fun k hk=>hk.elim;refine dq.fin fun wa bD=>D5 (rows:=(xs.take xs.length++[x]++xs.drop xs.length).map FV.l) (by simpa using ho) bD fun g hg=>?_;rcases fH with e|⟨g',e,dV⟩
  ·exact .inl (e.symm.trans hg)
  ·rw [hg] at e;cases e;exact .inr dV
 ·have ahO:i<xs.length:=by omega
  rcases Jk owo with⟨_,h⟩|⟨g,off,cap,A,Z,rfl,bH,hA,jk,iK,hZ⟩
  ·simp at h;subst h;simp at ahO
  rcases Jk aeV with⟨_,h⟩|⟨gv,ahP,ajw,Av,Zv,rfl,Yj,hAv,_,_,_⟩
  ·simp at h
  rw [aA] at jk hZ;have hgv:=(aeU.bm (g:=gv) rfl).1;have cn:gv≠g:=fun e=>hgv.2 (by rw [e];rfl);have ajx:=bH.lt;obtain⟨T,hTd⟩: ∃T,T=((xs.take i).map FV.l).flatten:=⟨_,rfl⟩;obtain⟨D,hDd⟩: ∃D,D=((xs.drop i).map FV.l).flatten:=⟨_,rfl⟩;have pM:T.length=i*9:=by
   rw [hTd,gZ (k:=9) fun r jt=>by obtain⟨y,_,rfl⟩:=List.mem_map.1 jt;rfl];simp;omega
  have Tr:D.length=(xs.length-i)*9:=by
   rw [hDd,gZ (k:=9) fun r jt=>by obtain⟨y,_,rfl⟩:=List.mem_map.1 jt;rfl];simp
  have hTD:(xs.map FV.l).flatten=T++D:=by rw [hTd,hDd,←List.flatten_append,←bp,cG]
  have Yk:((xs.take i++[x]++xs.drop i).map FV.l).flatten=T++x.l++D:=by rw [hTd,hDd];simp
  have ac5: ∀u∈D,bB.one u=true:=fun u hu=>by
   rw [hDd] at hu;obtain⟨r,jt,Ts⟩:=List.mem_flatten.1 hu;obtain⟨y,hy,rfl⟩:=List.mem_map.1 jt;exact tW _ (List.mem_map.2 ⟨y,ec hy,rfl⟩) u Ts
  rw [hTD] at bH;have hvc: ∀{w':World} {X':XS},bN w' X' gv (Av++([x].map FV.l).flatten++Zv) 156→ ∀wa,Kp X' w' wa→ ∀(j:Nat) v,x.l[j]? =some v→wa.cell? ((⟨gv,ahP,none⟩:Addr).add j)=some v:=fun {w' X'} h=>by
   have h':bN w' X' gv (Av++x.l++Zv) 156:=by simpa using h
   exact OL h' hAv
  simp only [aA,bF] at*;by_cases kS:cap<xs.length+1
  ·repeat' first|refine aG ?_;intros
   refine ac6 (e:=156) kQ ?_;repeat' first|refine bQ ?_;intros
   refine zh (i:=i) rfl zQ kQ kQ ?_;repeat' first|refine aG ?_;intros
   have ahQ:Sl w0 (aR w0) 9 (.slice (some ⟨g,off,none⟩) i cap) ((xs.take i).map FV.l):=
    (Nd (k:=9) (rows:=(xs.take i).map FV.l) (Z:=D++Z) (fun r jt=>by obtain⟨y,_,rfl⟩:=List.mem_map.1 jt;rfl) (by rw [←hTd];simpa using bH) hA (by simp;omega) zQ iK (by
     have:=e6 9 jk;simp only [aA,aX,ae,Tr,iV hi];omega)).sl
   refine agJ (k:=9) (e:=156) (bytes:=88) (kn:=.i64) (c:=xs.length+1-i) kQ kQ hs.has ahQ zQ zQ ⟨_,_,cap,rfl,by simp;omega⟩ (by simp;omega) (by simp;omega) fun g2 ajy ahR w1 X1 Qe ao uf jN pf Z6 abC=>?_;have hlT:((xs.take i).map FV.l).length=i:=by simp;omega
   rw [hlT] at jN abC⊢;rw [←hTd] at abC;have hmul:=e6 9 jN;obtain⟨Q1,Q2,Q3,rfl,hQ1,hQ2⟩:=ahM (l:=ahR) (T:=T) (a:=9) (b:=(xs.length-i)*9) (by rw [pM];exact abC) (by rw [pM];omega);have ahS:g≠g2:=by omega
   have jq:=bH.since ao;have Tt:=Yj.since ao;replace hs:=hs.trans ao;refine yy (k:=9) (i:=i) rfl zQ jN kQ kQ ?_;rw [if_neg zQ];refine Jl (k:=9) (e:=156) (cs:=x.l) uf kQ kQ (by rw [iV zQ];rfl) (hvc Tt) (by
    simp only [ae,pM,hQ1,hQ2,FV.l,eM.l,bT,bI];omega) Yi hs.has fun w2 X2 c2 pL=>?_
   rw [show T++Q1++Q2++Q3=T++Q1++(Q2++Q3)by simp,qY (by rw [pM];omega) (by rw [hQ1];rfl)] at pL;have kA:=nC jq c2 (fun e=>ahS e);have dF:=hs.dK c2 fun k ah e=>by subst e;have:k<w0.heap.size:=ah;omega
   replace hs:=dF;repeat' first|refine aG ?_;intros
   refine yy (k:=9) (i:=i+1) zQ zQ jN kQ kQ ?_;rw [if_neg zQ];refine yy (k:=9) (i:=i) rfl zQ jk kQ kQ ?_;rw [if_neg zQ];have abD:min (xs.length-i) (i+(xs.length+1-i)-(i+1))=xs.length-i:=by omega
   have hD2:bN w2 X2 g ((A++T)++D++Z) 156:=by simpa using kA
   refine Jl (k:=9) (e:=156) (cs:=D) pL kQ kQ (by rw [abD,Tr]) (OL hD2 (by rw [ae,hA,pM])) (by
    simp only [ae,pM,hQ2,Tr,FV.l,eM.l,bT,bI];omega) ac5 hs.has fun w3 X3 c3 Qf=>?_
   rw [show T++x.l++(Q2++Q3)=(T++x.l)++Q2++Q3 by simp,qY (by rw [ae,pM];show i*9+9=_;omega) (by rw [hQ2,Tr])] at Qf;have dZ:=hs.dK c3 fun k ah e=>by subst e;have:k<w0.heap.size:=ah;omega
   have dG:Ft w0 (dP (.slice (some ⟨g,off,none⟩) xs.length cap)) w3 X3 nX:=⟨⟨dZ.kp.less fun k ah=>ah.1,fun k ah=>dZ.sub k ah.1,dZ.has⟩,fun k ah=>ah.elim,fun k ah=>ah.elim⟩;rw [show i+(xs.length+1-i)=xs.length+1 by omega];refine dG.fin fun wa bD=>D5 (Nd (k:=9) (A:=[]) (Z:=Q3) eH (by rw [Yk];simpa using Qf) rfl (by rw [aA];exact RN) zQ pf (by
    have h2:=Z6;simp only [ae,pM,hQ1,hQ2] at h2;rw [aA,RN];omega)) bD fun g' gA=>.inr (by cases gA;exact Qe)
  ·repeat' first|refine aG ?_;intros
   refine ac6 (e:=156) kQ ?_;repeat' first|refine bQ ?_;intros
   refine zh (i:=xs.length+1) zQ zQ kQ kQ ?_;repeat' first|refine aG ?_;intros
   refine yy (k:=9) (i:=i+1) zQ zQ zQ kQ kQ ?_;rw [if_neg zQ];refine Yl (k:=9) (t:=177) (bt:=4) (e:=156) Tryz.func255 kQ kQ kQ kQ kQ kQ Yj bH cn (by simp only [ae];omega) hs.has fun w1 X1 ao=>?_;have jq:=bH.since ao;have Tt:=Yj.since ao;replace hs:=hs.trans ao;obtain⟨Z1,Z2,rfl,hZ1⟩: ∃Z1 Z2,Z=Z1++Z2∧Z1.length=9:=by
    have:=e6 9 (Nat.le_of_not_lt kS);exact⟨Z.take 9,Z.drop 9,(cG _ _).symm,by rw [aX];omega⟩
   have hD1:bN w1 X1 g ((A++T)++D++(Z1++Z2)) 156:=by simpa using jq
   repeat' first|refine aG ?_;intros
   refine yy (k:=9) (i:=i+1) zQ zQ zQ kQ kQ ?_;rw [if_neg zQ];refine yy (k:=9) (i:=i) rfl zQ zQ kQ kQ ?_;rw [if_neg zQ];have abD:min (xs.length+1-i) (xs.length+1-(i+1))=xs.length-i:=by omega
   refine Jl (k:=9) (e:=156) (cs:=D) jq kQ kQ (by rw [abD,Tr]) (OL hD1 (by rw [ae,hA,pM])) (by
    simp only [ae,pM,Tr,hA,hZ1];omega) ac5 hs.has fun w2 X2 c2 pL=>?_
   obtain⟨E,hE,hEl⟩: ∃E,A++(T++D)++(Z1++Z2)=(A++T)++E++Z2∧E.length=D.length+9:=⟨D++Z1,by simp,by rw [ae,hZ1]⟩;obtain⟨E1,E2,hEE,x6⟩: ∃E1 E2,E=E1++E2∧E1.length=9:=⟨E.take 9,E.drop 9,(cG _ _).symm,by rw [aX];omega⟩;have sv:E2.length=D.length:=by have:=hEl;rw [hEE,ae,x6] at this;omega
   rw [hE,hEE,show A++T++(E1++E2)++Z2=(A++T++E1)++E2++Z2 by simp,qY (by simp only [ae,hA,pM,x6];omega) sv] at pL;have aeW:=nC Tt c2 cn;have cq:Ft w0 (dP (.slice (some ⟨g,off,none⟩) xs.length cap)) w2 X2 (dP (.slice (some ⟨g,off,none⟩) xs.length cap)):=(hT.since (ao)).dK c2 (fun k ah=>by subst ah;rfl) fun k ah=>.inl ah
   skip
   refine yy (k:=9) (i:=i) rfl zQ zQ kQ kQ ?_;rw [if_neg zQ];refine Jl (k:=9) (e:=156) (cs:=x.l) pL kQ kQ (by rw [iV zQ];rfl) (hvc aeW) (by
    simp only [ae,pM,hA,x6,Tr,FV.l,eM.l,bT,bI];omega) Yi cq.s.has fun w3 X3 c3 Qf=>?_
   rw [show A++T++E1++D++Z2=(A++T)++E1++(D++Z2)by simp,qY (by simp only [ae,hA,pM]) (by rw [x6];rfl)] at Qf;have dG:=cq.dK c3 (fun k ah=>by subst ah;rfl) (F':=nX) fun k ah=>ah.elim;refine dG.fin fun wa bD=>D5 (Nd (k:=9) (A:=A) (Z:=Z2) eH (by rw [Yk];simpa using Qf) hA (by rw [aA];exact RN) zQ iK (by
    simp only [ae,hZ1] at hZ;rw [aA,RN];omega)) bD fun g' gA=>.inl (by cases gA;rfl)
section
variable {P : Program} {X : XS} {w : World} {N : Value → Prop} {t : TypeId} {xo yo : Operand}
theorem aao {a:Bool} (ht:P.underlying t=some .bool) (k:N (.bool false)):ab P X w (aF .neq t xo yo (.bool a) (.bool a)) N:=by
 refine cB (v:=.bool false) (fun wa=>?_) k;have:=run_neq_bool (P:=P) (w:=wa) t a a ht;simp [aF,eqGuard,this]
theorem aap {a b:Bool} (h:a≠b) (ht:P.underlying t=some .bool) (k:N (.bool true)):ab P X w (aF .neq t xo yo (.bool a) (.bool b)) N:=by
 refine cB (v:=.bool true) (fun wa=>?_) k;have:=run_neq_bool (P:=P) (w:=wa) t a b ht;simp [aF,eqGuard,this,h]
end
def meets (a b:List KV):Bool:=a.any fun x=>b.any fun y=>decide (x.key=y.key)
def eM.zu (f h:eM):Bool:=decide (h.b6=f.b6) !=decide (h.aw=f.aw)
def eM.H5 (f h:eM):Bool:=decide (h.b6=f.b6)&&meets h.writes f.writes
def lE (hs:List eM) (f:eM):Int:=if f.may=false then 4 else if Jj hs f.gH f.b6=true then 9 else if hs.any f.zu=true then 17 else if hs.any f.H5=true then 18 else 0
def Nf (hl jE:List FV) (f:eM):Prop:= ∃i vw,OJ hl f i∧jE=hl.take i++[(vw,f)]++hl.drop i
theorem Ym {w:World} {X F S:XS} {sb:Nat} {hv vw:Value} {hl:List FV} {f:eM} (h:gO w F sb hv hl) (hF:FX F X w) (hw:Sl w S 4 vw (f.writes.map KV.l)) (hS: ∀k,S k→X k∧ ¬F k)
  (hr: ∀x∈hl,1≤x.2.gH∧x.2.gH≤12) (hb:f.writes.length≤2^40) (hn:hl.length≤2^39)
  (hm:f.may=true→ ∀(i j:Nat) x y,i<j→hl[i]? =some x→hl[j]? =some y→y.2.cmp f<0→x.2.cmp f<0):
  Ct pg 173 #[ptr sb 0,f.v vw] w X F fun v wa w'=>v=I (lE (hl.map (·.2)) f)∧ ∃F' kg jE,(∀k,F' k→F k∨made wa w' k)∧gO w' F' sb kg jE∧
   (if lE (hl.map (·.2)) f=0 then Nf hl jE f else jE=hl):=by
 intro w0 hk;replace h:=h.mv (hF.mv hk);have hT:=hF.ft hk;have CH:Sl w0 (out F w0) 4 vw (f.writes.map KV.l):=hw.mv fun k ah jE=>⟨⟨aN jE hk.size,(hS k ah).2⟩,hk.block k (hS k ah).1⟩;obtain⟨b1,n1,c1,rfl⟩:=hw.form;have nL: ∀{wz:World} {Xz:XS},Ft w0 F wz Xz F→gO wz F sb hv hl→lE (hl.map (·.2)) f≠0→ ∀wa,Kp Xz wz wa→ ∃F' kg jE,(∀k,F' k→F k∨made w0 wa k)∧gO wa F' sb kg jE∧(if lE (hl.map (·.2)) f=0 then Nf hl jE f else jE=hl):=
  fun hT h cn wa bD=>⟨F,hv,hl,fun k hk=>.inl hk,h.mv (bD.kf hT.bm),by rw [if_neg cn]⟩
 apply LD;unfold BF;refine dH (Fe (f:=f) (CH.mv hT.s.mv) hb) kQ hT.s.has fun w1 X1 ao=>?_;replace hT:=hT.since ao;replace h:=h.mv (ao.jQ (hF.ft hk).bm);have o1:=CH.one;cases lK:f.may
 ·repeat' first|refine aG ?_;intros
  exact hT.fin fun wa bD=>by
   have e:lE (hl.map (·.2)) f=4:=by simp [lE,lK]
   exact⟨by rw [e],nL hT h (by rw [e];decide) wa bD⟩
 repeat' first|refine aG ?_;intros
 refine dH (Yh h hT.bm) kQ hT.s.has fun w2 X2 dF=>?_;have cq:=hT.since dF;replace h:=h.mv (dF.jQ hT.bm);clear hT;cases Yn:Jj (hl.map (·.2)) f.gH f.b6
 rotate_left
 ·repeat' first|refine aG ?_;intros
  exact cq.fin fun wa bD=>by
   have e:lE (hl.map (·.2)) f=9:=by simp [lE,lK,Yn]
   exact⟨by rw [e],nL cq h (by rw [e];decide) wa bD⟩
 have fi:=h.box.mv (Mv.sub cq.bm);have lD:=(h.ow.mono cq.bm).sl;have ln:=lD.len;repeat' first|refine aG ?_;intros
 refine fT (fun n a b w X=> ∃(i:Nat) (q:Bool),a=I i∧b=B q∧n=hl.length-i∧i≤hl.length∧Ft w0 F w X F∧gO w F sb hv hl∧hl.any (fun x=>f.zu x.2)=(hl.drop i).any (fun x=>f.zu x.2)∧
  hl.any (fun x=>f.H5 x.2)=(q||(hl.drop i).any fun x=>f.H5 x.2)) hl.length ⟨0,false,rfl,rfl,rfl,aL _,cq,h,by simp,by simp⟩ ?_
 clear cq h fi lD ao dF;rintro n a b w X ⟨i,q,rfl,rfl,rfl,hi,hT,h,Dp,Yo⟩;have hs:=hT.s;have fi:=h.box.mv (Mv.sub hT.bm);have lD:=(h.ow.mono hT.bm).sl;rcases dX hl i with⟨cI,x,hx,hd⟩|⟨dV,hd⟩
 ·have ox:=(h.ws x (aH hx)).one;have WV:=((h.ws x (aH hx)).mono hT.bm).sl;have hwf:=CH.mv hs.mv;rw [hd,List.any_cons] at Dp Yo;have Cw:f.zu x.2=false→ ∀q',q'=(q||f.H5 x.2)→ ∀{w':World} {X':XS},aj X w X' w'→ ∃(j:Nat) (q2:Bool),I ((i:Int)+1)=I j∧B q'=B q2∧hl.length-(i+1)=hl.length-j∧j≤hl.length∧Ft w0 F w' X' F∧gO w' F sb hv hl∧hl.any (fun x=>f.zu x.2)=(hl.drop j).any (fun x=>f.zu x.2)∧
    hl.any (fun x=>f.H5 x.2)=(q2||(hl.drop j).any fun x=>f.H5 x.2):=fun ho q' hq' _ _ si=>
   ⟨i+1,q',by simp,rfl,rfl,by omega,hT.since si,h.mv (si.jQ hT.bm),by rw [Dp,ho,Bool.false_or],by rw [Yo,hq',Bool.or_assoc]⟩
  have h17:f.zu x.2=true→ ∀wa,Kp X w wa→I 17=I (lE (hl.map (·.2)) f)∧_:=fun ho wa bD=>by
   have e:lE (hl.map (·.2)) f=17:=by
    unfold lE;rw [if_neg (by simp [lK]),if_neg (by simp [Yn]),if_pos (by rw [qX,show(f.zu∘fun x:FV=>x.2)=fun x=>f.zu x.2 from rfl,Dp,ho,Bool.true_or])]
   exact⟨by rw [e],nL hT h (by rw [e];decide) wa bD⟩
  cases q
  ·repeat' first|refine bQ ?_;intros|(with_reducible refine RO _ _ ?_ ?_ ?_);(· kernel_rfl);all_goals intros|(with_reducible refine Nb _ _ ?_ ?_ ?_);(· kernel_rfl);all_goals intros|with_reducible apply dJ|contradiction|(refine aao kQ ?_)|(refine aap (by decide) kQ ?_)|(refine eO (VP hs.has WV hwf) kQ hs.has ?_ ?_<;>(intro hmt w X ao))|(exact eR (hl.length-(i+1)) zQ (Cw (by simp [eM.zu, *]) _ (by simp [eM.H5,meets, *]) (by first|exact ao|exact aj.iB hs.has)))|(exact hT.fin fun wa bD=>h17 (by simp [eM.zu, *]) wa bD)
  ·repeat' first|refine bQ ?_;intros|(with_reducible refine RO _ _ ?_ ?_ ?_);(· kernel_rfl);all_goals intros|(with_reducible refine Nb _ _ ?_ ?_ ?_);(· kernel_rfl);all_goals intros|with_reducible apply dJ|(refine aao kQ ?_)|(refine aap (by decide) kQ ?_)|(exact eR (hl.length-(i+1)) zQ (Cw (by simp [eM.zu, *]) _ (by simp) (aj.iB hs.has)))|(exact hT.fin fun wa bD=>h17 (by simp [eM.zu, *]) wa bD)
 ·rw [hd] at Dp Yo;have ac7:(hl.map (·.2)).any f.zu=false:=by rw [qX];exact Dp
  have ac8:(hl.map (·.2)).any f.H5=q:=by rw [qX];exact Yo.trans (Bool.or_false q)
  cases q
  ·have e:lE (hl.map (·.2)) f=0:=by unfold lE;rw [if_neg (by simp [lK]),if_neg (by simp [Yn]),if_neg (by simp [ac7]),if_neg (by simp [ac8])]
   rw [e];simp only [if_true];have agK:=hm lK;have sh:1≤f.gH∧f.gH≤12:=by
    have:=lK;simp only [eM.may,Bool.and_eq_true,decide_eq_true_eq] at this;exact⟨this.1.1,this.1.2.1⟩
   repeat' first|refine bQ ?_;intros
   refine ep (OK lD hr sh zQ agK) kQ hs.has ?_;rintro _ wa1 w1 X1 ⟨i1,bb,rfl,hP⟩ OM H6 ao;have dq:=hT.since ao;have h1:=h.mv (ao.jQ hT.bm);have Bm:=h1.box.mv (Mv.sub dq.bm);repeat' first|refine aG ?_;intros
   refine ep (To (f:=f) (CH.mv dq.s.mv) hb) kQ dq.s.has ?_;rintro _ zr w2 X2 ⟨oY,rfl,ho⟩ oU lx dF;have cq:=dq.since dF;have h2:=h1.mv (dF.jQ dq.bm);have iH:Own w2 X2 w1.heap.size 118 4 oY (f.writes.map KV.l):=ho.up lx oU;have oo:=iH.sl.one;obtain⟨xb,xn,xc,rfl⟩:=iH.sl.form;refine wX cq.s.has kQ rfl fun vv w3 X3 dZ Qg=>?_;have dG:=cq.since dZ;have h3:=h2.mv (dZ.jQ cq.bm);have hvo:=Qg.ow;have su: ∀q,F q→q<w1.heap.size:=fun q hq=>dq.s.has q (dq.bm q hq);have fN:w1.heap.size≤w2.heap.size:=dF.kp.size;have aeX:w2.heap.size≤w3.heap.size:=dZ.kp.size;have H7:Own w3 X3 w1.heap.size 118 4 (.slice xb xn xc) (f.writes.map KV.l):=iH.since dZ;refine dG.call (abB (x:=(.slice xb xn xc,f)) h3.ow dG.bm (S:=dP vv) hvo.tight (fun k ah=>⟨(hvo.bm ah).1,fun BG=>by have:=(Qg.ge ah).1;have:=su k (h3.ow.bm BG).1;omega⟩) oo (fun y hy=>(h3.ws y hy).one) hP.le zQ) kQ (fun k ah=>(h3.ow.bm ah).1) ?_;rintro v Ad w4 X4 ⟨F1,ho4,Gf⟩ E8 Di fk c4;have j5: ¬dP hv sb:=fun ah=>h3.ow.gi h3.box kQ ah;have KP:=nC (h3.box.mv (Mv.sub dG.bm)) c4 j5;repeat' first|refine aG ?_;intros
   have M8:=ho4.one;refine AN (o:=0) KP zQ kQ (by simp) M8 fk.s.has fun w5 X5 c5 hr5=>?_;have abE: ∀q,F1 q→X4 q∧(F q∨w0.heap.size≤q):=fun q hq=>by
    rcases Gf q hq with hb|hm
    ·exact⟨c4.sub q (dG.bm q (h3.ow.bm hb).1),.inl (h3.ow.bm hb).1⟩
    ·exact⟨Di q hm,.inr (af dG.s.kp.size (af E8 hm.1))⟩
   have Ng: ∀q,X3 q→q≠sb→ ¬dP hv q→w5.heap[q]? =w3.heap[q]? ∧X5 q:=fun q hq h1 h2=>⟨(c5.block q (c4.sub q hq) h1).trans (c4.block q hq h2),c5.sub q (c4.sub q hq)⟩;have fU:Ft w0 F w5 X5 (fun k=>F k∨(X5 k∧w0.heap.size≤k)):=((fk.less fun k ah=>.inl ah).dK (F':=F) c5 (fun k ah=>by subst ah;exact h.box.1) fun k ah=>.inl ah).more fun k ah=>ah;have cn: ∀{g:Nat} {v':Value} {rows:List (List Value)} {Y:XS},Ow w3 Y 118 4 v' rows→v'.ownBlock=some g→g≠sb∧ ¬dP hv g:=fun {g v' rows Y} ue hg=>
    ⟨fun e=>ue.gi h3.box kQ (by rw [←e];exact hg),fun e=>by
     obtain⟨q1,e1⟩:=ue.tag hg;obtain⟨q2,e2⟩:=h3.ow.tag e;rw [e1] at e2;simp at e2⟩
   refine fU.fin fun wa bD=>⟨rfl,_,v,hl.take i1++[(.slice xb xn xc,f)]++hl.drop i1,fU.oT bD fun _ h=>h,gO.mv (w:=w5) (F:=fun k=>F k∨(X5 k∧w0.heap.size≤k)) ⟨⟨.inl h.box.1,hr5.2⟩,?_,fun x hx=>?_⟩ (bD.kf fU.bm),i1,_,hP,rfl⟩
   ·refine ho4.tight.mv fun q hq _=>?_;obtain⟨q1,q2⟩:=abE q (ho4.bm hq).1;have hqs:q≠sb:=fun e=>ho4.gi KP kQ (by rw [←e];exact hq);exact⟨q2.imp id fun h=>⟨c5.sub q q1,h⟩,c5.block q q1 hqs⟩
   ·rcases List.mem_append.1 hx with hx|hx
    ·rcases List.mem_append.1 hx with hx|hx
     ·have tN:=h3.ws x (List.mem_of_mem_take hx);exact tN.tight.mv fun q hq _=>⟨.inl (tN.bm hq).1,(Ng q (dG.bm q (tN.bm hq).1) (cn tN hq).1 (cn tN hq).2).1⟩
     ·simp only [ej] at hx;subst hx;have tN:=H7.ow;refine tN.tight.mv fun q hq _=>?_;have BG:=Ng q (tN.bm hq).1 (cn tN hq).1 (cn tN hq).2;exact⟨.inr ⟨BG.2,af dq.s.kp.size (H7.ge hq).1⟩,BG.1⟩
    ·have tN:=h3.ws x (ec hx);exact tN.tight.mv fun q hq _=>⟨.inl (tN.bm hq).1,(Ng q (dG.bm q (tN.bm hq).1) (cn tN hq).1 (cn tN hq).2).1⟩
  ·have e:lE (hl.map (·.2)) f=18:=by unfold lE;rw [if_neg (by simp [lK]),if_neg (by simp [Yn]),if_neg (by simp [ac7]),if_pos (by simp [ac8])]
   repeat' first|refine bQ ?_;intros
   exact hT.fin fun wa bD=>⟨by rw [e],nL hT h (by rw [e];decide) wa bD⟩
theorem aaq {w:World} {X F:XS} {hv:Value} {xs:List FV} {n:Nat} (own:Ow w F 156 9 hv (xs.map FV.l)) (hF: ∀k,F k→X k) (hr: ∀y∈xs,bB.one y.1=true) (hn:n≤xs.length) (hl:xs.length≤2^40):
  Ct pg 174 #[hv,I 0,I n] w X (dP hv) fun v wa w'=> ∃F',Ow w' F' 156 9 v ((xs.drop n).map FV.l)∧ ∀k,F' k→dP hv k∨made wa w' k:=by
 intro w0 hk;have Fg:=own.mv ((Mv.sub hF).trans hk.cE);have hT:Ft w0 (dP hv) w0 (aR w0) (dP hv):=Ft.init fun k ah=>(Fg.bm ah).2;have tW: ∀r∈xs.map FV.l,∀u∈r,bB.one u=true:=fun r jt u hu=>by
  obtain⟨y,hy,rfl⟩:=List.mem_map.1 jt;have:=hr y hy;simp only [FV.l,eM.l,gp,fW,or_false] at hu;rcases hu with rfl|rfl|rfl|rfl|rfl|rfl|rfl|rfl|rfl<;>first|rfl|exact this
 have lD:=Fg.sl;apply po;unfold jG;have hs:=aj.init w0;by_cases h0:n=0
 ·subst h0;repeat' first|refine aG ?_;intros
  obtain⟨b1,n1,c1,rfl⟩:=lD.form;have hb:=lD.2.2;refine WW (i:=0) (j:=0) (q:=xs.length) rfl rfl rfl zQ zQ ?_ kQ kQ fun _=>?_
  ·rcases Jk Fg with⟨h1,h2⟩|⟨g,off,cap,A,Z,h1,_,_,h2,_⟩
   ·simp at h2;subst h2;simp
   ·simp only [Value.slice.injEq] at h1;rw [aA] at h2;omega
  repeat' first|refine bQ ?_;intros
  exact hT.fin fun wa bD=>D5 (by simpa using Fg) bD fun g hg=>.inl hg
 ·rcases Jk Fg with⟨_,h⟩|⟨g,off,cap,A,Z,rfl,bH,hA,jk,iK,hZ⟩
  ·simp at h;subst h;simp at hn;omega
  rw [aA] at jk hZ;simp only [aA] at*;repeat' first|refine aG ?_;intros
  refine WW (i:=0) (j:=n) (q:=xs.length) rfl rfl rfl zQ hn jk kQ kQ fun _=>?_;repeat' first|refine bQ ?_;intros
  refine zh (i:=0) rfl zQ kQ kQ ?_;refine WU lD (i:=n) rfl (by simpa using hn) kQ kQ fun v2 dF=>?_;have hlen: ∀r∈(xs.drop n).map FV.l,r.length=9:=fun r jt=>by obtain⟨y,_,rfl⟩:=List.mem_map.1 jt;rfl
  have fF:((xs.map FV.l).flatten).length=xs.length*9:=by rw [gZ (k:=9) fun r jt=>by obtain⟨y,_,rfl⟩:=List.mem_map.1 jt;rfl];simp
  have hdl:(((xs.drop n).map FV.l).flatten).length=(xs.length-n)*9:=by rw [gZ (k:=9) hlen];simp
  rw [←List.map_drop] at dF;obtain⟨E1,E2,hE,x6⟩: ∃E1 E2,(xs.map FV.l).flatten=E1++E2∧E1.length=(xs.length-n)*9:=⟨((xs.map FV.l).flatten).take ((xs.length-n)*9),((xs.map FV.l).flatten).drop ((xs.length-n)*9),(cG _ _).symm,by rw [aX,fF];omega⟩;have sv:E2.length=n*9:=by have:=fF;rw [hE,ae,x6] at this;omega
  have jP:((xs.drop n).map FV.l).length=xs.length-n:=by simp
  refine abF (k:=9) (n:=0) kQ bH dF (fun r jt u hu=>tW r (by
   obtain⟨y,hy,rfl⟩:=List.mem_map.1 jt;exact List.mem_map.2 ⟨y,ec hy,rfl⟩) u hu) zQ (by simp only [ae,hA,fF];omega) hs.has fun w1 X1 c1 wu=>?_
  rw [hE,show A++(E1++E2)++Z=A++E1++(E2++Z)by simp,qY (by rw [hA];omega) (by rw [x6,hdl])] at wu;rw [jP,ed];have dq:=hT.dK c1 (fun k ah=>by subst ah;rfl) (F':=dP (.slice (some ⟨g,off,none⟩) xs.length cap)) fun k ah=>.inl ah;have kD:Ow w1 X1 156 9 (.slice (some ⟨g,off,none⟩) (xs.length-n) cap) ((xs.drop n).map FV.l):=Nd hlen wu hA jP zQ iK (by rw [jP,ae,sv];omega);have ao:=kD.sl;repeat' first|refine aG ?_;intros
  refine aeY (k:=9) (i:=xs.length-n) (j:=xs.length) (by simp) rfl zQ jk zQ kQ kQ ?_;refine LF (k:=9) (bytes:=88) (e:=156) wu kQ kQ zQ (by simp only [ae,hA,hdl,sv];omega) dq.s.has fun w2 X2 zs D6 c2 uf=>?_;rw [show A++((xs.drop n).map FV.l).flatten++(E2++Z)=(A++((xs.drop n).map FV.l).flatten)++E2++Z by simp,qY (by simp only [ae,hA,hdl]) (by rw [sv,D6];omega)] at uf;have cq:=dq.dK c2 (fun k ah=>by subst ah;rfl) (F':=nX) fun k ah=>ah.elim;refine cq.fin fun wa bD=>D5 (Nd (k:=9) (A:=A) (Z:=zs++Z) hlen (by simpa using uf) hA jP zQ iK (by rw [jP,ae,D6];omega)) bD fun g' gA=>.inl (by cases gA;rfl)
end Go.Proofs.YtfndblbeikocdaaGreat
