/-
 Part 9 of the proof: what the last text leans on.
-/
import Derived.Test.YtpdkoaklobnegaaGreatH8
open List renaming range → dG, replicate → fW, mem_singleton → aV, map_append → aT, length_append → ae, append_assoc → au, length_map → aG, getLast?_eq_some_getLast → kH, length_singleton → fK, take_length → dE, dropLast_concat_getLast → oV, pairwise_singleton → rj, mem_cons_of_mem → aZ
open Go.Value renaming cells → ad, int → aC
open BitVec renaming ofInt → aQ
open Nat renaming zero_le → aN, zero_add → fp, le_trans → ah, lt_of_lt_of_le → aK
open Go.Op renaming unary → bg
open Option.some renaming inj → bC
open Go.IntKind renaming bits → iI, signed → gC, wrap → jZ
open ByteArray renaming size_append → oo
open Int renaming toNat_of_nonneg → uC
set_option linter.unusedVariables false
set_option linter.unusedSimpArgs false
namespace Go.Proofs.YtpdkoaklobnegaaGreat
open Go.Proofs.Tryz renaming prog → pg
open Go.dL
set_option maxRecDepth 100000
set_option maxHeartbeats 1000000
set_option linter.unusedVariables false
set_option linter.unusedSimpArgs false
attribute [local irreducible] un jn bq aS bb gy dV dD cK lJ ez kV yC xf gU gH aa ay aD eW eV eU eC eF gE ao fin aR aE aJ vS yD jw jA tq A6 A7 yE A8 yF jx jB tt A9 Ba yG Bb
def xr (a b:Int):Int:=IntKind.u32.wrap (aQ IntKind.u32.bits a^^^aQ IntKind.u32.bits b).toNat
def xr8 (a b:Int):Int:=IntKind.u8.wrap (aQ IntKind.u8.bits a^^^aQ IntKind.u8.bits b).toNat
def an (a b:Int):Int:=IntKind.u32.wrap (aQ IntKind.u32.bits a&&& aQ IntKind.u32.bits b).toNat
def sr (a n:Int):Int:=a.fdiv (2^min n.toNat IntKind.u32.bits)
def ng (a:Int):Int:=IntKind.u32.wrap (-a)
def nt (a:Int):Int:=xr IntKind.u32.max a
def stp (c:Int):Int:=xr (sr c 1) (an 2197175160 (ng (an c 1)))
def it:Nat→Int→Int
 |0,c=>c
 |n+1,c=>stp (it n c)
def BK (i:Int):Int:=it 8 (IntKind.u32.wrap i)
def ab4 (l:List Nat) (c:Int):Int:=l.foldl (fun (c:Int) (x:Nat)=>it 8 (xr c (IntKind.u32.wrap x))) c
def XY (l:List Nat) (c:Int):Int:=l.foldl (fun (c:Int) (x:Nat)=>xr (sr c 8) (BK (xr8 (IntKind.u8.wrap c) x))) c
def JN (l:List Nat):Int:=nt (if l.length<64 then ab4 l 4294967295 else XY l 4294967295)
def Ae (l:List Nat):Nat:=(JN l).toNat
def qB (n:Nat):List Nat:=[n % 256,n/256 % 256,n/65536 % 256,n/16777216 % 256]
def cC (p:List Nat):List Nat:=qB p.length++qB (Ae (qB p.length))++p++qB (Ae p)
theorem wrap32 (n:Int):IntKind.u32.wrap n=n % 4294967296:=by simp [jZ,iI,gC]
theorem afy (a b:Int):0≤xr a b∧xr a b<4294967296:=by unfold xr;rw [wrap32];omega
theorem ady (a b:Int):0≤xr8 a b∧xr8 a b<256:=by unfold xr8;rw [DI];omega
theorem QD (l:List Nat):0≤JN l∧JN l<4294967296:=afy _ _
theorem Po (l:List Nat):((Ae l:Nat):Int)=JN l:=uC (QD l).1
theorem acw (l:List Nat):Ae l<4294967296:=by have:=Po l;have:=QD l;omega
theorem Ln (n:Nat):(qB n).length=4:=rfl
theorem lQ (p:List Nat):(cC p).length=p.length+12:=by simp only [cC,ae,Ln];omega
section
variable {P : Program} {R : Ending → World → Prop} {X : XS} {w : World} {m : Bool} {N : Value → Prop} {t : TypeId} {a b : Int}
theorem ab5 (h:N (.int .u32 (xr a b))):aa P X w (binOp .xor t (.int .u32 a) (.int .u32 b)) N:=Rn h
theorem akI (h:N (.int .u8 (xr8 a b))):aa P X w (binOp .xor t (.int .u8 a) (.int .u8 b)) N:=Rn h
theorem ajt (h:N (.int .u32 (an a b))):aa P X w (binOp .and t (.int .u32 a) (.int .u32 b)) N:=LA h
theorem afz (hb: ¬b<0) (h:N (.int .u32 (sr a b))):aa P X w (binOp .shr t (.int .u32 a) (.int .u64 b)) N:=B4 hb h
theorem aju (h:N (.int .u32 (ng a))):aa P X w (bg .neg (.int .u32 a)) N:=bX (fun wa=>by simp [bg,ng,Op.intArith]) h
theorem ajv (h:N (.int .u32 (nt a))):aa P X w (bg .xor (.int .u32 a)) N:=bX (fun wa=>by simp [bg,nt,xr,Op.intBits,gC]) h
theorem aan {k:IntKind} {g o i:Nat} {z:Int} (hz:z=i) (hi:i<P.arrayLen t) (ht:P.underlying t=some (.array (P.arrayLen t) (P.elem t))) (hs:(P.info? (P.elem t)).map (·.size)=some 1) (h:N (ptr g (o+i))):
  aa P X w (Instr.indexAt t (ptr g o) (.int k z)) N:=by
 subst hz;refine bX (v:=ptr g (o+i)) (fun wa=>?_) h
 show(Instr.indexAt t (.pointer (some ⟨g,o,none⟩)) _).run P wa=_
 rw [run_indexAt_array (h:=ht),if_pos zQ];cases hq:P.info? (P.elem t)with
 |none=>simp [hq] at hs
 |some inf=>
  have:inf.size=1:=by simpa [hq] using hs
  simp [sizeOf,typeInfo,hq,this,vT]
end
abbrev U4 (x:Int):Value:=.int .u32 x
theorem TY {w:World} {X:XS} :Ct pg 287 #[] w X nX fun v wa w'=>v= .agg ((dG 256).map fun i:Nat=>U4 (BK (i:Int))).toArray:=by
 intro w0 hk;apply RL;unfold FW;have hs:=aj.init w0;have hT:Ft w0 nX w0 (ba w0) nX:=Ft.init fun _ h=>h.elim;refine Fj (l:=fW 256 (U4 0)) hs.has kQ fun b w1 X1 hb aq hr=>?_;have cm:Ft w0 nX w1 X1 (fun k=>k=b):=(hT.since aq).more fun k ai=>by subst ai;exact .inr ⟨hr.1,hb⟩
 refine Fw (fun n a _ _ w X=> ∃i:Nat,a=I (i:Nat)∧n=256-i∧i≤256∧Ft w0 nX w X (fun k=>k=b)∧bH w X b (((dG i).map fun i:Nat=>U4 (BK (i:Int)))++fW (256-i) (U4 0)) 353) 256 ⟨0,rfl,rfl,aN _,cm,by simpa using hr⟩ ?_;rintro n a _ _ w X ⟨i,rfl,rfl,hi,bK,jG⟩;repeat' first|refine aI ?_;intros|refine de ?_ ?_<;>intros
 ·refine gN (fun n a c w' X'=> ∃j:Nat,a=I (j:Nat)∧c=U4 (it j (IntKind.u32.wrap i))∧n=8-j∧j≤8∧w'=w∧X'=X) 8 ⟨0,rfl,rfl,rfl,aN _,rfl,rfl⟩ ?_;rintro n a c _ _ ⟨j,rfl,rfl,rfl,hj,rfl,rfl⟩;repeat' first|refine aI ?_;intros|refine de ?_ ?_<;>intros|(with_reducible apply afz);omega|(with_reducible apply ajt)|(with_reducible apply aju)|(with_reducible apply ab5)
  ·exact gA (8-(j+1)) zQ ⟨j+1,by simp,rfl,rfl,by omega,rfl,rfl⟩
  ·have hj8:j=8:=by omega
   subst hj8;have St:pg.arrayLen 353=256:=by kernel_rfl
   refine aan rfl (by rw [St];omega) kQ kQ ?_;rw [fp];refine vO jG kQ (by simp;omega) rfl rfl bK.s.has fun w3 X3 c sk=>?_;have cn:Ft w0 nX w3 X3 (fun k=>k=b):=bK.dM c (fun k ai=>ai) fun k ai=>.inl ai;repeat' first|refine aI ?_;intros
   refine Cy (256-(i+1)) zQ ⟨i+1,by simp,rfl,by omega,cn,?_⟩;have e:b8 (((dG i).map fun i:Nat=>U4 (BK (i:Int)))++fW (256-i) (U4 0)) i (ad (U4 (it 8 (IntKind.u32.wrap (i:Int))))).toList=((dG (i+1)).map fun i:Nat=>U4 (BK (i:Int)))++fW (256-(i+1)) (U4 0):=by
    have hl:((dG i).map fun i:Nat=>U4 (BK (i:Int))).length=i:=by simp
    rw [show 256-i=(256-(i+1))+1 by omega,List.replicate_succ];unfold b8;rw [List.take_left' hl,List.range_succ,aT,List.map_singleton,au,au];have hd: ∀r:List Value,(((dG i).map fun i:Nat=>U4 (BK (i:Int)))++U4 0::r).drop (i+1)=r:=fun r=>by
     rw [←List.drop_drop,List.drop_left' hl];rfl
    have h1:(ad (U4 (it 8 (IntKind.u32.wrap (i:Int))))).toList=[U4 (BK (i:Int))]:=rfl;rw [h1,fK,hd]
   rw [←e];exact sk
 ·have hi6:i=256:=by omega
  subst hi6;have sk:bH w X b ((dG 256).map fun i:Nat=>U4 (BK (i:Int))) 353:=by simpa using jG
  have hl:((dG 256).map fun i:Nat=>U4 (BK (i:Int))).length=256:=by simp
  generalize hL:((dG 256).map fun i:Nat=>U4 (BK (i:Int)))=L at sk hl⊢;have G6:L.all one=true:=by rw [←hL];simp;intros;rfl
  refine Lj sk.cells (Mv.refl _ _) kQ hl ?_;refine Wd ?_;refine dt.2 ⟨by simpa [ad] using hl,dt.2 ⟨by simpa [ad] using G6,?_⟩⟩;refine adg ?_;refine dt.2 ⟨rfl,?_⟩;rw [List.drop_zero,List.take_of_length_le zQ];exact bK.fin fun wa aM=>rfl
theorem Tj {β:Type} (f:β→Nat→β) (l:List Nat) {i x:Nat} (c:β) (h:l[i]? =some x):(l.take (i+1)).foldl f c=f ((l.take i).foldl f c) x:=by
 rw [List.take_add_one,h];simp
theorem zJ {w:World} {X:XS} {vb:Value} {l:List Nat} (h:Sl w X 1 vb (l.map U1)):Ct pg 203 #[vb] w X nX fun v wa w'=>v=U4 (JN l):=by
 intro w0 hk;replace h:=h.mv hk.dm;have hlen:=h.fQ;apply Xh;unfold KB;have hs:=aj.init w0;repeat' first|refine aI ?_;intros|refine de ?_ ?_<;>intros
 ·have h64:l.length<64:=by omega
  refine Fw (fun n a _ c w X=> ∃i:Nat,a=I (i:Nat)∧c=U4 (ab4 (l.take i) 4294967295)∧n=l.length-i∧i≤l.length∧aj (ba w0) w0 X w) l.length ⟨0,rfl,rfl,rfl,aN _,hs⟩ ?_;clear hs;rintro n a _ _ w X ⟨i,rfl,rfl,rfl,hi,hs⟩;rcases ej l i with⟨cH,x,hx,hd⟩|⟨eh,hd⟩
  ·repeat' first|refine bL ?_;intros|(with_reducible apply ab5)
   refine gN (fun n a c w' X'=> ∃j:Nat,a=I (j:Nat)∧c=U4 (it j (xr (ab4 (l.take i) 4294967295) (IntKind.u32.wrap x)))∧n=8-j∧j≤8∧w'=w∧X'=X) 8 ⟨0,rfl,rfl,rfl,aN _,rfl,rfl⟩ ?_;rintro n a c _ _ ⟨j,rfl,rfl,rfl,hj,rfl,rfl⟩;repeat' first|refine aI ?_;intros|refine de ?_ ?_<;>intros|(with_reducible apply afz);omega|(with_reducible apply ajt)|(with_reducible apply aju)|(with_reducible apply ab5)
   ·exact gA (8-(j+1)) zQ ⟨j+1,by simp,rfl,rfl,by omega,rfl,rfl⟩
   ·have hj8:j=8:=by omega
    subst hj8;refine Cy (l.length-(i+1)) zQ ⟨i+1,by simp,?_,rfl,by omega,hs⟩;unfold ab4;rw [Tj _ l _ hx]
  ·have jM:i=l.length:=by omega
   subst jM;repeat' first|refine bL ?_;intros|(with_reducible apply ajv)|((first|(with_reducible refine ak hs ?_)|(with_reducible refine ak (bT.trans hs) ?_));intro wa hk;(rw [JN,if_pos h64,dE]))
 ·have h64: ¬l.length<64:=by omega
  refine cJ TY kQ hs.has ?_;rintro _ wa w1 X1 rfl hle fU aq;replace hs:=hs.trans aq;refine Fj (l:=fW 256 (U4 0)) hs.has kQ fun b w2 X2 hb bQ hr=>?_;have gX:=hs.trans bQ;have hT:Ft w0 nX w2 X2 (fun k=>k=b):=((Ft.init (w:=w0) (F0:=nX) fun _ h=>h.elim).since gX).more fun k ai=>by subst ai;exact .inr ⟨hr.1,by have:=hs.kp.size;omega⟩
  have hl:((dG 256).map fun i:Nat=>U4 (BK (i:Int))).length=256:=by simp
  have we: ∀i:Nat,i<256→((dG 256).map fun i:Nat=>U4 (BK (i:Int)))[i]? =some (U4 (BK (i:Int))):=fun i hi=>by simp [hi]
  have G6:((dG 256).map fun i:Nat=>U4 (BK (i:Int))).all one=true:=by simp;intros;rfl
  generalize ((dG 256).map fun i:Nat=>U4 (BK (i:Int)))=L at hl we G6⊢;refine vO hr kQ (by simp) (by simpa [ad] using hl) (by simpa [ad] using G6) hT.s.has fun w3 X3 c sk=>?_;have cn:Ft w0 nX w3 X3 (fun k=>k=b):=hT.dM c (fun k ai=>ai) fun k ai=>.inl ai;have e:b8 (fW 256 (U4 0)) 0 (ad (.agg L.toArray)).toList=L:=by
   unfold b8;simp [ad,hl]
  rw [e] at sk;have cl:aj (ba w0) w0 X3 w3:=⟨⟨cn.s.kp.os,cn.s.kp.tape,cn.s.kp.output,cn.s.kp.size,fun k ai=>cn.s.kp.block k ⟨ai,fun h=>h.elim⟩⟩,fun k ai=>cn.s.sub k ⟨ai,fun h=>h.elim⟩,cn.s.has⟩;clear hs gX;have hs:=cl;repeat' first|refine aI ?_;intros
  refine gN (fun n a c w X=> ∃i:Nat,a=I (i:Nat)∧c=U4 (XY (l.take i) 4294967295)∧n=l.length-i∧i≤l.length∧w=w3∧X=X3) l.length ⟨0,rfl,rfl,rfl,aN _,rfl,rfl⟩ ?_;rintro n a _ _ _ ⟨i,rfl,rfl,rfl,hi,rfl,rfl⟩;rcases ej l i with⟨cH,x,hx,hd⟩|⟨eh,hd⟩
  ·repeat' first|refine bL ?_;intros|(with_reducible apply afz);omega|(with_reducible apply akI)
   have hrg:=ady (IntKind.u8.wrap (XY (l.take i) 4294967295)) x;obtain⟨q,hq⟩: ∃q:Nat,xr8 (IntKind.u8.wrap (XY (l.take i) 4294967295)) x=(q:Int):=⟨_,(uC hrg.1).symm⟩;have St:pg.arrayLen 353=256:=by kernel_rfl
   refine aan hq (by rw [St];omega) kQ kQ ?_;rw [fp];have Tc:=sk.cells.abH (we q zQ);rw [fp] at Tc;repeat' first|refine aI ?_;intros|(with_reducible apply ab5)
   refine gA (l.length-(i+1)) zQ ⟨i+1,by simp,?_,rfl,by omega,rfl,rfl⟩;unfold XY;rw [Tj _ l _ hx,←hq];rfl
  ·have jM:i=l.length:=by omega
   subst jM;repeat' first|refine bL ?_;intros|(with_reducible apply ajv)|((first|(with_reducible refine ak hs ?_)|(with_reducible refine ak (bT.trans hs) ?_));intro wa hk;(rw [JN,if_neg h64,dE]))
theorem ab6 {P:Program} {X:XS} {w:World} {N:Value→Prop} {t:TypeId} {u:Nat} (k:Nat) (hk:k≤32) (h:N (.int .u32 ((u/2^k:Nat):Int))):aa P X w (binOp .shr t (.int .u32 (u:Int)) (.int .u64 (k:Int))) N:=by
 refine B4 zQ ?_;have e:((u:Int)).fdiv (2^min ((k:Int)).toNat IntKind.u32.bits)=((u/2^k:Nat):Int):=by
  rw [show min ((k:Int)).toNat IntKind.u32.bits=k by simp [iI];omega];rw [Int.fdiv_eq_ediv_of_nonneg _ (by exact_mod_cast aN _)]
  norm_cast
 rw [e];exact h
theorem akJ (a b c d:Int):Instr.fill (fun i=>some (i*1,1)) ((Array.range (4*1)).map ((aC .u8 0).cells[· % (aC .u8 0).cells.size]!)) [(0,.int .u8 a),(1,.int .u8 b),(2,.int .u8 c),(3,.int .u8 d)]=some #[.int .u8 a,.int .u8 b,.int .u8 c,.int .u8 d]:=by kernel_rfl
theorem EX {w:World} {X F:XS} {v:Value} {bs:List Nat} {n:Nat} (h:Ow w F 5 1 v (bs.map U1)) (hF:FX F X w) (hl:bs.length≤2^40):
  Ct pg 251 #[v,U4 n] w X F fun r wa w'=> ∃F',(∀k,F' k→F k∨made wa w' k)∧Ow w' F' 5 1 r ((bs++qB n).map U1):=by
 intro w0 hk;replace h:=h.mv (hF.mv hk);have hT:=hF.ft hk;apply Xo;unfold KK;have hs:=aj.init w0;refine Qt kQ kQ ?_;refine ab6 8 zQ ?_;refine Qt kQ kQ ?_;refine ab6 16 zQ ?_;refine Qt kQ kQ ?_;refine ab6 24 zQ ?_;refine Qt kQ kQ ?_;refine afY (bytes:=1) (rows:=(qB n).map U1) #[.int .u8 (n % 256:Nat),.int .u8 (n/256 % 256:Nat),.int .u8 (n/65536 % 256:Nat),.int .u8 (n/16777216 % 256:Nat)] (.int .u8 0) hT.s.has kQ kQ (by decide) (by decide) (akJ _ _ _ _) (by simp) rfl rfl fun s w1 X1 aq ho=>?_;have cm:=hT.since aq;refine PZ kQ aq.has ((h.mv (aq.dZ hT.aU)).mono cm.aU) ho.sl (by intro r hr u hu;obtain⟨x,_,rfl⟩:=List.mem_map.1 hr;simp only [U1,aV] at hu;subst hu;rfl) (by simp [qB];omega) (by simp [qB];omega) fun v' w2 X2 c m7 fm=>?_;have hF2: ∀g,v'.ownBlock=some g→F g∨(X2 g∧w1.heap.size≤g):=fun g hg=>by
  rcases fm with e|⟨g',e,eh⟩
  ·exact .inl (h.aU (e▸hg)).1
  ·rw [hg] at e;have:g=g':=bC e;subst this;exact .inr ⟨(m7.aU hg).1,eh⟩
 have bK:Ft w0 F w2 X2 (fun k=>F k∨(X2 k∧w1.heap.size≤k)):=cm.dM c (fun k ai=>(h.aU ai).1) fun k ai=>ai;refine bK.fin fun wa aM=>⟨_,bK.fL aM fun _ h=>h,?_⟩;rw [aT];exact m7.tight.mv fun k ai yH=>⟨hF2 k ai,aM.block k (m7.aU ai).1⟩
theorem Ft.afA {w0 w' wa:World} {X' F F':XS} {e k:Nat} {v:Value} {rows:List (List Value)} (h:Ft w0 nX w' X' (fun k=>F k∨made wa w' k)) (ho:Ow w' F' e k v rows) (lN: ∀k,F' k→F k∨made wa w' k):Ow w' (yK w0 X') e k v rows:=
 ho.mono fun k hk=>⟨h.aU k (lN k hk),(h.v k (lN k hk)).elim (fun h=>h.elim) id⟩
theorem TZ {w:World} {X:XS} {vp:Value} {p:List Nat} (h:Sl w X 1 vp (p.map U1)):Ct pg 169 #[vp] w X nX fun v wa w'=>
  if 262144<p.length then v= .tuple #[.slice none 0 0,I 2] else∃vb,v= .tuple #[vb,I 0]∧Ow w' (made wa w') 5 1 vb ((cC p).map U1):=by
 intro w0 hk;replace h:=h.mv hk.dm;have hlen:=h.fQ;apply RI;unfold FR;have hs:=aj.init w0;repeat' first|refine aI ?_;intros|refine de ?_ ?_<;>intros|((first|(with_reducible refine ak hs ?_)|(with_reducible refine ak (bT.trans hs) ?_));intro wa hk;(dsimp only;rw [if_pos zQ]))
 have hn: ¬262144<p.length:=by omega
 refine adl (e:=5) (k:=1) (c:=p.length+12) (bytes:=1) hs.has kQ (by simp) zQ zQ zQ fun v0 w1 X1 aq ho=>?_;have hT:Ft w0 nX w1 X1 (yK w0 X1):=((Ft.init (w:=w0) (F0:=nX) fun _ h=>h.elim).since aq).Jw;have hO:Ow w1 (yK w0 X1) 5 1 v0 (([]:List Nat).map U1):=(ho.ow.tight).mono fun k ai=>⟨(ho.ow.aU ai).1,(ho.ge ai).1⟩;have wM:IntKind.u32.wrap (p.length:Int)=(p.length:Nat):=by rw [wrap32];omega
 repeat' first|refine aI ?_;intros
 rw [wM];refine hT.call (EX hO (hT.fx fun _ h=>h) (by simp)) kQ (fun _ h=>h) fun v1 rZ w2 X2 hq hle fU bK hc=>?_;obtain⟨F2,hF2,hO2⟩:=hq;have hO2:=Ft.afA bK hO2 hF2;replace bK:=bK.Jw;rw [List.nil_append] at hO2;refine cJ (zJ (hO2.sl.mono bK.aU)) kQ bK.s.has ?_;rintro _ oG w3 X3 rfl nJ mg cl;have hO3:Ow w3 (yK w0 X3) 5 1 v1 ((qB p.length).map U1):=(hO2.mv (cl.dZ bK.aU)).mono fun k ai=>⟨cl.sub k ai.1,ai.2⟩;replace bK:=(bK.since cl).Jw;rw [←Po];refine bK.call (EX hO3 (bK.fx fun _ h=>h) (by simp [qB])) kQ (fun _ h=>h) fun v4 yJ w4 X4 hq hle fU dS hc=>?_;obtain⟨F4,Jt,hO4⟩:=hq;have hO4:=Ft.afA dS hO4 Jt;replace dS:=dS.Jw;have hp4:Sl w4 X4 1 vp (p.map U1):=h.mv dS.P0.mv;refine akt dS hO4 kQ hp4 (by intro r hr u hu;obtain⟨x,_,rfl⟩:=List.mem_map.1 hr;simp only [U1,aV] at hu;subst hu;rfl) (by simp [qB];omega) (by simp [qB];omega) fun v5 w5 X5 gR hO5 hc5 _=>?_;refine cJ (zJ (h.mv gR.P0.mv)) kQ gR.s.has ?_;rintro _ MH w6 X6 rfl Nv Cq pG;have hO6:Ow w6 (yK w0 X6) 5 1 v5 ((qB p.length++qB (Ae (qB p.length))++p).map U1):=by
  rw [aT];exact(hO5.mv (pG.dZ gR.aU)).mono fun k ai=>⟨pG.sub k ai.1,ai.2⟩
 replace gR:=(gR.since pG).Jw;rw [←Po];refine gR.call (EX hO6 (gR.fx fun _ h=>h) (by simp [qB];omega)) kQ (fun _ h=>h) fun v7 wa7 w7 X7 hq hle fU lP hc=>?_;obtain⟨F7,hF7,hO7⟩:=hq;have hO7:=Ft.afA lP hO7 hF7;have ov:=hO7.one
 skip
 refine lP.P0|>fun wN=>ak wN fun wa aM=>?_;dsimp only;rw [if_neg hn];refine⟨v7,rfl,?_⟩;exact hO7.mv fun k ai hl=>⟨⟨ai.2,aK hl aM.size⟩,aM.block k ai.1⟩
def np:Nat→Nat→List Nat
 |0,_=>[]
 |k+1,n=>np k (n/10)++[48+n % 10]
theorem rL: ∀k n,(np k n).length=k
 |0,_=>rfl
 |k+1,n=>by rw [np,ae,rL];rfl
def bw (dir:ByteArray) (n:Nat):ByteArray:=dir++⟨#[46]⟩++uH (np 8 n)
theorem rC (dir:ByteArray) (n:Nat):(bw dir n).size=dir.size+9:=by
 unfold bw;rw [oo,oo,S9,rL];rfl
section
variable {P : Program} {X : XS} {w : World} {N : Value → Prop} {t : TypeId}
theorem acQ {a b:Nat} (hb:b≠0) (h:N (I ((a % b:Nat):Int))):aa P X w (binOp .rem t (I (a:Int)) (I (b:Int))) N:=by
 refine bX (fun wa=>?_) h;simp [binOp,Op.intDiv,hb];exact(Int.ofNat_tmod a b).symm
theorem ajw {a b:Nat} (hb:b≠0) (ha:a<2^63) (h:N (I ((a/b:Nat):Int))):aa P X w (binOp .quo t (I (a:Int)) (I (b:Int))) N:=by
 refine bX (fun wa=>?_) h;have h1:(a:Int).tdiv b=((a/b:Nat):Int):=(Int.ofNat_tdiv a b).symm;have h2:a/b≤a:=Nat.div_le_self a b;have h3:IntKind.i64.wrap ((a/b:Nat):Int)=((a/b:Nat):Int):=by
  generalize a/b=q at h2;simp [jZ,iI,gC];omega
 have fR: ¬(b:Int)=0:=by omega
 simp only [binOp,Op.intDiv,fR,if_false,h1,h3];simp
end
theorem akK (a:Int):Instr.fill (fun i=>some (i*1,1)) ((Array.range (8*1)).map ((aC .u8 0).cells[· % (aC .u8 0).cells.size]!)) [(0,.int .u8 a),(1,.int .u8 a),(2,.int .u8 a),(3,.int .u8 a),(4,.int .u8 a),(5,.int .u8 a),(6,.int .u8 a),(7,.int .u8 a)]=some #[.int .u8 a,.int .u8 a,.int .u8 a,.int .u8 a,.int .u8 a,.int .u8 a,.int .u8 a,.int .u8 a]:=by kernel_rfl
abbrev U8 (x:Nat):Value:=.int .u8 x
theorem rJ {w:World} {X:XS} {dir:ByteArray} {n:Nat} (hd:dir.size≤2^40) (hn:n<2^63):Ct pg 106 #[.string dir,I n] w X nX fun v wa w'=>v= .string (bw dir n):=by
 intro w0 hk;apply YQ;unfold MZ;have hs:=aj.init w0;have hT:Ft w0 nX w0 (ba w0) nX:=Ft.init fun _ h=>h.elim;refine afY (e:=5) (k:=1) (bytes:=1) (rows:=(fW 8 48).map U1) #[.int .u8 48,.int .u8 48,.int .u8 48,.int .u8 48,.int .u8 48,.int .u8 48,.int .u8 48,.int .u8 48] (.int .u8 0) hT.s.has kQ kQ (by decide) (by decide) (akK 48) (by simp) rfl rfl fun s w1 X1 aq ho=>?_;rcases ho.row with⟨_,he⟩|⟨g,cap,cs,rfl,fv,dA,ta,lA,Bm,qU⟩
 ·cases he
 have h8:cs.take 8=(fW 8 48).map U8:=qU;have hl8:8≤cs.length:=by have:((fW 8 48).map U1).length≤cap:=ta;simp at this;omega
 refine ahf dA kQ kQ aq.has fun w2 X2 hc hF=>?_;have cm:Ft w0 nX w1 X1 (fun k=>k=g):=(hT.since aq).more fun k ai=>by subst ai;exact .inr ⟨dA.1,fv⟩
 have bK:Ft w0 nX w2 X2 (fun k=>k=g):=cm.dM hc (fun k ai=>ai) fun k ai=>.inl ai;refine gN (fun n' a b w X=> ∃(k m:Nat) (tail:List Nat) (cs:List Value),a=I ((k:Int)-1)∧b=I (m:Int)∧n'=k∧k≤8∧m<2^63∧np 8 n=np k m++tail∧Hg w X g cs 5∧cs.take 8=(fW k 48++tail).map U8∧8≤cs.length∧Ft w0 nX w X (fun k=>k=g)) 8 ⟨8,n,[],cs,rfl,rfl,rfl,Nat.le_refl _,hn,by simp,hF,by simpa using h8,hl8,bK⟩ ?_;clear h8 hl8 hF bK hc;rintro k a b w X ⟨_,m,tail,cs,rfl,rfl,rfl,hk8,hm,P2,hF,LI,hl8,bK⟩;have cH:(np k m).length+tail.length=8:=by have:=congrArg List.length P2;rw [rL,ae] at this;exact this.symm
 rw [rL] at cH;cases k with
 |succ k=>
  have hck:cs[k]? =some (U8 48):=by
   have h1:(cs.take 8)[k]? =cs[k]? :=by rw [List.getElem?_take,if_pos zQ]
   rw [←h1,LI,aT,List.getElem?_append_left (by simp)];simp
  have Cz:=hF.cells.abH hck;rw [fp] at Cz;have hz:((k+1:Nat):Int)-1=(k:Nat):=by omega
  have h49:IntKind.u8.wrap (((48:Nat):Int)+IntKind.u8.wrap ((m % 10:Nat):Int))=((48+m % 10:Nat):Int):=by rw [DI,DI];omega
  rw [hz];repeat' first|refine bL ?_;intros
  refine afZ rfl (by simp;omega) kQ kQ ?_;rw [Nat.mul_one];refine afW Cz (Mv.refl _ _) kQ rfl ?_;refine acQ (a:=m) (b:=10) zQ ?_;refine abI kQ kQ ?_;refine Rl ?_;rw [h49];refine afZ rfl (by simp;omega) kQ kQ ?_;rw [Nat.mul_one];refine aku hF kQ zQ rfl bK.s.has fun w3 X3 c Cm=>?_;have cn:Ft w0 nX w3 X3 (fun k=>k=g):=bK.dM c (fun k ai=>ai) fun k ai=>.inl ai;refine ajw (a:=m) (b:=10) zQ hm ?_;repeat' first|refine aI ?_;intros
  refine gA k zQ ⟨k,m/10,(48+m % 10)::tail,_,rfl,rfl,rfl,by omega,by omega,?_,Cm,?_,by rw [List.length_set];exact hl8,cn⟩
  ·rw [P2,np,au];rfl
  ·rw [List.take_set,LI];have e:(fW (k+1) 48++tail)=fW k 48++48::tail:=by rw [List.replicate_succ',au];rfl
   rw [e,aT,aT,List.set_append_right _ _ (by simp),aG,List.length_replicate,Nat.sub_self];rfl
 |zero=>
  have Zo:tail=np 8 n:=by rw [P2];rfl
  have ami:cs.take 8=(np 8 n).map U8:=by rw [LI,←Zo];rfl
  have Cz:Cells w X g 0 ((np 8 n).map fun x:Nat=>aC .u8 x):=by
   have h1:=hF.cells.part 0 8;rw [List.drop_zero,ami] at h1;exact h1
  have h2:aj (ba w0) w0 X w:=bK.P0;repeat' first|refine bL ?_;intros
  refine WV (by show dir.size+1≤_;omega) ?_;refine Ll (e:=5) (by simp [rL]) Cz kQ kQ kQ bK.s.has fun w4 X4 ff=>?_;replace h2:=h2.trans ff;refine WV (by rw [oo,S9,rL];show dir.size+1+8≤_;omega) ?_;exact ak h2 fun wa aM=>rfl
theorem O7 {w:World} {X:XS} {dir:ByteArray} {n:Nat} (h1:1≤dir.size) (h2:dir.size≤11) (h3:1≤n) (h4:n≤99999999):Ct pg 79 #[.string dir,I n] w X nX fun v wa w'=>v= .tuple #[.string (bw dir n),I 0]:=by
 intro w0 hk;apply YP;unfold MY;have hs:=aj.init w0;repeat' first|refine bL ?_;intros|refine de ?_ ?_<;>intros|(refine cJ (rJ zQ zQ) kQ hs.has ?_;rintro _ wa w X rfl hle fU aq;replace hs:=hs.trans aq)|((first|(with_reducible refine ak hs ?_)|(with_reducible refine ak (bT.trans hs) ?_));intro wa hk;rfl)
 rename_i he;subst he;exact absurd h1 (by decide)
structure bW where
 first:Nat
 bS:List (List Nat)
 size:Nat
structure LM where
 dir:ByteArray
 room:Nat
 bI:List bW
 safe:Int
def LM.last (L:LM):bW:=L.bI.getLast?.getD ⟨0,[],0⟩
def LM.next (L:LM):Nat:=L.last.first+L.last.bS.length
def LM.ee (L:LM):ByteArray:=bw L.dir L.last.first
structure LD where
 L:LM
 m:DM
def LD.sync (x:LD):LD×Nat:=let r:=x.m.sync x.L.ee;(⟨if r.2=0 then { x.L with safe:=(x.L.next:Int)-1 } else x.L,r.1⟩,r.2)
def LD.fI (x:LD) (n:Nat):LD×Nat:=let r:=x.m.create (bw x.L.dir n);(⟨if r.2=0 then { x.L with bI:=x.L.bI++[⟨n,[],0⟩] } else x.L,r.1⟩,r.2)
def LD.room (x:LD):LD×Nat:=if x.L.room≤x.L.last.size then(let r:=x.sync;if r.2≠0 then r else r.1.fI x.L.next)else(x,0)
def LM.add (L:LM) (p:List Nat):LM:= { L with bI:=L.bI.dropLast++[⟨L.last.first,L.last.bS++[p],L.last.size+(cC p).length⟩] }
def LD.lay (x:LD) (p:List Nat):LD×Nat:=let r:=x.m.append x.L.ee (cC p);(⟨if r.2=0 then x.L.add p else x.L,r.1⟩,r.2)
def LD.append (x:LD) (p:List Nat):LD×Nat×Nat:=
 if 262144<p.length then(x,0,2)else if 99999999<x.L.next then(x,0,1)else
  let r:=x.room
  if r.2≠0 then(r.1,0,r.2)else
   let q:=r.1.lay p
   if q.2≠0 then(q.1,0,q.2)else(q.1,x.L.next,0)
def LD.trim (x:LD) (below:Nat):Nat→LD×Nat
 |0=>(x,0)
 |k+1=>match x.L.bI with
  |s::t::r=>if t.first≤below then(let q:=x.m.remove (bw x.L.dir s.first);if q.2≠0 then(⟨x.L,q.1⟩,q.2)else LD.trim ⟨{ x.L with bI:=t::r },q.1⟩ below k)else(x,0)
  |_=>(x,0)
structure jm where
 b:Nat
 first:Nat
 rv:Value
 rs:List (Value×List Nat)
 size:Nat
def jm.er (s:jm):bW:=⟨s.first,s.rs.map (·.2),s.size⟩
def XZ (x y:jm):Prop:=x.b≠y.b∧ ∀g,x.rv.ownBlock=some g→y.rv.ownBlock≠some g
def ky (l:List Nat):Prop:= ∀x∈l,x<256
structure u7 (w:World) (F:XS) (lb db:Nat) (sv:Value) (bl:List jm) (L:LM):Prop where
 bI:L.bI=bl.map jm.er
 box:bH w F lb [ptr db 0,.string L.dir,I L.room,sv,I L.safe] 158
 so:Ow w F 164 1 sv (bl.map fun s=>[ptr s.b 0])
 row: ∀s∈bl,bH w F s.b [I s.first,s.rv,I s.size] 163
 Ar: ∀s∈bl,Ow w F 95 1 s.rv (s.rs.map fun r=>[r.1])
 As: ∀s∈bl,∀r∈s.rs,Ow w F 5 1 r.1 (r.2.map U1)
 ap:bl.Pairwise XZ
theorem u7.mv {w w':World} {F F':XS} {lb db:Nat} {sv:Value} {bl:List jm} {L:LM} (h:u7 w F lb db sv bl L) (v:Mv F w F' w'):u7 w' F' lb db sv bl L:=
 ⟨h.bI,h.box.mv v,h.so.mv v,fun s hs=>(h.row s hs).mv v,fun s hs=>(h.Ar s hs).mv v,fun s hs r hr=>(h.As s hs r hr).mv v,h.ap⟩
def Lg (w:World) (F:XS) (lb db:Nat) (L:LM) (m:DM):Prop:=
 ∃FL FD sv bl,Dj FL FD∧(∀k,FL k→F k)∧(∀k,FD k→F k)∧u7 w FL lb db sv bl L∧Dk w FD db m
theorem Lg.mv {w w':World} {F:XS} {lb db:Nat} {L:LM} {m:DM} (h:Lg w F lb db L m) (v:Mv F w F w'):Lg w' F lb db L m:=by
 obtain⟨FL,FD,sv,bl,hd,h1,h2,h3,h4⟩:=h;exact⟨FL,FD,sv,bl,hd,h1,h2,h3.mv fun k hk hl=>⟨hk,(v k (h1 k hk) hl).2⟩,h4.mv fun k hk hl=>⟨hk,(v k (h2 k hk) hl).2⟩⟩
theorem Lg.mono {w:World} {F F':XS} {lb db:Nat} {L:LM} {m:DM} (h:Lg w F lb db L m) (hs: ∀k,F k→F' k):Lg w F' lb db L m:=by
 obtain⟨FL,FD,sv,bl,hd,h1,h2,h3,h4⟩:=h;exact⟨FL,FD,sv,bl,hd,fun k hk=>hs k (h1 k hk),fun k hk=>hs k (h2 k hk),h3,h4⟩
structure iT (L:LM):Prop where
 ne:L.bI≠[]
 d1:1≤L.dir.size
 d2:L.dir.size≤11
 qd: ∀s∈L.bI,s.first+s.bS.length≤2^40∧s.size≤2^40
 room:L.room≤2^40
theorem LM.oJ {L:LM} (h:L.bI≠[]):L.last∈L.bI:=by
 unfold LM.last;rw [kH h];exact List.getLast_mem h
theorem LM.QQ {L:LM} (h:L.bI≠[]):L.bI=L.bI.dropLast++[L.last]:=by
 unfold LM.last;rw [kH h];exact(oV h).symm
theorem iT.next {L:LM} (h:iT L):L.next≤2^40:=(h.qd _ (LM.oJ h.ne)).1
theorem iT.first {L:LM} (h:iT L):L.last.first≤2^40:=by have:=h.next;unfold LM.next at this;omega
theorem u7.last {w:World} {F:XS} {lb db:Nat} {sv:Value} {bl:List jm} {L:LM} (h:u7 w F lb db sv bl L) (hL:iT L): ∃m8 s,bl=m8++[s]∧s.er=L.last∧L.bI.dropLast=m8.map jm.er:=by
 have cU:bl≠[]:=fun e=>hL.ne (by rw [h.bI,e];rfl);refine⟨bl.dropLast,bl.getLast cU,(oV cU).symm,?_,?_⟩
 ·unfold LM.last;rw [h.bI,List.getLast?_map,kH cU];rfl
 ·rw [h.bI,List.map_dropLast]
section
variable {w : World} {X F : XS} {lb db : Nat} {sv : Value} {bl : List jm} {L : LM}
theorem ug {m8:List jm} {s:jm} (h:u7 w F lb db sv (m8++[s]) L) (hF:FX F X w):Ct pg 85 #[ptr lb 0] w X nX fun v wa w'=>v=ptr s.b 0:=by
 intro w0 hk;replace h:=h.mv (hF.mv hk);have hX:=fun k ai=>(hF.kp hk k ai).1;have hb:=h.box.mv (Mv.sub hX);have uZ:=h.so.sl.mono hX;have hlen:=uZ.fQ;have xw:(m8++[s]).length=m8.length+1:=by simp
 have we:(m8++[s])[m8.length]? =some s:=by simp
 apply Qi;unfold D6;have hs:=aj.init w0;repeat' first|refine aI ?_;intros|((first|(with_reducible refine ak hs ?_)|(with_reducible refine ak (bT.trans hs) ?_));intro wa hk;rfl)
theorem xq (h:u7 w F lb db sv bl L) (hL:iT L) (hF:FX F X w):Ct pg 43 #[ptr lb 0] w X nX fun v wa w'=>v=I L.next:=by
 intro w0 hk;obtain⟨m8,s,rfl,he,_⟩:=h.last hL;replace h:=h.mv (hF.mv hk);have hX:=fun k ai=>(hF.kp hk k ai).1;have mh:s∈m8++[s]:=by simp
 have hb:=(h.row s mh).mv (Mv.sub hX);have hr:=(h.Ar s mh).sl.mono hX;have hn:=hL.next
 have oH:L.next=s.first+s.rs.length:=by unfold LM.next;rw [←he];simp [jm.er]
 have iz:FX F (ba w0) w0:=hF.kp hk;apply Qe;unfold DW;have hs:=aj.init w0;refine cJ (ug h iz) kQ hs.has ?_;rintro _ wa w1 X1 rfl hle fU aq;replace hs:=hs.trans aq;have kW:=hb.since hs;repeat' first|refine aI ?_;intros
 refine cJ (ug (h.mv (hs.dZ hX)) fun k ai=>⟨hs.sub k (hX k ai),hs.has k (hs.sub k (hX k ai))⟩) kQ hs.has ?_;rintro _ rZ w2 X2 rfl sD ph bQ;replace hs:=hs.trans bQ;have ny:=hb.since hs;have jG:=hr.since hs;clear kW;repeat' first|refine aI ?_;intros|((first|(with_reducible refine ak hs ?_)|(with_reducible refine ak (bT.trans hs) ?_));intro wa hk;(rw [oH];simp))
theorem uX (h:u7 w F lb db sv bl L) {s:bW} {r:List bW} (hL:L.bI=s::r) (hF:FX F X w):Ct pg 42 #[ptr lb 0] w X nX fun v wa w'=>v=I s.first:=by
 intro w0 hk;have u9:=h.bI;rw [hL] at u9;cases bl with
 |nil=>cases u9
 |cons s' m8=>
  simp only [List.map_cons,List.cons.injEq] at u9;replace h:=h.mv (hF.mv hk);have hX:=fun k ai=>(hF.kp hk k ai).1;have hb:=h.box.mv (Mv.sub hX);have ny:=(h.row s' (by simp)).mv (Mv.sub hX);have uZ:=h.so.sl.mono hX;apply Oq;unfold De;have hs:=aj.init w0;repeat' first|refine aI ?_;intros
  refine afX (i:=0) uZ rfl rfl kQ kQ fun b o hc=>?_;repeat' first|refine aI ?_;intros|((first|(with_reducible refine ak hs ?_)|(with_reducible refine ak (bT.trans hs) ?_));intro wa hk;(rw [u9.1];rfl))
end
structure LW (w:World) (F:XS) (lb db:Nat) (L:LM) (m:DM) (FL FD:XS) (sv:Value) (bl:List jm):Prop where
 dj:Dj FL FD
 hL: ∀k,FL k→F k
 hD: ∀k,FD k→F k
 l:u7 w FL lb db sv bl L
 d:Dk w FD db m
theorem Lg.lw {w:World} {F:XS} {lb db:Nat} {L:LM} {m:DM} (h:Lg w F lb db L m): ∃FL FD sv bl,LW w F lb db L m FL FD sv bl:=let⟨FL,FD,sv,bl,a,b,c,d,e⟩:=h;⟨FL,FD,sv,bl,a,b,c,d,e⟩
theorem LW.lg {w:World} {F FL FD:XS} {lb db:Nat} {L:LM} {m:DM} {sv:Value} {bl:List jm} (h:LW w F lb db L m FL FD sv bl):Lg w F lb db L m:=⟨FL,FD,sv,bl,h.dj,h.hL,h.hD,h.l,h.d⟩
section
variable {w w' wa : World} {X X' F F' FL FD FC : XS} {lb db : Nat} {L : LM} {m m' : DM} {sv : Value} {bl : List jm}
theorem LW.mv (h:LW w F lb db L m FL FD sv bl) (v:Mv F w F w'):LW w' F lb db L m FL FD sv bl:=
 ⟨h.dj,h.hL,h.hD,h.l.mv fun k hk hl=>⟨hk,(v k (h.hL k hk) hl).2⟩,h.d.mv fun k hk hl=>⟨hk,(v k (h.hD k hk) hl).2⟩⟩
theorem LW.mono (h:LW w F lb db L m FL FD sv bl) (hs: ∀k,F k→F' k):LW w F' lb db L m FL FD sv bl:=⟨h.dj,fun k hk=>hs k (h.hL k hk),fun k hk=>hs k (h.hD k hk),h.l,h.d⟩
theorem LW.CJ (h:LW w F lb db L m FL FD sv bl) (hF:FX F X w) (hle:w.heap.size≤wa.heap.size) (c:eD FD X w X' w') (lN: ∀k,FC k→FD k∨made wa w' k) (hd:Dk w' FC db m'):LW w' (fun k=>F k∨made wa w' k) lb db L m' FL FC sv bl:=
 ⟨fun k a b=>(lN k b).elim (h.dj k a) fun hm=>by have:=(hF k (h.hL k a)).2;have:=hm.1;omega,fun k hk=>.inl (h.hL k hk),fun k hk=>(lN k hk).imp (h.hD k) id,
  h.l.mv (c.ew fun k hk=>⟨(hF k (h.hL k hk)).1,fun hf=>h.dj k hk hf⟩),hd⟩
theorem u7.ahk {z:Int} (h:u7 w FL lb db sv bl L) (hX: ∀k,FL k→X k) (c:eD (· =lb) X w X' w') (hr:bH w' X' lb [ptr db 0,.string L.dir,I L.room,sv,I z] 158):u7 w' FL lb db sv bl { L with safe:=z } :=by
 have mv: ∀{A:XS},(∀k,A k→FL k∧k≠lb)→Mv A w FL w':=fun hA k hk _=>⟨(hA k hk).1,c.block k (hX k (hA k hk).1) (hA k hk).2⟩;refine⟨h.bI,⟨h.box.1,hr.2⟩,?_,fun s hs=>?_,fun s hs=>?_,fun s hs r hr=>?_,h.ap⟩
 ·exact h.so.tight.mv (mv fun k hk=>⟨(h.so.aU hk).1,fun e=>h.so.dJ h.box kQ (e▸hk)⟩)
 ·exact(h.row s hs).own.mv (mv fun k hk=>by subst hk;exact⟨(h.row s hs).1,(h.row s hs).dJ h.box kQ⟩)
 ·exact(h.Ar s hs).tight.mv (mv fun k hk=>⟨((h.Ar s hs).aU hk).1,fun e=>(h.Ar s hs).dJ h.box kQ (e▸hk)⟩)
 ·exact(h.As s hs r hr).tight.mv (mv fun k hk=>⟨((h.As s hs r hr).aU hk).1,fun e=>(h.As s hs r hr).dJ h.box kQ (e▸hk)⟩)
end
theorem BN {w:World} {X F:XS} {lb db:Nat} {L:LM} {m:DM} (h:Lg w F lb db L m) (hL:iT L) (hF:FX F X w):
  Ct pg 104 #[ptr lb 0] w X F fun v wa w'=>v=I (LD.sync ⟨L,m⟩).2∧ ∃F',(∀k,F' k→F k∨made wa w' k)∧Lg w' F' lb db (LD.sync ⟨L,m⟩).1.L (LD.sync ⟨L,m⟩).1.m:=by
 intro w0 hk;obtain⟨FL,FD,sv,bl,h⟩:=(h.mv (hF.mv hk)).lw;have hT:=hF.ft hk;have iz:FX F (ba w0) w0:=hF.kp hk;obtain⟨m8,s,Af,he,_⟩:=h.l.last hL;have hFL:FX FL (ba w0) w0:=fun k ai=>iz k (h.hL k ai);have hX:=fun k ai=>(hFL k ai).1;have hb:=h.l.box.mv (Mv.sub hX);have mh:s∈bl:=by rw [Af];simp
 have pF:=(h.l.row s mh).mv (Mv.sub hX);have CI:s.first=L.last.first:=by rw [←he];rfl
 have hfb:=hL.first
 apply Qj;unfold D7;have hs:=aj.init w0;repeat' first|refine aI ?_;intros
 refine cJ (ug (Af▸h.l) hFL) kQ hs.has ?_;rintro _ wa w1 X1 rfl hle fU aq;replace hs:=hs.trans aq;have VN:=pF.since hs;repeat' first|refine aI ?_;intros
 rw [CI];refine cJ (rJ (by have:=hL.d2;omega) zQ) kQ hs.has ?_;rintro _ rZ w2 X2 rfl sD ph bQ;replace hs:=hs.trans bQ;have bK:=hT.since hs;have h2:=h.mv (hs.dZ hT.aU);refine bK.call (Zg h2.d (bK.fx h2.hD)) kQ h2.hD fun v oG w3 X3 hq nJ mg cn lL=>?_;obtain⟨rfl,FC,GS,hD⟩:=hq;have h3:=h2.CJ (bK.fx fun _ h=>h) nJ lL GS hD;have eS:LD.sync ⟨L,m⟩=(⟨if(m.sync L.ee).2=0 then { L with safe:=(L.next:Int)-1 } else L,(m.sync L.ee).1⟩,(m.sync L.ee).2):=rfl;have eN:L.ee=bw L.dir L.last.first:=rfl
 rw [eS];dsimp only;rw [eN];generalize hms:m.sync (bw L.dir L.last.first)=ms at h3⊢;have oH:=hL.next
 repeat' first|refine aI ?_;intros|refine de ?_ ?_<;>intros|with_reducible apply cG
 ·rename_i hz;have hz:ms.2=0:=by have:(ms.2:Int)=0:=(by assumption);omega
  have cl:=aj.dY cn.s.has;refine cJ (xq h3.l hL (cn.fx h3.hL)) kQ cn.s.has ?_;rintro _ yJ w4 X4 rfl sF lK ff;have dS:=cn.since ff;have h4:=h3.mv (ff.dZ cn.aU);have hX4: ∀k,FL k→X4 k:=fun k ai=>dS.aU k (h4.hL k ai);have uu:=h4.l.box.mv (Mv.sub hX4);repeat' first|refine aI ?_;intros
  refine kK (o:=4) uu zQ kQ (by simp) rfl dS.s.has fun w5 X5 c5 sd=>?_;have gR:=dS.dM (F':=fun k=>F k∨made oG w3 k) c5 (fun k ai=>by subst ai;exact h4.hL _ h4.l.box.1) fun k ai=>.inl ai;have h5:=h4.l.ahk hX4 c5 sd;refine gR.fin fun wa aM=>⟨rfl,_,gR.fL aM fun _ h=>h,?_⟩;rw [if_pos hz];refine Lg.mv ⟨FL,FC,sv,bl,h4.dj,h4.hL,h4.hD,h5,h4.d.mv (c5.ew fun k ai=>⟨dS.aU k (h4.hD k ai),fun e=>h4.dj k (by rw [e];exact h4.l.box.1) ai⟩)⟩ (aM.ew gR.aU)
 ·have hz: ¬ms.2=0:=by have: ¬(ms.2:Int)=0:=(by assumption);omega
  refine cn.fin fun wa aM=>⟨rfl,_,cn.fL aM fun _ h=>h,?_⟩;rw [if_neg hz];exact(h3.mv (aM.ew cn.aU)).lg
section
variable {w w' wa : World} {X X' F F' FL xD FD FC G : XS} {lb db : Nat} {L : LM} {m m' : DM} {sv wO : Value} {bl m8 : List jm}
theorem u7.QZ (h:u7 w FL lb db sv bl L) (hX:FX FL X w) (c:eD G X w X' w') (hG: ∀k,G k→k=lb∨sv.ownBlock=some k) (OT: ∀k,FL k→xD k)
  (hr:bH w' xD lb [ptr db 0,.string L.dir,I L.room,wO,I L.safe] 158) (ho:Ow w' xD 164 1 wO (m8.map fun s=>[ptr s.b 0]))
  (hn: ∀s∈m8,s∈bl∨(bH w' xD s.b [I s.first,s.rv,I s.size] 163∧Ow w' xD 95 1 s.rv (s.rs.map fun r=>[r.1])∧ ∀r∈s.rs,Ow w' xD 5 1 r.1 (r.2.map U1)))
  (rW:m8.Pairwise XZ):u7 w' xD lb db wO m8 { L with bI:=m8.map jm.er } :=by
 have mv: ∀{A:XS},(∀k,A k→FL k∧k≠lb∧sv.ownBlock≠some k)→Mv A w xD w':=fun hA k hk _=>by
  obtain⟨a1,a2,a3⟩:=hA k hk;exact⟨OT k a1,c.block k (hX k a1).1 fun hg=>(hG k hg).elim a2 a3⟩
 refine⟨rfl,hr,ho,fun s hs=>?_,fun s hs=>?_,fun s hs r hr=>?_,rW⟩
 ·rcases hn s hs with hs|hs
  ·exact(h.row s hs).own.mv (mv fun k hk=>by subst hk;exact⟨(h.row s hs).1,(h.row s hs).dJ h.box kQ,h.so.dJ (h.row s hs) kQ⟩)
  ·exact hs.1
 ·rcases hn s hs with hs|hs
  ·refine(h.Ar s hs).tight.mv (mv fun k hk=>⟨((h.Ar s hs).aU hk).1,fun e=>(h.Ar s hs).dJ h.box kQ (e▸hk),fun e=>?_⟩);obtain⟨c1,h1⟩:=(h.Ar s hs).tag hk;obtain⟨c2,h2⟩:=h.so.tag e;rw [h1] at h2;simp at h2
  ·exact hs.2.1
 ·rcases hn s hs with hs|hs
  ·refine(h.As s hs r hr).tight.mv (mv fun k hk=>⟨((h.As s hs r hr).aU hk).1,fun e=>(h.As s hs r hr).dJ h.box kQ (e▸hk),fun e=>?_⟩);obtain⟨c1,h1⟩:=(h.As s hs r hr).tag hk;obtain⟨c2,h2⟩:=h.so.tag e;rw [h1] at h2;simp at h2
  ·exact hs.2.2 r hr
abbrev jm.more (s:jm) (zg pv:Value) (p:List Nat) (z:Nat):jm:=⟨s.b,s.first,zg,s.rs++[(pv,p)],z⟩
theorem u7.ahl {s:jm} {zg pv:Value} {p:List Nat} {z:Nat} (h:u7 w FL lb db sv (bl++[s]) L) (hX:FX FL X w) (c:eD G X w X' w') (hG: ∀k,G k→k=s.b∨s.rv.ownBlock=some k) (OT: ∀k,FL k→xD k)
  (hr:bH w' xD s.b [I s.first,zg,I z] 163) (ho:Ow w' xD 95 1 zg ((s.rs++[(pv,p)]).map fun r=>[r.1])) (hp:Ow w' xD 5 1 pv (p.map U1))
  (fm:zg.ownBlock=s.rv.ownBlock∨ ∃g,zg.ownBlock=some g∧w.heap.size≤g):
  u7 w' xD lb db sv (bl++[s.more zg pv p z]) { L with bI:=(bl++[s.more zg pv p z]).map jm.er } :=by
 have jo:s∈bl++[s]:=by simp
 have mv: ∀{A:XS},(∀k,A k→FL k∧k≠s.b∧s.rv.ownBlock≠some k)→Mv A w xD w':=fun hA k hk _=>by
  obtain⟨a1,a2,a3⟩:=hA k hk;exact⟨OT k a1,c.block k (hX k a1).1 fun hg=>(hG k hg).elim a2 a3⟩
 have rs:=h.row s jo;have os:=h.Ar s jo;have hold: ∀x∈bl,x∈bl++[s]:=fun x hx=>List.mem_append_left _ hx;have WM:=List.pairwise_append.1 h.ap;have MN: ∀x∈bl,XZ x s:=fun x hx=>WM.2.2 x hx s (by simp);have ajx: ∀x∈bl++[s],∀r∈x.rs,Ow w' xD 5 1 r.1 (r.2.map U1):=fun x hx r hr=>by
  refine(h.As x hx r hr).tight.mv (mv fun k hk=>⟨((h.As x hx r hr).aU hk).1,fun e=>(h.As x hx r hr).dJ rs kQ (e▸hk),fun e=>?_⟩);obtain⟨c1,h1⟩:=(h.As x hx r hr).tag hk;obtain⟨c2,h2⟩:=os.tag e;rw [h1] at h2;simp at h2
 refine⟨rfl,?_,?_,fun x hx=>?_,fun x hx=>?_,fun x hx r hr=>?_,?_⟩
 ·exact h.box.own.mv (mv fun k hk=>by subst hk;exact⟨h.box.1,(rs.dJ h.box kQ).symm,os.dJ h.box kQ⟩)
 ·have:(bl++[s.more zg pv p z]).map (fun s=>[ptr s.b 0])=(bl++[s]).map (fun s=>[ptr s.b 0]):=by simp
  rw [this];refine h.so.tight.mv (mv fun k hk=>⟨(h.so.aU hk).1,fun e=>h.so.dJ rs kQ (e▸hk),fun e=>?_⟩);obtain⟨c1,h1⟩:=h.so.tag hk;obtain⟨c2,h2⟩:=os.tag e;rw [h1] at h2;simp at h2
 ·rcases List.mem_append.1 hx with hx|hx
  ·have ha:=MN x hx;have rx:=h.row x (hold x hx);exact rx.own.mv (mv fun k hk=>by subst hk;exact⟨rx.1,ha.1,os.dJ rx kQ⟩)
  ·simp only [aV] at hx;subst hx;exact hr
 ·rcases List.mem_append.1 hx with hx|hx
  ·have ha:=MN x hx;have ox:=h.Ar x (hold x hx);exact ox.tight.mv (mv fun k hk=>⟨(ox.aU hk).1,fun e=>ox.dJ rs kQ (e▸hk),fun e=>ha.2 k hk e⟩)
  ·simp only [aV] at hx;subst hx;exact ho
 ·rcases List.mem_append.1 hx with hx|hx
  ·exact ajx x (hold x hx) r hr
  ·simp only [aV] at hx;subst hx;rcases List.mem_append.1 hr with hr|hr
   ·exact ajx s jo r hr
   ·simp only [aV] at hr;subst hr;exact hp
 ·refine List.pairwise_append.2 ⟨WM.1,rj _ _,fun x hx y hy=>?_⟩;simp only [aV] at hy;subst hy;have ha:=MN x hx;refine⟨ha.1,fun g hg uW=>?_⟩;rcases fm with e|⟨g',e,eh⟩
  ·exact ha.2 g hg (e▸uW)
  ·have:=(hX g ((h.Ar x (hold x hx)).aU hg).1).2;have e2:zg.ownBlock=some g:=uW;rw [e] at e2;have:g'=g:=bC e2;omega
end
theorem GD {w:World} {X F:XS} {lb db n:Nat} {L:LM} {m:DM} (h:Lg w F lb db L m) (pY:L.dir.size≤11) (hn:n≤2^40) (j7:L.bI.length≤2^30) (hF:FX F X w):
  Ct pg 83 #[ptr lb 0,I n] w X F fun v wa w'=>v=I (LD.fI ⟨L,m⟩ n).2∧ ∃F',(∀k,F' k→F k∨made wa w' k)∧Lg w' F' lb db (LD.fI ⟨L,m⟩ n).1.L (LD.fI ⟨L,m⟩ n).1.m:=by
 intro w0 hk;obtain⟨FL,FD,sv,bl,h⟩:=(h.mv (hF.mv hk)).lw;have hT:=hF.ft hk;have iz:FX F (ba w0) w0:=hF.kp hk;have hX:=fun k ai=>(iz k (h.hL k ai)).1;have hb:=h.l.box.mv (Mv.sub hX);apply Qh;unfold DZ;have hs:=aj.init w0;repeat' first|refine aI ?_;intros
 refine cJ (rJ zQ zQ) kQ hs.has ?_;rintro _ rZ w2 X2 rfl sD ph bQ;replace hs:=hs.trans bQ;have bK:=hT.since hs;have h2:=h.mv (hs.dZ hT.aU);refine bK.call (TW h2.d (bK.fx h2.hD)) kQ h2.hD fun v oG w3 X3 hq nJ mg cn lL=>?_;obtain⟨rfl,FC,GS,hD⟩:=hq;have h3:=h2.CJ (bK.fx fun _ h=>h) nJ lL GS hD;have eS:LD.fI ⟨L,m⟩ n=(⟨if(m.create (bw L.dir n)).2=0 then { L with bI:=L.bI++[⟨n,[],0⟩] } else L,(m.create (bw L.dir n)).1⟩,(m.create (bw L.dir n)).2):=rfl;rw [eS];dsimp only;generalize hms:m.create (bw L.dir n)=ms at h3⊢;have SJ: ∀k,FL k→X3 k:=fun k ai=>cn.aU k (h3.hL k ai);have zY:=h3.l.box.mv (Mv.sub SJ);have QY:=h3.l.so.mono SJ;have Af:bl.length=L.bI.length:=by rw [h3.l.bI,aG]
 have o3:=h3.l.so.one;clear hs;repeat' first|refine aI ?_;intros|refine de ?_ ?_<;>intros|with_reducible apply cG
 ·have hz:ms.2=0:=by have:(ms.2:Int)=0:=(by assumption);omega
  refine kX cn.s.has fun bx w4 X4 gT ff dA=>?_;have NH:=QY.mv ff.mv;refine Jm (bytes:=8) (row:=[ptr bx 0]) NH ff.has kQ rfl rfl rfl (by simp;omega) (by simp;omega) fun wO w5 X5 c5 qx aej=>?_;have uu:=zY.since ff;have cU: ∀q,iu sv q→q≠lb:=fun q hq e=>NH.dJ uu kQ (by rw [←e];exact hq);have Sq:bH w5 X5 lb [ptr db 0,.string L.dir,I L.room,sv,I L.safe] 158:=⟨c5.sub _ uu.1,by rw [c5.block _ uu.1 fun hq=>cU _ hq rfl];exact uu.2⟩;repeat' first|refine aI ?_;intros
  refine kK (o:=3) Sq zQ kQ (by simp) qx.one c5.has fun w6 X6 c6 FB=>?_;have NI: ∀q,iu sv q→FL q:=fun q hq=>(h3.l.so.aU hq).1;have cc:eD (fun k=>k=lb∨sv.ownBlock=some k) X3 w3 X6 w6:=((eD.tO ff _).trans (c5.mono fun k _ ai=>.inr ai)).trans (c6.mono fun k _ ai=>.inl ai);have gB:Ft w0 F w6 X6 (fun k=>(F k∨made oG w3 k)∨(X6 k∧w3.heap.size≤k)):=cn.dM cc (fun k ai=>by
   rcases ai with rfl|ai
   ·exact h3.hL _ h3.l.box.1
   ·exact h3.hL _ (NI _ ai)) fun k ai=>ai
  have Cq: ∀g,wO.ownBlock=some g→FL g∨(X6 g∧w3.heap.size≤g):=fun g hg=>by
   rcases aej with e|⟨g',e,eh⟩
   ·exact .inl (NI _ (e.symm.trans hg))
   ·rw [hg] at e;have:g=g':=bC e;subst this;exact .inr ⟨c6.sub _ (qx.aU hg).1,ah ff.kp.size eh⟩
  have aek:wO.ownBlock≠some lb:=qx.dJ Sq kQ;have aaO:bx≠lb:=dA.dJ uu kQ;have aaP: ¬iu sv bx:=fun hq=>NH.dJ dA kQ hq;have hL6:=h3.l.QZ (xD:=fun k=>FL k∨(X6 k∧w3.heap.size≤k)) (wO:=wO) (m8:=bl++[⟨bx,n,.slice none 0 0,[],0⟩]) (cn.fx h3.hL) cc (fun k ai=>ai) (fun k ai=>.inl ai) ⟨.inl h3.l.box.1,FB.2⟩ ?_ ?_ ?_
  ·refine gB.fin fun wa aM=>⟨rfl,_,gB.fL aM fun _ h=>h,?_⟩;rw [if_pos hz];have e:({ L with bI:=(bl++[(⟨bx,n,.slice none 0 0,[],0⟩:jm)]).map jm.er } :LM)= { L with bI:=L.bI++[⟨n,[],0⟩] } :=by
    rw [aT,←h3.l.bI];rfl
   rw [←e];refine Lg.mv ⟨_,FC,wO,_,?_,?_,?_,hL6,h3.d.mv (cc.ew fun k ai=>⟨cn.aU k (h3.hD k ai),fun hg=>?_⟩)⟩ (aM.ew gB.aU)
   ·intro k ha fR;rcases ha with ha|ha
    ·exact h3.dj k ha fR
    ·have:=(cn.fx h3.hD k fR).2;omega
   ·exact fun k ai=>ai.imp (h3.hL k) id
   ·exact fun k ai=>.inl (h3.hD k ai)
   ·rcases hg with rfl|hg
    ·exact h3.dj _ h3.l.box.1 ai
    ·exact h3.dj _ (NI _ hg) ai
  ·rw [aT];refine qx.tight.mv fun k ai hl=>⟨Cq k ai,c6.block k (qx.aU ai).1 fun e=>aek (by rw [←(show k=lb from e)];exact ai)⟩
  ·intro s qv;rcases List.mem_append.1 qv with qv|qv
   ·exact .inl qv
   ·simp only [aV] at qv;subst qv;have hb6:w6.heap[bx]? =w4.heap[bx]? :=by
     rw [c6.block bx (c5.sub _ dA.1) aaO,c5.block bx dA.1 aaP]
    exact .inr ⟨⟨.inr ⟨c6.sub _ (c5.sub _ dA.1),gT⟩,by rw [hb6];exact dA.2⟩,Ow.nil _ _ _ _,fun r hr=>by cases hr⟩
  ·refine List.pairwise_append.2 ⟨h3.l.ap,rj _ _,fun x hx y hy=>?_⟩;simp only [aV] at hy;subst hy;refine⟨fun e=>?_,fun g hg uW=>by cases uW⟩;have:=(cn.fx h3.hL _ (h3.l.row x hx).1).2;have e':x.b=bx:=e;omega
 ·have hz: ¬ms.2=0:=by have: ¬(ms.2:Int)=0:=(by assumption);omega
  refine cn.fin fun wa aM=>⟨rfl,_,cn.fL aM fun _ h=>h,?_⟩;rw [if_neg hz];exact(h3.mv (aM.ew cn.aU)).lg
theorem iT.safe {L:LM} (h:iT L) (z:Int):iT { L with safe:=z } :=⟨h.ne,h.d1,h.d2,h.qd,h.room⟩
theorem iT.sync {L:LM} {m:DM} (h:iT L):iT (LD.sync ⟨L,m⟩).1.L:=by
 unfold LD.sync;dsimp only;split
 ·exact h.safe _
 ·exact h
theorem iT.fI {L:LM} {m:DM} {n:Nat} (h:iT L) (hn:n≤2^40):iT (LD.fI ⟨L,m⟩ n).1.L:=by
 unfold LD.fI;dsimp only;split
 ·refine⟨by simp,h.d1,h.d2,fun s hs=>?_,h.room⟩;rcases List.mem_append.1 hs with hs|hs
  ·exact h.qd s hs
  ·simp only [aV] at hs;subst hs;exact⟨by simpa using hn,by simp⟩
 ·exact h
theorem LD.Su (x:LD):x.sync.1.L.bI=x.L.bI:=by unfold LD.sync;dsimp only;split<;>rfl
theorem LD.afB (x:LD):x.sync.1.L.dir=x.L.dir:=by unfold LD.sync;dsimp only;split<;>rfl
theorem Jq {w:World} {X F S:XS} {lb db:Nat} {L:LM} {m:DM} {vp:Value} {p:List Nat} (h:Lg w F lb db L m) (hL:iT L) (j7:L.bI.length≤2^30) (hF:FX F X w) (hp:Sl w S 1 vp (p.map U1)) (hS: ∀k,S k→X k∧ ¬F k):
  Ct pg 103 #[ptr lb 0,vp] w X F fun v wa w'=>v= .tuple #[I (LD.append ⟨L,m⟩ p).2.1,I (LD.append ⟨L,m⟩ p).2.2]∧
   ∃F',(∀k,F' k→F k∨made wa w' k)∧Lg w' F' lb db (LD.append ⟨L,m⟩ p).1.L (LD.append ⟨L,m⟩ p).1.m:=by
 intro w0 hk;obtain⟨FL,FD,sv,bl,h⟩:=(h.mv (hF.mv hk)).lw;have hT:=hF.ft hk;have iz:FX F (ba w0) w0:=hF.kp hk;have Ux:Sl w0 (out F w0) 1 vp (p.map U1):=hp.mv fun k ai hl=>⟨⟨aK hl hk.size,(hS k ai).2⟩,hk.block k (hS k ai).1⟩;have wM:=Ux.fQ;have ov:=Ux.one;have oH:=hL.next
 generalize hr:LD.append ⟨L,m⟩ p=r;unfold LD.append at hr;dsimp only at hr;apply Mg;unfold Bz;refine cJ (xq h.l hL (hT.fx h.hL)) kQ hT.s.has ?_;rintro _ wa w1 X1 rfl hle fU aq;have cm:=hT.since aq;have h1:=h.mv (aq.dZ hT.aU);have hpA: ∀{w X F'},Ft w0 F w X F'→Sl w X 1 vp (p.map U1):=fun hT=>Ux.mv hT.s.mv;have hp1:=hpA cm;have stay:r.1=⟨L,m⟩→ ∀wa,Kp X1 w1 wa→ ∃F',(∀k,F' k→F k∨made w0 wa k)∧Lg wa F' lb db r.1.L r.1.m:=fun e wa aM=>⟨F,cm.fL aM fun _ h=>h,by rw [e];exact(h1.mv (aM.ew cm.aU)).lg⟩;repeat' first|refine aI ?_;intros|refine de ?_ ?_<;>intros
 ·rw [if_pos zQ] at hr;subst hr;exact cm.fin fun wa aM=>⟨rfl,stay rfl wa aM⟩
 ·rw [if_neg zQ,if_pos zQ] at hr;subst hr;exact cm.fin fun wa aM=>⟨rfl,stay rfl wa aM⟩
 ·rw [if_neg zQ,if_neg zQ] at hr;have ane:p.length≤262144:=by omega
  clear stay;refine fk (fun k=> ∀(w:World) (X F1 FL FD:XS) (sv:Value) (bl:List jm) (x:LD),LD.room ⟨L,m⟩=(x,0)→iT x.L→x.L.bI.length≤2^30+1→Ft w0 F w X F1→LW w F1 lb db x.L x.m FL FD sv bl→k w X) ?_ ?_
  ·intro w X F1 FL FD sv bl x SL hxL Il bK h2;rw [SL] at hr;dsimp only at hr;rw [if_neg (by simp)] at hr;obtain⟨m8,s,rfl,he,qX⟩:=h2.l.last hxL;refine cJ (ug h2.l (bK.fx h2.hL)) kQ bK.s.has ?_;rintro _ oG w3 X3 rfl nJ mg cl;have cn:=bK.since cl;have h3:=h2.mv (cl.dZ bK.aU);refine cJ (TZ (hpA cn)) kQ cn.s.has ?_;rintro vq yJ w4 X4 hq sF lK ff;rw [if_neg zQ] at hq;obtain⟨vb,rfl,Bi⟩:=hq;have dS:=cn.since ff;have h4:=h3.mv (ff.dZ cn.aU);have hX4: ∀k,FL k→X4 k:=fun k ai=>dS.aU k (h4.hL k ai);have uu:=h4.l.box.mv (Mv.sub hX4);have mh:s∈m8++[s]:=by simp
   have anf:=(h4.l.row s mh).mv (Mv.sub hX4);have CI:s.first=x.L.last.first:=by rw [←he];rfl
   have dU:s.size=x.L.last.size:=by rw [←he];rfl
   have hrs:x.L.last.bS=s.rs.map (·.2):=by rw [←he];rfl
   have hfb:=hxL.first
   have oH:=hxL.next
   have hls:=hxL.qd _ (LM.oJ hxL.ne);have tN:s.rs.length=x.L.last.bS.length:=by rw [hrs,aG]
   have eI:=lQ p;have ovb:=Bi.one;repeat' first|refine aI ?_;intros
   rw [CI];refine cJ (rJ (by have:=hxL.d2;omega) zQ) kQ dS.s.has ?_;rintro _ Fk w5 X5 rfl AM sG oI;have gR:=dS.since oI;have h5:=h4.mv (oI.dZ dS.aU);have hz4:=ff.kp.size;have amj:Sl w5 (made yJ w4) 1 vb ((cC p).map U1):=Bi.sl.mv fun k ai hl=>⟨ai,oI.kp.block k (lK k ai)⟩;refine gR.call (TV h5.d (gR.fx h5.hD) amj (fun k ai=>⟨oI.sub k (lK k ai),fun hf=>?_⟩) zQ) kQ h5.hD fun v MH w6 X6 hq Nv Cq gB O9=>?_
   ·have:=(cn.fx h3.hD k hf).2;have:=ai.1;omega
   obtain⟨rfl,FC,GS,hD⟩:=hq;have h6:=h5.CJ (gR.fx fun _ h=>h) Nv O9 GS hD;have eL:x.lay p=(⟨if(x.m.append x.L.ee (cC p)).2=0 then x.L.add p else x.L,(x.m.append x.L.ee (cC p)).1⟩,(x.m.append x.L.ee (cC p)).2):=rfl;rw [eL] at hr;dsimp only at hr;have eN:x.L.ee=bw x.L.dir x.L.last.first:=rfl
   rw [eN] at hr;generalize hms:x.m.append (bw x.L.dir x.L.last.first) (cC p)=ms at hr h6⊢;have hX6: ∀k,FL k→X6 k:=fun k ai=>gB.aU k (h6.hL k ai);have amk:=(h6.l.row s mh).mv (Mv.sub hX6);have aml:=(h6.l.Ar s mh).mono hX6;repeat' first|refine aI ?_;intros|refine de ?_ ?_<;>intros
   ·have hz: ¬ms.2=0:=by have: ¬(ms.2:Int)=0:=(by assumption);omega
    rw [if_pos hz,if_neg hz] at hr;subst hr;exact gB.fin fun wa aM=>⟨rfl,_,gB.fL aM fun _ h=>h,(h6.mv (aM.ew gB.aU)).lg⟩
   ·have hz:ms.2=0:=by have:(ms.2:Int)=0:=(by assumption);omega
    rw [if_neg (by simpa using hz),if_pos hz] at hr;subst hr;refine akv gB.s.has kQ (hpA gB) (by intro r hr u hu;obtain⟨x,_,rfl⟩:=List.mem_map.1 hr;simp only [U1,aV] at hu;subst hu;rfl) (by simp;omega) (by simp;omega) fun pv w7 X7 kY yB=>?_;have afC:=aml.mv kY.mv;have Ya:=amk.since kY;refine Jm (bytes:=24) (row:=[pv]) afC kY.has kQ (by have:=tn yB.one;rw [this]) rfl (by simp [yB.one]) (by simp;omega) (by simp;omega) fun zg w8 X8 c8 xp VH=>?_;have amm: ∀q,iu s.rv q→q≠s.b:=fun q hq e=>afC.dJ Ya kQ (by rw [←e];exact hq);have ajy:bH w8 X8 s.b [I s.first,s.rv,I s.size] 163:=⟨c8.sub _ Ya.1,by rw [c8.block _ Ya.1 fun hq=>amm _ hq rfl];exact Ya.2⟩;repeat' first|refine aI ?_;intros
    refine kK (o:=1) ajy zQ kQ (by simp) xp.one c8.has fun w9 X9 c9 afD=>?_;replace afD:bH w9 X9 s.b [I s.first,zg,I s.size] 163:=afD;repeat' first|refine aI ?_;intros
    refine kK (o:=2) afD zQ kQ (by simp) rfl c9.has fun qz pa Fm ab7=>?_;have qf:(s.size:Int)+((cC p).length:Int)=((s.size+(cC p).length:Nat):Int):=by omega
    replace ab7:bH qz pa s.b [I s.first,zg,I ((s.size+(cC p).length:Nat):Int)] 163:=by rw [←qf];exact ab7
    have cc:eD (fun k=>k=s.b∨s.rv.ownBlock=some k) X6 w6 pa qz:=(((eD.tO kY _).trans (c8.mono fun k _ ai=>.inr ai)).trans (c9.mono fun k _ ai=>.inl ai)).trans (Fm.mono fun k _ ai=>.inl ai);have afE: ∀q,iu s.rv q→FL q:=fun q hq=>((h6.l.Ar s mh).aU hq).1;have fE:=gB.dM (F':=fun k=>(F1 k∨made MH w6 k)∨(pa k∧w6.heap.size≤k)) cc (fun k ai=>by
     rcases ai with rfl|ai
     ·exact h6.hL _ (h6.l.row s mh).1
     ·exact h6.hL _ (afE _ ai)) fun k ai=>ai
    have zL: ∀g,zg.ownBlock=some g→FL g∨(pa g∧w6.heap.size≤g):=fun g hg=>by
     rcases VH with e|⟨g',e,eh⟩
     ·exact .inl (afE _ (e.symm.trans hg))
     ·rw [hg] at e;have:g=g':=bC e;subst this;exact .inr ⟨Fm.sub _ (c9.sub _ (xp.aU hg).1),ah kY.kp.size eh⟩
    have ajz: ∀q,iu zg q→q≠s.b:=fun q hq e=>xp.dJ ajy kQ (by rw [←e];exact hq);have Ib: ∀q,iu pv q→X7 q∧w6.heap.size≤q∧qz.heap[q]? =w7.heap[q]? :=fun q hq=>by
     have h1:=(yB.aU hq).1;have UN:q≠s.b:=fun e=>yB.dJ Ya kQ (by rw [←e];exact hq);have hnr: ¬iu s.rv q:=fun OU=>by
      obtain⟨c1,e1⟩:=yB.tag hq;obtain⟨c2,e2⟩:=afC.tag OU;rw [e1] at e2;simp at e2
     exact⟨h1.1,h1.2,by rw [Fm.block q (c9.sub _ (c8.sub _ h1.1)) UN,c9.block q (c8.sub _ h1.1) UN,c8.block q h1.1 hnr]⟩
    have amn:=h6.l.ahl (xD:=fun k=>FL k∨(pa k∧w6.heap.size≤k)) (zg:=zg) (pv:=pv) (p:=p) (z:=s.size+(cC p).length) (gB.fx h6.hL) cc (fun k ai=>ai) (fun k ai=>.inl ai) ⟨.inl (h6.l.row s mh).1,ab7.2⟩ ?_ ?_ ?_
    ·refine fE.fin fun wa aM=>⟨rfl,_,fE.fL aM fun _ h=>h,?_⟩;have e:({ x.L with bI:=(m8++[s.more zg pv p (s.size+(cC p).length)]).map jm.er } :LM)=x.L.add p:=by
      unfold LM.add;rw [qX,aT,←he];simp [jm.er]
     rw [←e];refine Lg.mv ⟨_,FC,sv,_,?_,?_,?_,amn,h6.d.mv (cc.ew fun k ai=>⟨gB.aU k (h6.hD k ai),fun hg=>?_⟩)⟩ (aM.ew fE.aU)
     ·intro k ha fR;rcases ha with ha|ha
      ·exact h6.dj k ha fR
      ·have:=(gB.fx h6.hD k fR).2;omega
     ·exact fun k ai=>ai.imp (h6.hL k) id
     ·exact fun k ai=>.inl (h6.hD k ai)
     ·rcases hg with rfl|hg
      ·exact h6.dj _ (h6.l.row s mh).1 ai
      ·exact h6.dj _ (afE _ hg) ai
    ·rw [aT];exact xp.tight.mv fun k ai hl=>⟨zL k ai,by rw [Fm.block k (c9.sub _ (xp.aU ai).1) (ajz k ai),c9.block k (xp.aU ai).1 (ajz k ai)]⟩
    ·exact yB.tight.mv fun k ai hl=>⟨.inr ⟨Fm.sub _ (c9.sub _ (c8.sub _ (Ib k ai).1)),(Ib k ai).2.1⟩,(Ib k ai).2.2⟩
    ·rcases VH with e|⟨g,e,eh⟩
     ·exact .inl e
     ·exact .inr ⟨g,e,ah kY.kp.size eh⟩
  ·intro K hK;obtain⟨m8,s,rfl,he,qX⟩:=h1.l.last hL;have Kd: ∀k,FL k→X1 k:=fun k ai=>cm.aU k (h1.hL k ai);have kW:=h1.l.box.mv (Mv.sub Kd);have mh:s∈m8++[s]:=by simp
   have VN:=(h1.l.row s mh).mv (Mv.sub Kd);have dU:s.size=L.last.size:=by rw [←he];rfl
   have hls:=hL.qd _ (LM.oJ hL.ne);have SL:=hL.room;have eR:LD.room ⟨L,m⟩=if L.room≤L.last.size then(if(LD.sync ⟨L,m⟩).2≠0 then LD.sync ⟨L,m⟩else(LD.sync ⟨L,m⟩).1.fI L.next)else(⟨L,m⟩,0):=rfl
   repeat' first|refine aI ?_;intros
   refine cJ (ug h1.l (cm.fx h1.hL)) kQ cm.s.has ?_;rintro _ rZ w2 X2 rfl sD ph bQ;have bK:=cm.since bQ;have h2:=h1.mv (bQ.dZ cm.aU);have aaQ:=VN.since bQ;repeat' first|refine aI ?_;intros|refine de ?_ ?_<;>intros
   ·have eh:L.room≤L.last.size:=by omega
    rw [if_pos eh] at eR;refine bK.call (BN h2.lg hL (bK.fx fun _ h=>h)) kQ (fun _ h=>h) fun v oG w3 X3 hq nJ mg cn lL=>?_;obtain⟨rfl,F3,Cm,h3⟩:=hq;have hL3:iT (LD.sync ⟨L,m⟩).1.L:=hL.sync;have ab8:=LD.Su ⟨L,m⟩;have ajA:=LD.afB ⟨L,m⟩;generalize hsy:LD.sync ⟨L,m⟩=y at eR h3 hL3 ab8 ajA⊢;have fX:=cn.less Cm;repeat' first|refine aI ?_;intros|refine de ?_ ?_<;>intros
    ·have hz:y.2≠0:=by have: ¬(y.2:Int)=0:=(by assumption);omega
     rw [if_pos hz] at eR;rw [eR,if_pos hz] at hr;subst hr;exact fX.fin fun wa aM=>⟨rfl,F3,fX.fL aM fun _ h=>h,h3.mv (aM.ew fX.aU)⟩
    ·have hz: ¬y.2≠0:=by have:(y.2:Int)=0:=(by assumption);omega
     rw [if_neg hz] at eR;have hy:y.1=⟨y.1.L,y.1.m⟩:=rfl;refine fX.call (GD (n:=L.next) h3 (by rw [ajA];exact hL.d2) oH (by rw [ab8];exact j7) (fX.fx fun _ h=>h)) kQ (fun _ h=>h) fun v yJ w4 X4 hq sF lK dS sc=>?_;obtain⟨rfl,F4,Jt,h4⟩:=hq;have Zp:(LD.fI ⟨y.1.L,y.1.m⟩ L.next).2=0→iT (LD.fI ⟨y.1.L,y.1.m⟩ L.next).1.L:=fun _=>hL3.fI oH;have hl4:(LD.fI ⟨y.1.L,y.1.m⟩ L.next).1.L.bI.length≤2^30+1:=by
      unfold LD.fI;dsimp only;split
      ·simp only [ae,fK,ab8];show L.bI.length+1≤_;omega
      ·rw [ab8];show L.bI.length≤_;omega
     rw [hy] at eR;generalize hro:LD.fI ⟨y.1.L,y.1.m⟩ L.next=q at eR h4 Zp hl4⊢
     have po:=dS.less Jt;repeat' first|refine aI ?_;intros|refine de ?_ ?_<;>intros
     ·have hz:q.2≠0:=by have: ¬(q.2:Int)=0:=(by assumption);omega
      rw [eR,if_pos hz] at hr;subst hr;exact po.fin fun wa aM=>⟨rfl,F4,po.fL aM fun _ h=>h,h4.mv (aM.ew po.aU)⟩
     ·have hz:q.2=0:=by have:(q.2:Int)=0:=(by assumption);omega
      obtain⟨FL4,FD4,sv4,bl4,h4⟩:=h4.lw;exact hK _ _ _ _ _ _ _ q.1 (by rw [eR,←hz]) (Zp hz) hl4 po h4
   ·have eh: ¬L.room≤L.last.size:=by omega
    rw [if_neg eh] at eR;exact hK _ _ _ _ _ _ _ ⟨L,m⟩ eR hL (by show L.bI.length≤_;omega) bK h2
theorem iT.tail {L:LM} {s t:bW} {r:List bW} (h:iT L) (hs:L.bI=s::t::r):iT { L with bI:=t::r } :=
 ⟨by simp,h.d1,h.d2,fun x hx=>h.qd x (by rw [hs];exact aZ _ hx),h.room⟩
theorem abg {w:World} {X F:XS} {lb db below K:Nat} {L:LM} {m:DM} (h:Lg w F lb db L m) (hL:iT L) (hK:L.bI.length≤K) (j7:L.bI.length≤2^40) (hF:FX F X w):
  Ct pg 58 #[ptr lb 0,I below] w X F fun v wa w'=>v=I (LD.trim ⟨L,m⟩ below K).2∧ ∃F',(∀k,F' k→F k∨made wa w' k)∧Lg w' F' lb db (LD.trim ⟨L,m⟩ below K).1.L (LD.trim ⟨L,m⟩ below K).1.m:=by
 intro w0 hk;replace h:=h.mv (hF.mv hk);have hT:=hF.ft hk;have iz:FX F (ba w0) w0:=hF.kp hk;generalize hr:LD.trim ⟨L,m⟩ below K=r;apply Qf;unfold DX;refine ais (fun n w X=> ∃(k:Nat) (x:LD) (F1:XS),n=x.L.bI.length∧x.L.bI.length≤k∧x.L.bI.length≤2^40∧LD.trim x below k=r∧iT x.L∧Ft w0 F w X F1∧Lg w F1 lb db x.L x.m) L.bI.length ⟨K,⟨L,m⟩,F,rfl,hK,j7,hr,hL,hT,h⟩ ?_;clear hT h hr j7 hK hL;rintro n w X ⟨k,x,F1,rfl,hk,j7,hr,hL,hT,h⟩;obtain⟨FL,FD,sv,bl,h⟩:=h.lw;have hX: ∀k,FL k→X k:=fun k ai=>hT.aU k (h.hL k ai);have hb:=h.l.box.mv (Mv.sub hX);have uZ:=h.l.so.sl.mono hX;have Af:bl.length=x.L.bI.length:=by rw [h.l.bI,aG]
 have u9:=h.l.bI;have done:r=(x,0)→ ∀wa,Kp X w wa→I 0=I r.2∧ ∃F',(∀k,F' k→F k∨made w0 wa k)∧Lg wa F' lb db r.1.L r.1.m:=fun e wa aM=>⟨by rw [e];rfl,F1,hT.fL aM fun _ h=>h,by rw [e];exact(h.mv (aM.ew hT.aU)).lg⟩
 match bl,Af,u9 with
 |[],Af,u9=>exact absurd u9 hL.ne
 |[s],Af,u9=>
  have Yb:x.L.bI=[s.er]:=u9;have qs:r=(x,0):=by
   rw [←hr];cases k with
   |zero=>rfl
   |succ k=>unfold LD.trim;rw [Yb]
  have Am:([s]:List jm).length=1:=rfl;repeat' first|refine bL ?_;intros
  exact hT.fin fun wa aM=>done qs wa aM
 |s::t::bl,Af,u9=>
  have Yb:x.L.bI=s.er::t.er::bl.map jm.er:=u9;have sV:(s::t::bl).length=bl.length+2:=rfl;have hrs:=(h.l.row s (by simp)).mv (Mv.sub hX);have hrt:=(h.l.row t (by simp)).mv (Mv.sub hX);have aq:=hL.qd s.er (by rw [Yb];simp);have vW:s.first+s.er.bS.length≤2^40:=aq.1
  obtain⟨k,rfl⟩: ∃k',k=k'+1:=⟨k-1,by omega⟩;have eT:LD.trim x below (k+1)=if t.first≤below then(if(x.m.remove (bw x.L.dir s.first)).2≠0 then(⟨x.L,(x.m.remove (bw x.L.dir s.first)).1⟩,(x.m.remove (bw x.L.dir s.first)).2)else LD.trim ⟨{ x.L with bI:=t.er::bl.map jm.er },(x.m.remove (bw x.L.dir s.first)).1⟩ below k)else(x,0):=by
   rw [LD.trim,Yb];rfl
  have h0:(s::t::bl)[0]? =some s:=rfl;have h1:(s::t::bl)[1]? =some t:=rfl;repeat' first|refine bL ?_;intros|refine de ?_ ?_<;>intros
  ·have hle:t.first≤below:=by omega
   rw [if_pos hle] at eT;have hs:=aj.dY hT.s.has;refine cJ (rJ (by have:=hL.d2;omega) zQ) kQ hT.s.has ?_;rintro _ rZ w2 X2 rfl sD ph bQ;have bK:=hT.since bQ;have h2:=h.mv (bQ.dZ hT.aU);refine bK.call (TX h2.d (bK.fx h2.hD)) kQ h2.hD fun v oG w3 X3 hq nJ mg cn lL=>?_;obtain⟨rfl,FC,GS,hD⟩:=hq;have h3:=h2.CJ (bK.fx fun _ h=>h) nJ lL GS hD;generalize hms:x.m.remove (bw x.L.dir s.first)=ms at h3 eT⊢;have SJ: ∀k,FL k→X3 k:=fun k ai=>cn.aU k (h3.hL k ai);have zY:=h3.l.box.mv (Mv.sub SJ);clear hs;repeat' first|refine aI ?_;intros|refine de ?_ ?_<;>intros
   ·have hz:ms.2≠0:=by have: ¬(ms.2:Int)=0:=(by assumption);omega
    rw [if_pos hz,hr] at eT;exact cn.fin fun wa aM=>⟨by rw [eT],_,cn.fL aM fun _ h=>h,by rw [eT];exact(h3.mv (aM.ew cn.aU)).lg⟩
   ·have hz: ¬ms.2≠0:=by have:(ms.2:Int)=0:=(by assumption);omega
    rw [if_neg hz,hr] at eT;have QY:=h3.l.so.mono SJ;refine ahe (k:=1) (i:=1) QY rfl (by simp) kQ kQ fun wO ab9 Cg=>?_;repeat' first|refine aI ?_;intros
    refine kK (o:=3) zY zQ kQ (by simp) ab9.one cn.s.has fun w4 X4 c4 o9=>?_;have dS:=cn.dM (F':=fun k=>F1 k∨made oG w3 k) c4 (fun k ai=>by subst ai;exact h3.hL _ h3.l.box.1) fun k ai=>.inl ai;have cU:wO.ownBlock≠some lb:=ab9.dJ zY kQ;have Zp:=h3.l.QZ (xD:=FL) (wO:=wO) (m8:=t::bl) (cn.fx h3.hL) (c4.mono fun k _ ai=>.inl ai) (fun k ai=>ai) (fun k ai=>ai) ⟨h3.l.box.1,o9.2⟩ ?_ (fun y hy=>.inl (aZ _ hy)) (List.pairwise_cons.1 h3.l.ap).2
    ·refine ait (bl.length+1) zQ ⟨k,⟨{ x.L with bI:=t.er::bl.map jm.er },ms.1⟩,_,by simp,?_,?_,eT.symm,hL.tail Yb,dS,FL,FC,wO,t::bl,h3.dj,h3.hL,h3.hD,Zp,h3.d.mv (c4.ew fun k ai=>⟨cn.aU k (h3.hD k ai),fun e=>h3.dj k (by rw [e];exact h3.l.box.1) ai⟩)⟩
     ·show(t.er::bl.map jm.er).length≤k
      simp;omega
     ·show(t.er::bl.map jm.er).length≤_
      simp;omega
    ·refine ab9.tight.mv fun k ai hl=>⟨(h3.l.so.aU (Cg.symm.trans ai)).1,c4.block k (ab9.aU ai).1 fun e=>cU (by rw [←(show k=lb from e)];exact ai)⟩
  ·have hle: ¬t.first≤below:=by omega
   rw [if_neg hle,hr] at eT;exact hT.fin fun wa aM=>done eT wa aM
end Go.Proofs.YtpdkoaklobnegaaGreat
