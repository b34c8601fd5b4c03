/- Part 7 of the proof. -/
import Derived.WalkKit
import Derived.Test.YtgfijddlkhkopaaGreatG6
set_option linter.all false
open Nat renaming le_trans → ad, zero_le → aq, le_refl → au, lt_of_lt_of_le → aw, zero_add → ff
open List renaming length_append → aa, append_assoc → ak, length_map → af, take_of_length_le → aB, range → dw, length_take → aD, length_singleton → bH, filter_cons → eH, map_append → az, length_cons → aM, take_add_one → cn, replicate → gF, mem_cons_of_mem → bS, map_map → bw, length → bf, foldl_cons → iA, map_cons → aZ, mem_singleton → av, all_cons → iY, length_nil → bF, mem_of_mem_take → dc, reverse_cons → uV, length_reverse → sY, foldl_append → Bb, toList_toArray → cM, flatten_cons → cV, mem_of_getElem? → ax, not_mem_nil → dI, getElem?_append_right → cQ, flatten_append → dR, take_append_drop → eo, take_left' → ik, take_length → lG
open BitVec renaming ofInt → aF
open Go.Value renaming cells → bg, slice → tG, tuple → dh
open Go.Op renaming unary → bt
open Option.some renaming injEq → aj
open Go.Exit renaming inBlock → wg
open Go.Fence renaming wide → gg
open Go.IntKind renaming signed → jW, bits → mP
open Go.Instr renaming findNow → kB, checkKey → gT, mapUpdate → cH
open Go.WideElems renaming rg → mU, rd → sh
open Function renaming comp_def → jO
open Int renaming mul_lt_mul_of_pos_right → sN, toNat_of_nonneg → zo
open Option renaming getD_some → B8, toList_some → Ae
open Go.Builtin renaming max_ → lx, max2 → si
namespace Go.Proofs.YtgfijddlkhkopaaGreat
open Go.Proofs.Tryz renaming prog → pg
open Go.aJ Go.RowKit Go.Sort Ieee
set_option maxRecDepth 100000
set_option maxHeartbeats 4000000
def JM (t:Nat):Nat:=(t % 2)*2^63+9218868437227405312+1+(t/2) % (2^52-1)
def VQ (op:BinOp) (x y:Nat) (w:World):Nat:=match floatBits op .f64 x y with|some r=>r|none=>JM (w.tape w.drawn (.nanBits .f64 x y))
def VR (op:BinOp) (x y:Nat) (w:World):World:=match floatBits op .f64 x y with|some _=>w|none=> { w with drawn:=w.drawn+1 }
def Hb (op:BinOp) (x y:Nat):Nat:=match floatBits op .f64 x y with|some r=>canon r|none=>9221120237041090560
theorem al6 (f:Format) (n:Nat) (h:f.infRung<n % f.signWeight) (h2:f.binade<=f.infRung): ∃s q,f.read n= .nan s q:=by
 unfold Format.read;refine⟨n/f.signWeight % 2==1,n % f.signWeight-f.infRung,?_⟩
 grind
theorem ajZ (t:Nat): ∃s q,(FloatKind.f64.format).read (JM t)= .nan s q:=by
 have e1:FloatKind.f64.format.signWeight=9223372036854775808:=by decide
 have e2:FloatKind.f64.format.binade=4503599627370496:=by decide
 have e3:FloatKind.f64.format.infRung=9218868437227405312:=by decide
 refine al6 _ _ ?_ ?_
 ·have e:JM t=9223372036854775808*(t % 2)+(9218868437227405312+1+t/2 % 4503599627370495):=by
   show t % 2*9223372036854775808+9218868437227405312+1+t/2 % 4503599627370495=_
   omega
  rw[e1,e3,e,Nat.mul_add_mod,Nat.mod_eq_of_lt zQ];omega
 omega
theorem ahf (t:Nat):canon (JM t)=9221120237041090560:=by
 have h:pK (JM t) (JM t)=false:=by
  obtain⟨s,q,e⟩:=ajZ t;unfold pK Format.order;rw[e];rfl
 unfold canon;rw[h];rfl
theorem Hc (op:BinOp) (x y:Nat) (w:World):canon (VQ op x y w)=Hb op x y:=by grind [VQ,Hb,ahf]
theorem NR (op:BinOp) (x y:Nat) (w:World):Ext w (VR op x y w):=by
 unfold VR;split
 ·exact⟨rfl,rfl,rfl,au _,λ_ _ _=>rfl⟩
 ·exact⟨rfl,rfl,rfl,au _,λ_ _ _=>rfl⟩
variable {w : World} {t : TypeId} {P : Program}
theorem Hd (op:BinOp) (h:op= .add\/op= .sub\/op= .mul\/op= .quo) (x y:Nat):(binOp op t (.float .f64 x) (.float .f64 y)).run P w= .ok (.float .f64 (VQ op x y w)) (VR op x y w):=by
 unfold VQ VR;cases hf:floatBits op .f64 x y with
 |some r=>grind [run_float_arith]
 |none=>
  unfold floatBits at hf;rcases h with rfl|rfl|rfl|rfl<;>simp only at hf<;>simp[binOp,Op.floatArith,hf,choose,Sem.run,Question.forced,Question.cut,JM]
@[go_sem] theorem asy (x y:Nat):(binOp .add t (.float .f64 x) (.float .f64 y)).run P w= .ok (.float .f64 (VQ .add x y w)) (VR .add x y w):=Hd _ sQ x y
@[go_sem] theorem asz (x y:Nat):(binOp .sub t (.float .f64 x) (.float .f64 y)).run P w= .ok (.float .f64 (VQ .sub x y w)) (VR .sub x y w):=Hd _ sQ x y
@[go_sem] theorem asA (x y:Nat):(binOp .mul t (.float .f64 x) (.float .f64 y)).run P w= .ok (.float .f64 (VQ .mul x y w)) (VR .mul x y w):=Hd _ sQ x y
@[go_sem] theorem asB (x y:Nat):(binOp .quo t (.float .f64 x) (.float .f64 y)).run P w= .ok (.float .f64 (VQ .quo x y w)) (VR .quo x y w):=Hd _ sQ x y
theorem ahg (a b:Nat):Pure pg 350 #[.float .f64 a,.float .f64 b] (.float .f64 (Hb .add a b)):=by
 intro W
 go_enter Tryz.func350,Tryz.ntmps350
 go_wp2_with (go_at_call 347;refine(rD _ _).mono ?_;rintro e w1 ⟨rfl,x1⟩)
 all_goals (try simp only[wg,Exit.then])
 refine bodyPost_ret (v:=.float .f64 (Hb .add a b)) ?_ rfl ⟨rfl,(NR _ _ _ _).trans x1⟩;rw[results_tmp (t:=4) (by rfl)];simp[Hc]
theorem ahh (a b:Nat):Pure pg 351 #[.float .f64 a,.float .f64 b] (.float .f64 (Hb .sub a b)):=by
 intro W
 go_enter Tryz.func351,Tryz.ntmps351
 go_wp2_with (go_at_call 347;refine(rD _ _).mono ?_;rintro e w1 ⟨rfl,x1⟩)
 all_goals (try simp only[wg,Exit.then])
 refine bodyPost_ret (v:=.float .f64 (Hb .sub a b)) ?_ rfl ⟨rfl,(NR _ _ _ _).trans x1⟩;rw[results_tmp (t:=4) (by rfl)];simp[Hc]
theorem ahi (a b:Nat):Pure pg 352 #[.float .f64 a,.float .f64 b] (.float .f64 (Hb .mul a b)):=by
 intro W
 go_enter Tryz.func352,Tryz.ntmps352
 go_wp2_with (go_at_call 347;refine(rD _ _).mono ?_;rintro e w1 ⟨rfl,x1⟩)
 all_goals (try simp only[wg,Exit.then])
 refine bodyPost_ret (v:=.float .f64 (Hb .mul a b)) ?_ rfl ⟨rfl,(NR _ _ _ _).trans x1⟩;rw[results_tmp (t:=4) (by rfl)];simp[Hc]
theorem ahj (a b:Nat):Pure pg 353 #[.float .f64 a,.float .f64 b] (.float .f64 (Hb .quo a b)):=by
 intro W
 go_enter Tryz.func353,Tryz.ntmps353
 go_wp2_with (go_at_call 347;refine(rD _ _).mono ?_;rintro e w1 ⟨rfl,x1⟩)
 all_goals (try simp only[wg,Exit.then])
 refine bodyPost_ret (v:=.float .f64 (Hb .quo a b)) ?_ rfl ⟨rfl,(NR _ _ _ _).trans x1⟩;rw[results_tmp (t:=4) (by rfl)];simp[Hc]
attribute [local irreducible] un jn jg iN ld1 tW st1 mG lN pB sH pT J6 Fc gR ru aX lW lP eW eV eU eC eF gE np fin ix cj eP vS OA J7 J9 Ka Kb Kc OB OC Kd OD Gz GA Ke Kf Kg OE OF Kh
def ior (a b:Int):Int:=IntKind.u64.wrap (aF IntKind.u64.bits a|||aF IntKind.u64.bits b).toNat
variable {N : Value -> Prop} {X : XS}
def aqn {a b:Int} (h:N (.int .u64 (ior a b))):aX P X w (binOp .or t (.int .u64 a) (.int .u64 b)) N:=Rh h
theorem aoP {a:Int} (h:N (.int .u64 (JG IntKind.u64.max a))):aX P X w (bt .xor (.int .u64 a)) N:=
 bB (λwa=>by simp[bt,Op.intBits,JG,jW]) h
def T8 (x:Nat):Int:=if land (canon x) 9223372036854775808≠0 then JG IntKind.u64.max (canon x)else ior (canon x) 9223372036854775808
theorem afv (x:Nat):Pure pg 367 #[.float .f64 x] (.int .u64 (T8 x)):=by
 intro w0;refine ab1.1 λhs=>?_;repeat' first|refine ao ?_;intros|refine cP ?_ ?_<;>intros|(refine pH (EM _) hs ?_;intro w X hs)|(with_reducible refine fG hs ?_);(simp_all [T8])|with_reducible (first|apply ag4|apply aqn|apply aoP)
def aaN (x y:Nat):Int:=if T8 x<T8 y then-1 else if T8 x>T8 y then 1 else 0
theorem Ed (x y:Nat):Pure pg 349 #[.float .f64 x,.float .f64 y] (I (aaN x y)):=by
 intro w0;refine TW.1 λhs=>?_;repeat' first|refine ao ?_;intros|refine cP ?_ ?_<;>intros|(refine pH (afv _) hs ?_;intro w X hs)|(with_reducible refine fG hs ?_);(simp_all [aaN]<;>omega)
def T9 (a b:gK):Int:=
 if !a.may||!b.may then 0 else if a.kind<b.kind then-1 else if a.kind>b.kind then 1 else if a.kind=1 then aaN a.num b.num else if z7 a.text b.text then-1 else if a.text=b.text then 0 else 1
theorem He (a b:gK):Pure pg 309 #[a.v,b.v] (I (T9 a b)):=by
 intro w0;refine Qj.1 λhs=>?_;repeat' first|refine ao ?_;intros|refine cP ?_ ?_<;>intros|with_reducible apply cJ|(refine kn (mu _) hs ?_ ?_<;>intro _ w X hs)|(refine pH (Ed _ _) hs ?_;intro w X hs)|(with_reducible refine fG hs ?_);(simp_all [T9]<;>omega)
def aaO (a b:Nat):Nat:=if aaN a b>0 then canon b else canon a
def afw (a b:Nat):Nat:=if aaN a b<0 then canon b else canon a
theorem acd (a b:Nat):Pure pg 354 #[.float .f64 a,.float .f64 b] (.float .f64 (aaO a b)):=by
 intro w0;refine aat.1 λhs=>?_;repeat' first|refine ao ?_;intros|refine cP ?_ ?_<;>intros|(refine pH (rD _) hs ?_;intro w X hs)|(refine pH (Ed _ _) hs ?_;intro w X hs)|(with_reducible refine fG hs ?_);(simp_all [aaO]<;>omega)
theorem afx (a b:Nat):Pure pg 355 #[.float .f64 a,.float .f64 b] (.float .f64 (afw a b)):=by
 intro w0;refine ab0.1 λhs=>?_;repeat' first|refine ao ?_;intros|refine cP ?_ ?_<;>intros|(refine pH (rD _) hs ?_;intro w X hs)|(refine pH (Ed _ _) hs ?_;intro w X hs)|(with_reducible refine fG hs ?_);(simp_all [afw]<;>omega)
def aaP (x:Nat):gK:=⟨1,canon x,⟨#[]⟩⟩
theorem IG (x:Nat):Pure pg 348 #[.float .f64 x] (aaP x).v:=by
 intro w0;refine Sv.1 λhs=>?_;repeat' first|refine ao ?_;intros|(refine pH (rD _) hs ?_;intro w X hs)|(with_reducible refine fG hs ?_);rfl
def aaQ (b:Bool):gK:=if b then aaP 4607182418800017408 else aaP 0
theorem M7 (b:Bool):Pure pg 308 #[B b] (aaQ b).v:=by
 intro w0;cases b;all_goals
  refine Wu.1 λhs=>?_;repeat' first|refine ao ?_;intros|(refine pH (IG _) hs ?_;intro w X hs)|(with_reducible refine fG hs ?_);rfl
def SC (v:gK):Bool:=if v.kind=1 then decide (cls v.num≠0/\cls v.num≠4/\cls v.num≠5)else if v.kind=2 then decide (v.text≠⟨#[]⟩)else false
theorem aaR (v:gK):Pure pg 237 #[v.v] (B (SC v)):=by
 intro w0;refine Wo.1 λhs=>?_;repeat' first|refine ao ?_;intros|refine cP ?_ ?_<;>intros|(refine pH (HM _) hs ?_;intro w X hs)|(with_reducible refine fG hs ?_);(simp_all [SC])
abbrev wh (e:Int):List PanicEntry:=[{ v:=.iface 291 (.agg #[I e]),recovered:=false }]
def Ua (c:Int) (a b:Nat):Nat:=if c=5 then Hb .add a b else if c=6 then Hb .sub a b else if c=7 then Hb .mul a b else if c=8 then Hb .quo a b else if c=9 then aaO a b else afw a b
theorem WJ (c:Int) (a b:gK):FB pg 310 #[I c,a.v,b.v] w X nX (λv _ _=> ¬(a.kind=2\/b.kind=2)/\v=(aaP (Ua c a.num b.num)).v) (λch _ _=>(a.kind=2\/b.kind=2)/\ch=wh 23):=by
 intro w0 hk;have hF:FX nX (bN w0) w0:=λk ah=>ah.elim;have hT:=hF.ft (Kp.refl _ _);refine TQ.1 λhs=>?_;by_cases h:a.kind=2\/b.kind=2
 ·repeat' first|refine aL ?_;intros|refine cP ?_ ?_<;>intros|with_reducible apply cJ|(with_reducible refine Tj ?_ ?_);(· kernel_rfl)
  all_goals exact Tk hs.has λwa ou=>(hT.since hs).jd ou ⟨h,rfl⟩
 ·repeat' first|refine aL ?_;intros|refine cP ?_ ?_<;>intros|with_reducible apply cJ|(refine pH (IG _) hs ?_;intro w X hs)|(refine pH (ahg _ _) hs ?_;intro w X hs)|(refine pH (ahh _ _) hs ?_;intro w X hs)|(refine pH (ahi _ _) hs ?_;intro w X hs)|(refine pH (ahj _ _) hs ?_;intro w X hs)|(refine pH (acd _ _) hs ?_;intro w X hs)|(refine pH (afx _ _) hs ?_;intro w X hs)|(refine(hT.since hs).yi λwa aK=>⟨h,?_⟩;simp[Ua, *];done)
open Go
def fcl:Datum->Int
 | .infinity true=> -1
 | .infinity false=>1
 |_=>0
def fvl (b:Int):Datum->Int
 | .number s m i=>signed s m (i-b).toNat
 |_=>0
def IH:Datum->Int
 | .number _ _ i=>i
 |_=>0
theorem VS (s:Bool) (m u k:Nat):signed s m (u+k)=signed s m u*(2^k:Nat):=by
 unfold signed;simp only[Nat.shiftLeft_eq,Nat.pow_add]
 grind
theorem ahk (x y:Int) (k:Nat):compare (x*(2^k:Nat)) (y*(2^k:Nat))=compare x y:=by
 have hp:(0:Int)<((2^k:Nat):Int):=by
  have:0<2^k:=Nat.two_pow_pos k;omega
 rcases Int.lt_trichotomy x y with h|h|h
 ·have:=sN h hp;rw[show compare x y= .lt from by simp[compare,compareOfLessAndEq,h],show compare (x*((2^k:Nat):Int)) (y*((2^k:Nat):Int))= .lt from by simp only[compare,compareOfLessAndEq];grind]
 ·grind
 ·have:=sN h hp;rw[show compare x y= .gt from by simp only[compare,compareOfLessAndEq];grind,show compare (x*((2^k:Nat):Int)) (y*((2^k:Nat):Int))= .gt from by simp only[compare,compareOfLessAndEq];grind]
theorem aaS (b:Int) (x y:Datum) (hx:x.isNaN=false) (hy:y.isNaN=false) (bx:b<=IH x) (by':b<=IH y):
  x.order y=some (if fcl x<fcl y then .lt else if fcl y<fcl x then .gt else compare (fvl b x) (fvl b y)):=by
 cases x with
 |nan=>simp[Datum.isNaN] at hx
 |infinity s=>cases y with
  |nan=>simp[Datum.isNaN] at hy
  |infinity t=>cases s<;>cases t<;>rfl
  |number t n j=>cases s<;>rfl
 |number s m i=>cases y with
  |nan=>simp[Datum.isNaN] at hy
  |infinity t=>cases t<;>rfl
  |number t n j=>
   have bi:b<=i:=bx;have bj:b<=j:=by';have e1:(i-b).toNat=(i-min i j).toNat+(min i j-b).toNat:=by omega
   have e2:(j-b).toNat=(j-min i j).toNat+(min i j-b).toNat:=by omega
   show some (compare (signed s m (i-min i j).toNat) (signed t n (j-min i j).toNat))=some (compare (signed s m (i-b).toNat) (signed t n (j-b).toNat))
   rw[e1,e2,VS,VS,ahk]
def fk (b:Int) (d:Datum):Int×Int:=(fcl d,fvl b d)
def kle (a b:Int×Int):Prop:=a.1<b.1\/a.1=b.1/\a.2<b.2
theorem aoQ {x y:Int} :compare x y= .lt↔x<y:=by
 simp only[compare,compareOfLessAndEq]
 grind
variable {x y : Datum}
theorem yJ {b:Int} (hx:x.isNaN=false) (hy:y.isNaN=false) (bx:b<=IH x) (by':b<=IH y):x.order y=some .lt↔kle (fk b x) (fk b y):=by
 rw[aaS b x y hx hy bx by'];unfold kle fk;simp only[aj];split
 ·simp[*]
 ·split
  ·simp;omega
  ·rw[aoQ];omega
theorem JN {b:Int} (hx:x.isNaN=false) (hy:y.isNaN=false) (bx:b<=IH x) (by':b<=IH y):x.order y=some .eq↔fk b x=fk b y:=by
 rw[aaS b x y hx hy bx by'];unfold fk;simp only[aj,Prod.mk.injEq]
 grind
theorem DU {o:Ordering} (h:x.order y=some o):x.isNaN=false/\y.isNaN=false:=by
 cases x<;>cases y<;>first|exact⟨rfl,rfl⟩|simp[Datum.order] at h
abbrev fd (a:Nat):Datum:=FloatKind.f64.format.read a
variable {b : Nat}
theorem Xk {a:Nat} :qB a b=true↔(fd a).order (fd b)=some .lt:=by unfold qB Format.order;simp
theorem afy {a:Nat} :pK a b=true↔(fd a).order (fd b)=some .eq:=by unfold pK Format.order;simp
theorem three (x y z:Datum): ∃b:Int,b<=IH x/\b<=IH y/\b<=IH z:=⟨min (IH x) (min (IH y) (IH z)),by omega,by omega,by omega⟩
variable {c : Nat}
theorem ahl {a:Nat} (h:qB a b=true) (k:qB b c=true):qB a c=true:=by
 rw[Xk] at*;obtain⟨p,p1,p2,p3⟩:=three (fd a) (fd b) (fd c);have n1:=DU h;have n2:=DU k;rw[yJ n1.1 n1.2 p1 p2] at h;rw[yJ n2.1 n2.2 p2 p3] at k;rw[yJ n1.1 n2.2 p1 p3];unfold kle at*;omega
theorem al7 {a:Nat} (h:qB a b=true) (k:pK b c=true):qB a c=true:=by
 rw[Xk] at*;rw[afy] at k;obtain⟨p,p1,p2,p3⟩:=three (fd a) (fd b) (fd c);have n1:=DU h;have n2:=DU k;rw[yJ n1.1 n1.2 p1 p2] at h;rw[JN n2.1 n2.2 p2 p3] at k;rw[yJ n1.1 n2.2 p1 p3,<-k];exact h
theorem al8 {a:Nat} (h:pK a b=true) (k:qB b c=true):qB a c=true:=by
 rw[Xk] at*;rw[afy] at h;obtain⟨p,p1,p2,p3⟩:=three (fd a) (fd b) (fd c);have n1:=DU h;have n2:=DU k;rw[JN n1.1 n1.2 p1 p2] at h;rw[yJ n2.1 n2.2 p2 p3] at k;rw[yJ n1.1 n2.2 p1 p3,h];exact k
theorem ac8 {a:Nat} (h:pK a b=true):pK b a=true:=by
 rw[afy] at*;obtain⟨p,p1,p2,_⟩:=three (fd a) (fd b) (fd b);have n1:=DU h;rw[JN n1.1 n1.2 p1 p2] at h;rw[JN n1.2 n1.1 p2 p1];exact h.symm
theorem afz (a:Nat):qB a a=false:=by
 cases h:qB a a with
 |false=>rfl
 |true=>
  rw[Xk] at h;have n1:=DU h;rw[yJ (b:=IH (fd a)) n1.1 n1.2 (Int.le_refl _) (Int.le_refl _)] at h;unfold kle at h;omega
theorem ace {a:Nat} (h:qB a b=true):pK a b=false:=by
 cases k:pK a b with
 |false=>rfl
 |true=>
  have:=al7 h (ac8 k)
  grind [afz]
variable {rows : List (List Value)} {i k : Nat} {z : Int} {v : Value}
theorem P5 (h:Sl w X k v rows) (hz:z=i) (hi:i<=rows.length) (ht:P.underlying t=some (.slice (P.elem t))) (hs:(P.info? (P.elem t)).map (·.size)=some k)
  (n: ∀v',Sl w X k v' (rows.take i)->N v'):aX P X w (Instr.sliceAt t v none (some (.int .i64 z)) none) N:=by
 obtain⟨h1,h2,base,cap,rfl,hc,hb,Yw,iH⟩:=h;refine aJ.LA hz zQ ht (by cases hq:P.info? (P.elem t)<;>simp[hq] at hs⊢) (n _ ?_);have hl:(rows.take i).length=i:=by rw[aD];omega
 refine⟨λr hr=>h1 r (dc hr),by omega,base,cap,by rw[hl],λbU=>?_,λuq=>?_,by omega,iH⟩
 ·obtain⟨b,o,rfl,jG⟩:=hc (by rintro rfl;simp at bU);refine⟨b,o,rfl,?_⟩;rw[aJ.lY i h1];obtain⟨hx,c,ty,fr,dW,Cf⟩:=jG;refine⟨hx,c,ty,fr,dW,λq u hu=>?_⟩;have hq:=(List.getElem?_eq_some_iff.1 hu).1;rw[aD] at hq;rw[List.getElem?_take_of_lt zQ] at hu;exact Cf _ _ hu
 ·have:=hb uq;omega
def lU (a:Nat) (s:Nat×Int) (r:eY):Nat×Int:=if pK r.lo a then(r.hi,s.2+1)else s
def II (l:List eY) (a:Nat):Nat×Int:=l.foldl (lU a) (0,0)
def IJ (l:List eY):Nat->Nat->Int->Int
 |0,_,_=>99
 |n+1,a,u=>if qB a G9 then(if(II l a).2=1 then IJ l n (II l a).1 (u+1)else 14)else if u=l.length then 0 else 14
def JO:List eY->List eY->Int
 |_,[]=>0
 |b,r::t=>if r.may then(if b.any (λo=>decide (o.id=r.id))then 9 else JO (b++[r]) t)else 1
def BS (l:List eY):Int:=if l.length=0 then 8 else if 12<l.length then 3 else if JO [] l≠0 then JO [] l else IJ l (l.length+1) 0 0
theorem Hf (a:Nat): ∀(l:List eY) (s:Nat×Int),s.2<=(l.foldl (lU a) s).2/\(l.foldl (lU a) s).2<=s.2+l.length
 |[],s=>by simp
 |r::l,s=>by
  have h:=Hf a l (lU a s r);have h1:s.2<=(lU a s r).2/\(lU a s r).2<=s.2+1:=by unfold lU;split<;>simp<;>omega
  rw[iA,aM];omega
theorem Ph (a:Nat): ∀(l:List eY) (s:Nat×Int),(l.foldl (lU a) s).2=s.2->l.foldl (lU a) s=s/\ ∀r∈l,pK r.lo a=false
 |[],s,_=>by simp
 |r::l,s,h=>by
  rw[iA] at h;have hle:=Hf a l (lU a s r);by_cases hr:pK r.lo a=true
  ·have:lU a s r=(r.hi,s.2+1):=by unfold lU;rw[if_pos hr]
   rw[this] at hle h;simp only at hle;omega
  ·have e:lU a s r=s:=by unfold lU;rw[if_neg hr]
   rw[e] at h;have:=Ph a l s h;rw[iA,e];exact⟨this.1,λx hx=>by
    rcases List.mem_cons.1 hx with rfl|hx
    ·simpa using hr
    ·exact this.2 x hx⟩
theorem SD (a:Nat): ∀(l:List eY) (s:Nat×Int),(l.foldl (lU a) s).2=s.2+1-> ∃r∈l,pK r.lo a=true/\(l.foldl (lU a) s).1=r.hi
 |[],s,h=>by simp at h;omega
 |r::l,s,h=>by
  rw[iA] at h⊢;by_cases hr:pK r.lo a=true
  ·have e:lU a s r=(r.hi,s.2+1):=by unfold lU;rw[if_pos hr]
   rw[e] at h⊢;have:=Ph a l (r.hi,s.2+1) h;exact⟨r,by simp,hr,by rw[this.1]⟩
  ·have e:lU a s r=s:=by unfold lU;rw[if_neg hr]
   rw[e] at h⊢;obtain⟨q,hq,h1,h2⟩:=SD a l s h;exact⟨q,bS _ hq,h1,h2⟩
def later (l:List eY) (a:Nat):Nat:=(l.filter λr=>!qB r.lo a).length
theorem filter_lt {α:Type} {p q:α->Bool} : ∀{l:List α},(∀x∈l,q x=true->p x=true)->(∃x∈l,p x=true/\q x=false)->(l.filter q).length<(l.filter p).length
 |[],_,h=>by obtain⟨x,hx,_⟩:=h;cases hx
 |a::l,h,h2=>by
  have hle: ∀{l:List α},(∀x∈l,q x=true->p x=true)->(l.filter q).length<=(l.filter p).length:=λ{l} h=>by
   induction l with
   |nil=>simp
   |cons b l ih=>
    have:=ih λx hx=>h x (bS _ hx);have hb:=h b sQ;by_cases hq:q b=true
    ·simp[eH,hq,hb hq];exact this
    ·by_cases hp:p b=true
     ·simp[eH,hq,hp];omega
     ·simp[eH,hq,hp];exact this
  have hl: ∀x∈l,q x=true->p x=true:=λx hx=>h x (bS _ hx);obtain⟨x,hx,h3,h4⟩:=h2;rcases List.mem_cons.1 hx with rfl|hx
  ·have:=hle hl;simp[eH,h3,h4];omega
  ·have ih:=filter_lt hl ⟨x,hx,h3,h4⟩;have hb:=h a sQ;by_cases hq:q a=true
   ·simp[eH,hq,hb hq];exact ih
   ·by_cases hp:p a=true
    ·simp[eH,hq,hp];omega
    ·simp[eH,hq,hp];exact ih
variable {l : List eY}
theorem aj0 {a:Nat} (hm: ∀r∈l,r.may=true) (h:(II l a).2=1):later l (II l a).1<later l a:=by
 obtain⟨r,hr,h1,h2⟩:=SD a l (0,0) h;have h2:(II l a).1=r.hi:=h2;have h3:qB r.lo r.hi=true:=by have:=hm r hr;unfold eY.may at this;simp only[Bool.and_eq_true] at this;exact this.2
 have h4:qB a r.hi=true:=al8 (ac8 h1) h3;rw[h2];refine filter_lt (λx hx hq=>?_) ⟨r,hr,?_,by rw[h3];rfl⟩
 ·cases hc:qB x.lo a with
  |false=>rfl
  |true=>rw[ahl hc h4] at hq;cases hq
 ·cases hc:qB r.lo a with
  |false=>rfl
  |true=>rw[ace hc] at h1;cases h1
theorem aaT: ∀{l b:List eY},JO b l=0->(∀r∈l,r.may=true)/\(∀r∈l,∀o∈b,o.id≠r.id)/\l.Pairwise λx y=>x.id≠y.id
 |[],b,_=>by simp
 |r::t,b,h=>by
  unfold JO at h;by_cases hm:r.may=true
  ·rw[if_pos hm] at h;by_cases ha:(b.any λo=>decide (o.id=r.id))=true
   ·rw[if_pos ha] at h;omega
   ·rw[if_neg ha] at h;have ih:=aaT h;have ha': ∀o∈b,o.id≠r.id:=λo ho e=>ha (List.any_eq_true.2 ⟨o,ho,by simpa using e⟩);refine⟨λx hx=>?_,λx hx o ho=>?_,List.pairwise_cons.2 ⟨λx hx=>ih.2.1 x hx r sQ,ih.2.2⟩⟩
    ·rcases List.mem_cons.1 hx with rfl|hx
     ·exact hm
     ·exact ih.1 x hx
    ·rcases List.mem_cons.1 hx with rfl|hx
     ·exact ha' o ho
     ·exact ih.2.1 x hx o (by simp[ho])
  ·rw[if_neg hm] at h;omega
variable {a : Value}
theorem WK (ha:Sl w X 4 a (l.map eY.l)):Ct pg 122 #[a] w X nX λv _ _=>v=I (BS l):=by
 intro w0 hk;replace ha:=ha.mv hk.cd;have kV:=ha.gN;refine TG.1 λhs=>?_;repeat' first|refine ao ?_;intros|refine cP ?_ ?_<;>intros|(refine qr ?_;intro wa hk;(first|(unfold BS;rw[if_pos zQ])|(unfold BS;rw[if_neg zQ,if_pos zQ])))
 refine gO (λn a b w X=> ∃i:Nat,a=I i/\n=l.length-i/\i<=l.length/\ai (bN w0) w0 X w/\JO [] l=JO (l.take i) (l.drop i)) l.length ⟨0,rfl,rfl,aq _,hs,rfl⟩ ?_;rintro n a b w X ⟨i,rfl,rfl,hi,hs,hw⟩;rcases dD (l) i with⟨cx,x,hx,hd⟩|⟨dA,hd⟩
 ·rw[hd,JO] at hw;by_cases hm:x.may=true
  ·rw[if_pos hm] at hw;repeat' first|refine aL ?_;intros|(refine kn (wI _) hs ?_ ?_<;>intro _ w X hs)|(exfalso;simp_all;done)
   refine P5 (i:=i) (rows:=l.map eY.l) (ha.since hs) rfl (by rw[af];omega) kQ kQ λv1 lq=>?_;rw[<-List.map_take] at lq;have Dv:(l.take i).length=i:=by rw[aD];omega
   repeat' refine ao ?_;intros
   refine eI (λn a w1 X1=> ∃j:Nat,a=I (j:Nat)/\n=(l.take i).length-j/\j<=(l.take i).length/\ai X w X1 w1/\((l.take i).any λo=>decide (o.id=x.id))=(((l.take i).drop j).any λo=>decide (o.id=x.id))) (l.take i).length ⟨0,rfl,rfl,aq _,ai.fK hs.has,by simp⟩ ?_;rintro n a w1 X1 ⟨j,rfl,rfl,hj,bA,sL⟩;replace lq:=lq.since bA;replace hs:=hs.trans bA;rcases dD (l.take i) j with⟨Tf,y,hy,sG⟩|⟨Fs,sG⟩
   ·rw[sG,List.any_cons] at sL;by_cases QC:y.id=x.id
    ·repeat' first|refine aL ?_;intros|(refine qr ?_;intro wa hk;(unfold BS;rw[if_neg zQ,if_neg zQ,hw,sL,QC];simp))
    ·repeat' first|refine aL ?_;intros|((with_reducible refine dS ((l.take i).length-(j+1)) ?_ ?_);omega;exact⟨j+1,by simp,rfl,by omega,bA,by rw[sL];simp[QC]⟩)
   ·rw[sG] at sL;simp only[List.any_nil] at sL;rw[if_neg (by rw[sL];simp)] at hw;repeat' first|refine aL ?_;intros|((with_reducible refine fZ ((l).length-(i+1)) ?_ ?_);omega;exact⟨i+1,by simp,rfl,by omega,hs,by rw[hw,cn,hx];rfl⟩)
  ·rw[if_neg hm] at hw;repeat' first|refine aL ?_;intros|(refine kn (wI _) hs ?_ ?_<;>intro _ w X hs)|(exfalso;simp_all;done)|(refine qr ?_;intro wa hk;(unfold BS;rw[if_neg zQ,if_neg zQ,hw];rfl))
 ·rw[hd,aB dA,JO] at hw;have hC:BS l=IJ l (l.length+1) 0 0:=by unfold BS;rw[if_neg zQ,if_neg zQ,if_neg zQ]
  repeat' refine aL ?_;intros
  refine anS (λn a b c d e w X=> ∃(u:Int) (gJ:Nat),a=I u/\b= .float .f64 gJ/\later l gJ<n/\0<=u/\u+n<=l.length+1/\ai (bN w0) w0 X w/\BS l=IJ l n gJ u) (l.length+1) ⟨0,0,rfl,rfl,?_,by omega,by omega,hs,hC⟩ ?_
  ·have:later l 0<=l.length:=List.length_filter_le _ _;omega
  rintro n a b c d e w X ⟨u,a0,rfl,rfl,iq,hu0,hu1,hs,wB⟩;obtain⟨k,rfl⟩: ∃j,n=j+1:=⟨n-1,by omega⟩;rw[IJ] at wB;have uq:=Hf a0 l (0,0);by_cases Dv:qB a0 G9=true
  ·rw[if_pos Dv] at wB;repeat' first|refine ao ?_;intros|refine cP ?_ ?_<;>intros|(exfalso;simp_all [G9];done)
   refine BE (λn a b c w X=> ∃i:Nat,a=I i/\b=I ((l.take i).foldl (lU a0) (0,0)).2/\c= .float .f64 ((l.take i).foldl (lU a0) (0,0)).1/\n=l.length-i/\i<=l.length/\ai (bN w0) w0 X w) l.length ⟨0,rfl,rfl,rfl,rfl,aq _,hs⟩ ?_;rintro n a b c w X ⟨i,rfl,rfl,rfl,rfl,hi,hs⟩;have lM:=Hf a0 (l.take i) (0,0);have hli:(l.take i).length=i:=by rw[aD];omega
   rw[hli] at lM;rcases dD (l) i with⟨cx,x,hx,hd⟩|⟨dA,hd⟩
   ·have fO:(l.take (i+1)).foldl (lU a0) (0,0)=lU a0 ((l.take i).foldl (lU a0) (0,0)) x:=by rw[cn,hx,Bb];rfl
    generalize (l.take i).foldl (lU a0) (0,0)=s at fO lM⊢;by_cases hf:pK x.lo a0=true
    ·rw[show lU a0 s x=(x.hi,s.2+1)by unfold lU;rw[if_pos hf]] at fO;repeat' first|refine aL ?_;intros|refine cP ?_ ?_<;>intros|with_reducible apply cJ|(exfalso;simp_all;done)|((with_reducible refine zU ((l).length-(i+1)) ?_ ?_);omega;exact⟨i+1,by simp,by rw[fO],by rw[fO],rfl,by omega,hs⟩)
    ·rw[show lU a0 s x=s by unfold lU;rw[if_neg hf]] at fO;repeat' first|refine aL ?_;intros|refine cP ?_ ?_<;>intros|with_reducible apply cJ|(exfalso;simp_all;done)|((with_reducible refine zU ((l).length-(i+1)) ?_ ?_);omega;exact⟨i+1,by simp,by rw[fO],by rw[fO],rfl,by omega,hs⟩)
   ·rw[aB dA];change _/\_<=_ at uq;change BS l=if(List.foldl (lU a0) (0,0) l).2=1 then IJ l k (List.foldl (lU a0) (0,0) l).1 (u+1)else 14 at wB
    by_cases uY:(l.foldl (lU a0) (0,0)).2=1
    ·have cx:=aj0 ((aaT hw).1) (a:=a0) uY;rw[if_pos uY] at wB;unfold II at cx;repeat' first|refine aL ?_;intros|(with_reducible refine anU k ?_ ?_);omega;exact⟨u+1,_,rfl,rfl,by omega,by omega,by omega,hs,wB⟩
    ·rw[if_neg uY] at wB;repeat' first|refine aL ?_;intros|(refine qr ?_;intro wa hk;(rw[wB]))
  ·rw[if_neg Dv] at wB;repeat' first|refine ao ?_;intros|refine cP ?_ ?_<;>intros|(exfalso;exact Dv aQ)|(refine qr ?_;intro wa hk;(rw[wB];first|(rw[if_pos aQ])|(rw[if_neg aQ])))
variable {kt : TypeId}
theorem Qt (h:P.underlying kt=some (.int .i64)) (e:Bool) (n:Nat) (k:Int) (w:World):(gT e (n+1) kt (I k)).run P w= .ok () w:=by simp[gT,run_underlying h]
theorem al9 (h:P.underlying kt=some (.int .i64)):xA P kt (λz:Int=>I z) where
 jg e k w:=Qt h e 9999 k w
 find k l w:=by
  have: ∀(l:List (Go.aJ.jy Int)) (i:Nat),kB (.int .i64) (I k) (l.map (lL λz=>I z)) i=some (tw k l i):=by
   intro l
   induction l with
   |nil=>intro i;rfl
   |cons x r ih=>
    intro i;by_cases hk:k=x.1
    ·simp[kB,lL,Instr.sameNow,tw,hk]
    ·have hb:(k==x.1)=false:=by simpa using hk
     simp[kB,lL,Instr.sameNow,tw,hk,hb,ih]
  simp[Instr.findKey,run_underlying h,this]
 same k:=by simp[Instr.sameBits]
def Bc:xA pg 3 (λz:Int=>I z):=al9 kQ
def JP:World->XS->Value->eY->Prop:=λ_ _ v x=>v=x.v
def Qu:qG JP:=λ_ _ _ _ _ _ h _=>h
abbrev tL:=List (Int×eY)
structure mz (w:World) (X:XS) (db mb:Nat) (ds:tL):Prop where
 row:aI w X db [.map (some mb)] 224
 map:dL w X nX mb (λz:Int=>I z) JP ds
variable {w' : World} {A D X' : XS} {db mb : Nat} {ds Pb : tL}
def mz.mv (h:mz w X db mb ds) (v:Mv X w X' w'):mz w' X' db mb ds:=⟨h.row.mv v,h.map.mv Qu v λ_ h=>h.elim⟩
theorem mz.ne (h:mz w X db mb ds):db≠mb:=λe=>by
 obtain⟨es,c,h1,_⟩:=h.map;have h2:=h1.2.1;rw[<-e,h.row.2] at h2;simp at h2
theorem mz.put (h:mz w D db mb ds) (hX: ∀k,D k->X k) (c:ee (· =mb) X w X' w') (hm:dL w' X' nX mb (λz:Int=>I z) JP Pb):mz w' D db mb Pb:=
 ⟨⟨h.row.1,(c.block _ (hX _ h.row.1) h.ne).trans h.row.2⟩,by obtain⟨es,c,h1,h2⟩:=hm;exact⟨es,c,⟨h.map.x.1,h1.2⟩,h2⟩⟩
def iZ (ds:tL) (r:eY):tL:=if r.may then(match getM r.id ds with|some o=>if o.iF>=r.iF then ds else cI r.id r ds|none=>cI r.id r ds)else ds
theorem Pj (h:mz w D db mb ds) (hD:FX D X w) (ha:Sl w A 4 a (l.map eY.l)) (hA: ∀k,A k->X k/\k≠mb):
  Ct pg 123 #[ptr db 0,a] w X (· =mb) λv _ w'=>(∃n,v=I n)/\mz w' D db mb (l.foldl iZ ds):=by
 intro w0 hk;have hF:FX (· =mb) X w:=λk ah=>by subst ah;exact hD _ h.map.x.1
 have hT:=hF.ft hk;replace h:=h.mv (hD.mv hk);have hD0:=hD.kp hk;have hao:Sl w0 (out (· =mb) w0) 4 a (l.map eY.l):=ha.mv λk ah hl=>⟨⟨aw hl hk.size,(hA k ah).2⟩,hk.block k (hA k ah).1⟩;have kV:=hao.gN;have ha:=hao.mv hT.s.mv;refine Qe.1 λ_=>?_;have hs:=hT.s;repeat' refine ao ?_;intros
 refine gO (λn a b w X=> ∃(i:Nat) (c:Int),a=I i/\b=I c/\0<=c/\c<=i/\n=l.length-i/\i<=l.length/\Ft w0 (· =mb) w X (· =mb)/\FX D X w/\mz w D db mb ((l.take i).foldl iZ ds)) l.length ⟨0,0,rfl,rfl,by omega,by omega,rfl,aq _,hT,hD0,h⟩ ?_;clear hs hT h ha;rintro n _ _ w X ⟨i,c,rfl,rfl,xe,GG,rfl,hi,hT,SE,h⟩;have ha:=hao.mv hT.s.mv;have br:=h.row.mono λk ah=>(SE k ah).1;have hs:=hT.s;rcases dD (l) i with⟨cx,x,hx,hd⟩|⟨dA,hd⟩
 ·have fO:(l.take (i+1)).foldl iZ ds=iZ ((l.take i).foldl iZ ds) x:=by rw[cn,hx,Bb];rfl
  generalize (l.take i).foldl iZ ds=s at fO h;have nD: ∀{w':World} {X':XS} (c':Int),0<=c'->c'<=c+1->Ft w0 (· =mb) w' X' (· =mb)->FX D X' w'->mz w' D db mb (iZ s x)->
    GA (J2 λn a b w X=> ∃(i:Nat) (c:Int),a=I i/\b=I c/\0<=c/\c<=i/\n=l.length-i/\i<=l.length/\Ft w0 (· =mb) w X (· =mb)/\FX D X w/\mz w D db mb ((l.take i).foldl iZ ds)) (l.length-i) (I ((i:Int)+1)) (I c') w' X':=
   λc' q0 q1 q2 q3 q4=>fZ (l.length-(i+1)) zQ ⟨i+1,c',by simp,rfl,q0,by omega,rfl,by omega,q2,q3,by rw[fO];exact q4⟩
  have M8: ∀{w1:World} {X1:XS} {K:Value->World->XS->Prop},Ft w0 (· =mb) w1 X1 (· =mb)->FX D X1 w1->mz w1 D db mb s->iZ s x=cI x.id x s->
    (∀w2 X2,Ft w0 (· =mb) w2 X2 (· =mb)->FX D X2 w2->mz w2 D db mb (iZ s x)->K undef w2 X2)->
    eU pg (vi (· =mb) w0 λv w'=>(λv _ w'=>(∃n,v=I n)/\mz w' D db mb (l.foldl iZ ds)) v w0 w') X1 w1 true (cH 222 (.map (some mb)) (I x.id) x.v) K:=λq1 q2 q3 q4 k=>by
   refine vK (kt:=3) (et:=48) (a:=x) (q3.mv (Mv.sub λk ah=>(q2 k ah).1)).map Qu rfl (λ_ hk=>hk.elim) Bc kQ q1.s.has λw2 X2 c2 rC=>?_;rw[q4] at k;exact k w2 X2 (q1.ea c2 (λk ah=>ah) λk ah=>.inl ah) (λk ah=>⟨c2.sub k (q2 k ah).1,c2.has k (c2.sub k (q2 k ah).1)⟩) (q3.put (λk ah=>(q2 k ah).1) c2 rC)
  repeat' first|refine aL ?_;intros|with_reducible apply cJ
  refine Ga (kt:=3) (et:=48) (.agg #[I 0,I 0,.float .f64 0,.float .f64 0]) (h.mv (Mv.sub λk ah=>(SE k ah).1)).map Bc kQ kQ (λv a hg hv=>?_) (λhg=>?_)
  ·simp only[JP] at hv;subst hv;repeat' refine ao ?_;intros
   refine rV (wI x) kQ hs.has λw1 X1 ay=>?_;have eh:=hT.since ay;have VT:FX D X1 w1:=λk ah=>⟨ay.sub k (SE k ah).1,aw (SE k ah).2 ay.kp.size⟩;have h1:=h.mv (ay.gW λk ah=>(SE k ah).1);have EE:=h1.row.mono λk ah=>(VT k ah).1;clear hs br;have hs:=eh.s;by_cases hm:x.may=true
   ·rw[hm];by_cases dA:a.iF>=x.iF
    ·repeat' first|refine aL ?_;intros|(exact nD c xe zQ eh VT (by unfold iZ;rw[if_pos hm,hg];simp only;rw[if_pos dA];exact h1))
    ·repeat' refine aL ?_;intros
     refine M8 eh VT h1 (by unfold iZ;rw[if_pos hm,hg];simp only;rw[if_neg dA]) λw2 X2 cX hD2 h2=>?_;repeat' first|refine ao ?_;intros|(exact nD (c+1) zQ zQ cX hD2 h2)
   ·rw[show x.may=false by simpa using hm];repeat' first|refine ao ?_;intros|(exact nD c xe zQ eh VT (by unfold iZ;rw[if_neg hm];exact h1))
  ·repeat' refine ao ?_;intros
   refine rV (wI x) kQ hs.has λw1 X1 ay=>?_;have eh:=hT.since ay;have VT:FX D X1 w1:=λk ah=>⟨ay.sub k (SE k ah).1,aw (SE k ah).2 ay.kp.size⟩;have h1:=h.mv (ay.gW λk ah=>(SE k ah).1);have EE:=h1.row.mono λk ah=>(VT k ah).1;clear hs br;have hs:=eh.s;by_cases hm:x.may=true
   ·rw[hm];repeat' refine ao ?_;intros
    refine M8 eh VT h1 (by unfold iZ;rw[if_pos hm,hg]) λw2 X2 cX hD2 h2=>?_;repeat' first|refine ao ?_;intros|(exact nD (c+1) zQ zQ cX hD2 h2)
   ·rw[show x.may=false by simpa using hm];repeat' first|refine ao ?_;intros|(exact nD c xe zQ eh VT (by unfold iZ;rw[if_neg hm];exact h1))
 ·repeat' refine aL ?_;intros
  rw[aB dA] at h;exact hT.fin λwa aK=>⟨⟨c,rfl⟩,h.mv (aK.je λk ah=>(SE k ah).1)⟩
theorem ago (ha:Sl w X 4 a (l.map eY.l)):
  Ct pg 74 #[a] w X nX λv wa w'=>if BS l≠0 then v= .tuple #[.pointer none,I (BS l)] else∃db mb D,v= .tuple #[ptr db 0,I 0]/\(∀k,D k->made wa w' k)/\mz w' D db mb (l.foldl iZ []):=by
 intro w0 hk;replace ha:=ha.mv hk.cd;have hF:FX nX X w:=λk ah=>ah.elim;have hT:=hF.ft hk;have hs:=ai.init w0;refine afh.1 λ_=>?_;refine dZ (WK ha) kQ hs.has λw1 X1 ay=>?_;replace hT:=hT.since ay;replace hs:=hs.trans ay;replace ha:=ha.since ay;by_cases hc:BS l≠0
 ·repeat' refine aL ?_;intros
  exact hT.fin λwa aK=>by simp only[if_pos hc]
 ·repeat' refine aL ?_;intros
  refine rA (kv:=λk:Int=>I k) JP nX hT.s.has λmb w2 X2 hmb ye rC=>?_;have cX:=hT.since ye;clear hs;repeat' refine ao ?_;intros
  refine BL cX.s.has λdb w3 X3 hdb dm br=>?_;have dX:=cX.since dm;have qx:=rC.mv Qu dm.mv (λ_ h=>h.elim) (A':=nX);have JZ:=rC.x.2;have h3:mz w3 (λk=>k=db\/k=mb) db mb []:=⟨⟨.inl rfl,br.2⟩,by obtain⟨es,c,h1,h2⟩:=qx;exact⟨es,c,⟨.inr rfl,h1.2⟩,h2⟩⟩;have hz:=ay.kp.size;have hD3:FX (λk=>k=db\/k=mb) X3 w3:=λk ah=>by
   rcases ah with e|e<;>subst e
   ·exact⟨br.1,br.lt⟩
   ·exact⟨qx.x.1,qx.x.2⟩
  have Fx:Ft w0 nX w3 X3 (λk=>k=mb):=dX.more λk e=>by subst e;exact .inr ⟨qx.x.1,by omega⟩
  have ha3:Sl w3 X1 4 a (l.map eY.l):=ha.mv λk ah _=>⟨ah,(ye.trans dm).kp.block k ah⟩;refine Fx.call (Pj (A:=X1) h3 hD3 ha3 λk ah=>⟨dm.sub k (ye.sub k ah),λe=>by have:=hT.s.has k ah;omega⟩) kQ (λ_ h=>h) λv zS w4 X4 hq tK oV fP c4=>?_;obtain⟨_,h4⟩:=hq;have hz4:=c4.size
  skip
  exact fP.fin λwa aK=>by
   simp only[if_neg hc];exact⟨db,mb,_,rfl,λk ah=>by have:=aK.size;have:=br.lt;have:=qx.x.2;rcases ah with e|e<;>subst e<;>exact⟨by omega,by omega⟩,h4.mv (aK.je λk ah=>c4.sub k (hD3 k ah).1)⟩
def eY.S4 (r:eY) (x:Nat):Bool:=(Kv x r.lo||pK x r.lo)&&qB x r.hi
def Af (ds:tL) (x:Nat):Nat->Option eY
 |0=>none
 |n+1=>match getM ((n+1:Nat):Int) ds with
  |some r=>if eY.S4 r x then some r else Af ds x n
  |none=>Af ds x n
def nK (ds:tL) (k:BA):Option eY:=if iM k then Af ds (placeOf k) 12 else none
theorem acf {k:BA} (h:mz w X db mb ds) (hk:k.size<=2^62):
  Ct pg 163 #[ptr db 0,.string k] w X nX λv _ _=>v= .tuple #[((nK ds k).getD .zero).v,B (nK ds k).isSome]:=by
 intro w0 iq;replace h:=h.mv iq.cd;have br:=h.row;refine Qg.1 λhs=>?_;by_cases hg:iM k=true
 ·have hR:nK ds k=Af ds (placeOf k) 12:=by unfold nK;rw[if_pos hg]
  rw[hR];clear hR;generalize asC:Af ds (placeOf k) 12=R12;repeat' first|refine ao ?_;intros|(refine kn (lz _) hs ?_ ?_<;>intro _ w X hs)|(refine pH (JI _ (by first|assumption|omega)) hs ?_;intro w X hs)|(exfalso;simp_all;done)
  refine gO (λn a b w X=> ∃j:Nat,a=I (j:Nat)/\b=eY.zero.v/\n=j/\j<=12/\ai (bN w0) w0 X w/\R12=Af ds (placeOf k) j) 12 ⟨12,rfl,rfl,rfl,by omega,hs,asC.symm⟩ ?_;clear hs;rintro n _ _ w X ⟨j,rfl,rfl,rfl,hj,hs,hw⟩;cases n with
  |zero=>
   repeat' first|refine aL ?_;intros|(refine qr ?_;intro wa hk;(rw[hw];rfl))
  |succ j=>
   rw[Af] at hw;repeat' refine aL ?_;intros
   refine Ga (kt:=3) (et:=48) eY.zero.v (h.mv hs.mv).map Bc kQ kQ (λv r hg hv=>?_) (λhg=>?_)
   ·simp only[JP] at hv;subst hv;rw[hg] at hw;simp only at hw;change R12=if((Kv (placeOf k) r.lo||pK (placeOf k) r.lo)&&qB (placeOf k) r.hi)=true then some r else Af ds (placeOf k) j at hw
    by_cases gu:((Kv (placeOf k) r.lo||pK (placeOf k) r.lo)&&qB (placeOf k) r.hi)=true
    ·rw[if_pos gu] at hw;repeat' first|refine ao ?_;intros|with_reducible apply cJ|(refine kn (JF _ _) hs ?_ ?_<;>intro _ w X hs)|(exfalso;simp_all;done)|(refine qr ?_;intro wa hk;(rw[hw];rfl))
    ·rw[if_neg gu] at hw;repeat' first|refine ao ?_;intros|with_reducible apply cJ|(refine kn (JF _ _) hs ?_ ?_<;>intro _ w X hs)|(exfalso;simp_all;done)|(with_reducible refine fZ j ?_ ?_);omega;exact⟨j,by congr 1;omega,rfl,rfl,by omega,hs,hw⟩
   ·rw[hg] at hw;repeat' first|refine ao ?_;intros|with_reducible apply cJ|(with_reducible refine fZ j ?_ ?_);omega;exact⟨j,by congr 1;omega,rfl,rfl,by omega,hs,hw⟩
 ·have hR:nK ds k=none:=by unfold nK;rw[if_neg hg]
  rw[hR];repeat' first|refine ao ?_;intros|(refine kn (lz _) hs ?_ ?_<;>intro _ w X hs)|(refine pH (JI _ (by first|assumption|omega)) hs ?_;intro w X hs)|(exfalso;simp_all;done)|(refine qr ?_;intro wa hk;rfl)
open Go.Maps Go.Shelf Go.Proofs
abbrev Bd:Int->Value:=λz=>I z
theorem aaU {kt:Nat} {es:List (jy Int)} (h:mB w X b Bd es c) (hk:P.underlying kt=some (.int .i64)) (hs: ∀x∈es,-(2^63)<=x.1/\x.1<2^63) (hl:es.length<=2^40):
  ∃D0:DataW Unit,w.ownsMap P kt RT b es.length D0/\Maps.size D0=es.length/\(intKeys D0).Perm (es.map λx=>x.1):=by
 have HY:(2:Nat)^40<=maxLen:=by decide
 have kE: ∀x∈es,keyOf P kt (Bd x.1)=some (.int .i64 x.1):=λx hx=>by
  unfold keyOf mapKey;rw[hk];have:=hs x hx;have h1:IntKind.i64.min= -(2^63):=by decide
  simp[Bd,Lit.wf,h1];omega
 have jB: ∀x∈es,sh P kt RT (lL Bd x)=some (.int .i64 x.1,.lit (.bool true)):=λx hx=>by
  unfold sh lL RT;simp[kE x hx]
 have ajT:(es.map (lL Bd)).map (mU P kt RT)=es.map λx=>((.int .i64 x.1:Lit),(.lit (.bool true):DataW Unit)):=by
  rw[bw];apply List.map_congr_left;intro x hx;simp only[Function.comp,mU,jB x hx,B8]
 refine⟨.map (((es.map (lL Bd)).map (mU P kt RT)).foldr DataW.insert []),⟨_,c,h.2.1,⟨?_,⟨?_,?_,?_⟩,?_⟩,by simp,by simp⟩,?_,?_⟩
 ·simpa using ad hl HY
 ·intro x hx;simp only[cM,List.mem_map] at hx;obtain⟨y,hy,rfl⟩:=hx;exact h.2.2.2.2 y hy
 ·have:=h.2.2.2.1;simpa [bw,jO,lL] using this
 ·have h1:=h.2.2.1;have e:((es.map (lL Bd)).toArray.toList.map (·.key))=(es.map (·.1)).map Bd:=by simp[bw,jO,lL]
  rw[e];exact List.Pairwise.map Bd (λa b xh e=>xh (by cases e;rfl)) h1
 ·intro x hx;simp only[cM,List.mem_map] at hx;obtain⟨y,hy,rfl⟩:=hx;exact⟨_,jB y hy⟩
 ·show bf _=_
  rw[(yI _).length_eq];simp
 ·show(List.map _ _).Perm _
  refine((yI _).map _).trans ?_;rw[ajT,bw];rfl
def pU (ks:List Int):List Int:=ks.mergeSort λx y=>decide (x<=y)
theorem pf (ks:List Int):(pU ks).Perm ks:=List.mergeSort_perm _ _
theorem aaV (ks:List Int):(pU ks).Pairwise λx y=>x<=y:=by
 have:=List.pairwise_mergeSort (le:=λx y:Int=>decide (x<=y)) (λa b c h1 h2=>by grind) (λa b=>by grind) ks;exact this.imp λh=>by grind
theorem SF: ∀{l l':List Int},l.Perm l'->l.Pairwise (λa b=>a<=b)->l'.Pairwise (λa b=>a<=b)->l=l'
 |[],l',hp,_,_=>(List.Perm.nil_eq hp)
 |a::l,[],hp,_,_=>absurd hp.length_eq sQ
 |a::l,b::l',hp,h1,h2=>by
  have La:=List.pairwise_cons.1 h1;have h2':=List.pairwise_cons.1 h2;have xh:a=b:=by
   have ha:a∈b::l':=hp.mem_iff.1 sQ;have hb:b∈a::l:=hp.mem_iff.2 sQ;rcases List.mem_cons.1 ha with e|ha
   ·exact e
   ·rcases List.mem_cons.1 hb with e|hb
    ·exact e.symm
    ·have:=La.1 b hb;have:=h2'.1 a ha;omega
  subst xh;rw[SF (List.Perm.cons_inv hp) La.2 h2'.2]
def aj1 {ks ks':List Int} (h:ks.Perm ks'):pU ks=pU ks':=SF (((pf ks).trans h).trans (pf ks').symm) (aaV _) (aaV _)
def aj2 (m:Nat):AnyZI.SortsIn pg Tryz.Pf gg m:=
  ⟨λcU off cap ss W hH hblk gf=>callsIn_wide.2 (AnyM.slices_Sort_int Tryz.akM cU off cap ss W hH hblk gf),
   λp cap W=>callsIn_wide.2 (AnyM.slices_Sort_int_none Tryz.akM p cap W)⟩
theorem ahm {g:FuncId} {lb:Array Value} {α:Type} {rd:World->XS->Value->α->Prop} {l:List (Int×α)} (h:dL w X A mb Bd rd l) (eg:enters pg g=true)
  (hs: ∀x∈l,-(2^63)<=x.1/\x.1<2^63) (hl:l.length<=2^40)
  (hg: ∀wa,Kp X w wa-> ∀(nn:Nat) (D0:DataW Unit),wa.ownsMap pg 3 RT mb nn D0->SeqGives gg 2 pg g lb encZ (λss=>ss.Perm (intKeys D0)) (Maps.size D0) wa):
  Ct pg 120 #[.func (.func g) #[] lb] w X nX λv wa w'=>Own w' (made wa w') wa.heap.size 3 1 v ((pU (l.map (·.1))).map I1):=by
 intro wa hk;obtain⟨es,c,h1,h2⟩:=h;have C6:=h2.keys;have hlen:es.length=l.length:=by have:=congrArg bf C6;simpa using this
 obtain⟨D0,xS,gf,SB⟩:=aaU (P:=pg) (h1.kp hk) (kt:=3) kQ (λx hx=>by
  have:x.1∈l.map (·.1):=by rw[<-C6];exact List.mem_map.2 ⟨x,hx,rfl⟩
  obtain⟨y,hy,e⟩:=List.mem_map.1 this;rw[<-e];exact hs y hy) zQ
 have HY:(2:Nat)^40<=maxLen:=by decide
 have hS:=callsIn_wide.1 (AnyZI.sorted_in Tryz.al2 gg 5 trivial trivial trivial trivial rfl zQ (aj2 _) (λargs w=>pe kQ args w) g lb trivial (λargs w=>pe eg args w) _ _ zQ zQ wa (hg wa hk _ D0 xS));refine hS.mono ?_;rintro e w' ⟨v,ss,rfl,hp,br,aiu,hb⟩;have hx:Ext wa w':=⟨hb.os,hb.tape,hb.output,hb.size,λk ah _=>hb.block k ah⟩;refine⟨v,rfl,hx,?_⟩;have e1:ss.mergeSort (λx y=>decide (x<=y))=pU (l.map (·.1)):=by
  refine aj1 (hp.trans (SB.trans ?_));rw[C6]
 have e2:((ss.mergeSort (λx y=>decide (x<=y))).map encZ)=((pU (l.map (·.1))).map I1).flatten:=by
  rw[e1];have e3: ∀q:List Int,q.map encZ=(q.map I1).flatten:=λq=>by
   induction q with
   |nil=>rfl
   |cons a q ih=>simp only[aZ,cV,<-ih];rfl
  exact e3 _
 have sE:ss.length=((pU (l.map (·.1))).map I1).length:=by
  rw[af,(pf _).length_eq,af,<-hlen];have:=hp.length_eq;rw[this,SB.length_eq,af]
 refine⟨λr hr=>by obtain⟨x,_,rfl⟩:=List.mem_map.1 hr;rfl,?_,λq hq=>⟨?_,?_⟩⟩
 ·rw[<-sE,<-e2];exact br
 ·exact(br.lt _ hq).1
 ·exact(br.lt _ hq).2
theorem ama:Ct pg 164 #[.map (some mb)] w X nX λv wa w'=> ∃bx,v= .func (.func 230) #[] #[ptr bx 0]/\aI w' (made wa w') bx [.map (some mb)] 281:=by
 intro w0 hk;refine tU.1 λhs=>?_;refine uv rfl hs.has λbx w1 X1 fY ay br=>?_;repeat' refine ao ?_;intros
 exact bQ ay λwa aK=>⟨bx,rfl,⟨fY,(br.kp aK).lt⟩,(br.kp aK).2⟩
theorem ahn {bx:Nat} {α:Type} {rd:World->XS->Value->α->Prop} {l:List (Int×α)} (h:dL w X A mb Bd rd l) (hb:aI w X bx [.map (some mb)] 281)
  (hs: ∀x∈l,-(2^63)<=x.1/\x.1<2^63) (hl:l.length<=2^40):
  Ct pg 120 #[.func (.func 230) #[] #[ptr bx 0]] w X nX λv wa w'=>Own w' (made wa w') wa.heap.size 3 1 v ((pU (l.map (·.1))).map I1):=
 ahm h kQ hs hl λwa hk nn D0 xS=>
  AnyZI.keys_gives (ρ:=Tryz.VL) { Tryz.aqk with } gg _ trivial rfl zQ bx mb nn D0 wa (hb.kp hk).lt (by have:=(hb.kp hk).2;simp[World.cell?,this]) xS
abbrev GV:=List BA×Option Nat
abbrev GM:=List (Int×GV)
variable {e lo : Nat} {Y : XS}
def xR (h:Own w X lo e k v rows) (hs: ∀g,v.ownBlock=some g->Y g):Own w Y lo e k v rows:=⟨h.1,h.2.1,hs⟩
def Iy (h:Own w X lo e k v rows) (hm: ∀g,v.ownBlock=some g->Y g/\w'.heap[g]? =w.heap[g]?):Own w' Y lo e k v rows:=
 (xR h (Y:=λg=>v.ownBlock=some g) λg hg=>hg).mv λg hg _=>hm g hg
def aaW {κ α:Type} [DecidableEq κ] {k:κ} {a:α} {l:List (κ×α)} :(k,a)∈cI k a l:=gL ku
theorem SG {κ α:Type} [DecidableEq κ] {k:κ} {a:α} : ∀{l:List (κ×α)} {y:κ×α},y∈l->y.1≠k->y∈cI k a l
 |x::l,y,h,hy=>by
  unfold cI;split
  ·rename_i hx;rcases List.mem_cons.1 h with rfl|h
   ·exact absurd hx hy
   ·exact bS _ h
  ·rcases List.mem_cons.1 h with rfl|h
   ·exact List.mem_cons_self
   ·exact bS _ (SG h hy)
theorem Dn {κ α:Type} [DecidableEq κ] {k:κ} {a:α} : ∀l:List (κ×α),(cI k a l).length<=l.length+1
 |[]=>by simp[cI]
 |x::l=>by
  have:=Dn (k:=k) (a:=a) l;unfold cI;split<;>simp[*]<;>omega
def M9 (lo:Nat) (w:World) (X:XS) (v:Value) (x:GV):Prop:=Own w X lo 9 1 v (x.1.map S1)/\v.ownBlock=x.2
def Ag:qG (M9 lo):=λ_ _ _ _ _ _ h m=>⟨h.1.mv m,h.2⟩
def wF (gm:GM):XS:=λg=> ∃e∈gm,e.2.2=some g
def aaX (gm:GM):Prop:= ∀e∈gm,∀e'∈gm,e.1≠e'.1-> ∀g,e.2.2=some g->e'.2.2≠some g
abbrev sZ:GV:=([],none)
variable {g : Nat} {gm : GM}
theorem JQ {k:Int} (h:((getM k gm).getD sZ).2=some g): ∃x,(k,x)∈gm/\x=(getM k gm).getD sZ:=by
 cases hg:getM k gm with
 |none=>rw[hg] at h;cases h
 |some x=>exact⟨x,gL hg,rfl⟩
variable {sz : Nat}
theorem aaY {k:Int} (h:dL w X A mb Bd (M9 lo) gm) (n: ∀v,M9 lo w A v ((getM k gm).getD sZ)->N v):
  aX pg X w (Instr.lookup 281 (.map (some mb)) (I k) false) N:=by
 refine mZ (kt:=3) (et:=40) (kv:=Bd) (.slice none 0 0) h Bc kQ kQ (λv a hg hv=>n v ?_) (λhg=>n (.slice none 0 0) ?_)
 ·rw[hg];exact hv
 ·rw[hg];exact⟨Own.nil _ _ _ _ _,rfl⟩
theorem aoR {k:Int} (h:mz w X db mb ds) (n:N ((getM k ds).getD .zero).v):aX pg X w (Instr.lookup 222 (.map (some mb)) (I k) false) N:=by
 refine mZ (kt:=3) (et:=48) (kv:=Bd) eY.zero.v h.map Bc kQ kQ (λv a hg hv=>?_) (λhg=>?_)
 ·simp only[JP] at hv;subst hv;rw[hg] at n;exact n
 ·rw[hg] at n;exact n
theorem aaX.put {k:Int} {x:GV} (hn:(gm.map (·.1)).Nodup) (h:aaX gm) (cx: ∀g,wF gm g->g<sz) (hx: ∀g,x.2=some g->((getM k gm).getD sZ).2=some g\/sz<=g):
  aaX (cI k x gm)/\ ∀g,wF (cI k x gm) g->wF gm g\/x.2=some g:=by
 have key: ∀e'∈gm,e'.1≠k-> ∀g,x.2=some g->e'.2.2≠some g:=λe' AY bU g hg rJ=>by
  rcases hx g hg with h1|h1
  ·obtain⟨y,hy,e⟩:=JQ h1;exact h (k,y) hy e' AY (λe=>bU e.symm) g (by rw[e];exact h1) rJ
  ·have:=cx g ⟨e',AY,rJ⟩;omega
 refine⟨λe he e' AY bU g hg=>?_,λg ⟨e,he,hg⟩=>?_⟩
 ·rcases mK hn he with rfl|⟨h1,h2⟩
  ·rcases mK hn AY with rfl|⟨h3,h4⟩
   ·exact absurd rfl bU
   ·exact key e' h3 h4 g hg
  ·rcases mK hn AY with rfl|⟨h3,h4⟩
   ·exact λrJ=>key e h1 h2 g rJ hg
   ·exact h e h1 e' h3 bU g hg
 ·rcases mK hn he with rfl|⟨h1,h2⟩
  ·exact .inr hg
  ·exact .inl ⟨e,h1,hg⟩
def ja (ds:tL):List (Int×List BA)->List BA->List (Int×List BA)×Int
 |m,[]=>(m,0)
 |m,k::r=>if iM k then(match nK ds k with
  |none=>(m,8)
  |some g=>ja ds (if((getM g.id m).getD []).any (λx=>decide (k=x))then m else cI g.id (((getM g.id m).getD [])++[k]) m) r)else(m,10)
structure oN where
 pa:eY
 keys:List BA
def oN.rd (w:World) (X:XS) (l:List Value) (g:oN):Prop:= ∃v,l=g.pa.l++[v]/\Sl w X 1 v (g.keys.map S1)
def oN.mv:GU oN.rd:=λ⟨v,h,h1⟩ m=>⟨v,h,h1.mv m⟩
def mL (ds:tL) (m:List (Int×List BA)):List oN:=(pU (m.map (·.1))).map λid=>⟨(getM id ds).getD .zero,(getM id m).getD []⟩
def Ah (gm:GM):List (Int×List BA):=gm.map λe=>(e.1,e.2.1)
theorem SH (k:Int) (gm:GM):(getM k (Ah gm)).getD []=((getM k gm).getD sZ).1:=by
 rw[Ah,aaJ (λx:GV=>x.1)];cases getM k gm<;>rfl
theorem afA (k:Int) (x:GV) (gm:GM):Ah (cI k x gm)=cI k x.1 (Ah gm):=Qr (λx:GV=>x.1) k x gm
theorem acg (gm:GM):(Ah gm).map (·.1)=gm.map (·.1):=by simp[Ah,bw,jO]
theorem HO {x:Nat} : ∀{n:Nat} {r:eY},Af ds x n=some r-> ∃j:Nat,1<=j/\j<=n/\getM (j:Int) ds=some r/\eY.S4 r x=true
 |0,r,h=>by cases h
 |n+1,r,h=>by
  rw[Af] at h;cases hg:getM ((n+1:Nat):Int) ds with
  |none=>
   rw[hg] at h;obtain⟨j,h1,h2,h3⟩:=HO h;exact⟨j,h1,by omega,h3⟩
  |some q=>
   rw[hg] at h;simp only at h;by_cases hq:eY.S4 q x=true
   ·rw[if_pos hq] at h;cases h;exact⟨n+1,by omega,by omega,hg,hq⟩
   ·rw[if_neg hq] at h;obtain⟨j,h1,h2,h3⟩:=HO h;exact⟨j,h1,by omega,h3⟩
variable {r : eY}
theorem OG {k:BA} (h:nK ds k=some r): ∃j:Nat,1<=j/\j<=12/\getM (j:Int) ds=some r/\eY.S4 r (placeOf k)=true:=by
 unfold nK at h;split at h
 ·exact HO h
 ·cases h
theorem OJ {keys:List BA} (h:mz w X db mb ds) (hW: ∀(i:Int) (r:eY),getM i ds=some r->r.id=i) (ha:Sl w X 1 a (keys.map S1)) (hl:keys.length<=2^30) (gf: ∀k∈keys,k.size<=2^62):
  Ct pg 111 #[ptr db 0,a] w X nX λv wa w'=>if(ja ds [] keys).2≠0 then v= .tuple #[.slice none 0 0,I (ja ds [] keys).2] else∃vl,v= .tuple #[vl,I 0]/\fh w' (made wa w') 5 vl oN.rd (mL ds (ja ds [] keys).1):=by
 intro w0 hk;replace h:=h.mv hk.cd;replace ha:=ha.mv hk.cd;generalize hR:ja ds [] keys=R;refine Qd.1 λhs=>?_;refine rA (kv:=Bd) (M9 w0.heap.size) nX hs.has λgb w1 X1 hgb ay qy=>?_;have Lz:dL w1 X1 (wF []) gb Bd (M9 w0.heap.size) []:=qy.mv Ag (Mv.sub λ_ h=>h) λk h=>h.elim;replace hs:=hs.trans ay;have rT:=ha.mv hs.mv;repeat' refine ao ?_;intros
 refine eI (λn a w X=> ∃(i:Nat) (gm:GM),a=I i/\n=keys.length-i/\i<=keys.length/\ai (bN w0) w0 X w/\dL w X (wF gm) gb Bd (M9 w0.heap.size) gm/\(∀g,wF gm g->X g/\w0.heap.size<=g/\g≠gb)/\aaX gm/\
  (∀e∈gm,1<=e.1/\e.1<=12/\e.2.1.length<=i)/\gm.length<=i/\R=ja ds (Ah gm) (keys.drop i)) keys.length ⟨0,[],rfl,rfl,aq _,hs,Lz,λg ⟨e,he,_⟩=>absurd he sQ,λe he=>absurd he sQ,λe he=>absurd he sQ,au _,hR.symm⟩ ?_
 clear hs ay qy Lz rT hR;rintro n _ w X ⟨i,gm,rfl,rfl,hi,hs,hm,IK,afB,hlen,gY,hw⟩;have rT:=ha.mv hs.mv;rcases dD (keys) i with⟨cx,k,hx,hd⟩|⟨dA,hd⟩
 ·rw[hd,ja] at hw;repeat' first|refine aL ?_;intros|with_reducible apply cJ
  refine rV (lz k) kQ hs.has λw1' X1' ay=>?_;replace hm:=hm.mv Ag ay.mv (ay.gW λg hg=>(IK g hg).1);replace IK: ∀g,wF gm g->X1' g/\w0.heap.size<=g/\g≠gb:=λg hg=>⟨ay.sub g (IK g hg).1,(IK g hg).2⟩;replace hs:=hs.trans ay;clear ay rT;by_cases hg:iM k=true
  ·rw[if_pos hg] at hw;rw[hg];repeat' refine ao ?_;intros
   refine dZ (acf (h.mv hs.mv) (gf k (ax hx))) kQ hs.has λw2 X2 bA=>?_;cases hr:nK ds k with
   |none=>
    rw[hr] at hw;simp only at hw;replace hs:=hs.trans bA;simp only[Option.getD_none,Option.isSome_none];repeat' first|refine ao ?_;intros|(refine qr ?_;intro wa hk;(rw[hw];simp))
   |some r=>
    rw[hr] at hw;simp only at hw;simp only[B8,Option.isSome_some];obtain⟨j,hj1,hj2,hj3,hj4⟩:=OG hr;have Bu:1<=r.id/\r.id<=12:=by have:=hW _ _ hj3;omega
    rw[SH] at hw;have rC:=hm.mv Ag bA.mv (bA.gW λg hg=>(IK g hg).1);have aaZ: ∀g,wF gm g->X2 g/\w0.heap.size<=g/\g≠gb:=λg hg=>⟨bA.sub g (IK g hg).1,(IK g hg).2⟩;clear hm IK;replace hs:=hs.trans bA;clear bA;repeat' refine ao ?_;intros
    refine aaY rC λv hv=>?_;have nB:(((getM r.id gm).getD sZ).1).length<=i:=by
     cases Ku:getM r.id gm with
     |none=>simp
     |some x=>exact(hlen _ (gL Ku)).2.2
    have GZ:=hv.1.mono λg hg=>(aaZ g hg).1;refine dZ (vJ GZ.sl) kQ hs.has λw3 X3 dm=>?_;have qx:=rC.mv Ag dm.mv (dm.gW λg hg=>(aaZ g hg).1);have pP: ∀g,wF gm g->X3 g/\w0.heap.size<=g/\g≠gb:=λg hg=>⟨dm.sub g (aaZ g hg).1,(aaZ g hg).2⟩;clear rC aaZ hv GZ;replace hs:=hs.trans dm;clear dm;by_cases hc:(((getM r.id gm).getD sZ).1.any λx=>decide (k=x))=true
    ·rw[if_pos hc] at hw;rw[hc];repeat' first|refine ao ?_;intros|((with_reducible refine dS ((keys).length-(i+1)) ?_ ?_);omega;exact⟨i+1,gm,by simp,rfl,by omega,hs,qx,pP,afB,λe he=>by have:=hlen e he;omega,by omega,hw⟩)
    ·rw[if_neg hc] at hw;rw[Bool.eq_false_iff.2 hc];repeat' refine ao ?_;intros
     refine aaY qx λv hv=>?_;have GZ:=hv.1.mono λg hg=>(pP g hg).1;have Ub: ∀g,wF gm g->g<w3.heap.size:=λg hg=>hs.has g (pP g hg).1;have afC:=hs;have K7: ∀{w3':World} {X3':XS} {s:Value},ai X3 w3 X3' w3'->Sl w3' X3' 1 s [[.string k]]->
       eV pg (vi nX w0 λv w'=>if R.snd≠0 then v=dh #[tG none 0 0,I R.snd] else∃vl,v=dh #[vl,I 0]/\fh w' (made w0 w') 5 vl oN.rd (mL ds R.fst)) X3' w3' true (ru 40 9 1 16 40 v s) λx48 asD asE=>
        eU pg (vi nX w0 λv w'=>if R.snd≠0 then v=dh #[tG none 0 0,I R.snd] else∃vl,v=dh #[vl,I 0]/\fh w' (made w0 w') 5 vl oN.rd (mL ds R.fst)) asE asD true (cH 281 (.map (some gb)) (I r.id) x48) λx aoS aoT=>
         aX pg aoT aoS (binOp .add 3 (I i) (I 1)) λx49=>Gz (J1 λn a w X=> ∃(i:Nat) (gm:GM),a=I i/\n=keys.length-i/\i<=keys.length/\ai (bN w0) w0 X w/\dL w X (wF gm) gb Bd (M9 w0.heap.size) gm/\(∀g,wF gm g->X g/\w0.heap.size<=g/\g≠gb)/\aaX gm/\
          (∀e∈gm,1<=e.1/\e.1<=12/\e.2.1.length<=i)/\gm.length<=i/\R=ja ds (Ah gm) (keys.drop i)) (keys.length-i) x49 aoS aoT:=λ{w3'} {X3'} {s} hsx mX=>by
      have asF:=qx.mv Ag hsx.mv (hsx.gW λg hg=>(pP g hg).1);have H3:M9 w0.heap.size w3' (wF gm) v ((getM r.id gm).getD sZ):=Ag _ _ _ _ _ _ hv (hsx.gW λg hg=>(pP g hg).1);have aqo: ∀g,wF gm g->X3' g/\w0.heap.size<=g/\g≠gb:=λg hg=>⟨hsx.sub g (pP g hg).1,(pP g hg).2⟩;have aqp: ∀g,wF gm g->g<w3'.heap.size:=λg hg=>aw (Ub g hg) hsx.kp.size;replace GZ:=GZ.since hsx;have akO:=hs.trans hsx;clear qx hv pP Ub hs;have qx:=asF;have hv:=H3;have pP:=aqo;have Ub:=aqp;have hs:=akO;refine qu (bytes:=16) (X0:=bN w0) GZ hs (λ_ h=>h) kQ mX (by simp[aJ.one]) (by simp only[af,bH];omega) (by simp only[af,bH];omega) λv4 w4 X4 fV GI Fw asG=>?_;have hx4: ∀g,v4.ownBlock=some g->((getM r.id gm).getD sZ).2=some g\/w3'.heap.size<=g:=λg hg=>by
       rcases asG with e|⟨g',e,dA⟩
       ·left;rw[<-hv.2,<-e,hg]
       ·right;rw[e] at hg;cases hg;exact dA
      have E6:=afB.put (k:=r.id) (x:=((((getM r.id gm).getD sZ).1++[k]),v4.ownBlock)) qx.nodup Ub hx4;have hblk: ∀g,cU v g->wF gm g:=λg hg=>by
       have hg:v.ownBlock=some g:=hg;rw[hv.2] at hg;obtain⟨y,hy,e⟩:=JQ hg;exact⟨_,hy,by rw[e];exact hg⟩
      have hva:M9 w0.heap.size w4 (λg=>v4.ownBlock=some g) v4 ((((getM r.id gm).getD sZ).1++[k]),v4.ownBlock):=⟨Go.Proofs.YtgfijddlkhkopaaGreat.xR (by simpa using GI) λg hg=>hg,rfl⟩;have HY:ae8 w4 X4 (wF (cI r.id ((((getM r.id gm).getD sZ).1++[k]),v4.ownBlock) gm)) gb Bd (M9 w0.heap.size) r.id gm:=dL.toX qx (λg hg _=>by
        have hg:g=gb:=hg;subst hg;exact⟨Fw.sub _ qx.x.1,Fw.block _ qx.x.1 λh=>(pP _ (hblk _ h)).2.2 rfl⟩) λy u hy bU jB=>⟨Iy jB.1 λg hg=>⟨⟨y,SG hy bU,jB.2.symm.trans hg⟩,Fw.block g (pP g ⟨y,hy,jB.2.symm.trans hg⟩).1 λh=>by
       have h:v.ownBlock=some g:=h;rw[hv.2] at h;obtain⟨q,hq,e⟩:=JQ h;exact afB _ hq y hy (λe'=>bU e'.symm) g (by rw[e];exact h) (jB.2.symm.trans hg)⟩,jB.2⟩
      have aoU:M9 w0.heap.size w4 (wF (cI r.id ((((getM r.id gm).getD sZ).1++[k]),v4.ownBlock) gm)) v4 ((((getM r.id gm).getD sZ).1++[k]),v4.ownBlock):=⟨hva.1.mono λg hg=>⟨_,aaW,hg⟩,rfl⟩;have afD: ∀g,wF (cI r.id ((((getM r.id gm).getD sZ).1++[k]),v4.ownBlock) gm) g->X4 g/\w0.heap.size<=g/\g≠gb:=λg hg=>by
       rcases E6.2 g hg with h1|h1
       ·exact⟨Fw.sub g (pP g h1).1,(pP g h1).2⟩
       ·have h1:v4.ownBlock=some g:=h1;refine⟨GI.2.2 g h1,(GI.ge h1).1,λe=>?_⟩;rcases hx4 g h1 with h2|h2
        ·obtain⟨y,hy,e'⟩:=JQ h2;exact(pP g ⟨_,hy,by rw[e'];exact h2⟩).2.2 e
        ·have:=qx.x.2;omega
      refine agU (k:=r.id) (kv:=Bd) (kt:=3) (et:=40) HY Ag aoU (λg hg=>⟨(afD g hg).1,(afD g hg).2.2⟩) Bc kQ fV.has λw5 X5 Fm xV=>?_;have tq:ai (bN w0) w0 X5 w5:=fV.ea Fm λg hg e=>by have:g<w0.heap.size:=hg;omega
      have asH: ∀g,wF (cI r.id ((((getM r.id gm).getD sZ).1++[k]),v4.ownBlock) gm) g->X5 g/\w0.heap.size<=g/\g≠gb:=λg hg=>⟨Fm.sub g (afD g hg).1,(afD g hg).2⟩;have aqq: ∀e∈cI r.id ((((getM r.id gm).getD sZ).1++[k]),v4.ownBlock) gm,1<=e.1/\e.1<=12/\e.2.1.length<=i+1:=λe he=>by
       rcases mK qx.nodup he with rfl|⟨h1,_⟩
       ·exact⟨Bu.1,Bu.2,by simp only[aa,bH];omega⟩
       ·have:=hlen e h1;omega
      have auf:=Dn (k:=r.id) (a:=((((getM r.id gm).getD sZ).1++[k]),v4.ownBlock)) gm;have hw5:R=ja ds (Ah (cI r.id ((((getM r.id gm).getD sZ).1++[k]),v4.ownBlock) gm)) (keys.drop (i+1)):=by rw[afA];exact hw
      clear hs afC akO hv GZ hva aoU HY qx pP Ub GI fV;repeat' first|refine ao ?_;intros|((with_reducible refine dS ((keys).length-(i+1)) ?_ ?_);omega;exact⟨i+1,_,by simp,rfl,by omega,tq,xV,asH,E6.1,aqq,by omega,hw5⟩)
     clear qx pP Ub afC;repeat' first|(exact K7 (ay.less λ_ h=>h) ho.sl)|(with_reducible apply Yd);(case hX=>exact hs.has);(case he=>kernel_rfl);(case ho=>first|rfl|assumption);(case hk=>rfl);intro acc w X ay ho|(refine And.intro ?_ ?_)
  ·rw[if_neg hg] at hw;rw[show iM k=false by simpa using hg];repeat' first|refine ao ?_;intros|(refine qr ?_;intro wa hk;(rw[hw];simp))
 ·rw[hd,ja] at hw;rw[hw];repeat' refine aL ?_;intros
  refine cA ama kQ hs.has ?_;rintro _ wa w2 X2 ⟨bx,rfl,hb⟩ hle gu bA;have rC:=hm.mv Ag bA.mv (bA.gW λg hg=>(IK g hg).1);have M6:=hs.trans bA;refine cA (ahn rC (hb.mono gu) (λe he=>by have:=hlen e he;omega) (by have:bf gm<=i:=gY;omega)) kQ M6.has ?_;rintro vs wb w3 X3 ho qS mN dm;have qx:=rC.mv Ag dm.mv (dm.gW λg hg=>bA.sub g (IK g hg).1);have pP: ∀g,wF gm g->X3 g/\w0.heap.size<=g:=λg hg=>⟨dm.sub g (bA.sub g (IK g hg).1),(IK g hg).2.1⟩;have hsB:=M6.trans dm;have xp:Own w3 X3 w0.heap.size 3 1 vs ((pU (gm.map (·.1))).map I1):=ho.up mN (by have:=M6.kp.size;omega);have YJ:(pU (gm.map (·.1))).length=gm.length:=by rw[(pf _).length_eq,af]
  rw[show mL ds (Ah gm,(0:Int)).1=(pU (gm.map (·.1))).map λid=>(⟨(getM id ds).getD .zero,((getM id gm).getD sZ).1⟩:oN)by simp only[mL,acg,SH]];generalize pU (gm.map (·.1))=ids at xp YJ⊢;clear hs bA dm M6 hm rC ho hb IK rT;have hs:=hsB;have mX:=xp.sl;have asI:bf gm<=i:=gY;repeat' refine ao ?_;intros
  have hlN:ids.length<=2^30:=by omega
  clear dA hd hw hlen gY afB hi asI;refine gO (λn a b w X=> ∃(j:Nat) (rows:List (List Value)),a=I j/\n=ids.length-j/\j<=ids.length/\ai (bN w0) w0 X w/\Own w X w0.heap.size 140 5 b rows/\rows.length=j/\(∀g,X3 g->X g/\w.heap[g]? =w3.heap[g]?)/\(∀g,b.ownBlock=some g-> ¬X3 g)/\
   ∀(q:Nat) (r:List Value),rows[q]? =some r-> ∃id v,ids[q]? =some id/\r=((getM id ds).getD .zero).l++[v]/\Sl w (wF gm) 1 v (((getM id gm).getD sZ).1.map S1)) ids.length
   ⟨0,[],rfl,rfl,aq _,hs,Own.nil _ _ _ _ _,rfl,λg hg=>⟨hg,rfl⟩,nofun,λq r hr=>?_⟩ ?_
  ·cases hr
  clear hs;rintro n _ b w X ⟨j,rows,rfl,rfl,hj,hs,ze,rq,Na,lV,Df⟩;have aoV: ∀{Y:XS},(∀g,Y g->X3 g)->Mv Y w3 X w:=λhY g hg _=>Na g (hY g hg);have CB:=xp.sl.mv (aoV λg hg=>hg);have EE:=h.row.mv hs.mv;rcases dD ids j with⟨cx,id,hx,hd⟩|⟨dA,hd⟩
  ·repeat' refine aL ?_;intros
   refine aoR (h.mv hs.mv) ?_;refine aaY (qx.mv Ag (aoV λg hg=>hg) λg hg _=>⟨hg,(Na g (pP g hg).1).2⟩) λv hv=>?_;obtain⟨vb,vn,vc,rfl⟩:=hv.1.sl.form;have ov:aJ.one (.slice vb vn vc)=true:=rfl;repeat' first|refine ao ?_;intros|(with_reducible apply Q7);(case hX=>exact hs.has);(case he=>kernel_rfl);(case hk=>rfl);intro acc w X ay ho;obtain⟨_,_,_,rfl⟩:=ho.sl.form;replace hs:=hs.trans ay
   refine qu (bytes:=56) (X0:=bN w0) (ze.since ay) hs (λ_ h=>h) kQ ho.sl (λr hr u hu=>?_) (by simp only[bH];omega) (by simp only[bH];omega) λv5 w5 X5 tq uC Fm wN=>?_
   ·rw[av] at hr;subst hr;simp only[List.mem_cons,dI,or_false] at hu;rcases hu with rfl|rfl|rfl|rfl|rfl<;>first|rfl|exact ov
   have afE: ∀g,X3 g->X5 g/\w5.heap[g]? =w3.heap[g]? :=λg hg=>⟨Fm.sub g (ay.sub g (Na g hg).1),(Fm.block g (ay.sub g (Na g hg).1) λe=>lV g e hg).trans ((ay.kp.block g (Na g hg).1).trans (Na g hg).2)⟩;have asJ: ∀g,v5.ownBlock=some g-> ¬X3 g:=λg hg hx3=>by
    rcases wN with e|⟨g',e,dA⟩
    ·exact lV g (e▸hg) hx3
    ·rw[e] at hg;cases hg;have:=ay.has g (ay.sub g (Na g hx3).1);omega
   have Dz: ∀(q:Nat) (r:List Value),(rows++[((getM id ds).getD .zero).l++[.slice vb vn vc]])[q]? =some r-> ∃id v,ids[q]? =some id/\r=((getM id ds).getD .zero).l++[v]/\Sl w5 (wF gm) 1 v (((getM id gm).getD sZ).1.map S1):=λq r hr=>by
    have xV: ∀{u:Value} {rs:List (List Value)},Sl w3 (wF gm) 1 u rs->Sl w5 (wF gm) 1 u rs:=λh=>h.mv λg hg _=>⟨hg,(afE g (pP g hg).1).2⟩;rcases Nat.lt_trichotomy q rows.length with hq|hq|hq
    ·rw[List.getElem?_append_left hq] at hr;obtain⟨id',v',e1,e2,e3⟩:=Df q r hr;exact⟨id',v',e1,e2,e3.mv λg hg _=>⟨hg,(afE g (pP g hg).1).2.trans (Na g (pP g hg).1).2.symm⟩⟩
    ·subst hq;rw[cQ (au _)] at hr;simp only[Nat.sub_self,List.getElem?_cons_zero,aj] at hr;exact⟨id,_,by rw[rq];exact hx,hr.symm,hv.1.sl.mv λg hg _=>⟨hg,(afE g (pP g hg).1).2.trans (Na g (pP g hg).1).2.symm⟩⟩
    ·rw[List.getElem?_eq_none oQ] at hr;cases hr
   replace hs:=tq;repeat' first|refine ao ?_;intros|((with_reducible refine fZ (ids.length-(j+1)) ?_ ?_);omega;exact⟨j+1,_,by simp,rfl,by omega,tq,uC,by simp;omega,afE,asJ,Dz⟩)
  ·repeat' refine aL ?_;intros
   refine bQ hs λIi aK=>?_;simp only[ne_eq,not_true_eq_false,if_false];refine⟨b,rfl,rows,(ze.kp aK).tight.sl,by rw[af];omega,λq r g hr hg=>?_⟩;obtain⟨id,v,e1,e2,e3⟩:=Df q r hr;rw[List.getElem?_map,e1] at hg;cases hg;exact⟨v,e2,e3.mv λg hg _=>⟨⟨(pP g hg).2,aw (hs.has g (Na g (pP g hg).1).1) aK.size⟩,aK.block g (Na g (pP g hg).1).1⟩⟩
theorem amb {t:Nat} (h:Own w Y lo e k v rows) (hz:z=i) (hi:i<=rows.length) (ht:pg.underlying t=some (.slice (pg.elem t))) (hs:((pg.info? (pg.elem t)).map (·.size)).isSome=true)
  (n: ∀v',Own w Y lo e k v' (rows.take i)->N v'):aX pg X w (Instr.sliceAt t v none (some (.int .i64 z)) none) N:=by
 rcases h.row with⟨rfl,rfl⟩|⟨g,cap,cs,rfl,gy,br,pV,iH,pz,vj⟩
 ·have h0:i=0:=by simpa using hi
  subst h0;exact LA hz (au _) ht hs (n _ (Own.nil _ _ _ _ _))
 ·have hr: ∀r∈rows,r.length=k:=h.1;refine LA hz zQ ht hs (n _ (Own.H9 (n:=i) br gy (λr jU=>hr r (dc jU)) (by rw[aD];omega) zQ iH pz ?_));have h1:=congrArg (List.take (i*k)) vj;rw[List.take_take,Nat.min_eq_left (Nat.mul_le_mul_right k hi)] at h1;rw[h1];have LB:rows.flatten=(rows.take i).flatten++(rows.drop i).flatten:=by rw[<-dR,eo]
  have hl:((rows.take i).flatten).length=i*k:=by rw[lS (k:=k) λr jU=>hr r (dc jU),aD,Nat.min_eq_left hi]
  rw[LB,List.take_append_of_le_length zQ,aB zQ]
theorem ac9 (h:Own w X lo e k v rows) (hg:v.ownBlock=some g): ∃cs:List Value,w.heap[g]? =some (.cells cs.toArray e (0,0)):=by
 rcases h.row with⟨rfl,_⟩|⟨b,cap,cs,rfl,_,hr,_⟩
 ·cases hg
 ·simp only[Value.ownBlock,aj] at hg;subst hg;exact⟨cs,hr.2⟩
theorem aho {κ α:Type} [DecidableEq κ] {kv:κ->Value} {rd:World->XS->Value->α->Prop} {l:List (κ×α)} (h:Own w X lo e k v rows) (hm:dL w Y A b kv rd l):v.ownBlock≠some b:=λhg=>by
 obtain⟨cs,h1⟩:=ac9 h hg;obtain⟨es,c,h2,_⟩:=hm;rw[h2.2.1] at h1;cases h1
variable {cs : List Value}
theorem GQ {e':Nat} (h:Own w X lo e k v rows) (hr:aI w Y g cs e') (he:decide (e≠e')=true):v.ownBlock≠some g:=λhg=>by
 obtain⟨c,h1⟩:=ac9 h hg;rw[hr.2] at h1;simp only[aj,Obj.cells.injEq] at h1;exact of_decide_eq_true he h1.2.1.symm
def nv:World->XS->Value->gK->Prop:=λ_ _ v x=>v=x.v
def kI:qG nv:=λ_ _ _ _ _ _ h _=>h
abbrev runT:Nat:=295
abbrev aoW:Nat:=97
structure iw (w:World) (N:XS) (rb sb wb:Nat) (xG:Value) (s:List gK) (wr:List (BA×gK)):Prop where
 row:aI w N rb [xG,.map (some sb),.map (some wb)] runT
 own:Own w N 0 aoW 3 xG (s.reverse.map gK.l)
 map:dL w N nX wb Value.string nv wr
variable {sb wb : Nat}
section
variable {N N' G : XS} {rb : Nat} {xG oG : Value} {s s' : List gK} {wr oU : List (BA × gK)}
def iw.mv (h:iw w N rb sb wb xG s wr) (v:Mv N w N' w'):iw w' N' rb sb wb xG s wr:=⟨h.row.mv v,h.own.mv v,h.map.mv kI v λ_ h=>h.elim⟩
theorem iw.ne (h:iw w N rb sb wb xG s wr):wb≠rb:=h.map.eT h.row
def iw.ns (h:iw w N rb sb wb xG s wr):xG.ownBlock≠some rb/\xG.ownBlock≠some wb:=⟨GQ h.own h.row kQ,aho h.own h.map⟩
theorem me {κ α:Type} [DecidableEq κ] {kv:κ->Value} {rd:World->XS->Value->α->Prop} {l:List (κ×α)} (h:dL w X A b kv rd l) (hb:Y b):dL w Y A b kv rd l:=by
 obtain⟨es,c,h1,h2⟩:=h;exact⟨es,c,⟨hb,h1.2⟩,h2⟩
theorem Nb {v:gK} (h:iw w N rb sb wb xG (v::s) wr) (hN:FX N X w):Ct pg 236 #[ptr rb 0] w X N λx wa w'=>x=v.v/\ ∃oG,iw w' N rb sb wb oG s wr:=by
 intro w0 hk;have hT:=hN.ft hk;replace h:=h.mv (hN.mv hk);have KC:=hN.kp hk;have br:=h.row.mono λk ah=>(KC k ah).1;have mX:=(h.own.mono λk ah=>(KC k ah).1).sl;rw[uV] at mX;have hv:(s.reverse++[v])[s.reverse.length]? =some v:=by rw[cQ (au _)];simp
 have hlen:=mX.gN;simp only[aa,sY,bH] at hlen;have xP:(s.reverse++[v]).length=s.length+1:=by simp
 have hl3:s.reverse.length=s.length:=by simp
 obtain⟨q1,q2,q3,rfl⟩:=mX.form;refine Sp.1 λ_=>?_;repeat' refine ao ?_;intros
 have ho:=h.own;rw[uV] at ho;refine amb (i:=s.length) ho zQ (by rw[af];omega) kQ kQ λv2 jV=>?_;rw[<-List.map_take,ik hl3] at jV;obtain⟨t1,t2,t3,rfl⟩:=jV.sl.form;have ov2:aJ.one (.slice t1 t2 t3)=true:=rfl;repeat' refine ao ?_;intros
 refine pW (o:=0) br zQ kQ sQ rfl hT.s.has λw1 X1 c1 asK=>?_;have eh:=hT.ea (F':=N) c1 (λk ah=>by subst ah;exact h.row.1) λk ah=>.inl ah;have bU:=GQ jV h.row kQ;have h1:iw w1 N rb sb wb (.slice t1 t2 t3) s wr:=⟨⟨h.row.1,asK.2⟩,Iy jV λg hg=>⟨jV.2.2 g hg,c1.block g (KC g (jV.2.2 g hg)).1 λe=>bU (by rw[<-e];exact hg)⟩,
  (me h.map (Y:=(· =wb)) rfl).mv kI (λg hg _=>by subst hg;exact⟨h.map.x.1,c1.block _ (KC _ h.map.x.1).1 h.ne⟩) λ_ h=>h.elim⟩
 repeat' refine ao ?_;intros
 exact eh.fin λwa aK=>⟨rfl,_,h1.mv (aK.je eh.bo)⟩
theorem JR {v:gK} (h:iw w N rb sb wb xG s wr) (hN:FX N X w) (hl:s.length<=2^30):Ct pg 234 #[ptr rb 0,v.v] w X N λ_ wa w'=> ∃N' oG,(∀k,N' k->N k\/made wa w' k)/\iw w' N' rb sb wb oG (v::s) wr:=by
 intro w0 hk;have hT:=hN.ft hk;replace h:=h.mv (hN.mv hk);have KC:=hN.kp hk;have br:=h.row.mono λk ah=>(KC k ah).1;have hs:=ai.init w0;refine Qh.1 λ_=>?_;repeat' first|refine ao ?_;intros|(with_reducible apply Q7);(case hX=>exact hs.has);(case he=>kernel_rfl);(case hk=>rfl);intro acc w X ay ho;obtain⟨_,_,_,rfl⟩:=ho.sl.form;replace hs:=hs.trans ay
 have eh:=hT.since ay;have asL:=ay.gW λk ah=>(KC k ah).1;have h1:=h.mv asL;refine EV (bytes:=32) (h1.own.mono λk ah=>ay.sub k (KC k ah).1) ay.has (aq _) kQ ho.sl (λr hr u hu=>?_) (by simp only[bH,af,sY];omega) (by simp only[bH,af,sY];omega) λv5 w5 X5 Fm uC wN=>?_
 ·rw[av] at hr;subst hr;simp only[List.mem_cons,dI,or_false] at hu;rcases hu with rfl|rfl|rfl<;>rfl
 obtain⟨t1,t2,t3,rfl⟩:=uC.sl.form;have YD:=h1.ns;have afF:aI w5 X5 rb [xG,.map (some sb),.map (some wb)] runT:=⟨Fm.sub _ (ay.sub _ br.1),(Fm.block rb (ay.sub _ br.1) λe=>YD.1 e).trans h1.row.2⟩;have aoX: ∀k,k=wb->X k:=λk e=>by subst e;exact ay.sub _ (KC _ h.map.x.1).1
 have aqr:dL w5 (· =wb) nX wb Value.string nv wr:=(me h1.map (Y:=(· =wb)) rfl).mv kI (λg hg _=>⟨hg,Fm.block g (aoX g hg) λe=>by subst hg;exact YD.2 e⟩) λ_ h=>h.elim;have iO:=eh.ea (F':=λk=>N k\/(tG t1 t2 t3).ownBlock=some k) Fm (λk ah=>h1.own.2.2 k ah) λk ah=>by
  rcases ah with ah|ah
  ·exact .inl ah
  ·rcases wN with e|⟨g,e,dA⟩
   ·exact .inl (h1.own.2.2 k (by rw[<-e];exact ah))
   ·rw[e] at ah;cases ah;exact .inr ⟨uC.2.2 _ e,dA⟩
 clear hs ay ho;repeat' refine ao ?_;intros
 refine pW (o:=0) afF zQ kQ sQ rfl iO.s.has λw6 X6 c6 BJ=>?_;have asM:=GQ uC afF kQ;have kj:=iO.ea (F':=λk=>N k\/(tG t1 t2 t3).ownBlock=some k) c6 (λk ah=>.inl (by subst ah;exact h.row.1)) λk ah=>.inl ah;have asN:Own w5 X5 0 aoW 3 (.slice t1 t2 t3) ((v::s).reverse.map gK.l):=by rw[uV,az];exact uC
 have h6:iw w6 (λk=>N k\/(tG t1 t2 t3).ownBlock=some k) rb sb wb (.slice t1 t2 t3) (v::s) wr:=⟨⟨.inl h.row.1,BJ.2⟩,Iy asN λg hg=>⟨.inr hg,c6.block g (uC.2.2 g hg) λe=>asM (by rw[<-e];exact hg)⟩,
  (me aqr (Y:=(· =wb)) rfl).mv kI (λg hg _=>by subst hg;exact⟨.inl h.map.x.1,c6.block _ (Fm.sub _ (aoX _ rfl)) h1.ne⟩) λ_ h=>h.elim⟩
 skip
 exact kj.fin λwa aK=>⟨_,_,kj.jz aK λ_ h=>h,h6.mv (aK.je kj.bo)⟩
def zJ (c:Int) (a b:gK):Except Int (List gK):=
 if c=11 then .ok [aaQ (decide (T9 a b<0))] else if c=12 then .ok [aaQ (decide (T9 a b=0))] else if c=15 then .ok [a,b]
 else if a.kind=2\/b.kind=2 then .error 23 else .ok [aaP (Ua c a.num b.num)]
theorem ahp {c:Int} {a b:gK} (h:iw w N rb sb wb xG (b::a::s) wr) (hN:FX N X w) (hl:s.length<=2^20):
  FB pg 238 #[ptr rb 0,I c] w X N (λ_ wa w'=> ∃l N' oG,zJ c a b= .ok l/\(∀k,N' k->N k\/made wa w' k)/\iw w' N' rb sb wb oG (l++s) wr) (λch _ _=> ∃e,zJ c a b= .error e/\ch=wh e):=by
 intro w0 hk;have hT:=hN.ft hk;replace h:=h.mv (hN.mv hk);refine Sq.1 λ_=>?_;refine hT.call (Nb h (hN.kp hk)) kQ (λ_ h=>h) λv Ej w1 X1 hq qf nJ eh c1=>?_;obtain⟨rfl,aj3,h1⟩:=hq;have hN1:FX N X1 w1:=λk ah=>⟨eh.bo k (.inl ah),c1.has k (eh.bo k (.inl ah))⟩;replace eh:=eh.less (F':=N) λk ah=>.inl ah;have hs:=ai.fK c1.has;repeat' refine ao ?_;intros
 refine eh.call (Nb h1 hN1) kQ (λ_ h=>h) λv xQ w2 X2 hq lD kh cX c2=>?_;obtain⟨rfl,aoY,h2⟩:=hq;have Rf:FX N X2 w2:=λk ah=>⟨cX.bo k (.inl ah),c2.has k (cX.bo k (.inl ah))⟩;replace cX:=cX.less (F':=N) λk ah=>.inl ah;clear hs h1 h;have hs:=ai.fK c2.has;have ER: ∀{w3:World} {X3:XS} {N3:XS} {s3:List gK} {v:gK} {AS:Value} {K:Value->World->XS->Prop},Ft w0 N w3 X3 N3->iw w3 N3 rb sb wb AS s3 wr->s3.length<=2^30->
   (∀x w4 X4 N4 HP,Ft w0 N w4 X4 N4->iw w4 N4 rb sb wb HP (v::s3) wr->K x w4 X4)->eC pg (FC N w0 (λ_ w'=> ∃l N' oG,zJ c a b= .ok l/\(∀k,N' k->N k\/made w0 w' k)/\iw w' N' rb sb wb oG (l++s) wr) (λch _=> ∃e,zJ c a b= .error e/\ch=wh e)) X3 w3 true 234 #[ptr rb 0,v.v] K:=λq1 q2 q3 k=>by
  refine q1.call (JR q2 (λk ah=>⟨q1.bo k ah,q1.s.has k (q1.bo k ah)⟩) q3) kQ (λ_ h=>h) λv zS w4 X4 hq tK oV fP c4=>?_;obtain⟨N4,HP,Vw,h4⟩:=hq;exact k _ _ _ _ _ (fP.less Vw) h4
 have uu: ∀{w3:World} {X3:XS} {N3:XS} {l:List gK} {AS:Value} {x:Value},Ft w0 N w3 X3 N3->iw w3 N3 rb sb wb AS (l++s) wr->zJ c a b= .ok l->
   fin (FC N w0 (λ_ w'=> ∃l N' oG,zJ c a b= .ok l/\(∀k,N' k->N k\/made w0 w' k)/\iw w' N' rb sb wb oG (l++s) wr) (λch _=> ∃e,zJ c a b= .error e/\ch=wh e)) X3 w3 x:=λq1 q2 q3=>
  q1.yi λwa aK=>⟨_,_,_,q3,q1.jz aK λ_ h=>h,q2.mv (aK.je q1.bo)⟩
 by_cases e1:c=11
 ·repeat' first|refine aL ?_;intros|with_reducible apply cJ
  refine rV (He a b) kQ hs.has λw3 X3 dm=>?_;have dX:=cX.since dm;have h3:=h2.mv (dm.gW λk ah=>(Rf k ah).1);replace hs:=hs.trans dm;by_cases hq:T9 a b<0;all_goals
   repeat' refine aL ?_;intros
   refine rV (M7 _) kQ hs.has λw4 X4 fV=>?_;have fP:=dX.since fV;have h4:=h3.mv (fV.gW λk ah=>dm.sub k (Rf k ah).1);refine ER fP h4 zQ λx w5 X5 N5 aj4 iO h5=>?_;have hz:=iO.s;clear hs;have hs:=ai.fK iO.s.has;repeat' first|(exact uu (l:=[_]) iO h5 (by unfold zJ;simp[hq, *]))
 by_cases e2:c=12
 ·repeat' first|refine aL ?_;intros|with_reducible apply cJ
  refine rV (He a b) kQ hs.has λw3 X3 dm=>?_;have dX:=cX.since dm;have h3:=h2.mv (dm.gW λk ah=>(Rf k ah).1);replace hs:=hs.trans dm;by_cases hq:T9 a b=0;all_goals
   repeat' refine aL ?_;intros
   refine rV (M7 _) kQ hs.has λw4 X4 fV=>?_;have fP:=dX.since fV;have h4:=h3.mv (fV.gW λk ah=>dm.sub k (Rf k ah).1);refine ER fP h4 zQ λx w5 X5 N5 aj4 iO h5=>?_;have hz:=iO.s;clear hs;have hs:=ai.fK iO.s.has;repeat' first|(exact uu (l:=[_]) iO h5 (by unfold zJ;simp[hq, *]))
 by_cases e3:c=15
 ·repeat' first|refine aL ?_;intros|with_reducible apply cJ
  refine ER cX h2 zQ λx w5 X5 N5 aj4 iO h5=>?_;clear hs;have hs:=ai.fK iO.s.has;repeat' refine ao ?_;intros
  refine ER iO h5 (by simp only[aM];omega) λx w6 X6 N6 aug kj h6=>?_;clear hs;repeat' first|(exact uu (l:=[_,_]) kj h6 (by unfold zJ;rw[if_neg e1,if_neg e2,if_pos e3]))
 ·repeat' first|refine aL ?_;intros|with_reducible apply cJ
  refine cX.GP (WJ c a b) kQ (λ_ h=>h.elim) (λv zR w3 X3 hq qS mN dX c3=>?_) λch zR w3 X3 hq qS mN dX c3 wb pF=>dX.jd pF ⟨23,by unfold zJ;rw[if_neg e1,if_neg e2,if_neg e3,if_pos hq.1],hq.2⟩;obtain⟨hnt,rfl⟩:=hq;have h3:=h2.mv (c3.je λk ah=>⟨(Rf k ah).1,λh=>h.elim⟩);replace dX:=dX.less (F':=N) λk ah=>.inl ah;clear hs;have hs:=ai.fK dX.s.has
  skip
  refine ER dX h3 zQ λx w5 X5 N5 aj4 iO h5=>?_;clear hs;have hs:=ai.fK iO.s.has;repeat' first|(exact uu (l:=[_]) iO h5 (by unfold zJ;rw[if_neg e1,if_neg e2,if_neg e3,if_neg hnt]))
end
def RV (r:eY):List Nat:=encI r.id++(encI r.iF++(HN r.lo++HN r.hi))
def zY (v:pJ):List Nat:=lE v.aV++JJ v.val
def CJ (h:kF):List Nat:=wP h.key++iW zY h.mS
def zx (p:gv):List Nat:=nR p.aH++(lE p.aV++(iW wP p.reads++iW sB p.writes))
def encS (s:State):List Nat:=RV s.range++(lE s.floor++(lE s.closed++(iW CJ s.iG++iW zx s.ib)))
theorem CY {α:Type} {f:α->List Nat} {xs:List α} {x:α} (h:xs[i]? =some x):(encI xs.length).length+((xs.take i).map f).flatten.length+(f x).length<=(iW f xs).length:=by
 have h1:xs=xs.take i++(x::xs.drop (i+1)):=by
  obtain⟨hi,rfl⟩:=List.getElem?_eq_some_iff.1 h;rw[<-List.drop_eq_getElem_cons hi,eo]
 have h2:(iW f xs).length=(encI xs.length).length+((xs.take i).map f).flatten.length+((f x).length+((xs.drop (i+1)).map f).flatten.length):=by
  unfold iW;conv=>lhs;rw[h1]
  rw[az,dR,<-h1];simp only[aZ,cV,aa];omega
 omega
theorem PW (x:Nat):(HN x).length=8:=by simp[HN]
theorem FK (n:Int):1<=(encI n).length:=by
 unfold encI qh;split<;>simp
theorem VU (x:KV):x.key.size<=(sB x).length:=by
 have h1:=AI x.key;unfold sB;rw[aa];omega
variable {bs : List Nat} {vb : Value} {cb xb xo : Nat} {Z : XS}
theorem aa0 {b:Bool} (h:Wr w X lo wb vb bs) (hc:Cells w Z cb 0 (ly wb)) (hx:Cells w Z xb xo [B b]) (hZ:uU Z X wb vb) (hb:bs.length<=2^38) (gy:lo<=w.heap.size):
  oF 188 #[ptr cb 0,ptr xb xo] w X lo wb vb bs (aeK b):=by
 intro w0 hk;have de:lo<=w0.heap.size:=ad gy hk.size;replace hc:=hc.mv (hZ.mv hk);replace hx:=hx.mv (hZ.mv hk);have hS:=WS.init (h.mv hk.cd);refine KU.1 λ_=>?_;have hs:=hS.s;repeat' refine ao ?_;intros
 refine hS.fu (ab4 hS.r zQ de) kQ λjf w2 X2 bm qt=>?_
 skip
 exact bm.fin
theorem Ee {x:Nat} (h:Wr w X lo wb vb bs) (hc:Cells w Z cb 0 (ly wb)) (hx:Cells w Z xb xo [.float .f64 x]) (hZ:uU Z X wb vb) (hb:bs.length<=2^38) (gy:lo<=w.heap.size):
  oF 190 #[ptr cb 0,ptr xb xo] w X lo wb vb bs (HN x):=by
 intro w0 hk;have de:lo<=w0.heap.size:=ad gy hk.size;replace hc:=hc.mv (hZ.mv hk);replace hx:=hx.mv (hZ.mv hk);have hS:=WS.init (h.mv hk.cd);refine Jt.1 λ_=>?_;have hs:=hS.s;repeat' refine ao ?_;intros
 refine hS.fu (MY hS.r zQ de) kQ λjf w2 X2 bm qt=>?_
 skip
 exact bm.fin
theorem WL (h:Wr w X lo wb vb bs) (hc:Cells w Z cb 0 (ly wb)) (hx:Cells w Z xb xo r.l) (hZ:uU Z X wb vb) (hb:bs.length<=2^36) (gy:lo<=w.heap.size):
  oF 263 #[ptr cb 0,ptr xb xo] w X lo wb vb bs (RV r):=by
 have e1:=fy r.id;have e2:=fy r.iF;have e3:=PW r.lo;intro w0 hk;have de:lo<=w0.heap.size:=ad gy hk.size;replace hc:=hc.mv (hZ.mv hk);replace hx:=hx.mv (hZ.mv hk);have hS:=WS.init (h.mv hk.cd);refine Jw.1 λ_=>?_;have hs:=hS.s;repeat' refine ao ?_;intros
 refine hS.fu (jR hS.r (hc.mv hS.at) (Cells.mv aQ hS.at) hS.z (by(try simp only[aa]);omega) (ad de hs.kp.size)) kQ λjf w X bm _=>?_;replace hs:=bm.s;repeat' refine ao ?_;intros
 refine bm.fu (jR bm.r (hc.mv bm.at) (Cells.mv aQ bm.at) bm.z (by(try simp only[aa]);omega) (ad de hs.kp.size)) kQ λnk w X bW _=>?_;replace hs:=bW.s;repeat' refine ao ?_;intros
 refine bW.fu (Ee bW.r (hc.mv bW.at) (Cells.mv aQ bW.at) bW.z (by(try simp only[aa]);omega) (ad de hs.kp.size)) kQ λSz w X hU _=>?_;replace hs:=hU.s;repeat' refine ao ?_;intros
 refine hU.fu (Ee hU.r (hc.mv hU.at) (Cells.mv aQ hU.at) hU.z (by(try simp only[aa]);omega) (ad de hs.kp.size)) kQ λvb5 w X nE _=>?_;replace hs:=nE.s
 skip
 unfold RV;simp only[ak] at nE;exact nE.fin
theorem SI {x:pJ} (h:Wr w X lo wb vb bs) (hc:Cells w Z cb 0 (ly wb)) (hx:Cells w Z xb xo x.l) (hZ:uU Z X wb vb) (hb:bs.length<=2^36) (gy:lo<=w.heap.size):
  oF 327 #[ptr cb 0,ptr xb xo] w X lo wb vb bs (zY x):=by
 have e1:=vA x.aV;intro w0 hk;have de:lo<=w0.heap.size:=ad gy hk.size;replace hc:=hc.mv (hZ.mv hk);replace hx:=hx.mv (hZ.mv hk);have hS:=WS.init (h.mv hk.cd);refine HL.1 λ_=>?_;have hs:=hS.s;repeat' refine ao ?_;intros
 refine hS.fu (kq (s:=x.aV) hS.r (hc.mv hS.at) (Cells.mv aQ hS.at) hS.z (by(try simp only[aa]);omega) (ad de hs.kp.size)) kQ λjf w X bm _=>?_;replace hs:=bm.s;repeat' refine ao ?_;intros
 refine bm.fu (Ec (v:=x.val) bm.r (hc.mv bm.at) (Cells.mv aQ bm.at) bm.z (by(try simp only[aa]);omega) (ad de hs.kp.size)) kQ λnk w X bW _=>?_;replace hs:=bW.s
 skip
 unfold zY;simp only[ak] at bW;exact bW.fin
variable {va : Value}
theorem Qv {xs:List BA} (h:Wr w X lo wb vb bs) (hc:Cells w Z cb 0 (ly wb)) (hx:Cells w Z xb xo [va]) (ha:Sl w Z 1 va (xs.map S1)) (hZ:uU Z X wb vb) (gy:lo<=w.heap.size) (hb:bs.length+(iW wP xs).length<=2^33):
  oF 267 #[ptr cb 0,ptr xb xo,.func (.func 268) #[ptr cb 0] #[]] w X lo wb vb bs (iW wP xs):=by
  intro w0 hk;have de:lo<=w0.heap.size:=ad gy hk.size;replace hc:=hc.mv (hZ.mv hk);replace hx:=hx.mv (hZ.mv hk);replace ha:=ha.mv (hZ.mv hk);have hS:=WS.init (h.mv hk.cd);have kV:=ha.gN;refine Jx.1 λ_=>?_;have hs:=hS.s;repeat' refine ao ?_;intros
  refine gZ (λ(k:Value->World->XS->Prop)=> ∀w X jf,WS w0 vb w X lo wb jf (bs++encI xs.length)->k (I xs.length) w X) ?_ ?_
  ·intro w X jf bm;refine eI (λn' a w X=> ∃(i:Nat) (vE:Value),a=I i/\n'=xs.length-i/\i<=xs.length/\WS w0 vb w X lo wb vE (bs++encI xs.length++((xs.take i).map wP).flatten)) xs.length ⟨0,jf,rfl,rfl,aq _,by simpa using bm⟩ ?_;clear bm hS hs;rintro n' a w X ⟨i,vE,rfl,rfl,hi,hS⟩;have hs:=hS.s;rcases dD xs i with⟨cx,x,Be,hd⟩|⟨dA,hd⟩
   ·have fY:=CY (f:=wP) Be;repeat' refine aL ?_;intros
    refine gZ (λ(k:World->XS->Prop)=>k w X) ?_ ?_
    ·repeat' refine ao ?_;intros
     refine DH ?_;refine hS.fu (B6 (s:=x) hS.r (hc.mv hS.at) (Cells.mv aQ hS.at) hS.z (by simp only[aa];omega) (ad de hs.kp.size) (by have:=AI x;omega)) kQ λnk w3 X3 bW uZ=>?_;replace hs:=bW.s;repeat' refine ao ?_;intros
     refine dS (xs.length-(i+1)) zQ ⟨i+1,nk,by simp,rfl,by omega,?_⟩;rw[lY Be,<-ak];exact bW
    ·intro K hK;repeat' first|refine ao ?_;intros|exact hK
   ·rw[aB dA] at hS;repeat' refine aL ?_;intros
    rw[ak] at hS;exact hS.fin
  ·intro K hK;repeat' refine ao ?_;intros
   refine hS.fu (pt hS.r zQ de) kQ λjf w2 X2 bm qt=>?_;replace hs:=bm.s
   skip
   exact hK _ _ _ bm
theorem Hg {xs:List Int} (h:Wr w X lo wb vb bs) (hc:Cells w Z cb 0 (ly wb)) (hx:Cells w Z xb xo [va]) (ha:Sl w Z 1 va (xs.map I1)) (hZ:uU Z X wb vb) (gy:lo<=w.heap.size) (hb:bs.length+(iW encI xs).length<=2^33):
  oF 186 #[ptr cb 0,ptr xb xo,.func (.func 183) #[ptr cb 0] #[]] w X lo wb vb bs (iW encI xs):=by
  intro w0 hk;have de:lo<=w0.heap.size:=ad gy hk.size;replace hc:=hc.mv (hZ.mv hk);replace hx:=hx.mv (hZ.mv hk);replace ha:=ha.mv (hZ.mv hk);have hS:=WS.init (h.mv hk.cd);have kV:=ha.gN;refine Eo.1 λ_=>?_;have hs:=hS.s;repeat' refine ao ?_;intros
  refine gZ (λ(k:Value->World->XS->Prop)=> ∀w X jf,WS w0 vb w X lo wb jf (bs++encI xs.length)->k (I xs.length) w X) ?_ ?_
  ·intro w X jf bm;refine eI (λn' a w X=> ∃(i:Nat) (vE:Value),a=I i/\n'=xs.length-i/\i<=xs.length/\WS w0 vb w X lo wb vE (bs++encI xs.length++((xs.take i).map encI).flatten)) xs.length ⟨0,jf,rfl,rfl,aq _,by simpa using bm⟩ ?_;clear bm hS hs;rintro n' a w X ⟨i,vE,rfl,rfl,hi,hS⟩;have hs:=hS.s;rcases dD xs i with⟨cx,x,Be,hd⟩|⟨dA,hd⟩
   ·have fY:=CY (f:=encI) Be;repeat' refine aL ?_;intros
    refine gZ (λ(k:World->XS->Prop)=>k w X) ?_ ?_
    ·repeat' refine ao ?_;intros
     refine DH ?_;refine hS.fu (jR (n:=x) hS.r (hc.mv hS.at) (Cells.mv aQ hS.at) hS.z (by simp only[aa];omega) (ad de hs.kp.size)) kQ λnk w3 X3 bW uZ=>?_;replace hs:=bW.s;repeat' refine ao ?_;intros
     refine dS (xs.length-(i+1)) zQ ⟨i+1,nk,by simp,rfl,by omega,?_⟩;rw[lY Be,<-ak];exact bW
    ·intro K hK;repeat' first|refine ao ?_;intros|exact hK
   ·rw[aB dA] at hS;repeat' refine aL ?_;intros
    rw[ak] at hS;exact hS.fin
  ·intro K hK;repeat' refine ao ?_;intros
   refine hS.fu (pt hS.r zQ de) kQ λjf w2 X2 bm qt=>?_;replace hs:=bm.s
   skip
   exact hK _ _ _ bm
variable {xs : List KV}
theorem KD (h:Wr w X lo wb vb bs) (hc:Cells w Z cb 0 (ly wb)) (hx:Cells w Z xb xo [va]) (ha:Sl w Z 4 va (xs.map KV.l)) (hZ:uU Z X wb vb) (gy:lo<=w.heap.size) (hb:bs.length+(iW sB xs).length<=2^33):
  oF 191 #[ptr cb 0,ptr xb xo,.func (.func 192) #[ptr cb 0] #[]] w X lo wb vb bs (iW sB xs):=by
  intro w0 hk;have de:lo<=w0.heap.size:=ad gy hk.size;replace hc:=hc.mv (hZ.mv hk);replace hx:=hx.mv (hZ.mv hk);replace ha:=ha.mv (hZ.mv hk);have hS:=WS.init (h.mv hk.cd);have kV:=ha.gN;refine Gp.1 λ_=>?_;have hs:=hS.s;repeat' refine ao ?_;intros
  refine gZ (λ(k:Value->World->XS->Prop)=> ∀w X jf,WS w0 vb w X lo wb jf (bs++encI xs.length)->k (I xs.length) w X) ?_ ?_
  ·intro w X jf bm;refine eI (λn' a w X=> ∃(i:Nat) (vE:Value),a=I i/\n'=xs.length-i/\i<=xs.length/\WS w0 vb w X lo wb vE (bs++encI xs.length++((xs.take i).map sB).flatten)) xs.length ⟨0,jf,rfl,rfl,aq _,by simpa using bm⟩ ?_;clear bm hS hs;rintro n' a w X ⟨i,vE,rfl,rfl,hi,hS⟩;have hs:=hS.s;rcases dD xs i with⟨cx,x,Be,hd⟩|⟨dA,hd⟩
   ·have fY:=CY (f:=sB) Be;repeat' refine aL ?_;intros
    refine gZ (λ(k:World->XS->Prop)=>k w X) ?_ ?_
    ·repeat' refine ao ?_;intros
     refine DH ?_;refine hS.fu (WD (x:=x) hS.r (hc.mv hS.at) (Cells.mv aQ hS.at) hS.z (by simp only[aa];omega) (ad de hs.kp.size) (by have:=VU x;omega)) kQ λnk w3 X3 bW uZ=>?_;replace hs:=bW.s;repeat' refine ao ?_;intros
     refine dS (xs.length-(i+1)) zQ ⟨i+1,nk,by simp,rfl,by omega,?_⟩;rw[lY Be,<-ak];exact bW
    ·intro K hK;repeat' first|refine ao ?_;intros|exact hK
   ·rw[aB dA] at hS;repeat' refine aL ?_;intros
    rw[ak] at hS;exact hS.fin
  ·intro K hK;repeat' refine ao ?_;intros
   refine hS.fu (pt hS.r zQ de) kQ λjf w2 X2 bm qt=>?_;replace hs:=bm.s
   skip
   exact hK _ _ _ bm
theorem WM (h:Wr w X lo wb vb bs) (hc:Cells w Z cb 0 (ly wb)) (hx:Cells w Z xb xo [va]) (ha:Sl w Z 4 va (xs.map KV.l)) (hZ:uU Z X wb vb) (gy:lo<=w.heap.size) (hb:bs.length+(iW sB xs).length<=2^33):
  oF 193 #[ptr cb 0,ptr xb xo,.func (.func 194) #[ptr cb 0] #[]] w X lo wb vb bs (iW sB xs):=by
  intro w0 hk;have de:lo<=w0.heap.size:=ad gy hk.size;replace hc:=hc.mv (hZ.mv hk);replace hx:=hx.mv (hZ.mv hk);replace ha:=ha.mv (hZ.mv hk);have hS:=WS.init (h.mv hk.cd);have kV:=ha.gN;refine HI.1 λ_=>?_;have hs:=hS.s;repeat' refine ao ?_;intros
  refine gZ (λ(k:Value->World->XS->Prop)=> ∀w X jf,WS w0 vb w X lo wb jf (bs++encI xs.length)->k (I xs.length) w X) ?_ ?_
  ·intro w X jf bm;refine eI (λn' a w X=> ∃(i:Nat) (vE:Value),a=I i/\n'=xs.length-i/\i<=xs.length/\WS w0 vb w X lo wb vE (bs++encI xs.length++((xs.take i).map sB).flatten)) xs.length ⟨0,jf,rfl,rfl,aq _,by simpa using bm⟩ ?_;clear bm hS hs;rintro n' a w X ⟨i,vE,rfl,rfl,hi,hS⟩;have hs:=hS.s;rcases dD xs i with⟨cx,x,Be,hd⟩|⟨dA,hd⟩
   ·have fY:=CY (f:=sB) Be;repeat' refine aL ?_;intros
    refine gZ (λ(k:World->XS->Prop)=>k w X) ?_ ?_
    ·repeat' refine ao ?_;intros
     refine DH ?_;refine hS.fu (aaG (x:=x) hS.r (hc.mv hS.at) (Cells.mv aQ hS.at) hS.z (by simp only[aa];omega) (ad de hs.kp.size) (by have:=VU x;omega)) kQ λnk w3 X3 bW uZ=>?_;replace hs:=bW.s;repeat' refine ao ?_;intros
     refine dS (xs.length-(i+1)) zQ ⟨i+1,nk,by simp,rfl,by omega,?_⟩;rw[lY Be,<-ak];exact bW
    ·intro K hK;repeat' first|refine ao ?_;intros|exact hK
   ·rw[aB dA] at hS;repeat' refine aL ?_;intros
    rw[ak] at hS;exact hS.fin
  ·intro K hK;repeat' refine ao ?_;intros
   refine hS.fu (pt hS.r zQ de) kQ λjf w2 X2 bm qt=>?_;replace hs:=bm.s
   skip
   exact hK _ _ _ bm
theorem SJ {xs:List pJ} (h:Wr w X lo wb vb bs) (hc:Cells w Z cb 0 (ly wb)) (hx:Cells w Z xb xo [va]) (ha:Sl w Z 6 va (xs.map pJ.l)) (hZ:uU Z X wb vb) (gy:lo<=w.heap.size) (hb:bs.length+(iW zY xs).length<=2^33):
  oF 326 #[ptr cb 0,ptr xb xo,.func (.func 327) #[ptr cb 0] #[]] w X lo wb vb bs (iW zY xs):=by
  intro w0 hk;have de:lo<=w0.heap.size:=ad gy hk.size;replace hc:=hc.mv (hZ.mv hk);replace hx:=hx.mv (hZ.mv hk);replace ha:=ha.mv (hZ.mv hk);have hS:=WS.init (h.mv hk.cd);have kV:=ha.gN;refine EL.1 λ_=>?_;have hs:=hS.s;repeat' refine ao ?_;intros
  refine gZ (λ(k:Value->World->XS->Prop)=> ∀w X jf,WS w0 vb w X lo wb jf (bs++encI xs.length)->k (I xs.length) w X) ?_ ?_
  ·intro w X jf bm;refine eI (λn' a w X=> ∃(i:Nat) (vE:Value),a=I i/\n'=xs.length-i/\i<=xs.length/\WS w0 vb w X lo wb vE (bs++encI xs.length++((xs.take i).map zY).flatten)) xs.length ⟨0,jf,rfl,rfl,aq _,by simpa using bm⟩ ?_;clear bm hS hs;rintro n' a w X ⟨i,vE,rfl,rfl,hi,hS⟩;have hs:=hS.s;rcases dD xs i with⟨cx,x,Be,hd⟩|⟨dA,hd⟩
   ·have fY:=CY (f:=zY) Be;repeat' refine aL ?_;intros
    refine gZ (λ(k:World->XS->Prop)=>k w X) ?_ ?_
    ·repeat' refine ao ?_;intros
     refine DH ?_;refine hS.fu (SI (x:=x) hS.r (hc.mv hS.at) (Cells.mv aQ hS.at) hS.z (by simp only[aa];omega) (ad de hs.kp.size)) kQ λnk w3 X3 bW uZ=>?_;replace hs:=bW.s;repeat' refine ao ?_;intros
     refine dS (xs.length-(i+1)) zQ ⟨i+1,nk,by simp,rfl,by omega,?_⟩;rw[lY Be,<-ak];exact bW
    ·intro K hK;repeat' first|refine ao ?_;intros|exact hK
   ·rw[aB dA] at hS;repeat' refine aL ?_;intros
    rw[ak] at hS;exact hS.fin
  ·intro K hK;repeat' refine ao ?_;intros
   refine hS.fu (pt hS.r zQ de) kQ λjf w2 X2 bm qt=>?_;replace hs:=bm.s
   skip
   exact hK _ _ _ bm
theorem SK {vv:Value} {x:kF} (h:Wr w X lo wb vb bs) (hc:Cells w Z cb 0 (ly wb)) (hx:Cells w Z xb xo (x.l vv)) (ha:Sl w Z 6 vv (x.mS.map pJ.l)) (hZ:uU Z X wb vb) (gy:lo<=w.heap.size) (hb:bs.length+(CJ x).length<=2^33):
  oF 265 #[ptr cb 0,ptr xb xo] w X lo wb vb bs (CJ x):=by
 have e1:(CJ x).length=(wP x.key).length+(iW zY x.mS).length:=by simp[CJ]
 have e2:=AI x.key;replace ha:=λ{w1:World} (hk:Kp X w w1)=>ha.mv (hZ.mv hk);intro w0 hk;have de:lo<=w0.heap.size:=ad gy hk.size;replace hc:=hc.mv (hZ.mv hk);replace hx:=hx.mv (hZ.mv hk);have hS:=WS.init (h.mv hk.cd);refine HK.1 λ_=>?_;have hs:=hS.s;replace ha:=ha hk;repeat' refine ao ?_;intros
 refine hS.fu (B6 hS.r (hc.mv hS.at) (Cells.mv aQ hS.at) hS.z zQ de zQ) kQ λjf w X bm _=>?_;replace hs:=bm.s;repeat' refine ao ?_;intros
 refine bm.fu (SJ bm.r (hc.mv bm.at) (Cells.mv aQ bm.at) (ha.mv bm.at) bm.z (ad de hs.kp.size) (by simp only[aa];omega)) kQ λnk w X bW _=>?_
 skip
 unfold CJ;simp only[ak] at bW;exact bW.fin
variable {vr vw : Value}
theorem Hh {x:gv} (h:Wr w X lo wb vb bs) (hc:Cells w Z cb 0 (ly wb)) (hx:Cells w Z xb xo (x.l vr vw)) (h1:Sl w Z 1 vr (x.reads.map S1)) (h2:Sl w Z 4 vw (x.writes.map KV.l)) (hZ:uU Z X wb vb) (gy:lo<=w.heap.size) (hb:bs.length+(zx x).length<=2^33):
  oF 185 #[ptr cb 0,ptr xb xo] w X lo wb vb bs (zx x):=by
 have e1:(zx x).length=(nR x.aH).length+((lE x.aV).length+((iW wP x.reads).length+(iW sB x.writes).length)):=by simp[zx]
 replace h1:=λ{w1:World} (hk:Kp X w w1)=>h1.mv (hZ.mv hk);replace h2:=λ{w1:World} (hk:Kp X w w1)=>h2.mv (hZ.mv hk);intro w0 hk;have de:lo<=w0.heap.size:=ad gy hk.size;replace hc:=hc.mv (hZ.mv hk);replace hx:=hx.mv (hZ.mv hk);have hS:=WS.init (h.mv hk.cd);refine HH.1 λ_=>?_;have hs:=hS.s;replace h1:=h1 hk;replace h2:=h2 hk;have o1:=h1.one;have o2:=h2.one;repeat' refine ao ?_;intros
 refine hS.fu (Ad (s:=x.aH) hS.r (hc.mv hS.at) (Cells.mv aQ hS.at) hS.z (by(try simp only[aa]);omega) (ad de hs.kp.size)) kQ λjf w X bm _=>?_;replace hs:=bm.s;repeat' refine ao ?_;intros
 refine bm.fu (kq (s:=x.aV) bm.r (hc.mv bm.at) (Cells.mv aQ bm.at) bm.z (by(try simp only[aa]);omega) (ad de hs.kp.size)) kQ λnk w X bW _=>?_;replace hs:=bW.s;repeat' refine ao ?_;intros
 refine bW.fu (Qv bW.r (hc.mv bW.at) (Cells.mv aQ bW.at) (h1.mv bW.at) bW.z (ad de hs.kp.size) (by simp only[aa];omega)) kQ λSz w X hU _=>?_;replace hs:=hU.s;repeat' refine ao ?_;intros
 refine hU.fu (KD hU.r (hc.mv hU.at) (Cells.mv aQ hU.at) (h2.mv hU.at) hU.z (ad de hs.kp.size) (by simp only[aa];omega)) kQ λvb5 w X nE _=>?_
 skip
 unfold zx;simp only[ak] at nE;exact nE.fin
theorem Qw {xs:List kF} (h:Wr w X lo wb vb bs) (hc:Cells w Z cb 0 (ly wb)) (hx:Cells w Z xb xo [va]) (ha:qL w Z va xs) (hZ:uU Z X wb vb) (gy:lo<=w.heap.size) (hb:bs.length+(iW CJ xs).length<=2^33):
  oF 264 #[ptr cb 0,ptr xb xo,.func (.func 265) #[ptr cb 0] #[]] w X lo wb vb bs (iW CJ xs):=by
  intro w0 hk;have de:lo<=w0.heap.size:=ad gy hk.size;replace hc:=hc.mv (hZ.mv hk);replace hx:=hx.mv (hZ.mv hk);replace ha:=ha.mv (hZ.mv hk);have hS:=WS.init (h.mv hk.cd);have kV:=fh.len ha;refine EJ.1 λ_=>?_;have hs:=hS.s;repeat' refine ao ?_;intros
  refine gZ (λ(k:Value->World->XS->Prop)=> ∀w X jf,WS w0 vb w X lo wb jf (bs++encI xs.length)->k (I xs.length) w X) ?_ ?_
  ·intro w X jf bm;refine eI (λn' a w X=> ∃(i:Nat) (vE:Value),a=I i/\n'=xs.length-i/\i<=xs.length/\WS w0 vb w X lo wb vE (bs++encI xs.length++((xs.take i).map CJ).flatten)) xs.length ⟨0,jf,rfl,rfl,aq _,by simpa using bm⟩ ?_;clear bm hS hs;rintro n' a w X ⟨i,vE,rfl,rfl,hi,hS⟩;have hs:=hS.s;rcases dD xs i with⟨cx,x,Be,hd⟩|⟨dA,hd⟩
   ·have fY:=CY (f:=CJ) Be;repeat' refine aL ?_;intros
    refine gZ (λ(k:World->XS->Prop)=>k w X) ?_ ?_
    ·repeat' first|refine ao ?_;intros|((with_reducible apply Sw);assumption;(try (case hz=>rfl));(case hr=>exact qR);(try (case hz=>omega));(case ht=>kernel_rfl);(case hs=>kernel_rfl);intros)
     refine DH ?_;refine hS.fu (SK (x:=x) hS.r (hc.mv hS.at) (Cells.mv aQ hS.at) (Sl.mv aQ hS.at) hS.z (ad de hs.kp.size) (by simp only[aa];omega)) kQ λnk w3 X3 bW uZ=>?_;replace hs:=bW.s;repeat' refine ao ?_;intros
     refine dS (xs.length-(i+1)) zQ ⟨i+1,nk,by simp,rfl,by omega,?_⟩;rw[lY Be,<-ak];exact bW
    ·intro K hK;repeat' first|refine ao ?_;intros|exact hK
   ·rw[aB dA] at hS;repeat' refine aL ?_;intros
    rw[ak] at hS;exact hS.fin
  ·intro K hK;repeat' refine ao ?_;intros
   refine hS.fu (pt hS.r zQ de) kQ λjf w2 X2 bm qt=>?_;replace hs:=bm.s
   skip
   exact hK _ _ _ bm
theorem Qx {xs:List gv} (h:Wr w X lo wb vb bs) (hc:Cells w Z cb 0 (ly wb)) (hx:Cells w Z xb xo [va]) (ha:qK w Z va xs) (hZ:uU Z X wb vb) (gy:lo<=w.heap.size) (hb:bs.length+(iW zx xs).length<=2^33):
  oF 266 #[ptr cb 0,ptr xb xo,.func (.func 185) #[ptr cb 0] #[]] w X lo wb vb bs (iW zx xs):=by
  intro w0 hk;have de:lo<=w0.heap.size:=ad gy hk.size;replace hc:=hc.mv (hZ.mv hk);replace hx:=hx.mv (hZ.mv hk);replace ha:=ha.mv (hZ.mv hk);have hS:=WS.init (h.mv hk.cd);have kV:=fh.len ha;refine EK.1 λ_=>?_;have hs:=hS.s;repeat' refine ao ?_;intros
  refine gZ (λ(k:Value->World->XS->Prop)=> ∀w X jf,WS w0 vb w X lo wb jf (bs++encI xs.length)->k (I xs.length) w X) ?_ ?_
  ·intro w X jf bm;refine eI (λn' a w X=> ∃(i:Nat) (vE:Value),a=I i/\n'=xs.length-i/\i<=xs.length/\WS w0 vb w X lo wb vE (bs++encI xs.length++((xs.take i).map zx).flatten)) xs.length ⟨0,jf,rfl,rfl,aq _,by simpa using bm⟩ ?_;clear bm hS hs;rintro n' a w X ⟨i,vE,rfl,rfl,hi,hS⟩;have hs:=hS.s;rcases dD xs i with⟨cx,x,Be,hd⟩|⟨dA,hd⟩
   ·have fY:=CY (f:=zx) Be;repeat' refine aL ?_;intros
    refine gZ (λ(k:World->XS->Prop)=>k w X) ?_ ?_
    ·repeat' first|refine ao ?_;intros|((with_reducible apply Xi);assumption;(try (case hz=>rfl));(case hr=>exact qR);(try (case hz=>omega));(case ht=>kernel_rfl);(case hs=>kernel_rfl);intros)
     refine DH ?_;refine hS.fu (Hh (x:=x) hS.r (hc.mv hS.at) (Cells.mv aQ hS.at) (Sl.mv aQ hS.at) (Sl.mv aQ hS.at) hS.z (ad de hs.kp.size) (by simp only[aa];omega)) kQ λnk w3 X3 bW uZ=>?_;replace hs:=bW.s;repeat' refine ao ?_;intros
     refine dS (xs.length-(i+1)) zQ ⟨i+1,nk,by simp,rfl,by omega,?_⟩;rw[lY Be,<-ak];exact bW
    ·intro K hK;repeat' first|refine ao ?_;intros|exact hK
   ·rw[aB dA] at hS;repeat' refine aL ?_;intros
    rw[ak] at hS;exact hS.fin
  ·intro K hK;repeat' refine ao ?_;intros
   refine hS.fu (pt hS.r zQ de) kQ λjf w2 X2 bm qt=>?_;replace hs:=bm.s
   skip
   exact hK _ _ _ bm
variable {vh vp : Value}
theorem WN {x:State} (h:Wr w X lo wb vb bs) (hc:Cells w Z cb 0 (ly wb)) (hx:Cells w Z xb xo (x.l vh vp)) (h1:qL w Z vh x.iG) (h2:qK w Z vp x.ib) (hZ:uU Z X wb vb) (gy:lo<=w.heap.size) (hb:bs.length+(encS x).length<=2^33):
  oF 184 #[ptr cb 0,ptr xb xo] w X lo wb vb bs (encS x):=by
 have e1:(encS x).length=(RV x.range).length+((lE x.floor).length+((lE x.closed).length+((iW CJ x.iG).length+(iW zx x.ib).length))):=by simp[encS]
 replace h1:=λ{w1:World} (hk:Kp X w w1)=>qL.mv h1 (hZ.mv hk);replace h2:=λ{w1:World} (hk:Kp X w w1)=>qK.mv h2 (hZ.mv hk);intro w0 hk;have de:lo<=w0.heap.size:=ad gy hk.size;replace hc:=hc.mv (hZ.mv hk);replace hx:=hx.mv (hZ.mv hk);have hS:=WS.init (h.mv hk.cd);refine Js.1 λ_=>?_;have hs:=hS.s;replace h1:=h1 hk;replace h2:=h2 hk;have o1:=h1.one;have o2:=h2.one;repeat' refine ao ?_;intros
 refine hS.fu (WL (r:=x.range) hS.r (hc.mv hS.at) (Cells.mv aQ hS.at) hS.z (by(try simp only[aa]);omega) (ad de hs.kp.size)) kQ λjf w X bm _=>?_;replace hs:=bm.s;repeat' refine ao ?_;intros
 refine bm.fu (kq (s:=x.floor) bm.r (hc.mv bm.at) (Cells.mv aQ bm.at) bm.z (by(try simp only[aa]);omega) (ad de hs.kp.size)) kQ λnk w X bW _=>?_;replace hs:=bW.s;repeat' refine ao ?_;intros
 refine bW.fu (kq (s:=x.closed) bW.r (hc.mv bW.at) (Cells.mv aQ bW.at) bW.z (by(try simp only[aa]);omega) (ad de hs.kp.size)) kQ λSz w X hU _=>?_;replace hs:=hU.s;repeat' refine ao ?_;intros
 refine hU.fu (Qw hU.r (hc.mv hU.at) (Cells.mv aQ hU.at) (h1.mv hU.at) hU.z (ad de hs.kp.size) (by simp only[aa];omega)) kQ λvb5 w X nE _=>?_;replace hs:=nE.s;repeat' refine ao ?_;intros
 refine nE.fu (Qx nE.r (hc.mv nE.at) (Cells.mv aQ nE.at) (h2.mv nE.at) nE.z (ad de hs.kp.size) (by simp only[aa];omega)) kQ λvb6 w X VV _=>?_
 skip
 unfold encS;simp only[ak] at VV;exact VV.fin
def gd (r:Rec):List Nat:=encI r.kind++(
 if r.kind=1 then encS r.state
 else if r.kind=2\/r.kind=7\/r.kind=8 then encI r.n
 else if r.kind=3 then zx ⟨r.aH,r.aV,r.reads,r.writes⟩++iW encI r.parts
 else if r.kind=4 then nR r.aH++(aeK r.jK++lE r.aV)
 else if r.kind=5 then lE r.aV
 else if r.kind=6 then HN r.su++(encI r.n++lE r.aV)
 else if r.kind=9 then nR r.aH++(lE r.aV++iW encI r.parts)
 else if r.kind=10 then nR r.aH
 else if r.kind=11 then lE r.prev++(lE r.aV++(nR r.aH++iW sB r.writes))
 else if r.kind=12 then lE r.aV++iW sB r.xu
 else [])
variable {ty : TypeId} {o : Nat} {R : Ending -> World -> Prop}
theorem JS {t o':Nat} {N:Value->World->XS->Prop} (h:aI w X b cs ty) (MG:o'=o) (ht:(P.info? t).map (·.size)=some sz)
  (hl:o+sz<=cs.length) (hv:v.cells.size=sz) (h1:v.cells.toList.all aJ.one=true) (hX: ∀k,X k->k<w.heap.size) (he:dr cs o v.cells.toList=cs)
  (n: ∀w' X',ai X w X' w'->N undef w' X'):eU P R X w true (st1 t sz (ptr b o') v) N:=by
 refine GD h MG ht hl hv h1 hX λw' X' c hr=>n w' X' ⟨⟨c.os,c.tape,c.output,c.size,λk hk=>?_⟩,c.sub,c.has⟩;by_cases e:k=b
 ·subst e;rw[h.2,hr.2,he]
 ·exact c.block k hk e
variable {w0 : World}
theorem WS.PA {tF:Value} (hS:WS w0 tF w X lo wb vb bs) (hr:aI w X b cs ty) (hb:w0.heap.size<=b)
  (h1:decide (409≠ty)=true) (h2:decide (5≠ty)=true) (c:ee (λk=>k=b) X w X' w'):WS w0 tF w' X' lo wb vb bs:=by
 have bU:wb≠b:=hS.r.box.eT hr h1;refine⟨hS.s.ea c λq h0 hq=>?_,⟨⟨c.sub _ hS.r.box.1,by rw[c.block _ hS.r.box.1 λe=>bU e];exact hS.r.box.2⟩,Own.ea hS.r.ow c λg hg e=>Own.eT hS.r.ow hr h2 (by rw[hg,e])⟩,hS.v⟩;have:=h0.1;omega
variable {F : XS}
theorem _root_.Go.aJ.aI.ea (h:aI w X b cs ty) (c:ee F X w X' w') (hn: ¬F b):aI w' X' b cs ty:=⟨c.sub _ h.1,by rw[c.block _ h.1 hn];exact h.2⟩
variable {vd vq : Value}
theorem ach {r:Rec} (h:Wr w X lo wb vb bs) (hc:Cells w Z cb 0 (ly wb)) (hx:aI w Z xb (r.l vr vw vp vq vh vd) 73) (dg:r.at w Z vr vw vp vq vh vd) (hZ:uU Z X wb vb) (gy:lo<=w.heap.size)
  (hb:bs.length+(gd r).length<=2^33):oF 134 #[ptr cb 0,ptr xb 0] w X lo wb vb bs (gd r):=by
 intro w0 hk;have de:lo<=w0.heap.size:=ad gy hk.size;replace hc:=hc.mv (hZ.mv hk);replace hx:=hx.mv (hZ.mv hk);replace dg:=dg.mv (hZ.mv hk);obtain⟨a1,a2,a3,a4,a5,a6⟩:=dg;obtain⟨p1,n1,c1,rfl⟩:=a1.form;obtain⟨p2,n2,c2,rfl⟩:=a2.form;have br:=hx;replace hx:=hx.cells;have hS:=WS.init (h.mv hk.cd);have e1:=fy r.kind;obtain⟨E,hE⟩: ∃E,E=gd r:=⟨_,rfl⟩;rw[<-hE] at hb⊢;unfold gd at hE;have hEl:(encI r.kind).length<=E.length:=by rw[hE,aa];omega
 refine Mh.1 λ_=>?_;have hs:=hS.s;repeat' refine ao ?_;intros
 refine hS.fu (jR hS.r (hc.mv hS.at) (Cells.mv aQ hS.at) hS.z zQ (ad de hs.kp.size)) kQ λjf w X bm _=>?_;replace hs:=bm.s;repeat' refine ao ?_;intros
 refine gZ (λ(k:World->XS->Prop)=> ∀w X nk,WS w0 vb w X lo wb nk (bs++E)->k w X) (λw X nk bW=>bW.fin) λK hK=>?_;repeat' first|refine ao ?_;intros|refine cP ?_ ?_<;>intros|with_reducible apply cJ
 all_goals (repeat (first|rw[if_pos zQ] at hE|rw[if_neg zQ] at hE))
 all_goals (have hEb:=congrArg bf hE;simp only[aa] at hEb)
 ·refine bm.fu (WN (x:=r.state) bm.r (hc.mv bm.at) (Cells.mv aQ bm.at) (a5.mv bm.at) (a6.mv bm.at) bm.z (ad de hs.kp.size) (by simp only[aa];omega)) kQ λnk w X bW _=>?_;have h9:=bW;rw[hE] at hK
  (try simp only[ak] at h9 hK)
  exact hK _ _ _ h9
 ·refine bm.fu (jR bm.r (hc.mv bm.at) (Cells.mv aQ bm.at) bm.z (by simp only[aa];omega) (ad de hs.kp.size)) kQ λnk w X bW _=>?_;have h9:=bW;rw[hE] at hK
  (try simp only[ak] at h9 hK)
  exact hK _ _ _ h9
 ·refine bm.fu (jR bm.r (hc.mv bm.at) (Cells.mv aQ bm.at) bm.z (by simp only[aa];omega) (ad de hs.kp.size)) kQ λnk w X bW _=>?_;have h9:=bW;rw[hE] at hK
  (try simp only[ak] at h9 hK)
  exact hK _ _ _ h9
 ·refine bm.fu (jR bm.r (hc.mv bm.at) (Cells.mv aQ bm.at) bm.z (by simp only[aa];omega) (ad de hs.kp.size)) kQ λnk w X bW _=>?_;have h9:=bW;rw[hE] at hK
  (try simp only[ak] at h9 hK)
  exact hK _ _ _ h9
 ·have e2:(zx ⟨r.aH,r.aV,r.reads,r.writes⟩).length<=E.length:=by omega
  refine Ny (l:=[I 0,I 0,I 0,I 0,I 0,I 0,.slice none 0 0,.slice none 0 0]) hs.has kQ λpb w3 X3 Il dm akP=>?_;have bW:=bm.since dm;refine GD (o:=0) akP rfl kQ sQ rfl rfl dm.has λw4 X4 c4 C5=>?_;replace C5:aI w4 X4 pb ((⟨r.aH,r.aV,r.reads,r.writes⟩:gv).l (.slice p1 n1 c1) (.slice p2 n2 c2)) 306:=C5;have asO:w0.heap.size<=pb:=ad hs.kp.size Il;have hU:=bW.PA akP asO kQ kQ c4;have hnf: ¬Et wb jf pb:=λhf=>hf.elim (λe=>hU.r.box.eT C5 kQ e.symm) λe=>Own.eT hU.r.ow C5 kQ e;obtain⟨Z',hZ'⟩: ∃Z':XS,Z'=λk=>k=pb\/out (Et wb vb) w0 k:=⟨_,rfl⟩;have mv4:Mv (out (Et wb vb) w0) w0 Z' w4:=λk ah _=>⟨by rw[hZ'];exact .inr ah,hU.s.kp.block k ah⟩;have tZ:uU Z' X4 wb jf:=λk ah=>by
   rw[hZ'] at ah;rcases ah with rfl|ah
   ·exact⟨C5.1,hnf⟩
   ·exact hU.z k ah
  refine hU.fu (Hh (x:=⟨r.aH,r.aV,r.reads,r.writes⟩) hU.r (hc.mv mv4) (aI.cells (X:=Z') (ty:=306) ⟨by rw[hZ'];exact .inl rfl,C5.2⟩) (a1.mv mv4) (a2.mv mv4) tZ (ad de hU.s.kp.size) (by simp only[aa];omega)) kQ λvb5 w5 X5 nE c5=>?_;have afF:=C5.ea c5 hnf;clear hs;have hs:=nE.s;repeat' refine ao ?_;intros
  refine JS (o:=1) (br.mv nE.s.mv) zQ kQ sQ rfl rfl nE.s.has (by rfl) λw6 X6 tY=>?_;have VV:=nE.since tY;repeat' refine ao ?_;intros
  refine JS (o:=4) (br.mv VV.s.mv) zQ kQ sQ rfl rfl VV.s.has (by rfl) λw7 X7 pc=>?_;have hS7:=VV.since pc;repeat' refine ao ?_;intros
  refine JS (o:=13) (br.mv hS7.s.mv) zQ kQ sQ rfl rfl hS7.s.has (by rfl) λw8 X8 kT=>?_;have hS8:=hS7.since kT;repeat' refine ao ?_;intros
  refine JS (o:=14) (br.mv hS8.s.mv) zQ kQ sQ rfl rfl hS8.s.has (by rfl) λw9 X9 Cg=>?_;have hS9:=hS8.since Cg;clear hs;have hs:=hS9.s;repeat' refine ao ?_;intros
  refine hS9.fu (Hg hS9.r (hc.mv hS9.at) (Cells.mv aQ hS9.at) (a3.mv hS9.at) hS9.z (ad de hs.kp.size) (by simp only[aa];omega)) kQ λauh w X asP _=>?_;have h9:=asP;rw[hE] at hK
  (try simp only[ak] at h9 hK)
  exact hK _ _ _ h9
 ·refine bm.fu (Ad (s:=r.aH) bm.r (hc.mv bm.at) (Cells.mv aQ bm.at) bm.z (by(try simp only[aa]);omega) (ad de hs.kp.size)) kQ λnk w X bW _=>?_;replace hs:=bW.s;repeat' refine ao ?_;intros
  refine bW.fu (aa0 (b:=r.jK) bW.r (hc.mv bW.at) (Cells.mv aQ bW.at) bW.z (by(try simp only[aa]);omega) (ad de hs.kp.size)) kQ λSz w X hU _=>?_;replace hs:=hU.s;repeat' refine ao ?_;intros
  refine hU.fu (kq (s:=r.aV) hU.r (hc.mv hU.at) (Cells.mv aQ hU.at) hU.z (by(try simp only[aa]);omega) (ad de hs.kp.size)) kQ λvb5 w X nE _=>?_;replace hs:=nE.s
  skip
  have h9:=nE;rw[hE] at hK
  (try simp only[ak] at h9 hK)
  exact hK _ _ _ h9
 ·refine bm.fu (kq (s:=r.aV) bm.r (hc.mv bm.at) (Cells.mv aQ bm.at) bm.z (by(try simp only[aa]);omega) (ad de hs.kp.size)) kQ λnk w X bW _=>?_;replace hs:=bW.s
  skip
  have h9:=bW;rw[hE] at hK
  (try simp only[ak] at h9 hK)
  exact hK _ _ _ h9
 ·refine bm.fu (Ee bm.r (hc.mv bm.at) (Cells.mv aQ bm.at) bm.z (by(try simp only[aa]);omega) (ad de hs.kp.size)) kQ λnk w X bW _=>?_;replace hs:=bW.s;repeat' refine ao ?_;intros
  refine bW.fu (jR bW.r (hc.mv bW.at) (Cells.mv aQ bW.at) bW.z (by(try simp only[aa]);omega) (ad de hs.kp.size)) kQ λSz w X hU _=>?_;replace hs:=hU.s;repeat' refine ao ?_;intros
  refine hU.fu (kq (s:=r.aV) hU.r (hc.mv hU.at) (Cells.mv aQ hU.at) hU.z (by(try simp only[aa]);omega) (ad de hs.kp.size)) kQ λvb5 w X nE _=>?_;replace hs:=nE.s
  skip
  have h9:=nE;rw[hE] at hK
  (try simp only[ak] at h9 hK)
  exact hK _ _ _ h9
 ·refine bm.fu (Ad (s:=r.aH) bm.r (hc.mv bm.at) (Cells.mv aQ bm.at) bm.z (by(try simp only[aa]);omega) (ad de hs.kp.size)) kQ λnk w X bW _=>?_;replace hs:=bW.s;repeat' refine ao ?_;intros
  refine bW.fu (kq (s:=r.aV) bW.r (hc.mv bW.at) (Cells.mv aQ bW.at) bW.z (by(try simp only[aa]);omega) (ad de hs.kp.size)) kQ λSz w X hU _=>?_;replace hs:=hU.s;repeat' refine ao ?_;intros
  refine hU.fu (Hg hU.r (hc.mv hU.at) (Cells.mv aQ hU.at) (a3.mv hU.at) hU.z (ad de hs.kp.size) (by simp only[aa];omega)) kQ λvb5 w X nE _=>?_;have h9:=nE;rw[hE] at hK
  (try simp only[ak] at h9 hK)
  exact hK _ _ _ h9
 ·refine bm.fu (Ad (s:=r.aH) bm.r (hc.mv bm.at) (Cells.mv aQ bm.at) bm.z (by(try simp only[aa]);omega) (ad de hs.kp.size)) kQ λnk w X bW _=>?_;replace hs:=bW.s
  skip
  have h9:=bW;rw[hE] at hK
  (try simp only[ak] at h9 hK)
  exact hK _ _ _ h9
 ·refine bm.fu (kq (s:=r.prev) bm.r (hc.mv bm.at) (Cells.mv aQ bm.at) bm.z (by(try simp only[aa]);omega) (ad de hs.kp.size)) kQ λnk w X bW _=>?_;replace hs:=bW.s;repeat' refine ao ?_;intros
  refine bW.fu (kq (s:=r.aV) bW.r (hc.mv bW.at) (Cells.mv aQ bW.at) bW.z (by(try simp only[aa]);omega) (ad de hs.kp.size)) kQ λSz w X hU _=>?_;replace hs:=hU.s;repeat' refine ao ?_;intros
  refine hU.fu (Ad (s:=r.aH) hU.r (hc.mv hU.at) (Cells.mv aQ hU.at) hU.z (by(try simp only[aa]);omega) (ad de hs.kp.size)) kQ λvb5 w X nE _=>?_;replace hs:=nE.s;repeat' refine ao ?_;intros
  refine nE.fu (KD nE.r (hc.mv nE.at) (Cells.mv aQ nE.at) (a2.mv nE.at) nE.z (ad de hs.kp.size) (by simp only[aa];omega)) kQ λvb6 w X VV _=>?_;have h9:=VV;rw[hE] at hK
  (try simp only[ak] at h9 hK)
  exact hK _ _ _ h9
 ·refine bm.fu (kq (s:=r.aV) bm.r (hc.mv bm.at) (Cells.mv aQ bm.at) bm.z (by(try simp only[aa]);omega) (ad de hs.kp.size)) kQ λnk w X bW _=>?_;replace hs:=bW.s;repeat' refine ao ?_;intros
  refine bW.fu (WM bW.r (hc.mv bW.at) (Cells.mv aQ bW.at) (a4.mv bW.at) bW.z (ad de hs.kp.size) (by simp only[aa];omega)) kQ λSz w X hU _=>?_;have h9:=hU;rw[hE] at hK
  (try simp only[ak] at h9 hK)
  exact hK _ _ _ h9
 ·rw[List.append_nil] at hE;have h9:=bm;rw[hE] at hK
  (try simp only[ak] at h9 hK)
  exact hK _ _ _ h9
def Rec.fF (r:Rec):Int:=if r.err≠0 then r.err else if 262144<(gd r).length then 2 else 0
theorem D5 {r:Rec} (h:r.at w X vr vw vp vq vh vd) (ml:r.small) (kz:r.err=0->(gd r).length<=2^33):
  Ct pg 136 #[r.v vr vw vp vq vh vd] w X nX λv wa w'=>if r.fF≠0 then v= .tuple #[.slice none 0 0,I r.fF] else∃vb,v= .tuple #[vb,I 0]/\Own w' (made wa w') wa.heap.size 5 1 vb ((gd r).map U1):=by
 intro w0 hk;replace h:=h.mv hk.cd;refine TH.1 λhs=>?_;repeat' first|refine ao ?_;intros|refine cP ?_ ?_<;>intros|(refine OQ hs ?_;intro bx w X fY ay gn hs br)|(refine dZ (afr (r:=r) (h.mv (gn.trans hs).mv) ml) kQ hs.has λw X ay=>?_;replace hs:=hs.trans ay)|(refine qr ?_;intro wa hk;(have e:r.fF=r.err:=if_pos aQ;rw[e,if_pos aQ]))
 ·have Gx:r.err=0:=by assumption
  refine cA Qp kQ hs.has ?_;rintro v wa w2 X2 ⟨wb,rfl,hW⟩ hle gu bA;have M6:=gn.trans (hs.trans bA);have lM:=br.lt;have QT:=hs.kp.size;refine Xd kQ ?_;refine BL M6.has λcb w3 X3 hcb dm RJ=>?_;have hsB:=M6.trans dm;have Nn:=(br.since (hs.trans bA)).since dm;obtain⟨Z,hZd⟩: ∃Z:XS,Z=λk=>k=bx\/k=cb\/bN w0 k:=⟨_,rfl⟩;have aui:wa.heap.size<=wb/\wb<w2.heap.size:=hW.box.1;have hZ:uU Z X3 wb (.slice none 0 0):=λk ah=>by
   rw[hZd] at ah;refine⟨?_,λhf=>?_⟩
   ·rcases ah with rfl|rfl|ah
    ·exact Nn.1
    ·exact RJ.1
    ·exact hsB.sub k ah
   ·rcases hf with hf|hf
    ·rcases ah with e|e|e
     ·omega
     ·omega
     ·have:k<w0.heap.size:=e;omega
    ·cases hf
  have hcC:Cells w3 Z cb 0 (ly wb):=aI.cells (ty:=249) ⟨by rw[hZd];exact .inr (.inl rfl),RJ.2⟩;have hxC:aI w3 Z bx (r.l vr vw vp vq vh vd) 73:=⟨by rw[hZd];exact .inl rfl,Nn.2⟩;have haC:r.at w3 Z vr vw vp vq vh vd:=h.mv λk ah hl=>⟨by rw[hZd];exact .inr (.inr ah),hsB.kp.block k ah⟩;have QW:Wr w3 X3 wa.heap.size wb (.slice none 0 0) []:=(hW.mv (Mv.sub gu)).mv dm.mv;refine zq (ach QW hcC hxC haC hZ (by have:=dm.kp.size;omega) (by simpa using (kz Gx))) kQ hsB.has (λq hq=>by
   rcases hq with rfl|hq
   ·exact QW.box.1
   ·cases hq) λv zS w4 X4 hq tK oV auj Fw=>?_
  obtain⟨rfl,MW,hW4⟩:=hq;have fV:=hsB.ea Fw λk ah hf=>by
   have h0:k<w0.heap.size:=ah;rcases hf with hf|hf
   ·omega
   ·cases hf
  have hW5:Wr w4 X4 wa.heap.size wb MW (gd r):=hW4.mv (Mv.sub λk ah=>by
   rcases ah with(ah|ah)|ah
   ·rw[ah];exact Fw.sub _ QW.box.1
   ·cases ah
   ·exact oV k ah)
  refine cA (aaF hW5 zQ) kQ fV.has ?_;rintro v5 OP w5 X5 uC IZ Fj tq;have hsC:=fV.trans tq;have ho:Own w5 X5 w0.heap.size 5 1 v5 ((gd r).map U1):=uC.up Fj (by have:=fV.kp.size;omega);clear hs gn;have hs:=hsC;have hl:(List.map U1 (gd r)).length=(gd r).length:=af _;repeat' first|refine ao ?_;intros|refine cP ?_ ?_<;>intros
  ·have e:r.fF=2:=by unfold Rec.fF;rw[if_neg zQ,if_pos zQ]
   exact bQ hs λwb aK=>by rw[e,if_pos zQ]
  ·have e:r.fF=0:=by unfold Rec.fF;rw[if_neg zQ,if_neg zQ]
   exact bQ hs λwb aK=>by
    rw[e,if_neg zQ];exact⟨v5,rfl,(ho.kp aK).tight⟩
def SL (n:Int):Bool:=(decide (n>=1)&&decide (n<=12))||(decide (n>20)&&decide (n<=22))||decide (n=31)||decide (n=32)
theorem Ef (n:Int):Pure pg 148 #[I n] (B (decide (n>=1)&&decide (n<=12))):=by
 intro w;refine TJ.1 λ_=>?_;have hs:=ai.init w;repeat' first|refine ao ?_;intros|refine cP ?_ ?_<;>intros|(with_reducible refine fG hs ?_);simp_all<;>omega
theorem aci (n:Int):Pure pg 97 #[I n] (B (SL n)):=by
 intro w;refine Z9.1 λ_=>?_;have hs:=ai.init w;repeat' first|refine ao ?_;intros|refine cP ?_ ?_<;>intros|(refine kn (Ef _) hs ?_ ?_<;>intro _ w X hs)|(with_reducible refine fG hs ?_);simp_all [SL]<;>omega
structure cD.at (w:World) (X:XS) (m:cD) (vk vs vw vp vr vc vh vd:Value):Prop where
 keys:Sl w X 1 vk (m.keys.map S1)
 seen:Sl w X 7 vs (m.seen.map fc.l)
 writes:Sl w X 4 vw (m.writes.map KV.l)
 parts:Sl w X 1 vp (m.parts.map I1)
 ranges:Sl w X 4 vr (m.ranges.map eY.l)
 aY:fh w X 29 vc Rec.rd m.aY
 iG:qL w X vh m.state.iG
 ib:qK w X vd m.state.ib
def cD.at.mv {m:cD} {vk vs vc:Value} (h:m.at w X vk vs vw vp vr vc vh vd) (v:Mv X w Y w'):m.at w' Y vk vs vw vp vr vc vh vd:=
 ⟨h.keys.mv v,h.seen.mv v,h.writes.mv v,h.parts.mv v,h.ranges.mv v,fh.mv h.aY Rec.mv v,fh.mv h.iG kF.mv v,fh.mv h.ib gv.mv v⟩
def cD.rd (w:World) (X:XS) (l:List Value) (m:cD):Prop:= ∃vk vs vw vp vr vc vh vd,l=m.l vk vs vw vp vr vc vh vd/\m.at w X vk vs vw vp vr vc vh vd
def cD.mv:GU cD.rd:=λ⟨vk,vs,vw,vp,vr,vc,vh,vd,h,h1⟩ m=>⟨vk,vs,vw,vp,vr,vc,vh,vd,h,h1.mv m⟩
theorem HQ {xs:List BA} (ha:Sl w X 1 a (xs.map S1)):
  Ct pg 214 #[a] w X nX λv _ _=>v=B (yX xs):=by
 intro w0 hk;replace ha:=ha.mv hk.cd;have kV:=ha.gN;refine aag.1 λhs=>?_;repeat' refine ao ?_;intros
 refine eI (λn a w X=> ∃i:Nat,a=I (i:Nat)/\n=(xs).length-i/\i<=(xs).length/\ai (bN w0) w0 X w/\chain iM z7 none xs=chain iM z7 (uN xs i) (xs.drop i)) (xs).length ⟨0,rfl,rfl,aq _,hs,by simp[uN]⟩ ?_;rintro n a w X ⟨i,rfl,rfl,hi,hs,hw⟩;rcases dD (xs) i with⟨cx,x,hx,hd⟩|⟨dA,hd⟩
 ·rcases NI cx with⟨h0,hp⟩|⟨h0,y,hy,hp⟩<;>rw[hp,hd,chain] at hw<;>clear hd
  ·repeat' first|refine aL ?_;intros|(refine kn (lz _) hs ?_ ?_<;>intro _ w X hs)|(refine qr ?_;intro wa hk;simp_all [yX,rising,chain])|((with_reducible refine dS ((xs).length-(i+1)) ?_ ?_);omega;exact⟨i+1,by simp,rfl,by omega,hs,by rw[hw,rB hx];simp[*]⟩)
  ·repeat' first|refine aL ?_;intros|refine cP ?_ ?_<;>intros|(refine kn (lz _) hs ?_ ?_<;>intro _ w X hs)|(refine qr ?_;intro wa hk;simp_all [yX,rising,chain])|((with_reducible refine dS ((xs).length-(i+1)) ?_ ?_);omega;exact⟨i+1,by simp,rfl,by omega,hs,by rw[hw,rB hx];simp[*]⟩)
 ·repeat' first|refine aL ?_;intros|refine cP ?_ ?_<;>intros|(refine qr ?_;intro wa hk;simp_all [yX,rising,chain]<;>omega)
def fc.may (x:fc):Bool:=x.aV.may&&x.val.may&&!(decide (x.aV= .zero)&&decide (x.val.kind≠0))
def IL (l:List fc):Bool:=l.all fc.may&&yX (l.map (·.key))
theorem acj {xs:List fc} (ha:Sl w X 7 a (xs.map fc.l)) (hb:xs.length<=2^40):
  Ct pg 216 #[a] w X nX λv _ _=>v=B (IL xs):=by
 intro w0 hk;replace ha:=ha.mv hk.cd;have kV:=ha.gN;refine aai.1 λhs=>?_;repeat' refine ao ?_;intros
 refine gO (λn a b w X=> ∃i:Nat,a=I i/\n=xs.length-i/\i<=xs.length/\ai (bN w0) w0 X w/\Own w X w0.heap.size 9 1 b (((xs.take i).map (·.key)).map S1)/\xs.all fc.may=(xs.drop i).all fc.may) xs.length ⟨0,rfl,rfl,aq _,hs,Own.nil _ _ _ _ _,by simp⟩ ?_;rintro n a b w X ⟨i,rfl,rfl,hi,hs,ho,hw⟩;rcases dD (xs) i with⟨cx,x,hx,hd⟩|⟨dA,hd⟩
 ·rw[hd,iY] at hw;have Gx: ∀q:Bool,q=false->x.may=q->IL xs=false:=λq hq h=>by simp[IL,hw,h,hq]
  repeat' first|refine aL ?_;intros|refine cP ?_ ?_<;>intros|(with_reducible refine Gf _ ?_ ?_ ?_);(· kernel_rfl);all_goals intros|((with_reducible apply Nq);(case own=>first|assumption|exact Own.since aQ aQ);(case hs=>assumption);(case h0=>first|exact λ_ h=>h|exact gn.has);(case he=>kernel_rfl);(case hk=>rfl);(case ho=>first|rfl|assumption);(case hb=>(simp only[af,aD,aa,aM,bF];omega));(case hl=>(simp only[af,aD,aa,aM,bF];omega));intro acc w X ay ho hc dg;replace hs:=ay)|with_reducible apply cJ|((with_reducible refine NH (pO _) ?_ hs.has ?_ ?_);(· kernel_rfl);all_goals (intro _ w X ay;replace hs:=hs.trans ay))|((with_reducible refine NH (mu _) ?_ hs.has ?_ ?_);(· kernel_rfl);all_goals (intro _ w X ay;replace hs:=hs.trans ay))|(refine qr ?_;intro wa hk;(exact(congrArg B (Gx false rfl (by clear Gx;grind [fc.may]))).symm))|((with_reducible refine fZ ((xs).length-(i+1)) ?_ ?_);omega;exact⟨i+1,by simp,rfl,by omega,hs,by rw[cn,hx];simp only[Ae,az,aZ,List.map_nil];(first|exact Own.since ho aQ|exact Own.since (Own.since ho aQ) aQ),by rw[hw];clear Gx;grind [fc.may]⟩)
 ·rw[hd] at hw;rw[aB dA] at ho;repeat' first|refine aL ?_;intros|(refine qr ?_;intro wa hk;(rename_i h;simp[IL,hw,h]))|(refine qv (HQ  (Own.sl ho)) hs ?_ ?_<;>intro _ w X hs)
theorem Uc (ha:Sl w X 4 a (xs.map KV.l)) (hb:xs.length<=2^40):
  Ct pg 217 #[a] w X nX λv _ _=>v=B (MS xs):=by
 intro w0 hk;replace ha:=ha.mv hk.cd;have kV:=ha.gN;refine Sj.1 λhs=>?_;repeat' refine ao ?_;intros
 refine gO (λn a b w X=> ∃i:Nat,a=I i/\n=xs.length-i/\i<=xs.length/\ai (bN w0) w0 X w/\Own w X w0.heap.size 9 1 b (((xs.take i).map (·.key)).map S1)/\xs.all (·.val.may)=(xs.drop i).all (·.val.may)) xs.length ⟨0,rfl,rfl,aq _,hs,Own.nil _ _ _ _ _,by simp⟩ ?_;rintro n a b w X ⟨i,rfl,rfl,hi,hs,ho,hw⟩;rcases dD (xs) i with⟨cx,x,hx,hd⟩|⟨dA,hd⟩
 ·rw[hd,iY] at hw;have Gx:x.val.may=false->MS xs=false:=λh=>by simp[MS,hw,h]
  repeat' first|refine aL ?_;intros|((with_reducible apply Nq);(case own=>first|assumption|exact Own.since aQ aQ);(case hs=>assumption);(case h0=>first|exact λ_ h=>h|exact gn.has);(case he=>kernel_rfl);(case hk=>rfl);(case ho=>first|rfl|assumption);(case hb=>(simp only[af,aD,aa,aM,bF];omega));(case hl=>(simp only[af,aD,aa,aM,bF];omega));intro acc w X ay ho hc dg;replace hs:=ay)|((with_reducible refine NH (mu _) ?_ hs.has ?_ ?_);(· kernel_rfl);all_goals (intro _ w X ay;replace hs:=hs.trans ay))|(refine qr ?_;intro wa hk;(exact(congrArg B (Gx aQ)).symm))|((with_reducible refine fZ ((xs).length-(i+1)) ?_ ?_);omega;exact⟨i+1,by simp,rfl,by omega,hs,by rw[cn,hx];simp only[Ae,az,aZ,List.map_nil];exact Own.since ho aQ,by rw[hw];clear Gx;simp[*]⟩)
 ·rw[hd] at hw;rw[aB dA] at ho;repeat' first|refine aL ?_;intros|(refine qr ?_;intro wa hk;(rename_i h;simp[MS,hw,h]))|(refine qv (HQ  (Own.sl ho)) hs ?_ ?_<;>intro _ w X hs)
def NS (l:List eY):Bool:=l.all eY.may&&decide ((l.length:Int)<=12)
theorem aa1 {xs:List eY} (ha:Sl w X 4 a (xs.map eY.l)):
  Ct pg 287 #[a] w X nX λv _ _=>v=B (NS xs):=by
 intro w0 hk;replace ha:=ha.mv hk.cd;have kV:=ha.gN;refine Wp.1 λhs=>?_;repeat' refine ao ?_;intros
 refine eI (λn a w X=> ∃i:Nat,a=I (i:Nat)/\n=(xs).length-i/\i<=(xs).length/\ai (bN w0) w0 X w/\xs.all eY.may=(xs.drop i).all eY.may) (xs).length ⟨0,rfl,rfl,aq _,hs,by simp⟩ ?_;rintro n a w X ⟨i,rfl,rfl,hi,hs,hw⟩;rcases dD (xs) i with⟨cx,x,hx,hd⟩|⟨dA,hd⟩
 ·rw[hd,iY] at hw;repeat' first|refine aL ?_;intros|(refine kn (wI _) hs ?_ ?_<;>intro _ w X hs)|(refine qr ?_;intro wa hk;(simp[NS,hw, *]))|((with_reducible refine dS ((xs).length-(i+1)) ?_ ?_);omega;exact⟨i+1,by simp,rfl,by omega,hs,by rw[hw];simp[*]⟩)
 ·rw[hd] at hw;repeat' first|refine aL ?_;intros|refine cP ?_ ?_<;>intros|(refine qr ?_;intro wa hk;(simp_all [NS]))
def codeOk (c:Int) (aa2:Bool) (l:List eY):Bool:=if c=0 then aa2&&decide (l=[])else decide (c>0)&&decide (c<=25)&&NS l
theorem ack {c:Int} {aa2:Bool} {xs:List eY} (ha:Sl w X 4 a (xs.map eY.l)):
  Ct pg 215 #[I c,B aa2,a] w X nX λv _ _=>v=B (codeOk c aa2 xs):=by
 intro w0 hk;replace ha:=ha.mv hk.cd;have kV:=ha.gN;refine aah.1 λhs=>?_;cases aa2<;>
 repeat' first|refine ao ?_;intros|refine cP ?_ ?_<;>intros|with_reducible apply cJ|(refine qr ?_;intro wa hk;(simp_all [codeOk]<;>omega))|(refine qv (aa1  qA) hs ?_ ?_<;>intro _ w X hs)
def NT (l:List Int) (n:Int):Bool:=l.any λx=>decide (x=n)
theorem afG {xs:List Int} (ha:Sl w X 1 a (xs.map I1)):
  Ct pg 219 #[a,I z] w X nX λv _ _=>v=B (NT xs z):=by
 intro w0 hk;replace ha:=ha.mv hk.cd;have kV:=ha.gN;refine abV.1 λhs=>?_;repeat' refine ao ?_;intros
 refine eI (λn a w X=> ∃i:Nat,a=I (i:Nat)/\n=(xs).length-i/\i<=(xs).length/\ai (bN w0) w0 X w/\NT xs z=NT (xs.drop i) z) (xs).length ⟨0,rfl,rfl,aq _,hs,by simp⟩ ?_;rintro n a w X ⟨i,rfl,rfl,hi,hs,hw⟩;rcases dD (xs) i with⟨cx,x,hx,hd⟩|⟨dA,hd⟩
 ·rw[hd] at hw;repeat' first|refine aL ?_;intros|refine cP ?_ ?_<;>intros|(refine qr ?_;intro wa hk;(rw[hw];simp[NT, *]))|((with_reducible refine dS ((xs).length-(i+1)) ?_ ?_);omega;exact⟨i+1,by simp,rfl,by omega,hs,by rw[hw];simp[NT, *]⟩)
 ·rw[hd] at hw;repeat' first|refine aL ?_;intros|(refine qr ?_;intro wa hk;(rw[hw];rfl))
def NU (l:List Rec):Bool:=l.all (λr=>decide (r.fF=0))&&decide ((l.length:Int)<=8)
theorem aa3 {xs:List Rec} (ha:fh w X 29 a Rec.rd xs) (ml: ∀r∈xs,r.small) (kz: ∀r∈xs,r.err=0->(gd r).length<=2^33):
  Ct pg 150 #[a] w X nX λv _ _=>v=B (NU xs):=by
 intro w0 hk;replace ha:=fh.mv ha Rec.mv hk.cd;have kV:=ha.len;refine Wi.1 λhs=>?_;repeat' refine ao ?_;intros
 refine eI (λn a w X=> ∃i:Nat,a=I (i:Nat)/\n=(xs).length-i/\i<=(xs).length/\ai (bN w0) w0 X w/\xs.all (λr=>decide (r.fF=0))=(xs.drop i).all (λr=>decide (r.fF=0))) (xs).length ⟨0,rfl,rfl,aq _,hs,by simp⟩ ?_;rintro n a w X ⟨i,rfl,rfl,hi,hs,hw⟩;rcases dD (xs) i with⟨cx,x,hx,hd⟩|⟨dA,hd⟩
 ·rw[hd,iY] at hw;have hxm:=ax hx;repeat' first|refine aL ?_;intros|((with_reducible apply acK);assumption;(try (case hz=>rfl));(case hr=>exact qR);(try (case hz=>omega));(case ht=>kernel_rfl);(case hs=>kernel_rfl);intros)
  refine cA (D5 (r:=x) (Rec.at.mv aQ hs.mv) (ml x hxm) (kz x hxm)) kQ hs.has ?_;rintro v wa w2 X2 hq hle gu bA;replace hs:=hs.trans bA;by_cases he:x.fF=0
  ·rw[if_neg zQ] at hq;obtain⟨vb,rfl,_⟩:=hq;repeat' first|refine aL ?_;intros|((with_reducible refine dS ((xs).length-(i+1)) ?_ ?_);omega;exact⟨i+1,by simp,rfl,by omega,hs,by rw[hw];simp[he]⟩)
  ·rw[if_pos he] at hq;subst hq;repeat' first|refine aL ?_;intros|(refine qr ?_;intro wa hk;(simp[NU,hw,he]))
 ·rw[hd] at hw;repeat' first|refine aL ?_;intros|refine cP ?_ ?_<;>intros|(refine qr ?_;intro wa hk;(simp_all [NU]))
theorem aqs {a b:Int} (h:N (.int .i64 (max a b))):aX P X w (lx #[t,t] ty #[.int .i64 a,.int .i64 b]) N:=
 bB (λwa=>by
  simp only[lx,List.foldlM];by_cases hc:b>a
  ·have:max a b=b:=by omega
   simp[si,hc,this]
  ·have:max a b=a:=by omega
   simp[si,hc,this]) h
abbrev Ho (s:bX):List Value:=[I s.wall,I s.dx,I s.node]
theorem agp {node:Int} {fl:bX} (h1:1<=node) (h2:node<=63) (h3:fl.may=true):Ct pg 83 #[I node,fl.v] w X nX λv wa w'=>
  ∃cb,v= .tuple #[ptr cb 0,I 0]/\aI w' (made wa w') cb (Ho { fl with node:=node }) 259:=by
 intro w0 hk;refine afi.1 λhs=>?_;repeat' refine aL ?_;intros
 refine rV (pO fl) kQ hs.has λw1 X1 ay=>?_;rw[h3];replace hs:=hs.trans ay;have hz:=hs.kp.size;repeat' first|refine ao ?_;intros|(refine OQ hs ?_;intro bx w X fY ay gn hs br)
 exact bQ (gn.trans hs) λwa aK=>⟨bx,rfl,⟨⟨by omega,(br.kp aK).lt⟩,(br.kp aK).2⟩⟩
def bX.tM (s:bX) (gM:Int):bX×Int:=
 if max gM 0>281474976710656 then(.zero,15)else if max gM 0>s.wall then(⟨max gM 0,0,s.node⟩,0)else if s.dx>=65535 then(.zero,16)else(⟨s.wall,s.dx+1,s.node⟩,0)
abbrev IY:Nat:=259
section
variable {c : bX}
theorem adJ {gM:Int} (h:aI w X cb (Ho c) IY) (hl:c.dx<2^60) (Bz: -(2^60)<c.dx):Ct pg 161 #[ptr cb 0,I gM] w X nX λv _ _=>v= .tuple #[(c.tM gM).1.v,I (c.tM gM).2]:=by
 intro w0 hk;replace h:=h.mv hk.cd;unfold bX.tM;refine Od.1 λhs=>?_;refine aqs ?_;generalize max gM 0=p;repeat' first|refine ao ?_;intros|refine cP ?_ ?_<;>intros|with_reducible apply cJ|(refine qr ?_;intro wa hk;(simp[*];try omega))
theorem WO {t:bX} (h:aI w X cb (Ho c) IY) (ht:t.may=true):
  Ct pg 154 #[ptr cb 0,t.v] w X (· =cb) λv _ w'=>v=I 0/\aI w' (· =cb) cb (Ho (c.later ⟨t.wall,t.dx,c.node⟩)) IY:=by
 intro w0 hk;have hF:FX (· =cb) X w:=λk ah=>by subst ah;exact⟨h.1,h.lt⟩
 have hT:=hF.ft hk;replace h:=h.mv hk.cd;refine Jr.1 λ_=>?_;refine rV (pO t) kQ (λ_ h=>h) λw1 X1 ay=>?_;rw[ht];replace h:=h.since ay;have hs:=ai.fK ay.has;repeat' refine ao ?_;intros
 refine rV (O3 c ⟨t.wall,t.dx,c.node⟩) kQ hs.has λw3 X3 dm=>?_;have h3:=h.since (hs.trans dm);have dX:Ft w0 (· =cb) w3 X3 (· =cb):=⟨hT.s.trans (ay.trans (hs.trans dm)),λk ah=>by subst ah;exact h3.1,λk ah=>.inl ah⟩;obtain⟨r,hr⟩: ∃r,r=c.later ⟨t.wall,t.dx,c.node⟩:=⟨_,rfl⟩;rw[<-hr];clear hr;repeat' refine ao ?_;intros
 refine GD (o:=0) h3 zQ kQ sQ rfl rfl dX.s.has λw4 X4 c4 zO=>?_;have fP:=dX.ea (F':=(· =cb)) c4 (λk ah=>ah) λk ah=>.inl ah
 skip
 exact fP.fin λwa aK=>⟨rfl,(zO.kp aK).own⟩
end
section
variable {kb pb : Nat} {hm : List (BA × List pJ)} {pm : List (bu × gv)} {low : bX}
end
def xr (a b:Int):Int:=IntKind.u32.wrap (aF IntKind.u32.bits a^^^aF IntKind.u32.bits b).toNat
def xr8 (a b:Int):Int:=IntKind.u8.wrap (aF IntKind.u8.bits a^^^aF IntKind.u8.bits b).toNat
def an (a b:Int):Int:=IntKind.u32.wrap (aF IntKind.u32.bits a&&& aF IntKind.u32.bits b).toNat
def sr (a n:Int):Int:=a.fdiv (2^min n.toNat IntKind.u32.bits)
def ng (a:Int):Int:=IntKind.u32.wrap (-a)
def nt (a:Int):Int:=xr IntKind.u32.max a
def stp (c:Int):Int:=xr (sr c 1) (an 2197175160 (ng (an c 1)))
def it:Nat->Int->Int
 |0,c=>c
 |n+1,c=>stp (it n c)
def Eu (i:Int):Int:=it 8 (IntKind.u32.wrap i)
def afH (l:List Nat) (c:Int):Int:=l.foldl (λ(c:Int) (x:Nat)=>it 8 (xr c (IntKind.u32.wrap x))) c
def aa4 (l:List Nat) (c:Int):Int:=l.foldl (λ(c:Int) (x:Nat)=>xr (sr c 8) (Eu (xr8 (IntKind.u8.wrap c) x))) c
def LK (l:List Nat):Int:=nt (if l.length<64 then afH l 4294967295 else aa4 l 4294967295)
def Dy (l:List Nat):Nat:=(LK l).toNat
def uA (n:Nat):List Nat:=[n % 256,n/256 % 256,n/65536 % 256,n/16777216 % 256]
def di (p:List Nat):List Nat:=uA p.length++uA (Dy (uA p.length))++p++uA (Dy p)
theorem wrap32 (n:Int):IntKind.u32.wrap n=n % 4294967296:=by simp[IntKind.wrap,mP,jW]
theorem aj5 (a b:Int):0<=xr a b/\xr a b<4294967296:=by unfold xr;rw[wrap32];omega
theorem ahq (a b:Int):0<=xr8 a b/\xr8 a b<256:=by unfold xr8;rw[No];omega
def SM (l:List Nat):0<=LK l/\LK l<4294967296:=aj5 _ _
theorem Rk (l:List Nat):((Dy l:Nat):Int)=LK l:=zo (SM l).1
theorem af8 (l:List Nat):Dy l<4294967296:=by have:=Rk l;have:=SM l;omega
theorem Np (n:Nat):(uA n).length=4:=rfl
theorem qU (p:List Nat):(di p).length=p.length+12:=by simp only[di,aa,Np];omega
section
variable {m : Bool} {a b : Int}
def afI (h:N (.int .u32 (xr a b))):aX P X w (binOp .xor t (.int .u32 a) (.int .u32 b)) N:=SY h
def aqt (h:N (.int .u8 (xr8 a b))):aX P X w (binOp .xor t (.int .u8 a) (.int .u8 b)) N:=SY h
def aoZ (h:N (.int .u32 (an a b))):aX P X w (binOp .and t (.int .u32 a) (.int .u32 b)) N:=Nk h
def aj6 (hb: ¬b<0) (h:N (.int .u32 (sr a b))):aX P X w (binOp .shr t (.int .u32 a) (.int .u64 b)) N:=ET hb h
theorem ao0 (h:N (.int .u32 (ng a))):aX P X w (bt .neg (.int .u32 a)) N:=bB (λwa=>by simp[bt,ng,Op.intArith]) h
theorem ao1 (h:N (.int .u32 (nt a))):aX P X w (bt .xor (.int .u32 a)) N:=bB (λwa=>by simp[bt,nt,xr,Op.intBits,jW]) h
theorem ada {k:IntKind} (hz:z=i) (hi:i<P.arrayLen t) (ht:P.underlying t=some (.array (P.arrayLen t) (P.elem t))) (hs:(P.info? (P.elem t)).map (·.size)=some 1) (h:N (ptr g (o+i))):
  aX P X w (Instr.indexAt t (ptr g o) (.int k z)) N:=by
 subst hz;refine bB (v:=ptr g (o+i)) (λwa=>?_) h
 show(Instr.indexAt t (.pointer (some ⟨g,o,none⟩)) _).run P wa=_
 rw[run_indexAt_array (h:=ht),if_pos zQ];cases hq:P.info? (P.elem t)with
 |none=>simp[hq] at hs
 |some inf=>
  have:inf.size=1:=by simpa [hq] using hs
  simp[sizeOf,typeInfo,hq,this,Aw]
end
abbrev U4 (x:Int):Value:=.int .u32 x
theorem WQ:Ct pg 324 #[] w X nX λv wa w'=>v= .agg ((dw 256).map λi:Nat=>U4 (Eu (i:Int))).toArray:=by
 intro w0 hk;refine TR.1 λhs=>?_;have hT:Ft w0 nX w0 (bN w0) nX:=Ft.init λ_ h=>h.elim;refine Ny (l:=gF 256 (U4 0)) hs.has kQ λb w1 X1 hb ay hr=>?_;have eh:Ft w0 nX w1 X1 (λk=>k=b):=(hT.since ay).more λk ah=>by subst ah;exact .inr ⟨hr.1,hb⟩
 refine BE (λn a _ _ w X=> ∃i:Nat,a=I (i:Nat)/\n=256-i/\i<=256/\Ft w0 nX w X (λk=>k=b)/\aI w X b (((dw i).map λi:Nat=>U4 (Eu (i:Int)))++gF (256-i) (U4 0)) 447) 256 ⟨0,rfl,rfl,aq _,eh,by simpa using hr⟩ ?_;rintro n a _ _ w X ⟨i,rfl,rfl,hi,cX,jI⟩;repeat' first|refine ao ?_;intros|refine cP ?_ ?_<;>intros
 ·refine gO (λn a c w' X'=> ∃j:Nat,a=I (j:Nat)/\c=U4 (it j (IntKind.u32.wrap i))/\n=8-j/\j<=8/\w'=w/\X'=X) 8 ⟨0,rfl,rfl,rfl,aq _,rfl,rfl⟩ ?_;rintro n a c _ _ ⟨j,rfl,rfl,rfl,hj,rfl,rfl⟩;repeat' first|refine ao ?_;intros|refine cP ?_ ?_<;>intros|(with_reducible apply aj6);omega|(with_reducible apply aoZ)|(with_reducible apply ao0)|(with_reducible apply afI)
  ·exact fZ (8-(j+1)) zQ ⟨j+1,by simp,rfl,rfl,by omega,rfl,rfl⟩
  ·have hj8:j=8:=by omega
   subst hj8;have UE:pg.arrayLen 447=256:=by kernel_rfl
   refine ada rfl (by rw[UE];omega) kQ kQ ?_;rw[ff];refine EH jI kQ oQ rfl rfl cX.s.has λw3 X3 c Ei=>?_;have dX:Ft w0 nX w3 X3 (λk=>k=b):=cX.ea c (λk ah=>ah) λk ah=>.inl ah;repeat' refine ao ?_;intros
   refine zU (256-(i+1)) zQ ⟨i+1,by simp,rfl,by omega,dX,?_⟩;have e:dr (((dw i).map λi:Nat=>U4 (Eu (i:Int)))++gF (256-i) (U4 0)) i (bg (U4 (it 8 (IntKind.u32.wrap (i:Int))))).toList=((dw (i+1)).map λi:Nat=>U4 (Eu (i:Int)))++gF (256-(i+1)) (U4 0):=by
    have hl:((dw i).map λi:Nat=>U4 (Eu (i:Int))).length=i:=by simp
    rw[show 256-i=(256-(i+1))+1 by omega,List.replicate_succ];unfold dr;rw[ik hl,List.range_succ,az,List.map_singleton,ak,ak];have hd: ∀r:List Value,(((dw i).map λi:Nat=>U4 (Eu (i:Int)))++U4 0::r).drop (i+1)=r:=λr=>by
     rw[<-List.drop_drop,List.drop_left' hl];rfl
    have h1:(bg (U4 (it 8 (IntKind.u32.wrap (i:Int))))).toList=[U4 (Eu (i:Int))]:=rfl;rw[h1,bH,hd]
   rw[<-e];exact Ei
 ·have hi6:i=256:=by omega
  subst hi6;have Ei:aI w X b ((dw 256).map λi:Nat=>U4 (Eu (i:Int))) 447:=by simpa using jI
  have hl:((dw 256).map λi:Nat=>U4 (Eu (i:Int))).length=256:=by simp
  generalize hL:((dw 256).map λi:Nat=>U4 (Eu (i:Int)))=L at Ei hl⊢;have CH:L.all aJ.one=true:=by rw[<-hL];simp;intros;rfl
  refine adL Ei.cells (Mv.refl _ _) kQ hl ?_;refine Y8 ?_;refine dJ.2 ⟨by simpa [bg] using hl,dJ.2 ⟨by simpa [bg] using CH,?_⟩⟩;refine agR ?_;refine dJ.2 ⟨rfl,?_⟩;rw[List.drop_zero,aB zQ];exact cX.fin λwa aK=>rfl
theorem VW {β:Type} (f:β->Nat->β) (l:List Nat) {x:Nat} (c:β) (h:l[i]? =some x):(l.take (i+1)).foldl f c=f ((l.take i).foldl f c) x:=by
 rw[cn,h];simp
theorem C9 {l:List Nat} (h:Sl w X 1 vb (l.map U1)):Ct pg 254 #[vb] w X nX λv wa w'=>v=U4 (LK l):=by
 intro w0 hk;replace h:=h.mv hk.cd;have hlen:=h.gN;refine aal.1 λhs=>?_;repeat' first|refine ao ?_;intros|refine cP ?_ ?_<;>intros
 ·have h64:l.length<64:=by omega
  refine BE (λn a _ c w X=> ∃i:Nat,a=I (i:Nat)/\c=U4 (afH (l.take i) 4294967295)/\n=l.length-i/\i<=l.length/\ai (bN w0) w0 X w) l.length ⟨0,rfl,rfl,rfl,aq _,hs⟩ ?_;clear hs;rintro n a _ _ w X ⟨i,rfl,rfl,rfl,hi,hs⟩;rcases dD l i with⟨cx,x,hx,hd⟩|⟨dA,hd⟩
  ·repeat' first|refine aL ?_;intros|(with_reducible apply afI)
   refine gO (λn a c w' X'=> ∃j:Nat,a=I (j:Nat)/\c=U4 (it j (xr (afH (l.take i) 4294967295) (IntKind.u32.wrap x)))/\n=8-j/\j<=8/\w'=w/\X'=X) 8 ⟨0,rfl,rfl,rfl,aq _,rfl,rfl⟩ ?_;rintro n a c _ _ ⟨j,rfl,rfl,rfl,hj,rfl,rfl⟩;repeat' first|refine ao ?_;intros|refine cP ?_ ?_<;>intros|(with_reducible apply aj6);omega|(with_reducible apply aoZ)|(with_reducible apply ao0)|(with_reducible apply afI)
   ·exact fZ (8-(j+1)) zQ ⟨j+1,by simp,rfl,rfl,by omega,rfl,rfl⟩
   ·have hj8:j=8:=by omega
    subst hj8;refine zU (l.length-(i+1)) zQ ⟨i+1,by simp,?_,rfl,by omega,hs⟩;unfold afH;rw[VW _ l _ hx]
  ·have nN:i=l.length:=by omega
   subst nN;repeat' first|refine aL ?_;intros|(with_reducible apply ao1)|(refine qr ?_;intro wa hk;(rw[LK,if_pos h64,lG]))
 ·have h64: ¬l.length<64:=by omega
  refine cA WQ kQ hs.has ?_;rintro _ wa w1 X1 rfl hle gu ay;replace hs:=hs.trans ay;refine Ny (l:=gF 256 (U4 0)) hs.has kQ λb w2 X2 hb bA hr=>?_;have nV:=hs.trans bA;have hT:Ft w0 nX w2 X2 (λk=>k=b):=((Ft.init (w:=w0) (F0:=nX) λ_ h=>h.elim).since nV).more λk ah=>by subst ah;exact .inr ⟨hr.1,by have:=hs.kp.size;omega⟩
  have hl:((dw 256).map λi:Nat=>U4 (Eu (i:Int))).length=256:=by simp
  have DW: ∀i:Nat,i<256->((dw 256).map λi:Nat=>U4 (Eu (i:Int)))[i]? =some (U4 (Eu (i:Int))):=λi hi=>by simp[hi]
  have CH:((dw 256).map λi:Nat=>U4 (Eu (i:Int))).all aJ.one=true:=by simp;intros;rfl
  generalize ((dw 256).map λi:Nat=>U4 (Eu (i:Int)))=L at hl DW CH⊢;refine EH hr kQ sQ (by simpa [bg] using hl) (by simpa [bg] using CH) hT.s.has λw3 X3 c Ei=>?_;have dX:Ft w0 nX w3 X3 (λk=>k=b):=hT.ea c (λk ah=>ah) λk ah=>.inl ah;have e:dr (gF 256 (U4 0)) 0 (bg (.agg L.toArray)).toList=L:=by
   unfold dr;simp[bg,hl]
  rw[e] at Ei;have dm:ai (bN w0) w0 X3 w3:=⟨⟨dX.s.kp.os,dX.s.kp.tape,dX.s.kp.output,dX.s.kp.size,λk ah=>dX.s.kp.block k ⟨ah,λh=>h.elim⟩⟩,λk ah=>dX.s.sub k ⟨ah,λh=>h.elim⟩,dX.s.has⟩;clear hs nV;have hs:=dm;repeat' refine ao ?_;intros
  refine gO (λn a c w X=> ∃i:Nat,a=I (i:Nat)/\c=U4 (aa4 (l.take i) 4294967295)/\n=l.length-i/\i<=l.length/\w=w3/\X=X3) l.length ⟨0,rfl,rfl,rfl,aq _,rfl,rfl⟩ ?_;rintro n a _ _ _ ⟨i,rfl,rfl,rfl,hi,rfl,rfl⟩;rcases dD l i with⟨cx,x,hx,hd⟩|⟨dA,hd⟩
  ·repeat' first|refine aL ?_;intros|(with_reducible apply aj6);omega|(with_reducible apply aqt)
   have hrg:=ahq (IntKind.u8.wrap (aa4 (l.take i) 4294967295)) x;obtain⟨q,hq⟩: ∃q:Nat,xr8 (IntKind.u8.wrap (aa4 (l.take i) 4294967295)) x=(q:Int):=⟨_,(zo hrg.1).symm⟩;have UE:pg.arrayLen 447=256:=by kernel_rfl
   refine ada hq (by rw[UE];omega) kQ kQ ?_;rw[ff];have UF:=Ei.cells.Xf (DW q zQ);rw[ff] at UF;repeat' first|refine ao ?_;intros|(with_reducible apply afI)
   refine fZ (l.length-(i+1)) zQ ⟨i+1,by simp,?_,rfl,by omega,rfl,rfl⟩;unfold aa4;rw[VW _ l _ hx,<-hq];rfl
  ·have nN:i=l.length:=by omega
   subst nN;repeat' first|refine aL ?_;intros|(with_reducible apply ao1)|(refine qr ?_;intro wa hk;(rw[LK,if_neg h64,lG]))
theorem afJ {u:Nat} (k:Nat) (hk:k<=32) (h:N (.int .u32 ((u/2^k:Nat):Int))):aX P X w (binOp .shr t (.int .u32 (u:Int)) (.int .u64 (k:Int))) N:=by
 refine ET zQ ?_;have e:((u:Int)).fdiv (2^min ((k:Int)).toNat IntKind.u32.bits)=((u/2^k:Nat):Int):=by
  rw[show min ((k:Int)).toNat IntKind.u32.bits=k by simp[mP];omega];rw[Int.fdiv_eq_ediv_of_nonneg _ (by exact_mod_cast aq _)]
  norm_cast
 rw[e];exact h
theorem aqu (a b c d:Int):Instr.fill (λi=>some (i*1,1)) ((Array.range (4*1)).map ((Value.int .u8 0).cells[· % (Value.int .u8 0).cells.size]!)) [(0,.int .u8 a),(1,.int .u8 b),(2,.int .u8 c),(3,.int .u8 d)]=some #[.int .u8 a,.int .u8 b,.int .u8 c,.int .u8 d]:=by kernel_rfl
theorem HR {n:Nat} (h:Ow w F 5 1 v (bs.map U1)) (hF:FX F X w) (hl:bs.length<=2^40):
  Ct pg 279 #[v,U4 n] w X F λr wa w'=> ∃F',(∀k,F' k->F k\/made wa w' k)/\Ow w' F' 5 1 r ((bs++uA n).map U1):=by
 intro w0 hk;replace h:=h.mv (hF.mv hk);have hT:=hF.ft hk;refine aao.1 λ_=>?_;refine Sy kQ kQ ?_;refine afJ 8 zQ ?_;refine Sy kQ kQ ?_;refine afJ 16 zQ ?_;refine Sy kQ kQ ?_;refine afJ 24 zQ ?_;refine Sy kQ kQ ?_;refine Xb (bytes:=1) (rows:=(uA n).map U1) #[.int .u8 (n % 256:Nat),.int .u8 (n/256 % 256:Nat),.int .u8 (n/65536 % 256:Nat),.int .u8 (n/16777216 % 256:Nat)] (.int .u8 0) hT.s.has kQ kQ dQ dQ (aqu _ _ _ _) sQ rfl rfl λs w1 X1 ay ho=>?_;have eh:=hT.since ay;refine R7 kQ ay.has ((h.mv (ay.gW hT.bo)).mono eh.bo) ho.sl (by intro r hr u hu;obtain⟨x,_,rfl⟩:=List.mem_map.1 hr;simp only[U1,av] at hu;subst hu;rfl) (by simp[uA];omega) (by simp[uA];omega) λv' w2 X2 c jV dg=>?_;have hF2: ∀g,v'.ownBlock=some g->F g\/(X2 g/\w1.heap.size<=g):=λg hg=>by
  rcases dg with e|⟨g',e,dA⟩
  ·exact .inl (h.bo (e▸hg)).1
  ·rw[hg] at e;have:g=g':=Option.some.inj e;subst this;exact .inr ⟨(jV.bo hg).1,dA⟩
 have cX:Ft w0 F w2 X2 (λk=>F k\/(X2 k/\w1.heap.size<=k)):=eh.ea c (λk ah=>(h.bo ah).1) λk ah=>ah;refine cX.fin λwa aK=>⟨_,cX.jz aK λ_ h=>h,?_⟩;rw[az];exact jV.tight.mv λk ah Bz=>⟨hF2 k ah,aK.block k (jV.bo ah).1⟩
def Ft.aj7 {wa:World} {F':XS} (h:Ft w0 nX w' X' (λk=>F k\/made wa w' k)) (ho:Ow w' F' e k v rows) (DB: ∀k,F' k->F k\/made wa w' k):Ow w' (Ep w0 X') e k v rows:=
 ho.mono λk hk=>⟨h.bo k (DB k hk),(h.v k (DB k hk)).elim (λh=>h.elim) id⟩
theorem WR {p:List Nat} (h:Sl w X 1 vp (p.map U1)):Ct pg 199 #[vp] w X nX λv wa w'=>
  if 262144<p.length then v= .tuple #[.slice none 0 0,I 2] else∃vb,v= .tuple #[vb,I 0]/\Ow w' (made wa w') 5 1 vb ((di p).map U1):=by
 intro w0 hk;replace h:=h.mv hk.cd;have hlen:=h.gN;refine TM.1 λhs=>?_;repeat' first|refine ao ?_;intros|refine cP ?_ ?_<;>intros|(refine qr ?_;intro wa hk;(rw[if_pos zQ]))
 have hn: ¬262144<p.length:=by omega
 refine agW (e:=5) (k:=1) (c:=p.length+12) (bytes:=1) hs.has kQ sQ zQ zQ zQ λv0 w1 X1 ay ho=>?_;have hT:Ft w0 nX w1 X1 (Ep w0 X1):=((Ft.init (w:=w0) (F0:=nX) λ_ h=>h.elim).since ay).PM;have hO:Ow w1 (Ep w0 X1) 5 1 v0 (([]:List Nat).map U1):=(ho.ow.tight).mono λk ah=>⟨(ho.ow.bo ah).1,(ho.ge ah).1⟩;have wu:IntKind.u32.wrap (p.length:Int)=(p.length:Nat):=by rw[wrap32];omega
 repeat' refine ao ?_;intros
 rw[wu];refine hT.call (HR hO (hT.fx λ_ h=>h) sQ) kQ (λ_ h=>h) λv1 xQ w2 X2 hq hle gu cX hc=>?_;obtain⟨F2,hF2,hO2⟩:=hq;have hO2:=Ft.aj7 cX hO2 hF2;replace cX:=cX.PM;rw[List.nil_append] at hO2;refine cA (C9 (hO2.sl.mono cX.bo)) kQ cX.s.has ?_;rintro _ zR w3 X3 rfl qS mN dm;have hO3:Ow w3 (Ep w0 X3) 5 1 v1 ((uA p.length).map U1):=(hO2.mv (dm.gW cX.bo)).mono λk ah=>⟨dm.sub k ah.1,ah.2⟩;replace cX:=(cX.since dm).PM;rw[<-Rk];refine cX.call (HR hO3 (cX.fx λ_ h=>h) (by simp[uA])) kQ (λ_ h=>h) λv4 zS w4 X4 hq hle gu fP hc=>?_;obtain⟨F4,hF4,hO4⟩:=hq;have hO4:=Ft.aj7 fP hO4 hF4;replace fP:=fP.PM;have hp4:Sl w4 X4 1 vp (p.map U1):=h.mv fP.DO.mv;refine apZ fP hO4 kQ hp4 (by intro r hr u hu;obtain⟨x,_,rfl⟩:=List.mem_map.1 hr;simp only[U1,av] at hu;subst hu;rfl) (by simp[uA];omega) (by simp[uA];omega) λv5 w5 X5 iO hO5 Fm _=>?_;refine cA (C9 (h.mv iO.DO.mv)) kQ iO.s.has ?_;rintro _ wa6 w6 X6 rfl YN LU tY;have hO6:Ow w6 (Ep w0 X6) 5 1 v5 ((uA p.length++uA (Dy (uA p.length))++p).map U1):=by
  rw[az];exact(hO5.mv (tY.gW iO.bo)).mono λk ah=>⟨tY.sub k ah.1,ah.2⟩
 replace iO:=(iO.since tY).PM;rw[<-Rk];refine iO.call (HR hO6 (iO.fx λ_ h=>h) (by simp[uA];omega)) kQ (λ_ h=>h) λv7 Q6 w7 X7 hq hle gu DC hc=>?_;obtain⟨F7,hF7,hO7⟩:=hq
 skip
 refine DC.DO|>λCg=>bQ Cg λwa aK=>?_;rw[if_neg hn];refine⟨v7,rfl,?_⟩;exact(Ft.aj7 DC hO7 hF7).mv λk ah hl=>⟨⟨ah.2,aw hl aK.size⟩,aK.block k ah.1⟩
end Go.Proofs.YtgfijddlkhkopaaGreat