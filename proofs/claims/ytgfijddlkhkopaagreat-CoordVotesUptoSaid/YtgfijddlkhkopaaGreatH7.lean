/- Part 7 of the proof. -/
import Derived.WalkKit
import Derived.Test.YtgfijddlkhkopaaGreatH6
set_option linter.all false
open Nat renaming le_trans → ad, zero_le → ak, le_refl → au, lt_of_lt_of_le → aw, zero_add → fj
open List renaming length_append → aa, append_assoc → ao, length_map → af, take_of_length_le → az, range → dy, length_take → aD, length_singleton → bF, filter_cons → eP, map_append → aC, length_cons → aJ, take_add_one → bW, replicate → gG, mem_cons_of_mem → bG, map_map → cd, length → bB, foldl_cons → fN, map_cons → bh, mem_singleton → ax, all_cons → iZ, length_nil → bL, mem_of_mem_take → dK, reverse_cons → uY, length_reverse → tc, foldl_append → nu, toList_toArray → cX, flatten_cons → dd, mem_of_getElem? → av, not_mem_nil → dJ, getElem?_append_right → bQ, flatten_append → dX, take_append_drop → fy, take_left' → im, take_length → ke
open BitVec renaming ofInt → aF
open Go.Value renaming cells → ba, slice → tF, tuple → dq
open Go.Op renaming unary → bI
open Option.some renaming injEq → aj
open Go.Exit renaming inBlock → we
open Go.Fence renaming wide → gu
open Go.IntKind renaming signed → jZ, bits → na
open Go.Instr renaming findNow → kH, checkKey → gU, mapUpdate → cR
open Go.WideElems renaming rg → ni, rd → sD
open Function renaming comp_def → jQ
open Int renaming mul_lt_mul_of_pos_right → sX, toNat_of_nonneg → ze
open Option renaming getD_some → BN, toList_some → mw
open Go.Builtin renaming max_ → lB, max2 → sE
namespace Go.Proofs.YtgfijddlkhkopaaGreat
open Go.Proofs.Tryz renaming prog → pg
open Go.aK Go.RowKit Go.Sort Ieee
set_option maxRecDepth 100000
set_option maxHeartbeats 4000000
def Jv (t:Nat):Nat:=(t % 2)*2^63+9218868437227405312+1+(t/2) % (2^52-1)
def Vd (op:BinOp) (x y:Nat) (w:World):Nat:=match floatBits op .f64 x y with|some r=>r|none=>Jv (w.tape w.drawn (.nanBits .f64 x y))
def Ve (op:BinOp) (x y:Nat) (w:World):World:=match floatBits op .f64 x y with|some _=>w|none=> { w with drawn:=w.drawn+1 }
def GS (op:BinOp) (x y:Nat):Nat:=match floatBits op .f64 x y with|some r=>canon r|none=>9221120237041090560
theorem alg (f:Format) (n:Nat) (h:f.infRung<n % f.signWeight) (h2:f.binade<=f.infRung): ∃s q,f.read n= .nan s q:=by
 unfold Format.read;refine⟨n/f.signWeight % 2==1,n % f.signWeight-f.infRung,?_⟩
 grind
theorem ajf (t:Nat): ∃s q,(FloatKind.f64.format).read (Jv t)= .nan s q:=by
 have e1:FloatKind.f64.format.signWeight=9223372036854775808:=by decide
 have e2:FloatKind.f64.format.binade=4503599627370496:=by decide
 have e3:FloatKind.f64.format.infRung=9218868437227405312:=by decide
 refine alg _ _ ?_ ?_
 ·have e:Jv t=9223372036854775808*(t % 2)+(9218868437227405312+1+t/2 % 4503599627370495):=by
   show t % 2*9223372036854775808+9218868437227405312+1+t/2 % 4503599627370495=_
   omega
  rw[e1,e3,e,Nat.mul_add_mod,Nat.mod_eq_of_lt zQ];omega
 omega
theorem agF (t:Nat):canon (Jv t)=9221120237041090560:=by
 have h:pY (Jv t) (Jv t)=false:=by
  obtain⟨s,q,e⟩:=ajf t;unfold pY Format.order;rw[e];rfl
 unfold canon;rw[h];rfl
theorem GU (op:BinOp) (x y:Nat) (w:World):canon (Vd op x y w)=GS op x y:=by grind [Vd,GS,agF]
theorem Ns (op:BinOp) (x y:Nat) (w:World):Ext w (Ve op x y w):=by
 unfold Ve;split
 ·exact⟨rfl,rfl,rfl,au _,λ_ _ _=>rfl⟩
 ·exact⟨rfl,rfl,rfl,au _,λ_ _ _=>rfl⟩
variable {w : World} {t : TypeId} {P : Program}
theorem GW (op:BinOp) (h:op= .add\/op= .sub\/op= .mul\/op= .quo) (x y:Nat):(binOp op t (.float .f64 x) (.float .f64 y)).run P w= .ok (.float .f64 (Vd op x y w)) (Ve op x y w):=by
 unfold Vd Ve;cases hf:floatBits op .f64 x y with
 |some r=>grind [run_float_arith]
 |none=>
  unfold floatBits at hf;rcases h with rfl|rfl|rfl|rfl<;>simp only at hf<;>simp[binOp,Op.floatArith,hf,choose,Sem.run,Question.forced,Question.cut,Jv]
@[go_sem] theorem arv (x y:Nat):(binOp .add t (.float .f64 x) (.float .f64 y)).run P w= .ok (.float .f64 (Vd .add x y w)) (Ve .add x y w):=GW _ sQ x y
@[go_sem] theorem arw (x y:Nat):(binOp .sub t (.float .f64 x) (.float .f64 y)).run P w= .ok (.float .f64 (Vd .sub x y w)) (Ve .sub x y w):=GW _ sQ x y
@[go_sem] theorem arx (x y:Nat):(binOp .mul t (.float .f64 x) (.float .f64 y)).run P w= .ok (.float .f64 (Vd .mul x y w)) (Ve .mul x y w):=GW _ sQ x y
@[go_sem] theorem ary (x y:Nat):(binOp .quo t (.float .f64 x) (.float .f64 y)).run P w= .ok (.float .f64 (Vd .quo x y w)) (Ve .quo x y w):=GW _ sQ x y
theorem agG (a b:Nat):Pure pg 350 #[.float .f64 a,.float .f64 b] (.float .f64 (GS .add a b)):=by
 intro W
 go_enter Tryz.func350,Tryz.ntmps350
 go_wp2_with (go_at_call 347;refine(rP _ _).mono ?_;rintro e w1 ⟨rfl,x1⟩)
 all_goals (try simp only[we,Exit.then])
 refine bodyPost_ret (v:=.float .f64 (GS .add a b)) ?_ rfl ⟨rfl,(Ns _ _ _ _).trans x1⟩;rw[results_tmp (t:=4) (by rfl)];simp[GU]
theorem agH (a b:Nat):Pure pg 351 #[.float .f64 a,.float .f64 b] (.float .f64 (GS .sub a b)):=by
 intro W
 go_enter Tryz.func351,Tryz.ntmps351
 go_wp2_with (go_at_call 347;refine(rP _ _).mono ?_;rintro e w1 ⟨rfl,x1⟩)
 all_goals (try simp only[we,Exit.then])
 refine bodyPost_ret (v:=.float .f64 (GS .sub a b)) ?_ rfl ⟨rfl,(Ns _ _ _ _).trans x1⟩;rw[results_tmp (t:=4) (by rfl)];simp[GU]
theorem agI (a b:Nat):Pure pg 352 #[.float .f64 a,.float .f64 b] (.float .f64 (GS .mul a b)):=by
 intro W
 go_enter Tryz.func352,Tryz.ntmps352
 go_wp2_with (go_at_call 347;refine(rP _ _).mono ?_;rintro e w1 ⟨rfl,x1⟩)
 all_goals (try simp only[we,Exit.then])
 refine bodyPost_ret (v:=.float .f64 (GS .mul a b)) ?_ rfl ⟨rfl,(Ns _ _ _ _).trans x1⟩;rw[results_tmp (t:=4) (by rfl)];simp[GU]
theorem agJ (a b:Nat):Pure pg 353 #[.float .f64 a,.float .f64 b] (.float .f64 (GS .quo a b)):=by
 intro W
 go_enter Tryz.func353,Tryz.ntmps353
 go_wp2_with (go_at_call 347;refine(rP _ _).mono ?_;rintro e w1 ⟨rfl,x1⟩)
 all_goals (try simp only[we,Exit.then])
 refine bodyPost_ret (v:=.float .f64 (GS .quo a b)) ?_ rfl ⟨rfl,(Ns _ _ _ _).trans x1⟩;rw[results_tmp (t:=4) (by rfl)];simp[GU]
attribute [local irreducible] un jn jh ji ld1 jt st1 nW mP pN sR qj JG ET gT rY aY nU nV eW eV eU eC eF gE nB fin jl bC dF vS N9 JH JI HP JJ JK Oa Ob JL Oc Gi Gj JM JN JO Od Oe JP
def ior (a b:Int):Int:=IntKind.u64.wrap (aF IntKind.u64.bits a|||aF IntKind.u64.bits b).toNat
variable {N : Value -> Prop} {X : XS}
def apo {a b:Int} (h:N (.int .u64 (ior a b))):aY P X w (binOp .or t (.int .u64 a) (.int .u64 b)) N:=QK h
theorem anS {a:Int} (h:N (.int .u64 (Jp IntKind.u64.max a))):aY P X w (bI .xor (.int .u64 a)) N:=
 bK (λwa=>by simp[bI,Op.intBits,Jp,jZ]) h
def Tu (x:Nat):Int:=if land (canon x) 9223372036854775808≠0 then Jp IntKind.u64.max (canon x)else ior (canon x) 9223372036854775808
theorem aeV (x:Nat):Pure pg 367 #[.float .f64 x] (.int .u64 (Tu x)):=by
 intro w0;refine abq.1 λhs=>?_;repeat' first|refine aq ?_;intros|refine dg ?_ ?_<;>intros|(refine pt (Es _) hs ?_;intro w X hs)|(with_reducible refine fE hs ?_);(simp_all [Tu])|with_reducible (first|apply agu|apply apo|apply anS)
def aad (x y:Nat):Int:=if Tu x<Tu y then-1 else if Tu x>Tu y then 1 else 0
theorem DR (x y:Nat):Pure pg 349 #[.float .f64 x,.float .f64 y] (I (aad x y)):=by
 intro w0;refine Tk.1 λhs=>?_;repeat' first|refine aq ?_;intros|refine dg ?_ ?_<;>intros|(refine pt (aeV _) hs ?_;intro w X hs)|(with_reducible refine fE hs ?_);(simp_all [aad]<;>omega)
def Tv (a b:gO):Int:=
 if !a.may||!b.may then 0 else if a.kind<b.kind then-1 else if a.kind>b.kind then 1 else if a.kind=1 then aad a.num b.num else if zK a.text b.text then-1 else if a.text=b.text then 0 else 1
theorem GX (a b:gO):Pure pg 309 #[a.v,b.v] (I (Tv a b)):=by
 intro w0;refine PO.1 λhs=>?_;repeat' first|refine aq ?_;intros|refine dg ?_ ?_<;>intros|with_reducible apply cK|(refine kG (mA _) hs ?_ ?_<;>intro _ w X hs)|(refine pt (DR _ _) hs ?_;intro w X hs)|(with_reducible refine fE hs ?_);(simp_all [Tv]<;>omega)
def aae (a b:Nat):Nat:=if aad a b>0 then canon b else canon a
def aeW (a b:Nat):Nat:=if aad a b<0 then canon b else canon a
theorem abB (a b:Nat):Pure pg 354 #[.float .f64 a,.float .f64 b] (.float .f64 (aae a b)):=by
 intro w0;refine ZN.1 λhs=>?_;repeat' first|refine aq ?_;intros|refine dg ?_ ?_<;>intros|(refine pt (rP _) hs ?_;intro w X hs)|(refine pt (DR _ _) hs ?_;intro w X hs)|(with_reducible refine fE hs ?_);(simp_all [aae]<;>omega)
theorem aeX (a b:Nat):Pure pg 355 #[.float .f64 a,.float .f64 b] (.float .f64 (aeW a b)):=by
 intro w0;refine abp.1 λhs=>?_;repeat' first|refine aq ?_;intros|refine dg ?_ ?_<;>intros|(refine pt (rP _) hs ?_;intro w X hs)|(refine pt (DR _ _) hs ?_;intro w X hs)|(with_reducible refine fE hs ?_);(simp_all [aeW]<;>omega)
def aaf (x:Nat):gO:=⟨1,canon x,⟨#[]⟩⟩
theorem Ip (x:Nat):Pure pg 348 #[.float .f64 x] (aaf x).v:=by
 intro w0;refine RO.1 λhs=>?_;repeat' first|refine aq ?_;intros|(refine pt (rP _) hs ?_;intro w X hs)|(with_reducible refine fE hs ?_);rfl
def aag (b:Bool):gO:=if b then aaf 4607182418800017408 else aaf 0
theorem ML (b:Bool):Pure pg 308 #[B b] (aag b).v:=by
 intro w0;cases b;all_goals
  refine VK.1 λhs=>?_;repeat' first|refine aq ?_;intros|(refine pt (Ip _) hs ?_;intro w X hs)|(with_reducible refine fE hs ?_);rfl
def RY (v:gO):Bool:=if v.kind=1 then decide (cls v.num≠0/\cls v.num≠4/\cls v.num≠5)else if v.kind=2 then decide (v.text≠⟨#[]⟩)else false
theorem aah (v:gO):Pure pg 237 #[v.v] (B (RY v)):=by
 intro w0;refine VF.1 λhs=>?_;repeat' first|refine aq ?_;intros|refine dg ?_ ?_<;>intros|(refine pt (Hy _) hs ?_;intro w X hs)|(with_reducible refine fE hs ?_);(simp_all [RY])
abbrev wg (e:Int):List PanicEntry:=[{ v:=.iface 291 (.agg #[I e]),recovered:=false }]
def Tw (c:Int) (a b:Nat):Nat:=if c=5 then GS .add a b else if c=6 then GS .sub a b else if c=7 then GS .mul a b else if c=8 then GS .quo a b else if c=9 then aae a b else aeW a b
theorem VY (c:Int) (a b:gO):Fj pg 310 #[I c,a.v,b.v] w X nX (λv _ _=> ¬(a.kind=2\/b.kind=2)/\v=(aaf (Tw c a.num b.num)).v) (λch _ _=>(a.kind=2\/b.kind=2)/\ch=wg 23):=by
 intro w0 hk;have hF:FX nX (bP w0) w0:=λk ah=>ah.elim;have hT:=hF.ft (Kp.refl _ _);refine Te.1 λhs=>?_;by_cases h:a.kind=2\/b.kind=2
 ·repeat' first|refine aI ?_;intros|refine dg ?_ ?_<;>intros|with_reducible apply cK|(with_reducible refine SD ?_ ?_);(· kernel_rfl)
  all_goals exact SE hs.has λwa ou=>(hT.since hs).jg ou ⟨h,rfl⟩
 ·repeat' first|refine aI ?_;intros|refine dg ?_ ?_<;>intros|with_reducible apply cK|(refine pt (Ip _) hs ?_;intro w X hs)|(refine pt (agG _ _) hs ?_;intro w X hs)|(refine pt (agH _ _) hs ?_;intro w X hs)|(refine pt (agI _ _) hs ?_;intro w X hs)|(refine pt (agJ _ _) hs ?_;intro w X hs)|(refine pt (abB _ _) hs ?_;intro w X hs)|(refine pt (aeX _ _) hs ?_;intro w X hs)|(refine(hT.since hs).yf λwa aL=>⟨h,?_⟩;simp[Tw, *];done)
open Go
def fcl:Datum->Int
 | .infinity true=> -1
 | .infinity false=>1
 |_=>0
def fvl (b:Int):Datum->Int
 | .number s m i=>signed s m (i-b).toNat
 |_=>0
def Iq:Datum->Int
 | .number _ _ i=>i
 |_=>0
theorem Vf (s:Bool) (m u k:Nat):signed s m (u+k)=signed s m u*(2^k:Nat):=by
 unfold signed;simp only[Nat.shiftLeft_eq,Nat.pow_add]
 grind
theorem agK (x y:Int) (k:Nat):compare (x*(2^k:Nat)) (y*(2^k:Nat))=compare x y:=by
 have hp:(0:Int)<((2^k:Nat):Int):=by
  have:0<2^k:=Nat.two_pow_pos k;omega
 rcases Int.lt_trichotomy x y with h|h|h
 ·have:=sX h hp;rw[show compare x y= .lt from by simp[compare,compareOfLessAndEq,h],show compare (x*((2^k:Nat):Int)) (y*((2^k:Nat):Int))= .lt from by simp only[compare,compareOfLessAndEq];grind]
 ·grind
 ·have:=sX h hp;rw[show compare x y= .gt from by simp only[compare,compareOfLessAndEq];grind,show compare (x*((2^k:Nat):Int)) (y*((2^k:Nat):Int))= .gt from by simp only[compare,compareOfLessAndEq];grind]
theorem aai (b:Int) (x y:Datum) (hx:x.isNaN=false) (hy:y.isNaN=false) (bx:b<=Iq x) (by':b<=Iq y):
  x.order y=some (if fcl x<fcl y then .lt else if fcl y<fcl x then .gt else compare (fvl b x) (fvl b y)):=by
 cases x with
 |nan=>simp[Datum.isNaN] at hx
 |infinity s=>cases y with
  |nan=>simp[Datum.isNaN] at hy
  |infinity t=>cases s<;>cases t<;>rfl
  |number t n j=>cases s<;>rfl
 |number s m i=>cases y with
  |nan=>simp[Datum.isNaN] at hy
  |infinity t=>cases t<;>rfl
  |number t n j=>
   have bi:b<=i:=bx;have bj:b<=j:=by';have e1:(i-b).toNat=(i-min i j).toNat+(min i j-b).toNat:=by omega
   have e2:(j-b).toNat=(j-min i j).toNat+(min i j-b).toNat:=by omega
   show some (compare (signed s m (i-min i j).toNat) (signed t n (j-min i j).toNat))=some (compare (signed s m (i-b).toNat) (signed t n (j-b).toNat))
   rw[e1,e2,Vf,Vf,agK]
def fk (b:Int) (d:Datum):Int×Int:=(fcl d,fvl b d)
def kle (a b:Int×Int):Prop:=a.1<b.1\/a.1=b.1/\a.2<b.2
theorem anU {x y:Int} :compare x y= .lt↔x<y:=by
 simp only[compare,compareOfLessAndEq]
 grind
variable {x y : Datum}
theorem yy {b:Int} (hx:x.isNaN=false) (hy:y.isNaN=false) (bx:b<=Iq x) (by':b<=Iq y):x.order y=some .lt↔kle (fk b x) (fk b y):=by
 rw[aai b x y hx hy bx by'];unfold kle fk;simp only[aj];split
 ·simp[*]
 ·split
  ·simp;omega
  ·rw[anU];omega
theorem Jw {b:Int} (hx:x.isNaN=false) (hy:y.isNaN=false) (bx:b<=Iq x) (by':b<=Iq y):x.order y=some .eq↔fk b x=fk b y:=by
 rw[aai b x y hx hy bx by'];unfold fk;simp only[aj,Prod.mk.injEq]
 grind
theorem Dz {o:Ordering} (h:x.order y=some o):x.isNaN=false/\y.isNaN=false:=by
 cases x<;>cases y<;>first|exact⟨rfl,rfl⟩|simp[Datum.order] at h
abbrev fd (a:Nat):Datum:=FloatKind.f64.format.read a
variable {b : Nat}
theorem Wx {a:Nat} :qT a b=true↔(fd a).order (fd b)=some .lt:=by unfold qT Format.order;simp
theorem aeY {a:Nat} :pY a b=true↔(fd a).order (fd b)=some .eq:=by unfold pY Format.order;simp
theorem three (x y z:Datum): ∃b:Int,b<=Iq x/\b<=Iq y/\b<=Iq z:=⟨min (Iq x) (min (Iq y) (Iq z)),by omega,by omega,by omega⟩
variable {c : Nat}
theorem agL {a:Nat} (h:qT a b=true) (k:qT b c=true):qT a c=true:=by
 rw[Wx] at*;obtain⟨p,p1,p2,p3⟩:=three (fd a) (fd b) (fd c);have n1:=Dz h;have n2:=Dz k;rw[yy n1.1 n1.2 p1 p2] at h;rw[yy n2.1 n2.2 p2 p3] at k;rw[yy n1.1 n2.2 p1 p3];unfold kle at*;omega
theorem alh {a:Nat} (h:qT a b=true) (k:pY b c=true):qT a c=true:=by
 rw[Wx] at*;rw[aeY] at k;obtain⟨p,p1,p2,p3⟩:=three (fd a) (fd b) (fd c);have n1:=Dz h;have n2:=Dz k;rw[yy n1.1 n1.2 p1 p2] at h;rw[Jw n2.1 n2.2 p2 p3] at k;rw[yy n1.1 n2.2 p1 p3,<-k];exact h
theorem ali {a:Nat} (h:pY a b=true) (k:qT b c=true):qT a c=true:=by
 rw[Wx] at*;rw[aeY] at h;obtain⟨p,p1,p2,p3⟩:=three (fd a) (fd b) (fd c);have n1:=Dz h;have n2:=Dz k;rw[Jw n1.1 n1.2 p1 p2] at h;rw[yy n2.1 n2.2 p2 p3] at k;rw[yy n1.1 n2.2 p1 p3,h];exact k
theorem acv {a:Nat} (h:pY a b=true):pY b a=true:=by
 rw[aeY] at*;obtain⟨p,p1,p2,_⟩:=three (fd a) (fd b) (fd b);have n1:=Dz h;rw[Jw n1.1 n1.2 p1 p2] at h;rw[Jw n1.2 n1.1 p2 p1];exact h.symm
theorem aeZ (a:Nat):qT a a=false:=by
 cases h:qT a a with
 |false=>rfl
 |true=>
  rw[Wx] at h;have n1:=Dz h;rw[yy (b:=Iq (fd a)) n1.1 n1.2 (Int.le_refl _) (Int.le_refl _)] at h;unfold kle at h;omega
theorem abC {a:Nat} (h:qT a b=true):pY a b=false:=by
 cases k:pY a b with
 |false=>rfl
 |true=>
  have:=alh h (acv k)
  grind [aeZ]
variable {rows : List (List Value)} {i k : Nat} {z : Int} {v : Value}
theorem ajg (h:Sl w X k v rows) (hz:z=i) (hi:i<=rows.length) (ht:P.underlying t=some (.slice (P.elem t))) (hs:(P.info? (P.elem t)).map (·.size)=some k)
  (n: ∀v',Sl w X k v' (rows.take i)->N v'):aY P X w (Instr.sliceAt t v none (some (.int .i64 z)) none) N:=by
 obtain⟨h1,h2,base,cap,rfl,hc,hb,hlc,iq⟩:=h;refine aK.Ld hz zQ ht (by cases hq:P.info? (P.elem t)<;>simp[hq] at hs⊢) (n _ ?_);have hl:(rows.take i).length=i:=by rw[aD];omega
 refine⟨λr hr=>h1 r (dK hr),by omega,base,cap,by rw[hl],λcu=>?_,λxM=>?_,by omega,iq⟩
 ·obtain⟨b,o,rfl,jS⟩:=hc (by rintro rfl;simp at cu);refine⟨b,o,rfl,?_⟩;rw[aK.mf i h1];obtain⟨hx,c,ty,fr,dO,BU⟩:=jS;refine⟨hx,c,ty,fr,dO,λq u hu=>?_⟩;have hq:=(List.getElem?_eq_some_iff.1 hu).1;rw[aD] at hq;rw[List.getElem?_take_of_lt zQ] at hu;exact BU _ _ hu
 ·have:=hb xM;omega
def l9 (a:Nat) (s:Nat×Int) (r:fe):Nat×Int:=if pY r.lo a then(r.hi,s.2+1)else s
def Ir (l:List fe) (a:Nat):Nat×Int:=l.foldl (l9 a) (0,0)
def It (l:List fe):Nat->Nat->Int->Int
 |0,_,_=>99
 |n+1,a,u=>if qT a GQ then(if(Ir l a).2=1 then It l n (Ir l a).1 (u+1)else 14)else if u=l.length then 0 else 14
def Jx:List fe->List fe->Int
 |_,[]=>0
 |b,r::t=>if r.may then(if b.any (λo=>decide (o.id=r.id))then 9 else Jx (b++[r]) t)else 1
def Bt (l:List fe):Int:=if l.length=0 then 8 else if 12<l.length then 3 else if Jx [] l≠0 then Jx [] l else It l (l.length+1) 0 0
theorem GY (a:Nat): ∀(l:List fe) (s:Nat×Int),s.2<=(l.foldl (l9 a) s).2/\(l.foldl (l9 a) s).2<=s.2+l.length
 |[],s=>by simp
 |r::l,s=>by
  have h:=GY a l (l9 a s r);have h1:s.2<=(l9 a s r).2/\(l9 a s r).2<=s.2+1:=by unfold l9;split<;>simp<;>omega
  rw[fN,aJ];omega
theorem OT (a:Nat): ∀(l:List fe) (s:Nat×Int),(l.foldl (l9 a) s).2=s.2->l.foldl (l9 a) s=s/\ ∀r∈l,pY r.lo a=false
 |[],s,_=>by simp
 |r::l,s,h=>by
  rw[fN] at h;have hle:=GY a l (l9 a s r);by_cases hr:pY r.lo a=true
  ·have:l9 a s r=(r.hi,s.2+1):=by unfold l9;rw[if_pos hr]
   rw[this] at hle h;simp only at hle;omega
  ·have e:l9 a s r=s:=by unfold l9;rw[if_neg hr]
   rw[e] at h;have:=OT a l s h;rw[fN,e];exact⟨this.1,λx hx=>by
    rcases List.mem_cons.1 hx with rfl|hx
    ·simpa using hr
    ·exact this.2 x hx⟩
theorem RZ (a:Nat): ∀(l:List fe) (s:Nat×Int),(l.foldl (l9 a) s).2=s.2+1-> ∃r∈l,pY r.lo a=true/\(l.foldl (l9 a) s).1=r.hi
 |[],s,h=>by simp at h;omega
 |r::l,s,h=>by
  rw[fN] at h⊢;by_cases hr:pY r.lo a=true
  ·have e:l9 a s r=(r.hi,s.2+1):=by unfold l9;rw[if_pos hr]
   rw[e] at h⊢;have:=OT a l (r.hi,s.2+1) h;exact⟨r,by simp,hr,by rw[this.1]⟩
  ·have e:l9 a s r=s:=by unfold l9;rw[if_neg hr]
   rw[e] at h⊢;obtain⟨q,hq,h1,h2⟩:=RZ a l s h;exact⟨q,bG _ hq,h1,h2⟩
def later (l:List fe) (a:Nat):Nat:=(l.filter λr=>!qT r.lo a).length
theorem filter_lt {α:Type} {p q:α->Bool} : ∀{l:List α},(∀x∈l,q x=true->p x=true)->(∃x∈l,p x=true/\q x=false)->(l.filter q).length<(l.filter p).length
 |[],_,h=>by obtain⟨x,hx,_⟩:=h;cases hx
 |a::l,h,h2=>by
  have hle: ∀{l:List α},(∀x∈l,q x=true->p x=true)->(l.filter q).length<=(l.filter p).length:=λ{l} h=>by
   induction l with
   |nil=>simp
   |cons b l ih=>
    have:=ih λx hx=>h x (bG _ hx);have hb:=h b sQ;by_cases hq:q b=true
    ·simp[eP,hq,hb hq];exact this
    ·by_cases hp:p b=true
     ·simp[eP,hq,hp];omega
     ·simp[eP,hq,hp];exact this
  have hl: ∀x∈l,q x=true->p x=true:=λx hx=>h x (bG _ hx);obtain⟨x,hx,h3,h4⟩:=h2;rcases List.mem_cons.1 hx with rfl|hx
  ·have:=hle hl;simp[eP,h3,h4];omega
  ·have ih:=filter_lt hl ⟨x,hx,h3,h4⟩;have hb:=h a sQ;by_cases hq:q a=true
   ·simp[eP,hq,hb hq];exact ih
   ·by_cases hp:p a=true
    ·simp[eP,hq,hp];omega
    ·simp[eP,hq,hp];exact ih
variable {l : List fe}
theorem ajh {a:Nat} (hm: ∀r∈l,r.may=true) (h:(Ir l a).2=1):later l (Ir l a).1<later l a:=by
 obtain⟨r,hr,h1,h2⟩:=RZ a l (0,0) h;have h2:(Ir l a).1=r.hi:=h2;have h3:qT r.lo r.hi=true:=by have:=hm r hr;unfold fe.may at this;simp only[Bool.and_eq_true] at this;exact this.2
 have h4:qT a r.hi=true:=ali (acv h1) h3;rw[h2];refine filter_lt (λx hx hq=>?_) ⟨r,hr,?_,by rw[h3];rfl⟩
 ·cases hc:qT x.lo a with
  |false=>rfl
  |true=>rw[agL hc h4] at hq;cases hq
 ·cases hc:qT r.lo a with
  |false=>rfl
  |true=>rw[abC hc] at h1;cases h1
theorem aaj: ∀{l b:List fe},Jx b l=0->(∀r∈l,r.may=true)/\(∀r∈l,∀o∈b,o.id≠r.id)/\l.Pairwise λx y=>x.id≠y.id
 |[],b,_=>by simp
 |r::t,b,h=>by
  unfold Jx at h;by_cases hm:r.may=true
  ·rw[if_pos hm] at h;by_cases ha:(b.any λo=>decide (o.id=r.id))=true
   ·rw[if_pos ha] at h;omega
   ·rw[if_neg ha] at h;have ih:=aaj h;have ha': ∀o∈b,o.id≠r.id:=λo ho e=>ha (List.any_eq_true.2 ⟨o,ho,by simpa using e⟩);refine⟨λx hx=>?_,λx hx o ho=>?_,List.pairwise_cons.2 ⟨λx hx=>ih.2.1 x hx r sQ,ih.2.2⟩⟩
    ·rcases List.mem_cons.1 hx with rfl|hx
     ·exact hm
     ·exact ih.1 x hx
    ·rcases List.mem_cons.1 hx with rfl|hx
     ·exact ha' o ho
     ·exact ih.2.1 x hx o (by simp[ho])
  ·rw[if_neg hm] at h;omega
variable {a : Value}
theorem VZ (ha:Sl w X 4 a (l.map fe.l)):Ct pg 122 #[a] w X nX λv _ _=>v=I (Bt l):=by
 intro w0 hk;replace ha:=ha.mv hk.cE;have lh:=ha.gV;refine S6.1 λhs=>?_;repeat' first|refine aq ?_;intros|refine dg ?_ ?_<;>intros|(refine qr ?_;intro wa hk;(first|(unfold Bt;rw[if_pos zQ])|(unfold Bt;rw[if_neg zQ,if_pos zQ])))
 refine gM (λn a b w X=> ∃i:Nat,a=I i/\n=l.length-i/\i<=l.length/\ai (bP w0) w0 X w/\Jx [] l=Jx (l.take i) (l.drop i)) l.length ⟨0,rfl,rfl,ak _,hs,rfl⟩ ?_;rintro n a b w X ⟨i,rfl,rfl,hi,hs,hw⟩;rcases dB (l) i with⟨cI,x,hx,hd⟩|⟨dC,hd⟩
 ·rw[hd,Jx] at hw;by_cases hm:x.may=true
  ·rw[if_pos hm] at hw;repeat' first|refine aI ?_;intros|(refine kG (wJ _) hs ?_ ?_<;>intro _ w X hs)|(exfalso;simp_all;done)
   refine ajg (i:=i) (rows:=l.map fe.l) (ha.since hs) rfl (by rw[af];omega) kQ kQ λv1 kV=>?_;rw[<-List.map_take] at kV;have yV:(l.take i).length=i:=by rw[aD];omega
   repeat' refine aq ?_;intros
   refine fY (λn a w1 X1=> ∃j:Nat,a=I (j:Nat)/\n=(l.take i).length-j/\j<=(l.take i).length/\ai X w X1 w1/\((l.take i).any λo=>decide (o.id=x.id))=(((l.take i).drop j).any λo=>decide (o.id=x.id))) (l.take i).length ⟨0,rfl,rfl,ak _,ai.fL hs.has,by simp⟩ ?_;rintro n a w1 X1 ⟨j,rfl,rfl,hj,bH,vE⟩;replace kV:=kV.since bH;replace hs:=hs.trans bH;rcases dB (l.take i) j with⟨Pf,y,hy,rH⟩|⟨DH,rH⟩
   ·rw[rH,List.any_cons] at vE;by_cases P8:y.id=x.id
    ·repeat' first|refine aI ?_;intros|(refine qr ?_;intro wa hk;(unfold Bt;rw[if_neg zQ,if_neg zQ,hw,vE,P8];simp))
    ·repeat' first|refine aI ?_;intros|((with_reducible refine ey ((l.take i).length-(j+1)) ?_ ?_);omega;exact⟨j+1,by simp,rfl,by omega,bH,by rw[vE];simp[P8]⟩)
   ·rw[rH] at vE;simp only[List.any_nil] at vE;rw[if_neg (by rw[vE];simp)] at hw;repeat' first|refine aI ?_;intros|((with_reducible refine fG ((l).length-(i+1)) ?_ ?_);omega;exact⟨i+1,by simp,rfl,by omega,hs,by rw[hw,bW,hx];rfl⟩)
  ·rw[if_neg hm] at hw;repeat' first|refine aI ?_;intros|(refine kG (wJ _) hs ?_ ?_<;>intro _ w X hs)|(exfalso;simp_all;done)|(refine qr ?_;intro wa hk;(unfold Bt;rw[if_neg zQ,if_neg zQ,hw];rfl))
 ·rw[hd,az dC,Jx] at hw;have hC:Bt l=It l (l.length+1) 0 0:=by unfold Bt;rw[if_neg zQ,if_neg zQ,if_neg zQ]
  repeat' refine aI ?_;intros
  refine amT (λn a b c d e w X=> ∃(u:Int) (gL:Nat),a=I u/\b= .float .f64 gL/\later l gL<n/\0<=u/\u+n<=l.length+1/\ai (bP w0) w0 X w/\Bt l=It l n gL u) (l.length+1) ⟨0,0,rfl,rfl,?_,by omega,by omega,hs,hC⟩ ?_
  ·have:later l 0<=l.length:=List.length_filter_le _ _;omega
  rintro n a b c d e w X ⟨u,a0,rfl,rfl,iy,hu0,hu1,hs,wE⟩;obtain⟨k,rfl⟩: ∃j,n=j+1:=⟨n-1,by omega⟩;rw[It] at wE;have xM:=GY a0 l (0,0);by_cases yV:qT a0 GQ=true
  ·rw[if_pos yV] at wE;repeat' first|refine aq ?_;intros|refine dg ?_ ?_<;>intros|(exfalso;simp_all [GQ];done)
   refine Bc (λn a b c w X=> ∃i:Nat,a=I i/\b=I ((l.take i).foldl (l9 a0) (0,0)).2/\c= .float .f64 ((l.take i).foldl (l9 a0) (0,0)).1/\n=l.length-i/\i<=l.length/\ai (bP w0) w0 X w) l.length ⟨0,rfl,rfl,rfl,rfl,ak _,hs⟩ ?_;rintro n a b c w X ⟨i,rfl,rfl,rfl,rfl,hi,hs⟩;have mc:=GY a0 (l.take i) (0,0);have hli:(l.take i).length=i:=by rw[aD];omega
   rw[hli] at mc;rcases dB (l) i with⟨cI,x,hx,hd⟩|⟨dC,hd⟩
   ·have fQ:(l.take (i+1)).foldl (l9 a0) (0,0)=l9 a0 ((l.take i).foldl (l9 a0) (0,0)) x:=by rw[bW,hx,nu];rfl
    generalize (l.take i).foldl (l9 a0) (0,0)=s at fQ mc⊢;by_cases hf:pY x.lo a0=true
    ·rw[show l9 a0 s x=(x.hi,s.2+1)by unfold l9;rw[if_pos hf]] at fQ;repeat' first|refine aI ?_;intros|refine dg ?_ ?_<;>intros|with_reducible apply cK|(exfalso;simp_all;done)|((with_reducible refine xV ((l).length-(i+1)) ?_ ?_);omega;exact⟨i+1,by simp,by rw[fQ],by rw[fQ],rfl,by omega,hs⟩)
    ·rw[show l9 a0 s x=s by unfold l9;rw[if_neg hf]] at fQ;repeat' first|refine aI ?_;intros|refine dg ?_ ?_<;>intros|with_reducible apply cK|(exfalso;simp_all;done)|((with_reducible refine xV ((l).length-(i+1)) ?_ ?_);omega;exact⟨i+1,by simp,by rw[fQ],by rw[fQ],rfl,by omega,hs⟩)
   ·rw[az dC];change _/\_<=_ at xM;change Bt l=if(List.foldl (l9 a0) (0,0) l).2=1 then It l k (List.foldl (l9 a0) (0,0) l).1 (u+1)else 14 at wE
    by_cases xh:(l.foldl (l9 a0) (0,0)).2=1
    ·have cI:=ajh ((aaj hw).1) (a:=a0) xh;rw[if_pos xh] at wE;unfold Ir at cI;repeat' first|refine aI ?_;intros|(with_reducible refine amU k ?_ ?_);omega;exact⟨u+1,_,rfl,rfl,by omega,by omega,by omega,hs,wE⟩
    ·rw[if_neg xh] at wE;repeat' first|refine aI ?_;intros|(refine qr ?_;intro wa hk;(rw[wE]))
  ·rw[if_neg yV] at wE;repeat' first|refine aq ?_;intros|refine dg ?_ ?_<;>intros|(exfalso;exact yV aQ)|(refine qr ?_;intro wa hk;(rw[wE];first|(rw[if_pos aQ])|(rw[if_neg aQ])))
variable {kt : TypeId}
theorem PZ (h:P.underlying kt=some (.int .i64)) (e:Bool) (n:Nat) (k:Int) (w:World):(gU e (n+1) kt (I k)).run P w= .ok () w:=by simp[gU,run_underlying h]
theorem alj (h:P.underlying kt=some (.int .i64)):xw P kt (λz:Int=>I z) where
 jh e k w:=PZ h e 9999 k w
 find k l w:=by
  have: ∀(l:List (Go.aK.jy Int)) (i:Nat),kH (.int .i64) (I k) (l.map (lS λz=>I z)) i=some (tv k l i):=by
   intro l
   induction l with
   |nil=>intro i;rfl
   |cons x r ih=>
    intro i;by_cases hk:k=x.1
    ·simp[kH,lS,Instr.sameNow,tv,hk]
    ·have hb:(k==x.1)=false:=by simpa using hk
     simp[kH,lS,Instr.sameNow,tv,hk,hb,ih]
  simp[Instr.findKey,run_underlying h,this]
 same k:=by simp[Instr.sameBits]
def AL:xw pg 3 (λz:Int=>I z):=alj kQ
def Jy:World->XS->Value->fe->Prop:=λ_ _ v x=>v=x.v
def P0:qV Jy:=λ_ _ _ _ _ _ h _=>h
abbrev tK:=List (Int×fe)
structure mD (w:World) (X:XS) (db mb:Nat) (ds:tK):Prop where
 row:aH w X db [.map (some mb)] 224
 map:dS w X nX mb (λz:Int=>I z) Jy ds
variable {w' : World} {A D X' : XS} {db mb : Nat} {ds ON : tK}
def mD.mv (h:mD w X db mb ds) (v:Mv X w X' w'):mD w' X' db mb ds:=⟨h.row.mv v,h.map.mv P0 v λ_ h=>h.elim⟩
theorem mD.ne (h:mD w X db mb ds):db≠mb:=λe=>by
 obtain⟨es,c,h1,_⟩:=h.map;have h2:=h1.2.1;rw[<-e,h.row.2] at h2;simp at h2
theorem mD.put (h:mD w D db mb ds) (hX: ∀k,D k->X k) (c:dY (· =mb) X w X' w') (hm:dS w' X' nX mb (λz:Int=>I z) Jy ON):mD w' D db mb ON:=
 ⟨⟨h.row.1,(c.block _ (hX _ h.row.1) h.ne).trans h.row.2⟩,by obtain⟨es,c,h1,h2⟩:=hm;exact⟨es,c,⟨h.map.x.1,h1.2⟩,h2⟩⟩
def ja (ds:tK) (r:fe):tK:=if r.may then(match getM r.id ds with|some o=>if o.iE>=r.iE then ds else cU r.id r ds|none=>cU r.id r ds)else ds
theorem OU (h:mD w D db mb ds) (hD:FX D X w) (ha:Sl w A 4 a (l.map fe.l)) (hA: ∀k,A k->X k/\k≠mb):
  Ct pg 123 #[ptr db 0,a] w X (· =mb) λv _ w'=>(∃n,v=I n)/\mD w' D db mb (l.foldl ja ds):=by
 intro w0 hk;have hF:FX (· =mb) X w:=λk ah=>by subst ah;exact hD _ h.map.x.1
 have hT:=hF.ft hk;replace h:=h.mv (hD.mv hk);have hD0:=hD.kp hk;have hao:Sl w0 (out (· =mb) w0) 4 a (l.map fe.l):=ha.mv λk ah hl=>⟨⟨aw hl hk.size,(hA k ah).2⟩,hk.block k (hA k ah).1⟩;have lh:=hao.gV;have ha:=hao.mv hT.s.mv;refine PJ.1 λ_=>?_;have hs:=hT.s;repeat' refine aq ?_;intros
 refine gM (λn a b w X=> ∃(i:Nat) (c:Int),a=I i/\b=I c/\0<=c/\c<=i/\n=l.length-i/\i<=l.length/\Ft w0 (· =mb) w X (· =mb)/\FX D X w/\mD w D db mb ((l.take i).foldl ja ds)) l.length ⟨0,0,rfl,rfl,by omega,by omega,rfl,ak _,hT,hD0,h⟩ ?_;clear hs hT h ha;rintro n _ _ w X ⟨i,c,rfl,rfl,xd,Gq,rfl,hi,hT,R0,h⟩;have ha:=hao.mv hT.s.mv;have bt:=h.row.mono λk ah=>(R0 k ah).1;have hs:=hT.s;rcases dB (l) i with⟨cI,x,hx,hd⟩|⟨dC,hd⟩
 ·have fQ:(l.take (i+1)).foldl ja ds=ja ((l.take i).foldl ja ds) x:=by rw[bW,hx,nu];rfl
  generalize (l.take i).foldl ja ds=s at fQ h;have nL: ∀{w':World} {X':XS} (c':Int),0<=c'->c'<=c+1->Ft w0 (· =mb) w' X' (· =mb)->FX D X' w'->mD w' D db mb (ja s x)->
    Gj (J2 λn a b w X=> ∃(i:Nat) (c:Int),a=I i/\b=I c/\0<=c/\c<=i/\n=l.length-i/\i<=l.length/\Ft w0 (· =mb) w X (· =mb)/\FX D X w/\mD w D db mb ((l.take i).foldl ja ds)) (l.length-i) (I ((i:Int)+1)) (I c') w' X':=
   λc' q0 q1 q2 q3 q4=>fG (l.length-(i+1)) zQ ⟨i+1,c',by simp,rfl,q0,by omega,rfl,by omega,q2,q3,by rw[fQ];exact q4⟩
  have MM: ∀{w1:World} {X1:XS} {K:Value->World->XS->Prop},Ft w0 (· =mb) w1 X1 (· =mb)->FX D X1 w1->mD w1 D db mb s->ja s x=cU x.id x s->
    (∀w2 X2,Ft w0 (· =mb) w2 X2 (· =mb)->FX D X2 w2->mD w2 D db mb (ja s x)->K undef w2 X2)->
    eU pg (vy (· =mb) w0 λv w'=>(λv _ w'=>(∃n,v=I n)/\mD w' D db mb (l.foldl ja ds)) v w0 w') X1 w1 true (cR 222 (.map (some mb)) (I x.id) x.v) K:=λq1 q2 q3 q4 k=>by
   refine vJ (kt:=3) (et:=48) (a:=x) (q3.mv (Mv.sub λk ah=>(q2 k ah).1)).map P0 rfl (λ_ hk=>hk.elim) AL kQ q1.s.has λw2 X2 c2 rO=>?_;rw[q4] at k;exact k w2 X2 (q1.dT c2 (λk ah=>ah) λk ah=>.inl ah) (λk ah=>⟨c2.sub k (q2 k ah).1,c2.has k (c2.sub k (q2 k ah).1)⟩) (q3.put (λk ah=>(q2 k ah).1) c2 rO)
  repeat' first|refine aI ?_;intros|with_reducible apply cK
  refine FJ (kt:=3) (et:=48) (.agg #[I 0,I 0,.float .f64 0,.float .f64 0]) (h.mv (Mv.sub λk ah=>(R0 k ah).1)).map AL kQ kQ (λv a hg hv=>?_) (λhg=>?_)
  ·simp only[Jy] at hv;subst hv;repeat' refine aq ?_;intros
   refine sk (wJ x) kQ hs.has λw1 X1 aB=>?_;have eo:=hT.since aB;have Vg:FX D X1 w1:=λk ah=>⟨aB.sub k (R0 k ah).1,aw (R0 k ah).2 aB.kp.size⟩;have h1:=h.mv (aB.gY λk ah=>(R0 k ah).1);have Ek:=h1.row.mono λk ah=>(Vg k ah).1;clear hs bt;have hs:=eo.s;by_cases hm:x.may=true
   ·rw[hm];by_cases dC:a.iE>=x.iE
    ·repeat' first|refine aI ?_;intros|(exact nL c xd zQ eo Vg (by unfold ja;rw[if_pos hm,hg];simp only;rw[if_pos dC];exact h1))
    ·repeat' refine aI ?_;intros
     refine MM eo Vg h1 (by unfold ja;rw[if_pos hm,hg];simp only;rw[if_neg dC]) λw2 X2 da hD2 h2=>?_;repeat' first|refine aq ?_;intros|(exact nL (c+1) zQ zQ da hD2 h2)
   ·rw[show x.may=false by simpa using hm];repeat' first|refine aq ?_;intros|(exact nL c xd zQ eo Vg (by unfold ja;rw[if_neg hm];exact h1))
  ·repeat' refine aq ?_;intros
   refine sk (wJ x) kQ hs.has λw1 X1 aB=>?_;have eo:=hT.since aB;have Vg:FX D X1 w1:=λk ah=>⟨aB.sub k (R0 k ah).1,aw (R0 k ah).2 aB.kp.size⟩;have h1:=h.mv (aB.gY λk ah=>(R0 k ah).1);have Ek:=h1.row.mono λk ah=>(Vg k ah).1;clear hs bt;have hs:=eo.s;by_cases hm:x.may=true
   ·rw[hm];repeat' refine aq ?_;intros
    refine MM eo Vg h1 (by unfold ja;rw[if_pos hm,hg]) λw2 X2 da hD2 h2=>?_;repeat' first|refine aq ?_;intros|(exact nL (c+1) zQ zQ da hD2 h2)
   ·rw[show x.may=false by simpa using hm];repeat' first|refine aq ?_;intros|(exact nL c xd zQ eo Vg (by unfold ja;rw[if_neg hm];exact h1))
 ·repeat' refine aI ?_;intros
  rw[az dC] at h;exact hT.fin λwa aL=>⟨⟨c,rfl⟩,h.mv (aL.jj λk ah=>(R0 k ah).1)⟩
theorem afN (ha:Sl w X 4 a (l.map fe.l)):
  Ct pg 74 #[a] w X nX λv wa w'=>if Bt l≠0 then v= .tuple #[.pointer none,I (Bt l)] else∃db mb D,v= .tuple #[ptr db 0,I 0]/\(∀k,D k->made wa w' k)/\mD w' D db mb (l.foldl ja []):=by
 intro w0 hk;replace ha:=ha.mv hk.cE;have hF:FX nX X w:=λk ah=>ah.elim;have hT:=hF.ft hk;have hs:=ai.init w0;refine aeI.1 λ_=>?_;refine ff (VZ ha) kQ hs.has λw1 X1 aB=>?_;replace hT:=hT.since aB;replace hs:=hs.trans aB;replace ha:=ha.since aB;by_cases hc:Bt l≠0
 ·repeat' refine aI ?_;intros
  exact hT.fin λwa aL=>by simp only[if_pos hc]
 ·repeat' refine aI ?_;intros
  refine rL (kv:=λk:Int=>I k) Jy nX hT.s.has λmb w2 X2 hmb yc rO=>?_;have da:=hT.since yc;clear hs;repeat' refine aq ?_;intros
  refine Bj da.s.has λdb w3 X3 hdb dt bt=>?_;have dU:=da.since dt;have qS:=rO.mv P0 dt.mv (λ_ h=>h.elim) (A':=nX);have JF:=rO.x.2;have h3:mD w3 (λk=>k=db\/k=mb) db mb []:=⟨⟨.inl rfl,bt.2⟩,by obtain⟨es,c,h1,h2⟩:=qS;exact⟨es,c,⟨.inr rfl,h1.2⟩,h2⟩⟩;have hz:=aB.kp.size;have hD3:FX (λk=>k=db\/k=mb) X3 w3:=λk ah=>by
   rcases ah with e|e<;>subst e
   ·exact⟨bt.1,bt.lt⟩
   ·exact⟨qS.x.1,qS.x.2⟩
  have Ff:Ft w0 nX w3 X3 (λk=>k=mb):=dU.more λk e=>by subst e;exact .inr ⟨qS.x.1,by omega⟩
  have ha3:Sl w3 X1 4 a (l.map fe.l):=ha.mv λk ah _=>⟨ah,(yc.trans dt).kp.block k ah⟩;refine Ff.call (OU (A:=X1) h3 hD3 ha3 λk ah=>⟨dt.sub k (yc.sub k ah),λe=>by have:=hT.s.has k ah;omega⟩) kQ (λ_ h=>h) λv zB w4 X4 hq tJ py fR c4=>?_;obtain⟨_,h4⟩:=hq;have hz4:=c4.size
  skip
  exact fR.fin λwa aL=>by
   simp only[if_neg hc];exact⟨db,mb,_,rfl,λk ah=>by have:=aL.size;have:=bt.lt;have:=qS.x.2;rcases ah with e|e<;>subst e<;>exact⟨by omega,by omega⟩,h4.mv (aL.jj λk ah=>c4.sub k (hD3 k ah).1)⟩
def fe.Sm (r:fe) (x:Nat):Bool:=(J6 x r.lo||pY x r.lo)&&qT x r.hi
def zO (ds:tK) (x:Nat):Nat->Option fe
 |0=>none
 |n+1=>match getM ((n+1:Nat):Int) ds with
  |some r=>if fe.Sm r x then some r else zO ds x n
  |none=>zO ds x n
def nZ (ds:tK) (k:BA):Option fe:=if iN k then zO ds (placeOf k) 12 else none
theorem abD {k:BA} (h:mD w X db mb ds) (hk:k.size<=2^62):
  Ct pg 163 #[ptr db 0,.string k] w X nX λv _ _=>v= .tuple #[((nZ ds k).getD .zero).v,B (nZ ds k).isSome]:=by
 intro w0 iy;replace h:=h.mv iy.cE;have bt:=h.row;refine PL.1 λhs=>?_;by_cases hg:iN k=true
 ·have hR:nZ ds k=zO ds (placeOf k) 12:=by unfold nZ;rw[if_pos hg]
  rw[hR];clear hR;generalize arz:zO ds (placeOf k) 12=R12;repeat' first|refine aq ?_;intros|(refine kG (lD _) hs ?_ ?_<;>intro _ w X hs)|(refine pt (Jr _ (by first|assumption|omega)) hs ?_;intro w X hs)|(exfalso;simp_all;done)
  refine gM (λn a b w X=> ∃j:Nat,a=I (j:Nat)/\b=fe.zero.v/\n=j/\j<=12/\ai (bP w0) w0 X w/\R12=zO ds (placeOf k) j) 12 ⟨12,rfl,rfl,rfl,by omega,hs,arz.symm⟩ ?_;clear hs;rintro n _ _ w X ⟨j,rfl,rfl,rfl,hj,hs,hw⟩;cases n with
  |zero=>
   repeat' first|refine aI ?_;intros|(refine qr ?_;intro wa hk;(rw[hw];rfl))
  |succ j=>
   rw[zO] at hw;repeat' refine aI ?_;intros
   refine FJ (kt:=3) (et:=48) fe.zero.v (h.mv hs.mv).map AL kQ kQ (λv r hg hv=>?_) (λhg=>?_)
   ·simp only[Jy] at hv;subst hv;rw[hg] at hw;simp only at hw;change R12=if((J6 (placeOf k) r.lo||pY (placeOf k) r.lo)&&qT (placeOf k) r.hi)=true then some r else zO ds (placeOf k) j at hw
    by_cases gC:((J6 (placeOf k) r.lo||pY (placeOf k) r.lo)&&qT (placeOf k) r.hi)=true
    ·rw[if_pos gC] at hw;repeat' first|refine aq ?_;intros|with_reducible apply cK|(refine kG (Jo _ _) hs ?_ ?_<;>intro _ w X hs)|(exfalso;simp_all;done)|(refine qr ?_;intro wa hk;(rw[hw];rfl))
    ·rw[if_neg gC] at hw;repeat' first|refine aq ?_;intros|with_reducible apply cK|(refine kG (Jo _ _) hs ?_ ?_<;>intro _ w X hs)|(exfalso;simp_all;done)|(with_reducible refine fG j ?_ ?_);omega;exact⟨j,by congr 1;omega,rfl,rfl,by omega,hs,hw⟩
   ·rw[hg] at hw;repeat' first|refine aq ?_;intros|with_reducible apply cK|(with_reducible refine fG j ?_ ?_);omega;exact⟨j,by congr 1;omega,rfl,rfl,by omega,hs,hw⟩
 ·have hR:nZ ds k=none:=by unfold nZ;rw[if_neg hg]
  rw[hR];repeat' first|refine aq ?_;intros|(refine kG (lD _) hs ?_ ?_<;>intro _ w X hs)|(refine pt (Jr _ (by first|assumption|omega)) hs ?_;intro w X hs)|(exfalso;simp_all;done)|(refine qr ?_;intro wa hk;rfl)
open Go.Maps Go.Shelf Go.Proofs
abbrev AM:Int->Value:=λz=>I z
theorem aak {kt:Nat} {es:List (jy Int)} (h:mH w X b AM es c) (hk:P.underlying kt=some (.int .i64)) (hs: ∀x∈es,-(2^63)<=x.1/\x.1<2^63) (hl:es.length<=2^40):
  ∃D0:DataW Unit,w.ownsMap P kt RT b es.length D0/\Maps.size D0=es.length/\(intKeys D0).Perm (es.map λx=>x.1):=by
 have HJ:(2:Nat)^40<=maxLen:=by decide
 have iO: ∀x∈es,keyOf P kt (AM x.1)=some (.int .i64 x.1):=λx hx=>by
  unfold keyOf mapKey;rw[hk];have:=hs x hx;have h1:IntKind.i64.min= -(2^63):=by decide
  simp[AM,Lit.wf,h1];omega
 have jE: ∀x∈es,sD P kt RT (lS AM x)=some (.int .i64 x.1,.lit (.bool true)):=λx hx=>by
  unfold sD lS RT;simp[iO x hx]
 have ai9:(es.map (lS AM)).map (ni P kt RT)=es.map λx=>((.int .i64 x.1:Lit),(.lit (.bool true):DataW Unit)):=by
  rw[cd];apply List.map_congr_left;intro x hx;simp only[Function.comp,ni,jE x hx,BN]
 refine⟨.map (((es.map (lS AM)).map (ni P kt RT)).foldr DataW.insert []),⟨_,c,h.2.1,⟨?_,⟨?_,?_,?_⟩,?_⟩,by simp,by simp⟩,?_,?_⟩
 ·simpa using ad hl HJ
 ·intro x hx;simp only[cX,List.mem_map] at hx;obtain⟨y,hy,rfl⟩:=hx;exact h.2.2.2.2 y hy
 ·have:=h.2.2.2.1;simpa [cd,jQ,lS] using this
 ·have h1:=h.2.2.1;have e:((es.map (lS AM)).toArray.toList.map (·.key))=(es.map (·.1)).map AM:=by simp[cd,jQ,lS]
  rw[e];exact List.Pairwise.map AM (λa b xg e=>xg (by cases e;rfl)) h1
 ·intro x hx;simp only[cX,List.mem_map] at hx;obtain⟨y,hy,rfl⟩:=hx;exact⟨_,jE y hy⟩
 ·show bB _=_
  rw[(yw _).length_eq];simp
 ·show(List.map _ _).Perm _
  refine((yw _).map _).trans ?_;rw[ai9,cd];rfl
def qk (ks:List Int):List Int:=ks.mergeSort λx y=>decide (x<=y)
theorem pH (ks:List Int):(qk ks).Perm ks:=List.mergeSort_perm _ _
theorem aal (ks:List Int):(qk ks).Pairwise λx y=>x<=y:=by
 have:=List.pairwise_mergeSort (le:=λx y:Int=>decide (x<=y)) (λa b c h1 h2=>by grind) (λa b=>by grind) ks;exact this.imp λh=>by grind
theorem R3: ∀{l l':List Int},l.Perm l'->l.Pairwise (λa b=>a<=b)->l'.Pairwise (λa b=>a<=b)->l=l'
 |[],l',hp,_,_=>(List.Perm.nil_eq hp)
 |a::l,[],hp,_,_=>absurd hp.length_eq sQ
 |a::l,b::l',hp,h1,h2=>by
  have KJ:=List.pairwise_cons.1 h1;have h2':=List.pairwise_cons.1 h2;have xg:a=b:=by
   have ha:a∈b::l':=hp.mem_iff.1 sQ;have hb:b∈a::l:=hp.mem_iff.2 sQ;rcases List.mem_cons.1 ha with e|ha
   ·exact e
   ·rcases List.mem_cons.1 hb with e|hb
    ·exact e.symm
    ·have:=KJ.1 b hb;have:=h2'.1 a ha;omega
  subst xg;rw[R3 (List.Perm.cons_inv hp) KJ.2 h2'.2]
def aji {ks ks':List Int} (h:ks.Perm ks'):qk ks=qk ks':=R3 (((pH ks).trans h).trans (pH ks').symm) (aal _) (aal _)
def ajj (m:Nat):AnyZI.SortsIn pg Tryz.OR gu m:=
  ⟨λfv off cap ss W hH hblk gh=>callsIn_wide.2 (AnyM.slices_Sort_int Tryz.ajY fv off cap ss W hH hblk gh),
   λp cap W=>callsIn_wide.2 (AnyM.slices_Sort_int_none Tryz.ajY p cap W)⟩
theorem agM {g:FuncId} {lb:Array Value} {α:Type} {rd:World->XS->Value->α->Prop} {l:List (Int×α)} (h:dS w X A mb AM rd l) (eg:enters pg g=true)
  (hs: ∀x∈l,-(2^63)<=x.1/\x.1<2^63) (hl:l.length<=2^40)
  (hg: ∀wa,Kp X w wa-> ∀(nn:Nat) (D0:DataW Unit),wa.ownsMap pg 3 RT mb nn D0->SeqGives gu 2 pg g lb encZ (λss=>ss.Perm (intKeys D0)) (Maps.size D0) wa):
  Ct pg 120 #[.func (.func g) #[] lb] w X nX λv wa w'=>Own w' (made wa w') wa.heap.size 3 1 v ((qk (l.map (·.1))).map I1):=by
 intro wa hk;obtain⟨es,c,h1,h2⟩:=h;have CI:=h2.keys;have hlen:es.length=l.length:=by have:=congrArg bB CI;simpa using this
 obtain⟨D0,xP,gh,RX⟩:=aak (P:=pg) (h1.kp hk) (kt:=3) kQ (λx hx=>by
  have:x.1∈l.map (·.1):=by rw[<-CI];exact List.mem_map.2 ⟨x,hx,rfl⟩
  obtain⟨y,hy,e⟩:=List.mem_map.1 this;rw[<-e];exact hs y hy) zQ
 have HJ:(2:Nat)^40<=maxLen:=by decide
 have hS:=callsIn_wide.1 (AnyZI.sorted_in Tryz.alc gu 5 trivial trivial trivial trivial rfl zQ (ajj _) (λargs w=>pG kQ args w) g lb trivial (λargs w=>pG eg args w) _ _ zQ zQ wa (hg wa hk _ D0 xP));refine hS.mono ?_;rintro e w' ⟨v,ss,rfl,hp,bt,ahT,hb⟩;have hx:Ext wa w':=⟨hb.os,hb.tape,hb.output,hb.size,λk ah _=>hb.block k ah⟩;refine⟨v,rfl,hx,?_⟩;have e1:ss.mergeSort (λx y=>decide (x<=y))=qk (l.map (·.1)):=by
  refine aji (hp.trans (RX.trans ?_));rw[CI]
 have e2:((ss.mergeSort (λx y=>decide (x<=y))).map encZ)=((qk (l.map (·.1))).map I1).flatten:=by
  rw[e1];have e3: ∀q:List Int,q.map encZ=(q.map I1).flatten:=λq=>by
   induction q with
   |nil=>rfl
   |cons a q ih=>simp only[bh,dd,<-ih];rfl
  exact e3 _
 have sO:ss.length=((qk (l.map (·.1))).map I1).length:=by
  rw[af,(pH _).length_eq,af,<-hlen];have:=hp.length_eq;rw[this,RX.length_eq,af]
 refine⟨λr hr=>by obtain⟨x,_,rfl⟩:=List.mem_map.1 hr;rfl,?_,λq hq=>⟨?_,?_⟩⟩
 ·rw[<-sO,<-e2];exact bt
 ·exact(bt.lt _ hq).1
 ·exact(bt.lt _ hq).2
theorem alk:Ct pg 164 #[.map (some mb)] w X nX λv wa w'=> ∃bx,v= .func (.func 230) #[] #[ptr bx 0]/\aH w' (made wa w') bx [.map (some mb)] 281:=by
 intro w0 hk;refine tU.1 λhs=>?_;refine uy rfl hs.has λbx w1 X1 gn aB bt=>?_;repeat' refine aq ?_;intros
 exact cH aB λwa aL=>⟨bx,rfl,⟨gn,(bt.kp aL).lt⟩,(bt.kp aL).2⟩
theorem agN {bx:Nat} {α:Type} {rd:World->XS->Value->α->Prop} {l:List (Int×α)} (h:dS w X A mb AM rd l) (hb:aH w X bx [.map (some mb)] 281)
  (hs: ∀x∈l,-(2^63)<=x.1/\x.1<2^63) (hl:l.length<=2^40):
  Ct pg 120 #[.func (.func 230) #[] #[ptr bx 0]] w X nX λv wa w'=>Own w' (made wa w') wa.heap.size 3 1 v ((qk (l.map (·.1))).map I1):=
 agM h kQ hs hl λwa hk nn D0 xP=>
  AnyZI.keys_gives (ρ:=Tryz.U7) { Tryz.apl with } gu _ trivial rfl zQ bx mb nn D0 wa (hb.kp hk).lt (by have:=(hb.kp hk).2;simp[World.cell?,this]) xP
abbrev GV:=List BA×Option Nat
abbrev GM:=List (Int×GV)
variable {e lo : Nat} {Y : XS}
def xO (h:Own w X lo e k v rows) (hs: ∀g,v.ownBlock=some g->Y g):Own w Y lo e k v rows:=⟨h.1,h.2.1,hs⟩
def EC (h:Own w X lo e k v rows) (hm: ∀g,v.ownBlock=some g->Y g/\w'.heap[g]? =w.heap[g]?):Own w' Y lo e k v rows:=
 (xO h (Y:=λg=>v.ownBlock=some g) λg hg=>hg).mv λg hg _=>hm g hg
def aam {κ α:Type} [DecidableEq κ] {k:κ} {a:α} {l:List (κ×α)} :(k,a)∈cU k a l:=gS jK
theorem R4 {κ α:Type} [DecidableEq κ] {k:κ} {a:α} : ∀{l:List (κ×α)} {y:κ×α},y∈l->y.1≠k->y∈cU k a l
 |x::l,y,h,hy=>by
  unfold cU;split
  ·rename_i hx;rcases List.mem_cons.1 h with rfl|h
   ·exact absurd hx hy
   ·exact bG _ h
  ·rcases List.mem_cons.1 h with rfl|h
   ·exact List.mem_cons_self
   ·exact bG _ (R4 h hy)
theorem C4 {κ α:Type} [DecidableEq κ] {k:κ} {a:α} : ∀l:List (κ×α),(cU k a l).length<=l.length+1
 |[]=>by simp[cU]
 |x::l=>by
  have:=C4 (k:=k) (a:=a) l;unfold cU;split<;>simp[*]<;>omega
def MN (lo:Nat) (w:World) (X:XS) (v:Value) (x:GV):Prop:=Own w X lo 9 1 v (x.1.map S1)/\v.ownBlock=x.2
def zP:qV (MN lo):=λ_ _ _ _ _ _ h m=>⟨h.1.mv m,h.2⟩
def wG (gm:GM):XS:=λg=> ∃e∈gm,e.2.2=some g
def aan (gm:GM):Prop:= ∀e∈gm,∀e'∈gm,e.1≠e'.1-> ∀g,e.2.2=some g->e'.2.2≠some g
abbrev td:GV:=([],none)
variable {g : Nat} {gm : GM}
theorem Jz {k:Int} (h:((getM k gm).getD td).2=some g): ∃x,(k,x)∈gm/\x=(getM k gm).getD td:=by
 cases hg:getM k gm with
 |none=>rw[hg] at h;cases h
 |some x=>exact⟨x,gS hg,rfl⟩
variable {sz : Nat}
theorem aao {k:Int} (h:dS w X A mb AM (MN lo) gm) (n: ∀v,MN lo w A v ((getM k gm).getD td)->N v):
  aY pg X w (Instr.lookup 281 (.map (some mb)) (I k) false) N:=by
 refine nr (kt:=3) (et:=40) (kv:=AM) (.slice none 0 0) h AL kQ kQ (λv a hg hv=>n v ?_) (λhg=>n (.slice none 0 0) ?_)
 ·rw[hg];exact hv
 ·rw[hg];exact⟨Own.nil _ _ _ _ _,rfl⟩
theorem anV {k:Int} (h:mD w X db mb ds) (n:N ((getM k ds).getD .zero).v):aY pg X w (Instr.lookup 222 (.map (some mb)) (I k) false) N:=by
 refine nr (kt:=3) (et:=48) (kv:=AM) fe.zero.v h.map AL kQ kQ (λv a hg hv=>?_) (λhg=>?_)
 ·simp only[Jy] at hv;subst hv;rw[hg] at n;exact n
 ·rw[hg] at n;exact n
theorem aan.put {k:Int} {x:GV} (hn:(gm.map (·.1)).Nodup) (h:aan gm) (cI: ∀g,wG gm g->g<sz) (hx: ∀g,x.2=some g->((getM k gm).getD td).2=some g\/sz<=g):
  aan (cU k x gm)/\ ∀g,wG (cU k x gm) g->wG gm g\/x.2=some g:=by
 have key: ∀e'∈gm,e'.1≠k-> ∀g,x.2=some g->e'.2.2≠some g:=λe' yQ cu g hg mN=>by
  rcases hx g hg with h1|h1
  ·obtain⟨y,hy,e⟩:=Jz h1;exact h (k,y) hy e' yQ (λe=>cu e.symm) g (by rw[e];exact h1) mN
  ·have:=cI g ⟨e',yQ,mN⟩;omega
 refine⟨λe he e' yQ cu g hg=>?_,λg ⟨e,he,hg⟩=>?_⟩
 ·rcases mV hn he with rfl|⟨h1,h2⟩
  ·rcases mV hn yQ with rfl|⟨h3,h4⟩
   ·exact absurd rfl cu
   ·exact key e' h3 h4 g hg
  ·rcases mV hn yQ with rfl|⟨h3,h4⟩
   ·exact λmN=>key e h1 h2 g mN hg
   ·exact h e h1 e' h3 cu g hg
 ·rcases mV hn he with rfl|⟨h1,h2⟩
  ·exact .inr hg
  ·exact .inl ⟨e,h1,hg⟩
def jc (ds:tK):List (Int×List BA)->List BA->List (Int×List BA)×Int
 |m,[]=>(m,0)
 |m,k::r=>if iN k then(match nZ ds k with
  |none=>(m,8)
  |some g=>jc ds (if((getM g.id m).getD []).any (λx=>decide (k=x))then m else cU g.id (((getM g.id m).getD [])++[k]) m) r)else(m,10)
structure pd where
 pe:fe
 keys:List BA
def pd.rd (w:World) (X:XS) (l:List Value) (g:pd):Prop:= ∃v,l=g.pe.l++[v]/\Sl w X 1 v (g.keys.map S1)
def pd.mv:GF pd.rd:=λ⟨v,h,h1⟩ m=>⟨v,h,h1.mv m⟩
def mW (ds:tK) (m:List (Int×List BA)):List pd:=(qk (m.map (·.1))).map λid=>⟨(getM id ds).getD .zero,(getM id m).getD []⟩
def zR (gm:GM):List (Int×List BA):=gm.map λe=>(e.1,e.2.1)
theorem R5 (k:Int) (gm:GM):(getM k (zR gm)).getD []=((getM k gm).getD td).1:=by
 rw[zR,Z8 (λx:GV=>x.1)];cases getM k gm<;>rfl
theorem ae0 (k:Int) (x:GV) (gm:GM):zR (cU k x gm)=cU k x.1 (zR gm):=PX (λx:GV=>x.1) k x gm
theorem abE (gm:GM):(zR gm).map (·.1)=gm.map (·.1):=by simp[zR,cd,jQ]
theorem HA {x:Nat} : ∀{n:Nat} {r:fe},zO ds x n=some r-> ∃j:Nat,1<=j/\j<=n/\getM (j:Int) ds=some r/\fe.Sm r x=true
 |0,r,h=>by cases h
 |n+1,r,h=>by
  rw[zO] at h;cases hg:getM ((n+1:Nat):Int) ds with
  |none=>
   rw[hg] at h;obtain⟨j,h1,h2,h3⟩:=HA h;exact⟨j,h1,by omega,h3⟩
  |some q=>
   rw[hg] at h;simp only at h;by_cases hq:fe.Sm q x=true
   ·rw[if_pos hq] at h;cases h;exact⟨n+1,by omega,by omega,hg,hq⟩
   ·rw[if_neg hq] at h;obtain⟨j,h1,h2,h3⟩:=HA h;exact⟨j,h1,by omega,h3⟩
variable {r : fe}
theorem Of {k:BA} (h:nZ ds k=some r): ∃j:Nat,1<=j/\j<=12/\getM (j:Int) ds=some r/\fe.Sm r (placeOf k)=true:=by
 unfold nZ at h;split at h
 ·exact HA h
 ·cases h
theorem Oh {keys:List BA} (h:mD w X db mb ds) (hW: ∀(i:Int) (r:fe),getM i ds=some r->r.id=i) (ha:Sl w X 1 a (keys.map S1)) (hl:keys.length<=2^30) (gh: ∀k∈keys,k.size<=2^62):
  Ct pg 111 #[ptr db 0,a] w X nX λv wa w'=>if(jc ds [] keys).2≠0 then v= .tuple #[.slice none 0 0,I (jc ds [] keys).2] else∃vl,v= .tuple #[vl,I 0]/\eY w' (made wa w') 5 vl pd.rd (mW ds (jc ds [] keys).1):=by
 intro w0 hk;replace h:=h.mv hk.cE;replace ha:=ha.mv hk.cE;generalize hR:jc ds [] keys=R;refine PI.1 λhs=>?_;refine rL (kv:=AM) (MN w0.heap.size) nX hs.has λgb w1 X1 hgb aB pV=>?_;have Lc:dS w1 X1 (wG []) gb AM (MN w0.heap.size) []:=pV.mv zP (Mv.sub λ_ h=>h) λk h=>h.elim;replace hs:=hs.trans aB;have sj:=ha.mv hs.mv;repeat' refine aq ?_;intros
 refine fY (λn a w X=> ∃(i:Nat) (gm:GM),a=I i/\n=keys.length-i/\i<=keys.length/\ai (bP w0) w0 X w/\dS w X (wG gm) gb AM (MN w0.heap.size) gm/\(∀g,wG gm g->X g/\w0.heap.size<=g/\g≠gb)/\aan gm/\
  (∀e∈gm,1<=e.1/\e.1<=12/\e.2.1.length<=i)/\gm.length<=i/\R=jc ds (zR gm) (keys.drop i)) keys.length ⟨0,[],rfl,rfl,ak _,hs,Lc,λg ⟨e,he,_⟩=>absurd he sQ,λe he=>absurd he sQ,λe he=>absurd he sQ,au _,hR.symm⟩ ?_
 clear hs aB pV Lc sj hR;rintro n _ w X ⟨i,gm,rfl,rfl,hi,hs,hm,FE,ae1,hlen,hU,hw⟩;have sj:=ha.mv hs.mv;rcases dB (keys) i with⟨cI,k,hx,hd⟩|⟨dC,hd⟩
 ·rw[hd,jc] at hw;repeat' first|refine aI ?_;intros|with_reducible apply cK
  refine sk (lD k) kQ hs.has λw1' X1' aB=>?_;replace hm:=hm.mv zP aB.mv (aB.gY λg hg=>(FE g hg).1);replace FE: ∀g,wG gm g->X1' g/\w0.heap.size<=g/\g≠gb:=λg hg=>⟨aB.sub g (FE g hg).1,(FE g hg).2⟩;replace hs:=hs.trans aB;clear aB sj;by_cases hg:iN k=true
  ·rw[if_pos hg] at hw;rw[hg];repeat' refine aq ?_;intros
   refine ff (abD (h.mv hs.mv) (gh k (av hx))) kQ hs.has λw2 X2 bH=>?_;cases hr:nZ ds k with
   |none=>
    rw[hr] at hw;simp only at hw;replace hs:=hs.trans bH;simp only[Option.getD_none,Option.isSome_none];repeat' first|refine aq ?_;intros|(refine qr ?_;intro wa hk;(rw[hw];simp))
   |some r=>
    rw[hr] at hw;simp only at hw;simp only[BN,Option.isSome_some];obtain⟨j,hj1,hj2,hj3,hj4⟩:=Of hr;have oc:1<=r.id/\r.id<=12:=by have:=hW _ _ hj3;omega
    rw[R5] at hw;have rO:=hm.mv zP bH.mv (bH.gY λg hg=>(FE g hg).1);have aap: ∀g,wG gm g->X2 g/\w0.heap.size<=g/\g≠gb:=λg hg=>⟨bH.sub g (FE g hg).1,(FE g hg).2⟩;clear hm FE;replace hs:=hs.trans bH;clear bH;repeat' refine aq ?_;intros
    refine aao rO λv hv=>?_;have lE:(((getM r.id gm).getD td).1).length<=i:=by
     cases J0:getM r.id gm with
     |none=>simp
     |some x=>exact(hlen _ (gS J0)).2.2
    have AH:=hv.1.mono λg hg=>(aap g hg).1;refine ff (vI AH.sl) kQ hs.has λw3 X3 dt=>?_;have qS:=rO.mv zP dt.mv (dt.gY λg hg=>(aap g hg).1);have qd: ∀g,wG gm g->X3 g/\w0.heap.size<=g/\g≠gb:=λg hg=>⟨dt.sub g (aap g hg).1,(aap g hg).2⟩;clear rO aap hv AH;replace hs:=hs.trans dt;clear dt;by_cases hc:(((getM r.id gm).getD td).1.any λx=>decide (k=x))=true
    ·rw[if_pos hc] at hw;rw[hc];repeat' first|refine aq ?_;intros|((with_reducible refine ey ((keys).length-(i+1)) ?_ ?_);omega;exact⟨i+1,gm,by simp,rfl,by omega,hs,qS,qd,ae1,λe he=>by have:=hlen e he;omega,by omega,hw⟩)
    ·rw[if_neg hc] at hw;rw[Bool.eq_false_iff.2 hc];repeat' refine aq ?_;intros
     refine aao qS λv hv=>?_;have AH:=hv.1.mono λg hg=>(qd g hg).1;have Tx: ∀g,wG gm g->g<w3.heap.size:=λg hg=>hs.has g (qd g hg).1;have ae2:=hs;have KH: ∀{w3':World} {X3':XS} {s:Value},ai X3 w3 X3' w3'->Sl w3' X3' 1 s [[.string k]]->
       eV pg (vy nX w0 λv w'=>if R.snd≠0 then v=dq #[tF none 0 0,I R.snd] else∃vl,v=dq #[vl,I 0]/\eY w' (made w0 w') 5 vl pd.rd (mW ds R.fst)) X3' w3' true (rY 40 9 1 16 40 v s) λx48 arA arB=>
        eU pg (vy nX w0 λv w'=>if R.snd≠0 then v=dq #[tF none 0 0,I R.snd] else∃vl,v=dq #[vl,I 0]/\eY w' (made w0 w') 5 vl pd.rd (mW ds R.fst)) arB arA true (cR 281 (.map (some gb)) (I r.id) x48) λx anW anX=>
         aY pg anX anW (binOp .add 3 (I i) (I 1)) λx49=>Gi (J1 λn a w X=> ∃(i:Nat) (gm:GM),a=I i/\n=keys.length-i/\i<=keys.length/\ai (bP w0) w0 X w/\dS w X (wG gm) gb AM (MN w0.heap.size) gm/\(∀g,wG gm g->X g/\w0.heap.size<=g/\g≠gb)/\aan gm/\
          (∀e∈gm,1<=e.1/\e.1<=12/\e.2.1.length<=i)/\gm.length<=i/\R=jc ds (zR gm) (keys.drop i)) (keys.length-i) x49 anW anX:=λ{w3'} {X3'} {s} hsx pf=>by
      have arC:=qS.mv zP hsx.mv (hsx.gY λg hg=>(qd g hg).1);have HO:MN w0.heap.size w3' (wG gm) v ((getM r.id gm).getD td):=zP _ _ _ _ _ _ hv (hsx.gY λg hg=>(qd g hg).1);have apq: ∀g,wG gm g->X3' g/\w0.heap.size<=g/\g≠gb:=λg hg=>⟨hsx.sub g (qd g hg).1,(qd g hg).2⟩;have apr: ∀g,wG gm g->g<w3'.heap.size:=λg hg=>aw (Tx g hg) hsx.kp.size;replace AH:=AH.since hsx;have aj0:=hs.trans hsx;clear qS hv qd Tx hs;have qS:=arC;have hv:=HO;have qd:=apq;have Tx:=apr;have hs:=aj0;refine qK (bytes:=16) (X0:=bP w0) AH hs (λ_ h=>h) kQ pf (by simp[aK.one]) (by simp only[af,bF];omega) (by simp only[af,bF];omega) λv4 w4 X4 gd Gs Fe arD=>?_;have hx4: ∀g,v4.ownBlock=some g->((getM r.id gm).getD td).2=some g\/w3'.heap.size<=g:=λg hg=>by
       rcases arD with e|⟨g',e,dC⟩
       ·left;rw[<-hv.2,<-e,hg]
       ·right;rw[e] at hg;cases hg;exact dC
      have EK:=ae1.put (k:=r.id) (x:=((((getM r.id gm).getD td).1++[k]),v4.ownBlock)) qS.nodup Tx hx4;have hblk: ∀g,fv v g->wG gm g:=λg hg=>by
       have hg:v.ownBlock=some g:=hg;rw[hv.2] at hg;obtain⟨y,hy,e⟩:=Jz hg;exact⟨_,hy,by rw[e];exact hg⟩
      have hva:MN w0.heap.size w4 (λg=>v4.ownBlock=some g) v4 ((((getM r.id gm).getD td).1++[k]),v4.ownBlock):=⟨Go.Proofs.YtgfijddlkhkopaaGreat.xO (by simpa using Gs) λg hg=>hg,rfl⟩;have HJ:aez w4 X4 (wG (cU r.id ((((getM r.id gm).getD td).1++[k]),v4.ownBlock) gm)) gb AM (MN w0.heap.size) r.id gm:=dS.toX qS (λg hg _=>by
        have hg:g=gb:=hg;subst hg;exact⟨Fe.sub _ qS.x.1,Fe.block _ qS.x.1 λh=>(qd _ (hblk _ h)).2.2 rfl⟩) λy u hy cu jE=>⟨EC jE.1 λg hg=>⟨⟨y,R4 hy cu,jE.2.symm.trans hg⟩,Fe.block g (qd g ⟨y,hy,jE.2.symm.trans hg⟩).1 λh=>by
       have h:v.ownBlock=some g:=h;rw[hv.2] at h;obtain⟨q,hq,e⟩:=Jz h;exact ae1 _ hq y hy (λe'=>cu e'.symm) g (by rw[e];exact h) (jE.2.symm.trans hg)⟩,jE.2⟩
      have anY:MN w0.heap.size w4 (wG (cU r.id ((((getM r.id gm).getD td).1++[k]),v4.ownBlock) gm)) v4 ((((getM r.id gm).getD td).1++[k]),v4.ownBlock):=⟨hva.1.mono λg hg=>⟨_,aam,hg⟩,rfl⟩;have ae3: ∀g,wG (cU r.id ((((getM r.id gm).getD td).1++[k]),v4.ownBlock) gm) g->X4 g/\w0.heap.size<=g/\g≠gb:=λg hg=>by
       rcases EK.2 g hg with h1|h1
       ·exact⟨Fe.sub g (qd g h1).1,(qd g h1).2⟩
       ·have h1:v4.ownBlock=some g:=h1;refine⟨Gs.2.2 g h1,(Gs.ge h1).1,λe=>?_⟩;rcases hx4 g h1 with h2|h2
        ·obtain⟨y,hy,e'⟩:=Jz h2;exact(qd g ⟨_,hy,by rw[e'];exact h2⟩).2.2 e
        ·have:=qS.x.2;omega
      refine agk (k:=r.id) (kv:=AM) (kt:=3) (et:=40) HJ zP anY (λg hg=>⟨(ae3 g hg).1,(ae3 g hg).2.2⟩) AL kQ gd.has λw5 X5 E6 xS=>?_;have tr:ai (bP w0) w0 X5 w5:=gd.dT E6 λg hg e=>by have:g<w0.heap.size:=hg;omega
      have arE: ∀g,wG (cU r.id ((((getM r.id gm).getD td).1++[k]),v4.ownBlock) gm) g->X5 g/\w0.heap.size<=g/\g≠gb:=λg hg=>⟨E6.sub g (ae3 g hg).1,(ae3 g hg).2⟩;have aps: ∀e∈cU r.id ((((getM r.id gm).getD td).1++[k]),v4.ownBlock) gm,1<=e.1/\e.1<=12/\e.2.1.length<=i+1:=λe he=>by
       rcases mV qS.nodup he with rfl|⟨h1,_⟩
       ·exact⟨oc.1,oc.2,by simp only[aa,bF];omega⟩
       ·have:=hlen e h1;omega
      have as3:=C4 (k:=r.id) (a:=((((getM r.id gm).getD td).1++[k]),v4.ownBlock)) gm;have hw5:R=jc ds (zR (cU r.id ((((getM r.id gm).getD td).1++[k]),v4.ownBlock) gm)) (keys.drop (i+1)):=by rw[ae0];exact hw
      clear hs ae2 aj0 hv AH hva anY HJ qS qd Tx Gs gd;repeat' first|refine aq ?_;intros|((with_reducible refine ey ((keys).length-(i+1)) ?_ ?_);omega;exact⟨i+1,_,by simp,rfl,by omega,tr,xS,arE,EK.1,aps,by omega,hw5⟩)
     clear qS qd Tx ae2;repeat' first|(exact KH (aB.less λ_ h=>h) ho.sl)|(with_reducible apply Xm);(case hX=>exact hs.has);(case he=>kernel_rfl);(case ho=>first|rfl|assumption);(case hk=>rfl);intro acc w X aB ho|(refine And.intro ?_ ?_)
  ·rw[if_neg hg] at hw;rw[show iN k=false by simpa using hg];repeat' first|refine aq ?_;intros|(refine qr ?_;intro wa hk;(rw[hw];simp))
 ·rw[hd,jc] at hw;rw[hw];repeat' refine aI ?_;intros
  refine cM alk kQ hs.has ?_;rintro _ wa w2 X2 ⟨bx,rfl,hb⟩ hle gC bH;have rO:=hm.mv zP bH.mv (bH.gY λg hg=>(FE g hg).1);have MK:=hs.trans bH;refine cM (agN rO (hb.mono gC) (λe he=>by have:=hlen e he;omega) (by have:bB gm<=i:=hU;omega)) kQ MK.has ?_;rintro vs wb w3 X3 ho rn mX dt;have qS:=rO.mv zP dt.mv (dt.gY λg hg=>bH.sub g (FE g hg).1);have qd: ∀g,wG gm g->X3 g/\w0.heap.size<=g:=λg hg=>⟨dt.sub g (bH.sub g (FE g hg).1),(FE g hg).2.1⟩;have hsB:=MK.trans dt;have xl:Own w3 X3 w0.heap.size 3 1 vs ((qk (gm.map (·.1))).map I1):=ho.up mX (by have:=MK.kp.size;omega);have XQ:(qk (gm.map (·.1))).length=gm.length:=by rw[(pH _).length_eq,af]
  rw[show mW ds (zR gm,(0:Int)).1=(qk (gm.map (·.1))).map λid=>(⟨(getM id ds).getD .zero,((getM id gm).getD td).1⟩:pd)by simp only[mW,abE,R5]];generalize qk (gm.map (·.1))=ids at xl XQ⊢;clear hs bH dt MK hm rO ho hb FE sj;have hs:=hsB;have pf:=xl.sl;have arG:bB gm<=i:=hU;repeat' refine aq ?_;intros
  have hlN:ids.length<=2^30:=by omega
  clear dC hd hw hlen hU ae1 hi arG;refine gM (λn a b w X=> ∃(j:Nat) (rows:List (List Value)),a=I j/\n=ids.length-j/\j<=ids.length/\ai (bP w0) w0 X w/\Own w X w0.heap.size 140 5 b rows/\rows.length=j/\(∀g,X3 g->X g/\w.heap[g]? =w3.heap[g]?)/\(∀g,b.ownBlock=some g-> ¬X3 g)/\
   ∀(q:Nat) (r:List Value),rows[q]? =some r-> ∃id v,ids[q]? =some id/\r=((getM id ds).getD .zero).l++[v]/\Sl w (wG gm) 1 v (((getM id gm).getD td).1.map S1)) ids.length
   ⟨0,[],rfl,rfl,ak _,hs,Own.nil _ _ _ _ _,rfl,λg hg=>⟨hg,rfl⟩,nofun,λq r hr=>?_⟩ ?_
  ·cases hr
  clear hs;rintro n _ b w X ⟨j,rows,rfl,rfl,hj,hs,yT,pM,MO,kZ,CW⟩;have anZ: ∀{Y:XS},(∀g,Y g->X3 g)->Mv Y w3 X w:=λhY g hg _=>MO g (hY g hg);have Ch:=xl.sl.mv (anZ λg hg=>hg);have Ek:=h.row.mv hs.mv;rcases dB ids j with⟨cI,id,hx,hd⟩|⟨dC,hd⟩
  ·repeat' refine aI ?_;intros
   refine anV (h.mv hs.mv) ?_;refine aao (qS.mv zP (anZ λg hg=>hg) λg hg _=>⟨hg,(MO g (qd g hg).1).2⟩) λv hv=>?_;obtain⟨vb,vn,vc,rfl⟩:=hv.1.sl.form;have ov:aK.one (.slice vb vn vc)=true:=rfl;repeat' first|refine aq ?_;intros|(with_reducible apply QB);(case hX=>exact hs.has);(case he=>kernel_rfl);(case hk=>rfl);intro acc w X aB ho;obtain⟨_,_,_,rfl⟩:=ho.sl.form;replace hs:=hs.trans aB
   refine qK (bytes:=56) (X0:=bP w0) (yT.since aB) hs (λ_ h=>h) kQ ho.sl (λr hr u hu=>?_) (by simp only[bF];omega) (by simp only[bF];omega) λv5 w5 X5 tr uG E6 wP=>?_
   ·rw[ax] at hr;subst hr;simp only[List.mem_cons,dJ,or_false] at hu;rcases hu with rfl|rfl|rfl|rfl|rfl<;>first|rfl|exact ov
   have ae4: ∀g,X3 g->X5 g/\w5.heap[g]? =w3.heap[g]? :=λg hg=>⟨E6.sub g (aB.sub g (MO g hg).1),(E6.block g (aB.sub g (MO g hg).1) λe=>kZ g e hg).trans ((aB.kp.block g (MO g hg).1).trans (MO g hg).2)⟩;have arH: ∀g,v5.ownBlock=some g-> ¬X3 g:=λg hg hx3=>by
    rcases wP with e|⟨g',e,dC⟩
    ·exact kZ g (e▸hg) hx3
    ·rw[e] at hg;cases hg;have:=aB.has g (aB.sub g (MO g hx3).1);omega
   have De: ∀(q:Nat) (r:List Value),(rows++[((getM id ds).getD .zero).l++[.slice vb vn vc]])[q]? =some r-> ∃id v,ids[q]? =some id/\r=((getM id ds).getD .zero).l++[v]/\Sl w5 (wG gm) 1 v (((getM id gm).getD td).1.map S1):=λq r hr=>by
    have xS: ∀{u:Value} {rs:List (List Value)},Sl w3 (wG gm) 1 u rs->Sl w5 (wG gm) 1 u rs:=λh=>h.mv λg hg _=>⟨hg,(ae4 g (qd g hg).1).2⟩;rcases Nat.lt_trichotomy q rows.length with hq|hq|hq
    ·rw[List.getElem?_append_left hq] at hr;obtain⟨id',v',e1,e2,e3⟩:=CW q r hr;exact⟨id',v',e1,e2,e3.mv λg hg _=>⟨hg,(ae4 g (qd g hg).1).2.trans (MO g (qd g hg).1).2.symm⟩⟩
    ·subst hq;rw[bQ (au _)] at hr;simp only[Nat.sub_self,List.getElem?_cons_zero,aj] at hr;exact⟨id,_,by rw[pM];exact hx,hr.symm,hv.1.sl.mv λg hg _=>⟨hg,(ae4 g (qd g hg).1).2.trans (MO g (qd g hg).1).2.symm⟩⟩
    ·rw[List.getElem?_eq_none oQ] at hr;cases hr
   replace hs:=tr;repeat' first|refine aq ?_;intros|((with_reducible refine fG (ids.length-(j+1)) ?_ ?_);omega;exact⟨j+1,_,by simp,rfl,by omega,tr,uG,by simp;omega,ae4,arH,De⟩)
  ·repeat' refine aI ?_;intros
   refine cH hs λH3 aL=>?_;simp only[ne_eq,not_true_eq_false,if_false];refine⟨b,rfl,rows,(yT.kp aL).tight.sl,by rw[af];omega,λq r g hr hg=>?_⟩;obtain⟨id,v,e1,e2,e3⟩:=CW q r hr;rw[List.getElem?_map,e1] at hg;cases hg;exact⟨v,e2,e3.mv λg hg _=>⟨⟨(qd g hg).2,aw (hs.has g (MO g (qd g hg).1).1) aL.size⟩,aL.block g (MO g (qd g hg).1).1⟩⟩
theorem alm {t:Nat} (h:Own w Y lo e k v rows) (hz:z=i) (hi:i<=rows.length) (ht:pg.underlying t=some (.slice (pg.elem t))) (hs:((pg.info? (pg.elem t)).map (·.size)).isSome=true)
  (n: ∀v',Own w Y lo e k v' (rows.take i)->N v'):aY pg X w (Instr.sliceAt t v none (some (.int .i64 z)) none) N:=by
 rcases h.row with⟨rfl,rfl⟩|⟨g,cap,cs,rfl,gr,bt,ql,iq,qI,tW⟩
 ·have h0:i=0:=by simpa using hi
  subst h0;exact Ld hz (au _) ht hs (n _ (Own.nil _ _ _ _ _))
 ·have hr: ∀r∈rows,r.length=k:=h.1;refine Ld hz zQ ht hs (n _ (Own.E9 (n:=i) bt gr (λr jY=>hr r (dK jY)) (by rw[aD];omega) zQ iq qI ?_));have h1:=congrArg (List.take (i*k)) tW;rw[List.take_take,Nat.min_eq_left (Nat.mul_le_mul_right k hi)] at h1;rw[h1];have Le:rows.flatten=(rows.take i).flatten++(rows.drop i).flatten:=by rw[<-dX,fy]
  have hl:((rows.take i).flatten).length=i*k:=by rw[kK (k:=k) λr jY=>hr r (dK jY),aD,Nat.min_eq_left hi]
  rw[Le,List.take_append_of_le_length zQ,az zQ]
theorem Nt (h:Own w X lo e k v rows) (hg:v.ownBlock=some g): ∃cs:List Value,w.heap[g]? =some (.cells cs.toArray e (0,0)):=by
 rcases h.row with⟨rfl,_⟩|⟨b,cap,cs,rfl,_,hr,_⟩
 ·cases hg
 ·simp only[Value.ownBlock,aj] at hg;subst hg;exact⟨cs,hr.2⟩
theorem agO {κ α:Type} [DecidableEq κ] {kv:κ->Value} {rd:World->XS->Value->α->Prop} {l:List (κ×α)} (h:Own w X lo e k v rows) (hm:dS w Y A b kv rd l):v.ownBlock≠some b:=λhg=>by
 obtain⟨cs,h1⟩:=Nt h hg;obtain⟨es,c,h2,_⟩:=hm;rw[h2.2.1] at h1;cases h1
variable {cs : List Value}
theorem Gx {e':Nat} (h:Own w X lo e k v rows) (hr:aH w Y g cs e') (he:decide (e≠e')=true):v.ownBlock≠some g:=λhg=>by
 obtain⟨c,h1⟩:=Nt h hg;rw[hr.2] at h1;simp only[aj,Obj.cells.injEq] at h1;exact of_decide_eq_true he h1.2.1.symm
def nF:World->XS->Value->gO->Prop:=λ_ _ v x=>v=x.v
def kP:qV nF:=λ_ _ _ _ _ _ h _=>h
abbrev runT:Nat:=295
abbrev an0:Nat:=97
structure ix (w:World) (N:XS) (rb sb wb:Nat) (xD:Value) (s:List gO) (wr:List (BA×gO)):Prop where
 row:aH w N rb [xD,.map (some sb),.map (some wb)] runT
 own:Own w N 0 an0 3 xD (s.reverse.map gO.l)
 map:dS w N nX wb Value.string nF wr
variable {sb wb : Nat}
section
variable {N N' G : XS} {rb : Nat} {xD oU : Value} {s s' : List gO} {wr px : List (BA × gO)}
def ix.mv (h:ix w N rb sb wb xD s wr) (v:Mv N w N' w'):ix w' N' rb sb wb xD s wr:=⟨h.row.mv v,h.own.mv v,h.map.mv kP v λ_ h=>h.elim⟩
theorem ix.ne (h:ix w N rb sb wb xD s wr):wb≠rb:=h.map.eT h.row
def ix.ns (h:ix w N rb sb wb xD s wr):xD.ownBlock≠some rb/\xD.ownBlock≠some wb:=⟨Gx h.own h.row kQ,agO h.own h.map⟩
theorem mi {κ α:Type} [DecidableEq κ] {kv:κ->Value} {rd:World->XS->Value->α->Prop} {l:List (κ×α)} (h:dS w X A b kv rd l) (hb:Y b):dS w Y A b kv rd l:=by
 obtain⟨es,c,h1,h2⟩:=h;exact⟨es,c,⟨hb,h1.2⟩,h2⟩
theorem MP {v:gO} (h:ix w N rb sb wb xD (v::s) wr) (hN:FX N X w):Ct pg 236 #[ptr rb 0] w X N λx wa w'=>x=v.v/\ ∃oU,ix w' N rb sb wb oU s wr:=by
 intro w0 hk;have hT:=hN.ft hk;replace h:=h.mv (hN.mv hk);have Kd:=hN.kp hk;have bt:=h.row.mono λk ah=>(Kd k ah).1;have pf:=(h.own.mono λk ah=>(Kd k ah).1).sl;rw[uY] at pf;have hv:(s.reverse++[v])[s.reverse.length]? =some v:=by rw[bQ (au _)];simp
 have hlen:=pf.gV;simp only[aa,tc,bF] at hlen;have wo:(s.reverse++[v]).length=s.length+1:=by simp
 have hl3:s.reverse.length=s.length:=by simp
 obtain⟨q1,q2,q3,rfl⟩:=pf.form;refine RJ.1 λ_=>?_;repeat' refine aq ?_;intros
 have ho:=h.own;rw[uY] at ho;refine alm (i:=s.length) ho zQ (by rw[af];omega) kQ kQ λv2 kF=>?_;rw[<-List.map_take,im hl3] at kF;obtain⟨t1,t2,t3,rfl⟩:=kF.sl.form;have ov2:aK.one (.slice t1 t2 t3)=true:=rfl;repeat' refine aq ?_;intros
 refine qo (o:=0) bt zQ kQ sQ rfl hT.s.has λw1 X1 c1 arI=>?_;have eo:=hT.dT (F':=N) c1 (λk ah=>by subst ah;exact h.row.1) λk ah=>.inl ah;have cu:=Gx kF h.row kQ;have h1:ix w1 N rb sb wb (.slice t1 t2 t3) s wr:=⟨⟨h.row.1,arI.2⟩,EC kF λg hg=>⟨kF.2.2 g hg,c1.block g (Kd g (kF.2.2 g hg)).1 λe=>cu (by rw[<-e];exact hg)⟩,
  (mi h.map (Y:=(· =wb)) rfl).mv kP (λg hg _=>by subst hg;exact⟨h.map.x.1,c1.block _ (Kd _ h.map.x.1).1 h.ne⟩) λ_ h=>h.elim⟩
 repeat' refine aq ?_;intros
 exact eo.fin λwa aL=>⟨rfl,_,h1.mv (aL.jj eo.bg)⟩
theorem JA {v:gO} (h:ix w N rb sb wb xD s wr) (hN:FX N X w) (hl:s.length<=2^30):Ct pg 234 #[ptr rb 0,v.v] w X N λ_ wa w'=> ∃N' oU,(∀k,N' k->N k\/made wa w' k)/\ix w' N' rb sb wb oU (v::s) wr:=by
 intro w0 hk;have hT:=hN.ft hk;replace h:=h.mv (hN.mv hk);have Kd:=hN.kp hk;have bt:=h.row.mono λk ah=>(Kd k ah).1;have hs:=ai.init w0;refine PM.1 λ_=>?_;repeat' first|refine aq ?_;intros|(with_reducible apply QB);(case hX=>exact hs.has);(case he=>kernel_rfl);(case hk=>rfl);intro acc w X aB ho;obtain⟨_,_,_,rfl⟩:=ho.sl.form;replace hs:=hs.trans aB
 have eo:=hT.since aB;have arJ:=aB.gY λk ah=>(Kd k ah).1;have h1:=h.mv arJ;refine Co (bytes:=32) (h1.own.mono λk ah=>aB.sub k (Kd k ah).1) aB.has (ak _) kQ ho.sl (λr hr u hu=>?_) (by simp only[bF,af,tc];omega) (by simp only[bF,af,tc];omega) λv5 w5 X5 E6 uG wP=>?_
 ·rw[ax] at hr;subst hr;simp only[List.mem_cons,dJ,or_false] at hu;rcases hu with rfl|rfl|rfl<;>rfl
 obtain⟨t1,t2,t3,rfl⟩:=uG.sl.form;have XK:=h1.ns;have ae5:aH w5 X5 rb [xD,.map (some sb),.map (some wb)] runT:=⟨E6.sub _ (aB.sub _ bt.1),(E6.block rb (aB.sub _ bt.1) λe=>XK.1 e).trans h1.row.2⟩;have an1: ∀k,k=wb->X k:=λk e=>by subst e;exact aB.sub _ (Kd _ h.map.x.1).1
 have apt:dS w5 (· =wb) nX wb Value.string nF wr:=(mi h1.map (Y:=(· =wb)) rfl).mv kP (λg hg _=>⟨hg,E6.block g (an1 g hg) λe=>by subst hg;exact XK.2 e⟩) λ_ h=>h.elim;have iQ:=eo.dT (F':=λk=>N k\/(tF t1 t2 t3).ownBlock=some k) E6 (λk ah=>h1.own.2.2 k ah) λk ah=>by
  rcases ah with ah|ah
  ·exact .inl ah
  ·rcases wP with e|⟨g,e,dC⟩
   ·exact .inl (h1.own.2.2 k (by rw[<-e];exact ah))
   ·rw[e] at ah;cases ah;exact .inr ⟨uG.2.2 _ e,dC⟩
 clear hs aB ho;repeat' refine aq ?_;intros
 refine qo (o:=0) ae5 zQ kQ sQ rfl iQ.s.has λw6 X6 c6 Bh=>?_;have arK:=Gx uG ae5 kQ;have ku:=iQ.dT (F':=λk=>N k\/(tF t1 t2 t3).ownBlock=some k) c6 (λk ah=>.inl (by subst ah;exact h.row.1)) λk ah=>.inl ah;have arL:Own w5 X5 0 an0 3 (.slice t1 t2 t3) ((v::s).reverse.map gO.l):=by rw[uY,aC];exact uG
 have h6:ix w6 (λk=>N k\/(tF t1 t2 t3).ownBlock=some k) rb sb wb (.slice t1 t2 t3) (v::s) wr:=⟨⟨.inl h.row.1,Bh.2⟩,EC arL λg hg=>⟨.inr hg,c6.block g (uG.2.2 g hg) λe=>arK (by rw[<-e];exact hg)⟩,
  (mi apt (Y:=(· =wb)) rfl).mv kP (λg hg _=>by subst hg;exact⟨.inl h.map.x.1,c6.block _ (E6.sub _ (an1 _ rfl)) h1.ne⟩) λ_ h=>h.elim⟩
 skip
 exact ku.fin λwa aL=>⟨_,_,ku.jv aL λ_ h=>h,h6.mv (aL.jj ku.bg)⟩
def zt (c:Int) (a b:gO):Except Int (List gO):=
 if c=11 then .ok [aag (decide (Tv a b<0))] else if c=12 then .ok [aag (decide (Tv a b=0))] else if c=15 then .ok [a,b]
 else if a.kind=2\/b.kind=2 then .error 23 else .ok [aaf (Tw c a.num b.num)]
theorem agP {c:Int} {a b:gO} (h:ix w N rb sb wb xD (b::a::s) wr) (hN:FX N X w) (hl:s.length<=2^20):
  Fj pg 238 #[ptr rb 0,I c] w X N (λ_ wa w'=> ∃l N' oU,zt c a b= .ok l/\(∀k,N' k->N k\/made wa w' k)/\ix w' N' rb sb wb oU (l++s) wr) (λch _ _=> ∃e,zt c a b= .error e/\ch=wg e):=by
 intro w0 hk;have hT:=hN.ft hk;replace h:=h.mv (hN.mv hk);refine RK.1 λ_=>?_;refine hT.call (MP h (hN.kp hk)) kQ (λ_ h=>h) λv DX w1 X1 hq qw nY eo c1=>?_;obtain⟨rfl,ajk,h1⟩:=hq;have hN1:FX N X1 w1:=λk ah=>⟨eo.bg k (.inl ah),c1.has k (eo.bg k (.inl ah))⟩;replace eo:=eo.less (F':=N) λk ah=>.inl ah;have hs:=ai.fL c1.has;repeat' refine aq ?_;intros
 refine eo.call (MP h1 hN1) kQ (λ_ h=>h) λv xN w2 X2 hq lK ko da c2=>?_;obtain⟨rfl,an2,h2⟩:=hq;have QI:FX N X2 w2:=λk ah=>⟨da.bg k (.inl ah),c2.has k (da.bg k (.inl ah))⟩;replace da:=da.less (F':=N) λk ah=>.inl ah;clear hs h1 h;have hs:=ai.fL c2.has;have Ew: ∀{w3:World} {X3:XS} {N3:XS} {s3:List gO} {v:gO} {Ao:Value} {K:Value->World->XS->Prop},Ft w0 N w3 X3 N3->ix w3 N3 rb sb wb Ao s3 wr->s3.length<=2^30->
   (∀x w4 X4 N4 HB,Ft w0 N w4 X4 N4->ix w4 N4 rb sb wb HB (v::s3) wr->K x w4 X4)->eC pg (Fk N w0 (λ_ w'=> ∃l N' oU,zt c a b= .ok l/\(∀k,N' k->N k\/made w0 w' k)/\ix w' N' rb sb wb oU (l++s) wr) (λch _=> ∃e,zt c a b= .error e/\ch=wg e)) X3 w3 true 234 #[ptr rb 0,v.v] K:=λq1 q2 q3 k=>by
  refine q1.call (JA q2 (λk ah=>⟨q1.bg k ah,q1.s.has k (q1.bg k ah)⟩) q3) kQ (λ_ h=>h) λv zB w4 X4 hq tJ py fR c4=>?_;obtain⟨N4,HB,UN,h4⟩:=hq;exact k _ _ _ _ _ (fR.less UN) h4
 have ux: ∀{w3:World} {X3:XS} {N3:XS} {l:List gO} {Ao:Value} {x:Value},Ft w0 N w3 X3 N3->ix w3 N3 rb sb wb Ao (l++s) wr->zt c a b= .ok l->
   fin (Fk N w0 (λ_ w'=> ∃l N' oU,zt c a b= .ok l/\(∀k,N' k->N k\/made w0 w' k)/\ix w' N' rb sb wb oU (l++s) wr) (λch _=> ∃e,zt c a b= .error e/\ch=wg e)) X3 w3 x:=λq1 q2 q3=>
  q1.yf λwa aL=>⟨_,_,_,q3,q1.jv aL λ_ h=>h,q2.mv (aL.jj q1.bg)⟩
 by_cases e1:c=11
 ·repeat' first|refine aI ?_;intros|with_reducible apply cK
  refine sk (GX a b) kQ hs.has λw3 X3 dt=>?_;have dU:=da.since dt;have h3:=h2.mv (dt.gY λk ah=>(QI k ah).1);replace hs:=hs.trans dt;by_cases hq:Tv a b<0;all_goals
   repeat' refine aI ?_;intros
   refine sk (ML _) kQ hs.has λw4 X4 gd=>?_;have fR:=dU.since gd;have h4:=h3.mv (gd.gY λk ah=>dt.sub k (QI k ah).1);refine Ew fR h4 zQ λx w5 X5 N5 ajl iQ h5=>?_;have hz:=iQ.s;clear hs;have hs:=ai.fL iQ.s.has;repeat' first|(exact ux (l:=[_]) iQ h5 (by unfold zt;simp[hq, *]))
 by_cases e2:c=12
 ·repeat' first|refine aI ?_;intros|with_reducible apply cK
  refine sk (GX a b) kQ hs.has λw3 X3 dt=>?_;have dU:=da.since dt;have h3:=h2.mv (dt.gY λk ah=>(QI k ah).1);replace hs:=hs.trans dt;by_cases hq:Tv a b=0;all_goals
   repeat' refine aI ?_;intros
   refine sk (ML _) kQ hs.has λw4 X4 gd=>?_;have fR:=dU.since gd;have h4:=h3.mv (gd.gY λk ah=>dt.sub k (QI k ah).1);refine Ew fR h4 zQ λx w5 X5 N5 ajl iQ h5=>?_;have hz:=iQ.s;clear hs;have hs:=ai.fL iQ.s.has;repeat' first|(exact ux (l:=[_]) iQ h5 (by unfold zt;simp[hq, *]))
 by_cases e3:c=15
 ·repeat' first|refine aI ?_;intros|with_reducible apply cK
  refine Ew da h2 zQ λx w5 X5 N5 ajl iQ h5=>?_;clear hs;have hs:=ai.fL iQ.s.has;repeat' refine aq ?_;intros
  refine Ew iQ h5 (by simp only[aJ];omega) λx w6 X6 N6 as4 ku h6=>?_;clear hs;repeat' first|(exact ux (l:=[_,_]) ku h6 (by unfold zt;rw[if_neg e1,if_neg e2,if_pos e3]))
 ·repeat' first|refine aI ?_;intros|with_reducible apply cK
  refine da.Gw (VY c a b) kQ (λ_ h=>h.elim) (λv zA w3 X3 hq rn mX dU c3=>?_) λch zA w3 X3 hq rn mX dU c3 wb pS=>dU.jg pS ⟨23,by unfold zt;rw[if_neg e1,if_neg e2,if_neg e3,if_pos hq.1],hq.2⟩;obtain⟨hnt,rfl⟩:=hq;have h3:=h2.mv (c3.jj λk ah=>⟨(QI k ah).1,λh=>h.elim⟩);replace dU:=dU.less (F':=N) λk ah=>.inl ah;clear hs;have hs:=ai.fL dU.s.has
  skip
  refine Ew dU h3 zQ λx w5 X5 N5 ajl iQ h5=>?_;clear hs;have hs:=ai.fL iQ.s.has;repeat' first|(exact ux (l:=[_]) iQ h5 (by unfold zt;rw[if_neg e1,if_neg e2,if_neg e3,if_neg hnt]))
end
def Rm (r:fe):List Nat:=encI r.id++(encI r.iE++(Hz r.lo++Hz r.hi))
def zI (v:pW):List Nat:=lL v.aU++Js v.val
def Cq (h:kM):List Nat:=wR h.key++iY zI h.nh
def zk (p:gy):List Nat:=oq p.aG++(lL p.aU++(iY wR p.reads++iY sL p.writes))
def encS (s:State):List Nat:=Rm s.range++(lL s.floor++(lL s.closed++(iY Cq s.iA++iY zk s.ia)))
theorem CC {α:Type} {f:α->List Nat} {xs:List α} {x:α} (h:xs[i]? =some x):(encI xs.length).length+((xs.take i).map f).flatten.length+(f x).length<=(iY f xs).length:=by
 have h1:xs=xs.take i++(x::xs.drop (i+1)):=by
  obtain⟨hi,rfl⟩:=List.getElem?_eq_some_iff.1 h;rw[<-List.drop_eq_getElem_cons hi,fy]
 have h2:(iY f xs).length=(encI xs.length).length+((xs.take i).map f).flatten.length+((f x).length+((xs.drop (i+1)).map f).flatten.length):=by
  unfold iY;conv=>lhs;rw[h1]
  rw[aC,dX,<-h1];simp only[bh,dd,aa];omega
 omega
theorem Pv (x:Nat):(Hz x).length=8:=by simp[Hz]
theorem Fq (n:Int):1<=(encI n).length:=by
 unfold encI qx;split<;>simp
theorem Vh (x:KV):x.key.size<=(sL x).length:=by
 have h1:=Ag x.key;unfold sL;rw[aa];omega
variable {bs : List Nat} {vb : Value} {cb xb xo : Nat} {Z : XS}
theorem aaq {b:Bool} (h:Wr w X lo wb vb bs) (hc:Cells w Z cb 0 (lC wb)) (hx:Cells w Z xb xo [B b]) (hZ:uX Z X wb vb) (hb:bs.length<=2^38) (gr:lo<=w.heap.size):
  oS 188 #[ptr cb 0,ptr xb xo] w X lo wb vb bs (aee b):=by
 intro w0 hk;have dp:lo<=w0.heap.size:=ad gr hk.size;replace hc:=hc.mv (hZ.mv hk);replace hx:=hx.mv (hZ.mv hk);have hS:=WS.init (h.mv hk.cE);refine Kw.1 λ_=>?_;have hs:=hS.s;repeat' refine aq ?_;intros
 refine hS.fA (abu hS.r zQ dp) kQ λjk w2 X2 bf qJ=>?_
 skip
 exact bf.fin
theorem DS {x:Nat} (h:Wr w X lo wb vb bs) (hc:Cells w Z cb 0 (lC wb)) (hx:Cells w Z xb xo [.float .f64 x]) (hZ:uX Z X wb vb) (hb:bs.length<=2^38) (gr:lo<=w.heap.size):
  oS 190 #[ptr cb 0,ptr xb xo] w X lo wb vb bs (Hz x):=by
 intro w0 hk;have dp:lo<=w0.heap.size:=ad gr hk.size;replace hc:=hc.mv (hZ.mv hk);replace hx:=hx.mv (hZ.mv hk);have hS:=WS.init (h.mv hk.cE);refine Jc.1 λ_=>?_;have hs:=hS.s;repeat' refine aq ?_;intros
 refine hS.fA (MF hS.r zQ dp) kQ λjk w2 X2 bf qJ=>?_
 skip
 exact bf.fin
theorem V3 (h:Wr w X lo wb vb bs) (hc:Cells w Z cb 0 (lC wb)) (hx:Cells w Z xb xo r.l) (hZ:uX Z X wb vb) (hb:bs.length<=2^36) (gr:lo<=w.heap.size):
  oS 263 #[ptr cb 0,ptr xb xo] w X lo wb vb bs (Rm r):=by
 have e1:=fD r.id;have e2:=fD r.iE;have e3:=Pv r.lo;intro w0 hk;have dp:lo<=w0.heap.size:=ad gr hk.size;replace hc:=hc.mv (hZ.mv hk);replace hx:=hx.mv (hZ.mv hk);have hS:=WS.init (h.mv hk.cE);refine Jf.1 λ_=>?_;have hs:=hS.s;repeat' refine aq ?_;intros
 refine hS.fA (jU hS.r (hc.mv hS.at) (Cells.mv aQ hS.at) hS.z (by(try simp only[aa]);omega) (ad dp hs.kp.size)) kQ λjk w X bf _=>?_;replace hs:=bf.s;repeat' refine aq ?_;intros
 refine bf.fA (jU bf.r (hc.mv bf.at) (Cells.mv aQ bf.at) bf.z (by(try simp only[aa]);omega) (ad dp hs.kp.size)) kQ λnA w X cx _=>?_;replace hs:=cx.s;repeat' refine aq ?_;intros
 refine cx.fA (DS cx.r (hc.mv cx.at) (Cells.mv aQ cx.at) cx.z (by(try simp only[aa]);omega) (ad dp hs.kp.size)) kQ λRV w X ig _=>?_;replace hs:=ig.s;repeat' refine aq ?_;intros
 refine ig.fA (DS ig.r (hc.mv ig.at) (Cells.mv aQ ig.at) ig.z (by(try simp only[aa]);omega) (ad dp hs.kp.size)) kQ λvb5 w X nM _=>?_;replace hs:=nM.s
 skip
 unfold Rm;simp only[ao] at nM;exact nM.fin
theorem R6 {x:pW} (h:Wr w X lo wb vb bs) (hc:Cells w Z cb 0 (lC wb)) (hx:Cells w Z xb xo x.l) (hZ:uX Z X wb vb) (hb:bs.length<=2^36) (gr:lo<=w.heap.size):
  oS 327 #[ptr cb 0,ptr xb xo] w X lo wb vb bs (zI x):=by
 have e1:=vB x.aU;intro w0 hk;have dp:lo<=w0.heap.size:=ad gr hk.size;replace hc:=hc.mv (hZ.mv hk);replace hx:=hx.mv (hZ.mv hk);have hS:=WS.init (h.mv hk.cE);refine Hx.1 λ_=>?_;have hs:=hS.s;repeat' refine aq ?_;intros
 refine hS.fA (kC (s:=x.aU) hS.r (hc.mv hS.at) (Cells.mv aQ hS.at) hS.z (by(try simp only[aa]);omega) (ad dp hs.kp.size)) kQ λjk w X bf _=>?_;replace hs:=bf.s;repeat' refine aq ?_;intros
 refine bf.fA (DP (v:=x.val) bf.r (hc.mv bf.at) (Cells.mv aQ bf.at) bf.z (by(try simp only[aa]);omega) (ad dp hs.kp.size)) kQ λnA w X cx _=>?_;replace hs:=cx.s
 skip
 unfold zI;simp only[ao] at cx;exact cx.fin
variable {va : Value}
theorem P1 {xs:List BA} (h:Wr w X lo wb vb bs) (hc:Cells w Z cb 0 (lC wb)) (hx:Cells w Z xb xo [va]) (ha:Sl w Z 1 va (xs.map S1)) (hZ:uX Z X wb vb) (gr:lo<=w.heap.size) (hb:bs.length+(iY wR xs).length<=2^33):
  oS 267 #[ptr cb 0,ptr xb xo,.func (.func 268) #[ptr cb 0] #[]] w X lo wb vb bs (iY wR xs):=by
  intro w0 hk;have dp:lo<=w0.heap.size:=ad gr hk.size;replace hc:=hc.mv (hZ.mv hk);replace hx:=hx.mv (hZ.mv hk);replace ha:=ha.mv (hZ.mv hk);have hS:=WS.init (h.mv hk.cE);have lh:=ha.gV;refine Jg.1 λ_=>?_;have hs:=hS.s;repeat' refine aq ?_;intros
  refine ib (λ(k:Value->World->XS->Prop)=> ∀w X jk,WS w0 vb w X lo wb jk (bs++encI xs.length)->k (I xs.length) w X) ?_ ?_
  ·intro w X jk bf;refine fY (λn' a w X=> ∃(i:Nat) (vD:Value),a=I i/\n'=xs.length-i/\i<=xs.length/\WS w0 vb w X lo wb vD (bs++encI xs.length++((xs.take i).map wR).flatten)) xs.length ⟨0,jk,rfl,rfl,ak _,by simpa using bf⟩ ?_;clear bf hS hs;rintro n' a w X ⟨i,vD,rfl,rfl,hi,hS⟩;have hs:=hS.s;rcases dB xs i with⟨cI,x,AN,hd⟩|⟨dC,hd⟩
   ·have gn:=CC (f:=wR) AN;repeat' refine aI ?_;intros
    refine ib (λ(k:World->XS->Prop)=>k w X) ?_ ?_
    ·repeat' refine aq ?_;intros
     refine Dp ?_;refine hS.fA (BL (s:=x) hS.r (hc.mv hS.at) (Cells.mv aQ hS.at) hS.z (by simp only[aa];omega) (ad dp hs.kp.size) (by have:=Ag x;omega)) kQ λnA w3 X3 cx vu=>?_;replace hs:=cx.s;repeat' refine aq ?_;intros
     refine ey (xs.length-(i+1)) zQ ⟨i+1,nA,by simp,rfl,by omega,?_⟩;rw[mf AN,<-ao];exact cx
    ·intro K hK;repeat' first|refine aq ?_;intros|exact hK
   ·rw[az dC] at hS;repeat' refine aI ?_;intros
    rw[ao] at hS;exact hS.fin
  ·intro K hK;repeat' refine aq ?_;intros
   refine hS.fA (pK hS.r zQ dp) kQ λjk w2 X2 bf qJ=>?_;replace hs:=bf.s
   skip
   exact hK _ _ _ bf
theorem GZ {xs:List Int} (h:Wr w X lo wb vb bs) (hc:Cells w Z cb 0 (lC wb)) (hx:Cells w Z xb xo [va]) (ha:Sl w Z 1 va (xs.map I1)) (hZ:uX Z X wb vb) (gr:lo<=w.heap.size) (hb:bs.length+(iY encI xs).length<=2^33):
  oS 186 #[ptr cb 0,ptr xb xo,.func (.func 183) #[ptr cb 0] #[]] w X lo wb vb bs (iY encI xs):=by
  intro w0 hk;have dp:lo<=w0.heap.size:=ad gr hk.size;replace hc:=hc.mv (hZ.mv hk);replace hx:=hx.mv (hZ.mv hk);replace ha:=ha.mv (hZ.mv hk);have hS:=WS.init (h.mv hk.cE);have lh:=ha.gV;refine D5.1 λ_=>?_;have hs:=hS.s;repeat' refine aq ?_;intros
  refine ib (λ(k:Value->World->XS->Prop)=> ∀w X jk,WS w0 vb w X lo wb jk (bs++encI xs.length)->k (I xs.length) w X) ?_ ?_
  ·intro w X jk bf;refine fY (λn' a w X=> ∃(i:Nat) (vD:Value),a=I i/\n'=xs.length-i/\i<=xs.length/\WS w0 vb w X lo wb vD (bs++encI xs.length++((xs.take i).map encI).flatten)) xs.length ⟨0,jk,rfl,rfl,ak _,by simpa using bf⟩ ?_;clear bf hS hs;rintro n' a w X ⟨i,vD,rfl,rfl,hi,hS⟩;have hs:=hS.s;rcases dB xs i with⟨cI,x,AN,hd⟩|⟨dC,hd⟩
   ·have gn:=CC (f:=encI) AN;repeat' refine aI ?_;intros
    refine ib (λ(k:World->XS->Prop)=>k w X) ?_ ?_
    ·repeat' refine aq ?_;intros
     refine Dp ?_;refine hS.fA (jU (n:=x) hS.r (hc.mv hS.at) (Cells.mv aQ hS.at) hS.z (by simp only[aa];omega) (ad dp hs.kp.size)) kQ λnA w3 X3 cx vu=>?_;replace hs:=cx.s;repeat' refine aq ?_;intros
     refine ey (xs.length-(i+1)) zQ ⟨i+1,nA,by simp,rfl,by omega,?_⟩;rw[mf AN,<-ao];exact cx
    ·intro K hK;repeat' first|refine aq ?_;intros|exact hK
   ·rw[az dC] at hS;repeat' refine aI ?_;intros
    rw[ao] at hS;exact hS.fin
  ·intro K hK;repeat' refine aq ?_;intros
   refine hS.fA (pK hS.r zQ dp) kQ λjk w2 X2 bf qJ=>?_;replace hs:=bf.s
   skip
   exact hK _ _ _ bf
variable {xs : List KV}
theorem Ke (h:Wr w X lo wb vb bs) (hc:Cells w Z cb 0 (lC wb)) (hx:Cells w Z xb xo [va]) (ha:Sl w Z 4 va (xs.map KV.l)) (hZ:uX Z X wb vb) (gr:lo<=w.heap.size) (hb:bs.length+(iY sL xs).length<=2^33):
  oS 191 #[ptr cb 0,ptr xb xo,.func (.func 192) #[ptr cb 0] #[]] w X lo wb vb bs (iY sL xs):=by
  intro w0 hk;have dp:lo<=w0.heap.size:=ad gr hk.size;replace hc:=hc.mv (hZ.mv hk);replace hx:=hx.mv (hZ.mv hk);replace ha:=ha.mv (hZ.mv hk);have hS:=WS.init (h.mv hk.cE);have lh:=ha.gV;refine F8.1 λ_=>?_;have hs:=hS.s;repeat' refine aq ?_;intros
  refine ib (λ(k:Value->World->XS->Prop)=> ∀w X jk,WS w0 vb w X lo wb jk (bs++encI xs.length)->k (I xs.length) w X) ?_ ?_
  ·intro w X jk bf;refine fY (λn' a w X=> ∃(i:Nat) (vD:Value),a=I i/\n'=xs.length-i/\i<=xs.length/\WS w0 vb w X lo wb vD (bs++encI xs.length++((xs.take i).map sL).flatten)) xs.length ⟨0,jk,rfl,rfl,ak _,by simpa using bf⟩ ?_;clear bf hS hs;rintro n' a w X ⟨i,vD,rfl,rfl,hi,hS⟩;have hs:=hS.s;rcases dB xs i with⟨cI,x,AN,hd⟩|⟨dC,hd⟩
   ·have gn:=CC (f:=sL) AN;repeat' refine aI ?_;intros
    refine ib (λ(k:World->XS->Prop)=>k w X) ?_ ?_
    ·repeat' refine aq ?_;intros
     refine Dp ?_;refine hS.fA (VS (x:=x) hS.r (hc.mv hS.at) (Cells.mv aQ hS.at) hS.z (by simp only[aa];omega) (ad dp hs.kp.size) (by have:=Vh x;omega)) kQ λnA w3 X3 cx vu=>?_;replace hs:=cx.s;repeat' refine aq ?_;intros
     refine ey (xs.length-(i+1)) zQ ⟨i+1,nA,by simp,rfl,by omega,?_⟩;rw[mf AN,<-ao];exact cx
    ·intro K hK;repeat' first|refine aq ?_;intros|exact hK
   ·rw[az dC] at hS;repeat' refine aI ?_;intros
    rw[ao] at hS;exact hS.fin
  ·intro K hK;repeat' refine aq ?_;intros
   refine hS.fA (pK hS.r zQ dp) kQ λjk w2 X2 bf qJ=>?_;replace hs:=bf.s
   skip
   exact hK _ _ _ bf
theorem V4 (h:Wr w X lo wb vb bs) (hc:Cells w Z cb 0 (lC wb)) (hx:Cells w Z xb xo [va]) (ha:Sl w Z 4 va (xs.map KV.l)) (hZ:uX Z X wb vb) (gr:lo<=w.heap.size) (hb:bs.length+(iY sL xs).length<=2^33):
  oS 193 #[ptr cb 0,ptr xb xo,.func (.func 194) #[ptr cb 0] #[]] w X lo wb vb bs (iY sL xs):=by
  intro w0 hk;have dp:lo<=w0.heap.size:=ad gr hk.size;replace hc:=hc.mv (hZ.mv hk);replace hx:=hx.mv (hZ.mv hk);replace ha:=ha.mv (hZ.mv hk);have hS:=WS.init (h.mv hk.cE);have lh:=ha.gV;refine Hu.1 λ_=>?_;have hs:=hS.s;repeat' refine aq ?_;intros
  refine ib (λ(k:Value->World->XS->Prop)=> ∀w X jk,WS w0 vb w X lo wb jk (bs++encI xs.length)->k (I xs.length) w X) ?_ ?_
  ·intro w X jk bf;refine fY (λn' a w X=> ∃(i:Nat) (vD:Value),a=I i/\n'=xs.length-i/\i<=xs.length/\WS w0 vb w X lo wb vD (bs++encI xs.length++((xs.take i).map sL).flatten)) xs.length ⟨0,jk,rfl,rfl,ak _,by simpa using bf⟩ ?_;clear bf hS hs;rintro n' a w X ⟨i,vD,rfl,rfl,hi,hS⟩;have hs:=hS.s;rcases dB xs i with⟨cI,x,AN,hd⟩|⟨dC,hd⟩
   ·have gn:=CC (f:=sL) AN;repeat' refine aI ?_;intros
    refine ib (λ(k:World->XS->Prop)=>k w X) ?_ ?_
    ·repeat' refine aq ?_;intros
     refine Dp ?_;refine hS.fA (Z5 (x:=x) hS.r (hc.mv hS.at) (Cells.mv aQ hS.at) hS.z (by simp only[aa];omega) (ad dp hs.kp.size) (by have:=Vh x;omega)) kQ λnA w3 X3 cx vu=>?_;replace hs:=cx.s;repeat' refine aq ?_;intros
     refine ey (xs.length-(i+1)) zQ ⟨i+1,nA,by simp,rfl,by omega,?_⟩;rw[mf AN,<-ao];exact cx
    ·intro K hK;repeat' first|refine aq ?_;intros|exact hK
   ·rw[az dC] at hS;repeat' refine aI ?_;intros
    rw[ao] at hS;exact hS.fin
  ·intro K hK;repeat' refine aq ?_;intros
   refine hS.fA (pK hS.r zQ dp) kQ λjk w2 X2 bf qJ=>?_;replace hs:=bf.s
   skip
   exact hK _ _ _ bf
theorem R7 {xs:List pW} (h:Wr w X lo wb vb bs) (hc:Cells w Z cb 0 (lC wb)) (hx:Cells w Z xb xo [va]) (ha:Sl w Z 6 va (xs.map pW.l)) (hZ:uX Z X wb vb) (gr:lo<=w.heap.size) (hb:bs.length+(iY zI xs).length<=2^33):
  oS 326 #[ptr cb 0,ptr xb xo,.func (.func 327) #[ptr cb 0] #[]] w X lo wb vb bs (iY zI xs):=by
  intro w0 hk;have dp:lo<=w0.heap.size:=ad gr hk.size;replace hc:=hc.mv (hZ.mv hk);replace hx:=hx.mv (hZ.mv hk);replace ha:=ha.mv (hZ.mv hk);have hS:=WS.init (h.mv hk.cE);have lh:=ha.gV;refine Er.1 λ_=>?_;have hs:=hS.s;repeat' refine aq ?_;intros
  refine ib (λ(k:Value->World->XS->Prop)=> ∀w X jk,WS w0 vb w X lo wb jk (bs++encI xs.length)->k (I xs.length) w X) ?_ ?_
  ·intro w X jk bf;refine fY (λn' a w X=> ∃(i:Nat) (vD:Value),a=I i/\n'=xs.length-i/\i<=xs.length/\WS w0 vb w X lo wb vD (bs++encI xs.length++((xs.take i).map zI).flatten)) xs.length ⟨0,jk,rfl,rfl,ak _,by simpa using bf⟩ ?_;clear bf hS hs;rintro n' a w X ⟨i,vD,rfl,rfl,hi,hS⟩;have hs:=hS.s;rcases dB xs i with⟨cI,x,AN,hd⟩|⟨dC,hd⟩
   ·have gn:=CC (f:=zI) AN;repeat' refine aI ?_;intros
    refine ib (λ(k:World->XS->Prop)=>k w X) ?_ ?_
    ·repeat' refine aq ?_;intros
     refine Dp ?_;refine hS.fA (R6 (x:=x) hS.r (hc.mv hS.at) (Cells.mv aQ hS.at) hS.z (by simp only[aa];omega) (ad dp hs.kp.size)) kQ λnA w3 X3 cx vu=>?_;replace hs:=cx.s;repeat' refine aq ?_;intros
     refine ey (xs.length-(i+1)) zQ ⟨i+1,nA,by simp,rfl,by omega,?_⟩;rw[mf AN,<-ao];exact cx
    ·intro K hK;repeat' first|refine aq ?_;intros|exact hK
   ·rw[az dC] at hS;repeat' refine aI ?_;intros
    rw[ao] at hS;exact hS.fin
  ·intro K hK;repeat' refine aq ?_;intros
   refine hS.fA (pK hS.r zQ dp) kQ λjk w2 X2 bf qJ=>?_;replace hs:=bf.s
   skip
   exact hK _ _ _ bf
theorem R8 {vv:Value} {x:kM} (h:Wr w X lo wb vb bs) (hc:Cells w Z cb 0 (lC wb)) (hx:Cells w Z xb xo (x.l vv)) (ha:Sl w Z 6 vv (x.nh.map pW.l)) (hZ:uX Z X wb vb) (gr:lo<=w.heap.size) (hb:bs.length+(Cq x).length<=2^33):
  oS 265 #[ptr cb 0,ptr xb xo] w X lo wb vb bs (Cq x):=by
 have e1:(Cq x).length=(wR x.key).length+(iY zI x.nh).length:=by simp[Cq]
 have e2:=Ag x.key;replace ha:=λ{w1:World} (hk:Kp X w w1)=>ha.mv (hZ.mv hk);intro w0 hk;have dp:lo<=w0.heap.size:=ad gr hk.size;replace hc:=hc.mv (hZ.mv hk);replace hx:=hx.mv (hZ.mv hk);have hS:=WS.init (h.mv hk.cE);refine Hw.1 λ_=>?_;have hs:=hS.s;replace ha:=ha hk;repeat' refine aq ?_;intros
 refine hS.fA (BL hS.r (hc.mv hS.at) (Cells.mv aQ hS.at) hS.z zQ dp zQ) kQ λjk w X bf _=>?_;replace hs:=bf.s;repeat' refine aq ?_;intros
 refine bf.fA (R7 bf.r (hc.mv bf.at) (Cells.mv aQ bf.at) (ha.mv bf.at) bf.z (ad dp hs.kp.size) (by simp only[aa];omega)) kQ λnA w X cx _=>?_
 skip
 unfold Cq;simp only[ao] at cx;exact cx.fin
variable {vr vw : Value}
theorem G4 {x:gy} (h:Wr w X lo wb vb bs) (hc:Cells w Z cb 0 (lC wb)) (hx:Cells w Z xb xo (x.l vr vw)) (h1:Sl w Z 1 vr (x.reads.map S1)) (h2:Sl w Z 4 vw (x.writes.map KV.l)) (hZ:uX Z X wb vb) (gr:lo<=w.heap.size) (hb:bs.length+(zk x).length<=2^33):
  oS 185 #[ptr cb 0,ptr xb xo] w X lo wb vb bs (zk x):=by
 have e1:(zk x).length=(oq x.aG).length+((lL x.aU).length+((iY wR x.reads).length+(iY sL x.writes).length)):=by simp[zk]
 replace h1:=λ{w1:World} (hk:Kp X w w1)=>h1.mv (hZ.mv hk);replace h2:=λ{w1:World} (hk:Kp X w w1)=>h2.mv (hZ.mv hk);intro w0 hk;have dp:lo<=w0.heap.size:=ad gr hk.size;replace hc:=hc.mv (hZ.mv hk);replace hx:=hx.mv (hZ.mv hk);have hS:=WS.init (h.mv hk.cE);refine Ht.1 λ_=>?_;have hs:=hS.s;replace h1:=h1 hk;replace h2:=h2 hk;have o1:=h1.one;have o2:=h2.one;repeat' refine aq ?_;intros
 refine hS.fA (zN (s:=x.aG) hS.r (hc.mv hS.at) (Cells.mv aQ hS.at) hS.z (by(try simp only[aa]);omega) (ad dp hs.kp.size)) kQ λjk w X bf _=>?_;replace hs:=bf.s;repeat' refine aq ?_;intros
 refine bf.fA (kC (s:=x.aU) bf.r (hc.mv bf.at) (Cells.mv aQ bf.at) bf.z (by(try simp only[aa]);omega) (ad dp hs.kp.size)) kQ λnA w X cx _=>?_;replace hs:=cx.s;repeat' refine aq ?_;intros
 refine cx.fA (P1 cx.r (hc.mv cx.at) (Cells.mv aQ cx.at) (h1.mv cx.at) cx.z (ad dp hs.kp.size) (by simp only[aa];omega)) kQ λRV w X ig _=>?_;replace hs:=ig.s;repeat' refine aq ?_;intros
 refine ig.fA (Ke ig.r (hc.mv ig.at) (Cells.mv aQ ig.at) (h2.mv ig.at) ig.z (ad dp hs.kp.size) (by simp only[aa];omega)) kQ λvb5 w X nM _=>?_
 skip
 unfold zk;simp only[ao] at nM;exact nM.fin
theorem P2 {xs:List kM} (h:Wr w X lo wb vb bs) (hc:Cells w Z cb 0 (lC wb)) (hx:Cells w Z xb xo [va]) (ha:ri w Z va xs) (hZ:uX Z X wb vb) (gr:lo<=w.heap.size) (hb:bs.length+(iY Cq xs).length<=2^33):
  oS 264 #[ptr cb 0,ptr xb xo,.func (.func 265) #[ptr cb 0] #[]] w X lo wb vb bs (iY Cq xs):=by
  intro w0 hk;have dp:lo<=w0.heap.size:=ad gr hk.size;replace hc:=hc.mv (hZ.mv hk);replace hx:=hx.mv (hZ.mv hk);replace ha:=ha.mv (hZ.mv hk);have hS:=WS.init (h.mv hk.cE);have lh:=eY.len ha;refine Eo.1 λ_=>?_;have hs:=hS.s;repeat' refine aq ?_;intros
  refine ib (λ(k:Value->World->XS->Prop)=> ∀w X jk,WS w0 vb w X lo wb jk (bs++encI xs.length)->k (I xs.length) w X) ?_ ?_
  ·intro w X jk bf;refine fY (λn' a w X=> ∃(i:Nat) (vD:Value),a=I i/\n'=xs.length-i/\i<=xs.length/\WS w0 vb w X lo wb vD (bs++encI xs.length++((xs.take i).map Cq).flatten)) xs.length ⟨0,jk,rfl,rfl,ak _,by simpa using bf⟩ ?_;clear bf hS hs;rintro n' a w X ⟨i,vD,rfl,rfl,hi,hS⟩;have hs:=hS.s;rcases dB xs i with⟨cI,x,AN,hd⟩|⟨dC,hd⟩
   ·have gn:=CC (f:=Cq) AN;repeat' refine aI ?_;intros
    refine ib (λ(k:World->XS->Prop)=>k w X) ?_ ?_
    ·repeat' first|refine aq ?_;intros|((with_reducible apply RQ);assumption;(try (case hz=>rfl));(case hr=>exact qR);(try (case hz=>omega));(case ht=>kernel_rfl);(case hs=>kernel_rfl);intros)
     refine Dp ?_;refine hS.fA (R8 (x:=x) hS.r (hc.mv hS.at) (Cells.mv aQ hS.at) (Sl.mv aQ hS.at) hS.z (ad dp hs.kp.size) (by simp only[aa];omega)) kQ λnA w3 X3 cx vu=>?_;replace hs:=cx.s;repeat' refine aq ?_;intros
     refine ey (xs.length-(i+1)) zQ ⟨i+1,nA,by simp,rfl,by omega,?_⟩;rw[mf AN,<-ao];exact cx
    ·intro K hK;repeat' first|refine aq ?_;intros|exact hK
   ·rw[az dC] at hS;repeat' refine aI ?_;intros
    rw[ao] at hS;exact hS.fin
  ·intro K hK;repeat' refine aq ?_;intros
   refine hS.fA (pK hS.r zQ dp) kQ λjk w2 X2 bf qJ=>?_;replace hs:=bf.s
   skip
   exact hK _ _ _ bf
theorem P3 {xs:List gy} (h:Wr w X lo wb vb bs) (hc:Cells w Z cb 0 (lC wb)) (hx:Cells w Z xb xo [va]) (ha:qZ w Z va xs) (hZ:uX Z X wb vb) (gr:lo<=w.heap.size) (hb:bs.length+(iY zk xs).length<=2^33):
  oS 266 #[ptr cb 0,ptr xb xo,.func (.func 185) #[ptr cb 0] #[]] w X lo wb vb bs (iY zk xs):=by
  intro w0 hk;have dp:lo<=w0.heap.size:=ad gr hk.size;replace hc:=hc.mv (hZ.mv hk);replace hx:=hx.mv (hZ.mv hk);replace ha:=ha.mv (hZ.mv hk);have hS:=WS.init (h.mv hk.cE);have lh:=eY.len ha;refine Ep.1 λ_=>?_;have hs:=hS.s;repeat' refine aq ?_;intros
  refine ib (λ(k:Value->World->XS->Prop)=> ∀w X jk,WS w0 vb w X lo wb jk (bs++encI xs.length)->k (I xs.length) w X) ?_ ?_
  ·intro w X jk bf;refine fY (λn' a w X=> ∃(i:Nat) (vD:Value),a=I i/\n'=xs.length-i/\i<=xs.length/\WS w0 vb w X lo wb vD (bs++encI xs.length++((xs.take i).map zk).flatten)) xs.length ⟨0,jk,rfl,rfl,ak _,by simpa using bf⟩ ?_;clear bf hS hs;rintro n' a w X ⟨i,vD,rfl,rfl,hi,hS⟩;have hs:=hS.s;rcases dB xs i with⟨cI,x,AN,hd⟩|⟨dC,hd⟩
   ·have gn:=CC (f:=zk) AN;repeat' refine aI ?_;intros
    refine ib (λ(k:World->XS->Prop)=>k w X) ?_ ?_
    ·repeat' first|refine aq ?_;intros|((with_reducible apply Wv);assumption;(try (case hz=>rfl));(case hr=>exact qR);(try (case hz=>omega));(case ht=>kernel_rfl);(case hs=>kernel_rfl);intros)
     refine Dp ?_;refine hS.fA (G4 (x:=x) hS.r (hc.mv hS.at) (Cells.mv aQ hS.at) (Sl.mv aQ hS.at) (Sl.mv aQ hS.at) hS.z (ad dp hs.kp.size) (by simp only[aa];omega)) kQ λnA w3 X3 cx vu=>?_;replace hs:=cx.s;repeat' refine aq ?_;intros
     refine ey (xs.length-(i+1)) zQ ⟨i+1,nA,by simp,rfl,by omega,?_⟩;rw[mf AN,<-ao];exact cx
    ·intro K hK;repeat' first|refine aq ?_;intros|exact hK
   ·rw[az dC] at hS;repeat' refine aI ?_;intros
    rw[ao] at hS;exact hS.fin
  ·intro K hK;repeat' refine aq ?_;intros
   refine hS.fA (pK hS.r zQ dp) kQ λjk w2 X2 bf qJ=>?_;replace hs:=bf.s
   skip
   exact hK _ _ _ bf
variable {vh vp : Value}
theorem V5 {x:State} (h:Wr w X lo wb vb bs) (hc:Cells w Z cb 0 (lC wb)) (hx:Cells w Z xb xo (x.l vh vp)) (h1:ri w Z vh x.iA) (h2:qZ w Z vp x.ia) (hZ:uX Z X wb vb) (gr:lo<=w.heap.size) (hb:bs.length+(encS x).length<=2^33):
  oS 184 #[ptr cb 0,ptr xb xo] w X lo wb vb bs (encS x):=by
 have e1:(encS x).length=(Rm x.range).length+((lL x.floor).length+((lL x.closed).length+((iY Cq x.iA).length+(iY zk x.ia).length))):=by simp[encS]
 replace h1:=λ{w1:World} (hk:Kp X w w1)=>ri.mv h1 (hZ.mv hk);replace h2:=λ{w1:World} (hk:Kp X w w1)=>qZ.mv h2 (hZ.mv hk);intro w0 hk;have dp:lo<=w0.heap.size:=ad gr hk.size;replace hc:=hc.mv (hZ.mv hk);replace hx:=hx.mv (hZ.mv hk);have hS:=WS.init (h.mv hk.cE);refine Jb.1 λ_=>?_;have hs:=hS.s;replace h1:=h1 hk;replace h2:=h2 hk;have o1:=h1.one;have o2:=h2.one;repeat' refine aq ?_;intros
 refine hS.fA (V3 (r:=x.range) hS.r (hc.mv hS.at) (Cells.mv aQ hS.at) hS.z (by(try simp only[aa]);omega) (ad dp hs.kp.size)) kQ λjk w X bf _=>?_;replace hs:=bf.s;repeat' refine aq ?_;intros
 refine bf.fA (kC (s:=x.floor) bf.r (hc.mv bf.at) (Cells.mv aQ bf.at) bf.z (by(try simp only[aa]);omega) (ad dp hs.kp.size)) kQ λnA w X cx _=>?_;replace hs:=cx.s;repeat' refine aq ?_;intros
 refine cx.fA (kC (s:=x.closed) cx.r (hc.mv cx.at) (Cells.mv aQ cx.at) cx.z (by(try simp only[aa]);omega) (ad dp hs.kp.size)) kQ λRV w X ig _=>?_;replace hs:=ig.s;repeat' refine aq ?_;intros
 refine ig.fA (P2 ig.r (hc.mv ig.at) (Cells.mv aQ ig.at) (h1.mv ig.at) ig.z (ad dp hs.kp.size) (by simp only[aa];omega)) kQ λvb5 w X nM _=>?_;replace hs:=nM.s;repeat' refine aq ?_;intros
 refine nM.fA (P3 nM.r (hc.mv nM.at) (Cells.mv aQ nM.at) (h2.mv nM.at) nM.z (ad dp hs.kp.size) (by simp only[aa];omega)) kQ λvb6 w X yZ _=>?_
 skip
 unfold encS;simp only[ao] at yZ;exact yZ.fin
def gq (r:Rec):List Nat:=encI r.kind++(
 if r.kind=1 then encS r.state
 else if r.kind=2\/r.kind=7\/r.kind=8 then encI r.n
 else if r.kind=3 then zk ⟨r.aG,r.aU,r.reads,r.writes⟩++iY encI r.parts
 else if r.kind=4 then oq r.aG++(aee r.jM++lL r.aU)
 else if r.kind=5 then lL r.aU
 else if r.kind=6 then Hz r.uf++(encI r.n++lL r.aU)
 else if r.kind=9 then oq r.aG++(lL r.aU++iY encI r.parts)
 else if r.kind=10 then oq r.aG
 else if r.kind=11 then lL r.prev++(lL r.aU++(oq r.aG++iY sL r.writes))
 else if r.kind=12 then lL r.aU++iY sL r.xp
 else [])
variable {ty : TypeId} {o : Nat} {R : Ending -> World -> Prop}
theorem JB {t o':Nat} {N:Value->World->XS->Prop} (h:aH w X b cs ty) (Mm:o'=o) (ht:(P.info? t).map (·.size)=some sz)
  (hl:o+sz<=cs.length) (hv:v.cells.size=sz) (h1:v.cells.toList.all aK.one=true) (hX: ∀k,X k->k<w.heap.size) (he:bM cs o v.cells.toList=cs)
  (n: ∀w' X',ai X w X' w'->N undef w' X'):eU P R X w true (st1 t sz (ptr b o') v) N:=by
 refine Gn h Mm ht hl hv h1 hX λw' X' c hr=>n w' X' ⟨⟨c.os,c.tape,c.output,c.size,λk hk=>?_⟩,c.sub,c.has⟩;by_cases e:k=b
 ·subst e;rw[h.2,hr.2,he]
 ·exact c.block k hk e
variable {w0 : World}
theorem WS.Pb {tE:Value} (hS:WS w0 tE w X lo wb vb bs) (hr:aH w X b cs ty) (hb:w0.heap.size<=b)
  (h1:decide (409≠ty)=true) (h2:decide (5≠ty)=true) (c:dY (λk=>k=b) X w X' w'):WS w0 tE w' X' lo wb vb bs:=by
 have cu:wb≠b:=hS.r.box.eT hr h1;refine⟨hS.s.dT c λq h0 hq=>?_,⟨⟨c.sub _ hS.r.box.1,by rw[c.block _ hS.r.box.1 λe=>cu e];exact hS.r.box.2⟩,Own.dT hS.r.ow c λg hg e=>Own.eT hS.r.ow hr h2 (by rw[hg,e])⟩,hS.v⟩;have:=h0.1;omega
variable {F : XS}
theorem _root_.Go.aK.aH.dT (h:aH w X b cs ty) (c:dY F X w X' w') (hn: ¬F b):aH w' X' b cs ty:=⟨c.sub _ h.1,by rw[c.block _ h.1 hn];exact h.2⟩
variable {vd vq : Value}
theorem abF {r:Rec} (h:Wr w X lo wb vb bs) (hc:Cells w Z cb 0 (lC wb)) (hx:aH w Z xb (r.l vr vw vp vq vh vd) 73) (dc:r.at w Z vr vw vp vq vh vd) (hZ:uX Z X wb vb) (gr:lo<=w.heap.size)
  (hb:bs.length+(gq r).length<=2^33):oS 134 #[ptr cb 0,ptr xb 0] w X lo wb vb bs (gq r):=by
 intro w0 hk;have dp:lo<=w0.heap.size:=ad gr hk.size;replace hc:=hc.mv (hZ.mv hk);replace hx:=hx.mv (hZ.mv hk);replace dc:=dc.mv (hZ.mv hk);obtain⟨a1,a2,a3,a4,a5,a6⟩:=dc;obtain⟨p1,n1,c1,rfl⟩:=a1.form;obtain⟨p2,n2,c2,rfl⟩:=a2.form;have bt:=hx;replace hx:=hx.cells;have hS:=WS.init (h.mv hk.cE);have e1:=fD r.kind;obtain⟨E,hE⟩: ∃E,E=gq r:=⟨_,rfl⟩;rw[<-hE] at hb⊢;unfold gq at hE;have hEl:(encI r.kind).length<=E.length:=by rw[hE,aa];omega
 refine LR.1 λ_=>?_;have hs:=hS.s;repeat' refine aq ?_;intros
 refine hS.fA (jU hS.r (hc.mv hS.at) (Cells.mv aQ hS.at) hS.z zQ (ad dp hs.kp.size)) kQ λjk w X bf _=>?_;replace hs:=bf.s;repeat' refine aq ?_;intros
 refine ib (λ(k:World->XS->Prop)=> ∀w X nA,WS w0 vb w X lo wb nA (bs++E)->k w X) (λw X nA cx=>cx.fin) λK hK=>?_;repeat' first|refine aq ?_;intros|refine dg ?_ ?_<;>intros|with_reducible apply cK
 all_goals (repeat (first|rw[if_pos zQ] at hE|rw[if_neg zQ] at hE))
 all_goals (have hEb:=congrArg bB hE;simp only[aa] at hEb)
 ·refine bf.fA (V5 (x:=r.state) bf.r (hc.mv bf.at) (Cells.mv aQ bf.at) (a5.mv bf.at) (a6.mv bf.at) bf.z (ad dp hs.kp.size) (by simp only[aa];omega)) kQ λnA w X cx _=>?_;have h9:=cx;rw[hE] at hK
  (try simp only[ao] at h9 hK)
  exact hK _ _ _ h9
 ·refine bf.fA (jU bf.r (hc.mv bf.at) (Cells.mv aQ bf.at) bf.z (by simp only[aa];omega) (ad dp hs.kp.size)) kQ λnA w X cx _=>?_;have h9:=cx;rw[hE] at hK
  (try simp only[ao] at h9 hK)
  exact hK _ _ _ h9
 ·refine bf.fA (jU bf.r (hc.mv bf.at) (Cells.mv aQ bf.at) bf.z (by simp only[aa];omega) (ad dp hs.kp.size)) kQ λnA w X cx _=>?_;have h9:=cx;rw[hE] at hK
  (try simp only[ao] at h9 hK)
  exact hK _ _ _ h9
 ·refine bf.fA (jU bf.r (hc.mv bf.at) (Cells.mv aQ bf.at) bf.z (by simp only[aa];omega) (ad dp hs.kp.size)) kQ λnA w X cx _=>?_;have h9:=cx;rw[hE] at hK
  (try simp only[ao] at h9 hK)
  exact hK _ _ _ h9
 ·have e2:(zk ⟨r.aG,r.aU,r.reads,r.writes⟩).length<=E.length:=by omega
  refine Nb (l:=[I 0,I 0,I 0,I 0,I 0,I 0,.slice none 0 0,.slice none 0 0]) hs.has kQ λpb w3 X3 H5 dt aj1=>?_;have cx:=bf.since dt;refine Gn (o:=0) aj1 rfl kQ sQ rfl rfl dt.has λw4 X4 c4 CH=>?_;replace CH:aH w4 X4 pb ((⟨r.aG,r.aU,r.reads,r.writes⟩:gy).l (.slice p1 n1 c1) (.slice p2 n2 c2)) 306:=CH;have arM:w0.heap.size<=pb:=ad hs.kp.size H5;have ig:=cx.Pb aj1 arM kQ kQ c4;have hnf: ¬D9 wb jk pb:=λhf=>hf.elim (λe=>ig.r.box.eT CH kQ e.symm) λe=>Own.eT ig.r.ow CH kQ e;obtain⟨Z',hZ'⟩: ∃Z':XS,Z'=λk=>k=pb\/out (D9 wb vb) w0 k:=⟨_,rfl⟩;have mv4:Mv (out (D9 wb vb) w0) w0 Z' w4:=λk ah _=>⟨by rw[hZ'];exact .inr ah,ig.s.kp.block k ah⟩;have ua:uX Z' X4 wb jk:=λk ah=>by
   rw[hZ'] at ah;rcases ah with rfl|ah
   ·exact⟨CH.1,hnf⟩
   ·exact ig.z k ah
  refine ig.fA (G4 (x:=⟨r.aG,r.aU,r.reads,r.writes⟩) ig.r (hc.mv mv4) (aH.cells (X:=Z') (ty:=306) ⟨by rw[hZ'];exact .inl rfl,CH.2⟩) (a1.mv mv4) (a2.mv mv4) ua (ad dp ig.s.kp.size) (by simp only[aa];omega)) kQ λvb5 w5 X5 nM c5=>?_;have ae5:=CH.dT c5 hnf;clear hs;have hs:=nM.s;repeat' refine aq ?_;intros
  refine JB (o:=1) (bt.mv nM.s.mv) zQ kQ sQ rfl rfl nM.s.has (by rfl) λw6 X6 sU=>?_;have yZ:=nM.since sU;repeat' refine aq ?_;intros
  refine JB (o:=4) (bt.mv yZ.s.mv) zQ kQ sQ rfl rfl yZ.s.has (by rfl) λw7 X7 np=>?_;have GH:=yZ.since np;repeat' refine aq ?_;intros
  refine JB (o:=13) (bt.mv GH.s.mv) zQ kQ sQ rfl rfl GH.s.has (by rfl) λw8 X8 lV=>?_;have GI:=GH.since lV;repeat' refine aq ?_;intros
  refine JB (o:=14) (bt.mv GI.s.mv) zQ kQ sQ rfl rfl GI.s.has (by rfl) λw9 X9 BV=>?_;have hS9:=GI.since BV;clear hs;have hs:=hS9.s;repeat' refine aq ?_;intros
  refine hS9.fA (GZ hS9.r (hc.mv hS9.at) (Cells.mv aQ hS9.at) (a3.mv hS9.at) hS9.z (ad dp hs.kp.size) (by simp only[aa];omega)) kQ λas5 w X ail _=>?_;have h9:=ail;rw[hE] at hK
  (try simp only[ao] at h9 hK)
  exact hK _ _ _ h9
 ·refine bf.fA (zN (s:=r.aG) bf.r (hc.mv bf.at) (Cells.mv aQ bf.at) bf.z (by(try simp only[aa]);omega) (ad dp hs.kp.size)) kQ λnA w X cx _=>?_;replace hs:=cx.s;repeat' refine aq ?_;intros
  refine cx.fA (aaq (b:=r.jM) cx.r (hc.mv cx.at) (Cells.mv aQ cx.at) cx.z (by(try simp only[aa]);omega) (ad dp hs.kp.size)) kQ λRV w X ig _=>?_;replace hs:=ig.s;repeat' refine aq ?_;intros
  refine ig.fA (kC (s:=r.aU) ig.r (hc.mv ig.at) (Cells.mv aQ ig.at) ig.z (by(try simp only[aa]);omega) (ad dp hs.kp.size)) kQ λvb5 w X nM _=>?_;replace hs:=nM.s
  skip
  have h9:=nM;rw[hE] at hK
  (try simp only[ao] at h9 hK)
  exact hK _ _ _ h9
 ·refine bf.fA (kC (s:=r.aU) bf.r (hc.mv bf.at) (Cells.mv aQ bf.at) bf.z (by(try simp only[aa]);omega) (ad dp hs.kp.size)) kQ λnA w X cx _=>?_;replace hs:=cx.s
  skip
  have h9:=cx;rw[hE] at hK
  (try simp only[ao] at h9 hK)
  exact hK _ _ _ h9
 ·refine bf.fA (DS bf.r (hc.mv bf.at) (Cells.mv aQ bf.at) bf.z (by(try simp only[aa]);omega) (ad dp hs.kp.size)) kQ λnA w X cx _=>?_;replace hs:=cx.s;repeat' refine aq ?_;intros
  refine cx.fA (jU cx.r (hc.mv cx.at) (Cells.mv aQ cx.at) cx.z (by(try simp only[aa]);omega) (ad dp hs.kp.size)) kQ λRV w X ig _=>?_;replace hs:=ig.s;repeat' refine aq ?_;intros
  refine ig.fA (kC (s:=r.aU) ig.r (hc.mv ig.at) (Cells.mv aQ ig.at) ig.z (by(try simp only[aa]);omega) (ad dp hs.kp.size)) kQ λvb5 w X nM _=>?_;replace hs:=nM.s
  skip
  have h9:=nM;rw[hE] at hK
  (try simp only[ao] at h9 hK)
  exact hK _ _ _ h9
 ·refine bf.fA (zN (s:=r.aG) bf.r (hc.mv bf.at) (Cells.mv aQ bf.at) bf.z (by(try simp only[aa]);omega) (ad dp hs.kp.size)) kQ λnA w X cx _=>?_;replace hs:=cx.s;repeat' refine aq ?_;intros
  refine cx.fA (kC (s:=r.aU) cx.r (hc.mv cx.at) (Cells.mv aQ cx.at) cx.z (by(try simp only[aa]);omega) (ad dp hs.kp.size)) kQ λRV w X ig _=>?_;replace hs:=ig.s;repeat' refine aq ?_;intros
  refine ig.fA (GZ ig.r (hc.mv ig.at) (Cells.mv aQ ig.at) (a3.mv ig.at) ig.z (ad dp hs.kp.size) (by simp only[aa];omega)) kQ λvb5 w X nM _=>?_;have h9:=nM;rw[hE] at hK
  (try simp only[ao] at h9 hK)
  exact hK _ _ _ h9
 ·refine bf.fA (zN (s:=r.aG) bf.r (hc.mv bf.at) (Cells.mv aQ bf.at) bf.z (by(try simp only[aa]);omega) (ad dp hs.kp.size)) kQ λnA w X cx _=>?_;replace hs:=cx.s
  skip
  have h9:=cx;rw[hE] at hK
  (try simp only[ao] at h9 hK)
  exact hK _ _ _ h9
 ·refine bf.fA (kC (s:=r.prev) bf.r (hc.mv bf.at) (Cells.mv aQ bf.at) bf.z (by(try simp only[aa]);omega) (ad dp hs.kp.size)) kQ λnA w X cx _=>?_;replace hs:=cx.s;repeat' refine aq ?_;intros
  refine cx.fA (kC (s:=r.aU) cx.r (hc.mv cx.at) (Cells.mv aQ cx.at) cx.z (by(try simp only[aa]);omega) (ad dp hs.kp.size)) kQ λRV w X ig _=>?_;replace hs:=ig.s;repeat' refine aq ?_;intros
  refine ig.fA (zN (s:=r.aG) ig.r (hc.mv ig.at) (Cells.mv aQ ig.at) ig.z (by(try simp only[aa]);omega) (ad dp hs.kp.size)) kQ λvb5 w X nM _=>?_;replace hs:=nM.s;repeat' refine aq ?_;intros
  refine nM.fA (Ke nM.r (hc.mv nM.at) (Cells.mv aQ nM.at) (a2.mv nM.at) nM.z (ad dp hs.kp.size) (by simp only[aa];omega)) kQ λvb6 w X yZ _=>?_;have h9:=yZ;rw[hE] at hK
  (try simp only[ao] at h9 hK)
  exact hK _ _ _ h9
 ·refine bf.fA (kC (s:=r.aU) bf.r (hc.mv bf.at) (Cells.mv aQ bf.at) bf.z (by(try simp only[aa]);omega) (ad dp hs.kp.size)) kQ λnA w X cx _=>?_;replace hs:=cx.s;repeat' refine aq ?_;intros
  refine cx.fA (V4 cx.r (hc.mv cx.at) (Cells.mv aQ cx.at) (a4.mv cx.at) cx.z (ad dp hs.kp.size) (by simp only[aa];omega)) kQ λRV w X ig _=>?_;have h9:=ig;rw[hE] at hK
  (try simp only[ao] at h9 hK)
  exact hK _ _ _ h9
 ·rw[List.append_nil] at hE;have h9:=bf;rw[hE] at hK
  (try simp only[ao] at h9 hK)
  exact hK _ _ _ h9
def Rec.fJ (r:Rec):Int:=if r.err≠0 then r.err else if 262144<(gq r).length then 2 else 0
theorem DJ {r:Rec} (h:r.at w X vr vw vp vq vh vd) (lW:r.small) (lT:r.err=0->(gq r).length<=2^33):
  Ct pg 136 #[r.v vr vw vp vq vh vd] w X nX λv wa w'=>if r.fJ≠0 then v= .tuple #[.slice none 0 0,I r.fJ] else∃vb,v= .tuple #[vb,I 0]/\Own w' (made wa w') wa.heap.size 5 1 vb ((gq r).map U1):=by
 intro w0 hk;replace h:=h.mv hk.cE;refine S7.1 λhs=>?_;repeat' first|refine aq ?_;intros|refine dg ?_ ?_<;>intros|(refine Oq hs ?_;intro bx w X gn aB gw hs bt)|(refine ff (aeS (r:=r) (h.mv (gw.trans hs).mv) lW) kQ hs.has λw X aB=>?_;replace hs:=hs.trans aB)|(refine qr ?_;intro wa hk;(have e:r.fJ=r.err:=if_pos aQ;rw[e,if_pos aQ]))
 ·have Gg:r.err=0:=by assumption
  refine cM PV kQ hs.has ?_;rintro v wa w2 X2 ⟨wb,rfl,hW⟩ hle gC bH;have MK:=gw.trans (hs.trans bH);have mc:=bt.lt;have HM:=hs.kp.size;refine aeu kQ ?_;refine Bj MK.has λcb w3 X3 hcb dt Rf=>?_;have hsB:=MK.trans dt;have MZ:=(bt.since (hs.trans bH)).since dt;obtain⟨Z,hZd⟩: ∃Z:XS,Z=λk=>k=bx\/k=cb\/bP w0 k:=⟨_,rfl⟩;have as6:wa.heap.size<=wb/\wb<w2.heap.size:=hW.box.1;have hZ:uX Z X3 wb (.slice none 0 0):=λk ah=>by
   rw[hZd] at ah;refine⟨?_,λhf=>?_⟩
   ·rcases ah with rfl|rfl|ah
    ·exact MZ.1
    ·exact Rf.1
    ·exact hsB.sub k ah
   ·rcases hf with hf|hf
    ·rcases ah with e|e|e
     ·omega
     ·omega
     ·have:k<w0.heap.size:=e;omega
    ·cases hf
  have hcC:Cells w3 Z cb 0 (lC wb):=aH.cells (ty:=249) ⟨by rw[hZd];exact .inr (.inl rfl),Rf.2⟩;have hxC:aH w3 Z bx (r.l vr vw vp vq vh vd) 73:=⟨by rw[hZd];exact .inl rfl,MZ.2⟩;have haC:r.at w3 Z vr vw vp vq vh vd:=h.mv λk ah hl=>⟨by rw[hZd];exact .inr (.inr ah),hsB.kp.block k ah⟩;have Qq:Wr w3 X3 wa.heap.size wb (.slice none 0 0) []:=(hW.mv (Mv.sub gC)).mv dt.mv;refine xQ (abF Qq hcC hxC haC hZ (by have:=dt.kp.size;omega) (by simpa using (lT Gg))) kQ hsB.has (λq hq=>by
   rcases hq with rfl|hq
   ·exact Qq.box.1
   ·cases hq) λv zB w4 X4 hq tJ py as7 Fe=>?_
  obtain⟨rfl,MD,hW4⟩:=hq;have gd:=hsB.dT Fe λk ah hf=>by
   have h0:k<w0.heap.size:=ah;rcases hf with hf|hf
   ·omega
   ·cases hf
  have hW5:Wr w4 X4 wa.heap.size wb MD (gq r):=hW4.mv (Mv.sub λk ah=>by
   rcases ah with(ah|ah)|ah
   ·rw[ah];exact Fe.sub _ Qq.box.1
   ·cases ah
   ·exact py k ah)
  refine cM (Z4 hW5 zQ) kQ gd.has ?_;rintro v5 Oo w5 X5 uG IG E4 tr;have hsC:=gd.trans tr;have ho:Own w5 X5 w0.heap.size 5 1 v5 ((gq r).map U1):=uG.up E4 (by have:=gd.kp.size;omega);clear hs gw;have hs:=hsC;have hl:(List.map U1 (gq r)).length=(gq r).length:=af _;repeat' first|refine aq ?_;intros|refine dg ?_ ?_<;>intros
  ·have e:r.fJ=2:=by unfold Rec.fJ;rw[if_neg zQ,if_pos zQ]
   exact cH hs λwb aL=>by rw[e,if_pos zQ]
  ·have e:r.fJ=0:=by unfold Rec.fJ;rw[if_neg zQ,if_neg zQ]
   exact cH hs λwb aL=>by
    rw[e,if_neg zQ];exact⟨v5,rfl,(ho.kp aL).tight⟩
def R9 (n:Int):Bool:=(decide (n>=1)&&decide (n<=12))||(decide (n>20)&&decide (n<=22))||decide (n=31)||decide (n=32)
theorem DT (n:Int):Pure pg 148 #[I n] (B (decide (n>=1)&&decide (n<=12))):=by
 intro w;refine S8.1 λ_=>?_;have hs:=ai.init w;repeat' first|refine aq ?_;intros|refine dg ?_ ?_<;>intros|(with_reducible refine fE hs ?_);simp_all<;>omega
theorem abG (n:Int):Pure pg 97 #[I n] (B (R9 n)):=by
 intro w;refine Zs.1 λ_=>?_;have hs:=ai.init w;repeat' first|refine aq ?_;intros|refine dg ?_ ?_<;>intros|(refine kG (DT _) hs ?_ ?_<;>intro _ w X hs)|(with_reducible refine fE hs ?_);simp_all [R9]<;>omega
structure cJ.at (w:World) (X:XS) (m:cJ) (vk vs vw vp vr vc vh vd:Value):Prop where
 keys:Sl w X 1 vk (m.keys.map S1)
 seen:Sl w X 7 vs (m.seen.map fg.l)
 writes:Sl w X 4 vw (m.writes.map KV.l)
 parts:Sl w X 1 vp (m.parts.map I1)
 ranges:Sl w X 4 vr (m.ranges.map fe.l)
 bw:eY w X 29 vc Rec.rd m.bw
 iA:ri w X vh m.state.iA
 ia:qZ w X vd m.state.ia
def cJ.at.mv {m:cJ} {vk vs vc:Value} (h:m.at w X vk vs vw vp vr vc vh vd) (v:Mv X w Y w'):m.at w' Y vk vs vw vp vr vc vh vd:=
 ⟨h.keys.mv v,h.seen.mv v,h.writes.mv v,h.parts.mv v,h.ranges.mv v,eY.mv h.bw Rec.mv v,eY.mv h.iA kM.mv v,eY.mv h.ia gy.mv v⟩
def cJ.rd (w:World) (X:XS) (l:List Value) (m:cJ):Prop:= ∃vk vs vw vp vr vc vh vd,l=m.l vk vs vw vp vr vc vh vd/\m.at w X vk vs vw vp vr vc vh vd
def cJ.mv:GF cJ.rd:=λ⟨vk,vs,vw,vp,vr,vc,vh,vd,h,h1⟩ m=>⟨vk,vs,vw,vp,vr,vc,vh,vd,h,h1.mv m⟩
theorem HC {xs:List BA} (ha:Sl w X 1 a (xs.map S1)):
  Ct pg 214 #[a] w X nX λv _ _=>v=B (yN xs):=by
 intro w0 hk;replace ha:=ha.mv hk.cE;have lh:=ha.gV;refine Zz.1 λhs=>?_;repeat' refine aq ?_;intros
 refine fY (λn a w X=> ∃i:Nat,a=I (i:Nat)/\n=(xs).length-i/\i<=(xs).length/\ai (bP w0) w0 X w/\chain iN zK none xs=chain iN zK (uR xs i) (xs.drop i)) (xs).length ⟨0,rfl,rfl,ak _,hs,by simp[uR]⟩ ?_;rintro n a w X ⟨i,rfl,rfl,hi,hs,hw⟩;rcases dB (xs) i with⟨cI,x,hx,hd⟩|⟨dC,hd⟩
 ·rcases Nk cI with⟨h0,hp⟩|⟨h0,y,hy,hp⟩<;>rw[hp,hd,chain] at hw<;>clear hd
  ·repeat' first|refine aI ?_;intros|(refine kG (lD _) hs ?_ ?_<;>intro _ w X hs)|(refine qr ?_;intro wa hk;simp_all [yN,rising,chain])|((with_reducible refine ey ((xs).length-(i+1)) ?_ ?_);omega;exact⟨i+1,by simp,rfl,by omega,hs,by rw[hw,rN hx];simp[*]⟩)
  ·repeat' first|refine aI ?_;intros|refine dg ?_ ?_<;>intros|(refine kG (lD _) hs ?_ ?_<;>intro _ w X hs)|(refine qr ?_;intro wa hk;simp_all [yN,rising,chain])|((with_reducible refine ey ((xs).length-(i+1)) ?_ ?_);omega;exact⟨i+1,by simp,rfl,by omega,hs,by rw[hw,rN hx];simp[*]⟩)
 ·repeat' first|refine aI ?_;intros|refine dg ?_ ?_<;>intros|(refine qr ?_;intro wa hk;simp_all [yN,rising,chain]<;>omega)
def fg.may (x:fg):Bool:=x.aU.may&&x.val.may&&!(decide (x.aU= .zero)&&decide (x.val.kind≠0))
def Iu (l:List fg):Bool:=l.all fg.may&&yN (l.map (·.key))
theorem abH {xs:List fg} (ha:Sl w X 7 a (xs.map fg.l)) (hb:xs.length<=2^40):
  Ct pg 216 #[a] w X nX λv _ _=>v=B (Iu xs):=by
 intro w0 hk;replace ha:=ha.mv hk.cE;have lh:=ha.gV;refine ZC.1 λhs=>?_;repeat' refine aq ?_;intros
 refine gM (λn a b w X=> ∃i:Nat,a=I i/\n=xs.length-i/\i<=xs.length/\ai (bP w0) w0 X w/\Own w X w0.heap.size 9 1 b (((xs.take i).map (·.key)).map S1)/\xs.all fg.may=(xs.drop i).all fg.may) xs.length ⟨0,rfl,rfl,ak _,hs,Own.nil _ _ _ _ _,by simp⟩ ?_;rintro n a b w X ⟨i,rfl,rfl,hi,hs,ho,hw⟩;rcases dB (xs) i with⟨cI,x,hx,hd⟩|⟨dC,hd⟩
 ·rw[hd,iZ] at hw;have Gg: ∀q:Bool,q=false->x.may=q->Iu xs=false:=λq hq h=>by simp[Iu,hw,h,hq]
  repeat' first|refine aI ?_;intros|refine dg ?_ ?_<;>intros|(with_reducible refine FO _ ?_ ?_ ?_);(· kernel_rfl);all_goals intros|((with_reducible apply M6);(case own=>first|assumption|exact Own.since aQ aQ);(case hs=>assumption);(case h0=>first|exact λ_ h=>h|exact gw.has);(case he=>kernel_rfl);(case hk=>rfl);(case ho=>first|rfl|assumption);(case hb=>(simp only[af,aD,aa,aJ,bL];omega));(case hl=>(simp only[af,aD,aa,aJ,bL];omega));intro acc w X aB ho hc dc;replace hs:=aB)|with_reducible apply cK|((with_reducible refine Nj (qa _) ?_ hs.has ?_ ?_);(· kernel_rfl);all_goals (intro _ w X aB;replace hs:=hs.trans aB))|((with_reducible refine Nj (mA _) ?_ hs.has ?_ ?_);(· kernel_rfl);all_goals (intro _ w X aB;replace hs:=hs.trans aB))|(refine qr ?_;intro wa hk;(exact(congrArg B (Gg false rfl (by clear Gg;grind [fg.may]))).symm))|((with_reducible refine fG ((xs).length-(i+1)) ?_ ?_);omega;exact⟨i+1,by simp,rfl,by omega,hs,by rw[bW,hx];simp only[mw,aC,bh,List.map_nil];(first|exact Own.since ho aQ|exact Own.since (Own.since ho aQ) aQ),by rw[hw];clear Gg;grind [fg.may]⟩)
 ·rw[hd] at hw;rw[az dC] at ho;repeat' first|refine aI ?_;intros|(refine qr ?_;intro wa hk;(rename_i h;simp[Iu,hw,h]))|(refine qL (HC  (Own.sl ho)) hs ?_ ?_<;>intro _ w X hs)
theorem Ty (ha:Sl w X 4 a (xs.map KV.l)) (hb:xs.length<=2^40):
  Ct pg 217 #[a] w X nX λv _ _=>v=B (Mz xs):=by
 intro w0 hk;replace ha:=ha.mv hk.cE;have lh:=ha.gV;refine RG.1 λhs=>?_;repeat' refine aq ?_;intros
 refine gM (λn a b w X=> ∃i:Nat,a=I i/\n=xs.length-i/\i<=xs.length/\ai (bP w0) w0 X w/\Own w X w0.heap.size 9 1 b (((xs.take i).map (·.key)).map S1)/\xs.all (·.val.may)=(xs.drop i).all (·.val.may)) xs.length ⟨0,rfl,rfl,ak _,hs,Own.nil _ _ _ _ _,by simp⟩ ?_;rintro n a b w X ⟨i,rfl,rfl,hi,hs,ho,hw⟩;rcases dB (xs) i with⟨cI,x,hx,hd⟩|⟨dC,hd⟩
 ·rw[hd,iZ] at hw;have Gg:x.val.may=false->Mz xs=false:=λh=>by simp[Mz,hw,h]
  repeat' first|refine aI ?_;intros|((with_reducible apply M6);(case own=>first|assumption|exact Own.since aQ aQ);(case hs=>assumption);(case h0=>first|exact λ_ h=>h|exact gw.has);(case he=>kernel_rfl);(case hk=>rfl);(case ho=>first|rfl|assumption);(case hb=>(simp only[af,aD,aa,aJ,bL];omega));(case hl=>(simp only[af,aD,aa,aJ,bL];omega));intro acc w X aB ho hc dc;replace hs:=aB)|((with_reducible refine Nj (mA _) ?_ hs.has ?_ ?_);(· kernel_rfl);all_goals (intro _ w X aB;replace hs:=hs.trans aB))|(refine qr ?_;intro wa hk;(exact(congrArg B (Gg aQ)).symm))|((with_reducible refine fG ((xs).length-(i+1)) ?_ ?_);omega;exact⟨i+1,by simp,rfl,by omega,hs,by rw[bW,hx];simp only[mw,aC,bh,List.map_nil];exact Own.since ho aQ,by rw[hw];clear Gg;simp[*]⟩)
 ·rw[hd] at hw;rw[az dC] at ho;repeat' first|refine aI ?_;intros|(refine qr ?_;intro wa hk;(rename_i h;simp[Mz,hw,h]))|(refine qL (HC  (Own.sl ho)) hs ?_ ?_<;>intro _ w X hs)
def Nu (l:List fe):Bool:=l.all fe.may&&decide ((l.length:Int)<=12)
theorem aar {xs:List fe} (ha:Sl w X 4 a (xs.map fe.l)):
  Ct pg 287 #[a] w X nX λv _ _=>v=B (Nu xs):=by
 intro w0 hk;replace ha:=ha.mv hk.cE;have lh:=ha.gV;refine VG.1 λhs=>?_;repeat' refine aq ?_;intros
 refine fY (λn a w X=> ∃i:Nat,a=I (i:Nat)/\n=(xs).length-i/\i<=(xs).length/\ai (bP w0) w0 X w/\xs.all fe.may=(xs.drop i).all fe.may) (xs).length ⟨0,rfl,rfl,ak _,hs,by simp⟩ ?_;rintro n a w X ⟨i,rfl,rfl,hi,hs,hw⟩;rcases dB (xs) i with⟨cI,x,hx,hd⟩|⟨dC,hd⟩
 ·rw[hd,iZ] at hw;repeat' first|refine aI ?_;intros|(refine kG (wJ _) hs ?_ ?_<;>intro _ w X hs)|(refine qr ?_;intro wa hk;(simp[Nu,hw, *]))|((with_reducible refine ey ((xs).length-(i+1)) ?_ ?_);omega;exact⟨i+1,by simp,rfl,by omega,hs,by rw[hw];simp[*]⟩)
 ·rw[hd] at hw;repeat' first|refine aI ?_;intros|refine dg ?_ ?_<;>intros|(refine qr ?_;intro wa hk;(simp_all [Nu]))
def codeOk (c:Int) (aas:Bool) (l:List fe):Bool:=if c=0 then aas&&decide (l=[])else decide (c>0)&&decide (c<=25)&&Nu l
theorem abI {c:Int} {aas:Bool} {xs:List fe} (ha:Sl w X 4 a (xs.map fe.l)):
  Ct pg 215 #[I c,B aas,a] w X nX λv _ _=>v=B (codeOk c aas xs):=by
 intro w0 hk;replace ha:=ha.mv hk.cE;have lh:=ha.gV;refine ZA.1 λhs=>?_;cases aas<;>
 repeat' first|refine aq ?_;intros|refine dg ?_ ?_<;>intros|with_reducible apply cK|(refine qr ?_;intro wa hk;(simp_all [codeOk]<;>omega))|(refine qL (aar  qA) hs ?_ ?_<;>intro _ w X hs)
def Nv (l:List Int) (n:Int):Bool:=l.any λx=>decide (x=n)
theorem ae6 {xs:List Int} (ha:Sl w X 1 a (xs.map I1)):
  Ct pg 219 #[a,I z] w X nX λv _ _=>v=B (Nv xs z):=by
 intro w0 hk;replace ha:=ha.mv hk.cE;have lh:=ha.gV;refine abk.1 λhs=>?_;repeat' refine aq ?_;intros
 refine fY (λn a w X=> ∃i:Nat,a=I (i:Nat)/\n=(xs).length-i/\i<=(xs).length/\ai (bP w0) w0 X w/\Nv xs z=Nv (xs.drop i) z) (xs).length ⟨0,rfl,rfl,ak _,hs,by simp⟩ ?_;rintro n a w X ⟨i,rfl,rfl,hi,hs,hw⟩;rcases dB (xs) i with⟨cI,x,hx,hd⟩|⟨dC,hd⟩
 ·rw[hd] at hw;repeat' first|refine aI ?_;intros|refine dg ?_ ?_<;>intros|(refine qr ?_;intro wa hk;(rw[hw];simp[Nv, *]))|((with_reducible refine ey ((xs).length-(i+1)) ?_ ?_);omega;exact⟨i+1,by simp,rfl,by omega,hs,by rw[hw];simp[Nv, *]⟩)
 ·rw[hd] at hw;repeat' first|refine aI ?_;intros|(refine qr ?_;intro wa hk;(rw[hw];rfl))
def Nw (l:List Rec):Bool:=l.all (λr=>decide (r.fJ=0))&&decide ((l.length:Int)<=8)
theorem aat {xs:List Rec} (ha:eY w X 29 a Rec.rd xs) (lW: ∀r∈xs,r.small) (lT: ∀r∈xs,r.err=0->(gq r).length<=2^33):
  Ct pg 150 #[a] w X nX λv _ _=>v=B (Nw xs):=by
 intro w0 hk;replace ha:=eY.mv ha Rec.mv hk.cE;have lh:=ha.len;refine Vz.1 λhs=>?_;repeat' refine aq ?_;intros
 refine fY (λn a w X=> ∃i:Nat,a=I (i:Nat)/\n=(xs).length-i/\i<=(xs).length/\ai (bP w0) w0 X w/\xs.all (λr=>decide (r.fJ=0))=(xs.drop i).all (λr=>decide (r.fJ=0))) (xs).length ⟨0,rfl,rfl,ak _,hs,by simp⟩ ?_;rintro n a w X ⟨i,rfl,rfl,hi,hs,hw⟩;rcases dB (xs) i with⟨cI,x,hx,hd⟩|⟨dC,hd⟩
 ·rw[hd,iZ] at hw;have hxm:=av hx;repeat' first|refine aI ?_;intros|((with_reducible apply ab9);assumption;(try (case hz=>rfl));(case hr=>exact qR);(try (case hz=>omega));(case ht=>kernel_rfl);(case hs=>kernel_rfl);intros)
  refine cM (DJ (r:=x) (Rec.at.mv aQ hs.mv) (lW x hxm) (lT x hxm)) kQ hs.has ?_;rintro v wa w2 X2 hq hle gC bH;replace hs:=hs.trans bH;by_cases he:x.fJ=0
  ·rw[if_neg zQ] at hq;obtain⟨vb,rfl,_⟩:=hq;repeat' first|refine aI ?_;intros|((with_reducible refine ey ((xs).length-(i+1)) ?_ ?_);omega;exact⟨i+1,by simp,rfl,by omega,hs,by rw[hw];simp[he]⟩)
  ·rw[if_pos he] at hq;subst hq;repeat' first|refine aI ?_;intros|(refine qr ?_;intro wa hk;(simp[Nw,hw,he]))
 ·rw[hd] at hw;repeat' first|refine aI ?_;intros|refine dg ?_ ?_<;>intros|(refine qr ?_;intro wa hk;(simp_all [Nw]))
theorem apu {a b:Int} (h:N (.int .i64 (max a b))):aY P X w (lB #[t,t] ty #[.int .i64 a,.int .i64 b]) N:=
 bK (λwa=>by
  simp only[lB,List.foldlM];by_cases hc:b>a
  ·have:max a b=b:=by omega
   simp[sE,hc,this]
  ·have:max a b=a:=by omega
   simp[sE,hc,this]) h
abbrev Hb (s:cn):List Value:=[I s.wall,I s.dA,I s.node]
theorem afO {node:Int} {fl:cn} (h1:1<=node) (h2:node<=63) (h3:fl.may=true):Ct pg 83 #[I node,fl.v] w X nX λv wa w'=>
  ∃cb,v= .tuple #[ptr cb 0,I 0]/\aH w' (made wa w') cb (Hb { fl with node:=node }) 259:=by
 intro w0 hk;refine aeJ.1 λhs=>?_;repeat' refine aI ?_;intros
 refine sk (qa fl) kQ hs.has λw1 X1 aB=>?_;rw[h3];replace hs:=hs.trans aB;have hz:=hs.kp.size;repeat' first|refine aq ?_;intros|(refine Oq hs ?_;intro bx w X gn aB gw hs bt)
 exact cH (gw.trans hs) λwa aL=>⟨bx,rfl,⟨⟨by omega,(bt.kp aL).lt⟩,(bt.kp aL).2⟩⟩
def cn.tL (s:cn) (gP:Int):cn×Int:=
 if max gP 0>281474976710656 then(.zero,15)else if max gP 0>s.wall then(⟨max gP 0,0,s.node⟩,0)else if s.dA>=65535 then(.zero,16)else(⟨s.wall,s.dA+1,s.node⟩,0)
abbrev IF:Nat:=259
section
variable {c : cn}
theorem ac7 {gP:Int} (h:aH w X cb (Hb c) IF) (hl:c.dA<2^60) (A8: -(2^60)<c.dA):Ct pg 161 #[ptr cb 0,I gP] w X nX λv _ _=>v= .tuple #[(c.tL gP).1.v,I (c.tL gP).2]:=by
 intro w0 hk;replace h:=h.mv hk.cE;unfold cn.tL;refine NJ.1 λhs=>?_;refine apu ?_;generalize max gP 0=p;repeat' first|refine aq ?_;intros|refine dg ?_ ?_<;>intros|with_reducible apply cK|(refine qr ?_;intro wa hk;(simp[*];try omega))
theorem V6 {t:cn} (h:aH w X cb (Hb c) IF) (ht:t.may=true):
  Ct pg 154 #[ptr cb 0,t.v] w X (· =cb) λv _ w'=>v=I 0/\aH w' (· =cb) cb (Hb (c.later ⟨t.wall,t.dA,c.node⟩)) IF:=by
 intro w0 hk;have hF:FX (· =cb) X w:=λk ah=>by subst ah;exact⟨h.1,h.lt⟩
 have hT:=hF.ft hk;replace h:=h.mv hk.cE;refine Ja.1 λ_=>?_;refine sk (qa t) kQ (λ_ h=>h) λw1 X1 aB=>?_;rw[ht];replace h:=h.since aB;have hs:=ai.fL aB.has;repeat' refine aq ?_;intros
 refine sk (OE c ⟨t.wall,t.dA,c.node⟩) kQ hs.has λw3 X3 dt=>?_;have h3:=h.since (hs.trans dt);have dU:Ft w0 (· =cb) w3 X3 (· =cb):=⟨hT.s.trans (aB.trans (hs.trans dt)),λk ah=>by subst ah;exact h3.1,λk ah=>.inl ah⟩;obtain⟨r,hr⟩: ∃r,r=c.later ⟨t.wall,t.dA,c.node⟩:=⟨_,rfl⟩;rw[<-hr];clear hr;repeat' refine aq ?_;intros
 refine Gn (o:=0) h3 zQ kQ sQ rfl rfl dU.s.has λw4 X4 c4 zy=>?_;have fR:=dU.dT (F':=(· =cb)) c4 (λk ah=>ah) λk ah=>.inl ah
 skip
 exact fR.fin λwa aL=>⟨rfl,(zy.kp aL).own⟩
end
section
variable {kb pb : Nat} {hm : List (BA × List pW)} {pm : List (bX × gy)} {low : cn}
end
def xr (a b:Int):Int:=IntKind.u32.wrap (aF IntKind.u32.bits a^^^aF IntKind.u32.bits b).toNat
def xr8 (a b:Int):Int:=IntKind.u8.wrap (aF IntKind.u8.bits a^^^aF IntKind.u8.bits b).toNat
def an (a b:Int):Int:=IntKind.u32.wrap (aF IntKind.u32.bits a&&& aF IntKind.u32.bits b).toNat
def sr (a n:Int):Int:=a.fdiv (2^min n.toNat IntKind.u32.bits)
def ng (a:Int):Int:=IntKind.u32.wrap (-a)
def nt (a:Int):Int:=xr IntKind.u32.max a
def stp (c:Int):Int:=xr (sr c 1) (an 2197175160 (ng (an c 1)))
def it:Nat->Int->Int
 |0,c=>c
 |n+1,c=>stp (it n c)
def Ea (i:Int):Int:=it 8 (IntKind.u32.wrap i)
def ae7 (l:List Nat) (c:Int):Int:=l.foldl (λ(c:Int) (x:Nat)=>it 8 (xr c (IntKind.u32.wrap x))) c
def aau (l:List Nat) (c:Int):Int:=l.foldl (λ(c:Int) (x:Nat)=>xr (sr c 8) (Ea (xr8 (IntKind.u8.wrap c) x))) c
def Lm (l:List Nat):Int:=nt (if l.length<64 then ae7 l 4294967295 else aau l 4294967295)
def Dd (l:List Nat):Nat:=(Lm l).toNat
def uD (n:Nat):List Nat:=[n % 256,n/256 % 256,n/65536 % 256,n/16777216 % 256]
def dr (p:List Nat):List Nat:=uD p.length++uD (Dd (uD p.length))++p++uD (Dd p)
theorem wrap32 (n:Int):IntKind.u32.wrap n=n % 4294967296:=by simp[IntKind.wrap,na,jZ]
theorem ajm (a b:Int):0<=xr a b/\xr a b<4294967296:=by unfold xr;rw[wrap32];omega
theorem agQ (a b:Int):0<=xr8 a b/\xr8 a b<256:=by unfold xr8;rw[M4];omega
def Sa (l:List Nat):0<=Lm l/\Lm l<4294967296:=ajm _ _
theorem QN (l:List Nat):((Dd l:Nat):Int)=Lm l:=ze (Sa l).1
theorem afz (l:List Nat):Dd l<4294967296:=by have:=QN l;have:=Sa l;omega
theorem M5 (n:Nat):(uD n).length=4:=rfl
theorem ru (p:List Nat):(dr p).length=p.length+12:=by simp only[dr,aa,M5];omega
section
variable {m : Bool} {a b : Int}
def ae8 (h:N (.int .u32 (xr a b))):aY P X w (binOp .xor t (.int .u32 a) (.int .u32 b)) N:=Si h
def apv (h:N (.int .u8 (xr8 a b))):aY P X w (binOp .xor t (.int .u8 a) (.int .u8 b)) N:=Si h
def an3 (h:N (.int .u32 (an a b))):aY P X w (binOp .and t (.int .u32 a) (.int .u32 b)) N:=MX h
def ajn (hb: ¬b<0) (h:N (.int .u32 (sr a b))):aY P X w (binOp .shr t (.int .u32 a) (.int .u64 b)) N:=Ez hb h
theorem an4 (h:N (.int .u32 (ng a))):aY P X w (bI .neg (.int .u32 a)) N:=bK (λwa=>by simp[bI,ng,Op.intArith]) h
theorem an5 (h:N (.int .u32 (nt a))):aY P X w (bI .xor (.int .u32 a)) N:=bK (λwa=>by simp[bI,nt,xr,Op.intBits,jZ]) h
theorem acw {k:IntKind} (hz:z=i) (hi:i<P.arrayLen t) (ht:P.underlying t=some (.array (P.arrayLen t) (P.elem t))) (hs:(P.info? (P.elem t)).map (·.size)=some 1) (h:N (ptr g (o+i))):
  aY P X w (Instr.indexAt t (ptr g o) (.int k z)) N:=by
 subst hz;refine bK (v:=ptr g (o+i)) (λwa=>?_) h
 show(Instr.indexAt t (.pointer (some ⟨g,o,none⟩)) _).run P wa=_
 rw[run_indexAt_array (h:=ht),if_pos zQ];cases hq:P.info? (P.elem t)with
 |none=>simp[hq] at hs
 |some inf=>
  have:inf.size=1:=by simpa [hq] using hs
  simp[sizeOf,typeInfo,hq,this,z8]
end
abbrev U4 (x:Int):Value:=.int .u32 x
theorem V7:Ct pg 324 #[] w X nX λv wa w'=>v= .agg ((dy 256).map λi:Nat=>U4 (Ea (i:Int))).toArray:=by
 intro w0 hk;refine Tf.1 λhs=>?_;have hT:Ft w0 nX w0 (bP w0) nX:=Ft.init λ_ h=>h.elim;refine Nb (l:=gG 256 (U4 0)) hs.has kQ λb w1 X1 hb aB hr=>?_;have eo:Ft w0 nX w1 X1 (λk=>k=b):=(hT.since aB).more λk ah=>by subst ah;exact .inr ⟨hr.1,hb⟩
 refine Bc (λn a _ _ w X=> ∃i:Nat,a=I (i:Nat)/\n=256-i/\i<=256/\Ft w0 nX w X (λk=>k=b)/\aH w X b (((dy i).map λi:Nat=>U4 (Ea (i:Int)))++gG (256-i) (U4 0)) 447) 256 ⟨0,rfl,rfl,ak _,eo,by simpa using hr⟩ ?_;rintro n a _ _ w X ⟨i,rfl,rfl,hi,da,jJ⟩;repeat' first|refine aq ?_;intros|refine dg ?_ ?_<;>intros
 ·refine gM (λn a c w' X'=> ∃j:Nat,a=I (j:Nat)/\c=U4 (it j (IntKind.u32.wrap i))/\n=8-j/\j<=8/\w'=w/\X'=X) 8 ⟨0,rfl,rfl,rfl,ak _,rfl,rfl⟩ ?_;rintro n a c _ _ ⟨j,rfl,rfl,rfl,hj,rfl,rfl⟩;repeat' first|refine aq ?_;intros|refine dg ?_ ?_<;>intros|(with_reducible apply ajn);omega|(with_reducible apply an3)|(with_reducible apply an4)|(with_reducible apply ae8)
  ·exact fG (8-(j+1)) zQ ⟨j+1,by simp,rfl,rfl,by omega,rfl,rfl⟩
  ·have hj8:j=8:=by omega
   subst hj8;have T7:pg.arrayLen 447=256:=by kernel_rfl
   refine acw rfl (by rw[T7];omega) kQ kQ ?_;rw[fj];refine CV jJ kQ oQ rfl rfl da.s.has λw3 X3 c DW=>?_;have dU:Ft w0 nX w3 X3 (λk=>k=b):=da.dT c (λk ah=>ah) λk ah=>.inl ah;repeat' refine aq ?_;intros
   refine xV (256-(i+1)) zQ ⟨i+1,by simp,rfl,by omega,dU,?_⟩;have e:bM (((dy i).map λi:Nat=>U4 (Ea (i:Int)))++gG (256-i) (U4 0)) i (ba (U4 (it 8 (IntKind.u32.wrap (i:Int))))).toList=((dy (i+1)).map λi:Nat=>U4 (Ea (i:Int)))++gG (256-(i+1)) (U4 0):=by
    have hl:((dy i).map λi:Nat=>U4 (Ea (i:Int))).length=i:=by simp
    rw[show 256-i=(256-(i+1))+1 by omega,List.replicate_succ];unfold bM;rw[im hl,List.range_succ,aC,List.map_singleton,ao,ao];have hd: ∀r:List Value,(((dy i).map λi:Nat=>U4 (Ea (i:Int)))++U4 0::r).drop (i+1)=r:=λr=>by
     rw[<-List.drop_drop,List.drop_left' hl];rfl
    have h1:(ba (U4 (it 8 (IntKind.u32.wrap (i:Int))))).toList=[U4 (Ea (i:Int))]:=rfl;rw[h1,bF,hd]
   rw[<-e];exact DW
 ·have hi6:i=256:=by omega
  subst hi6;have DW:aH w X b ((dy 256).map λi:Nat=>U4 (Ea (i:Int))) 447:=by simpa using jJ
  have hl:((dy 256).map λi:Nat=>U4 (Ea (i:Int))).length=256:=by simp
  generalize hL:((dy 256).map λi:Nat=>U4 (Ea (i:Int)))=L at DW hl⊢;have IW:L.all aK.one=true:=by rw[<-hL];simp;intros;rfl
  refine ac9 DW.cells (Mv.refl _ _) kQ hl ?_;refine Ym ?_;refine dM.2 ⟨by simpa [ba] using hl,dM.2 ⟨by simpa [ba] using IW,?_⟩⟩;refine agh ?_;refine dM.2 ⟨rfl,?_⟩;rw[List.drop_zero,az zQ];exact da.fin λwa aL=>rfl
theorem Vi {β:Type} (f:β->Nat->β) (l:List Nat) {x:Nat} (c:β) (h:l[i]? =some x):(l.take (i+1)).foldl f c=f ((l.take i).foldl f c) x:=by
 rw[bW,h];simp
theorem CO {l:List Nat} (h:Sl w X 1 vb (l.map U1)):Ct pg 254 #[vb] w X nX λv wa w'=>v=U4 (Lm l):=by
 intro w0 hk;replace h:=h.mv hk.cE;have hlen:=h.gV;refine ZF.1 λhs=>?_;repeat' first|refine aq ?_;intros|refine dg ?_ ?_<;>intros
 ·have h64:l.length<64:=by omega
  refine Bc (λn a _ c w X=> ∃i:Nat,a=I (i:Nat)/\c=U4 (ae7 (l.take i) 4294967295)/\n=l.length-i/\i<=l.length/\ai (bP w0) w0 X w) l.length ⟨0,rfl,rfl,rfl,ak _,hs⟩ ?_;clear hs;rintro n a _ _ w X ⟨i,rfl,rfl,rfl,hi,hs⟩;rcases dB l i with⟨cI,x,hx,hd⟩|⟨dC,hd⟩
  ·repeat' first|refine aI ?_;intros|(with_reducible apply ae8)
   refine gM (λn a c w' X'=> ∃j:Nat,a=I (j:Nat)/\c=U4 (it j (xr (ae7 (l.take i) 4294967295) (IntKind.u32.wrap x)))/\n=8-j/\j<=8/\w'=w/\X'=X) 8 ⟨0,rfl,rfl,rfl,ak _,rfl,rfl⟩ ?_;rintro n a c _ _ ⟨j,rfl,rfl,rfl,hj,rfl,rfl⟩;repeat' first|refine aq ?_;intros|refine dg ?_ ?_<;>intros|(with_reducible apply ajn);omega|(with_reducible apply an3)|(with_reducible apply an4)|(with_reducible apply ae8)
   ·exact fG (8-(j+1)) zQ ⟨j+1,by simp,rfl,rfl,by omega,rfl,rfl⟩
   ·have hj8:j=8:=by omega
    subst hj8;refine xV (l.length-(i+1)) zQ ⟨i+1,by simp,?_,rfl,by omega,hs⟩;unfold ae7;rw[Vi _ l _ hx]
  ·have lU:i=l.length:=by omega
   subst lU;repeat' first|refine aI ?_;intros|(with_reducible apply an5)|(refine qr ?_;intro wa hk;(rw[Lm,if_pos h64,ke]))
 ·have h64: ¬l.length<64:=by omega
  refine cM V7 kQ hs.has ?_;rintro _ wa w1 X1 rfl hle gC aB;replace hs:=hs.trans aB;refine Nb (l:=gG 256 (U4 0)) hs.has kQ λb w2 X2 hb bH hr=>?_;have uH:=hs.trans bH;have hT:Ft w0 nX w2 X2 (λk=>k=b):=((Ft.init (w:=w0) (F0:=nX) λ_ h=>h.elim).since uH).more λk ah=>by subst ah;exact .inr ⟨hr.1,by have:=hs.kp.size;omega⟩
  have hl:((dy 256).map λi:Nat=>U4 (Ea (i:Int))).length=256:=by simp
  have DB: ∀i:Nat,i<256->((dy 256).map λi:Nat=>U4 (Ea (i:Int)))[i]? =some (U4 (Ea (i:Int))):=λi hi=>by simp[hi]
  have IW:((dy 256).map λi:Nat=>U4 (Ea (i:Int))).all aK.one=true:=by simp;intros;rfl
  generalize ((dy 256).map λi:Nat=>U4 (Ea (i:Int)))=L at hl DB IW⊢;refine CV hr kQ sQ (by simpa [ba] using hl) (by simpa [ba] using IW) hT.s.has λw3 X3 c DW=>?_;have dU:Ft w0 nX w3 X3 (λk=>k=b):=hT.dT c (λk ah=>ah) λk ah=>.inl ah;have e:bM (gG 256 (U4 0)) 0 (ba (.agg L.toArray)).toList=L:=by
   unfold bM;simp[ba,hl]
  rw[e] at DW;have dt:ai (bP w0) w0 X3 w3:=⟨⟨dU.s.kp.os,dU.s.kp.tape,dU.s.kp.output,dU.s.kp.size,λk ah=>dU.s.kp.block k ⟨ah,λh=>h.elim⟩⟩,λk ah=>dU.s.sub k ⟨ah,λh=>h.elim⟩,dU.s.has⟩;clear hs uH;have hs:=dt;repeat' refine aq ?_;intros
  refine gM (λn a c w X=> ∃i:Nat,a=I (i:Nat)/\c=U4 (aau (l.take i) 4294967295)/\n=l.length-i/\i<=l.length/\w=w3/\X=X3) l.length ⟨0,rfl,rfl,rfl,ak _,rfl,rfl⟩ ?_;rintro n a _ _ _ ⟨i,rfl,rfl,rfl,hi,rfl,rfl⟩;rcases dB l i with⟨cI,x,hx,hd⟩|⟨dC,hd⟩
  ·repeat' first|refine aI ?_;intros|(with_reducible apply ajn);omega|(with_reducible apply apv)
   have hrg:=agQ (IntKind.u8.wrap (aau (l.take i) 4294967295)) x;obtain⟨q,hq⟩: ∃q:Nat,xr8 (IntKind.u8.wrap (aau (l.take i) 4294967295)) x=(q:Int):=⟨_,(ze hrg.1).symm⟩;have T7:pg.arrayLen 447=256:=by kernel_rfl
   refine acw hq (by rw[T7];omega) kQ kQ ?_;rw[fj];have T8:=DW.cells.Wq (DB q zQ);rw[fj] at T8;repeat' first|refine aq ?_;intros|(with_reducible apply ae8)
   refine fG (l.length-(i+1)) zQ ⟨i+1,by simp,?_,rfl,by omega,rfl,rfl⟩;unfold aau;rw[Vi _ l _ hx,<-hq];rfl
  ·have lU:i=l.length:=by omega
   subst lU;repeat' first|refine aI ?_;intros|(with_reducible apply an5)|(refine qr ?_;intro wa hk;(rw[Lm,if_neg h64,ke]))
theorem ae9 {u:Nat} (k:Nat) (hk:k<=32) (h:N (.int .u32 ((u/2^k:Nat):Int))):aY P X w (binOp .shr t (.int .u32 (u:Int)) (.int .u64 (k:Int))) N:=by
 refine Ez zQ ?_;have e:((u:Int)).fdiv (2^min ((k:Int)).toNat IntKind.u32.bits)=((u/2^k:Nat):Int):=by
  rw[show min ((k:Int)).toNat IntKind.u32.bits=k by simp[na];omega];rw[Int.fdiv_eq_ediv_of_nonneg _ (by exact_mod_cast ak _)]
  norm_cast
 rw[e];exact h
theorem apw (a b c d:Int):Instr.fill (λi=>some (i*1,1)) ((Array.range (4*1)).map ((Value.int .u8 0).cells[· % (Value.int .u8 0).cells.size]!)) [(0,.int .u8 a),(1,.int .u8 b),(2,.int .u8 c),(3,.int .u8 d)]=some #[.int .u8 a,.int .u8 b,.int .u8 c,.int .u8 d]:=by kernel_rfl
theorem HD {n:Nat} (h:Ow w F 5 1 v (bs.map U1)) (hF:FX F X w) (hl:bs.length<=2^40):
  Ct pg 279 #[v,U4 n] w X F λr wa w'=> ∃F',(∀k,F' k->F k\/made wa w' k)/\Ow w' F' 5 1 r ((bs++uD n).map U1):=by
 intro w0 hk;replace h:=h.mv (hF.mv hk);have hT:=hF.ft hk;refine ZI.1 λ_=>?_;refine RU kQ kQ ?_;refine ae9 8 zQ ?_;refine RU kQ kQ ?_;refine ae9 16 zQ ?_;refine RU kQ kQ ?_;refine ae9 24 zQ ?_;refine RU kQ kQ ?_;refine Wn (bytes:=1) (rows:=(uD n).map U1) #[.int .u8 (n % 256:Nat),.int .u8 (n/256 % 256:Nat),.int .u8 (n/65536 % 256:Nat),.int .u8 (n/16777216 % 256:Nat)] (.int .u8 0) hT.s.has kQ kQ dQ dQ (apw _ _ _ _) sQ rfl rfl λs w1 X1 aB ho=>?_;have eo:=hT.since aB;refine Ru kQ aB.has ((h.mv (aB.gY hT.bg)).mono eo.bg) ho.sl (by intro r hr u hu;obtain⟨x,_,rfl⟩:=List.mem_map.1 hr;simp only[U1,ax] at hu;subst hu;rfl) (by simp[uD];omega) (by simp[uD];omega) λv' w2 X2 c kF dc=>?_;have hF2: ∀g,v'.ownBlock=some g->F g\/(X2 g/\w1.heap.size<=g):=λg hg=>by
  rcases dc with e|⟨g',e,dC⟩
  ·exact .inl (h.bg (e▸hg)).1
  ·rw[hg] at e;have:g=g':=Option.some.inj e;subst this;exact .inr ⟨(kF.bg hg).1,dC⟩
 have da:Ft w0 F w2 X2 (λk=>F k\/(X2 k/\w1.heap.size<=k)):=eo.dT c (λk ah=>(h.bg ah).1) λk ah=>ah;refine da.fin λwa aL=>⟨_,da.jv aL λ_ h=>h,?_⟩;rw[aC];exact kF.tight.mv λk ah A8=>⟨hF2 k ah,aL.block k (kF.bg ah).1⟩
def Ft.ajo {wa:World} {F':XS} (h:Ft w0 nX w' X' (λk=>F k\/made wa w' k)) (ho:Ow w' F' e k v rows) (Dg: ∀k,F' k->F k\/made wa w' k):Ow w' (D6 w0 X') e k v rows:=
 ho.mono λk hk=>⟨h.bg k (Dg k hk),(h.v k (Dg k hk)).elim (λh=>h.elim) id⟩
theorem V8 {p:List Nat} (h:Sl w X 1 vp (p.map U1)):Ct pg 199 #[vp] w X nX λv wa w'=>
  if 262144<p.length then v= .tuple #[.slice none 0 0,I 2] else∃vb,v= .tuple #[vb,I 0]/\Ow w' (made wa w') 5 1 vb ((dr p).map U1):=by
 intro w0 hk;replace h:=h.mv hk.cE;have hlen:=h.gV;refine Ta.1 λhs=>?_;repeat' first|refine aq ?_;intros|refine dg ?_ ?_<;>intros|(refine qr ?_;intro wa hk;(rw[if_pos zQ]))
 have hn: ¬262144<p.length:=by omega
 refine agm (e:=5) (k:=1) (c:=p.length+12) (bytes:=1) hs.has kQ sQ zQ zQ zQ λv0 w1 X1 aB ho=>?_;have hT:Ft w0 nX w1 X1 (D6 w0 X1):=((Ft.init (w:=w0) (F0:=nX) λ_ h=>h.elim).since aB).Pp;have hO:Ow w1 (D6 w0 X1) 5 1 v0 (([]:List Nat).map U1):=(ho.ow.tight).mono λk ah=>⟨(ho.ow.bg ah).1,(ho.ge ah).1⟩;have wy:IntKind.u32.wrap (p.length:Int)=(p.length:Nat):=by rw[wrap32];omega
 repeat' refine aq ?_;intros
 rw[wy];refine hT.call (HD hO (hT.fx λ_ h=>h) sQ) kQ (λ_ h=>h) λv1 xN w2 X2 hq hle gC da hc=>?_;obtain⟨F2,hF2,hO2⟩:=hq;have hO2:=Ft.ajo da hO2 hF2;replace da:=da.Pp;rw[List.nil_append] at hO2;refine cM (CO (hO2.sl.mono da.bg)) kQ da.s.has ?_;rintro _ zA w3 X3 rfl rn mX dt;have hO3:Ow w3 (D6 w0 X3) 5 1 v1 ((uD p.length).map U1):=(hO2.mv (dt.gY da.bg)).mono λk ah=>⟨dt.sub k ah.1,ah.2⟩;replace da:=(da.since dt).Pp;rw[<-QN];refine da.call (HD hO3 (da.fx λ_ h=>h) (by simp[uD])) kQ (λ_ h=>h) λv4 zB w4 X4 hq hle gC fR hc=>?_;obtain⟨F4,hF4,hO4⟩:=hq;have hO4:=Ft.ajo fR hO4 hF4;replace fR:=fR.Pp;have hp4:Sl w4 X4 1 vp (p.map U1):=h.mv fR.Du.mv;refine ao1 fR hO4 kQ hp4 (by intro r hr u hu;obtain⟨x,_,rfl⟩:=List.mem_map.1 hr;simp only[U1,ax] at hu;subst hu;rfl) (by simp[uD];omega) (by simp[uD];omega) λv5 w5 X5 iQ hO5 E6 _=>?_;refine cM (CO (h.mv iQ.Du.mv)) kQ iQ.s.has ?_;rintro _ wa6 w6 X6 rfl XU Lt sU;have hO6:Ow w6 (D6 w0 X6) 5 1 v5 ((uD p.length++uD (Dd (uD p.length))++p).map U1):=by
  rw[aC];exact(hO5.mv (sU.gY iQ.bg)).mono λk ah=>⟨sU.sub k ah.1,ah.2⟩
 replace iQ:=(iQ.since sU).Pp;rw[<-QN];refine iQ.call (HD hO6 (iQ.fx λ_ h=>h) (by simp[uD];omega)) kQ (λ_ h=>h) λv7 QA w7 X7 hq hle gC Dh hc=>?_;obtain⟨F7,hF7,hO7⟩:=hq
 skip
 refine Dh.Du|>λBV=>cH BV λwa aL=>?_;rw[if_neg hn];refine⟨v7,rfl,?_⟩;exact(Ft.ajo Dh hO7 hF7).mv λk ah hl=>⟨⟨ah.2,aw hl aL.size⟩,aL.block k ah.1⟩
end Go.Proofs.YtgfijddlkhkopaaGreat